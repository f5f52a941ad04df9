/- Whether a configuration may be: the document's answer. -/
import Derived.Test.YthonngjhelcpeaaGreatLN3
import Derived.Test.YthonngjhelcpeaaGreatPl
set_option linter.unusedVariables false
set_option linter.unusedSimpArgs false
namespace Go.Proofs.YthonngjhelcpeaaGreat
open Go.Proofs.YthonngjhelcpeaaGreat.Sx
set_option maxHeartbeats 16000000
set_option maxRecDepth 100000
theorem qqM (g:GW) {cs:List Value} {c:Config} (hc:qrB g cs c):OkV Tryz.prog qdG [.agg ⟨cs⟩] g (eiT (q9B c)):=by
 obtain⟨a,b,d,rfl,hl,hr,hk⟩:=hc
 obtain⟨oa,ca,rfl,a1,a2,a0,hl1⟩:=id hl
 obtain⟨ob,cb,rfl,b1,b2,b0,hr1⟩:=id hr
 obtain⟨od,cd,rfl,d1,d2,d0,hk1⟩:=id hk
 exact Ok.of_fn hm noT 0 qUG (args:=[.v (.agg ⟨[.slice oa c.listens.length ca,.slice ob c.routes.length cb,.slice od c.clusters.length cd]⟩)]) (by
  repeat((conv=>whnf);first|refine qz ?_|intro(_:Nat))
  conv=>whnf
  refine⟨Nat,fun k=>[.v (.int .i64 k)],fun k=>⟨g,[.blk 0 _ _ [.v (.slice oa c.listens.length ca),.v (.slice ob c.routes.length cb),.v (.slice od c.clusters.length cd)]],_,_⟩,fun k=>k≤c.listens.length∧Pass (qBD c.listens) c.listens k,fun k=>c.listens.length-k,qFA 0 rfl ⟨Nat.zero_le _,Pass.zero _ _⟩ rfl,?_⟩
  rintro k ⟨hkk,hp⟩
  repeat((conv=>whnf);first|refine qz ?_|intro(_:Nat))
  conv=>whnf
  refine⟨fun hlt=>?_,fun hlt=>?_⟩
  ·have h':k<c.listens.length:=by have:=of_decide_eq_true hlt;omega
   obtain⟨x,hx⟩:=qAA h'
   obtain⟨a,rfl,ec,hec,rfl,hc⟩:=hl1 k x hx
   have hit:∀ e:EI,qBD c.listens k x=some e→q9B c=some e:=fun e he=>hp.hit hx he
   repeat((conv=>whnf);first|refine qz ?_|intro(_:Nat))
   conv=>whnf
   refine⟨a,rfl,⟨by omega,by omega⟩,?_⟩
   conv=>whnf
   refine⟨_,hc 0 _ rfl,?_⟩
   repeat((conv=>whnf);first|refine qz ?_|intro(_:Nat))
   conv=>whnf
   refine .inl ⟨_,qMM _ _,?_⟩
   conv=>whnf
   refine⟨fun hn=>?_,fun hn=>?_⟩
   ·conv=>whnf
    intro g2 hg
    rw [hit (3,k) (by rw [qBD,if_neg (by simp [nb1 hn])])];rfl
   have hn:=nb0 hn
   repeat((conv=>whnf);first|refine qz ?_|intro(_:Nat))
   conv=>whnf
   refine⟨Nat,fun m=>[.v (.int .i64 m)],fun m=>⟨g,[.blk 0 _ _ [.v (.slice (some a) c.listens.length ca),.v (.slice ob c.routes.length cb),.v (.slice od c.clusters.length cd)]],_,_⟩,fun m=>m≤k∧(∀ j y,j<m→c.listens[j]?=some y→(bs y==bs x)=false),fun m=>k-m,qFA 0 rfl ⟨Nat.zero_le _,fun j y hj=>by omega⟩ rfl,?_⟩
   rintro m ⟨hmk,hq⟩
   repeat((conv=>whnf);first|refine qz ?_|intro(_:Nat))
   conv=>whnf
   refine⟨fun hml=>?_,fun hml=>?_⟩
   ·have hm':m<k:=by have:=of_decide_eq_true hml;omega
    obtain⟨y,hy⟩:=qAA (show m<c.listens.length by omega)
    obtain⟨a',ha',ecy,hecy,rfl,hcy⟩:=hl1 m y hy
    cases ha'
    repeat((conv=>whnf);first|refine qz ?_|intro(_:Nat))
    conv=>whnf
    refine⟨a,rfl,⟨by omega,by omega⟩,?_⟩
    conv=>whnf
    refine⟨_,hcy 0 _ rfl,?_⟩
    repeat((conv=>whnf);first|refine qz ?_|intro(_:Nat))
    conv=>whnf
    refine⟨a,rfl,⟨by omega,by omega⟩,?_⟩
    conv=>whnf
    refine⟨_,hc 0 _ rfl,?_⟩
    repeat((conv=>whnf);first|refine qz ?_|intro(_:Nat))
    conv=>whnf
    refine⟨fun he=>?_,fun he=>?_⟩
    ·conv=>whnf
     intro g2 hg
     rw [hit (4,k) (by rw [qBD,if_pos hn,if_pos];exact List.any_eq_true.2 ⟨y,List.mem_of_getElem? (show(c.listens.take k)[m]?=some y by rw [List.getElem?_take,if_pos hm'];exact hy),he⟩)];rfl
    ·conv=>whnf
     refine fun fr w hw=>⟨m+1,congrArg (fun z=>[Value.int .i64 z]) (wr1 hm' (Nat.le_of_lt (Nat.lt_of_lt_of_le h' a1)) a2).symm,⟨hm',?_⟩,dec hm',?_⟩
     ·intro j z hj hz
      rcases Nat.lt_or_ge j m with c1|c1
      ·exact hq j z c1 hz
      ·obtain rfl:j=m:=by omega
       rw [hy] at hz;cases hz;exact he
     ·exact hw.fit (by simp [fitL,Res.eqv,qBA,conc])
   ·conv=>whnf
    refine fun fr w hw=>⟨k+1,congrArg (fun z=>[Value.int .i64 z]) (wr1 h' a1 a2).symm,⟨h',hp.succ hx (by rw [qBD,if_pos hn,if_neg];have:=of_decide_eq_false hml;rw [hasS,any_take.2 fun j y hj=>hq j y (by omega)];simp)⟩,dec h',?_⟩
    exact hw.fit (by simp [fitL,Res.eqv,qBA,conc])
  ·conv=>whnf
   intro g2 hg
   have:=of_decide_eq_false hlt
   rw [show q9B c=none from hp.done (by omega)];rfl)
theorem q0L (g:GW) {cs:List Value} {c:Config} (hc:qrB g cs c):OkV Tryz.prog q2F [.agg ⟨cs⟩] g (eiT (qoB c)):=by
 obtain⟨a,b,d,rfl,hl,hr,hk⟩:=hc
 obtain⟨oa,ca,rfl,a1,a2,a0,hl1⟩:=id hl
 obtain⟨ob,cb,rfl,b1,b2,b0,hr1⟩:=id hr
 obtain⟨od,cd,rfl,d1,d2,d0,hk1⟩:=id hk
 exact Ok.of_fn hm noT 0 qlF (args:=[.v (.agg ⟨[.slice oa c.listens.length ca,.slice ob c.routes.length cb,.slice od c.clusters.length cd]⟩)]) (by
  repeat((conv=>whnf);first|refine qz ?_|intro(_:Nat))
  conv=>whnf
  refine⟨Nat,fun k=>[.v (.int .i64 k)],fun k=>⟨g,[.blk 0 _ _ [.v (.slice oa c.listens.length ca),.v (.slice ob c.routes.length cb),.v (.slice od c.clusters.length cd)]],_,_⟩,fun k=>k≤c.clusters.length∧Pass (qSA c.clusters) c.clusters k,fun k=>c.clusters.length-k,qFA 0 rfl ⟨Nat.zero_le _,Pass.zero _ _⟩ rfl,?_⟩
  rintro k ⟨hkk,hp⟩
  repeat((conv=>whnf);first|refine qz ?_|intro(_:Nat))
  conv=>whnf
  refine⟨fun hlt=>?_,fun hlt=>?_⟩
  ·have h':k<c.clusters.length:=by have:=of_decide_eq_true hlt;omega
   obtain⟨x,hx⟩:=qAA h'
   obtain⟨a,rfl,ec,hec,⟨hv,rfl,_,_,oh,ch,rfl,_⟩,hc⟩:=hk1 k x hx
   have hit:∀ e:EI,qSA c.clusters k x=some e→qoB c=some e:=fun e he=>hp.hit hx he
   repeat((conv=>whnf);first|refine qz ?_|intro(_:Nat))
   conv=>whnf
   refine⟨a,rfl,⟨by omega,by omega⟩,?_⟩
   conv=>whnf
   refine⟨_,⟨rfl,hc⟩,?_⟩
   repeat((conv=>whnf);first|refine qz ?_|intro(_:Nat))
   conv=>whnf
   refine .inl ⟨_,qMM _ _,?_⟩
   conv=>whnf
   refine⟨fun hn=>?_,fun hn=>?_⟩
   ·conv=>whnf
    intro g2 hg
    rw [hit (3,k) (by rw [qSA,if_neg (by simp [nb1 hn])])];rfl
   have hn:=nb0 hn
   repeat((conv=>whnf);first|refine qz ?_|intro(_:Nat))
   conv=>whnf
   refine⟨Nat,fun m=>[.v (.int .i64 m)],fun m=>⟨g,[.blk 1 _ _ [.v (.string x.name),.v (.int .i64 x.policy),.v (.int .i64 x.slots),.v (.slice oh x.health.length ch)],.blk 0 _ _ [.v (.slice oa c.listens.length ca),.v (.slice ob c.routes.length cb),.v (.slice (some a) c.clusters.length cd)]],_,_⟩,fun m=>m≤k∧(∀ (j:Nat) (y:Cluster),j<m→c.clusters[j]?=some y→(bs y.name==bs x.name)=false),fun m=>k-m,qFA 0 rfl ⟨Nat.zero_le _,fun j y hj=>by omega⟩ rfl,?_⟩
   rintro m ⟨hmk,hq⟩
   repeat((conv=>whnf);first|refine qz ?_|intro(_:Nat))
   conv=>whnf
   refine⟨fun hml=>?_,fun hml=>?_⟩
   ·have hm':m<k:=by have:=of_decide_eq_true hml;omega
    obtain⟨y,hy⟩:=qAA (show m<c.clusters.length by omega)
    obtain⟨a',ha',ecy,hecy,⟨hv2,rfl,_,_,oh2,ch2,rfl,_⟩,hcy⟩:=hk1 m y hy
    cases ha'
    repeat((conv=>whnf);first|refine qz ?_|intro(_:Nat))
    conv=>whnf
    refine⟨a,rfl,⟨by omega,by omega⟩,?_⟩
    conv=>whnf
    refine⟨_,hcy 0 _ rfl,?_⟩
    repeat((conv=>whnf);first|refine qz ?_|intro(_:Nat))
    conv=>whnf
    refine⟨fun he=>?_,fun he=>?_⟩
    ·conv=>whnf
     intro g2 hg
     rw [hit (4,k) (by rw [qSA,if_pos hn,if_pos];exact List.any_eq_true.2 ⟨y,List.mem_of_getElem? (show(c.clusters.take k)[m]?=some y by rw [List.getElem?_take,if_pos hm'];exact hy),he⟩)];rfl
    ·conv=>whnf
     refine fun fr w hw=>⟨m+1,congrArg (fun z=>[Value.int .i64 z]) (wr1 hm' (Nat.le_of_lt (Nat.lt_of_lt_of_le h' d1)) d2).symm,⟨hm',?_⟩,dec hm',?_⟩
     ·intro j z hj hz
      rcases Nat.lt_or_ge j m with c1|c1
      ·exact hq j z c1 hz
      ·obtain rfl:j=m:=by omega
       rw [hy] at hz;cases hz;exact he
     ·exact hw.fit (by simp [fitL,Res.eqv,qBA,conc])
   have hs:hasC (c.clusters.take k) x.name=false:=by
    have:=of_decide_eq_false hml;rw [hasC,any_take.2 fun j y hj=>hq j y (by omega)]
   have hp9:¬(x.policy=1∨x.policy=2)→qSA c.clusters k x=some (9,(k:Int)):=fun h=>by rw [qSA,if_pos hn,if_neg (by simp [hs]),if_neg h]
   have hp10:(x.policy=1∨x.policy=2)→¬(1≤x.slots∧x.slots≤4)→qSA c.clusters k x=some (10,(k:Int)):=fun h h2=>by rw [qSA,if_pos hn,if_neg (by simp [hs]),if_pos h,if_neg h2]
   have hp6:(x.policy=1∨x.policy=2)→(1≤x.slots∧x.slots≤4)→¬(1≤x.health.length∧x.health.length≤4)→qSA c.clusters k x=some (6,(k:Int)):=fun h h2 h3=>by rw [qSA,if_pos hn,if_neg (by simp [hs]),if_pos h,if_pos h2,if_neg h3]
   have hp0:(x.policy=1∨x.policy=2)→(1≤x.slots∧x.slots≤4)→(1≤x.health.length∧x.health.length≤4)→qSA c.clusters k x=none:=fun h h2 h3=>by rw [qSA,if_pos hn,if_neg (by simp [hs]),if_pos h,if_pos h2,if_pos h3]
   have hpn:=fun e=>hp.succ hx e
   clear hq hml hlt hp
   repeat'((conv=>whnf);first|apply qza|apply qzb|apply qzc|apply qzd|apply qze|intro(_:Nat)|refine .inl ⟨_,rfl,?_⟩|refine⟨fun _=>?_,fun _=>?_⟩|fail)
   all_goals (conv=>whnf)
   all_goals (try simp only [bne_iff_ne,ne_eq,bne_eq_false_iff_eq,decide_eq_true_eq,decide_eq_false_iff_not,Int.not_lt] at *)
   all_goals first
    | (intro g2 hg;rw [hit (9,k) (hp9 (by omega))];rfl;done)
    | (intro g2 hg;rw [hit (10,k) (hp10 (by omega) (by omega))];rfl;done)
    | (intro g2 hg;rw [hit (6,k) (hp6 (by omega) (by omega) (by omega))];rfl;done)
    | refine fun fr w hw=>⟨k+1,congrArg (fun z=>[Value.int .i64 z]) (wr1 h' d1 d2).symm,⟨h',hpn (hp0 (by omega) (by omega) (by omega))⟩,dec h',?_⟩
   all_goals (exact hw.fit (by simp [fitL,Res.eqv,qBA,conc]))
  ·conv=>whnf
   intro g2 hg
   have:=of_decide_eq_false hlt
   rw [show qoB c=none from hp.done (by omega)];rfl)
theorem qgU (g:GW) {v:Value} {l:List BA} (hl:rSl 1 rStr g v l) (s:BA):OkV Tryz.prog qHH [v,.string s] g (.int .i64 (idxI (idxO (fun x=>bs x==bs s) l))) :=
 Ok.of_fn hm noT 0 q0G (args:=[.v v,.v (.string s)]) (by
  obtain⟨oa,cap,rfl,h1,h2,h0,hr⟩:=hl
  repeat((conv=>whnf);first|refine qz ?_|intro(_:Nat))
  conv=>whnf
  refine⟨Nat,fun k=>[.v (.int .i64 k)],fun k=>⟨g,[],_,_⟩,fun k=>k≤l.length∧Pass (idxF fun x=>bs x==bs s) l k,fun k=>l.length-k,qFA 0 rfl ⟨Nat.zero_le _,Pass.zero _ _⟩ rfl,?_⟩
  rintro k ⟨hk,hp⟩
  conv=>whnf
  refine⟨fun hlt=>?_,fun hlt=>?_⟩
  ·have h':k<l.length:=by have:=of_decide_eq_true hlt;omega
   obtain⟨x,hx⟩:=qAA h'
   obtain⟨a,rfl,ec,hec,rfl,hc⟩:=hr k x hx
   conv=>whnf
   refine⟨a,rfl,⟨by omega,by omega⟩,?_⟩
   conv=>whnf
   refine⟨_,hc 0 _ rfl,?_⟩
   conv=>whnf
   refine⟨fun he=>?_,fun he=>?_⟩
   ·conv=>whnf
    intro g2 hg
    rw [qBE hp hx he]
   ·conv=>whnf
    refine fun fr w hw=>⟨k+1,congrArg (fun z=>[Value.int .i64 z]) (wr1 h' h1 h2).symm,⟨h',qAE hp hx he⟩,dec h',hw⟩
  ·conv=>whnf
   intro g2 hg
   have:=of_decide_eq_false hlt
   rw [qCD hp (by omega)])
theorem qYT (g:GW) {v:Value} {l:List Cluster} (hl:rSl 4 qtB g v l) (s:BA):OkV Tryz.prog qeG [v,.string s] g (.int .i64 (idxI (idxO (fun (x:Cluster)=>bs x.name==bs s) l))) :=
 Ok.of_fn hm noT 0 qVG (args:=[.v v,.v (.string s)]) (by
  obtain⟨oa,cap,rfl,h1,h2,h0,hr⟩:=hl
  repeat((conv=>whnf);first|refine qz ?_|intro(_:Nat))
  conv=>whnf
  refine⟨Nat,fun k=>[.v (.int .i64 k)],fun k=>⟨g,[],_,_⟩,fun k=>k≤l.length∧Pass (idxF fun (x:Cluster)=>bs x.name==bs s) l k,fun k=>l.length-k,qFA 0 rfl ⟨Nat.zero_le _,Pass.zero _ _⟩ rfl,?_⟩
  rintro k ⟨hk,hp⟩
  conv=>whnf
  refine⟨fun hlt=>?_,fun hlt=>?_⟩
  ·have h':k<l.length:=by have:=of_decide_eq_true hlt;omega
   obtain⟨x,hx⟩:=qAA h'
   obtain⟨a,rfl,ec,hec,⟨hv,rfl,_,_,_,_,rfl,_⟩,hc⟩:=hr k x hx
   conv=>whnf
   refine⟨a,rfl,⟨by omega,by omega⟩,?_⟩
   conv=>whnf
   refine⟨_,hc 0 _ rfl,?_⟩
   conv=>whnf
   refine⟨fun he=>?_,fun he=>?_⟩
   ·conv=>whnf
    intro g2 hg
    rw [qBE hp hx he]
   ·conv=>whnf
    refine fun fr w hw=>⟨k+1,congrArg (fun z=>[Value.int .i64 z]) (wr1 h' h1 h2).symm,⟨h',qAE hp hx he⟩,dec h',hw⟩
  ·conv=>whnf
   intro g2 hg
   have:=of_decide_eq_false hlt
   rw [qCD hp (by omega)])
theorem qQP {α:Type} (f:α→Bool) (l:List α):decide (idxI (idxO f l)<0)=!l.any f:=by
 rw [← qXP,← decide_not]
 exact decide_eq_decide.2 (by omega)
abbrev SmC (c:Config):Prop:=∀ r∈c.routes,r.host.size≤100∧r.path.size≤100
theorem qEO (g:GW) {cs:List Value} {c:Config} (hc:qrB g cs c) (hsm:SmC c):OkV Tryz.prog qGH [.agg ⟨cs⟩] g (eiT (qVD c)):=by
 obtain⟨a,b,d,rfl,hl,hr,hk⟩:=hc
 obtain⟨oa,ca,rfl,a1,a2,a0,hl1⟩:=id hl
 obtain⟨ob,cb,rfl,b1,b2,b0,hr1⟩:=id hr
 obtain⟨od,cd,rfl,d1,d2,d0,hk1⟩:=id hk
 exact Ok.of_fn hm noT 0 qzG (args:=[.v (.agg ⟨[.slice oa c.listens.length ca,.slice ob c.routes.length cb,.slice od c.clusters.length cd]⟩)]) (by
  repeat((conv=>whnf);first|refine qz ?_|intro(_:Nat))
  conv=>whnf
  refine⟨Nat,fun k=>[.v (.int .i64 k)],fun k=>⟨g,[.blk 0 _ _ [.v (.slice oa c.listens.length ca),.v (.slice ob c.routes.length cb),.v (.slice od c.clusters.length cd)]],_,_⟩,fun k=>k≤c.routes.length∧Pass (qTC c) c.routes k,fun k=>c.routes.length-k,qFA 0 rfl ⟨Nat.zero_le _,Pass.zero _ _⟩ rfl,?_⟩
  rintro k ⟨hkk,hp⟩
  repeat((conv=>whnf);first|refine qz ?_|intro(_:Nat))
  conv=>whnf
  refine⟨fun hlt=>?_,fun hlt=>?_⟩
  ·have h':k<c.routes.length:=by have:=of_decide_eq_true hlt;omega
   obtain⟨x,hx⟩:=qAA h'
   have hsx:=hsm x (List.mem_of_getElem? hx)
   obtain⟨a,rfl,ec,hec,rfl,hc⟩:=hr1 k x hx
   have hit:∀ e:EI,qTC c k x=some e→qVD c=some e:=fun e he=>hp.hit hx he
   repeat((conv=>whnf);first|refine qz ?_|intro(_:Nat))
   conv=>whnf
   refine⟨a,rfl,⟨by omega,by omega⟩,?_⟩
   conv=>whnf
   refine⟨_,⟨rfl,hc⟩,?_⟩
   repeat((conv=>whnf);first|refine qz ?_|intro(_:Nat))
   conv=>whnf
   refine .inl ⟨_,qgU _ hl _,?_⟩
   conv=>whnf
   refine⟨fun h1=>?_,fun h1=>?_⟩
   ·have h1:hasS c.listens x.listen=false:=by rw [qQP] at h1;exact nb1 h1
    conv=>whnf
    intro g2 hg
    rw [hit (5,k) (by rw [qTC,if_neg (by simp [h1])])];rfl
   have h1:hasS c.listens x.listen=true:=by rw [qQP] at h1;exact nb0 h1
   repeat((conv=>whnf);first|refine qz ?_|intro(_:Nat))
   conv=>whnf
   refine .inl ⟨_,qmR _ _ (by omega),?_⟩
   conv=>whnf
   refine⟨fun h2=>?_,fun h2=>?_⟩
   ·conv=>whnf
    intro g2 hg
    rw [hit (7,k) (by rw [qTC,if_pos h1,if_neg (by simp [nb1 h2])])];rfl
   have h2:=nb0 h2
   repeat((conv=>whnf);first|refine qz ?_|intro(_:Nat))
   conv=>whnf
   refine .inl ⟨_,qkV _ _,?_⟩
   conv=>whnf
   refine⟨fun h3=>?_,fun h3=>?_⟩
   ·conv=>whnf
    intro g2 hg
    rw [hit (8,k) (by rw [qTC,if_pos h1,if_pos h2,if_neg (by simp [nb1 h3])])];rfl
   have h3:=nb0 h3
   repeat((conv=>whnf);first|refine qz ?_|intro(_:Nat))
   conv=>whnf
   refine .inl ⟨_,qYT _ hk _,?_⟩
   conv=>whnf
   refine⟨fun h4=>?_,fun h4=>?_⟩
   ·have h4:hasC c.clusters x.cluster=false:=by rw [qQP] at h4;exact nb1 h4
    conv=>whnf
    intro g2 hg
    rw [hit (5,k) (by rw [qTC,if_pos h1,if_pos h2,if_pos h3,if_neg (by simp [h4])])];rfl
   have h4:hasC c.clusters x.cluster=true:=by rw [qQP] at h4;exact nb0 h4
   repeat((conv=>whnf);first|refine qz ?_|intro(_:Nat))
   conv=>whnf
   refine⟨Nat,fun m=>[.v (.int .i64 m)],fun m=>⟨g,[.blk 1 _ _ [.v (.string x.listen),.v (.string x.host),.v (.string x.path),.v (.string x.cluster)],.blk 0 _ _ [.v (.slice oa c.listens.length ca),.v (.slice (some a) c.routes.length cb),.v (.slice od c.clusters.length cd)]],_,_⟩,fun m=>m≤k∧(∀ j y,j<m→c.routes[j]?=some y→eqRt y x=false),fun m=>k-m,qFA 0 rfl ⟨Nat.zero_le _,fun j y hj=>by omega⟩ rfl,?_⟩
   rintro m ⟨hmk,hq⟩
   repeat((conv=>whnf);first|refine qz ?_|intro(_:Nat))
   conv=>whnf
   refine⟨fun hml=>?_,fun hml=>?_⟩
   ·have hm':m<k:=by have:=of_decide_eq_true hml;omega
    obtain⟨y,hy⟩:=qAA (show m<c.routes.length by omega)
    obtain⟨a',ha',ecy,hecy,rfl,hcy⟩:=hr1 m y hy
    cases ha'
    have next:eqRt y x=false→∀ j z,j<m+1→c.routes[j]?=some z→eqRt z x=false:=fun he j z hj hz=>by
     rcases Nat.lt_or_ge j m with c1|c1
     ·exact hq j z c1 hz
     ·obtain rfl:j=m:=by omega
      rw [hy] at hz;cases hz;exact he
    have hit4:eqRt y x=true→qVD c=some (4,(k:Int)):=fun he=>hit (4,k) (by rw [qTC,if_pos h1,if_pos h2,if_pos h3,if_pos h4,if_pos];exact List.any_eq_true.2 ⟨y,List.mem_of_getElem? (show(c.routes.take k)[m]?=some y by rw [List.getElem?_take,if_pos hm'];exact hy),he⟩)
    repeat((conv=>whnf);first|refine qz ?_|intro(_:Nat))
    conv=>whnf
    refine⟨a,rfl,⟨by omega,by simp;omega⟩,?_⟩
    conv=>whnf
    refine⟨_,⟨rfl,hcy⟩,?_⟩
    clear hq hp
    repeat'((conv=>whnf);first|apply qza|apply qzb|apply qzc|apply qzd|apply qze|intro(_:Nat)|refine .inl ⟨_,rfl,?_⟩|refine⟨fun _=>?_,fun _=>?_⟩|fail)
    all_goals (conv=>whnf)
    all_goals first
     | (intro g2 hg;rw [hit4 (by simp_all [eqRt])];rfl;done)
     | (refine fun fr w hw=>⟨m+1,congrArg (fun z=>[Value.int .i64 z]) (wr1 hm' (Nat.le_of_lt (Nat.lt_of_lt_of_le h' b1)) b2).symm,⟨hm',next (by simp_all [eqRt])⟩,dec hm',?_⟩;exact hw.fit (by simp [fitL,Res.eqv,qBA,conc]))
   ·conv=>whnf
    refine fun fr w hw=>⟨k+1,congrArg (fun z=>[Value.int .i64 z]) (wr1 h' b1 b2).symm,⟨h',hp.succ hx (by rw [qTC,if_pos h1,if_pos h2,if_pos h3,if_pos h4,if_neg];have:=of_decide_eq_false hml;rw [any_take.2 fun j y hj=>hq j y (by omega)];simp)⟩,dec h',?_⟩
    exact hw.fit (by simp [fitL,Res.eqv,qBA,conc])
  ·conv=>whnf
   intro g2 hg
   have:=of_decide_eq_false hlt
   rw [show qVD c=none from hp.done (by omega)];rfl)
theorem qSQ (g:GW) {cs:List Value} {c:Config} (hc:qrB g cs c) (hsm:SmC c):OkV Tryz.prog qDI [.agg ⟨cs⟩] g (eiT (qiA c)):=by
 have hc0:=hc
 obtain⟨a,b,d,rfl,hl,hr,hk⟩:=hc
 obtain⟨oa,ca,rfl,a1,a2,a0,hl1⟩:=id hl
 obtain⟨ob,cb,rfl,b1,b2,b0,hr1⟩:=id hr
 obtain⟨od,cd,rfl,d1,d2,d0,hk1⟩:=id hk
 exact Ok.of_fn hm noT 0 qtH (args:=[.v (.agg ⟨[.slice oa c.listens.length ca,.slice ob c.routes.length cb,.slice od c.clusters.length cd]⟩)]) (by
  repeat'((conv=>whnf);first|apply qza|apply qzb|apply qzc|apply qzd|apply qze|intro(_:Nat)|refine .inl ⟨_,rfl,?_⟩|refine⟨fun _=>?_,fun _=>?_⟩|fail)
  all_goals (conv=>whnf)
  all_goals (try simp only [decide_eq_true_eq,decide_eq_false_iff_not,Int.not_lt] at *)
  all_goals first
   | (intro g2 hg;rw [show qiA c=some (6,0) from by rw [qiA,show qAM c=some (6,0) from if_neg (by omega)]];rfl;done)
   | skip
  have hs:qAM c=none:=if_pos (by omega)
  obtain⟨hlistens,hv⟩|⟨e,i,hlistens,hv⟩:=qyK (q9B c)
  rotate_left
  ·have hck:qiA c=some (e,i):=by rw [qiA,hs,hlistens]
   have hne:=qsD hck
   conv=>whnf
   refine .inl ⟨_,(qqM _ hc0).to hv,?_⟩
   conv=>whnf
   refine⟨fun _=>?_,fun hx=>absurd hx (by simp;omega)⟩
   conv=>whnf
   intro g2 hg
   rw [hck];rfl
  conv=>whnf
  refine .inl ⟨_,(qqM _ hc0).to hv,?_⟩
  conv=>whnf
  refine⟨fun h=>(nomatch h),fun _=>?_⟩
  repeat((conv=>whnf);first|refine qz ?_|intro(_:Nat))
  obtain⟨hclusters,hv⟩|⟨e,i,hclusters,hv⟩:=qyK (qoB c)
  rotate_left
  ·have hck:qiA c=some (e,i):=by rw [qiA,hs,hlistens,hclusters]
   have hne:=qsD hck
   conv=>whnf
   refine .inl ⟨_,(q0L _ hc0).to hv,?_⟩
   conv=>whnf
   refine⟨fun _=>?_,fun hx=>absurd hx (by simp;omega)⟩
   conv=>whnf
   intro g2 hg
   rw [hck];rfl
  conv=>whnf
  refine .inl ⟨_,(q0L _ hc0).to hv,?_⟩
  conv=>whnf
  refine⟨fun h=>(nomatch h),fun _=>?_⟩
  repeat((conv=>whnf);first|refine qz ?_|intro(_:Nat))
  obtain⟨h0,hv⟩|⟨e,i,h0,hv⟩:=qyK (qVD c)
  ·conv=>whnf
   refine .inl ⟨_,(qEO _ hc0 hsm).to hv,?_⟩
   conv=>whnf
   intro g2 hg
   rw [show qiA c=none from by rw [qiA,hs,hlistens,hclusters,h0]];rfl
  ·conv=>whnf
   refine .inl ⟨_,(qEO _ hc0 hsm).to hv,?_⟩
   conv=>whnf
   intro g2 hg
   rw [show qiA c=some (e,i) from by rw [qiA,hs,hlistens,hclusters,h0]];rfl)
/- Whether a configuration may be: what is too big to be looked at. -/
open Go.Proofs.YthonngjhelcpeaaGreat.Sx
abbrev q8U (r:Route):List Value:=[.string r.listen,.string r.host,.string r.path,.string r.cluster]
/- Which hosts and paths are meant: the program's and the document's answers. -/
open Go.Proofs.YthonngjhelcpeaaGreat.Sx
abbrev Sm (s:BA):Prop:=s.size≤1000000
theorem qkY {s p:BA}:(cutP s p).size≤s.size:=by
 unfold cutP
 split
 ·rw [qMA,qXB,qMA s];simp
 ·exact Nat.le_refl _
theorem qxV (g:GW) (p h:BA) (hs:Sm p∧Sm h):OkV Tryz.prog qNP [.string p,.string h] g (.bool (qbK (bs p) (bs h))) :=
 Ok.of_fn hm noT 0 qrO (args:=[.v (.string p),.v (.string h)]) (by
  conv=>whnf
  refine .inl ⟨_,qQL _ _,?_⟩
  conv=>whnf
  refine⟨fun h1=>?_,fun h1=>?_⟩
  ·conv=>whnf
   intro g2 hg
   have h1':qPB (bs p)=false:=by simpa using h1
   rw [qbK,h1'];rfl
  have h1':qPB (bs p)=true:=by simpa using h1
  conv=>whnf
  refine .inl ⟨_,qvR _ _,?_⟩
  conv=>whnf
  refine⟨fun h2=>?_,fun h2=>?_⟩
  ·conv=>whnf
   intro g2 hg
   have h2':qcJ (bs h)=false:=by simpa using h2
   rw [qbK,h2'];simp
  have h2':qcJ (bs h)=true:=by simpa using h2
  conv=>whnf
  refine .inl ⟨_,qqE _ _ _,?_⟩
  conv=>whnf
  refine⟨fun h3=>?_,fun h3=>?_⟩
  ·conv=>whnf
   intro g2 hg
   have h3':(bs p==bs h)=true:=h3
   rw [qbK,h1',h2',h3'];rfl
  have h3':(bs p==bs h)=false:=h3
  conv=>whnf
  refine⟨fun h4=>?_,fun h4=>?_⟩
  ·have h4':preL [42] (bs p)=true:=h4
   have hcut:bs (cutP p ⟨#[42]⟩)=(bs p).drop 1:=qtP h4
   conv=>whnf
   refine⟨fun h5=>?_,fun h5=>?_⟩
   ·conv=>whnf
    intro g2 hg
    have h5':((bs p).drop 1==[])=true:=by rw [← hcut];exact h5
    rw [qbK,h1',h2',h3',h4',qRV,h5'];rfl
   have h5':((bs p).drop 1==[])=false:=by rw [← hcut];exact h5
   have hl:(cutP p ⟨#[42]⟩).size=((bs p).drop 1).length:=by rw [qMA,hcut]
   have hh:=qMA h
   conv=>whnf
   refine⟨fun _=>?_,fun hx=>absurd ((h4).symm.trans hx) (by decide)⟩
   conv=>whnf
   refine⟨fun h6=>?_,fun h6=>?_⟩
   ·have h6':decide (((bs p).drop 1).length<(bs h).length)=true:=by
     have:=of_decide_eq_true h6
     exact decide_eq_true (by omega)
    conv=>whnf
    refine .inl ⟨_,q2L _ _ _ ⟨by have:=hs.2;unfold Sm at this;omega,by have:=hs.1;unfold Sm at this;have:=@qkY p ⟨#[42]⟩;omega⟩,?_⟩
    conv=>whnf
    intro g2 hg
    rw [hcut,qbK,h1',h2',h3',h4',qRV,h5',h6'];rfl
   ·conv=>whnf
    intro g2 hg
    have h6':decide (((bs p).drop 1).length<(bs h).length)=false:=by
     have:=of_decide_eq_false h6
     exact decide_eq_false (by omega)
    rw [qbK,h1',h2',h3',h4',qRV,h5',h6'];rfl
  ·conv=>whnf
   refine⟨fun hx=>absurd (hx.symm.trans (h4)) (by decide),fun _=>?_⟩
   conv=>whnf
   intro g2 hg
   have h4':preL [42] (bs p)=false:=h4
   rw [qbK,h1',h2',h3',h4'];rfl)
theorem qsV (g:GW) (a b:BA) (hs:Sm a∧Sm b):OkV Tryz.prog qMP [.string a,.string b] g (.bool (qvL (bs a) (bs b))) :=
 Ok.of_fn hm noT 0 qqO (args:=[.v (.string a),.v (.string b)]) (by
  have hs1:=hs.1;have hs2:=hs.2
  unfold Sm at hs1 hs2
  conv=>whnf
  refine .inl ⟨_,quR _ _,?_⟩
  conv=>whnf
  refine⟨fun h1=>?_,fun h1=>?_⟩
  ·conv=>whnf
   intro g2 hg
   have h1':q3E (bs a)=false:=by simpa using h1
   rw [qvL,h1'];rfl
  have h1':q3E (bs a)=true:=by simpa using h1
  conv=>whnf
  refine .inl ⟨_,quR _ _,?_⟩
  conv=>whnf
  refine⟨fun h2=>?_,fun h2=>?_⟩
  ·conv=>whnf
   intro g2 hg
   have h2':q3E (bs b)=false:=by simpa using h2
   rw [qvL,h2'];simp
  have h2':q3E (bs b)=true:=by simpa using h2
  conv=>whnf
  refine .inl ⟨_,qqE _ _ _,?_⟩
  conv=>whnf
  refine⟨fun h3=>?_,fun h3=>?_⟩
  ·have h3':preL (bs b) (bs a)=true:=h3
   have hcut:=qtP h3
   conv=>whnf
   refine⟨fun h4=>?_,fun h4=>?_⟩
   ·conv=>whnf
    intro g2 hg
    have h4':((bs a).drop (bs b).length==[])=true:=by rw [← hcut];exact h4
    rw [qvL,h1',h2',h3',h4'];rfl
   have h4':((bs a).drop (bs b).length==[])=false:=by rw [← hcut];exact h4
   conv=>whnf
   refine .inl ⟨_,q2L _ _ _ ⟨by omega,by decide⟩,?_⟩
   conv=>whnf
   refine⟨fun h5=>?_,fun h5=>?_⟩
   ·conv=>whnf
    intro g2 hg
    have h5':sufL [47] (bs b)=true:=h5
    rw [qvL,h1',h2',h3',h4',h5'];rfl
   have h5':sufL [47] (bs b)=false:=h5
   have hne:(bs a).drop (bs b).length≠[]:=by simpa using h4'
   obtain⟨c,hc⟩:∃ c,((bs a).drop (bs b).length)[0]?=some c:=qAA (List.length_pos_iff.2 hne)
   conv=>whnf
   refine⟨c,⟨by omega,by show(bs (cutP a b))[0]?=_;rw [hcut];exact hc⟩,?_⟩
   conv=>whnf
   intro g2 hg
   rw [qvL,h1',h2',h3',h4',h5',List.head?_eq_getElem?,hc]
   simp only [Bool.true_and,Bool.false_or]
   refine congrArg Value.bool ?_
   rw [Bool.eq_iff_iff]
   simp only [beq_iff_eq,Option.some.injEq]
   exact⟨fun h=>UInt8.toNat_inj.1 (by show c.toNat=47;omega),fun h=>by rw [h];rfl⟩
  ·conv=>whnf
   intro g2 hg
   have h3':preL (bs b) (bs a)=false:=h3
   rw [qvL,h1',h2',h3'];rfl)
theorem qUQ (g:GW) (p:BA):OkV Tryz.prog qkN [.string p] g (.int .i64 (q4A (bs p))) :=
 Ok.of_fn hm noT 0 qYN (args:=[.v (.string p)]) (by
  conv=>whnf
  refine .inl ⟨_,qQL _ _,?_⟩
  conv=>whnf
  refine⟨fun h1=>?_,fun h1=>?_⟩
  ·conv=>whnf
   intro g2 hg
   have h1':qPB (bs p)=false:=by simpa using h1
   rw [q4A,h1'];rfl
  have h1':qPB (bs p)=true:=by simpa using h1
  conv=>whnf
  refine .inl ⟨_,qqE _ _ _,?_⟩
  conv=>whnf
  refine⟨fun h2=>?_,fun h2=>?_⟩
  ·conv=>whnf
   intro g2 hg
   have h2':preL [42,46] (bs p)=true:=h2
   rw [q4A,h1',h2',qMA,qtP h2];rfl
  have h2':preL [42,46] (bs p)=false:=h2
  conv=>whnf
  refine⟨fun h3=>?_,fun h3=>?_⟩
  ·conv=>whnf
   intro g2 hg
   have h3':(bs p==[42])=true:=h3
   rw [q4A,h1',h2',h3'];rfl
  ·conv=>whnf
   intro g2 hg
   have h3':(bs p==[42])=false:=h3
   rw [q4A,h1',h2',h3'];rfl)
theorem qjU (g:GW) (a p b q:BA):OkV Tryz.prog qlN [.string a,.string p,.string b,.string q] g (.bool (qqL (bs a) (bs p) (bs b) (bs q))) :=
 Ok.of_fn hm noT 0 qZN (args:=[.v (.string a),.v (.string p),.v (.string b),.v (.string q)]) (by
  conv=>whnf
  refine .inl ⟨_,qUQ _ _,?_⟩
  conv=>whnf
  refine .inl ⟨_,qUQ _ _,?_⟩
  conv=>whnf
  refine⟨fun h1=>?_,fun h1=>?_⟩
  ·conv=>whnf
   intro g2 hg
   rw [qqL,h1];rfl
  ·conv=>whnf
   intro g2 hg
   rw [qqL,h1,qMA p,qMA q]
   simp)
/- Which rule a request goes by: the program's and the document's answers. -/
open Go.Proofs.YthonngjhelcpeaaGreat.Sx
abbrev qSX (r:Rule):List Value:=[.int .i64 r.listen,.string r.host,.string r.path,.int .i64 r.cluster]
abbrev SmR (r:Rule):Prop:=Sm r.host∧Sm r.path
theorem qEX (g:GW) (r:Rule) (n:Int) (h p:BA) (hs:SmR r∧Sm h∧Sm p):OkV Tryz.prog qIP [.agg ⟨qSX r⟩,.int .i64 n,.string h,.string p] g (.bool (fitR n h p r)) :=
 Ok.of_fn hm noT 0 qjO (args:=[.v (.agg ⟨qSX r⟩),.v (.int .i64 n),.v (.string h),.v (.string p)]) (by
  repeat'((conv=>whnf);first|apply qza|apply qzb|apply qzc|apply qzd|apply qze|intro(_:Nat)|refine .inl ⟨_,qxV _ _ _ ⟨hs.1.1,hs.2.1⟩,?_⟩|refine .inl ⟨_,qsV _ _ _ ⟨hs.2.2,hs.1.2⟩,?_⟩|refine⟨fun _=>?_,fun _=>?_⟩|fail)
  all_goals (conv=>whnf)
  all_goals (intro g2 hg)
  all_goals (rename_i h1;simp only [fitR];simp_all))
def tR:List (Nat×FnI):=[(qCM,qPG),(qRK,qvE)]
theorem tR_ok:qdH Tryz.prog tR:=by
 intro x hx
 simp only [tR,List.mem_cons,List.not_mem_nil,or_false] at hx
 rcases hx with rfl|rfl
 ·exact⟨_,_,q8L⟩
 ·exact⟨_,_,q3J⟩
def qZX:Option Nat→Value
 | some i=>.tuple #[.int .i64 i,.int .i64 0]
 | none=>.tuple #[.int .i64 0,.int .i64 5]
def q2N:Option Nat→Int
 | none=>-1
 | some j=>j
abbrev SmL (l:List Rule):Prop:=∀ r∈l,SmR r
theorem qkU (g:GW) {v:Value} {l:List Rule} (hl:rSl 4 qdR g v l) (n:Int) (h p:BA) (hs:SmL l∧Sm h∧Sm p) :
  OkV Tryz.prog qJP [v,.int .i64 n,.string h,.string p] g (qZX (quP (fitR n h p) l)) :=
 Ok.of_fn hm tR_ok 2 qkO (args:=[.v v,.v (.int .i64 n),.v (.string h),.v (.string p)]) (by
  obtain⟨oa,cap,rfl,h1,h2,h0,hr⟩:=hl
  repeat((conv=>whnf);first|refine qz ?_|intro(_:Nat))
  conv=>whnf
  refine⟨qeK,fun lp rr=>?_⟩
  repeat((conv=>whnf);first|refine qz ?_|intro(_:Nat))
  conv=>whnf
  refine⟨Nat,fun i=>[.v (.int .i64 i)],fun i=>⟨g,[.lp 6 lp rr .ready,.blk 5 _ _ [.v (.string p)],.blk 4 _ _ [.v (.string h)],.blk 3 _ _ [.v (.int .i64 n)],.blk 2 _ _ [.v (.slice oa l.length cap)],.blk 1 _ _ [.v (.int .i64 (q2N (qIG (fitR n h p) l i)))],.blk 0 _ _ [.v (.slice oa l.length cap)]],_,_⟩,fun i=>i≤l.length,fun i=>l.length-i,qFA 0 rfl (Nat.zero_le _) rfl,?_⟩
  intro i hi
  conv=>whnf
  refine⟨fun hlt=>?_,fun hlt=>?_⟩
  ·have h':i<l.length:=by have:=of_decide_eq_true hlt;omega
   obtain⟨r,hri⟩:=qAA h'
   obtain⟨a,rfl,ec,hec,⟨rfl,hI1,hI2⟩,hc⟩:=hr i r hri
   have hsr:=hs.1 r (List.mem_of_getElem? hri)
   have hbp:∀ b,(match qIG (fitR n h p) l i with|none=>some i|some j=>match l[j]? with|some q=>if betR r q then some i else some j|none=>some i)=b→fitR n h p r=true→qIG (fitR n h p) l (i+1)=b:=fun b hb hf=>by
    simp only [qIG,hri,hf,if_true];exact hb
   conv=>whnf
   refine⟨a,rfl,⟨by omega,by omega⟩,?_⟩
   conv=>whnf
   refine⟨qSX r,⟨rfl,hc⟩,?_⟩
   repeat((conv=>whnf);first|refine qz ?_|intro(_:Nat))
   conv=>whnf
   refine .inl ⟨_,qEX _ _ _ _ _ ⟨hsr,hs.2⟩,?_⟩
   have next:∀ (b:Option Nat),qIG (fitR n h p) l (i+1)=b→[Value.int .i64 (IntKind.i64.wrap ((i:Int)+1))]=[Value.int .i64 ((i+1:Nat):Int)]:=fun _ _=>congrArg (fun z=>[Value.int .i64 z]) (wr1 h' h1 h2)
   conv=>whnf
   refine⟨fun hf=>?_,fun hf=>?_⟩
   ·repeat((conv=>whnf);first|refine qz ?_|intro(_:Nat))
    cases hb:qIG (fitR n h p) l i with
    | none =>
     have hb1:=hbp (some i) (by rw [hb]) hf
     conv=>whnf
     refine⟨fun _=>?_,fun h=>nomatch h⟩
     repeat((conv=>whnf);first|refine qz ?_|intro(_:Nat))
     conv=>whnf
     refine fun fr w hw=>⟨i+1,(next _ hb1).symm,h',dec h',?_⟩
     exact hw.fit (by simp [fitL,Res.eqv,qBA,conc,hb1,q2N])
    | some j =>
     obtain⟨q,hq,_,hfq,_⟩:=(qsL (fit:=fitR n h p) l i hi).1 j hb
     obtain⟨a',ha',ecq,hecq,⟨rfl,_,_⟩,hcq⟩:=hr j q hq
     cases ha'
     have hjl:=(List.getElem?_eq_some_iff.1 hq).1
     conv=>whnf
     refine⟨fun hx=>absurd (of_decide_eq_true hx) (by simp only [q2N];omega),fun _=>?_⟩
     repeat((conv=>whnf);first|refine qz ?_|intro(_:Nat))
     conv=>whnf
     refine⟨a,rfl,⟨by simp only [q2N];omega,by simp only [q2N];omega⟩,?_⟩
     repeat((conv=>whnf);first|refine qz ?_|intro(_:Nat))
     conv=>whnf
     refine⟨_,hcq 1 _ rfl,?_⟩
     repeat((conv=>whnf);first|refine qz ?_|intro(_:Nat))
     conv=>whnf
     refine⟨a,rfl,⟨by simp only [q2N];omega,by simp only [q2N];omega⟩,?_⟩
     repeat((conv=>whnf);first|refine qz ?_|intro(_:Nat))
     conv=>whnf
     refine⟨_,hcq 2 _ rfl,?_⟩
     repeat((conv=>whnf);first|refine qz ?_|intro(_:Nat))
     conv=>whnf
     refine .inl ⟨_,qjU _ _ _ _ _,?_⟩
     conv=>whnf
     refine⟨fun hbt=>?_,fun hbt=>?_⟩
     ·have hb1:=hbp (some i) (by rw [hb];simp only [hq];rw [show betR r q=true from hbt];rfl) hf
      repeat((conv=>whnf);first|refine qz ?_|intro(_:Nat))
      conv=>whnf
      refine fun fr w hw=>⟨i+1,(next _ hb1).symm,h',dec h',?_⟩
      exact hw.fit (by simp [fitL,Res.eqv,qBA,conc,hb1,q2N])
     ·have hb1:=hbp (some j) (by rw [hb];simp only [hq];rw [show betR r q=false from hbt];rfl) hf
      repeat((conv=>whnf);first|refine qz ?_|intro(_:Nat))
      conv=>whnf
      refine fun fr w hw=>⟨i+1,(next _ hb1).symm,h',dec h',?_⟩
      exact hw.fit (by simp [fitL,Res.eqv,qBA,conc,hb1,q2N])
   ·conv=>whnf
    refine fun fr w hw=>⟨i+1,?_,h',dec h',?_⟩
    ·exact congrArg (fun z=>[Value.int .i64 z]) (wr1 h' h1 h2).symm
    ·have:qIG (fitR n h p) l (i+1)=qIG (fitR n h p) l i:=by simp [qIG,hri,hf]
     exact hw.fit (by simp [fitL,Res.eqv,qBA,conc,this])
  ·have hi':i=l.length:=by have:=of_decide_eq_false hlt;omega
   subst hi'
   repeat((conv=>whnf);first|refine qz ?_|intro(_:Nat))
   cases hb:qIG (fitR n h p) l l.length with
   | none =>
    conv=>whnf
    refine⟨fun _=>?_,fun h=>nomatch h⟩
    conv=>whnf
    intro g2 hg
    rw [show quP (fitR n h p) l=none from hb];rfl
   | some j =>
    conv=>whnf
    refine⟨fun hx=>absurd (of_decide_eq_true hx) (by simp only [q2N];omega),fun _=>?_⟩
    repeat((conv=>whnf);first|refine qz ?_|intro(_:Nat))
    conv=>whnf
    intro g2 hg
    rw [show quP (fitR n h p) l=some j from hb];rfl)
def qRP (r:Rule):Bool:=decide (100<r.host.size)||decide (100<r.path.size)
def bigR (l:List Rule):Bool:=decide (50<l.length)||l.any qRP
theorem qxW (g:GW) {v:Value} {l:List Rule} (hl:rSl 4 qdR g v l):OkV Tryz.prog qWK [v] g (.bool (bigR l)) :=
 Ok.of_fn hm noT 0 q8J (args:=[.v v]) (by
  obtain⟨oa,cap,rfl,h1,h2,h0,hr⟩:=hl
  repeat((conv=>whnf);first|refine qz ?_|intro(_:Nat))
  conv=>whnf
  refine⟨Nat,fun k=>[.v (.int .i64 k)],fun k=>⟨g,[],_,_⟩,fun k=>k≤l.length∧(l.take k).any qRP=false,fun k=>l.length-k,qFA 0 rfl ⟨Nat.zero_le _,rfl⟩ rfl,?_⟩
  rintro k ⟨hk,hall⟩
  conv=>whnf
  refine⟨fun hlt=>?_,fun hlt=>?_⟩
  ·have h':k<l.length:=by have:=of_decide_eq_true hlt;omega
   conv=>whnf
   refine⟨fun h50=>?_,fun h50=>?_⟩
   ·obtain⟨q,hq⟩:=qAA h'
    obtain⟨a,rfl,ecq,hecq,⟨rfl,_,_⟩,hcq⟩:=hr k q hq
    have hg:∀ b,qRP q=b→(l.take (k+1)).any qRP=b:=fun b hb=>by
     obtain⟨_,hge⟩:=List.getElem?_eq_some_iff.1 hq
     rw [List.take_succ_eq_append_getElem h',List.any_append,hall,hge]
     simp [hb]
    have hbe:qRP q=true→bigR l=true:=fun hb=>by
     rw [bigR,List.any_eq_true.2 ⟨q,List.mem_of_getElem? hq,hb⟩,Bool.or_true]
    conv=>whnf
    refine⟨a,rfl,⟨by omega,by omega⟩,?_⟩
    conv=>whnf
    refine⟨_,hcq 1 _ rfl,?_⟩
    conv=>whnf
    refine⟨fun ha=>?_,fun ha=>?_⟩
    ·conv=>whnf
     intro g2 hg
     rw [hbe (by simp at ha;simp [qRP];omega)]
    ·conv=>whnf
     refine⟨a,rfl,⟨by omega,by omega⟩,?_⟩
     conv=>whnf
     refine⟨_,hcq 2 _ rfl,?_⟩
     conv=>whnf
     refine⟨fun hb=>?_,fun hb=>?_⟩
     ·conv=>whnf
      intro g2 hg
      rw [hbe (by simp at hb;simp [qRP];omega)]
     ·conv=>whnf
      refine fun fr w hw=>⟨k+1,congrArg (fun z=>[Value.int .i64 z]) (wr1 h' h1 h2).symm,⟨h',hg _ (by simp at ha hb;simp [qRP];omega)⟩,dec h',hw⟩
   ·conv=>whnf
    intro g2 hg
    have:=of_decide_eq_false h50
    rw [bigR,decide_eq_true (show 50<l.length by omega),decide_eq_true (show(50:Int)<l.length by omega)];rfl
  ·conv=>whnf
   intro g2 hg
   have:k=l.length:=by have:=of_decide_eq_false hlt;omega
   rw [this,List.take_length] at hall
   rw [bigR,hall,Bool.or_false]
   exact congrArg Value.bool (decide_eq_decide.2 (by omega)))
/- Snapshots: what is built,and their configurations: the program's and the document's answers. -/
open Go.Proofs.YthonngjhelcpeaaGreat.Sx Go.RowKit
def tS:List (Nat×FnI):=[(qKJ,qUE),(qUL,qWF)]
theorem tS_ok:qdH Tryz.prog tS:=by
 intro x hx
 simp only [tS,List.mem_cons,List.not_mem_nil,or_false] at hx
 rcases hx with rfl|rfl
 ·exact⟨_,_,qvI⟩
 ·exact⟨_,_,q9K⟩
theorem qpR (g:GW) {v:Value} {l:List BA} (hl:rSl 1 rStr g v l) (s:BA):OkV Tryz.prog q0M [v,.string s] g (.int .i64 (idxI (idxO (fun x=>bs x==bs s) l))) :=
 Ok.of_fn hm tS_ok 2 qXM (args:=[.v v,.v (.string s)]) (by
  obtain⟨oa,cap,rfl,h1,h2,h0,hr⟩:=hl
  repeat((conv=>whnf);first|refine qz ?_|intro(_:Nat))
  conv=>whnf
  refine⟨Nat,fun k=>[.v (.int .i64 k)],fun k=>⟨g,[.blk 0 _ _ [.v (.string s)]],_,_⟩,fun k=>k≤l.length∧Pass (idxF fun x=>bs x==bs s) l k,fun k=>l.length-k,qFA 0 rfl ⟨Nat.zero_le _,Pass.zero _ _⟩ rfl,?_⟩
  rintro k ⟨hk,hp⟩
  conv=>whnf
  refine⟨fun hlt=>?_,fun hlt=>?_⟩
  ·have h':k<l.length:=by have:=of_decide_eq_true hlt;omega
   obtain⟨x,hx⟩:=qAA h'
   obtain⟨a,rfl,ec,hec,rfl,hc⟩:=hr k x hx
   conv=>whnf
   refine⟨a,rfl,⟨by omega,by omega⟩,?_⟩
   conv=>whnf
   refine⟨_,hc 0 _ rfl,?_⟩
   conv=>whnf
   refine⟨qeL,?_⟩
   repeat((conv=>whnf);first|refine qz ?_|intro(_:Nat))
   conv=>whnf
   refine⟨fun he=>?_,fun he=>?_⟩
   ·conv=>whnf
    intro g2 hg
    rw [qBE hp hx he]
   ·conv=>whnf
    refine fun fr w hw=>⟨k+1,congrArg (fun z=>[Value.int .i64 z]) (wr1 h' h1 h2).symm,⟨h',qAE hp hx he⟩,dec h',?_⟩
    exact hw.fit (by simp [fitL,Res.eqv,qBA,conc])
  ·conv=>whnf
   intro g2 hg
   have:=of_decide_eq_false hlt
   rw [qCD hp (by omega)])
theorem qMX {α:Type} {f:α→Bool} {l:List α} (h:l.length≤maxLen):InR (idxI (idxO f l)):=by
 unfold maxLen at h
 cases hi:idxO f l with
 | none=>exact⟨by decide,by decide⟩
 | some i=>have:=qNX hi;exact⟨by simp only [idxI];omega,by simp only [idxI];omega⟩
theorem qSS {α β:Type} {l:List α} {f:α→List β} {k:Nat} {x:α} (hx:l[k]?=some x):((l.take (k+1)).map f).flatten=((l.take k).map f).flatten++f x:=by
 obtain⟨h1,h2⟩:=List.getElem?_eq_some_iff.1 hx
 rw [List.take_succ_eq_append_getElem h1,h2];simp
end Go.Proofs.YthonngjhelcpeaaGreat
