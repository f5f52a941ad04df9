/- Whether a configuration may be: the document's answer. -/
import Derived.Test.YthonngjhelcpeaaGreatLN3
set_option linter.unusedVariables false
set_option linter.unusedSimpArgs false
namespace Go.Proofs.YthonngjhelcpeaaGreat
open Go.Proofs.YthonngjhelcpeaaGreat.Sx
set_option maxHeartbeats 16000000
set_option maxRecDepth 100000
theorem q3N (g:GW) {cs:List Value} {c:Config} (hc:qyB g cs c):OkV Tryz.prog qoG [.agg ⟨cs⟩] g (eiT (q5B c)):=by
 obtain⟨a,b,d,rfl,hl,hr,hk⟩:=hc
 obtain⟨oa,ca,rfl,a1,a2,a0,hl1⟩:=id hl
 obtain⟨ob,cb,rfl,b1,b2,b0,hr1⟩:=id hr
 obtain⟨od,cd,rfl,d1,d2,d0,hk1⟩:=id hk
 exact Ok.of_fn hm noT 0 qdG (args:=[.v (.agg ⟨[.slice oa c.listens.length ca,.slice ob c.routes.length cb,.slice od c.clusters.length cd]⟩)]) (by
  repeat((conv=>whnf);first|refine qz ?_|intro(_:Nat))
  conv=>whnf
  refine⟨Nat,fun k=>[.v (.int .i64 k)],fun k=>⟨g,[.blk 0 _ _ [.v (.slice oa c.listens.length ca),.v (.slice ob c.routes.length cb),.v (.slice od c.clusters.length cd)]],_,_⟩,fun k=>k≤c.listens.length∧Pass (q3C c.listens) c.listens k,fun k=>c.listens.length-k,qHA 0 rfl ⟨Nat.zero_le _,Pass.zero _ _⟩ rfl,?_⟩
  rintro k ⟨hkk,hp⟩
  repeat((conv=>whnf);first|refine qz ?_|intro(_:Nat))
  conv=>whnf
  refine⟨fun hlt=>?_,fun hlt=>?_⟩
  ·have h':k<c.listens.length:=by have:=of_decide_eq_true hlt;omega
   obtain⟨x,hx⟩:=qAA h'
   obtain⟨a,rfl,ec,hec,rfl,hc⟩:=hl1 k x hx
   have hit:∀ e:EI,q3C c.listens k x=some e→q5B c=some e:=fun e he=>hp.hit hx he
   repeat((conv=>whnf);first|refine qz ?_|intro(_:Nat))
   conv=>whnf
   refine⟨a,rfl,⟨by omega,by omega⟩,?_⟩
   conv=>whnf
   refine⟨_,hc 0 _ rfl,?_⟩
   repeat((conv=>whnf);first|refine qz ?_|intro(_:Nat))
   conv=>whnf
   refine .inl ⟨_,qUN _ _,?_⟩
   conv=>whnf
   refine⟨fun hn=>?_,fun hn=>?_⟩
   ·conv=>whnf
    intro g2 hg
    rw [hit (3,k) (by rw [q3C,if_neg (by simp [nb1 hn])])];rfl
   have hn:=nb0 hn
   repeat((conv=>whnf);first|refine qz ?_|intro(_:Nat))
   conv=>whnf
   refine⟨Nat,fun m=>[.v (.int .i64 m)],fun m=>⟨g,[.blk 0 _ _ [.v (.slice (some a) c.listens.length ca),.v (.slice ob c.routes.length cb),.v (.slice od c.clusters.length cd)]],_,_⟩,fun m=>m≤k∧(∀ j y,j<m→c.listens[j]?=some y→(bs y==bs x)=false),fun m=>k-m,qHA 0 rfl ⟨Nat.zero_le _,fun j y hj=>by omega⟩ rfl,?_⟩
   rintro m ⟨hmk,hq⟩
   repeat((conv=>whnf);first|refine qz ?_|intro(_:Nat))
   conv=>whnf
   refine⟨fun hml=>?_,fun hml=>?_⟩
   ·have hm':m<k:=by have:=of_decide_eq_true hml;omega
    obtain⟨y,hy⟩:=qAA (show m<c.listens.length by omega)
    obtain⟨a',ha',ecy,hecy,rfl,hcy⟩:=hl1 m y hy
    cases ha'
    repeat((conv=>whnf);first|refine qz ?_|intro(_:Nat))
    conv=>whnf
    refine⟨a,rfl,⟨by omega,by omega⟩,?_⟩
    conv=>whnf
    refine⟨_,hcy 0 _ rfl,?_⟩
    repeat((conv=>whnf);first|refine qz ?_|intro(_:Nat))
    conv=>whnf
    refine⟨a,rfl,⟨by omega,by omega⟩,?_⟩
    conv=>whnf
    refine⟨_,hc 0 _ rfl,?_⟩
    repeat((conv=>whnf);first|refine qz ?_|intro(_:Nat))
    conv=>whnf
    refine⟨fun he=>?_,fun he=>?_⟩
    ·conv=>whnf
     intro g2 hg
     rw [hit (4,k) (by rw [q3C,if_pos hn,if_pos];exact List.any_eq_true.2 ⟨y,List.mem_of_getElem? (show(c.listens.take k)[m]?=some y by rw [List.getElem?_take,if_pos hm'];exact hy),he⟩)];rfl
    ·conv=>whnf
     refine fun fr w hw=>⟨m+1,congrArg (fun z=>[Value.int .i64 z]) (wr1 hm' (Nat.le_of_lt (Nat.lt_of_lt_of_le h' a1)) a2).symm,⟨hm',?_⟩,dec hm',?_⟩
     ·intro j z hj hz
      rcases Nat.lt_or_ge j m with c1|c1
      ·exact hq j z c1 hz
      ·obtain rfl:j=m:=by omega
       rw [hy] at hz;cases hz;exact he
     ·exact hw.fit (by simp [fitL,Res.eqv,qBA,conc])
   ·conv=>whnf
    refine fun fr w hw=>⟨k+1,congrArg (fun z=>[Value.int .i64 z]) (wr1 h' a1 a2).symm,⟨h',hp.succ hx (by rw [q3C,if_pos hn,if_neg];have:=of_decide_eq_false hml;rw [hasS,any_take.2 fun j y hj=>hq j y (by omega)];simp)⟩,dec h',?_⟩
    exact hw.fit (by simp [fitL,Res.eqv,qBA,conc])
  ·conv=>whnf
   intro g2 hg
   have:=of_decide_eq_false hlt
   rw [show q5B c=none from hp.done (by omega)];rfl)
theorem q6M (g:GW) {cs:List Value} {c:Config} (hc:qyB g cs c):OkV Tryz.prog qDG [.agg ⟨cs⟩] g (eiT (qmB c)):=by
 obtain⟨a,b,d,rfl,hl,hr,hk⟩:=hc
 obtain⟨oa,ca,rfl,a1,a2,a0,hl1⟩:=id hl
 obtain⟨ob,cb,rfl,b1,b2,b0,hr1⟩:=id hr
 obtain⟨od,cd,rfl,d1,d2,d0,hk1⟩:=id hk
 exact Ok.of_fn hm noT 0 qvF (args:=[.v (.agg ⟨[.slice oa c.listens.length ca,.slice ob c.routes.length cb,.slice od c.clusters.length cd]⟩)]) (by
  repeat((conv=>whnf);first|refine qz ?_|intro(_:Nat))
  conv=>whnf
  refine⟨Nat,fun k=>[.v (.int .i64 k)],fun k=>⟨g,[.blk 0 _ _ [.v (.slice oa c.listens.length ca),.v (.slice ob c.routes.length cb),.v (.slice od c.clusters.length cd)]],_,_⟩,fun k=>k≤c.clusters.length∧Pass (qWA c.clusters) c.clusters k,fun k=>c.clusters.length-k,qHA 0 rfl ⟨Nat.zero_le _,Pass.zero _ _⟩ rfl,?_⟩
  rintro k ⟨hkk,hp⟩
  repeat((conv=>whnf);first|refine qz ?_|intro(_:Nat))
  conv=>whnf
  refine⟨fun hlt=>?_,fun hlt=>?_⟩
  ·have h':k<c.clusters.length:=by have:=of_decide_eq_true hlt;omega
   obtain⟨x,hx⟩:=qAA h'
   obtain⟨a,rfl,ec,hec,⟨hv,rfl,_,_,oh,ch,rfl,_⟩,hc⟩:=hk1 k x hx
   have hit:∀ e:EI,qWA c.clusters k x=some e→qmB c=some e:=fun e he=>hp.hit hx he
   repeat((conv=>whnf);first|refine qz ?_|intro(_:Nat))
   conv=>whnf
   refine⟨a,rfl,⟨by omega,by omega⟩,?_⟩
   conv=>whnf
   refine⟨_,⟨rfl,hc⟩,?_⟩
   repeat((conv=>whnf);first|refine qz ?_|intro(_:Nat))
   conv=>whnf
   refine .inl ⟨_,qUN _ _,?_⟩
   conv=>whnf
   refine⟨fun hn=>?_,fun hn=>?_⟩
   ·conv=>whnf
    intro g2 hg
    rw [hit (3,k) (by rw [qWA,if_neg (by simp [nb1 hn])])];rfl
   have hn:=nb0 hn
   repeat((conv=>whnf);first|refine qz ?_|intro(_:Nat))
   conv=>whnf
   refine⟨Nat,fun m=>[.v (.int .i64 m)],fun m=>⟨g,[.blk 1 _ _ [.v (.string x.name),.v (.int .i64 x.policy),.v (.int .i64 x.slots),.v (.slice oh x.health.length ch)],.blk 0 _ _ [.v (.slice oa c.listens.length ca),.v (.slice ob c.routes.length cb),.v (.slice (some a) c.clusters.length cd)]],_,_⟩,fun m=>m≤k∧(∀ (j:Nat) (y:Cluster),j<m→c.clusters[j]?=some y→(bs y.name==bs x.name)=false),fun m=>k-m,qHA 0 rfl ⟨Nat.zero_le _,fun j y hj=>by omega⟩ rfl,?_⟩
   rintro m ⟨hmk,hq⟩
   repeat((conv=>whnf);first|refine qz ?_|intro(_:Nat))
   conv=>whnf
   refine⟨fun hml=>?_,fun hml=>?_⟩
   ·have hm':m<k:=by have:=of_decide_eq_true hml;omega
    obtain⟨y,hy⟩:=qAA (show m<c.clusters.length by omega)
    obtain⟨a',ha',ecy,hecy,⟨hv2,rfl,_,_,oh2,ch2,rfl,_⟩,hcy⟩:=hk1 m y hy
    cases ha'
    repeat((conv=>whnf);first|refine qz ?_|intro(_:Nat))
    conv=>whnf
    refine⟨a,rfl,⟨by omega,by omega⟩,?_⟩
    conv=>whnf
    refine⟨_,hcy 0 _ rfl,?_⟩
    repeat((conv=>whnf);first|refine qz ?_|intro(_:Nat))
    conv=>whnf
    refine⟨fun he=>?_,fun he=>?_⟩
    ·conv=>whnf
     intro g2 hg
     rw [hit (4,k) (by rw [qWA,if_pos hn,if_pos];exact List.any_eq_true.2 ⟨y,List.mem_of_getElem? (show(c.clusters.take k)[m]?=some y by rw [List.getElem?_take,if_pos hm'];exact hy),he⟩)];rfl
    ·conv=>whnf
     refine fun fr w hw=>⟨m+1,congrArg (fun z=>[Value.int .i64 z]) (wr1 hm' (Nat.le_of_lt (Nat.lt_of_lt_of_le h' d1)) d2).symm,⟨hm',?_⟩,dec hm',?_⟩
     ·intro j z hj hz
      rcases Nat.lt_or_ge j m with c1|c1
      ·exact hq j z c1 hz
      ·obtain rfl:j=m:=by omega
       rw [hy] at hz;cases hz;exact he
     ·exact hw.fit (by simp [fitL,Res.eqv,qBA,conc])
   have hs:hasC (c.clusters.take k) x.name=false:=by
    have:=of_decide_eq_false hml;rw [hasC,any_take.2 fun j y hj=>hq j y (by omega)]
   have hp9:¬(x.policy=1∨x.policy=2)→qWA c.clusters k x=some (9,(k:Int)):=fun h=>by rw [qWA,if_pos hn,if_neg (by simp [hs]),if_neg h]
   have hp10:(x.policy=1∨x.policy=2)→¬(1≤x.slots∧x.slots≤4)→qWA c.clusters k x=some (10,(k:Int)):=fun h h2=>by rw [qWA,if_pos hn,if_neg (by simp [hs]),if_pos h,if_neg h2]
   have hp6:(x.policy=1∨x.policy=2)→(1≤x.slots∧x.slots≤4)→¬(1≤x.health.length∧x.health.length≤4)→qWA c.clusters k x=some (6,(k:Int)):=fun h h2 h3=>by rw [qWA,if_pos hn,if_neg (by simp [hs]),if_pos h,if_pos h2,if_neg h3]
   have hp0:(x.policy=1∨x.policy=2)→(1≤x.slots∧x.slots≤4)→(1≤x.health.length∧x.health.length≤4)→qWA c.clusters k x=none:=fun h h2 h3=>by rw [qWA,if_pos hn,if_neg (by simp [hs]),if_pos h,if_pos h2,if_pos h3]
   have hpn:=fun e=>hp.succ hx e
   clear hq hml hlt hp
   repeat'((conv=>whnf);first|apply qza|apply qzb|apply qzc|apply qzd|apply qze|intro(_:Nat)|refine .inl ⟨_,rfl,?_⟩|refine⟨fun _=>?_,fun _=>?_⟩|fail)
   all_goals (conv=>whnf)
   all_goals (try simp only [bne_iff_ne,ne_eq,bne_eq_false_iff_eq,decide_eq_true_eq,decide_eq_false_iff_not,Int.not_lt] at *)
   all_goals first
    | (intro g2 hg;rw [hit (9,k) (hp9 (by omega))];rfl;done)
    | (intro g2 hg;rw [hit (10,k) (hp10 (by omega) (by omega))];rfl;done)
    | (intro g2 hg;rw [hit (6,k) (hp6 (by omega) (by omega) (by omega))];rfl;done)
    | refine fun fr w hw=>⟨k+1,congrArg (fun z=>[Value.int .i64 z]) (wr1 h' d1 d2).symm,⟨h',hpn (hp0 (by omega) (by omega) (by omega))⟩,dec h',?_⟩
   all_goals (exact hw.fit (by simp [fitL,Res.eqv,qBA,conc]))
  ·conv=>whnf
   intro g2 hg
   have:=of_decide_eq_false hlt
   rw [show qmB c=none from hp.done (by omega)];rfl)
theorem qhR (g:GW) {v:Value} {l:List BA} (hl:rSl 1 rStr g v l) (s:BA):OkV Tryz.prog qaH [v,.string s] g (.int .i64 (idxI (idxO (fun x=>bs x==bs s) l))) :=
 Ok.of_fn hm noT 0 qFH (args:=[.v v,.v (.string s)]) (by
  obtain⟨oa,cap,rfl,h1,h2,h0,hr⟩:=hl
  repeat((conv=>whnf);first|refine qz ?_|intro(_:Nat))
  conv=>whnf
  refine⟨Nat,fun k=>[.v (.int .i64 k)],fun k=>⟨g,[],_,_⟩,fun k=>k≤l.length∧Pass (idxF fun x=>bs x==bs s) l k,fun k=>l.length-k,qHA 0 rfl ⟨Nat.zero_le _,Pass.zero _ _⟩ rfl,?_⟩
  rintro k ⟨hk,hp⟩
  conv=>whnf
  refine⟨fun hlt=>?_,fun hlt=>?_⟩
  ·have h':k<l.length:=by have:=of_decide_eq_true hlt;omega
   obtain⟨x,hx⟩:=qAA h'
   obtain⟨a,rfl,ec,hec,rfl,hc⟩:=hr k x hx
   conv=>whnf
   refine⟨a,rfl,⟨by omega,by omega⟩,?_⟩
   conv=>whnf
   refine⟨_,hc 0 _ rfl,?_⟩
   conv=>whnf
   refine⟨fun he=>?_,fun he=>?_⟩
   ·conv=>whnf
    intro g2 hg
    rw [qGE hp hx he]
   ·conv=>whnf
    refine fun fr w hw=>⟨k+1,congrArg (fun z=>[Value.int .i64 z]) (wr1 h' h1 h2).symm,⟨h',qFE hp hx he⟩,dec h',hw⟩
  ·conv=>whnf
   intro g2 hg
   have:=of_decide_eq_false hlt
   rw [q4C hp (by omega)])
theorem qkU (g:GW) {v:Value} {l:List Cluster} (hl:rSl 4 qIB g v l) (s:BA):OkV Tryz.prog qpG [v,.string s] g (.int .i64 (idxI (idxO (fun (x:Cluster)=>bs x.name==bs s) l))) :=
 Ok.of_fn hm noT 0 qeG (args:=[.v v,.v (.string s)]) (by
  obtain⟨oa,cap,rfl,h1,h2,h0,hr⟩:=hl
  repeat((conv=>whnf);first|refine qz ?_|intro(_:Nat))
  conv=>whnf
  refine⟨Nat,fun k=>[.v (.int .i64 k)],fun k=>⟨g,[],_,_⟩,fun k=>k≤l.length∧Pass (idxF fun (x:Cluster)=>bs x.name==bs s) l k,fun k=>l.length-k,qHA 0 rfl ⟨Nat.zero_le _,Pass.zero _ _⟩ rfl,?_⟩
  rintro k ⟨hk,hp⟩
  conv=>whnf
  refine⟨fun hlt=>?_,fun hlt=>?_⟩
  ·have h':k<l.length:=by have:=of_decide_eq_true hlt;omega
   obtain⟨x,hx⟩:=qAA h'
   obtain⟨a,rfl,ec,hec,⟨hv,rfl,_,_,_,_,rfl,_⟩,hc⟩:=hr k x hx
   conv=>whnf
   refine⟨a,rfl,⟨by omega,by omega⟩,?_⟩
   conv=>whnf
   refine⟨_,hc 0 _ rfl,?_⟩
   conv=>whnf
   refine⟨fun he=>?_,fun he=>?_⟩
   ·conv=>whnf
    intro g2 hg
    rw [qGE hp hx he]
   ·conv=>whnf
    refine fun fr w hw=>⟨k+1,congrArg (fun z=>[Value.int .i64 z]) (wr1 h' h1 h2).symm,⟨h',qFE hp hx he⟩,dec h',hw⟩
  ·conv=>whnf
   intro g2 hg
   have:=of_decide_eq_false hlt
   rw [q4C hp (by omega)])
theorem qgQ {α:Type} (f:α→Bool) (l:List α):decide (idxI (idxO f l)<0)=!l.any f:=by
 rw [← qmQ,← decide_not]
 exact decide_eq_decide.2 (by omega)
abbrev SmC (c:Config):Prop:=∀ r∈c.routes,r.host.size≤100∧r.path.size≤100
theorem qRP (g:GW) {cs:List Value} {c:Config} (hc:qyB g cs c) (hsm:SmC c):OkV Tryz.prog qZH [.agg ⟨cs⟩] g (eiT (qPD c)):=by
 obtain⟨a,b,d,rfl,hl,hr,hk⟩:=hc
 obtain⟨oa,ca,rfl,a1,a2,a0,hl1⟩:=id hl
 obtain⟨ob,cb,rfl,b1,b2,b0,hr1⟩:=id hr
 obtain⟨od,cd,rfl,d1,d2,d0,hk1⟩:=id hk
 exact Ok.of_fn hm noT 0 qEH (args:=[.v (.agg ⟨[.slice oa c.listens.length ca,.slice ob c.routes.length cb,.slice od c.clusters.length cd]⟩)]) (by
  repeat((conv=>whnf);first|refine qz ?_|intro(_:Nat))
  conv=>whnf
  refine⟨Nat,fun k=>[.v (.int .i64 k)],fun k=>⟨g,[.blk 0 _ _ [.v (.slice oa c.listens.length ca),.v (.slice ob c.routes.length cb),.v (.slice od c.clusters.length cd)]],_,_⟩,fun k=>k≤c.routes.length∧Pass (qPC c) c.routes k,fun k=>c.routes.length-k,qHA 0 rfl ⟨Nat.zero_le _,Pass.zero _ _⟩ rfl,?_⟩
  rintro k ⟨hkk,hp⟩
  repeat((conv=>whnf);first|refine qz ?_|intro(_:Nat))
  conv=>whnf
  refine⟨fun hlt=>?_,fun hlt=>?_⟩
  ·have h':k<c.routes.length:=by have:=of_decide_eq_true hlt;omega
   obtain⟨x,hx⟩:=qAA h'
   have hsx:=hsm x (List.mem_of_getElem? hx)
   obtain⟨a,rfl,ec,hec,rfl,hc⟩:=hr1 k x hx
   have hit:∀ e:EI,qPC c k x=some e→qPD c=some e:=fun e he=>hp.hit hx he
   repeat((conv=>whnf);first|refine qz ?_|intro(_:Nat))
   conv=>whnf
   refine⟨a,rfl,⟨by omega,by omega⟩,?_⟩
   conv=>whnf
   refine⟨_,⟨rfl,hc⟩,?_⟩
   repeat((conv=>whnf);first|refine qz ?_|intro(_:Nat))
   conv=>whnf
   refine .inl ⟨_,qhR _ hl _,?_⟩
   conv=>whnf
   refine⟨fun h1=>?_,fun h1=>?_⟩
   ·have h1:hasS c.listens x.listen=false:=by rw [qgQ] at h1;exact nb1 h1
    conv=>whnf
    intro g2 hg
    rw [hit (5,k) (by rw [qPC,if_neg (by simp [h1])])];rfl
   have h1:hasS c.listens x.listen=true:=by rw [qgQ] at h1;exact nb0 h1
   repeat((conv=>whnf);first|refine qz ?_|intro(_:Nat))
   conv=>whnf
   refine .inl ⟨_,qtJ _ _ (by omega),?_⟩
   conv=>whnf
   refine⟨fun h2=>?_,fun h2=>?_⟩
   ·conv=>whnf
    intro g2 hg
    rw [hit (7,k) (by rw [qPC,if_pos h1,if_neg (by simp [nb1 h2])])];rfl
   have h2:=nb0 h2
   repeat((conv=>whnf);first|refine qz ?_|intro(_:Nat))
   conv=>whnf
   refine .inl ⟨_,qNQ _ _,?_⟩
   conv=>whnf
   refine⟨fun h3=>?_,fun h3=>?_⟩
   ·conv=>whnf
    intro g2 hg
    rw [hit (8,k) (by rw [qPC,if_pos h1,if_pos h2,if_neg (by simp [nb1 h3])])];rfl
   have h3:=nb0 h3
   repeat((conv=>whnf);first|refine qz ?_|intro(_:Nat))
   conv=>whnf
   refine .inl ⟨_,qkU _ hk _,?_⟩
   conv=>whnf
   refine⟨fun h4=>?_,fun h4=>?_⟩
   ·have h4:hasC c.clusters x.cluster=false:=by rw [qgQ] at h4;exact nb1 h4
    conv=>whnf
    intro g2 hg
    rw [hit (5,k) (by rw [qPC,if_pos h1,if_pos h2,if_pos h3,if_neg (by simp [h4])])];rfl
   have h4:hasC c.clusters x.cluster=true:=by rw [qgQ] at h4;exact nb0 h4
   repeat((conv=>whnf);first|refine qz ?_|intro(_:Nat))
   conv=>whnf
   refine⟨Nat,fun m=>[.v (.int .i64 m)],fun m=>⟨g,[.blk 1 _ _ [.v (.string x.listen),.v (.string x.host),.v (.string x.path),.v (.string x.cluster)],.blk 0 _ _ [.v (.slice oa c.listens.length ca),.v (.slice (some a) c.routes.length cb),.v (.slice od c.clusters.length cd)]],_,_⟩,fun m=>m≤k∧(∀ j y,j<m→c.routes[j]?=some y→eqRt y x=false),fun m=>k-m,qHA 0 rfl ⟨Nat.zero_le _,fun j y hj=>by omega⟩ rfl,?_⟩
   rintro m ⟨hmk,hq⟩
   repeat((conv=>whnf);first|refine qz ?_|intro(_:Nat))
   conv=>whnf
   refine⟨fun hml=>?_,fun hml=>?_⟩
   ·have hm':m<k:=by have:=of_decide_eq_true hml;omega
    obtain⟨y,hy⟩:=qAA (show m<c.routes.length by omega)
    obtain⟨a',ha',ecy,hecy,rfl,hcy⟩:=hr1 m y hy
    cases ha'
    have next:eqRt y x=false→∀ j z,j<m+1→c.routes[j]?=some z→eqRt z x=false:=fun he j z hj hz=>by
     rcases Nat.lt_or_ge j m with c1|c1
     ·exact hq j z c1 hz
     ·obtain rfl:j=m:=by omega
      rw [hy] at hz;cases hz;exact he
    have hit4:eqRt y x=true→qPD c=some (4,(k:Int)):=fun he=>hit (4,k) (by rw [qPC,if_pos h1,if_pos h2,if_pos h3,if_pos h4,if_pos];exact List.any_eq_true.2 ⟨y,List.mem_of_getElem? (show(c.routes.take k)[m]?=some y by rw [List.getElem?_take,if_pos hm'];exact hy),he⟩)
    repeat((conv=>whnf);first|refine qz ?_|intro(_:Nat))
    conv=>whnf
    refine⟨a,rfl,⟨by omega,by simp;omega⟩,?_⟩
    conv=>whnf
    refine⟨_,⟨rfl,hcy⟩,?_⟩
    clear hq hp
    repeat'((conv=>whnf);first|apply qza|apply qzb|apply qzc|apply qzd|apply qze|intro(_:Nat)|refine .inl ⟨_,rfl,?_⟩|refine⟨fun _=>?_,fun _=>?_⟩|fail)
    all_goals (conv=>whnf)
    all_goals first
     | (intro g2 hg;rw [hit4 (by simp_all [eqRt])];rfl;done)
     | (refine fun fr w hw=>⟨m+1,congrArg (fun z=>[Value.int .i64 z]) (wr1 hm' (Nat.le_of_lt (Nat.lt_of_lt_of_le h' b1)) b2).symm,⟨hm',next (by simp_all [eqRt])⟩,dec hm',?_⟩;exact hw.fit (by simp [fitL,Res.eqv,qBA,conc]))
   ·conv=>whnf
    refine fun fr w hw=>⟨k+1,congrArg (fun z=>[Value.int .i64 z]) (wr1 h' b1 b2).symm,⟨h',hp.succ hx (by rw [qPC,if_pos h1,if_pos h2,if_pos h3,if_pos h4,if_neg];have:=of_decide_eq_false hml;rw [any_take.2 fun j y hj=>hq j y (by omega)];simp)⟩,dec h',?_⟩
    exact hw.fit (by simp [fitL,Res.eqv,qBA,conc])
  ·conv=>whnf
   intro g2 hg
   have:=of_decide_eq_false hlt
   rw [show qPD c=none from hp.done (by omega)];rfl)
theorem qdR (g:GW) {cs:List Value} {c:Config} (hc:qyB g cs c) (hsm:SmC c):OkV Tryz.prog qhI [.agg ⟨cs⟩] g (eiT (qiA c)):=by
 have hc0:=hc
 obtain⟨a,b,d,rfl,hl,hr,hk⟩:=hc
 obtain⟨oa,ca,rfl,a1,a2,a0,hl1⟩:=id hl
 obtain⟨ob,cb,rfl,b1,b2,b0,hr1⟩:=id hr
 obtain⟨od,cd,rfl,d1,d2,d0,hk1⟩:=id hk
 exact Ok.of_fn hm noT 0 qJI (args:=[.v (.agg ⟨[.slice oa c.listens.length ca,.slice ob c.routes.length cb,.slice od c.clusters.length cd]⟩)]) (by
  repeat'((conv=>whnf);first|apply qza|apply qzb|apply qzc|apply qzd|apply qze|intro(_:Nat)|refine .inl ⟨_,rfl,?_⟩|refine⟨fun _=>?_,fun _=>?_⟩|fail)
  all_goals (conv=>whnf)
  all_goals (try simp only [decide_eq_true_eq,decide_eq_false_iff_not,Int.not_lt] at *)
  all_goals first
   | (intro g2 hg;rw [show qiA c=some (6,0) from by rw [qiA,show qKN c=some (6,0) from if_neg (by omega)]];rfl;done)
   | skip
  have hs:qKN c=none:=if_pos (by omega)
  obtain⟨hlistens,hv⟩|⟨e,i,hlistens,hv⟩:=q5L (q5B c)
  rotate_left
  ·have hck:qiA c=some (e,i):=by rw [qiA,hs,hlistens]
   have hne:=qsD hck
   conv=>whnf
   refine .inl ⟨_,(q3N _ hc0).to hv,?_⟩
   conv=>whnf
   refine⟨fun _=>?_,fun hx=>absurd hx (by simp;omega)⟩
   conv=>whnf
   intro g2 hg
   rw [hck];rfl
  conv=>whnf
  refine .inl ⟨_,(q3N _ hc0).to hv,?_⟩
  conv=>whnf
  refine⟨fun h=>(nomatch h),fun _=>?_⟩
  repeat((conv=>whnf);first|refine qz ?_|intro(_:Nat))
  obtain⟨hclusters,hv⟩|⟨e,i,hclusters,hv⟩:=q5L (qmB c)
  rotate_left
  ·have hck:qiA c=some (e,i):=by rw [qiA,hs,hlistens,hclusters]
   have hne:=qsD hck
   conv=>whnf
   refine .inl ⟨_,(q6M _ hc0).to hv,?_⟩
   conv=>whnf
   refine⟨fun _=>?_,fun hx=>absurd hx (by simp;omega)⟩
   conv=>whnf
   intro g2 hg
   rw [hck];rfl
  conv=>whnf
  refine .inl ⟨_,(q6M _ hc0).to hv,?_⟩
  conv=>whnf
  refine⟨fun h=>(nomatch h),fun _=>?_⟩
  repeat((conv=>whnf);first|refine qz ?_|intro(_:Nat))
  obtain⟨h0,hv⟩|⟨e,i,h0,hv⟩:=q5L (qPD c)
  ·conv=>whnf
   refine .inl ⟨_,(qRP _ hc0 hsm).to hv,?_⟩
   conv=>whnf
   intro g2 hg
   rw [show qiA c=none from by rw [qiA,hs,hlistens,hclusters,h0]];rfl
  ·conv=>whnf
   refine .inl ⟨_,(qRP _ hc0 hsm).to hv,?_⟩
   conv=>whnf
   intro g2 hg
   rw [show qiA c=some (e,i) from by rw [qiA,hs,hlistens,hclusters,h0]];rfl)
/- Whether a configuration may be: what is too big to be looked at. -/
open Go.Proofs.YthonngjhelcpeaaGreat.Sx
abbrev qJW (r:Route):List Value:=[.string r.listen,.string r.host,.string r.path,.string r.cluster]
/- Which hosts and paths are meant: the program's and the document's answers. -/
open Go.Proofs.YthonngjhelcpeaaGreat.Sx
abbrev Sm (s:BA):Prop:=s.size≤1000000
theorem qrZ {s p:BA}:(cutP s p).size≤s.size:=by
 unfold cutP
 split
 ·rw [qNA,qxA,qNA s];simp
 ·exact Nat.le_refl _
theorem q9W (g:GW) (p h:BA) (hs:Sm p∧Sm h):OkV Tryz.prog qdQ [.string p,.string h] g (.bool (qkD (bs p) (bs h))) :=
 Ok.of_fn hm noT 0 q5P (args:=[.v (.string p),.v (.string h)]) (by
  conv=>whnf
  refine .inl ⟨_,qWM _ _,?_⟩
  conv=>whnf
  refine⟨fun h1=>?_,fun h1=>?_⟩
  ·conv=>whnf
   intro g2 hg
   have h1':qbA (bs p)=false:=by simpa using h1
   rw [qkD,h1'];rfl
  have h1':qbA (bs p)=true:=by simpa using h1
  conv=>whnf
  refine .inl ⟨_,q2S _ _,?_⟩
  conv=>whnf
  refine⟨fun h2=>?_,fun h2=>?_⟩
  ·conv=>whnf
   intro g2 hg
   have h2':qvD (bs h)=false:=by simpa using h2
   rw [qkD,h2'];simp
  have h2':qvD (bs h)=true:=by simpa using h2
  conv=>whnf
  refine .inl ⟨_,qzE _ _ _,?_⟩
  conv=>whnf
  refine⟨fun h3=>?_,fun h3=>?_⟩
  ·conv=>whnf
   intro g2 hg
   have h3':(bs p==bs h)=true:=h3
   rw [qkD,h1',h2',h3'];rfl
  have h3':(bs p==bs h)=false:=h3
  conv=>whnf
  refine⟨fun h4=>?_,fun h4=>?_⟩
  ·have h4':preL [42] (bs p)=true:=h4
   have hcut:bs (cutP p ⟨#[42]⟩)=(bs p).drop 1:=q5Q h4
   conv=>whnf
   refine⟨fun h5=>?_,fun h5=>?_⟩
   ·conv=>whnf
    intro g2 hg
    have h5':((bs p).drop 1==[])=true:=by rw [← hcut];exact h5
    rw [qkD,h1',h2',h3',h4',qBR,h5'];rfl
   have h5':((bs p).drop 1==[])=false:=by rw [← hcut];exact h5
   have hl:(cutP p ⟨#[42]⟩).size=((bs p).drop 1).length:=by rw [qNA,hcut]
   have hh:=qNA h
   conv=>whnf
   refine⟨fun _=>?_,fun hx=>absurd ((h4).symm.trans hx) (by decide)⟩
   conv=>whnf
   refine⟨fun h6=>?_,fun h6=>?_⟩
   ·have h6':decide (((bs p).drop 1).length<(bs h).length)=true:=by
     have:=of_decide_eq_true h6
     exact decide_eq_true (by omega)
    conv=>whnf
    refine .inl ⟨_,q8M _ _ _ ⟨by have:=hs.2;unfold Sm at this;omega,by have:=hs.1;unfold Sm at this;have:=@qrZ p ⟨#[42]⟩;omega⟩,?_⟩
    conv=>whnf
    intro g2 hg
    rw [hcut,qkD,h1',h2',h3',h4',qBR,h5',h6'];rfl
   ·conv=>whnf
    intro g2 hg
    have h6':decide (((bs p).drop 1).length<(bs h).length)=false:=by
     have:=of_decide_eq_false h6
     exact decide_eq_false (by omega)
    rw [qkD,h1',h2',h3',h4',qBR,h5',h6'];rfl
  ·conv=>whnf
   refine⟨fun hx=>absurd (hx.symm.trans (h4)) (by decide),fun _=>?_⟩
   conv=>whnf
   intro g2 hg
   have h4':preL [42] (bs p)=false:=h4
   rw [qkD,h1',h2',h3',h4'];rfl)
theorem qmV (g:GW) (p h:BA) (hs:Sm p∧Sm h):OkV Tryz.prog qjI [.string p,.string h] g (.bool (qkD (bs p) (bs h))) :=
 Ok.of_fn hm noT 0 qLI (args:=[.v (.string p),.v (.string h)]) (by
  have hs1:=hs.1;have hs2:=hs.2
  unfold Sm at hs1 hs2
  conv=>whnf
  refine .inl ⟨_,qtJ _ _ (by omega),?_⟩
  conv=>whnf
  refine⟨fun h1=>?_,fun h1=>?_⟩
  ·conv=>whnf
   intro g2 hg
   have h1':qbA (bs p)=false:=by simpa using h1
   rw [qkD,h1'];rfl
  have h1':qbA (bs p)=true:=by simpa using h1
  conv=>whnf
  refine .inl ⟨_,qVN _ _ (by omega),?_⟩
  conv=>whnf
  refine⟨fun h2=>?_,fun h2=>?_⟩
  ·conv=>whnf
   intro g2 hg
   have h2':qvD (bs h)=false:=by simpa using h2
   rw [qkD,h2'];simp
  have h2':qvD (bs h)=true:=by simpa using h2
  have hp:=qNA p;have hh:=qNA h
  have hne:=List.length_pos_iff.2 (qHJ h1')
  conv=>whnf
  refine⟨fun h3=>?_,fun h3=>?_⟩
  ·conv=>whnf
   intro g2 hg
   have h3':(bs p==[42])=true:=h3
   rw [qkD,h1',h2',qdH h1',h3'];rfl
  have h3':(bs p==[42])=false:=h3
  conv=>whnf
  refine⟨fun h4=>?_,fun h4=>?_⟩
  ·conv=>whnf
   intro g2 hg
   have h4':(bs p==bs h)=true:=h4
   rw [qkD,h1',h2',qdH h1',h3',h4'];rfl
  have h4':(bs p==bs h)=false:=h4
  obtain⟨c,hc⟩:∃ c,(bs p)[0]?=some c:=qAA (by omega)
  conv=>whnf
  refine⟨c,⟨by omega,hc⟩,?_⟩
  have hd:((bs p).head?==some 42)=((c.toNat:Int)==42):=by
   rw [List.head?_eq_getElem?,hc,Bool.eq_iff_iff]
   simp only [beq_iff_eq,Option.some.injEq]
   exact⟨fun h=>by rw [h];rfl,fun h=>UInt8.toNat_inj.1 (by show c.toNat=42;omega)⟩
  conv=>whnf
  refine⟨fun h5=>?_,fun h5=>?_⟩
  ·conv=>whnf
   intro g2 hg
   have h5':((bs p).head?==some 42)=false:=by rw [hd];simpa using h5
   rw [qkD,h1',h2',qdH h1',h3',h4',h5'];rfl
  have h5':((bs p).head?==some 42)=true:=by rw [hd];simpa using h5
  conv=>whnf
  refine⟨⟨by omega,by omega⟩,?_⟩
  have ht:bs (p.extract (1:Int).toNat p.size)=(bs p).drop 1:=by
   rw [qxA,hp];exact List.take_of_length_le (by simp)
  have htl:(p.extract (1:Int).toNat p.size).size=((bs p).drop 1).length:=by rw [qNA,ht]
  have hdl:((bs p).drop 1).length=(bs p).length-1:=List.length_drop
  have hw:IntKind.i64.wrap ((h.size:Int)-((p.extract (1:Int).toNat p.size).size:Int))=(h.size:Int)-((bs p).length-1:Nat):=by
   rw [htl,hdl,wr (by omega)]
  conv=>whnf
  refine⟨fun h6=>?_,fun h6=>?_⟩
  ·have h6':=of_decide_eq_true h6
   rw [hw] at h6'
   conv=>whnf
   refine⟨⟨by rw [hw];omega,by rw [hw];omega⟩,?_⟩
   conv=>whnf
   intro g2 hg
   have e2:bs (h.extract (IntKind.i64.wrap ((h.size:Int)-((p.extract (1:Int).toNat p.size).size:Int))).toNat h.size)=(bs h).drop ((bs h).length-((bs p).drop 1).length):=by
    rw [qxA,hw,hdl,show((h.size:Int)-((bs p).length-1:Nat)).toNat=(bs h).length-((bs p).length-1) by omega,hh]
    exact List.take_of_length_le (by simp)
   rw [qkD,h1',h2',qdH h1',h3',h4',h5',decide_eq_true (show((bs p).drop 1).length<(bs h).length by rw [hdl];omega),← e2,← ht];rfl
  ·conv=>whnf
   intro g2 hg
   have h6':=of_decide_eq_false h6
   rw [hw] at h6'
   rw [qkD,h1',h2',qdH h1',h3',h4',h5',decide_eq_false (show ¬ ((bs p).drop 1).length<(bs h).length by rw [hdl];omega)];rfl)
theorem q4W (g:GW) (a b:BA) (hs:Sm a∧Sm b):OkV Tryz.prog qcQ [.string a,.string b] g (.bool (qxE (bs a) (bs b))) :=
 Ok.of_fn hm noT 0 q4P (args:=[.v (.string a),.v (.string b)]) (by
  have hs1:=hs.1;have hs2:=hs.2
  unfold Sm at hs1 hs2
  conv=>whnf
  refine .inl ⟨_,q1S _ _,?_⟩
  conv=>whnf
  refine⟨fun h1=>?_,fun h1=>?_⟩
  ·conv=>whnf
   intro g2 hg
   have h1':qdD (bs a)=false:=by simpa using h1
   rw [qxE,h1'];rfl
  have h1':qdD (bs a)=true:=by simpa using h1
  conv=>whnf
  refine .inl ⟨_,q1S _ _,?_⟩
  conv=>whnf
  refine⟨fun h2=>?_,fun h2=>?_⟩
  ·conv=>whnf
   intro g2 hg
   have h2':qdD (bs b)=false:=by simpa using h2
   rw [qxE,h2'];simp
  have h2':qdD (bs b)=true:=by simpa using h2
  conv=>whnf
  refine .inl ⟨_,qzE _ _ _,?_⟩
  conv=>whnf
  refine⟨fun h3=>?_,fun h3=>?_⟩
  ·have h3':preL (bs b) (bs a)=true:=h3
   have hcut:=q5Q h3
   conv=>whnf
   refine⟨fun h4=>?_,fun h4=>?_⟩
   ·conv=>whnf
    intro g2 hg
    have h4':((bs a).drop (bs b).length==[])=true:=by rw [← hcut];exact h4
    rw [qxE,h1',h2',h3',h4'];rfl
   have h4':((bs a).drop (bs b).length==[])=false:=by rw [← hcut];exact h4
   conv=>whnf
   refine .inl ⟨_,q8M _ _ _ ⟨by omega,by decide⟩,?_⟩
   conv=>whnf
   refine⟨fun h5=>?_,fun h5=>?_⟩
   ·conv=>whnf
    intro g2 hg
    have h5':sufL [47] (bs b)=true:=h5
    rw [qxE,h1',h2',h3',h4',h5'];rfl
   have h5':sufL [47] (bs b)=false:=h5
   have hne:(bs a).drop (bs b).length≠[]:=by simpa using h4'
   obtain⟨c,hc⟩:∃ c,((bs a).drop (bs b).length)[0]?=some c:=qAA (List.length_pos_iff.2 hne)
   conv=>whnf
   refine⟨c,⟨by omega,by show(bs (cutP a b))[0]?=_;rw [hcut];exact hc⟩,?_⟩
   conv=>whnf
   intro g2 hg
   rw [qxE,h1',h2',h3',h4',h5',List.head?_eq_getElem?,hc]
   simp only [Bool.true_and,Bool.false_or]
   refine congrArg Value.bool ?_
   rw [Bool.eq_iff_iff]
   simp only [beq_iff_eq,Option.some.injEq]
   exact⟨fun h=>UInt8.toNat_inj.1 (by show c.toNat=47;omega),fun h=>by rw [h];rfl⟩
  ·conv=>whnf
   intro g2 hg
   have h3':preL (bs b) (bs a)=false:=h3
   rw [qxE,h1',h2',h3'];rfl)
theorem qkV (g:GW) (a b:BA) (hs:Sm a∧Sm b):OkV Tryz.prog qiI [.string a,.string b] g (.bool (qxE (bs a) (bs b))) :=
 Ok.of_fn hm noT 0 qKI (args:=[.v (.string a),.v (.string b)]) (by
  have hs1:=hs.1;have hs2:=hs.2
  unfold Sm at hs1 hs2
  have ha:=qNA a;have hb:=qNA b
  conv=>whnf
  refine .inl ⟨_,qNQ _ _,?_⟩
  conv=>whnf
  refine⟨fun h1=>?_,fun h1=>?_⟩
  ·conv=>whnf
   intro g2 hg
   have h1':qdD (bs a)=false:=by simpa using h1
   rw [qxE,h1'];rfl
  have h1':qdD (bs a)=true:=by simpa using h1
  conv=>whnf
  refine .inl ⟨_,qNQ _ _,?_⟩
  conv=>whnf
  refine⟨fun h2=>?_,fun h2=>?_⟩
  ·conv=>whnf
   intro g2 hg
   have h2':qdD (bs b)=false:=by simpa using h2
   rw [qxE,h2'];simp
  have h2':qdD (bs b)=true:=by simpa using h2
  have hbne:=qoS h2'
  have hbl:=List.length_pos_iff.2 hbne
  have hu:qxE (bs a) (bs b)=(decide ((bs b).length≤(bs a).length)&&(bs a).take (bs b).length==bs b&&(decide ((bs a).length=(bs b).length)||(bs b)[(bs b).length-1]?==some 47||(bs a)[(bs b).length]?==some 47)):=by
   rw [qxE,h1',h2']
   simp only [Bool.true_and]
   exact qKV hbne
  conv=>whnf
  refine⟨fun h3=>?_,fun h3=>?_⟩
  ·conv=>whnf
   intro g2 hg
   have:=of_decide_eq_true h3
   rw [hu,decide_eq_false (show ¬ (bs b).length≤(bs a).length by omega)];rfl
  have h3':(bs b).length≤(bs a).length:=by have:=of_decide_eq_false h3;omega
  conv=>whnf
  refine⟨⟨by omega,by omega⟩,?_⟩
  have e1:bs (a.extract 0 (b.size:Int).toNat)=(bs a).take (bs b).length:=by rw [qxA,Int.toNat_natCast,hb];rfl
  conv=>whnf
  refine⟨fun h4=>?_,fun h4=>?_⟩
  ·conv=>whnf
   intro g2 hg
   have h4':((bs a).take (bs b).length==bs b)=false:=by rw [← e1];exact nb1 h4
   rw [hu,h4',Bool.and_false];rfl
  have h4':((bs a).take (bs b).length==bs b)=true:=by rw [← e1];exact nb0 h4
  have hu2:qxE (bs a) (bs b)=(decide ((bs a).length=(bs b).length)||(bs b)[(bs b).length-1]?==some 47||(bs a)[(bs b).length]?==some 47):=by
   rw [hu,h4',decide_eq_true h3'];rfl
  conv=>whnf
  refine⟨fun h5=>?_,fun h5=>?_⟩
  ·conv=>whnf
   intro g2 hg
   have h5':(bs a).length=(bs b).length:=by simp at h5;omega
   rw [hu2,decide_eq_true h5'];rfl
  have h5':¬ (bs a).length=(bs b).length:=by simp at h5;omega
  have hw:IntKind.i64.wrap ((b.size:Int)-1)=((bs b).length-1:Nat):=by rw [wr (by omega)];omega
  obtain⟨c,hc⟩:∃ c,(bs b)[(bs b).length-1]?=some c:=qAA (by omega)
  conv=>whnf
  refine⟨c,⟨by rw [hw];omega,by rw [hw];exact hc⟩,?_⟩
  have ceq:∀ c:UInt8,(some c==some (47:UInt8))=((c.toNat:Int)==47):=fun c=>by
   rw [Bool.eq_iff_iff]
   simp only [beq_iff_eq,Option.some.injEq]
   exact⟨fun h=>by rw [h];rfl,fun h=>UInt8.toNat_inj.1 (by show c.toNat=47;omega)⟩
  conv=>whnf
  refine⟨fun h6=>?_,fun h6=>?_⟩
  ·conv=>whnf
   intro g2 hg
   rw [hu2,hc,ceq,h6];simp
  obtain⟨d,hd⟩:∃ d,(bs a)[(bs b).length]?=some d:=qAA (by omega)
  conv=>whnf
  refine⟨d,⟨by omega,by rw [show(b.size:Int).toNat=(bs b).length by omega];exact hd⟩,?_⟩
  conv=>whnf
  intro g2 hg
  rw [hu2,hc,hd,ceq,ceq,h6,decide_eq_false h5'];rfl)
theorem qgR (g:GW) (p:BA):OkV Tryz.prog qvO [.string p] g (.int .i64 (qtA (bs p))) :=
 Ok.of_fn hm noT 0 qkO (args:=[.v (.string p)]) (by
  conv=>whnf
  refine .inl ⟨_,qWM _ _,?_⟩
  conv=>whnf
  refine⟨fun h1=>?_,fun h1=>?_⟩
  ·conv=>whnf
   intro g2 hg
   have h1':qbA (bs p)=false:=by simpa using h1
   rw [qtA,h1'];rfl
  have h1':qbA (bs p)=true:=by simpa using h1
  conv=>whnf
  refine .inl ⟨_,qzE _ _ _,?_⟩
  conv=>whnf
  refine⟨fun h2=>?_,fun h2=>?_⟩
  ·conv=>whnf
   intro g2 hg
   have h2':preL [42,46] (bs p)=true:=h2
   rw [qtA,h1',h2',qNA,q5Q h2];rfl
  have h2':preL [42,46] (bs p)=false:=h2
  conv=>whnf
  refine⟨fun h3=>?_,fun h3=>?_⟩
  ·conv=>whnf
   intro g2 hg
   have h3':(bs p==[42])=true:=h3
   rw [qtA,h1',h2',h3'];rfl
  ·conv=>whnf
   intro g2 hg
   have h3':(bs p==[42])=false:=h3
   rw [qtA,h1',h2',h3'];rfl)
theorem qSP (g:GW) (p:BA) (hs:Sm p):OkV Tryz.prog qbH [.string p] g (.int .i64 (qtA (bs p))) :=
 Ok.of_fn hm noT 0 qGH (args:=[.v (.string p)]) (by
  unfold Sm at hs
  have hp:=qNA p
  conv=>whnf
  refine .inl ⟨_,qtJ _ _ (by omega),?_⟩
  conv=>whnf
  refine⟨fun h1=>?_,fun h1=>?_⟩
  ·conv=>whnf
   intro g2 hg
   have h1':qbA (bs p)=false:=by simpa using h1
   rw [qyH,h1'];rfl
  have h1':qbA (bs p)=true:=by simpa using h1
  conv=>whnf
  refine⟨fun h2=>?_,fun h2=>?_⟩
  ·conv=>whnf
   intro g2 hg
   have h2':(bs p==[42])=true:=h2
   rw [qyH,h1',h2'];rfl
  have h2':(bs p==[42])=false:=h2
  have hne:=List.length_pos_iff.2 (qHJ h1')
  obtain⟨c,hc⟩:∃ c,(bs p)[0]?=some c:=qAA (by omega)
  conv=>whnf
  refine⟨c,⟨by omega,hc⟩,?_⟩
  have hd:((bs p).head?==some 42)=((c.toNat:Int)==42):=by
   rw [List.head?_eq_getElem?,hc,Bool.eq_iff_iff]
   simp only [beq_iff_eq,Option.some.injEq]
   exact⟨fun h=>by rw [h];rfl,fun h=>UInt8.toNat_inj.1 (by show c.toNat=42;omega)⟩
  conv=>whnf
  refine⟨fun h3=>?_,fun h3=>?_⟩
  ·conv=>whnf
   intro g2 hg
   rw [wr (by omega),qyH,h1',h2',hd,h3,hp];rfl
  ·conv=>whnf
   intro g2 hg
   rw [qyH,h1',h2',hd,h3];rfl)
theorem qvV (g:GW) (a p b q:BA):OkV Tryz.prog qwO [.string a,.string p,.string b,.string q] g (.bool (qwK (bs a) (bs p) (bs b) (bs q))) :=
 Ok.of_fn hm noT 0 qlO (args:=[.v (.string a),.v (.string p),.v (.string b),.v (.string q)]) (by
  conv=>whnf
  refine .inl ⟨_,qgR _ _,?_⟩
  conv=>whnf
  refine .inl ⟨_,qgR _ _,?_⟩
  conv=>whnf
  refine⟨fun h1=>?_,fun h1=>?_⟩
  ·conv=>whnf
   intro g2 hg
   rw [qwK,h1];rfl
  ·conv=>whnf
   intro g2 hg
   rw [qwK,h1,qNA p,qNA q]
   simp)
theorem qgU (g:GW) (a p b q:BA) (hs:Sm a∧Sm b):OkV Tryz.prog qcH [.string a,.string p,.string b,.string q] g (.bool (qwK (bs a) (bs p) (bs b) (bs q))) :=
 Ok.of_fn hm noT 0 qHH (args:=[.v (.string a),.v (.string p),.v (.string b),.v (.string q)]) (by
  conv=>whnf
  refine .inl ⟨_,qSP _ _ hs.1,?_⟩
  conv=>whnf
  refine .inl ⟨_,qSP _ _ hs.2,?_⟩
  conv=>whnf
  refine⟨fun h1=>?_,fun h1=>?_⟩
  ·conv=>whnf
   intro g2 hg
   rw [q8H,h1];rfl
  conv=>whnf
  refine⟨fun h2=>?_,fun h2=>?_⟩
  ·conv=>whnf
   intro g2 hg
   rw [q8H,h1,h2,qNA p,qNA q]
   simp
  ·conv=>whnf
   intro g2 hg
   rw [q8H,h1,h2];rfl)
end Go.Proofs.YthonngjhelcpeaaGreat
