/- Whether a configuration may be: the routes, and the whole. -/
import Derived.Test.YthonngjhelcpeaaGreatLB1
import Derived.Test.YthonngjhelcpeaaGreatPl
set_option linter.unusedVariables false
set_option linter.unusedSimpArgs false
namespace Go.Proofs.YthonngjhelcpeaaGreat
open Go.Proofs.YthonngjhelcpeaaGreat.Sx
set_option maxHeartbeats 16000000
set_option maxRecDepth 100000
theorem qRN (g:GW) {cs:List Value} {c:Config} (hc:qUD g cs c):OkV Tryz.prog qlC [.agg ⟨cs⟩] g (eiT (qNH c)):=by
 obtain⟨a,b,d,rfl,hl,hr,hk⟩:=hc
 obtain⟨oa,ca,rfl,a1,a2,a0,hl1⟩:=id hl
 obtain⟨ob,cb,rfl,b1,b2,b0,hr1⟩:=id hr
 obtain⟨od,cd,rfl,d1,d2,d0,hk1⟩:=id hk
 exact Ok.of_fn hm noT 0 qeF (args:=[.v (.agg ⟨[.slice oa c.listens.length ca,.slice ob c.routes.length cb,.slice od c.clusters.length cd]⟩)]) (by
  repeat((conv=>whnf);first|apply qza|apply qzb|apply qzc|apply qzd|apply qze|intro(_:Nat))
  conv=>whnf
  refine⟨Nat,fun k=>[.v (.int .i64 k)],fun k=>⟨g,[.blk 0 _ _ [.v (.slice oa c.listens.length ca),.v (.slice ob c.routes.length cb),.v (.slice od c.clusters.length cd)]],_,_⟩,fun k=>k≤c.routes.length∧Pass (qfF c) c.routes k,fun k=>c.routes.length-k,qJA 0 rfl ⟨Nat.zero_le _,Pass.zero _ _⟩ rfl,?_⟩
  rintro k ⟨hkk,hp⟩
  conv=>whnf
  refine⟨fun hlt=>?_,fun hlt=>?_⟩
  ·have h':k<c.routes.length:=by have:=of_decide_eq_true hlt;omega
   obtain⟨x,hx⟩:=qCA h'
   obtain⟨a,rfl,ec,hec,rfl,hc⟩:=hr1 k x hx
   have hit:∀ e:EI,qfF c k x=some e→qNH c=some e:=fun e he=>hp.hit hx he
   conv=>whnf
   refine⟨a,rfl,⟨by omega,by omega⟩,?_⟩
   conv=>whnf
   refine⟨_,⟨rfl,hc⟩,?_⟩
   repeat((conv=>whnf);first|apply qza|apply qzb|apply qzc|apply qzd|apply qze|intro(_:Nat))
   conv=>whnf
   refine .inl ⟨_,q6L _ hl _,?_⟩
   conv=>whnf
   refine⟨fun h1=>?_,fun h1=>?_⟩
   ·conv=>whnf
    intro g2 hg
    rw [hit (5,k) (by rw [qfF,if_neg (by simp [nb1 h1])])];rfl
   have h1:=nb0 h1
   repeat((conv=>whnf);first|apply qza|apply qzb|apply qzc|apply qzd|apply qze|intro(_:Nat))
   conv=>whnf
   refine .inl ⟨_,qiK _ _,?_⟩
   conv=>whnf
   refine⟨fun h2=>?_,fun h2=>?_⟩
   ·conv=>whnf
    intro g2 hg
    rw [hit (7,k) (by rw [qfF,if_pos h1,if_neg (by simp [nb1 h2])])];rfl
   have h2:=nb0 h2
   repeat((conv=>whnf);first|apply qza|apply qzb|apply qzc|apply qzd|apply qze|intro(_:Nat))
   conv=>whnf
   refine .inl ⟨_,q4Q _ _,?_⟩
   conv=>whnf
   refine⟨fun h3=>?_,fun h3=>?_⟩
   ·conv=>whnf
    intro g2 hg
    rw [hit (8,k) (by rw [qfF,if_pos h1,if_pos h2,if_neg (by simp [nb1 h3])])];rfl
   have h3:=nb0 h3
   repeat((conv=>whnf);first|apply qza|apply qzb|apply qzc|apply qzd|apply qze|intro(_:Nat))
   conv=>whnf
   refine .inl ⟨_,quR _ hk _,?_⟩
   conv=>whnf
   refine⟨fun h4=>?_,fun h4=>?_⟩
   ·conv=>whnf
    intro g2 hg
    rw [hit (5,k) (by rw [qfF,if_pos h1,if_pos h2,if_pos h3,if_neg (by simp [nb1 h4])])];rfl
   have h4:=nb0 h4
   repeat((conv=>whnf);first|apply qza|apply qzb|apply qzc|apply qzd|apply qze|intro(_:Nat))
   conv=>whnf
   refine⟨⟨by omega,by omega⟩,?_⟩
   repeat((conv=>whnf);first|apply qza|apply qzb|apply qzc|apply qzd|apply qze|intro(_:Nat))
   conv=>whnf
   refine⟨Nat,fun m=>[.v (.int .i64 m)],fun m=>⟨g,[.blk 1 _ _ [.v (.string x.listen),.v (.string x.host),.v (.string x.path),.v (.string ⟨#[]⟩)],.blk 0 _ _ [.v (.slice oa c.listens.length ca),.v (.slice (some a) c.routes.length cb),.v (.slice od c.clusters.length cd)]],_,_⟩,fun m=>m≤k∧(∀ j y,j<m→c.routes[j]?=some y→eqRt y x=false),fun m=>k-m,qJA 0 rfl ⟨Nat.zero_le _,fun j y hj=>by omega⟩ rfl,?_⟩
   rintro m ⟨hmk,hq⟩
   conv=>whnf
   refine⟨fun hml=>?_,fun hml=>?_⟩
   ·have hm':m<k:=by have:=of_decide_eq_true hml;simp at this;omega
    obtain⟨y,hy⟩:=qCA (show m<c.routes.length by omega)
    obtain⟨a',ha',ecy,hecy,rfl,hcy⟩:=hr1 m y hy
    cases ha'
    conv=>whnf
    refine⟨a,rfl,⟨by omega,by simp;omega⟩,?_⟩
    conv=>whnf
    refine⟨_,⟨rfl,hcy⟩,?_⟩
    repeat((conv=>whnf);first|apply qza|apply qzb|apply qzc|apply qzd|apply qze|intro(_:Nat))
    conv=>whnf
    refine⟨fun he=>?_,fun he=>?_⟩
    ·conv=>whnf
     intro g2 hg
     have he:eqRt y x=true:=by simpa [eqRt,Bool.and_assoc] using he
     rw [hit (4,k) (by rw [qfF,if_pos h1,if_pos h2,if_pos h3,if_pos h4,if_pos];exact List.any_eq_true.2 ⟨y,List.mem_of_getElem? (show(c.routes.take k)[m]?=some y by rw [List.getElem?_take,if_pos hm'];exact hy),he⟩)];rfl
    ·conv=>whnf
     refine fun fr w hw=>⟨m+1,congrArg (fun z=>[Value.int .i64 z]) (wr1 hm' (Nat.le_of_lt (Nat.lt_of_lt_of_le h' b1)) b2).symm,⟨hm',?_⟩,dec hm',?_⟩
     ·have he:eqRt y x=false:=by simpa [eqRt,Bool.and_assoc] using he
      intro j z hj hz
      rcases Nat.lt_or_ge j m with c1|c1
      ·exact hq j z c1 hz
      ·obtain rfl:j=m:=by omega
       rw [hy] at hz;cases hz;exact he
     ·exact hw.fit (by simp [fitL,Res.eqv,qDA,conc])
   ·conv=>whnf
    refine fun fr w hw=>⟨k+1,congrArg (fun z=>[Value.int .i64 z]) (wr1 h' b1 b2).symm,⟨h',hp.succ hx (by rw [qfF,if_pos h1,if_pos h2,if_pos h3,if_pos h4,if_neg];have:=of_decide_eq_false hml;rw [any_take.2 fun j y hj=>hq j y (by omega)];simp)⟩,dec h',?_⟩
    exact hw.fit (by simp [fitL,Res.eqv,qDA,conc])
  ·conv=>whnf
   intro g2 hg
   have:=of_decide_eq_false hlt
   rw [show qNH c=none from hp.done (by omega)];rfl)
theorem qNQ (o:Option EI):(o=none∧eiT o=.tuple #[.int .i64 0,.int .i64 0])∨∃ e i,o=some (e,i)∧eiT o=.tuple #[.int .i64 e,.int .i64 i]:=by
 cases o with
 | none=>exact .inl ⟨rfl,rfl⟩
 | some x=>exact .inr ⟨x.1,x.2,rfl,rfl⟩
theorem qwR (g:GW) {cs:List Value} {c:Config} (hc:qUD g cs c):OkV Tryz.prog q6M [.agg ⟨cs⟩] g (eiT (qWB c)):=by
 have hc0:=hc
 obtain⟨a,b,d,rfl,hl,hr,hk⟩:=hc
 obtain⟨oa,ca,rfl,a1,a2,a0,hl1⟩:=id hl
 obtain⟨ob,cb,rfl,b1,b2,b0,hr1⟩:=id hr
 obtain⟨od,cd,rfl,d1,d2,d0,hk1⟩:=id hk
 exact Ok.of_fn hm noT 0 qrM (args:=[.v (.agg ⟨[.slice oa c.listens.length ca,.slice ob c.routes.length cb,.slice od c.clusters.length cd]⟩)]) (by
  repeat((conv=>whnf);first|apply qza|apply qzb|apply qzc|apply qzd|apply qze|intro(_:Nat))
  conv=>whnf
  refine⟨Nat,fun k=>[.v (.int .i64 k)],fun _=>⟨g,[.blk 2 _ _ [.fn (.func qJD) [.agg [.v (.slice oa c.listens.length ca),.v (.slice ob c.routes.length cb),.v (.slice od c.clusters.length cd)]] [],.fn (.func qRC) [.agg [.v (.slice oa c.listens.length ca),.v (.slice ob c.routes.length cb),.v (.slice od c.clusters.length cd)]] [],.fn (.func q9B) [.agg [.v (.slice oa c.listens.length ca),.v (.slice ob c.routes.length cb),.v (.slice od c.clusters.length cd)]] [],.fn (.func qlC) [.agg [.v (.slice oa c.listens.length ca),.v (.slice ob c.routes.length cb),.v (.slice od c.clusters.length cd)]] []],.blk 1 _ _ [.v (.slice oa c.listens.length ca),.v (.slice ob c.routes.length cb),.v (.slice od c.clusters.length cd)],.blk 0 _ _ [.v (.slice oa c.listens.length ca),.v (.slice ob c.routes.length cb),.v (.slice od c.clusters.length cd)]],_,_⟩,fun k=>k≤4∧(1≤k→qsM c=none)∧(2≤k→qEE c=none)∧(3≤k→qvD c=none)∧(4≤k→qNH c=none),fun k=>4-k,qJA 0 rfl ⟨by omega,by omega,by omega,by omega,by omega⟩ rfl,?_⟩
  rintro k ⟨hk4,j1,j2,j3,j4⟩
  obtain rfl|rfl|rfl|rfl|rfl:k=0∨k=1∨k=2∨k=3∨k=4:=by omega
  ·obtain⟨h0,hv⟩|⟨e,i,h0,hv⟩:=qNQ (qsM c)
   ·conv=>whnf
    refine⟨fun _=>?_,fun h=>nomatch h⟩
    conv=>whnf
    refine⟨0,⟨rfl,by decide⟩,?_⟩
    repeat((conv=>whnf);first|apply qza|apply qzb|apply qzc|apply qzd|apply qze|intro(_:Nat))
    conv=>whnf
    refine⟨qLD,?_⟩
    conv=>whnf
    refine .inl ⟨_,(qvR _ hc0).to hv,?_⟩
    conv=>whnf
    refine⟨fun h=>(nomatch h),fun _=>?_⟩
    conv=>whnf
    refine fun fr w hw=>⟨1,rfl,⟨by omega,fun _=>h0,fun h=>absurd h (by omega),fun h=>absurd h (by omega),fun h=>absurd h (by omega)⟩,by decide,?_⟩
    exact hw.fit (by simp [fitL,Res.eqv,qDA,conc])
   ·have hck:qWB c=some (e,i):=by rw [qWB,h0]
    have hne:=qjH hck
    conv=>whnf
    refine⟨fun _=>?_,fun h=>nomatch h⟩
    conv=>whnf
    refine⟨0,⟨rfl,by decide⟩,?_⟩
    repeat((conv=>whnf);first|apply qza|apply qzb|apply qzc|apply qzd|apply qze|intro(_:Nat))
    conv=>whnf
    refine⟨qLD,?_⟩
    conv=>whnf
    refine .inl ⟨_,(qvR _ hc0).to hv,?_⟩
    conv=>whnf
    refine⟨fun _=>?_,fun hx=>absurd hx (by simp;omega)⟩
    conv=>whnf
    intro g2 hg
    rw [hck];rfl
  ·obtain⟨h0,hv⟩|⟨e,i,h0,hv⟩:=qNQ (qEE c)
   ·conv=>whnf
    refine⟨fun _=>?_,fun h=>nomatch h⟩
    conv=>whnf
    refine⟨1,⟨rfl,by decide⟩,?_⟩
    repeat((conv=>whnf);first|apply qza|apply qzb|apply qzc|apply qzd|apply qze|intro(_:Nat))
    conv=>whnf
    refine⟨qSC,?_⟩
    conv=>whnf
    refine .inl ⟨_,(q4L _ hc0).to hv,?_⟩
    conv=>whnf
    refine⟨fun h=>(nomatch h),fun _=>?_⟩
    conv=>whnf
    refine fun fr w hw=>⟨2,rfl,⟨by omega,fun _=>j1 (by omega),fun _=>h0,fun h=>absurd h (by omega),fun h=>absurd h (by omega)⟩,by decide,?_⟩
    exact hw.fit (by simp [fitL,Res.eqv,qDA,conc])
   ·have hck:qWB c=some (e,i):=by rw [qWB,j1 (by omega),h0]
    have hne:=qjH hck
    conv=>whnf
    refine⟨fun _=>?_,fun h=>nomatch h⟩
    conv=>whnf
    refine⟨1,⟨rfl,by decide⟩,?_⟩
    repeat((conv=>whnf);first|apply qza|apply qzb|apply qzc|apply qzd|apply qze|intro(_:Nat))
    conv=>whnf
    refine⟨qSC,?_⟩
    conv=>whnf
    refine .inl ⟨_,(q4L _ hc0).to hv,?_⟩
    conv=>whnf
    refine⟨fun _=>?_,fun hx=>absurd hx (by simp;omega)⟩
    conv=>whnf
    intro g2 hg
    rw [hck];rfl
  ·obtain⟨h0,hv⟩|⟨e,i,h0,hv⟩:=qNQ (qvD c)
   ·conv=>whnf
    refine⟨fun _=>?_,fun h=>nomatch h⟩
    conv=>whnf
    refine⟨2,⟨rfl,by decide⟩,?_⟩
    repeat((conv=>whnf);first|apply qza|apply qzb|apply qzc|apply qzd|apply qze|intro(_:Nat))
    conv=>whnf
    refine⟨qAC,?_⟩
    conv=>whnf
    refine .inl ⟨_,(q4K _ hc0).to hv,?_⟩
    conv=>whnf
    refine⟨fun h=>(nomatch h),fun _=>?_⟩
    conv=>whnf
    refine fun fr w hw=>⟨3,rfl,⟨by omega,fun _=>j1 (by omega),fun _=>j2 (by omega),fun _=>h0,fun h=>absurd h (by omega)⟩,by decide,?_⟩
    exact hw.fit (by simp [fitL,Res.eqv,qDA,conc])
   ·have hck:qWB c=some (e,i):=by rw [qWB,j1 (by omega),j2 (by omega),h0]
    have hne:=qjH hck
    conv=>whnf
    refine⟨fun _=>?_,fun h=>nomatch h⟩
    conv=>whnf
    refine⟨2,⟨rfl,by decide⟩,?_⟩
    repeat((conv=>whnf);first|apply qza|apply qzb|apply qzc|apply qzd|apply qze|intro(_:Nat))
    conv=>whnf
    refine⟨qAC,?_⟩
    conv=>whnf
    refine .inl ⟨_,(q4K _ hc0).to hv,?_⟩
    conv=>whnf
    refine⟨fun _=>?_,fun hx=>absurd hx (by simp;omega)⟩
    conv=>whnf
    intro g2 hg
    rw [hck];rfl
  ·obtain⟨h0,hv⟩|⟨e,i,h0,hv⟩:=qNQ (qNH c)
   ·conv=>whnf
    refine⟨fun _=>?_,fun h=>nomatch h⟩
    conv=>whnf
    refine⟨3,⟨rfl,by decide⟩,?_⟩
    repeat((conv=>whnf);first|apply qza|apply qzb|apply qzc|apply qzd|apply qze|intro(_:Nat))
    conv=>whnf
    refine⟨qmC,?_⟩
    conv=>whnf
    refine .inl ⟨_,(qRN _ hc0).to hv,?_⟩
    conv=>whnf
    refine⟨fun h=>(nomatch h),fun _=>?_⟩
    conv=>whnf
    refine fun fr w hw=>⟨4,rfl,⟨by omega,fun _=>j1 (by omega),fun _=>j2 (by omega),fun _=>j3 (by omega),fun _=>h0⟩,by decide,?_⟩
    exact hw.fit (by simp [fitL,Res.eqv,qDA,conc])
   ·have hck:qWB c=some (e,i):=by rw [qWB,j1 (by omega),j2 (by omega),j3 (by omega),h0]
    have hne:=qjH hck
    conv=>whnf
    refine⟨fun _=>?_,fun h=>nomatch h⟩
    conv=>whnf
    refine⟨3,⟨rfl,by decide⟩,?_⟩
    repeat((conv=>whnf);first|apply qza|apply qzb|apply qzc|apply qzd|apply qze|intro(_:Nat))
    conv=>whnf
    refine⟨qmC,?_⟩
    conv=>whnf
    refine .inl ⟨_,(qRN _ hc0).to hv,?_⟩
    conv=>whnf
    refine⟨fun _=>?_,fun hx=>absurd hx (by simp;omega)⟩
    conv=>whnf
    intro g2 hg
    rw [hck];rfl
  ·conv=>whnf
   refine⟨fun h=>(nomatch h),fun _=>?_⟩
   conv=>whnf
   intro g2 hg
   rw [show qWB c=none from by rw [qWB,j1 (by omega),j2 (by omega),j3 (by omega),j4 (by omega)]];rfl)
/- Whether a configuration may be: the document's answer. -/
open Go.Proofs.YthonngjhelcpeaaGreat.Sx
/- Whether a configuration may be: what is too big to be looked at. -/
open Go.Proofs.YthonngjhelcpeaaGreat.Sx
abbrev qsV (r:Route):List Value:=[.string r.listen,.string r.host,.string r.path,.string r.cluster]
/- Which hosts and paths are meant: the program's and the document's answers. -/
open Go.Proofs.YthonngjhelcpeaaGreat.Sx
abbrev Sm (s:BA):Prop:=s.size≤1000000
theorem qcX {s p:BA}:(cutP s p).size≤s.size:=by
 unfold cutP
 split
 ·rw [qYA,qJE,qYA s];simp
 ·exact Nat.le_refl _
theorem qEV (g:GW) (p h:BA) (hs:Sm p∧Sm h):OkV Tryz.prog qWO [.string p,.string h] g (.bool (q2J (bs p) (bs h))) :=
 Ok.of_fn hm noT 0 q2N (args:=[.v (.string p),.v (.string h)]) (by
  conv=>whnf
  refine .inl ⟨_,qiK _ _,?_⟩
  conv=>whnf
  refine⟨fun h1=>?_,fun h1=>?_⟩
  ·conv=>whnf
   intro g2 hg
   have h1':q0B (bs p)=false:=by simpa using h1
   rw [q2J,h1'];rfl
  have h1':q0B (bs p)=true:=by simpa using h1
  conv=>whnf
  refine .inl ⟨_,q5Q _ _,?_⟩
  conv=>whnf
  refine⟨fun h2=>?_,fun h2=>?_⟩
  ·conv=>whnf
   intro g2 hg
   have h2':q7M (bs h)=false:=by simpa using h2
   rw [q2J,h2'];simp
  have h2':q7M (bs h)=true:=by simpa using h2
  conv=>whnf
  refine .inl ⟨_,q9E _ _ _,?_⟩
  conv=>whnf
  refine⟨fun h3=>?_,fun h3=>?_⟩
  ·conv=>whnf
   intro g2 hg
   have h3':(bs p==bs h)=true:=h3
   rw [q2J,h1',h2',h3'];rfl
  have h3':(bs p==bs h)=false:=h3
  conv=>whnf
  refine⟨fun h4=>?_,fun h4=>?_⟩
  ·have h4':preL [42] (bs p)=true:=h4
   have hcut:bs (cutP p ⟨#[42]⟩)=(bs p).drop 1:=qzO h4
   conv=>whnf
   refine⟨fun h5=>?_,fun h5=>?_⟩
   ·conv=>whnf
    intro g2 hg
    have h5':((bs p).drop 1==[])=true:=by rw [← hcut];exact h5
    rw [q2J,h1',h2',h3',h4',qnU,h5'];rfl
   have h5':((bs p).drop 1==[])=false:=by rw [← hcut];exact h5
   have hl:(cutP p ⟨#[42]⟩).size=((bs p).drop 1).length:=by rw [qYA,hcut]
   have hh:=qYA h
   conv=>whnf
   refine⟨fun _=>?_,fun hx=>absurd ((h4).symm.trans hx) (by decide)⟩
   conv=>whnf
   refine⟨fun h6=>?_,fun h6=>?_⟩
   ·have h6':decide (((bs p).drop 1).length<(bs h).length)=true:=by
     have:=of_decide_eq_true h6
     exact decide_eq_true (by omega)
    conv=>whnf
    refine .inl ⟨_,q5K _ _ _ ⟨by have:=hs.2;unfold Sm at this;omega,by have:=hs.1;unfold Sm at this;have:=@qcX p ⟨#[42]⟩;omega⟩,?_⟩
    conv=>whnf
    intro g2 hg
    rw [hcut,q2J,h1',h2',h3',h4',qnU,h5',h6'];rfl
   ·conv=>whnf
    intro g2 hg
    have h6':decide (((bs p).drop 1).length<(bs h).length)=false:=by
     have:=of_decide_eq_false h6
     exact decide_eq_false (by omega)
    rw [q2J,h1',h2',h3',h4',qnU,h5',h6'];rfl
  ·conv=>whnf
   refine⟨fun hx=>absurd (hx.symm.trans (h4)) (by decide),fun _=>?_⟩
   conv=>whnf
   intro g2 hg
   have h4':preL [42] (bs p)=false:=h4
   rw [q2J,h1',h2',h3',h4'];rfl)
theorem q8U (g:GW) (a b:BA) (hs:Sm a∧Sm b):OkV Tryz.prog qVO [.string a,.string b] g (.bool (qzK (bs a) (bs b))) :=
 Ok.of_fn hm noT 0 q1N (args:=[.v (.string a),.v (.string b)]) (by
  have hs1:=hs.1;have hs2:=hs.2
  unfold Sm at hs1 hs2
  conv=>whnf
  refine .inl ⟨_,q4Q _ _,?_⟩
  conv=>whnf
  refine⟨fun h1=>?_,fun h1=>?_⟩
  ·conv=>whnf
   intro g2 hg
   have h1':qxI (bs a)=false:=by simpa using h1
   rw [qzK,h1'];rfl
  have h1':qxI (bs a)=true:=by simpa using h1
  conv=>whnf
  refine .inl ⟨_,q4Q _ _,?_⟩
  conv=>whnf
  refine⟨fun h2=>?_,fun h2=>?_⟩
  ·conv=>whnf
   intro g2 hg
   have h2':qxI (bs b)=false:=by simpa using h2
   rw [qzK,h2'];simp
  have h2':qxI (bs b)=true:=by simpa using h2
  conv=>whnf
  refine .inl ⟨_,q9E _ _ _,?_⟩
  conv=>whnf
  refine⟨fun h3=>?_,fun h3=>?_⟩
  ·have h3':preL (bs b) (bs a)=true:=h3
   have hcut:=qzO h3
   conv=>whnf
   refine⟨fun h4=>?_,fun h4=>?_⟩
   ·conv=>whnf
    intro g2 hg
    have h4':((bs a).drop (bs b).length==[])=true:=by rw [← hcut];exact h4
    rw [qzK,h1',h2',h3',h4'];rfl
   have h4':((bs a).drop (bs b).length==[])=false:=by rw [← hcut];exact h4
   conv=>whnf
   refine .inl ⟨_,q5K _ _ _ ⟨by omega,by decide⟩,?_⟩
   conv=>whnf
   refine⟨fun h5=>?_,fun h5=>?_⟩
   ·conv=>whnf
    intro g2 hg
    have h5':sufL [47] (bs b)=true:=h5
    rw [qzK,h1',h2',h3',h4',h5'];rfl
   have h5':sufL [47] (bs b)=false:=h5
   have hne:(bs a).drop (bs b).length≠[]:=by simpa using h4'
   obtain⟨c,hc⟩:∃ c,((bs a).drop (bs b).length)[0]?=some c:=qCA (List.length_pos_iff.2 hne)
   conv=>whnf
   refine⟨c,⟨by omega,by show(bs (cutP a b))[0]?=_;rw [hcut];exact hc⟩,?_⟩
   conv=>whnf
   intro g2 hg
   rw [qzK,h1',h2',h3',h4',h5',List.head?_eq_getElem?,hc]
   simp only [Bool.true_and,Bool.false_or]
   refine congrArg Value.bool ?_
   rw [Bool.eq_iff_iff]
   simp only [beq_iff_eq,Option.some.injEq]
   exact⟨fun h=>UInt8.toNat_inj.1 (by show c.toNat=47;omega),fun h=>by rw [h];rfl⟩
  ·conv=>whnf
   intro g2 hg
   have h3':preL (bs b) (bs a)=false:=h3
   rw [qzK,h1',h2',h3'];rfl)
theorem qdP (g:GW) (p:BA):OkV Tryz.prog q1M [.string p] g (.int .i64 (qxA (bs p))) :=
 Ok.of_fn hm noT 0 qmM (args:=[.v (.string p)]) (by
  conv=>whnf
  refine .inl ⟨_,qiK _ _,?_⟩
  conv=>whnf
  refine⟨fun h1=>?_,fun h1=>?_⟩
  ·conv=>whnf
   intro g2 hg
   have h1':q0B (bs p)=false:=by simpa using h1
   rw [qxA,h1'];rfl
  have h1':q0B (bs p)=true:=by simpa using h1
  conv=>whnf
  refine .inl ⟨_,q9E _ _ _,?_⟩
  conv=>whnf
  refine⟨fun h2=>?_,fun h2=>?_⟩
  ·conv=>whnf
   intro g2 hg
   have h2':preL [42,46] (bs p)=true:=h2
   rw [qxA,h1',h2',qYA,qzO h2];rfl
  have h2':preL [42,46] (bs p)=false:=h2
  conv=>whnf
  refine⟨fun h3=>?_,fun h3=>?_⟩
  ·conv=>whnf
   intro g2 hg
   have h3':(bs p==[42])=true:=h3
   rw [qxA,h1',h2',h3'];rfl
  ·conv=>whnf
   intro g2 hg
   have h3':(bs p==[42])=false:=h3
   rw [qxA,h1',h2',h3'];rfl)
theorem q3T (g:GW) (a p b q:BA):OkV Tryz.prog q2M [.string a,.string p,.string b,.string q] g (.bool (qvK (bs a) (bs p) (bs b) (bs q))) :=
 Ok.of_fn hm noT 0 qnM (args:=[.v (.string a),.v (.string p),.v (.string b),.v (.string q)]) (by
  conv=>whnf
  refine .inl ⟨_,qdP _ _,?_⟩
  conv=>whnf
  refine .inl ⟨_,qdP _ _,?_⟩
  conv=>whnf
  refine⟨fun h1=>?_,fun h1=>?_⟩
  ·conv=>whnf
   intro g2 hg
   rw [qvK,h1];rfl
  ·conv=>whnf
   intro g2 hg
   rw [qvK,h1,qYA p,qYA q]
   simp)
/- Which rule a request goes by: the program's and the document's answers. -/
open Go.Proofs.YthonngjhelcpeaaGreat.Sx
abbrev qaW (r:Rule):List Value:=[.int .i64 r.listen,.string r.host,.string r.path,.int .i64 r.cluster]
abbrev SmR (r:Rule):Prop:=Sm r.host∧Sm r.path
theorem qOW (g:GW) (r:Rule) (n:Int) (h p:BA) (hs:SmR r∧Sm h∧Sm p):OkV Tryz.prog qRO [.agg ⟨qaW r⟩,.int .i64 n,.string h,.string p] g (.bool (fitR n h p r)) :=
 Ok.of_fn hm noT 0 quN (args:=[.v (.agg ⟨qaW r⟩),.v (.int .i64 n),.v (.string h),.v (.string p)]) (by
  repeat'((conv=>whnf);first|apply qza|apply qzb|apply qzc|apply qzd|apply qze|intro(_:Nat)|refine .inl ⟨_,qEV _ _ _ ⟨hs.1.1,hs.2.1⟩,?_⟩|refine .inl ⟨_,q8U _ _ _ ⟨hs.2.2,hs.1.2⟩,?_⟩|refine⟨fun _=>?_,fun _=>?_⟩|fail)
  all_goals (conv=>whnf)
  all_goals (intro g2 hg)
  all_goals (rename_i h1;simp only [fitR];simp_all))
def tR:List (Nat×FnI):=[(qIL,qmG),(qwJ,qDF)]
theorem tR_ok:qQI Tryz.prog tR:=by
 intro x hx
 simp only [tR,List.mem_cons,List.not_mem_nil,or_false] at hx
 rcases hx with rfl|rfl
 ·exact⟨_,_,qFL⟩
 ·exact⟨_,_,qZJ⟩
def qhW:Option Nat→Value
 | some i=>.tuple #[.int .i64 i,.int .i64 0]
 | none=>.tuple #[.int .i64 0,.int .i64 5]
def qHN:Option Nat→Int
 | none=>-1
 | some j=>j
abbrev SmL (l:List Rule):Prop:=∀ r∈l,SmR r
theorem q4T (g:GW) {v:Value} {l:List Rule} (hl:rSl 4 qrQ g v l) (n:Int) (h p:BA) (hs:SmL l∧Sm h∧Sm p) :
  OkV Tryz.prog qSO [v,.int .i64 n,.string h,.string p] g (qhW (q0O (fitR n h p) l)) :=
 Ok.of_fn hm tR_ok 2 qvN (args:=[.v v,.v (.int .i64 n),.v (.string h),.v (.string p)]) (by
  obtain⟨oa,cap,rfl,h1,h2,h0,hr⟩:=hl
  repeat((conv=>whnf);first|apply qza|apply qzb|apply qzc|apply qzd|apply qze|intro(_:Nat))
  conv=>whnf
  refine⟨q4J,fun lp rr=>?_⟩
  repeat((conv=>whnf);first|apply qza|apply qzb|apply qzc|apply qzd|apply qze|intro(_:Nat))
  conv=>whnf
  refine⟨Nat,fun i=>[.v (.int .i64 i)],fun i=>⟨g,[.lp 6 lp rr .ready,.blk 5 _ _ [.v (.string p)],.blk 4 _ _ [.v (.string h)],.blk 3 _ _ [.v (.int .i64 n)],.blk 2 _ _ [.v (.slice oa l.length cap)],.blk 1 _ _ [.v (.int .i64 (qHN (qfG (fitR n h p) l i)))],.blk 0 _ _ [.v (.slice oa l.length cap)]],_,_⟩,fun i=>i≤l.length,fun i=>l.length-i,qJA 0 rfl (Nat.zero_le _) rfl,?_⟩
  intro i hi
  conv=>whnf
  refine⟨fun hlt=>?_,fun hlt=>?_⟩
  ·have h':i<l.length:=by have:=of_decide_eq_true hlt;omega
   obtain⟨r,hri⟩:=qCA h'
   obtain⟨a,rfl,ec,hec,⟨rfl,hI1,hI2⟩,hc⟩:=hr i r hri
   have hsr:=hs.1 r (List.mem_of_getElem? hri)
   have hbp:∀ b,(match qfG (fitR n h p) l i with|none=>some i|some j=>match l[j]? with|some q=>if betR r q then some i else some j|none=>some i)=b→fitR n h p r=true→qfG (fitR n h p) l (i+1)=b:=fun b hb hf=>by
    simp only [qfG,hri,hf,if_true];exact hb
   conv=>whnf
   refine⟨a,rfl,⟨by omega,by omega⟩,?_⟩
   conv=>whnf
   refine⟨qaW r,⟨rfl,hc⟩,?_⟩
   repeat((conv=>whnf);first|apply qza|apply qzb|apply qzc|apply qzd|apply qze|intro(_:Nat))
   conv=>whnf
   refine .inl ⟨_,qOW _ _ _ _ _ ⟨hsr,hs.2⟩,?_⟩
   have next:∀ (b:Option Nat),qfG (fitR n h p) l (i+1)=b→[Value.int .i64 (IntKind.i64.wrap ((i:Int)+1))]=[Value.int .i64 ((i+1:Nat):Int)]:=fun _ _=>congrArg (fun z=>[Value.int .i64 z]) (wr1 h' h1 h2)
   conv=>whnf
   refine⟨fun hf=>?_,fun hf=>?_⟩
   ·repeat((conv=>whnf);first|apply qza|apply qzb|apply qzc|apply qzd|apply qze|intro(_:Nat))
    cases hb:qfG (fitR n h p) l i with
    | none =>
     have hb1:=hbp (some i) (by rw [hb]) hf
     conv=>whnf
     refine⟨fun _=>?_,fun h=>nomatch h⟩
     repeat((conv=>whnf);first|apply qza|apply qzb|apply qzc|apply qzd|apply qze|intro(_:Nat))
     conv=>whnf
     refine fun fr w hw=>⟨i+1,(next _ hb1).symm,h',dec h',?_⟩
     exact hw.fit (by simp [fitL,Res.eqv,qDA,conc,hb1,qHN])
    | some j =>
     obtain⟨q,hq,_,hfq,_⟩:=(qxK (fit:=fitR n h p) l i hi).1 j hb
     obtain⟨a',ha',ecq,hecq,⟨rfl,_,_⟩,hcq⟩:=hr j q hq
     cases ha'
     have hjl:=(List.getElem?_eq_some_iff.1 hq).1
     conv=>whnf
     refine⟨fun hx=>absurd (of_decide_eq_true hx) (by simp only [qHN];omega),fun _=>?_⟩
     repeat((conv=>whnf);first|apply qza|apply qzb|apply qzc|apply qzd|apply qze|intro(_:Nat))
     conv=>whnf
     refine⟨a,rfl,⟨by simp only [qHN];omega,by simp only [qHN];omega⟩,?_⟩
     repeat((conv=>whnf);first|apply qza|apply qzb|apply qzc|apply qzd|apply qze|intro(_:Nat))
     conv=>whnf
     refine⟨_,hcq 1 _ rfl,?_⟩
     repeat((conv=>whnf);first|apply qza|apply qzb|apply qzc|apply qzd|apply qze|intro(_:Nat))
     conv=>whnf
     refine⟨a,rfl,⟨by simp only [qHN];omega,by simp only [qHN];omega⟩,?_⟩
     repeat((conv=>whnf);first|apply qza|apply qzb|apply qzc|apply qzd|apply qze|intro(_:Nat))
     conv=>whnf
     refine⟨_,hcq 2 _ rfl,?_⟩
     repeat((conv=>whnf);first|apply qza|apply qzb|apply qzc|apply qzd|apply qze|intro(_:Nat))
     conv=>whnf
     refine .inl ⟨_,q3T _ _ _ _ _,?_⟩
     conv=>whnf
     refine⟨fun hbt=>?_,fun hbt=>?_⟩
     ·have hb1:=hbp (some i) (by rw [hb];simp only [hq];rw [show betR r q=true from hbt];rfl) hf
      repeat((conv=>whnf);first|apply qza|apply qzb|apply qzc|apply qzd|apply qze|intro(_:Nat))
      conv=>whnf
      refine fun fr w hw=>⟨i+1,(next _ hb1).symm,h',dec h',?_⟩
      exact hw.fit (by simp [fitL,Res.eqv,qDA,conc,hb1,qHN])
     ·have hb1:=hbp (some j) (by rw [hb];simp only [hq];rw [show betR r q=false from hbt];rfl) hf
      repeat((conv=>whnf);first|apply qza|apply qzb|apply qzc|apply qzd|apply qze|intro(_:Nat))
      conv=>whnf
      refine fun fr w hw=>⟨i+1,(next _ hb1).symm,h',dec h',?_⟩
      exact hw.fit (by simp [fitL,Res.eqv,qDA,conc,hb1,qHN])
   ·conv=>whnf
    refine fun fr w hw=>⟨i+1,?_,h',dec h',?_⟩
    ·exact congrArg (fun z=>[Value.int .i64 z]) (wr1 h' h1 h2).symm
    ·have:qfG (fitR n h p) l (i+1)=qfG (fitR n h p) l i:=by simp [qfG,hri,hf]
     exact hw.fit (by simp [fitL,Res.eqv,qDA,conc,this])
  ·have hi':i=l.length:=by have:=of_decide_eq_false hlt;omega
   subst hi'
   repeat((conv=>whnf);first|apply qza|apply qzb|apply qzc|apply qzd|apply qze|intro(_:Nat))
   cases hb:qfG (fitR n h p) l l.length with
   | none =>
    conv=>whnf
    refine⟨fun _=>?_,fun h=>nomatch h⟩
    conv=>whnf
    intro g2 hg
    rw [show q0O (fitR n h p) l=none from hb];rfl
   | some j =>
    conv=>whnf
    refine⟨fun hx=>absurd (of_decide_eq_true hx) (by simp only [qHN];omega),fun _=>?_⟩
    repeat((conv=>whnf);first|apply qza|apply qzb|apply qzc|apply qzd|apply qze|intro(_:Nat))
    conv=>whnf
    intro g2 hg
    rw [show q0O (fitR n h p) l=some j from hb];rfl)
def qZO (r:Rule):Bool:=decide (100<r.host.size)||decide (100<r.path.size)
def bigR (l:List Rule):Bool:=decide (50<l.length)||l.any qZO
theorem q8V (g:GW) {v:Value} {l:List Rule} (hl:rSl 4 qrQ g v l):OkV Tryz.prog qzJ [v] g (.bool (bigR l)) :=
 Ok.of_fn hm noT 0 qcJ (args:=[.v v]) (by
  obtain⟨oa,cap,rfl,h1,h2,h0,hr⟩:=hl
  repeat((conv=>whnf);first|apply qza|apply qzb|apply qzc|apply qzd|apply qze|intro(_:Nat))
  conv=>whnf
  refine⟨Nat,fun k=>[.v (.int .i64 k)],fun k=>⟨g,[],_,_⟩,fun k=>k≤l.length∧(l.take k).any qZO=false,fun k=>l.length-k,qJA 0 rfl ⟨Nat.zero_le _,rfl⟩ rfl,?_⟩
  rintro k ⟨hk,hall⟩
  conv=>whnf
  refine⟨fun hlt=>?_,fun hlt=>?_⟩
  ·have h':k<l.length:=by have:=of_decide_eq_true hlt;omega
   conv=>whnf
   refine⟨fun h50=>?_,fun h50=>?_⟩
   ·obtain⟨q,hq⟩:=qCA h'
    obtain⟨a,rfl,ecq,hecq,⟨rfl,_,_⟩,hcq⟩:=hr k q hq
    have hg:∀ b,qZO q=b→(l.take (k+1)).any qZO=b:=fun b hb=>by
     obtain⟨_,hge⟩:=List.getElem?_eq_some_iff.1 hq
     rw [List.take_succ_eq_append_getElem h',List.any_append,hall,hge]
     simp [hb]
    have hbe:qZO q=true→bigR l=true:=fun hb=>by
     rw [bigR,List.any_eq_true.2 ⟨q,List.mem_of_getElem? hq,hb⟩,Bool.or_true]
    conv=>whnf
    refine⟨a,rfl,⟨by omega,by omega⟩,?_⟩
    conv=>whnf
    refine⟨_,hcq 1 _ rfl,?_⟩
    conv=>whnf
    refine⟨fun ha=>?_,fun ha=>?_⟩
    ·conv=>whnf
     intro g2 hg
     rw [hbe (by simp at ha;simp [qZO];omega)]
    ·conv=>whnf
     refine⟨a,rfl,⟨by omega,by omega⟩,?_⟩
     conv=>whnf
     refine⟨_,hcq 2 _ rfl,?_⟩
     conv=>whnf
     refine⟨fun hb=>?_,fun hb=>?_⟩
     ·conv=>whnf
      intro g2 hg
      rw [hbe (by simp at hb;simp [qZO];omega)]
     ·conv=>whnf
      refine fun fr w hw=>⟨k+1,congrArg (fun z=>[Value.int .i64 z]) (wr1 h' h1 h2).symm,⟨h',hg _ (by simp at ha hb;simp [qZO];omega)⟩,dec h',hw⟩
   ·conv=>whnf
    intro g2 hg
    have:=of_decide_eq_false h50
    rw [bigR,decide_eq_true (show 50<l.length by omega),decide_eq_true (show(50:Int)<l.length by omega)];rfl
  ·conv=>whnf
   intro g2 hg
   have:k=l.length:=by have:=of_decide_eq_false hlt;omega
   rw [this,List.take_length] at hall
   rw [bigR,hall,Bool.or_false]
   exact congrArg Value.bool (decide_eq_decide.2 (by omega)))
/- Snapshots: what is built,and their configurations: the program's and the document's answers. -/
open Go.Proofs.YthonngjhelcpeaaGreat.Sx Go.RowKit
def tS:List (Nat×FnI):=[(q3I,qXE),(qmK,qrF)]
theorem tS_ok:qQI Tryz.prog tS:=by
 intro x hx
 simp only [tS,List.mem_cons,List.not_mem_nil,or_false] at hx
 rcases hx with rfl|rfl
 ·exact⟨_,_,qkI⟩
 ·exact⟨_,_,qZK⟩
theorem q0Q (g:GW) {v:Value} {l:List BA} (hl:rSl 1 rStr g v l) (s:BA):OkV Tryz.prog qBM [v,.string s] g (.int .i64 (idxI (idxO (fun x=>bs x==bs s) l))) :=
 Ok.of_fn hm tS_ok 2 qiL (args:=[.v v,.v (.string s)]) (by
  obtain⟨oa,cap,rfl,h1,h2,h0,hr⟩:=hl
  repeat((conv=>whnf);first|apply qza|apply qzb|apply qzc|apply qzd|apply qze|intro(_:Nat))
  conv=>whnf
  refine⟨Nat,fun k=>[.v (.int .i64 k)],fun k=>⟨g,[.blk 0 _ _ [.v (.string s)]],_,_⟩,fun k=>k≤l.length∧Pass (idxF fun x=>bs x==bs s) l k,fun k=>l.length-k,qJA 0 rfl ⟨Nat.zero_le _,Pass.zero _ _⟩ rfl,?_⟩
  rintro k ⟨hk,hp⟩
  conv=>whnf
  refine⟨fun hlt=>?_,fun hlt=>?_⟩
  ·have h':k<l.length:=by have:=of_decide_eq_true hlt;omega
   obtain⟨x,hx⟩:=qCA h'
   obtain⟨a,rfl,ec,hec,rfl,hc⟩:=hr k x hx
   conv=>whnf
   refine⟨a,rfl,⟨by omega,by omega⟩,?_⟩
   conv=>whnf
   refine⟨_,hc 0 _ rfl,?_⟩
   conv=>whnf
   refine⟨qpK,?_⟩
   repeat((conv=>whnf);first|apply qza|apply qzb|apply qzc|apply qzd|apply qze|intro(_:Nat))
   conv=>whnf
   refine⟨fun he=>?_,fun he=>?_⟩
   ·conv=>whnf
    intro g2 hg
    rw [qWL hp hx he]
   ·conv=>whnf
    refine fun fr w hw=>⟨k+1,congrArg (fun z=>[Value.int .i64 z]) (wr1 h' h1 h2).symm,⟨h',q5J hp hx he⟩,dec h',?_⟩
    exact hw.fit (by simp [fitL,Res.eqv,qDA,conc])
  ·conv=>whnf
   intro g2 hg
   have:=of_decide_eq_false hlt
   rw [qZH hp (by omega)])
theorem qTW {α:Type} {f:α→Bool} {l:List α} (h:l.length≤maxLen):InR (idxI (idxO f l)):=by
 unfold maxLen at h
 cases hi:idxO f l with
 | none=>exact⟨by decide,by decide⟩
 | some i=>have:=qVW hi;exact⟨by simp only [idxI];omega,by simp only [idxI];omega⟩
theorem qmU {α β:Type} {l:List α} {f:α→List β} {k:Nat} {x:α} (hx:l[k]?=some x):((l.take (k+1)).map f).flatten=((l.take k).map f).flatten++f x:=by
 obtain⟨h1,h2⟩:=List.getElem?_eq_some_iff.1 hx
 rw [List.take_succ_eq_append_getElem h1,h2];simp
/- Snapshots: the configuration of one. -/
open Go.Proofs.YthonngjhelcpeaaGreat.Sx Go.RowKit
abbrev cRou (s:Snap) (r:Rule):List Value:=qsV (qSD s r)
theorem q2T (g:GW) {a b d:Value} {s:Snap} (hs:qmJ g [a,b,d] s) (hsz:s.rules.length≤1000000):Ok Tryz.prog qOO [.agg ⟨[a,b,d]⟩] g fun v g'=>∃ oa n cap,v=.agg ⟨[a,.slice oa n cap,d]⟩∧rSl 4 qSP g' (.slice oa n cap) (q5G s).routes:=by
 obtain⟨_,_,_,he,hl,hr,hk⟩:=hs
 cases he
 obtain⟨oa,ca,rfl,a1,a2,a0,hl1⟩:=id hl
 obtain⟨ob,cb,rfl,b1,b2,b0,hr1⟩:=id hr
 obtain⟨od,cd,rfl,d1,d2,d0,hk1⟩:=id hk
 exact Ok.of_fn hm noT 0 qrN (args:=[.v (.agg ⟨[.slice oa s.listens.length ca,.slice ob s.rules.length cb,.slice od s.clusters.length cd]⟩)]) (by
  repeat((conv=>whnf);first|apply qza|apply qzb|apply qzc|apply qzd|apply qze|intro(_:Nat)|intro(_:OA)_)
  rename_i p0 p1 p2
  conv=>whnf
  refine⟨Nat×Option Addr×Nat,fun (k,_,_)=>[.v (.int .i64 k)],fun (k,oR,cR)=>⟨g,[.row 10 oR k cR q2E 4 ((s.rules.take k).map (cRou s)).flatten,.blk 2 p2 q5D [.v (.slice oa s.listens.length ca),.row 10 oR k cR,.v (.slice od s.clusters.length cd)],.blk 1 p1 q5D [.v (.slice none 0 0),.v (.slice none 0 0),.v (.slice none 0 0)],.blk 0 p0 qyA [.v (.slice oa s.listens.length ca),.v (.slice ob s.rules.length cb),.v (.slice od s.clusters.length cd)]],40,g.w.heap.size⟩,fun (k,_,_)=>k≤s.rules.length,fun (k,_,_)=>s.rules.length-k,?_,?_⟩
  ·intro fr w hw
   exact⟨(0,none,0),rfl,Nat.zero_le _,(hw.nil_row (nx':=40) 10 q2E 4).fit (by simp [fitL,Res.eqv,qDA,conc])⟩
  rintro⟨k,oR,cR⟩ hkk
  have hkk:k≤s.rules.length:=hkk
  repeat((conv=>whnf);first|apply qza|apply qzb|apply qzc|apply qzd|apply qze|intro(_:Nat)|intro(_:OA)_)
  conv=>whnf
  refine⟨fun hlt=>?_,fun hlt=>?_⟩
  ·have h':k<s.rules.length:=by have:=of_decide_eq_true hlt;omega
   obtain⟨⟨rl,rh,rp,rc⟩,hx⟩:=qCA h'
   obtain⟨a,rfl,ec,hec,⟨rfl,_,_⟩,hc⟩:=hr1 k _ hx
   have hT:=qmU (f:=cRou s) hx
   repeat((conv=>whnf);first|apply qza|apply qzb|apply qzc|apply qzd|apply qze|intro(_:Nat)|intro(_:OA)_)
   conv=>whnf
   refine⟨a,rfl,⟨by omega,by omega⟩,?_⟩
   conv=>whnf
   refine⟨_,⟨rfl,hc⟩,?_⟩
   repeat((conv=>whnf);first|apply qza|apply qzb|apply qzc|apply qzd|apply qze|intro(_:Nat)|intro(_:OA)_)
   by_cases hA:0≤rl∧rl<s.listens.length
   ·obtain⟨n,rfl⟩:=Int.eq_ofNat_of_zero_le hA.1
    obtain⟨y,hy⟩:=qCA (show n<s.listens.length by omega)
    obtain⟨aL,rfl,ecL,hecL,rfl,hcL⟩:=hl1 n y hy
    have hAn:qiP s.listens (n:Int)=y:=by unfold qiP;rw [if_pos hA];simp [hy]
    conv=>whnf
    refine⟨fun _=>?_,fun hx=>absurd (((decide_eq_true hA.1)).symm.trans hx) (by decide)⟩
    repeat((conv=>whnf);first|apply qza|apply qzb|apply qzc|apply qzd|apply qze|intro(_:Nat)|intro(_:OA)_)
    conv=>whnf
    refine⟨fun _=>?_,fun hx=>absurd (((decide_eq_true hA.2)).symm.trans hx) (by decide)⟩
    repeat((conv=>whnf);first|apply qza|apply qzb|apply qzc|apply qzd|apply qze|intro(_:Nat)|intro(_:OA)_)
    conv=>whnf
    refine⟨aL,rfl,⟨hA.1,hA.2⟩,?_⟩
    conv=>whnf
    refine⟨_,hcL 0 _ rfl,?_⟩
    repeat((conv=>whnf);first|apply qza|apply qzb|apply qzc|apply qzd|apply qze|intro(_:Nat)|intro(_:OA)_)
    by_cases hC:0≤rc∧rc<s.clusters.length
    ·obtain⟨m,rfl⟩:=Int.eq_ofNat_of_zero_le hC.1
     obtain⟨z,hz⟩:=qCA (show m<s.clusters.length by omega)
     obtain⟨aC,rfl,ecC,hecC,⟨hv,rfl,_,_,_,_,rfl,_⟩,hcC⟩:=hk1 m z hz
     have hCn:qeE s.clusters (m:Int)=z.name:=by unfold qeE;rw [if_pos hC];simp [hz]
     conv=>whnf
     refine⟨fun _=>?_,fun hx=>absurd (((decide_eq_true hC.1)).symm.trans hx) (by decide)⟩
     repeat((conv=>whnf);first|apply qza|apply qzb|apply qzc|apply qzd|apply qze|intro(_:Nat)|intro(_:OA)_)
     conv=>whnf
     refine⟨fun _=>?_,fun hx=>absurd (((decide_eq_true hC.2)).symm.trans hx) (by decide)⟩
     repeat((conv=>whnf);first|apply qza|apply qzb|apply qzc|apply qzd|apply qze|intro(_:Nat)|intro(_:OA)_)
     conv=>whnf
     refine⟨aC,rfl,⟨hC.1,hC.2⟩,?_⟩
     conv=>whnf
     refine⟨_,hcC 0 _ rfl,?_⟩
     repeat((conv=>whnf);first|apply qza|apply qzb|apply qzc|apply qzd|apply qze|intro(_:Nat)|intro(_:OA)_)
     conv=>whnf
     refine⟨⟨by unfold maxLen;omega,by omega⟩,fun oa2 cap2=>?_⟩
     repeat((conv=>whnf);first|apply qza|apply qzb|apply qzc|apply qzd|apply qze|intro(_:Nat)|intro(_:OA)_)
     conv=>whnf
     refine fun fr w hw=>⟨(k+1,oa2,cap2),congrArg (fun z=>[Value.int .i64 z]) (wr1 h' b1 b2).symm,h',dec h',hw.fit ?_⟩
     simp only [hT]
     simp [fitL,Res.eqv,qDA,conc,qSD,hAn,hCn]
    have hCn:qeE s.clusters rc=⟨#[]⟩:=by unfold qeE;rw [if_neg hC]
    by_cases hC0:0≤rc
    ·conv=>whnf
     refine⟨fun _=>?_,fun hx=>absurd (((decide_eq_true hC0)).symm.trans hx) (by decide)⟩
     repeat((conv=>whnf);first|apply qza|apply qzb|apply qzc|apply qzd|apply qze|intro(_:Nat)|intro(_:OA)_)
     conv=>whnf
     refine⟨fun hx=>absurd (hx.symm.trans ((decide_eq_false (show ¬ rc<s.clusters.length from fun h=>hC ⟨hC0,h⟩)))) (by decide),fun _=>?_⟩
     repeat((conv=>whnf);first|apply qza|apply qzb|apply qzc|apply qzd|apply qze|intro(_:Nat)|intro(_:OA)_)
     conv=>whnf
     refine⟨⟨by unfold maxLen;omega,by omega⟩,fun oa2 cap2=>?_⟩
     repeat((conv=>whnf);first|apply qza|apply qzb|apply qzc|apply qzd|apply qze|intro(_:Nat)|intro(_:OA)_)
     conv=>whnf
     refine fun fr w hw=>⟨(k+1,oa2,cap2),congrArg (fun z=>[Value.int .i64 z]) (wr1 h' b1 b2).symm,h',dec h',hw.fit ?_⟩
     simp only [hT]
     simp [fitL,Res.eqv,qDA,conc,qSD,hAn,hCn]
    ·conv=>whnf
     refine⟨fun hx=>absurd (hx.symm.trans ((decide_eq_false hC0))) (by decide),fun _=>?_⟩
     repeat((conv=>whnf);first|apply qza|apply qzb|apply qzc|apply qzd|apply qze|intro(_:Nat)|intro(_:OA)_)
     conv=>whnf
     refine⟨⟨by unfold maxLen;omega,by omega⟩,fun oa2 cap2=>?_⟩
     repeat((conv=>whnf);first|apply qza|apply qzb|apply qzc|apply qzd|apply qze|intro(_:Nat)|intro(_:OA)_)
     conv=>whnf
     refine fun fr w hw=>⟨(k+1,oa2,cap2),congrArg (fun z=>[Value.int .i64 z]) (wr1 h' b1 b2).symm,h',dec h',hw.fit ?_⟩
     simp only [hT]
     simp [fitL,Res.eqv,qDA,conc,qSD,hAn,hCn]
   have hAn:qiP s.listens rl=⟨#[]⟩:=by unfold qiP;rw [if_neg hA]
   by_cases hA0:0≤rl
   ·conv=>whnf
    refine⟨fun _=>?_,fun hx=>absurd (((decide_eq_true hA0)).symm.trans hx) (by decide)⟩
    repeat((conv=>whnf);first|apply qza|apply qzb|apply qzc|apply qzd|apply qze|intro(_:Nat)|intro(_:OA)_)
    conv=>whnf
    refine⟨fun hx=>absurd (hx.symm.trans ((decide_eq_false (show ¬ rl<s.listens.length from fun h=>hA ⟨hA0,h⟩)))) (by decide),fun _=>?_⟩
    repeat((conv=>whnf);first|apply qza|apply qzb|apply qzc|apply qzd|apply qze|intro(_:Nat)|intro(_:OA)_)
    by_cases hC:0≤rc∧rc<s.clusters.length
    ·obtain⟨m,rfl⟩:=Int.eq_ofNat_of_zero_le hC.1
     obtain⟨z,hz⟩:=qCA (show m<s.clusters.length by omega)
     obtain⟨aC,rfl,ecC,hecC,⟨hv,rfl,_,_,_,_,rfl,_⟩,hcC⟩:=hk1 m z hz
     have hCn:qeE s.clusters (m:Int)=z.name:=by unfold qeE;rw [if_pos hC];simp [hz]
     conv=>whnf
     refine⟨fun _=>?_,fun hx=>absurd (((decide_eq_true hC.1)).symm.trans hx) (by decide)⟩
     repeat((conv=>whnf);first|apply qza|apply qzb|apply qzc|apply qzd|apply qze|intro(_:Nat)|intro(_:OA)_)
     conv=>whnf
     refine⟨fun _=>?_,fun hx=>absurd (((decide_eq_true hC.2)).symm.trans hx) (by decide)⟩
     repeat((conv=>whnf);first|apply qza|apply qzb|apply qzc|apply qzd|apply qze|intro(_:Nat)|intro(_:OA)_)
     conv=>whnf
     refine⟨aC,rfl,⟨hC.1,hC.2⟩,?_⟩
     conv=>whnf
     refine⟨_,hcC 0 _ rfl,?_⟩
     repeat((conv=>whnf);first|apply qza|apply qzb|apply qzc|apply qzd|apply qze|intro(_:Nat)|intro(_:OA)_)
     conv=>whnf
     refine⟨⟨by unfold maxLen;omega,by omega⟩,fun oa2 cap2=>?_⟩
     repeat((conv=>whnf);first|apply qza|apply qzb|apply qzc|apply qzd|apply qze|intro(_:Nat)|intro(_:OA)_)
     conv=>whnf
     refine fun fr w hw=>⟨(k+1,oa2,cap2),congrArg (fun z=>[Value.int .i64 z]) (wr1 h' b1 b2).symm,h',dec h',hw.fit ?_⟩
     simp only [hT]
     simp [fitL,Res.eqv,qDA,conc,qSD,hAn,hCn]
    have hCn:qeE s.clusters rc=⟨#[]⟩:=by unfold qeE;rw [if_neg hC]
    by_cases hC0:0≤rc
    ·conv=>whnf
     refine⟨fun _=>?_,fun hx=>absurd (((decide_eq_true hC0)).symm.trans hx) (by decide)⟩
     repeat((conv=>whnf);first|apply qza|apply qzb|apply qzc|apply qzd|apply qze|intro(_:Nat)|intro(_:OA)_)
     conv=>whnf
     refine⟨fun hx=>absurd (hx.symm.trans ((decide_eq_false (show ¬ rc<s.clusters.length from fun h=>hC ⟨hC0,h⟩)))) (by decide),fun _=>?_⟩
     repeat((conv=>whnf);first|apply qza|apply qzb|apply qzc|apply qzd|apply qze|intro(_:Nat)|intro(_:OA)_)
     conv=>whnf
     refine⟨⟨by unfold maxLen;omega,by omega⟩,fun oa2 cap2=>?_⟩
     repeat((conv=>whnf);first|apply qza|apply qzb|apply qzc|apply qzd|apply qze|intro(_:Nat)|intro(_:OA)_)
     conv=>whnf
     refine fun fr w hw=>⟨(k+1,oa2,cap2),congrArg (fun z=>[Value.int .i64 z]) (wr1 h' b1 b2).symm,h',dec h',hw.fit ?_⟩
     simp only [hT]
     simp [fitL,Res.eqv,qDA,conc,qSD,hAn,hCn]
    ·conv=>whnf
     refine⟨fun hx=>absurd (hx.symm.trans ((decide_eq_false hC0))) (by decide),fun _=>?_⟩
     repeat((conv=>whnf);first|apply qza|apply qzb|apply qzc|apply qzd|apply qze|intro(_:Nat)|intro(_:OA)_)
     conv=>whnf
     refine⟨⟨by unfold maxLen;omega,by omega⟩,fun oa2 cap2=>?_⟩
     repeat((conv=>whnf);first|apply qza|apply qzb|apply qzc|apply qzd|apply qze|intro(_:Nat)|intro(_:OA)_)
     conv=>whnf
     refine fun fr w hw=>⟨(k+1,oa2,cap2),congrArg (fun z=>[Value.int .i64 z]) (wr1 h' b1 b2).symm,h',dec h',hw.fit ?_⟩
     simp only [hT]
     simp [fitL,Res.eqv,qDA,conc,qSD,hAn,hCn]
   ·conv=>whnf
    refine⟨fun hx=>absurd (hx.symm.trans ((decide_eq_false hA0))) (by decide),fun _=>?_⟩
    repeat((conv=>whnf);first|apply qza|apply qzb|apply qzc|apply qzd|apply qze|intro(_:Nat)|intro(_:OA)_)
    by_cases hC:0≤rc∧rc<s.clusters.length
    ·obtain⟨m,rfl⟩:=Int.eq_ofNat_of_zero_le hC.1
     obtain⟨z,hz⟩:=qCA (show m<s.clusters.length by omega)
     obtain⟨aC,rfl,ecC,hecC,⟨hv,rfl,_,_,_,_,rfl,_⟩,hcC⟩:=hk1 m z hz
     have hCn:qeE s.clusters (m:Int)=z.name:=by unfold qeE;rw [if_pos hC];simp [hz]
     conv=>whnf
     refine⟨fun _=>?_,fun hx=>absurd (((decide_eq_true hC.1)).symm.trans hx) (by decide)⟩
     repeat((conv=>whnf);first|apply qza|apply qzb|apply qzc|apply qzd|apply qze|intro(_:Nat)|intro(_:OA)_)
     conv=>whnf
     refine⟨fun _=>?_,fun hx=>absurd (((decide_eq_true hC.2)).symm.trans hx) (by decide)⟩
     repeat((conv=>whnf);first|apply qza|apply qzb|apply qzc|apply qzd|apply qze|intro(_:Nat)|intro(_:OA)_)
     conv=>whnf
     refine⟨aC,rfl,⟨hC.1,hC.2⟩,?_⟩
     conv=>whnf
     refine⟨_,hcC 0 _ rfl,?_⟩
     repeat((conv=>whnf);first|apply qza|apply qzb|apply qzc|apply qzd|apply qze|intro(_:Nat)|intro(_:OA)_)
     conv=>whnf
     refine⟨⟨by unfold maxLen;omega,by omega⟩,fun oa2 cap2=>?_⟩
     repeat((conv=>whnf);first|apply qza|apply qzb|apply qzc|apply qzd|apply qze|intro(_:Nat)|intro(_:OA)_)
     conv=>whnf
     refine fun fr w hw=>⟨(k+1,oa2,cap2),congrArg (fun z=>[Value.int .i64 z]) (wr1 h' b1 b2).symm,h',dec h',hw.fit ?_⟩
     simp only [hT]
     simp [fitL,Res.eqv,qDA,conc,qSD,hAn,hCn]
    have hCn:qeE s.clusters rc=⟨#[]⟩:=by unfold qeE;rw [if_neg hC]
    by_cases hC0:0≤rc
    ·conv=>whnf
     refine⟨fun _=>?_,fun hx=>absurd (((decide_eq_true hC0)).symm.trans hx) (by decide)⟩
     repeat((conv=>whnf);first|apply qza|apply qzb|apply qzc|apply qzd|apply qze|intro(_:Nat)|intro(_:OA)_)
     conv=>whnf
     refine⟨fun hx=>absurd (hx.symm.trans ((decide_eq_false (show ¬ rc<s.clusters.length from fun h=>hC ⟨hC0,h⟩)))) (by decide),fun _=>?_⟩
     repeat((conv=>whnf);first|apply qza|apply qzb|apply qzc|apply qzd|apply qze|intro(_:Nat)|intro(_:OA)_)
     conv=>whnf
     refine⟨⟨by unfold maxLen;omega,by omega⟩,fun oa2 cap2=>?_⟩
     repeat((conv=>whnf);first|apply qza|apply qzb|apply qzc|apply qzd|apply qze|intro(_:Nat)|intro(_:OA)_)
     conv=>whnf
     refine fun fr w hw=>⟨(k+1,oa2,cap2),congrArg (fun z=>[Value.int .i64 z]) (wr1 h' b1 b2).symm,h',dec h',hw.fit ?_⟩
     simp only [hT]
     simp [fitL,Res.eqv,qDA,conc,qSD,hAn,hCn]
    ·conv=>whnf
     refine⟨fun hx=>absurd (hx.symm.trans ((decide_eq_false hC0))) (by decide),fun _=>?_⟩
     repeat((conv=>whnf);first|apply qza|apply qzb|apply qzc|apply qzd|apply qze|intro(_:Nat)|intro(_:OA)_)
     conv=>whnf
     refine⟨⟨by unfold maxLen;omega,by omega⟩,fun oa2 cap2=>?_⟩
     repeat((conv=>whnf);first|apply qza|apply qzb|apply qzc|apply qzd|apply qze|intro(_:Nat)|intro(_:OA)_)
     conv=>whnf
     refine fun fr w hw=>⟨(k+1,oa2,cap2),congrArg (fun z=>[Value.int .i64 z]) (wr1 h' b1 b2).symm,h',dec h',hw.fit ?_⟩
     simp only [hT]
     simp [fitL,Res.eqv,qDA,conc,qSD,hAn,hCn]
  have hz1:k=s.rules.length:=by have:=of_decide_eq_false hlt;omega
  subst hz1
  repeat((conv=>whnf);first|apply qza|apply qzb|apply qzc|apply qzd|apply qze|intro(_:Nat)|intro(_:OA)_)
  conv=>whnf
  refine fun g1 hg1 hn1 hp1=>?_
  conv=>whnf
  intro g2 hg
  refine⟨_,_,_,rfl,(qvL hp1.rd (q5G s).routes qsV ?_ (by simp [q5G]) (fun _ _=>rfl) fun _ _=>rfl).mono qwL hg⟩
  rw [List.take_of_length_le (Nat.le_refl _)];simp [q5G,List.map_map,Function.comp_def])
end Go.Proofs.YthonngjhelcpeaaGreat
