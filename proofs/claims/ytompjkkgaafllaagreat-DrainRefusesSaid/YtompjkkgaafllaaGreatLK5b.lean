/- Whether a configuration may be: the routes, and the whole. -/
import Derived.Test.YtompjkkgaafllaaGreatLB1
import Derived.Test.YtompjkkgaafllaaGreatPl
set_option linter.unusedVariables false
set_option linter.unusedSimpArgs false
namespace Go.Proofs.YtompjkkgaafllaaGreat
open Go.Proofs.YtompjkkgaafllaaGreat.Sx
set_option maxHeartbeats 16000000
set_option maxRecDepth 100000
theorem q3K (g:GW) {cs:List Value} {c:Config} (hc:q3C g cs c):OkV Tryz.prog qNC [.agg ⟨cs⟩] g (eiT (qxF c)):=by
 obtain⟨a,b,d,rfl,hl,hr,hk⟩:=hc
 obtain⟨oa,ca,rfl,a1,a2,a0,hl1⟩:=id hl
 obtain⟨ob,cb,rfl,b1,b2,b0,hr1⟩:=id hr
 obtain⟨od,cd,rfl,d1,d2,d0,hk1⟩:=id hk
 exact Ok.of_fn hm noT 0 qaE (args:=[.v (.agg ⟨[.slice oa c.listens.length ca,.slice ob c.routes.length cb,.slice od c.clusters.length cd]⟩)]) (by
  repeat((conv=>whnf);first|apply qza|apply qzb|apply qzc|apply qzd|apply qze|intro(_:Nat))
  conv=>whnf
  refine⟨Nat,fun k=>[.v (.int .i64 k)],fun k=>⟨g,[.blk 0 _ _ [.v (.slice oa c.listens.length ca),.v (.slice ob c.routes.length cb),.v (.slice od c.clusters.length cd)]],_,_⟩,fun k=>k≤c.routes.length∧Pass (qcE c) c.routes k,fun k=>c.routes.length-k,qMA 0 rfl ⟨Nat.zero_le _,Pass.zero _ _⟩ rfl,?_⟩
  rintro k ⟨hkk,hp⟩
  conv=>whnf
  refine⟨fun hlt=>?_,fun hlt=>?_⟩
  ·have h':k<c.routes.length:=by have:=of_decide_eq_true hlt;omega
   obtain⟨x,hx⟩:=qBA h'
   obtain⟨a,rfl,ec,hec,rfl,hc⟩:=hr1 k x hx
   have hit:∀ e:EI,qcE c k x=some e→qxF c=some e:=fun e he=>hp.hit hx he
   conv=>whnf
   refine⟨a,rfl,⟨by omega,by omega⟩,?_⟩
   conv=>whnf
   refine⟨_,⟨rfl,hc⟩,?_⟩
   repeat((conv=>whnf);first|apply qza|apply qzb|apply qzc|apply qzd|apply qze|intro(_:Nat))
   conv=>whnf
   refine .inl ⟨_,qoJ _ hl _,?_⟩
   conv=>whnf
   refine⟨fun h1=>?_,fun h1=>?_⟩
   ·conv=>whnf
    intro g2 hg
    rw [hit (5,k) (by rw [qcE,if_neg (by simp [nb1 h1])])];rfl
   have h1:=nb0 h1
   repeat((conv=>whnf);first|apply qza|apply qzb|apply qzc|apply qzd|apply qze|intro(_:Nat))
   conv=>whnf
   refine .inl ⟨_,qbI _ _,?_⟩
   conv=>whnf
   refine⟨fun h2=>?_,fun h2=>?_⟩
   ·conv=>whnf
    intro g2 hg
    rw [hit (7,k) (by rw [qcE,if_pos h1,if_neg (by simp [nb1 h2])])];rfl
   have h2:=nb0 h2
   repeat((conv=>whnf);first|apply qza|apply qzb|apply qzc|apply qzd|apply qze|intro(_:Nat))
   conv=>whnf
   refine .inl ⟨_,qcO _ _,?_⟩
   conv=>whnf
   refine⟨fun h3=>?_,fun h3=>?_⟩
   ·conv=>whnf
    intro g2 hg
    rw [hit (8,k) (by rw [qcE,if_pos h1,if_pos h2,if_neg (by simp [nb1 h3])])];rfl
   have h3:=nb0 h3
   repeat((conv=>whnf);first|apply qza|apply qzb|apply qzc|apply qzd|apply qze|intro(_:Nat))
   conv=>whnf
   refine .inl ⟨_,qPP _ hk _,?_⟩
   conv=>whnf
   refine⟨fun h4=>?_,fun h4=>?_⟩
   ·conv=>whnf
    intro g2 hg
    rw [hit (5,k) (by rw [qcE,if_pos h1,if_pos h2,if_pos h3,if_neg (by simp [nb1 h4])])];rfl
   have h4:=nb0 h4
   repeat((conv=>whnf);first|apply qza|apply qzb|apply qzc|apply qzd|apply qze|intro(_:Nat))
   conv=>whnf
   refine⟨⟨by omega,by omega⟩,?_⟩
   repeat((conv=>whnf);first|apply qza|apply qzb|apply qzc|apply qzd|apply qze|intro(_:Nat))
   conv=>whnf
   refine⟨Nat,fun m=>[.v (.int .i64 m)],fun m=>⟨g,[.blk 1 _ _ [.v (.string x.listen),.v (.string x.host),.v (.string x.path),.v (.string ⟨#[]⟩)],.blk 0 _ _ [.v (.slice oa c.listens.length ca),.v (.slice (some a) c.routes.length cb),.v (.slice od c.clusters.length cd)]],_,_⟩,fun m=>m≤k∧(∀ j y,j<m→c.routes[j]?=some y→eqRt y x=false),fun m=>k-m,qMA 0 rfl ⟨Nat.zero_le _,fun j y hj=>by omega⟩ rfl,?_⟩
   rintro m ⟨hmk,hq⟩
   conv=>whnf
   refine⟨fun hml=>?_,fun hml=>?_⟩
   ·have hm':m<k:=by have:=of_decide_eq_true hml;simp at this;omega
    obtain⟨y,hy⟩:=qBA (show m<c.routes.length by omega)
    obtain⟨a',ha',ecy,hecy,rfl,hcy⟩:=hr1 m y hy
    cases ha'
    conv=>whnf
    refine⟨a,rfl,⟨by omega,by simp;omega⟩,?_⟩
    conv=>whnf
    refine⟨_,⟨rfl,hcy⟩,?_⟩
    repeat((conv=>whnf);first|apply qza|apply qzb|apply qzc|apply qzd|apply qze|intro(_:Nat))
    conv=>whnf
    refine⟨fun he=>?_,fun he=>?_⟩
    ·conv=>whnf
     intro g2 hg
     have he:eqRt y x=true:=by simpa [eqRt,Bool.and_assoc] using he
     rw [hit (4,k) (by rw [qcE,if_pos h1,if_pos h2,if_pos h3,if_pos h4,if_pos];exact List.any_eq_true.2 ⟨y,List.mem_of_getElem? (show(c.routes.take k)[m]?=some y by rw [List.getElem?_take,if_pos hm'];exact hy),he⟩)];rfl
    ·conv=>whnf
     refine fun fr w hw=>⟨m+1,congrArg (fun z=>[Value.int .i64 z]) (wr1 hm' (Nat.le_of_lt (Nat.lt_of_lt_of_le h' b1)) b2).symm,⟨hm',?_⟩,dec hm',?_⟩
     ·have he:eqRt y x=false:=by simpa [eqRt,Bool.and_assoc] using he
      intro j z hj hz
      rcases Nat.lt_or_ge j m with c1|c1
      ·exact hq j z c1 hz
      ·obtain rfl:j=m:=by omega
       rw [hy] at hz;cases hz;exact he
     ·exact hw.fit (by simp [fitL,Res.eqv,qAA,conc])
   ·conv=>whnf
    refine fun fr w hw=>⟨k+1,congrArg (fun z=>[Value.int .i64 z]) (wr1 h' b1 b2).symm,⟨h',hp.succ hx (by rw [qcE,if_pos h1,if_pos h2,if_pos h3,if_pos h4,if_neg];have:=of_decide_eq_false hml;rw [any_take.2 fun j y hj=>hq j y (by omega)];simp)⟩,dec h',?_⟩
    exact hw.fit (by simp [fitL,Res.eqv,qAA,conc])
  ·conv=>whnf
   intro g2 hg
   have:=of_decide_eq_false hlt
   rw [show qxF c=none from hp.done (by omega)];rfl)
theorem qsN (o:Option EI):(o=none∧eiT o=.tuple #[.int .i64 0,.int .i64 0])∨∃ e i,o=some (e,i)∧eiT o=.tuple #[.int .i64 e,.int .i64 i]:=by
 cases o with
 | none=>exact .inl ⟨rfl,rfl⟩
 | some x=>exact .inr ⟨x.1,x.2,rfl,rfl⟩
theorem qRP (g:GW) {cs:List Value} {c:Config} (hc:q3C g cs c):OkV Tryz.prog qlK [.agg ⟨cs⟩] g (eiT (qHB c)):=by
 have hc0:=hc
 obtain⟨a,b,d,rfl,hl,hr,hk⟩:=hc
 obtain⟨oa,ca,rfl,a1,a2,a0,hl1⟩:=id hl
 obtain⟨ob,cb,rfl,b1,b2,b0,hr1⟩:=id hr
 obtain⟨od,cd,rfl,d1,d2,d0,hk1⟩:=id hk
 exact Ok.of_fn hm noT 0 qcK (args:=[.v (.agg ⟨[.slice oa c.listens.length ca,.slice ob c.routes.length cb,.slice od c.clusters.length cd]⟩)]) (by
  repeat((conv=>whnf);first|apply qza|apply qzb|apply qzc|apply qzd|apply qze|intro(_:Nat))
  conv=>whnf
  refine⟨Nat,fun k=>[.v (.int .i64 k)],fun _=>⟨g,[.blk 2 _ _ [.fn (.func quC) [.agg [.v (.slice oa c.listens.length ca),.v (.slice ob c.routes.length cb),.v (.slice od c.clusters.length cd)]] [],.fn (.func q8B) [.agg [.v (.slice oa c.listens.length ca),.v (.slice ob c.routes.length cb),.v (.slice od c.clusters.length cd)]] [],.fn (.func qtB) [.agg [.v (.slice oa c.listens.length ca),.v (.slice ob c.routes.length cb),.v (.slice od c.clusters.length cd)]] [],.fn (.func qNC) [.agg [.v (.slice oa c.listens.length ca),.v (.slice ob c.routes.length cb),.v (.slice od c.clusters.length cd)]] []],.blk 1 _ _ [.v (.slice oa c.listens.length ca),.v (.slice ob c.routes.length cb),.v (.slice od c.clusters.length cd)],.blk 0 _ _ [.v (.slice oa c.listens.length ca),.v (.slice ob c.routes.length cb),.v (.slice od c.clusters.length cd)]],_,_⟩,fun k=>k≤4∧(1≤k→qdK c=none)∧(2≤k→qfD c=none)∧(3≤k→qOD c=none)∧(4≤k→qxF c=none),fun k=>4-k,qMA 0 rfl ⟨by omega,by omega,by omega,by omega,by omega⟩ rfl,?_⟩
  rintro k ⟨hk4,j1,j2,j3,j4⟩
  obtain rfl|rfl|rfl|rfl|rfl:k=0∨k=1∨k=2∨k=3∨k=4:=by omega
  ·obtain⟨h0,hv⟩|⟨e,i,h0,hv⟩:=qsN (qdK c)
   ·conv=>whnf
    refine⟨fun _=>?_,fun h=>nomatch h⟩
    conv=>whnf
    refine⟨0,⟨rfl,by decide⟩,?_⟩
    repeat((conv=>whnf);first|apply qza|apply qzb|apply qzc|apply qzd|apply qze|intro(_:Nat))
    conv=>whnf
    refine⟨qwC,?_⟩
    conv=>whnf
    refine .inl ⟨_,(qQP _ hc0).to hv,?_⟩
    conv=>whnf
    refine⟨fun h=>(nomatch h),fun _=>?_⟩
    conv=>whnf
    refine fun fr w hw=>⟨1,rfl,⟨by omega,fun _=>h0,fun h=>absurd h (by omega),fun h=>absurd h (by omega),fun h=>absurd h (by omega)⟩,by decide,?_⟩
    exact hw.fit (by simp [fitL,Res.eqv,qAA,conc])
   ·have hck:qHB c=some (e,i):=by rw [qHB,h0]
    have hne:=qKG hck
    conv=>whnf
    refine⟨fun _=>?_,fun h=>nomatch h⟩
    conv=>whnf
    refine⟨0,⟨rfl,by decide⟩,?_⟩
    repeat((conv=>whnf);first|apply qza|apply qzb|apply qzc|apply qzd|apply qze|intro(_:Nat))
    conv=>whnf
    refine⟨qwC,?_⟩
    conv=>whnf
    refine .inl ⟨_,(qQP _ hc0).to hv,?_⟩
    conv=>whnf
    refine⟨fun _=>?_,fun hx=>absurd hx (by simp;omega)⟩
    conv=>whnf
    intro g2 hg
    rw [hck];rfl
  ·obtain⟨h0,hv⟩|⟨e,i,h0,hv⟩:=qsN (qfD c)
   ·conv=>whnf
    refine⟨fun _=>?_,fun h=>nomatch h⟩
    conv=>whnf
    refine⟨1,⟨rfl,by decide⟩,?_⟩
    repeat((conv=>whnf);first|apply qza|apply qzb|apply qzc|apply qzd|apply qze|intro(_:Nat))
    conv=>whnf
    refine⟨q9B,?_⟩
    conv=>whnf
    refine .inl ⟨_,(qmJ _ hc0).to hv,?_⟩
    conv=>whnf
    refine⟨fun h=>(nomatch h),fun _=>?_⟩
    conv=>whnf
    refine fun fr w hw=>⟨2,rfl,⟨by omega,fun _=>j1 (by omega),fun _=>h0,fun h=>absurd h (by omega),fun h=>absurd h (by omega)⟩,by decide,?_⟩
    exact hw.fit (by simp [fitL,Res.eqv,qAA,conc])
   ·have hck:qHB c=some (e,i):=by rw [qHB,j1 (by omega),h0]
    have hne:=qKG hck
    conv=>whnf
    refine⟨fun _=>?_,fun h=>nomatch h⟩
    conv=>whnf
    refine⟨1,⟨rfl,by decide⟩,?_⟩
    repeat((conv=>whnf);first|apply qza|apply qzb|apply qzc|apply qzd|apply qze|intro(_:Nat))
    conv=>whnf
    refine⟨q9B,?_⟩
    conv=>whnf
    refine .inl ⟨_,(qmJ _ hc0).to hv,?_⟩
    conv=>whnf
    refine⟨fun _=>?_,fun hx=>absurd hx (by simp;omega)⟩
    conv=>whnf
    intro g2 hg
    rw [hck];rfl
  ·obtain⟨h0,hv⟩|⟨e,i,h0,hv⟩:=qsN (qOD c)
   ·conv=>whnf
    refine⟨fun _=>?_,fun h=>nomatch h⟩
    conv=>whnf
    refine⟨2,⟨rfl,by decide⟩,?_⟩
    repeat((conv=>whnf);first|apply qza|apply qzb|apply qzc|apply qzd|apply qze|intro(_:Nat))
    conv=>whnf
    refine⟨quB,?_⟩
    conv=>whnf
    refine .inl ⟨_,(qwI _ hc0).to hv,?_⟩
    conv=>whnf
    refine⟨fun h=>(nomatch h),fun _=>?_⟩
    conv=>whnf
    refine fun fr w hw=>⟨3,rfl,⟨by omega,fun _=>j1 (by omega),fun _=>j2 (by omega),fun _=>h0,fun h=>absurd h (by omega)⟩,by decide,?_⟩
    exact hw.fit (by simp [fitL,Res.eqv,qAA,conc])
   ·have hck:qHB c=some (e,i):=by rw [qHB,j1 (by omega),j2 (by omega),h0]
    have hne:=qKG hck
    conv=>whnf
    refine⟨fun _=>?_,fun h=>nomatch h⟩
    conv=>whnf
    refine⟨2,⟨rfl,by decide⟩,?_⟩
    repeat((conv=>whnf);first|apply qza|apply qzb|apply qzc|apply qzd|apply qze|intro(_:Nat))
    conv=>whnf
    refine⟨quB,?_⟩
    conv=>whnf
    refine .inl ⟨_,(qwI _ hc0).to hv,?_⟩
    conv=>whnf
    refine⟨fun _=>?_,fun hx=>absurd hx (by simp;omega)⟩
    conv=>whnf
    intro g2 hg
    rw [hck];rfl
  ·obtain⟨h0,hv⟩|⟨e,i,h0,hv⟩:=qsN (qxF c)
   ·conv=>whnf
    refine⟨fun _=>?_,fun h=>nomatch h⟩
    conv=>whnf
    refine⟨3,⟨rfl,by decide⟩,?_⟩
    repeat((conv=>whnf);first|apply qza|apply qzb|apply qzc|apply qzd|apply qze|intro(_:Nat))
    conv=>whnf
    refine⟨qOC,?_⟩
    conv=>whnf
    refine .inl ⟨_,(q3K _ hc0).to hv,?_⟩
    conv=>whnf
    refine⟨fun h=>(nomatch h),fun _=>?_⟩
    conv=>whnf
    refine fun fr w hw=>⟨4,rfl,⟨by omega,fun _=>j1 (by omega),fun _=>j2 (by omega),fun _=>j3 (by omega),fun _=>h0⟩,by decide,?_⟩
    exact hw.fit (by simp [fitL,Res.eqv,qAA,conc])
   ·have hck:qHB c=some (e,i):=by rw [qHB,j1 (by omega),j2 (by omega),j3 (by omega),h0]
    have hne:=qKG hck
    conv=>whnf
    refine⟨fun _=>?_,fun h=>nomatch h⟩
    conv=>whnf
    refine⟨3,⟨rfl,by decide⟩,?_⟩
    repeat((conv=>whnf);first|apply qza|apply qzb|apply qzc|apply qzd|apply qze|intro(_:Nat))
    conv=>whnf
    refine⟨qOC,?_⟩
    conv=>whnf
    refine .inl ⟨_,(q3K _ hc0).to hv,?_⟩
    conv=>whnf
    refine⟨fun _=>?_,fun hx=>absurd hx (by simp;omega)⟩
    conv=>whnf
    intro g2 hg
    rw [hck];rfl
  ·conv=>whnf
   refine⟨fun h=>(nomatch h),fun _=>?_⟩
   conv=>whnf
   intro g2 hg
   rw [show qHB c=none from by rw [qHB,j1 (by omega),j2 (by omega),j3 (by omega),j4 (by omega)]];rfl)
/- Whether a configuration may be: the document's answer. -/
open Go.Proofs.YtompjkkgaafllaaGreat.Sx
/- Whether a configuration may be: what is too big to be looked at. -/
open Go.Proofs.YtompjkkgaafllaaGreat.Sx
abbrev qAT (r:Route):List Value:=[.string r.listen,.string r.host,.string r.path,.string r.cluster]
/- Which hosts and paths are meant: the program's and the document's answers. -/
open Go.Proofs.YtompjkkgaafllaaGreat.Sx
abbrev Sm (s:BA):Prop:=s.size≤1000000
theorem qwU {s p:BA}:(cutP s p).size≤s.size:=by
 unfold cutP
 split
 ·rw [qQA,qkD,qQA s];simp
 ·exact Nat.le_refl _
theorem qSS (g:GW) (p h:BA) (hs:Sm p∧Sm h):OkV Tryz.prog qAM [.string p,.string h] g (.bool (q0H (bs p) (bs h))) :=
 Ok.of_fn hm noT 0 qeL (args:=[.v (.string p),.v (.string h)]) (by
  conv=>whnf
  refine .inl ⟨_,qbI _ _,?_⟩
  conv=>whnf
  refine⟨fun h1=>?_,fun h1=>?_⟩
  ·conv=>whnf
   intro g2 hg
   have h1':qlB (bs p)=false:=by simpa using h1
   rw [q0H,h1'];rfl
  have h1':qlB (bs p)=true:=by simpa using h1
  conv=>whnf
  refine .inl ⟨_,qdO _ _,?_⟩
  conv=>whnf
  refine⟨fun h2=>?_,fun h2=>?_⟩
  ·conv=>whnf
   intro g2 hg
   have h2':qmK (bs h)=false:=by simpa using h2
   rw [q0H,h2'];simp
  have h2':qmK (bs h)=true:=by simpa using h2
  conv=>whnf
  refine .inl ⟨_,qDE _ _ _,?_⟩
  conv=>whnf
  refine⟨fun h3=>?_,fun h3=>?_⟩
  ·conv=>whnf
   intro g2 hg
   have h3':(bs p==bs h)=true:=h3
   rw [q0H,h1',h2',h3'];rfl
  have h3':(bs p==bs h)=false:=h3
  conv=>whnf
  refine⟨fun h4=>?_,fun h4=>?_⟩
  ·have h4':preL [42] (bs p)=true:=h4
   have hcut:bs (cutP p ⟨#[42]⟩)=(bs p).drop 1:=qeM h4
   conv=>whnf
   refine⟨fun h5=>?_,fun h5=>?_⟩
   ·conv=>whnf
    intro g2 hg
    have h5':((bs p).drop 1==[])=true:=by rw [← hcut];exact h5
    rw [q0H,h1',h2',h3',h4',q0R,h5'];rfl
   have h5':((bs p).drop 1==[])=false:=by rw [← hcut];exact h5
   have hl:(cutP p ⟨#[42]⟩).size=((bs p).drop 1).length:=by rw [qQA,hcut]
   have hh:=qQA h
   conv=>whnf
   refine⟨fun _=>?_,fun hx=>absurd ((h4).symm.trans hx) (by decide)⟩
   conv=>whnf
   refine⟨fun h6=>?_,fun h6=>?_⟩
   ·have h6':decide (((bs p).drop 1).length<(bs h).length)=true:=by
     have:=of_decide_eq_true h6
     exact decide_eq_true (by omega)
    conv=>whnf
    refine .inl ⟨_,qxI _ _ _ ⟨by have:=hs.2;unfold Sm at this;omega,by have:=hs.1;unfold Sm at this;have:=@qwU p ⟨#[42]⟩;omega⟩,?_⟩
    conv=>whnf
    intro g2 hg
    rw [hcut,q0H,h1',h2',h3',h4',q0R,h5',h6'];rfl
   ·conv=>whnf
    intro g2 hg
    have h6':decide (((bs p).drop 1).length<(bs h).length)=false:=by
     have:=of_decide_eq_false h6
     exact decide_eq_false (by omega)
    rw [q0H,h1',h2',h3',h4',q0R,h5',h6'];rfl
  ·conv=>whnf
   refine⟨fun hx=>absurd (hx.symm.trans (h4)) (by decide),fun _=>?_⟩
   conv=>whnf
   intro g2 hg
   have h4':preL [42] (bs p)=false:=h4
   rw [q0H,h1',h2',h3',h4'];rfl)
theorem qNS (g:GW) (a b:BA) (hs:Sm a∧Sm b):OkV Tryz.prog q9L [.string a,.string b] g (.bool (qqI (bs a) (bs b))) :=
 Ok.of_fn hm noT 0 qdL (args:=[.v (.string a),.v (.string b)]) (by
  have hs1:=hs.1;have hs2:=hs.2
  unfold Sm at hs1 hs2
  conv=>whnf
  refine .inl ⟨_,qcO _ _,?_⟩
  conv=>whnf
  refine⟨fun h1=>?_,fun h1=>?_⟩
  ·conv=>whnf
   intro g2 hg
   have h1':qFH (bs a)=false:=by simpa using h1
   rw [qqI,h1'];rfl
  have h1':qFH (bs a)=true:=by simpa using h1
  conv=>whnf
  refine .inl ⟨_,qcO _ _,?_⟩
  conv=>whnf
  refine⟨fun h2=>?_,fun h2=>?_⟩
  ·conv=>whnf
   intro g2 hg
   have h2':qFH (bs b)=false:=by simpa using h2
   rw [qqI,h2'];simp
  have h2':qFH (bs b)=true:=by simpa using h2
  conv=>whnf
  refine .inl ⟨_,qDE _ _ _,?_⟩
  conv=>whnf
  refine⟨fun h3=>?_,fun h3=>?_⟩
  ·have h3':preL (bs b) (bs a)=true:=h3
   have hcut:=qeM h3
   conv=>whnf
   refine⟨fun h4=>?_,fun h4=>?_⟩
   ·conv=>whnf
    intro g2 hg
    have h4':((bs a).drop (bs b).length==[])=true:=by rw [← hcut];exact h4
    rw [qqI,h1',h2',h3',h4'];rfl
   have h4':((bs a).drop (bs b).length==[])=false:=by rw [← hcut];exact h4
   conv=>whnf
   refine .inl ⟨_,qxI _ _ _ ⟨by omega,by decide⟩,?_⟩
   conv=>whnf
   refine⟨fun h5=>?_,fun h5=>?_⟩
   ·conv=>whnf
    intro g2 hg
    have h5':sufL [47] (bs b)=true:=h5
    rw [qqI,h1',h2',h3',h4',h5'];rfl
   have h5':sufL [47] (bs b)=false:=h5
   have hne:(bs a).drop (bs b).length≠[]:=by simpa using h4'
   obtain⟨c,hc⟩:∃ c,((bs a).drop (bs b).length)[0]?=some c:=qBA (List.length_pos_iff.2 hne)
   conv=>whnf
   refine⟨c,⟨by omega,by show(bs (cutP a b))[0]?=_;rw [hcut];exact hc⟩,?_⟩
   conv=>whnf
   intro g2 hg
   rw [qqI,h1',h2',h3',h4',h5',List.head?_eq_getElem?,hc]
   simp only [Bool.true_and,Bool.false_or]
   refine congrArg Value.bool ?_
   rw [Bool.eq_iff_iff]
   simp only [beq_iff_eq,Option.some.injEq]
   exact⟨fun h=>UInt8.toNat_inj.1 (by show c.toNat=47;omega),fun h=>by rw [h];rfl⟩
  ·conv=>whnf
   intro g2 hg
   have h3':preL (bs b) (bs a)=false:=h3
   rw [qqI,h1',h2',h3'];rfl)
theorem qBN (g:GW) (p:BA):OkV Tryz.prog qhK [.string p] g (.int .i64 (qnA (bs p))) :=
 Ok.of_fn hm noT 0 qYK (args:=[.v (.string p)]) (by
  conv=>whnf
  refine .inl ⟨_,qbI _ _,?_⟩
  conv=>whnf
  refine⟨fun h1=>?_,fun h1=>?_⟩
  ·conv=>whnf
   intro g2 hg
   have h1':qlB (bs p)=false:=by simpa using h1
   rw [qnA,h1'];rfl
  have h1':qlB (bs p)=true:=by simpa using h1
  conv=>whnf
  refine .inl ⟨_,qDE _ _ _,?_⟩
  conv=>whnf
  refine⟨fun h2=>?_,fun h2=>?_⟩
  ·conv=>whnf
   intro g2 hg
   have h2':preL [42,46] (bs p)=true:=h2
   rw [qnA,h1',h2',qQA,qeM h2];rfl
  have h2':preL [42,46] (bs p)=false:=h2
  conv=>whnf
  refine⟨fun h3=>?_,fun h3=>?_⟩
  ·conv=>whnf
   intro g2 hg
   have h3':(bs p==[42])=true:=h3
   rw [qnA,h1',h2',h3'];rfl
  ·conv=>whnf
   intro g2 hg
   have h3':(bs p==[42])=false:=h3
   rw [qnA,h1',h2',h3'];rfl)
theorem qJR (g:GW) (a p b q:BA):OkV Tryz.prog qiK [.string a,.string p,.string b,.string q] g (.bool (qmI (bs a) (bs p) (bs b) (bs q))) :=
 Ok.of_fn hm noT 0 qZK (args:=[.v (.string a),.v (.string p),.v (.string b),.v (.string q)]) (by
  conv=>whnf
  refine .inl ⟨_,qBN _ _,?_⟩
  conv=>whnf
  refine .inl ⟨_,qBN _ _,?_⟩
  conv=>whnf
  refine⟨fun h1=>?_,fun h1=>?_⟩
  ·conv=>whnf
   intro g2 hg
   rw [qmI,h1];rfl
  ·conv=>whnf
   intro g2 hg
   rw [qmI,h1,qQA p,qQA q]
   simp)
/- Which rule a request goes by: the program's and the document's answers. -/
open Go.Proofs.YtompjkkgaafllaaGreat.Sx
abbrev qwT (r:Rule):List Value:=[.int .i64 r.listen,.string r.host,.string r.path,.int .i64 r.cluster]
abbrev SmR (r:Rule):Prop:=Sm r.host∧Sm r.path
theorem qgT (g:GW) (r:Rule) (n:Int) (h p:BA) (hs:SmR r∧Sm h∧Sm p):OkV Tryz.prog q5L [.agg ⟨qwT r⟩,.int .i64 n,.string h,.string p] g (.bool (fitR n h p r)) :=
 Ok.of_fn hm noT 0 qWL (args:=[.v (.agg ⟨qwT r⟩),.v (.int .i64 n),.v (.string h),.v (.string p)]) (by
  repeat'((conv=>whnf);first|apply qza|apply qzb|apply qzc|apply qzd|apply qze|intro(_:Nat)|refine .inl ⟨_,qSS _ _ _ ⟨hs.1.1,hs.2.1⟩,?_⟩|refine .inl ⟨_,qNS _ _ _ ⟨hs.2.2,hs.1.2⟩,?_⟩|refine⟨fun _=>?_,fun _=>?_⟩|fail)
  all_goals (conv=>whnf)
  all_goals (intro g2 hg)
  all_goals (rename_i h1;simp only [fitR];simp_all))
def tR:List (Nat×FnI):=[(qAJ,qTF),(qtH,qGE)]
theorem tR_ok:qOG Tryz.prog tR:=by
 intro x hx
 simp only [tR,List.mem_cons,List.not_mem_nil,or_false] at hx
 rcases hx with rfl|rfl
 ·exact⟨_,_,q5I⟩
 ·exact⟨_,_,qZH⟩
def q3T:Option Nat→Value
 | some i=>.tuple #[.int .i64 i,.int .i64 0]
 | none=>.tuple #[.int .i64 0,.int .i64 5]
def quK:Option Nat→Int
 | none=>-1
 | some j=>j
abbrev SmL (l:List Rule):Prop:=∀ r∈l,SmR r
theorem qKR (g:GW) {v:Value} {l:List Rule} (hl:rSl 4 qPO g v l) (n:Int) (h p:BA) (hs:SmL l∧Sm h∧Sm p) :
  OkV Tryz.prog q6L [v,.int .i64 n,.string h,.string p] g (q3T (qfM (fitR n h p) l)) :=
 Ok.of_fn hm tR_ok 2 qXL (args:=[.v v,.v (.int .i64 n),.v (.string h),.v (.string p)]) (by
  obtain⟨oa,cap,rfl,h1,h2,h0,hr⟩:=hl
  repeat((conv=>whnf);first|apply qza|apply qzb|apply qzc|apply qzd|apply qze|intro(_:Nat))
  conv=>whnf
  refine⟨q2H,fun lp rr=>?_⟩
  repeat((conv=>whnf);first|apply qza|apply qzb|apply qzc|apply qzd|apply qze|intro(_:Nat))
  conv=>whnf
  refine⟨Nat,fun i=>[.v (.int .i64 i)],fun i=>⟨g,[.lp 6 lp rr .ready,.blk 5 _ _ [.v (.string p)],.blk 4 _ _ [.v (.string h)],.blk 3 _ _ [.v (.int .i64 n)],.blk 2 _ _ [.v (.slice oa l.length cap)],.blk 1 _ _ [.v (.int .i64 (quK (qOF (fitR n h p) l i)))],.blk 0 _ _ [.v (.slice oa l.length cap)]],_,_⟩,fun i=>i≤l.length,fun i=>l.length-i,qMA 0 rfl (Nat.zero_le _) rfl,?_⟩
  intro i hi
  conv=>whnf
  refine⟨fun hlt=>?_,fun hlt=>?_⟩
  ·have h':i<l.length:=by have:=of_decide_eq_true hlt;omega
   obtain⟨r,hri⟩:=qBA h'
   obtain⟨a,rfl,ec,hec,⟨rfl,hI1,hI2⟩,hc⟩:=hr i r hri
   have hsr:=hs.1 r (List.mem_of_getElem? hri)
   have hbp:∀ b,(match qOF (fitR n h p) l i with|none=>some i|some j=>match l[j]? with|some q=>if betR r q then some i else some j|none=>some i)=b→fitR n h p r=true→qOF (fitR n h p) l (i+1)=b:=fun b hb hf=>by
    simp only [qOF,hri,hf,if_true];exact hb
   conv=>whnf
   refine⟨a,rfl,⟨by omega,by omega⟩,?_⟩
   conv=>whnf
   refine⟨qwT r,⟨rfl,hc⟩,?_⟩
   repeat((conv=>whnf);first|apply qza|apply qzb|apply qzc|apply qzd|apply qze|intro(_:Nat))
   conv=>whnf
   refine .inl ⟨_,qgT _ _ _ _ _ ⟨hsr,hs.2⟩,?_⟩
   have next:∀ (b:Option Nat),qOF (fitR n h p) l (i+1)=b→[Value.int .i64 (IntKind.i64.wrap ((i:Int)+1))]=[Value.int .i64 ((i+1:Nat):Int)]:=fun _ _=>congrArg (fun z=>[Value.int .i64 z]) (wr1 h' h1 h2)
   conv=>whnf
   refine⟨fun hf=>?_,fun hf=>?_⟩
   ·repeat((conv=>whnf);first|apply qza|apply qzb|apply qzc|apply qzd|apply qze|intro(_:Nat))
    cases hb:qOF (fitR n h p) l i with
    | none =>
     have hb1:=hbp (some i) (by rw [hb]) hf
     conv=>whnf
     refine⟨fun _=>?_,fun h=>nomatch h⟩
     repeat((conv=>whnf);first|apply qza|apply qzb|apply qzc|apply qzd|apply qze|intro(_:Nat))
     conv=>whnf
     refine fun fr w hw=>⟨i+1,(next _ hb1).symm,h',dec h',?_⟩
     exact hw.fit (by simp [fitL,Res.eqv,qAA,conc,hb1,quK])
    | some j =>
     obtain⟨q,hq,_,hfq,_⟩:=(qoI (fit:=fitR n h p) l i hi).1 j hb
     obtain⟨a',ha',ecq,hecq,⟨rfl,_,_⟩,hcq⟩:=hr j q hq
     cases ha'
     have hjl:=(List.getElem?_eq_some_iff.1 hq).1
     conv=>whnf
     refine⟨fun hx=>absurd (of_decide_eq_true hx) (by simp only [quK];omega),fun _=>?_⟩
     repeat((conv=>whnf);first|apply qza|apply qzb|apply qzc|apply qzd|apply qze|intro(_:Nat))
     conv=>whnf
     refine⟨a,rfl,⟨by simp only [quK];omega,by simp only [quK];omega⟩,?_⟩
     repeat((conv=>whnf);first|apply qza|apply qzb|apply qzc|apply qzd|apply qze|intro(_:Nat))
     conv=>whnf
     refine⟨_,hcq 1 _ rfl,?_⟩
     repeat((conv=>whnf);first|apply qza|apply qzb|apply qzc|apply qzd|apply qze|intro(_:Nat))
     conv=>whnf
     refine⟨a,rfl,⟨by simp only [quK];omega,by simp only [quK];omega⟩,?_⟩
     repeat((conv=>whnf);first|apply qza|apply qzb|apply qzc|apply qzd|apply qze|intro(_:Nat))
     conv=>whnf
     refine⟨_,hcq 2 _ rfl,?_⟩
     repeat((conv=>whnf);first|apply qza|apply qzb|apply qzc|apply qzd|apply qze|intro(_:Nat))
     conv=>whnf
     refine .inl ⟨_,qJR _ _ _ _ _,?_⟩
     conv=>whnf
     refine⟨fun hbt=>?_,fun hbt=>?_⟩
     ·have hb1:=hbp (some i) (by rw [hb];simp only [hq];rw [show betR r q=true from hbt];rfl) hf
      repeat((conv=>whnf);first|apply qza|apply qzb|apply qzc|apply qzd|apply qze|intro(_:Nat))
      conv=>whnf
      refine fun fr w hw=>⟨i+1,(next _ hb1).symm,h',dec h',?_⟩
      exact hw.fit (by simp [fitL,Res.eqv,qAA,conc,hb1,quK])
     ·have hb1:=hbp (some j) (by rw [hb];simp only [hq];rw [show betR r q=false from hbt];rfl) hf
      repeat((conv=>whnf);first|apply qza|apply qzb|apply qzc|apply qzd|apply qze|intro(_:Nat))
      conv=>whnf
      refine fun fr w hw=>⟨i+1,(next _ hb1).symm,h',dec h',?_⟩
      exact hw.fit (by simp [fitL,Res.eqv,qAA,conc,hb1,quK])
   ·conv=>whnf
    refine fun fr w hw=>⟨i+1,?_,h',dec h',?_⟩
    ·exact congrArg (fun z=>[Value.int .i64 z]) (wr1 h' h1 h2).symm
    ·have:qOF (fitR n h p) l (i+1)=qOF (fitR n h p) l i:=by simp [qOF,hri,hf]
     exact hw.fit (by simp [fitL,Res.eqv,qAA,conc,this])
  ·have hi':i=l.length:=by have:=of_decide_eq_false hlt;omega
   subst hi'
   repeat((conv=>whnf);first|apply qza|apply qzb|apply qzc|apply qzd|apply qze|intro(_:Nat))
   cases hb:qOF (fitR n h p) l l.length with
   | none =>
    conv=>whnf
    refine⟨fun _=>?_,fun h=>nomatch h⟩
    conv=>whnf
    intro g2 hg
    rw [show qfM (fitR n h p) l=none from hb];rfl
   | some j =>
    conv=>whnf
    refine⟨fun hx=>absurd (of_decide_eq_true hx) (by simp only [quK];omega),fun _=>?_⟩
    repeat((conv=>whnf);first|apply qza|apply qzb|apply qzc|apply qzd|apply qze|intro(_:Nat))
    conv=>whnf
    intro g2 hg
    rw [show qfM (fitR n h p) l=some j from hb];rfl)
def qEM (r:Rule):Bool:=decide (100<r.host.size)||decide (100<r.path.size)
def bigR (l:List Rule):Bool:=decide (50<l.length)||l.any qEM
theorem qQT (g:GW) {v:Value} {l:List Rule} (hl:rSl 4 qPO g v l):OkV Tryz.prog qwH [v] g (.bool (bigR l)) :=
 Ok.of_fn hm noT 0 qcH (args:=[.v v]) (by
  obtain⟨oa,cap,rfl,h1,h2,h0,hr⟩:=hl
  repeat((conv=>whnf);first|apply qza|apply qzb|apply qzc|apply qzd|apply qze|intro(_:Nat))
  conv=>whnf
  refine⟨Nat,fun k=>[.v (.int .i64 k)],fun k=>⟨g,[],_,_⟩,fun k=>k≤l.length∧(l.take k).any qEM=false,fun k=>l.length-k,qMA 0 rfl ⟨Nat.zero_le _,rfl⟩ rfl,?_⟩
  rintro k ⟨hk,hall⟩
  conv=>whnf
  refine⟨fun hlt=>?_,fun hlt=>?_⟩
  ·have h':k<l.length:=by have:=of_decide_eq_true hlt;omega
   conv=>whnf
   refine⟨fun h50=>?_,fun h50=>?_⟩
   ·obtain⟨q,hq⟩:=qBA h'
    obtain⟨a,rfl,ecq,hecq,⟨rfl,_,_⟩,hcq⟩:=hr k q hq
    have hg:∀ b,qEM q=b→(l.take (k+1)).any qEM=b:=fun b hb=>by
     obtain⟨_,hge⟩:=List.getElem?_eq_some_iff.1 hq
     rw [List.take_succ_eq_append_getElem h',List.any_append,hall,hge]
     simp [hb]
    have hbe:qEM q=true→bigR l=true:=fun hb=>by
     rw [bigR,List.any_eq_true.2 ⟨q,List.mem_of_getElem? hq,hb⟩,Bool.or_true]
    conv=>whnf
    refine⟨a,rfl,⟨by omega,by omega⟩,?_⟩
    conv=>whnf
    refine⟨_,hcq 1 _ rfl,?_⟩
    conv=>whnf
    refine⟨fun ha=>?_,fun ha=>?_⟩
    ·conv=>whnf
     intro g2 hg
     rw [hbe (by simp at ha;simp [qEM];omega)]
    ·conv=>whnf
     refine⟨a,rfl,⟨by omega,by omega⟩,?_⟩
     conv=>whnf
     refine⟨_,hcq 2 _ rfl,?_⟩
     conv=>whnf
     refine⟨fun hb=>?_,fun hb=>?_⟩
     ·conv=>whnf
      intro g2 hg
      rw [hbe (by simp at hb;simp [qEM];omega)]
     ·conv=>whnf
      refine fun fr w hw=>⟨k+1,congrArg (fun z=>[Value.int .i64 z]) (wr1 h' h1 h2).symm,⟨h',hg _ (by simp at ha hb;simp [qEM];omega)⟩,dec h',hw⟩
   ·conv=>whnf
    intro g2 hg
    have:=of_decide_eq_false h50
    rw [bigR,decide_eq_true (show 50<l.length by omega),decide_eq_true (show(50:Int)<l.length by omega)];rfl
  ·conv=>whnf
   intro g2 hg
   have:k=l.length:=by have:=of_decide_eq_false hlt;omega
   rw [this,List.take_length] at hall
   rw [bigR,hall,Bool.or_false]
   exact congrArg Value.bool (decide_eq_decide.2 (by omega)))
/- Snapshots: what is built,and their configurations: the program's and the document's answers. -/
open Go.Proofs.YtompjkkgaafllaaGreat.Sx Go.RowKit
def tS:List (Nat×FnI):=[(qKH,qtD),(qfI,qnE)]
theorem tS_ok:qOG Tryz.prog tS:=by
 intro x hx
 simp only [tS,List.mem_cons,List.not_mem_nil,or_false] at hx
 rcases hx with rfl|rfl
 ·exact⟨_,_,qAH⟩
 ·exact⟨_,_,qTI⟩
theorem qYO (g:GW) {v:Value} {l:List BA} (hl:rSl 1 rStr g v l) (s:BA):OkV Tryz.prog qvJ [v,.string s] g (.int .i64 (idxI (idxO (fun x=>bs x==bs s) l))) :=
 Ok.of_fn hm tS_ok 2 qTJ (args:=[.v v,.v (.string s)]) (by
  obtain⟨oa,cap,rfl,h1,h2,h0,hr⟩:=hl
  repeat((conv=>whnf);first|apply qza|apply qzb|apply qzc|apply qzd|apply qze|intro(_:Nat))
  conv=>whnf
  refine⟨Nat,fun k=>[.v (.int .i64 k)],fun k=>⟨g,[.blk 0 _ _ [.v (.string s)]],_,_⟩,fun k=>k≤l.length∧Pass (idxF fun x=>bs x==bs s) l k,fun k=>l.length-k,qMA 0 rfl ⟨Nat.zero_le _,Pass.zero _ _⟩ rfl,?_⟩
  rintro k ⟨hk,hp⟩
  conv=>whnf
  refine⟨fun hlt=>?_,fun hlt=>?_⟩
  ·have h':k<l.length:=by have:=of_decide_eq_true hlt;omega
   obtain⟨x,hx⟩:=qBA h'
   obtain⟨a,rfl,ec,hec,rfl,hc⟩:=hr k x hx
   conv=>whnf
   refine⟨a,rfl,⟨by omega,by omega⟩,?_⟩
   conv=>whnf
   refine⟨_,hc 0 _ rfl,?_⟩
   conv=>whnf
   refine⟨qiI,?_⟩
   repeat((conv=>whnf);first|apply qza|apply qzb|apply qzc|apply qzd|apply qze|intro(_:Nat))
   conv=>whnf
   refine⟨fun he=>?_,fun he=>?_⟩
   ·conv=>whnf
    intro g2 hg
    rw [qJJ hp hx he]
   ·conv=>whnf
    refine fun fr w hw=>⟨k+1,congrArg (fun z=>[Value.int .i64 z]) (wr1 h' h1 h2).symm,⟨h',q3H hp hx he⟩,dec h',?_⟩
    exact hw.fit (by simp [fitL,Res.eqv,qAA,conc])
  ·conv=>whnf
   intro g2 hg
   have:=of_decide_eq_false hlt
   rw [qAG hp (by omega)])
theorem qoT {α:Type} {f:α→Bool} {l:List α} (h:l.length≤maxLen):InR (idxI (idxO f l)):=by
 unfold maxLen at h
 cases hi:idxO f l with
 | none=>exact⟨by decide,by decide⟩
 | some i=>have:=qpT hi;exact⟨by simp only [idxI];omega,by simp only [idxI];omega⟩
theorem qzR {α β:Type} {l:List α} {f:α→List β} {k:Nat} {x:α} (hx:l[k]?=some x):((l.take (k+1)).map f).flatten=((l.take k).map f).flatten++f x:=by
 obtain⟨h1,h2⟩:=List.getElem?_eq_some_iff.1 hx
 rw [List.take_succ_eq_append_getElem h1,h2];simp
/- Snapshots: the configuration of one. -/
open Go.Proofs.YtompjkkgaafllaaGreat.Sx Go.RowKit
abbrev cRou (s:Snap) (r:Rule):List Value:=qAT (q1C s r)
theorem qIR (g:GW) {a b d:Value} {s:Snap} (hs:q8I g [a,b,d] s) (hsz:s.rules.length≤1000000):Ok Tryz.prog q2L [.agg ⟨[a,b,d]⟩] g fun v g'=>∃ oa n cap,v=.agg ⟨[a,.slice oa n cap,d]⟩∧rSl 4 q3M g' (.slice oa n cap) (qiF s).routes:=by
 obtain⟨_,_,_,he,hl,hr,hk⟩:=hs
 cases he
 obtain⟨oa,ca,rfl,a1,a2,a0,hl1⟩:=id hl
 obtain⟨ob,cb,rfl,b1,b2,b0,hr1⟩:=id hr
 obtain⟨od,cd,rfl,d1,d2,d0,hk1⟩:=id hk
 exact Ok.of_fn hm noT 0 qTL (args:=[.v (.agg ⟨[.slice oa s.listens.length ca,.slice ob s.rules.length cb,.slice od s.clusters.length cd]⟩)]) (by
  repeat((conv=>whnf);first|apply qza|apply qzb|apply qzc|apply qzd|apply qze|intro(_:Nat)|intro(_:OA)_)
  rename_i p0 p1 p2
  conv=>whnf
  refine⟨Nat×Option Addr×Nat,fun (k,_,_)=>[.v (.int .i64 k)],fun (k,oR,cR)=>⟨g,[.row 10 oR k cR qAE 4 ((s.rules.take k).map (cRou s)).flatten,.blk 2 p2 qaD [.v (.slice oa s.listens.length ca),.row 10 oR k cR,.v (.slice od s.clusters.length cd)],.blk 1 p1 qaD [.v (.slice none 0 0),.v (.slice none 0 0),.v (.slice none 0 0)],.blk 0 p0 qoA [.v (.slice oa s.listens.length ca),.v (.slice ob s.rules.length cb),.v (.slice od s.clusters.length cd)]],40,g.w.heap.size⟩,fun (k,_,_)=>k≤s.rules.length,fun (k,_,_)=>s.rules.length-k,?_,?_⟩
  ·intro fr w hw
   exact⟨(0,none,0),rfl,Nat.zero_le _,(hw.nil_row (nx':=40) 10 qAE 4).fit (by simp [fitL,Res.eqv,qAA,conc])⟩
  rintro⟨k,oR,cR⟩ hkk
  have hkk:k≤s.rules.length:=hkk
  repeat((conv=>whnf);first|apply qza|apply qzb|apply qzc|apply qzd|apply qze|intro(_:Nat)|intro(_:OA)_)
  conv=>whnf
  refine⟨fun hlt=>?_,fun hlt=>?_⟩
  ·have h':k<s.rules.length:=by have:=of_decide_eq_true hlt;omega
   obtain⟨⟨rl,rh,rp,rc⟩,hx⟩:=qBA h'
   obtain⟨a,rfl,ec,hec,⟨rfl,_,_⟩,hc⟩:=hr1 k _ hx
   have hT:=qzR (f:=cRou s) hx
   repeat((conv=>whnf);first|apply qza|apply qzb|apply qzc|apply qzd|apply qze|intro(_:Nat)|intro(_:OA)_)
   conv=>whnf
   refine⟨a,rfl,⟨by omega,by omega⟩,?_⟩
   conv=>whnf
   refine⟨_,⟨rfl,hc⟩,?_⟩
   repeat((conv=>whnf);first|apply qza|apply qzb|apply qzc|apply qzd|apply qze|intro(_:Nat)|intro(_:OA)_)
   by_cases hA:0≤rl∧rl<s.listens.length
   ·obtain⟨n,rfl⟩:=Int.eq_ofNat_of_zero_le hA.1
    obtain⟨y,hy⟩:=qBA (show n<s.listens.length by omega)
    obtain⟨aL,rfl,ecL,hecL,rfl,hcL⟩:=hl1 n y hy
    have hAn:qGN s.listens (n:Int)=y:=by unfold qGN;rw [if_pos hA];simp [hy]
    conv=>whnf
    refine⟨fun _=>?_,fun hx=>absurd (((decide_eq_true hA.1)).symm.trans hx) (by decide)⟩
    repeat((conv=>whnf);first|apply qza|apply qzb|apply qzc|apply qzd|apply qze|intro(_:Nat)|intro(_:OA)_)
    conv=>whnf
    refine⟨fun _=>?_,fun hx=>absurd (((decide_eq_true hA.2)).symm.trans hx) (by decide)⟩
    repeat((conv=>whnf);first|apply qza|apply qzb|apply qzc|apply qzd|apply qze|intro(_:Nat)|intro(_:OA)_)
    conv=>whnf
    refine⟨aL,rfl,⟨hA.1,hA.2⟩,?_⟩
    conv=>whnf
    refine⟨_,hcL 0 _ rfl,?_⟩
    repeat((conv=>whnf);first|apply qza|apply qzb|apply qzc|apply qzd|apply qze|intro(_:Nat)|intro(_:OA)_)
    by_cases hC:0≤rc∧rc<s.clusters.length
    ·obtain⟨m,rfl⟩:=Int.eq_ofNat_of_zero_le hC.1
     obtain⟨z,hz⟩:=qBA (show m<s.clusters.length by omega)
     obtain⟨aC,rfl,ecC,hecC,⟨hv,rfl,_,_,_,_,rfl,_⟩,hcC⟩:=hk1 m z hz
     have hCn:qyD s.clusters (m:Int)=z.name:=by unfold qyD;rw [if_pos hC];simp [hz]
     conv=>whnf
     refine⟨fun _=>?_,fun hx=>absurd (((decide_eq_true hC.1)).symm.trans hx) (by decide)⟩
     repeat((conv=>whnf);first|apply qza|apply qzb|apply qzc|apply qzd|apply qze|intro(_:Nat)|intro(_:OA)_)
     conv=>whnf
     refine⟨fun _=>?_,fun hx=>absurd (((decide_eq_true hC.2)).symm.trans hx) (by decide)⟩
     repeat((conv=>whnf);first|apply qza|apply qzb|apply qzc|apply qzd|apply qze|intro(_:Nat)|intro(_:OA)_)
     conv=>whnf
     refine⟨aC,rfl,⟨hC.1,hC.2⟩,?_⟩
     conv=>whnf
     refine⟨_,hcC 0 _ rfl,?_⟩
     repeat((conv=>whnf);first|apply qza|apply qzb|apply qzc|apply qzd|apply qze|intro(_:Nat)|intro(_:OA)_)
     conv=>whnf
     refine⟨⟨by unfold maxLen;omega,by omega⟩,fun oa2 cap2=>?_⟩
     repeat((conv=>whnf);first|apply qza|apply qzb|apply qzc|apply qzd|apply qze|intro(_:Nat)|intro(_:OA)_)
     conv=>whnf
     refine fun fr w hw=>⟨(k+1,oa2,cap2),congrArg (fun z=>[Value.int .i64 z]) (wr1 h' b1 b2).symm,h',dec h',hw.fit ?_⟩
     simp only [hT]
     simp [fitL,Res.eqv,qAA,conc,q1C,hAn,hCn]
    have hCn:qyD s.clusters rc=⟨#[]⟩:=by unfold qyD;rw [if_neg hC]
    by_cases hC0:0≤rc
    ·conv=>whnf
     refine⟨fun _=>?_,fun hx=>absurd (((decide_eq_true hC0)).symm.trans hx) (by decide)⟩
     repeat((conv=>whnf);first|apply qza|apply qzb|apply qzc|apply qzd|apply qze|intro(_:Nat)|intro(_:OA)_)
     conv=>whnf
     refine⟨fun hx=>absurd (hx.symm.trans ((decide_eq_false (show ¬ rc<s.clusters.length from fun h=>hC ⟨hC0,h⟩)))) (by decide),fun _=>?_⟩
     repeat((conv=>whnf);first|apply qza|apply qzb|apply qzc|apply qzd|apply qze|intro(_:Nat)|intro(_:OA)_)
     conv=>whnf
     refine⟨⟨by unfold maxLen;omega,by omega⟩,fun oa2 cap2=>?_⟩
     repeat((conv=>whnf);first|apply qza|apply qzb|apply qzc|apply qzd|apply qze|intro(_:Nat)|intro(_:OA)_)
     conv=>whnf
     refine fun fr w hw=>⟨(k+1,oa2,cap2),congrArg (fun z=>[Value.int .i64 z]) (wr1 h' b1 b2).symm,h',dec h',hw.fit ?_⟩
     simp only [hT]
     simp [fitL,Res.eqv,qAA,conc,q1C,hAn,hCn]
    ·conv=>whnf
     refine⟨fun hx=>absurd (hx.symm.trans ((decide_eq_false hC0))) (by decide),fun _=>?_⟩
     repeat((conv=>whnf);first|apply qza|apply qzb|apply qzc|apply qzd|apply qze|intro(_:Nat)|intro(_:OA)_)
     conv=>whnf
     refine⟨⟨by unfold maxLen;omega,by omega⟩,fun oa2 cap2=>?_⟩
     repeat((conv=>whnf);first|apply qza|apply qzb|apply qzc|apply qzd|apply qze|intro(_:Nat)|intro(_:OA)_)
     conv=>whnf
     refine fun fr w hw=>⟨(k+1,oa2,cap2),congrArg (fun z=>[Value.int .i64 z]) (wr1 h' b1 b2).symm,h',dec h',hw.fit ?_⟩
     simp only [hT]
     simp [fitL,Res.eqv,qAA,conc,q1C,hAn,hCn]
   have hAn:qGN s.listens rl=⟨#[]⟩:=by unfold qGN;rw [if_neg hA]
   by_cases hA0:0≤rl
   ·conv=>whnf
    refine⟨fun _=>?_,fun hx=>absurd (((decide_eq_true hA0)).symm.trans hx) (by decide)⟩
    repeat((conv=>whnf);first|apply qza|apply qzb|apply qzc|apply qzd|apply qze|intro(_:Nat)|intro(_:OA)_)
    conv=>whnf
    refine⟨fun hx=>absurd (hx.symm.trans ((decide_eq_false (show ¬ rl<s.listens.length from fun h=>hA ⟨hA0,h⟩)))) (by decide),fun _=>?_⟩
    repeat((conv=>whnf);first|apply qza|apply qzb|apply qzc|apply qzd|apply qze|intro(_:Nat)|intro(_:OA)_)
    by_cases hC:0≤rc∧rc<s.clusters.length
    ·obtain⟨m,rfl⟩:=Int.eq_ofNat_of_zero_le hC.1
     obtain⟨z,hz⟩:=qBA (show m<s.clusters.length by omega)
     obtain⟨aC,rfl,ecC,hecC,⟨hv,rfl,_,_,_,_,rfl,_⟩,hcC⟩:=hk1 m z hz
     have hCn:qyD s.clusters (m:Int)=z.name:=by unfold qyD;rw [if_pos hC];simp [hz]
     conv=>whnf
     refine⟨fun _=>?_,fun hx=>absurd (((decide_eq_true hC.1)).symm.trans hx) (by decide)⟩
     repeat((conv=>whnf);first|apply qza|apply qzb|apply qzc|apply qzd|apply qze|intro(_:Nat)|intro(_:OA)_)
     conv=>whnf
     refine⟨fun _=>?_,fun hx=>absurd (((decide_eq_true hC.2)).symm.trans hx) (by decide)⟩
     repeat((conv=>whnf);first|apply qza|apply qzb|apply qzc|apply qzd|apply qze|intro(_:Nat)|intro(_:OA)_)
     conv=>whnf
     refine⟨aC,rfl,⟨hC.1,hC.2⟩,?_⟩
     conv=>whnf
     refine⟨_,hcC 0 _ rfl,?_⟩
     repeat((conv=>whnf);first|apply qza|apply qzb|apply qzc|apply qzd|apply qze|intro(_:Nat)|intro(_:OA)_)
     conv=>whnf
     refine⟨⟨by unfold maxLen;omega,by omega⟩,fun oa2 cap2=>?_⟩
     repeat((conv=>whnf);first|apply qza|apply qzb|apply qzc|apply qzd|apply qze|intro(_:Nat)|intro(_:OA)_)
     conv=>whnf
     refine fun fr w hw=>⟨(k+1,oa2,cap2),congrArg (fun z=>[Value.int .i64 z]) (wr1 h' b1 b2).symm,h',dec h',hw.fit ?_⟩
     simp only [hT]
     simp [fitL,Res.eqv,qAA,conc,q1C,hAn,hCn]
    have hCn:qyD s.clusters rc=⟨#[]⟩:=by unfold qyD;rw [if_neg hC]
    by_cases hC0:0≤rc
    ·conv=>whnf
     refine⟨fun _=>?_,fun hx=>absurd (((decide_eq_true hC0)).symm.trans hx) (by decide)⟩
     repeat((conv=>whnf);first|apply qza|apply qzb|apply qzc|apply qzd|apply qze|intro(_:Nat)|intro(_:OA)_)
     conv=>whnf
     refine⟨fun hx=>absurd (hx.symm.trans ((decide_eq_false (show ¬ rc<s.clusters.length from fun h=>hC ⟨hC0,h⟩)))) (by decide),fun _=>?_⟩
     repeat((conv=>whnf);first|apply qza|apply qzb|apply qzc|apply qzd|apply qze|intro(_:Nat)|intro(_:OA)_)
     conv=>whnf
     refine⟨⟨by unfold maxLen;omega,by omega⟩,fun oa2 cap2=>?_⟩
     repeat((conv=>whnf);first|apply qza|apply qzb|apply qzc|apply qzd|apply qze|intro(_:Nat)|intro(_:OA)_)
     conv=>whnf
     refine fun fr w hw=>⟨(k+1,oa2,cap2),congrArg (fun z=>[Value.int .i64 z]) (wr1 h' b1 b2).symm,h',dec h',hw.fit ?_⟩
     simp only [hT]
     simp [fitL,Res.eqv,qAA,conc,q1C,hAn,hCn]
    ·conv=>whnf
     refine⟨fun hx=>absurd (hx.symm.trans ((decide_eq_false hC0))) (by decide),fun _=>?_⟩
     repeat((conv=>whnf);first|apply qza|apply qzb|apply qzc|apply qzd|apply qze|intro(_:Nat)|intro(_:OA)_)
     conv=>whnf
     refine⟨⟨by unfold maxLen;omega,by omega⟩,fun oa2 cap2=>?_⟩
     repeat((conv=>whnf);first|apply qza|apply qzb|apply qzc|apply qzd|apply qze|intro(_:Nat)|intro(_:OA)_)
     conv=>whnf
     refine fun fr w hw=>⟨(k+1,oa2,cap2),congrArg (fun z=>[Value.int .i64 z]) (wr1 h' b1 b2).symm,h',dec h',hw.fit ?_⟩
     simp only [hT]
     simp [fitL,Res.eqv,qAA,conc,q1C,hAn,hCn]
   ·conv=>whnf
    refine⟨fun hx=>absurd (hx.symm.trans ((decide_eq_false hA0))) (by decide),fun _=>?_⟩
    repeat((conv=>whnf);first|apply qza|apply qzb|apply qzc|apply qzd|apply qze|intro(_:Nat)|intro(_:OA)_)
    by_cases hC:0≤rc∧rc<s.clusters.length
    ·obtain⟨m,rfl⟩:=Int.eq_ofNat_of_zero_le hC.1
     obtain⟨z,hz⟩:=qBA (show m<s.clusters.length by omega)
     obtain⟨aC,rfl,ecC,hecC,⟨hv,rfl,_,_,_,_,rfl,_⟩,hcC⟩:=hk1 m z hz
     have hCn:qyD s.clusters (m:Int)=z.name:=by unfold qyD;rw [if_pos hC];simp [hz]
     conv=>whnf
     refine⟨fun _=>?_,fun hx=>absurd (((decide_eq_true hC.1)).symm.trans hx) (by decide)⟩
     repeat((conv=>whnf);first|apply qza|apply qzb|apply qzc|apply qzd|apply qze|intro(_:Nat)|intro(_:OA)_)
     conv=>whnf
     refine⟨fun _=>?_,fun hx=>absurd (((decide_eq_true hC.2)).symm.trans hx) (by decide)⟩
     repeat((conv=>whnf);first|apply qza|apply qzb|apply qzc|apply qzd|apply qze|intro(_:Nat)|intro(_:OA)_)
     conv=>whnf
     refine⟨aC,rfl,⟨hC.1,hC.2⟩,?_⟩
     conv=>whnf
     refine⟨_,hcC 0 _ rfl,?_⟩
     repeat((conv=>whnf);first|apply qza|apply qzb|apply qzc|apply qzd|apply qze|intro(_:Nat)|intro(_:OA)_)
     conv=>whnf
     refine⟨⟨by unfold maxLen;omega,by omega⟩,fun oa2 cap2=>?_⟩
     repeat((conv=>whnf);first|apply qza|apply qzb|apply qzc|apply qzd|apply qze|intro(_:Nat)|intro(_:OA)_)
     conv=>whnf
     refine fun fr w hw=>⟨(k+1,oa2,cap2),congrArg (fun z=>[Value.int .i64 z]) (wr1 h' b1 b2).symm,h',dec h',hw.fit ?_⟩
     simp only [hT]
     simp [fitL,Res.eqv,qAA,conc,q1C,hAn,hCn]
    have hCn:qyD s.clusters rc=⟨#[]⟩:=by unfold qyD;rw [if_neg hC]
    by_cases hC0:0≤rc
    ·conv=>whnf
     refine⟨fun _=>?_,fun hx=>absurd (((decide_eq_true hC0)).symm.trans hx) (by decide)⟩
     repeat((conv=>whnf);first|apply qza|apply qzb|apply qzc|apply qzd|apply qze|intro(_:Nat)|intro(_:OA)_)
     conv=>whnf
     refine⟨fun hx=>absurd (hx.symm.trans ((decide_eq_false (show ¬ rc<s.clusters.length from fun h=>hC ⟨hC0,h⟩)))) (by decide),fun _=>?_⟩
     repeat((conv=>whnf);first|apply qza|apply qzb|apply qzc|apply qzd|apply qze|intro(_:Nat)|intro(_:OA)_)
     conv=>whnf
     refine⟨⟨by unfold maxLen;omega,by omega⟩,fun oa2 cap2=>?_⟩
     repeat((conv=>whnf);first|apply qza|apply qzb|apply qzc|apply qzd|apply qze|intro(_:Nat)|intro(_:OA)_)
     conv=>whnf
     refine fun fr w hw=>⟨(k+1,oa2,cap2),congrArg (fun z=>[Value.int .i64 z]) (wr1 h' b1 b2).symm,h',dec h',hw.fit ?_⟩
     simp only [hT]
     simp [fitL,Res.eqv,qAA,conc,q1C,hAn,hCn]
    ·conv=>whnf
     refine⟨fun hx=>absurd (hx.symm.trans ((decide_eq_false hC0))) (by decide),fun _=>?_⟩
     repeat((conv=>whnf);first|apply qza|apply qzb|apply qzc|apply qzd|apply qze|intro(_:Nat)|intro(_:OA)_)
     conv=>whnf
     refine⟨⟨by unfold maxLen;omega,by omega⟩,fun oa2 cap2=>?_⟩
     repeat((conv=>whnf);first|apply qza|apply qzb|apply qzc|apply qzd|apply qze|intro(_:Nat)|intro(_:OA)_)
     conv=>whnf
     refine fun fr w hw=>⟨(k+1,oa2,cap2),congrArg (fun z=>[Value.int .i64 z]) (wr1 h' b1 b2).symm,h',dec h',hw.fit ?_⟩
     simp only [hT]
     simp [fitL,Res.eqv,qAA,conc,q1C,hAn,hCn]
  have hz1:k=s.rules.length:=by have:=of_decide_eq_false hlt;omega
  subst hz1
  repeat((conv=>whnf);first|apply qza|apply qzb|apply qzc|apply qzd|apply qze|intro(_:Nat)|intro(_:OA)_)
  conv=>whnf
  refine fun g1 hg1 hn1 hp1=>?_
  conv=>whnf
  intro g2 hg
  refine⟨_,_,_,rfl,(qnL hp1.rd (qiF s).routes qAT ?_ (by simp [qiF]) (fun _ _=>rfl) fun _ _=>rfl).mono qhJ hg⟩
  rw [List.take_of_length_le (Nat.le_refl _)];simp [qiF,List.map_map,Function.comp_def])
/- What is the same. -/
open Go.Proofs.YtompjkkgaafllaaGreat.Sx Go.RowKit
/- Snapshots: the document's building;whether one is right;what is found. -/
open Go.Proofs.YtompjkkgaafllaaGreat.Sx Go.RowKit
theorem q1S (g:GW) {cs:List Value} {s:Snap} (hs:q8I g cs s) (hsz:s.rules.length≤1000000):OkV Tryz.prog qQR [.agg ⟨cs⟩] g (.bool (eqB (qHB (qiF s)) none)):=by
 have hs0:=hs
 obtain⟨a,b,d,rfl,hl,hr,hk⟩:=hs
 obtain⟨oa,ca,rfl,a1,a2,a0,hl1⟩:=id hl
 obtain⟨ob,cb,rfl,b1,b2,b0,hr1⟩:=id hr
 obtain⟨od,cd,rfl,d1,d2,d0,hk1⟩:=id hk
 exact Ok.of_fn hm noT 0 qmQ (args:=[.v (.agg ⟨[.slice oa s.listens.length ca,.slice ob s.rules.length cb,.slice od s.clusters.length cd]⟩)]) (by
  repeat((conv=>whnf);first|apply qza|apply qzb|apply qzc|apply qzd|apply qze|intro(_:Nat))
  conv=>whnf
  refine .inr ((qIR g hs0 hsz).mono fun v g1 hg1 hC=>?_)
  obtain⟨oR,n,cR,rfl,hrt⟩:=hC
  have hcc:q3C g1 [.slice oa s.listens.length ca,.slice oR n cR,.slice od s.clusters.length cd] (qiF s):=⟨_,_,_,rfl,hl.mono qfJ hg1,hrt,hk.mono q2E hg1⟩
  rcases qsN (qHB (qiF s)) with ⟨hz,hv⟩|⟨e,i,hz,hv⟩
  ·conv=>whnf
   refine .inl ⟨_,(qRP _ hcc).to hv,?_⟩
   conv=>whnf
   intro g2 hg
   rw [quT hz];rfl
  ·have hne:=qKG hz
   conv=>whnf
   refine .inl ⟨_,(qRP _ hcc).to hv,?_⟩
   conv=>whnf
   intro g2 hg
   rw [eqB_f (by rw [hz];simp)]
   exact congrArg Value.bool (by simp;omega))
def qPQ (s:Snap) (l h p:BA):Value :=
 if idxI (idxO (fun x=>bs x==bs l) s.listens)<0 then .tuple #[.int .i64 0,.int .i64 3] else
 match qfM (fitR (idxI (idxO (fun x=>bs x==bs l) s.listens)) h p) s.rules with
 | none=>.tuple #[.int .i64 0,.int .i64 5]
 | some j=>.tuple #[.int .i64 ((s.rules[j]?).map (·.cluster)).get!,.int .i64 0]
theorem qhT (g:GW) {cs:List Value} {s:Snap} (hs:q8I g cs s) (l h p:BA) (hsm:SmL s.rules∧Sm h∧Sm p):OkV Tryz.prog qmO [.agg ⟨cs⟩,.string l,.string h,.string p] g (qPQ s l h p):=by
 have hs0:=hs
 obtain⟨a,b,d,rfl,hl,hr,hk⟩:=hs
 obtain⟨oa,ca,rfl,a1,a2,a0,hl1⟩:=id hl
 obtain⟨ob,cb,rfl,b1,b2,b0,hr1⟩:=id hr
 obtain⟨od,cd,rfl,d1,d2,d0,hk1⟩:=id hk
 exact Ok.of_fn hm noT 0 qFO (args:=[.v (.agg ⟨[.slice oa s.listens.length ca,.slice ob s.rules.length cb,.slice od s.clusters.length cd]⟩),.v (.string l),.v (.string h),.v (.string p)]) (by
  repeat((conv=>whnf);first|apply qza|apply qzb|apply qzc|apply qzd|apply qze|intro(_:Nat))
  conv=>whnf
  refine .inl ⟨_,qYO _ hl _,?_⟩
  conv=>whnf
  refine⟨fun k1=>?_,fun k1=>?_⟩
  ·conv=>whnf
   intro g2 hg
   rw [qPQ,if_pos (of_decide_eq_true k1)]
  have k1:=of_decide_eq_false k1
  repeat((conv=>whnf);first|apply qza|apply qzb|apply qzc|apply qzd|apply qze|intro(_:Nat))
  cases hb:qfM (fitR (idxI (idxO (fun x=>bs x==bs l) s.listens)) h p) s.rules with
  | none =>
   conv=>whnf
   refine .inl ⟨_,(qKR _ hr _ _ _ hsm).to (congrArg q3T hb),?_⟩
   conv=>whnf
   refine⟨fun _=>?_,fun h=>nomatch h⟩
   conv=>whnf
   intro g2 hg
   rw [qPQ,if_neg k1,hb]
  | some j =>
   conv=>whnf
   refine .inl ⟨_,(qKR _ hr _ _ _ hsm).to (congrArg q3T hb),?_⟩
   conv=>whnf
   refine⟨fun h=>(nomatch h),fun _=>?_⟩
   obtain⟨r,q1,q2,_⟩:=bestO_some.1 hb
   obtain⟨a,rfl,ec,hec,⟨rfl,_,_⟩,hc⟩:=hr1 j r q1
   repeat((conv=>whnf);first|apply qza|apply qzb|apply qzc|apply qzd|apply qze|intro(_:Nat))
   conv=>whnf
   refine⟨a,rfl,⟨by omega,by omega⟩,?_⟩
   conv=>whnf
   refine⟨_,hc 3 _ rfl,?_⟩
   conv=>whnf
   intro g2 hg
   rw [qPQ,if_neg k1,hb]
   simp [q1])
/- Snapshots: the document's answer to: is it one? -/
open Go.Proofs.YtompjkkgaafllaaGreat.Sx Go.RowKit
def SnS (s:Snap):Prop:=s.rules.length≤1000000∧∀ r∈s.rules,r.host.size≤100∧r.path.size≤100
end Go.Proofs.YtompjkkgaafllaaGreat
