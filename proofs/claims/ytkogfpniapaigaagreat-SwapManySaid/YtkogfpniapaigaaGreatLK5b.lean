/- Whether a configuration may be: the routes, and the whole. -/
import Derived.Test.YtkogfpniapaigaaGreatLB1
import Derived.Test.YtkogfpniapaigaaGreatPl
set_option linter.unusedVariables false
set_option linter.unusedSimpArgs false
namespace Go.Proofs.YtkogfpniapaigaaGreat
open Go.Proofs.YtkogfpniapaigaaGreat.Sx
set_option maxHeartbeats 16000000
set_option maxRecDepth 100000
theorem q7L (g:GW) {cs:List Value} {c:Config} (hc:qcA g cs c):OkV Tryz.prog qLC [.agg ⟨cs⟩] g (eiT (qoC c)):=by
 obtain⟨a,b,d,rfl,hl,hr,hk⟩:=hc
 obtain⟨oa,ca,rfl,a1,a2,a0,hl1⟩:=id hl
 obtain⟨ob,cb,rfl,b1,b2,b0,hr1⟩:=id hr
 obtain⟨od,cd,rfl,d1,d2,d0,hk1⟩:=id hk
 exact Ok.of_fn hm noT 0 q8D (args:=[.v (.agg ⟨[.slice oa c.listens.length ca,.slice ob c.routes.length cb,.slice od c.clusters.length cd]⟩)]) (by
  repeat((conv=>whnf);first|apply qza|apply qzb|apply qzc|apply qzd|apply qze|intro(_:Nat))
  conv=>whnf
  refine⟨Nat,fun k=>[.v (.int .i64 k)],fun k=>⟨g,[.blk 0 _ _ [.v (.slice oa c.listens.length ca),.v (.slice ob c.routes.length cb),.v (.slice od c.clusters.length cd)]],_,_⟩,fun k=>k≤c.routes.length∧Pass (q3B c) c.routes k,fun k=>c.routes.length-k,qDA 0 rfl ⟨Nat.zero_le _,Pass.zero _ _⟩ rfl,?_⟩
  rintro k ⟨hkk,hp⟩
  conv=>whnf
  refine⟨fun hlt=>?_,fun hlt=>?_⟩
  ·have h':k<c.routes.length:=by have:=of_decide_eq_true hlt;omega
   obtain⟨x,hx⟩:=qBA h'
   obtain⟨a,rfl,ec,hec,rfl,hc⟩:=hr1 k x hx
   have hit:∀ e:EI,q3B c k x=some e→qoC c=some e:=fun e he=>hp.hit hx he
   conv=>whnf
   refine⟨a,rfl,⟨by omega,by omega⟩,?_⟩
   conv=>whnf
   refine⟨_,⟨rfl,hc⟩,?_⟩
   repeat((conv=>whnf);first|apply qza|apply qzb|apply qzc|apply qzd|apply qze|intro(_:Nat))
   conv=>whnf
   refine .inl ⟨_,q0K _ hl _,?_⟩
   conv=>whnf
   refine⟨fun h1=>?_,fun h1=>?_⟩
   ·conv=>whnf
    intro g2 hg
    rw [hit (5,k) (by rw [q3B,if_neg (by simp [nb1 h1])])];rfl
   have h1:=nb0 h1
   repeat((conv=>whnf);first|apply qza|apply qzb|apply qzc|apply qzd|apply qze|intro(_:Nat))
   conv=>whnf
   refine .inl ⟨_,quQ _ _,?_⟩
   conv=>whnf
   refine⟨fun h2=>?_,fun h2=>?_⟩
   ·conv=>whnf
    intro g2 hg
    rw [hit (7,k) (by rw [q3B,if_pos h1,if_neg (by simp [nb1 h2])])];rfl
   have h2:=nb0 h2
   repeat((conv=>whnf);first|apply qza|apply qzb|apply qzc|apply qzd|apply qze|intro(_:Nat))
   conv=>whnf
   refine .inl ⟨_,qcU _ _,?_⟩
   conv=>whnf
   refine⟨fun h3=>?_,fun h3=>?_⟩
   ·conv=>whnf
    intro g2 hg
    rw [hit (8,k) (by rw [q3B,if_pos h1,if_pos h2,if_neg (by simp [nb1 h3])])];rfl
   have h3:=nb0 h3
   repeat((conv=>whnf);first|apply qza|apply qzb|apply qzc|apply qzd|apply qze|intro(_:Nat))
   conv=>whnf
   refine .inl ⟨_,qCQ _ hk _,?_⟩
   conv=>whnf
   refine⟨fun h4=>?_,fun h4=>?_⟩
   ·conv=>whnf
    intro g2 hg
    rw [hit (5,k) (by rw [q3B,if_pos h1,if_pos h2,if_pos h3,if_neg (by simp [nb1 h4])])];rfl
   have h4:=nb0 h4
   repeat((conv=>whnf);first|apply qza|apply qzb|apply qzc|apply qzd|apply qze|intro(_:Nat))
   conv=>whnf
   refine⟨⟨by omega,by omega⟩,?_⟩
   repeat((conv=>whnf);first|apply qza|apply qzb|apply qzc|apply qzd|apply qze|intro(_:Nat))
   conv=>whnf
   refine⟨Nat,fun m=>[.v (.int .i64 m)],fun m=>⟨g,[.blk 1 _ _ [.v (.string x.listen),.v (.string x.host),.v (.string x.path),.v (.string ⟨#[]⟩)],.blk 0 _ _ [.v (.slice oa c.listens.length ca),.v (.slice (some a) c.routes.length cb),.v (.slice od c.clusters.length cd)]],_,_⟩,fun m=>m≤k∧(∀ j y,j<m→c.routes[j]?=some y→eqRt y x=false),fun m=>k-m,qDA 0 rfl ⟨Nat.zero_le _,fun j y hj=>by omega⟩ rfl,?_⟩
   rintro m ⟨hmk,hq⟩
   conv=>whnf
   refine⟨fun hml=>?_,fun hml=>?_⟩
   ·have hm':m<k:=by have:=of_decide_eq_true hml;simp at this;omega
    obtain⟨y,hy⟩:=qBA (show m<c.routes.length by omega)
    obtain⟨a',ha',ecy,hecy,rfl,hcy⟩:=hr1 m y hy
    cases ha'
    conv=>whnf
    refine⟨a,rfl,⟨by omega,by simp;omega⟩,?_⟩
    conv=>whnf
    refine⟨_,⟨rfl,hcy⟩,?_⟩
    repeat((conv=>whnf);first|apply qza|apply qzb|apply qzc|apply qzd|apply qze|intro(_:Nat))
    conv=>whnf
    refine⟨fun he=>?_,fun he=>?_⟩
    ·conv=>whnf
     intro g2 hg
     have he:eqRt y x=true:=by simpa [eqRt,Bool.and_assoc] using he
     rw [hit (4,k) (by rw [q3B,if_pos h1,if_pos h2,if_pos h3,if_pos h4,if_pos];exact List.any_eq_true.2 ⟨y,List.mem_of_getElem? (show(c.routes.take k)[m]?=some y by rw [List.getElem?_take,if_pos hm'];exact hy),he⟩)];rfl
    ·conv=>whnf
     refine fun fr w hw=>⟨m+1,congrArg (fun z=>[Value.int .i64 z]) (wr1 hm' (Nat.le_of_lt (Nat.lt_of_lt_of_le h' b1)) b2).symm,⟨hm',?_⟩,dec hm',?_⟩
     ·have he:eqRt y x=false:=by simpa [eqRt,Bool.and_assoc] using he
      intro j z hj hz
      rcases Nat.lt_or_ge j m with c1|c1
      ·exact hq j z c1 hz
      ·obtain rfl:j=m:=by omega
       rw [hy] at hz;cases hz;exact he
     ·exact hw.fit (by simp [fitL,Res.eqv,qAA,conc])
   ·conv=>whnf
    refine fun fr w hw=>⟨k+1,congrArg (fun z=>[Value.int .i64 z]) (wr1 h' b1 b2).symm,⟨h',hp.succ hx (by rw [q3B,if_pos h1,if_pos h2,if_pos h3,if_pos h4,if_neg];have:=of_decide_eq_false hml;rw [any_take.2 fun j y hj=>hq j y (by omega)];simp)⟩,dec h',?_⟩
    exact hw.fit (by simp [fitL,Res.eqv,qAA,conc])
  ·conv=>whnf
   intro g2 hg
   have:=of_decide_eq_false hlt
   rw [show qoC c=none from hp.done (by omega)];rfl)
theorem qAG (o:Option EI):(o=none∧eiT o=.tuple #[.int .i64 0,.int .i64 0])∨∃ e i,o=some (e,i)∧eiT o=.tuple #[.int .i64 e,.int .i64 i]:=by
 cases o with
 | none=>exact .inl ⟨rfl,rfl⟩
 | some x=>exact .inr ⟨x.1,x.2,rfl,rfl⟩
theorem qTK (g:GW) {cs:List Value} {c:Config} (hc:qcA g cs c):OkV Tryz.prog qmL [.agg ⟨cs⟩] g (eiT (qHA c)):=by
 have hc0:=hc
 obtain⟨a,b,d,rfl,hl,hr,hk⟩:=hc
 obtain⟨oa,ca,rfl,a1,a2,a0,hl1⟩:=id hl
 obtain⟨ob,cb,rfl,b1,b2,b0,hr1⟩:=id hr
 obtain⟨od,cd,rfl,d1,d2,d0,hk1⟩:=id hk
 exact Ok.of_fn hm noT 0 qeL (args:=[.v (.agg ⟨[.slice oa c.listens.length ca,.slice ob c.routes.length cb,.slice od c.clusters.length cd]⟩)]) (by
  repeat((conv=>whnf);first|apply qza|apply qzb|apply qzc|apply qzd|apply qze|intro(_:Nat))
  conv=>whnf
  refine⟨Nat,fun k=>[.v (.int .i64 k)],fun _=>⟨g,[.blk 2 _ _ [.fn (.func qgC) [.agg [.v (.slice oa c.listens.length ca),.v (.slice ob c.routes.length cb),.v (.slice od c.clusters.length cd)]] [],.fn (.func q6B) [.agg [.v (.slice oa c.listens.length ca),.v (.slice ob c.routes.length cb),.v (.slice od c.clusters.length cd)]] [],.fn (.func quB) [.agg [.v (.slice oa c.listens.length ca),.v (.slice ob c.routes.length cb),.v (.slice od c.clusters.length cd)]] [],.fn (.func qLC) [.agg [.v (.slice oa c.listens.length ca),.v (.slice ob c.routes.length cb),.v (.slice od c.clusters.length cd)]] []],.blk 1 _ _ [.v (.slice oa c.listens.length ca),.v (.slice ob c.routes.length cb),.v (.slice od c.clusters.length cd)],.blk 0 _ _ [.v (.slice oa c.listens.length ca),.v (.slice ob c.routes.length cb),.v (.slice od c.clusters.length cd)]],_,_⟩,fun k=>k≤4∧(1≤k→qFK c=none)∧(2≤k→qnB c=none)∧(3≤k→qUB c=none)∧(4≤k→qoC c=none),fun k=>4-k,qDA 0 rfl ⟨by omega,by omega,by omega,by omega,by omega⟩ rfl,?_⟩
  rintro k ⟨hk4,j1,j2,j3,j4⟩
  obtain rfl|rfl|rfl|rfl|rfl:k=0∨k=1∨k=2∨k=3∨k=4:=by omega
  ·obtain⟨h0,hv⟩|⟨e,i,h0,hv⟩:=qAG (qFK c)
   ·conv=>whnf
    refine⟨fun _=>?_,fun h=>nomatch h⟩
    conv=>whnf
    refine⟨0,⟨rfl,by decide⟩,?_⟩
    repeat((conv=>whnf);first|apply qza|apply qzb|apply qzc|apply qzd|apply qze|intro(_:Nat))
    conv=>whnf
    refine⟨qhC,?_⟩
    conv=>whnf
    refine .inl ⟨_,(qDQ _ hc0).to hv,?_⟩
    conv=>whnf
    refine⟨fun h=>(nomatch h),fun _=>?_⟩
    conv=>whnf
    refine fun fr w hw=>⟨1,rfl,⟨by omega,fun _=>h0,fun h=>absurd h (by omega),fun h=>absurd h (by omega),fun h=>absurd h (by omega)⟩,by decide,?_⟩
    exact hw.fit (by simp [fitL,Res.eqv,qAA,conc])
   ·have hck:qHA c=some (e,i):=by rw [qHA,h0]
    have hne:=q8A hck
    conv=>whnf
    refine⟨fun _=>?_,fun h=>nomatch h⟩
    conv=>whnf
    refine⟨0,⟨rfl,by decide⟩,?_⟩
    repeat((conv=>whnf);first|apply qza|apply qzb|apply qzc|apply qzd|apply qze|intro(_:Nat))
    conv=>whnf
    refine⟨qhC,?_⟩
    conv=>whnf
    refine .inl ⟨_,(qDQ _ hc0).to hv,?_⟩
    conv=>whnf
    refine⟨fun _=>?_,fun hx=>absurd hx (by simp;omega)⟩
    conv=>whnf
    intro g2 hg
    rw [hck];rfl
  ·obtain⟨h0,hv⟩|⟨e,i,h0,hv⟩:=qAG (qnB c)
   ·conv=>whnf
    refine⟨fun _=>?_,fun h=>nomatch h⟩
    conv=>whnf
    refine⟨1,⟨rfl,by decide⟩,?_⟩
    repeat((conv=>whnf);first|apply qza|apply qzb|apply qzc|apply qzd|apply qze|intro(_:Nat))
    conv=>whnf
    refine⟨q7B,?_⟩
    conv=>whnf
    refine .inl ⟨_,(qzK _ hc0).to hv,?_⟩
    conv=>whnf
    refine⟨fun h=>(nomatch h),fun _=>?_⟩
    conv=>whnf
    refine fun fr w hw=>⟨2,rfl,⟨by omega,fun _=>j1 (by omega),fun _=>h0,fun h=>absurd h (by omega),fun h=>absurd h (by omega)⟩,by decide,?_⟩
    exact hw.fit (by simp [fitL,Res.eqv,qAA,conc])
   ·have hck:qHA c=some (e,i):=by rw [qHA,j1 (by omega),h0]
    have hne:=q8A hck
    conv=>whnf
    refine⟨fun _=>?_,fun h=>nomatch h⟩
    conv=>whnf
    refine⟨1,⟨rfl,by decide⟩,?_⟩
    repeat((conv=>whnf);first|apply qza|apply qzb|apply qzc|apply qzd|apply qze|intro(_:Nat))
    conv=>whnf
    refine⟨q7B,?_⟩
    conv=>whnf
    refine .inl ⟨_,(qzK _ hc0).to hv,?_⟩
    conv=>whnf
    refine⟨fun _=>?_,fun hx=>absurd hx (by simp;omega)⟩
    conv=>whnf
    intro g2 hg
    rw [hck];rfl
  ·obtain⟨h0,hv⟩|⟨e,i,h0,hv⟩:=qAG (qUB c)
   ·conv=>whnf
    refine⟨fun _=>?_,fun h=>nomatch h⟩
    conv=>whnf
    refine⟨2,⟨rfl,by decide⟩,?_⟩
    repeat((conv=>whnf);first|apply qza|apply qzb|apply qzc|apply qzd|apply qze|intro(_:Nat))
    conv=>whnf
    refine⟨qvB,?_⟩
    conv=>whnf
    refine .inl ⟨_,(q2J _ hc0).to hv,?_⟩
    conv=>whnf
    refine⟨fun h=>(nomatch h),fun _=>?_⟩
    conv=>whnf
    refine fun fr w hw=>⟨3,rfl,⟨by omega,fun _=>j1 (by omega),fun _=>j2 (by omega),fun _=>h0,fun h=>absurd h (by omega)⟩,by decide,?_⟩
    exact hw.fit (by simp [fitL,Res.eqv,qAA,conc])
   ·have hck:qHA c=some (e,i):=by rw [qHA,j1 (by omega),j2 (by omega),h0]
    have hne:=q8A hck
    conv=>whnf
    refine⟨fun _=>?_,fun h=>nomatch h⟩
    conv=>whnf
    refine⟨2,⟨rfl,by decide⟩,?_⟩
    repeat((conv=>whnf);first|apply qza|apply qzb|apply qzc|apply qzd|apply qze|intro(_:Nat))
    conv=>whnf
    refine⟨qvB,?_⟩
    conv=>whnf
    refine .inl ⟨_,(q2J _ hc0).to hv,?_⟩
    conv=>whnf
    refine⟨fun _=>?_,fun hx=>absurd hx (by simp;omega)⟩
    conv=>whnf
    intro g2 hg
    rw [hck];rfl
  ·obtain⟨h0,hv⟩|⟨e,i,h0,hv⟩:=qAG (qoC c)
   ·conv=>whnf
    refine⟨fun _=>?_,fun h=>nomatch h⟩
    conv=>whnf
    refine⟨3,⟨rfl,by decide⟩,?_⟩
    repeat((conv=>whnf);first|apply qza|apply qzb|apply qzc|apply qzd|apply qze|intro(_:Nat))
    conv=>whnf
    refine⟨qMC,?_⟩
    conv=>whnf
    refine .inl ⟨_,(q7L _ hc0).to hv,?_⟩
    conv=>whnf
    refine⟨fun h=>(nomatch h),fun _=>?_⟩
    conv=>whnf
    refine fun fr w hw=>⟨4,rfl,⟨by omega,fun _=>j1 (by omega),fun _=>j2 (by omega),fun _=>j3 (by omega),fun _=>h0⟩,by decide,?_⟩
    exact hw.fit (by simp [fitL,Res.eqv,qAA,conc])
   ·have hck:qHA c=some (e,i):=by rw [qHA,j1 (by omega),j2 (by omega),j3 (by omega),h0]
    have hne:=q8A hck
    conv=>whnf
    refine⟨fun _=>?_,fun h=>nomatch h⟩
    conv=>whnf
    refine⟨3,⟨rfl,by decide⟩,?_⟩
    repeat((conv=>whnf);first|apply qza|apply qzb|apply qzc|apply qzd|apply qze|intro(_:Nat))
    conv=>whnf
    refine⟨qMC,?_⟩
    conv=>whnf
    refine .inl ⟨_,(q7L _ hc0).to hv,?_⟩
    conv=>whnf
    refine⟨fun _=>?_,fun hx=>absurd hx (by simp;omega)⟩
    conv=>whnf
    intro g2 hg
    rw [hck];rfl
  ·conv=>whnf
   refine⟨fun h=>(nomatch h),fun _=>?_⟩
   conv=>whnf
   intro g2 hg
   rw [show qHA c=none from by rw [qHA,j1 (by omega),j2 (by omega),j3 (by omega),j4 (by omega)]];rfl)
/- Whether a configuration may be: the document's answer. -/
open Go.Proofs.YtkogfpniapaigaaGreat.Sx
theorem qwK (g:GW) {cs:List Value} {c:Config} (hc:qcA g cs c):OkV Tryz.prog qLF [.agg ⟨cs⟩] g (eiT (qnB c)):=by
 obtain⟨a,b,d,rfl,hl,hr,hk⟩:=hc
 obtain⟨oa,ca,rfl,a1,a2,a0,hl1⟩:=id hl
 obtain⟨ob,cb,rfl,b1,b2,b0,hr1⟩:=id hr
 obtain⟨od,cd,rfl,d1,d2,d0,hk1⟩:=id hk
 exact Ok.of_fn hm noT 0 qCF (args:=[.v (.agg ⟨[.slice oa c.listens.length ca,.slice ob c.routes.length cb,.slice od c.clusters.length cd]⟩)]) (by
  repeat((conv=>whnf);first|apply qza|apply qzb|apply qzc|apply qzd|apply qze|intro(_:Nat))
  conv=>whnf
  refine⟨Nat,fun k=>[.v (.int .i64 k)],fun k=>⟨g,[.blk 0 _ _ [.v (.slice oa c.listens.length ca),.v (.slice ob c.routes.length cb),.v (.slice od c.clusters.length cd)]],_,_⟩,fun k=>k≤c.listens.length∧Pass (qaC c.listens) c.listens k,fun k=>c.listens.length-k,qDA 0 rfl ⟨Nat.zero_le _,Pass.zero _ _⟩ rfl,?_⟩
  rintro k ⟨hkk,hp⟩
  repeat((conv=>whnf);first|apply qza|apply qzb|apply qzc|apply qzd|apply qze|intro(_:Nat))
  conv=>whnf
  refine⟨fun hlt=>?_,fun hlt=>?_⟩
  ·have h':k<c.listens.length:=by have:=of_decide_eq_true hlt;omega
   obtain⟨x,hx⟩:=qBA h'
   obtain⟨a,rfl,ec,hec,rfl,hc⟩:=hl1 k x hx
   have hit:∀ e:EI,qaC c.listens k x=some e→qnB c=some e:=fun e he=>hp.hit hx he
   repeat((conv=>whnf);first|apply qza|apply qzb|apply qzc|apply qzd|apply qze|intro(_:Nat))
   conv=>whnf
   refine⟨a,rfl,⟨by omega,by omega⟩,?_⟩
   conv=>whnf
   refine⟨_,hc 0 _ rfl,?_⟩
   repeat((conv=>whnf);first|apply qza|apply qzb|apply qzc|apply qzd|apply qze|intro(_:Nat))
   conv=>whnf
   refine .inl ⟨_,qSK _ _,?_⟩
   conv=>whnf
   refine⟨fun hn=>?_,fun hn=>?_⟩
   ·conv=>whnf
    intro g2 hg
    rw [hit (3,k) (by rw [qaC,if_neg (by simp [nb1 hn])])];rfl
   have hn:=nb0 hn
   repeat((conv=>whnf);first|apply qza|apply qzb|apply qzc|apply qzd|apply qze|intro(_:Nat))
   conv=>whnf
   refine⟨Nat,fun m=>[.v (.int .i64 m)],fun m=>⟨g,[.blk 0 _ _ [.v (.slice (some a) c.listens.length ca),.v (.slice ob c.routes.length cb),.v (.slice od c.clusters.length cd)]],_,_⟩,fun m=>m≤k∧(∀ j y,j<m→c.listens[j]?=some y→(bs y==bs x)=false),fun m=>k-m,qDA 0 rfl ⟨Nat.zero_le _,fun j y hj=>by omega⟩ rfl,?_⟩
   rintro m ⟨hmk,hq⟩
   repeat((conv=>whnf);first|apply qza|apply qzb|apply qzc|apply qzd|apply qze|intro(_:Nat))
   conv=>whnf
   refine⟨fun hml=>?_,fun hml=>?_⟩
   ·have hm':m<k:=by have:=of_decide_eq_true hml;omega
    obtain⟨y,hy⟩:=qBA (show m<c.listens.length by omega)
    obtain⟨a',ha',ecy,hecy,rfl,hcy⟩:=hl1 m y hy
    cases ha'
    repeat((conv=>whnf);first|apply qza|apply qzb|apply qzc|apply qzd|apply qze|intro(_:Nat))
    conv=>whnf
    refine⟨a,rfl,⟨by omega,by omega⟩,?_⟩
    conv=>whnf
    refine⟨_,hcy 0 _ rfl,?_⟩
    repeat((conv=>whnf);first|apply qza|apply qzb|apply qzc|apply qzd|apply qze|intro(_:Nat))
    conv=>whnf
    refine⟨a,rfl,⟨by omega,by omega⟩,?_⟩
    conv=>whnf
    refine⟨_,hc 0 _ rfl,?_⟩
    repeat((conv=>whnf);first|apply qza|apply qzb|apply qzc|apply qzd|apply qze|intro(_:Nat))
    conv=>whnf
    refine⟨fun he=>?_,fun he=>?_⟩
    ·conv=>whnf
     intro g2 hg
     rw [hit (4,k) (by rw [qaC,if_pos hn,if_pos];exact List.any_eq_true.2 ⟨y,List.mem_of_getElem? (show(c.listens.take k)[m]?=some y by rw [List.getElem?_take,if_pos hm'];exact hy),he⟩)];rfl
    ·conv=>whnf
     refine fun fr w hw=>⟨m+1,congrArg (fun z=>[Value.int .i64 z]) (wr1 hm' (Nat.le_of_lt (Nat.lt_of_lt_of_le h' a1)) a2).symm,⟨hm',?_⟩,dec hm',?_⟩
     ·intro j z hj hz
      rcases Nat.lt_or_ge j m with c1|c1
      ·exact hq j z c1 hz
      ·obtain rfl:j=m:=by omega
       rw [hy] at hz;cases hz;exact he
     ·exact hw.fit (by simp [fitL,Res.eqv,qAA,conc])
   ·conv=>whnf
    refine fun fr w hw=>⟨k+1,congrArg (fun z=>[Value.int .i64 z]) (wr1 h' a1 a2).symm,⟨h',hp.succ hx (by rw [qaC,if_pos hn,if_neg];have:=of_decide_eq_false hml;rw [hasS,any_take.2 fun j y hj=>hq j y (by omega)];simp)⟩,dec h',?_⟩
    exact hw.fit (by simp [fitL,Res.eqv,qAA,conc])
  ·conv=>whnf
   intro g2 hg
   have:=of_decide_eq_false hlt
   rw [show qnB c=none from hp.done (by omega)];rfl)
theorem q1J (g:GW) {cs:List Value} {c:Config} (hc:qcA g cs c):OkV Tryz.prog qoE [.agg ⟨cs⟩] g (eiT (qUB c)):=by
 obtain⟨a,b,d,rfl,hl,hr,hk⟩:=hc
 obtain⟨oa,ca,rfl,a1,a2,a0,hl1⟩:=id hl
 obtain⟨ob,cb,rfl,b1,b2,b0,hr1⟩:=id hr
 obtain⟨od,cd,rfl,d1,d2,d0,hk1⟩:=id hk
 exact Ok.of_fn hm noT 0 qgE (args:=[.v (.agg ⟨[.slice oa c.listens.length ca,.slice ob c.routes.length cb,.slice od c.clusters.length cd]⟩)]) (by
  repeat((conv=>whnf);first|apply qza|apply qzb|apply qzc|apply qzd|apply qze|intro(_:Nat))
  conv=>whnf
  refine⟨Nat,fun k=>[.v (.int .i64 k)],fun k=>⟨g,[.blk 0 _ _ [.v (.slice oa c.listens.length ca),.v (.slice ob c.routes.length cb),.v (.slice od c.clusters.length cd)]],_,_⟩,fun k=>k≤c.clusters.length∧Pass (qRA c.clusters) c.clusters k,fun k=>c.clusters.length-k,qDA 0 rfl ⟨Nat.zero_le _,Pass.zero _ _⟩ rfl,?_⟩
  rintro k ⟨hkk,hp⟩
  repeat((conv=>whnf);first|apply qza|apply qzb|apply qzc|apply qzd|apply qze|intro(_:Nat))
  conv=>whnf
  refine⟨fun hlt=>?_,fun hlt=>?_⟩
  ·have h':k<c.clusters.length:=by have:=of_decide_eq_true hlt;omega
   obtain⟨x,hx⟩:=qBA h'
   obtain⟨a,rfl,ec,hec,⟨hv,rfl,_,_,oh,ch,rfl,_⟩,hc⟩:=hk1 k x hx
   have hit:∀ e:EI,qRA c.clusters k x=some e→qUB c=some e:=fun e he=>hp.hit hx he
   repeat((conv=>whnf);first|apply qza|apply qzb|apply qzc|apply qzd|apply qze|intro(_:Nat))
   conv=>whnf
   refine⟨a,rfl,⟨by omega,by omega⟩,?_⟩
   conv=>whnf
   refine⟨_,⟨rfl,hc⟩,?_⟩
   repeat((conv=>whnf);first|apply qza|apply qzb|apply qzc|apply qzd|apply qze|intro(_:Nat))
   conv=>whnf
   refine .inl ⟨_,qSK _ _,?_⟩
   conv=>whnf
   refine⟨fun hn=>?_,fun hn=>?_⟩
   ·conv=>whnf
    intro g2 hg
    rw [hit (3,k) (by rw [qRA,if_neg (by simp [nb1 hn])])];rfl
   have hn:=nb0 hn
   repeat((conv=>whnf);first|apply qza|apply qzb|apply qzc|apply qzd|apply qze|intro(_:Nat))
   conv=>whnf
   refine⟨Nat,fun m=>[.v (.int .i64 m)],fun m=>⟨g,[.blk 1 _ _ [.v (.string x.name),.v (.int .i64 x.policy),.v (.int .i64 x.slots),.v (.slice oh x.health.length ch)],.blk 0 _ _ [.v (.slice oa c.listens.length ca),.v (.slice ob c.routes.length cb),.v (.slice (some a) c.clusters.length cd)]],_,_⟩,fun m=>m≤k∧(∀ (j:Nat) (y:Cluster),j<m→c.clusters[j]?=some y→(bs y.name==bs x.name)=false),fun m=>k-m,qDA 0 rfl ⟨Nat.zero_le _,fun j y hj=>by omega⟩ rfl,?_⟩
   rintro m ⟨hmk,hq⟩
   repeat((conv=>whnf);first|apply qza|apply qzb|apply qzc|apply qzd|apply qze|intro(_:Nat))
   conv=>whnf
   refine⟨fun hml=>?_,fun hml=>?_⟩
   ·have hm':m<k:=by have:=of_decide_eq_true hml;omega
    obtain⟨y,hy⟩:=qBA (show m<c.clusters.length by omega)
    obtain⟨a',ha',ecy,hecy,⟨hv2,rfl,_,_,oh2,ch2,rfl,_⟩,hcy⟩:=hk1 m y hy
    cases ha'
    repeat((conv=>whnf);first|apply qza|apply qzb|apply qzc|apply qzd|apply qze|intro(_:Nat))
    conv=>whnf
    refine⟨a,rfl,⟨by omega,by omega⟩,?_⟩
    conv=>whnf
    refine⟨_,hcy 0 _ rfl,?_⟩
    repeat((conv=>whnf);first|apply qza|apply qzb|apply qzc|apply qzd|apply qze|intro(_:Nat))
    conv=>whnf
    refine⟨fun he=>?_,fun he=>?_⟩
    ·conv=>whnf
     intro g2 hg
     rw [hit (4,k) (by rw [qRA,if_pos hn,if_pos];exact List.any_eq_true.2 ⟨y,List.mem_of_getElem? (show(c.clusters.take k)[m]?=some y by rw [List.getElem?_take,if_pos hm'];exact hy),he⟩)];rfl
    ·conv=>whnf
     refine fun fr w hw=>⟨m+1,congrArg (fun z=>[Value.int .i64 z]) (wr1 hm' (Nat.le_of_lt (Nat.lt_of_lt_of_le h' d1)) d2).symm,⟨hm',?_⟩,dec hm',?_⟩
     ·intro j z hj hz
      rcases Nat.lt_or_ge j m with c1|c1
      ·exact hq j z c1 hz
      ·obtain rfl:j=m:=by omega
       rw [hy] at hz;cases hz;exact he
     ·exact hw.fit (by simp [fitL,Res.eqv,qAA,conc])
   have hs:hasC (c.clusters.take k) x.name=false:=by
    have:=of_decide_eq_false hml;rw [hasC,any_take.2 fun j y hj=>hq j y (by omega)]
   have hp9:¬(x.policy=1∨x.policy=2)→qRA c.clusters k x=some (9,(k:Int)):=fun h=>by rw [qRA,if_pos hn,if_neg (by simp [hs]),if_neg h]
   have hp10:(x.policy=1∨x.policy=2)→¬(1≤x.slots∧x.slots≤4)→qRA c.clusters k x=some (10,(k:Int)):=fun h h2=>by rw [qRA,if_pos hn,if_neg (by simp [hs]),if_pos h,if_neg h2]
   have hp6:(x.policy=1∨x.policy=2)→(1≤x.slots∧x.slots≤4)→¬(1≤x.health.length∧x.health.length≤4)→qRA c.clusters k x=some (6,(k:Int)):=fun h h2 h3=>by rw [qRA,if_pos hn,if_neg (by simp [hs]),if_pos h,if_pos h2,if_neg h3]
   have hp0:(x.policy=1∨x.policy=2)→(1≤x.slots∧x.slots≤4)→(1≤x.health.length∧x.health.length≤4)→qRA c.clusters k x=none:=fun h h2 h3=>by rw [qRA,if_pos hn,if_neg (by simp [hs]),if_pos h,if_pos h2,if_pos h3]
   have hpn:=fun e=>hp.succ hx e
   clear hq hml hlt hp
   repeat'((conv=>whnf);first|apply qza|apply qzb|apply qzc|apply qzd|apply qze|intro(_:Nat)|refine .inl ⟨_,rfl,?_⟩|refine⟨fun _=>?_,fun _=>?_⟩|fail)
   all_goals (conv=>whnf)
   all_goals (try simp only [bne_iff_ne,ne_eq,bne_eq_false_iff_eq,decide_eq_true_eq,decide_eq_false_iff_not,Int.not_lt] at *)
   all_goals first
    | (intro g2 hg;rw [hit (9,k) (hp9 (by omega))];rfl;done)
    | (intro g2 hg;rw [hit (10,k) (hp10 (by omega) (by omega))];rfl;done)
    | (intro g2 hg;rw [hit (6,k) (hp6 (by omega) (by omega) (by omega))];rfl;done)
    | refine fun fr w hw=>⟨k+1,congrArg (fun z=>[Value.int .i64 z]) (wr1 h' d1 d2).symm,⟨h',hpn (hp0 (by omega) (by omega) (by omega))⟩,dec h',?_⟩
   all_goals (exact hw.fit (by simp [fitL,Res.eqv,qAA,conc]))
  ·conv=>whnf
   intro g2 hg
   have:=of_decide_eq_false hlt
   rw [show qUB c=none from hp.done (by omega)];rfl)
theorem q8N (g:GW) {v:Value} {l:List BA} (hl:rSl 1 rStr g v l) (s:BA):OkV Tryz.prog qxF [v,.string s] g (.int .i64 (idxI (idxO (fun x=>bs x==bs s) l))) :=
 Ok.of_fn hm noT 0 qgF (args:=[.v v,.v (.string s)]) (by
  obtain⟨oa,cap,rfl,h1,h2,h0,hr⟩:=hl
  repeat((conv=>whnf);first|apply qza|apply qzb|apply qzc|apply qzd|apply qze|intro(_:Nat))
  conv=>whnf
  refine⟨Nat,fun k=>[.v (.int .i64 k)],fun k=>⟨g,[],_,_⟩,fun k=>k≤l.length∧Pass (idxF fun x=>bs x==bs s) l k,fun k=>l.length-k,qDA 0 rfl ⟨Nat.zero_le _,Pass.zero _ _⟩ rfl,?_⟩
  rintro k ⟨hk,hp⟩
  conv=>whnf
  refine⟨fun hlt=>?_,fun hlt=>?_⟩
  ·have h':k<l.length:=by have:=of_decide_eq_true hlt;omega
   obtain⟨x,hx⟩:=qBA h'
   obtain⟨a,rfl,ec,hec,rfl,hc⟩:=hr k x hx
   conv=>whnf
   refine⟨a,rfl,⟨by omega,by omega⟩,?_⟩
   conv=>whnf
   refine⟨_,hc 0 _ rfl,?_⟩
   conv=>whnf
   refine⟨fun he=>?_,fun he=>?_⟩
   ·conv=>whnf
    intro g2 hg
    rw [qzC hp hx he]
   ·conv=>whnf
    refine fun fr w hw=>⟨k+1,congrArg (fun z=>[Value.int .i64 z]) (wr1 h' h1 h2).symm,⟨h',qyC hp hx he⟩,dec h',hw⟩
  ·conv=>whnf
   intro g2 hg
   have:=of_decide_eq_false hlt
   rw [q8B hp (by omega)])
theorem q8L (g:GW) {v:Value} {l:List Cluster} (hl:rSl 4 qAC g v l) (s:BA):OkV Tryz.prog qMF [v,.string s] g (.int .i64 (idxI (idxO (fun (x:Cluster)=>bs x.name==bs s) l))) :=
 Ok.of_fn hm noT 0 qDF (args:=[.v v,.v (.string s)]) (by
  obtain⟨oa,cap,rfl,h1,h2,h0,hr⟩:=hl
  repeat((conv=>whnf);first|apply qza|apply qzb|apply qzc|apply qzd|apply qze|intro(_:Nat))
  conv=>whnf
  refine⟨Nat,fun k=>[.v (.int .i64 k)],fun k=>⟨g,[],_,_⟩,fun k=>k≤l.length∧Pass (idxF fun (x:Cluster)=>bs x.name==bs s) l k,fun k=>l.length-k,qDA 0 rfl ⟨Nat.zero_le _,Pass.zero _ _⟩ rfl,?_⟩
  rintro k ⟨hk,hp⟩
  conv=>whnf
  refine⟨fun hlt=>?_,fun hlt=>?_⟩
  ·have h':k<l.length:=by have:=of_decide_eq_true hlt;omega
   obtain⟨x,hx⟩:=qBA h'
   obtain⟨a,rfl,ec,hec,⟨hv,rfl,_,_,_,_,rfl,_⟩,hc⟩:=hr k x hx
   conv=>whnf
   refine⟨a,rfl,⟨by omega,by omega⟩,?_⟩
   conv=>whnf
   refine⟨_,hc 0 _ rfl,?_⟩
   conv=>whnf
   refine⟨fun he=>?_,fun he=>?_⟩
   ·conv=>whnf
    intro g2 hg
    rw [qzC hp hx he]
   ·conv=>whnf
    refine fun fr w hw=>⟨k+1,congrArg (fun z=>[Value.int .i64 z]) (wr1 h' h1 h2).symm,⟨h',qyC hp hx he⟩,dec h',hw⟩
  ·conv=>whnf
   intro g2 hg
   have:=of_decide_eq_false hlt
   rw [q8B hp (by omega)])
theorem qAN {α:Type} (f:α→Bool) (l:List α):decide (idxI (idxO f l)<0)=!l.any f:=by
 rw [← qHN,← decide_not]
 exact decide_eq_decide.2 (by omega)
abbrev SmC (c:Config):Prop:=∀ r∈c.routes,r.host.size≤100∧r.path.size≤100
theorem q6L (g:GW) {cs:List Value} {c:Config} (hc:qcA g cs c) (hsm:SmC c):OkV Tryz.prog qwF [.agg ⟨cs⟩] g (eiT (qoC c)):=by
 obtain⟨a,b,d,rfl,hl,hr,hk⟩:=hc
 obtain⟨oa,ca,rfl,a1,a2,a0,hl1⟩:=id hl
 obtain⟨ob,cb,rfl,b1,b2,b0,hr1⟩:=id hr
 obtain⟨od,cd,rfl,d1,d2,d0,hk1⟩:=id hk
 exact Ok.of_fn hm noT 0 qfF (args:=[.v (.agg ⟨[.slice oa c.listens.length ca,.slice ob c.routes.length cb,.slice od c.clusters.length cd]⟩)]) (by
  repeat((conv=>whnf);first|apply qza|apply qzb|apply qzc|apply qzd|apply qze|intro(_:Nat))
  conv=>whnf
  refine⟨Nat,fun k=>[.v (.int .i64 k)],fun k=>⟨g,[.blk 0 _ _ [.v (.slice oa c.listens.length ca),.v (.slice ob c.routes.length cb),.v (.slice od c.clusters.length cd)]],_,_⟩,fun k=>k≤c.routes.length∧Pass (q3B c) c.routes k,fun k=>c.routes.length-k,qDA 0 rfl ⟨Nat.zero_le _,Pass.zero _ _⟩ rfl,?_⟩
  rintro k ⟨hkk,hp⟩
  repeat((conv=>whnf);first|apply qza|apply qzb|apply qzc|apply qzd|apply qze|intro(_:Nat))
  conv=>whnf
  refine⟨fun hlt=>?_,fun hlt=>?_⟩
  ·have h':k<c.routes.length:=by have:=of_decide_eq_true hlt;omega
   obtain⟨x,hx⟩:=qBA h'
   have hsx:=hsm x (List.mem_of_getElem? hx)
   obtain⟨a,rfl,ec,hec,rfl,hc⟩:=hr1 k x hx
   have hit:∀ e:EI,q3B c k x=some e→qoC c=some e:=fun e he=>hp.hit hx he
   repeat((conv=>whnf);first|apply qza|apply qzb|apply qzc|apply qzd|apply qze|intro(_:Nat))
   conv=>whnf
   refine⟨a,rfl,⟨by omega,by omega⟩,?_⟩
   conv=>whnf
   refine⟨_,⟨rfl,hc⟩,?_⟩
   repeat((conv=>whnf);first|apply qza|apply qzb|apply qzc|apply qzd|apply qze|intro(_:Nat))
   conv=>whnf
   refine .inl ⟨_,q8N _ hl _,?_⟩
   conv=>whnf
   refine⟨fun h1=>?_,fun h1=>?_⟩
   ·have h1:hasS c.listens x.listen=false:=by rw [qAN] at h1;exact nb1 h1
    conv=>whnf
    intro g2 hg
    rw [hit (5,k) (by rw [q3B,if_neg (by simp [h1])])];rfl
   have h1:hasS c.listens x.listen=true:=by rw [qAN] at h1;exact nb0 h1
   repeat((conv=>whnf);first|apply qza|apply qzb|apply qzc|apply qzd|apply qze|intro(_:Nat))
   conv=>whnf
   refine .inl ⟨_,qLP _ _ (by omega),?_⟩
   conv=>whnf
   refine⟨fun h2=>?_,fun h2=>?_⟩
   ·conv=>whnf
    intro g2 hg
    rw [hit (7,k) (by rw [q3B,if_pos h1,if_neg (by simp [nb1 h2])])];rfl
   have h2:=nb0 h2
   repeat((conv=>whnf);first|apply qza|apply qzb|apply qzc|apply qzd|apply qze|intro(_:Nat))
   conv=>whnf
   refine .inl ⟨_,qFT _ _,?_⟩
   conv=>whnf
   refine⟨fun h3=>?_,fun h3=>?_⟩
   ·conv=>whnf
    intro g2 hg
    rw [hit (8,k) (by rw [q3B,if_pos h1,if_pos h2,if_neg (by simp [nb1 h3])])];rfl
   have h3:=nb0 h3
   repeat((conv=>whnf);first|apply qza|apply qzb|apply qzc|apply qzd|apply qze|intro(_:Nat))
   conv=>whnf
   refine .inl ⟨_,q8L _ hk _,?_⟩
   conv=>whnf
   refine⟨fun h4=>?_,fun h4=>?_⟩
   ·have h4:hasC c.clusters x.cluster=false:=by rw [qAN] at h4;exact nb1 h4
    conv=>whnf
    intro g2 hg
    rw [hit (5,k) (by rw [q3B,if_pos h1,if_pos h2,if_pos h3,if_neg (by simp [h4])])];rfl
   have h4:hasC c.clusters x.cluster=true:=by rw [qAN] at h4;exact nb0 h4
   repeat((conv=>whnf);first|apply qza|apply qzb|apply qzc|apply qzd|apply qze|intro(_:Nat))
   conv=>whnf
   refine⟨Nat,fun m=>[.v (.int .i64 m)],fun m=>⟨g,[.blk 1 _ _ [.v (.string x.listen),.v (.string x.host),.v (.string x.path),.v (.string x.cluster)],.blk 0 _ _ [.v (.slice oa c.listens.length ca),.v (.slice (some a) c.routes.length cb),.v (.slice od c.clusters.length cd)]],_,_⟩,fun m=>m≤k∧(∀ j y,j<m→c.routes[j]?=some y→eqRt y x=false),fun m=>k-m,qDA 0 rfl ⟨Nat.zero_le _,fun j y hj=>by omega⟩ rfl,?_⟩
   rintro m ⟨hmk,hq⟩
   repeat((conv=>whnf);first|apply qza|apply qzb|apply qzc|apply qzd|apply qze|intro(_:Nat))
   conv=>whnf
   refine⟨fun hml=>?_,fun hml=>?_⟩
   ·have hm':m<k:=by have:=of_decide_eq_true hml;omega
    obtain⟨y,hy⟩:=qBA (show m<c.routes.length by omega)
    obtain⟨a',ha',ecy,hecy,rfl,hcy⟩:=hr1 m y hy
    cases ha'
    have next:eqRt y x=false→∀ j z,j<m+1→c.routes[j]?=some z→eqRt z x=false:=fun he j z hj hz=>by
     rcases Nat.lt_or_ge j m with c1|c1
     ·exact hq j z c1 hz
     ·obtain rfl:j=m:=by omega
      rw [hy] at hz;cases hz;exact he
    have hit4:eqRt y x=true→qoC c=some (4,(k:Int)):=fun he=>hit (4,k) (by rw [q3B,if_pos h1,if_pos h2,if_pos h3,if_pos h4,if_pos];exact List.any_eq_true.2 ⟨y,List.mem_of_getElem? (show(c.routes.take k)[m]?=some y by rw [List.getElem?_take,if_pos hm'];exact hy),he⟩)
    repeat((conv=>whnf);first|apply qza|apply qzb|apply qzc|apply qzd|apply qze|intro(_:Nat))
    conv=>whnf
    refine⟨a,rfl,⟨by omega,by simp;omega⟩,?_⟩
    conv=>whnf
    refine⟨_,⟨rfl,hcy⟩,?_⟩
    clear hq hp
    repeat'((conv=>whnf);first|apply qza|apply qzb|apply qzc|apply qzd|apply qze|intro(_:Nat)|refine .inl ⟨_,rfl,?_⟩|refine⟨fun _=>?_,fun _=>?_⟩|fail)
    all_goals (conv=>whnf)
    all_goals first
     | (intro g2 hg;rw [hit4 (by simp_all [eqRt])];rfl;done)
     | (refine fun fr w hw=>⟨m+1,congrArg (fun z=>[Value.int .i64 z]) (wr1 hm' (Nat.le_of_lt (Nat.lt_of_lt_of_le h' b1)) b2).symm,⟨hm',next (by simp_all [eqRt])⟩,dec hm',?_⟩;exact hw.fit (by simp [fitL,Res.eqv,qAA,conc]))
   ·conv=>whnf
    refine fun fr w hw=>⟨k+1,congrArg (fun z=>[Value.int .i64 z]) (wr1 h' b1 b2).symm,⟨h',hp.succ hx (by rw [q3B,if_pos h1,if_pos h2,if_pos h3,if_pos h4,if_neg];have:=of_decide_eq_false hml;rw [any_take.2 fun j y hj=>hq j y (by omega)];simp)⟩,dec h',?_⟩
    exact hw.fit (by simp [fitL,Res.eqv,qAA,conc])
  ·conv=>whnf
   intro g2 hg
   have:=of_decide_eq_false hlt
   rw [show qoC c=none from hp.done (by omega)];rfl)
theorem qdI (g:GW) {cs:List Value} {c:Config} (hc:qcA g cs c) (hsm:SmC c):OkV Tryz.prog qnG [.agg ⟨cs⟩] g (eiT (qHA c)):=by
 have hc0:=hc
 obtain⟨a,b,d,rfl,hl,hr,hk⟩:=hc
 obtain⟨oa,ca,rfl,a1,a2,a0,hl1⟩:=id hl
 obtain⟨ob,cb,rfl,b1,b2,b0,hr1⟩:=id hr
 obtain⟨od,cd,rfl,d1,d2,d0,hk1⟩:=id hk
 exact Ok.of_fn hm noT 0 qYG (args:=[.v (.agg ⟨[.slice oa c.listens.length ca,.slice ob c.routes.length cb,.slice od c.clusters.length cd]⟩)]) (by
  repeat'((conv=>whnf);first|apply qza|apply qzb|apply qzc|apply qzd|apply qze|intro(_:Nat)|refine .inl ⟨_,rfl,?_⟩|refine⟨fun _=>?_,fun _=>?_⟩|fail)
  all_goals (conv=>whnf)
  all_goals (try simp only [decide_eq_true_eq,decide_eq_false_iff_not,Int.not_lt] at *)
  all_goals first
   | (intro g2 hg;rw [show qHA c=some (6,0) from by rw [qHA,show qFK c=some (6,0) from if_neg (by omega)]];rfl;done)
   | skip
  have hs:qFK c=none:=if_pos (by omega)
  obtain⟨hlistens,hv⟩|⟨e,i,hlistens,hv⟩:=qAG (qnB c)
  rotate_left
  ·have hck:qHA c=some (e,i):=by rw [qHA,hs,hlistens]
   have hne:=q8A hck
   conv=>whnf
   refine .inl ⟨_,(qwK _ hc0).to hv,?_⟩
   conv=>whnf
   refine⟨fun _=>?_,fun hx=>absurd hx (by simp;omega)⟩
   conv=>whnf
   intro g2 hg
   rw [hck];rfl
  conv=>whnf
  refine .inl ⟨_,(qwK _ hc0).to hv,?_⟩
  conv=>whnf
  refine⟨fun h=>(nomatch h),fun _=>?_⟩
  repeat((conv=>whnf);first|apply qza|apply qzb|apply qzc|apply qzd|apply qze|intro(_:Nat))
  obtain⟨hclusters,hv⟩|⟨e,i,hclusters,hv⟩:=qAG (qUB c)
  rotate_left
  ·have hck:qHA c=some (e,i):=by rw [qHA,hs,hlistens,hclusters]
   have hne:=q8A hck
   conv=>whnf
   refine .inl ⟨_,(q1J _ hc0).to hv,?_⟩
   conv=>whnf
   refine⟨fun _=>?_,fun hx=>absurd hx (by simp;omega)⟩
   conv=>whnf
   intro g2 hg
   rw [hck];rfl
  conv=>whnf
  refine .inl ⟨_,(q1J _ hc0).to hv,?_⟩
  conv=>whnf
  refine⟨fun h=>(nomatch h),fun _=>?_⟩
  repeat((conv=>whnf);first|apply qza|apply qzb|apply qzc|apply qzd|apply qze|intro(_:Nat))
  obtain⟨h0,hv⟩|⟨e,i,h0,hv⟩:=qAG (qoC c)
  ·conv=>whnf
   refine .inl ⟨_,(q6L _ hc0 hsm).to hv,?_⟩
   conv=>whnf
   intro g2 hg
   rw [show qHA c=none from by rw [qHA,hs,hlistens,hclusters,h0]];rfl
  ·conv=>whnf
   refine .inl ⟨_,(q6L _ hc0 hsm).to hv,?_⟩
   conv=>whnf
   intro g2 hg
   rw [show qHA c=some (e,i) from by rw [qHA,hs,hlistens,hclusters,h0]];rfl)
/- Whether a configuration may be: what is too big to be looked at. -/
open Go.Proofs.YtkogfpniapaigaaGreat.Sx
abbrev qgS (r:Route):List Value:=[.string r.listen,.string r.host,.string r.path,.string r.cluster]
def qoO (x:Cluster):Bool:=decide (50<x.health.length)||decide (100<x.name.size)
def qnO (r:Route):Bool:=decide (100<r.host.size)||decide (100<r.path.size)
def bigC (c:Config):Bool:=decide (50<c.listens.length)||decide (50<c.routes.length)||decide (50<c.clusters.length)||c.clusters.any qoO||c.routes.any qnO
theorem qXK {α:Type} {f:α→Bool} {l:List α} {k:Nat} {x:α} (h:(l.take k).any f=false) (hx:l[k]?=some x) (hf:f x=false):(l.take (k+1)).any f=false:=by
 obtain⟨hlt,hge⟩:=List.getElem?_eq_some_iff.1 hx
 rw [List.take_succ_eq_append_getElem hlt,List.any_append,h,hge];simp [hf]
theorem qRP (g:GW) {cs:List Value} {c:Config} (hc:qcA g cs c):OkV Tryz.prog qjI [.agg ⟨cs⟩] g (.bool (bigC c)):=by
 obtain⟨a,b,d,rfl,hl,hr,hk⟩:=hc
 obtain⟨oa,ca,rfl,a1,a2,a0,hl1⟩:=id hl
 obtain⟨ob,cb,rfl,b1,b2,b0,hr1⟩:=id hr
 obtain⟨od,cd,rfl,d1,d2,d0,hk1⟩:=id hk
 exact Ok.of_fn hm noT 0 qRI (args:=[.v (.agg ⟨[.slice oa c.listens.length ca,.slice ob c.routes.length cb,.slice od c.clusters.length cd]⟩)]) (by
  repeat((conv=>whnf);first|apply qza|apply qzb|apply qzc|apply qzd|apply qze|intro(_:Nat))
  conv=>whnf
  refine⟨fun z1=>?_,fun z1=>?_⟩
  ·conv=>whnf
   intro g2 hg
   simp at z1;rw [bigC,decide_eq_true (show 50<c.listens.length by omega)];rfl
  repeat((conv=>whnf);first|apply qza|apply qzb|apply qzc|apply qzd|apply qze|intro(_:Nat))
  conv=>whnf
  refine⟨fun z2=>?_,fun z2=>?_⟩
  ·conv=>whnf
   intro g2 hg
   simp at z2;rw [bigC,decide_eq_true (show 50<c.routes.length by omega)];simp
  repeat((conv=>whnf);first|apply qza|apply qzb|apply qzc|apply qzd|apply qze|intro(_:Nat))
  conv=>whnf
  refine⟨fun z3=>?_,fun z3=>?_⟩
  ·conv=>whnf
   intro g2 hg
   simp at z3;rw [bigC,decide_eq_true (show 50<c.clusters.length by omega)];simp
  have hz:bigC c=(c.clusters.any qoO||c.routes.any qnO):=by
   simp at z1 z2 z3
   rw [bigC,decide_eq_false (show ¬50<c.listens.length by omega),decide_eq_false (show ¬50<c.routes.length by omega),decide_eq_false (show ¬50<c.clusters.length by omega)];rfl
  repeat((conv=>whnf);first|apply qza|apply qzb|apply qzc|apply qzd|apply qze|intro(_:Nat))
  conv=>whnf
  refine⟨Nat,fun k=>[.v (.int .i64 k)],fun k=>⟨g,[.blk 0 _ _ [.v (.slice oa c.listens.length ca),.v (.slice ob c.routes.length cb),.v (.slice od c.clusters.length cd)]],_,_⟩,fun k=>k≤c.clusters.length∧(c.clusters.take k).any qoO=false,fun k=>c.clusters.length-k,qDA 0 rfl ⟨Nat.zero_le _,rfl⟩ rfl,?_⟩
  rintro k ⟨hkk,hp⟩
  repeat((conv=>whnf);first|apply qza|apply qzb|apply qzc|apply qzd|apply qze|intro(_:Nat))
  conv=>whnf
  refine⟨fun hlt=>?_,fun hlt=>?_⟩
  ·have h':k<c.clusters.length:=by have:=of_decide_eq_true hlt;omega
   obtain⟨x,hx⟩:=qBA h'
   obtain⟨a,rfl,ec,hec,⟨hv,rfl,_,_,oh,ch,rfl,_⟩,hc⟩:=hk1 k x hx
   have hbe:qoO x=true→bigC c=true:=fun hb=>by rw [hz,List.any_eq_true.2 ⟨x,List.mem_of_getElem? hx,hb⟩,Bool.true_or]
   repeat((conv=>whnf);first|apply qza|apply qzb|apply qzc|apply qzd|apply qze|intro(_:Nat))
   conv=>whnf
   refine⟨a,rfl,⟨by omega,by omega⟩,?_⟩
   conv=>whnf
   refine⟨_,hc 3 _ rfl,?_⟩
   repeat((conv=>whnf);first|apply qza|apply qzb|apply qzc|apply qzd|apply qze|intro(_:Nat))
   conv=>whnf
   refine⟨fun ha=>?_,fun ha=>?_⟩
   ·conv=>whnf
    intro g2 hg
    rw [hbe (by simp at ha;simp [qoO];omega)]
   repeat((conv=>whnf);first|apply qza|apply qzb|apply qzc|apply qzd|apply qze|intro(_:Nat))
   conv=>whnf
   refine⟨a,rfl,⟨by omega,by omega⟩,?_⟩
   conv=>whnf
   refine⟨_,hc 0 _ rfl,?_⟩
   repeat((conv=>whnf);first|apply qza|apply qzb|apply qzc|apply qzd|apply qze|intro(_:Nat))
   conv=>whnf
   refine⟨fun hb=>?_,fun hb=>?_⟩
   ·conv=>whnf
    intro g2 hg
    rw [hbe (by simp at hb;simp [qoO];omega)]
   conv=>whnf
   refine fun fr w hw=>⟨k+1,congrArg (fun z=>[Value.int .i64 z]) (wr1 h' d1 d2).symm,⟨h',qXK hp hx (by simp at ha hb;simp [qoO];omega)⟩,dec h',?_⟩
   exact hw.fit (by simp [fitL,Res.eqv,qAA,conc])
  have hcl:c.clusters.any qoO=false:=by
   have:=of_decide_eq_false hlt
   rwa [List.take_of_length_le (by omega)] at hp
  repeat((conv=>whnf);first|apply qza|apply qzb|apply qzc|apply qzd|apply qze|intro(_:Nat))
  conv=>whnf
  refine⟨Nat,fun k=>[.v (.int .i64 k)],fun k=>⟨g,[.blk 0 _ _ [.v (.slice oa c.listens.length ca),.v (.slice ob c.routes.length cb),.v (.slice od c.clusters.length cd)]],_,_⟩,fun k=>k≤c.routes.length∧(c.routes.take k).any qnO=false,fun k=>c.routes.length-k,qDA 0 rfl ⟨Nat.zero_le _,rfl⟩ rfl,?_⟩
  clear hp hlt hkk
  rintro k ⟨hkk,hp⟩
  repeat((conv=>whnf);first|apply qza|apply qzb|apply qzc|apply qzd|apply qze|intro(_:Nat))
  conv=>whnf
  refine⟨fun hlt=>?_,fun hlt=>?_⟩
  ·have h':k<c.routes.length:=by have:=of_decide_eq_true hlt;omega
   obtain⟨x,hx⟩:=qBA h'
   obtain⟨a,rfl,ec,hec,rfl,hc⟩:=hr1 k x hx
   have hbe:qnO x=true→bigC c=true:=fun hb=>by rw [hz,List.any_eq_true.2 ⟨x,List.mem_of_getElem? hx,hb⟩,Bool.or_true]
   repeat((conv=>whnf);first|apply qza|apply qzb|apply qzc|apply qzd|apply qze|intro(_:Nat))
   conv=>whnf
   refine⟨a,rfl,⟨by omega,by omega⟩,?_⟩
   conv=>whnf
   refine⟨_,hc 1 _ rfl,?_⟩
   repeat((conv=>whnf);first|apply qza|apply qzb|apply qzc|apply qzd|apply qze|intro(_:Nat))
   conv=>whnf
   refine⟨fun ha=>?_,fun ha=>?_⟩
   ·conv=>whnf
    intro g2 hg
    rw [hbe (by simp at ha;simp [qnO];omega)]
   repeat((conv=>whnf);first|apply qza|apply qzb|apply qzc|apply qzd|apply qze|intro(_:Nat))
   conv=>whnf
   refine⟨a,rfl,⟨by omega,by omega⟩,?_⟩
   conv=>whnf
   refine⟨_,hc 2 _ rfl,?_⟩
   repeat((conv=>whnf);first|apply qza|apply qzb|apply qzc|apply qzd|apply qze|intro(_:Nat))
   conv=>whnf
   refine⟨fun hb=>?_,fun hb=>?_⟩
   ·conv=>whnf
    intro g2 hg
    rw [hbe (by simp at hb;simp [qnO];omega)]
   conv=>whnf
   refine fun fr w hw=>⟨k+1,congrArg (fun z=>[Value.int .i64 z]) (wr1 h' b1 b2).symm,⟨h',qXK hp hx (by simp at ha hb;simp [qnO];omega)⟩,dec h',?_⟩
   exact hw.fit (by simp [fitL,Res.eqv,qAA,conc])
  conv=>whnf
  intro g2 hg
  have:=of_decide_eq_false hlt
  rw [List.take_of_length_le (by omega)] at hp
  rw [hz,hcl,hp];rfl)
theorem qeR {c:Config} (h:bigC c=false):SmC c∧c.listens.length≤50∧c.routes.length≤50∧c.clusters.length≤50:=by
 simp only [bigC,Bool.or_eq_false_iff,decide_eq_false_iff_not] at h
 obtain⟨⟨⟨⟨h1,h2⟩,h3⟩,h4⟩,h5⟩:=h
 refine⟨fun r hr=>?_,by omega,by omega,by omega⟩
 have:=List.any_eq_false.1 h5 r hr
 simp [qnO] at this
 omega
/- Which hosts and paths are meant: the program's and the document's answers. -/
open Go.Proofs.YtkogfpniapaigaaGreat.Sx
/- Which rule a request goes by: the program's and the document's answers. -/
open Go.Proofs.YtkogfpniapaigaaGreat.Sx
abbrev qqU (r:Rule):List Value:=[.int .i64 r.listen,.string r.host,.string r.path,.int .i64 r.cluster]
def qBN (r:Rule):Bool:=decide (100<r.host.size)||decide (100<r.path.size)
def bigR (l:List Rule):Bool:=decide (50<l.length)||l.any qBN
theorem qVU (g:GW) {v:Value} {l:List Rule} (hl:rSl 4 qmQ g v l):OkV Tryz.prog qiI [v] g (.bool (bigR l)) :=
 Ok.of_fn hm noT 0 qQI (args:=[.v v]) (by
  obtain⟨oa,cap,rfl,h1,h2,h0,hr⟩:=hl
  repeat((conv=>whnf);first|apply qza|apply qzb|apply qzc|apply qzd|apply qze|intro(_:Nat))
  conv=>whnf
  refine⟨Nat,fun k=>[.v (.int .i64 k)],fun k=>⟨g,[],_,_⟩,fun k=>k≤l.length∧(l.take k).any qBN=false,fun k=>l.length-k,qDA 0 rfl ⟨Nat.zero_le _,rfl⟩ rfl,?_⟩
  rintro k ⟨hk,hall⟩
  conv=>whnf
  refine⟨fun hlt=>?_,fun hlt=>?_⟩
  ·have h':k<l.length:=by have:=of_decide_eq_true hlt;omega
   conv=>whnf
   refine⟨fun h50=>?_,fun h50=>?_⟩
   ·obtain⟨q,hq⟩:=qBA h'
    obtain⟨a,rfl,ecq,hecq,⟨rfl,_,_⟩,hcq⟩:=hr k q hq
    have hg:∀ b,qBN q=b→(l.take (k+1)).any qBN=b:=fun b hb=>by
     obtain⟨_,hge⟩:=List.getElem?_eq_some_iff.1 hq
     rw [List.take_succ_eq_append_getElem h',List.any_append,hall,hge]
     simp [hb]
    have hbe:qBN q=true→bigR l=true:=fun hb=>by
     rw [bigR,List.any_eq_true.2 ⟨q,List.mem_of_getElem? hq,hb⟩,Bool.or_true]
    conv=>whnf
    refine⟨a,rfl,⟨by omega,by omega⟩,?_⟩
    conv=>whnf
    refine⟨_,hcq 1 _ rfl,?_⟩
    conv=>whnf
    refine⟨fun ha=>?_,fun ha=>?_⟩
    ·conv=>whnf
     intro g2 hg
     rw [hbe (by simp at ha;simp [qBN];omega)]
    ·conv=>whnf
     refine⟨a,rfl,⟨by omega,by omega⟩,?_⟩
     conv=>whnf
     refine⟨_,hcq 2 _ rfl,?_⟩
     conv=>whnf
     refine⟨fun hb=>?_,fun hb=>?_⟩
     ·conv=>whnf
      intro g2 hg
      rw [hbe (by simp at hb;simp [qBN];omega)]
     ·conv=>whnf
      refine fun fr w hw=>⟨k+1,congrArg (fun z=>[Value.int .i64 z]) (wr1 h' h1 h2).symm,⟨h',hg _ (by simp at ha hb;simp [qBN];omega)⟩,dec h',hw⟩
   ·conv=>whnf
    intro g2 hg
    have:=of_decide_eq_false h50
    rw [bigR,decide_eq_true (show 50<l.length by omega),decide_eq_true (show(50:Int)<l.length by omega)];rfl
  ·conv=>whnf
   intro g2 hg
   have:k=l.length:=by have:=of_decide_eq_false hlt;omega
   rw [this,List.take_length] at hall
   rw [bigR,hall,Bool.or_false]
   exact congrArg Value.bool (decide_eq_decide.2 (by omega)))
end Go.Proofs.YtkogfpniapaigaaGreat
