/- Pins: a step, place 0. -/
import Derived.Test.YtompjkkgaafllaaGreatLW9k
import Derived.Test.YtompjkkgaafllaaGreatLW9b
import Derived.Test.YtompjkkgaafllaaGreatPl
import Derived.Test.YtompjkkgaafllaaGreatLK5b
set_option linter.unusedVariables false
set_option linter.unusedSimpArgs false
namespace Go.Proofs.YtompjkkgaafllaaGreat
open Go.Proofs.YtompjkkgaafllaaGreat.Sx Go.RowKit
set_option maxHeartbeats 16000000
set_option maxRecDepth 100000
theorem qRS (g:GW) {cs ms:List Value} {w:Wd} {m:Mach} (hw:rWo g cs w) (hM:qRB g ms m) (hsn:SnW w) (hb:BgW 1000000 w) (h0:m.pc=0):Ok Tryz.prog qiE [.agg ⟨cs⟩,.agg ⟨ms⟩] g (qtR w m):=by
 obtain⟨oa,ca,ob,cb,oc,cc,od,cd,oe,ce,o1,t1,o2,t2,o3,t3,rfl,rfl,hw0,hM0,⟨i1,i2,i3⟩,hP,hV,hL,hC,hR,⟨a1,a2,a0,hP1⟩,⟨b1,b2,b0,hV1⟩,⟨c1,c2,c0,hL1⟩,⟨d1,d2,d0,hC1⟩,⟨e1,e2,e0,hR1⟩,hok,hop,hcf⟩:=qLE hw hM
 exact Ok.of_fn hm qEP 3 qQG (args:=[.v (.agg ⟨wQ w oa ca ob cb oc cc od cd oe ce⟩),.v (.agg ⟨mQ m o1 t1 o2 t2 o3 t3⟩)]) (by
  repeat((conv=>whnf);first|apply qza|apply qzb|apply qzc|apply qzd|apply qze|intro(_:Nat))
  refine .inr ((qHJ _).mono fun v g1 hg1 hF=>?_)
  obtain⟨r,rfl,hF⟩:=hF
  repeat((conv=>whnf);first|apply qza|apply qzb|apply qzc|apply qzd|apply qze|intro(_:Nat))
  conv=>whnf
  refine⟨q9P,⟨rfl,hF⟩,?_⟩
  have hw1:=qGA _ _ _ _ hg1 hw0
  have hM1:=qgA _ _ _ _ hg1 hM0
  conv=>whnf
  refine⟨some (.agg #[.func (.func qBF) #[] #[]]),by rw [h0];rfl,?_⟩
  repeat((conv=>whnf);first|apply qza|apply qzb|apply qzc|apply qzd|apply qze|intro(_:Nat))
  conv=>whnf
  refine⟨fun h=>(nomatch h),fun _=>?_⟩
  repeat((conv=>whnf);first|apply qza|apply qzb|apply qzc|apply qzd|apply qze|intro(_:Nat))
  conv=>whnf
  refine .inl ⟨_,qbA _ hw1 hM1 hsn hb,?_⟩
  repeat((conv=>whnf);first|apply qza|apply qzb|apply qzc|apply qzd|apply qze|intro(_:Nat))
  conv=>whnf
  refine⟨fun z1=>?_,fun z1=>?_⟩
  ·repeat((conv=>whnf);first|apply qza|apply qzb|apply qzc|apply qzd|apply qze|intro(_:Nat))
   conv=>whnf
   intro g2 hg
   have hf:=nb1 z1
   have hE:pinE w m=ev0:=by unfold pinE;rw [if_neg (by rw [hf];exact Bool.noConfusion)]
   have hWd:pinW w m=w:=by unfold pinW;rw [if_neg (by rw [hf];exact fun h=>Bool.noConfusion h.1)]
   have hMm:pinM w m=m:=by unfold pinM;rw [if_neg (by rw [hf];exact Bool.noConfusion)]
   exact⟨_,_,by rw [hE];rfl,by rw [hWd];exact qGA _ _ _ _ hg hw1,by rw [hMm];exact qgA _ _ _ _ hg hM1⟩
  have hs:=nb0 z1
  repeat((conv=>whnf);first|apply qza|apply qzb|apply qzc|apply qzd|apply qze|intro(_:Nat))
  refine .inr ((qhA _ hw1 hb).mono fun v g3 hg3 hO=>?_)
  obtain⟨cs,T,rfl,hT⟩:=hO
  have hT0:=hT
  obtain⟨p,q,r',s',t',rfl,_,_,h5,h1,h2,h3,h4⟩:=hT0
  obtain⟨oa',ca',rfl⟩:=qSA h5
  obtain⟨ob',cb',rfl⟩:=qSA h1
  obtain⟨oc',cc',rfl⟩:=qSA h2
  obtain⟨od',cd',rfl⟩:=qSA h3
  obtain⟨oe',ce',rfl⟩:=qSA h4
  clear hw0 hP hV hL hC hR hP1 hV1 hL1 hC1 hR1 a0 b0 c0 d0 e0 h1 h2 h3 h4 h5
  repeat((conv=>whnf);first|apply qza|apply qzb|apply qzc|apply qzd|apply qze|intro(_:Nat))
  conv=>whnf
  refine⟨qIM,?_⟩
  repeat((conv=>whnf);first|apply qza|apply qzb|apply qzc|apply qzd|apply qze|intro(_:Nat))
  conv=>whnf
  intro g2 hg
  have hE:pinE w m=⟨m.thread,0,1,1,-1,false,w.epoch,false,false,false,ans0⟩:=by unfold pinE;rw [if_pos hs,if_neg (by omega),if_pos (by omega)]
  have hWd:pinW w m=w:=by unfold pinW;rw [if_neg (by omega)]
  have hMm:pinM w m={m with epoch:=w.epoch,pc:=1}:=by unfold pinM;rw [if_pos hs,if_pos h0]
  refine⟨_,_,by rw [hE];rfl,by rw [hWd];exact qGA _ _ _ _ hg (qsA hT),?_⟩
  rw [hMm]
  exact⟨_,_,_,rfl,{hok with epoch:=i1,pc:=show InR (1:Int) by decide},hop,qDA _ _ _ _ (GW.trans (GW.trans hg1 hg3) hg) hcf⟩)
/- Pins: a step,place 1. -/
open Go.Proofs.YtompjkkgaafllaaGreat.Sx Go.RowKit
theorem qQS (g:GW) {cs ms:List Value} {w:Wd} {m:Mach} (hw:rWo g cs w) (hM:qRB g ms m) (hsn:SnW w) (hb:BgW 1000000 w) (h0:m.pc=1):Ok Tryz.prog qiE [.agg ⟨cs⟩,.agg ⟨ms⟩] g (qtR w m):=by
 obtain⟨oa,ca,ob,cb,oc,cc,od,cd,oe,ce,o1,t1,o2,t2,o3,t3,rfl,rfl,hw0,hM0,⟨i1,i2,i3⟩,hP,hV,hL,hC,hR,⟨a1,a2,a0,hP1⟩,⟨b1,b2,b0,hV1⟩,⟨c1,c2,c0,hL1⟩,⟨d1,d2,d0,hC1⟩,⟨e1,e2,e0,hR1⟩,hok,hop,hcf⟩:=qLE hw hM
 exact Ok.of_fn hm qEP 3 qQG (args:=[.v (.agg ⟨wQ w oa ca ob cb oc cc od cd oe ce⟩),.v (.agg ⟨mQ m o1 t1 o2 t2 o3 t3⟩)]) (by
  repeat((conv=>whnf);first|apply qza|apply qzb|apply qzc|apply qzd|apply qze|intro(_:Nat))
  refine .inr ((qHJ _).mono fun v g1 hg1 hF=>?_)
  obtain⟨r,rfl,hF⟩:=hF
  repeat((conv=>whnf);first|apply qza|apply qzb|apply qzc|apply qzd|apply qze|intro(_:Nat))
  conv=>whnf
  refine⟨q9P,⟨rfl,hF⟩,?_⟩
  have hw1:=qGA _ _ _ _ hg1 hw0
  have hM1:=qgA _ _ _ _ hg1 hM0
  conv=>whnf
  refine⟨some (.agg #[.func (.func qAF) #[] #[]]),by rw [h0];rfl,?_⟩
  repeat((conv=>whnf);first|apply qza|apply qzb|apply qzc|apply qzd|apply qze|intro(_:Nat))
  conv=>whnf
  refine⟨fun h=>(nomatch h),fun _=>?_⟩
  repeat((conv=>whnf);first|apply qza|apply qzb|apply qzc|apply qzd|apply qze|intro(_:Nat))
  conv=>whnf
  refine .inl ⟨_,qbA _ hw1 hM1 hsn hb,?_⟩
  repeat((conv=>whnf);first|apply qza|apply qzb|apply qzc|apply qzd|apply qze|intro(_:Nat))
  conv=>whnf
  refine⟨fun z1=>?_,fun z1=>?_⟩
  ·repeat((conv=>whnf);first|apply qza|apply qzb|apply qzc|apply qzd|apply qze|intro(_:Nat))
   conv=>whnf
   intro g2 hg
   have hf:=nb1 z1
   have hE:pinE w m=ev0:=by unfold pinE;rw [if_neg (by rw [hf];exact Bool.noConfusion)]
   have hWd:pinW w m=w:=by unfold pinW;rw [if_neg (by rw [hf];exact fun h=>Bool.noConfusion h.1)]
   have hMm:pinM w m=m:=by unfold pinM;rw [if_neg (by rw [hf];exact Bool.noConfusion)]
   exact⟨_,_,by rw [hE];rfl,by rw [hWd];exact qGA _ _ _ _ hg hw1,by rw [hMm];exact qgA _ _ _ _ hg hM1⟩
  have hs:=nb0 z1
  repeat((conv=>whnf);first|apply qza|apply qzb|apply qzc|apply qzd|apply qze|intro(_:Nat))
  refine .inr ((qhA _ hw1 hb).mono fun v g3 hg3 hO=>?_)
  obtain⟨cs,T,rfl,hT⟩:=hO
  have hT0:=hT
  obtain⟨p,q,r',s',t',rfl,_,_,h5,h1,h2,h3,h4⟩:=hT0
  obtain⟨oa',ca',rfl⟩:=qSA h5
  obtain⟨ob',cb',rfl⟩:=qSA h1
  obtain⟨oc',cc',rfl⟩:=qSA h2
  obtain⟨od',cd',rfl⟩:=qSA h3
  obtain⟨oe',ce',rfl⟩:=qSA h4
  have hth:=(suitB_iff.1 hs).choose_spec.choose_spec.choose_spec.thread
  obtain⟨x,hx⟩:=qBA (l:=w.pins) (i:=m.thread.toNat) (by omega)
  obtain⟨bk,cap,hv,b5,j5,bc,ty5,⟨hA,p1,p2,p3,p4⟩,_,hk5⟩:=qLR hT hx (x':=IntKind.i64.wrap (m.epoch+1)) (qOL _)
  cases hv
  cases hA
  clear hw0 hP hV hL hC hR hP1 hV1 hL1 hC1 hR1 a0 b0 c0 d0 e0 h1 h2 h3 h4 h5
  repeat((conv=>whnf);first|apply qza|apply qzb|apply qzc|apply qzd|apply qze|intro(_:Nat))
  conv=>whnf
  refine⟨qHM,?_⟩
  repeat((conv=>whnf);first|apply qza|apply qzb|apply qzc|apply qzd|apply qze|intro(_:Nat))
  conv=>whnf
  refine⟨_,rfl,⟨by omega,by omega⟩,?_⟩
  repeat((conv=>whnf);first|apply qza|apply qzb|apply qzc|apply qzd|apply qze|intro(_:Nat))
  conv=>whnf
  refine⟨bk,m.thread.toNat,bc,ty5,⟨by simp [qjA],Nat.le_trans hg1.1 p1,p2,p3,p4⟩,?_⟩
  repeat((conv=>whnf);first|apply qza|apply qzb|apply qzc|apply qzd|apply qze|intro(_:Nat))
  conv=>whnf
  refine fun g6 u6=>?_
  have hF:=qsA (hk5 g6 u6)
  have hle6:g1≤g6:=u6.le hg3 (fun h=>by have:=g1.wf _ h;omega)
  repeat((conv=>whnf);first|apply qza|apply qzb|apply qzc|apply qzd|apply qze|intro(_:Nat))
  conv=>whnf
  intro g2 hg
  have hE:pinE w m=⟨m.thread,0,2,2,-1,false,IntKind.i64.wrap (m.epoch+1),false,false,false,ans0⟩:=by unfold pinE;rw [if_pos hs,if_pos h0]
  have hWd:pinW w m={w with pins:=w.pins.set m.thread.toNat (IntKind.i64.wrap (m.epoch+1))}:=by unfold pinW;rw [if_pos ⟨hs,h0⟩]
  have hMm:pinM w m={m with pc:=2}:=by unfold pinM;rw [if_pos hs,if_neg (by omega),if_pos h0]
  refine⟨_,_,by rw [hE];rfl,by rw [hWd];exact qGA _ _ _ _ hg hF,?_⟩
  rw [hMm]
  exact⟨_,_,_,rfl,{hok with pc:=show InR (2:Int) by decide},hop,qDA _ _ _ _ (GW.trans (GW.trans hg1 hle6) hg) hcf⟩)
/- Pins: a step,place 2. -/
open Go.Proofs.YtompjkkgaafllaaGreat.Sx Go.RowKit
theorem qPS (g:GW) {cs ms:List Value} {w:Wd} {m:Mach} (hw:rWo g cs w) (hM:qRB g ms m) (hsn:SnW w) (hb:BgW 1000000 w) (h0:m.pc=2):Ok Tryz.prog qiE [.agg ⟨cs⟩,.agg ⟨ms⟩] g (qtR w m):=by
 obtain⟨oa,ca,ob,cb,oc,cc,od,cd,oe,ce,o1,t1,o2,t2,o3,t3,rfl,rfl,hw0,hM0,⟨i1,i2,i3⟩,hP,hV,hL,hC,hR,⟨a1,a2,a0,hP1⟩,⟨b1,b2,b0,hV1⟩,⟨c1,c2,c0,hL1⟩,⟨d1,d2,d0,hC1⟩,⟨e1,e2,e0,hR1⟩,hok,hop,hcf⟩:=qLE hw hM
 exact Ok.of_fn hm qEP 3 qQG (args:=[.v (.agg ⟨wQ w oa ca ob cb oc cc od cd oe ce⟩),.v (.agg ⟨mQ m o1 t1 o2 t2 o3 t3⟩)]) (by
  repeat((conv=>whnf);first|apply qza|apply qzb|apply qzc|apply qzd|apply qze|intro(_:Nat))
  refine .inr ((qHJ _).mono fun v g1 hg1 hF=>?_)
  obtain⟨r,rfl,hF⟩:=hF
  repeat((conv=>whnf);first|apply qza|apply qzb|apply qzc|apply qzd|apply qze|intro(_:Nat))
  conv=>whnf
  refine⟨q9P,⟨rfl,hF⟩,?_⟩
  have hw1:=qGA _ _ _ _ hg1 hw0
  have hM1:=qgA _ _ _ _ hg1 hM0
  conv=>whnf
  refine⟨some (.agg #[.func (.func q9E) #[] #[]]),by rw [h0];rfl,?_⟩
  repeat((conv=>whnf);first|apply qza|apply qzb|apply qzc|apply qzd|apply qze|intro(_:Nat))
  conv=>whnf
  refine⟨fun h=>(nomatch h),fun _=>?_⟩
  repeat((conv=>whnf);first|apply qza|apply qzb|apply qzc|apply qzd|apply qze|intro(_:Nat))
  conv=>whnf
  refine .inl ⟨_,qbA _ hw1 hM1 hsn hb,?_⟩
  repeat((conv=>whnf);first|apply qza|apply qzb|apply qzc|apply qzd|apply qze|intro(_:Nat))
  conv=>whnf
  refine⟨fun z1=>?_,fun z1=>?_⟩
  ·repeat((conv=>whnf);first|apply qza|apply qzb|apply qzc|apply qzd|apply qze|intro(_:Nat))
   conv=>whnf
   intro g2 hg
   have hf:=nb1 z1
   have hE:pinE w m=ev0:=by unfold pinE;rw [if_neg (by rw [hf];exact Bool.noConfusion)]
   have hWd:pinW w m=w:=by unfold pinW;rw [if_neg (by rw [hf];exact fun h=>Bool.noConfusion h.1)]
   have hMm:pinM w m=m:=by unfold pinM;rw [if_neg (by rw [hf];exact Bool.noConfusion)]
   exact⟨_,_,by rw [hE];rfl,by rw [hWd];exact qGA _ _ _ _ hg hw1,by rw [hMm];exact qgA _ _ _ _ hg hM1⟩
  have hs:=nb0 z1
  repeat((conv=>whnf);first|apply qza|apply qzb|apply qzc|apply qzd|apply qze|intro(_:Nat))
  refine .inr ((qhA _ hw1 hb).mono fun v g3 hg3 hO=>?_)
  obtain⟨cs,T,rfl,hT⟩:=hO
  have hT0:=hT
  obtain⟨p,q,r',s',t',rfl,_,_,h5,h1,h2,h3,h4⟩:=hT0
  obtain⟨oa',ca',rfl⟩:=qSA h5
  obtain⟨ob',cb',rfl⟩:=qSA h1
  obtain⟨oc',cc',rfl⟩:=qSA h2
  obtain⟨od',cd',rfl⟩:=qSA h3
  obtain⟨oe',ce',rfl⟩:=qSA h4
  clear hw0 hP hV hL hC hR hP1 hV1 hL1 hC1 hR1 a0 b0 c0 d0 e0 h1 h2 h3 h4 h5
  repeat((conv=>whnf);first|apply qza|apply qzb|apply qzc|apply qzd|apply qze|intro(_:Nat))
  conv=>whnf
  refine⟨qGM,?_⟩
  repeat((conv=>whnf);first|apply qza|apply qzb|apply qzc|apply qzd|apply qze|intro(_:Nat))
  conv=>whnf
  refine⟨fun z2=>?_,fun z2=>?_⟩
  ·repeat((conv=>whnf);first|apply qza|apply qzb|apply qzc|apply qzd|apply qze|intro(_:Nat))
   conv=>whnf
   intro g2 hg
   have hE:pinE w m=⟨m.thread,0,1,1,-1,false,w.epoch,false,false,false,ans0⟩:=by unfold pinE;rw [if_pos hs,if_neg (by omega),if_pos (by omega)]
   have hWd:pinW w m=w:=by unfold pinW;rw [if_neg (by omega)]
   have hMm:pinM w m={m with epoch:=w.epoch,pc:=3}:=by unfold pinM;rw [if_pos hs,if_neg (by omega),if_neg (by omega),if_pos h0,if_pos (by simpa using z2)]
   refine⟨_,_,by rw [hE];rfl,by rw [hWd];exact qGA _ _ _ _ hg (qsA hT),?_⟩
   rw [hMm]
   exact⟨_,_,_,rfl,{hok with epoch:=i1,pc:=show InR (3:Int) by decide},hop,qDA _ _ _ _ (GW.trans (GW.trans hg1 hg3) hg) hcf⟩
  ·repeat((conv=>whnf);first|apply qza|apply qzb|apply qzc|apply qzd|apply qze|intro(_:Nat))
   conv=>whnf
   intro g2 hg
   have hE:pinE w m=⟨m.thread,0,1,1,-1,false,w.epoch,false,false,false,ans0⟩:=by unfold pinE;rw [if_pos hs,if_neg (by omega),if_pos (by omega)]
   have hWd:pinW w m=w:=by unfold pinW;rw [if_neg (by omega)]
   have hMm:pinM w m={m with epoch:=w.epoch,pc:=1}:=by unfold pinM;rw [if_pos hs,if_neg (by omega),if_neg (by omega),if_pos h0,if_neg (by simpa using z2)]
   refine⟨_,_,by rw [hE];rfl,by rw [hWd];exact qGA _ _ _ _ hg (qsA hT),?_⟩
   rw [hMm]
   exact⟨_,_,_,rfl,{hok with epoch:=i1,pc:=show InR (1:Int) by decide},hop,qDA _ _ _ _ (GW.trans (GW.trans hg1 hg3) hg) hcf⟩)
/- Pins: a step,at any place. -/
open Go.Proofs.YtompjkkgaafllaaGreat.Sx Go.RowKit
theorem qeT (g:GW) {cs ms:List Value} {w:Wd} {m:Mach} (hw:rWo g cs w) (hM:qRB g ms m) (hsn:SnW w) (hb:BgW 1000000 w):Ok Tryz.prog qiE [.agg ⟨cs⟩,.agg ⟨ms⟩] g (qtR w m):=by
 by_cases h0:m.pc=0
 ·exact qRS g hw hM hsn hb h0
 ·by_cases h1:m.pc=1
  ·exact qQS g hw hM hsn hb h1
  ·by_cases h2:m.pc=2
   ·exact qPS g hw hM hsn hb h2
   ·exact qOS g hw hM hsn hb ⟨h0,h1,h2⟩
/- Slots: those of a new endpoint. -/
open Go.Proofs.YtompjkkgaafllaaGreat.Sx Go.RowKit
def q7U (n:Int) (v:Value) (g':GW):Prop :=
 ((1≤n∧n≤4)∧∃ oa cap,v=.tuple #[.agg ⟨[.int .u64 1,.slice oa n.toNat cap,.int .i64 0]⟩,.int .i64 0]∧rSl 1 rInt g' (.slice oa n.toNat cap) (qgB n.toNat).next) ∨
 (¬ (1≤n∧n≤4)∧v=.tuple #[.agg ⟨[.int .u64 0,.slice none 0 0,.int .i64 0]⟩,.int .i64 1])
abbrev upE (k:Nat):List (List Value):=(List.range k).map fun (i:Nat)=>[Value.int .i64 ((i:Int)+1)]
theorem qxR (k:Nat):upE (k+1)=upE k++[[Value.int .i64 ((k:Int)+1)]]:=by simp [upE,List.range_succ]
theorem qyS {k:Nat}:∀ e∈upE k,e.length=1:=fun e he=>by
 obtain⟨x,_,rfl⟩:=List.mem_map.1 he;rfl
theorem qUS (g:GW) {n:Int}:Ok Tryz.prog q4L [.int .i64 n] g (q7U n) :=
 Ok.of_fn hm noT 0 qVL (args:=[.v (.int .i64 n)]) (by
  repeat((conv=>whnf);first|apply qza|apply qzb|apply qzc|apply qzd|apply qze|intro(_:Nat))
  conv=>whnf
  refine⟨fun z1=>?_,fun z1=>?_⟩
  ·repeat((conv=>whnf);first|apply qza|apply qzb|apply qzc|apply qzd|apply qze|intro(_:Nat))
   conv=>whnf
   intro g2 hg
   exact .inr ⟨by have:=of_decide_eq_true z1;omega,rfl⟩
  repeat((conv=>whnf);first|apply qza|apply qzb|apply qzc|apply qzd|apply qze|intro(_:Nat))
  conv=>whnf
  refine⟨fun z2=>?_,fun z2=>?_⟩
  ·repeat((conv=>whnf);first|apply qza|apply qzb|apply qzc|apply qzd|apply qze|intro(_:Nat))
   conv=>whnf
   intro g2 hg
   exact .inr ⟨by have:=of_decide_eq_true z2;omega,rfl⟩
  have k1:=of_decide_eq_false z1
  have k2:=of_decide_eq_false z2
  obtain⟨N,rfl⟩:=Int.eq_ofNat_of_zero_le (show 0≤n by omega)
  repeat((conv=>whnf);first|apply qza|apply qzb|apply qzc|apply qzd|apply qze|intro(_:Nat))
  conv=>whnf
  refine⟨⟨by omega,by omega,by omega,by omega⟩,fun _=>?_⟩
  repeat((conv=>whnf);first|apply qza|apply qzb|apply qzc|apply qzd|apply qze|intro(_:Nat))
  rename_i q0 q1 q2
  conv=>whnf
  refine⟨Nat,fun k=>[.v (.int .i64 k)],fun k=>⟨g,[.blk 2 q2 qtA [.v (.int .u64 0),.row 1 (some ⟨q1,0,none⟩) N N,.v (.int .i64 0)],.row 1 (some ⟨q1,0,none⟩) N N quA 1 (rowK (upE k) [.int .i64 0] (N-k)),.blk 0 q0 qtA [.v (.int .u64 0),.v (.slice none 0 0),.v (.int .i64 0)]],3,g.w.heap.size⟩,fun k=>k≤N,fun k=>N-k,fun fr w hw=>⟨0,rfl,Nat.zero_le _,hw.fit (by simp [fitL,Res.eqv,qAA,conc,rowK,upE])⟩,?_⟩
  intro k hk
  have hlen:=qSG (m:=N-k) (z:=[.int .i64 0]) (qyS (k:=k)) rfl
  have hul:(upE k).length=k:=by simp [upE]
  repeat((conv=>whnf);first|apply qza|apply qzb|apply qzc|apply qzd|apply qze|intro(_:Nat))
  conv=>whnf
  refine⟨fun hlt=>?_,fun hlt=>?_⟩
  ·have h':k<N:=by have:=of_decide_eq_true hlt;omega
   have hset:=qRG (m:=N-k) (z:=[.int .i64 0]) (qyS (k:=k)) rfl (by omega) (ec:=[.int .i64 ((k:Int)+1)]) rfl hul.symm
   rw [← qxR] at hset
   repeat((conv=>whnf);first|apply qza|apply qzb|apply qzc|apply qzd|apply qze|intro(_:Nat))
   conv=>whnf
   refine⟨⟨by omega,by omega⟩,?_⟩
   repeat((conv=>whnf);first|apply qza|apply qzb|apply qzc|apply qzd|apply qze|intro(_:Nat))
   conv=>whnf
   refine⟨⟨by rw [hlen,hul];simp;omega,by decide⟩,?_⟩
   repeat((conv=>whnf);first|apply qza|apply qzb|apply qzc|apply qzd|apply qze|intro(_:Nat))
   conv=>whnf
   refine fun fr w hw=>⟨k+1,congrArg (fun z=>[Value.int .i64 z]) (by rw [wr (show InR ((k:Int)+1) by unfold InR;omega)];omega),h',dec h',hw.fit ?_⟩
   rw [show N-(k+1)=N-k-1 by omega,← hset]
   simp [fitL,Res.eqv,qAA,conc,wr (show InR ((k:Int)+1) by unfold InR;omega)]
  have hkN:k=N:=by have:=of_decide_eq_false hlt;omega
  subst hkN
  rw [Nat.sub_self,hul] at hlen
  repeat((conv=>whnf);first|apply qza|apply qzb|apply qzc|apply qzd|apply qze|intro(_:Nat))
  conv=>whnf
  refine⟨⟨by rw [wr (by unfold InR;omega)];omega,by rw [wr (by unfold InR;omega)];omega⟩,?_⟩
  repeat((conv=>whnf);first|apply qza|apply qzb|apply qzc|apply qzd|apply qze|intro(_:Nat))
  conv=>whnf
  refine⟨⟨by rw [Nat.sub_self,hlen,wr (by unfold InR;omega)];simp;omega,by decide⟩,?_⟩
  repeat((conv=>whnf);first|apply qza|apply qzb|apply qzc|apply qzd|apply qze|intro(_:Nat))
  conv=>whnf
  refine .inl ⟨_,(quL _ (t:=0) (i:=0) (by decide) (by decide)).to (show _=Value.tuple #[.int .u64 1,.int .i64 0] from rfl),?_⟩
  repeat((conv=>whnf);first|apply qza|apply qzb|apply qzc|apply qzd|apply qze|intro(_:Nat))
  conv=>whnf
  refine fun g1 hg1 hn1 hp1=>?_
  repeat((conv=>whnf);first|apply qza|apply qzb|apply qzc|apply qzd|apply qze|intro(_:Nat))
  conv=>whnf
  intro g2 hg
  refine .inl ⟨⟨by omega,by omega⟩,_,_,rfl,?_⟩
  have hN:k=1∨k=2∨k=3∨k=4:=by omega
  rcases hN with rfl|rfl|rfl|rfl
  all_goals exact(qzF hp1.rd (qgB _).next (fun x=>.int .i64 x) rfl fun x hx=>⟨rfl,by simp [qgB,List.range,List.range.loop] at hx;unfold InR;omega⟩).mono qOB hg)
theorem qkS {g:GW} {n:Int} {oa:Option Addr} {cap:Nat} (h:1≤n∧n≤4) (hr:rSl 1 rInt g (.slice oa n.toNat cap) (qgB n.toNat).next):rEn g [.int .u64 1,.slice oa n.toNat cap,.int .i64 0] (qgB n.toNat) :=
 ⟨⟨_,rfl,show InU 1 by decide,show InR 0 by decide,hr⟩,by simp [qgB];omega⟩
/- Worlds: a snapshot's cells. -/
open Go.Proofs.YtompjkkgaafllaaGreat.Sx Go.RowKit
def q9U (s:Snap) (v:Value) (g':GW):Prop :=
 (qHB (qiF s)=none∧∃ a b d oa n cap,v=.tuple #[.agg ⟨[a,b,d,.slice oa n cap,.bool false]⟩,.int .i64 0]∧rVe g' [a,b,d,.slice oa n cap,.bool false] (qKA s)) ∨
 (qHB (qiF s)≠none∧v=.tuple #[.agg ⟨[.slice none 0 0,.slice none 0 0,.slice none 0 0,.slice none 0 0,.bool false]⟩,.int .i64 1])
theorem qVS (g:GW) {cs:List Value} {s:Snap} (hs:q8I g cs s) (hsz:s.rules.length≤1000000):Ok Tryz.prog q1L [.agg ⟨cs⟩] g (q9U s):=by
 have hs0:=hs
 obtain⟨a,b,d,rfl,hl,hr,hk⟩:=hs
 obtain⟨oa,ca,rfl,a1,a2,a0,hl1⟩:=id hl
 obtain⟨ob,cb,rfl,b1,b2,b0,hr1⟩:=id hr
 obtain⟨od,cd,rfl,d1,d2,d0,hk1⟩:=id hk
 exact Ok.of_fn hm noT 0 qSL (args:=[.v (.agg ⟨[.slice oa s.listens.length ca,.slice ob s.rules.length cb,.slice od s.clusters.length cd]⟩)]) (by
  repeat((conv=>whnf);first|apply qza|apply qzb|apply qzc|apply qzd|apply qze|intro(_:Nat)|intro(_:OA)_)
  conv=>whnf
  refine .inl ⟨_,q1S _ hs0 hsz,?_⟩
  repeat((conv=>whnf);first|apply qza|apply qzb|apply qzc|apply qzd|apply qze|intro(_:Nat)|intro(_:OA)_)
  conv=>whnf
  refine⟨fun z1=>?_,fun z1=>?_⟩
  ·repeat((conv=>whnf);first|apply qza|apply qzb|apply qzc|apply qzd|apply qze|intro(_:Nat)|intro(_:OA)_)
   conv=>whnf
   intro g2 hg
   refine .inr ⟨fun h=>?_,rfl⟩
   rw [quT h] at z1;cases z1
  have hz:=eqB_iff.1 (nb0 z1)
  have G:=good_iff.1 hz
  have hclL:s.clusters.length≤4:=G.size.2.2.2
  have hcl:∀ x∈s.clusters,(1≤x.slots∧x.slots≤4)∧(1≤x.health.length∧x.health.length≤4):=fun x hx=>(G.cl x hx).2.2
  repeat((conv=>whnf);first|apply qza|apply qzb|apply qzc|apply qzd|apply qze|intro(_:Nat)|intro(_:OA)_)
  rename_i q0 q1 q2
  conv=>whnf
  refine⟨Nat×List (List Value)×Option Addr×Nat×GW,fun (k,_,_,_,_)=>[.v (.int .i64 k)],fun (k,ecs,oX,cX,g')=>⟨g',[.row 10 oX k cX qcA 2 ecs.flatten,.blk 2 q2 qEA [.v (.slice oa s.listens.length ca),.v (.slice ob s.rules.length cb),.v (.slice od s.clusters.length cd),.row 10 oX k cX,.v (.bool false)],.blk 1 q1 qEA [.v (.slice none 0 0),.v (.slice none 0 0),.v (.slice none 0 0),.v (.slice none 0 0),.v (.bool false)],.blk 0 q0 qoA [.v (.slice oa s.listens.length ca),.v (.slice ob s.rules.length cb),.v (.slice od s.clusters.length cd)]],20,g.w.heap.size⟩,fun (k,ecs,_,_,g')=>k≤s.clusters.length∧g≤g'∧rEls 2 rGr g' ecs ((s.clusters.take k).map fun c=>(⟨0,c.health.map fun _=>qgB c.slots.toNat⟩:Group)),fun (k,_,_,_,_)=>s.clusters.length-k,fun fr w hw=>⟨(0,[],none,0,g),rfl,⟨Nat.zero_le _,GW.refl _,qoL _⟩,(hw.nil_row (nx':=20) 10 qcA 2).fit (by simp [fitL,Res.eqv,qAA,conc])⟩,?_⟩
  rintro⟨k,ecs,oX,cX,g'⟩ ⟨hkk,hgg,hE⟩
  repeat((conv=>whnf);first|apply qza|apply qzb|apply qzc|apply qzd|apply qze|intro(_:Nat)|intro(_:OA)_)
  conv=>whnf
  refine⟨fun hlt=>?_,fun hlt=>?_⟩
  ·have h':k<s.clusters.length:=by have:=of_decide_eq_true hlt;omega
   obtain⟨x,hx⟩:=qBA h'
   obtain⟨x1,x2⟩:=List.getElem?_eq_some_iff.1 hx
   have hxc:=hcl x (List.mem_of_getElem? hx)
   obtain⟨a,rfl,ec,hec,⟨hv,rfl,_,_,⟨oh,ch,rfl,t1,t2,_⟩⟩,hc⟩:=hk1 k x hx
   repeat((conv=>whnf);first|apply qza|apply qzb|apply qzc|apply qzd|apply qze|intro(_:Nat)|intro(_:OA)_)
   conv=>whnf
   refine⟨a,rfl,⟨by omega,by omega⟩,?_⟩
   conv=>whnf
   refine⟨_,⟨rfl,hc.mono hgg⟩,?_⟩
   repeat((conv=>whnf);first|apply qza|apply qzb|apply qzc|apply qzd|apply qze|intro(_:Nat)|intro(_:OA)_)
   rename_i qc qg
   conv=>whnf
   refine⟨Nat×List (List Value)×Option Addr×Nat×GW,fun (n,_,_,_,_)=>[.v (.int .i64 n)],fun (n,ecs2,oE,cE,g2)=>⟨g2,[.row 30 oE n cE qtA 3 ecs2.flatten,.blk 21 qg qcA [.v (.int .u64 0),.row 30 oE n cE],.blk 20 qc qkA [.v (.string x.name),.v (.int .i64 x.policy),.v (.int .i64 x.slots),.v (.slice oh x.health.length ch)],.row 10 oX k cX qcA 2 ecs.flatten,.blk 2 q2 qEA [.v (.slice oa s.listens.length ca),.v (.slice ob s.rules.length cb),.v (.slice (some a) s.clusters.length cd),.row 10 oX k cX,.v (.bool false)],.blk 1 q1 qEA [.v (.slice none 0 0),.v (.slice none 0 0),.v (.slice none 0 0),.v (.slice none 0 0),.v (.bool false)],.blk 0 q0 qoA [.v (.slice oa s.listens.length ca),.v (.slice ob s.rules.length cb),.v (.slice (some a) s.clusters.length cd)]],40,g.w.heap.size⟩,fun (n,ecs2,_,_,g2)=>n≤x.health.length∧g'≤g2∧rEls 3 rEn g2 ecs2 ((x.health.take n).map fun _=>qgB x.slots.toNat),fun (n,_,_,_,_)=>x.health.length-n,fun fr w hw=>⟨(0,[],none,0,g'),rfl,⟨Nat.zero_le _,GW.refl _,qoL _⟩,(hw.nil_row (nx':=40) 30 qtA 3).fit (by simp [fitL,Res.eqv,qAA,conc])⟩,?_⟩
   rintro⟨n,ecs2,oE,cE,g2⟩ ⟨hn,hg2,hE2⟩
   repeat((conv=>whnf);first|apply qza|apply qzb|apply qzc|apply qzd|apply qze|intro(_:Nat)|intro(_:OA)_)
   conv=>whnf
   refine⟨fun hln=>?_,fun hln=>?_⟩
   ·have h2:n<x.health.length:=by have:=of_decide_eq_true hln;omega
    repeat((conv=>whnf);first|apply qza|apply qzb|apply qzc|apply qzd|apply qze|intro(_:Nat)|intro(_:OA)_)
    refine .inr ((qUS _).mono fun v g3 hg3 hF=>?_)
    rcases hF with ⟨_,oF,cF,rfl,hF⟩|⟨hF,_⟩
    rotate_left
    ·exact absurd hxc.1 hF
    have hEn:=qkS hxc.1 hF
    have hT:((x.health.take (n+1)).map fun _=>qgB x.slots.toNat)=((x.health.take n).map fun _=>qgB x.slots.toNat)++[qgB x.slots.toNat]:=by
     rw [List.take_succ_eq_append_getElem h2,List.map_append];rfl
    repeat((conv=>whnf);first|apply qza|apply qzb|apply qzc|apply qzd|apply qze|intro(_:Nat)|intro(_:OA)_)
    conv=>whnf
    refine⟨fun h=>(nomatch h),fun _=>?_⟩
    repeat((conv=>whnf);first|apply qza|apply qzb|apply qzc|apply qzd|apply qze|intro(_:Nat)|intro(_:OA)_)
    conv=>whnf
    refine⟨⟨by unfold maxLen;omega,by omega⟩,fun oa2 cap2=>?_⟩
    repeat((conv=>whnf);first|apply qza|apply qzb|apply qzc|apply qzd|apply qze|intro(_:Nat)|intro(_:OA)_)
    conv=>whnf
    refine fun fr w hw=>⟨(n+1,ecs2++[[.int .u64 1,.slice oF x.slots.toNat cF,.int .i64 0]],oa2,cap2,g3),congrArg (fun z=>[Value.int .i64 z]) (wr1 h2 t1 t2).symm,⟨h2,GW.trans hg2 hg3,by rw [hT];exact qiJ (qXI qCE hg3 hE2) rfl hEn⟩,dec h2,hw.fit (by simp [fitL,Res.eqv,qAA,conc])⟩
   have hnL:n=x.health.length:=by have:=of_decide_eq_false hln;omega
   subst hnL
   rw [List.take_length] at hE2
   have hT:((s.clusters.take (k+1)).map fun c=>(⟨0,c.health.map fun _=>qgB c.slots.toNat⟩:Group))=((s.clusters.take k).map fun c=>(⟨0,c.health.map fun _=>qgB c.slots.toNat⟩:Group))++[⟨0,x.health.map fun _=>qgB x.slots.toNat⟩]:=by
    rw [List.take_succ_eq_append_getElem x1,List.map_append,x2];rfl
   repeat((conv=>whnf);first|apply qza|apply qzb|apply qzc|apply qzd|apply qze|intro(_:Nat)|intro(_:OA)_)
   conv=>whnf
   refine fun g3 hg3 hn3 hp3=>?_
   have hSl:=qQO (qXI qCE hg3 hE2) hp3 (by simp)
   repeat((conv=>whnf);first|apply qza|apply qzb|apply qzc|apply qzd|apply qze|intro(_:Nat)|intro(_:OA)_)
   conv=>whnf
   refine⟨⟨by unfold maxLen;omega,by omega⟩,fun oa2 cap2=>?_⟩
   repeat((conv=>whnf);first|apply qza|apply qzb|apply qzc|apply qzd|apply qze|intro(_:Nat)|intro(_:OA)_)
   conv=>whnf
   refine fun fr w hw=>⟨(k+1,ecs++[[.int .u64 0,.slice oE x.health.length cE]],oa2,cap2,g3),congrArg (fun z=>[Value.int .i64 z]) (wr1 h' d1 d2).symm,⟨h',GW.trans hgg (GW.trans hg2 hg3),by rw [hT];exact qiJ (qXI q1E (GW.trans hg2 hg3) hE) rfl ⟨_,rfl,show InU 0 by decide,hSl⟩⟩,dec h',hw.fit (by simp [fitL,Res.eqv,qAA,conc])⟩
  have hkL:k=s.clusters.length:=by have:=of_decide_eq_false hlt;omega
  subst hkL
  rw [List.take_length] at hE
  repeat((conv=>whnf);first|apply qza|apply qzb|apply qzc|apply qzd|apply qze|intro(_:Nat)|intro(_:OA)_)
  conv=>whnf
  refine fun g3 hg3 hn3 hp3=>?_
  have hSl:=qQO (qXI q1E hg3 hE) hp3 (by simp)
  repeat((conv=>whnf);first|apply qza|apply qzb|apply qzc|apply qzd|apply qze|intro(_:Nat)|intro(_:OA)_)
  conv=>whnf
  intro g2 hg
  exact .inl ⟨hz,_,_,_,_,_,_,rfl,⟨_,_,_,_,rfl,q2C _ _ _ _ (GW.trans hgg (GW.trans hg3 hg)) hs0,hSl.mono q1E hg⟩⟩)
/- Worlds: counts of a new world. -/
open Go.Proofs.YtompjkkgaafllaaGreat.Sx Go.RowKit
def q6U (n:Int) (v:Value) (g':GW):Prop :=
 ((1≤n∧n≤8)∧∃ oa cap,v=.tuple #[.slice oa n.toNat cap,.int .i64 0]∧rSl 1 rRow g' (.slice oa n.toNat cap) (qtE n.toNat)) ∨
 (¬ (1≤n∧n≤8)∧v=.tuple #[.slice none 0 0,.int .i64 1])
theorem qbO (g:GW) {n:Int}:Ok Tryz.prog qnO [.int .i64 n] g (q6U n) :=
 Ok.of_fn hm noT 0 qGO (args:=[.v (.int .i64 n)]) (by
  repeat((conv=>whnf);first|apply qza|apply qzb|apply qzc|apply qzd|apply qze|intro(_:Nat))
  conv=>whnf
  refine⟨fun z1=>?_,fun z1=>?_⟩
  ·repeat((conv=>whnf);first|apply qza|apply qzb|apply qzc|apply qzd|apply qze|intro(_:Nat))
   conv=>whnf
   intro g2 hg
   exact .inr ⟨by have:=of_decide_eq_true z1;omega,rfl⟩
  repeat((conv=>whnf);first|apply qza|apply qzb|apply qzc|apply qzd|apply qze|intro(_:Nat))
  conv=>whnf
  refine⟨fun z2=>?_,fun z2=>?_⟩
  ·repeat((conv=>whnf);first|apply qza|apply qzb|apply qzc|apply qzd|apply qze|intro(_:Nat))
   conv=>whnf
   intro g2 hg
   exact .inr ⟨by have:=of_decide_eq_true z2;omega,rfl⟩
  have k1:=of_decide_eq_false z1
  have k2:=of_decide_eq_false z2
  obtain⟨N,rfl⟩:=Int.eq_ofNat_of_zero_le (show 0≤n by omega)
  repeat((conv=>whnf);first|apply qza|apply qzb|apply qzc|apply qzd|apply qze|intro(_:Nat))
  conv=>whnf
  refine⟨⟨by omega,by omega,by omega,by omega⟩,fun _=>?_⟩
  repeat((conv=>whnf);first|apply qza|apply qzb|apply qzc|apply qzd|apply qze|intro(_:Nat))
  rename_i q1
  conv=>whnf
  refine⟨Nat×List (List Value)×GW,fun (k,_,_)=>[.v (.int .i64 k)],fun (k,ecs,g')=>⟨g',[.row 0 (some ⟨q1,0,none⟩) N N qZB 1 (rowK ecs [.slice none 0 0] (N-k))],10,g.w.heap.size⟩,fun (k,ecs,g')=>k≤N∧g≤g'∧rEls 1 rRow g' ecs (qtE k),fun (k,_,_)=>N-k,fun fr w hw=>⟨(0,[],g),rfl,⟨Nat.zero_le _,GW.refl _,qoL _⟩,hw.fit (by simp [fitL,Res.eqv,qAA,conc,rowK])⟩,?_⟩
  rintro⟨k,ecs,g'⟩ ⟨hk,hgg,hE⟩
  have hel:ecs.length=k:=by have:=hE.1.1;simpa [qtE] using this
  have hlen:=qSG (m:=N-k) (z:=[.slice none 0 0]) hE.1.2 rfl
  repeat((conv=>whnf);first|apply qza|apply qzb|apply qzc|apply qzd|apply qze|intro(_:Nat))
  conv=>whnf
  refine⟨fun hlt=>?_,fun hlt=>?_⟩
  ·have h':k<N:=by have:=of_decide_eq_true hlt;omega
   repeat((conv=>whnf);first|apply qza|apply qzb|apply qzc|apply qzd|apply qze|intro(_:Nat))
   conv=>whnf
   refine⟨⟨by decide,by decide,by decide,by decide⟩,fun _=>?_⟩
   repeat((conv=>whnf);first|apply qza|apply qzb|apply qzc|apply qzd|apply qze|intro(_:Nat))
   conv=>whnf
   refine⟨⟨by omega,by omega⟩,?_⟩
   repeat((conv=>whnf);first|apply qza|apply qzb|apply qzc|apply qzd|apply qze|intro(_:Nat))
   rename_i q2
   conv=>whnf
   refine fun g2 hg2 hn2 hp2=>?_
   have hrow:rSl 1 rU64 g2 (.slice (some ⟨q2,0,none⟩) 6 6) [0,0,0,0,0,0]:=qzF hp2.rd [0,0,0,0,0,0] (fun x=>.int .u64 x) rfl fun x hx=>⟨rfl,by simp at hx;subst hx;decide⟩
   have hset:=qRG (m:=N-k) (z:=[.slice none 0 0]) hE.1.2 rfl (by omega) (ec:=[.slice (some ⟨q2,0,none⟩) 6 6]) rfl hel.symm
   have hT:qtE (k+1)=qtE k++[[0,0,0,0,0,0]]:=by simp [qtE,List.range_succ]
   repeat((conv=>whnf);first|apply qza|apply qzb|apply qzc|apply qzd|apply qze|intro(_:Nat))
   conv=>whnf
   refine⟨⟨by rw [hlen,hel];simp;omega,by decide⟩,?_⟩
   repeat((conv=>whnf);first|apply qza|apply qzb|apply qzc|apply qzd|apply qze|intro(_:Nat))
   conv=>whnf
   refine fun fr w hw=>⟨(k+1,ecs++[[.slice (some ⟨q2,0,none⟩) 6 6]],g2),congrArg (fun z=>[Value.int .i64 z]) (by rw [wr (show InR ((k:Int)+1) by unfold InR;omega)];omega),⟨h',GW.trans hgg hg2,by rw [hT];exact qiJ (qXI qZC hg2 hE) rfl ⟨_,rfl,hrow⟩⟩,dec h',hw.fit ?_⟩
   rw [show N-(k+1)=N-k-1 by omega,← hset]
   simp [fitL,Res.eqv,qAA,conc]
  have hkN:k=N:=by have:=of_decide_eq_false hlt;omega
  subst hkN
  repeat((conv=>whnf);first|apply qza|apply qzb|apply qzc|apply qzd|apply qze|intro(_:Nat))
  conv=>whnf
  refine fun g2 hg2 hn2 hp2=>?_
  rw [Nat.sub_self,qwF] at hp2
  have hSl:=qQO (qXI qZC hg2 hE) hp2 (by simp [qtE])
  repeat((conv=>whnf);first|apply qza|apply qzb|apply qzc|apply qzd|apply qze|intro(_:Nat))
  conv=>whnf
  intro g2 hg
  exact .inl ⟨⟨by omega,by omega⟩,_,_,rfl,hSl.mono qZC hg⟩)
end Go.Proofs.YtompjkkgaafllaaGreat
