/- Requests: the document's step, place 9. -/
import Derived.Test.YthonngjhelcpeaaGreatLW20p20
set_option linter.unusedVariables false
set_option linter.unusedSimpArgs false
namespace Go.Proofs.YthonngjhelcpeaaGreat
open Go.Proofs.YthonngjhelcpeaaGreat.Sx Go.RowKit
set_option maxHeartbeats 16000000
set_option maxRecDepth 100000
theorem qOZ (g:GW) {cs ms:List Value} {w:Wd} {m:Mach} (hw:rWo g cs w) (hM:qfA g ms m) (hsn:SnW w) (hb:BgW 1000000 w) (hsz:SmO m) (hgo:hGo w m) (h0:m.pc=9):Ok Tryz.prog qJA [.agg ⟨cs⟩,.agg ⟨ms⟩] g (HaP w m):=by
 obtain⟨hW9,hM9,hE9⟩:=qQB hgo (by omega)
 obtain⟨kW,kM,kE⟩:=ha9 h0
 rw [kW] at hW9
 rw [kM] at hM9
 rw [kE] at hE9
 clear kW kM kE
 have hs:=hgo.1
 obtain⟨v,gr,en,hS⟩:=id (suitB_iff.1 hs)
 obtain⟨oa,ca,ob,cb,oc,cc,od,cd,oe,ce,o1,t1,o2,t2,o3,t3,rfl,rfl,hw0,hM0,⟨i1,i2,i3⟩,hP,hV,hL,hC,hR,⟨a1,a2,a0,hP1⟩,⟨b1,b2,b0,hV1⟩,⟨c1,c2,c0,hL1⟩,⟨d1,d2,d0,hC1⟩,⟨e1,e2,e0,hR1⟩,hok,hop,hcf⟩:=qoB hw hM
 exact Ok.of_fn hm qyD 5 qLA (args:=[.v (.agg ⟨wQ w oa ca ob cb oc cc od cd oe ce⟩),.v (.agg ⟨mQ m o1 t1 o2 t2 o3 t3⟩)]) (by
  repeat((conv=>whnf);first|refine qz ?_|intro(_:Nat))
  conv=>whnf
  refine .inl ⟨_,qmA _ hw0 hM0 hsn hb,?_⟩
  repeat((conv=>whnf);first|refine qz ?_|intro(_:Nat))
  conv=>whnf
  refine⟨fun hx=>absurd (hs.symm.trans (nb1 hx)) (by decide),fun _=>?_⟩
  repeat((conv=>whnf);first|refine qz ?_|intro(_:Nat))
  conv=>whnf
  refine dF (by omega) ?_
  repeat((conv=>whnf);first|refine qz ?_|intro(_:Nat))
  conv=>whnf
  refine dF (by omega) ?_
  repeat((conv=>whnf);first|refine qz ?_|intro(_:Nat))
  conv=>whnf
  refine dF (by omega) ?_
  repeat((conv=>whnf);first|refine qz ?_|intro(_:Nat))
  conv=>whnf
  refine⟨fun _=>?_,fun _=>?_⟩
  case' refine_1 =>
   repeat((conv=>whnf);first|refine qz ?_|intro(_:Nat))
   conv=>whnf
   refine⟨fun hx=>absurd hx (by simp [h0]),fun _=>?_⟩
   repeat((conv=>whnf);first|refine qz ?_|intro(_:Nat))
   conv=>whnf
   refine⟨fun hx=>absurd hx (by simp [h0]),fun _=>?_⟩
   repeat((conv=>whnf);first|refine qz ?_|intro(_:Nat))
   conv=>whnf
   refine⟨fun hx=>absurd hx (by simp [h0]),fun _=>?_⟩
  all_goals (
   repeat((conv=>whnf);first|refine qz ?_|intro(_:Nat))
   conv=>whnf
   refine dF (by omega) ?_
   repeat((conv=>whnf);first|refine qz ?_|intro(_:Nat))
   refine .inr ((qzA _ hw0 hb).mono fun v g3 hg3 hO=>?_)
   obtain⟨cs,T,rfl,hT⟩:=hO
   have hF:=qTA hT
   obtain⟨oa',ca',ob',cb',oc',cc',od',cd',oe',ce',rfl⟩:=qMA hF
   repeat((conv=>whnf);first|refine qz ?_|intro(_:Nat))
   conv=>whnf
   refine dF (by omega) ?_
   repeat((conv=>whnf);first|refine qz ?_|intro(_:Nat))
   conv=>whnf
   refine dF (by omega) ?_
   repeat((conv=>whnf);first|refine qz ?_|intro(_:Nat))
   conv=>whnf
   refine dT (by omega) ?_
   repeat((conv=>whnf);first|refine qz ?_|intro(_:Nat))
   have hFv:=qvN hF
   obtain⟨av,rfl⟩:=qGA hFv hS.ver.2
   obtain⟨oL,cL,oR,cR,oC,cC,oG,cG,hcv,hsn3,hcK,hcG⟩:=qrC hFv hS.ver.2
   obtain⟨ag,rfl⟩:=qGA hcG hS.clu.2
   obtain⟨oE,cE,hcg,htk,hcE⟩:=q5C hcG hS.clu.2
   obtain⟨ae,rfl⟩:=qGA hcE hS.end_.2
   obtain⟨oN,cN,hce,hei,hcN⟩:=qmC hcE hS.end_.2
   obtain⟨av0,rfl⟩:=qGA hV hS.ver.2
   obtain⟨oL0,cL0,oR0,cR0,oC0,cC0,oG0,cG0,hcv0,hsn0,hcK0,hcG0⟩:=qrC hV hS.ver.2
   obtain⟨ag0,rfl⟩:=qGA hcG0 hS.clu.2
   obtain⟨oE0,cE0,hcg0,htk0,hcE0⟩:=q5C hcG0 hS.clu.2
   obtain⟨ae0,rfl⟩:=qGA hcE0 hS.end_.2
   obtain⟨oN0,cN0,hce0,hei0,hcN0⟩:=qmC hcE0 hS.end_.2
   obtain⟨hvi,hgi,hki⟩:=hS.idx
   obtain⟨hmV,hmG,hmE⟩:=hS.at_
   unfold Go.Proofs.YthonngjhelcpeaaGreat.Sx.hM9 at hM9
   rw [hmE] at hM9 hE9
   simp only [evV,hmV] at hE9
   have hir:=qXN en.head
   have hnl:=hei.2.2
   repeat'((conv=>whnf);first|apply qza|apply qzb|apply qzc|apply qzd|apply qze|intro(_:Nat)|refine⟨_,rfl,hvi,?_⟩|refine⟨_,hcv 3 _ rfl,?_⟩|refine⟨_,rfl,hgi,?_⟩|refine⟨_,hcg 1 _ rfl,?_⟩|refine⟨_,rfl,hki,?_⟩|fail)
   repeat((conv=>whnf);first|refine qz ?_|intro(_:Nat))
   conv=>whnf
   refine⟨fun _=>?_,fun hx=>absurd hx (by simp [h0])⟩
   repeat((conv=>whnf);first|refine qz ?_|intro(_:Nat))
   repeat'((conv=>whnf);first|apply qza|apply qzb|apply qzc|apply qzd|apply qze|intro(_:Nat)|refine⟨_,hce 0 _ rfl,?_⟩|refine .inl ⟨_,qOQ _ hei.1,?_⟩|refine .inl ⟨_,q2F _ {m with word:=en.head} 1 8 _ hvi (hcv0.mono hg3),?_⟩|refine And.intro ?_ ?_|fail)
   all_goals (try exact Eq.refl _)
   ·intro z
    have z:=of_decide_eq_true z
    rw [if_neg (by omega)] at hM9
    repeat'((conv=>whnf);first|apply qza|apply qzb|apply qzc|apply qzd|apply qze|intro(_:Nat)|refine .inl ⟨_,q3H _ {m with word:=en.head} 4,?_⟩|refine And.intro ?_ ?_|fail)
    all_goals (conv=>whnf)
    all_goals (first|exact Eq.refl _|(
    intro g2 hg
    refine⟨_,_,by rw [hE9]<;>rfl,by rw [hW9];exact qDA _ _ _ _ hg hF,?_⟩
    rw [hM9]
    exact⟨_,_,_,rfl,{hok with word:=hei.1,pc:=show InR (20:Int) by decide,answer:=qxD (by decide)},hop,qCA _ _ _ _ (GW.trans hg3 hg) hcf⟩))
   ·intro z
    have z:=of_decide_eq_false z
    repeat'((conv=>whnf);first|apply qza|apply qzb|apply qzc|apply qzd|apply qze|intro(_:Nat)|refine⟨_,hce 1 _ rfl,?_⟩|fail)
    refine And.intro (fun z2=>?_) (fun z2=>?_)
    ·have z2:=of_decide_eq_true z2
     rw [if_neg (by omega)] at hM9
     repeat'((conv=>whnf);first|apply qza|apply qzb|apply qzc|apply qzd|apply qze|intro(_:Nat)|refine .inl ⟨_,q3H _ {m with word:=en.head} 4,?_⟩|refine And.intro ?_ ?_|fail)
     all_goals (conv=>whnf)
     all_goals (first|exact Eq.refl _|(
     intro g2 hg
     refine⟨_,_,by rw [hE9]<;>rfl,by rw [hW9];exact qDA _ _ _ _ hg hF,?_⟩
     rw [hM9]
     exact⟨_,_,_,rfl,{hok with word:=hei.1,pc:=show InR (20:Int) by decide,answer:=qxD (by decide)},hop,qCA _ _ _ _ (GW.trans hg3 hg) hcf⟩))
    ·have z2:=of_decide_eq_false z2
     rw [if_pos (by omega)] at hM9
     repeat'((conv=>whnf);first|apply qza|apply qzb|apply qzc|apply qzd|apply qze|intro(_:Nat)|refine .inl ⟨_,q3H _ {m with word:=en.head} 4,?_⟩|refine And.intro ?_ ?_|fail)
     all_goals (conv=>whnf)
     all_goals (first|exact Eq.refl _|(
     intro g2 hg
     refine⟨_,_,by rw [hE9]<;>rfl,by rw [hW9];exact qDA _ _ _ _ hg hF,?_⟩
     rw [hM9]
     exact⟨_,_,_,rfl,{hok with word:=hei.1,slot:=show InR (idxT en.head) by unfold InR;omega,pc:=show InR (10:Int) by decide},hop,qCA _ _ _ _ (GW.trans hg3 hg) hcf⟩))))
/- Requests: the document's step,place 10. -/
open Go.Proofs.YthonngjhelcpeaaGreat.Sx Go.RowKit
theorem qPY (g:GW) {cs ms:List Value} {w:Wd} {m:Mach} (hw:rWo g cs w) (hM:qfA g ms m) (hsn:SnW w) (hb:BgW 1000000 w) (hsz:SmO m) (hgo:hGo w m) (h0:m.pc=10):Ok Tryz.prog qJA [.agg ⟨cs⟩,.agg ⟨ms⟩] g (HaP w m):=by
 obtain⟨hW9,hM9,hE9⟩:=qQB hgo (by omega)
 obtain⟨kW,kM,kE⟩:=ha10 h0
 rw [kW] at hW9
 rw [kM] at hM9
 rw [kE] at hE9
 clear kW kM kE
 have hs:=hgo.1
 obtain⟨v,gr,en,hS⟩:=id (suitB_iff.1 hs)
 obtain⟨oa,ca,ob,cb,oc,cc,od,cd,oe,ce,o1,t1,o2,t2,o3,t3,rfl,rfl,hw0,hM0,⟨i1,i2,i3⟩,hP,hV,hL,hC,hR,⟨a1,a2,a0,hP1⟩,⟨b1,b2,b0,hV1⟩,⟨c1,c2,c0,hL1⟩,⟨d1,d2,d0,hC1⟩,⟨e1,e2,e0,hR1⟩,hok,hop,hcf⟩:=qoB hw hM
 exact Ok.of_fn hm qyD 5 qLA (args:=[.v (.agg ⟨wQ w oa ca ob cb oc cc od cd oe ce⟩),.v (.agg ⟨mQ m o1 t1 o2 t2 o3 t3⟩)]) (by
  repeat((conv=>whnf);first|refine qz ?_|intro(_:Nat))
  conv=>whnf
  refine .inl ⟨_,qmA _ hw0 hM0 hsn hb,?_⟩
  repeat((conv=>whnf);first|refine qz ?_|intro(_:Nat))
  conv=>whnf
  refine⟨fun hx=>absurd (hs.symm.trans (nb1 hx)) (by decide),fun _=>?_⟩
  repeat((conv=>whnf);first|refine qz ?_|intro(_:Nat))
  conv=>whnf
  refine dF (by omega) ?_
  repeat((conv=>whnf);first|refine qz ?_|intro(_:Nat))
  conv=>whnf
  refine dF (by omega) ?_
  repeat((conv=>whnf);first|refine qz ?_|intro(_:Nat))
  conv=>whnf
  refine dF (by omega) ?_
  repeat((conv=>whnf);first|refine qz ?_|intro(_:Nat))
  conv=>whnf
  refine⟨fun _=>?_,fun _=>?_⟩
  case' refine_1 =>
   repeat((conv=>whnf);first|refine qz ?_|intro(_:Nat))
   conv=>whnf
   refine⟨fun hx=>absurd hx (by simp [h0]),fun _=>?_⟩
   repeat((conv=>whnf);first|refine qz ?_|intro(_:Nat))
   conv=>whnf
   refine⟨fun hx=>absurd hx (by simp [h0]),fun _=>?_⟩
   repeat((conv=>whnf);first|refine qz ?_|intro(_:Nat))
   conv=>whnf
   refine⟨fun hx=>absurd hx (by simp [h0]),fun _=>?_⟩
  all_goals (
   repeat((conv=>whnf);first|refine qz ?_|intro(_:Nat))
   conv=>whnf
   refine dF (by omega) ?_
   repeat((conv=>whnf);first|refine qz ?_|intro(_:Nat))
   refine .inr ((qzA _ hw0 hb).mono fun v g3 hg3 hO=>?_)
   obtain⟨cs,T,rfl,hT⟩:=hO
   have hF:=qTA hT
   obtain⟨oa',ca',ob',cb',oc',cc',od',cd',oe',ce',rfl⟩:=qMA hF
   repeat((conv=>whnf);first|refine qz ?_|intro(_:Nat))
   conv=>whnf
   refine dF (by omega) ?_
   repeat((conv=>whnf);first|refine qz ?_|intro(_:Nat))
   conv=>whnf
   refine dF (by omega) ?_
   repeat((conv=>whnf);first|refine qz ?_|intro(_:Nat))
   conv=>whnf
   refine dT (by omega) ?_
   repeat((conv=>whnf);first|refine qz ?_|intro(_:Nat))
   have hFv:=qvN hF
   obtain⟨av,rfl⟩:=qGA hFv hS.ver.2
   obtain⟨oL,cL,oR,cR,oC,cC,oG,cG,hcv,hsn3,hcK,hcG⟩:=qrC hFv hS.ver.2
   obtain⟨ag,rfl⟩:=qGA hcG hS.clu.2
   obtain⟨oE,cE,hcg,htk,hcE⟩:=q5C hcG hS.clu.2
   obtain⟨ae,rfl⟩:=qGA hcE hS.end_.2
   obtain⟨oN,cN,hce,hei,hcN⟩:=qmC hcE hS.end_.2
   obtain⟨av0,rfl⟩:=qGA hV hS.ver.2
   obtain⟨oL0,cL0,oR0,cR0,oC0,cC0,oG0,cG0,hcv0,hsn0,hcK0,hcG0⟩:=qrC hV hS.ver.2
   obtain⟨ag0,rfl⟩:=qGA hcG0 hS.clu.2
   obtain⟨oE0,cE0,hcg0,htk0,hcE0⟩:=q5C hcG0 hS.clu.2
   obtain⟨ae0,rfl⟩:=qGA hcE0 hS.end_.2
   obtain⟨oN0,cN0,hce0,hei0,hcN0⟩:=qmC hcE0 hS.end_.2
   obtain⟨hvi,hgi,hki⟩:=hS.idx
   obtain⟨hmV,hmG,hmE⟩:=hS.at_
   obtain⟨y,hy⟩:=qAA (l:=en.next) (i:=m.slot.toNat) (by have:=hS.slot;omega)
   obtain⟨an,rfl⟩:=qGA hcN hy
   obtain⟨hyr,hcy⟩:=qgL hcN hy
   have hsi:=hS.slot
   rw [hmE,hy] at hM9 hE9
   simp only [evV,hmV,Option.getD_some] at hE9 hM9
   repeat'((conv=>whnf);first|apply qza|apply qzb|apply qzc|apply qzd|apply qze|intro(_:Nat)|refine⟨_,rfl,hvi,?_⟩|refine⟨_,hcv 3 _ rfl,?_⟩|refine⟨_,rfl,hgi,?_⟩|refine⟨_,hcg 1 _ rfl,?_⟩|refine⟨_,rfl,hki,?_⟩|fail)
   repeat((conv=>whnf);first|refine qz ?_|intro(_:Nat))
   conv=>whnf
   refine⟨fun hx=>absurd hx (by simp [h0]),fun _=>?_⟩
   repeat((conv=>whnf);first|refine qz ?_|intro(_:Nat))
   conv=>whnf
   refine⟨fun _=>?_,fun hx=>absurd hx (by simp [h0])⟩
   repeat((conv=>whnf);first|refine qz ?_|intro(_:Nat))
   repeat'((conv=>whnf);first|apply qza|apply qzb|apply qzc|apply qzd|apply qze|intro(_:Nat)|refine⟨_,hce 1 _ rfl,?_⟩|refine⟨_,rfl,hsi,?_⟩|refine⟨_,hcy 0 _ rfl,?_⟩|refine .inl ⟨_,q2F _ {m with link:=y,pc:=11} 1 9 _ hvi (hcv0.mono hg3),?_⟩|refine And.intro ?_ ?_|fail)
   all_goals (conv=>whnf)
   all_goals (first|exact Eq.refl _|(
   intro g2 hg
   refine⟨_,_,by rw [hE9]<;>rfl,by rw [hW9];exact qDA _ _ _ _ hg hF,?_⟩
   rw [hM9]
   exact⟨_,_,_,rfl,{hok with link:=hyr,pc:=show InR (11:Int) by decide},hop,qCA _ _ _ _ (GW.trans hg3 hg) hcf⟩))))
/- Requests: the document's step,place 11. -/
open Go.Proofs.YthonngjhelcpeaaGreat.Sx Go.RowKit
theorem qOY (g:GW) {cs ms:List Value} {w:Wd} {m:Mach} (hw:rWo g cs w) (hM:qfA g ms m) (hsn:SnW w) (hb:BgW 1000000 w) (hsz:SmO m) (hgo:hGo w m) (h0:m.pc=11):Ok Tryz.prog qJA [.agg ⟨cs⟩,.agg ⟨ms⟩] g (HaP w m):=by
 obtain⟨hW9,hM9,hE9⟩:=qQB hgo (by omega)
 obtain⟨kW,kM,kE⟩:=ha11 h0
 rw [kW] at hW9
 rw [kM] at hM9
 rw [kE] at hE9
 clear kW kM kE
 have hs:=hgo.1
 obtain⟨v,gr,en,hS⟩:=id (suitB_iff.1 hs)
 obtain⟨oa,ca,ob,cb,oc,cc,od,cd,oe,ce,o1,t1,o2,t2,o3,t3,rfl,rfl,hw0,hM0,⟨i1,i2,i3⟩,hP,hV,hL,hC,hR,⟨a1,a2,a0,hP1⟩,⟨b1,b2,b0,hV1⟩,⟨c1,c2,c0,hL1⟩,⟨d1,d2,d0,hC1⟩,⟨e1,e2,e0,hR1⟩,hok,hop,hcf⟩:=qoB hw hM
 exact Ok.of_fn hm qyD 5 qLA (args:=[.v (.agg ⟨wQ w oa ca ob cb oc cc od cd oe ce⟩),.v (.agg ⟨mQ m o1 t1 o2 t2 o3 t3⟩)]) (by
  repeat((conv=>whnf);first|refine qz ?_|intro(_:Nat))
  conv=>whnf
  refine .inl ⟨_,qmA _ hw0 hM0 hsn hb,?_⟩
  repeat((conv=>whnf);first|refine qz ?_|intro(_:Nat))
  conv=>whnf
  refine⟨fun hx=>absurd (hs.symm.trans (nb1 hx)) (by decide),fun _=>?_⟩
  repeat((conv=>whnf);first|refine qz ?_|intro(_:Nat))
  conv=>whnf
  refine dF (by omega) ?_
  repeat((conv=>whnf);first|refine qz ?_|intro(_:Nat))
  conv=>whnf
  refine dF (by omega) ?_
  repeat((conv=>whnf);first|refine qz ?_|intro(_:Nat))
  conv=>whnf
  refine dF (by omega) ?_
  repeat((conv=>whnf);first|refine qz ?_|intro(_:Nat))
  conv=>whnf
  refine⟨fun _=>?_,fun _=>?_⟩
  case' refine_1 =>
   repeat((conv=>whnf);first|refine qz ?_|intro(_:Nat))
   conv=>whnf
   refine⟨fun hx=>absurd hx (by simp [h0]),fun _=>?_⟩
   repeat((conv=>whnf);first|refine qz ?_|intro(_:Nat))
   conv=>whnf
   refine⟨fun hx=>absurd hx (by simp [h0]),fun _=>?_⟩
   repeat((conv=>whnf);first|refine qz ?_|intro(_:Nat))
   conv=>whnf
   refine⟨fun hx=>absurd hx (by simp [h0]),fun _=>?_⟩
  all_goals (
   repeat((conv=>whnf);first|refine qz ?_|intro(_:Nat))
   conv=>whnf
   refine dF (by omega) ?_
   repeat((conv=>whnf);first|refine qz ?_|intro(_:Nat))
   refine .inr ((qzA _ hw0 hb).mono fun v g3 hg3 hO=>?_)
   obtain⟨cs,T,rfl,hT⟩:=hO
   have hF:=qTA hT
   obtain⟨oa',ca',ob',cb',oc',cc',od',cd',oe',ce',rfl⟩:=qMA hF
   repeat((conv=>whnf);first|refine qz ?_|intro(_:Nat))
   conv=>whnf
   refine dF (by omega) ?_
   repeat((conv=>whnf);first|refine qz ?_|intro(_:Nat))
   conv=>whnf
   refine dF (by omega) ?_
   repeat((conv=>whnf);first|refine qz ?_|intro(_:Nat))
   conv=>whnf
   refine dT (by omega) ?_
   repeat((conv=>whnf);first|refine qz ?_|intro(_:Nat))
   obtain⟨av0,rfl⟩:=qGA hV hS.ver.2
   obtain⟨oL0,cL0,oR0,cR0,oC0,cC0,oG0,cG0,hcv0,hsn0,hcK0,hcG0⟩:=qrC hV hS.ver.2
   obtain⟨ag0,rfl⟩:=qGA hcG0 hS.clu.2
   obtain⟨oE0,cE0,hcg0,htk0,hcE0⟩:=q5C hcG0 hS.clu.2
   obtain⟨ae0,rfl⟩:=qGA hcE0 hS.end_.2
   obtain⟨oN0,cN0,hce0,hei0,hcN0⟩:=qmC hcE0 hS.end_.2
   obtain⟨b1,k1,b2,k2,va,vb,vd,vn,T2,hq,hcv,hcg,htk,hE2,hPT,hPK⟩:=qXM hT hS.ver.2 hS.clu.2
   cases hq
   have hei:=(qGP hF hS.ver.2 hS.clu.2 hS.end_.2).1
   obtain⟨hvi,hgi,hki⟩:=hS.idx
   obtain⟨hmV,hmG,hmE⟩:=hS.at_
   have hwu:=hok.word
   simp only [casB,hmE,evV,setE,hmV,hmG] at hW9 hM9 hE9
   obtain⟨b3,k3,nn,T3,hqn,hce,hN,hPEs⟩:∃ (b3 c3:Nat) (nn:Value) (T3:Nat→Prop),vn=.slice (some ⟨b3,0,none⟩) gr.ends.length c3∧Rcs g3 ((⟨b3,0,none⟩:Addr).add (m.end_.toNat*3)) [.int .u64 en.head,nn,.int .i64 en.active]∧True∧∀ h',InU h'→PK g3 g.w.heap.size T2 (((⟨b3,0,none⟩:Addr).add (m.end_.toNat*3)).add 0) [.int .u64 h'] fun g'=>oSl _ 3 (oEn _ _) g' g.w.heap.size T2 vn (gr.ends.set m.end_.toNat {en with head:=h'}):=by
    obtain⟨b3,k3,nn,T3,hqn,hce,hN,_⟩:=qVF hE2 hS.end_.2 (en':=en) (o:=0) (vs:=[.int .u64 en.head]) (by simp) (by simp [Value.oneCell']) (fun n=>rfl) rfl ⟨hei.1,hei.2.1⟩
    refine⟨b3,k3,nn,T3,hqn,hce,trivial,fun h' hh=>?_⟩
    obtain⟨b3',k3',nn',T3',hqn',hce',hN',hP'⟩:=qVF hE2 hS.end_.2 (en':={en with head:=h'}) (o:=0) (vs:=[.int .u64 h']) (by simp) (by simp [Value.oneCell']) (fun n=>rfl) rfl ⟨hh,hei.2.1⟩
    subst hqn
    cases hqn'
    exact hP'
   subst hqn
   repeat'((conv=>whnf);first|apply qza|apply qzb|apply qzc|apply qzd|apply qze|intro(_:Nat)|refine⟨_,rfl,hvi,?_⟩|refine⟨_,hcv 3 _ rfl,?_⟩|refine⟨_,rfl,hgi,?_⟩|refine⟨_,hcg 1 _ rfl,?_⟩|refine⟨_,rfl,hki,?_⟩|fail)
   repeat((conv=>whnf);first|refine qz ?_|intro(_:Nat))
   conv=>whnf
   refine⟨fun hx=>absurd hx (by simp [h0]),fun _=>?_⟩
   repeat((conv=>whnf);first|refine qz ?_|intro(_:Nat))
   conv=>whnf
   refine⟨fun hx=>absurd hx (by simp [h0]),fun _=>?_⟩
   repeat((conv=>whnf);first|refine qz ?_|intro(_:Nat))
   conv=>whnf
   refine⟨fun _=>?_,fun hx=>absurd hx (by simp [h0])⟩
   repeat((conv=>whnf);first|refine qz ?_|intro(_:Nat))
   by_cases hcas:(decide (en.head=m.word)&&qCB m.link)=true
   ·rw [if_pos hcas] at hW9 hE9
    rw [hcas] at hM9
    simp only [Bool.and_eq_true,decide_eq_true_eq] at hcas
    obtain⟨hc1,hc2⟩:=hcas
    have hpl:-1≤m.link∧m.link≤2147483646:=by simpa [qCB] using hc2
    obtain⟨b5,j5,bc,ty5,⟨hA,p1,p2,p3,p4⟩,_,hk5⟩:=hPK _ _ _ (hPEs (qXE m.word m.link) (q4S hpl))
    simp only [if_true] at hM9
    have hnx:=(qeR g3 hwu hok.link).to (v':=.tuple #[.int .u64 (qXE m.word m.link),.int .i64 0]) (by simp [hc2])
    repeat'((conv=>whnf);first|apply qza|apply qzb|apply qzc|apply qzd|apply qze|intro(_:Nat)|refine .inl ⟨_,hnx,?_⟩|refine⟨_,hce 0 _ rfl,?_⟩|fail)
    refine And.intro (fun hx=>absurd hx (by simp [hc1])) (fun _=>?_)
    repeat'((conv=>whnf);first|apply qza|apply qzb|apply qzc|apply qzd|apply qze|intro(_:Nat)|refine⟨_,hce 0 _ rfl,?_⟩|fail)
    refine And.intro (fun hx=>absurd hx (by decide)) (fun _=>?_)
    repeat((conv=>whnf);first|refine qz ?_|intro(_:Nat))
    conv=>whnf
    refine⟨b5,j5,bc,ty5,⟨by first|exact hA|(rw [← hA];rfl)|(rw [← hA,q0A]),p1,p2,p3,p4⟩,?_⟩
    repeat((conv=>whnf);first|refine qz ?_|intro(_:Nat))
    conv=>whnf
    refine fun g6 u6=>?_
    have hFx:=qTA (hk5 g6 u6)
    have hle6:g≤g6:=u6.le hg3 (fun h=>by have:=g.wf _ h;omega)
    have hcw:=u6.rd p2 p4
    rw [← hA] at hcw
    repeat'((conv=>whnf);first|apply qza|apply qzb|apply qzc|apply qzd|apply qze|intro(_:Nat)|refine .inl ⟨_,q2F _ {m with pc:=12} 4 8 _ hvi (hcv0.mono hle6),?_⟩|refine And.intro ?_ ?_|fail)
    all_goals (conv=>whnf)
    all_goals (first|exact Eq.refl _|(
    intro g2 hg
    refine⟨_,_,by rw [hE9]<;>rfl,by rw [hW9];exact qDA _ _ _ _ hg hFx,?_⟩
    rw [hM9]
    exact⟨_,_,_,rfl,{hok with pc:=show InR (12:Int) by decide},hop,qCA _ _ _ _ (GW.trans hle6 hg) hcf⟩))
   ·rw [if_neg hcas] at hW9 hE9
    rw [if_neg hcas] at hM9
    repeat'((conv=>whnf);first|apply qza|apply qzb|apply qzc|apply qzd|apply qze|intro(_:Nat)|refine .inl ⟨_,qeR _ hwu hok.link,?_⟩|refine⟨_,hce 0 _ rfl,?_⟩|fail)
    refine And.intro (fun _=>?_) (fun z=>?_)
    ·repeat'((conv=>whnf);first|apply qza|apply qzb|apply qzc|apply qzd|apply qze|intro(_:Nat)|refine⟨_,hce 0 _ rfl,?_⟩|refine .inl ⟨_,qOQ _ hei.1,?_⟩|refine .inl ⟨_,q2F _ {m with pc:=9} 5 8 _ hvi (hcv0.mono hg3),?_⟩|refine And.intro ?_ ?_|fail)
     all_goals (conv=>whnf)
     all_goals (first|exact Eq.refl _|(
     intro g2 hg
     refine⟨_,_,by rw [hE9]<;>rfl,by rw [hW9];exact qDA _ _ _ _ hg hF,?_⟩
     rw [hM9]
     exact⟨_,_,_,rfl,{hok with pc:=show InR (9:Int) by decide},hop,qCA _ _ _ _ (GW.trans hg3 hg) hcf⟩))
    ·have hc1:en.head=m.word:=by simpa using z
     have hc2:qCB m.link=false:=by
      cases hpb:qCB m.link
      ·rfl
      ·exact absurd (by simp [hc1,hpb]) hcas
     repeat((conv=>whnf);first|refine qz ?_|intro(_:Nat))
     refine And.intro (fun _=>?_) (fun hx=>absurd hx (by simp [hc2]))
     repeat'((conv=>whnf);first|apply qza|apply qzb|apply qzc|apply qzd|apply qze|intro(_:Nat)|refine⟨_,hce 0 _ rfl,?_⟩|refine .inl ⟨_,qOQ _ hei.1,?_⟩|refine .inl ⟨_,q2F _ {m with pc:=9} 5 8 _ hvi (hcv0.mono hg3),?_⟩|refine And.intro ?_ ?_|fail)
     all_goals (conv=>whnf)
     all_goals (first|exact Eq.refl _|(
     intro g2 hg
     refine⟨_,_,by rw [hE9]<;>rfl,by rw [hW9];exact qDA _ _ _ _ hg hF,?_⟩
     rw [hM9]
     exact⟨_,_,_,rfl,{hok with pc:=show InR (9:Int) by decide},hop,qCA _ _ _ _ (GW.trans hg3 hg) hcf⟩))))
/- Requests: the document's step,place 12. -/
open Go.Proofs.YthonngjhelcpeaaGreat.Sx Go.RowKit
theorem qNY (g:GW) {cs ms:List Value} {w:Wd} {m:Mach} (hw:rWo g cs w) (hM:qfA g ms m) (hsn:SnW w) (hb:BgW 1000000 w) (hsz:SmO m) (hgo:hGo w m) (h0:m.pc=12):Ok Tryz.prog qJA [.agg ⟨cs⟩,.agg ⟨ms⟩] g (HaP w m):=by
 obtain⟨hW9,hM9,hE9⟩:=qQB hgo (by omega)
 obtain⟨kW,kM,kE⟩:=ha12 h0
 rw [kW] at hW9
 rw [kM] at hM9
 rw [kE] at hE9
 clear kW kM kE
 have hs:=hgo.1
 obtain⟨v,gr,en,hS⟩:=id (suitB_iff.1 hs)
 obtain⟨oa,ca,ob,cb,oc,cc,od,cd,oe,ce,o1,t1,o2,t2,o3,t3,rfl,rfl,hw0,hM0,⟨i1,i2,i3⟩,hP,hV,hL,hC,hR,⟨a1,a2,a0,hP1⟩,⟨b1,b2,b0,hV1⟩,⟨c1,c2,c0,hL1⟩,⟨d1,d2,d0,hC1⟩,⟨e1,e2,e0,hR1⟩,hok,hop,hcf⟩:=qoB hw hM
 exact Ok.of_fn hm qyD 5 qLA (args:=[.v (.agg ⟨wQ w oa ca ob cb oc cc od cd oe ce⟩),.v (.agg ⟨mQ m o1 t1 o2 t2 o3 t3⟩)]) (by
  repeat((conv=>whnf);first|refine qz ?_|intro(_:Nat))
  conv=>whnf
  refine .inl ⟨_,qmA _ hw0 hM0 hsn hb,?_⟩
  repeat((conv=>whnf);first|refine qz ?_|intro(_:Nat))
  conv=>whnf
  refine⟨fun hx=>absurd (hs.symm.trans (nb1 hx)) (by decide),fun _=>?_⟩
  repeat((conv=>whnf);first|refine qz ?_|intro(_:Nat))
  conv=>whnf
  refine dF (by omega) ?_
  repeat((conv=>whnf);first|refine qz ?_|intro(_:Nat))
  conv=>whnf
  refine dF (by omega) ?_
  repeat((conv=>whnf);first|refine qz ?_|intro(_:Nat))
  conv=>whnf
  refine dF (by omega) ?_
  repeat((conv=>whnf);first|refine qz ?_|intro(_:Nat))
  conv=>whnf
  refine⟨fun _=>?_,fun _=>?_⟩
  case' refine_1 =>
   repeat((conv=>whnf);first|refine qz ?_|intro(_:Nat))
   conv=>whnf
   refine⟨fun hx=>absurd hx (by simp [h0]),fun _=>?_⟩
   repeat((conv=>whnf);first|refine qz ?_|intro(_:Nat))
   conv=>whnf
   refine⟨fun hx=>absurd hx (by simp [h0]),fun _=>?_⟩
   repeat((conv=>whnf);first|refine qz ?_|intro(_:Nat))
   conv=>whnf
   refine⟨fun hx=>absurd hx (by simp [h0]),fun _=>?_⟩
  all_goals (
   repeat((conv=>whnf);first|refine qz ?_|intro(_:Nat))
   conv=>whnf
   refine dF (by omega) ?_
   repeat((conv=>whnf);first|refine qz ?_|intro(_:Nat))
   refine .inr ((qzA _ hw0 hb).mono fun v g3 hg3 hO=>?_)
   obtain⟨cs,T,rfl,hT⟩:=hO
   have hF:=qTA hT
   obtain⟨oa',ca',ob',cb',oc',cc',od',cd',oe',ce',rfl⟩:=qMA hF
   repeat((conv=>whnf);first|refine qz ?_|intro(_:Nat))
   conv=>whnf
   refine dF (by omega) ?_
   repeat((conv=>whnf);first|refine qz ?_|intro(_:Nat))
   conv=>whnf
   refine dF (by omega) ?_
   repeat((conv=>whnf);first|refine qz ?_|intro(_:Nat))
   conv=>whnf
   refine dT (by omega) ?_
   repeat((conv=>whnf);first|refine qz ?_|intro(_:Nat))
   obtain⟨av0,rfl⟩:=qGA hV hS.ver.2
   obtain⟨oL0,cL0,oR0,cR0,oC0,cC0,oG0,cG0,hcv0,hsn0,hcK0,hcG0⟩:=qrC hV hS.ver.2
   obtain⟨ag0,rfl⟩:=qGA hcG0 hS.clu.2
   obtain⟨oE0,cE0,hcg0,htk0,hcE0⟩:=q5C hcG0 hS.clu.2
   obtain⟨ae0,rfl⟩:=qGA hcE0 hS.end_.2
   obtain⟨oN0,cN0,hce0,hei0,hcN0⟩:=qmC hcE0 hS.end_.2
   obtain⟨b1,k1,b2,k2,va,vb,vd,vn,T2,hq,hcv,hcg,htk,hE2,hPT,hPK⟩:=qXM hT hS.ver.2 hS.clu.2
   cases hq
   have hei:=(qGP hF hS.ver.2 hS.clu.2 hS.end_.2).1
   obtain⟨b3,k3,nn,T3,hqn,hce,hN,hPE⟩:=qVF hE2 hS.end_.2 (en':={en with active:=wI (en.active+1)}) (o:=2) (vs:=[.int .i64 (wI (en.active+1))]) (by simp) (by simp [Value.oneCell']) (fun n=>rfl) rfl ⟨hei.1,q4G _⟩
   subst hqn
   obtain⟨b5,j5,bc,ty5,⟨hA,p1,p2,p3,p4⟩,_,hk5⟩:=hPK _ _ _ hPE
   obtain⟨hvi,hgi,hki⟩:=hS.idx
   obtain⟨hmV,hmG,hmE⟩:=hS.at_
   rw [hmE] at hW9 hE9
   simp only [setE,hmV,hmG] at hW9
   simp only [evV,hmV] at hE9
   repeat'((conv=>whnf);first|apply qza|apply qzb|apply qzc|apply qzd|apply qze|intro(_:Nat)|refine⟨_,rfl,hvi,?_⟩|refine⟨_,hcv 3 _ rfl,?_⟩|refine⟨_,rfl,hgi,?_⟩|refine⟨_,hcg 1 _ rfl,?_⟩|refine⟨_,rfl,hki,?_⟩|fail)
   repeat((conv=>whnf);first|refine qz ?_|intro(_:Nat))
   conv=>whnf
   refine⟨fun hx=>absurd hx (by simp [h0]),fun _=>?_⟩
   repeat((conv=>whnf);first|refine qz ?_|intro(_:Nat))
   conv=>whnf
   refine⟨fun hx=>absurd hx (by simp [h0]),fun _=>?_⟩
   repeat((conv=>whnf);first|refine qz ?_|intro(_:Nat))
   conv=>whnf
   refine⟨fun hx=>absurd hx (by simp [h0]),fun _=>?_⟩
   repeat((conv=>whnf);first|refine qz ?_|intro(_:Nat))
   repeat'((conv=>whnf);first|apply qza|apply qzb|apply qzc|apply qzd|apply qze|intro(_:Nat)|refine⟨_,hce 2 _ rfl,?_⟩|refine And.intro ?_ ?_|fail)
   conv=>whnf
   refine⟨b5,j5,bc,ty5,⟨by first|exact hA|(rw [← hA];rfl)|(rw [← hA,q0A]),p1,p2,p3,p4⟩,?_⟩
   repeat((conv=>whnf);first|refine qz ?_|intro(_:Nat))
   conv=>whnf
   refine fun g6 u6=>?_
   have hFx:=qTA (hk5 g6 u6)
   have hle6:g≤g6:=u6.le hg3 (fun h=>by have:=g.wf _ h;omega)
   have hcw:=u6.rd p2 p4
   rw [← hA] at hcw
   repeat'((conv=>whnf);first|apply qza|apply qzb|apply qzc|apply qzd|apply qze|intro(_:Nat)|refine⟨_,hcw 0 _ rfl,?_⟩|refine .inl ⟨_,q2F _ {m with answer:=⟨1,m.version,m.cluster,m.end_,m.slot,m.listen,0,c60⟩,pc:=20} 3 7 _ hvi (hcv0.mono hle6),?_⟩|refine And.intro ?_ ?_|fail)
   all_goals (conv=>whnf)
   all_goals (first|exact Eq.refl _|(
   intro g2 hg
   refine⟨_,_,by rw [hE9]<;>rfl,by rw [hW9];exact qDA _ _ _ _ hg hFx,?_⟩
   rw [hM9]
   exact⟨_,_,_,rfl,{hok with pc:=show InR (20:Int) by decide,answer:=⟨z1,hok.version,hok.cluster,hok.end_,hok.slot,hok.listen,z0,qPS⟩},hop,qCA _ _ _ _ (GW.trans hle6 hg) hcf⟩))))
/- Requests: the document's step,place 20. -/
open Go.Proofs.YthonngjhelcpeaaGreat.Sx Go.RowKit
theorem qMY (g:GW) {cs ms:List Value} {w:Wd} {m:Mach} (hw:rWo g cs w) (hM:qfA g ms m) (hsn:SnW w) (hb:BgW 1000000 w) (hsz:SmO m) (hgo:hGo w m) (h0:m.pc=20):Ok Tryz.prog qJA [.agg ⟨cs⟩,.agg ⟨ms⟩] g (HaP w m):=by
 obtain⟨hW9,hM9,hE9⟩:=qQB hgo (by omega)
 obtain⟨kW,kM,kE⟩:=ha20 h0
 rw [kW] at hW9
 rw [kM] at hM9
 rw [kE] at hE9
 clear kW kM kE
 have hs:=hgo.1
 obtain⟨v,gr,en,hS⟩:=id (suitB_iff.1 hs)
 obtain⟨oa,ca,ob,cb,oc,cc,od,cd,oe,ce,o1,t1,o2,t2,o3,t3,rfl,rfl,hw0,hM0,⟨i1,i2,i3⟩,hP,hV,hL,hC,hR,⟨a1,a2,a0,hP1⟩,⟨b1,b2,b0,hV1⟩,⟨c1,c2,c0,hL1⟩,⟨d1,d2,d0,hC1⟩,⟨e1,e2,e0,hR1⟩,hok,hop,hcf⟩:=qoB hw hM
 exact Ok.of_fn hm qyD 5 qLA (args:=[.v (.agg ⟨wQ w oa ca ob cb oc cc od cd oe ce⟩),.v (.agg ⟨mQ m o1 t1 o2 t2 o3 t3⟩)]) (by
  repeat((conv=>whnf);first|refine qz ?_|intro(_:Nat))
  conv=>whnf
  refine .inl ⟨_,qmA _ hw0 hM0 hsn hb,?_⟩
  repeat((conv=>whnf);first|refine qz ?_|intro(_:Nat))
  conv=>whnf
  refine⟨fun hx=>absurd (hs.symm.trans (nb1 hx)) (by decide),fun _=>?_⟩
  repeat((conv=>whnf);first|refine qz ?_|intro(_:Nat))
  conv=>whnf
  refine dF (by omega) ?_
  repeat((conv=>whnf);first|refine qz ?_|intro(_:Nat))
  conv=>whnf
  refine dF (by omega) ?_
  repeat((conv=>whnf);first|refine qz ?_|intro(_:Nat))
  conv=>whnf
  refine dT (by omega) ?_
  repeat((conv=>whnf);first|refine qz ?_|intro(_:Nat))
  conv=>whnf
  refine dF (by omega) ?_
  repeat((conv=>whnf);first|refine qz ?_|intro(_:Nat))
  conv=>whnf
  refine⟨fun _=>?_,fun _=>?_⟩
  case' refine_1 =>
   repeat((conv=>whnf);first|refine qz ?_|intro(_:Nat))
   conv=>whnf
   refine⟨fun hx=>absurd hx (by simp [h0]),fun _=>?_⟩
   repeat((conv=>whnf);first|refine qz ?_|intro(_:Nat))
   conv=>whnf
   refine⟨fun hx=>absurd hx (by simp [h0]),fun _=>?_⟩
   repeat((conv=>whnf);first|refine qz ?_|intro(_:Nat))
   conv=>whnf
   refine⟨fun hx=>absurd hx (by simp [h0]),fun _=>?_⟩
  all_goals (
   repeat((conv=>whnf);first|refine qz ?_|intro(_:Nat))
   conv=>whnf
   refine dF (by omega) ?_
   repeat((conv=>whnf);first|refine qz ?_|intro(_:Nat))
   refine .inr ((qzA _ hw0 hb).mono fun v g3 hg3 hO=>?_)
   obtain⟨cs,T,rfl,hT⟩:=hO
   have hF:=qTA hT
   obtain⟨oa',ca',ob',cb',oc',cc',od',cd',oe',ce',rfl⟩:=qMA hF
   repeat((conv=>whnf);first|refine qz ?_|intro(_:Nat))
   conv=>whnf
   refine dF (by omega) ?_
   repeat((conv=>whnf);first|refine qz ?_|intro(_:Nat))
   conv=>whnf
   refine dF (by omega) ?_
   repeat((conv=>whnf);first|refine qz ?_|intro(_:Nat))
   conv=>whnf
   refine dF (by omega) ?_
   repeat((conv=>whnf);first|refine qz ?_|intro(_:Nat))
   conv=>whnf
   refine⟨fun _=>?_,fun hx=>absurd hx (by simp [h0])⟩
   repeat((conv=>whnf);first|refine qz ?_|intro(_:Nat))
   have hkI:0≤qaF m∧qaF m≤5:=by unfold qaF;split<;>omega
   obtain⟨row,hrow,hrl⟩:=hS.row
   obtain⟨y,hy⟩:=qAA (l:=row) (i:=(qaF m).toNat) (by omega)
   have hcn:cnt w m.thread (qaF m)=y:=by unfold cnt;rw [hrow,Option.getD_some,hy];rfl
   have hro:(w.counts[m.thread.toNat]?).getD []=row:=by rw [hrow];rfl
   simp only [addCnt,hcn,hro] at hW9
   obtain⟨b1,k1,b2,k2,hq,hcr,hcy,b5,j5,bc,ty5,⟨hA,p1,p2,p3,p4⟩,_,hk5⟩:=qTF hT hrow hy (q9Q (y+1))
   cases hq
   have hth:=hS.thread
   have hti:0≤m.thread∧m.thread<w.counts.length:=⟨hth.1,by have:=(List.getElem?_eq_some_iff.1 hrow).1;omega⟩
   have hyi:0≤qaF m∧qaF m<(row.length:Nat):=by omega
   repeat'((conv=>whnf);first|apply qza|apply qzb|apply qzc|apply qzd|apply qze|intro(_:Nat)|refine⟨_,rfl,hti,?_⟩|refine⟨_,hcr 0 _ rfl,?_⟩|refine⟨_,rfl,hyi,?_⟩|refine⟨_,hcy 0 _ rfl,?_⟩|refine .inl ⟨_,qvW _ m,?_⟩|refine And.intro ?_ ?_|fail)
   conv=>whnf
   refine⟨b5,j5,bc,ty5,⟨by first|exact hA|(rw [← hA];rfl)|(rw [← hA,q0A]),p1,p2,p3,p4⟩,?_⟩
   repeat((conv=>whnf);first|refine qz ?_|intro(_:Nat))
   conv=>whnf
   refine fun g6 u6=>?_
   have hFx:=qTA (hk5 g6 u6)
   have hle6:g≤g6:=u6.le hg3 (fun h=>by have:=g.wf _ h;omega)
   have hcw:=u6.rd p2 p4
   rw [← hA] at hcw
   repeat'((conv=>whnf);first|apply qza|apply qzb|apply qzc|apply qzd|apply qze|intro(_:Nat)|refine .inl ⟨_,qwC _ {m with pc:=21} 3 10 _,?_⟩|refine And.intro ?_ ?_|fail)
   all_goals (conv=>whnf)
   all_goals (first|exact Eq.refl _|(
   intro g2 hg
   refine⟨_,_,by rw [hE9]<;>rfl,by rw [hW9];exact qDA _ _ _ _ hg hFx,?_⟩
   rw [hM9]
   exact⟨_,_,_,rfl,{hok with pc:=show InR (21:Int) by decide},hop,qCA _ _ _ _ (GW.trans hle6 hg) hcf⟩))))
/- Requests: the document's step,place 21. -/
open Go.Proofs.YthonngjhelcpeaaGreat.Sx Go.RowKit
theorem qLY (g:GW) {cs ms:List Value} {w:Wd} {m:Mach} (hw:rWo g cs w) (hM:qfA g ms m) (hsn:SnW w) (hb:BgW 1000000 w) (hsz:SmO m) (hgo:hGo w m) (h0:m.pc=21):Ok Tryz.prog qJA [.agg ⟨cs⟩,.agg ⟨ms⟩] g (HaP w m):=by
 obtain⟨hW9,hM9,hE9⟩:=qQB hgo (by omega)
 obtain⟨kW,kM,kE⟩:=ha21 h0
 rw [kW] at hW9
 rw [kM] at hM9
 rw [kE] at hE9
 clear kW kM kE
 have hs:=hgo.1
 obtain⟨v,gr,en,hS⟩:=id (suitB_iff.1 hs)
 obtain⟨oa,ca,ob,cb,oc,cc,od,cd,oe,ce,o1,t1,o2,t2,o3,t3,rfl,rfl,hw0,hM0,⟨i1,i2,i3⟩,hP,hV,hL,hC,hR,⟨a1,a2,a0,hP1⟩,⟨b1,b2,b0,hV1⟩,⟨c1,c2,c0,hL1⟩,⟨d1,d2,d0,hC1⟩,⟨e1,e2,e0,hR1⟩,hok,hop,hcf⟩:=qoB hw hM
 exact Ok.of_fn hm qyD 5 qLA (args:=[.v (.agg ⟨wQ w oa ca ob cb oc cc od cd oe ce⟩),.v (.agg ⟨mQ m o1 t1 o2 t2 o3 t3⟩)]) (by
  repeat((conv=>whnf);first|refine qz ?_|intro(_:Nat))
  conv=>whnf
  refine .inl ⟨_,qmA _ hw0 hM0 hsn hb,?_⟩
  repeat((conv=>whnf);first|refine qz ?_|intro(_:Nat))
  conv=>whnf
  refine⟨fun hx=>absurd (hs.symm.trans (nb1 hx)) (by decide),fun _=>?_⟩
  repeat((conv=>whnf);first|refine qz ?_|intro(_:Nat))
  conv=>whnf
  refine dF (by omega) ?_
  repeat((conv=>whnf);first|refine qz ?_|intro(_:Nat))
  conv=>whnf
  refine dF (by omega) ?_
  repeat((conv=>whnf);first|refine qz ?_|intro(_:Nat))
  conv=>whnf
  refine dT (by omega) ?_
  repeat((conv=>whnf);first|refine qz ?_|intro(_:Nat))
  conv=>whnf
  refine dF (by omega) ?_
  repeat((conv=>whnf);first|refine qz ?_|intro(_:Nat))
  conv=>whnf
  refine⟨fun _=>?_,fun _=>?_⟩
  case' refine_1 =>
   repeat((conv=>whnf);first|refine qz ?_|intro(_:Nat))
   conv=>whnf
   refine⟨fun hx=>absurd hx (by simp [h0]),fun _=>?_⟩
   repeat((conv=>whnf);first|refine qz ?_|intro(_:Nat))
   conv=>whnf
   refine⟨fun hx=>absurd hx (by simp [h0]),fun _=>?_⟩
   repeat((conv=>whnf);first|refine qz ?_|intro(_:Nat))
   conv=>whnf
   refine⟨fun hx=>absurd hx (by simp [h0]),fun _=>?_⟩
  all_goals (
   repeat((conv=>whnf);first|refine qz ?_|intro(_:Nat))
   conv=>whnf
   refine dF (by omega) ?_
   repeat((conv=>whnf);first|refine qz ?_|intro(_:Nat))
   refine .inr ((qzA _ hw0 hb).mono fun v g3 hg3 hO=>?_)
   obtain⟨cs,T,rfl,hT⟩:=hO
   have hF:=qTA hT
   obtain⟨oa',ca',ob',cb',oc',cc',od',cd',oe',ce',rfl⟩:=qMA hF
   repeat((conv=>whnf);first|refine qz ?_|intro(_:Nat))
   conv=>whnf
   refine dF (by omega) ?_
   repeat((conv=>whnf);first|refine qz ?_|intro(_:Nat))
   conv=>whnf
   refine dF (by omega) ?_
   repeat((conv=>whnf);first|refine qz ?_|intro(_:Nat))
   conv=>whnf
   refine dF (by omega) ?_
   repeat((conv=>whnf);first|refine qz ?_|intro(_:Nat))
   conv=>whnf
   refine⟨fun hx=>absurd hx (by simp [h0]),fun _=>?_⟩
   repeat((conv=>whnf);first|refine qz ?_|intro(_:Nat))
   conv=>whnf
   refine⟨fun _=>?_,fun hx=>absurd hx (by simp [h0])⟩
   repeat((conv=>whnf);first|refine qz ?_|intro(_:Nat))
   obtain⟨row,hrow,hrl⟩:=hS.row
   obtain⟨y,hy⟩:=qAA (l:=row) (i:=(0:Int).toNat) (by omega)
   have hcn:cnt w m.thread (0:Int)=y:=by unfold cnt;rw [hrow,Option.getD_some,hy];rfl
   have hro:(w.counts[m.thread.toNat]?).getD []=row:=by rw [hrow];rfl
   simp only [addCnt,hcn,hro] at hW9
   obtain⟨b1,k1,b2,k2,hq,hcr,hcy,b5,j5,bc,ty5,⟨hA,p1,p2,p3,p4⟩,_,hk5⟩:=qTF hT hrow hy (q9Q (y+1))
   cases hq
   have hth:=hS.thread
   have hti:0≤m.thread∧m.thread<w.counts.length:=⟨hth.1,by have:=(List.getElem?_eq_some_iff.1 hrow).1;omega⟩
   have hyi:0≤(0:Int)∧(0:Int)<(row.length:Nat):=by omega
   repeat'((conv=>whnf);first|apply qza|apply qzb|apply qzc|apply qzd|apply qze|intro(_:Nat)|refine⟨_,rfl,hti,?_⟩|refine⟨_,hcr 0 _ rfl,?_⟩|refine⟨_,rfl,hyi,?_⟩|refine⟨_,hcy 0 _ rfl,?_⟩|refine And.intro ?_ ?_|fail)
   conv=>whnf
   refine⟨b5,j5,bc,ty5,⟨by first|exact hA|(rw [← hA];rfl)|(rw [← hA,q0A]),p1,p2,p3,p4⟩,?_⟩
   repeat((conv=>whnf);first|refine qz ?_|intro(_:Nat))
   conv=>whnf
   refine fun g6 u6=>?_
   have hFx:=qTA (hk5 g6 u6)
   have hle6:g≤g6:=u6.le hg3 (fun h=>by have:=g.wf _ h;omega)
   have hcw:=u6.rd p2 p4
   rw [← hA] at hcw
   repeat((conv=>whnf);first|refine qz ?_|intro(_:Nat))
   refine And.intro (fun z=>?_) (fun z=>?_)
   ·have z:=beqT z
    rw [if_pos (.inl z)] at hM9
    repeat'((conv=>whnf);first|apply qza|apply qzb|apply qzc|apply qzd|apply qze|intro(_:Nat)|refine .inl ⟨_,qwC _ {m with pc:=23} 3 10 _,?_⟩|refine And.intro ?_ ?_|fail)
    all_goals (conv=>whnf)
    all_goals (first|exact Eq.refl _|(
    intro g2 hg
    refine⟨_,_,by rw [hE9]<;>rfl,by rw [hW9];exact qDA _ _ _ _ hg hFx,?_⟩
    rw [hM9]
    exact⟨_,_,_,rfl,{hok with pc:=show InR (23:Int) by decide},hop,qCA _ _ _ _ (GW.trans hle6 hg) hcf⟩))
   ·have z:=beqF z
    repeat((conv=>whnf);first|refine qz ?_|intro(_:Nat))
    refine And.intro (fun z2=>?_) (fun z2=>?_)
    ·have z2:=of_decide_eq_true z2
     rw [if_pos (.inr z2)] at hM9
     repeat'((conv=>whnf);first|apply qza|apply qzb|apply qzc|apply qzd|apply qze|intro(_:Nat)|refine .inl ⟨_,qwC _ {m with pc:=23} 3 10 _,?_⟩|refine And.intro ?_ ?_|fail)
     all_goals (conv=>whnf)
     all_goals (first|exact Eq.refl _|(
     intro g2 hg
     refine⟨_,_,by rw [hE9]<;>rfl,by rw [hW9];exact qDA _ _ _ _ hg hFx,?_⟩
     rw [hM9]
     exact⟨_,_,_,rfl,{hok with pc:=show InR (23:Int) by decide},hop,qCA _ _ _ _ (GW.trans hle6 hg) hcf⟩))
    ·have z2:=of_decide_eq_false z2
     rw [if_neg (by omega)] at hM9
     repeat'((conv=>whnf);first|apply qza|apply qzb|apply qzc|apply qzd|apply qze|intro(_:Nat)|refine .inl ⟨_,qwC _ {m with pc:=22} 3 10 _,?_⟩|refine And.intro ?_ ?_|fail)
     all_goals (conv=>whnf)
     all_goals (first|exact Eq.refl _|(
     intro g2 hg
     refine⟨_,_,by rw [hE9]<;>rfl,by rw [hW9];exact qDA _ _ _ _ hg hFx,?_⟩
     rw [hM9]
     exact⟨_,_,_,rfl,{hok with pc:=show InR (22:Int) by decide},hop,qCA _ _ _ _ (GW.trans hle6 hg) hcf⟩))))
end Go.Proofs.YthonngjhelcpeaaGreat
