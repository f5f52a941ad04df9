/- Collectors: the program's step, place 4. -/
import Derived.Test.YtkbbljngpglnkaaLW9k
set_option linter.unusedVariables false
set_option linter.unusedSimpArgs false
namespace Go.Proofs.Ytkbbljngpglnkaa
open Go.Proofs.Ytkbbljngpglnkaa.Sx Go.RowKit
set_option maxHeartbeats 16000000
set_option maxRecDepth 100000
theorem q4Q (g:GW) {cs ms:List Value} {w:Wd} {m:Mach} (hw:rWo g cs w) (hM:qnC g ms m) (hsn:SnW w) (hb:BgW 1000000 w) (hgo:cGo w m) (h0:m.pc=4):Ok Try.prog qKA [.agg ⟨cs⟩,.agg ⟨ms⟩] g (CoP w m):=by
 obtain⟨hW9,hM9,hE9⟩:=qXI hgo
 have hs:=hgo.1
 have hmay:=qDE hgo.2.1
 obtain⟨v,gr,en,hS⟩:=id (suitB_iff.1 hs)
 obtain⟨oa,ca,ob,cb,oc,cc,od,cd,oe,ce,o1,t1,o2,t2,o3,t3,rfl,rfl,hw0,hM0,⟨i1,i2,i3⟩,hP,hV,hL,hC,hR,⟨a1,a2,a0,hP1⟩,⟨b1,b2,b0,hV1⟩,⟨c1,c2,c0,hL1⟩,⟨d1,d2,d0,hC1⟩,⟨e1,e2,e0,hR1⟩,hok,hop,hcf⟩:=qRH hw hM
 obtain⟨mop,mth,mpc,mep,mve,mli,mcl,men,mot,msl,mwo,mlk,mi,mk,msu,mdo,man,mco⟩:=m
 simp only at h0
 subst h0
 obtain⟨kW,kM,kE⟩:=cb4 (w:=w) (m:=⟨mop,mth,4,mep,mve,mli,mcl,men,mot,msl,mwo,mlk,mi,mk,msu,mdo,man,mco⟩) rfl
 rw [kW] at hW9
 rw [kM] at hM9
 rw [kE] at hE9
 clear kW kM kE
 exact Ok.of_fn hm qiE 5 qMA (args:=[.v (.agg ⟨wQ w oa ca ob cb oc cc od cd oe ce⟩),.v (.agg ⟨Mach.cs (.slice o1 mop.config.listens.length t1) (.slice o2 mop.config.routes.length t2) (.slice o3 mop.config.clusters.length t3) ⟨mop,mth,4,mep,mve,mli,mcl,men,mot,msl,mwo,mlk,mi,mk,msu,mdo,man,mco⟩⟩)]) (by
  repeat((conv=>whnf);first|apply qza|apply qzb|apply qzc|apply qzd|apply qze|intro(_:Nat))
  conv=>whnf
  refine .inl ⟨_,qVB _ hw0 hM0 hsn hb,?_⟩
  repeat((conv=>whnf);first|apply qza|apply qzb|apply qzc|apply qzd|apply qze|intro(_:Nat))
  conv=>whnf
  refine⟨fun hx=>absurd (hs.symm.trans (nb1 hx)) (by decide),fun _=>?_⟩
  repeat((conv=>whnf);first|apply qza|apply qzb|apply qzc|apply qzd|apply qze|intro(_:Nat))
  conv=>whnf
  refine .inl ⟨_,qkE _ hw0 hM0 hs hb,?_⟩
  repeat((conv=>whnf);first|apply qza|apply qzb|apply qzc|apply qzd|apply qze|intro(_:Nat))
  conv=>whnf
  refine⟨fun hx=>absurd (hmay.symm.trans (nb1 hx)) (by decide),fun _=>?_⟩
  repeat((conv=>whnf);first|apply qza|apply qzb|apply qzc|apply qzd|apply qze|intro(_:Nat))
  refine .inr ((qLC _ hw0 hb).mono fun v g3 hg3 hO=>?_)
  obtain⟨cs,T,rfl,hT⟩:=hO
  have hF:=qAE hT
  obtain⟨oa',ca',ob',cb',oc',cc',od',cd',oe',ce',rfl⟩:=qfA hF
  repeat((conv=>whnf);first|apply qza|apply qzb|apply qzc|apply qzd|apply qze|intro(_:Nat))
  rename_i q7 q8 qx qm
  conv=>whnf
  refine⟨some (.func (.func qsB) ⟨[xC q7 q8]⟩ ⟨[]⟩),rfl,?_⟩
  conv=>whnf
  refine⟨fun h=>(nomatch h),fun _=>?_⟩
  repeat((conv=>whnf);first|apply qza|apply qzb|apply qzc|apply qzd|apply qze|intro(_:Nat))
  conv=>whnf
  refine⟨qqD,[.agg [.p 5 q7 0,.p 6 q8 0]],[],⟨rfl,rfl⟩,?_⟩
  have hi0:0≤mi:=hS.i
  have hll:=hb.1.2.2.1
  have hrl:=hb.1.2.2.2.2
  repeat((conv=>whnf);first|apply qza|apply qzb|apply qzc|apply qzd|apply qze|intro(_:Nat))
  refine And.intro (fun y=>?_) (fun y=>?_)
  ·have y:(w.limbo.length:Int)≤mi:=of_decide_eq_true y
   rw [if_pos y] at hW9 hM9 hE9
   repeat((conv=>whnf);first|apply qza|apply qzb|apply qzc|apply qzd|apply qze|intro(_:Nat))
   refine And.intro (fun z=>?_) (fun z=>?_)
   ·have z:(w.listens.length:Int)≤0:=of_decide_eq_true z
    simp only [cdW,cdM,cdE] at hW9 hM9 hE9
    rw [if_pos z] at hW9 hM9 hE9
    have hF1:=qbH hF (x:=0) (by decide)
    repeat'((conv=>whnf);first|apply qza|apply qzb|apply qzc|apply qzd|apply qze|intro(_:Nat)|refine⟨_,fun gp hle hin=>qGA gp (hin.cel (id:=6) rfl 10 rfl),?_⟩|refine And.intro ?_ ?_|fail)
    all_goals (conv=>whnf)
    all_goals (first|exact Eq.refl _|(
     intro g2 hg
     refine⟨_,_,by rw [hE9]<;>rfl,by rw [hW9];exact qHA _ _ _ _ hg hF1,?_⟩
     rw [hM9]
     exact⟨_,_,_,rfl,{hok with i:=z0,pc:=show InR (8:Int) by decide,answer:=qjO hok.answer},hop,qCA _ _ _ _ (GW.trans hg3 hg) hcf⟩))
   ·have z:¬ (w.listens.length:Int)≤0:=of_decide_eq_false z
    simp only [cdW,cdM,cdE] at hW9 hM9 hE9
    rw [if_neg z] at hW9 hM9 hE9
    obtain⟨x,hx⟩:=qDA (l:=w.listens) (i:=(0:Int).toNat) (by omega)
    rw [qJI hx] at hM9 hE9
    have hFl:=qkL hF
    obtain⟨al,rfl⟩:=qUB hFl hx
    obtain⟨hxa,hcl⟩:=qdM hFl hx
    obtain⟨xn,xd,xa,xc⟩:=x
    have hw1:(0:Int)+1=IntKind.i64.wrap (0+1):=by rw [IntKind.wrap_i64];omega
    have hj0:0≤(0:Int):=by omega
    have hj1:(0:Int)<w.listens.length:=by omega
    cases xd<;>cases xc
    ·simp only [Bool.false_eq_true,reduceIte,false_and,true_and,and_false,and_true,reduceCtorEq] at hW9 hM9 hE9
     rw [hw1] at hM9
     repeat'((conv=>whnf);first|apply qza|apply qzb|apply qzc|apply qzd|apply qze|intro(_:Nat)|refine⟨_,rfl,⟨hj0,hj1⟩,?_⟩|refine⟨_,⟨rfl,hcl⟩,?_⟩|refine⟨_,fun gp hle hin=>qGA gp (hin.cel (id:=6) rfl 10 rfl),?_⟩|refine⟨fun _=>?_,fun h=>absurd h.symm Bool.false_ne_true⟩|refine⟨fun h=>absurd h Bool.false_ne_true,fun _=>?_⟩|refine And.intro ?_ ?_|fail)
     all_goals (conv=>whnf)
     all_goals (first|exact Eq.refl _|(
      intro g2 hg
      refine⟨_,_,by rw [hE9]<;>rfl,by rw [hW9];exact qHA _ _ _ _ hg hF,?_⟩
      rw [hM9]
      exact⟨_,_,_,rfl,{hok with pc:=show InR (8:Int) by decide,i:=show InR (1:Int) by decide},hop,qCA _ _ _ _ (GW.trans hg3 hg) hcf⟩))
    ·simp only [Bool.false_eq_true,reduceIte,false_and,true_and,and_false,and_true,reduceCtorEq] at hW9 hM9 hE9
     rw [hw1] at hM9
     repeat'((conv=>whnf);first|apply qza|apply qzb|apply qzc|apply qzd|apply qze|intro(_:Nat)|refine⟨_,rfl,⟨hj0,hj1⟩,?_⟩|refine⟨_,⟨rfl,hcl⟩,?_⟩|refine⟨_,fun gp hle hin=>qGA gp (hin.cel (id:=6) rfl 10 rfl),?_⟩|refine⟨fun _=>?_,fun h=>absurd h.symm Bool.false_ne_true⟩|refine⟨fun h=>absurd h Bool.false_ne_true,fun _=>?_⟩|refine And.intro ?_ ?_|fail)
     all_goals (conv=>whnf)
     all_goals (first|exact Eq.refl _|(
      intro g2 hg
      refine⟨_,_,by rw [hE9]<;>rfl,by rw [hW9];exact qHA _ _ _ _ hg hF,?_⟩
      rw [hM9]
      exact⟨_,_,_,rfl,{hok with pc:=show InR (8:Int) by decide,i:=show InR (1:Int) by decide},hop,qCA _ _ _ _ (GW.trans hg3 hg) hcf⟩))
    ·simp only [Bool.false_eq_true,reduceIte,false_and,true_and,and_false,and_true,reduceCtorEq] at hW9 hM9 hE9
     repeat'((conv=>whnf);first|apply qza|apply qzb|apply qzc|apply qzd|apply qze|intro(_:Nat)|refine⟨_,rfl,⟨hj0,hj1⟩,?_⟩|refine⟨_,⟨rfl,hcl⟩,?_⟩|refine⟨_,fun gp hle hin=>qGA gp (hin.cel (id:=6) rfl 10 rfl),?_⟩|refine⟨fun _=>?_,fun h=>absurd h.symm Bool.false_ne_true⟩|refine⟨fun h=>absurd h Bool.false_ne_true,fun _=>?_⟩|refine And.intro ?_ ?_|fail)
     all_goals (conv=>whnf)
     all_goals (first|exact Eq.refl _|(
      intro g2 hg
      refine⟨_,_,by rw [hE9]<;>rfl,by rw [hW9];exact qHA _ _ _ _ hg hF,?_⟩
      rw [hM9]
      exact⟨_,_,_,rfl,{hok with i:=z0,pc:=show InR (9:Int) by decide},hop,qCA _ _ _ _ (GW.trans hg3 hg) hcf⟩))
    ·simp only [Bool.false_eq_true,reduceIte,false_and,true_and,and_false,and_true,reduceCtorEq] at hW9 hM9 hE9
     rw [hw1] at hM9
     repeat'((conv=>whnf);first|apply qza|apply qzb|apply qzc|apply qzd|apply qze|intro(_:Nat)|refine⟨_,rfl,⟨hj0,hj1⟩,?_⟩|refine⟨_,⟨rfl,hcl⟩,?_⟩|refine⟨_,fun gp hle hin=>qGA gp (hin.cel (id:=6) rfl 10 rfl),?_⟩|refine⟨fun _=>?_,fun h=>absurd h.symm Bool.false_ne_true⟩|refine⟨fun h=>absurd h Bool.false_ne_true,fun _=>?_⟩|refine And.intro ?_ ?_|fail)
     all_goals (conv=>whnf)
     all_goals (first|exact Eq.refl _|(
      intro g2 hg
      refine⟨_,_,by rw [hE9]<;>rfl,by rw [hW9];exact qHA _ _ _ _ hg hF,?_⟩
      rw [hM9]
      exact⟨_,_,_,rfl,{hok with pc:=show InR (8:Int) by decide,i:=show InR (1:Int) by decide},hop,qCA _ _ _ _ (GW.trans hg3 hg) hcf⟩))
  ·have y:¬ (w.limbo.length:Int)≤mi:=of_decide_eq_false y
   rw [if_neg y] at hW9 hM9 hE9
   obtain⟨x,hx⟩:=qDA (l:=w.limbo) (i:=mi.toNat) (by omega)
   rw [qNH hx] at hM9 hE9
   have hFr:=q3P hF
   obtain⟨ar,rfl⟩:=qUB hFr hx
   obtain⟨⟨hxv,hxt⟩,hcr⟩:=qhP hFr hx
   obtain⟨xv,xt,xg⟩:=x
   have hj0:0≤mi:=by omega
   have hj1:mi<w.limbo.length:=by omega
   have hw1:mi+1=IntKind.i64.wrap (mi+1):=by rw [IntKind.wrap_i64];omega
   cases xg
   ·by_cases hs:qUK xt mep
    ·rw [if_neg (fun h=>h.elim (fun h=>absurd h Bool.false_ne_true) fun h=>h hs)] at hM9
     repeat'((conv=>whnf);first|apply qza|apply qzb|apply qzc|apply qzd|apply qze|intro(_:Nat)|refine⟨_,rfl,⟨hj0,hj1⟩,?_⟩|refine⟨_,⟨rfl,hcr⟩,?_⟩|refine .inl ⟨_,(qEO _ hxt).to (congrArg Value.bool (decide_eq_true hs)),?_⟩|refine⟨_,fun gp hle hin=>qGA gp (hin.cel (id:=6) rfl 10 rfl),?_⟩|refine⟨fun _=>?_,fun h=>absurd h.symm Bool.false_ne_true⟩|refine⟨fun h=>absurd h Bool.false_ne_true,fun _=>?_⟩|refine And.intro ?_ ?_|fail)
     all_goals (conv=>whnf)
     all_goals (first|exact Eq.refl _|(
      intro g2 hg
      refine⟨_,_,by rw [hE9]<;>rfl,by rw [hW9];exact qHA _ _ _ _ hg hF,?_⟩
      rw [hM9]
      exact⟨_,_,_,rfl,{hok with version:=hxv,cluster:=z0,end_:=z0,other:=z0,slot:=z0,k:=z0,pc:=show InR (5:Int) by decide},hop,qCA _ _ _ _ (GW.trans hg3 hg) hcf⟩))
    ·rw [if_pos (.inr hs)] at hM9
     simp only at hM9
     rw [hw1] at hM9
     repeat'((conv=>whnf);first|apply qza|apply qzb|apply qzc|apply qzd|apply qze|intro(_:Nat)|refine⟨_,rfl,⟨hj0,hj1⟩,?_⟩|refine⟨_,⟨rfl,hcr⟩,?_⟩|refine .inl ⟨_,(qEO _ hxt).to (congrArg Value.bool (decide_eq_false hs)),?_⟩|refine⟨_,fun gp hle hin=>qGA gp (hin.cel (id:=6) rfl 10 rfl),?_⟩|refine⟨fun _=>?_,fun h=>absurd h.symm Bool.false_ne_true⟩|refine⟨fun h=>absurd h Bool.false_ne_true,fun _=>?_⟩|refine And.intro ?_ ?_|fail)
     all_goals (conv=>whnf)
     all_goals (first|exact Eq.refl _|(
      intro g2 hg
      refine⟨_,_,by rw [hE9]<;>rfl,by rw [hW9];exact qHA _ _ _ _ hg hF,?_⟩
      rw [hM9]
      exact⟨_,_,_,rfl,{hok with i:=qAB _},hop,qCA _ _ _ _ (GW.trans hg3 hg) hcf⟩))
   ·rw [if_pos (.inl rfl)] at hM9
    simp only at hM9
    rw [hw1] at hM9
    repeat'((conv=>whnf);first|apply qza|apply qzb|apply qzc|apply qzd|apply qze|intro(_:Nat)|refine⟨_,rfl,⟨hj0,hj1⟩,?_⟩|refine⟨_,⟨rfl,hcr⟩,?_⟩|refine⟨_,fun gp hle hin=>qGA gp (hin.cel (id:=6) rfl 10 rfl),?_⟩|refine⟨fun _=>?_,fun h=>absurd h.symm Bool.false_ne_true⟩|refine⟨fun h=>absurd h Bool.false_ne_true,fun _=>?_⟩|refine And.intro ?_ ?_|fail)
    all_goals (conv=>whnf)
    all_goals (first|exact Eq.refl _|(
     intro g2 hg
     refine⟨_,_,by rw [hE9]<;>rfl,by rw [hW9];exact qHA _ _ _ _ hg hF,?_⟩
     rw [hM9]
     exact⟨_,_,_,rfl,{hok with i:=qAB _},hop,qCA _ _ _ _ (GW.trans hg3 hg) hcf⟩)))
/- Collectors: the program's step,place 5. -/
open Go.Proofs.Ytkbbljngpglnkaa.Sx Go.RowKit
theorem q3Q (g:GW) {cs ms:List Value} {w:Wd} {m:Mach} (hw:rWo g cs w) (hM:qnC g ms m) (hsn:SnW w) (hb:BgW 1000000 w) (hgo:cGo w m) (h0:m.pc=5):Ok Try.prog qKA [.agg ⟨cs⟩,.agg ⟨ms⟩] g (CoP w m):=by
 obtain⟨hW9,hM9,hE9⟩:=qXI hgo
 have hs:=hgo.1
 have hmay:=qDE hgo.2.1
 obtain⟨v,gr,en,hS⟩:=id (suitB_iff.1 hs)
 obtain⟨oa,ca,ob,cb,oc,cc,od,cd,oe,ce,o1,t1,o2,t2,o3,t3,rfl,rfl,hw0,hM0,⟨i1,i2,i3⟩,hP,hV,hL,hC,hR,⟨a1,a2,a0,hP1⟩,⟨b1,b2,b0,hV1⟩,⟨c1,c2,c0,hL1⟩,⟨d1,d2,d0,hC1⟩,⟨e1,e2,e0,hR1⟩,hok,hop,hcf⟩:=qRH hw hM
 obtain⟨mop,mth,mpc,mep,mve,mli,mcl,men,mot,msl,mwo,mlk,mi,mk,msu,mdo,man,mco⟩:=m
 simp only at h0
 subst h0
 obtain⟨kW,kM,kE⟩:=cb5 (w:=w) (m:=⟨mop,mth,5,mep,mve,mli,mcl,men,mot,msl,mwo,mlk,mi,mk,msu,mdo,man,mco⟩) rfl
 rw [kW] at hW9
 rw [kM] at hM9
 rw [kE] at hE9
 clear kW kM kE
 exact Ok.of_fn hm qiE 5 qMA (args:=[.v (.agg ⟨wQ w oa ca ob cb oc cc od cd oe ce⟩),.v (.agg ⟨Mach.cs (.slice o1 mop.config.listens.length t1) (.slice o2 mop.config.routes.length t2) (.slice o3 mop.config.clusters.length t3) ⟨mop,mth,5,mep,mve,mli,mcl,men,mot,msl,mwo,mlk,mi,mk,msu,mdo,man,mco⟩⟩)]) (by
  repeat((conv=>whnf);first|apply qza|apply qzb|apply qzc|apply qzd|apply qze|intro(_:Nat))
  conv=>whnf
  refine .inl ⟨_,qVB _ hw0 hM0 hsn hb,?_⟩
  repeat((conv=>whnf);first|apply qza|apply qzb|apply qzc|apply qzd|apply qze|intro(_:Nat))
  conv=>whnf
  refine⟨fun hx=>absurd (hs.symm.trans (nb1 hx)) (by decide),fun _=>?_⟩
  repeat((conv=>whnf);first|apply qza|apply qzb|apply qzc|apply qzd|apply qze|intro(_:Nat))
  conv=>whnf
  refine .inl ⟨_,qkE _ hw0 hM0 hs hb,?_⟩
  repeat((conv=>whnf);first|apply qza|apply qzb|apply qzc|apply qzd|apply qze|intro(_:Nat))
  conv=>whnf
  refine⟨fun hx=>absurd (hmay.symm.trans (nb1 hx)) (by decide),fun _=>?_⟩
  repeat((conv=>whnf);first|apply qza|apply qzb|apply qzc|apply qzd|apply qze|intro(_:Nat))
  refine .inr ((qLC _ hw0 hb).mono fun v g3 hg3 hO=>?_)
  obtain⟨cs,T,rfl,hT⟩:=hO
  have hF:=qAE hT
  obtain⟨oa',ca',ob',cb',oc',cc',od',cd',oe',ce',rfl⟩:=qfA hF
  repeat((conv=>whnf);first|apply qza|apply qzb|apply qzc|apply qzd|apply qze|intro(_:Nat))
  rename_i q7 q8 qx qm
  conv=>whnf
  refine⟨some (.func (.func qcB) ⟨[xC q7 q8]⟩ ⟨[]⟩),rfl,?_⟩
  conv=>whnf
  refine⟨fun h=>(nomatch h),fun _=>?_⟩
  repeat((conv=>whnf);first|apply qza|apply qzb|apply qzc|apply qzd|apply qze|intro(_:Nat))
  conv=>whnf
  refine⟨qYD,[.agg [.p 5 q7 0,.p 6 q8 0]],[],⟨rfl,rfl⟩,?_⟩
  have hi0:0≤mi:=hS.i
  have hk0:0≤mk:=hS.k
  have hvv:0≤mve∧w.versions[mve.toNat]?=some v:=hS.ver
  have hvl:=(List.getElem?_eq_some_iff.1 hvv.2).1
  have hv1:mve<w.versions.length:=by omega
  have hvb:=hb.2.2 v (List.mem_of_getElem? hvv.2)
  have hkl:=hgo.2.1.2.1 rfl
  rw [hS.at_.1] at hM9 hkl
  have hkl:mk<(qfC v).length:=hkl
  have hll:(qfC v).length≤1000000000000:=by
   have:=qLG hvb v.groups.length (Nat.le_refl _)
   have h2:=hvb.1
   have h3:qjC v v.groups.length=qfC v:=by unfold qjC qfC;rw [List.take_length]
   rw [h3] at this
   omega
  obtain⟨x,hx⟩:=qDA (l:=qfC v) (i:=mk.toNat) (by omega)
  have hx':(qfC (mV w ⟨mop,mth,5,mep,mve,mli,mcl,men,mot,msl,mwo,mlk,mi,mk,msu,mdo,man,mco⟩))[mk.toNat]?=some x:=by rw [hS.at_.1];exact hx
  rw [kE_at hx'] at hM9 hE9
  unfold evV at hE9
  rw [hS.at_.1] at hE9
  have hFv:=qBN hF
  obtain⟨av,rfl⟩:=qUB hFv hvv.2
  obtain⟨oL,cL,oR,cR,oC,cC,oG,cG,hcv,hsn3,_,hG⟩:=qPM hFv hvv.2
  repeat'((conv=>whnf);first|apply qza|apply qzb|apply qzc|apply qzd|apply qze|intro(_:Nat)|refine⟨_,rfl,⟨hvv.1,hv1⟩,?_⟩|refine⟨_,⟨rfl,hcv⟩,?_⟩|fail)
  refine .inr ((qZM _ ⟨_,_,_,_,rfl,hsn3,hG⟩ hvb).mono fun y g4 hg4 hE=>?_)
  obtain⟨oe',ce',rfl,hEs⟩:=hE
  obtain⟨ae,rfl⟩:=qUB hEs hx
  obtain⟨oN,cN,hce,hie⟩:=qRR hEs hx
  have hF4:=qHA _ _ _ _ hg4 hF
  have hw1:mk+1=IntKind.i64.wrap (mk+1):=by rw [IntKind.wrap_i64];omega
  repeat'((conv=>whnf);first|apply qza|apply qzb|apply qzc|apply qzd|apply qze|intro(_:Nat)|refine⟨_,rfl,⟨hk0,hkl⟩,?_⟩|refine⟨_,hce 2 _ rfl,?_⟩|refine⟨_,fun gp hle hin=>qGA gp (hin.cel (id:=6) rfl 10 rfl),?_⟩|fail)
  refine And.intro (fun z=>?_) (fun z=>?_)
  ·have z:x.active≠0:=bneT z
   rw [if_pos z] at hM9
   repeat'((conv=>whnf);first|apply qza|apply qzb|apply qzc|apply qzd|apply qze|intro(_:Nat)|refine⟨_,fun gp hle hin=>qGA gp (hin.cel (id:=6) rfl 10 rfl),?_⟩|refine⟨fun _=>?_,fun h=>absurd h.symm Bool.false_ne_true⟩|refine⟨fun h=>absurd h Bool.false_ne_true,fun _=>?_⟩|refine And.intro ?_ ?_|fail)
   all_goals (conv=>whnf)
   all_goals (first|exact Eq.refl _|(
    intro g2 hg
    refine⟨_,_,by rw [hE9]<;>rfl,by rw [hW9];exact qHA _ _ _ _ hg hF4,?_⟩
    rw [hM9]
    exact⟨_,_,_,rfl,{hok with pc:=show InR (4:Int) by decide,i:=qAB _},hop,qCA _ _ _ _ (GW.trans (GW.trans hg3 hg4) hg) hcf⟩))
  ·have z:x.active=0:=bneF z
   rw [if_neg fun h=>h z] at hM9
   repeat((conv=>whnf);first|apply qza|apply qzb|apply qzc|apply qzd|apply qze|intro(_:Nat))
   refine And.intro (fun z3=>?_) (fun z3=>?_)
   ·have z3:mk+1<(qfC v).length:=by rw [hw1];exact of_decide_eq_true z3
    rw [if_pos z3] at hM9
    simp only at hM9
    rw [hw1] at hM9
    repeat'((conv=>whnf);first|apply qza|apply qzb|apply qzc|apply qzd|apply qze|intro(_:Nat)|refine⟨_,fun gp hle hin=>qGA gp (hin.cel (id:=6) rfl 10 rfl),?_⟩|refine⟨fun _=>?_,fun h=>absurd h.symm Bool.false_ne_true⟩|refine⟨fun h=>absurd h Bool.false_ne_true,fun _=>?_⟩|refine And.intro ?_ ?_|fail)
    all_goals (conv=>whnf)
    all_goals (first|exact Eq.refl _|(
     intro g2 hg
     refine⟨_,_,by rw [hE9]<;>rfl,by rw [hW9];exact qHA _ _ _ _ hg hF4,?_⟩
     rw [hM9]
     exact⟨_,_,_,rfl,{hok with k:=qAB _},hop,qCA _ _ _ _ (GW.trans (GW.trans hg3 hg4) hg) hcf⟩))
   ·have z3:¬ mk+1<(qfC v).length:=by rw [hw1];exact of_decide_eq_false z3
    rw [if_neg z3] at hM9
    simp only at hM9
    rw [hw1] at hM9
    repeat'((conv=>whnf);first|apply qza|apply qzb|apply qzc|apply qzd|apply qze|intro(_:Nat)|refine⟨_,fun gp hle hin=>qGA gp (hin.cel (id:=6) rfl 10 rfl),?_⟩|refine⟨fun _=>?_,fun h=>absurd h.symm Bool.false_ne_true⟩|refine⟨fun h=>absurd h Bool.false_ne_true,fun _=>?_⟩|refine And.intro ?_ ?_|fail)
    all_goals (conv=>whnf)
    all_goals (first|exact Eq.refl _|(
     intro g2 hg
     refine⟨_,_,by rw [hE9]<;>rfl,by rw [hW9];exact qHA _ _ _ _ hg hF4,?_⟩
     rw [hM9]
     exact⟨_,_,_,rfl,{hok with k:=qAB _,pc:=show InR (6:Int) by decide},hop,qCA _ _ _ _ (GW.trans (GW.trans hg3 hg4) hg) hcf⟩)))
/- Collectors: the program's step,place 6. -/
open Go.Proofs.Ytkbbljngpglnkaa.Sx Go.RowKit
theorem q2Q (g:GW) {cs ms:List Value} {w:Wd} {m:Mach} (hw:rWo g cs w) (hM:qnC g ms m) (hsn:SnW w) (hb:BgW 1000000 w) (hgo:cGo w m) (h0:m.pc=6):Ok Try.prog qKA [.agg ⟨cs⟩,.agg ⟨ms⟩] g (CoP w m):=by
 obtain⟨hW9,hM9,hE9⟩:=qXI hgo
 have hs:=hgo.1
 have hmay:=qDE hgo.2.1
 obtain⟨v,gr,en,hS⟩:=id (suitB_iff.1 hs)
 obtain⟨oa,ca,ob,cb,oc,cc,od,cd,oe,ce,o1,t1,o2,t2,o3,t3,rfl,rfl,hw0,hM0,⟨i1,i2,i3⟩,hP,hV,hL,hC,hR,⟨a1,a2,a0,hP1⟩,⟨b1,b2,b0,hV1⟩,⟨c1,c2,c0,hL1⟩,⟨d1,d2,d0,hC1⟩,⟨e1,e2,e0,hR1⟩,hok,hop,hcf⟩:=qRH hw hM
 obtain⟨mop,mth,mpc,mep,mve,mli,mcl,men,mot,msl,mwo,mlk,mi,mk,msu,mdo,man,mco⟩:=m
 simp only at h0
 subst h0
 obtain⟨kW,kM,kE⟩:=cb6 (w:=w) (m:=⟨mop,mth,6,mep,mve,mli,mcl,men,mot,msl,mwo,mlk,mi,mk,msu,mdo,man,mco⟩) rfl
 rw [kW] at hW9
 rw [kM] at hM9
 rw [kE] at hE9
 clear kW kM kE
 exact Ok.of_fn hm qiE 5 qMA (args:=[.v (.agg ⟨wQ w oa ca ob cb oc cc od cd oe ce⟩),.v (.agg ⟨Mach.cs (.slice o1 mop.config.listens.length t1) (.slice o2 mop.config.routes.length t2) (.slice o3 mop.config.clusters.length t3) ⟨mop,mth,6,mep,mve,mli,mcl,men,mot,msl,mwo,mlk,mi,mk,msu,mdo,man,mco⟩⟩)]) (by
  repeat((conv=>whnf);first|apply qza|apply qzb|apply qzc|apply qzd|apply qze|intro(_:Nat)|intro(_:OA)_)
  conv=>whnf
  refine .inl ⟨_,qVB _ hw0 hM0 hsn hb,?_⟩
  repeat((conv=>whnf);first|apply qza|apply qzb|apply qzc|apply qzd|apply qze|intro(_:Nat)|intro(_:OA)_)
  conv=>whnf
  refine⟨fun hx=>absurd (hs.symm.trans (nb1 hx)) (by decide),fun _=>?_⟩
  repeat((conv=>whnf);first|apply qza|apply qzb|apply qzc|apply qzd|apply qze|intro(_:Nat)|intro(_:OA)_)
  conv=>whnf
  refine .inl ⟨_,qkE _ hw0 hM0 hs hb,?_⟩
  repeat((conv=>whnf);first|apply qza|apply qzb|apply qzc|apply qzd|apply qze|intro(_:Nat)|intro(_:OA)_)
  conv=>whnf
  refine⟨fun hx=>absurd (hmay.symm.trans (nb1 hx)) (by decide),fun _=>?_⟩
  repeat((conv=>whnf);first|apply qza|apply qzb|apply qzc|apply qzd|apply qze|intro(_:Nat)|intro(_:OA)_)
  refine .inr ((qLC _ hw0 hb).mono fun v g3 hg3 hO=>?_)
  obtain⟨cs,T,rfl,hT⟩:=hO
  have hF:=qAE hT
  obtain⟨oa',ca',ob',cb',oc',cc',od',cd',oe',ce',rfl⟩:=qfA hF
  repeat((conv=>whnf);first|apply qza|apply qzb|apply qzc|apply qzd|apply qze|intro(_:Nat)|intro(_:OA)_)
  rename_i q7 q8 qx qm
  conv=>whnf
  refine⟨some (.func (.func q0C) ⟨[xC q7 q8]⟩ ⟨[]⟩),rfl,?_⟩
  conv=>whnf
  refine⟨fun h=>(nomatch h),fun _=>?_⟩
  repeat((conv=>whnf);first|apply qza|apply qzb|apply qzc|apply qzd|apply qze|intro(_:Nat)|intro(_:OA)_)
  conv=>whnf
  refine⟨qkF,[.agg [.p 5 q7 0,.p 6 q8 0]],[],⟨rfl,rfl⟩,?_⟩
  have hi0:0≤mi:=hS.i
  have hvv:0≤mve∧w.versions[mve.toNat]?=some v:=hS.ver
  have hvl:=(List.getElem?_eq_some_iff.1 hvv.2).1
  have hv1:mve<w.versions.length:=by omega
  have hi1:mi<w.limbo.length:=(hgo.2.1.2.2.1 rfl).1
  have hrl:=hb.1.2.2.2.2
  obtain⟨x,hx⟩:=qDA (l:=w.limbo) (i:=mi.toNat) (by omega)
  rw [qNH hx,hS.at_.1] at hW9
  obtain⟨bk,cap,hv,b5,j5,bc,ty5,⟨hA,p1,p2,p3,p4⟩,_,hk5⟩:=qJQ hT hvv.2 true
  cases hv
  have hw1:mi+1=IntKind.i64.wrap (mi+1):=by rw [IntKind.wrap_i64];omega
  simp only at hM9
  rw [hw1] at hM9
  repeat'((conv=>whnf);first|apply qza|apply qzb|apply qzc|apply qzd|apply qze|intro(_:Nat)|intro(_:OA)_|refine⟨_,rfl,⟨hvv.1,hv1⟩,?_⟩|fail)
  conv=>whnf
  refine⟨b5,j5,bc,ty5,⟨hA,p1,p2,p3,p4⟩,?_⟩
  repeat((conv=>whnf);first|apply qza|apply qzb|apply qzc|apply qzd|apply qze|intro(_:Nat)|intro(_:OA)_)
  conv=>whnf
  refine fun g6 u6=>?_
  have hT6:=hk5 g6 u6
  have hle6:g≤g6:=u6.le hg3 (fun h=>by have:=g.wf _ h;omega)
  obtain⟨bk2,cap2,hv,_,b7,j7,bc7,ty7,⟨hA7,p17,p27,p37,p47⟩,_,hk7⟩:=qIQ hT6 hx true
  cases hv
  repeat'((conv=>whnf);first|apply qza|apply qzb|apply qzc|apply qzd|apply qze|intro(_:Nat)|intro(_:OA)_|refine⟨_,rfl,⟨hi0,hi1⟩,?_⟩|fail)
  conv=>whnf
  refine⟨b7,j7,bc7,ty7,⟨hA7,p17,p27,p37,p47⟩,?_⟩
  repeat((conv=>whnf);first|apply qza|apply qzb|apply qzc|apply qzd|apply qze|intro(_:Nat)|intro(_:OA)_)
  conv=>whnf
  refine fun g8 u8=>?_
  have hFx:=qAE (hk7 g8 u8)
  have hle8:g≤g8:=u8.le hle6 (fun h=>by have:=g.wf _ h;omega)
  repeat'((conv=>whnf);first|apply qza|apply qzb|apply qzc|apply qzd|apply qze|intro(_:Nat)|intro(_:OA)_|refine⟨_,fun gp hle hin=>qGA gp (hin.cel (id:=6) rfl 10 rfl),?_⟩|refine And.intro ?_ ?_|fail)
  all_goals (conv=>whnf)
  all_goals (first|exact Eq.refl _|(
   intro g2 hg
   refine⟨_,_,by rw [hE9]<;>rfl,by rw [hW9];exact qHA _ _ _ _ hg hFx,?_⟩
   rw [hM9]
   exact⟨_,_,_,rfl,{hok with pc:=show InR (4:Int) by decide,i:=qAB _,answer:={hok.answer with n:=qAB _}},hop,qCA _ _ _ _ (GW.trans hle8 hg) hcf⟩)))
/- Collectors: the program's step,place 8. -/
open Go.Proofs.Ytkbbljngpglnkaa.Sx Go.RowKit
theorem q1Q (g:GW) {cs ms:List Value} {w:Wd} {m:Mach} (hw:rWo g cs w) (hM:qnC g ms m) (hsn:SnW w) (hb:BgW 1000000 w) (hgo:cGo w m) (h0:m.pc=8):Ok Try.prog qKA [.agg ⟨cs⟩,.agg ⟨ms⟩] g (CoP w m):=by
 obtain⟨hW9,hM9,hE9⟩:=qXI hgo
 have hs:=hgo.1
 have hmay:=qDE hgo.2.1
 obtain⟨v,gr,en,hS⟩:=id (suitB_iff.1 hs)
 obtain⟨oa,ca,ob,cb,oc,cc,od,cd,oe,ce,o1,t1,o2,t2,o3,t3,rfl,rfl,hw0,hM0,⟨i1,i2,i3⟩,hP,hV,hL,hC,hR,⟨a1,a2,a0,hP1⟩,⟨b1,b2,b0,hV1⟩,⟨c1,c2,c0,hL1⟩,⟨d1,d2,d0,hC1⟩,⟨e1,e2,e0,hR1⟩,hok,hop,hcf⟩:=qRH hw hM
 obtain⟨mop,mth,mpc,mep,mve,mli,mcl,men,mot,msl,mwo,mlk,mi,mk,msu,mdo,man,mco⟩:=m
 simp only at h0
 subst h0
 obtain⟨kW,kM,kE⟩:=cb8 (w:=w) (m:=⟨mop,mth,8,mep,mve,mli,mcl,men,mot,msl,mwo,mlk,mi,mk,msu,mdo,man,mco⟩) rfl
 rw [kW] at hW9
 rw [kM] at hM9
 rw [kE] at hE9
 clear kW kM kE
 exact Ok.of_fn hm qiE 5 qMA (args:=[.v (.agg ⟨wQ w oa ca ob cb oc cc od cd oe ce⟩),.v (.agg ⟨Mach.cs (.slice o1 mop.config.listens.length t1) (.slice o2 mop.config.routes.length t2) (.slice o3 mop.config.clusters.length t3) ⟨mop,mth,8,mep,mve,mli,mcl,men,mot,msl,mwo,mlk,mi,mk,msu,mdo,man,mco⟩⟩)]) (by
  repeat((conv=>whnf);first|apply qza|apply qzb|apply qzc|apply qzd|apply qze|intro(_:Nat))
  conv=>whnf
  refine .inl ⟨_,qVB _ hw0 hM0 hsn hb,?_⟩
  repeat((conv=>whnf);first|apply qza|apply qzb|apply qzc|apply qzd|apply qze|intro(_:Nat))
  conv=>whnf
  refine⟨fun hx=>absurd (hs.symm.trans (nb1 hx)) (by decide),fun _=>?_⟩
  repeat((conv=>whnf);first|apply qza|apply qzb|apply qzc|apply qzd|apply qze|intro(_:Nat))
  conv=>whnf
  refine .inl ⟨_,qkE _ hw0 hM0 hs hb,?_⟩
  repeat((conv=>whnf);first|apply qza|apply qzb|apply qzc|apply qzd|apply qze|intro(_:Nat))
  conv=>whnf
  refine⟨fun hx=>absurd (hmay.symm.trans (nb1 hx)) (by decide),fun _=>?_⟩
  repeat((conv=>whnf);first|apply qza|apply qzb|apply qzc|apply qzd|apply qze|intro(_:Nat))
  refine .inr ((qLC _ hw0 hb).mono fun v g3 hg3 hO=>?_)
  obtain⟨cs,T,rfl,hT⟩:=hO
  have hF:=qAE hT
  obtain⟨oa',ca',ob',cb',oc',cc',od',cd',oe',ce',rfl⟩:=qfA hF
  repeat((conv=>whnf);first|apply qza|apply qzb|apply qzc|apply qzd|apply qze|intro(_:Nat))
  rename_i q7 q8 qx qm
  conv=>whnf
  refine⟨some (.func (.func quB) ⟨[xC q7 q8]⟩ ⟨[]⟩),rfl,?_⟩
  conv=>whnf
  refine⟨fun h=>(nomatch h),fun _=>?_⟩
  repeat((conv=>whnf);first|apply qza|apply qzb|apply qzc|apply qzd|apply qze|intro(_:Nat))
  conv=>whnf
  refine⟨qsD,[.agg [.p 5 q7 0,.p 6 q8 0]],[],⟨rfl,rfl⟩,?_⟩
  have hi0:0≤mi:=hS.i
  have hll:=hb.1.2.2.1
  repeat((conv=>whnf);first|apply qza|apply qzb|apply qzc|apply qzd|apply qze|intro(_:Nat))
  refine And.intro (fun z=>?_) (fun z=>?_)
  ·have z:(w.listens.length:Int)≤mi:=of_decide_eq_true z
   simp only [cdW,cdM,cdE] at hW9 hM9 hE9
   rw [if_pos z] at hW9 hM9 hE9
   have hF1:=qbH hF (x:=0) (by decide)
   repeat'((conv=>whnf);first|apply qza|apply qzb|apply qzc|apply qzd|apply qze|intro(_:Nat)|refine⟨_,fun gp hle hin=>qGA gp (hin.cel (id:=6) rfl 10 rfl),?_⟩|refine And.intro ?_ ?_|fail)
   all_goals (conv=>whnf)
   all_goals (first|exact Eq.refl _|(
    intro g2 hg
    refine⟨_,_,by rw [hE9]<;>rfl,by rw [hW9];exact qHA _ _ _ _ hg hF1,?_⟩
    rw [hM9]
    exact⟨_,_,_,rfl,{hok with answer:=qjO hok.answer},hop,qCA _ _ _ _ (GW.trans hg3 hg) hcf⟩))
  ·have z:¬ (w.listens.length:Int)≤mi:=of_decide_eq_false z
   simp only [cdW,cdM,cdE] at hW9 hM9 hE9
   rw [if_neg z] at hW9 hM9 hE9
   obtain⟨x,hx⟩:=qDA (l:=w.listens) (i:=(mi:Int).toNat) (by omega)
   rw [qJI hx] at hM9 hE9
   have hFl:=qkL hF
   obtain⟨al,rfl⟩:=qUB hFl hx
   obtain⟨hxa,hcl⟩:=qdM hFl hx
   obtain⟨xn,xd,xa,xc⟩:=x
   have hw1:(mi:Int)+1=IntKind.i64.wrap (mi+1):=by rw [IntKind.wrap_i64];omega
   have hj0:0≤(mi:Int):=by omega
   have hj1:(mi:Int)<w.listens.length:=by omega
   cases xd<;>cases xc
   ·simp only [Bool.false_eq_true,reduceIte,false_and,true_and,and_false,and_true,reduceCtorEq] at hW9 hM9 hE9
    rw [hw1] at hM9
    repeat'((conv=>whnf);first|apply qza|apply qzb|apply qzc|apply qzd|apply qze|intro(_:Nat)|refine⟨_,rfl,⟨hj0,hj1⟩,?_⟩|refine⟨_,⟨rfl,hcl⟩,?_⟩|refine⟨_,fun gp hle hin=>qGA gp (hin.cel (id:=6) rfl 10 rfl),?_⟩|refine⟨fun _=>?_,fun h=>absurd h.symm Bool.false_ne_true⟩|refine⟨fun h=>absurd h Bool.false_ne_true,fun _=>?_⟩|refine And.intro ?_ ?_|fail)
    all_goals (conv=>whnf)
    all_goals (first|exact Eq.refl _|(
     intro g2 hg
     refine⟨_,_,by rw [hE9]<;>rfl,by rw [hW9];exact qHA _ _ _ _ hg hF,?_⟩
     rw [hM9]
     exact⟨_,_,_,rfl,{hok with i:=qAB _},hop,qCA _ _ _ _ (GW.trans hg3 hg) hcf⟩))
   ·simp only [Bool.false_eq_true,reduceIte,false_and,true_and,and_false,and_true,reduceCtorEq] at hW9 hM9 hE9
    rw [hw1] at hM9
    repeat'((conv=>whnf);first|apply qza|apply qzb|apply qzc|apply qzd|apply qze|intro(_:Nat)|refine⟨_,rfl,⟨hj0,hj1⟩,?_⟩|refine⟨_,⟨rfl,hcl⟩,?_⟩|refine⟨_,fun gp hle hin=>qGA gp (hin.cel (id:=6) rfl 10 rfl),?_⟩|refine⟨fun _=>?_,fun h=>absurd h.symm Bool.false_ne_true⟩|refine⟨fun h=>absurd h Bool.false_ne_true,fun _=>?_⟩|refine And.intro ?_ ?_|fail)
    all_goals (conv=>whnf)
    all_goals (first|exact Eq.refl _|(
     intro g2 hg
     refine⟨_,_,by rw [hE9]<;>rfl,by rw [hW9];exact qHA _ _ _ _ hg hF,?_⟩
     rw [hM9]
     exact⟨_,_,_,rfl,{hok with i:=qAB _},hop,qCA _ _ _ _ (GW.trans hg3 hg) hcf⟩))
   ·simp only [Bool.false_eq_true,reduceIte,false_and,true_and,and_false,and_true,reduceCtorEq] at hW9 hM9 hE9
    repeat'((conv=>whnf);first|apply qza|apply qzb|apply qzc|apply qzd|apply qze|intro(_:Nat)|refine⟨_,rfl,⟨hj0,hj1⟩,?_⟩|refine⟨_,⟨rfl,hcl⟩,?_⟩|refine⟨_,fun gp hle hin=>qGA gp (hin.cel (id:=6) rfl 10 rfl),?_⟩|refine⟨fun _=>?_,fun h=>absurd h.symm Bool.false_ne_true⟩|refine⟨fun h=>absurd h Bool.false_ne_true,fun _=>?_⟩|refine And.intro ?_ ?_|fail)
    all_goals (conv=>whnf)
    all_goals (first|exact Eq.refl _|(
     intro g2 hg
     refine⟨_,_,by rw [hE9]<;>rfl,by rw [hW9];exact qHA _ _ _ _ hg hF,?_⟩
     rw [hM9]
     exact⟨_,_,_,rfl,{hok with pc:=show InR (9:Int) by decide},hop,qCA _ _ _ _ (GW.trans hg3 hg) hcf⟩))
   ·simp only [Bool.false_eq_true,reduceIte,false_and,true_and,and_false,and_true,reduceCtorEq] at hW9 hM9 hE9
    rw [hw1] at hM9
    repeat'((conv=>whnf);first|apply qza|apply qzb|apply qzc|apply qzd|apply qze|intro(_:Nat)|refine⟨_,rfl,⟨hj0,hj1⟩,?_⟩|refine⟨_,⟨rfl,hcl⟩,?_⟩|refine⟨_,fun gp hle hin=>qGA gp (hin.cel (id:=6) rfl 10 rfl),?_⟩|refine⟨fun _=>?_,fun h=>absurd h.symm Bool.false_ne_true⟩|refine⟨fun h=>absurd h Bool.false_ne_true,fun _=>?_⟩|refine And.intro ?_ ?_|fail)
    all_goals (conv=>whnf)
    all_goals (first|exact Eq.refl _|(
     intro g2 hg
     refine⟨_,_,by rw [hE9]<;>rfl,by rw [hW9];exact qHA _ _ _ _ hg hF,?_⟩
     rw [hM9]
     exact⟨_,_,_,rfl,{hok with i:=qAB _},hop,qCA _ _ _ _ (GW.trans hg3 hg) hcf⟩)))
/- Collectors: the program's step,place 9. -/
open Go.Proofs.Ytkbbljngpglnkaa.Sx Go.RowKit
theorem q0Q (g:GW) {cs ms:List Value} {w:Wd} {m:Mach} (hw:rWo g cs w) (hM:qnC g ms m) (hsn:SnW w) (hb:BgW 1000000 w) (hgo:cGo w m) (h0:m.pc=9):Ok Try.prog qKA [.agg ⟨cs⟩,.agg ⟨ms⟩] g (CoP w m):=by
 obtain⟨hW9,hM9,hE9⟩:=qXI hgo
 have hs:=hgo.1
 have hmay:=qDE hgo.2.1
 obtain⟨v,gr,en,hS⟩:=id (suitB_iff.1 hs)
 obtain⟨oa,ca,ob,cb,oc,cc,od,cd,oe,ce,o1,t1,o2,t2,o3,t3,rfl,rfl,hw0,hM0,⟨i1,i2,i3⟩,hP,hV,hL,hC,hR,⟨a1,a2,a0,hP1⟩,⟨b1,b2,b0,hV1⟩,⟨c1,c2,c0,hL1⟩,⟨d1,d2,d0,hC1⟩,⟨e1,e2,e0,hR1⟩,hok,hop,hcf⟩:=qRH hw hM
 obtain⟨mop,mth,mpc,mep,mve,mli,mcl,men,mot,msl,mwo,mlk,mi,mk,msu,mdo,man,mco⟩:=m
 simp only at h0
 subst h0
 obtain⟨kW,kM,kE⟩:=cb9 (w:=w) (m:=⟨mop,mth,9,mep,mve,mli,mcl,men,mot,msl,mwo,mlk,mi,mk,msu,mdo,man,mco⟩) rfl
 rw [kW] at hW9
 rw [kM] at hM9
 rw [kE] at hE9
 clear kW kM kE
 exact Ok.of_fn hm qiE 5 qMA (args:=[.v (.agg ⟨wQ w oa ca ob cb oc cc od cd oe ce⟩),.v (.agg ⟨Mach.cs (.slice o1 mop.config.listens.length t1) (.slice o2 mop.config.routes.length t2) (.slice o3 mop.config.clusters.length t3) ⟨mop,mth,9,mep,mve,mli,mcl,men,mot,msl,mwo,mlk,mi,mk,msu,mdo,man,mco⟩⟩)]) (by
  repeat((conv=>whnf);first|apply qza|apply qzb|apply qzc|apply qzd|apply qze|intro(_:Nat))
  conv=>whnf
  refine .inl ⟨_,qVB _ hw0 hM0 hsn hb,?_⟩
  repeat((conv=>whnf);first|apply qza|apply qzb|apply qzc|apply qzd|apply qze|intro(_:Nat))
  conv=>whnf
  refine⟨fun hx=>absurd (hs.symm.trans (nb1 hx)) (by decide),fun _=>?_⟩
  repeat((conv=>whnf);first|apply qza|apply qzb|apply qzc|apply qzd|apply qze|intro(_:Nat))
  conv=>whnf
  refine .inl ⟨_,qkE _ hw0 hM0 hs hb,?_⟩
  repeat((conv=>whnf);first|apply qza|apply qzb|apply qzc|apply qzd|apply qze|intro(_:Nat))
  conv=>whnf
  refine⟨fun hx=>absurd (hmay.symm.trans (nb1 hx)) (by decide),fun _=>?_⟩
  repeat((conv=>whnf);first|apply qza|apply qzb|apply qzc|apply qzd|apply qze|intro(_:Nat))
  refine .inr ((qLC _ hw0 hb).mono fun v g3 hg3 hO=>?_)
  obtain⟨cs,T,rfl,hT⟩:=hO
  have hF:=qAE hT
  obtain⟨oa',ca',ob',cb',oc',cc',od',cd',oe',ce',rfl⟩:=qfA hF
  repeat((conv=>whnf);first|apply qza|apply qzb|apply qzc|apply qzd|apply qze|intro(_:Nat))
  rename_i q7 q8 qx qm
  conv=>whnf
  refine⟨some (.func (.func qbB) ⟨[xC q7 q8]⟩ ⟨[]⟩),rfl,?_⟩
  conv=>whnf
  refine⟨fun h=>(nomatch h),fun _=>?_⟩
  repeat((conv=>whnf);first|apply qza|apply qzb|apply qzc|apply qzd|apply qze|intro(_:Nat))
  conv=>whnf
  refine⟨qXD,[.agg [.p 5 q7 0,.p 6 q8 0]],[],⟨rfl,rfl⟩,?_⟩
  have hi0:0≤mi:=hS.i
  have hi1:mi<w.listens.length:=hgo.2.1.2.2.2.1 rfl
  obtain⟨x,hx⟩:=qDA (l:=w.listens) (i:=mi.toNat) (by omega)
  rw [qJI hx] at hM9 hE9
  have hFl:=qkL hF
  obtain⟨al,rfl⟩:=qUB hFl hx
  obtain⟨hxa,hcl⟩:=qdM hFl hx
  have hll:=hb.1.2.2.1
  repeat'((conv=>whnf);first|apply qza|apply qzb|apply qzc|apply qzd|apply qze|intro(_:Nat)|refine⟨_,rfl,⟨by omega,by omega⟩,?_⟩|refine⟨_,hcl 2 _ rfl,?_⟩|fail)
  refine And.intro (fun z=>?_) (fun z=>?_)
  ·have z:x.active=0:=of_decide_eq_true z
   rw [if_pos z] at hM9
   repeat'((conv=>whnf);first|apply qza|apply qzb|apply qzc|apply qzd|apply qze|intro(_:Nat)|refine⟨_,fun gp hle hin=>qGA gp (hin.cel (id:=6) rfl 10 rfl),?_⟩|refine And.intro ?_ ?_|fail)
   all_goals (conv=>whnf)
   all_goals (first|exact Eq.refl _|(
    intro g2 hg
    refine⟨_,_,by rw [hE9]<;>rfl,by rw [hW9];exact qHA _ _ _ _ hg hF,?_⟩
    rw [hM9]
    exact⟨_,_,_,rfl,{hok with pc:=show InR (10:Int) by decide},hop,qCA _ _ _ _ (GW.trans hg3 hg) hcf⟩))
  ·have z:¬ x.active=0:=of_decide_eq_false z
   rw [if_neg z] at hM9
   have hw1:mi+1=IntKind.i64.wrap (mi+1):=by rw [IntKind.wrap_i64];omega
   simp only at hM9
   rw [hw1] at hM9
   repeat'((conv=>whnf);first|apply qza|apply qzb|apply qzc|apply qzd|apply qze|intro(_:Nat)|refine⟨_,fun gp hle hin=>qGA gp (hin.cel (id:=6) rfl 10 rfl),?_⟩|refine And.intro ?_ ?_|fail)
   all_goals (conv=>whnf)
   all_goals (first|exact Eq.refl _|(
    intro g2 hg
    refine⟨_,_,by rw [hE9]<;>rfl,by rw [hW9];exact qHA _ _ _ _ hg hF,?_⟩
    rw [hM9]
    exact⟨_,_,_,rfl,{hok with pc:=show InR (8:Int) by decide,i:=qAB _},hop,qCA _ _ _ _ (GW.trans hg3 hg) hcf⟩)))
/- Collectors: the program's step,place 10. -/
open Go.Proofs.Ytkbbljngpglnkaa.Sx Go.RowKit
theorem qCQ (g:GW) {cs ms:List Value} {w:Wd} {m:Mach} (hw:rWo g cs w) (hM:qnC g ms m) (hsn:SnW w) (hb:BgW 1000000 w) (hgo:cGo w m) (h0:m.pc=10):Ok Try.prog qKA [.agg ⟨cs⟩,.agg ⟨ms⟩] g (CoP w m):=by
 obtain⟨hW9,hM9,hE9⟩:=qXI hgo
 have hs:=hgo.1
 have hmay:=qDE hgo.2.1
 obtain⟨v,gr,en,hS⟩:=id (suitB_iff.1 hs)
 obtain⟨oa,ca,ob,cb,oc,cc,od,cd,oe,ce,o1,t1,o2,t2,o3,t3,rfl,rfl,hw0,hM0,⟨i1,i2,i3⟩,hP,hV,hL,hC,hR,⟨a1,a2,a0,hP1⟩,⟨b1,b2,b0,hV1⟩,⟨c1,c2,c0,hL1⟩,⟨d1,d2,d0,hC1⟩,⟨e1,e2,e0,hR1⟩,hok,hop,hcf⟩:=qRH hw hM
 obtain⟨mop,mth,mpc,mep,mve,mli,mcl,men,mot,msl,mwo,mlk,mi,mk,msu,mdo,man,mco⟩:=m
 simp only at h0
 subst h0
 obtain⟨kW,kM,kE⟩:=cb10 (w:=w) (m:=⟨mop,mth,10,mep,mve,mli,mcl,men,mot,msl,mwo,mlk,mi,mk,msu,mdo,man,mco⟩) rfl
 rw [kW] at hW9
 rw [kM] at hM9
 rw [kE] at hE9
 clear kW kM kE
 exact Ok.of_fn hm qiE 5 qMA (args:=[.v (.agg ⟨wQ w oa ca ob cb oc cc od cd oe ce⟩),.v (.agg ⟨Mach.cs (.slice o1 mop.config.listens.length t1) (.slice o2 mop.config.routes.length t2) (.slice o3 mop.config.clusters.length t3) ⟨mop,mth,10,mep,mve,mli,mcl,men,mot,msl,mwo,mlk,mi,mk,msu,mdo,man,mco⟩⟩)]) (by
  repeat((conv=>whnf);first|apply qza|apply qzb|apply qzc|apply qzd|apply qze|intro(_:Nat))
  conv=>whnf
  refine .inl ⟨_,qVB _ hw0 hM0 hsn hb,?_⟩
  repeat((conv=>whnf);first|apply qza|apply qzb|apply qzc|apply qzd|apply qze|intro(_:Nat))
  conv=>whnf
  refine⟨fun hx=>absurd (hs.symm.trans (nb1 hx)) (by decide),fun _=>?_⟩
  repeat((conv=>whnf);first|apply qza|apply qzb|apply qzc|apply qzd|apply qze|intro(_:Nat))
  conv=>whnf
  refine .inl ⟨_,qkE _ hw0 hM0 hs hb,?_⟩
  repeat((conv=>whnf);first|apply qza|apply qzb|apply qzc|apply qzd|apply qze|intro(_:Nat))
  conv=>whnf
  refine⟨fun hx=>absurd (hmay.symm.trans (nb1 hx)) (by decide),fun _=>?_⟩
  repeat((conv=>whnf);first|apply qza|apply qzb|apply qzc|apply qzd|apply qze|intro(_:Nat))
  refine .inr ((qLC _ hw0 hb).mono fun v g3 hg3 hO=>?_)
  obtain⟨cs,T,rfl,hT⟩:=hO
  have hF:=qAE hT
  obtain⟨oa',ca',ob',cb',oc',cc',od',cd',oe',ce',rfl⟩:=qfA hF
  repeat((conv=>whnf);first|apply qza|apply qzb|apply qzc|apply qzd|apply qze|intro(_:Nat))
  rename_i q7 q8 qx qm
  conv=>whnf
  refine⟨some (.func (.func qyC) ⟨[xC q7 q8]⟩ ⟨[]⟩),rfl,?_⟩
  conv=>whnf
  refine⟨fun h=>(nomatch h),fun _=>?_⟩
  repeat((conv=>whnf);first|apply qza|apply qzb|apply qzc|apply qzd|apply qze|intro(_:Nat))
  conv=>whnf
  refine⟨qiF,[.agg [.p 5 q7 0,.p 6 q8 0]],[],⟨rfl,rfl⟩,?_⟩
  have hi0:0≤mi:=hS.i
  have hi1:mi<w.listens.length:=(hgo.2.1.2.2.2.2 rfl).1
  obtain⟨x,hx⟩:=qDA (l:=w.listens) (i:=mi.toNat) (by omega)
  rw [qJI hx] at hW9
  have hxa:=(qNQ hF hx)
  obtain⟨bk,cap,hv,rcl,b5,j5,bc,ty5,⟨hA,p1,p2,p3,p4⟩,_,hk5⟩:=qHQ hT hx (x':={x with closed:=true}) (o:=3) (vs:=[.bool true]) (by simp) (by simp [Value.oneCell']) rfl hxa
  cases hv
  have hll:=hb.1.2.2.1
  have hw1:mi+1=IntKind.i64.wrap (mi+1):=by rw [IntKind.wrap_i64];omega
  simp only at hM9
  rw [hw1] at hM9
  repeat'((conv=>whnf);first|apply qza|apply qzb|apply qzc|apply qzd|apply qze|intro(_:Nat)|refine⟨_,rfl,⟨by omega,by omega⟩,?_⟩|fail)
  conv=>whnf
  refine⟨b5,j5,bc,ty5,⟨hA,p1,p2,p3,p4⟩,?_⟩
  repeat((conv=>whnf);first|apply qza|apply qzb|apply qzc|apply qzd|apply qze|intro(_:Nat))
  conv=>whnf
  refine fun g6 u6=>?_
  have hFx:=qAE (hk5 g6 u6)
  have hle6:g≤g6:=u6.le hg3 (fun h=>by have:=g.wf _ h;omega)
  repeat'((conv=>whnf);first|apply qza|apply qzb|apply qzc|apply qzd|apply qze|intro(_:Nat)|refine⟨_,fun gp hle hin=>qGA gp (hin.cel (id:=6) rfl 10 rfl),?_⟩|refine And.intro ?_ ?_|fail)
  all_goals (conv=>whnf)
  all_goals (first|exact Eq.refl _|(
   intro g2 hg
   refine⟨_,_,by rw [hE9]<;>rfl,by rw [hW9];exact qHA _ _ _ _ hg hFx,?_⟩
   rw [hM9]
   exact⟨_,_,_,rfl,{hok with pc:=show InR (8:Int) by decide,i:=qAB _},hop,qCA _ _ _ _ (GW.trans hle6 hg) hcf⟩)))
/- Collectors: the program's step,elsewhere. -/
open Go.Proofs.Ytkbbljngpglnkaa.Sx Go.RowKit
theorem qzQ (g:GW) {cs ms:List Value} {w:Wd} {m:Mach} (hw:rWo g cs w) (hM:qnC g ms m) (hsn:SnW w) (hb:BgW 1000000 w) (hs:qmB w m=true) (hmay0:cMay w m) (h0:¬ (0≤m.pc∧m.pc≤10∧m.pc≠7)):Ok Try.prog qKA [.agg ⟨cs⟩,.agg ⟨ms⟩] g (CoP w m):=by
 obtain⟨hW9,hM9,hE9⟩:=qSR (w:=w) (m:=m) fun h=>h0 h.2.2
 have hmay:=qDE hmay0
 obtain⟨v,gr,en,hS⟩:=id (suitB_iff.1 hs)
 obtain⟨oa,ca,ob,cb,oc,cc,od,cd,oe,ce,o1,t1,o2,t2,o3,t3,rfl,rfl,hw0,hM0,⟨i1,i2,i3⟩,hP,hV,hL,hC,hR,⟨a1,a2,a0,hP1⟩,⟨b1,b2,b0,hV1⟩,⟨c1,c2,c0,hL1⟩,⟨d1,d2,d0,hC1⟩,⟨e1,e2,e0,hR1⟩,hok,hop,hcf⟩:=qRH hw hM
 obtain⟨mop,mth,mpc,mep,mve,mli,mcl,men,mot,msl,mwo,mlk,mi,mk,msu,mdo,man,mco⟩:=m
 exact Ok.of_fn hm qiE 5 qMA (args:=[.v (.agg ⟨wQ w oa ca ob cb oc cc od cd oe ce⟩),.v (.agg ⟨Mach.cs (.slice o1 mop.config.listens.length t1) (.slice o2 mop.config.routes.length t2) (.slice o3 mop.config.clusters.length t3) ⟨mop,mth,mpc,mep,mve,mli,mcl,men,mot,msl,mwo,mlk,mi,mk,msu,mdo,man,mco⟩⟩)]) (by
  repeat((conv=>whnf);first|apply qza|apply qzb|apply qzc|apply qzd|apply qze|intro(_:Nat))
  conv=>whnf
  refine .inl ⟨_,qVB _ hw0 hM0 hsn hb,?_⟩
  repeat((conv=>whnf);first|apply qza|apply qzb|apply qzc|apply qzd|apply qze|intro(_:Nat))
  conv=>whnf
  refine⟨fun hx=>absurd (hs.symm.trans (nb1 hx)) (by decide),fun _=>?_⟩
  repeat((conv=>whnf);first|apply qza|apply qzb|apply qzc|apply qzd|apply qze|intro(_:Nat))
  conv=>whnf
  refine .inl ⟨_,qkE _ hw0 hM0 hs hb,?_⟩
  repeat((conv=>whnf);first|apply qza|apply qzb|apply qzc|apply qzd|apply qze|intro(_:Nat))
  conv=>whnf
  refine⟨fun hx=>absurd (hmay.symm.trans (nb1 hx)) (by decide),fun _=>?_⟩
  repeat((conv=>whnf);first|apply qza|apply qzb|apply qzc|apply qzd|apply qze|intro(_:Nat))
  refine .inr ((qLC _ hw0 hb).mono fun v g3 hg3 hO=>?_)
  obtain⟨cs,T,rfl,hT⟩:=hO
  have hF:=qAE hT
  obtain⟨oa',ca',ob',cb',oc',cc',od',cd',oe',ce',rfl⟩:=qfA hF
  repeat((conv=>whnf);first|apply qza|apply qzb|apply qzc|apply qzd|apply qze|intro(_:Nat))
  rename_i q7 q8 qx qm
  have h0:¬ (0≤mpc∧mpc≤10∧mpc≠7):=h0
  conv=>whnf
  refine⟨none,?_,?_⟩
  ·show mGet mpc _=none
   repeat rw [qII,if_neg (show ¬ mpc=_ by omega)]
   rfl
  repeat'((conv=>whnf);first|apply qza|apply qzb|apply qzc|apply qzd|apply qze|intro(_:Nat)|refine⟨fun _=>?_,fun h=>absurd h.symm Bool.false_ne_true⟩|refine⟨fun h=>absurd h Bool.false_ne_true,fun _=>?_⟩|refine And.intro ?_ ?_|fail)
  all_goals (conv=>whnf)
  all_goals (first|exact Eq.refl _|(
   intro g2 hg
   exact⟨_,_,by rw [hE9]<;>rfl,by rw [hW9];exact qHA _ _ _ _ (GW.trans hg3 hg) hw0,by rw [hM9];exact q4G _ _ _ _ (GW.trans hg3 hg) hM0⟩)))
theorem qyQ (g:GW) {cs ms:List Value} {w:Wd} {m:Mach} (hw:rWo g cs w) (hM:qnC g ms m) (hsn:SnW w) (hb:BgW 1000000 w) (hgo:¬ (qmB w m=true∧cMay w m)):Ok Try.prog qKA [.agg ⟨cs⟩,.agg ⟨ms⟩] g (CoP w m):=by
 obtain⟨hW9,hM9,hE9⟩:=qSR (w:=w) (m:=m) fun h=>hgo ⟨h.1,h.2.1⟩
 obtain⟨oa,ca,ob,cb,oc,cc,od,cd,oe,ce,o1,t1,o2,t2,o3,t3,rfl,rfl,hw0,hM0,⟨i1,i2,i3⟩,hP,hV,hL,hC,hR,⟨a1,a2,a0,hP1⟩,⟨b1,b2,b0,hV1⟩,⟨c1,c2,c0,hL1⟩,⟨d1,d2,d0,hC1⟩,⟨e1,e2,e0,hR1⟩,hok,hop,hcf⟩:=qRH hw hM
 exact Ok.of_fn hm qiE 5 qMA (args:=[.v (.agg ⟨wQ w oa ca ob cb oc cc od cd oe ce⟩),.v (.agg ⟨mQ m o1 t1 o2 t2 o3 t3⟩)]) (by
  have fin:∀ g2,g≤g2→CoP w m (.tuple #[.agg ⟨wQ w oa ca ob cb oc cc od cd oe ce⟩,.agg ⟨mQ m o1 t1 o2 t2 o3 t3⟩,.agg ⟨ev0.cs⟩]) g2:=by
   intro g2 hg
   exact⟨_,_,by rw [hE9]<;>rfl,by rw [hW9];exact qHA _ _ _ _ hg hw0,by rw [hM9];exact q4G _ _ _ _ hg hM0⟩
  repeat((conv=>whnf);first|apply qza|apply qzb|apply qzc|apply qzd|apply qze|intro(_:Nat))
  conv=>whnf
  refine .inl ⟨_,qVB _ hw0 hM0 hsn hb,?_⟩
  repeat((conv=>whnf);first|apply qza|apply qzb|apply qzc|apply qzd|apply qze|intro(_:Nat))
  refine And.intro (fun z4=>?_) (fun z4=>?_)
  ·repeat'((conv=>whnf);first|apply qza|apply qzb|apply qzc|apply qzd|apply qze|intro(_:Nat)|refine And.intro ?_ ?_|fail)
   all_goals (conv=>whnf)
   all_goals (first|exact Eq.refl _|exact fin)
  have hs:=nb0 z4
  repeat((conv=>whnf);first|apply qza|apply qzb|apply qzc|apply qzd|apply qze|intro(_:Nat))
  conv=>whnf
  refine .inl ⟨_,qkE _ hw0 hM0 hs hb,?_⟩
  repeat((conv=>whnf);first|apply qza|apply qzb|apply qzc|apply qzd|apply qze|intro(_:Nat))
  refine And.intro (fun z5=>?_) (fun z5=>?_)
  ·repeat'((conv=>whnf);first|apply qza|apply qzb|apply qzc|apply qzd|apply qze|intro(_:Nat)|refine And.intro ?_ ?_|fail)
   all_goals (conv=>whnf)
   all_goals (first|exact Eq.refl _|exact fin)
  exact absurd ⟨hs,qGR (nb0 z5)⟩ hgo)
/- Collectors: the program's step,at any place. -/
open Go.Proofs.Ytkbbljngpglnkaa.Sx Go.RowKit
theorem qCP (g:GW) {cs ms:List Value} {w:Wd} {m:Mach} (hw:rWo g cs w) (hM:qnC g ms m) (hsn:SnW w) (hb:BgW 1000000 w):Ok Try.prog qKA [.agg ⟨cs⟩,.agg ⟨ms⟩] g (CoP w m):=by
 by_cases hgo:qmB w m=true∧cMay w m
 ·by_cases hp:0≤m.pc∧m.pc≤10∧m.pc≠7
  ·have hg:cGo w m:=⟨hgo.1,hgo.2,hp⟩
   rcases(show m.pc=0∨m.pc=1∨m.pc=2∨m.pc=3∨m.pc=4∨m.pc=5∨m.pc=6∨m.pc=8∨m.pc=9∨m.pc=10 by omega) with h|h|h|h|h|h|h|h|h|h
   ·exact q8Q g hw hM hsn hb hg h
   ·exact q7Q g hw hM hsn hb hg h
   ·exact q6Q g hw hM hsn hb hg h
   ·exact q5Q g hw hM hsn hb hg h
   ·exact q4Q g hw hM hsn hb hg h
   ·exact q3Q g hw hM hsn hb hg h
   ·exact q2Q g hw hM hsn hb hg h
   ·exact q1Q g hw hM hsn hb hg h
   ·exact q0Q g hw hM hsn hb hg h
   ·exact qCQ g hw hM hsn hb hg h
  ·exact qzQ g hw hM hsn hb hgo.1 hgo.2 hp
 ·exact qyQ g hw hM hsn hb hgo
end Go.Proofs.Ytkbbljngpglnkaa
