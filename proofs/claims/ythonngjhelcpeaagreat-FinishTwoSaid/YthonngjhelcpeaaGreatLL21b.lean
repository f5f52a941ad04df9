/- The law FinishFirst. -/
import Derived.Test.YthonngjhelcpeaaGreatLW21x
set_option linter.unusedVariables false
set_option linter.unusedSimpArgs false
namespace Go.Proofs.YthonngjhelcpeaaGreat
open Go.Proofs.YthonngjhelcpeaaGreat.Sx Go.RowKit
set_option maxHeartbeats 16000000
set_option maxRecDepth 100000
theorem qzM (g:GW) {cs os:List Value} {w:Wd} {th:Int} {o:OpD} (hw:rWo g cs w) (ht:InR th) (hO:rOp g os o):OkV Tryz.prog qqE [.agg ⟨cs⟩,.int .i64 th,.agg ⟨os⟩] g (.bool true):=by
 obtain⟨oa,ca,ob,cb,oc,cc,od,cd,oe,ce,rfl⟩:=qGA hw
 obtain⟨o1,t1,o2,t2,o3,t3,rfl⟩:=qcD hO
 exact Ok.of_fn hm noT 0 qhE (args:=[.v (.agg ⟨wQ w oa ca ob cb oc cc od cd oe ce⟩),.v (.int .i64 th),.v (.agg ⟨oCs o (.slice o1 o.config.listens.length t1) (.slice o2 o.config.routes.length t2) (.slice o3 o.config.clusters.length t3)⟩)]) (by
  repeat((conv=>whnf);first|apply qza|apply qzb|apply qzc|apply qzd|apply qze|intro(_:Nat))
  refine .inr ((q7E _ hw).mono fun v g1 hg1 hB=>?_)
  obtain⟨b,rfl,hB⟩:=hB
  have hw1:=qBA _ _ _ _ hg1 hw
  have hM1:=q0C (qTC _ _ _ _ hg1 hO) ht
  repeat((conv=>whnf);first|apply qza|apply qzb|apply qzc|apply qzd|apply qze|intro(_:Nat))
  conv=>whnf
  refine⟨fun z1=>?_,fun z1=>?_⟩
  ·repeat((conv=>whnf);first|apply qza|apply qzb|apply qzc|apply qzd|apply qze|intro(_:Nat))
   conv=>whnf
   refine .inl ⟨_,qOA _,?_⟩
   repeat((conv=>whnf);first|apply qza|apply qzb|apply qzc|apply qzd|apply qze|intro(_:Nat))
   conv=>whnf
   intro g2 hg
   rfl
  obtain⟨hb,hsn⟩:=hB z1
  have hb':=BgW.up (K':=1000000) hb (by decide)
  repeat((conv=>whnf);first|apply qza|apply qzb|apply qzc|apply qzd|apply qze|intro(_:Nat))
  refine .inr ((q6E _ hw1).mono fun v g2 hg2 hC=>?_)
  obtain⟨b,rfl,hC⟩:=hC
  have hw2:=qBA _ _ _ _ hg2 hw1
  have hM2:=qNA _ _ _ _ hg2 hM1
  repeat((conv=>whnf);first|apply qza|apply qzb|apply qzc|apply qzd|apply qze|intro(_:Nat))
  conv=>whnf
  refine⟨fun z5=>?_,fun z5=>?_⟩
  ·repeat((conv=>whnf);first|apply qza|apply qzb|apply qzc|apply qzd|apply qze|intro(_:Nat))
   conv=>whnf
   refine .inl ⟨_,qOA _,?_⟩
   repeat((conv=>whnf);first|apply qza|apply qzb|apply qzc|apply qzd|apply qze|intro(_:Nat))
   conv=>whnf
   intro g2 hg
   rfl
  have hcalm:=hC (nb0 z5)
  repeat((conv=>whnf);first|apply qza|apply qzb|apply qzc|apply qzd|apply qze|intro(_:Nat))
  conv=>whnf
  refine⟨fun z2=>?_,fun z2=>?_⟩
  ·repeat((conv=>whnf);first|apply qza|apply qzb|apply qzc|apply qzd|apply qze|intro(_:Nat))
   conv=>whnf
   refine .inl ⟨_,qOA _,?_⟩
   repeat((conv=>whnf);first|apply qza|apply qzb|apply qzc|apply qzd|apply qze|intro(_:Nat))
   conv=>whnf
   intro g2 hg
   rfl
  repeat((conv=>whnf);first|apply qza|apply qzb|apply qzc|apply qzd|apply qze|intro(_:Nat))
  conv=>whnf
  refine⟨fun z3=>?_,fun z3=>?_⟩
  ·repeat((conv=>whnf);first|apply qza|apply qzb|apply qzc|apply qzd|apply qze|intro(_:Nat))
   conv=>whnf
   refine .inl ⟨_,qOA _,?_⟩
   repeat((conv=>whnf);first|apply qza|apply qzb|apply qzc|apply qzd|apply qze|intro(_:Nat))
   conv=>whnf
   intro g2 hg
   rfl
  have hsz:SmO (mReq o th):=q8J z2 z3
  repeat((conv=>whnf);first|apply qza|apply qzb|apply qzc|apply qzd|apply qze|intro(_:Nat))
  conv=>whnf
  refine .inl ⟨_,qQA _ hw2 hM2 hsn hb',?_⟩
  repeat((conv=>whnf);first|apply qza|apply qzb|apply qzc|apply qzd|apply qze|intro(_:Nat))
  conv=>whnf
  refine⟨fun z6=>?_,fun z6=>?_⟩
  ·repeat((conv=>whnf);first|apply qza|apply qzb|apply qzc|apply qzd|apply qze|intro(_:Nat))
   conv=>whnf
   refine .inl ⟨_,qOA _,?_⟩
   repeat((conv=>whnf);first|apply qza|apply qzb|apply qzc|apply qzd|apply qze|intro(_:Nat))
   conv=>whnf
   intro g2 hg
   rfl
  have hs:=nb0 z6
  obtain⟨_,_,_,hS⟩:=suitB_iff.1 hs
  have hth:0≤th∧th<w.pins.length:=hS.thread
  have hH:HoldI 1000000 w []:=HoldI.nil hS.right hcalm.la hcalm.ea
  obtain⟨k,x,n1,hk,hway,hd,R⟩:=hH.route (by decide) hs
  repeat((conv=>whnf);first|apply qza|apply qzb|apply qzc|apply qzd|apply qze|intro(_:Nat))
  refine .inr ((qQH _ hw2 ht (qTC _ _ _ _ (GW.trans hg1 hg2) hO) hsn hb' hsz hway hd (by omega)).mono fun v g3 hg3 hA=>?_)
  obtain⟨csx,rfl,hwx,hax⟩:=hA
  obtain⟨xa,ya,xb,yb,xc,yc,xd,yd,xe,ye,rfl⟩:=qGA hwx
  have hw3:=qBA _ _ _ _ hg3 hw2
  have hsnx:=HWay.sn hway hsn
  have hbx:=hway.kept hb'
  repeat((conv=>whnf);first|apply qza|apply qzb|apply qzc|apply qzd|apply qze|intro(_:Nat))
  refine And.intro (fun z=>?_) (fun z=>?_)
  ·repeat((conv=>whnf);first|apply qza|apply qzb|apply qzc|apply qzd|apply qze|intro(_:Nat))
   conv=>whnf
   refine .inl ⟨_,qOA _,?_⟩
   repeat((conv=>whnf);first|apply qza|apply qzb|apply qzc|apply qzd|apply qze|intro(_:Nat))
   conv=>whnf
   intro g2 hg
   rfl
  have hk1:n1.answer.kind=1:=bneF z
  have hold:=R.hold
  rw [addA,if_pos hk1] at hold
  obtain⟨y,n2,way2,hd2,hans2,hold2,hheld2,hlis2,hpins2,en2,l2,h1,h2,h3,h4⟩:=hold.fin (by decide) (t:=th) (by rw [R.pins];exact hth) hk1
  obtain⟨_,_,_,K1⟩:=hold.each _ (List.mem_cons_self ..)
  have hpos:=K1.pos
  repeat((conv=>whnf);first|apply qza|apply qzb|apply qzc|apply qzd|apply qze|intro(_:Nat))
  conv=>whnf
  refine .inl ⟨_,qdD _ ht hax,?_⟩
  repeat((conv=>whnf);first|apply qza|apply qzb|apply qzc|apply qzd|apply qze|intro(_:Nat))
  refine .inr ((qBE _ hwx (qtB _ ht hax) hsnx hbx way2 hd2 (by decide)).mono fun v g4 hg4 hA=>?_)
  obtain⟨csy,rfl,hwy,hay⟩:=hA
  rw [hans2] at hay ⊢
  obtain⟨xa,ya,xb,yb,xc,yc,xd,yd,xe,ye,rfl⟩:=qGA hwy
  obtain⟨vy,gy,hvy,hgy,hey⟩:=qtK h3
  have hFv:=qAG hwy
  obtain⟨av,rfl⟩:=qEA hFv hvy
  obtain⟨oL,cL,oR,cR,oC,cC,oG,cG,hcv,_,_,hcG⟩:=qgC hFv hvy
  obtain⟨ag,rfl⟩:=qEA hcG hgy
  obtain⟨oE,cE,hcg,_,hcE⟩:=q8C hcG hgy
  obtain⟨ae,rfl⟩:=qEA hcE hey
  obtain⟨oN,cN,hce,hei,hcN⟩:=quD hcE hey
  have hi1:=(List.getElem?_eq_some_iff.1 hvy).1
  have hi2:=(List.getElem?_eq_some_iff.1 hgy).1
  have hi3:=(List.getElem?_eq_some_iff.1 hey).1
  repeat'((conv=>whnf);first|apply qza|apply qzb|apply qzc|apply qzd|apply qze|intro(_:Nat)|refine⟨_,rfl,⟨by omega,by omega⟩,?_⟩|refine⟨_,hcv 3 _ rfl,?_⟩|refine⟨_,hcg 1 _ rfl,?_⟩|refine⟨_,⟨rfl,hce⟩,?_⟩|fail)
  refine .inr ((qEG _ ⟨⟨_,rfl,hei.1,hei.2.1,hcN⟩,hei.2.2⟩).mono fun v g5 hg5 hA=>?_)
  unfold qOL at hA
  rw [h4] at hA
  obtain⟨of,cf,rfl,hfr⟩:=hA
  obtain⟨af,rfl⟩:=qEA hfr (i:=0) (x:=n1.answer.slot) rfl
  obtain⟨_,hcf⟩:=qXI hfr (i:=0) (x:=n1.answer.slot) rfl
  repeat((conv=>whnf);first|apply qza|apply qzb|apply qzc|apply qzd|apply qze|intro(_:Nat))
  conv=>whnf
  refine .inl ⟨_,qOA _,?_⟩
  repeat((conv=>whnf);first|apply qza|apply qzb|apply qzc|apply qzd|apply qze|intro(_:Nat))
  conv=>whnf
  refine⟨fun _=>?_,fun h=>nomatch h⟩
  repeat((conv=>whnf);first|apply qza|apply qzb|apply qzc|apply qzd|apply qze|intro(_:Nat))
  conv=>whnf
  refine⟨fun _=>?_,fun h=>nomatch h⟩
  repeat((conv=>whnf);first|apply qza|apply qzb|apply qzc|apply qzd|apply qze|intro(_:Nat))
  conv=>whnf
  refine⟨fun _=>?_,fun hx=>absurd hx (by simp)⟩
  repeat((conv=>whnf);first|apply qza|apply qzb|apply qzc|apply qzd|apply qze|intro(_:Nat))
  repeat'((conv=>whnf);first|apply qza|apply qzb|apply qzc|apply qzd|apply qze|intro(_:Nat)|refine⟨_,rfl,⟨by decide,by simp⟩,?_⟩|refine⟨_,hcf 0 _ rfl,?_⟩|fail)
  conv=>whnf
  refine⟨fun _=>?_,fun hx=>absurd hx (by simp)⟩
  obtain⟨gn,gc,_⟩:=R.got hk1
  repeat((conv=>whnf);first|apply qza|apply qzb|apply qzc|apply qzd|apply qze|intro(_:Nat))
  conv=>whnf
  refine⟨fun _=>?_,fun hx=>absurd hx (by simp [gn,gc,c60])⟩
  repeat((conv=>whnf);first|apply qza|apply qzb|apply qzc|apply qzd|apply qze|intro(_:Nat))
  conv=>whnf
  intro g2 hg
  rfl)
end Go.Proofs.YthonngjhelcpeaaGreat
