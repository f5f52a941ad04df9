/- Scripts: numbers as bytes, the program's way and the document's. -/
import Derived.Test.YthonngjhelcpeaaGreatLK5b
import Derived.Test.YthonngjhelcpeaaGreatPl
import Derived.Test.YthonngjhelcpeaaGreatPP8
import Derived.Test.YthonngjhelcpeaaGreatLS7c
import Derived.Test.YthonngjhelcpeaaGreatLL21b
import Derived.Test.YthonngjhelcpeaaGreatLW9h
import Derived.Test.YthonngjhelcpeaaGreatLW9o
set_option linter.unusedVariables false
set_option linter.unusedSimpArgs false
namespace Go.Proofs.YthonngjhelcpeaaGreat
open Go.Proofs.YthonngjhelcpeaaGreat.Sx Go.RowKit
set_option maxHeartbeats 16000000
set_option maxRecDepth 100000
/- Scripts: bytes as numbers,the program's way. -/
open Go.Proofs.YthonngjhelcpeaaGreat.Sx Go.RowKit
/- Scripts: bytes as numbers,the document's way;what is the same. -/
open Go.Proofs.YthonngjhelcpeaaGreat.Sx Go.RowKit
/- Scripts: what is the same;what the laws ask first. -/
open Go.Proofs.YthonngjhelcpeaaGreat.Sx Go.RowKit
theorem qDV (g:GW) {v v':Value} {l m:List Int} (hl:rSl 1 rInt g v l) (hm':rSl 1 rInt g v' m):OkV Tryz.prog qBJ [v,v'] g (.bool (eqB l m)):=by
 obtain⟨oa,ca,rfl,a1,a2,a0,hl1⟩:=id hl
 obtain⟨ob,cb,rfl,b1,b2,b0,hr1⟩:=id hm'
 exact Ok.of_fn hm noT 0 qsI (args:=[.v (.slice oa l.length ca),.v (.slice ob m.length cb)]) (by
  repeat((conv=>whnf);first|apply qza|apply qzb|apply qzc|apply qzd|apply qze|intro(_:Nat))
  conv=>whnf
  refine⟨fun k3=>?_,fun k3=>?_⟩
  ·conv=>whnf
   intro g2 hg
   rw [qaM (fun e=>by rw [e] at k3;simp at k3)]
  have k3:l.length=m.length:=by simp at k3;omega
  repeat((conv=>whnf);first|apply qza|apply qzb|apply qzc|apply qzd|apply qze|intro(_:Nat))
  conv=>whnf
  refine⟨Nat,fun k=>[.v (.int .i64 k)],fun _=>⟨g,[],_,_⟩,fun k=>k≤l.length∧l.take k=m.take k,fun k=>l.length-k,qJA 0 rfl ⟨Nat.zero_le _,rfl⟩ rfl,?_⟩
  rintro k ⟨hkk,hp⟩
  repeat((conv=>whnf);first|apply qza|apply qzb|apply qzc|apply qzd|apply qze|intro(_:Nat))
  conv=>whnf
  refine⟨fun hlt=>?_,fun hlt=>?_⟩
  ·have h':k<l.length:=by have:=of_decide_eq_true hlt;omega
   obtain⟨u,hu⟩:=qCA h'
   obtain⟨v,hv⟩:=qCA (show k<m.length by omega)
   obtain⟨a,rfl,ec,hec,⟨rfl,_⟩,hc⟩:=hl1 k u hu
   obtain⟨a',rfl,ec',hec',⟨rfl,_⟩,hc'⟩:=hr1 k v hv
   repeat((conv=>whnf);first|apply qza|apply qzb|apply qzc|apply qzd|apply qze|intro(_:Nat))
   conv=>whnf
   refine⟨a,rfl,⟨by omega,by omega⟩,?_⟩
   conv=>whnf
   refine⟨_,hc 0 _ rfl,?_⟩
   repeat((conv=>whnf);first|apply qza|apply qzb|apply qzc|apply qzd|apply qze|intro(_:Nat))
   conv=>whnf
   refine⟨a',rfl,⟨by omega,by omega⟩,?_⟩
   conv=>whnf
   refine⟨_,hc' 0 _ rfl,?_⟩
   repeat((conv=>whnf);first|apply qza|apply qzb|apply qzc|apply qzd|apply qze|intro(_:Nat))
   conv=>whnf
   refine⟨fun he=>?_,fun he=>?_⟩
   ·conv=>whnf
    intro g2 hg
    rw [qaM (fun e=>?_)]
    rw [← e,hu] at hv
    cases hv
    simp at he
   ·have huv:u=v:=by simpa using he
    conv=>whnf
    refine fun fr w hw=>⟨k+1,congrArg (fun z=>[Value.int .i64 z]) (wr1 h' a1 a2).symm,⟨h',qeL hp hu hv huv⟩,dec h',hw⟩
  ·conv=>whnf
   intro g2 hg
   have:=of_decide_eq_false hlt
   rw [List.take_of_length_le (by omega),List.take_of_length_le (by omega)] at hp
   rw [qGN hp])
/- The law FinishBack. -/
open Go.Proofs.YthonngjhelcpeaaGreat.Sx Go.RowKit
theorem qKO (g:GW) {cs os:List Value} {w:Wd} {th:Int} {o:OpD} (hw:rWo g cs w) (ht:InR th) (hO:rOp g os o):OkV Tryz.prog qLF [.agg ⟨cs⟩,.int .i64 th,.agg ⟨os⟩] g (.bool true):=by
 obtain⟨oa,ca,ob,cb,oc,cc,od,cd,oe,ce,rfl⟩:=qGA hw
 obtain⟨o1,t1,o2,t2,o3,t3,rfl⟩:=qcD hO
 exact Ok.of_fn hm noT 0 qHF (args:=[.v (.agg ⟨wQ w oa ca ob cb oc cc od cd oe ce⟩),.v (.int .i64 th),.v (.agg ⟨oCs o (.slice o1 o.config.listens.length t1) (.slice o2 o.config.routes.length t2) (.slice o3 o.config.clusters.length t3)⟩)]) (by
  repeat((conv=>whnf);first|apply qza|apply qzb|apply qzc|apply qzd|apply qze|intro(_:Nat))
  refine .inr ((q7E _ hw).mono fun v g1 hg1 hB=>?_)
  obtain⟨b,rfl,hB⟩:=hB
  have hw1:=qBA _ _ _ _ hg1 hw
  have hM1:=q0C (qTC _ _ _ _ hg1 hO) ht
  repeat((conv=>whnf);first|apply qza|apply qzb|apply qzc|apply qzd|apply qze|intro(_:Nat))
  conv=>whnf
  refine⟨fun z1=>?_,fun z1=>?_⟩
  ·repeat((conv=>whnf);first|apply qza|apply qzb|apply qzc|apply qzd|apply qze|intro(_:Nat))
   conv=>whnf
   refine .inl ⟨_,qOA _,?_⟩
   repeat((conv=>whnf);first|apply qza|apply qzb|apply qzc|apply qzd|apply qze|intro(_:Nat))
   conv=>whnf
   intro g2 hg
   rfl
  obtain⟨hb,hsn⟩:=hB z1
  have hb':=BgW.up (K':=1000000) hb (by decide)
  repeat((conv=>whnf);first|apply qza|apply qzb|apply qzc|apply qzd|apply qze|intro(_:Nat))
  refine .inr ((q6E _ hw1).mono fun v g2 hg2 hC=>?_)
  obtain⟨b,rfl,hC⟩:=hC
  have hw2:=qBA _ _ _ _ hg2 hw1
  have hM2:=qNA _ _ _ _ hg2 hM1
  repeat((conv=>whnf);first|apply qza|apply qzb|apply qzc|apply qzd|apply qze|intro(_:Nat))
  conv=>whnf
  refine⟨fun z5=>?_,fun z5=>?_⟩
  ·repeat((conv=>whnf);first|apply qza|apply qzb|apply qzc|apply qzd|apply qze|intro(_:Nat))
   conv=>whnf
   refine .inl ⟨_,qOA _,?_⟩
   repeat((conv=>whnf);first|apply qza|apply qzb|apply qzc|apply qzd|apply qze|intro(_:Nat))
   conv=>whnf
   intro g2 hg
   rfl
  have hcalm:=hC (nb0 z5)
  repeat((conv=>whnf);first|apply qza|apply qzb|apply qzc|apply qzd|apply qze|intro(_:Nat))
  conv=>whnf
  refine⟨fun z2=>?_,fun z2=>?_⟩
  ·repeat((conv=>whnf);first|apply qza|apply qzb|apply qzc|apply qzd|apply qze|intro(_:Nat))
   conv=>whnf
   refine .inl ⟨_,qOA _,?_⟩
   repeat((conv=>whnf);first|apply qza|apply qzb|apply qzc|apply qzd|apply qze|intro(_:Nat))
   conv=>whnf
   intro g2 hg
   rfl
  repeat((conv=>whnf);first|apply qza|apply qzb|apply qzc|apply qzd|apply qze|intro(_:Nat))
  conv=>whnf
  refine⟨fun z3=>?_,fun z3=>?_⟩
  ·repeat((conv=>whnf);first|apply qza|apply qzb|apply qzc|apply qzd|apply qze|intro(_:Nat))
   conv=>whnf
   refine .inl ⟨_,qOA _,?_⟩
   repeat((conv=>whnf);first|apply qza|apply qzb|apply qzc|apply qzd|apply qze|intro(_:Nat))
   conv=>whnf
   intro g2 hg
   rfl
  have hsz:SmO (mReq o th):=q8J z2 z3
  repeat((conv=>whnf);first|apply qza|apply qzb|apply qzc|apply qzd|apply qze|intro(_:Nat))
  conv=>whnf
  refine .inl ⟨_,qQA _ hw2 hM2 hsn hb',?_⟩
  repeat((conv=>whnf);first|apply qza|apply qzb|apply qzc|apply qzd|apply qze|intro(_:Nat))
  conv=>whnf
  refine⟨fun z6=>?_,fun z6=>?_⟩
  ·repeat((conv=>whnf);first|apply qza|apply qzb|apply qzc|apply qzd|apply qze|intro(_:Nat))
   conv=>whnf
   refine .inl ⟨_,qOA _,?_⟩
   repeat((conv=>whnf);first|apply qza|apply qzb|apply qzc|apply qzd|apply qze|intro(_:Nat))
   conv=>whnf
   intro g2 hg
   rfl
  have hs:=nb0 z6
  obtain⟨_,_,_,hS⟩:=suitB_iff.1 hs
  have hth:0≤th∧th<w.pins.length:=hS.thread
  have hH:HoldI 1000000 w []:=HoldI.nil hS.right hcalm.la hcalm.ea
  obtain⟨k,x,n1,hk,hway,hd,R⟩:=hH.route (by decide) hs
  repeat((conv=>whnf);first|apply qza|apply qzb|apply qzc|apply qzd|apply qze|intro(_:Nat))
  refine .inr ((qQH _ hw2 ht (qTC _ _ _ _ (GW.trans hg1 hg2) hO) hsn hb' hsz hway hd (by omega)).mono fun v g3 hg3 hA=>?_)
  obtain⟨csx,rfl,hwx,hax⟩:=hA
  obtain⟨xa,ya,xb,yb,xc,yc,xd,yd,xe,ye,rfl⟩:=qGA hwx
  have hw3:=qBA _ _ _ _ hg3 hw2
  have hsnx:=HWay.sn hway hsn
  have hbx:=hway.kept hb'
  by_cases hk1:n1.answer.kind=1
  rotate_left
  ·obtain⟨n2,way2,hd2,hans2⟩:=qlO (w:=x) R.hold.right (t:=th) (by rw [R.pins];exact hth) hk1 (R.none hk1)
   repeat((conv=>whnf);first|apply qza|apply qzb|apply qzc|apply qzd|apply qze|intro(_:Nat))
   conv=>whnf
   refine .inl ⟨_,qdD _ ht hax,?_⟩
   repeat((conv=>whnf);first|apply qza|apply qzb|apply qzc|apply qzd|apply qze|intro(_:Nat))
   refine .inr ((qBE _ hwx (qtB _ ht hax) hsnx hbx way2 hd2 (by decide)).mono fun v g4 hg4 hA=>?_)
   obtain⟨csy,rfl,hwy,hay⟩:=hA
   rw [hans2] at hay ⊢
   obtain⟨_,_,_,_,_,_,_,_,_,_,rfl⟩:=qGA hwy
   repeat((conv=>whnf);first|apply qza|apply qzb|apply qzc|apply qzd|apply qze|intro(_:Nat))
   conv=>whnf
   refine⟨fun _=>?_,fun hx=>absurd (bneF hx) hk1⟩
   repeat((conv=>whnf);first|apply qza|apply qzb|apply qzc|apply qzd|apply qze|intro(_:Nat))
   conv=>whnf
   refine .inl ⟨_,qOA _,?_⟩
   repeat((conv=>whnf);first|apply qza|apply qzb|apply qzc|apply qzd|apply qze|intro(_:Nat))
   conv=>whnf
   refine⟨fun _=>?_,fun h=>nomatch h⟩
   repeat((conv=>whnf);first|apply qza|apply qzb|apply qzc|apply qzd|apply qze|intro(_:Nat))
   conv=>whnf
   refine⟨fun _=>?_,fun hx=>absurd hx (by simp [ansK])⟩
   repeat((conv=>whnf);first|apply qza|apply qzb|apply qzc|apply qzd|apply qze|intro(_:Nat))
   conv=>whnf
   refine .inl ⟨_,q3U _ (qBA _ _ _ _ hg4 hwx) hwy,?_⟩
   repeat((conv=>whnf);first|apply qza|apply qzb|apply qzc|apply qzd|apply qze|intro(_:Nat))
   conv=>whnf
   intro g2 hg
   simp
  have hold:=R.hold
  rw [addA,if_pos hk1] at hold
  obtain⟨y,n2,way2,hd2,hans2,hold2,hheld2,hlis2,hpins2,en2,l2,h1,h2,h3,h4⟩:=hold.fin (by decide) (t:=th) (by rw [R.pins];exact hth) hk1
  obtain⟨_,_,_,K1⟩:=hold.each _ (List.mem_cons_self ..)
  have hpos:=K1.pos
  obtain⟨gn,gc,en1,r1,q1,q2,q3,q4⟩:=R.got hk1
  obtain rfl:en2=_:=Option.some.inj (h1.symm.trans q3)
  obtain rfl:l2=r1:=Option.some.inj (h2.symm.trans q4)
  have hyh:qSB y=qSB w:=by rw [hheld2,R.held,if_pos hk1];omega
  have hyl:y.listens=w.listens:=by rw [hlis2,R.lis,updL,if_pos hk1];exact qFS ..
  have hby:=way2.kept (hway.kept (BgW.up (K':=1000) hb (by decide)))
  have hsny:=FWay.sn way2 hsnx
  repeat((conv=>whnf);first|apply qza|apply qzb|apply qzc|apply qzd|apply qze|intro(_:Nat))
  conv=>whnf
  refine .inl ⟨_,qdD _ ht hax,?_⟩
  repeat((conv=>whnf);first|apply qza|apply qzb|apply qzc|apply qzd|apply qze|intro(_:Nat))
  refine .inr ((qBE _ hwx (qtB _ ht hax) hsnx hbx way2 hd2 (by decide)).mono fun v g4 hg4 hA=>?_)
  obtain⟨csy,rfl,hwy,hay⟩:=hA
  rw [hans2] at hay ⊢
  obtain⟨xa,ya,xb,yb,xc,yc,xd,yd,xe,ye,rfl⟩:=qGA hwy
  have hw4:=qBA _ _ _ _ hg4 hw3
  repeat((conv=>whnf);first|apply qza|apply qzb|apply qzc|apply qzd|apply qze|intro(_:Nat))
  conv=>whnf
  refine⟨fun hx=>absurd hk1 (bneT hx),fun _=>?_⟩
  repeat((conv=>whnf);first|apply qza|apply qzb|apply qzc|apply qzd|apply qze|intro(_:Nat))
  conv=>whnf
  refine⟨fun hx=>absurd hx (by simp),fun _=>?_⟩
  repeat((conv=>whnf);first|apply qza|apply qzb|apply qzc|apply qzd|apply qze|intro(_:Nat))
  refine .inr ((qAB _ hwy hby).mono fun v g5 hg5 hA=>?_)
  subst hA
  repeat((conv=>whnf);first|apply qza|apply qzb|apply qzc|apply qzd|apply qze|intro(_:Nat))
  refine .inr ((qAB _ (qBA _ _ _ _ hg5 hw4) (BgW.up (K':=1000) hb (by decide))).mono fun v g6 hg6 hA=>?_)
  subst hA
  have hwy6:=qBA _ _ _ _ (GW.trans hg5 hg6) hwy
  have hw6:=qBA _ _ _ _ (GW.trans hg5 hg6) hw4
  repeat((conv=>whnf);first|apply qza|apply qzb|apply qzc|apply qzd|apply qze|intro(_:Nat))
  conv=>whnf
  refine⟨fun hx=>absurd hyh (bneT hx),fun _=>?_⟩
  repeat((conv=>whnf);first|apply qza|apply qzb|apply qzc|apply qzd|apply qze|intro(_:Nat))
  conv=>whnf
  refine .inl ⟨_,(q1L _ hwy6 hsny).to (congrArg Value.bool hold2.right),?_⟩
  repeat((conv=>whnf);first|apply qza|apply qzb|apply qzc|apply qzd|apply qze|intro(_:Nat))
  conv=>whnf
  refine⟨fun h=>(nomatch h),fun _=>?_⟩
  repeat((conv=>whnf);first|apply qza|apply qzb|apply qzc|apply qzd|apply qze|intro(_:Nat))
  conv=>whnf
  refine⟨fun hx=>absurd (by rw [hyl]) (nneT hx),fun _=>?_⟩
  have hLy:=quG hwy6
  rw [hyl] at hLy
  have hLw:=quG hw6
  have hll:=hb'.1.2.2.1
  conv=>whnf
  refine⟨Nat,fun k=>[.v (.int .i64 k)],fun _=>⟨_,_,_,_⟩,fun k=>k≤w.listens.length,fun k=>w.listens.length-k,qJA 0 rfl (Nat.zero_le _) rfl,?_⟩
  intro k hk
  replace hk:k≤w.listens.length:=hk
  repeat((conv=>whnf);first|apply qza|apply qzb|apply qzc|apply qzd|apply qze|intro(_:Nat))
  conv=>whnf
  refine⟨fun hlt=>?_,fun hlt=>?_⟩
  ·have h':k<w.listens.length:=by have:=of_decide_eq_true hlt;omega
   obtain⟨z,hz⟩:=qCA h'
   obtain⟨ax,rfl⟩:=qEA hLy hz
   obtain⟨aw,rfl⟩:=qEA hLw hz
   obtain⟨_,hcx⟩:=qoD hLy hz
   obtain⟨_,hcw⟩:=qoD hLw hz
   repeat((conv=>whnf);first|apply qza|apply qzb|apply qzc|apply qzd|apply qze|intro(_:Nat))
   repeat'((conv=>whnf);first|apply qza|apply qzb|apply qzc|apply qzd|apply qze|intro(_:Nat)|refine⟨_,rfl,⟨by omega,by omega⟩,?_⟩|refine⟨_,rfl,⟨by omega,by rw [hyl];omega⟩,?_⟩|refine⟨_,⟨rfl,hcw⟩,?_⟩|refine⟨_,⟨rfl,hcx⟩,?_⟩|fail)
   refine And.intro (fun hx=>absurd hx (by simp)) (fun _=>?_)
   repeat((conv=>whnf);first|apply qza|apply qzb|apply qzc|apply qzd|apply qze|intro(_:Nat))
   conv=>whnf
   refine fun fr w' hu=>⟨k+1,congrArg (fun z=>[Value.int .i64 z]) (show((k+1:Nat):Int)=IntKind.i64.wrap ((k:Int)+1) by rw [wr (x:=(k:Int)+1) (by unfold InR;omega)];omega),h',dec h',?_⟩
   exact hu.fit (by simp [fitL,Res.eqv,qDA,conc])
  obtain⟨vw,gw,hvw,hgw,hew⟩:=qtK q1
  obtain⟨vy,gy,hvy,hgy,hey⟩:=qtK h3
  have hFw:=qAG hw6
  obtain⟨aw,rfl⟩:=qEA hFw hvw
  obtain⟨oL,cL,oR,cR,oC,cC,oG,cG,hcvw,_,_,hcGw⟩:=qgC hFw hvw
  obtain⟨agw,rfl⟩:=qEA hcGw hgw
  obtain⟨oE,cE,hcgw,_,hcEw⟩:=q8C hcGw hgw
  obtain⟨aew,rfl⟩:=qEA hcEw hew
  obtain⟨oN,cN,hcew,heiw,hcNw⟩:=quD hcEw hew
  have hFy:=qAG hwy6
  obtain⟨ay,rfl⟩:=qEA hFy hvy
  obtain⟨oL2,cL2,oR2,cR2,oC2,cC2,oG2,cG2,hcvy,_,_,hcGy⟩:=qgC hFy hvy
  obtain⟨agy,rfl⟩:=qEA hcGy hgy
  obtain⟨oE2,cE2,hcgy,_,hcEy⟩:=q8C hcGy hgy
  obtain⟨aey,rfl⟩:=qEA hcEy hey
  obtain⟨oN2,cN2,hcey,heiy,hcNy⟩:=quD hcEy hey
  have hi1:=(List.getElem?_eq_some_iff.1 hvw).1
  have hi2:=(List.getElem?_eq_some_iff.1 hgw).1
  have hi3:=(List.getElem?_eq_some_iff.1 hew).1
  have hj1:=(List.getElem?_eq_some_iff.1 hvy).1
  have hj2:=(List.getElem?_eq_some_iff.1 hgy).1
  have hj3:=(List.getElem?_eq_some_iff.1 hey).1
  repeat((conv=>whnf);first|apply qza|apply qzb|apply qzc|apply qzd|apply qze|intro(_:Nat))
  conv=>whnf
  refine⟨_,rfl,⟨by omega,by omega⟩,?_⟩
  repeat((conv=>whnf);first|apply qza|apply qzb|apply qzc|apply qzd|apply qze|intro(_:Nat))
  conv=>whnf
  refine⟨_,hcvw 3 _ rfl,?_⟩
  repeat((conv=>whnf);first|apply qza|apply qzb|apply qzc|apply qzd|apply qze|intro(_:Nat))
  conv=>whnf
  refine⟨_,rfl,⟨by omega,by omega⟩,?_⟩
  repeat((conv=>whnf);first|apply qza|apply qzb|apply qzc|apply qzd|apply qze|intro(_:Nat))
  conv=>whnf
  refine⟨_,hcgw 1 _ rfl,?_⟩
  repeat((conv=>whnf);first|apply qza|apply qzb|apply qzc|apply qzd|apply qze|intro(_:Nat))
  conv=>whnf
  refine⟨_,rfl,⟨by omega,by omega⟩,?_⟩
  repeat((conv=>whnf);first|apply qza|apply qzb|apply qzc|apply qzd|apply qze|intro(_:Nat))
  conv=>whnf
  refine⟨_,⟨rfl,hcew⟩,?_⟩
  repeat((conv=>whnf);first|apply qza|apply qzb|apply qzc|apply qzd|apply qze|intro(_:Nat))
  refine .inr ((qEG _ ⟨⟨_,rfl,heiw.1,heiw.2.1,hcNw⟩,heiw.2.2⟩).mono fun v g7 hg7 hA=>?_)
  unfold qOL at hA
  rw [q2] at hA
  obtain⟨of1,cf1,rfl,hfr1⟩:=hA
  repeat((conv=>whnf);first|apply qza|apply qzb|apply qzc|apply qzd|apply qze|intro(_:Nat))
  conv=>whnf
  refine⟨_,rfl,⟨by omega,by omega⟩,?_⟩
  repeat((conv=>whnf);first|apply qza|apply qzb|apply qzc|apply qzd|apply qze|intro(_:Nat))
  conv=>whnf
  refine⟨_,hcvy.mono hg7 3 _ rfl,?_⟩
  repeat((conv=>whnf);first|apply qza|apply qzb|apply qzc|apply qzd|apply qze|intro(_:Nat))
  conv=>whnf
  refine⟨_,rfl,⟨by omega,by omega⟩,?_⟩
  repeat((conv=>whnf);first|apply qza|apply qzb|apply qzc|apply qzd|apply qze|intro(_:Nat))
  conv=>whnf
  refine⟨_,hcgy.mono hg7 1 _ rfl,?_⟩
  repeat((conv=>whnf);first|apply qza|apply qzb|apply qzc|apply qzd|apply qze|intro(_:Nat))
  conv=>whnf
  refine⟨_,rfl,⟨by omega,by omega⟩,?_⟩
  repeat((conv=>whnf);first|apply qza|apply qzb|apply qzc|apply qzd|apply qze|intro(_:Nat))
  conv=>whnf
  refine⟨_,⟨rfl,hcey.mono hg7⟩,?_⟩
  repeat((conv=>whnf);first|apply qza|apply qzb|apply qzc|apply qzd|apply qze|intro(_:Nat))
  refine .inr ((qEG _ ⟨⟨_,rfl,heiy.1,heiy.2.1,hcNy.mono q3A hg7⟩,heiy.2.2⟩).mono fun v g8 hg8 hA=>?_)
  unfold qOL at hA
  rw [h4] at hA
  obtain⟨of2,cf2,rfl,hfr2⟩:=hA
  have hg78:=GW.trans hg7 hg8
  repeat((conv=>whnf);first|apply qza|apply qzb|apply qzc|apply qzd|apply qze|intro(_:Nat))
  conv=>whnf
  refine .inl ⟨_,qOA _,?_⟩
  repeat((conv=>whnf);first|apply qza|apply qzb|apply qzc|apply qzd|apply qze|intro(_:Nat))
  conv=>whnf
  refine⟨fun _=>?_,fun h=>nomatch h⟩
  repeat((conv=>whnf);first|apply qza|apply qzb|apply qzc|apply qzd|apply qze|intro(_:Nat))
  conv=>whnf
  refine⟨fun _=>?_,fun h=>nomatch h⟩
  repeat((conv=>whnf);first|apply qza|apply qzb|apply qzc|apply qzd|apply qze|intro(_:Nat))
  conv=>whnf
  refine⟨fun _=>?_,fun h=>nomatch h⟩
  repeat((conv=>whnf);first|apply qza|apply qzb|apply qzc|apply qzd|apply qze|intro(_:Nat))
  conv=>whnf
  refine .inl ⟨_,qDV _ (hfr1.mono q3A hg8) hfr2,?_⟩
  repeat((conv=>whnf);first|apply qza|apply qzb|apply qzc|apply qzd|apply qze|intro(_:Nat))
  conv=>whnf
  refine⟨fun _=>?_,fun hx=>absurd hx (by simp [eqB])⟩
  repeat((conv=>whnf);first|apply qza|apply qzb|apply qzc|apply qzd|apply qze|intro(_:Nat))
  conv=>whnf
  refine⟨_,rfl,⟨by omega,by omega⟩,?_⟩
  repeat((conv=>whnf);first|apply qza|apply qzb|apply qzc|apply qzd|apply qze|intro(_:Nat))
  conv=>whnf
  refine⟨_,hcvw.mono hg78 3 _ rfl,?_⟩
  repeat((conv=>whnf);first|apply qza|apply qzb|apply qzc|apply qzd|apply qze|intro(_:Nat))
  conv=>whnf
  refine⟨_,rfl,⟨by omega,by omega⟩,?_⟩
  repeat((conv=>whnf);first|apply qza|apply qzb|apply qzc|apply qzd|apply qze|intro(_:Nat))
  conv=>whnf
  refine⟨_,hcgw.mono hg78 1 _ rfl,?_⟩
  repeat((conv=>whnf);first|apply qza|apply qzb|apply qzc|apply qzd|apply qze|intro(_:Nat))
  conv=>whnf
  refine⟨_,rfl,⟨by omega,by omega⟩,?_⟩
  repeat((conv=>whnf);first|apply qza|apply qzb|apply qzc|apply qzd|apply qze|intro(_:Nat))
  conv=>whnf
  refine⟨_,hcew.mono hg78 2 _ rfl,?_⟩
  repeat((conv=>whnf);first|apply qza|apply qzb|apply qzc|apply qzd|apply qze|intro(_:Nat))
  conv=>whnf
  refine⟨_,rfl,⟨by omega,by omega⟩,?_⟩
  repeat((conv=>whnf);first|apply qza|apply qzb|apply qzc|apply qzd|apply qze|intro(_:Nat))
  conv=>whnf
  refine⟨_,hcvy.mono hg78 3 _ rfl,?_⟩
  repeat((conv=>whnf);first|apply qza|apply qzb|apply qzc|apply qzd|apply qze|intro(_:Nat))
  conv=>whnf
  refine⟨_,rfl,⟨by omega,by omega⟩,?_⟩
  repeat((conv=>whnf);first|apply qza|apply qzb|apply qzc|apply qzd|apply qze|intro(_:Nat))
  conv=>whnf
  refine⟨_,hcgy.mono hg78 1 _ rfl,?_⟩
  repeat((conv=>whnf);first|apply qza|apply qzb|apply qzc|apply qzd|apply qze|intro(_:Nat))
  conv=>whnf
  refine⟨_,rfl,⟨by omega,by omega⟩,?_⟩
  repeat((conv=>whnf);first|apply qza|apply qzb|apply qzc|apply qzd|apply qze|intro(_:Nat))
  conv=>whnf
  refine⟨_,hcey.mono hg78 2 _ rfl,?_⟩
  repeat((conv=>whnf);first|apply qza|apply qzb|apply qzc|apply qzd|apply qze|intro(_:Nat))
  conv=>whnf
  intro g2 hg
  simp [qrC,popE])
end Go.Proofs.YthonngjhelcpeaaGreat
