/- The law FinishTwo. -/
import Derived.Test.YthonngjhelcpeaaGreatLW8
import Derived.Test.YthonngjhelcpeaaGreatPP47
set_option linter.unusedVariables false
set_option linter.unusedSimpArgs false
namespace Go.Proofs.YthonngjhelcpeaaGreat
open Go.Proofs.YthonngjhelcpeaaGreat.Sx Go.RowKit
set_option maxHeartbeats 16000000
set_option maxRecDepth 100000
theorem qgP (g:GW) {cs os ps:List Value} {w:Wd} {th:Int} {o p:OpD} (hw:rWo g cs w) (ht:InR th) (hO:rOp g os o) (hQ:rOp g ps p):OkV Tryz.prog qlF [.agg ⟨cs⟩,.int .i64 th,.agg ⟨os⟩,.agg ⟨ps⟩] g (.bool true):=by
 obtain⟨oa,ca,ob,cb,oc,cc,od,cd,oe,ce,rfl⟩:=qGA hw
 obtain⟨o1,t1,o2,t2,o3,t3,rfl⟩:=qcD hO
 obtain⟨r1,u1,r2,u2,r3,u3,rfl⟩:=qcD hQ
 exact Ok.of_fn hm noT 0 qbF (args:=[.v (.agg ⟨wQ w oa ca ob cb oc cc od cd oe ce⟩),.v (.int .i64 th),.v (.agg ⟨oCs o (.slice o1 o.config.listens.length t1) (.slice o2 o.config.routes.length t2) (.slice o3 o.config.clusters.length t3)⟩),.v (.agg ⟨oCs p (.slice r1 p.config.listens.length u1) (.slice r2 p.config.routes.length u2) (.slice r3 p.config.clusters.length u3)⟩)]) (by
  repeat((conv=>whnf);first|apply qza|apply qzb|apply qzc|apply qzd|apply qze|intro(_:Nat))
  refine .inr ((q7E _ hw).mono fun v g1 hg1 hB=>?_)
  obtain⟨b,rfl,hB⟩:=hB
  have hw1:=qBA _ _ _ _ hg1 hw
  have hM1:=q0C (qTC _ _ _ _ hg1 hO) ht
  repeat((conv=>whnf);first|apply qza|apply qzb|apply qzc|apply qzd|apply qze|intro(_:Nat))
  conv=>whnf
  refine⟨fun z1=>?_,fun z1=>?_⟩
  ·repeat((conv=>whnf);first|apply qza|apply qzb|apply qzc|apply qzd|apply qze|intro(_:Nat))
   conv=>whnf
   refine .inl ⟨_,qOA _,?_⟩
   repeat((conv=>whnf);first|apply qza|apply qzb|apply qzc|apply qzd|apply qze|intro(_:Nat))
   conv=>whnf
   intro g2 hg
   rfl
  obtain⟨hb,hsn⟩:=hB z1
  have hb':=BgW.up (K':=1000000) hb (by decide)
  repeat((conv=>whnf);first|apply qza|apply qzb|apply qzc|apply qzd|apply qze|intro(_:Nat))
  refine .inr ((q6E _ hw1).mono fun v g2 hg2 hC=>?_)
  obtain⟨b,rfl,hC⟩:=hC
  have hw2:=qBA _ _ _ _ hg2 hw1
  have hM2:=qNA _ _ _ _ hg2 hM1
  repeat((conv=>whnf);first|apply qza|apply qzb|apply qzc|apply qzd|apply qze|intro(_:Nat))
  conv=>whnf
  refine⟨fun z5=>?_,fun z5=>?_⟩
  ·repeat((conv=>whnf);first|apply qza|apply qzb|apply qzc|apply qzd|apply qze|intro(_:Nat))
   conv=>whnf
   refine .inl ⟨_,qOA _,?_⟩
   repeat((conv=>whnf);first|apply qza|apply qzb|apply qzc|apply qzd|apply qze|intro(_:Nat))
   conv=>whnf
   intro g2 hg
   rfl
  have hcalm:=hC (nb0 z5)
  repeat((conv=>whnf);first|apply qza|apply qzb|apply qzc|apply qzd|apply qze|intro(_:Nat))
  conv=>whnf
  refine⟨fun z2=>?_,fun z2=>?_⟩
  ·repeat((conv=>whnf);first|apply qza|apply qzb|apply qzc|apply qzd|apply qze|intro(_:Nat))
   conv=>whnf
   refine .inl ⟨_,qOA _,?_⟩
   repeat((conv=>whnf);first|apply qza|apply qzb|apply qzc|apply qzd|apply qze|intro(_:Nat))
   conv=>whnf
   intro g2 hg
   rfl
  repeat((conv=>whnf);first|apply qza|apply qzb|apply qzc|apply qzd|apply qze|intro(_:Nat))
  conv=>whnf
  refine⟨fun z3=>?_,fun z3=>?_⟩
  ·repeat((conv=>whnf);first|apply qza|apply qzb|apply qzc|apply qzd|apply qze|intro(_:Nat))
   conv=>whnf
   refine .inl ⟨_,qOA _,?_⟩
   repeat((conv=>whnf);first|apply qza|apply qzb|apply qzc|apply qzd|apply qze|intro(_:Nat))
   conv=>whnf
   intro g2 hg
   rfl
  repeat((conv=>whnf);first|apply qza|apply qzb|apply qzc|apply qzd|apply qze|intro(_:Nat))
  conv=>whnf
  refine⟨fun z7=>?_,fun z7=>?_⟩
  ·repeat((conv=>whnf);first|apply qza|apply qzb|apply qzc|apply qzd|apply qze|intro(_:Nat))
   conv=>whnf
   refine .inl ⟨_,qOA _,?_⟩
   repeat((conv=>whnf);first|apply qza|apply qzb|apply qzc|apply qzd|apply qze|intro(_:Nat))
   conv=>whnf
   intro g2 hg
   rfl
  repeat((conv=>whnf);first|apply qza|apply qzb|apply qzc|apply qzd|apply qze|intro(_:Nat))
  conv=>whnf
  refine⟨fun z8=>?_,fun z8=>?_⟩
  ·repeat((conv=>whnf);first|apply qza|apply qzb|apply qzc|apply qzd|apply qze|intro(_:Nat))
   conv=>whnf
   refine .inl ⟨_,qOA _,?_⟩
   repeat((conv=>whnf);first|apply qza|apply qzb|apply qzc|apply qzd|apply qze|intro(_:Nat))
   conv=>whnf
   intro g2 hg
   rfl
  have hsz:SmO (mReq o th):=q8J z2 z3
  have hszp:SmO (mReq p th):=q8J z7 z8
  repeat((conv=>whnf);first|apply qza|apply qzb|apply qzc|apply qzd|apply qze|intro(_:Nat))
  conv=>whnf
  refine .inl ⟨_,qQA _ hw2 hM2 hsn hb',?_⟩
  repeat((conv=>whnf);first|apply qza|apply qzb|apply qzc|apply qzd|apply qze|intro(_:Nat))
  conv=>whnf
  refine⟨fun z6=>?_,fun z6=>?_⟩
  ·repeat((conv=>whnf);first|apply qza|apply qzb|apply qzc|apply qzd|apply qze|intro(_:Nat))
   conv=>whnf
   refine .inl ⟨_,qOA _,?_⟩
   repeat((conv=>whnf);first|apply qza|apply qzb|apply qzc|apply qzd|apply qze|intro(_:Nat))
   conv=>whnf
   intro g2 hg
   rfl
  have hs:=nb0 z6
  obtain⟨_,_,_,hS⟩:=suitB_iff.1 hs
  have hth:0≤th∧th<w.pins.length:=hS.thread
  have hH:HoldI 1000000 w []:=HoldI.nil hS.right hcalm.la hcalm.ea
  obtain⟨k,x,n1,hk,hway,hd,R⟩:=hH.route (by decide) hs
  repeat((conv=>whnf);first|apply qza|apply qzb|apply qzc|apply qzd|apply qze|intro(_:Nat))
  refine .inr ((qQH _ hw2 ht (qTC _ _ _ _ (GW.trans hg1 hg2) hO) hsn hb' hsz hway hd (by omega)).mono fun v g3 hg3 hA=>?_)
  obtain⟨csx,rfl,hwx,hax⟩:=hA
  obtain⟨xa,ya,xb,yb,xc,yc,xd,yd,xe,ye,rfl⟩:=qGA hwx
  have hw3:=qBA _ _ _ _ hg3 hw2
  have hsnx:=HWay.sn hway hsn
  have hbx:=hway.kept hb'
  have hl0:0<x.listens.length:=by rw [R.lis,qjU];have:=hS.listen.2;simp only [mReq] at this;omega
  have hs2:qLC x (mReq p th)=true:=qpU R.hold.right p (by rw [R.pins];exact hth) hl0
  obtain⟨k2,y,n2,hk2,hway2,hd2,R2⟩:=R.hold.route (by decide) hs2
  repeat((conv=>whnf);first|apply qza|apply qzb|apply qzc|apply qzd|apply qze|intro(_:Nat))
  refine .inr ((qQH _ hwx ht (qTC _ _ _ _ (GW.trans (GW.trans hg1 hg2) hg3) hQ) hsnx hbx hszp hway2 hd2 (by omega)).mono fun v g4 hg4 hA=>?_)
  obtain⟨csy,rfl,hwy,hay⟩:=hA
  obtain⟨xa,ya,xb,yb,xc,yc,xd,yd,xe,ye,rfl⟩:=qGA hwy
  have hsny:=HWay.sn hway2 hsnx
  have hby:=hway2.kept hbx
  have hty:0≤th∧th<y.pins.length:=by rw [R2.pins,R.pins];exact hth
  obtain⟨kc,c,nc,ekc,wc,dc,Hc,cheld,clis,cpin⟩:=(qdU R2.hold).endA (by decide) hty R.none
  obtain⟨kd,d,nd,ekd,wd,dd,Hd,dheld,dlis,dpin⟩:=Hc.endA (by decide) (by rw [cpin];exact hty) R2.none
  obtain⟨ke,e,ne,eke,we,de,He,eheld,elis,epin⟩:=R2.hold.endA (by decide) hty R2.none
  obtain⟨kf,f,nf,ekf,wf,df,Hf,fheld,flis,fpin⟩:=He.endA (by decide) (by rw [epin];exact hty) R.none
  have hdl:d.listens=w.listens:=by rw [dlis,clis,R2.lis,R.lis];exact qrW ..
  have hfl:f.listens=w.listens:=by rw [flis,elis,R2.lis,R.lis];exact qqW ..
  have hdh:qSB d=qSB w:=by rw [dheld,cheld,R2.held,R.held];omega
  have hfh:qSB f=qSB w:=by rw [fheld,eheld,R2.held,R.held];omega
  have hsnc:=FWay.sn wc hsny
  have hsnd:=FWay.sn wd hsnc
  have hsne:=FWay.sn we hsny
  have hsnf:=FWay.sn wf hsne
  have hby0:=hway2.kept (hway.kept (BgW.up (K':=1000) hb (by decide)))
  have hbd0:=wd.kept (wc.kept hby0)
  have hbf0:=wf.kept (we.kept hby0)
  repeat((conv=>whnf);first|apply qza|apply qzb|apply qzc|apply qzd|apply qze|intro(_:Nat))
  conv=>whnf
  refine .inl ⟨_,qdD _ ht hax,?_⟩
  repeat((conv=>whnf);first|apply qza|apply qzb|apply qzc|apply qzd|apply qze|intro(_:Nat))
  refine .inr ((qBE _ hwy (qtB _ ht hax) hsny hby wc dc (by omega)).mono fun v g5 hg5 hA=>?_)
  obtain⟨csc,rfl,hwc,hac⟩:=hA
  obtain⟨xa,ya,xb,yb,xc,yc,xd,yd,xe,ye,rfl⟩:=qGA hwc
  repeat((conv=>whnf);first|apply qza|apply qzb|apply qzc|apply qzd|apply qze|intro(_:Nat))
  conv=>whnf
  refine .inl ⟨_,qdD _ ht hay,?_⟩
  repeat((conv=>whnf);first|apply qza|apply qzb|apply qzc|apply qzd|apply qze|intro(_:Nat))
  refine .inr ((qBE _ hwc (qtB _ ht hay) hsnc (wc.kept hby) wd dd (by omega)).mono fun v g6 hg6 hA=>?_)
  obtain⟨csd,rfl,hwd,had⟩:=hA
  obtain⟨da,ta,db,tb,dc',tc,dd',td,de',te,rfl⟩:=qGA hwd
  repeat((conv=>whnf);first|apply qza|apply qzb|apply qzc|apply qzd|apply qze|intro(_:Nat))
  conv=>whnf
  refine .inl ⟨_,qdD _ ht hay,?_⟩
  repeat((conv=>whnf);first|apply qza|apply qzb|apply qzc|apply qzd|apply qze|intro(_:Nat))
  refine .inr ((qBE _ (qBA _ _ _ _ (GW.trans hg5 hg6) hwy) (qtB _ ht hay) hsny hby we de (by omega)).mono fun v g7 hg7 hA=>?_)
  obtain⟨cse,rfl,hwe,hae⟩:=hA
  obtain⟨xa,ya,xb,yb,xc,yc,xd,yd,xe,ye,rfl⟩:=qGA hwe
  repeat((conv=>whnf);first|apply qza|apply qzb|apply qzc|apply qzd|apply qze|intro(_:Nat))
  conv=>whnf
  refine .inl ⟨_,qdD _ ht hax,?_⟩
  repeat((conv=>whnf);first|apply qza|apply qzb|apply qzc|apply qzd|apply qze|intro(_:Nat))
  refine .inr ((qBE _ hwe (qtB _ ht hax) hsne (we.kept hby) wf df (by omega)).mono fun v g8 hg8 hA=>?_)
  obtain⟨csf,rfl,hwf,haf⟩:=hA
  obtain⟨fa,va,fb,vb,fc,vc,fd,vd,fe,ve,rfl⟩:=qGA hwf
  have hw8:=qBA _ _ _ _ (GW.trans hg4 (GW.trans (GW.trans hg5 hg6) (GW.trans hg7 hg8))) hw3
  have hd8:=qBA _ _ _ _ (GW.trans hg7 hg8) hwd
  repeat((conv=>whnf);first|apply qza|apply qzb|apply qzc|apply qzd|apply qze|intro(_:Nat))
  conv=>whnf
  refine⟨fun hx=>absurd (by rw [hdl]) (nneT hx),fun _=>?_⟩
  repeat((conv=>whnf);first|apply qza|apply qzb|apply qzc|apply qzd|apply qze|intro(_:Nat))
  conv=>whnf
  refine⟨fun hx=>absurd (by rw [hfl]) (nneT hx),fun _=>?_⟩
  have hLd:=quG hd8
  rw [hdl] at hLd
  have hLf:=quG hwf
  rw [hfl] at hLf
  have hLw:=quG hw8
  have hll:=hb'.1.2.2.1
  repeat((conv=>whnf);first|apply qza|apply qzb|apply qzc|apply qzd|apply qze|intro(_:Nat))
  conv=>whnf
  refine⟨Nat,fun k=>[.v (.int .i64 k)],fun _=>⟨_,_,_,_⟩,fun k=>k≤w.listens.length,fun k=>w.listens.length-k,qJA 0 rfl (Nat.zero_le _) rfl,?_⟩
  intro k hk
  replace hk:k≤w.listens.length:=hk
  repeat((conv=>whnf);first|apply qza|apply qzb|apply qzc|apply qzd|apply qze|intro(_:Nat))
  conv=>whnf
  refine⟨fun hlt=>?_,fun hlt=>?_⟩
  ·have h':k<w.listens.length:=by have:=of_decide_eq_true hlt;omega
   obtain⟨z,hz⟩:=qCA h'
   obtain⟨a1,rfl⟩:=qEA hLd hz
   obtain⟨a2,rfl⟩:=qEA hLf hz
   obtain⟨a3,rfl⟩:=qEA hLw hz
   obtain⟨_,hcd⟩:=qoD hLd hz
   obtain⟨_,hcf⟩:=qoD hLf hz
   obtain⟨_,hcw⟩:=qoD hLw hz
   have hdl':(d.listens.length:Nat)=w.listens.length:=by rw [hdl]
   have hfl':(f.listens.length:Nat)=w.listens.length:=by rw [hfl]
   repeat'((conv=>whnf);first|apply qza|apply qzb|apply qzc|apply qzd|apply qze|intro(_:Nat)|refine⟨_,rfl,⟨by omega,by omega⟩,?_⟩|refine⟨_,⟨rfl,hcd⟩,?_⟩|refine⟨_,⟨rfl,hcf⟩,?_⟩|fail)
   conv=>whnf
   refine⟨fun hx=>absurd hx (by simp),fun _=>?_⟩
   repeat'((conv=>whnf);first|apply qza|apply qzb|apply qzc|apply qzd|apply qze|intro(_:Nat)|refine⟨_,rfl,⟨by omega,by omega⟩,?_⟩|refine⟨_,⟨rfl,hcd⟩,?_⟩|refine⟨_,⟨rfl,hcw⟩,?_⟩|fail)
   conv=>whnf
   refine⟨fun hx=>absurd hx (by simp),fun _=>?_⟩
   repeat((conv=>whnf);first|apply qza|apply qzb|apply qzc|apply qzd|apply qze|intro(_:Nat))
   conv=>whnf
   refine fun fr w' hu=>⟨k+1,congrArg (fun z=>[Value.int .i64 z]) (show((k+1:Nat):Int)=IntKind.i64.wrap ((k:Int)+1) by rw [wr (x:=(k:Int)+1) (by unfold InR;omega)];omega),h',dec h',?_⟩
   exact hu.fit (by simp [fitL,Res.eqv,qDA,conc])
  repeat((conv=>whnf);first|apply qza|apply qzb|apply qzc|apply qzd|apply qze|intro(_:Nat))
  conv=>whnf
  refine .inl ⟨_,qOA _,?_⟩
  repeat((conv=>whnf);first|apply qza|apply qzb|apply qzc|apply qzd|apply qze|intro(_:Nat))
  conv=>whnf
  refine⟨fun _=>?_,fun h=>nomatch h⟩
  repeat((conv=>whnf);first|apply qza|apply qzb|apply qzc|apply qzd|apply qze|intro(_:Nat))
  refine .inr ((qAB _ hd8 hbd0).mono fun v g9 hg9 hA=>?_)
  subst hA
  repeat((conv=>whnf);first|apply qza|apply qzb|apply qzc|apply qzd|apply qze|intro(_:Nat))
  refine .inr ((qAB _ (qBA _ _ _ _ hg9 hw8) (BgW.up (K':=1000) hb (by decide))).mono fun v g10 hg10 hA=>?_)
  subst hA
  repeat((conv=>whnf);first|apply qza|apply qzb|apply qzc|apply qzd|apply qze|intro(_:Nat))
  conv=>whnf
  refine⟨fun _=>?_,fun hx=>absurd hdh (beqF hx)⟩
  repeat((conv=>whnf);first|apply qza|apply qzb|apply qzc|apply qzd|apply qze|intro(_:Nat))
  have hg910:=GW.trans hg9 hg10
  refine .inr ((qAB _ (qBA _ _ _ _ hg910 hwf) hbf0).mono fun v g11 hg11 hA=>?_)
  subst hA
  repeat((conv=>whnf);first|apply qza|apply qzb|apply qzc|apply qzd|apply qze|intro(_:Nat))
  refine .inr ((qAB _ (qBA _ _ _ _ (GW.trans hg910 hg11) hw8) (BgW.up (K':=1000) hb (by decide))).mono fun v g12 hg12 hA=>?_)
  subst hA
  repeat((conv=>whnf);first|apply qza|apply qzb|apply qzc|apply qzd|apply qze|intro(_:Nat))
  conv=>whnf
  refine⟨fun _=>?_,fun hx=>absurd hfh (beqF hx)⟩
  have hg13:=GW.trans hg910 (GW.trans hg11 hg12)
  repeat((conv=>whnf);first|apply qza|apply qzb|apply qzc|apply qzd|apply qze|intro(_:Nat))
  conv=>whnf
  refine .inl ⟨_,(q1L _ (qBA _ _ _ _ hg13 hd8) hsnd).to (congrArg Value.bool Hd.right),?_⟩
  repeat((conv=>whnf);first|apply qza|apply qzb|apply qzc|apply qzd|apply qze|intro(_:Nat))
  conv=>whnf
  refine⟨fun _=>?_,fun h=>nomatch h⟩
  repeat((conv=>whnf);first|apply qza|apply qzb|apply qzc|apply qzd|apply qze|intro(_:Nat))
  conv=>whnf
  refine .inl ⟨_,(q1L _ (qBA _ _ _ _ hg13 hwf) hsnf).to (congrArg Value.bool Hf.right),?_⟩
  repeat((conv=>whnf);first|apply qza|apply qzb|apply qzc|apply qzd|apply qze|intro(_:Nat))
  conv=>whnf
  intro g2 hg
  rfl)
end Go.Proofs.YthonngjhelcpeaaGreat
