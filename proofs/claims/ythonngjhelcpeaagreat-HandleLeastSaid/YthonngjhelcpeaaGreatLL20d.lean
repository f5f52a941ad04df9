/- The law HandleTurn. -/
import Derived.Test.YthonngjhelcpeaaGreatLL20c
set_option linter.unusedVariables false
set_option linter.unusedSimpArgs false
namespace Go.Proofs.YthonngjhelcpeaaGreat
open Go.Proofs.YthonngjhelcpeaaGreat.Sx Go.RowKit
set_option maxHeartbeats 16000000
set_option maxRecDepth 100000
theorem qIO (g:GW) {cs os:List Value} {w:Wd} {th:Int} {o:OpD} (hw:rWo g cs w) (ht:InR th) (hO:rOp g os o):OkV Tryz.prog qMF [.agg ⟨cs⟩,.int .i64 th,.agg ⟨os⟩] g (.bool true):=by
 obtain⟨oa,ca,ob,cb,oc,cc,od,cd,oe,ce,rfl⟩:=qGA hw
 obtain⟨o1,t1,o2,t2,o3,t3,rfl⟩:=qcD hO
 exact Ok.of_fn hm noT 0 qIF (args:=[.v (.agg ⟨wQ w oa ca ob cb oc cc od cd oe ce⟩),.v (.int .i64 th),.v (.agg ⟨oCs o (.slice o1 o.config.listens.length t1) (.slice o2 o.config.routes.length t2) (.slice o3 o.config.clusters.length t3)⟩)]) (by
  repeat((conv=>whnf);first|apply qza|apply qzb|apply qzc|apply qzd|apply qze|intro(_:Nat))
  refine .inr ((q7E _ hw).mono fun v g1 hg1 hB=>?_)
  obtain⟨b,rfl,hB⟩:=hB
  have hw1:=qBA _ _ _ _ hg1 hw
  have hM1:=q0C (qTC _ _ _ _ hg1 hO) ht
  repeat((conv=>whnf);first|apply qza|apply qzb|apply qzc|apply qzd|apply qze|intro(_:Nat))
  conv=>whnf
  refine⟨fun z1=>?_,fun z1=>?_⟩
  ·repeat((conv=>whnf);first|apply qza|apply qzb|apply qzc|apply qzd|apply qze|intro(_:Nat))
   conv=>whnf
   refine .inl ⟨_,qIA _,?_⟩
   repeat((conv=>whnf);first|apply qza|apply qzb|apply qzc|apply qzd|apply qze|intro(_:Nat))
   conv=>whnf
   intro g2 hg
   rfl
  obtain⟨hb,hsn⟩:=hB z1
  have hb':=BgW.up (K':=1000000) hb (by decide)
  repeat((conv=>whnf);first|apply qza|apply qzb|apply qzc|apply qzd|apply qze|intro(_:Nat))
  refine .inr ((q6E _ hw1).mono fun v g2 hg2 hC=>?_)
  obtain⟨b,rfl,hC⟩:=hC
  have hw2:=qBA _ _ _ _ hg2 hw1
  have hM2:=qNA _ _ _ _ hg2 hM1
  repeat((conv=>whnf);first|apply qza|apply qzb|apply qzc|apply qzd|apply qze|intro(_:Nat))
  conv=>whnf
  refine⟨fun z5=>?_,fun z5=>?_⟩
  ·repeat((conv=>whnf);first|apply qza|apply qzb|apply qzc|apply qzd|apply qze|intro(_:Nat))
   conv=>whnf
   refine .inl ⟨_,qIA _,?_⟩
   repeat((conv=>whnf);first|apply qza|apply qzb|apply qzc|apply qzd|apply qze|intro(_:Nat))
   conv=>whnf
   intro g2 hg
   rfl
  have hcalm:=hC (nb0 z5)
  repeat((conv=>whnf);first|apply qza|apply qzb|apply qzc|apply qzd|apply qze|intro(_:Nat))
  conv=>whnf
  refine⟨fun z2=>?_,fun z2=>?_⟩
  ·repeat((conv=>whnf);first|apply qza|apply qzb|apply qzc|apply qzd|apply qze|intro(_:Nat))
   conv=>whnf
   refine .inl ⟨_,qIA _,?_⟩
   repeat((conv=>whnf);first|apply qza|apply qzb|apply qzc|apply qzd|apply qze|intro(_:Nat))
   conv=>whnf
   intro g2 hg
   rfl
  repeat((conv=>whnf);first|apply qza|apply qzb|apply qzc|apply qzd|apply qze|intro(_:Nat))
  conv=>whnf
  refine⟨fun z3=>?_,fun z3=>?_⟩
  ·repeat((conv=>whnf);first|apply qza|apply qzb|apply qzc|apply qzd|apply qze|intro(_:Nat))
   conv=>whnf
   refine .inl ⟨_,qIA _,?_⟩
   repeat((conv=>whnf);first|apply qza|apply qzb|apply qzc|apply qzd|apply qze|intro(_:Nat))
   conv=>whnf
   intro g2 hg
   rfl
  have hsz:SmO (mReq o th):=q8J z2 z3
  repeat((conv=>whnf);first|apply qza|apply qzb|apply qzc|apply qzd|apply qze|intro(_:Nat))
  conv=>whnf
  refine .inl ⟨_,qQA _ hw2 hM2 hsn hb',?_⟩
  repeat((conv=>whnf);first|apply qza|apply qzb|apply qzc|apply qzd|apply qze|intro(_:Nat))
  conv=>whnf
  refine⟨fun z6=>?_,fun z6=>?_⟩
  ·repeat((conv=>whnf);first|apply qza|apply qzb|apply qzc|apply qzd|apply qze|intro(_:Nat))
   conv=>whnf
   refine .inl ⟨_,qIA _,?_⟩
   repeat((conv=>whnf);first|apply qza|apply qzb|apply qzc|apply qzd|apply qze|intro(_:Nat))
   conv=>whnf
   intro g2 hg
   rfl
  have hs:=nb0 z6
  have hI:=qRM (n:=1000000) hs rfl hcalm.la hcalm.ea
  obtain⟨k,x,m',w1,m1,hk,hway,hmid,hkind,hend⟩:=hI.whole (by decide)
  clear hI
  repeat((conv=>whnf);first|apply qza|apply qzb|apply qzc|apply qzd|apply qze|intro(_:Nat))
  refine .inr ((q8E _ hw2 hM2 hsn hb' hsz hway hend.done (by omega)).mono fun v g3 hg3 hA=>?_)
  obtain⟨csx,msx,rfl,hwx,hMx⟩:=hA
  obtain⟨xa,ya,xb,yb,xc,yc,xd,yd,xe,ye,rfl⟩:=qGA hwx
  obtain⟨p1,s1,p2,s2,p3,s3,rfl⟩:=qXA hMx
  have hw3:=qBA _ _ _ _ hg3 hw2
  obtain⟨_,_,_,hS⟩:=suitB_iff.1 hs
  obtain⟨v0,hv0,_,hcu0,hcu1⟩:=q6G hS.right
  have hVP:=qWC hS.right hv0
  have hFv:=qAG hw3
  obtain⟨av,rfl⟩:=qEA hFv hv0
  obtain⟨oL,cL,oR,cR,oC,cC,oG,cG,hcv,hsn3,hcK,hcG⟩:=qgC hFv hv0
  have hsv:=hsn v0 (List.mem_of_getElem? hv0)
  have hcv3:=hcv.sub 0 3
  obtain⟨fc,fe,hfv,hfc⟩:=qjO v0.snap o.listen o.host o.path
  have hfi:=(q6Q g3 hsn3 o.listen o.host o.path ⟨fun r hr=>⟨by have:=(hsv.2 r hr).1;omega,by have:=(hsv.2 r hr).2;omega⟩,hsz⟩).to hfv
  have hans:=hend.answer
  repeat((conv=>whnf);first|apply qza|apply qzb|apply qzc|apply qzd|apply qze|intro(_:Nat))
  conv=>whnf
  refine⟨_,rfl,⟨by omega,by omega⟩,?_⟩
  repeat((conv=>whnf);first|apply qza|apply qzb|apply qzc|apply qzd|apply qze|intro(_:Nat))
  conv=>whnf
  refine⟨_,⟨rfl,hcv3⟩,?_⟩
  repeat((conv=>whnf);first|apply qza|apply qzb|apply qzc|apply qzd|apply qze|intro(_:Nat))
  conv=>whnf
  refine .inl ⟨_,hfi,?_⟩
  repeat((conv=>whnf);first|apply qza|apply qzb|apply qzc|apply qzd|apply qze|intro(_:Nat))
  rcases hfc with ⟨rfl,hfo⟩|⟨hne,hfo⟩
  rotate_left
  ·conv=>whnf
   refine⟨fun _=>?_,fun hx=>absurd hx (by simpa using hne)⟩
   repeat((conv=>whnf);first|apply qza|apply qzb|apply qzc|apply qzd|apply qze|intro(_:Nat))
   conv=>whnf
   refine .inl ⟨_,qIA _,?_⟩
   repeat((conv=>whnf);first|apply qza|apply qzb|apply qzc|apply qzd|apply qze|intro(_:Nat))
   conv=>whnf
   intro g2 hg
   rfl
  conv=>whnf
  refine⟨fun h=>(nomatch h),fun _=>?_⟩
  have hfr:=qBK hVP.good hfo
  obtain⟨ck,hck⟩:=qCA (l:=v0.snap.clusters) (i:=fc.toNat) (by omega)
  obtain⟨gr,hgr⟩:=qCA (l:=v0.groups) (i:=fc.toNat) (by have:=hVP.len;omega)
  obtain⟨ck',hck',he2,_,he4,_,_⟩:=hVP.ends hgr
  cases hck.symm.trans hck'
  have hszk:ck.health.length≤17592186044416:=by omega
  obtain⟨akk,rfl⟩:=qEA hcK hck
  obtain⟨_,_,hrc,hckc⟩:=qnJ hcK hck
  obtain⟨vh,rfl,hpo,_,hh⟩:=id hrc
  obtain⟨oh,ch,rfl,_⟩:=id hh
  repeat((conv=>whnf);first|apply qza|apply qzb|apply qzc|apply qzd|apply qze|intro(_:Nat))
  conv=>whnf
  refine⟨_,rfl,hfr,?_⟩
  repeat((conv=>whnf);first|apply qza|apply qzb|apply qzc|apply qzd|apply qze|intro(_:Nat))
  conv=>whnf
  refine⟨_,hckc 1 _ rfl,?_⟩
  repeat((conv=>whnf);first|apply qza|apply qzb|apply qzc|apply qzd|apply qze|intro(_:Nat))
  refine And.intro (fun z=>?_) (fun z=>?_)
  ·repeat((conv=>whnf);first|apply qza|apply qzb|apply qzc|apply qzd|apply qze|intro(_:Nat))
   conv=>whnf
   refine .inl ⟨_,qIA _,?_⟩
   repeat((conv=>whnf);first|apply qza|apply qzb|apply qzc|apply qzd|apply qze|intro(_:Nat))
   conv=>whnf
   intro g2 hg
   rfl
  have hp1:=bneF z
  have key:m'.answer.kind=1∨m'.answer.kind=4→∃ g':Group,x.versions[w.current.toNat]?=some {v0 with groups:=v0.groups.set fc.toNat g'}∧g'.ticket=wU (gr.ticket+1)∧m'.end_=qfD ck gr.ticket∧qHA ck≠[]∧(m'.answer.kind=4∨(m'.answer.kind=1∧m'.answer.end_=qfD ck gr.ticket∧m'.answer.cluster=fc∧m'.answer.version=w.current)):=by
   intro hkk
   rcases hmid.out with ⟨hk',_⟩|⟨v,c,ck2,gr2,gr',en,hP,hen,ho⟩
   ·rw [hans] at hkk;omega
   have q1:v=v0:=Option.some.inj (hP.ver.symm.trans hv0)
   subst q1
   have q2:c=fc:=Option.some.inj (hP.find.symm.trans hfo)
   subst q2
   have q3:gr2=gr:=Option.some.inj (hP.grp.symm.trans hgr)
   subst q3
   have q4:ck2=ck:=Option.some.inj (hP.cl.symm.trans hck)
   subst q4
   have hpk:m1.end_=qfD ck2 gr2.ticket∧gr'={gr2 with ticket:=wU (gr2.ticket+1)}:=by
    rcases hP.pick with ⟨_,h1,h2⟩|⟨h1,_⟩
    ·exact⟨h1,h2⟩
    ·exact absurd hp1 h1
   obtain⟨hpe,rfl⟩:=hpk
   rcases ho with ⟨hk',_,hv⟩|⟨ha,_,hv⟩
   ·exact⟨_,by rw [hend.versions,hv];exact qUA hv0,rfl,by rw [hend.end_,hpe],hP.heal,.inl (by rw [hans,hk'])⟩
   ·exact⟨_,by rw [hend.versions,hv];exact qUA hv0,rfl,by rw [hend.end_,hpe],hP.heal,.inr ⟨by rw [hans,ha],by rw [hans,ha];exact hpe,by rw [hans,ha],by rw [hans,ha]⟩⟩
  repeat((conv=>whnf);first|apply qza|apply qzb|apply qzc|apply qzd|apply qze|intro(_:Nat))
  refine And.intro (fun y1=>?_) (fun y1=>?_)
  case' refine_1 =>
   repeat((conv=>whnf);first|apply qza|apply qzb|apply qzc|apply qzd|apply qze|intro(_:Nat))
   refine And.intro (fun y2=>?_) (fun y2=>?_)
   ·repeat((conv=>whnf);first|apply qza|apply qzb|apply qzc|apply qzd|apply qze|intro(_:Nat))
    conv=>whnf
    refine .inl ⟨_,qIA _,?_⟩
    repeat((conv=>whnf);first|apply qza|apply qzb|apply qzc|apply qzd|apply qze|intro(_:Nat))
    conv=>whnf
    intro g2 hg
    rfl
   have hkk:=key (.inr (bneF y2))
  case' refine_2=>have hkk:=key (.inl (bneF y1))
  all_goals (
   obtain⟨g',hxv,hgt,hpe,hheal,hlast⟩:=hkk
   obtain⟨ag,rfl⟩:=qEA hcG hgr
   obtain⟨oE,cE,hcg,htk,_⟩:=q8C hcG hgr
   have hgi:0≤fc∧fc<v0.groups.length:=by have:=hVP.len;omega
   have hturn:=(qyT g3 hrc hszk htk).to (v':=.tuple #[.int .i64 (qfD ck gr.ticket),.int .i64 0]) (by simp [hErr,hheal])
   have hFx:=qAG hwx
   obtain⟨ax,rfl⟩:=qEA hFx hxv
   obtain⟨_,_,_,_,_,_,oGx,cGx,hcvx,_,_,hcGx⟩:=qgC hFx hxv
   have hgx:=qUA (y:=g') hgr
   obtain⟨agx,rfl⟩:=qEA hcGx hgx
   obtain⟨_,_,hcgx,_,_⟩:=q8C hcGx hgx
   have hxi:=(List.getElem?_eq_some_iff.1 hxv).1
   have hgl:((v0.groups.set fc.toNat g').length:Nat)=v0.groups.length:=List.length_set ..
   repeat'((conv=>whnf);first|apply qza|apply qzb|apply qzc|apply qzd|apply qze|intro(_:Nat)|refine⟨_,rfl,⟨by omega,by omega⟩,?_⟩|refine⟨_,hcv 3 _ rfl,?_⟩|refine⟨_,hcg 0 _ rfl,?_⟩|refine⟨_,⟨rfl,hckc⟩,?_⟩|refine .inl ⟨_,hturn,?_⟩|refine .inl ⟨_,qIA _,?_⟩|fail)
   conv=>whnf
   refine⟨fun _=>?_,fun h=>nomatch h⟩
   repeat((conv=>whnf);first|apply qza|apply qzb|apply qzc|apply qzd|apply qze|intro(_:Nat))
   conv=>whnf
   refine⟨fun _=>?_,fun h=>nomatch h⟩
   repeat((conv=>whnf);first|apply qza|apply qzb|apply qzc|apply qzd|apply qze|intro(_:Nat))
   conv=>whnf
   refine⟨fun _=>?_,fun hx=>absurd hpe (beqF hx)⟩
   repeat'((conv=>whnf);first|apply qza|apply qzb|apply qzc|apply qzd|apply qze|intro(_:Nat)|refine⟨_,rfl,⟨by omega,by omega⟩,?_⟩|refine⟨_,hcvx 3 _ rfl,?_⟩|refine⟨_,rfl,⟨by omega,by show fc<((v0.groups.set fc.toNat g').length:Nat);omega⟩,?_⟩|refine⟨_,hcgx 0 _ rfl,?_⟩|fail)
   conv=>whnf
   refine⟨fun _=>?_,fun hx=>absurd hgt (beqF hx)⟩
   repeat((conv=>whnf);first|apply qza|apply qzb|apply qzc|apply qzd|apply qze|intro(_:Nat))
   refine And.intro (fun y4=>?_) (fun y4=>?_)
   ·repeat((conv=>whnf);first|apply qza|apply qzb|apply qzc|apply qzd|apply qze|intro(_:Nat))
    conv=>whnf
    intro g2 hg
    rfl
   obtain⟨_,l1,l2,l3⟩:m'.answer.kind=1∧m'.answer.end_=qfD ck gr.ticket∧m'.answer.cluster=fc∧m'.answer.version=w.current:=by
    rcases hlast with h|h
    ·exact absurd h (beqF y4)
    ·exact h
   repeat((conv=>whnf);first|apply qza|apply qzb|apply qzc|apply qzd|apply qze|intro(_:Nat))
   conv=>whnf
   refine⟨fun _=>?_,fun hx=>absurd l1 (beqF hx)⟩
   repeat((conv=>whnf);first|apply qza|apply qzb|apply qzc|apply qzd|apply qze|intro(_:Nat))
   conv=>whnf
   refine⟨fun _=>?_,fun hx=>absurd l2 (beqF hx)⟩
   repeat((conv=>whnf);first|apply qza|apply qzb|apply qzc|apply qzd|apply qze|intro(_:Nat))
   conv=>whnf
   intro g2 hg
   simp [l3]))
end Go.Proofs.YthonngjhelcpeaaGreat
