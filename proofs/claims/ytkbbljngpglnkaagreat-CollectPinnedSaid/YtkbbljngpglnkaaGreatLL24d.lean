/- The law CollectPinned. -/
import Derived.Test.YtkbbljngpglnkaaGreatLW24y
import Derived.Test.YtkbbljngpglnkaaGreatPP61
set_option linter.unusedVariables false
set_option linter.unusedSimpArgs false
namespace Go.Proofs.YtkbbljngpglnkaaGreat
open Go.Proofs.YtkbbljngpglnkaaGreat.Sx Go.RowKit
set_option maxHeartbeats 16000000
set_option maxRecDepth 100000
structure CpSt where
 j:Nat
 g:GW
 w:Wd
 oa:Option Addr
 ca:Nat
 ob:Option Addr
 cb:Nat
 oc:Option Addr
 cc:Nat
 od:Option Addr
 cd:Nat
 oe:Option Addr
 ce:Nat
abbrev CpSt.wc (x:CpSt):List Value:=[.int .i64 x.w.epoch,.int .i64 x.w.current,.int .i64 x.w.lock,.slice x.oa x.w.pins.length x.ca,.slice x.ob x.w.versions.length x.cb,.slice x.oc x.w.listens.length x.cc,.slice x.od x.w.counts.length x.cd,.slice x.oe x.w.limbo.length x.ce]
theorem qKT {w:Wd} {k k' t:Int} (h:qkA w (mU k t)=true):qkA w (mU k' t)=true:=by
 obtain⟨v,gr,en,hS⟩:=suitB_iff.1 h
 exact suitB_iff.2 ⟨v,gr,en,hS.right,hS.thread,hS.done,hS.ver,hS.clu,hS.end_,hS.other,hS.slot,hS.listen,hS.i,hS.k⟩
theorem qcI (g:GW) {cs:List Value} {w:Wd} {t o n:Int} (hw:rWo g cs w) (ht:InR t) (_ho:InR o) (_hn:InR n):OkV Tryz.prog qJD [.agg ⟨cs⟩,.int .i64 t,.int .i64 o,.int .i64 n] g (.bool true):=by
 obtain⟨oa,ca,ob,cb,oc,cc,od,cd,oe,ce,rfl⟩:=qPA hw
 exact Ok.of_fn hm noT 0 qED (args:=[.v (.agg ⟨wQ w oa ca ob cb oc cc od cd oe ce⟩),.v (.int .i64 t),.v (.int .i64 o),.v (.int .i64 n)]) (by
  repeat((conv=>whnf);first|apply qza|apply qzb|apply qzc|apply qzd|apply qze|intro(_:Nat))
  rename_i q0
  refine .inr ((qIL _ hw).mono fun v g1 hg1 hB=>?_)
  obtain⟨b,rfl,hB⟩:=hB
  repeat((conv=>whnf);first|apply qza|apply qzb|apply qzc|apply qzd|apply qze|intro(_:Nat))
  conv=>whnf
  refine⟨fun z1=>?_,fun z1=>?_⟩
  ·repeat((conv=>whnf);first|apply qza|apply qzb|apply qzc|apply qzd|apply qze|intro(_:Nat))
   conv=>whnf
   refine .inl ⟨_,qJA _,?_⟩
   repeat((conv=>whnf);first|apply qza|apply qzb|apply qzc|apply qzd|apply qze|intro(_:Nat))
   conv=>whnf
   intro g2 hg
   rfl
  obtain⟨hb,hsn⟩:=hB z1
  have hb':=BgW.up (K':=1000000) hb (by decide)
  have hw1:=qGA _ _ _ _ hg1 hw
  repeat((conv=>whnf);first|apply qza|apply qzb|apply qzc|apply qzd|apply qze|intro(_:Nat))
  refine .inr ((qHL _ hw1).mono fun v g2 hg2 hC=>?_)
  obtain⟨b,rfl,hC⟩:=hC
  have hw2:=qGA _ _ _ _ hg2 hw1
  repeat((conv=>whnf);first|apply qza|apply qzb|apply qzc|apply qzd|apply qze|intro(_:Nat))
  conv=>whnf
  refine⟨fun z2=>?_,fun z2=>?_⟩
  ·repeat((conv=>whnf);first|apply qza|apply qzb|apply qzc|apply qzd|apply qze|intro(_:Nat))
   conv=>whnf
   refine .inl ⟨_,qJA _,?_⟩
   repeat((conv=>whnf);first|apply qza|apply qzb|apply qzc|apply qzd|apply qze|intro(_:Nat))
   conv=>whnf
   intro g2 hg
   rfl
  have hcalm:=hC (nb0 z2)
  repeat((conv=>whnf);first|apply qza|apply qzb|apply qzc|apply qzd|apply qze|intro(_:Nat))
  conv=>whnf
  refine⟨fun z3=>?_,fun z3=>?_⟩
  ·repeat((conv=>whnf);first|apply qza|apply qzb|apply qzc|apply qzd|apply qze|intro(_:Nat))
   conv=>whnf
   refine .inl ⟨_,qJA _,?_⟩
   repeat((conv=>whnf);first|apply qza|apply qzb|apply qzc|apply qzd|apply qze|intro(_:Nat))
   conv=>whnf
   intro g2 hg
   rfl
  repeat((conv=>whnf);first|apply qza|apply qzb|apply qzc|apply qzd|apply qze|intro(_:Nat))
  conv=>whnf
  refine⟨fun z4=>?_,fun z4=>?_⟩
  ·repeat((conv=>whnf);first|apply qza|apply qzb|apply qzc|apply qzd|apply qze|intro(_:Nat))
   conv=>whnf
   refine .inl ⟨_,qJA _,?_⟩
   repeat((conv=>whnf);first|apply qza|apply qzb|apply qzc|apply qzd|apply qze|intro(_:Nat))
   conv=>whnf
   intro g2 hg
   rfl
  repeat((conv=>whnf);first|apply qza|apply qzb|apply qzc|apply qzd|apply qze|intro(_:Nat))
  conv=>whnf
  refine⟨fun z6=>?_,fun z6=>?_⟩
  ·repeat((conv=>whnf);first|apply qza|apply qzb|apply qzc|apply qzd|apply qze|intro(_:Nat))
   conv=>whnf
   refine .inl ⟨_,qJA _,?_⟩
   repeat((conv=>whnf);first|apply qza|apply qzb|apply qzc|apply qzd|apply qze|intro(_:Nat))
   conv=>whnf
   intro g2 hg
   rfl
  repeat((conv=>whnf);first|apply qza|apply qzb|apply qzc|apply qzd|apply qze|intro(_:Nat))
  conv=>whnf
  refine⟨fun z7=>?_,fun z7=>?_⟩
  ·repeat((conv=>whnf);first|apply qza|apply qzb|apply qzc|apply qzd|apply qze|intro(_:Nat))
   conv=>whnf
   refine .inl ⟨_,qJA _,?_⟩
   repeat((conv=>whnf);first|apply qza|apply qzb|apply qzc|apply qzd|apply qze|intro(_:Nat))
   conv=>whnf
   intro g2 hg
   rfl
  have hM2:=qBJ g2 (k:=0) z0 ht
  repeat((conv=>whnf);first|apply qza|apply qzb|apply qzc|apply qzd|apply qze|intro(_:Nat))
  conv=>whnf
  refine .inl ⟨_,qyA _ hw2 hM2 hsn hb',?_⟩
  repeat((conv=>whnf);first|apply qza|apply qzb|apply qzc|apply qzd|apply qze|intro(_:Nat))
  conv=>whnf
  refine⟨fun z5=>?_,fun z5=>?_⟩
  ·repeat((conv=>whnf);first|apply qza|apply qzb|apply qzc|apply qzd|apply qze|intro(_:Nat))
   conv=>whnf
   refine .inl ⟨_,qJA _,?_⟩
   repeat((conv=>whnf);first|apply qza|apply qzb|apply qzc|apply qzd|apply qze|intro(_:Nat))
   conv=>whnf
   intro g2 hg
   rfl
  have hs0:=nb0 z5
  have hs5:qkA w (mU 5 t)=true:=qKT hs0
  have hn0:0≤n:=by have:=of_decide_eq_false z3;omega
  have hn6:n≤6:=by have:=of_decide_eq_false z4;omega
  have ho0:0≤o:=by have:=of_decide_eq_false z6;omega
  have ho1:o<w.pins.length:=by have:=of_decide_eq_false z7;omega
  obtain⟨_,_,_,hS⟩:=suitB_iff.1 hs5
  have hright:=hS.right
  have hep:0≤w.epoch∧w.epoch≤1000000:=by
   obtain⟨h1,_⟩:=q8B hright
   unfold qbA at h1
   simp only [Bool.and_eq_true,decide_eq_true_eq] at h1
   exact⟨h1.1.1.1.2,hcalm.ep⟩
  obtain⟨p,hp⟩:=qBA (l:=w.pins) (i:=o.toNat) (by omega)
  repeat((conv=>whnf);first|apply qza|apply qzb|apply qzc|apply qzd|apply qze|intro(_:Nat))
  refine .inr ((q7B _ hw2 hb').mono fun v g3 hg3 hO=>?_)
  obtain⟨cs,T,rfl,hT⟩:=hO
  have hF:=qYD hT
  obtain⟨oa',ca',ob',cb',oc',cc',od',cd',oe',ce',rfl⟩:=qPA hF
  have hw1e:IntKind.i64.wrap (w.epoch+1)=w.epoch+1:=by rw [IntKind.wrap_i64];omega
  obtain⟨bk,cap,hv,b5,j5,bc,ty5,⟨hA,p1,p2,p3,p4⟩,_,hk5⟩:=qjS hT hp (x':=IntKind.i64.wrap (w.epoch+1)) (qDB _)
  cases hv
  have hlo:g.w.heap.size≤bk:=by cases hA;exact Nat.le_trans (GW.trans hg1 hg2).1 p1
  repeat((conv=>whnf);first|apply qza|apply qzb|apply qzc|apply qzd|apply qze|intro(_:Nat))
  rename_i q1
  conv=>whnf
  refine⟨fun h=>absurd rfl (bneT h),fun _=>?_⟩
  repeat((conv=>whnf);first|apply qza|apply qzb|apply qzc|apply qzd|apply qze|intro(_:Nat))
  conv=>whnf
  refine⟨_,rfl,⟨ho0,ho1⟩,?_⟩
  repeat((conv=>whnf);first|apply qza|apply qzb|apply qzc|apply qzd|apply qze|intro(_:Nat))
  cases hA
  conv=>whnf
  refine⟨bk,o.toNat,bc,ty5,⟨by simp [qmA],hlo,p2,p3,p4⟩,?_⟩
  repeat((conv=>whnf);first|apply qza|apply qzb|apply qzc|apply qzd|apply qze|intro(_:Nat))
  conv=>whnf
  refine fun g6 u6=>?_
  have hX:=qYD (hk5 g6 u6)
  have hle6:g≤g6:=u6.le (GW.trans hg1 (GW.trans hg2 hg3)) (fun h=>by have:=g.wf _ h;omega)
  rw [hw1e] at hX
  generalize hxw:({w with pins:=w.pins.set o.toNat (w.epoch+1)}:Wd)=x at hX
  have hxe:x.epoch=w.epoch:=by rw [← hxw]
  have hxl:x.limbo=w.limbo:=by rw [← hxw]
  have hxs:x.listens=w.listens:=by rw [← hxw]
  have hxv:x.versions=w.versions:=by rw [← hxw]
  have hxc:x.current=w.current∧x.lock=w.lock∧x.counts=w.counts:=by rw [← hxw];exact⟨rfl,rfl,rfl⟩
  have hxp:x.pins.length=w.pins.length:=by rw [← hxw];exact List.length_set
  have hxo:x.pins[o.toNat]?=some (x.epoch+1):=by rw [hxe,← hxw];show(w.pins.set _ _)[_]?=_;rw [List.getElem?_set];simp;omega
  have hxr:wdB x=true:=by rw [← hxw];exact qvO hright hep.2
  have hxsn:SnW x:=fun v hv=>hsn v (by rw [← hxv];exact hv)
  have hxb:BgW 60 x:=⟨⟨by rw [hxp];exact hb.1.1,by rw [hxv];exact hb.1.2.1,by rw [hxs];exact hb.1.2.2.1,by rw [hxc.2.2];exact hb.1.2.2.2.1,by rw [hxl];exact hb.1.2.2.2.2⟩,by rw [hxc.2.2];exact hb.2.1,by rw [hxv];exact hb.2.2⟩
  have hxsu:qkA x (mU 5 t)=true:=by
   obtain⟨v,gr,en,hS⟩:=suitB_iff.1 hs5
   exact suitB_iff.2 ⟨v,gr,en,hxr,by rw [hxp];exact hS.thread,hS.done,by rw [hxv];exact hS.ver,hS.clu,hS.end_,hS.other,hS.slot,by rw [hxs];exact hS.listen,hS.i,hS.k⟩
  rw [← hxe,← hxc.1,← hxc.2.1,← hxp,← hxv,← hxs,← hxc.2.2,← hxl] at hX
  have hxb':=BgW.up (K':=1000000) hxb (by decide)
  have hXr:=qIM hX
  rw [hxl] at hXr
  have hXp:=qIR hX
  rw [hxp] at hXp
  repeat((conv=>whnf);first|apply qza|apply qzb|apply qzc|apply qzd|apply qze|intro(_:Nat))
  rename_i q2
  conv=>whnf
  refine⟨CpSt,fun y=>[.v (.int .i64 y.j)],fun y=>⟨y.g,[.blk 2 q2 qIA (y.wc.map SV.v),.blk 1 q1 qIA [.v (.int .i64 w.epoch),.v (.int .i64 w.current),.v (.int .i64 w.lock),.v (.slice (some ⟨bk,0,none⟩) w.pins.length ca'),.v (.slice ob' w.versions.length cb'),.v (.slice oc' w.listens.length cc'),.v (.slice od' w.counts.length cd'),.v (.slice oe' w.limbo.length ce')],.blk 0 q0 qIA [.v (.int .i64 w.epoch),.v (.int .i64 w.current),.v (.int .i64 w.lock),.v (.slice oa w.pins.length ca),.v (.slice ob w.versions.length cb),.v (.slice oc w.listens.length cc),.v (.slice od w.counts.length cd),.v (.slice oe w.limbo.length ce)]],40,g.w.heap.size⟩,fun y=>(y.j:Int)≤n∧g6≤y.g∧rWo y.g y.wc y.w∧PinC x y.w o.toNat∧SnW y.w∧BgW 1000000 y.w,fun y=>n.toNat-y.j,fun fr u hu=>⟨(⟨0,g6,x,some ⟨bk,0,none⟩,ca',ob',cb',oc',cc',od',cd',oe',ce'⟩:CpSt),rfl,⟨hn0,GW.refl _,hX,PinC.refl hxr hxo,hxsn,hxb'⟩,hu.fit (by simp [fitL,Res.eqv,qAA,conc,hxe,hxc,hxp,hxv,hxs,hxl])⟩,?_⟩
  clear hw2 hsn hb' hw1 hw hC hB
  intro y hy
  obtain⟨j,gx,y,pa,qa,pb,qb,pc,qc,pd,qd,pe,qe⟩:=y
  obtain⟨hj,hxg,hyw,hP,hsn,hb'⟩:=hy
  replace hj:(j:Int)≤n:=hj
  replace hP:PinC x y o.toNat:=hP
  replace hb':BgW 1000000 y:=hb'
  replace hsn:SnW y:=hsn
  repeat((conv=>whnf);first|apply qza|apply qzb|apply qzc|apply qzd|apply qze|intro(_:Nat))
  conv=>whnf
  refine⟨fun y1=>?_,fun y1=>?_⟩
  ·have y1:(j:Int)<n:=of_decide_eq_true y1
   obtain⟨K,z,m',hK,hway,hdn,hPz⟩:=hP.next hxsu (qZK 5 t) (by rw [hxe];exact hep) (by rw [hxl];exact hb.1.2.2.2.2) (by rw [hxs];exact hb.1.2.2.1)
   repeat((conv=>whnf);first|apply qza|apply qzb|apply qzc|apply qzd|apply qze|intro(_:Nat))
   refine .inr ((qeF _ hyw (qBJ _ (k:=5) (by decide) ht) hsn hb' hway hdn hK).mono fun v g4 hg4 hO=>?_)
   obtain⟨csa,msa,rfl,hwa,hMa⟩:=hO
   obtain⟨r1,r2,r3,r4,r5,r6,r7,r8,r9,r10,rfl⟩:=qPA hwa
   obtain⟨s1,s2,s3,s4,s5,s6,rfl⟩:=qNB hMa
   repeat((conv=>whnf);first|apply qza|apply qzb|apply qzc|apply qzd|apply qze|intro(_:Nat))
   conv=>whnf
   refine fun fr u hu=>⟨⟨j+1,g4,z,r1,r2,r3,r4,r5,r6,r7,r8,r9,r10⟩,congrArg (fun z=>[Value.int .i64 z]) (show((j+1:Nat):Int)=IntKind.i64.wrap ((j:Int)+1) by rw [wr (x:=(j:Int)+1) (by unfold InR;omega)];omega),⟨by show((j+1:Nat):Int)≤n;omega,GW.trans hxg hg4,hwa,hPz,CWay.sn hway hsn,hway.kept hb'⟩,by show n.toNat-(j+1)<n.toNat-j;omega,hu.fit (by simp [fitL,Res.eqv,qAA,conc])⟩
  have hyl:(y.limbo.length:Int)=w.limbo.length:=by rw [hP.lim,hxl]
  have hhi:=hP.hi
  have hll:=hb.1.2.2.2.2
  replace hxg:g6≤gx:=hxg
  replace hyw:rWo gx [.int .i64 y.epoch,.int .i64 y.current,.int .i64 y.lock,.slice pa y.pins.length qa,.slice pb y.versions.length qb,.slice pc y.listens.length qc,.slice pd y.counts.length qd,.slice pe y.limbo.length qe] y:=hyw
  have hYr:=qIM hyw
  repeat((conv=>whnf);first|apply qza|apply qzb|apply qzc|apply qzd|apply qze|intro(_:Nat))
  conv=>whnf
  refine⟨fun h=>absurd hyl (bneT h),fun _=>?_⟩
  repeat((conv=>whnf);first|apply qza|apply qzb|apply qzc|apply qzd|apply qze|intro(_:Nat))
  conv=>whnf
  refine⟨fun h=>absurd (of_decide_eq_true h) (by rw [hw1e];show ¬ w.epoch+1<y.epoch;omega),fun _=>?_⟩
  repeat((conv=>whnf);first|apply qza|apply qzb|apply qzc|apply qzd|apply qze|intro(_:Nat))
  conv=>whnf
  refine⟨Nat×GW,fun (k,_)=>[.v (.int .i64 k)],fun (_,g')=>⟨g',_,_,_⟩,fun (k,g')=>k≤w.limbo.length∧gx≤g',fun (k,_)=>w.limbo.length-k,qFA (0,gx) rfl ⟨Nat.zero_le _,GW.refl _⟩ rfl,?_⟩
  rintro⟨k,g7⟩ ⟨hk,h7⟩
  have hk:k≤w.limbo.length:=hk
  have h7:gx≤g7:=h7
  repeat((conv=>whnf);first|apply qza|apply qzb|apply qzc|apply qzd|apply qze|intro(_:Nat))
  conv=>whnf
  refine⟨fun hlt=>?_,fun hlt=>?_⟩
  ·have h':k<w.limbo.length:=by have h9:(k:Int)<w.limbo.length:=of_decide_eq_true hlt;omega
   have hk0:(0:Int)≤k:=by omega
   have hk1:(k:Int)<w.limbo.length:=by omega
   have hk2:(k:Int)<y.limbo.length:=by omega
   obtain⟨r,hr⟩:=qBA h'
   obtain⟨r',hr'⟩:=qBA (l:=y.limbo) (i:=k) (by omega)
   have hheld:=hP.held k r (by rw [hxl];exact hr)
   obtain⟨ar,rfl⟩:=qUA hXr hr
   obtain⟨⟨_,hrt⟩,hcr⟩:=qPK hXr hr
   obtain⟨ay,rfl⟩:=qUA hYr hr'
   obtain⟨_,hcy⟩:=qPK hYr hr'
   obtain⟨_,hcp⟩:=qYQ hXp hxo
   have m7:=GW.trans hxg h7
   repeat'((conv=>whnf);first|apply qza|apply qzb|apply qzc|apply qzd|apply qze|intro(_:Nat)|refine⟨_,rfl,⟨hk0,hk1⟩,?_⟩|refine⟨_,(hcr.mono m7) 1 _ rfl,?_⟩|refine⟨_,rfl,⟨ho0,ho1⟩,?_⟩|refine⟨_,(hcp.mono m7) 0 _ rfl,?_⟩|fail)
   conv=>whnf
   refine⟨1,rfl,by unfold maxLen;omega,fun gA kA nA pA=>?_⟩
   have hlA:rSl 1 rInt gA _ [x.epoch+1]:=q9D pA.rd [x.epoch+1] (fun x=>.int .i64 x) rfl fun z hz=>⟨rfl,by simp at hz;subst hz;unfold InR;omega⟩
   repeat((conv=>whnf);first|apply qza|apply qzb|apply qzc|apply qzd|apply qze|intro(_:Nat))
   conv=>whnf
   refine .inl ⟨_,qUR _ hlA,?_⟩
   have mA:=GW.trans m7 kA
   have mB:=GW.trans h7 kA
   by_cases hq:1≤x.epoch+1∧x.epoch+1≤r.at_+1
   ·have hrr:=hheld (by omega)
    rw [hr'] at hrr
    cases hrr
    repeat((conv=>whnf);first|apply qza|apply qzb|apply qzc|apply qzd|apply qze|intro(_:Nat))
    conv=>whnf
    refine⟨fun _=>?_,fun h=>absurd hq (of_decide_eq_false h)⟩
    repeat'((conv=>whnf);first|apply qza|apply qzb|apply qzc|apply qzd|apply qze|intro(_:Nat)|refine⟨_,rfl,⟨hk0,hk2⟩,?_⟩|refine⟨_,(hcy.mono mB) 2 _ rfl,?_⟩|refine⟨_,rfl,⟨hk0,hk1⟩,?_⟩|refine⟨_,(hcr.mono mA) 2 _ rfl,?_⟩|fail)
    refine⟨fun h=>absurd h (by simp),fun _=>?_⟩
    repeat((conv=>whnf);first|apply qza|apply qzb|apply qzc|apply qzd|apply qze|intro(_:Nat))
    conv=>whnf
    refine fun fr u hu=>⟨(k+1,gA),congrArg (fun z=>[Value.int .i64 z]) (show((k+1:Nat):Int)=IntKind.i64.wrap ((k:Int)+1) by rw [wr (x:=(k:Int)+1) (by unfold InR;omega)];omega),⟨h',GW.trans h7 kA⟩,dec h',hu.fit (by simp [fitL,Res.eqv,qAA,conc])⟩
   ·repeat((conv=>whnf);first|apply qza|apply qzb|apply qzc|apply qzd|apply qze|intro(_:Nat))
    conv=>whnf
    refine⟨fun h=>absurd (of_decide_eq_true h) hq,fun _=>?_⟩
    repeat'((conv=>whnf);first|apply qza|apply qzb|apply qzc|apply qzd|apply qze|intro(_:Nat)|refine⟨fun h=>absurd h Bool.false_ne_true,fun _=>?_⟩|fail)
    conv=>whnf
    refine fun fr u hu=>⟨(k+1,gA),congrArg (fun z=>[Value.int .i64 z]) (show((k+1:Nat):Int)=IntKind.i64.wrap ((k:Int)+1) by rw [wr (x:=(k:Int)+1) (by unfold InR;omega)];omega),⟨h',GW.trans h7 kA⟩,dec h',hu.fit (by simp [fitL,Res.eqv,qAA,conc])⟩
  have hwI:OkV Tryz.prog qYE _ _ _:=(qQM _ (qGA _ _ _ _ h7 hyw) hsn).to (congrArg Value.bool hP.right)
  repeat'((conv=>whnf);first|apply qza|apply qzb|apply qzc|apply qzd|apply qze|intro(_:Nat)|refine .inl ⟨_,qJA _,?_⟩|refine .inl ⟨_,hwI,?_⟩|refine⟨fun _=>?_,fun h=>absurd h.symm Bool.false_ne_true⟩|fail)
  conv=>whnf
  intro g2 hg
  rfl)
end Go.Proofs.YtkbbljngpglnkaaGreat
