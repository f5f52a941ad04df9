/- Worlds: how many slots are held. -/
import Derived.Test.YtkogfpniapaigaaGreatLW9g
import Derived.Test.YtkogfpniapaigaaGreatPl
import Derived.Test.YtkogfpniapaigaaGreatLW25y
import Derived.Test.YtkogfpniapaigaaGreatLS7
set_option linter.unusedVariables false
set_option linter.unusedSimpArgs false
namespace Go.Proofs.YtkogfpniapaigaaGreat
open Go.Proofs.YtkogfpniapaigaaGreat.Sx Go.RowKit
set_option maxHeartbeats 16000000
set_option maxRecDepth 100000
theorem sum0 {α:Type} (f:α→Int) (l:List α) (s:Int):s+sumI f (l.take 0)=s:=by simp [sumI]
theorem qCS (g:GW) {cs:List Value} {w:Wd} (hw:rWo g cs w) (hb:BgW 1000 w):Ok Tryz.prog qtF [.agg ⟨cs⟩] g fun v _=>v=.int .i64 (qQS w):=by
 obtain⟨a,b,c,d,e,rfl,⟨i1,i2,i3⟩,hP,hV,hL,hC,hR⟩:=hw
 obtain⟨oa,ca,rfl,a1,a2,a0,hP1⟩:=id hP
 obtain⟨ob,cb,rfl,b1,b2,b0,hV1⟩:=id hV
 obtain⟨oc,cc,rfl,c1,c2,c0,hL1⟩:=id hL
 obtain⟨od,cd,rfl,d1,d2,d0,hC1⟩:=id hC
 obtain⟨oe,ce,rfl,e1,e2,e0,hR1⟩:=id hR
 obtain⟨⟨_,hbv,_,_,_⟩,_,hbV⟩:=hb
 exact Ok.of_fn hm noT 0 qcN (args:=[.v (.agg ⟨wQ w oa ca ob cb oc cc od cd oe ce⟩)]) (by
  repeat((conv=>whnf);first|apply qza|apply qzb|apply qzc|apply qzd|apply qze|intro(_:Nat))
  conv=>whnf
  refine⟨Nat×GW,fun (i,_)=>[.v (.int .i64 (0+sumI qsE (w.versions.take i))),.v (.int .i64 i)],fun (_,g')=>⟨g',_,_,_⟩,fun (i,g')=>i≤w.versions.length∧g≤g',fun (i,_)=>w.versions.length-i,qDA (0,g) (congrArg (fun z=>[Value.int .i64 z,.int .i64 0]) (sum0 _ _ _)) ⟨Nat.zero_le _,GW.refl _⟩ rfl,?_⟩
  rintro⟨i,g1⟩ ⟨hi,hg1⟩
  have hS:=qhF (f:=qsE) (c:=4*1000*1000) (l:=w.versions) (fun y hy=>qYT (hbV y hy)) i
  have hSl:(w.versions.take i).length≤1000:=by rw [List.length_take];omega
  repeat((conv=>whnf);first|apply qza|apply qzb|apply qzc|apply qzd|apply qze|intro(_:Nat))
  conv=>whnf
  refine⟨fun y1=>?_,fun y1=>?_⟩
  ·have h':i<w.versions.length:=by have h9:(i:Int)<w.versions.length:=of_decide_eq_true y1;omega
   obtain⟨v,hv⟩:=qBA h'
   have hvb:=hbV v (List.mem_of_getElem? hv)
   obtain⟨ad,rfl,ec,hec,⟨va,vb,vd,vn,rfl,hsn,hG⟩,hc⟩:=hV1 i v hv
   obtain⟨og,cg,rfl,p1,p2,p0,hG1⟩:=id hG
   obtain⟨_,_,_,he2,⟨sa,ta,rfl,_⟩,⟨sb,tb,rfl,_⟩,⟨sd,td,rfl,_⟩⟩:=hsn
   cases he2
   repeat((conv=>whnf);first|apply qza|apply qzb|apply qzc|apply qzd|apply qze|intro(_:Nat))
   conv=>whnf
   refine⟨_,rfl,⟨by show(0:Int)≤i;omega,by show(i:Int)<w.versions.length;omega⟩,?_⟩
   repeat((conv=>whnf);first|apply qza|apply qzb|apply qzc|apply qzd|apply qze|intro(_:Nat))
   conv=>whnf
   refine⟨_,⟨rfl,hc.mono hg1⟩,?_⟩
   repeat((conv=>whnf);first|apply qza|apply qzb|apply qzc|apply qzd|apply qze|intro(_:Nat))
   conv=>whnf
   refine⟨Nat×GW,fun (j,_)=>[.v (.int .i64 (0+sumI qsE (w.versions.take i)+sumI qzH (v.groups.take j))),.v (.int .i64 j)],fun (_,g')=>⟨g',_,_,_⟩,fun (j,g')=>j≤v.groups.length∧g1≤g',fun (j,_)=>v.groups.length-j,qDA (0,g1) (congrArg (fun z=>[Value.int .i64 z,.int .i64 0]) (sum0 _ _ _)) ⟨Nat.zero_le _,GW.refl _⟩ rfl,?_⟩
   rintro⟨j,g2⟩ ⟨hj,hg2⟩
   have hT:=qhF (f:=qzH) (c:=4*1000) (l:=v.groups) (fun y hy=>qJQ (hvb.2 y hy)) j
   have hTl:(v.groups.take j).length≤1000:=by have:=hvb.1;rw [List.length_take];omega
   repeat((conv=>whnf);first|apply qza|apply qzb|apply qzc|apply qzd|apply qze|intro(_:Nat))
   conv=>whnf
   refine⟨fun y2=>?_,fun y2=>?_⟩
   ·have h2:j<v.groups.length:=by have h9:(j:Int)<v.groups.length:=of_decide_eq_true y2;omega
    obtain⟨x,hx⟩:=qBA h2
    have hxb:=hvb.2 x (List.mem_of_getElem? hx)
    obtain⟨ag,rfl,ecg,hecg,⟨xn,rfl,hti,hE⟩,hcg⟩:=hG1 j x hx
    obtain⟨on,cn,rfl,r1,r2,r0,hE1⟩:=id hE
    repeat((conv=>whnf);first|apply qza|apply qzb|apply qzc|apply qzd|apply qze|intro(_:Nat))
    conv=>whnf
    refine⟨_,rfl,⟨by show(0:Int)≤j;omega,by show(j:Int)<v.groups.length;omega⟩,?_⟩
    repeat((conv=>whnf);first|apply qza|apply qzb|apply qzc|apply qzd|apply qze|intro(_:Nat))
    conv=>whnf
    refine⟨_,⟨rfl,hcg.mono (GW.trans hg1 hg2)⟩,?_⟩
    repeat((conv=>whnf);first|apply qza|apply qzb|apply qzc|apply qzd|apply qze|intro(_:Nat))
    conv=>whnf
    refine⟨Nat×GW,fun (k,_)=>[.v (.int .i64 (0+sumI qsE (w.versions.take i)+sumI qzH (v.groups.take j)+sumI qfC (x.ends.take k))),.v (.int .i64 k)],fun (_,g')=>⟨g',_,_,_⟩,fun (k,g')=>k≤x.ends.length∧g2≤g',fun (k,_)=>x.ends.length-k,qDA (0,g2) (congrArg (fun z=>[Value.int .i64 z,.int .i64 0]) (sum0 _ _ _)) ⟨Nat.zero_le _,GW.refl _⟩ rfl,?_⟩
    rintro⟨k,g3⟩ ⟨hk,hg3⟩
    have hU:=qhF (f:=qfC) (c:=4) (l:=x.ends) (fun y _=>qIN y) k
    have hUl:(x.ends.take k).length≤1000:=by unfold BgG at hxb;rw [List.length_take];omega
    repeat((conv=>whnf);first|apply qza|apply qzb|apply qzc|apply qzd|apply qze|intro(_:Nat))
    conv=>whnf
    refine⟨fun y3=>?_,fun y3=>?_⟩
    ·have h3:k<x.ends.length:=by have h9:(k:Int)<x.ends.length:=of_decide_eq_true y3;omega
     obtain⟨en,hen⟩:=qBA h3
     obtain⟨ae,rfl,ece,hece,hEn,hce⟩:=hE1 k en hen
     have hEn0:=hEn
     obtain⟨⟨n,rfl,hH,hA,hN⟩,hsz⟩:=hEn0
     obtain⟨ox,cx,rfl,s1,s2,s0,hN1⟩:=id hN
     have hg03:=GW.trans hg1 (GW.trans hg2 hg3)
     repeat((conv=>whnf);first|apply qza|apply qzb|apply qzc|apply qzd|apply qze|intro(_:Nat))
     conv=>whnf
     refine⟨_,rfl,⟨by show(0:Int)≤k;omega,by show(k:Int)<x.ends.length;omega⟩,?_⟩
     repeat((conv=>whnf);first|apply qza|apply qzb|apply qzc|apply qzd|apply qze|intro(_:Nat))
     conv=>whnf
     refine⟨_,⟨rfl,hce.mono hg03⟩,?_⟩
     repeat((conv=>whnf);first|apply qza|apply qzb|apply qzc|apply qzd|apply qze|intro(_:Nat))
     refine .inr ((qAQ _ (qxC _ _ _ _ hg03 hEn)).mono fun v' g4 hg4 hF=>?_)
     have hst:=qmK qfC hen
     have hbd:=qIN en
     have hgo:∀ z:Int,z=qfC en→[Value.int .i64 (0+sumI qsE (w.versions.take i)+sumI qzH (v.groups.take j)+sumI qfC (x.ends.take (k+1))),Value.int .i64 ((k+1:Nat):Int)]=[Value.int .i64 (0+sumI qsE (w.versions.take i)+sumI qzH (v.groups.take j)+sumI qfC (x.ends.take k)+z),Value.int .i64 (IntKind.i64.wrap ((k:Int)+1))]:=fun z hz=>by
      rw [hst,hz,wr (x:=(k:Int)+1) (by unfold InR;unfold maxLen at r2;omega)]
      simp only [Int.add_assoc,Int.natCast_add,Int.natCast_one]
     unfold qvJ at hF
     cases hf:qID en with
     | none =>
      rw [hf] at hF
      subst hF
      have hbF:endB en=false:=by unfold endB;rw [hf];rfl
      have hz:qfC en=0:=by unfold qfC;rw [hbF];rfl
      repeat((conv=>whnf);first|apply qza|apply qzb|apply qzc|apply qzd|apply qze|intro(_:Nat))
      conv=>whnf
      refine .inl ⟨_,(qIP _ (qxC _ _ _ _ (GW.trans hg03 hg4) hEn)).to (congrArg Value.bool hbF),?_⟩
      repeat((conv=>whnf);first|apply qza|apply qzb|apply qzc|apply qzd|apply qze|intro(_:Nat))
      conv=>whnf
      refine⟨fun h=>(nomatch h),fun _=>?_⟩
      repeat((conv=>whnf);first|apply qza|apply qzb|apply qzc|apply qzd|apply qze|intro(_:Nat))
      conv=>whnf
      refine fun fr u hu=>⟨(k+1,g4),(hgo 0 hz.symm).trans (congrArg (fun z=>[Value.int .i64 z,Value.int .i64 (IntKind.i64.wrap ((k:Int)+1))]) (Int.add_zero _)),⟨h3,GW.trans hg3 hg4⟩,by show x.ends.length-(k+1)<x.ends.length-k;omega,hu.fit (by simp [fitL,Res.eqv,qAA,conc])⟩
     | some l =>
      rw [hf] at hF
      obtain⟨oF,cF,rfl,hF⟩:=hF
      have hll:=qKN hf
      repeat((conv=>whnf);first|apply qza|apply qzb|apply qzc|apply qzd|apply qze|intro(_:Nat))
      conv=>whnf
      refine .inl ⟨_,(qIP _ (qxC _ _ _ _ (GW.trans hg03 hg4) hEn)),?_⟩
      repeat((conv=>whnf);first|apply qza|apply qzb|apply qzc|apply qzd|apply qze|intro(_:Nat))
      conv=>whnf
      refine⟨fun y4=>?_,fun y4=>?_⟩
      ·have hbT:endB en=true:=y4
       have hz:qfC en=en.next.length-(l.length:Nat):=by unfold qfC;rw [hbT,hf];rfl
       repeat((conv=>whnf);first|apply qza|apply qzb|apply qzc|apply qzd|apply qze|intro(_:Nat))
       conv=>whnf
       refine fun fr u hu=>⟨(k+1,g4),(hgo _ hz.symm).trans (congrArg (fun z=>[Value.int .i64 z,Value.int .i64 (IntKind.i64.wrap ((k:Int)+1))]) (by rw [wr (x:=(en.next.length:Int)-l.length) (by unfold InR;omega),wr (x:=0+sumI qsE (w.versions.take i)+sumI qzH (v.groups.take j)+sumI qfC (x.ends.take k)+((en.next.length:Int)-l.length)) (by unfold InR;omega)])),⟨h3,GW.trans hg3 hg4⟩,by show x.ends.length-(k+1)<x.ends.length-k;omega,hu.fit (by simp [fitL,Res.eqv,qAA,conc])⟩
      ·have hbF:endB en=false:=y4
       have hz:qfC en=0:=by unfold qfC;rw [hbF];rfl
       repeat((conv=>whnf);first|apply qza|apply qzb|apply qzc|apply qzd|apply qze|intro(_:Nat))
       conv=>whnf
       refine fun fr u hu=>⟨(k+1,g4),(hgo 0 hz.symm).trans (congrArg (fun z=>[Value.int .i64 z,Value.int .i64 (IntKind.i64.wrap ((k:Int)+1))]) (Int.add_zero _)),⟨h3,GW.trans hg3 hg4⟩,by show x.ends.length-(k+1)<x.ends.length-k;omega,hu.fit (by simp [fitL,Res.eqv,qAA,conc])⟩
    have hkL:k=x.ends.length:=by have h9:¬ (k:Int)<x.ends.length:=of_decide_eq_false y3;omega
    subst hkL
    repeat((conv=>whnf);first|apply qza|apply qzb|apply qzc|apply qzd|apply qze|intro(_:Nat))
    conv=>whnf
    refine fun fr u hu=>⟨(j+1,g3),(show [Value.int .i64 (0+sumI qsE (w.versions.take i)+sumI qzH (v.groups.take (j+1))),Value.int .i64 ((j+1:Nat):Int)]=[Value.int .i64 (0+sumI qsE (w.versions.take i)+sumI qzH (v.groups.take j)+sumI qfC (x.ends.take x.ends.length)),Value.int .i64 (IntKind.i64.wrap ((j:Int)+1))] by rw [qmK qzH hx,wr (x:=(j:Int)+1) (by unfold InR;unfold maxLen at p2;omega),List.take_length];simp only [Int.add_assoc,Int.natCast_add,Int.natCast_one];rfl),⟨h2,GW.trans hg2 hg3⟩,by show v.groups.length-(j+1)<v.groups.length-j;omega,hu.fit (by simp [fitL,Res.eqv,qAA,conc])⟩
   have hjL:j=v.groups.length:=by have h9:¬ (j:Int)<v.groups.length:=of_decide_eq_false y2;omega
   subst hjL
   repeat((conv=>whnf);first|apply qza|apply qzb|apply qzc|apply qzd|apply qze|intro(_:Nat))
   conv=>whnf
   refine fun fr u hu=>⟨(i+1,g2),(show [Value.int .i64 (0+sumI qsE (w.versions.take (i+1))),Value.int .i64 ((i+1:Nat):Int)]=[Value.int .i64 (0+sumI qsE (w.versions.take i)+sumI qzH (v.groups.take v.groups.length)),Value.int .i64 (IntKind.i64.wrap ((i:Int)+1))] by rw [qmK qsE hv,wr (x:=(i:Int)+1) (by unfold InR;unfold maxLen at b2;omega),List.take_length];simp only [Int.add_assoc,Int.natCast_add,Int.natCast_one];rfl),⟨h',GW.trans hg1 hg2⟩,by show w.versions.length-(i+1)<w.versions.length-i;omega,hu.fit (by simp [fitL,Res.eqv,qAA,conc])⟩
  have hiL:i=w.versions.length:=by have h9:¬ (i:Int)<w.versions.length:=of_decide_eq_false y1;omega
  subst hiL
  repeat((conv=>whnf);first|apply qza|apply qzb|apply qzc|apply qzd|apply qze|intro(_:Nat))
  conv=>whnf
  intro g2 hg
  show Value.int .i64 (0+sumI qsE (w.versions.take w.versions.length))=_
  rw [List.take_length,Int.zero_add];rfl)
/- The law SwapAlone. -/
open Go.Proofs.YtkogfpniapaigaaGreat.Sx Go.RowKit
theorem SWay.sn:∀ {k:Nat} {w:Wd} {m:Mach} {x:Wd} {n:Mach},SWay k w m x n→SmC m.op.config→SnW w→SnW x
 | 0,_,_,_,_,⟨h1,_⟩,_,hb=>by subst h1;exact hb
 | _+1,w,m,_,_,⟨_,_,h⟩,hs,hb=>SWay.sn h (by rw [qDU];exact hs) (qqT hb hs)
theorem q7N (g:GW) {cs cc9:List Value} {w:Wd} {t:Int} {c:Config} (hw:rWo g cs w) (ht:InR t) (hc:qcA g cc9 c):OkV Tryz.prog qKE [.agg ⟨cs⟩,.int .i64 t,.agg ⟨cc9⟩] g (.bool true):=by
 obtain⟨oa,ca,ob,cb,oc,cc,od,cd,oe,ce,rfl⟩:=qoA hw
 obtain⟨_,_,_,rfl,⟨o1,t1,rfl,_⟩,⟨o2,t2,rfl,_⟩,⟨o3,t3,rfl,_⟩⟩:=id hc
 exact Ok.of_fn hm noT 0 q7D (args:=[.v (.agg ⟨wQ w oa ca ob cb oc cc od cd oe ce⟩),.v (.int .i64 t),.v (.agg ⟨[.slice o1 c.listens.length t1,.slice o2 c.routes.length t2,.slice o3 c.clusters.length t3]⟩)]) (by
  repeat((conv=>whnf);first|apply qza|apply qzb|apply qzc|apply qzd|apply qze|intro(_:Nat))
  refine .inr ((qsM _ hw).mono fun v g1 hg1 hB=>?_)
  obtain⟨b,rfl,hB⟩:=hB
  repeat((conv=>whnf);first|apply qza|apply qzb|apply qzc|apply qzd|apply qze|intro(_:Nat))
  conv=>whnf
  refine⟨fun z1=>?_,fun z1=>?_⟩
  ·repeat((conv=>whnf);first|apply qza|apply qzb|apply qzc|apply qzd|apply qze|intro(_:Nat))
   conv=>whnf
   refine .inl ⟨_,qGB _,?_⟩
   repeat((conv=>whnf);first|apply qza|apply qzb|apply qzc|apply qzd|apply qze|intro(_:Nat))
   conv=>whnf
   intro g2 hg
   rfl
  obtain⟨hb,hsn⟩:=hB z1
  have hb':=BgW.up (K':=1000000) hb (by decide)
  have hw1:=qTA _ _ _ _ hg1 hw
  have hc1:=qMA _ _ _ _ hg1 hc
  repeat((conv=>whnf);first|apply qza|apply qzb|apply qzc|apply qzd|apply qze|intro(_:Nat))
  conv=>whnf
  refine .inl ⟨_,qRP _ hc1,?_⟩
  repeat((conv=>whnf);first|apply qza|apply qzb|apply qzc|apply qzd|apply qze|intro(_:Nat))
  conv=>whnf
  refine⟨fun z2=>?_,fun z2=>?_⟩
  ·repeat((conv=>whnf);first|apply qza|apply qzb|apply qzc|apply qzd|apply qze|intro(_:Nat))
   conv=>whnf
   refine .inl ⟨_,qGB _,?_⟩
   repeat((conv=>whnf);first|apply qza|apply qzb|apply qzc|apply qzd|apply qze|intro(_:Nat))
   conv=>whnf
   intro g2 hg
   rfl
  obtain⟨hsm,hsz⟩:=qeR z2
  have hsz':c.routes.length≤1000000:=by omega
  have hM1:=qjM g1 (t:=t) ht hc1
  repeat((conv=>whnf);first|apply qza|apply qzb|apply qzc|apply qzd|apply qze|intro(_:Nat))
  conv=>whnf
  refine .inl ⟨_,qtM _ hw1 hM1 hsn hb',?_⟩
  repeat((conv=>whnf);first|apply qza|apply qzb|apply qzc|apply qzd|apply qze|intro(_:Nat))
  conv=>whnf
  refine⟨fun z3=>?_,fun z3=>?_⟩
  ·repeat((conv=>whnf);first|apply qza|apply qzb|apply qzc|apply qzd|apply qze|intro(_:Nat))
   conv=>whnf
   refine .inl ⟨_,qGB _,?_⟩
   repeat((conv=>whnf);first|apply qza|apply qzb|apply qzc|apply qzd|apply qze|intro(_:Nat))
   conv=>whnf
   intro g2 hg
   rfl
  have hs:=nb0 z3
  have hlim:=qgP (q8T hs)
  have hRl:=qnR hw1
  obtain⟨_,_,he9,e1,e2,e0,hR1⟩:=id hRl
  simp only [Value.slice.injEq,true_and] at he9
  obtain⟨rfl,rfl⟩:=he9
  repeat((conv=>whnf);first|apply qza|apply qzb|apply qzc|apply qzd|apply qze|intro(_:Nat))
  conv=>whnf
  refine⟨Nat,fun k=>[.v (.int .i64 k)],fun k=>⟨g1,_,_,_⟩,fun k=>k≤w.limbo.length,fun k=>w.limbo.length-k,qDA 0 rfl (Nat.zero_le _) rfl,?_⟩
  intro k hk
  have hk:k≤w.limbo.length:=hk
  repeat((conv=>whnf);first|apply qza|apply qzb|apply qzc|apply qzd|apply qze|intro(_:Nat))
  conv=>whnf
  refine⟨fun hlt=>?_,fun hlt=>?_⟩
  ·have h':k<w.limbo.length:=by have:=of_decide_eq_true hlt;omega
   obtain⟨x,hx⟩:=qBA h'
   obtain⟨a,rfl,ec,hec,⟨rfl,hxi⟩,hcx⟩:=hR1 k x hx
   have hne:(x.version==w.current)=false:=by
    have:=List.any_eq_false.1 hlim x (List.mem_of_getElem? hx)
    simpa using this
   repeat((conv=>whnf);first|apply qza|apply qzb|apply qzc|apply qzd|apply qze|intro(_:Nat))
   conv=>whnf
   refine⟨a,rfl,⟨by omega,by omega⟩,?_⟩
   repeat((conv=>whnf);first|apply qza|apply qzb|apply qzc|apply qzd|apply qze|intro(_:Nat))
   conv=>whnf
   refine⟨_,hcx 0 _ rfl,?_⟩
   repeat((conv=>whnf);first|apply qza|apply qzb|apply qzc|apply qzd|apply qze|intro(_:Nat))
   conv=>whnf
   refine⟨fun hx=>absurd (hx.symm.trans hne) (by decide),fun _=>?_⟩
   repeat((conv=>whnf);first|apply qza|apply qzb|apply qzc|apply qzd|apply qze|intro(_:Nat))
   conv=>whnf
   refine fun fr w hw=>⟨k+1,congrArg (fun z=>[Value.int .i64 z]) (wr1 h' e1 e2).symm,h',dec h',?_⟩
   exact hw.fit (by simp [fitL,Res.eqv,qAA,conc])
  clear hlt hk
  repeat((conv=>whnf);first|apply qza|apply qzb|apply qzc|apply qzd|apply qze|intro(_:Nat))
  cases hz:qHA c with
  | some p =>
   obtain⟨e,i⟩:=p
   obtain⟨n,wy,hd,hans⟩:=qVR hs hz
   obtain⟨mop,mth,mpc,mep,mve,mli,mcl,men,mot,msl,mwo,mlk,mi,mk,msu,mdo,man,mco⟩:=n
   simp only at hans hd
   subst hans
   subst hd
   refine .inr ((qDE _ hw1 hM1 hsn (BgW.up hb (by decide)) hsz' hsm wy rfl (by decide)).mono fun v g2 hg2 hO=>?_)
   obtain⟨csa,msa,rfl,hwa,hMa⟩:=hO
   obtain⟨_,_,_,_,_,_,_,_,_,_,rfl⟩:=qoA hwa
   obtain⟨_,_,_,_,_,_,rfl⟩:=qrA hMa
   have hc2:=qMA _ _ _ _ hg2 hc1
   have hne:=q8A hz
   repeat((conv=>whnf);first|apply qza|apply qzb|apply qzc|apply qzd|apply qze|intro(_:Nat))
   refine .inr ((qUK _ hc2).mono fun v g3 hg3 hB=>?_)
   rcases hB with ⟨hz2,_⟩|⟨e9,i9,hz2,rfl⟩
   ·rw [hz] at hz2;cases hz2
   obtain⟨rfl,rfl⟩:e=e9∧i=i9:=by rw [hz] at hz2;cases hz2;exact⟨rfl,rfl⟩
   have hwa3:=qTA _ _ _ _ hg3 hwa
   have hw3:=qTA _ _ _ _ hg3 (qTA _ _ _ _ hg2 hw1)
   have hwI:OkV Tryz.prog qFE _ _ _:=(q3N _ hwa3 hsn).to (congrArg Value.bool (q8T hs))
   have hwS:OkV Tryz.prog qGC _ _ _:=qpM _ hw3 hwa3
   repeat((conv=>whnf);first|apply qza|apply qzb|apply qzc|apply qzd|apply qze|intro(_:Nat))
   conv=>whnf
   refine⟨fun h=>(nomatch h),fun _=>?_⟩
   repeat((conv=>whnf);first|apply qza|apply qzb|apply qzc|apply qzd|apply qze|intro(_:Nat))
   conv=>whnf
   refine .inl ⟨_,hwI,?_⟩
   repeat((conv=>whnf);first|apply qza|apply qzb|apply qzc|apply qzd|apply qze|intro(_:Nat))
   conv=>whnf
   refine⟨fun h=>(nomatch h),fun _=>?_⟩
   repeat((conv=>whnf);first|apply qza|apply qzb|apply qzc|apply qzd|apply qze|intro(_:Nat))
   conv=>whnf
   refine⟨fun _=>?_,fun hx=>absurd (bneF hx) (by omega)⟩
   repeat((conv=>whnf);first|apply qza|apply qzb|apply qzc|apply qzd|apply qze|intro(_:Nat))
   conv=>whnf
   refine .inl ⟨_,qGB _,?_⟩
   repeat((conv=>whnf);first|apply qza|apply qzb|apply qzc|apply qzd|apply qze|intro(_:Nat))
   conv=>whnf
   refine⟨fun _=>?_,fun h=>nomatch h⟩
   repeat((conv=>whnf);first|apply qza|apply qzb|apply qzc|apply qzd|apply qze|intro(_:Nat))
   conv=>whnf
   refine⟨fun _=>?_,fun hx=>absurd hx (by simp)⟩
   repeat((conv=>whnf);first|apply qza|apply qzb|apply qzc|apply qzd|apply qze|intro(_:Nat))
   conv=>whnf
   refine⟨fun _=>?_,fun hx=>absurd hx (by simp [ansN,c60])⟩
   repeat((conv=>whnf);first|apply qza|apply qzb|apply qzc|apply qzd|apply qze|intro(_:Nat))
   conv=>whnf
   refine .inl ⟨_,hwS,?_⟩
   repeat((conv=>whnf);first|apply qza|apply qzb|apply qzc|apply qzd|apply qze|intro(_:Nat))
   conv=>whnf
   intro g2 hg
   rfl
  | none =>
   obtain⟨hwr,n,wy,hd,hans⟩:=qlT hs hz
   obtain⟨mop,mth,mpc,mep,mve,mli,mcl,men,mot,msl,mwo,mlk,mi,mk,msu,mdo,man,mco⟩:=n
   simp only at hans hd
   subst hans
   subst hd
   refine .inr ((qDE _ hw1 hM1 hsn (BgW.up hb (by decide)) hsz' hsm wy rfl (by decide)).mono fun v g2 hg2 hO=>?_)
   obtain⟨csa,msa,rfl,hwa,hMa⟩:=hO
   obtain⟨_,_,_,_,_,_,_,_,_,_,rfl⟩:=qoA hwa
   obtain⟨_,_,_,_,_,_,rfl⟩:=qrA hMa
   have hc2:=qMA _ _ _ _ hg2 hc1
   have hsnx:=SWay.sn wy hsm hsn
   have hbx:=SWay.bg (by decide) wy hb
   repeat((conv=>whnf);first|apply qza|apply qzb|apply qzc|apply qzd|apply qze|intro(_:Nat))
   refine .inr ((qUK _ hc2).mono fun v g3 hg3 hB=>?_)
   have hB:=qsJ hc2 hg3 hB
   obtain⟨x,y,z,er,ei,rfl,hsS,hei,hcase⟩:=hB
   rcases hcase with ⟨rfl,rfl,_,rfl,rfl⟩|⟨_,hz2,_⟩
   rotate_left
   ·exact absurd hz hz2
   rw [show q6I c=qaA c by unfold q6I;rw [hz]] at hsS
   obtain⟨_,_,_,he2,⟨sa,ta,hsa,_⟩,⟨sb,tb,rfl,_⟩,⟨sd,td,hsd,_⟩⟩:=id hsS
   cases he2
   cases hsa
   cases hsd
   have hwa3:=qTA _ _ _ _ hg3 hwa
   have hw3:=qTA _ _ _ _ hg3 (qTA _ _ _ _ hg2 hw1)
   have hwI:OkV Tryz.prog qFE _ _ _:=(q3N _ hwa3 hsnx).to (congrArg Value.bool hwr)
   have hHx:OkV Tryz.prog qtF _ _ _:=qCS _ hwa3 (BgW.up hbx (by decide))
   have hHw:OkV Tryz.prog qtF _ _ _:=qCS _ hw3 (BgW.up hb (by decide))
   repeat((conv=>whnf);first|apply qza|apply qzb|apply qzc|apply qzd|apply qze|intro(_:Nat))
   conv=>whnf
   refine⟨fun h=>(nomatch h),fun _=>?_⟩
   repeat((conv=>whnf);first|apply qza|apply qzb|apply qzc|apply qzd|apply qze|intro(_:Nat))
   conv=>whnf
   refine .inl ⟨_,hwI,?_⟩
   have hb2:=hb.1.2.1
   have hb5:=hb.1.2.2.2.2
   have hl1:((endW w c).versions.length:Int)=IntKind.i64.wrap ((w.versions.length:Int)+1):=by
    rw [IntKind.wrap_i64];show((w.versions++[qGA (qaA c)]).length:Int)=_;simp;omega
   have hl2:((endW w c).limbo.length:Int)=IntKind.i64.wrap ((w.limbo.length:Int)+1):=by
    rw [IntKind.wrap_i64];show((w.limbo++[(⟨w.current,w.epoch,false⟩:Retired)]).length:Int)=_;simp;omega
   have hn1:(endW w c).versions.length=w.versions.length+1:=by show(w.versions++[qGA (qaA c)]).length=_;simp
   have hn2:(endW w c).limbo.length=w.limbo.length+1:=by show(w.limbo++[(⟨w.current,w.epoch,false⟩:Retired)]).length=_;simp
   have hv0:(endW w c).versions[w.versions.length]?=some (qGA (qaA c)):=by show(w.versions++[qGA (qaA c)])[w.versions.length]?=_;simp
   have hr0:(endW w c).limbo[w.limbo.length]?=some ⟨w.current,w.epoch,false⟩:=by show(w.limbo++[(⟨w.current,w.epoch,false⟩:Retired)])[w.limbo.length]?=_;simp
   have hFv:=qLU hwa3
   have hFr:=qnR hwa3
   obtain⟨av,rfl⟩:=qiM hFv hv0
   obtain⟨ar,rfl⟩:=qiM hFr hr0
   obtain⟨oL,cL,oR,cR,oC,cC,oG,cG,hcv,hsn3,hcK,hcG⟩:=qAV hFv hv0
   have hcv3:=hcv.sub 0 3
   obtain⟨ecr,_,⟨rfl,_⟩,hcr⟩:=qoR hFr hr0
   have hSm:OkV Tryz.prog qWD _ _ _:=(qAS _ hsn3 hsS).to (congrArg Value.bool (qOK rfl))
   repeat((conv=>whnf);first|apply qza|apply qzb|apply qzc|apply qzd|apply qze|intro(_:Nat))
   conv=>whnf
   refine⟨fun h=>(nomatch h),fun _=>?_⟩
   repeat((conv=>whnf);first|apply qza|apply qzb|apply qzc|apply qzd|apply qze|intro(_:Nat))
   conv=>whnf
   refine⟨fun h=>(nomatch h),fun _=>?_⟩
   repeat((conv=>whnf);first|apply qza|apply qzb|apply qzc|apply qzd|apply qze|intro(_:Nat))
   conv=>whnf
   refine⟨fun hx=>absurd hl1 (bneT hx),fun _=>?_⟩
   repeat((conv=>whnf);first|apply qza|apply qzb|apply qzc|apply qzd|apply qze|intro(_:Nat))
   conv=>whnf
   refine⟨fun hx=>absurd hl2 (bneT hx),fun _=>?_⟩
   have hc0:(endW w c).current=(w.versions.length:Int):=rfl
   repeat((conv=>whnf);first|apply qza|apply qzb|apply qzc|apply qzd|apply qze|intro(_:Nat))
   conv=>whnf
   refine .inl ⟨_,qGB _,?_⟩
   repeat((conv=>whnf);first|apply qza|apply qzb|apply qzc|apply qzd|apply qze|intro(_:Nat))
   conv=>whnf
   refine⟨fun _=>?_,fun h=>nomatch h⟩
   repeat((conv=>whnf);first|apply qza|apply qzb|apply qzc|apply qzd|apply qze|intro(_:Nat))
   conv=>whnf
   refine⟨fun _=>?_,fun hx=>absurd hx (by simp)⟩
   repeat((conv=>whnf);first|apply qza|apply qzb|apply qzc|apply qzd|apply qze|intro(_:Nat))
   conv=>whnf
   refine⟨fun _=>?_,fun hx=>absurd hx (by simp [hc0])⟩
   repeat((conv=>whnf);first|apply qza|apply qzb|apply qzc|apply qzd|apply qze|intro(_:Nat))
   conv=>whnf
   refine⟨fun _=>?_,fun hx=>absurd hx (by simp [ansV,c60])⟩
   repeat((conv=>whnf);first|apply qza|apply qzb|apply qzc|apply qzd|apply qze|intro(_:Nat))
   conv=>whnf
   refine⟨_,rfl,⟨by omega,by show(w.versions.length:Int)<((endW w c).versions.length:Int);omega⟩,?_⟩
   repeat((conv=>whnf);first|apply qza|apply qzb|apply qzc|apply qzd|apply qze|intro(_:Nat))
   conv=>whnf
   refine⟨_,⟨rfl,hcv3⟩,?_⟩
   repeat((conv=>whnf);first|apply qza|apply qzb|apply qzc|apply qzd|apply qze|intro(_:Nat))
   conv=>whnf
   refine .inl ⟨_,hSm,?_⟩
   repeat((conv=>whnf);first|apply qza|apply qzb|apply qzc|apply qzd|apply qze|intro(_:Nat))
   conv=>whnf
   refine⟨fun _=>?_,fun h=>nomatch h⟩
   repeat((conv=>whnf);first|apply qza|apply qzb|apply qzc|apply qzd|apply qze|intro(_:Nat))
   conv=>whnf
   refine⟨_,rfl,⟨by omega,by show(w.limbo.length:Int)<((endW w c).limbo.length:Int);omega⟩,?_⟩
   repeat((conv=>whnf);first|apply qza|apply qzb|apply qzc|apply qzd|apply qze|intro(_:Nat))
   conv=>whnf
   refine⟨_,⟨rfl,hcr⟩,?_⟩
   repeat((conv=>whnf);first|apply qza|apply qzb|apply qzc|apply qzd|apply qze|intro(_:Nat))
   conv=>whnf
   refine⟨fun _=>?_,fun hx=>absurd hx (by simp)⟩
   repeat((conv=>whnf);first|apply qza|apply qzb|apply qzc|apply qzd|apply qze|intro(_:Nat))
   conv=>whnf
   refine .inl ⟨_,hHx,?_⟩
   repeat((conv=>whnf);first|apply qza|apply qzb|apply qzc|apply qzd|apply qze|intro(_:Nat))
   conv=>whnf
   refine .inl ⟨_,hHw,?_⟩
   repeat((conv=>whnf);first|apply qza|apply qzb|apply qzc|apply qzd|apply qze|intro(_:Nat))
   conv=>whnf
   intro g2 hg
   rw [qdT hz]
   simp)
end Go.Proofs.YtkogfpniapaigaaGreat
