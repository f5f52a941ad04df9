/- Requests: with nobody in between. -/
import Derived.Test.YtompjkkgaafllaaGreatLW20p11
import Derived.Test.YtompjkkgaafllaaGreatPl
import Derived.Test.YtompjkkgaafllaaGreatLW9b
import Derived.Test.YtompjkkgaafllaaGreatLW9w
import Derived.Test.YtompjkkgaafllaaGreatLW9k
import Derived.Test.YtompjkkgaafllaaGreatLW9o
set_option linter.unusedVariables false
set_option linter.unusedSimpArgs false
namespace Go.Proofs.YtompjkkgaafllaaGreat
open Go.Proofs.YtompjkkgaafllaaGreat.Sx Go.RowKit
set_option maxHeartbeats 16000000
set_option maxRecDepth 100000
structure HaSt where
 j:Nat
 g:GW
 w:Wd
 oa:Option Addr
 ca:Nat
 ob:Option Addr
 cb:Nat
 oc:Option Addr
 cc:Nat
 od:Option Addr
 cd:Nat
 oe:Option Addr
 ce:Nat
 m:Mach
 o1:Option Addr
 t1:Nat
 o2:Option Addr
 t2:Nat
 o3:Option Addr
 t3:Nat
abbrev HaSt.wc (x:HaSt):List Value:=[.int .i64 x.w.epoch,.int .i64 x.w.current,.int .i64 x.w.lock,.slice x.oa x.w.pins.length x.ca,.slice x.ob x.w.versions.length x.cb,.slice x.oc x.w.listens.length x.cc,.slice x.od x.w.counts.length x.cd,.slice x.oe x.w.limbo.length x.ce]
abbrev HaSt.mc (x:HaSt):List Value:=x.m.cs (.slice x.o1 x.m.op.config.listens.length x.t1) (.slice x.o2 x.m.op.config.routes.length x.t2) (.slice x.o3 x.m.op.config.clusters.length x.t3)
theorem qGP {K:Nat} {w w':Wd} (h:SnW w) (k:KeptW K w w'):SnW w':=fun v hv=>by
 obtain⟨u,hu,e⟩:=k.2 v hv
 rw [← e];exact h u hu
theorem HWay.sn:∀ {k:Nat} {w:Wd} {m:Mach} {x:Wd} {m':Mach},HWay k w m x m'→SnW w→SnW x
 | 0,_,_,_,_,⟨h1,_⟩,hb=>by rw [h1];exact hb
 | _+1,_,_,_,_,⟨_,h⟩,hb=>HWay.sn h (qGP (K:=0) hb hsW_kept)
/- Counts: their sum. -/
open Go.Proofs.YtompjkkgaafllaaGreat.Sx Go.RowKit
/- Worlds: how many slots are held. -/
open Go.Proofs.YtompjkkgaafllaaGreat.Sx Go.RowKit
theorem sum0 {α:Type} (f:α→Int) (l:List α) (s:Int):s+sumI f (l.take 0)=s:=by simp [sumI]
theorem qxL (g:GW) {cs:List Value} {w:Wd} (hw:rWo g cs w) (hb:BgW 1000 w):Ok Tryz.prog qHN [.agg ⟨cs⟩] g fun v _=>v=.int .i64 (qdF w):=by
 obtain⟨a,b,c,d,e,rfl,⟨i1,i2,i3⟩,hP,hV,hL,hC,hR⟩:=hw
 obtain⟨oa,ca,rfl,a1,a2,a0,hP1⟩:=id hP
 obtain⟨ob,cb,rfl,b1,b2,b0,hV1⟩:=id hV
 obtain⟨oc,cc,rfl,c1,c2,c0,hL1⟩:=id hL
 obtain⟨od,cd,rfl,d1,d2,d0,hC1⟩:=id hC
 obtain⟨oe,ce,rfl,e1,e2,e0,hR1⟩:=id hR
 obtain⟨⟨_,hbv,_,_,_⟩,_,hbV⟩:=hb
 exact Ok.of_fn hm noT 0 qnM (args:=[.v (.agg ⟨wQ w oa ca ob cb oc cc od cd oe ce⟩)]) (by
  repeat((conv=>whnf);first|apply qza|apply qzb|apply qzc|apply qzd|apply qze|intro(_:Nat))
  conv=>whnf
  refine⟨Nat×GW,fun (i,_)=>[.v (.int .i64 (0+sumI qiC (w.versions.take i))),.v (.int .i64 i)],fun (_,g')=>⟨g',_,_,_⟩,fun (i,g')=>i≤w.versions.length∧g≤g',fun (i,_)=>w.versions.length-i,qMA (0,g) (congrArg (fun z=>[Value.int .i64 z,.int .i64 0]) (sum0 _ _ _)) ⟨Nat.zero_le _,GW.refl _⟩ rfl,?_⟩
  rintro⟨i,g1⟩ ⟨hi,hg1⟩
  have hS:=qrF (f:=qiC) (c:=4*1000*1000) (l:=w.versions) (fun y hy=>qjS (hbV y hy)) i
  have hSl:(w.versions.take i).length≤1000:=by rw [List.length_take];omega
  repeat((conv=>whnf);first|apply qza|apply qzb|apply qzc|apply qzd|apply qze|intro(_:Nat))
  conv=>whnf
  refine⟨fun y1=>?_,fun y1=>?_⟩
  ·have h':i<w.versions.length:=by have h9:(i:Int)<w.versions.length:=of_decide_eq_true y1;omega
   obtain⟨v,hv⟩:=qBA h'
   have hvb:=hbV v (List.mem_of_getElem? hv)
   obtain⟨ad,rfl,ec,hec,⟨va,vb,vd,vn,rfl,hsn,hG⟩,hc⟩:=hV1 i v hv
   obtain⟨og,cg,rfl,p1,p2,p0,hG1⟩:=id hG
   obtain⟨_,_,_,he2,⟨sa,ta,rfl,_⟩,⟨sb,tb,rfl,_⟩,⟨sd,td,rfl,_⟩⟩:=hsn
   cases he2
   repeat((conv=>whnf);first|apply qza|apply qzb|apply qzc|apply qzd|apply qze|intro(_:Nat))
   conv=>whnf
   refine⟨_,rfl,⟨by show(0:Int)≤i;omega,by show(i:Int)<w.versions.length;omega⟩,?_⟩
   repeat((conv=>whnf);first|apply qza|apply qzb|apply qzc|apply qzd|apply qze|intro(_:Nat))
   conv=>whnf
   refine⟨_,⟨rfl,hc.mono hg1⟩,?_⟩
   repeat((conv=>whnf);first|apply qza|apply qzb|apply qzc|apply qzd|apply qze|intro(_:Nat))
   conv=>whnf
   refine⟨Nat×GW,fun (j,_)=>[.v (.int .i64 (0+sumI qiC (w.versions.take i)+sumI qTC (v.groups.take j))),.v (.int .i64 j)],fun (_,g')=>⟨g',_,_,_⟩,fun (j,g')=>j≤v.groups.length∧g1≤g',fun (j,_)=>v.groups.length-j,qMA (0,g1) (congrArg (fun z=>[Value.int .i64 z,.int .i64 0]) (sum0 _ _ _)) ⟨Nat.zero_le _,GW.refl _⟩ rfl,?_⟩
   rintro⟨j,g2⟩ ⟨hj,hg2⟩
   have hT:=qrF (f:=qTC) (c:=4*1000) (l:=v.groups) (fun y hy=>qWP (hvb.2 y hy)) j
   have hTl:(v.groups.take j).length≤1000:=by have:=hvb.1;rw [List.length_take];omega
   repeat((conv=>whnf);first|apply qza|apply qzb|apply qzc|apply qzd|apply qze|intro(_:Nat))
   conv=>whnf
   refine⟨fun y2=>?_,fun y2=>?_⟩
   ·have h2:j<v.groups.length:=by have h9:(j:Int)<v.groups.length:=of_decide_eq_true y2;omega
    obtain⟨x,hx⟩:=qBA h2
    have hxb:=hvb.2 x (List.mem_of_getElem? hx)
    obtain⟨ag,rfl,ecg,hecg,⟨xn,rfl,hti,hE⟩,hcg⟩:=hG1 j x hx
    obtain⟨on,cn,rfl,r1,r2,r0,hE1⟩:=id hE
    repeat((conv=>whnf);first|apply qza|apply qzb|apply qzc|apply qzd|apply qze|intro(_:Nat))
    conv=>whnf
    refine⟨_,rfl,⟨by show(0:Int)≤j;omega,by show(j:Int)<v.groups.length;omega⟩,?_⟩
    repeat((conv=>whnf);first|apply qza|apply qzb|apply qzc|apply qzd|apply qze|intro(_:Nat))
    conv=>whnf
    refine⟨_,⟨rfl,hcg.mono (GW.trans hg1 hg2)⟩,?_⟩
    repeat((conv=>whnf);first|apply qza|apply qzb|apply qzc|apply qzd|apply qze|intro(_:Nat))
    conv=>whnf
    refine⟨Nat×GW,fun (k,_)=>[.v (.int .i64 (0+sumI qiC (w.versions.take i)+sumI qTC (v.groups.take j)+sumI qSB (x.ends.take k))),.v (.int .i64 k)],fun (_,g')=>⟨g',_,_,_⟩,fun (k,g')=>k≤x.ends.length∧g2≤g',fun (k,_)=>x.ends.length-k,qMA (0,g2) (congrArg (fun z=>[Value.int .i64 z,.int .i64 0]) (sum0 _ _ _)) ⟨Nat.zero_le _,GW.refl _⟩ rfl,?_⟩
    rintro⟨k,g3⟩ ⟨hk,hg3⟩
    have hU:=qrF (f:=qSB) (c:=4) (l:=x.ends) (fun y _=>qKM y) k
    have hUl:(x.ends.take k).length≤1000:=by unfold BgG at hxb;rw [List.length_take];omega
    repeat((conv=>whnf);first|apply qza|apply qzb|apply qzc|apply qzd|apply qze|intro(_:Nat))
    conv=>whnf
    refine⟨fun y3=>?_,fun y3=>?_⟩
    ·have h3:k<x.ends.length:=by have h9:(k:Int)<x.ends.length:=of_decide_eq_true y3;omega
     obtain⟨en,hen⟩:=qBA h3
     obtain⟨ae,rfl,ece,hece,hEn,hce⟩:=hE1 k en hen
     have hEn0:=hEn
     obtain⟨⟨n,rfl,hH,hA,hN⟩,hsz⟩:=hEn0
     obtain⟨ox,cx,rfl,s1,s2,s0,hN1⟩:=id hN
     have hg03:=GW.trans hg1 (GW.trans hg2 hg3)
     repeat((conv=>whnf);first|apply qza|apply qzb|apply qzc|apply qzd|apply qze|intro(_:Nat))
     conv=>whnf
     refine⟨_,rfl,⟨by show(0:Int)≤k;omega,by show(k:Int)<x.ends.length;omega⟩,?_⟩
     repeat((conv=>whnf);first|apply qza|apply qzb|apply qzc|apply qzd|apply qze|intro(_:Nat))
     conv=>whnf
     refine⟨_,⟨rfl,hce.mono hg03⟩,?_⟩
     repeat((conv=>whnf);first|apply qza|apply qzb|apply qzc|apply qzd|apply qze|intro(_:Nat))
     refine .inr ((qOP _ (qCE _ _ _ _ hg03 hEn)).mono fun v' g4 hg4 hF=>?_)
     have hst:=qaJ qSB hen
     have hbd:=qKM en
     have hgo:∀ z:Int,z=qSB en→[Value.int .i64 (0+sumI qiC (w.versions.take i)+sumI qTC (v.groups.take j)+sumI qSB (x.ends.take (k+1))),Value.int .i64 ((k+1:Nat):Int)]=[Value.int .i64 (0+sumI qiC (w.versions.take i)+sumI qTC (v.groups.take j)+sumI qSB (x.ends.take k)+z),Value.int .i64 (IntKind.i64.wrap ((k:Int)+1))]:=fun z hz=>by
      rw [hst,hz,wr (x:=(k:Int)+1) (by unfold InR;unfold maxLen at r2;omega)]
      simp only [Int.add_assoc,Int.natCast_add,Int.natCast_one]
     unfold qCP at hF
     cases hf:qrA en with
     | none =>
      rw [hf] at hF
      subst hF
      have hbF:endB en=false:=by unfold endB;rw [hf];rfl
      have hz:qSB en=0:=by unfold qSB;rw [hbF];rfl
      repeat((conv=>whnf);first|apply qza|apply qzb|apply qzc|apply qzd|apply qze|intro(_:Nat))
      conv=>whnf
      refine .inl ⟨_,(qXO _ (qCE _ _ _ _ (GW.trans hg03 hg4) hEn)).to (congrArg Value.bool hbF),?_⟩
      repeat((conv=>whnf);first|apply qza|apply qzb|apply qzc|apply qzd|apply qze|intro(_:Nat))
      conv=>whnf
      refine⟨fun h=>(nomatch h),fun _=>?_⟩
      repeat((conv=>whnf);first|apply qza|apply qzb|apply qzc|apply qzd|apply qze|intro(_:Nat))
      conv=>whnf
      refine fun fr u hu=>⟨(k+1,g4),(hgo 0 hz.symm).trans (congrArg (fun z=>[Value.int .i64 z,Value.int .i64 (IntKind.i64.wrap ((k:Int)+1))]) (Int.add_zero _)),⟨h3,GW.trans hg3 hg4⟩,by show x.ends.length-(k+1)<x.ends.length-k;omega,hu.fit (by simp [fitL,Res.eqv,qAA,conc])⟩
     | some l =>
      rw [hf] at hF
      obtain⟨oF,cF,rfl,hF⟩:=hF
      have hll:=qMM hf
      repeat((conv=>whnf);first|apply qza|apply qzb|apply qzc|apply qzd|apply qze|intro(_:Nat))
      conv=>whnf
      refine .inl ⟨_,(qXO _ (qCE _ _ _ _ (GW.trans hg03 hg4) hEn)),?_⟩
      repeat((conv=>whnf);first|apply qza|apply qzb|apply qzc|apply qzd|apply qze|intro(_:Nat))
      conv=>whnf
      refine⟨fun y4=>?_,fun y4=>?_⟩
      ·have hbT:endB en=true:=y4
       have hz:qSB en=en.next.length-(l.length:Nat):=by unfold qSB;rw [hbT,hf];rfl
       repeat((conv=>whnf);first|apply qza|apply qzb|apply qzc|apply qzd|apply qze|intro(_:Nat))
       conv=>whnf
       refine fun fr u hu=>⟨(k+1,g4),(hgo _ hz.symm).trans (congrArg (fun z=>[Value.int .i64 z,Value.int .i64 (IntKind.i64.wrap ((k:Int)+1))]) (by rw [wr (x:=(en.next.length:Int)-l.length) (by unfold InR;omega),wr (x:=0+sumI qiC (w.versions.take i)+sumI qTC (v.groups.take j)+sumI qSB (x.ends.take k)+((en.next.length:Int)-l.length)) (by unfold InR;omega)])),⟨h3,GW.trans hg3 hg4⟩,by show x.ends.length-(k+1)<x.ends.length-k;omega,hu.fit (by simp [fitL,Res.eqv,qAA,conc])⟩
      ·have hbF:endB en=false:=y4
       have hz:qSB en=0:=by unfold qSB;rw [hbF];rfl
       repeat((conv=>whnf);first|apply qza|apply qzb|apply qzc|apply qzd|apply qze|intro(_:Nat))
       conv=>whnf
       refine fun fr u hu=>⟨(k+1,g4),(hgo 0 hz.symm).trans (congrArg (fun z=>[Value.int .i64 z,Value.int .i64 (IntKind.i64.wrap ((k:Int)+1))]) (Int.add_zero _)),⟨h3,GW.trans hg3 hg4⟩,by show x.ends.length-(k+1)<x.ends.length-k;omega,hu.fit (by simp [fitL,Res.eqv,qAA,conc])⟩
    have hkL:k=x.ends.length:=by have h9:¬ (k:Int)<x.ends.length:=of_decide_eq_false y3;omega
    subst hkL
    repeat((conv=>whnf);first|apply qza|apply qzb|apply qzc|apply qzd|apply qze|intro(_:Nat))
    conv=>whnf
    refine fun fr u hu=>⟨(j+1,g3),(show [Value.int .i64 (0+sumI qiC (w.versions.take i)+sumI qTC (v.groups.take (j+1))),Value.int .i64 ((j+1:Nat):Int)]=[Value.int .i64 (0+sumI qiC (w.versions.take i)+sumI qTC (v.groups.take j)+sumI qSB (x.ends.take x.ends.length)),Value.int .i64 (IntKind.i64.wrap ((j:Int)+1))] by rw [qaJ qTC hx,wr (x:=(j:Int)+1) (by unfold InR;unfold maxLen at p2;omega),List.take_length];simp only [Int.add_assoc,Int.natCast_add,Int.natCast_one];rfl),⟨h2,GW.trans hg2 hg3⟩,by show v.groups.length-(j+1)<v.groups.length-j;omega,hu.fit (by simp [fitL,Res.eqv,qAA,conc])⟩
   have hjL:j=v.groups.length:=by have h9:¬ (j:Int)<v.groups.length:=of_decide_eq_false y2;omega
   subst hjL
   repeat((conv=>whnf);first|apply qza|apply qzb|apply qzc|apply qzd|apply qze|intro(_:Nat))
   conv=>whnf
   refine fun fr u hu=>⟨(i+1,g2),(show [Value.int .i64 (0+sumI qiC (w.versions.take (i+1))),Value.int .i64 ((i+1:Nat):Int)]=[Value.int .i64 (0+sumI qiC (w.versions.take i)+sumI qTC (v.groups.take v.groups.length)),Value.int .i64 (IntKind.i64.wrap ((i:Int)+1))] by rw [qaJ qiC hv,wr (x:=(i:Int)+1) (by unfold InR;unfold maxLen at b2;omega),List.take_length];simp only [Int.add_assoc,Int.natCast_add,Int.natCast_one];rfl),⟨h',GW.trans hg1 hg2⟩,by show w.versions.length-(i+1)<w.versions.length-i;omega,hu.fit (by simp [fitL,Res.eqv,qAA,conc])⟩
  have hiL:i=w.versions.length:=by have h9:¬ (i:Int)<w.versions.length:=of_decide_eq_false y1;omega
  subst hiL
  repeat((conv=>whnf);first|apply qza|apply qzb|apply qzc|apply qzd|apply qze|intro(_:Nat))
  conv=>whnf
  intro g2 hg
  show Value.int .i64 (0+sumI qiC (w.versions.take w.versions.length))=_
  rw [List.take_length,Int.zero_add];rfl)
/- Law 20's example. -/
open Go.Proofs.YtompjkkgaafllaaGreat.Sx Go.RowKit
/- Machines: the document's sameness is true of the same datum. -/
open Go.Proofs.YtompjkkgaafllaaGreat.Sx Go.RowKit
/- Pins: the law's example. -/
open Go.Proofs.YtompjkkgaafllaaGreat.Sx Go.RowKit
section
variable {g:GW} {cs ms:List Value} {e pc ep:Int} {p:List Int} (hw:rWo g cs (wP e p)) (hM:qRB g ms (mP pc ep)) (he:0≤e∧e≤100) (hl:p.length=2) (hp:∀ x∈p,0≤x∧x≤e+1)
include hw hM he hl hp
end
/- The law PinOff. -/
open Go.Proofs.YtompjkkgaafllaaGreat.Sx Go.RowKit
theorem BgW.up {K K':Nat} {w:Wd} (h:BgW K w) (k:K≤K'):BgW K' w:=by
 obtain⟨⟨h1,h2,h3,h4,h5⟩,h6,h7⟩:=h
 refine⟨⟨by omega,by omega,by omega,by omega,by omega⟩,fun r hr=>by have:=h6 r hr;omega,fun v hv=>?_⟩
 obtain⟨a,b⟩:=h7 v hv
 exact⟨by omega,fun y hy=>by have:=b y hy;unfold BgG at this ⊢;omega⟩
/- The law HandleSteps. -/
open Go.Proofs.YtompjkkgaafllaaGreat.Sx Go.RowKit
theorem qrU {a b:BA} (h1:decide (100<(a.size:Int))=false) (h2:decide (100<(b.size:Int))=false):Sm a∧Sm b:=by
 have h1:=of_decide_eq_false h1
 have h2:=of_decide_eq_false h2
 exact⟨by unfold Sm;omega,by unfold Sm;omega⟩
/- Worlds: are all numbers far from their ends? -/
open Go.Proofs.YtompjkkgaafllaaGreat.Sx Go.RowKit
theorem qFJ {α:Type} {l:List α} {k:Nat} {x:α} (hx:l[k]?=some x) {P:α→Prop} (h:∀ v∈l.take k,P v) (h':P x):∀ v∈l.take (k+1),P v:=fun v hv=>by
 obtain⟨x1,x2⟩:=List.getElem?_eq_some_iff.1 hx
 rw [List.take_succ_eq_append_getElem x1,x2] at hv
 rcases List.mem_append.1 hv with hv|hv
 ·exact h v hv
 ·simp at hv;subst hv;exact h'
structure CalmP (w:Wd):Prop where
 ep:w.epoch≤1000000
 la:∀ x∈w.listens,x.active≤1000000
 ea:∀ v∈w.versions,∀ g∈v.groups,∀ e∈g.ends,e.active≤1000000
theorem qIS (g:GW) {cs:List Value} {w:Wd} (hw:rWo g cs w):Ok Tryz.prog qLH [.agg ⟨cs⟩] g fun v _=>∃ b,v=.bool b∧(b=true→CalmP w):=by
 have hV:=hw
 obtain⟨oa,ca,ob,cb,oc,cc,od,cd,oe,ce,rfl⟩:=qRA hw
 replace hV:=qmL hw
 have hL:=qOO hw
 obtain⟨_,_,hqL,c1,c2,_,_⟩:=id hL
 cases hqL
 obtain⟨_,_,hqV,b1,b2,_,_⟩:=id hV
 cases hqV
 exact Ok.of_fn hm noT 0 qBH (args:=[.v (.agg ⟨wQ w oa ca ob cb oc cc od cd oe ce⟩)]) (by
  repeat((conv=>whnf);first|apply qza|apply qzb|apply qzc|apply qzd|apply qze|intro(_:Nat))
  conv=>whnf
  refine⟨fun z1=>?_,fun z1=>?_⟩
  ·repeat((conv=>whnf);first|apply qza|apply qzb|apply qzc|apply qzd|apply qze|intro(_:Nat))
   conv=>whnf
   intro g2 hg
   exact⟨_,rfl,fun h=>by cases h⟩
  have z1:=of_decide_eq_false z1
  repeat((conv=>whnf);first|apply qza|apply qzb|apply qzc|apply qzd|apply qze|intro(_:Nat))
  conv=>whnf
  refine⟨Nat,fun k=>[.v (.int .i64 k)],fun _=>⟨g,_,_,_⟩,fun k=>k≤w.listens.length∧∀ x∈w.listens.take k,x.active≤1000000,fun k=>w.listens.length-k,qMA 0 rfl ⟨Nat.zero_le _,by simp⟩ rfl,?_⟩
  rintro k ⟨hk,hp⟩
  repeat((conv=>whnf);first|apply qza|apply qzb|apply qzc|apply qzd|apply qze|intro(_:Nat))
  conv=>whnf
  refine⟨fun hlt=>?_,fun hlt=>?_⟩
  ·have h':k<w.listens.length:=by have:=of_decide_eq_true hlt;omega
   obtain⟨x,hx⟩:=qBA h'
   obtain⟨al,rfl⟩:=qJA hL hx
   obtain⟨_,hcl⟩:=qCL hL hx
   repeat((conv=>whnf);first|apply qza|apply qzb|apply qzc|apply qzd|apply qze|intro(_:Nat))
   conv=>whnf
   refine⟨_,rfl,⟨by omega,by omega⟩,?_⟩
   repeat((conv=>whnf);first|apply qza|apply qzb|apply qzc|apply qzd|apply qze|intro(_:Nat))
   conv=>whnf
   refine⟨_,hcl 2 _ rfl,?_⟩
   repeat((conv=>whnf);first|apply qza|apply qzb|apply qzc|apply qzd|apply qze|intro(_:Nat))
   conv=>whnf
   refine⟨fun y1=>?_,fun y1=>?_⟩
   ·repeat((conv=>whnf);first|apply qza|apply qzb|apply qzc|apply qzd|apply qze|intro(_:Nat))
    conv=>whnf
    intro g2 hg
    exact⟨_,rfl,fun h=>by cases h⟩
   have y1:=of_decide_eq_false y1
   repeat((conv=>whnf);first|apply qza|apply qzb|apply qzc|apply qzd|apply qze|intro(_:Nat))
   conv=>whnf
   refine fun fr w' hw=>⟨k+1,congrArg (fun z=>[Value.int .i64 z]) (wr1 h' c1 c2).symm,⟨h',qFJ hx hp (by omega)⟩,dec h',?_⟩
   exact hw.fit (by simp [fitL,Res.eqv,qAA,conc])
  have hlL:=of_decide_eq_false hlt
  rw [List.take_of_length_le (by omega)] at hp
  clear hlt
  repeat((conv=>whnf);first|apply qza|apply qzb|apply qzc|apply qzd|apply qze|intro(_:Nat))
  conv=>whnf
  refine⟨Nat,fun k=>[.v (.int .i64 k)],fun _=>⟨g,_,_,_⟩,fun k=>k≤w.versions.length∧∀ v∈w.versions.take k,∀ g∈v.groups,∀ e∈g.ends,e.active≤1000000,fun k=>w.versions.length-k,qMA 0 rfl ⟨Nat.zero_le _,by simp⟩ rfl,?_⟩
  rintro i ⟨hi,hpi⟩
  repeat((conv=>whnf);first|apply qza|apply qzb|apply qzc|apply qzd|apply qze|intro(_:Nat))
  conv=>whnf
  refine⟨fun hlt=>?_,fun hlt=>?_⟩
  rotate_left
  ·have hiL:=of_decide_eq_false hlt
   rw [List.take_of_length_le (by omega)] at hpi
   repeat((conv=>whnf);first|apply qza|apply qzb|apply qzc|apply qzd|apply qze|intro(_:Nat))
   conv=>whnf
   intro g2 hg
   exact⟨_,rfl,fun _=>⟨by omega,hp,hpi⟩⟩
  have hi':i<w.versions.length:=by have:=of_decide_eq_true hlt;omega
  obtain⟨v,hv⟩:=qBA hi'
  obtain⟨av,rfl⟩:=qJA hV hv
  obtain⟨oL,cL,oR,cR,oC,cC,oG,cG,hcv,_,_,hcG⟩:=quG hV hv
  obtain⟨_,_,hqG,n1,n2,_,_⟩:=id hcG
  cases hqG
  clear hlt
  repeat((conv=>whnf);first|apply qza|apply qzb|apply qzc|apply qzd|apply qze|intro(_:Nat))
  conv=>whnf
  refine⟨Nat,fun k=>[.v (.int .i64 k)],fun _=>⟨g,_,_,_⟩,fun k=>k≤v.groups.length∧∀ g∈v.groups.take k,∀ e∈g.ends,e.active≤1000000,fun k=>v.groups.length-k,qMA 0 rfl ⟨Nat.zero_le _,by simp⟩ rfl,?_⟩
  rintro j ⟨hj,hpj⟩
  repeat((conv=>whnf);first|apply qza|apply qzb|apply qzc|apply qzd|apply qze|intro(_:Nat))
  conv=>whnf
  refine⟨_,rfl,⟨by omega,by omega⟩,?_⟩
  repeat((conv=>whnf);first|apply qza|apply qzb|apply qzc|apply qzd|apply qze|intro(_:Nat))
  conv=>whnf
  refine⟨_,hcv 3 _ rfl,?_⟩
  repeat((conv=>whnf);first|apply qza|apply qzb|apply qzc|apply qzd|apply qze|intro(_:Nat))
  conv=>whnf
  refine⟨fun hlt=>?_,fun hlt=>?_⟩
  rotate_left
  ·have hjL:=of_decide_eq_false hlt
   rw [List.take_of_length_le (by omega)] at hpj
   repeat((conv=>whnf);first|apply qza|apply qzb|apply qzc|apply qzd|apply qze|intro(_:Nat))
   conv=>whnf
   refine fun fr w' hw=>⟨i+1,congrArg (fun z=>[Value.int .i64 z]) (wr1 hi' b1 b2).symm,⟨hi',qFJ hv hpi hpj⟩,dec hi',?_⟩
   exact hw.fit (by simp [fitL,Res.eqv,qAA,conc])
  have hj':j<v.groups.length:=by have:=of_decide_eq_true hlt;omega
  obtain⟨gr,hgr⟩:=qBA hj'
  obtain⟨ag,rfl⟩:=qJA hcG hgr
  obtain⟨oE,cE,hcg,_,hcE⟩:=q0G hcG hgr
  obtain⟨_,_,hqE,m1,m2,_,_⟩:=id hcE
  cases hqE
  clear hlt
  repeat((conv=>whnf);first|apply qza|apply qzb|apply qzc|apply qzd|apply qze|intro(_:Nat))
  conv=>whnf
  refine⟨Nat,fun k=>[.v (.int .i64 k)],fun _=>⟨g,_,_,_⟩,fun k=>k≤gr.ends.length∧∀ e∈gr.ends.take k,e.active≤1000000,fun k=>gr.ends.length-k,qMA 0 rfl ⟨Nat.zero_le _,by simp⟩ rfl,?_⟩
  rintro l ⟨hl,hpl⟩
  repeat((conv=>whnf);first|apply qza|apply qzb|apply qzc|apply qzd|apply qze|intro(_:Nat))
  conv=>whnf
  refine⟨_,rfl,⟨by omega,by omega⟩,?_⟩
  repeat((conv=>whnf);first|apply qza|apply qzb|apply qzc|apply qzd|apply qze|intro(_:Nat))
  conv=>whnf
  refine⟨_,hcv 3 _ rfl,?_⟩
  repeat((conv=>whnf);first|apply qza|apply qzb|apply qzc|apply qzd|apply qze|intro(_:Nat))
  conv=>whnf
  refine⟨_,rfl,⟨by omega,by omega⟩,?_⟩
  repeat((conv=>whnf);first|apply qza|apply qzb|apply qzc|apply qzd|apply qze|intro(_:Nat))
  conv=>whnf
  refine⟨_,hcg 1 _ rfl,?_⟩
  repeat((conv=>whnf);first|apply qza|apply qzb|apply qzc|apply qzd|apply qze|intro(_:Nat))
  conv=>whnf
  refine⟨fun hlt=>?_,fun hlt=>?_⟩
  rotate_left
  ·have hlL':=of_decide_eq_false hlt
   rw [List.take_of_length_le (by omega)] at hpl
   repeat((conv=>whnf);first|apply qza|apply qzb|apply qzc|apply qzd|apply qze|intro(_:Nat))
   conv=>whnf
   refine fun fr w' hw=>⟨j+1,congrArg (fun z=>[Value.int .i64 z]) (wr1 hj' n1 n2).symm,⟨hj',qFJ hgr hpj hpl⟩,dec hj',?_⟩
   exact hw.fit (by simp [fitL,Res.eqv,qAA,conc])
  have hl':l<gr.ends.length:=by have:=of_decide_eq_true hlt;omega
  obtain⟨en,hen⟩:=qBA hl'
  obtain⟨ae,rfl⟩:=qJA hcE hen
  obtain⟨oN,cN,hce,_,_⟩:=q2G hcE hen
  repeat((conv=>whnf);first|apply qza|apply qzb|apply qzc|apply qzd|apply qze|intro(_:Nat))
  conv=>whnf
  refine⟨_,rfl,⟨by omega,by omega⟩,?_⟩
  repeat((conv=>whnf);first|apply qza|apply qzb|apply qzc|apply qzd|apply qze|intro(_:Nat))
  conv=>whnf
  refine⟨_,hcv 3 _ rfl,?_⟩
  repeat((conv=>whnf);first|apply qza|apply qzb|apply qzc|apply qzd|apply qze|intro(_:Nat))
  conv=>whnf
  refine⟨_,rfl,⟨by omega,by omega⟩,?_⟩
  repeat((conv=>whnf);first|apply qza|apply qzb|apply qzc|apply qzd|apply qze|intro(_:Nat))
  conv=>whnf
  refine⟨_,hcg 1 _ rfl,?_⟩
  repeat((conv=>whnf);first|apply qza|apply qzb|apply qzc|apply qzd|apply qze|intro(_:Nat))
  conv=>whnf
  refine⟨_,rfl,⟨by omega,by omega⟩,?_⟩
  repeat((conv=>whnf);first|apply qza|apply qzb|apply qzc|apply qzd|apply qze|intro(_:Nat))
  conv=>whnf
  refine⟨_,hce 2 _ rfl,?_⟩
  repeat((conv=>whnf);first|apply qza|apply qzb|apply qzc|apply qzd|apply qze|intro(_:Nat))
  conv=>whnf
  refine⟨fun y1=>?_,fun y1=>?_⟩
  ·repeat((conv=>whnf);first|apply qza|apply qzb|apply qzc|apply qzd|apply qze|intro(_:Nat))
   conv=>whnf
   intro g2 hg
   exact⟨_,rfl,fun h=>by cases h⟩
  have y1:=of_decide_eq_false y1
  repeat((conv=>whnf);first|apply qza|apply qzb|apply qzc|apply qzd|apply qze|intro(_:Nat))
  conv=>whnf
  refine fun fr w' hw=>⟨l+1,congrArg (fun z=>[Value.int .i64 z]) (wr1 hl' m1 m2).symm,⟨hl',qFJ hen hpl (by omega)⟩,dec hl',?_⟩
  exact hw.fit (by simp [fitL,Res.eqv,qAA,conc]))
/- The law HandleRight. -/
open Go.Proofs.YtompjkkgaafllaaGreat.Sx Go.RowKit
abbrev oCs (o:OpD) (a b d:Value):List Value:=[.int .i64 o.kind,.string o.listen,.string o.host,.string o.path,.int .i64 o.d0,.int .i64 o.d1,.int .i64 o.n,a,b,d]
/- Drains: a step. -/
open Go.Proofs.YtompjkkgaafllaaGreat.Sx Go.RowKit
def DrP (w:Wd) (m:Mach) (v:Value) (g':GW):Prop:=∃ cs ms,v=.tuple #[.agg ⟨cs⟩,.agg ⟨ms⟩,.agg ⟨(drE w m).cs⟩]∧rWo g' cs (drW w m)∧qRB g' ms (drM w m)
theorem qER (g:GW) (x:Listen):OkV Tryz.prog qCM [.agg ⟨cLis x⟩] g (.agg ⟨cLis (drL x)⟩) :=
 Ok.of_fn hm noT 0 qgL (args:=[.v (.agg ⟨cLis x⟩)]) (by
  repeat((conv=>whnf);first|apply qza|apply qzb|apply qzc|apply qzd|apply qze|intro(_:Nat))
  conv=>whnf
  intro g2 hg
  rfl)
def tDr:List (Nat×FnI):=[(qzH,qHE)]
theorem qMU:qOG Tryz.prog tDr:=by
 intro x hx
 simp only [tDr,List.mem_cons,List.not_mem_nil,or_false] at hx
 rcases hx with rfl
 exact⟨_,_,qfH⟩
theorem qwL (g:GW) {cs ms:List Value} {w:Wd} {m:Mach} (hw:rWo g cs w) (hM:qRB g ms m) (hsn:SnW w) (hb:BgW 1000000 w):Ok Tryz.prog qQN [.agg ⟨cs⟩,.agg ⟨ms⟩] g (DrP w m):=by
 obtain⟨oa,ca,ob,cb,oc,cc,od,cd,oe,ce,o1,t1,o2,t2,o3,t3,rfl,rfl,hw0,hM0,⟨i1,i2,i3⟩,hP,hV,hL,hC,hR,⟨a1,a2,a0,hP1⟩,⟨b1,b2,b0,hV1⟩,⟨c1,c2,c0,hL1⟩,⟨d1,d2,d0,hC1⟩,⟨e1,e2,e0,hR1⟩,hok,hop,hcf⟩:=qLE hw hM
 exact Ok.of_fn hm qMU 2 qwM (args:=[.v (.agg ⟨wQ w oa ca ob cb oc cc od cd oe ce⟩),.v (.agg ⟨mQ m o1 t1 o2 t2 o3 t3⟩)]) (by
  repeat((conv=>whnf);first|apply qza|apply qzb|apply qzc|apply qzd|apply qze|intro(_:Nat))
  conv=>whnf
  refine⟨fun z1=>?_,fun z1=>?_⟩
  ·repeat((conv=>whnf);first|apply qza|apply qzb|apply qzc|apply qzd|apply qze|intro(_:Nat))
   conv=>whnf
   intro g2 hg
   obtain⟨hWd,hMm,hE⟩:=qvU (w:=w) (m:=m) (fun h=>bneT z1 h.2)
   exact⟨_,_,by rw [hE];rfl,by rw [hWd];exact qGA _ _ _ _ hg hw0,by rw [hMm];exact qgA _ _ _ _ hg hM0⟩
  repeat((conv=>whnf);first|apply qza|apply qzb|apply qzc|apply qzd|apply qze|intro(_:Nat))
  conv=>whnf
  refine .inl ⟨_,qbA _ hw0 hM0 hsn hb,?_⟩
  repeat((conv=>whnf);first|apply qza|apply qzb|apply qzc|apply qzd|apply qze|intro(_:Nat))
  conv=>whnf
  refine⟨fun z2=>?_,fun z2=>?_⟩
  ·repeat((conv=>whnf);first|apply qza|apply qzb|apply qzc|apply qzd|apply qze|intro(_:Nat))
   conv=>whnf
   intro g2 hg
   obtain⟨hWd,hMm,hE⟩:=qvU (w:=w) (m:=m) (fun h=>by rw [h.1] at z2;cases z2)
   exact⟨_,_,by rw [hE];rfl,by rw [hWd];exact qGA _ _ _ _ hg hw0,by rw [hMm];exact qgA _ _ _ _ hg hM0⟩
  have hs:=nb0 z2
  have hgo:drGo w m:=⟨hs,bneF z1⟩
  repeat((conv=>whnf);first|apply qza|apply qzb|apply qzc|apply qzd|apply qze|intro(_:Nat))
  refine .inr ((qhA _ hw0 hb).mono fun v g3 hg3 hO=>?_)
  obtain⟨cs,T,rfl,hT⟩:=hO
  have hF:=qsA hT
  obtain⟨oa',ca',ob',cb',oc',cc',od',cd',oe',ce',rfl⟩:=qRA hF
  obtain⟨_,_,_,_,_,hq,_,_,_,hLi,_,_⟩:=id hF
  simp only [List.cons.injEq,and_true] at hq
  obtain⟨_,_,_,_,_,rfl,_⟩:=hq
  repeat((conv=>whnf);first|apply qza|apply qzb|apply qzc|apply qzd|apply qze|intro(_:Nat))
  conv=>whnf
  refine .inl ⟨_,q1F _ hLi _,?_⟩
  repeat((conv=>whnf);first|apply qza|apply qzb|apply qzc|apply qzd|apply qze|intro(_:Nat))
  conv=>whnf
  refine⟨fun z3=>?_,fun z3=>?_⟩
  ·obtain⟨hWd,hMm,hE⟩:=qAP hgo (show drI w m<0 from of_decide_eq_true z3)
   repeat((conv=>whnf);first|apply qza|apply qzb|apply qzc|apply qzd|apply qze|intro(_:Nat))
   conv=>whnf
   intro g2 hg
   refine⟨_,_,by rw [hE];rfl,by rw [hWd];exact qGA _ _ _ _ hg hF,?_⟩
   rw [hMm]
   exact⟨_,_,_,rfl,{hok with answer:=qNG (by decide)},hop,qDA _ _ _ _ (GW.trans hg3 hg) hcf⟩
  have hnn:0≤drI w m:=by have h9:¬ drI w m<0:=of_decide_eq_false z3;omega
  obtain⟨x,hx,hlt⟩:=qqL (show 0≤qOA w.listens m.op.listen from hnn)
  have hlt':drI w m<w.listens.length:=hlt
  have hl8:=hb.1.2.2.1
  obtain⟨hWd,hMm,hE⟩:=q9O hgo hnn hx
  obtain⟨_,_,kl,kl1,kl2,kl0,klr⟩:=hLi
  cases kl
  obtain⟨al,rfl,el,hel,⟨rfl,hxa⟩,hcl⟩:=klr _ x hx
  obtain⟨bk,cap,hv,rcl,b5,j5,bc,ty5,⟨hA,p1,p2,p3,p4⟩,_,hk5⟩:=qfO hT hx (x':=drL x) (o:=0) (vs:=cLis (drL x)) (by simp) (by simp [Value.oneCell']) rfl hxa
  cases hv
  repeat((conv=>whnf);first|apply qza|apply qzb|apply qzc|apply qzd|apply qze|intro(_:Nat))
  conv=>whnf
  refine⟨_,rfl,⟨by show 0≤drI w m;omega,by show drI w m<w.listens.length;omega⟩,?_⟩
  repeat((conv=>whnf);first|apply qza|apply qzb|apply qzc|apply qzd|apply qze|intro(_:Nat))
  conv=>whnf
  refine⟨_,⟨rfl,hcl⟩,?_⟩
  repeat((conv=>whnf);first|apply qza|apply qzb|apply qzc|apply qzd|apply qze|intro(_:Nat))
  conv=>whnf
  refine .inl ⟨_,qER _ x,?_⟩
  repeat((conv=>whnf);first|apply qza|apply qzb|apply qzc|apply qzd|apply qze|intro(_:Nat))
  conv=>whnf
  refine⟨_,rfl,⟨by show 0≤drI w m;omega,by show drI w m<w.listens.length;omega⟩,?_⟩
  repeat((conv=>whnf);first|apply qza|apply qzb|apply qzc|apply qzd|apply qze|intro(_:Nat))
  conv=>whnf
  refine⟨b5,j5,bc,ty5,⟨by rw [← hA];rfl,p1,p2,p3,p4⟩,?_⟩
  repeat((conv=>whnf);first|apply qza|apply qzb|apply qzc|apply qzd|apply qze|intro(_:Nat))
  conv=>whnf
  refine fun g6 u6=>?_
  have hFx:=qsA (hk5 g6 u6)
  have hle6:g≤g6:=u6.le hg3 (fun h=>by have:=g.wf _ h;omega)
  repeat((conv=>whnf);first|apply qza|apply qzb|apply qzc|apply qzd|apply qze|intro(_:Nat))
  conv=>whnf
  intro g2 hg
  refine⟨_,_,by rw [hE];rfl,by rw [hWd];exact qGA _ _ _ _ hg hFx,?_⟩
  rw [hMm]
  exact⟨_,_,_,rfl,{hok with listen:=show InR (drI w m) by unfold InR;omega,answer:=qNG ⟨by decide,by unfold InR;omega⟩},hop,qDA _ _ _ _ (GW.trans hle6 hg) hcf⟩)
/- Law 23's example. -/
open Go.Proofs.YtompjkkgaafllaaGreat.Sx Go.RowKit
theorem qCU:SnW w1:=by
 intro v hv
 have:v=qKA (q7I 1 [true]):=by simpa [w1,newW] using hv
 subst this
 refine⟨by decide,fun r hr=>?_⟩
 have:r=⟨0,⟨#[42]⟩,⟨#[47]⟩,0⟩:=by simpa [qKA,q7I] using hr
 subst this
 decide
theorem qFU:BgW 1000000 w1:=by
 refine⟨⟨by decide,by decide,by decide,by decide,by decide⟩,by decide,fun v hv=>?_⟩
 have:v=qKA (q7I 1 [true]):=by simpa [w1,newW] using hv
 subst this
 refine⟨by decide,fun y hy=>?_⟩
 have:y=⟨0,[qgB 1]⟩:=by simpa [qKA,q7I] using hy
 subst this
 show 1≤1000000
 decide
theorem q2K (g:GW):Ok Tryz.prog qhG [] g fun v g'=>∃ cs,v=.agg ⟨cs⟩∧rWo g' cs w1 :=
 Ok.of_fn hm noT 0 qaG (args:=[]) (by
  repeat((conv=>whnf);first|apply qza|apply qzb|apply qzc|apply qzd|apply qze|intro(_:Nat))
  conv=>whnf
  refine⟨1,rfl,by unfold maxLen;omega,fun g1 hg1 hn1 hp1=>?_⟩
  repeat((conv=>whnf);first|apply qza|apply qzb|apply qzc|apply qzd|apply qze|intro(_:Nat))
  conv=>whnf
  refine⟨4,rfl,by unfold maxLen;omega,fun g2 hg2 hn2 hp2=>?_⟩
  repeat((conv=>whnf);first|apply qza|apply qzb|apply qzc|apply qzd|apply qze|intro(_:Nat))
  conv=>whnf
  refine⟨1,rfl,by unfold maxLen;omega,fun g3 hg3 hn3 hp3=>?_⟩
  repeat((conv=>whnf);first|apply qza|apply qzb|apply qzc|apply qzd|apply qze|intro(_:Nat))
  conv=>whnf
  refine⟨4,rfl,by unfold maxLen;omega,fun g4 hg4 hn4 hp4=>?_⟩
  repeat((conv=>whnf);first|apply qza|apply qzb|apply qzc|apply qzd|apply qze|intro(_:Nat))
  conv=>whnf
  refine⟨1,rfl,by unfold maxLen;omega,fun g5 hg5 hn5 hp5=>?_⟩
  have hs:=q4R (n:=1) (h:=[true]) (hp1.mono (GW.trans hg2 (GW.trans hg3 (GW.trans hg4 hg5)))) (hp2.mono (GW.trans hg3 (GW.trans hg4 hg5))) (hp4.mono hg5) (hp3.mono (GW.trans hg4 hg5)) (by decide)
  have hl:=qzF (R:=rStr) hp5.rd [sInW] .string rfl fun _ _=>rfl
  conv=>whnf
  refine .inr ((qhU _ hs hl (t:=1) (by decide) (by decide)).mono fun v g6 hg6 hN=>?_)
  rcases hN with ⟨_,cs,rfl,hw⟩|⟨h,_⟩
  rotate_left
  ·exact absurd qDU h
  obtain⟨oa,ca,ob,cb,oc,cc,od,cd,oe,ce,rfl⟩:=qRA hw
  repeat((conv=>whnf);first|apply qza|apply qzb|apply qzc|apply qzd|apply qze|intro(_:Nat))
  conv=>whnf
  intro g2 hg
  exact⟨_,rfl,qGA _ _ _ _ hg hw⟩)
theorem q5C (g:GW):OkV Tryz.prog qbF [] g (.bool true) :=
 Ok.of_fn hm noT 0 qWF (args:=[]) (by
  repeat((conv=>whnf);first|apply qza|apply qzb|apply qzc|apply qzd|apply qze|intro(_:Nat))
  refine .inr ((q2K _).mono fun v g1 hg1 hO=>?_)
  obtain⟨cs,rfl,hw1⟩:=hO
  obtain⟨_,_,_,_,_,_,_,_,_,_,rfl⟩:=qRA hw1
  repeat((conv=>whnf);first|apply qza|apply qzb|apply qzc|apply qzd|apply qze|intro(_:Nat))
  refine .inr ((qwL _ hw1 (q1Q _ sInW) qCU qFU).mono fun v g2 hg2 hO=>?_)
  obtain⟨csa,msa,rfl,hwa,hMa⟩:=hO
  rw [w1_some.1] at hwa
  rw [w1_some.2.1] at hMa
  rw [w1_some.2.2]
  obtain⟨_,_,_,_,oL,cL,_,_,_,_,rfl⟩:=qRA hwa
  obtain⟨_,_,_,_,_,_,rfl⟩:=qeE hMa
  repeat((conv=>whnf);first|apply qza|apply qzb|apply qzc|apply qzd|apply qze|intro(_:Nat))
  refine .inr ((q2K _).mono fun v g3 hg3 hO=>?_)
  obtain⟨cs,rfl,hw3⟩:=hO
  obtain⟨_,_,_,_,_,_,_,_,_,_,rfl⟩:=qRA hw3
  repeat((conv=>whnf);first|apply qza|apply qzb|apply qzc|apply qzd|apply qze|intro(_:Nat))
  refine .inr ((qwL _ hw3 (q1Q _ sNoW) qCU qFU).mono fun v g4 hg4 hO=>?_)
  obtain⟨csb,msb,rfl,hwb,hMb⟩:=hO
  rw [w1_none.1] at hwb
  rw [w1_none.2.1] at hMb
  rw [w1_none.2.2]
  obtain⟨_,_,_,_,_,_,_,_,_,_,rfl⟩:=qRA hwb
  obtain⟨_,_,_,_,_,_,rfl⟩:=qeE hMb
  obtain⟨_,_,_,_,_,hq,_,_,_,hLi,_,_⟩:=id hwa
  simp only [List.cons.injEq,and_true] at hq
  obtain⟨_,_,_,_,_,rfl,_⟩:=hq
  obtain⟨_,_,kl,kl1,kl2,kl0,klr⟩:=hLi
  cases kl
  obtain⟨al,rfl,el,hel,⟨rfl,hxa⟩,hcl⟩:=klr 0 (drL xIn) rfl
  have l24:=GW.trans hg3 hg4
  repeat((conv=>whnf);first|apply qza|apply qzb|apply qzc|apply qzd|apply qze|intro(_:Nat))
  conv=>whnf
  refine⟨fun hx=>absurd hx (by decide),fun _=>?_⟩
  repeat((conv=>whnf);first|apply qza|apply qzb|apply qzc|apply qzd|apply qze|intro(_:Nat))
  conv=>whnf
  refine⟨_,rfl,⟨by decide,by decide⟩,?_⟩
  repeat((conv=>whnf);first|apply qza|apply qzb|apply qzc|apply qzd|apply qze|intro(_:Nat))
  conv=>whnf
  refine⟨_,(hcl 1 _ rfl).mono l24,?_⟩
  repeat((conv=>whnf);first|apply qza|apply qzb|apply qzc|apply qzd|apply qze|intro(_:Nat))
  conv=>whnf
  refine⟨fun _=>?_,fun hx=>absurd hx (by decide)⟩
  repeat((conv=>whnf);first|apply qza|apply qzb|apply qzc|apply qzd|apply qze|intro(_:Nat))
  conv=>whnf
  refine⟨fun _=>?_,fun hx=>absurd hx (by decide)⟩
  repeat((conv=>whnf);first|apply qza|apply qzb|apply qzc|apply qzd|apply qze|intro(_:Nat))
  conv=>whnf
  refine⟨fun _=>?_,fun hx=>absurd hx (by decide)⟩
  repeat((conv=>whnf);first|apply qza|apply qzb|apply qzc|apply qzd|apply qze|intro(_:Nat))
  conv=>whnf
  refine⟨fun _=>?_,fun hx=>absurd hx (by decide)⟩
  repeat((conv=>whnf);first|apply qza|apply qzb|apply qzc|apply qzd|apply qze|intro(_:Nat))
  conv=>whnf
  intro g2 hg
  rfl)
/- The law DrainRefuses. -/
open Go.Proofs.YtompjkkgaafllaaGreat.Sx Go.RowKit
theorem HWay.go' {k:Nat} {w:Wd} {m:Mach} {x:Wd} {n:Mach} (h:HWay (k+1) w m x n):m.done=false:=by
 cases hd:m.done with
 | false=>rfl
 | true=>exact absurd (qaQ hd) h.1
theorem qnJ (g:GW) {cs os:List Value} {w:Wd} {th:Int} {o:OpD} (hw:rWo g cs w) (ht:InR th) (hO:rOp g os o):OkV Tryz.prog qrD [.agg ⟨cs⟩,.int .i64 th,.agg ⟨os⟩] g (.bool true):=by
 obtain⟨oa,ca,ob,cb,oc,cc,od,cd,oe,ce,rfl⟩:=qRA hw
 obtain⟨o1,t1,o2,t2,o3,t3,rfl⟩:=qAS hO
 exact Ok.of_fn hm noT 0 qnD (args:=[.v (.agg ⟨wQ w oa ca ob cb oc cc od cd oe ce⟩),.v (.int .i64 th),.v (.agg ⟨oCs o (.slice o1 o.config.listens.length t1) (.slice o2 o.config.routes.length t2) (.slice o3 o.config.clusters.length t3)⟩)]) (by
  repeat((conv=>whnf);first|apply qza|apply qzb|apply qzc|apply qzd|apply qze|intro(_:Nat))
  refine .inr ((qJS _ hw).mono fun v g1 hg1 hB=>?_)
  obtain⟨b,rfl,hB⟩:=hB
  have hw1:=qGA _ _ _ _ hg1 hw
  have hM1:=q0Q (qBS _ _ _ _ hg1 hO) ht
  repeat((conv=>whnf);first|apply qza|apply qzb|apply qzc|apply qzd|apply qze|intro(_:Nat))
  conv=>whnf
  refine⟨fun z1=>?_,fun z1=>?_⟩
  ·repeat((conv=>whnf);first|apply qza|apply qzb|apply qzc|apply qzd|apply qze|intro(_:Nat))
   conv=>whnf
   refine .inl ⟨_,q5C _,?_⟩
   repeat((conv=>whnf);first|apply qza|apply qzb|apply qzc|apply qzd|apply qze|intro(_:Nat))
   conv=>whnf
   intro g2 hg
   rfl
  obtain⟨hb,hsn⟩:=hB z1
  have hb':=BgW.up (K':=1000000) hb (by decide)
  repeat((conv=>whnf);first|apply qza|apply qzb|apply qzc|apply qzd|apply qze|intro(_:Nat))
  refine .inr ((qIS _ hw1).mono fun v g2 hg2 hC=>?_)
  obtain⟨b,rfl,hC⟩:=hC
  have hw2:=qGA _ _ _ _ hg2 hw1
  have hM2:=qgA _ _ _ _ hg2 hM1
  repeat((conv=>whnf);first|apply qza|apply qzb|apply qzc|apply qzd|apply qze|intro(_:Nat))
  conv=>whnf
  refine⟨fun z5=>?_,fun z5=>?_⟩
  ·repeat((conv=>whnf);first|apply qza|apply qzb|apply qzc|apply qzd|apply qze|intro(_:Nat))
   conv=>whnf
   refine .inl ⟨_,q5C _,?_⟩
   repeat((conv=>whnf);first|apply qza|apply qzb|apply qzc|apply qzd|apply qze|intro(_:Nat))
   conv=>whnf
   intro g2 hg
   rfl
  have hcalm:=hC (nb0 z5)
  repeat((conv=>whnf);first|apply qza|apply qzb|apply qzc|apply qzd|apply qze|intro(_:Nat))
  conv=>whnf
  refine⟨fun z2=>?_,fun z2=>?_⟩
  ·repeat((conv=>whnf);first|apply qza|apply qzb|apply qzc|apply qzd|apply qze|intro(_:Nat))
   conv=>whnf
   refine .inl ⟨_,q5C _,?_⟩
   repeat((conv=>whnf);first|apply qza|apply qzb|apply qzc|apply qzd|apply qze|intro(_:Nat))
   conv=>whnf
   intro g2 hg
   rfl
  repeat((conv=>whnf);first|apply qza|apply qzb|apply qzc|apply qzd|apply qze|intro(_:Nat))
  conv=>whnf
  refine⟨fun z3=>?_,fun z3=>?_⟩
  ·repeat((conv=>whnf);first|apply qza|apply qzb|apply qzc|apply qzd|apply qze|intro(_:Nat))
   conv=>whnf
   refine .inl ⟨_,q5C _,?_⟩
   repeat((conv=>whnf);first|apply qza|apply qzb|apply qzc|apply qzd|apply qze|intro(_:Nat))
   conv=>whnf
   intro g2 hg
   rfl
  have hsz:SmO (mReq o th):=qrU z2 z3
  repeat((conv=>whnf);first|apply qza|apply qzb|apply qzc|apply qzd|apply qze|intro(_:Nat))
  conv=>whnf
  refine .inl ⟨_,qbA _ hw2 hM2 hsn hb',?_⟩
  repeat((conv=>whnf);first|apply qza|apply qzb|apply qzc|apply qzd|apply qze|intro(_:Nat))
  conv=>whnf
  refine⟨fun z6=>?_,fun z6=>?_⟩
  ·repeat((conv=>whnf);first|apply qza|apply qzb|apply qzc|apply qzd|apply qze|intro(_:Nat))
   conv=>whnf
   refine .inl ⟨_,q5C _,?_⟩
   repeat((conv=>whnf);first|apply qza|apply qzb|apply qzc|apply qzd|apply qze|intro(_:Nat))
   conv=>whnf
   intro g2 hg
   rfl
  have hs:=nb0 z6
  obtain⟨_,_,_,hS⟩:=suitB_iff.1 hs
  have hgo:drGo w (mReq o th):=⟨hs,rfl⟩
  have hll:∀ x:Wd,x.listens.length=w.listens.length→0<x.listens.length:=fun x hx=>by have:=hS.listen.2;simp only [mReq] at this;omega
  obtain⟨x0,n0,hW0,hN0,hbg0,hsn0,way⟩:∃ x0 n0,drW w (mReq o th)=x0∧drM w (mReq o th)=n0∧BgW 60 x0∧SnW x0∧∃ k x m' w1 m1,k≤16∧HWay k x0 (mReq o th) x m'∧HMid x0 (mReq o th) w1 m1∧HEnd w1 m1 x m'∧qdF x0=qdF w∧qzB x0 (mReq o th)=true∧((n0.answer.kind=7∧m1.answer.kind=2)∨(n0.answer.kind=10∧m1.answer.kind=5)):=by
   by_cases hi:drI w (mReq o th)<0
   ·obtain⟨e1,e2,_⟩:=qAP hgo hi
    refine⟨w,_,e1,e2,hb,hsn,?_⟩
    obtain⟨k,x,m',w1,m1,h1,h2,h3,h4,h5⟩:=(q8S (n:=1000000) hs rfl hcalm.la hcalm.ea).wholeN (by decide) hi
    exact⟨k,x,m',w1,m1,h1,h2,h3,h5,rfl,hs,.inl ⟨rfl,h4⟩⟩
   ·have hi:0≤drI w (mReq o th):=by omega
    obtain⟨y,hy,_⟩:=qqL hi
    obtain⟨e1,e2,_⟩:=q9O hgo hi hy
    have hr:=qPG hS.right hy (x':=drL y) rfl (qrS hS.right hy)
    have hs0:qzB {w with listens:=w.listens.set (drI w (mReq o th)).toNat (drL y)} (mReq o th)=true:=q2R hr o hS.thread (by show 0<(w.listens.set _ _).length;rw [List.length_set];exact hll w rfl)
    refine⟨_,_,e1,e2,⟨by have:=hb.1;exact⟨this.1,this.2.1,by show(w.listens.set _ _).length≤60;rw [List.length_set];exact this.2.2.1,this.2.2.2⟩,hb.2⟩,hsn,?_⟩
    have hpl:qOA (w.listens.set (drI w (mReq o th)).toNat (drL y)) (mReq o th).op.listen=drI w (mReq o th):=qvI (qFN hy (x':=drL y) rfl) _
    have hla:∀ z∈w.listens.set (drI w (mReq o th)).toNat (drL y),z.active≤1000000:=fun z hz=>by
     rcases List.mem_or_eq_of_mem_set hz with hz|rfl
     ·exact hcalm.la z hz
     ·exact hcalm.la y (List.mem_of_getElem? hy)
    obtain⟨k,x,m',w1,m1,h1,h2,h3,h4,h5⟩:=(q8S (n:=1000000) hs0 rfl hla hcalm.ea).wholeD (by decide) (by rw [hpl];exact hi) (y:=drL y) (by rw [hpl];exact qYA hy) rfl
    exact⟨k,x,m',w1,m1,h1,h2,h3,h5,rfl,hs0,.inr ⟨rfl,h4⟩⟩
  obtain⟨k,x,m',w1,m1,hk,hway,hmid,hend,hheld0,hs0,hkk⟩:=way
  have hd:=hend.done
  have hbx0:=BgW.up (K':=1000000) hbg0 (by decide)
  have hheld:qdF x=qdF w:=by
   have:=qLQ hmid hs0
   rw [if_neg (by omega)] at this
   rw [← hheld0]
   unfold qdF at this ⊢
   rw [hend.versions,this];omega
  have hans:=hend.answer
  repeat((conv=>whnf);first|apply qza|apply qzb|apply qzc|apply qzd|apply qze|intro(_:Nat))
  refine .inr ((qwL _ hw2 hM2 hsn hb').mono fun v g3 hg3 hA=>?_)
  obtain⟨csx,msx,rfl,hwx,hMx⟩:=hA
  rw [hW0] at hwx
  rw [hN0] at hMx
  obtain⟨xa,ya,xb,yb,xc,yc,xd,yd,xe,ye,rfl⟩:=qRA hwx
  obtain⟨p1,s1,p2,s2,p3,s3,rfl⟩:=qeE hMx
  have hM3:=qgA _ _ _ _ hg3 hM2
  have hway0:=hway
  repeat((conv=>whnf);first|apply qza|apply qzb|apply qzc|apply qzd|apply qze|intro(_:Nat))
  conv=>whnf
  refine⟨HaSt,fun x=>[.v (.int .i64 x.j)],fun y=>⟨y.g,.blk 5 _ _ _ :: .blk 4 _ _ _ :: .blk 3 _ qHA (y.wc.map SV.v) :: .blk 2 _ qVK (y.mc.map SV.v) :: _,_,_⟩,fun y=>y.j≤k∧g3≤y.g∧rWo y.g y.wc y.w∧qRB y.g y.mc y.m∧HWay (k-y.j) y.w y.m x m'∧SnW y.w∧BgW 1000000 y.w∧SmO y.m,fun y=>k-y.j,qMA (⟨0,g3,x0,xa,ya,xb,yb,xc,yc,xd,yd,xe,ye,mReq o th,o1,t1,o2,t2,o3,t3⟩:HaSt) rfl ⟨Nat.zero_le _,GW.refl _,hwx,hM3,hway,hsn0,hbx0,hsz⟩ rfl,?_⟩
  intro y hy
  obtain⟨j,gx,wy,ua,va,ub,vb,uc,vc,ud,vd,ue,ve,my,i1,l1,i2,l2,i3,l3⟩:=y
  obtain⟨hj,hxg,hxw,hxM,hwy,hsny,hby,hszy⟩:=hy
  replace hj:j≤k:=hj
  replace hwy:HWay (k-j) wy my x m':=hwy
  replace hby:BgW 1000000 wy:=hby
  replace hsny:SnW wy:=hsny
  replace hszy:SmO my:=hszy
  repeat((conv=>whnf);first|apply qza|apply qzb|apply qzc|apply qzd|apply qze|intro(_:Nat))
  conv=>whnf
  refine⟨fun _=>?_,fun hx=>absurd (of_decide_eq_false hx) (by show ¬ ¬ ((j:Int)<40);omega)⟩
  by_cases hjk:j=k
  rotate_left
  ·obtain⟨d,hdk⟩:∃ d,k-j=d+1:=⟨k-j-1,by omega⟩
   rw [hdk] at hwy
   have hnd:=HWay.go' hwy
   obtain⟨hac,hwy⟩:=hwy
   have hkp:=hsW_kept (K:=1000000) (w:=wy) (m:=my)
   repeat((conv=>whnf);first|apply qza|apply qzb|apply qzc|apply qzd|apply qze|intro(_:Nat))
   conv=>whnf
   refine⟨fun _=>?_,fun hx=>absurd hx (by simp [hnd])⟩
   repeat((conv=>whnf);first|apply qza|apply qzb|apply qzc|apply qzd|apply qze|intro(_:Nat))
   refine .inr ((qMS _ hxw hxM hsny hby hszy).mono fun v g4 hg4 hO=>?_)
   obtain⟨csa,msa,rfl,hwa,hMa⟩:=hO
   obtain⟨r1,r2,r3,r4,r5,r6,r7,r8,r9,r10,rfl⟩:=qRA hwa
   obtain⟨s1,s2,s3,s4,s5,s6,rfl⟩:=qeE hMa
   repeat((conv=>whnf);first|apply qza|apply qzb|apply qzc|apply qzd|apply qze|intro(_:Nat))
   conv=>whnf
   refine fun fr u hu=>⟨⟨j+1,g4,hsW wy my,r1,r2,r3,r4,r5,r6,r7,r8,r9,r10,hsM wy my,s1,s2,s3,s4,s5,s6⟩,congrArg (fun z=>[Value.int .i64 z]) (show((j+1:Nat):Int)=IntKind.i64.wrap ((j:Int)+1) by rw [wr (x:=(j:Int)+1) (by unfold InR;omega)];omega),⟨by show j+1≤k;omega,GW.trans hxg hg4,hwa,hMa,by show HWay (k-(j+1)) _ _ _ _;rw [show k-(j+1)=d by omega];exact hwy,qGP hsny hkp,hkp.1 hby,by show SmO (hsM wy my);unfold SmO;rw [qsU];exact hszy⟩,by show k-(j+1)<k-j;omega,?_⟩
   exact hu.fit (by simp [fitL,Res.eqv,qAA,conc])
  subst hjk
  rw [Nat.sub_self] at hwy
  obtain⟨rfl,rfl⟩:=hwy
  repeat((conv=>whnf);first|apply qza|apply qzb|apply qzc|apply qzd|apply qze|intro(_:Nat))
  conv=>whnf
  refine⟨fun hx=>absurd hx (by simp [hd]),fun _=>?_⟩
  have hsnx:=HWay.sn hway0 hsn0
  have hbx:=hway0.kept (BgW.up (K':=1000) hbg0 (by decide))
  have hwz:=qGA _ _ _ _ (GW.trans hg3 hxg) hw2
  repeat((conv=>whnf);first|apply qza|apply qzb|apply qzc|apply qzd|apply qze|intro(_:Nat))
  rcases hkk with ⟨q1,q2⟩|⟨q1,q2⟩
  ·conv=>whnf
   refine⟨fun _=>?_,fun hx=>absurd q1 (beqF hx)⟩
   repeat((conv=>whnf);first|apply qza|apply qzb|apply qzc|apply qzd|apply qze|intro(_:Nat))
   conv=>whnf
   refine .inl ⟨_,q5C _,?_⟩
   repeat((conv=>whnf);first|apply qza|apply qzb|apply qzc|apply qzd|apply qze|intro(_:Nat))
   conv=>whnf
   refine⟨fun _=>?_,fun h=>nomatch h⟩
   repeat((conv=>whnf);first|apply qza|apply qzb|apply qzc|apply qzd|apply qze|intro(_:Nat))
   conv=>whnf
   refine⟨fun _=>?_,fun hx=>absurd (by rw [hans];exact q2) (beqF hx)⟩
   repeat((conv=>whnf);first|apply qza|apply qzb|apply qzc|apply qzd|apply qze|intro(_:Nat))
   refine .inr ((qxL _ hxw hbx).mono fun v g5 hg5 hA=>?_)
   subst hA
   repeat((conv=>whnf);first|apply qza|apply qzb|apply qzc|apply qzd|apply qze|intro(_:Nat))
   refine .inr ((qxL _ (qGA _ _ _ _ hg5 hwz) (BgW.up (K':=1000) hb (by decide))).mono fun v g6 hg6 hA=>?_)
   subst hA
   repeat((conv=>whnf);first|apply qza|apply qzb|apply qzc|apply qzd|apply qze|intro(_:Nat))
   conv=>whnf
   intro g2 hg
   simp [hheld]
  ·conv=>whnf
   refine⟨fun hx=>absurd (q1.symm.trans (beqT hx)) (by decide),fun _=>?_⟩
   repeat((conv=>whnf);first|apply qza|apply qzb|apply qzc|apply qzd|apply qze|intro(_:Nat))
   conv=>whnf
   refine .inl ⟨_,q5C _,?_⟩
   repeat((conv=>whnf);first|apply qza|apply qzb|apply qzc|apply qzd|apply qze|intro(_:Nat))
   conv=>whnf
   refine⟨fun _=>?_,fun h=>nomatch h⟩
   repeat((conv=>whnf);first|apply qza|apply qzb|apply qzc|apply qzd|apply qze|intro(_:Nat))
   conv=>whnf
   refine⟨fun _=>?_,fun hx=>absurd q1 (beqF hx)⟩
   repeat((conv=>whnf);first|apply qza|apply qzb|apply qzc|apply qzd|apply qze|intro(_:Nat))
   conv=>whnf
   refine⟨fun _=>?_,fun hx=>absurd (by rw [hans];exact q2) (beqF hx)⟩
   repeat((conv=>whnf);first|apply qza|apply qzb|apply qzc|apply qzd|apply qze|intro(_:Nat))
   refine .inr ((qxL _ hxw hbx).mono fun v g5 hg5 hA=>?_)
   subst hA
   repeat((conv=>whnf);first|apply qza|apply qzb|apply qzc|apply qzd|apply qze|intro(_:Nat))
   refine .inr ((qxL _ (qGA _ _ _ _ hg5 hwz) (BgW.up (K':=1000) hb (by decide))).mono fun v g6 hg6 hA=>?_)
   subst hA
   repeat((conv=>whnf);first|apply qza|apply qzb|apply qzc|apply qzd|apply qze|intro(_:Nat))
   conv=>whnf
   refine⟨fun _=>?_,fun hx=>absurd hheld (beqF hx)⟩
   repeat((conv=>whnf);first|apply qza|apply qzb|apply qzc|apply qzd|apply qze|intro(_:Nat))
   conv=>whnf
   refine .inl ⟨_,(q0S _ (qGA _ _ _ _ (GW.trans hg5 hg6) hxw) hsnx).to (congrArg Value.bool hend.right),?_⟩
   repeat((conv=>whnf);first|apply qza|apply qzb|apply qzc|apply qzd|apply qze|intro(_:Nat))
   conv=>whnf
   intro g2 hg
   rfl)
end Go.Proofs.YtompjkkgaafllaaGreat
