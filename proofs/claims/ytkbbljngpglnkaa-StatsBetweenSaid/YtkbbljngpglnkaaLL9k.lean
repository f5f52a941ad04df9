/- The law StatsBetween. -/
import Derived.Test.YtkbbljngpglnkaaLW9s7
import Derived.Test.YtkbbljngpglnkaaPl
import Derived.Test.YtkbbljngpglnkaaF
set_option linter.unusedVariables false
set_option linter.unusedSimpArgs false
namespace Go.Proofs.Ytkbbljngpglnkaa
open Go.Proofs.Ytkbbljngpglnkaa.Sx Go.RowKit
set_option maxHeartbeats 16000000
set_option maxRecDepth 100000
theorem qoN {g:GW} {v:Value} {l:List (List Int)} (h:rSl 1 rRow g v l):∀ i k,0≤qQA l i k:=fun i k=>by
 obtain⟨_,_,rfl,_,_,_,hr⟩:=h
 unfold qQA
 cases hi:l[i]? with
 | none=>exact Int.le_refl _
 | some row =>
  obtain⟨_,_,_,_,⟨_,_,⟨_,_,rfl,_,_,_,hr2⟩⟩,_⟩:=hr i row hi
  show 0≤(row[k]?).getD 0
  cases hk:row[k]? with
  | none=>exact Int.le_refl _
  | some x =>
   obtain⟨_,_,_,_,⟨_,hu⟩,_⟩:=hr2 k x hk
   exact hu.1
theorem qQO {l:List (List Int)} {i k:Nat} (h:l[i]?=none):qQA l i k=0:=by unfold qQA;rw [h];rfl
theorem qKP {l:List (List Int)} {i k:Nat} {row:List Int} (h:l[i]?=some row):qQA l i k=(row[k]?).getD 0:=by unfold qQA;rw [h];rfl
structure SbSt where
 n:Nat
 g:GW
 C:List (List Int)
 od:Option Addr
 cd:Nat
 c:C6
 o1:Option Addr
 t1:Nat
 o2:Option Addr
 t2:Nat
 o3:Option Addr
 t3:Nat
abbrev SbSt.ms (x:SbSt) (L:Nat) (t:Int):List Value:=(mB x.c L (mT t) x.n).cs (.slice x.o1 (mB x.c L (mT t) x.n).op.config.listens.length x.t1) (.slice x.o2 (mB x.c L (mT t) x.n).op.config.routes.length x.t2) (.slice x.o3 (mB x.c L (mT t) x.n).op.config.clusters.length x.t3)
theorem q6G (g:GW) {cs:List Value} {w:Wd} {t:Int} {v:Value} {adds:List (List Int)} (hw:rWo g cs w) (ht:InR t) (ha:rSl 1 qiP g v adds):OkV Try.prog qqC [.agg ⟨cs⟩,.int .i64 t,v] g (.bool true):=by
 obtain⟨oa,ca,ob,cb,oc,cc,od,cd,oe,ce,rfl⟩:=qNB hw
 obtain⟨oq,cq,rfl,q1,q2,q0,hqr⟩:=id ha
 exact Ok.of_fn hm noT 0 qkC (args:=[.v (.agg ⟨wQ w oa ca ob cb oc cc od cd oe ce⟩),.v (.int .i64 t),.v (.slice oq adds.length cq)]) (by
  repeat((conv=>whnf);first|apply qza|apply qzb|apply qzc|apply qzd|apply qze|intro(_:Nat))
  rename_i q0 q1
  refine .inr ((qzN _ hw).mono fun v g1 hg1 hB=>?_)
  obtain⟨b,rfl,hB⟩:=hB
  repeat((conv=>whnf);first|apply qza|apply qzb|apply qzc|apply qzd|apply qze|intro(_:Nat))
  conv=>whnf
  refine⟨fun z1=>?_,fun z1=>?_⟩
  ·repeat((conv=>whnf);first|apply qza|apply qzb|apply qzc|apply qzd|apply qze|intro(_:Nat))
   conv=>whnf
   refine .inl ⟨_,q3G _,?_⟩
   repeat((conv=>whnf);first|apply qza|apply qzb|apply qzc|apply qzd|apply qze|intro(_:Nat))
   conv=>whnf
   intro g2 hg
   rfl
  obtain⟨hb,hsn⟩:=hB z1
  have hb':=BgW.up (K':=1000000) hb (by decide)
  have hw1:=qmA _ _ _ _ hg1 hw
  have hM1:=qwO g1 ht
  repeat((conv=>whnf);first|apply qza|apply qzb|apply qzc|apply qzd|apply qze|intro(_:Nat))
  conv=>whnf
  refine⟨fun z2=>?_,fun z2=>?_⟩
  ·repeat((conv=>whnf);first|apply qza|apply qzb|apply qzc|apply qzd|apply qze|intro(_:Nat))
   conv=>whnf
   refine .inl ⟨_,q3G _,?_⟩
   repeat((conv=>whnf);first|apply qza|apply qzb|apply qzc|apply qzd|apply qze|intro(_:Nat))
   conv=>whnf
   intro g2 hg
   rfl
  have hal:adds.length≤100:=by have h9:=of_decide_eq_false z2;omega
  repeat((conv=>whnf);first|apply qza|apply qzb|apply qzc|apply qzd|apply qze|intro(_:Nat))
  conv=>whnf
  refine .inl ⟨_,qXL _ hw1 hM1 hsn hb',?_⟩
  repeat((conv=>whnf);first|apply qza|apply qzb|apply qzc|apply qzd|apply qze|intro(_:Nat))
  conv=>whnf
  refine⟨fun z3=>?_,fun z3=>?_⟩
  ·repeat((conv=>whnf);first|apply qza|apply qzb|apply qzc|apply qzd|apply qze|intro(_:Nat))
   conv=>whnf
   refine .inl ⟨_,q3G _,?_⟩
   repeat((conv=>whnf);first|apply qza|apply qzb|apply qzc|apply qzd|apply qze|intro(_:Nat))
   conv=>whnf
   intro g2 hg
   rfl
  have hs:=nb0 z3
  obtain⟨_,_,_,hS⟩:=suitB_iff.1 hs
  obtain⟨hcp,hsh,hc1,hc8⟩:=qhF hS.right
  have h6:∀ r∈w.counts,r.length=6:=by
   unfold qnA at hsh
   simp only [Bool.and_eq_true,List.all_eq_true,decide_eq_true_eq] at hsh
   exact hsh.1.1
  have hC:=rWo_c hw1
  obtain⟨_,_,hcq,c1,c2,c0,hCr⟩:=id hC
  cases hcq
  repeat((conv=>whnf);first|apply qza|apply qzb|apply qzc|apply qzd|apply qze|intro(_:Nat))
  conv=>whnf
  refine⟨Nat,fun i=>[.v (.int .i64 i)],fun _=>⟨_,_,_,_⟩,fun i=>i≤w.counts.length∧∀ i' k',i'<i→qQA w.counts i' k'≤1000000,fun i=>w.counts.length-i,qJA 0 rfl ⟨Nat.zero_le _,fun _ _ h=>absurd h (by omega)⟩ rfl,?_⟩
  rintro i ⟨hi,hbd⟩
  replace hi:i≤w.counts.length:=hi
  repeat((conv=>whnf);first|apply qza|apply qzb|apply qzc|apply qzd|apply qze|intro(_:Nat))
  conv=>whnf
  refine⟨fun y1=>?_,fun y1=>?_⟩
  ·have hlt:i<w.counts.length:=by have:=of_decide_eq_true y1;omega
   obtain⟨row,hrow⟩:=qDA hlt
   have hr6:=h6 row (List.mem_of_getElem? hrow)
   obtain⟨ad,rfl,ec,hec,⟨rv,rfl,hrv⟩,hcr⟩:=hCr i row hrow
   obtain⟨ao,ac,rfl,r1,r2,r0,hr1⟩:=id hrv
   repeat((conv=>whnf);first|apply qza|apply qzb|apply qzc|apply qzd|apply qze|intro(_:Nat))
   conv=>whnf
   refine⟨Nat,fun k=>[.v (.int .i64 k)],fun _=>⟨_,_,_,_⟩,fun k=>k≤6∧∀ k' x,k'<k→row[k']?=some x→x≤1000000,fun k=>6-k,qJA 0 rfl ⟨Nat.zero_le _,fun _ _ h=>absurd h (by omega)⟩ rfl,?_⟩
   rintro k ⟨hk,hbk⟩
   replace hk:k≤6:=hk
   repeat((conv=>whnf);first|apply qza|apply qzb|apply qzc|apply qzd|apply qze|intro(_:Nat))
   conv=>whnf
   refine⟨_,rfl,⟨by omega,by omega⟩,?_⟩
   repeat((conv=>whnf);first|apply qza|apply qzb|apply qzc|apply qzd|apply qze|intro(_:Nat))
   conv=>whnf
   refine⟨_,hcr 0 _ rfl,?_⟩
   repeat((conv=>whnf);first|apply qza|apply qzb|apply qzc|apply qzd|apply qze|intro(_:Nat))
   conv=>whnf
   refine⟨fun y2=>?_,fun y2=>?_⟩
   ·have hlk:k<6:=by have:=of_decide_eq_true y2;omega
    obtain⟨x,hx⟩:=qDA (l:=row) (i:=k) (by omega)
    obtain⟨ar,rfl,er,her,⟨rfl,hxu⟩,hcx⟩:=hr1 k x hx
    repeat'((conv=>whnf);first|apply qza|apply qzb|apply qzc|apply qzd|apply qze|intro(_:Nat)|refine⟨_,rfl,⟨by omega,by omega⟩,?_⟩|refine⟨_,hcr 0 _ rfl,?_⟩|refine⟨_,hcx 0 _ rfl,?_⟩|fail)
    refine And.intro (fun y3=>?_) (fun y3=>?_)
    ·repeat((conv=>whnf);first|apply qza|apply qzb|apply qzc|apply qzd|apply qze|intro(_:Nat))
     conv=>whnf
     refine .inl ⟨_,q3G _,?_⟩
     repeat((conv=>whnf);first|apply qza|apply qzb|apply qzc|apply qzd|apply qze|intro(_:Nat))
     conv=>whnf
     intro g2 hg
     rfl
    have y3:=of_decide_eq_false y3
    repeat((conv=>whnf);first|apply qza|apply qzb|apply qzc|apply qzd|apply qze|intro(_:Nat))
    conv=>whnf
    refine fun fr u hu=>⟨k+1,congrArg (fun z=>[Value.int .i64 z]) (show((k+1:Nat):Int)=IntKind.i64.wrap ((k:Int)+1) by rw [wr (x:=(k:Int)+1) (by unfold InR;omega)];omega),⟨hlk,fun k' x' hk' hx'=>by
     rcases(show k'<k∨k'=k by omega) with h|rfl
     ·exact hbk k' x' h hx'
     ·rw [hx] at hx';cases hx';omega⟩,by show 6-(k+1)<6-k;omega,?_⟩
    exact hu.fit (by simp [fitL,Res.eqv,qAA,conc])
   have hk6:k=6:=by have:=of_decide_eq_false y2;omega
   subst hk6
   repeat((conv=>whnf);first|apply qza|apply qzb|apply qzc|apply qzd|apply qze|intro(_:Nat))
   conv=>whnf
   refine fun fr u hu=>⟨i+1,congrArg (fun z=>[Value.int .i64 z]) (show((i+1:Nat):Int)=IntKind.i64.wrap ((i:Int)+1) by rw [wr (x:=(i:Int)+1) (by unfold InR;omega)];omega),⟨hlt,fun i' k' hi'=>by
    rcases(show i'<i∨i'=i by omega) with h|rfl
    ·exact hbd i' k' h
    ·rw [qKP hrow]
     cases hx:row[k']? with
     | none=>exact(by decide:(0:Int)≤1000000)
     | some x=>exact hbk k' x (by have:=(List.getElem?_eq_some_iff.1 hx).1;omega) hx⟩,by show w.counts.length-(i+1)<w.counts.length-i;omega,?_⟩
   exact hu.fit (by simp [fitL,Res.eqv,qAA,conc])
  have hie:i=w.counts.length:=by have:=of_decide_eq_false y1;omega
  subst hie
  have htop:∀ i k,qQA w.counts i k≤1000000:=fun i k=>by
   cases hx:w.counts[i]? with
   | none=>rw [qQO hx];decide
   | some row=>exact hbd i k (List.getElem?_eq_some_iff.1 hx).1
  clear hbd
  repeat((conv=>whnf);first|apply qza|apply qzb|apply qzc|apply qzd|apply qze|intro(_:Nat))
  conv=>whnf
  refine .inl ⟨_,qaO _ hC hsh,?_⟩
  have hA0:mB c60 w.counts.length (mT t) 0=mT t:=by rw [qvJ (by omega)];rfl
  have hI0:SbInv w.counts w.counts c60 0 0:=⟨rfl,hsh,qoN hC,fun _ _=>Int.le_refl _,fun i k=>by have:=htop i k;omega,fun k hk=>by
   have:c60.get k=0:=by rcases(show k=0∨k=1∨k=2∨k=3∨k=4∨k=5 by omega) with rfl|rfl|rfl|rfl|rfl|rfl<;>rfl
   rw [this,show idxR 0 k=0 by unfold idxR;rw [if_neg (by omega)]];exact⟨Int.le_refl _,Int.le_refl _⟩⟩
  have hms:(⟨0,g1,w.counts,od,cd,c60,none,0,none,0,none,0⟩:SbSt).ms w.counts.length t=(mT t).cs (.slice none 0 0) (.slice none 0 0) (.slice none 0 0):=by
   show(mB c60 w.counts.length (mT t) 0).cs (.slice none (mB c60 w.counts.length (mT t) 0).op.config.listens.length 0) (.slice none (mB c60 w.counts.length (mT t) 0).op.config.routes.length 0) (.slice none (mB c60 w.counts.length (mT t) 0).op.config.clusters.length 0)=_
   rw [hA0];rfl
  repeat((conv=>whnf);first|apply qza|apply qzb|apply qzc|apply qzd|apply qze|intro(_:Nat))
  rename_i q2
  conv=>whnf
  refine⟨SbSt,fun x=>[.v (.int .i64 x.n)],fun x=>⟨x.g,[.blk 2 q2 qGA ((qXA w.counts (6*w.counts.length)).cs.map SV.v),.blk 1 q1 q9C ((x.ms w.counts.length t).map SV.v) ,.blk 0 q0 qEA ([.int .i64 w.epoch,.int .i64 w.current,.int .i64 w.lock,.slice oa w.pins.length ca,.slice ob w.versions.length cb,.slice oc w.listens.length cc,.slice x.od w.counts.length x.cd,.slice oe w.limbo.length ce].map SV.v)],40,_⟩,fun x=>x.n≤6*w.counts.length∧g1≤x.g∧rSl 1 rRow x.g (.slice x.od w.counts.length x.cd) x.C∧q2E x.g (x.ms w.counts.length t) (mB x.c w.counts.length (mT t) x.n)∧SbInv w.counts x.C x.c x.n x.n∧qiB {w with counts:=x.C} (mT t)=true,fun x=>6*w.counts.length-x.n,fun fr u hu=>⟨(⟨0,g1,w.counts,od,cd,c60,none,0,none,0,none,0⟩:SbSt),rfl,⟨Nat.zero_le _,GW.refl _,hC,by show q2E g1 (Mach.cs _ _ _ (mB c60 w.counts.length (mT t) 0)) (mB c60 w.counts.length (mT t) 0);rw [hA0];exact hM1,hI0,hs⟩,hu.fit (by rw [hms];simp [fitL,Res.eqv,qAA,conc,mT,mP,op0,ans0,c60])⟩,?_⟩
  intro x hx
  obtain⟨n,gx,C,od',cd',c,o1,t1,o2,t2,o3,t3⟩:=x
  obtain⟨hn,hxg,hxC,hxM,hI,hsC⟩:=hx
  replace hn:n≤6*w.counts.length:=hn
  replace hI:SbInv w.counts C c n n:=hI
  replace hsC:qiB {w with counts:=C} (mT t)=true:=hsC
  have hCl:C.length=w.counts.length:=hI.len
  repeat((conv=>whnf);first|apply qza|apply qzb|apply qzc|apply qzd|apply qze|intro(_:Nat))
  conv=>whnf
  refine⟨fun _=>?_,fun hx=>absurd (((decide_eq_true (show(n:Int)<60 by omega))).symm.trans hx) (by decide)⟩
  by_cases hnl:n<6*w.counts.length
  ·have hnd:(mB c w.counts.length (mT t) n).done=false:=qFP rfl hnl
   repeat((conv=>whnf);first|apply qza|apply qzb|apply qzc|apply qzd|apply qze|intro(_:Nat))
   conv=>whnf
   refine⟨fun _=>?_,fun hx=>absurd hx (by simp [hnd])⟩
   repeat((conv=>whnf);first|apply qza|apply qzb|apply qzc|apply qzd|apply qze|intro(_:Nat))
   refine And.intro (fun y1=>?_) (fun y1=>?_)
   case' refine_1 =>
    have y1:(n:Int)<adds.length:=of_decide_eq_true y1
    obtain⟨ad,had⟩:=qDA (l:=adds) (i:=n) (by omega)
    obtain⟨aq,rfl,eq,heq,⟨vq,rfl,hvq⟩,hcq⟩:=hqr n ad had
    obtain⟨oy,cy,rfl,y2,y3,y0,hyr⟩:=id hvq
    have hcq':=hcq.mono (GW.trans hg1 hxg)
    repeat'((conv=>whnf);first|apply qza|apply qzb|apply qzc|apply qzd|apply qze|intro(_:Nat)|refine⟨_,rfl,⟨by show(0:Int)≤(n:Int);omega,by show(n:Int)<_;omega⟩,?_⟩|refine⟨_,hcq' 0 _ rfl,?_⟩|fail)
    refine And.intro (fun y4=>?_) (fun y4=>?_)
    case' refine_1 =>
     have y4:(ad.length:Int)=2:=beqT y4
     obtain⟨u0,hu0⟩:=qDA (l:=ad) (i:=0) (by omega)
     obtain⟨u1,hu1⟩:=qDA (l:=ad) (i:=1) (by omega)
     obtain⟨ay,rfl,e0,he0,⟨rfl,hu0r⟩,hc0⟩:=hyr 0 u0 hu0
     obtain⟨_,hay,e1,he1,⟨rfl,hu1r⟩,hc1'⟩:=hyr 1 u1 hu1
     cases hay
     have hd0:=hc0.mono (GW.trans hg1 hxg)
     have hd1:=hc1'.mono (GW.trans hg1 hxg)
     repeat'((conv=>whnf);first|apply qza|apply qzb|apply qzc|apply qzd|apply qze|intro(_:Nat)|refine⟨_,rfl,⟨by show(0:Int)≤(n:Int);omega,by show(n:Int)<_;omega⟩,?_⟩|refine⟨_,hcq' 0 _ rfl,?_⟩|refine⟨_,rfl,⟨by decide,by omega⟩,?_⟩|refine⟨_,hd0 0 _ rfl,?_⟩|refine⟨_,hd1 0 _ rfl,?_⟩|fail)
     refine .inr ((qtP _ hxC hI.rows).mono fun v g3 hg3 hA=>?_)
     rcases hA with ⟨_,u,rfl⟩|⟨hgd,oN,nN,cN,rw9,xx,hn9,hr9,hx9,rfl,hC3⟩
     ·repeat((conv=>whnf);first|apply qza|apply qzb|apply qzc|apply qzd|apply qze|intro(_:Nat))
      conv=>whnf
      refine⟨fun h=>(nomatch h),fun _=>?_⟩
      have hlen9:(C).length=w.counts.length:=(hI.up (Nat.le_succ n)).len
      have hg19:=GW.trans hxg hg3
      obtain⟨_,_,_,_,_,hq9,hin9,hP9,hV9,hL9,_,hR9⟩:=id (qmA _ _ _ _ hg19 hw1)
      simp only [List.cons.injEq,and_true] at hq9
      obtain⟨_,_,_,rfl,rfl,rfl,_,rfl⟩:=hq9
      have hwC:rWo _ [.int .i64 w.epoch,.int .i64 w.current,.int .i64 w.lock,.slice oa w.pins.length ca,.slice ob w.versions.length cb,.slice oc w.listens.length cc,.slice od' w.counts.length cd',.slice oe w.limbo.length ce] {w with counts:=C}:=⟨_,_,_,_,_,rfl,hin9,hP9,hV9,hL9,hxC.mono qWA hg3,hR9⟩
      have hrow9:∀ r∈(C),r.length=6:=by
       have:=(hI.up (Nat.le_succ n)).rows
       unfold qnA at this
       simp only [Bool.and_eq_true,List.all_eq_true,decide_eq_true_eq] at this
       exact this.1.1
      have hbC:BgW 1000000 {w with counts:=C}:=⟨⟨hb'.1.1,hb'.1.2.1,hb'.1.2.2.1,by show(C).length≤1000000;omega,hb'.1.2.2.2.2⟩,fun r hr=>by rw [hrow9 r hr];decide,hb'.2.2⟩
      have hM9:=qPB _ _ _ _ hg3 hxM
      have hnx:=qqI (c:=c) hsC rfl hlen9 hnl
      have hrd:=(hI.up (Nat.le_succ n)).read (by rw [hlen9];exact hnl) (by omega) (by omega)
      repeat((conv=>whnf);first|apply qza|apply qzb|apply qzc|apply qzd|apply qze|intro(_:Nat))
      refine .inr ((qYF _ hwC hM9 hsn hbC).mono fun v gc hgc hO=>?_)
      obtain⟨cs9,ms9,rfl,hwc,hMc⟩:=hO
      rw [hnx] at hMc
      obtain⟨_,_,_,_,_,_,_,_,_,_,rfl⟩:=qNB hwc
      obtain⟨p1,s1,p2,s2,p3,s3,rfl⟩:=qiC hMc
      repeat((conv=>whnf);first|apply qza|apply qzb|apply qzc|apply qzd|apply qze|intro(_:Nat))
      conv=>whnf
      refine fun fr u hu=>⟨(⟨n+1,gc,C,od',cd',addC (C) c n,p1,s1,p2,s2,p3,s3⟩:SbSt),congrArg (fun z=>[Value.int .i64 z]) (show((n+1:Nat):Int)=IntKind.i64.wrap ((n:Int)+1) by rw [wr (x:=(n:Int)+1) (by unfold InR;omega)];omega),⟨hnl,GW.trans hg19 hgc,(hxC.mono qWA hg3).mono qWA hgc,hMc,hrd,hsC⟩,by show 6*w.counts.length-(n+1)<6*w.counts.length-n;omega,hu.fit (by simp [fitL,Res.eqv,qAA,conc])⟩
     ·rw [hCl] at hn9
      subst hn9
      repeat((conv=>whnf);first|apply qza|apply qzb|apply qzc|apply qzd|apply qze|intro(_:Nat))
      conv=>whnf
      refine⟨fun _=>?_,fun h=>nomatch h⟩
      have hI3:=hI.add hr9 hx9 (by omega)
      have hs3:qiB {w with counts:=C.set u0.toNat (rw9.set u1.toNat (wU (xx+1)))} (mT t)=true:=by
       obtain⟨v9,gr9,en9,hS9⟩:=suitB_iff.1 hsC
       have hl9:rw9.length=6:=by
        have:=hI.rows
        unfold qnA at this
        simp only [Bool.and_eq_true,List.all_eq_true,decide_eq_true_eq] at this
        exact this.1.1 _ (List.mem_of_getElem? hr9)
       exact(hS9.setCounts (c:=C.set u0.toNat (rw9.set u1.toNat (wU (xx+1)))) (qwH hS9.right hr9 (by rw [List.length_set];exact hl9))).suit
      have hlen9:(C.set u0.toNat (rw9.set u1.toNat (wU (xx+1)))).length=w.counts.length:=(hI3).len
      have hg19:=GW.trans hxg hg3
      obtain⟨_,_,_,_,_,hq9,hin9,hP9,hV9,hL9,_,hR9⟩:=id (qmA _ _ _ _ hg19 hw1)
      simp only [List.cons.injEq,and_true] at hq9
      obtain⟨_,_,_,rfl,rfl,rfl,_,rfl⟩:=hq9
      have hwC:rWo _ [.int .i64 w.epoch,.int .i64 w.current,.int .i64 w.lock,.slice oa w.pins.length ca,.slice ob w.versions.length cb,.slice oc w.listens.length cc,.slice oN w.counts.length cN,.slice oe w.limbo.length ce] {w with counts:=C.set u0.toNat (rw9.set u1.toNat (wU (xx+1)))}:=⟨_,_,_,_,_,rfl,hin9,hP9,hV9,hL9,hC3,hR9⟩
      have hrow9:∀ r∈(C.set u0.toNat (rw9.set u1.toNat (wU (xx+1)))),r.length=6:=by
       have:=(hI3).rows
       unfold qnA at this
       simp only [Bool.and_eq_true,List.all_eq_true,decide_eq_true_eq] at this
       exact this.1.1
      have hbC:BgW 1000000 {w with counts:=C.set u0.toNat (rw9.set u1.toNat (wU (xx+1)))}:=⟨⟨hb'.1.1,hb'.1.2.1,hb'.1.2.2.1,by show(C.set u0.toNat (rw9.set u1.toNat (wU (xx+1)))).length≤1000000;omega,hb'.1.2.2.2.2⟩,fun r hr=>by rw [hrow9 r hr];decide,hb'.2.2⟩
      have hM9:=qPB _ _ _ _ hg3 hxM
      have hnx:=qqI (c:=c) hs3 rfl hlen9 hnl
      have hrd:=(hI3).read (by rw [hlen9];exact hnl) (by omega) (by omega)
      repeat((conv=>whnf);first|apply qza|apply qzb|apply qzc|apply qzd|apply qze|intro(_:Nat))
      refine .inr ((qYF _ hwC hM9 hsn hbC).mono fun v gc hgc hO=>?_)
      obtain⟨cs9,ms9,rfl,hwc,hMc⟩:=hO
      rw [hnx] at hMc
      obtain⟨_,_,_,_,_,_,_,_,_,_,rfl⟩:=qNB hwc
      obtain⟨p1,s1,p2,s2,p3,s3,rfl⟩:=qiC hMc
      repeat((conv=>whnf);first|apply qza|apply qzb|apply qzc|apply qzd|apply qze|intro(_:Nat))
      conv=>whnf
      refine fun fr u hu=>⟨(⟨n+1,gc,C.set u0.toNat (rw9.set u1.toNat (wU (xx+1))),oN,cN,addC (C.set u0.toNat (rw9.set u1.toNat (wU (xx+1)))) c n,p1,s1,p2,s2,p3,s3⟩:SbSt),congrArg (fun z=>[Value.int .i64 z]) (show((n+1:Nat):Int)=IntKind.i64.wrap ((n:Int)+1) by rw [wr (x:=(n:Int)+1) (by unfold InR;omega)];omega),⟨hnl,GW.trans hg19 hgc,(hC3).mono qWA hgc,hMc,hrd,hs3⟩,by show 6*w.counts.length-(n+1)<6*w.counts.length-n;omega,hu.fit (by simp [fitL,Res.eqv,qAA,conc])⟩
    case' refine_2=>skip
    all_goals (
     have hlen9:(C).length=w.counts.length:=((hI.up (Nat.le_succ n))).len
     have hg19:=GW.trans hxg (GW.refl _)
     obtain⟨_,_,_,_,_,hq9,hin9,hP9,hV9,hL9,_,hR9⟩:=id (qmA _ _ _ _ hg19 hw1)
     simp only [List.cons.injEq,and_true] at hq9
     obtain⟨_,_,_,rfl,rfl,rfl,_,rfl⟩:=hq9
     have hwC:rWo _ [.int .i64 w.epoch,.int .i64 w.current,.int .i64 w.lock,.slice oa w.pins.length ca,.slice ob w.versions.length cb,.slice oc w.listens.length cc,.slice od' w.counts.length cd',.slice oe w.limbo.length ce] {w with counts:=C}:=⟨_,_,_,_,_,rfl,hin9,hP9,hV9,hL9,hxC,hR9⟩
     have hrow9:∀ r∈(C),r.length=6:=by
      have:=((hI.up (Nat.le_succ n))).rows
      unfold qnA at this
      simp only [Bool.and_eq_true,List.all_eq_true,decide_eq_true_eq] at this
      exact this.1.1
     have hbC:BgW 1000000 {w with counts:=C}:=⟨⟨hb'.1.1,hb'.1.2.1,hb'.1.2.2.1,by show(C).length≤1000000;omega,hb'.1.2.2.2.2⟩,fun r hr=>by rw [hrow9 r hr];decide,hb'.2.2⟩
     have hM9:=qPB _ _ _ _ (GW.refl _) hxM
     have hnx:=qqI (c:=c) hsC rfl hlen9 hnl
     have hrd:=((hI.up (Nat.le_succ n))).read (by rw [hlen9];exact hnl) (by omega) (by omega)
     repeat((conv=>whnf);first|apply qza|apply qzb|apply qzc|apply qzd|apply qze|intro(_:Nat))
     refine .inr ((qYF _ hwC hM9 hsn hbC).mono fun v gc hgc hO=>?_)
     obtain⟨cs9,ms9,rfl,hwc,hMc⟩:=hO
     rw [hnx] at hMc
     obtain⟨_,_,_,_,_,_,_,_,_,_,rfl⟩:=qNB hwc
     obtain⟨p1,s1,p2,s2,p3,s3,rfl⟩:=qiC hMc
     repeat((conv=>whnf);first|apply qza|apply qzb|apply qzc|apply qzd|apply qze|intro(_:Nat))
     conv=>whnf
     refine fun fr u hu=>⟨(⟨n+1,gc,C,od',cd',addC (C) c n,p1,s1,p2,s2,p3,s3⟩:SbSt),congrArg (fun z=>[Value.int .i64 z]) (show((n+1:Nat):Int)=IntKind.i64.wrap ((n:Int)+1) by rw [wr (x:=(n:Int)+1) (by unfold InR;omega)];omega),⟨hnl,GW.trans hg19 hgc,(hxC).mono qWA hgc,hMc,hrd,hsC⟩,by show 6*w.counts.length-(n+1)<6*w.counts.length-n;omega,hu.fit (by simp [fitL,Res.eqv,qAA,conc])⟩)
   all_goals (
    have hlen9:(C).length=w.counts.length:=((hI.up (Nat.le_succ n))).len
    have hg19:=GW.trans hxg (GW.refl _)
    obtain⟨_,_,_,_,_,hq9,hin9,hP9,hV9,hL9,_,hR9⟩:=id (qmA _ _ _ _ hg19 hw1)
    simp only [List.cons.injEq,and_true] at hq9
    obtain⟨_,_,_,rfl,rfl,rfl,_,rfl⟩:=hq9
    have hwC:rWo _ [.int .i64 w.epoch,.int .i64 w.current,.int .i64 w.lock,.slice oa w.pins.length ca,.slice ob w.versions.length cb,.slice oc w.listens.length cc,.slice od' w.counts.length cd',.slice oe w.limbo.length ce] {w with counts:=C}:=⟨_,_,_,_,_,rfl,hin9,hP9,hV9,hL9,hxC,hR9⟩
    have hrow9:∀ r∈(C),r.length=6:=by
     have:=((hI.up (Nat.le_succ n))).rows
     unfold qnA at this
     simp only [Bool.and_eq_true,List.all_eq_true,decide_eq_true_eq] at this
     exact this.1.1
    have hbC:BgW 1000000 {w with counts:=C}:=⟨⟨hb'.1.1,hb'.1.2.1,hb'.1.2.2.1,by show(C).length≤1000000;omega,hb'.1.2.2.2.2⟩,fun r hr=>by rw [hrow9 r hr];decide,hb'.2.2⟩
    have hM9:=qPB _ _ _ _ (GW.refl _) hxM
    have hnx:=qqI (c:=c) hsC rfl hlen9 hnl
    have hrd:=((hI.up (Nat.le_succ n))).read (by rw [hlen9];exact hnl) (by omega) (by omega)
    repeat((conv=>whnf);first|apply qza|apply qzb|apply qzc|apply qzd|apply qze|intro(_:Nat))
    refine .inr ((qYF _ hwC hM9 hsn hbC).mono fun v gc hgc hO=>?_)
    obtain⟨cs9,ms9,rfl,hwc,hMc⟩:=hO
    rw [hnx] at hMc
    obtain⟨_,_,_,_,_,_,_,_,_,_,rfl⟩:=qNB hwc
    obtain⟨p1,s1,p2,s2,p3,s3,rfl⟩:=qiC hMc
    repeat((conv=>whnf);first|apply qza|apply qzb|apply qzc|apply qzd|apply qze|intro(_:Nat))
    conv=>whnf
    refine fun fr u hu=>⟨(⟨n+1,gc,C,od',cd',addC (C) c n,p1,s1,p2,s2,p3,s3⟩:SbSt),congrArg (fun z=>[Value.int .i64 z]) (show((n+1:Nat):Int)=IntKind.i64.wrap ((n:Int)+1) by rw [wr (x:=(n:Int)+1) (by unfold InR;omega)];omega),⟨hnl,GW.trans hg19 hgc,(hxC).mono qWA hgc,hMc,hrd,hsC⟩,by show 6*w.counts.length-(n+1)<6*w.counts.length-n;omega,hu.fit (by simp [fitL,Res.eqv,qAA,conc])⟩)
  have hne:n=6*w.counts.length:=by omega
  subst hne
  have hend:=qcO c w.counts.length (mT t)
  repeat((conv=>whnf);first|apply qza|apply qzb|apply qzc|apply qzd|apply qze|intro(_:Nat))
  conv=>whnf
  refine⟨fun hx=>absurd hx (by simp [hend]),fun _=>?_⟩
  repeat((conv=>whnf);first|apply qza|apply qzb|apply qzc|apply qzd|apply qze|intro(_:Nat))
  conv=>whnf
  refine .inl ⟨_,qaO _ hxC hI.rows,?_⟩
  repeat((conv=>whnf);first|apply qza|apply qzb|apply qzc|apply qzd|apply qze|intro(_:Nat))
  conv=>whnf
  refine⟨fun h=>(nomatch h),fun _=>?_⟩
  repeat((conv=>whnf);first|apply qza|apply qzb|apply qzc|apply qzd|apply qze|intro(_:Nat))
  conv=>whnf
  refine⟨fun h=>(nomatch h),fun _=>?_⟩
  repeat((conv=>whnf);first|apply qza|apply qzb|apply qzc|apply qzd|apply qze|intro(_:Nat))
  conv=>whnf
  refine⟨fun hx=>absurd hx (by simp [hend]),fun _=>?_⟩
  have hfin:=fun k (hk:k<6)=>hI.last hc8 (by omega) hk
  repeat((conv=>whnf);first|apply qza|apply qzb|apply qzc|apply qzd|apply qze|intro(_:Nat))
  conv=>whnf
  refine⟨Nat,fun k=>[.v (.int .i64 k)],fun _=>⟨_,_,_,_⟩,fun k=>k≤6,fun k=>6-k,qJA 0 rfl (Nat.zero_le _) rfl,?_⟩
  intro k hk
  replace hk:k≤6:=hk
  repeat((conv=>whnf);first|apply qza|apply qzb|apply qzc|apply qzd|apply qze|intro(_:Nat))
  conv=>whnf
  refine⟨fun y2=>?_,fun y2=>?_⟩
  ·have hk6:k<6:=by have:=of_decide_eq_true y2;omega
   have hf:=hfin k hk6
   have he9:(mB c w.counts.length (mT t) (6*w.counts.length)).answer.counts=c:=by rw [hend];rfl
   rcases kn6 hk6 with rfl|rfl|rfl|rfl|rfl|rfl
   ·have h1:(qXA w.counts (6*w.counts.length)).c0≤c.c0:=hf.1
    have h2:c.c0≤(qXA C (6*C.length)).c0:=hf.2
    repeat((conv=>whnf);first|apply qza|apply qzb|apply qzc|apply qzd|apply qze|intro(_:Nat))
    conv=>whnf
    refine⟨0,⟨rfl,by decide⟩,?_⟩
    repeat((conv=>whnf);first|apply qza|apply qzb|apply qzc|apply qzd|apply qze|intro(_:Nat))
    conv=>whnf
    refine⟨0,⟨rfl,by decide⟩,?_⟩
    repeat((conv=>whnf);first|apply qza|apply qzb|apply qzc|apply qzd|apply qze|intro(_:Nat))
    conv=>whnf
    refine⟨fun hx=>absurd (of_decide_eq_true hx) (by show ¬ ((mB c w.counts.length (mT t) (6*w.counts.length)).answer.counts.c0<(qXA w.counts (6*w.counts.length)).c0);rw [he9];omega),fun _=>?_⟩
    repeat((conv=>whnf);first|apply qza|apply qzb|apply qzc|apply qzd|apply qze|intro(_:Nat))
    conv=>whnf
    refine⟨0,⟨rfl,by decide⟩,?_⟩
    repeat((conv=>whnf);first|apply qza|apply qzb|apply qzc|apply qzd|apply qze|intro(_:Nat))
    conv=>whnf
    refine⟨0,⟨rfl,by decide⟩,?_⟩
    repeat((conv=>whnf);first|apply qza|apply qzb|apply qzc|apply qzd|apply qze|intro(_:Nat))
    conv=>whnf
    refine⟨fun hx=>absurd (of_decide_eq_true hx) (by show ¬ ((qXA C (6*C.length)).c0<(mB c w.counts.length (mT t) (6*w.counts.length)).answer.counts.c0);rw [he9];omega),fun _=>?_⟩
    repeat((conv=>whnf);first|apply qza|apply qzb|apply qzc|apply qzd|apply qze|intro(_:Nat))
    conv=>whnf
    refine fun fr w' hu=>⟨0+1,rfl,by decide,by decide,?_⟩
    exact hu.fit (by simp [fitL,Res.eqv,qAA,conc])
   ·have h1:(qXA w.counts (6*w.counts.length)).c1≤c.c1:=hf.1
    have h2:c.c1≤(qXA C (6*C.length)).c1:=hf.2
    repeat((conv=>whnf);first|apply qza|apply qzb|apply qzc|apply qzd|apply qze|intro(_:Nat))
    conv=>whnf
    refine⟨1,⟨rfl,by decide⟩,?_⟩
    repeat((conv=>whnf);first|apply qza|apply qzb|apply qzc|apply qzd|apply qze|intro(_:Nat))
    conv=>whnf
    refine⟨1,⟨rfl,by decide⟩,?_⟩
    repeat((conv=>whnf);first|apply qza|apply qzb|apply qzc|apply qzd|apply qze|intro(_:Nat))
    conv=>whnf
    refine⟨fun hx=>absurd (of_decide_eq_true hx) (by show ¬ ((mB c w.counts.length (mT t) (6*w.counts.length)).answer.counts.c1<(qXA w.counts (6*w.counts.length)).c1);rw [he9];omega),fun _=>?_⟩
    repeat((conv=>whnf);first|apply qza|apply qzb|apply qzc|apply qzd|apply qze|intro(_:Nat))
    conv=>whnf
    refine⟨1,⟨rfl,by decide⟩,?_⟩
    repeat((conv=>whnf);first|apply qza|apply qzb|apply qzc|apply qzd|apply qze|intro(_:Nat))
    conv=>whnf
    refine⟨1,⟨rfl,by decide⟩,?_⟩
    repeat((conv=>whnf);first|apply qza|apply qzb|apply qzc|apply qzd|apply qze|intro(_:Nat))
    conv=>whnf
    refine⟨fun hx=>absurd (of_decide_eq_true hx) (by show ¬ ((qXA C (6*C.length)).c1<(mB c w.counts.length (mT t) (6*w.counts.length)).answer.counts.c1);rw [he9];omega),fun _=>?_⟩
    repeat((conv=>whnf);first|apply qza|apply qzb|apply qzc|apply qzd|apply qze|intro(_:Nat))
    conv=>whnf
    refine fun fr w' hu=>⟨1+1,rfl,by decide,by decide,?_⟩
    exact hu.fit (by simp [fitL,Res.eqv,qAA,conc])
   ·have h1:(qXA w.counts (6*w.counts.length)).c2≤c.c2:=hf.1
    have h2:c.c2≤(qXA C (6*C.length)).c2:=hf.2
    repeat((conv=>whnf);first|apply qza|apply qzb|apply qzc|apply qzd|apply qze|intro(_:Nat))
    conv=>whnf
    refine⟨2,⟨rfl,by decide⟩,?_⟩
    repeat((conv=>whnf);first|apply qza|apply qzb|apply qzc|apply qzd|apply qze|intro(_:Nat))
    conv=>whnf
    refine⟨2,⟨rfl,by decide⟩,?_⟩
    repeat((conv=>whnf);first|apply qza|apply qzb|apply qzc|apply qzd|apply qze|intro(_:Nat))
    conv=>whnf
    refine⟨fun hx=>absurd (of_decide_eq_true hx) (by show ¬ ((mB c w.counts.length (mT t) (6*w.counts.length)).answer.counts.c2<(qXA w.counts (6*w.counts.length)).c2);rw [he9];omega),fun _=>?_⟩
    repeat((conv=>whnf);first|apply qza|apply qzb|apply qzc|apply qzd|apply qze|intro(_:Nat))
    conv=>whnf
    refine⟨2,⟨rfl,by decide⟩,?_⟩
    repeat((conv=>whnf);first|apply qza|apply qzb|apply qzc|apply qzd|apply qze|intro(_:Nat))
    conv=>whnf
    refine⟨2,⟨rfl,by decide⟩,?_⟩
    repeat((conv=>whnf);first|apply qza|apply qzb|apply qzc|apply qzd|apply qze|intro(_:Nat))
    conv=>whnf
    refine⟨fun hx=>absurd (of_decide_eq_true hx) (by show ¬ ((qXA C (6*C.length)).c2<(mB c w.counts.length (mT t) (6*w.counts.length)).answer.counts.c2);rw [he9];omega),fun _=>?_⟩
    repeat((conv=>whnf);first|apply qza|apply qzb|apply qzc|apply qzd|apply qze|intro(_:Nat))
    conv=>whnf
    refine fun fr w' hu=>⟨2+1,rfl,by decide,by decide,?_⟩
    exact hu.fit (by simp [fitL,Res.eqv,qAA,conc])
   ·have h1:(qXA w.counts (6*w.counts.length)).c3≤c.c3:=hf.1
    have h2:c.c3≤(qXA C (6*C.length)).c3:=hf.2
    repeat((conv=>whnf);first|apply qza|apply qzb|apply qzc|apply qzd|apply qze|intro(_:Nat))
    conv=>whnf
    refine⟨3,⟨rfl,by decide⟩,?_⟩
    repeat((conv=>whnf);first|apply qza|apply qzb|apply qzc|apply qzd|apply qze|intro(_:Nat))
    conv=>whnf
    refine⟨3,⟨rfl,by decide⟩,?_⟩
    repeat((conv=>whnf);first|apply qza|apply qzb|apply qzc|apply qzd|apply qze|intro(_:Nat))
    conv=>whnf
    refine⟨fun hx=>absurd (of_decide_eq_true hx) (by show ¬ ((mB c w.counts.length (mT t) (6*w.counts.length)).answer.counts.c3<(qXA w.counts (6*w.counts.length)).c3);rw [he9];omega),fun _=>?_⟩
    repeat((conv=>whnf);first|apply qza|apply qzb|apply qzc|apply qzd|apply qze|intro(_:Nat))
    conv=>whnf
    refine⟨3,⟨rfl,by decide⟩,?_⟩
    repeat((conv=>whnf);first|apply qza|apply qzb|apply qzc|apply qzd|apply qze|intro(_:Nat))
    conv=>whnf
    refine⟨3,⟨rfl,by decide⟩,?_⟩
    repeat((conv=>whnf);first|apply qza|apply qzb|apply qzc|apply qzd|apply qze|intro(_:Nat))
    conv=>whnf
    refine⟨fun hx=>absurd (of_decide_eq_true hx) (by show ¬ ((qXA C (6*C.length)).c3<(mB c w.counts.length (mT t) (6*w.counts.length)).answer.counts.c3);rw [he9];omega),fun _=>?_⟩
    repeat((conv=>whnf);first|apply qza|apply qzb|apply qzc|apply qzd|apply qze|intro(_:Nat))
    conv=>whnf
    refine fun fr w' hu=>⟨3+1,rfl,by decide,by decide,?_⟩
    exact hu.fit (by simp [fitL,Res.eqv,qAA,conc])
   ·have h1:(qXA w.counts (6*w.counts.length)).c4≤c.c4:=hf.1
    have h2:c.c4≤(qXA C (6*C.length)).c4:=hf.2
    repeat((conv=>whnf);first|apply qza|apply qzb|apply qzc|apply qzd|apply qze|intro(_:Nat))
    conv=>whnf
    refine⟨4,⟨rfl,by decide⟩,?_⟩
    repeat((conv=>whnf);first|apply qza|apply qzb|apply qzc|apply qzd|apply qze|intro(_:Nat))
    conv=>whnf
    refine⟨4,⟨rfl,by decide⟩,?_⟩
    repeat((conv=>whnf);first|apply qza|apply qzb|apply qzc|apply qzd|apply qze|intro(_:Nat))
    conv=>whnf
    refine⟨fun hx=>absurd (of_decide_eq_true hx) (by show ¬ ((mB c w.counts.length (mT t) (6*w.counts.length)).answer.counts.c4<(qXA w.counts (6*w.counts.length)).c4);rw [he9];omega),fun _=>?_⟩
    repeat((conv=>whnf);first|apply qza|apply qzb|apply qzc|apply qzd|apply qze|intro(_:Nat))
    conv=>whnf
    refine⟨4,⟨rfl,by decide⟩,?_⟩
    repeat((conv=>whnf);first|apply qza|apply qzb|apply qzc|apply qzd|apply qze|intro(_:Nat))
    conv=>whnf
    refine⟨4,⟨rfl,by decide⟩,?_⟩
    repeat((conv=>whnf);first|apply qza|apply qzb|apply qzc|apply qzd|apply qze|intro(_:Nat))
    conv=>whnf
    refine⟨fun hx=>absurd (of_decide_eq_true hx) (by show ¬ ((qXA C (6*C.length)).c4<(mB c w.counts.length (mT t) (6*w.counts.length)).answer.counts.c4);rw [he9];omega),fun _=>?_⟩
    repeat((conv=>whnf);first|apply qza|apply qzb|apply qzc|apply qzd|apply qze|intro(_:Nat))
    conv=>whnf
    refine fun fr w' hu=>⟨4+1,rfl,by decide,by decide,?_⟩
    exact hu.fit (by simp [fitL,Res.eqv,qAA,conc])
   ·have h1:(qXA w.counts (6*w.counts.length)).c5≤c.c5:=hf.1
    have h2:c.c5≤(qXA C (6*C.length)).c5:=hf.2
    repeat((conv=>whnf);first|apply qza|apply qzb|apply qzc|apply qzd|apply qze|intro(_:Nat))
    conv=>whnf
    refine⟨5,⟨rfl,by decide⟩,?_⟩
    repeat((conv=>whnf);first|apply qza|apply qzb|apply qzc|apply qzd|apply qze|intro(_:Nat))
    conv=>whnf
    refine⟨5,⟨rfl,by decide⟩,?_⟩
    repeat((conv=>whnf);first|apply qza|apply qzb|apply qzc|apply qzd|apply qze|intro(_:Nat))
    conv=>whnf
    refine⟨fun hx=>absurd (of_decide_eq_true hx) (by show ¬ ((mB c w.counts.length (mT t) (6*w.counts.length)).answer.counts.c5<(qXA w.counts (6*w.counts.length)).c5);rw [he9];omega),fun _=>?_⟩
    repeat((conv=>whnf);first|apply qza|apply qzb|apply qzc|apply qzd|apply qze|intro(_:Nat))
    conv=>whnf
    refine⟨5,⟨rfl,by decide⟩,?_⟩
    repeat((conv=>whnf);first|apply qza|apply qzb|apply qzc|apply qzd|apply qze|intro(_:Nat))
    conv=>whnf
    refine⟨5,⟨rfl,by decide⟩,?_⟩
    repeat((conv=>whnf);first|apply qza|apply qzb|apply qzc|apply qzd|apply qze|intro(_:Nat))
    conv=>whnf
    refine⟨fun hx=>absurd (of_decide_eq_true hx) (by show ¬ ((qXA C (6*C.length)).c5<(mB c w.counts.length (mT t) (6*w.counts.length)).answer.counts.c5);rw [he9];omega),fun _=>?_⟩
    repeat((conv=>whnf);first|apply qza|apply qzb|apply qzc|apply qzd|apply qze|intro(_:Nat))
    conv=>whnf
    refine fun fr w' hu=>⟨5+1,rfl,by decide,by decide,?_⟩
    exact hu.fit (by simp [fitL,Res.eqv,qAA,conc])
  ·repeat((conv=>whnf);first|apply qza|apply qzb|apply qzc|apply qzd|apply qze|intro(_:Nat))
   conv=>whnf
   refine .inl ⟨_,q3G _,?_⟩
   repeat((conv=>whnf);first|apply qza|apply qzb|apply qzc|apply qzd|apply qze|intro(_:Nat))
   conv=>whnf
   intro g2 hg
   rfl)
/- What came in of this seat's types is plain data. -/
open Go.Proofs.Ytkbbljngpglnkaa.Sx
section
variable {H:Type} {enc:TypeId×Value→H} {W:World}
theorem qnK:Rds enc Try.prog W qgG qAM:=quO (tS:=qHF) (tI:=q9A) (by kernel_rfl) (by kernel_rfl) (by kernel_rfl) (by kernel_rfl)
theorem qkH:Rds enc Try.prog W qKC qeD:=q7L (tS:=qHF) (tI:=q9A) (tL:=qoL) (tB:=qyF) (by kernel_rfl) (by kernel_rfl) (by kernel_rfl) (by kernel_rfl) (by kernel_rfl) (by kernel_rfl) (by kernel_rfl)
end
/- What came in of a snapshot is plain data. -/
open Go.Proofs.Ytkbbljngpglnkaa.Sx
section
variable {H:Type} {enc:TypeId×Value→H} {W:World}
theorem qmK:Rds enc Try.prog W qbA qhH:=by
 intro fuel cs x h
 obtain⟨a,b,d,rfl,⟨l0,h0⟩,⟨l1,h1⟩,l2,h2⟩:=qqN (t0:=q9I) (t1:=qbH) (t2:=qxF) (e0:=qHF) (e1:=qgG) (e2:=qKC) (z0:=1) (z1:=4) (z2:=4)
  (by kernel_rfl) (by kernel_rfl) (by kernel_rfl) (by kernel_rfl) (by kernel_rfl) (by kernel_rfl) (by kernel_rfl) (by kernel_rfl) (by omega) (by omega) (by omega) (qQJ (by kernel_rfl)) qnK qkH h
 exact⟨⟨l0,l1,l2⟩,a,b,d,rfl,h0,h1,h2⟩
end
/- What came in of worlds and machines is plain data. -/
open Go.Proofs.Ytkbbljngpglnkaa.Sx
section
variable {H:Type} {enc:TypeId×Value→H} {W:World}
theorem qcI:Rds enc Try.prog W qOA qjB:=by
 intro fuel cs x h
 obtain⟨hl,hg⟩:=q6J (l:=[(0,1,qHF),(1,1,qyF),(2,1,q9A),(3,1,qyF)]) (by kernel_rfl) h
 rw [show Try.prog.cellsOf qOA=4 by kernel_rfl] at hl
 match cs,hl with
 | [a,b,c,d],_ =>
  obtain⟨s0,e0⟩:=(qQJ (by kernel_rfl)).fld (hg 0 _ _ _ rfl)
  obtain⟨s1,e1⟩:=(qtG (by kernel_rfl)).fld (hg 1 _ _ _ rfl)
  obtain⟨s2,e2,w2⟩:=(q2C (by kernel_rfl)).fld (hg 2 _ _ _ rfl)
  obtain⟨s3,e3⟩:=(qtG (by kernel_rfl)).fld (hg 3 _ _ _ rfl)
  cases e0;cases e1;cases e2;cases e3
  exact⟨⟨s0,s1,s2,s3⟩,rfl,w2⟩
theorem qjH:Rds enc Try.prog W qZB qOB:=by
 intro fuel cs x h
 obtain⟨hl,hg⟩:=q6J (l:=[(0,1,q9A),(1,1,q9A),(2,1,qyF)]) (by kernel_rfl) h
 rw [show Try.prog.cellsOf qZB=3 by kernel_rfl] at hl
 match cs,hl with
 | [a,b,c],_ =>
  obtain⟨s0,e0,w0⟩:=(q2C (by kernel_rfl)).fld (hg 0 _ _ _ rfl)
  obtain⟨s1,e1,w1⟩:=(q2C (by kernel_rfl)).fld (hg 1 _ _ _ rfl)
  obtain⟨s2,e2⟩:=(qtG (by kernel_rfl)).fld (hg 2 _ _ _ rfl)
  cases e0;cases e1;cases e2
  exact⟨⟨s0,s1,s2⟩,rfl,w0,w1⟩
theorem qEM:RdsW enc Try.prog W qeA rEn:=by
 intro fuel cs x h hs
 obtain⟨hl,hg⟩:=qvI (l:=[(0,1,qHD),(1,1,qMC),(2,1,q9A)]) (by kernel_rfl) h hs
 rw [show Try.prog.cellsOf qeA=3 by kernel_rfl] at hl
 match cs,hl with
 | [a,b,c],_ =>
  obtain⟨s0,e0,w0⟩:=(quM (by kernel_rfl)).fld (tr1 (hg 0 _ _ _ rfl))
  obtain⟨s1,v,e1,h1,hb⟩:=(qRL (t:=qMC) (e:=q9A) (sz:=1) (by kernel_rfl) (by kernel_rfl) (q2C (by kernel_rfl)).w).fld (hg 1 _ _ _ rfl)
  obtain⟨s2,e2,w2⟩:=(q2C (by kernel_rfl)).fld (tr1 (hg 2 _ _ _ rfl))
  cases e0;cases e1;cases e2
  refine⟨⟨s0,s1,s2⟩,⟨_,rfl,w0,w2,h1⟩,?_⟩
  rw [show Try.prog.bytesOf q9A=8 by kernel_rfl] at hb
  unfold reachBytes at hb
  show s1.length≤17592186044416
  omega
theorem qZJ:RdsW enc Try.prog W qTA rGr:=by
 intro fuel cs x h hs
 obtain⟨hl,hg⟩:=qvI (l:=[(0,1,qHD),(1,1,qIF)]) (by kernel_rfl) h hs
 rw [show Try.prog.cellsOf qTA=2 by kernel_rfl] at hl
 match cs,hl with
 | [a,b],_ =>
  obtain⟨s0,e0,w0⟩:=(quM (by kernel_rfl)).fld (tr1 (hg 0 _ _ _ rfl))
  obtain⟨s1,v,e1,h1⟩:=(qpO (t:=qIF) (e:=qeA) (sz:=3) (by kernel_rfl) (by kernel_rfl) qEM).fld (hg 1 _ _ _ rfl)
  cases e0;cases e1
  exact⟨⟨s0,s1⟩,_,rfl,w0,h1⟩
theorem qiH:RdsW enc Try.prog W qCA rVe:=by
 intro fuel cs x h hs
 obtain⟨hl,hg⟩:=qvI (l:=[(0,3,qbA),(3,1,q1D),(4,1,qyF)]) (by kernel_rfl) h hs
 rw [show Try.prog.cellsOf qCA=5 by kernel_rfl] at hl
 match cs,hl with
 | [a,b,c,d,e],_ =>
  obtain⟨s0,e0⟩:=(qmK (enc:=enc)).fld (tr1 (hg 0 _ _ _ rfl))
  obtain⟨s1,v,e1,h1⟩:=(qpO (t:=q1D) (e:=qTA) (sz:=2) (by kernel_rfl) (by kernel_rfl) qZJ).fld (hg 1 _ _ _ rfl)
  obtain⟨s2,e2⟩:=(qtG (by kernel_rfl)).fld (tr1 (hg 2 _ _ _ rfl))
  cases e1;cases e2
  exact⟨⟨s0,s1,s2⟩,_,_,_,_,rfl,e0,h1⟩
theorem qmP:Rds enc Try.prog W qEB rRow:=by
 intro fuel cs x h
 obtain⟨l,v,rfl,h1⟩:=(q2B (t:=qEB) (e:=qHD) (sz:=1) (by kernel_rfl) (by kernel_rfl) (by omega) (quM (by kernel_rfl))) fuel cs x h
 exact⟨l,_,rfl,h1⟩
theorem qYJ:RdsW enc Try.prog W qEA rWo:=by
 intro fuel cs x h hs
 obtain⟨hl,hg⟩:=qvI (l:=[(0,1,q9A),(1,1,q9A),(2,1,q9A),(3,1,qMC),(4,1,qID),(5,1,qrD),(6,1,qlE),(7,1,qJD)]) (by kernel_rfl) h hs
 rw [show Try.prog.cellsOf qEA=8 by kernel_rfl] at hl
 match cs,hl with
 | [c0,c1,c2,c3,c4,c5,c6,c7],_ =>
  obtain⟨s0,e0,w0⟩:=(q2C (by kernel_rfl)).fld (tr1 (hg 0 _ _ _ rfl))
  obtain⟨s1,e1,w1⟩:=(q2C (by kernel_rfl)).fld (tr1 (hg 1 _ _ _ rfl))
  obtain⟨s2,e2,w2⟩:=(q2C (by kernel_rfl)).fld (tr1 (hg 2 _ _ _ rfl))
  obtain⟨s3,v3,e3,h3⟩:=(q2B (t:=qMC) (e:=q9A) (sz:=1) (by kernel_rfl) (by kernel_rfl) (by omega) (q2C (by kernel_rfl))).fld (tr1 (hg 3 _ _ _ rfl))
  obtain⟨s4,v4,e4,h4⟩:=(qpO (t:=qID) (e:=qCA) (sz:=5) (by kernel_rfl) (by kernel_rfl) qiH).fld (hg 4 _ _ _ rfl)
  obtain⟨s5,v5,e5,h5⟩:=(q2B (t:=qrD) (e:=qOA) (sz:=4) (by kernel_rfl) (by kernel_rfl) (by omega) qcI).fld (tr1 (hg 5 _ _ _ rfl))
  obtain⟨s6,v6,e6,h6⟩:=(q2B (t:=qlE) (e:=qEB) (sz:=1) (by kernel_rfl) (by kernel_rfl) (by omega) qmP).fld (tr1 (hg 6 _ _ _ rfl))
  obtain⟨s7,v7,e7,h7⟩:=(q2B (t:=qJD) (e:=qZB) (sz:=3) (by kernel_rfl) (by kernel_rfl) (by omega) qjH).fld (tr1 (hg 7 _ _ _ rfl))
  cases e0;cases e1;cases e2;cases e3;cases e4;cases e5;cases e6;cases e7
  exact⟨⟨s0,s1,s2,s3,s4,s5,s6,s7⟩,_,_,_,_,_,rfl,⟨w0,w1,w2⟩,h3,h4,h5,h6,h7⟩
end
/- How rows of numbers that were handed are opened. -/
open Go.Proofs.Ytkbbljngpglnkaa.Sx
section
variable {H:Type} {enc:TypeId×Value→H} {W:World}
theorem qFM:Rds enc Try.prog W qSK (rSlc 1 qiP):=by
 refine q2B (e:=qMC) (by kernel_rfl) (by kernel_rfl) (by omega) ?_
 intro fuel cs x h
 obtain⟨l,v,rfl,h1⟩:=(q2B (t:=qMC) (e:=q9A) (sz:=1) (by kernel_rfl) (by kernel_rfl) (by omega) (q2C (by kernel_rfl))) fuel cs x h
 exact⟨l,_,rfl,h1⟩
end
end Go.Proofs.Ytkbbljngpglnkaa
