/- Worlds: are all numbers far from their ends? -/
import Derived.Test.YtkbbljngpglnkaaGreatLW24a
import Derived.Test.YtkbbljngpglnkaaGreatPl
import Derived.Test.YtkbbljngpglnkaaGreatLW9v
import Derived.Test.YtkbbljngpglnkaaGreatF
set_option linter.unusedVariables false
set_option linter.unusedSimpArgs false
namespace Go.Proofs.YtkbbljngpglnkaaGreat
open Go.Proofs.YtkbbljngpglnkaaGreat.Sx Go.RowKit
set_option maxHeartbeats 16000000
set_option maxRecDepth 100000
theorem qjI {α:Type} {l:List α} {k:Nat} {x:α} (hx:l[k]?=some x) {P:α→Prop} (h:∀ v∈l.take k,P v) (h':P x):∀ v∈l.take (k+1),P v:=fun v hv=>by
 obtain⟨x1,x2⟩:=List.getElem?_eq_some_iff.1 hx
 rw [List.take_succ_eq_append_getElem x1,x2] at hv
 rcases List.mem_append.1 hv with hv|hv
 ·exact h v hv
 ·simp at hv;subst hv;exact h'
structure CalmP (w:Wd):Prop where
 ep:w.epoch≤1000000
 la:∀ x∈w.listens,x.active≤1000000
 ea:∀ v∈w.versions,∀ g∈v.groups,∀ e∈g.ends,e.active≤1000000
theorem qHL (g:GW) {cs:List Value} {w:Wd} (hw:rWo g cs w):Ok Tryz.prog qtG [.agg ⟨cs⟩] g fun v _=>∃ b,v=.bool b∧(b=true→CalmP w):=by
 have hV:=hw
 obtain⟨oa,ca,ob,cb,oc,cc,od,cd,oe,ce,rfl⟩:=qPA hw
 replace hV:=qfN hw
 have hL:=q4J hw
 obtain⟨_,_,hqL,c1,c2,_,_⟩:=id hL
 cases hqL
 obtain⟨_,_,hqV,b1,b2,_,_⟩:=id hV
 cases hqV
 exact Ok.of_fn hm noT 0 qfG (args:=[.v (.agg ⟨wQ w oa ca ob cb oc cc od cd oe ce⟩)]) (by
  repeat((conv=>whnf);first|apply qza|apply qzb|apply qzc|apply qzd|apply qze|intro(_:Nat))
  conv=>whnf
  refine⟨fun z1=>?_,fun z1=>?_⟩
  ·repeat((conv=>whnf);first|apply qza|apply qzb|apply qzc|apply qzd|apply qze|intro(_:Nat))
   conv=>whnf
   intro g2 hg
   exact⟨_,rfl,fun h=>by cases h⟩
  have z1:=of_decide_eq_false z1
  repeat((conv=>whnf);first|apply qza|apply qzb|apply qzc|apply qzd|apply qze|intro(_:Nat))
  conv=>whnf
  refine⟨Nat,fun k=>[.v (.int .i64 k)],fun _=>⟨g,_,_,_⟩,fun k=>k≤w.listens.length∧∀ x∈w.listens.take k,x.active≤1000000,fun k=>w.listens.length-k,qFA 0 rfl ⟨Nat.zero_le _,by simp⟩ rfl,?_⟩
  rintro k ⟨hk,hp⟩
  repeat((conv=>whnf);first|apply qza|apply qzb|apply qzc|apply qzd|apply qze|intro(_:Nat))
  conv=>whnf
  refine⟨fun hlt=>?_,fun hlt=>?_⟩
  ·have h':k<w.listens.length:=by have:=of_decide_eq_true hlt;omega
   obtain⟨x,hx⟩:=qBA h'
   obtain⟨al,rfl⟩:=qUA hL hx
   obtain⟨_,hcl⟩:=qZJ hL hx
   repeat((conv=>whnf);first|apply qza|apply qzb|apply qzc|apply qzd|apply qze|intro(_:Nat))
   conv=>whnf
   refine⟨_,rfl,⟨by omega,by omega⟩,?_⟩
   repeat((conv=>whnf);first|apply qza|apply qzb|apply qzc|apply qzd|apply qze|intro(_:Nat))
   conv=>whnf
   refine⟨_,hcl 2 _ rfl,?_⟩
   repeat((conv=>whnf);first|apply qza|apply qzb|apply qzc|apply qzd|apply qze|intro(_:Nat))
   conv=>whnf
   refine⟨fun y1=>?_,fun y1=>?_⟩
   ·repeat((conv=>whnf);first|apply qza|apply qzb|apply qzc|apply qzd|apply qze|intro(_:Nat))
    conv=>whnf
    intro g2 hg
    exact⟨_,rfl,fun h=>by cases h⟩
   have y1:=of_decide_eq_false y1
   repeat((conv=>whnf);first|apply qza|apply qzb|apply qzc|apply qzd|apply qze|intro(_:Nat))
   conv=>whnf
   refine fun fr w' hw=>⟨k+1,congrArg (fun z=>[Value.int .i64 z]) (wr1 h' c1 c2).symm,⟨h',qjI hx hp (by omega)⟩,dec h',?_⟩
   exact hw.fit (by simp [fitL,Res.eqv,qAA,conc])
  have hlL:=of_decide_eq_false hlt
  rw [List.take_of_length_le (by omega)] at hp
  clear hlt
  repeat((conv=>whnf);first|apply qza|apply qzb|apply qzc|apply qzd|apply qze|intro(_:Nat))
  conv=>whnf
  refine⟨Nat,fun k=>[.v (.int .i64 k)],fun _=>⟨g,_,_,_⟩,fun k=>k≤w.versions.length∧∀ v∈w.versions.take k,∀ g∈v.groups,∀ e∈g.ends,e.active≤1000000,fun k=>w.versions.length-k,qFA 0 rfl ⟨Nat.zero_le _,by simp⟩ rfl,?_⟩
  rintro i ⟨hi,hpi⟩
  repeat((conv=>whnf);first|apply qza|apply qzb|apply qzc|apply qzd|apply qze|intro(_:Nat))
  conv=>whnf
  refine⟨fun hlt=>?_,fun hlt=>?_⟩
  rotate_left
  ·have hiL:=of_decide_eq_false hlt
   rw [List.take_of_length_le (by omega)] at hpi
   repeat((conv=>whnf);first|apply qza|apply qzb|apply qzc|apply qzd|apply qze|intro(_:Nat))
   conv=>whnf
   intro g2 hg
   exact⟨_,rfl,fun _=>⟨by omega,hp,hpi⟩⟩
  have hi':i<w.versions.length:=by have:=of_decide_eq_true hlt;omega
  obtain⟨v,hv⟩:=qBA hi'
  obtain⟨av,rfl⟩:=qUA hV hv
  obtain⟨oL,cL,oR,cR,oC,cC,oG,cG,hcv,_,_,hcG⟩:=qzL hV hv
  obtain⟨_,_,hqG,n1,n2,_,_⟩:=id hcG
  cases hqG
  clear hlt
  repeat((conv=>whnf);first|apply qza|apply qzb|apply qzc|apply qzd|apply qze|intro(_:Nat))
  conv=>whnf
  refine⟨Nat,fun k=>[.v (.int .i64 k)],fun _=>⟨g,_,_,_⟩,fun k=>k≤v.groups.length∧∀ g∈v.groups.take k,∀ e∈g.ends,e.active≤1000000,fun k=>v.groups.length-k,qFA 0 rfl ⟨Nat.zero_le _,by simp⟩ rfl,?_⟩
  rintro j ⟨hj,hpj⟩
  repeat((conv=>whnf);first|apply qza|apply qzb|apply qzc|apply qzd|apply qze|intro(_:Nat))
  conv=>whnf
  refine⟨_,rfl,⟨by omega,by omega⟩,?_⟩
  repeat((conv=>whnf);first|apply qza|apply qzb|apply qzc|apply qzd|apply qze|intro(_:Nat))
  conv=>whnf
  refine⟨_,hcv 3 _ rfl,?_⟩
  repeat((conv=>whnf);first|apply qza|apply qzb|apply qzc|apply qzd|apply qze|intro(_:Nat))
  conv=>whnf
  refine⟨fun hlt=>?_,fun hlt=>?_⟩
  rotate_left
  ·have hjL:=of_decide_eq_false hlt
   rw [List.take_of_length_le (by omega)] at hpj
   repeat((conv=>whnf);first|apply qza|apply qzb|apply qzc|apply qzd|apply qze|intro(_:Nat))
   conv=>whnf
   refine fun fr w' hw=>⟨i+1,congrArg (fun z=>[Value.int .i64 z]) (wr1 hi' b1 b2).symm,⟨hi',qjI hv hpi hpj⟩,dec hi',?_⟩
   exact hw.fit (by simp [fitL,Res.eqv,qAA,conc])
  have hj':j<v.groups.length:=by have:=of_decide_eq_true hlt;omega
  obtain⟨gr,hgr⟩:=qBA hj'
  obtain⟨ag,rfl⟩:=qUA hcG hgr
  obtain⟨oE,cE,hcg,_,hcE⟩:=qvT hcG hgr
  obtain⟨_,_,hqE,m1,m2,_,_⟩:=id hcE
  cases hqE
  clear hlt
  repeat((conv=>whnf);first|apply qza|apply qzb|apply qzc|apply qzd|apply qze|intro(_:Nat))
  conv=>whnf
  refine⟨Nat,fun k=>[.v (.int .i64 k)],fun _=>⟨g,_,_,_⟩,fun k=>k≤gr.ends.length∧∀ e∈gr.ends.take k,e.active≤1000000,fun k=>gr.ends.length-k,qFA 0 rfl ⟨Nat.zero_le _,by simp⟩ rfl,?_⟩
  rintro l ⟨hl,hpl⟩
  repeat((conv=>whnf);first|apply qza|apply qzb|apply qzc|apply qzd|apply qze|intro(_:Nat))
  conv=>whnf
  refine⟨_,rfl,⟨by omega,by omega⟩,?_⟩
  repeat((conv=>whnf);first|apply qza|apply qzb|apply qzc|apply qzd|apply qze|intro(_:Nat))
  conv=>whnf
  refine⟨_,hcv 3 _ rfl,?_⟩
  repeat((conv=>whnf);first|apply qza|apply qzb|apply qzc|apply qzd|apply qze|intro(_:Nat))
  conv=>whnf
  refine⟨_,rfl,⟨by omega,by omega⟩,?_⟩
  repeat((conv=>whnf);first|apply qza|apply qzb|apply qzc|apply qzd|apply qze|intro(_:Nat))
  conv=>whnf
  refine⟨_,hcg 1 _ rfl,?_⟩
  repeat((conv=>whnf);first|apply qza|apply qzb|apply qzc|apply qzd|apply qze|intro(_:Nat))
  conv=>whnf
  refine⟨fun hlt=>?_,fun hlt=>?_⟩
  rotate_left
  ·have hlL':=of_decide_eq_false hlt
   rw [List.take_of_length_le (by omega)] at hpl
   repeat((conv=>whnf);first|apply qza|apply qzb|apply qzc|apply qzd|apply qze|intro(_:Nat))
   conv=>whnf
   refine fun fr w' hw=>⟨j+1,congrArg (fun z=>[Value.int .i64 z]) (wr1 hj' n1 n2).symm,⟨hj',qjI hgr hpj hpl⟩,dec hj',?_⟩
   exact hw.fit (by simp [fitL,Res.eqv,qAA,conc])
  have hl':l<gr.ends.length:=by have:=of_decide_eq_true hlt;omega
  obtain⟨en,hen⟩:=qBA hl'
  obtain⟨ae,rfl⟩:=qUA hcE hen
  obtain⟨oN,cN,hce,_,_⟩:=q9R hcE hen
  repeat((conv=>whnf);first|apply qza|apply qzb|apply qzc|apply qzd|apply qze|intro(_:Nat))
  conv=>whnf
  refine⟨_,rfl,⟨by omega,by omega⟩,?_⟩
  repeat((conv=>whnf);first|apply qza|apply qzb|apply qzc|apply qzd|apply qze|intro(_:Nat))
  conv=>whnf
  refine⟨_,hcv 3 _ rfl,?_⟩
  repeat((conv=>whnf);first|apply qza|apply qzb|apply qzc|apply qzd|apply qze|intro(_:Nat))
  conv=>whnf
  refine⟨_,rfl,⟨by omega,by omega⟩,?_⟩
  repeat((conv=>whnf);first|apply qza|apply qzb|apply qzc|apply qzd|apply qze|intro(_:Nat))
  conv=>whnf
  refine⟨_,hcg 1 _ rfl,?_⟩
  repeat((conv=>whnf);first|apply qza|apply qzb|apply qzc|apply qzd|apply qze|intro(_:Nat))
  conv=>whnf
  refine⟨_,rfl,⟨by omega,by omega⟩,?_⟩
  repeat((conv=>whnf);first|apply qza|apply qzb|apply qzc|apply qzd|apply qze|intro(_:Nat))
  conv=>whnf
  refine⟨_,hce 2 _ rfl,?_⟩
  repeat((conv=>whnf);first|apply qza|apply qzb|apply qzc|apply qzd|apply qze|intro(_:Nat))
  conv=>whnf
  refine⟨fun y1=>?_,fun y1=>?_⟩
  ·repeat((conv=>whnf);first|apply qza|apply qzb|apply qzc|apply qzd|apply qze|intro(_:Nat))
   conv=>whnf
   intro g2 hg
   exact⟨_,rfl,fun h=>by cases h⟩
  have y1:=of_decide_eq_false y1
  repeat((conv=>whnf);first|apply qza|apply qzb|apply qzc|apply qzd|apply qze|intro(_:Nat))
  conv=>whnf
  refine fun fr w' hw=>⟨l+1,congrArg (fun z=>[Value.int .i64 z]) (wr1 hl' m1 m2).symm,⟨hl',qjI hen hpl (by omega)⟩,dec hl',?_⟩
  exact hw.fit (by simp [fitL,Res.eqv,qAA,conc]))
/- The law CollectBusy. -/
open Go.Proofs.YtkbbljngpglnkaaGreat.Sx Go.RowKit
theorem qZK (k t:Int):NewC (mU k t):=⟨rfl,rfl,rfl⟩
theorem qtR {K:Nat} {w:Wd} {m:Mach}:KeptW K w (csW w m):=by
 by_cases hgo:cGo w m
 ·rw [(qNG hgo).1];exact(qxF hgo).1
 ·rw [(qsR hgo).1];exact KeptW.refl w
theorem qTQ {w:Wd} (h:wdB w=true):w.lock=0∨w.lock=1:=by
 obtain⟨h1,_⟩:=q8B h
 unfold qbA at h1
 simp only [Bool.and_eq_true,decide_eq_true_eq] at h1
 exact h1.1.2
theorem q9J (g:GW) {cs:List Value} {w:Wd} {t o n:Int} (hw:rWo g cs w) (ht:InR t) (ho:InR o) (_hn:InR n):OkV Tryz.prog qrD [.agg ⟨cs⟩,.int .i64 t,.int .i64 o,.int .i64 n] g (.bool true):=by
 obtain⟨oa,ca,ob,cb,oc,cc,od,cd,oe,ce,rfl⟩:=qPA hw
 exact Ok.of_fn hm noT 0 qmD (args:=[.v (.agg ⟨wQ w oa ca ob cb oc cc od cd oe ce⟩),.v (.int .i64 t),.v (.int .i64 o),.v (.int .i64 n)]) (by
  repeat((conv=>whnf);first|apply qza|apply qzb|apply qzc|apply qzd|apply qze|intro(_:Nat))
  rename_i q0 q1 q2
  refine .inr ((qIL _ hw).mono fun v g1 hg1 hB=>?_)
  obtain⟨b,rfl,hB⟩:=hB
  repeat((conv=>whnf);first|apply qza|apply qzb|apply qzc|apply qzd|apply qze|intro(_:Nat))
  conv=>whnf
  refine⟨fun z1=>?_,fun z1=>?_⟩
  ·repeat((conv=>whnf);first|apply qza|apply qzb|apply qzc|apply qzd|apply qze|intro(_:Nat))
   conv=>whnf
   refine .inl ⟨_,qJA _,?_⟩
   repeat((conv=>whnf);first|apply qza|apply qzb|apply qzc|apply qzd|apply qze|intro(_:Nat))
   conv=>whnf
   intro g2 hg
   rfl
  obtain⟨hb,hsn⟩:=hB z1
  have hb':=BgW.up (K':=1000000) hb (by decide)
  have hw1:=qGA _ _ _ _ hg1 hw
  repeat((conv=>whnf);first|apply qza|apply qzb|apply qzc|apply qzd|apply qze|intro(_:Nat))
  refine .inr ((qHL _ hw1).mono fun v g2 hg2 hC=>?_)
  obtain⟨b,rfl,hC⟩:=hC
  have hw2:=qGA _ _ _ _ hg2 hw1
  repeat((conv=>whnf);first|apply qza|apply qzb|apply qzc|apply qzd|apply qze|intro(_:Nat))
  conv=>whnf
  refine⟨fun z2=>?_,fun z2=>?_⟩
  ·repeat((conv=>whnf);first|apply qza|apply qzb|apply qzc|apply qzd|apply qze|intro(_:Nat))
   conv=>whnf
   refine .inl ⟨_,qJA _,?_⟩
   repeat((conv=>whnf);first|apply qza|apply qzb|apply qzc|apply qzd|apply qze|intro(_:Nat))
   conv=>whnf
   intro g2 hg
   rfl
  repeat((conv=>whnf);first|apply qza|apply qzb|apply qzc|apply qzd|apply qze|intro(_:Nat))
  conv=>whnf
  refine⟨fun z3=>?_,fun z3=>?_⟩
  ·repeat((conv=>whnf);first|apply qza|apply qzb|apply qzc|apply qzd|apply qze|intro(_:Nat))
   conv=>whnf
   refine .inl ⟨_,qJA _,?_⟩
   repeat((conv=>whnf);first|apply qza|apply qzb|apply qzc|apply qzd|apply qze|intro(_:Nat))
   conv=>whnf
   intro g2 hg
   rfl
  repeat((conv=>whnf);first|apply qza|apply qzb|apply qzc|apply qzd|apply qze|intro(_:Nat))
  conv=>whnf
  refine⟨fun z4=>?_,fun z4=>?_⟩
  ·repeat((conv=>whnf);first|apply qza|apply qzb|apply qzc|apply qzd|apply qze|intro(_:Nat))
   conv=>whnf
   refine .inl ⟨_,qJA _,?_⟩
   repeat((conv=>whnf);first|apply qza|apply qzb|apply qzc|apply qzd|apply qze|intro(_:Nat))
   conv=>whnf
   intro g2 hg
   rfl
  have hM2:=qBJ g2 (k:=5) (by decide) ht
  have hQ2:=qBJ g2 (k:=5) (by decide) ho
  repeat((conv=>whnf);first|apply qza|apply qzb|apply qzc|apply qzd|apply qze|intro(_:Nat))
  conv=>whnf
  refine .inl ⟨_,qyA _ hw2 hM2 hsn hb',?_⟩
  repeat((conv=>whnf);first|apply qza|apply qzb|apply qzc|apply qzd|apply qze|intro(_:Nat))
  conv=>whnf
  refine⟨fun z5=>?_,fun z5=>?_⟩
  ·repeat((conv=>whnf);first|apply qza|apply qzb|apply qzc|apply qzd|apply qze|intro(_:Nat))
   conv=>whnf
   refine .inl ⟨_,qJA _,?_⟩
   repeat((conv=>whnf);first|apply qza|apply qzb|apply qzc|apply qzd|apply qze|intro(_:Nat))
   conv=>whnf
   intro g2 hg
   rfl
  repeat((conv=>whnf);first|apply qza|apply qzb|apply qzc|apply qzd|apply qze|intro(_:Nat))
  conv=>whnf
  refine .inl ⟨_,qyA _ hw2 hQ2 hsn hb',?_⟩
  repeat((conv=>whnf);first|apply qza|apply qzb|apply qzc|apply qzd|apply qze|intro(_:Nat))
  conv=>whnf
  refine⟨fun z6=>?_,fun z6=>?_⟩
  ·repeat((conv=>whnf);first|apply qza|apply qzb|apply qzc|apply qzd|apply qze|intro(_:Nat))
   conv=>whnf
   refine .inl ⟨_,qJA _,?_⟩
   repeat((conv=>whnf);first|apply qza|apply qzb|apply qzc|apply qzd|apply qze|intro(_:Nat))
   conv=>whnf
   intro g2 hg
   rfl
  repeat((conv=>whnf);first|apply qza|apply qzb|apply qzc|apply qzd|apply qze|intro(_:Nat))
  conv=>whnf
  refine⟨fun z7=>?_,fun z7=>?_⟩
  ·repeat((conv=>whnf);first|apply qza|apply qzb|apply qzc|apply qzd|apply qze|intro(_:Nat))
   conv=>whnf
   refine .inl ⟨_,qJA _,?_⟩
   repeat((conv=>whnf);first|apply qza|apply qzb|apply qzc|apply qzd|apply qze|intro(_:Nat))
   conv=>whnf
   intro g2 hg
   rfl
  have z3:1≤n:=by have:=of_decide_eq_false z3;omega
  have z4:n≤200:=by have:=of_decide_eq_false z4;omega
  have hs5:=nb0 z5
  have hs6:=nb0 z6
  have hlk:w.lock=0:=by
   obtain⟨_,_,_,hS⟩:=suitB_iff.1 hs5
   rcases qTQ hS.right with h|h
   ·exact h
   ·exact absurd h (beqF z7)
  repeat((conv=>whnf);first|apply qza|apply qzb|apply qzc|apply qzd|apply qze|intro(_:Nat))
  conv=>whnf
  refine⟨CoSt,fun x=>[.v (.int .i64 x.j)],fun y=>⟨y.g,[.blk 2 q2 qoC _,.blk 1 q1 qoC (y.mc.map SV.v),.blk 0 q0 qIA (y.wc.map SV.v)],_,_⟩,fun y=>(y.j:Int)≤n∧g2≤y.g∧rWo y.g y.wc y.w∧qjC y.g y.mc y.m∧(y.j=0→y.w=w∧y.m=mU 5 t)∧(0<y.j→BuS w y.w y.m)∧SnW y.w∧BgW 1000000 y.w,fun y=>n.toNat-y.j,qFA (⟨0,g2,w,oa,ca,ob,cb,oc,cc,od,cd,oe,ce,mU 5 t,none,0,none,0,none,0⟩:CoSt) rfl ⟨by show(0:Int)≤n;omega,GW.refl _,hw2,hM2,fun _=>⟨rfl,rfl⟩,fun h=>absurd h (Nat.lt_irrefl 0),hsn,hb'⟩ rfl,?_⟩
  clear hw2 hsn hb' hw1 hw hb hC hB
  intro y hy
  obtain⟨j,gx,x,oa,ca,ob,cb,oc,cc,od,cd,oe,ce,m,o1,t1,o2,t2,o3,t3⟩:=y
  obtain⟨hj,hxg,hxw,hxM,hj0,hjB,hsn,hb'⟩:=hy
  replace hj:(j:Int)≤n:=hj
  replace hj0:j=0→x=w∧m=mU 5 t:=hj0
  replace hjB:0<j→BuS w x m:=hjB
  replace hb':BgW 1000000 x:=hb'
  replace hsn:SnW x:=hsn
  repeat((conv=>whnf);first|apply qza|apply qzb|apply qzc|apply qzd|apply qze|intro(_:Nat))
  refine And.intro (fun y1=>?_) (fun y1=>?_)
  ·have y1:(j:Int)<n:=of_decide_eq_true y1
   by_cases hmd0:m.done=true
   ·have hBu:BuS w x m:=hjB (Nat.pos_of_ne_zero fun h=>by
     have:=(hj0 h).2
     rw [this] at hmd0
     cases hmd0)
    repeat((conv=>whnf);first|apply qza|apply qzb|apply qzc|apply qzd|apply qze|intro(_:Nat))
    conv=>whnf
    refine⟨fun hx=>absurd hx (by simp [hmd0]),fun _=>?_⟩
    repeat((conv=>whnf);first|apply qza|apply qzb|apply qzc|apply qzd|apply qze|intro(_:Nat))
    by_cases hmd:m.done=true
    ·have hl0:=hBu.end_ hmd
     conv=>whnf
     refine⟨fun _=>?_,fun hx=>absurd hx (by simp [hmd])⟩
     repeat((conv=>whnf);first|apply qza|apply qzb|apply qzc|apply qzd|apply qze|intro(_:Nat))
     conv=>whnf
     refine .inl ⟨_,qJA _,?_⟩
     repeat'((conv=>whnf);first|apply qza|apply qzb|apply qzc|apply qzd|apply qze|intro(_:Nat)|refine⟨fun _=>?_,fun h=>absurd h.symm Bool.false_ne_true⟩|fail)
     conv=>whnf
     intro g2 hg
     exact congrArg Value.bool (decide_eq_true hl0)
    have hmd:m.done=false:=by simpa using hmd
    have hl1:=(hBu.on hmd).1
    have hsx:=hBu.keep.suit hBu.right hs6
    obtain⟨d0,hgx,d1,d2⟩:=qrI hsx (qZK 5 o) (by rw [hl1];decide)
    obtain⟨e1,e2,e3⟩:=qNG hgx
    rw [← d1] at e1
    rw [← d2] at e2
    have e4:csE x (mU 5 o)={evO (mU 5 o) 5 14 1 with done:=true,answer:=ansK 12 0}:=by
     rw [e3,(cb0 (w:=x) (m:=mU 5 o) rfl).2.2,if_neg (by rw [hl1];decide)]
    conv=>whnf
    refine⟨fun hx=>absurd hx (by simp [hmd]),fun _=>?_⟩
    repeat((conv=>whnf);first|apply qza|apply qzb|apply qzc|apply qzd|apply qze|intro(_:Nat))
    refine .inr ((qmI _ hxw (qWE _ _ _ _ hxg hQ2) hsn hb').mono fun v g4 hg4 hO=>?_)
    obtain⟨csa,msa,rfl,hwa,hMa⟩:=hO
    rw [e1] at hwa
    rw [e2] at hMa
    rw [e4]
    obtain⟨r1,r2,r3,r4,r5,r6,r7,r8,r9,r10,rfl⟩:=qPA hwa
    obtain⟨s1,s2,s3,s4,s5,s6,rfl⟩:=qNB hMa
    repeat'((conv=>whnf);first|apply qza|apply qzb|apply qzc|apply qzd|apply qze|intro(_:Nat)|refine .inl ⟨_,qJA _,?_⟩|refine⟨fun _=>?_,fun h=>absurd h.symm Bool.false_ne_true⟩|fail)
    refine⟨fun _=>?_,fun h=>absurd h (by simp [hl1])⟩
    repeat'((conv=>whnf);first|apply qza|apply qzb|apply qzc|apply qzd|apply qze|intro(_:Nat)|refine .inl ⟨_,qFL _ hwa (qGA _ _ _ _ hg4 hxw),?_⟩|refine⟨fun _=>?_,fun h=>absurd h.symm Bool.false_ne_true⟩|fail)
    conv=>whnf
    intro g2 hg
    rfl
   ·have hmd0:m.done=false:=by simpa using hmd0
    have hnx:BuS w (csW x m) (csM x m):=by
     rcases Nat.eq_zero_or_pos j with h|h
     ·obtain⟨k1,k2⟩:=hj0 h
      subst k1
      subst k2
      exact BuS.first hs5 (qZK 5 t) hlk
     ·exact(hjB h).step hmd0
    have hkp:=qtR (K:=1000000) (w:=x) (m:=m)
    repeat((conv=>whnf);first|apply qza|apply qzb|apply qzc|apply qzd|apply qze|intro(_:Nat))
    conv=>whnf
    refine⟨fun _=>?_,fun hx=>absurd hx (by simp [hmd0])⟩
    repeat((conv=>whnf);first|apply qza|apply qzb|apply qzc|apply qzd|apply qze|intro(_:Nat))
    refine .inr ((qmI _ hxw hxM hsn hb').mono fun v g4 hg4 hO=>?_)
    obtain⟨csa,msa,rfl,hwa,hMa⟩:=hO
    obtain⟨r1,r2,r3,r4,r5,r6,r7,r8,r9,r10,rfl⟩:=qPA hwa
    obtain⟨s1,s2,s3,s4,s5,s6,rfl⟩:=qNB hMa
    repeat((conv=>whnf);first|apply qza|apply qzb|apply qzc|apply qzd|apply qze|intro(_:Nat))
    conv=>whnf
    refine fun fr u hu=>⟨⟨j+1,g4,csW x m,r1,r2,r3,r4,r5,r6,r7,r8,r9,r10,csM x m,s1,s2,s3,s4,s5,s6⟩,congrArg (fun z=>[Value.int .i64 z]) (show((j+1:Nat):Int)=IntKind.i64.wrap ((j:Int)+1) by rw [wr (x:=(j:Int)+1) (by unfold InR;omega)];omega),⟨by show((j+1:Nat):Int)≤n;omega,GW.trans hxg hg4,hwa,hMa,fun h=>absurd h (Nat.succ_ne_zero j),fun _=>hnx,qyP hsn hkp,hkp.1 hb'⟩,by show n.toNat-(j+1)<n.toNat-j;omega,?_⟩
    exact hu.fit (by simp [fitL,Res.eqv,qAA,conc])
  ·have y1:¬ (j:Int)<n:=of_decide_eq_false y1
   have hBu:BuS w x m:=hjB (by omega)
   repeat((conv=>whnf);first|apply qza|apply qzb|apply qzc|apply qzd|apply qze|intro(_:Nat))
   repeat((conv=>whnf);first|apply qza|apply qzb|apply qzc|apply qzd|apply qze|intro(_:Nat))
   by_cases hmd:m.done=true
   ·have hl0:=hBu.end_ hmd
    conv=>whnf
    refine⟨fun _=>?_,fun hx=>absurd hx (by simp [hmd])⟩
    repeat((conv=>whnf);first|apply qza|apply qzb|apply qzc|apply qzd|apply qze|intro(_:Nat))
    conv=>whnf
    refine .inl ⟨_,qJA _,?_⟩
    repeat'((conv=>whnf);first|apply qza|apply qzb|apply qzc|apply qzd|apply qze|intro(_:Nat)|refine⟨fun _=>?_,fun h=>absurd h.symm Bool.false_ne_true⟩|fail)
    conv=>whnf
    intro g2 hg
    exact congrArg Value.bool (decide_eq_true hl0)
   have hmd:m.done=false:=by simpa using hmd
   have hl1:=(hBu.on hmd).1
   have hsx:=hBu.keep.suit hBu.right hs6
   obtain⟨d0,hgx,d1,d2⟩:=qrI hsx (qZK 5 o) (by rw [hl1];decide)
   obtain⟨e1,e2,e3⟩:=qNG hgx
   rw [← d1] at e1
   rw [← d2] at e2
   have e4:csE x (mU 5 o)={evO (mU 5 o) 5 14 1 with done:=true,answer:=ansK 12 0}:=by
    rw [e3,(cb0 (w:=x) (m:=mU 5 o) rfl).2.2,if_neg (by rw [hl1];decide)]
   conv=>whnf
   refine⟨fun hx=>absurd hx (by simp [hmd]),fun _=>?_⟩
   repeat((conv=>whnf);first|apply qza|apply qzb|apply qzc|apply qzd|apply qze|intro(_:Nat))
   refine .inr ((qmI _ hxw (qWE _ _ _ _ hxg hQ2) hsn hb').mono fun v g4 hg4 hO=>?_)
   obtain⟨csa,msa,rfl,hwa,hMa⟩:=hO
   rw [e1] at hwa
   rw [e2] at hMa
   rw [e4]
   obtain⟨r1,r2,r3,r4,r5,r6,r7,r8,r9,r10,rfl⟩:=qPA hwa
   obtain⟨s1,s2,s3,s4,s5,s6,rfl⟩:=qNB hMa
   repeat'((conv=>whnf);first|apply qza|apply qzb|apply qzc|apply qzd|apply qze|intro(_:Nat)|refine .inl ⟨_,qJA _,?_⟩|refine⟨fun _=>?_,fun h=>absurd h.symm Bool.false_ne_true⟩|fail)
   refine⟨fun _=>?_,fun h=>absurd h (by simp [hl1])⟩
   repeat'((conv=>whnf);first|apply qza|apply qzb|apply qzc|apply qzd|apply qze|intro(_:Nat)|refine .inl ⟨_,qFL _ hwa (qGA _ _ _ _ hg4 hxw),?_⟩|refine⟨fun _=>?_,fun h=>absurd h.symm Bool.false_ne_true⟩|fail)
   conv=>whnf
   intro g2 hg
   rfl)
/- What came in of this seat's types is plain data. -/
open Go.Proofs.YtkbbljngpglnkaaGreat.Sx
section
variable {H:Type} {enc:TypeId×Value→H} {W:World}
theorem qmN:Rds enc Tryz.prog W quI qJP:=qUS (tS:=qJH) (tI:=qzA) (by kernel_rfl) (by kernel_rfl) (by kernel_rfl) (by kernel_rfl)
theorem q7J:Rds enc Tryz.prog W qpC qrC:=qHP (tS:=qJH) (tI:=qzA) (tL:=qyO) (tB:=q2H) (by kernel_rfl) (by kernel_rfl) (by kernel_rfl) (by kernel_rfl) (by kernel_rfl) (by kernel_rfl) (by kernel_rfl)
end
/- What came in of a snapshot is plain data. -/
open Go.Proofs.YtkbbljngpglnkaaGreat.Sx
section
variable {H:Type} {enc:TypeId×Value→H} {W:World}
theorem qlN:Rds enc Tryz.prog W qjA q7H:=by
 intro fuel cs x h
 obtain⟨a,b,d,rfl,⟨l0,h0⟩,⟨l1,h1⟩,l2,h2⟩:=qHR (t0:=q0L) (t1:=qwJ) (t2:=q1H) (e0:=qJH) (e1:=quI) (e2:=qpC) (z0:=1) (z1:=4) (z2:=4)
  (by kernel_rfl) (by kernel_rfl) (by kernel_rfl) (by kernel_rfl) (by kernel_rfl) (by kernel_rfl) (by kernel_rfl) (by kernel_rfl) (by omega) (by omega) (by omega) (qGM (by kernel_rfl)) qmN q7J h
 exact⟨⟨l0,l1,l2⟩,a,b,d,rfl,h0,h1,h2⟩
end
/- What came in of worlds and machines is plain data. -/
open Go.Proofs.YtkbbljngpglnkaaGreat.Sx
section
variable {H:Type} {enc:TypeId×Value→H} {W:World}
theorem qEL:Rds enc Tryz.prog W qOA qPB:=by
 intro fuel cs x h
 obtain⟨hl,hg⟩:=qvM (l:=[(0,1,qJH),(1,1,q2H),(2,1,qzA),(3,1,q2H)]) (by kernel_rfl) h
 rw [show Tryz.prog.cellsOf qOA=4 by kernel_rfl] at hl
 match cs,hl with
 | [a,b,c,d],_ =>
  obtain⟨s0,e0⟩:=(qGM (by kernel_rfl)).fld (hg 0 _ _ _ rfl)
  obtain⟨s1,e1⟩:=(q7I (by kernel_rfl)).fld (hg 1 _ _ _ rfl)
  obtain⟨s2,e2,w2⟩:=(qVE (by kernel_rfl)).fld (hg 2 _ _ _ rfl)
  obtain⟨s3,e3⟩:=(q7I (by kernel_rfl)).fld (hg 3 _ _ _ rfl)
  cases e0;cases e1;cases e2;cases e3
  exact⟨⟨s0,s1,s2,s3⟩,rfl,w2⟩
theorem q6J:Rds enc Tryz.prog W quB qfA:=by
 intro fuel cs x h
 obtain⟨hl,hg⟩:=qvM (l:=[(0,1,qzA),(1,1,qzA),(2,1,q2H)]) (by kernel_rfl) h
 rw [show Tryz.prog.cellsOf quB=3 by kernel_rfl] at hl
 match cs,hl with
 | [a,b,c],_ =>
  obtain⟨s0,e0,w0⟩:=(qVE (by kernel_rfl)).fld (hg 0 _ _ _ rfl)
  obtain⟨s1,e1,w1⟩:=(qVE (by kernel_rfl)).fld (hg 1 _ _ _ rfl)
  obtain⟨s2,e2⟩:=(q7I (by kernel_rfl)).fld (hg 2 _ _ _ rfl)
  cases e0;cases e1;cases e2
  exact⟨⟨s0,s1,s2⟩,rfl,w0,w1⟩
theorem qNP:RdsW enc Tryz.prog W qeA rEn:=by
 intro fuel cs x h hs
 obtain⟨hl,hg⟩:=qgL (l:=[(0,1,qJE),(1,1,qKE),(2,1,qzA)]) (by kernel_rfl) h hs
 rw [show Tryz.prog.cellsOf qeA=3 by kernel_rfl] at hl
 match cs,hl with
 | [a,b,c],_ =>
  obtain⟨s0,e0,w0⟩:=(q5P (by kernel_rfl)).fld (tr1 (hg 0 _ _ _ rfl))
  obtain⟨s1,v,e1,h1,hb⟩:=(qSO (t:=qKE) (e:=qzA) (sz:=1) (by kernel_rfl) (by kernel_rfl) (qVE (by kernel_rfl)).w).fld (hg 1 _ _ _ rfl)
  obtain⟨s2,e2,w2⟩:=(qVE (by kernel_rfl)).fld (tr1 (hg 2 _ _ _ rfl))
  cases e0;cases e1;cases e2
  refine⟨⟨s0,s1,s2⟩,⟨_,rfl,w0,w2,h1⟩,?_⟩
  rw [show Tryz.prog.bytesOf qzA=8 by kernel_rfl] at hb
  unfold reachBytes at hb
  show s1.length≤17592186044416
  omega
theorem qOM:RdsW enc Tryz.prog W qaA rGr:=by
 intro fuel cs x h hs
 obtain⟨hl,hg⟩:=qgL (l:=[(0,1,qJE),(1,1,qKH)]) (by kernel_rfl) h hs
 rw [show Tryz.prog.cellsOf qaA=2 by kernel_rfl] at hl
 match cs,hl with
 | [a,b],_ =>
  obtain⟨s0,e0,w0⟩:=(q5P (by kernel_rfl)).fld (tr1 (hg 0 _ _ _ rfl))
  obtain⟨s1,v,e1,h1⟩:=(qQS (t:=qKH) (e:=qeA) (sz:=3) (by kernel_rfl) (by kernel_rfl) qNP).fld (hg 1 _ _ _ rfl)
  cases e0;cases e1
  exact⟨⟨s0,s1⟩,_,rfl,w0,h1⟩
theorem q5J:RdsW enc Tryz.prog W qCA rVe:=by
 intro fuel cs x h hs
 obtain⟨hl,hg⟩:=qgL (l:=[(0,3,qjA),(3,1,qPF),(4,1,q2H)]) (by kernel_rfl) h hs
 rw [show Tryz.prog.cellsOf qCA=5 by kernel_rfl] at hl
 match cs,hl with
 | [a,b,c,d,e],_ =>
  obtain⟨s0,e0⟩:=(qlN (enc:=enc)).fld (tr1 (hg 0 _ _ _ rfl))
  obtain⟨s1,v,e1,h1⟩:=(qQS (t:=qPF) (e:=qaA) (sz:=2) (by kernel_rfl) (by kernel_rfl) qOM).fld (hg 1 _ _ _ rfl)
  obtain⟨s2,e2⟩:=(q7I (by kernel_rfl)).fld (tr1 (hg 2 _ _ _ rfl))
  cases e1;cases e2
  exact⟨⟨s0,s1,s2⟩,_,_,_,_,rfl,e0,h1⟩
theorem qPT:Rds enc Tryz.prog W qUB rRow:=by
 intro fuel cs x h
 obtain⟨l,v,rfl,h1⟩:=(qFD (t:=qUB) (e:=qJE) (sz:=1) (by kernel_rfl) (by kernel_rfl) (by omega) (q5P (by kernel_rfl))) fuel cs x h
 exact⟨l,_,rfl,h1⟩
theorem qdF:RdsW enc Tryz.prog W qIA rWo:=by
 intro fuel cs x h hs
 obtain⟨hl,hg⟩:=qgL (l:=[(0,1,qzA),(1,1,qzA),(2,1,qzA),(3,1,qKE),(4,1,qLE),(5,1,qCF),(6,1,qPG),(7,1,qME)]) (by kernel_rfl) h hs
 rw [show Tryz.prog.cellsOf qIA=8 by kernel_rfl] at hl
 match cs,hl with
 | [c0,c1,c2,c3,c4,c5,c6,c7],_ =>
  obtain⟨s0,e0,w0⟩:=(qVE (by kernel_rfl)).fld (tr1 (hg 0 _ _ _ rfl))
  obtain⟨s1,e1,w1⟩:=(qVE (by kernel_rfl)).fld (tr1 (hg 1 _ _ _ rfl))
  obtain⟨s2,e2,w2⟩:=(qVE (by kernel_rfl)).fld (tr1 (hg 2 _ _ _ rfl))
  obtain⟨s3,v3,e3,h3⟩:=(qFD (t:=qKE) (e:=qzA) (sz:=1) (by kernel_rfl) (by kernel_rfl) (by omega) (qVE (by kernel_rfl))).fld (tr1 (hg 3 _ _ _ rfl))
  obtain⟨s4,v4,e4,h4⟩:=(qQS (t:=qLE) (e:=qCA) (sz:=5) (by kernel_rfl) (by kernel_rfl) q5J).fld (hg 4 _ _ _ rfl)
  obtain⟨s5,v5,e5,h5⟩:=(qFD (t:=qCF) (e:=qOA) (sz:=4) (by kernel_rfl) (by kernel_rfl) (by omega) qEL).fld (tr1 (hg 5 _ _ _ rfl))
  obtain⟨s6,v6,e6,h6⟩:=(qFD (t:=qPG) (e:=qUB) (sz:=1) (by kernel_rfl) (by kernel_rfl) (by omega) qPT).fld (tr1 (hg 6 _ _ _ rfl))
  obtain⟨s7,v7,e7,h7⟩:=(qFD (t:=qME) (e:=quB) (sz:=3) (by kernel_rfl) (by kernel_rfl) (by omega) q6J).fld (tr1 (hg 7 _ _ _ rfl))
  cases e0;cases e1;cases e2;cases e3;cases e4;cases e5;cases e6;cases e7
  exact⟨⟨s0,s1,s2,s3,s4,s5,s6,s7⟩,_,_,_,_,_,rfl,⟨w0,w1,w2⟩,h3,h4,h5,h6,h7⟩
end
end Go.Proofs.YtkbbljngpglnkaaGreat
