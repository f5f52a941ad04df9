/- Worlds: are all numbers far from their ends? -/
import Derived.Test.YthonngjhelcpeaaGreatLW9o
import Derived.Test.YthonngjhelcpeaaGreatPl
import Derived.Test.YthonngjhelcpeaaGreatLW20w
import Derived.Test.YthonngjhelcpeaaGreatF
set_option linter.unusedVariables false
set_option linter.unusedSimpArgs false
namespace Go.Proofs.YthonngjhelcpeaaGreat
open Go.Proofs.YthonngjhelcpeaaGreat.Sx Go.RowKit
set_option maxHeartbeats 16000000
set_option maxRecDepth 100000
theorem qRL {α:Type} {l:List α} {k:Nat} {x:α} (hx:l[k]?=some x) {P:α→Prop} (h:∀ v∈l.take k,P v) (h':P x):∀ v∈l.take (k+1),P v:=fun v hv=>by
 obtain⟨x1,x2⟩:=List.getElem?_eq_some_iff.1 hx
 rw [List.take_succ_eq_append_getElem x1,x2] at hv
 rcases List.mem_append.1 hv with hv|hv
 ·exact h v hv
 ·simp at hv;subst hv;exact h'
structure CalmP (w:Wd):Prop where
 ep:w.epoch≤1000000
 la:∀ x∈w.listens,x.active≤1000000
 ea:∀ v∈w.versions,∀ g∈v.groups,∀ e∈g.ends,e.active≤1000000
theorem q6E (g:GW) {cs:List Value} {w:Wd} (hw:rWo g cs w):Ok Tryz.prog q6I [.agg ⟨cs⟩] g fun v _=>∃ b,v=.bool b∧(b=true→CalmP w):=by
 have hV:=hw
 obtain⟨oa,ca,ob,cb,oc,cc,od,cd,oe,ce,rfl⟩:=qGA hw
 replace hV:=qAG hw
 have hL:=quG hw
 obtain⟨_,_,hqL,c1,c2,_,_⟩:=id hL
 cases hqL
 obtain⟨_,_,hqV,b1,b2,_,_⟩:=id hV
 cases hqV
 exact Ok.of_fn hm noT 0 qnI (args:=[.v (.agg ⟨wQ w oa ca ob cb oc cc od cd oe ce⟩)]) (by
  repeat((conv=>whnf);first|apply qza|apply qzb|apply qzc|apply qzd|apply qze|intro(_:Nat))
  conv=>whnf
  refine⟨fun z1=>?_,fun z1=>?_⟩
  ·repeat((conv=>whnf);first|apply qza|apply qzb|apply qzc|apply qzd|apply qze|intro(_:Nat))
   conv=>whnf
   intro g2 hg
   exact⟨_,rfl,fun h=>by cases h⟩
  have z1:=of_decide_eq_false z1
  repeat((conv=>whnf);first|apply qza|apply qzb|apply qzc|apply qzd|apply qze|intro(_:Nat))
  conv=>whnf
  refine⟨Nat,fun k=>[.v (.int .i64 k)],fun _=>⟨g,_,_,_⟩,fun k=>k≤w.listens.length∧∀ x∈w.listens.take k,x.active≤1000000,fun k=>w.listens.length-k,qJA 0 rfl ⟨Nat.zero_le _,by simp⟩ rfl,?_⟩
  rintro k ⟨hk,hp⟩
  repeat((conv=>whnf);first|apply qza|apply qzb|apply qzc|apply qzd|apply qze|intro(_:Nat))
  conv=>whnf
  refine⟨fun hlt=>?_,fun hlt=>?_⟩
  ·have h':k<w.listens.length:=by have:=of_decide_eq_true hlt;omega
   obtain⟨x,hx⟩:=qCA h'
   obtain⟨al,rfl⟩:=qEA hL hx
   obtain⟨_,hcl⟩:=qoD hL hx
   repeat((conv=>whnf);first|apply qza|apply qzb|apply qzc|apply qzd|apply qze|intro(_:Nat))
   conv=>whnf
   refine⟨_,rfl,⟨by omega,by omega⟩,?_⟩
   repeat((conv=>whnf);first|apply qza|apply qzb|apply qzc|apply qzd|apply qze|intro(_:Nat))
   conv=>whnf
   refine⟨_,hcl 2 _ rfl,?_⟩
   repeat((conv=>whnf);first|apply qza|apply qzb|apply qzc|apply qzd|apply qze|intro(_:Nat))
   conv=>whnf
   refine⟨fun y1=>?_,fun y1=>?_⟩
   ·repeat((conv=>whnf);first|apply qza|apply qzb|apply qzc|apply qzd|apply qze|intro(_:Nat))
    conv=>whnf
    intro g2 hg
    exact⟨_,rfl,fun h=>by cases h⟩
   have y1:=of_decide_eq_false y1
   repeat((conv=>whnf);first|apply qza|apply qzb|apply qzc|apply qzd|apply qze|intro(_:Nat))
   conv=>whnf
   refine fun fr w' hw=>⟨k+1,congrArg (fun z=>[Value.int .i64 z]) (wr1 h' c1 c2).symm,⟨h',qRL hx hp (by omega)⟩,dec h',?_⟩
   exact hw.fit (by simp [fitL,Res.eqv,qDA,conc])
  have hlL:=of_decide_eq_false hlt
  rw [List.take_of_length_le (by omega)] at hp
  clear hlt
  repeat((conv=>whnf);first|apply qza|apply qzb|apply qzc|apply qzd|apply qze|intro(_:Nat))
  conv=>whnf
  refine⟨Nat,fun k=>[.v (.int .i64 k)],fun _=>⟨g,_,_,_⟩,fun k=>k≤w.versions.length∧∀ v∈w.versions.take k,∀ g∈v.groups,∀ e∈g.ends,e.active≤1000000,fun k=>w.versions.length-k,qJA 0 rfl ⟨Nat.zero_le _,by simp⟩ rfl,?_⟩
  rintro i ⟨hi,hpi⟩
  repeat((conv=>whnf);first|apply qza|apply qzb|apply qzc|apply qzd|apply qze|intro(_:Nat))
  conv=>whnf
  refine⟨fun hlt=>?_,fun hlt=>?_⟩
  rotate_left
  ·have hiL:=of_decide_eq_false hlt
   rw [List.take_of_length_le (by omega)] at hpi
   repeat((conv=>whnf);first|apply qza|apply qzb|apply qzc|apply qzd|apply qze|intro(_:Nat))
   conv=>whnf
   intro g2 hg
   exact⟨_,rfl,fun _=>⟨by omega,hp,hpi⟩⟩
  have hi':i<w.versions.length:=by have:=of_decide_eq_true hlt;omega
  obtain⟨v,hv⟩:=qCA hi'
  obtain⟨av,rfl⟩:=qEA hV hv
  obtain⟨oL,cL,oR,cR,oC,cC,oG,cG,hcv,_,_,hcG⟩:=qgC hV hv
  obtain⟨_,_,hqG,n1,n2,_,_⟩:=id hcG
  cases hqG
  clear hlt
  repeat((conv=>whnf);first|apply qza|apply qzb|apply qzc|apply qzd|apply qze|intro(_:Nat))
  conv=>whnf
  refine⟨Nat,fun k=>[.v (.int .i64 k)],fun _=>⟨g,_,_,_⟩,fun k=>k≤v.groups.length∧∀ g∈v.groups.take k,∀ e∈g.ends,e.active≤1000000,fun k=>v.groups.length-k,qJA 0 rfl ⟨Nat.zero_le _,by simp⟩ rfl,?_⟩
  rintro j ⟨hj,hpj⟩
  repeat((conv=>whnf);first|apply qza|apply qzb|apply qzc|apply qzd|apply qze|intro(_:Nat))
  conv=>whnf
  refine⟨_,rfl,⟨by omega,by omega⟩,?_⟩
  repeat((conv=>whnf);first|apply qza|apply qzb|apply qzc|apply qzd|apply qze|intro(_:Nat))
  conv=>whnf
  refine⟨_,hcv 3 _ rfl,?_⟩
  repeat((conv=>whnf);first|apply qza|apply qzb|apply qzc|apply qzd|apply qze|intro(_:Nat))
  conv=>whnf
  refine⟨fun hlt=>?_,fun hlt=>?_⟩
  rotate_left
  ·have hjL:=of_decide_eq_false hlt
   rw [List.take_of_length_le (by omega)] at hpj
   repeat((conv=>whnf);first|apply qza|apply qzb|apply qzc|apply qzd|apply qze|intro(_:Nat))
   conv=>whnf
   refine fun fr w' hw=>⟨i+1,congrArg (fun z=>[Value.int .i64 z]) (wr1 hi' b1 b2).symm,⟨hi',qRL hv hpi hpj⟩,dec hi',?_⟩
   exact hw.fit (by simp [fitL,Res.eqv,qDA,conc])
  have hj':j<v.groups.length:=by have:=of_decide_eq_true hlt;omega
  obtain⟨gr,hgr⟩:=qCA hj'
  obtain⟨ag,rfl⟩:=qEA hcG hgr
  obtain⟨oE,cE,hcg,_,hcE⟩:=q8C hcG hgr
  obtain⟨_,_,hqE,m1,m2,_,_⟩:=id hcE
  cases hqE
  clear hlt
  repeat((conv=>whnf);first|apply qza|apply qzb|apply qzc|apply qzd|apply qze|intro(_:Nat))
  conv=>whnf
  refine⟨Nat,fun k=>[.v (.int .i64 k)],fun _=>⟨g,_,_,_⟩,fun k=>k≤gr.ends.length∧∀ e∈gr.ends.take k,e.active≤1000000,fun k=>gr.ends.length-k,qJA 0 rfl ⟨Nat.zero_le _,by simp⟩ rfl,?_⟩
  rintro l ⟨hl,hpl⟩
  repeat((conv=>whnf);first|apply qza|apply qzb|apply qzc|apply qzd|apply qze|intro(_:Nat))
  conv=>whnf
  refine⟨_,rfl,⟨by omega,by omega⟩,?_⟩
  repeat((conv=>whnf);first|apply qza|apply qzb|apply qzc|apply qzd|apply qze|intro(_:Nat))
  conv=>whnf
  refine⟨_,hcv 3 _ rfl,?_⟩
  repeat((conv=>whnf);first|apply qza|apply qzb|apply qzc|apply qzd|apply qze|intro(_:Nat))
  conv=>whnf
  refine⟨_,rfl,⟨by omega,by omega⟩,?_⟩
  repeat((conv=>whnf);first|apply qza|apply qzb|apply qzc|apply qzd|apply qze|intro(_:Nat))
  conv=>whnf
  refine⟨_,hcg 1 _ rfl,?_⟩
  repeat((conv=>whnf);first|apply qza|apply qzb|apply qzc|apply qzd|apply qze|intro(_:Nat))
  conv=>whnf
  refine⟨fun hlt=>?_,fun hlt=>?_⟩
  rotate_left
  ·have hlL':=of_decide_eq_false hlt
   rw [List.take_of_length_le (by omega)] at hpl
   repeat((conv=>whnf);first|apply qza|apply qzb|apply qzc|apply qzd|apply qze|intro(_:Nat))
   conv=>whnf
   refine fun fr w' hw=>⟨j+1,congrArg (fun z=>[Value.int .i64 z]) (wr1 hj' n1 n2).symm,⟨hj',qRL hgr hpj hpl⟩,dec hj',?_⟩
   exact hw.fit (by simp [fitL,Res.eqv,qDA,conc])
  have hl':l<gr.ends.length:=by have:=of_decide_eq_true hlt;omega
  obtain⟨en,hen⟩:=qCA hl'
  obtain⟨ae,rfl⟩:=qEA hcE hen
  obtain⟨oN,cN,hce,_,_⟩:=quD hcE hen
  repeat((conv=>whnf);first|apply qza|apply qzb|apply qzc|apply qzd|apply qze|intro(_:Nat))
  conv=>whnf
  refine⟨_,rfl,⟨by omega,by omega⟩,?_⟩
  repeat((conv=>whnf);first|apply qza|apply qzb|apply qzc|apply qzd|apply qze|intro(_:Nat))
  conv=>whnf
  refine⟨_,hcv 3 _ rfl,?_⟩
  repeat((conv=>whnf);first|apply qza|apply qzb|apply qzc|apply qzd|apply qze|intro(_:Nat))
  conv=>whnf
  refine⟨_,rfl,⟨by omega,by omega⟩,?_⟩
  repeat((conv=>whnf);first|apply qza|apply qzb|apply qzc|apply qzd|apply qze|intro(_:Nat))
  conv=>whnf
  refine⟨_,hcg 1 _ rfl,?_⟩
  repeat((conv=>whnf);first|apply qza|apply qzb|apply qzc|apply qzd|apply qze|intro(_:Nat))
  conv=>whnf
  refine⟨_,rfl,⟨by omega,by omega⟩,?_⟩
  repeat((conv=>whnf);first|apply qza|apply qzb|apply qzc|apply qzd|apply qze|intro(_:Nat))
  conv=>whnf
  refine⟨_,hce 2 _ rfl,?_⟩
  repeat((conv=>whnf);first|apply qza|apply qzb|apply qzc|apply qzd|apply qze|intro(_:Nat))
  conv=>whnf
  refine⟨fun y1=>?_,fun y1=>?_⟩
  ·repeat((conv=>whnf);first|apply qza|apply qzb|apply qzc|apply qzd|apply qze|intro(_:Nat))
   conv=>whnf
   intro g2 hg
   exact⟨_,rfl,fun h=>by cases h⟩
  have y1:=of_decide_eq_false y1
  repeat((conv=>whnf);first|apply qza|apply qzb|apply qzc|apply qzd|apply qze|intro(_:Nat))
  conv=>whnf
  refine fun fr w' hw=>⟨l+1,congrArg (fun z=>[Value.int .i64 z]) (wr1 hl' m1 m2).symm,⟨hl',qRL hen hpl (by omega)⟩,dec hl',?_⟩
  exact hw.fit (by simp [fitL,Res.eqv,qDA,conc]))
/- The law HandleRight. -/
open Go.Proofs.YthonngjhelcpeaaGreat.Sx Go.RowKit
abbrev oCs (o:OpD) (a b d:Value):List Value:=[.int .i64 o.kind,.string o.listen,.string o.host,.string o.path,.int .i64 o.d0,.int .i64 o.d1,.int .i64 o.n,a,b,d]
theorem qwM (g:GW) {cs os:List Value} {w:Wd} {th:Int} {o:OpD} {v:Value} {l:List Bool} (hw:rWo g cs w) (ht:InR th) (hO:rOp g os o) (hl:rSl 1 qjS g v l):OkV Tryz.prog qrE [.agg ⟨cs⟩,.int .i64 th,.agg ⟨os⟩,v] g (.bool true):=by
 obtain⟨oa,ca,ob,cb,oc,cc,od,cd,oe,ce,rfl⟩:=qGA hw
 obtain⟨o1,t1,o2,t2,o3,t3,rfl⟩:=qcD hO
 obtain⟨ol,cl,rfl,l1,l2,l0,hlr⟩:=id hl
 exact Ok.of_fn hm noT 0 qiE (args:=[.v (.agg ⟨wQ w oa ca ob cb oc cc od cd oe ce⟩),.v (.int .i64 th),.v (.agg ⟨oCs o (.slice o1 o.config.listens.length t1) (.slice o2 o.config.routes.length t2) (.slice o3 o.config.clusters.length t3)⟩),.v (.slice ol l.length cl)]) (by
  repeat((conv=>whnf);first|apply qza|apply qzb|apply qzc|apply qzd|apply qze|intro(_:Nat))
  rename_i q0 q1 q2
  refine .inr ((q7E _ hw).mono fun v g1 hg1 hB=>?_)
  obtain⟨b,rfl,hB⟩:=hB
  have hw1:=qBA _ _ _ _ hg1 hw
  have hM1:=q0C (qTC _ _ _ _ hg1 hO) ht
  repeat((conv=>whnf);first|apply qza|apply qzb|apply qzc|apply qzd|apply qze|intro(_:Nat))
  conv=>whnf
  refine⟨fun z1=>?_,fun z1=>?_⟩
  ·repeat((conv=>whnf);first|apply qza|apply qzb|apply qzc|apply qzd|apply qze|intro(_:Nat))
   conv=>whnf
   refine .inl ⟨_,qIA _,?_⟩
   repeat((conv=>whnf);first|apply qza|apply qzb|apply qzc|apply qzd|apply qze|intro(_:Nat))
   conv=>whnf
   intro g2 hg
   rfl
  obtain⟨hb,hsn⟩:=hB z1
  have hb':=BgW.up (K':=1000000) hb (by decide)
  repeat((conv=>whnf);first|apply qza|apply qzb|apply qzc|apply qzd|apply qze|intro(_:Nat))
  conv=>whnf
  refine⟨fun z2=>?_,fun z2=>?_⟩
  ·repeat((conv=>whnf);first|apply qza|apply qzb|apply qzc|apply qzd|apply qze|intro(_:Nat))
   conv=>whnf
   refine .inl ⟨_,qIA _,?_⟩
   repeat((conv=>whnf);first|apply qza|apply qzb|apply qzc|apply qzd|apply qze|intro(_:Nat))
   conv=>whnf
   intro g2 hg
   rfl
  repeat((conv=>whnf);first|apply qza|apply qzb|apply qzc|apply qzd|apply qze|intro(_:Nat))
  conv=>whnf
  refine⟨fun z3=>?_,fun z3=>?_⟩
  ·repeat((conv=>whnf);first|apply qza|apply qzb|apply qzc|apply qzd|apply qze|intro(_:Nat))
   conv=>whnf
   refine .inl ⟨_,qIA _,?_⟩
   repeat((conv=>whnf);first|apply qza|apply qzb|apply qzc|apply qzd|apply qze|intro(_:Nat))
   conv=>whnf
   intro g2 hg
   rfl
  have hsz:SmO (mReq o th):=q8J z2 z3
  repeat((conv=>whnf);first|apply qza|apply qzb|apply qzc|apply qzd|apply qze|intro(_:Nat))
  conv=>whnf
  refine⟨fun z4=>?_,fun z4=>?_⟩
  ·repeat((conv=>whnf);first|apply qza|apply qzb|apply qzc|apply qzd|apply qze|intro(_:Nat))
   conv=>whnf
   refine .inl ⟨_,qIA _,?_⟩
   repeat((conv=>whnf);first|apply qza|apply qzb|apply qzc|apply qzd|apply qze|intro(_:Nat))
   conv=>whnf
   intro g2 hg
   rfl
  have hl60:=of_decide_eq_false z4
  repeat((conv=>whnf);first|apply qza|apply qzb|apply qzc|apply qzd|apply qze|intro(_:Nat))
  refine .inr ((q6E _ hw1).mono fun v g2 hg2 hC=>?_)
  obtain⟨b,rfl,hC⟩:=hC
  have hw2:=qBA _ _ _ _ hg2 hw1
  have hM2:=qNA _ _ _ _ hg2 hM1
  repeat((conv=>whnf);first|apply qza|apply qzb|apply qzc|apply qzd|apply qze|intro(_:Nat))
  conv=>whnf
  refine⟨fun z5=>?_,fun z5=>?_⟩
  ·repeat((conv=>whnf);first|apply qza|apply qzb|apply qzc|apply qzd|apply qze|intro(_:Nat))
   conv=>whnf
   refine .inl ⟨_,qIA _,?_⟩
   repeat((conv=>whnf);first|apply qza|apply qzb|apply qzc|apply qzd|apply qze|intro(_:Nat))
   conv=>whnf
   intro g2 hg
   rfl
  have hcalm:=hC (nb0 z5)
  repeat((conv=>whnf);first|apply qza|apply qzb|apply qzc|apply qzd|apply qze|intro(_:Nat))
  conv=>whnf
  refine .inl ⟨_,qQA _ hw2 hM2 hsn hb',?_⟩
  repeat((conv=>whnf);first|apply qza|apply qzb|apply qzc|apply qzd|apply qze|intro(_:Nat))
  conv=>whnf
  refine⟨fun z6=>?_,fun z6=>?_⟩
  ·repeat((conv=>whnf);first|apply qza|apply qzb|apply qzc|apply qzd|apply qze|intro(_:Nat))
   conv=>whnf
   refine .inl ⟨_,qIA _,?_⟩
   repeat((conv=>whnf);first|apply qza|apply qzb|apply qzc|apply qzd|apply qze|intro(_:Nat))
   conv=>whnf
   intro g2 hg
   rfl
  have hI:=qRM (n:=1000000) (nb0 z6) rfl hcalm.la hcalm.ea
  repeat((conv=>whnf);first|apply qza|apply qzb|apply qzc|apply qzd|apply qze|intro(_:Nat))
  conv=>whnf
  refine⟨HaSt,fun x=>[.v (.int .i64 x.j)],fun x=>⟨x.g,[.blk 2 q2 qJC (x.mc.map SV.v),.blk 1 q1 qYJ ((oCs o (.slice o1 o.config.listens.length t1) (.slice o2 o.config.routes.length t2) (.slice o3 o.config.clusters.length t3)).map SV.v),.blk 0 q0 qMA (x.wc.map SV.v)],_,_⟩,fun x=>x.j≤l.length∧g2≤x.g∧rWo x.g x.wc x.w∧qlA x.g x.mc x.m∧(x.m.done=true∨∃ k,HInv k x.w x.m 1000000)∧SnW x.w∧BgW 1000000 x.w∧SmO x.m∧x.w.epoch≤1000000+x.j∧x.m.thread=th,fun x=>l.length-x.j,qJA (⟨0,g2,w,oa,ca,ob,cb,oc,cc,od,cd,oe,ce,mReq o th,o1,t1,o2,t2,o3,t3⟩:HaSt) rfl ⟨Nat.zero_le _,GW.refl _,hw2,hM2,.inr ⟨0,hI⟩,hsn,hb',hsz,by have:=hcalm.ep;show w.epoch≤1000000+0;omega,rfl⟩ rfl,?_⟩
  clear hM1 hw1 hM2 hw2 hI hb' hb hsn hB hw hC hcalm hsz
  intro x hx
  obtain⟨j,gx,w,oa,ca,ob,cb,oc,cc,od,cd,oe,ce,m,p1,s1,p2,s2,p3,s3⟩:=x
  obtain⟨hj,hxg,hxw,hxM,hI,hsn,hb,hsz,hej,hth⟩:=hx
  replace hj:j≤l.length:=hj
  replace hej:w.epoch≤1000000+j:=hej
  replace hb:BgW 1000000 w:=hb
  replace hsn:SnW w:=hsn
  replace hsz:SmO m:=hsz
  replace hth:m.thread=th:=hth
  replace hI:m.done=true∨∃ k,HInv k w m 1000000:=hI
  repeat((conv=>whnf);first|apply qza|apply qzb|apply qzc|apply qzd|apply qze|intro(_:Nat))
  conv=>whnf
  refine⟨fun y1=>?_,fun y1=>?_⟩
  rotate_left
  ·repeat((conv=>whnf);first|apply qza|apply qzb|apply qzc|apply qzd|apply qze|intro(_:Nat))
   conv=>whnf
   refine .inl ⟨_,qIA _,?_⟩
   repeat((conv=>whnf);first|apply qza|apply qzb|apply qzc|apply qzd|apply qze|intro(_:Nat))
   conv=>whnf
   intro g2 hg
   rfl
  have hlj:j<l.length:=by have h9:(j:Int)<l.length:=of_decide_eq_true y1;omega
  obtain⟨b,hb0⟩:=qCA hlj
  obtain⟨al,rfl,el,hel,rfl,hcl⟩:=hlr j b hb0
  have hcl':=(hcl 0 _ rfl).mono (GW.trans hg1 (GW.trans hg2 hxg))
  repeat((conv=>whnf);first|apply qza|apply qzb|apply qzc|apply qzd|apply qze|intro(_:Nat))
  conv=>whnf
  refine⟨fun y0=>?_,fun y0=>?_⟩
  rotate_left
  ·repeat((conv=>whnf);first|apply qza|apply qzb|apply qzc|apply qzd|apply qze|intro(_:Nat))
   conv=>whnf
   refine .inl ⟨_,qIA _,?_⟩
   repeat((conv=>whnf);first|apply qza|apply qzb|apply qzc|apply qzd|apply qze|intro(_:Nat))
   conv=>whnf
   intro g2 hg
   rfl
  have hnd:m.done=false:=by cases hd:m.done<;>simp_all
  obtain⟨k,hI⟩:∃ k,HInv k w m 1000000:=by
   rcases hI with h|h
   ·rw [hnd] at h;cases h
   ·exact h
  obtain⟨_,_,_,hS0⟩:=suitB_iff.1 hI.suit
  obtain⟨he0,he1⟩:=qBF hS0.right
  repeat((conv=>whnf);first|apply qza|apply qzb|apply qzc|apply qzd|apply qze|intro(_:Nat))
  conv=>whnf
  refine⟨_,rfl,⟨by show(0:Int)≤j;omega,by show(j:Int)<l.length;omega⟩,?_⟩
  repeat((conv=>whnf);first|apply qza|apply qzb|apply qzc|apply qzd|apply qze|intro(_:Nat))
  conv=>whnf
  refine⟨_,hcl',?_⟩
  repeat((conv=>whnf);first|apply qza|apply qzb|apply qzc|apply qzd|apply qze|intro(_:Nat))
  conv=>whnf
  refine⟨fun y2=>?_,fun y2=>?_⟩
  ·repeat((conv=>whnf);first|apply qza|apply qzb|apply qzc|apply qzd|apply qze|intro(_:Nat))
   refine .inr ((qcA _ hxw hb).mono fun v g3 hg3 hO=>?_)
   obtain⟨cs,T,rfl,hT⟩:=hO
   have hF:=qgA hT
   obtain⟨u1,u2,u3,u4,u5,u6,u7,u8,u9,u10,rfl⟩:=qGA hF
   have hE:IntKind.i64.wrap (w.epoch+1)=w.epoch+1:=wrE ⟨he0,he1⟩
   have hF2:=qiT hF (x:=IntKind.i64.wrap (w.epoch+1)) (qbI _)
   have hI2:HInv k {w with epoch:=IntKind.i64.wrap (w.epoch+1)} m 1000000:=by rw [hE];exact hI.on (by omega)
   have hM2:=qNA _ _ _ _ hg3 hxM
   have hb2:BgW 1000000 {w with epoch:=IntKind.i64.wrap (w.epoch+1)}:=hb
   have hsn2:SnW {w with epoch:=IntKind.i64.wrap (w.epoch+1)}:=hsn
   repeat((conv=>whnf);first|apply qza|apply qzb|apply qzc|apply qzd|apply qze|intro(_:Nat))
   refine .inr ((qUL _ hF2 hM2 hsn2 hb2 hsz).mono fun v g4 hg4 hO=>?_)
   obtain⟨csa,msa,rfl,hwa,hMa⟩:=hO
   obtain⟨t,hnx⟩:=hI2.step (by decide)
   have hkp:=hsW_kept (K:=1000000) (w:={w with epoch:=IntKind.i64.wrap (w.epoch+1)}) (m:=m)
   obtain⟨r1,r2,r3,r4,r5,r6,r7,r8,r9,r10,rfl⟩:=qGA hwa
   obtain⟨s1,s2,s3,s4,s5,s6,rfl⟩:=qXA hMa
   repeat((conv=>whnf);first|apply qza|apply qzb|apply qzc|apply qzd|apply qze|intro(_:Nat))
   conv=>whnf
   refine⟨fun hx=>absurd (beqT hx) t.acc,fun _=>?_⟩
   repeat((conv=>whnf);first|apply qza|apply qzb|apply qzc|apply qzd|apply qze|intro(_:Nat))
   conv=>whnf
   refine⟨fun hx=>absurd (t.thr.trans hth) (bneT hx),fun _=>?_⟩
   repeat((conv=>whnf);first|apply qza|apply qzb|apply qzc|apply qzd|apply qze|intro(_:Nat))
   conv=>whnf
   refine .inl ⟨_,(q1L _ hwa (q8D hsn2 hkp)).to (congrArg Value.bool t.right),?_⟩
   repeat((conv=>whnf);first|apply qza|apply qzb|apply qzc|apply qzd|apply qze|intro(_:Nat))
   conv=>whnf
   refine⟨fun h=>(nomatch h),fun _=>?_⟩
   repeat((conv=>whnf);first|apply qza|apply qzb|apply qzc|apply qzd|apply qze|intro(_:Nat))
   conv=>whnf
   refine⟨fun hx=>absurd hx (by rw [show(hsE {w with epoch:=IntKind.i64.wrap (w.epoch+1)} m).done=(hsM {w with epoch:=IntKind.i64.wrap (w.epoch+1)} m).done from t.done];simp),fun _=>?_⟩
   repeat((conv=>whnf);first|apply qza|apply qzb|apply qzc|apply qzd|apply qze|intro(_:Nat))
   have hnx':(hsM {w with epoch:=IntKind.i64.wrap (w.epoch+1)} m).done=true∨∃ k,HInv k (hsW {w with epoch:=IntKind.i64.wrap (w.epoch+1)} m) (hsM {w with epoch:=IntKind.i64.wrap (w.epoch+1)} m) 1000000:=by
    rcases hnx with ⟨_,h⟩|h
    ·exact .inr h
    ·exact .inl h
   refine And.intro (fun hd=>?_) (fun hd=>?_)
   case' refine_1 =>
    repeat((conv=>whnf);first|apply qza|apply qzb|apply qzc|apply qzd|apply qze|intro(_:Nat))
    conv=>whnf
    refine⟨fun hx=>absurd hx (by rw [show(hsE {w with epoch:=IntKind.i64.wrap (w.epoch+1)} m).answer=(hsM {w with epoch:=IntKind.i64.wrap (w.epoch+1)} m).answer from t.ans hd];simp),fun _=>?_⟩
   all_goals (
    repeat((conv=>whnf);first|apply qza|apply qzb|apply qzc|apply qzd|apply qze|intro(_:Nat))
    refine And.intro (fun hv=>?_) (fun hv=>?_))
   all_goals (try (
    obtain⟨hv1,hv2⟩:=t.ver (of_decide_eq_true hv)
    repeat((conv=>whnf);first|apply qza|apply qzb|apply qzc|apply qzd|apply qze|intro(_:Nat))
    conv=>whnf
    refine⟨fun hx=>absurd hv1 (bneT hx),fun _=>?_⟩
    repeat((conv=>whnf);first|apply qza|apply qzb|apply qzc|apply qzd|apply qze|intro(_:Nat))
    conv=>whnf
    refine⟨fun hx=>absurd (hx.symm.trans hv2) (by decide),fun _=>?_⟩))
   all_goals (
    repeat((conv=>whnf);first|apply qza|apply qzb|apply qzc|apply qzd|apply qze|intro(_:Nat))
    conv=>whnf
    refine fun fr u hu=>⟨⟨j+1,g4,hsW {w with epoch:=IntKind.i64.wrap (w.epoch+1)} m,r1,r2,r3,r4,r5,r6,r7,r8,r9,r10,hsM {w with epoch:=IntKind.i64.wrap (w.epoch+1)} m,s1,s2,s3,s4,s5,s6⟩,congrArg (fun z=>[Value.int .i64 z]) (show((j+1:Nat):Int)=IntKind.i64.wrap ((j:Int)+1) by rw [wr (x:=(j:Int)+1) (by unfold InR;omega)];omega),⟨hlj,GW.trans (GW.trans hxg hg3) hg4,hwa,hMa,hnx',q8D hsn2 hkp,hkp.1 hb2,by show SmO (hsM {w with epoch:=IntKind.i64.wrap (w.epoch+1)} m);unfold SmO;rw [q0R];exact hsz,by show(hsW {w with epoch:=IntKind.i64.wrap (w.epoch+1)} m).epoch≤1000000+((j+1:Nat):Int);rw [t.ep];show IntKind.i64.wrap (w.epoch+1)≤1000000+((j+1:Nat):Int);omega,by show(hsM {w with epoch:=IntKind.i64.wrap (w.epoch+1)} m).thread=th;rw [t.thr',hth]⟩,by show l.length-(j+1)<l.length-j;omega,hu.fit (by simp [fitL,Res.eqv,qDA,conc])⟩)
  ·repeat((conv=>whnf);first|apply qza|apply qzb|apply qzc|apply qzd|apply qze|intro(_:Nat))
   refine .inr ((qUL _ hxw hxM hsn hb hsz).mono fun v g4 hg4 hO=>?_)
   obtain⟨csa,msa,rfl,hwa,hMa⟩:=hO
   obtain⟨t,hnx⟩:=hI.step (by decide)
   have hkp:=hsW_kept (K:=1000000) (w:=w) (m:=m)
   obtain⟨r1,r2,r3,r4,r5,r6,r7,r8,r9,r10,rfl⟩:=qGA hwa
   obtain⟨s1,s2,s3,s4,s5,s6,rfl⟩:=qXA hMa
   repeat((conv=>whnf);first|apply qza|apply qzb|apply qzc|apply qzd|apply qze|intro(_:Nat))
   conv=>whnf
   refine⟨fun hx=>absurd (beqT hx) t.acc,fun _=>?_⟩
   repeat((conv=>whnf);first|apply qza|apply qzb|apply qzc|apply qzd|apply qze|intro(_:Nat))
   conv=>whnf
   refine⟨fun hx=>absurd (t.thr.trans hth) (bneT hx),fun _=>?_⟩
   repeat((conv=>whnf);first|apply qza|apply qzb|apply qzc|apply qzd|apply qze|intro(_:Nat))
   conv=>whnf
   refine .inl ⟨_,(q1L _ hwa (q8D hsn hkp)).to (congrArg Value.bool t.right),?_⟩
   repeat((conv=>whnf);first|apply qza|apply qzb|apply qzc|apply qzd|apply qze|intro(_:Nat))
   conv=>whnf
   refine⟨fun h=>(nomatch h),fun _=>?_⟩
   repeat((conv=>whnf);first|apply qza|apply qzb|apply qzc|apply qzd|apply qze|intro(_:Nat))
   conv=>whnf
   refine⟨fun hx=>absurd hx (by rw [show(hsE w m).done=(hsM w m).done from t.done];simp),fun _=>?_⟩
   repeat((conv=>whnf);first|apply qza|apply qzb|apply qzc|apply qzd|apply qze|intro(_:Nat))
   have hnx':(hsM w m).done=true∨∃ k,HInv k (hsW w m) (hsM w m) 1000000:=by
    rcases hnx with ⟨_,h⟩|h
    ·exact .inr h
    ·exact .inl h
   refine And.intro (fun hd=>?_) (fun hd=>?_)
   case' refine_1 =>
    repeat((conv=>whnf);first|apply qza|apply qzb|apply qzc|apply qzd|apply qze|intro(_:Nat))
    conv=>whnf
    refine⟨fun hx=>absurd hx (by rw [show(hsE w m).answer=(hsM w m).answer from t.ans hd];simp),fun _=>?_⟩
   all_goals (
    repeat((conv=>whnf);first|apply qza|apply qzb|apply qzc|apply qzd|apply qze|intro(_:Nat))
    refine And.intro (fun hv=>?_) (fun hv=>?_))
   all_goals (try (
    obtain⟨hv1,hv2⟩:=t.ver (of_decide_eq_true hv)
    repeat((conv=>whnf);first|apply qza|apply qzb|apply qzc|apply qzd|apply qze|intro(_:Nat))
    conv=>whnf
    refine⟨fun hx=>absurd hv1 (bneT hx),fun _=>?_⟩
    repeat((conv=>whnf);first|apply qza|apply qzb|apply qzc|apply qzd|apply qze|intro(_:Nat))
    conv=>whnf
    refine⟨fun hx=>absurd (hx.symm.trans hv2) (by decide),fun _=>?_⟩))
   all_goals (
    repeat((conv=>whnf);first|apply qza|apply qzb|apply qzc|apply qzd|apply qze|intro(_:Nat))
    conv=>whnf
    refine fun fr u hu=>⟨⟨j+1,g4,hsW w m,r1,r2,r3,r4,r5,r6,r7,r8,r9,r10,hsM w m,s1,s2,s3,s4,s5,s6⟩,congrArg (fun z=>[Value.int .i64 z]) (show((j+1:Nat):Int)=IntKind.i64.wrap ((j:Int)+1) by rw [wr (x:=(j:Int)+1) (by unfold InR;omega)];omega),⟨hlj,GW.trans hxg hg4,hwa,hMa,hnx',q8D hsn hkp,hkp.1 hb,by show SmO (hsM w m);unfold SmO;rw [q0R];exact hsz,by show(hsW w m).epoch≤1000000+((j+1:Nat):Int);rw [t.ep];omega,by show(hsM w m).thread=th;rw [t.thr',hth]⟩,by show l.length-(j+1)<l.length-j;omega,hu.fit (by simp [fitL,Res.eqv,qDA,conc])⟩))
/- What came in of this seat's types is plain data. -/
open Go.Proofs.YthonngjhelcpeaaGreat.Sx
section
variable {H:Type} {enc:TypeId×Value→H} {W:World}
theorem qwQ:Rds enc Tryz.prog W qcL qrQ:=q4V (tS:=qxC) (tI:=qjA) (by kernel_rfl) (by kernel_rfl) (by kernel_rfl) (by kernel_rfl)
theorem qYP:Rds enc Tryz.prog W q2E qSP:=qwU (tS:=qxC) (by kernel_rfl) (by kernel_rfl) (by kernel_rfl)
theorem qVI:Rds enc Tryz.prog W qtA qlB:=qgS (tS:=qxC) (tI:=qjA) (tL:=qLN) (tB:=qeI) (by kernel_rfl) (by kernel_rfl) (by kernel_rfl) (by kernel_rfl) (by kernel_rfl) (by kernel_rfl) (by kernel_rfl)
theorem qDO:Rds enc Tryz.prog W q5D qUD:=by
 intro fuel cs x h
 obtain⟨a,b,d,rfl,⟨l0,h0⟩,⟨l1,h1⟩,l2,h2⟩:=qpR (t0:=q0K) (t1:=qbL) (t2:=qYF) (e0:=qxC) (e1:=q2E) (e2:=qtA) (z0:=1) (z1:=4) (z2:=4)
  (by kernel_rfl) (by kernel_rfl) (by kernel_rfl) (by kernel_rfl) (by kernel_rfl) (by kernel_rfl) (by kernel_rfl) (by kernel_rfl) (by omega) (by omega) (by omega) (qgF (by kernel_rfl)) qYP qVI h
 exact⟨⟨l0,l1,l2⟩,a,b,d,rfl,h0,h1,h2⟩
end
/- What came in of a snapshot is plain data. -/
open Go.Proofs.YthonngjhelcpeaaGreat.Sx
section
variable {H:Type} {enc:TypeId×Value→H} {W:World}
theorem qvQ:Rds enc Tryz.prog W qyA qmJ:=by
 intro fuel cs x h
 obtain⟨a,b,d,rfl,⟨l0,h0⟩,⟨l1,h1⟩,l2,h2⟩:=qpR (t0:=q0K) (t1:=qjM) (t2:=qYF) (e0:=qxC) (e1:=qcL) (e2:=qtA) (z0:=1) (z1:=4) (z2:=4)
  (by kernel_rfl) (by kernel_rfl) (by kernel_rfl) (by kernel_rfl) (by kernel_rfl) (by kernel_rfl) (by kernel_rfl) (by kernel_rfl) (by omega) (by omega) (by omega) (qgF (by kernel_rfl)) qwQ qVI h
 exact⟨⟨l0,l1,l2⟩,a,b,d,rfl,h0,h1,h2⟩
end
/- What came in of worlds and machines is plain data. -/
open Go.Proofs.YthonngjhelcpeaaGreat.Sx
section
variable {H:Type} {enc:TypeId×Value→H} {W:World}
theorem qCO:Rds enc Tryz.prog W qfA qvB:=by
 intro fuel cs x h
 obtain⟨hl,hg⟩:=qAL (l:=[(0,1,qxC),(1,1,qeI),(2,1,qjA),(3,1,qeI)]) (by kernel_rfl) h
 rw [show Tryz.prog.cellsOf qfA=4 by kernel_rfl] at hl
 match cs,hl with
 | [a,b,c,d],_ =>
  obtain⟨s0,e0⟩:=(qgF (by kernel_rfl)).fld (hg 0 _ _ _ rfl)
  obtain⟨s1,e1⟩:=(qeK (by kernel_rfl)).fld (hg 1 _ _ _ rfl)
  obtain⟨s2,e2,w2⟩:=(qkB (by kernel_rfl)).fld (hg 2 _ _ _ rfl)
  obtain⟨s3,e3⟩:=(qeK (by kernel_rfl)).fld (hg 3 _ _ _ rfl)
  cases e0;cases e1;cases e2;cases e3
  exact⟨⟨s0,s1,s2,s3⟩,rfl,w2⟩
theorem quM:Rds enc Tryz.prog W qIC qaB:=by
 intro fuel cs x h
 obtain⟨hl,hg⟩:=qAL (l:=[(0,1,qjA),(1,1,qjA),(2,1,qeI)]) (by kernel_rfl) h
 rw [show Tryz.prog.cellsOf qIC=3 by kernel_rfl] at hl
 match cs,hl with
 | [a,b,c],_ =>
  obtain⟨s0,e0,w0⟩:=(qkB (by kernel_rfl)).fld (hg 0 _ _ _ rfl)
  obtain⟨s1,e1,w1⟩:=(qkB (by kernel_rfl)).fld (hg 1 _ _ _ rfl)
  obtain⟨s2,e2⟩:=(qeK (by kernel_rfl)).fld (hg 2 _ _ _ rfl)
  cases e0;cases e1;cases e2
  exact⟨⟨s0,s1,s2⟩,rfl,w0,w1⟩
theorem qnS:RdsW enc Tryz.prog W q2A rEn:=by
 intro fuel cs x h hs
 obtain⟨hl,hg⟩:=qiO (l:=[(0,1,qLE),(1,1,qME),(2,1,qjA)]) (by kernel_rfl) h hs
 rw [show Tryz.prog.cellsOf q2A=3 by kernel_rfl] at hl
 match cs,hl with
 | [a,b,c],_ =>
  obtain⟨s0,e0,w0⟩:=(qjJ (by kernel_rfl)).fld (tr1 (hg 0 _ _ _ rfl))
  obtain⟨s1,v,e1,h1,hb⟩:=(qnR (t:=qME) (e:=qjA) (sz:=1) (by kernel_rfl) (by kernel_rfl) (qkB (by kernel_rfl)).w).fld (hg 1 _ _ _ rfl)
  obtain⟨s2,e2,w2⟩:=(qkB (by kernel_rfl)).fld (tr1 (hg 2 _ _ _ rfl))
  cases e0;cases e1;cases e2
  refine⟨⟨s0,s1,s2⟩,⟨_,rfl,w0,w2,h1⟩,?_⟩
  rw [show Tryz.prog.bytesOf qjA=8 by kernel_rfl] at hb
  unfold reachBytes at hb
  show s1.length≤17592186044416
  omega
theorem qZP:RdsW enc Tryz.prog W qmA rGr:=by
 intro fuel cs x h hs
 obtain⟨hl,hg⟩:=qiO (l:=[(0,1,qLE),(1,1,qXJ)]) (by kernel_rfl) h hs
 rw [show Tryz.prog.cellsOf qmA=2 by kernel_rfl] at hl
 match cs,hl with
 | [a,b],_ =>
  obtain⟨s0,e0,w0⟩:=(qjJ (by kernel_rfl)).fld (tr1 (hg 0 _ _ _ rfl))
  obtain⟨s1,v,e1,h1⟩:=(qzV (t:=qXJ) (e:=q2A) (sz:=3) (by kernel_rfl) (by kernel_rfl) qnS).fld (hg 1 _ _ _ rfl)
  cases e0;cases e1
  exact⟨⟨s0,s1⟩,_,rfl,w0,h1⟩
theorem qtM:RdsW enc Tryz.prog W qKA rVe:=by
 intro fuel cs x h hs
 obtain⟨hl,hg⟩:=qiO (l:=[(0,3,qyA),(3,1,q7G),(4,1,qeI)]) (by kernel_rfl) h hs
 rw [show Tryz.prog.cellsOf qKA=5 by kernel_rfl] at hl
 match cs,hl with
 | [a,b,c,d,e],_ =>
  obtain⟨s0,e0⟩:=(qvQ (enc:=enc)).fld (tr1 (hg 0 _ _ _ rfl))
  obtain⟨s1,v,e1,h1⟩:=(qzV (t:=q7G) (e:=qmA) (sz:=2) (by kernel_rfl) (by kernel_rfl) qZP).fld (hg 1 _ _ _ rfl)
  obtain⟨s2,e2⟩:=(qeK (by kernel_rfl)).fld (tr1 (hg 2 _ _ _ rfl))
  cases e1;cases e2
  exact⟨⟨s0,s1,s2⟩,_,_,_,_,rfl,e0,h1⟩
theorem q3W:Rds enc Tryz.prog W qqB rRow:=by
 intro fuel cs x h
 obtain⟨l,v,rfl,h1⟩:=(qbD (t:=qqB) (e:=qLE) (sz:=1) (by kernel_rfl) (by kernel_rfl) (by omega) (qjJ (by kernel_rfl))) fuel cs x h
 exact⟨l,_,rfl,h1⟩
theorem qUB:RdsW enc Tryz.prog W qMA rWo:=by
 intro fuel cs x h hs
 obtain⟨hl,hg⟩:=qiO (l:=[(0,1,qjA),(1,1,qjA),(2,1,qjA),(3,1,qME),(4,1,qWF),(5,1,qjG),(6,1,qSI),(7,1,qXF)]) (by kernel_rfl) h hs
 rw [show Tryz.prog.cellsOf qMA=8 by kernel_rfl] at hl
 match cs,hl with
 | [c0,c1,c2,c3,c4,c5,c6,c7],_ =>
  obtain⟨s0,e0,w0⟩:=(qkB (by kernel_rfl)).fld (tr1 (hg 0 _ _ _ rfl))
  obtain⟨s1,e1,w1⟩:=(qkB (by kernel_rfl)).fld (tr1 (hg 1 _ _ _ rfl))
  obtain⟨s2,e2,w2⟩:=(qkB (by kernel_rfl)).fld (tr1 (hg 2 _ _ _ rfl))
  obtain⟨s3,v3,e3,h3⟩:=(qbD (t:=qME) (e:=qjA) (sz:=1) (by kernel_rfl) (by kernel_rfl) (by omega) (qkB (by kernel_rfl))).fld (tr1 (hg 3 _ _ _ rfl))
  obtain⟨s4,v4,e4,h4⟩:=(qzV (t:=qWF) (e:=qKA) (sz:=5) (by kernel_rfl) (by kernel_rfl) qtM).fld (hg 4 _ _ _ rfl)
  obtain⟨s5,v5,e5,h5⟩:=(qbD (t:=qjG) (e:=qfA) (sz:=4) (by kernel_rfl) (by kernel_rfl) (by omega) qCO).fld (tr1 (hg 5 _ _ _ rfl))
  obtain⟨s6,v6,e6,h6⟩:=(qbD (t:=qSI) (e:=qqB) (sz:=1) (by kernel_rfl) (by kernel_rfl) (by omega) q3W).fld (tr1 (hg 6 _ _ _ rfl))
  obtain⟨s7,v7,e7,h7⟩:=(qbD (t:=qXF) (e:=qIC) (sz:=3) (by kernel_rfl) (by kernel_rfl) (by omega) quM).fld (tr1 (hg 7 _ _ _ rfl))
  cases e0;cases e1;cases e2;cases e3;cases e4;cases e5;cases e6;cases e7
  exact⟨⟨s0,s1,s2,s3,s4,s5,s6,s7⟩,_,_,_,_,_,rfl,⟨w0,w1,w2⟩,h3,h4,h5,h6,h7⟩
theorem op_c6:Rds enc Tryz.prog W qRA fun _ cs (c:C6)=>cs=c.cs∧c.ok:=rd_c6 (e:=qLE) (by kernel_rfl) (by kernel_rfl) (by kernel_rfl) (by kernel_rfl)
theorem qEO:Rds enc Tryz.prog W q6D rAns:=by
 intro fuel cs x h
 obtain⟨hl,hg⟩:=qAL (l:=[(0,1,qjA),(1,1,qjA),(2,1,qjA),(3,1,qjA),(4,1,qjA),(5,1,qjA),(6,1,qjA),(7,6,qRA)]) (by kernel_rfl) h
 rw [show Tryz.prog.cellsOf q6D=13 by kernel_rfl] at hl
 match cs,hl with
 | [c0,c1,c2,c3,c4,c5,c6,d0,d1,d2,d3,d4,d5],_ =>
  obtain⟨s0,e0,w0⟩:=(qkB (by kernel_rfl)).fld (hg 0 _ _ _ rfl)
  obtain⟨s1,e1,w1⟩:=(qkB (by kernel_rfl)).fld (hg 1 _ _ _ rfl)
  obtain⟨s2,e2,w2⟩:=(qkB (by kernel_rfl)).fld (hg 2 _ _ _ rfl)
  obtain⟨s3,e3,w3⟩:=(qkB (by kernel_rfl)).fld (hg 3 _ _ _ rfl)
  obtain⟨s4,e4,w4⟩:=(qkB (by kernel_rfl)).fld (hg 4 _ _ _ rfl)
  obtain⟨s5,e5,w5⟩:=(qkB (by kernel_rfl)).fld (hg 5 _ _ _ rfl)
  obtain⟨s6,e6,w6⟩:=(qkB (by kernel_rfl)).fld (hg 6 _ _ _ rfl)
  obtain⟨s7,e7,w7⟩:=(op_c6 (enc:=enc)).fld (hg 7 _ _ _ rfl)
  cases e0;cases e1;cases e2;cases e3;cases e4;cases e5;cases e6;cases e7
  exact⟨⟨s0,s1,s2,s3,s4,s5,s6,s7⟩,rfl,⟨w0,w1,w2,w3,w4,w5,w6,w7⟩⟩
theorem q1C:Rds enc Tryz.prog W qYJ fun g cs (o:OpD)=>∃ a b d,cs=[.int .i64 o.kind,.string o.listen,.string o.host,.string o.path,.int .i64 o.d0,.int .i64 o.d1,.int .i64 o.n,a,b,d]∧(InR o.kind∧InR o.d0∧InR o.d1∧InR o.n)∧qUD g [a,b,d] o.config:=by
 intro fuel cs x h
 obtain⟨hl,hg⟩:=qAL (l:=[(0,1,qjA),(1,1,qxC),(2,1,qxC),(3,1,qxC),(4,1,qjA),(5,1,qjA),(6,1,qjA),(7,3,q5D)]) (by kernel_rfl) h
 rw [show Tryz.prog.cellsOf qYJ=10 by kernel_rfl] at hl
 match cs,hl with
 | [c0,c1,c2,c3,c4,c5,c6,d0,d1,d2],_ =>
  obtain⟨s0,e0,w0⟩:=(qkB (by kernel_rfl)).fld (hg 0 _ _ _ rfl)
  obtain⟨s1,e1⟩:=(qgF (by kernel_rfl)).fld (hg 1 _ _ _ rfl)
  obtain⟨s2,e2⟩:=(qgF (by kernel_rfl)).fld (hg 2 _ _ _ rfl)
  obtain⟨s3,e3⟩:=(qgF (by kernel_rfl)).fld (hg 3 _ _ _ rfl)
  obtain⟨s4,e4,w4⟩:=(qkB (by kernel_rfl)).fld (hg 4 _ _ _ rfl)
  obtain⟨s5,e5,w5⟩:=(qkB (by kernel_rfl)).fld (hg 5 _ _ _ rfl)
  obtain⟨s6,e6,w6⟩:=(qkB (by kernel_rfl)).fld (hg 6 _ _ _ rfl)
  obtain⟨s7,e7⟩:=(qDO (enc:=enc)).fld (hg 7 _ _ _ rfl)
  cases e0;cases e1;cases e2;cases e3;cases e4;cases e5;cases e6
  exact⟨⟨s0,s1,s2,s3,s4,s5,s6,s7⟩,_,_,_,rfl,⟨w0,w4,w5,w6⟩,e7⟩
end
end Go.Proofs.YthonngjhelcpeaaGreat
