/- Worlds: what is too much to be looked at. -/
import Derived.Test.YtkbbljngpglnkaaLW9e
import Derived.Test.YtkbbljngpglnkaaPl
set_option linter.unusedVariables false
set_option linter.unusedSimpArgs false
namespace Go.Proofs.Ytkbbljngpglnkaa
open Go.Proofs.Ytkbbljngpglnkaa.Sx Go.RowKit
set_option maxHeartbeats 16000000
set_option maxRecDepth 100000
theorem qYQ {l:List Rule} (hb:bigR l=false):l.length≤50∧∀ r∈l,r.host.size≤100∧r.path.size≤100:=by
 simp only [bigR,Bool.or_eq_false_iff,decide_eq_false_iff_not] at hb
 refine⟨by omega,fun r hr=>?_⟩
 have:=List.any_eq_false.1 hb.2 r hr
 simp only [qyJ,Bool.or_eq_true,decide_eq_true_eq] at this
 omega
theorem qAP (g:GW) {cs:List Value} {s:Snap} (hs:qwH g cs s):Ok Try.prog qrE [.agg ⟨cs⟩] g fun v _=>∃ b,v=.bool b∧(b=false→SnS s):=by
 obtain⟨a,b,d,rfl,hl,hr,hk⟩:=hs
 obtain⟨oa,ca,rfl,a1,a2,a0,hl1⟩:=id hl
 obtain⟨ob,cb,rfl,b1,b2,b0,hr1⟩:=id hr
 obtain⟨od,cd,rfl,d1,d2,d0,hk1⟩:=id hk
 exact Ok.of_fn hm noT 0 qpE (args:=[.v (.agg ⟨[.slice oa s.listens.length ca,.slice ob s.rules.length cb,.slice od s.clusters.length cd]⟩)]) (by
  repeat((conv=>whnf);first|apply qza|apply qzb|apply qzc|apply qzd|apply qze|intro(_:Nat))
  conv=>whnf
  refine⟨fun z1=>?_,fun z1=>?_⟩
  ·repeat((conv=>whnf);first|apply qza|apply qzb|apply qzc|apply qzd|apply qze|intro(_:Nat))
   conv=>whnf
   intro g2 hg
   exact⟨_,rfl,fun h=>by cases h⟩
  repeat((conv=>whnf);first|apply qza|apply qzb|apply qzc|apply qzd|apply qze|intro(_:Nat))
  conv=>whnf
  refine⟨fun z2=>?_,fun z2=>?_⟩
  ·repeat((conv=>whnf);first|apply qza|apply qzb|apply qzc|apply qzd|apply qze|intro(_:Nat))
   conv=>whnf
   intro g2 hg
   exact⟨_,rfl,fun h=>by cases h⟩
  repeat((conv=>whnf);first|apply qza|apply qzb|apply qzc|apply qzd|apply qze|intro(_:Nat))
  conv=>whnf
  refine .inl ⟨_,q8P _ hr,?_⟩
  repeat((conv=>whnf);first|apply qza|apply qzb|apply qzc|apply qzd|apply qze|intro(_:Nat))
  conv=>whnf
  refine⟨fun z3=>?_,fun z3=>?_⟩
  ·repeat((conv=>whnf);first|apply qza|apply qzb|apply qzc|apply qzd|apply qze|intro(_:Nat))
   conv=>whnf
   intro g2 hg
   exact⟨_,rfl,fun h=>by cases h⟩
  have hS:SnS s:=by
   obtain⟨k1,k2⟩:=qYQ z3
   exact⟨by omega,k2⟩
  repeat((conv=>whnf);first|apply qza|apply qzb|apply qzc|apply qzd|apply qze|intro(_:Nat))
  conv=>whnf
  refine⟨Nat,fun k=>[.v (.int .i64 k)],fun _=>⟨g,_,_,_⟩,fun k=>k≤s.clusters.length,fun k=>s.clusters.length-k,qSA 0 rfl (Nat.zero_le _) rfl,?_⟩
  intro k hk
  repeat((conv=>whnf);first|apply qza|apply qzb|apply qzc|apply qzd|apply qze|intro(_:Nat))
  conv=>whnf
  refine⟨fun hlt=>?_,fun hlt=>?_⟩
  ·have h':k<s.clusters.length:=by have:=of_decide_eq_true hlt;omega
   obtain⟨x,hx⟩:=qDA h'
   obtain⟨a,rfl,ec,hec,⟨hv,rfl,_,_,⟨oh,ch,rfl,_⟩⟩,hc⟩:=hk1 k x hx
   repeat((conv=>whnf);first|apply qza|apply qzb|apply qzc|apply qzd|apply qze|intro(_:Nat))
   conv=>whnf
   refine⟨a,rfl,⟨by omega,by omega⟩,?_⟩
   conv=>whnf
   refine⟨_,hc 3 _ rfl,?_⟩
   repeat((conv=>whnf);first|apply qza|apply qzb|apply qzc|apply qzd|apply qze|intro(_:Nat))
   conv=>whnf
   refine⟨fun y1=>?_,fun y1=>?_⟩
   ·repeat((conv=>whnf);first|apply qza|apply qzb|apply qzc|apply qzd|apply qze|intro(_:Nat))
    conv=>whnf
    intro g2 hg
    exact⟨_,rfl,fun h=>by cases h⟩
   repeat((conv=>whnf);first|apply qza|apply qzb|apply qzc|apply qzd|apply qze|intro(_:Nat))
   conv=>whnf
   refine⟨a,rfl,⟨by omega,by omega⟩,?_⟩
   conv=>whnf
   refine⟨_,hc 0 _ rfl,?_⟩
   repeat((conv=>whnf);first|apply qza|apply qzb|apply qzc|apply qzd|apply qze|intro(_:Nat))
   conv=>whnf
   refine⟨fun y2=>?_,fun y2=>?_⟩
   ·repeat((conv=>whnf);first|apply qza|apply qzb|apply qzc|apply qzd|apply qze|intro(_:Nat))
    conv=>whnf
    intro g2 hg
    exact⟨_,rfl,fun h=>by cases h⟩
   repeat((conv=>whnf);first|apply qza|apply qzb|apply qzc|apply qzd|apply qze|intro(_:Nat))
   conv=>whnf
   refine fun fr w hw=>⟨k+1,congrArg (fun z=>[Value.int .i64 z]) (wr1 h' d1 d2).symm,h',dec h',?_⟩
   exact hw.fit (by simp [fitL,Res.eqv,qAA,conc])
  ·repeat((conv=>whnf);first|apply qza|apply qzb|apply qzc|apply qzd|apply qze|intro(_:Nat))
   conv=>whnf
   intro g2 hg
   exact⟨_,rfl,fun _=>hS⟩)
theorem qBP (g:GW) {v:Value} {l:List (List Int)} (hl:rSl 1 rRow g v l):Ok Try.prog qbG [v] g fun v _=>∃ b,v=.bool b∧(b=false→l.length≤60∧∀ r∈l,r.length≤60) :=
 Ok.of_fn hm noT 0 qNG (args:=[.v v]) (by
  obtain⟨oa,cap,rfl,h1,h2,h0,hr⟩:=hl
  repeat((conv=>whnf);first|apply qza|apply qzb|apply qzc|apply qzd|apply qze|intro(_:Nat))
  conv=>whnf
  refine⟨Nat,fun k=>[.v (.int .i64 k)],fun _=>⟨g,_,_,_⟩,fun k=>k≤l.length∧∀ r∈l.take k,r.length≤60,fun k=>l.length-k,qSA 0 rfl ⟨Nat.zero_le _,by simp⟩ rfl,?_⟩
  rintro k ⟨hk,hp⟩
  repeat((conv=>whnf);first|apply qza|apply qzb|apply qzc|apply qzd|apply qze|intro(_:Nat))
  conv=>whnf
  refine⟨fun hlt=>?_,fun hlt=>?_⟩
  ·have h':k<l.length:=by have:=of_decide_eq_true hlt;omega
   obtain⟨x,hx⟩:=qDA h'
   obtain⟨x1,x2⟩:=List.getElem?_eq_some_iff.1 hx
   obtain⟨a,rfl,ec,hec,⟨n,rfl,⟨ox,cx,rfl,_⟩⟩,hc⟩:=hr k x hx
   repeat((conv=>whnf);first|apply qza|apply qzb|apply qzc|apply qzd|apply qze|intro(_:Nat))
   conv=>whnf
   refine⟨fun y1=>?_,fun y1=>?_⟩
   ·repeat((conv=>whnf);first|apply qza|apply qzb|apply qzc|apply qzd|apply qze|intro(_:Nat))
    conv=>whnf
    refine⟨a,rfl,⟨by omega,by omega⟩,?_⟩
    conv=>whnf
    refine⟨_,hc 0 _ rfl,?_⟩
    repeat((conv=>whnf);first|apply qza|apply qzb|apply qzc|apply qzd|apply qze|intro(_:Nat))
    conv=>whnf
    refine⟨fun y2=>?_,fun y2=>?_⟩
    ·repeat((conv=>whnf);first|apply qza|apply qzb|apply qzc|apply qzd|apply qze|intro(_:Nat))
     conv=>whnf
     intro g2 hg
     exact⟨_,rfl,fun h=>by cases h⟩
    have y2':=of_decide_eq_false y2
    repeat((conv=>whnf);first|apply qza|apply qzb|apply qzc|apply qzd|apply qze|intro(_:Nat))
    conv=>whnf
    refine fun fr w hw=>⟨k+1,congrArg (fun z=>[Value.int .i64 z]) (wr1 h' h1 h2).symm,⟨h',fun r hr=>?_⟩,dec h',?_⟩
    ·rw [List.take_succ_eq_append_getElem x1,x2] at hr
     rcases List.mem_append.1 hr with hr|hr
     ·exact hp r hr
     ·simp at hr;subst hr;omega
    ·exact hw.fit (by simp [fitL,Res.eqv,qAA,conc])
   ·have y1':=of_decide_eq_false y1
    repeat((conv=>whnf);first|apply qza|apply qzb|apply qzc|apply qzd|apply qze|intro(_:Nat))
    conv=>whnf
    intro g2 hg
    exact⟨_,rfl,fun h=>absurd h (by simp;omega)⟩
  ·have hkL:=of_decide_eq_false hlt
   rw [List.take_of_length_le (by omega)] at hp
   repeat((conv=>whnf);first|apply qza|apply qzb|apply qzc|apply qzd|apply qze|intro(_:Nat))
   conv=>whnf
   intro g2 hg
   exact⟨_,rfl,fun h=>⟨by have:=of_decide_eq_false h;omega,hp⟩⟩)
theorem qZP {l:List Version} {k:Nat} {x:Version} (hx:l[k]?=some x) {P:Version→Prop} (h:∀ v∈l.take k,P v) (h':P x):∀ v∈l.take (k+1),P v:=fun v hv=>by
 obtain⟨x1,x2⟩:=List.getElem?_eq_some_iff.1 hx
 rw [List.take_succ_eq_append_getElem x1,x2] at hv
 rcases List.mem_append.1 hv with hv|hv
 ·exact h v hv
 ·simp at hv;subst hv;exact h'
theorem q9O (g:GW) {cs:List Value} {w:Wd} (hw:rWo g cs w):Ok Try.prog qaG [.agg ⟨cs⟩] g fun v _=>∃ b,v=.bool b∧(b=false→BgW 60 w∧SnW w):=by
 obtain⟨a,b,c,d,e,rfl,⟨i1,i2,i3⟩,hP,hV,hL,hC,hR⟩:=hw
 obtain⟨oa,ca,rfl,a1,a2,a0,hP1⟩:=id hP
 obtain⟨ob,cb,rfl,b1,b2,b0,hV1⟩:=id hV
 obtain⟨oc,cc,rfl,c1,c2,c0,hL1⟩:=id hL
 obtain⟨od,cd,rfl,d1,d2,d0,hC1⟩:=id hC
 obtain⟨oe,ce,rfl,e1,e2,e0,hR1⟩:=id hR
 exact Ok.of_fn hm noT 0 qMG (args:=[.v (.agg ⟨wQ w oa ca ob cb oc cc od cd oe ce⟩)]) (by
  repeat((conv=>whnf);first|apply qza|apply qzb|apply qzc|apply qzd|apply qze|intro(_:Nat))
  conv=>whnf
  refine⟨fun z1=>?_,fun z1=>?_⟩
  ·repeat((conv=>whnf);first|apply qza|apply qzb|apply qzc|apply qzd|apply qze|intro(_:Nat))
   conv=>whnf
   intro g2 hg
   exact⟨_,rfl,fun h=>by cases h⟩
  repeat((conv=>whnf);first|apply qza|apply qzb|apply qzc|apply qzd|apply qze|intro(_:Nat))
  conv=>whnf
  refine⟨fun z2=>?_,fun z2=>?_⟩
  ·repeat((conv=>whnf);first|apply qza|apply qzb|apply qzc|apply qzd|apply qze|intro(_:Nat))
   conv=>whnf
   intro g2 hg
   exact⟨_,rfl,fun h=>by cases h⟩
  repeat((conv=>whnf);first|apply qza|apply qzb|apply qzc|apply qzd|apply qze|intro(_:Nat))
  conv=>whnf
  refine⟨fun z3=>?_,fun z3=>?_⟩
  ·repeat((conv=>whnf);first|apply qza|apply qzb|apply qzc|apply qzd|apply qze|intro(_:Nat))
   conv=>whnf
   intro g2 hg
   exact⟨_,rfl,fun h=>by cases h⟩
  repeat((conv=>whnf);first|apply qza|apply qzb|apply qzc|apply qzd|apply qze|intro(_:Nat))
  refine .inr ((qBP _ hC).mono fun v ga ka hB=>?_)
  obtain⟨bb,rfl,hB⟩:=hB
  repeat((conv=>whnf);first|apply qza|apply qzb|apply qzc|apply qzd|apply qze|intro(_:Nat))
  conv=>whnf
  refine⟨fun z4=>?_,fun z4=>?_⟩
  ·repeat((conv=>whnf);first|apply qza|apply qzb|apply qzc|apply qzd|apply qze|intro(_:Nat))
   conv=>whnf
   intro g2 hg
   exact⟨_,rfl,fun h=>by cases h⟩
  repeat((conv=>whnf);first|apply qza|apply qzb|apply qzc|apply qzd|apply qze|intro(_:Nat))
  conv=>whnf
  refine⟨fun z5=>?_,fun z5=>?_⟩
  ·repeat((conv=>whnf);first|apply qza|apply qzb|apply qzc|apply qzd|apply qze|intro(_:Nat))
   conv=>whnf
   intro g2 hg
   exact⟨_,rfl,fun h=>by cases h⟩
  have k1:=of_decide_eq_false z1
  have k2:=of_decide_eq_false z2
  have k3:=of_decide_eq_false z3
  have k4:=hB z4
  have k5:=of_decide_eq_false z5
  clear z1 z2 z3 z4 z5 hB
  repeat((conv=>whnf);first|apply qza|apply qzb|apply qzc|apply qzd|apply qze|intro(_:Nat))
  rename_i q0
  conv=>whnf
  refine⟨Nat×GW,fun (k,_)=>[.v (.int .i64 k)],fun (_,g')=>⟨g',[.blk 0 q0 qIA [.v (.int .i64 w.epoch),.v (.int .i64 w.current),.v (.int .i64 w.lock),.v (.slice oa w.pins.length ca),.v (.slice ob w.versions.length cb),.v (.slice oc w.listens.length cc),.v (.slice od w.counts.length cd),.v (.slice oe w.limbo.length ce)]],10,g.w.heap.size⟩,fun (k,g')=>k≤w.versions.length∧g≤g'∧(∀ v∈w.versions.take k,BgV 60 v∧SnS v.snap),fun (k,_)=>w.versions.length-k,fun fr w' hw=>⟨(0,ga),rfl,⟨Nat.zero_le _,ka,by simp⟩,hw.fit (by simp [fitL,Res.eqv,qAA,conc])⟩,?_⟩
  rintro⟨k,g'⟩ ⟨hk,hgg,hp⟩
  repeat((conv=>whnf);first|apply qza|apply qzb|apply qzc|apply qzd|apply qze|intro(_:Nat))
  conv=>whnf
  refine⟨fun hlt=>?_,fun hlt=>?_⟩
  ·have h':k<w.versions.length:=by have:=of_decide_eq_true hlt;omega
   obtain⟨x,hx⟩:=qDA h'
   obtain⟨a,rfl,ec,hec,⟨va,vb,vd,vn,rfl,hS,hG⟩,hc⟩:=hV1 k x hx
   have hS0:=hS
   obtain⟨_,_,_,hee,⟨sa,ta,rfl,_⟩,⟨sb,tb,rfl,_⟩,⟨sd,td,rfl,_⟩⟩:=hS
   cases hee
   obtain⟨on,cn,rfl,n1,n2,n0,hG1⟩:=id hG
   repeat((conv=>whnf);first|apply qza|apply qzb|apply qzc|apply qzd|apply qze|intro(_:Nat))
   conv=>whnf
   refine⟨a,rfl,⟨by omega,by omega⟩,?_⟩
   conv=>whnf
   refine⟨_,⟨rfl,hc.mono hgg⟩,?_⟩
   repeat((conv=>whnf);first|apply qza|apply qzb|apply qzc|apply qzd|apply qze|intro(_:Nat))
   refine .inr ((qAP _ (qaC _ _ _ _ hgg hS0)).mono fun v gb kb hB=>?_)
   obtain⟨bb,rfl,hB⟩:=hB
   repeat((conv=>whnf);first|apply qza|apply qzb|apply qzc|apply qzd|apply qze|intro(_:Nat))
   conv=>whnf
   refine⟨fun y1=>?_,fun y1=>?_⟩
   ·repeat((conv=>whnf);first|apply qza|apply qzb|apply qzc|apply qzd|apply qze|intro(_:Nat))
    conv=>whnf
    intro g2 hg
    exact⟨_,rfl,fun h=>by cases h⟩
   repeat((conv=>whnf);first|apply qza|apply qzb|apply qzc|apply qzd|apply qze|intro(_:Nat))
   conv=>whnf
   refine⟨fun y2=>?_,fun y2=>?_⟩
   ·repeat((conv=>whnf);first|apply qza|apply qzb|apply qzc|apply qzd|apply qze|intro(_:Nat))
    conv=>whnf
    intro g2 hg
    exact⟨_,rfl,fun h=>by cases h⟩
   have y2':=of_decide_eq_false y2
   have hSn:=hB y1
   have hgb:=GW.trans hgg kb
   repeat((conv=>whnf);first|apply qza|apply qzb|apply qzc|apply qzd|apply qze|intro(_:Nat))
   rename_i q1
   conv=>whnf
   refine⟨Nat,fun j=>[.v (.int .i64 j)],fun _=>⟨gb,_,_,_⟩,fun j=>j≤x.groups.length∧∀ y∈x.groups.take j,BgG 60 y,fun j=>x.groups.length-j,qSA 0 rfl ⟨Nat.zero_le _,by simp⟩ rfl,?_⟩
   rintro j ⟨hj,hq⟩
   repeat((conv=>whnf);first|apply qza|apply qzb|apply qzc|apply qzd|apply qze|intro(_:Nat))
   conv=>whnf
   refine⟨fun hlt2=>?_,fun hlt2=>?_⟩
   ·have h2:j<x.groups.length:=by have:=of_decide_eq_true hlt2;omega
    obtain⟨y,hy⟩:=qDA h2
    obtain⟨y1',y2''⟩:=List.getElem?_eq_some_iff.1 hy
    obtain⟨a2',rfl,ec2,hec2,⟨nn,rfl,_,⟨oy,cy,rfl,_⟩⟩,hc2⟩:=hG1 j y hy
    repeat((conv=>whnf);first|apply qza|apply qzb|apply qzc|apply qzd|apply qze|intro(_:Nat))
    conv=>whnf
    refine⟨a2',rfl,⟨by omega,by omega⟩,?_⟩
    conv=>whnf
    refine⟨_,hc2.mono hgb 1 _ rfl,?_⟩
    repeat((conv=>whnf);first|apply qza|apply qzb|apply qzc|apply qzd|apply qze|intro(_:Nat))
    conv=>whnf
    refine⟨fun y3=>?_,fun y3=>?_⟩
    ·repeat((conv=>whnf);first|apply qza|apply qzb|apply qzc|apply qzd|apply qze|intro(_:Nat))
     conv=>whnf
     intro g2 hg
     exact⟨_,rfl,fun h=>by cases h⟩
    have y3':=of_decide_eq_false y3
    repeat((conv=>whnf);first|apply qza|apply qzb|apply qzc|apply qzd|apply qze|intro(_:Nat))
    conv=>whnf
    refine fun fr w' hw=>⟨j+1,congrArg (fun z=>[Value.int .i64 z]) (wr1 h2 n1 n2).symm,⟨h2,fun z hz=>?_⟩,dec h2,?_⟩
    ·rw [List.take_succ_eq_append_getElem y1',y2''] at hz
     rcases List.mem_append.1 hz with hz|hz
     ·exact hq z hz
     ·simp at hz;subst hz;unfold BgG;omega
    ·exact hw.fit (by simp [fitL,Res.eqv,qAA,conc])
   have hjL:=of_decide_eq_false hlt2
   rw [List.take_of_length_le (by omega)] at hq
   repeat((conv=>whnf);first|apply qza|apply qzb|apply qzc|apply qzd|apply qze|intro(_:Nat))
   conv=>whnf
   refine fun fr w' hw=>⟨(k+1,gb),congrArg (fun z=>[Value.int .i64 z]) (wr1 h' b1 b2).symm,⟨h',hgb,qZP hx hp ⟨⟨by omega,hq⟩,hSn⟩⟩,dec h',?_⟩
   exact hw.fit (by simp [fitL,Res.eqv,qAA,conc])
  ·have hkL:=of_decide_eq_false hlt
   rw [List.take_of_length_le (by omega)] at hp
   repeat((conv=>whnf);first|apply qza|apply qzb|apply qzc|apply qzd|apply qze|intro(_:Nat))
   conv=>whnf
   intro g2 hg
   exact⟨_,rfl,fun _=>⟨⟨⟨by omega,by omega,by omega,k4.1,by omega⟩,k4.2,fun v hv=>(hp v hv).1⟩,fun v hv=>(hp v hv).2⟩⟩)
/- Machines: which ones suit a world. -/
open Go.Proofs.Ytkbbljngpglnkaa.Sx Go.RowKit
theorem qJD (g:GW) (i n:Int):OkV Try.prog qIP [.int .i64 i,.int .i64 n] g (.bool (inB i n)) :=
 Ok.of_fn hm noT 0 qtO (args:=[.v (.int .i64 i),.v (.int .i64 n)]) (by
  repeat((conv=>whnf);first|apply qza|apply qzb|apply qzc|apply qzd|apply qze|intro(_:Nat))
  conv=>whnf
  refine⟨fun h=>?_,fun h=>?_⟩
  ·repeat((conv=>whnf);first|apply qza|apply qzb|apply qzc|apply qzd|apply qze|intro(_:Nat))
   conv=>whnf
   intro g2 hg
   unfold inB;rw [h];rfl
  ·repeat((conv=>whnf);first|apply qza|apply qzb|apply qzc|apply qzd|apply qze|intro(_:Nat))
   conv=>whnf
   intro g2 hg
   unfold inB;rw [h];rfl)
theorem qVB (g:GW) {cs ms:List Value} {w:Wd} {m:Mach} (hw:rWo g cs w) (hM:qnC g ms m) (hsn:SnW w) (hb:BgW 1000000 w):OkV Try.prog q4L [.agg ⟨cs⟩,.agg ⟨ms⟩] g (.bool (qmB w m)):=by
 have hw0:=hw
 obtain⟨a,b,c,d,e,rfl,⟨i1,i2,i3⟩,hP,hV,hL,hC,hR⟩:=hw
 obtain⟨oa,ca,rfl,a1,a2,a0,hP1⟩:=id hP
 obtain⟨ob,cb,rfl,b1,b2,b0,hV1⟩:=id hV
 obtain⟨oc,cc,rfl,c1,c2,c0,hL1⟩:=id hL
 obtain⟨od,cd,rfl,d1,d2,d0,hC1⟩:=id hC
 obtain⟨oe,ce,rfl,e1,e2,e0,hR1⟩:=id hR
 obtain⟨ma,mb,md,rfl,hok,_,⟨_,_,_,he,⟨o1,t1,rfl,_⟩,⟨o2,t2,rfl,_⟩,⟨o3,t3,rfl,_⟩⟩⟩:=hM
 cases he
 have hLl:=hb.1.2.2.1
 exact Ok.of_fn hm noT 0 qdL (args:=[.v (.agg ⟨wQ w oa ca ob cb oc cc od cd oe ce⟩),.v (.agg ⟨mQ m o1 t1 o2 t2 o3 t3⟩)]) (by
  repeat((conv=>whnf);first|apply qza|apply qzb|apply qzc|apply qzd|apply qze|intro(_:Nat))
  conv=>whnf
  refine .inl ⟨_,qiP _ hw0 hsn,?_⟩
  repeat((conv=>whnf);first|apply qza|apply qzb|apply qzc|apply qzd|apply qze|intro(_:Nat))
  conv=>whnf
  refine⟨fun z1=>?_,fun z1=>?_⟩
  ·repeat((conv=>whnf);first|apply qza|apply qzb|apply qzc|apply qzd|apply qze|intro(_:Nat))
   conv=>whnf
   intro g2 hg
   rw [qID fun ⟨v,gr,en,h⟩=>by rw [h.right] at z1;cases z1]
  repeat((conv=>whnf);first|apply qza|apply qzb|apply qzc|apply qzd|apply qze|intro(_:Nat))
  conv=>whnf
  refine .inl ⟨_,qJD _ _ _,?_⟩
  repeat((conv=>whnf);first|apply qza|apply qzb|apply qzc|apply qzd|apply qze|intro(_:Nat))
  conv=>whnf
  refine⟨fun z2=>?_,fun z2=>?_⟩
  ·repeat((conv=>whnf);first|apply qza|apply qzb|apply qzc|apply qzd|apply qze|intro(_:Nat))
   conv=>whnf
   intro g2 hg
   rw [qID fun ⟨v,gr,en,h⟩=>by rw [inB_iff.2 h.thread] at z2;cases z2]
  repeat((conv=>whnf);first|apply qza|apply qzb|apply qzc|apply qzd|apply qze|intro(_:Nat))
  conv=>whnf
  refine⟨fun z3=>?_,fun z3=>?_⟩
  ·repeat((conv=>whnf);first|apply qza|apply qzb|apply qzc|apply qzd|apply qze|intro(_:Nat))
   conv=>whnf
   intro g2 hg
   rw [qID fun ⟨v,gr,en,h⟩=>by rw [h.done] at z3;cases z3]
  repeat((conv=>whnf);first|apply qza|apply qzb|apply qzc|apply qzd|apply qze|intro(_:Nat))
  conv=>whnf
  refine .inl ⟨_,qJD _ _ _,?_⟩
  repeat((conv=>whnf);first|apply qza|apply qzb|apply qzc|apply qzd|apply qze|intro(_:Nat))
  conv=>whnf
  refine⟨fun z4=>?_,fun z4=>?_⟩
  ·repeat((conv=>whnf);first|apply qza|apply qzb|apply qzc|apply qzd|apply qze|intro(_:Nat))
   conv=>whnf
   intro g2 hg
   rw [qID fun ⟨v,gr,en,h⟩=>by
    have:=(List.getElem?_eq_some_iff.1 h.ver.2).1
    rw [inB_iff.2 ⟨h.ver.1,by have:=h.ver.1;omega⟩] at z4;cases z4]
  have k4:=inB_iff.1 (nb0 z4)
  obtain⟨v,hv⟩:=qDA (l:=w.versions) (i:=m.version.toNat) (by omega)
  obtain⟨aV,rfl,ecV,hecV,⟨va,vb,vd,vn,rfl,hS,hG⟩,hcV⟩:=hV1 _ v hv
  obtain⟨og,cg,rfl,g1,g2,g0,hG1⟩:=id hG
  repeat((conv=>whnf);first|apply qza|apply qzb|apply qzc|apply qzd|apply qze|intro(_:Nat))
  conv=>whnf
  refine⟨aV,rfl,⟨by omega,by omega⟩,?_⟩
  conv=>whnf
  refine⟨_,hcV 3 _ rfl,?_⟩
  repeat((conv=>whnf);first|apply qza|apply qzb|apply qzc|apply qzd|apply qze|intro(_:Nat))
  conv=>whnf
  refine .inl ⟨_,qJD _ _ _,?_⟩
  repeat((conv=>whnf);first|apply qza|apply qzb|apply qzc|apply qzd|apply qze|intro(_:Nat))
  conv=>whnf
  refine⟨fun z5=>?_,fun z5=>?_⟩
  ·repeat((conv=>whnf);first|apply qza|apply qzb|apply qzc|apply qzd|apply qze|intro(_:Nat))
   conv=>whnf
   intro g2 hg
   rw [qID fun ⟨v',gr,en,h⟩=>by
    have:=h.ver.2
    rw [hv] at this;cases this
    have:=(List.getElem?_eq_some_iff.1 h.clu.2).1
    rw [inB_iff.2 ⟨h.clu.1,by have:=h.clu.1;omega⟩] at z5;cases z5]
  have k5:=inB_iff.1 (nb0 z5)
  obtain⟨gr,hgr⟩:=qDA (l:=v.groups) (i:=m.cluster.toNat) (by omega)
  obtain⟨aG,rfl,ecG,hecG,⟨ve,rfl,_,hE⟩,hcG⟩:=hG1 _ gr hgr
  obtain⟨oq,cq,rfl,q1,q2,q0,hE1⟩:=id hE
  repeat((conv=>whnf);first|apply qza|apply qzb|apply qzc|apply qzd|apply qze|intro(_:Nat))
  conv=>whnf
  refine⟨aG,rfl,⟨by omega,by omega⟩,?_⟩
  conv=>whnf
  refine⟨_,hcG 1 _ rfl,?_⟩
  repeat((conv=>whnf);first|apply qza|apply qzb|apply qzc|apply qzd|apply qze|intro(_:Nat))
  conv=>whnf
  refine .inl ⟨_,qJD _ _ _,?_⟩
  repeat((conv=>whnf);first|apply qza|apply qzb|apply qzc|apply qzd|apply qze|intro(_:Nat))
  conv=>whnf
  refine⟨fun z6=>?_,fun z6=>?_⟩
  ·repeat((conv=>whnf);first|apply qza|apply qzb|apply qzc|apply qzd|apply qze|intro(_:Nat))
   conv=>whnf
   intro g2 hg
   rw [qID fun ⟨v',gr',en,h⟩=>by
    have:=h.ver.2
    rw [hv] at this;cases this
    have:=h.clu.2
    rw [hgr] at this;cases this
    have:=(List.getElem?_eq_some_iff.1 h.end_.2).1
    rw [inB_iff.2 ⟨h.end_.1,by have:=h.end_.1;omega⟩] at z6;cases z6]
  have k6:=inB_iff.1 (nb0 z6)
  repeat((conv=>whnf);first|apply qza|apply qzb|apply qzc|apply qzd|apply qze|intro(_:Nat))
  conv=>whnf
  refine .inl ⟨_,qJD _ _ _,?_⟩
  repeat((conv=>whnf);first|apply qza|apply qzb|apply qzc|apply qzd|apply qze|intro(_:Nat))
  conv=>whnf
  refine⟨fun z7=>?_,fun z7=>?_⟩
  ·repeat((conv=>whnf);first|apply qza|apply qzb|apply qzc|apply qzd|apply qze|intro(_:Nat))
   conv=>whnf
   intro g2 hg
   rw [qID fun ⟨v',gr',en,h⟩=>by
    have:=h.ver.2
    rw [hv] at this;cases this
    have:=h.clu.2
    rw [hgr] at this;cases this
    rw [inB_iff.2 h.other] at z7;cases z7]
  have k7:=inB_iff.1 (nb0 z7)
  obtain⟨en,hen⟩:=qDA (l:=gr.ends) (i:=m.end_.toNat) (by omega)
  obtain⟨aE,rfl,ecE,hecE,⟨⟨vx,rfl,_,_,hN⟩,_⟩,hcE⟩:=hE1 _ en hen
  obtain⟨ox,cx,rfl,x1,x2,x0,hN1⟩:=id hN
  repeat((conv=>whnf);first|apply qza|apply qzb|apply qzc|apply qzd|apply qze|intro(_:Nat))
  conv=>whnf
  refine⟨aE,rfl,⟨by omega,by omega⟩,?_⟩
  conv=>whnf
  refine⟨_,hcE 1 _ rfl,?_⟩
  repeat((conv=>whnf);first|apply qza|apply qzb|apply qzc|apply qzd|apply qze|intro(_:Nat))
  conv=>whnf
  refine .inl ⟨_,qJD _ _ _,?_⟩
  repeat((conv=>whnf);first|apply qza|apply qzb|apply qzc|apply qzd|apply qze|intro(_:Nat))
  conv=>whnf
  refine⟨fun z8=>?_,fun z8=>?_⟩
  ·repeat((conv=>whnf);first|apply qza|apply qzb|apply qzc|apply qzd|apply qze|intro(_:Nat))
   conv=>whnf
   intro g2 hg
   rw [qID fun ⟨v',gr',en',h⟩=>by
    have:=h.ver.2
    rw [hv] at this;cases this
    have:=h.clu.2
    rw [hgr] at this;cases this
    have:=h.end_.2
    rw [hen] at this;cases this
    rw [inB_iff.2 h.slot] at z8;cases z8]
  have k8:=inB_iff.1 (nb0 z8)
  have hl2:IntKind.i64.wrap ((w.listens.length:Int)+1)=(w.listens.length:Int)+1:=wr (by unfold InR;omega)
  have hmL:=hok.listen
  have hl3:(IntKind.i64.wrap (m.listen+1)=m.listen+1∨IntKind.i64.wrap (m.listen+1)<0):=by
   rcases Int.lt_or_le m.listen 9223372036854775807 with h|h
   ·exact .inl (wr (by unfold InR at hmL ⊢;omega))
   ·obtain h:m.listen=9223372036854775807:=by unfold InR at hmL;omega
    rw [h];exact .inr (by decide)
  repeat((conv=>whnf);first|apply qza|apply qzb|apply qzc|apply qzd|apply qze|intro(_:Nat))
  conv=>whnf
  refine .inl ⟨_,qJD _ _ _,?_⟩
  repeat((conv=>whnf);first|apply qza|apply qzb|apply qzc|apply qzd|apply qze|intro(_:Nat))
  conv=>whnf
  refine⟨fun z9=>?_,fun z9=>?_⟩
  case' refine_2 =>
   repeat((conv=>whnf);first|apply qza|apply qzb|apply qzc|apply qzd|apply qze|intro(_:Nat))
   conv=>whnf
   intro g2 hg
   rw [qID fun ⟨v',gr',en',h⟩=>by
    rw [inB_iff.2 (by rw [hl2,wr (by have:=h.listen;unfold InR;omega)];have:=h.listen;omega)] at z9;cases z9]
  have k9:=inB_iff.1 z9
  rw [hl2] at k9
  repeat((conv=>whnf);first|apply qza|apply qzb|apply qzc|apply qzd|apply qze|intro(_:Nat))
  conv=>whnf
  refine⟨fun z10=>?_,fun z10=>?_⟩
  case' refine_2 =>
   repeat((conv=>whnf);first|apply qza|apply qzb|apply qzc|apply qzd|apply qze|intro(_:Nat))
   conv=>whnf
   intro g2 hg
   have:=of_decide_eq_false z10
   rw [qID fun ⟨v',gr',en',h⟩=>by have:=h.i;omega]
  have k10:=of_decide_eq_true z10
  repeat((conv=>whnf);first|apply qza|apply qzb|apply qzc|apply qzd|apply qze|intro(_:Nat))
  conv=>whnf
  intro g2 hg
  by_cases hk:0≤m.k
  ·rw [decide_eq_true hk,suitB_iff.2 ⟨v,gr,en,⟨nb0 z1,inB_iff.1 (nb0 z2),z3,⟨k4.1,hv⟩,⟨k5.1,hgr⟩,⟨k6.1,hen⟩,k7,k8,⟨by omega,by omega⟩,k10,hk⟩⟩]
  ·rw [decide_eq_false hk,qID fun ⟨v',gr',en',h⟩=>hk h.k])
/- Machines: which ones suit a world;the document's answer. -/
open Go.Proofs.Ytkbbljngpglnkaa.Sx Go.RowKit
/- Collectors: may a machine be at its place? -/
open Go.Proofs.Ytkbbljngpglnkaa.Sx Go.RowKit
noncomputable def mayB (w:Wd) (m:Mach):Bool:=@decide (cMay w m) (Classical.propDecidable _)
theorem qDE {w:Wd} {m:Mach} (h:cMay w m):mayB w m=true:=@decide_eq_true _ (Classical.propDecidable _) h
theorem qcM {w:Wd} {m:Mach} (h:¬ cMay w m):mayB w m=false:=@decide_eq_false _ (Classical.propDecidable _) h
theorem qGR {w:Wd} {m:Mach} (h:mayB w m=true):cMay w m:=@of_decide_eq_true _ (Classical.propDecidable _) h
theorem qGI {w:Wd} {m:Mach} {P:Prop} [Decidable P] (h:cMay w m↔P):mayB w m=decide P:=by
 by_cases hp:P
 ·rw [qDE (h.2 hp),decide_eq_true hp]
 ·rw [qcM fun k=>hp (h.1 k),decide_eq_false hp]
theorem qkE (g:GW) {cs ms:List Value} {w:Wd} {m:Mach} (hw:rWo g cs w) (hM:qnC g ms m) (hs:qmB w m=true) (hb:BgW 1000000 w):OkV Try.prog qvJ [.agg ⟨cs⟩,.agg ⟨ms⟩] g (.bool (mayB w m)):=by
 obtain⟨a,b,c,d,e,rfl,⟨i1,i2,i3⟩,hP,hV,hL,hC,hR⟩:=hw
 obtain⟨oa,ca,rfl,a1,a2,a0,hP1⟩:=id hP
 obtain⟨ob,cb,rfl,b1,b2,b0,hV1⟩:=id hV
 obtain⟨oc,cc,rfl,c1,c2,c0,hL1⟩:=id hL
 obtain⟨od,cd,rfl,d1,d2,d0,hC1⟩:=id hC
 obtain⟨oe,ce,rfl,e1,e2,e0,hR1⟩:=id hR
 obtain⟨ma,mb,md,rfl,hok,_,⟨_,_,_,he,⟨o1,t1,rfl,_⟩,⟨o2,t2,rfl,_⟩,⟨o3,t3,rfl,_⟩⟩⟩:=hM
 cases he
 obtain⟨v,gr,en,hS⟩:=suitB_iff.1 hs
 exact Ok.of_fn hm noT 0 qcJ (args:=[.v (.agg ⟨wQ w oa ca ob cb oc cc od cd oe ce⟩),.v (.agg ⟨mQ m o1 t1 o2 t2 o3 t3⟩)]) (by
  repeat((conv=>whnf);first|apply qza|apply qzb|apply qzc|apply qzd|apply qze|intro(_:Nat))
  conv=>whnf
  refine⟨fun z1=>?_,fun z1=>?_⟩
  ·have z1:m.pc=2:=of_decide_eq_true z1
   repeat((conv=>whnf);first|apply qza|apply qzb|apply qzc|apply qzd|apply qze|intro(_:Nat))
   conv=>whnf
   intro g2 hg
   rw [qGI (P:=m.i<w.pins.length) ⟨fun h=>h.1 z1,fun h=>⟨fun _=>h,by omega,by omega,by omega,by omega⟩⟩]
  have z1:¬ m.pc=2:=of_decide_eq_false z1
  repeat((conv=>whnf);first|apply qza|apply qzb|apply qzc|apply qzd|apply qze|intro(_:Nat))
  conv=>whnf
  refine⟨fun z2=>?_,fun z2=>?_⟩
  ·have z2:m.pc=5:=of_decide_eq_true z2
   obtain⟨av,rfl,ecv,hecv,hVv,hcv⟩:=hV1 _ v hS.ver.2
   have hv0:=hVv
   have hvb:=hb.2.2 v (List.mem_of_getElem? hS.ver.2)
   have hvl:=(List.getElem?_eq_some_iff.1 hS.ver.2).1
   have hv1:=hS.ver.1
   obtain⟨va,vb,vd,vn,rfl,hsn,hG⟩:=hVv
   obtain⟨og,cg,rfl,_⟩:=id hG
   obtain⟨_,_,_,he2,⟨sa,ta,rfl,_⟩,⟨sb,tb,rfl,_⟩,⟨sd,td,rfl,_⟩⟩:=hsn
   cases he2
   repeat'((conv=>whnf);first|apply qza|apply qzb|apply qzc|apply qzd|apply qze|intro(_:Nat)|refine⟨_,rfl,⟨by omega,by omega⟩,?_⟩|refine⟨_,⟨rfl,hcv⟩,?_⟩|refine .inl ⟨_,qkJ _ hv0 hvb,?_⟩|fail)
   conv=>whnf
   intro g2 hg
   rw [qGI (P:=m.k<(qfC v).length) ⟨fun h=>by have:=h.2.1 z2;rwa [hS.at_.1] at this,fun h=>⟨by omega,fun _=>by rw [hS.at_.1];exact h,by omega,by omega,by omega⟩⟩]
  have z2:¬ m.pc=5:=of_decide_eq_false z2
  repeat((conv=>whnf);first|apply qza|apply qzb|apply qzc|apply qzd|apply qze|intro(_:Nat))
  conv=>whnf
  refine⟨fun z3=>?_,fun z3=>?_⟩
  ·have z3:m.pc=6:=of_decide_eq_true z3
   have hi0:=hS.i
   repeat((conv=>whnf);first|apply qza|apply qzb|apply qzc|apply qzd|apply qze|intro(_:Nat))
   conv=>whnf
   refine⟨fun y1=>?_,fun y1=>?_⟩
   ·have hi:m.i<w.limbo.length:=of_decide_eq_true y1
    obtain⟨r,hr⟩:=qDA (l:=w.limbo) (i:=m.i.toNat) (by omega)
    obtain⟨ar,rfl,ecr,hecr,⟨rfl,_⟩,hcr⟩:=hR1 _ r hr
    repeat'((conv=>whnf);first|apply qza|apply qzb|apply qzc|apply qzd|apply qze|intro(_:Nat)|refine⟨_,rfl,⟨by omega,by omega⟩,?_⟩|refine⟨_,hcr 0 _ rfl,?_⟩|refine⟨_,hcr 2 _ rfl,?_⟩|fail)
    conv=>whnf
    refine⟨fun y2=>?_,fun y2=>?_⟩
    ·have hv:r.version=m.version:=of_decide_eq_true y2
     repeat'((conv=>whnf);first|apply qza|apply qzb|apply qzc|apply qzd|apply qze|intro(_:Nat)|refine⟨_,rfl,⟨by omega,by omega⟩,?_⟩|refine⟨_,hcr 0 _ rfl,?_⟩|refine⟨_,hcr 2 _ rfl,?_⟩|fail)
     conv=>whnf
     intro g2 hg
     rw [qGI (P:=r.gone=false) ⟨fun h=>by have:=(h.2.2.1 z3).2.2;rwa [qNH hr] at this,fun h=>⟨by omega,by omega,fun _=>⟨hi,by rw [qNH hr];exact hv,by rw [qNH hr];exact h⟩,by omega,by omega⟩⟩]
     cases r.gone<;>rfl
    ·have hv:¬ r.version=m.version:=of_decide_eq_false y2
     repeat'((conv=>whnf);first|apply qza|apply qzb|apply qzc|apply qzd|apply qze|intro(_:Nat)|fail)
     conv=>whnf
     intro g2 hg
     rw [qcM fun h=>hv (by have:=(h.2.2.1 z3).2.1;rwa [qNH hr] at this)]
   ·have hi:¬ m.i<w.limbo.length:=of_decide_eq_false y1
    repeat'((conv=>whnf);first|apply qza|apply qzb|apply qzc|apply qzd|apply qze|intro(_:Nat)|fail)
    conv=>whnf
    intro g2 hg
    rw [qcM fun h=>hi (h.2.2.1 z3).1]
  have z3:¬ m.pc=6:=of_decide_eq_false z3
  repeat((conv=>whnf);first|apply qza|apply qzb|apply qzc|apply qzd|apply qze|intro(_:Nat))
  conv=>whnf
  refine⟨fun z4=>?_,fun z4=>?_⟩
  ·have z4:m.pc=9:=of_decide_eq_true z4
   repeat((conv=>whnf);first|apply qza|apply qzb|apply qzc|apply qzd|apply qze|intro(_:Nat))
   conv=>whnf
   intro g2 hg
   rw [qGI (P:=m.i<w.listens.length) ⟨fun h=>h.2.2.2.1 z4,fun h=>⟨by omega,by omega,by omega,fun _=>h,by omega⟩⟩]
  have z4:¬ m.pc=9:=of_decide_eq_false z4
  repeat((conv=>whnf);first|apply qza|apply qzb|apply qzc|apply qzd|apply qze|intro(_:Nat))
  conv=>whnf
  refine⟨fun z5=>?_,fun z5=>?_⟩
  ·have z5:m.pc=10:=of_decide_eq_true z5
   repeat((conv=>whnf);first|apply qza|apply qzb|apply qzc|apply qzd|apply qze|intro(_:Nat))
   conv=>whnf
   refine⟨fun z6=>?_,fun z6=>?_⟩
   ·have hi:m.i<w.listens.length:=of_decide_eq_true z6
    have hi0:=hS.i
    obtain⟨r,hr⟩:=qDA (l:=w.listens) (i:=m.i.toNat) (by omega)
    obtain⟨ar,rfl,ecr,hecr,⟨rfl,_⟩,hcr⟩:=hL1 _ r hr
    repeat((conv=>whnf);first|apply qza|apply qzb|apply qzc|apply qzd|apply qze|intro(_:Nat))
    conv=>whnf
    refine⟨_,rfl,⟨by omega,by omega⟩,?_⟩
    repeat((conv=>whnf);first|apply qza|apply qzb|apply qzc|apply qzd|apply qze|intro(_:Nat))
    conv=>whnf
    refine⟨_,hcr 1 _ rfl,?_⟩
    repeat((conv=>whnf);first|apply qza|apply qzb|apply qzc|apply qzd|apply qze|intro(_:Nat))
    conv=>whnf
    intro g2 hg
    rw [qGI (P:=r.drain=true) ⟨fun h=>by have:=(h.2.2.2.2 z5).2;rwa [qJI hr] at this,fun h=>⟨by omega,by omega,by omega,by omega,fun _=>⟨hi,by rw [qJI hr];exact h⟩⟩⟩]
    cases r.drain<;>rfl
   ·have hi:¬ m.i<w.listens.length:=of_decide_eq_false z6
    repeat((conv=>whnf);first|apply qza|apply qzb|apply qzc|apply qzd|apply qze|intro(_:Nat))
    conv=>whnf
    intro g2 hg
    rw [qcM fun h=>hi (h.2.2.2.2 z5).1]
  have z5:¬ m.pc=10:=of_decide_eq_false z5
  repeat((conv=>whnf);first|apply qza|apply qzb|apply qzc|apply qzd|apply qze|intro(_:Nat))
  conv=>whnf
  intro g2 hg
  rw [qDE ⟨by omega,by omega,by omega,by omega,by omega⟩])
/- Worlds: what is cloned: rows. -/
open Go.Proofs.Ytkbbljngpglnkaa.Sx Go.RowKit
abbrev wT:WTy:=⟨q4A,qZA,qWA,qBA,qLA,qxD,qJB,qkB⟩
abbrev cI1 (x:Int):List Value:=[.int .i64 x]
abbrev cU1 (x:Int):List Value:=[.int .u64 x]
abbrev cLi (x:Listen):List Value:=[.string x.name,.bool x.drain,.int .i64 x.active,.bool x.closed]
abbrev cRe (x:Retired):List Value:=[.int .i64 x.version,.int .i64 x.at_,.bool x.gone]
theorem q6O {α:Type} {l:List α} {f:α→List Value} (h:∀ x∈l,(f x).all Value.oneCell'=true):∀ u∈(l.map f).flatten,u.oneCell'=true:=oneF h
theorem qCO (g0 g:GW) (h0:g0≤g) {v:Value} {l:List Int} (hl:rSl 1 rInt g v l) (hlen:l.length≤17592186044416):Ok Try.prog qBE [v] g fun v' g'=>oSl q4A 1 (oLf rInt) g' g0.w.heap.size (NEW g g') v' l:=by
 obtain⟨oa,ca,rfl,a1,a2,a0,hr⟩:=id hl
 have hR:∀ x∈l,InR x:=fun x hx=>by
  obtain⟨i,hi⟩:=List.getElem?_of_mem hx
  obtain⟨_,_,_,_,⟨_,h⟩,_⟩:=hr i x hi
  exact h
 have hrd:=qUM hl cI1 fun _ _ h=>h.1
 exact Ok.of_fn hm noT 0 q1D (args:=[.v (.slice oa l.length ca)]) (by
  cases oa with
  | none =>
   repeat((conv=>whnf);first|apply qza|apply qzb|apply qzc|apply qzd|apply qze|intro(_:Nat)|intro(_:OA)_)
   conv=>whnf
   refine⟨fun _=>?_,fun h=>nomatch h⟩
   repeat((conv=>whnf);first|apply qza|apply qzb|apply qzc|apply qzd|apply qze|intro(_:Nat)|intro(_:OA)_)
   conv=>whnf
   intro g2 hg
   exact .inl ⟨List.length_eq_zero_iff.1 (a0 rfl).1,none,rfl⟩
  | some a =>
   repeat((conv=>whnf);first|apply qza|apply qzb|apply qzc|apply qzd|apply qze|intro(_:Nat)|intro(_:OA)_)
   conv=>whnf
   refine⟨fun h=>(nomatch h),fun _=>?_⟩
   repeat((conv=>whnf);first|apply qza|apply qzb|apply qzc|apply qzd|apply qze|intro(_:Nat)|intro(_:OA)_)
   conv=>whnf
   refine⟨⟨rfl,rfl,rfl,rfl,Nat.zero_le _⟩,?_⟩
   conv=>whnf
   refine⟨_,⟨hrd,q6O fun _ _=>rfl⟩,?_⟩
   repeat((conv=>whnf);first|apply qza|apply qzb|apply qzc|apply qzd|apply qze|intro(_:Nat)|intro(_:OA)_)
   conv=>whnf
   refine⟨⟨by unfold maxLen;omega,by omega⟩,fun oa2 cap2=>?_⟩
   repeat((conv=>whnf);first|apply qza|apply qzb|apply qzc|apply qzd|apply qze|intro(_:Nat)|intro(_:OA)_)
   conv=>whnf
   refine fun g1 hg1 hn1 hp1=>?_
   conv=>whnf
   intro g2 hg
   simp only [Nat.zero_add,List.nil_append] at hp1
   have hE:=qZG (sz:=1) (r:=rInt) g g g0.w.heap.size cI1 l fun x hx=>⟨rfl,rfl,hR x hx⟩
   have:=qlE (qDB qiC) hg (qAF (qDB qiC) hE (GW.refl _) hg1 (hp1.lo_le h0.1) rfl hn1)
   rwa [Nat.zero_add])
theorem ok_cU (g0 g:GW) (h0:g0≤g) {v:Value} {l:List Int} (hl:rSl 1 rU64 g v l) (hlen:l.length≤17592186044416):Ok Try.prog qqC [v] g fun v' g'=>oSl qxD 1 (oLf rU64) g' g0.w.heap.size (NEW g g') v' l:=by
 obtain⟨oa,ca,rfl,a1,a2,a0,hr⟩:=id hl
 have hR:∀ x∈l,InU x:=fun x hx=>by
  obtain⟨i,hi⟩:=List.getElem?_of_mem hx
  obtain⟨_,_,_,_,⟨_,h⟩,_⟩:=hr i x hi
  exact h
 have hrd:=qUM hl cU1 fun _ _ h=>h.1
 exact Ok.of_fn hm noT 0 qlC (args:=[.v (.slice oa l.length ca)]) (by
  cases oa with
  | none =>
   repeat((conv=>whnf);first|apply qza|apply qzb|apply qzc|apply qzd|apply qze|intro(_:Nat)|intro(_:OA)_)
   conv=>whnf
   refine⟨fun _=>?_,fun h=>nomatch h⟩
   repeat((conv=>whnf);first|apply qza|apply qzb|apply qzc|apply qzd|apply qze|intro(_:Nat)|intro(_:OA)_)
   conv=>whnf
   intro g2 hg
   exact .inl ⟨List.length_eq_zero_iff.1 (a0 rfl).1,none,rfl⟩
  | some a =>
   repeat((conv=>whnf);first|apply qza|apply qzb|apply qzc|apply qzd|apply qze|intro(_:Nat)|intro(_:OA)_)
   conv=>whnf
   refine⟨fun h=>(nomatch h),fun _=>?_⟩
   repeat((conv=>whnf);first|apply qza|apply qzb|apply qzc|apply qzd|apply qze|intro(_:Nat)|intro(_:OA)_)
   conv=>whnf
   refine⟨⟨rfl,rfl,rfl,rfl,Nat.zero_le _⟩,?_⟩
   conv=>whnf
   refine⟨_,⟨hrd,q6O fun _ _=>rfl⟩,?_⟩
   repeat((conv=>whnf);first|apply qza|apply qzb|apply qzc|apply qzd|apply qze|intro(_:Nat)|intro(_:OA)_)
   conv=>whnf
   refine⟨⟨by unfold maxLen;omega,by omega⟩,fun oa2 cap2=>?_⟩
   repeat((conv=>whnf);first|apply qza|apply qzb|apply qzc|apply qzd|apply qze|intro(_:Nat)|intro(_:OA)_)
   conv=>whnf
   refine fun g1 hg1 hn1 hp1=>?_
   conv=>whnf
   intro g2 hg
   simp only [Nat.zero_add,List.nil_append] at hp1
   have hE:=qZG (sz:=1) (r:=rU64) g g g0.w.heap.size cU1 l fun x hx=>⟨rfl,rfl,hR x hx⟩
   have:=qlE (qDB qTG) hg (qAF (qDB qTG) hE (GW.refl _) hg1 (hp1.lo_le h0.1) rfl hn1)
   rwa [Nat.zero_add])
theorem qAR (g0 g:GW) (h0:g0≤g) {v:Value} {l:List Listen} (hl:rSl 4 qCB g v l) (hlen:l.length≤1000000):Ok Try.prog qWB [v] g fun v' g'=>oSl qLA 4 (oLf qCB) g' g0.w.heap.size (NEW g g') v' l:=by
 obtain⟨oa,ca,rfl,a1,a2,a0,hr⟩:=id hl
 have hR:∀ x∈l,InR x.active:=fun x hx=>by
  obtain⟨i,hi⟩:=List.getElem?_of_mem hx
  obtain⟨_,_,_,_,⟨_,h⟩,_⟩:=hr i x hi
  exact h
 have hrd:=qUM hl cLi fun _ _ h=>h.1
 exact Ok.of_fn hm noT 0 qTB (args:=[.v (.slice oa l.length ca)]) (by
  cases oa with
  | none =>
   repeat((conv=>whnf);first|apply qza|apply qzb|apply qzc|apply qzd|apply qze|intro(_:Nat)|intro(_:OA)_)
   conv=>whnf
   refine⟨fun _=>?_,fun h=>nomatch h⟩
   repeat((conv=>whnf);first|apply qza|apply qzb|apply qzc|apply qzd|apply qze|intro(_:Nat)|intro(_:OA)_)
   conv=>whnf
   intro g2 hg
   exact .inl ⟨List.length_eq_zero_iff.1 (a0 rfl).1,none,rfl⟩
  | some a =>
   repeat((conv=>whnf);first|apply qza|apply qzb|apply qzc|apply qzd|apply qze|intro(_:Nat)|intro(_:OA)_)
   conv=>whnf
   refine⟨fun h=>(nomatch h),fun _=>?_⟩
   repeat((conv=>whnf);first|apply qza|apply qzb|apply qzc|apply qzd|apply qze|intro(_:Nat)|intro(_:OA)_)
   conv=>whnf
   refine⟨⟨rfl,rfl,rfl,rfl,Nat.zero_le _⟩,?_⟩
   conv=>whnf
   refine⟨_,⟨hrd,q6O fun _ _=>rfl⟩,?_⟩
   repeat((conv=>whnf);first|apply qza|apply qzb|apply qzc|apply qzd|apply qze|intro(_:Nat)|intro(_:OA)_)
   conv=>whnf
   refine⟨⟨by unfold maxLen;omega,by omega⟩,fun oa2 cap2=>?_⟩
   repeat((conv=>whnf);first|apply qza|apply qzb|apply qzc|apply qzd|apply qze|intro(_:Nat)|intro(_:OA)_)
   conv=>whnf
   refine fun g1 hg1 hn1 hp1=>?_
   conv=>whnf
   intro g2 hg
   simp only [Nat.zero_add,List.nil_append] at hp1
   have hE:=qZG (sz:=4) (r:=qCB) g g g0.w.heap.size cLi l fun x hx=>⟨rfl,rfl,hR x hx⟩
   have:=qlE (qDB q1B) hg (qAF (qDB q1B) hE (GW.refl _) hg1 (hp1.lo_le h0.1) rfl hn1)
   rwa [Nat.zero_add])
theorem q9Q (g0 g:GW) (h0:g0≤g) {v:Value} {l:List Retired} (hl:rSl 3 qpA g v l) (hlen:l.length≤1000000):Ok Try.prog qHB [v] g fun v' g'=>oSl qkB 3 (oLf qpA) g' g0.w.heap.size (NEW g g') v' l:=by
 obtain⟨oa,ca,rfl,a1,a2,a0,hr⟩:=id hl
 have hR:∀ x∈l,InR x.version∧InR x.at_:=fun x hx=>by
  obtain⟨i,hi⟩:=List.getElem?_of_mem hx
  obtain⟨_,_,_,_,⟨_,h⟩,_⟩:=hr i x hi
  exact h
 have hrd:=qUM hl cRe fun _ _ h=>h.1
 exact Ok.of_fn hm noT 0 qGB (args:=[.v (.slice oa l.length ca)]) (by
  cases oa with
  | none =>
   repeat((conv=>whnf);first|apply qza|apply qzb|apply qzc|apply qzd|apply qze|intro(_:Nat)|intro(_:OA)_)
   conv=>whnf
   refine⟨fun _=>?_,fun h=>nomatch h⟩
   repeat((conv=>whnf);first|apply qza|apply qzb|apply qzc|apply qzd|apply qze|intro(_:Nat)|intro(_:OA)_)
   conv=>whnf
   intro g2 hg
   exact .inl ⟨List.length_eq_zero_iff.1 (a0 rfl).1,none,rfl⟩
  | some a =>
   repeat((conv=>whnf);first|apply qza|apply qzb|apply qzc|apply qzd|apply qze|intro(_:Nat)|intro(_:OA)_)
   conv=>whnf
   refine⟨fun h=>(nomatch h),fun _=>?_⟩
   repeat((conv=>whnf);first|apply qza|apply qzb|apply qzc|apply qzd|apply qze|intro(_:Nat)|intro(_:OA)_)
   conv=>whnf
   refine⟨⟨rfl,rfl,rfl,rfl,Nat.zero_le _⟩,?_⟩
   conv=>whnf
   refine⟨_,⟨hrd,q6O fun _ _=>rfl⟩,?_⟩
   repeat((conv=>whnf);first|apply qza|apply qzb|apply qzc|apply qzd|apply qze|intro(_:Nat)|intro(_:OA)_)
   conv=>whnf
   refine⟨⟨by unfold maxLen;omega,by omega⟩,fun oa2 cap2=>?_⟩
   repeat((conv=>whnf);first|apply qza|apply qzb|apply qzc|apply qzd|apply qze|intro(_:Nat)|intro(_:OA)_)
   conv=>whnf
   refine fun g1 hg1 hn1 hp1=>?_
   conv=>whnf
   intro g2 hg
   simp only [Nat.zero_add,List.nil_append] at hp1
   have hE:=qZG (sz:=3) (r:=qpA) g g g0.w.heap.size cRe l fun x hx=>⟨rfl,rfl,hR x hx⟩
   have:=qlE (qDB qMB) hg (qAF (qDB qMB) hE (GW.refl _) hg1 (hp1.lo_le h0.1) rfl hn1)
   rwa [Nat.zero_add])
end Go.Proofs.Ytkbbljngpglnkaa
