/- Pins: a step, place 2. -/
import Derived.Test.YthonngjhelcpeaaGreatLW9r
import Derived.Test.YthonngjhelcpeaaGreatLW9i
import Derived.Test.YthonngjhelcpeaaGreatPl
import Derived.Test.YthonngjhelcpeaaGreatLS7d
import Derived.Test.YthonngjhelcpeaaGreatLW9o
set_option linter.unusedVariables false
set_option linter.unusedSimpArgs false
namespace Go.Proofs.YthonngjhelcpeaaGreat
open Go.Proofs.YthonngjhelcpeaaGreat.Sx Go.RowKit
set_option maxHeartbeats 16000000
set_option maxRecDepth 100000
theorem q6W (g:GW) {cs ms:List Value} {w:Wd} {m:Mach} (hw:rWo g cs w) (hM:qfA g ms m) (hsn:SnW w) (hb:BgW 1000000 w) (h0:m.pc=2):Ok Tryz.prog qXF [.agg ⟨cs⟩,.agg ⟨ms⟩] g (qDV w m):=by
 obtain⟨oa,ca,ob,cb,oc,cc,od,cd,oe,ce,o1,t1,o2,t2,o3,t3,rfl,rfl,hw0,hM0,⟨i1,i2,i3⟩,hP,hV,hL,hC,hR,⟨a1,a2,a0,hP1⟩,⟨b1,b2,b0,hV1⟩,⟨c1,c2,c0,hL1⟩,⟨d1,d2,d0,hC1⟩,⟨e1,e2,e0,hR1⟩,hok,hop,hcf⟩:=qoB hw hM
 exact Ok.of_fn hm qcT 3 qzH (args:=[.v (.agg ⟨wQ w oa ca ob cb oc cc od cd oe ce⟩),.v (.agg ⟨mQ m o1 t1 o2 t2 o3 t3⟩)]) (by
  repeat((conv=>whnf);first|refine qz ?_|intro(_:Nat))
  refine .inr ((qTN _).mono fun v g1 hg1 hF=>?_)
  obtain⟨r,rfl,hF⟩:=hF
  repeat((conv=>whnf);first|refine qz ?_|intro(_:Nat))
  conv=>whnf
  refine⟨qbU,⟨rfl,hF⟩,?_⟩
  have hw1:=qDA _ _ _ _ hg1 hw0
  have hM1:=qXA _ _ _ _ hg1 hM0
  conv=>whnf
  refine⟨some (.agg #[.func (.func q9F) #[] #[]]),by rw [h0];rfl,?_⟩
  repeat((conv=>whnf);first|refine qz ?_|intro(_:Nat))
  conv=>whnf
  refine⟨fun h=>(nomatch h),fun _=>?_⟩
  repeat((conv=>whnf);first|refine qz ?_|intro(_:Nat))
  conv=>whnf
  refine .inl ⟨_,q1A _ hw1 hM1 hsn hb,?_⟩
  repeat((conv=>whnf);first|refine qz ?_|intro(_:Nat))
  conv=>whnf
  refine⟨fun z1=>?_,fun z1=>?_⟩
  ·repeat((conv=>whnf);first|refine qz ?_|intro(_:Nat))
   conv=>whnf
   intro g2 hg
   have hf:=nb1 z1
   have hE:pinE w m=ev0:=by unfold pinE;rw [if_neg (by rw [hf];exact Bool.noConfusion)]
   have hWd:pinW w m=w:=by unfold pinW;rw [if_neg (by rw [hf];exact fun h=>Bool.noConfusion h.1)]
   have hMm:pinM w m=m:=by unfold pinM;rw [if_neg (by rw [hf];exact Bool.noConfusion)]
   exact⟨_,_,by rw [hE];rfl,by rw [hWd];exact qDA _ _ _ _ hg hw1,by rw [hMm];exact qXA _ _ _ _ hg hM1⟩
  have hs:=nb0 z1
  repeat((conv=>whnf);first|refine qz ?_|intro(_:Nat))
  refine .inr ((qBB _ hw1 hb).mono fun v g3 hg3 hO=>?_)
  obtain⟨cs,T,rfl,hT⟩:=hO
  have hT0:=hT
  obtain⟨p,q,r',s',t',rfl,_,_,h5,h1,h2,h3,h4⟩:=hT0
  obtain⟨oa',ca',rfl⟩:=qQA h5
  obtain⟨ob',cb',rfl⟩:=qQA h1
  obtain⟨oc',cc',rfl⟩:=qQA h2
  obtain⟨od',cd',rfl⟩:=qQA h3
  obtain⟨oe',ce',rfl⟩:=qQA h4
  clear hw0 hP hV hL hC hR hP1 hV1 hL1 hC1 hR1 a0 b0 c0 d0 e0 h1 h2 h3 h4 h5
  repeat((conv=>whnf);first|refine qz ?_|intro(_:Nat))
  conv=>whnf
  refine⟨qiQ,?_⟩
  repeat((conv=>whnf);first|refine qz ?_|intro(_:Nat))
  conv=>whnf
  refine⟨fun z2=>?_,fun z2=>?_⟩
  ·repeat((conv=>whnf);first|refine qz ?_|intro(_:Nat))
   conv=>whnf
   intro g2 hg
   have hE:pinE w m=⟨m.thread,0,1,1,-1,false,w.epoch,false,false,false,ans0⟩:=by unfold pinE;rw [if_pos hs,if_neg (by omega),if_pos (by omega)]
   have hWd:pinW w m=w:=by unfold pinW;rw [if_neg (by omega)]
   have hMm:pinM w m={m with epoch:=w.epoch,pc:=3}:=by unfold pinM;rw [if_pos hs,if_neg (by omega),if_neg (by omega),if_pos h0,if_pos (by simpa using z2)]
   refine⟨_,_,by rw [hE];rfl,by rw [hWd];exact qDA _ _ _ _ hg (qTA hT),?_⟩
   rw [hMm]
   exact⟨_,_,_,rfl,{hok with epoch:=i1,pc:=show InR (3:Int) by decide},hop,qCA _ _ _ _ (GW.trans (GW.trans hg1 hg3) hg) hcf⟩
  ·repeat((conv=>whnf);first|refine qz ?_|intro(_:Nat))
   conv=>whnf
   intro g2 hg
   have hE:pinE w m=⟨m.thread,0,1,1,-1,false,w.epoch,false,false,false,ans0⟩:=by unfold pinE;rw [if_pos hs,if_neg (by omega),if_pos (by omega)]
   have hWd:pinW w m=w:=by unfold pinW;rw [if_neg (by omega)]
   have hMm:pinM w m={m with epoch:=w.epoch,pc:=1}:=by unfold pinM;rw [if_pos hs,if_neg (by omega),if_neg (by omega),if_pos h0,if_neg (by simpa using z2)]
   refine⟨_,_,by rw [hE];rfl,by rw [hWd];exact qDA _ _ _ _ hg (qTA hT),?_⟩
   rw [hMm]
   exact⟨_,_,_,rfl,{hok with epoch:=i1,pc:=show InR (1:Int) by decide},hop,qCA _ _ _ _ (GW.trans (GW.trans hg1 hg3) hg) hcf⟩)
/- Pins: a step,at any place. -/
open Go.Proofs.YthonngjhelcpeaaGreat.Sx Go.RowKit
theorem qVY (g:GW) {cs ms:List Value} {w:Wd} {m:Mach} (hw:rWo g cs w) (hM:qfA g ms m) (hsn:SnW w) (hb:BgW 1000000 w):Ok Tryz.prog qXF [.agg ⟨cs⟩,.agg ⟨ms⟩] g (qDV w m):=by
 by_cases h0:m.pc=0
 ·exact q8W g hw hM hsn hb h0
 ·by_cases h1:m.pc=1
  ·exact q7W g hw hM hsn hb h1
  ·by_cases h2:m.pc=2
   ·exact q6W g hw hM hsn hb h2
   ·exact q5W g hw hM hsn hb ⟨h0,h1,h2⟩
/- Slots: those of a new endpoint. -/
open Go.Proofs.YthonngjhelcpeaaGreat.Sx Go.RowKit
def q2Z (n:Int) (v:Value) (g':GW):Prop :=
 ((1≤n∧n≤4)∧∃ oa cap,v=.tuple #[.agg ⟨[.int .u64 1,.slice oa n.toNat cap,.int .i64 0]⟩,.int .i64 0]∧rSl 1 rInt g' (.slice oa n.toNat cap) (qJD n.toNat).next) ∨
 (¬ (1≤n∧n≤4)∧v=.tuple #[.agg ⟨[.int .u64 0,.slice none 0 0,.int .i64 0]⟩,.int .i64 1])
abbrev upE (k:Nat):List (List Value):=(List.range k).map fun (i:Nat)=>[Value.int .i64 ((i:Int)+1)]
theorem qWW (k:Nat):upE (k+1)=upE k++[[Value.int .i64 ((k:Int)+1)]]:=by simp [upE,List.range_succ]
theorem qbX {k:Nat}:∀ e∈upE k,e.length=1:=fun e he=>by
 obtain⟨x,_,rfl⟩:=List.mem_map.1 he;rfl
theorem qBX (g:GW) {n:Int}:Ok Tryz.prog qXQ [.int .i64 n] g (q2Z n) :=
 Ok.of_fn hm noT 0 qwP (args:=[.v (.int .i64 n)]) (by
  repeat((conv=>whnf);first|refine qz ?_|intro(_:Nat))
  conv=>whnf
  refine⟨fun z1=>?_,fun z1=>?_⟩
  ·repeat((conv=>whnf);first|refine qz ?_|intro(_:Nat))
   conv=>whnf
   intro g2 hg
   exact .inr ⟨by have:=of_decide_eq_true z1;omega,rfl⟩
  repeat((conv=>whnf);first|refine qz ?_|intro(_:Nat))
  conv=>whnf
  refine⟨fun z2=>?_,fun z2=>?_⟩
  ·repeat((conv=>whnf);first|refine qz ?_|intro(_:Nat))
   conv=>whnf
   intro g2 hg
   exact .inr ⟨by have:=of_decide_eq_true z2;omega,rfl⟩
  have k1:=of_decide_eq_false z1
  have k2:=of_decide_eq_false z2
  obtain⟨N,rfl⟩:=Int.eq_ofNat_of_zero_le (show 0≤n by omega)
  repeat((conv=>whnf);first|refine qz ?_|intro(_:Nat))
  conv=>whnf
  refine⟨⟨by omega,by omega,by omega,by omega⟩,fun _=>?_⟩
  repeat((conv=>whnf);first|refine qz ?_|intro(_:Nat))
  rename_i q0 q1 q2
  conv=>whnf
  refine⟨Nat,fun k=>[.v (.int .i64 k)],fun k=>⟨g,[.blk 2 q2 qpA [.v (.int .u64 0),.row 1 (some ⟨q1,0,none⟩) N N,.v (.int .i64 0)],.row 1 (some ⟨q1,0,none⟩) N N qRA 1 (rowK (upE k) [.int .i64 0] (N-k)),.blk 0 q0 qpA [.v (.int .u64 0),.v (.slice none 0 0),.v (.int .i64 0)]],3,g.w.heap.size⟩,fun k=>k≤N,fun k=>N-k,fun fr w hw=>⟨0,rfl,Nat.zero_le _,hw.fit (by simp [fitL,Res.eqv,qBA,conc,rowK,upE])⟩,?_⟩
  intro k hk
  have hlen:=q1H (m:=N-k) (z:=[.int .i64 0]) (qbX (k:=k)) rfl
  have hul:(upE k).length=k:=by simp [upE]
  repeat((conv=>whnf);first|refine qz ?_|intro(_:Nat))
  conv=>whnf
  refine⟨fun hlt=>?_,fun hlt=>?_⟩
  ·have h':k<N:=by have:=of_decide_eq_true hlt;omega
   have hset:=q0H (m:=N-k) (z:=[.int .i64 0]) (qbX (k:=k)) rfl (by omega) (ec:=[.int .i64 ((k:Int)+1)]) rfl hul.symm
   rw [← qWW] at hset
   repeat((conv=>whnf);first|refine qz ?_|intro(_:Nat))
   conv=>whnf
   refine⟨⟨by omega,by omega⟩,?_⟩
   repeat((conv=>whnf);first|refine qz ?_|intro(_:Nat))
   conv=>whnf
   refine⟨⟨by rw [hlen,hul];simp;omega,by decide⟩,?_⟩
   repeat((conv=>whnf);first|refine qz ?_|intro(_:Nat))
   conv=>whnf
   refine fun fr w hw=>⟨k+1,congrArg (fun z=>[Value.int .i64 z]) (by rw [wr (show InR ((k:Int)+1) by unfold InR;omega)];omega),h',dec h',hw.fit ?_⟩
   rw [show N-(k+1)=N-k-1 by omega,← hset]
   simp [fitL,Res.eqv,qBA,conc,wr (show InR ((k:Int)+1) by unfold InR;omega)]
  have hkN:k=N:=by have:=of_decide_eq_false hlt;omega
  subst hkN
  rw [Nat.sub_self,hul] at hlen
  repeat((conv=>whnf);first|refine qz ?_|intro(_:Nat))
  conv=>whnf
  refine⟨⟨by rw [wr (by unfold InR;omega)];omega,by rw [wr (by unfold InR;omega)];omega⟩,?_⟩
  repeat((conv=>whnf);first|refine qz ?_|intro(_:Nat))
  conv=>whnf
  refine⟨⟨by rw [Nat.sub_self,hlen,wr (by unfold InR;omega)];simp;omega,by decide⟩,?_⟩
  repeat((conv=>whnf);first|refine qz ?_|intro(_:Nat))
  conv=>whnf
  refine .inl ⟨_,(qKQ _ (t:=0) (i:=0) (by decide) (by decide)).to (show _=Value.tuple #[.int .u64 1,.int .i64 0] from rfl),?_⟩
  repeat((conv=>whnf);first|refine qz ?_|intro(_:Nat))
  conv=>whnf
  refine fun g1 hg1 hn1 hp1=>?_
  repeat((conv=>whnf);first|refine qz ?_|intro(_:Nat))
  conv=>whnf
  intro g2 hg
  refine .inl ⟨⟨by omega,by omega⟩,_,_,rfl,?_⟩
  have hN:k=1∨k=2∨k=3∨k=4:=by omega
  rcases hN with rfl|rfl|rfl|rfl
  all_goals exact(qAF hp1.rd (qJD _).next (fun x=>.int .i64 x) rfl fun x hx=>⟨rfl,by simp [qJD,List.range,List.range.loop] at hx;unfold InR;omega⟩).mono qHB hg)
theorem qQX {g:GW} {n:Int} {oa:Option Addr} {cap:Nat} (h:1≤n∧n≤4) (hr:rSl 1 rInt g (.slice oa n.toNat cap) (qJD n.toNat).next):rEn g [.int .u64 1,.slice oa n.toNat cap,.int .i64 0] (qJD n.toNat) :=
 ⟨⟨_,rfl,show InU 1 by decide,show InR 0 by decide,hr⟩,by simp [qJD];omega⟩
/- Worlds: a snapshot's cells. -/
open Go.Proofs.YthonngjhelcpeaaGreat.Sx Go.RowKit
def q3Z (s:Snap) (v:Value) (g':GW):Prop :=
 (qiA (qVD s)=none∧∃ a b d oa n cap,v=.tuple #[.agg ⟨[a,b,d,.slice oa n cap,.bool false]⟩,.int .i64 0]∧rVe g' [a,b,d,.slice oa n cap,.bool false] (qUA s)) ∨
 (qiA (qVD s)≠none∧v=.tuple #[.agg ⟨[.slice none 0 0,.slice none 0 0,.slice none 0 0,.slice none 0 0,.bool false]⟩,.int .i64 1])
theorem qCX (g:GW) {cs:List Value} {s:Snap} (hs:qRH g cs s) (hsz:s.rules.length≤1000000):Ok Tryz.prog qUQ [.agg ⟨cs⟩] g (q3Z s):=by
 have hs0:=hs
 obtain⟨a,b,d,rfl,hl,hr,hk⟩:=hs
 obtain⟨oa,ca,rfl,a1,a2,a0,hl1⟩:=id hl
 obtain⟨ob,cb,rfl,b1,b2,b0,hr1⟩:=id hr
 obtain⟨od,cd,rfl,d1,d2,d0,hk1⟩:=id hk
 exact Ok.of_fn hm noT 0 qtP (args:=[.v (.agg ⟨[.slice oa s.listens.length ca,.slice ob s.rules.length cb,.slice od s.clusters.length cd]⟩)]) (by
  repeat((conv=>whnf);first|refine qz ?_|intro(_:Nat)|intro(_:OA)_)
  conv=>whnf
  refine .inl ⟨_,qdX _ hs0 hsz,?_⟩
  repeat((conv=>whnf);first|refine qz ?_|intro(_:Nat)|intro(_:OA)_)
  conv=>whnf
  refine⟨fun z1=>?_,fun z1=>?_⟩
  ·repeat((conv=>whnf);first|refine qz ?_|intro(_:Nat)|intro(_:OA)_)
   conv=>whnf
   intro g2 hg
   refine .inr ⟨fun h=>?_,rfl⟩
   rw [qBP h] at z1;cases z1
  have hz:=eqB_iff.1 (nb0 z1)
  have G:=good_iff.1 hz
  have hclL:s.clusters.length≤4:=G.size.2.2.2
  have hcl:∀ x∈s.clusters,(1≤x.slots∧x.slots≤4)∧(1≤x.health.length∧x.health.length≤4):=fun x hx=>(G.cl x hx).2.2
  repeat((conv=>whnf);first|refine qz ?_|intro(_:Nat)|intro(_:OA)_)
  rename_i q0 q1 q2
  conv=>whnf
  refine⟨Nat×List (List Value)×Option Addr×Nat×GW,fun (k,_,_,_,_)=>[.v (.int .i64 k)],fun (k,ecs,oX,cX,g')=>⟨g',[.row 10 oX k cX qaA 2 ecs.flatten,.blk 2 q2 qFA [.v (.slice oa s.listens.length ca),.v (.slice ob s.rules.length cb),.v (.slice od s.clusters.length cd),.row 10 oX k cX,.v (.bool false)],.blk 1 q1 qFA [.v (.slice none 0 0),.v (.slice none 0 0),.v (.slice none 0 0),.v (.slice none 0 0),.v (.bool false)],.blk 0 q0 qyA [.v (.slice oa s.listens.length ca),.v (.slice ob s.rules.length cb),.v (.slice od s.clusters.length cd)]],20,g.w.heap.size⟩,fun (k,ecs,_,_,g')=>k≤s.clusters.length∧g≤g'∧rEls 2 rGr g' ecs ((s.clusters.take k).map fun c=>(⟨0,c.health.map fun _=>qJD c.slots.toNat⟩:Group)),fun (k,_,_,_,_)=>s.clusters.length-k,fun fr w hw=>⟨(0,[],none,0,g),rfl,⟨Nat.zero_le _,GW.refl _,qEQ _⟩,(hw.nil_row (nx':=20) 10 qaA 2).fit (by simp [fitL,Res.eqv,qBA,conc])⟩,?_⟩
  rintro⟨k,ecs,oX,cX,g'⟩ ⟨hkk,hgg,hE⟩
  repeat((conv=>whnf);first|refine qz ?_|intro(_:Nat)|intro(_:OA)_)
  conv=>whnf
  refine⟨fun hlt=>?_,fun hlt=>?_⟩
  ·have h':k<s.clusters.length:=by have:=of_decide_eq_true hlt;omega
   obtain⟨x,hx⟩:=qAA h'
   obtain⟨x1,x2⟩:=List.getElem?_eq_some_iff.1 hx
   have hxc:=hcl x (List.mem_of_getElem? hx)
   obtain⟨a,rfl,ec,hec,⟨hv,rfl,_,_,⟨oh,ch,rfl,t1,t2,_⟩⟩,hc⟩:=hk1 k x hx
   repeat((conv=>whnf);first|refine qz ?_|intro(_:Nat)|intro(_:OA)_)
   conv=>whnf
   refine⟨a,rfl,⟨by omega,by omega⟩,?_⟩
   conv=>whnf
   refine⟨_,⟨rfl,hc.mono hgg⟩,?_⟩
   repeat((conv=>whnf);first|refine qz ?_|intro(_:Nat)|intro(_:OA)_)
   rename_i qc qg
   conv=>whnf
   refine⟨Nat×List (List Value)×Option Addr×Nat×GW,fun (n,_,_,_,_)=>[.v (.int .i64 n)],fun (n,ecs2,oE,cE,g2)=>⟨g2,[.row 30 oE n cE qpA 3 ecs2.flatten,.blk 21 qg qaA [.v (.int .u64 0),.row 30 oE n cE],.blk 20 qc qrA [.v (.string x.name),.v (.int .i64 x.policy),.v (.int .i64 x.slots),.v (.slice oh x.health.length ch)],.row 10 oX k cX qaA 2 ecs.flatten,.blk 2 q2 qFA [.v (.slice oa s.listens.length ca),.v (.slice ob s.rules.length cb),.v (.slice (some a) s.clusters.length cd),.row 10 oX k cX,.v (.bool false)],.blk 1 q1 qFA [.v (.slice none 0 0),.v (.slice none 0 0),.v (.slice none 0 0),.v (.slice none 0 0),.v (.bool false)],.blk 0 q0 qyA [.v (.slice oa s.listens.length ca),.v (.slice ob s.rules.length cb),.v (.slice (some a) s.clusters.length cd)]],40,g.w.heap.size⟩,fun (n,ecs2,_,_,g2)=>n≤x.health.length∧g'≤g2∧rEls 3 rEn g2 ecs2 ((x.health.take n).map fun _=>qJD x.slots.toNat),fun (n,_,_,_,_)=>x.health.length-n,fun fr w hw=>⟨(0,[],none,0,g'),rfl,⟨Nat.zero_le _,GW.refl _,qEQ _⟩,(hw.nil_row (nx':=40) 30 qpA 3).fit (by simp [fitL,Res.eqv,qBA,conc])⟩,?_⟩
   rintro⟨n,ecs2,oE,cE,g2⟩ ⟨hn,hg2,hE2⟩
   repeat((conv=>whnf);first|refine qz ?_|intro(_:Nat)|intro(_:OA)_)
   conv=>whnf
   refine⟨fun hln=>?_,fun hln=>?_⟩
   ·have h2:n<x.health.length:=by have:=of_decide_eq_true hln;omega
    repeat((conv=>whnf);first|refine qz ?_|intro(_:Nat)|intro(_:OA)_)
    refine .inr ((qBX _).mono fun v g3 hg3 hF=>?_)
    rcases hF with ⟨_,oF,cF,rfl,hF⟩|⟨hF,_⟩
    rotate_left
    ·exact absurd hxc.1 hF
    have hEn:=qQX hxc.1 hF
    have hT:((x.health.take (n+1)).map fun _=>qJD x.slots.toNat)=((x.health.take n).map fun _=>qJD x.slots.toNat)++[qJD x.slots.toNat]:=by
     rw [List.take_succ_eq_append_getElem h2,List.map_append];rfl
    repeat((conv=>whnf);first|refine qz ?_|intro(_:Nat)|intro(_:OA)_)
    conv=>whnf
    refine⟨fun h=>(nomatch h),fun _=>?_⟩
    repeat((conv=>whnf);first|refine qz ?_|intro(_:Nat)|intro(_:OA)_)
    conv=>whnf
    refine⟨⟨by unfold maxLen;omega,by omega⟩,fun oa2 cap2=>?_⟩
    repeat((conv=>whnf);first|refine qz ?_|intro(_:Nat)|intro(_:OA)_)
    conv=>whnf
    refine fun fr w hw=>⟨(n+1,ecs2++[[.int .u64 1,.slice oF x.slots.toNat cF,.int .i64 0]],oa2,cap2,g3),congrArg (fun z=>[Value.int .i64 z]) (wr1 h2 t1 t2).symm,⟨h2,GW.trans hg2 hg3,by rw [hT];exact qyN (qTM qyE hg3 hE2) rfl hEn⟩,dec h2,hw.fit (by simp [fitL,Res.eqv,qBA,conc])⟩
   have hnL:n=x.health.length:=by have:=of_decide_eq_false hln;omega
   subst hnL
   rw [List.take_length] at hE2
   have hT:((s.clusters.take (k+1)).map fun c=>(⟨0,c.health.map fun _=>qJD c.slots.toNat⟩:Group))=((s.clusters.take k).map fun c=>(⟨0,c.health.map fun _=>qJD c.slots.toNat⟩:Group))++[⟨0,x.health.map fun _=>qJD x.slots.toNat⟩]:=by
    rw [List.take_succ_eq_append_getElem x1,List.map_append,x2];rfl
   repeat((conv=>whnf);first|refine qz ?_|intro(_:Nat)|intro(_:OA)_)
   conv=>whnf
   refine fun g3 hg3 hn3 hp3=>?_
   have hSl:=qlS (qTM qyE hg3 hE2) hp3 (by simp)
   repeat((conv=>whnf);first|refine qz ?_|intro(_:Nat)|intro(_:OA)_)
   conv=>whnf
   refine⟨⟨by unfold maxLen;omega,by omega⟩,fun oa2 cap2=>?_⟩
   repeat((conv=>whnf);first|refine qz ?_|intro(_:Nat)|intro(_:OA)_)
   conv=>whnf
   refine fun fr w hw=>⟨(k+1,ecs++[[.int .u64 0,.slice oE x.health.length cE]],oa2,cap2,g3),congrArg (fun z=>[Value.int .i64 z]) (wr1 h' d1 d2).symm,⟨h',GW.trans hgg (GW.trans hg2 hg3),by rw [hT];exact qyN (qTM q0F (GW.trans hg2 hg3) hE) rfl ⟨_,rfl,show InU 0 by decide,hSl⟩⟩,dec h',hw.fit (by simp [fitL,Res.eqv,qBA,conc])⟩
  have hkL:k=s.clusters.length:=by have:=of_decide_eq_false hlt;omega
  subst hkL
  rw [List.take_length] at hE
  repeat((conv=>whnf);first|refine qz ?_|intro(_:Nat)|intro(_:OA)_)
  conv=>whnf
  refine fun g3 hg3 hn3 hp3=>?_
  have hSl:=qlS (qTM q0F hg3 hE) hp3 (by simp)
  repeat((conv=>whnf);first|refine qz ?_|intro(_:Nat)|intro(_:OA)_)
  conv=>whnf
  intro g2 hg
  exact .inl ⟨hz,_,_,_,_,_,_,rfl,⟨_,_,_,_,rfl,qfC _ _ _ _ (GW.trans hgg (GW.trans hg3 hg)) hs0,hSl.mono q0F hg⟩⟩)
/- Worlds: counts of a new world. -/
open Go.Proofs.YthonngjhelcpeaaGreat.Sx Go.RowKit
def q1Z (n:Int) (v:Value) (g':GW):Prop :=
 ((1≤n∧n≤8)∧∃ oa cap,v=.tuple #[.slice oa n.toNat cap,.int .i64 0]∧rSl 1 rRow g' (.slice oa n.toNat cap) (qnF n.toNat)) ∨
 (¬ (1≤n∧n≤8)∧v=.tuple #[.slice none 0 0,.int .i64 1])
theorem q0S (g:GW) {n:Int}:Ok Tryz.prog qCT [.int .i64 n] g (q1Z n) :=
 Ok.of_fn hm noT 0 qdS (args:=[.v (.int .i64 n)]) (by
  repeat((conv=>whnf);first|refine qz ?_|intro(_:Nat))
  conv=>whnf
  refine⟨fun z1=>?_,fun z1=>?_⟩
  ·repeat((conv=>whnf);first|refine qz ?_|intro(_:Nat))
   conv=>whnf
   intro g2 hg
   exact .inr ⟨by have:=of_decide_eq_true z1;omega,rfl⟩
  repeat((conv=>whnf);first|refine qz ?_|intro(_:Nat))
  conv=>whnf
  refine⟨fun z2=>?_,fun z2=>?_⟩
  ·repeat((conv=>whnf);first|refine qz ?_|intro(_:Nat))
   conv=>whnf
   intro g2 hg
   exact .inr ⟨by have:=of_decide_eq_true z2;omega,rfl⟩
  have k1:=of_decide_eq_false z1
  have k2:=of_decide_eq_false z2
  obtain⟨N,rfl⟩:=Int.eq_ofNat_of_zero_le (show 0≤n by omega)
  repeat((conv=>whnf);first|refine qz ?_|intro(_:Nat))
  conv=>whnf
  refine⟨⟨by omega,by omega,by omega,by omega⟩,fun _=>?_⟩
  repeat((conv=>whnf);first|refine qz ?_|intro(_:Nat))
  rename_i q1
  conv=>whnf
  refine⟨Nat×List (List Value)×GW,fun (k,_,_)=>[.v (.int .i64 k)],fun (k,ecs,g')=>⟨g',[.row 0 (some ⟨q1,0,none⟩) N N qfB 1 (rowK ecs [.slice none 0 0] (N-k))],10,g.w.heap.size⟩,fun (k,ecs,g')=>k≤N∧g≤g'∧rEls 1 rRow g' ecs (qnF k),fun (k,_,_)=>N-k,fun fr w hw=>⟨(0,[],g),rfl,⟨Nat.zero_le _,GW.refl _,qEQ _⟩,hw.fit (by simp [fitL,Res.eqv,qBA,conc,rowK])⟩,?_⟩
  rintro⟨k,ecs,g'⟩ ⟨hk,hgg,hE⟩
  have hel:ecs.length=k:=by have:=hE.1.1;simpa [qnF] using this
  have hlen:=q1H (m:=N-k) (z:=[.slice none 0 0]) hE.1.2 rfl
  repeat((conv=>whnf);first|refine qz ?_|intro(_:Nat))
  conv=>whnf
  refine⟨fun hlt=>?_,fun hlt=>?_⟩
  ·have h':k<N:=by have:=of_decide_eq_true hlt;omega
   repeat((conv=>whnf);first|refine qz ?_|intro(_:Nat))
   conv=>whnf
   refine⟨⟨by decide,by decide,by decide,by decide⟩,fun _=>?_⟩
   repeat((conv=>whnf);first|refine qz ?_|intro(_:Nat))
   conv=>whnf
   refine⟨⟨by omega,by omega⟩,?_⟩
   repeat((conv=>whnf);first|refine qz ?_|intro(_:Nat))
   rename_i q2
   conv=>whnf
   refine fun g2 hg2 hn2 hp2=>?_
   have hrow:rSl 1 rU64 g2 (.slice (some ⟨q2,0,none⟩) 6 6) [0,0,0,0,0,0]:=qAF hp2.rd [0,0,0,0,0,0] (fun x=>.int .u64 x) rfl fun x hx=>⟨rfl,by simp at hx;subst hx;decide⟩
   have hset:=q0H (m:=N-k) (z:=[.slice none 0 0]) hE.1.2 rfl (by omega) (ec:=[.slice (some ⟨q2,0,none⟩) 6 6]) rfl hel.symm
   have hT:qnF (k+1)=qnF k++[[0,0,0,0,0,0]]:=by simp [qnF,List.range_succ]
   repeat((conv=>whnf);first|refine qz ?_|intro(_:Nat))
   conv=>whnf
   refine⟨⟨by rw [hlen,hel];simp;omega,by decide⟩,?_⟩
   repeat((conv=>whnf);first|refine qz ?_|intro(_:Nat))
   conv=>whnf
   refine fun fr w hw=>⟨(k+1,ecs++[[.slice (some ⟨q2,0,none⟩) 6 6]],g2),congrArg (fun z=>[Value.int .i64 z]) (by rw [wr (show InR ((k:Int)+1) by unfold InR;omega)];omega),⟨h',GW.trans hgg hg2,by rw [hT];exact qyN (qTM qQC hg2 hE) rfl ⟨_,rfl,hrow⟩⟩,dec h',hw.fit ?_⟩
   rw [show N-(k+1)=N-k-1 by omega,← hset]
   simp [fitL,Res.eqv,qBA,conc]
  have hkN:k=N:=by have:=of_decide_eq_false hlt;omega
  subst hkN
  repeat((conv=>whnf);first|refine qz ?_|intro(_:Nat))
  conv=>whnf
  refine fun g2 hg2 hn2 hp2=>?_
  rw [Nat.sub_self,qOH] at hp2
  have hSl:=qlS (qTM qQC hg2 hE) hp2 (by simp [qnF])
  repeat((conv=>whnf);first|refine qz ?_|intro(_:Nat))
  conv=>whnf
  intro g2 hg
  exact .inl ⟨⟨by omega,by omega⟩,_,_,rfl,hSl.mono qQC hg⟩)
/- Worlds: a new one. -/
open Go.Proofs.YthonngjhelcpeaaGreat.Sx Go.RowKit
abbrev zWs:List Value:=[.int .i64 0,.int .i64 0,.int .i64 0,.slice none 0 0,.slice none 0 0,.slice none 0 0,.slice none 0 0,.slice none 0 0]
def NewP (s:Snap) (l:List BA) (t:Int) (v:Value) (g':GW):Prop :=
 (qUS s l t∧∃ cs,v=.tuple #[.agg ⟨cs⟩,.int .i64 0]∧rWo g' cs (newW s l t.toNat))∨(¬ qUS s l t∧v=.tuple #[.agg ⟨zWs⟩,.int .i64 1])
theorem qaZ (g:GW) {cs:List Value} {s:Snap} {v:Value} {l:List BA} {t:Int} (hs:qRH g cs s) (hl:rSl 1 rStr g v l) (hsz:s.rules.length≤1000000) (hll:l.length≤1000000):Ok Tryz.prog q8S [.agg ⟨cs⟩,v,.int .i64 t] g (NewP s l t):=by
 have hs0:=hs
 obtain⟨a,b,d,rfl,⟨oa,ca,rfl,_⟩,⟨ob,cb,rfl,_⟩,⟨od,cd,rfl,_⟩⟩:=hs
 obtain⟨ol,cl,rfl,l1,l2,l0,hl1⟩:=id hl
 exact Ok.of_fn hm noT 0 qZS (args:=[.v (.agg ⟨[.slice oa s.listens.length ca,.slice ob s.rules.length cb,.slice od s.clusters.length cd]⟩),.v (.slice ol l.length cl),.v (.int .i64 t)]) (by
  repeat((conv=>whnf);first|refine qz ?_|intro(_:Nat)|intro(_:OA)_)
  rename_i q0 q1
  refine .inr ((qCX _ hs0 hsz).mono fun v g1 hg1 hC=>?_)
  rcases hC with ⟨hz,ka,kb,kd,oV,nV,cV,rfl,hV⟩|⟨hz,rfl⟩
  rotate_left
  ·repeat((conv=>whnf);first|refine qz ?_|intro(_:Nat)|intro(_:OA)_)
   conv=>whnf
   refine⟨fun _=>?_,fun h=>nomatch h⟩
   repeat((conv=>whnf);first|refine qz ?_|intro(_:Nat)|intro(_:OA)_)
   conv=>whnf
   intro g2 hg
   exact .inr ⟨fun h=>hz h.1,rfl⟩
  have hV0:=hV
  obtain⟨_,_,_,_,he,⟨_,_,_,he2,⟨sa,ta,rfl,_⟩,⟨sb,tb,rfl,_⟩,⟨sd,td,rfl,_⟩⟩,hG⟩:=hV
  simp only [List.cons.injEq,and_true] at he
  obtain⟨rfl,rfl,rfl,rfl,_⟩:=he
  cases he2
  repeat((conv=>whnf);first|refine qz ?_|intro(_:Nat)|intro(_:OA)_)
  rename_i q2
  conv=>whnf
  refine⟨fun h=>(nomatch h),fun _=>?_⟩
  repeat((conv=>whnf);first|refine qz ?_|intro(_:Nat)|intro(_:OA)_)
  refine .inr ((q0S _).mono fun v g2 hg2 hS=>?_)
  rcases hS with ⟨ht,oS,cS,rfl,hSh⟩|⟨ht,rfl⟩
  rotate_left
  ·repeat((conv=>whnf);first|refine qz ?_|intro(_:Nat)|intro(_:OA)_)
   conv=>whnf
   refine⟨fun _=>?_,fun h=>nomatch h⟩
   repeat((conv=>whnf);first|refine qz ?_|intro(_:Nat)|intro(_:OA)_)
   conv=>whnf
   intro g2 hg
   exact .inr ⟨fun h=>ht h.2.1,rfl⟩
  obtain⟨N,rfl⟩:=Int.eq_ofNat_of_zero_le (show 0≤t by omega)
  have hg02:=GW.trans hg1 hg2
  repeat((conv=>whnf);first|refine qz ?_|intro(_:Nat)|intro(_:OA)_)
  conv=>whnf
  refine⟨fun h=>(nomatch h),fun _=>?_⟩
  repeat((conv=>whnf);first|refine qz ?_|intro(_:Nat)|intro(_:OA)_)
  refine⟨?_,?_⟩
  ·repeat((conv=>whnf);first|refine qz ?_|intro(_:Nat)|intro(_:OA)_)
   conv=>whnf
   refine⟨⟨by omega,by omega,by omega,by omega⟩,fun _=>?_⟩
   repeat((conv=>whnf);first|refine qz ?_|intro(_:Nat)|intro(_:OA)_)
   rename_i qV qP qw
   conv=>whnf
   refine⟨Nat×Option Addr×Nat×Nat×GW,fun (k,_,_,_,_)=>[.v (.int .i64 k)],fun (k,oX,nX,cX,g')=>⟨g',[.blk 5 qw qIA [.v (.int .i64 0),.v (.int .i64 0),.v (.int .i64 0),.row 4 (some ⟨qP,0,none⟩) N N,.sl 3 qV 0 1 1,.v (.slice oX nX cX),.v (.slice oS N cS),.v (.slice none 0 0)],.row 4 (some ⟨qP,0,none⟩) N N qRA 1 (List.replicate N [Value.int .i64 0]).flatten,.blk 3 qV qFA [.v (.slice sa (qUA s).snap.listens.length ta),.v (.slice sb (qUA s).snap.rules.length tb),.v (.slice sd (qUA s).snap.clusters.length td),.v (.slice oV nV cV),.v (.bool false)],.blk 2 q2 qFA [.v (.slice sa (qUA s).snap.listens.length ta),.v (.slice sb (qUA s).snap.rules.length tb),.v (.slice sd (qUA s).snap.clusters.length td),.v (.slice oV nV cV),.v (.bool false)],.blk 1 q1 qIA [.v (.int .i64 0),.v (.int .i64 0),.v (.int .i64 0),.v (.slice none 0 0),.v (.slice none 0 0),.v (.slice none 0 0),.v (.slice none 0 0),.v (.slice none 0 0)],.blk 0 q0 qyA [.v (.slice oa s.listens.length ca),.v (.slice ob s.rules.length cb),.v (.slice od s.clusters.length cd)]],20,g.w.heap.size⟩,fun (k,oX,nX,cX,g')=>k≤l.length∧g2≤g'∧nX=k∧PbSl g' g.w.heap.size qeA 4 (.slice oX nX cX) nX ((lisL (l.take k)).map cLi).flatten∧(∀ a,oX=some a→¬ g2.g a.block)∧AllK (namF l) l k,fun (k,_,_,_,_)=>l.length-k,fun fr w hw=>⟨(0,none,0,0,g2),rfl,⟨Nat.zero_le _,GW.refl _,rfl,⟨rfl,.inl ⟨rfl,rfl⟩,fun u hu=>by cases hu⟩,(fun a h=>by cases h),AllK.zero _ _⟩,hw.fit (by simp [fitL,Res.eqv,qBA,conc])⟩,?_⟩
   rintro⟨k,oX,nX,cX,g'⟩ ⟨hk,hgg,hn,hpb,hnb,hAK⟩
   have hll2:(lisL (l.take k)).length=k:=by simp [lisL];omega
   have hlis:rSl 4 qNB g' (.slice oX nX cX) (lisL (l.take k)):=qSM hpb.rd (lisL (l.take k)) cLi rfl (by omega) (fun _ _=>rfl) fun x hx=>by
    obtain⟨y,_,rfl⟩:=List.mem_map.1 hx
    exact⟨rfl,show InR 0 by decide⟩
   repeat((conv=>whnf);first|refine qz ?_|intro(_:Nat)|intro(_:OA)_)
   conv=>whnf
   refine⟨fun hlt=>?_,fun hlt=>?_⟩
   ·have h':k<l.length:=by have:=of_decide_eq_true hlt;omega
    obtain⟨x,hx⟩:=qAA h'
    obtain⟨a,rfl,ec,hec,rfl,hc⟩:=hl1 k x hx
    have hbad:namF l k x=false→¬ qUS s l N:=fun hf h=>by have h3:=h.2.2;rw [qZA hx hf] at h3;cases h3
    repeat((conv=>whnf);first|refine qz ?_|intro(_:Nat)|intro(_:OA)_)
    conv=>whnf
    refine⟨a,rfl,⟨by omega,by omega⟩,?_⟩
    conv=>whnf
    refine⟨_,(hc.mono (GW.trans hg02 hgg)) 0 _ rfl,?_⟩
    repeat((conv=>whnf);first|refine qz ?_|intro(_:Nat)|intro(_:OA)_)
    conv=>whnf
    refine .inl ⟨_,quJ _ _,?_⟩
    repeat((conv=>whnf);first|refine qz ?_|intro(_:Nat)|intro(_:OA)_)
    conv=>whnf
    refine⟨fun y1=>?_,fun y1=>?_⟩
    ·repeat((conv=>whnf);first|refine qz ?_|intro(_:Nat)|intro(_:OA)_)
     conv=>whnf
     intro g2 hg
     exact .inr ⟨hbad (by unfold namF;rw [nb1 y1];rfl),rfl⟩
    repeat((conv=>whnf);first|refine qz ?_|intro(_:Nat)|intro(_:OA)_)
    conv=>whnf
    refine .inl ⟨_,qML _ hlis _,?_⟩
    repeat((conv=>whnf);first|refine qz ?_|intro(_:Nat)|intro(_:OA)_)
    conv=>whnf
    refine⟨fun y2=>?_,fun y2=>?_⟩
    ·repeat((conv=>whnf);first|refine qz ?_|intro(_:Nat)|intro(_:OA)_)
     conv=>whnf
     intro g2 hg
     exact .inr ⟨hbad (by unfold namF;rw [decide_eq_false (by have:=of_decide_eq_true y2;omega)];simp),rfl⟩
    have hnF:namF l k x=true:=by unfold namF;rw [nb0 y1,decide_eq_true (by have:=of_decide_eq_false y2;omega)];rfl
    have hT:=q1R hx
    rcases hpb.2.1 with ⟨he,hn0⟩|⟨bk,cap',rest,he,hb1,hb2,hb3,hb4,hb5⟩
    ·cases he
     have hk0:k=0:=by omega
     subst hk0
     repeat((conv=>whnf);first|refine qz ?_|intro(_:Nat)|intro(_:OA)_)
     conv=>whnf
     refine⟨⟨by unfold maxLen;omega,by omega⟩,fun oa3 cap3=>?_⟩
     repeat((conv=>whnf);first|refine qz ?_|intro(_:Nat)|intro(_:OA)_)
     conv=>whnf
     refine fun fr w hw=>by
      have hw1:HSim fr ⟨g',.row 70 oa3 (1) cap3 qeA 4 (cLi ⟨x,false,0,false⟩) :: [.blk 5 qw qIA [.v (.int .i64 0),.v (.int .i64 0),.v (.int .i64 0),.row 4 (some ⟨qP,0,none⟩) N N,.sl 3 qV 0 1 1,.v (.slice oa3 (1) cap3),.v (.slice oS N cS),.v (.slice none 0 0)],.row 4 (some ⟨qP,0,none⟩) N N qRA 1 (List.replicate N [Value.int .i64 0]).flatten,.blk 3 qV qFA [.v (.slice sa (qUA s).snap.listens.length ta),.v (.slice sb (qUA s).snap.rules.length tb),.v (.slice sd (qUA s).snap.clusters.length td),.v (.slice oV nV cV),.v (.bool false)],.blk 2 q2 qFA [.v (.slice sa (qUA s).snap.listens.length ta),.v (.slice sb (qUA s).snap.rules.length tb),.v (.slice sd (qUA s).snap.clusters.length td),.v (.slice oV nV cV),.v (.bool false)],.blk 1 q1 qIA [.v (.int .i64 0),.v (.int .i64 0),.v (.int .i64 0),.v (.slice none 0 0),.v (.slice none 0 0),.v (.slice none 0 0),.v (.slice none 0 0),.v (.slice none 0 0)],.blk 0 q0 qyA [.v (.slice oa s.listens.length ca),.v (.slice ob s.rules.length cb),.v (.slice od s.clusters.length cd)]],80,g.w.heap.size⟩ w:=hw.fit (by simp [fitL,Res.eqv,qBA,conc])
      obtain⟨g4,k1',k2,k3,k4⟩:=hw1.row_pub
      refine⟨(0+1,oa3,1,cap3,g4),congrArg (fun z=>[Value.int .i64 z]) (wr1 h' l1 l2).symm,⟨h',GW.trans hgg k1',rfl,?_,fun a ha q=>k2 a ha (hgg.2 _ q).1,hAK.succ hx hnF⟩,dec h',k4.fit (by simp [fitL,Res.eqv,qBA,conc])⟩
      rw [hT];exact k3
    ·cases he
     have hbk:¬ g2.g bk:=hnb _ rfl
     repeat((conv=>whnf);first|refine qz ?_|intro(_:Nat)|intro(_:OA)_)
     conv=>whnf
     refine .inr ⟨bk,_,rest,⟨rfl,hb1.1,hb1.2,hb2,hpb.1,hpb.2.2,hb3,hb4,hb5,by unfold maxLen;omega,by omega⟩,fun gL hless oa3 cap3=>?_⟩
     repeat((conv=>whnf);first|refine qz ?_|intro(_:Nat)|intro(_:OA)_)
     conv=>whnf
     refine fun fr w hw=>by
      have hw1:HSim fr ⟨gL,.row 70 oa3 (nX+1) cap3 qeA 4 (((lisL (l.take k)).map cLi).flatten++cLi ⟨x,false,0,false⟩) :: [.blk 5 qw qIA [.v (.int .i64 0),.v (.int .i64 0),.v (.int .i64 0),.row 4 (some ⟨qP,0,none⟩) N N,.sl 3 qV 0 1 1,.v (.slice oa3 (nX+1) cap3),.v (.slice oS N cS),.v (.slice none 0 0)],.row 4 (some ⟨qP,0,none⟩) N N qRA 1 (List.replicate N [Value.int .i64 0]).flatten,.blk 3 qV qFA [.v (.slice sa (qUA s).snap.listens.length ta),.v (.slice sb (qUA s).snap.rules.length tb),.v (.slice sd (qUA s).snap.clusters.length td),.v (.slice oV nV cV),.v (.bool false)],.blk 2 q2 qFA [.v (.slice sa (qUA s).snap.listens.length ta),.v (.slice sb (qUA s).snap.rules.length tb),.v (.slice sd (qUA s).snap.clusters.length td),.v (.slice oV nV cV),.v (.bool false)],.blk 1 q1 qIA [.v (.int .i64 0),.v (.int .i64 0),.v (.int .i64 0),.v (.slice none 0 0),.v (.slice none 0 0),.v (.slice none 0 0),.v (.slice none 0 0),.v (.slice none 0 0)],.blk 0 q0 qyA [.v (.slice oa s.listens.length ca),.v (.slice ob s.rules.length cb),.v (.slice od s.clusters.length cd)]],80,g.w.heap.size⟩ w:=hw.fit (by simp [fitL,Res.eqv,qBA,conc])
      obtain⟨g4,k1',k2,k3,k4⟩:=hw1.row_pub
      have hgL:=hless.le hgg hbk
      refine⟨(k+1,oa3,nX+1,cap3,g4),congrArg (fun z=>[Value.int .i64 z]) (wr1 h' l1 l2).symm,⟨h',GW.trans hgL k1',by omega,?_,fun a ha q=>k2 a ha (hgL.2 _ q).1,hAK.succ hx hnF⟩,dec h',k4.fit (by simp [fitL,Res.eqv,qBA,conc])⟩
      rw [hT];simpa using k3
   have hkL:k=l.length:=by have:=of_decide_eq_false hlt;omega
   subst hkL
   have hok:qUS s l N:=⟨hz,ht,hAK.done (Nat.le_refl _)⟩
   rw [List.take_length] at hlis
   repeat((conv=>whnf);first|refine qz ?_|intro(_:Nat)|intro(_:OA)_)
   conv=>whnf
   refine fun gA kA nA pA=>?_
   repeat((conv=>whnf);first|refine qz ?_|intro(_:Nat)|intro(_:OA)_)
   conv=>whnf
   refine⟨5,rfl,by unfold maxLen;omega,fun gB kB nB pB=>?_⟩
   repeat((conv=>whnf);first|refine qz ?_|intro(_:Nat)|intro(_:OA)_)
   conv=>whnf
   intro g2 hg
   have mA:=GW.trans kA (GW.trans kB hg)
   refine .inl ⟨hok,_,rfl,_,_,_,_,_,rfl,⟨show InR 0 by decide,show InR 0 by decide,show InR 0 by decide⟩,?_,?_,hlis.mono qxB mA,hSh.mono qQC (GW.trans hgg mA),⟨none,0,rfl,Nat.le_refl _,Nat.zero_le _,fun _=>⟨rfl,rfl⟩,fun i x hx=>by simp [newW] at hx⟩⟩
   ·exact(qAF pA.rd (List.replicate N 0) (fun x=>.int .i64 x) (by simp [List.flatten_replicate_singleton]) fun x hx=>⟨rfl,by rw [List.eq_of_mem_replicate hx];decide⟩).mono qHB (GW.trans kB hg)
   ·refine q4M (pB.rd.mono hg) [qUA s] [[.slice sa (qUA s).snap.listens.length ta,.slice sb (qUA s).snap.rules.length tb,.slice sd (qUA s).snap.clusters.length td,.slice oV nV cV,.bool false]] rfl (fun e he=>?_) rfl rfl fun i x ec hx hec=>?_
    ·simp at he;subst he;rfl
    ·cases i with
     | zero =>
      simp at hx hec
      subst hx;subst hec
      exact qGL _ _ _ _ (GW.trans hg2 (GW.trans hgg mA)) hV0
     | succ i=>simp at hx
  ·repeat((conv=>whnf);first|refine qz ?_|intro(_:Nat)|intro(_:OA)_)
   conv=>whnf
   refine⟨⟨by omega,by omega,by omega,by omega⟩,fun _=>?_⟩
   repeat((conv=>whnf);first|refine qz ?_|intro(_:Nat)|intro(_:OA)_)
   rename_i qP qV qw
   conv=>whnf
   refine⟨Nat×Option Addr×Nat×Nat×GW,fun (k,_,_,_,_)=>[.v (.int .i64 k)],fun (k,oX,nX,cX,g')=>⟨g',[.blk 5 qw qIA [.v (.int .i64 0),.v (.int .i64 0),.v (.int .i64 0),.row 3 (some ⟨qP,0,none⟩) N N,.sl 4 qV 0 1 1,.v (.slice oX nX cX),.v (.slice oS N cS),.v (.slice none 0 0)],.blk 4 qV qFA [.v (.slice sa (qUA s).snap.listens.length ta),.v (.slice sb (qUA s).snap.rules.length tb),.v (.slice sd (qUA s).snap.clusters.length td),.v (.slice oV nV cV),.v (.bool false)],.row 3 (some ⟨qP,0,none⟩) N N qRA 1 (List.replicate N [Value.int .i64 0]).flatten,.blk 2 q2 qFA [.v (.slice sa (qUA s).snap.listens.length ta),.v (.slice sb (qUA s).snap.rules.length tb),.v (.slice sd (qUA s).snap.clusters.length td),.v (.slice oV nV cV),.v (.bool false)],.blk 1 q1 qIA [.v (.int .i64 0),.v (.int .i64 0),.v (.int .i64 0),.v (.slice none 0 0),.v (.slice none 0 0),.v (.slice none 0 0),.v (.slice none 0 0),.v (.slice none 0 0)],.blk 0 q0 qyA [.v (.slice oa s.listens.length ca),.v (.slice ob s.rules.length cb),.v (.slice od s.clusters.length cd)]],20,g.w.heap.size⟩,fun (k,oX,nX,cX,g')=>k≤l.length∧g2≤g'∧nX=k∧PbSl g' g.w.heap.size qeA 4 (.slice oX nX cX) nX ((lisL (l.take k)).map cLi).flatten∧(∀ a,oX=some a→¬ g2.g a.block)∧AllK (namF l) l k,fun (k,_,_,_,_)=>l.length-k,fun fr w hw=>⟨(0,none,0,0,g2),rfl,⟨Nat.zero_le _,GW.refl _,rfl,⟨rfl,.inl ⟨rfl,rfl⟩,fun u hu=>by cases hu⟩,(fun a h=>by cases h),AllK.zero _ _⟩,hw.fit (by simp [fitL,Res.eqv,qBA,conc])⟩,?_⟩
   rintro⟨k,oX,nX,cX,g'⟩ ⟨hk,hgg,hn,hpb,hnb,hAK⟩
   have hll2:(lisL (l.take k)).length=k:=by simp [lisL];omega
   have hlis:rSl 4 qNB g' (.slice oX nX cX) (lisL (l.take k)):=qSM hpb.rd (lisL (l.take k)) cLi rfl (by omega) (fun _ _=>rfl) fun x hx=>by
    obtain⟨y,_,rfl⟩:=List.mem_map.1 hx
    exact⟨rfl,show InR 0 by decide⟩
   repeat((conv=>whnf);first|refine qz ?_|intro(_:Nat)|intro(_:OA)_)
   conv=>whnf
   refine⟨fun hlt=>?_,fun hlt=>?_⟩
   ·have h':k<l.length:=by have:=of_decide_eq_true hlt;omega
    obtain⟨x,hx⟩:=qAA h'
    obtain⟨a,rfl,ec,hec,rfl,hc⟩:=hl1 k x hx
    have hbad:namF l k x=false→¬ qUS s l N:=fun hf h=>by have h3:=h.2.2;rw [qZA hx hf] at h3;cases h3
    repeat((conv=>whnf);first|refine qz ?_|intro(_:Nat)|intro(_:OA)_)
    conv=>whnf
    refine⟨a,rfl,⟨by omega,by omega⟩,?_⟩
    conv=>whnf
    refine⟨_,(hc.mono (GW.trans hg02 hgg)) 0 _ rfl,?_⟩
    repeat((conv=>whnf);first|refine qz ?_|intro(_:Nat)|intro(_:OA)_)
    conv=>whnf
    refine .inl ⟨_,quJ _ _,?_⟩
    repeat((conv=>whnf);first|refine qz ?_|intro(_:Nat)|intro(_:OA)_)
    conv=>whnf
    refine⟨fun y1=>?_,fun y1=>?_⟩
    ·repeat((conv=>whnf);first|refine qz ?_|intro(_:Nat)|intro(_:OA)_)
     conv=>whnf
     intro g2 hg
     exact .inr ⟨hbad (by unfold namF;rw [nb1 y1];rfl),rfl⟩
    repeat((conv=>whnf);first|refine qz ?_|intro(_:Nat)|intro(_:OA)_)
    conv=>whnf
    refine .inl ⟨_,qML _ hlis _,?_⟩
    repeat((conv=>whnf);first|refine qz ?_|intro(_:Nat)|intro(_:OA)_)
    conv=>whnf
    refine⟨fun y2=>?_,fun y2=>?_⟩
    ·repeat((conv=>whnf);first|refine qz ?_|intro(_:Nat)|intro(_:OA)_)
     conv=>whnf
     intro g2 hg
     exact .inr ⟨hbad (by unfold namF;rw [decide_eq_false (by have:=of_decide_eq_true y2;omega)];simp),rfl⟩
    have hnF:namF l k x=true:=by unfold namF;rw [nb0 y1,decide_eq_true (by have:=of_decide_eq_false y2;omega)];rfl
    have hT:=q1R hx
    rcases hpb.2.1 with ⟨he,hn0⟩|⟨bk,cap',rest,he,hb1,hb2,hb3,hb4,hb5⟩
    ·cases he
     have hk0:k=0:=by omega
     subst hk0
     repeat((conv=>whnf);first|refine qz ?_|intro(_:Nat)|intro(_:OA)_)
     conv=>whnf
     refine⟨⟨by unfold maxLen;omega,by omega⟩,fun oa3 cap3=>?_⟩
     repeat((conv=>whnf);first|refine qz ?_|intro(_:Nat)|intro(_:OA)_)
     conv=>whnf
     refine fun fr w hw=>by
      have hw1:HSim fr ⟨g',.row 70 oa3 (1) cap3 qeA 4 (cLi ⟨x,false,0,false⟩) :: [.blk 5 qw qIA [.v (.int .i64 0),.v (.int .i64 0),.v (.int .i64 0),.row 3 (some ⟨qP,0,none⟩) N N,.sl 4 qV 0 1 1,.v (.slice oa3 (1) cap3),.v (.slice oS N cS),.v (.slice none 0 0)],.blk 4 qV qFA [.v (.slice sa (qUA s).snap.listens.length ta),.v (.slice sb (qUA s).snap.rules.length tb),.v (.slice sd (qUA s).snap.clusters.length td),.v (.slice oV nV cV),.v (.bool false)],.row 3 (some ⟨qP,0,none⟩) N N qRA 1 (List.replicate N [Value.int .i64 0]).flatten,.blk 2 q2 qFA [.v (.slice sa (qUA s).snap.listens.length ta),.v (.slice sb (qUA s).snap.rules.length tb),.v (.slice sd (qUA s).snap.clusters.length td),.v (.slice oV nV cV),.v (.bool false)],.blk 1 q1 qIA [.v (.int .i64 0),.v (.int .i64 0),.v (.int .i64 0),.v (.slice none 0 0),.v (.slice none 0 0),.v (.slice none 0 0),.v (.slice none 0 0),.v (.slice none 0 0)],.blk 0 q0 qyA [.v (.slice oa s.listens.length ca),.v (.slice ob s.rules.length cb),.v (.slice od s.clusters.length cd)]],80,g.w.heap.size⟩ w:=hw.fit (by simp [fitL,Res.eqv,qBA,conc])
      obtain⟨g4,k1',k2,k3,k4⟩:=hw1.row_pub
      refine⟨(0+1,oa3,1,cap3,g4),congrArg (fun z=>[Value.int .i64 z]) (wr1 h' l1 l2).symm,⟨h',GW.trans hgg k1',rfl,?_,fun a ha q=>k2 a ha (hgg.2 _ q).1,hAK.succ hx hnF⟩,dec h',k4.fit (by simp [fitL,Res.eqv,qBA,conc])⟩
      rw [hT];exact k3
    ·cases he
     have hbk:¬ g2.g bk:=hnb _ rfl
     repeat((conv=>whnf);first|refine qz ?_|intro(_:Nat)|intro(_:OA)_)
     conv=>whnf
     refine .inr ⟨bk,_,rest,⟨rfl,hb1.1,hb1.2,hb2,hpb.1,hpb.2.2,hb3,hb4,hb5,by unfold maxLen;omega,by omega⟩,fun gL hless oa3 cap3=>?_⟩
     repeat((conv=>whnf);first|refine qz ?_|intro(_:Nat)|intro(_:OA)_)
     conv=>whnf
     refine fun fr w hw=>by
      have hw1:HSim fr ⟨gL,.row 70 oa3 (nX+1) cap3 qeA 4 (((lisL (l.take k)).map cLi).flatten++cLi ⟨x,false,0,false⟩) :: [.blk 5 qw qIA [.v (.int .i64 0),.v (.int .i64 0),.v (.int .i64 0),.row 3 (some ⟨qP,0,none⟩) N N,.sl 4 qV 0 1 1,.v (.slice oa3 (nX+1) cap3),.v (.slice oS N cS),.v (.slice none 0 0)],.blk 4 qV qFA [.v (.slice sa (qUA s).snap.listens.length ta),.v (.slice sb (qUA s).snap.rules.length tb),.v (.slice sd (qUA s).snap.clusters.length td),.v (.slice oV nV cV),.v (.bool false)],.row 3 (some ⟨qP,0,none⟩) N N qRA 1 (List.replicate N [Value.int .i64 0]).flatten,.blk 2 q2 qFA [.v (.slice sa (qUA s).snap.listens.length ta),.v (.slice sb (qUA s).snap.rules.length tb),.v (.slice sd (qUA s).snap.clusters.length td),.v (.slice oV nV cV),.v (.bool false)],.blk 1 q1 qIA [.v (.int .i64 0),.v (.int .i64 0),.v (.int .i64 0),.v (.slice none 0 0),.v (.slice none 0 0),.v (.slice none 0 0),.v (.slice none 0 0),.v (.slice none 0 0)],.blk 0 q0 qyA [.v (.slice oa s.listens.length ca),.v (.slice ob s.rules.length cb),.v (.slice od s.clusters.length cd)]],80,g.w.heap.size⟩ w:=hw.fit (by simp [fitL,Res.eqv,qBA,conc])
      obtain⟨g4,k1',k2,k3,k4⟩:=hw1.row_pub
      have hgL:=hless.le hgg hbk
      refine⟨(k+1,oa3,nX+1,cap3,g4),congrArg (fun z=>[Value.int .i64 z]) (wr1 h' l1 l2).symm,⟨h',GW.trans hgL k1',by omega,?_,fun a ha q=>k2 a ha (hgL.2 _ q).1,hAK.succ hx hnF⟩,dec h',k4.fit (by simp [fitL,Res.eqv,qBA,conc])⟩
      rw [hT];simpa using k3
   have hkL:k=l.length:=by have:=of_decide_eq_false hlt;omega
   subst hkL
   have hok:qUS s l N:=⟨hz,ht,hAK.done (Nat.le_refl _)⟩
   rw [List.take_length] at hlis
   repeat((conv=>whnf);first|refine qz ?_|intro(_:Nat)|intro(_:OA)_)
   conv=>whnf
   refine fun gA kA nA pA=>?_
   repeat((conv=>whnf);first|refine qz ?_|intro(_:Nat)|intro(_:OA)_)
   conv=>whnf
   refine⟨5,rfl,by unfold maxLen;omega,fun gB kB nB pB=>?_⟩
   repeat((conv=>whnf);first|refine qz ?_|intro(_:Nat)|intro(_:OA)_)
   conv=>whnf
   intro g2 hg
   have mA:=GW.trans kA (GW.trans kB hg)
   refine .inl ⟨hok,_,rfl,_,_,_,_,_,rfl,⟨show InR 0 by decide,show InR 0 by decide,show InR 0 by decide⟩,?_,?_,hlis.mono qxB mA,hSh.mono qQC (GW.trans hgg mA),⟨none,0,rfl,Nat.le_refl _,Nat.zero_le _,fun _=>⟨rfl,rfl⟩,fun i x hx=>by simp [newW] at hx⟩⟩
   ·exact(qAF pA.rd (List.replicate N 0) (fun x=>.int .i64 x) (by simp [List.flatten_replicate_singleton]) fun x hx=>⟨rfl,by rw [List.eq_of_mem_replicate hx];decide⟩).mono qHB (GW.trans kB hg)
   ·refine q4M (pB.rd.mono hg) [qUA s] [[.slice sa (qUA s).snap.listens.length ta,.slice sb (qUA s).snap.rules.length tb,.slice sd (qUA s).snap.clusters.length td,.slice oV nV cV,.bool false]] rfl (fun e he=>?_) rfl rfl fun i x ec hx hec=>?_
    ·simp at he;subst he;rfl
    ·cases i with
     | zero =>
      simp at hx hec
      subst hx;subst hec
      exact qGL _ _ _ _ (GW.trans hg2 (GW.trans hgg mA)) hV0
     | succ i=>simp at hx)
/- Pins: the law's example,first part. -/
open Go.Proofs.YthonngjhelcpeaaGreat.Sx Go.RowKit
end Go.Proofs.YthonngjhelcpeaaGreat
