/- Collectors: with nobody in between. -/
import Derived.Test.YtkbbljngpglnkaaLW24p4
import Derived.Test.YtkbbljngpglnkaaPl
import Derived.Test.YtkbbljngpglnkaaLW9e
import Derived.Test.YtkbbljngpglnkaaLS7b
import Derived.Test.YtkbbljngpglnkaaLW9o
set_option linter.unusedVariables false
set_option linter.unusedSimpArgs false
namespace Go.Proofs.Ytkbbljngpglnkaa
open Go.Proofs.Ytkbbljngpglnkaa.Sx Go.RowKit
set_option maxHeartbeats 16000000
set_option maxRecDepth 100000
structure CoSt where
 j:Nat
 g:GW
 w:Wd
 oa:Option Addr
 ca:Nat
 ob:Option Addr
 cb:Nat
 oc:Option Addr
 cc:Nat
 od:Option Addr
 cd:Nat
 oe:Option Addr
 ce:Nat
 m:Mach
 o1:Option Addr
 t1:Nat
 o2:Option Addr
 t2:Nat
 o3:Option Addr
 t3:Nat
abbrev CoSt.wc (x:CoSt):List Value:=[.int .i64 x.w.epoch,.int .i64 x.w.current,.int .i64 x.w.lock,.slice x.oa x.w.pins.length x.ca,.slice x.ob x.w.versions.length x.cb,.slice x.oc x.w.listens.length x.cc,.slice x.od x.w.counts.length x.cd,.slice x.oe x.w.limbo.length x.ce]
abbrev CoSt.mc (x:CoSt):List Value:=x.m.cs (.slice x.o1 x.m.op.config.listens.length x.t1) (.slice x.o2 x.m.op.config.routes.length x.t2) (.slice x.o3 x.m.op.config.clusters.length x.t3)
theorem qfP {K:Nat} {w w':Wd} (h:SnW w) (k:KeptW K w w'):SnW w':=fun v hv=>by
 obtain⟨u,hu,e⟩:=k.2 v hv
 rw [← e];exact h u hu
theorem CWay.sn:∀ {k:Nat} {w:Wd} {m:Mach} {x:Wd} {m':Mach},CWay k w m x m'→SnW w→SnW x
 | 0,_,_,_,_,⟨h1,_⟩,hb=>by rw [h1];exact hb
 | _+1,_,_,_,_,⟨_,hg,h⟩,hb=>CWay.sn h (qfP (K:=0) hb (qDK hg).1)
abbrev CaP (x:Wd) (n:Mach) (k:Nat) (v:Value) (g':GW):Prop:=∃ cs ms,v=.tuple #[.agg ⟨cs⟩,.agg ⟨ms⟩,.int .i64 k]∧rWo g' cs x∧qnC g' ms n
theorem qiK (g:GW) {cs ms:List Value} {w x:Wd} {m n:Mach} {k:Nat} (hw:rWo g cs w) (hM:qnC g ms m) (hsn:SnW w) (hb:BgW 1000000 w) (hway:CWay k w m x n) (hd:n.done=true) (hk:k<3000):Ok Try.prog qgF [.agg ⟨cs⟩,.agg ⟨ms⟩] g (CaP x n k):=by
 obtain⟨oa,ca,ob,cb,oc,cc,od,cd,oe,ce,rfl⟩:=qfA hw
 obtain⟨o1,t1,o2,t2,o3,t3,rfl⟩:=qRF hM
 exact Ok.of_fn hm noT 0 qaF (args:=[.v (.agg ⟨wQ w oa ca ob cb oc cc od cd oe ce⟩),.v (.agg ⟨mQ m o1 t1 o2 t2 o3 t3⟩)]) (by
  repeat((conv=>whnf);first|apply qza|apply qzb|apply qzc|apply qzd|apply qze|intro(_:Nat))
  rename_i q0 q1 q2 q3
  repeat((conv=>whnf);first|apply qza|apply qzb|apply qzc|apply qzd|apply qze|intro(_:Nat))
  conv=>whnf
  refine⟨CoSt,fun x=>[.v (.int .i64 x.j)],fun y=>⟨y.g,[.blk 3 q3 qpF zl0,.blk 2 q2 qIA [.v (.int .i64 0),.v (.int .i64 0),.v (.int .i64 0),.v (.slice none 0 0),.v (.slice none 0 0),.v (.slice none 0 0),.v (.slice none 0 0),.v (.slice none 0 0)],.blk 1 q1 qpF (y.mc.map SV.v),.blk 0 q0 qIA (y.wc.map SV.v)],_,_⟩,fun y=>y.j≤k∧g≤y.g∧rWo y.g y.wc y.w∧qnC y.g y.mc y.m∧CWay (k-y.j) y.w y.m x n∧SnW y.w∧BgW 1000000 y.w,fun y=>k-y.j,qSA (⟨0,g,w,oa,ca,ob,cb,oc,cc,od,cd,oe,ce,m,o1,t1,o2,t2,o3,t3⟩:CoSt) rfl ⟨Nat.zero_le _,GW.refl _,hw,hM,hway,hsn,hb⟩ rfl,?_⟩
  clear hM hw hsn hb hway
  intro y hy
  obtain⟨j,gx,w,oa,ca,ob,cb,oc,cc,od,cd,oe,ce,m,o1,t1,o2,t2,o3,t3⟩:=y
  obtain⟨hj,hxg,hxw,hxM,hway,hsn,hb⟩:=hy
  replace hj:j≤k:=hj
  replace hway:CWay (k-j) w m x n:=hway
  replace hb:BgW 1000000 w:=hb
  replace hsn:SnW w:=hsn
  repeat((conv=>whnf);first|apply qza|apply qzb|apply qzc|apply qzd|apply qze|intro(_:Nat))
  conv=>whnf
  refine⟨fun _=>?_,fun hx=>absurd (of_decide_eq_false hx) (by show ¬ ¬ ((j:Int)<3000);omega)⟩
  by_cases hjk:j=k
  ·subst hjk
   rw [Nat.sub_self] at hway
   obtain⟨e1,e2⟩:=hway
   subst e1
   subst e2
   repeat((conv=>whnf);first|apply qza|apply qzb|apply qzc|apply qzd|apply qze|intro(_:Nat))
   conv=>whnf
   refine⟨fun hx=>absurd hx (by simp [hd]),fun _=>?_⟩
   repeat'((conv=>whnf);first|apply qza|apply qzb|apply qzc|apply qzd|apply qze|intro(_:Nat)|refine And.intro ?_ ?_|fail)
   all_goals (conv=>whnf)
   all_goals (first|exact Eq.refl _|(
   intro g2 hg
   exact⟨_,_,rfl,qHA _ _ _ _ hg hxw,q4G _ _ _ _ hg hxM⟩))
  ·obtain⟨d,hdk⟩:∃ d,k-j=d+1:=⟨k-j-1,by omega⟩
   rw [hdk] at hway
   obtain⟨hnd,hgo,hway⟩:=hway
   have hkp:=(qDK (K:=1000000) hgo).1
   obtain⟨e1,e2,e3⟩:=qXI hgo
   repeat((conv=>whnf);first|apply qza|apply qzb|apply qzc|apply qzd|apply qze|intro(_:Nat))
   conv=>whnf
   refine⟨fun _=>?_,fun hx=>absurd hx (by simp [hnd])⟩
   repeat((conv=>whnf);first|apply qza|apply qzb|apply qzc|apply qzd|apply qze|intro(_:Nat))
   refine .inr ((qCP _ hxw hxM hsn hb).mono fun v g4 hg4 hO=>?_)
   obtain⟨csa,msa,rfl,hwa,hMa⟩:=hO
   rw [e1] at hwa
   rw [e2] at hMa
   rw [e3]
   obtain⟨r1,r2,r3,r4,r5,r6,r7,r8,r9,r10,rfl⟩:=qfA hwa
   obtain⟨s1,s2,s3,s4,s5,s6,rfl⟩:=qRF hMa
   repeat((conv=>whnf);first|apply qza|apply qzb|apply qzc|apply qzd|apply qze|intro(_:Nat))
   conv=>whnf
   refine⟨fun hx=>absurd (beqT hx) (qWR hgo),fun _=>?_⟩
   repeat((conv=>whnf);first|apply qza|apply qzb|apply qzc|apply qzd|apply qze|intro(_:Nat))
   conv=>whnf
   refine fun fr u hu=>⟨⟨j+1,g4,cW w m,r1,r2,r3,r4,r5,r6,r7,r8,r9,r10,cM w m,s1,s2,s3,s4,s5,s6⟩,congrArg (fun z=>[Value.int .i64 z]) (show((j+1:Nat):Int)=IntKind.i64.wrap ((j:Int)+1) by rw [wr (x:=(j:Int)+1) (by unfold InR;omega)];omega),⟨by show j+1≤k;omega,GW.trans hxg hg4,hwa,hMa,by show CWay (k-(j+1)) _ _ _ _;rw [show k-(j+1)=d by omega];exact hway,qfP hsn hkp,hkp.1 hb⟩,by show k-(j+1)<k-j;omega,?_⟩
   exact hu.fit (by simp [fitL,Res.eqv,qAA,conc]))
/- Slots: those of a new endpoint. -/
open Go.Proofs.Ytkbbljngpglnkaa.Sx Go.RowKit
def qeR (n:Int) (v:Value) (g':GW):Prop :=
 ((1≤n∧n≤4)∧∃ oa cap,v=.tuple #[.agg ⟨[.int .u64 1,.slice oa n.toNat cap,.int .i64 0]⟩,.int .i64 0]∧rSl 1 rInt g' (.slice oa n.toNat cap) (qRB n.toNat).next) ∨
 (¬ (1≤n∧n≤4)∧v=.tuple #[.agg ⟨[.int .u64 0,.slice none 0 0,.int .i64 0]⟩,.int .i64 1])
abbrev upE (k:Nat):List (List Value):=(List.range k).map fun (i:Nat)=>[Value.int .i64 ((i:Int)+1)]
theorem qrO (k:Nat):upE (k+1)=upE k++[[Value.int .i64 ((k:Int)+1)]]:=by simp [upE,List.range_succ]
theorem qeP {k:Nat}:∀ e∈upE k,e.length=1:=fun e he=>by
 obtain⟨x,_,rfl⟩:=List.mem_map.1 he;rfl
theorem qEP (g:GW) {n:Int}:Ok Try.prog qrJ [.int .i64 n] g (qeR n) :=
 Ok.of_fn hm noT 0 qYJ (args:=[.v (.int .i64 n)]) (by
  repeat((conv=>whnf);first|apply qza|apply qzb|apply qzc|apply qzd|apply qze|intro(_:Nat))
  conv=>whnf
  refine⟨fun z1=>?_,fun z1=>?_⟩
  ·repeat((conv=>whnf);first|apply qza|apply qzb|apply qzc|apply qzd|apply qze|intro(_:Nat))
   conv=>whnf
   intro g2 hg
   exact .inr ⟨by have:=of_decide_eq_true z1;omega,rfl⟩
  repeat((conv=>whnf);first|apply qza|apply qzb|apply qzc|apply qzd|apply qze|intro(_:Nat))
  conv=>whnf
  refine⟨fun z2=>?_,fun z2=>?_⟩
  ·repeat((conv=>whnf);first|apply qza|apply qzb|apply qzc|apply qzd|apply qze|intro(_:Nat))
   conv=>whnf
   intro g2 hg
   exact .inr ⟨by have:=of_decide_eq_true z2;omega,rfl⟩
  have k1:=of_decide_eq_false z1
  have k2:=of_decide_eq_false z2
  obtain⟨N,rfl⟩:=Int.eq_ofNat_of_zero_le (show 0≤n by omega)
  repeat((conv=>whnf);first|apply qza|apply qzb|apply qzc|apply qzd|apply qze|intro(_:Nat))
  conv=>whnf
  refine⟨⟨by omega,by omega,by omega,by omega⟩,fun _=>?_⟩
  repeat((conv=>whnf);first|apply qza|apply qzb|apply qzc|apply qzd|apply qze|intro(_:Nat))
  rename_i q0 q1 q2
  conv=>whnf
  refine⟨Nat,fun k=>[.v (.int .i64 k)],fun k=>⟨g,[.blk 2 q2 qZA [.v (.int .u64 0),.row 1 (some ⟨q1,0,none⟩) N N,.v (.int .i64 0)],.row 1 (some ⟨q1,0,none⟩) N N q4A 1 (rowK (upE k) [.int .i64 0] (N-k)),.blk 0 q0 qZA [.v (.int .u64 0),.v (.slice none 0 0),.v (.int .i64 0)]],3,g.w.heap.size⟩,fun k=>k≤N,fun k=>N-k,fun fr w hw=>⟨0,rfl,Nat.zero_le _,hw.fit (by simp [fitL,Res.eqv,qAA,conc,rowK,upE])⟩,?_⟩
  intro k hk
  have hlen:=qQF (m:=N-k) (z:=[.int .i64 0]) (qeP (k:=k)) rfl
  have hul:(upE k).length=k:=by simp [upE]
  repeat((conv=>whnf);first|apply qza|apply qzb|apply qzc|apply qzd|apply qze|intro(_:Nat))
  conv=>whnf
  refine⟨fun hlt=>?_,fun hlt=>?_⟩
  ·have h':k<N:=by have:=of_decide_eq_true hlt;omega
   have hset:=qPF (m:=N-k) (z:=[.int .i64 0]) (qeP (k:=k)) rfl (by omega) (ec:=[.int .i64 ((k:Int)+1)]) rfl hul.symm
   rw [← qrO] at hset
   repeat((conv=>whnf);first|apply qza|apply qzb|apply qzc|apply qzd|apply qze|intro(_:Nat))
   conv=>whnf
   refine⟨⟨by omega,by omega⟩,?_⟩
   repeat((conv=>whnf);first|apply qza|apply qzb|apply qzc|apply qzd|apply qze|intro(_:Nat))
   conv=>whnf
   refine⟨⟨by rw [hlen,hul];simp;omega,by decide⟩,?_⟩
   repeat((conv=>whnf);first|apply qza|apply qzb|apply qzc|apply qzd|apply qze|intro(_:Nat))
   conv=>whnf
   refine fun fr w hw=>⟨k+1,congrArg (fun z=>[Value.int .i64 z]) (by rw [wr (show InR ((k:Int)+1) by unfold InR;omega)];omega),h',dec h',hw.fit ?_⟩
   rw [show N-(k+1)=N-k-1 by omega,← hset]
   simp [fitL,Res.eqv,qAA,conc,wr (show InR ((k:Int)+1) by unfold InR;omega)]
  have hkN:k=N:=by have:=of_decide_eq_false hlt;omega
  subst hkN
  rw [Nat.sub_self,hul] at hlen
  repeat((conv=>whnf);first|apply qza|apply qzb|apply qzc|apply qzd|apply qze|intro(_:Nat))
  conv=>whnf
  refine⟨⟨by rw [wr (by unfold InR;omega)];omega,by rw [wr (by unfold InR;omega)];omega⟩,?_⟩
  repeat((conv=>whnf);first|apply qza|apply qzb|apply qzc|apply qzd|apply qze|intro(_:Nat))
  conv=>whnf
  refine⟨⟨by rw [Nat.sub_self,hlen,wr (by unfold InR;omega)];simp;omega,by decide⟩,?_⟩
  repeat((conv=>whnf);first|apply qza|apply qzb|apply qzc|apply qzd|apply qze|intro(_:Nat))
  conv=>whnf
  refine .inl ⟨_,(q7O _ (t:=0) (i:=0) (by decide) (by decide)).to (show _=Value.tuple #[.int .u64 1,.int .i64 0] from rfl),?_⟩
  repeat((conv=>whnf);first|apply qza|apply qzb|apply qzc|apply qzd|apply qze|intro(_:Nat))
  conv=>whnf
  refine fun g1 hg1 hn1 hp1=>?_
  repeat((conv=>whnf);first|apply qza|apply qzb|apply qzc|apply qzd|apply qze|intro(_:Nat))
  conv=>whnf
  intro g2 hg
  refine .inl ⟨⟨by omega,by omega⟩,_,_,rfl,?_⟩
  have hN:k=1∨k=2∨k=3∨k=4:=by omega
  rcases hN with rfl|rfl|rfl|rfl
  all_goals exact(q8E hp1.rd (qRB _).next (fun x=>.int .i64 x) rfl fun x hx=>⟨rfl,by simp [qRB,List.range,List.range.loop] at hx;unfold InR;omega⟩).mono qnB hg)
theorem qRP {g:GW} {n:Int} {oa:Option Addr} {cap:Nat} (h:1≤n∧n≤4) (hr:rSl 1 rInt g (.slice oa n.toNat cap) (qRB n.toNat).next):rEn g [.int .u64 1,.slice oa n.toNat cap,.int .i64 0] (qRB n.toNat) :=
 ⟨⟨_,rfl,show InU 1 by decide,show InR 0 by decide,hr⟩,by simp [qRB];omega⟩
/- Worlds: a snapshot's cells. -/
open Go.Proofs.Ytkbbljngpglnkaa.Sx Go.RowKit
def qgR (s:Snap) (v:Value) (g':GW):Prop :=
 (qzA (quE s)=none∧∃ a b d oa n cap,v=.tuple #[.agg ⟨[a,b,d,.slice oa n cap,.bool false]⟩,.int .i64 0]∧rVe g' [a,b,d,.slice oa n cap,.bool false] (qFA s)) ∨
 (qzA (quE s)≠none∧v=.tuple #[.agg ⟨[.slice none 0 0,.slice none 0 0,.slice none 0 0,.slice none 0 0,.bool false]⟩,.int .i64 1])
theorem qbM (g:GW) {cs:List Value} {s:Snap} (hs:qwH g cs s) (hsz:s.rules.length≤1000000):Ok Try.prog qoJ [.agg ⟨cs⟩] g (qgR s):=by
 have hs0:=hs
 obtain⟨a,b,d,rfl,hl,hr,hk⟩:=hs
 obtain⟨oa,ca,rfl,a1,a2,a0,hl1⟩:=id hl
 obtain⟨ob,cb,rfl,b1,b2,b0,hr1⟩:=id hr
 obtain⟨od,cd,rfl,d1,d2,d0,hk1⟩:=id hk
 exact Ok.of_fn hm noT 0 qVJ (args:=[.v (.agg ⟨[.slice oa s.listens.length ca,.slice ob s.rules.length cb,.slice od s.clusters.length cd]⟩)]) (by
  repeat((conv=>whnf);first|apply qza|apply qzb|apply qzc|apply qzd|apply qze|intro(_:Nat)|intro(_:OA)_)
  conv=>whnf
  refine .inl ⟨_,qjP _ hs0 hsz,?_⟩
  repeat((conv=>whnf);first|apply qza|apply qzb|apply qzc|apply qzd|apply qze|intro(_:Nat)|intro(_:OA)_)
  conv=>whnf
  refine⟨fun z1=>?_,fun z1=>?_⟩
  ·repeat((conv=>whnf);first|apply qza|apply qzb|apply qzc|apply qzd|apply qze|intro(_:Nat)|intro(_:OA)_)
   conv=>whnf
   intro g2 hg
   refine .inr ⟨fun h=>?_,rfl⟩
   rw [qQQ h] at z1;cases z1
  have hz:=eqB_iff.1 (nb0 z1)
  have G:=good_iff.1 hz
  have hclL:s.clusters.length≤4:=G.size.2.2.2
  have hcl:∀ x∈s.clusters,(1≤x.slots∧x.slots≤4)∧(1≤x.health.length∧x.health.length≤4):=fun x hx=>(G.cl x hx).2.2
  repeat((conv=>whnf);first|apply qza|apply qzb|apply qzc|apply qzd|apply qze|intro(_:Nat)|intro(_:OA)_)
  rename_i q0 q1 q2
  conv=>whnf
  refine⟨Nat×List (List Value)×Option Addr×Nat×GW,fun (k,_,_,_,_)=>[.v (.int .i64 k)],fun (k,ecs,oX,cX,g')=>⟨g',[.row 10 oX k cX qWA 2 ecs.flatten,.blk 2 q2 qBA [.v (.slice oa s.listens.length ca),.v (.slice ob s.rules.length cb),.v (.slice od s.clusters.length cd),.row 10 oX k cX,.v (.bool false)],.blk 1 q1 qBA [.v (.slice none 0 0),.v (.slice none 0 0),.v (.slice none 0 0),.v (.slice none 0 0),.v (.bool false)],.blk 0 q0 qdA [.v (.slice oa s.listens.length ca),.v (.slice ob s.rules.length cb),.v (.slice od s.clusters.length cd)]],20,g.w.heap.size⟩,fun (k,ecs,_,_,g')=>k≤s.clusters.length∧g≤g'∧rEls 2 rGr g' ecs ((s.clusters.take k).map fun c=>(⟨0,c.health.map fun _=>qRB c.slots.toNat⟩:Group)),fun (k,_,_,_,_)=>s.clusters.length-k,fun fr w hw=>⟨(0,[],none,0,g),rfl,⟨Nat.zero_le _,GW.refl _,qgJ _⟩,(hw.nil_row (nx':=20) 10 qWA 2).fit (by simp [fitL,Res.eqv,qAA,conc])⟩,?_⟩
  rintro⟨k,ecs,oX,cX,g'⟩ ⟨hkk,hgg,hE⟩
  repeat((conv=>whnf);first|apply qza|apply qzb|apply qzc|apply qzd|apply qze|intro(_:Nat)|intro(_:OA)_)
  conv=>whnf
  refine⟨fun hlt=>?_,fun hlt=>?_⟩
  ·have h':k<s.clusters.length:=by have:=of_decide_eq_true hlt;omega
   obtain⟨x,hx⟩:=qDA h'
   obtain⟨x1,x2⟩:=List.getElem?_eq_some_iff.1 hx
   have hxc:=hcl x (List.mem_of_getElem? hx)
   obtain⟨a,rfl,ec,hec,⟨hv,rfl,_,_,⟨oh,ch,rfl,t1,t2,_⟩⟩,hc⟩:=hk1 k x hx
   repeat((conv=>whnf);first|apply qza|apply qzb|apply qzc|apply qzd|apply qze|intro(_:Nat)|intro(_:OA)_)
   conv=>whnf
   refine⟨a,rfl,⟨by omega,by omega⟩,?_⟩
   conv=>whnf
   refine⟨_,⟨rfl,hc.mono hgg⟩,?_⟩
   repeat((conv=>whnf);first|apply qza|apply qzb|apply qzc|apply qzd|apply qze|intro(_:Nat)|intro(_:OA)_)
   rename_i qc qg
   conv=>whnf
   refine⟨Nat×List (List Value)×Option Addr×Nat×GW,fun (n,_,_,_,_)=>[.v (.int .i64 n)],fun (n,ecs2,oE,cE,g2)=>⟨g2,[.row 30 oE n cE qZA 3 ecs2.flatten,.blk 21 qg qWA [.v (.int .u64 0),.row 30 oE n cE],.blk 20 qc qgC [.v (.string x.name),.v (.int .i64 x.policy),.v (.int .i64 x.slots),.v (.slice oh x.health.length ch)],.row 10 oX k cX qWA 2 ecs.flatten,.blk 2 q2 qBA [.v (.slice oa s.listens.length ca),.v (.slice ob s.rules.length cb),.v (.slice (some a) s.clusters.length cd),.row 10 oX k cX,.v (.bool false)],.blk 1 q1 qBA [.v (.slice none 0 0),.v (.slice none 0 0),.v (.slice none 0 0),.v (.slice none 0 0),.v (.bool false)],.blk 0 q0 qdA [.v (.slice oa s.listens.length ca),.v (.slice ob s.rules.length cb),.v (.slice (some a) s.clusters.length cd)]],40,g.w.heap.size⟩,fun (n,ecs2,_,_,g2)=>n≤x.health.length∧g'≤g2∧rEls 3 rEn g2 ecs2 ((x.health.take n).map fun _=>qRB x.slots.toNat),fun (n,_,_,_,_)=>x.health.length-n,fun fr w hw=>⟨(0,[],none,0,g'),rfl,⟨Nat.zero_le _,GW.refl _,qgJ _⟩,(hw.nil_row (nx':=40) 30 qZA 3).fit (by simp [fitL,Res.eqv,qAA,conc])⟩,?_⟩
   rintro⟨n,ecs2,oE,cE,g2⟩ ⟨hn,hg2,hE2⟩
   repeat((conv=>whnf);first|apply qza|apply qzb|apply qzc|apply qzd|apply qze|intro(_:Nat)|intro(_:OA)_)
   conv=>whnf
   refine⟨fun hln=>?_,fun hln=>?_⟩
   ·have h2:n<x.health.length:=by have:=of_decide_eq_true hln;omega
    repeat((conv=>whnf);first|apply qza|apply qzb|apply qzc|apply qzd|apply qze|intro(_:Nat)|intro(_:OA)_)
    refine .inr ((qEP _).mono fun v g3 hg3 hF=>?_)
    rcases hF with ⟨_,oF,cF,rfl,hF⟩|⟨hF,_⟩
    rotate_left
    ·exact absurd hxc.1 hF
    have hEn:=qRP hxc.1 hF
    have hT:((x.health.take (n+1)).map fun _=>qRB x.slots.toNat)=((x.health.take n).map fun _=>qRB x.slots.toNat)++[qRB x.slots.toNat]:=by
     rw [List.take_succ_eq_append_getElem h2,List.map_append];rfl
    repeat((conv=>whnf);first|apply qza|apply qzb|apply qzc|apply qzd|apply qze|intro(_:Nat)|intro(_:OA)_)
    conv=>whnf
    refine⟨fun h=>(nomatch h),fun _=>?_⟩
    repeat((conv=>whnf);first|apply qza|apply qzb|apply qzc|apply qzd|apply qze|intro(_:Nat)|intro(_:OA)_)
    conv=>whnf
    refine⟨⟨by unfold maxLen;omega,by omega⟩,fun oa2 cap2=>?_⟩
    repeat((conv=>whnf);first|apply qza|apply qzb|apply qzc|apply qzd|apply qze|intro(_:Nat)|intro(_:OA)_)
    conv=>whnf
    refine fun fr w hw=>⟨(n+1,ecs2++[[.int .u64 1,.slice oF x.slots.toNat cF,.int .i64 0]],oa2,cap2,g3),congrArg (fun z=>[Value.int .i64 z]) (wr1 h2 t1 t2).symm,⟨h2,GW.trans hg2 hg3,by rw [hT];exact qyH (q5G qSE hg3 hE2) rfl hEn⟩,dec h2,hw.fit (by simp [fitL,Res.eqv,qAA,conc])⟩
   have hnL:n=x.health.length:=by have:=of_decide_eq_false hln;omega
   subst hnL
   rw [List.take_length] at hE2
   have hT:((s.clusters.take (k+1)).map fun c=>(⟨0,c.health.map fun _=>qRB c.slots.toNat⟩:Group))=((s.clusters.take k).map fun c=>(⟨0,c.health.map fun _=>qRB c.slots.toNat⟩:Group))++[⟨0,x.health.map fun _=>qRB x.slots.toNat⟩]:=by
    rw [List.take_succ_eq_append_getElem x1,List.map_append,x2];rfl
   repeat((conv=>whnf);first|apply qza|apply qzb|apply qzc|apply qzd|apply qze|intro(_:Nat)|intro(_:OA)_)
   conv=>whnf
   refine fun g3 hg3 hn3 hp3=>?_
   have hSl:=qnL (q5G qSE hg3 hE2) hp3 (by simp)
   repeat((conv=>whnf);first|apply qza|apply qzb|apply qzc|apply qzd|apply qze|intro(_:Nat)|intro(_:OA)_)
   conv=>whnf
   refine⟨⟨by unfold maxLen;omega,by omega⟩,fun oa2 cap2=>?_⟩
   repeat((conv=>whnf);first|apply qza|apply qzb|apply qzc|apply qzd|apply qze|intro(_:Nat)|intro(_:OA)_)
   conv=>whnf
   refine fun fr w hw=>⟨(k+1,ecs++[[.int .u64 0,.slice oE x.health.length cE]],oa2,cap2,g3),congrArg (fun z=>[Value.int .i64 z]) (wr1 h' d1 d2).symm,⟨h',GW.trans hgg (GW.trans hg2 hg3),by rw [hT];exact qyH (q5G qRE (GW.trans hg2 hg3) hE) rfl ⟨_,rfl,show InU 0 by decide,hSl⟩⟩,dec h',hw.fit (by simp [fitL,Res.eqv,qAA,conc])⟩
  have hkL:k=s.clusters.length:=by have:=of_decide_eq_false hlt;omega
  subst hkL
  rw [List.take_length] at hE
  repeat((conv=>whnf);first|apply qza|apply qzb|apply qzc|apply qzd|apply qze|intro(_:Nat)|intro(_:OA)_)
  conv=>whnf
  refine fun g3 hg3 hn3 hp3=>?_
  have hSl:=qnL (q5G qRE hg3 hE) hp3 (by simp)
  repeat((conv=>whnf);first|apply qza|apply qzb|apply qzc|apply qzd|apply qze|intro(_:Nat)|intro(_:OA)_)
  conv=>whnf
  intro g2 hg
  exact .inl ⟨hz,_,_,_,_,_,_,rfl,⟨_,_,_,_,rfl,qaC _ _ _ _ (GW.trans hgg (GW.trans hg3 hg)) hs0,hSl.mono qRE hg⟩⟩)
/- Worlds: counts of a new world. -/
open Go.Proofs.Ytkbbljngpglnkaa.Sx Go.RowKit
def qdR (n:Int) (v:Value) (g':GW):Prop :=
 ((1≤n∧n≤8)∧∃ oa cap,v=.tuple #[.slice oa n.toNat cap,.int .i64 0]∧rSl 1 rRow g' (.slice oa n.toNat cap) (qjD n.toNat)) ∨
 (¬ (1≤n∧n≤8)∧v=.tuple #[.slice none 0 0,.int .i64 1])
theorem qwL (g:GW) {n:Int}:Ok Try.prog q3L [.int .i64 n] g (qdR n) :=
 Ok.of_fn hm noT 0 qcL (args:=[.v (.int .i64 n)]) (by
  repeat((conv=>whnf);first|apply qza|apply qzb|apply qzc|apply qzd|apply qze|intro(_:Nat))
  conv=>whnf
  refine⟨fun z1=>?_,fun z1=>?_⟩
  ·repeat((conv=>whnf);first|apply qza|apply qzb|apply qzc|apply qzd|apply qze|intro(_:Nat))
   conv=>whnf
   intro g2 hg
   exact .inr ⟨by have:=of_decide_eq_true z1;omega,rfl⟩
  repeat((conv=>whnf);first|apply qza|apply qzb|apply qzc|apply qzd|apply qze|intro(_:Nat))
  conv=>whnf
  refine⟨fun z2=>?_,fun z2=>?_⟩
  ·repeat((conv=>whnf);first|apply qza|apply qzb|apply qzc|apply qzd|apply qze|intro(_:Nat))
   conv=>whnf
   intro g2 hg
   exact .inr ⟨by have:=of_decide_eq_true z2;omega,rfl⟩
  have k1:=of_decide_eq_false z1
  have k2:=of_decide_eq_false z2
  obtain⟨N,rfl⟩:=Int.eq_ofNat_of_zero_le (show 0≤n by omega)
  repeat((conv=>whnf);first|apply qza|apply qzb|apply qzc|apply qzd|apply qze|intro(_:Nat))
  conv=>whnf
  refine⟨⟨by omega,by omega,by omega,by omega⟩,fun _=>?_⟩
  repeat((conv=>whnf);first|apply qza|apply qzb|apply qzc|apply qzd|apply qze|intro(_:Nat))
  rename_i q1
  conv=>whnf
  refine⟨Nat×List (List Value)×GW,fun (k,_,_)=>[.v (.int .i64 k)],fun (k,ecs,g')=>⟨g',[.row 0 (some ⟨q1,0,none⟩) N N qJB 1 (rowK ecs [.slice none 0 0] (N-k))],10,g.w.heap.size⟩,fun (k,ecs,g')=>k≤N∧g≤g'∧rEls 1 rRow g' ecs (qjD k),fun (k,_,_)=>N-k,fun fr w hw=>⟨(0,[],g),rfl,⟨Nat.zero_le _,GW.refl _,qgJ _⟩,hw.fit (by simp [fitL,Res.eqv,qAA,conc,rowK])⟩,?_⟩
  rintro⟨k,ecs,g'⟩ ⟨hk,hgg,hE⟩
  have hel:ecs.length=k:=by have:=hE.1.1;simpa [qjD] using this
  have hlen:=qQF (m:=N-k) (z:=[.slice none 0 0]) hE.1.2 rfl
  repeat((conv=>whnf);first|apply qza|apply qzb|apply qzc|apply qzd|apply qze|intro(_:Nat))
  conv=>whnf
  refine⟨fun hlt=>?_,fun hlt=>?_⟩
  ·have h':k<N:=by have:=of_decide_eq_true hlt;omega
   repeat((conv=>whnf);first|apply qza|apply qzb|apply qzc|apply qzd|apply qze|intro(_:Nat))
   conv=>whnf
   refine⟨⟨by decide,by decide,by decide,by decide⟩,fun _=>?_⟩
   repeat((conv=>whnf);first|apply qza|apply qzb|apply qzc|apply qzd|apply qze|intro(_:Nat))
   conv=>whnf
   refine⟨⟨by omega,by omega⟩,?_⟩
   repeat((conv=>whnf);first|apply qza|apply qzb|apply qzc|apply qzd|apply qze|intro(_:Nat))
   rename_i q2
   conv=>whnf
   refine fun g2 hg2 hn2 hp2=>?_
   have hrow:rSl 1 rU64 g2 (.slice (some ⟨q2,0,none⟩) 6 6) [0,0,0,0,0,0]:=q8E hp2.rd [0,0,0,0,0,0] (fun x=>.int .u64 x) rfl fun x hx=>⟨rfl,by simp at hx;subst hx;decide⟩
   have hset:=qPF (m:=N-k) (z:=[.slice none 0 0]) hE.1.2 rfl (by omega) (ec:=[.slice (some ⟨q2,0,none⟩) 6 6]) rfl hel.symm
   have hT:qjD (k+1)=qjD k++[[0,0,0,0,0,0]]:=by simp [qjD,List.range_succ]
   repeat((conv=>whnf);first|apply qza|apply qzb|apply qzc|apply qzd|apply qze|intro(_:Nat))
   conv=>whnf
   refine⟨⟨by rw [hlen,hel];simp;omega,by decide⟩,?_⟩
   repeat((conv=>whnf);first|apply qza|apply qzb|apply qzc|apply qzd|apply qze|intro(_:Nat))
   conv=>whnf
   refine fun fr w hw=>⟨(k+1,ecs++[[.slice (some ⟨q2,0,none⟩) 6 6]],g2),congrArg (fun z=>[Value.int .i64 z]) (by rw [wr (show InR ((k:Int)+1) by unfold InR;omega)];omega),⟨h',GW.trans hgg hg2,by rw [hT];exact qyH (q5G q6A hg2 hE) rfl ⟨_,rfl,hrow⟩⟩,dec h',hw.fit ?_⟩
   rw [show N-(k+1)=N-k-1 by omega,← hset]
   simp [fitL,Res.eqv,qAA,conc]
  have hkN:k=N:=by have:=of_decide_eq_false hlt;omega
  subst hkN
  repeat((conv=>whnf);first|apply qza|apply qzb|apply qzc|apply qzd|apply qze|intro(_:Nat))
  conv=>whnf
  refine fun g2 hg2 hn2 hp2=>?_
  rw [Nat.sub_self,q5E] at hp2
  have hSl:=qnL (q5G q6A hg2 hE) hp2 (by simp [qjD])
  repeat((conv=>whnf);first|apply qza|apply qzb|apply qzc|apply qzd|apply qze|intro(_:Nat))
  conv=>whnf
  intro g2 hg
  exact .inl ⟨⟨by omega,by omega⟩,_,_,rfl,hSl.mono q6A hg⟩)
/- Worlds: a new one. -/
open Go.Proofs.Ytkbbljngpglnkaa.Sx Go.RowKit
abbrev zWs:List Value:=[.int .i64 0,.int .i64 0,.int .i64 0,.slice none 0 0,.slice none 0 0,.slice none 0 0,.slice none 0 0,.slice none 0 0]
/- Worlds: a new one,told with its rows. -/
open Go.Proofs.Ytkbbljngpglnkaa.Sx Go.RowKit
theorem PbSl.lessB {g g':GW} {lo:Nat} {ety:TypeId} {size b b' n cap:Nat} {cs:List Value} (h:PbSl g lo ety size (.slice (some ⟨b,0,none⟩) n cap) n cs) (u:Less g b' g') (hne:b≠b'):PbSl g' lo ety size (.slice (some ⟨b,0,none⟩) n cap) n cs:=by
 obtain⟨h1,h2,h3⟩:=h
 refine⟨h1,?_,h3⟩
 rcases h2 with ⟨h2,_⟩|⟨b2,cap',rest,hv,hb,ho,hr⟩
 ·cases h2
 ·simp only [Value.slice.injEq,Option.some.injEq,Addr.mk.injEq] at hv
  obtain⟨⟨rfl,_⟩,_,rfl⟩:=hv
  exact .inr ⟨_,_,rest,rfl,⟨hb.1,(u.dom _).2 ⟨hb.2,hne⟩⟩,(u.other _).trans ho,hr⟩
theorem PbSl.addr {g:GW} {lo:Nat} {ety:TypeId} {size n cap:Nat} {ad:Addr} {cs:List Value} (h:PbSl g lo ety size (.slice (some ad) n cap) n cs):∃ b,ad=⟨b,0,none⟩:=by
 obtain⟨h1,h2,h3⟩:=h
 rcases h2 with ⟨h2,_⟩|⟨b2,cap',rest,hv,_⟩
 ·cases h2
 ·simp only [Value.slice.injEq,Option.some.injEq] at hv
  exact⟨b2,hv.1⟩
theorem qNO (g:GW) (b:Nat):g.less b≤g:=⟨Nat.le_refl _,fun _ h=>⟨h.1,rfl⟩⟩
def New2P (s:Snap) (l:List BA) (t:Int) (lo:Nat) (v:Value) (g':GW):Prop :=
 (qRL s l t∧∃ (a d:Value) (bV:Nat) (oX:Option Addr) (cX:Nat),v=.tuple #[.agg ⟨[.int .i64 0,.int .i64 0,.int .i64 0,a,.slice (some ⟨bV,0,none⟩) 1 1,.slice oX l.length cX,d,.slice none 0 0]⟩,.int .i64 0] ∧
  rWo g' [.int .i64 0,.int .i64 0,.int .i64 0,a,.slice (some ⟨bV,0,none⟩) 1 1,.slice oX l.length cX,d,.slice none 0 0] (newW s l t.toNat)∧PbSl g' lo qLA 4 (.slice oX l.length cX) l.length ((lisL l).map cLi).flatten ∧
  ∀ ad,oX=some ad→∃ gN,gN≤g'∧¬ gN.g ad.block∧rSl 1 rInt gN a (newW s l t.toNat).pins∧rSl 5 rVe gN (.slice (some ⟨bV,0,none⟩) 1 1) (newW s l t.toNat).versions∧rSl 1 rRow gN d (newW s l t.toNat).counts)∨(¬ qRL s l t∧v=.tuple #[.agg ⟨zWs⟩,.int .i64 1])
theorem qGQ (g:GW) {cs:List Value} {s:Snap} {v:Value} {l:List BA} {t:Int} (hs:qwH g cs s) (hl:rSl 1 rStr g v l) (hsz:s.rules.length≤1000000) (hll:l.length≤1000000):Ok Try.prog q1L [.agg ⟨cs⟩,v,.int .i64 t] g (New2P s l t g.w.heap.size):=by
 have hs0:=hs
 obtain⟨a,b,d,rfl,⟨oa,ca,rfl,_⟩,⟨ob,cb,rfl,_⟩,⟨od,cd,rfl,_⟩⟩:=hs
 obtain⟨ol,cl,rfl,l1,l2,l0,hl1⟩:=id hl
 exact Ok.of_fn hm noT 0 qaL (args:=[.v (.agg ⟨[.slice oa s.listens.length ca,.slice ob s.rules.length cb,.slice od s.clusters.length cd]⟩),.v (.slice ol l.length cl),.v (.int .i64 t)]) (by
  repeat((conv=>whnf);first|apply qza|apply qzb|apply qzc|apply qzd|apply qze|intro(_:Nat)|intro(_:OA)_)
  rename_i q0 q1
  refine .inr ((qbM _ hs0 hsz).mono fun v g1 hg1 hC=>?_)
  rcases hC with ⟨hz,ka,kb,kd,oV,nV,cV,rfl,hV⟩|⟨hz,rfl⟩
  rotate_left
  ·repeat((conv=>whnf);first|apply qza|apply qzb|apply qzc|apply qzd|apply qze|intro(_:Nat)|intro(_:OA)_)
   conv=>whnf
   refine⟨fun _=>?_,fun h=>nomatch h⟩
   repeat((conv=>whnf);first|apply qza|apply qzb|apply qzc|apply qzd|apply qze|intro(_:Nat)|intro(_:OA)_)
   conv=>whnf
   intro g2 hg
   exact .inr ⟨fun h=>hz h.1,rfl⟩
  have hV0:=hV
  obtain⟨_,_,_,_,he,⟨_,_,_,he2,⟨sa,ta,rfl,_⟩,⟨sb,tb,rfl,_⟩,⟨sd,td,rfl,_⟩⟩,hG⟩:=hV
  simp only [List.cons.injEq,and_true] at he
  obtain⟨rfl,rfl,rfl,rfl,_⟩:=he
  cases he2
  repeat((conv=>whnf);first|apply qza|apply qzb|apply qzc|apply qzd|apply qze|intro(_:Nat)|intro(_:OA)_)
  rename_i q2
  conv=>whnf
  refine⟨fun h=>(nomatch h),fun _=>?_⟩
  repeat((conv=>whnf);first|apply qza|apply qzb|apply qzc|apply qzd|apply qze|intro(_:Nat)|intro(_:OA)_)
  refine .inr ((qwL _).mono fun v g2 hg2 hS=>?_)
  rcases hS with ⟨ht,oS,cS,rfl,hSh⟩|⟨ht,rfl⟩
  rotate_left
  ·repeat((conv=>whnf);first|apply qza|apply qzb|apply qzc|apply qzd|apply qze|intro(_:Nat)|intro(_:OA)_)
   conv=>whnf
   refine⟨fun _=>?_,fun h=>nomatch h⟩
   repeat((conv=>whnf);first|apply qza|apply qzb|apply qzc|apply qzd|apply qze|intro(_:Nat)|intro(_:OA)_)
   conv=>whnf
   intro g2 hg
   exact .inr ⟨fun h=>ht h.2.1,rfl⟩
  obtain⟨N,rfl⟩:=Int.eq_ofNat_of_zero_le (show 0≤t by omega)
  have hg02:=GW.trans hg1 hg2
  repeat((conv=>whnf);first|apply qza|apply qzb|apply qzc|apply qzd|apply qze|intro(_:Nat)|intro(_:OA)_)
  conv=>whnf
  refine⟨fun h=>(nomatch h),fun _=>?_⟩
  repeat((conv=>whnf);first|apply qza|apply qzb|apply qzc|apply qzd|apply qze|intro(_:Nat)|intro(_:OA)_)
  refine⟨?_,?_⟩
  ·repeat((conv=>whnf);first|apply qza|apply qzb|apply qzc|apply qzd|apply qze|intro(_:Nat)|intro(_:OA)_)
   conv=>whnf
   refine⟨⟨by omega,by omega,by omega,by omega⟩,fun _=>?_⟩
   repeat((conv=>whnf);first|apply qza|apply qzb|apply qzc|apply qzd|apply qze|intro(_:Nat)|intro(_:OA)_)
   rename_i qV qP qw
   conv=>whnf
   refine⟨Nat×Option Addr×Nat×Nat×GW,fun (k,_,_,_,_)=>[.v (.int .i64 k)],fun (k,oX,nX,cX,g')=>⟨g',[.blk 5 qw qIA [.v (.int .i64 0),.v (.int .i64 0),.v (.int .i64 0),.row 4 (some ⟨qP,0,none⟩) N N,.sl 3 qV 0 1 1,.v (.slice oX nX cX),.v (.slice oS N cS),.v (.slice none 0 0)],.row 4 (some ⟨qP,0,none⟩) N N q4A 1 (List.replicate N [Value.int .i64 0]).flatten,.blk 3 qV qBA [.v (.slice sa (qFA s).snap.listens.length ta),.v (.slice sb (qFA s).snap.rules.length tb),.v (.slice sd (qFA s).snap.clusters.length td),.v (.slice oV nV cV),.v (.bool false)],.blk 2 q2 qBA [.v (.slice sa (qFA s).snap.listens.length ta),.v (.slice sb (qFA s).snap.rules.length tb),.v (.slice sd (qFA s).snap.clusters.length td),.v (.slice oV nV cV),.v (.bool false)],.blk 1 q1 qIA [.v (.int .i64 0),.v (.int .i64 0),.v (.int .i64 0),.v (.slice none 0 0),.v (.slice none 0 0),.v (.slice none 0 0),.v (.slice none 0 0),.v (.slice none 0 0)],.blk 0 q0 qdA [.v (.slice oa s.listens.length ca),.v (.slice ob s.rules.length cb),.v (.slice od s.clusters.length cd)]],20,g.w.heap.size⟩,fun (k,oX,nX,cX,g')=>k≤l.length∧g2≤g'∧nX=k∧PbSl g' g.w.heap.size qLA 4 (.slice oX nX cX) nX ((lisL (l.take k)).map cLi).flatten∧(∀ a,oX=some a→¬ g2.g a.block)∧AllK (namF l) l k,fun (k,_,_,_,_)=>l.length-k,fun fr w hw=>⟨(0,none,0,0,g2),rfl,⟨Nat.zero_le _,GW.refl _,rfl,⟨rfl,.inl ⟨rfl,rfl⟩,fun u hu=>by cases hu⟩,(fun a h=>by cases h),AllK.zero _ _⟩,hw.fit (by simp [fitL,Res.eqv,qAA,conc])⟩,?_⟩
   rintro⟨k,oX,nX,cX,g'⟩ ⟨hk,hgg,hn,hpb,hnb,hAK⟩
   have hll2:(lisL (l.take k)).length=k:=by simp [lisL];omega
   have hlis:rSl 4 qCB g' (.slice oX nX cX) (lisL (l.take k)):=qmL hpb.rd (lisL (l.take k)) cLi rfl (by omega) (fun _ _=>rfl) fun x hx=>by
    obtain⟨y,_,rfl⟩:=List.mem_map.1 hx
    exact⟨rfl,show InR 0 by decide⟩
   repeat((conv=>whnf);first|apply qza|apply qzb|apply qzc|apply qzd|apply qze|intro(_:Nat)|intro(_:OA)_)
   conv=>whnf
   refine⟨fun hlt=>?_,fun hlt=>?_⟩
   ·have h':k<l.length:=by have:=of_decide_eq_true hlt;omega
    obtain⟨x,hx⟩:=qDA h'
    obtain⟨a,rfl,ec,hec,rfl,hc⟩:=hl1 k x hx
    have hbad:namF l k x=false→¬ qRL s l N:=fun hf h=>by have h3:=h.2.2;rw [qtA hx hf] at h3;cases h3
    repeat((conv=>whnf);first|apply qza|apply qzb|apply qzc|apply qzd|apply qze|intro(_:Nat)|intro(_:OA)_)
    conv=>whnf
    refine⟨a,rfl,⟨by omega,by omega⟩,?_⟩
    conv=>whnf
    refine⟨_,(hc.mono (GW.trans hg02 hgg)) 0 _ rfl,?_⟩
    repeat((conv=>whnf);first|apply qza|apply qzb|apply qzc|apply qzd|apply qze|intro(_:Nat)|intro(_:OA)_)
    conv=>whnf
    refine .inl ⟨_,q4F _ _,?_⟩
    repeat((conv=>whnf);first|apply qza|apply qzb|apply qzc|apply qzd|apply qze|intro(_:Nat)|intro(_:OA)_)
    conv=>whnf
    refine⟨fun y1=>?_,fun y1=>?_⟩
    ·repeat((conv=>whnf);first|apply qza|apply qzb|apply qzc|apply qzd|apply qze|intro(_:Nat)|intro(_:OA)_)
     conv=>whnf
     intro g2 hg
     exact .inr ⟨hbad (by unfold namF;rw [nb1 y1];rfl),rfl⟩
    repeat((conv=>whnf);first|apply qza|apply qzb|apply qzc|apply qzd|apply qze|intro(_:Nat)|intro(_:OA)_)
    conv=>whnf
    refine .inl ⟨_,q3H _ hlis _,?_⟩
    repeat((conv=>whnf);first|apply qza|apply qzb|apply qzc|apply qzd|apply qze|intro(_:Nat)|intro(_:OA)_)
    conv=>whnf
    refine⟨fun y2=>?_,fun y2=>?_⟩
    ·repeat((conv=>whnf);first|apply qza|apply qzb|apply qzc|apply qzd|apply qze|intro(_:Nat)|intro(_:OA)_)
     conv=>whnf
     intro g2 hg
     exact .inr ⟨hbad (by unfold namF;rw [decide_eq_false (by have:=of_decide_eq_true y2;omega)];simp),rfl⟩
    have hnF:namF l k x=true:=by unfold namF;rw [nb0 y1,decide_eq_true (by have:=of_decide_eq_false y2;omega)];rfl
    have hT:=q2K hx
    rcases hpb.2.1 with ⟨he,hn0⟩|⟨bk,cap',rest,he,hb1,hb2,hb3,hb4,hb5⟩
    ·cases he
     have hk0:k=0:=by omega
     subst hk0
     repeat((conv=>whnf);first|apply qza|apply qzb|apply qzc|apply qzd|apply qze|intro(_:Nat)|intro(_:OA)_)
     conv=>whnf
     refine⟨⟨by unfold maxLen;omega,by omega⟩,fun oa3 cap3=>?_⟩
     repeat((conv=>whnf);first|apply qza|apply qzb|apply qzc|apply qzd|apply qze|intro(_:Nat)|intro(_:OA)_)
     conv=>whnf
     refine fun fr w hw=>by
      have hw1:HSim fr ⟨g',.row 70 oa3 (1) cap3 qLA 4 (cLi ⟨x,false,0,false⟩) :: [.blk 5 qw qIA [.v (.int .i64 0),.v (.int .i64 0),.v (.int .i64 0),.row 4 (some ⟨qP,0,none⟩) N N,.sl 3 qV 0 1 1,.v (.slice oa3 (1) cap3),.v (.slice oS N cS),.v (.slice none 0 0)],.row 4 (some ⟨qP,0,none⟩) N N q4A 1 (List.replicate N [Value.int .i64 0]).flatten,.blk 3 qV qBA [.v (.slice sa (qFA s).snap.listens.length ta),.v (.slice sb (qFA s).snap.rules.length tb),.v (.slice sd (qFA s).snap.clusters.length td),.v (.slice oV nV cV),.v (.bool false)],.blk 2 q2 qBA [.v (.slice sa (qFA s).snap.listens.length ta),.v (.slice sb (qFA s).snap.rules.length tb),.v (.slice sd (qFA s).snap.clusters.length td),.v (.slice oV nV cV),.v (.bool false)],.blk 1 q1 qIA [.v (.int .i64 0),.v (.int .i64 0),.v (.int .i64 0),.v (.slice none 0 0),.v (.slice none 0 0),.v (.slice none 0 0),.v (.slice none 0 0),.v (.slice none 0 0)],.blk 0 q0 qdA [.v (.slice oa s.listens.length ca),.v (.slice ob s.rules.length cb),.v (.slice od s.clusters.length cd)]],80,g.w.heap.size⟩ w:=hw.fit (by simp [fitL,Res.eqv,qAA,conc])
      obtain⟨g4,k1',k2,k3,k4⟩:=hw1.row_pub
      refine⟨(0+1,oa3,1,cap3,g4),congrArg (fun z=>[Value.int .i64 z]) (wr1 h' l1 l2).symm,⟨h',GW.trans hgg k1',rfl,?_,fun a ha q=>k2 a ha (hgg.2 _ q).1,hAK.succ hx hnF⟩,dec h',k4.fit (by simp [fitL,Res.eqv,qAA,conc])⟩
      rw [hT];exact k3
    ·cases he
     have hbk:¬ g2.g bk:=hnb _ rfl
     repeat((conv=>whnf);first|apply qza|apply qzb|apply qzc|apply qzd|apply qze|intro(_:Nat)|intro(_:OA)_)
     conv=>whnf
     refine .inr ⟨bk,_,rest,⟨rfl,hb1.1,hb1.2,hb2,hpb.1,hpb.2.2,hb3,hb4,hb5,by unfold maxLen;omega,by omega⟩,fun gL hless oa3 cap3=>?_⟩
     repeat((conv=>whnf);first|apply qza|apply qzb|apply qzc|apply qzd|apply qze|intro(_:Nat)|intro(_:OA)_)
     conv=>whnf
     refine fun fr w hw=>by
      have hw1:HSim fr ⟨gL,.row 70 oa3 (nX+1) cap3 qLA 4 (((lisL (l.take k)).map cLi).flatten++cLi ⟨x,false,0,false⟩) :: [.blk 5 qw qIA [.v (.int .i64 0),.v (.int .i64 0),.v (.int .i64 0),.row 4 (some ⟨qP,0,none⟩) N N,.sl 3 qV 0 1 1,.v (.slice oa3 (nX+1) cap3),.v (.slice oS N cS),.v (.slice none 0 0)],.row 4 (some ⟨qP,0,none⟩) N N q4A 1 (List.replicate N [Value.int .i64 0]).flatten,.blk 3 qV qBA [.v (.slice sa (qFA s).snap.listens.length ta),.v (.slice sb (qFA s).snap.rules.length tb),.v (.slice sd (qFA s).snap.clusters.length td),.v (.slice oV nV cV),.v (.bool false)],.blk 2 q2 qBA [.v (.slice sa (qFA s).snap.listens.length ta),.v (.slice sb (qFA s).snap.rules.length tb),.v (.slice sd (qFA s).snap.clusters.length td),.v (.slice oV nV cV),.v (.bool false)],.blk 1 q1 qIA [.v (.int .i64 0),.v (.int .i64 0),.v (.int .i64 0),.v (.slice none 0 0),.v (.slice none 0 0),.v (.slice none 0 0),.v (.slice none 0 0),.v (.slice none 0 0)],.blk 0 q0 qdA [.v (.slice oa s.listens.length ca),.v (.slice ob s.rules.length cb),.v (.slice od s.clusters.length cd)]],80,g.w.heap.size⟩ w:=hw.fit (by simp [fitL,Res.eqv,qAA,conc])
      obtain⟨g4,k1',k2,k3,k4⟩:=hw1.row_pub
      have hgL:=hless.le hgg hbk
      refine⟨(k+1,oa3,nX+1,cap3,g4),congrArg (fun z=>[Value.int .i64 z]) (wr1 h' l1 l2).symm,⟨h',GW.trans hgL k1',by omega,?_,fun a ha q=>k2 a ha (hgL.2 _ q).1,hAK.succ hx hnF⟩,dec h',k4.fit (by simp [fitL,Res.eqv,qAA,conc])⟩
      rw [hT];simpa using k3
   have hkL:k=l.length:=by have:=of_decide_eq_false hlt;omega
   subst hkL
   have hok:qRL s l N:=⟨hz,ht,hAK.done (Nat.le_refl _)⟩
   rw [List.take_length] at hlis
   repeat((conv=>whnf);first|apply qza|apply qzb|apply qzc|apply qzd|apply qze|intro(_:Nat)|intro(_:OA)_)
   conv=>whnf
   refine fun gA kA nA pA=>?_
   repeat((conv=>whnf);first|apply qza|apply qzb|apply qzc|apply qzd|apply qze|intro(_:Nat)|intro(_:OA)_)
   conv=>whnf
   refine⟨5,rfl,by unfold maxLen;omega,fun gB kB nB pB=>?_⟩
   repeat((conv=>whnf);first|apply qza|apply qzb|apply qzc|apply qzd|apply qze|intro(_:Nat)|intro(_:OA)_)
   conv=>whnf
   intro g2 hg
   have mA:=GW.trans kA (GW.trans kB hg)
   have hnX:nX=l.length:=hn
   subst hnX
   rw [List.take_length] at hpb
   have kP:∀ gN,PbSl gN g.w.heap.size q4A 1 (.slice (some ⟨qP,0,none⟩) N N) N (List.replicate N [Value.int .i64 0]).flatten→rSl 1 rInt gN (.slice (some ⟨qP,0,none⟩) N N) (newW s l N).pins:=fun gN p=>q8E p.rd (List.replicate N 0) (fun x=>.int .i64 x) (by simp [List.flatten_replicate_singleton]) fun x hx=>⟨rfl,by rw [List.eq_of_mem_replicate hx];decide⟩
   have kV:∀ gN,PbSl gN g.w.heap.size qBA 5 (.slice (some ⟨qV,0,none⟩) 1 1) 1 [.slice sa (qFA s).snap.listens.length ta,.slice sb (qFA s).snap.rules.length tb,.slice sd (qFA s).snap.clusters.length td,.slice oV nV cV,.bool false]→g1≤gN→rSl 5 rVe gN (.slice (some ⟨qV,0,none⟩) 1 1) (newW s l N).versions:=fun gN p kk=>by
    refine qjE p.rd [qFA s] [[.slice sa (qFA s).snap.listens.length ta,.slice sb (qFA s).snap.rules.length tb,.slice sd (qFA s).snap.clusters.length td,.slice oV nV cV,.bool false]] rfl (fun e he=>?_) rfl rfl fun i x ec hx hec=>?_
    ·simp at he;subst he;rfl
    ·cases i with
     | zero =>
      simp at hx hec
      subst hx;subst hec
      exact q8C _ _ _ _ kk hV0
     | succ i=>simp at hx
   have hpA:=pA.mono (GW.trans kB hg)
   have hpB:=pB.mono hg
   refine .inl ⟨hok,_,_,_,_,_,rfl,⟨_,_,_,_,_,rfl,⟨show InR 0 by decide,show InR 0 by decide,show InR 0 by decide⟩,kP _ hpA,kV _ hpB (GW.trans hg2 (GW.trans hgg mA)),hlis.mono q7B mA,hSh.mono q6A (GW.trans hgg mA),⟨none,0,rfl,Nat.le_refl _,Nat.zero_le _,fun _=>⟨rfl,rfl⟩,fun i x hx=>by simp [newW] at hx⟩⟩,hpb.mono mA,fun ad had=>?_⟩
   subst had
   obtain⟨bX,rfl⟩:=PbSl.addr hpb
   have d1:=PbSl.dom hpb
   have hnB2:=hnb _ rfl
   have kk:=(GW.less_spec g2 bX).le (GW.trans hgg mA) hnB2
   refine⟨g2.less bX,qNO _ _,fun h=>h.2 rfl,kP _ (PbSl.lessB hpA (GW.less_spec _ _) fun e=>nA _ rfl (by rw [e];exact d1)),kV _ (PbSl.lessB hpB (GW.less_spec _ _) fun e=>nB (by rw [e];exact(kA.2 _ d1).1)) (GW.trans hg2 kk),hSh.mono q6A kk⟩
  ·repeat((conv=>whnf);first|apply qza|apply qzb|apply qzc|apply qzd|apply qze|intro(_:Nat)|intro(_:OA)_)
   conv=>whnf
   refine⟨⟨by omega,by omega,by omega,by omega⟩,fun _=>?_⟩
   repeat((conv=>whnf);first|apply qza|apply qzb|apply qzc|apply qzd|apply qze|intro(_:Nat)|intro(_:OA)_)
   rename_i qP qV qw
   conv=>whnf
   refine⟨Nat×Option Addr×Nat×Nat×GW,fun (k,_,_,_,_)=>[.v (.int .i64 k)],fun (k,oX,nX,cX,g')=>⟨g',[.blk 5 qw qIA [.v (.int .i64 0),.v (.int .i64 0),.v (.int .i64 0),.row 3 (some ⟨qP,0,none⟩) N N,.sl 4 qV 0 1 1,.v (.slice oX nX cX),.v (.slice oS N cS),.v (.slice none 0 0)],.blk 4 qV qBA [.v (.slice sa (qFA s).snap.listens.length ta),.v (.slice sb (qFA s).snap.rules.length tb),.v (.slice sd (qFA s).snap.clusters.length td),.v (.slice oV nV cV),.v (.bool false)],.row 3 (some ⟨qP,0,none⟩) N N q4A 1 (List.replicate N [Value.int .i64 0]).flatten,.blk 2 q2 qBA [.v (.slice sa (qFA s).snap.listens.length ta),.v (.slice sb (qFA s).snap.rules.length tb),.v (.slice sd (qFA s).snap.clusters.length td),.v (.slice oV nV cV),.v (.bool false)],.blk 1 q1 qIA [.v (.int .i64 0),.v (.int .i64 0),.v (.int .i64 0),.v (.slice none 0 0),.v (.slice none 0 0),.v (.slice none 0 0),.v (.slice none 0 0),.v (.slice none 0 0)],.blk 0 q0 qdA [.v (.slice oa s.listens.length ca),.v (.slice ob s.rules.length cb),.v (.slice od s.clusters.length cd)]],20,g.w.heap.size⟩,fun (k,oX,nX,cX,g')=>k≤l.length∧g2≤g'∧nX=k∧PbSl g' g.w.heap.size qLA 4 (.slice oX nX cX) nX ((lisL (l.take k)).map cLi).flatten∧(∀ a,oX=some a→¬ g2.g a.block)∧AllK (namF l) l k,fun (k,_,_,_,_)=>l.length-k,fun fr w hw=>⟨(0,none,0,0,g2),rfl,⟨Nat.zero_le _,GW.refl _,rfl,⟨rfl,.inl ⟨rfl,rfl⟩,fun u hu=>by cases hu⟩,(fun a h=>by cases h),AllK.zero _ _⟩,hw.fit (by simp [fitL,Res.eqv,qAA,conc])⟩,?_⟩
   rintro⟨k,oX,nX,cX,g'⟩ ⟨hk,hgg,hn,hpb,hnb,hAK⟩
   have hll2:(lisL (l.take k)).length=k:=by simp [lisL];omega
   have hlis:rSl 4 qCB g' (.slice oX nX cX) (lisL (l.take k)):=qmL hpb.rd (lisL (l.take k)) cLi rfl (by omega) (fun _ _=>rfl) fun x hx=>by
    obtain⟨y,_,rfl⟩:=List.mem_map.1 hx
    exact⟨rfl,show InR 0 by decide⟩
   repeat((conv=>whnf);first|apply qza|apply qzb|apply qzc|apply qzd|apply qze|intro(_:Nat)|intro(_:OA)_)
   conv=>whnf
   refine⟨fun hlt=>?_,fun hlt=>?_⟩
   ·have h':k<l.length:=by have:=of_decide_eq_true hlt;omega
    obtain⟨x,hx⟩:=qDA h'
    obtain⟨a,rfl,ec,hec,rfl,hc⟩:=hl1 k x hx
    have hbad:namF l k x=false→¬ qRL s l N:=fun hf h=>by have h3:=h.2.2;rw [qtA hx hf] at h3;cases h3
    repeat((conv=>whnf);first|apply qza|apply qzb|apply qzc|apply qzd|apply qze|intro(_:Nat)|intro(_:OA)_)
    conv=>whnf
    refine⟨a,rfl,⟨by omega,by omega⟩,?_⟩
    conv=>whnf
    refine⟨_,(hc.mono (GW.trans hg02 hgg)) 0 _ rfl,?_⟩
    repeat((conv=>whnf);first|apply qza|apply qzb|apply qzc|apply qzd|apply qze|intro(_:Nat)|intro(_:OA)_)
    conv=>whnf
    refine .inl ⟨_,q4F _ _,?_⟩
    repeat((conv=>whnf);first|apply qza|apply qzb|apply qzc|apply qzd|apply qze|intro(_:Nat)|intro(_:OA)_)
    conv=>whnf
    refine⟨fun y1=>?_,fun y1=>?_⟩
    ·repeat((conv=>whnf);first|apply qza|apply qzb|apply qzc|apply qzd|apply qze|intro(_:Nat)|intro(_:OA)_)
     conv=>whnf
     intro g2 hg
     exact .inr ⟨hbad (by unfold namF;rw [nb1 y1];rfl),rfl⟩
    repeat((conv=>whnf);first|apply qza|apply qzb|apply qzc|apply qzd|apply qze|intro(_:Nat)|intro(_:OA)_)
    conv=>whnf
    refine .inl ⟨_,q3H _ hlis _,?_⟩
    repeat((conv=>whnf);first|apply qza|apply qzb|apply qzc|apply qzd|apply qze|intro(_:Nat)|intro(_:OA)_)
    conv=>whnf
    refine⟨fun y2=>?_,fun y2=>?_⟩
    ·repeat((conv=>whnf);first|apply qza|apply qzb|apply qzc|apply qzd|apply qze|intro(_:Nat)|intro(_:OA)_)
     conv=>whnf
     intro g2 hg
     exact .inr ⟨hbad (by unfold namF;rw [decide_eq_false (by have:=of_decide_eq_true y2;omega)];simp),rfl⟩
    have hnF:namF l k x=true:=by unfold namF;rw [nb0 y1,decide_eq_true (by have:=of_decide_eq_false y2;omega)];rfl
    have hT:=q2K hx
    rcases hpb.2.1 with ⟨he,hn0⟩|⟨bk,cap',rest,he,hb1,hb2,hb3,hb4,hb5⟩
    ·cases he
     have hk0:k=0:=by omega
     subst hk0
     repeat((conv=>whnf);first|apply qza|apply qzb|apply qzc|apply qzd|apply qze|intro(_:Nat)|intro(_:OA)_)
     conv=>whnf
     refine⟨⟨by unfold maxLen;omega,by omega⟩,fun oa3 cap3=>?_⟩
     repeat((conv=>whnf);first|apply qza|apply qzb|apply qzc|apply qzd|apply qze|intro(_:Nat)|intro(_:OA)_)
     conv=>whnf
     refine fun fr w hw=>by
      have hw1:HSim fr ⟨g',.row 70 oa3 (1) cap3 qLA 4 (cLi ⟨x,false,0,false⟩) :: [.blk 5 qw qIA [.v (.int .i64 0),.v (.int .i64 0),.v (.int .i64 0),.row 3 (some ⟨qP,0,none⟩) N N,.sl 4 qV 0 1 1,.v (.slice oa3 (1) cap3),.v (.slice oS N cS),.v (.slice none 0 0)],.blk 4 qV qBA [.v (.slice sa (qFA s).snap.listens.length ta),.v (.slice sb (qFA s).snap.rules.length tb),.v (.slice sd (qFA s).snap.clusters.length td),.v (.slice oV nV cV),.v (.bool false)],.row 3 (some ⟨qP,0,none⟩) N N q4A 1 (List.replicate N [Value.int .i64 0]).flatten,.blk 2 q2 qBA [.v (.slice sa (qFA s).snap.listens.length ta),.v (.slice sb (qFA s).snap.rules.length tb),.v (.slice sd (qFA s).snap.clusters.length td),.v (.slice oV nV cV),.v (.bool false)],.blk 1 q1 qIA [.v (.int .i64 0),.v (.int .i64 0),.v (.int .i64 0),.v (.slice none 0 0),.v (.slice none 0 0),.v (.slice none 0 0),.v (.slice none 0 0),.v (.slice none 0 0)],.blk 0 q0 qdA [.v (.slice oa s.listens.length ca),.v (.slice ob s.rules.length cb),.v (.slice od s.clusters.length cd)]],80,g.w.heap.size⟩ w:=hw.fit (by simp [fitL,Res.eqv,qAA,conc])
      obtain⟨g4,k1',k2,k3,k4⟩:=hw1.row_pub
      refine⟨(0+1,oa3,1,cap3,g4),congrArg (fun z=>[Value.int .i64 z]) (wr1 h' l1 l2).symm,⟨h',GW.trans hgg k1',rfl,?_,fun a ha q=>k2 a ha (hgg.2 _ q).1,hAK.succ hx hnF⟩,dec h',k4.fit (by simp [fitL,Res.eqv,qAA,conc])⟩
      rw [hT];exact k3
    ·cases he
     have hbk:¬ g2.g bk:=hnb _ rfl
     repeat((conv=>whnf);first|apply qza|apply qzb|apply qzc|apply qzd|apply qze|intro(_:Nat)|intro(_:OA)_)
     conv=>whnf
     refine .inr ⟨bk,_,rest,⟨rfl,hb1.1,hb1.2,hb2,hpb.1,hpb.2.2,hb3,hb4,hb5,by unfold maxLen;omega,by omega⟩,fun gL hless oa3 cap3=>?_⟩
     repeat((conv=>whnf);first|apply qza|apply qzb|apply qzc|apply qzd|apply qze|intro(_:Nat)|intro(_:OA)_)
     conv=>whnf
     refine fun fr w hw=>by
      have hw1:HSim fr ⟨gL,.row 70 oa3 (nX+1) cap3 qLA 4 (((lisL (l.take k)).map cLi).flatten++cLi ⟨x,false,0,false⟩) :: [.blk 5 qw qIA [.v (.int .i64 0),.v (.int .i64 0),.v (.int .i64 0),.row 3 (some ⟨qP,0,none⟩) N N,.sl 4 qV 0 1 1,.v (.slice oa3 (nX+1) cap3),.v (.slice oS N cS),.v (.slice none 0 0)],.blk 4 qV qBA [.v (.slice sa (qFA s).snap.listens.length ta),.v (.slice sb (qFA s).snap.rules.length tb),.v (.slice sd (qFA s).snap.clusters.length td),.v (.slice oV nV cV),.v (.bool false)],.row 3 (some ⟨qP,0,none⟩) N N q4A 1 (List.replicate N [Value.int .i64 0]).flatten,.blk 2 q2 qBA [.v (.slice sa (qFA s).snap.listens.length ta),.v (.slice sb (qFA s).snap.rules.length tb),.v (.slice sd (qFA s).snap.clusters.length td),.v (.slice oV nV cV),.v (.bool false)],.blk 1 q1 qIA [.v (.int .i64 0),.v (.int .i64 0),.v (.int .i64 0),.v (.slice none 0 0),.v (.slice none 0 0),.v (.slice none 0 0),.v (.slice none 0 0),.v (.slice none 0 0)],.blk 0 q0 qdA [.v (.slice oa s.listens.length ca),.v (.slice ob s.rules.length cb),.v (.slice od s.clusters.length cd)]],80,g.w.heap.size⟩ w:=hw.fit (by simp [fitL,Res.eqv,qAA,conc])
      obtain⟨g4,k1',k2,k3,k4⟩:=hw1.row_pub
      have hgL:=hless.le hgg hbk
      refine⟨(k+1,oa3,nX+1,cap3,g4),congrArg (fun z=>[Value.int .i64 z]) (wr1 h' l1 l2).symm,⟨h',GW.trans hgL k1',by omega,?_,fun a ha q=>k2 a ha (hgL.2 _ q).1,hAK.succ hx hnF⟩,dec h',k4.fit (by simp [fitL,Res.eqv,qAA,conc])⟩
      rw [hT];simpa using k3
   have hkL:k=l.length:=by have:=of_decide_eq_false hlt;omega
   subst hkL
   have hok:qRL s l N:=⟨hz,ht,hAK.done (Nat.le_refl _)⟩
   rw [List.take_length] at hlis
   repeat((conv=>whnf);first|apply qza|apply qzb|apply qzc|apply qzd|apply qze|intro(_:Nat)|intro(_:OA)_)
   conv=>whnf
   refine fun gA kA nA pA=>?_
   repeat((conv=>whnf);first|apply qza|apply qzb|apply qzc|apply qzd|apply qze|intro(_:Nat)|intro(_:OA)_)
   conv=>whnf
   refine⟨5,rfl,by unfold maxLen;omega,fun gB kB nB pB=>?_⟩
   repeat((conv=>whnf);first|apply qza|apply qzb|apply qzc|apply qzd|apply qze|intro(_:Nat)|intro(_:OA)_)
   conv=>whnf
   intro g2 hg
   have mA:=GW.trans kA (GW.trans kB hg)
   have hnX:nX=l.length:=hn
   subst hnX
   rw [List.take_length] at hpb
   have kP:∀ gN,PbSl gN g.w.heap.size q4A 1 (.slice (some ⟨qP,0,none⟩) N N) N (List.replicate N [Value.int .i64 0]).flatten→rSl 1 rInt gN (.slice (some ⟨qP,0,none⟩) N N) (newW s l N).pins:=fun gN p=>q8E p.rd (List.replicate N 0) (fun x=>.int .i64 x) (by simp [List.flatten_replicate_singleton]) fun x hx=>⟨rfl,by rw [List.eq_of_mem_replicate hx];decide⟩
   have kV:∀ gN,PbSl gN g.w.heap.size qBA 5 (.slice (some ⟨qV,0,none⟩) 1 1) 1 [.slice sa (qFA s).snap.listens.length ta,.slice sb (qFA s).snap.rules.length tb,.slice sd (qFA s).snap.clusters.length td,.slice oV nV cV,.bool false]→g1≤gN→rSl 5 rVe gN (.slice (some ⟨qV,0,none⟩) 1 1) (newW s l N).versions:=fun gN p kk=>by
    refine qjE p.rd [qFA s] [[.slice sa (qFA s).snap.listens.length ta,.slice sb (qFA s).snap.rules.length tb,.slice sd (qFA s).snap.clusters.length td,.slice oV nV cV,.bool false]] rfl (fun e he=>?_) rfl rfl fun i x ec hx hec=>?_
    ·simp at he;subst he;rfl
    ·cases i with
     | zero =>
      simp at hx hec
      subst hx;subst hec
      exact q8C _ _ _ _ kk hV0
     | succ i=>simp at hx
   have hpA:=pA.mono (GW.trans kB hg)
   have hpB:=pB.mono hg
   refine .inl ⟨hok,_,_,_,_,_,rfl,⟨_,_,_,_,_,rfl,⟨show InR 0 by decide,show InR 0 by decide,show InR 0 by decide⟩,kP _ hpA,kV _ hpB (GW.trans hg2 (GW.trans hgg mA)),hlis.mono q7B mA,hSh.mono q6A (GW.trans hgg mA),⟨none,0,rfl,Nat.le_refl _,Nat.zero_le _,fun _=>⟨rfl,rfl⟩,fun i x hx=>by simp [newW] at hx⟩⟩,hpb.mono mA,fun ad had=>?_⟩
   subst had
   obtain⟨bX,rfl⟩:=PbSl.addr hpb
   have d1:=PbSl.dom hpb
   have hnB2:=hnb _ rfl
   have kk:=(GW.less_spec g2 bX).le (GW.trans hgg mA) hnB2
   refine⟨g2.less bX,qNO _ _,fun h=>h.2 rfl,kP _ (PbSl.lessB hpA (GW.less_spec _ _) fun e=>nA _ rfl (by rw [e];exact d1)),kV _ (PbSl.lessB hpB (GW.less_spec _ _) fun e=>nB (by rw [e];exact(kA.2 _ d1).1)) (GW.trans hg2 kk),hSh.mono q6A kk⟩)
end Go.Proofs.Ytkbbljngpglnkaa
