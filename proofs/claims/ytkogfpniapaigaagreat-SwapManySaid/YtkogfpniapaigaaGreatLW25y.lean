/- Law 22's example: what it answers. -/
import Derived.Test.YtkogfpniapaigaaGreatLW25d
import Derived.Test.YtkogfpniapaigaaGreatLW9n
import Derived.Test.YtkogfpniapaigaaGreatLW9g
import Derived.Test.YtkogfpniapaigaaGreatPl
import Derived.Test.YtkogfpniapaigaaGreatLW9k
import Derived.Test.YtkogfpniapaigaaGreatLK5b
import Derived.Test.YtkogfpniapaigaaGreatF
set_option linter.unusedVariables false
set_option linter.unusedSimpArgs false
namespace Go.Proofs.YtkogfpniapaigaaGreat
open Go.Proofs.YtkogfpniapaigaaGreat.Sx Go.RowKit
set_option maxHeartbeats 16000000
set_option maxRecDepth 100000
theorem qjM (g:GW) {t:Int} {c:Config} {o1 o2 o3:Option Addr} {t1 t2 t3:Nat} (h:InR t) (hc:qcA g [.slice o1 c.listens.length t1,.slice o2 c.routes.length t2,.slice o3 c.clusters.length t3] c):qiD g ((mS c t).cs (.slice o1 c.listens.length t1) (.slice o2 c.routes.length t2) (.slice o3 c.clusters.length t3)) (mS c t) :=
 ⟨_,_,_,rfl,⟨h,z0,z0,z0,z0,z0,z0,z0,z0,zu,z0,z0,z0,z0,qpS,qkO⟩,⟨show InR (3:Int) by decide,z0,z0,z0⟩,hc⟩
theorem qKV:SnS (qbH 1 [true]):=by
 refine⟨by decide,fun r hr=>?_⟩
 have:r=⟨0,⟨#[42]⟩,⟨#[47]⟩,0⟩:=by simpa [qbH] using hr
 subst this
 decide
theorem wS_sn:SnW wS:=fun v hv=>by
 have:v=qGA (qbH 1 [true]):=by simpa [wS,newW] using hv
 subst this;exact qKV
theorem qnT:SnW wS2:=fun v hv=>by
 have:v=qGA (qbH 1 [true]):=by simpa [wS2] using hv
 subst this;exact qKV
theorem q7U:BgW 1000 wS:=qeU (by decide) (by decide) (by decide)
theorem q8U:BgW 1000 wS2:=by
 obtain⟨⟨h1,h2,h3,h4,h5⟩,h6,h7⟩:=q7U
 refine⟨⟨h1,by show 2≤1000;decide,h3,h4,by show 1≤1000;decide⟩,h6,fun v hv=>h7 v ?_⟩
 have:v=qGA (qbH 1 [true]):=by simpa [wS2] using hv
 subst this;simp [wS,newW]
theorem smS:SmC cfgS:=fun r hr=>by
 have:r=⟨sInW,⟨#[42]⟩,⟨#[47]⟩,⟨#[97]⟩⟩:=by simpa [cfgS] using hr
 subst this;decide
theorem smS0:SmC qQL:=fun r hr=>by simp [qQL] at hr
theorem qGB (g:GW):OkV Tryz.prog qOF [] g (.bool true):=by
 obtain⟨n,wy,hd,hans⟩:=q5U
 obtain⟨mop,mth,mpc,mep,mve,mli,mcl,men,mot,msl,mwo,mlk,mi,mk,msu,mdo,man,mco⟩:=n
 simp only at hans
 subst hans
 obtain⟨n2,wy2,hd2,hans2⟩:=q9T
 obtain⟨nop,nth,npc,nep,nve,nli,ncl,nen,not_,nsl,nwo,nlk,ni,nk,nsu,ndo,nan,nco⟩:=n2
 simp only at hans2
 subst hans2
 exact Ok.of_fn hm noT 0 qFF (args:=[]) (by
  repeat((conv=>whnf);first|apply qza|apply qzb|apply qzc|apply qzd|apply qze|intro(_:Nat))
  refine .inr ((qtQ _).mono fun v g1 hg1 hO=>?_)
  obtain⟨cs,o1,t1,o2,t2,o3,t3,rfl,hw1,hc1⟩:=hO
  obtain⟨_,_,_,_,_,_,_,_,_,_,rfl⟩:=qoA hw1
  repeat((conv=>whnf);first|apply qza|apply qzb|apply qzc|apply qzd|apply qze|intro(_:Nat))
  refine .inr ((qDE _ hw1 (qjM _ (t:=0) (c:=cfgS) (by decide) hc1) wS_sn (BgW.up q7U (by decide)) (by decide) smS wy hd (by decide)).mono fun v g2 hg2 hO=>?_)
  obtain⟨csa,msa,rfl,hwa,hMa⟩:=hO
  obtain⟨_,_,_,_,_,_,_,_,_,_,rfl⟩:=qoA hwa
  obtain⟨_,_,_,_,_,_,rfl⟩:=qrA hMa
  have hc2:qcA g2 [.slice o1 1 t1,.slice none 0 0,.slice o3 1 t3] qQL:=by
   obtain⟨_,_,_,he,k1,_,k3⟩:=qMA _ _ _ _ hg2 hc1
   cases he
   exact⟨_,_,_,rfl,k1,rNil _ _ _,k3⟩
  repeat((conv=>whnf);first|apply qza|apply qzb|apply qzc|apply qzd|apply qze|intro(_:Nat))
  refine .inr ((qDE _ hwa (qjM _ (t:=0) (c:=qQL) (by decide) hc2) qnT (BgW.up q8U (by decide)) (by decide) smS0 wy2 hd2 (by decide)).mono fun v g3 hg3 hO=>?_)
  obtain⟨csb,msb,rfl,hwb,hMb⟩:=hO
  obtain⟨_,_,_,_,_,_,_,_,_,_,rfl⟩:=qoA hwb
  obtain⟨_,_,_,_,_,_,rfl⟩:=qrA hMb
  have hwa3:=qTA _ _ _ _ hg3 hwa
  obtain⟨ar,rfl⟩:=qiM (qnR hwa3) (i:=0) (x:=⟨0,0,false⟩) rfl
  obtain⟨ecr,_,⟨rfl,_⟩,hcr⟩:=qoR (qnR hwa3) (i:=0) (x:=⟨0,0,false⟩) rfl
  have hwI:OkV Tryz.prog qFE _ _ _:=(q3N _ hwa3 qnT).to (congrArg Value.bool qaN)
  have hwS:OkV Tryz.prog qGC _ _ _:=qpM _ hwa3 hwb
  repeat'((conv=>whnf);first|apply qza|apply qzb|apply qzc|apply qzd|apply qze|intro(_:Nat)|refine⟨fun _=>?_,fun h=>absurd h.symm Bool.false_ne_true⟩|refine⟨fun h=>absurd h Bool.false_ne_true,fun _=>?_⟩|refine⟨_,rfl,⟨by decide,by decide⟩,?_⟩|refine⟨_,⟨rfl,hcr⟩,?_⟩|refine .inl ⟨_,hwS,?_⟩|refine .inl ⟨_,hwI,?_⟩|fail)
  conv=>whnf
  intro g2 hg
  rfl)
/- Machines: the document's sameness is true of the same datum. -/
open Go.Proofs.YtkogfpniapaigaaGreat.Sx Go.RowKit
theorem qrQ (g:GW) {o:OpD} {a1 a2 a3 b1 b2 b3:Option Addr} {p1 p2 p3 q1 q2 q3 l1 l2 l3:Nat}:OkV Tryz.prog qIF [.agg ⟨[.int .i64 o.kind,.string o.listen,.string o.host,.string o.path,.int .i64 o.d0,.int .i64 o.d1,.int .i64 o.n,.slice a1 l1 p1,.slice a2 l2 p2,.slice a3 l3 p3]⟩,.agg ⟨[.int .i64 o.kind,.string o.listen,.string o.host,.string o.path,.int .i64 o.d0,.int .i64 o.d1,.int .i64 o.n,.slice b1 l1 q1,.slice b2 l2 q2,.slice b3 l3 q3]⟩] g (.bool true) :=
 Ok.of_fn hm noT 0 q9E (args:=[.v (.agg ⟨[.int .i64 o.kind,.string o.listen,.string o.host,.string o.path,.int .i64 o.d0,.int .i64 o.d1,.int .i64 o.n,.slice a1 l1 p1,.slice a2 l2 p2,.slice a3 l3 p3]⟩),.v (.agg ⟨[.int .i64 o.kind,.string o.listen,.string o.host,.string o.path,.int .i64 o.d0,.int .i64 o.d1,.int .i64 o.n,.slice b1 l1 q1,.slice b2 l2 q2,.slice b3 l3 q3]⟩)]) (by
  repeat((conv=>whnf);first|apply qza|apply qzb|apply qzc|apply qzd|apply qze|intro(_:Nat))
  conv=>whnf
  refine⟨fun _=>?_,fun hx=>absurd hx (by simp)⟩
  repeat((conv=>whnf);first|apply qza|apply qzb|apply qzc|apply qzd|apply qze|intro(_:Nat))
  conv=>whnf
  refine⟨fun _=>?_,fun hx=>absurd hx (by simp)⟩
  repeat((conv=>whnf);first|apply qza|apply qzb|apply qzc|apply qzd|apply qze|intro(_:Nat))
  conv=>whnf
  refine⟨fun _=>?_,fun hx=>absurd hx (by simp)⟩
  repeat((conv=>whnf);first|apply qza|apply qzb|apply qzc|apply qzd|apply qze|intro(_:Nat))
  conv=>whnf
  refine⟨fun _=>?_,fun hx=>absurd hx (by simp)⟩
  repeat((conv=>whnf);first|apply qza|apply qzb|apply qzc|apply qzd|apply qze|intro(_:Nat))
  conv=>whnf
  refine⟨fun _=>?_,fun hx=>absurd hx (by simp)⟩
  repeat((conv=>whnf);first|apply qza|apply qzb|apply qzc|apply qzd|apply qze|intro(_:Nat))
  conv=>whnf
  refine⟨fun _=>?_,fun hx=>absurd hx (by simp)⟩
  repeat((conv=>whnf);first|apply qza|apply qzb|apply qzc|apply qzd|apply qze|intro(_:Nat))
  conv=>whnf
  refine⟨fun _=>?_,fun hx=>absurd hx (by simp)⟩
  repeat((conv=>whnf);first|apply qza|apply qzb|apply qzc|apply qzd|apply qze|intro(_:Nat))
  conv=>whnf
  refine⟨fun _=>?_,fun hx=>absurd hx (by simp)⟩
  repeat((conv=>whnf);first|apply qza|apply qzb|apply qzc|apply qzd|apply qze|intro(_:Nat))
  conv=>whnf
  refine⟨fun _=>?_,fun hx=>absurd hx (by simp)⟩
  repeat((conv=>whnf);first|apply qza|apply qzb|apply qzc|apply qzd|apply qze|intro(_:Nat))
  conv=>whnf
  intro g2 hg
  simp)
theorem qET (g:GW) {ms ms':List Value} {m:Mach} (hM:qiD g ms m) (hM':qiD g ms' m):OkV Tryz.prog qnH [.agg ⟨ms⟩,.agg ⟨ms'⟩] g (.bool true):=by
 obtain⟨o1,t1,o2,t2,o3,t3,rfl⟩:=qrA hM
 obtain⟨q1,u1,q2,u2,q3,u3,rfl⟩:=qrA hM'
 exact Ok.of_fn hm noT 0 qPH (args:=[.v (.agg ⟨mQ m o1 t1 o2 t2 o3 t3⟩),.v (.agg ⟨m.cs (.slice q1 m.op.config.listens.length u1) (.slice q2 m.op.config.routes.length u2) (.slice q3 m.op.config.clusters.length u3)⟩)]) (by
  repeat((conv=>whnf);first|apply qza|apply qzb|apply qzc|apply qzd|apply qze|intro(_:Nat))
  conv=>whnf
  refine .inl ⟨_,qrQ _,?_⟩
  repeat((conv=>whnf);first|apply qza|apply qzb|apply qzc|apply qzd|apply qze|intro(_:Nat))
  conv=>whnf
  refine⟨fun h=>(nomatch h),fun _=>?_⟩
  repeat((conv=>whnf);first|apply qza|apply qzb|apply qzc|apply qzd|apply qze|intro(_:Nat))
  conv=>whnf
  refine⟨fun _=>?_,fun hx=>absurd hx (by simp)⟩
  repeat((conv=>whnf);first|apply qza|apply qzb|apply qzc|apply qzd|apply qze|intro(_:Nat))
  conv=>whnf
  refine⟨fun _=>?_,fun hx=>absurd hx (by simp)⟩
  repeat((conv=>whnf);first|apply qza|apply qzb|apply qzc|apply qzd|apply qze|intro(_:Nat))
  conv=>whnf
  refine⟨fun _=>?_,fun hx=>absurd hx (by simp)⟩
  repeat((conv=>whnf);first|apply qza|apply qzb|apply qzc|apply qzd|apply qze|intro(_:Nat))
  conv=>whnf
  refine⟨fun _=>?_,fun hx=>absurd hx (by simp)⟩
  repeat((conv=>whnf);first|apply qza|apply qzb|apply qzc|apply qzd|apply qze|intro(_:Nat))
  conv=>whnf
  refine⟨fun _=>?_,fun hx=>absurd hx (by simp)⟩
  repeat((conv=>whnf);first|apply qza|apply qzb|apply qzc|apply qzd|apply qze|intro(_:Nat))
  conv=>whnf
  refine⟨fun _=>?_,fun hx=>absurd hx (by simp)⟩
  repeat((conv=>whnf);first|apply qza|apply qzb|apply qzc|apply qzd|apply qze|intro(_:Nat))
  conv=>whnf
  refine⟨fun _=>?_,fun hx=>absurd hx (by simp)⟩
  repeat((conv=>whnf);first|apply qza|apply qzb|apply qzc|apply qzd|apply qze|intro(_:Nat))
  conv=>whnf
  refine⟨fun _=>?_,fun hx=>absurd hx (by simp)⟩
  repeat((conv=>whnf);first|apply qza|apply qzb|apply qzc|apply qzd|apply qze|intro(_:Nat))
  conv=>whnf
  refine⟨fun _=>?_,fun hx=>absurd hx (by simp)⟩
  repeat((conv=>whnf);first|apply qza|apply qzb|apply qzc|apply qzd|apply qze|intro(_:Nat))
  conv=>whnf
  refine⟨fun _=>?_,fun hx=>absurd hx (by simp)⟩
  repeat((conv=>whnf);first|apply qza|apply qzb|apply qzc|apply qzd|apply qze|intro(_:Nat))
  conv=>whnf
  refine⟨fun _=>?_,fun hx=>absurd hx (by simp)⟩
  repeat((conv=>whnf);first|apply qza|apply qzb|apply qzc|apply qzd|apply qze|intro(_:Nat))
  conv=>whnf
  refine⟨fun _=>?_,fun hx=>absurd hx (by simp)⟩
  repeat((conv=>whnf);first|apply qza|apply qzb|apply qzc|apply qzd|apply qze|intro(_:Nat))
  conv=>whnf
  refine⟨fun _=>?_,fun hx=>absurd hx (by simp)⟩
  repeat((conv=>whnf);first|apply qza|apply qzb|apply qzc|apply qzd|apply qze|intro(_:Nat))
  conv=>whnf
  refine⟨fun _=>?_,fun hx=>absurd hx (by simp)⟩
  repeat((conv=>whnf);first|apply qza|apply qzb|apply qzc|apply qzd|apply qze|intro(_:Nat))
  conv=>whnf
  refine⟨fun _=>?_,fun hx=>absurd hx (by simp)⟩
  repeat((conv=>whnf);first|apply qza|apply qzb|apply qzc|apply qzd|apply qze|intro(_:Nat))
  conv=>whnf
  refine⟨fun _=>?_,fun hx=>absurd hx (by simp)⟩
  repeat((conv=>whnf);first|apply qza|apply qzb|apply qzc|apply qzd|apply qze|intro(_:Nat))
  conv=>whnf
  intro g2 hg
  simp)
/- The law SwapSteps. -/
open Go.Proofs.YtkogfpniapaigaaGreat.Sx Go.RowKit
theorem q6N (g:GW) {cs ms:List Value} {w:Wd} {m:Mach} (hw:rWo g cs w) (hM:qiD g ms m):OkV Tryz.prog qJE [.agg ⟨cs⟩,.agg ⟨ms⟩] g (.bool true):=by
 obtain⟨oa,ca,ob,cb,oc,cc,od,cd,oe,ce,rfl⟩:=qoA hw
 obtain⟨o1,t1,o2,t2,o3,t3,rfl⟩:=qrA hM
 exact Ok.of_fn hm noT 0 q6D (args:=[.v (.agg ⟨wQ w oa ca ob cb oc cc od cd oe ce⟩),.v (.agg ⟨mQ m o1 t1 o2 t2 o3 t3⟩)]) (by
  repeat((conv=>whnf);first|apply qza|apply qzb|apply qzc|apply qzd|apply qze|intro(_:Nat))
  refine .inr ((qsM _ hw).mono fun v g1 hg1 hB=>?_)
  obtain⟨b,rfl,hB⟩:=hB
  repeat((conv=>whnf);first|apply qza|apply qzb|apply qzc|apply qzd|apply qze|intro(_:Nat))
  conv=>whnf
  refine⟨fun z1=>?_,fun z1=>?_⟩
  ·repeat((conv=>whnf);first|apply qza|apply qzb|apply qzc|apply qzd|apply qze|intro(_:Nat))
   conv=>whnf
   intro g2 hg
   rfl
  obtain⟨hb,hsn⟩:=hB z1
  have hb':=BgW.up (K':=1000000) hb (by decide)
  have hw1:=qTA _ _ _ _ hg1 hw
  have hM1:=qpC _ _ _ _ hg1 hM
  have hcf:qcA g1 [.slice o1 m.op.config.listens.length t1,.slice o2 m.op.config.routes.length t2,.slice o3 m.op.config.clusters.length t3] m.op.config:=by
   obtain⟨_,_,_,he,_,_,hc⟩:=hM1
   simp only [List.cons.injEq] at he
   obtain⟨_,_,_,_,_,_,_,rfl,rfl,rfl,_⟩:=he
   exact hc
  repeat((conv=>whnf);first|apply qza|apply qzb|apply qzc|apply qzd|apply qze|intro(_:Nat))
  conv=>whnf
  refine .inl ⟨_,qRP _ hcf,?_⟩
  repeat((conv=>whnf);first|apply qza|apply qzb|apply qzc|apply qzd|apply qze|intro(_:Nat))
  conv=>whnf
  refine⟨fun z2=>?_,fun z2=>?_⟩
  ·repeat((conv=>whnf);first|apply qza|apply qzb|apply qzc|apply qzd|apply qze|intro(_:Nat))
   conv=>whnf
   intro g2 hg
   rfl
  obtain⟨hsm,hsz⟩:=qeR z2
  have hsz':m.op.config.routes.length≤1000000:=by omega
  repeat((conv=>whnf);first|apply qza|apply qzb|apply qzc|apply qzd|apply qze|intro(_:Nat))
  refine .inr ((q9P _ hw1 hM1 hsn hb' hsz').mono fun v g2 hg2 hO=>?_)
  obtain⟨csa,msa,rfl,hwa,hMa⟩:=hO
  obtain⟨_,_,_,_,_,_,_,_,_,_,rfl⟩:=qoA hwa
  obtain⟨_,_,_,_,_,_,rfl⟩:=qrA hMa
  have hw2:=qTA _ _ _ _ hg2 hw1
  have hM2:=qpC _ _ _ _ hg2 hM1
  repeat((conv=>whnf);first|apply qza|apply qzb|apply qzc|apply qzd|apply qze|intro(_:Nat))
  refine .inr ((qxR _ hw2 hM2 hsn hb' hsm).mono fun v g3 hg3 hO=>?_)
  obtain⟨csb,msb,rfl,hwb,hMb⟩:=hO
  obtain⟨_,_,_,_,_,_,_,_,_,_,rfl⟩:=qoA hwb
  obtain⟨_,_,_,_,_,_,rfl⟩:=qrA hMb
  repeat((conv=>whnf);first|apply qza|apply qzb|apply qzc|apply qzd|apply qze|intro(_:Nat))
  conv=>whnf
  refine .inl ⟨_,qGB _,?_⟩
  repeat((conv=>whnf);first|apply qza|apply qzb|apply qzc|apply qzd|apply qze|intro(_:Nat))
  conv=>whnf
  refine⟨fun _=>?_,fun h=>nomatch h⟩
  repeat((conv=>whnf);first|apply qza|apply qzb|apply qzc|apply qzd|apply qze|intro(_:Nat))
  conv=>whnf
  refine .inl ⟨_,qpM _ (qTA _ _ _ _ hg3 hwa) hwb,?_⟩
  repeat((conv=>whnf);first|apply qza|apply qzb|apply qzc|apply qzd|apply qze|intro(_:Nat))
  conv=>whnf
  refine⟨fun _=>?_,fun h=>nomatch h⟩
  repeat((conv=>whnf);first|apply qza|apply qzb|apply qzc|apply qzd|apply qze|intro(_:Nat))
  conv=>whnf
  refine .inl ⟨_,qET _ (qpC _ _ _ _ hg3 hMa) hMb,?_⟩
  repeat((conv=>whnf);first|apply qza|apply qzb|apply qzc|apply qzd|apply qze|intro(_:Nat))
  conv=>whnf
  refine⟨fun _=>?_,fun h=>nomatch h⟩
  repeat((conv=>whnf);first|apply qza|apply qzb|apply qzc|apply qzd|apply qze|intro(_:Nat))
  conv=>whnf
  intro g2 hg
  simp)
/- What came in of this seat's types is plain data. -/
open Go.Proofs.YtkogfpniapaigaaGreat.Sx
section
variable {H:Type} {enc:TypeId×Value→H} {W:World}
theorem qEP:Rds enc Tryz.prog W qkC qmQ:=qKU (tS:=q0B) (tI:=qNA) (by kernel_rfl) (by kernel_rfl) (by kernel_rfl) (by kernel_rfl)
theorem q0N:Rds enc Tryz.prog W qJC qrK:=q7S (tS:=q0B) (by kernel_rfl) (by kernel_rfl) (by kernel_rfl)
theorem qDH:Rds enc Tryz.prog W q1B qAC:=qlQ (tS:=q0B) (tI:=qNA) (tL:=qTQ) (tB:=qGH) (by kernel_rfl) (by kernel_rfl) (by kernel_rfl) (by kernel_rfl) (by kernel_rfl) (by kernel_rfl) (by kernel_rfl)
theorem qjE:Rds enc Tryz.prog W qtA qcA:=by
 intro fuel cs x h
 obtain⟨a,b,d,rfl,⟨l0,h0⟩,⟨l1,h1⟩,l2,h2⟩:=q5P (t0:=qwJ) (t1:=qbK) (t2:=q2D) (e0:=q0B) (e1:=qJC) (e2:=q1B) (z0:=1) (z1:=4) (z2:=4)
  (by kernel_rfl) (by kernel_rfl) (by kernel_rfl) (by kernel_rfl) (by kernel_rfl) (by kernel_rfl) (by kernel_rfl) (by kernel_rfl) (by omega) (by omega) (by omega) (qAE (by kernel_rfl)) q0N qDH h
 exact⟨⟨l0,l1,l2⟩,a,b,d,rfl,h0,h1,h2⟩
end
/- What came in of a snapshot is plain data. -/
open Go.Proofs.YtkogfpniapaigaaGreat.Sx
section
variable {H:Type} {enc:TypeId×Value→H} {W:World}
theorem qDP:Rds enc Tryz.prog W qPA qnF:=by
 intro fuel cs x h
 obtain⟨a,b,d,rfl,⟨l0,h0⟩,⟨l1,h1⟩,l2,h2⟩:=q5P (t0:=qwJ) (t1:=qZL) (t2:=q2D) (e0:=q0B) (e1:=qkC) (e2:=q1B) (z0:=1) (z1:=4) (z2:=4)
  (by kernel_rfl) (by kernel_rfl) (by kernel_rfl) (by kernel_rfl) (by kernel_rfl) (by kernel_rfl) (by kernel_rfl) (by kernel_rfl) (by omega) (by omega) (by omega) (qAE (by kernel_rfl)) qEP qDH h
 exact⟨⟨l0,l1,l2⟩,a,b,d,rfl,h0,h1,h2⟩
end
/- What came in of worlds and machines is plain data. -/
open Go.Proofs.YtkogfpniapaigaaGreat.Sx
section
variable {H:Type} {enc:TypeId×Value→H} {W:World}
theorem qmM:Rds enc Tryz.prog W qbA qpA:=by
 intro fuel cs x h
 obtain⟨hl,hg⟩:=qnI (l:=[(0,1,q0B),(1,1,qGH),(2,1,qNA),(3,1,qGH)]) (by kernel_rfl) h
 rw [show Tryz.prog.cellsOf qbA=4 by kernel_rfl] at hl
 match cs,hl with
 | [a,b,c,d],_ =>
  obtain⟨s0,e0⟩:=(qAE (by kernel_rfl)).fld (hg 0 _ _ _ rfl)
  obtain⟨s1,e1⟩:=(qMJ (by kernel_rfl)).fld (hg 1 _ _ _ rfl)
  obtain⟨s2,e2,w2⟩:=(qlA (by kernel_rfl)).fld (hg 2 _ _ _ rfl)
  obtain⟨s3,e3⟩:=(qMJ (by kernel_rfl)).fld (hg 3 _ _ _ rfl)
  cases e0;cases e1;cases e2;cases e3
  exact⟨⟨s0,s1,s2,s3⟩,rfl,w2⟩
theorem qgL:Rds enc Tryz.prog W q9A qUA:=by
 intro fuel cs x h
 obtain⟨hl,hg⟩:=qnI (l:=[(0,1,qNA),(1,1,qNA),(2,1,qGH)]) (by kernel_rfl) h
 rw [show Tryz.prog.cellsOf q9A=3 by kernel_rfl] at hl
 match cs,hl with
 | [a,b,c],_ =>
  obtain⟨s0,e0,w0⟩:=(qlA (by kernel_rfl)).fld (hg 0 _ _ _ rfl)
  obtain⟨s1,e1,w1⟩:=(qlA (by kernel_rfl)).fld (hg 1 _ _ _ rfl)
  obtain⟨s2,e2⟩:=(qMJ (by kernel_rfl)).fld (hg 2 _ _ _ rfl)
  cases e0;cases e1;cases e2
  exact⟨⟨s0,s1,s2⟩,rfl,w0,w1⟩
theorem qqQ:RdsW enc Tryz.prog W qSA rEn:=by
 intro fuel cs x h hs
 obtain⟨hl,hg⟩:=qNN (l:=[(0,1,q0C),(1,1,qzD),(2,1,qNA)]) (by kernel_rfl) h hs
 rw [show Tryz.prog.cellsOf qSA=3 by kernel_rfl] at hl
 match cs,hl with
 | [a,b,c],_ =>
  obtain⟨s0,e0,w0⟩:=(qBH (by kernel_rfl)).fld (tr1 (hg 0 _ _ _ rfl))
  obtain⟨s1,v,e1,h1,hb⟩:=(q3P (t:=qzD) (e:=qNA) (sz:=1) (by kernel_rfl) (by kernel_rfl) (qlA (by kernel_rfl)).w).fld (hg 1 _ _ _ rfl)
  obtain⟨s2,e2,w2⟩:=(qlA (by kernel_rfl)).fld (tr1 (hg 2 _ _ _ rfl))
  cases e0;cases e1;cases e2
  refine⟨⟨s0,s1,s2⟩,⟨_,rfl,w0,w2,h1⟩,?_⟩
  rw [show Tryz.prog.bytesOf qNA=8 by kernel_rfl] at hb
  unfold reachBytes at hb
  show s1.length≤17592186044416
  omega
theorem q1N:RdsW enc Tryz.prog W qLA rGr:=by
 intro fuel cs x h hs
 obtain⟨hl,hg⟩:=qNN (l:=[(0,1,q0C),(1,1,qMI)]) (by kernel_rfl) h hs
 rw [show Tryz.prog.cellsOf qLA=2 by kernel_rfl] at hl
 match cs,hl with
 | [a,b],_ =>
  obtain⟨s0,e0,w0⟩:=(qBH (by kernel_rfl)).fld (tr1 (hg 0 _ _ _ rfl))
  obtain⟨s1,v,e1,h1⟩:=(qFU (t:=qMI) (e:=qSA) (sz:=3) (by kernel_rfl) (by kernel_rfl) qqQ).fld (hg 1 _ _ _ rfl)
  cases e0;cases e1
  exact⟨⟨s0,s1⟩,_,rfl,w0,h1⟩
theorem qfL:RdsW enc Tryz.prog W qCA rVe:=by
 intro fuel cs x h hs
 obtain⟨hl,hg⟩:=qNN (l:=[(0,3,qPA),(3,1,qYF),(4,1,qGH)]) (by kernel_rfl) h hs
 rw [show Tryz.prog.cellsOf qCA=5 by kernel_rfl] at hl
 match cs,hl with
 | [a,b,c,d,e],_ =>
  obtain⟨s0,e0⟩:=(qDP (enc:=enc)).fld (tr1 (hg 0 _ _ _ rfl))
  obtain⟨s1,v,e1,h1⟩:=(qFU (t:=qYF) (e:=qLA) (sz:=2) (by kernel_rfl) (by kernel_rfl) q1N).fld (hg 1 _ _ _ rfl)
  obtain⟨s2,e2⟩:=(qMJ (by kernel_rfl)).fld (tr1 (hg 2 _ _ _ rfl))
  cases e1;cases e2
  exact⟨⟨s0,s1,s2⟩,_,_,_,_,rfl,e0,h1⟩
theorem qSV:Rds enc Tryz.prog W qKB rRow:=by
 intro fuel cs x h
 obtain⟨l,v,rfl,h1⟩:=(qvC (t:=qKB) (e:=q0C) (sz:=1) (by kernel_rfl) (by kernel_rfl) (by omega) (qBH (by kernel_rfl))) fuel cs x h
 exact⟨l,_,rfl,h1⟩
theorem qqF:RdsW enc Tryz.prog W qEA rWo:=by
 intro fuel cs x h hs
 obtain⟨hl,hg⟩:=qNN (l:=[(0,1,qNA),(1,1,qNA),(2,1,qNA),(3,1,qzD),(4,1,q0D),(5,1,q2E),(6,1,q8G),(7,1,q1D)]) (by kernel_rfl) h hs
 rw [show Tryz.prog.cellsOf qEA=8 by kernel_rfl] at hl
 match cs,hl with
 | [c0,c1,c2,c3,c4,c5,c6,c7],_ =>
  obtain⟨s0,e0,w0⟩:=(qlA (by kernel_rfl)).fld (tr1 (hg 0 _ _ _ rfl))
  obtain⟨s1,e1,w1⟩:=(qlA (by kernel_rfl)).fld (tr1 (hg 1 _ _ _ rfl))
  obtain⟨s2,e2,w2⟩:=(qlA (by kernel_rfl)).fld (tr1 (hg 2 _ _ _ rfl))
  obtain⟨s3,v3,e3,h3⟩:=(qvC (t:=qzD) (e:=qNA) (sz:=1) (by kernel_rfl) (by kernel_rfl) (by omega) (qlA (by kernel_rfl))).fld (tr1 (hg 3 _ _ _ rfl))
  obtain⟨s4,v4,e4,h4⟩:=(qFU (t:=q0D) (e:=qCA) (sz:=5) (by kernel_rfl) (by kernel_rfl) qfL).fld (hg 4 _ _ _ rfl)
  obtain⟨s5,v5,e5,h5⟩:=(qvC (t:=q2E) (e:=qbA) (sz:=4) (by kernel_rfl) (by kernel_rfl) (by omega) qmM).fld (tr1 (hg 5 _ _ _ rfl))
  obtain⟨s6,v6,e6,h6⟩:=(qvC (t:=q8G) (e:=qKB) (sz:=1) (by kernel_rfl) (by kernel_rfl) (by omega) qSV).fld (tr1 (hg 6 _ _ _ rfl))
  obtain⟨s7,v7,e7,h7⟩:=(qvC (t:=q1D) (e:=q9A) (sz:=3) (by kernel_rfl) (by kernel_rfl) (by omega) qgL).fld (tr1 (hg 7 _ _ _ rfl))
  cases e0;cases e1;cases e2;cases e3;cases e4;cases e5;cases e6;cases e7
  exact⟨⟨s0,s1,s2,s3,s4,s5,s6,s7⟩,_,_,_,_,_,rfl,⟨w0,w1,w2⟩,h3,h4,h5,h6,h7⟩
theorem qTV:Rds enc Tryz.prog W qZF fun _ cs (c:C6)=>cs=c.cs∧c.ok:=rd_c6 (e:=q0C) (by kernel_rfl) (by kernel_rfl) (by kernel_rfl) (by kernel_rfl)
theorem qnM:Rds enc Tryz.prog W qbE rAns:=by
 intro fuel cs x h
 obtain⟨hl,hg⟩:=qnI (l:=[(0,1,qNA),(1,1,qNA),(2,1,qNA),(3,1,qNA),(4,1,qNA),(5,1,qNA),(6,1,qNA),(7,6,qZF)]) (by kernel_rfl) h
 rw [show Tryz.prog.cellsOf qbE=13 by kernel_rfl] at hl
 match cs,hl with
 | [c0,c1,c2,c3,c4,c5,c6,d0,d1,d2,d3,d4,d5],_ =>
  obtain⟨s0,e0,w0⟩:=(qlA (by kernel_rfl)).fld (hg 0 _ _ _ rfl)
  obtain⟨s1,e1,w1⟩:=(qlA (by kernel_rfl)).fld (hg 1 _ _ _ rfl)
  obtain⟨s2,e2,w2⟩:=(qlA (by kernel_rfl)).fld (hg 2 _ _ _ rfl)
  obtain⟨s3,e3,w3⟩:=(qlA (by kernel_rfl)).fld (hg 3 _ _ _ rfl)
  obtain⟨s4,e4,w4⟩:=(qlA (by kernel_rfl)).fld (hg 4 _ _ _ rfl)
  obtain⟨s5,e5,w5⟩:=(qlA (by kernel_rfl)).fld (hg 5 _ _ _ rfl)
  obtain⟨s6,e6,w6⟩:=(qlA (by kernel_rfl)).fld (hg 6 _ _ _ rfl)
  obtain⟨s7,e7,w7⟩:=(qTV (enc:=enc)).fld (hg 7 _ _ _ rfl)
  cases e0;cases e1;cases e2;cases e3;cases e4;cases e5;cases e6;cases e7
  exact⟨⟨s0,s1,s2,s3,s4,s5,s6,s7⟩,rfl,⟨w0,w1,w2,w3,w4,w5,w6,w7⟩⟩
theorem qvR:Rds enc Tryz.prog W qcK fun g cs (o:OpD)=>∃ a b d,cs=[.int .i64 o.kind,.string o.listen,.string o.host,.string o.path,.int .i64 o.d0,.int .i64 o.d1,.int .i64 o.n,a,b,d]∧(InR o.kind∧InR o.d0∧InR o.d1∧InR o.n)∧qcA g [a,b,d] o.config:=by
 intro fuel cs x h
 obtain⟨hl,hg⟩:=qnI (l:=[(0,1,qNA),(1,1,q0B),(2,1,q0B),(3,1,q0B),(4,1,qNA),(5,1,qNA),(6,1,qNA),(7,3,qtA)]) (by kernel_rfl) h
 rw [show Tryz.prog.cellsOf qcK=10 by kernel_rfl] at hl
 match cs,hl with
 | [c0,c1,c2,c3,c4,c5,c6,d0,d1,d2],_ =>
  obtain⟨s0,e0,w0⟩:=(qlA (by kernel_rfl)).fld (hg 0 _ _ _ rfl)
  obtain⟨s1,e1⟩:=(qAE (by kernel_rfl)).fld (hg 1 _ _ _ rfl)
  obtain⟨s2,e2⟩:=(qAE (by kernel_rfl)).fld (hg 2 _ _ _ rfl)
  obtain⟨s3,e3⟩:=(qAE (by kernel_rfl)).fld (hg 3 _ _ _ rfl)
  obtain⟨s4,e4,w4⟩:=(qlA (by kernel_rfl)).fld (hg 4 _ _ _ rfl)
  obtain⟨s5,e5,w5⟩:=(qlA (by kernel_rfl)).fld (hg 5 _ _ _ rfl)
  obtain⟨s6,e6,w6⟩:=(qlA (by kernel_rfl)).fld (hg 6 _ _ _ rfl)
  obtain⟨s7,e7⟩:=(qjE (enc:=enc)).fld (hg 7 _ _ _ rfl)
  cases e0;cases e1;cases e2;cases e3;cases e4;cases e5;cases e6
  exact⟨⟨s0,s1,s2,s3,s4,s5,s6,s7⟩,_,_,_,rfl,⟨w0,w4,w5,w6⟩,e7⟩
theorem qhL:Rds enc Tryz.prog W qtC qiD:=by
 intro fuel cs x h
 obtain⟨hl,hg⟩:=qnI (l:=[(0,10,qcK),(10,1,qNA),(11,1,qNA),(12,1,qNA),(13,1,qNA),(14,1,qNA),(15,1,qNA),(16,1,qNA),(17,1,qNA),(18,1,qNA),(19,1,q0C),(20,1,qNA),(21,1,qNA),(22,1,qNA),(23,1,qNA),(24,1,qGH),(25,13,qbE),(38,6,qZF)]) (by kernel_rfl) h
 rw [show Tryz.prog.cellsOf qtC=44 by kernel_rfl] at hl
 match cs,hl with
 | p0 :: p1 :: p2 :: p3 :: p4 :: p5 :: p6 :: p7 :: p8 :: p9 :: c10 :: c11 :: c12 :: c13 :: c14 :: c15 :: c16 :: c17 :: c18 :: c19 :: c20 :: c21 :: c22 :: c23 :: c24 :: a0 :: a1 :: a2 :: a3 :: a4 :: a5 :: a6 :: a7 :: a8 :: a9 :: a10 :: a11 :: a12 :: n0 :: n1 :: n2 :: n3 :: n4 :: n5 :: [],_ =>
  obtain⟨s0,xa,xb,xd,e0,w0,hc⟩:=(qvR (enc:=enc)).fld (hg 0 _ _ _ rfl)
  obtain⟨s1,e1,w1⟩:=(qlA (by kernel_rfl)).fld (hg 1 _ _ _ rfl)
  obtain⟨s2,e2,w2⟩:=(qlA (by kernel_rfl)).fld (hg 2 _ _ _ rfl)
  obtain⟨s3,e3,w3⟩:=(qlA (by kernel_rfl)).fld (hg 3 _ _ _ rfl)
  obtain⟨s4,e4,w4⟩:=(qlA (by kernel_rfl)).fld (hg 4 _ _ _ rfl)
  obtain⟨s5,e5,w5⟩:=(qlA (by kernel_rfl)).fld (hg 5 _ _ _ rfl)
  obtain⟨s6,e6,w6⟩:=(qlA (by kernel_rfl)).fld (hg 6 _ _ _ rfl)
  obtain⟨s7,e7,w7⟩:=(qlA (by kernel_rfl)).fld (hg 7 _ _ _ rfl)
  obtain⟨s8,e8,w8⟩:=(qlA (by kernel_rfl)).fld (hg 8 _ _ _ rfl)
  obtain⟨s9,e9,w9⟩:=(qlA (by kernel_rfl)).fld (hg 9 _ _ _ rfl)
  obtain⟨s10,e10,w10⟩:=(qBH (by kernel_rfl)).fld (hg 10 _ _ _ rfl)
  obtain⟨s11,e11,w11⟩:=(qlA (by kernel_rfl)).fld (hg 11 _ _ _ rfl)
  obtain⟨s12,e12,w12⟩:=(qlA (by kernel_rfl)).fld (hg 12 _ _ _ rfl)
  obtain⟨s13,e13,w13⟩:=(qlA (by kernel_rfl)).fld (hg 13 _ _ _ rfl)
  obtain⟨s14,e14,w14⟩:=(qlA (by kernel_rfl)).fld (hg 14 _ _ _ rfl)
  obtain⟨s15,e15⟩:=(qMJ (by kernel_rfl)).fld (hg 15 _ _ _ rfl)
  obtain⟨s16,e16,w16⟩:=(qnM (enc:=enc)).fld (hg 16 _ _ _ rfl)
  obtain⟨s17,e17,w17⟩:=(qTV (enc:=enc)).fld (hg 17 _ _ _ rfl)
  cases e0;cases e1;cases e2;cases e3;cases e4;cases e5;cases e6;cases e7;cases e8;cases e9;cases e10;cases e11;cases e12;cases e13;cases e14;cases e15;cases e16;cases e17
  exact⟨⟨s0,s1,s2,s3,s4,s5,s6,s7,s8,s9,s10,s11,s12,s13,s14,s15,s16,s17⟩,_,_,_,rfl,⟨w1,w2,w3,w4,w5,w6,w7,w8,w9,w10,w11,w12,w13,w14,w16,w17⟩,w0,hc⟩
end
end Go.Proofs.YtkogfpniapaigaaGreat
