/- Law 20's example. -/
import Derived.Test.YthonngjhelcpeaaGreatLW20r22
import Derived.Test.YthonngjhelcpeaaGreatLW9x3
import Derived.Test.YthonngjhelcpeaaGreatPl
import Derived.Test.YthonngjhelcpeaaGreatLW9r
import Derived.Test.YthonngjhelcpeaaGreatLW9i
import Derived.Test.YthonngjhelcpeaaGreatLW9o
import Derived.Test.YthonngjhelcpeaaGreatF
set_option linter.unusedVariables false
set_option linter.unusedSimpArgs false
namespace Go.Proofs.YthonngjhelcpeaaGreat
open Go.Proofs.YthonngjhelcpeaaGreat.Sx Go.RowKit
set_option maxHeartbeats 16000000
set_option maxRecDepth 100000
theorem qUW {t h a:Int} {c:List Int}:SnW (wH t h a c):=by
 intro v hv
 have:v=⟨qJN 1 [true],[⟨t,[⟨h,[-1],a⟩]⟩],false⟩:=by simpa [wH] using hv
 subst this
 show SnS (qJN 1 [true])
 refine⟨by decide,fun r hr=>?_⟩
 have:r=⟨0,⟨#[42]⟩,⟨#[47]⟩,0⟩:=by simpa [qJN] using hr
 subst this
 decide
theorem qJV {K:Nat} (hK:6≤K) {t h a:Int} {c:List Int} (hc:c.length=6):BgW K (wH t h a c):=by
 refine⟨⟨by show 1≤K;omega,by show 1≤K;omega,by show 1≤K;omega,by show 1≤K;omega,Nat.zero_le _⟩,fun r hr=>?_,fun v hv=>?_⟩
 ·have:r=c:=by simpa [wH] using hr
  subst this;omega
 have:v=⟨qJN 1 [true],[⟨t,[⟨h,[-1],a⟩]⟩],false⟩:=by simpa [wH] using hv
 subst this
 refine⟨by show 1≤K;omega,fun y hy=>?_⟩
 have:y=⟨t,[⟨h,[-1],a⟩]⟩:=by simpa using hy
 subst this
 show 1≤K;omega
theorem qiU (g:GW):Ok Tryz.prog qnI [] g fun v g'=>∃ cs,v=.agg ⟨cs⟩∧rWo g' cs w1 :=
 Ok.of_fn hm noT 0 qPI (args:=[]) (by
  repeat((conv=>whnf);first|refine qz ?_|intro(_:Nat))
  conv=>whnf
  refine⟨1,rfl,by unfold maxLen;omega,fun g1 hg1 hn1 hp1=>?_⟩
  repeat((conv=>whnf);first|refine qz ?_|intro(_:Nat))
  conv=>whnf
  refine⟨4,rfl,by unfold maxLen;omega,fun g2 hg2 hn2 hp2=>?_⟩
  repeat((conv=>whnf);first|refine qz ?_|intro(_:Nat))
  conv=>whnf
  refine⟨1,rfl,by unfold maxLen;omega,fun g3 hg3 hn3 hp3=>?_⟩
  repeat((conv=>whnf);first|refine qz ?_|intro(_:Nat))
  conv=>whnf
  refine⟨4,rfl,by unfold maxLen;omega,fun g4 hg4 hn4 hp4=>?_⟩
  repeat((conv=>whnf);first|refine qz ?_|intro(_:Nat))
  conv=>whnf
  refine⟨1,rfl,by unfold maxLen;omega,fun g5 hg5 hn5 hp5=>?_⟩
  have hs:=qbW (n:=1) (h:=[true]) (hp1.mono (GW.trans hg2 (GW.trans hg3 (GW.trans hg4 hg5)))) (hp2.mono (GW.trans hg3 (GW.trans hg4 hg5))) (hp4.mono hg5) (hp3.mono (GW.trans hg4 hg5)) (by decide)
  have hl:=qAF (R:=rStr) hp5.rd [sInW] .string rfl fun _ _=>rfl
  conv=>whnf
  refine .inr ((qaZ _ hs hl (t:=1) (by decide) (by decide)).mono fun v g6 hg6 hN=>?_)
  rcases hN with ⟨_,cs,rfl,hw⟩|⟨h,_⟩
  rotate_left
  ·exact absurd qyY h
  obtain⟨_,_,_,_,_,_,_,_,_,_,rfl⟩:=qMA hw
  repeat((conv=>whnf);first|refine qz ?_|intro(_:Nat))
  conv=>whnf
  intro g2 hg
  exact⟨_,rfl,qDA _ _ _ _ hg hw⟩)
theorem qjU (g:GW):OkV Tryz.prog qrG [] g (.bool true) :=
 Ok.of_fn hm noT 0 qgG (args:=[]) (by
  repeat((conv=>whnf);first|refine qz ?_|intro(_:Nat))
  refine .inr ((qiU _).mono fun v g1 hg1 hO=>?_)
  obtain⟨cs,rfl,hw1⟩:=hO
  obtain⟨_,_,_,_,_,_,_,_,_,_,rfl⟩:=qMA hw1
  repeat((conv=>whnf);first|refine qz ?_|intro(_:Nat))
  refine .inr ((qWN _ hw1 (qDQ _ sInW sSl) (by rw [qVW];exact qUW) (by rw [qVW];exact qJV (by decide) rfl) ⟨by decide,by decide⟩ hway1.1 (congrArg Prod.fst e1) (by decide)).mono fun v g2 hg2 hO=>?_)
  obtain⟨csa,msa,rfl,hwa,hMa⟩:=hO
  obtain⟨_,_,_,_,_,_,_,_,_,_,rfl⟩:=qMA hwa
  obtain⟨_,_,_,_,_,_,rfl⟩:=q6A hMa
  have k1:=e1
  generalize (gIt 14 w1 (mH sInW sSl)).2=n1 at hMa k1 ⊢
  obtain⟨k1,k1'⟩:=Prod.mk.inj k1
  repeat((conv=>whnf);first|refine qz ?_|intro(_:Nat))
  refine .inr ((qWN _ hwa (qDQ _ sInW sSl) qUW (qJV (by decide) rfl) ⟨by decide,by decide⟩ hway2.1 (congrArg Prod.fst e2) (by decide)).mono fun v g3 hg3 hO=>?_)
  obtain⟨csb,msb,rfl,hwb,hMb⟩:=hO
  obtain⟨_,_,_,_,_,_,_,_,_,_,rfl⟩:=qMA hwb
  obtain⟨_,_,_,_,_,_,rfl⟩:=q6A hMb
  have k2:=e2
  generalize (gIt 12 wH1 (mH sInW sSl)).2=n2 at hMb k2 ⊢
  obtain⟨k2,k2'⟩:=Prod.mk.inj k2
  repeat((conv=>whnf);first|refine qz ?_|intro(_:Nat))
  refine .inr ((qWN _ hwb (qDQ _ sInW sQ) qUW (qJV (by decide) rfl) ⟨by decide,by decide⟩ hway3.1 (congrArg Prod.fst e3) (by decide)).mono fun v g4 hg4 hO=>?_)
  obtain⟨csc,msc,rfl,hwc,hMc⟩:=hO
  obtain⟨_,_,_,_,_,_,_,_,_,_,rfl⟩:=qMA hwc
  obtain⟨_,_,_,_,_,_,rfl⟩:=q6A hMc
  have k3:=e3
  generalize (gIt 10 wH2 (mH sInW sQ)).2=n3 at hMc k3 ⊢
  obtain⟨k3,k3'⟩:=Prod.mk.inj k3
  repeat((conv=>whnf);first|refine qz ?_|intro(_:Nat))
  refine .inr ((qWN _ hwc (qDQ _ sNoW sQ) qUW (qJV (by decide) rfl) ⟨by decide,by decide⟩ hway4 (congrArg Prod.fst e4) (by decide)).mono fun v g5 hg5 hO=>?_)
  obtain⟨csd,msd,rfl,hwd,hMd⟩:=hO
  obtain⟨_,_,_,_,_,_,_,_,_,_,rfl⟩:=qMA hwd
  obtain⟨_,_,_,_,_,_,rfl⟩:=q6A hMd
  have k4:=e4
  generalize (gIt 7 wH3 (mH sNoW sQ)).2=n4 at hMd k4 ⊢
  obtain⟨k4,k4'⟩:=Prod.mk.inj k4
  repeat((conv=>whnf);first|refine qz ?_|intro(_:Nat))
  have hcs:=(rWo_c hwc).mono qQC hg5
  conv=>whnf
  refine .inl ⟨_,qYZ _ hcs (by decide),?_⟩
  repeat((conv=>whnf);first|refine qz ?_|intro(_:Nat))
  conv=>whnf
  refine⟨fun hx=>absurd hx (by decide),fun _=>?_⟩
  repeat((conv=>whnf);first|refine qz ?_|intro(_:Nat))
  conv=>whnf
  refine⟨fun hx=>absurd hx (by decide),fun _=>?_⟩
  repeat((conv=>whnf);first|refine qz ?_|intro(_:Nat))
  obtain⟨_,_,_,_,_,_,_,_,_,_,_,_,_,_,_,d1,a1,_⟩:=n1
  replace k1:d1=true:=k1
  replace k1':a1=ansK 1 0:=k1'
  subst k1
  subst k1'
  conv=>whnf
  refine⟨fun _=>?_,fun h=>nomatch h⟩
  repeat((conv=>whnf);first|refine qz ?_|intro(_:Nat))
  conv=>whnf
  refine⟨fun _=>?_,fun hx=>absurd hx (by simp [ansK,c60])⟩
  repeat((conv=>whnf);first|refine qz ?_|intro(_:Nat))
  conv=>whnf
  refine⟨fun _=>?_,fun hx=>absurd hx (by decide)⟩
  repeat((conv=>whnf);first|refine qz ?_|intro(_:Nat))
  conv=>whnf
  refine⟨fun _=>?_,fun hx=>absurd hx (by simp [k2'])⟩
  repeat((conv=>whnf);first|refine qz ?_|intro(_:Nat))
  conv=>whnf
  refine⟨fun _=>?_,fun hx=>absurd hx (by decide)⟩
  repeat((conv=>whnf);first|refine qz ?_|intro(_:Nat))
  conv=>whnf
  refine⟨fun _=>?_,fun hx=>absurd hx (by simp [k3'])⟩
  repeat((conv=>whnf);first|refine qz ?_|intro(_:Nat))
  conv=>whnf
  refine⟨fun _=>?_,fun hx=>absurd hx (by decide)⟩
  repeat((conv=>whnf);first|refine qz ?_|intro(_:Nat))
  conv=>whnf
  refine⟨fun _=>?_,fun hx=>absurd hx (by simp [k4'])⟩
  repeat((conv=>whnf);first|refine qz ?_|intro(_:Nat))
  conv=>whnf
  refine⟨fun _=>?_,fun hx=>absurd hx (by decide)⟩
  repeat((conv=>whnf);first|refine qz ?_|intro(_:Nat))
  refine .inr ((qYY _ (qDA _ _ _ _ hg5 hwc) (qJV (by decide) rfl)).mono fun v g6 hg6 hO=>?_)
  subst hO
  have hFl:=qwN (qDA _ _ _ _ (GW.trans hg5 hg6) hwc)
  obtain⟨al,rfl⟩:=qGA hFl (i:=0) (x:=⟨sInW,false,1,false⟩) rfl
  obtain⟨_,hcl⟩:=qZF hFl (i:=0) (x:=⟨sInW,false,1,false⟩) rfl
  repeat((conv=>whnf);first|refine qz ?_|intro(_:Nat))
  conv=>whnf
  refine⟨fun _=>?_,fun hx=>absurd hx (by rw [qrX];decide)⟩
  repeat((conv=>whnf);first|refine qz ?_|intro(_:Nat))
  conv=>whnf
  refine⟨_,rfl,⟨by decide,by decide⟩,?_⟩
  repeat((conv=>whnf);first|refine qz ?_|intro(_:Nat))
  conv=>whnf
  refine⟨_,hcl 2 _ rfl,?_⟩
  repeat((conv=>whnf);first|refine qz ?_|intro(_:Nat))
  conv=>whnf
  refine⟨fun _=>?_,fun hx=>absurd hx (by decide)⟩
  repeat((conv=>whnf);first|refine qz ?_|intro(_:Nat))
  conv=>whnf
  refine⟨fun _=>?_,fun h=>nomatch h⟩
  repeat((conv=>whnf);first|refine qz ?_|intro(_:Nat))
  conv=>whnf
  intro g2 hg
  exact congrArg Value.bool (by decide))
/- Machines: the document's sameness is true of the same datum. -/
open Go.Proofs.YthonngjhelcpeaaGreat.Sx Go.RowKit
theorem qdU (g:GW) {o:OpD} {a1 a2 a3 b1 b2 b3:Option Addr} {p1 p2 p3 q1 q2 q3 l1 l2 l3:Nat}:OkV Tryz.prog qkG [.agg ⟨[.int .i64 o.kind,.string o.listen,.string o.host,.string o.path,.int .i64 o.d0,.int .i64 o.d1,.int .i64 o.n,.slice a1 l1 p1,.slice a2 l2 p2,.slice a3 l3 p3]⟩,.agg ⟨[.int .i64 o.kind,.string o.listen,.string o.host,.string o.path,.int .i64 o.d0,.int .i64 o.d1,.int .i64 o.n,.slice b1 l1 q1,.slice b2 l2 q2,.slice b3 l3 q3]⟩] g (.bool true) :=
 Ok.of_fn hm noT 0 qZG (args:=[.v (.agg ⟨[.int .i64 o.kind,.string o.listen,.string o.host,.string o.path,.int .i64 o.d0,.int .i64 o.d1,.int .i64 o.n,.slice a1 l1 p1,.slice a2 l2 p2,.slice a3 l3 p3]⟩),.v (.agg ⟨[.int .i64 o.kind,.string o.listen,.string o.host,.string o.path,.int .i64 o.d0,.int .i64 o.d1,.int .i64 o.n,.slice b1 l1 q1,.slice b2 l2 q2,.slice b3 l3 q3]⟩)]) (by
  repeat((conv=>whnf);first|refine qz ?_|intro(_:Nat))
  conv=>whnf
  refine⟨fun _=>?_,fun hx=>absurd hx (by simp)⟩
  repeat((conv=>whnf);first|refine qz ?_|intro(_:Nat))
  conv=>whnf
  refine⟨fun _=>?_,fun hx=>absurd hx (by simp)⟩
  repeat((conv=>whnf);first|refine qz ?_|intro(_:Nat))
  conv=>whnf
  refine⟨fun _=>?_,fun hx=>absurd hx (by simp)⟩
  repeat((conv=>whnf);first|refine qz ?_|intro(_:Nat))
  conv=>whnf
  refine⟨fun _=>?_,fun hx=>absurd hx (by simp)⟩
  repeat((conv=>whnf);first|refine qz ?_|intro(_:Nat))
  conv=>whnf
  refine⟨fun _=>?_,fun hx=>absurd hx (by simp)⟩
  repeat((conv=>whnf);first|refine qz ?_|intro(_:Nat))
  conv=>whnf
  refine⟨fun _=>?_,fun hx=>absurd hx (by simp)⟩
  repeat((conv=>whnf);first|refine qz ?_|intro(_:Nat))
  conv=>whnf
  refine⟨fun _=>?_,fun hx=>absurd hx (by simp)⟩
  repeat((conv=>whnf);first|refine qz ?_|intro(_:Nat))
  conv=>whnf
  refine⟨fun _=>?_,fun hx=>absurd hx (by simp)⟩
  repeat((conv=>whnf);first|refine qz ?_|intro(_:Nat))
  conv=>whnf
  refine⟨fun _=>?_,fun hx=>absurd hx (by simp)⟩
  repeat((conv=>whnf);first|refine qz ?_|intro(_:Nat))
  conv=>whnf
  intro g2 hg
  simp)
theorem qrW (g:GW) {ms ms':List Value} {m:Mach} (hM:qfA g ms m) (hM':qfA g ms' m):OkV Tryz.prog q1J [.agg ⟨ms⟩,.agg ⟨ms'⟩] g (.bool true):=by
 obtain⟨o1,t1,o2,t2,o3,t3,rfl⟩:=q6A hM
 obtain⟨q1,u1,q2,u2,q3,u3,rfl⟩:=q6A hM'
 exact Ok.of_fn hm noT 0 qUJ (args:=[.v (.agg ⟨mQ m o1 t1 o2 t2 o3 t3⟩),.v (.agg ⟨m.cs (.slice q1 m.op.config.listens.length u1) (.slice q2 m.op.config.routes.length u2) (.slice q3 m.op.config.clusters.length u3)⟩)]) (by
  repeat((conv=>whnf);first|refine qz ?_|intro(_:Nat))
  conv=>whnf
  refine .inl ⟨_,qdU _,?_⟩
  repeat((conv=>whnf);first|refine qz ?_|intro(_:Nat))
  conv=>whnf
  refine⟨fun h=>(nomatch h),fun _=>?_⟩
  repeat((conv=>whnf);first|refine qz ?_|intro(_:Nat))
  conv=>whnf
  refine⟨fun _=>?_,fun hx=>absurd hx (by simp)⟩
  repeat((conv=>whnf);first|refine qz ?_|intro(_:Nat))
  conv=>whnf
  refine⟨fun _=>?_,fun hx=>absurd hx (by simp)⟩
  repeat((conv=>whnf);first|refine qz ?_|intro(_:Nat))
  conv=>whnf
  refine⟨fun _=>?_,fun hx=>absurd hx (by simp)⟩
  repeat((conv=>whnf);first|refine qz ?_|intro(_:Nat))
  conv=>whnf
  refine⟨fun _=>?_,fun hx=>absurd hx (by simp)⟩
  repeat((conv=>whnf);first|refine qz ?_|intro(_:Nat))
  conv=>whnf
  refine⟨fun _=>?_,fun hx=>absurd hx (by simp)⟩
  repeat((conv=>whnf);first|refine qz ?_|intro(_:Nat))
  conv=>whnf
  refine⟨fun _=>?_,fun hx=>absurd hx (by simp)⟩
  repeat((conv=>whnf);first|refine qz ?_|intro(_:Nat))
  conv=>whnf
  refine⟨fun _=>?_,fun hx=>absurd hx (by simp)⟩
  repeat((conv=>whnf);first|refine qz ?_|intro(_:Nat))
  conv=>whnf
  refine⟨fun _=>?_,fun hx=>absurd hx (by simp)⟩
  repeat((conv=>whnf);first|refine qz ?_|intro(_:Nat))
  conv=>whnf
  refine⟨fun _=>?_,fun hx=>absurd hx (by simp)⟩
  repeat((conv=>whnf);first|refine qz ?_|intro(_:Nat))
  conv=>whnf
  refine⟨fun _=>?_,fun hx=>absurd hx (by simp)⟩
  repeat((conv=>whnf);first|refine qz ?_|intro(_:Nat))
  conv=>whnf
  refine⟨fun _=>?_,fun hx=>absurd hx (by simp)⟩
  repeat((conv=>whnf);first|refine qz ?_|intro(_:Nat))
  conv=>whnf
  refine⟨fun _=>?_,fun hx=>absurd hx (by simp)⟩
  repeat((conv=>whnf);first|refine qz ?_|intro(_:Nat))
  conv=>whnf
  refine⟨fun _=>?_,fun hx=>absurd hx (by simp)⟩
  repeat((conv=>whnf);first|refine qz ?_|intro(_:Nat))
  conv=>whnf
  refine⟨fun _=>?_,fun hx=>absurd hx (by simp)⟩
  repeat((conv=>whnf);first|refine qz ?_|intro(_:Nat))
  conv=>whnf
  refine⟨fun _=>?_,fun hx=>absurd hx (by simp)⟩
  repeat((conv=>whnf);first|refine qz ?_|intro(_:Nat))
  conv=>whnf
  refine⟨fun _=>?_,fun hx=>absurd hx (by simp)⟩
  repeat((conv=>whnf);first|refine qz ?_|intro(_:Nat))
  conv=>whnf
  intro g2 hg
  simp)
/- Pins: the law's example. -/
open Go.Proofs.YthonngjhelcpeaaGreat.Sx Go.RowKit
section
variable {g:GW} {cs ms:List Value} {e pc ep:Int} {p:List Int} (hw:rWo g cs (wP e p)) (hM:qfA g ms (mP pc ep)) (he:0≤e∧e≤100) (hl:p.length=2) (hp:∀ x∈p,0≤x∧x≤e+1)
include hw hM he hl hp
end
/- The law PinOff. -/
open Go.Proofs.YthonngjhelcpeaaGreat.Sx Go.RowKit
theorem BgW.up {K K':Nat} {w:Wd} (h:BgW K w) (k:K≤K'):BgW K' w:=by
 obtain⟨⟨h1,h2,h3,h4,h5⟩,h6,h7⟩:=h
 refine⟨⟨by omega,by omega,by omega,by omega,by omega⟩,fun r hr=>by have:=h6 r hr;omega,fun v hv=>?_⟩
 obtain⟨a,b⟩:=h7 v hv
 exact⟨by omega,fun y hy=>by have:=b y hy;unfold BgG at this ⊢;omega⟩
/- The law HandleSteps. -/
open Go.Proofs.YthonngjhelcpeaaGreat.Sx Go.RowKit
theorem qlZ {a b:BA} (h1:decide (100<(a.size:Int))=false) (h2:decide (100<(b.size:Int))=false):Sm a∧Sm b:=by
 have h1:=of_decide_eq_false h1
 have h2:=of_decide_eq_false h2
 exact⟨by unfold Sm;omega,by unfold Sm;omega⟩
theorem qtO (g:GW) {cs ms:List Value} {w:Wd} {m:Mach} (hw:rWo g cs w) (hM:qfA g ms m):OkV Tryz.prog qrE [.agg ⟨cs⟩,.agg ⟨ms⟩] g (.bool true):=by
 obtain⟨oa,ca,ob,cb,oc,cc,od,cd,oe,ce,rfl⟩:=qMA hw
 obtain⟨o1,t1,o2,t2,o3,t3,rfl⟩:=q6A hM
 exact Ok.of_fn hm noT 0 qmE (args:=[.v (.agg ⟨wQ w oa ca ob cb oc cc od cd oe ce⟩),.v (.agg ⟨mQ m o1 t1 o2 t2 o3 t3⟩)]) (by
  repeat((conv=>whnf);first|refine qz ?_|intro(_:Nat))
  refine .inr ((q0W _ hw).mono fun v g1 hg1 hB=>?_)
  obtain⟨b,rfl,hB⟩:=hB
  repeat((conv=>whnf);first|refine qz ?_|intro(_:Nat))
  conv=>whnf
  refine⟨fun z1=>?_,fun z1=>?_⟩
  ·repeat((conv=>whnf);first|refine qz ?_|intro(_:Nat))
   conv=>whnf
   intro g2 hg
   rfl
  obtain⟨hb,hsn⟩:=hB z1
  have hb':=BgW.up (K':=1000000) hb (by decide)
  have hw1:=qDA _ _ _ _ hg1 hw
  have hM1:=qXA _ _ _ _ hg1 hM
  repeat((conv=>whnf);first|refine qz ?_|intro(_:Nat))
  conv=>whnf
  refine⟨fun z2=>?_,fun z2=>?_⟩
  ·repeat((conv=>whnf);first|refine qz ?_|intro(_:Nat))
   conv=>whnf
   intro g2 hg
   rfl
  repeat((conv=>whnf);first|refine qz ?_|intro(_:Nat))
  conv=>whnf
  refine⟨fun z3=>?_,fun z3=>?_⟩
  ·repeat((conv=>whnf);first|refine qz ?_|intro(_:Nat))
   conv=>whnf
   intro g2 hg
   rfl
  have hsz:SmO m:=qlZ z2 z3
  repeat((conv=>whnf);first|refine qz ?_|intro(_:Nat))
  refine .inr ((qsT _ hw1 hM1 hsn hb' hsz).mono fun v g2 hg2 hO=>?_)
  obtain⟨csa,msa,rfl,hwa,hMa⟩:=hO
  obtain⟨_,_,_,_,_,_,_,_,_,_,rfl⟩:=qMA hwa
  obtain⟨_,_,_,_,_,_,rfl⟩:=q6A hMa
  have hw2:=qDA _ _ _ _ hg2 hw1
  have hM2:=qXA _ _ _ _ hg2 hM1
  repeat((conv=>whnf);first|refine qz ?_|intro(_:Nat))
  refine .inr ((qoV _ hw2 hM2 hsn hb' hsz).mono fun v g3 hg3 hO=>?_)
  obtain⟨csb,msb,rfl,hwb,hMb⟩:=hO
  obtain⟨_,_,_,_,_,_,_,_,_,_,rfl⟩:=qMA hwb
  obtain⟨_,_,_,_,_,_,rfl⟩:=q6A hMb
  repeat((conv=>whnf);first|refine qz ?_|intro(_:Nat))
  conv=>whnf
  refine .inl ⟨_,qjU _,?_⟩
  repeat((conv=>whnf);first|refine qz ?_|intro(_:Nat))
  conv=>whnf
  refine⟨fun _=>?_,fun h=>nomatch h⟩
  repeat((conv=>whnf);first|refine qz ?_|intro(_:Nat))
  conv=>whnf
  refine .inl ⟨_,qqW _ (qDA _ _ _ _ hg3 hwa) hwb,?_⟩
  repeat((conv=>whnf);first|refine qz ?_|intro(_:Nat))
  conv=>whnf
  refine⟨fun _=>?_,fun h=>nomatch h⟩
  repeat((conv=>whnf);first|refine qz ?_|intro(_:Nat))
  conv=>whnf
  refine .inl ⟨_,qrW _ (qXA _ _ _ _ hg3 hMa) hMb,?_⟩
  repeat((conv=>whnf);first|refine qz ?_|intro(_:Nat))
  conv=>whnf
  refine⟨fun _=>?_,fun h=>nomatch h⟩
  repeat((conv=>whnf);first|refine qz ?_|intro(_:Nat))
  conv=>whnf
  intro g2 hg
  simp)
/- What came in of this seat's types is plain data. -/
open Go.Proofs.YthonngjhelcpeaaGreat.Sx
section
variable {H:Type} {enc:TypeId×Value→H} {W:World}
theorem qqS:Rds enc Tryz.prog W qfN qCQ:=qzX (tS:=qMC) (tI:=qRA) (by kernel_rfl) (by kernel_rfl) (by kernel_rfl) (by kernel_rfl)
theorem qXR:Rds enc Tryz.prog W qeC qNP:=qiW (tS:=qMC) (by kernel_rfl) (by kernel_rfl) (by kernel_rfl)
theorem qIJ:Rds enc Tryz.prog W qrA qIB:=qWU (tS:=qMC) (tI:=qRA) (tL:=qDU) (tB:=qLJ) (by kernel_rfl) (by kernel_rfl) (by kernel_rfl) (by kernel_rfl) (by kernel_rfl) (by kernel_rfl) (by kernel_rfl)
theorem qHQ:Rds enc Tryz.prog W q2B qyB:=by
 intro fuel cs x h
 obtain⟨a,b,d,rfl,⟨l0,h0⟩,⟨l1,h1⟩,l2,h2⟩:=qhT (t0:=q2M) (t1:=qeN) (t2:=qJF) (e0:=qMC) (e1:=qeC) (e2:=qrA) (z0:=1) (z1:=4) (z2:=4)
  (by kernel_rfl) (by kernel_rfl) (by kernel_rfl) (by kernel_rfl) (by kernel_rfl) (by kernel_rfl) (by kernel_rfl) (by kernel_rfl) (by omega) (by omega) (by omega) (qPF (by kernel_rfl)) qXR qIJ h
 exact⟨⟨l0,l1,l2⟩,a,b,d,rfl,h0,h1,h2⟩
end
/- What came in of a snapshot is plain data. -/
open Go.Proofs.YthonngjhelcpeaaGreat.Sx
section
variable {H:Type} {enc:TypeId×Value→H} {W:World}
theorem qpS:Rds enc Tryz.prog W qyA qRH:=by
 intro fuel cs x h
 obtain⟨a,b,d,rfl,⟨l0,h0⟩,⟨l1,h1⟩,l2,h2⟩:=qhT (t0:=q2M) (t1:=qhO) (t2:=qJF) (e0:=qMC) (e1:=qfN) (e2:=qrA) (z0:=1) (z1:=4) (z2:=4)
  (by kernel_rfl) (by kernel_rfl) (by kernel_rfl) (by kernel_rfl) (by kernel_rfl) (by kernel_rfl) (by kernel_rfl) (by kernel_rfl) (by omega) (by omega) (by omega) (qPF (by kernel_rfl)) qqS qIJ h
 exact⟨⟨l0,l1,l2⟩,a,b,d,rfl,h0,h1,h2⟩
end
/- What came in of worlds and machines is plain data. -/
open Go.Proofs.YthonngjhelcpeaaGreat.Sx
section
variable {H:Type} {enc:TypeId×Value→H} {W:World}
theorem qGQ:Rds enc Tryz.prog W qeA qNB:=by
 intro fuel cs x h
 obtain⟨hl,hg⟩:=qiL (l:=[(0,1,qMC),(1,1,qLJ),(2,1,qRA),(3,1,qLJ)]) (by kernel_rfl) h
 rw [show Tryz.prog.cellsOf qeA=4 by kernel_rfl] at hl
 match cs,hl with
 | [a,b,c,d],_ =>
  obtain⟨s0,e0⟩:=(qPF (by kernel_rfl)).fld (hg 0 _ _ _ rfl)
  obtain⟨s1,e1⟩:=(qRM (by kernel_rfl)).fld (hg 1 _ _ _ rfl)
  obtain⟨s2,e2,w2⟩:=(qlA (by kernel_rfl)).fld (hg 2 _ _ _ rfl)
  obtain⟨s3,e3⟩:=(qRM (by kernel_rfl)).fld (hg 3 _ _ _ rfl)
  cases e0;cases e1;cases e2;cases e3
  exact⟨⟨s0,s1,s2,s3⟩,rfl,w2⟩
theorem qqO:Rds enc Tryz.prog W qNC qwA:=by
 intro fuel cs x h
 obtain⟨hl,hg⟩:=qiL (l:=[(0,1,qRA),(1,1,qRA),(2,1,qLJ)]) (by kernel_rfl) h
 rw [show Tryz.prog.cellsOf qNC=3 by kernel_rfl] at hl
 match cs,hl with
 | [a,b,c],_ =>
  obtain⟨s0,e0,w0⟩:=(qlA (by kernel_rfl)).fld (hg 0 _ _ _ rfl)
  obtain⟨s1,e1,w1⟩:=(qlA (by kernel_rfl)).fld (hg 1 _ _ _ rfl)
  obtain⟨s2,e2⟩:=(qRM (by kernel_rfl)).fld (hg 2 _ _ _ rfl)
  cases e0;cases e1;cases e2
  exact⟨⟨s0,s1,s2⟩,rfl,w0,w1⟩
theorem qcU:RdsW enc Tryz.prog W qpA rEn:=by
 intro fuel cs x h hs
 obtain⟨hl,hg⟩:=qrQ (l:=[(0,1,qZD),(1,1,qOE),(2,1,qRA)]) (by kernel_rfl) h hs
 rw [show Tryz.prog.cellsOf qpA=3 by kernel_rfl] at hl
 match cs,hl with
 | [a,b,c],_ =>
  obtain⟨s0,e0,w0⟩:=(qGJ (by kernel_rfl)).fld (tr1 (hg 0 _ _ _ rfl))
  obtain⟨s1,v,e1,h1,hb⟩:=(qfT (t:=qOE) (e:=qRA) (sz:=1) (by kernel_rfl) (by kernel_rfl) (qlA (by kernel_rfl)).w).fld (hg 1 _ _ _ rfl)
  obtain⟨s2,e2,w2⟩:=(qlA (by kernel_rfl)).fld (tr1 (hg 2 _ _ _ rfl))
  cases e0;cases e1;cases e2
  refine⟨⟨s0,s1,s2⟩,⟨_,rfl,w0,w2,h1⟩,?_⟩
  rw [show Tryz.prog.bytesOf qRA=8 by kernel_rfl] at hb
  unfold reachBytes at hb
  show s1.length≤17592186044416
  omega
theorem qYR:RdsW enc Tryz.prog W qaA rGr:=by
 intro fuel cs x h hs
 obtain⟨hl,hg⟩:=qrQ (l:=[(0,1,qZD),(1,1,qyK)]) (by kernel_rfl) h hs
 rw [show Tryz.prog.cellsOf qaA=2 by kernel_rfl] at hl
 match cs,hl with
 | [a,b],_ =>
  obtain⟨s0,e0,w0⟩:=(qGJ (by kernel_rfl)).fld (tr1 (hg 0 _ _ _ rfl))
  obtain⟨s1,v,e1,h1⟩:=(quX (t:=qyK) (e:=qpA) (sz:=3) (by kernel_rfl) (by kernel_rfl) qcU).fld (hg 1 _ _ _ rfl)
  cases e0;cases e1
  exact⟨⟨s0,s1⟩,_,rfl,w0,h1⟩
theorem qpO:RdsW enc Tryz.prog W qFA rVe:=by
 intro fuel cs x h hs
 obtain⟨hl,hg⟩:=qrQ (l:=[(0,3,qyA),(3,1,q5G),(4,1,qLJ)]) (by kernel_rfl) h hs
 rw [show Tryz.prog.cellsOf qFA=5 by kernel_rfl] at hl
 match cs,hl with
 | [a,b,c,d,e],_ =>
  obtain⟨s0,e0⟩:=(qpS (enc:=enc)).fld (tr1 (hg 0 _ _ _ rfl))
  obtain⟨s1,v,e1,h1⟩:=(quX (t:=q5G) (e:=qaA) (sz:=2) (by kernel_rfl) (by kernel_rfl) qYR).fld (hg 1 _ _ _ rfl)
  obtain⟨s2,e2⟩:=(qRM (by kernel_rfl)).fld (tr1 (hg 2 _ _ _ rfl))
  cases e1;cases e2
  exact⟨⟨s0,s1,s2⟩,_,_,_,_,rfl,e0,h1⟩
theorem q9Y:Rds enc Tryz.prog W qfB rRow:=by
 intro fuel cs x h
 obtain⟨l,v,rfl,h1⟩:=(qCE (t:=qfB) (e:=qZD) (sz:=1) (by kernel_rfl) (by kernel_rfl) (by omega) (qGJ (by kernel_rfl))) fuel cs x h
 exact⟨l,_,rfl,h1⟩
theorem qWR:RdsW enc Tryz.prog W qIA rWo:=by
 intro fuel cs x h hs
 obtain⟨hl,hg⟩:=qrQ (l:=[(0,1,qRA),(1,1,qRA),(2,1,qRA),(3,1,qOE),(4,1,qHF),(5,1,qTG),(6,1,qDJ),(7,1,qIF)]) (by kernel_rfl) h hs
 rw [show Tryz.prog.cellsOf qIA=8 by kernel_rfl] at hl
 match cs,hl with
 | [c0,c1,c2,c3,c4,c5,c6,c7],_ =>
  obtain⟨s0,e0,w0⟩:=(qlA (by kernel_rfl)).fld (tr1 (hg 0 _ _ _ rfl))
  obtain⟨s1,e1,w1⟩:=(qlA (by kernel_rfl)).fld (tr1 (hg 1 _ _ _ rfl))
  obtain⟨s2,e2,w2⟩:=(qlA (by kernel_rfl)).fld (tr1 (hg 2 _ _ _ rfl))
  obtain⟨s3,v3,e3,h3⟩:=(qCE (t:=qOE) (e:=qRA) (sz:=1) (by kernel_rfl) (by kernel_rfl) (by omega) (qlA (by kernel_rfl))).fld (tr1 (hg 3 _ _ _ rfl))
  obtain⟨s4,v4,e4,h4⟩:=(quX (t:=qHF) (e:=qFA) (sz:=5) (by kernel_rfl) (by kernel_rfl) qpO).fld (hg 4 _ _ _ rfl)
  obtain⟨s5,v5,e5,h5⟩:=(qCE (t:=qTG) (e:=qeA) (sz:=4) (by kernel_rfl) (by kernel_rfl) (by omega) qGQ).fld (tr1 (hg 5 _ _ _ rfl))
  obtain⟨s6,v6,e6,h6⟩:=(qCE (t:=qDJ) (e:=qfB) (sz:=1) (by kernel_rfl) (by kernel_rfl) (by omega) q9Y).fld (tr1 (hg 6 _ _ _ rfl))
  obtain⟨s7,v7,e7,h7⟩:=(qCE (t:=qIF) (e:=qNC) (sz:=3) (by kernel_rfl) (by kernel_rfl) (by omega) qqO).fld (tr1 (hg 7 _ _ _ rfl))
  cases e0;cases e1;cases e2;cases e3;cases e4;cases e5;cases e6;cases e7
  exact⟨⟨s0,s1,s2,s3,s4,s5,s6,s7⟩,_,_,_,_,_,rfl,⟨w0,w1,w2⟩,h3,h4,h5,h6,h7⟩
theorem qAZ:Rds enc Tryz.prog W qOA fun _ cs (c:C6)=>cs=c.cs∧c.ok:=rd_c6 (e:=qZD) (by kernel_rfl) (by kernel_rfl) (by kernel_rfl) (by kernel_rfl)
theorem qIQ:Rds enc Tryz.prog W qpF rAns:=by
 intro fuel cs x h
 obtain⟨hl,hg⟩:=qiL (l:=[(0,1,qRA),(1,1,qRA),(2,1,qRA),(3,1,qRA),(4,1,qRA),(5,1,qRA),(6,1,qRA),(7,6,qOA)]) (by kernel_rfl) h
 rw [show Tryz.prog.cellsOf qpF=13 by kernel_rfl] at hl
 match cs,hl with
 | [c0,c1,c2,c3,c4,c5,c6,d0,d1,d2,d3,d4,d5],_ =>
  obtain⟨s0,e0,w0⟩:=(qlA (by kernel_rfl)).fld (hg 0 _ _ _ rfl)
  obtain⟨s1,e1,w1⟩:=(qlA (by kernel_rfl)).fld (hg 1 _ _ _ rfl)
  obtain⟨s2,e2,w2⟩:=(qlA (by kernel_rfl)).fld (hg 2 _ _ _ rfl)
  obtain⟨s3,e3,w3⟩:=(qlA (by kernel_rfl)).fld (hg 3 _ _ _ rfl)
  obtain⟨s4,e4,w4⟩:=(qlA (by kernel_rfl)).fld (hg 4 _ _ _ rfl)
  obtain⟨s5,e5,w5⟩:=(qlA (by kernel_rfl)).fld (hg 5 _ _ _ rfl)
  obtain⟨s6,e6,w6⟩:=(qlA (by kernel_rfl)).fld (hg 6 _ _ _ rfl)
  obtain⟨s7,e7,w7⟩:=(qAZ (enc:=enc)).fld (hg 7 _ _ _ rfl)
  cases e0;cases e1;cases e2;cases e3;cases e4;cases e5;cases e6;cases e7
  exact⟨⟨s0,s1,s2,s3,s4,s5,s6,s7⟩,rfl,⟨w0,w1,w2,w3,w4,w5,w6,w7⟩⟩
theorem qgV:Rds enc Tryz.prog W qgN fun g cs (o:OpD)=>∃ a b d,cs=[.int .i64 o.kind,.string o.listen,.string o.host,.string o.path,.int .i64 o.d0,.int .i64 o.d1,.int .i64 o.n,a,b,d]∧(InR o.kind∧InR o.d0∧InR o.d1∧InR o.n)∧qyB g [a,b,d] o.config:=by
 intro fuel cs x h
 obtain⟨hl,hg⟩:=qiL (l:=[(0,1,qRA),(1,1,qMC),(2,1,qMC),(3,1,qMC),(4,1,qRA),(5,1,qRA),(6,1,qRA),(7,3,q2B)]) (by kernel_rfl) h
 rw [show Tryz.prog.cellsOf qgN=10 by kernel_rfl] at hl
 match cs,hl with
 | [c0,c1,c2,c3,c4,c5,c6,d0,d1,d2],_ =>
  obtain⟨s0,e0,w0⟩:=(qlA (by kernel_rfl)).fld (hg 0 _ _ _ rfl)
  obtain⟨s1,e1⟩:=(qPF (by kernel_rfl)).fld (hg 1 _ _ _ rfl)
  obtain⟨s2,e2⟩:=(qPF (by kernel_rfl)).fld (hg 2 _ _ _ rfl)
  obtain⟨s3,e3⟩:=(qPF (by kernel_rfl)).fld (hg 3 _ _ _ rfl)
  obtain⟨s4,e4,w4⟩:=(qlA (by kernel_rfl)).fld (hg 4 _ _ _ rfl)
  obtain⟨s5,e5,w5⟩:=(qlA (by kernel_rfl)).fld (hg 5 _ _ _ rfl)
  obtain⟨s6,e6,w6⟩:=(qlA (by kernel_rfl)).fld (hg 6 _ _ _ rfl)
  obtain⟨s7,e7⟩:=(qHQ (enc:=enc)).fld (hg 7 _ _ _ rfl)
  cases e0;cases e1;cases e2;cases e3;cases e4;cases e5;cases e6
  exact⟨⟨s0,s1,s2,s3,s4,s5,s6,s7⟩,_,_,_,rfl,⟨w0,w4,w5,w6⟩,e7⟩
theorem qrO:Rds enc Tryz.prog W qWD qfA:=by
 intro fuel cs x h
 obtain⟨hl,hg⟩:=qiL (l:=[(0,10,qgN),(10,1,qRA),(11,1,qRA),(12,1,qRA),(13,1,qRA),(14,1,qRA),(15,1,qRA),(16,1,qRA),(17,1,qRA),(18,1,qRA),(19,1,qZD),(20,1,qRA),(21,1,qRA),(22,1,qRA),(23,1,qRA),(24,1,qLJ),(25,13,qpF),(38,6,qOA)]) (by kernel_rfl) h
 rw [show Tryz.prog.cellsOf qWD=44 by kernel_rfl] at hl
 match cs,hl with
 | p0 :: p1 :: p2 :: p3 :: p4 :: p5 :: p6 :: p7 :: p8 :: p9 :: c10 :: c11 :: c12 :: c13 :: c14 :: c15 :: c16 :: c17 :: c18 :: c19 :: c20 :: c21 :: c22 :: c23 :: c24 :: a0 :: a1 :: a2 :: a3 :: a4 :: a5 :: a6 :: a7 :: a8 :: a9 :: a10 :: a11 :: a12 :: n0 :: n1 :: n2 :: n3 :: n4 :: n5 :: [],_ =>
  obtain⟨s0,xa,xb,xd,e0,w0,hc⟩:=(qgV (enc:=enc)).fld (hg 0 _ _ _ rfl)
  obtain⟨s1,e1,w1⟩:=(qlA (by kernel_rfl)).fld (hg 1 _ _ _ rfl)
  obtain⟨s2,e2,w2⟩:=(qlA (by kernel_rfl)).fld (hg 2 _ _ _ rfl)
  obtain⟨s3,e3,w3⟩:=(qlA (by kernel_rfl)).fld (hg 3 _ _ _ rfl)
  obtain⟨s4,e4,w4⟩:=(qlA (by kernel_rfl)).fld (hg 4 _ _ _ rfl)
  obtain⟨s5,e5,w5⟩:=(qlA (by kernel_rfl)).fld (hg 5 _ _ _ rfl)
  obtain⟨s6,e6,w6⟩:=(qlA (by kernel_rfl)).fld (hg 6 _ _ _ rfl)
  obtain⟨s7,e7,w7⟩:=(qlA (by kernel_rfl)).fld (hg 7 _ _ _ rfl)
  obtain⟨s8,e8,w8⟩:=(qlA (by kernel_rfl)).fld (hg 8 _ _ _ rfl)
  obtain⟨s9,e9,w9⟩:=(qlA (by kernel_rfl)).fld (hg 9 _ _ _ rfl)
  obtain⟨s10,e10,w10⟩:=(qGJ (by kernel_rfl)).fld (hg 10 _ _ _ rfl)
  obtain⟨s11,e11,w11⟩:=(qlA (by kernel_rfl)).fld (hg 11 _ _ _ rfl)
  obtain⟨s12,e12,w12⟩:=(qlA (by kernel_rfl)).fld (hg 12 _ _ _ rfl)
  obtain⟨s13,e13,w13⟩:=(qlA (by kernel_rfl)).fld (hg 13 _ _ _ rfl)
  obtain⟨s14,e14,w14⟩:=(qlA (by kernel_rfl)).fld (hg 14 _ _ _ rfl)
  obtain⟨s15,e15⟩:=(qRM (by kernel_rfl)).fld (hg 15 _ _ _ rfl)
  obtain⟨s16,e16,w16⟩:=(qIQ (enc:=enc)).fld (hg 16 _ _ _ rfl)
  obtain⟨s17,e17,w17⟩:=(qAZ (enc:=enc)).fld (hg 17 _ _ _ rfl)
  cases e0;cases e1;cases e2;cases e3;cases e4;cases e5;cases e6;cases e7;cases e8;cases e9;cases e10;cases e11;cases e12;cases e13;cases e14;cases e15;cases e16;cases e17
  exact⟨⟨s0,s1,s2,s3,s4,s5,s6,s7,s8,s9,s10,s11,s12,s13,s14,s15,s16,s17⟩,_,_,_,rfl,⟨w1,w2,w3,w4,w5,w6,w7,w8,w9,w10,w11,w12,w13,w14,w16,w17⟩,w0,hc⟩
end
end Go.Proofs.YthonngjhelcpeaaGreat
