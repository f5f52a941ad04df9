/- Machines: the document's sameness is true of the same datum. -/
import Derived.Test.YthonngjhelcpeaaGreatLW9l
import Derived.Test.YthonngjhelcpeaaGreatPl
import Derived.Test.YthonngjhelcpeaaGreatLW9w
import Derived.Test.YthonngjhelcpeaaGreatLW9n
import Derived.Test.YthonngjhelcpeaaGreatLW20p20
import Derived.Test.YthonngjhelcpeaaGreatLW21p3
import Derived.Test.YthonngjhelcpeaaGreatLW21r4
import Derived.Test.YthonngjhelcpeaaGreatF
set_option linter.unusedVariables false
set_option linter.unusedSimpArgs false
namespace Go.Proofs.YthonngjhelcpeaaGreat
open Go.Proofs.YthonngjhelcpeaaGreat.Sx Go.RowKit
set_option maxHeartbeats 16000000
set_option maxRecDepth 100000
theorem qUT (g:GW) {o:OpD} {a1 a2 a3 b1 b2 b3:Option Addr} {p1 p2 p3 q1 q2 q3 l1 l2 l3:Nat}:OkV Tryz.prog qaG [.agg ⟨[.int .i64 o.kind,.string o.listen,.string o.host,.string o.path,.int .i64 o.d0,.int .i64 o.d1,.int .i64 o.n,.slice a1 l1 p1,.slice a2 l2 p2,.slice a3 l3 p3]⟩,.agg ⟨[.int .i64 o.kind,.string o.listen,.string o.host,.string o.path,.int .i64 o.d0,.int .i64 o.d1,.int .i64 o.n,.slice b1 l1 q1,.slice b2 l2 q2,.slice b3 l3 q3]⟩] g (.bool true) :=
 Ok.of_fn hm noT 0 qRG (args:=[.v (.agg ⟨[.int .i64 o.kind,.string o.listen,.string o.host,.string o.path,.int .i64 o.d0,.int .i64 o.d1,.int .i64 o.n,.slice a1 l1 p1,.slice a2 l2 p2,.slice a3 l3 p3]⟩),.v (.agg ⟨[.int .i64 o.kind,.string o.listen,.string o.host,.string o.path,.int .i64 o.d0,.int .i64 o.d1,.int .i64 o.n,.slice b1 l1 q1,.slice b2 l2 q2,.slice b3 l3 q3]⟩)]) (by
  repeat((conv=>whnf);first|refine qz ?_|intro(_:Nat))
  conv=>whnf
  refine⟨fun _=>?_,fun hx=>absurd hx (by simp)⟩
  repeat((conv=>whnf);first|refine qz ?_|intro(_:Nat))
  conv=>whnf
  refine⟨fun _=>?_,fun hx=>absurd hx (by simp)⟩
  repeat((conv=>whnf);first|refine qz ?_|intro(_:Nat))
  conv=>whnf
  refine⟨fun _=>?_,fun hx=>absurd hx (by simp)⟩
  repeat((conv=>whnf);first|refine qz ?_|intro(_:Nat))
  conv=>whnf
  refine⟨fun _=>?_,fun hx=>absurd hx (by simp)⟩
  repeat((conv=>whnf);first|refine qz ?_|intro(_:Nat))
  conv=>whnf
  refine⟨fun _=>?_,fun hx=>absurd hx (by simp)⟩
  repeat((conv=>whnf);first|refine qz ?_|intro(_:Nat))
  conv=>whnf
  refine⟨fun _=>?_,fun hx=>absurd hx (by simp)⟩
  repeat((conv=>whnf);first|refine qz ?_|intro(_:Nat))
  conv=>whnf
  refine⟨fun _=>?_,fun hx=>absurd hx (by simp)⟩
  repeat((conv=>whnf);first|refine qz ?_|intro(_:Nat))
  conv=>whnf
  refine⟨fun _=>?_,fun hx=>absurd hx (by simp)⟩
  repeat((conv=>whnf);first|refine qz ?_|intro(_:Nat))
  conv=>whnf
  refine⟨fun _=>?_,fun hx=>absurd hx (by simp)⟩
  repeat((conv=>whnf);first|refine qz ?_|intro(_:Nat))
  conv=>whnf
  intro g2 hg
  simp)
theorem qjV (g:GW) {ms ms':List Value} {m:Mach} (hM:qhA g ms m) (hM':qhA g ms' m):OkV Tryz.prog qMJ [.agg ⟨ms⟩,.agg ⟨ms'⟩] g (.bool true):=by
 obtain⟨o1,t1,o2,t2,o3,t3,rfl⟩:=qqB hM
 obtain⟨q1,u1,q2,u2,q3,u3,rfl⟩:=qqB hM'
 exact Ok.of_fn hm noT 0 qxI (args:=[.v (.agg ⟨mQ m o1 t1 o2 t2 o3 t3⟩),.v (.agg ⟨m.cs (.slice q1 m.op.config.listens.length u1) (.slice q2 m.op.config.routes.length u2) (.slice q3 m.op.config.clusters.length u3)⟩)]) (by
  repeat((conv=>whnf);first|refine qz ?_|intro(_:Nat))
  conv=>whnf
  refine .inl ⟨_,qUT _,?_⟩
  repeat((conv=>whnf);first|refine qz ?_|intro(_:Nat))
  conv=>whnf
  refine⟨fun h=>(nomatch h),fun _=>?_⟩
  repeat((conv=>whnf);first|refine qz ?_|intro(_:Nat))
  conv=>whnf
  refine⟨fun _=>?_,fun hx=>absurd hx (by simp)⟩
  repeat((conv=>whnf);first|refine qz ?_|intro(_:Nat))
  conv=>whnf
  refine⟨fun _=>?_,fun hx=>absurd hx (by simp)⟩
  repeat((conv=>whnf);first|refine qz ?_|intro(_:Nat))
  conv=>whnf
  refine⟨fun _=>?_,fun hx=>absurd hx (by simp)⟩
  repeat((conv=>whnf);first|refine qz ?_|intro(_:Nat))
  conv=>whnf
  refine⟨fun _=>?_,fun hx=>absurd hx (by simp)⟩
  repeat((conv=>whnf);first|refine qz ?_|intro(_:Nat))
  conv=>whnf
  refine⟨fun _=>?_,fun hx=>absurd hx (by simp)⟩
  repeat((conv=>whnf);first|refine qz ?_|intro(_:Nat))
  conv=>whnf
  refine⟨fun _=>?_,fun hx=>absurd hx (by simp)⟩
  repeat((conv=>whnf);first|refine qz ?_|intro(_:Nat))
  conv=>whnf
  refine⟨fun _=>?_,fun hx=>absurd hx (by simp)⟩
  repeat((conv=>whnf);first|refine qz ?_|intro(_:Nat))
  conv=>whnf
  refine⟨fun _=>?_,fun hx=>absurd hx (by simp)⟩
  repeat((conv=>whnf);first|refine qz ?_|intro(_:Nat))
  conv=>whnf
  refine⟨fun _=>?_,fun hx=>absurd hx (by simp)⟩
  repeat((conv=>whnf);first|refine qz ?_|intro(_:Nat))
  conv=>whnf
  refine⟨fun _=>?_,fun hx=>absurd hx (by simp)⟩
  repeat((conv=>whnf);first|refine qz ?_|intro(_:Nat))
  conv=>whnf
  refine⟨fun _=>?_,fun hx=>absurd hx (by simp)⟩
  repeat((conv=>whnf);first|refine qz ?_|intro(_:Nat))
  conv=>whnf
  refine⟨fun _=>?_,fun hx=>absurd hx (by simp)⟩
  repeat((conv=>whnf);first|refine qz ?_|intro(_:Nat))
  conv=>whnf
  refine⟨fun _=>?_,fun hx=>absurd hx (by simp)⟩
  repeat((conv=>whnf);first|refine qz ?_|intro(_:Nat))
  conv=>whnf
  refine⟨fun _=>?_,fun hx=>absurd hx (by simp)⟩
  repeat((conv=>whnf);first|refine qz ?_|intro(_:Nat))
  conv=>whnf
  refine⟨fun _=>?_,fun hx=>absurd hx (by simp)⟩
  repeat((conv=>whnf);first|refine qz ?_|intro(_:Nat))
  conv=>whnf
  refine⟨fun _=>?_,fun hx=>absurd hx (by simp)⟩
  repeat((conv=>whnf);first|refine qz ?_|intro(_:Nat))
  conv=>whnf
  intro g2 hg
  simp)
/- Pins: the law's example. -/
open Go.Proofs.YthonngjhelcpeaaGreat.Sx Go.RowKit
section
variable {g:GW} {cs ms:List Value} {e pc ep:Int} {p:List Int} (hw:rWo g cs (wP e p)) (hM:qhA g ms (mP pc ep)) (he:0≤e∧e≤100) (hl:p.length=2) (hp:∀ x∈p,0≤x∧x≤e+1)
include hw hM he hl hp
end
/- The law PinOff. -/
open Go.Proofs.YthonngjhelcpeaaGreat.Sx Go.RowKit
theorem BgW.up {K K':Nat} {w:Wd} (h:BgW K w) (k:K≤K'):BgW K' w:=by
 obtain⟨⟨h1,h2,h3,h4,h5⟩,h6,h7⟩:=h
 refine⟨⟨by omega,by omega,by omega,by omega,by omega⟩,fun r hr=>by have:=h6 r hr;omega,fun v hv=>?_⟩
 obtain⟨a,b⟩:=h7 v hv
 exact⟨by omega,fun y hy=>by have:=b y hy;unfold BgG at this ⊢;omega⟩
/- The law HandleSteps. -/
open Go.Proofs.YthonngjhelcpeaaGreat.Sx Go.RowKit
/- Worlds: are all numbers far from their ends? -/
open Go.Proofs.YthonngjhelcpeaaGreat.Sx Go.RowKit
structure CalmP (w:Wd):Prop where
 ep:w.epoch≤1000000
 la:∀ x∈w.listens,x.active≤1000000
 ea:∀ v∈w.versions,∀ g∈v.groups,∀ e∈g.ends,e.active≤1000000
/- The law HandleRight. -/
open Go.Proofs.YthonngjhelcpeaaGreat.Sx Go.RowKit
abbrev oCs (o:OpD) (a b d:Value):List Value:=[.int .i64 o.kind,.string o.listen,.string o.host,.string o.path,.int .i64 o.d0,.int .i64 o.d1,.int .i64 o.n,a,b,d]
/- Ends of requests: requests that are routed,ends that are carried out,with nobody in between. -/
open Go.Proofs.YthonngjhelcpeaaGreat.Sx Go.RowKit
abbrev RoP (x:Wd) (a:Ans) (v:Value) (g':GW):Prop:=∃ cs,v=.tuple #[.agg ⟨cs⟩,.agg ⟨a.cs⟩]∧rWo g' cs x∧a.ok
theorem HWay.go {k:Nat} {w:Wd} {m:Mach} {x:Wd} {n:Mach} (h:HWay (k+1) w m x n):m.done=false:=by
 cases hd:m.done with
 | false=>rfl
 | true=>exact absurd (qwT hd) h.1
theorem qWU (g:GW) {cs os:List Value} {w x:Wd} {th:Int} {o:OpD} {n:Mach} {k:Nat} (hw:rWo g cs w) (ht:InR th) (hO:rOp g os o) (hsn:SnW w) (hb:BgW 1000000 w) (hsz:SmO (mReq o th)) (hway:HWay k w (mReq o th) x n) (hd:n.done=true) (hk:k<40):Ok Tryz.prog qIH [.agg ⟨cs⟩,.int .i64 th,.agg ⟨os⟩] g (RoP x n.answer):=by
 obtain⟨oa,ca,ob,cb,oc,cc,od,cd,oe,ce,rfl⟩:=qKA hw
 obtain⟨o1,t1,o2,t2,o3,t3,rfl⟩:=qcV hO
 have hM:=qKU hO ht
 exact Ok.of_fn hm noT 0 q1G (args:=[.v (.agg ⟨wQ w oa ca ob cb oc cc od cd oe ce⟩),.v (.int .i64 th),.v (.agg ⟨oCs o (.slice o1 o.config.listens.length t1) (.slice o2 o.config.routes.length t2) (.slice o3 o.config.clusters.length t3)⟩)]) (by
  repeat((conv=>whnf);first|refine qz ?_|intro(_:Nat))
  rename_i q0 q1 q2 q3 q4
  conv=>whnf
  refine⟨HaSt,fun x=>[.v (.int .i64 x.j)],fun y=>⟨y.g,[.blk 4 q4 qbD (y.mc.map SV.v),.blk 3 q3 qzC _,.blk 2 q2 qHA _,.blk 1 q1 q2J _,.blk 0 q0 qHA (y.wc.map SV.v)],_,_⟩,fun y=>y.j≤k∧g≤y.g∧rWo y.g y.wc y.w∧qhA y.g y.mc y.m∧HWay (k-y.j) y.w y.m x n∧SnW y.w∧BgW 1000000 y.w∧SmO y.m,fun y=>k-y.j,qFA (⟨0,g,w,oa,ca,ob,cb,oc,cc,od,cd,oe,ce,mReq o th,o1,t1,o2,t2,o3,t3⟩:HaSt) rfl ⟨Nat.zero_le _,GW.refl _,hw,hM,hway,hsn,hb,hsz⟩ rfl,?_⟩
  clear hM hw hsn hb hsz hway
  intro y hy
  obtain⟨j,gx,w,oa,ca,ob,cb,oc,cc,od,cd,oe,ce,m,o1,t1,o2,t2,o3,t3⟩:=y
  obtain⟨hj,hxg,hxw,hxM,hway,hsn,hb,hsz⟩:=hy
  replace hj:j≤k:=hj
  replace hway:HWay (k-j) w m x n:=hway
  replace hb:BgW 1000000 w:=hb
  replace hsn:SnW w:=hsn
  replace hsz:SmO m:=hsz
  repeat((conv=>whnf);first|refine qz ?_|intro(_:Nat))
  conv=>whnf
  refine⟨fun _=>?_,fun hx=>absurd (of_decide_eq_false hx) (by show ¬ ¬ ((j:Int)<40);omega)⟩
  by_cases hjk:j=k
  ·subst hjk
   rw [Nat.sub_self] at hway
   obtain⟨e1,e2⟩:=hway
   subst e1
   subst e2
   repeat((conv=>whnf);first|refine qz ?_|intro(_:Nat))
   conv=>whnf
   refine⟨fun hx=>absurd hx (by simp [hd]),fun _=>?_⟩
   have hans:=hxM
   obtain⟨_,_,_,_,hok,_⟩:=hans
   repeat'((conv=>whnf);first|apply qza|apply qzb|apply qzc|apply qzd|apply qze|intro(_:Nat)|refine And.intro ?_ ?_|fail)
   all_goals (conv=>whnf)
   all_goals (first|exact Eq.refl _|(
    intro g2 hg
    exact⟨_,rfl,qDA _ _ _ _ hg hxw,hok.answer⟩))
  ·obtain⟨d,hdk⟩:∃ d,k-j=d+1:=⟨k-j-1,by omega⟩
   rw [hdk] at hway
   have hnd:=HWay.go hway
   obtain⟨hac,hway⟩:=hway
   have hkp:=hsW_kept (K:=1000000) (w:=w) (m:=m)
   repeat((conv=>whnf);first|refine qz ?_|intro(_:Nat))
   conv=>whnf
   refine⟨fun _=>?_,fun hx=>absurd hx (by simp [hnd])⟩
   repeat((conv=>whnf);first|refine qz ?_|intro(_:Nat))
   refine .inr ((qrV _ hxw hxM hsn hb hsz).mono fun v g4 hg4 hO=>?_)
   obtain⟨csa,msa,rfl,hwa,hMa⟩:=hO
   obtain⟨r1,r2,r3,r4,r5,r6,r7,r8,r9,r10,rfl⟩:=qKA hwa
   obtain⟨s1,s2,s3,s4,s5,s6,rfl⟩:=qqB hMa
   repeat((conv=>whnf);first|refine qz ?_|intro(_:Nat))
   conv=>whnf
   refine fun fr u hu=>⟨⟨j+1,g4,hsW w m,r1,r2,r3,r4,r5,r6,r7,r8,r9,r10,hsM w m,s1,s2,s3,s4,s5,s6⟩,congrArg (fun z=>[Value.int .i64 z]) (show((j+1:Nat):Int)=IntKind.i64.wrap ((j:Int)+1) by rw [wr (x:=(j:Int)+1) (by unfold InR;omega)];omega),⟨by show j+1≤k;omega,GW.trans hxg hg4,hwa,hMa,by show HWay (k-(j+1)) _ _ _ _;rw [show k-(j+1)=d by omega];exact hway,qJM hsn hkp,hkp.1 hb,by show SmO (hsM w m);unfold SmO;rw [qfY];exact hsz⟩,by show k-(j+1)<k-j;omega,?_⟩
   exact hu.fit (by simp [fitL,Res.eqv,qBA,conc]))
abbrev EnP (x:Wd) (a:Ans) (k:Nat) (v:Value) (g':GW):Prop:=∃ cs,v=.tuple #[.agg ⟨cs⟩,.agg ⟨a.cs⟩,.int .i64 k]∧rWo g' cs x∧a.ok
theorem qjS (g:GW) {cs ms:List Value} {w x:Wd} {m n:Mach} {k:Nat} (hw:rWo g cs w) (hM:qhA g ms m) (hsn:SnW w) (hb:BgW 1000000 w) (hway:FWay k w m x n) (hd:n.done=true) (hk:k<40):Ok Tryz.prog qII [.agg ⟨cs⟩,.agg ⟨ms⟩] g (EnP x n.answer k):=by
 obtain⟨oa,ca,ob,cb,oc,cc,od,cd,oe,ce,rfl⟩:=qKA hw
 obtain⟨o1,t1,o2,t2,o3,t3,rfl⟩:=qqB hM
 exact Ok.of_fn hm noT 0 qyH (args:=[.v (.agg ⟨wQ w oa ca ob cb oc cc od cd oe ce⟩),.v (.agg ⟨mQ m o1 t1 o2 t2 o3 t3⟩)]) (by
  repeat((conv=>whnf);first|refine qz ?_|intro(_:Nat))
  rename_i q0 q1 q2 q3
  conv=>whnf
  refine⟨HaSt,fun x=>[.v (.int .i64 x.j)],fun y=>⟨y.g,[.blk 3 q3 qzC _,.blk 2 q2 qHA _,.blk 1 q1 qbD (y.mc.map SV.v),.blk 0 q0 qHA (y.wc.map SV.v)],_,_⟩,fun y=>y.j≤k∧g≤y.g∧rWo y.g y.wc y.w∧qhA y.g y.mc y.m∧FWay (k-y.j) y.w y.m x n∧SnW y.w∧BgW 1000000 y.w,fun y=>k-y.j,qFA (⟨0,g,w,oa,ca,ob,cb,oc,cc,od,cd,oe,ce,m,o1,t1,o2,t2,o3,t3⟩:HaSt) rfl ⟨Nat.zero_le _,GW.refl _,hw,hM,hway,hsn,hb⟩ rfl,?_⟩
  clear hM hw hsn hb hway
  intro y hy
  obtain⟨j,gx,w,oa,ca,ob,cb,oc,cc,od,cd,oe,ce,m,o1,t1,o2,t2,o3,t3⟩:=y
  obtain⟨hj,hxg,hxw,hxM,hway,hsn,hb⟩:=hy
  replace hj:j≤k:=hj
  replace hway:FWay (k-j) w m x n:=hway
  replace hb:BgW 1000000 w:=hb
  replace hsn:SnW w:=hsn
  repeat((conv=>whnf);first|refine qz ?_|intro(_:Nat))
  conv=>whnf
  refine⟨fun _=>?_,fun hx=>absurd (of_decide_eq_false hx) (by show ¬ ¬ ((j:Int)<40);omega)⟩
  by_cases hjk:j=k
  ·subst hjk
   rw [Nat.sub_self] at hway
   obtain⟨e1,e2⟩:=hway
   subst e1
   subst e2
   repeat((conv=>whnf);first|refine qz ?_|intro(_:Nat))
   conv=>whnf
   refine⟨fun hx=>absurd hx (by simp [hd]),fun _=>?_⟩
   have hans:=hxM
   obtain⟨_,_,_,_,hok,_⟩:=hans
   repeat'((conv=>whnf);first|apply qza|apply qzb|apply qzc|apply qzd|apply qze|intro(_:Nat)|refine And.intro ?_ ?_|fail)
   all_goals (conv=>whnf)
   all_goals (first|exact Eq.refl _|(
    intro g2 hg
    exact⟨_,rfl,qDA _ _ _ _ hg hxw,hok.answer⟩))
  ·obtain⟨d,hdk⟩:∃ d,k-j=d+1:=⟨k-j-1,by omega⟩
   rw [hdk] at hway
   obtain⟨hnd,hway⟩:=hway
   have hkp:=fsW_kept (K:=1000000) (w:=w) (m:=m)
   repeat((conv=>whnf);first|refine qz ?_|intro(_:Nat))
   conv=>whnf
   refine⟨fun _=>?_,fun hx=>absurd hx (by simp [hnd])⟩
   repeat((conv=>whnf);first|refine qz ?_|intro(_:Nat))
   refine .inr ((qhS _ hxw hxM hsn hb).mono fun v g4 hg4 hO=>?_)
   obtain⟨csa,msa,rfl,hwa,hMa⟩:=hO
   obtain⟨r1,r2,r3,r4,r5,r6,r7,r8,r9,r10,rfl⟩:=qKA hwa
   obtain⟨s1,s2,s3,s4,s5,s6,rfl⟩:=qqB hMa
   repeat((conv=>whnf);first|refine qz ?_|intro(_:Nat))
   conv=>whnf
   refine fun fr u hu=>⟨⟨j+1,g4,fsW w m,r1,r2,r3,r4,r5,r6,r7,r8,r9,r10,fsM w m,s1,s2,s3,s4,s5,s6⟩,congrArg (fun z=>[Value.int .i64 z]) (show((j+1:Nat):Int)=IntKind.i64.wrap ((j:Int)+1) by rw [wr (x:=(j:Int)+1) (by unfold InR;omega)];omega),⟨by show j+1≤k;omega,GW.trans hxg hg4,hwa,hMa,by show FWay (k-(j+1)) _ _ _ _;rw [show k-(j+1)=d by omega];exact hway,qJM hsn hkp,hkp.1 hb⟩,by show k-(j+1)<k-j;omega,?_⟩
   exact hu.fit (by simp [fitL,Res.eqv,qBA,conc]))
theorem qHQ (g:GW) {t:Int} {a:Ans} (ht:InR t) (ha:a.ok):qhA g ((fBeg t a).cs (.slice none 0 0) (.slice none 0 0) (.slice none 0 0)) (fBeg t a) :=
 ⟨_,_,_,rfl,⟨ht,by show InR (if a.kind=1 then 0 else 9);split<;>decide,z0,ha.version,by show InR (if a.kind=1 then a.listen else -1);split;exact ha.listen;decide,ha.cluster,ha.end_,z0,ha.slot,zu,z0,z0,z0,z0,qGV,qnI⟩,⟨(by decide:InR 2),z0,z0,z0⟩,qmM g⟩
theorem qnS (g:GW) {t:Int} {a:Ans} (ht:InR t) (ha:a.ok):OkV Tryz.prog qnN [.int .i64 t,.agg ⟨a.cs⟩] g (.agg ⟨(fBeg t a).cs (.slice none 0 0) (.slice none 0 0) (.slice none 0 0)⟩) :=
 Ok.of_fn hm noT 0 qbN (args:=[.v (.int .i64 t),.v (.agg ⟨a.cs⟩)]) (by
  unfold fBeg
  repeat((conv=>whnf);first|refine qz ?_|intro(_:Nat))
  refine And.intro (fun z=>?_) (fun z=>?_)
  ·have z:=bneT z
   rw [if_neg z,if_neg z]
   repeat((conv=>whnf);first|refine qz ?_|intro(_:Nat))
   conv=>whnf
   intro g2 hg
   rfl
  ·have z:=bneF z
   rw [if_pos z,if_pos z]
   repeat((conv=>whnf);first|refine qz ?_|intro(_:Nat))
   conv=>whnf
   intro g2 hg
   rfl)
/- Law 21's example. -/
open Go.Proofs.YthonngjhelcpeaaGreat.Sx Go.RowKit
theorem FWay.sn:∀ {k:Nat} {w:Wd} {m:Mach} {x:Wd} {m':Mach},FWay k w m x m'→SnW w→SnW x
 | 0,_,_,_,_,⟨h1,_⟩,hb=>by rw [h1];exact hb
 | _+1,_,_,_,_,⟨_,h⟩,hb=>FWay.sn h (qJM (K:=0) hb fsW_kept)
theorem qXT (g:GW):Ok Tryz.prog qHI [] g fun v g'=>∃ cs,v=.agg ⟨cs⟩∧rWo g' cs w1 :=
 Ok.of_fn hm noT 0 qxH (args:=[]) (by
  repeat((conv=>whnf);first|refine qz ?_|intro(_:Nat))
  conv=>whnf
  refine⟨1,rfl,by unfold maxLen;omega,fun g1 hg1 hn1 hp1=>?_⟩
  repeat((conv=>whnf);first|refine qz ?_|intro(_:Nat))
  conv=>whnf
  refine⟨4,rfl,by unfold maxLen;omega,fun g2 hg2 hn2 hp2=>?_⟩
  repeat((conv=>whnf);first|refine qz ?_|intro(_:Nat))
  conv=>whnf
  refine⟨1,rfl,by unfold maxLen;omega,fun g3 hg3 hn3 hp3=>?_⟩
  repeat((conv=>whnf);first|refine qz ?_|intro(_:Nat))
  conv=>whnf
  refine⟨4,rfl,by unfold maxLen;omega,fun g4 hg4 hn4 hp4=>?_⟩
  repeat((conv=>whnf);first|refine qz ?_|intro(_:Nat))
  conv=>whnf
  refine⟨1,rfl,by unfold maxLen;omega,fun g5 hg5 hn5 hp5=>?_⟩
  have hs:=qVV (n:=1) (h:=[true]) (hp1.mono (GW.trans hg2 (GW.trans hg3 (GW.trans hg4 hg5)))) (hp2.mono (GW.trans hg3 (GW.trans hg4 hg5))) (hp4.mono hg5) (hp3.mono (GW.trans hg4 hg5)) (by decide)
  have hl:=q2E (R:=rStr) hp5.rd [sInW] .string rfl fun _ _=>rfl
  conv=>whnf
  refine .inr ((qSY _ hs hl (t:=1) (by decide) (by decide)).mono fun v g6 hg6 hN=>?_)
  rcases hN with ⟨_,cs,rfl,hw⟩|⟨h,_⟩
  rotate_left
  ·exact absurd qkX h
  obtain⟨_,_,_,_,_,_,_,_,_,_,rfl⟩:=qKA hw
  repeat((conv=>whnf);first|refine qz ?_|intro(_:Nat))
  conv=>whnf
  intro g2 hg
  exact⟨_,rfl,qDA _ _ _ _ hg hw⟩)
theorem rOp_H (g:GW) (l p:BA):rOp g [.int .i64 1,.string l,.string sX,.string p,.int .i64 0,.int .i64 0,.int .i64 0,.slice none 0 0,.slice none 0 0,.slice none 0 0] {op0 with kind:=1,listen:=l,host:=sX,path:=p} :=
 ⟨_,_,_,rfl,⟨(by decide:InR 1),z0,z0,z0⟩,qmM g⟩
theorem qKG {k:Int} (hk:InR k):(ansK k 0).ok:=⟨hk,z0,z0,z0,z0,z0,z0,qnI⟩
theorem qqR (g:GW):OkV Tryz.prog q3F [] g (.bool true) :=
 Ok.of_fn hm noT 0 qmF (args:=[]) (by
  repeat((conv=>whnf);first|refine qz ?_|intro(_:Nat))
  refine .inr ((qXT _).mono fun v g1 hg1 hO=>?_)
  obtain⟨cs,rfl,hw1⟩:=hO
  obtain⟨_,_,_,_,_,_,_,_,_,_,rfl⟩:=qKA hw1
  repeat((conv=>whnf);first|refine qz ?_|intro(_:Nat))
  refine .inr ((qWU _ hw1 z0 (rOp_H _ sInW sSl) (by rw [qOV];exact qjX) (by rw [qOV];exact qhW (by decide) rfl) ⟨by decide,by decide⟩ (by rw [← qYY];exact hway1.1) (congrArg Prod.fst e1) (by decide)).mono fun v g2 hg2 hO=>?_)
  obtain⟨csa,rfl,hwa,hoa⟩:=hO
  obtain⟨_,_,_,_,_,_,_,_,_,_,rfl⟩:=qKA hwa
  have k1:=congrArg Prod.snd e1
  replace k1:(gIt 14 w1 (mH sInW sSl)).2.answer=ansK 1 0:=k1
  rw [k1] at hoa ⊢
  obtain⟨y,n5,way5,hd5,hans5,hold5,hheld5,hlis5,hpins5,_⟩:=wH1_hold.fin (by decide) (t:=0) (by decide) rfl
  obtain⟨n6,way6,hd6,hans6⟩:=qJW (w:=wH1) (a:=ansK 4 0) hway1.2 (t:=0) (by decide) (by decide) rfl
  have hyl:y.listens=[⟨sInW,false,0,false⟩]:=by rw [hlis5];rfl
  have hbg:BgW 1000 wH1:=qhW (by decide) rfl
  have hbg6:BgW 1000000 wH1:=qhW (by decide) rfl
  have hsn:SnW wH1:=qjX
  have hby:=way5.kept hbg
  repeat((conv=>whnf);first|refine qz ?_|intro(_:Nat))
  conv=>whnf
  refine .inl ⟨_,qnS _ z0 hoa,?_⟩
  repeat((conv=>whnf);first|refine qz ?_|intro(_:Nat))
  refine .inr ((qjS _ hwa (qHQ _ z0 hoa) hsn hbg6 way5 hd5 (by decide)).mono fun v g3 hg3 hO=>?_)
  obtain⟨csb,rfl,hwb,hob⟩:=hO
  obtain⟨_,_,_,_,_,_,_,_,_,_,rfl⟩:=qKA hwb
  rw [hans5] at hob ⊢
  repeat((conv=>whnf);first|refine qz ?_|intro(_:Nat))
  conv=>whnf
  refine .inl ⟨_,qnS _ (a:=ansK 4 0) z0 (qKG (by decide)),?_⟩
  repeat((conv=>whnf);first|refine qz ?_|intro(_:Nat))
  refine .inr ((qjS _ (qDA _ _ _ _ hg3 hwa) (qHQ _ z0 (qKG (by decide))) hsn hbg6 way6 hd6 (by decide)).mono fun v g4 hg4 hO=>?_)
  obtain⟨csc,rfl,hwc,hoc⟩:=hO
  obtain⟨_,_,_,_,_,_,_,_,_,_,rfl⟩:=qKA hwc
  rw [hans6] at hoc ⊢
  repeat((conv=>whnf);first|refine qz ?_|intro(_:Nat))
  conv=>whnf
  refine⟨fun hx=>absurd (by rw [hyl];rfl) (bneT hx),fun _=>?_⟩
  repeat((conv=>whnf);first|refine qz ?_|intro(_:Nat))
  refine .inr ((qhU _ (qDA _ _ _ _ (GW.trans hg3 hg4) hwa) hbg).mono fun v g5 hg5 hO=>?_)
  subst hO
  repeat((conv=>whnf);first|refine qz ?_|intro(_:Nat))
  conv=>whnf
  refine⟨fun _=>?_,fun hx=>absurd qQS (beqF hx)⟩
  repeat((conv=>whnf);first|refine qz ?_|intro(_:Nat))
  refine .inr ((qhU _ (qDA _ _ _ _ (GW.trans hg4 hg5) hwb) hby).mono fun v g6 hg6 hO=>?_)
  subst hO
  have hheld6:qHM y=0:=by have:=qQS;omega
  have hFl:=qhM (qDA _ _ _ _ (GW.trans hg4 (GW.trans hg5 hg6)) hwb)
  have hy0:y.listens[0]?=some ⟨sInW,false,0,false⟩:=by rw [hyl];rfl
  obtain⟨al,rfl⟩:=qJA hFl hy0
  obtain⟨_,hcl⟩:=qlI hFl hy0
  repeat((conv=>whnf);first|refine qz ?_|intro(_:Nat))
  conv=>whnf
  refine⟨fun _=>?_,fun hx=>absurd hheld6 (beqF hx)⟩
  repeat((conv=>whnf);first|refine qz ?_|intro(_:Nat))
  conv=>whnf
  refine⟨_,rfl,⟨by decide,by rw [hyl];decide⟩,?_⟩
  repeat((conv=>whnf);first|refine qz ?_|intro(_:Nat))
  conv=>whnf
  refine⟨_,hcl 2 _ rfl,?_⟩
  repeat((conv=>whnf);first|refine qz ?_|intro(_:Nat))
  conv=>whnf
  refine⟨fun _=>?_,fun h=>nomatch h⟩
  repeat((conv=>whnf);first|refine qz ?_|intro(_:Nat))
  conv=>whnf
  refine⟨fun _=>?_,fun hx=>absurd hx (by simp [ansK,c60])⟩
  repeat((conv=>whnf);first|refine qz ?_|intro(_:Nat))
  conv=>whnf
  refine⟨fun _=>?_,fun hx=>absurd hx (by decide)⟩
  repeat((conv=>whnf);first|refine qz ?_|intro(_:Nat))
  conv=>whnf
  refine⟨fun _=>?_,fun hx=>absurd hx (by simp [ansK,c60])⟩
  repeat((conv=>whnf);first|refine qz ?_|intro(_:Nat))
  conv=>whnf
  intro g2 hg
  rfl)
/- The law FinishSteps. -/
open Go.Proofs.YthonngjhelcpeaaGreat.Sx Go.RowKit
theorem qiN (g:GW) {cs ms:List Value} {w:Wd} {m:Mach} (hw:rWo g cs w) (hM:qhA g ms m):OkV Tryz.prog qhE [.agg ⟨cs⟩,.agg ⟨ms⟩] g (.bool true):=by
 obtain⟨oa,ca,ob,cb,oc,cc,od,cd,oe,ce,rfl⟩:=qKA hw
 obtain⟨o1,t1,o2,t2,o3,t3,rfl⟩:=qqB hM
 exact Ok.of_fn hm noT 0 qcE (args:=[.v (.agg ⟨wQ w oa ca ob cb oc cc od cd oe ce⟩),.v (.agg ⟨mQ m o1 t1 o2 t2 o3 t3⟩)]) (by
  repeat((conv=>whnf);first|refine qz ?_|intro(_:Nat))
  refine .inr ((qnV _ hw).mono fun v g1 hg1 hB=>?_)
  obtain⟨b,rfl,hB⟩:=hB
  repeat((conv=>whnf);first|refine qz ?_|intro(_:Nat))
  conv=>whnf
  refine⟨fun z1=>?_,fun z1=>?_⟩
  ·repeat((conv=>whnf);first|refine qz ?_|intro(_:Nat))
   conv=>whnf
   intro g2 hg
   rfl
  obtain⟨hb,hsn⟩:=hB z1
  have hb':=BgW.up (K':=1000000) hb (by decide)
  have hw1:=qDA _ _ _ _ hg1 hw
  have hM1:=qQA _ _ _ _ hg1 hM
  repeat((conv=>whnf);first|refine qz ?_|intro(_:Nat))
  refine .inr ((qhS _ hw1 hM1 hsn hb').mono fun v g2 hg2 hO=>?_)
  obtain⟨csa,msa,rfl,hwa,hMa⟩:=hO
  obtain⟨_,_,_,_,_,_,_,_,_,_,rfl⟩:=qKA hwa
  obtain⟨_,_,_,_,_,_,rfl⟩:=qqB hMa
  have hw2:=qDA _ _ _ _ hg2 hw1
  have hM2:=qQA _ _ _ _ hg2 hM1
  repeat((conv=>whnf);first|refine qz ?_|intro(_:Nat))
  refine .inr ((qcU _ hw2 hM2 hsn hb').mono fun v g3 hg3 hO=>?_)
  obtain⟨csb,msb,rfl,hwb,hMb⟩:=hO
  obtain⟨_,_,_,_,_,_,_,_,_,_,rfl⟩:=qKA hwb
  obtain⟨_,_,_,_,_,_,rfl⟩:=qqB hMb
  repeat((conv=>whnf);first|refine qz ?_|intro(_:Nat))
  conv=>whnf
  refine .inl ⟨_,qqR _,?_⟩
  repeat((conv=>whnf);first|refine qz ?_|intro(_:Nat))
  conv=>whnf
  refine⟨fun _=>?_,fun h=>nomatch h⟩
  repeat((conv=>whnf);first|refine qz ?_|intro(_:Nat))
  conv=>whnf
  refine .inl ⟨_,qiV _ (qDA _ _ _ _ hg3 hwa) hwb,?_⟩
  repeat((conv=>whnf);first|refine qz ?_|intro(_:Nat))
  conv=>whnf
  refine⟨fun _=>?_,fun h=>nomatch h⟩
  repeat((conv=>whnf);first|refine qz ?_|intro(_:Nat))
  conv=>whnf
  refine .inl ⟨_,qjV _ (qQA _ _ _ _ hg3 hMa) hMb,?_⟩
  repeat((conv=>whnf);first|refine qz ?_|intro(_:Nat))
  conv=>whnf
  refine⟨fun _=>?_,fun h=>nomatch h⟩
  repeat((conv=>whnf);first|refine qz ?_|intro(_:Nat))
  conv=>whnf
  intro g2 hg
  simp)
/- What came in of this seat's types is plain data. -/
open Go.Proofs.YthonngjhelcpeaaGreat.Sx
section
variable {H:Type} {enc:TypeId×Value→H} {W:World}
theorem qhR:Rds enc Tryz.prog W qSM qdR:=qoW (tS:=qQC) (tI:=qOA) (by kernel_rfl) (by kernel_rfl) (by kernel_rfl) (by kernel_rfl)
theorem qNQ:Rds enc Tryz.prog W qlC qAO:=qbV (tS:=qQC) (by kernel_rfl) (by kernel_rfl) (by kernel_rfl)
theorem qjI:Rds enc Tryz.prog W qzA qtB:=qNT (tS:=qQC) (tI:=qOA) (tL:=q4S) (tB:=qpI) (by kernel_rfl) (by kernel_rfl) (by kernel_rfl) (by kernel_rfl) (by kernel_rfl) (by kernel_rfl) (by kernel_rfl)
theorem q3O:Rds enc Tryz.prog W q5B qrB:=by
 intro fuel cs x h
 obtain⟨a,b,d,rfl,⟨l0,h0⟩,⟨l1,h1⟩,l2,h2⟩:=qYS (t0:=qwL) (t1:=qRM) (t2:=qCF) (e0:=qQC) (e1:=qlC) (e2:=qzA) (z0:=1) (z1:=4) (z2:=4)
  (by kernel_rfl) (by kernel_rfl) (by kernel_rfl) (by kernel_rfl) (by kernel_rfl) (by kernel_rfl) (by kernel_rfl) (by kernel_rfl) (by omega) (by omega) (by omega) (qIF (by kernel_rfl)) qNQ qjI h
 exact⟨⟨l0,l1,l2⟩,a,b,d,rfl,h0,h1,h2⟩
end
/- What came in of a snapshot is plain data. -/
open Go.Proofs.YthonngjhelcpeaaGreat.Sx
section
variable {H:Type} {enc:TypeId×Value→H} {W:World}
theorem qgR:Rds enc Tryz.prog W quA q5H:=by
 intro fuel cs x h
 obtain⟨a,b,d,rfl,⟨l0,h0⟩,⟨l1,h1⟩,l2,h2⟩:=qYS (t0:=qwL) (t1:=qVN) (t2:=qCF) (e0:=qQC) (e1:=qSM) (e2:=qzA) (z0:=1) (z1:=4) (z2:=4)
  (by kernel_rfl) (by kernel_rfl) (by kernel_rfl) (by kernel_rfl) (by kernel_rfl) (by kernel_rfl) (by kernel_rfl) (by kernel_rfl) (by omega) (by omega) (by omega) (qIF (by kernel_rfl)) qhR qjI h
 exact⟨⟨l0,l1,l2⟩,a,b,d,rfl,h0,h1,h2⟩
end
/- What came in of worlds and machines is plain data. -/
open Go.Proofs.YthonngjhelcpeaaGreat.Sx
section
variable {H:Type} {enc:TypeId×Value→H} {W:World}
theorem q2O:Rds enc Tryz.prog W qcA qHB:=by
 intro fuel cs x h
 obtain⟨hl,hg⟩:=qfK (l:=[(0,1,qQC),(1,1,qpI),(2,1,qOA),(3,1,qpI)]) (by kernel_rfl) h
 rw [show Tryz.prog.cellsOf qcA=4 by kernel_rfl] at hl
 match cs,hl with
 | [a,b,c,d],_ =>
  obtain⟨s0,e0⟩:=(qIF (by kernel_rfl)).fld (hg 0 _ _ _ rfl)
  obtain⟨s1,e1⟩:=(qLL (by kernel_rfl)).fld (hg 1 _ _ _ rfl)
  obtain⟨s2,e2,w2⟩:=(qmA (by kernel_rfl)).fld (hg 2 _ _ _ rfl)
  obtain⟨s3,e3⟩:=(qLL (by kernel_rfl)).fld (hg 3 _ _ _ rfl)
  cases e0;cases e1;cases e2;cases e3
  exact⟨⟨s0,s1,s2,s3⟩,rfl,w2⟩
theorem qfN:Rds enc Tryz.prog W qRC qtA:=by
 intro fuel cs x h
 obtain⟨hl,hg⟩:=qfK (l:=[(0,1,qOA),(1,1,qOA),(2,1,qpI)]) (by kernel_rfl) h
 rw [show Tryz.prog.cellsOf qRC=3 by kernel_rfl] at hl
 match cs,hl with
 | [a,b,c],_ =>
  obtain⟨s0,e0,w0⟩:=(qmA (by kernel_rfl)).fld (hg 0 _ _ _ rfl)
  obtain⟨s1,e1,w1⟩:=(qmA (by kernel_rfl)).fld (hg 1 _ _ _ rfl)
  obtain⟨s2,e2⟩:=(qLL (by kernel_rfl)).fld (hg 2 _ _ _ rfl)
  cases e0;cases e1;cases e2
  exact⟨⟨s0,s1,s2⟩,rfl,w0,w1⟩
theorem qTT:RdsW enc Tryz.prog W qqA rEn:=by
 intro fuel cs x h hs
 obtain⟨hl,hg⟩:=qdP (l:=[(0,1,qeD),(1,1,qJE),(2,1,qOA)]) (by kernel_rfl) h hs
 rw [show Tryz.prog.cellsOf qqA=3 by kernel_rfl] at hl
 match cs,hl with
 | [a,b,c],_ =>
  obtain⟨s0,e0,w0⟩:=(qiI (by kernel_rfl)).fld (tr1 (hg 0 _ _ _ rfl))
  obtain⟨s1,v,e1,h1,hb⟩:=(qWS (t:=qJE) (e:=qOA) (sz:=1) (by kernel_rfl) (by kernel_rfl) (qmA (by kernel_rfl)).w).fld (hg 1 _ _ _ rfl)
  obtain⟨s2,e2,w2⟩:=(qmA (by kernel_rfl)).fld (tr1 (hg 2 _ _ _ rfl))
  cases e0;cases e1;cases e2
  refine⟨⟨s0,s1,s2⟩,⟨_,rfl,w0,w2,h1⟩,?_⟩
  rw [show Tryz.prog.bytesOf qOA=8 by kernel_rfl] at hb
  unfold reachBytes at hb
  show s1.length≤17592186044416
  omega
theorem qOQ:RdsW enc Tryz.prog W qXA rGr:=by
 intro fuel cs x h hs
 obtain⟨hl,hg⟩:=qdP (l:=[(0,1,qeD),(1,1,q1J)]) (by kernel_rfl) h hs
 rw [show Tryz.prog.cellsOf qXA=2 by kernel_rfl] at hl
 match cs,hl with
 | [a,b],_ =>
  obtain⟨s0,e0,w0⟩:=(qiI (by kernel_rfl)).fld (tr1 (hg 0 _ _ _ rfl))
  obtain⟨s1,v,e1,h1⟩:=(qjW (t:=q1J) (e:=qqA) (sz:=3) (by kernel_rfl) (by kernel_rfl) qTT).fld (hg 1 _ _ _ rfl)
  cases e0;cases e1
  exact⟨⟨s0,s1⟩,_,rfl,w0,h1⟩
theorem qeN:RdsW enc Tryz.prog W qEA rVe:=by
 intro fuel cs x h hs
 obtain⟨hl,hg⟩:=qdP (l:=[(0,3,quA),(3,1,qrG),(4,1,qpI)]) (by kernel_rfl) h hs
 rw [show Tryz.prog.cellsOf qEA=5 by kernel_rfl] at hl
 match cs,hl with
 | [a,b,c,d,e],_ =>
  obtain⟨s0,e0⟩:=(qgR (enc:=enc)).fld (tr1 (hg 0 _ _ _ rfl))
  obtain⟨s1,v,e1,h1⟩:=(qjW (t:=qrG) (e:=qXA) (sz:=2) (by kernel_rfl) (by kernel_rfl) qOQ).fld (hg 1 _ _ _ rfl)
  obtain⟨s2,e2⟩:=(qLL (by kernel_rfl)).fld (tr1 (hg 2 _ _ _ rfl))
  cases e1;cases e2
  exact⟨⟨s0,s1,s2⟩,_,_,_,_,rfl,e0,h1⟩
theorem qwX:Rds enc Tryz.prog W qeB rRow:=by
 intro fuel cs x h
 obtain⟨l,v,rfl,h1⟩:=(q5D (t:=qeB) (e:=qeD) (sz:=1) (by kernel_rfl) (by kernel_rfl) (by omega) (qiI (by kernel_rfl))) fuel cs x h
 exact⟨l,_,rfl,h1⟩
theorem qMQ:RdsW enc Tryz.prog W qHA rWo:=by
 intro fuel cs x h hs
 obtain⟨hl,hg⟩:=qdP (l:=[(0,1,qOA),(1,1,qOA),(2,1,qOA),(3,1,qJE),(4,1,qAF),(5,1,qLG),(6,1,qfI),(7,1,qBF)]) (by kernel_rfl) h hs
 rw [show Tryz.prog.cellsOf qHA=8 by kernel_rfl] at hl
 match cs,hl with
 | [c0,c1,c2,c3,c4,c5,c6,c7],_ =>
  obtain⟨s0,e0,w0⟩:=(qmA (by kernel_rfl)).fld (tr1 (hg 0 _ _ _ rfl))
  obtain⟨s1,e1,w1⟩:=(qmA (by kernel_rfl)).fld (tr1 (hg 1 _ _ _ rfl))
  obtain⟨s2,e2,w2⟩:=(qmA (by kernel_rfl)).fld (tr1 (hg 2 _ _ _ rfl))
  obtain⟨s3,v3,e3,h3⟩:=(q5D (t:=qJE) (e:=qOA) (sz:=1) (by kernel_rfl) (by kernel_rfl) (by omega) (qmA (by kernel_rfl))).fld (tr1 (hg 3 _ _ _ rfl))
  obtain⟨s4,v4,e4,h4⟩:=(qjW (t:=qAF) (e:=qEA) (sz:=5) (by kernel_rfl) (by kernel_rfl) qeN).fld (hg 4 _ _ _ rfl)
  obtain⟨s5,v5,e5,h5⟩:=(q5D (t:=qLG) (e:=qcA) (sz:=4) (by kernel_rfl) (by kernel_rfl) (by omega) q2O).fld (tr1 (hg 5 _ _ _ rfl))
  obtain⟨s6,v6,e6,h6⟩:=(q5D (t:=qfI) (e:=qeB) (sz:=1) (by kernel_rfl) (by kernel_rfl) (by omega) qwX).fld (tr1 (hg 6 _ _ _ rfl))
  obtain⟨s7,v7,e7,h7⟩:=(q5D (t:=qBF) (e:=qRC) (sz:=3) (by kernel_rfl) (by kernel_rfl) (by omega) qfN).fld (tr1 (hg 7 _ _ _ rfl))
  cases e0;cases e1;cases e2;cases e3;cases e4;cases e5;cases e6;cases e7
  exact⟨⟨s0,s1,s2,s3,s4,s5,s6,s7⟩,_,_,_,_,_,rfl,⟨w0,w1,w2⟩,h3,h4,h5,h6,h7⟩
theorem qxX:Rds enc Tryz.prog W qsG fun _ cs (c:C6)=>cs=c.cs∧c.ok:=rd_c6 (e:=qeD) (by kernel_rfl) (by kernel_rfl) (by kernel_rfl) (by kernel_rfl)
theorem q4O:Rds enc Tryz.prog W qzC rAns:=by
 intro fuel cs x h
 obtain⟨hl,hg⟩:=qfK (l:=[(0,1,qOA),(1,1,qOA),(2,1,qOA),(3,1,qOA),(4,1,qOA),(5,1,qOA),(6,1,qOA),(7,6,qsG)]) (by kernel_rfl) h
 rw [show Tryz.prog.cellsOf qzC=13 by kernel_rfl] at hl
 match cs,hl with
 | [c0,c1,c2,c3,c4,c5,c6,d0,d1,d2,d3,d4,d5],_ =>
  obtain⟨s0,e0,w0⟩:=(qmA (by kernel_rfl)).fld (hg 0 _ _ _ rfl)
  obtain⟨s1,e1,w1⟩:=(qmA (by kernel_rfl)).fld (hg 1 _ _ _ rfl)
  obtain⟨s2,e2,w2⟩:=(qmA (by kernel_rfl)).fld (hg 2 _ _ _ rfl)
  obtain⟨s3,e3,w3⟩:=(qmA (by kernel_rfl)).fld (hg 3 _ _ _ rfl)
  obtain⟨s4,e4,w4⟩:=(qmA (by kernel_rfl)).fld (hg 4 _ _ _ rfl)
  obtain⟨s5,e5,w5⟩:=(qmA (by kernel_rfl)).fld (hg 5 _ _ _ rfl)
  obtain⟨s6,e6,w6⟩:=(qmA (by kernel_rfl)).fld (hg 6 _ _ _ rfl)
  obtain⟨s7,e7,w7⟩:=(qxX (enc:=enc)).fld (hg 7 _ _ _ rfl)
  cases e0;cases e1;cases e2;cases e3;cases e4;cases e5;cases e6;cases e7
  exact⟨⟨s0,s1,s2,s3,s4,s5,s6,s7⟩,rfl,⟨w0,w1,w2,w3,w4,w5,w6,w7⟩⟩
theorem qTU:Rds enc Tryz.prog W q2J fun g cs (o:OpD)=>∃ a b d,cs=[.int .i64 o.kind,.string o.listen,.string o.host,.string o.path,.int .i64 o.d0,.int .i64 o.d1,.int .i64 o.n,a,b,d]∧(InR o.kind∧InR o.d0∧InR o.d1∧InR o.n)∧qrB g [a,b,d] o.config:=by
 intro fuel cs x h
 obtain⟨hl,hg⟩:=qfK (l:=[(0,1,qOA),(1,1,qQC),(2,1,qQC),(3,1,qQC),(4,1,qOA),(5,1,qOA),(6,1,qOA),(7,3,q5B)]) (by kernel_rfl) h
 rw [show Tryz.prog.cellsOf q2J=10 by kernel_rfl] at hl
 match cs,hl with
 | [c0,c1,c2,c3,c4,c5,c6,d0,d1,d2],_ =>
  obtain⟨s0,e0,w0⟩:=(qmA (by kernel_rfl)).fld (hg 0 _ _ _ rfl)
  obtain⟨s1,e1⟩:=(qIF (by kernel_rfl)).fld (hg 1 _ _ _ rfl)
  obtain⟨s2,e2⟩:=(qIF (by kernel_rfl)).fld (hg 2 _ _ _ rfl)
  obtain⟨s3,e3⟩:=(qIF (by kernel_rfl)).fld (hg 3 _ _ _ rfl)
  obtain⟨s4,e4,w4⟩:=(qmA (by kernel_rfl)).fld (hg 4 _ _ _ rfl)
  obtain⟨s5,e5,w5⟩:=(qmA (by kernel_rfl)).fld (hg 5 _ _ _ rfl)
  obtain⟨s6,e6,w6⟩:=(qmA (by kernel_rfl)).fld (hg 6 _ _ _ rfl)
  obtain⟨s7,e7⟩:=(q3O (enc:=enc)).fld (hg 7 _ _ _ rfl)
  cases e0;cases e1;cases e2;cases e3;cases e4;cases e5;cases e6
  exact⟨⟨s0,s1,s2,s3,s4,s5,s6,s7⟩,_,_,_,rfl,⟨w0,w4,w5,w6⟩,e7⟩
theorem qgN:Rds enc Tryz.prog W qbD qhA:=by
 intro fuel cs x h
 obtain⟨hl,hg⟩:=qfK (l:=[(0,10,q2J),(10,1,qOA),(11,1,qOA),(12,1,qOA),(13,1,qOA),(14,1,qOA),(15,1,qOA),(16,1,qOA),(17,1,qOA),(18,1,qOA),(19,1,qeD),(20,1,qOA),(21,1,qOA),(22,1,qOA),(23,1,qOA),(24,1,qpI),(25,13,qzC),(38,6,qsG)]) (by kernel_rfl) h
 rw [show Tryz.prog.cellsOf qbD=44 by kernel_rfl] at hl
 match cs,hl with
 | p0 :: p1 :: p2 :: p3 :: p4 :: p5 :: p6 :: p7 :: p8 :: p9 :: c10 :: c11 :: c12 :: c13 :: c14 :: c15 :: c16 :: c17 :: c18 :: c19 :: c20 :: c21 :: c22 :: c23 :: c24 :: a0 :: a1 :: a2 :: a3 :: a4 :: a5 :: a6 :: a7 :: a8 :: a9 :: a10 :: a11 :: a12 :: n0 :: n1 :: n2 :: n3 :: n4 :: n5 :: [],_ =>
  obtain⟨s0,xa,xb,xd,e0,w0,hc⟩:=(qTU (enc:=enc)).fld (hg 0 _ _ _ rfl)
  obtain⟨s1,e1,w1⟩:=(qmA (by kernel_rfl)).fld (hg 1 _ _ _ rfl)
  obtain⟨s2,e2,w2⟩:=(qmA (by kernel_rfl)).fld (hg 2 _ _ _ rfl)
  obtain⟨s3,e3,w3⟩:=(qmA (by kernel_rfl)).fld (hg 3 _ _ _ rfl)
  obtain⟨s4,e4,w4⟩:=(qmA (by kernel_rfl)).fld (hg 4 _ _ _ rfl)
  obtain⟨s5,e5,w5⟩:=(qmA (by kernel_rfl)).fld (hg 5 _ _ _ rfl)
  obtain⟨s6,e6,w6⟩:=(qmA (by kernel_rfl)).fld (hg 6 _ _ _ rfl)
  obtain⟨s7,e7,w7⟩:=(qmA (by kernel_rfl)).fld (hg 7 _ _ _ rfl)
  obtain⟨s8,e8,w8⟩:=(qmA (by kernel_rfl)).fld (hg 8 _ _ _ rfl)
  obtain⟨s9,e9,w9⟩:=(qmA (by kernel_rfl)).fld (hg 9 _ _ _ rfl)
  obtain⟨s10,e10,w10⟩:=(qiI (by kernel_rfl)).fld (hg 10 _ _ _ rfl)
  obtain⟨s11,e11,w11⟩:=(qmA (by kernel_rfl)).fld (hg 11 _ _ _ rfl)
  obtain⟨s12,e12,w12⟩:=(qmA (by kernel_rfl)).fld (hg 12 _ _ _ rfl)
  obtain⟨s13,e13,w13⟩:=(qmA (by kernel_rfl)).fld (hg 13 _ _ _ rfl)
  obtain⟨s14,e14,w14⟩:=(qmA (by kernel_rfl)).fld (hg 14 _ _ _ rfl)
  obtain⟨s15,e15⟩:=(qLL (by kernel_rfl)).fld (hg 15 _ _ _ rfl)
  obtain⟨s16,e16,w16⟩:=(q4O (enc:=enc)).fld (hg 16 _ _ _ rfl)
  obtain⟨s17,e17,w17⟩:=(qxX (enc:=enc)).fld (hg 17 _ _ _ rfl)
  cases e0;cases e1;cases e2;cases e3;cases e4;cases e5;cases e6;cases e7;cases e8;cases e9;cases e10;cases e11;cases e12;cases e13;cases e14;cases e15;cases e16;cases e17
  exact⟨⟨s0,s1,s2,s3,s4,s5,s6,s7,s8,s9,s10,s11,s12,s13,s14,s15,s16,s17⟩,_,_,_,rfl,⟨w1,w2,w3,w4,w5,w6,w7,w8,w9,w10,w11,w12,w13,w14,w16,w17⟩,w0,hc⟩
end
end Go.Proofs.YthonngjhelcpeaaGreat
