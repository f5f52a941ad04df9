/- Requests: the steps' table. -/
import Derived.Test.YthonngjhelcpeaaGreatLW9r
import Derived.Test.YthonngjhelcpeaaGreatPl
import Derived.Test.YthonngjhelcpeaaGreatLS7d
import Derived.Test.YthonngjhelcpeaaGreatLW9x3
set_option linter.unusedVariables false
set_option linter.unusedSimpArgs false
namespace Go.Proofs.YthonngjhelcpeaaGreat
open Go.Proofs.YthonngjhelcpeaaGreat.Sx Go.RowKit
set_option maxHeartbeats 16000000
set_option maxRecDepth 100000
def HaP (w:Wd) (m:Mach) (v:Value) (g':GW):Prop:=∃ cs ms,v=.tuple #[.agg ⟨cs⟩,.agg ⟨ms⟩,.agg ⟨(hsE w m).cs⟩]∧rWo g' cs (hsW w m)∧qfA g' ms (hsM w m)
abbrev SmO (m:Mach):Prop:=Sm m.op.host∧Sm m.op.path
def tHa:List (Nat×FnI):=[(qBC,qGC),(q2D,q9D),(qgC,qkC),(qiD,qqD),(qCC,qHC),(qAC,qFC),(q1C,q9C),(q0C,q8C),(qFD,qKD),(qjD,qrD),(qhC,qlC),(q2C,qAD),(q1D,q8D),(q0D,q6D),(qMK,qgE),(qpI,q7D)]
theorem qzD:q3G Tryz.prog tHa:=by
 intro x hx
 simp only [tHa,List.mem_cons,List.not_mem_nil,or_false] at hx
 rcases hx with rfl|rfl|rfl|rfl|rfl|rfl|rfl|rfl|rfl|rfl|rfl|rfl|rfl|rfl|rfl|rfl
 ·exact⟨_,_,qoE⟩
 ·exact⟨_,_,qWI⟩
 ·exact⟨_,_,qMF⟩
 ·exact⟨_,_,qIH⟩
 ·exact⟨_,_,qpE⟩
 ·exact⟨_,_,qnE⟩
 ·exact⟨_,_,qxF⟩
 ·exact⟨_,_,qwF⟩
 ·exact⟨_,_,qiG⟩
 ·exact⟨_,_,qJH⟩
 ·exact⟨_,_,qNF⟩
 ·exact⟨_,_,qyF⟩
 ·exact⟨_,_,qUI⟩
 ·exact⟨_,_,qRI⟩
 ·exact⟨_,_,qpJ⟩
 ·exact⟨_,_,qSI⟩
def tabV:Value:=.agg #[.nilFunc,.nilFunc,.nilFunc,.func (.func qBC) #[] #[],.func (.func q2D) #[] #[],.func (.func qgC) #[] #[],.func (.func qiD) #[] #[],.func (.func qCC) #[] #[],.func (.func qAC) #[] #[],.func (.func q1C) #[] #[],.func (.func q0C) #[] #[],.func (.func qFD) #[] #[],.func (.func qjD) #[] #[],.nilFunc,.nilFunc,.nilFunc,.nilFunc,.nilFunc,.nilFunc,.nilFunc,.func (.func qhC) #[] #[],.func (.func q2C) #[] #[],.func (.func q1D) #[] #[],.func (.func q0D) #[] #[]]
theorem qWB (g:GW):OkV Tryz.prog qxO [] g tabV :=
 Ok.of_fn hm noT 0 qmO (args:=[]) (by
  repeat((conv=>whnf);first|refine qz ?_|intro(_:Nat))
  conv=>whnf
  intro g2 hg
  rfl)
theorem qiV (g:GW) {w i:Int} (hw:InU w) (hi:InR i):OkV Tryz.prog qWP [.int .u64 w,.int .i64 i] g (.tuple #[.int .u64 (if qCB i then qXE w i else 0),.int .i64 (if qCB i then 0 else 1)]) :=
 Ok.of_fn hm noT 0 qKP (args:=[.v (.int .u64 w),.v (.int .i64 i)]) (by
  have h1:=Int.emod_nonneg (tagT w+1) (show(4294967296:Int)≠0 by decide)
  have h2:=Int.emod_lt_of_pos (tagT w+1) (show(0:Int)<4294967296 by decide)
  repeat((conv=>whnf);first|refine qz ?_|intro(_:Nat))
  conv=>whnf
  refine .inl ⟨_,qhV _ hw,?_⟩
  repeat((conv=>whnf);first|refine qz ?_|intro(_:Nat))
  conv=>whnf
  refine .inl ⟨_,(qKQ _ (t:=IntKind.u32.wrap (tagT w+1)) (i:=i) (by rw [IntKind.wrap_u32];exact⟨h1,h2⟩) hi),?_⟩
  repeat((conv=>whnf);first|refine qz ?_|intro(_:Nat))
  conv=>whnf
  intro g2 hg
  rw [IntKind.wrap_u32];rfl)
theorem qqP {c:Cluster} {t:Int} (h:c.health.length≤17592186044416):InR (qlE c t):=by
 by_cases hn:qEA c=[]
 ·have:qlE c t=0:=by simp [qlE,hn]
  rw [this];decide
 ·have:=qLV (t:=t) hn
  unfold InR;omega
theorem qaN {c:Cluster} {t:Int} (h:c.health.length≤17592186044416):InR (qwD c t):=qqP h
abbrev xW (bw bm:Nat):Value:=.agg ⟨[.pointer (some ⟨bw,0,none⟩),.pointer (some ⟨bm,0,none⟩)]⟩
theorem qAB (g:GW) {bw bm:Nat} {t a c v:Int} (h1:Rc g ⟨bm,10,none⟩ (.int .i64 t)):OkV Tryz.prog qqI [xW bw bm,.int .i64 a,.int .i64 c,.int .i64 v] g (.agg ⟨(⟨t,0,a,c,-1,false,v,false,false,false,ans0⟩:Ev).cs⟩) :=
 Ok.of_fn hm noT 0 qTI (args:=[.v (xW bw bm),.v (.int .i64 a),.v (.int .i64 c),.v (.int .i64 v)]) (by
  repeat((conv=>whnf);first|refine qz ?_|intro(_:Nat))
  conv=>whnf
  refine⟨_,h1,?_⟩
  repeat((conv=>whnf);first|refine qz ?_|intro(_:Nat))
  conv=>whnf
  intro g2 hg
  rfl)
theorem qVE (g:GW) {bw bm:Nat} {t i a c v:Int} {av:Addr} {nv cv:Nat} {q1 q2 q3 q4:Value} {fr:Bool} (h1:Rc g ⟨bm,10,none⟩ (.int .i64 t)) (h2:Rc g ⟨bm,13,none⟩ (.int .i64 i)) (h3:Rc g ⟨bw,4,none⟩ (.slice (some av) nv cv)) (hi:0≤i∧i<nv) (hv:Rcs g (av.add (i.toNat*5)) [q1,q2,q3,q4,.bool fr]):OkV Tryz.prog qcL [xW bw bm,.int .i64 a,.int .i64 c,.int .i64 v] g (.agg ⟨(⟨t,0,a,c,i,fr,v,false,false,false,ans0⟩:Ev).cs⟩) :=
 Ok.of_fn hm noT 0 qAL (args:=[.v (xW bw bm),.v (.int .i64 a),.v (.int .i64 c),.v (.int .i64 v)]) (by
  repeat'((conv=>whnf);first|apply qza|apply qzb|apply qzc|apply qzd|apply qze|intro(_:Nat)|refine .inl ⟨_,qAB _ h1,?_⟩|refine⟨_,h2,?_⟩|refine⟨_,h3,?_⟩|refine⟨_,rfl,hi,?_⟩|refine⟨_,hv 4 _ rfl,?_⟩|refine And.intro ?_ ?_|fail)
  all_goals (conv=>whnf)
  all_goals (first|exact Eq.refl _|(intro g2 hg;rfl)))
theorem q5N (g:GW) {bw bm:Nat} {i j:Int} {av ag:Addr} {nv cv ng cg:Nat} {q1 q2 q3 q5:Value} (h2:Rc g ⟨bm,13,none⟩ (.int .i64 i)) (h4:Rc g ⟨bm,15,none⟩ (.int .i64 j)) (h3:Rc g ⟨bw,4,none⟩ (.slice (some av) nv cv)) (hi:0≤i∧i<nv) (hv:Rcs g (av.add (i.toNat*5)) [q1,q2,q3,.slice (some ag) ng cg,q5]) (hj:0≤j∧j<ng):OkV Tryz.prog qrI [xW bw bm] g (.pointer (some (ag.add (j.toNat*2)))) :=
 Ok.of_fn hm noT 0 qVI (args:=[.v (xW bw bm)]) (by
  repeat'((conv=>whnf);first|apply qza|apply qzb|apply qzc|apply qzd|apply qze|intro(_:Nat)|refine⟨_,h2,?_⟩|refine⟨_,h3,?_⟩|refine⟨_,h4,?_⟩|refine⟨_,rfl,hi,?_⟩|refine⟨_,hv 3 _ rfl,?_⟩|refine⟨_,rfl,hj,?_⟩|refine And.intro ?_ ?_|fail)
  all_goals (conv=>whnf)
  all_goals (first|exact Eq.refl _|(intro g2 hg;rfl)))
theorem q3F (g:GW) {bw bm:Nat} {i j:Int} {av ak:Addr} {nv cv nk ck:Nat} {q1 q2 q4 q5:Value} {nm:BA} {po sl:Int} {oh:Option Addr} {nh ch:Nat} (h2:Rc g ⟨bm,13,none⟩ (.int .i64 i)) (h4:Rc g ⟨bm,15,none⟩ (.int .i64 j)) (h3:Rc g ⟨bw,4,none⟩ (.slice (some av) nv cv)) (hi:0≤i∧i<nv) (hv:Rcs g (av.add (i.toNat*5)) [q1,q2,.slice (some ak) nk ck,q4,q5]) (hj:0≤j∧j<nk) (hk:Rcs g (ak.add (j.toNat*4)) [.string nm,.int .i64 po,.int .i64 sl,.slice oh nh ch]):OkV Tryz.prog qsG [xW bw bm] g (.agg ⟨[.string nm,.int .i64 po,.int .i64 sl,.slice oh nh ch]⟩) :=
 Ok.of_fn hm noT 0 qhG (args:=[.v (xW bw bm)]) (by
  repeat'((conv=>whnf);first|apply qza|apply qzb|apply qzc|apply qzd|apply qze|intro(_:Nat)|refine⟨_,h2,?_⟩|refine⟨_,h3,?_⟩|refine⟨_,h4,?_⟩|refine⟨_,rfl,hi,?_⟩|refine⟨_,hv 2 _ rfl,?_⟩|refine⟨_,rfl,hj,?_⟩|refine⟨_,⟨rfl,hk⟩,?_⟩|refine And.intro ?_ ?_|fail)
  all_goals (conv=>whnf)
  all_goals (first|exact Eq.refl _|(intro g2 hg;rfl)))
theorem qXC (g:GW) {bw bm:Nat} {i j k:Int} {av ag ae:Addr} {nv cv ng cg ne ce:Nat} {q1 q2 q3 q5 tk:Value} (h2:Rc g ⟨bm,13,none⟩ (.int .i64 i)) (h4:Rc g ⟨bm,15,none⟩ (.int .i64 j)) (h5:Rc g ⟨bm,16,none⟩ (.int .i64 k)) (h3:Rc g ⟨bw,4,none⟩ (.slice (some av) nv cv)) (hi:0≤i∧i<nv) (hv:Rcs g (av.add (i.toNat*5)) [q1,q2,q3,.slice (some ag) ng cg,q5]) (hj:0≤j∧j<ng) (hg:Rcs g (ag.add (j.toNat*2)) [tk,.slice (some ae) ne ce]) (hk:0≤k∧k<ne):OkV Tryz.prog qdL [xW bw bm] g (.pointer (some (ae.add (k.toNat*3)))) :=
 Ok.of_fn hm noT 0 qBL (args:=[.v (xW bw bm)]) (by
  repeat'((conv=>whnf);first|apply qza|apply qzb|apply qzc|apply qzd|apply qze|intro(_:Nat)|refine .inl ⟨_,q5N _ h2 h4 h3 hi hv hj,?_⟩|refine⟨_,h5,?_⟩|refine⟨_,hg 1 _ rfl,?_⟩|refine⟨_,rfl,hk,?_⟩|refine And.intro ?_ ?_|fail)
  all_goals (conv=>whnf)
  all_goals (first|exact Eq.refl _|(intro g2 hg;rfl)))
/- Requests: the program's step,elsewhere. -/
open Go.Proofs.YthonngjhelcpeaaGreat.Sx Go.RowKit
theorem qDZ (g:GW) {cs ms:List Value} {w:Wd} {m:Mach} (hw:rWo g cs w) (hM:qfA g ms m) (hsn:SnW w) (hb:BgW 1000000 w) (hp:0≤m.pc∧m.pc<3):Ok Tryz.prog qPA [.agg ⟨cs⟩,.agg ⟨ms⟩] g (HaP w m):=by
 obtain⟨oa,ca,ob,cb,oc,cc,od,cd,oe,ce,o1,t1,o2,t2,o3,t3,rfl,rfl,hw0,hM0,⟨i1,i2,i3⟩,hP,hV,hL,hC,hR,⟨a1,a2,a0,hP1⟩,⟨b1,b2,b0,hV1⟩,⟨c1,c2,c0,hL1⟩,⟨d1,d2,d0,hC1⟩,⟨e1,e2,e0,hR1⟩,hok,hop,hcf⟩:=qoB hw hM
 exact Ok.of_fn hm qzD 5 qSA (args:=[.v (.agg ⟨wQ w oa ca ob cb oc cc od cd oe ce⟩),.v (.agg ⟨mQ m o1 t1 o2 t2 o3 t3⟩)]) (by
  repeat((conv=>whnf);first|refine qz ?_|intro(_:Nat))
  conv=>whnf
  refine dT (by omega) ?_
  repeat((conv=>whnf);first|refine qz ?_|intro(_:Nat))
  conv=>whnf
  refine dT (by omega) ?_
  repeat((conv=>whnf);first|refine qz ?_|intro(_:Nat))
  refine .inr ((qVY _ hw0 hM0 hsn hb).mono fun v4 g4 hg4 hO=>?_)
  obtain⟨cs4,ms4,rfl,hO,hO2⟩:=hO
  obtain⟨_,_,_,_,_,_,_,_,_,_,rfl⟩:=qMA hO
  obtain⟨_,_,_,_,_,_,rfl⟩:=q6A hO2
  repeat((conv=>whnf);first|refine qz ?_|intro(_:Nat))
  conv=>whnf
  intro g2 hg
  obtain⟨k1,k2,k3⟩:=qzT hp
  exact⟨_,_,by rw [k3],by rw [k1];exact qDA _ _ _ _ hg hO,by rw [k2];exact qXA _ _ _ _ hg hO2⟩)
theorem qEZ (g:GW) {cs ms:List Value} {w:Wd} {m:Mach} (hw:rWo g cs w) (hM:qfA g ms m) (hsn:SnW w) (hb:BgW 1000000 w) (hp:¬ (0≤m.pc∧m.pc<3)) (hgo:¬ hGo w m):Ok Tryz.prog qPA [.agg ⟨cs⟩,.agg ⟨ms⟩] g (HaP w m):=by
 obtain⟨oa,ca,ob,cb,oc,cc,od,cd,oe,ce,o1,t1,o2,t2,o3,t3,rfl,rfl,hw0,hM0,⟨i1,i2,i3⟩,hP,hV,hL,hC,hR,⟨a1,a2,a0,hP1⟩,⟨b1,b2,b0,hV1⟩,⟨c1,c2,c0,hL1⟩,⟨d1,d2,d0,hC1⟩,⟨e1,e2,e0,hR1⟩,hok,hop,hcf⟩:=qoB hw hM
 exact Ok.of_fn hm qzD 5 qSA (args:=[.v (.agg ⟨wQ w oa ca ob cb oc cc od cd oe ce⟩),.v (.agg ⟨mQ m o1 t1 o2 t2 o3 t3⟩)]) (by
  repeat((conv=>whnf);first|refine qz ?_|intro(_:Nat))
  have fin:∀ g2,g≤g2→∃ cs ms,Value.tuple #[.agg ⟨wQ w oa ca ob cb oc cc od cd oe ce⟩,.agg ⟨mQ m o1 t1 o2 t2 o3 t3⟩,.agg ⟨ev0.cs⟩]=.tuple #[.agg ⟨cs⟩,.agg ⟨ms⟩,.agg ⟨(hsE w m).cs⟩]∧rWo g2 cs (hsW w m)∧qfA g2 ms (hsM w m):=by
   intro g2 hg
   obtain⟨k1,k2,k3⟩:=qNX hgo
   exact⟨_,_,by rw [k3]<;>rfl,by rw [k1];exact qDA _ _ _ _ hg hw0,by rw [k2];exact qXA _ _ _ _ hg hM0⟩
  refine And.intro (fun z1=>?_) (fun z1=>?_)
  rotate_left
  ·have z1:=of_decide_eq_false z1
   repeat((conv=>whnf);first|refine qz ?_|intro(_:Nat))
   conv=>whnf
   refine dT (by omega) ?_
   repeat((conv=>whnf);first|refine qz ?_|intro(_:Nat))
   conv=>whnf
   refine fin
  have z1:=of_decide_eq_true z1
  repeat((conv=>whnf);first|refine qz ?_|intro(_:Nat))
  conv=>whnf
  refine dF (by omega) ?_
  repeat((conv=>whnf);first|refine qz ?_|intro(_:Nat))
  conv=>whnf
  refine dF (by omega) ?_
  repeat((conv=>whnf);first|refine qz ?_|intro(_:Nat))
  refine And.intro (fun z2=>?_) (fun z2=>?_)
  ·repeat((conv=>whnf);first|refine qz ?_|intro(_:Nat))
   conv=>whnf
   refine fin
  have z2:=of_decide_eq_false z2
  repeat((conv=>whnf);first|refine qz ?_|intro(_:Nat))
  conv=>whnf
  refine .inl ⟨_,q1A _ hw0 hM0 hsn hb,?_⟩
  repeat((conv=>whnf);first|refine qz ?_|intro(_:Nat))
  refine And.intro (fun z3=>?_) (fun z3=>?_)
  ·repeat((conv=>whnf);first|refine qz ?_|intro(_:Nat))
   conv=>whnf
   refine fin
  have hs:=nb0 z3
  repeat((conv=>whnf);first|refine qz ?_|intro(_:Nat))
  refine And.intro (fun z4=>?_) (fun z4=>?_)
  ·have z4:=of_decide_eq_true z4
   repeat((conv=>whnf);first|refine qz ?_|intro(_:Nat))
   refine And.intro (fun z5=>?_) (fun z5=>?_)
   ·repeat((conv=>whnf);first|refine qz ?_|intro(_:Nat))
    conv=>whnf
    refine fin
   have z5:=beqF z5
   repeat((conv=>whnf);first|refine qz ?_|intro(_:Nat))
   refine And.intro (fun z6=>?_) (fun z6=>?_)
   ·repeat((conv=>whnf);first|refine qz ?_|intro(_:Nat))
    conv=>whnf
    refine fin
   have z6:=beqF z6
   repeat((conv=>whnf);first|refine qz ?_|intro(_:Nat))
   refine And.intro (fun z7=>?_) (fun z7=>?_)
   ·repeat((conv=>whnf);first|refine qz ?_|intro(_:Nat))
    conv=>whnf
    refine fin
   have z7:=beqF z7
   have hpc:12<m.pc∧m.pc<20:=by
    apply Classical.byContradiction
    intro hx
    exact hgo ⟨hs,by omega,by omega⟩
   repeat((conv=>whnf);first|refine qz ?_|intro(_:Nat))
   conv=>whnf
   refine .inl ⟨_,qWB _,?_⟩
   repeat((conv=>whnf);first|refine qz ?_|intro(_:Nat))
   rcases(by omega:m.pc=13∨m.pc=14∨m.pc=15∨m.pc=16∨m.pc=17∨m.pc=18∨m.pc=19) with h|h|h|h|h|h|h
   ·conv=>whnf
    refine⟨13,⟨h,by decide⟩,?_⟩
    repeat((conv=>whnf);first|refine qz ?_|intro(_:Nat))
    conv=>whnf
    refine⟨fun _=>?_,fun h=>nomatch h⟩
    repeat((conv=>whnf);first|refine qz ?_|intro(_:Nat))
    conv=>whnf
    refine fin
   ·conv=>whnf
    refine⟨14,⟨h,by decide⟩,?_⟩
    repeat((conv=>whnf);first|refine qz ?_|intro(_:Nat))
    conv=>whnf
    refine⟨fun _=>?_,fun h=>nomatch h⟩
    repeat((conv=>whnf);first|refine qz ?_|intro(_:Nat))
    conv=>whnf
    refine fin
   ·conv=>whnf
    refine⟨15,⟨h,by decide⟩,?_⟩
    repeat((conv=>whnf);first|refine qz ?_|intro(_:Nat))
    conv=>whnf
    refine⟨fun _=>?_,fun h=>nomatch h⟩
    repeat((conv=>whnf);first|refine qz ?_|intro(_:Nat))
    conv=>whnf
    refine fin
   ·conv=>whnf
    refine⟨16,⟨h,by decide⟩,?_⟩
    repeat((conv=>whnf);first|refine qz ?_|intro(_:Nat))
    conv=>whnf
    refine⟨fun _=>?_,fun h=>nomatch h⟩
    repeat((conv=>whnf);first|refine qz ?_|intro(_:Nat))
    conv=>whnf
    refine fin
   ·conv=>whnf
    refine⟨17,⟨h,by decide⟩,?_⟩
    repeat((conv=>whnf);first|refine qz ?_|intro(_:Nat))
    conv=>whnf
    refine⟨fun _=>?_,fun h=>nomatch h⟩
    repeat((conv=>whnf);first|refine qz ?_|intro(_:Nat))
    conv=>whnf
    refine fin
   ·conv=>whnf
    refine⟨18,⟨h,by decide⟩,?_⟩
    repeat((conv=>whnf);first|refine qz ?_|intro(_:Nat))
    conv=>whnf
    refine⟨fun _=>?_,fun h=>nomatch h⟩
    repeat((conv=>whnf);first|refine qz ?_|intro(_:Nat))
    conv=>whnf
    refine fin
   ·conv=>whnf
    refine⟨19,⟨h,by decide⟩,?_⟩
    repeat((conv=>whnf);first|refine qz ?_|intro(_:Nat))
    conv=>whnf
    refine⟨fun _=>?_,fun h=>nomatch h⟩
    repeat((conv=>whnf);first|refine qz ?_|intro(_:Nat))
    conv=>whnf
    refine fin
  ·have z4:=of_decide_eq_false z4
   have hpc:12<m.pc∧m.pc<20:=by
    apply Classical.byContradiction
    intro hx
    exact hgo ⟨hs,by omega,by omega⟩
   repeat((conv=>whnf);first|refine qz ?_|intro(_:Nat))
   conv=>whnf
   refine .inl ⟨_,qWB _,?_⟩
   repeat((conv=>whnf);first|refine qz ?_|intro(_:Nat))
   rcases(by omega:m.pc=13∨m.pc=14∨m.pc=15∨m.pc=16∨m.pc=17∨m.pc=18∨m.pc=19) with h|h|h|h|h|h|h
   ·conv=>whnf
    refine⟨13,⟨h,by decide⟩,?_⟩
    repeat((conv=>whnf);first|refine qz ?_|intro(_:Nat))
    conv=>whnf
    refine⟨fun _=>?_,fun h=>nomatch h⟩
    repeat((conv=>whnf);first|refine qz ?_|intro(_:Nat))
    conv=>whnf
    refine fin
   ·conv=>whnf
    refine⟨14,⟨h,by decide⟩,?_⟩
    repeat((conv=>whnf);first|refine qz ?_|intro(_:Nat))
    conv=>whnf
    refine⟨fun _=>?_,fun h=>nomatch h⟩
    repeat((conv=>whnf);first|refine qz ?_|intro(_:Nat))
    conv=>whnf
    refine fin
   ·conv=>whnf
    refine⟨15,⟨h,by decide⟩,?_⟩
    repeat((conv=>whnf);first|refine qz ?_|intro(_:Nat))
    conv=>whnf
    refine⟨fun _=>?_,fun h=>nomatch h⟩
    repeat((conv=>whnf);first|refine qz ?_|intro(_:Nat))
    conv=>whnf
    refine fin
   ·conv=>whnf
    refine⟨16,⟨h,by decide⟩,?_⟩
    repeat((conv=>whnf);first|refine qz ?_|intro(_:Nat))
    conv=>whnf
    refine⟨fun _=>?_,fun h=>nomatch h⟩
    repeat((conv=>whnf);first|refine qz ?_|intro(_:Nat))
    conv=>whnf
    refine fin
   ·conv=>whnf
    refine⟨17,⟨h,by decide⟩,?_⟩
    repeat((conv=>whnf);first|refine qz ?_|intro(_:Nat))
    conv=>whnf
    refine⟨fun _=>?_,fun h=>nomatch h⟩
    repeat((conv=>whnf);first|refine qz ?_|intro(_:Nat))
    conv=>whnf
    refine fin
   ·conv=>whnf
    refine⟨18,⟨h,by decide⟩,?_⟩
    repeat((conv=>whnf);first|refine qz ?_|intro(_:Nat))
    conv=>whnf
    refine⟨fun _=>?_,fun h=>nomatch h⟩
    repeat((conv=>whnf);first|refine qz ?_|intro(_:Nat))
    conv=>whnf
    refine fin
   ·conv=>whnf
    refine⟨19,⟨h,by decide⟩,?_⟩
    repeat((conv=>whnf);first|refine qz ?_|intro(_:Nat))
    conv=>whnf
    refine⟨fun _=>?_,fun h=>nomatch h⟩
    repeat((conv=>whnf);first|refine qz ?_|intro(_:Nat))
    conv=>whnf
    refine fin)
/- Requests: the program's step,place 3. -/
open Go.Proofs.YthonngjhelcpeaaGreat.Sx Go.RowKit
theorem qLZ (g:GW) {cs ms:List Value} {w:Wd} {m:Mach} (hw:rWo g cs w) (hM:qfA g ms m) (hsn:SnW w) (hb:BgW 1000000 w) (hsz:SmO m) (hgo:hGo w m) (h0:m.pc=3):Ok Tryz.prog qPA [.agg ⟨cs⟩,.agg ⟨ms⟩] g (HaP w m):=by
 obtain⟨hW9,hM9,hE9⟩:=qQB hgo (by omega)
 obtain⟨kW,kM,kE⟩:=ha3 h0
 rw [kW] at hW9
 rw [kM] at hM9
 rw [kE] at hE9
 clear kW kM kE
 have hs:=hgo.1
 obtain⟨v,gr,en,hS⟩:=id (suitB_iff.1 hs)
 obtain⟨oa,ca,ob,cb,oc,cc,od,cd,oe,ce,o1,t1,o2,t2,o3,t3,rfl,rfl,hw0,hM0,⟨i1,i2,i3⟩,hP,hV,hL,hC,hR,⟨a1,a2,a0,hP1⟩,⟨b1,b2,b0,hV1⟩,⟨c1,c2,c0,hL1⟩,⟨d1,d2,d0,hC1⟩,⟨e1,e2,e0,hR1⟩,hok,hop,hcf⟩:=qoB hw hM
 exact Ok.of_fn hm qzD 5 qSA (args:=[.v (.agg ⟨wQ w oa ca ob cb oc cc od cd oe ce⟩),.v (.agg ⟨mQ m o1 t1 o2 t2 o3 t3⟩)]) (by
  repeat((conv=>whnf);first|refine qz ?_|intro(_:Nat))
  conv=>whnf
  refine dT (by omega) ?_
  repeat((conv=>whnf);first|refine qz ?_|intro(_:Nat))
  conv=>whnf
  refine dF (by omega) ?_
  repeat((conv=>whnf);first|refine qz ?_|intro(_:Nat))
  conv=>whnf
  refine dF (by omega) ?_
  repeat((conv=>whnf);first|refine qz ?_|intro(_:Nat))
  conv=>whnf
  refine dF (by omega) ?_
  repeat((conv=>whnf);first|refine qz ?_|intro(_:Nat))
  conv=>whnf
  refine .inl ⟨_,q1A _ hw0 hM0 hsn hb,?_⟩
  repeat((conv=>whnf);first|refine qz ?_|intro(_:Nat))
  conv=>whnf
  refine⟨fun hx=>absurd (hs.symm.trans (nb1 hx)) (by decide),fun _=>?_⟩
  repeat((conv=>whnf);first|refine qz ?_|intro(_:Nat))
  conv=>whnf
  refine⟨fun _=>?_,fun _=>?_⟩
  case' refine_1 =>
   repeat((conv=>whnf);first|refine qz ?_|intro(_:Nat))
   conv=>whnf
   refine⟨fun hx=>absurd hx (by simp [h0]),fun _=>?_⟩
   repeat((conv=>whnf);first|refine qz ?_|intro(_:Nat))
   conv=>whnf
   refine⟨fun hx=>absurd hx (by simp [h0]),fun _=>?_⟩
   repeat((conv=>whnf);first|refine qz ?_|intro(_:Nat))
   conv=>whnf
   refine⟨fun hx=>absurd hx (by simp [h0]),fun _=>?_⟩
  all_goals (
   repeat((conv=>whnf);first|refine qz ?_|intro(_:Nat))
   conv=>whnf
   refine .inl ⟨_,qWB _,?_⟩
   repeat((conv=>whnf);first|refine qz ?_|intro(_:Nat))
   conv=>whnf
   refine⟨3,⟨h0,by decide⟩,?_⟩
   repeat((conv=>whnf);first|refine qz ?_|intro(_:Nat))
   conv=>whnf
   refine⟨fun h=>(nomatch h),fun _=>?_⟩
   repeat((conv=>whnf);first|refine qz ?_|intro(_:Nat))
   refine .inr ((qBB _ hw0 hb).mono fun v g3 hg3 hO=>?_)
   obtain⟨cs,T,rfl,hT⟩:=hO
   have hF:=qTA hT
   obtain⟨oa',ca',ob',cb',oc',cc',od',cd',oe',ce',rfl⟩:=qMA hF
   unfold hM3 at hM9
   have hFl:=qwN hF
   have hpl:InR (qTB w.listens m.op.listen):=q7V (by have:=hb.1.2.2.1;omega)
   repeat((conv=>whnf);first|refine qz ?_|intro(_:Nat))
   conv=>whnf
   refine⟨qtE,?_⟩
   repeat'((conv=>whnf);first|apply qza|apply qzb|apply qzc|apply qzd|apply qze|intro(_:Nat)|refine⟨_,fun gp hle hin=>qAB gp (hin.cel (id:=6) rfl 10 rfl),?_⟩|refine .inl ⟨_,qML _ hFl _,?_⟩|refine And.intro ?_ ?_|fail)
   all_goals (try exact Eq.refl _)
   ·intro z
    rw [if_pos (of_decide_eq_true z)] at hM9
    repeat((conv=>whnf);first|refine qz ?_|intro(_:Nat))
    conv=>whnf
    intro g2 hg
    refine⟨_,_,by rw [hE9]<;>rfl,by rw [hW9];exact qDA _ _ _ _ hg hF,?_⟩
    rw [hM9]
    exact⟨_,_,_,rfl,{hok with version:=i2,cluster:=z0,end_:=z0,other:=z0,slot:=z0,listen:=hpl,pc:=show InR (20:Int) by decide,answer:=qxD (by decide)},hop,qCA _ _ _ _ (GW.trans hg3 hg) hcf⟩
   ·intro z
    rw [if_neg (of_decide_eq_false z)] at hM9
    repeat((conv=>whnf);first|refine qz ?_|intro(_:Nat))
    conv=>whnf
    intro g2 hg
    refine⟨_,_,by rw [hE9]<;>rfl,by rw [hW9];exact qDA _ _ _ _ hg hF,?_⟩
    rw [hM9]
    exact⟨_,_,_,rfl,{hok with version:=i2,cluster:=z0,end_:=z0,other:=z0,slot:=z0,listen:=hpl,pc:=show InR (4:Int) by decide},hop,qCA _ _ _ _ (GW.trans hg3 hg) hcf⟩))
/- Requests: the program's step,place 4. -/
open Go.Proofs.YthonngjhelcpeaaGreat.Sx Go.RowKit
theorem qKZ (g:GW) {cs ms:List Value} {w:Wd} {m:Mach} (hw:rWo g cs w) (hM:qfA g ms m) (hsn:SnW w) (hb:BgW 1000000 w) (hsz:SmO m) (hgo:hGo w m) (h0:m.pc=4):Ok Tryz.prog qPA [.agg ⟨cs⟩,.agg ⟨ms⟩] g (HaP w m):=by
 obtain⟨hW9,hM9,hE9⟩:=qQB hgo (by omega)
 obtain⟨kW,kM,kE⟩:=ha4 h0
 rw [kW] at hW9
 rw [kM] at hM9
 rw [kE] at hE9
 clear kW kM kE
 have hs:=hgo.1
 obtain⟨v,gr,en,hS⟩:=id (suitB_iff.1 hs)
 obtain⟨oa,ca,ob,cb,oc,cc,od,cd,oe,ce,o1,t1,o2,t2,o3,t3,rfl,rfl,hw0,hM0,⟨i1,i2,i3⟩,hP,hV,hL,hC,hR,⟨a1,a2,a0,hP1⟩,⟨b1,b2,b0,hV1⟩,⟨c1,c2,c0,hL1⟩,⟨d1,d2,d0,hC1⟩,⟨e1,e2,e0,hR1⟩,hok,hop,hcf⟩:=qoB hw hM
 exact Ok.of_fn hm qzD 5 qSA (args:=[.v (.agg ⟨wQ w oa ca ob cb oc cc od cd oe ce⟩),.v (.agg ⟨mQ m o1 t1 o2 t2 o3 t3⟩)]) (by
  repeat((conv=>whnf);first|refine qz ?_|intro(_:Nat))
  conv=>whnf
  refine dT (by omega) ?_
  repeat((conv=>whnf);first|refine qz ?_|intro(_:Nat))
  conv=>whnf
  refine dF (by omega) ?_
  repeat((conv=>whnf);first|refine qz ?_|intro(_:Nat))
  conv=>whnf
  refine dF (by omega) ?_
  repeat((conv=>whnf);first|refine qz ?_|intro(_:Nat))
  conv=>whnf
  refine dF (by omega) ?_
  repeat((conv=>whnf);first|refine qz ?_|intro(_:Nat))
  conv=>whnf
  refine .inl ⟨_,q1A _ hw0 hM0 hsn hb,?_⟩
  repeat((conv=>whnf);first|refine qz ?_|intro(_:Nat))
  conv=>whnf
  refine⟨fun hx=>absurd (hs.symm.trans (nb1 hx)) (by decide),fun _=>?_⟩
  repeat((conv=>whnf);first|refine qz ?_|intro(_:Nat))
  have hli:0≤m.listen:=by have:=hgo.2.2;omega
  conv=>whnf
  refine dF (by omega) ?_
  repeat((conv=>whnf);first|refine qz ?_|intro(_:Nat))
  repeat((conv=>whnf);first|refine qz ?_|intro(_:Nat))
  conv=>whnf
  refine .inl ⟨_,qWB _,?_⟩
  repeat((conv=>whnf);first|refine qz ?_|intro(_:Nat))
  conv=>whnf
  refine⟨4,⟨h0,by decide⟩,?_⟩
  repeat((conv=>whnf);first|refine qz ?_|intro(_:Nat))
  conv=>whnf
  refine⟨fun h=>(nomatch h),fun _=>?_⟩
  repeat((conv=>whnf);first|refine qz ?_|intro(_:Nat))
  refine .inr ((qBB _ hw0 hb).mono fun v g3 hg3 hO=>?_)
  obtain⟨cs,T,rfl,hT⟩:=hO
  have hF:=qTA hT
  obtain⟨oa',ca',ob',cb',oc',cc',od',cd',oe',ce',rfl⟩:=qMA hF
  obtain⟨x,hx⟩:=qAA (l:=w.listens) (i:=m.listen.toNat) (by have:=hS.listen;omega)
  have hmL:mL w m=x:=by unfold mL;rw [hx];rfl
  rw [hmL] at hW9 hE9
  have hli2:=hS.listen
  obtain⟨bk,cap,hv,rcl,b5,j5,bc,ty5,⟨hA,p1,p2,p3,p4⟩,_,hk5⟩:=qSQ hT hx (x':={x with active:=wI (x.active+1)}) (o:=2) (vs:=[.int .i64 (wI (x.active+1))]) (by simp) (by simp [Value.oneCell']) rfl (q4G _)
  cases hv
  obtain⟨hxa,hcl⟩:=qZF (qwN hF) hx
  repeat((conv=>whnf);first|refine qz ?_|intro(_:Nat))
  conv=>whnf
  refine⟨quI,?_⟩
  repeat((conv=>whnf);first|refine qz ?_|intro(_:Nat))
  conv=>whnf
  refine⟨_,rfl,⟨by omega,by omega⟩,?_⟩
  repeat((conv=>whnf);first|refine qz ?_|intro(_:Nat))
  conv=>whnf
  refine⟨_,hcl 2 _ rfl,?_⟩
  repeat((conv=>whnf);first|refine qz ?_|intro(_:Nat))
  conv=>whnf
  refine⟨b5,j5,bc,ty5,⟨hA,p1,p2,p3,p4⟩,?_⟩
  repeat((conv=>whnf);first|refine qz ?_|intro(_:Nat))
  conv=>whnf
  refine fun g6 u6=>?_
  have hFx:=qTA (hk5 g6 u6)
  have hle6:g≤g6:=u6.le hg3 (fun h=>by have:=g.wf _ h;omega)
  obtain⟨_,hcl'⟩:=qZF (qwN hFx) (i:=m.listen.toNat) (x:={x with active:=wI (x.active+1)}) (by simp only [List.getElem?_set];simp;omega)
  repeat((conv=>whnf);first|refine qz ?_|intro(_:Nat))
  conv=>whnf
  refine⟨_,hcl' 2 _ rfl,?_⟩
  repeat((conv=>whnf);first|refine qz ?_|intro(_:Nat))
  conv=>whnf
  refine⟨_,fun gp hle hin=>qAB gp (hin.2.2.1 10 _ rfl),?_⟩
  repeat((conv=>whnf);first|refine qz ?_|intro(_:Nat))
  conv=>whnf
  intro g2 hg
  refine⟨_,_,by rw [hE9];rfl,by rw [hW9];exact qDA _ _ _ _ hg hFx,?_⟩
  rw [hM9]
  exact⟨_,_,_,rfl,{hok with pc:=show InR (5:Int) by decide},hop,qCA _ _ _ _ (GW.trans hle6 hg) hcf⟩)
/- Requests: the program's step,place 5. -/
open Go.Proofs.YthonngjhelcpeaaGreat.Sx Go.RowKit
theorem qJZ (g:GW) {cs ms:List Value} {w:Wd} {m:Mach} (hw:rWo g cs w) (hM:qfA g ms m) (hsn:SnW w) (hb:BgW 1000000 w) (hsz:SmO m) (hgo:hGo w m) (h0:m.pc=5):Ok Tryz.prog qPA [.agg ⟨cs⟩,.agg ⟨ms⟩] g (HaP w m):=by
 obtain⟨hW9,hM9,hE9⟩:=qQB hgo (by omega)
 obtain⟨kW,kM,kE⟩:=ha5 h0
 rw [kW] at hW9
 rw [kM] at hM9
 rw [kE] at hE9
 clear kW kM kE
 have hs:=hgo.1
 obtain⟨v,gr,en,hS⟩:=id (suitB_iff.1 hs)
 obtain⟨oa,ca,ob,cb,oc,cc,od,cd,oe,ce,o1,t1,o2,t2,o3,t3,rfl,rfl,hw0,hM0,⟨i1,i2,i3⟩,hP,hV,hL,hC,hR,⟨a1,a2,a0,hP1⟩,⟨b1,b2,b0,hV1⟩,⟨c1,c2,c0,hL1⟩,⟨d1,d2,d0,hC1⟩,⟨e1,e2,e0,hR1⟩,hok,hop,hcf⟩:=qoB hw hM
 exact Ok.of_fn hm qzD 5 qSA (args:=[.v (.agg ⟨wQ w oa ca ob cb oc cc od cd oe ce⟩),.v (.agg ⟨mQ m o1 t1 o2 t2 o3 t3⟩)]) (by
  repeat((conv=>whnf);first|refine qz ?_|intro(_:Nat))
  conv=>whnf
  refine dT (by omega) ?_
  repeat((conv=>whnf);first|refine qz ?_|intro(_:Nat))
  conv=>whnf
  refine dF (by omega) ?_
  repeat((conv=>whnf);first|refine qz ?_|intro(_:Nat))
  conv=>whnf
  refine dF (by omega) ?_
  repeat((conv=>whnf);first|refine qz ?_|intro(_:Nat))
  conv=>whnf
  refine dF (by omega) ?_
  repeat((conv=>whnf);first|refine qz ?_|intro(_:Nat))
  conv=>whnf
  refine .inl ⟨_,q1A _ hw0 hM0 hsn hb,?_⟩
  repeat((conv=>whnf);first|refine qz ?_|intro(_:Nat))
  conv=>whnf
  refine⟨fun hx=>absurd (hs.symm.trans (nb1 hx)) (by decide),fun _=>?_⟩
  repeat((conv=>whnf);first|refine qz ?_|intro(_:Nat))
  have hli:0≤m.listen:=by have:=hgo.2.2;omega
  conv=>whnf
  refine dF (by omega) ?_
  repeat((conv=>whnf);first|refine qz ?_|intro(_:Nat))
  repeat((conv=>whnf);first|refine qz ?_|intro(_:Nat))
  conv=>whnf
  refine .inl ⟨_,qWB _,?_⟩
  repeat((conv=>whnf);first|refine qz ?_|intro(_:Nat))
  conv=>whnf
  refine⟨5,⟨h0,by decide⟩,?_⟩
  repeat((conv=>whnf);first|refine qz ?_|intro(_:Nat))
  conv=>whnf
  refine⟨fun h=>(nomatch h),fun _=>?_⟩
  repeat((conv=>whnf);first|refine qz ?_|intro(_:Nat))
  refine .inr ((qBB _ hw0 hb).mono fun v g3 hg3 hO=>?_)
  obtain⟨cs,T,rfl,hT⟩:=hO
  have hF:=qTA hT
  obtain⟨oa',ca',ob',cb',oc',cc',od',cd',oe',ce',rfl⟩:=qMA hF
  obtain⟨x,hx⟩:=qAA (l:=w.listens) (i:=m.listen.toNat) (by have:=hS.listen;omega)
  have hmL:mL w m=x:=by unfold mL;rw [hx];rfl
  have hli2:=hS.listen
  have hlj:0≤m.listen∧m.listen<w.listens.length:=by omega
  have hFl:=qwN hF
  obtain⟨al,rfl⟩:=qGA hFl hx
  obtain⟨hxa,hcl⟩:=qZF hFl hx
  unfold hM5 at hM9
  unfold hE5 at hE9
  rw [hmL] at hM9 hE9
  repeat((conv=>whnf);first|refine qz ?_|intro(_:Nat))
  conv=>whnf
  refine⟨qbF,?_⟩
  repeat'((conv=>whnf);first|apply qza|apply qzb|apply qzc|apply qzd|apply qze|intro(_:Nat)|refine⟨_,rfl,hlj,?_⟩|refine⟨_,hcl 1 _ rfl,?_⟩|fail)
  refine And.intro (fun z=>?_) (fun z=>?_)
  ·rw [if_pos z] at hM9 hE9
   repeat'((conv=>whnf);first|apply qza|apply qzb|apply qzc|apply qzd|apply qze|intro(_:Nat)|refine⟨_,fun gp hle hin=>qAB gp (hin.cel (id:=6) rfl 10 rfl),?_⟩|refine And.intro ?_ ?_|fail)
   all_goals (conv=>whnf)
   all_goals (first|exact Eq.refl _|(
   intro g2 hg
   refine⟨_,_,by rw [hE9]<;>rfl,by rw [hW9];exact qDA _ _ _ _ hg hF,?_⟩
   rw [hM9]
   exact⟨_,_,_,rfl,{hok with pc:=show InR (20:Int) by decide,answer:=qxD (by decide)},hop,qCA _ _ _ _ (GW.trans hg3 hg) hcf⟩))
  ·rw [if_neg (by rw [z];decide)] at hM9 hE9
   have hFv:=qvN hF
   obtain⟨av,rfl⟩:=qGA hFv hS.ver.2
   obtain⟨oL,cL,oR,cR,oC,cC,oG,cG,hcv,hsn3,hcK,hcG⟩:=qrC hFv hS.ver.2
   obtain⟨ag,rfl⟩:=qGA hcG hS.clu.2
   obtain⟨oE,cE,hcg,htk,hcE⟩:=q5C hcG hS.clu.2
   obtain⟨ae,rfl⟩:=qGA hcE hS.end_.2
   obtain⟨oN,cN,hce,hei,hcN⟩:=qmC hcE hS.end_.2
   obtain⟨hvi,hgi,hki⟩:=hS.idx
   obtain⟨hmV,hmG,hmE⟩:=hS.at_
   simp only [qEL,hmV] at hM9
   have hsv:=hsn v (List.mem_of_getElem? hS.ver.2)
   obtain⟨fc,fe,hfv,hfc⟩:=q4T v.snap m.op.listen m.op.host m.op.path
   have hfi:=(qaY g3 hsn3 m.op.listen m.op.host m.op.path ⟨fun r hr=>⟨by have:=(hsv.2 r hr).1;omega,by have:=(hsv.2 r hr).2;omega⟩,hsz⟩).to hfv
   have hcv3:=hcv.sub 0 3
   repeat'((conv=>whnf);first|apply qza|apply qzb|apply qzc|apply qzd|apply qze|intro(_:Nat)|refine⟨_,rfl,hvi,?_⟩|refine⟨_,⟨rfl,hcv3⟩,?_⟩|refine .inl ⟨_,hfi,?_⟩|fail)
   rcases hfc with ⟨rfl,hfo⟩|⟨hne,hfo⟩
   rotate_left
   ·refine And.intro (fun _=>?_) (fun hx=>absurd hx (by simpa using hne))
    simp only [hfo] at hM9
    repeat'((conv=>whnf);first|apply qza|apply qzb|apply qzc|apply qzd|apply qze|intro(_:Nat)|refine⟨_,fun gp hle hin=>qAB gp (hin.cel (id:=6) rfl 10 rfl),?_⟩|refine And.intro ?_ ?_|fail)
    all_goals (conv=>whnf)
    all_goals (first|exact Eq.refl _|(
    intro g2 hg
    refine⟨_,_,by rw [hE9]<;>rfl,by rw [hW9];exact qDA _ _ _ _ hg hF,?_⟩
    rw [hM9]
    exact⟨_,_,_,rfl,{hok with pc:=show InR (20:Int) by decide,answer:=qxD (by decide)},hop,qCA _ _ _ _ (GW.trans hg3 hg) hcf⟩))
   refine And.intro (fun hx=>absurd hx (by simp)) (fun _=>?_)
   have hVP:=qtD hS.right hS.ver.2
   have hfr:=qYN hVP.good hfo
   obtain⟨ck,hck⟩:=qAA (l:=v.snap.clusters) (i:=fc.toNat) (by omega)
   obtain⟨gk,hgk⟩:=qAA (l:=v.groups) (i:=fc.toNat) (by have:=hVP.len;omega)
   have hmC:mC w {m with cluster:=fc}=ck:=by unfold mC;rw [show mV w {m with cluster:=fc}=v from hmV];show(v.snap.clusters[fc.toNat]?).getD _=_;rw [hck];rfl
   simp only [hfo,hmC] at hM9
   obtain⟨ck',hck',he2,_,he4,_,_⟩:=hVP.ends hgk
   cases hck.symm.trans hck'
   have hszk:ck.health.length≤17592186044416:=by omega
   obtain⟨akk,rfl⟩:=qGA hcK hck
   obtain⟨_,_,hrc,hckc⟩:=qIL hcK hck
   obtain⟨vh,rfl,hpo,_,hh⟩:=id hrc
   obtain⟨oh,ch,rfl,_⟩:=id hh
   have hfcr:InR fc:=by have:=hVP.len;have:=hVP.groups;unfold InR;omega
   have hdw:=qbY g3 hrc hszk hop.2.1 hop.2.2.1
   by_cases hn:qEA ck=[]
   ·have hd5:=hdw.to (v':=.tuple #[.int .i64 (qwD ck m.op.d0),.int .i64 (qwD ck m.op.d1),.int .i64 5]) (by simp [hErr,hn])
    rw [if_pos hn] at hM9
    repeat'((conv=>whnf);first|apply qza|apply qzb|apply qzc|apply qzd|apply qze|intro(_:Nat)|refine⟨_,fun gp hle hin=>q3F gp (hin.cel (id:=6) rfl 13 rfl) (hin.cel (id:=6) rfl 15 rfl) (hin.cel (id:=5) rfl 4 rfl) hvi (hcv.mono hle) hfr (hckc.mono hle),?_⟩|refine .inl ⟨_,hd5,?_⟩|fail)
    conv=>whnf
    refine⟨fun _=>?_,fun h=>nomatch h⟩
    repeat'((conv=>whnf);first|apply qza|apply qzb|apply qzc|apply qzd|apply qze|intro(_:Nat)|refine⟨_,fun gp hle hin=>qAB gp (hin.cel (id:=6) rfl 10 rfl),?_⟩|refine And.intro ?_ ?_|fail)
    all_goals (conv=>whnf)
    all_goals (first|exact Eq.refl _|(
    intro g2 hg
    refine⟨_,_,by rw [hE9]<;>rfl,by rw [hW9];exact qDA _ _ _ _ hg hF,?_⟩
    rw [hM9]
    exact⟨_,_,_,rfl,{hok with cluster:=hfcr,pc:=show InR (20:Int) by decide,answer:=qxD (by decide)},hop,qCA _ _ _ _ (GW.trans hg3 hg) hcf⟩))
   ·have hd0:=hdw.to (v':=.tuple #[.int .i64 (qwD ck m.op.d0),.int .i64 (qwD ck m.op.d1),.int .i64 0]) (by simp [hErr,hn])
    rw [if_neg hn] at hM9
    repeat'((conv=>whnf);first|apply qza|apply qzb|apply qzc|apply qzd|apply qze|intro(_:Nat)|refine⟨_,fun gp hle hin=>q3F gp (hin.cel (id:=6) rfl 13 rfl) (hin.cel (id:=6) rfl 15 rfl) (hin.cel (id:=5) rfl 4 rfl) hvi (hcv.mono hle) hfr (hckc.mono hle),?_⟩|refine .inl ⟨_,hd0,?_⟩|fail)
    conv=>whnf
    refine⟨fun h=>(nomatch h),fun _=>?_⟩
    repeat'((conv=>whnf);first|apply qza|apply qzb|apply qzc|apply qzd|apply qze|intro(_:Nat)|refine⟨_,fun gp hle hin=>q3F gp (hin.cel (id:=6) rfl 13 rfl) (hin.cel (id:=6) rfl 15 rfl) (hin.cel (id:=5) rfl 4 rfl) hvi (hcv.mono hle) hfr (hckc.mono hle),?_⟩|fail)
    refine And.intro (fun z=>?_) (fun z=>?_)
    ·rw [if_pos (beqT z)] at hM9
     repeat'((conv=>whnf);first|apply qza|apply qzb|apply qzc|apply qzd|apply qze|intro(_:Nat)|refine⟨_,fun gp hle hin=>qAB gp (hin.cel (id:=6) rfl 10 rfl),?_⟩|refine And.intro ?_ ?_|fail)
     all_goals (conv=>whnf)
     all_goals (first|exact Eq.refl _|(
     intro g2 hg
     refine⟨_,_,by rw [hE9]<;>rfl,by rw [hW9];exact qDA _ _ _ _ hg hF,?_⟩
     rw [hM9]
     exact⟨_,_,_,rfl,{hok with cluster:=hfcr,pc:=show InR (6:Int) by decide},hop,qCA _ _ _ _ (GW.trans hg3 hg) hcf⟩))
    ·rw [if_neg (beqF z)] at hM9
     repeat'((conv=>whnf);first|apply qza|apply qzb|apply qzc|apply qzd|apply qze|intro(_:Nat)|refine⟨_,fun gp hle hin=>qAB gp (hin.cel (id:=6) rfl 10 rfl),?_⟩|refine And.intro ?_ ?_|fail)
     all_goals (conv=>whnf)
     all_goals (first|exact Eq.refl _|(
     intro g2 hg
     refine⟨_,_,by rw [hE9]<;>rfl,by rw [hW9];exact qDA _ _ _ _ hg hF,?_⟩
     rw [hM9]
     exact⟨_,_,_,rfl,{hok with cluster:=hfcr,end_:=qaN hszk,other:=qaN hszk,pc:=show InR (7:Int) by decide},hop,qCA _ _ _ _ (GW.trans hg3 hg) hcf⟩)))
/- Requests: the program's step,place 6. -/
open Go.Proofs.YthonngjhelcpeaaGreat.Sx Go.RowKit
theorem qIZ (g:GW) {cs ms:List Value} {w:Wd} {m:Mach} (hw:rWo g cs w) (hM:qfA g ms m) (hsn:SnW w) (hb:BgW 1000000 w) (hsz:SmO m) (hgo:hGo w m) (h0:m.pc=6):Ok Tryz.prog qPA [.agg ⟨cs⟩,.agg ⟨ms⟩] g (HaP w m):=by
 obtain⟨hW9,hM9,hE9⟩:=qQB hgo (by omega)
 obtain⟨kW,kM,kE⟩:=ha6 h0
 rw [kW] at hW9
 rw [kM] at hM9
 rw [kE] at hE9
 clear kW kM kE
 have hs:=hgo.1
 obtain⟨v,gr,en,hS⟩:=id (suitB_iff.1 hs)
 obtain⟨oa,ca,ob,cb,oc,cc,od,cd,oe,ce,o1,t1,o2,t2,o3,t3,rfl,rfl,hw0,hM0,⟨i1,i2,i3⟩,hP,hV,hL,hC,hR,⟨a1,a2,a0,hP1⟩,⟨b1,b2,b0,hV1⟩,⟨c1,c2,c0,hL1⟩,⟨d1,d2,d0,hC1⟩,⟨e1,e2,e0,hR1⟩,hok,hop,hcf⟩:=qoB hw hM
 exact Ok.of_fn hm qzD 5 qSA (args:=[.v (.agg ⟨wQ w oa ca ob cb oc cc od cd oe ce⟩),.v (.agg ⟨mQ m o1 t1 o2 t2 o3 t3⟩)]) (by
  repeat((conv=>whnf);first|refine qz ?_|intro(_:Nat))
  conv=>whnf
  refine dT (by omega) ?_
  repeat((conv=>whnf);first|refine qz ?_|intro(_:Nat))
  conv=>whnf
  refine dF (by omega) ?_
  repeat((conv=>whnf);first|refine qz ?_|intro(_:Nat))
  conv=>whnf
  refine dF (by omega) ?_
  repeat((conv=>whnf);first|refine qz ?_|intro(_:Nat))
  conv=>whnf
  refine dF (by omega) ?_
  repeat((conv=>whnf);first|refine qz ?_|intro(_:Nat))
  conv=>whnf
  refine .inl ⟨_,q1A _ hw0 hM0 hsn hb,?_⟩
  repeat((conv=>whnf);first|refine qz ?_|intro(_:Nat))
  conv=>whnf
  refine⟨fun hx=>absurd (hs.symm.trans (nb1 hx)) (by decide),fun _=>?_⟩
  repeat((conv=>whnf);first|refine qz ?_|intro(_:Nat))
  conv=>whnf
  refine⟨fun _=>?_,fun _=>?_⟩
  case' refine_1 =>
   repeat((conv=>whnf);first|refine qz ?_|intro(_:Nat))
   conv=>whnf
   refine⟨fun hx=>absurd hx (by simp [h0]),fun _=>?_⟩
   repeat((conv=>whnf);first|refine qz ?_|intro(_:Nat))
   conv=>whnf
   refine⟨fun hx=>absurd hx (by simp [h0]),fun _=>?_⟩
   repeat((conv=>whnf);first|refine qz ?_|intro(_:Nat))
   conv=>whnf
   refine⟨fun hx=>absurd hx (by simp [h0]),fun _=>?_⟩
  all_goals (
   repeat((conv=>whnf);first|refine qz ?_|intro(_:Nat))
   conv=>whnf
   refine .inl ⟨_,qWB _,?_⟩
   repeat((conv=>whnf);first|refine qz ?_|intro(_:Nat))
   conv=>whnf
   refine⟨6,⟨h0,by decide⟩,?_⟩
   repeat((conv=>whnf);first|refine qz ?_|intro(_:Nat))
   conv=>whnf
   refine⟨fun h=>(nomatch h),fun _=>?_⟩
   repeat((conv=>whnf);first|refine qz ?_|intro(_:Nat))
   refine .inr ((qBB _ hw0 hb).mono fun v g3 hg3 hO=>?_)
   obtain⟨cs,T,rfl,hT⟩:=hO
   have hF:=qTA hT
   obtain⟨oa',ca',ob',cb',oc',cc',od',cd',oe',ce',rfl⟩:=qMA hF
   obtain⟨b1,k1,b2,k2,va,vb,vd,vn,T2,hq,hcv,hcg,htk,hE2,hPT,_⟩:=qXM hT hS.ver.2 hS.clu.2
   cases hq
   have hei:=(qGP hF hS.ver.2 hS.clu.2 hS.end_.2).1
   obtain⟨b5,j5,bc,ty5,⟨hA,p1,p2,p3,p4⟩,_,hk5⟩:=hPT (wU (gr.ticket+1)) (q9Q _)
   obtain⟨hvi,hgi,hki⟩:=hS.idx
   obtain⟨hmV,hmG,hmE⟩:=hS.at_
   have hcl:=hS.cl
   rw [hmG] at hW9 hM9 hE9
   simp only [evV,hmV] at hW9 hE9
   repeat((conv=>whnf);first|refine qz ?_|intro(_:Nat))
   conv=>whnf
   refine⟨qfH,?_⟩
   repeat'((conv=>whnf);first|apply qza|apply qzb|apply qzc|apply qzd|apply qze|intro(_:Nat)|refine⟨_,fun gp hle hin=>q5N gp (hin.cel (id:=6) rfl 13 rfl) (hin.cel (id:=6) rfl 15 rfl) (hin.cel (id:=5) rfl 4 rfl) hvi (hcv.mono hle) hgi,?_⟩|refine⟨_,hcg 0 _ rfl,?_⟩|refine And.intro ?_ ?_|fail)
   conv=>whnf
   refine⟨b5,j5,bc,ty5,⟨by first|exact hA|(rw [← hA];rfl)|(rw [← hA,q0A]),p1,p2,p3,p4⟩,?_⟩
   repeat((conv=>whnf);first|refine qz ?_|intro(_:Nat))
   conv=>whnf
   refine fun g6 u6=>?_
   have hFx:=qTA (hk5 g6 u6)
   have hle6:g≤g6:=u6.le hg3 (fun h=>by have:=g.wf _ h;omega)
   have hcw:=u6.rd p2 p4
   rw [← hA] at hcw
   have hv6:=qGB (y:=({v with groups:=v.groups.set m.cluster.toNat ({gr with ticket:=wU (gr.ticket+1)}:Group)}:Version)) hS.ver.2
   have hx6:=qGB (y:=({gr with ticket:=wU (gr.ticket+1)}:Group)) hS.clu.2
   have hFv6:=qvN hFx
   obtain⟨oL6,cL6,oR6,cR6,oC6,cC6,oG6,cG6,hcv6,hsn6,hcK6,hcG6⟩:=qrC hFv6 hv6
   obtain⟨ag6,rfl⟩:=qGA hcG6 hx6
   obtain⟨oE6,cE6,hcg6,_,hcE6⟩:=q5C hcG6 hx6
   have hvi6:0≤m.version∧m.version<w.versions.length:=hvi
   have hgi6:0≤m.cluster∧m.cluster<((v.groups.set m.cluster.toNat ({gr with ticket:=wU (gr.ticket+1)}:Group)).length:Nat):=by simpa only [List.length_set] using hgi
   obtain⟨ak6,rfl⟩:=qGA hcK6 hcl.1
   obtain⟨_,_,hrc,hck6⟩:=qIL hcK6 hcl.1
   obtain⟨vh,rfl,_,_,hh⟩:=id hrc
   obtain⟨oh,ch,rfl,_⟩:=id hh
   have hkk:0≤m.cluster∧m.cluster<v.snap.clusters.length:=⟨hS.clu.1,by have:=(List.getElem?_eq_some_iff.1 hcl.1).1;omega⟩
   obtain⟨_,_,_,_,he4,_⟩:=(qtD hS.right hS.ver.2).ends hS.clu.2
   have hsz:(mC w m).health.length≤17592186044416:=by have:=hcl.2;omega
   repeat'((conv=>whnf);first|apply qza|apply qzb|apply qzc|apply qzd|apply qze|intro(_:Nat)|refine⟨_,fun gp hle hin=>q3F gp (hin.cel (id:=6) rfl 13 rfl) (hin.cel (id:=6) rfl 15 rfl) (hin.cel (id:=5) rfl 4 rfl) hvi6 (hcv6.mono hle) hkk (hck6.mono hle),?_⟩|refine .inl ⟨_,qUY _ hrc hsz htk,?_⟩|refine⟨_,fun gp hle hin=>qVE gp (hin.cel (id:=6) rfl 10 rfl) (hin.cel (id:=6) rfl 13 rfl) (hin.cel (id:=5) rfl 4 rfl) hvi6 (hcv6.mono hle),?_⟩|refine And.intro ?_ ?_|fail)
   all_goals (conv=>whnf)
   all_goals (first|exact Eq.refl _|(
   intro g2 hg
   refine⟨_,_,by rw [hE9]<;>rfl,by rw [hW9];exact qDA _ _ _ _ hg hFx,?_⟩
   rw [hM9]
   exact⟨_,_,_,rfl,{hok with end_:=qqP hsz,pc:=show InR (9:Int) by decide},hop,qCA _ _ _ _ (GW.trans hle6 hg) hcf⟩))))
end Go.Proofs.YthonngjhelcpeaaGreat
