/- Requests: the document's step, place 22. -/
import Derived.Test.YthonngjhelcpeaaGreatLW20p20
import Derived.Test.YthonngjhelcpeaaGreatLW20h
import Derived.Test.YthonngjhelcpeaaGreatLW20p7
import Derived.Test.YthonngjhelcpeaaGreatLW9zc
import Derived.Test.YthonngjhelcpeaaGreatLW20r9
import Derived.Test.YthonngjhelcpeaaGreatPl
import Derived.Test.YthonngjhelcpeaaGreatLS7d
import Derived.Test.YthonngjhelcpeaaGreatLW9i
set_option linter.unusedVariables false
set_option linter.unusedSimpArgs false
namespace Go.Proofs.YthonngjhelcpeaaGreat
open Go.Proofs.YthonngjhelcpeaaGreat.Sx Go.RowKit
set_option maxHeartbeats 16000000
set_option maxRecDepth 100000
theorem qKY (g:GW) {cs ms:List Value} {w:Wd} {m:Mach} (hw:rWo g cs w) (hM:qfA g ms m) (hsn:SnW w) (hb:BgW 1000000 w) (hsz:SmO m) (hgo:hGo w m) (h0:m.pc=22):Ok Tryz.prog qJA [.agg ⟨cs⟩,.agg ⟨ms⟩] g (HaP w m):=by
 obtain⟨hW9,hM9,hE9⟩:=qQB hgo (by omega)
 obtain⟨kW,kM,kE⟩:=ha22 h0
 rw [kW] at hW9
 rw [kM] at hM9
 rw [kE] at hE9
 clear kW kM kE
 have hs:=hgo.1
 obtain⟨v,gr,en,hS⟩:=id (suitB_iff.1 hs)
 obtain⟨oa,ca,ob,cb,oc,cc,od,cd,oe,ce,o1,t1,o2,t2,o3,t3,rfl,rfl,hw0,hM0,⟨i1,i2,i3⟩,hP,hV,hL,hC,hR,⟨a1,a2,a0,hP1⟩,⟨b1,b2,b0,hV1⟩,⟨c1,c2,c0,hL1⟩,⟨d1,d2,d0,hC1⟩,⟨e1,e2,e0,hR1⟩,hok,hop,hcf⟩:=qoB hw hM
 exact Ok.of_fn hm qyD 5 qLA (args:=[.v (.agg ⟨wQ w oa ca ob cb oc cc od cd oe ce⟩),.v (.agg ⟨mQ m o1 t1 o2 t2 o3 t3⟩)]) (by
  repeat((conv=>whnf);first|refine qz ?_|intro(_:Nat))
  conv=>whnf
  refine .inl ⟨_,qmA _ hw0 hM0 hsn hb,?_⟩
  repeat((conv=>whnf);first|refine qz ?_|intro(_:Nat))
  conv=>whnf
  refine⟨fun hx=>absurd (hs.symm.trans (nb1 hx)) (by decide),fun _=>?_⟩
  repeat((conv=>whnf);first|refine qz ?_|intro(_:Nat))
  conv=>whnf
  refine dF (by omega) ?_
  repeat((conv=>whnf);first|refine qz ?_|intro(_:Nat))
  conv=>whnf
  refine dF (by omega) ?_
  repeat((conv=>whnf);first|refine qz ?_|intro(_:Nat))
  conv=>whnf
  refine dT (by omega) ?_
  repeat((conv=>whnf);first|refine qz ?_|intro(_:Nat))
  conv=>whnf
  refine dF (by omega) ?_
  repeat((conv=>whnf);first|refine qz ?_|intro(_:Nat))
  have hli:0≤m.listen:=by have:=hgo.2.2;omega
  conv=>whnf
  refine dF (by omega) ?_
  repeat((conv=>whnf);first|refine qz ?_|intro(_:Nat))
  conv=>whnf
  refine dF (by omega) ?_
  repeat((conv=>whnf);first|refine qz ?_|intro(_:Nat))
  refine .inr ((qzA _ hw0 hb).mono fun v g3 hg3 hO=>?_)
  obtain⟨cs,T,rfl,hT⟩:=hO
  have hF:=qTA hT
  obtain⟨oa',ca',ob',cb',oc',cc',od',cd',oe',ce',rfl⟩:=qMA hF
  repeat((conv=>whnf);first|refine qz ?_|intro(_:Nat))
  conv=>whnf
  refine dF (by omega) ?_
  repeat((conv=>whnf);first|refine qz ?_|intro(_:Nat))
  conv=>whnf
  refine dF (by omega) ?_
  repeat((conv=>whnf);first|refine qz ?_|intro(_:Nat))
  conv=>whnf
  refine dF (by omega) ?_
  repeat((conv=>whnf);first|refine qz ?_|intro(_:Nat))
  conv=>whnf
  refine⟨fun hx=>absurd hx (by simp [h0]),fun _=>?_⟩
  repeat((conv=>whnf);first|refine qz ?_|intro(_:Nat))
  conv=>whnf
  refine⟨fun hx=>absurd hx (by simp [h0]),fun _=>?_⟩
  repeat((conv=>whnf);first|refine qz ?_|intro(_:Nat))
  conv=>whnf
  refine⟨fun _=>?_,fun hx=>absurd hx (by simp [h0])⟩
  repeat((conv=>whnf);first|refine qz ?_|intro(_:Nat))
  obtain⟨x,hx⟩:=qAA (l:=w.listens) (i:=m.listen.toNat) (by have:=hS.listen;omega)
  have hmL:mL w m=x:=by unfold mL;rw [hx];rfl
  have hli2:=hS.listen
  have hlj:0≤m.listen∧m.listen<w.listens.length:=by omega
  obtain⟨al0,rfl⟩:=qGA hL hx
  obtain⟨hxa,hcl0⟩:=qZF hL hx
  rw [hmL] at hW9 hE9
  obtain⟨bk,cap,hv,rcl,b5,j5,bc,ty5,⟨hA,p1,p2,p3,p4⟩,_,hk5⟩:=qSQ hT hx (x':={x with active:=wI (x.active-1)}) (o:=2) (vs:=[.int .i64 (wI (x.active-1))]) (by simp) (by simp [Value.oneCell']) rfl (q4G _)
  cases hv
  obtain⟨_,hclc⟩:=qZF (qwN hF) hx
  repeat'((conv=>whnf);first|apply qza|apply qzb|apply qzc|apply qzd|apply qze|intro(_:Nat)|refine⟨_,rfl,hlj,?_⟩|refine⟨_,(hcl0.mono hg3) 2 _ rfl,?_⟩|refine⟨_,hclc 2 _ rfl,?_⟩|refine And.intro ?_ ?_|fail)
  conv=>whnf
  refine⟨b5,j5,bc,ty5,⟨by first|exact hA|(rw [← hA];rfl)|(rw [← hA,q0A]),p1,p2,p3,p4⟩,?_⟩
  repeat((conv=>whnf);first|refine qz ?_|intro(_:Nat))
  conv=>whnf
  refine fun g6 u6=>?_
  have hFx:=qTA (hk5 g6 u6)
  have hle6:g≤g6:=u6.le hg3 (fun h=>by have:=g.wf _ h;omega)
  have hcw:=u6.rd p2 p4
  rw [← hA] at hcw
  obtain⟨_,hcl'⟩:=qZF (qwN hFx) (i:=m.listen.toNat) (x:={x with active:=wI (x.active-1)}) (by simp only [List.getElem?_set];simp;omega)
  repeat'((conv=>whnf);first|apply qza|apply qzb|apply qzc|apply qzd|apply qze|intro(_:Nat)|refine⟨_,rfl,hlj,?_⟩|refine⟨_,hcl' 2 _ rfl,?_⟩|refine .inl ⟨_,qwC _ {m with pc:=23} 3 5 _,?_⟩|refine And.intro ?_ ?_|fail)
  all_goals (conv=>whnf)
  all_goals (first|exact Eq.refl _|(
  intro g2 hg
  refine⟨_,_,by rw [hE9]<;>rfl,by rw [hW9];exact qDA _ _ _ _ hg hFx,?_⟩
  rw [hM9]
  exact⟨_,_,_,rfl,{hok with pc:=show InR (23:Int) by decide},hop,qCA _ _ _ _ (GW.trans hle6 hg) hcf⟩)))
/- Requests: the document's step,place 23. -/
open Go.Proofs.YthonngjhelcpeaaGreat.Sx Go.RowKit
theorem qJY (g:GW) {cs ms:List Value} {w:Wd} {m:Mach} (hw:rWo g cs w) (hM:qfA g ms m) (hsn:SnW w) (hb:BgW 1000000 w) (hsz:SmO m) (hgo:hGo w m) (h0:m.pc=23):Ok Tryz.prog qJA [.agg ⟨cs⟩,.agg ⟨ms⟩] g (HaP w m):=by
 obtain⟨hW9,hM9,hE9⟩:=qQB hgo (by omega)
 obtain⟨kW,kM,kE⟩:=ha23 h0
 rw [kW] at hW9
 rw [kM] at hM9
 rw [kE] at hE9
 clear kW kM kE
 have hs:=hgo.1
 obtain⟨v,gr,en,hS⟩:=id (suitB_iff.1 hs)
 obtain⟨oa,ca,ob,cb,oc,cc,od,cd,oe,ce,o1,t1,o2,t2,o3,t3,rfl,rfl,hw0,hM0,⟨i1,i2,i3⟩,hP,hV,hL,hC,hR,⟨a1,a2,a0,hP1⟩,⟨b1,b2,b0,hV1⟩,⟨c1,c2,c0,hL1⟩,⟨d1,d2,d0,hC1⟩,⟨e1,e2,e0,hR1⟩,hok,hop,hcf⟩:=qoB hw hM
 exact Ok.of_fn hm qyD 5 qLA (args:=[.v (.agg ⟨wQ w oa ca ob cb oc cc od cd oe ce⟩),.v (.agg ⟨mQ m o1 t1 o2 t2 o3 t3⟩)]) (by
  repeat((conv=>whnf);first|refine qz ?_|intro(_:Nat))
  conv=>whnf
  refine .inl ⟨_,qmA _ hw0 hM0 hsn hb,?_⟩
  repeat((conv=>whnf);first|refine qz ?_|intro(_:Nat))
  conv=>whnf
  refine⟨fun hx=>absurd (hs.symm.trans (nb1 hx)) (by decide),fun _=>?_⟩
  repeat((conv=>whnf);first|refine qz ?_|intro(_:Nat))
  conv=>whnf
  refine dF (by omega) ?_
  repeat((conv=>whnf);first|refine qz ?_|intro(_:Nat))
  conv=>whnf
  refine dF (by omega) ?_
  repeat((conv=>whnf);first|refine qz ?_|intro(_:Nat))
  conv=>whnf
  refine dT (by omega) ?_
  repeat((conv=>whnf);first|refine qz ?_|intro(_:Nat))
  conv=>whnf
  refine dF (by omega) ?_
  repeat((conv=>whnf);first|refine qz ?_|intro(_:Nat))
  conv=>whnf
  refine⟨fun _=>?_,fun _=>?_⟩
  case' refine_1 =>
   repeat((conv=>whnf);first|refine qz ?_|intro(_:Nat))
   conv=>whnf
   refine⟨fun hx=>absurd hx (by simp [h0]),fun _=>?_⟩
   repeat((conv=>whnf);first|refine qz ?_|intro(_:Nat))
   conv=>whnf
   refine⟨fun hx=>absurd hx (by simp [h0]),fun _=>?_⟩
   repeat((conv=>whnf);first|refine qz ?_|intro(_:Nat))
   conv=>whnf
   refine⟨fun hx=>absurd hx (by simp [h0]),fun _=>?_⟩
  all_goals (
   repeat((conv=>whnf);first|refine qz ?_|intro(_:Nat))
   conv=>whnf
   refine dF (by omega) ?_
   repeat((conv=>whnf);first|refine qz ?_|intro(_:Nat))
   refine .inr ((qzA _ hw0 hb).mono fun v g3 hg3 hO=>?_)
   obtain⟨cs,T,rfl,hT⟩:=hO
   have hF:=qTA hT
   obtain⟨oa',ca',ob',cb',oc',cc',od',cd',oe',ce',rfl⟩:=qMA hF
   repeat((conv=>whnf);first|refine qz ?_|intro(_:Nat))
   conv=>whnf
   refine dF (by omega) ?_
   repeat((conv=>whnf);first|refine qz ?_|intro(_:Nat))
   conv=>whnf
   refine dF (by omega) ?_
   repeat((conv=>whnf);first|refine qz ?_|intro(_:Nat))
   conv=>whnf
   refine dF (by omega) ?_
   repeat((conv=>whnf);first|refine qz ?_|intro(_:Nat))
   conv=>whnf
   refine⟨fun hx=>absurd hx (by simp [h0]),fun _=>?_⟩
   repeat((conv=>whnf);first|refine qz ?_|intro(_:Nat))
   conv=>whnf
   refine⟨fun hx=>absurd hx (by simp [h0]),fun _=>?_⟩
   repeat((conv=>whnf);first|refine qz ?_|intro(_:Nat))
   conv=>whnf
   refine⟨fun hx=>absurd hx (by simp [h0]),fun _=>?_⟩
   repeat((conv=>whnf);first|refine qz ?_|intro(_:Nat))
   refine .inr ((q7X _ (qDA _ _ _ _ hg3 hw0) (qXA _ _ _ _ hg3 hM0) hsn hb).mono fun v4 g4 hg4 hO=>?_)
   obtain⟨cs4,rfl,hO⟩:=hO
   obtain⟨_,_,_,_,_,_,_,_,_,_,rfl⟩:=qMA hO
   repeat'((conv=>whnf);first|apply qza|apply qzb|apply qzc|apply qzd|apply qze|intro(_:Nat)|refine And.intro ?_ ?_|fail)
   all_goals (conv=>whnf)
   all_goals (first|exact Eq.refl _|(
   intro g2 hg
   refine⟨_,_,by rw [hE9]<;>rfl,by rw [hW9];exact qDA _ _ _ _ hg hO,?_⟩
   rw [hM9]
   exact⟨_,_,_,rfl,{hok with},hop,qCA _ _ _ _ (GW.trans (GW.trans hg3 hg4) hg) hcf⟩))))
/- Requests: a step,at any place: the program's and the document's. -/
open Go.Proofs.YthonngjhelcpeaaGreat.Sx Go.RowKit
theorem q9V {m:Mach} (h:0≤m.pc∧m.pc≤23∧¬ (12<m.pc∧m.pc<20)) (h3:¬ m.pc<3):m.pc=3∨m.pc=4∨m.pc=5∨m.pc=6∨m.pc=7∨m.pc=8∨m.pc=9∨m.pc=10∨m.pc=11∨m.pc=12∨m.pc=20∨m.pc=21∨m.pc=22∨m.pc=23:=by omega
theorem qsT (g:GW) {cs ms:List Value} {w:Wd} {m:Mach} (hw:rWo g cs w) (hM:qfA g ms m) (hsn:SnW w) (hb:BgW 1000000 w) (hsz:SmO m):Ok Tryz.prog qPA [.agg ⟨cs⟩,.agg ⟨ms⟩] g (HaP w m):=by
 by_cases hp:0≤m.pc∧m.pc<3
 ·exact qDZ g hw hM hsn hb hp
 ·by_cases hgo:hGo w m
  ·rcases q9V hgo.2.1 (by have:=hgo.2.1;omega) with h|h|h|h|h|h|h|h|h|h|h|h|h|h
   ·exact qLZ g hw hM hsn hb hsz hgo h
   ·exact qKZ g hw hM hsn hb hsz hgo h
   ·exact qJZ g hw hM hsn hb hsz hgo h
   ·exact qIZ g hw hM hsn hb hsz hgo h
   ·exact qHZ g hw hM hsn hb hsz hgo h
   ·exact qGZ g hw hM hsn hb hsz hgo h
   ·exact qFZ g hw hM hsn hb hsz hgo h
   ·exact qIY g hw hM hsn hb hsz hgo h
   ·exact qHY g hw hM hsn hb hsz hgo h
   ·exact qGY g hw hM hsn hb hsz hgo h
   ·exact qFY g hw hM hsn hb hsz hgo h
   ·exact qEY g hw hM hsn hb hsz hgo h
   ·exact qDY g hw hM hsn hb hsz hgo h
   ·exact qCY g hw hM hsn hb hsz hgo h
  ·exact qEZ g hw hM hsn hb hp hgo
theorem qoV (g:GW) {cs ms:List Value} {w:Wd} {m:Mach} (hw:rWo g cs w) (hM:qfA g ms m) (hsn:SnW w) (hb:BgW 1000000 w) (hsz:SmO m):Ok Tryz.prog qJA [.agg ⟨cs⟩,.agg ⟨ms⟩] g (HaP w m):=by
 by_cases hgo:hGo w m
 ·by_cases hp:m.pc<3
  ·exact qMZ g hw hM hsn hb ⟨hgo.2.1.1,hp⟩ hgo.1
  ·rcases q9V hgo.2.1 hp with h|h|h|h|h|h|h|h|h|h|h|h|h|h
   ·exact qUZ g hw hM hsn hb hsz hgo h
   ·exact qTZ g hw hM hsn hb hsz hgo h
   ·exact qSZ g hw hM hsn hb hsz hgo h
   ·exact qRZ g hw hM hsn hb hsz hgo h
   ·exact qQZ g hw hM hsn hb hsz hgo h
   ·exact qPZ g hw hM hsn hb hsz hgo h
   ·exact qOZ g hw hM hsn hb hsz hgo h
   ·exact qPY g hw hM hsn hb hsz hgo h
   ·exact qOY g hw hM hsn hb hsz hgo h
   ·exact qNY g hw hM hsn hb hsz hgo h
   ·exact qMY g hw hM hsn hb hsz hgo h
   ·exact qLY g hw hM hsn hb hsz hgo h
   ·exact qKY g hw hM hsn hb hsz hgo h
   ·exact qJY g hw hM hsn hb hsz hgo h
 ·exact qNZ g hw hM hsn hb hgo
/- Requests: with nobody in between. -/
open Go.Proofs.YthonngjhelcpeaaGreat.Sx Go.RowKit
structure HaSt where
 j:Nat
 g:GW
 w:Wd
 oa:Option Addr
 ca:Nat
 ob:Option Addr
 cb:Nat
 oc:Option Addr
 cc:Nat
 od:Option Addr
 cd:Nat
 oe:Option Addr
 ce:Nat
 m:Mach
 o1:Option Addr
 t1:Nat
 o2:Option Addr
 t2:Nat
 o3:Option Addr
 t3:Nat
abbrev HaSt.wc (x:HaSt):List Value:=[.int .i64 x.w.epoch,.int .i64 x.w.current,.int .i64 x.w.lock,.slice x.oa x.w.pins.length x.ca,.slice x.ob x.w.versions.length x.cb,.slice x.oc x.w.listens.length x.cc,.slice x.od x.w.counts.length x.cd,.slice x.oe x.w.limbo.length x.ce]
abbrev HaSt.mc (x:HaSt):List Value:=x.m.cs (.slice x.o1 x.m.op.config.listens.length x.t1) (.slice x.o2 x.m.op.config.routes.length x.t2) (.slice x.o3 x.m.op.config.clusters.length x.t3)
theorem qcW {K:Nat} {w w':Wd} (h:SnW w) (k:KeptW K w w'):SnW w':=fun v hv=>by
 obtain⟨u,hu,e⟩:=k.2 v hv
 rw [← e];exact h u hu
abbrev AlP (x:Wd) (n:Mach) (k:Nat) (v:Value) (g':GW):Prop:=∃ cs ms,v=.tuple #[.agg ⟨cs⟩,.agg ⟨ms⟩,.int .i64 k]∧rWo g' cs x∧qfA g' ms n
theorem qWN (g:GW) {cs ms:List Value} {w x:Wd} {m n:Mach} {k:Nat} (hw:rWo g cs w) (hM:qfA g ms m) (hsn:SnW w) (hb:BgW 1000000 w) (hsz:SmO m) (hway:HWay k w m x n) (hd:n.done=true) (hk:k<40):Ok Tryz.prog qoI [.agg ⟨cs⟩,.agg ⟨ms⟩] g (AlP x n k):=by
 obtain⟨oa,ca,ob,cb,oc,cc,od,cd,oe,ce,rfl⟩:=qMA hw
 obtain⟨o1,t1,o2,t2,o3,t3,rfl⟩:=q6A hM
 exact Ok.of_fn hm noT 0 qQI (args:=[.v (.agg ⟨wQ w oa ca ob cb oc cc od cd oe ce⟩),.v (.agg ⟨mQ m o1 t1 o2 t2 o3 t3⟩)]) (by
  repeat((conv=>whnf);first|refine qz ?_|intro(_:Nat))
  rename_i q0 q1 q2 q3
  repeat((conv=>whnf);first|refine qz ?_|intro(_:Nat))
  conv=>whnf
  refine⟨HaSt,fun x=>[.v (.int .i64 x.j)],fun y=>⟨y.g,[.blk 3 q3 qWD zl0,.blk 2 q2 qIA [.v (.int .i64 0),.v (.int .i64 0),.v (.int .i64 0),.v (.slice none 0 0),.v (.slice none 0 0),.v (.slice none 0 0),.v (.slice none 0 0),.v (.slice none 0 0)],.blk 1 q1 qWD (y.mc.map SV.v),.blk 0 q0 qIA (y.wc.map SV.v)],_,_⟩,fun y=>y.j≤k∧g≤y.g∧rWo y.g y.wc y.w∧qfA y.g y.mc y.m∧HWay (k-y.j) y.w y.m x n∧SnW y.w∧BgW 1000000 y.w∧SmO y.m,fun y=>k-y.j,qHA (⟨0,g,w,oa,ca,ob,cb,oc,cc,od,cd,oe,ce,m,o1,t1,o2,t2,o3,t3⟩:HaSt) rfl ⟨Nat.zero_le _,GW.refl _,hw,hM,hway,hsn,hb,hsz⟩ rfl,?_⟩
  clear hM hw hsn hb hsz hway
  intro y hy
  obtain⟨j,gx,w,oa,ca,ob,cb,oc,cc,od,cd,oe,ce,m,o1,t1,o2,t2,o3,t3⟩:=y
  obtain⟨hj,hxg,hxw,hxM,hway,hsn,hb,hsz⟩:=hy
  replace hj:j≤k:=hj
  replace hway:HWay (k-j) w m x n:=hway
  replace hb:BgW 1000000 w:=hb
  replace hsn:SnW w:=hsn
  replace hsz:SmO m:=hsz
  repeat((conv=>whnf);first|refine qz ?_|intro(_:Nat))
  conv=>whnf
  refine⟨fun _=>?_,fun hx=>absurd (of_decide_eq_false hx) (by show ¬ ¬ ((j:Int)<40);omega)⟩
  repeat((conv=>whnf);first|refine qz ?_|intro(_:Nat))
  refine .inr ((qsT _ hxw hxM hsn hb hsz).mono fun v g4 hg4 hO=>?_)
  obtain⟨csa,msa,rfl,hwa,hMa⟩:=hO
  obtain⟨r1,r2,r3,r4,r5,r6,r7,r8,r9,r10,rfl⟩:=qMA hwa
  obtain⟨s1,s2,s3,s4,s5,s6,rfl⟩:=q6A hMa
  by_cases hjk:j=k
  ·subst hjk
   rw [Nat.sub_self] at hway
   obtain⟨e1,e2⟩:=hway
   subst e1
   subst e2
   have hac:=q7U (w:=x) hd
   repeat((conv=>whnf);first|refine qz ?_|intro(_:Nat))
   conv=>whnf
   refine⟨fun _=>?_,fun hx=>absurd hac (beqF hx)⟩
   repeat'((conv=>whnf);first|apply qza|apply qzb|apply qzc|apply qzd|apply qze|intro(_:Nat)|refine And.intro ?_ ?_|fail)
   all_goals (conv=>whnf)
   all_goals (first|exact Eq.refl _|(
   intro g2 hg
   exact⟨_,_,rfl,qDA _ _ _ _ (GW.trans hg4 hg) hxw,qXA _ _ _ _ (GW.trans hg4 hg) hxM⟩))
  ·obtain⟨d,hdk⟩:∃ d,k-j=d+1:=⟨k-j-1,by omega⟩
   rw [hdk] at hway
   obtain⟨hac,hway⟩:=hway
   have hkp:=qOX (K:=1000000) (w:=w) (m:=m)
   repeat((conv=>whnf);first|refine qz ?_|intro(_:Nat))
   conv=>whnf
   refine⟨fun hx=>absurd (beqT hx) hac,fun _=>?_⟩
   repeat((conv=>whnf);first|refine qz ?_|intro(_:Nat))
   conv=>whnf
   refine fun fr u hu=>⟨⟨j+1,g4,hsW w m,r1,r2,r3,r4,r5,r6,r7,r8,r9,r10,hsM w m,s1,s2,s3,s4,s5,s6⟩,congrArg (fun z=>[Value.int .i64 z]) (show((j+1:Nat):Int)=IntKind.i64.wrap ((j:Int)+1) by rw [wr (x:=(j:Int)+1) (by unfold InR;omega)];omega),⟨by show j+1≤k;omega,GW.trans hxg hg4,hwa,hMa,by show HWay (k-(j+1)) _ _ _ _;rw [show k-(j+1)=d by omega];exact hway,qcW hsn hkp,hkp.1 hb,by show SmO (hsM w m);unfold SmO;rw [qmZ];exact hsz⟩,by show k-(j+1)<k-j;omega,?_⟩
   exact hu.fit (by simp [fitL,Res.eqv,qBA,conc]))
/- Counts: their sum. -/
open Go.Proofs.YthonngjhelcpeaaGreat.Sx Go.RowKit
theorem kn6 {k:Nat} (h:k<6):k=0∨k=1∨k=2∨k=3∨k=4∨k=5:=by omega
theorem qYZ (g:GW) {v:Value} {l:List (List Int)} (hl:rSl 1 rRow g v l) (h:qED l=true):OkV Tryz.prog qBT [v] g (.tuple #[.agg ⟨(qRF l (6*l.length)).cs⟩,.int .i64 0]):=by
 obtain⟨oa,ca,rfl,a1,a2,a0,hr⟩:=id hl
 have h6:∀ r∈l,r.length=6:=by
  unfold qED at h
  simp only [Bool.and_eq_true,List.all_eq_true,decide_eq_true_eq] at h
  exact h.1.1
 exact Ok.of_fn hm noT 0 qcS (args:=[.v (.slice oa l.length ca)]) (by
  repeat((conv=>whnf);first|refine qz ?_|intro(_:Nat))
  rename_i q2 q4
  conv=>whnf
  refine .inl ⟨_,(qfX _ hl).to (congrArg Value.bool h),?_⟩
  repeat((conv=>whnf);first|refine qz ?_|intro(_:Nat))
  conv=>whnf
  refine⟨fun h=>(nomatch h),fun _=>?_⟩
  repeat((conv=>whnf);first|refine qz ?_|intro(_:Nat))
  conv=>whnf
  refine⟨Nat,fun i=>[.v (.int .i64 i)],fun i=>⟨g,[.blk 1 q4 qOA ((qRF l (6*i)).cs.map SV.v),.blk 0 q2 qOA (c60.cs.map SV.v)],40,_⟩,fun i=>i≤l.length,fun i=>l.length-i,fun fr u hu=>⟨0,rfl,Nat.zero_le _,hu.fit (by simp [fitL,Res.eqv,qBA,conc,qRF,c60])⟩,?_⟩
  intro i hi
  repeat((conv=>whnf);first|refine qz ?_|intro(_:Nat))
  conv=>whnf
  refine⟨fun y1=>?_,fun y1=>?_⟩
  ·have hlt:i<l.length:=by have:=of_decide_eq_true y1;omega
   obtain⟨row,hrow⟩:=qAA hlt
   obtain⟨ad,rfl,ec,hec,⟨rv,rfl,hrv⟩,hcr⟩:=hr i row hrow
   obtain⟨ao,ac,rfl,r1,r2,r0,hr1⟩:=id hrv
   have hlen:=h6 row (List.mem_of_getElem? hrow)
   repeat((conv=>whnf);first|refine qz ?_|intro(_:Nat))
   conv=>whnf
   refine⟨_,rfl,⟨by omega,by omega⟩,?_⟩
   repeat((conv=>whnf);first|refine qz ?_|intro(_:Nat))
   conv=>whnf
   refine⟨_,hcr 0 _ rfl,?_⟩
   repeat((conv=>whnf);first|refine qz ?_|intro(_:Nat))
   conv=>whnf
   refine⟨Nat,fun k=>[.v (.int .i64 k)],fun k=>⟨g,[.blk 1 q4 qOA ((qRF l (6*i+k)).cs.map SV.v),.blk 0 q2 qOA (c60.cs.map SV.v)],40,_⟩,fun k=>k≤6,fun k=>6-k,qHA 0 rfl (Nat.zero_le _) rfl,?_⟩
   intro k hk
   repeat((conv=>whnf);first|refine qz ?_|intro(_:Nat))
   conv=>whnf
   refine⟨fun y2=>?_,fun y2=>?_⟩
   ·have hk6:k<6:=by have:=of_decide_eq_true y2;omega
    obtain⟨x,hx⟩:=qAA (l:=row) (i:=k) (by omega)
    obtain⟨ar,rfl,ec2,hec2,⟨rfl,hxu⟩,hcx⟩:=hr1 k x hx
    have hcell:q9L l i k=x:=by unfold q9L;rw [hrow];show(row[k]?).getD 0=x;rw [hx];rfl
    replace hcx:=hcx 0 _ rfl
    rcases kn6 hk6 with rfl|rfl|rfl|rfl|rfl|rfl
    ·repeat((conv=>whnf);first|refine qz ?_|intro(_:Nat))
     conv=>whnf
     refine⟨0,⟨rfl,by decide⟩,?_⟩
     repeat((conv=>whnf);first|refine qz ?_|intro(_:Nat))
     conv=>whnf
     refine⟨_,rfl,⟨by omega,by omega⟩,?_⟩
     repeat((conv=>whnf);first|refine qz ?_|intro(_:Nat))
     conv=>whnf
     refine⟨_,hcx,?_⟩
     repeat((conv=>whnf);first|refine qz ?_|intro(_:Nat))
     conv=>whnf
     refine⟨0,⟨rfl,by decide⟩,?_⟩
     repeat((conv=>whnf);first|refine qz ?_|intro(_:Nat))
     conv=>whnf
     refine fun fr u hu=>⟨1,rfl,by decide,by decide,hu.fit (by have hst:=qLE l (i:=i) (k:=0) (by decide);rw [hcell] at hst;show fitL _ [.blk 1 q4 qOA ((qRF l (6*i+0+1)).cs.map SV.v),.blk 0 q2 qOA (c60.cs.map SV.v)];rw [hst];simp [fitL,Res.eqv,qBA,conc,C6.set,C6.get])⟩
    ·repeat((conv=>whnf);first|refine qz ?_|intro(_:Nat))
     conv=>whnf
     refine⟨1,⟨rfl,by decide⟩,?_⟩
     repeat((conv=>whnf);first|refine qz ?_|intro(_:Nat))
     conv=>whnf
     refine⟨_,rfl,⟨by omega,by omega⟩,?_⟩
     repeat((conv=>whnf);first|refine qz ?_|intro(_:Nat))
     conv=>whnf
     refine⟨_,hcx,?_⟩
     repeat((conv=>whnf);first|refine qz ?_|intro(_:Nat))
     conv=>whnf
     refine⟨1,⟨rfl,by decide⟩,?_⟩
     repeat((conv=>whnf);first|refine qz ?_|intro(_:Nat))
     conv=>whnf
     refine fun fr u hu=>⟨2,rfl,by decide,by decide,hu.fit (by have hst:=qLE l (i:=i) (k:=1) (by decide);rw [hcell] at hst;show fitL _ [.blk 1 q4 qOA ((qRF l (6*i+1+1)).cs.map SV.v),.blk 0 q2 qOA (c60.cs.map SV.v)];rw [hst];simp [fitL,Res.eqv,qBA,conc,C6.set,C6.get])⟩
    ·repeat((conv=>whnf);first|refine qz ?_|intro(_:Nat))
     conv=>whnf
     refine⟨2,⟨rfl,by decide⟩,?_⟩
     repeat((conv=>whnf);first|refine qz ?_|intro(_:Nat))
     conv=>whnf
     refine⟨_,rfl,⟨by omega,by omega⟩,?_⟩
     repeat((conv=>whnf);first|refine qz ?_|intro(_:Nat))
     conv=>whnf
     refine⟨_,hcx,?_⟩
     repeat((conv=>whnf);first|refine qz ?_|intro(_:Nat))
     conv=>whnf
     refine⟨2,⟨rfl,by decide⟩,?_⟩
     repeat((conv=>whnf);first|refine qz ?_|intro(_:Nat))
     conv=>whnf
     refine fun fr u hu=>⟨3,rfl,by decide,by decide,hu.fit (by have hst:=qLE l (i:=i) (k:=2) (by decide);rw [hcell] at hst;show fitL _ [.blk 1 q4 qOA ((qRF l (6*i+2+1)).cs.map SV.v),.blk 0 q2 qOA (c60.cs.map SV.v)];rw [hst];simp [fitL,Res.eqv,qBA,conc,C6.set,C6.get])⟩
    ·repeat((conv=>whnf);first|refine qz ?_|intro(_:Nat))
     conv=>whnf
     refine⟨3,⟨rfl,by decide⟩,?_⟩
     repeat((conv=>whnf);first|refine qz ?_|intro(_:Nat))
     conv=>whnf
     refine⟨_,rfl,⟨by omega,by omega⟩,?_⟩
     repeat((conv=>whnf);first|refine qz ?_|intro(_:Nat))
     conv=>whnf
     refine⟨_,hcx,?_⟩
     repeat((conv=>whnf);first|refine qz ?_|intro(_:Nat))
     conv=>whnf
     refine⟨3,⟨rfl,by decide⟩,?_⟩
     repeat((conv=>whnf);first|refine qz ?_|intro(_:Nat))
     conv=>whnf
     refine fun fr u hu=>⟨4,rfl,by decide,by decide,hu.fit (by have hst:=qLE l (i:=i) (k:=3) (by decide);rw [hcell] at hst;show fitL _ [.blk 1 q4 qOA ((qRF l (6*i+3+1)).cs.map SV.v),.blk 0 q2 qOA (c60.cs.map SV.v)];rw [hst];simp [fitL,Res.eqv,qBA,conc,C6.set,C6.get])⟩
    ·repeat((conv=>whnf);first|refine qz ?_|intro(_:Nat))
     conv=>whnf
     refine⟨4,⟨rfl,by decide⟩,?_⟩
     repeat((conv=>whnf);first|refine qz ?_|intro(_:Nat))
     conv=>whnf
     refine⟨_,rfl,⟨by omega,by omega⟩,?_⟩
     repeat((conv=>whnf);first|refine qz ?_|intro(_:Nat))
     conv=>whnf
     refine⟨_,hcx,?_⟩
     repeat((conv=>whnf);first|refine qz ?_|intro(_:Nat))
     conv=>whnf
     refine⟨4,⟨rfl,by decide⟩,?_⟩
     repeat((conv=>whnf);first|refine qz ?_|intro(_:Nat))
     conv=>whnf
     refine fun fr u hu=>⟨5,rfl,by decide,by decide,hu.fit (by have hst:=qLE l (i:=i) (k:=4) (by decide);rw [hcell] at hst;show fitL _ [.blk 1 q4 qOA ((qRF l (6*i+4+1)).cs.map SV.v),.blk 0 q2 qOA (c60.cs.map SV.v)];rw [hst];simp [fitL,Res.eqv,qBA,conc,C6.set,C6.get])⟩
    ·repeat((conv=>whnf);first|refine qz ?_|intro(_:Nat))
     conv=>whnf
     refine⟨5,⟨rfl,by decide⟩,?_⟩
     repeat((conv=>whnf);first|refine qz ?_|intro(_:Nat))
     conv=>whnf
     refine⟨_,rfl,⟨by omega,by omega⟩,?_⟩
     repeat((conv=>whnf);first|refine qz ?_|intro(_:Nat))
     conv=>whnf
     refine⟨_,hcx,?_⟩
     repeat((conv=>whnf);first|refine qz ?_|intro(_:Nat))
     conv=>whnf
     refine⟨5,⟨rfl,by decide⟩,?_⟩
     repeat((conv=>whnf);first|refine qz ?_|intro(_:Nat))
     conv=>whnf
     refine fun fr u hu=>⟨6,rfl,by decide,by decide,hu.fit (by have hst:=qLE l (i:=i) (k:=5) (by decide);rw [hcell] at hst;show fitL _ [.blk 1 q4 qOA ((qRF l (6*i+5+1)).cs.map SV.v),.blk 0 q2 qOA (c60.cs.map SV.v)];rw [hst];simp [fitL,Res.eqv,qBA,conc,C6.set,C6.get])⟩
   ·have hk6:k=6:=by have:=of_decide_eq_false y2;omega
    subst hk6
    repeat((conv=>whnf);first|refine qz ?_|intro(_:Nat))
    conv=>whnf
    refine fun fr u hu=>⟨i+1,congrArg (fun z=>[Value.int .i64 z]) (show((i+1:Nat):Int)=IntKind.i64.wrap ((i:Int)+1) by rw [wr (x:=(i:Int)+1) (by unfold InR;unfold maxLen at a2;omega)];omega),hlt,by show l.length-(i+1)<l.length-i;omega,hu.fit (by simp [fitL,Res.eqv,qBA,conc,Nat.mul_succ])⟩
  have hil:i=l.length:=by have:=of_decide_eq_false y1;omega
  subst hil
  repeat((conv=>whnf);first|refine qz ?_|intro(_:Nat))
  conv=>whnf
  intro g2 hg
  rfl)
/- Worlds: how many slots are held. -/
open Go.Proofs.YthonngjhelcpeaaGreat.Sx Go.RowKit
theorem sum0 {α:Type} (f:α→Int) (l:List α) (s:Int):s+sumI f (l.take 0)=s:=by simp [sumI]
theorem qYY (g:GW) {cs:List Value} {w:Wd} (hw:rWo g cs w) (hb:BgW 1000 w):Ok Tryz.prog qlR [.agg ⟨cs⟩] g fun v _=>v=.int .i64 (qnZ w):=by
 obtain⟨a,b,c,d,e,rfl,⟨i1,i2,i3⟩,hP,hV,hL,hC,hR⟩:=hw
 obtain⟨oa,ca,rfl,a1,a2,a0,hP1⟩:=id hP
 obtain⟨ob,cb,rfl,b1,b2,b0,hV1⟩:=id hV
 obtain⟨oc,cc,rfl,c1,c2,c0,hL1⟩:=id hL
 obtain⟨od,cd,rfl,d1,d2,d0,hC1⟩:=id hC
 obtain⟨oe,ce,rfl,e1,e2,e0,hR1⟩:=id hR
 obtain⟨⟨_,hbv,_,_,_⟩,_,hbV⟩:=hb
 exact Ok.of_fn hm noT 0 qCR (args:=[.v (.agg ⟨wQ w oa ca ob cb oc cc od cd oe ce⟩)]) (by
  repeat((conv=>whnf);first|refine qz ?_|intro(_:Nat))
  conv=>whnf
  refine⟨Nat×GW,fun (i,_)=>[.v (.int .i64 (0+sumI qvI (w.versions.take i))),.v (.int .i64 i)],fun (_,g')=>⟨g',_,_,_⟩,fun (i,g')=>i≤w.versions.length∧g≤g',fun (i,_)=>w.versions.length-i,qHA (0,g) (congrArg (fun z=>[Value.int .i64 z,.int .i64 0]) (sum0 _ _ _)) ⟨Nat.zero_le _,GW.refl _⟩ rfl,?_⟩
  rintro⟨i,g1⟩ ⟨hi,hg1⟩
  have hS:=qKH (f:=qvI) (c:=4*1000*1000) (l:=w.versions) (fun y hy=>qPX (hbV y hy)) i
  have hSl:(w.versions.take i).length≤1000:=by rw [List.length_take];omega
  repeat((conv=>whnf);first|refine qz ?_|intro(_:Nat))
  conv=>whnf
  refine⟨fun y1=>?_,fun y1=>?_⟩
  ·have h':i<w.versions.length:=by have h9:(i:Int)<w.versions.length:=of_decide_eq_true y1;omega
   obtain⟨v,hv⟩:=qAA h'
   have hvb:=hbV v (List.mem_of_getElem? hv)
   obtain⟨ad,rfl,ec,hec,⟨va,vb,vd,vn,rfl,hsn,hG⟩,hc⟩:=hV1 i v hv
   obtain⟨og,cg,rfl,p1,p2,p0,hG1⟩:=id hG
   obtain⟨_,_,_,he2,⟨sa,ta,rfl,_⟩,⟨sb,tb,rfl,_⟩,⟨sd,td,rfl,_⟩⟩:=hsn
   cases he2
   repeat((conv=>whnf);first|refine qz ?_|intro(_:Nat))
   conv=>whnf
   refine⟨_,rfl,⟨by show(0:Int)≤i;omega,by show(i:Int)<w.versions.length;omega⟩,?_⟩
   repeat((conv=>whnf);first|refine qz ?_|intro(_:Nat))
   conv=>whnf
   refine⟨_,⟨rfl,hc.mono hg1⟩,?_⟩
   repeat((conv=>whnf);first|refine qz ?_|intro(_:Nat))
   conv=>whnf
   refine⟨Nat×GW,fun (j,_)=>[.v (.int .i64 (0+sumI qvI (w.versions.take i)+sumI qQK (v.groups.take j))),.v (.int .i64 j)],fun (_,g')=>⟨g',_,_,_⟩,fun (j,g')=>j≤v.groups.length∧g1≤g',fun (j,_)=>v.groups.length-j,qHA (0,g1) (congrArg (fun z=>[Value.int .i64 z,.int .i64 0]) (sum0 _ _ _)) ⟨Nat.zero_le _,GW.refl _⟩ rfl,?_⟩
   rintro⟨j,g2⟩ ⟨hj,hg2⟩
   have hT:=qKH (f:=qQK) (c:=4*1000) (l:=v.groups) (fun y hy=>q1T (hvb.2 y hy)) j
   have hTl:(v.groups.take j).length≤1000:=by have:=hvb.1;rw [List.length_take];omega
   repeat((conv=>whnf);first|refine qz ?_|intro(_:Nat))
   conv=>whnf
   refine⟨fun y2=>?_,fun y2=>?_⟩
   ·have h2:j<v.groups.length:=by have h9:(j:Int)<v.groups.length:=of_decide_eq_true y2;omega
    obtain⟨x,hx⟩:=qAA h2
    have hxb:=hvb.2 x (List.mem_of_getElem? hx)
    obtain⟨ag,rfl,ecg,hecg,⟨xn,rfl,hti,hE⟩,hcg⟩:=hG1 j x hx
    obtain⟨on,cn,rfl,r1,r2,r0,hE1⟩:=id hE
    repeat((conv=>whnf);first|refine qz ?_|intro(_:Nat))
    conv=>whnf
    refine⟨_,rfl,⟨by show(0:Int)≤j;omega,by show(j:Int)<v.groups.length;omega⟩,?_⟩
    repeat((conv=>whnf);first|refine qz ?_|intro(_:Nat))
    conv=>whnf
    refine⟨_,⟨rfl,hcg.mono (GW.trans hg1 hg2)⟩,?_⟩
    repeat((conv=>whnf);first|refine qz ?_|intro(_:Nat))
    conv=>whnf
    refine⟨Nat×GW,fun (k,_)=>[.v (.int .i64 (0+sumI qvI (w.versions.take i)+sumI qQK (v.groups.take j)+sumI qTD (x.ends.take k))),.v (.int .i64 k)],fun (_,g')=>⟨g',_,_,_⟩,fun (k,g')=>k≤x.ends.length∧g2≤g',fun (k,_)=>x.ends.length-k,qHA (0,g2) (congrArg (fun z=>[Value.int .i64 z,.int .i64 0]) (sum0 _ _ _)) ⟨Nat.zero_le _,GW.refl _⟩ rfl,?_⟩
    rintro⟨k,g3⟩ ⟨hk,hg3⟩
    have hU:=qKH (f:=qTD) (c:=4) (l:=x.ends) (fun y _=>qnQ y) k
    have hUl:(x.ends.take k).length≤1000:=by unfold BgG at hxb;rw [List.length_take];omega
    repeat((conv=>whnf);first|refine qz ?_|intro(_:Nat))
    conv=>whnf
    refine⟨fun y3=>?_,fun y3=>?_⟩
    ·have h3:k<x.ends.length:=by have h9:(k:Int)<x.ends.length:=of_decide_eq_true y3;omega
     obtain⟨en,hen⟩:=qAA h3
     obtain⟨ae,rfl,ece,hece,hEn,hce⟩:=hE1 k en hen
     have hEn0:=hEn
     obtain⟨⟨n,rfl,hH,hA,hN⟩,hsz⟩:=hEn0
     obtain⟨ox,cx,rfl,s1,s2,s0,hN1⟩:=id hN
     have hg03:=GW.trans hg1 (GW.trans hg2 hg3)
     repeat((conv=>whnf);first|refine qz ?_|intro(_:Nat))
     conv=>whnf
     refine⟨_,rfl,⟨by show(0:Int)≤k;omega,by show(k:Int)<x.ends.length;omega⟩,?_⟩
     repeat((conv=>whnf);first|refine qz ?_|intro(_:Nat))
     conv=>whnf
     refine⟨_,⟨rfl,hce.mono hg03⟩,?_⟩
     repeat((conv=>whnf);first|refine qz ?_|intro(_:Nat))
     refine .inr ((qlT _ (qyE _ _ _ _ hg03 hEn)).mono fun v' g4 hg4 hF=>?_)
     have hst:=qsN qTD hen
     have hbd:=qnQ en
     have hgo:∀ z:Int,z=qTD en→[Value.int .i64 (0+sumI qvI (w.versions.take i)+sumI qQK (v.groups.take j)+sumI qTD (x.ends.take (k+1))),Value.int .i64 ((k+1:Nat):Int)]=[Value.int .i64 (0+sumI qvI (w.versions.take i)+sumI qQK (v.groups.take j)+sumI qTD (x.ends.take k)+z),Value.int .i64 (IntKind.i64.wrap ((k:Int)+1))]:=fun z hz=>by
      rw [hst,hz,wr (x:=(k:Int)+1) (by unfold InR;unfold maxLen at r2;omega)]
      simp only [Int.add_assoc,Int.natCast_add,Int.natCast_one]
     unfold q1M at hF
     cases hf:qHE en with
     | none =>
      rw [hf] at hF
      subst hF
      have hbF:endB en=false:=by unfold endB;rw [hf];rfl
      have hz:qTD en=0:=by unfold qTD;rw [hbF];rfl
      repeat((conv=>whnf);first|refine qz ?_|intro(_:Nat))
      conv=>whnf
      refine .inl ⟨_,(qtS _ (qyE _ _ _ _ (GW.trans hg03 hg4) hEn)).to (congrArg Value.bool hbF),?_⟩
      repeat((conv=>whnf);first|refine qz ?_|intro(_:Nat))
      conv=>whnf
      refine⟨fun h=>(nomatch h),fun _=>?_⟩
      repeat((conv=>whnf);first|refine qz ?_|intro(_:Nat))
      conv=>whnf
      refine fun fr u hu=>⟨(k+1,g4),(hgo 0 hz.symm).trans (congrArg (fun z=>[Value.int .i64 z,Value.int .i64 (IntKind.i64.wrap ((k:Int)+1))]) (Int.add_zero _)),⟨h3,GW.trans hg3 hg4⟩,by show x.ends.length-(k+1)<x.ends.length-k;omega,hu.fit (by simp [fitL,Res.eqv,qBA,conc])⟩
     | some l =>
      rw [hf] at hF
      obtain⟨oF,cF,rfl,hF⟩:=hF
      have hll:=qpQ hf
      repeat((conv=>whnf);first|refine qz ?_|intro(_:Nat))
      conv=>whnf
      refine .inl ⟨_,(qtS _ (qyE _ _ _ _ (GW.trans hg03 hg4) hEn)),?_⟩
      repeat((conv=>whnf);first|refine qz ?_|intro(_:Nat))
      conv=>whnf
      refine⟨fun y4=>?_,fun y4=>?_⟩
      ·have hbT:endB en=true:=y4
       have hz:qTD en=en.next.length-(l.length:Nat):=by unfold qTD;rw [hbT,hf];rfl
       repeat((conv=>whnf);first|refine qz ?_|intro(_:Nat))
       conv=>whnf
       refine fun fr u hu=>⟨(k+1,g4),(hgo _ hz.symm).trans (congrArg (fun z=>[Value.int .i64 z,Value.int .i64 (IntKind.i64.wrap ((k:Int)+1))]) (by rw [wr (x:=(en.next.length:Int)-l.length) (by unfold InR;omega),wr (x:=0+sumI qvI (w.versions.take i)+sumI qQK (v.groups.take j)+sumI qTD (x.ends.take k)+((en.next.length:Int)-l.length)) (by unfold InR;omega)])),⟨h3,GW.trans hg3 hg4⟩,by show x.ends.length-(k+1)<x.ends.length-k;omega,hu.fit (by simp [fitL,Res.eqv,qBA,conc])⟩
      ·have hbF:endB en=false:=y4
       have hz:qTD en=0:=by unfold qTD;rw [hbF];rfl
       repeat((conv=>whnf);first|refine qz ?_|intro(_:Nat))
       conv=>whnf
       refine fun fr u hu=>⟨(k+1,g4),(hgo 0 hz.symm).trans (congrArg (fun z=>[Value.int .i64 z,Value.int .i64 (IntKind.i64.wrap ((k:Int)+1))]) (Int.add_zero _)),⟨h3,GW.trans hg3 hg4⟩,by show x.ends.length-(k+1)<x.ends.length-k;omega,hu.fit (by simp [fitL,Res.eqv,qBA,conc])⟩
    have hkL:k=x.ends.length:=by have h9:¬ (k:Int)<x.ends.length:=of_decide_eq_false y3;omega
    subst hkL
    repeat((conv=>whnf);first|refine qz ?_|intro(_:Nat))
    conv=>whnf
    refine fun fr u hu=>⟨(j+1,g3),(show [Value.int .i64 (0+sumI qvI (w.versions.take i)+sumI qQK (v.groups.take (j+1))),Value.int .i64 ((j+1:Nat):Int)]=[Value.int .i64 (0+sumI qvI (w.versions.take i)+sumI qQK (v.groups.take j)+sumI qTD (x.ends.take x.ends.length)),Value.int .i64 (IntKind.i64.wrap ((j:Int)+1))] by rw [qsN qQK hx,wr (x:=(j:Int)+1) (by unfold InR;unfold maxLen at p2;omega),List.take_length];simp only [Int.add_assoc,Int.natCast_add,Int.natCast_one];rfl),⟨h2,GW.trans hg2 hg3⟩,by show v.groups.length-(j+1)<v.groups.length-j;omega,hu.fit (by simp [fitL,Res.eqv,qBA,conc])⟩
   have hjL:j=v.groups.length:=by have h9:¬ (j:Int)<v.groups.length:=of_decide_eq_false y2;omega
   subst hjL
   repeat((conv=>whnf);first|refine qz ?_|intro(_:Nat))
   conv=>whnf
   refine fun fr u hu=>⟨(i+1,g2),(show [Value.int .i64 (0+sumI qvI (w.versions.take (i+1))),Value.int .i64 ((i+1:Nat):Int)]=[Value.int .i64 (0+sumI qvI (w.versions.take i)+sumI qQK (v.groups.take v.groups.length)),Value.int .i64 (IntKind.i64.wrap ((i:Int)+1))] by rw [qsN qvI hv,wr (x:=(i:Int)+1) (by unfold InR;unfold maxLen at b2;omega),List.take_length];simp only [Int.add_assoc,Int.natCast_add,Int.natCast_one];rfl),⟨h',GW.trans hg1 hg2⟩,by show w.versions.length-(i+1)<w.versions.length-i;omega,hu.fit (by simp [fitL,Res.eqv,qBA,conc])⟩
  have hiL:i=w.versions.length:=by have h9:¬ (i:Int)<w.versions.length:=of_decide_eq_false y1;omega
  subst hiL
  repeat((conv=>whnf);first|refine qz ?_|intro(_:Nat))
  conv=>whnf
  intro g2 hg
  show Value.int .i64 (0+sumI qvI (w.versions.take w.versions.length))=_
  rw [List.take_length,Int.zero_add];rfl)
end Go.Proofs.YthonngjhelcpeaaGreat
