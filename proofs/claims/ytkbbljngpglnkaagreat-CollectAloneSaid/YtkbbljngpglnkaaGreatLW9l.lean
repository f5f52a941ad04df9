/- Worlds: clones. -/
import Derived.Test.YtkbbljngpglnkaaGreatLW9p
import Derived.Test.YtkbbljngpglnkaaGreatLW9b
import Derived.Test.YtkbbljngpglnkaaGreatPl
set_option linter.unusedVariables false
set_option linter.unusedSimpArgs false
namespace Go.Proofs.YtkbbljngpglnkaaGreat
open Go.Proofs.YtkbbljngpglnkaaGreat.Sx Go.RowKit
set_option maxHeartbeats 16000000
set_option maxRecDepth 100000
def qAU (g:GW) (w:Wd) (v:Value) (g':GW):Prop:=∃ cs T,v=.agg ⟨cs⟩∧oWo wT true g' g.w.heap.size T cs w
def T5 (g1 g2 g3 g4 g5 g6:GW):Nat→Nat→Prop:=fun i n=>match i with
 | 0=>NEW g1 g2 n
 | 1=>NEW g2 g3 n
 | 2=>NEW g3 g4 n
 | 3=>NEW g4 g5 n
 | 4=>NEW g5 g6 n
 | _=>False
theorem q9S {g1 g2 g3 g4 g5 g6:GW} (h1:g1≤g2) (h2:g2≤g3) (h3:g3≤g4) (h4:g4≤g5) (i j n:Nat) (p:T5 g1 g2 g3 g4 g5 g6 i n) (q:T5 g1 g2 g3 g4 g5 g6 j n):i=j:=by
 have e3:=GW.trans h2 h3
 have e4:=GW.trans e3 h4
 have e5:=GW.trans h3 h4
 have key:∀ {a b c d:GW},b≤c→NEW a b n→NEW c d n→False:=fun k p q=>q.2 (k.2 n p.1).1
 match i,j,p,q with
 | 0,0,_,_=>rfl
 | 1,1,_,_=>rfl
 | 2,2,_,_=>rfl
 | 3,3,_,_=>rfl
 | 4,4,_,_=>rfl
 | 0,1,p,q=>exact(key (GW.refl _) p q).elim
 | 0,2,p,q=>exact(key h2 p q).elim
 | 0,3,p,q=>exact(key e3 p q).elim
 | 0,4,p,q=>exact(key e4 p q).elim
 | 1,2,p,q=>exact(key (GW.refl _) p q).elim
 | 1,3,p,q=>exact(key h3 p q).elim
 | 1,4,p,q=>exact(key e5 p q).elim
 | 2,3,p,q=>exact(key (GW.refl _) p q).elim
 | 2,4,p,q=>exact(key h4 p q).elim
 | 3,4,p,q=>exact(key (GW.refl _) p q).elim
 | 1,0,p,q=>exact(key (GW.refl _) q p).elim
 | 2,0,p,q=>exact(key h2 q p).elim
 | 3,0,p,q=>exact(key e3 q p).elim
 | 4,0,p,q=>exact(key e4 q p).elim
 | 2,1,p,q=>exact(key (GW.refl _) q p).elim
 | 3,1,p,q=>exact(key h3 q p).elim
 | 4,1,p,q=>exact(key e5 q p).elim
 | 3,2,p,q=>exact(key (GW.refl _) q p).elim
 | 4,2,p,q=>exact(key h4 q p).elim
 | 4,3,p,q=>exact(key (GW.refl _) q p).elim
 | _+5,_,p,_=>exact p.elim
 | _,_+5,_,q=>exact q.elim
theorem q7B (g:GW) {cs:List Value} {w:Wd} (hw:rWo g cs w) (hb:BgW 1000000 w):Ok Tryz.prog qML [.agg ⟨cs⟩] g (qAU g w):=by
 obtain⟨a,b,c,d,e,rfl,⟨i1,i2,i3⟩,hP,hV,hL,hC,hR⟩:=hw
 obtain⟨⟨z1,z2,z3,z4,z5⟩,z6,z7⟩:=hb
 obtain⟨oa,ca,rfl,a1,a2,a0,hP1⟩:=id hP
 obtain⟨ob,cb,rfl,b1,b2,b0,hV1⟩:=id hV
 obtain⟨oc,cc,rfl,c1,c2,c0,hL1⟩:=id hL
 obtain⟨od,cd,rfl,d1,d2,d0,hC1⟩:=id hC
 obtain⟨oe,ce,rfl,e1,e2,e0,hR1⟩:=id hR
 exact Ok.of_fn hm noT 0 qtK (args:=[.v (.agg ⟨wQ w oa ca ob cb oc cc od cd oe ce⟩)]) (by
  repeat((conv=>whnf);first|apply qza|apply qzb|apply qzc|apply qzd|apply qze|intro(_:Nat))
  refine .inr ((qKQ g _ (GW.refl _) hP (by omega)).mono fun v1 r1 k1 o1=>?_)
  obtain⟨p1,q1,rfl⟩:=q4C o1
  repeat((conv=>whnf);first|apply qza|apply qzb|apply qzc|apply qzd|apply qze|intro(_:Nat))
  refine .inr ((qpN g _ k1 hV z2 z7).mono fun v2 r2 k2 o2=>?_)
  obtain⟨p2,q2,rfl⟩:=q4C o2
  have m2:=GW.trans k1 k2
  repeat((conv=>whnf);first|apply qza|apply qzb|apply qzc|apply qzd|apply qze|intro(_:Nat))
  refine .inr ((qfT g _ m2 (hL.mono qEC m2) z3).mono fun v3 r3 k3 o3=>?_)
  obtain⟨p3,q3,rfl⟩:=q4C o3
  have m3:=GW.trans m2 k3
  repeat((conv=>whnf);first|apply qza|apply qzb|apply qzc|apply qzd|apply qze|intro(_:Nat))
  refine .inr ((qaS g _ m3 (hC.mono qKB m3) z4 z6).mono fun v4 r4 k4 o4=>?_)
  obtain⟨p4,q4,rfl⟩:=q4C o4
  have m4:=GW.trans m3 k4
  repeat((conv=>whnf);first|apply qza|apply qzb|apply qzc|apply qzd|apply qze|intro(_:Nat))
  refine .inr ((qeT g _ m4 (hR.mono qGD m4) z5).mono fun v5 r5 k5 o5=>?_)
  obtain⟨p5,q5,rfl⟩:=q4C o5
  repeat((conv=>whnf);first|apply qza|apply qzb|apply qzc|apply qzd|apply qze|intro(_:Nat))
  conv=>whnf
  intro g2 hg
  have n5:=hg
  have n4:=GW.trans k5 n5
  have n3:=GW.trans k4 n4
  have n2:=GW.trans k3 n3
  have n1:=GW.trans k2 n2
  exact⟨_,T5 g r1 r2 r3 r4 r5,rfl,_,_,_,_,_,rfl,⟨i1,i2,i3⟩,q9S k1 k2 k3 k4,q0A (q1A qSC) (GW.vw_up n1 _ _) o1,q0A qRI (GW.vw_up n2 _ _) o2,q0A (q1A qXB) (GW.vw_up n3 _ _) o3,q0A qSI (GW.vw_up n4 _ _) o4,q0A (q1A qAB) (GW.vw_up n5 _ _) o5⟩)
/- Collectors: the steps' table. -/
open Go.Proofs.YtkbbljngpglnkaaGreat.Sx Go.RowKit
def CoP (w:Wd) (m:Mach) (v:Value) (g':GW):Prop:=∃ cs ms,v=.tuple #[.agg ⟨cs⟩,.agg ⟨ms⟩,.agg ⟨(csE w m).cs⟩]∧rWo g' cs (csW w m)∧qjC g' ms (csM w m)
def tCo:List (Nat×FnI):=[(q6C,q9C),(q1B,q5B),(qVC,qYC),(qGC,qIC),(q0B,q4B),(qmB,qpB),(q7C,qAD),(q2B,q6B),(qlB,qoB),(q5C,q8C),(qHG,qBD),(qyC,q2C),(qgH,q0D)]
theorem qDF:qIH Tryz.prog tCo:=by
 intro x hx
 simp only [tCo,List.mem_cons,List.not_mem_nil,or_false] at hx
 rcases hx with rfl|rfl|rfl|rfl|rfl|rfl|rfl|rfl|rfl|rfl|rfl|rfl|rfl
 ·exact⟨_,_,qCG⟩
 ·exact⟨_,_,q7D⟩
 ·exact⟨_,_,qsE⟩
 ·exact⟨_,_,qRE⟩
 ·exact⟨_,_,q6D⟩
 ·exact⟨_,_,qpD⟩
 ·exact⟨_,_,qDG⟩
 ·exact⟨_,_,q8D⟩
 ·exact⟨_,_,qoD⟩
 ·exact⟨_,_,qBG⟩
 ·exact⟨_,_,qEG⟩
 ·exact⟨_,_,quC⟩
 ·exact⟨_,_,qQH⟩
abbrev xC (bw bm:Nat):Value:=.agg ⟨[.pointer (some ⟨bw,0,none⟩),.pointer (some ⟨bm,0,none⟩)]⟩
theorem qKA (g:GW) {bw bm:Nat} {t a c v:Int} (h1:Rc g ⟨bm,10,none⟩ (.int .i64 t)):OkV Tryz.prog qyC [xC bw bm,.int .i64 a,.int .i64 c,.int .i64 v] g (.agg ⟨(⟨t,0,a,c,-1,false,v,false,false,false,ans0⟩:Ev).cs⟩) :=
 Ok.of_fn hm noT 0 quC (args:=[.v (xC bw bm),.v (.int .i64 a),.v (.int .i64 c),.v (.int .i64 v)]) (by
  repeat((conv=>whnf);first|apply qza|apply qzb|apply qzc|apply qzd|apply qze|intro(_:Nat))
  conv=>whnf
  refine⟨_,h1,?_⟩
  repeat((conv=>whnf);first|apply qza|apply qzb|apply qzc|apply qzd|apply qze|intro(_:Nat))
  conv=>whnf
  intro g2 hg
  rfl)
theorem qqS {g:GW} {e0 e1 e2 a b c d e:Value} {w:Wd} (h:rWo g [e0,e1,e2,a,b,c,d,e] w) {i:Nat} {x:Listen} (hx:w.listens[i]?=some x):InR x.active:=by
 obtain⟨_,_,hq,_,_,_,hr⟩:=q4J h
 obtain⟨_,_,_,_,hR,_⟩:=hr i x hx
 exact hR.2
/- Collectors: what is safe by an epoch. -/
open Go.Proofs.YtkbbljngpglnkaaGreat.Sx Go.RowKit
theorem qJL (g:GW) {a n:Int} (ha:InR a):OkV Tryz.prog qeM [.int .i64 a,.int .i64 n] g (.bool (decide (qlG a n))) :=
 Ok.of_fn hm noT 0 q7L (args:=[.v (.int .i64 a),.v (.int .i64 n)]) (by
  repeat((conv=>whnf);first|apply qza|apply qzb|apply qzc|apply qzd|apply qze|intro(_:Nat))
  conv=>whnf
  refine⟨fun z=>?_,fun z=>?_⟩
  ·have z:a≤9223372036854775805:=of_decide_eq_true z
   have hw1:IntKind.i64.wrap (a+2)=a+2:=by unfold InR at ha;rw [IntKind.wrap_i64];omega
   repeat((conv=>whnf);first|apply qza|apply qzb|apply qzc|apply qzd|apply qze|intro(_:Nat))
   conv=>whnf
   intro g2 hg
   have:qlG a n↔a+2≤n:=⟨fun h=>h.2,fun h=>⟨z,h⟩⟩
   show Value.bool (decide (IntKind.i64.wrap (a+2)≤n))=_
   rw [hw1]
   simp only [this]
  ·have z:¬ a≤9223372036854775805:=of_decide_eq_false z
   repeat((conv=>whnf);first|apply qza|apply qzb|apply qzc|apply qzd|apply qze|intro(_:Nat))
   conv=>whnf
   intro g2 hg
   rw [decide_eq_false fun h:qlG a n=>z h.1])
theorem qxQ {m:Mach} (h:m.answer.ok):(ansC m).ok:=⟨by show InR 11;decide,z0,z0,z0,z0,z0,h.n,qCN⟩
theorem qPK {g:GW} {a:Addr} {n cap:Nat} {l:List Retired} (h:rSl 3 qfA g (.slice (some a) n cap) l) {i:Nat} {x:Retired} (hx:l[i]?=some x):(InR x.version∧InR x.at_)∧Rcs g (a.add (i*3)) [.int .i64 x.version,.int .i64 x.at_,.bool x.gone]:=by
 obtain⟨ec,_,⟨rfl,h2⟩,h3⟩:=qRK h hx
 exact⟨h2,h3⟩
/- Collectors: the program's step,place 0. -/
open Go.Proofs.YtkbbljngpglnkaaGreat.Sx Go.RowKit
theorem qdT (g:GW) {cs ms:List Value} {w:Wd} {m:Mach} (hw:rWo g cs w) (hM:qjC g ms m) (hsn:SnW w) (hb:BgW 1000000 w) (hgo:cGo w m) (h0:m.pc=0):Ok Tryz.prog qNA [.agg ⟨cs⟩,.agg ⟨ms⟩] g (CoP w m):=by
 obtain⟨hW9,hM9,hE9⟩:=qNG hgo
 have hs:=hgo.1
 have hmay:=qcE hgo.2.1
 obtain⟨v,gr,en,hS⟩:=id (suitB_iff.1 hs)
 obtain⟨oa,ca,ob,cb,oc,cc,od,cd,oe,ce,o1,t1,o2,t2,o3,t3,rfl,rfl,hw0,hM0,⟨i1,i2,i3⟩,hP,hV,hL,hC,hR,⟨a1,a2,a0,hP1⟩,⟨b1,b2,b0,hV1⟩,⟨c1,c2,c0,hL1⟩,⟨d1,d2,d0,hC1⟩,⟨e1,e2,e0,hR1⟩,hok,hop,hcf⟩:=qXI hw hM
 obtain⟨mop,mth,mpc,mep,mve,mli,mcl,men,mot,msl,mwo,mlk,mi,mk,msu,mdo,man,mco⟩:=m
 simp only at h0
 subst h0
 obtain⟨kW,kM,kE⟩:=cb0 (w:=w) (m:=⟨mop,mth,0,mep,mve,mli,mcl,men,mot,msl,mwo,mlk,mi,mk,msu,mdo,man,mco⟩) rfl
 rw [kW] at hW9
 rw [kM] at hM9
 rw [kE] at hE9
 clear kW kM kE
 exact Ok.of_fn hm qDF 5 qQA (args:=[.v (.agg ⟨wQ w oa ca ob cb oc cc od cd oe ce⟩),.v (.agg ⟨Mach.cs (.slice o1 mop.config.listens.length t1) (.slice o2 mop.config.routes.length t2) (.slice o3 mop.config.clusters.length t3) ⟨mop,mth,0,mep,mve,mli,mcl,men,mot,msl,mwo,mlk,mi,mk,msu,mdo,man,mco⟩⟩)]) (by
  repeat((conv=>whnf);first|apply qza|apply qzb|apply qzc|apply qzd|apply qze|intro(_:Nat))
  conv=>whnf
  refine .inl ⟨_,qyA _ hw0 hM0 hsn hb,?_⟩
  repeat((conv=>whnf);first|apply qza|apply qzb|apply qzc|apply qzd|apply qze|intro(_:Nat))
  conv=>whnf
  refine⟨fun hx=>absurd (hs.symm.trans (nb1 hx)) (by decide),fun _=>?_⟩
  repeat((conv=>whnf);first|apply qza|apply qzb|apply qzc|apply qzd|apply qze|intro(_:Nat))
  conv=>whnf
  refine .inl ⟨_,qFF _ hw0 hM0 hs hb,?_⟩
  repeat((conv=>whnf);first|apply qza|apply qzb|apply qzc|apply qzd|apply qze|intro(_:Nat))
  conv=>whnf
  refine⟨fun hx=>absurd (hmay.symm.trans (nb1 hx)) (by decide),fun _=>?_⟩
  repeat((conv=>whnf);first|apply qza|apply qzb|apply qzc|apply qzd|apply qze|intro(_:Nat))
  refine .inr ((q7B _ hw0 hb).mono fun v g3 hg3 hO=>?_)
  obtain⟨cs,T,rfl,hT⟩:=hO
  have hF:=qYD hT
  obtain⟨oa',ca',ob',cb',oc',cc',od',cd',oe',ce',rfl⟩:=qPA hF
  repeat((conv=>whnf);first|apply qza|apply qzb|apply qzc|apply qzd|apply qze|intro(_:Nat))
  rename_i q7 q8 qx qm
  conv=>whnf
  refine⟨some (.func (.func q6C) ⟨[xC q7 q8]⟩ ⟨[]⟩),rfl,?_⟩
  conv=>whnf
  refine⟨fun h=>(nomatch h),fun _=>?_⟩
  repeat((conv=>whnf);first|apply qza|apply qzb|apply qzc|apply qzd|apply qze|intro(_:Nat))
  conv=>whnf
  refine⟨qJG,[.agg [.p 5 q7 0,.p 6 q8 0]],[],⟨rfl,rfl⟩,?_⟩
  repeat((conv=>whnf);first|apply qza|apply qzb|apply qzc|apply qzd|apply qze|intro(_:Nat))
  refine And.intro (fun z=>?_) (fun z=>?_)
  ·have z:¬ w.lock=0:=bneT z
   rw [if_neg z] at hW9 hM9 hE9
   repeat'((conv=>whnf);first|apply qza|apply qzb|apply qzc|apply qzd|apply qze|intro(_:Nat)|refine⟨_,fun gp hle hin=>qKA gp (hin.cel (id:=6) rfl 10 rfl),?_⟩|refine And.intro ?_ ?_|fail)
   all_goals (conv=>whnf)
   all_goals (first|exact Eq.refl _|(
    intro g2 hg
    refine⟨_,_,by rw [hE9]<;>rfl,by rw [hW9];exact qGA _ _ _ _ hg hF,?_⟩
    rw [hM9]
    exact⟨_,_,_,rfl,{hok with answer:=q8S (by decide)},hop,qDA _ _ _ _ (GW.trans hg3 hg) hcf⟩))
  ·have z:w.lock=0:=bneF z
   rw [if_pos z] at hW9 hM9 hE9
   have hF1:=qkI hF (x:=1) (by decide)
   repeat'((conv=>whnf);first|apply qza|apply qzb|apply qzc|apply qzd|apply qze|intro(_:Nat)|refine⟨_,fun gp hle hin=>qKA gp (hin.cel (id:=6) rfl 10 rfl),?_⟩|refine And.intro ?_ ?_|fail)
   all_goals (conv=>whnf)
   all_goals (first|exact Eq.refl _|(
    intro g2 hg
    refine⟨_,_,by rw [hE9]<;>rfl,by rw [hW9];exact qGA _ _ _ _ hg hF1,?_⟩
    rw [hM9]
    exact⟨_,_,_,rfl,{hok with pc:=show InR (1:Int) by decide},hop,qDA _ _ _ _ (GW.trans hg3 hg) hcf⟩)))
/- Collectors: the program's step,place 1. -/
open Go.Proofs.YtkbbljngpglnkaaGreat.Sx Go.RowKit
theorem qcT (g:GW) {cs ms:List Value} {w:Wd} {m:Mach} (hw:rWo g cs w) (hM:qjC g ms m) (hsn:SnW w) (hb:BgW 1000000 w) (hgo:cGo w m) (h0:m.pc=1):Ok Tryz.prog qNA [.agg ⟨cs⟩,.agg ⟨ms⟩] g (CoP w m):=by
 obtain⟨hW9,hM9,hE9⟩:=qNG hgo
 have hs:=hgo.1
 have hmay:=qcE hgo.2.1
 obtain⟨v,gr,en,hS⟩:=id (suitB_iff.1 hs)
 obtain⟨oa,ca,ob,cb,oc,cc,od,cd,oe,ce,o1,t1,o2,t2,o3,t3,rfl,rfl,hw0,hM0,⟨i1,i2,i3⟩,hP,hV,hL,hC,hR,⟨a1,a2,a0,hP1⟩,⟨b1,b2,b0,hV1⟩,⟨c1,c2,c0,hL1⟩,⟨d1,d2,d0,hC1⟩,⟨e1,e2,e0,hR1⟩,hok,hop,hcf⟩:=qXI hw hM
 obtain⟨mop,mth,mpc,mep,mve,mli,mcl,men,mot,msl,mwo,mlk,mi,mk,msu,mdo,man,mco⟩:=m
 simp only at h0
 subst h0
 exact Ok.of_fn hm qDF 5 qQA (args:=[.v (.agg ⟨wQ w oa ca ob cb oc cc od cd oe ce⟩),.v (.agg ⟨Mach.cs (.slice o1 mop.config.listens.length t1) (.slice o2 mop.config.routes.length t2) (.slice o3 mop.config.clusters.length t3) ⟨mop,mth,1,mep,mve,mli,mcl,men,mot,msl,mwo,mlk,mi,mk,msu,mdo,man,mco⟩⟩)]) (by
  repeat((conv=>whnf);first|apply qza|apply qzb|apply qzc|apply qzd|apply qze|intro(_:Nat))
  conv=>whnf
  refine .inl ⟨_,qyA _ hw0 hM0 hsn hb,?_⟩
  repeat((conv=>whnf);first|apply qza|apply qzb|apply qzc|apply qzd|apply qze|intro(_:Nat))
  conv=>whnf
  refine⟨fun hx=>absurd (hs.symm.trans (nb1 hx)) (by decide),fun _=>?_⟩
  repeat((conv=>whnf);first|apply qza|apply qzb|apply qzc|apply qzd|apply qze|intro(_:Nat))
  conv=>whnf
  refine .inl ⟨_,qFF _ hw0 hM0 hs hb,?_⟩
  repeat((conv=>whnf);first|apply qza|apply qzb|apply qzc|apply qzd|apply qze|intro(_:Nat))
  conv=>whnf
  refine⟨fun hx=>absurd (hmay.symm.trans (nb1 hx)) (by decide),fun _=>?_⟩
  repeat((conv=>whnf);first|apply qza|apply qzb|apply qzc|apply qzd|apply qze|intro(_:Nat))
  refine .inr ((q7B _ hw0 hb).mono fun v g3 hg3 hO=>?_)
  obtain⟨cs,T,rfl,hT⟩:=hO
  have hF:=qYD hT
  obtain⟨oa',ca',ob',cb',oc',cc',od',cd',oe',ce',rfl⟩:=qPA hF
  repeat((conv=>whnf);first|apply qza|apply qzb|apply qzc|apply qzd|apply qze|intro(_:Nat))
  rename_i q7 q8 qx qm
  conv=>whnf
  refine⟨some (.func (.func q1B) ⟨[xC q7 q8]⟩ ⟨[]⟩),rfl,?_⟩
  conv=>whnf
  refine⟨fun h=>(nomatch h),fun _=>?_⟩
  repeat((conv=>whnf);first|apply qza|apply qzb|apply qzc|apply qzd|apply qze|intro(_:Nat))
  conv=>whnf
  refine⟨qCE,[.agg [.p 5 q7 0,.p 6 q8 0]],[],⟨rfl,rfl⟩,?_⟩
  repeat'((conv=>whnf);first|apply qza|apply qzb|apply qzc|apply qzd|apply qze|intro(_:Nat)|refine⟨_,fun gp hle hin=>qKA gp (hin.cel (id:=6) rfl 10 rfl),?_⟩|refine And.intro ?_ ?_|fail)
  all_goals (conv=>whnf)
  all_goals (first|exact Eq.refl _|(
   intro g2 hg
   obtain⟨kW,kM,kE⟩:=cb1 (w:=w) (m:=⟨mop,mth,1,mep,mve,mli,mcl,men,mot,msl,mwo,mlk,mi,mk,msu,mdo,man,mco⟩) rfl
   refine⟨_,_,by rw [hE9,kE]<;>rfl,by rw [hW9,kW];exact qGA _ _ _ _ hg hF,?_⟩
   rw [hM9,kM]
   exact⟨_,_,_,rfl,{hok with epoch:=i1,pc:=show InR (2:Int) by decide,i:=z0},hop,qDA _ _ _ _ (GW.trans hg3 hg) hcf⟩)))
/- Collectors: the program's step,place 2. -/
open Go.Proofs.YtkbbljngpglnkaaGreat.Sx Go.RowKit
theorem qbT (g:GW) {cs ms:List Value} {w:Wd} {m:Mach} (hw:rWo g cs w) (hM:qjC g ms m) (hsn:SnW w) (hb:BgW 1000000 w) (hgo:cGo w m) (h0:m.pc=2):Ok Tryz.prog qNA [.agg ⟨cs⟩,.agg ⟨ms⟩] g (CoP w m):=by
 obtain⟨hW9,hM9,hE9⟩:=qNG hgo
 have hs:=hgo.1
 have hmay:=qcE hgo.2.1
 obtain⟨v,gr,en,hS⟩:=id (suitB_iff.1 hs)
 obtain⟨oa,ca,ob,cb,oc,cc,od,cd,oe,ce,o1,t1,o2,t2,o3,t3,rfl,rfl,hw0,hM0,⟨i1,i2,i3⟩,hP,hV,hL,hC,hR,⟨a1,a2,a0,hP1⟩,⟨b1,b2,b0,hV1⟩,⟨c1,c2,c0,hL1⟩,⟨d1,d2,d0,hC1⟩,⟨e1,e2,e0,hR1⟩,hok,hop,hcf⟩:=qXI hw hM
 obtain⟨mop,mth,mpc,mep,mve,mli,mcl,men,mot,msl,mwo,mlk,mi,mk,msu,mdo,man,mco⟩:=m
 simp only at h0
 subst h0
 obtain⟨kW,kM,kE⟩:=cb2 (w:=w) (m:=⟨mop,mth,2,mep,mve,mli,mcl,men,mot,msl,mwo,mlk,mi,mk,msu,mdo,man,mco⟩) rfl
 rw [kW] at hW9
 rw [kM] at hM9
 rw [kE] at hE9
 clear kW kM kE
 exact Ok.of_fn hm qDF 5 qQA (args:=[.v (.agg ⟨wQ w oa ca ob cb oc cc od cd oe ce⟩),.v (.agg ⟨Mach.cs (.slice o1 mop.config.listens.length t1) (.slice o2 mop.config.routes.length t2) (.slice o3 mop.config.clusters.length t3) ⟨mop,mth,2,mep,mve,mli,mcl,men,mot,msl,mwo,mlk,mi,mk,msu,mdo,man,mco⟩⟩)]) (by
  repeat((conv=>whnf);first|apply qza|apply qzb|apply qzc|apply qzd|apply qze|intro(_:Nat))
  conv=>whnf
  refine .inl ⟨_,qyA _ hw0 hM0 hsn hb,?_⟩
  repeat((conv=>whnf);first|apply qza|apply qzb|apply qzc|apply qzd|apply qze|intro(_:Nat))
  conv=>whnf
  refine⟨fun hx=>absurd (hs.symm.trans (nb1 hx)) (by decide),fun _=>?_⟩
  repeat((conv=>whnf);first|apply qza|apply qzb|apply qzc|apply qzd|apply qze|intro(_:Nat))
  conv=>whnf
  refine .inl ⟨_,qFF _ hw0 hM0 hs hb,?_⟩
  repeat((conv=>whnf);first|apply qza|apply qzb|apply qzc|apply qzd|apply qze|intro(_:Nat))
  conv=>whnf
  refine⟨fun hx=>absurd (hmay.symm.trans (nb1 hx)) (by decide),fun _=>?_⟩
  repeat((conv=>whnf);first|apply qza|apply qzb|apply qzc|apply qzd|apply qze|intro(_:Nat))
  refine .inr ((q7B _ hw0 hb).mono fun v g3 hg3 hO=>?_)
  obtain⟨cs,T,rfl,hT⟩:=hO
  have hF:=qYD hT
  obtain⟨oa',ca',ob',cb',oc',cc',od',cd',oe',ce',rfl⟩:=qPA hF
  repeat((conv=>whnf);first|apply qza|apply qzb|apply qzc|apply qzd|apply qze|intro(_:Nat))
  rename_i q7 q8 qx qm
  conv=>whnf
  refine⟨some (.func (.func qVC) ⟨[xC q7 q8]⟩ ⟨[]⟩),rfl,?_⟩
  conv=>whnf
  refine⟨fun h=>(nomatch h),fun _=>?_⟩
  repeat((conv=>whnf);first|apply qza|apply qzb|apply qzc|apply qzd|apply qze|intro(_:Nat))
  conv=>whnf
  refine⟨q4E,[.agg [.p 5 q7 0,.p 6 q8 0]],[],⟨rfl,rfl⟩,?_⟩
  have hi0:0≤mi:=hS.i
  have hi1:mi<w.pins.length:=hgo.2.1.1 rfl
  have hll:=hb.1.1
  obtain⟨pp,hpp⟩:=qBA (l:=w.pins) (i:=mi.toNat) (by omega)
  rw [q4R hpp] at hM9 hE9
  have hFp:=qIR hF
  obtain⟨ap,rfl⟩:=qUA hFp hpp
  obtain⟨hip,hcp⟩:=qYQ hFp hpp
  have hw1:mi+1=IntKind.i64.wrap (mi+1):=by rw [IntKind.wrap_i64];omega
  repeat'((conv=>whnf);first|apply qza|apply qzb|apply qzc|apply qzd|apply qze|intro(_:Nat)|refine⟨_,rfl,⟨by omega,by omega⟩,?_⟩|refine⟨_,hcp 0 _ rfl,?_⟩|fail)
  refine And.intro (fun z1=>?_) (fun z1=>?_)
  ·have z1:pp≠0:=bneT z1
   repeat((conv=>whnf);first|apply qza|apply qzb|apply qzc|apply qzd|apply qze|intro(_:Nat))
   refine And.intro (fun z2=>?_) (fun z2=>?_)
   ·have z2:pp≠wI (mep+1):=bneT z2
    rw [if_pos ⟨z1,z2⟩] at hM9
    repeat'((conv=>whnf);first|apply qza|apply qzb|apply qzc|apply qzd|apply qze|intro(_:Nat)|refine⟨_,fun gp hle hin=>qKA gp (hin.cel (id:=6) rfl 10 rfl),?_⟩|refine And.intro ?_ ?_|fail)
    all_goals (conv=>whnf)
    all_goals (first|exact Eq.refl _|(
     intro g2 hg
     refine⟨_,_,by rw [hE9]<;>rfl,by rw [hW9];exact qGA _ _ _ _ hg hF,?_⟩
     rw [hM9]
     exact⟨_,_,_,rfl,{hok with pc:=show InR (4:Int) by decide,i:=z0},hop,qDA _ _ _ _ (GW.trans hg3 hg) hcf⟩))
   ·have z2:pp=wI (mep+1):=bneF z2
    repeat((conv=>whnf);first|apply qza|apply qzb|apply qzc|apply qzd|apply qze|intro(_:Nat))
    refine And.intro (fun z3=>?_) (fun z3=>?_)
    ·have z3:mi+1<w.pins.length:=by rw [hw1];exact of_decide_eq_true z3
     rw [if_neg (fun h=>h.2 z2),if_pos z3] at hM9
     simp only at hM9
     rw [hw1] at hM9
     repeat'((conv=>whnf);first|apply qza|apply qzb|apply qzc|apply qzd|apply qze|intro(_:Nat)|refine⟨_,fun gp hle hin=>qKA gp (hin.cel (id:=6) rfl 10 rfl),?_⟩|refine And.intro ?_ ?_|fail)
     all_goals (conv=>whnf)
     all_goals (first|exact Eq.refl _|(
      intro g2 hg
      refine⟨_,_,by rw [hE9]<;>rfl,by rw [hW9];exact qGA _ _ _ _ hg hF,?_⟩
      rw [hM9]
      exact⟨_,_,_,rfl,{hok with i:=qDB _},hop,qDA _ _ _ _ (GW.trans hg3 hg) hcf⟩))
    ·have z3:¬ mi+1<w.pins.length:=by rw [hw1];exact of_decide_eq_false z3
     rw [if_neg (fun h=>h.2 z2),if_neg z3] at hM9
     simp only at hM9
     rw [hw1] at hM9
     repeat'((conv=>whnf);first|apply qza|apply qzb|apply qzc|apply qzd|apply qze|intro(_:Nat)|refine⟨_,fun gp hle hin=>qKA gp (hin.cel (id:=6) rfl 10 rfl),?_⟩|refine And.intro ?_ ?_|fail)
     all_goals (conv=>whnf)
     all_goals (first|exact Eq.refl _|(
      intro g2 hg
      refine⟨_,_,by rw [hE9]<;>rfl,by rw [hW9];exact qGA _ _ _ _ hg hF,?_⟩
      rw [hM9]
      exact⟨_,_,_,rfl,{hok with pc:=show InR (3:Int) by decide,i:=qDB _},hop,qDA _ _ _ _ (GW.trans hg3 hg) hcf⟩))
  ·have z1:pp=0:=bneF z1
   repeat((conv=>whnf);first|apply qza|apply qzb|apply qzc|apply qzd|apply qze|intro(_:Nat))
   refine And.intro (fun z3=>?_) (fun z3=>?_)
   ·have z3:mi+1<w.pins.length:=by rw [hw1];exact of_decide_eq_true z3
    rw [if_neg (fun h=>h.1 z1),if_pos z3] at hM9
    simp only at hM9
    rw [hw1] at hM9
    repeat'((conv=>whnf);first|apply qza|apply qzb|apply qzc|apply qzd|apply qze|intro(_:Nat)|refine⟨_,fun gp hle hin=>qKA gp (hin.cel (id:=6) rfl 10 rfl),?_⟩|refine And.intro ?_ ?_|fail)
    all_goals (conv=>whnf)
    all_goals (first|exact Eq.refl _|(
     intro g2 hg
     refine⟨_,_,by rw [hE9]<;>rfl,by rw [hW9];exact qGA _ _ _ _ hg hF,?_⟩
     rw [hM9]
     exact⟨_,_,_,rfl,{hok with i:=qDB _},hop,qDA _ _ _ _ (GW.trans hg3 hg) hcf⟩))
   ·have z3:¬ mi+1<w.pins.length:=by rw [hw1];exact of_decide_eq_false z3
    rw [if_neg (fun h=>h.1 z1),if_neg z3] at hM9
    simp only at hM9
    rw [hw1] at hM9
    repeat'((conv=>whnf);first|apply qza|apply qzb|apply qzc|apply qzd|apply qze|intro(_:Nat)|refine⟨_,fun gp hle hin=>qKA gp (hin.cel (id:=6) rfl 10 rfl),?_⟩|refine And.intro ?_ ?_|fail)
    all_goals (conv=>whnf)
    all_goals (first|exact Eq.refl _|(
     intro g2 hg
     refine⟨_,_,by rw [hE9]<;>rfl,by rw [hW9];exact qGA _ _ _ _ hg hF,?_⟩
     rw [hM9]
     exact⟨_,_,_,rfl,{hok with pc:=show InR (3:Int) by decide,i:=qDB _},hop,qDA _ _ _ _ (GW.trans hg3 hg) hcf⟩)))
/- Collectors: the program's step,place 3. -/
open Go.Proofs.YtkbbljngpglnkaaGreat.Sx Go.RowKit
theorem qaT (g:GW) {cs ms:List Value} {w:Wd} {m:Mach} (hw:rWo g cs w) (hM:qjC g ms m) (hsn:SnW w) (hb:BgW 1000000 w) (hgo:cGo w m) (h0:m.pc=3):Ok Tryz.prog qNA [.agg ⟨cs⟩,.agg ⟨ms⟩] g (CoP w m):=by
 obtain⟨hW9,hM9,hE9⟩:=qNG hgo
 have hs:=hgo.1
 have hmay:=qcE hgo.2.1
 obtain⟨v,gr,en,hS⟩:=id (suitB_iff.1 hs)
 obtain⟨oa,ca,ob,cb,oc,cc,od,cd,oe,ce,o1,t1,o2,t2,o3,t3,rfl,rfl,hw0,hM0,⟨i1,i2,i3⟩,hP,hV,hL,hC,hR,⟨a1,a2,a0,hP1⟩,⟨b1,b2,b0,hV1⟩,⟨c1,c2,c0,hL1⟩,⟨d1,d2,d0,hC1⟩,⟨e1,e2,e0,hR1⟩,hok,hop,hcf⟩:=qXI hw hM
 obtain⟨mop,mth,mpc,mep,mve,mli,mcl,men,mot,msl,mwo,mlk,mi,mk,msu,mdo,man,mco⟩:=m
 simp only at h0
 subst h0
 obtain⟨kW,kM,kE⟩:=cb3 (w:=w) (m:=⟨mop,mth,3,mep,mve,mli,mcl,men,mot,msl,mwo,mlk,mi,mk,msu,mdo,man,mco⟩) rfl
 rw [kW] at hW9
 rw [kM] at hM9
 rw [kE] at hE9
 clear kW kM kE
 exact Ok.of_fn hm qDF 5 qQA (args:=[.v (.agg ⟨wQ w oa ca ob cb oc cc od cd oe ce⟩),.v (.agg ⟨Mach.cs (.slice o1 mop.config.listens.length t1) (.slice o2 mop.config.routes.length t2) (.slice o3 mop.config.clusters.length t3) ⟨mop,mth,3,mep,mve,mli,mcl,men,mot,msl,mwo,mlk,mi,mk,msu,mdo,man,mco⟩⟩)]) (by
  repeat((conv=>whnf);first|apply qza|apply qzb|apply qzc|apply qzd|apply qze|intro(_:Nat))
  conv=>whnf
  refine .inl ⟨_,qyA _ hw0 hM0 hsn hb,?_⟩
  repeat((conv=>whnf);first|apply qza|apply qzb|apply qzc|apply qzd|apply qze|intro(_:Nat))
  conv=>whnf
  refine⟨fun hx=>absurd (hs.symm.trans (nb1 hx)) (by decide),fun _=>?_⟩
  repeat((conv=>whnf);first|apply qza|apply qzb|apply qzc|apply qzd|apply qze|intro(_:Nat))
  conv=>whnf
  refine .inl ⟨_,qFF _ hw0 hM0 hs hb,?_⟩
  repeat((conv=>whnf);first|apply qza|apply qzb|apply qzc|apply qzd|apply qze|intro(_:Nat))
  conv=>whnf
  refine⟨fun hx=>absurd (hmay.symm.trans (nb1 hx)) (by decide),fun _=>?_⟩
  repeat((conv=>whnf);first|apply qza|apply qzb|apply qzc|apply qzd|apply qze|intro(_:Nat))
  refine .inr ((q7B _ hw0 hb).mono fun v g3 hg3 hO=>?_)
  obtain⟨cs,T,rfl,hT⟩:=hO
  have hF:=qYD hT
  obtain⟨oa',ca',ob',cb',oc',cc',od',cd',oe',ce',rfl⟩:=qPA hF
  repeat((conv=>whnf);first|apply qza|apply qzb|apply qzc|apply qzd|apply qze|intro(_:Nat))
  rename_i q7 q8 qx qm
  conv=>whnf
  refine⟨some (.func (.func qGC) ⟨[xC q7 q8]⟩ ⟨[]⟩),rfl,?_⟩
  conv=>whnf
  refine⟨fun h=>(nomatch h),fun _=>?_⟩
  repeat((conv=>whnf);first|apply qza|apply qzb|apply qzc|apply qzd|apply qze|intro(_:Nat))
  conv=>whnf
  refine⟨qeE,[.agg [.p 5 q7 0,.p 6 q8 0]],[],⟨rfl,rfl⟩,?_⟩
  repeat((conv=>whnf);first|apply qza|apply qzb|apply qzc|apply qzd|apply qze|intro(_:Nat))
  refine And.intro (fun z1=>?_) (fun z1=>?_)
  ·have z1:w.epoch=mep:=of_decide_eq_true z1
   repeat((conv=>whnf);first|apply qza|apply qzb|apply qzc|apply qzd|apply qze|intro(_:Nat))
   refine And.intro (fun z2=>?_) (fun z2=>?_)
   ·have z2:w.epoch<1000000000000:=of_decide_eq_true z2
    rw [if_pos ⟨z1,z2⟩] at hW9 hM9 hE9
    have hep:=hS.right
    have hw1:w.epoch+1=IntKind.i64.wrap (w.epoch+1):=by unfold InR at i1;rw [IntKind.wrap_i64];omega
    rw [hw1] at hW9 hM9 hE9
    have hF1:=q6P hF (x:=IntKind.i64.wrap (w.epoch+1)) (qDB _)
    repeat'((conv=>whnf);first|apply qza|apply qzb|apply qzc|apply qzd|apply qze|intro(_:Nat)|refine⟨_,fun gp hle hin=>qKA gp (hin.cel (id:=6) rfl 10 rfl),?_⟩|refine And.intro ?_ ?_|fail)
    all_goals (conv=>whnf)
    all_goals (first|exact Eq.refl _|(
     intro g2 hg
     refine⟨_,_,by rw [hE9]<;>rfl,by rw [hW9];exact qGA _ _ _ _ hg hF1,?_⟩
     rw [hM9]
     exact⟨_,_,_,rfl,{hok with epoch:=qDB _,pc:=show InR (4:Int) by decide,i:=z0},hop,qDA _ _ _ _ (GW.trans hg3 hg) hcf⟩))
   ·have z2:¬ w.epoch<1000000000000:=of_decide_eq_false z2
    rw [if_neg fun h=>z2 h.2] at hW9 hM9 hE9
    repeat'((conv=>whnf);first|apply qza|apply qzb|apply qzc|apply qzd|apply qze|intro(_:Nat)|refine⟨_,fun gp hle hin=>qKA gp (hin.cel (id:=6) rfl 10 rfl),?_⟩|refine And.intro ?_ ?_|fail)
    all_goals (conv=>whnf)
    all_goals (first|exact Eq.refl _|(
     intro g2 hg
     refine⟨_,_,by rw [hE9]<;>rfl,by rw [hW9];exact qGA _ _ _ _ hg hF,?_⟩
     rw [hM9]
     exact⟨_,_,_,rfl,{hok with pc:=show InR (4:Int) by decide,i:=z0},hop,qDA _ _ _ _ (GW.trans hg3 hg) hcf⟩))
  ·have z1:¬ w.epoch=mep:=of_decide_eq_false z1
   rw [if_neg fun h=>z1 h.1] at hW9 hM9 hE9
   repeat'((conv=>whnf);first|apply qza|apply qzb|apply qzc|apply qzd|apply qze|intro(_:Nat)|refine⟨_,fun gp hle hin=>qKA gp (hin.cel (id:=6) rfl 10 rfl),?_⟩|refine And.intro ?_ ?_|fail)
   all_goals (conv=>whnf)
   all_goals (first|exact Eq.refl _|(
    intro g2 hg
    refine⟨_,_,by rw [hE9]<;>rfl,by rw [hW9];exact qGA _ _ _ _ hg hF,?_⟩
    rw [hM9]
    exact⟨_,_,_,rfl,{hok with pc:=show InR (4:Int) by decide,i:=z0},hop,qDA _ _ _ _ (GW.trans hg3 hg) hcf⟩)))
/- Collectors: the program's step,place 4. -/
open Go.Proofs.YtkbbljngpglnkaaGreat.Sx Go.RowKit
theorem qZT (g:GW) {cs ms:List Value} {w:Wd} {m:Mach} (hw:rWo g cs w) (hM:qjC g ms m) (hsn:SnW w) (hb:BgW 1000000 w) (hgo:cGo w m) (h0:m.pc=4):Ok Tryz.prog qNA [.agg ⟨cs⟩,.agg ⟨ms⟩] g (CoP w m):=by
 obtain⟨hW9,hM9,hE9⟩:=qNG hgo
 have hs:=hgo.1
 have hmay:=qcE hgo.2.1
 obtain⟨v,gr,en,hS⟩:=id (suitB_iff.1 hs)
 obtain⟨oa,ca,ob,cb,oc,cc,od,cd,oe,ce,o1,t1,o2,t2,o3,t3,rfl,rfl,hw0,hM0,⟨i1,i2,i3⟩,hP,hV,hL,hC,hR,⟨a1,a2,a0,hP1⟩,⟨b1,b2,b0,hV1⟩,⟨c1,c2,c0,hL1⟩,⟨d1,d2,d0,hC1⟩,⟨e1,e2,e0,hR1⟩,hok,hop,hcf⟩:=qXI hw hM
 obtain⟨mop,mth,mpc,mep,mve,mli,mcl,men,mot,msl,mwo,mlk,mi,mk,msu,mdo,man,mco⟩:=m
 simp only at h0
 subst h0
 obtain⟨kW,kM,kE⟩:=cb4 (w:=w) (m:=⟨mop,mth,4,mep,mve,mli,mcl,men,mot,msl,mwo,mlk,mi,mk,msu,mdo,man,mco⟩) rfl
 rw [kW] at hW9
 rw [kM] at hM9
 rw [kE] at hE9
 clear kW kM kE
 exact Ok.of_fn hm qDF 5 qQA (args:=[.v (.agg ⟨wQ w oa ca ob cb oc cc od cd oe ce⟩),.v (.agg ⟨Mach.cs (.slice o1 mop.config.listens.length t1) (.slice o2 mop.config.routes.length t2) (.slice o3 mop.config.clusters.length t3) ⟨mop,mth,4,mep,mve,mli,mcl,men,mot,msl,mwo,mlk,mi,mk,msu,mdo,man,mco⟩⟩)]) (by
  repeat((conv=>whnf);first|apply qza|apply qzb|apply qzc|apply qzd|apply qze|intro(_:Nat))
  conv=>whnf
  refine .inl ⟨_,qyA _ hw0 hM0 hsn hb,?_⟩
  repeat((conv=>whnf);first|apply qza|apply qzb|apply qzc|apply qzd|apply qze|intro(_:Nat))
  conv=>whnf
  refine⟨fun hx=>absurd (hs.symm.trans (nb1 hx)) (by decide),fun _=>?_⟩
  repeat((conv=>whnf);first|apply qza|apply qzb|apply qzc|apply qzd|apply qze|intro(_:Nat))
  conv=>whnf
  refine .inl ⟨_,qFF _ hw0 hM0 hs hb,?_⟩
  repeat((conv=>whnf);first|apply qza|apply qzb|apply qzc|apply qzd|apply qze|intro(_:Nat))
  conv=>whnf
  refine⟨fun hx=>absurd (hmay.symm.trans (nb1 hx)) (by decide),fun _=>?_⟩
  repeat((conv=>whnf);first|apply qza|apply qzb|apply qzc|apply qzd|apply qze|intro(_:Nat))
  refine .inr ((q7B _ hw0 hb).mono fun v g3 hg3 hO=>?_)
  obtain⟨cs,T,rfl,hT⟩:=hO
  have hF:=qYD hT
  obtain⟨oa',ca',ob',cb',oc',cc',od',cd',oe',ce',rfl⟩:=qPA hF
  repeat((conv=>whnf);first|apply qza|apply qzb|apply qzc|apply qzd|apply qze|intro(_:Nat))
  rename_i q7 q8 qx qm
  conv=>whnf
  refine⟨some (.func (.func q0B) ⟨[xC q7 q8]⟩ ⟨[]⟩),rfl,?_⟩
  conv=>whnf
  refine⟨fun h=>(nomatch h),fun _=>?_⟩
  repeat((conv=>whnf);first|apply qza|apply qzb|apply qzc|apply qzd|apply qze|intro(_:Nat))
  conv=>whnf
  refine⟨qBE,[.agg [.p 5 q7 0,.p 6 q8 0]],[],⟨rfl,rfl⟩,?_⟩
  have hi0:0≤mi:=hS.i
  have hll:=hb.1.2.2.1
  have hrl:=hb.1.2.2.2.2
  repeat((conv=>whnf);first|apply qza|apply qzb|apply qzc|apply qzd|apply qze|intro(_:Nat))
  refine And.intro (fun y=>?_) (fun y=>?_)
  ·have y:(w.limbo.length:Int)≤mi:=of_decide_eq_true y
   rw [if_pos y] at hW9 hM9 hE9
   repeat((conv=>whnf);first|apply qza|apply qzb|apply qzc|apply qzd|apply qze|intro(_:Nat))
   refine And.intro (fun z=>?_) (fun z=>?_)
   ·have z:(w.listens.length:Int)≤0:=of_decide_eq_true z
    simp only [cdW,cdM,cdE] at hW9 hM9 hE9
    rw [if_pos z] at hW9 hM9 hE9
    have hF1:=qkI hF (x:=0) (by decide)
    repeat'((conv=>whnf);first|apply qza|apply qzb|apply qzc|apply qzd|apply qze|intro(_:Nat)|refine⟨_,fun gp hle hin=>qKA gp (hin.cel (id:=6) rfl 10 rfl),?_⟩|refine And.intro ?_ ?_|fail)
    all_goals (conv=>whnf)
    all_goals (first|exact Eq.refl _|(
     intro g2 hg
     refine⟨_,_,by rw [hE9]<;>rfl,by rw [hW9];exact qGA _ _ _ _ hg hF1,?_⟩
     rw [hM9]
     exact⟨_,_,_,rfl,{hok with i:=z0,pc:=show InR (8:Int) by decide,answer:=qxQ hok.answer},hop,qDA _ _ _ _ (GW.trans hg3 hg) hcf⟩))
   ·have z:¬ (w.listens.length:Int)≤0:=of_decide_eq_false z
    simp only [cdW,cdM,cdE] at hW9 hM9 hE9
    rw [if_neg z] at hW9 hM9 hE9
    obtain⟨x,hx⟩:=qBA (l:=w.listens) (i:=(0:Int).toNat) (by omega)
    rw [qUG hx] at hM9 hE9
    have hFl:=q4J hF
    obtain⟨al,rfl⟩:=qUA hFl hx
    obtain⟨hxa,hcl⟩:=qZJ hFl hx
    obtain⟨xn,xd,xa,xc⟩:=x
    have hw1:(0:Int)+1=IntKind.i64.wrap (0+1):=by rw [IntKind.wrap_i64];omega
    have hj0:0≤(0:Int):=by omega
    have hj1:(0:Int)<w.listens.length:=by omega
    cases xd<;>cases xc
    ·simp only [Bool.false_eq_true,reduceIte,false_and,true_and,and_false,and_true,reduceCtorEq] at hW9 hM9 hE9
     rw [hw1] at hM9
     repeat'((conv=>whnf);first|apply qza|apply qzb|apply qzc|apply qzd|apply qze|intro(_:Nat)|refine⟨_,rfl,⟨hj0,hj1⟩,?_⟩|refine⟨_,⟨rfl,hcl⟩,?_⟩|refine⟨_,fun gp hle hin=>qKA gp (hin.cel (id:=6) rfl 10 rfl),?_⟩|refine⟨fun _=>?_,fun h=>absurd h.symm Bool.false_ne_true⟩|refine⟨fun h=>absurd h Bool.false_ne_true,fun _=>?_⟩|refine And.intro ?_ ?_|fail)
     all_goals (conv=>whnf)
     all_goals (first|exact Eq.refl _|(
      intro g2 hg
      refine⟨_,_,by rw [hE9]<;>rfl,by rw [hW9];exact qGA _ _ _ _ hg hF,?_⟩
      rw [hM9]
      exact⟨_,_,_,rfl,{hok with pc:=show InR (8:Int) by decide,i:=show InR (1:Int) by decide},hop,qDA _ _ _ _ (GW.trans hg3 hg) hcf⟩))
    ·simp only [Bool.false_eq_true,reduceIte,false_and,true_and,and_false,and_true,reduceCtorEq] at hW9 hM9 hE9
     rw [hw1] at hM9
     repeat'((conv=>whnf);first|apply qza|apply qzb|apply qzc|apply qzd|apply qze|intro(_:Nat)|refine⟨_,rfl,⟨hj0,hj1⟩,?_⟩|refine⟨_,⟨rfl,hcl⟩,?_⟩|refine⟨_,fun gp hle hin=>qKA gp (hin.cel (id:=6) rfl 10 rfl),?_⟩|refine⟨fun _=>?_,fun h=>absurd h.symm Bool.false_ne_true⟩|refine⟨fun h=>absurd h Bool.false_ne_true,fun _=>?_⟩|refine And.intro ?_ ?_|fail)
     all_goals (conv=>whnf)
     all_goals (first|exact Eq.refl _|(
      intro g2 hg
      refine⟨_,_,by rw [hE9]<;>rfl,by rw [hW9];exact qGA _ _ _ _ hg hF,?_⟩
      rw [hM9]
      exact⟨_,_,_,rfl,{hok with pc:=show InR (8:Int) by decide,i:=show InR (1:Int) by decide},hop,qDA _ _ _ _ (GW.trans hg3 hg) hcf⟩))
    ·simp only [Bool.false_eq_true,reduceIte,false_and,true_and,and_false,and_true,reduceCtorEq] at hW9 hM9 hE9
     repeat'((conv=>whnf);first|apply qza|apply qzb|apply qzc|apply qzd|apply qze|intro(_:Nat)|refine⟨_,rfl,⟨hj0,hj1⟩,?_⟩|refine⟨_,⟨rfl,hcl⟩,?_⟩|refine⟨_,fun gp hle hin=>qKA gp (hin.cel (id:=6) rfl 10 rfl),?_⟩|refine⟨fun _=>?_,fun h=>absurd h.symm Bool.false_ne_true⟩|refine⟨fun h=>absurd h Bool.false_ne_true,fun _=>?_⟩|refine And.intro ?_ ?_|fail)
     all_goals (conv=>whnf)
     all_goals (first|exact Eq.refl _|(
      intro g2 hg
      refine⟨_,_,by rw [hE9]<;>rfl,by rw [hW9];exact qGA _ _ _ _ hg hF,?_⟩
      rw [hM9]
      exact⟨_,_,_,rfl,{hok with i:=z0,pc:=show InR (9:Int) by decide},hop,qDA _ _ _ _ (GW.trans hg3 hg) hcf⟩))
    ·simp only [Bool.false_eq_true,reduceIte,false_and,true_and,and_false,and_true,reduceCtorEq] at hW9 hM9 hE9
     rw [hw1] at hM9
     repeat'((conv=>whnf);first|apply qza|apply qzb|apply qzc|apply qzd|apply qze|intro(_:Nat)|refine⟨_,rfl,⟨hj0,hj1⟩,?_⟩|refine⟨_,⟨rfl,hcl⟩,?_⟩|refine⟨_,fun gp hle hin=>qKA gp (hin.cel (id:=6) rfl 10 rfl),?_⟩|refine⟨fun _=>?_,fun h=>absurd h.symm Bool.false_ne_true⟩|refine⟨fun h=>absurd h Bool.false_ne_true,fun _=>?_⟩|refine And.intro ?_ ?_|fail)
     all_goals (conv=>whnf)
     all_goals (first|exact Eq.refl _|(
      intro g2 hg
      refine⟨_,_,by rw [hE9]<;>rfl,by rw [hW9];exact qGA _ _ _ _ hg hF,?_⟩
      rw [hM9]
      exact⟨_,_,_,rfl,{hok with pc:=show InR (8:Int) by decide,i:=show InR (1:Int) by decide},hop,qDA _ _ _ _ (GW.trans hg3 hg) hcf⟩))
  ·have y:¬ (w.limbo.length:Int)≤mi:=of_decide_eq_false y
   rw [if_neg y] at hW9 hM9 hE9
   obtain⟨x,hx⟩:=qBA (l:=w.limbo) (i:=mi.toNat) (by omega)
   rw [qVG hx] at hM9 hE9
   have hFr:=qIM hF
   obtain⟨ar,rfl⟩:=qUA hFr hx
   obtain⟨⟨hxv,hxt⟩,hcr⟩:=qPK hFr hx
   obtain⟨xv,xt,xg⟩:=x
   have hj0:0≤mi:=by omega
   have hj1:mi<w.limbo.length:=by omega
   have hw1:mi+1=IntKind.i64.wrap (mi+1):=by rw [IntKind.wrap_i64];omega
   cases xg
   ·by_cases hs:qlG xt mep
    ·rw [if_neg (fun h=>h.elim (fun h=>absurd h Bool.false_ne_true) fun h=>h hs)] at hM9
     repeat'((conv=>whnf);first|apply qza|apply qzb|apply qzc|apply qzd|apply qze|intro(_:Nat)|refine⟨_,rfl,⟨hj0,hj1⟩,?_⟩|refine⟨_,⟨rfl,hcr⟩,?_⟩|refine .inl ⟨_,(qJL _ hxt).to (congrArg Value.bool (decide_eq_true hs)),?_⟩|refine⟨_,fun gp hle hin=>qKA gp (hin.cel (id:=6) rfl 10 rfl),?_⟩|refine⟨fun _=>?_,fun h=>absurd h.symm Bool.false_ne_true⟩|refine⟨fun h=>absurd h Bool.false_ne_true,fun _=>?_⟩|refine And.intro ?_ ?_|fail)
     all_goals (conv=>whnf)
     all_goals (first|exact Eq.refl _|(
      intro g2 hg
      refine⟨_,_,by rw [hE9]<;>rfl,by rw [hW9];exact qGA _ _ _ _ hg hF,?_⟩
      rw [hM9]
      exact⟨_,_,_,rfl,{hok with version:=hxv,cluster:=z0,end_:=z0,other:=z0,slot:=z0,k:=z0,pc:=show InR (5:Int) by decide},hop,qDA _ _ _ _ (GW.trans hg3 hg) hcf⟩))
    ·rw [if_pos (.inr hs)] at hM9
     simp only at hM9
     rw [hw1] at hM9
     repeat'((conv=>whnf);first|apply qza|apply qzb|apply qzc|apply qzd|apply qze|intro(_:Nat)|refine⟨_,rfl,⟨hj0,hj1⟩,?_⟩|refine⟨_,⟨rfl,hcr⟩,?_⟩|refine .inl ⟨_,(qJL _ hxt).to (congrArg Value.bool (decide_eq_false hs)),?_⟩|refine⟨_,fun gp hle hin=>qKA gp (hin.cel (id:=6) rfl 10 rfl),?_⟩|refine⟨fun _=>?_,fun h=>absurd h.symm Bool.false_ne_true⟩|refine⟨fun h=>absurd h Bool.false_ne_true,fun _=>?_⟩|refine And.intro ?_ ?_|fail)
     all_goals (conv=>whnf)
     all_goals (first|exact Eq.refl _|(
      intro g2 hg
      refine⟨_,_,by rw [hE9]<;>rfl,by rw [hW9];exact qGA _ _ _ _ hg hF,?_⟩
      rw [hM9]
      exact⟨_,_,_,rfl,{hok with i:=qDB _},hop,qDA _ _ _ _ (GW.trans hg3 hg) hcf⟩))
   ·rw [if_pos (.inl rfl)] at hM9
    simp only at hM9
    rw [hw1] at hM9
    repeat'((conv=>whnf);first|apply qza|apply qzb|apply qzc|apply qzd|apply qze|intro(_:Nat)|refine⟨_,rfl,⟨hj0,hj1⟩,?_⟩|refine⟨_,⟨rfl,hcr⟩,?_⟩|refine⟨_,fun gp hle hin=>qKA gp (hin.cel (id:=6) rfl 10 rfl),?_⟩|refine⟨fun _=>?_,fun h=>absurd h.symm Bool.false_ne_true⟩|refine⟨fun h=>absurd h Bool.false_ne_true,fun _=>?_⟩|refine And.intro ?_ ?_|fail)
    all_goals (conv=>whnf)
    all_goals (first|exact Eq.refl _|(
     intro g2 hg
     refine⟨_,_,by rw [hE9]<;>rfl,by rw [hW9];exact qGA _ _ _ _ hg hF,?_⟩
     rw [hM9]
     exact⟨_,_,_,rfl,{hok with i:=qDB _},hop,qDA _ _ _ _ (GW.trans hg3 hg) hcf⟩)))
/- Collectors: the program's step,place 5. -/
open Go.Proofs.YtkbbljngpglnkaaGreat.Sx Go.RowKit
theorem qYT (g:GW) {cs ms:List Value} {w:Wd} {m:Mach} (hw:rWo g cs w) (hM:qjC g ms m) (hsn:SnW w) (hb:BgW 1000000 w) (hgo:cGo w m) (h0:m.pc=5):Ok Tryz.prog qNA [.agg ⟨cs⟩,.agg ⟨ms⟩] g (CoP w m):=by
 obtain⟨hW9,hM9,hE9⟩:=qNG hgo
 have hs:=hgo.1
 have hmay:=qcE hgo.2.1
 obtain⟨v,gr,en,hS⟩:=id (suitB_iff.1 hs)
 obtain⟨oa,ca,ob,cb,oc,cc,od,cd,oe,ce,o1,t1,o2,t2,o3,t3,rfl,rfl,hw0,hM0,⟨i1,i2,i3⟩,hP,hV,hL,hC,hR,⟨a1,a2,a0,hP1⟩,⟨b1,b2,b0,hV1⟩,⟨c1,c2,c0,hL1⟩,⟨d1,d2,d0,hC1⟩,⟨e1,e2,e0,hR1⟩,hok,hop,hcf⟩:=qXI hw hM
 obtain⟨mop,mth,mpc,mep,mve,mli,mcl,men,mot,msl,mwo,mlk,mi,mk,msu,mdo,man,mco⟩:=m
 simp only at h0
 subst h0
 obtain⟨kW,kM,kE⟩:=cb5 (w:=w) (m:=⟨mop,mth,5,mep,mve,mli,mcl,men,mot,msl,mwo,mlk,mi,mk,msu,mdo,man,mco⟩) rfl
 rw [kW] at hW9
 rw [kM] at hM9
 rw [kE] at hE9
 clear kW kM kE
 exact Ok.of_fn hm qDF 5 qQA (args:=[.v (.agg ⟨wQ w oa ca ob cb oc cc od cd oe ce⟩),.v (.agg ⟨Mach.cs (.slice o1 mop.config.listens.length t1) (.slice o2 mop.config.routes.length t2) (.slice o3 mop.config.clusters.length t3) ⟨mop,mth,5,mep,mve,mli,mcl,men,mot,msl,mwo,mlk,mi,mk,msu,mdo,man,mco⟩⟩)]) (by
  repeat((conv=>whnf);first|apply qza|apply qzb|apply qzc|apply qzd|apply qze|intro(_:Nat))
  conv=>whnf
  refine .inl ⟨_,qyA _ hw0 hM0 hsn hb,?_⟩
  repeat((conv=>whnf);first|apply qza|apply qzb|apply qzc|apply qzd|apply qze|intro(_:Nat))
  conv=>whnf
  refine⟨fun hx=>absurd (hs.symm.trans (nb1 hx)) (by decide),fun _=>?_⟩
  repeat((conv=>whnf);first|apply qza|apply qzb|apply qzc|apply qzd|apply qze|intro(_:Nat))
  conv=>whnf
  refine .inl ⟨_,qFF _ hw0 hM0 hs hb,?_⟩
  repeat((conv=>whnf);first|apply qza|apply qzb|apply qzc|apply qzd|apply qze|intro(_:Nat))
  conv=>whnf
  refine⟨fun hx=>absurd (hmay.symm.trans (nb1 hx)) (by decide),fun _=>?_⟩
  repeat((conv=>whnf);first|apply qza|apply qzb|apply qzc|apply qzd|apply qze|intro(_:Nat))
  refine .inr ((q7B _ hw0 hb).mono fun v g3 hg3 hO=>?_)
  obtain⟨cs,T,rfl,hT⟩:=hO
  have hF:=qYD hT
  obtain⟨oa',ca',ob',cb',oc',cc',od',cd',oe',ce',rfl⟩:=qPA hF
  repeat((conv=>whnf);first|apply qza|apply qzb|apply qzc|apply qzd|apply qze|intro(_:Nat))
  rename_i q7 q8 qx qm
  conv=>whnf
  refine⟨some (.func (.func qmB) ⟨[xC q7 q8]⟩ ⟨[]⟩),rfl,?_⟩
  conv=>whnf
  refine⟨fun h=>(nomatch h),fun _=>?_⟩
  repeat((conv=>whnf);first|apply qza|apply qzb|apply qzc|apply qzd|apply qze|intro(_:Nat))
  conv=>whnf
  refine⟨qtD,[.agg [.p 5 q7 0,.p 6 q8 0]],[],⟨rfl,rfl⟩,?_⟩
  have hi0:0≤mi:=hS.i
  have hk0:0≤mk:=hS.k
  have hvv:0≤mve∧w.versions[mve.toNat]?=some v:=hS.ver
  have hvl:=(List.getElem?_eq_some_iff.1 hvv.2).1
  have hv1:mve<w.versions.length:=by omega
  have hvb:=hb.2.2 v (List.mem_of_getElem? hvv.2)
  have hkl:=hgo.2.1.2.1 rfl
  rw [hS.at_.1] at hM9 hkl
  have hkl:mk<(q3A v).length:=hkl
  have hll:(q3A v).length≤1000000000000:=by
   have:=qwI hvb v.groups.length (Nat.le_refl _)
   have h2:=hvb.1
   have h3:qSD v v.groups.length=q3A v:=by unfold qSD q3A;rw [List.take_length]
   rw [h3] at this
   omega
  obtain⟨x,hx⟩:=qBA (l:=q3A v) (i:=mk.toNat) (by omega)
  have hx':(q3A (mV w ⟨mop,mth,5,mep,mve,mli,mcl,men,mot,msl,mwo,mlk,mi,mk,msu,mdo,man,mco⟩))[mk.toNat]?=some x:=by rw [hS.at_.1];exact hx
  rw [qqT hx'] at hM9 hE9
  unfold evV at hE9
  rw [hS.at_.1] at hE9
  have hFv:=qfN hF
  obtain⟨av,rfl⟩:=qUA hFv hvv.2
  obtain⟨oL,cL,oR,cR,oC,cC,oG,cG,hcv,hsn3,_,hG⟩:=qzL hFv hvv.2
  repeat'((conv=>whnf);first|apply qza|apply qzb|apply qzc|apply qzd|apply qze|intro(_:Nat)|refine⟨_,rfl,⟨hvv.1,hv1⟩,?_⟩|refine⟨_,⟨rfl,hcv⟩,?_⟩|fail)
  refine .inr ((qaO _ ⟨_,_,_,_,rfl,hsn3,hG⟩ hvb).mono fun y g4 hg4 hE=>?_)
  obtain⟨oe',ce',rfl,hEs⟩:=hE
  obtain⟨ae,rfl⟩:=qUA hEs hx
  obtain⟨oN,cN,hce,hie⟩:=q9R hEs hx
  have hF4:=qGA _ _ _ _ hg4 hF
  have hw1:mk+1=IntKind.i64.wrap (mk+1):=by rw [IntKind.wrap_i64];omega
  repeat'((conv=>whnf);first|apply qza|apply qzb|apply qzc|apply qzd|apply qze|intro(_:Nat)|refine⟨_,rfl,⟨hk0,hkl⟩,?_⟩|refine⟨_,hce 2 _ rfl,?_⟩|refine⟨_,fun gp hle hin=>qKA gp (hin.cel (id:=6) rfl 10 rfl),?_⟩|fail)
  refine And.intro (fun z=>?_) (fun z=>?_)
  ·have z:x.active≠0:=bneT z
   rw [if_pos z] at hM9
   repeat'((conv=>whnf);first|apply qza|apply qzb|apply qzc|apply qzd|apply qze|intro(_:Nat)|refine⟨_,fun gp hle hin=>qKA gp (hin.cel (id:=6) rfl 10 rfl),?_⟩|refine⟨fun _=>?_,fun h=>absurd h.symm Bool.false_ne_true⟩|refine⟨fun h=>absurd h Bool.false_ne_true,fun _=>?_⟩|refine And.intro ?_ ?_|fail)
   all_goals (conv=>whnf)
   all_goals (first|exact Eq.refl _|(
    intro g2 hg
    refine⟨_,_,by rw [hE9]<;>rfl,by rw [hW9];exact qGA _ _ _ _ hg hF4,?_⟩
    rw [hM9]
    exact⟨_,_,_,rfl,{hok with pc:=show InR (4:Int) by decide,i:=qDB _},hop,qDA _ _ _ _ (GW.trans (GW.trans hg3 hg4) hg) hcf⟩))
  ·have z:x.active=0:=bneF z
   rw [if_neg fun h=>h z] at hM9
   repeat((conv=>whnf);first|apply qza|apply qzb|apply qzc|apply qzd|apply qze|intro(_:Nat))
   refine And.intro (fun z3=>?_) (fun z3=>?_)
   ·have z3:mk+1<(q3A v).length:=by rw [hw1];exact of_decide_eq_true z3
    rw [if_pos z3] at hM9
    simp only at hM9
    rw [hw1] at hM9
    repeat'((conv=>whnf);first|apply qza|apply qzb|apply qzc|apply qzd|apply qze|intro(_:Nat)|refine⟨_,fun gp hle hin=>qKA gp (hin.cel (id:=6) rfl 10 rfl),?_⟩|refine⟨fun _=>?_,fun h=>absurd h.symm Bool.false_ne_true⟩|refine⟨fun h=>absurd h Bool.false_ne_true,fun _=>?_⟩|refine And.intro ?_ ?_|fail)
    all_goals (conv=>whnf)
    all_goals (first|exact Eq.refl _|(
     intro g2 hg
     refine⟨_,_,by rw [hE9]<;>rfl,by rw [hW9];exact qGA _ _ _ _ hg hF4,?_⟩
     rw [hM9]
     exact⟨_,_,_,rfl,{hok with k:=qDB _},hop,qDA _ _ _ _ (GW.trans (GW.trans hg3 hg4) hg) hcf⟩))
   ·have z3:¬ mk+1<(q3A v).length:=by rw [hw1];exact of_decide_eq_false z3
    rw [if_neg z3] at hM9
    simp only at hM9
    rw [hw1] at hM9
    repeat'((conv=>whnf);first|apply qza|apply qzb|apply qzc|apply qzd|apply qze|intro(_:Nat)|refine⟨_,fun gp hle hin=>qKA gp (hin.cel (id:=6) rfl 10 rfl),?_⟩|refine⟨fun _=>?_,fun h=>absurd h.symm Bool.false_ne_true⟩|refine⟨fun h=>absurd h Bool.false_ne_true,fun _=>?_⟩|refine And.intro ?_ ?_|fail)
    all_goals (conv=>whnf)
    all_goals (first|exact Eq.refl _|(
     intro g2 hg
     refine⟨_,_,by rw [hE9]<;>rfl,by rw [hW9];exact qGA _ _ _ _ hg hF4,?_⟩
     rw [hM9]
     exact⟨_,_,_,rfl,{hok with k:=qDB _,pc:=show InR (6:Int) by decide},hop,qDA _ _ _ _ (GW.trans (GW.trans hg3 hg4) hg) hcf⟩)))
end Go.Proofs.YtkbbljngpglnkaaGreat
