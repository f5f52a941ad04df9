/- Counts: their sum. -/
import Derived.Test.YtkbbljngpglnkaaLS7b
import Derived.Test.YtkbbljngpglnkaaPl
import Derived.Test.YtkbbljngpglnkaaLW9w
set_option linter.unusedVariables false
set_option linter.unusedSimpArgs false
namespace Go.Proofs.Ytkbbljngpglnkaa
open Go.Proofs.Ytkbbljngpglnkaa.Sx Go.RowKit
set_option maxHeartbeats 16000000
set_option maxRecDepth 100000
theorem kn6 {k:Nat} (h:k<6):k=0∨k=1∨k=2∨k=3∨k=4∨k=5:=by omega
theorem qaO (g:GW) {v:Value} {l:List (List Int)} (hl:rSl 1 rRow g v l) (h:qnA l=true):OkV Try.prog qyK [v] g (.tuple #[.agg ⟨(qXA l (6*l.length)).cs⟩,.int .i64 0]):=by
 obtain⟨oa,ca,rfl,a1,a2,a0,hr⟩:=id hl
 have h6:∀ r∈l,r.length=6:=by
  unfold qnA at h
  simp only [Bool.and_eq_true,List.all_eq_true,decide_eq_true_eq] at h
  exact h.1.1
 exact Ok.of_fn hm noT 0 qYK (args:=[.v (.slice oa l.length ca)]) (by
  repeat((conv=>whnf);first|apply qza|apply qzb|apply qzc|apply qzd|apply qze|intro(_:Nat))
  rename_i q2 q4
  conv=>whnf
  refine .inl ⟨_,(q2M _ hl).to (congrArg Value.bool h),?_⟩
  repeat((conv=>whnf);first|apply qza|apply qzb|apply qzc|apply qzd|apply qze|intro(_:Nat))
  conv=>whnf
  refine⟨fun h=>(nomatch h),fun _=>?_⟩
  repeat((conv=>whnf);first|apply qza|apply qzb|apply qzc|apply qzd|apply qze|intro(_:Nat))
  conv=>whnf
  refine⟨Nat,fun i=>[.v (.int .i64 i)],fun i=>⟨g,[.blk 1 q4 qGA ((qXA l (6*i)).cs.map SV.v),.blk 0 q2 qGA (c60.cs.map SV.v)],40,_⟩,fun i=>i≤l.length,fun i=>l.length-i,fun fr u hu=>⟨0,rfl,Nat.zero_le _,hu.fit (by simp [fitL,Res.eqv,qAA,conc,qXA,c60])⟩,?_⟩
  intro i hi
  repeat((conv=>whnf);first|apply qza|apply qzb|apply qzc|apply qzd|apply qze|intro(_:Nat))
  conv=>whnf
  refine⟨fun y1=>?_,fun y1=>?_⟩
  ·have hlt:i<l.length:=by have:=of_decide_eq_true y1;omega
   obtain⟨row,hrow⟩:=qDA hlt
   obtain⟨ad,rfl,ec,hec,⟨rv,rfl,hrv⟩,hcr⟩:=hr i row hrow
   obtain⟨ao,ac,rfl,r1,r2,r0,hr1⟩:=id hrv
   have hlen:=h6 row (List.mem_of_getElem? hrow)
   repeat((conv=>whnf);first|apply qza|apply qzb|apply qzc|apply qzd|apply qze|intro(_:Nat))
   conv=>whnf
   refine⟨_,rfl,⟨by omega,by omega⟩,?_⟩
   repeat((conv=>whnf);first|apply qza|apply qzb|apply qzc|apply qzd|apply qze|intro(_:Nat))
   conv=>whnf
   refine⟨_,hcr 0 _ rfl,?_⟩
   repeat((conv=>whnf);first|apply qza|apply qzb|apply qzc|apply qzd|apply qze|intro(_:Nat))
   conv=>whnf
   refine⟨Nat,fun k=>[.v (.int .i64 k)],fun k=>⟨g,[.blk 1 q4 qGA ((qXA l (6*i+k)).cs.map SV.v),.blk 0 q2 qGA (c60.cs.map SV.v)],40,_⟩,fun k=>k≤6,fun k=>6-k,qJA 0 rfl (Nat.zero_le _) rfl,?_⟩
   intro k hk
   repeat((conv=>whnf);first|apply qza|apply qzb|apply qzc|apply qzd|apply qze|intro(_:Nat))
   conv=>whnf
   refine⟨fun y2=>?_,fun y2=>?_⟩
   ·have hk6:k<6:=by have:=of_decide_eq_true y2;omega
    obtain⟨x,hx⟩:=qDA (l:=row) (i:=k) (by omega)
    obtain⟨ar,rfl,ec2,hec2,⟨rfl,hxu⟩,hcx⟩:=hr1 k x hx
    have hcell:qQA l i k=x:=by unfold qQA;rw [hrow];show(row[k]?).getD 0=x;rw [hx];rfl
    replace hcx:=hcx 0 _ rfl
    rcases kn6 hk6 with rfl|rfl|rfl|rfl|rfl|rfl
    ·repeat((conv=>whnf);first|apply qza|apply qzb|apply qzc|apply qzd|apply qze|intro(_:Nat))
     conv=>whnf
     refine⟨0,⟨rfl,by decide⟩,?_⟩
     repeat((conv=>whnf);first|apply qza|apply qzb|apply qzc|apply qzd|apply qze|intro(_:Nat))
     conv=>whnf
     refine⟨_,rfl,⟨by omega,by omega⟩,?_⟩
     repeat((conv=>whnf);first|apply qza|apply qzb|apply qzc|apply qzd|apply qze|intro(_:Nat))
     conv=>whnf
     refine⟨_,hcx,?_⟩
     repeat((conv=>whnf);first|apply qza|apply qzb|apply qzc|apply qzd|apply qze|intro(_:Nat))
     conv=>whnf
     refine⟨0,⟨rfl,by decide⟩,?_⟩
     repeat((conv=>whnf);first|apply qza|apply qzb|apply qzc|apply qzd|apply qze|intro(_:Nat))
     conv=>whnf
     refine fun fr u hu=>⟨1,rfl,by decide,by decide,hu.fit (by have hst:=qHC l (i:=i) (k:=0) (by decide);rw [hcell] at hst;show fitL _ [.blk 1 q4 qGA ((qXA l (6*i+0+1)).cs.map SV.v),.blk 0 q2 qGA (c60.cs.map SV.v)];rw [hst];simp [fitL,Res.eqv,qAA,conc,C6.set,C6.get])⟩
    ·repeat((conv=>whnf);first|apply qza|apply qzb|apply qzc|apply qzd|apply qze|intro(_:Nat))
     conv=>whnf
     refine⟨1,⟨rfl,by decide⟩,?_⟩
     repeat((conv=>whnf);first|apply qza|apply qzb|apply qzc|apply qzd|apply qze|intro(_:Nat))
     conv=>whnf
     refine⟨_,rfl,⟨by omega,by omega⟩,?_⟩
     repeat((conv=>whnf);first|apply qza|apply qzb|apply qzc|apply qzd|apply qze|intro(_:Nat))
     conv=>whnf
     refine⟨_,hcx,?_⟩
     repeat((conv=>whnf);first|apply qza|apply qzb|apply qzc|apply qzd|apply qze|intro(_:Nat))
     conv=>whnf
     refine⟨1,⟨rfl,by decide⟩,?_⟩
     repeat((conv=>whnf);first|apply qza|apply qzb|apply qzc|apply qzd|apply qze|intro(_:Nat))
     conv=>whnf
     refine fun fr u hu=>⟨2,rfl,by decide,by decide,hu.fit (by have hst:=qHC l (i:=i) (k:=1) (by decide);rw [hcell] at hst;show fitL _ [.blk 1 q4 qGA ((qXA l (6*i+1+1)).cs.map SV.v),.blk 0 q2 qGA (c60.cs.map SV.v)];rw [hst];simp [fitL,Res.eqv,qAA,conc,C6.set,C6.get])⟩
    ·repeat((conv=>whnf);first|apply qza|apply qzb|apply qzc|apply qzd|apply qze|intro(_:Nat))
     conv=>whnf
     refine⟨2,⟨rfl,by decide⟩,?_⟩
     repeat((conv=>whnf);first|apply qza|apply qzb|apply qzc|apply qzd|apply qze|intro(_:Nat))
     conv=>whnf
     refine⟨_,rfl,⟨by omega,by omega⟩,?_⟩
     repeat((conv=>whnf);first|apply qza|apply qzb|apply qzc|apply qzd|apply qze|intro(_:Nat))
     conv=>whnf
     refine⟨_,hcx,?_⟩
     repeat((conv=>whnf);first|apply qza|apply qzb|apply qzc|apply qzd|apply qze|intro(_:Nat))
     conv=>whnf
     refine⟨2,⟨rfl,by decide⟩,?_⟩
     repeat((conv=>whnf);first|apply qza|apply qzb|apply qzc|apply qzd|apply qze|intro(_:Nat))
     conv=>whnf
     refine fun fr u hu=>⟨3,rfl,by decide,by decide,hu.fit (by have hst:=qHC l (i:=i) (k:=2) (by decide);rw [hcell] at hst;show fitL _ [.blk 1 q4 qGA ((qXA l (6*i+2+1)).cs.map SV.v),.blk 0 q2 qGA (c60.cs.map SV.v)];rw [hst];simp [fitL,Res.eqv,qAA,conc,C6.set,C6.get])⟩
    ·repeat((conv=>whnf);first|apply qza|apply qzb|apply qzc|apply qzd|apply qze|intro(_:Nat))
     conv=>whnf
     refine⟨3,⟨rfl,by decide⟩,?_⟩
     repeat((conv=>whnf);first|apply qza|apply qzb|apply qzc|apply qzd|apply qze|intro(_:Nat))
     conv=>whnf
     refine⟨_,rfl,⟨by omega,by omega⟩,?_⟩
     repeat((conv=>whnf);first|apply qza|apply qzb|apply qzc|apply qzd|apply qze|intro(_:Nat))
     conv=>whnf
     refine⟨_,hcx,?_⟩
     repeat((conv=>whnf);first|apply qza|apply qzb|apply qzc|apply qzd|apply qze|intro(_:Nat))
     conv=>whnf
     refine⟨3,⟨rfl,by decide⟩,?_⟩
     repeat((conv=>whnf);first|apply qza|apply qzb|apply qzc|apply qzd|apply qze|intro(_:Nat))
     conv=>whnf
     refine fun fr u hu=>⟨4,rfl,by decide,by decide,hu.fit (by have hst:=qHC l (i:=i) (k:=3) (by decide);rw [hcell] at hst;show fitL _ [.blk 1 q4 qGA ((qXA l (6*i+3+1)).cs.map SV.v),.blk 0 q2 qGA (c60.cs.map SV.v)];rw [hst];simp [fitL,Res.eqv,qAA,conc,C6.set,C6.get])⟩
    ·repeat((conv=>whnf);first|apply qza|apply qzb|apply qzc|apply qzd|apply qze|intro(_:Nat))
     conv=>whnf
     refine⟨4,⟨rfl,by decide⟩,?_⟩
     repeat((conv=>whnf);first|apply qza|apply qzb|apply qzc|apply qzd|apply qze|intro(_:Nat))
     conv=>whnf
     refine⟨_,rfl,⟨by omega,by omega⟩,?_⟩
     repeat((conv=>whnf);first|apply qza|apply qzb|apply qzc|apply qzd|apply qze|intro(_:Nat))
     conv=>whnf
     refine⟨_,hcx,?_⟩
     repeat((conv=>whnf);first|apply qza|apply qzb|apply qzc|apply qzd|apply qze|intro(_:Nat))
     conv=>whnf
     refine⟨4,⟨rfl,by decide⟩,?_⟩
     repeat((conv=>whnf);first|apply qza|apply qzb|apply qzc|apply qzd|apply qze|intro(_:Nat))
     conv=>whnf
     refine fun fr u hu=>⟨5,rfl,by decide,by decide,hu.fit (by have hst:=qHC l (i:=i) (k:=4) (by decide);rw [hcell] at hst;show fitL _ [.blk 1 q4 qGA ((qXA l (6*i+4+1)).cs.map SV.v),.blk 0 q2 qGA (c60.cs.map SV.v)];rw [hst];simp [fitL,Res.eqv,qAA,conc,C6.set,C6.get])⟩
    ·repeat((conv=>whnf);first|apply qza|apply qzb|apply qzc|apply qzd|apply qze|intro(_:Nat))
     conv=>whnf
     refine⟨5,⟨rfl,by decide⟩,?_⟩
     repeat((conv=>whnf);first|apply qza|apply qzb|apply qzc|apply qzd|apply qze|intro(_:Nat))
     conv=>whnf
     refine⟨_,rfl,⟨by omega,by omega⟩,?_⟩
     repeat((conv=>whnf);first|apply qza|apply qzb|apply qzc|apply qzd|apply qze|intro(_:Nat))
     conv=>whnf
     refine⟨_,hcx,?_⟩
     repeat((conv=>whnf);first|apply qza|apply qzb|apply qzc|apply qzd|apply qze|intro(_:Nat))
     conv=>whnf
     refine⟨5,⟨rfl,by decide⟩,?_⟩
     repeat((conv=>whnf);first|apply qza|apply qzb|apply qzc|apply qzd|apply qze|intro(_:Nat))
     conv=>whnf
     refine fun fr u hu=>⟨6,rfl,by decide,by decide,hu.fit (by have hst:=qHC l (i:=i) (k:=5) (by decide);rw [hcell] at hst;show fitL _ [.blk 1 q4 qGA ((qXA l (6*i+5+1)).cs.map SV.v),.blk 0 q2 qGA (c60.cs.map SV.v)];rw [hst];simp [fitL,Res.eqv,qAA,conc,C6.set,C6.get])⟩
   ·have hk6:k=6:=by have:=of_decide_eq_false y2;omega
    subst hk6
    repeat((conv=>whnf);first|apply qza|apply qzb|apply qzc|apply qzd|apply qze|intro(_:Nat))
    conv=>whnf
    refine fun fr u hu=>⟨i+1,congrArg (fun z=>[Value.int .i64 z]) (show((i+1:Nat):Int)=IntKind.i64.wrap ((i:Int)+1) by rw [wr (x:=(i:Int)+1) (by unfold InR;unfold maxLen at a2;omega)];omega),hlt,by show l.length-(i+1)<l.length-i;omega,hu.fit (by simp [fitL,Res.eqv,qAA,conc,Nat.mul_succ])⟩
  have hil:i=l.length:=by have:=of_decide_eq_false y1;omega
  subst hil
  repeat((conv=>whnf);first|apply qza|apply qzb|apply qzc|apply qzd|apply qze|intro(_:Nat))
  conv=>whnf
  intro g2 hg
  rfl)
/- The law StatsAlone. -/
open Go.Proofs.Ytkbbljngpglnkaa.Sx Go.RowKit
structure SaSt where
 n:Nat
 g:GW
 o1:Option Addr
 t1:Nat
 o2:Option Addr
 t2:Nat
 o3:Option Addr
 t3:Nat
def mT (t:Int):Mach:={mP 0 0 with thread:=t,op:={op0 with kind:=6}}
theorem qwO (g:GW) {t:Int} (h:InR t):q2E g ((mT t).cs (.slice none 0 0) (.slice none 0 0) (.slice none 0 0)) (mT t) :=
 ⟨_,_,_,rfl,⟨h,z0,z0,z0,z0,z0,z0,z0,z0,zu,z0,z0,z0,z0,qVN,qON⟩,⟨(by decide:InR 6),z0,z0,z0⟩,qyG g⟩
abbrev SaSt.ms (x:SaSt) (w:Wd) (t:Int):List Value:=(mA w.counts (mT t) x.n).cs (.slice x.o1 (mA w.counts (mT t) x.n).op.config.listens.length x.t1) (.slice x.o2 (mA w.counts (mT t) x.n).op.config.routes.length x.t2) (.slice x.o3 (mA w.counts (mT t) x.n).op.config.clusters.length x.t3)
/- Counts: one is added. -/
open Go.Proofs.Ytkbbljngpglnkaa.Sx Go.RowKit
def qiP:RP (List Int):=fun g cs x=>∃ n,cs=[n]∧rSl 1 rInt g n x
def AddP (l:List (List Int)) (t k:Int) (v:Value) (g':GW):Prop :=
 (¬ ((0≤t∧t<l.length)∧0≤k∧k<6)∧∃ u,v=.tuple #[u,.int .i64 1]) ∨
 (((0≤t∧t<l.length)∧0≤k∧k<6)∧∃ oa n cap row x,n=l.length∧l[t.toNat]?=some row∧row[k.toNat]?=some x∧v=.tuple #[.slice oa n cap,.int .i64 0]∧rSl 1 rRow g' (.slice oa n cap) (l.set t.toNat (row.set k.toNat (wU (x+1)))))
theorem qsO {g:GW} {oa:Option Addr} {ca:Nat} {l:List (List Int)} (h:rSl 1 rRow g (.slice oa l.length ca) l):∃ vs:List Value,vs.length=l.length∧RdSl g 1 (.slice oa l.length ca) l.length vs∧(∀ u∈vs,u.oneCell'=true)∧∀ (i:Nat) x,l[i]?=some x→∃ u,vs[i]?=some u∧rRow g [u] x:=by
 obtain⟨oa',ca',hq,a1,a2,a0,hr⟩:=id h
 cases hq
 have key:∀ i,∃ u:Value,∀ x,l[i]?=some x→∃ a,oa=some a∧rRow g [u] x∧Rc g (a.add i) u:=fun i=>by
  cases hx:l[i]? with
  | none=>exact⟨undef,fun x h=>by cases h⟩
  | some x =>
   obtain⟨a,ha,ec,hec,hR,hc⟩:=hr i x hx
   match ec,hec with
   | [u],_=>exact⟨u,fun y hy=>by cases hy;exact⟨a,ha,hR,by have:=hc 0 u rfl;rwa [Nat.mul_one,qXN] at this⟩⟩
 obtain⟨f,hf⟩:=Classical.axiomOfChoice key
 have hv:∀ (i:Nat) x,l[i]?=some x→((List.range l.length).map f)[i]?=some (f i):=fun i x hx=>by
  have:=(List.getElem?_eq_some_iff.1 hx).1
  simp [this]
 refine⟨(List.range l.length).map f,by simp,⟨by simp,oa,ca,rfl,a1,a2,a0,fun i u hu=>?_⟩,fun u hu=>?_,fun i x hx=>?_⟩
 ·have hi:i<l.length:=by have:=(List.getElem?_eq_some_iff.1 hu).1;simpa using this
  obtain⟨x,hx⟩:=qDA hi
  obtain⟨a,ha,_,hc⟩:=hf i x hx
  rw [hv i x hx] at hu
  cases hu
  exact⟨a,ha,hc⟩
 ·obtain⟨i,hi,rfl⟩:=List.mem_map.1 hu
  obtain⟨x,hx⟩:=qDA (l:=l) (by simpa using hi)
  obtain⟨_,_,⟨v,he,⟨_,_,rfl,_⟩⟩,_⟩:=hf i x hx
  have he:f i=_:=(List.cons.inj he).1
  rw [he];rfl
 ·obtain⟨a,ha,hR,_⟩:=hf i x hx
  exact⟨f i,hv i x hx,hR⟩
theorem qtP (g:GW) {v:Value} {l:List (List Int)} (hl:rSl 1 rRow g v l) (hs:qnA l=true) {t k:Int}:Ok Try.prog q0K [v,.int .i64 t,.int .i64 k] g (AddP l t k):=by
 obtain⟨oa,ca,rfl,a1,a2,a0,hr⟩:=id hl
 exact Ok.of_fn hm noT 0 qaK (args:=[.v (.slice oa l.length ca),.v (.int .i64 t),.v (.int .i64 k)]) (by
  repeat((conv=>whnf);first|apply qza|apply qzb|apply qzc|apply qzd|apply qze|intro(_:Nat))
  conv=>whnf
  refine .inl ⟨_,(q2M _ hl).to (congrArg Value.bool hs),?_⟩
  repeat((conv=>whnf);first|apply qza|apply qzb|apply qzc|apply qzd|apply qze|intro(_:Nat))
  conv=>whnf
  refine⟨fun hx=>absurd hx (by decide),fun _=>?_⟩
  repeat((conv=>whnf);first|apply qza|apply qzb|apply qzc|apply qzd|apply qze|intro(_:Nat))
  refine And.intro (fun z1=>?_) (fun z1=>?_)
  ·have z1:=of_decide_eq_true z1
   repeat((conv=>whnf);first|apply qza|apply qzb|apply qzc|apply qzd|apply qze|intro(_:Nat))
   conv=>whnf
   intro g2 hg
   exact .inl ⟨by omega,_,rfl⟩
  have z1:=of_decide_eq_false z1
  repeat((conv=>whnf);first|apply qza|apply qzb|apply qzc|apply qzd|apply qze|intro(_:Nat))
  refine And.intro (fun z2=>?_) (fun z2=>?_)
  ·have z2:=of_decide_eq_true z2
   repeat((conv=>whnf);first|apply qza|apply qzb|apply qzc|apply qzd|apply qze|intro(_:Nat))
   conv=>whnf
   intro g2 hg
   exact .inl ⟨by omega,_,rfl⟩
  have z2:=of_decide_eq_false z2
  repeat((conv=>whnf);first|apply qza|apply qzb|apply qzc|apply qzd|apply qze|intro(_:Nat))
  refine And.intro (fun z3=>?_) (fun z3=>?_)
  ·have z3:=of_decide_eq_true z3
   repeat((conv=>whnf);first|apply qza|apply qzb|apply qzc|apply qzd|apply qze|intro(_:Nat))
   conv=>whnf
   intro g2 hg
   exact .inl ⟨by omega,_,rfl⟩
  have z3:=of_decide_eq_false z3
  repeat((conv=>whnf);first|apply qza|apply qzb|apply qzc|apply qzd|apply qze|intro(_:Nat))
  refine And.intro (fun z4=>?_) (fun z4=>?_)
  ·have z4:=of_decide_eq_true z4
   repeat((conv=>whnf);first|apply qza|apply qzb|apply qzc|apply qzd|apply qze|intro(_:Nat))
   conv=>whnf
   intro g2 hg
   exact .inl ⟨by omega,_,rfl⟩
  have z4:=of_decide_eq_false z4
  repeat((conv=>whnf);first|apply qza|apply qzb|apply qzc|apply qzd|apply qze|intro(_:Nat))
  have hgood:(0≤t∧t<l.length)∧0≤k∧k<6:=by omega
  obtain⟨row,hrow⟩:=qDA (l:=l) (i:=t.toNat) (by omega)
  have h6:row.length=6:=by
   unfold qnA at hs
   simp only [Bool.and_eq_true,List.all_eq_true,decide_eq_true_eq] at hs
   exact hs.1.1 row (List.mem_of_getElem? hrow)
  have hl8:l.length≤8:=by
   unfold qnA at hs
   simp only [Bool.and_eq_true,decide_eq_true_eq] at hs
   exact hs.2
  obtain⟨vs,hvl,hvr,hv1,hvx⟩:=qsO hl
  obtain⟨ar,rfl,er,her,⟨vr,rfl,hrr⟩,hcr⟩:=hr t.toNat row hrow
  obtain⟨orr,crr,rfl,_,_,_,hrr1⟩:=id hrr
  obtain⟨x,hx⟩:=qDA (l:=row) (i:=k.toNat) (by omega)
  have hrU:∀ y∈row,InU y:=fun y hy=>by
   obtain⟨i,hi⟩:=List.getElem?_of_mem hy
   obtain⟨_,_,_,_,⟨_,h⟩,_⟩:=hrr1 i y hi
   exact h
  have hrd:RdSl g 1 (.slice orr row.length crr) row.length ((row.map fun y=>[Value.int .u64 y]).flatten):=qSJ hrr (fun y=>[Value.int .u64 y]) fun _ _ h=>h.1
  have hfl:∀ l:List Int,(l.map fun y=>[Value.int .u64 y]).flatten=l.map fun y=>Value.int .u64 y:=fun l=>by
   induction l with
   | nil=>rfl
   | cons a r ih=>simp [ih]
  rw [hfl] at hrd
  have hone:∀ u∈row.map (fun y=>Value.int .u64 y),u.oneCell'=true:=fun u hu=>by
   obtain⟨y,_,rfl⟩:=List.mem_map.1 hu;rfl
  conv=>whnf
  refine⟨⟨by omega,by omega,by omega,by omega⟩,?_⟩
  repeat((conv=>whnf);first|apply qza|apply qzb|apply qzc|apply qzd|apply qze|intro(_:Nat))
  rename_i b0
  conv=>whnf
  refine⟨vs,⟨hvr,hv1⟩,?_⟩
  conv=>whnf
  refine⟨⟨rfl,rfl,rfl,rfl,by omega,by omega⟩,?_⟩
  repeat((conv=>whnf);first|apply qza|apply qzb|apply qzc|apply qzd|apply qze|intro(_:Nat))
  conv=>whnf
  refine⟨⟨by decide,by decide,by decide,by decide⟩,?_⟩
  repeat((conv=>whnf);first|apply qza|apply qzb|apply qzc|apply qzd|apply qze|intro(_:Nat))
  rename_i b1
  conv=>whnf
  refine⟨by omega,?_⟩
  conv=>whnf
  refine⟨⟨rfl,rfl,rfl⟩,fun g1 hg1 hn1 hp1=>?_⟩
  repeat((conv=>whnf);first|apply qza|apply qzb|apply qzc|apply qzd|apply qze|intro(_:Nat))
  have hlr:(List.take (min l.length ((l.length:Int)).toNat) vs++List.drop (min l.length ((l.length:Int)).toNat) (List.replicate ((l.length:Int)).toNat [Value.slice none 0 0]).flatten)=vs:=by
   rw [Int.toNat_natCast,Nat.min_self,List.take_of_length_le (by omega),List.drop_eq_nil_of_le (by simp),List.append_nil]
  have hnb:¬ g.g b1:=hn1 _ rfl
  have hsp:∀ u:Value,(List.take (t.toNat*1) vs++[u]++List.drop (t.toNat*1+1) vs)[t.toNat*1]?=some u:=fun u=>by
   have hle:t.toNat≤vs.length:=by omega
   rw [Nat.mul_one,List.append_assoc,List.getElem?_append_right (by rw [List.length_take];omega),List.length_take,Nat.min_eq_left hle,Nat.sub_self];rfl
  conv=>whnf
  refine⟨⟨by rw [hlr];omega,by decide⟩,?_⟩
  conv=>whnf
  refine⟨⟨rfl,rfl,rfl,rfl⟩,by omega,?_⟩
  repeat((conv=>whnf);first|apply qza|apply qzb|apply qzc|apply qzd|apply qze|intro(_:Nat))
  conv=>whnf
  refine⟨.slice (some ⟨b1,0,none⟩) 6 6,by rw [hlr];exact hsp _,?_⟩
  repeat((conv=>whnf);first|apply qza|apply qzb|apply qzc|apply qzd|apply qze|intro(_:Nat))
  conv=>whnf
  refine⟨_,rfl,⟨by omega,by omega⟩,?_⟩
  repeat((conv=>whnf);first|apply qza|apply qzb|apply qzc|apply qzd|apply qze|intro(_:Nat))
  conv=>whnf
  refine⟨_,(hcr 0 _ rfl).mono hg1,?_⟩
  repeat((conv=>whnf);first|apply qza|apply qzb|apply qzc|apply qzd|apply qze|intro(_:Nat))
  conv=>whnf
  refine⟨_,⟨hrd.mono hg1,hone⟩,?_⟩
  obtain⟨rest,⟨k1,k2,k3⟩,hpk⟩:=hp1.poke
  conv=>whnf
  refine⟨b1,_,_,⟨rfl,k1,k2,k3,by rw [List.length_append,h6];simp,by omega⟩,fun gy u2=>?_⟩
  have hm6:min row.length 6=6:=by omega
  have hz6:((List.replicate (Int.toNat 6) [Value.int .u64 0]).flatten).length=6:=by simp
  have hp2:PbSl gy g.w.heap.size 37 1 (.slice (some ⟨b1,0,none⟩) 6 6) 6 (row.map fun y=>Value.int .u64 y):=by
   have:=hpk 0 6 (row.map fun y=>Value.int .u64 y) gy (by rw [hz6];decide) (by simp [h6]) hone (by
    have e6:(row.map fun y=>Value.int .u64 y).take 6=row.map fun y=>Value.int .u64 y:=List.take_of_length_le (by rw [List.length_map];omega)
    rw [hm6,e6] at u2
    simpa using u2)
   simpa using this
  conv=>whnf
  refine⟨⟨rfl,rfl,rfl,rfl⟩,by omega,?_⟩
  repeat((conv=>whnf);first|apply qza|apply qzb|apply qzc|apply qzd|apply qze|intro(_:Nat))
  conv=>whnf
  refine⟨.slice (some ⟨b1,0,none⟩) 6 6,by rw [hlr];exact hsp _,?_⟩
  have hx2:Rc gy ((⟨b1,0,none⟩:Addr).add (k.toNat*1)) (.int .u64 x):=by
   obtain⟨_,_,_,hq,_,_,_,hc⟩:=hp2.rd
   simp only [Value.slice.injEq] at hq
   obtain⟨a,ha,hr'⟩:=hc k.toNat (.int .u64 x) (by rw [List.getElem?_map,hx];rfl)
   rw [← hq.1] at ha
   cases ha
   rw [Nat.mul_one];exact hr'
  repeat((conv=>whnf);first|apply qza|apply qzb|apply qzc|apply qzd|apply qze|intro(_:Nat))
  conv=>whnf
  refine⟨_,rfl,⟨by omega,by omega⟩,?_⟩
  repeat((conv=>whnf);first|apply qza|apply qzb|apply qzc|apply qzd|apply qze|intro(_:Nat))
  conv=>whnf
  refine⟨_,hx2,?_⟩
  repeat((conv=>whnf);first|apply qza|apply qzb|apply qzc|apply qzd|apply qze|intro(_:Nat))
  conv=>whnf
  refine⟨_,rfl,⟨by omega,by omega⟩,?_⟩
  obtain⟨rest2,⟨j1,j2,j3⟩,hpk2⟩:=hp2.poke
  conv=>whnf
  refine⟨b1,k.toNat,_,_,⟨by rw [Nat.mul_one,q3A,Nat.zero_add],j1,j2,j3,by rw [List.length_append,List.length_map,h6];omega⟩,?_⟩
  repeat((conv=>whnf);first|apply qza|apply qzb|apply qzc|apply qzd|apply qze|intro(_:Nat))
  conv=>whnf
  refine fun gz u3=>?_
  have hp3:=hpk2 k.toNat 1 [.int .u64 (wU (x+1))] gz (by rw [List.length_map,h6];omega) rfl (by simp [Value.oneCell']) u3
  conv=>whnf
  refine⟨⟨rfl,rfl,rfl⟩,fun g4 hg4 hn4 hp4=>?_⟩
  repeat((conv=>whnf);first|apply qza|apply qzb|apply qzc|apply qzd|apply qze|intro(_:Nat))
  conv=>whnf
  intro g2 hg
  refine .inr ⟨hgood,some ⟨b0,0,none⟩,l.length,l.length,row,x,rfl,hrow,hx,by simp,?_⟩
  have hg3:g≤gz:=u3.le (u2.le hg1 hnb) hnb
  have hg5:=GW.trans hg3 (GW.trans hg4 hg)
  have hp5:=(hp4.mono hg).rd
  rw [hlr] at hp5
  have hset:∀ {α:Type} (L:List α) (i:Nat) (y:α),i<L.length→L.take i++[y]++L.drop (i+1)=L.set i y:=fun L i y hi=>by
   rw [List.set_eq_take_append_cons_drop,if_pos hi,List.append_assoc];rfl
  rw [Nat.mul_one,hset vs t.toNat _ (by omega),Int.toNat_natCast] at hp5
  have hwx:InU (wU (x+1)):=wU_in _
  have hrow':rSl 1 rU64 g2 (.slice (some ⟨b1,0,none⟩) 6 6) (row.set k.toNat (wU (x+1))):=by
   refine qnC (hp3.mono (GW.trans hg4 hg)).rd _ (fun y=>Value.int .u64 y) (by rw [hset _ _ _ (by rw [List.length_map];omega),List.map_set]) fun y hy=>⟨rfl,?_⟩
   rcases List.mem_or_eq_of_mem_set hy with hy|rfl
   ·exact hrU y hy
   ·exact hwx
  refine qhP hp5 _ (List.length_set ..) (by decide) fun i y hy=>?_
  have hone1:∀ u,(vs.set t.toNat (.slice (some ⟨b1,0,none⟩) 6 6))[i]?=some u→((vs.set t.toNat (.slice (some ⟨b1,0,none⟩) 6 6)).drop (i*1)).take 1=[u]:=fun u hu=>by
   rw [Nat.mul_one,List.take_one,List.head?_drop,hu];rfl
  by_cases hi:i=t.toNat
  ·subst hi
   rw [qmC hrow] at hy
   cases hy
   have:(vs.set t.toNat (.slice (some ⟨b1,0,none⟩) 6 6))[t.toNat]?=some (.slice (some ⟨b1,0,none⟩) 6 6):=List.getElem?_set_self (by omega)
   show rRow g2 ((List.drop (t.toNat*1) (vs.set t.toNat (.slice (some ⟨b1,0,none⟩) 6 6))).take 1) _
   rw [hone1 _ this]
   exact⟨_,rfl,hrow'⟩
  ·rw [List.getElem?_set_ne (fun h=>hi h.symm)] at hy
   obtain⟨u,hu,hR⟩:=hvx i y hy
   have:(vs.set t.toNat (.slice (some ⟨b1,0,none⟩) 6 6))[i]?=some u:=by rw [List.getElem?_set_ne (fun h=>hi h.symm)];exact hu
   show rRow g2 ((List.drop (i*1) (vs.set t.toNat (.slice (some ⟨b1,0,none⟩) 6 6))).take 1) _
   rw [hone1 _ this]
   exact qWA _ _ _ _ hg5 hR)
end Go.Proofs.Ytkbbljngpglnkaa
