/- The law FinishBegins. -/
import Derived.Test.YthonngjhelcpeaaGreatLW21x
import Derived.Test.YthonngjhelcpeaaGreatLW20w
set_option linter.unusedVariables false
set_option linter.unusedSimpArgs false
namespace Go.Proofs.YthonngjhelcpeaaGreat
open Go.Proofs.YthonngjhelcpeaaGreat.Sx Go.RowKit
set_option maxHeartbeats 16000000
set_option maxRecDepth 100000
theorem qtT (g:GW) {t:Int} {a:Ans}:OkV Tryz.prog q8H [.int .i64 t,.agg ⟨a.cs⟩] g (.agg ⟨(fBeg t a).cs (.slice none 0 0) (.slice none 0 0) (.slice none 0 0)⟩) :=
 Ok.of_fn hm noT 0 qxH (args:=[.v (.int .i64 t),.v (.agg ⟨a.cs⟩)]) (by
  unfold fBeg
  repeat((conv=>whnf);first|apply qza|apply qzb|apply qzc|apply qzd|apply qze|intro(_:Nat))
  refine And.intro (fun z=>?_) (fun z=>?_)
  ·have z:=bneT z
   rw [if_neg z,if_neg z]
   repeat((conv=>whnf);first|apply qza|apply qzb|apply qzc|apply qzd|apply qze|intro(_:Nat))
   conv=>whnf
   intro g2 hg
   rfl
  ·have z:=bneF z
   rw [if_pos z,if_pos z]
   repeat((conv=>whnf);first|apply qza|apply qzb|apply qzc|apply qzd|apply qze|intro(_:Nat))
   conv=>whnf
   intro g2 hg
   rfl)
theorem q5L (g:GW) {t:Int} {cs:List Value} {a:Ans} (ht:InR t) (hA:rAns g cs a):OkV Tryz.prog qVE [.int .i64 t,.agg ⟨cs⟩] g (.bool true):=by
 obtain⟨rfl,ha⟩:=hA
 exact Ok.of_fn hm noT 0 qPE (args:=[.v (.int .i64 t),.v (.agg ⟨a.cs⟩)]) (by
  repeat((conv=>whnf);first|apply qza|apply qzb|apply qzc|apply qzd|apply qze|intro(_:Nat))
  conv=>whnf
  refine .inl ⟨_,qOA _,?_⟩
  repeat((conv=>whnf);first|apply qza|apply qzb|apply qzc|apply qzd|apply qze|intro(_:Nat))
  conv=>whnf
  refine⟨fun _=>?_,fun h=>nomatch h⟩
  repeat((conv=>whnf);first|apply qza|apply qzb|apply qzc|apply qzd|apply qze|intro(_:Nat))
  conv=>whnf
  refine .inl ⟨_,qdD _ ht ha,?_⟩
  repeat((conv=>whnf);first|apply qza|apply qzb|apply qzc|apply qzd|apply qze|intro(_:Nat))
  conv=>whnf
  refine .inl ⟨_,qtT _,?_⟩
  repeat((conv=>whnf);first|apply qza|apply qzb|apply qzc|apply qzd|apply qze|intro(_:Nat))
  conv=>whnf
  refine .inl ⟨_,q4U _ (qtB _ ht ha) (qtB _ ht ha),?_⟩
  repeat((conv=>whnf);first|apply qza|apply qzb|apply qzc|apply qzd|apply qze|intro(_:Nat))
  conv=>whnf
  intro g2 hg
  simp)
end Go.Proofs.YthonngjhelcpeaaGreat
