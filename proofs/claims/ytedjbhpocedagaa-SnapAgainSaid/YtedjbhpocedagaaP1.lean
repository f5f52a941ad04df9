import Derived.Lib.Bytealg
namespace Go
open Go.Lib
def partsL (b : UInt8) : List UInt8 → List (List UInt8)
  | [] => [[]]
  | c :: r => if c == b then [] :: partsL b r else match partsL b r with
    | p :: ps => (c :: p) :: ps
    | [] => [[c]]
theorem partsL_index (b : UInt8) : ∀ L, (indexByte L b = -1 ∧ partsL b L = [L]) ∨ (∃ i : Nat, i < L.length ∧ indexByte L b = i ∧ partsL b L = L.take i :: partsL b (L.drop (i + 1)))
  | [] => .inl ⟨rfl, rfl⟩
  | c :: r => by
    have e1 : partsL b (c :: r) = if c == b then [] :: partsL b r else match partsL b r with
      | p :: ps => (c :: p) :: ps
      | [] => [[c]] := rfl
    have e2 : indexByte (c :: r) b = if c == b then 0 else if indexByte r b == -1 then -1 else indexByte r b + 1 := rfl
    rw [e1, e2]
    cases h : c == b with
    | true => exact .inr ⟨0, by simp, by simp, by simp⟩
    | false =>
      rcases partsL_index b r with ⟨h1, h2⟩ | ⟨i, hi, h1, h2⟩
      · exact .inl ⟨by simp [h1], by simp [h2]⟩
      · refine .inr ⟨i + 1, by simp; omega, ?_, by rw [h2]; simp⟩
        have : ((i : Int) == -1) = false := by rw [beq_eq_false_iff_ne]; omega
        simp [h1, this]
end Go
