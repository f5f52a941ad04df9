/- Frozen memory that the call made: it is written, and what is told of it. -/
import Derived.Test.YtjbhkahjhohaeaaD2
namespace Go.Proofs.Ytjbhkahjhohaeaa.Sx
open Go.RowKit
theorem PbSl.dom {g : GW} {lo : Nat} {ety : TypeId} {size b n cap : Nat} {cs : List Value} (h : PbSl g lo ety size (.slice (some ⟨b, 0, none⟩) n cap) n cs) : g.g b := by
  obtain ⟨_, h2, _⟩ := h
  rcases h2 with ⟨h2, _⟩ | ⟨b', cap', rest, hv, hb, _⟩
  · cases h2
  · simp only [Value.slice.injEq, Option.some.injEq, Addr.mk.injEq] at hv
    obtain ⟨⟨rfl, _⟩, _⟩ := hv
    exact hb.2
theorem PbSl.ge {g : GW} {lo : Nat} {ety : TypeId} {size b n cap : Nat} {cs : List Value} (h : PbSl g lo ety size (.slice (some ⟨b, 0, none⟩) n cap) n cs) : lo ≤ b := by
  obtain ⟨_, h2, _⟩ := h
  rcases h2 with ⟨h2, _⟩ | ⟨b', cap', rest, hv, hb, _⟩
  · cases h2
  · simp only [Value.slice.injEq, Option.some.injEq, Addr.mk.injEq] at hv
    obtain ⟨⟨rfl, _⟩, _⟩ := hv
    exact hb.1
theorem PbSl.ne {g : GW} {lo : Nat} {ety : TypeId} {size b b' n cap : Nat} {cs : List Value} (h : PbSl g lo ety size (.slice (some ⟨b, 0, none⟩) n cap) n cs) (hn : ¬ g.g b') : b ≠ b' := fun e => hn (e ▸ h.dom)
/-- Another block is written. -/
theorem PbSl.keep {g g' : GW} {lo : Nat} {ety : TypeId} {size b b' n cap : Nat} {cs : List Value} {o : Obj} (h : PbSl g lo ety size (.slice (some ⟨b', 0, none⟩) n cap) n cs) (u : Upd g b o g') (hne : b' ≠ b) : PbSl g' lo ety size (.slice (some ⟨b', 0, none⟩) n cap) n cs := by
  obtain ⟨h1, h2, h3⟩ := h
  refine ⟨h1, ?_, h3⟩
  rcases h2 with ⟨h2, _⟩ | ⟨b', cap', rest, hv, hb, ho, hr⟩
  · cases h2
  · simp only [Value.slice.injEq, Option.some.injEq, Addr.mk.injEq] at hv
    obtain ⟨⟨rfl, _⟩, _, rfl⟩ := hv
    exact .inr ⟨_, _, rest, rfl, ⟨hb.1, (u.dom _).2 hb.2⟩, (u.other _ hb.2 hne).trans ho, hr⟩
/-- It is written. -/
theorem PbSl.poke {g : GW} {lo : Nat} {ety : TypeId} {size b n cap : Nat} {cs : List Value} (h : PbSl g lo ety size (.slice (some ⟨b, 0, none⟩) n cap) n cs) :
    ∃ rest, (lo ≤ b ∧ g.g b ∧ g.w.heap[b]? = some (.cells ⟨cs ++ rest⟩ ety (0, 0))) ∧ ∀ (j m : Nat) (vs : List Value) g', j + m ≤ cs.length → m = vs.length → (∀ u ∈ vs, u.oneCell' = true) →
      Upd g b (.cells ⟨(cs ++ rest).take j ++ vs ++ (cs ++ rest).drop (j + m)⟩ ety (0, 0)) g' → PbSl g' lo ety size (.slice (some ⟨b, 0, none⟩) n cap) n (cs.take j ++ vs ++ cs.drop (j + m)) := by
  obtain ⟨h1, h2, h3⟩ := h
  rcases h2 with ⟨h2, _⟩ | ⟨b', cap', rest, hv, hb, ho, hnc, hcm, hr⟩
  · cases h2
  · simp only [Value.slice.injEq, Option.some.injEq, Addr.mk.injEq] at hv
    obtain ⟨⟨rfl, _⟩, _, rfl⟩ := hv
    refine ⟨rest, ⟨hb.1, hb.2, ho⟩, fun j m vs g' hj hm hone u => ?_⟩
    subst hm
    have e : (cs ++ rest).take j ++ vs ++ (cs ++ rest).drop (j + vs.length) = (cs.take j ++ vs ++ cs.drop (j + vs.length)) ++ rest := by
      rw [List.take_append_of_le_length (by omega), List.drop_append_of_le_length (by omega)]; simp
    rw [e] at u
    refine ⟨?_, .inr ⟨b, cap, rest, rfl, ⟨hb.1, (u.dom _).2 hb.2⟩, u.obj, hnc, hcm, ?_⟩, fun x hx => ?_⟩
    · rw [← h1]; simp; omega
    · rw [← hr]; simp; omega
    · rcases List.mem_append.1 hx with hx | hx
      · rcases List.mem_append.1 hx with hx | hx
        · exact h3 x (List.mem_of_mem_take hx)
        · exact hone x hx
      · exact h3 x (List.mem_of_mem_drop hx)
theorem oneF {α : Type} {l : List α} {f : α → List Value} (h : ∀ x ∈ l, (f x).all Value.oneCell' = true) : ∀ u ∈ (l.map f).flatten, u.oneCell' = true := fun u hu => by
  obtain ⟨c, hc, hu⟩ := List.mem_flatten.1 hu
  obtain ⟨x, hx, rfl⟩ := List.mem_map.1 hc
  exact List.all_eq_true.1 (h x hx) u hu
end Go.Proofs.Ytjbhkahjhohaeaa.Sx
