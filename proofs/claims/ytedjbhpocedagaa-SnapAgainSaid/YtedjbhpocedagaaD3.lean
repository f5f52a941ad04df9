/- Frozen memory that the call made: it is written, and what is told of it. -/
import Derived.Test.YtedjbhpocedagaaD2
namespace Go.Proofs.Ytedjbhpocedagaa.Sx
open Go.RowKit
theorem PbSl.dom {g : GW} {lo : Nat} {ety : TypeId} {size b n cap : Nat} {cs : List Value} (h : PbSl g lo ety size (.slice (some ⟨b, 0, none⟩) n cap) n cs) : g.g b := by
  obtain ⟨_, h2, _⟩ := h
  rcases h2 with ⟨h2, _⟩ | ⟨b', cap', rest, hv, hb, _⟩
  · cases h2
  · simp only [Value.slice.injEq, Option.some.injEq, Addr.mk.injEq] at hv
    obtain ⟨⟨rfl, _⟩, _⟩ := hv
    exact hb.2
theorem PbSl.ge {g : GW} {lo : Nat} {ety : TypeId} {size b n cap : Nat} {cs : List Value} (h : PbSl g lo ety size (.slice (some ⟨b, 0, none⟩) n cap) n cs) : lo ≤ b := by
  obtain ⟨_, h2, _⟩ := h
  rcases h2 with ⟨h2, _⟩ | ⟨b', cap', rest, hv, hb, _⟩
  · cases h2
  · simp only [Value.slice.injEq, Option.some.injEq, Addr.mk.injEq] at hv
    obtain ⟨⟨rfl, _⟩, _⟩ := hv
    exact hb.1
theorem PbSl.ne {g : GW} {lo : Nat} {ety : TypeId} {size b b' n cap : Nat} {cs : List Value} (h : PbSl g lo ety size (.slice (some ⟨b, 0, none⟩) n cap) n cs) (hn : ¬ g.g b') : b ≠ b' := fun e => hn (e ▸ h.dom)
/-- Another block is written. -/
theorem PbSl.keep {g g' : GW} {lo : Nat} {ety : TypeId} {size b b' n cap : Nat} {cs : List Value} {o : Obj} (h : PbSl g lo ety size (.slice (some ⟨b', 0, none⟩) n cap) n cs) (u : Upd g b o g') (hne : b' ≠ b) : PbSl g' lo ety size (.slice (some ⟨b', 0, none⟩) n cap) n cs := by
  obtain ⟨h1, h2, h3⟩ := h
  refine ⟨h1, ?_, h3⟩
  rcases h2 with ⟨h2, _⟩ | ⟨b', cap', rest, hv, hb, ho, hr⟩
  · cases h2
  · simp only [Value.slice.injEq, Option.some.injEq, Addr.mk.injEq] at hv
    obtain ⟨⟨rfl, _⟩, _, rfl⟩ := hv
    exact .inr ⟨_, _, rest, rfl, ⟨hb.1, (u.dom _).2 hb.2⟩, (u.other _ hb.2 hne).trans ho, hr⟩
/-- It is written. -/
theorem PbSl.poke {g : GW} {lo : Nat} {ety : TypeId} {size b n cap : Nat} {cs : List Value} (h : PbSl g lo ety size (.slice (some ⟨b, 0, none⟩) n cap) n cs) :
    ∃ rest, (lo ≤ b ∧ g.g b ∧ g.w.heap[b]? = some (.cells ⟨cs ++ rest⟩ ety (0, 0))) ∧ ∀ (j m : Nat) (vs : List Value) g', j + m ≤ cs.length → m = vs.length → (∀ u ∈ vs, u.oneCell' = true) →
      Upd g b (.cells ⟨(cs ++ rest).take j ++ vs ++ (cs ++ rest).drop (j + m)⟩ ety (0, 0)) g' → PbSl g' lo ety size (.slice (some ⟨b, 0, none⟩) n cap) n (cs.take j ++ vs ++ cs.drop (j + m)) := by
  obtain ⟨h1, h2, h3⟩ := h
  rcases h2 with ⟨h2, _⟩ | ⟨b', cap', rest, hv, hb, ho, hnc, hcm, hr⟩
  · cases h2
  · simp only [Value.slice.injEq, Option.some.injEq, Addr.mk.injEq] at hv
    obtain ⟨⟨rfl, _⟩, _, rfl⟩ := hv
    refine ⟨rest, ⟨hb.1, hb.2, ho⟩, fun j m vs g' hj hm hone u => ?_⟩
    subst hm
    have e : (cs ++ rest).take j ++ vs ++ (cs ++ rest).drop (j + vs.length) = (cs.take j ++ vs ++ cs.drop (j + vs.length)) ++ rest := by
      rw [List.take_append_of_le_length (by omega), List.drop_append_of_le_length (by omega)]; simp
    rw [e] at u
    refine ⟨?_, .inr ⟨b, cap, rest, rfl, ⟨hb.1, (u.dom _).2 hb.2⟩, u.obj, hnc, hcm, ?_⟩, fun x hx => ?_⟩
    · rw [← h1]; simp; omega
    · rw [← hr]; simp; omega
    · rcases List.mem_append.1 hx with hx | hx
      · rcases List.mem_append.1 hx with hx | hx
        · exact h3 x (List.mem_of_mem_take hx)
        · exact hone x hx
      · exact h3 x (List.mem_of_mem_drop hx)
theorem oneF {α : Type} {l : List α} {f : α → List Value} (h : ∀ x ∈ l, (f x).all Value.oneCell' = true) : ∀ u ∈ (l.map f).flatten, u.oneCell' = true := fun u hu => by
  obtain ⟨c, hc, hu⟩ := List.mem_flatten.1 hu
  obtain ⟨x, hx, rfl⟩ := List.mem_map.1 hc
  exact List.all_eq_true.1 (h x hx) u hu
/-- One element's cells. -/
theorem rdE_at {g : GW} {sz n cap : Nat} {oa : Option Addr} {ecs : List (List Value)} (h : RdSl g sz (.slice oa n cap) n ecs.flatten) (hsz : ∀ e ∈ ecs, e.length = sz) (hpos : 0 < sz) {i : Nat} {ec : List Value} (hi : ecs[i]? = some ec) : ∃ a, oa = some a ∧ Rcs g (a.add (i * sz)) ec := by
  obtain ⟨h1, oa', cap', he, h2, h3, h4, h5⟩ := h
  simp only [Value.slice.injEq, true_and] at he
  obtain ⟨rfl, rfl⟩ := he
  have hl := hsz ec (List.mem_of_getElem? hi)
  obtain ⟨u0, hu0⟩ : ∃ u, ec[0]? = some u := ⟨ec[0]'(by omega), List.getElem?_eq_getElem (by omega)⟩
  obtain ⟨a, rfl, _⟩ := h5 _ _ (flatten_at hsz hi hu0)
  refine ⟨a, rfl, fun j u hu => ?_⟩
  obtain ⟨a', ha', hr⟩ := h5 _ _ (flatten_at hsz hi hu)
  cases ha'
  rwa [add_add]
theorem take_rev {α : Type} {l : List α} {k : Nat} {x : α} (hk : k < l.length) (hx : l[l.length - 1 - k]? = some x) : l.reverse.take (k + 1) = l.reverse.take k ++ [x] := by
  have : l.reverse[k]? = some x := by rw [List.getElem?_reverse hk]; exact hx
  obtain ⟨h1, h2⟩ := List.getElem?_eq_some_iff.1 this
  rw [List.take_succ_eq_append_getElem h1, h2]
theorem pair_rev {α β : Type} {l : List α} {m : List β} {R : α → β → Prop} (hlen : m.length = l.length) (h : ∀ (i : Nat) x y, l[i]? = some x → m[i]? = some y → R x y) (i : Nat) (x : α) (y : β) (hx : l.reverse[i]? = some x) (hy : m.reverse[i]? = some y) : R x y := by
  have hi := (List.getElem?_eq_some_iff.1 hx).1
  simp only [List.length_reverse] at hi
  rw [List.getElem?_reverse hi] at hx
  rw [List.getElem?_reverse (by omega), hlen] at hy
  exact h _ _ _ hx hy
/-- A slice in another block than the one that is written. -/
theorem rSl.keep0 {α : Type} {sz : Nat} {R : RP α} (hR : ∀ g g' cs x, R g cs x → R g' cs x) {g g' : GW} {b : Nat} {o : Obj} {oa : Option Addr} {n cap : Nat} {l : List α} (h : rSl sz R g (.slice oa n cap) l) (u : Upd g b o g') (hne : ∀ x, oa = some x → x.block ≠ b) : rSl sz R g' (.slice oa n cap) l := by
  obtain ⟨oa', cap', he, h2, h3, h4, h5⟩ := h
  refine ⟨oa', cap', he, h2, h3, h4, fun i x hx => ?_⟩
  obtain ⟨a, rfl, ec, k1, k2, k3⟩ := h5 i x hx
  simp only [Value.slice.injEq] at he
  obtain ⟨rfl, _⟩ := he
  refine ⟨a, rfl, ec, k1, hR _ _ _ _ k2, fun j v hv => ?_⟩
  obtain ⟨c1, c2⟩ := k3 j v hv
  have hb : ((a.add (i * sz)).add j).block = a.block := by
    unfold Addr.add; repeat' split
    all_goals rfl
  refine ⟨(u.dom _).2 c1, ?_⟩
  rw [World.cell?_of_block (u.other _ c1 (by rw [hb]; exact hne a rfl))]
  exact c2
end Go.Proofs.Ytedjbhpocedagaa.Sx
