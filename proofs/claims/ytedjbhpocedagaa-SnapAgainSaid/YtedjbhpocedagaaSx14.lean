/- A symbolic evaluator over the model's code, part 14: what a loop's invariant needs: resources told otherwise. -/
import Derived.Test.YtedjbhpocedagaaSx13
namespace Go.Proofs.Ytedjbhpocedagaa.Sx
open Go.RowKit

/-- The same resource, under other names. -/
def Res.eqv : Res → Res → Prop
  | .blk _ b ty cells, .blk _ b' ty' cells' => b = b' ∧ ty = ty' ∧ concL cells = concL cells'
  | .row _ oa n cap ety size cs, .row _ oa' n' cap' ety' size' cs' => oa = oa' ∧ n = n' ∧ cap = cap' ∧ ety = ety' ∧ size = size' ∧ cs = cs'
  | .lp _ l r j, .lp _ l' r' j' => l = l' ∧ r = r' ∧ j = j'
  | .mk b, .mk b' => b = b'
  | _, _ => False
def eqvL : List Res → List Res → Prop
  | [], [] => True
  | r :: rs, r' :: rs' => r.eqv r' ∧ eqvL rs rs'
  | _, _ => False
theorem Res.eqv_spec {r r' : Res} (h : r.eqv r') : r'.bk = r.bk ∧ ∀ w, r.holds w → r'.holds w := by
  unfold Res.eqv at h
  split at h
  · rename_i cells _ _ _ cells'
    obtain ⟨rfl, rfl, h⟩ := h
    refine ⟨rfl, fun w ⟨h1, h2⟩ => ⟨h ▸ h1, fun c hc => ?_⟩⟩
    have : conc c ∈ concL cells' := by rw [concL_eq]; exact List.mem_map.2 ⟨c, hc, rfl⟩
    rw [← h, concL_eq] at this
    obtain ⟨c', hc', he⟩ := List.mem_map.1 this
    rw [← he]; exact h2 c' hc'
  · obtain ⟨rfl, rfl, rfl, rfl, rfl, rfl⟩ := h; exact ⟨rfl, fun _ h => h⟩
  · obtain ⟨rfl, rfl, rfl⟩ := h; exact ⟨rfl, fun _ h => h⟩
  · subst h; exact ⟨rfl, fun _ h => h⟩
  · exact h.elim
theorem eqvL_spec : ∀ {rs rs' : List Res}, eqvL rs rs' → rs'.flatMap Res.bk = rs.flatMap Res.bk ∧ ∀ w, (∀ r ∈ rs, r.holds w) → ∀ r ∈ rs', r.holds w
  | [], [], _ => ⟨rfl, fun _ h => h⟩
  | r :: rs, r' :: rs', h => by
    obtain ⟨h1, h2⟩ := Res.eqv_spec h.1
    obtain ⟨k1, k2⟩ := eqvL_spec h.2
    refine ⟨by rw [List.flatMap_cons, List.flatMap_cons, h1, k1], fun w hw x hx => ?_⟩
    rcases List.mem_cons.1 hx with rfl | hx
    · exact h2 w (hw r (by simp))
    · exact k2 w (fun y hy => hw y (by simp [hy])) x hx
  | [], _ :: _, h => h.elim
  | _ :: _, [], h => h.elim
theorem HSim.ren {fr : Fr} {g : GW} {rs rs' : List Res} {nx nx' lo : Nat} {w : World} (h : HSim fr ⟨g, rs, nx, lo⟩ w) (k : eqvL rs rs') : HSim fr ⟨g, rs', nx', lo⟩ w := by
  obtain ⟨k1, k2⟩ := eqvL_spec k
  have hb : Hs.bks ⟨g, rs', nx', lo⟩ = Hs.bks ⟨g, rs, nx, lo⟩ := k1
  exact ⟨h.good, h.frm, k2 w h.res, hb ▸ h.nod, fun b hm => h.fre b (hb ▸ hm), h.fz, h.own, h.low.1, fun b hm => h.low.2 b (hb ▸ hm)⟩

/-- Some of the resources, under other names. -/
def fitL : List Res → List Res → Prop
  | _, [] => True
  | [], _ :: _ => False
  | r :: rs, r' :: rs' => (r.eqv r' ∧ fitL rs rs') ∨ fitL rs (r' :: rs')
theorem fitL_spec : ∀ {rs rs' : List Res}, fitL rs rs' → ∃ l, l.Sublist rs ∧ eqvL l rs'
  | _, [], _ => ⟨[], List.nil_sublist _, trivial⟩
  | [], _ :: _, h => by simp [fitL] at h
  | r :: rs, r' :: rs', h => by
    unfold fitL at h
    rcases h with ⟨h1, h2⟩ | h
    · obtain ⟨l, hl, hk⟩ := fitL_spec h2
      exact ⟨r :: l, hl.cons_cons r, h1, hk⟩
    · obtain ⟨l, hl, hk⟩ := fitL_spec h
      exact ⟨l, hl.cons r, hk⟩
theorem HSim.fit {fr : Fr} {g : GW} {rs rs' : List Res} {nx nx' lo : Nat} {w : World} (h : HSim fr ⟨g, rs, nx, lo⟩ w) (k : fitL rs rs') : HSim fr ⟨g, rs', nx', lo⟩ w := by
  obtain ⟨l, hl, hk⟩ := fitL_spec k
  exact (h.sub (nx := nx) hl).ren hk

/-- An own slice literal is a row. -/
theorem HSim.blk_row {fr : Fr} {g : GW} {id id' b : Nat} {ety : TypeId} {cells : List SV} {rs : List Res} {nx nx' lo : Nat} {w : World} (h : HSim fr ⟨g, .blk id b ety cells :: rs, nx, lo⟩ w) (n size : Nat) (hl : cells.length = n * size) (hc : n ≤ maxLen) :
    HSim fr ⟨g, .row id' (some ⟨b, 0, none⟩) n n ety size (concL cells) :: rs, nx', lo⟩ w := by
  have hl' : (concL cells).length = n * size := by rw [concL_length]; exact hl
  obtain ⟨hb, hone⟩ := h.res _ (List.mem_cons_self ..)
  refine h.upd (l1 := []) (r1 := .row id' (some ⟨b, 0, none⟩) n n ety size (concL cells)) (nx := nx') rfl rfl rfl rfl (Nat.le_refl _) (fun _ _ _ => rfl) ⟨⟨hl', .inr ⟨b, n, _, rfl, Nat.zero_le _, hb, Nat.le_refl _, hc, by simpa using hl', ?_⟩⟩, fun u hu => ?_⟩ (fun c hc => .inl (by simpa [Res.bk] using hc)) (by simp [Res.bk])
  · rw [← hl']; simp
  · rw [concL_eq] at hu
    obtain ⟨c, hc, rfl⟩ := List.mem_map.1 hu
    exact hone c hc
/-- nil is a row. -/
theorem HSim.nil_row {fr : Fr} {g : GW} {rs : List Res} {nx nx' lo : Nat} {w : World} (h : HSim fr ⟨g, rs, nx, lo⟩ w) (id : Nat) (ety : TypeId) (size : Nat) : HSim fr ⟨g, .row id none 0 0 ety size [] :: rs, nx', lo⟩ w :=
  h.newRes (Below.refl _ _) (r := .row id none 0 0 ety size []) ⟨World.ownsRow_nil w 0 ety size, fun u hu => by cases hu⟩ (fun b hb => by simp [Res.bk] at hb) (by simp [Res.bk])
/-- The loop begins with what is known as it is. -/
theorem loop_here {α : Type} {V : α → List SV} {W : α → Hs} {J : α → Prop} {vs0 : List SV} {hs : Hs} (x0 : α) (hV : concL (V x0) = concL vs0) (hJ : J x0) (hW : W x0 = hs) : ∀ fr w, HSim fr hs w → ∃ x, concL (V x) = concL vs0 ∧ J x ∧ HSim fr (W x) w :=
  fun _ _ hw => ⟨x0, hV, hJ, hW ▸ hw⟩
end Go.Proofs.Ytedjbhpocedagaa.Sx
