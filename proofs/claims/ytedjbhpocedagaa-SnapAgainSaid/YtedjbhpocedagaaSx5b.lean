/- A symbolic evaluator over the model's code, part 5b: what is the call's own is given away. -/
import Derived.Test.YtedjbhpocedagaaSx5
namespace Go.Proofs.Ytedjbhpocedagaa.Sx
open Go.RowKit

theorem PbSl.rd {g : GW} {lo : Nat} {ety : TypeId} {size : Nat} {v : Value} {n : Nat} {cs : List Value} (h : PbSl g lo ety size v n cs) : RdSl g size v n cs := by
  obtain ⟨h1, h2, _⟩ := h
  refine ⟨h1, ?_⟩
  rcases h2 with ⟨rfl, rfl⟩ | ⟨b, cap, rest, rfl, hb, ho, hn, hc, hr⟩
  · exact ⟨none, 0, rfl, Nat.le_refl _, Nat.zero_le _, fun _ => ⟨rfl, rfl⟩, fun i u hu => by simp at h1; subst h1; simp at hu⟩
  · refine ⟨some ⟨b, 0, none⟩, cap, rfl, hn, hc, (fun h => by cases h), fun i u hu => ⟨_, rfl, ⟨?_, ?_⟩⟩⟩
    · rw [addr_add]; exact hb.2
    · rw [addr_add, Nat.zero_add, cell_of_heap ho]
      have := (List.getElem?_eq_some_iff.1 hu).1
      simp [List.getElem?_append_left this, hu]
def delB (id : Nat) : List Res → (List Res → Prop) → Prop
  | [], _ => False
  | .blk j b ty cells :: r, k => match Nat.beq j id with
    | true => k r
    | false => delB id r fun r' => k (.blk j b ty cells :: r')
  | x :: r, k => delB id r fun r' => k (x :: r')
/-- What is the call's own is given away: frozen from here on. -/
def pub1 (x : SV) (hs : Hs) (K : SV → Hs → Prop) : Prop := match hs with
  | ⟨hg, hr, hn, hl⟩ => match norm hr x with
  | .row id oa n cap => match findRow id hr with
    | some (oa', n', cap', ety, size, cs) => (oa = oa' ∧ n = n' ∧ cap = cap') ∧ ∀ g', hg ≤ g' → (∀ a, oa = some a → ¬ hg.g a.block) → PbSl g' hl ety size (.slice oa n cap) n cs → updR id none hr fun rs' => K (.v (.slice oa n cap)) ⟨g', rs', hn, hl⟩
    | none => False
  | .sl id b o n cap => match findBlk id hr with
    | some (b', ety, cells) => (b = b' ∧ o = 0 ∧ n = cap) ∧ concLK cells fun cs => ∃ size, cs.length = n * size ∧ cap ≤ maxLen ∧ ∀ g', hg ≤ g' → ¬ hg.g b → PbSl g' hl ety size (.slice (some ⟨b, o, none⟩) n cap) n cs → delB id hr fun rs' => K (.v (.slice (some ⟨b, o, none⟩) n cap)) ⟨g', rs', hn, hl⟩
    | none => False
  | x => K x hs
theorem pub1_eq (x : SV) (hs : Hs) (K : SV → Hs → Prop) : pub1 x hs K = (match norm hs.rs x with
  | .row id oa n cap => match findRow id hs.rs with
    | some (oa', n', cap', ety, size, cs) => (oa = oa' ∧ n = n' ∧ cap = cap') ∧ ∀ g', hs.g ≤ g' → (∀ a, oa = some a → ¬ hs.g.g a.block) → PbSl g' hs.lo ety size (.slice oa n cap) n cs → updR id none hs.rs fun rs' => K (.v (.slice oa n cap)) ⟨g', rs', hs.nx, hs.lo⟩
    | none => False
  | .sl id b o n cap => match findBlk id hs.rs with
    | some (b', ety, cells) => (b = b' ∧ o = 0 ∧ n = cap) ∧ concLK cells fun cs => ∃ size, cs.length = n * size ∧ cap ≤ maxLen ∧ ∀ g', hs.g ≤ g' → ¬ hs.g.g b → PbSl g' hs.lo ety size (.slice (some ⟨b, o, none⟩) n cap) n cs → delB id hs.rs fun rs' => K (.v (.slice (some ⟨b, o, none⟩) n cap)) ⟨g', rs', hs.nx, hs.lo⟩
    | none => False
  | x => K x hs) := by
  cases hs; rfl

theorem delB_spec {id : Nat} : ∀ {rs : List Res} {k : List Res → Prop} {b : Nat} {ty : TypeId} {cells : List SV}, delB id rs k → findBlk id rs = some (b, ty, cells) →
    ∃ l1 l2, rs = l1 ++ .blk id b ty cells :: l2 ∧ k (l1 ++ l2)
  | [], k, b, ty, cells, h, hf => h.elim
  | .blk j b' ty' c' :: r, k, b, ty, cells, h, hf => by
    simp only [delB] at h
    simp only [findBlk] at hf
    cases hj : Nat.beq j id with
    | true =>
      rw [hj] at h hf
      simp at hf
      obtain ⟨rfl, rfl, rfl⟩ := hf
      obtain rfl := Nat.eq_of_beq_eq_true hj
      exact ⟨[], r, rfl, h⟩
    | false =>
      rw [hj] at h hf
      obtain ⟨l1, l2, e, hk⟩ := delB_spec h hf
      exact ⟨.blk j b' ty' c' :: l1, l2, by simp [e], hk⟩
  | .row a1 a2 a3 a4 a5 a6 a7 :: r, k, b, ty, cells, h, hf => by
    obtain ⟨l1, l2, e, hk⟩ := delB_spec (k := fun r' => k (.row a1 a2 a3 a4 a5 a6 a7 :: r')) h hf
    exact ⟨_ :: l1, l2, by rw [e]; rfl, hk⟩
  | .lp a1 a2 a3 a4 :: r, k, b, ty, cells, h, hf => by
    obtain ⟨l1, l2, e, hk⟩ := delB_spec (k := fun r' => k (.lp a1 a2 a3 a4 :: r')) h hf
    exact ⟨_ :: l1, l2, by rw [e]; rfl, hk⟩
  | .mk a1 :: r, k, b, ty, cells, h, hf => by
    obtain ⟨l1, l2, e, hk⟩ := delB_spec (k := fun r' => k (.mk a1 :: r')) h hf
    exact ⟨_ :: l1, l2, by rw [e]; rfl, hk⟩

theorem pub1_spec {x : SV} {hs : Hs} {K : SV → Hs → Prop} (h : pub1 x hs K) {fr : Fr} {w : World} (hw : HSim fr hs w) : ∃ s hs', K s hs' ∧ conc s = conc x ∧ HSim fr hs' w := by
  rw [pub1_eq] at h
  split at h
  · rename_i id oa n cap hx
    have hcx : conc x = .slice oa n cap := by rw [← conc_norm hs.rs x, hx]; rfl
    split at h
    · rename_i oa' n' cap' ety size cs hf
      obtain ⟨⟨rfl, rfl, rfl⟩, h⟩ := h
      obtain ⟨l1, l2, hrs⟩ := findRow_split hf
      obtain ⟨⟨g1, g2⟩, hone⟩ := hw.row_own hf
      have hsim := hw.freeze (nx := hs.nx) hrs
      have hmem : ∀ a, oa = some a → a.block ∈ hs.bks := fun a ha => by
        subst ha; rw [Hs.bks, hrs]; simp [Res.bk]
      have hnew : ∀ a, oa = some a → ¬ hs.g.g a.block := fun a ha => (hw.fre _ (hmem a ha)).1
      have hrd : PbSl (hs.g.more w (Res.bk (.row id oa n cap ety size cs))) hs.lo ety size (.slice oa n cap) n cs := by
        refine ⟨g1, ?_, hone⟩
        rcases g2 with ⟨he, rfl⟩ | ⟨g, cap', cur, he, hg0, hh, hnc, hcm, hcs, htk⟩
        · exact .inl ⟨he, rfl⟩
        · simp only [Value.slice.injEq] at he
          obtain ⟨rfl, _, rfl⟩ := he
          refine .inr ⟨g, cap, cur.toList.drop (n * size), rfl, ⟨hw.low.2 _ (hmem _ rfl), (Array.getElem?_eq_some_iff.1 hh).1, .inr (by simp [Res.bk])⟩, ?_, hnc, hcm, ?_⟩
          · show w.heap[g]? = _
            rw [hh, ← htk, List.take_append_drop]
          · rw [← htk, List.take_append_drop]; simpa using hcs
      obtain ⟨l1', l2', hrs', hk⟩ := updR_spec (h _ (GW.le_more hw.good _) hnew hrd) hf
      exact ⟨_, _, hk, hcx.symm, hw.freeze (nx := hs.nx) hrs'⟩
    · exact h.elim
  · rename_i id b o n cap hx
    have hcx : conc x = .slice (some ⟨b, o, none⟩) n cap := by rw [← conc_norm hs.rs x, hx]; rfl
    split at h
    · rename_i b' ty cells hf
      obtain ⟨⟨rfl, rfl, rfl⟩, h⟩ := h
      obtain ⟨size, hl, hcm, h⟩ := concLK_spec _ h
      obtain ⟨l1, l2, hrs⟩ := findBlk_split hf
      obtain ⟨hb, hone⟩ := hw.blk_cell hf
      have hmem : b ∈ hs.bks := by rw [Hs.bks, hrs]; simp [Res.bk]
      have hrd : PbSl (hs.g.more w (Res.bk (.blk id b ty cells))) hs.lo ty size (.slice (some ⟨b, 0, none⟩) n n) n (concL cells) := by
        refine ⟨hl, .inr ⟨b, n, [], rfl, ⟨hw.low.2 _ hmem, (Array.getElem?_eq_some_iff.1 hb).1, .inr (by simp [Res.bk])⟩, ?_, Nat.le_refl _, hcm, by simpa using hl⟩, fun u hu => ?_⟩
        · show w.heap[b]? = _
          rw [hb]; simp
        · rw [concL_eq] at hu
          obtain ⟨c, hc, rfl⟩ := List.mem_map.1 hu
          exact hone c hc
      obtain ⟨l1', l2', hrs', hk⟩ := delB_spec (h _ (GW.le_more hw.good _) (hw.fre _ hmem).1 hrd) hf
      exact ⟨_, _, hk, hcx.symm, hw.freeze (nx := hs.nx) hrs'⟩
    · exact h.elim
  · exact ⟨_, _, h, conc_norm hs.rs x, hw⟩


/-! ### Own slices inside of what is given away -/
def pubCs (f : SV → Hs → (Hs → Prop) → Prop) : List SV → Hs → (Hs → Prop) → Prop
  | [], hs, K => K hs
  | c :: r, hs, K => match c with
    | .sl a b o n m => f (.sl a b o n m) hs fun hs' => pubCs f r hs' K
    | .row a b n m => f (.row a b n m) hs fun hs' => pubCs f r hs' K
    | _ => pubCs f r hs K
def PubF (f : SV → Hs → (Hs → Prop) → Prop) : Prop := ∀ x hs K fr w, f x hs K → HSim fr hs w → ∃ hs', K hs' ∧ HSim fr hs' w
theorem pubCs_spec {f : SV → Hs → (Hs → Prop) → Prop} (hf : PubF f) : ∀ (l : List SV) {hs : Hs} {K : Hs → Prop} {fr : Fr} {w : World}, pubCs f l hs K → HSim fr hs w → ∃ hs', K hs' ∧ HSim fr hs' w
  | [], hs, K, fr, w, h, hw => ⟨hs, h, hw⟩
  | c :: r, hs, K, fr, w, h, hw => by
    simp only [pubCs] at h
    split at h
    · obtain ⟨h1, h2, hw1⟩ := hf _ _ _ _ _ h hw
      exact pubCs_spec hf r h2 hw1
    · obtain ⟨h1, h2, hw1⟩ := hf _ _ _ _ _ h hw
      exact pubCs_spec hf r h2 hw1
    · exact pubCs_spec hf r h hw
/-- The cells of an own slice literal, each one given away by f. -/
def pubIn (f : SV → Hs → (Hs → Prop) → Prop) (x : SV) (hs : Hs) (K : Hs → Prop) : Prop := match x with
  | .sl id _ _ _ _ => match hs with
    | ⟨hg, hr, hn, hl⟩ => match findBlk id hr with
      | some (_, _, cells) => pubCs f cells ⟨hg, hr, hn, hl⟩ K
      | none => K ⟨hg, hr, hn, hl⟩
  | _ => K hs
theorem pubIn_spec {f : SV → Hs → (Hs → Prop) → Prop} (hf : PubF f) : PubF (pubIn f) := by
  intro x hs K fr w h hw
  unfold pubIn at h
  split at h
  · obtain ⟨hg, hr, hn, hl⟩ := hs
    simp only at h
    split at h
    · exact pubCs_spec hf _ h hw
    · exact ⟨_, h, hw⟩
  · exact ⟨_, h, hw⟩
def pubS (x : SV) (hs : Hs) (K : Hs → Prop) : Prop := pub1 x hs fun _ hs' => K hs'
theorem pubS_spec : PubF pubS := by
  intro x hs K fr w h hw
  obtain ⟨_, hs', h1, _, h2⟩ := pub1_spec h hw
  exact ⟨hs', h1, h2⟩
/-- First what is inside, then the slice. -/
def pubT (f : SV → Hs → (Hs → Prop) → Prop) (x : SV) (hs : Hs) (K : Hs → Prop) : Prop := pubIn f x hs fun hs' => pubS x hs' K
theorem pubT_spec {f : SV → Hs → (Hs → Prop) → Prop} (hf : PubF f) : PubF (pubT f) := by
  intro x hs K fr w h hw
  obtain ⟨hs', h1, h2⟩ := pubIn_spec hf _ _ _ _ _ h hw
  exact pubS_spec _ _ _ _ _ h1 h2
/-- All that is inside, three levels deep. -/
def pubD (x : SV) (hs : Hs) (K : Hs → Prop) : Prop := pubIn (pubT (pubT pubS)) x hs K
theorem pubD_spec : PubF pubD := pubIn_spec (pubT_spec (pubT_spec pubS_spec))
def pubL (l : List SV) (hs : Hs) (K : Hs → Prop) : Prop := pubCs (pubT (pubT pubS)) l hs K
theorem pubL_spec {l : List SV} {hs : Hs} {K : Hs → Prop} {fr : Fr} {w : World} (h : pubL l hs K) (hw : HSim fr hs w) : ∃ hs', K hs' ∧ HSim fr hs' w := pubCs_spec (pubT_spec (pubT_spec pubS_spec)) l h hw
end Go.Proofs.Ytedjbhpocedagaa.Sx
