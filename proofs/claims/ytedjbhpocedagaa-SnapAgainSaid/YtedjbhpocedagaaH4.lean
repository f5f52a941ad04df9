/- Which hosts and paths are meant: the program's and the document's answers. -/
import Derived.Test.YtedjbhpocedagaaN3
namespace Go.Proofs.Ytedjbhpocedagaa
open Go.Proofs.Ytedjbhpocedagaa.Sx
abbrev Sm (s : BA) : Prop := s.size ≤ 1000000
theorem beq_comm' {a b : List UInt8} : (a == b) = (b == a) := by
  rw [Bool.eq_iff_iff]; simp only [beq_iff_eq]; exact ⟨Eq.symm, Eq.symm⟩
theorem cut_le {s p : BA} : (cutP s p).size ≤ s.size := by
  unfold cutP
  split
  · rw [bs_size, bs_extract, bs_size s]; simp
  · exact Nat.le_refl _
theorem ok_Match (g : GW) (p h : BA) (hs : Sm p ∧ Sm h) : OkV Try.prog n_hosts_Match [.string p, .string h] g (.bool (matchB (bs p) (bs h))) :=
  Ok.of_fn hm noT 0 t_hosts_Match (args := [.v (.string p), .v (.string h)]) (by
    conv => whnf
    refine .inl ⟨_, ok_Pattern _ _, ?_⟩
    conv => whnf
    refine ⟨fun h1 => ?_, fun h1 => ?_⟩
    · conv => whnf
      intro g2 hg
      have h1' : patternB (bs p) = false := by simpa using h1
      rw [matchB, h1']; rfl
    have h1' : patternB (bs p) = true := by simpa using h1
    conv => whnf
    refine .inl ⟨_, ok_Host _ _, ?_⟩
    conv => whnf
    refine ⟨fun h2 => ?_, fun h2 => ?_⟩
    · conv => whnf
      intro g2 hg
      have h2' : hostB (bs h) = false := by simpa using h2
      rw [matchB, h2']; simp
    have h2' : hostB (bs h) = true := by simpa using h2
    conv => whnf
    refine .inl ⟨_, ok_CutPrefix _ _ _, ?_⟩
    conv => whnf
    refine ⟨fun h3 => ?_, fun h3 => ?_⟩
    · conv => whnf
      intro g2 hg
      have h3' : (bs p == bs h) = true := h3
      rw [matchB, h1', h2', h3']; rfl
    have h3' : (bs p == bs h) = false := h3
    conv => whnf
    refine ⟨fun h4 => ?_, fun h4 => ?_⟩
    · have h4' : preL [42] (bs p) = true := h4
      have hcut : bs (cutP p ⟨#[42]⟩) = (bs p).drop 1 := cutP_bs h4
      conv => whnf
      refine ⟨fun h5 => ?_, fun h5 => ?_⟩
      · conv => whnf
        intro g2 hg
        have h5' : ((bs p).drop 1 == []) = true := by rw [← hcut]; exact h5
        rw [matchB, h1', h2', h3', h4', tailB, h5']; rfl
      have h5' : ((bs p).drop 1 == []) = false := by rw [← hcut]; exact h5
      have hl : (cutP p ⟨#[42]⟩).size = ((bs p).drop 1).length := by rw [bs_size, hcut]
      have hh := bs_size h
      conv => whnf
      refine ⟨fun _ => ?_, fun hx => absurd ((h4).symm.trans hx) (by decide)⟩
      conv => whnf
      refine ⟨fun h6 => ?_, fun h6 => ?_⟩
      · have h6' : decide (((bs p).drop 1).length < (bs h).length) = true := by
          have := of_decide_eq_true h6
          exact decide_eq_true (by omega)
        conv => whnf
        refine .inl ⟨_, ok_HasSuffix _ _ _ ⟨by have := hs.2; unfold Sm at this; omega, by have := hs.1; unfold Sm at this; have := @cut_le p ⟨#[42]⟩; omega⟩, ?_⟩
        conv => whnf
        intro g2 hg
        rw [hcut, matchB, h1', h2', h3', h4', tailB, h5', h6']; rfl
      · conv => whnf
        intro g2 hg
        have h6' : decide (((bs p).drop 1).length < (bs h).length) = false := by
          have := of_decide_eq_false h6
          exact decide_eq_false (by omega)
        rw [matchB, h1', h2', h3', h4', tailB, h5', h6']; rfl
    · conv => whnf
      refine ⟨fun hx => absurd (hx.symm.trans (h4)) (by decide), fun _ => ?_⟩
      conv => whnf
      intro g2 hg
      have h4' : preL [42] (bs p) = false := h4
      rw [matchB, h1', h2', h3', h4']; rfl)
theorem ok_Under (g : GW) (a b : BA) (hs : Sm a ∧ Sm b) : OkV Try.prog n_hosts_Under [.string a, .string b] g (.bool (underB (bs a) (bs b))) :=
  Ok.of_fn hm noT 0 t_hosts_Under (args := [.v (.string a), .v (.string b)]) (by
    have hs1 := hs.1; have hs2 := hs.2
    unfold Sm at hs1 hs2
    conv => whnf
    refine .inl ⟨_, ok_Path _ _, ?_⟩
    conv => whnf
    refine ⟨fun h1 => ?_, fun h1 => ?_⟩
    · conv => whnf
      intro g2 hg
      have h1' : pathB (bs a) = false := by simpa using h1
      rw [underB, h1']; rfl
    have h1' : pathB (bs a) = true := by simpa using h1
    conv => whnf
    refine .inl ⟨_, ok_Path _ _, ?_⟩
    conv => whnf
    refine ⟨fun h2 => ?_, fun h2 => ?_⟩
    · conv => whnf
      intro g2 hg
      have h2' : pathB (bs b) = false := by simpa using h2
      rw [underB, h2']; simp
    have h2' : pathB (bs b) = true := by simpa using h2
    conv => whnf
    refine .inl ⟨_, ok_CutPrefix _ _ _, ?_⟩
    conv => whnf
    refine ⟨fun h3 => ?_, fun h3 => ?_⟩
    · have h3' : preL (bs b) (bs a) = true := h3
      have hcut := cutP_bs h3
      conv => whnf
      refine ⟨fun h4 => ?_, fun h4 => ?_⟩
      · conv => whnf
        intro g2 hg
        have h4' : ((bs a).drop (bs b).length == []) = true := by rw [← hcut]; exact h4
        rw [underB, h1', h2', h3', h4']; rfl
      have h4' : ((bs a).drop (bs b).length == []) = false := by rw [← hcut]; exact h4
      conv => whnf
      refine .inl ⟨_, ok_HasSuffix _ _ _ ⟨by omega, by decide⟩, ?_⟩
      conv => whnf
      refine ⟨fun h5 => ?_, fun h5 => ?_⟩
      · conv => whnf
        intro g2 hg
        have h5' : sufL [47] (bs b) = true := h5
        rw [underB, h1', h2', h3', h4', h5']; rfl
      have h5' : sufL [47] (bs b) = false := h5
      have hne : (bs a).drop (bs b).length ≠ [] := by simpa using h4'
      obtain ⟨c, hc⟩ : ∃ c, ((bs a).drop (bs b).length)[0]? = some c := getL_of (List.length_pos_iff.2 hne)
      conv => whnf
      refine ⟨c, ⟨by omega, by show (bs (cutP a b))[0]? = _; rw [hcut]; exact hc⟩, ?_⟩
      conv => whnf
      intro g2 hg
      rw [underB, h1', h2', h3', h4', h5', List.head?_eq_getElem?, hc]
      simp only [Bool.true_and, Bool.false_or]
      refine congrArg Value.bool ?_
      rw [Bool.eq_iff_iff]
      simp only [beq_iff_eq, Option.some.injEq]
      exact ⟨fun h => UInt8.toNat_inj.1 (by show c.toNat = 47; omega), fun h => by rw [h]; rfl⟩
    · conv => whnf
      intro g2 hg
      have h3' : preL (bs b) (bs a) = false := h3
      rw [underB, h1', h2', h3']; rfl)
theorem ok_Weight (g : GW) (p : BA) : OkV Try.prog n_hosts_Weight [.string p] g (.int .i64 (weightB (bs p))) :=
  Ok.of_fn hm noT 0 t_hosts_Weight (args := [.v (.string p)]) (by
    conv => whnf
    refine .inl ⟨_, ok_Pattern _ _, ?_⟩
    conv => whnf
    refine ⟨fun h1 => ?_, fun h1 => ?_⟩
    · conv => whnf
      intro g2 hg
      have h1' : patternB (bs p) = false := by simpa using h1
      rw [weightB, h1']; rfl
    have h1' : patternB (bs p) = true := by simpa using h1
    conv => whnf
    refine .inl ⟨_, ok_CutPrefix _ _ _, ?_⟩
    conv => whnf
    refine ⟨fun h2 => ?_, fun h2 => ?_⟩
    · conv => whnf
      intro g2 hg
      have h2' : preL [42, 46] (bs p) = true := h2
      rw [weightB, h1', h2', bs_size, cutP_bs h2]; rfl
    have h2' : preL [42, 46] (bs p) = false := h2
    conv => whnf
    refine ⟨fun h3 => ?_, fun h3 => ?_⟩
    · conv => whnf
      intro g2 hg
      have h3' : (bs p == [42]) = true := h3
      rw [weightB, h1', h2', h3']; rfl
    · conv => whnf
      intro g2 hg
      have h3' : (bs p == [42]) = false := h3
      rw [weightB, h1', h2', h3']; rfl)
theorem ok_Better (g : GW) (a p b q : BA) : OkV Try.prog n_hosts_Better [.string a, .string p, .string b, .string q] g (.bool (betterB (bs a) (bs p) (bs b) (bs q))) :=
  Ok.of_fn hm noT 0 t_hosts_Better (args := [.v (.string a), .v (.string p), .v (.string b), .v (.string q)]) (by
    conv => whnf
    refine .inl ⟨_, ok_Weight _ _, ?_⟩
    conv => whnf
    refine .inl ⟨_, ok_Weight _ _, ?_⟩
    conv => whnf
    refine ⟨fun h1 => ?_, fun h1 => ?_⟩
    · conv => whnf
      intro g2 hg
      rw [betterB, h1]; rfl
    · conv => whnf
      intro g2 hg
      rw [betterB, h1, bs_size p, bs_size q]
      simp)
end Go.Proofs.Ytedjbhpocedagaa
