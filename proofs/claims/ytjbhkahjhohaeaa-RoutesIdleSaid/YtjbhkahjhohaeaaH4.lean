/- Which hosts and paths are meant: the program's and the document's answers. -/
import Derived.Test.YtjbhkahjhohaeaaN3
namespace Go.Proofs.Ytjbhkahjhohaeaa
open Go.Proofs.Ytjbhkahjhohaeaa.Sx
abbrev Sm (s : BA) : Prop := s.size ≤ 1000000
theorem beq_comm' {a b : List UInt8} : (a == b) = (b == a) := by
  rw [Bool.eq_iff_iff]; simp only [beq_iff_eq]; exact ⟨Eq.symm, Eq.symm⟩
theorem cut_le {s p : BA} : (cutP s p).size ≤ s.size := by
  unfold cutP
  split
  · rw [bs_size, bs_extract, bs_size s]; simp
  · exact Nat.le_refl _
theorem ok_Match (g : GW) (p h : BA) (hs : Sm p ∧ Sm h) : OkV Try.prog n_hosts_Match [.string p, .string h] g (.bool (matchB (bs p) (bs h))) :=
  Ok.of_fn hm noT 0 t_hosts_Match (args := [.v (.string p), .v (.string h)]) (by
    conv => whnf
    refine .inl ⟨_, ok_Pattern _ _, ?_⟩
    conv => whnf
    refine ⟨fun h1 => ?_, fun h1 => ?_⟩
    · conv => whnf
      intro g2 hg
      have h1' : patternB (bs p) = false := by simpa using h1
      rw [matchB, h1']; rfl
    have h1' : patternB (bs p) = true := by simpa using h1
    conv => whnf
    refine .inl ⟨_, ok_Host _ _, ?_⟩
    conv => whnf
    refine ⟨fun h2 => ?_, fun h2 => ?_⟩
    · conv => whnf
      intro g2 hg
      have h2' : hostB (bs h) = false := by simpa using h2
      rw [matchB, h2']; simp
    have h2' : hostB (bs h) = true := by simpa using h2
    conv => whnf
    refine .inl ⟨_, ok_CutPrefix _ _ _, ?_⟩
    conv => whnf
    refine ⟨fun h3 => ?_, fun h3 => ?_⟩
    · conv => whnf
      intro g2 hg
      have h3' : (bs p == bs h) = true := h3
      rw [matchB, h1', h2', h3']; rfl
    have h3' : (bs p == bs h) = false := h3
    conv => whnf
    refine ⟨fun h4 => ?_, fun h4 => ?_⟩
    · have h4' : preL [42] (bs p) = true := h4
      have hcut : bs (cutP p ⟨#[42]⟩) = (bs p).drop 1 := cutP_bs h4
      conv => whnf
      refine ⟨fun h5 => ?_, fun h5 => ?_⟩
      · conv => whnf
        intro g2 hg
        have h5' : ((bs p).drop 1 == []) = true := by rw [← hcut]; exact h5
        rw [matchB, h1', h2', h3', h4', tailB, h5']; rfl
      have h5' : ((bs p).drop 1 == []) = false := by rw [← hcut]; exact h5
      have hl : (cutP p ⟨#[42]⟩).size = ((bs p).drop 1).length := by rw [bs_size, hcut]
      have hh := bs_size h
      conv => whnf
      refine ⟨fun _ => ?_, fun hx => absurd ((h4).symm.trans hx) (by decide)⟩
      conv => whnf
      refine ⟨fun h6 => ?_, fun h6 => ?_⟩
      · have h6' : decide (((bs p).drop 1).length < (bs h).length) = true := by
          have := of_decide_eq_true h6
          exact decide_eq_true (by omega)
        conv => whnf
        refine .inl ⟨_, ok_HasSuffix _ _ _ ⟨by have := hs.2; unfold Sm at this; omega, by have := hs.1; unfold Sm at this; have := @cut_le p ⟨#[42]⟩; omega⟩, ?_⟩
        conv => whnf
        intro g2 hg
        rw [hcut, matchB, h1', h2', h3', h4', tailB, h5', h6']; rfl
      · conv => whnf
        intro g2 hg
        have h6' : decide (((bs p).drop 1).length < (bs h).length) = false := by
          have := of_decide_eq_false h6
          exact decide_eq_false (by omega)
        rw [matchB, h1', h2', h3', h4', tailB, h5', h6']; rfl
    · conv => whnf
      refine ⟨fun hx => absurd (hx.symm.trans (h4)) (by decide), fun _ => ?_⟩
      conv => whnf
      intro g2 hg
      have h4' : preL [42] (bs p) = false := h4
      rw [matchB, h1', h2', h3', h4']; rfl)
theorem ok_rMatch (g : GW) (p h : BA) (hs : Sm p ∧ Sm h) : OkV Try.prog n_hydrantref04_Match [.string p, .string h] g (.bool (matchB (bs p) (bs h))) :=
  Ok.of_fn hm noT 0 t_hydrantref04_Match (args := [.v (.string p), .v (.string h)]) (by
    have hs1 := hs.1; have hs2 := hs.2
    unfold Sm at hs1 hs2
    conv => whnf
    refine .inl ⟨_, ok_rPattern _ _ (by omega), ?_⟩
    conv => whnf
    refine ⟨fun h1 => ?_, fun h1 => ?_⟩
    · conv => whnf
      intro g2 hg
      have h1' : patternB (bs p) = false := by simpa using h1
      rw [matchB, h1']; rfl
    have h1' : patternB (bs p) = true := by simpa using h1
    conv => whnf
    refine .inl ⟨_, ok_rHost _ _ (by omega), ?_⟩
    conv => whnf
    refine ⟨fun h2 => ?_, fun h2 => ?_⟩
    · conv => whnf
      intro g2 hg
      have h2' : hostB (bs h) = false := by simpa using h2
      rw [matchB, h2']; simp
    have h2' : hostB (bs h) = true := by simpa using h2
    have hp := bs_size p; have hh := bs_size h
    have hne := List.length_pos_iff.2 (pattern_ne_nil h1')
    conv => whnf
    refine ⟨fun h3 => ?_, fun h3 => ?_⟩
    · conv => whnf
      intro g2 hg
      have h3' : (bs p == [42]) = true := h3
      rw [matchB, h1', h2', match_ref h1', h3']; rfl
    have h3' : (bs p == [42]) = false := h3
    conv => whnf
    refine ⟨fun h4 => ?_, fun h4 => ?_⟩
    · conv => whnf
      intro g2 hg
      have h4' : (bs p == bs h) = true := h4
      rw [matchB, h1', h2', match_ref h1', h3', h4']; rfl
    have h4' : (bs p == bs h) = false := h4
    obtain ⟨c, hc⟩ : ∃ c, (bs p)[0]? = some c := getL_of (by omega)
    conv => whnf
    refine ⟨c, ⟨by omega, hc⟩, ?_⟩
    have hd : ((bs p).head? == some 42) = ((c.toNat : Int) == 42) := by
      rw [List.head?_eq_getElem?, hc, Bool.eq_iff_iff]
      simp only [beq_iff_eq, Option.some.injEq]
      exact ⟨fun h => by rw [h]; rfl, fun h => UInt8.toNat_inj.1 (by show c.toNat = 42; omega)⟩
    conv => whnf
    refine ⟨fun h5 => ?_, fun h5 => ?_⟩
    · conv => whnf
      intro g2 hg
      have h5' : ((bs p).head? == some 42) = false := by rw [hd]; simpa using h5
      rw [matchB, h1', h2', match_ref h1', h3', h4', h5']; rfl
    have h5' : ((bs p).head? == some 42) = true := by rw [hd]; simpa using h5
    conv => whnf
    refine ⟨⟨by omega, by omega⟩, ?_⟩
    have ht : bs (p.extract (1 : Int).toNat p.size) = (bs p).drop 1 := by
      rw [bs_extract, hp]; exact List.take_of_length_le (by simp)
    have htl : (p.extract (1 : Int).toNat p.size).size = ((bs p).drop 1).length := by rw [bs_size, ht]
    have hdl : ((bs p).drop 1).length = (bs p).length - 1 := List.length_drop
    have hw : IntKind.i64.wrap ((h.size : Int) - ((p.extract (1 : Int).toNat p.size).size : Int)) = (h.size : Int) - ((bs p).length - 1 : Nat) := by
      rw [htl, hdl, wr (by omega)]
    conv => whnf
    refine ⟨fun h6 => ?_, fun h6 => ?_⟩
    · have h6' := of_decide_eq_true h6
      rw [hw] at h6'
      conv => whnf
      refine ⟨⟨by rw [hw]; omega, by rw [hw]; omega⟩, ?_⟩
      conv => whnf
      intro g2 hg
      have e2 : bs (h.extract (IntKind.i64.wrap ((h.size : Int) - ((p.extract (1 : Int).toNat p.size).size : Int))).toNat h.size) = (bs h).drop ((bs h).length - ((bs p).drop 1).length) := by
        rw [bs_extract, hw, hdl, show ((h.size : Int) - ((bs p).length - 1 : Nat)).toNat = (bs h).length - ((bs p).length - 1) by omega, hh]
        exact List.take_of_length_le (by simp)
      rw [matchB, h1', h2', match_ref h1', h3', h4', h5', decide_eq_true (show ((bs p).drop 1).length < (bs h).length by rw [hdl]; omega), ← e2, ← ht]; rfl
    · conv => whnf
      intro g2 hg
      have h6' := of_decide_eq_false h6
      rw [hw] at h6'
      rw [matchB, h1', h2', match_ref h1', h3', h4', h5', decide_eq_false (show ¬ ((bs p).drop 1).length < (bs h).length by rw [hdl]; omega)]; rfl)
theorem ok_Under (g : GW) (a b : BA) (hs : Sm a ∧ Sm b) : OkV Try.prog n_hosts_Under [.string a, .string b] g (.bool (underB (bs a) (bs b))) :=
  Ok.of_fn hm noT 0 t_hosts_Under (args := [.v (.string a), .v (.string b)]) (by
    have hs1 := hs.1; have hs2 := hs.2
    unfold Sm at hs1 hs2
    conv => whnf
    refine .inl ⟨_, ok_Path _ _, ?_⟩
    conv => whnf
    refine ⟨fun h1 => ?_, fun h1 => ?_⟩
    · conv => whnf
      intro g2 hg
      have h1' : pathB (bs a) = false := by simpa using h1
      rw [underB, h1']; rfl
    have h1' : pathB (bs a) = true := by simpa using h1
    conv => whnf
    refine .inl ⟨_, ok_Path _ _, ?_⟩
    conv => whnf
    refine ⟨fun h2 => ?_, fun h2 => ?_⟩
    · conv => whnf
      intro g2 hg
      have h2' : pathB (bs b) = false := by simpa using h2
      rw [underB, h2']; simp
    have h2' : pathB (bs b) = true := by simpa using h2
    conv => whnf
    refine .inl ⟨_, ok_CutPrefix _ _ _, ?_⟩
    conv => whnf
    refine ⟨fun h3 => ?_, fun h3 => ?_⟩
    · have h3' : preL (bs b) (bs a) = true := h3
      have hcut := cutP_bs h3
      conv => whnf
      refine ⟨fun h4 => ?_, fun h4 => ?_⟩
      · conv => whnf
        intro g2 hg
        have h4' : ((bs a).drop (bs b).length == []) = true := by rw [← hcut]; exact h4
        rw [underB, h1', h2', h3', h4']; rfl
      have h4' : ((bs a).drop (bs b).length == []) = false := by rw [← hcut]; exact h4
      conv => whnf
      refine .inl ⟨_, ok_HasSuffix _ _ _ ⟨by omega, by decide⟩, ?_⟩
      conv => whnf
      refine ⟨fun h5 => ?_, fun h5 => ?_⟩
      · conv => whnf
        intro g2 hg
        have h5' : sufL [47] (bs b) = true := h5
        rw [underB, h1', h2', h3', h4', h5']; rfl
      have h5' : sufL [47] (bs b) = false := h5
      have hne : (bs a).drop (bs b).length ≠ [] := by simpa using h4'
      obtain ⟨c, hc⟩ : ∃ c, ((bs a).drop (bs b).length)[0]? = some c := getL_of (List.length_pos_iff.2 hne)
      conv => whnf
      refine ⟨c, ⟨by omega, by show (bs (cutP a b))[0]? = _; rw [hcut]; exact hc⟩, ?_⟩
      conv => whnf
      intro g2 hg
      rw [underB, h1', h2', h3', h4', h5', List.head?_eq_getElem?, hc]
      simp only [Bool.true_and, Bool.false_or]
      refine congrArg Value.bool ?_
      rw [Bool.eq_iff_iff]
      simp only [beq_iff_eq, Option.some.injEq]
      exact ⟨fun h => UInt8.toNat_inj.1 (by show c.toNat = 47; omega), fun h => by rw [h]; rfl⟩
    · conv => whnf
      intro g2 hg
      have h3' : preL (bs b) (bs a) = false := h3
      rw [underB, h1', h2', h3']; rfl)
theorem ok_rUnder (g : GW) (a b : BA) (hs : Sm a ∧ Sm b) : OkV Try.prog n_hydrantref04_Under [.string a, .string b] g (.bool (underB (bs a) (bs b))) :=
  Ok.of_fn hm noT 0 t_hydrantref04_Under (args := [.v (.string a), .v (.string b)]) (by
    have hs1 := hs.1; have hs2 := hs.2
    unfold Sm at hs1 hs2
    have ha := bs_size a; have hb := bs_size b
    conv => whnf
    refine .inl ⟨_, ok_rPath _ _, ?_⟩
    conv => whnf
    refine ⟨fun h1 => ?_, fun h1 => ?_⟩
    · conv => whnf
      intro g2 hg
      have h1' : pathB (bs a) = false := by simpa using h1
      rw [underB, h1']; rfl
    have h1' : pathB (bs a) = true := by simpa using h1
    conv => whnf
    refine .inl ⟨_, ok_rPath _ _, ?_⟩
    conv => whnf
    refine ⟨fun h2 => ?_, fun h2 => ?_⟩
    · conv => whnf
      intro g2 hg
      have h2' : pathB (bs b) = false := by simpa using h2
      rw [underB, h2']; simp
    have h2' : pathB (bs b) = true := by simpa using h2
    have hbne := path_ne_nil h2'
    have hbl := List.length_pos_iff.2 hbne
    have hu : underB (bs a) (bs b) = (decide ((bs b).length ≤ (bs a).length) && (bs a).take (bs b).length == bs b && (decide ((bs a).length = (bs b).length) || (bs b)[(bs b).length - 1]? == some 47 || (bs a)[(bs b).length]? == some 47)) := by
      rw [underB, h1', h2']
      simp only [Bool.true_and]
      exact under_ref hbne
    conv => whnf
    refine ⟨fun h3 => ?_, fun h3 => ?_⟩
    · conv => whnf
      intro g2 hg
      have := of_decide_eq_true h3
      rw [hu, decide_eq_false (show ¬ (bs b).length ≤ (bs a).length by omega)]; rfl
    have h3' : (bs b).length ≤ (bs a).length := by have := of_decide_eq_false h3; omega
    conv => whnf
    refine ⟨⟨by omega, by omega⟩, ?_⟩
    have e1 : bs (a.extract 0 (b.size : Int).toNat) = (bs a).take (bs b).length := by rw [bs_extract, Int.toNat_natCast, hb]; rfl
    conv => whnf
    refine ⟨fun h4 => ?_, fun h4 => ?_⟩
    · conv => whnf
      intro g2 hg
      have h4' : ((bs a).take (bs b).length == bs b) = false := by rw [← e1]; exact nb1 h4
      rw [hu, h4', Bool.and_false]; rfl
    have h4' : ((bs a).take (bs b).length == bs b) = true := by rw [← e1]; exact nb0 h4
    have hu2 : underB (bs a) (bs b) = (decide ((bs a).length = (bs b).length) || (bs b)[(bs b).length - 1]? == some 47 || (bs a)[(bs b).length]? == some 47) := by
      rw [hu, h4', decide_eq_true h3']; rfl
    conv => whnf
    refine ⟨fun h5 => ?_, fun h5 => ?_⟩
    · conv => whnf
      intro g2 hg
      have h5' : (bs a).length = (bs b).length := by simp at h5; omega
      rw [hu2, decide_eq_true h5']; rfl
    have h5' : ¬ (bs a).length = (bs b).length := by simp at h5; omega
    have hw : IntKind.i64.wrap ((b.size : Int) - 1) = ((bs b).length - 1 : Nat) := by rw [wr (by omega)]; omega
    obtain ⟨c, hc⟩ : ∃ c, (bs b)[(bs b).length - 1]? = some c := getL_of (by omega)
    conv => whnf
    refine ⟨c, ⟨by rw [hw]; omega, by rw [hw]; exact hc⟩, ?_⟩
    have ceq : ∀ c : UInt8, (some c == some (47 : UInt8)) = ((c.toNat : Int) == 47) := fun c => by
      rw [Bool.eq_iff_iff]
      simp only [beq_iff_eq, Option.some.injEq]
      exact ⟨fun h => by rw [h]; rfl, fun h => UInt8.toNat_inj.1 (by show c.toNat = 47; omega)⟩
    conv => whnf
    refine ⟨fun h6 => ?_, fun h6 => ?_⟩
    · conv => whnf
      intro g2 hg
      rw [hu2, hc, ceq, h6]; simp
    obtain ⟨d, hd⟩ : ∃ d, (bs a)[(bs b).length]? = some d := getL_of (by omega)
    conv => whnf
    refine ⟨d, ⟨by omega, by rw [show (b.size : Int).toNat = (bs b).length by omega]; exact hd⟩, ?_⟩
    conv => whnf
    intro g2 hg
    rw [hu2, hc, hd, ceq, ceq, h6, decide_eq_false h5']; rfl)
theorem ok_Weight (g : GW) (p : BA) : OkV Try.prog n_hosts_Weight [.string p] g (.int .i64 (weightB (bs p))) :=
  Ok.of_fn hm noT 0 t_hosts_Weight (args := [.v (.string p)]) (by
    conv => whnf
    refine .inl ⟨_, ok_Pattern _ _, ?_⟩
    conv => whnf
    refine ⟨fun h1 => ?_, fun h1 => ?_⟩
    · conv => whnf
      intro g2 hg
      have h1' : patternB (bs p) = false := by simpa using h1
      rw [weightB, h1']; rfl
    have h1' : patternB (bs p) = true := by simpa using h1
    conv => whnf
    refine .inl ⟨_, ok_CutPrefix _ _ _, ?_⟩
    conv => whnf
    refine ⟨fun h2 => ?_, fun h2 => ?_⟩
    · conv => whnf
      intro g2 hg
      have h2' : preL [42, 46] (bs p) = true := h2
      rw [weightB, h1', h2', bs_size, cutP_bs h2]; rfl
    have h2' : preL [42, 46] (bs p) = false := h2
    conv => whnf
    refine ⟨fun h3 => ?_, fun h3 => ?_⟩
    · conv => whnf
      intro g2 hg
      have h3' : (bs p == [42]) = true := h3
      rw [weightB, h1', h2', h3']; rfl
    · conv => whnf
      intro g2 hg
      have h3' : (bs p == [42]) = false := h3
      rw [weightB, h1', h2', h3']; rfl)
theorem ok_rWeight (g : GW) (p : BA) (hs : Sm p) : OkV Try.prog n_hydrantref04_Weight [.string p] g (.int .i64 (weightB (bs p))) :=
  Ok.of_fn hm noT 0 t_hydrantref04_Weight (args := [.v (.string p)]) (by
    unfold Sm at hs
    have hp := bs_size p
    conv => whnf
    refine .inl ⟨_, ok_rPattern _ _ (by omega), ?_⟩
    conv => whnf
    refine ⟨fun h1 => ?_, fun h1 => ?_⟩
    · conv => whnf
      intro g2 hg
      have h1' : patternB (bs p) = false := by simpa using h1
      rw [weight_ref, h1']; rfl
    have h1' : patternB (bs p) = true := by simpa using h1
    conv => whnf
    refine ⟨fun h2 => ?_, fun h2 => ?_⟩
    · conv => whnf
      intro g2 hg
      have h2' : (bs p == [42]) = true := h2
      rw [weight_ref, h1', h2']; rfl
    have h2' : (bs p == [42]) = false := h2
    have hne := List.length_pos_iff.2 (pattern_ne_nil h1')
    obtain ⟨c, hc⟩ : ∃ c, (bs p)[0]? = some c := getL_of (by omega)
    conv => whnf
    refine ⟨c, ⟨by omega, hc⟩, ?_⟩
    have hd : ((bs p).head? == some 42) = ((c.toNat : Int) == 42) := by
      rw [List.head?_eq_getElem?, hc, Bool.eq_iff_iff]
      simp only [beq_iff_eq, Option.some.injEq]
      exact ⟨fun h => by rw [h]; rfl, fun h => UInt8.toNat_inj.1 (by show c.toNat = 42; omega)⟩
    conv => whnf
    refine ⟨fun h3 => ?_, fun h3 => ?_⟩
    · conv => whnf
      intro g2 hg
      rw [wr (by omega), weight_ref, h1', h2', hd, h3, hp]; rfl
    · conv => whnf
      intro g2 hg
      rw [weight_ref, h1', h2', hd, h3]; rfl)
theorem ok_Better (g : GW) (a p b q : BA) : OkV Try.prog n_hosts_Better [.string a, .string p, .string b, .string q] g (.bool (betterB (bs a) (bs p) (bs b) (bs q))) :=
  Ok.of_fn hm noT 0 t_hosts_Better (args := [.v (.string a), .v (.string p), .v (.string b), .v (.string q)]) (by
    conv => whnf
    refine .inl ⟨_, ok_Weight _ _, ?_⟩
    conv => whnf
    refine .inl ⟨_, ok_Weight _ _, ?_⟩
    conv => whnf
    refine ⟨fun h1 => ?_, fun h1 => ?_⟩
    · conv => whnf
      intro g2 hg
      rw [betterB, h1]; rfl
    · conv => whnf
      intro g2 hg
      rw [betterB, h1, bs_size p, bs_size q]
      simp)
theorem ok_rBetter (g : GW) (a p b q : BA) (hs : Sm a ∧ Sm b) : OkV Try.prog n_hydrantref04_Better [.string a, .string p, .string b, .string q] g (.bool (betterB (bs a) (bs p) (bs b) (bs q))) :=
  Ok.of_fn hm noT 0 t_hydrantref04_Better (args := [.v (.string a), .v (.string p), .v (.string b), .v (.string q)]) (by
    conv => whnf
    refine .inl ⟨_, ok_rWeight _ _ hs.1, ?_⟩
    conv => whnf
    refine .inl ⟨_, ok_rWeight _ _ hs.2, ?_⟩
    conv => whnf
    refine ⟨fun h1 => ?_, fun h1 => ?_⟩
    · conv => whnf
      intro g2 hg
      rw [better_ref, h1]; rfl
    conv => whnf
    refine ⟨fun h2 => ?_, fun h2 => ?_⟩
    · conv => whnf
      intro g2 hg
      rw [better_ref, h1, h2, bs_size p, bs_size q]
      simp
    · conv => whnf
      intro g2 hg
      rw [better_ref, h1, h2]; rfl)
end Go.Proofs.Ytjbhkahjhohaeaa
