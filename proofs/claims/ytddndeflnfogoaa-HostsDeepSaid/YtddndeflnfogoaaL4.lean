/- The laws of layer 4: what each of them answers, whatever it is asked. -/
import Derived.Test.YtddndeflnfogoaaH4
namespace Go.Proofs.Ytddndeflnfogoaa
open Go.Proofs.Ytddndeflnfogoaa.Sx
theorem ok_matched (g : GW) : OkV Try.prog n_hydrantlaw04_matched [] g (.bool true) :=
  Ok.of_fn hm noT 0 t_hydrantlaw04_matched (args := []) (by
    conv => whnf
    refine .inl ⟨.bool true, (ok_Match _ _ _ (by decide)).to (congrArg Value.bool (by decide)), ?_⟩
    conv => whnf
    refine ⟨fun _ => ?_, fun h => nomatch h⟩
    conv => whnf
    refine .inl ⟨.bool true, (ok_Match _ _ _ (by decide)).to (congrArg Value.bool (by decide)), ?_⟩
    conv => whnf
    refine ⟨fun _ => ?_, fun h => nomatch h⟩
    conv => whnf
    refine .inl ⟨.bool false, (ok_Match _ _ _ (by decide)).to (congrArg Value.bool (by decide)), ?_⟩
    conv => whnf
    refine ⟨fun _ => ?_, fun h => nomatch h⟩
    conv => whnf
    refine .inl ⟨.bool false, (ok_Match _ _ _ (by decide)).to (congrArg Value.bool (by decide)), ?_⟩
    conv => whnf
    refine ⟨fun _ => ?_, fun h => nomatch h⟩
    conv => whnf
    refine .inl ⟨.bool true, (ok_Match _ _ _ (by decide)).to (congrArg Value.bool (by decide)), ?_⟩
    conv => whnf
    refine ⟨fun _ => ?_, fun h => nomatch h⟩
    conv => whnf
    refine .inl ⟨.bool false, (ok_Match _ _ _ (by decide)).to (congrArg Value.bool (by decide)), ?_⟩
    conv => whnf
    refine ⟨fun _ => ?_, fun h => nomatch h⟩
    conv => whnf
    refine .inl ⟨.bool true, (ok_Under _ _ _ (by decide)).to (congrArg Value.bool (by decide)), ?_⟩
    conv => whnf
    refine ⟨fun _ => ?_, fun h => nomatch h⟩
    conv => whnf
    refine .inl ⟨.bool false, (ok_Under _ _ _ (by decide)).to (congrArg Value.bool (by decide)), ?_⟩
    conv => whnf
    refine ⟨fun _ => ?_, fun h => nomatch h⟩
    conv => whnf
    refine .inl ⟨.bool true, (ok_Under _ _ _ (by decide)).to (congrArg Value.bool (by decide)), ?_⟩
    conv => whnf
    refine ⟨fun _ => ?_, fun h => nomatch h⟩
    conv => whnf
    refine .inl ⟨.int .i64 2, (ok_Weight _ _).to (congrArg (Value.int .i64) (by decide)), ?_⟩
    conv => whnf
    refine ⟨fun _ => ?_, fun h => nomatch h⟩
    conv => whnf
    refine .inl ⟨.int .i64 100, (ok_Weight _ _).to (congrArg (Value.int .i64) (by decide)), ?_⟩
    conv => whnf
    refine ⟨fun _ => ?_, fun h => nomatch h⟩
    conv => whnf
    refine .inl ⟨.int .i64 0, (ok_Weight _ _).to (congrArg (Value.int .i64) (by decide)), ?_⟩
    conv => whnf
    refine ⟨fun _ => ?_, fun h => nomatch h⟩
    conv => whnf
    refine .inl ⟨.bool true, (ok_Better _ _ _ _ _).to (congrArg Value.bool (by decide)), ?_⟩
    conv => whnf
    refine ⟨fun _ => ?_, fun h => nomatch h⟩
    conv => whnf
    refine .inl ⟨.bool false, (ok_Better _ _ _ _ _).to (congrArg Value.bool (by decide)), ?_⟩
    conv => whnf
    intro g2 hg
    rfl)
theorem lw_Match (g : GW) (a b : BA) : OkV Try.prog n_hydrantlaw04_HostsMatch [.string a, .string b] g (.bool true) :=
  Ok.of_fn hm noT 0 t_hydrantlaw04_HostsMatch (args := [.v (.string a), .v (.string b)]) (by
    conv => whnf
    refine ⟨fun h1 => ?_, fun h1 => ?_⟩
    · conv => whnf
      intro g2 hg
      rfl
    conv => whnf
    refine ⟨fun h2 => ?_, fun h2 => ?_⟩
    · conv => whnf
      intro g2 hg
      rfl
    have hs : Sm a ∧ Sm b := by
      have := of_decide_eq_false h1; have := of_decide_eq_false h2
      unfold Sm; omega
    conv => whnf
    refine .inl ⟨_, ok_matched _, ?_⟩
    conv => whnf
    refine ⟨fun _ => ?_, fun h => nomatch h⟩
    conv => whnf
    refine .inl ⟨_, ok_Match _ _ _ hs, ?_⟩
    conv => whnf
    refine .inl ⟨_, ok_rMatch _ _ _ hs, ?_⟩
    conv => whnf
    refine ⟨fun _ => ?_, fun h => absurd h (by simp)⟩
    conv => whnf
    refine .inl ⟨_, ok_Under _ _ _ hs, ?_⟩
    conv => whnf
    refine .inl ⟨_, ok_rUnder _ _ _ hs, ?_⟩
    conv => whnf
    refine ⟨fun _ => ?_, fun h => absurd h (by simp)⟩
    conv => whnf
    refine .inl ⟨_, ok_Weight _ _, ?_⟩
    conv => whnf
    refine .inl ⟨_, ok_rWeight _ _ hs.1, ?_⟩
    conv => whnf
    intro g2 hg
    simp)
theorem lw_Better (g : GW) (a p b q : BA) : OkV Try.prog n_hydrantlaw04_HostsBetter [.string a, .string p, .string b, .string q] g (.bool true) :=
  Ok.of_fn hm noT 0 t_hydrantlaw04_HostsBetter (args := [.v (.string a), .v (.string p), .v (.string b), .v (.string q)]) (by
    conv => whnf
    refine ⟨fun h1 => ?_, fun h1 => ?_⟩
    · conv => whnf
      intro g2 hg
      rfl
    conv => whnf
    refine ⟨fun h2 => ?_, fun h2 => ?_⟩
    · conv => whnf
      intro g2 hg
      rfl
    conv => whnf
    refine ⟨fun h3 => ?_, fun h3 => ?_⟩
    · conv => whnf
      intro g2 hg
      rfl
    conv => whnf
    refine ⟨fun h4 => ?_, fun h4 => ?_⟩
    · conv => whnf
      intro g2 hg
      rfl
    have hs : Sm a ∧ Sm b := by
      have := of_decide_eq_false h1; have := of_decide_eq_false h2; have := of_decide_eq_false h3; have := of_decide_eq_false h4
      unfold Sm; omega
    conv => whnf
    refine .inl ⟨_, ok_matched _, ?_⟩
    conv => whnf
    refine ⟨fun _ => ?_, fun h => nomatch h⟩
    conv => whnf
    refine .inl ⟨_, ok_Better _ _ _ _ _, ?_⟩
    conv => whnf
    refine .inl ⟨_, ok_rBetter _ _ _ _ _ hs, ?_⟩
    conv => whnf
    refine ⟨fun _ => ?_, fun h => absurd h (by simp)⟩
    conv => whnf
    refine .inl ⟨_, ok_Better _ _ _ _ _, ?_⟩
    conv => whnf
    refine ⟨fun h5 => ?_, fun h5 => ?_⟩
    · conv => whnf
      refine .inl ⟨_, ok_Better _ _ _ _ _, ?_⟩
      conv => whnf
      refine ⟨fun h6 => ?_, fun h6 => ?_⟩
      · conv => whnf
        refine .inl ⟨_, ok_Better _ _ _ _ _, ?_⟩
        conv => whnf
        intro g2 hg
        rw [better_self]; rfl
      · have := better_anti (bs a) (bs p) (bs b) (bs q)
        rw [h5, nb0 h6] at this; cases this
    · conv => whnf
      refine .inl ⟨_, ok_Better _ _ _ _ _, ?_⟩
      conv => whnf
      intro g2 hg
      rw [better_self]; rfl)
theorem lw_Unlike (g : GW) (a b h : BA) : OkV Try.prog n_hydrantlaw04_HostsUnlike [.string a, .string b, .string h] g (.bool true) :=
  Ok.of_fn hm noT 0 t_hydrantlaw04_HostsUnlike (args := [.v (.string a), .v (.string b), .v (.string h)]) (by
    conv => whnf
    refine ⟨fun h1 => ?_, fun h1 => ?_⟩
    · conv => whnf
      intro g2 hg
      rfl
    conv => whnf
    refine ⟨fun h2 => ?_, fun h2 => ?_⟩
    · conv => whnf
      intro g2 hg
      rfl
    conv => whnf
    refine ⟨fun h3 => ?_, fun h3 => ?_⟩
    · conv => whnf
      intro g2 hg
      rfl
    have hs : Sm a ∧ Sm b ∧ Sm h := by
      have := of_decide_eq_false h1; have := of_decide_eq_false h2; have := of_decide_eq_false h3
      unfold Sm; omega
    conv => whnf
    refine .inl ⟨_, ok_Match _ _ _ ⟨hs.1, hs.2.2⟩, ?_⟩
    conv => whnf
    refine ⟨fun h4 => ?_, fun h4 => ?_⟩
    · conv => whnf
      refine .inl ⟨_, ok_matched _, ?_⟩
      conv => whnf
      intro g2 hg
      rfl
    conv => whnf
    refine .inl ⟨_, ok_Match _ _ _ ⟨hs.2.1, hs.2.2⟩, ?_⟩
    conv => whnf
    refine ⟨fun h5 => ?_, fun h5 => ?_⟩
    · conv => whnf
      refine .inl ⟨_, ok_matched _, ?_⟩
      conv => whnf
      intro g2 hg
      rfl
    conv => whnf
    refine .inl ⟨_, ok_matched _, ?_⟩
    conv => whnf
    refine ⟨fun _ => ?_, fun h => nomatch h⟩
    conv => whnf
    refine .inl ⟨_, ok_Weight _ _, ?_⟩
    conv => whnf
    refine .inl ⟨_, ok_Weight _ _, ?_⟩
    have hu := unlike (nb0 h4) (nb0 h5)
    conv => whnf
    refine ⟨fun _ => ?_, fun h => absurd h (by show ¬ (((bs a == bs b) == (weightB (bs a) == weightB (bs b))) = false); rw [hu]; simp)⟩
    conv => whnf
    refine .inl ⟨_, ok_Host _ _, ?_⟩
    conv => whnf
    intro g2 hg
    have := nb0 h4
    unfold matchB at this
    simp only [Bool.and_eq_true] at this
    rw [this.1.2])
theorem lw_Under (g : GW) (a b c : BA) : OkV Try.prog n_hydrantlaw04_HostsUnder [.string a, .string b, .string c] g (.bool true) :=
  Ok.of_fn hm noT 0 t_hydrantlaw04_HostsUnder (args := [.v (.string a), .v (.string b), .v (.string c)]) (by
    conv => whnf
    refine ⟨fun h1 => ?_, fun h1 => ?_⟩
    · conv => whnf
      intro g2 hg
      rfl
    conv => whnf
    refine ⟨fun h2 => ?_, fun h2 => ?_⟩
    · conv => whnf
      intro g2 hg
      rfl
    conv => whnf
    refine ⟨fun h3 => ?_, fun h3 => ?_⟩
    · conv => whnf
      intro g2 hg
      rfl
    have hs : Sm a ∧ Sm b ∧ Sm c := by
      have := of_decide_eq_false h1; have := of_decide_eq_false h2; have := of_decide_eq_false h3
      unfold Sm; omega
    have htr : underB (bs a) (bs b) = true → underB (bs b) (bs c) = true → underB (bs a) (bs c) = true := under_trans
    have han : underB (bs a) (bs b) = true → underB (bs b) (bs a) = true → (a.data.toList == b.data.toList) = true := fun h k => by simpa using under_anti h k
    have hse := under_self (bs a)
    repeat' ((conv => whnf); first | refine ⟨rfl, ?_⟩ | refine ⟨⟨rfl, rfl⟩, ?_⟩ | refine ⟨⟨rfl, rfl, rfl⟩, ?_⟩ | refine ⟨⟨rfl, rfl, rfl, rfl⟩, ?_⟩ | refine ⟨⟨rfl, rfl, rfl, rfl, rfl⟩, ?_⟩ | refine fun (_ : Nat) => ?_ | refine fun (_ : Option Addr) (_ : Nat) => ?_ | refine .inl ⟨_, ok_matched _, ?_⟩ | refine .inl ⟨_, ok_Under _ _ _ ⟨hs.1, hs.2.1⟩, ?_⟩ | refine .inl ⟨_, ok_Under _ _ _ ⟨hs.2.1, hs.1⟩, ?_⟩ | refine .inl ⟨_, ok_Under _ _ _ ⟨hs.1, hs.1⟩, ?_⟩ | refine .inl ⟨_, ok_Under _ _ _ ⟨hs.2.1, hs.2.2⟩, ?_⟩ | refine .inl ⟨_, ok_Under _ _ _ ⟨hs.1, hs.2.2⟩, ?_⟩ | refine .inl ⟨_, ok_Path _ _, ?_⟩ | refine ⟨fun _ => ?_, fun _ => ?_⟩ | fail)
    all_goals (conv => whnf)
    all_goals (intro g2 hg)
    all_goals simp_all)
theorem lw_Deep (g : GW) (t h x : BA) : OkV Try.prog n_hydrantlaw04_HostsDeep [.string t, .string h, .string x] g (.bool true) :=
  Ok.of_fn hm noT 0 t_hydrantlaw04_HostsDeep (args := [.v (.string t), .v (.string h), .v (.string x)]) (by
    conv => whnf
    refine ⟨fun h1 => ?_, fun h1 => ?_⟩
    · conv => whnf
      intro g2 hg
      rfl
    conv => whnf
    refine ⟨fun h2 => ?_, fun h2 => ?_⟩
    · conv => whnf
      intro g2 hg
      rfl
    conv => whnf
    refine ⟨fun h3 => ?_, fun h3 => ?_⟩
    · conv => whnf
      intro g2 hg
      rfl
    have h1 := of_decide_eq_false h1; have h2 := of_decide_eq_false h2; have h3 := of_decide_eq_false h3
    have sz : ∀ (a b : BA), (a ++ b).size = a.size + b.size := fun a b => by simp
    have z1 : (⟨#[42, 46]⟩ : BA).size = 2 := rfl
    have z2 : (⟨#[46]⟩ : BA).size = 1 := rfl
    conv => whnf
    refine ⟨by rw [z1]; omega, ?_⟩
    conv => whnf
    refine ⟨by rw [z2]; omega, ?_⟩
    conv => whnf
    refine ⟨by rw [sz, z2]; omega, ?_⟩
    have sm : Sm (⟨#[42, 46]⟩ ++ t) ∧ Sm h ∧ Sm (x ++ ⟨#[46]⟩ ++ h) ∧ Sm (⟨#[42, 46]⟩ ++ h) := by
      unfold Sm; simp only [sz, z1, z2]; omega
    have b1 : ∀ u : BA, bs (⟨#[42, 46]⟩ ++ u) = 42 :: 46 :: bs u := fun u => by rw [bs_append]; rfl
    have b2 : bs (x ++ ⟨#[46]⟩ ++ h) = bs x ++ 46 :: bs h := by rw [bs_append, bs_append, List.append_assoc]; rfl
    conv => whnf
    refine .inl ⟨_, ok_Host _ _, ?_⟩
    conv => whnf
    refine ⟨fun h4 => ?_, fun h4 => ?_⟩
    · conv => whnf
      refine .inl ⟨_, ok_matched _, ?_⟩
      conv => whnf
      intro g2 hg
      rfl
    conv => whnf
    refine .inl ⟨_, ok_Host _ _, ?_⟩
    conv => whnf
    refine ⟨fun h5 => ?_, fun h5 => ?_⟩
    · conv => whnf
      refine .inl ⟨_, ok_matched _, ?_⟩
      conv => whnf
      intro g2 hg
      rfl
    have hd := nb0 h4
    have hh := nb0 h5
    rw [b2] at hd
    obtain ⟨d1, d2, d3⟩ := deep (t := bs t) hh hd
    conv => whnf
    refine .inl ⟨_, ok_matched _, ?_⟩
    conv => whnf
    refine ⟨fun _ => ?_, fun h => nomatch h⟩
    conv => whnf
    refine .inl ⟨_, ok_Match _ _ _ ⟨sm.1, sm.2.1⟩, ?_⟩
    have fin : ∀ sl : Sl, True := fun _ => trivial
    conv => whnf
    refine ⟨fun h6 => ?_, fun h6 => ?_⟩
    · conv => whnf
      refine ⟨by rw [z1]; omega, ?_⟩
      conv => whnf
      refine .inl ⟨_, ok_Match _ _ _ ⟨sm.2.2.2, sm.2.2.1⟩, ?_⟩
      conv => whnf
      refine ⟨fun _ => ?_, fun hx => absurd hx (by rw [b1, b2, d2]; simp)⟩
      conv => whnf
      refine ⟨by rw [z1]; omega, ?_⟩
      conv => whnf
      refine .inl ⟨_, ok_Match _ _ _ ⟨sm.2.2.2, sm.2.1⟩, ?_⟩
      conv => whnf
      intro g2 hg
      rw [b1, d3]; rfl
    · conv => whnf
      refine .inl ⟨_, ok_Match _ _ _ ⟨sm.1, sm.2.2.1⟩, ?_⟩
      have h6' := nb0 h6
      rw [b1] at h6'
      conv => whnf
      refine ⟨fun _ => ?_, fun hx => absurd hx (by rw [b1, b2, d1 h6']; simp)⟩
      conv => whnf
      refine ⟨by rw [z1]; omega, ?_⟩
      conv => whnf
      refine .inl ⟨_, ok_Match _ _ _ ⟨sm.2.2.2, sm.2.2.1⟩, ?_⟩
      conv => whnf
      refine ⟨fun _ => ?_, fun hx => absurd hx (by rw [b1, b2, d2]; simp)⟩
      conv => whnf
      refine ⟨by rw [z1]; omega, ?_⟩
      conv => whnf
      refine .inl ⟨_, ok_Match _ _ _ ⟨sm.2.2.2, sm.2.1⟩, ?_⟩
      conv => whnf
      intro g2 hg
      rw [b1, d3]; rfl)
end Go.Proofs.Ytddndeflnfogoaa
