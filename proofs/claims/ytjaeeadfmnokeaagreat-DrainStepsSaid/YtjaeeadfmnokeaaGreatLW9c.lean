/- Worlds: limbo: is it right? -/
import Derived.Test.YtjaeeadfmnokeaaGreatLW9a
import Derived.Test.YtjaeeadfmnokeaaGreatLS7b
namespace Go.Proofs.YtjaeeadfmnokeaaGreat
open Go.Proofs.YtjaeeadfmnokeaaGreat.Sx Go.RowKit
def tLh : List (Nat × FnI) := [(n_slices_ContainsFunc___api_Retired_api_Retired, f_slices_ContainsFunc___api_Retired_api_Retired), (n_slices_IndexFunc___api_Retired_api_Retired, f_slices_IndexFunc___api_Retired_api_Retired), (n_limbo_has_1, f_limbo_has_1)]
theorem tLh_ok : TblOk Tryz.prog tLh := by
  intro x hx
  simp only [tLh, List.mem_cons, List.not_mem_nil, or_false] at hx
  rcases hx with rfl | rfl | rfl
  · exact ⟨_, _, t_slices_ContainsFunc___api_Retired_api_Retired⟩
  · exact ⟨_, _, t_slices_IndexFunc___api_Retired_api_Retired⟩
  · exact ⟨_, _, t_limbo_has_1⟩
theorem ok_lHas (g : GW) {v : Value} {l : List Retired} (hl : rSl 3 rRetired g v l) (n : Int) : OkV Tryz.prog n_limbo_has [v, .int .i64 n] g (.bool (l.any fun r => r.version == n)) :=
  Ok.of_fn hm tLh_ok 3 t_limbo_has (args := [.v v, .v (.int .i64 n)]) (by
    obtain ⟨oa, cap, rfl, h1, h2, h0, hr⟩ := hl
    repeat ((conv => whnf); first | apply qza | apply qzb | apply qzc | apply qzd | apply qze | intro (_ : Nat) | intro (_ : Option Addr) (_ : Nat))
    conv => whnf
    refine ⟨Nat, fun k => [.v (.int .i64 k)], fun k => ⟨g, [.blk 0 _ _ [.v (.int .i64 n)]], _, _⟩, fun k => k ≤ l.length ∧ Pass (idxF fun (x : Retired) => x.version == n) l k, fun k => l.length - k, loop_here 0 rfl ⟨Nat.zero_le _, Pass.zero _ _⟩ rfl, ?_⟩
    rintro k ⟨hk, hp⟩
    conv => whnf
    refine ⟨fun hlt => ?_, fun hlt => ?_⟩
    · have h' : k < l.length := by have := of_decide_eq_true hlt; omega
      obtain ⟨x, hx⟩ := getL_of h'
      obtain ⟨a, rfl, ec, hec, ⟨rfl, _⟩, hc⟩ := hr k x hx
      conv => whnf
      refine ⟨a, rfl, ⟨by omega, by omega⟩, ?_⟩
      conv => whnf
      refine ⟨_, ⟨rfl, hc⟩, ?_⟩
      conv => whnf
      refine ⟨k_limbo_has_1, ?_⟩
      repeat ((conv => whnf); first | apply qza | apply qzb | apply qzc | apply qzd | apply qze | intro (_ : Nat) | intro (_ : Option Addr) (_ : Nat))
      conv => whnf
      refine ⟨fun he => ?_, fun he => ?_⟩
      · conv => whnf
        intro g2 hg
        have : (l.any fun r => r.version == n) = true := List.any_eq_true.2 ⟨x, List.mem_of_getElem? hx, he⟩
        rw [this]; simp
      · conv => whnf
        refine fun fr w hw => ⟨k + 1, congrArg (fun z => [Value.int .i64 z]) (wr1 h' h1 h2).symm, ⟨h', idx_next hp hx he⟩, dec h', ?_⟩
        exact hw.fit (by simp [fitL, Res.eqv, concL, conc])
    · conv => whnf
      intro g2 hg
      have := of_decide_eq_false hlt
      have h3 := idx_any (fun (x : Retired) => x.version == n) l
      rw [idxO_miss hp (by omega)] at h3
      rw [← h3])
theorem ok_lIs (g : GW) {v : Value} {l : List Retired} (hl : rSl 3 rRetired g v l) : OkV Tryz.prog n_limbo_Is [v] g (.bool (limboB l)) :=
  Ok.of_fn hm noT 0 t_limbo_Is (args := [.v v]) (by
    obtain ⟨oa, cap, rfl, h1, h2, h0, hr⟩ := id hl
    repeat ((conv => whnf); first | apply qza | apply qzb | apply qzc | apply qzd | apply qze | intro (_ : Nat) | intro (_ : Option Addr) (_ : Nat))
    conv => whnf
    refine ⟨Nat, fun k => [.v (.int .i64 k)], fun k => ⟨g, [], _, _⟩, fun k => k ≤ l.length ∧ AllK (retB l) l k, fun k => l.length - k, loop_here 0 rfl ⟨Nat.zero_le _, AllK.zero _ _⟩ rfl, ?_⟩
    rintro k ⟨hk, hp⟩
    conv => whnf
    refine ⟨fun hlt => ?_, fun hlt => ?_⟩
    · have h' : k < l.length := by have := of_decide_eq_true hlt; omega
      obtain ⟨x, hx⟩ := getL_of h'
      obtain ⟨a, rfl, ec, hec, ⟨rfl, _⟩, hc⟩ := hr k x hx
      repeat ((conv => whnf); first | apply qza | apply qzb | apply qzc | apply qzd | apply qze | intro (_ : Nat) | intro (_ : Option Addr) (_ : Nat))
      conv => whnf
      refine ⟨a, rfl, ⟨by omega, by omega⟩, ?_⟩
      conv => whnf
      refine ⟨_, ⟨rfl, hc⟩, ?_⟩
      repeat ((conv => whnf); first | apply qza | apply qzb | apply qzc | apply qzd | apply qze | intro (_ : Nat) | intro (_ : Option Addr) (_ : Nat))
      conv => whnf
      refine ⟨fun b1 => ?_, fun b1 => ?_⟩
      · repeat ((conv => whnf); first | apply qza | apply qzb | apply qzc | apply qzd | apply qze | intro (_ : Nat) | intro (_ : Option Addr) (_ : Nat))
        conv => whnf
        intro g2 hg
        have b1' := of_decide_eq_true b1
        exact congrArg Value.bool (allI_false hx (by unfold retB; rw [decide_eq_false (by omega)]; rfl)).symm
      · have b1' := of_decide_eq_false b1
        repeat ((conv => whnf); first | apply qza | apply qzb | apply qzc | apply qzd | apply qze | intro (_ : Nat) | intro (_ : Option Addr) (_ : Nat))
        conv => whnf
        refine ⟨fun b2 => ?_, fun b2 => ?_⟩
        · repeat ((conv => whnf); first | apply qza | apply qzb | apply qzc | apply qzd | apply qze | intro (_ : Nat) | intro (_ : Option Addr) (_ : Nat))
          conv => whnf
          intro g2 hg
          have b2' := of_decide_eq_true b2
          exact congrArg Value.bool (allI_false hx (by unfold retB; rw [decide_eq_false (show ¬ 0 ≤ x.at_ by omega)]; simp)).symm
        · have b2' := of_decide_eq_false b2
          repeat ((conv => whnf); first | apply qza | apply qzb | apply qzc | apply qzd | apply qze | intro (_ : Nat) | intro (_ : Option Addr) (_ : Nat))
          conv => whnf
          refine ⟨⟨by omega, by omega⟩, ?_⟩
          repeat ((conv => whnf); first | apply qza | apply qzb | apply qzc | apply qzd | apply qze | intro (_ : Nat) | intro (_ : Option Addr) (_ : Nat))
          conv => whnf
          refine .inl ⟨_, ok_lHas _ (rSl.take hl hk) _, ?_⟩
          repeat ((conv => whnf); first | apply qza | apply qzb | apply qzc | apply qzd | apply qze | intro (_ : Nat) | intro (_ : Option Addr) (_ : Nat))
          conv => whnf
          refine ⟨fun b3 => ?_, fun b3 => ?_⟩
          · repeat ((conv => whnf); first | apply qza | apply qzb | apply qzc | apply qzd | apply qze | intro (_ : Nat) | intro (_ : Option Addr) (_ : Nat))
            conv => whnf
            intro g2 hg
            exact congrArg Value.bool (allI_false hx (by unfold retB; rw [b3]; simp)).symm
          · repeat ((conv => whnf); first | apply qza | apply qzb | apply qzc | apply qzd | apply qze | intro (_ : Nat) | intro (_ : Option Addr) (_ : Nat))
            conv => whnf
            refine fun fr w hw => ⟨k + 1, congrArg (fun z => [Value.int .i64 z]) (wr1 h' h1 h2).symm, ⟨h', hp.succ hx ?_⟩, dec h', ?_⟩
            · unfold retB
              rw [b3, decide_eq_true (show 0 ≤ x.version by omega), decide_eq_true (show 0 ≤ x.at_ by omega)]; rfl
            · exact hw.fit (by simp [fitL, Res.eqv, concL, conc])
    · repeat ((conv => whnf); first | apply qza | apply qzb | apply qzc | apply qzd | apply qze | intro (_ : Nat) | intro (_ : Option Addr) (_ : Nat))
      conv => whnf
      intro g2 hg
      have := of_decide_eq_false hlt
      exact congrArg Value.bool (hp.done (by omega)).symm)
theorem ok_r16place (g : GW) {v : Value} {l : List Retired} (hl : rSl 3 rRetired g v l) (n : Int) : OkV Tryz.prog n_hydrantref16_place [v, .int .i64 n] g (.int .i64 (idxI (idxO (fun r => r.version == n) l))) :=
  Ok.of_fn hm noT 0 t_hydrantref16_place (args := [.v v, .v (.int .i64 n)]) (by
    obtain ⟨oa, cap, rfl, h1, h2, h0, hr⟩ := hl
    repeat ((conv => whnf); first | apply qza | apply qzb | apply qzc | apply qzd | apply qze | intro (_ : Nat) | intro (_ : Option Addr) (_ : Nat))
    conv => whnf
    refine ⟨Nat, fun k => [.v (.int .i64 k)], fun k => ⟨g, [], _, _⟩, fun k => k ≤ l.length ∧ Pass (idxF fun (x : Retired) => x.version == n) l k, fun k => l.length - k, loop_here 0 rfl ⟨Nat.zero_le _, Pass.zero _ _⟩ rfl, ?_⟩
    rintro k ⟨hk, hp⟩
    repeat ((conv => whnf); first | apply qza | apply qzb | apply qzc | apply qzd | apply qze | intro (_ : Nat) | intro (_ : Option Addr) (_ : Nat))
    conv => whnf
    refine ⟨fun hlt => ?_, fun hlt => ?_⟩
    · have h' : k < l.length := by have := of_decide_eq_true hlt; omega
      obtain ⟨x, hx⟩ := getL_of h'
      obtain ⟨a, rfl, ec, hec, ⟨rfl, _⟩, hc⟩ := hr k x hx
      repeat ((conv => whnf); first | apply qza | apply qzb | apply qzc | apply qzd | apply qze | intro (_ : Nat) | intro (_ : Option Addr) (_ : Nat))
      conv => whnf
      refine ⟨a, rfl, ⟨by omega, by omega⟩, ?_⟩
      conv => whnf
      refine ⟨_, hc 0 _ rfl, ?_⟩
      repeat ((conv => whnf); first | apply qza | apply qzb | apply qzc | apply qzd | apply qze | intro (_ : Nat) | intro (_ : Option Addr) (_ : Nat))
      conv => whnf
      refine ⟨fun he => ?_, fun he => ?_⟩
      · repeat ((conv => whnf); first | apply qza | apply qzb | apply qzc | apply qzd | apply qze | intro (_ : Nat) | intro (_ : Option Addr) (_ : Nat))
        conv => whnf
        intro g2 hg
        rw [idxO_hit hp hx he]
      · repeat ((conv => whnf); first | apply qza | apply qzb | apply qzc | apply qzd | apply qze | intro (_ : Nat) | intro (_ : Option Addr) (_ : Nat))
        conv => whnf
        refine fun fr w hw => ⟨k + 1, congrArg (fun z => [Value.int .i64 z]) (wr1 h' h1 h2).symm, ⟨h', idx_next hp hx he⟩, dec h', ?_⟩
        exact hw.fit (by simp [fitL, Res.eqv, concL, conc])
    · repeat ((conv => whnf); first | apply qza | apply qzb | apply qzc | apply qzd | apply qze | intro (_ : Nat) | intro (_ : Option Addr) (_ : Nat))
      conv => whnf
      intro g2 hg
      have := of_decide_eq_false hlt
      rw [idxO_miss hp (by omega)])
theorem ret_place {l : List Retired} {k : Nat} {x : Retired} (hx : l[k]? = some x) : (idxI (idxO (fun r => r.version == x.version) l) = k) ↔ (l.take k).any (fun r => r.version == x.version) = false := by
  rw [any_take]
  constructor
  · intro h j y hj hy
    cases hi : idxO (fun r : Retired => r.version == x.version) l with
    | none => rw [hi] at h; simp [idxI] at h
    | some i =>
      obtain ⟨z, _, _, h3⟩ := idxO_some hi
      rw [hi] at h
      have : i = k := by simp [idxI] at h; omega
      exact h3 j (by omega) y hy
  · intro h
    refine idxO_hit (fun j hj y hy => ?_) hx (by simp)
    have := h j y hj hy
    simp [idxF] at this ⊢
    exact this
theorem ok_rlIs (g : GW) {v : Value} {l : List Retired} (hl : rSl 3 rRetired g v l) : OkV Tryz.prog n_hydrantref16_Is [v] g (.bool (limboB l)) :=
  Ok.of_fn hm noT 0 t_hydrantref16_Is (args := [.v v]) (by
    obtain ⟨oa, cap, rfl, h1, h2, h0, hr⟩ := id hl
    repeat ((conv => whnf); first | apply qza | apply qzb | apply qzc | apply qzd | apply qze | intro (_ : Nat) | intro (_ : Option Addr) (_ : Nat))
    conv => whnf
    refine ⟨Nat, fun k => [.v (.int .i64 k)], fun k => ⟨g, [], _, _⟩, fun k => k ≤ l.length ∧ AllK (retB l) l k, fun k => l.length - k, loop_here 0 rfl ⟨Nat.zero_le _, AllK.zero _ _⟩ rfl, ?_⟩
    rintro k ⟨hk, hp⟩
    repeat ((conv => whnf); first | apply qza | apply qzb | apply qzc | apply qzd | apply qze | intro (_ : Nat) | intro (_ : Option Addr) (_ : Nat))
    conv => whnf
    refine ⟨fun hlt => ?_, fun hlt => ?_⟩
    · have h' : k < l.length := by have := of_decide_eq_true hlt; omega
      obtain ⟨x, hx⟩ := getL_of h'
      obtain ⟨a, rfl, ec, hec, ⟨rfl, _⟩, hc⟩ := hr k x hx
      repeat ((conv => whnf); first | apply qza | apply qzb | apply qzc | apply qzd | apply qze | intro (_ : Nat) | intro (_ : Option Addr) (_ : Nat))
      conv => whnf
      refine ⟨a, rfl, ⟨by omega, by omega⟩, ?_⟩
      conv => whnf
      refine ⟨_, hc 0 _ rfl, ?_⟩
      repeat ((conv => whnf); first | apply qza | apply qzb | apply qzc | apply qzd | apply qze | intro (_ : Nat) | intro (_ : Option Addr) (_ : Nat))
      conv => whnf
      refine ⟨fun b1 => ?_, fun b1 => ?_⟩
      · repeat ((conv => whnf); first | apply qza | apply qzb | apply qzc | apply qzd | apply qze | intro (_ : Nat) | intro (_ : Option Addr) (_ : Nat))
        conv => whnf
        intro g2 hg
        have b1' := of_decide_eq_true b1
        exact congrArg Value.bool (allI_false hx (by unfold retB; rw [decide_eq_false (by omega)]; rfl)).symm
      · have b1' := of_decide_eq_false b1
        repeat ((conv => whnf); first | apply qza | apply qzb | apply qzc | apply qzd | apply qze | intro (_ : Nat) | intro (_ : Option Addr) (_ : Nat))
        conv => whnf
        refine ⟨a, rfl, ⟨by omega, by omega⟩, ?_⟩
        conv => whnf
        refine ⟨_, hc 1 _ rfl, ?_⟩
        repeat ((conv => whnf); first | apply qza | apply qzb | apply qzc | apply qzd | apply qze | intro (_ : Nat) | intro (_ : Option Addr) (_ : Nat))
        conv => whnf
        refine ⟨fun b2 => ?_, fun b2 => ?_⟩
        · repeat ((conv => whnf); first | apply qza | apply qzb | apply qzc | apply qzd | apply qze | intro (_ : Nat) | intro (_ : Option Addr) (_ : Nat))
          conv => whnf
          intro g2 hg
          have b2' := of_decide_eq_true b2
          exact congrArg Value.bool (allI_false hx (by unfold retB; rw [decide_eq_false (show ¬ 0 ≤ x.at_ by omega)]; simp)).symm
        · have b2' := of_decide_eq_false b2
          repeat ((conv => whnf); first | apply qza | apply qzb | apply qzc | apply qzd | apply qze | intro (_ : Nat) | intro (_ : Option Addr) (_ : Nat))
          conv => whnf
          refine ⟨a, rfl, ⟨by omega, by omega⟩, ?_⟩
          conv => whnf
          refine ⟨_, hc 0 _ rfl, ?_⟩
          repeat ((conv => whnf); first | apply qza | apply qzb | apply qzc | apply qzd | apply qze | intro (_ : Nat) | intro (_ : Option Addr) (_ : Nat))
          conv => whnf
          refine .inl ⟨_, ok_r16place _ hl _, ?_⟩
          repeat ((conv => whnf); first | apply qza | apply qzb | apply qzc | apply qzd | apply qze | intro (_ : Nat) | intro (_ : Option Addr) (_ : Nat))
          conv => whnf
          refine ⟨fun b3 => ?_, fun b3 => ?_⟩
          · repeat ((conv => whnf); first | apply qza | apply qzb | apply qzc | apply qzd | apply qze | intro (_ : Nat) | intro (_ : Option Addr) (_ : Nat))
            conv => whnf
            intro g2 hg
            have b3' : ¬ idxI (idxO (fun r => r.version == x.version) l) = (k : Int) := by simpa using b3
            refine congrArg Value.bool (allI_false hx ?_).symm
            unfold retB
            cases hb : (l.take k).any (fun r => r.version == x.version) with
            | true => simp
            | false => exact absurd ((ret_place hx).2 hb) b3'
          · repeat ((conv => whnf); first | apply qza | apply qzb | apply qzc | apply qzd | apply qze | intro (_ : Nat) | intro (_ : Option Addr) (_ : Nat))
            conv => whnf
            refine fun fr w hw => ⟨k + 1, congrArg (fun z => [Value.int .i64 z]) (wr1 h' h1 h2).symm, ⟨h', hp.succ hx ?_⟩, dec h', ?_⟩
            · have b3' : idxI (idxO (fun r => r.version == x.version) l) = (k : Int) := by simpa using b3
              unfold retB
              rw [(ret_place hx).1 b3', decide_eq_true (show 0 ≤ x.version by omega), decide_eq_true (show 0 ≤ x.at_ by omega)]; rfl
            · exact hw.fit (by simp [fitL, Res.eqv, concL, conc])
    · repeat ((conv => whnf); first | apply qza | apply qzb | apply qzc | apply qzd | apply qze | intro (_ : Nat) | intro (_ : Option Addr) (_ : Nat))
      conv => whnf
      intro g2 hg
      have := of_decide_eq_false hlt
      exact congrArg Value.bool (hp.done (by omega)).symm)
end Go.Proofs.YtjaeeadfmnokeaaGreat


/- Worlds: versions: are they right? -/
namespace Go.Proofs.YtjaeeadfmnokeaaGreat
open Go.Proofs.YtjaeeadfmnokeaaGreat.Sx Go.RowKit
def tV : List (Nat × FnI) := [(n_slices_ContainsFunc___api_End_api_End, f_slices_ContainsFunc___api_End_api_End), (n_slices_IndexFunc___api_End_api_End, f_slices_IndexFunc___api_End_api_End), (n_world_version_1, f_world_version_1)]
theorem tV_ok : TblOk Tryz.prog tV := by
  intro x hx
  simp only [tV, List.mem_cons, List.not_mem_nil, or_false] at hx
  rcases hx with rfl | rfl | rfl
  · exact ⟨_, _, t_slices_ContainsFunc___api_End_api_End⟩
  · exact ⟨_, _, t_slices_IndexFunc___api_End_api_End⟩
  · exact ⟨_, _, t_world_version_1⟩
theorem versionB_f1 {v : Version} (h : eqB (checkE (confS v.snap)) none = false) : versionB v = false := by unfold versionB; rw [h]; rfl
theorem versionB_f2 {v : Version} (h : v.groups.length ≠ v.snap.clusters.length) : versionB v = false := by unfold versionB; rw [decide_eq_false h]; simp
theorem versionB_f3 {v : Version} {k : Nat} {x : Group} (hx : v.groups[k]? = some x) (h : groupB v.snap.clusters k x = false) : versionB v = false := by unfold versionB; rw [allI_false hx h]; simp
theorem versionB_t {v : Version} {k : Nat} (h1 : eqB (checkE (confS v.snap)) none = true) (h2 : v.groups.length = v.snap.clusters.length) (h : AllK (groupB v.snap.clusters) v.groups k) (hk : v.groups.length ≤ k) : versionB v = true := by
  unfold versionB; rw [h1, decide_eq_true h2, h.done hk]; rfl
theorem endOk_i {c : Cluster} {e : EndC} : endOkB c e = (endB e && decide ((e.next.length : Int) = c.slots)) := rfl
theorem ok_wVersion (g : GW) {cs : List Value} {x : Version} (hx : rVe g cs x) (hsn : SnS x.snap) : OkV Tryz.prog n_world_version [.agg ⟨cs⟩] g (.bool (versionB x)) := by
  obtain ⟨a, b, d, n, rfl, hS, hG⟩ := hx
  have hS0 := hS
  obtain ⟨_, _, _, he, hl, hr, hk⟩ := hS
  cases he
  obtain ⟨oa, ca, rfl, a1, a2, a0, hl1⟩ := id hl
  obtain ⟨ob, cb, rfl, b1, b2, b0, hr1⟩ := id hr
  obtain ⟨od, cd, rfl, d1, d2, d0, hk1⟩ := id hk
  obtain ⟨og, cg, rfl, g1, g2, g0, hG1⟩ := id hG
  exact Ok.of_fn hm tV_ok 3 t_world_version (args := [.v (.agg ⟨[.slice oa x.snap.listens.length ca, .slice ob x.snap.rules.length cb, .slice od x.snap.clusters.length cd, .slice og x.groups.length cg, .bool x.freed]⟩)]) (by
    repeat ((conv => whnf); first | apply qza | apply qzb | apply qzc | apply qzd | apply qze | intro (_ : Nat) | intro (_ : Option Addr) (_ : Nat))
    conv => whnf
    refine .inl ⟨_, ok_sIs _ hS0 hsn.1, ?_⟩
    repeat ((conv => whnf); first | apply qza | apply qzb | apply qzc | apply qzd | apply qze | intro (_ : Nat) | intro (_ : Option Addr) (_ : Nat))
    conv => whnf
    refine ⟨fun z1 => ?_, fun z1 => ?_⟩
    · repeat ((conv => whnf); first | apply qza | apply qzb | apply qzc | apply qzd | apply qze | intro (_ : Nat) | intro (_ : Option Addr) (_ : Nat))
      conv => whnf
      intro g2 hg
      rw [versionB_f1 (nb1 z1)]
    · have z1' := nb0 z1
      repeat ((conv => whnf); first | apply qza | apply qzb | apply qzc | apply qzd | apply qze | intro (_ : Nat) | intro (_ : Option Addr) (_ : Nat))
      conv => whnf
      refine ⟨fun z2 => ?_, fun z2 => ?_⟩
      · repeat ((conv => whnf); first | apply qza | apply qzb | apply qzc | apply qzd | apply qze | intro (_ : Nat) | intro (_ : Option Addr) (_ : Nat))
        conv => whnf
        intro g2 hg
        rw [versionB_f2 (nneT z2)]
      · have z2' : x.groups.length = x.snap.clusters.length := nneF z2
        repeat ((conv => whnf); first | apply qza | apply qzb | apply qzc | apply qzd | apply qze | intro (_ : Nat) | intro (_ : Option Addr) (_ : Nat))
        rename_i q0
        conv => whnf
        refine ⟨Nat, fun k => [.v (.int .i64 k)], fun k => ⟨g, [.blk 0 q0 ty_api_Version [.v (.slice oa x.snap.listens.length ca), .v (.slice ob x.snap.rules.length cb), .v (.slice od x.snap.clusters.length cd), .v (.slice og x.groups.length cg), .v (.bool x.freed)]], 10, g.w.heap.size⟩, fun k => k ≤ x.groups.length ∧ AllK (groupB x.snap.clusters) x.groups k, fun k => x.groups.length - k, fun fr w hw => ⟨0, rfl, ⟨Nat.zero_le _, AllK.zero _ _⟩, hw.fit (by simp [fitL, Res.eqv, concL, conc])⟩, ?_⟩
        rintro k ⟨hkk, hp⟩
        repeat ((conv => whnf); first | apply qza | apply qzb | apply qzc | apply qzd | apply qze | intro (_ : Nat) | intro (_ : Option Addr) (_ : Nat))
        conv => whnf
        refine ⟨fun hlt => ?_, fun hlt => ?_⟩
        · have h' : k < x.groups.length := by have := of_decide_eq_true hlt; omega
          obtain ⟨y, hy⟩ := getL_of h'
          obtain ⟨aG, rfl, ecG, hecG, ⟨nE, rfl, htk, hE⟩, hcG⟩ := hG1 k y hy
          obtain ⟨oe, ce, rfl, e1, e2, e0, hE1⟩ := id hE
          obtain ⟨c, hcK⟩ := getL_of (l := x.snap.clusters) (i := k) (by omega)
          obtain ⟨aC, rfl, ecC, hecC, ⟨vH, rfl, c1, c2, hH⟩, hcC⟩ := hk1 k c hcK
          obtain ⟨oh, ch, rfl, h1, h2, h0, hH1⟩ := id hH
          have hgB : groupB x.snap.clusters k y = (decide (y.ends.length = c.health.length) && y.ends.all (endOkB c)) := by unfold groupB; rw [hcK]
          repeat ((conv => whnf); first | apply qza | apply qzb | apply qzc | apply qzd | apply qze | intro (_ : Nat) | intro (_ : Option Addr) (_ : Nat))
          conv => whnf
          refine ⟨aG, rfl, ⟨by omega, by omega⟩, ?_⟩
          conv => whnf
          refine ⟨_, ⟨rfl, hcG⟩, ?_⟩
          repeat ((conv => whnf); first | apply qza | apply qzb | apply qzc | apply qzd | apply qze | intro (_ : Nat) | intro (_ : Option Addr) (_ : Nat))
          conv => whnf
          refine ⟨aC, rfl, ⟨by omega, by omega⟩, ?_⟩
          conv => whnf
          refine ⟨_, ⟨rfl, hcC⟩, ?_⟩
          repeat ((conv => whnf); first | apply qza | apply qzb | apply qzc | apply qzd | apply qze | intro (_ : Nat) | intro (_ : Option Addr) (_ : Nat))
          conv => whnf
          refine ⟨fun z3 => ?_, fun z3 => ?_⟩
          · repeat ((conv => whnf); first | apply qza | apply qzb | apply qzc | apply qzd | apply qze | intro (_ : Nat) | intro (_ : Option Addr) (_ : Nat))
            conv => whnf
            intro g2 hg
            refine congrArg Value.bool (versionB_f3 hy ?_).symm
            rw [hgB, decide_eq_false (nneT z3)]; rfl
          · have z3' : y.ends.length = c.health.length := nneF z3
            repeat ((conv => whnf); first | apply qza | apply qzb | apply qzc | apply qzd | apply qze | intro (_ : Nat) | intro (_ : Option Addr) (_ : Nat))
            rename_i q1 q2
            conv => whnf
            refine ⟨Nat, fun n => [.v (.int .i64 n)], fun n => ⟨g, [.blk 11 q2 ty_api_Cluster [.v (.string c.name), .v (.int .i64 c.policy), .v (.int .i64 c.slots), .v (.slice oh c.health.length ch)], .blk 10 q1 ty_api_Group [.v (.int .u64 y.ticket), .v (.slice oe y.ends.length ce)], .blk 0 q0 ty_api_Version [.v (.slice oa x.snap.listens.length ca), .v (.slice ob x.snap.rules.length cb), .v (.slice (some aC) x.snap.clusters.length cd), .v (.slice (some aG) x.groups.length cg), .v (.bool x.freed)]], 20, g.w.heap.size⟩, fun n => n ≤ y.ends.length ∧ (y.ends.take n).all (endOkB c) = true, fun n => y.ends.length - n, fun fr w hw => ⟨0, rfl, ⟨Nat.zero_le _, by simp⟩, hw.fit (by simp [fitL, Res.eqv, concL, conc])⟩, ?_⟩
            rintro n ⟨hn, hpn⟩
            repeat ((conv => whnf); first | apply qza | apply qzb | apply qzc | apply qzd | apply qze | intro (_ : Nat) | intro (_ : Option Addr) (_ : Nat))
            conv => whnf
            refine ⟨fun hln => ?_, fun hln => ?_⟩
            · have hn' : n < y.ends.length := by have := of_decide_eq_true hln; omega
              obtain ⟨e, hee⟩ := getL_of hn'
              obtain ⟨aE, rfl, ecE, hecE, heR, hcE⟩ := hE1 n e hee
              have heR0 := heR
              obtain ⟨⟨nx, rfl, u1, u2, hN⟩, u3⟩ := heR
              obtain ⟨oN, cN, rfl, n1, n2, n0, hN1⟩ := id hN
              obtain ⟨cc1, cc2⟩ := List.getElem?_eq_some_iff.1 hee
              repeat ((conv => whnf); first | apply qza | apply qzb | apply qzc | apply qzd | apply qze | intro (_ : Nat) | intro (_ : Option Addr) (_ : Nat))
              conv => whnf
              refine ⟨aE, rfl, ⟨by omega, by omega⟩, ?_⟩
              conv => whnf
              refine ⟨_, ⟨rfl, hcE⟩, ?_⟩
              repeat ((conv => whnf); first | apply qza | apply qzb | apply qzc | apply qzd | apply qze | intro (_ : Nat) | intro (_ : Option Addr) (_ : Nat))
              conv => whnf
              refine ⟨k_world_version_1, ?_⟩
              repeat ((conv => whnf); first | apply qza | apply qzb | apply qzc | apply qzd | apply qze | intro (_ : Nat) | intro (_ : Option Addr) (_ : Nat))
              conv => whnf
              refine .inl ⟨_, ok_sIsE _ heR0, ?_⟩
              repeat ((conv => whnf); first | apply qza | apply qzb | apply qzc | apply qzd | apply qze | intro (_ : Nat) | intro (_ : Option Addr) (_ : Nat))
              conv => whnf
              refine ⟨fun z4 => ?_, fun z4 => ?_⟩
              · repeat ((conv => whnf); first | apply qza | apply qzb | apply qzc | apply qzd | apply qze | intro (_ : Nat) | intro (_ : Option Addr) (_ : Nat))
                conv => whnf
                refine ⟨fun _ => ?_, fun hx => absurd (((decide_eq_true (show (0 : Int) ≤ (n : Int) by omega))).symm.trans hx) (by decide)⟩
                repeat ((conv => whnf); first | apply qza | apply qzb | apply qzc | apply qzd | apply qze | intro (_ : Nat) | intro (_ : Option Addr) (_ : Nat))
                conv => whnf
                intro g2 hg
                refine congrArg Value.bool (versionB_f3 hy ?_).symm
                rw [hgB, all_false cc1 (by rw [cc2, endOk_i, nb1 z4]; rfl)]; simp
              · repeat ((conv => whnf); first | apply qza | apply qzb | apply qzc | apply qzd | apply qze | intro (_ : Nat) | intro (_ : Option Addr) (_ : Nat))
                conv => whnf
                refine ⟨fun z5 => ?_, fun z5 => ?_⟩
                · repeat ((conv => whnf); first | apply qza | apply qzb | apply qzc | apply qzd | apply qze | intro (_ : Nat) | intro (_ : Option Addr) (_ : Nat))
                  conv => whnf
                  refine ⟨fun _ => ?_, fun hx => absurd (((decide_eq_true (show (0 : Int) ≤ (n : Int) by omega))).symm.trans hx) (by decide)⟩
                  repeat ((conv => whnf); first | apply qza | apply qzb | apply qzc | apply qzd | apply qze | intro (_ : Nat) | intro (_ : Option Addr) (_ : Nat))
                  conv => whnf
                  intro g2 hg
                  refine congrArg Value.bool (versionB_f3 hy ?_).symm
                  rw [hgB, all_false cc1 (by rw [cc2, endOk_i, decide_eq_false (bneT z5)]; simp)]; simp
                · repeat ((conv => whnf); first | apply qza | apply qzb | apply qzc | apply qzd | apply qze | intro (_ : Nat) | intro (_ : Option Addr) (_ : Nat))
                  conv => whnf
                  refine fun fr w hw => ⟨n + 1, congrArg (fun z => [Value.int .i64 z]) (wr1 hn' e1 e2).symm, ⟨hn', by rw [all_take cc1, hpn, cc2, endOk_i, nb0 z4, decide_eq_true (bneF z5)]; rfl⟩, dec hn', ?_⟩
                  exact hw.fit (by simp [fitL, Res.eqv, concL, conc])
            · have hnL := of_decide_eq_false hln
              rw [List.take_of_length_le (by omega)] at hpn
              repeat ((conv => whnf); first | apply qza | apply qzb | apply qzc | apply qzd | apply qze | intro (_ : Nat) | intro (_ : Option Addr) (_ : Nat))
              conv => whnf
              refine ⟨fun h => (nomatch h), fun _ => ?_⟩
              repeat ((conv => whnf); first | apply qza | apply qzb | apply qzc | apply qzd | apply qze | intro (_ : Nat) | intro (_ : Option Addr) (_ : Nat))
              conv => whnf
              refine fun fr w hw => ⟨k + 1, congrArg (fun z => [Value.int .i64 z]) (wr1 h' g1 g2).symm, ⟨h', hp.succ hy (by rw [hgB, decide_eq_true z3', hpn]; rfl)⟩, dec h', ?_⟩
              exact hw.fit (by simp [fitL, Res.eqv, concL, conc])
        · repeat ((conv => whnf); first | apply qza | apply qzb | apply qzc | apply qzd | apply qze | intro (_ : Nat) | intro (_ : Option Addr) (_ : Nat))
          conv => whnf
          intro g2 hg
          have := of_decide_eq_false hlt
          rw [versionB_t z1' z2' hp (by omega)])
end Go.Proofs.YtjaeeadfmnokeaaGreat


/- Worlds: versions: are they right? The document's answer. -/
namespace Go.Proofs.YtjaeeadfmnokeaaGreat
open Go.Proofs.YtjaeeadfmnokeaaGreat.Sx Go.RowKit
theorem ok_rVersion (g : GW) {cs : List Value} {x : Version} (hx : rVe g cs x) (hsn : SnS x.snap) : OkV Tryz.prog n_hydrantref18_version [.agg ⟨cs⟩] g (.bool (versionB x)) := by
  obtain ⟨a, b, d, n, rfl, hS, hG⟩ := hx
  have hS0 := hS
  obtain ⟨_, _, _, he, hl, hr, hk⟩ := hS
  cases he
  obtain ⟨oa, ca, rfl, a1, a2, a0, hl1⟩ := id hl
  obtain ⟨ob, cb, rfl, b1, b2, b0, hr1⟩ := id hr
  obtain ⟨od, cd, rfl, d1, d2, d0, hk1⟩ := id hk
  obtain ⟨og, cg, rfl, g1, g2, g0, hG1⟩ := id hG
  exact Ok.of_fn hm noT 0 t_hydrantref18_version (args := [.v (.agg ⟨[.slice oa x.snap.listens.length ca, .slice ob x.snap.rules.length cb, .slice od x.snap.clusters.length cd, .slice og x.groups.length cg, .bool x.freed]⟩)]) (by
    repeat ((conv => whnf); first | apply qza | apply qzb | apply qzc | apply qzd | apply qze | intro (_ : Nat) | intro (_ : Option Addr) (_ : Nat))
    conv => whnf
    refine .inl ⟨_, ok_rsIs _ hS0 hsn, ?_⟩
    repeat ((conv => whnf); first | apply qza | apply qzb | apply qzc | apply qzd | apply qze | intro (_ : Nat) | intro (_ : Option Addr) (_ : Nat))
    conv => whnf
    refine ⟨fun z1 => ?_, fun z1 => ?_⟩
    · repeat ((conv => whnf); first | apply qza | apply qzb | apply qzc | apply qzd | apply qze | intro (_ : Nat) | intro (_ : Option Addr) (_ : Nat))
      conv => whnf
      intro g2 hg
      rw [versionB_f1 (nb1 z1)]
    · have z1' := nb0 z1
      repeat ((conv => whnf); first | apply qza | apply qzb | apply qzc | apply qzd | apply qze | intro (_ : Nat) | intro (_ : Option Addr) (_ : Nat))
      conv => whnf
      refine ⟨fun z2 => ?_, fun z2 => ?_⟩
      · repeat ((conv => whnf); first | apply qza | apply qzb | apply qzc | apply qzd | apply qze | intro (_ : Nat) | intro (_ : Option Addr) (_ : Nat))
        conv => whnf
        intro g2 hg
        rw [versionB_f2 (nneT z2)]
      · have z2' : x.groups.length = x.snap.clusters.length := nneF z2
        repeat ((conv => whnf); first | apply qza | apply qzb | apply qzc | apply qzd | apply qze | intro (_ : Nat) | intro (_ : Option Addr) (_ : Nat))
        rename_i q0
        conv => whnf
        refine ⟨Nat, fun k => [.v (.int .i64 k)], fun k => ⟨g, [.blk 0 q0 ty_api_Version [.v (.slice oa x.snap.listens.length ca), .v (.slice ob x.snap.rules.length cb), .v (.slice od x.snap.clusters.length cd), .v (.slice og x.groups.length cg), .v (.bool x.freed)]], 10, g.w.heap.size⟩, fun k => k ≤ x.groups.length ∧ AllK (groupB x.snap.clusters) x.groups k, fun k => x.groups.length - k, fun fr w hw => ⟨0, rfl, ⟨Nat.zero_le _, AllK.zero _ _⟩, hw.fit (by simp [fitL, Res.eqv, concL, conc])⟩, ?_⟩
        rintro k ⟨hkk, hp⟩
        repeat ((conv => whnf); first | apply qza | apply qzb | apply qzc | apply qzd | apply qze | intro (_ : Nat) | intro (_ : Option Addr) (_ : Nat))
        conv => whnf
        refine ⟨fun hlt => ?_, fun hlt => ?_⟩
        · have h' : k < x.groups.length := by have := of_decide_eq_true hlt; omega
          obtain ⟨y, hy⟩ := getL_of h'
          obtain ⟨aG, rfl, ecG, hecG, ⟨nE, rfl, htk, hE⟩, hcG⟩ := hG1 k y hy
          obtain ⟨oe, ce, rfl, e1, e2, e0, hE1⟩ := id hE
          obtain ⟨c, hcK⟩ := getL_of (l := x.snap.clusters) (i := k) (by omega)
          obtain ⟨aC, rfl, ecC, hecC, ⟨vH, rfl, c1, c2, hH⟩, hcC⟩ := hk1 k c hcK
          obtain ⟨oh, ch, rfl, h1, h2, h0, hH1⟩ := id hH
          have hgB : groupB x.snap.clusters k y = (decide (y.ends.length = c.health.length) && y.ends.all (endOkB c)) := by unfold groupB; rw [hcK]
          repeat ((conv => whnf); first | apply qza | apply qzb | apply qzc | apply qzd | apply qze | intro (_ : Nat) | intro (_ : Option Addr) (_ : Nat))
          conv => whnf
          refine ⟨aG, rfl, ⟨by omega, by omega⟩, ?_⟩
          conv => whnf
          refine ⟨_, hcG 1 _ rfl, ?_⟩
          repeat ((conv => whnf); first | apply qza | apply qzb | apply qzc | apply qzd | apply qze | intro (_ : Nat) | intro (_ : Option Addr) (_ : Nat))
          conv => whnf
          refine ⟨aC, rfl, ⟨by omega, by omega⟩, ?_⟩
          conv => whnf
          refine ⟨_, hcC 3 _ rfl, ?_⟩
          repeat ((conv => whnf); first | apply qza | apply qzb | apply qzc | apply qzd | apply qze | intro (_ : Nat) | intro (_ : Option Addr) (_ : Nat))
          conv => whnf
          refine ⟨fun z3 => ?_, fun z3 => ?_⟩
          · repeat ((conv => whnf); first | apply qza | apply qzb | apply qzc | apply qzd | apply qze | intro (_ : Nat) | intro (_ : Option Addr) (_ : Nat))
            conv => whnf
            intro g2 hg
            refine congrArg Value.bool (versionB_f3 hy ?_).symm
            rw [hgB, decide_eq_false (nneT z3)]; rfl
          · have z3' : y.ends.length = c.health.length := nneF z3
            repeat ((conv => whnf); first | apply qza | apply qzb | apply qzc | apply qzd | apply qze | intro (_ : Nat) | intro (_ : Option Addr) (_ : Nat))
            conv => whnf
            refine ⟨Nat, fun n => [.v (.int .i64 n)], fun n => ⟨g, [.blk 0 q0 ty_api_Version [.v (.slice oa x.snap.listens.length ca), .v (.slice ob x.snap.rules.length cb), .v (.slice (some aC) x.snap.clusters.length cd), .v (.slice (some aG) x.groups.length cg), .v (.bool x.freed)]], 20, g.w.heap.size⟩, fun n => n ≤ y.ends.length ∧ (y.ends.take n).all (endOkB c) = true, fun n => y.ends.length - n, fun fr w hw => ⟨0, rfl, ⟨Nat.zero_le _, by simp⟩, hw.fit (by simp [fitL, Res.eqv, concL, conc])⟩, ?_⟩
            rintro n ⟨hn, hpn⟩
            repeat ((conv => whnf); first | apply qza | apply qzb | apply qzc | apply qzd | apply qze | intro (_ : Nat) | intro (_ : Option Addr) (_ : Nat))
            conv => whnf
            refine ⟨aG, rfl, ⟨by omega, by omega⟩, ?_⟩
            conv => whnf
            refine ⟨_, hcG 1 _ rfl, ?_⟩
            repeat ((conv => whnf); first | apply qza | apply qzb | apply qzc | apply qzd | apply qze | intro (_ : Nat) | intro (_ : Option Addr) (_ : Nat))
            conv => whnf
            refine ⟨fun hln => ?_, fun hln => ?_⟩
            · have hn' : n < y.ends.length := by have := of_decide_eq_true hln; omega
              obtain ⟨e, hee⟩ := getL_of hn'
              obtain ⟨aE, rfl, ecE, hecE, heR, hcE⟩ := hE1 n e hee
              have heR0 := heR
              obtain ⟨⟨nx, rfl, u1, u2, hN⟩, u3⟩ := heR
              obtain ⟨oN, cN, rfl, n1, n2, n0, hN1⟩ := id hN
              obtain ⟨cc1, cc2⟩ := List.getElem?_eq_some_iff.1 hee
              repeat ((conv => whnf); first | apply qza | apply qzb | apply qzc | apply qzd | apply qze | intro (_ : Nat) | intro (_ : Option Addr) (_ : Nat))
              conv => whnf
              refine ⟨aG, rfl, ⟨by omega, by omega⟩, ?_⟩
              conv => whnf
              refine ⟨_, hcG 1 _ rfl, ?_⟩
              repeat ((conv => whnf); first | apply qza | apply qzb | apply qzc | apply qzd | apply qze | intro (_ : Nat) | intro (_ : Option Addr) (_ : Nat))
              conv => whnf
              refine ⟨aE, rfl, ⟨by omega, by omega⟩, ?_⟩
              conv => whnf
              refine ⟨_, ⟨rfl, hcE⟩, ?_⟩
              repeat ((conv => whnf); first | apply qza | apply qzb | apply qzc | apply qzd | apply qze | intro (_ : Nat) | intro (_ : Option Addr) (_ : Nat))
              conv => whnf
              refine .inl ⟨_, ok_rIsE _ heR0, ?_⟩
              repeat ((conv => whnf); first | apply qza | apply qzb | apply qzc | apply qzd | apply qze | intro (_ : Nat) | intro (_ : Option Addr) (_ : Nat))
              conv => whnf
              refine ⟨fun z4 => ?_, fun z4 => ?_⟩
              · repeat ((conv => whnf); first | apply qza | apply qzb | apply qzc | apply qzd | apply qze | intro (_ : Nat) | intro (_ : Option Addr) (_ : Nat))
                conv => whnf
                intro g2 hg
                refine congrArg Value.bool (versionB_f3 hy ?_).symm
                rw [hgB, all_false cc1 (by rw [cc2, endOk_i, nb1 z4]; rfl)]; simp
              · repeat ((conv => whnf); first | apply qza | apply qzb | apply qzc | apply qzd | apply qze | intro (_ : Nat) | intro (_ : Option Addr) (_ : Nat))
                conv => whnf
                refine ⟨aC, rfl, ⟨by omega, by omega⟩, ?_⟩
                conv => whnf
                refine ⟨_, hcC 2 _ rfl, ?_⟩
                repeat ((conv => whnf); first | apply qza | apply qzb | apply qzc | apply qzd | apply qze | intro (_ : Nat) | intro (_ : Option Addr) (_ : Nat))
                conv => whnf
                refine ⟨fun z5 => ?_, fun z5 => ?_⟩
                · repeat ((conv => whnf); first | apply qza | apply qzb | apply qzc | apply qzd | apply qze | intro (_ : Nat) | intro (_ : Option Addr) (_ : Nat))
                  conv => whnf
                  intro g2 hg
                  refine congrArg Value.bool (versionB_f3 hy ?_).symm
                  rw [hgB, all_false cc1 (by rw [cc2, endOk_i, decide_eq_false (bneT z5)]; simp)]; simp
                · repeat ((conv => whnf); first | apply qza | apply qzb | apply qzc | apply qzd | apply qze | intro (_ : Nat) | intro (_ : Option Addr) (_ : Nat))
                  conv => whnf
                  refine fun fr w hw => ⟨n + 1, congrArg (fun z => [Value.int .i64 z]) (wr1 hn' e1 e2).symm, ⟨hn', by rw [all_take cc1, hpn, cc2, endOk_i, nb0 z4, decide_eq_true (bneF z5)]; rfl⟩, dec hn', ?_⟩
                  exact hw.fit (by simp [fitL, Res.eqv, concL, conc])
            · have hnL := of_decide_eq_false hln
              rw [List.take_of_length_le (by omega)] at hpn
              repeat ((conv => whnf); first | apply qza | apply qzb | apply qzc | apply qzd | apply qze | intro (_ : Nat) | intro (_ : Option Addr) (_ : Nat))
              conv => whnf
              refine fun fr w hw => ⟨k + 1, congrArg (fun z => [Value.int .i64 z]) (wr1 h' g1 g2).symm, ⟨h', hp.succ hy (by rw [hgB, decide_eq_true z3', hpn]; rfl)⟩, dec h', ?_⟩
              exact hw.fit (by simp [fitL, Res.eqv, concL, conc])
        · repeat ((conv => whnf); first | apply qza | apply qzb | apply qzc | apply qzd | apply qze | intro (_ : Nat) | intro (_ : Option Addr) (_ : Nat))
          conv => whnf
          intro g2 hg
          have := of_decide_eq_false hlt
          rw [versionB_t z1' z2' hp (by omega)])
theorem ok_rGone (g : GW) {v : Value} {l : List Retired} (hl : rSl 3 rRetired g v l) (n : Int) : OkV Tryz.prog n_hydrantref18_gone [v, .int .i64 n] g (.bool (goneB l n)) :=
  Ok.of_fn hm noT 0 t_hydrantref18_gone (args := [.v v, .v (.int .i64 n)]) (by
    obtain ⟨oa, cap, rfl, h1, h2, h0, hr⟩ := hl
    repeat ((conv => whnf); first | apply qza | apply qzb | apply qzc | apply qzd | apply qze | intro (_ : Nat) | intro (_ : Option Addr) (_ : Nat))
    conv => whnf
    refine ⟨Nat, fun k => [.v (.int .i64 k)], fun k => ⟨g, [], _, _⟩, fun k => k ≤ l.length ∧ (l.take k).any (fun r => r.version == n && r.gone) = false, fun k => l.length - k, loop_here 0 rfl ⟨Nat.zero_le _, by simp⟩ rfl, ?_⟩
    rintro k ⟨hk, hp⟩
    repeat ((conv => whnf); first | apply qza | apply qzb | apply qzc | apply qzd | apply qze | intro (_ : Nat) | intro (_ : Option Addr) (_ : Nat))
    conv => whnf
    refine ⟨fun hlt => ?_, fun hlt => ?_⟩
    · have h' : k < l.length := by have := of_decide_eq_true hlt; omega
      obtain ⟨x, hx⟩ := getL_of h'
      obtain ⟨a, rfl, ec, hec, ⟨rfl, _⟩, hc⟩ := hr k x hx
      obtain ⟨c1, c2⟩ := List.getElem?_eq_some_iff.1 hx
      have hT : (l.take (k + 1)).any (fun r => r.version == n && r.gone) = ((x.version == n) && x.gone) := by
        rw [List.take_succ_eq_append_getElem c1, List.any_append, hp, c2]; simp
      repeat ((conv => whnf); first | apply qza | apply qzb | apply qzc | apply qzd | apply qze | intro (_ : Nat) | intro (_ : Option Addr) (_ : Nat))
      conv => whnf
      refine ⟨a, rfl, ⟨by omega, by omega⟩, ?_⟩
      conv => whnf
      refine ⟨_, hc 0 _ rfl, ?_⟩
      repeat ((conv => whnf); first | apply qza | apply qzb | apply qzc | apply qzd | apply qze | intro (_ : Nat) | intro (_ : Option Addr) (_ : Nat))
      conv => whnf
      refine ⟨fun he => ?_, fun he => ?_⟩
      · repeat ((conv => whnf); first | apply qza | apply qzb | apply qzc | apply qzd | apply qze | intro (_ : Nat) | intro (_ : Option Addr) (_ : Nat))
        conv => whnf
        refine ⟨a, rfl, ⟨by omega, by omega⟩, ?_⟩
        conv => whnf
        refine ⟨_, hc 2 _ rfl, ?_⟩
        repeat ((conv => whnf); first | apply qza | apply qzb | apply qzc | apply qzd | apply qze | intro (_ : Nat) | intro (_ : Option Addr) (_ : Nat))
        conv => whnf
        refine ⟨fun hgo => ?_, fun hgo => ?_⟩
        · repeat ((conv => whnf); first | apply qza | apply qzb | apply qzc | apply qzd | apply qze | intro (_ : Nat) | intro (_ : Option Addr) (_ : Nat))
          conv => whnf
          intro g2 hg
          have : goneB l n = true := List.any_eq_true.2 ⟨x, List.mem_of_getElem? hx, by rw [he, hgo]; rfl⟩
          rw [this]
        · repeat ((conv => whnf); first | apply qza | apply qzb | apply qzc | apply qzd | apply qze | intro (_ : Nat) | intro (_ : Option Addr) (_ : Nat))
          conv => whnf
          refine fun fr w hw => ⟨k + 1, congrArg (fun z => [Value.int .i64 z]) (wr1 h' h1 h2).symm, ⟨h', by rw [hT, hgo]; simp⟩, dec h', hw⟩
      · repeat ((conv => whnf); first | apply qza | apply qzb | apply qzc | apply qzd | apply qze | intro (_ : Nat) | intro (_ : Option Addr) (_ : Nat))
        conv => whnf
        refine fun fr w hw => ⟨k + 1, congrArg (fun z => [Value.int .i64 z]) (wr1 h' h1 h2).symm, ⟨h', by rw [hT, he]; rfl⟩, dec h', hw⟩
    · repeat ((conv => whnf); first | apply qza | apply qzb | apply qzc | apply qzd | apply qze | intro (_ : Nat) | intro (_ : Option Addr) (_ : Nat))
      conv => whnf
      intro g2 hg
      have := of_decide_eq_false hlt
      rw [List.take_of_length_le (by omega)] at hp
      rw [goneB, hp])
end Go.Proofs.YtjaeeadfmnokeaaGreat


/- Worlds: is one right? The program's answer. -/
namespace Go.Proofs.YtjaeeadfmnokeaaGreat
open Go.Proofs.YtjaeeadfmnokeaaGreat.Sx Go.RowKit
def tGr : List (Nat × FnI) := [(n_slices_ContainsFunc___int_int, f_slices_ContainsFunc___int_int), (n_slices_IndexFunc___int_int, f_slices_IndexFunc___int_int), (n_world_ground_1, f_world_ground_1)]
theorem tGr_ok : TblOk Tryz.prog tGr := by
  intro x hx
  simp only [tGr, List.mem_cons, List.not_mem_nil, or_false] at hx
  rcases hx with rfl | rfl | rfl
  · exact ⟨_, _, t_slices_ContainsFunc___int_int⟩
  · exact ⟨_, _, t_slices_IndexFunc___int_int⟩
  · exact ⟨_, _, t_world_ground_1⟩
def GrP (w : Wd) : Prop := 1 ≤ w.pins.length ∧ w.pins.length ≤ 8 ∧ w.counts.length = w.pins.length ∧ shardB w.counts = true ∧ 0 ≤ w.epoch ∧ w.epoch ≤ 1000000000000 ∧ (w.lock = 0 ∨ w.lock = 1)
def pinOk (w : Wd) (p : Int) : Bool := decide (0 ≤ p) && decide (p ≤ w.epoch + 1)
theorem groundB_iff {w : Wd} : groundB w = true ↔ GrP w ∧ w.pins.all (pinOk w) = true := by
  unfold groundB GrP pinOk
  simp only [Bool.and_eq_true, decide_eq_true_eq]
  constructor
  · rintro ⟨⟨⟨⟨⟨⟨⟨h1, h2⟩, h3⟩, h4⟩, h5⟩, h6⟩, h7⟩, h8⟩
    exact ⟨⟨h1, h2, h3, h4, h5, h6, h7⟩, h8⟩
  · rintro ⟨⟨h1, h2, h3, h4, h5, h6, h7⟩, h8⟩
    exact ⟨⟨⟨⟨⟨⟨⟨h1, h2⟩, h3⟩, h4⟩, h5⟩, h6⟩, h7⟩, h8⟩
theorem groundB_f {w : Wd} (h : ¬ GrP w) : groundB w = false := by
  rw [Bool.eq_false_iff]; intro hh; exact h (groundB_iff.1 hh).1
theorem groundB_g {w : Wd} (h : w.pins.all (pinOk w) = false) : groundB w = false := by
  rw [Bool.eq_false_iff]; intro hh; rw [(groundB_iff.1 hh).2] at h; cases h
theorem ok_ground (g : GW) {cs : List Value} {w : Wd} (hw : rWo g cs w) : OkV Tryz.prog n_world_ground [.agg ⟨cs⟩] g (.bool (groundB w)) := by
  obtain ⟨a, b, c, d, e, rfl, ⟨i1, i2, i3⟩, hP, hV, hL, hC, hR⟩ := hw
  obtain ⟨oa, ca, rfl, a1, a2, a0, hP1⟩ := id hP
  obtain ⟨ob, cb, rfl, b1, b2, b0, hV1⟩ := id hV
  obtain ⟨oc, cc, rfl, c1, c2, c0, hL1⟩ := id hL
  obtain ⟨od, cd, rfl, d1, d2, d0, hC1⟩ := id hC
  obtain ⟨oe, ce, rfl, e1, e2, e0, hR1⟩ := id hR
  exact Ok.of_fn hm tGr_ok 3 t_world_ground (args := [.v (.agg ⟨[.int .i64 w.epoch, .int .i64 w.current, .int .i64 w.lock, .slice oa w.pins.length ca, .slice ob w.versions.length cb, .slice oc w.listens.length cc, .slice od w.counts.length cd, .slice oe w.limbo.length ce]⟩)]) (by
    repeat ((conv => whnf); first | apply qza | apply qzb | apply qzc | apply qzd | apply qze | intro (_ : Nat) | intro (_ : Option Addr) (_ : Nat))
    conv => whnf
    refine ⟨fun z1 => ?_, fun z1 => ?_⟩
    · repeat ((conv => whnf); first | apply qza | apply qzb | apply qzc | apply qzd | apply qze | intro (_ : Nat) | intro (_ : Option Addr) (_ : Nat))
      conv => whnf
      intro g2 hg
      rw [groundB_f fun h => by have := of_decide_eq_true z1; have := h.1; omega]
    repeat ((conv => whnf); first | apply qza | apply qzb | apply qzc | apply qzd | apply qze | intro (_ : Nat) | intro (_ : Option Addr) (_ : Nat))
    conv => whnf
    refine ⟨fun z2 => ?_, fun z2 => ?_⟩
    · repeat ((conv => whnf); first | apply qza | apply qzb | apply qzc | apply qzd | apply qze | intro (_ : Nat) | intro (_ : Option Addr) (_ : Nat))
      conv => whnf
      intro g2 hg
      rw [groundB_f fun h => by have := of_decide_eq_true z2; have := h.2.1; omega]
    repeat ((conv => whnf); first | apply qza | apply qzb | apply qzc | apply qzd | apply qze | intro (_ : Nat) | intro (_ : Option Addr) (_ : Nat))
    conv => whnf
    refine ⟨fun z3 => ?_, fun z3 => ?_⟩
    · repeat ((conv => whnf); first | apply qza | apply qzb | apply qzc | apply qzd | apply qze | intro (_ : Nat) | intro (_ : Option Addr) (_ : Nat))
      conv => whnf
      intro g2 hg
      rw [groundB_f fun h => nneT z3 h.2.2.1]
    repeat ((conv => whnf); first | apply qza | apply qzb | apply qzc | apply qzd | apply qze | intro (_ : Nat) | intro (_ : Option Addr) (_ : Nat))
    conv => whnf
    refine .inl ⟨_, ok_hIs _ hC, ?_⟩
    repeat ((conv => whnf); first | apply qza | apply qzb | apply qzc | apply qzd | apply qze | intro (_ : Nat) | intro (_ : Option Addr) (_ : Nat))
    conv => whnf
    refine ⟨fun z4 => ?_, fun z4 => ?_⟩
    · repeat ((conv => whnf); first | apply qza | apply qzb | apply qzc | apply qzd | apply qze | intro (_ : Nat) | intro (_ : Option Addr) (_ : Nat))
      conv => whnf
      intro g2 hg
      rw [groundB_f fun h => by rw [h.2.2.2.1] at z4; cases z4]
    repeat ((conv => whnf); first | apply qza | apply qzb | apply qzc | apply qzd | apply qze | intro (_ : Nat) | intro (_ : Option Addr) (_ : Nat))
    conv => whnf
    refine ⟨fun z5 => ?_, fun z5 => ?_⟩
    · repeat ((conv => whnf); first | apply qza | apply qzb | apply qzc | apply qzd | apply qze | intro (_ : Nat) | intro (_ : Option Addr) (_ : Nat))
      conv => whnf
      intro g2 hg
      rw [groundB_f fun h => by have := of_decide_eq_true z5; have := h.2.2.2.2.1; omega]
    repeat ((conv => whnf); first | apply qza | apply qzb | apply qzc | apply qzd | apply qze | intro (_ : Nat) | intro (_ : Option Addr) (_ : Nat))
    conv => whnf
    refine ⟨fun z6 => ?_, fun z6 => ?_⟩
    · repeat ((conv => whnf); first | apply qza | apply qzb | apply qzc | apply qzd | apply qze | intro (_ : Nat) | intro (_ : Option Addr) (_ : Nat))
      conv => whnf
      intro g2 hg
      rw [groundB_f fun h => by have := of_decide_eq_true z6; have := h.2.2.2.2.2.1; omega]
    repeat ((conv => whnf); first | apply qza | apply qzb | apply qzc | apply qzd | apply qze | intro (_ : Nat) | intro (_ : Option Addr) (_ : Nat))
    have k1 := of_decide_eq_false z1
    have k2 := of_decide_eq_false z2
    have k3 := nneF z3
    have k4 := nb0 z4
    have k5 := of_decide_eq_false z5
    have k6 := of_decide_eq_false z6
    clear z1 z2 z3 z4 z5 z6
    conv => whnf
    refine ⟨fun z7 => ?_, fun z7 => ?_⟩
    case' refine_1 =>
      have z7' := bneT z7
      repeat ((conv => whnf); first | apply qza | apply qzb | apply qzc | apply qzd | apply qze | intro (_ : Nat) | intro (_ : Option Addr) (_ : Nat))
      conv => whnf
      refine ⟨fun z8 => ?_, fun z8 => ?_⟩
      case' refine_1 =>
        have z8' := bneT z8
        repeat ((conv => whnf); first | apply qza | apply qzb | apply qzc | apply qzd | apply qze | intro (_ : Nat) | intro (_ : Option Addr) (_ : Nat))
        conv => whnf
        intro g2 hg
        rw [groundB_f fun h => by rcases h.2.2.2.2.2.2 with h | h; exact z7' h; exact z8' h]
      have hlk : w.lock = 0 ∨ w.lock = 1 := .inr (bneF z8)
      clear z7 z8 z7'
    case' refine_2 =>
      have hlk : w.lock = 0 ∨ w.lock = 1 := .inl (bneF z7)
      clear z7
    all_goals
      have hGr : GrP w := ⟨by omega, by omega, k3, k4, by omega, by omega, hlk⟩
      repeat ((conv => whnf); first | apply qza | apply qzb | apply qzc | apply qzd | apply qze | intro (_ : Nat) | intro (_ : Option Addr) (_ : Nat))
      conv => whnf
      refine ⟨Nat, fun k => [.v (.int .i64 k)], fun _ => ⟨g, _, _, _⟩, fun k => k ≤ w.pins.length ∧ (w.pins.take k).all (pinOk w) = true, fun k => w.pins.length - k, loop_here 0 rfl ⟨Nat.zero_le _, by simp⟩ rfl, ?_⟩
      rintro k ⟨hk, hp⟩
      repeat ((conv => whnf); first | apply qza | apply qzb | apply qzc | apply qzd | apply qze | intro (_ : Nat) | intro (_ : Option Addr) (_ : Nat))
      conv => whnf
      refine ⟨fun hlt => ?_, fun hlt => ?_⟩
      case' refine_1 =>
        have h' : k < w.pins.length := by have := of_decide_eq_true hlt; omega
        obtain ⟨x, hx⟩ := getL_of h'
        obtain ⟨a, rfl, ec, hec, ⟨rfl, hxr⟩, hc⟩ := hP1 k x hx
        obtain ⟨c1', c2'⟩ := List.getElem?_eq_some_iff.1 hx
        have hT : (w.pins.take (k + 1)).all (pinOk w) = pinOk w x := by rw [all_take c1', hp, c2']; rfl
        repeat ((conv => whnf); first | apply qza | apply qzb | apply qzc | apply qzd | apply qze | intro (_ : Nat) | intro (_ : Option Addr) (_ : Nat))
        conv => whnf
        refine ⟨a, rfl, ⟨by omega, by omega⟩, ?_⟩
        conv => whnf
        refine ⟨_, hc 0 _ rfl, ?_⟩
        repeat ((conv => whnf); first | apply qza | apply qzb | apply qzc | apply qzd | apply qze | intro (_ : Nat) | intro (_ : Option Addr) (_ : Nat))
        conv => whnf
        refine ⟨k_world_ground_1, ?_⟩
        repeat ((conv => whnf); first | apply qza | apply qzb | apply qzc | apply qzd | apply qze | intro (_ : Nat) | intro (_ : Option Addr) (_ : Nat))
        conv => whnf
        refine ⟨fun y1 => ?_, fun y1 => ?_⟩
        case' refine_1 =>
          repeat ((conv => whnf); first | apply qza | apply qzb | apply qzc | apply qzd | apply qze | intro (_ : Nat) | intro (_ : Option Addr) (_ : Nat))
          conv => whnf
          intro g2 hg
          rw [decide_eq_true (show (0 : Int) ≤ (k : Int) by omega)]
          have y1' := of_decide_eq_true y1
          rw [groundB_g (all_false c1' (by rw [c2']; unfold pinOk; rw [decide_eq_false (by omega)]; rfl))]; rfl
        have y1' := of_decide_eq_false y1
        repeat ((conv => whnf); first | apply qza | apply qzb | apply qzc | apply qzd | apply qze | intro (_ : Nat) | intro (_ : Option Addr) (_ : Nat))
        conv => whnf
        refine ⟨fun y2 => ?_, fun y2 => ?_⟩
        case' refine_1 =>
          repeat ((conv => whnf); first | apply qza | apply qzb | apply qzc | apply qzd | apply qze | intro (_ : Nat) | intro (_ : Option Addr) (_ : Nat))
          conv => whnf
          intro g2 hg
          rw [decide_eq_true (show (0 : Int) ≤ (k : Int) by omega)]
          have y2' := of_decide_eq_true y2
          rw [wr (by unfold InR; omega)] at y2'
          rw [groundB_g (all_false c1' (by rw [c2']; unfold pinOk; rw [decide_eq_false (show ¬ x ≤ w.epoch + 1 by omega)]; simp))]; rfl
        have y2' := of_decide_eq_false y2
        rw [wr (by unfold InR; omega)] at y2'
        repeat ((conv => whnf); first | apply qza | apply qzb | apply qzc | apply qzd | apply qze | intro (_ : Nat) | intro (_ : Option Addr) (_ : Nat))
        conv => whnf
        refine fun fr w' hw => ⟨k + 1, congrArg (fun z => [Value.int .i64 z]) (wr1 h' a1 a2).symm, ⟨h', by rw [hT]; unfold pinOk; rw [decide_eq_true (show 0 ≤ x by omega), decide_eq_true (show x ≤ w.epoch + 1 by omega)]; rfl⟩, dec h', ?_⟩
        exact hw.fit (by simp [fitL, Res.eqv, concL, conc])
      have := of_decide_eq_false hlt
      rw [List.take_of_length_le (by omega)] at hp
      repeat ((conv => whnf); first | apply qza | apply qzb | apply qzc | apply qzd | apply qze | intro (_ : Nat) | intro (_ : Option Addr) (_ : Nat))
      conv => whnf
      intro g2 hg
      rw [groundB_iff.2 ⟨hGr, hp⟩]; rfl)
end Go.Proofs.YtjaeeadfmnokeaaGreat

