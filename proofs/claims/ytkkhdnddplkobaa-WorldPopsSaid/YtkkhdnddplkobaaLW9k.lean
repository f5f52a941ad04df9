/- Worlds: what is cloned: endpoints, groups, versions, rows. -/
import Derived.Test.YtkkhdnddplkobaaLW9n
import Derived.Test.YtkkhdnddplkobaaLW9b
import Derived.Test.YtkkhdnddplkobaaPl
import Derived.Test.YtkkhdnddplkobaaLS7b
namespace Go.Proofs.Ytkkhdnddplkobaa
open Go.Proofs.Ytkkhdnddplkobaa.Sx Go.RowKit
theorem ok_cEnd (g0 g : GW) (h0 : g0 ≤ g) {cs : List Value} {x : EndC} (hx : rEn g cs x) : Ok Try.prog n_world_cloner__end [.agg ⟨[]⟩, .agg ⟨cs⟩] g fun v g' => ∃ cs', v = .agg ⟨cs'⟩ ∧ oEn wT true g' g0.w.heap.size (NEW g g') cs' x := by
  obtain ⟨⟨n, rfl, hH, hA, hN⟩, hsz⟩ := hx
  obtain ⟨oa, ca, rfl, a1, a2, a0, hr⟩ := id hN
  exact Ok.of_fn hm noT 0 t_world_cloner__end (args := [.v (.agg ⟨[]⟩), .v (.agg ⟨[.int .u64 x.head, .slice oa x.next.length ca, .int .i64 x.active]⟩)]) (by
    repeat ((conv => whnf); first | apply qza | apply qzb | apply qzc | apply qzd | apply qze | intro (_ : Nat) | intro (_ : Option Addr) (_ : Nat))
    refine .inr ((ok_cInt g0 _ h0 hN hsz).mono fun v g1 hg1 hO => ?_)
    obtain ⟨oV, cV, rfl⟩ := oSl_val hO
    repeat ((conv => whnf); first | apply qza | apply qzb | apply qzc | apply qzd | apply qze | intro (_ : Nat) | intro (_ : Option Addr) (_ : Nat))
    conv => whnf
    intro g2 hg
    exact ⟨_, rfl, _, rfl, ⟨hH, hA, hsz⟩, .inl (oSl_up (oLf_fr rInt_any) hg hO)⟩)
theorem ok_eEnd (g0 g : GW) (h0 : g0 ≤ g) {v : Value} {l : List EndC} (hl : rSl 3 rEn g v l) (hlen : l.length ≤ 1000000)  : Ok Try.prog n_world_each_api_End_world_cloner [v, .func (.func n_world_cloner__end) #[] #[], .agg ⟨[]⟩] g fun v' g' => oSl ty_api_End 3 (oEn wT true) g' g0.w.heap.size (NEW g g') v' l := by
  obtain ⟨oa, ca, rfl, a1, a2, a0, hr⟩ := id hl
  exact Ok.of_fn hm noT 0 t_world_each_api_End_world_cloner (args := [.v (.slice oa l.length ca), .v (.func (.func n_world_cloner__end) #[] #[]), .v (.agg ⟨[]⟩)]) (by
    repeat ((conv => whnf); first | apply qza | apply qzb | apply qzc | apply qzd | apply qze | intro (_ : Nat) | intro (_ : Option Addr) (_ : Nat))
    conv => whnf
    refine ⟨⟨by omega, by omega, by omega, by omega⟩, fun _ => ?_⟩
    repeat ((conv => whnf); first | apply qza | apply qzb | apply qzc | apply qzd | apply qze | intro (_ : Nat) | intro (_ : Option Addr) (_ : Nat))
    rename_i q0 q1
    conv => whnf
    refine ⟨Nat × List (List Value) × GW, fun (k, _, _) => [.v (.int .i64 k)], fun (k, ecs, g') => ⟨g', [.row 1 (some ⟨q1, 0, none⟩) l.length l.length ty_api_End 3 (rowK ecs [.int .u64 0, .slice none 0 0, .int .i64 0] (l.length - k)), .blk 0 q0 ty_world_cloner []], 10, g.w.heap.size⟩, fun (k, ecs, g') => k ≤ l.length ∧ g ≤ g' ∧ oEls 3 (oEn wT true) g g' g0.w.heap.size ecs (l.take k), fun (k, _, _) => l.length - k, fun fr w hw => ⟨(0, [], g), rfl, ⟨Nat.zero_le _, GW.refl _, oEls_nil _ _ _⟩, hw.fit (by simp [fitL, Res.eqv, concL, conc, rowK])⟩, ?_⟩
    rintro ⟨k, ecs, g'⟩ ⟨hk, hgg, hE⟩
    have hE0 := hE
    obtain ⟨_, ⟨hel, hes⟩, _⟩ := hE0
    rw [List.length_take, Nat.min_eq_left hk] at hel
    repeat ((conv => whnf); first | apply qza | apply qzb | apply qzc | apply qzd | apply qze | intro (_ : Nat) | intro (_ : Option Addr) (_ : Nat))
    conv => whnf
    refine ⟨fun hlt => ?_, fun hlt => ?_⟩
    · have h' : k < l.length := by have := of_decide_eq_true hlt; omega
      obtain ⟨x, hx⟩ := getL_of h'
      obtain ⟨x1, x2⟩ := List.getElem?_eq_some_iff.1 hx
      obtain ⟨a, rfl, ec, hec, hxe, hc⟩ := hr k x hx
      have hxe0 := hxe
      obtain ⟨⟨nx, rfl, u1, u2, ⟨oN, cN, rfl, _⟩⟩, u3⟩ := hxe
      repeat ((conv => whnf); first | apply qza | apply qzb | apply qzc | apply qzd | apply qze | intro (_ : Nat) | intro (_ : Option Addr) (_ : Nat))
      conv => whnf
      refine ⟨a, rfl, ⟨by omega, by omega⟩, ?_⟩
      conv => whnf
      refine ⟨_, ⟨rfl, hc.mono hgg⟩, ?_⟩
      repeat ((conv => whnf); first | apply qza | apply qzb | apply qzc | apply qzd | apply qze | intro (_ : Nat) | intro (_ : Option Addr) (_ : Nat))
      conv => whnf
      refine ⟨.of (by kernel_rfl), ?_⟩
      refine .inr ((ok_cEnd g0 _ (GW.trans h0 hgg) (rEn_mono _ _ _ _ hgg hxe0)).mono fun v g1 hg1 hO => ?_)
      obtain ⟨cs', rfl, hO⟩ := hO
      have hO0 := hO
      obtain ⟨nv, rfl, _, hO1⟩ := hO0
      obtain ⟨oW, cW, rfl, _⟩ := oNx_rd hO1
      have hlenR := rowK_len (m := l.length - k) (z := [.int .u64 0, .slice none 0 0, .int .i64 0]) hes rfl
      have hT : l.take (k + 1) = l.take k ++ [x] := by rw [List.take_succ_eq_append_getElem x1, x2]
      have hset := rowK_set (m := l.length - k) (z := [.int .u64 0, .slice none 0 0, .int .i64 0]) hes rfl (by omega) (ec := [.int .u64 x.head, .slice oW x.next.length cW, .int .i64 x.active]) rfl hel.symm
      repeat ((conv => whnf); first | apply qza | apply qzb | apply qzc | apply qzd | apply qze | intro (_ : Nat) | intro (_ : Option Addr) (_ : Nat))
      conv => whnf
      refine ⟨⟨by omega, by omega⟩, ?_⟩
      repeat ((conv => whnf); first | apply qza | apply qzb | apply qzc | apply qzd | apply qze | intro (_ : Nat) | intro (_ : Option Addr) (_ : Nat))
      conv => whnf
      refine ⟨⟨by rw [hlenR, hel]; simp; omega, by decide⟩, ?_⟩
      repeat ((conv => whnf); first | apply qza | apply qzb | apply qzc | apply qzd | apply qze | intro (_ : Nat) | intro (_ : Option Addr) (_ : Nat))
      conv => whnf
      refine fun fr w hw => ⟨(k + 1, ecs ++ [[.int .u64 x.head, .slice oW x.next.length cW, .int .i64 x.active]], g1), congrArg (fun z => [Value.int .i64 z]) (wr1 h' a1 a2).symm, ⟨h', GW.trans hgg hg1, by rw [hT]; exact oEls_snoc oEn_fr hgg hg1 hE rfl hO⟩, dec h', hw.fit ?_⟩
      rw [show l.length - (k + 1) = l.length - k - 1 by omega]
      simp [fitL, Res.eqv, concL, conc, ← hset]
    have hkL : k = l.length := by have := of_decide_eq_false hlt; omega
    subst hkL
    rw [List.take_length] at hE
    repeat ((conv => whnf); first | apply qza | apply qzb | apply qzc | apply qzd | apply qze | intro (_ : Nat) | intro (_ : Option Addr) (_ : Nat))
    conv => whnf
    refine fun g1 hg1 hn1 hp1 => ?_
    rw [Nat.sub_self, rowK_done] at hp1
    conv => whnf
    intro g2 hg
    exact oSl_up oEn_fr hg (oEls_sl oEn_fr hE hgg hg1 (hp1.lo_le h0.1) rfl hn1))
theorem ok_cGroup (g0 g : GW) (h0 : g0 ≤ g) {cs : List Value} {x : Group} (hx : rGr g cs x) (hb : BgG 1000000 x) : Ok Try.prog n_world_cloner__group [.agg ⟨[]⟩, .agg ⟨cs⟩] g fun v g' => ∃ cs', v = .agg ⟨cs'⟩ ∧ oGr wT true g' g0.w.heap.size (NEW g g') cs' x := by
  obtain ⟨n, rfl, hH, hN⟩ := hx
  obtain ⟨oa, ca, rfl, a1, a2, a0, hr⟩ := id hN
  exact Ok.of_fn hm noT 0 t_world_cloner__group (args := [.v (.agg ⟨[]⟩), .v (.agg ⟨[.int .u64 x.ticket, .slice oa x.ends.length ca]⟩)]) (by
    repeat ((conv => whnf); first | apply qza | apply qzb | apply qzc | apply qzd | apply qze | intro (_ : Nat) | intro (_ : Option Addr) (_ : Nat))
    refine .inr ((ok_eEnd g0 _ h0 hN hb).mono fun v g1 hg1 hO => ?_)
    obtain ⟨oV, cV, rfl⟩ := oSl_val hO
    repeat ((conv => whnf); first | apply qza | apply qzb | apply qzc | apply qzd | apply qze | intro (_ : Nat) | intro (_ : Option Addr) (_ : Nat))
    conv => whnf
    intro g2 hg
    exact ⟨_, rfl, _, rfl, hH, oSl_up oEn_fr hg hO⟩)
theorem ok_eGroup (g0 g : GW) (h0 : g0 ≤ g) {v : Value} {l : List Group} (hl : rSl 2 rGr g v l) (hlen : l.length ≤ 1000000) (hb : ∀ y ∈ l, BgG 1000000 y) : Ok Try.prog n_world_each_api_Group_world_cloner [v, .func (.func n_world_cloner__group) #[] #[], .agg ⟨[]⟩] g fun v' g' => oSl ty_api_Group 2 (oGr wT true) g' g0.w.heap.size (NEW g g') v' l := by
  obtain ⟨oa, ca, rfl, a1, a2, a0, hr⟩ := id hl
  exact Ok.of_fn hm noT 0 t_world_each_api_Group_world_cloner (args := [.v (.slice oa l.length ca), .v (.func (.func n_world_cloner__group) #[] #[]), .v (.agg ⟨[]⟩)]) (by
    repeat ((conv => whnf); first | apply qza | apply qzb | apply qzc | apply qzd | apply qze | intro (_ : Nat) | intro (_ : Option Addr) (_ : Nat))
    conv => whnf
    refine ⟨⟨by omega, by omega, by omega, by omega⟩, fun _ => ?_⟩
    repeat ((conv => whnf); first | apply qza | apply qzb | apply qzc | apply qzd | apply qze | intro (_ : Nat) | intro (_ : Option Addr) (_ : Nat))
    rename_i q0 q1
    conv => whnf
    refine ⟨Nat × List (List Value) × GW, fun (k, _, _) => [.v (.int .i64 k)], fun (k, ecs, g') => ⟨g', [.row 1 (some ⟨q1, 0, none⟩) l.length l.length ty_api_Group 2 (rowK ecs [.int .u64 0, .slice none 0 0] (l.length - k)), .blk 0 q0 ty_world_cloner []], 10, g.w.heap.size⟩, fun (k, ecs, g') => k ≤ l.length ∧ g ≤ g' ∧ oEls 2 (oGr wT true) g g' g0.w.heap.size ecs (l.take k), fun (k, _, _) => l.length - k, fun fr w hw => ⟨(0, [], g), rfl, ⟨Nat.zero_le _, GW.refl _, oEls_nil _ _ _⟩, hw.fit (by simp [fitL, Res.eqv, concL, conc, rowK])⟩, ?_⟩
    rintro ⟨k, ecs, g'⟩ ⟨hk, hgg, hE⟩
    have hE0 := hE
    obtain ⟨_, ⟨hel, hes⟩, _⟩ := hE0
    rw [List.length_take, Nat.min_eq_left hk] at hel
    repeat ((conv => whnf); first | apply qza | apply qzb | apply qzc | apply qzd | apply qze | intro (_ : Nat) | intro (_ : Option Addr) (_ : Nat))
    conv => whnf
    refine ⟨fun hlt => ?_, fun hlt => ?_⟩
    · have h' : k < l.length := by have := of_decide_eq_true hlt; omega
      obtain ⟨x, hx⟩ := getL_of h'
      obtain ⟨x1, x2⟩ := List.getElem?_eq_some_iff.1 hx
      obtain ⟨a, rfl, ec, hec, hxe, hc⟩ := hr k x hx
      have hxe0 := hxe
      obtain ⟨nx, rfl, u1, ⟨oN, cN, rfl, _⟩⟩ := hxe
      repeat ((conv => whnf); first | apply qza | apply qzb | apply qzc | apply qzd | apply qze | intro (_ : Nat) | intro (_ : Option Addr) (_ : Nat))
      conv => whnf
      refine ⟨a, rfl, ⟨by omega, by omega⟩, ?_⟩
      conv => whnf
      refine ⟨_, ⟨rfl, hc.mono hgg⟩, ?_⟩
      repeat ((conv => whnf); first | apply qza | apply qzb | apply qzc | apply qzd | apply qze | intro (_ : Nat) | intro (_ : Option Addr) (_ : Nat))
      conv => whnf
      refine ⟨.of (by kernel_rfl), ?_⟩
      refine .inr ((ok_cGroup g0 _ (GW.trans h0 hgg) (rGr_mono _ _ _ _ hgg hxe0) (hb x (List.mem_of_getElem? hx))).mono fun v g1 hg1 hO => ?_)
      obtain ⟨cs', rfl, hO⟩ := hO
      have hO0 := hO
      obtain ⟨nv, rfl, _, hO1⟩ := hO0
      obtain ⟨oW, cW, rfl⟩ := oSl_val hO1
      have hlenR := rowK_len (m := l.length - k) (z := [.int .u64 0, .slice none 0 0]) hes rfl
      have hT : l.take (k + 1) = l.take k ++ [x] := by rw [List.take_succ_eq_append_getElem x1, x2]
      have hset := rowK_set (m := l.length - k) (z := [.int .u64 0, .slice none 0 0]) hes rfl (by omega) (ec := [.int .u64 x.ticket, .slice oW x.ends.length cW]) rfl hel.symm
      repeat ((conv => whnf); first | apply qza | apply qzb | apply qzc | apply qzd | apply qze | intro (_ : Nat) | intro (_ : Option Addr) (_ : Nat))
      conv => whnf
      refine ⟨⟨by omega, by omega⟩, ?_⟩
      repeat ((conv => whnf); first | apply qza | apply qzb | apply qzc | apply qzd | apply qze | intro (_ : Nat) | intro (_ : Option Addr) (_ : Nat))
      conv => whnf
      refine ⟨⟨by rw [hlenR, hel]; simp; omega, by decide⟩, ?_⟩
      repeat ((conv => whnf); first | apply qza | apply qzb | apply qzc | apply qzd | apply qze | intro (_ : Nat) | intro (_ : Option Addr) (_ : Nat))
      conv => whnf
      refine fun fr w hw => ⟨(k + 1, ecs ++ [[.int .u64 x.ticket, .slice oW x.ends.length cW]], g1), congrArg (fun z => [Value.int .i64 z]) (wr1 h' a1 a2).symm, ⟨h', GW.trans hgg hg1, by rw [hT]; exact oEls_snoc oGr_fr hgg hg1 hE rfl hO⟩, dec h', hw.fit ?_⟩
      rw [show l.length - (k + 1) = l.length - k - 1 by omega]
      simp [fitL, Res.eqv, concL, conc, ← hset]
    have hkL : k = l.length := by have := of_decide_eq_false hlt; omega
    subst hkL
    rw [List.take_length] at hE
    repeat ((conv => whnf); first | apply qza | apply qzb | apply qzc | apply qzd | apply qze | intro (_ : Nat) | intro (_ : Option Addr) (_ : Nat))
    conv => whnf
    refine fun g1 hg1 hn1 hp1 => ?_
    rw [Nat.sub_self, rowK_done] at hp1
    conv => whnf
    intro g2 hg
    exact oSl_up oGr_fr hg (oEls_sl oGr_fr hE hgg hg1 (hp1.lo_le h0.1) rfl hn1))
theorem ok_cVersion (g0 g : GW) (h0 : g0 ≤ g) {cs : List Value} {x : Version} (hx : rVe g0 cs x) (hb : BgV 1000000 x) : Ok Try.prog n_world_cloner__version [.agg ⟨[]⟩, .agg ⟨cs⟩] g fun v g' => ∃ cs', v = .agg ⟨cs'⟩ ∧ oVe wT true g' g0.w.heap.size (NEW g g') cs' x := by
  obtain ⟨a, b, d, n, rfl, hS, hN⟩ := hx
  have hS0 := hS
  obtain ⟨_, _, _, he, ⟨oa', ca', rfl, _⟩, ⟨ob', cb', rfl, _⟩, ⟨od', cd', rfl, _⟩⟩ := hS
  cases he
  obtain ⟨oa, ca, rfl, a1, a2, a0, hr⟩ := id hN
  exact Ok.of_fn hm noT 0 t_world_cloner__version (args := [.v (.agg ⟨[]⟩), .v (.agg ⟨[.slice oa' x.snap.listens.length ca', .slice ob' x.snap.rules.length cb', .slice od' x.snap.clusters.length cd', .slice oa x.groups.length ca, .bool x.freed]⟩)]) (by
    repeat ((conv => whnf); first | apply qza | apply qzb | apply qzc | apply qzd | apply qze | intro (_ : Nat) | intro (_ : Option Addr) (_ : Nat))
    refine .inr ((ok_eGroup g0 _ h0 (hN.mono rGr_mono h0) hb.1 hb.2).mono fun v g1 hg1 hO => ?_)
    obtain ⟨oV, cV, rfl⟩ := oSl_val hO
    repeat ((conv => whnf); first | apply qza | apply qzb | apply qzc | apply qzd | apply qze | intro (_ : Nat) | intro (_ : Option Addr) (_ : Nat))
    conv => whnf
    intro g2 hg
    exact ⟨_, rfl, _, _, _, _, rfl, rSnap_mono _ _ _ _ (GW.le_vw (GW.trans h0 (GW.trans hg1 hg)) (Nat.le_refl _)) hS0, oSl_up oGr_fr hg hO⟩)
theorem ok_eVersion (g0 g : GW) (h0 : g0 ≤ g) {v : Value} {l : List Version} (hl : rSl 5 rVe g0 v l) (hlen : l.length ≤ 1000000) (hb : ∀ y ∈ l, BgV 1000000 y) : Ok Try.prog n_world_each_api_Version_world_cloner [v, .func (.func n_world_cloner__version) #[] #[], .agg ⟨[]⟩] g fun v' g' => oSl ty_api_Version 5 (oVe wT true) g' g0.w.heap.size (NEW g g') v' l := by
  obtain ⟨oa, ca, rfl, a1, a2, a0, hr⟩ := id hl
  exact Ok.of_fn hm noT 0 t_world_each_api_Version_world_cloner (args := [.v (.slice oa l.length ca), .v (.func (.func n_world_cloner__version) #[] #[]), .v (.agg ⟨[]⟩)]) (by
    repeat ((conv => whnf); first | apply qza | apply qzb | apply qzc | apply qzd | apply qze | intro (_ : Nat) | intro (_ : Option Addr) (_ : Nat))
    conv => whnf
    refine ⟨⟨by omega, by omega, by omega, by omega⟩, fun _ => ?_⟩
    repeat ((conv => whnf); first | apply qza | apply qzb | apply qzc | apply qzd | apply qze | intro (_ : Nat) | intro (_ : Option Addr) (_ : Nat))
    rename_i q0 q1
    conv => whnf
    refine ⟨Nat × List (List Value) × GW, fun (k, _, _) => [.v (.int .i64 k)], fun (k, ecs, g') => ⟨g', [.row 1 (some ⟨q1, 0, none⟩) l.length l.length ty_api_Version 5 (rowK ecs [.slice none 0 0, .slice none 0 0, .slice none 0 0, .slice none 0 0, .bool false] (l.length - k)), .blk 0 q0 ty_world_cloner []], 10, g.w.heap.size⟩, fun (k, ecs, g') => k ≤ l.length ∧ g ≤ g' ∧ oEls 5 (oVe wT true) g g' g0.w.heap.size ecs (l.take k), fun (k, _, _) => l.length - k, fun fr w hw => ⟨(0, [], g), rfl, ⟨Nat.zero_le _, GW.refl _, oEls_nil _ _ _⟩, hw.fit (by simp [fitL, Res.eqv, concL, conc, rowK])⟩, ?_⟩
    rintro ⟨k, ecs, g'⟩ ⟨hk, hgg, hE⟩
    have hE0 := hE
    obtain ⟨_, ⟨hel, hes⟩, _⟩ := hE0
    rw [List.length_take, Nat.min_eq_left hk] at hel
    repeat ((conv => whnf); first | apply qza | apply qzb | apply qzc | apply qzd | apply qze | intro (_ : Nat) | intro (_ : Option Addr) (_ : Nat))
    conv => whnf
    refine ⟨fun hlt => ?_, fun hlt => ?_⟩
    · have h' : k < l.length := by have := of_decide_eq_true hlt; omega
      obtain ⟨x, hx⟩ := getL_of h'
      obtain ⟨x1, x2⟩ := List.getElem?_eq_some_iff.1 hx
      obtain ⟨a, rfl, ec, hec, hxe, hc⟩ := hr k x hx
      have hxe0 := hxe
      obtain ⟨sa, sb, sd, nx, rfl, ⟨_, _, _, hee, ⟨oa', ca', rfl, _⟩, ⟨ob', cb', rfl, _⟩, ⟨od', cd', rfl, _⟩⟩, ⟨oN, cN, rfl, _⟩⟩ := hxe
      cases hee
      repeat ((conv => whnf); first | apply qza | apply qzb | apply qzc | apply qzd | apply qze | intro (_ : Nat) | intro (_ : Option Addr) (_ : Nat))
      conv => whnf
      refine ⟨a, rfl, ⟨by omega, by omega⟩, ?_⟩
      conv => whnf
      refine ⟨_, ⟨rfl, hc.mono (GW.trans h0 hgg)⟩, ?_⟩
      repeat ((conv => whnf); first | apply qza | apply qzb | apply qzc | apply qzd | apply qze | intro (_ : Nat) | intro (_ : Option Addr) (_ : Nat))
      conv => whnf
      refine ⟨.of (by kernel_rfl), ?_⟩
      refine .inr ((ok_cVersion g0 _ (GW.trans h0 hgg) hxe0 (hb x (List.mem_of_getElem? hx))).mono fun v g1 hg1 hO => ?_)
      obtain ⟨cs', rfl, hO⟩ := hO
      have hO0 := hO
      obtain ⟨ua, ub, ud, nv, rfl, ⟨_, _, _, hee, ⟨oa2, ca2, rfl, _⟩, ⟨ob2, cb2, rfl, _⟩, ⟨od2, cd2, rfl, _⟩⟩, hO1⟩ := hO0
      cases hee
      obtain ⟨oW, cW, rfl⟩ := oSl_val hO1
      have hlenR := rowK_len (m := l.length - k) (z := [.slice none 0 0, .slice none 0 0, .slice none 0 0, .slice none 0 0, .bool false]) hes rfl
      have hT : l.take (k + 1) = l.take k ++ [x] := by rw [List.take_succ_eq_append_getElem x1, x2]
      have hset := rowK_set (m := l.length - k) (z := [.slice none 0 0, .slice none 0 0, .slice none 0 0, .slice none 0 0, .bool false]) hes rfl (by omega) (ec := [.slice oa2 x.snap.listens.length ca2, .slice ob2 x.snap.rules.length cb2, .slice od2 x.snap.clusters.length cd2, .slice oW x.groups.length cW, .bool x.freed]) rfl hel.symm
      repeat ((conv => whnf); first | apply qza | apply qzb | apply qzc | apply qzd | apply qze | intro (_ : Nat) | intro (_ : Option Addr) (_ : Nat))
      conv => whnf
      refine ⟨⟨by omega, by omega⟩, ?_⟩
      repeat ((conv => whnf); first | apply qza | apply qzb | apply qzc | apply qzd | apply qze | intro (_ : Nat) | intro (_ : Option Addr) (_ : Nat))
      conv => whnf
      refine ⟨⟨by rw [hlenR, hel]; simp; omega, by decide⟩, ?_⟩
      repeat ((conv => whnf); first | apply qza | apply qzb | apply qzc | apply qzd | apply qze | intro (_ : Nat) | intro (_ : Option Addr) (_ : Nat))
      conv => whnf
      refine fun fr w hw => ⟨(k + 1, ecs ++ [[.slice oa2 x.snap.listens.length ca2, .slice ob2 x.snap.rules.length cb2, .slice od2 x.snap.clusters.length cd2, .slice oW x.groups.length cW, .bool x.freed]], g1), congrArg (fun z => [Value.int .i64 z]) (wr1 h' a1 a2).symm, ⟨h', GW.trans hgg hg1, by rw [hT]; exact oEls_snoc oVe_fr hgg hg1 hE rfl hO⟩, dec h', hw.fit ?_⟩
      rw [show l.length - (k + 1) = l.length - k - 1 by omega]
      simp [fitL, Res.eqv, concL, conc, ← hset]
    have hkL : k = l.length := by have := of_decide_eq_false hlt; omega
    subst hkL
    rw [List.take_length] at hE
    repeat ((conv => whnf); first | apply qza | apply qzb | apply qzc | apply qzd | apply qze | intro (_ : Nat) | intro (_ : Option Addr) (_ : Nat))
    conv => whnf
    refine fun g1 hg1 hn1 hp1 => ?_
    rw [Nat.sub_self, rowK_done] at hp1
    conv => whnf
    intro g2 hg
    exact oSl_up oVe_fr hg (oEls_sl oVe_fr hE hgg hg1 (hp1.lo_le h0.1) rfl hn1))
theorem ok_cRow (g0 g : GW) (h0 : g0 ≤ g) {v : Value} {x : List Int} (hx : rSl 1 rU64 g v x) (hb : x.length ≤ 17592186044416) : Ok Try.prog n_world_cloner__row [.agg ⟨[]⟩, v] g fun v' g' => oSl ty_uint64 1 (oLf rU64) g' g0.w.heap.size (NEW g g') v' x := by
  obtain ⟨oa, ca, rfl, a1, a2, a0, hr⟩ := id hx
  exact Ok.of_fn hm noT 0 t_world_cloner__row (args := [.v (.agg ⟨[]⟩), .v (.slice oa x.length ca)]) (by
    repeat ((conv => whnf); first | apply qza | apply qzb | apply qzc | apply qzd | apply qze | intro (_ : Nat) | intro (_ : Option Addr) (_ : Nat))
    refine .inr ((ok_cU g0 _ h0 hx hb).mono fun v g1 hg1 hO => ?_)
    obtain ⟨oV, cV, rfl⟩ := oSl_val hO
    repeat ((conv => whnf); first | apply qza | apply qzb | apply qzc | apply qzd | apply qze | intro (_ : Nat) | intro (_ : Option Addr) (_ : Nat))
    conv => whnf
    intro g2 hg
    exact oSl_up (oLf_fr rU64_any) hg hO)
theorem ok_eRow (g0 g : GW) (h0 : g0 ≤ g) {v : Value} {l : List (List Int)} (hl : rSl 1 rRow g v l) (hlen : l.length ≤ 1000000) (hb : ∀ y ∈ l, y.length ≤ 1000000) : Ok Try.prog n_world_each___uint64_world_cloner [v, .func (.func n_world_cloner__row) #[] #[], .agg ⟨[]⟩] g fun v' g' => oSl ty_sl_uint64 1 (oRo wT) g' g0.w.heap.size (NEW g g') v' l := by
  obtain ⟨oa, ca, rfl, a1, a2, a0, hr⟩ := id hl
  exact Ok.of_fn hm noT 0 t_world_each___uint64_world_cloner (args := [.v (.slice oa l.length ca), .v (.func (.func n_world_cloner__row) #[] #[]), .v (.agg ⟨[]⟩)]) (by
    repeat ((conv => whnf); first | apply qza | apply qzb | apply qzc | apply qzd | apply qze | intro (_ : Nat) | intro (_ : Option Addr) (_ : Nat))
    conv => whnf
    refine ⟨⟨by omega, by omega, by omega, by omega⟩, fun _ => ?_⟩
    repeat ((conv => whnf); first | apply qza | apply qzb | apply qzc | apply qzd | apply qze | intro (_ : Nat) | intro (_ : Option Addr) (_ : Nat))
    rename_i q0 q1
    conv => whnf
    refine ⟨Nat × List (List Value) × GW, fun (k, _, _) => [.v (.int .i64 k)], fun (k, ecs, g') => ⟨g', [.row 1 (some ⟨q1, 0, none⟩) l.length l.length ty_sl_uint64 1 (rowK ecs [.slice none 0 0] (l.length - k)), .blk 0 q0 ty_world_cloner []], 10, g.w.heap.size⟩, fun (k, ecs, g') => k ≤ l.length ∧ g ≤ g' ∧ oEls 1 (oRo wT) g g' g0.w.heap.size ecs (l.take k), fun (k, _, _) => l.length - k, fun fr w hw => ⟨(0, [], g), rfl, ⟨Nat.zero_le _, GW.refl _, oEls_nil _ _ _⟩, hw.fit (by simp [fitL, Res.eqv, concL, conc, rowK])⟩, ?_⟩
    rintro ⟨k, ecs, g'⟩ ⟨hk, hgg, hE⟩
    have hE0 := hE
    obtain ⟨_, ⟨hel, hes⟩, _⟩ := hE0
    rw [List.length_take, Nat.min_eq_left hk] at hel
    repeat ((conv => whnf); first | apply qza | apply qzb | apply qzc | apply qzd | apply qze | intro (_ : Nat) | intro (_ : Option Addr) (_ : Nat))
    conv => whnf
    refine ⟨fun hlt => ?_, fun hlt => ?_⟩
    · have h' : k < l.length := by have := of_decide_eq_true hlt; omega
      obtain ⟨x, hx⟩ := getL_of h'
      obtain ⟨x1, x2⟩ := List.getElem?_eq_some_iff.1 hx
      obtain ⟨a, rfl, ec, hec, hxe, hc⟩ := hr k x hx
      have hxe0 := hxe
      obtain ⟨nx, rfl, hN⟩ := hxe
      have hN0 := hN
      obtain ⟨oN, cN, rfl, _⟩ := hN
      repeat ((conv => whnf); first | apply qza | apply qzb | apply qzc | apply qzd | apply qze | intro (_ : Nat) | intro (_ : Option Addr) (_ : Nat))
      conv => whnf
      refine ⟨a, rfl, ⟨by omega, by omega⟩, ?_⟩
      conv => whnf
      refine ⟨_, hc.mono hgg 0 _ rfl, ?_⟩
      repeat ((conv => whnf); first | apply qza | apply qzb | apply qzc | apply qzd | apply qze | intro (_ : Nat) | intro (_ : Option Addr) (_ : Nat))
      conv => whnf
      refine ⟨.of (by kernel_rfl), ?_⟩
      refine .inr ((ok_cRow g0 _ (GW.trans h0 hgg) (hN0.mono rU64_mono hgg) (by have := hb x (List.mem_of_getElem? hx); omega)).mono fun v g1 hg1 hO => ?_)
      obtain ⟨oW, cW, rfl⟩ := oSl_val hO
      have hlenR := rowK_len (m := l.length - k) (z := [.slice none 0 0]) hes rfl
      have hT : l.take (k + 1) = l.take k ++ [x] := by rw [List.take_succ_eq_append_getElem x1, x2]
      have hset := rowK_set (m := l.length - k) (z := [.slice none 0 0]) hes rfl (by omega) (ec := [.slice oW x.length cW]) rfl hel.symm
      repeat ((conv => whnf); first | apply qza | apply qzb | apply qzc | apply qzd | apply qze | intro (_ : Nat) | intro (_ : Option Addr) (_ : Nat))
      conv => whnf
      refine ⟨⟨by omega, by omega⟩, ?_⟩
      repeat ((conv => whnf); first | apply qza | apply qzb | apply qzc | apply qzd | apply qze | intro (_ : Nat) | intro (_ : Option Addr) (_ : Nat))
      conv => whnf
      refine ⟨⟨by rw [hlenR, hel]; simp; omega, by decide⟩, ?_⟩
      repeat ((conv => whnf); first | apply qza | apply qzb | apply qzc | apply qzd | apply qze | intro (_ : Nat) | intro (_ : Option Addr) (_ : Nat))
      conv => whnf
      refine fun fr w hw => ⟨(k + 1, ecs ++ [[.slice oW x.length cW]], g1), congrArg (fun z => [Value.int .i64 z]) (wr1 h' a1 a2).symm, ⟨h', GW.trans hgg hg1, by rw [hT]; exact oEls_snoc oRo_fr hgg hg1 hE rfl ⟨_, rfl, hO⟩⟩, dec h', hw.fit ?_⟩
      rw [show l.length - (k + 1) = l.length - k - 1 by omega]
      simp [fitL, Res.eqv, concL, conc, ← hset]
    have hkL : k = l.length := by have := of_decide_eq_false hlt; omega
    subst hkL
    rw [List.take_length] at hE
    repeat ((conv => whnf); first | apply qza | apply qzb | apply qzc | apply qzd | apply qze | intro (_ : Nat) | intro (_ : Option Addr) (_ : Nat))
    conv => whnf
    refine fun g1 hg1 hn1 hp1 => ?_
    rw [Nat.sub_self, rowK_done] at hp1
    conv => whnf
    intro g2 hg
    exact oSl_up oRo_fr hg (oEls_sl oRo_fr hE hgg hg1 (hp1.lo_le h0.1) rfl hn1))
end Go.Proofs.Ytkkhdnddplkobaa


/- Worlds: clones. -/
namespace Go.Proofs.Ytkkhdnddplkobaa
open Go.Proofs.Ytkkhdnddplkobaa.Sx Go.RowKit
/-- A world of its own. -/
def CloneP (g : GW) (w : Wd) (v : Value) (g' : GW) : Prop := ∃ cs T, v = .agg ⟨cs⟩ ∧ oWo wT true g' g.w.heap.size T cs w
/-- Five parts, one behind the other. -/
def T5 (g1 g2 g3 g4 g5 g6 : GW) : Nat → Nat → Prop := fun i n => match i with
  | 0 => NEW g1 g2 n
  | 1 => NEW g2 g3 n
  | 2 => NEW g3 g4 n
  | 3 => NEW g4 g5 n
  | 4 => NEW g5 g6 n
  | _ => False
theorem T5_disj {g1 g2 g3 g4 g5 g6 : GW} (h1 : g1 ≤ g2) (h2 : g2 ≤ g3) (h3 : g3 ≤ g4) (h4 : g4 ≤ g5) (i j n : Nat) (p : T5 g1 g2 g3 g4 g5 g6 i n) (q : T5 g1 g2 g3 g4 g5 g6 j n) : i = j := by
  have e3 := GW.trans h2 h3
  have e4 := GW.trans e3 h4
  have e5 := GW.trans h3 h4
  have key : ∀ {a b c d : GW}, b ≤ c → NEW a b n → NEW c d n → False := fun k p q => q.2 (k.2 n p.1).1
  match i, j, p, q with
  | 0, 0, _, _ => rfl
  | 1, 1, _, _ => rfl
  | 2, 2, _, _ => rfl
  | 3, 3, _, _ => rfl
  | 4, 4, _, _ => rfl
  | 0, 1, p, q => exact (key (GW.refl _) p q).elim
  | 0, 2, p, q => exact (key h2 p q).elim
  | 0, 3, p, q => exact (key e3 p q).elim
  | 0, 4, p, q => exact (key e4 p q).elim
  | 1, 2, p, q => exact (key (GW.refl _) p q).elim
  | 1, 3, p, q => exact (key h3 p q).elim
  | 1, 4, p, q => exact (key e5 p q).elim
  | 2, 3, p, q => exact (key (GW.refl _) p q).elim
  | 2, 4, p, q => exact (key h4 p q).elim
  | 3, 4, p, q => exact (key (GW.refl _) p q).elim
  | 1, 0, p, q => exact (key (GW.refl _) q p).elim
  | 2, 0, p, q => exact (key h2 q p).elim
  | 3, 0, p, q => exact (key e3 q p).elim
  | 4, 0, p, q => exact (key e4 q p).elim
  | 2, 1, p, q => exact (key (GW.refl _) q p).elim
  | 3, 1, p, q => exact (key h3 q p).elim
  | 4, 1, p, q => exact (key e5 q p).elim
  | 3, 2, p, q => exact (key (GW.refl _) q p).elim
  | 4, 2, p, q => exact (key h4 q p).elim
  | 4, 3, p, q => exact (key (GW.refl _) q p).elim
  | _ + 5, _, p, _ => exact p.elim
  | _, _ + 5, _, q => exact q.elim
theorem ok_Clone (g : GW) {cs : List Value} {w : Wd} (hw : rWo g cs w) (hb : BgW 1000000 w) : Ok Try.prog n_world_Clone [.agg ⟨cs⟩] g (CloneP g w) := by
  obtain ⟨a, b, c, d, e, rfl, ⟨i1, i2, i3⟩, hP, hV, hL, hC, hR⟩ := hw
  obtain ⟨⟨z1, z2, z3, z4, z5⟩, z6, z7⟩ := hb
  obtain ⟨oa, ca, rfl, a1, a2, a0, hP1⟩ := id hP
  obtain ⟨ob, cb, rfl, b1, b2, b0, hV1⟩ := id hV
  obtain ⟨oc, cc, rfl, c1, c2, c0, hL1⟩ := id hL
  obtain ⟨od, cd, rfl, d1, d2, d0, hC1⟩ := id hC
  obtain ⟨oe, ce, rfl, e1, e2, e0, hR1⟩ := id hR
  exact Ok.of_fn hm noT 0 t_world_Clone (args := [.v (.agg ⟨[.int .i64 w.epoch, .int .i64 w.current, .int .i64 w.lock, .slice oa w.pins.length ca, .slice ob w.versions.length cb, .slice oc w.listens.length cc, .slice od w.counts.length cd, .slice oe w.limbo.length ce]⟩)]) (by
    repeat ((conv => whnf); first | apply qza | apply qzb | apply qzc | apply qzd | apply qze | intro (_ : Nat) | intro (_ : Option Addr) (_ : Nat))
    refine .inr ((ok_cInt g _ (GW.refl _) hP (by omega)).mono fun v1 r1 k1 o1 => ?_)
    obtain ⟨p1, q1, rfl⟩ := oSl_val o1
    repeat ((conv => whnf); first | apply qza | apply qzb | apply qzc | apply qzd | apply qze | intro (_ : Nat) | intro (_ : Option Addr) (_ : Nat))
    refine .inr ((ok_eVersion g _ k1 hV z2 z7).mono fun v2 r2 k2 o2 => ?_)
    obtain ⟨p2, q2, rfl⟩ := oSl_val o2
    have m2 := GW.trans k1 k2
    repeat ((conv => whnf); first | apply qza | apply qzb | apply qzc | apply qzd | apply qze | intro (_ : Nat) | intro (_ : Option Addr) (_ : Nat))
    refine .inr ((ok_cLi g _ m2 (hL.mono rListen_mono m2) z3).mono fun v3 r3 k3 o3 => ?_)
    obtain ⟨p3, q3, rfl⟩ := oSl_val o3
    have m3 := GW.trans m2 k3
    repeat ((conv => whnf); first | apply qza | apply qzb | apply qzc | apply qzd | apply qze | intro (_ : Nat) | intro (_ : Option Addr) (_ : Nat))
    refine .inr ((ok_eRow g _ m3 (hC.mono rRow_mono m3) z4 z6).mono fun v4 r4 k4 o4 => ?_)
    obtain ⟨p4, q4, rfl⟩ := oSl_val o4
    have m4 := GW.trans m3 k4
    repeat ((conv => whnf); first | apply qza | apply qzb | apply qzc | apply qzd | apply qze | intro (_ : Nat) | intro (_ : Option Addr) (_ : Nat))
    refine .inr ((ok_cRe g _ m4 (hR.mono rRetired_mono m4) z5).mono fun v5 r5 k5 o5 => ?_)
    obtain ⟨p5, q5, rfl⟩ := oSl_val o5
    repeat ((conv => whnf); first | apply qza | apply qzb | apply qzc | apply qzd | apply qze | intro (_ : Nat) | intro (_ : Option Addr) (_ : Nat))
    conv => whnf
    intro g2 hg
    have n5 := hg
    have n4 := GW.trans k5 n5
    have n3 := GW.trans k4 n4
    have n2 := GW.trans k3 n3
    have n1 := GW.trans k2 n2
    exact ⟨_, T5 g r1 r2 r3 r4 r5, rfl, _, _, _, _, _, rfl, ⟨i1, i2, i3⟩, T5_disj k1 k2 k3 k4, oSl_fr (oLf_fr rInt_any) (GW.vw_up n1 _ _) o1, oSl_fr oVe_fr (GW.vw_up n2 _ _) o2, oSl_fr (oLf_fr rListen_any) (GW.vw_up n3 _ _) o3, oSl_fr oRo_fr (GW.vw_up n4 _ _) o4, oSl_fr (oLf_fr rRetired_any) (GW.vw_up n5 _ _) o5⟩)
end Go.Proofs.Ytkkhdnddplkobaa


/- Worlds: clones, the document's answer. -/
namespace Go.Proofs.Ytkkhdnddplkobaa
open Go.Proofs.Ytkkhdnddplkobaa.Sx Go.RowKit
end Go.Proofs.Ytkkhdnddplkobaa


/- Pins: a thread is pinned no more. -/
namespace Go.Proofs.Ytkkhdnddplkobaa
open Go.Proofs.Ytkkhdnddplkobaa.Sx Go.RowKit
end Go.Proofs.Ytkkhdnddplkobaa


/- Pins: a thread is pinned no more; the document's answer. -/
namespace Go.Proofs.Ytkkhdnddplkobaa
open Go.Proofs.Ytkkhdnddplkobaa.Sx Go.RowKit
end Go.Proofs.Ytkkhdnddplkobaa


/- Pins: the steps' table. -/
namespace Go.Proofs.Ytkkhdnddplkobaa
open Go.Proofs.Ytkkhdnddplkobaa.Sx Go.RowKit
end Go.Proofs.Ytkkhdnddplkobaa


/- Pins: a step, another place. -/
namespace Go.Proofs.Ytkkhdnddplkobaa
open Go.Proofs.Ytkkhdnddplkobaa.Sx Go.RowKit
end Go.Proofs.Ytkkhdnddplkobaa


/- Pins: a step, place 0. -/
namespace Go.Proofs.Ytkkhdnddplkobaa
open Go.Proofs.Ytkkhdnddplkobaa.Sx Go.RowKit
end Go.Proofs.Ytkkhdnddplkobaa


/- Pins: a step, place 1. -/
namespace Go.Proofs.Ytkkhdnddplkobaa
open Go.Proofs.Ytkkhdnddplkobaa.Sx Go.RowKit
end Go.Proofs.Ytkkhdnddplkobaa


/- Pins: a step, place 2. -/
namespace Go.Proofs.Ytkkhdnddplkobaa
open Go.Proofs.Ytkkhdnddplkobaa.Sx Go.RowKit
end Go.Proofs.Ytkkhdnddplkobaa


/- Pins: a step, at any place. -/
namespace Go.Proofs.Ytkkhdnddplkobaa
open Go.Proofs.Ytkkhdnddplkobaa.Sx Go.RowKit
end Go.Proofs.Ytkkhdnddplkobaa


/- Slots: those of a new endpoint. -/
namespace Go.Proofs.Ytkkhdnddplkobaa
open Go.Proofs.Ytkkhdnddplkobaa.Sx Go.RowKit
def FreshP (n : Int) (v : Value) (g' : GW) : Prop :=
  ((1 ≤ n ∧ n ≤ 4) ∧ ∃ oa cap, v = .tuple #[.agg ⟨[.int .u64 1, .slice oa n.toNat cap, .int .i64 0]⟩, .int .i64 0] ∧ rSl 1 rInt g' (.slice oa n.toNat cap) (freshE n.toNat).next) ∨
  (¬ (1 ≤ n ∧ n ≤ 4) ∧ v = .tuple #[.agg ⟨[.int .u64 0, .slice none 0 0, .int .i64 0]⟩, .int .i64 1])
abbrev upE (k : Nat) : List (List Value) := (List.range k).map fun (i : Nat) => [Value.int .i64 ((i : Int) + 1)]
theorem upE_succ (k : Nat) : upE (k + 1) = upE k ++ [[Value.int .i64 ((k : Int) + 1)]] := by simp [upE, List.range_succ]
theorem upE_sz {k : Nat} : ∀ e ∈ upE k, e.length = 1 := fun e he => by
  obtain ⟨x, _, rfl⟩ := List.mem_map.1 he; rfl
theorem ok_Fresh (g : GW) {n : Int} : Ok Try.prog n_slots_Fresh [.int .i64 n] g (FreshP n) :=
  Ok.of_fn hm noT 0 t_slots_Fresh (args := [.v (.int .i64 n)]) (by
    repeat ((conv => whnf); first | apply qza | apply qzb | apply qzc | apply qzd | apply qze | intro (_ : Nat) | intro (_ : Option Addr) (_ : Nat))
    conv => whnf
    refine ⟨fun z1 => ?_, fun z1 => ?_⟩
    · repeat ((conv => whnf); first | apply qza | apply qzb | apply qzc | apply qzd | apply qze | intro (_ : Nat) | intro (_ : Option Addr) (_ : Nat))
      conv => whnf
      intro g2 hg
      exact .inr ⟨by have := of_decide_eq_true z1; omega, rfl⟩
    repeat ((conv => whnf); first | apply qza | apply qzb | apply qzc | apply qzd | apply qze | intro (_ : Nat) | intro (_ : Option Addr) (_ : Nat))
    conv => whnf
    refine ⟨fun z2 => ?_, fun z2 => ?_⟩
    · repeat ((conv => whnf); first | apply qza | apply qzb | apply qzc | apply qzd | apply qze | intro (_ : Nat) | intro (_ : Option Addr) (_ : Nat))
      conv => whnf
      intro g2 hg
      exact .inr ⟨by have := of_decide_eq_true z2; omega, rfl⟩
    have k1 := of_decide_eq_false z1
    have k2 := of_decide_eq_false z2
    obtain ⟨N, rfl⟩ := Int.eq_ofNat_of_zero_le (show 0 ≤ n by omega)
    repeat ((conv => whnf); first | apply qza | apply qzb | apply qzc | apply qzd | apply qze | intro (_ : Nat) | intro (_ : Option Addr) (_ : Nat))
    conv => whnf
    refine ⟨⟨by omega, by omega, by omega, by omega⟩, fun _ => ?_⟩
    repeat ((conv => whnf); first | apply qza | apply qzb | apply qzc | apply qzd | apply qze | intro (_ : Nat) | intro (_ : Option Addr) (_ : Nat))
    rename_i q0 q1 q2
    conv => whnf
    refine ⟨Nat, fun k => [.v (.int .i64 k)], fun k => ⟨g, [.blk 2 q2 ty_api_End [.v (.int .u64 0), .row 1 (some ⟨q1, 0, none⟩) N N, .v (.int .i64 0)], .row 1 (some ⟨q1, 0, none⟩) N N ty_int 1 (rowK (upE k) [.int .i64 0] (N - k)), .blk 0 q0 ty_api_End [.v (.int .u64 0), .v (.slice none 0 0), .v (.int .i64 0)]], 3, g.w.heap.size⟩, fun k => k ≤ N, fun k => N - k, fun fr w hw => ⟨0, rfl, Nat.zero_le _, hw.fit (by simp [fitL, Res.eqv, concL, conc, rowK, upE])⟩, ?_⟩
    intro k hk
    have hlen := rowK_len (m := N - k) (z := [.int .i64 0]) (upE_sz (k := k)) rfl
    have hul : (upE k).length = k := by simp [upE]
    repeat ((conv => whnf); first | apply qza | apply qzb | apply qzc | apply qzd | apply qze | intro (_ : Nat) | intro (_ : Option Addr) (_ : Nat))
    conv => whnf
    refine ⟨fun hlt => ?_, fun hlt => ?_⟩
    · have h' : k < N := by have := of_decide_eq_true hlt; omega
      have hset := rowK_set (m := N - k) (z := [.int .i64 0]) (upE_sz (k := k)) rfl (by omega) (ec := [.int .i64 ((k : Int) + 1)]) rfl hul.symm
      rw [← upE_succ] at hset
      repeat ((conv => whnf); first | apply qza | apply qzb | apply qzc | apply qzd | apply qze | intro (_ : Nat) | intro (_ : Option Addr) (_ : Nat))
      conv => whnf
      refine ⟨⟨by omega, by omega⟩, ?_⟩
      repeat ((conv => whnf); first | apply qza | apply qzb | apply qzc | apply qzd | apply qze | intro (_ : Nat) | intro (_ : Option Addr) (_ : Nat))
      conv => whnf
      refine ⟨⟨by rw [hlen, hul]; simp; omega, by decide⟩, ?_⟩
      repeat ((conv => whnf); first | apply qza | apply qzb | apply qzc | apply qzd | apply qze | intro (_ : Nat) | intro (_ : Option Addr) (_ : Nat))
      conv => whnf
      refine fun fr w hw => ⟨k + 1, congrArg (fun z => [Value.int .i64 z]) (by rw [wr (show InR ((k : Int) + 1) by unfold InR; omega)]; omega), h', dec h', hw.fit ?_⟩
      rw [show N - (k + 1) = N - k - 1 by omega, ← hset]
      simp [fitL, Res.eqv, concL, conc, wr (show InR ((k : Int) + 1) by unfold InR; omega)]
    have hkN : k = N := by have := of_decide_eq_false hlt; omega
    subst hkN
    rw [Nat.sub_self, hul] at hlen
    repeat ((conv => whnf); first | apply qza | apply qzb | apply qzc | apply qzd | apply qze | intro (_ : Nat) | intro (_ : Option Addr) (_ : Nat))
    conv => whnf
    refine ⟨⟨by rw [wr (by unfold InR; omega)]; omega, by rw [wr (by unfold InR; omega)]; omega⟩, ?_⟩
    repeat ((conv => whnf); first | apply qza | apply qzb | apply qzc | apply qzd | apply qze | intro (_ : Nat) | intro (_ : Option Addr) (_ : Nat))
    conv => whnf
    refine ⟨⟨by rw [Nat.sub_self, hlen, wr (by unfold InR; omega)]; simp; omega, by decide⟩, ?_⟩
    repeat ((conv => whnf); first | apply qza | apply qzb | apply qzc | apply qzd | apply qze | intro (_ : Nat) | intro (_ : Option Addr) (_ : Nat))
    conv => whnf
    refine .inl ⟨_, (ok_tMake _ (t := 0) (i := 0) (by decide) (by decide)).to (show _ = Value.tuple #[.int .u64 1, .int .i64 0] from rfl), ?_⟩
    repeat ((conv => whnf); first | apply qza | apply qzb | apply qzc | apply qzd | apply qze | intro (_ : Nat) | intro (_ : Option Addr) (_ : Nat))
    conv => whnf
    refine fun g1 hg1 hn1 hp1 => ?_
    repeat ((conv => whnf); first | apply qza | apply qzb | apply qzc | apply qzd | apply qze | intro (_ : Nat) | intro (_ : Option Addr) (_ : Nat))
    conv => whnf
    intro g2 hg
    refine .inl ⟨⟨by omega, by omega⟩, _, _, rfl, ?_⟩
    have hN : k = 1 ∨ k = 2 ∨ k = 3 ∨ k = 4 := by omega
    rcases hN with rfl | rfl | rfl | rfl
    all_goals exact (rSl_of1 hp1.rd (freshE _).next (fun x => .int .i64 x) rfl fun x hx => ⟨rfl, by simp [freshE, List.range, List.range.loop] at hx; unfold InR; omega⟩).mono rInt_mono hg)
theorem fresh_en {g : GW} {n : Int} {oa : Option Addr} {cap : Nat} (h : 1 ≤ n ∧ n ≤ 4) (hr : rSl 1 rInt g (.slice oa n.toNat cap) (freshE n.toNat).next) : rEn g [.int .u64 1, .slice oa n.toNat cap, .int .i64 0] (freshE n.toNat) :=
  ⟨⟨_, rfl, show InU 1 by decide, show InR 0 by decide, hr⟩, by simp [freshE]; omega⟩
end Go.Proofs.Ytkkhdnddplkobaa


/- Worlds: a snapshot's cells. -/
namespace Go.Proofs.Ytkkhdnddplkobaa
open Go.Proofs.Ytkkhdnddplkobaa.Sx Go.RowKit
def CellsP (s : Snap) (v : Value) (g' : GW) : Prop :=
  (checkE (confS s) = none ∧ ∃ a b d oa n cap, v = .tuple #[.agg ⟨[a, b, d, .slice oa n cap, .bool false]⟩, .int .i64 0] ∧ rVe g' [a, b, d, .slice oa n cap, .bool false] (cellsV s)) ∨
  (checkE (confS s) ≠ none ∧ v = .tuple #[.agg ⟨[.slice none 0 0, .slice none 0 0, .slice none 0 0, .slice none 0 0, .bool false]⟩, .int .i64 1])
theorem ok_Cells (g : GW) {cs : List Value} {s : Snap} (hs : rSnap g cs s) (hsz : s.rules.length ≤ 1000000) : Ok Try.prog n_world_Cells [.agg ⟨cs⟩] g (CellsP s) := by
  have hs0 := hs
  obtain ⟨a, b, d, rfl, hl, hr, hk⟩ := hs
  obtain ⟨oa, ca, rfl, a1, a2, a0, hl1⟩ := id hl
  obtain ⟨ob, cb, rfl, b1, b2, b0, hr1⟩ := id hr
  obtain ⟨od, cd, rfl, d1, d2, d0, hk1⟩ := id hk
  exact Ok.of_fn hm noT 0 t_world_Cells (args := [.v (.agg ⟨[.slice oa s.listens.length ca, .slice ob s.rules.length cb, .slice od s.clusters.length cd]⟩)]) (by
    repeat ((conv => whnf); first | apply qza | apply qzb | apply qzc | apply qzd | apply qze | intro (_ : Nat) | intro (_ : Option Addr) (_ : Nat))
    conv => whnf
    refine .inl ⟨_, ok_sIs _ hs0 hsz, ?_⟩
    repeat ((conv => whnf); first | apply qza | apply qzb | apply qzc | apply qzd | apply qze | intro (_ : Nat) | intro (_ : Option Addr) (_ : Nat))
    conv => whnf
    refine ⟨fun z1 => ?_, fun z1 => ?_⟩
    · repeat ((conv => whnf); first | apply qza | apply qzb | apply qzc | apply qzd | apply qze | intro (_ : Nat) | intro (_ : Option Addr) (_ : Nat))
      conv => whnf
      intro g2 hg
      refine .inr ⟨fun h => ?_, rfl⟩
      rw [eqB_t h] at z1; cases z1
    have hz := eqB_iff.1 (nb0 z1)
    have G := good_iff.1 hz
    have hclL : s.clusters.length ≤ 4 := G.size.2.2.2
    have hcl : ∀ x ∈ s.clusters, (1 ≤ x.slots ∧ x.slots ≤ 4) ∧ (1 ≤ x.health.length ∧ x.health.length ≤ 4) := fun x hx => (G.cl x hx).2.2
    repeat ((conv => whnf); first | apply qza | apply qzb | apply qzc | apply qzd | apply qze | intro (_ : Nat) | intro (_ : Option Addr) (_ : Nat))
    rename_i q0 q1 q2
    conv => whnf
    refine ⟨Nat × List (List Value) × Option Addr × Nat × GW, fun (k, _, _, _, _) => [.v (.int .i64 k)], fun (k, ecs, oX, cX, g') => ⟨g', [.row 10 oX k cX ty_api_Group 2 ecs.flatten, .blk 2 q2 ty_api_Version [.v (.slice oa s.listens.length ca), .v (.slice ob s.rules.length cb), .v (.slice od s.clusters.length cd), .row 10 oX k cX, .v (.bool false)], .blk 1 q1 ty_api_Version [.v (.slice none 0 0), .v (.slice none 0 0), .v (.slice none 0 0), .v (.slice none 0 0), .v (.bool false)], .blk 0 q0 ty_api_Snap [.v (.slice oa s.listens.length ca), .v (.slice ob s.rules.length cb), .v (.slice od s.clusters.length cd)]], 20, g.w.heap.size⟩, fun (k, ecs, _, _, g') => k ≤ s.clusters.length ∧ g ≤ g' ∧ rEls 2 rGr g' ecs ((s.clusters.take k).map fun c => (⟨0, c.health.map fun _ => freshE c.slots.toNat⟩ : Group)), fun (k, _, _, _, _) => s.clusters.length - k, fun fr w hw => ⟨(0, [], none, 0, g), rfl, ⟨Nat.zero_le _, GW.refl _, rEls_nil _⟩, (hw.nil_row (nx' := 20) 10 ty_api_Group 2).fit (by simp [fitL, Res.eqv, concL, conc])⟩, ?_⟩
    rintro ⟨k, ecs, oX, cX, g'⟩ ⟨hkk, hgg, hE⟩
    repeat ((conv => whnf); first | apply qza | apply qzb | apply qzc | apply qzd | apply qze | intro (_ : Nat) | intro (_ : Option Addr) (_ : Nat))
    conv => whnf
    refine ⟨fun hlt => ?_, fun hlt => ?_⟩
    · have h' : k < s.clusters.length := by have := of_decide_eq_true hlt; omega
      obtain ⟨x, hx⟩ := getL_of h'
      obtain ⟨x1, x2⟩ := List.getElem?_eq_some_iff.1 hx
      have hxc := hcl x (List.mem_of_getElem? hx)
      obtain ⟨a, rfl, ec, hec, ⟨hv, rfl, _, _, ⟨oh, ch, rfl, t1, t2, _⟩⟩, hc⟩ := hk1 k x hx
      repeat ((conv => whnf); first | apply qza | apply qzb | apply qzc | apply qzd | apply qze | intro (_ : Nat) | intro (_ : Option Addr) (_ : Nat))
      conv => whnf
      refine ⟨a, rfl, ⟨by omega, by omega⟩, ?_⟩
      conv => whnf
      refine ⟨_, ⟨rfl, hc.mono hgg⟩, ?_⟩
      repeat ((conv => whnf); first | apply qza | apply qzb | apply qzc | apply qzd | apply qze | intro (_ : Nat) | intro (_ : Option Addr) (_ : Nat))
      rename_i qc qg
      conv => whnf
      refine ⟨Nat × List (List Value) × Option Addr × Nat × GW, fun (n, _, _, _, _) => [.v (.int .i64 n)], fun (n, ecs2, oE, cE, g2) => ⟨g2, [.row 30 oE n cE ty_api_End 3 ecs2.flatten, .blk 21 qg ty_api_Group [.v (.int .u64 0), .row 30 oE n cE], .blk 20 qc ty_api_Cluster [.v (.string x.name), .v (.int .i64 x.policy), .v (.int .i64 x.slots), .v (.slice oh x.health.length ch)], .row 10 oX k cX ty_api_Group 2 ecs.flatten, .blk 2 q2 ty_api_Version [.v (.slice oa s.listens.length ca), .v (.slice ob s.rules.length cb), .v (.slice (some a) s.clusters.length cd), .row 10 oX k cX, .v (.bool false)], .blk 1 q1 ty_api_Version [.v (.slice none 0 0), .v (.slice none 0 0), .v (.slice none 0 0), .v (.slice none 0 0), .v (.bool false)], .blk 0 q0 ty_api_Snap [.v (.slice oa s.listens.length ca), .v (.slice ob s.rules.length cb), .v (.slice (some a) s.clusters.length cd)]], 40, g.w.heap.size⟩, fun (n, ecs2, _, _, g2) => n ≤ x.health.length ∧ g' ≤ g2 ∧ rEls 3 rEn g2 ecs2 ((x.health.take n).map fun _ => freshE x.slots.toNat), fun (n, _, _, _, _) => x.health.length - n, fun fr w hw => ⟨(0, [], none, 0, g'), rfl, ⟨Nat.zero_le _, GW.refl _, rEls_nil _⟩, (hw.nil_row (nx' := 40) 30 ty_api_End 3).fit (by simp [fitL, Res.eqv, concL, conc])⟩, ?_⟩
      rintro ⟨n, ecs2, oE, cE, g2⟩ ⟨hn, hg2, hE2⟩
      repeat ((conv => whnf); first | apply qza | apply qzb | apply qzc | apply qzd | apply qze | intro (_ : Nat) | intro (_ : Option Addr) (_ : Nat))
      conv => whnf
      refine ⟨fun hln => ?_, fun hln => ?_⟩
      · have h2 : n < x.health.length := by have := of_decide_eq_true hln; omega
        repeat ((conv => whnf); first | apply qza | apply qzb | apply qzc | apply qzd | apply qze | intro (_ : Nat) | intro (_ : Option Addr) (_ : Nat))
        refine .inr ((ok_Fresh _).mono fun v g3 hg3 hF => ?_)
        rcases hF with ⟨_, oF, cF, rfl, hF⟩ | ⟨hF, _⟩
        rotate_left
        · exact absurd hxc.1 hF
        have hEn := fresh_en hxc.1 hF
        have hT : ((x.health.take (n + 1)).map fun _ => freshE x.slots.toNat) = ((x.health.take n).map fun _ => freshE x.slots.toNat) ++ [freshE x.slots.toNat] := by
          rw [List.take_succ_eq_append_getElem h2, List.map_append]; rfl
        repeat ((conv => whnf); first | apply qza | apply qzb | apply qzc | apply qzd | apply qze | intro (_ : Nat) | intro (_ : Option Addr) (_ : Nat))
        conv => whnf
        refine ⟨fun h => (nomatch h), fun _ => ?_⟩
        repeat ((conv => whnf); first | apply qza | apply qzb | apply qzc | apply qzd | apply qze | intro (_ : Nat) | intro (_ : Option Addr) (_ : Nat))
        conv => whnf
        refine ⟨⟨by unfold maxLen; omega, by omega⟩, fun oa2 cap2 => ?_⟩
        repeat ((conv => whnf); first | apply qza | apply qzb | apply qzc | apply qzd | apply qze | intro (_ : Nat) | intro (_ : Option Addr) (_ : Nat))
        conv => whnf
        refine fun fr w hw => ⟨(n + 1, ecs2 ++ [[.int .u64 1, .slice oF x.slots.toNat cF, .int .i64 0]], oa2, cap2, g3), congrArg (fun z => [Value.int .i64 z]) (wr1 h2 t1 t2).symm, ⟨h2, GW.trans hg2 hg3, by rw [hT]; exact rEls_snoc (rEls_up rEn_mono hg3 hE2) rfl hEn⟩, dec h2, hw.fit (by simp [fitL, Res.eqv, concL, conc])⟩
      have hnL : n = x.health.length := by have := of_decide_eq_false hln; omega
      subst hnL
      rw [List.take_length] at hE2
      have hT : ((s.clusters.take (k + 1)).map fun c => (⟨0, c.health.map fun _ => freshE c.slots.toNat⟩ : Group)) = ((s.clusters.take k).map fun c => (⟨0, c.health.map fun _ => freshE c.slots.toNat⟩ : Group)) ++ [⟨0, x.health.map fun _ => freshE x.slots.toNat⟩] := by
        rw [List.take_succ_eq_append_getElem x1, List.map_append, x2]; rfl
      repeat ((conv => whnf); first | apply qza | apply qzb | apply qzc | apply qzd | apply qze | intro (_ : Nat) | intro (_ : Option Addr) (_ : Nat))
      conv => whnf
      refine fun g3 hg3 hn3 hp3 => ?_
      have hSl := rEls_sl (rEls_up rEn_mono hg3 hE2) hp3 (by simp)
      repeat ((conv => whnf); first | apply qza | apply qzb | apply qzc | apply qzd | apply qze | intro (_ : Nat) | intro (_ : Option Addr) (_ : Nat))
      conv => whnf
      refine ⟨⟨by unfold maxLen; omega, by omega⟩, fun oa2 cap2 => ?_⟩
      repeat ((conv => whnf); first | apply qza | apply qzb | apply qzc | apply qzd | apply qze | intro (_ : Nat) | intro (_ : Option Addr) (_ : Nat))
      conv => whnf
      refine fun fr w hw => ⟨(k + 1, ecs ++ [[.int .u64 0, .slice oE x.health.length cE]], oa2, cap2, g3), congrArg (fun z => [Value.int .i64 z]) (wr1 h' d1 d2).symm, ⟨h', GW.trans hgg (GW.trans hg2 hg3), by rw [hT]; exact rEls_snoc (rEls_up rGr_mono (GW.trans hg2 hg3) hE) rfl ⟨_, rfl, show InU 0 by decide, hSl⟩⟩, dec h', hw.fit (by simp [fitL, Res.eqv, concL, conc])⟩
    have hkL : k = s.clusters.length := by have := of_decide_eq_false hlt; omega
    subst hkL
    rw [List.take_length] at hE
    repeat ((conv => whnf); first | apply qza | apply qzb | apply qzc | apply qzd | apply qze | intro (_ : Nat) | intro (_ : Option Addr) (_ : Nat))
    conv => whnf
    refine fun g3 hg3 hn3 hp3 => ?_
    have hSl := rEls_sl (rEls_up rGr_mono hg3 hE) hp3 (by simp)
    repeat ((conv => whnf); first | apply qza | apply qzb | apply qzc | apply qzd | apply qze | intro (_ : Nat) | intro (_ : Option Addr) (_ : Nat))
    conv => whnf
    intro g2 hg
    exact .inl ⟨hz, _, _, _, _, _, _, rfl, ⟨_, _, _, _, rfl, rSnap_mono _ _ _ _ (GW.trans hgg (GW.trans hg3 hg)) hs0, hSl.mono rGr_mono hg⟩⟩)
end Go.Proofs.Ytkkhdnddplkobaa


/- Worlds: counts of a new world. -/
namespace Go.Proofs.Ytkkhdnddplkobaa
open Go.Proofs.Ytkkhdnddplkobaa.Sx Go.RowKit
def ShardP (n : Int) (v : Value) (g' : GW) : Prop :=
  ((1 ≤ n ∧ n ≤ 8) ∧ ∃ oa cap, v = .tuple #[.slice oa n.toNat cap, .int .i64 0] ∧ rSl 1 rRow g' (.slice oa n.toNat cap) (zCounts n.toNat)) ∨
  (¬ (1 ≤ n ∧ n ≤ 8) ∧ v = .tuple #[.slice none 0 0, .int .i64 1])
theorem ok_ShardNew (g : GW) {n : Int} : Ok Try.prog n_shard_New [.int .i64 n] g (ShardP n) :=
  Ok.of_fn hm noT 0 t_shard_New (args := [.v (.int .i64 n)]) (by
    repeat ((conv => whnf); first | apply qza | apply qzb | apply qzc | apply qzd | apply qze | intro (_ : Nat) | intro (_ : Option Addr) (_ : Nat))
    conv => whnf
    refine ⟨fun z1 => ?_, fun z1 => ?_⟩
    · repeat ((conv => whnf); first | apply qza | apply qzb | apply qzc | apply qzd | apply qze | intro (_ : Nat) | intro (_ : Option Addr) (_ : Nat))
      conv => whnf
      intro g2 hg
      exact .inr ⟨by have := of_decide_eq_true z1; omega, rfl⟩
    repeat ((conv => whnf); first | apply qza | apply qzb | apply qzc | apply qzd | apply qze | intro (_ : Nat) | intro (_ : Option Addr) (_ : Nat))
    conv => whnf
    refine ⟨fun z2 => ?_, fun z2 => ?_⟩
    · repeat ((conv => whnf); first | apply qza | apply qzb | apply qzc | apply qzd | apply qze | intro (_ : Nat) | intro (_ : Option Addr) (_ : Nat))
      conv => whnf
      intro g2 hg
      exact .inr ⟨by have := of_decide_eq_true z2; omega, rfl⟩
    have k1 := of_decide_eq_false z1
    have k2 := of_decide_eq_false z2
    obtain ⟨N, rfl⟩ := Int.eq_ofNat_of_zero_le (show 0 ≤ n by omega)
    repeat ((conv => whnf); first | apply qza | apply qzb | apply qzc | apply qzd | apply qze | intro (_ : Nat) | intro (_ : Option Addr) (_ : Nat))
    conv => whnf
    refine ⟨⟨by omega, by omega, by omega, by omega⟩, fun _ => ?_⟩
    repeat ((conv => whnf); first | apply qza | apply qzb | apply qzc | apply qzd | apply qze | intro (_ : Nat) | intro (_ : Option Addr) (_ : Nat))
    rename_i q1
    conv => whnf
    refine ⟨Nat × List (List Value) × GW, fun (k, _, _) => [.v (.int .i64 k)], fun (k, ecs, g') => ⟨g', [.row 0 (some ⟨q1, 0, none⟩) N N ty_sl_uint64 1 (rowK ecs [.slice none 0 0] (N - k))], 10, g.w.heap.size⟩, fun (k, ecs, g') => k ≤ N ∧ g ≤ g' ∧ rEls 1 rRow g' ecs (zCounts k), fun (k, _, _) => N - k, fun fr w hw => ⟨(0, [], g), rfl, ⟨Nat.zero_le _, GW.refl _, rEls_nil _⟩, hw.fit (by simp [fitL, Res.eqv, concL, conc, rowK])⟩, ?_⟩
    rintro ⟨k, ecs, g'⟩ ⟨hk, hgg, hE⟩
    have hel : ecs.length = k := by have := hE.1.1; simpa [zCounts] using this
    have hlen := rowK_len (m := N - k) (z := [.slice none 0 0]) hE.1.2 rfl
    repeat ((conv => whnf); first | apply qza | apply qzb | apply qzc | apply qzd | apply qze | intro (_ : Nat) | intro (_ : Option Addr) (_ : Nat))
    conv => whnf
    refine ⟨fun hlt => ?_, fun hlt => ?_⟩
    · have h' : k < N := by have := of_decide_eq_true hlt; omega
      repeat ((conv => whnf); first | apply qza | apply qzb | apply qzc | apply qzd | apply qze | intro (_ : Nat) | intro (_ : Option Addr) (_ : Nat))
      conv => whnf
      refine ⟨⟨by decide, by decide, by decide, by decide⟩, fun _ => ?_⟩
      repeat ((conv => whnf); first | apply qza | apply qzb | apply qzc | apply qzd | apply qze | intro (_ : Nat) | intro (_ : Option Addr) (_ : Nat))
      conv => whnf
      refine ⟨⟨by omega, by omega⟩, ?_⟩
      repeat ((conv => whnf); first | apply qza | apply qzb | apply qzc | apply qzd | apply qze | intro (_ : Nat) | intro (_ : Option Addr) (_ : Nat))
      rename_i q2
      conv => whnf
      refine fun g2 hg2 hn2 hp2 => ?_
      have hrow : rSl 1 rU64 g2 (.slice (some ⟨q2, 0, none⟩) 6 6) [0, 0, 0, 0, 0, 0] := rSl_of1 hp2.rd [0, 0, 0, 0, 0, 0] (fun x => .int .u64 x) rfl fun x hx => ⟨rfl, by simp at hx; subst hx; decide⟩
      have hset := rowK_set (m := N - k) (z := [.slice none 0 0]) hE.1.2 rfl (by omega) (ec := [.slice (some ⟨q2, 0, none⟩) 6 6]) rfl hel.symm
      have hT : zCounts (k + 1) = zCounts k ++ [[0, 0, 0, 0, 0, 0]] := by simp [zCounts, List.range_succ]
      repeat ((conv => whnf); first | apply qza | apply qzb | apply qzc | apply qzd | apply qze | intro (_ : Nat) | intro (_ : Option Addr) (_ : Nat))
      conv => whnf
      refine ⟨⟨by rw [hlen, hel]; simp; omega, by decide⟩, ?_⟩
      repeat ((conv => whnf); first | apply qza | apply qzb | apply qzc | apply qzd | apply qze | intro (_ : Nat) | intro (_ : Option Addr) (_ : Nat))
      conv => whnf
      refine fun fr w hw => ⟨(k + 1, ecs ++ [[.slice (some ⟨q2, 0, none⟩) 6 6]], g2), congrArg (fun z => [Value.int .i64 z]) (by rw [wr (show InR ((k : Int) + 1) by unfold InR; omega)]; omega), ⟨h', GW.trans hgg hg2, by rw [hT]; exact rEls_snoc (rEls_up rRow_mono hg2 hE) rfl ⟨_, rfl, hrow⟩⟩, dec h', hw.fit ?_⟩
      rw [show N - (k + 1) = N - k - 1 by omega, ← hset]
      simp [fitL, Res.eqv, concL, conc]
    have hkN : k = N := by have := of_decide_eq_false hlt; omega
    subst hkN
    repeat ((conv => whnf); first | apply qza | apply qzb | apply qzc | apply qzd | apply qze | intro (_ : Nat) | intro (_ : Option Addr) (_ : Nat))
    conv => whnf
    refine fun g2 hg2 hn2 hp2 => ?_
    rw [Nat.sub_self, rowK_done] at hp2
    have hSl := rEls_sl (rEls_up rRow_mono hg2 hE) hp2 (by simp [zCounts])
    repeat ((conv => whnf); first | apply qza | apply qzb | apply qzc | apply qzd | apply qze | intro (_ : Nat) | intro (_ : Option Addr) (_ : Nat))
    conv => whnf
    intro g2 hg
    exact .inl ⟨⟨by omega, by omega⟩, _, _, rfl, hSl.mono rRow_mono hg⟩)
end Go.Proofs.Ytkkhdnddplkobaa

