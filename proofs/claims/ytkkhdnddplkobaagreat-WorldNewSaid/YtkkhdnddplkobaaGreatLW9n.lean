/- Worlds: those that are the same are found the same. -/
import Derived.Test.YtkkhdnddplkobaaGreatLW9h
import Derived.Test.YtkkhdnddplkobaaGreatPl
namespace Go.Proofs.YtkkhdnddplkobaaGreat
open Go.Proofs.YtkkhdnddplkobaaGreat.Sx Go.RowKit
theorem ok_sameInts (g : GW) {v v' : Value} {l : List Int} (hl : rSl 1 rInt g v l) (hl' : rSl 1 rInt g v' l) : OkV Tryz.prog n_hydrantref18_sameInts [v, v'] g (.bool true) :=
  Ok.of_fn hm noT 0 t_hydrantref18_sameInts (args := [.v v, .v v']) (by
    obtain ⟨oa, ca, rfl, a1, a2, a0, ha⟩ := hl
    obtain ⟨ob, cb, rfl, b1, b2, b0, hb⟩ := hl'
    repeat ((conv => whnf); first | apply qza | apply qzb | apply qzc | apply qzd | apply qze | intro (_ : Nat) | intro (_ : Option Addr) (_ : Nat))
    conv => whnf
    refine ⟨fun hx => absurd hx (by simp), fun _ => ?_⟩
    repeat ((conv => whnf); first | apply qza | apply qzb | apply qzc | apply qzd | apply qze | intro (_ : Nat) | intro (_ : Option Addr) (_ : Nat))
    conv => whnf
    refine ⟨Nat, fun k => [.v (.int .i64 k)], fun _ => ⟨g, _, _, _⟩, fun k => k ≤ l.length, fun k => l.length - k, loop_here 0 rfl (Nat.zero_le _) rfl, ?_⟩
    intro k hk
    repeat ((conv => whnf); first | apply qza | apply qzb | apply qzc | apply qzd | apply qze | intro (_ : Nat) | intro (_ : Option Addr) (_ : Nat))
    conv => whnf
    refine ⟨fun hlt => ?_, fun hlt => ?_⟩
    · have h' : k < l.length := by have := of_decide_eq_true hlt; omega
      obtain ⟨x, hx⟩ := getL_of h'
      obtain ⟨a, rfl, ec, hec, ⟨rfl, _⟩, hc⟩ := ha k x hx
      obtain ⟨b, rfl, ec', hec', ⟨rfl, _⟩, hc'⟩ := hb k x hx
      repeat ((conv => whnf); first | apply qza | apply qzb | apply qzc | apply qzd | apply qze | intro (_ : Nat) | intro (_ : Option Addr) (_ : Nat))
      conv => whnf
      refine ⟨a, rfl, ⟨by omega, by omega⟩, ?_⟩
      conv => whnf
      refine ⟨_, hc 0 _ rfl, ?_⟩
      repeat ((conv => whnf); first | apply qza | apply qzb | apply qzc | apply qzd | apply qze | intro (_ : Nat) | intro (_ : Option Addr) (_ : Nat))
      conv => whnf
      refine ⟨b, rfl, ⟨by omega, by omega⟩, ?_⟩
      conv => whnf
      refine ⟨_, hc' 0 _ rfl, ?_⟩
      repeat ((conv => whnf); first | apply qza | apply qzb | apply qzc | apply qzd | apply qze | intro (_ : Nat) | intro (_ : Option Addr) (_ : Nat))
      conv => whnf
      refine ⟨fun hx => absurd hx (by simp), fun _ => ?_⟩
      repeat ((conv => whnf); first | apply qza | apply qzb | apply qzc | apply qzd | apply qze | intro (_ : Nat) | intro (_ : Option Addr) (_ : Nat))
      conv => whnf
      refine fun fr w hw => ⟨k + 1, congrArg (fun z => [Value.int .i64 z]) (wr1 h' a1 a2).symm, h', dec h', ?_⟩
      exact hw.fit (by simp [fitL, Res.eqv, concL, conc])
    · repeat ((conv => whnf); first | apply qza | apply qzb | apply qzc | apply qzd | apply qze | intro (_ : Nat) | intro (_ : Option Addr) (_ : Nat))
      conv => whnf
      intro g2 hg
      rfl)
theorem ok_sameLimbo (g : GW) {v v' : Value} {l : List Retired} (hl : rSl 3 rRetired g v l) (hl' : rSl 3 rRetired g v' l) : OkV Tryz.prog n_hydrantref16_Same [v, v'] g (.bool true) :=
  Ok.of_fn hm noT 0 t_hydrantref16_Same (args := [.v v, .v v']) (by
    obtain ⟨oa, ca, rfl, a1, a2, a0, ha⟩ := hl
    obtain ⟨ob, cb, rfl, b1, b2, b0, hb⟩ := hl'
    repeat ((conv => whnf); first | apply qza | apply qzb | apply qzc | apply qzd | apply qze | intro (_ : Nat) | intro (_ : Option Addr) (_ : Nat))
    conv => whnf
    refine ⟨fun hx => absurd hx (by simp), fun _ => ?_⟩
    repeat ((conv => whnf); first | apply qza | apply qzb | apply qzc | apply qzd | apply qze | intro (_ : Nat) | intro (_ : Option Addr) (_ : Nat))
    conv => whnf
    refine ⟨Nat, fun k => [.v (.int .i64 k)], fun _ => ⟨g, _, _, _⟩, fun k => k ≤ l.length, fun k => l.length - k, loop_here 0 rfl (Nat.zero_le _) rfl, ?_⟩
    intro k hk
    repeat ((conv => whnf); first | apply qza | apply qzb | apply qzc | apply qzd | apply qze | intro (_ : Nat) | intro (_ : Option Addr) (_ : Nat))
    conv => whnf
    refine ⟨fun hlt => ?_, fun hlt => ?_⟩
    · have h' : k < l.length := by have := of_decide_eq_true hlt; omega
      obtain ⟨x, hx⟩ := getL_of h'
      obtain ⟨a, rfl, ec, hec, ⟨rfl, _⟩, hc⟩ := ha k x hx
      obtain ⟨b, rfl, ec', hec', ⟨rfl, _⟩, hc'⟩ := hb k x hx
      repeat ((conv => whnf); first | apply qza | apply qzb | apply qzc | apply qzd | apply qze | intro (_ : Nat) | intro (_ : Option Addr) (_ : Nat))
      conv => whnf
      refine ⟨a, rfl, ⟨by omega, by omega⟩, ?_⟩
      conv => whnf
      refine ⟨_, ⟨rfl, hc⟩, ?_⟩
      repeat ((conv => whnf); first | apply qza | apply qzb | apply qzc | apply qzd | apply qze | intro (_ : Nat) | intro (_ : Option Addr) (_ : Nat))
      conv => whnf
      refine ⟨b, rfl, ⟨by omega, by omega⟩, ?_⟩
      conv => whnf
      refine ⟨_, ⟨rfl, hc'⟩, ?_⟩
      repeat ((conv => whnf); first | apply qza | apply qzb | apply qzc | apply qzd | apply qze | intro (_ : Nat) | intro (_ : Option Addr) (_ : Nat))
      conv => whnf
      refine ⟨fun hx => absurd hx (by simp), fun _ => ?_⟩
      repeat ((conv => whnf); first | apply qza | apply qzb | apply qzc | apply qzd | apply qze | intro (_ : Nat) | intro (_ : Option Addr) (_ : Nat))
      conv => whnf
      refine fun fr w hw => ⟨k + 1, congrArg (fun z => [Value.int .i64 z]) (wr1 h' a1 a2).symm, h', dec h', ?_⟩
      exact hw.fit (by simp [fitL, Res.eqv, concL, conc])
    · repeat ((conv => whnf); first | apply qza | apply qzb | apply qzc | apply qzd | apply qze | intro (_ : Nat) | intro (_ : Option Addr) (_ : Nat))
      conv => whnf
      intro g2 hg
      rfl)
theorem ok_sameCounts (g : GW) {v v' : Value} {l : List (List Int)} (hl : rSl 1 rRow g v l) (hl' : rSl 1 rRow g v' l) : OkV Tryz.prog n_hydrantref11_Same [v, v'] g (.bool true) :=
  Ok.of_fn hm noT 0 t_hydrantref11_Same (args := [.v v, .v v']) (by
    obtain ⟨oa, ca, rfl, a1, a2, a0, ha⟩ := hl
    obtain ⟨ob, cb, rfl, b1, b2, b0, hb⟩ := hl'
    repeat ((conv => whnf); first | apply qza | apply qzb | apply qzc | apply qzd | apply qze | intro (_ : Nat) | intro (_ : Option Addr) (_ : Nat))
    conv => whnf
    refine ⟨fun hx => absurd hx (by simp), fun _ => ?_⟩
    repeat ((conv => whnf); first | apply qza | apply qzb | apply qzc | apply qzd | apply qze | intro (_ : Nat) | intro (_ : Option Addr) (_ : Nat))
    conv => whnf
    refine ⟨Nat, fun k => [.v (.int .i64 k)], fun _ => ⟨g, _, _, _⟩, fun k => k ≤ l.length, fun k => l.length - k, loop_here 0 rfl (Nat.zero_le _) rfl, ?_⟩
    intro k hk
    repeat ((conv => whnf); first | apply qza | apply qzb | apply qzc | apply qzd | apply qze | intro (_ : Nat) | intro (_ : Option Addr) (_ : Nat))
    conv => whnf
    refine ⟨fun hlt => ?_, fun hlt => ?_⟩
    · have h' : k < l.length := by have := of_decide_eq_true hlt; omega
      obtain ⟨x, hx⟩ := getL_of h'
      obtain ⟨a, rfl, ec, hec, ⟨n, rfl, hn⟩, hc⟩ := ha k x hx
      obtain ⟨b, rfl, ec', hec', ⟨n', rfl, hn'⟩, hc'⟩ := hb k x hx
      obtain ⟨oc, cc, rfl, c1, c2, c0, hn1⟩ := hn
      obtain ⟨od, cd, rfl, d1, d2, d0, hn1'⟩ := hn'
      repeat ((conv => whnf); first | apply qza | apply qzb | apply qzc | apply qzd | apply qze | intro (_ : Nat) | intro (_ : Option Addr) (_ : Nat))
      conv => whnf
      refine ⟨a, rfl, ⟨by omega, by omega⟩, ?_⟩
      conv => whnf
      refine ⟨_, hc 0 _ rfl, ?_⟩
      repeat ((conv => whnf); first | apply qza | apply qzb | apply qzc | apply qzd | apply qze | intro (_ : Nat) | intro (_ : Option Addr) (_ : Nat))
      conv => whnf
      refine ⟨b, rfl, ⟨by omega, by omega⟩, ?_⟩
      conv => whnf
      refine ⟨_, hc' 0 _ rfl, ?_⟩
      repeat ((conv => whnf); first | apply qza | apply qzb | apply qzc | apply qzd | apply qze | intro (_ : Nat) | intro (_ : Option Addr) (_ : Nat))
      conv => whnf
      refine ⟨fun hx => absurd hx (by simp), fun _ => ?_⟩
      repeat ((conv => whnf); first | apply qza | apply qzb | apply qzc | apply qzd | apply qze | intro (_ : Nat) | intro (_ : Option Addr) (_ : Nat))
      conv => whnf
      refine ⟨Nat, fun n => [.v (.int .i64 n)], fun _ => ⟨g, _, _, _⟩, fun n => n ≤ x.length, fun n => x.length - n, loop_here 0 rfl (Nat.zero_le _) rfl, ?_⟩
      intro n hn
      repeat ((conv => whnf); first | apply qza | apply qzb | apply qzc | apply qzd | apply qze | intro (_ : Nat) | intro (_ : Option Addr) (_ : Nat))
      conv => whnf
      refine ⟨a, rfl, ⟨by omega, by omega⟩, ?_⟩
      conv => whnf
      refine ⟨_, hc 0 _ rfl, ?_⟩
      repeat ((conv => whnf); first | apply qza | apply qzb | apply qzc | apply qzd | apply qze | intro (_ : Nat) | intro (_ : Option Addr) (_ : Nat))
      conv => whnf
      refine ⟨fun hln => ?_, fun hln => ?_⟩
      · have h2 : n < x.length := by have := of_decide_eq_true hln; omega
        obtain ⟨y, hy⟩ := getL_of h2
        obtain ⟨a3, rfl, ec3, hec3, ⟨rfl, _⟩, hc3⟩ := hn1 n y hy
        obtain ⟨b3, rfl, ec4, hec4, ⟨rfl, _⟩, hc4⟩ := hn1' n y hy
        repeat ((conv => whnf); first | apply qza | apply qzb | apply qzc | apply qzd | apply qze | intro (_ : Nat) | intro (_ : Option Addr) (_ : Nat))
        conv => whnf
        refine ⟨a, rfl, ⟨by omega, by omega⟩, ?_⟩
        conv => whnf
        refine ⟨_, hc 0 _ rfl, ?_⟩
        repeat ((conv => whnf); first | apply qza | apply qzb | apply qzc | apply qzd | apply qze | intro (_ : Nat) | intro (_ : Option Addr) (_ : Nat))
        conv => whnf
        refine ⟨a3, rfl, ⟨by omega, by omega⟩, ?_⟩
        conv => whnf
        refine ⟨_, hc3 0 _ rfl, ?_⟩
        repeat ((conv => whnf); first | apply qza | apply qzb | apply qzc | apply qzd | apply qze | intro (_ : Nat) | intro (_ : Option Addr) (_ : Nat))
        conv => whnf
        refine ⟨b, rfl, ⟨by omega, by omega⟩, ?_⟩
        conv => whnf
        refine ⟨_, hc' 0 _ rfl, ?_⟩
        repeat ((conv => whnf); first | apply qza | apply qzb | apply qzc | apply qzd | apply qze | intro (_ : Nat) | intro (_ : Option Addr) (_ : Nat))
        conv => whnf
        refine ⟨b3, rfl, ⟨by omega, by omega⟩, ?_⟩
        conv => whnf
        refine ⟨_, hc4 0 _ rfl, ?_⟩
        repeat ((conv => whnf); first | apply qza | apply qzb | apply qzc | apply qzd | apply qze | intro (_ : Nat) | intro (_ : Option Addr) (_ : Nat))
        conv => whnf
        refine ⟨fun hx => absurd hx (by simp), fun _ => ?_⟩
        repeat ((conv => whnf); first | apply qza | apply qzb | apply qzc | apply qzd | apply qze | intro (_ : Nat) | intro (_ : Option Addr) (_ : Nat))
        conv => whnf
        refine fun fr w hw => ⟨n + 1, congrArg (fun z => [Value.int .i64 z]) (wr1 h2 c1 c2).symm, h2, dec h2, ?_⟩
        exact hw.fit (by simp [fitL, Res.eqv, concL, conc])
      · repeat ((conv => whnf); first | apply qza | apply qzb | apply qzc | apply qzd | apply qze | intro (_ : Nat) | intro (_ : Option Addr) (_ : Nat))
        conv => whnf
        refine fun fr w hw => ⟨k + 1, congrArg (fun z => [Value.int .i64 z]) (wr1 h' a1 a2).symm, h', dec h', ?_⟩
        exact hw.fit (by simp [fitL, Res.eqv, concL, conc])
    · repeat ((conv => whnf); first | apply qza | apply qzb | apply qzc | apply qzd | apply qze | intro (_ : Nat) | intro (_ : Option Addr) (_ : Nat))
      conv => whnf
      intro g2 hg
      rfl)
theorem ok_sameEnd (g : GW) {cs cs' : List Value} {x : EndC} (hx : rEn g cs x) (hx' : rEn g cs' x) : OkV Tryz.prog n_hydrantref14_Same [.agg ⟨cs⟩, .agg ⟨cs'⟩] g (.bool true) := by
  obtain ⟨⟨n, rfl, _, _, hn⟩, _⟩ := hx
  obtain ⟨⟨n', rfl, _, _, hn'⟩, _⟩ := hx'
  obtain ⟨oa, ca, rfl, a1, a2, a0, ha⟩ := hn
  obtain ⟨ob, cb, rfl, b1, b2, b0, hb⟩ := hn'
  exact Ok.of_fn hm noT 0 t_hydrantref14_Same (args := [.v (.agg ⟨[.int .u64 x.head, .slice oa x.next.length ca, .int .i64 x.active]⟩), .v (.agg ⟨[.int .u64 x.head, .slice ob x.next.length cb, .int .i64 x.active]⟩)]) (by
    repeat ((conv => whnf); first | apply qza | apply qzb | apply qzc | apply qzd | apply qze | intro (_ : Nat) | intro (_ : Option Addr) (_ : Nat))
    conv => whnf
    refine ⟨fun hx => absurd hx (by simp), fun _ => ?_⟩
    repeat ((conv => whnf); first | apply qza | apply qzb | apply qzc | apply qzd | apply qze | intro (_ : Nat) | intro (_ : Option Addr) (_ : Nat))
    conv => whnf
    refine ⟨fun hx => absurd hx (by simp), fun _ => ?_⟩
    repeat ((conv => whnf); first | apply qza | apply qzb | apply qzc | apply qzd | apply qze | intro (_ : Nat) | intro (_ : Option Addr) (_ : Nat))
    conv => whnf
    refine ⟨fun hx => absurd hx (by simp), fun _ => ?_⟩
    repeat ((conv => whnf); first | apply qza | apply qzb | apply qzc | apply qzd | apply qze | intro (_ : Nat) | intro (_ : Option Addr) (_ : Nat))
    conv => whnf
    refine ⟨Nat, fun k => [.v (.int .i64 k)], fun _ => ⟨g, _, _, _⟩, fun k => k ≤ x.next.length, fun k => x.next.length - k, loop_here 0 rfl (Nat.zero_le _) rfl, ?_⟩
    intro k hk
    repeat ((conv => whnf); first | apply qza | apply qzb | apply qzc | apply qzd | apply qze | intro (_ : Nat) | intro (_ : Option Addr) (_ : Nat))
    conv => whnf
    refine ⟨fun hlt => ?_, fun hlt => ?_⟩
    · have h' : k < x.next.length := by have := of_decide_eq_true hlt; omega
      obtain ⟨y, hy⟩ := getL_of h'
      obtain ⟨a, rfl, ec, hec, ⟨rfl, _⟩, hc⟩ := ha k y hy
      obtain ⟨b, rfl, ec', hec', ⟨rfl, _⟩, hc'⟩ := hb k y hy
      repeat ((conv => whnf); first | apply qza | apply qzb | apply qzc | apply qzd | apply qze | intro (_ : Nat) | intro (_ : Option Addr) (_ : Nat))
      conv => whnf
      refine ⟨a, rfl, ⟨by omega, by omega⟩, ?_⟩
      conv => whnf
      refine ⟨_, hc 0 _ rfl, ?_⟩
      repeat ((conv => whnf); first | apply qza | apply qzb | apply qzc | apply qzd | apply qze | intro (_ : Nat) | intro (_ : Option Addr) (_ : Nat))
      conv => whnf
      refine ⟨b, rfl, ⟨by omega, by omega⟩, ?_⟩
      conv => whnf
      refine ⟨_, hc' 0 _ rfl, ?_⟩
      repeat ((conv => whnf); first | apply qza | apply qzb | apply qzc | apply qzd | apply qze | intro (_ : Nat) | intro (_ : Option Addr) (_ : Nat))
      conv => whnf
      refine ⟨fun hx => absurd hx (by simp), fun _ => ?_⟩
      repeat ((conv => whnf); first | apply qza | apply qzb | apply qzc | apply qzd | apply qze | intro (_ : Nat) | intro (_ : Option Addr) (_ : Nat))
      conv => whnf
      refine fun fr w hw => ⟨k + 1, congrArg (fun z => [Value.int .i64 z]) (wr1 h' a1 a2).symm, h', dec h', ?_⟩
      exact hw.fit (by simp [fitL, Res.eqv, concL, conc])
    · repeat ((conv => whnf); first | apply qza | apply qzb | apply qzc | apply qzd | apply qze | intro (_ : Nat) | intro (_ : Option Addr) (_ : Nat))
      conv => whnf
      intro g2 hg
      rfl)
theorem ok_sameVersion (g : GW) {cs cs' : List Value} {x : Version} (hx : rVe g cs x) (hx' : rVe g cs' x) : OkV Tryz.prog n_hydrantref18_SameVersions [.agg ⟨cs⟩, .agg ⟨cs'⟩] g (.bool true) := by
  obtain ⟨va, vb, vd, vn, rfl, hS, hG⟩ := hx
  obtain ⟨va', vb', vd', vn', rfl, hS', hG'⟩ := hx'
  have hS0 := hS
  have hS0' := hS'
  obtain ⟨_, _, _, he, ⟨sa, ta, rfl, _⟩, ⟨sb, tb, rfl, _⟩, ⟨sd, td, rfl, _⟩⟩ := hS
  cases he
  obtain ⟨_, _, _, he, ⟨sa', ta', rfl, _⟩, ⟨sb', tb', rfl, _⟩, ⟨sd', td', rfl, _⟩⟩ := hS'
  cases he
  obtain ⟨oa, ca, rfl, a1, a2, a0, ha⟩ := hG
  obtain ⟨ob, cb, rfl, b1, b2, b0, hb⟩ := hG'
  exact Ok.of_fn hm noT 0 t_hydrantref18_SameVersions (args := [.v (.agg ⟨[.slice sa x.snap.listens.length ta, .slice sb x.snap.rules.length tb, .slice sd x.snap.clusters.length td, .slice oa x.groups.length ca, .bool x.freed]⟩), .v (.agg ⟨[.slice sa' x.snap.listens.length ta', .slice sb' x.snap.rules.length tb', .slice sd' x.snap.clusters.length td', .slice ob x.groups.length cb, .bool x.freed]⟩)]) (by
    repeat ((conv => whnf); first | apply qza | apply qzb | apply qzc | apply qzd | apply qze | intro (_ : Nat) | intro (_ : Option Addr) (_ : Nat))
    conv => whnf
    refine .inl ⟨_, (ok_Same _ hS0 hS0').to (congrArg Value.bool (eqB_t rfl)), ?_⟩
    repeat ((conv => whnf); first | apply qza | apply qzb | apply qzc | apply qzd | apply qze | intro (_ : Nat) | intro (_ : Option Addr) (_ : Nat))
    conv => whnf
    refine ⟨fun h => (nomatch h), fun _ => ?_⟩
    repeat ((conv => whnf); first | apply qza | apply qzb | apply qzc | apply qzd | apply qze | intro (_ : Nat) | intro (_ : Option Addr) (_ : Nat))
    conv => whnf
    refine ⟨fun hx => absurd hx (by simp), fun _ => ?_⟩
    repeat ((conv => whnf); first | apply qza | apply qzb | apply qzc | apply qzd | apply qze | intro (_ : Nat) | intro (_ : Option Addr) (_ : Nat))
    conv => whnf
    refine ⟨fun hx => absurd hx (by simp), fun _ => ?_⟩
    repeat ((conv => whnf); first | apply qza | apply qzb | apply qzc | apply qzd | apply qze | intro (_ : Nat) | intro (_ : Option Addr) (_ : Nat))
    conv => whnf
    refine ⟨Nat, fun k => [.v (.int .i64 k)], fun _ => ⟨g, _, _, _⟩, fun k => k ≤ x.groups.length, fun k => x.groups.length - k, loop_here 0 rfl (Nat.zero_le _) rfl, ?_⟩
    intro k hk
    repeat ((conv => whnf); first | apply qza | apply qzb | apply qzc | apply qzd | apply qze | intro (_ : Nat) | intro (_ : Option Addr) (_ : Nat))
    conv => whnf
    refine ⟨fun hlt => ?_, fun hlt => ?_⟩
    · have h' : k < x.groups.length := by have := of_decide_eq_true hlt; omega
      obtain ⟨y, hy⟩ := getL_of h'
      obtain ⟨a, rfl, ec, hec, ⟨n, rfl, _, hn⟩, hc⟩ := ha k y hy
      obtain ⟨b, rfl, ec', hec', ⟨n', rfl, _, hn'⟩, hc'⟩ := hb k y hy
      obtain ⟨oc, cc, rfl, c1, c2, c0, hn1⟩ := hn
      obtain ⟨od, cd, rfl, d1, d2, d0, hn1'⟩ := hn'
      repeat ((conv => whnf); first | apply qza | apply qzb | apply qzc | apply qzd | apply qze | intro (_ : Nat) | intro (_ : Option Addr) (_ : Nat))
      conv => whnf
      refine ⟨a, rfl, ⟨by omega, by omega⟩, ?_⟩
      conv => whnf
      refine ⟨_, hc 0 _ rfl, ?_⟩
      repeat ((conv => whnf); first | apply qza | apply qzb | apply qzc | apply qzd | apply qze | intro (_ : Nat) | intro (_ : Option Addr) (_ : Nat))
      conv => whnf
      refine ⟨b, rfl, ⟨by omega, by omega⟩, ?_⟩
      conv => whnf
      refine ⟨_, hc' 0 _ rfl, ?_⟩
      repeat ((conv => whnf); first | apply qza | apply qzb | apply qzc | apply qzd | apply qze | intro (_ : Nat) | intro (_ : Option Addr) (_ : Nat))
      conv => whnf
      refine ⟨fun hx => absurd hx (by simp), fun _ => ?_⟩
      repeat ((conv => whnf); first | apply qza | apply qzb | apply qzc | apply qzd | apply qze | intro (_ : Nat) | intro (_ : Option Addr) (_ : Nat))
      conv => whnf
      refine ⟨a, rfl, ⟨by omega, by omega⟩, ?_⟩
      conv => whnf
      refine ⟨_, hc 1 _ rfl, ?_⟩
      repeat ((conv => whnf); first | apply qza | apply qzb | apply qzc | apply qzd | apply qze | intro (_ : Nat) | intro (_ : Option Addr) (_ : Nat))
      conv => whnf
      refine ⟨b, rfl, ⟨by omega, by omega⟩, ?_⟩
      conv => whnf
      refine ⟨_, hc' 1 _ rfl, ?_⟩
      repeat ((conv => whnf); first | apply qza | apply qzb | apply qzc | apply qzd | apply qze | intro (_ : Nat) | intro (_ : Option Addr) (_ : Nat))
      conv => whnf
      refine ⟨fun hx => absurd hx (by simp), fun _ => ?_⟩
      repeat ((conv => whnf); first | apply qza | apply qzb | apply qzc | apply qzd | apply qze | intro (_ : Nat) | intro (_ : Option Addr) (_ : Nat))
      conv => whnf
      refine ⟨Nat, fun n => [.v (.int .i64 n)], fun _ => ⟨g, _, _, _⟩, fun n => n ≤ y.ends.length, fun n => y.ends.length - n, loop_here 0 rfl (Nat.zero_le _) rfl, ?_⟩
      intro n hn
      repeat ((conv => whnf); first | apply qza | apply qzb | apply qzc | apply qzd | apply qze | intro (_ : Nat) | intro (_ : Option Addr) (_ : Nat))
      conv => whnf
      refine ⟨a, rfl, ⟨by omega, by omega⟩, ?_⟩
      conv => whnf
      refine ⟨_, hc 1 _ rfl, ?_⟩
      repeat ((conv => whnf); first | apply qza | apply qzb | apply qzc | apply qzd | apply qze | intro (_ : Nat) | intro (_ : Option Addr) (_ : Nat))
      conv => whnf
      refine ⟨fun hln => ?_, fun hln => ?_⟩
      · have h2 : n < y.ends.length := by have := of_decide_eq_true hln; omega
        obtain ⟨z, hz⟩ := getL_of h2
        obtain ⟨a3, rfl, ec3, hec3, hz3, hc3⟩ := hn1 n z hz
        obtain ⟨b3, rfl, ec4, hec4, hz4, hc4⟩ := hn1' n z hz
        have hz30 := hz3
        have hz40 := hz4
        obtain ⟨⟨m, rfl, _, _, ⟨om, cm, rfl, _⟩⟩, _⟩ := hz3
        obtain ⟨⟨m', rfl, _, _, ⟨om', cm', rfl, _⟩⟩, _⟩ := hz4
        repeat ((conv => whnf); first | apply qza | apply qzb | apply qzc | apply qzd | apply qze | intro (_ : Nat) | intro (_ : Option Addr) (_ : Nat))
        conv => whnf
        refine ⟨a, rfl, ⟨by omega, by omega⟩, ?_⟩
        conv => whnf
        refine ⟨_, hc 1 _ rfl, ?_⟩
        repeat ((conv => whnf); first | apply qza | apply qzb | apply qzc | apply qzd | apply qze | intro (_ : Nat) | intro (_ : Option Addr) (_ : Nat))
        conv => whnf
        refine ⟨a3, rfl, ⟨by omega, by omega⟩, ?_⟩
        conv => whnf
        refine ⟨_, ⟨rfl, hc3⟩, ?_⟩
        repeat ((conv => whnf); first | apply qza | apply qzb | apply qzc | apply qzd | apply qze | intro (_ : Nat) | intro (_ : Option Addr) (_ : Nat))
        conv => whnf
        refine ⟨b, rfl, ⟨by omega, by omega⟩, ?_⟩
        conv => whnf
        refine ⟨_, hc' 1 _ rfl, ?_⟩
        repeat ((conv => whnf); first | apply qza | apply qzb | apply qzc | apply qzd | apply qze | intro (_ : Nat) | intro (_ : Option Addr) (_ : Nat))
        conv => whnf
        refine ⟨b3, rfl, ⟨by omega, by omega⟩, ?_⟩
        conv => whnf
        refine ⟨_, ⟨rfl, hc4⟩, ?_⟩
        repeat ((conv => whnf); first | apply qza | apply qzb | apply qzc | apply qzd | apply qze | intro (_ : Nat) | intro (_ : Option Addr) (_ : Nat))
        conv => whnf
        refine .inl ⟨_, ok_sameEnd _ hz30 hz40, ?_⟩
        repeat ((conv => whnf); first | apply qza | apply qzb | apply qzc | apply qzd | apply qze | intro (_ : Nat) | intro (_ : Option Addr) (_ : Nat))
        conv => whnf
        refine ⟨fun h => (nomatch h), fun _ => ?_⟩
        repeat ((conv => whnf); first | apply qza | apply qzb | apply qzc | apply qzd | apply qze | intro (_ : Nat) | intro (_ : Option Addr) (_ : Nat))
        conv => whnf
        refine fun fr w hw => ⟨n + 1, congrArg (fun z => [Value.int .i64 z]) (wr1 h2 c1 c2).symm, h2, dec h2, ?_⟩
        exact hw.fit (by simp [fitL, Res.eqv, concL, conc])
      · repeat ((conv => whnf); first | apply qza | apply qzb | apply qzc | apply qzd | apply qze | intro (_ : Nat) | intro (_ : Option Addr) (_ : Nat))
        conv => whnf
        refine fun fr w hw => ⟨k + 1, congrArg (fun z => [Value.int .i64 z]) (wr1 h' a1 a2).symm, h', dec h', ?_⟩
        exact hw.fit (by simp [fitL, Res.eqv, concL, conc])
    · repeat ((conv => whnf); first | apply qza | apply qzb | apply qzc | apply qzd | apply qze | intro (_ : Nat) | intro (_ : Option Addr) (_ : Nat))
      conv => whnf
      intro g2 hg
      rfl)
theorem ok_sameW (g : GW) {cs cs' : List Value} {w : Wd} (hw : rWo g cs w) (hw' : rWo g cs' w) : OkV Tryz.prog n_hydrantref18_Same [.agg ⟨cs⟩, .agg ⟨cs'⟩] g (.bool true) := by
  obtain ⟨a, b, c, d, e, rfl, _, hP, hV, hL, hC, hR⟩ := hw
  obtain ⟨a', b', c', d', e', rfl, _, hP', hV', hL', hC', hR'⟩ := hw'
  obtain ⟨oa, ca, rfl, _⟩ := id hP
  obtain ⟨ob, cb, rfl, b1, b2, b0, hV1⟩ := id hV
  obtain ⟨oc, cc, rfl, c1, c2, c0, hL1⟩ := id hL
  obtain ⟨od, cd, rfl, _⟩ := id hC
  obtain ⟨oe, ce, rfl, _⟩ := id hR
  obtain ⟨oa', ca', rfl, _⟩ := id hP'
  obtain ⟨ob', cb', rfl, b1', b2', b0', hV1'⟩ := id hV'
  obtain ⟨oc', cc', rfl, c1', c2', c0', hL1'⟩ := id hL'
  obtain ⟨od', cd', rfl, _⟩ := id hC'
  obtain ⟨oe', ce', rfl, _⟩ := id hR'
  exact Ok.of_fn hm noT 0 t_hydrantref18_Same (args := [.v (.agg ⟨[.int .i64 w.epoch, .int .i64 w.current, .int .i64 w.lock, .slice oa w.pins.length ca, .slice ob w.versions.length cb, .slice oc w.listens.length cc, .slice od w.counts.length cd, .slice oe w.limbo.length ce]⟩), .v (.agg ⟨[.int .i64 w.epoch, .int .i64 w.current, .int .i64 w.lock, .slice oa' w.pins.length ca', .slice ob' w.versions.length cb', .slice oc' w.listens.length cc', .slice od' w.counts.length cd', .slice oe' w.limbo.length ce']⟩)]) (by
    repeat ((conv => whnf); first | apply qza | apply qzb | apply qzc | apply qzd | apply qze | intro (_ : Nat) | intro (_ : Option Addr) (_ : Nat))
    conv => whnf
    refine ⟨fun hx => absurd hx (by simp), fun _ => ?_⟩
    repeat ((conv => whnf); first | apply qza | apply qzb | apply qzc | apply qzd | apply qze | intro (_ : Nat) | intro (_ : Option Addr) (_ : Nat))
    conv => whnf
    refine ⟨fun hx => absurd hx (by simp), fun _ => ?_⟩
    repeat ((conv => whnf); first | apply qza | apply qzb | apply qzc | apply qzd | apply qze | intro (_ : Nat) | intro (_ : Option Addr) (_ : Nat))
    conv => whnf
    refine ⟨fun hx => absurd hx (by simp), fun _ => ?_⟩
    repeat ((conv => whnf); first | apply qza | apply qzb | apply qzc | apply qzd | apply qze | intro (_ : Nat) | intro (_ : Option Addr) (_ : Nat))
    conv => whnf
    refine .inl ⟨_, ok_sameInts _ hP hP', ?_⟩
    repeat ((conv => whnf); first | apply qza | apply qzb | apply qzc | apply qzd | apply qze | intro (_ : Nat) | intro (_ : Option Addr) (_ : Nat))
    conv => whnf
    refine ⟨fun h => (nomatch h), fun _ => ?_⟩
    repeat ((conv => whnf); first | apply qza | apply qzb | apply qzc | apply qzd | apply qze | intro (_ : Nat) | intro (_ : Option Addr) (_ : Nat))
    conv => whnf
    refine ⟨fun hx => absurd hx (by simp), fun _ => ?_⟩
    repeat ((conv => whnf); first | apply qza | apply qzb | apply qzc | apply qzd | apply qze | intro (_ : Nat) | intro (_ : Option Addr) (_ : Nat))
    conv => whnf
    refine ⟨fun hx => absurd hx (by simp), fun _ => ?_⟩
    repeat ((conv => whnf); first | apply qza | apply qzb | apply qzc | apply qzd | apply qze | intro (_ : Nat) | intro (_ : Option Addr) (_ : Nat))
    conv => whnf
    refine .inl ⟨_, ok_sameCounts _ hC hC', ?_⟩
    repeat ((conv => whnf); first | apply qza | apply qzb | apply qzc | apply qzd | apply qze | intro (_ : Nat) | intro (_ : Option Addr) (_ : Nat))
    conv => whnf
    refine ⟨fun h => (nomatch h), fun _ => ?_⟩
    repeat ((conv => whnf); first | apply qza | apply qzb | apply qzc | apply qzd | apply qze | intro (_ : Nat) | intro (_ : Option Addr) (_ : Nat))
    conv => whnf
    refine .inl ⟨_, ok_sameLimbo _ hR hR', ?_⟩
    repeat ((conv => whnf); first | apply qza | apply qzb | apply qzc | apply qzd | apply qze | intro (_ : Nat) | intro (_ : Option Addr) (_ : Nat))
    conv => whnf
    refine ⟨fun h => (nomatch h), fun _ => ?_⟩
    repeat ((conv => whnf); first | apply qza | apply qzb | apply qzc | apply qzd | apply qze | intro (_ : Nat) | intro (_ : Option Addr) (_ : Nat))
    conv => whnf
    refine ⟨Nat, fun k => [.v (.int .i64 k)], fun _ => ⟨g, _, _, _⟩, fun k => k ≤ w.versions.length, fun k => w.versions.length - k, loop_here 0 rfl (Nat.zero_le _) rfl, ?_⟩
    intro k hk
    repeat ((conv => whnf); first | apply qza | apply qzb | apply qzc | apply qzd | apply qze | intro (_ : Nat) | intro (_ : Option Addr) (_ : Nat))
    conv => whnf
    refine ⟨fun hlt => ?_, fun hlt => ?_⟩
    · have h' : k < w.versions.length := by have := of_decide_eq_true hlt; omega
      obtain ⟨x, hx⟩ := getL_of h'
      obtain ⟨a, rfl, ec, hec, hxe, hc⟩ := hV1 k x hx
      obtain ⟨b, rfl, ec', hec', hxe', hc'⟩ := hV1' k x hx
      have h10 := hxe
      have h20 := hxe'
      obtain ⟨va, vb, vd, vn, rfl, ⟨_, _, _, he, ⟨sa, ta, rfl, _⟩, ⟨sb, tb, rfl, _⟩, ⟨sd, td, rfl, _⟩⟩, ⟨sn, tn, rfl, _⟩⟩ := hxe
      cases he
      obtain ⟨va', vb', vd', vn', rfl, ⟨_, _, _, he, ⟨sa', ta', rfl, _⟩, ⟨sb', tb', rfl, _⟩, ⟨sd', td', rfl, _⟩⟩, ⟨sn', tn', rfl, _⟩⟩ := hxe'
      cases he
      repeat ((conv => whnf); first | apply qza | apply qzb | apply qzc | apply qzd | apply qze | intro (_ : Nat) | intro (_ : Option Addr) (_ : Nat))
      conv => whnf
      refine ⟨a, rfl, ⟨by omega, by omega⟩, ?_⟩
      conv => whnf
      refine ⟨_, ⟨rfl, hc⟩, ?_⟩
      repeat ((conv => whnf); first | apply qza | apply qzb | apply qzc | apply qzd | apply qze | intro (_ : Nat) | intro (_ : Option Addr) (_ : Nat))
      conv => whnf
      refine ⟨b, rfl, ⟨by omega, by omega⟩, ?_⟩
      conv => whnf
      refine ⟨_, ⟨rfl, hc'⟩, ?_⟩
      repeat ((conv => whnf); first | apply qza | apply qzb | apply qzc | apply qzd | apply qze | intro (_ : Nat) | intro (_ : Option Addr) (_ : Nat))
      conv => whnf
      refine .inl ⟨_, ok_sameVersion _ h10 h20, ?_⟩
      repeat ((conv => whnf); first | apply qza | apply qzb | apply qzc | apply qzd | apply qze | intro (_ : Nat) | intro (_ : Option Addr) (_ : Nat))
      conv => whnf
      refine ⟨fun h => (nomatch h), fun _ => ?_⟩
      repeat ((conv => whnf); first | apply qza | apply qzb | apply qzc | apply qzd | apply qze | intro (_ : Nat) | intro (_ : Option Addr) (_ : Nat))
      conv => whnf
      refine fun fr w' hw => ⟨k + 1, congrArg (fun z => [Value.int .i64 z]) (wr1 h' b1 b2).symm, h', dec h', ?_⟩
      exact hw.fit (by simp [fitL, Res.eqv, concL, conc])
    clear hlt hk
    repeat ((conv => whnf); first | apply qza | apply qzb | apply qzc | apply qzd | apply qze | intro (_ : Nat) | intro (_ : Option Addr) (_ : Nat))
    conv => whnf
    refine ⟨Nat, fun k => [.v (.int .i64 k)], fun _ => ⟨g, _, _, _⟩, fun k => k ≤ w.listens.length, fun k => w.listens.length - k, loop_here 0 rfl (Nat.zero_le _) rfl, ?_⟩
    intro k hk
    repeat ((conv => whnf); first | apply qza | apply qzb | apply qzc | apply qzd | apply qze | intro (_ : Nat) | intro (_ : Option Addr) (_ : Nat))
    conv => whnf
    refine ⟨fun hlt => ?_, fun hlt => ?_⟩
    · have h' : k < w.listens.length := by have := of_decide_eq_true hlt; omega
      obtain ⟨x, hx⟩ := getL_of h'
      obtain ⟨a, rfl, ec, hec, ⟨rfl, _⟩, hc⟩ := hL1 k x hx
      obtain ⟨b, rfl, ec', hec', ⟨rfl, _⟩, hc'⟩ := hL1' k x hx
      repeat ((conv => whnf); first | apply qza | apply qzb | apply qzc | apply qzd | apply qze | intro (_ : Nat) | intro (_ : Option Addr) (_ : Nat))
      conv => whnf
      refine ⟨a, rfl, ⟨by omega, by omega⟩, ?_⟩
      conv => whnf
      refine ⟨_, ⟨rfl, hc⟩, ?_⟩
      repeat ((conv => whnf); first | apply qza | apply qzb | apply qzc | apply qzd | apply qze | intro (_ : Nat) | intro (_ : Option Addr) (_ : Nat))
      conv => whnf
      refine ⟨b, rfl, ⟨by omega, by omega⟩, ?_⟩
      conv => whnf
      refine ⟨_, ⟨rfl, hc'⟩, ?_⟩
      repeat ((conv => whnf); first | apply qza | apply qzb | apply qzc | apply qzd | apply qze | intro (_ : Nat) | intro (_ : Option Addr) (_ : Nat))
      conv => whnf
      refine ⟨fun hx => absurd hx (by simp), fun _ => ?_⟩
      repeat ((conv => whnf); first | apply qza | apply qzb | apply qzc | apply qzd | apply qze | intro (_ : Nat) | intro (_ : Option Addr) (_ : Nat))
      conv => whnf
      refine fun fr w' hw => ⟨k + 1, congrArg (fun z => [Value.int .i64 z]) (wr1 h' c1 c2).symm, h', dec h', ?_⟩
      exact hw.fit (by simp [fitL, Res.eqv, concL, conc])
    repeat ((conv => whnf); first | apply qza | apply qzb | apply qzc | apply qzd | apply qze | intro (_ : Nat) | intro (_ : Option Addr) (_ : Nat))
    conv => whnf
    intro g2 hg
    rfl)
end Go.Proofs.YtkkhdnddplkobaaGreat


/- Worlds: how many slots are held. -/
namespace Go.Proofs.YtkkhdnddplkobaaGreat
open Go.Proofs.YtkkhdnddplkobaaGreat.Sx Go.RowKit
theorem sum0 {α : Type} (f : α → Int) (l : List α) (s : Int) : s + sumI f (l.take 0) = s := by simp [sumI]
set_option maxHeartbeats 4000000 in
set_option maxRecDepth 100000 in
theorem ok_Held (g : GW) {cs : List Value} {w : Wd} (hw : rWo g cs w) (hb : BgW 1000 w) : Ok Tryz.prog n_world_Held [.agg ⟨cs⟩] g fun v _ => v = .int .i64 (heldN w) := by
  obtain ⟨a, b, c, d, e, rfl, ⟨i1, i2, i3⟩, hP, hV, hL, hC, hR⟩ := hw
  obtain ⟨oa, ca, rfl, a1, a2, a0, hP1⟩ := id hP
  obtain ⟨ob, cb, rfl, b1, b2, b0, hV1⟩ := id hV
  obtain ⟨oc, cc, rfl, c1, c2, c0, hL1⟩ := id hL
  obtain ⟨od, cd, rfl, d1, d2, d0, hC1⟩ := id hC
  obtain ⟨oe, ce, rfl, e1, e2, e0, hR1⟩ := id hR
  obtain ⟨⟨_, hbv, _, _, _⟩, _, hbV⟩ := hb
  exact Ok.of_fn hm noT 0 t_world_Held (args := [.v (.agg ⟨[.int .i64 w.epoch, .int .i64 w.current, .int .i64 w.lock, .slice oa w.pins.length ca, .slice ob w.versions.length cb, .slice oc w.listens.length cc, .slice od w.counts.length cd, .slice oe w.limbo.length ce]⟩)]) (by
    repeat ((conv => whnf); first | apply qza | apply qzb | apply qzc | apply qzd | apply qze | intro (_ : Nat) | intro (_ : Option Addr) (_ : Nat))
    conv => whnf
    refine ⟨Nat × GW, fun (i, _) => [.v (.int .i64 (0 + sumI heldV (w.versions.take i))), .v (.int .i64 i)], fun (_, g') => ⟨g', _, _, _⟩, fun (i, g') => i ≤ w.versions.length ∧ g ≤ g', fun (i, _) => w.versions.length - i, loop_here (0, g) (congrArg (fun z => [Value.int .i64 z, .int .i64 0]) (sum0 _ _ _)) ⟨Nat.zero_le _, GW.refl _⟩ rfl, ?_⟩
    rintro ⟨i, g1⟩ ⟨hi, hg1⟩
    have hS := sumI_take_bd (f := heldV) (c := 4 * 1000 * 1000) (l := w.versions) (fun y hy => heldV_bd (hbV y hy)) i
    have hSl : (w.versions.take i).length ≤ 1000 := by rw [List.length_take]; omega
    repeat ((conv => whnf); first | apply qza | apply qzb | apply qzc | apply qzd | apply qze | intro (_ : Nat) | intro (_ : Option Addr) (_ : Nat))
    conv => whnf
    refine ⟨fun y1 => ?_, fun y1 => ?_⟩
    · have h' : i < w.versions.length := by have h9 : (i : Int) < w.versions.length := of_decide_eq_true y1; omega
      obtain ⟨v, hv⟩ := getL_of h'
      have hvb := hbV v (List.mem_of_getElem? hv)
      obtain ⟨ad, rfl, ec, hec, ⟨va, vb, vd, vn, rfl, hsn, hG⟩, hc⟩ := hV1 i v hv
      obtain ⟨og, cg, rfl, p1, p2, p0, hG1⟩ := id hG
      obtain ⟨_, _, _, he2, ⟨sa, ta, rfl, _⟩, ⟨sb, tb, rfl, _⟩, ⟨sd, td, rfl, _⟩⟩ := hsn
      cases he2
      repeat ((conv => whnf); first | apply qza | apply qzb | apply qzc | apply qzd | apply qze | intro (_ : Nat) | intro (_ : Option Addr) (_ : Nat))
      conv => whnf
      refine ⟨_, rfl, ⟨by show (0 : Int) ≤ i; omega, by show (i : Int) < w.versions.length; omega⟩, ?_⟩
      repeat ((conv => whnf); first | apply qza | apply qzb | apply qzc | apply qzd | apply qze | intro (_ : Nat) | intro (_ : Option Addr) (_ : Nat))
      conv => whnf
      refine ⟨_, ⟨rfl, hc.mono hg1⟩, ?_⟩
      repeat ((conv => whnf); first | apply qza | apply qzb | apply qzc | apply qzd | apply qze | intro (_ : Nat) | intro (_ : Option Addr) (_ : Nat))
      conv => whnf
      refine ⟨Nat × GW, fun (j, _) => [.v (.int .i64 (0 + sumI heldV (w.versions.take i) + sumI heldG (v.groups.take j))), .v (.int .i64 j)], fun (_, g') => ⟨g', _, _, _⟩, fun (j, g') => j ≤ v.groups.length ∧ g1 ≤ g', fun (j, _) => v.groups.length - j, loop_here (0, g1) (congrArg (fun z => [Value.int .i64 z, .int .i64 0]) (sum0 _ _ _)) ⟨Nat.zero_le _, GW.refl _⟩ rfl, ?_⟩
      rintro ⟨j, g2⟩ ⟨hj, hg2⟩
      have hT := sumI_take_bd (f := heldG) (c := 4 * 1000) (l := v.groups) (fun y hy => heldG_bd (hvb.2 y hy)) j
      have hTl : (v.groups.take j).length ≤ 1000 := by have := hvb.1; rw [List.length_take]; omega
      repeat ((conv => whnf); first | apply qza | apply qzb | apply qzc | apply qzd | apply qze | intro (_ : Nat) | intro (_ : Option Addr) (_ : Nat))
      conv => whnf
      refine ⟨fun y2 => ?_, fun y2 => ?_⟩
      · have h2 : j < v.groups.length := by have h9 : (j : Int) < v.groups.length := of_decide_eq_true y2; omega
        obtain ⟨x, hx⟩ := getL_of h2
        have hxb := hvb.2 x (List.mem_of_getElem? hx)
        obtain ⟨ag, rfl, ecg, hecg, ⟨xn, rfl, hti, hE⟩, hcg⟩ := hG1 j x hx
        obtain ⟨on, cn, rfl, r1, r2, r0, hE1⟩ := id hE
        repeat ((conv => whnf); first | apply qza | apply qzb | apply qzc | apply qzd | apply qze | intro (_ : Nat) | intro (_ : Option Addr) (_ : Nat))
        conv => whnf
        refine ⟨_, rfl, ⟨by show (0 : Int) ≤ j; omega, by show (j : Int) < v.groups.length; omega⟩, ?_⟩
        repeat ((conv => whnf); first | apply qza | apply qzb | apply qzc | apply qzd | apply qze | intro (_ : Nat) | intro (_ : Option Addr) (_ : Nat))
        conv => whnf
        refine ⟨_, ⟨rfl, hcg.mono (GW.trans hg1 hg2)⟩, ?_⟩
        repeat ((conv => whnf); first | apply qza | apply qzb | apply qzc | apply qzd | apply qze | intro (_ : Nat) | intro (_ : Option Addr) (_ : Nat))
        conv => whnf
        refine ⟨Nat × GW, fun (k, _) => [.v (.int .i64 (0 + sumI heldV (w.versions.take i) + sumI heldG (v.groups.take j) + sumI heldE (x.ends.take k))), .v (.int .i64 k)], fun (_, g') => ⟨g', _, _, _⟩, fun (k, g') => k ≤ x.ends.length ∧ g2 ≤ g', fun (k, _) => x.ends.length - k, loop_here (0, g2) (congrArg (fun z => [Value.int .i64 z, .int .i64 0]) (sum0 _ _ _)) ⟨Nat.zero_le _, GW.refl _⟩ rfl, ?_⟩
        rintro ⟨k, g3⟩ ⟨hk, hg3⟩
        have hU := sumI_take_bd (f := heldE) (c := 4) (l := x.ends) (fun y _ => heldE_bd y) k
        have hUl : (x.ends.take k).length ≤ 1000 := by unfold BgG at hxb; rw [List.length_take]; omega
        repeat ((conv => whnf); first | apply qza | apply qzb | apply qzc | apply qzd | apply qze | intro (_ : Nat) | intro (_ : Option Addr) (_ : Nat))
        conv => whnf
        refine ⟨fun y3 => ?_, fun y3 => ?_⟩
        · have h3 : k < x.ends.length := by have h9 : (k : Int) < x.ends.length := of_decide_eq_true y3; omega
          obtain ⟨en, hen⟩ := getL_of h3
          obtain ⟨ae, rfl, ece, hece, hEn, hce⟩ := hE1 k en hen
          have hEn0 := hEn
          obtain ⟨⟨n, rfl, hH, hA, hN⟩, hsz⟩ := hEn0
          obtain ⟨ox, cx, rfl, s1, s2, s0, hN1⟩ := id hN
          have hg03 := GW.trans hg1 (GW.trans hg2 hg3)
          repeat ((conv => whnf); first | apply qza | apply qzb | apply qzc | apply qzd | apply qze | intro (_ : Nat) | intro (_ : Option Addr) (_ : Nat))
          conv => whnf
          refine ⟨_, rfl, ⟨by show (0 : Int) ≤ k; omega, by show (k : Int) < x.ends.length; omega⟩, ?_⟩
          repeat ((conv => whnf); first | apply qza | apply qzb | apply qzc | apply qzd | apply qze | intro (_ : Nat) | intro (_ : Option Addr) (_ : Nat))
          conv => whnf
          refine ⟨_, ⟨rfl, hce.mono hg03⟩, ?_⟩
          repeat ((conv => whnf); first | apply qza | apply qzb | apply qzc | apply qzd | apply qze | intro (_ : Nat) | intro (_ : Option Addr) (_ : Nat))
          refine .inr ((ok_sFree _ (rEn_mono _ _ _ _ hg03 hEn)).mono fun v' g4 hg4 hF => ?_)
          have hst := sumI_take heldE hen
          have hbd := heldE_bd en
          have hgo : ∀ z : Int, z = heldE en → [Value.int .i64 (0 + sumI heldV (w.versions.take i) + sumI heldG (v.groups.take j) + sumI heldE (x.ends.take (k + 1))), Value.int .i64 ((k + 1 : Nat) : Int)] = [Value.int .i64 (0 + sumI heldV (w.versions.take i) + sumI heldG (v.groups.take j) + sumI heldE (x.ends.take k) + z), Value.int .i64 (IntKind.i64.wrap ((k : Int) + 1))] := fun z hz => by
            rw [hst, hz, wr (x := (k : Int) + 1) (by unfold InR; unfold maxLen at r2; omega)]
            simp only [Int.add_assoc, Int.natCast_add, Int.natCast_one]
          unfold FreeP at hF
          cases hf : freeL en with
          | none =>
            rw [hf] at hF
            subst hF
            have hbF : endB en = false := by unfold endB; rw [hf]; rfl
            have hz : heldE en = 0 := by unfold heldE; rw [hbF]; rfl
            repeat ((conv => whnf); first | apply qza | apply qzb | apply qzc | apply qzd | apply qze | intro (_ : Nat) | intro (_ : Option Addr) (_ : Nat))
            conv => whnf
            refine .inl ⟨_, (ok_sIsE _ (rEn_mono _ _ _ _ (GW.trans hg03 hg4) hEn)).to (congrArg Value.bool hbF), ?_⟩
            repeat ((conv => whnf); first | apply qza | apply qzb | apply qzc | apply qzd | apply qze | intro (_ : Nat) | intro (_ : Option Addr) (_ : Nat))
            conv => whnf
            refine ⟨fun h => (nomatch h), fun _ => ?_⟩
            repeat ((conv => whnf); first | apply qza | apply qzb | apply qzc | apply qzd | apply qze | intro (_ : Nat) | intro (_ : Option Addr) (_ : Nat))
            conv => whnf
            refine fun fr u hu => ⟨(k + 1, g4), (hgo 0 hz.symm).trans (congrArg (fun z => [Value.int .i64 z, Value.int .i64 (IntKind.i64.wrap ((k : Int) + 1))]) (Int.add_zero _)), ⟨h3, GW.trans hg3 hg4⟩, by show x.ends.length - (k + 1) < x.ends.length - k; omega, hu.fit (by simp [fitL, Res.eqv, concL, conc])⟩
          | some l =>
            rw [hf] at hF
            obtain ⟨oF, cF, rfl, hF⟩ := hF
            have hll := free_len hf
            repeat ((conv => whnf); first | apply qza | apply qzb | apply qzc | apply qzd | apply qze | intro (_ : Nat) | intro (_ : Option Addr) (_ : Nat))
            conv => whnf
            refine .inl ⟨_, (ok_sIsE _ (rEn_mono _ _ _ _ (GW.trans hg03 hg4) hEn)), ?_⟩
            repeat ((conv => whnf); first | apply qza | apply qzb | apply qzc | apply qzd | apply qze | intro (_ : Nat) | intro (_ : Option Addr) (_ : Nat))
            conv => whnf
            refine ⟨fun y4 => ?_, fun y4 => ?_⟩
            · have hbT : endB en = true := y4
              have hz : heldE en = en.next.length - (l.length : Nat) := by unfold heldE; rw [hbT, hf]; rfl
              repeat ((conv => whnf); first | apply qza | apply qzb | apply qzc | apply qzd | apply qze | intro (_ : Nat) | intro (_ : Option Addr) (_ : Nat))
              conv => whnf
              refine fun fr u hu => ⟨(k + 1, g4), (hgo _ hz.symm).trans (congrArg (fun z => [Value.int .i64 z, Value.int .i64 (IntKind.i64.wrap ((k : Int) + 1))]) (by rw [wr (x := (en.next.length : Int) - l.length) (by unfold InR; omega), wr (x := 0 + sumI heldV (w.versions.take i) + sumI heldG (v.groups.take j) + sumI heldE (x.ends.take k) + ((en.next.length : Int) - l.length)) (by unfold InR; omega)])), ⟨h3, GW.trans hg3 hg4⟩, by show x.ends.length - (k + 1) < x.ends.length - k; omega, hu.fit (by simp [fitL, Res.eqv, concL, conc])⟩
            · have hbF : endB en = false := y4
              have hz : heldE en = 0 := by unfold heldE; rw [hbF]; rfl
              repeat ((conv => whnf); first | apply qza | apply qzb | apply qzc | apply qzd | apply qze | intro (_ : Nat) | intro (_ : Option Addr) (_ : Nat))
              conv => whnf
              refine fun fr u hu => ⟨(k + 1, g4), (hgo 0 hz.symm).trans (congrArg (fun z => [Value.int .i64 z, Value.int .i64 (IntKind.i64.wrap ((k : Int) + 1))]) (Int.add_zero _)), ⟨h3, GW.trans hg3 hg4⟩, by show x.ends.length - (k + 1) < x.ends.length - k; omega, hu.fit (by simp [fitL, Res.eqv, concL, conc])⟩
        have hkL : k = x.ends.length := by have h9 : ¬ (k : Int) < x.ends.length := of_decide_eq_false y3; omega
        subst hkL
        repeat ((conv => whnf); first | apply qza | apply qzb | apply qzc | apply qzd | apply qze | intro (_ : Nat) | intro (_ : Option Addr) (_ : Nat))
        conv => whnf
        refine fun fr u hu => ⟨(j + 1, g3), (show [Value.int .i64 (0 + sumI heldV (w.versions.take i) + sumI heldG (v.groups.take (j + 1))), Value.int .i64 ((j + 1 : Nat) : Int)] = [Value.int .i64 (0 + sumI heldV (w.versions.take i) + sumI heldG (v.groups.take j) + sumI heldE (x.ends.take x.ends.length)), Value.int .i64 (IntKind.i64.wrap ((j : Int) + 1))] by rw [sumI_take heldG hx, wr (x := (j : Int) + 1) (by unfold InR; unfold maxLen at p2; omega), List.take_length]; simp only [Int.add_assoc, Int.natCast_add, Int.natCast_one]; rfl), ⟨h2, GW.trans hg2 hg3⟩, by show v.groups.length - (j + 1) < v.groups.length - j; omega, hu.fit (by simp [fitL, Res.eqv, concL, conc])⟩
      have hjL : j = v.groups.length := by have h9 : ¬ (j : Int) < v.groups.length := of_decide_eq_false y2; omega
      subst hjL
      repeat ((conv => whnf); first | apply qza | apply qzb | apply qzc | apply qzd | apply qze | intro (_ : Nat) | intro (_ : Option Addr) (_ : Nat))
      conv => whnf
      refine fun fr u hu => ⟨(i + 1, g2), (show [Value.int .i64 (0 + sumI heldV (w.versions.take (i + 1))), Value.int .i64 ((i + 1 : Nat) : Int)] = [Value.int .i64 (0 + sumI heldV (w.versions.take i) + sumI heldG (v.groups.take v.groups.length)), Value.int .i64 (IntKind.i64.wrap ((i : Int) + 1))] by rw [sumI_take heldV hv, wr (x := (i : Int) + 1) (by unfold InR; unfold maxLen at b2; omega), List.take_length]; simp only [Int.add_assoc, Int.natCast_add, Int.natCast_one]; rfl), ⟨h', GW.trans hg1 hg2⟩, by show w.versions.length - (i + 1) < w.versions.length - i; omega, hu.fit (by simp [fitL, Res.eqv, concL, conc])⟩
    have hiL : i = w.versions.length := by have h9 : ¬ (i : Int) < w.versions.length := of_decide_eq_false y1; omega
    subst hiL
    repeat ((conv => whnf); first | apply qza | apply qzb | apply qzc | apply qzd | apply qze | intro (_ : Nat) | intro (_ : Option Addr) (_ : Nat))
    conv => whnf
    intro g2 hg
    show Value.int .i64 (0 + sumI heldV (w.versions.take w.versions.length)) = _
    rw [List.take_length, Int.zero_add]; rfl)
end Go.Proofs.YtkkhdnddplkobaaGreat

