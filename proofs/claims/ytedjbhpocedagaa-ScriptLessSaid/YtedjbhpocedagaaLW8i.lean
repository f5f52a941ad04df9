/- Scripts: the listeners' names, the document's answer. -/
import Derived.Test.YtedjbhpocedagaaLW8h
import Derived.Test.YtedjbhpocedagaaLK5d
import Derived.Test.YtedjbhpocedagaaPl
namespace Go.Proofs.Ytedjbhpocedagaa
open Go.Proofs.Ytedjbhpocedagaa.Sx Go.RowKit
def tA : List (Nat × FnI) := [(n_hydrantref08_add, f_hydrantref08_add)]
theorem tA_ok : TblOk Try.prog tA := by
  intro x hx
  simp only [tA, List.mem_cons, List.not_mem_nil, or_false] at hx
  rcases hx with rfl
  exact ⟨_, _, t_hydrantref08_add⟩
theorem ok_rscNames (g : GW) {cs : List Value} {s : Script} (hs : rScript g cs s) (hsz : SmS s) (hsm : ∀ l ∈ s.threads, ∀ o ∈ l, SmC o.config) : Ok Try.prog n_hydrantref08_Names [.agg ⟨cs⟩] g fun v g' => rSl 1 rStr g' v (namesL s) := by
  obtain ⟨a, b, d, t, p, rfl, hc, ht, hp⟩ := hs
  have hc0 := hc
  obtain ⟨_, _, _, he, ⟨oa, ca, rfl, l1, l2, l0, hl1⟩, ⟨ob, cb, rfl, _⟩, od, cd, rfl, _⟩ := hc
  cases he
  obtain ⟨ot, ct, rfl, t1, t2, t0, ht1⟩ := id ht
  obtain ⟨op, cp, rfl, p1, p2, p0, hp1⟩ := id hp
  obtain ⟨z1, z2, z3⟩ := hsz
  exact Ok.of_fn hm tA_ok 1 t_hydrantref08_Names (args := [.v (.agg ⟨[.slice oa s.first.listens.length ca, .slice ob s.first.routes.length cb, .slice od s.first.clusters.length cd, .slice ot s.threads.length ct, .slice op s.picks.length cp]⟩)]) (by
    repeat ((conv => whnf); first | refine ⟨Eq.refl _, ?_⟩ | refine ⟨⟨Eq.refl _, Eq.refl _⟩, ?_⟩ | refine ⟨⟨Eq.refl _, Eq.refl _, Eq.refl _⟩, ?_⟩ | refine ⟨⟨Eq.refl _, Eq.refl _, Eq.refl _, Eq.refl _⟩, ?_⟩ | refine ⟨⟨Eq.refl _, Eq.refl _, Eq.refl _, Eq.refl _, Eq.refl _⟩, ?_⟩ | refine fun (_ : Nat) => ?_ | refine fun (_ : Option Addr) (_ : Nat) => ?_ | fail)
    rename_i q0 qs
    conv => whnf
    refine ⟨Nat × Option Addr × Nat × Nat × GW, fun (kk, oX, nX, cX, _) => [.v (.slice oX nX cX), .v (.int .i64 kk)], fun (kk, oX, nX, cX, g') => ⟨g', [.blk 0 q0 ty_api_Script [.v (.slice oa s.first.listens.length ca), .v (.slice ob s.first.routes.length cb), .v (.slice od s.first.clusters.length cd), .v (.slice ot s.threads.length ct), .v (.slice op s.picks.length cp)]], 60, g.w.heap.size⟩, fun (kk, oX, nX, cX, g') => kk ≤ s.first.listens.length ∧ g ≤ g' ∧ nX = (addN [] (s.first.listens.take kk)).length ∧ PbSl g' g.w.heap.size ty_string 1 (.slice oX nX cX) nX (cS (addN [] (s.first.listens.take kk))), fun (kk, _, _, _, _) => s.first.listens.length - kk, fun fr w hw => by
      have hw1 : HSim fr ⟨g, .row 70 (some ⟨qs, 0, none⟩) 0 0 ty_string 1 [] :: [.blk 0 q0 ty_api_Script [.v (.slice oa s.first.listens.length ca), .v (.slice ob s.first.routes.length cb), .v (.slice od s.first.clusters.length cd), .v (.slice ot s.threads.length ct), .v (.slice op s.picks.length cp)]], 80, g.w.heap.size⟩ w := (hw.blk_row 0 1 rfl (by unfold maxLen; omega) (id' := 70) (nx' := 80)).fit (by simp [fitL, Res.eqv, concL, conc])
      obtain ⟨g2, k1', k2, k3, k4⟩ := hw1.row_pub
      exact ⟨(0, some ⟨qs, 0, none⟩, 0, 0, g2), rfl, ⟨Nat.zero_le _, k1', rfl, k3⟩, k4.fit (by simp [fitL, Res.eqv, concL, conc])⟩, ?_⟩
    rintro ⟨k1, oX, nX, cX, g'⟩ ⟨hk, hgg, hn, hpb⟩
    repeat ((conv => whnf); first | refine ⟨Eq.refl _, ?_⟩ | refine ⟨⟨Eq.refl _, Eq.refl _⟩, ?_⟩ | refine ⟨⟨Eq.refl _, Eq.refl _, Eq.refl _⟩, ?_⟩ | refine ⟨⟨Eq.refl _, Eq.refl _, Eq.refl _, Eq.refl _⟩, ?_⟩ | refine ⟨⟨Eq.refl _, Eq.refl _, Eq.refl _, Eq.refl _, Eq.refl _⟩, ?_⟩ | refine fun (_ : Nat) => ?_ | refine fun (_ : Option Addr) (_ : Nat) => ?_ | fail)
    conv => whnf
    refine ⟨fun hlt => ?_, fun hlt => ?_⟩
    · have h' : k1 < s.first.listens.length := by have := of_decide_eq_true hlt; omega
      obtain ⟨x, hx⟩ := getL_of h'
      obtain ⟨a, rfl, ec, hec, rfl, hcx⟩ := hl1 k1 x hx
      replace hcx := hcx.mono hgg
      have hAT := addN_take (out := []) hx
      repeat ((conv => whnf); first | refine ⟨Eq.refl _, ?_⟩ | refine ⟨⟨Eq.refl _, Eq.refl _⟩, ?_⟩ | refine ⟨⟨Eq.refl _, Eq.refl _, Eq.refl _⟩, ?_⟩ | refine ⟨⟨Eq.refl _, Eq.refl _, Eq.refl _, Eq.refl _⟩, ?_⟩ | refine ⟨⟨Eq.refl _, Eq.refl _, Eq.refl _, Eq.refl _, Eq.refl _⟩, ?_⟩ | refine fun (_ : Nat) => ?_ | refine fun (_ : Option Addr) (_ : Nat) => ?_ | fail)
      conv => whnf
      refine ⟨a, rfl, ⟨by omega, by omega⟩, ?_⟩
      conv => whnf
      refine ⟨_, hcx 0 _ rfl, ?_⟩
      repeat ((conv => whnf); first | refine ⟨Eq.refl _, ?_⟩ | refine ⟨⟨Eq.refl _, Eq.refl _⟩, ?_⟩ | refine ⟨⟨Eq.refl _, Eq.refl _, Eq.refl _⟩, ?_⟩ | refine ⟨⟨Eq.refl _, Eq.refl _, Eq.refl _, Eq.refl _⟩, ?_⟩ | refine ⟨⟨Eq.refl _, Eq.refl _, Eq.refl _, Eq.refl _, Eq.refl _⟩, ?_⟩ | refine fun (_ : Nat) => ?_ | refine fun (_ : Option Addr) (_ : Nat) => ?_ | fail)
      have hout : rSl 1 rStr g' (.slice oX nX cX) (addN [] (s.first.listens.take k1)) := rSl_of1 hpb.rd _ .string rfl fun _ _ => rfl
      have hix := idx_any (fun z => bs z == bs x) (addN [] (s.first.listens.take k1))
      conv => whnf
      refine .inl ⟨_, ok_Listen _ hout _, ?_⟩
      repeat ((conv => whnf); first | refine ⟨Eq.refl _, ?_⟩ | refine ⟨⟨Eq.refl _, Eq.refl _⟩, ?_⟩ | refine ⟨⟨Eq.refl _, Eq.refl _, Eq.refl _⟩, ?_⟩ | refine ⟨⟨Eq.refl _, Eq.refl _, Eq.refl _, Eq.refl _⟩, ?_⟩ | refine ⟨⟨Eq.refl _, Eq.refl _, Eq.refl _, Eq.refl _, Eq.refl _⟩, ?_⟩ | refine fun (_ : Nat) => ?_ | refine fun (_ : Option Addr) (_ : Nat) => ?_ | fail)
      conv => whnf
      refine ⟨fun hc2 => ?_, fun hc2 => ?_⟩
      · have hc3 : hasS (addN [] (s.first.listens.take k1)) x = false := by
          have := of_decide_eq_true hc2
          show (addN [] (s.first.listens.take k1)).any _ = false
          rw [← hix, decide_eq_false (by omega)]
        rw [if_neg (by rw [hc3]; simp)] at hAT
        have hlen := addN_len (out := []) (l := s.first.listens.take k1)
        rw [List.length_take] at hlen
        try simp only [List.length_nil] at hlen
        repeat ((conv => whnf); first | refine ⟨Eq.refl _, ?_⟩ | refine ⟨⟨Eq.refl _, Eq.refl _⟩, ?_⟩ | refine ⟨⟨Eq.refl _, Eq.refl _, Eq.refl _⟩, ?_⟩ | refine ⟨⟨Eq.refl _, Eq.refl _, Eq.refl _, Eq.refl _⟩, ?_⟩ | refine ⟨⟨Eq.refl _, Eq.refl _, Eq.refl _, Eq.refl _, Eq.refl _⟩, ?_⟩ | refine fun (_ : Nat) => ?_ | refine fun (_ : Option Addr) (_ : Nat) => ?_ | fail)
        conv => whnf
        refine ⟨a, rfl, ⟨by omega, by omega⟩, ?_⟩
        conv => whnf
        refine ⟨_, hcx 0 _ rfl, ?_⟩
        repeat ((conv => whnf); first | refine ⟨Eq.refl _, ?_⟩ | refine ⟨⟨Eq.refl _, Eq.refl _⟩, ?_⟩ | refine ⟨⟨Eq.refl _, Eq.refl _, Eq.refl _⟩, ?_⟩ | refine ⟨⟨Eq.refl _, Eq.refl _, Eq.refl _, Eq.refl _⟩, ?_⟩ | refine ⟨⟨Eq.refl _, Eq.refl _, Eq.refl _, Eq.refl _, Eq.refl _⟩, ?_⟩ | refine fun (_ : Nat) => ?_ | refine fun (_ : Option Addr) (_ : Nat) => ?_ | fail)
        rcases hpb.2.1 with ⟨he, hn0⟩ | ⟨bk, cap', rest, he, hb1, hb2, hb3, hb4, hb5⟩
        · cases he
          have ho0 : addN [] (s.first.listens.take k1) = [] := List.length_eq_zero_iff.1 (by omega)
          rw [ho0] at hAT
          repeat ((conv => whnf); first | refine ⟨Eq.refl _, ?_⟩ | refine ⟨⟨Eq.refl _, Eq.refl _⟩, ?_⟩ | refine ⟨⟨Eq.refl _, Eq.refl _, Eq.refl _⟩, ?_⟩ | refine ⟨⟨Eq.refl _, Eq.refl _, Eq.refl _, Eq.refl _⟩, ?_⟩ | refine ⟨⟨Eq.refl _, Eq.refl _, Eq.refl _, Eq.refl _, Eq.refl _⟩, ?_⟩ | refine fun (_ : Nat) => ?_ | refine fun (_ : Option Addr) (_ : Nat) => ?_ | fail)
          conv => whnf
          refine ⟨⟨by unfold maxLen; omega, by omega⟩, fun oa3 cap3 => ?_⟩
          repeat ((conv => whnf); first | refine ⟨Eq.refl _, ?_⟩ | refine ⟨⟨Eq.refl _, Eq.refl _⟩, ?_⟩ | refine ⟨⟨Eq.refl _, Eq.refl _, Eq.refl _⟩, ?_⟩ | refine ⟨⟨Eq.refl _, Eq.refl _, Eq.refl _, Eq.refl _⟩, ?_⟩ | refine ⟨⟨Eq.refl _, Eq.refl _, Eq.refl _, Eq.refl _, Eq.refl _⟩, ?_⟩ | refine fun (_ : Nat) => ?_ | refine fun (_ : Option Addr) (_ : Nat) => ?_ | fail)
          conv => whnf
          refine fun fr w hw => by
            have hw1 : HSim fr ⟨g', .row 70 oa3 (1) cap3 ty_string 1 ([Value.string x]) :: [.blk 0 q0 ty_api_Script [.v (.slice (some a) s.first.listens.length ca), .v (.slice ob s.first.routes.length cb), .v (.slice od s.first.clusters.length cd), .v (.slice ot s.threads.length ct), .v (.slice op s.picks.length cp)]], 80, g.w.heap.size⟩ w := hw.fit (by simp [fitL, Res.eqv, concL, conc])
            obtain ⟨g2, k1', k2, k3, k4⟩ := hw1.row_pub
            refine ⟨(k1 + 1, oa3, 1, cap3, g2), congrArg (fun z => [Value.slice oa3 1 cap3, Value.int .i64 z]) (wr1 h' l1 l2).symm, ⟨h', ?_, ?_, ?_⟩, dec h', k4.fit (by simp [fitL, Res.eqv, concL, conc])⟩
            · exact GW.trans hgg k1'
            · rw [hAT]; rfl
            · rw [hAT]; exact k3
        · cases he
          have hbk : ¬ g.g bk := fun h => by have := g.wf _ h; have := hb1.1; omega
          repeat ((conv => whnf); first | refine ⟨Eq.refl _, ?_⟩ | refine ⟨⟨Eq.refl _, Eq.refl _⟩, ?_⟩ | refine ⟨⟨Eq.refl _, Eq.refl _, Eq.refl _⟩, ?_⟩ | refine ⟨⟨Eq.refl _, Eq.refl _, Eq.refl _, Eq.refl _⟩, ?_⟩ | refine ⟨⟨Eq.refl _, Eq.refl _, Eq.refl _, Eq.refl _, Eq.refl _⟩, ?_⟩ | refine fun (_ : Nat) => ?_ | refine fun (_ : Option Addr) (_ : Nat) => ?_ | fail)
          conv => whnf
          refine .inr ⟨bk, _, rest, ⟨rfl, hb1.1, hb1.2, hb2, by rw [List.length_map, hn]; omega, hpb.2.2, hb3, hb4, hb5, by unfold maxLen; omega, by omega⟩, fun gL hless oa3 cap3 => ?_⟩
          repeat ((conv => whnf); first | refine ⟨Eq.refl _, ?_⟩ | refine ⟨⟨Eq.refl _, Eq.refl _⟩, ?_⟩ | refine ⟨⟨Eq.refl _, Eq.refl _, Eq.refl _⟩, ?_⟩ | refine ⟨⟨Eq.refl _, Eq.refl _, Eq.refl _, Eq.refl _⟩, ?_⟩ | refine ⟨⟨Eq.refl _, Eq.refl _, Eq.refl _, Eq.refl _, Eq.refl _⟩, ?_⟩ | refine fun (_ : Nat) => ?_ | refine fun (_ : Option Addr) (_ : Nat) => ?_ | fail)
          conv => whnf
          refine fun fr w hw => by
            have hw1 : HSim fr ⟨gL, .row 70 oa3 (nX + 1) cap3 ty_string 1 (cS (addN [] (s.first.listens.take k1)) ++ [Value.string x]) :: [.blk 0 q0 ty_api_Script [.v (.slice (some a) s.first.listens.length ca), .v (.slice ob s.first.routes.length cb), .v (.slice od s.first.clusters.length cd), .v (.slice ot s.threads.length ct), .v (.slice op s.picks.length cp)]], 80, g.w.heap.size⟩ w := hw.fit (by simp [fitL, Res.eqv, concL, conc])
            obtain ⟨g2, k1', k2, k3, k4⟩ := hw1.row_pub
            refine ⟨(k1 + 1, oa3, nX + 1, cap3, g2), congrArg (fun z => [Value.slice oa3 (nX + 1) cap3, Value.int .i64 z]) (wr1 h' l1 l2).symm, ⟨h', ?_, ?_, ?_⟩, dec h', k4.fit (by simp [fitL, Res.eqv, concL, conc])⟩
            · exact GW.trans (hless.le hgg hbk) k1'
            · rw [hAT, hn]; simp
            · rw [hAT]; simpa using k3
      · have hc3 : hasS (addN [] (s.first.listens.take k1)) x = true := by
          have := of_decide_eq_false hc2
          show (addN [] (s.first.listens.take k1)).any _ = true
          rw [← hix, decide_eq_true (by omega)]
        rw [if_pos hc3] at hAT
        repeat ((conv => whnf); first | refine ⟨Eq.refl _, ?_⟩ | refine ⟨⟨Eq.refl _, Eq.refl _⟩, ?_⟩ | refine ⟨⟨Eq.refl _, Eq.refl _, Eq.refl _⟩, ?_⟩ | refine ⟨⟨Eq.refl _, Eq.refl _, Eq.refl _, Eq.refl _⟩, ?_⟩ | refine ⟨⟨Eq.refl _, Eq.refl _, Eq.refl _, Eq.refl _, Eq.refl _⟩, ?_⟩ | refine fun (_ : Nat) => ?_ | refine fun (_ : Option Addr) (_ : Nat) => ?_ | fail)
        conv => whnf
        refine fun fr w hw => ⟨(k1 + 1, oX, nX, cX, g'), congrArg (fun z => [Value.slice oX nX cX, Value.int .i64 z]) (wr1 h' l1 l2).symm, ⟨h', hgg, by rw [hAT]; exact hn, by rw [hAT]; exact hpb⟩, dec h', ?_⟩
        exact hw.fit (by simp [fitL, Res.eqv, concL, conc])
    have hkL : k1 = s.first.listens.length := by have := of_decide_eq_false hlt; omega
    rw [hkL, List.take_length] at hn hpb
    clear hlt hk hkL
    repeat ((conv => whnf); first | refine ⟨Eq.refl _, ?_⟩ | refine ⟨⟨Eq.refl _, Eq.refl _⟩, ?_⟩ | refine ⟨⟨Eq.refl _, Eq.refl _, Eq.refl _⟩, ?_⟩ | refine ⟨⟨Eq.refl _, Eq.refl _, Eq.refl _, Eq.refl _⟩, ?_⟩ | refine ⟨⟨Eq.refl _, Eq.refl _, Eq.refl _, Eq.refl _, Eq.refl _⟩, ?_⟩ | refine fun (_ : Nat) => ?_ | refine fun (_ : Option Addr) (_ : Nat) => ?_ | fail)
    have hlenF := addN_len (out := []) (l := s.first.listens)
    simp only [List.length_nil] at hlenF
    conv => whnf
    refine ⟨Nat × Option Addr × Nat × Nat × GW, fun (k, oX, nX, cX, _) => [.v (.slice oX nX cX), .v (.int .i64 k)], fun (k, oX, nX, cX, g') => ⟨g', [.blk 0 q0 ty_api_Script [.v (.slice oa s.first.listens.length ca), .v (.slice ob s.first.routes.length cb), .v (.slice od s.first.clusters.length cd), .v (.slice ot s.threads.length ct), .v (.slice op s.picks.length cp)]], 20, g.w.heap.size⟩, fun (k, oX, nX, cX, g') => k ≤ s.threads.length ∧ g ≤ g' ∧ nX = (thrN (addN [] s.first.listens) (s.threads.take k)).length ∧ PbSl g' g.w.heap.size ty_string 1 (.slice oX nX cX) nX (cS (thrN (addN [] s.first.listens) (s.threads.take k))), fun (k, _, _, _, _) => s.threads.length - k, fun fr w hw => ⟨(0, oX, nX, cX, g'), rfl, ⟨Nat.zero_le _, hgg, hn, hpb⟩, hw.fit (by simp [fitL, Res.eqv, concL, conc])⟩, ?_⟩
    clear hn hpb hgg
    rintro ⟨k, oZ, nZ, cZ, gz⟩ ⟨hkz, hgz, hnZ, hpZ⟩
    repeat ((conv => whnf); first | refine ⟨Eq.refl _, ?_⟩ | refine ⟨⟨Eq.refl _, Eq.refl _⟩, ?_⟩ | refine ⟨⟨Eq.refl _, Eq.refl _, Eq.refl _⟩, ?_⟩ | refine ⟨⟨Eq.refl _, Eq.refl _, Eq.refl _, Eq.refl _⟩, ?_⟩ | refine ⟨⟨Eq.refl _, Eq.refl _, Eq.refl _, Eq.refl _, Eq.refl _⟩, ?_⟩ | refine fun (_ : Nat) => ?_ | refine fun (_ : Option Addr) (_ : Nat) => ?_ | fail)
    conv => whnf
    refine ⟨fun hlz => ?_, fun hlz => ?_⟩
    · have hkt : k < s.threads.length := by have := of_decide_eq_true hlz; omega
      obtain ⟨l, hl⟩ := getL_of hkt
      have hlm := z3 l (List.mem_of_getElem? hl)
      have hlsm := hsm l (List.mem_of_getElem? hl)
      obtain ⟨aT, rfl, ecT, hecT, ⟨v, rfl, hv⟩, hcT⟩ := ht1 k l hl
      obtain ⟨oo, co, rfl, o1, o2, o0, hv1⟩ := id hv
      have hNT : thrN (addN [] s.first.listens) (s.threads.take (k + 1)) = List.foldl opN (thrN (addN [] s.first.listens) (s.threads.take k)) l := foldl_take (f := fun out l => List.foldl opN out l) hl
      repeat ((conv => whnf); first | refine ⟨Eq.refl _, ?_⟩ | refine ⟨⟨Eq.refl _, Eq.refl _⟩, ?_⟩ | refine ⟨⟨Eq.refl _, Eq.refl _, Eq.refl _⟩, ?_⟩ | refine ⟨⟨Eq.refl _, Eq.refl _, Eq.refl _, Eq.refl _⟩, ?_⟩ | refine ⟨⟨Eq.refl _, Eq.refl _, Eq.refl _, Eq.refl _, Eq.refl _⟩, ?_⟩ | refine fun (_ : Nat) => ?_ | refine fun (_ : Option Addr) (_ : Nat) => ?_ | fail)
      have hlenT := thrN_len (out := addN [] s.first.listens) (l := s.threads.take k) fun t ht => z3 t (List.mem_of_mem_take ht)
      rw [List.length_take] at hlenT
      conv => whnf
      refine ⟨Nat × Option Addr × Nat × Nat × GW, fun (n, oX, nX, cX, _) => [.v (.slice oX nX cX), .v (.int .i64 n)], fun (n, oX, nX, cX, g') => ⟨g', [.blk 0 q0 ty_api_Script [.v (.slice oa s.first.listens.length ca), .v (.slice ob s.first.routes.length cb), .v (.slice od s.first.clusters.length cd), .v (.slice (some aT) s.threads.length ct), .v (.slice op s.picks.length cp)]], 30, g.w.heap.size⟩, fun (n, oX, nX, cX, g') => n ≤ l.length ∧ g ≤ g' ∧ nX = (List.foldl opN (thrN (addN [] s.first.listens) (s.threads.take k)) (l.take n)).length ∧ PbSl g' g.w.heap.size ty_string 1 (.slice oX nX cX) nX (cS (List.foldl opN (thrN (addN [] s.first.listens) (s.threads.take k)) (l.take n))), fun (n, _, _, _, _) => l.length - n, fun fr w hw => ⟨(0, oZ, nZ, cZ, gz), rfl, ⟨Nat.zero_le _, hgz, hnZ, hpZ⟩, hw.fit (by simp [fitL, Res.eqv, concL, conc])⟩, ?_⟩
      clear hnZ hpZ hgz
      rintro ⟨n, oY, nY, cY, gy⟩ ⟨hny, hgy, hnY, hpY⟩
      repeat ((conv => whnf); first | refine ⟨Eq.refl _, ?_⟩ | refine ⟨⟨Eq.refl _, Eq.refl _⟩, ?_⟩ | refine ⟨⟨Eq.refl _, Eq.refl _, Eq.refl _⟩, ?_⟩ | refine ⟨⟨Eq.refl _, Eq.refl _, Eq.refl _, Eq.refl _⟩, ?_⟩ | refine ⟨⟨Eq.refl _, Eq.refl _, Eq.refl _, Eq.refl _, Eq.refl _⟩, ?_⟩ | refine fun (_ : Nat) => ?_ | refine fun (_ : Option Addr) (_ : Nat) => ?_ | fail)
      conv => whnf
      refine ⟨aT, rfl, ⟨by omega, by omega⟩, ?_⟩
      conv => whnf
      refine ⟨_, hcT.mono hgy 0 _ rfl, ?_⟩
      repeat ((conv => whnf); first | refine ⟨Eq.refl _, ?_⟩ | refine ⟨⟨Eq.refl _, Eq.refl _⟩, ?_⟩ | refine ⟨⟨Eq.refl _, Eq.refl _, Eq.refl _⟩, ?_⟩ | refine ⟨⟨Eq.refl _, Eq.refl _, Eq.refl _, Eq.refl _⟩, ?_⟩ | refine ⟨⟨Eq.refl _, Eq.refl _, Eq.refl _, Eq.refl _, Eq.refl _⟩, ?_⟩ | refine fun (_ : Nat) => ?_ | refine fun (_ : Option Addr) (_ : Nat) => ?_ | fail)
      conv => whnf
      refine ⟨fun hln => ?_, fun hln => ?_⟩
      · have hno : n < l.length := by have := of_decide_eq_true hln; omega
        obtain ⟨o, ho⟩ := getL_of hno
        have hom := hlm.2 o (List.mem_of_getElem? ho)
        have hosm := hlsm o (List.mem_of_getElem? ho)
        obtain ⟨aO, rfl, eo, heo, ⟨x1, x2, x3, rfl, hro, hcf⟩, hco⟩ := hv1 n o ho
        have hcf0 := hcf
        obtain ⟨_, _, _, he, ⟨om, cm, rfl, m1, m2, m0, hm1⟩, ⟨oR, cR, rfl, _⟩, oK, cK, rfl, _⟩ := hcf
        cases he
        have hMT := foldl_take (f := opN) (b := thrN (addN [] s.first.listens) (s.threads.take k)) ho
        have hlenO := opsN_len (out := thrN (addN [] s.first.listens) (s.threads.take k)) (l := l.take n) fun x hx => hlm.2 x (List.mem_of_mem_take hx)
        rw [List.length_take] at hlenO
        have hlm1 := hlm.1
        repeat ((conv => whnf); first | refine ⟨Eq.refl _, ?_⟩ | refine ⟨⟨Eq.refl _, Eq.refl _⟩, ?_⟩ | refine ⟨⟨Eq.refl _, Eq.refl _, Eq.refl _⟩, ?_⟩ | refine ⟨⟨Eq.refl _, Eq.refl _, Eq.refl _, Eq.refl _⟩, ?_⟩ | refine ⟨⟨Eq.refl _, Eq.refl _, Eq.refl _, Eq.refl _, Eq.refl _⟩, ?_⟩ | refine fun (_ : Nat) => ?_ | refine fun (_ : Option Addr) (_ : Nat) => ?_ | fail)
        conv => whnf
        refine ⟨aT, rfl, ⟨by omega, by omega⟩, ?_⟩
        conv => whnf
        refine ⟨_, hcT.mono hgy 0 _ rfl, ?_⟩
        repeat ((conv => whnf); first | refine ⟨Eq.refl _, ?_⟩ | refine ⟨⟨Eq.refl _, Eq.refl _⟩, ?_⟩ | refine ⟨⟨Eq.refl _, Eq.refl _, Eq.refl _⟩, ?_⟩ | refine ⟨⟨Eq.refl _, Eq.refl _, Eq.refl _, Eq.refl _⟩, ?_⟩ | refine ⟨⟨Eq.refl _, Eq.refl _, Eq.refl _, Eq.refl _, Eq.refl _⟩, ?_⟩ | refine fun (_ : Nat) => ?_ | refine fun (_ : Option Addr) (_ : Nat) => ?_ | fail)
        conv => whnf
        refine ⟨aO, rfl, ⟨by omega, by omega⟩, ?_⟩
        conv => whnf
        refine ⟨_, ⟨rfl, hco.mono hgy⟩, ?_⟩
        repeat ((conv => whnf); first | refine ⟨Eq.refl _, ?_⟩ | refine ⟨⟨Eq.refl _, Eq.refl _⟩, ?_⟩ | refine ⟨⟨Eq.refl _, Eq.refl _, Eq.refl _⟩, ?_⟩ | refine ⟨⟨Eq.refl _, Eq.refl _, Eq.refl _, Eq.refl _⟩, ?_⟩ | refine ⟨⟨Eq.refl _, Eq.refl _, Eq.refl _, Eq.refl _, Eq.refl _⟩, ?_⟩ | refine fun (_ : Nat) => ?_ | refine fun (_ : Option Addr) (_ : Nat) => ?_ | fail)
        have hchk := ok_rCheck gy (rConfig_mono _ _ _ _ hgy hcf0) hosm
        by_cases hkc : o.kind = 3 ∧ checkE o.config = none
        · have hopY : ∀ out, opN out o = addN out o.config.listens := fun out => by rw [opN, if_pos hkc]
          rw [hkc.2] at hchk
          conv => whnf
          refine .inl ⟨_, hchk.to (show _ = Value.tuple #[.int .i64 0, .int .i64 0] from rfl), ?_⟩
          repeat ((conv => whnf); first | refine ⟨Eq.refl _, ?_⟩ | refine ⟨⟨Eq.refl _, Eq.refl _⟩, ?_⟩ | refine ⟨⟨Eq.refl _, Eq.refl _, Eq.refl _⟩, ?_⟩ | refine ⟨⟨Eq.refl _, Eq.refl _, Eq.refl _, Eq.refl _⟩, ?_⟩ | refine ⟨⟨Eq.refl _, Eq.refl _, Eq.refl _, Eq.refl _, Eq.refl _⟩, ?_⟩ | refine fun (_ : Nat) => ?_ | refine fun (_ : Option Addr) (_ : Nat) => ?_ | fail)
          conv => whnf
          refine ⟨fun _ => ?_, fun hx => absurd (((show (o.kind == 3) = true by rw [hkc.1]; rfl)).symm.trans hx) (by decide)⟩
          repeat ((conv => whnf); first | refine ⟨Eq.refl _, ?_⟩ | refine ⟨⟨Eq.refl _, Eq.refl _⟩, ?_⟩ | refine ⟨⟨Eq.refl _, Eq.refl _, Eq.refl _⟩, ?_⟩ | refine ⟨⟨Eq.refl _, Eq.refl _, Eq.refl _, Eq.refl _⟩, ?_⟩ | refine ⟨⟨Eq.refl _, Eq.refl _, Eq.refl _, Eq.refl _, Eq.refl _⟩, ?_⟩ | refine fun (_ : Nat) => ?_ | refine fun (_ : Option Addr) (_ : Nat) => ?_ | fail)
          conv => whnf
          refine ⟨fun _ => ?_, fun h => nomatch h⟩
          repeat ((conv => whnf); first | refine ⟨Eq.refl _, ?_⟩ | refine ⟨⟨Eq.refl _, Eq.refl _⟩, ?_⟩ | refine ⟨⟨Eq.refl _, Eq.refl _, Eq.refl _⟩, ?_⟩ | refine ⟨⟨Eq.refl _, Eq.refl _, Eq.refl _, Eq.refl _⟩, ?_⟩ | refine ⟨⟨Eq.refl _, Eq.refl _, Eq.refl _, Eq.refl _, Eq.refl _⟩, ?_⟩ | refine fun (_ : Nat) => ?_ | refine fun (_ : Option Addr) (_ : Nat) => ?_ | fail)
          rename_i qo h1 h2
          conv => whnf
          refine ⟨Nat × Option Addr × Nat × Nat × GW, fun (kk, oX, nX, cX, _) => [.v (.slice oX nX cX), .v (.int .i64 kk)], fun (kk, oX, nX, cX, g') => ⟨g', [.blk 30 qo ty_api_Op [.v (.int .i64 o.kind), .v (.string o.listen), .v (.string o.host), .v (.string o.path), .v (.int .i64 o.d0), .v (.int .i64 o.d1), .v (.int .i64 o.n), .v (.slice om o.config.listens.length cm), .v (.slice oR o.config.routes.length cR), .v (.slice oK o.config.clusters.length cK)], .blk 0 q0 ty_api_Script [.v (.slice oa s.first.listens.length ca), .v (.slice ob s.first.routes.length cb), .v (.slice od s.first.clusters.length cd), .v (.slice (some aT) s.threads.length ct), .v (.slice op s.picks.length cp)]], 60, g.w.heap.size⟩, fun (kk, oX, nX, cX, g') => kk ≤ o.config.listens.length ∧ g ≤ g' ∧ nX = (addN (List.foldl opN (thrN (addN [] s.first.listens) (s.threads.take k)) (l.take n)) (o.config.listens.take kk)).length ∧ PbSl g' g.w.heap.size ty_string 1 (.slice oX nX cX) nX (cS (addN (List.foldl opN (thrN (addN [] s.first.listens) (s.threads.take k)) (l.take n)) (o.config.listens.take kk))), fun (kk, _, _, _, _) => o.config.listens.length - kk, fun fr w hw => ⟨(0, oY, nY, cY, gy), rfl, ⟨Nat.zero_le _, hgy, hnY, hpY⟩, hw.fit (by simp [fitL, Res.eqv, concL, conc])⟩, ?_⟩
          rintro ⟨k1, oX, nX, cX, g'⟩ ⟨hk, hgg, hn, hpb⟩
          repeat ((conv => whnf); first | refine ⟨Eq.refl _, ?_⟩ | refine ⟨⟨Eq.refl _, Eq.refl _⟩, ?_⟩ | refine ⟨⟨Eq.refl _, Eq.refl _, Eq.refl _⟩, ?_⟩ | refine ⟨⟨Eq.refl _, Eq.refl _, Eq.refl _, Eq.refl _⟩, ?_⟩ | refine ⟨⟨Eq.refl _, Eq.refl _, Eq.refl _, Eq.refl _, Eq.refl _⟩, ?_⟩ | refine fun (_ : Nat) => ?_ | refine fun (_ : Option Addr) (_ : Nat) => ?_ | fail)
          conv => whnf
          refine ⟨fun hlt => ?_, fun hlt => ?_⟩
          · have h' : k1 < o.config.listens.length := by have := of_decide_eq_true hlt; omega
            obtain ⟨x, hx⟩ := getL_of h'
            obtain ⟨a, rfl, ec, hec, rfl, hcx⟩ := hm1 k1 x hx
            replace hcx := hcx.mono hgg
            have hAT := addN_take (out := (List.foldl opN (thrN (addN [] s.first.listens) (s.threads.take k)) (l.take n))) hx
            repeat ((conv => whnf); first | refine ⟨Eq.refl _, ?_⟩ | refine ⟨⟨Eq.refl _, Eq.refl _⟩, ?_⟩ | refine ⟨⟨Eq.refl _, Eq.refl _, Eq.refl _⟩, ?_⟩ | refine ⟨⟨Eq.refl _, Eq.refl _, Eq.refl _, Eq.refl _⟩, ?_⟩ | refine ⟨⟨Eq.refl _, Eq.refl _, Eq.refl _, Eq.refl _, Eq.refl _⟩, ?_⟩ | refine fun (_ : Nat) => ?_ | refine fun (_ : Option Addr) (_ : Nat) => ?_ | fail)
            conv => whnf
            refine ⟨a, rfl, ⟨by omega, by omega⟩, ?_⟩
            conv => whnf
            refine ⟨_, hcx 0 _ rfl, ?_⟩
            repeat ((conv => whnf); first | refine ⟨Eq.refl _, ?_⟩ | refine ⟨⟨Eq.refl _, Eq.refl _⟩, ?_⟩ | refine ⟨⟨Eq.refl _, Eq.refl _, Eq.refl _⟩, ?_⟩ | refine ⟨⟨Eq.refl _, Eq.refl _, Eq.refl _, Eq.refl _⟩, ?_⟩ | refine ⟨⟨Eq.refl _, Eq.refl _, Eq.refl _, Eq.refl _, Eq.refl _⟩, ?_⟩ | refine fun (_ : Nat) => ?_ | refine fun (_ : Option Addr) (_ : Nat) => ?_ | fail)
            have hout : rSl 1 rStr g' (.slice oX nX cX) (addN (List.foldl opN (thrN (addN [] s.first.listens) (s.threads.take k)) (l.take n)) (o.config.listens.take k1)) := rSl_of1 hpb.rd _ .string rfl fun _ _ => rfl
            have hix := idx_any (fun z => bs z == bs x) (addN (List.foldl opN (thrN (addN [] s.first.listens) (s.threads.take k)) (l.take n)) (o.config.listens.take k1))
            conv => whnf
            refine .inl ⟨_, ok_Listen _ hout _, ?_⟩
            repeat ((conv => whnf); first | refine ⟨Eq.refl _, ?_⟩ | refine ⟨⟨Eq.refl _, Eq.refl _⟩, ?_⟩ | refine ⟨⟨Eq.refl _, Eq.refl _, Eq.refl _⟩, ?_⟩ | refine ⟨⟨Eq.refl _, Eq.refl _, Eq.refl _, Eq.refl _⟩, ?_⟩ | refine ⟨⟨Eq.refl _, Eq.refl _, Eq.refl _, Eq.refl _, Eq.refl _⟩, ?_⟩ | refine fun (_ : Nat) => ?_ | refine fun (_ : Option Addr) (_ : Nat) => ?_ | fail)
            conv => whnf
            refine ⟨fun hc2 => ?_, fun hc2 => ?_⟩
            · have hc3 : hasS (addN (List.foldl opN (thrN (addN [] s.first.listens) (s.threads.take k)) (l.take n)) (o.config.listens.take k1)) x = false := by
                have := of_decide_eq_true hc2
                show (addN (List.foldl opN (thrN (addN [] s.first.listens) (s.threads.take k)) (l.take n)) (o.config.listens.take k1)).any _ = false
                rw [← hix, decide_eq_false (by omega)]
              rw [if_neg (by rw [hc3]; simp)] at hAT
              have hlen := addN_len (out := (List.foldl opN (thrN (addN [] s.first.listens) (s.threads.take k)) (l.take n))) (l := o.config.listens.take k1)
              rw [List.length_take] at hlen
              try simp only [List.length_nil] at hlen
              repeat ((conv => whnf); first | refine ⟨Eq.refl _, ?_⟩ | refine ⟨⟨Eq.refl _, Eq.refl _⟩, ?_⟩ | refine ⟨⟨Eq.refl _, Eq.refl _, Eq.refl _⟩, ?_⟩ | refine ⟨⟨Eq.refl _, Eq.refl _, Eq.refl _, Eq.refl _⟩, ?_⟩ | refine ⟨⟨Eq.refl _, Eq.refl _, Eq.refl _, Eq.refl _, Eq.refl _⟩, ?_⟩ | refine fun (_ : Nat) => ?_ | refine fun (_ : Option Addr) (_ : Nat) => ?_ | fail)
              conv => whnf
              refine ⟨a, rfl, ⟨by omega, by omega⟩, ?_⟩
              conv => whnf
              refine ⟨_, hcx 0 _ rfl, ?_⟩
              repeat ((conv => whnf); first | refine ⟨Eq.refl _, ?_⟩ | refine ⟨⟨Eq.refl _, Eq.refl _⟩, ?_⟩ | refine ⟨⟨Eq.refl _, Eq.refl _, Eq.refl _⟩, ?_⟩ | refine ⟨⟨Eq.refl _, Eq.refl _, Eq.refl _, Eq.refl _⟩, ?_⟩ | refine ⟨⟨Eq.refl _, Eq.refl _, Eq.refl _, Eq.refl _, Eq.refl _⟩, ?_⟩ | refine fun (_ : Nat) => ?_ | refine fun (_ : Option Addr) (_ : Nat) => ?_ | fail)
              rcases hpb.2.1 with ⟨he, hn0⟩ | ⟨bk, cap', rest, he, hb1, hb2, hb3, hb4, hb5⟩
              · cases he
                have ho0 : addN (List.foldl opN (thrN (addN [] s.first.listens) (s.threads.take k)) (l.take n)) (o.config.listens.take k1) = [] := List.length_eq_zero_iff.1 (by omega)
                rw [ho0] at hAT
                repeat ((conv => whnf); first | refine ⟨Eq.refl _, ?_⟩ | refine ⟨⟨Eq.refl _, Eq.refl _⟩, ?_⟩ | refine ⟨⟨Eq.refl _, Eq.refl _, Eq.refl _⟩, ?_⟩ | refine ⟨⟨Eq.refl _, Eq.refl _, Eq.refl _, Eq.refl _⟩, ?_⟩ | refine ⟨⟨Eq.refl _, Eq.refl _, Eq.refl _, Eq.refl _, Eq.refl _⟩, ?_⟩ | refine fun (_ : Nat) => ?_ | refine fun (_ : Option Addr) (_ : Nat) => ?_ | fail)
                conv => whnf
                refine ⟨⟨by unfold maxLen; omega, by omega⟩, fun oa3 cap3 => ?_⟩
                repeat ((conv => whnf); first | refine ⟨Eq.refl _, ?_⟩ | refine ⟨⟨Eq.refl _, Eq.refl _⟩, ?_⟩ | refine ⟨⟨Eq.refl _, Eq.refl _, Eq.refl _⟩, ?_⟩ | refine ⟨⟨Eq.refl _, Eq.refl _, Eq.refl _, Eq.refl _⟩, ?_⟩ | refine ⟨⟨Eq.refl _, Eq.refl _, Eq.refl _, Eq.refl _, Eq.refl _⟩, ?_⟩ | refine fun (_ : Nat) => ?_ | refine fun (_ : Option Addr) (_ : Nat) => ?_ | fail)
                conv => whnf
                refine fun fr w hw => by
                  have hw1 : HSim fr ⟨g', .row 70 oa3 (1) cap3 ty_string 1 ([Value.string x]) :: [.blk 30 qo ty_api_Op [.v (.int .i64 o.kind), .v (.string o.listen), .v (.string o.host), .v (.string o.path), .v (.int .i64 o.d0), .v (.int .i64 o.d1), .v (.int .i64 o.n), .v (.slice (some a) o.config.listens.length cm), .v (.slice oR o.config.routes.length cR), .v (.slice oK o.config.clusters.length cK)], .blk 0 q0 ty_api_Script [.v (.slice oa s.first.listens.length ca), .v (.slice ob s.first.routes.length cb), .v (.slice od s.first.clusters.length cd), .v (.slice (some aT) s.threads.length ct), .v (.slice op s.picks.length cp)]], 80, g.w.heap.size⟩ w := hw.fit (by simp [fitL, Res.eqv, concL, conc])
                  obtain ⟨g2, k1', k2, k3, k4⟩ := hw1.row_pub
                  refine ⟨(k1 + 1, oa3, 1, cap3, g2), congrArg (fun z => [Value.slice oa3 1 cap3, Value.int .i64 z]) (wr1 h' m1 m2).symm, ⟨h', ?_, ?_, ?_⟩, dec h', k4.fit (by simp [fitL, Res.eqv, concL, conc])⟩
                  · exact GW.trans hgg k1'
                  · rw [hAT]; rfl
                  · rw [hAT]; exact k3
              · cases he
                have hbk : ¬ g.g bk := fun h => by have := g.wf _ h; have := hb1.1; omega
                repeat ((conv => whnf); first | refine ⟨Eq.refl _, ?_⟩ | refine ⟨⟨Eq.refl _, Eq.refl _⟩, ?_⟩ | refine ⟨⟨Eq.refl _, Eq.refl _, Eq.refl _⟩, ?_⟩ | refine ⟨⟨Eq.refl _, Eq.refl _, Eq.refl _, Eq.refl _⟩, ?_⟩ | refine ⟨⟨Eq.refl _, Eq.refl _, Eq.refl _, Eq.refl _, Eq.refl _⟩, ?_⟩ | refine fun (_ : Nat) => ?_ | refine fun (_ : Option Addr) (_ : Nat) => ?_ | fail)
                conv => whnf
                refine .inr ⟨bk, _, rest, ⟨rfl, hb1.1, hb1.2, hb2, by rw [List.length_map, hn]; omega, hpb.2.2, hb3, hb4, hb5, by unfold maxLen; omega, by omega⟩, fun gL hless oa3 cap3 => ?_⟩
                repeat ((conv => whnf); first | refine ⟨Eq.refl _, ?_⟩ | refine ⟨⟨Eq.refl _, Eq.refl _⟩, ?_⟩ | refine ⟨⟨Eq.refl _, Eq.refl _, Eq.refl _⟩, ?_⟩ | refine ⟨⟨Eq.refl _, Eq.refl _, Eq.refl _, Eq.refl _⟩, ?_⟩ | refine ⟨⟨Eq.refl _, Eq.refl _, Eq.refl _, Eq.refl _, Eq.refl _⟩, ?_⟩ | refine fun (_ : Nat) => ?_ | refine fun (_ : Option Addr) (_ : Nat) => ?_ | fail)
                conv => whnf
                refine fun fr w hw => by
                  have hw1 : HSim fr ⟨gL, .row 70 oa3 (nX + 1) cap3 ty_string 1 (cS (addN (List.foldl opN (thrN (addN [] s.first.listens) (s.threads.take k)) (l.take n)) (o.config.listens.take k1)) ++ [Value.string x]) :: [.blk 30 qo ty_api_Op [.v (.int .i64 o.kind), .v (.string o.listen), .v (.string o.host), .v (.string o.path), .v (.int .i64 o.d0), .v (.int .i64 o.d1), .v (.int .i64 o.n), .v (.slice (some a) o.config.listens.length cm), .v (.slice oR o.config.routes.length cR), .v (.slice oK o.config.clusters.length cK)], .blk 0 q0 ty_api_Script [.v (.slice oa s.first.listens.length ca), .v (.slice ob s.first.routes.length cb), .v (.slice od s.first.clusters.length cd), .v (.slice (some aT) s.threads.length ct), .v (.slice op s.picks.length cp)]], 80, g.w.heap.size⟩ w := hw.fit (by simp [fitL, Res.eqv, concL, conc])
                  obtain ⟨g2, k1', k2, k3, k4⟩ := hw1.row_pub
                  refine ⟨(k1 + 1, oa3, nX + 1, cap3, g2), congrArg (fun z => [Value.slice oa3 (nX + 1) cap3, Value.int .i64 z]) (wr1 h' m1 m2).symm, ⟨h', ?_, ?_, ?_⟩, dec h', k4.fit (by simp [fitL, Res.eqv, concL, conc])⟩
                  · exact GW.trans (hless.le hgg hbk) k1'
                  · rw [hAT, hn]; simp
                  · rw [hAT]; simpa using k3
            · have hc3 : hasS (addN (List.foldl opN (thrN (addN [] s.first.listens) (s.threads.take k)) (l.take n)) (o.config.listens.take k1)) x = true := by
                have := of_decide_eq_false hc2
                show (addN (List.foldl opN (thrN (addN [] s.first.listens) (s.threads.take k)) (l.take n)) (o.config.listens.take k1)).any _ = true
                rw [← hix, decide_eq_true (by omega)]
              rw [if_pos hc3] at hAT
              repeat ((conv => whnf); first | refine ⟨Eq.refl _, ?_⟩ | refine ⟨⟨Eq.refl _, Eq.refl _⟩, ?_⟩ | refine ⟨⟨Eq.refl _, Eq.refl _, Eq.refl _⟩, ?_⟩ | refine ⟨⟨Eq.refl _, Eq.refl _, Eq.refl _, Eq.refl _⟩, ?_⟩ | refine ⟨⟨Eq.refl _, Eq.refl _, Eq.refl _, Eq.refl _, Eq.refl _⟩, ?_⟩ | refine fun (_ : Nat) => ?_ | refine fun (_ : Option Addr) (_ : Nat) => ?_ | fail)
              conv => whnf
              refine fun fr w hw => ⟨(k1 + 1, oX, nX, cX, g'), congrArg (fun z => [Value.slice oX nX cX, Value.int .i64 z]) (wr1 h' m1 m2).symm, ⟨h', hgg, by rw [hAT]; exact hn, by rw [hAT]; exact hpb⟩, dec h', ?_⟩
              exact hw.fit (by simp [fitL, Res.eqv, concL, conc])
          have hkL : k1 = o.config.listens.length := by have := of_decide_eq_false hlt; omega
          rw [hkL, List.take_length] at hn hpb
          clear hlt hk hkL
          repeat ((conv => whnf); first | refine ⟨Eq.refl _, ?_⟩ | refine ⟨⟨Eq.refl _, Eq.refl _⟩, ?_⟩ | refine ⟨⟨Eq.refl _, Eq.refl _, Eq.refl _⟩, ?_⟩ | refine ⟨⟨Eq.refl _, Eq.refl _, Eq.refl _, Eq.refl _⟩, ?_⟩ | refine ⟨⟨Eq.refl _, Eq.refl _, Eq.refl _, Eq.refl _, Eq.refl _⟩, ?_⟩ | refine fun (_ : Nat) => ?_ | refine fun (_ : Option Addr) (_ : Nat) => ?_ | fail)
          conv => whnf
          refine fun fr w hw => ⟨(n + 1, oX, nX, cX, g'), congrArg (fun z => [Value.slice oX nX cX, Value.int .i64 z]) (wr1 hno o1 o2).symm, ⟨hno, hgg, by rw [hMT, hopY]; exact hn, by rw [hMT, hopY]; exact hpb⟩, dec hno, ?_⟩
          exact hw.fit (by simp [fitL, Res.eqv, concL, conc])
        · have hopY : ∀ out, opN out o = out := fun out => by rw [opN, if_neg hkc]
          rcases ei_val (checkE o.config) with ⟨hz, hv'⟩ | ⟨e, i, hz, hv'⟩
          · conv => whnf
            refine .inl ⟨_, hchk.to hv', ?_⟩
            repeat ((conv => whnf); first | refine ⟨Eq.refl _, ?_⟩ | refine ⟨⟨Eq.refl _, Eq.refl _⟩, ?_⟩ | refine ⟨⟨Eq.refl _, Eq.refl _, Eq.refl _⟩, ?_⟩ | refine ⟨⟨Eq.refl _, Eq.refl _, Eq.refl _, Eq.refl _⟩, ?_⟩ | refine ⟨⟨Eq.refl _, Eq.refl _, Eq.refl _, Eq.refl _, Eq.refl _⟩, ?_⟩ | refine fun (_ : Nat) => ?_ | refine fun (_ : Option Addr) (_ : Nat) => ?_ | fail)
            conv => whnf
            refine ⟨fun hx => absurd (hx.symm.trans ((show (o.kind == 3) = false by simpa using fun h => hkc ⟨h, hz⟩))) (by decide), fun _ => ?_⟩
            repeat ((conv => whnf); first | refine ⟨Eq.refl _, ?_⟩ | refine ⟨⟨Eq.refl _, Eq.refl _⟩, ?_⟩ | refine ⟨⟨Eq.refl _, Eq.refl _, Eq.refl _⟩, ?_⟩ | refine ⟨⟨Eq.refl _, Eq.refl _, Eq.refl _, Eq.refl _⟩, ?_⟩ | refine ⟨⟨Eq.refl _, Eq.refl _, Eq.refl _, Eq.refl _, Eq.refl _⟩, ?_⟩ | refine fun (_ : Nat) => ?_ | refine fun (_ : Option Addr) (_ : Nat) => ?_ | fail)
            conv => whnf
            refine fun fr w hw => ⟨(n + 1, oY, nY, cY, gy), congrArg (fun z => [Value.slice oY nY cY, Value.int .i64 z]) (wr1 hno o1 o2).symm, ⟨hno, hgy, by rw [hMT, hopY]; exact hnY, by rw [hMT, hopY]; exact hpY⟩, dec hno, ?_⟩
            exact hw.fit (by simp [fitL, Res.eqv, concL, conc])
          · have hne := checkE_ne hz
            conv => whnf
            refine .inl ⟨_, hchk.to hv', ?_⟩
            repeat ((conv => whnf); first | refine ⟨Eq.refl _, ?_⟩ | refine ⟨⟨Eq.refl _, Eq.refl _⟩, ?_⟩ | refine ⟨⟨Eq.refl _, Eq.refl _, Eq.refl _⟩, ?_⟩ | refine ⟨⟨Eq.refl _, Eq.refl _, Eq.refl _, Eq.refl _⟩, ?_⟩ | refine ⟨⟨Eq.refl _, Eq.refl _, Eq.refl _, Eq.refl _, Eq.refl _⟩, ?_⟩ | refine fun (_ : Nat) => ?_ | refine fun (_ : Option Addr) (_ : Nat) => ?_ | fail)
            conv => whnf
            refine ⟨fun q3 => ?_, fun q3 => ?_⟩
            · repeat ((conv => whnf); first | refine ⟨Eq.refl _, ?_⟩ | refine ⟨⟨Eq.refl _, Eq.refl _⟩, ?_⟩ | refine ⟨⟨Eq.refl _, Eq.refl _, Eq.refl _⟩, ?_⟩ | refine ⟨⟨Eq.refl _, Eq.refl _, Eq.refl _, Eq.refl _⟩, ?_⟩ | refine ⟨⟨Eq.refl _, Eq.refl _, Eq.refl _, Eq.refl _, Eq.refl _⟩, ?_⟩ | refine fun (_ : Nat) => ?_ | refine fun (_ : Option Addr) (_ : Nat) => ?_ | fail)
              conv => whnf
              refine ⟨fun hx => absurd (hx.symm.trans ((show (e == 0) = false by simp; omega))) (by decide), fun _ => ?_⟩
              repeat ((conv => whnf); first | refine ⟨Eq.refl _, ?_⟩ | refine ⟨⟨Eq.refl _, Eq.refl _⟩, ?_⟩ | refine ⟨⟨Eq.refl _, Eq.refl _, Eq.refl _⟩, ?_⟩ | refine ⟨⟨Eq.refl _, Eq.refl _, Eq.refl _, Eq.refl _⟩, ?_⟩ | refine ⟨⟨Eq.refl _, Eq.refl _, Eq.refl _, Eq.refl _, Eq.refl _⟩, ?_⟩ | refine fun (_ : Nat) => ?_ | refine fun (_ : Option Addr) (_ : Nat) => ?_ | fail)
              conv => whnf
              refine fun fr w hw => ⟨(n + 1, oY, nY, cY, gy), congrArg (fun z => [Value.slice oY nY cY, Value.int .i64 z]) (wr1 hno o1 o2).symm, ⟨hno, hgy, by rw [hMT, hopY]; exact hnY, by rw [hMT, hopY]; exact hpY⟩, dec hno, ?_⟩
              exact hw.fit (by simp [fitL, Res.eqv, concL, conc])
            · repeat ((conv => whnf); first | refine ⟨Eq.refl _, ?_⟩ | refine ⟨⟨Eq.refl _, Eq.refl _⟩, ?_⟩ | refine ⟨⟨Eq.refl _, Eq.refl _, Eq.refl _⟩, ?_⟩ | refine ⟨⟨Eq.refl _, Eq.refl _, Eq.refl _, Eq.refl _⟩, ?_⟩ | refine ⟨⟨Eq.refl _, Eq.refl _, Eq.refl _, Eq.refl _, Eq.refl _⟩, ?_⟩ | refine fun (_ : Nat) => ?_ | refine fun (_ : Option Addr) (_ : Nat) => ?_ | fail)
              conv => whnf
              refine fun fr w hw => ⟨(n + 1, oY, nY, cY, gy), congrArg (fun z => [Value.slice oY nY cY, Value.int .i64 z]) (wr1 hno o1 o2).symm, ⟨hno, hgy, by rw [hMT, hopY]; exact hnY, by rw [hMT, hopY]; exact hpY⟩, dec hno, ?_⟩
              exact hw.fit (by simp [fitL, Res.eqv, concL, conc])
      have hnL : n = l.length := by have := of_decide_eq_false hln; omega
      rw [hnL, List.take_length] at hnY hpY
      repeat ((conv => whnf); first | refine ⟨Eq.refl _, ?_⟩ | refine ⟨⟨Eq.refl _, Eq.refl _⟩, ?_⟩ | refine ⟨⟨Eq.refl _, Eq.refl _, Eq.refl _⟩, ?_⟩ | refine ⟨⟨Eq.refl _, Eq.refl _, Eq.refl _, Eq.refl _⟩, ?_⟩ | refine ⟨⟨Eq.refl _, Eq.refl _, Eq.refl _, Eq.refl _, Eq.refl _⟩, ?_⟩ | refine fun (_ : Nat) => ?_ | refine fun (_ : Option Addr) (_ : Nat) => ?_ | fail)
      conv => whnf
      refine fun fr w hw => ⟨(k + 1, oY, nY, cY, gy), congrArg (fun z => [Value.slice oY nY cY, Value.int .i64 z]) (wr1 hkt t1 t2).symm, ⟨hkt, hgy, by rw [hNT]; exact hnY, by rw [hNT]; exact hpY⟩, dec hkt, ?_⟩
      exact hw.fit (by simp [fitL, Res.eqv, concL, conc])
    have hkL : k = s.threads.length := by have := of_decide_eq_false hlz; omega
    rw [hkL, List.take_length] at hnZ hpZ
    repeat ((conv => whnf); first | refine ⟨Eq.refl _, ?_⟩ | refine ⟨⟨Eq.refl _, Eq.refl _⟩, ?_⟩ | refine ⟨⟨Eq.refl _, Eq.refl _, Eq.refl _⟩, ?_⟩ | refine ⟨⟨Eq.refl _, Eq.refl _, Eq.refl _, Eq.refl _⟩, ?_⟩ | refine ⟨⟨Eq.refl _, Eq.refl _, Eq.refl _, Eq.refl _, Eq.refl _⟩, ?_⟩ | refine fun (_ : Nat) => ?_ | refine fun (_ : Option Addr) (_ : Nat) => ?_ | fail)
    conv => whnf
    intro g2 hg
    exact (rSl_of1 hpZ.rd _ .string rfl fun _ _ => rfl).mono rStr_mono hg)
end Go.Proofs.Ytedjbhpocedagaa

/- Whether a configuration may be: what the laws ask first. -/
namespace Go.Proofs.Ytedjbhpocedagaa
open Go.Proofs.Ytedjbhpocedagaa.Sx Go.RowKit
theorem cfg_of {g : GW} {lo e1 e2 e3 e4 : Nat} (l : List BA) (r : List Route) (k1 k2 : Cluster) {h1 h2 vL vR vC : Value} (hL : PbSl g lo e1 1 vL l.length (l.map .string)) (hR : PbSl g lo e2 4 vR r.length (r.map cRoute).flatten)
    (hC : PbSl g lo e3 4 vC 2 (cClus k1 h1 ++ cClus k2 h2)) (hH1 : PbSl g lo e4 1 h1 k1.health.length (k1.health.map .bool)) (hH2 : PbSl g lo e4 1 h2 k2.health.length (k2.health.map .bool))
    (hI : (InR k1.policy ∧ InR k1.slots) ∧ InR k2.policy ∧ InR k2.slots) : rConfig g [vL, vR, vC] ⟨l, r, [k1, k2]⟩ := by
  refine ⟨_, _, _, rfl, rSl_of1 hL.rd l .string rfl fun _ _ => rfl, rSl_ofE hR.rd r cRoute rfl rfl (fun _ _ => rfl) fun _ _ => rfl, rSl_of hC.rd [k1, k2] [cClus k1 h1, cClus k2 h2] (by simp) (by simp) rfl rfl fun i x ec hx hec => ?_⟩
  have b1 := rSl_of1 (R := rBool) hH1.rd k1.health .bool rfl fun _ _ => rfl
  have b2 := rSl_of1 (R := rBool) hH2.rd k2.health .bool rfl fun _ _ => rfl
  match i, hx, hec with
  | 0, hx, hec => cases hx; cases hec; exact ⟨_, rfl, hI.1.1, hI.1.2, b1⟩
  | 1, hx, hec => cases hx; cases hec; exact ⟨_, rfl, hI.2.1, hI.2.2, b2⟩
  | i + 2, hx, hec => simp at hx
abbrev sIn : BA := ⟨#[105, 110]⟩
abbrev sA : BA := ⟨#[97]⟩
abbrev sB : BA := ⟨#[98]⟩
abbrev pR1 : Route := ⟨sIn, ⟨#[42]⟩, ⟨#[47]⟩, sA⟩
abbrev pR2 : Route := ⟨sIn, ⟨#[120]⟩, ⟨#[47]⟩, sB⟩
abbrev pC1 : Cluster := ⟨sA, 1, 1, [true]⟩
abbrev pC2 : Cluster := ⟨sB, 2, 4, [false, true]⟩
end Go.Proofs.Ytedjbhpocedagaa

/- Scripts: the example that the laws ask first. -/
namespace Go.Proofs.Ytedjbhpocedagaa
open Go.Proofs.Ytedjbhpocedagaa.Sx Go.RowKit
theorem cfg1_of {g : GW} {lo e1 e2 e3 e4 : Nat} (l : List BA) (r : List Route) (k1 : Cluster) {h1 vL vR vC : Value} (hL : PbSl g lo e1 1 vL l.length (l.map .string)) (hR : PbSl g lo e2 4 vR r.length (r.map cRoute).flatten)
    (hC : PbSl g lo e3 4 vC 1 (cClus k1 h1)) (hH1 : PbSl g lo e4 1 h1 k1.health.length (k1.health.map .bool))
    (hI : InR k1.policy ∧ InR k1.slots) : rConfig g [vL, vR, vC] ⟨l, r, [k1]⟩ := by
  refine ⟨_, _, _, rfl, rSl_of1 hL.rd l .string rfl fun _ _ => rfl, rSl_ofE hR.rd r cRoute rfl rfl (fun _ _ => rfl) fun _ _ => rfl, rSl_of hC.rd [k1] [cClus k1 h1] (by simp) (by simp) rfl rfl fun i x ec hx hec => ?_⟩
  have b1 := rSl_of1 (R := rBool) hH1.rd k1.health .bool rfl fun _ _ => rfl
  match i, hx, hec with
  | 0, hx, hec => cases hx; cases hec; exact ⟨_, rfl, hI.1, hI.2, b1⟩
  | i + 1, hx, hec => simp at hx
theorem nilS {α : Type} (sz : Nat) (R : RP α) (g : GW) : rSl sz R g (.slice none 0 0) [] := ⟨none, 0, rfl, Nat.le_refl _, Nat.zero_le _, fun _ => ⟨rfl, rfl⟩, fun i x hx => by simp at hx⟩
abbrev sWeb : BA := ⟨#[119, 101, 98]⟩
abbrev sE : BA := ⟨#[]⟩
abbrev cfg8 : Config := ⟨[sIn], [pR1], [pC1]⟩
abbrev cfg8b : Config := ⟨[sWeb, sIn], [pR1], [pC1]⟩
abbrev ops8 : List OpD := [⟨3, sE, sE, sE, 0, 0, 0, cfg8b⟩, ⟨3, sE, sE, sE, 0, 0, 0, ⟨[], [], []⟩⟩]
abbrev scr8 : Script := ⟨cfg8, [ops8], [0, 300]⟩
theorem ok_plain8 (g : GW) : Ok Try.prog n_hydrantlaw08_plain [] g fun v g' => ∃ cs, v = .agg ⟨cs⟩ ∧ rScript g' cs scr8 :=
  Ok.of_fn hm noT 0 t_hydrantlaw08_plain (args := []) (by
    repeat ((conv => whnf); first | refine ⟨Eq.refl _, ?_⟩ | refine ⟨⟨Eq.refl _, Eq.refl _⟩, ?_⟩ | refine ⟨⟨Eq.refl _, Eq.refl _, Eq.refl _⟩, ?_⟩ | refine ⟨⟨Eq.refl _, Eq.refl _, Eq.refl _, Eq.refl _⟩, ?_⟩ | refine ⟨⟨Eq.refl _, Eq.refl _, Eq.refl _, Eq.refl _, Eq.refl _⟩, ?_⟩ | refine fun (_ : Nat) => ?_ | refine fun (_ : Option Addr) (_ : Nat) => ?_ | fail)
    conv => whnf
    refine ⟨1, rfl, by unfold maxLen; omega, fun g1 hg1 hn1 hp1 => ?_⟩
    repeat ((conv => whnf); first | refine ⟨Eq.refl _, ?_⟩ | refine ⟨⟨Eq.refl _, Eq.refl _⟩, ?_⟩ | refine ⟨⟨Eq.refl _, Eq.refl _, Eq.refl _⟩, ?_⟩ | refine ⟨⟨Eq.refl _, Eq.refl _, Eq.refl _, Eq.refl _⟩, ?_⟩ | refine ⟨⟨Eq.refl _, Eq.refl _, Eq.refl _, Eq.refl _, Eq.refl _⟩, ?_⟩ | refine fun (_ : Nat) => ?_ | refine fun (_ : Option Addr) (_ : Nat) => ?_ | fail)
    conv => whnf
    refine ⟨4, rfl, by unfold maxLen; omega, fun g2 hg2 hn2 hp2 => ?_⟩
    repeat ((conv => whnf); first | refine ⟨Eq.refl _, ?_⟩ | refine ⟨⟨Eq.refl _, Eq.refl _⟩, ?_⟩ | refine ⟨⟨Eq.refl _, Eq.refl _, Eq.refl _⟩, ?_⟩ | refine ⟨⟨Eq.refl _, Eq.refl _, Eq.refl _, Eq.refl _⟩, ?_⟩ | refine ⟨⟨Eq.refl _, Eq.refl _, Eq.refl _, Eq.refl _, Eq.refl _⟩, ?_⟩ | refine fun (_ : Nat) => ?_ | refine fun (_ : Option Addr) (_ : Nat) => ?_ | fail)
    conv => whnf
    refine ⟨1, rfl, by unfold maxLen; omega, fun g3 hg3 hn3 hp3 => ?_⟩
    repeat ((conv => whnf); first | refine ⟨Eq.refl _, ?_⟩ | refine ⟨⟨Eq.refl _, Eq.refl _⟩, ?_⟩ | refine ⟨⟨Eq.refl _, Eq.refl _, Eq.refl _⟩, ?_⟩ | refine ⟨⟨Eq.refl _, Eq.refl _, Eq.refl _, Eq.refl _⟩, ?_⟩ | refine ⟨⟨Eq.refl _, Eq.refl _, Eq.refl _, Eq.refl _, Eq.refl _⟩, ?_⟩ | refine fun (_ : Nat) => ?_ | refine fun (_ : Option Addr) (_ : Nat) => ?_ | fail)
    conv => whnf
    refine ⟨4, rfl, by unfold maxLen; omega, fun g4 hg4 hn4 hp4 => ?_⟩
    repeat ((conv => whnf); first | refine ⟨Eq.refl _, ?_⟩ | refine ⟨⟨Eq.refl _, Eq.refl _⟩, ?_⟩ | refine ⟨⟨Eq.refl _, Eq.refl _, Eq.refl _⟩, ?_⟩ | refine ⟨⟨Eq.refl _, Eq.refl _, Eq.refl _, Eq.refl _⟩, ?_⟩ | refine ⟨⟨Eq.refl _, Eq.refl _, Eq.refl _, Eq.refl _, Eq.refl _⟩, ?_⟩ | refine fun (_ : Nat) => ?_ | refine fun (_ : Option Addr) (_ : Nat) => ?_ | fail)
    conv => whnf
    refine ⟨1, rfl, by unfold maxLen; omega, fun g5 hg5 hn5 hp5 => ?_⟩
    repeat ((conv => whnf); first | refine ⟨Eq.refl _, ?_⟩ | refine ⟨⟨Eq.refl _, Eq.refl _⟩, ?_⟩ | refine ⟨⟨Eq.refl _, Eq.refl _, Eq.refl _⟩, ?_⟩ | refine ⟨⟨Eq.refl _, Eq.refl _, Eq.refl _, Eq.refl _⟩, ?_⟩ | refine ⟨⟨Eq.refl _, Eq.refl _, Eq.refl _, Eq.refl _, Eq.refl _⟩, ?_⟩ | refine fun (_ : Nat) => ?_ | refine fun (_ : Option Addr) (_ : Nat) => ?_ | fail)
    conv => whnf
    refine ⟨10, rfl, by unfold maxLen; omega, fun g6 hg6 hn6 hp6 => ?_⟩
    repeat ((conv => whnf); first | refine ⟨Eq.refl _, ?_⟩ | refine ⟨⟨Eq.refl _, Eq.refl _⟩, ?_⟩ | refine ⟨⟨Eq.refl _, Eq.refl _, Eq.refl _⟩, ?_⟩ | refine ⟨⟨Eq.refl _, Eq.refl _, Eq.refl _, Eq.refl _⟩, ?_⟩ | refine ⟨⟨Eq.refl _, Eq.refl _, Eq.refl _, Eq.refl _, Eq.refl _⟩, ?_⟩ | refine fun (_ : Nat) => ?_ | refine fun (_ : Option Addr) (_ : Nat) => ?_ | fail)
    conv => whnf
    refine ⟨1, rfl, by unfold maxLen; omega, fun g7 hg7 hn7 hp7 => ?_⟩
    repeat ((conv => whnf); first | refine ⟨Eq.refl _, ?_⟩ | refine ⟨⟨Eq.refl _, Eq.refl _⟩, ?_⟩ | refine ⟨⟨Eq.refl _, Eq.refl _, Eq.refl _⟩, ?_⟩ | refine ⟨⟨Eq.refl _, Eq.refl _, Eq.refl _, Eq.refl _⟩, ?_⟩ | refine ⟨⟨Eq.refl _, Eq.refl _, Eq.refl _, Eq.refl _, Eq.refl _⟩, ?_⟩ | refine fun (_ : Nat) => ?_ | refine fun (_ : Option Addr) (_ : Nat) => ?_ | fail)
    conv => whnf
    refine ⟨1, rfl, by unfold maxLen; omega, fun g8 hg8 hn8 hp8 => ?_⟩
    repeat ((conv => whnf); first | refine ⟨Eq.refl _, ?_⟩ | refine ⟨⟨Eq.refl _, Eq.refl _⟩, ?_⟩ | refine ⟨⟨Eq.refl _, Eq.refl _, Eq.refl _⟩, ?_⟩ | refine ⟨⟨Eq.refl _, Eq.refl _, Eq.refl _, Eq.refl _⟩, ?_⟩ | refine ⟨⟨Eq.refl _, Eq.refl _, Eq.refl _, Eq.refl _, Eq.refl _⟩, ?_⟩ | refine fun (_ : Nat) => ?_ | refine fun (_ : Option Addr) (_ : Nat) => ?_ | fail)
    conv => whnf
    intro g9 hg9
    have k1 := (((((((hp1.mono hg2).mono hg3).mono hg4).mono hg5).mono hg6).mono hg7).mono hg8).mono hg9
    have k2 := ((((((hp2.mono hg3).mono hg4).mono hg5).mono hg6).mono hg7).mono hg8).mono hg9
    have k3 := (((((hp3.mono hg4).mono hg5).mono hg6).mono hg7).mono hg8).mono hg9
    have k4 := ((((hp4.mono hg5).mono hg6).mono hg7).mono hg8).mono hg9
    have k5 := (((hp5.mono hg6).mono hg7).mono hg8).mono hg9
    have k6 := ((hp6.mono hg7).mono hg8).mono hg9
    have k7 := (hp7.mono hg8).mono hg9
    have k8 := hp8.mono hg9
    have hA : rConfig g9 _ cfg8 := cfg1_of [sIn] [pR1] pC1 k1 k2 k4 k3 (by decide)
    have hB : rConfig g9 _ cfg8b := cfg1_of [sWeb, sIn] [pR1] pC1 k5 k2 k4 k3 (by decide)
    have hO : rSl 10 rOp g9 _ ops8 := rSl_ch k6.rd ops8 rfl (by decide) fun i x hx => by
      match i, hx with
      | 0, hx => cases hx; exact ⟨_, _, _, rfl, by decide, hB⟩
      | 1, hx => cases hx; exact ⟨_, _, _, rfl, by decide, ⟨_, _, _, rfl, nilS .., nilS .., nilS ..⟩⟩
      | i + 2, hx => simp at hx
    have hT : rSl 1 rThread g9 _ [ops8] := rSl_ch k7.rd [ops8] rfl (by decide) fun i x hx => by
      match i, hx with
      | 0, hx => cases hx; exact ⟨_, rfl, hO⟩
      | i + 1, hx => simp at hx
    have hP : rSl 1 rInt g9 _ [0, 300] := rSl_of1 k8.rd [0, 300] (.int .i64) rfl (by intro x hx; simp only [List.mem_cons, List.not_mem_nil, or_false] at hx; rcases hx with rfl | rfl <;> exact ⟨rfl, by decide⟩)
    exact ⟨_, rfl, _, _, _, _, _, rfl, hA, hT, hP⟩)
end Go.Proofs.Ytedjbhpocedagaa
