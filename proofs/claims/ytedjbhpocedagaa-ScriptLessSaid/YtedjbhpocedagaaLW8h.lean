/- Scripts: the listeners' names, the program's answer. -/
import Derived.Test.YtedjbhpocedagaaLW8d
import Derived.Test.YtedjbhpocedagaaPl
namespace Go.Proofs.Ytedjbhpocedagaa
open Go.Proofs.Ytedjbhpocedagaa.Sx Go.RowKit
abbrev cS (l : List BA) : List Value := l.map Value.string
def tM : List (Nat × FnI) := [(n_script_configs, f_script_configs), (n_script_configs_1, f_script_configs_1)]
theorem tM_ok : TblOk Try.prog tM := by
  intro x hx
  simp only [tM, List.mem_cons, List.not_mem_nil, or_false] at hx
  rcases hx with rfl | rfl
  · exact ⟨_, _, t_script_configs⟩
  · exact ⟨_, _, t_script_configs_1⟩
def SmS (s : Script) : Prop := s.first.listens.length ≤ 50 ∧ s.threads.length ≤ 20 ∧ ∀ l ∈ s.threads, l.length ≤ 40 ∧ ∀ o ∈ l, o.config.listens.length ≤ 50
theorem ok_scNames (g : GW) {cs : List Value} {s : Script} (hs : rScript g cs s) (hsz : SmS s) : Ok Try.prog n_script_Names [.agg ⟨cs⟩] g fun v g' => rSl 1 rStr g' v (namesL s) := by
  obtain ⟨a, b, d, t, p, rfl, hc, ht, hp⟩ := hs
  have hc0 := hc
  obtain ⟨_, _, _, he, ⟨oa, ca, rfl, l1, l2, l0, hl1⟩, ⟨ob, cb, rfl, _⟩, od, cd, rfl, _⟩ := hc
  cases he
  obtain ⟨ot, ct, rfl, t1, t2, t0, ht1⟩ := id ht
  obtain ⟨op, cp, rfl, p1, p2, p0, hp1⟩ := id hp
  obtain ⟨z1, z2, z3⟩ := hsz
  exact Ok.of_fn hm tM_ok 2 t_script_Names (args := [.v (.agg ⟨[.slice oa s.first.listens.length ca, .slice ob s.first.routes.length cb, .slice od s.first.clusters.length cd, .slice ot s.threads.length ct, .slice op s.picks.length cp]⟩)]) (by
    repeat ((conv => whnf); first | refine ⟨Eq.refl _, ?_⟩ | refine ⟨⟨Eq.refl _, Eq.refl _⟩, ?_⟩ | refine ⟨⟨Eq.refl _, Eq.refl _, Eq.refl _⟩, ?_⟩ | refine ⟨⟨Eq.refl _, Eq.refl _, Eq.refl _, Eq.refl _⟩, ?_⟩ | refine ⟨⟨Eq.refl _, Eq.refl _, Eq.refl _, Eq.refl _, Eq.refl _⟩, ?_⟩ | refine fun (_ : Nat) => ?_ | refine fun (_ : Option Addr) (_ : Nat) => ?_ | fail)
    conv => whnf
    refine ⟨k_script_configs_1, fun lp rr => ?_⟩
    repeat ((conv => whnf); first | refine ⟨Eq.refl _, ?_⟩ | refine ⟨⟨Eq.refl _, Eq.refl _⟩, ?_⟩ | refine ⟨⟨Eq.refl _, Eq.refl _, Eq.refl _⟩, ?_⟩ | refine ⟨⟨Eq.refl _, Eq.refl _, Eq.refl _, Eq.refl _⟩, ?_⟩ | refine ⟨⟨Eq.refl _, Eq.refl _, Eq.refl _, Eq.refl _, Eq.refl _⟩, ?_⟩ | refine fun (_ : Nat) => ?_ | refine fun (_ : Option Addr) (_ : Nat) => ?_ | fail)
    rename_i q0 q1 q2 qc
    conv => whnf
    refine ⟨Nat × Option Addr × Nat × Nat × GW, fun (kk, _, _, _, _) => [.v (.int .i64 kk)], fun (kk, oX, nX, cX, g') => ⟨g', [.blk 4 qc ty_api_Config [.v (.slice oa s.first.listens.length ca), .v (.slice ob s.first.routes.length cb), .v (.slice od s.first.clusters.length cd)], .lp 3 lp rr .busy, .blk 2 q2 ty_api_Script [.v (.slice oa s.first.listens.length ca), .v (.slice ob s.first.routes.length cb), .v (.slice od s.first.clusters.length cd), .v (.slice ot s.threads.length ct), .v (.slice op s.picks.length cp)], .blk 1 q1 ty_sl_string [.v (.slice oX nX cX)], .blk 0 q0 ty_api_Script [.v (.slice oa s.first.listens.length ca), .v (.slice ob s.first.routes.length cb), .v (.slice od s.first.clusters.length cd), .v (.slice ot s.threads.length ct), .v (.slice op s.picks.length cp)]], 60, g.w.heap.size⟩, fun (kk, oX, nX, cX, g') => kk ≤ s.first.listens.length ∧ g ≤ g' ∧ nX = (addN [] (s.first.listens.take kk)).length ∧ PbSl g' g.w.heap.size ty_string 1 (.slice oX nX cX) nX (cS (addN [] (s.first.listens.take kk))), fun (kk, _, _, _, _) => s.first.listens.length - kk, fun fr w hw => ⟨(0, none, 0, 0, g), rfl, ⟨Nat.zero_le _, GW.refl _, rfl, rfl, .inl ⟨rfl, rfl⟩, fun u hu => by cases hu⟩, hw.fit (by simp [fitL, Res.eqv, concL, conc])⟩, ?_⟩
    rintro ⟨k1, oX, nX, cX, g'⟩ ⟨hk, hgg, hn, hpb⟩
    conv => whnf
    refine ⟨fun hlt => ?_, fun hlt => ?_⟩
    · have h' : k1 < s.first.listens.length := by have := of_decide_eq_true hlt; omega
      obtain ⟨x, hx⟩ := getL_of h'
      obtain ⟨a, rfl, ec, hec, rfl, hcx⟩ := hl1 k1 x hx
      replace hcx := hcx.mono hgg
      have hAT := addN_take (out := []) hx
      conv => whnf
      refine ⟨a, rfl, ⟨by omega, by omega⟩, ?_⟩
      conv => whnf
      refine ⟨_, hcx 0 _ rfl, ?_⟩
      repeat ((conv => whnf); first | refine ⟨Eq.refl _, ?_⟩ | refine ⟨⟨Eq.refl _, Eq.refl _⟩, ?_⟩ | refine ⟨⟨Eq.refl _, Eq.refl _, Eq.refl _⟩, ?_⟩ | refine ⟨⟨Eq.refl _, Eq.refl _, Eq.refl _, Eq.refl _⟩, ?_⟩ | refine ⟨⟨Eq.refl _, Eq.refl _, Eq.refl _, Eq.refl _, Eq.refl _⟩, ?_⟩ | refine fun (_ : Nat) => ?_ | refine fun (_ : Option Addr) (_ : Nat) => ?_ | fail)
      have hout : rSl 1 rStr g' (.slice oX nX cX) (addN [] (s.first.listens.take k1)) := rSl_of1 hpb.rd _ .string rfl fun _ _ => rfl
      conv => whnf
      refine .inl ⟨_, ok_Contains _ hout _, ?_⟩
      conv => whnf
      refine ⟨fun hc2 => ?_, fun hc2 => ?_⟩
      · rw [if_neg (by rw [nb1 hc2]; simp)] at hAT
        have hlen := addN_len (out := []) (l := s.first.listens.take k1)
        rw [List.length_take] at hlen
        try simp only [List.length_nil] at hlen
        rcases hpb.2.1 with ⟨he, hn0⟩ | ⟨bk, cap', rest, he, hb1, hb2, hb3, hb4, hb5⟩
        · cases he
          have ho0 : addN [] (s.first.listens.take k1) = [] := List.length_eq_zero_iff.1 (by omega)
          rw [ho0] at hAT
          repeat ((conv => whnf); first | refine ⟨Eq.refl _, ?_⟩ | refine ⟨⟨Eq.refl _, Eq.refl _⟩, ?_⟩ | refine ⟨⟨Eq.refl _, Eq.refl _, Eq.refl _⟩, ?_⟩ | refine ⟨⟨Eq.refl _, Eq.refl _, Eq.refl _, Eq.refl _⟩, ?_⟩ | refine ⟨⟨Eq.refl _, Eq.refl _, Eq.refl _, Eq.refl _, Eq.refl _⟩, ?_⟩ | refine fun (_ : Nat) => ?_ | refine fun (_ : Option Addr) (_ : Nat) => ?_ | fail)
          conv => whnf
          refine ⟨⟨by unfold maxLen; omega, by omega⟩, fun oa3 cap3 => ?_⟩
          repeat ((conv => whnf); first | refine ⟨Eq.refl _, ?_⟩ | refine ⟨⟨Eq.refl _, Eq.refl _⟩, ?_⟩ | refine ⟨⟨Eq.refl _, Eq.refl _, Eq.refl _⟩, ?_⟩ | refine ⟨⟨Eq.refl _, Eq.refl _, Eq.refl _, Eq.refl _⟩, ?_⟩ | refine ⟨⟨Eq.refl _, Eq.refl _, Eq.refl _, Eq.refl _, Eq.refl _⟩, ?_⟩ | refine fun (_ : Nat) => ?_ | refine fun (_ : Option Addr) (_ : Nat) => ?_ | fail)
          conv => whnf
          refine fun fr w hw => by
            have hw1 : HSim fr ⟨g', .row 70 oa3 (1) cap3 ty_string 1 ([Value.string x]) :: [.blk 4 qc ty_api_Config [.v (.slice (some a) s.first.listens.length ca), .v (.slice ob s.first.routes.length cb), .v (.slice od s.first.clusters.length cd)], .lp 3 lp rr .busy, .blk 2 q2 ty_api_Script [.v (.slice (some a) s.first.listens.length ca), .v (.slice ob s.first.routes.length cb), .v (.slice od s.first.clusters.length cd), .v (.slice ot s.threads.length ct), .v (.slice op s.picks.length cp)], .blk 1 q1 ty_sl_string [.v (.slice oa3 (1) cap3)], .blk 0 q0 ty_api_Script [.v (.slice (some a) s.first.listens.length ca), .v (.slice ob s.first.routes.length cb), .v (.slice od s.first.clusters.length cd), .v (.slice ot s.threads.length ct), .v (.slice op s.picks.length cp)]], 80, g.w.heap.size⟩ w := hw.fit (by simp [fitL, Res.eqv, concL, conc])
            obtain ⟨g2, k1', k2, k3, k4⟩ := hw1.row_pub
            refine ⟨(k1 + 1, oa3, 1, cap3, g2), congrArg (fun z => [Value.int .i64 z]) (wr1 h' l1 l2).symm, ⟨h', ?_, ?_, ?_⟩, dec h', k4.fit (by simp [fitL, Res.eqv, concL, conc])⟩
            · exact GW.trans hgg k1'
            · rw [hAT]; rfl
            · rw [hAT]; exact k3
        · cases he
          have hbk : ¬ g.g bk := fun h => by have := g.wf _ h; have := hb1.1; omega
          repeat ((conv => whnf); first | refine ⟨Eq.refl _, ?_⟩ | refine ⟨⟨Eq.refl _, Eq.refl _⟩, ?_⟩ | refine ⟨⟨Eq.refl _, Eq.refl _, Eq.refl _⟩, ?_⟩ | refine ⟨⟨Eq.refl _, Eq.refl _, Eq.refl _, Eq.refl _⟩, ?_⟩ | refine ⟨⟨Eq.refl _, Eq.refl _, Eq.refl _, Eq.refl _, Eq.refl _⟩, ?_⟩ | refine fun (_ : Nat) => ?_ | refine fun (_ : Option Addr) (_ : Nat) => ?_ | fail)
          conv => whnf
          refine .inr ⟨bk, _, rest, ⟨rfl, hb1.1, hb1.2, hb2, by rw [List.length_map, hn]; omega, hpb.2.2, hb3, hb4, hb5, by unfold maxLen; omega, by omega⟩, fun gL hless oa3 cap3 => ?_⟩
          repeat ((conv => whnf); first | refine ⟨Eq.refl _, ?_⟩ | refine ⟨⟨Eq.refl _, Eq.refl _⟩, ?_⟩ | refine ⟨⟨Eq.refl _, Eq.refl _, Eq.refl _⟩, ?_⟩ | refine ⟨⟨Eq.refl _, Eq.refl _, Eq.refl _, Eq.refl _⟩, ?_⟩ | refine ⟨⟨Eq.refl _, Eq.refl _, Eq.refl _, Eq.refl _, Eq.refl _⟩, ?_⟩ | refine fun (_ : Nat) => ?_ | refine fun (_ : Option Addr) (_ : Nat) => ?_ | fail)
          conv => whnf
          refine fun fr w hw => by
            have hw1 : HSim fr ⟨gL, .row 70 oa3 (nX + 1) cap3 ty_string 1 (cS (addN [] (s.first.listens.take k1)) ++ [Value.string x]) :: [.blk 4 qc ty_api_Config [.v (.slice (some a) s.first.listens.length ca), .v (.slice ob s.first.routes.length cb), .v (.slice od s.first.clusters.length cd)], .lp 3 lp rr .busy, .blk 2 q2 ty_api_Script [.v (.slice (some a) s.first.listens.length ca), .v (.slice ob s.first.routes.length cb), .v (.slice od s.first.clusters.length cd), .v (.slice ot s.threads.length ct), .v (.slice op s.picks.length cp)], .blk 1 q1 ty_sl_string [.v (.slice oa3 (nX + 1) cap3)], .blk 0 q0 ty_api_Script [.v (.slice (some a) s.first.listens.length ca), .v (.slice ob s.first.routes.length cb), .v (.slice od s.first.clusters.length cd), .v (.slice ot s.threads.length ct), .v (.slice op s.picks.length cp)]], 80, g.w.heap.size⟩ w := hw.fit (by simp [fitL, Res.eqv, concL, conc])
            obtain ⟨g2, k1', k2, k3, k4⟩ := hw1.row_pub
            refine ⟨(k1 + 1, oa3, nX + 1, cap3, g2), congrArg (fun z => [Value.int .i64 z]) (wr1 h' l1 l2).symm, ⟨h', ?_, ?_, ?_⟩, dec h', k4.fit (by simp [fitL, Res.eqv, concL, conc])⟩
            · exact GW.trans (hless.le hgg hbk) k1'
            · rw [hAT, hn]; simp
            · rw [hAT]; simpa using k3
      · rw [if_pos (nb0 hc2)] at hAT
        conv => whnf
        refine fun fr w hw => ⟨(k1 + 1, oX, nX, cX, g'), congrArg (fun z => [Value.int .i64 z]) (wr1 h' l1 l2).symm, ⟨h', hgg, by rw [hAT]; exact hn, by rw [hAT]; exact hpb⟩, dec h', ?_⟩
        exact hw.fit (by simp [fitL, Res.eqv, concL, conc])
    have hkL : k1 = s.first.listens.length := by have := of_decide_eq_false hlt; omega
    rw [hkL, List.take_length] at hn hpb
    clear hlt hk hkL
    repeat ((conv => whnf); first | refine ⟨Eq.refl _, ?_⟩ | refine ⟨⟨Eq.refl _, Eq.refl _⟩, ?_⟩ | refine ⟨⟨Eq.refl _, Eq.refl _, Eq.refl _⟩, ?_⟩ | refine ⟨⟨Eq.refl _, Eq.refl _, Eq.refl _, Eq.refl _⟩, ?_⟩ | refine ⟨⟨Eq.refl _, Eq.refl _, Eq.refl _, Eq.refl _, Eq.refl _⟩, ?_⟩ | refine fun (_ : Nat) => ?_ | refine fun (_ : Option Addr) (_ : Nat) => ?_ | fail)
    have hlenF := addN_len (out := []) (l := s.first.listens)
    simp only [List.length_nil] at hlenF
    conv => whnf
    refine ⟨Nat × Option Addr × Nat × Nat × GW, fun (k, _, _, _, _) => [.v (.int .i64 k)], fun (k, oX, nX, cX, g') => ⟨g', [.lp 3 lp rr .ready, .blk 2 q2 ty_api_Script [.v (.slice oa s.first.listens.length ca), .v (.slice ob s.first.routes.length cb), .v (.slice od s.first.clusters.length cd), .v (.slice ot s.threads.length ct), .v (.slice op s.picks.length cp)], .blk 1 q1 ty_sl_string [.v (.slice oX nX cX)], .blk 0 q0 ty_api_Script [.v (.slice oa s.first.listens.length ca), .v (.slice ob s.first.routes.length cb), .v (.slice od s.first.clusters.length cd), .v (.slice ot s.threads.length ct), .v (.slice op s.picks.length cp)]], 20, g.w.heap.size⟩, fun (k, oX, nX, cX, g') => k ≤ s.threads.length ∧ g ≤ g' ∧ nX = (thrN (addN [] s.first.listens) (s.threads.take k)).length ∧ PbSl g' g.w.heap.size ty_string 1 (.slice oX nX cX) nX (cS (thrN (addN [] s.first.listens) (s.threads.take k))), fun (k, _, _, _, _) => s.threads.length - k, fun fr w hw => ⟨(0, oX, nX, cX, g'), rfl, ⟨Nat.zero_le _, hgg, hn, hpb⟩, hw.fit (by simp [fitL, Res.eqv, concL, conc])⟩, ?_⟩
    clear hn hpb hgg
    rintro ⟨k, oZ, nZ, cZ, gz⟩ ⟨hkz, hgz, hnZ, hpZ⟩
    repeat ((conv => whnf); first | refine ⟨Eq.refl _, ?_⟩ | refine ⟨⟨Eq.refl _, Eq.refl _⟩, ?_⟩ | refine ⟨⟨Eq.refl _, Eq.refl _, Eq.refl _⟩, ?_⟩ | refine ⟨⟨Eq.refl _, Eq.refl _, Eq.refl _, Eq.refl _⟩, ?_⟩ | refine ⟨⟨Eq.refl _, Eq.refl _, Eq.refl _, Eq.refl _, Eq.refl _⟩, ?_⟩ | refine fun (_ : Nat) => ?_ | refine fun (_ : Option Addr) (_ : Nat) => ?_ | fail)
    conv => whnf
    refine ⟨fun hlz => ?_, fun hlz => ?_⟩
    · have hkt : k < s.threads.length := by have := of_decide_eq_true hlz; omega
      obtain ⟨l, hl⟩ := getL_of hkt
      have hlm := z3 l (List.mem_of_getElem? hl)
      obtain ⟨aT, rfl, ecT, hecT, ⟨v, rfl, hv⟩, hcT⟩ := ht1 k l hl
      obtain ⟨oo, co, rfl, o1, o2, o0, hv1⟩ := id hv
      have hNT : thrN (addN [] s.first.listens) (s.threads.take (k + 1)) = List.foldl opN (thrN (addN [] s.first.listens) (s.threads.take k)) l := foldl_take (f := fun out l => List.foldl opN out l) hl
      conv => whnf
      refine ⟨aT, rfl, ⟨by omega, by omega⟩, ?_⟩
      conv => whnf
      refine ⟨_, hcT.mono hgz 0 _ rfl, ?_⟩
      repeat ((conv => whnf); first | refine ⟨Eq.refl _, ?_⟩ | refine ⟨⟨Eq.refl _, Eq.refl _⟩, ?_⟩ | refine ⟨⟨Eq.refl _, Eq.refl _, Eq.refl _⟩, ?_⟩ | refine ⟨⟨Eq.refl _, Eq.refl _, Eq.refl _, Eq.refl _⟩, ?_⟩ | refine ⟨⟨Eq.refl _, Eq.refl _, Eq.refl _, Eq.refl _, Eq.refl _⟩, ?_⟩ | refine fun (_ : Nat) => ?_ | refine fun (_ : Option Addr) (_ : Nat) => ?_ | fail)
      have hlenT := thrN_len (out := addN [] s.first.listens) (l := s.threads.take k) fun t ht => z3 t (List.mem_of_mem_take ht)
      rw [List.length_take] at hlenT
      conv => whnf
      refine ⟨Nat × Option Addr × Nat × Nat × GW, fun (k, _, _, _, _) => [.v (.int .i64 k)], fun (k, oX, nX, cX, g') => ⟨g', [.lp 3 lp rr .ready, .blk 2 q2 ty_api_Script [.v (.slice oa s.first.listens.length ca), .v (.slice ob s.first.routes.length cb), .v (.slice od s.first.clusters.length cd), .v (.slice (some aT) s.threads.length ct), .v (.slice op s.picks.length cp)], .blk 1 q1 ty_sl_string [.v (.slice oX nX cX)], .blk 0 q0 ty_api_Script [.v (.slice oa s.first.listens.length ca), .v (.slice ob s.first.routes.length cb), .v (.slice od s.first.clusters.length cd), .v (.slice (some aT) s.threads.length ct), .v (.slice op s.picks.length cp)]], 30, g.w.heap.size⟩, fun (n, oX, nX, cX, g') => n ≤ l.length ∧ g ≤ g' ∧ nX = (List.foldl opN (thrN (addN [] s.first.listens) (s.threads.take k)) (l.take n)).length ∧ PbSl g' g.w.heap.size ty_string 1 (.slice oX nX cX) nX (cS (List.foldl opN (thrN (addN [] s.first.listens) (s.threads.take k)) (l.take n))), fun (n, _, _, _, _) => l.length - n, fun fr w hw => ⟨(0, oZ, nZ, cZ, gz), rfl, ⟨Nat.zero_le _, hgz, hnZ, hpZ⟩, hw.fit (by simp [fitL, Res.eqv, concL, conc])⟩, ?_⟩
      clear hnZ hpZ hgz
      rintro ⟨n, oY, nY, cY, gy⟩ ⟨hny, hgy, hnY, hpY⟩
      repeat ((conv => whnf); first | refine ⟨Eq.refl _, ?_⟩ | refine ⟨⟨Eq.refl _, Eq.refl _⟩, ?_⟩ | refine ⟨⟨Eq.refl _, Eq.refl _, Eq.refl _⟩, ?_⟩ | refine ⟨⟨Eq.refl _, Eq.refl _, Eq.refl _, Eq.refl _⟩, ?_⟩ | refine ⟨⟨Eq.refl _, Eq.refl _, Eq.refl _, Eq.refl _, Eq.refl _⟩, ?_⟩ | refine fun (_ : Nat) => ?_ | refine fun (_ : Option Addr) (_ : Nat) => ?_ | fail)
      conv => whnf
      refine ⟨fun hln => ?_, fun hln => ?_⟩
      · have hno : n < l.length := by have := of_decide_eq_true hln; omega
        obtain ⟨o, ho⟩ := getL_of hno
        have hom := hlm.2 o (List.mem_of_getElem? ho)
        obtain ⟨aO, rfl, eo, heo, ⟨x1, x2, x3, rfl, hro, hcf⟩, hco⟩ := hv1 n o ho
        have hcf0 := hcf
        obtain ⟨_, _, _, he, ⟨om, cm, rfl, m1, m2, m0, hm1⟩, ⟨oR, cR, rfl, _⟩, oK, cK, rfl, _⟩ := hcf
        cases he
        have hMT := foldl_take (f := opN) (b := thrN (addN [] s.first.listens) (s.threads.take k)) ho
        have hlenO := opsN_len (out := thrN (addN [] s.first.listens) (s.threads.take k)) (l := l.take n) fun x hx => hlm.2 x (List.mem_of_mem_take hx)
        rw [List.length_take] at hlenO
        have hlm1 := hlm.1
        conv => whnf
        refine ⟨aO, rfl, ⟨by omega, by omega⟩, ?_⟩
        conv => whnf
        refine ⟨_, ⟨rfl, hco.mono hgy⟩, ?_⟩
        repeat ((conv => whnf); first | refine ⟨Eq.refl _, ?_⟩ | refine ⟨⟨Eq.refl _, Eq.refl _⟩, ?_⟩ | refine ⟨⟨Eq.refl _, Eq.refl _, Eq.refl _⟩, ?_⟩ | refine ⟨⟨Eq.refl _, Eq.refl _, Eq.refl _, Eq.refl _⟩, ?_⟩ | refine ⟨⟨Eq.refl _, Eq.refl _, Eq.refl _, Eq.refl _, Eq.refl _⟩, ?_⟩ | refine fun (_ : Nat) => ?_ | refine fun (_ : Option Addr) (_ : Nat) => ?_ | fail)
        conv => whnf
        refine ⟨fun q3 => ?_, fun q3 => ?_⟩
        · have q3' : o.kind = 3 := by simpa using q3
          repeat ((conv => whnf); first | refine ⟨Eq.refl _, ?_⟩ | refine ⟨⟨Eq.refl _, Eq.refl _⟩, ?_⟩ | refine ⟨⟨Eq.refl _, Eq.refl _, Eq.refl _⟩, ?_⟩ | refine ⟨⟨Eq.refl _, Eq.refl _, Eq.refl _, Eq.refl _⟩, ?_⟩ | refine ⟨⟨Eq.refl _, Eq.refl _, Eq.refl _, Eq.refl _, Eq.refl _⟩, ?_⟩ | refine fun (_ : Nat) => ?_ | refine fun (_ : Option Addr) (_ : Nat) => ?_ | fail)
          conv => whnf
          refine .inl ⟨_, ok_right _ (rConfig_mono _ _ _ _ hgy hcf0), ?_⟩
          repeat ((conv => whnf); first | refine ⟨Eq.refl _, ?_⟩ | refine ⟨⟨Eq.refl _, Eq.refl _⟩, ?_⟩ | refine ⟨⟨Eq.refl _, Eq.refl _, Eq.refl _⟩, ?_⟩ | refine ⟨⟨Eq.refl _, Eq.refl _, Eq.refl _, Eq.refl _⟩, ?_⟩ | refine ⟨⟨Eq.refl _, Eq.refl _, Eq.refl _, Eq.refl _, Eq.refl _⟩, ?_⟩ | refine fun (_ : Nat) => ?_ | refine fun (_ : Option Addr) (_ : Nat) => ?_ | fail)
          conv => whnf
          refine ⟨fun q4 => ?_, fun q4 => ?_⟩
          · have hopY : ∀ out, opN out o = addN out o.config.listens := fun out => by rw [opN, if_pos ⟨q3', eqB_iff.1 q4⟩]
            repeat ((conv => whnf); first | refine ⟨Eq.refl _, ?_⟩ | refine ⟨⟨Eq.refl _, Eq.refl _⟩, ?_⟩ | refine ⟨⟨Eq.refl _, Eq.refl _, Eq.refl _⟩, ?_⟩ | refine ⟨⟨Eq.refl _, Eq.refl _, Eq.refl _, Eq.refl _⟩, ?_⟩ | refine ⟨⟨Eq.refl _, Eq.refl _, Eq.refl _, Eq.refl _, Eq.refl _⟩, ?_⟩ | refine fun (_ : Nat) => ?_ | refine fun (_ : Option Addr) (_ : Nat) => ?_ | fail)
            rename_i qo qc
            conv => whnf
            refine ⟨Nat × Option Addr × Nat × Nat × GW, fun (kk, _, _, _, _) => [.v (.int .i64 kk)], fun (kk, oX, nX, cX, g') => ⟨g', [.blk 40 qc ty_api_Config [.v (.slice om o.config.listens.length cm), .v (.slice oR o.config.routes.length cR), .v (.slice oK o.config.clusters.length cK)], .lp 3 lp rr .busy, .blk 2 q2 ty_api_Script [.v (.slice oa s.first.listens.length ca), .v (.slice ob s.first.routes.length cb), .v (.slice od s.first.clusters.length cd), .v (.slice (some aT) s.threads.length ct), .v (.slice op s.picks.length cp)], .blk 1 q1 ty_sl_string [.v (.slice oX nX cX)], .blk 0 q0 ty_api_Script [.v (.slice oa s.first.listens.length ca), .v (.slice ob s.first.routes.length cb), .v (.slice od s.first.clusters.length cd), .v (.slice (some aT) s.threads.length ct), .v (.slice op s.picks.length cp)]], 60, g.w.heap.size⟩, fun (kk, oX, nX, cX, g') => kk ≤ o.config.listens.length ∧ g ≤ g' ∧ nX = (addN (List.foldl opN (thrN (addN [] s.first.listens) (s.threads.take k)) (l.take n)) (o.config.listens.take kk)).length ∧ PbSl g' g.w.heap.size ty_string 1 (.slice oX nX cX) nX (cS (addN (List.foldl opN (thrN (addN [] s.first.listens) (s.threads.take k)) (l.take n)) (o.config.listens.take kk))), fun (kk, _, _, _, _) => o.config.listens.length - kk, fun fr w hw => ⟨(0, oY, nY, cY, gy), rfl, ⟨Nat.zero_le _, hgy, hnY, hpY⟩, hw.fit (by simp [fitL, Res.eqv, concL, conc])⟩, ?_⟩
            rintro ⟨k1, oX, nX, cX, g'⟩ ⟨hk, hgg, hn, hpb⟩
            conv => whnf
            refine ⟨fun hlt => ?_, fun hlt => ?_⟩
            · have h' : k1 < o.config.listens.length := by have := of_decide_eq_true hlt; omega
              obtain ⟨x, hx⟩ := getL_of h'
              obtain ⟨a, rfl, ec, hec, rfl, hcx⟩ := hm1 k1 x hx
              replace hcx := hcx.mono hgg
              have hAT := addN_take (out := (List.foldl opN (thrN (addN [] s.first.listens) (s.threads.take k)) (l.take n))) hx
              conv => whnf
              refine ⟨a, rfl, ⟨by omega, by omega⟩, ?_⟩
              conv => whnf
              refine ⟨_, hcx 0 _ rfl, ?_⟩
              repeat ((conv => whnf); first | refine ⟨Eq.refl _, ?_⟩ | refine ⟨⟨Eq.refl _, Eq.refl _⟩, ?_⟩ | refine ⟨⟨Eq.refl _, Eq.refl _, Eq.refl _⟩, ?_⟩ | refine ⟨⟨Eq.refl _, Eq.refl _, Eq.refl _, Eq.refl _⟩, ?_⟩ | refine ⟨⟨Eq.refl _, Eq.refl _, Eq.refl _, Eq.refl _, Eq.refl _⟩, ?_⟩ | refine fun (_ : Nat) => ?_ | refine fun (_ : Option Addr) (_ : Nat) => ?_ | fail)
              have hout : rSl 1 rStr g' (.slice oX nX cX) (addN (List.foldl opN (thrN (addN [] s.first.listens) (s.threads.take k)) (l.take n)) (o.config.listens.take k1)) := rSl_of1 hpb.rd _ .string rfl fun _ _ => rfl
              conv => whnf
              refine .inl ⟨_, ok_Contains _ hout _, ?_⟩
              conv => whnf
              refine ⟨fun hc2 => ?_, fun hc2 => ?_⟩
              · rw [if_neg (by rw [nb1 hc2]; simp)] at hAT
                have hlen := addN_len (out := (List.foldl opN (thrN (addN [] s.first.listens) (s.threads.take k)) (l.take n))) (l := o.config.listens.take k1)
                rw [List.length_take] at hlen
                try simp only [List.length_nil] at hlen
                rcases hpb.2.1 with ⟨he, hn0⟩ | ⟨bk, cap', rest, he, hb1, hb2, hb3, hb4, hb5⟩
                · cases he
                  have ho0 : addN (List.foldl opN (thrN (addN [] s.first.listens) (s.threads.take k)) (l.take n)) (o.config.listens.take k1) = [] := List.length_eq_zero_iff.1 (by omega)
                  rw [ho0] at hAT
                  repeat ((conv => whnf); first | refine ⟨Eq.refl _, ?_⟩ | refine ⟨⟨Eq.refl _, Eq.refl _⟩, ?_⟩ | refine ⟨⟨Eq.refl _, Eq.refl _, Eq.refl _⟩, ?_⟩ | refine ⟨⟨Eq.refl _, Eq.refl _, Eq.refl _, Eq.refl _⟩, ?_⟩ | refine ⟨⟨Eq.refl _, Eq.refl _, Eq.refl _, Eq.refl _, Eq.refl _⟩, ?_⟩ | refine fun (_ : Nat) => ?_ | refine fun (_ : Option Addr) (_ : Nat) => ?_ | fail)
                  conv => whnf
                  refine ⟨⟨by unfold maxLen; omega, by omega⟩, fun oa3 cap3 => ?_⟩
                  repeat ((conv => whnf); first | refine ⟨Eq.refl _, ?_⟩ | refine ⟨⟨Eq.refl _, Eq.refl _⟩, ?_⟩ | refine ⟨⟨Eq.refl _, Eq.refl _, Eq.refl _⟩, ?_⟩ | refine ⟨⟨Eq.refl _, Eq.refl _, Eq.refl _, Eq.refl _⟩, ?_⟩ | refine ⟨⟨Eq.refl _, Eq.refl _, Eq.refl _, Eq.refl _, Eq.refl _⟩, ?_⟩ | refine fun (_ : Nat) => ?_ | refine fun (_ : Option Addr) (_ : Nat) => ?_ | fail)
                  conv => whnf
                  refine fun fr w hw => by
                    have hw1 : HSim fr ⟨g', .row 70 oa3 (1) cap3 ty_string 1 ([Value.string x]) :: [.blk 40 qc ty_api_Config [.v (.slice (some a) o.config.listens.length cm), .v (.slice oR o.config.routes.length cR), .v (.slice oK o.config.clusters.length cK)], .lp 3 lp rr .busy, .blk 2 q2 ty_api_Script [.v (.slice oa s.first.listens.length ca), .v (.slice ob s.first.routes.length cb), .v (.slice od s.first.clusters.length cd), .v (.slice (some aT) s.threads.length ct), .v (.slice op s.picks.length cp)], .blk 1 q1 ty_sl_string [.v (.slice oa3 (1) cap3)], .blk 0 q0 ty_api_Script [.v (.slice oa s.first.listens.length ca), .v (.slice ob s.first.routes.length cb), .v (.slice od s.first.clusters.length cd), .v (.slice (some aT) s.threads.length ct), .v (.slice op s.picks.length cp)]], 80, g.w.heap.size⟩ w := hw.fit (by simp [fitL, Res.eqv, concL, conc])
                    obtain ⟨g2, k1', k2, k3, k4⟩ := hw1.row_pub
                    refine ⟨(k1 + 1, oa3, 1, cap3, g2), congrArg (fun z => [Value.int .i64 z]) (wr1 h' m1 m2).symm, ⟨h', ?_, ?_, ?_⟩, dec h', k4.fit (by simp [fitL, Res.eqv, concL, conc])⟩
                    · exact GW.trans hgg k1'
                    · rw [hAT]; rfl
                    · rw [hAT]; exact k3
                · cases he
                  have hbk : ¬ g.g bk := fun h => by have := g.wf _ h; have := hb1.1; omega
                  repeat ((conv => whnf); first | refine ⟨Eq.refl _, ?_⟩ | refine ⟨⟨Eq.refl _, Eq.refl _⟩, ?_⟩ | refine ⟨⟨Eq.refl _, Eq.refl _, Eq.refl _⟩, ?_⟩ | refine ⟨⟨Eq.refl _, Eq.refl _, Eq.refl _, Eq.refl _⟩, ?_⟩ | refine ⟨⟨Eq.refl _, Eq.refl _, Eq.refl _, Eq.refl _, Eq.refl _⟩, ?_⟩ | refine fun (_ : Nat) => ?_ | refine fun (_ : Option Addr) (_ : Nat) => ?_ | fail)
                  conv => whnf
                  refine .inr ⟨bk, _, rest, ⟨rfl, hb1.1, hb1.2, hb2, by rw [List.length_map, hn]; omega, hpb.2.2, hb3, hb4, hb5, by unfold maxLen; omega, by omega⟩, fun gL hless oa3 cap3 => ?_⟩
                  repeat ((conv => whnf); first | refine ⟨Eq.refl _, ?_⟩ | refine ⟨⟨Eq.refl _, Eq.refl _⟩, ?_⟩ | refine ⟨⟨Eq.refl _, Eq.refl _, Eq.refl _⟩, ?_⟩ | refine ⟨⟨Eq.refl _, Eq.refl _, Eq.refl _, Eq.refl _⟩, ?_⟩ | refine ⟨⟨Eq.refl _, Eq.refl _, Eq.refl _, Eq.refl _, Eq.refl _⟩, ?_⟩ | refine fun (_ : Nat) => ?_ | refine fun (_ : Option Addr) (_ : Nat) => ?_ | fail)
                  conv => whnf
                  refine fun fr w hw => by
                    have hw1 : HSim fr ⟨gL, .row 70 oa3 (nX + 1) cap3 ty_string 1 (cS (addN (List.foldl opN (thrN (addN [] s.first.listens) (s.threads.take k)) (l.take n)) (o.config.listens.take k1)) ++ [Value.string x]) :: [.blk 40 qc ty_api_Config [.v (.slice (some a) o.config.listens.length cm), .v (.slice oR o.config.routes.length cR), .v (.slice oK o.config.clusters.length cK)], .lp 3 lp rr .busy, .blk 2 q2 ty_api_Script [.v (.slice oa s.first.listens.length ca), .v (.slice ob s.first.routes.length cb), .v (.slice od s.first.clusters.length cd), .v (.slice (some aT) s.threads.length ct), .v (.slice op s.picks.length cp)], .blk 1 q1 ty_sl_string [.v (.slice oa3 (nX + 1) cap3)], .blk 0 q0 ty_api_Script [.v (.slice oa s.first.listens.length ca), .v (.slice ob s.first.routes.length cb), .v (.slice od s.first.clusters.length cd), .v (.slice (some aT) s.threads.length ct), .v (.slice op s.picks.length cp)]], 80, g.w.heap.size⟩ w := hw.fit (by simp [fitL, Res.eqv, concL, conc])
                    obtain ⟨g2, k1', k2, k3, k4⟩ := hw1.row_pub
                    refine ⟨(k1 + 1, oa3, nX + 1, cap3, g2), congrArg (fun z => [Value.int .i64 z]) (wr1 h' m1 m2).symm, ⟨h', ?_, ?_, ?_⟩, dec h', k4.fit (by simp [fitL, Res.eqv, concL, conc])⟩
                    · exact GW.trans (hless.le hgg hbk) k1'
                    · rw [hAT, hn]; simp
                    · rw [hAT]; simpa using k3
              · rw [if_pos (nb0 hc2)] at hAT
                conv => whnf
                refine fun fr w hw => ⟨(k1 + 1, oX, nX, cX, g'), congrArg (fun z => [Value.int .i64 z]) (wr1 h' m1 m2).symm, ⟨h', hgg, by rw [hAT]; exact hn, by rw [hAT]; exact hpb⟩, dec h', ?_⟩
                exact hw.fit (by simp [fitL, Res.eqv, concL, conc])
            have hkL : k1 = o.config.listens.length := by have := of_decide_eq_false hlt; omega
            rw [hkL, List.take_length] at hn hpb
            clear hlt hk hkL
            repeat ((conv => whnf); first | refine ⟨Eq.refl _, ?_⟩ | refine ⟨⟨Eq.refl _, Eq.refl _⟩, ?_⟩ | refine ⟨⟨Eq.refl _, Eq.refl _, Eq.refl _⟩, ?_⟩ | refine ⟨⟨Eq.refl _, Eq.refl _, Eq.refl _, Eq.refl _⟩, ?_⟩ | refine ⟨⟨Eq.refl _, Eq.refl _, Eq.refl _, Eq.refl _, Eq.refl _⟩, ?_⟩ | refine fun (_ : Nat) => ?_ | refine fun (_ : Option Addr) (_ : Nat) => ?_ | fail)
            conv => whnf
            refine fun fr w hw => ⟨(n + 1, oX, nX, cX, g'), congrArg (fun z => [Value.int .i64 z]) (wr1 hno o1 o2).symm, ⟨hno, hgg, by rw [hMT, hopY]; exact hn, by rw [hMT, hopY]; exact hpb⟩, dec hno, ?_⟩
            exact hw.fit (by simp [fitL, Res.eqv, concL, conc])
          · have hopY : ∀ out, opN out o = out := fun out => by rw [opN, if_neg]; rintro ⟨_, h⟩; rw [eqB_t h] at q4; cases q4
            repeat ((conv => whnf); first | refine ⟨Eq.refl _, ?_⟩ | refine ⟨⟨Eq.refl _, Eq.refl _⟩, ?_⟩ | refine ⟨⟨Eq.refl _, Eq.refl _, Eq.refl _⟩, ?_⟩ | refine ⟨⟨Eq.refl _, Eq.refl _, Eq.refl _, Eq.refl _⟩, ?_⟩ | refine ⟨⟨Eq.refl _, Eq.refl _, Eq.refl _, Eq.refl _, Eq.refl _⟩, ?_⟩ | refine fun (_ : Nat) => ?_ | refine fun (_ : Option Addr) (_ : Nat) => ?_ | fail)
            conv => whnf
            refine fun fr w hw => ⟨(n + 1, oY, nY, cY, gy), congrArg (fun z => [Value.int .i64 z]) (wr1 hno o1 o2).symm, ⟨hno, hgy, by rw [hMT, hopY]; exact hnY, by rw [hMT, hopY]; exact hpY⟩, dec hno, ?_⟩
            exact hw.fit (by simp [fitL, Res.eqv, concL, conc])
        · have hopY : ∀ out, opN out o = out := fun out => by rw [opN, if_neg]; rintro ⟨h, _⟩; rw [h] at q3; cases q3
          repeat ((conv => whnf); first | refine ⟨Eq.refl _, ?_⟩ | refine ⟨⟨Eq.refl _, Eq.refl _⟩, ?_⟩ | refine ⟨⟨Eq.refl _, Eq.refl _, Eq.refl _⟩, ?_⟩ | refine ⟨⟨Eq.refl _, Eq.refl _, Eq.refl _, Eq.refl _⟩, ?_⟩ | refine ⟨⟨Eq.refl _, Eq.refl _, Eq.refl _, Eq.refl _, Eq.refl _⟩, ?_⟩ | refine fun (_ : Nat) => ?_ | refine fun (_ : Option Addr) (_ : Nat) => ?_ | fail)
          conv => whnf
          refine fun fr w hw => ⟨(n + 1, oY, nY, cY, gy), congrArg (fun z => [Value.int .i64 z]) (wr1 hno o1 o2).symm, ⟨hno, hgy, by rw [hMT, hopY]; exact hnY, by rw [hMT, hopY]; exact hpY⟩, dec hno, ?_⟩
          exact hw.fit (by simp [fitL, Res.eqv, concL, conc])
      have hnL : n = l.length := by have := of_decide_eq_false hln; omega
      rw [hnL, List.take_length] at hnY hpY
      repeat ((conv => whnf); first | refine ⟨Eq.refl _, ?_⟩ | refine ⟨⟨Eq.refl _, Eq.refl _⟩, ?_⟩ | refine ⟨⟨Eq.refl _, Eq.refl _, Eq.refl _⟩, ?_⟩ | refine ⟨⟨Eq.refl _, Eq.refl _, Eq.refl _, Eq.refl _⟩, ?_⟩ | refine ⟨⟨Eq.refl _, Eq.refl _, Eq.refl _, Eq.refl _, Eq.refl _⟩, ?_⟩ | refine fun (_ : Nat) => ?_ | refine fun (_ : Option Addr) (_ : Nat) => ?_ | fail)
      conv => whnf
      refine fun fr w hw => ⟨(k + 1, oY, nY, cY, gy), congrArg (fun z => [Value.int .i64 z]) (wr1 hkt t1 t2).symm, ⟨hkt, hgy, by rw [hNT]; exact hnY, by rw [hNT]; exact hpY⟩, dec hkt, ?_⟩
      exact hw.fit (by simp [fitL, Res.eqv, concL, conc])
    have hkL : k = s.threads.length := by have := of_decide_eq_false hlz; omega
    rw [hkL, List.take_length] at hnZ hpZ
    repeat ((conv => whnf); first | refine ⟨Eq.refl _, ?_⟩ | refine ⟨⟨Eq.refl _, Eq.refl _⟩, ?_⟩ | refine ⟨⟨Eq.refl _, Eq.refl _, Eq.refl _⟩, ?_⟩ | refine ⟨⟨Eq.refl _, Eq.refl _, Eq.refl _, Eq.refl _⟩, ?_⟩ | refine ⟨⟨Eq.refl _, Eq.refl _, Eq.refl _, Eq.refl _, Eq.refl _⟩, ?_⟩ | refine fun (_ : Nat) => ?_ | refine fun (_ : Option Addr) (_ : Nat) => ?_ | fail)
    conv => whnf
    intro g2 hg
    exact (rSl_of1 hpZ.rd _ .string rfl fun _ _ => rfl).mono rStr_mono hg)
end Go.Proofs.Ytedjbhpocedagaa
