/- Worlds: a new one. -/
import Derived.Test.YtkkhdnddplkobaaGreatLW9s2
import Derived.Test.YtkkhdnddplkobaaGreatLW9p
import Derived.Test.YtkkhdnddplkobaaGreatPl
namespace Go.Proofs.YtkkhdnddplkobaaGreat
open Go.Proofs.YtkkhdnddplkobaaGreat.Sx Go.RowKit
abbrev zWs : List Value := [.int .i64 0, .int .i64 0, .int .i64 0, .slice none 0 0, .slice none 0 0, .slice none 0 0, .slice none 0 0, .slice none 0 0]
def NewP (s : Snap) (l : List BA) (t : Int) (v : Value) (g' : GW) : Prop :=
  (NewOk s l t ∧ ∃ cs, v = .tuple #[.agg ⟨cs⟩, .int .i64 0] ∧ rWo g' cs (newW s l t.toNat)) ∨ (¬ NewOk s l t ∧ v = .tuple #[.agg ⟨zWs⟩, .int .i64 1])
theorem ok_New (g : GW) {cs : List Value} {s : Snap} {v : Value} {l : List BA} {t : Int} (hs : rSnap g cs s) (hl : rSl 1 rStr g v l) (hsz : s.rules.length ≤ 1000000) (hll : l.length ≤ 1000000) : Ok Tryz.prog n_world_New [.agg ⟨cs⟩, v, .int .i64 t] g (NewP s l t) := by
  have hs0 := hs
  obtain ⟨a, b, d, rfl, ⟨oa, ca, rfl, _⟩, ⟨ob, cb, rfl, _⟩, ⟨od, cd, rfl, _⟩⟩ := hs
  obtain ⟨ol, cl, rfl, l1, l2, l0, hl1⟩ := id hl
  exact Ok.of_fn hm noT 0 t_world_New (args := [.v (.agg ⟨[.slice oa s.listens.length ca, .slice ob s.rules.length cb, .slice od s.clusters.length cd]⟩), .v (.slice ol l.length cl), .v (.int .i64 t)]) (by
    repeat ((conv => whnf); first | apply qza | apply qzb | apply qzc | apply qzd | apply qze | intro (_ : Nat) | intro (_ : Option Addr) (_ : Nat))
    rename_i q0 q1
    refine .inr ((ok_Cells _ hs0 hsz).mono fun v g1 hg1 hC => ?_)
    rcases hC with ⟨hz, ka, kb, kd, oV, nV, cV, rfl, hV⟩ | ⟨hz, rfl⟩
    rotate_left
    · repeat ((conv => whnf); first | apply qza | apply qzb | apply qzc | apply qzd | apply qze | intro (_ : Nat) | intro (_ : Option Addr) (_ : Nat))
      conv => whnf
      refine ⟨fun _ => ?_, fun h => nomatch h⟩
      repeat ((conv => whnf); first | apply qza | apply qzb | apply qzc | apply qzd | apply qze | intro (_ : Nat) | intro (_ : Option Addr) (_ : Nat))
      conv => whnf
      intro g2 hg
      exact .inr ⟨fun h => hz h.1, rfl⟩
    have hV0 := hV
    obtain ⟨_, _, _, _, he, ⟨_, _, _, he2, ⟨sa, ta, rfl, _⟩, ⟨sb, tb, rfl, _⟩, ⟨sd, td, rfl, _⟩⟩, hG⟩ := hV
    simp only [List.cons.injEq, and_true] at he
    obtain ⟨rfl, rfl, rfl, rfl, _⟩ := he
    cases he2
    repeat ((conv => whnf); first | apply qza | apply qzb | apply qzc | apply qzd | apply qze | intro (_ : Nat) | intro (_ : Option Addr) (_ : Nat))
    rename_i q2
    conv => whnf
    refine ⟨fun h => (nomatch h), fun _ => ?_⟩
    repeat ((conv => whnf); first | apply qza | apply qzb | apply qzc | apply qzd | apply qze | intro (_ : Nat) | intro (_ : Option Addr) (_ : Nat))
    refine .inr ((ok_ShardNew _).mono fun v g2 hg2 hS => ?_)
    rcases hS with ⟨ht, oS, cS, rfl, hSh⟩ | ⟨ht, rfl⟩
    rotate_left
    · repeat ((conv => whnf); first | apply qza | apply qzb | apply qzc | apply qzd | apply qze | intro (_ : Nat) | intro (_ : Option Addr) (_ : Nat))
      conv => whnf
      refine ⟨fun _ => ?_, fun h => nomatch h⟩
      repeat ((conv => whnf); first | apply qza | apply qzb | apply qzc | apply qzd | apply qze | intro (_ : Nat) | intro (_ : Option Addr) (_ : Nat))
      conv => whnf
      intro g2 hg
      exact .inr ⟨fun h => ht h.2.1, rfl⟩
    obtain ⟨N, rfl⟩ := Int.eq_ofNat_of_zero_le (show 0 ≤ t by omega)
    have hg02 := GW.trans hg1 hg2
    repeat ((conv => whnf); first | apply qza | apply qzb | apply qzc | apply qzd | apply qze | intro (_ : Nat) | intro (_ : Option Addr) (_ : Nat))
    conv => whnf
    refine ⟨fun h => (nomatch h), fun _ => ?_⟩
    repeat ((conv => whnf); first | apply qza | apply qzb | apply qzc | apply qzd | apply qze | intro (_ : Nat) | intro (_ : Option Addr) (_ : Nat))
    refine ⟨?_, ?_⟩
    · repeat ((conv => whnf); first | apply qza | apply qzb | apply qzc | apply qzd | apply qze | intro (_ : Nat) | intro (_ : Option Addr) (_ : Nat))
      conv => whnf
      refine ⟨⟨by omega, by omega, by omega, by omega⟩, fun _ => ?_⟩
      repeat ((conv => whnf); first | apply qza | apply qzb | apply qzc | apply qzd | apply qze | intro (_ : Nat) | intro (_ : Option Addr) (_ : Nat))
      rename_i qV qP qw
      conv => whnf
      refine ⟨Nat × Option Addr × Nat × Nat × GW, fun (k, _, _, _, _) => [.v (.int .i64 k)], fun (k, oX, nX, cX, g') => ⟨g', [.blk 5 qw ty_api_World [.v (.int .i64 0), .v (.int .i64 0), .v (.int .i64 0), .row 4 (some ⟨qP, 0, none⟩) N N, .sl 3 qV 0 1 1, .v (.slice oX nX cX), .v (.slice oS N cS), .v (.slice none 0 0)], .row 4 (some ⟨qP, 0, none⟩) N N ty_int 1 (List.replicate N [Value.int .i64 0]).flatten, .blk 3 qV ty_api_Version [.v (.slice sa (cellsV s).snap.listens.length ta), .v (.slice sb (cellsV s).snap.rules.length tb), .v (.slice sd (cellsV s).snap.clusters.length td), .v (.slice oV nV cV), .v (.bool false)], .blk 2 q2 ty_api_Version [.v (.slice sa (cellsV s).snap.listens.length ta), .v (.slice sb (cellsV s).snap.rules.length tb), .v (.slice sd (cellsV s).snap.clusters.length td), .v (.slice oV nV cV), .v (.bool false)], .blk 1 q1 ty_api_World [.v (.int .i64 0), .v (.int .i64 0), .v (.int .i64 0), .v (.slice none 0 0), .v (.slice none 0 0), .v (.slice none 0 0), .v (.slice none 0 0), .v (.slice none 0 0)], .blk 0 q0 ty_api_Snap [.v (.slice oa s.listens.length ca), .v (.slice ob s.rules.length cb), .v (.slice od s.clusters.length cd)]], 20, g.w.heap.size⟩, fun (k, oX, nX, cX, g') => k ≤ l.length ∧ g2 ≤ g' ∧ nX = k ∧ PbSl g' g.w.heap.size ty_api_Listen 4 (.slice oX nX cX) nX ((lisL (l.take k)).map cLi).flatten ∧ (∀ a, oX = some a → ¬ g2.g a.block) ∧ AllK (namF l) l k, fun (k, _, _, _, _) => l.length - k, fun fr w hw => ⟨(0, none, 0, 0, g2), rfl, ⟨Nat.zero_le _, GW.refl _, rfl, ⟨rfl, .inl ⟨rfl, rfl⟩, fun u hu => by cases hu⟩, (fun a h => by cases h), AllK.zero _ _⟩, hw.fit (by simp [fitL, Res.eqv, concL, conc])⟩, ?_⟩
      rintro ⟨k, oX, nX, cX, g'⟩ ⟨hk, hgg, hn, hpb, hnb, hAK⟩
      have hll2 : (lisL (l.take k)).length = k := by simp [lisL]; omega
      have hlis : rSl 4 rListen g' (.slice oX nX cX) (lisL (l.take k)) := rSl_ofE hpb.rd (lisL (l.take k)) cLi rfl (by omega) (fun _ _ => rfl) fun x hx => by
        obtain ⟨y, _, rfl⟩ := List.mem_map.1 hx
        exact ⟨rfl, show InR 0 by decide⟩
      repeat ((conv => whnf); first | apply qza | apply qzb | apply qzc | apply qzd | apply qze | intro (_ : Nat) | intro (_ : Option Addr) (_ : Nat))
      conv => whnf
      refine ⟨fun hlt => ?_, fun hlt => ?_⟩
      · have h' : k < l.length := by have := of_decide_eq_true hlt; omega
        obtain ⟨x, hx⟩ := getL_of h'
        obtain ⟨a, rfl, ec, hec, rfl, hc⟩ := hl1 k x hx
        have hbad : namF l k x = false → ¬ NewOk s l N := fun hf h => by have h3 := h.2.2; rw [allI_false hx hf] at h3; cases h3
        repeat ((conv => whnf); first | apply qza | apply qzb | apply qzc | apply qzd | apply qze | intro (_ : Nat) | intro (_ : Option Addr) (_ : Nat))
        conv => whnf
        refine ⟨a, rfl, ⟨by omega, by omega⟩, ?_⟩
        conv => whnf
        refine ⟨_, (hc.mono (GW.trans hg02 hgg)) 0 _ rfl, ?_⟩
        repeat ((conv => whnf); first | apply qza | apply qzb | apply qzc | apply qzd | apply qze | intro (_ : Nat) | intro (_ : Option Addr) (_ : Nat))
        conv => whnf
        refine .inl ⟨_, ok_Name _ _, ?_⟩
        repeat ((conv => whnf); first | apply qza | apply qzb | apply qzc | apply qzd | apply qze | intro (_ : Nat) | intro (_ : Option Addr) (_ : Nat))
        conv => whnf
        refine ⟨fun y1 => ?_, fun y1 => ?_⟩
        · repeat ((conv => whnf); first | apply qza | apply qzb | apply qzc | apply qzd | apply qze | intro (_ : Nat) | intro (_ : Option Addr) (_ : Nat))
          conv => whnf
          intro g2 hg
          exact .inr ⟨hbad (by unfold namF; rw [nb1 y1]; rfl), rfl⟩
        repeat ((conv => whnf); first | apply qza | apply qzb | apply qzc | apply qzd | apply qze | intro (_ : Nat) | intro (_ : Option Addr) (_ : Nat))
        conv => whnf
        refine .inl ⟨_, ok_gPlace _ hlis _, ?_⟩
        repeat ((conv => whnf); first | apply qza | apply qzb | apply qzc | apply qzd | apply qze | intro (_ : Nat) | intro (_ : Option Addr) (_ : Nat))
        conv => whnf
        refine ⟨fun y2 => ?_, fun y2 => ?_⟩
        · repeat ((conv => whnf); first | apply qza | apply qzb | apply qzc | apply qzd | apply qze | intro (_ : Nat) | intro (_ : Option Addr) (_ : Nat))
          conv => whnf
          intro g2 hg
          exact .inr ⟨hbad (by unfold namF; rw [decide_eq_false (by have := of_decide_eq_true y2; omega)]; simp), rfl⟩
        have hnF : namF l k x = true := by unfold namF; rw [nb0 y1, decide_eq_true (by have := of_decide_eq_false y2; omega)]; rfl
        have hT := lisL_take hx
        rcases hpb.2.1 with ⟨he, hn0⟩ | ⟨bk, cap', rest, he, hb1, hb2, hb3, hb4, hb5⟩
        · cases he
          have hk0 : k = 0 := by omega
          subst hk0
          repeat ((conv => whnf); first | apply qza | apply qzb | apply qzc | apply qzd | apply qze | intro (_ : Nat) | intro (_ : Option Addr) (_ : Nat))
          conv => whnf
          refine ⟨⟨by unfold maxLen; omega, by omega⟩, fun oa3 cap3 => ?_⟩
          repeat ((conv => whnf); first | apply qza | apply qzb | apply qzc | apply qzd | apply qze | intro (_ : Nat) | intro (_ : Option Addr) (_ : Nat))
          conv => whnf
          refine fun fr w hw => by
            have hw1 : HSim fr ⟨g', .row 70 oa3 (1) cap3 ty_api_Listen 4 (cLi ⟨x, false, 0, false⟩) :: [.blk 5 qw ty_api_World [.v (.int .i64 0), .v (.int .i64 0), .v (.int .i64 0), .row 4 (some ⟨qP, 0, none⟩) N N, .sl 3 qV 0 1 1, .v (.slice oa3 (1) cap3), .v (.slice oS N cS), .v (.slice none 0 0)], .row 4 (some ⟨qP, 0, none⟩) N N ty_int 1 (List.replicate N [Value.int .i64 0]).flatten, .blk 3 qV ty_api_Version [.v (.slice sa (cellsV s).snap.listens.length ta), .v (.slice sb (cellsV s).snap.rules.length tb), .v (.slice sd (cellsV s).snap.clusters.length td), .v (.slice oV nV cV), .v (.bool false)], .blk 2 q2 ty_api_Version [.v (.slice sa (cellsV s).snap.listens.length ta), .v (.slice sb (cellsV s).snap.rules.length tb), .v (.slice sd (cellsV s).snap.clusters.length td), .v (.slice oV nV cV), .v (.bool false)], .blk 1 q1 ty_api_World [.v (.int .i64 0), .v (.int .i64 0), .v (.int .i64 0), .v (.slice none 0 0), .v (.slice none 0 0), .v (.slice none 0 0), .v (.slice none 0 0), .v (.slice none 0 0)], .blk 0 q0 ty_api_Snap [.v (.slice oa s.listens.length ca), .v (.slice ob s.rules.length cb), .v (.slice od s.clusters.length cd)]], 80, g.w.heap.size⟩ w := hw.fit (by simp [fitL, Res.eqv, concL, conc])
            obtain ⟨g4, k1', k2, k3, k4⟩ := hw1.row_pub
            refine ⟨(0 + 1, oa3, 1, cap3, g4), congrArg (fun z => [Value.int .i64 z]) (wr1 h' l1 l2).symm, ⟨h', GW.trans hgg k1', rfl, ?_, fun a ha q => k2 a ha (hgg.2 _ q).1, hAK.succ hx hnF⟩, dec h', k4.fit (by simp [fitL, Res.eqv, concL, conc])⟩
            rw [hT]; exact k3
        · cases he
          have hbk : ¬ g2.g bk := hnb _ rfl
          repeat ((conv => whnf); first | apply qza | apply qzb | apply qzc | apply qzd | apply qze | intro (_ : Nat) | intro (_ : Option Addr) (_ : Nat))
          conv => whnf
          refine .inr ⟨bk, _, rest, ⟨rfl, hb1.1, hb1.2, hb2, hpb.1, hpb.2.2, hb3, hb4, hb5, by unfold maxLen; omega, by omega⟩, fun gL hless oa3 cap3 => ?_⟩
          repeat ((conv => whnf); first | apply qza | apply qzb | apply qzc | apply qzd | apply qze | intro (_ : Nat) | intro (_ : Option Addr) (_ : Nat))
          conv => whnf
          refine fun fr w hw => by
            have hw1 : HSim fr ⟨gL, .row 70 oa3 (nX + 1) cap3 ty_api_Listen 4 (((lisL (l.take k)).map cLi).flatten ++ cLi ⟨x, false, 0, false⟩) :: [.blk 5 qw ty_api_World [.v (.int .i64 0), .v (.int .i64 0), .v (.int .i64 0), .row 4 (some ⟨qP, 0, none⟩) N N, .sl 3 qV 0 1 1, .v (.slice oa3 (nX + 1) cap3), .v (.slice oS N cS), .v (.slice none 0 0)], .row 4 (some ⟨qP, 0, none⟩) N N ty_int 1 (List.replicate N [Value.int .i64 0]).flatten, .blk 3 qV ty_api_Version [.v (.slice sa (cellsV s).snap.listens.length ta), .v (.slice sb (cellsV s).snap.rules.length tb), .v (.slice sd (cellsV s).snap.clusters.length td), .v (.slice oV nV cV), .v (.bool false)], .blk 2 q2 ty_api_Version [.v (.slice sa (cellsV s).snap.listens.length ta), .v (.slice sb (cellsV s).snap.rules.length tb), .v (.slice sd (cellsV s).snap.clusters.length td), .v (.slice oV nV cV), .v (.bool false)], .blk 1 q1 ty_api_World [.v (.int .i64 0), .v (.int .i64 0), .v (.int .i64 0), .v (.slice none 0 0), .v (.slice none 0 0), .v (.slice none 0 0), .v (.slice none 0 0), .v (.slice none 0 0)], .blk 0 q0 ty_api_Snap [.v (.slice oa s.listens.length ca), .v (.slice ob s.rules.length cb), .v (.slice od s.clusters.length cd)]], 80, g.w.heap.size⟩ w := hw.fit (by simp [fitL, Res.eqv, concL, conc])
            obtain ⟨g4, k1', k2, k3, k4⟩ := hw1.row_pub
            have hgL := hless.le hgg hbk
            refine ⟨(k + 1, oa3, nX + 1, cap3, g4), congrArg (fun z => [Value.int .i64 z]) (wr1 h' l1 l2).symm, ⟨h', GW.trans hgL k1', by omega, ?_, fun a ha q => k2 a ha (hgL.2 _ q).1, hAK.succ hx hnF⟩, dec h', k4.fit (by simp [fitL, Res.eqv, concL, conc])⟩
            rw [hT]; simpa using k3
      have hkL : k = l.length := by have := of_decide_eq_false hlt; omega
      subst hkL
      have hok : NewOk s l N := ⟨hz, ht, hAK.done (Nat.le_refl _)⟩
      rw [List.take_length] at hlis
      repeat ((conv => whnf); first | apply qza | apply qzb | apply qzc | apply qzd | apply qze | intro (_ : Nat) | intro (_ : Option Addr) (_ : Nat))
      conv => whnf
      refine fun gA kA nA pA => ?_
      repeat ((conv => whnf); first | apply qza | apply qzb | apply qzc | apply qzd | apply qze | intro (_ : Nat) | intro (_ : Option Addr) (_ : Nat))
      conv => whnf
      refine ⟨5, rfl, by unfold maxLen; omega, fun gB kB nB pB => ?_⟩
      repeat ((conv => whnf); first | apply qza | apply qzb | apply qzc | apply qzd | apply qze | intro (_ : Nat) | intro (_ : Option Addr) (_ : Nat))
      conv => whnf
      intro g2 hg
      have mA := GW.trans kA (GW.trans kB hg)
      refine .inl ⟨hok, _, rfl, _, _, _, _, _, rfl, ⟨show InR 0 by decide, show InR 0 by decide, show InR 0 by decide⟩, ?_, ?_, hlis.mono rListen_mono mA, hSh.mono rRow_mono (GW.trans hgg mA), ⟨none, 0, rfl, Nat.le_refl _, Nat.zero_le _, fun _ => ⟨rfl, rfl⟩, fun i x hx => by simp [newW] at hx⟩⟩
      · exact (rSl_of1 pA.rd (List.replicate N 0) (fun x => .int .i64 x) (by simp [List.flatten_replicate_singleton]) fun x hx => ⟨rfl, by rw [List.eq_of_mem_replicate hx]; decide⟩).mono rInt_mono (GW.trans kB hg)
      · refine rSl_of (pB.rd.mono hg) [cellsV s] [[.slice sa (cellsV s).snap.listens.length ta, .slice sb (cellsV s).snap.rules.length tb, .slice sd (cellsV s).snap.clusters.length td, .slice oV nV cV, .bool false]] rfl (fun e he => ?_) rfl rfl fun i x ec hx hec => ?_
        · simp at he; subst he; rfl
        · cases i with
          | zero =>
            simp at hx hec
            subst hx; subst hec
            exact rVe_mono _ _ _ _ (GW.trans hg2 (GW.trans hgg mA)) hV0
          | succ i => simp at hx
    · repeat ((conv => whnf); first | apply qza | apply qzb | apply qzc | apply qzd | apply qze | intro (_ : Nat) | intro (_ : Option Addr) (_ : Nat))
      conv => whnf
      refine ⟨⟨by omega, by omega, by omega, by omega⟩, fun _ => ?_⟩
      repeat ((conv => whnf); first | apply qza | apply qzb | apply qzc | apply qzd | apply qze | intro (_ : Nat) | intro (_ : Option Addr) (_ : Nat))
      rename_i qP qV qw
      conv => whnf
      refine ⟨Nat × Option Addr × Nat × Nat × GW, fun (k, _, _, _, _) => [.v (.int .i64 k)], fun (k, oX, nX, cX, g') => ⟨g', [.blk 5 qw ty_api_World [.v (.int .i64 0), .v (.int .i64 0), .v (.int .i64 0), .row 3 (some ⟨qP, 0, none⟩) N N, .sl 4 qV 0 1 1, .v (.slice oX nX cX), .v (.slice oS N cS), .v (.slice none 0 0)], .blk 4 qV ty_api_Version [.v (.slice sa (cellsV s).snap.listens.length ta), .v (.slice sb (cellsV s).snap.rules.length tb), .v (.slice sd (cellsV s).snap.clusters.length td), .v (.slice oV nV cV), .v (.bool false)], .row 3 (some ⟨qP, 0, none⟩) N N ty_int 1 (List.replicate N [Value.int .i64 0]).flatten, .blk 2 q2 ty_api_Version [.v (.slice sa (cellsV s).snap.listens.length ta), .v (.slice sb (cellsV s).snap.rules.length tb), .v (.slice sd (cellsV s).snap.clusters.length td), .v (.slice oV nV cV), .v (.bool false)], .blk 1 q1 ty_api_World [.v (.int .i64 0), .v (.int .i64 0), .v (.int .i64 0), .v (.slice none 0 0), .v (.slice none 0 0), .v (.slice none 0 0), .v (.slice none 0 0), .v (.slice none 0 0)], .blk 0 q0 ty_api_Snap [.v (.slice oa s.listens.length ca), .v (.slice ob s.rules.length cb), .v (.slice od s.clusters.length cd)]], 20, g.w.heap.size⟩, fun (k, oX, nX, cX, g') => k ≤ l.length ∧ g2 ≤ g' ∧ nX = k ∧ PbSl g' g.w.heap.size ty_api_Listen 4 (.slice oX nX cX) nX ((lisL (l.take k)).map cLi).flatten ∧ (∀ a, oX = some a → ¬ g2.g a.block) ∧ AllK (namF l) l k, fun (k, _, _, _, _) => l.length - k, fun fr w hw => ⟨(0, none, 0, 0, g2), rfl, ⟨Nat.zero_le _, GW.refl _, rfl, ⟨rfl, .inl ⟨rfl, rfl⟩, fun u hu => by cases hu⟩, (fun a h => by cases h), AllK.zero _ _⟩, hw.fit (by simp [fitL, Res.eqv, concL, conc])⟩, ?_⟩
      rintro ⟨k, oX, nX, cX, g'⟩ ⟨hk, hgg, hn, hpb, hnb, hAK⟩
      have hll2 : (lisL (l.take k)).length = k := by simp [lisL]; omega
      have hlis : rSl 4 rListen g' (.slice oX nX cX) (lisL (l.take k)) := rSl_ofE hpb.rd (lisL (l.take k)) cLi rfl (by omega) (fun _ _ => rfl) fun x hx => by
        obtain ⟨y, _, rfl⟩ := List.mem_map.1 hx
        exact ⟨rfl, show InR 0 by decide⟩
      repeat ((conv => whnf); first | apply qza | apply qzb | apply qzc | apply qzd | apply qze | intro (_ : Nat) | intro (_ : Option Addr) (_ : Nat))
      conv => whnf
      refine ⟨fun hlt => ?_, fun hlt => ?_⟩
      · have h' : k < l.length := by have := of_decide_eq_true hlt; omega
        obtain ⟨x, hx⟩ := getL_of h'
        obtain ⟨a, rfl, ec, hec, rfl, hc⟩ := hl1 k x hx
        have hbad : namF l k x = false → ¬ NewOk s l N := fun hf h => by have h3 := h.2.2; rw [allI_false hx hf] at h3; cases h3
        repeat ((conv => whnf); first | apply qza | apply qzb | apply qzc | apply qzd | apply qze | intro (_ : Nat) | intro (_ : Option Addr) (_ : Nat))
        conv => whnf
        refine ⟨a, rfl, ⟨by omega, by omega⟩, ?_⟩
        conv => whnf
        refine ⟨_, (hc.mono (GW.trans hg02 hgg)) 0 _ rfl, ?_⟩
        repeat ((conv => whnf); first | apply qza | apply qzb | apply qzc | apply qzd | apply qze | intro (_ : Nat) | intro (_ : Option Addr) (_ : Nat))
        conv => whnf
        refine .inl ⟨_, ok_Name _ _, ?_⟩
        repeat ((conv => whnf); first | apply qza | apply qzb | apply qzc | apply qzd | apply qze | intro (_ : Nat) | intro (_ : Option Addr) (_ : Nat))
        conv => whnf
        refine ⟨fun y1 => ?_, fun y1 => ?_⟩
        · repeat ((conv => whnf); first | apply qza | apply qzb | apply qzc | apply qzd | apply qze | intro (_ : Nat) | intro (_ : Option Addr) (_ : Nat))
          conv => whnf
          intro g2 hg
          exact .inr ⟨hbad (by unfold namF; rw [nb1 y1]; rfl), rfl⟩
        repeat ((conv => whnf); first | apply qza | apply qzb | apply qzc | apply qzd | apply qze | intro (_ : Nat) | intro (_ : Option Addr) (_ : Nat))
        conv => whnf
        refine .inl ⟨_, ok_gPlace _ hlis _, ?_⟩
        repeat ((conv => whnf); first | apply qza | apply qzb | apply qzc | apply qzd | apply qze | intro (_ : Nat) | intro (_ : Option Addr) (_ : Nat))
        conv => whnf
        refine ⟨fun y2 => ?_, fun y2 => ?_⟩
        · repeat ((conv => whnf); first | apply qza | apply qzb | apply qzc | apply qzd | apply qze | intro (_ : Nat) | intro (_ : Option Addr) (_ : Nat))
          conv => whnf
          intro g2 hg
          exact .inr ⟨hbad (by unfold namF; rw [decide_eq_false (by have := of_decide_eq_true y2; omega)]; simp), rfl⟩
        have hnF : namF l k x = true := by unfold namF; rw [nb0 y1, decide_eq_true (by have := of_decide_eq_false y2; omega)]; rfl
        have hT := lisL_take hx
        rcases hpb.2.1 with ⟨he, hn0⟩ | ⟨bk, cap', rest, he, hb1, hb2, hb3, hb4, hb5⟩
        · cases he
          have hk0 : k = 0 := by omega
          subst hk0
          repeat ((conv => whnf); first | apply qza | apply qzb | apply qzc | apply qzd | apply qze | intro (_ : Nat) | intro (_ : Option Addr) (_ : Nat))
          conv => whnf
          refine ⟨⟨by unfold maxLen; omega, by omega⟩, fun oa3 cap3 => ?_⟩
          repeat ((conv => whnf); first | apply qza | apply qzb | apply qzc | apply qzd | apply qze | intro (_ : Nat) | intro (_ : Option Addr) (_ : Nat))
          conv => whnf
          refine fun fr w hw => by
            have hw1 : HSim fr ⟨g', .row 70 oa3 (1) cap3 ty_api_Listen 4 (cLi ⟨x, false, 0, false⟩) :: [.blk 5 qw ty_api_World [.v (.int .i64 0), .v (.int .i64 0), .v (.int .i64 0), .row 3 (some ⟨qP, 0, none⟩) N N, .sl 4 qV 0 1 1, .v (.slice oa3 (1) cap3), .v (.slice oS N cS), .v (.slice none 0 0)], .blk 4 qV ty_api_Version [.v (.slice sa (cellsV s).snap.listens.length ta), .v (.slice sb (cellsV s).snap.rules.length tb), .v (.slice sd (cellsV s).snap.clusters.length td), .v (.slice oV nV cV), .v (.bool false)], .row 3 (some ⟨qP, 0, none⟩) N N ty_int 1 (List.replicate N [Value.int .i64 0]).flatten, .blk 2 q2 ty_api_Version [.v (.slice sa (cellsV s).snap.listens.length ta), .v (.slice sb (cellsV s).snap.rules.length tb), .v (.slice sd (cellsV s).snap.clusters.length td), .v (.slice oV nV cV), .v (.bool false)], .blk 1 q1 ty_api_World [.v (.int .i64 0), .v (.int .i64 0), .v (.int .i64 0), .v (.slice none 0 0), .v (.slice none 0 0), .v (.slice none 0 0), .v (.slice none 0 0), .v (.slice none 0 0)], .blk 0 q0 ty_api_Snap [.v (.slice oa s.listens.length ca), .v (.slice ob s.rules.length cb), .v (.slice od s.clusters.length cd)]], 80, g.w.heap.size⟩ w := hw.fit (by simp [fitL, Res.eqv, concL, conc])
            obtain ⟨g4, k1', k2, k3, k4⟩ := hw1.row_pub
            refine ⟨(0 + 1, oa3, 1, cap3, g4), congrArg (fun z => [Value.int .i64 z]) (wr1 h' l1 l2).symm, ⟨h', GW.trans hgg k1', rfl, ?_, fun a ha q => k2 a ha (hgg.2 _ q).1, hAK.succ hx hnF⟩, dec h', k4.fit (by simp [fitL, Res.eqv, concL, conc])⟩
            rw [hT]; exact k3
        · cases he
          have hbk : ¬ g2.g bk := hnb _ rfl
          repeat ((conv => whnf); first | apply qza | apply qzb | apply qzc | apply qzd | apply qze | intro (_ : Nat) | intro (_ : Option Addr) (_ : Nat))
          conv => whnf
          refine .inr ⟨bk, _, rest, ⟨rfl, hb1.1, hb1.2, hb2, hpb.1, hpb.2.2, hb3, hb4, hb5, by unfold maxLen; omega, by omega⟩, fun gL hless oa3 cap3 => ?_⟩
          repeat ((conv => whnf); first | apply qza | apply qzb | apply qzc | apply qzd | apply qze | intro (_ : Nat) | intro (_ : Option Addr) (_ : Nat))
          conv => whnf
          refine fun fr w hw => by
            have hw1 : HSim fr ⟨gL, .row 70 oa3 (nX + 1) cap3 ty_api_Listen 4 (((lisL (l.take k)).map cLi).flatten ++ cLi ⟨x, false, 0, false⟩) :: [.blk 5 qw ty_api_World [.v (.int .i64 0), .v (.int .i64 0), .v (.int .i64 0), .row 3 (some ⟨qP, 0, none⟩) N N, .sl 4 qV 0 1 1, .v (.slice oa3 (nX + 1) cap3), .v (.slice oS N cS), .v (.slice none 0 0)], .blk 4 qV ty_api_Version [.v (.slice sa (cellsV s).snap.listens.length ta), .v (.slice sb (cellsV s).snap.rules.length tb), .v (.slice sd (cellsV s).snap.clusters.length td), .v (.slice oV nV cV), .v (.bool false)], .row 3 (some ⟨qP, 0, none⟩) N N ty_int 1 (List.replicate N [Value.int .i64 0]).flatten, .blk 2 q2 ty_api_Version [.v (.slice sa (cellsV s).snap.listens.length ta), .v (.slice sb (cellsV s).snap.rules.length tb), .v (.slice sd (cellsV s).snap.clusters.length td), .v (.slice oV nV cV), .v (.bool false)], .blk 1 q1 ty_api_World [.v (.int .i64 0), .v (.int .i64 0), .v (.int .i64 0), .v (.slice none 0 0), .v (.slice none 0 0), .v (.slice none 0 0), .v (.slice none 0 0), .v (.slice none 0 0)], .blk 0 q0 ty_api_Snap [.v (.slice oa s.listens.length ca), .v (.slice ob s.rules.length cb), .v (.slice od s.clusters.length cd)]], 80, g.w.heap.size⟩ w := hw.fit (by simp [fitL, Res.eqv, concL, conc])
            obtain ⟨g4, k1', k2, k3, k4⟩ := hw1.row_pub
            have hgL := hless.le hgg hbk
            refine ⟨(k + 1, oa3, nX + 1, cap3, g4), congrArg (fun z => [Value.int .i64 z]) (wr1 h' l1 l2).symm, ⟨h', GW.trans hgL k1', by omega, ?_, fun a ha q => k2 a ha (hgL.2 _ q).1, hAK.succ hx hnF⟩, dec h', k4.fit (by simp [fitL, Res.eqv, concL, conc])⟩
            rw [hT]; simpa using k3
      have hkL : k = l.length := by have := of_decide_eq_false hlt; omega
      subst hkL
      have hok : NewOk s l N := ⟨hz, ht, hAK.done (Nat.le_refl _)⟩
      rw [List.take_length] at hlis
      repeat ((conv => whnf); first | apply qza | apply qzb | apply qzc | apply qzd | apply qze | intro (_ : Nat) | intro (_ : Option Addr) (_ : Nat))
      conv => whnf
      refine fun gA kA nA pA => ?_
      repeat ((conv => whnf); first | apply qza | apply qzb | apply qzc | apply qzd | apply qze | intro (_ : Nat) | intro (_ : Option Addr) (_ : Nat))
      conv => whnf
      refine ⟨5, rfl, by unfold maxLen; omega, fun gB kB nB pB => ?_⟩
      repeat ((conv => whnf); first | apply qza | apply qzb | apply qzc | apply qzd | apply qze | intro (_ : Nat) | intro (_ : Option Addr) (_ : Nat))
      conv => whnf
      intro g2 hg
      have mA := GW.trans kA (GW.trans kB hg)
      refine .inl ⟨hok, _, rfl, _, _, _, _, _, rfl, ⟨show InR 0 by decide, show InR 0 by decide, show InR 0 by decide⟩, ?_, ?_, hlis.mono rListen_mono mA, hSh.mono rRow_mono (GW.trans hgg mA), ⟨none, 0, rfl, Nat.le_refl _, Nat.zero_le _, fun _ => ⟨rfl, rfl⟩, fun i x hx => by simp [newW] at hx⟩⟩
      · exact (rSl_of1 pA.rd (List.replicate N 0) (fun x => .int .i64 x) (by simp [List.flatten_replicate_singleton]) fun x hx => ⟨rfl, by rw [List.eq_of_mem_replicate hx]; decide⟩).mono rInt_mono (GW.trans kB hg)
      · refine rSl_of (pB.rd.mono hg) [cellsV s] [[.slice sa (cellsV s).snap.listens.length ta, .slice sb (cellsV s).snap.rules.length tb, .slice sd (cellsV s).snap.clusters.length td, .slice oV nV cV, .bool false]] rfl (fun e he => ?_) rfl rfl fun i x ec hx hec => ?_
        · simp at he; subst he; rfl
        · cases i with
          | zero =>
            simp at hx hec
            subst hx; subst hec
            exact rVe_mono _ _ _ _ (GW.trans hg2 (GW.trans hgg mA)) hV0
          | succ i => simp at hx)
end Go.Proofs.YtkkhdnddplkobaaGreat


/- Counts that are read: law 25's example. -/
namespace Go.Proofs.YtkkhdnddplkobaaGreat
open Go.Proofs.YtkkhdnddplkobaaGreat.Sx Go.RowKit
theorem wR_sn : SnW wR := by
  intro v hv
  have : v = cellsV (snapP 1 [true]) := by simpa [wR, newW] using hv
  subst this
  refine ⟨by decide, fun r hr => ?_⟩
  have : r = ⟨0, ⟨#[42]⟩, ⟨#[47]⟩, 0⟩ := by simpa [cellsV, snapP] using hr
  subst this
  decide
theorem wR_bg : BgW 1000000 wR := by
  refine ⟨⟨by decide, by decide, by decide, by decide, by decide⟩, by decide, fun v hv => ?_⟩
  have : v = cellsV (snapP 1 [true]) := by simpa [wR, newW] using hv
  subst this
  refine ⟨by decide, fun y hy => ?_⟩
  have : y = ⟨0, [freshE 1]⟩ := by simpa [cellsV, snapP] using hy
  subst this
  show 1 ≤ 1000000
  decide
theorem ok_plain25 (g : GW) : Ok Tryz.prog n_hydrantlaw25_plain [] g fun v g' => ∃ cs, v = .agg ⟨cs⟩ ∧ rWo g' cs wR :=
  Ok.of_fn hm noT 0 t_hydrantlaw25_plain (args := []) (by
    repeat ((conv => whnf); first | apply qza | apply qzb | apply qzc | apply qzd | apply qze | intro (_ : Nat) | intro (_ : Option Addr) (_ : Nat))
    conv => whnf
    refine ⟨1, rfl, by unfold maxLen; omega, fun g1 hg1 hn1 hp1 => ?_⟩
    repeat ((conv => whnf); first | apply qza | apply qzb | apply qzc | apply qzd | apply qze | intro (_ : Nat) | intro (_ : Option Addr) (_ : Nat))
    conv => whnf
    refine ⟨4, rfl, by unfold maxLen; omega, fun g2 hg2 hn2 hp2 => ?_⟩
    repeat ((conv => whnf); first | apply qza | apply qzb | apply qzc | apply qzd | apply qze | intro (_ : Nat) | intro (_ : Option Addr) (_ : Nat))
    conv => whnf
    refine ⟨1, rfl, by unfold maxLen; omega, fun g3 hg3 hn3 hp3 => ?_⟩
    repeat ((conv => whnf); first | apply qza | apply qzb | apply qzc | apply qzd | apply qze | intro (_ : Nat) | intro (_ : Option Addr) (_ : Nat))
    conv => whnf
    refine ⟨4, rfl, by unfold maxLen; omega, fun g4 hg4 hn4 hp4 => ?_⟩
    repeat ((conv => whnf); first | apply qza | apply qzb | apply qzc | apply qzd | apply qze | intro (_ : Nat) | intro (_ : Option Addr) (_ : Nat))
    conv => whnf
    refine ⟨1, rfl, by unfold maxLen; omega, fun g5 hg5 hn5 hp5 => ?_⟩
    have hs := snapP_rd (n := 1) (h := [true]) (hp1.mono (GW.trans hg2 (GW.trans hg3 (GW.trans hg4 hg5)))) (hp2.mono (GW.trans hg3 (GW.trans hg4 hg5))) (hp4.mono hg5) (hp3.mono (GW.trans hg4 hg5)) (by decide)
    have hl := rSl_of1 (R := rStr) hp5.rd [sInW] .string rfl fun _ _ => rfl
    conv => whnf
    refine .inr ((ok_New _ hs hl (t := 2) (by decide) (by decide)).mono fun v g6 hg6 hN => ?_)
    rcases hN with ⟨_, cs, rfl, hw⟩ | ⟨h, _⟩
    rotate_left
    · exact absurd snapP_ok1 h
    obtain ⟨oa, ca, ob, cb, oc, cc, od, cd, oe, ce, rfl⟩ := rWo_open hw
    repeat ((conv => whnf); first | apply qza | apply qzb | apply qzc | apply qzd | apply qze | intro (_ : Nat) | intro (_ : Option Addr) (_ : Nat))
    conv => whnf
    refine ⟨1, rfl, by unfold maxLen; omega, fun g7 hg7 hn7 hp7 => ?_⟩
    repeat ((conv => whnf); first | apply qza | apply qzb | apply qzc | apply qzd | apply qze | intro (_ : Nat) | intro (_ : Option Addr) (_ : Nat))
    conv => whnf
    refine ⟨1, rfl, by unfold maxLen; omega, fun g8 hg8 hn8 hp8 => ?_⟩
    repeat ((conv => whnf); first | apply qza | apply qzb | apply qzc | apply qzd | apply qze | intro (_ : Nat) | intro (_ : Option Addr) (_ : Nat))
    conv => whnf
    refine ⟨1, rfl, by unfold maxLen; omega, fun g9 hg9 hn9 hp9 => ?_⟩
    repeat ((conv => whnf); first | apply qza | apply qzb | apply qzc | apply qzd | apply qze | intro (_ : Nat) | intro (_ : Option Addr) (_ : Nat))
    conv => whnf
    intro g2 hg
    have hr := rows2 (l1 := [3, 1, 2, 0, 0, 0]) (l2 := [4, 4, 0, 0, 0, 0]) hp9 (hp7.mono (GW.trans hg8 hg9)) (hp8.mono hg9) (by decide) (by decide)
    exact ⟨_, rfl, rWo_mono _ _ _ _ hg (rWo_counts (rWo_mono _ _ _ _ (GW.trans hg7 (GW.trans hg8 hg9)) hw) hr)⟩)
end Go.Proofs.YtkkhdnddplkobaaGreat


/- Counts that are read: law 25's example is read. -/
namespace Go.Proofs.YtkkhdnddplkobaaGreat
open Go.Proofs.YtkkhdnddplkobaaGreat.Sx Go.RowKit
structure RdSt where
  j : Nat
  g : GW
  o1 : Option Addr
  t1 : Nat
  o2 : Option Addr
  t2 : Nat
  o3 : Option Addr
  t3 : Nat
abbrev RdSt.ms (x : RdSt) : List Value := (mR x.j).cs (.slice x.o1 (mR x.j).op.config.listens.length x.t1) (.slice x.o2 (mR x.j).op.config.routes.length x.t2) (.slice x.o3 (mR x.j).op.config.clusters.length x.t3)
theorem ok_step25 (g : GW) {cs ms : List Value} {j : Nat} (hw : rWo g cs wR) (hM : rMach g ms (mR j)) (hj : j < 12) : Ok Tryz.prog n_stats_Step [.agg ⟨cs⟩, .agg ⟨ms⟩] g fun v g' => ∃ cs ms, v = .tuple #[.agg ⟨cs⟩, .agg ⟨ms⟩, .agg ⟨(statE wR (mR j)).cs⟩] ∧ rWo g' cs wR ∧ rMach g' ms (mR (j + 1)) :=
  (ok_sStep g hw hM wR_sn wR_bg).mono fun v g' _ hS => by
    obtain ⟨cs', ms', rfl, hw', hM'⟩ := hS
    rw [mR_next hj] at hM'
    exact ⟨_, _, rfl, hw', hM'⟩
set_option maxHeartbeats 4000000 in
set_option maxRecDepth 100000 in
theorem ok_read (g : GW) : OkV Tryz.prog n_hydrantlaw25_read [] g (.bool true) :=
  Ok.of_fn hm noT 0 t_hydrantlaw25_read (args := []) (by
    repeat ((conv => whnf); first | apply qza | apply qzb | apply qzc | apply qzd | apply qze | intro (_ : Nat) | intro (_ : Option Addr) (_ : Nat))
    refine .inr ((ok_plain25 _).mono fun v ga hga hO => ?_)
    obtain ⟨cs, rfl, hwa⟩ := hO
    obtain ⟨oa, ca, ob, cb, oc, cc, od, cd, oe, ce, rfl⟩ := rWo_open hwa
    have hMa := rMach_R ga
    repeat ((conv => whnf); first | apply qza | apply qzb | apply qzc | apply qzd | apply qze | intro (_ : Nat) | intro (_ : Option Addr) (_ : Nat))
    rename_i q0 q1
    refine .inr ((ok_step25 _ hwa hMa (by decide)).mono fun v gb hgb hO => ?_)
    obtain ⟨cs, ms, rfl, hwb, hMb⟩ := hO
    rw [mR_first]
    obtain ⟨ob1, cb1, ob2, cb2, ob3, cb3, ob4, cb4, ob5, cb5, rfl⟩ := rWo_open hwb
    obtain ⟨p1, u1, p2, u2, p3, u3, rfl⟩ := rMach_open hMb
    repeat ((conv => whnf); first | apply qza | apply qzb | apply qzc | apply qzd | apply qze | intro (_ : Nat) | intro (_ : Option Addr) (_ : Nat))
    rename_i q2 q3 q4
    conv => whnf
    refine ⟨RdSt, fun x => [.v (.int .i64 x.j)], fun x => ⟨x.g, [.blk 4 q4 61 ((⟨0, 0, 1, 10, -1, false, 0, false, false, false, ans0⟩ : Ev).cs.map SV.v), .blk 3 q3 59 ((Mach.cs (.slice p1 (mR 1).op.config.listens.length u1) (.slice p2 (mR 1).op.config.routes.length u2) (.slice p3 (mR 1).op.config.clusters.length u3) (mR 1)).map SV.v), .blk 2 q2 34 _, .blk 1 q1 59 (x.ms.map SV.v), .blk 0 q0 34 ([.int .i64 wR.epoch, .int .i64 wR.current, .int .i64 wR.lock, .slice oa wR.pins.length ca, .slice ob wR.versions.length cb, .slice oc wR.listens.length cc, .slice od wR.counts.length cd, .slice oe wR.limbo.length ce].map SV.v)], _, _⟩, fun x => x.j ≤ 12 ∧ ga ≤ x.g ∧ rMach x.g x.ms (mR x.j), fun x => 12 - x.j, loop_here (⟨0, gb, none, 0, none, 0, none, 0⟩ : RdSt) rfl ⟨Nat.zero_le _, hgb, rMach_mono _ _ _ _ hgb hMa⟩ rfl, ?_⟩
    intro x hx
    obtain ⟨hj, hxg, hxM⟩ := hx
    repeat ((conv => whnf); first | apply qza | apply qzb | apply qzc | apply qzd | apply qze | intro (_ : Nat) | intro (_ : Option Addr) (_ : Nat))
    conv => whnf
    refine ⟨fun _ => ?_, fun hx => absurd (((decide_eq_true (show (x.j : Int) < 20 by omega))).symm.trans hx) (by decide)⟩
    repeat ((conv => whnf); first | apply qza | apply qzb | apply qzc | apply qzd | apply qze | intro (_ : Nat) | intro (_ : Option Addr) (_ : Nat))
    conv => whnf
    refine ⟨fun y1 => ?_, fun y1 => ?_⟩
    · have hlt : x.j < 12 := by
        rcases Nat.lt_or_ge x.j 12 with h | h
        · exact h
        · obtain h12 : x.j = 12 := by omega
          rw [h12, mR_done] at y1; cases y1
      repeat ((conv => whnf); first | apply qza | apply qzb | apply qzc | apply qzd | apply qze | intro (_ : Nat) | intro (_ : Option Addr) (_ : Nat))
      refine .inr ((ok_step25 _ (rWo_mono _ _ _ _ hxg hwa) hxM hlt).mono fun v gc hgc hO => ?_)
      obtain ⟨cs, ms, rfl, hwc, hMc⟩ := hO
      obtain ⟨oc1, cc1, oc2, cc2, oc3, cc3, oc4, cc4, oc5, cc5, rfl⟩ := rWo_open hwc
      obtain ⟨v1, w1, v2, w2, v3, w3, rfl⟩ := rMach_open hMc
      repeat ((conv => whnf); first | apply qza | apply qzb | apply qzc | apply qzd | apply qze | intro (_ : Nat) | intro (_ : Option Addr) (_ : Nat))
      conv => whnf
      refine fun fr w hw => ⟨⟨x.j + 1, gc, v1, w1, v2, w2, v3, w3⟩, congrArg (fun z => [Value.int .i64 z]) (by rw [wr (by unfold InR; omega)]; rfl), ⟨hlt, GW.trans hxg hgc, hMc⟩, by show 12 - (x.j + 1) < 12 - x.j; omega, hw.fit (by simp [fitL, Res.eqv, concL, conc])⟩
    have h12 : x.j = 12 := by
      rcases Nat.lt_or_ge x.j 12 with h | h
      · rw [(mR_facts x.j h).1.2.1] at y1; cases y1
      · omega
    obtain ⟨j, g0, o1, t1, o2, t2, o3, t3⟩ := x
    obtain rfl : j = 12 := h12
    repeat ((conv => whnf); first | apply qza | apply qzb | apply qzc | apply qzd | apply qze | intro (_ : Nat) | intro (_ : Option Addr) (_ : Nat))
    conv => whnf
    refine ⟨fun _ => ?_, fun hx => absurd hx (by decide)⟩
    repeat ((conv => whnf); first | apply qza | apply qzb | apply qzc | apply qzd | apply qze | intro (_ : Nat) | intro (_ : Option Addr) (_ : Nat))
    conv => whnf
    refine ⟨fun _ => ?_, fun hx => absurd hx (by decide)⟩
    repeat ((conv => whnf); first | apply qza | apply qzb | apply qzc | apply qzd | apply qze | intro (_ : Nat) | intro (_ : Option Addr) (_ : Nat))
    conv => whnf
    refine ⟨0, ⟨rfl, by decide⟩, ?_⟩
    repeat ((conv => whnf); first | apply qza | apply qzb | apply qzc | apply qzd | apply qze | intro (_ : Nat) | intro (_ : Option Addr) (_ : Nat))
    conv => whnf
    refine ⟨fun _ => ?_, fun hx => absurd hx (by decide)⟩
    repeat ((conv => whnf); first | apply qza | apply qzb | apply qzc | apply qzd | apply qze | intro (_ : Nat) | intro (_ : Option Addr) (_ : Nat))
    conv => whnf
    refine ⟨fun _ => ?_, fun hx => absurd hx (by simp)⟩
    repeat ((conv => whnf); first | apply qza | apply qzb | apply qzc | apply qzd | apply qze | intro (_ : Nat) | intro (_ : Option Addr) (_ : Nat))
    conv => whnf
    intro g2 hg
    rfl)
end Go.Proofs.YtkkhdnddplkobaaGreat

