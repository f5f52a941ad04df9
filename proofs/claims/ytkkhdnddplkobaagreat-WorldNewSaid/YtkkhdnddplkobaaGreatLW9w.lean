/- Worlds: a new one. -/
import Derived.Test.YtkkhdnddplkobaaGreatLW9h
namespace Go.Proofs.YtkkhdnddplkobaaGreat
open Go.Proofs.YtkkhdnddplkobaaGreat.Sx Go.RowKit
abbrev zWs : List Value := [.int .i64 0, .int .i64 0, .int .i64 0, .slice none 0 0, .slice none 0 0, .slice none 0 0, .slice none 0 0, .slice none 0 0]
def NewP (s : Snap) (l : List BA) (t : Int) (v : Value) (g' : GW) : Prop :=
  (NewOk s l t ∧ ∃ cs, v = .tuple #[.agg ⟨cs⟩, .int .i64 0] ∧ rWo g' cs (newW s l t.toNat)) ∨ (¬ NewOk s l t ∧ v = .tuple #[.agg ⟨zWs⟩, .int .i64 1])
theorem ok_New (g : GW) {cs : List Value} {s : Snap} {v : Value} {l : List BA} {t : Int} (hs : rSnap g cs s) (hl : rSl 1 rStr g v l) (hsz : s.rules.length ≤ 1000000) (hll : l.length ≤ 1000000) : Ok Tryz.prog n_world_New [.agg ⟨cs⟩, v, .int .i64 t] g (NewP s l t) := by
  have hs0 := hs
  obtain ⟨a, b, d, rfl, ⟨oa, ca, rfl, _⟩, ⟨ob, cb, rfl, _⟩, ⟨od, cd, rfl, _⟩⟩ := hs
  obtain ⟨ol, cl, rfl, l1, l2, l0, hl1⟩ := id hl
  exact Ok.of_fn hm noT 0 t_world_New (args := [.v (.agg ⟨[.slice oa s.listens.length ca, .slice ob s.rules.length cb, .slice od s.clusters.length cd]⟩), .v (.slice ol l.length cl), .v (.int .i64 t)]) (by
    repeat ((conv => whnf); first | apply qza | apply qzb | apply qzc | apply qzd | apply qze | intro (_ : Nat) | intro (_ : Option Addr) (_ : Nat))
    rename_i q0 q1
    refine .inr ((ok_Cells _ hs0 hsz).mono fun v g1 hg1 hC => ?_)
    rcases hC with ⟨hz, ka, kb, kd, oV, nV, cV, rfl, hV⟩ | ⟨hz, rfl⟩
    rotate_left
    · repeat ((conv => whnf); first | apply qza | apply qzb | apply qzc | apply qzd | apply qze | intro (_ : Nat) | intro (_ : Option Addr) (_ : Nat))
      conv => whnf
      refine ⟨fun _ => ?_, fun h => nomatch h⟩
      repeat ((conv => whnf); first | apply qza | apply qzb | apply qzc | apply qzd | apply qze | intro (_ : Nat) | intro (_ : Option Addr) (_ : Nat))
      conv => whnf
      intro g2 hg
      exact .inr ⟨fun h => hz h.1, rfl⟩
    have hV0 := hV
    obtain ⟨_, _, _, _, he, ⟨_, _, _, he2, ⟨sa, ta, rfl, _⟩, ⟨sb, tb, rfl, _⟩, ⟨sd, td, rfl, _⟩⟩, hG⟩ := hV
    simp only [List.cons.injEq, and_true] at he
    obtain ⟨rfl, rfl, rfl, rfl, _⟩ := he
    cases he2
    repeat ((conv => whnf); first | apply qza | apply qzb | apply qzc | apply qzd | apply qze | intro (_ : Nat) | intro (_ : Option Addr) (_ : Nat))
    rename_i q2
    conv => whnf
    refine ⟨fun h => (nomatch h), fun _ => ?_⟩
    repeat ((conv => whnf); first | apply qza | apply qzb | apply qzc | apply qzd | apply qze | intro (_ : Nat) | intro (_ : Option Addr) (_ : Nat))
    refine .inr ((ok_ShardNew _).mono fun v g2 hg2 hS => ?_)
    rcases hS with ⟨ht, oS, cS, rfl, hSh⟩ | ⟨ht, rfl⟩
    rotate_left
    · repeat ((conv => whnf); first | apply qza | apply qzb | apply qzc | apply qzd | apply qze | intro (_ : Nat) | intro (_ : Option Addr) (_ : Nat))
      conv => whnf
      refine ⟨fun _ => ?_, fun h => nomatch h⟩
      repeat ((conv => whnf); first | apply qza | apply qzb | apply qzc | apply qzd | apply qze | intro (_ : Nat) | intro (_ : Option Addr) (_ : Nat))
      conv => whnf
      intro g2 hg
      exact .inr ⟨fun h => ht h.2.1, rfl⟩
    obtain ⟨N, rfl⟩ := Int.eq_ofNat_of_zero_le (show 0 ≤ t by omega)
    have hg02 := GW.trans hg1 hg2
    repeat ((conv => whnf); first | apply qza | apply qzb | apply qzc | apply qzd | apply qze | intro (_ : Nat) | intro (_ : Option Addr) (_ : Nat))
    conv => whnf
    refine ⟨fun h => (nomatch h), fun _ => ?_⟩
    repeat ((conv => whnf); first | apply qza | apply qzb | apply qzc | apply qzd | apply qze | intro (_ : Nat) | intro (_ : Option Addr) (_ : Nat))
    refine ⟨?_, ?_⟩
    · repeat ((conv => whnf); first | apply qza | apply qzb | apply qzc | apply qzd | apply qze | intro (_ : Nat) | intro (_ : Option Addr) (_ : Nat))
      conv => whnf
      refine ⟨⟨by omega, by omega, by omega, by omega⟩, fun _ => ?_⟩
      repeat ((conv => whnf); first | apply qza | apply qzb | apply qzc | apply qzd | apply qze | intro (_ : Nat) | intro (_ : Option Addr) (_ : Nat))
      rename_i qV qP qw
      conv => whnf
      refine ⟨Nat × Option Addr × Nat × Nat × GW, fun (k, _, _, _, _) => [.v (.int .i64 k)], fun (k, oX, nX, cX, g') => ⟨g', [.blk 5 qw ty_api_World [.v (.int .i64 0), .v (.int .i64 0), .v (.int .i64 0), .row 4 (some ⟨qP, 0, none⟩) N N, .sl 3 qV 0 1 1, .v (.slice oX nX cX), .v (.slice oS N cS), .v (.slice none 0 0)], .row 4 (some ⟨qP, 0, none⟩) N N ty_int 1 (List.replicate N [Value.int .i64 0]).flatten, .blk 3 qV ty_api_Version [.v (.slice sa (cellsV s).snap.listens.length ta), .v (.slice sb (cellsV s).snap.rules.length tb), .v (.slice sd (cellsV s).snap.clusters.length td), .v (.slice oV nV cV), .v (.bool false)], .blk 2 q2 ty_api_Version [.v (.slice sa (cellsV s).snap.listens.length ta), .v (.slice sb (cellsV s).snap.rules.length tb), .v (.slice sd (cellsV s).snap.clusters.length td), .v (.slice oV nV cV), .v (.bool false)], .blk 1 q1 ty_api_World [.v (.int .i64 0), .v (.int .i64 0), .v (.int .i64 0), .v (.slice none 0 0), .v (.slice none 0 0), .v (.slice none 0 0), .v (.slice none 0 0), .v (.slice none 0 0)], .blk 0 q0 ty_api_Snap [.v (.slice oa s.listens.length ca), .v (.slice ob s.rules.length cb), .v (.slice od s.clusters.length cd)]], 20, g.w.heap.size⟩, fun (k, oX, nX, cX, g') => k ≤ l.length ∧ g2 ≤ g' ∧ nX = k ∧ PbSl g' g.w.heap.size ty_api_Listen 4 (.slice oX nX cX) nX ((lisL (l.take k)).map cLi).flatten ∧ (∀ a, oX = some a → ¬ g2.g a.block) ∧ AllK (namF l) l k, fun (k, _, _, _, _) => l.length - k, fun fr w hw => ⟨(0, none, 0, 0, g2), rfl, ⟨Nat.zero_le _, GW.refl _, rfl, ⟨rfl, .inl ⟨rfl, rfl⟩, fun u hu => by cases hu⟩, (fun a h => by cases h), AllK.zero _ _⟩, hw.fit (by simp [fitL, Res.eqv, concL, conc])⟩, ?_⟩
      rintro ⟨k, oX, nX, cX, g'⟩ ⟨hk, hgg, hn, hpb, hnb, hAK⟩
      have hll2 : (lisL (l.take k)).length = k := by simp [lisL]; omega
      have hlis : rSl 4 rListen g' (.slice oX nX cX) (lisL (l.take k)) := rSl_ofE hpb.rd (lisL (l.take k)) cLi rfl (by omega) (fun _ _ => rfl) fun x hx => by
        obtain ⟨y, _, rfl⟩ := List.mem_map.1 hx
        exact ⟨rfl, show InR 0 by decide⟩
      repeat ((conv => whnf); first | apply qza | apply qzb | apply qzc | apply qzd | apply qze | intro (_ : Nat) | intro (_ : Option Addr) (_ : Nat))
      conv => whnf
      refine ⟨fun hlt => ?_, fun hlt => ?_⟩
      · have h' : k < l.length := by have := of_decide_eq_true hlt; omega
        obtain ⟨x, hx⟩ := getL_of h'
        obtain ⟨a, rfl, ec, hec, rfl, hc⟩ := hl1 k x hx
        have hbad : namF l k x = false → ¬ NewOk s l N := fun hf h => by have h3 := h.2.2; rw [allI_false hx hf] at h3; cases h3
        repeat ((conv => whnf); first | apply qza | apply qzb | apply qzc | apply qzd | apply qze | intro (_ : Nat) | intro (_ : Option Addr) (_ : Nat))
        conv => whnf
        refine ⟨a, rfl, ⟨by omega, by omega⟩, ?_⟩
        conv => whnf
        refine ⟨_, (hc.mono (GW.trans hg02 hgg)) 0 _ rfl, ?_⟩
        repeat ((conv => whnf); first | apply qza | apply qzb | apply qzc | apply qzd | apply qze | intro (_ : Nat) | intro (_ : Option Addr) (_ : Nat))
        conv => whnf
        refine .inl ⟨_, ok_Name _ _, ?_⟩
        repeat ((conv => whnf); first | apply qza | apply qzb | apply qzc | apply qzd | apply qze | intro (_ : Nat) | intro (_ : Option Addr) (_ : Nat))
        conv => whnf
        refine ⟨fun y1 => ?_, fun y1 => ?_⟩
        · repeat ((conv => whnf); first | apply qza | apply qzb | apply qzc | apply qzd | apply qze | intro (_ : Nat) | intro (_ : Option Addr) (_ : Nat))
          conv => whnf
          intro g2 hg
          exact .inr ⟨hbad (by unfold namF; rw [nb1 y1]; rfl), rfl⟩
        repeat ((conv => whnf); first | apply qza | apply qzb | apply qzc | apply qzd | apply qze | intro (_ : Nat) | intro (_ : Option Addr) (_ : Nat))
        conv => whnf
        refine .inl ⟨_, ok_gPlace _ hlis _, ?_⟩
        repeat ((conv => whnf); first | apply qza | apply qzb | apply qzc | apply qzd | apply qze | intro (_ : Nat) | intro (_ : Option Addr) (_ : Nat))
        conv => whnf
        refine ⟨fun y2 => ?_, fun y2 => ?_⟩
        · repeat ((conv => whnf); first | apply qza | apply qzb | apply qzc | apply qzd | apply qze | intro (_ : Nat) | intro (_ : Option Addr) (_ : Nat))
          conv => whnf
          intro g2 hg
          exact .inr ⟨hbad (by unfold namF; rw [decide_eq_false (by have := of_decide_eq_true y2; omega)]; simp), rfl⟩
        have hnF : namF l k x = true := by unfold namF; rw [nb0 y1, decide_eq_true (by have := of_decide_eq_false y2; omega)]; rfl
        have hT := lisL_take hx
        rcases hpb.2.1 with ⟨he, hn0⟩ | ⟨bk, cap', rest, he, hb1, hb2, hb3, hb4, hb5⟩
        · cases he
          have hk0 : k = 0 := by omega
          subst hk0
          repeat ((conv => whnf); first | apply qza | apply qzb | apply qzc | apply qzd | apply qze | intro (_ : Nat) | intro (_ : Option Addr) (_ : Nat))
          conv => whnf
          refine ⟨⟨by unfold maxLen; omega, by omega⟩, fun oa3 cap3 => ?_⟩
          repeat ((conv => whnf); first | apply qza | apply qzb | apply qzc | apply qzd | apply qze | intro (_ : Nat) | intro (_ : Option Addr) (_ : Nat))
          conv => whnf
          refine fun fr w hw => by
            have hw1 : HSim fr ⟨g', .row 70 oa3 (1) cap3 ty_api_Listen 4 (cLi ⟨x, false, 0, false⟩) :: [.blk 5 qw ty_api_World [.v (.int .i64 0), .v (.int .i64 0), .v (.int .i64 0), .row 4 (some ⟨qP, 0, none⟩) N N, .sl 3 qV 0 1 1, .v (.slice oa3 (1) cap3), .v (.slice oS N cS), .v (.slice none 0 0)], .row 4 (some ⟨qP, 0, none⟩) N N ty_int 1 (List.replicate N [Value.int .i64 0]).flatten, .blk 3 qV ty_api_Version [.v (.slice sa (cellsV s).snap.listens.length ta), .v (.slice sb (cellsV s).snap.rules.length tb), .v (.slice sd (cellsV s).snap.clusters.length td), .v (.slice oV nV cV), .v (.bool false)], .blk 2 q2 ty_api_Version [.v (.slice sa (cellsV s).snap.listens.length ta), .v (.slice sb (cellsV s).snap.rules.length tb), .v (.slice sd (cellsV s).snap.clusters.length td), .v (.slice oV nV cV), .v (.bool false)], .blk 1 q1 ty_api_World [.v (.int .i64 0), .v (.int .i64 0), .v (.int .i64 0), .v (.slice none 0 0), .v (.slice none 0 0), .v (.slice none 0 0), .v (.slice none 0 0), .v (.slice none 0 0)], .blk 0 q0 ty_api_Snap [.v (.slice oa s.listens.length ca), .v (.slice ob s.rules.length cb), .v (.slice od s.clusters.length cd)]], 80, g.w.heap.size⟩ w := hw.fit (by simp [fitL, Res.eqv, concL, conc])
            obtain ⟨g4, k1', k2, k3, k4⟩ := hw1.row_pub
            refine ⟨(0 + 1, oa3, 1, cap3, g4), congrArg (fun z => [Value.int .i64 z]) (wr1 h' l1 l2).symm, ⟨h', GW.trans hgg k1', rfl, ?_, fun a ha q => k2 a ha (hgg.2 _ q).1, hAK.succ hx hnF⟩, dec h', k4.fit (by simp [fitL, Res.eqv, concL, conc])⟩
            rw [hT]; exact k3
        · cases he
          have hbk : ¬ g2.g bk := hnb _ rfl
          repeat ((conv => whnf); first | apply qza | apply qzb | apply qzc | apply qzd | apply qze | intro (_ : Nat) | intro (_ : Option Addr) (_ : Nat))
          conv => whnf
          refine .inr ⟨bk, _, rest, ⟨rfl, hb1.1, hb1.2, hb2, hpb.1, hpb.2.2, hb3, hb4, hb5, by unfold maxLen; omega, by omega⟩, fun gL hless oa3 cap3 => ?_⟩
          repeat ((conv => whnf); first | apply qza | apply qzb | apply qzc | apply qzd | apply qze | intro (_ : Nat) | intro (_ : Option Addr) (_ : Nat))
          conv => whnf
          refine fun fr w hw => by
            have hw1 : HSim fr ⟨gL, .row 70 oa3 (nX + 1) cap3 ty_api_Listen 4 (((lisL (l.take k)).map cLi).flatten ++ cLi ⟨x, false, 0, false⟩) :: [.blk 5 qw ty_api_World [.v (.int .i64 0), .v (.int .i64 0), .v (.int .i64 0), .row 4 (some ⟨qP, 0, none⟩) N N, .sl 3 qV 0 1 1, .v (.slice oa3 (nX + 1) cap3), .v (.slice oS N cS), .v (.slice none 0 0)], .row 4 (some ⟨qP, 0, none⟩) N N ty_int 1 (List.replicate N [Value.int .i64 0]).flatten, .blk 3 qV ty_api_Version [.v (.slice sa (cellsV s).snap.listens.length ta), .v (.slice sb (cellsV s).snap.rules.length tb), .v (.slice sd (cellsV s).snap.clusters.length td), .v (.slice oV nV cV), .v (.bool false)], .blk 2 q2 ty_api_Version [.v (.slice sa (cellsV s).snap.listens.length ta), .v (.slice sb (cellsV s).snap.rules.length tb), .v (.slice sd (cellsV s).snap.clusters.length td), .v (.slice oV nV cV), .v (.bool false)], .blk 1 q1 ty_api_World [.v (.int .i64 0), .v (.int .i64 0), .v (.int .i64 0), .v (.slice none 0 0), .v (.slice none 0 0), .v (.slice none 0 0), .v (.slice none 0 0), .v (.slice none 0 0)], .blk 0 q0 ty_api_Snap [.v (.slice oa s.listens.length ca), .v (.slice ob s.rules.length cb), .v (.slice od s.clusters.length cd)]], 80, g.w.heap.size⟩ w := hw.fit (by simp [fitL, Res.eqv, concL, conc])
            obtain ⟨g4, k1', k2, k3, k4⟩ := hw1.row_pub
            have hgL := hless.le hgg hbk
            refine ⟨(k + 1, oa3, nX + 1, cap3, g4), congrArg (fun z => [Value.int .i64 z]) (wr1 h' l1 l2).symm, ⟨h', GW.trans hgL k1', by omega, ?_, fun a ha q => k2 a ha (hgL.2 _ q).1, hAK.succ hx hnF⟩, dec h', k4.fit (by simp [fitL, Res.eqv, concL, conc])⟩
            rw [hT]; simpa using k3
      have hkL : k = l.length := by have := of_decide_eq_false hlt; omega
      subst hkL
      have hok : NewOk s l N := ⟨hz, ht, hAK.done (Nat.le_refl _)⟩
      rw [List.take_length] at hlis
      repeat ((conv => whnf); first | apply qza | apply qzb | apply qzc | apply qzd | apply qze | intro (_ : Nat) | intro (_ : Option Addr) (_ : Nat))
      conv => whnf
      refine fun gA kA nA pA => ?_
      repeat ((conv => whnf); first | apply qza | apply qzb | apply qzc | apply qzd | apply qze | intro (_ : Nat) | intro (_ : Option Addr) (_ : Nat))
      conv => whnf
      refine ⟨5, rfl, by unfold maxLen; omega, fun gB kB nB pB => ?_⟩
      repeat ((conv => whnf); first | apply qza | apply qzb | apply qzc | apply qzd | apply qze | intro (_ : Nat) | intro (_ : Option Addr) (_ : Nat))
      conv => whnf
      intro g2 hg
      have mA := GW.trans kA (GW.trans kB hg)
      refine .inl ⟨hok, _, rfl, _, _, _, _, _, rfl, ⟨show InR 0 by decide, show InR 0 by decide, show InR 0 by decide⟩, ?_, ?_, hlis.mono rListen_mono mA, hSh.mono rRow_mono (GW.trans hgg mA), ⟨none, 0, rfl, Nat.le_refl _, Nat.zero_le _, fun _ => ⟨rfl, rfl⟩, fun i x hx => by simp [newW] at hx⟩⟩
      · exact (rSl_of1 pA.rd (List.replicate N 0) (fun x => .int .i64 x) (by simp [List.flatten_replicate_singleton]) fun x hx => ⟨rfl, by rw [List.eq_of_mem_replicate hx]; decide⟩).mono rInt_mono (GW.trans kB hg)
      · refine rSl_of (pB.rd.mono hg) [cellsV s] [[.slice sa (cellsV s).snap.listens.length ta, .slice sb (cellsV s).snap.rules.length tb, .slice sd (cellsV s).snap.clusters.length td, .slice oV nV cV, .bool false]] rfl (fun e he => ?_) rfl rfl fun i x ec hx hec => ?_
        · simp at he; subst he; rfl
        · cases i with
          | zero =>
            simp at hx hec
            subst hx; subst hec
            exact rVe_mono _ _ _ _ (GW.trans hg2 (GW.trans hgg mA)) hV0
          | succ i => simp at hx
    · repeat ((conv => whnf); first | apply qza | apply qzb | apply qzc | apply qzd | apply qze | intro (_ : Nat) | intro (_ : Option Addr) (_ : Nat))
      conv => whnf
      refine ⟨⟨by omega, by omega, by omega, by omega⟩, fun _ => ?_⟩
      repeat ((conv => whnf); first | apply qza | apply qzb | apply qzc | apply qzd | apply qze | intro (_ : Nat) | intro (_ : Option Addr) (_ : Nat))
      rename_i qP qV qw
      conv => whnf
      refine ⟨Nat × Option Addr × Nat × Nat × GW, fun (k, _, _, _, _) => [.v (.int .i64 k)], fun (k, oX, nX, cX, g') => ⟨g', [.blk 5 qw ty_api_World [.v (.int .i64 0), .v (.int .i64 0), .v (.int .i64 0), .row 3 (some ⟨qP, 0, none⟩) N N, .sl 4 qV 0 1 1, .v (.slice oX nX cX), .v (.slice oS N cS), .v (.slice none 0 0)], .blk 4 qV ty_api_Version [.v (.slice sa (cellsV s).snap.listens.length ta), .v (.slice sb (cellsV s).snap.rules.length tb), .v (.slice sd (cellsV s).snap.clusters.length td), .v (.slice oV nV cV), .v (.bool false)], .row 3 (some ⟨qP, 0, none⟩) N N ty_int 1 (List.replicate N [Value.int .i64 0]).flatten, .blk 2 q2 ty_api_Version [.v (.slice sa (cellsV s).snap.listens.length ta), .v (.slice sb (cellsV s).snap.rules.length tb), .v (.slice sd (cellsV s).snap.clusters.length td), .v (.slice oV nV cV), .v (.bool false)], .blk 1 q1 ty_api_World [.v (.int .i64 0), .v (.int .i64 0), .v (.int .i64 0), .v (.slice none 0 0), .v (.slice none 0 0), .v (.slice none 0 0), .v (.slice none 0 0), .v (.slice none 0 0)], .blk 0 q0 ty_api_Snap [.v (.slice oa s.listens.length ca), .v (.slice ob s.rules.length cb), .v (.slice od s.clusters.length cd)]], 20, g.w.heap.size⟩, fun (k, oX, nX, cX, g') => k ≤ l.length ∧ g2 ≤ g' ∧ nX = k ∧ PbSl g' g.w.heap.size ty_api_Listen 4 (.slice oX nX cX) nX ((lisL (l.take k)).map cLi).flatten ∧ (∀ a, oX = some a → ¬ g2.g a.block) ∧ AllK (namF l) l k, fun (k, _, _, _, _) => l.length - k, fun fr w hw => ⟨(0, none, 0, 0, g2), rfl, ⟨Nat.zero_le _, GW.refl _, rfl, ⟨rfl, .inl ⟨rfl, rfl⟩, fun u hu => by cases hu⟩, (fun a h => by cases h), AllK.zero _ _⟩, hw.fit (by simp [fitL, Res.eqv, concL, conc])⟩, ?_⟩
      rintro ⟨k, oX, nX, cX, g'⟩ ⟨hk, hgg, hn, hpb, hnb, hAK⟩
      have hll2 : (lisL (l.take k)).length = k := by simp [lisL]; omega
      have hlis : rSl 4 rListen g' (.slice oX nX cX) (lisL (l.take k)) := rSl_ofE hpb.rd (lisL (l.take k)) cLi rfl (by omega) (fun _ _ => rfl) fun x hx => by
        obtain ⟨y, _, rfl⟩ := List.mem_map.1 hx
        exact ⟨rfl, show InR 0 by decide⟩
      repeat ((conv => whnf); first | apply qza | apply qzb | apply qzc | apply qzd | apply qze | intro (_ : Nat) | intro (_ : Option Addr) (_ : Nat))
      conv => whnf
      refine ⟨fun hlt => ?_, fun hlt => ?_⟩
      · have h' : k < l.length := by have := of_decide_eq_true hlt; omega
        obtain ⟨x, hx⟩ := getL_of h'
        obtain ⟨a, rfl, ec, hec, rfl, hc⟩ := hl1 k x hx
        have hbad : namF l k x = false → ¬ NewOk s l N := fun hf h => by have h3 := h.2.2; rw [allI_false hx hf] at h3; cases h3
        repeat ((conv => whnf); first | apply qza | apply qzb | apply qzc | apply qzd | apply qze | intro (_ : Nat) | intro (_ : Option Addr) (_ : Nat))
        conv => whnf
        refine ⟨a, rfl, ⟨by omega, by omega⟩, ?_⟩
        conv => whnf
        refine ⟨_, (hc.mono (GW.trans hg02 hgg)) 0 _ rfl, ?_⟩
        repeat ((conv => whnf); first | apply qza | apply qzb | apply qzc | apply qzd | apply qze | intro (_ : Nat) | intro (_ : Option Addr) (_ : Nat))
        conv => whnf
        refine .inl ⟨_, ok_Name _ _, ?_⟩
        repeat ((conv => whnf); first | apply qza | apply qzb | apply qzc | apply qzd | apply qze | intro (_ : Nat) | intro (_ : Option Addr) (_ : Nat))
        conv => whnf
        refine ⟨fun y1 => ?_, fun y1 => ?_⟩
        · repeat ((conv => whnf); first | apply qza | apply qzb | apply qzc | apply qzd | apply qze | intro (_ : Nat) | intro (_ : Option Addr) (_ : Nat))
          conv => whnf
          intro g2 hg
          exact .inr ⟨hbad (by unfold namF; rw [nb1 y1]; rfl), rfl⟩
        repeat ((conv => whnf); first | apply qza | apply qzb | apply qzc | apply qzd | apply qze | intro (_ : Nat) | intro (_ : Option Addr) (_ : Nat))
        conv => whnf
        refine .inl ⟨_, ok_gPlace _ hlis _, ?_⟩
        repeat ((conv => whnf); first | apply qza | apply qzb | apply qzc | apply qzd | apply qze | intro (_ : Nat) | intro (_ : Option Addr) (_ : Nat))
        conv => whnf
        refine ⟨fun y2 => ?_, fun y2 => ?_⟩
        · repeat ((conv => whnf); first | apply qza | apply qzb | apply qzc | apply qzd | apply qze | intro (_ : Nat) | intro (_ : Option Addr) (_ : Nat))
          conv => whnf
          intro g2 hg
          exact .inr ⟨hbad (by unfold namF; rw [decide_eq_false (by have := of_decide_eq_true y2; omega)]; simp), rfl⟩
        have hnF : namF l k x = true := by unfold namF; rw [nb0 y1, decide_eq_true (by have := of_decide_eq_false y2; omega)]; rfl
        have hT := lisL_take hx
        rcases hpb.2.1 with ⟨he, hn0⟩ | ⟨bk, cap', rest, he, hb1, hb2, hb3, hb4, hb5⟩
        · cases he
          have hk0 : k = 0 := by omega
          subst hk0
          repeat ((conv => whnf); first | apply qza | apply qzb | apply qzc | apply qzd | apply qze | intro (_ : Nat) | intro (_ : Option Addr) (_ : Nat))
          conv => whnf
          refine ⟨⟨by unfold maxLen; omega, by omega⟩, fun oa3 cap3 => ?_⟩
          repeat ((conv => whnf); first | apply qza | apply qzb | apply qzc | apply qzd | apply qze | intro (_ : Nat) | intro (_ : Option Addr) (_ : Nat))
          conv => whnf
          refine fun fr w hw => by
            have hw1 : HSim fr ⟨g', .row 70 oa3 (1) cap3 ty_api_Listen 4 (cLi ⟨x, false, 0, false⟩) :: [.blk 5 qw ty_api_World [.v (.int .i64 0), .v (.int .i64 0), .v (.int .i64 0), .row 3 (some ⟨qP, 0, none⟩) N N, .sl 4 qV 0 1 1, .v (.slice oa3 (1) cap3), .v (.slice oS N cS), .v (.slice none 0 0)], .blk 4 qV ty_api_Version [.v (.slice sa (cellsV s).snap.listens.length ta), .v (.slice sb (cellsV s).snap.rules.length tb), .v (.slice sd (cellsV s).snap.clusters.length td), .v (.slice oV nV cV), .v (.bool false)], .row 3 (some ⟨qP, 0, none⟩) N N ty_int 1 (List.replicate N [Value.int .i64 0]).flatten, .blk 2 q2 ty_api_Version [.v (.slice sa (cellsV s).snap.listens.length ta), .v (.slice sb (cellsV s).snap.rules.length tb), .v (.slice sd (cellsV s).snap.clusters.length td), .v (.slice oV nV cV), .v (.bool false)], .blk 1 q1 ty_api_World [.v (.int .i64 0), .v (.int .i64 0), .v (.int .i64 0), .v (.slice none 0 0), .v (.slice none 0 0), .v (.slice none 0 0), .v (.slice none 0 0), .v (.slice none 0 0)], .blk 0 q0 ty_api_Snap [.v (.slice oa s.listens.length ca), .v (.slice ob s.rules.length cb), .v (.slice od s.clusters.length cd)]], 80, g.w.heap.size⟩ w := hw.fit (by simp [fitL, Res.eqv, concL, conc])
            obtain ⟨g4, k1', k2, k3, k4⟩ := hw1.row_pub
            refine ⟨(0 + 1, oa3, 1, cap3, g4), congrArg (fun z => [Value.int .i64 z]) (wr1 h' l1 l2).symm, ⟨h', GW.trans hgg k1', rfl, ?_, fun a ha q => k2 a ha (hgg.2 _ q).1, hAK.succ hx hnF⟩, dec h', k4.fit (by simp [fitL, Res.eqv, concL, conc])⟩
            rw [hT]; exact k3
        · cases he
          have hbk : ¬ g2.g bk := hnb _ rfl
          repeat ((conv => whnf); first | apply qza | apply qzb | apply qzc | apply qzd | apply qze | intro (_ : Nat) | intro (_ : Option Addr) (_ : Nat))
          conv => whnf
          refine .inr ⟨bk, _, rest, ⟨rfl, hb1.1, hb1.2, hb2, hpb.1, hpb.2.2, hb3, hb4, hb5, by unfold maxLen; omega, by omega⟩, fun gL hless oa3 cap3 => ?_⟩
          repeat ((conv => whnf); first | apply qza | apply qzb | apply qzc | apply qzd | apply qze | intro (_ : Nat) | intro (_ : Option Addr) (_ : Nat))
          conv => whnf
          refine fun fr w hw => by
            have hw1 : HSim fr ⟨gL, .row 70 oa3 (nX + 1) cap3 ty_api_Listen 4 (((lisL (l.take k)).map cLi).flatten ++ cLi ⟨x, false, 0, false⟩) :: [.blk 5 qw ty_api_World [.v (.int .i64 0), .v (.int .i64 0), .v (.int .i64 0), .row 3 (some ⟨qP, 0, none⟩) N N, .sl 4 qV 0 1 1, .v (.slice oa3 (nX + 1) cap3), .v (.slice oS N cS), .v (.slice none 0 0)], .blk 4 qV ty_api_Version [.v (.slice sa (cellsV s).snap.listens.length ta), .v (.slice sb (cellsV s).snap.rules.length tb), .v (.slice sd (cellsV s).snap.clusters.length td), .v (.slice oV nV cV), .v (.bool false)], .row 3 (some ⟨qP, 0, none⟩) N N ty_int 1 (List.replicate N [Value.int .i64 0]).flatten, .blk 2 q2 ty_api_Version [.v (.slice sa (cellsV s).snap.listens.length ta), .v (.slice sb (cellsV s).snap.rules.length tb), .v (.slice sd (cellsV s).snap.clusters.length td), .v (.slice oV nV cV), .v (.bool false)], .blk 1 q1 ty_api_World [.v (.int .i64 0), .v (.int .i64 0), .v (.int .i64 0), .v (.slice none 0 0), .v (.slice none 0 0), .v (.slice none 0 0), .v (.slice none 0 0), .v (.slice none 0 0)], .blk 0 q0 ty_api_Snap [.v (.slice oa s.listens.length ca), .v (.slice ob s.rules.length cb), .v (.slice od s.clusters.length cd)]], 80, g.w.heap.size⟩ w := hw.fit (by simp [fitL, Res.eqv, concL, conc])
            obtain ⟨g4, k1', k2, k3, k4⟩ := hw1.row_pub
            have hgL := hless.le hgg hbk
            refine ⟨(k + 1, oa3, nX + 1, cap3, g4), congrArg (fun z => [Value.int .i64 z]) (wr1 h' l1 l2).symm, ⟨h', GW.trans hgL k1', by omega, ?_, fun a ha q => k2 a ha (hgL.2 _ q).1, hAK.succ hx hnF⟩, dec h', k4.fit (by simp [fitL, Res.eqv, concL, conc])⟩
            rw [hT]; simpa using k3
      have hkL : k = l.length := by have := of_decide_eq_false hlt; omega
      subst hkL
      have hok : NewOk s l N := ⟨hz, ht, hAK.done (Nat.le_refl _)⟩
      rw [List.take_length] at hlis
      repeat ((conv => whnf); first | apply qza | apply qzb | apply qzc | apply qzd | apply qze | intro (_ : Nat) | intro (_ : Option Addr) (_ : Nat))
      conv => whnf
      refine fun gA kA nA pA => ?_
      repeat ((conv => whnf); first | apply qza | apply qzb | apply qzc | apply qzd | apply qze | intro (_ : Nat) | intro (_ : Option Addr) (_ : Nat))
      conv => whnf
      refine ⟨5, rfl, by unfold maxLen; omega, fun gB kB nB pB => ?_⟩
      repeat ((conv => whnf); first | apply qza | apply qzb | apply qzc | apply qzd | apply qze | intro (_ : Nat) | intro (_ : Option Addr) (_ : Nat))
      conv => whnf
      intro g2 hg
      have mA := GW.trans kA (GW.trans kB hg)
      refine .inl ⟨hok, _, rfl, _, _, _, _, _, rfl, ⟨show InR 0 by decide, show InR 0 by decide, show InR 0 by decide⟩, ?_, ?_, hlis.mono rListen_mono mA, hSh.mono rRow_mono (GW.trans hgg mA), ⟨none, 0, rfl, Nat.le_refl _, Nat.zero_le _, fun _ => ⟨rfl, rfl⟩, fun i x hx => by simp [newW] at hx⟩⟩
      · exact (rSl_of1 pA.rd (List.replicate N 0) (fun x => .int .i64 x) (by simp [List.flatten_replicate_singleton]) fun x hx => ⟨rfl, by rw [List.eq_of_mem_replicate hx]; decide⟩).mono rInt_mono (GW.trans kB hg)
      · refine rSl_of (pB.rd.mono hg) [cellsV s] [[.slice sa (cellsV s).snap.listens.length ta, .slice sb (cellsV s).snap.rules.length tb, .slice sd (cellsV s).snap.clusters.length td, .slice oV nV cV, .bool false]] rfl (fun e he => ?_) rfl rfl fun i x ec hx hec => ?_
        · simp at he; subst he; rfl
        · cases i with
          | zero =>
            simp at hx hec
            subst hx; subst hec
            exact rVe_mono _ _ _ _ (GW.trans hg2 (GW.trans hgg mA)) hV0
          | succ i => simp at hx)
end Go.Proofs.YtkkhdnddplkobaaGreat


/- Worlds: what is cloned: endpoints, groups, versions, rows. -/
namespace Go.Proofs.YtkkhdnddplkobaaGreat
open Go.Proofs.YtkkhdnddplkobaaGreat.Sx Go.RowKit
theorem ok_cEnd (g0 g : GW) (h0 : g0 ≤ g) {cs : List Value} {x : EndC} (hx : rEn g cs x) : Ok Tryz.prog n_world_cloner__end [.agg ⟨[]⟩, .agg ⟨cs⟩] g fun v g' => ∃ cs', v = .agg ⟨cs'⟩ ∧ oEn wT true g' g0.w.heap.size (NEW g g') cs' x := by
  obtain ⟨⟨n, rfl, hH, hA, hN⟩, hsz⟩ := hx
  obtain ⟨oa, ca, rfl, a1, a2, a0, hr⟩ := id hN
  exact Ok.of_fn hm noT 0 t_world_cloner__end (args := [.v (.agg ⟨[]⟩), .v (.agg ⟨[.int .u64 x.head, .slice oa x.next.length ca, .int .i64 x.active]⟩)]) (by
    repeat ((conv => whnf); first | apply qza | apply qzb | apply qzc | apply qzd | apply qze | intro (_ : Nat) | intro (_ : Option Addr) (_ : Nat))
    refine .inr ((ok_cInt g0 _ h0 hN hsz).mono fun v g1 hg1 hO => ?_)
    obtain ⟨oV, cV, rfl⟩ := oSl_val hO
    repeat ((conv => whnf); first | apply qza | apply qzb | apply qzc | apply qzd | apply qze | intro (_ : Nat) | intro (_ : Option Addr) (_ : Nat))
    conv => whnf
    intro g2 hg
    exact ⟨_, rfl, _, rfl, ⟨hH, hA, hsz⟩, .inl (oSl_up (oLf_fr rInt_any) hg hO)⟩)
theorem ok_eEnd (g0 g : GW) (h0 : g0 ≤ g) {v : Value} {l : List EndC} (hl : rSl 3 rEn g v l) (hlen : l.length ≤ 1000000)  : Ok Tryz.prog n_world_each_api_End_world_cloner [v, .func (.func n_world_cloner__end) #[] #[], .agg ⟨[]⟩] g fun v' g' => oSl ty_api_End 3 (oEn wT true) g' g0.w.heap.size (NEW g g') v' l := by
  obtain ⟨oa, ca, rfl, a1, a2, a0, hr⟩ := id hl
  exact Ok.of_fn hm noT 0 t_world_each_api_End_world_cloner (args := [.v (.slice oa l.length ca), .v (.func (.func n_world_cloner__end) #[] #[]), .v (.agg ⟨[]⟩)]) (by
    repeat ((conv => whnf); first | apply qza | apply qzb | apply qzc | apply qzd | apply qze | intro (_ : Nat) | intro (_ : Option Addr) (_ : Nat))
    conv => whnf
    refine ⟨⟨by omega, by omega, by omega, by omega⟩, fun _ => ?_⟩
    repeat ((conv => whnf); first | apply qza | apply qzb | apply qzc | apply qzd | apply qze | intro (_ : Nat) | intro (_ : Option Addr) (_ : Nat))
    rename_i q0 q1
    conv => whnf
    refine ⟨Nat × List (List Value) × GW, fun (k, _, _) => [.v (.int .i64 k)], fun (k, ecs, g') => ⟨g', [.row 1 (some ⟨q1, 0, none⟩) l.length l.length ty_api_End 3 (rowK ecs [.int .u64 0, .slice none 0 0, .int .i64 0] (l.length - k)), .blk 0 q0 ty_world_cloner []], 10, g.w.heap.size⟩, fun (k, ecs, g') => k ≤ l.length ∧ g ≤ g' ∧ oEls 3 (oEn wT true) g g' g0.w.heap.size ecs (l.take k), fun (k, _, _) => l.length - k, fun fr w hw => ⟨(0, [], g), rfl, ⟨Nat.zero_le _, GW.refl _, oEls_nil _ _ _⟩, hw.fit (by simp [fitL, Res.eqv, concL, conc, rowK])⟩, ?_⟩
    rintro ⟨k, ecs, g'⟩ ⟨hk, hgg, hE⟩
    have hE0 := hE
    obtain ⟨_, ⟨hel, hes⟩, _⟩ := hE0
    rw [List.length_take, Nat.min_eq_left hk] at hel
    repeat ((conv => whnf); first | apply qza | apply qzb | apply qzc | apply qzd | apply qze | intro (_ : Nat) | intro (_ : Option Addr) (_ : Nat))
    conv => whnf
    refine ⟨fun hlt => ?_, fun hlt => ?_⟩
    · have h' : k < l.length := by have := of_decide_eq_true hlt; omega
      obtain ⟨x, hx⟩ := getL_of h'
      obtain ⟨x1, x2⟩ := List.getElem?_eq_some_iff.1 hx
      obtain ⟨a, rfl, ec, hec, hxe, hc⟩ := hr k x hx
      have hxe0 := hxe
      obtain ⟨⟨nx, rfl, u1, u2, ⟨oN, cN, rfl, _⟩⟩, u3⟩ := hxe
      repeat ((conv => whnf); first | apply qza | apply qzb | apply qzc | apply qzd | apply qze | intro (_ : Nat) | intro (_ : Option Addr) (_ : Nat))
      conv => whnf
      refine ⟨a, rfl, ⟨by omega, by omega⟩, ?_⟩
      conv => whnf
      refine ⟨_, ⟨rfl, hc.mono hgg⟩, ?_⟩
      repeat ((conv => whnf); first | apply qza | apply qzb | apply qzc | apply qzd | apply qze | intro (_ : Nat) | intro (_ : Option Addr) (_ : Nat))
      conv => whnf
      refine ⟨.of (by kernel_rfl), ?_⟩
      refine .inr ((ok_cEnd g0 _ (GW.trans h0 hgg) (rEn_mono _ _ _ _ hgg hxe0)).mono fun v g1 hg1 hO => ?_)
      obtain ⟨cs', rfl, hO⟩ := hO
      have hO0 := hO
      obtain ⟨nv, rfl, _, hO1⟩ := hO0
      obtain ⟨oW, cW, rfl, _⟩ := oNx_rd hO1
      have hlenR := rowK_len (m := l.length - k) (z := [.int .u64 0, .slice none 0 0, .int .i64 0]) hes rfl
      have hT : l.take (k + 1) = l.take k ++ [x] := by rw [List.take_succ_eq_append_getElem x1, x2]
      have hset := rowK_set (m := l.length - k) (z := [.int .u64 0, .slice none 0 0, .int .i64 0]) hes rfl (by omega) (ec := [.int .u64 x.head, .slice oW x.next.length cW, .int .i64 x.active]) rfl hel.symm
      repeat ((conv => whnf); first | apply qza | apply qzb | apply qzc | apply qzd | apply qze | intro (_ : Nat) | intro (_ : Option Addr) (_ : Nat))
      conv => whnf
      refine ⟨⟨by omega, by omega⟩, ?_⟩
      repeat ((conv => whnf); first | apply qza | apply qzb | apply qzc | apply qzd | apply qze | intro (_ : Nat) | intro (_ : Option Addr) (_ : Nat))
      conv => whnf
      refine ⟨⟨by rw [hlenR, hel]; simp; omega, by decide⟩, ?_⟩
      repeat ((conv => whnf); first | apply qza | apply qzb | apply qzc | apply qzd | apply qze | intro (_ : Nat) | intro (_ : Option Addr) (_ : Nat))
      conv => whnf
      refine fun fr w hw => ⟨(k + 1, ecs ++ [[.int .u64 x.head, .slice oW x.next.length cW, .int .i64 x.active]], g1), congrArg (fun z => [Value.int .i64 z]) (wr1 h' a1 a2).symm, ⟨h', GW.trans hgg hg1, by rw [hT]; exact oEls_snoc oEn_fr hgg hg1 hE rfl hO⟩, dec h', hw.fit ?_⟩
      rw [show l.length - (k + 1) = l.length - k - 1 by omega]
      simp [fitL, Res.eqv, concL, conc, ← hset]
    have hkL : k = l.length := by have := of_decide_eq_false hlt; omega
    subst hkL
    rw [List.take_length] at hE
    repeat ((conv => whnf); first | apply qza | apply qzb | apply qzc | apply qzd | apply qze | intro (_ : Nat) | intro (_ : Option Addr) (_ : Nat))
    conv => whnf
    refine fun g1 hg1 hn1 hp1 => ?_
    rw [Nat.sub_self, rowK_done] at hp1
    conv => whnf
    intro g2 hg
    exact oSl_up oEn_fr hg (oEls_sl oEn_fr hE hgg hg1 (hp1.lo_le h0.1) rfl hn1))
theorem ok_cGroup (g0 g : GW) (h0 : g0 ≤ g) {cs : List Value} {x : Group} (hx : rGr g cs x) (hb : BgG 1000000 x) : Ok Tryz.prog n_world_cloner__group [.agg ⟨[]⟩, .agg ⟨cs⟩] g fun v g' => ∃ cs', v = .agg ⟨cs'⟩ ∧ oGr wT true g' g0.w.heap.size (NEW g g') cs' x := by
  obtain ⟨n, rfl, hH, hN⟩ := hx
  obtain ⟨oa, ca, rfl, a1, a2, a0, hr⟩ := id hN
  exact Ok.of_fn hm noT 0 t_world_cloner__group (args := [.v (.agg ⟨[]⟩), .v (.agg ⟨[.int .u64 x.ticket, .slice oa x.ends.length ca]⟩)]) (by
    repeat ((conv => whnf); first | apply qza | apply qzb | apply qzc | apply qzd | apply qze | intro (_ : Nat) | intro (_ : Option Addr) (_ : Nat))
    refine .inr ((ok_eEnd g0 _ h0 hN hb).mono fun v g1 hg1 hO => ?_)
    obtain ⟨oV, cV, rfl⟩ := oSl_val hO
    repeat ((conv => whnf); first | apply qza | apply qzb | apply qzc | apply qzd | apply qze | intro (_ : Nat) | intro (_ : Option Addr) (_ : Nat))
    conv => whnf
    intro g2 hg
    exact ⟨_, rfl, _, rfl, hH, oSl_up oEn_fr hg hO⟩)
theorem ok_eGroup (g0 g : GW) (h0 : g0 ≤ g) {v : Value} {l : List Group} (hl : rSl 2 rGr g v l) (hlen : l.length ≤ 1000000) (hb : ∀ y ∈ l, BgG 1000000 y) : Ok Tryz.prog n_world_each_api_Group_world_cloner [v, .func (.func n_world_cloner__group) #[] #[], .agg ⟨[]⟩] g fun v' g' => oSl ty_api_Group 2 (oGr wT true) g' g0.w.heap.size (NEW g g') v' l := by
  obtain ⟨oa, ca, rfl, a1, a2, a0, hr⟩ := id hl
  exact Ok.of_fn hm noT 0 t_world_each_api_Group_world_cloner (args := [.v (.slice oa l.length ca), .v (.func (.func n_world_cloner__group) #[] #[]), .v (.agg ⟨[]⟩)]) (by
    repeat ((conv => whnf); first | apply qza | apply qzb | apply qzc | apply qzd | apply qze | intro (_ : Nat) | intro (_ : Option Addr) (_ : Nat))
    conv => whnf
    refine ⟨⟨by omega, by omega, by omega, by omega⟩, fun _ => ?_⟩
    repeat ((conv => whnf); first | apply qza | apply qzb | apply qzc | apply qzd | apply qze | intro (_ : Nat) | intro (_ : Option Addr) (_ : Nat))
    rename_i q0 q1
    conv => whnf
    refine ⟨Nat × List (List Value) × GW, fun (k, _, _) => [.v (.int .i64 k)], fun (k, ecs, g') => ⟨g', [.row 1 (some ⟨q1, 0, none⟩) l.length l.length ty_api_Group 2 (rowK ecs [.int .u64 0, .slice none 0 0] (l.length - k)), .blk 0 q0 ty_world_cloner []], 10, g.w.heap.size⟩, fun (k, ecs, g') => k ≤ l.length ∧ g ≤ g' ∧ oEls 2 (oGr wT true) g g' g0.w.heap.size ecs (l.take k), fun (k, _, _) => l.length - k, fun fr w hw => ⟨(0, [], g), rfl, ⟨Nat.zero_le _, GW.refl _, oEls_nil _ _ _⟩, hw.fit (by simp [fitL, Res.eqv, concL, conc, rowK])⟩, ?_⟩
    rintro ⟨k, ecs, g'⟩ ⟨hk, hgg, hE⟩
    have hE0 := hE
    obtain ⟨_, ⟨hel, hes⟩, _⟩ := hE0
    rw [List.length_take, Nat.min_eq_left hk] at hel
    repeat ((conv => whnf); first | apply qza | apply qzb | apply qzc | apply qzd | apply qze | intro (_ : Nat) | intro (_ : Option Addr) (_ : Nat))
    conv => whnf
    refine ⟨fun hlt => ?_, fun hlt => ?_⟩
    · have h' : k < l.length := by have := of_decide_eq_true hlt; omega
      obtain ⟨x, hx⟩ := getL_of h'
      obtain ⟨x1, x2⟩ := List.getElem?_eq_some_iff.1 hx
      obtain ⟨a, rfl, ec, hec, hxe, hc⟩ := hr k x hx
      have hxe0 := hxe
      obtain ⟨nx, rfl, u1, ⟨oN, cN, rfl, _⟩⟩ := hxe
      repeat ((conv => whnf); first | apply qza | apply qzb | apply qzc | apply qzd | apply qze | intro (_ : Nat) | intro (_ : Option Addr) (_ : Nat))
      conv => whnf
      refine ⟨a, rfl, ⟨by omega, by omega⟩, ?_⟩
      conv => whnf
      refine ⟨_, ⟨rfl, hc.mono hgg⟩, ?_⟩
      repeat ((conv => whnf); first | apply qza | apply qzb | apply qzc | apply qzd | apply qze | intro (_ : Nat) | intro (_ : Option Addr) (_ : Nat))
      conv => whnf
      refine ⟨.of (by kernel_rfl), ?_⟩
      refine .inr ((ok_cGroup g0 _ (GW.trans h0 hgg) (rGr_mono _ _ _ _ hgg hxe0) (hb x (List.mem_of_getElem? hx))).mono fun v g1 hg1 hO => ?_)
      obtain ⟨cs', rfl, hO⟩ := hO
      have hO0 := hO
      obtain ⟨nv, rfl, _, hO1⟩ := hO0
      obtain ⟨oW, cW, rfl⟩ := oSl_val hO1
      have hlenR := rowK_len (m := l.length - k) (z := [.int .u64 0, .slice none 0 0]) hes rfl
      have hT : l.take (k + 1) = l.take k ++ [x] := by rw [List.take_succ_eq_append_getElem x1, x2]
      have hset := rowK_set (m := l.length - k) (z := [.int .u64 0, .slice none 0 0]) hes rfl (by omega) (ec := [.int .u64 x.ticket, .slice oW x.ends.length cW]) rfl hel.symm
      repeat ((conv => whnf); first | apply qza | apply qzb | apply qzc | apply qzd | apply qze | intro (_ : Nat) | intro (_ : Option Addr) (_ : Nat))
      conv => whnf
      refine ⟨⟨by omega, by omega⟩, ?_⟩
      repeat ((conv => whnf); first | apply qza | apply qzb | apply qzc | apply qzd | apply qze | intro (_ : Nat) | intro (_ : Option Addr) (_ : Nat))
      conv => whnf
      refine ⟨⟨by rw [hlenR, hel]; simp; omega, by decide⟩, ?_⟩
      repeat ((conv => whnf); first | apply qza | apply qzb | apply qzc | apply qzd | apply qze | intro (_ : Nat) | intro (_ : Option Addr) (_ : Nat))
      conv => whnf
      refine fun fr w hw => ⟨(k + 1, ecs ++ [[.int .u64 x.ticket, .slice oW x.ends.length cW]], g1), congrArg (fun z => [Value.int .i64 z]) (wr1 h' a1 a2).symm, ⟨h', GW.trans hgg hg1, by rw [hT]; exact oEls_snoc oGr_fr hgg hg1 hE rfl hO⟩, dec h', hw.fit ?_⟩
      rw [show l.length - (k + 1) = l.length - k - 1 by omega]
      simp [fitL, Res.eqv, concL, conc, ← hset]
    have hkL : k = l.length := by have := of_decide_eq_false hlt; omega
    subst hkL
    rw [List.take_length] at hE
    repeat ((conv => whnf); first | apply qza | apply qzb | apply qzc | apply qzd | apply qze | intro (_ : Nat) | intro (_ : Option Addr) (_ : Nat))
    conv => whnf
    refine fun g1 hg1 hn1 hp1 => ?_
    rw [Nat.sub_self, rowK_done] at hp1
    conv => whnf
    intro g2 hg
    exact oSl_up oGr_fr hg (oEls_sl oGr_fr hE hgg hg1 (hp1.lo_le h0.1) rfl hn1))
theorem ok_cVersion (g0 g : GW) (h0 : g0 ≤ g) {cs : List Value} {x : Version} (hx : rVe g0 cs x) (hb : BgV 1000000 x) : Ok Tryz.prog n_world_cloner__version [.agg ⟨[]⟩, .agg ⟨cs⟩] g fun v g' => ∃ cs', v = .agg ⟨cs'⟩ ∧ oVe wT true g' g0.w.heap.size (NEW g g') cs' x := by
  obtain ⟨a, b, d, n, rfl, hS, hN⟩ := hx
  have hS0 := hS
  obtain ⟨_, _, _, he, ⟨oa', ca', rfl, _⟩, ⟨ob', cb', rfl, _⟩, ⟨od', cd', rfl, _⟩⟩ := hS
  cases he
  obtain ⟨oa, ca, rfl, a1, a2, a0, hr⟩ := id hN
  exact Ok.of_fn hm noT 0 t_world_cloner__version (args := [.v (.agg ⟨[]⟩), .v (.agg ⟨[.slice oa' x.snap.listens.length ca', .slice ob' x.snap.rules.length cb', .slice od' x.snap.clusters.length cd', .slice oa x.groups.length ca, .bool x.freed]⟩)]) (by
    repeat ((conv => whnf); first | apply qza | apply qzb | apply qzc | apply qzd | apply qze | intro (_ : Nat) | intro (_ : Option Addr) (_ : Nat))
    refine .inr ((ok_eGroup g0 _ h0 (hN.mono rGr_mono h0) hb.1 hb.2).mono fun v g1 hg1 hO => ?_)
    obtain ⟨oV, cV, rfl⟩ := oSl_val hO
    repeat ((conv => whnf); first | apply qza | apply qzb | apply qzc | apply qzd | apply qze | intro (_ : Nat) | intro (_ : Option Addr) (_ : Nat))
    conv => whnf
    intro g2 hg
    exact ⟨_, rfl, _, _, _, _, rfl, rSnap_mono _ _ _ _ (GW.le_vw (GW.trans h0 (GW.trans hg1 hg)) (Nat.le_refl _)) hS0, oSl_up oGr_fr hg hO⟩)
theorem ok_eVersion (g0 g : GW) (h0 : g0 ≤ g) {v : Value} {l : List Version} (hl : rSl 5 rVe g0 v l) (hlen : l.length ≤ 1000000) (hb : ∀ y ∈ l, BgV 1000000 y) : Ok Tryz.prog n_world_each_api_Version_world_cloner [v, .func (.func n_world_cloner__version) #[] #[], .agg ⟨[]⟩] g fun v' g' => oSl ty_api_Version 5 (oVe wT true) g' g0.w.heap.size (NEW g g') v' l := by
  obtain ⟨oa, ca, rfl, a1, a2, a0, hr⟩ := id hl
  exact Ok.of_fn hm noT 0 t_world_each_api_Version_world_cloner (args := [.v (.slice oa l.length ca), .v (.func (.func n_world_cloner__version) #[] #[]), .v (.agg ⟨[]⟩)]) (by
    repeat ((conv => whnf); first | apply qza | apply qzb | apply qzc | apply qzd | apply qze | intro (_ : Nat) | intro (_ : Option Addr) (_ : Nat))
    conv => whnf
    refine ⟨⟨by omega, by omega, by omega, by omega⟩, fun _ => ?_⟩
    repeat ((conv => whnf); first | apply qza | apply qzb | apply qzc | apply qzd | apply qze | intro (_ : Nat) | intro (_ : Option Addr) (_ : Nat))
    rename_i q0 q1
    conv => whnf
    refine ⟨Nat × List (List Value) × GW, fun (k, _, _) => [.v (.int .i64 k)], fun (k, ecs, g') => ⟨g', [.row 1 (some ⟨q1, 0, none⟩) l.length l.length ty_api_Version 5 (rowK ecs [.slice none 0 0, .slice none 0 0, .slice none 0 0, .slice none 0 0, .bool false] (l.length - k)), .blk 0 q0 ty_world_cloner []], 10, g.w.heap.size⟩, fun (k, ecs, g') => k ≤ l.length ∧ g ≤ g' ∧ oEls 5 (oVe wT true) g g' g0.w.heap.size ecs (l.take k), fun (k, _, _) => l.length - k, fun fr w hw => ⟨(0, [], g), rfl, ⟨Nat.zero_le _, GW.refl _, oEls_nil _ _ _⟩, hw.fit (by simp [fitL, Res.eqv, concL, conc, rowK])⟩, ?_⟩
    rintro ⟨k, ecs, g'⟩ ⟨hk, hgg, hE⟩
    have hE0 := hE
    obtain ⟨_, ⟨hel, hes⟩, _⟩ := hE0
    rw [List.length_take, Nat.min_eq_left hk] at hel
    repeat ((conv => whnf); first | apply qza | apply qzb | apply qzc | apply qzd | apply qze | intro (_ : Nat) | intro (_ : Option Addr) (_ : Nat))
    conv => whnf
    refine ⟨fun hlt => ?_, fun hlt => ?_⟩
    · have h' : k < l.length := by have := of_decide_eq_true hlt; omega
      obtain ⟨x, hx⟩ := getL_of h'
      obtain ⟨x1, x2⟩ := List.getElem?_eq_some_iff.1 hx
      obtain ⟨a, rfl, ec, hec, hxe, hc⟩ := hr k x hx
      have hxe0 := hxe
      obtain ⟨sa, sb, sd, nx, rfl, ⟨_, _, _, hee, ⟨oa', ca', rfl, _⟩, ⟨ob', cb', rfl, _⟩, ⟨od', cd', rfl, _⟩⟩, ⟨oN, cN, rfl, _⟩⟩ := hxe
      cases hee
      repeat ((conv => whnf); first | apply qza | apply qzb | apply qzc | apply qzd | apply qze | intro (_ : Nat) | intro (_ : Option Addr) (_ : Nat))
      conv => whnf
      refine ⟨a, rfl, ⟨by omega, by omega⟩, ?_⟩
      conv => whnf
      refine ⟨_, ⟨rfl, hc.mono (GW.trans h0 hgg)⟩, ?_⟩
      repeat ((conv => whnf); first | apply qza | apply qzb | apply qzc | apply qzd | apply qze | intro (_ : Nat) | intro (_ : Option Addr) (_ : Nat))
      conv => whnf
      refine ⟨.of (by kernel_rfl), ?_⟩
      refine .inr ((ok_cVersion g0 _ (GW.trans h0 hgg) hxe0 (hb x (List.mem_of_getElem? hx))).mono fun v g1 hg1 hO => ?_)
      obtain ⟨cs', rfl, hO⟩ := hO
      have hO0 := hO
      obtain ⟨ua, ub, ud, nv, rfl, ⟨_, _, _, hee, ⟨oa2, ca2, rfl, _⟩, ⟨ob2, cb2, rfl, _⟩, ⟨od2, cd2, rfl, _⟩⟩, hO1⟩ := hO0
      cases hee
      obtain ⟨oW, cW, rfl⟩ := oSl_val hO1
      have hlenR := rowK_len (m := l.length - k) (z := [.slice none 0 0, .slice none 0 0, .slice none 0 0, .slice none 0 0, .bool false]) hes rfl
      have hT : l.take (k + 1) = l.take k ++ [x] := by rw [List.take_succ_eq_append_getElem x1, x2]
      have hset := rowK_set (m := l.length - k) (z := [.slice none 0 0, .slice none 0 0, .slice none 0 0, .slice none 0 0, .bool false]) hes rfl (by omega) (ec := [.slice oa2 x.snap.listens.length ca2, .slice ob2 x.snap.rules.length cb2, .slice od2 x.snap.clusters.length cd2, .slice oW x.groups.length cW, .bool x.freed]) rfl hel.symm
      repeat ((conv => whnf); first | apply qza | apply qzb | apply qzc | apply qzd | apply qze | intro (_ : Nat) | intro (_ : Option Addr) (_ : Nat))
      conv => whnf
      refine ⟨⟨by omega, by omega⟩, ?_⟩
      repeat ((conv => whnf); first | apply qza | apply qzb | apply qzc | apply qzd | apply qze | intro (_ : Nat) | intro (_ : Option Addr) (_ : Nat))
      conv => whnf
      refine ⟨⟨by rw [hlenR, hel]; simp; omega, by decide⟩, ?_⟩
      repeat ((conv => whnf); first | apply qza | apply qzb | apply qzc | apply qzd | apply qze | intro (_ : Nat) | intro (_ : Option Addr) (_ : Nat))
      conv => whnf
      refine fun fr w hw => ⟨(k + 1, ecs ++ [[.slice oa2 x.snap.listens.length ca2, .slice ob2 x.snap.rules.length cb2, .slice od2 x.snap.clusters.length cd2, .slice oW x.groups.length cW, .bool x.freed]], g1), congrArg (fun z => [Value.int .i64 z]) (wr1 h' a1 a2).symm, ⟨h', GW.trans hgg hg1, by rw [hT]; exact oEls_snoc oVe_fr hgg hg1 hE rfl hO⟩, dec h', hw.fit ?_⟩
      rw [show l.length - (k + 1) = l.length - k - 1 by omega]
      simp [fitL, Res.eqv, concL, conc, ← hset]
    have hkL : k = l.length := by have := of_decide_eq_false hlt; omega
    subst hkL
    rw [List.take_length] at hE
    repeat ((conv => whnf); first | apply qza | apply qzb | apply qzc | apply qzd | apply qze | intro (_ : Nat) | intro (_ : Option Addr) (_ : Nat))
    conv => whnf
    refine fun g1 hg1 hn1 hp1 => ?_
    rw [Nat.sub_self, rowK_done] at hp1
    conv => whnf
    intro g2 hg
    exact oSl_up oVe_fr hg (oEls_sl oVe_fr hE hgg hg1 (hp1.lo_le h0.1) rfl hn1))
theorem ok_cRow (g0 g : GW) (h0 : g0 ≤ g) {v : Value} {x : List Int} (hx : rSl 1 rU64 g v x) (hb : x.length ≤ 17592186044416) : Ok Tryz.prog n_world_cloner__row [.agg ⟨[]⟩, v] g fun v' g' => oSl ty_uint64 1 (oLf rU64) g' g0.w.heap.size (NEW g g') v' x := by
  obtain ⟨oa, ca, rfl, a1, a2, a0, hr⟩ := id hx
  exact Ok.of_fn hm noT 0 t_world_cloner__row (args := [.v (.agg ⟨[]⟩), .v (.slice oa x.length ca)]) (by
    repeat ((conv => whnf); first | apply qza | apply qzb | apply qzc | apply qzd | apply qze | intro (_ : Nat) | intro (_ : Option Addr) (_ : Nat))
    refine .inr ((ok_cU g0 _ h0 hx hb).mono fun v g1 hg1 hO => ?_)
    obtain ⟨oV, cV, rfl⟩ := oSl_val hO
    repeat ((conv => whnf); first | apply qza | apply qzb | apply qzc | apply qzd | apply qze | intro (_ : Nat) | intro (_ : Option Addr) (_ : Nat))
    conv => whnf
    intro g2 hg
    exact oSl_up (oLf_fr rU64_any) hg hO)
theorem ok_eRow (g0 g : GW) (h0 : g0 ≤ g) {v : Value} {l : List (List Int)} (hl : rSl 1 rRow g v l) (hlen : l.length ≤ 1000000) (hb : ∀ y ∈ l, y.length ≤ 1000000) : Ok Tryz.prog n_world_each___uint64_world_cloner [v, .func (.func n_world_cloner__row) #[] #[], .agg ⟨[]⟩] g fun v' g' => oSl ty_sl_uint64 1 (oRo wT) g' g0.w.heap.size (NEW g g') v' l := by
  obtain ⟨oa, ca, rfl, a1, a2, a0, hr⟩ := id hl
  exact Ok.of_fn hm noT 0 t_world_each___uint64_world_cloner (args := [.v (.slice oa l.length ca), .v (.func (.func n_world_cloner__row) #[] #[]), .v (.agg ⟨[]⟩)]) (by
    repeat ((conv => whnf); first | apply qza | apply qzb | apply qzc | apply qzd | apply qze | intro (_ : Nat) | intro (_ : Option Addr) (_ : Nat))
    conv => whnf
    refine ⟨⟨by omega, by omega, by omega, by omega⟩, fun _ => ?_⟩
    repeat ((conv => whnf); first | apply qza | apply qzb | apply qzc | apply qzd | apply qze | intro (_ : Nat) | intro (_ : Option Addr) (_ : Nat))
    rename_i q0 q1
    conv => whnf
    refine ⟨Nat × List (List Value) × GW, fun (k, _, _) => [.v (.int .i64 k)], fun (k, ecs, g') => ⟨g', [.row 1 (some ⟨q1, 0, none⟩) l.length l.length ty_sl_uint64 1 (rowK ecs [.slice none 0 0] (l.length - k)), .blk 0 q0 ty_world_cloner []], 10, g.w.heap.size⟩, fun (k, ecs, g') => k ≤ l.length ∧ g ≤ g' ∧ oEls 1 (oRo wT) g g' g0.w.heap.size ecs (l.take k), fun (k, _, _) => l.length - k, fun fr w hw => ⟨(0, [], g), rfl, ⟨Nat.zero_le _, GW.refl _, oEls_nil _ _ _⟩, hw.fit (by simp [fitL, Res.eqv, concL, conc, rowK])⟩, ?_⟩
    rintro ⟨k, ecs, g'⟩ ⟨hk, hgg, hE⟩
    have hE0 := hE
    obtain ⟨_, ⟨hel, hes⟩, _⟩ := hE0
    rw [List.length_take, Nat.min_eq_left hk] at hel
    repeat ((conv => whnf); first | apply qza | apply qzb | apply qzc | apply qzd | apply qze | intro (_ : Nat) | intro (_ : Option Addr) (_ : Nat))
    conv => whnf
    refine ⟨fun hlt => ?_, fun hlt => ?_⟩
    · have h' : k < l.length := by have := of_decide_eq_true hlt; omega
      obtain ⟨x, hx⟩ := getL_of h'
      obtain ⟨x1, x2⟩ := List.getElem?_eq_some_iff.1 hx
      obtain ⟨a, rfl, ec, hec, hxe, hc⟩ := hr k x hx
      have hxe0 := hxe
      obtain ⟨nx, rfl, hN⟩ := hxe
      have hN0 := hN
      obtain ⟨oN, cN, rfl, _⟩ := hN
      repeat ((conv => whnf); first | apply qza | apply qzb | apply qzc | apply qzd | apply qze | intro (_ : Nat) | intro (_ : Option Addr) (_ : Nat))
      conv => whnf
      refine ⟨a, rfl, ⟨by omega, by omega⟩, ?_⟩
      conv => whnf
      refine ⟨_, hc.mono hgg 0 _ rfl, ?_⟩
      repeat ((conv => whnf); first | apply qza | apply qzb | apply qzc | apply qzd | apply qze | intro (_ : Nat) | intro (_ : Option Addr) (_ : Nat))
      conv => whnf
      refine ⟨.of (by kernel_rfl), ?_⟩
      refine .inr ((ok_cRow g0 _ (GW.trans h0 hgg) (hN0.mono rU64_mono hgg) (by have := hb x (List.mem_of_getElem? hx); omega)).mono fun v g1 hg1 hO => ?_)
      obtain ⟨oW, cW, rfl⟩ := oSl_val hO
      have hlenR := rowK_len (m := l.length - k) (z := [.slice none 0 0]) hes rfl
      have hT : l.take (k + 1) = l.take k ++ [x] := by rw [List.take_succ_eq_append_getElem x1, x2]
      have hset := rowK_set (m := l.length - k) (z := [.slice none 0 0]) hes rfl (by omega) (ec := [.slice oW x.length cW]) rfl hel.symm
      repeat ((conv => whnf); first | apply qza | apply qzb | apply qzc | apply qzd | apply qze | intro (_ : Nat) | intro (_ : Option Addr) (_ : Nat))
      conv => whnf
      refine ⟨⟨by omega, by omega⟩, ?_⟩
      repeat ((conv => whnf); first | apply qza | apply qzb | apply qzc | apply qzd | apply qze | intro (_ : Nat) | intro (_ : Option Addr) (_ : Nat))
      conv => whnf
      refine ⟨⟨by rw [hlenR, hel]; simp; omega, by decide⟩, ?_⟩
      repeat ((conv => whnf); first | apply qza | apply qzb | apply qzc | apply qzd | apply qze | intro (_ : Nat) | intro (_ : Option Addr) (_ : Nat))
      conv => whnf
      refine fun fr w hw => ⟨(k + 1, ecs ++ [[.slice oW x.length cW]], g1), congrArg (fun z => [Value.int .i64 z]) (wr1 h' a1 a2).symm, ⟨h', GW.trans hgg hg1, by rw [hT]; exact oEls_snoc oRo_fr hgg hg1 hE rfl ⟨_, rfl, hO⟩⟩, dec h', hw.fit ?_⟩
      rw [show l.length - (k + 1) = l.length - k - 1 by omega]
      simp [fitL, Res.eqv, concL, conc, ← hset]
    have hkL : k = l.length := by have := of_decide_eq_false hlt; omega
    subst hkL
    rw [List.take_length] at hE
    repeat ((conv => whnf); first | apply qza | apply qzb | apply qzc | apply qzd | apply qze | intro (_ : Nat) | intro (_ : Option Addr) (_ : Nat))
    conv => whnf
    refine fun g1 hg1 hn1 hp1 => ?_
    rw [Nat.sub_self, rowK_done] at hp1
    conv => whnf
    intro g2 hg
    exact oSl_up oRo_fr hg (oEls_sl oRo_fr hE hgg hg1 (hp1.lo_le h0.1) rfl hn1))
end Go.Proofs.YtkkhdnddplkobaaGreat


/- Worlds: clones. -/
namespace Go.Proofs.YtkkhdnddplkobaaGreat
open Go.Proofs.YtkkhdnddplkobaaGreat.Sx Go.RowKit
/-- A world of its own. -/
def CloneP (g : GW) (w : Wd) (v : Value) (g' : GW) : Prop := ∃ cs T, v = .agg ⟨cs⟩ ∧ oWo wT true g' g.w.heap.size T cs w
/-- Five parts, one behind the other. -/
def T5 (g1 g2 g3 g4 g5 g6 : GW) : Nat → Nat → Prop := fun i n => match i with
  | 0 => NEW g1 g2 n
  | 1 => NEW g2 g3 n
  | 2 => NEW g3 g4 n
  | 3 => NEW g4 g5 n
  | 4 => NEW g5 g6 n
  | _ => False
theorem T5_disj {g1 g2 g3 g4 g5 g6 : GW} (h1 : g1 ≤ g2) (h2 : g2 ≤ g3) (h3 : g3 ≤ g4) (h4 : g4 ≤ g5) (i j n : Nat) (p : T5 g1 g2 g3 g4 g5 g6 i n) (q : T5 g1 g2 g3 g4 g5 g6 j n) : i = j := by
  have e3 := GW.trans h2 h3
  have e4 := GW.trans e3 h4
  have e5 := GW.trans h3 h4
  have key : ∀ {a b c d : GW}, b ≤ c → NEW a b n → NEW c d n → False := fun k p q => q.2 (k.2 n p.1).1
  match i, j, p, q with
  | 0, 0, _, _ => rfl
  | 1, 1, _, _ => rfl
  | 2, 2, _, _ => rfl
  | 3, 3, _, _ => rfl
  | 4, 4, _, _ => rfl
  | 0, 1, p, q => exact (key (GW.refl _) p q).elim
  | 0, 2, p, q => exact (key h2 p q).elim
  | 0, 3, p, q => exact (key e3 p q).elim
  | 0, 4, p, q => exact (key e4 p q).elim
  | 1, 2, p, q => exact (key (GW.refl _) p q).elim
  | 1, 3, p, q => exact (key h3 p q).elim
  | 1, 4, p, q => exact (key e5 p q).elim
  | 2, 3, p, q => exact (key (GW.refl _) p q).elim
  | 2, 4, p, q => exact (key h4 p q).elim
  | 3, 4, p, q => exact (key (GW.refl _) p q).elim
  | 1, 0, p, q => exact (key (GW.refl _) q p).elim
  | 2, 0, p, q => exact (key h2 q p).elim
  | 3, 0, p, q => exact (key e3 q p).elim
  | 4, 0, p, q => exact (key e4 q p).elim
  | 2, 1, p, q => exact (key (GW.refl _) q p).elim
  | 3, 1, p, q => exact (key h3 q p).elim
  | 4, 1, p, q => exact (key e5 q p).elim
  | 3, 2, p, q => exact (key (GW.refl _) q p).elim
  | 4, 2, p, q => exact (key h4 q p).elim
  | 4, 3, p, q => exact (key (GW.refl _) q p).elim
  | _ + 5, _, p, _ => exact p.elim
  | _, _ + 5, _, q => exact q.elim
theorem ok_Clone (g : GW) {cs : List Value} {w : Wd} (hw : rWo g cs w) (hb : BgW 1000000 w) : Ok Tryz.prog n_world_Clone [.agg ⟨cs⟩] g (CloneP g w) := by
  obtain ⟨a, b, c, d, e, rfl, ⟨i1, i2, i3⟩, hP, hV, hL, hC, hR⟩ := hw
  obtain ⟨⟨z1, z2, z3, z4, z5⟩, z6, z7⟩ := hb
  obtain ⟨oa, ca, rfl, a1, a2, a0, hP1⟩ := id hP
  obtain ⟨ob, cb, rfl, b1, b2, b0, hV1⟩ := id hV
  obtain ⟨oc, cc, rfl, c1, c2, c0, hL1⟩ := id hL
  obtain ⟨od, cd, rfl, d1, d2, d0, hC1⟩ := id hC
  obtain ⟨oe, ce, rfl, e1, e2, e0, hR1⟩ := id hR
  exact Ok.of_fn hm noT 0 t_world_Clone (args := [.v (.agg ⟨[.int .i64 w.epoch, .int .i64 w.current, .int .i64 w.lock, .slice oa w.pins.length ca, .slice ob w.versions.length cb, .slice oc w.listens.length cc, .slice od w.counts.length cd, .slice oe w.limbo.length ce]⟩)]) (by
    repeat ((conv => whnf); first | apply qza | apply qzb | apply qzc | apply qzd | apply qze | intro (_ : Nat) | intro (_ : Option Addr) (_ : Nat))
    refine .inr ((ok_cInt g _ (GW.refl _) hP (by omega)).mono fun v1 r1 k1 o1 => ?_)
    obtain ⟨p1, q1, rfl⟩ := oSl_val o1
    repeat ((conv => whnf); first | apply qza | apply qzb | apply qzc | apply qzd | apply qze | intro (_ : Nat) | intro (_ : Option Addr) (_ : Nat))
    refine .inr ((ok_eVersion g _ k1 hV z2 z7).mono fun v2 r2 k2 o2 => ?_)
    obtain ⟨p2, q2, rfl⟩ := oSl_val o2
    have m2 := GW.trans k1 k2
    repeat ((conv => whnf); first | apply qza | apply qzb | apply qzc | apply qzd | apply qze | intro (_ : Nat) | intro (_ : Option Addr) (_ : Nat))
    refine .inr ((ok_cLi g _ m2 (hL.mono rListen_mono m2) z3).mono fun v3 r3 k3 o3 => ?_)
    obtain ⟨p3, q3, rfl⟩ := oSl_val o3
    have m3 := GW.trans m2 k3
    repeat ((conv => whnf); first | apply qza | apply qzb | apply qzc | apply qzd | apply qze | intro (_ : Nat) | intro (_ : Option Addr) (_ : Nat))
    refine .inr ((ok_eRow g _ m3 (hC.mono rRow_mono m3) z4 z6).mono fun v4 r4 k4 o4 => ?_)
    obtain ⟨p4, q4, rfl⟩ := oSl_val o4
    have m4 := GW.trans m3 k4
    repeat ((conv => whnf); first | apply qza | apply qzb | apply qzc | apply qzd | apply qze | intro (_ : Nat) | intro (_ : Option Addr) (_ : Nat))
    refine .inr ((ok_cRe g _ m4 (hR.mono rRetired_mono m4) z5).mono fun v5 r5 k5 o5 => ?_)
    obtain ⟨p5, q5, rfl⟩ := oSl_val o5
    repeat ((conv => whnf); first | apply qza | apply qzb | apply qzc | apply qzd | apply qze | intro (_ : Nat) | intro (_ : Option Addr) (_ : Nat))
    conv => whnf
    intro g2 hg
    have n5 := hg
    have n4 := GW.trans k5 n5
    have n3 := GW.trans k4 n4
    have n2 := GW.trans k3 n3
    have n1 := GW.trans k2 n2
    exact ⟨_, T5 g r1 r2 r3 r4 r5, rfl, _, _, _, _, _, rfl, ⟨i1, i2, i3⟩, T5_disj k1 k2 k3 k4, oSl_fr (oLf_fr rInt_any) (GW.vw_up n1 _ _) o1, oSl_fr oVe_fr (GW.vw_up n2 _ _) o2, oSl_fr (oLf_fr rListen_any) (GW.vw_up n3 _ _) o3, oSl_fr oRo_fr (GW.vw_up n4 _ _) o4, oSl_fr (oLf_fr rRetired_any) (GW.vw_up n5 _ _) o5⟩)
end Go.Proofs.YtkkhdnddplkobaaGreat

