/- Worlds: a new one. -/
import Derived.Test.YtkkhdnddplkobaaLW9x0
import Derived.Test.YtkkhdnddplkobaaLW9p
import Derived.Test.YtkkhdnddplkobaaPl
import Derived.Test.YtkkhdnddplkobaaLW9n
namespace Go.Proofs.Ytkkhdnddplkobaa
open Go.Proofs.Ytkkhdnddplkobaa.Sx Go.RowKit
abbrev zWs : List Value := [.int .i64 0, .int .i64 0, .int .i64 0, .slice none 0 0, .slice none 0 0, .slice none 0 0, .slice none 0 0, .slice none 0 0]
def NewP (s : Snap) (l : List BA) (t : Int) (v : Value) (g' : GW) : Prop :=
  (NewOk s l t ∧ ∃ cs, v = .tuple #[.agg ⟨cs⟩, .int .i64 0] ∧ rWo g' cs (newW s l t.toNat)) ∨ (¬ NewOk s l t ∧ v = .tuple #[.agg ⟨zWs⟩, .int .i64 1])
theorem ok_New (g : GW) {cs : List Value} {s : Snap} {v : Value} {l : List BA} {t : Int} (hs : rSnap g cs s) (hl : rSl 1 rStr g v l) (hsz : s.rules.length ≤ 1000000) (hll : l.length ≤ 1000000) : Ok Try.prog n_world_New [.agg ⟨cs⟩, v, .int .i64 t] g (NewP s l t) := by
  have hs0 := hs
  obtain ⟨a, b, d, rfl, ⟨oa, ca, rfl, _⟩, ⟨ob, cb, rfl, _⟩, ⟨od, cd, rfl, _⟩⟩ := hs
  obtain ⟨ol, cl, rfl, l1, l2, l0, hl1⟩ := id hl
  exact Ok.of_fn hm noT 0 t_world_New (args := [.v (.agg ⟨[.slice oa s.listens.length ca, .slice ob s.rules.length cb, .slice od s.clusters.length cd]⟩), .v (.slice ol l.length cl), .v (.int .i64 t)]) (by
    repeat ((conv => whnf); first | apply qza | apply qzb | apply qzc | apply qzd | apply qze | intro (_ : Nat) | intro (_ : Option Addr) (_ : Nat))
    rename_i q0 q1
    refine .inr ((ok_Cells _ hs0 hsz).mono fun v g1 hg1 hC => ?_)
    rcases hC with ⟨hz, ka, kb, kd, oV, nV, cV, rfl, hV⟩ | ⟨hz, rfl⟩
    rotate_left
    · repeat ((conv => whnf); first | apply qza | apply qzb | apply qzc | apply qzd | apply qze | intro (_ : Nat) | intro (_ : Option Addr) (_ : Nat))
      conv => whnf
      refine ⟨fun _ => ?_, fun h => nomatch h⟩
      repeat ((conv => whnf); first | apply qza | apply qzb | apply qzc | apply qzd | apply qze | intro (_ : Nat) | intro (_ : Option Addr) (_ : Nat))
      conv => whnf
      intro g2 hg
      exact .inr ⟨fun h => hz h.1, rfl⟩
    have hV0 := hV
    obtain ⟨_, _, _, _, he, ⟨_, _, _, he2, ⟨sa, ta, rfl, _⟩, ⟨sb, tb, rfl, _⟩, ⟨sd, td, rfl, _⟩⟩, hG⟩ := hV
    simp only [List.cons.injEq, and_true] at he
    obtain ⟨rfl, rfl, rfl, rfl, _⟩ := he
    cases he2
    repeat ((conv => whnf); first | apply qza | apply qzb | apply qzc | apply qzd | apply qze | intro (_ : Nat) | intro (_ : Option Addr) (_ : Nat))
    rename_i q2
    conv => whnf
    refine ⟨fun h => (nomatch h), fun _ => ?_⟩
    repeat ((conv => whnf); first | apply qza | apply qzb | apply qzc | apply qzd | apply qze | intro (_ : Nat) | intro (_ : Option Addr) (_ : Nat))
    refine .inr ((ok_ShardNew _).mono fun v g2 hg2 hS => ?_)
    rcases hS with ⟨ht, oS, cS, rfl, hSh⟩ | ⟨ht, rfl⟩
    rotate_left
    · repeat ((conv => whnf); first | apply qza | apply qzb | apply qzc | apply qzd | apply qze | intro (_ : Nat) | intro (_ : Option Addr) (_ : Nat))
      conv => whnf
      refine ⟨fun _ => ?_, fun h => nomatch h⟩
      repeat ((conv => whnf); first | apply qza | apply qzb | apply qzc | apply qzd | apply qze | intro (_ : Nat) | intro (_ : Option Addr) (_ : Nat))
      conv => whnf
      intro g2 hg
      exact .inr ⟨fun h => ht h.2.1, rfl⟩
    obtain ⟨N, rfl⟩ := Int.eq_ofNat_of_zero_le (show 0 ≤ t by omega)
    have hg02 := GW.trans hg1 hg2
    repeat ((conv => whnf); first | apply qza | apply qzb | apply qzc | apply qzd | apply qze | intro (_ : Nat) | intro (_ : Option Addr) (_ : Nat))
    conv => whnf
    refine ⟨fun h => (nomatch h), fun _ => ?_⟩
    repeat ((conv => whnf); first | apply qza | apply qzb | apply qzc | apply qzd | apply qze | intro (_ : Nat) | intro (_ : Option Addr) (_ : Nat))
    refine ⟨?_, ?_⟩
    · repeat ((conv => whnf); first | apply qza | apply qzb | apply qzc | apply qzd | apply qze | intro (_ : Nat) | intro (_ : Option Addr) (_ : Nat))
      conv => whnf
      refine ⟨⟨by omega, by omega, by omega, by omega⟩, fun _ => ?_⟩
      repeat ((conv => whnf); first | apply qza | apply qzb | apply qzc | apply qzd | apply qze | intro (_ : Nat) | intro (_ : Option Addr) (_ : Nat))
      rename_i qV qP qw
      conv => whnf
      refine ⟨Nat × Option Addr × Nat × Nat × GW, fun (k, _, _, _, _) => [.v (.int .i64 k)], fun (k, oX, nX, cX, g') => ⟨g', [.blk 5 qw ty_api_World [.v (.int .i64 0), .v (.int .i64 0), .v (.int .i64 0), .row 4 (some ⟨qP, 0, none⟩) N N, .sl 3 qV 0 1 1, .v (.slice oX nX cX), .v (.slice oS N cS), .v (.slice none 0 0)], .row 4 (some ⟨qP, 0, none⟩) N N ty_int 1 (List.replicate N [Value.int .i64 0]).flatten, .blk 3 qV ty_api_Version [.v (.slice sa (cellsV s).snap.listens.length ta), .v (.slice sb (cellsV s).snap.rules.length tb), .v (.slice sd (cellsV s).snap.clusters.length td), .v (.slice oV nV cV), .v (.bool false)], .blk 2 q2 ty_api_Version [.v (.slice sa (cellsV s).snap.listens.length ta), .v (.slice sb (cellsV s).snap.rules.length tb), .v (.slice sd (cellsV s).snap.clusters.length td), .v (.slice oV nV cV), .v (.bool false)], .blk 1 q1 ty_api_World [.v (.int .i64 0), .v (.int .i64 0), .v (.int .i64 0), .v (.slice none 0 0), .v (.slice none 0 0), .v (.slice none 0 0), .v (.slice none 0 0), .v (.slice none 0 0)], .blk 0 q0 ty_api_Snap [.v (.slice oa s.listens.length ca), .v (.slice ob s.rules.length cb), .v (.slice od s.clusters.length cd)]], 20, g.w.heap.size⟩, fun (k, oX, nX, cX, g') => k ≤ l.length ∧ g2 ≤ g' ∧ nX = k ∧ PbSl g' g.w.heap.size ty_api_Listen 4 (.slice oX nX cX) nX ((lisL (l.take k)).map cLi).flatten ∧ (∀ a, oX = some a → ¬ g2.g a.block) ∧ AllK (namF l) l k, fun (k, _, _, _, _) => l.length - k, fun fr w hw => ⟨(0, none, 0, 0, g2), rfl, ⟨Nat.zero_le _, GW.refl _, rfl, ⟨rfl, .inl ⟨rfl, rfl⟩, fun u hu => by cases hu⟩, (fun a h => by cases h), AllK.zero _ _⟩, hw.fit (by simp [fitL, Res.eqv, concL, conc])⟩, ?_⟩
      rintro ⟨k, oX, nX, cX, g'⟩ ⟨hk, hgg, hn, hpb, hnb, hAK⟩
      have hll2 : (lisL (l.take k)).length = k := by simp [lisL]; omega
      have hlis : rSl 4 rListen g' (.slice oX nX cX) (lisL (l.take k)) := rSl_ofE hpb.rd (lisL (l.take k)) cLi rfl (by omega) (fun _ _ => rfl) fun x hx => by
        obtain ⟨y, _, rfl⟩ := List.mem_map.1 hx
        exact ⟨rfl, show InR 0 by decide⟩
      repeat ((conv => whnf); first | apply qza | apply qzb | apply qzc | apply qzd | apply qze | intro (_ : Nat) | intro (_ : Option Addr) (_ : Nat))
      conv => whnf
      refine ⟨fun hlt => ?_, fun hlt => ?_⟩
      · have h' : k < l.length := by have := of_decide_eq_true hlt; omega
        obtain ⟨x, hx⟩ := getL_of h'
        obtain ⟨a, rfl, ec, hec, rfl, hc⟩ := hl1 k x hx
        have hbad : namF l k x = false → ¬ NewOk s l N := fun hf h => by have h3 := h.2.2; rw [allI_false hx hf] at h3; cases h3
        repeat ((conv => whnf); first | apply qza | apply qzb | apply qzc | apply qzd | apply qze | intro (_ : Nat) | intro (_ : Option Addr) (_ : Nat))
        conv => whnf
        refine ⟨a, rfl, ⟨by omega, by omega⟩, ?_⟩
        conv => whnf
        refine ⟨_, (hc.mono (GW.trans hg02 hgg)) 0 _ rfl, ?_⟩
        repeat ((conv => whnf); first | apply qza | apply qzb | apply qzc | apply qzd | apply qze | intro (_ : Nat) | intro (_ : Option Addr) (_ : Nat))
        conv => whnf
        refine .inl ⟨_, ok_Name _ _, ?_⟩
        repeat ((conv => whnf); first | apply qza | apply qzb | apply qzc | apply qzd | apply qze | intro (_ : Nat) | intro (_ : Option Addr) (_ : Nat))
        conv => whnf
        refine ⟨fun y1 => ?_, fun y1 => ?_⟩
        · repeat ((conv => whnf); first | apply qza | apply qzb | apply qzc | apply qzd | apply qze | intro (_ : Nat) | intro (_ : Option Addr) (_ : Nat))
          conv => whnf
          intro g2 hg
          exact .inr ⟨hbad (by unfold namF; rw [nb1 y1]; rfl), rfl⟩
        repeat ((conv => whnf); first | apply qza | apply qzb | apply qzc | apply qzd | apply qze | intro (_ : Nat) | intro (_ : Option Addr) (_ : Nat))
        conv => whnf
        refine .inl ⟨_, ok_gPlace _ hlis _, ?_⟩
        repeat ((conv => whnf); first | apply qza | apply qzb | apply qzc | apply qzd | apply qze | intro (_ : Nat) | intro (_ : Option Addr) (_ : Nat))
        conv => whnf
        refine ⟨fun y2 => ?_, fun y2 => ?_⟩
        · repeat ((conv => whnf); first | apply qza | apply qzb | apply qzc | apply qzd | apply qze | intro (_ : Nat) | intro (_ : Option Addr) (_ : Nat))
          conv => whnf
          intro g2 hg
          exact .inr ⟨hbad (by unfold namF; rw [decide_eq_false (by have := of_decide_eq_true y2; omega)]; simp), rfl⟩
        have hnF : namF l k x = true := by unfold namF; rw [nb0 y1, decide_eq_true (by have := of_decide_eq_false y2; omega)]; rfl
        have hT := lisL_take hx
        rcases hpb.2.1 with ⟨he, hn0⟩ | ⟨bk, cap', rest, he, hb1, hb2, hb3, hb4, hb5⟩
        · cases he
          have hk0 : k = 0 := by omega
          subst hk0
          repeat ((conv => whnf); first | apply qza | apply qzb | apply qzc | apply qzd | apply qze | intro (_ : Nat) | intro (_ : Option Addr) (_ : Nat))
          conv => whnf
          refine ⟨⟨by unfold maxLen; omega, by omega⟩, fun oa3 cap3 => ?_⟩
          repeat ((conv => whnf); first | apply qza | apply qzb | apply qzc | apply qzd | apply qze | intro (_ : Nat) | intro (_ : Option Addr) (_ : Nat))
          conv => whnf
          refine fun fr w hw => by
            have hw1 : HSim fr ⟨g', .row 70 oa3 (1) cap3 ty_api_Listen 4 (cLi ⟨x, false, 0, false⟩) :: [.blk 5 qw ty_api_World [.v (.int .i64 0), .v (.int .i64 0), .v (.int .i64 0), .row 4 (some ⟨qP, 0, none⟩) N N, .sl 3 qV 0 1 1, .v (.slice oa3 (1) cap3), .v (.slice oS N cS), .v (.slice none 0 0)], .row 4 (some ⟨qP, 0, none⟩) N N ty_int 1 (List.replicate N [Value.int .i64 0]).flatten, .blk 3 qV ty_api_Version [.v (.slice sa (cellsV s).snap.listens.length ta), .v (.slice sb (cellsV s).snap.rules.length tb), .v (.slice sd (cellsV s).snap.clusters.length td), .v (.slice oV nV cV), .v (.bool false)], .blk 2 q2 ty_api_Version [.v (.slice sa (cellsV s).snap.listens.length ta), .v (.slice sb (cellsV s).snap.rules.length tb), .v (.slice sd (cellsV s).snap.clusters.length td), .v (.slice oV nV cV), .v (.bool false)], .blk 1 q1 ty_api_World [.v (.int .i64 0), .v (.int .i64 0), .v (.int .i64 0), .v (.slice none 0 0), .v (.slice none 0 0), .v (.slice none 0 0), .v (.slice none 0 0), .v (.slice none 0 0)], .blk 0 q0 ty_api_Snap [.v (.slice oa s.listens.length ca), .v (.slice ob s.rules.length cb), .v (.slice od s.clusters.length cd)]], 80, g.w.heap.size⟩ w := hw.fit (by simp [fitL, Res.eqv, concL, conc])
            obtain ⟨g4, k1', k2, k3, k4⟩ := hw1.row_pub
            refine ⟨(0 + 1, oa3, 1, cap3, g4), congrArg (fun z => [Value.int .i64 z]) (wr1 h' l1 l2).symm, ⟨h', GW.trans hgg k1', rfl, ?_, fun a ha q => k2 a ha (hgg.2 _ q).1, hAK.succ hx hnF⟩, dec h', k4.fit (by simp [fitL, Res.eqv, concL, conc])⟩
            rw [hT]; exact k3
        · cases he
          have hbk : ¬ g2.g bk := hnb _ rfl
          repeat ((conv => whnf); first | apply qza | apply qzb | apply qzc | apply qzd | apply qze | intro (_ : Nat) | intro (_ : Option Addr) (_ : Nat))
          conv => whnf
          refine .inr ⟨bk, _, rest, ⟨rfl, hb1.1, hb1.2, hb2, hpb.1, hpb.2.2, hb3, hb4, hb5, by unfold maxLen; omega, by omega⟩, fun gL hless oa3 cap3 => ?_⟩
          repeat ((conv => whnf); first | apply qza | apply qzb | apply qzc | apply qzd | apply qze | intro (_ : Nat) | intro (_ : Option Addr) (_ : Nat))
          conv => whnf
          refine fun fr w hw => by
            have hw1 : HSim fr ⟨gL, .row 70 oa3 (nX + 1) cap3 ty_api_Listen 4 (((lisL (l.take k)).map cLi).flatten ++ cLi ⟨x, false, 0, false⟩) :: [.blk 5 qw ty_api_World [.v (.int .i64 0), .v (.int .i64 0), .v (.int .i64 0), .row 4 (some ⟨qP, 0, none⟩) N N, .sl 3 qV 0 1 1, .v (.slice oa3 (nX + 1) cap3), .v (.slice oS N cS), .v (.slice none 0 0)], .row 4 (some ⟨qP, 0, none⟩) N N ty_int 1 (List.replicate N [Value.int .i64 0]).flatten, .blk 3 qV ty_api_Version [.v (.slice sa (cellsV s).snap.listens.length ta), .v (.slice sb (cellsV s).snap.rules.length tb), .v (.slice sd (cellsV s).snap.clusters.length td), .v (.slice oV nV cV), .v (.bool false)], .blk 2 q2 ty_api_Version [.v (.slice sa (cellsV s).snap.listens.length ta), .v (.slice sb (cellsV s).snap.rules.length tb), .v (.slice sd (cellsV s).snap.clusters.length td), .v (.slice oV nV cV), .v (.bool false)], .blk 1 q1 ty_api_World [.v (.int .i64 0), .v (.int .i64 0), .v (.int .i64 0), .v (.slice none 0 0), .v (.slice none 0 0), .v (.slice none 0 0), .v (.slice none 0 0), .v (.slice none 0 0)], .blk 0 q0 ty_api_Snap [.v (.slice oa s.listens.length ca), .v (.slice ob s.rules.length cb), .v (.slice od s.clusters.length cd)]], 80, g.w.heap.size⟩ w := hw.fit (by simp [fitL, Res.eqv, concL, conc])
            obtain ⟨g4, k1', k2, k3, k4⟩ := hw1.row_pub
            have hgL := hless.le hgg hbk
            refine ⟨(k + 1, oa3, nX + 1, cap3, g4), congrArg (fun z => [Value.int .i64 z]) (wr1 h' l1 l2).symm, ⟨h', GW.trans hgL k1', by omega, ?_, fun a ha q => k2 a ha (hgL.2 _ q).1, hAK.succ hx hnF⟩, dec h', k4.fit (by simp [fitL, Res.eqv, concL, conc])⟩
            rw [hT]; simpa using k3
      have hkL : k = l.length := by have := of_decide_eq_false hlt; omega
      subst hkL
      have hok : NewOk s l N := ⟨hz, ht, hAK.done (Nat.le_refl _)⟩
      rw [List.take_length] at hlis
      repeat ((conv => whnf); first | apply qza | apply qzb | apply qzc | apply qzd | apply qze | intro (_ : Nat) | intro (_ : Option Addr) (_ : Nat))
      conv => whnf
      refine fun gA kA nA pA => ?_
      repeat ((conv => whnf); first | apply qza | apply qzb | apply qzc | apply qzd | apply qze | intro (_ : Nat) | intro (_ : Option Addr) (_ : Nat))
      conv => whnf
      refine ⟨5, rfl, by unfold maxLen; omega, fun gB kB nB pB => ?_⟩
      repeat ((conv => whnf); first | apply qza | apply qzb | apply qzc | apply qzd | apply qze | intro (_ : Nat) | intro (_ : Option Addr) (_ : Nat))
      conv => whnf
      intro g2 hg
      have mA := GW.trans kA (GW.trans kB hg)
      refine .inl ⟨hok, _, rfl, _, _, _, _, _, rfl, ⟨show InR 0 by decide, show InR 0 by decide, show InR 0 by decide⟩, ?_, ?_, hlis.mono rListen_mono mA, hSh.mono rRow_mono (GW.trans hgg mA), ⟨none, 0, rfl, Nat.le_refl _, Nat.zero_le _, fun _ => ⟨rfl, rfl⟩, fun i x hx => by simp [newW] at hx⟩⟩
      · exact (rSl_of1 pA.rd (List.replicate N 0) (fun x => .int .i64 x) (by simp [List.flatten_replicate_singleton]) fun x hx => ⟨rfl, by rw [List.eq_of_mem_replicate hx]; decide⟩).mono rInt_mono (GW.trans kB hg)
      · refine rSl_of (pB.rd.mono hg) [cellsV s] [[.slice sa (cellsV s).snap.listens.length ta, .slice sb (cellsV s).snap.rules.length tb, .slice sd (cellsV s).snap.clusters.length td, .slice oV nV cV, .bool false]] rfl (fun e he => ?_) rfl rfl fun i x ec hx hec => ?_
        · simp at he; subst he; rfl
        · cases i with
          | zero =>
            simp at hx hec
            subst hx; subst hec
            exact rVe_mono _ _ _ _ (GW.trans hg2 (GW.trans hgg mA)) hV0
          | succ i => simp at hx
    · repeat ((conv => whnf); first | apply qza | apply qzb | apply qzc | apply qzd | apply qze | intro (_ : Nat) | intro (_ : Option Addr) (_ : Nat))
      conv => whnf
      refine ⟨⟨by omega, by omega, by omega, by omega⟩, fun _ => ?_⟩
      repeat ((conv => whnf); first | apply qza | apply qzb | apply qzc | apply qzd | apply qze | intro (_ : Nat) | intro (_ : Option Addr) (_ : Nat))
      rename_i qP qV qw
      conv => whnf
      refine ⟨Nat × Option Addr × Nat × Nat × GW, fun (k, _, _, _, _) => [.v (.int .i64 k)], fun (k, oX, nX, cX, g') => ⟨g', [.blk 5 qw ty_api_World [.v (.int .i64 0), .v (.int .i64 0), .v (.int .i64 0), .row 3 (some ⟨qP, 0, none⟩) N N, .sl 4 qV 0 1 1, .v (.slice oX nX cX), .v (.slice oS N cS), .v (.slice none 0 0)], .blk 4 qV ty_api_Version [.v (.slice sa (cellsV s).snap.listens.length ta), .v (.slice sb (cellsV s).snap.rules.length tb), .v (.slice sd (cellsV s).snap.clusters.length td), .v (.slice oV nV cV), .v (.bool false)], .row 3 (some ⟨qP, 0, none⟩) N N ty_int 1 (List.replicate N [Value.int .i64 0]).flatten, .blk 2 q2 ty_api_Version [.v (.slice sa (cellsV s).snap.listens.length ta), .v (.slice sb (cellsV s).snap.rules.length tb), .v (.slice sd (cellsV s).snap.clusters.length td), .v (.slice oV nV cV), .v (.bool false)], .blk 1 q1 ty_api_World [.v (.int .i64 0), .v (.int .i64 0), .v (.int .i64 0), .v (.slice none 0 0), .v (.slice none 0 0), .v (.slice none 0 0), .v (.slice none 0 0), .v (.slice none 0 0)], .blk 0 q0 ty_api_Snap [.v (.slice oa s.listens.length ca), .v (.slice ob s.rules.length cb), .v (.slice od s.clusters.length cd)]], 20, g.w.heap.size⟩, fun (k, oX, nX, cX, g') => k ≤ l.length ∧ g2 ≤ g' ∧ nX = k ∧ PbSl g' g.w.heap.size ty_api_Listen 4 (.slice oX nX cX) nX ((lisL (l.take k)).map cLi).flatten ∧ (∀ a, oX = some a → ¬ g2.g a.block) ∧ AllK (namF l) l k, fun (k, _, _, _, _) => l.length - k, fun fr w hw => ⟨(0, none, 0, 0, g2), rfl, ⟨Nat.zero_le _, GW.refl _, rfl, ⟨rfl, .inl ⟨rfl, rfl⟩, fun u hu => by cases hu⟩, (fun a h => by cases h), AllK.zero _ _⟩, hw.fit (by simp [fitL, Res.eqv, concL, conc])⟩, ?_⟩
      rintro ⟨k, oX, nX, cX, g'⟩ ⟨hk, hgg, hn, hpb, hnb, hAK⟩
      have hll2 : (lisL (l.take k)).length = k := by simp [lisL]; omega
      have hlis : rSl 4 rListen g' (.slice oX nX cX) (lisL (l.take k)) := rSl_ofE hpb.rd (lisL (l.take k)) cLi rfl (by omega) (fun _ _ => rfl) fun x hx => by
        obtain ⟨y, _, rfl⟩ := List.mem_map.1 hx
        exact ⟨rfl, show InR 0 by decide⟩
      repeat ((conv => whnf); first | apply qza | apply qzb | apply qzc | apply qzd | apply qze | intro (_ : Nat) | intro (_ : Option Addr) (_ : Nat))
      conv => whnf
      refine ⟨fun hlt => ?_, fun hlt => ?_⟩
      · have h' : k < l.length := by have := of_decide_eq_true hlt; omega
        obtain ⟨x, hx⟩ := getL_of h'
        obtain ⟨a, rfl, ec, hec, rfl, hc⟩ := hl1 k x hx
        have hbad : namF l k x = false → ¬ NewOk s l N := fun hf h => by have h3 := h.2.2; rw [allI_false hx hf] at h3; cases h3
        repeat ((conv => whnf); first | apply qza | apply qzb | apply qzc | apply qzd | apply qze | intro (_ : Nat) | intro (_ : Option Addr) (_ : Nat))
        conv => whnf
        refine ⟨a, rfl, ⟨by omega, by omega⟩, ?_⟩
        conv => whnf
        refine ⟨_, (hc.mono (GW.trans hg02 hgg)) 0 _ rfl, ?_⟩
        repeat ((conv => whnf); first | apply qza | apply qzb | apply qzc | apply qzd | apply qze | intro (_ : Nat) | intro (_ : Option Addr) (_ : Nat))
        conv => whnf
        refine .inl ⟨_, ok_Name _ _, ?_⟩
        repeat ((conv => whnf); first | apply qza | apply qzb | apply qzc | apply qzd | apply qze | intro (_ : Nat) | intro (_ : Option Addr) (_ : Nat))
        conv => whnf
        refine ⟨fun y1 => ?_, fun y1 => ?_⟩
        · repeat ((conv => whnf); first | apply qza | apply qzb | apply qzc | apply qzd | apply qze | intro (_ : Nat) | intro (_ : Option Addr) (_ : Nat))
          conv => whnf
          intro g2 hg
          exact .inr ⟨hbad (by unfold namF; rw [nb1 y1]; rfl), rfl⟩
        repeat ((conv => whnf); first | apply qza | apply qzb | apply qzc | apply qzd | apply qze | intro (_ : Nat) | intro (_ : Option Addr) (_ : Nat))
        conv => whnf
        refine .inl ⟨_, ok_gPlace _ hlis _, ?_⟩
        repeat ((conv => whnf); first | apply qza | apply qzb | apply qzc | apply qzd | apply qze | intro (_ : Nat) | intro (_ : Option Addr) (_ : Nat))
        conv => whnf
        refine ⟨fun y2 => ?_, fun y2 => ?_⟩
        · repeat ((conv => whnf); first | apply qza | apply qzb | apply qzc | apply qzd | apply qze | intro (_ : Nat) | intro (_ : Option Addr) (_ : Nat))
          conv => whnf
          intro g2 hg
          exact .inr ⟨hbad (by unfold namF; rw [decide_eq_false (by have := of_decide_eq_true y2; omega)]; simp), rfl⟩
        have hnF : namF l k x = true := by unfold namF; rw [nb0 y1, decide_eq_true (by have := of_decide_eq_false y2; omega)]; rfl
        have hT := lisL_take hx
        rcases hpb.2.1 with ⟨he, hn0⟩ | ⟨bk, cap', rest, he, hb1, hb2, hb3, hb4, hb5⟩
        · cases he
          have hk0 : k = 0 := by omega
          subst hk0
          repeat ((conv => whnf); first | apply qza | apply qzb | apply qzc | apply qzd | apply qze | intro (_ : Nat) | intro (_ : Option Addr) (_ : Nat))
          conv => whnf
          refine ⟨⟨by unfold maxLen; omega, by omega⟩, fun oa3 cap3 => ?_⟩
          repeat ((conv => whnf); first | apply qza | apply qzb | apply qzc | apply qzd | apply qze | intro (_ : Nat) | intro (_ : Option Addr) (_ : Nat))
          conv => whnf
          refine fun fr w hw => by
            have hw1 : HSim fr ⟨g', .row 70 oa3 (1) cap3 ty_api_Listen 4 (cLi ⟨x, false, 0, false⟩) :: [.blk 5 qw ty_api_World [.v (.int .i64 0), .v (.int .i64 0), .v (.int .i64 0), .row 3 (some ⟨qP, 0, none⟩) N N, .sl 4 qV 0 1 1, .v (.slice oa3 (1) cap3), .v (.slice oS N cS), .v (.slice none 0 0)], .blk 4 qV ty_api_Version [.v (.slice sa (cellsV s).snap.listens.length ta), .v (.slice sb (cellsV s).snap.rules.length tb), .v (.slice sd (cellsV s).snap.clusters.length td), .v (.slice oV nV cV), .v (.bool false)], .row 3 (some ⟨qP, 0, none⟩) N N ty_int 1 (List.replicate N [Value.int .i64 0]).flatten, .blk 2 q2 ty_api_Version [.v (.slice sa (cellsV s).snap.listens.length ta), .v (.slice sb (cellsV s).snap.rules.length tb), .v (.slice sd (cellsV s).snap.clusters.length td), .v (.slice oV nV cV), .v (.bool false)], .blk 1 q1 ty_api_World [.v (.int .i64 0), .v (.int .i64 0), .v (.int .i64 0), .v (.slice none 0 0), .v (.slice none 0 0), .v (.slice none 0 0), .v (.slice none 0 0), .v (.slice none 0 0)], .blk 0 q0 ty_api_Snap [.v (.slice oa s.listens.length ca), .v (.slice ob s.rules.length cb), .v (.slice od s.clusters.length cd)]], 80, g.w.heap.size⟩ w := hw.fit (by simp [fitL, Res.eqv, concL, conc])
            obtain ⟨g4, k1', k2, k3, k4⟩ := hw1.row_pub
            refine ⟨(0 + 1, oa3, 1, cap3, g4), congrArg (fun z => [Value.int .i64 z]) (wr1 h' l1 l2).symm, ⟨h', GW.trans hgg k1', rfl, ?_, fun a ha q => k2 a ha (hgg.2 _ q).1, hAK.succ hx hnF⟩, dec h', k4.fit (by simp [fitL, Res.eqv, concL, conc])⟩
            rw [hT]; exact k3
        · cases he
          have hbk : ¬ g2.g bk := hnb _ rfl
          repeat ((conv => whnf); first | apply qza | apply qzb | apply qzc | apply qzd | apply qze | intro (_ : Nat) | intro (_ : Option Addr) (_ : Nat))
          conv => whnf
          refine .inr ⟨bk, _, rest, ⟨rfl, hb1.1, hb1.2, hb2, hpb.1, hpb.2.2, hb3, hb4, hb5, by unfold maxLen; omega, by omega⟩, fun gL hless oa3 cap3 => ?_⟩
          repeat ((conv => whnf); first | apply qza | apply qzb | apply qzc | apply qzd | apply qze | intro (_ : Nat) | intro (_ : Option Addr) (_ : Nat))
          conv => whnf
          refine fun fr w hw => by
            have hw1 : HSim fr ⟨gL, .row 70 oa3 (nX + 1) cap3 ty_api_Listen 4 (((lisL (l.take k)).map cLi).flatten ++ cLi ⟨x, false, 0, false⟩) :: [.blk 5 qw ty_api_World [.v (.int .i64 0), .v (.int .i64 0), .v (.int .i64 0), .row 3 (some ⟨qP, 0, none⟩) N N, .sl 4 qV 0 1 1, .v (.slice oa3 (nX + 1) cap3), .v (.slice oS N cS), .v (.slice none 0 0)], .blk 4 qV ty_api_Version [.v (.slice sa (cellsV s).snap.listens.length ta), .v (.slice sb (cellsV s).snap.rules.length tb), .v (.slice sd (cellsV s).snap.clusters.length td), .v (.slice oV nV cV), .v (.bool false)], .row 3 (some ⟨qP, 0, none⟩) N N ty_int 1 (List.replicate N [Value.int .i64 0]).flatten, .blk 2 q2 ty_api_Version [.v (.slice sa (cellsV s).snap.listens.length ta), .v (.slice sb (cellsV s).snap.rules.length tb), .v (.slice sd (cellsV s).snap.clusters.length td), .v (.slice oV nV cV), .v (.bool false)], .blk 1 q1 ty_api_World [.v (.int .i64 0), .v (.int .i64 0), .v (.int .i64 0), .v (.slice none 0 0), .v (.slice none 0 0), .v (.slice none 0 0), .v (.slice none 0 0), .v (.slice none 0 0)], .blk 0 q0 ty_api_Snap [.v (.slice oa s.listens.length ca), .v (.slice ob s.rules.length cb), .v (.slice od s.clusters.length cd)]], 80, g.w.heap.size⟩ w := hw.fit (by simp [fitL, Res.eqv, concL, conc])
            obtain ⟨g4, k1', k2, k3, k4⟩ := hw1.row_pub
            have hgL := hless.le hgg hbk
            refine ⟨(k + 1, oa3, nX + 1, cap3, g4), congrArg (fun z => [Value.int .i64 z]) (wr1 h' l1 l2).symm, ⟨h', GW.trans hgL k1', by omega, ?_, fun a ha q => k2 a ha (hgL.2 _ q).1, hAK.succ hx hnF⟩, dec h', k4.fit (by simp [fitL, Res.eqv, concL, conc])⟩
            rw [hT]; simpa using k3
      have hkL : k = l.length := by have := of_decide_eq_false hlt; omega
      subst hkL
      have hok : NewOk s l N := ⟨hz, ht, hAK.done (Nat.le_refl _)⟩
      rw [List.take_length] at hlis
      repeat ((conv => whnf); first | apply qza | apply qzb | apply qzc | apply qzd | apply qze | intro (_ : Nat) | intro (_ : Option Addr) (_ : Nat))
      conv => whnf
      refine fun gA kA nA pA => ?_
      repeat ((conv => whnf); first | apply qza | apply qzb | apply qzc | apply qzd | apply qze | intro (_ : Nat) | intro (_ : Option Addr) (_ : Nat))
      conv => whnf
      refine ⟨5, rfl, by unfold maxLen; omega, fun gB kB nB pB => ?_⟩
      repeat ((conv => whnf); first | apply qza | apply qzb | apply qzc | apply qzd | apply qze | intro (_ : Nat) | intro (_ : Option Addr) (_ : Nat))
      conv => whnf
      intro g2 hg
      have mA := GW.trans kA (GW.trans kB hg)
      refine .inl ⟨hok, _, rfl, _, _, _, _, _, rfl, ⟨show InR 0 by decide, show InR 0 by decide, show InR 0 by decide⟩, ?_, ?_, hlis.mono rListen_mono mA, hSh.mono rRow_mono (GW.trans hgg mA), ⟨none, 0, rfl, Nat.le_refl _, Nat.zero_le _, fun _ => ⟨rfl, rfl⟩, fun i x hx => by simp [newW] at hx⟩⟩
      · exact (rSl_of1 pA.rd (List.replicate N 0) (fun x => .int .i64 x) (by simp [List.flatten_replicate_singleton]) fun x hx => ⟨rfl, by rw [List.eq_of_mem_replicate hx]; decide⟩).mono rInt_mono (GW.trans kB hg)
      · refine rSl_of (pB.rd.mono hg) [cellsV s] [[.slice sa (cellsV s).snap.listens.length ta, .slice sb (cellsV s).snap.rules.length tb, .slice sd (cellsV s).snap.clusters.length td, .slice oV nV cV, .bool false]] rfl (fun e he => ?_) rfl rfl fun i x ec hx hec => ?_
        · simp at he; subst he; rfl
        · cases i with
          | zero =>
            simp at hx hec
            subst hx; subst hec
            exact rVe_mono _ _ _ _ (GW.trans hg2 (GW.trans hgg mA)) hV0
          | succ i => simp at hx)
end Go.Proofs.Ytkkhdnddplkobaa


/- Pins: the law's example, first part. -/
namespace Go.Proofs.Ytkkhdnddplkobaa
open Go.Proofs.Ytkkhdnddplkobaa.Sx Go.RowKit
theorem wP_sn (e : Int) (p : List Int) : SnW (wP e p) := by
  intro v hv
  have : v = cellsV (snapP 2 [true, false]) := by simpa [wP, newW] using hv
  subst this
  refine ⟨by decide, fun r hr => ?_⟩
  have : r = ⟨0, ⟨#[42]⟩, ⟨#[47]⟩, 0⟩ := by simpa [cellsV, snapP] using hr
  subst this
  decide
theorem wP_bg {e : Int} {p : List Int} (hl : p.length = 2) : BgW 1000000 (wP e p) := by
  refine ⟨⟨by show p.length ≤ 1000000; omega, by show 1 ≤ 1000000; decide, by show 1 ≤ 1000000; decide, by show 2 ≤ 1000000; decide, by show 0 ≤ 1000000; decide⟩, fun r hr => ?_, fun v hv => ?_⟩
  · have : r = [0, 0, 0, 0, 0, 0] := by
      simp only [wP, newW, zCounts, List.mem_map] at hr
      obtain ⟨_, _, rfl⟩ := hr; rfl
    subst this; decide
  · have : v = cellsV (snapP 2 [true, false]) := by simpa [wP, newW] using hv
    subst this
    refine ⟨by show 1 ≤ 1000000; decide, fun y hy => ?_⟩
    have : y = ⟨0, [freshE 2, freshE 2]⟩ := by simpa [cellsV, snapP] using hy
    subst this
    show 2 ≤ 1000000
    decide
theorem ok_plain19 (g : GW) : Ok Try.prog n_hydrantlaw19_plain [] g fun v g' => ∃ cs, v = .agg ⟨cs⟩ ∧ rWo g' cs (wP 0 [0, 0]) :=
  Ok.of_fn hm noT 0 t_hydrantlaw19_plain (args := []) (by
    repeat ((conv => whnf); first | apply qza | apply qzb | apply qzc | apply qzd | apply qze | intro (_ : Nat) | intro (_ : Option Addr) (_ : Nat))
    conv => whnf
    refine ⟨1, rfl, by unfold maxLen; omega, fun g1 hg1 hn1 hp1 => ?_⟩
    repeat ((conv => whnf); first | apply qza | apply qzb | apply qzc | apply qzd | apply qze | intro (_ : Nat) | intro (_ : Option Addr) (_ : Nat))
    conv => whnf
    refine ⟨4, rfl, by unfold maxLen; omega, fun g2 hg2 hn2 hp2 => ?_⟩
    repeat ((conv => whnf); first | apply qza | apply qzb | apply qzc | apply qzd | apply qze | intro (_ : Nat) | intro (_ : Option Addr) (_ : Nat))
    conv => whnf
    refine ⟨1, rfl, by unfold maxLen; omega, fun g3 hg3 hn3 hp3 => ?_⟩
    repeat ((conv => whnf); first | apply qza | apply qzb | apply qzc | apply qzd | apply qze | intro (_ : Nat) | intro (_ : Option Addr) (_ : Nat))
    conv => whnf
    refine ⟨4, rfl, by unfold maxLen; omega, fun g4 hg4 hn4 hp4 => ?_⟩
    repeat ((conv => whnf); first | apply qza | apply qzb | apply qzc | apply qzd | apply qze | intro (_ : Nat) | intro (_ : Option Addr) (_ : Nat))
    conv => whnf
    refine ⟨1, rfl, by unfold maxLen; omega, fun g5 hg5 hn5 hp5 => ?_⟩
    have hs := snapP_rd (n := 2) (h := [true, false]) (hp1.mono (GW.trans hg2 (GW.trans hg3 (GW.trans hg4 hg5)))) (hp2.mono (GW.trans hg3 (GW.trans hg4 hg5))) (hp4.mono hg5) (hp3.mono (GW.trans hg4 hg5)) (by decide)
    have hl := rSl_of1 (R := rStr) hp5.rd [sInW] .string rfl fun _ _ => rfl
    conv => whnf
    refine .inr ((ok_New _ hs hl (t := 2) (by decide) (by decide)).mono fun v g6 hg6 hN => ?_)
    rcases hN with ⟨_, cs, rfl, hw⟩ | ⟨h, _⟩
    rotate_left
    · exact absurd snapP_ok h
    obtain ⟨oa, ca, ob, cb, oc, cc, od, cd, oe, ce, rfl⟩ := rWo_open hw
    repeat ((conv => whnf); first | apply qza | apply qzb | apply qzc | apply qzd | apply qze | intro (_ : Nat) | intro (_ : Option Addr) (_ : Nat))
    conv => whnf
    intro g2 hg
    exact ⟨_, rfl, rWo_mono _ _ _ _ hg hw⟩)
end Go.Proofs.Ytkkhdnddplkobaa


/- Pins: the law's example. -/
namespace Go.Proofs.Ytkkhdnddplkobaa
open Go.Proofs.Ytkkhdnddplkobaa.Sx Go.RowKit
def OutP (e : Int) (p : List Int) (pc ep : Int) (E : Ev) (v : Value) (g' : GW) : Prop := ∃ cs ms, v = .tuple #[.agg ⟨cs⟩, .agg ⟨ms⟩, .agg ⟨E.cs⟩] ∧ rWo g' cs (wP e p) ∧ rMach g' ms (mP pc ep)
section
variable {g : GW} {cs ms : List Value} {e pc ep : Int} {p : List Int} (hw : rWo g cs (wP e p)) (hM : rMach g ms (mP pc ep)) (he : 0 ≤ e ∧ e ≤ 100) (hl : p.length = 2) (hp : ∀ x ∈ p, 0 ≤ x ∧ x ≤ e + 1)
include hw hM he hl hp
theorem stP0 (h : pc = 0) : Ok Try.prog n_pin_Step [.agg ⟨cs⟩, .agg ⟨ms⟩] g (OutP e p 1 e ⟨1, 0, 1, 1, -1, false, e, false, false, false, ans0⟩) :=
  (ok_Step g hw hM (wP_sn _ _) (wP_bg hl)).mono fun v g' _ hS => by
    obtain ⟨cs', ms', rfl, hw', hM'⟩ := hS
    have hs := wP_suit (pc := pc) (ep := ep) he hl hp
    rw [(pinE_at hs).1 (.inl h)]
    rw [(pinW_at hs).1 (by show pc ≠ 1; omega)] at hw'
    rw [(pinM_at hs).1 h] at hM'
    exact ⟨_, _, rfl, hw', hM'⟩
theorem stP1 (h : pc = 1) : Ok Try.prog n_pin_Step [.agg ⟨cs⟩, .agg ⟨ms⟩] g (OutP e (p.set 1 (IntKind.i64.wrap (ep + 1))) 2 ep ⟨1, 0, 2, 2, -1, false, IntKind.i64.wrap (ep + 1), false, false, false, ans0⟩) :=
  (ok_Step g hw hM (wP_sn _ _) (wP_bg hl)).mono fun v g' _ hS => by
    obtain ⟨cs', ms', rfl, hw', hM'⟩ := hS
    have hs := wP_suit (pc := pc) (ep := ep) he hl hp
    rw [(pinE_at hs).2.1 h]
    rw [(pinW_at hs).2 h] at hw'
    rw [(pinM_at hs).2.1 h] at hM'
    exact ⟨_, _, rfl, hw', hM'⟩
theorem stP2 (h : pc = 2) : Ok Try.prog n_pin_Step [.agg ⟨cs⟩, .agg ⟨ms⟩] g (OutP e p (if e = ep then 3 else 1) e ⟨1, 0, 1, 1, -1, false, e, false, false, false, ans0⟩) :=
  (ok_Step g hw hM (wP_sn _ _) (wP_bg hl)).mono fun v g' _ hS => by
    obtain ⟨cs', ms', rfl, hw', hM'⟩ := hS
    have hs := wP_suit (pc := pc) (ep := ep) he hl hp
    rw [(pinE_at hs).1 (.inr h)]
    rw [(pinW_at hs).1 (by show pc ≠ 1; omega)] at hw'
    rw [(pinM_at hs).2.2.1 h] at hM'
    exact ⟨_, _, rfl, hw', hM'⟩
theorem stP3 (h : pc = 3) : Ok Try.prog n_pin_Step [.agg ⟨cs⟩, .agg ⟨ms⟩] g (OutP e p pc ep ev0) :=
  (ok_Step g hw hM (wP_sn _ _) (wP_bg hl)).mono fun v g' _ hS => by
    obtain ⟨cs', ms', rfl, hw', hM'⟩ := hS
    have hs := wP_suit (pc := pc) (ep := ep) he hl hp
    rw [(pinE_at hs).2.2 h]
    rw [(pinW_at hs).1 (by show pc ≠ 1; omega)] at hw'
    rw [(pinM_at hs).2.2.2 h] at hM'
    exact ⟨_, _, rfl, hw', hM'⟩
theorem ofP : Ok Try.prog n_pin_Off [.agg ⟨cs⟩, .agg ⟨ms⟩] g fun v g' => ∃ cs', v = .tuple #[.agg ⟨cs'⟩, .agg ⟨(⟨1, 0, 2, 2, -1, false, 0, false, false, false, ans0⟩ : Ev).cs⟩] ∧ rWo g' cs' (wP e (p.set 1 0)) :=
  (ok_Off g hw hM (wP_sn _ _) (wP_bg hl)).mono fun v g' _ hS => by
    obtain ⟨cs', rfl, hw'⟩ := hS
    have hs := wP_suit (pc := pc) (ep := ep) he hl hp
    unfold offW at hw'
    unfold offE
    rw [if_pos hs]
    rw [if_pos hs] at hw'
    exact ⟨_, rfl, hw'⟩
end
theorem pins2 {a b : Int} {e : Int} (h : (0 ≤ a ∧ a ≤ e + 1) ∧ (0 ≤ b ∧ b ≤ e + 1)) : ∀ x ∈ [a, b], 0 ≤ x ∧ x ≤ e + 1 := by
  intro x hx
  simp only [List.mem_cons, List.not_mem_nil, or_false] at hx
  rcases hx with rfl | rfl
  · exact h.1
  · exact h.2
theorem suit2 : suitB (wP 0 [0, 0]) { mP 0 0 with thread := 2 } = false := suitB_f fun ⟨_, _, _, h⟩ => absurd h.thread.2 (by decide)
theorem rMach_P2 (g : GW) : rMach g (Mach.cs (.slice none 0 0) (.slice none 0 0) (.slice none 0 0) { mP 0 0 with thread := 2 }) { mP 0 0 with thread := 2 } :=
  ⟨_, _, _, rfl, ⟨(by decide : InR 2), z0, z0, z0, z0, z0, z0, z0, z0, zu, z0, z0, z0, z0, ans0_ok, c60_ok⟩, ⟨z0, z0, z0, z0⟩, rConfig_nil g⟩
set_option maxHeartbeats 8000000 in
set_option maxRecDepth 100000 in
theorem ok_pinned (g : GW) : OkV Try.prog n_hydrantlaw19_pinned [] g (.bool true) :=
  Ok.of_fn hm noT 0 t_hydrantlaw19_pinned (args := []) (by
    repeat ((conv => whnf); first | apply qza | apply qzb | apply qzc | apply qzd | apply qze | intro (_ : Nat) | intro (_ : Option Addr) (_ : Nat))
    refine .inr ((ok_plain19 _).mono fun v ga hga hO => ?_)
    obtain ⟨cs, rfl, hwa⟩ := hO
    obtain ⟨oa, ca, ob, cb, oc, cc, od, cd, oe, ce, rfl⟩ := rWo_open hwa
    have hMa := rMach_P ga 0 0 ⟨by decide, by decide⟩
    repeat ((conv => whnf); first | apply qza | apply qzb | apply qzc | apply qzd | apply qze | intro (_ : Nat) | intro (_ : Option Addr) (_ : Nat))
    conv => whnf
    refine .inl ⟨_, (ok_Suits _ hwa hMa (wP_sn _ _) (wP_bg rfl)).to (congrArg Value.bool (wP_suit ⟨by decide, by decide⟩ rfl (pins2 ⟨⟨by decide, by decide⟩, by decide, by decide⟩))), ?_⟩
    repeat ((conv => whnf); first | apply qza | apply qzb | apply qzc | apply qzd | apply qze | intro (_ : Nat) | intro (_ : Option Addr) (_ : Nat))
    conv => whnf
    refine ⟨fun h => (nomatch h), fun _ => ?_⟩
    repeat ((conv => whnf); first | apply qza | apply qzb | apply qzc | apply qzd | apply qze | intro (_ : Nat) | intro (_ : Option Addr) (_ : Nat))
    refine .inr ((stP0 hwa hMa ⟨by decide, by decide⟩ rfl (pins2 ⟨⟨by decide, by decide⟩, by decide, by decide⟩) rfl).mono fun v gb hgb hO => ?_)
    obtain ⟨cs, ms, rfl, hwb, hMb⟩ := hO
    obtain ⟨oab, cab, obb, cbb, ocb, ccb, odb, cdb, oeb, ceb, rfl⟩ := rWo_open hwb
    obtain ⟨oob, tob, opb, tpb, oqb, tqb, rfl⟩ := rMach_open hMb
    repeat ((conv => whnf); first | apply qza | apply qzb | apply qzc | apply qzd | apply qze | intro (_ : Nat) | intro (_ : Option Addr) (_ : Nat))
    refine .inr ((stP1 hwb hMb ⟨by decide, by decide⟩ rfl (pins2 ⟨⟨by decide, by decide⟩, by decide, by decide⟩) rfl).mono fun v gc hgc hO => ?_)
    obtain ⟨cs, ms, rfl, hwc, hMc⟩ := hO
    obtain ⟨oac, cac, obc, cbc, occ, ccc, odc, cdc, oec, cec, rfl⟩ := rWo_open hwc
    obtain ⟨ooc, toc, opc, tpc, oqc, tqc, rfl⟩ := rMach_open hMc
    replace hwc : rWo gc _ (wP 0 [0, 1]) := hwc
    have hwc' := rWo_epoch hwc (x := 1) (by decide)
    replace hwc' : rWo gc _ (wP 1 [0, 1]) := hwc'
    repeat ((conv => whnf); first | apply qza | apply qzb | apply qzc | apply qzd | apply qze | intro (_ : Nat) | intro (_ : Option Addr) (_ : Nat))
    refine .inr ((stP2 hwc' hMc ⟨by decide, by decide⟩ rfl (pins2 ⟨⟨by decide, by decide⟩, by decide, by decide⟩) rfl).mono fun v gd hgd hO => ?_)
    obtain ⟨cs, ms, rfl, hwd, hMd⟩ := hO
    replace hMd : rMach gd _ (mP 1 1) := hMd
    obtain ⟨oad, cad, obd, cbd, ocd, ccd, odd, cdd, oed, ced, rfl⟩ := rWo_open hwd
    obtain ⟨ood, tod, opd, tpd, oqd, tqd, rfl⟩ := rMach_open hMd
    repeat ((conv => whnf); first | apply qza | apply qzb | apply qzc | apply qzd | apply qze | intro (_ : Nat) | intro (_ : Option Addr) (_ : Nat))
    refine .inr ((stP1 hwd hMd ⟨by decide, by decide⟩ rfl (pins2 ⟨⟨by decide, by decide⟩, by decide, by decide⟩) rfl).mono fun v ge hge hO => ?_)
    obtain ⟨cs, ms, rfl, hwe, hMe⟩ := hO
    obtain ⟨oae, cae, obe, cbe, oce, cce, ode, cde, oee, cee, rfl⟩ := rWo_open hwe
    obtain ⟨ooe, toe, ope, tpe, oqe, tqe, rfl⟩ := rMach_open hMe
    replace hwe : rWo ge _ (wP 1 [0, 2]) := hwe
    repeat ((conv => whnf); first | apply qza | apply qzb | apply qzc | apply qzd | apply qze | intro (_ : Nat) | intro (_ : Option Addr) (_ : Nat))
    refine .inr ((stP2 hwe hMe ⟨by decide, by decide⟩ rfl (pins2 ⟨⟨by decide, by decide⟩, by decide, by decide⟩) rfl).mono fun v gf hgf hO => ?_)
    obtain ⟨cs, ms, rfl, hwf, hMf⟩ := hO
    replace hMf : rMach gf _ (mP 3 1) := hMf
    obtain ⟨oaf, caf, obf, cbf, ocf, ccf, odf, cdf, oef, cef, rfl⟩ := rWo_open hwf
    obtain ⟨oof, tof, opf, tpf, oqf, tqf, rfl⟩ := rMach_open hMf
    repeat ((conv => whnf); first | apply qza | apply qzb | apply qzc | apply qzd | apply qze | intro (_ : Nat) | intro (_ : Option Addr) (_ : Nat))
    refine .inr ((ofP hwf hMf ⟨by decide, by decide⟩ rfl (pins2 ⟨⟨by decide, by decide⟩, by decide, by decide⟩)).mono fun v gh hgh hO => ?_)
    obtain ⟨cs, rfl, hwh⟩ := hO
    replace hwh : rWo gh _ (wP 1 [0, 0]) := hwh
    obtain ⟨oah, cah, obh, cbh, och, cch, odh, cdh, oeh, ceh, rfl⟩ := rWo_open hwh
    repeat ((conv => whnf); first | apply qza | apply qzb | apply qzc | apply qzd | apply qze | intro (_ : Nat) | intro (_ : Option Addr) (_ : Nat))
    have hwf2 := rWo_mono _ _ _ _ hgh hwf
    have hMf2 := rMach_mono _ _ _ _ hgh hMf
    refine .inr ((stP3 hwf2 hMf2 ⟨by decide, by decide⟩ rfl (pins2 ⟨⟨by decide, by decide⟩, by decide, by decide⟩) rfl).mono fun v gi hgi hO => ?_)
    obtain ⟨cs, ms, rfl, hwi, hMi⟩ := hO
    obtain ⟨oai, cai, obi, cbi, oci, cci, odi, cdi, oei, cei, rfl⟩ := rWo_open hwi
    obtain ⟨ooi, toi, opi, tpi, oqi, tqi, rfl⟩ := rMach_open hMi
    repeat ((conv => whnf); first | apply qza | apply qzb | apply qzc | apply qzd | apply qze | intro (_ : Nat) | intro (_ : Option Addr) (_ : Nat))
    have lci : gc ≤ gi := GW.trans hgd (GW.trans hge (GW.trans hgf (GW.trans hgh hgi)))
    have lei : ge ≤ gi := GW.trans hgf (GW.trans hgh hgi)
    obtain ⟨_, _, kb, kb1, kb2, kb0, kbr⟩ := rWo_pins (rWo_mono _ _ _ _ lci hwc')
    cases kb
    obtain ⟨_, _, kd, kd1, kd2, kd0, kdr⟩ := rWo_pins (rWo_mono _ _ _ _ lei hwe)
    cases kd
    obtain ⟨_, _, ki, ki1, ki2, ki0, kir⟩ := rWo_pins (rWo_mono _ _ _ _ hgi hwh)
    cases ki
    obtain ⟨ab, rfl, eb, heb, ⟨rfl, _⟩, hcb⟩ := kbr 1 1 rfl
    obtain ⟨ad, rfl, ed, hed, ⟨rfl, _⟩, hcd⟩ := kdr 1 2 rfl
    obtain ⟨ai, rfl, ei, hei, ⟨rfl, _⟩, hci⟩ := kir 1 0 rfl
    conv => whnf
    refine ⟨fun hx => absurd (hx.symm.trans ((by rfl))) (by decide), fun _ => ?_⟩
    repeat ((conv => whnf); first | apply qza | apply qzb | apply qzc | apply qzd | apply qze | intro (_ : Nat) | intro (_ : Option Addr) (_ : Nat))
    conv => whnf
    refine ⟨fun hx => absurd (hx.symm.trans ((by rfl))) (by decide), fun _ => ?_⟩
    repeat ((conv => whnf); first | apply qza | apply qzb | apply qzc | apply qzd | apply qze | intro (_ : Nat) | intro (_ : Option Addr) (_ : Nat))
    conv => whnf
    refine ⟨fun hx => absurd (hx.symm.trans ((by rfl))) (by decide), fun _ => ?_⟩
    repeat ((conv => whnf); first | apply qza | apply qzb | apply qzc | apply qzd | apply qze | intro (_ : Nat) | intro (_ : Option Addr) (_ : Nat))
    conv => whnf
    refine ⟨fun _ => ?_, fun hx => absurd hx (by decide)⟩
    repeat ((conv => whnf); first | apply qza | apply qzb | apply qzc | apply qzd | apply qze | intro (_ : Nat) | intro (_ : Option Addr) (_ : Nat))
    conv => whnf
    refine ⟨fun _ => ?_, fun hx => absurd hx (by decide)⟩
    repeat ((conv => whnf); first | apply qza | apply qzb | apply qzc | apply qzd | apply qze | intro (_ : Nat) | intro (_ : Option Addr) (_ : Nat))
    conv => whnf
    refine ⟨_, rfl, ⟨by decide, by decide⟩, ?_⟩
    repeat ((conv => whnf); first | apply qza | apply qzb | apply qzc | apply qzd | apply qze | intro (_ : Nat) | intro (_ : Option Addr) (_ : Nat))
    conv => whnf
    refine ⟨_, hcb 0 _ rfl, ?_⟩
    repeat ((conv => whnf); first | apply qza | apply qzb | apply qzc | apply qzd | apply qze | intro (_ : Nat) | intro (_ : Option Addr) (_ : Nat))
    conv => whnf
    refine ⟨fun _ => ?_, fun hx => absurd hx (by decide)⟩
    repeat ((conv => whnf); first | apply qza | apply qzb | apply qzc | apply qzd | apply qze | intro (_ : Nat) | intro (_ : Option Addr) (_ : Nat))
    conv => whnf
    refine ⟨fun _ => ?_, fun hx => absurd hx (by decide)⟩
    repeat ((conv => whnf); first | apply qza | apply qzb | apply qzc | apply qzd | apply qze | intro (_ : Nat) | intro (_ : Option Addr) (_ : Nat))
    conv => whnf
    refine ⟨_, rfl, ⟨by decide, by decide⟩, ?_⟩
    repeat ((conv => whnf); first | apply qza | apply qzb | apply qzc | apply qzd | apply qze | intro (_ : Nat) | intro (_ : Option Addr) (_ : Nat))
    conv => whnf
    refine ⟨_, hcd 0 _ rfl, ?_⟩
    repeat ((conv => whnf); first | apply qza | apply qzb | apply qzc | apply qzd | apply qze | intro (_ : Nat) | intro (_ : Option Addr) (_ : Nat))
    conv => whnf
    refine ⟨fun _ => ?_, fun hx => absurd hx (by decide)⟩
    repeat ((conv => whnf); first | apply qza | apply qzb | apply qzc | apply qzd | apply qze | intro (_ : Nat) | intro (_ : Option Addr) (_ : Nat))
    conv => whnf
    refine ⟨fun _ => ?_, fun hx => absurd hx (by decide)⟩
    repeat ((conv => whnf); first | apply qza | apply qzb | apply qzc | apply qzd | apply qze | intro (_ : Nat) | intro (_ : Option Addr) (_ : Nat))
    conv => whnf
    refine ⟨fun _ => ?_, fun hx => absurd hx (by decide)⟩
    repeat ((conv => whnf); first | apply qza | apply qzb | apply qzc | apply qzd | apply qze | intro (_ : Nat) | intro (_ : Option Addr) (_ : Nat))
    conv => whnf
    refine ⟨_, rfl, ⟨by decide, by decide⟩, ?_⟩
    repeat ((conv => whnf); first | apply qza | apply qzb | apply qzc | apply qzd | apply qze | intro (_ : Nat) | intro (_ : Option Addr) (_ : Nat))
    conv => whnf
    refine ⟨_, hci 0 _ rfl, ?_⟩
    repeat ((conv => whnf); first | apply qza | apply qzb | apply qzc | apply qzd | apply qze | intro (_ : Nat) | intro (_ : Option Addr) (_ : Nat))
    conv => whnf
    refine ⟨fun _ => ?_, fun hx => absurd hx (by decide)⟩
    repeat ((conv => whnf); first | apply qza | apply qzb | apply qzc | apply qzd | apply qze | intro (_ : Nat) | intro (_ : Option Addr) (_ : Nat))
    conv => whnf
    refine ⟨fun _ => ?_, fun hx => absurd hx (by decide)⟩
    repeat ((conv => whnf); first | apply qza | apply qzb | apply qzc | apply qzd | apply qze | intro (_ : Nat) | intro (_ : Option Addr) (_ : Nat))
    conv => whnf
    refine ⟨fun _ => ?_, fun hx => absurd hx (by decide)⟩
    repeat ((conv => whnf); first | apply qza | apply qzb | apply qzc | apply qzd | apply qze | intro (_ : Nat) | intro (_ : Option Addr) (_ : Nat))
    conv => whnf
    refine ⟨fun _ => ?_, fun hx => absurd hx (by decide)⟩
    repeat ((conv => whnf); first | apply qza | apply qzb | apply qzc | apply qzd | apply qze | intro (_ : Nat) | intro (_ : Option Addr) (_ : Nat))
    conv => whnf
    refine .inl ⟨_, (ok_Suits _ (rWo_mono _ _ _ _ (GW.trans hgb (GW.trans hgc lci)) hwa) (rMach_P2 _) (wP_sn _ _) (wP_bg rfl)).to (congrArg Value.bool suit2), ?_⟩
    repeat ((conv => whnf); first | apply qza | apply qzb | apply qzc | apply qzd | apply qze | intro (_ : Nat) | intro (_ : Option Addr) (_ : Nat))
    conv => whnf
    intro g2 hg
    rfl)
end Go.Proofs.Ytkkhdnddplkobaa


/- The law PinOff. -/
namespace Go.Proofs.Ytkkhdnddplkobaa
open Go.Proofs.Ytkkhdnddplkobaa.Sx Go.RowKit
theorem BgW.up {K K' : Nat} {w : Wd} (h : BgW K w) (k : K ≤ K') : BgW K' w := by
  obtain ⟨⟨h1, h2, h3, h4, h5⟩, h6, h7⟩ := h
  refine ⟨⟨by omega, by omega, by omega, by omega, by omega⟩, fun r hr => by have := h6 r hr; omega, fun v hv => ?_⟩
  obtain ⟨a, b⟩ := h7 v hv
  exact ⟨by omega, fun y hy => by have := b y hy; unfold BgG at this ⊢; omega⟩
end Go.Proofs.Ytkkhdnddplkobaa


/- The law PinKeeps. -/
namespace Go.Proofs.Ytkkhdnddplkobaa
open Go.Proofs.Ytkkhdnddplkobaa.Sx Go.RowKit
set_option maxHeartbeats 16000000 in
set_option maxRecDepth 100000 in
theorem ok_PinKeeps (g : GW) {cs ms : List Value} {w : Wd} {m : Mach} (hw : rWo g cs w) (hM : rMach g ms m) : OkV Try.prog n_hydrantlaw19_PinKeeps [.agg ⟨cs⟩, .agg ⟨ms⟩] g (.bool true) := by
  obtain ⟨oa, ca, ob, cb, oc, cc, od, cd, oe, ce, rfl⟩ := rWo_open hw
  obtain ⟨o1, t1, o2, t2, o3, t3, rfl⟩ := rMach_open hM
  exact Ok.of_fn hm noT 0 t_hydrantlaw19_PinKeeps (args := [.v (.agg ⟨[.int .i64 w.epoch, .int .i64 w.current, .int .i64 w.lock, .slice oa w.pins.length ca, .slice ob w.versions.length cb, .slice oc w.listens.length cc, .slice od w.counts.length cd, .slice oe w.limbo.length ce]⟩), .v (.agg ⟨m.cs (.slice o1 m.op.config.listens.length t1) (.slice o2 m.op.config.routes.length t2) (.slice o3 m.op.config.clusters.length t3)⟩)]) (by
    repeat ((conv => whnf); first | apply qza | apply qzb | apply qzc | apply qzd | apply qze | intro (_ : Nat) | intro (_ : Option Addr) (_ : Nat))
    refine .inr ((ok_rBigW _ hw).mono fun v g1 hg1 hB => ?_)
    obtain ⟨b, rfl, hB⟩ := hB
    repeat ((conv => whnf); first | apply qza | apply qzb | apply qzc | apply qzd | apply qze | intro (_ : Nat) | intro (_ : Option Addr) (_ : Nat))
    conv => whnf
    refine ⟨fun z1 => ?_, fun z1 => ?_⟩
    · repeat ((conv => whnf); first | apply qza | apply qzb | apply qzc | apply qzd | apply qze | intro (_ : Nat) | intro (_ : Option Addr) (_ : Nat))
      conv => whnf
      intro g2 hg
      rfl
    obtain ⟨hb, hsn⟩ := hB z1
    have hb' := BgW.up (K' := 1000000) hb (by decide)
    have hw1 := rWo_mono _ _ _ _ hg1 hw
    have hM1 := rMach_mono _ _ _ _ hg1 hM
    obtain ⟨hpl, hol⟩ := pin_len w m
    obtain ⟨⟨px1, px2, px3, px4⟩, po1, po2, po3, po4⟩ := pin_others w m
    repeat ((conv => whnf); first | apply qza | apply qzb | apply qzc | apply qzd | apply qze | intro (_ : Nat) | intro (_ : Option Addr) (_ : Nat))
    refine .inr ((ok_Step _ hw1 hM1 hsn hb').mono fun v g2 hg2 hO => ?_)
    obtain ⟨csa, msa, rfl, hwx, hMa⟩ := hO
    obtain ⟨_, _, _, _, _, _, _, _, _, _, rfl⟩ := rWo_open hwx
    obtain ⟨_, _, _, _, _, _, rfl⟩ := rMach_open hMa
    have hw2 := rWo_mono _ _ _ _ hg2 hw1
    have hM2 := rMach_mono _ _ _ _ hg2 hM1
    repeat ((conv => whnf); first | apply qza | apply qzb | apply qzc | apply qzd | apply qze | intro (_ : Nat) | intro (_ : Option Addr) (_ : Nat))
    refine .inr ((ok_Off _ hw2 hM2 hsn hb').mono fun v g3 hg3 hO => ?_)
    obtain ⟨csb, rfl, hwy⟩ := hO
    obtain ⟨_, _, _, _, _, _, _, _, _, _, rfl⟩ := rWo_open hwy
    have hw3 := rWo_mono _ _ _ _ hg3 hw2
    repeat ((conv => whnf); first | apply qza | apply qzb | apply qzc | apply qzd | apply qze | intro (_ : Nat) | intro (_ : Option Addr) (_ : Nat))
    refine .inr ((ok_Clone _ (rWo_mono _ _ _ _ hg3 hwx) (BgW_same hb' hpl px1 px2 px3 px4)).mono fun v g4 hg4 hO => ?_)
    obtain ⟨csc, Ta, rfl, hTa⟩ := hO
    obtain ⟨a1, a2, a3, a4, a5, a6, a7, a8, a9, a10, rfl⟩ := rWo_open (oWo_rd hTa)
    repeat ((conv => whnf); first | apply qza | apply qzb | apply qzc | apply qzd | apply qze | intro (_ : Nat) | intro (_ : Option Addr) (_ : Nat))
    refine .inr ((Ok.sub hg4 (ok_Clone _ hwy (BgW_same hb' hol po1 po2 po3 po4))).mono fun v g5 hg5 hO => ?_)
    obtain ⟨gb, hgb5, hgbN, csd, Tb, rfl, hTb⟩ := hO
    obtain ⟨b1, b2, b3, b4, b5, b6, b7, b8, b9, b10, rfl⟩ := rWo_open (oWo_rd hTb)
    have l35 := GW.trans hg4 hg5
    repeat ((conv => whnf); first | apply qza | apply qzb | apply qzc | apply qzd | apply qze | intro (_ : Nat) | intro (_ : Option Addr) (_ : Nat))
    conv => whnf
    refine ⟨fun hx => absurd hx (by rw [hpl]; simp), fun _ => ?_⟩
    repeat ((conv => whnf); first | apply qza | apply qzb | apply qzc | apply qzd | apply qze | intro (_ : Nat) | intro (_ : Option Addr) (_ : Nat))
    conv => whnf
    refine ⟨fun hx => absurd hx (by rw [hol]; simp), fun _ => ?_⟩
    repeat ((conv => whnf); first | apply qza | apply qzb | apply qzc | apply qzd | apply qze | intro (_ : Nat) | intro (_ : Option Addr) (_ : Nat))
    by_cases hin : 0 ≤ m.thread ∧ m.thread < w.pins.length
    rotate_left
    · obtain ⟨hpw, how⟩ := pin_out hin
      have hA5 := rWo_mono _ _ _ _ hg5 (oWo_rd hTa)
      have hB5 := rWo_mono _ _ _ _ hgb5 (oWo_rd hTb)
      have hW5 := rWo_mono _ _ _ _ l35 hw3
      have hW5a : rWo g5 [.int .i64 w.epoch, .int .i64 w.current, .int .i64 w.lock, .slice oa w.pins.length ca, .slice ob w.versions.length cb, .slice oc w.listens.length cc, .slice od w.counts.length cd, .slice oe w.limbo.length ce] (pinW w m) := by rw [hpw]; exact hW5
      have hW5b : rWo g5 [.int .i64 w.epoch, .int .i64 w.current, .int .i64 w.lock, .slice oa w.pins.length ca, .slice ob w.versions.length cb, .slice oc w.listens.length cc, .slice od w.counts.length cd, .slice oe w.limbo.length ce] (offW w m) := by rw [how]; exact hW5
      conv => whnf
      refine ⟨fun c1 => ?_, fun c1 => ?_⟩
      · have h9 := of_decide_eq_true c1
        repeat ((conv => whnf); first | apply qza | apply qzb | apply qzc | apply qzd | apply qze | intro (_ : Nat) | intro (_ : Option Addr) (_ : Nat))
        conv => whnf
        refine ⟨fun hx => absurd (of_decide_eq_true hx) (by omega), fun _ => ?_⟩
        repeat ((conv => whnf); first | apply qza | apply qzb | apply qzc | apply qzd | apply qze | intro (_ : Nat) | intro (_ : Option Addr) (_ : Nat))
        conv => whnf
        refine .inl ⟨_, ok_pinned _, ?_⟩
        repeat ((conv => whnf); first | apply qza | apply qzb | apply qzc | apply qzd | apply qze | intro (_ : Nat) | intro (_ : Option Addr) (_ : Nat))
        conv => whnf
        refine ⟨fun _ => ?_, fun h => nomatch h⟩
        repeat ((conv => whnf); first | apply qza | apply qzb | apply qzc | apply qzd | apply qze | intro (_ : Nat) | intro (_ : Option Addr) (_ : Nat))
        conv => whnf
        refine .inl ⟨_, ok_sameW _ hA5 hW5a, ?_⟩
        repeat ((conv => whnf); first | apply qza | apply qzb | apply qzc | apply qzd | apply qze | intro (_ : Nat) | intro (_ : Option Addr) (_ : Nat))
        conv => whnf
        refine ⟨fun _ => ?_, fun h => nomatch h⟩
        repeat ((conv => whnf); first | apply qza | apply qzb | apply qzc | apply qzd | apply qze | intro (_ : Nat) | intro (_ : Option Addr) (_ : Nat))
        conv => whnf
        refine .inl ⟨_, ok_sameW _ hB5 hW5b, ?_⟩
        repeat ((conv => whnf); first | apply qza | apply qzb | apply qzc | apply qzd | apply qze | intro (_ : Nat) | intro (_ : Option Addr) (_ : Nat))
        conv => whnf
        intro g2 hg
        rfl
      · repeat ((conv => whnf); first | apply qza | apply qzb | apply qzc | apply qzd | apply qze | intro (_ : Nat) | intro (_ : Option Addr) (_ : Nat))
        conv => whnf
        refine .inl ⟨_, ok_pinned _, ?_⟩
        repeat ((conv => whnf); first | apply qza | apply qzb | apply qzc | apply qzd | apply qze | intro (_ : Nat) | intro (_ : Option Addr) (_ : Nat))
        conv => whnf
        refine ⟨fun _ => ?_, fun h => nomatch h⟩
        repeat ((conv => whnf); first | apply qza | apply qzb | apply qzc | apply qzd | apply qze | intro (_ : Nat) | intro (_ : Option Addr) (_ : Nat))
        conv => whnf
        refine .inl ⟨_, ok_sameW _ hA5 hW5a, ?_⟩
        repeat ((conv => whnf); first | apply qza | apply qzb | apply qzc | apply qzd | apply qze | intro (_ : Nat) | intro (_ : Option Addr) (_ : Nat))
        conv => whnf
        refine ⟨fun _ => ?_, fun h => nomatch h⟩
        repeat ((conv => whnf); first | apply qza | apply qzb | apply qzc | apply qzd | apply qze | intro (_ : Nat) | intro (_ : Option Addr) (_ : Nat))
        conv => whnf
        refine .inl ⟨_, ok_sameW _ hB5 hW5b, ?_⟩
        repeat ((conv => whnf); first | apply qza | apply qzb | apply qzc | apply qzd | apply qze | intro (_ : Nat) | intro (_ : Option Addr) (_ : Nat))
        conv => whnf
        intro g2 hg
        rfl
    · obtain ⟨i0, i1⟩ := hin
      obtain ⟨x, hx⟩ := getL_of (l := w.pins) (i := m.thread.toNat) (by omega)
      obtain ⟨_, _, kw, kw1, kw2, kw0, kwr⟩ := rWo_pins hw3
      cases kw
      obtain ⟨aw, rfl, ew, hew, ⟨rfl, hxin⟩, hcw⟩ := kwr _ x hx
      obtain ⟨xa, hxa⟩ := getL_of (l := (pinW w m).pins) (i := m.thread.toNat) (by rw [hpl]; omega)
      obtain ⟨xb, hxb⟩ := getL_of (l := (offW w m).pins) (i := m.thread.toNat) (by rw [hol]; omega)
      obtain ⟨bk, cap, hv, b5', j5, bc, ty5, ⟨hA, p1, p2, p3, p4⟩, _, hk5⟩ := oWo_pin (oWo_fr (sub_ge hg5) hTa) hxa (x' := x) hxin
      cases hv
      cases hA
      have n3 : ¬ g3.g bk := fun h => by have := g3.wf _ h; omega
      have nb : ¬ gb.g bk := fun h => (hgbN bk h).elim n3 fun q => by have := g4.wf _ p2.2; omega
      conv => whnf
      refine ⟨fun _ => ?_, fun hx => absurd (((decide_eq_true (show m.thread ≥ 0 from i0))).symm.trans hx) (by decide)⟩
      repeat ((conv => whnf); first | apply qza | apply qzb | apply qzc | apply qzd | apply qze | intro (_ : Nat) | intro (_ : Option Addr) (_ : Nat))
      conv => whnf
      refine ⟨fun _ => ?_, fun hx => absurd (((decide_eq_true i1)).symm.trans hx) (by decide)⟩
      repeat ((conv => whnf); first | apply qza | apply qzb | apply qzc | apply qzd | apply qze | intro (_ : Nat) | intro (_ : Option Addr) (_ : Nat))
      conv => whnf
      refine ⟨_, rfl, ⟨by omega, by omega⟩, ?_⟩
      repeat ((conv => whnf); first | apply qza | apply qzb | apply qzc | apply qzd | apply qze | intro (_ : Nat) | intro (_ : Option Addr) (_ : Nat))
      conv => whnf
      refine ⟨_, (hcw 0 _ rfl).mono l35, ?_⟩
      repeat ((conv => whnf); first | apply qza | apply qzb | apply qzc | apply qzd | apply qze | intro (_ : Nat) | intro (_ : Option Addr) (_ : Nat))
      conv => whnf
      refine ⟨_, rfl, ⟨by omega, by rw [hpl]; omega⟩, ?_⟩
      repeat ((conv => whnf); first | apply qza | apply qzb | apply qzc | apply qzd | apply qze | intro (_ : Nat) | intro (_ : Option Addr) (_ : Nat))
      conv => whnf
      refine ⟨bk, m.thread.toNat, bc, ty5, ⟨by simp [addr_add], Nat.le_trans (GW.trans hg1 (GW.trans hg2 hg3)).1 p1, p2.1, p3, p4⟩, ?_⟩
      repeat ((conv => whnf); first | apply qza | apply qzb | apply qzc | apply qzd | apply qze | intro (_ : Nat) | intro (_ : Option Addr) (_ : Nat))
      conv => whnf
      refine fun g6 u6 => ?_
      have hA6 := hk5 _ (u6.sub g4.g)
      have lb6 : gb ≤ g6 := u6.le hgb5 nb
      have l36 : g3 ≤ g6 := u6.le l35 n3
      obtain ⟨bk2, cap2, hv, b6', j6, bc6, ty6, ⟨hA, q1, q2, q3, q4⟩, _, hk6⟩ := oWo_pin (oWo_fr (sub_ge lb6) hTb) hxb (x' := x) hxin
      cases hv
      cases hA
      have m3 : ¬ g3.g bk2 := fun h => by have := g3.wf _ h; omega
      have m4 : ¬ g4.g bk2 := fun h => (hgbN bk2 q2.2).elim m3 fun q => by have := g4.wf _ h; omega
      repeat ((conv => whnf); first | apply qza | apply qzb | apply qzc | apply qzd | apply qze | intro (_ : Nat) | intro (_ : Option Addr) (_ : Nat))
      conv => whnf
      refine ⟨_, rfl, ⟨by omega, by omega⟩, ?_⟩
      repeat ((conv => whnf); first | apply qza | apply qzb | apply qzc | apply qzd | apply qze | intro (_ : Nat) | intro (_ : Option Addr) (_ : Nat))
      conv => whnf
      refine ⟨_, (hcw 0 _ rfl).mono l36, ?_⟩
      repeat ((conv => whnf); first | apply qza | apply qzb | apply qzc | apply qzd | apply qze | intro (_ : Nat) | intro (_ : Option Addr) (_ : Nat))
      conv => whnf
      refine ⟨_, rfl, ⟨by omega, by rw [hol]; omega⟩, ?_⟩
      repeat ((conv => whnf); first | apply qza | apply qzb | apply qzc | apply qzd | apply qze | intro (_ : Nat) | intro (_ : Option Addr) (_ : Nat))
      conv => whnf
      refine ⟨bk2, m.thread.toNat, bc6, ty6, ⟨by simp [addr_add], Nat.le_trans (GW.trans hg1 (GW.trans hg2 hg3)).1 q1, q2.1, q3, q4⟩, ?_⟩
      repeat ((conv => whnf); first | apply qza | apply qzb | apply qzc | apply qzd | apply qze | intro (_ : Nat) | intro (_ : Option Addr) (_ : Nat))
      conv => whnf
      refine fun g7 u7 => ?_
      have hA7 := rWo_mono _ _ _ _ (u7.le (sub_le g6 g4.g) fun h => m4 h.2) (oWo_rd hA6)
      have hB7 := rWo_mono _ _ _ _ (sub_le _ _) (oWo_rd (hk6 _ (u7.sub gb.g)))
      have hW7 := rWo_mono _ _ _ _ (u7.le l36 m3) hw3
      rw [pin_keep hx] at hA7
      rw [off_keep hx] at hB7
      repeat ((conv => whnf); first | apply qza | apply qzb | apply qzc | apply qzd | apply qze | intro (_ : Nat) | intro (_ : Option Addr) (_ : Nat))
      conv => whnf
      refine .inl ⟨_, ok_pinned _, ?_⟩
      repeat ((conv => whnf); first | apply qza | apply qzb | apply qzc | apply qzd | apply qze | intro (_ : Nat) | intro (_ : Option Addr) (_ : Nat))
      conv => whnf
      refine ⟨fun _ => ?_, fun h => nomatch h⟩
      repeat ((conv => whnf); first | apply qza | apply qzb | apply qzc | apply qzd | apply qze | intro (_ : Nat) | intro (_ : Option Addr) (_ : Nat))
      conv => whnf
      refine .inl ⟨_, ok_sameW _ hA7 hW7, ?_⟩
      repeat ((conv => whnf); first | apply qza | apply qzb | apply qzc | apply qzd | apply qze | intro (_ : Nat) | intro (_ : Option Addr) (_ : Nat))
      conv => whnf
      refine ⟨fun _ => ?_, fun h => nomatch h⟩
      repeat ((conv => whnf); first | apply qza | apply qzb | apply qzc | apply qzd | apply qze | intro (_ : Nat) | intro (_ : Option Addr) (_ : Nat))
      conv => whnf
      refine .inl ⟨_, ok_sameW _ hB7 hW7, ?_⟩
      repeat ((conv => whnf); first | apply qza | apply qzb | apply qzc | apply qzd | apply qze | intro (_ : Nat) | intro (_ : Option Addr) (_ : Nat))
      conv => whnf
      intro g2 hg
      rfl)
end Go.Proofs.Ytkkhdnddplkobaa

