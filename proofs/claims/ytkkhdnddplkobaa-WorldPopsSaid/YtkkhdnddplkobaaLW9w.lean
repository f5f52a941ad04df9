/- Worlds: a new one. -/
import Derived.Test.YtkkhdnddplkobaaLW9k
import Derived.Test.YtkkhdnddplkobaaLW9n
import Derived.Test.YtkkhdnddplkobaaPl
import Derived.Test.YtkkhdnddplkobaaLW9b
namespace Go.Proofs.Ytkkhdnddplkobaa
open Go.Proofs.Ytkkhdnddplkobaa.Sx Go.RowKit
abbrev zWs : List Value := [.int .i64 0, .int .i64 0, .int .i64 0, .slice none 0 0, .slice none 0 0, .slice none 0 0, .slice none 0 0, .slice none 0 0]
def NewP (s : Snap) (l : List BA) (t : Int) (v : Value) (g' : GW) : Prop :=
  (NewOk s l t ∧ ∃ cs, v = .tuple #[.agg ⟨cs⟩, .int .i64 0] ∧ rWo g' cs (newW s l t.toNat)) ∨ (¬ NewOk s l t ∧ v = .tuple #[.agg ⟨zWs⟩, .int .i64 1])
theorem ok_New (g : GW) {cs : List Value} {s : Snap} {v : Value} {l : List BA} {t : Int} (hs : rSnap g cs s) (hl : rSl 1 rStr g v l) (hsz : s.rules.length ≤ 1000000) (hll : l.length ≤ 1000000) : Ok Try.prog n_world_New [.agg ⟨cs⟩, v, .int .i64 t] g (NewP s l t) := by
  have hs0 := hs
  obtain ⟨a, b, d, rfl, ⟨oa, ca, rfl, _⟩, ⟨ob, cb, rfl, _⟩, ⟨od, cd, rfl, _⟩⟩ := hs
  obtain ⟨ol, cl, rfl, l1, l2, l0, hl1⟩ := id hl
  exact Ok.of_fn hm noT 0 t_world_New (args := [.v (.agg ⟨[.slice oa s.listens.length ca, .slice ob s.rules.length cb, .slice od s.clusters.length cd]⟩), .v (.slice ol l.length cl), .v (.int .i64 t)]) (by
    repeat ((conv => whnf); first | apply qza | apply qzb | apply qzc | apply qzd | apply qze | intro (_ : Nat) | intro (_ : Option Addr) (_ : Nat))
    rename_i q0 q1
    refine .inr ((ok_Cells _ hs0 hsz).mono fun v g1 hg1 hC => ?_)
    rcases hC with ⟨hz, ka, kb, kd, oV, nV, cV, rfl, hV⟩ | ⟨hz, rfl⟩
    rotate_left
    · repeat ((conv => whnf); first | apply qza | apply qzb | apply qzc | apply qzd | apply qze | intro (_ : Nat) | intro (_ : Option Addr) (_ : Nat))
      conv => whnf
      refine ⟨fun _ => ?_, fun h => nomatch h⟩
      repeat ((conv => whnf); first | apply qza | apply qzb | apply qzc | apply qzd | apply qze | intro (_ : Nat) | intro (_ : Option Addr) (_ : Nat))
      conv => whnf
      intro g2 hg
      exact .inr ⟨fun h => hz h.1, rfl⟩
    have hV0 := hV
    obtain ⟨_, _, _, _, he, ⟨_, _, _, he2, ⟨sa, ta, rfl, _⟩, ⟨sb, tb, rfl, _⟩, ⟨sd, td, rfl, _⟩⟩, hG⟩ := hV
    simp only [List.cons.injEq, and_true] at he
    obtain ⟨rfl, rfl, rfl, rfl, _⟩ := he
    cases he2
    repeat ((conv => whnf); first | apply qza | apply qzb | apply qzc | apply qzd | apply qze | intro (_ : Nat) | intro (_ : Option Addr) (_ : Nat))
    rename_i q2
    conv => whnf
    refine ⟨fun h => (nomatch h), fun _ => ?_⟩
    repeat ((conv => whnf); first | apply qza | apply qzb | apply qzc | apply qzd | apply qze | intro (_ : Nat) | intro (_ : Option Addr) (_ : Nat))
    refine .inr ((ok_ShardNew _).mono fun v g2 hg2 hS => ?_)
    rcases hS with ⟨ht, oS, cS, rfl, hSh⟩ | ⟨ht, rfl⟩
    rotate_left
    · repeat ((conv => whnf); first | apply qza | apply qzb | apply qzc | apply qzd | apply qze | intro (_ : Nat) | intro (_ : Option Addr) (_ : Nat))
      conv => whnf
      refine ⟨fun _ => ?_, fun h => nomatch h⟩
      repeat ((conv => whnf); first | apply qza | apply qzb | apply qzc | apply qzd | apply qze | intro (_ : Nat) | intro (_ : Option Addr) (_ : Nat))
      conv => whnf
      intro g2 hg
      exact .inr ⟨fun h => ht h.2.1, rfl⟩
    obtain ⟨N, rfl⟩ := Int.eq_ofNat_of_zero_le (show 0 ≤ t by omega)
    have hg02 := GW.trans hg1 hg2
    repeat ((conv => whnf); first | apply qza | apply qzb | apply qzc | apply qzd | apply qze | intro (_ : Nat) | intro (_ : Option Addr) (_ : Nat))
    conv => whnf
    refine ⟨fun h => (nomatch h), fun _ => ?_⟩
    repeat ((conv => whnf); first | apply qza | apply qzb | apply qzc | apply qzd | apply qze | intro (_ : Nat) | intro (_ : Option Addr) (_ : Nat))
    refine ⟨?_, ?_⟩
    · repeat ((conv => whnf); first | apply qza | apply qzb | apply qzc | apply qzd | apply qze | intro (_ : Nat) | intro (_ : Option Addr) (_ : Nat))
      conv => whnf
      refine ⟨⟨by omega, by omega, by omega, by omega⟩, fun _ => ?_⟩
      repeat ((conv => whnf); first | apply qza | apply qzb | apply qzc | apply qzd | apply qze | intro (_ : Nat) | intro (_ : Option Addr) (_ : Nat))
      rename_i qV qP qw
      conv => whnf
      refine ⟨Nat × Option Addr × Nat × Nat × GW, fun (k, _, _, _, _) => [.v (.int .i64 k)], fun (k, oX, nX, cX, g') => ⟨g', [.blk 5 qw ty_api_World [.v (.int .i64 0), .v (.int .i64 0), .v (.int .i64 0), .row 4 (some ⟨qP, 0, none⟩) N N, .sl 3 qV 0 1 1, .v (.slice oX nX cX), .v (.slice oS N cS), .v (.slice none 0 0)], .row 4 (some ⟨qP, 0, none⟩) N N ty_int 1 (List.replicate N [Value.int .i64 0]).flatten, .blk 3 qV ty_api_Version [.v (.slice sa (cellsV s).snap.listens.length ta), .v (.slice sb (cellsV s).snap.rules.length tb), .v (.slice sd (cellsV s).snap.clusters.length td), .v (.slice oV nV cV), .v (.bool false)], .blk 2 q2 ty_api_Version [.v (.slice sa (cellsV s).snap.listens.length ta), .v (.slice sb (cellsV s).snap.rules.length tb), .v (.slice sd (cellsV s).snap.clusters.length td), .v (.slice oV nV cV), .v (.bool false)], .blk 1 q1 ty_api_World [.v (.int .i64 0), .v (.int .i64 0), .v (.int .i64 0), .v (.slice none 0 0), .v (.slice none 0 0), .v (.slice none 0 0), .v (.slice none 0 0), .v (.slice none 0 0)], .blk 0 q0 ty_api_Snap [.v (.slice oa s.listens.length ca), .v (.slice ob s.rules.length cb), .v (.slice od s.clusters.length cd)]], 20, g.w.heap.size⟩, fun (k, oX, nX, cX, g') => k ≤ l.length ∧ g2 ≤ g' ∧ nX = k ∧ PbSl g' g.w.heap.size ty_api_Listen 4 (.slice oX nX cX) nX ((lisL (l.take k)).map cLi).flatten ∧ (∀ a, oX = some a → ¬ g2.g a.block) ∧ AllK (namF l) l k, fun (k, _, _, _, _) => l.length - k, fun fr w hw => ⟨(0, none, 0, 0, g2), rfl, ⟨Nat.zero_le _, GW.refl _, rfl, ⟨rfl, .inl ⟨rfl, rfl⟩, fun u hu => by cases hu⟩, (fun a h => by cases h), AllK.zero _ _⟩, hw.fit (by simp [fitL, Res.eqv, concL, conc])⟩, ?_⟩
      rintro ⟨k, oX, nX, cX, g'⟩ ⟨hk, hgg, hn, hpb, hnb, hAK⟩
      have hll2 : (lisL (l.take k)).length = k := by simp [lisL]; omega
      have hlis : rSl 4 rListen g' (.slice oX nX cX) (lisL (l.take k)) := rSl_ofE hpb.rd (lisL (l.take k)) cLi rfl (by omega) (fun _ _ => rfl) fun x hx => by
        obtain ⟨y, _, rfl⟩ := List.mem_map.1 hx
        exact ⟨rfl, show InR 0 by decide⟩
      repeat ((conv => whnf); first | apply qza | apply qzb | apply qzc | apply qzd | apply qze | intro (_ : Nat) | intro (_ : Option Addr) (_ : Nat))
      conv => whnf
      refine ⟨fun hlt => ?_, fun hlt => ?_⟩
      · have h' : k < l.length := by have := of_decide_eq_true hlt; omega
        obtain ⟨x, hx⟩ := getL_of h'
        obtain ⟨a, rfl, ec, hec, rfl, hc⟩ := hl1 k x hx
        have hbad : namF l k x = false → ¬ NewOk s l N := fun hf h => by have h3 := h.2.2; rw [allI_false hx hf] at h3; cases h3
        repeat ((conv => whnf); first | apply qza | apply qzb | apply qzc | apply qzd | apply qze | intro (_ : Nat) | intro (_ : Option Addr) (_ : Nat))
        conv => whnf
        refine ⟨a, rfl, ⟨by omega, by omega⟩, ?_⟩
        conv => whnf
        refine ⟨_, (hc.mono (GW.trans hg02 hgg)) 0 _ rfl, ?_⟩
        repeat ((conv => whnf); first | apply qza | apply qzb | apply qzc | apply qzd | apply qze | intro (_ : Nat) | intro (_ : Option Addr) (_ : Nat))
        conv => whnf
        refine .inl ⟨_, ok_Name _ _, ?_⟩
        repeat ((conv => whnf); first | apply qza | apply qzb | apply qzc | apply qzd | apply qze | intro (_ : Nat) | intro (_ : Option Addr) (_ : Nat))
        conv => whnf
        refine ⟨fun y1 => ?_, fun y1 => ?_⟩
        · repeat ((conv => whnf); first | apply qza | apply qzb | apply qzc | apply qzd | apply qze | intro (_ : Nat) | intro (_ : Option Addr) (_ : Nat))
          conv => whnf
          intro g2 hg
          exact .inr ⟨hbad (by unfold namF; rw [nb1 y1]; rfl), rfl⟩
        repeat ((conv => whnf); first | apply qza | apply qzb | apply qzc | apply qzd | apply qze | intro (_ : Nat) | intro (_ : Option Addr) (_ : Nat))
        conv => whnf
        refine .inl ⟨_, ok_gPlace _ hlis _, ?_⟩
        repeat ((conv => whnf); first | apply qza | apply qzb | apply qzc | apply qzd | apply qze | intro (_ : Nat) | intro (_ : Option Addr) (_ : Nat))
        conv => whnf
        refine ⟨fun y2 => ?_, fun y2 => ?_⟩
        · repeat ((conv => whnf); first | apply qza | apply qzb | apply qzc | apply qzd | apply qze | intro (_ : Nat) | intro (_ : Option Addr) (_ : Nat))
          conv => whnf
          intro g2 hg
          exact .inr ⟨hbad (by unfold namF; rw [decide_eq_false (by have := of_decide_eq_true y2; omega)]; simp), rfl⟩
        have hnF : namF l k x = true := by unfold namF; rw [nb0 y1, decide_eq_true (by have := of_decide_eq_false y2; omega)]; rfl
        have hT := lisL_take hx
        rcases hpb.2.1 with ⟨he, hn0⟩ | ⟨bk, cap', rest, he, hb1, hb2, hb3, hb4, hb5⟩
        · cases he
          have hk0 : k = 0 := by omega
          subst hk0
          repeat ((conv => whnf); first | apply qza | apply qzb | apply qzc | apply qzd | apply qze | intro (_ : Nat) | intro (_ : Option Addr) (_ : Nat))
          conv => whnf
          refine ⟨⟨by unfold maxLen; omega, by omega⟩, fun oa3 cap3 => ?_⟩
          repeat ((conv => whnf); first | apply qza | apply qzb | apply qzc | apply qzd | apply qze | intro (_ : Nat) | intro (_ : Option Addr) (_ : Nat))
          conv => whnf
          refine fun fr w hw => by
            have hw1 : HSim fr ⟨g', .row 70 oa3 (1) cap3 ty_api_Listen 4 (cLi ⟨x, false, 0, false⟩) :: [.blk 5 qw ty_api_World [.v (.int .i64 0), .v (.int .i64 0), .v (.int .i64 0), .row 4 (some ⟨qP, 0, none⟩) N N, .sl 3 qV 0 1 1, .v (.slice oa3 (1) cap3), .v (.slice oS N cS), .v (.slice none 0 0)], .row 4 (some ⟨qP, 0, none⟩) N N ty_int 1 (List.replicate N [Value.int .i64 0]).flatten, .blk 3 qV ty_api_Version [.v (.slice sa (cellsV s).snap.listens.length ta), .v (.slice sb (cellsV s).snap.rules.length tb), .v (.slice sd (cellsV s).snap.clusters.length td), .v (.slice oV nV cV), .v (.bool false)], .blk 2 q2 ty_api_Version [.v (.slice sa (cellsV s).snap.listens.length ta), .v (.slice sb (cellsV s).snap.rules.length tb), .v (.slice sd (cellsV s).snap.clusters.length td), .v (.slice oV nV cV), .v (.bool false)], .blk 1 q1 ty_api_World [.v (.int .i64 0), .v (.int .i64 0), .v (.int .i64 0), .v (.slice none 0 0), .v (.slice none 0 0), .v (.slice none 0 0), .v (.slice none 0 0), .v (.slice none 0 0)], .blk 0 q0 ty_api_Snap [.v (.slice oa s.listens.length ca), .v (.slice ob s.rules.length cb), .v (.slice od s.clusters.length cd)]], 80, g.w.heap.size⟩ w := hw.fit (by simp [fitL, Res.eqv, concL, conc])
            obtain ⟨g4, k1', k2, k3, k4⟩ := hw1.row_pub
            refine ⟨(0 + 1, oa3, 1, cap3, g4), congrArg (fun z => [Value.int .i64 z]) (wr1 h' l1 l2).symm, ⟨h', GW.trans hgg k1', rfl, ?_, fun a ha q => k2 a ha (hgg.2 _ q).1, hAK.succ hx hnF⟩, dec h', k4.fit (by simp [fitL, Res.eqv, concL, conc])⟩
            rw [hT]; exact k3
        · cases he
          have hbk : ¬ g2.g bk := hnb _ rfl
          repeat ((conv => whnf); first | apply qza | apply qzb | apply qzc | apply qzd | apply qze | intro (_ : Nat) | intro (_ : Option Addr) (_ : Nat))
          conv => whnf
          refine .inr ⟨bk, _, rest, ⟨rfl, hb1.1, hb1.2, hb2, hpb.1, hpb.2.2, hb3, hb4, hb5, by unfold maxLen; omega, by omega⟩, fun gL hless oa3 cap3 => ?_⟩
          repeat ((conv => whnf); first | apply qza | apply qzb | apply qzc | apply qzd | apply qze | intro (_ : Nat) | intro (_ : Option Addr) (_ : Nat))
          conv => whnf
          refine fun fr w hw => by
            have hw1 : HSim fr ⟨gL, .row 70 oa3 (nX + 1) cap3 ty_api_Listen 4 (((lisL (l.take k)).map cLi).flatten ++ cLi ⟨x, false, 0, false⟩) :: [.blk 5 qw ty_api_World [.v (.int .i64 0), .v (.int .i64 0), .v (.int .i64 0), .row 4 (some ⟨qP, 0, none⟩) N N, .sl 3 qV 0 1 1, .v (.slice oa3 (nX + 1) cap3), .v (.slice oS N cS), .v (.slice none 0 0)], .row 4 (some ⟨qP, 0, none⟩) N N ty_int 1 (List.replicate N [Value.int .i64 0]).flatten, .blk 3 qV ty_api_Version [.v (.slice sa (cellsV s).snap.listens.length ta), .v (.slice sb (cellsV s).snap.rules.length tb), .v (.slice sd (cellsV s).snap.clusters.length td), .v (.slice oV nV cV), .v (.bool false)], .blk 2 q2 ty_api_Version [.v (.slice sa (cellsV s).snap.listens.length ta), .v (.slice sb (cellsV s).snap.rules.length tb), .v (.slice sd (cellsV s).snap.clusters.length td), .v (.slice oV nV cV), .v (.bool false)], .blk 1 q1 ty_api_World [.v (.int .i64 0), .v (.int .i64 0), .v (.int .i64 0), .v (.slice none 0 0), .v (.slice none 0 0), .v (.slice none 0 0), .v (.slice none 0 0), .v (.slice none 0 0)], .blk 0 q0 ty_api_Snap [.v (.slice oa s.listens.length ca), .v (.slice ob s.rules.length cb), .v (.slice od s.clusters.length cd)]], 80, g.w.heap.size⟩ w := hw.fit (by simp [fitL, Res.eqv, concL, conc])
            obtain ⟨g4, k1', k2, k3, k4⟩ := hw1.row_pub
            have hgL := hless.le hgg hbk
            refine ⟨(k + 1, oa3, nX + 1, cap3, g4), congrArg (fun z => [Value.int .i64 z]) (wr1 h' l1 l2).symm, ⟨h', GW.trans hgL k1', by omega, ?_, fun a ha q => k2 a ha (hgL.2 _ q).1, hAK.succ hx hnF⟩, dec h', k4.fit (by simp [fitL, Res.eqv, concL, conc])⟩
            rw [hT]; simpa using k3
      have hkL : k = l.length := by have := of_decide_eq_false hlt; omega
      subst hkL
      have hok : NewOk s l N := ⟨hz, ht, hAK.done (Nat.le_refl _)⟩
      rw [List.take_length] at hlis
      repeat ((conv => whnf); first | apply qza | apply qzb | apply qzc | apply qzd | apply qze | intro (_ : Nat) | intro (_ : Option Addr) (_ : Nat))
      conv => whnf
      refine fun gA kA nA pA => ?_
      repeat ((conv => whnf); first | apply qza | apply qzb | apply qzc | apply qzd | apply qze | intro (_ : Nat) | intro (_ : Option Addr) (_ : Nat))
      conv => whnf
      refine ⟨5, rfl, by unfold maxLen; omega, fun gB kB nB pB => ?_⟩
      repeat ((conv => whnf); first | apply qza | apply qzb | apply qzc | apply qzd | apply qze | intro (_ : Nat) | intro (_ : Option Addr) (_ : Nat))
      conv => whnf
      intro g2 hg
      have mA := GW.trans kA (GW.trans kB hg)
      refine .inl ⟨hok, _, rfl, _, _, _, _, _, rfl, ⟨show InR 0 by decide, show InR 0 by decide, show InR 0 by decide⟩, ?_, ?_, hlis.mono rListen_mono mA, hSh.mono rRow_mono (GW.trans hgg mA), ⟨none, 0, rfl, Nat.le_refl _, Nat.zero_le _, fun _ => ⟨rfl, rfl⟩, fun i x hx => by simp [newW] at hx⟩⟩
      · exact (rSl_of1 pA.rd (List.replicate N 0) (fun x => .int .i64 x) (by simp [List.flatten_replicate_singleton]) fun x hx => ⟨rfl, by rw [List.eq_of_mem_replicate hx]; decide⟩).mono rInt_mono (GW.trans kB hg)
      · refine rSl_of (pB.rd.mono hg) [cellsV s] [[.slice sa (cellsV s).snap.listens.length ta, .slice sb (cellsV s).snap.rules.length tb, .slice sd (cellsV s).snap.clusters.length td, .slice oV nV cV, .bool false]] rfl (fun e he => ?_) rfl rfl fun i x ec hx hec => ?_
        · simp at he; subst he; rfl
        · cases i with
          | zero =>
            simp at hx hec
            subst hx; subst hec
            exact rVe_mono _ _ _ _ (GW.trans hg2 (GW.trans hgg mA)) hV0
          | succ i => simp at hx
    · repeat ((conv => whnf); first | apply qza | apply qzb | apply qzc | apply qzd | apply qze | intro (_ : Nat) | intro (_ : Option Addr) (_ : Nat))
      conv => whnf
      refine ⟨⟨by omega, by omega, by omega, by omega⟩, fun _ => ?_⟩
      repeat ((conv => whnf); first | apply qza | apply qzb | apply qzc | apply qzd | apply qze | intro (_ : Nat) | intro (_ : Option Addr) (_ : Nat))
      rename_i qP qV qw
      conv => whnf
      refine ⟨Nat × Option Addr × Nat × Nat × GW, fun (k, _, _, _, _) => [.v (.int .i64 k)], fun (k, oX, nX, cX, g') => ⟨g', [.blk 5 qw ty_api_World [.v (.int .i64 0), .v (.int .i64 0), .v (.int .i64 0), .row 3 (some ⟨qP, 0, none⟩) N N, .sl 4 qV 0 1 1, .v (.slice oX nX cX), .v (.slice oS N cS), .v (.slice none 0 0)], .blk 4 qV ty_api_Version [.v (.slice sa (cellsV s).snap.listens.length ta), .v (.slice sb (cellsV s).snap.rules.length tb), .v (.slice sd (cellsV s).snap.clusters.length td), .v (.slice oV nV cV), .v (.bool false)], .row 3 (some ⟨qP, 0, none⟩) N N ty_int 1 (List.replicate N [Value.int .i64 0]).flatten, .blk 2 q2 ty_api_Version [.v (.slice sa (cellsV s).snap.listens.length ta), .v (.slice sb (cellsV s).snap.rules.length tb), .v (.slice sd (cellsV s).snap.clusters.length td), .v (.slice oV nV cV), .v (.bool false)], .blk 1 q1 ty_api_World [.v (.int .i64 0), .v (.int .i64 0), .v (.int .i64 0), .v (.slice none 0 0), .v (.slice none 0 0), .v (.slice none 0 0), .v (.slice none 0 0), .v (.slice none 0 0)], .blk 0 q0 ty_api_Snap [.v (.slice oa s.listens.length ca), .v (.slice ob s.rules.length cb), .v (.slice od s.clusters.length cd)]], 20, g.w.heap.size⟩, fun (k, oX, nX, cX, g') => k ≤ l.length ∧ g2 ≤ g' ∧ nX = k ∧ PbSl g' g.w.heap.size ty_api_Listen 4 (.slice oX nX cX) nX ((lisL (l.take k)).map cLi).flatten ∧ (∀ a, oX = some a → ¬ g2.g a.block) ∧ AllK (namF l) l k, fun (k, _, _, _, _) => l.length - k, fun fr w hw => ⟨(0, none, 0, 0, g2), rfl, ⟨Nat.zero_le _, GW.refl _, rfl, ⟨rfl, .inl ⟨rfl, rfl⟩, fun u hu => by cases hu⟩, (fun a h => by cases h), AllK.zero _ _⟩, hw.fit (by simp [fitL, Res.eqv, concL, conc])⟩, ?_⟩
      rintro ⟨k, oX, nX, cX, g'⟩ ⟨hk, hgg, hn, hpb, hnb, hAK⟩
      have hll2 : (lisL (l.take k)).length = k := by simp [lisL]; omega
      have hlis : rSl 4 rListen g' (.slice oX nX cX) (lisL (l.take k)) := rSl_ofE hpb.rd (lisL (l.take k)) cLi rfl (by omega) (fun _ _ => rfl) fun x hx => by
        obtain ⟨y, _, rfl⟩ := List.mem_map.1 hx
        exact ⟨rfl, show InR 0 by decide⟩
      repeat ((conv => whnf); first | apply qza | apply qzb | apply qzc | apply qzd | apply qze | intro (_ : Nat) | intro (_ : Option Addr) (_ : Nat))
      conv => whnf
      refine ⟨fun hlt => ?_, fun hlt => ?_⟩
      · have h' : k < l.length := by have := of_decide_eq_true hlt; omega
        obtain ⟨x, hx⟩ := getL_of h'
        obtain ⟨a, rfl, ec, hec, rfl, hc⟩ := hl1 k x hx
        have hbad : namF l k x = false → ¬ NewOk s l N := fun hf h => by have h3 := h.2.2; rw [allI_false hx hf] at h3; cases h3
        repeat ((conv => whnf); first | apply qza | apply qzb | apply qzc | apply qzd | apply qze | intro (_ : Nat) | intro (_ : Option Addr) (_ : Nat))
        conv => whnf
        refine ⟨a, rfl, ⟨by omega, by omega⟩, ?_⟩
        conv => whnf
        refine ⟨_, (hc.mono (GW.trans hg02 hgg)) 0 _ rfl, ?_⟩
        repeat ((conv => whnf); first | apply qza | apply qzb | apply qzc | apply qzd | apply qze | intro (_ : Nat) | intro (_ : Option Addr) (_ : Nat))
        conv => whnf
        refine .inl ⟨_, ok_Name _ _, ?_⟩
        repeat ((conv => whnf); first | apply qza | apply qzb | apply qzc | apply qzd | apply qze | intro (_ : Nat) | intro (_ : Option Addr) (_ : Nat))
        conv => whnf
        refine ⟨fun y1 => ?_, fun y1 => ?_⟩
        · repeat ((conv => whnf); first | apply qza | apply qzb | apply qzc | apply qzd | apply qze | intro (_ : Nat) | intro (_ : Option Addr) (_ : Nat))
          conv => whnf
          intro g2 hg
          exact .inr ⟨hbad (by unfold namF; rw [nb1 y1]; rfl), rfl⟩
        repeat ((conv => whnf); first | apply qza | apply qzb | apply qzc | apply qzd | apply qze | intro (_ : Nat) | intro (_ : Option Addr) (_ : Nat))
        conv => whnf
        refine .inl ⟨_, ok_gPlace _ hlis _, ?_⟩
        repeat ((conv => whnf); first | apply qza | apply qzb | apply qzc | apply qzd | apply qze | intro (_ : Nat) | intro (_ : Option Addr) (_ : Nat))
        conv => whnf
        refine ⟨fun y2 => ?_, fun y2 => ?_⟩
        · repeat ((conv => whnf); first | apply qza | apply qzb | apply qzc | apply qzd | apply qze | intro (_ : Nat) | intro (_ : Option Addr) (_ : Nat))
          conv => whnf
          intro g2 hg
          exact .inr ⟨hbad (by unfold namF; rw [decide_eq_false (by have := of_decide_eq_true y2; omega)]; simp), rfl⟩
        have hnF : namF l k x = true := by unfold namF; rw [nb0 y1, decide_eq_true (by have := of_decide_eq_false y2; omega)]; rfl
        have hT := lisL_take hx
        rcases hpb.2.1 with ⟨he, hn0⟩ | ⟨bk, cap', rest, he, hb1, hb2, hb3, hb4, hb5⟩
        · cases he
          have hk0 : k = 0 := by omega
          subst hk0
          repeat ((conv => whnf); first | apply qza | apply qzb | apply qzc | apply qzd | apply qze | intro (_ : Nat) | intro (_ : Option Addr) (_ : Nat))
          conv => whnf
          refine ⟨⟨by unfold maxLen; omega, by omega⟩, fun oa3 cap3 => ?_⟩
          repeat ((conv => whnf); first | apply qza | apply qzb | apply qzc | apply qzd | apply qze | intro (_ : Nat) | intro (_ : Option Addr) (_ : Nat))
          conv => whnf
          refine fun fr w hw => by
            have hw1 : HSim fr ⟨g', .row 70 oa3 (1) cap3 ty_api_Listen 4 (cLi ⟨x, false, 0, false⟩) :: [.blk 5 qw ty_api_World [.v (.int .i64 0), .v (.int .i64 0), .v (.int .i64 0), .row 3 (some ⟨qP, 0, none⟩) N N, .sl 4 qV 0 1 1, .v (.slice oa3 (1) cap3), .v (.slice oS N cS), .v (.slice none 0 0)], .blk 4 qV ty_api_Version [.v (.slice sa (cellsV s).snap.listens.length ta), .v (.slice sb (cellsV s).snap.rules.length tb), .v (.slice sd (cellsV s).snap.clusters.length td), .v (.slice oV nV cV), .v (.bool false)], .row 3 (some ⟨qP, 0, none⟩) N N ty_int 1 (List.replicate N [Value.int .i64 0]).flatten, .blk 2 q2 ty_api_Version [.v (.slice sa (cellsV s).snap.listens.length ta), .v (.slice sb (cellsV s).snap.rules.length tb), .v (.slice sd (cellsV s).snap.clusters.length td), .v (.slice oV nV cV), .v (.bool false)], .blk 1 q1 ty_api_World [.v (.int .i64 0), .v (.int .i64 0), .v (.int .i64 0), .v (.slice none 0 0), .v (.slice none 0 0), .v (.slice none 0 0), .v (.slice none 0 0), .v (.slice none 0 0)], .blk 0 q0 ty_api_Snap [.v (.slice oa s.listens.length ca), .v (.slice ob s.rules.length cb), .v (.slice od s.clusters.length cd)]], 80, g.w.heap.size⟩ w := hw.fit (by simp [fitL, Res.eqv, concL, conc])
            obtain ⟨g4, k1', k2, k3, k4⟩ := hw1.row_pub
            refine ⟨(0 + 1, oa3, 1, cap3, g4), congrArg (fun z => [Value.int .i64 z]) (wr1 h' l1 l2).symm, ⟨h', GW.trans hgg k1', rfl, ?_, fun a ha q => k2 a ha (hgg.2 _ q).1, hAK.succ hx hnF⟩, dec h', k4.fit (by simp [fitL, Res.eqv, concL, conc])⟩
            rw [hT]; exact k3
        · cases he
          have hbk : ¬ g2.g bk := hnb _ rfl
          repeat ((conv => whnf); first | apply qza | apply qzb | apply qzc | apply qzd | apply qze | intro (_ : Nat) | intro (_ : Option Addr) (_ : Nat))
          conv => whnf
          refine .inr ⟨bk, _, rest, ⟨rfl, hb1.1, hb1.2, hb2, hpb.1, hpb.2.2, hb3, hb4, hb5, by unfold maxLen; omega, by omega⟩, fun gL hless oa3 cap3 => ?_⟩
          repeat ((conv => whnf); first | apply qza | apply qzb | apply qzc | apply qzd | apply qze | intro (_ : Nat) | intro (_ : Option Addr) (_ : Nat))
          conv => whnf
          refine fun fr w hw => by
            have hw1 : HSim fr ⟨gL, .row 70 oa3 (nX + 1) cap3 ty_api_Listen 4 (((lisL (l.take k)).map cLi).flatten ++ cLi ⟨x, false, 0, false⟩) :: [.blk 5 qw ty_api_World [.v (.int .i64 0), .v (.int .i64 0), .v (.int .i64 0), .row 3 (some ⟨qP, 0, none⟩) N N, .sl 4 qV 0 1 1, .v (.slice oa3 (nX + 1) cap3), .v (.slice oS N cS), .v (.slice none 0 0)], .blk 4 qV ty_api_Version [.v (.slice sa (cellsV s).snap.listens.length ta), .v (.slice sb (cellsV s).snap.rules.length tb), .v (.slice sd (cellsV s).snap.clusters.length td), .v (.slice oV nV cV), .v (.bool false)], .row 3 (some ⟨qP, 0, none⟩) N N ty_int 1 (List.replicate N [Value.int .i64 0]).flatten, .blk 2 q2 ty_api_Version [.v (.slice sa (cellsV s).snap.listens.length ta), .v (.slice sb (cellsV s).snap.rules.length tb), .v (.slice sd (cellsV s).snap.clusters.length td), .v (.slice oV nV cV), .v (.bool false)], .blk 1 q1 ty_api_World [.v (.int .i64 0), .v (.int .i64 0), .v (.int .i64 0), .v (.slice none 0 0), .v (.slice none 0 0), .v (.slice none 0 0), .v (.slice none 0 0), .v (.slice none 0 0)], .blk 0 q0 ty_api_Snap [.v (.slice oa s.listens.length ca), .v (.slice ob s.rules.length cb), .v (.slice od s.clusters.length cd)]], 80, g.w.heap.size⟩ w := hw.fit (by simp [fitL, Res.eqv, concL, conc])
            obtain ⟨g4, k1', k2, k3, k4⟩ := hw1.row_pub
            have hgL := hless.le hgg hbk
            refine ⟨(k + 1, oa3, nX + 1, cap3, g4), congrArg (fun z => [Value.int .i64 z]) (wr1 h' l1 l2).symm, ⟨h', GW.trans hgL k1', by omega, ?_, fun a ha q => k2 a ha (hgL.2 _ q).1, hAK.succ hx hnF⟩, dec h', k4.fit (by simp [fitL, Res.eqv, concL, conc])⟩
            rw [hT]; simpa using k3
      have hkL : k = l.length := by have := of_decide_eq_false hlt; omega
      subst hkL
      have hok : NewOk s l N := ⟨hz, ht, hAK.done (Nat.le_refl _)⟩
      rw [List.take_length] at hlis
      repeat ((conv => whnf); first | apply qza | apply qzb | apply qzc | apply qzd | apply qze | intro (_ : Nat) | intro (_ : Option Addr) (_ : Nat))
      conv => whnf
      refine fun gA kA nA pA => ?_
      repeat ((conv => whnf); first | apply qza | apply qzb | apply qzc | apply qzd | apply qze | intro (_ : Nat) | intro (_ : Option Addr) (_ : Nat))
      conv => whnf
      refine ⟨5, rfl, by unfold maxLen; omega, fun gB kB nB pB => ?_⟩
      repeat ((conv => whnf); first | apply qza | apply qzb | apply qzc | apply qzd | apply qze | intro (_ : Nat) | intro (_ : Option Addr) (_ : Nat))
      conv => whnf
      intro g2 hg
      have mA := GW.trans kA (GW.trans kB hg)
      refine .inl ⟨hok, _, rfl, _, _, _, _, _, rfl, ⟨show InR 0 by decide, show InR 0 by decide, show InR 0 by decide⟩, ?_, ?_, hlis.mono rListen_mono mA, hSh.mono rRow_mono (GW.trans hgg mA), ⟨none, 0, rfl, Nat.le_refl _, Nat.zero_le _, fun _ => ⟨rfl, rfl⟩, fun i x hx => by simp [newW] at hx⟩⟩
      · exact (rSl_of1 pA.rd (List.replicate N 0) (fun x => .int .i64 x) (by simp [List.flatten_replicate_singleton]) fun x hx => ⟨rfl, by rw [List.eq_of_mem_replicate hx]; decide⟩).mono rInt_mono (GW.trans kB hg)
      · refine rSl_of (pB.rd.mono hg) [cellsV s] [[.slice sa (cellsV s).snap.listens.length ta, .slice sb (cellsV s).snap.rules.length tb, .slice sd (cellsV s).snap.clusters.length td, .slice oV nV cV, .bool false]] rfl (fun e he => ?_) rfl rfl fun i x ec hx hec => ?_
        · simp at he; subst he; rfl
        · cases i with
          | zero =>
            simp at hx hec
            subst hx; subst hec
            exact rVe_mono _ _ _ _ (GW.trans hg2 (GW.trans hgg mA)) hV0
          | succ i => simp at hx)
end Go.Proofs.Ytkkhdnddplkobaa


/- Pins: the law's example, first part. -/
namespace Go.Proofs.Ytkkhdnddplkobaa
open Go.Proofs.Ytkkhdnddplkobaa.Sx Go.RowKit
end Go.Proofs.Ytkkhdnddplkobaa


/- Pins: the law's example. -/
namespace Go.Proofs.Ytkkhdnddplkobaa
open Go.Proofs.Ytkkhdnddplkobaa.Sx Go.RowKit
section
variable {g : GW} {cs ms : List Value} {e pc ep : Int} {p : List Int} (hw : rWo g cs (wP e p)) (hM : rMach g ms (mP pc ep)) (he : 0 ≤ e ∧ e ≤ 100) (hl : p.length = 2) (hp : ∀ x ∈ p, 0 ≤ x ∧ x ≤ e + 1)
include hw hM he hl hp
end
end Go.Proofs.Ytkkhdnddplkobaa


/- The law PinOff. -/
namespace Go.Proofs.Ytkkhdnddplkobaa
open Go.Proofs.Ytkkhdnddplkobaa.Sx Go.RowKit
theorem BgW.up {K K' : Nat} {w : Wd} (h : BgW K w) (k : K ≤ K') : BgW K' w := by
  obtain ⟨⟨h1, h2, h3, h4, h5⟩, h6, h7⟩ := h
  refine ⟨⟨by omega, by omega, by omega, by omega, by omega⟩, fun r hr => by have := h6 r hr; omega, fun v hv => ?_⟩
  obtain ⟨a, b⟩ := h7 v hv
  exact ⟨by omega, fun y hy => by have := b y hy; unfold BgG at this ⊢; omega⟩
end Go.Proofs.Ytkkhdnddplkobaa


/- Worlds: how many slots are held. -/
namespace Go.Proofs.Ytkkhdnddplkobaa
open Go.Proofs.Ytkkhdnddplkobaa.Sx Go.RowKit
theorem sum0 {α : Type} (f : α → Int) (l : List α) (s : Int) : s + sumI f (l.take 0) = s := by simp [sumI]
set_option maxHeartbeats 4000000 in
set_option maxRecDepth 100000 in
theorem ok_Held (g : GW) {cs : List Value} {w : Wd} (hw : rWo g cs w) (hb : BgW 1000 w) : Ok Try.prog n_world_Held [.agg ⟨cs⟩] g fun v _ => v = .int .i64 (heldN w) := by
  obtain ⟨a, b, c, d, e, rfl, ⟨i1, i2, i3⟩, hP, hV, hL, hC, hR⟩ := hw
  obtain ⟨oa, ca, rfl, a1, a2, a0, hP1⟩ := id hP
  obtain ⟨ob, cb, rfl, b1, b2, b0, hV1⟩ := id hV
  obtain ⟨oc, cc, rfl, c1, c2, c0, hL1⟩ := id hL
  obtain ⟨od, cd, rfl, d1, d2, d0, hC1⟩ := id hC
  obtain ⟨oe, ce, rfl, e1, e2, e0, hR1⟩ := id hR
  obtain ⟨⟨_, hbv, _, _, _⟩, _, hbV⟩ := hb
  exact Ok.of_fn hm noT 0 t_world_Held (args := [.v (.agg ⟨[.int .i64 w.epoch, .int .i64 w.current, .int .i64 w.lock, .slice oa w.pins.length ca, .slice ob w.versions.length cb, .slice oc w.listens.length cc, .slice od w.counts.length cd, .slice oe w.limbo.length ce]⟩)]) (by
    repeat ((conv => whnf); first | apply qza | apply qzb | apply qzc | apply qzd | apply qze | intro (_ : Nat) | intro (_ : Option Addr) (_ : Nat))
    conv => whnf
    refine ⟨Nat × GW, fun (i, _) => [.v (.int .i64 (0 + sumI heldV (w.versions.take i))), .v (.int .i64 i)], fun (_, g') => ⟨g', _, _, _⟩, fun (i, g') => i ≤ w.versions.length ∧ g ≤ g', fun (i, _) => w.versions.length - i, loop_here (0, g) (congrArg (fun z => [Value.int .i64 z, .int .i64 0]) (sum0 _ _ _)) ⟨Nat.zero_le _, GW.refl _⟩ rfl, ?_⟩
    rintro ⟨i, g1⟩ ⟨hi, hg1⟩
    have hS := sumI_take_bd (f := heldV) (c := 4 * 1000 * 1000) (l := w.versions) (fun y hy => heldV_bd (hbV y hy)) i
    have hSl : (w.versions.take i).length ≤ 1000 := by rw [List.length_take]; omega
    repeat ((conv => whnf); first | apply qza | apply qzb | apply qzc | apply qzd | apply qze | intro (_ : Nat) | intro (_ : Option Addr) (_ : Nat))
    conv => whnf
    refine ⟨fun y1 => ?_, fun y1 => ?_⟩
    · have h' : i < w.versions.length := by have h9 : (i : Int) < w.versions.length := of_decide_eq_true y1; omega
      obtain ⟨v, hv⟩ := getL_of h'
      have hvb := hbV v (List.mem_of_getElem? hv)
      obtain ⟨ad, rfl, ec, hec, ⟨va, vb, vd, vn, rfl, hsn, hG⟩, hc⟩ := hV1 i v hv
      obtain ⟨og, cg, rfl, p1, p2, p0, hG1⟩ := id hG
      obtain ⟨_, _, _, he2, ⟨sa, ta, rfl, _⟩, ⟨sb, tb, rfl, _⟩, ⟨sd, td, rfl, _⟩⟩ := hsn
      cases he2
      repeat ((conv => whnf); first | apply qza | apply qzb | apply qzc | apply qzd | apply qze | intro (_ : Nat) | intro (_ : Option Addr) (_ : Nat))
      conv => whnf
      refine ⟨_, rfl, ⟨by show (0 : Int) ≤ i; omega, by show (i : Int) < w.versions.length; omega⟩, ?_⟩
      repeat ((conv => whnf); first | apply qza | apply qzb | apply qzc | apply qzd | apply qze | intro (_ : Nat) | intro (_ : Option Addr) (_ : Nat))
      conv => whnf
      refine ⟨_, ⟨rfl, hc.mono hg1⟩, ?_⟩
      repeat ((conv => whnf); first | apply qza | apply qzb | apply qzc | apply qzd | apply qze | intro (_ : Nat) | intro (_ : Option Addr) (_ : Nat))
      conv => whnf
      refine ⟨Nat × GW, fun (j, _) => [.v (.int .i64 (0 + sumI heldV (w.versions.take i) + sumI heldG (v.groups.take j))), .v (.int .i64 j)], fun (_, g') => ⟨g', _, _, _⟩, fun (j, g') => j ≤ v.groups.length ∧ g1 ≤ g', fun (j, _) => v.groups.length - j, loop_here (0, g1) (congrArg (fun z => [Value.int .i64 z, .int .i64 0]) (sum0 _ _ _)) ⟨Nat.zero_le _, GW.refl _⟩ rfl, ?_⟩
      rintro ⟨j, g2⟩ ⟨hj, hg2⟩
      have hT := sumI_take_bd (f := heldG) (c := 4 * 1000) (l := v.groups) (fun y hy => heldG_bd (hvb.2 y hy)) j
      have hTl : (v.groups.take j).length ≤ 1000 := by have := hvb.1; rw [List.length_take]; omega
      repeat ((conv => whnf); first | apply qza | apply qzb | apply qzc | apply qzd | apply qze | intro (_ : Nat) | intro (_ : Option Addr) (_ : Nat))
      conv => whnf
      refine ⟨fun y2 => ?_, fun y2 => ?_⟩
      · have h2 : j < v.groups.length := by have h9 : (j : Int) < v.groups.length := of_decide_eq_true y2; omega
        obtain ⟨x, hx⟩ := getL_of h2
        have hxb := hvb.2 x (List.mem_of_getElem? hx)
        obtain ⟨ag, rfl, ecg, hecg, ⟨xn, rfl, hti, hE⟩, hcg⟩ := hG1 j x hx
        obtain ⟨on, cn, rfl, r1, r2, r0, hE1⟩ := id hE
        repeat ((conv => whnf); first | apply qza | apply qzb | apply qzc | apply qzd | apply qze | intro (_ : Nat) | intro (_ : Option Addr) (_ : Nat))
        conv => whnf
        refine ⟨_, rfl, ⟨by show (0 : Int) ≤ j; omega, by show (j : Int) < v.groups.length; omega⟩, ?_⟩
        repeat ((conv => whnf); first | apply qza | apply qzb | apply qzc | apply qzd | apply qze | intro (_ : Nat) | intro (_ : Option Addr) (_ : Nat))
        conv => whnf
        refine ⟨_, ⟨rfl, hcg.mono (GW.trans hg1 hg2)⟩, ?_⟩
        repeat ((conv => whnf); first | apply qza | apply qzb | apply qzc | apply qzd | apply qze | intro (_ : Nat) | intro (_ : Option Addr) (_ : Nat))
        conv => whnf
        refine ⟨Nat × GW, fun (k, _) => [.v (.int .i64 (0 + sumI heldV (w.versions.take i) + sumI heldG (v.groups.take j) + sumI heldE (x.ends.take k))), .v (.int .i64 k)], fun (_, g') => ⟨g', _, _, _⟩, fun (k, g') => k ≤ x.ends.length ∧ g2 ≤ g', fun (k, _) => x.ends.length - k, loop_here (0, g2) (congrArg (fun z => [Value.int .i64 z, .int .i64 0]) (sum0 _ _ _)) ⟨Nat.zero_le _, GW.refl _⟩ rfl, ?_⟩
        rintro ⟨k, g3⟩ ⟨hk, hg3⟩
        have hU := sumI_take_bd (f := heldE) (c := 4) (l := x.ends) (fun y _ => heldE_bd y) k
        have hUl : (x.ends.take k).length ≤ 1000 := by unfold BgG at hxb; rw [List.length_take]; omega
        repeat ((conv => whnf); first | apply qza | apply qzb | apply qzc | apply qzd | apply qze | intro (_ : Nat) | intro (_ : Option Addr) (_ : Nat))
        conv => whnf
        refine ⟨fun y3 => ?_, fun y3 => ?_⟩
        · have h3 : k < x.ends.length := by have h9 : (k : Int) < x.ends.length := of_decide_eq_true y3; omega
          obtain ⟨en, hen⟩ := getL_of h3
          obtain ⟨ae, rfl, ece, hece, hEn, hce⟩ := hE1 k en hen
          have hEn0 := hEn
          obtain ⟨⟨n, rfl, hH, hA, hN⟩, hsz⟩ := hEn0
          obtain ⟨ox, cx, rfl, s1, s2, s0, hN1⟩ := id hN
          have hg03 := GW.trans hg1 (GW.trans hg2 hg3)
          repeat ((conv => whnf); first | apply qza | apply qzb | apply qzc | apply qzd | apply qze | intro (_ : Nat) | intro (_ : Option Addr) (_ : Nat))
          conv => whnf
          refine ⟨_, rfl, ⟨by show (0 : Int) ≤ k; omega, by show (k : Int) < x.ends.length; omega⟩, ?_⟩
          repeat ((conv => whnf); first | apply qza | apply qzb | apply qzc | apply qzd | apply qze | intro (_ : Nat) | intro (_ : Option Addr) (_ : Nat))
          conv => whnf
          refine ⟨_, ⟨rfl, hce.mono hg03⟩, ?_⟩
          repeat ((conv => whnf); first | apply qza | apply qzb | apply qzc | apply qzd | apply qze | intro (_ : Nat) | intro (_ : Option Addr) (_ : Nat))
          refine .inr ((ok_sFree _ (rEn_mono _ _ _ _ hg03 hEn)).mono fun v' g4 hg4 hF => ?_)
          have hst := sumI_take heldE hen
          have hbd := heldE_bd en
          have hgo : ∀ z : Int, z = heldE en → [Value.int .i64 (0 + sumI heldV (w.versions.take i) + sumI heldG (v.groups.take j) + sumI heldE (x.ends.take (k + 1))), Value.int .i64 ((k + 1 : Nat) : Int)] = [Value.int .i64 (0 + sumI heldV (w.versions.take i) + sumI heldG (v.groups.take j) + sumI heldE (x.ends.take k) + z), Value.int .i64 (IntKind.i64.wrap ((k : Int) + 1))] := fun z hz => by
            rw [hst, hz, wr (x := (k : Int) + 1) (by unfold InR; unfold maxLen at r2; omega)]
            simp only [Int.add_assoc, Int.natCast_add, Int.natCast_one]
          unfold FreeP at hF
          cases hf : freeL en with
          | none =>
            rw [hf] at hF
            subst hF
            have hbF : endB en = false := by unfold endB; rw [hf]; rfl
            have hz : heldE en = 0 := by unfold heldE; rw [hbF]; rfl
            repeat ((conv => whnf); first | apply qza | apply qzb | apply qzc | apply qzd | apply qze | intro (_ : Nat) | intro (_ : Option Addr) (_ : Nat))
            conv => whnf
            refine .inl ⟨_, (ok_sIsE _ (rEn_mono _ _ _ _ (GW.trans hg03 hg4) hEn)).to (congrArg Value.bool hbF), ?_⟩
            repeat ((conv => whnf); first | apply qza | apply qzb | apply qzc | apply qzd | apply qze | intro (_ : Nat) | intro (_ : Option Addr) (_ : Nat))
            conv => whnf
            refine ⟨fun h => (nomatch h), fun _ => ?_⟩
            repeat ((conv => whnf); first | apply qza | apply qzb | apply qzc | apply qzd | apply qze | intro (_ : Nat) | intro (_ : Option Addr) (_ : Nat))
            conv => whnf
            refine fun fr u hu => ⟨(k + 1, g4), (hgo 0 hz.symm).trans (congrArg (fun z => [Value.int .i64 z, Value.int .i64 (IntKind.i64.wrap ((k : Int) + 1))]) (Int.add_zero _)), ⟨h3, GW.trans hg3 hg4⟩, by show x.ends.length - (k + 1) < x.ends.length - k; omega, hu.fit (by simp [fitL, Res.eqv, concL, conc])⟩
          | some l =>
            rw [hf] at hF
            obtain ⟨oF, cF, rfl, hF⟩ := hF
            have hll := free_len hf
            repeat ((conv => whnf); first | apply qza | apply qzb | apply qzc | apply qzd | apply qze | intro (_ : Nat) | intro (_ : Option Addr) (_ : Nat))
            conv => whnf
            refine .inl ⟨_, (ok_sIsE _ (rEn_mono _ _ _ _ (GW.trans hg03 hg4) hEn)), ?_⟩
            repeat ((conv => whnf); first | apply qza | apply qzb | apply qzc | apply qzd | apply qze | intro (_ : Nat) | intro (_ : Option Addr) (_ : Nat))
            conv => whnf
            refine ⟨fun y4 => ?_, fun y4 => ?_⟩
            · have hbT : endB en = true := y4
              have hz : heldE en = en.next.length - (l.length : Nat) := by unfold heldE; rw [hbT, hf]; rfl
              repeat ((conv => whnf); first | apply qza | apply qzb | apply qzc | apply qzd | apply qze | intro (_ : Nat) | intro (_ : Option Addr) (_ : Nat))
              conv => whnf
              refine fun fr u hu => ⟨(k + 1, g4), (hgo _ hz.symm).trans (congrArg (fun z => [Value.int .i64 z, Value.int .i64 (IntKind.i64.wrap ((k : Int) + 1))]) (by rw [wr (x := (en.next.length : Int) - l.length) (by unfold InR; omega), wr (x := 0 + sumI heldV (w.versions.take i) + sumI heldG (v.groups.take j) + sumI heldE (x.ends.take k) + ((en.next.length : Int) - l.length)) (by unfold InR; omega)])), ⟨h3, GW.trans hg3 hg4⟩, by show x.ends.length - (k + 1) < x.ends.length - k; omega, hu.fit (by simp [fitL, Res.eqv, concL, conc])⟩
            · have hbF : endB en = false := y4
              have hz : heldE en = 0 := by unfold heldE; rw [hbF]; rfl
              repeat ((conv => whnf); first | apply qza | apply qzb | apply qzc | apply qzd | apply qze | intro (_ : Nat) | intro (_ : Option Addr) (_ : Nat))
              conv => whnf
              refine fun fr u hu => ⟨(k + 1, g4), (hgo 0 hz.symm).trans (congrArg (fun z => [Value.int .i64 z, Value.int .i64 (IntKind.i64.wrap ((k : Int) + 1))]) (Int.add_zero _)), ⟨h3, GW.trans hg3 hg4⟩, by show x.ends.length - (k + 1) < x.ends.length - k; omega, hu.fit (by simp [fitL, Res.eqv, concL, conc])⟩
        have hkL : k = x.ends.length := by have h9 : ¬ (k : Int) < x.ends.length := of_decide_eq_false y3; omega
        subst hkL
        repeat ((conv => whnf); first | apply qza | apply qzb | apply qzc | apply qzd | apply qze | intro (_ : Nat) | intro (_ : Option Addr) (_ : Nat))
        conv => whnf
        refine fun fr u hu => ⟨(j + 1, g3), (show [Value.int .i64 (0 + sumI heldV (w.versions.take i) + sumI heldG (v.groups.take (j + 1))), Value.int .i64 ((j + 1 : Nat) : Int)] = [Value.int .i64 (0 + sumI heldV (w.versions.take i) + sumI heldG (v.groups.take j) + sumI heldE (x.ends.take x.ends.length)), Value.int .i64 (IntKind.i64.wrap ((j : Int) + 1))] by rw [sumI_take heldG hx, wr (x := (j : Int) + 1) (by unfold InR; unfold maxLen at p2; omega), List.take_length]; simp only [Int.add_assoc, Int.natCast_add, Int.natCast_one]; rfl), ⟨h2, GW.trans hg2 hg3⟩, by show v.groups.length - (j + 1) < v.groups.length - j; omega, hu.fit (by simp [fitL, Res.eqv, concL, conc])⟩
      have hjL : j = v.groups.length := by have h9 : ¬ (j : Int) < v.groups.length := of_decide_eq_false y2; omega
      subst hjL
      repeat ((conv => whnf); first | apply qza | apply qzb | apply qzc | apply qzd | apply qze | intro (_ : Nat) | intro (_ : Option Addr) (_ : Nat))
      conv => whnf
      refine fun fr u hu => ⟨(i + 1, g2), (show [Value.int .i64 (0 + sumI heldV (w.versions.take (i + 1))), Value.int .i64 ((i + 1 : Nat) : Int)] = [Value.int .i64 (0 + sumI heldV (w.versions.take i) + sumI heldG (v.groups.take v.groups.length)), Value.int .i64 (IntKind.i64.wrap ((i : Int) + 1))] by rw [sumI_take heldV hv, wr (x := (i : Int) + 1) (by unfold InR; unfold maxLen at b2; omega), List.take_length]; simp only [Int.add_assoc, Int.natCast_add, Int.natCast_one]; rfl), ⟨h', GW.trans hg1 hg2⟩, by show w.versions.length - (i + 1) < w.versions.length - i; omega, hu.fit (by simp [fitL, Res.eqv, concL, conc])⟩
    have hiL : i = w.versions.length := by have h9 : ¬ (i : Int) < w.versions.length := of_decide_eq_false y1; omega
    subst hiL
    repeat ((conv => whnf); first | apply qza | apply qzb | apply qzc | apply qzd | apply qze | intro (_ : Nat) | intro (_ : Option Addr) (_ : Nat))
    conv => whnf
    intro g2 hg
    show Value.int .i64 (0 + sumI heldV (w.versions.take w.versions.length)) = _
    rw [List.take_length, Int.zero_add]; rfl)
end Go.Proofs.Ytkkhdnddplkobaa

