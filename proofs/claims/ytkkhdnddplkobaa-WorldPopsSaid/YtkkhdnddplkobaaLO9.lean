/- What came in of worlds and machines is plain data. -/
import Derived.Test.YtkkhdnddplkobaaLW9w2
import Derived.Test.YtkkhdnddplkobaaPl
namespace Go.Proofs.Ytkkhdnddplkobaa
open Go.Proofs.Ytkkhdnddplkobaa.Sx
section
variable {H : Type} {enc : TypeId × Value → H} {W : World}
theorem op_api_Listen : Rds enc Try.prog W ty_api_Listen rListen := by
  intro fuel cs x h
  obtain ⟨hl, hg⟩ := fld_at (l := [(0, 1, ty_string), (1, 1, ty_bool), (2, 1, ty_int), (3, 1, ty_bool)]) (by kernel_rfl) h
  rw [show Try.prog.cellsOf ty_api_Listen = 4 by kernel_rfl] at hl
  match cs, hl with
  | [a, b, c, d], _ =>
    obtain ⟨s0, e0⟩ := (rd_str (by kernel_rfl)).fld (hg 0 _ _ _ rfl)
    obtain ⟨s1, e1⟩ := (rd_bool (by kernel_rfl)).fld (hg 1 _ _ _ rfl)
    obtain ⟨s2, e2, w2⟩ := (rd_int (by kernel_rfl)).fld (hg 2 _ _ _ rfl)
    obtain ⟨s3, e3⟩ := (rd_bool (by kernel_rfl)).fld (hg 3 _ _ _ rfl)
    cases e0; cases e1; cases e2; cases e3
    exact ⟨⟨s0, s1, s2, s3⟩, rfl, w2⟩
theorem op_api_Retired : Rds enc Try.prog W ty_api_Retired rRetired := by
  intro fuel cs x h
  obtain ⟨hl, hg⟩ := fld_at (l := [(0, 1, ty_int), (1, 1, ty_int), (2, 1, ty_bool)]) (by kernel_rfl) h
  rw [show Try.prog.cellsOf ty_api_Retired = 3 by kernel_rfl] at hl
  match cs, hl with
  | [a, b, c], _ =>
    obtain ⟨s0, e0, w0⟩ := (rd_int (by kernel_rfl)).fld (hg 0 _ _ _ rfl)
    obtain ⟨s1, e1, w1⟩ := (rd_int (by kernel_rfl)).fld (hg 1 _ _ _ rfl)
    obtain ⟨s2, e2⟩ := (rd_bool (by kernel_rfl)).fld (hg 2 _ _ _ rfl)
    cases e0; cases e1; cases e2
    exact ⟨⟨s0, s1, s2⟩, rfl, w0, w1⟩
theorem op_api_End : RdsW enc Try.prog W ty_api_End rEn := by
  intro fuel cs x h hs
  obtain ⟨hl, hg⟩ := fldW_at (l := [(0, 1, ty_uint64), (1, 1, ty_sl_int), (2, 1, ty_int)]) (by kernel_rfl) h hs
  rw [show Try.prog.cellsOf ty_api_End = 3 by kernel_rfl] at hl
  match cs, hl with
  | [a, b, c], _ =>
    obtain ⟨s0, e0, w0⟩ := (rd_u64 (by kernel_rfl)).fld (tr1 (hg 0 _ _ _ rfl))
    obtain ⟨s1, v, e1, h1, hb⟩ := (rw_slice (t := ty_sl_int) (e := ty_int) (sz := 1) (by kernel_rfl) (by kernel_rfl) (rd_int (by kernel_rfl)).w).fld (hg 1 _ _ _ rfl)
    obtain ⟨s2, e2, w2⟩ := (rd_int (by kernel_rfl)).fld (tr1 (hg 2 _ _ _ rfl))
    cases e0; cases e1; cases e2
    refine ⟨⟨s0, s1, s2⟩, ⟨_, rfl, w0, w2, h1⟩, ?_⟩
    rw [show Try.prog.bytesOf ty_int = 8 by kernel_rfl] at hb
    unfold reachBytes at hb
    show s1.length ≤ 17592186044416
    omega
theorem op_api_Group : RdsW enc Try.prog W ty_api_Group rGr := by
  intro fuel cs x h hs
  obtain ⟨hl, hg⟩ := fldW_at (l := [(0, 1, ty_uint64), (1, 1, ty_sl_api_End)]) (by kernel_rfl) h hs
  rw [show Try.prog.cellsOf ty_api_Group = 2 by kernel_rfl] at hl
  match cs, hl with
  | [a, b], _ =>
    obtain ⟨s0, e0, w0⟩ := (rd_u64 (by kernel_rfl)).fld (tr1 (hg 0 _ _ _ rfl))
    obtain ⟨s1, v, e1, h1⟩ := (rw_sl (t := ty_sl_api_End) (e := ty_api_End) (sz := 3) (by kernel_rfl) (by kernel_rfl) op_api_End).fld (hg 1 _ _ _ rfl)
    cases e0; cases e1
    exact ⟨⟨s0, s1⟩, _, rfl, w0, h1⟩
theorem op_api_Version : RdsW enc Try.prog W ty_api_Version rVe := by
  intro fuel cs x h hs
  obtain ⟨hl, hg⟩ := fldW_at (l := [(0, 3, ty_api_Snap), (3, 1, ty_sl_api_Group), (4, 1, ty_bool)]) (by kernel_rfl) h hs
  rw [show Try.prog.cellsOf ty_api_Version = 5 by kernel_rfl] at hl
  match cs, hl with
  | [a, b, c, d, e], _ =>
    obtain ⟨s0, e0⟩ := (op_api_Snap (enc := enc)).fld (tr1 (hg 0 _ _ _ rfl))
    obtain ⟨s1, v, e1, h1⟩ := (rw_sl (t := ty_sl_api_Group) (e := ty_api_Group) (sz := 2) (by kernel_rfl) (by kernel_rfl) op_api_Group).fld (hg 1 _ _ _ rfl)
    obtain ⟨s2, e2⟩ := (rd_bool (by kernel_rfl)).fld (tr1 (hg 2 _ _ _ rfl))
    cases e1; cases e2
    exact ⟨⟨s0, s1, s2⟩, _, _, _, _, rfl, e0, h1⟩
theorem op_row : Rds enc Try.prog W ty_sl_uint64 rRow := by
  intro fuel cs x h
  obtain ⟨l, v, rfl, h1⟩ := (rd_slice (t := ty_sl_uint64) (e := ty_uint64) (sz := 1) (by kernel_rfl) (by kernel_rfl) (by omega) (rd_u64 (by kernel_rfl))) fuel cs x h
  exact ⟨l, _, rfl, h1⟩
theorem op_api_World : RdsW enc Try.prog W ty_api_World rWo := by
  intro fuel cs x h hs
  obtain ⟨hl, hg⟩ := fldW_at (l := [(0, 1, ty_int), (1, 1, ty_int), (2, 1, ty_int), (3, 1, ty_sl_int), (4, 1, ty_sl_api_Version), (5, 1, ty_sl_api_Listen), (6, 1, ty_slsl_uint64), (7, 1, ty_sl_api_Retired)]) (by kernel_rfl) h hs
  rw [show Try.prog.cellsOf ty_api_World = 8 by kernel_rfl] at hl
  match cs, hl with
  | [c0, c1, c2, c3, c4, c5, c6, c7], _ =>
    obtain ⟨s0, e0, w0⟩ := (rd_int (by kernel_rfl)).fld (tr1 (hg 0 _ _ _ rfl))
    obtain ⟨s1, e1, w1⟩ := (rd_int (by kernel_rfl)).fld (tr1 (hg 1 _ _ _ rfl))
    obtain ⟨s2, e2, w2⟩ := (rd_int (by kernel_rfl)).fld (tr1 (hg 2 _ _ _ rfl))
    obtain ⟨s3, v3, e3, h3⟩ := (rd_slice (t := ty_sl_int) (e := ty_int) (sz := 1) (by kernel_rfl) (by kernel_rfl) (by omega) (rd_int (by kernel_rfl))).fld (tr1 (hg 3 _ _ _ rfl))
    obtain ⟨s4, v4, e4, h4⟩ := (rw_sl (t := ty_sl_api_Version) (e := ty_api_Version) (sz := 5) (by kernel_rfl) (by kernel_rfl) op_api_Version).fld (hg 4 _ _ _ rfl)
    obtain ⟨s5, v5, e5, h5⟩ := (rd_slice (t := ty_sl_api_Listen) (e := ty_api_Listen) (sz := 4) (by kernel_rfl) (by kernel_rfl) (by omega) op_api_Listen).fld (tr1 (hg 5 _ _ _ rfl))
    obtain ⟨s6, v6, e6, h6⟩ := (rd_slice (t := ty_slsl_uint64) (e := ty_sl_uint64) (sz := 1) (by kernel_rfl) (by kernel_rfl) (by omega) op_row).fld (tr1 (hg 6 _ _ _ rfl))
    obtain ⟨s7, v7, e7, h7⟩ := (rd_slice (t := ty_sl_api_Retired) (e := ty_api_Retired) (sz := 3) (by kernel_rfl) (by kernel_rfl) (by omega) op_api_Retired).fld (tr1 (hg 7 _ _ _ rfl))
    cases e0; cases e1; cases e2; cases e3; cases e4; cases e5; cases e6; cases e7
    exact ⟨⟨s0, s1, s2, s3, s4, s5, s6, s7⟩, _, _, _, _, _, rfl, ⟨w0, w1, w2⟩, h3, h4, h5, h6, h7⟩
end
end Go.Proofs.Ytkkhdnddplkobaa

