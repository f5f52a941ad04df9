/- What came in of worlds and machines is plain data. -/
import Derived.Test.YtjaeeadfmnokeaaGreatLW9w
import Derived.Test.YtjaeeadfmnokeaaGreatPl
namespace Go.Proofs.YtjaeeadfmnokeaaGreat
open Go.Proofs.YtjaeeadfmnokeaaGreat.Sx
section
variable {H : Type} {enc : TypeId × Value → H} {W : World}
theorem op_api_Listen : Rds enc Tryz.prog W ty_api_Listen rListen := by
  intro fuel cs x h
  obtain ⟨hl, hg⟩ := fld_at (l := [(0, 1, ty_string), (1, 1, ty_bool), (2, 1, ty_int), (3, 1, ty_bool)]) (by kernel_rfl) h
  rw [show Tryz.prog.cellsOf ty_api_Listen = 4 by kernel_rfl] at hl
  match cs, hl with
  | [a, b, c, d], _ =>
    obtain ⟨s0, e0⟩ := (rd_str (by kernel_rfl)).fld (hg 0 _ _ _ rfl)
    obtain ⟨s1, e1⟩ := (rd_bool (by kernel_rfl)).fld (hg 1 _ _ _ rfl)
    obtain ⟨s2, e2, w2⟩ := (rd_int (by kernel_rfl)).fld (hg 2 _ _ _ rfl)
    obtain ⟨s3, e3⟩ := (rd_bool (by kernel_rfl)).fld (hg 3 _ _ _ rfl)
    cases e0; cases e1; cases e2; cases e3
    exact ⟨⟨s0, s1, s2, s3⟩, rfl, w2⟩
theorem op_api_Retired : Rds enc Tryz.prog W ty_api_Retired rRetired := by
  intro fuel cs x h
  obtain ⟨hl, hg⟩ := fld_at (l := [(0, 1, ty_int), (1, 1, ty_int), (2, 1, ty_bool)]) (by kernel_rfl) h
  rw [show Tryz.prog.cellsOf ty_api_Retired = 3 by kernel_rfl] at hl
  match cs, hl with
  | [a, b, c], _ =>
    obtain ⟨s0, e0, w0⟩ := (rd_int (by kernel_rfl)).fld (hg 0 _ _ _ rfl)
    obtain ⟨s1, e1, w1⟩ := (rd_int (by kernel_rfl)).fld (hg 1 _ _ _ rfl)
    obtain ⟨s2, e2⟩ := (rd_bool (by kernel_rfl)).fld (hg 2 _ _ _ rfl)
    cases e0; cases e1; cases e2
    exact ⟨⟨s0, s1, s2⟩, rfl, w0, w1⟩
theorem op_api_End : RdsW enc Tryz.prog W ty_api_End rEn := by
  intro fuel cs x h hs
  obtain ⟨hl, hg⟩ := fldW_at (l := [(0, 1, ty_uint64), (1, 1, ty_sl_int), (2, 1, ty_int)]) (by kernel_rfl) h hs
  rw [show Tryz.prog.cellsOf ty_api_End = 3 by kernel_rfl] at hl
  match cs, hl with
  | [a, b, c], _ =>
    obtain ⟨s0, e0, w0⟩ := (rd_u64 (by kernel_rfl)).fld (tr1 (hg 0 _ _ _ rfl))
    obtain ⟨s1, v, e1, h1, hb⟩ := (rw_slice (t := ty_sl_int) (e := ty_int) (sz := 1) (by kernel_rfl) (by kernel_rfl) (rd_int (by kernel_rfl)).w).fld (hg 1 _ _ _ rfl)
    obtain ⟨s2, e2, w2⟩ := (rd_int (by kernel_rfl)).fld (tr1 (hg 2 _ _ _ rfl))
    cases e0; cases e1; cases e2
    refine ⟨⟨s0, s1, s2⟩, ⟨_, rfl, w0, w2, h1⟩, ?_⟩
    rw [show Tryz.prog.bytesOf ty_int = 8 by kernel_rfl] at hb
    unfold reachBytes at hb
    show s1.length ≤ 17592186044416
    omega
theorem op_api_Group : RdsW enc Tryz.prog W ty_api_Group rGr := by
  intro fuel cs x h hs
  obtain ⟨hl, hg⟩ := fldW_at (l := [(0, 1, ty_uint64), (1, 1, ty_sl_api_End)]) (by kernel_rfl) h hs
  rw [show Tryz.prog.cellsOf ty_api_Group = 2 by kernel_rfl] at hl
  match cs, hl with
  | [a, b], _ =>
    obtain ⟨s0, e0, w0⟩ := (rd_u64 (by kernel_rfl)).fld (tr1 (hg 0 _ _ _ rfl))
    obtain ⟨s1, v, e1, h1⟩ := (rw_sl (t := ty_sl_api_End) (e := ty_api_End) (sz := 3) (by kernel_rfl) (by kernel_rfl) op_api_End).fld (hg 1 _ _ _ rfl)
    cases e0; cases e1
    exact ⟨⟨s0, s1⟩, _, rfl, w0, h1⟩
theorem op_api_Version : RdsW enc Tryz.prog W ty_api_Version rVe := by
  intro fuel cs x h hs
  obtain ⟨hl, hg⟩ := fldW_at (l := [(0, 3, ty_api_Snap), (3, 1, ty_sl_api_Group), (4, 1, ty_bool)]) (by kernel_rfl) h hs
  rw [show Tryz.prog.cellsOf ty_api_Version = 5 by kernel_rfl] at hl
  match cs, hl with
  | [a, b, c, d, e], _ =>
    obtain ⟨s0, e0⟩ := (op_api_Snap (enc := enc)).fld (tr1 (hg 0 _ _ _ rfl))
    obtain ⟨s1, v, e1, h1⟩ := (rw_sl (t := ty_sl_api_Group) (e := ty_api_Group) (sz := 2) (by kernel_rfl) (by kernel_rfl) op_api_Group).fld (hg 1 _ _ _ rfl)
    obtain ⟨s2, e2⟩ := (rd_bool (by kernel_rfl)).fld (tr1 (hg 2 _ _ _ rfl))
    cases e1; cases e2
    exact ⟨⟨s0, s1, s2⟩, _, _, _, _, rfl, e0, h1⟩
theorem op_row : Rds enc Tryz.prog W ty_sl_uint64 rRow := by
  intro fuel cs x h
  obtain ⟨l, v, rfl, h1⟩ := (rd_slice (t := ty_sl_uint64) (e := ty_uint64) (sz := 1) (by kernel_rfl) (by kernel_rfl) (by omega) (rd_u64 (by kernel_rfl))) fuel cs x h
  exact ⟨l, _, rfl, h1⟩
theorem op_api_World : RdsW enc Tryz.prog W ty_api_World rWo := by
  intro fuel cs x h hs
  obtain ⟨hl, hg⟩ := fldW_at (l := [(0, 1, ty_int), (1, 1, ty_int), (2, 1, ty_int), (3, 1, ty_sl_int), (4, 1, ty_sl_api_Version), (5, 1, ty_sl_api_Listen), (6, 1, ty_slsl_uint64), (7, 1, ty_sl_api_Retired)]) (by kernel_rfl) h hs
  rw [show Tryz.prog.cellsOf ty_api_World = 8 by kernel_rfl] at hl
  match cs, hl with
  | [c0, c1, c2, c3, c4, c5, c6, c7], _ =>
    obtain ⟨s0, e0, w0⟩ := (rd_int (by kernel_rfl)).fld (tr1 (hg 0 _ _ _ rfl))
    obtain ⟨s1, e1, w1⟩ := (rd_int (by kernel_rfl)).fld (tr1 (hg 1 _ _ _ rfl))
    obtain ⟨s2, e2, w2⟩ := (rd_int (by kernel_rfl)).fld (tr1 (hg 2 _ _ _ rfl))
    obtain ⟨s3, v3, e3, h3⟩ := (rd_slice (t := ty_sl_int) (e := ty_int) (sz := 1) (by kernel_rfl) (by kernel_rfl) (by omega) (rd_int (by kernel_rfl))).fld (tr1 (hg 3 _ _ _ rfl))
    obtain ⟨s4, v4, e4, h4⟩ := (rw_sl (t := ty_sl_api_Version) (e := ty_api_Version) (sz := 5) (by kernel_rfl) (by kernel_rfl) op_api_Version).fld (hg 4 _ _ _ rfl)
    obtain ⟨s5, v5, e5, h5⟩ := (rd_slice (t := ty_sl_api_Listen) (e := ty_api_Listen) (sz := 4) (by kernel_rfl) (by kernel_rfl) (by omega) op_api_Listen).fld (tr1 (hg 5 _ _ _ rfl))
    obtain ⟨s6, v6, e6, h6⟩ := (rd_slice (t := ty_slsl_uint64) (e := ty_sl_uint64) (sz := 1) (by kernel_rfl) (by kernel_rfl) (by omega) op_row).fld (tr1 (hg 6 _ _ _ rfl))
    obtain ⟨s7, v7, e7, h7⟩ := (rd_slice (t := ty_sl_api_Retired) (e := ty_api_Retired) (sz := 3) (by kernel_rfl) (by kernel_rfl) (by omega) op_api_Retired).fld (tr1 (hg 7 _ _ _ rfl))
    cases e0; cases e1; cases e2; cases e3; cases e4; cases e5; cases e6; cases e7
    exact ⟨⟨s0, s1, s2, s3, s4, s5, s6, s7⟩, _, _, _, _, _, rfl, ⟨w0, w1, w2⟩, h3, h4, h5, h6, h7⟩
theorem op_c6 : Rds enc Tryz.prog W ty_a6_uint64 fun _ cs (c : C6) => cs = c.cs ∧ c.ok := rd_c6 (e := ty_uint64) (by kernel_rfl) (by kernel_rfl) (by kernel_rfl) (by kernel_rfl)
theorem op_api_Answer : Rds enc Tryz.prog W ty_api_Answer rAns := by
  intro fuel cs x h
  obtain ⟨hl, hg⟩ := fld_at (l := [(0, 1, ty_int), (1, 1, ty_int), (2, 1, ty_int), (3, 1, ty_int), (4, 1, ty_int), (5, 1, ty_int), (6, 1, ty_int), (7, 6, ty_a6_uint64)]) (by kernel_rfl) h
  rw [show Tryz.prog.cellsOf ty_api_Answer = 13 by kernel_rfl] at hl
  match cs, hl with
  | [c0, c1, c2, c3, c4, c5, c6, d0, d1, d2, d3, d4, d5], _ =>
    obtain ⟨s0, e0, w0⟩ := (rd_int (by kernel_rfl)).fld (hg 0 _ _ _ rfl)
    obtain ⟨s1, e1, w1⟩ := (rd_int (by kernel_rfl)).fld (hg 1 _ _ _ rfl)
    obtain ⟨s2, e2, w2⟩ := (rd_int (by kernel_rfl)).fld (hg 2 _ _ _ rfl)
    obtain ⟨s3, e3, w3⟩ := (rd_int (by kernel_rfl)).fld (hg 3 _ _ _ rfl)
    obtain ⟨s4, e4, w4⟩ := (rd_int (by kernel_rfl)).fld (hg 4 _ _ _ rfl)
    obtain ⟨s5, e5, w5⟩ := (rd_int (by kernel_rfl)).fld (hg 5 _ _ _ rfl)
    obtain ⟨s6, e6, w6⟩ := (rd_int (by kernel_rfl)).fld (hg 6 _ _ _ rfl)
    obtain ⟨s7, e7, w7⟩ := (op_c6 (enc := enc)).fld (hg 7 _ _ _ rfl)
    cases e0; cases e1; cases e2; cases e3; cases e4; cases e5; cases e6; cases e7
    exact ⟨⟨s0, s1, s2, s3, s4, s5, s6, s7⟩, rfl, ⟨w0, w1, w2, w3, w4, w5, w6, w7⟩⟩
theorem op_api_Op : Rds enc Tryz.prog W ty_api_Op fun g cs (o : OpD) => ∃ a b d, cs = [.int .i64 o.kind, .string o.listen, .string o.host, .string o.path, .int .i64 o.d0, .int .i64 o.d1, .int .i64 o.n, a, b, d] ∧ (InR o.kind ∧ InR o.d0 ∧ InR o.d1 ∧ InR o.n) ∧ rConfig g [a, b, d] o.config := by
  intro fuel cs x h
  obtain ⟨hl, hg⟩ := fld_at (l := [(0, 1, ty_int), (1, 1, ty_string), (2, 1, ty_string), (3, 1, ty_string), (4, 1, ty_int), (5, 1, ty_int), (6, 1, ty_int), (7, 3, ty_api_Config)]) (by kernel_rfl) h
  rw [show Tryz.prog.cellsOf ty_api_Op = 10 by kernel_rfl] at hl
  match cs, hl with
  | [c0, c1, c2, c3, c4, c5, c6, d0, d1, d2], _ =>
    obtain ⟨s0, e0, w0⟩ := (rd_int (by kernel_rfl)).fld (hg 0 _ _ _ rfl)
    obtain ⟨s1, e1⟩ := (rd_str (by kernel_rfl)).fld (hg 1 _ _ _ rfl)
    obtain ⟨s2, e2⟩ := (rd_str (by kernel_rfl)).fld (hg 2 _ _ _ rfl)
    obtain ⟨s3, e3⟩ := (rd_str (by kernel_rfl)).fld (hg 3 _ _ _ rfl)
    obtain ⟨s4, e4, w4⟩ := (rd_int (by kernel_rfl)).fld (hg 4 _ _ _ rfl)
    obtain ⟨s5, e5, w5⟩ := (rd_int (by kernel_rfl)).fld (hg 5 _ _ _ rfl)
    obtain ⟨s6, e6, w6⟩ := (rd_int (by kernel_rfl)).fld (hg 6 _ _ _ rfl)
    obtain ⟨s7, e7⟩ := (op_api_Config (enc := enc)).fld (hg 7 _ _ _ rfl)
    cases e0; cases e1; cases e2; cases e3; cases e4; cases e5; cases e6
    exact ⟨⟨s0, s1, s2, s3, s4, s5, s6, s7⟩, _, _, _, rfl, ⟨w0, w4, w5, w6⟩, e7⟩
theorem op_api_Machine : Rds enc Tryz.prog W ty_api_Machine rMach := by
  intro fuel cs x h
  obtain ⟨hl, hg⟩ := fld_at (l := [(0, 10, ty_api_Op), (10, 1, ty_int), (11, 1, ty_int), (12, 1, ty_int), (13, 1, ty_int), (14, 1, ty_int), (15, 1, ty_int), (16, 1, ty_int), (17, 1, ty_int), (18, 1, ty_int), (19, 1, ty_uint64), (20, 1, ty_int), (21, 1, ty_int), (22, 1, ty_int), (23, 1, ty_int), (24, 1, ty_bool), (25, 13, ty_api_Answer), (38, 6, ty_a6_uint64)]) (by kernel_rfl) h
  rw [show Tryz.prog.cellsOf ty_api_Machine = 44 by kernel_rfl] at hl
  match cs, hl with
  | p0 :: p1 :: p2 :: p3 :: p4 :: p5 :: p6 :: p7 :: p8 :: p9 :: c10 :: c11 :: c12 :: c13 :: c14 :: c15 :: c16 :: c17 :: c18 :: c19 :: c20 :: c21 :: c22 :: c23 :: c24 :: a0 :: a1 :: a2 :: a3 :: a4 :: a5 :: a6 :: a7 :: a8 :: a9 :: a10 :: a11 :: a12 :: n0 :: n1 :: n2 :: n3 :: n4 :: n5 :: [], _ =>
    obtain ⟨s0, xa, xb, xd, e0, w0, hc⟩ := (op_api_Op (enc := enc)).fld (hg 0 _ _ _ rfl)
    obtain ⟨s1, e1, w1⟩ := (rd_int (by kernel_rfl)).fld (hg 1 _ _ _ rfl)
    obtain ⟨s2, e2, w2⟩ := (rd_int (by kernel_rfl)).fld (hg 2 _ _ _ rfl)
    obtain ⟨s3, e3, w3⟩ := (rd_int (by kernel_rfl)).fld (hg 3 _ _ _ rfl)
    obtain ⟨s4, e4, w4⟩ := (rd_int (by kernel_rfl)).fld (hg 4 _ _ _ rfl)
    obtain ⟨s5, e5, w5⟩ := (rd_int (by kernel_rfl)).fld (hg 5 _ _ _ rfl)
    obtain ⟨s6, e6, w6⟩ := (rd_int (by kernel_rfl)).fld (hg 6 _ _ _ rfl)
    obtain ⟨s7, e7, w7⟩ := (rd_int (by kernel_rfl)).fld (hg 7 _ _ _ rfl)
    obtain ⟨s8, e8, w8⟩ := (rd_int (by kernel_rfl)).fld (hg 8 _ _ _ rfl)
    obtain ⟨s9, e9, w9⟩ := (rd_int (by kernel_rfl)).fld (hg 9 _ _ _ rfl)
    obtain ⟨s10, e10, w10⟩ := (rd_u64 (by kernel_rfl)).fld (hg 10 _ _ _ rfl)
    obtain ⟨s11, e11, w11⟩ := (rd_int (by kernel_rfl)).fld (hg 11 _ _ _ rfl)
    obtain ⟨s12, e12, w12⟩ := (rd_int (by kernel_rfl)).fld (hg 12 _ _ _ rfl)
    obtain ⟨s13, e13, w13⟩ := (rd_int (by kernel_rfl)).fld (hg 13 _ _ _ rfl)
    obtain ⟨s14, e14, w14⟩ := (rd_int (by kernel_rfl)).fld (hg 14 _ _ _ rfl)
    obtain ⟨s15, e15⟩ := (rd_bool (by kernel_rfl)).fld (hg 15 _ _ _ rfl)
    obtain ⟨s16, e16, w16⟩ := (op_api_Answer (enc := enc)).fld (hg 16 _ _ _ rfl)
    obtain ⟨s17, e17, w17⟩ := (op_c6 (enc := enc)).fld (hg 17 _ _ _ rfl)
    cases e0; cases e1; cases e2; cases e3; cases e4; cases e5; cases e6; cases e7; cases e8; cases e9; cases e10; cases e11; cases e12; cases e13; cases e14; cases e15; cases e16; cases e17
    exact ⟨⟨s0, s1, s2, s3, s4, s5, s6, s7, s8, s9, s10, s11, s12, s13, s14, s15, s16, s17⟩, _, _, _, rfl, ⟨w1, w2, w3, w4, w5, w6, w7, w8, w9, w10, w11, w12, w13, w14, w16, w17⟩, w0, hc⟩
end
end Go.Proofs.YtjaeeadfmnokeaaGreat

