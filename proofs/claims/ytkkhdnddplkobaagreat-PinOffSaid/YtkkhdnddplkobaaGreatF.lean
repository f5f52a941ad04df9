/- The functions, as the evaluator reads them: each is what the given program's code says (checked by the kernel). -/
import Derived.Test.YtkkhdnddplkobaaGreatFp0
namespace Go.Proofs.YtkkhdnddplkobaaGreat
open Go.Proofs.YtkkhdnddplkobaaGreat.Sx
abbrev n_names_word_1 : Nat := 103
theorem k_names_word_1 : FnOk Tryz.prog 103 := FnOk.of (by kernel_rfl)
/-- hydrant/names.word$1 -/
def f_names_word_1 : FnI := ⟨17, [.tmp 2],
 (.seq (.reg [⟨some 2, .mov (.b false), none⟩])
 (.seq (.reg [⟨some 3, .mov (.t 0), none⟩, ⟨some 4, .call 67 [(.t 3)], none⟩, ⟨some 5, .mov (.t 4), none⟩, ⟨some 6, .mov (.t 0), some (5, false)⟩, ⟨some 7, .bini .geq (.t 6) (.c (.int .u8 (48))), some (5, false)⟩, ⟨some 8, .mov (.t 7), some (5, false)⟩, ⟨some 9, .mov (.t 0), some (8, true)⟩, ⟨some 10, .bini .leq (.t 9) (.c (.int .u8 (57))), some (8, true)⟩, ⟨some 11, .pick (.t 8) (.t 10) (.b false), some (5, false)⟩, ⟨some 12, .pick (.t 5) (.b true) (.t 11), none⟩, ⟨some 13, .mov (.t 12), none⟩, ⟨some 14, .mov (.t 0), some (13, false)⟩, ⟨some 15, .bini .eql (.t 14) (.c (.int .u8 (45))), some (13, false)⟩, ⟨some 16, .pick (.t 13) (.b true) (.t 15), none⟩, ⟨some 2, .mov (.t 16), none⟩])
 .ret))⟩
theorem t_names_word_1 : trFn Tryz.prog 103 [] [] = some f_names_word_1 := by kernel_rfl

abbrev n_hydrantref05_listens : Nat := 104
/-- hydrant/hydrantref05.listens -/
def f_hydrantref05_listens : FnI := ⟨38, [.tmp 2, .tmp 3],
 (.seq (.reg [⟨some 1, .box 51 (.t 0), none⟩, ⟨some 2, .mov (.c (.int .i64 (0))), none⟩, ⟨some 3, .mov (.c (.int .i64 (0))), none⟩])
 (.seq (.seq (.reg [⟨some 4, .mov (.c (.int .i64 (0))), none⟩])
 (.block 0
 (.loop [4] [6, 7, 8, 9, 10, 13, 14, 15, 16, 17, 18, 19, 20, 2, 3, 5, 21, 22, 23, 26, 27, 28, 29, 30, 31, 32, 33, 34, 35, 36, 37, 24, 25, 11, 12, 4]
 (.seq (.seq (.reg [⟨some 6, .mov (.t 4), none⟩, ⟨some 7, .fadr 0 (.t 1), none⟩, ⟨some 8, .load false 1 (.t 7), none⟩, ⟨some 9, .len false (.t 8), none⟩, ⟨some 10, .bini .lss (.t 6) (.t 9), none⟩])
 (.cond (.t 10)
 .skip
 (.exit 0)))
 (.seq (.block 1
 (.seq (.seq (.reg [⟨some 13, .fadr 0 (.t 1), none⟩, ⟨some 14, .load false 1 (.t 13), none⟩, ⟨some 15, .mov (.t 4), none⟩, ⟨some 16, .iadr 1 (.t 14) (.t 15), none⟩, ⟨some 17, .load false 1 (.t 16), none⟩, ⟨some 18, .call 34 [(.t 17)], none⟩, ⟨some 19, .not (.t 18), none⟩])
 (.cond (.t 19)
 (.seq (.reg [⟨some 20, .mov (.t 4), none⟩, ⟨some 2, .mov (.c (.int .i64 (3))), none⟩, ⟨some 3, .mov (.t 20), none⟩])
 .ret)
 .skip))
 (.seq (.reg [⟨some 5, .mov (.c (.int .i64 (0))), none⟩])
 (.block 2
 (.loop [5] [21, 22, 23, 26, 27, 28, 29, 30, 31, 32, 33, 34, 35, 36, 37, 2, 3, 24, 25, 5]
 (.seq (.seq (.reg [⟨some 21, .mov (.t 5), none⟩, ⟨some 22, .mov (.t 4), none⟩, ⟨some 23, .bini .lss (.t 21) (.t 22), none⟩])
 (.cond (.t 23)
 .skip
 (.exit 2)))
 (.seq (.block 3
 (.seq (.regD [] (.op ⟨0, false, [], ⟨some 26, .fadr 0 (.t 1), none⟩⟩
 (.op ⟨1, true, [], ⟨some 27, .load false 1 (.t 26), none⟩⟩
 (.op ⟨2, false, [], ⟨some 28, .mov (.t 5), none⟩⟩
 (.op ⟨3, true, [], ⟨some 29, .iadr 1 (.t 27) (.t 28), none⟩⟩
 (.op ⟨4, true, [], ⟨some 30, .load false 1 (.t 29), none⟩⟩
 (.op ⟨5, false, [], ⟨some 31, .fadr 0 (.t 1), none⟩⟩
 (.op ⟨6, true, [], ⟨some 32, .load false 1 (.t 31), none⟩⟩
 (.op ⟨7, false, [], ⟨some 33, .mov (.t 4), none⟩⟩
 (.op ⟨8, true, [], ⟨some 34, .iadr 1 (.t 32) (.t 33), none⟩⟩
 (.op ⟨9, true, [], ⟨some 35, .load false 1 (.t 34), none⟩⟩
 (.op ⟨10, false, [], ⟨some 36, .bins .eql (.t 30) (.t 35), none⟩⟩
 .nil))))))))))))
 (.cond (.t 36)
 (.seq (.reg [⟨some 37, .mov (.t 4), none⟩, ⟨some 2, .mov (.c (.int .i64 (4))), none⟩, ⟨some 3, .mov (.t 37), none⟩])
 .ret)
 .skip)))
 (.reg [⟨some 24, .mov (.t 5), none⟩, ⟨some 25, .bini .add (.t 24) (.c (.int .i64 (1))), none⟩, ⟨some 5, .mov (.t 25), none⟩]))))))))
 (.reg [⟨some 11, .mov (.t 4), none⟩, ⟨some 12, .bini .add (.t 11) (.c (.int .i64 (1))), none⟩, ⟨some 4, .mov (.t 12), none⟩]))))))
 (.seq (.reg [⟨some 2, .mov (.c (.int .i64 (0))), none⟩, ⟨some 3, .mov (.c (.int .i64 (0))), none⟩])
 .ret)))⟩
theorem t_hydrantref05_listens : trFn Tryz.prog 104 [([], (.first 0 (.first 1 (.first 2 (.first 3 (.first 4 (.first 5 (.first 6 (.first 7 (.first 8 (.first 9 (.first 10 .nil))))))))))))] [[4], [5]] = some f_hydrantref05_listens := by kernel_rfl

abbrev n_hydrantref05_clusters : Nat := 105
/-- hydrant/hydrantref05.clusters -/
def f_hydrantref05_clusters : FnI := ⟨68, [.tmp 2, .tmp 3],
 (.seq (.reg [⟨some 1, .box 51 (.t 0), none⟩, ⟨some 2, .mov (.c (.int .i64 (0))), none⟩, ⟨some 3, .mov (.c (.int .i64 (0))), none⟩])
 (.seq (.seq (.reg [⟨some 4, .mov (.c (.int .i64 (0))), none⟩])
 (.block 0
 (.loop [4] [7, 8, 9, 10, 11, 14, 15, 16, 17, 18, 5, 19, 20, 21, 22, 23, 2, 3, 6, 24, 25, 26, 29, 30, 31, 32, 33, 34, 35, 36, 37, 38, 27, 28, 39, 40, 41, 42, 43, 44, 45, 46, 47, 48, 49, 50, 51, 52, 53, 54, 55, 56, 57, 58, 59, 60, 61, 62, 63, 64, 65, 66, 67, 12, 13, 4]
 (.seq (.seq (.reg [⟨some 7, .mov (.t 4), none⟩, ⟨some 8, .fadr 2 (.t 1), none⟩, ⟨some 9, .load false 1 (.t 8), none⟩, ⟨some 10, .len false (.t 9), none⟩, ⟨some 11, .bini .lss (.t 7) (.t 10), none⟩])
 (.cond (.t 11)
 .skip
 (.exit 0)))
 (.seq (.block 1
 (.seq (.reg [⟨some 14, .fadr 2 (.t 1), none⟩, ⟨some 15, .load false 1 (.t 14), none⟩, ⟨some 16, .mov (.t 4), none⟩, ⟨some 17, .iadr 4 (.t 15) (.t 16), none⟩, ⟨some 18, .load true 4 (.t 17), none⟩, ⟨some 5, .alloc 71 [(.v (.string ⟨#[]⟩)), (.v (.int .i64 (0))), (.v (.int .i64 (0))), (.v (.slice none 0 0))], none⟩, ⟨none, .store 4 (.t 5) (.t 18), none⟩])
 (.seq (.seq (.reg [⟨some 19, .fadr 0 (.t 5), none⟩, ⟨some 20, .load false 1 (.t 19), none⟩, ⟨some 21, .call 34 [(.t 20)], none⟩, ⟨some 22, .not (.t 21), none⟩])
 (.cond (.t 22)
 (.seq (.reg [⟨some 23, .mov (.t 4), none⟩, ⟨some 2, .mov (.c (.int .i64 (3))), none⟩, ⟨some 3, .mov (.t 23), none⟩])
 .ret)
 .skip))
 (.seq (.seq (.reg [⟨some 6, .mov (.c (.int .i64 (0))), none⟩])
 (.block 2
 (.loop [6] [24, 25, 26, 29, 30, 31, 32, 33, 34, 35, 36, 37, 38, 2, 3, 27, 28, 6]
 (.seq (.seq (.reg [⟨some 24, .mov (.t 6), none⟩, ⟨some 25, .mov (.t 4), none⟩, ⟨some 26, .bini .lss (.t 24) (.t 25), none⟩])
 (.cond (.t 26)
 .skip
 (.exit 2)))
 (.seq (.block 3
 (.seq (.regD [] (.op ⟨0, false, [], ⟨some 29, .fadr 2 (.t 1), none⟩⟩
 (.op ⟨1, true, [], ⟨some 30, .load false 1 (.t 29), none⟩⟩
 (.op ⟨2, false, [], ⟨some 31, .mov (.t 6), none⟩⟩
 (.op ⟨3, true, [], ⟨some 32, .iadr 4 (.t 30) (.t 31), none⟩⟩
 (.op ⟨4, false, [], ⟨some 33, .fadr 0 (.t 32), none⟩⟩
 (.op ⟨5, true, [], ⟨some 34, .load false 1 (.t 33), none⟩⟩
 (.op ⟨6, false, [], ⟨some 35, .fadr 0 (.t 5), none⟩⟩
 (.op ⟨7, true, [], ⟨some 36, .load false 1 (.t 35), none⟩⟩
 (.op ⟨8, false, [], ⟨some 37, .bins .eql (.t 34) (.t 36), none⟩⟩
 .nil))))))))))
 (.cond (.t 37)
 (.seq (.reg [⟨some 38, .mov (.t 4), none⟩, ⟨some 2, .mov (.c (.int .i64 (4))), none⟩, ⟨some 3, .mov (.t 38), none⟩])
 .ret)
 .skip)))
 (.reg [⟨some 27, .mov (.t 6), none⟩, ⟨some 28, .bini .add (.t 27) (.c (.int .i64 (1))), none⟩, ⟨some 6, .mov (.t 28), none⟩]))))))
 (.seq (.seq (.reg [⟨some 39, .fadr 1 (.t 5), none⟩, ⟨some 40, .load false 1 (.t 39), none⟩, ⟨some 41, .bini .neq (.t 40) (.c (.int .i64 (1))), none⟩, ⟨some 42, .mov (.t 41), none⟩, ⟨some 43, .fadr 1 (.t 5), some (42, true)⟩, ⟨some 44, .load false 1 (.t 43), some (42, true)⟩, ⟨some 45, .bini .neq (.t 44) (.c (.int .i64 (2))), some (42, true)⟩, ⟨some 46, .pick (.t 42) (.t 45) (.b false), none⟩])
 (.cond (.t 46)
 (.seq (.reg [⟨some 47, .mov (.t 4), none⟩, ⟨some 2, .mov (.c (.int .i64 (9))), none⟩, ⟨some 3, .mov (.t 47), none⟩])
 .ret)
 .skip))
 (.seq (.seq (.reg [⟨some 48, .fadr 2 (.t 5), none⟩, ⟨some 49, .load false 1 (.t 48), none⟩, ⟨some 50, .bini .lss (.t 49) (.c (.int .i64 (1))), none⟩, ⟨some 51, .mov (.t 50), none⟩, ⟨some 52, .fadr 2 (.t 5), some (51, false)⟩, ⟨some 53, .load false 1 (.t 52), some (51, false)⟩, ⟨some 54, .bini .gtr (.t 53) (.c (.int .i64 (4))), some (51, false)⟩, ⟨some 55, .pick (.t 51) (.b true) (.t 54), none⟩])
 (.cond (.t 55)
 (.seq (.reg [⟨some 56, .mov (.t 4), none⟩, ⟨some 2, .mov (.c (.int .i64 (10))), none⟩, ⟨some 3, .mov (.t 56), none⟩])
 .ret)
 .skip))
 (.seq (.reg [⟨some 57, .fadr 3 (.t 5), none⟩, ⟨some 58, .load false 1 (.t 57), none⟩, ⟨some 59, .len false (.t 58), none⟩, ⟨some 60, .bini .lss (.t 59) (.c (.int .i64 (1))), none⟩, ⟨some 61, .mov (.t 60), none⟩, ⟨some 62, .fadr 3 (.t 5), some (61, false)⟩, ⟨some 63, .load false 1 (.t 62), some (61, false)⟩, ⟨some 64, .len false (.t 63), some (61, false)⟩, ⟨some 65, .bini .gtr (.t 64) (.c (.int .i64 (4))), some (61, false)⟩, ⟨some 66, .pick (.t 61) (.b true) (.t 65), none⟩])
 (.cond (.t 66)
 (.seq (.reg [⟨some 67, .mov (.t 4), none⟩, ⟨some 2, .mov (.c (.int .i64 (6))), none⟩, ⟨some 3, .mov (.t 67), none⟩])
 .ret)
 .skip))))))))
 (.reg [⟨some 12, .mov (.t 4), none⟩, ⟨some 13, .bini .add (.t 12) (.c (.int .i64 (1))), none⟩, ⟨some 4, .mov (.t 13), none⟩]))))))
 (.seq (.reg [⟨some 2, .mov (.c (.int .i64 (0))), none⟩, ⟨some 3, .mov (.c (.int .i64 (0))), none⟩])
 .ret)))⟩
theorem t_hydrantref05_clusters : trFn Tryz.prog 105 [([], (.first 0 (.first 1 (.first 2 (.first 3 (.first 4 (.first 5 (.first 6 (.first 7 (.first 8 .nil))))))))))] [[4], [6]] = some f_hydrantref05_clusters := by kernel_rfl

abbrev n_hydrantref05_routes : Nat := 106
/-- hydrant/hydrantref05.routes -/
def f_hydrantref05_routes : FnI := ⟨74, [.tmp 2, .tmp 3],
 (.seq (.reg [⟨some 1, .box 51 (.t 0), none⟩, ⟨some 2, .mov (.c (.int .i64 (0))), none⟩, ⟨some 3, .mov (.c (.int .i64 (0))), none⟩])
 (.seq (.seq (.reg [⟨some 4, .mov (.c (.int .i64 (0))), none⟩])
 (.block 0
 (.loop [4] [8, 9, 10, 11, 12, 15, 16, 17, 18, 19, 5, 20, 21, 22, 23, 24, 25, 26, 2, 3, 27, 28, 29, 30, 31, 32, 33, 34, 35, 36, 37, 38, 39, 40, 41, 42, 43, 6, 44, 45, 46, 49, 50, 51, 52, 53, 7, 54, 55, 56, 57, 58, 59, 60, 61, 62, 63, 64, 65, 66, 67, 68, 69, 70, 71, 72, 73, 47, 48, 13, 14, 4]
 (.seq (.seq (.reg [⟨some 8, .mov (.t 4), none⟩, ⟨some 9, .fadr 1 (.t 1), none⟩, ⟨some 10, .load false 1 (.t 9), none⟩, ⟨some 11, .len false (.t 10), none⟩, ⟨some 12, .bini .lss (.t 8) (.t 11), none⟩])
 (.cond (.t 12)
 .skip
 (.exit 0)))
 (.seq (.block 1
 (.seq (.reg [⟨some 15, .fadr 1 (.t 1), none⟩, ⟨some 16, .load false 1 (.t 15), none⟩, ⟨some 17, .mov (.t 4), none⟩, ⟨some 18, .iadr 4 (.t 16) (.t 17), none⟩, ⟨some 19, .load true 4 (.t 18), none⟩, ⟨some 5, .alloc 157 [(.v (.string ⟨#[]⟩)), (.v (.string ⟨#[]⟩)), (.v (.string ⟨#[]⟩)), (.v (.string ⟨#[]⟩))], none⟩, ⟨none, .store 4 (.t 5) (.t 19), none⟩])
 (.seq (.seq (.reg [⟨some 20, .fadr 0 (.t 1), none⟩, ⟨some 21, .load false 1 (.t 20), none⟩, ⟨some 22, .fadr 0 (.t 5), none⟩, ⟨some 23, .load false 1 (.t 22), none⟩, ⟨some 24, .call 125 [(.t 21), (.t 23)], none⟩, ⟨some 25, .bini .lss (.t 24) (.c (.int .i64 (0))), none⟩])
 (.cond (.t 25)
 (.seq (.reg [⟨some 26, .mov (.t 4), none⟩, ⟨some 2, .mov (.c (.int .i64 (5))), none⟩, ⟨some 3, .mov (.t 26), none⟩])
 .ret)
 .skip))
 (.seq (.seq (.reg [⟨some 27, .fadr 1 (.t 5), none⟩, ⟨some 28, .load false 1 (.t 27), none⟩, ⟨some 29, .call 126 [(.t 28)], none⟩, ⟨some 30, .not (.t 29), none⟩])
 (.cond (.t 30)
 (.seq (.reg [⟨some 31, .mov (.t 4), none⟩, ⟨some 2, .mov (.c (.int .i64 (7))), none⟩, ⟨some 3, .mov (.t 31), none⟩])
 .ret)
 .skip))
 (.seq (.seq (.reg [⟨some 32, .fadr 2 (.t 5), none⟩, ⟨some 33, .load false 1 (.t 32), none⟩, ⟨some 34, .call 127 [(.t 33)], none⟩, ⟨some 35, .not (.t 34), none⟩])
 (.cond (.t 35)
 (.seq (.reg [⟨some 36, .mov (.t 4), none⟩, ⟨some 2, .mov (.c (.int .i64 (8))), none⟩, ⟨some 3, .mov (.t 36), none⟩])
 .ret)
 .skip))
 (.seq (.seq (.reg [⟨some 37, .fadr 2 (.t 1), none⟩, ⟨some 38, .load false 1 (.t 37), none⟩, ⟨some 39, .fadr 3 (.t 5), none⟩, ⟨some 40, .load false 1 (.t 39), none⟩, ⟨some 41, .call 128 [(.t 38), (.t 40)], none⟩, ⟨some 42, .bini .lss (.t 41) (.c (.int .i64 (0))), none⟩])
 (.cond (.t 42)
 (.seq (.reg [⟨some 43, .mov (.t 4), none⟩, ⟨some 2, .mov (.c (.int .i64 (5))), none⟩, ⟨some 3, .mov (.t 43), none⟩])
 .ret)
 .skip))
 (.seq (.reg [⟨some 6, .mov (.c (.int .i64 (0))), none⟩])
 (.block 2
 (.loop [6] [44, 45, 46, 49, 50, 51, 52, 53, 7, 54, 55, 56, 57, 58, 59, 60, 61, 62, 63, 64, 65, 66, 67, 68, 69, 70, 71, 72, 73, 2, 3, 47, 48, 6]
 (.seq (.seq (.reg [⟨some 44, .mov (.t 6), none⟩, ⟨some 45, .mov (.t 4), none⟩, ⟨some 46, .bini .lss (.t 44) (.t 45), none⟩])
 (.cond (.t 46)
 .skip
 (.exit 2)))
 (.seq (.block 3
 (.seq (.reg [⟨some 49, .fadr 1 (.t 1), none⟩, ⟨some 50, .load false 1 (.t 49), none⟩, ⟨some 51, .mov (.t 6), none⟩, ⟨some 52, .iadr 4 (.t 50) (.t 51), none⟩, ⟨some 53, .load true 4 (.t 52), none⟩, ⟨some 7, .alloc 157 [(.v (.string ⟨#[]⟩)), (.v (.string ⟨#[]⟩)), (.v (.string ⟨#[]⟩)), (.v (.string ⟨#[]⟩))], none⟩, ⟨none, .store 4 (.t 7) (.t 53), none⟩])
 (.seq (.reg [⟨some 54, .fadr 0 (.t 7), none⟩, ⟨some 55, .load false 1 (.t 54), none⟩, ⟨some 56, .fadr 0 (.t 5), none⟩, ⟨some 57, .load false 1 (.t 56), none⟩, ⟨some 58, .bins .eql (.t 55) (.t 57), none⟩, ⟨some 59, .mov (.t 58), none⟩, ⟨some 60, .fadr 1 (.t 7), some (59, true)⟩, ⟨some 61, .load false 1 (.t 60), some (59, true)⟩, ⟨some 62, .fadr 1 (.t 5), some (59, true)⟩, ⟨some 63, .load false 1 (.t 62), some (59, true)⟩, ⟨some 64, .bins .eql (.t 61) (.t 63), some (59, true)⟩, ⟨some 65, .pick (.t 59) (.t 64) (.b false), none⟩, ⟨some 66, .mov (.t 65), none⟩, ⟨some 67, .fadr 2 (.t 7), some (66, true)⟩, ⟨some 68, .load false 1 (.t 67), some (66, true)⟩, ⟨some 69, .fadr 2 (.t 5), some (66, true)⟩, ⟨some 70, .load false 1 (.t 69), some (66, true)⟩, ⟨some 71, .bins .eql (.t 68) (.t 70), some (66, true)⟩, ⟨some 72, .pick (.t 66) (.t 71) (.b false), none⟩])
 (.cond (.t 72)
 (.seq (.reg [⟨some 73, .mov (.t 4), none⟩, ⟨some 2, .mov (.c (.int .i64 (4))), none⟩, ⟨some 3, .mov (.t 73), none⟩])
 .ret)
 .skip))))
 (.reg [⟨some 47, .mov (.t 6), none⟩, ⟨some 48, .bini .add (.t 47) (.c (.int .i64 (1))), none⟩, ⟨some 6, .mov (.t 48), none⟩]))))))))))))
 (.reg [⟨some 13, .mov (.t 4), none⟩, ⟨some 14, .bini .add (.t 13) (.c (.int .i64 (1))), none⟩, ⟨some 4, .mov (.t 14), none⟩]))))))
 (.seq (.reg [⟨some 2, .mov (.c (.int .i64 (0))), none⟩, ⟨some 3, .mov (.c (.int .i64 (0))), none⟩])
 .ret)))⟩
theorem t_hydrantref05_routes : trFn Tryz.prog 106 [] [[4], [6]] = some f_hydrantref05_routes := by kernel_rfl

abbrev n_world_each_api_Group_world_cloner : Nat := 107
/-- hydrant/world.each[hydrant/api.Group,hydrant/world.cloner] -/
def f_world_each_api_Group_world_cloner : FnI := ⟨29, [.tmp 6],
 (.seq (.reg [⟨some 5, .box 133 (.t 2), none⟩, ⟨some 6, .mov (.c (.slice none 0 0)), none⟩])
 (.seq (.reg [⟨some 10, .mov (.t 0), none⟩, ⟨some 11, .len false (.t 10), none⟩, ⟨some 12, .msl 80 2 32 [(.int .u64 (0)), (.slice none 0 0)] (.t 11) (.t 11), none⟩, ⟨some 7, .mov (.t 12), none⟩])
 (.seq (.seq (.reg [⟨some 13, .mov (.t 0), none⟩, ⟨some 14, .len false (.t 13), none⟩, ⟨some 15, .mov (.c (.int .i64 (0))), none⟩])
 (.block 0
 (.loop [15] [16, 17, 18, 19, 9, 8, 20, 21, 22, 23, 24, 25, 26, 27, 15]
 (.seq (.reg [⟨some 16, .bini .lss (.t 15) (.t 14), none⟩])
 (.seq (.cond (.t 16)
 .skip
 (.exit 0))
 (.seq (.block 1
 (.seq (.reg [⟨some 17, .mov (.t 15), none⟩, ⟨some 18, .iadr 2 (.t 13) (.t 15), none⟩, ⟨some 19, .load true 2 (.t 18), none⟩, ⟨some 9, .alloc 80 [(.v (.int .u64 (0))), (.v (.slice none 0 0))], none⟩, ⟨some 8, .mov (.t 17), none⟩, ⟨none, .store 2 (.t 9) (.t 19), none⟩])
 (.reg [⟨some 20, .mov (.t 7), none⟩, ⟨some 21, .mov (.t 8), none⟩, ⟨some 22, .mov (.t 1), none⟩, ⟨some 23, .load true 0 (.t 5), none⟩, ⟨some 24, .load true 2 (.t 9), none⟩, ⟨some 25, .callv (.t 22) [(.t 23), (.t 24)], none⟩, ⟨some 26, .iadr 2 (.t 20) (.t 21), none⟩, ⟨none, .store 2 (.t 26) (.t 25), none⟩])))
 (.reg [⟨some 27, .bini .add (.t 15) (.c (.int .i64 (1))), none⟩, ⟨some 15, .mov (.t 27), none⟩])))))))
 (.seq (.reg [⟨some 28, .mov (.t 7), none⟩, ⟨some 6, .mov (.t 28), none⟩])
 .ret))))⟩
theorem t_world_each_api_Group_world_cloner : trFn Tryz.prog 107 [] [[15]] = some f_world_each_api_Group_world_cloner := by kernel_rfl

abbrev n_world_cloner__group : Nat := 108
/-- (hydrant/world.cloner).group -/
def f_world_cloner__group : FnI := ⟨11, [.cell 4 2 true],
 (.seq (.reg [⟨some 2, .box 133 (.t 0), none⟩, ⟨some 3, .box 80 (.t 1), none⟩, ⟨some 4, .alloc 80 [(.v (.int .u64 (0))), (.v (.slice none 0 0))], none⟩])
 (.seq (.reg [⟨some 5, .fadr 1 (.t 3), none⟩, ⟨some 6, .load false 1 (.t 5), none⟩, ⟨some 7, .load true 0 (.t 2), none⟩, ⟨some 8, .call 129 [(.t 6), (.c (.func (.func 130) #[] #[])), (.t 7)], none⟩, ⟨some 9, .fadr 1 (.t 3), none⟩, ⟨none, .store 1 (.t 9) (.t 8), none⟩])
 (.seq (.reg [⟨some 10, .load true 2 (.t 3), none⟩, ⟨none, .store 2 (.t 4) (.t 10), none⟩])
 .ret)))⟩
theorem t_world_cloner__group : trFn Tryz.prog 108 [] [] = some f_world_cloner__group := by kernel_rfl

abbrev n_slices_Clone___uint64_uint64 : Nat := 109
/-- slices.Clone[[]uint64,uint64] -/
def f_slices_Clone___uint64_uint64 : FnI := ⟨8, [.tmp 2],
 (.seq (.reg [⟨some 2, .mov (.c (.slice none 0 0)), none⟩])
 (.seq (.seq (.reg [⟨some 3, .mov (.t 0), none⟩, ⟨some 4, .binn 0 false (.t 3), none⟩])
 (.cond (.t 4)
 (.seq (.reg [⟨some 2, .mov (.c (.slice none 0 0)), none⟩])
 .ret)
 .skip))
 (.seq (.reg [⟨some 5, .bsl 54 1 0 [] [], none⟩, ⟨some 6, .mov (.t 0), none⟩, ⟨some 7, .app 54 1 8 (.t 5) (.t 6), none⟩, ⟨some 2, .mov (.t 7), none⟩])
 .ret)))⟩
theorem t_slices_Clone___uint64_uint64 : trFn Tryz.prog 109 [] [] = some f_slices_Clone___uint64_uint64 := by kernel_rfl

abbrev n_slices_IndexFunc___int_int : Nat := 110
/-- slices.IndexFunc[[]int,int] -/
def f_slices_IndexFunc___int_int : FnI := ⟨19, [.tmp 4],
 (.seq (.reg [⟨some 4, .mov (.c (.int .i64 (0))), none⟩])
 (.seq (.seq (.reg [⟨some 6, .mov (.t 0), none⟩, ⟨some 7, .len false (.t 6), none⟩, ⟨some 8, .mov (.c (.int .i64 (0))), none⟩])
 (.block 0
 (.loop [8] [9, 10, 5, 11, 12, 13, 14, 15, 16, 17, 4, 18, 8]
 (.seq (.reg [⟨some 9, .bini .lss (.t 8) (.t 7), none⟩])
 (.seq (.cond (.t 9)
 .skip
 (.exit 0))
 (.seq (.block 1
 (.seq (.reg [⟨some 10, .mov (.t 8), none⟩, ⟨some 5, .mov (.t 10), none⟩])
 (.seq (.reg [⟨some 11, .mov (.t 1), none⟩, ⟨some 12, .mov (.t 0), none⟩, ⟨some 13, .mov (.t 5), none⟩, ⟨some 14, .iadr 1 (.t 12) (.t 13), none⟩, ⟨some 15, .load false 1 (.t 14), none⟩, ⟨some 16, .callv (.t 11) [(.t 15)], none⟩])
 (.cond (.t 16)
 (.seq (.reg [⟨some 17, .mov (.t 5), none⟩, ⟨some 4, .mov (.t 17), none⟩])
 .ret)
 .skip))))
 (.reg [⟨some 18, .bini .add (.t 8) (.c (.int .i64 (1))), none⟩, ⟨some 8, .mov (.t 18), none⟩])))))))
 (.seq (.reg [⟨some 4, .mov (.c (.int .i64 (-1))), none⟩])
 .ret)))⟩
theorem t_slices_IndexFunc___int_int : trFn Tryz.prog 110 [] [[8]] = some f_slices_IndexFunc___int_int := by kernel_rfl

abbrev n_slices_ContainsFunc___api_Retired_api_Retired : Nat := 111
/-- slices.ContainsFunc[[]hydrant/api.Retired,hydrant/api.Retired] -/
def f_slices_ContainsFunc___api_Retired_api_Retired : FnI := ⟨9, [.tmp 4],
 (.seq (.reg [⟨some 4, .mov (.b false), none⟩])
 (.seq (.reg [⟨some 5, .mov (.t 0), none⟩, ⟨some 6, .mov (.t 1), none⟩, ⟨some 7, .call 131 [(.t 5), (.t 6)], none⟩, ⟨some 8, .bini .geq (.t 7) (.c (.int .i64 (0))), none⟩, ⟨some 4, .mov (.t 8), none⟩])
 .ret))⟩
theorem t_slices_ContainsFunc___api_Retired_api_Retired : trFn Tryz.prog 111 [] [] = some f_slices_ContainsFunc___api_Retired_api_Retired := by kernel_rfl

abbrev n_limbo_has_1 : Nat := 112
theorem k_limbo_has_1 : FnOk Tryz.prog 112 := FnOk.of (by kernel_rfl)
/-- hydrant/limbo.has$1 -/
def f_limbo_has_1 : FnI := ⟨8, [.tmp 3],
 (.seq (.reg [⟨some 2, .box 95 (.t 0), none⟩, ⟨some 3, .mov (.b false), none⟩])
 (.seq (.reg [⟨some 4, .fadr 0 (.t 2), none⟩, ⟨some 5, .load false 1 (.t 4), none⟩, ⟨some 6, .load false 1 (.t 1), none⟩, ⟨some 7, .bini .eql (.t 5) (.t 6), none⟩, ⟨some 3, .mov (.t 7), none⟩])
 .ret))⟩
theorem t_limbo_has_1 : trFn Tryz.prog 112 [] [] = some f_limbo_has_1 := by kernel_rfl

abbrev n_slices_IndexFunc___api_End_api_End : Nat := 113
/-- slices.IndexFunc[[]hydrant/api.End,hydrant/api.End] -/
def f_slices_IndexFunc___api_End_api_End : FnI := ⟨19, [.tmp 4],
 (.seq (.reg [⟨some 4, .mov (.c (.int .i64 (0))), none⟩])
 (.seq (.seq (.reg [⟨some 6, .mov (.t 0), none⟩, ⟨some 7, .len false (.t 6), none⟩, ⟨some 8, .mov (.c (.int .i64 (0))), none⟩])
 (.block 0
 (.loop [8] [9, 10, 5, 11, 12, 13, 14, 15, 16, 17, 4, 18, 8]
 (.seq (.reg [⟨some 9, .bini .lss (.t 8) (.t 7), none⟩])
 (.seq (.cond (.t 9)
 .skip
 (.exit 0))
 (.seq (.block 1
 (.seq (.reg [⟨some 10, .mov (.t 8), none⟩, ⟨some 5, .mov (.t 10), none⟩])
 (.seq (.reg [⟨some 11, .mov (.t 1), none⟩, ⟨some 12, .mov (.t 0), none⟩, ⟨some 13, .mov (.t 5), none⟩, ⟨some 14, .iadr 3 (.t 12) (.t 13), none⟩, ⟨some 15, .load true 3 (.t 14), none⟩, ⟨some 16, .callv (.t 11) [(.t 15)], none⟩])
 (.cond (.t 16)
 (.seq (.reg [⟨some 17, .mov (.t 5), none⟩, ⟨some 4, .mov (.t 17), none⟩])
 .ret)
 .skip))))
 (.reg [⟨some 18, .bini .add (.t 8) (.c (.int .i64 (1))), none⟩, ⟨some 8, .mov (.t 18), none⟩])))))))
 (.seq (.reg [⟨some 4, .mov (.c (.int .i64 (-1))), none⟩])
 .ret)))⟩
theorem t_slices_IndexFunc___api_End_api_End : trFn Tryz.prog 113 [] [[8]] = some f_slices_IndexFunc___api_End_api_End := by kernel_rfl

abbrev n_slots_chain_1 : Nat := 114
theorem k_slots_chain_1 : FnOk Tryz.prog 114 := FnOk.of (by kernel_rfl)
/-- hydrant/slots.chain$1 -/
def f_slots_chain_1 : FnI := ⟨44, [],
 (.scope
 (.seq (.reg [⟨some 5, .fadr 1 (.t 1), none⟩, ⟨some 6, .load false 1 (.t 5), none⟩, ⟨some 7, .len false (.t 6), none⟩, ⟨some 8, .msl 4 1 1 [(.bool false)] (.t 7) (.t 7), none⟩, ⟨some 3, .mov (.t 8), none⟩])
 (.seq (.reg [⟨some 9, .fadr 0 (.t 1), none⟩, ⟨some 10, .load false 1 (.t 9), none⟩, ⟨some 11, .call 115 [(.t 10)], none⟩, ⟨some 4, .mov (.t 11), none⟩])
 (.seq (.label 0)
 (.seq (.block 0
 (.loop [4] [12, 13, 14, 15, 16, 17, 18, 19, 20, 21, 22, 23, 24, 25, 26, 27, 28, 4, 29, 30, 31, 32, 33, 34, 35, 36, 37, 38, 39, 40]
 (.seq (.seq (.reg [⟨some 12, .mov (.t 4), none⟩, ⟨some 13, .bini .neq (.t 12) (.c (.int .i64 (-1))), none⟩])
 (.cond (.t 13)
 .skip
 (.exit 0)))
 (.block 1
 (.seq (.seq (.reg [⟨some 14, .mov (.t 4), none⟩, ⟨some 15, .bini .lss (.t 14) (.c (.int .i64 (0))), none⟩, ⟨some 16, .mov (.t 15), none⟩, ⟨some 17, .mov (.t 4), some (16, false)⟩, ⟨some 18, .fadr 1 (.t 1), some (16, false)⟩, ⟨some 19, .load false 1 (.t 18), some (16, false)⟩, ⟨some 20, .len false (.t 19), some (16, false)⟩, ⟨some 21, .bini .geq (.t 17) (.t 20), some (16, false)⟩, ⟨some 22, .pick (.t 16) (.b true) (.t 21), none⟩, ⟨some 23, .mov (.t 22), none⟩, ⟨some 24, .mov (.t 3), some (23, false)⟩, ⟨some 25, .mov (.t 4), some (23, false)⟩, ⟨some 26, .iadr 1 (.t 24) (.t 25), some (23, false)⟩, ⟨some 27, .load false 1 (.t 26), some (23, false)⟩, ⟨some 28, .pick (.t 23) (.b true) (.t 27), none⟩])
 (.cond (.t 28)
 (.seq (.reg [⟨some 4, .mov (.c (.int .i64 (-2))), none⟩])
 (.exit 0))
 .skip))
 (.seq (.reg [⟨some 29, .mov (.t 3), none⟩, ⟨some 30, .mov (.t 4), none⟩, ⟨some 31, .iadr 1 (.t 29) (.t 30), none⟩, ⟨none, .store 1 (.t 31) (.b true), none⟩])
 (.seq (.seq (.reg [⟨some 32, .mov (.t 0), none⟩, ⟨some 33, .mov (.t 4), none⟩, ⟨some 34, .callv (.t 32) [(.t 33)], none⟩, ⟨some 35, .not (.t 34), none⟩])
 (.cond (.t 35)
 .ret
 .skip))
 (.reg [⟨some 36, .fadr 1 (.t 1), none⟩, ⟨some 37, .load false 1 (.t 36), none⟩, ⟨some 38, .mov (.t 4), none⟩, ⟨some 39, .iadr 1 (.t 37) (.t 38), none⟩, ⟨some 40, .load false 1 (.t 39), none⟩, ⟨some 4, .mov (.t 40), none⟩]))))))))
 (.reg [⟨some 41, .mov (.t 0), none⟩, ⟨some 42, .mov (.t 4), none⟩, ⟨some 43, .callv (.t 41) [(.t 42)], none⟩]))))))⟩
theorem t_slots_chain_1 : trFn Tryz.prog 114 [] [[4]] = some f_slots_chain_1 := by kernel_rfl

abbrev n_tag_Index : Nat := 115
/-- hydrant/tag.Index -/
def f_tag_Index : FnI := ⟨7, [.tmp 2],
 (.seq (.reg [⟨some 2, .mov (.c (.int .i64 (0))), none⟩])
 (.seq (.reg [⟨some 3, .mov (.t 0), none⟩, ⟨some 4, .conv .u32 (.t 3), none⟩, ⟨some 5, .conv .i64 (.t 4), none⟩, ⟨some 6, .bini .add (.t 5) (.c (.int .i64 (-1))), none⟩, ⟨some 2, .mov (.t 6), none⟩])
 .ret))⟩
theorem t_tag_Index : trFn Tryz.prog 115 [] [] = some f_tag_Index := by kernel_rfl

abbrev n_config_within : Nat := 116
/-- hydrant/config.within -/
def f_config_within : FnI := ⟨15, [.tmp 6],
 (.seq (.reg [⟨some 6, .mov (.b false), none⟩])
 (.seq (.reg [⟨some 7, .mov (.t 0), none⟩, ⟨some 8, .mov (.t 1), none⟩, ⟨some 9, .bini .geq (.t 7) (.t 8), none⟩, ⟨some 10, .mov (.t 9), none⟩, ⟨some 11, .mov (.t 0), some (10, true)⟩, ⟨some 12, .mov (.t 2), some (10, true)⟩, ⟨some 13, .bini .leq (.t 11) (.t 12), some (10, true)⟩, ⟨some 14, .pick (.t 10) (.t 13) (.b false), none⟩, ⟨some 6, .mov (.t 14), none⟩])
 .ret))⟩
theorem t_config_within : trFn Tryz.prog 116 [] [] = some f_config_within := by kernel_rfl

abbrev n_slices_Contains___string_string : Nat := 117
/-- slices.Contains[[]string,string] -/
def f_slices_Contains___string_string : FnI := ⟨9, [.tmp 4],
 (.seq (.reg [⟨some 4, .mov (.b false), none⟩])
 (.seq (.reg [⟨some 5, .mov (.t 0), none⟩, ⟨some 6, .mov (.t 1), none⟩, ⟨some 7, .call 132 [(.t 5), (.t 6)], none⟩, ⟨some 8, .bini .geq (.t 7) (.c (.int .i64 (0))), none⟩, ⟨some 4, .mov (.t 8), none⟩])
 .ret))⟩
theorem t_slices_Contains___string_string : trFn Tryz.prog 117 [] [] = some f_slices_Contains___string_string := by kernel_rfl

abbrev n_config_named : Nat := 118
/-- hydrant/config.named -/
def f_config_named : FnI := ⟨8, [.tmp 4],
 (.seq (.reg [⟨some 3, .box 9 (.t 1), none⟩, ⟨some 4, .mov (.b false), none⟩])
 (.seq (.reg [⟨some 5, .mov (.t 0), none⟩, ⟨some 6, .mkf (.func 134) [] [(.t 3)], none⟩, ⟨some 7, .call 133 [(.t 5), (.t 6)], none⟩, ⟨some 4, .mov (.t 7), none⟩])
 .ret))⟩
theorem t_config_named : trFn Tryz.prog 118 [] [] = some f_config_named := by kernel_rfl

abbrev n_names_Pattern : Nat := 119
/-- hydrant/names.Pattern -/
def f_names_Pattern : FnI := ⟨19, [.tmp 2],
 (.seq (.reg [⟨some 2, .mov (.b false), none⟩])
 (.seq (.seq (.reg [⟨some 6, .mov (.t 0), none⟩, ⟨some 7, .call 135 [(.t 6), (.c (.string ⟨#[42, 46]⟩))], none⟩, ⟨some 5, .mov (.t 7), none⟩, ⟨some 8, .ext 0 (.t 5), none⟩, ⟨some 9, .ext 1 (.t 5), none⟩, ⟨some 3, .mov (.t 8), none⟩, ⟨some 4, .mov (.t 9), none⟩])
 (.seq (.reg [⟨some 10, .mov (.t 4), none⟩])
 (.cond (.t 10)
 (.seq (.reg [⟨some 11, .mov (.t 3), none⟩, ⟨some 12, .call 136 [(.t 11)], none⟩, ⟨some 2, .mov (.t 12), none⟩])
 .ret)
 .skip)))
 (.seq (.reg [⟨some 13, .mov (.t 0), none⟩, ⟨some 14, .bins .eql (.t 13) (.c (.string ⟨#[42]⟩)), none⟩, ⟨some 15, .mov (.t 14), none⟩, ⟨some 16, .mov (.t 0), some (15, false)⟩, ⟨some 17, .call 136 [(.t 16)], some (15, false)⟩, ⟨some 18, .pick (.t 15) (.b true) (.t 17), none⟩, ⟨some 2, .mov (.t 18), none⟩])
 .ret)))⟩
theorem t_names_Pattern : trFn Tryz.prog 119 [] [] = some f_names_Pattern := by kernel_rfl

abbrev n_names_Path : Nat := 120
/-- hydrant/names.Path -/
def f_names_Path : FnI := ⟨21, [.tmp 2],
 (.seq (.reg [⟨some 2, .mov (.b false), none⟩])
 (.seq (.reg [⟨some 3, .mov (.t 0), none⟩, ⟨some 4, .len true (.t 3), none⟩, ⟨some 5, .bini .gtr (.t 4) (.c (.int .i64 (0))), none⟩, ⟨some 6, .mov (.t 5), none⟩, ⟨some 7, .mov (.t 0), some (6, true)⟩, ⟨some 8, .len true (.t 7), some (6, true)⟩, ⟨some 9, .bini .leq (.t 8) (.c (.int .i64 (32))), some (6, true)⟩, ⟨some 10, .pick (.t 6) (.t 9) (.b false), none⟩, ⟨some 11, .mov (.t 10), none⟩, ⟨some 12, .mov (.t 0), some (11, true)⟩, ⟨some 13, .idxs (.t 12) (.c (.int .i64 (0))), some (11, true)⟩, ⟨some 14, .bini .eql (.t 13) (.c (.int .u8 (47))), some (11, true)⟩, ⟨some 15, .pick (.t 11) (.t 14) (.b false), none⟩, ⟨some 16, .mov (.t 15), none⟩, ⟨some 17, .call 68 [], some (16, true)⟩, ⟨some 18, .mov (.t 0), some (16, true)⟩, ⟨some 19, .call 69 [(.t 17), (.t 18), (.c (.int .u8 (47)))], some (16, true)⟩, ⟨some 20, .pick (.t 16) (.t 19) (.b false), none⟩, ⟨some 2, .mov (.t 20), none⟩])
 .ret))⟩
theorem t_names_Path : trFn Tryz.prog 120 [] [] = some f_names_Path := by kernel_rfl

abbrev n_hydrantref17_Is : Nat := 121
/-- hydrant/hydrantref17.Is -/
def f_hydrantref17_Is : FnI := ⟨20, [.tmp 2],
 (.seq (.reg [⟨some 1, .box 77 (.t 0), none⟩, ⟨some 2, .mov (.b false), none⟩])
 (.seq (.reg [⟨some 3, .fadr 0 (.t 1), none⟩, ⟨some 4, .load false 1 (.t 3), none⟩, ⟨some 5, .call 34 [(.t 4)], none⟩, ⟨some 6, .mov (.t 5), none⟩, ⟨some 7, .fadr 2 (.t 1), some (6, true)⟩, ⟨some 8, .load false 1 (.t 7), some (6, true)⟩, ⟨some 9, .bini .geq (.t 8) (.c (.int .i64 (0))), some (6, true)⟩, ⟨some 10, .pick (.t 6) (.t 9) (.b false), none⟩, ⟨some 11, .mov (.t 10), none⟩, ⟨some 12, .fadr 1 (.t 1), some (11, true)⟩, ⟨some 13, .load false 1 (.t 12), some (11, true)⟩, ⟨some 14, .mov (.t 13), some (11, true)⟩, ⟨some 15, .fadr 3 (.t 1), some (14, false)⟩, ⟨some 16, .load false 1 (.t 15), some (14, false)⟩, ⟨some 17, .not (.t 16), some (14, false)⟩, ⟨some 18, .pick (.t 14) (.b true) (.t 17), some (11, true)⟩, ⟨some 19, .pick (.t 11) (.t 18) (.b false), none⟩, ⟨some 2, .mov (.t 19), none⟩])
 .ret))⟩
theorem t_hydrantref17_Is : trFn Tryz.prog 121 [] [] = some f_hydrantref17_Is := by kernel_rfl

abbrev n_hydrantref18_version : Nat := 122
/-- hydrant/hydrantref18.version -/
def f_hydrantref18_version : FnI := ⟨79, [.tmp 2],
 (.seq (.reg [⟨some 1, .box 40 (.t 0), none⟩, ⟨some 2, .mov (.b false), none⟩])
 (.seq (.seq (.reg [⟨some 6, .fadr 0 (.t 1), none⟩, ⟨some 7, .load true 3 (.t 6), none⟩, ⟨some 8, .call 38 [(.t 7)], none⟩, ⟨some 9, .not (.t 8), none⟩, ⟨some 10, .mov (.t 9), none⟩, ⟨some 11, .fadr 3 (.t 1), some (10, false)⟩, ⟨some 12, .load false 1 (.t 11), some (10, false)⟩, ⟨some 13, .len false (.t 12), some (10, false)⟩, ⟨some 14, .fadr 0 (.t 1), some (10, false)⟩, ⟨some 15, .fadr 2 (.t 14), some (10, false)⟩, ⟨some 16, .load false 1 (.t 15), some (10, false)⟩, ⟨some 17, .len false (.t 16), some (10, false)⟩, ⟨some 18, .bini .neq (.t 13) (.t 17), some (10, false)⟩, ⟨some 19, .pick (.t 10) (.b true) (.t 18), none⟩])
 (.cond (.t 19)
 (.seq (.reg [⟨some 2, .mov (.b false), none⟩])
 .ret)
 .skip))
 (.seq (.seq (.reg [⟨some 3, .mov (.c (.int .i64 (0))), none⟩])
 (.block 0
 (.loop [3] [20, 21, 22, 23, 24, 27, 28, 29, 30, 31, 32, 33, 34, 35, 36, 37, 38, 39, 40, 41, 42, 2, 4, 43, 44, 45, 46, 47, 48, 49, 50, 51, 54, 55, 56, 57, 58, 59, 60, 61, 62, 5, 63, 64, 65, 66, 67, 68, 69, 70, 71, 72, 73, 74, 75, 76, 77, 78, 52, 53, 25, 26, 3]
 (.seq (.seq (.reg [⟨some 20, .mov (.t 3), none⟩, ⟨some 21, .fadr 3 (.t 1), none⟩, ⟨some 22, .load false 1 (.t 21), none⟩, ⟨some 23, .len false (.t 22), none⟩, ⟨some 24, .bini .lss (.t 20) (.t 23), none⟩])
 (.cond (.t 24)
 .skip
 (.exit 0)))
 (.seq (.block 1
 (.seq (.seq (.regD [] (.op ⟨0, false, [], ⟨some 27, .fadr 3 (.t 1), none⟩⟩
 (.op ⟨1, true, [], ⟨some 28, .load false 1 (.t 27), none⟩⟩
 (.op ⟨2, false, [], ⟨some 29, .mov (.t 3), none⟩⟩
 (.op ⟨3, true, [], ⟨some 30, .iadr 2 (.t 28) (.t 29), none⟩⟩
 (.op ⟨4, false, [], ⟨some 31, .fadr 1 (.t 30), none⟩⟩
 (.op ⟨5, true, [], ⟨some 32, .load false 1 (.t 31), none⟩⟩
 (.op ⟨6, false, [], ⟨some 33, .len false (.t 32), none⟩⟩
 (.op ⟨7, false, [], ⟨some 34, .fadr 0 (.t 1), none⟩⟩
 (.op ⟨8, false, [], ⟨some 35, .fadr 2 (.t 34), none⟩⟩
 (.op ⟨9, true, [], ⟨some 36, .load false 1 (.t 35), none⟩⟩
 (.op ⟨10, false, [], ⟨some 37, .mov (.t 3), none⟩⟩
 (.op ⟨11, true, [], ⟨some 38, .iadr 4 (.t 36) (.t 37), none⟩⟩
 (.op ⟨12, false, [], ⟨some 39, .fadr 3 (.t 38), none⟩⟩
 (.op ⟨13, true, [], ⟨some 40, .load false 1 (.t 39), none⟩⟩
 (.op ⟨14, false, [], ⟨some 41, .len false (.t 40), none⟩⟩
 (.op ⟨15, false, [], ⟨some 42, .bini .neq (.t 33) (.t 41), none⟩⟩
 .nil)))))))))))))))))
 (.cond (.t 42)
 (.seq (.reg [⟨some 2, .mov (.b false), none⟩])
 .ret)
 .skip))
 (.seq (.reg [⟨some 4, .mov (.c (.int .i64 (0))), none⟩])
 (.block 2
 (.loop [4] [43, 44, 45, 46, 47, 48, 49, 50, 51, 54, 55, 56, 57, 58, 59, 60, 61, 62, 5, 63, 64, 65, 66, 67, 68, 69, 70, 71, 72, 73, 74, 75, 76, 77, 78, 2, 52, 53, 4]
 (.seq (.seq (.reg [⟨some 43, .mov (.t 4), none⟩, ⟨some 44, .fadr 3 (.t 1), none⟩, ⟨some 45, .load false 1 (.t 44), none⟩, ⟨some 46, .mov (.t 3), none⟩, ⟨some 47, .iadr 2 (.t 45) (.t 46), none⟩, ⟨some 48, .fadr 1 (.t 47), none⟩, ⟨some 49, .load false 1 (.t 48), none⟩, ⟨some 50, .len false (.t 49), none⟩, ⟨some 51, .bini .lss (.t 43) (.t 50), none⟩])
 (.cond (.t 51)
 .skip
 (.exit 2)))
 (.seq (.block 3
 (.seq (.reg [⟨some 54, .fadr 3 (.t 1), none⟩, ⟨some 55, .load false 1 (.t 54), none⟩, ⟨some 56, .mov (.t 3), none⟩, ⟨some 57, .iadr 2 (.t 55) (.t 56), none⟩, ⟨some 58, .fadr 1 (.t 57), none⟩, ⟨some 59, .load false 1 (.t 58), none⟩, ⟨some 60, .mov (.t 4), none⟩, ⟨some 61, .iadr 3 (.t 59) (.t 60), none⟩, ⟨some 62, .load true 3 (.t 61), none⟩, ⟨some 5, .alloc 82 [(.v (.int .u64 (0))), (.v (.slice none 0 0)), (.v (.int .i64 (0)))], none⟩, ⟨none, .store 3 (.t 5) (.t 62), none⟩])
 (.seq (.regD [] (.op ⟨0, true, [], ⟨some 63, .load true 3 (.t 5), none⟩⟩
 (.op ⟨1, false, [], ⟨some 64, .call 137 [(.t 63)], none⟩⟩
 (.op ⟨2, false, [], ⟨some 65, .not (.t 64), none⟩⟩
 (.op ⟨3, false, [], ⟨some 66, .mov (.t 65), none⟩⟩
 (.op ⟨4, false, [], ⟨some 67, .fadr 1 (.t 5), some (66, false)⟩⟩
 (.op ⟨5, true, [], ⟨some 68, .load false 1 (.t 67), some (66, false)⟩⟩
 (.op ⟨6, false, [], ⟨some 69, .len false (.t 68), some (66, false)⟩⟩
 (.op ⟨7, false, [], ⟨some 70, .fadr 0 (.t 1), some (66, false)⟩⟩
 (.op ⟨8, false, [], ⟨some 71, .fadr 2 (.t 70), some (66, false)⟩⟩
 (.op ⟨9, true, [], ⟨some 72, .load false 1 (.t 71), some (66, false)⟩⟩
 (.op ⟨10, false, [], ⟨some 73, .mov (.t 3), some (66, false)⟩⟩
 (.op ⟨11, true, [], ⟨some 74, .iadr 4 (.t 72) (.t 73), some (66, false)⟩⟩
 (.op ⟨12, false, [], ⟨some 75, .fadr 2 (.t 74), some (66, false)⟩⟩
 (.op ⟨13, true, [], ⟨some 76, .load false 1 (.t 75), some (66, false)⟩⟩
 (.op ⟨14, false, [], ⟨some 77, .bini .neq (.t 69) (.t 76), some (66, false)⟩⟩
 (.op ⟨15, false, [], ⟨some 78, .pick (.t 66) (.b true) (.t 77), none⟩⟩
 .nil)))))))))))))))))
 (.cond (.t 78)
 (.seq (.reg [⟨some 2, .mov (.b false), none⟩])
 .ret)
 .skip))))
 (.reg [⟨some 52, .mov (.t 4), none⟩, ⟨some 53, .bini .add (.t 52) (.c (.int .i64 (1))), none⟩, ⟨some 4, .mov (.t 53), none⟩]))))))))
 (.reg [⟨some 25, .mov (.t 3), none⟩, ⟨some 26, .bini .add (.t 25) (.c (.int .i64 (1))), none⟩, ⟨some 3, .mov (.t 26), none⟩]))))))
 (.seq (.reg [⟨some 2, .mov (.b true), none⟩])
 .ret))))⟩
theorem t_hydrantref18_version : trFn Tryz.prog 122 [([], (.first 0 (.first 1 (.first 2 (.first 3 (.first 4 (.first 5 (.first 6 (.first 7 (.first 8 (.first 9 (.first 10 (.first 11 (.first 12 (.first 13 (.first 14 (.first 15 .nil))))))))))))))))), ([], (.first 0 (.exec 1 (.first 2 (.first 3 (.first 4 (.first 5 (.first 6 (.first 7 (.first 8 (.first 9 (.first 10 (.first 11 (.first 12 (.first 13 (.first 14 (.first 15 .nil)))))))))))))))))] [[3], [4]] = some f_hydrantref18_version := by kernel_rfl

abbrev n_hydrantref18_gone : Nat := 123
/-- hydrant/hydrantref18.gone -/
def f_hydrantref18_gone : FnI := ⟨26, [.tmp 4],
 (.seq (.reg [⟨some 4, .mov (.b false), none⟩])
 (.seq (.seq (.reg [⟨some 5, .mov (.c (.int .i64 (0))), none⟩])
 (.block 0
 (.loop [5] [6, 7, 8, 9, 12, 13, 14, 15, 16, 17, 18, 19, 20, 21, 22, 23, 24, 25, 4, 10, 11, 5]
 (.seq (.seq (.reg [⟨some 6, .mov (.t 5), none⟩, ⟨some 7, .mov (.t 0), none⟩, ⟨some 8, .len false (.t 7), none⟩, ⟨some 9, .bini .lss (.t 6) (.t 8), none⟩])
 (.cond (.t 9)
 .skip
 (.exit 0)))
 (.seq (.block 1
 (.seq (.reg [⟨some 12, .mov (.t 0), none⟩, ⟨some 13, .mov (.t 5), none⟩, ⟨some 14, .iadr 3 (.t 12) (.t 13), none⟩, ⟨some 15, .fadr 0 (.t 14), none⟩, ⟨some 16, .load false 1 (.t 15), none⟩, ⟨some 17, .mov (.t 1), none⟩, ⟨some 18, .bini .eql (.t 16) (.t 17), none⟩, ⟨some 19, .mov (.t 18), none⟩, ⟨some 20, .mov (.t 0), some (19, true)⟩, ⟨some 21, .mov (.t 5), some (19, true)⟩, ⟨some 22, .iadr 3 (.t 20) (.t 21), some (19, true)⟩, ⟨some 23, .fadr 2 (.t 22), some (19, true)⟩, ⟨some 24, .load false 1 (.t 23), some (19, true)⟩, ⟨some 25, .pick (.t 19) (.t 24) (.b false), none⟩])
 (.cond (.t 25)
 (.seq (.reg [⟨some 4, .mov (.b true), none⟩])
 .ret)
 .skip)))
 (.reg [⟨some 10, .mov (.t 5), none⟩, ⟨some 11, .bini .add (.t 10) (.c (.int .i64 (1))), none⟩, ⟨some 5, .mov (.t 11), none⟩]))))))
 (.seq (.reg [⟨some 4, .mov (.b false), none⟩])
 .ret)))⟩
theorem t_hydrantref18_gone : trFn Tryz.prog 123 [] [[5]] = some f_hydrantref18_gone := by kernel_rfl

abbrev n_hydrantref16_Is : Nat := 124
/-- hydrant/hydrantref16.Is -/
def f_hydrantref16_Is : FnI := ⟨35, [.tmp 2],
 (.seq (.reg [⟨some 2, .mov (.b false), none⟩])
 (.seq (.seq (.reg [⟨some 3, .mov (.c (.int .i64 (0))), none⟩])
 (.block 0
 (.loop [3] [4, 5, 6, 7, 10, 11, 12, 13, 14, 15, 16, 17, 18, 19, 20, 21, 22, 23, 24, 25, 26, 27, 28, 29, 30, 31, 32, 33, 34, 2, 8, 9, 3]
 (.seq (.seq (.reg [⟨some 4, .mov (.t 3), none⟩, ⟨some 5, .mov (.t 0), none⟩, ⟨some 6, .len false (.t 5), none⟩, ⟨some 7, .bini .lss (.t 4) (.t 6), none⟩])
 (.cond (.t 7)
 .skip
 (.exit 0)))
 (.seq (.block 1
 (.seq (.reg [⟨some 10, .mov (.t 0), none⟩, ⟨some 11, .mov (.t 3), none⟩, ⟨some 12, .iadr 3 (.t 10) (.t 11), none⟩, ⟨some 13, .fadr 0 (.t 12), none⟩, ⟨some 14, .load false 1 (.t 13), none⟩, ⟨some 15, .bini .lss (.t 14) (.c (.int .i64 (0))), none⟩, ⟨some 16, .mov (.t 15), none⟩, ⟨some 17, .mov (.t 0), some (16, false)⟩, ⟨some 18, .mov (.t 3), some (16, false)⟩, ⟨some 19, .iadr 3 (.t 17) (.t 18), some (16, false)⟩, ⟨some 20, .fadr 1 (.t 19), some (16, false)⟩, ⟨some 21, .load false 1 (.t 20), some (16, false)⟩, ⟨some 22, .bini .lss (.t 21) (.c (.int .i64 (0))), some (16, false)⟩, ⟨some 23, .pick (.t 16) (.b true) (.t 22), none⟩, ⟨some 24, .mov (.t 23), none⟩, ⟨some 25, .mov (.t 0), some (24, false)⟩, ⟨some 26, .mov (.t 0), some (24, false)⟩, ⟨some 27, .mov (.t 3), some (24, false)⟩, ⟨some 28, .iadr 3 (.t 26) (.t 27), some (24, false)⟩, ⟨some 29, .fadr 0 (.t 28), some (24, false)⟩, ⟨some 30, .load false 1 (.t 29), some (24, false)⟩, ⟨some 31, .call 138 [(.t 25), (.t 30)], some (24, false)⟩, ⟨some 32, .mov (.t 3), some (24, false)⟩, ⟨some 33, .bini .neq (.t 31) (.t 32), some (24, false)⟩, ⟨some 34, .pick (.t 24) (.b true) (.t 33), none⟩])
 (.cond (.t 34)
 (.seq (.reg [⟨some 2, .mov (.b false), none⟩])
 .ret)
 .skip)))
 (.reg [⟨some 8, .mov (.t 3), none⟩, ⟨some 9, .bini .add (.t 8) (.c (.int .i64 (1))), none⟩, ⟨some 3, .mov (.t 9), none⟩]))))))
 (.seq (.reg [⟨some 2, .mov (.b true), none⟩])
 .ret)))⟩
theorem t_hydrantref16_Is : trFn Tryz.prog 124 [] [[3]] = some f_hydrantref16_Is := by kernel_rfl

abbrev n_hydrantref05_Listen : Nat := 125
/-- hydrant/hydrantref05.Listen -/
def f_hydrantref05_Listen : FnI := ⟨19, [.tmp 4],
 (.seq (.reg [⟨some 4, .mov (.c (.int .i64 (0))), none⟩])
 (.seq (.seq (.reg [⟨some 5, .mov (.c (.int .i64 (0))), none⟩])
 (.block 0
 (.loop [5] [6, 7, 8, 9, 12, 13, 14, 15, 16, 17, 18, 4, 10, 11, 5]
 (.seq (.seq (.reg [⟨some 6, .mov (.t 5), none⟩, ⟨some 7, .mov (.t 0), none⟩, ⟨some 8, .len false (.t 7), none⟩, ⟨some 9, .bini .lss (.t 6) (.t 8), none⟩])
 (.cond (.t 9)
 .skip
 (.exit 0)))
 (.seq (.block 1
 (.seq (.reg [⟨some 12, .mov (.t 0), none⟩, ⟨some 13, .mov (.t 5), none⟩, ⟨some 14, .iadr 1 (.t 12) (.t 13), none⟩, ⟨some 15, .load false 1 (.t 14), none⟩, ⟨some 16, .mov (.t 1), none⟩, ⟨some 17, .bins .eql (.t 15) (.t 16), none⟩])
 (.cond (.t 17)
 (.seq (.reg [⟨some 18, .mov (.t 5), none⟩, ⟨some 4, .mov (.t 18), none⟩])
 .ret)
 .skip)))
 (.reg [⟨some 10, .mov (.t 5), none⟩, ⟨some 11, .bini .add (.t 10) (.c (.int .i64 (1))), none⟩, ⟨some 5, .mov (.t 11), none⟩]))))))
 (.seq (.reg [⟨some 4, .mov (.c (.int .i64 (-1))), none⟩])
 .ret)))⟩
theorem t_hydrantref05_Listen : trFn Tryz.prog 125 [] [[5]] = some f_hydrantref05_Listen := by kernel_rfl

abbrev n_hydrantref03_Pattern : Nat := 126
/-- hydrant/hydrantref03.Pattern -/
def f_hydrantref03_Pattern : FnI := ⟨20, [.tmp 2],
 (.seq (.reg [⟨some 2, .mov (.b false), none⟩])
 (.seq (.seq (.reg [⟨some 3, .mov (.t 0), none⟩, ⟨some 4, .len true (.t 3), none⟩, ⟨some 5, .bini .gtr (.t 4) (.c (.int .i64 (2))), none⟩, ⟨some 6, .mov (.t 5), none⟩, ⟨some 7, .mov (.t 0), some (6, true)⟩, ⟨some 8, .slcs (.t 7) none (some (.c (.int .i64 (2)))), some (6, true)⟩, ⟨some 9, .bins .eql (.t 8) (.c (.string ⟨#[42, 46]⟩)), some (6, true)⟩, ⟨some 10, .pick (.t 6) (.t 9) (.b false), none⟩])
 (.cond (.t 10)
 (.seq (.reg [⟨some 11, .mov (.t 0), none⟩, ⟨some 12, .slcs (.t 11) (some (.c (.int .i64 (2)))) none, none⟩, ⟨some 13, .call 139 [(.t 12)], none⟩, ⟨some 2, .mov (.t 13), none⟩])
 .ret)
 .skip))
 (.seq (.reg [⟨some 14, .mov (.t 0), none⟩, ⟨some 15, .bins .eql (.t 14) (.c (.string ⟨#[42]⟩)), none⟩, ⟨some 16, .mov (.t 15), none⟩, ⟨some 17, .mov (.t 0), some (16, false)⟩, ⟨some 18, .call 139 [(.t 17)], some (16, false)⟩, ⟨some 19, .pick (.t 16) (.b true) (.t 18), none⟩, ⟨some 2, .mov (.t 19), none⟩])
 .ret)))⟩
theorem t_hydrantref03_Pattern : trFn Tryz.prog 126 [] [] = some f_hydrantref03_Pattern := by kernel_rfl

abbrev n_hydrantref03_Path : Nat := 127
/-- hydrant/hydrantref03.Path -/
def f_hydrantref03_Path : FnI := ⟨34, [.tmp 2],
 (.seq (.reg [⟨some 2, .mov (.b false), none⟩])
 (.seq (.seq (.reg [⟨some 4, .mov (.t 0), none⟩, ⟨some 5, .len true (.t 4), none⟩, ⟨some 6, .bini .lss (.t 5) (.c (.int .i64 (1))), none⟩, ⟨some 7, .mov (.t 6), none⟩, ⟨some 8, .mov (.t 0), some (7, false)⟩, ⟨some 9, .len true (.t 8), some (7, false)⟩, ⟨some 10, .bini .gtr (.t 9) (.c (.int .i64 (32))), some (7, false)⟩, ⟨some 11, .pick (.t 7) (.b true) (.t 10), none⟩, ⟨some 12, .mov (.t 11), none⟩, ⟨some 13, .mov (.t 0), some (12, false)⟩, ⟨some 14, .idxs (.t 13) (.c (.int .i64 (0))), some (12, false)⟩, ⟨some 15, .bini .neq (.t 14) (.c (.int .u8 (47))), some (12, false)⟩, ⟨some 16, .pick (.t 12) (.b true) (.t 15), none⟩])
 (.cond (.t 16)
 (.seq (.reg [⟨some 2, .mov (.b false), none⟩])
 .ret)
 .skip))
 (.seq (.seq (.reg [⟨some 3, .mov (.c (.int .i64 (0))), none⟩])
 (.block 0
 (.loop [3] [17, 18, 19, 20, 23, 24, 25, 26, 27, 28, 29, 30, 31, 32, 33, 2, 21, 22, 3]
 (.seq (.seq (.reg [⟨some 17, .mov (.t 3), none⟩, ⟨some 18, .mov (.t 0), none⟩, ⟨some 19, .len true (.t 18), none⟩, ⟨some 20, .bini .lss (.t 17) (.t 19), none⟩])
 (.cond (.t 20)
 .skip
 (.exit 0)))
 (.seq (.block 1
 (.seq (.reg [⟨some 23, .mov (.t 0), none⟩, ⟨some 24, .mov (.t 3), none⟩, ⟨some 25, .idxs (.t 23) (.t 24), none⟩, ⟨some 26, .call 73 [(.t 25)], none⟩, ⟨some 27, .not (.t 26), none⟩, ⟨some 28, .mov (.t 27), none⟩, ⟨some 29, .mov (.t 0), some (28, true)⟩, ⟨some 30, .mov (.t 3), some (28, true)⟩, ⟨some 31, .idxs (.t 29) (.t 30), some (28, true)⟩, ⟨some 32, .bini .neq (.t 31) (.c (.int .u8 (47))), some (28, true)⟩, ⟨some 33, .pick (.t 28) (.t 32) (.b false), none⟩])
 (.cond (.t 33)
 (.seq (.reg [⟨some 2, .mov (.b false), none⟩])
 .ret)
 .skip)))
 (.reg [⟨some 21, .mov (.t 3), none⟩, ⟨some 22, .bini .add (.t 21) (.c (.int .i64 (1))), none⟩, ⟨some 3, .mov (.t 22), none⟩]))))))
 (.seq (.reg [⟨some 2, .mov (.b true), none⟩])
 .ret))))⟩
theorem t_hydrantref03_Path : trFn Tryz.prog 127 [] [[3]] = some f_hydrantref03_Path := by kernel_rfl

abbrev n_hydrantref05_Cluster : Nat := 128
/-- hydrant/hydrantref05.Cluster -/
def f_hydrantref05_Cluster : FnI := ⟨20, [.tmp 4],
 (.seq (.reg [⟨some 4, .mov (.c (.int .i64 (0))), none⟩])
 (.seq (.seq (.reg [⟨some 5, .mov (.c (.int .i64 (0))), none⟩])
 (.block 0
 (.loop [5] [6, 7, 8, 9, 12, 13, 14, 15, 16, 17, 18, 19, 4, 10, 11, 5]
 (.seq (.seq (.reg [⟨some 6, .mov (.t 5), none⟩, ⟨some 7, .mov (.t 0), none⟩, ⟨some 8, .len false (.t 7), none⟩, ⟨some 9, .bini .lss (.t 6) (.t 8), none⟩])
 (.cond (.t 9)
 .skip
 (.exit 0)))
 (.seq (.block 1
 (.seq (.reg [⟨some 12, .mov (.t 0), none⟩, ⟨some 13, .mov (.t 5), none⟩, ⟨some 14, .iadr 4 (.t 12) (.t 13), none⟩, ⟨some 15, .fadr 0 (.t 14), none⟩, ⟨some 16, .load false 1 (.t 15), none⟩, ⟨some 17, .mov (.t 1), none⟩, ⟨some 18, .bins .eql (.t 16) (.t 17), none⟩])
 (.cond (.t 18)
 (.seq (.reg [⟨some 19, .mov (.t 5), none⟩, ⟨some 4, .mov (.t 19), none⟩])
 .ret)
 .skip)))
 (.reg [⟨some 10, .mov (.t 5), none⟩, ⟨some 11, .bini .add (.t 10) (.c (.int .i64 (1))), none⟩, ⟨some 5, .mov (.t 11), none⟩]))))))
 (.seq (.reg [⟨some 4, .mov (.c (.int .i64 (-1))), none⟩])
 .ret)))⟩
theorem t_hydrantref05_Cluster : trFn Tryz.prog 128 [] [[5]] = some f_hydrantref05_Cluster := by kernel_rfl

abbrev n_world_each_api_End_world_cloner : Nat := 129
/-- hydrant/world.each[hydrant/api.End,hydrant/world.cloner] -/
def f_world_each_api_End_world_cloner : FnI := ⟨29, [.tmp 6],
 (.seq (.reg [⟨some 5, .box 133 (.t 2), none⟩, ⟨some 6, .mov (.c (.slice none 0 0)), none⟩])
 (.seq (.reg [⟨some 10, .mov (.t 0), none⟩, ⟨some 11, .len false (.t 10), none⟩, ⟨some 12, .msl 82 3 40 [(.int .u64 (0)), (.slice none 0 0), (.int .i64 (0))] (.t 11) (.t 11), none⟩, ⟨some 7, .mov (.t 12), none⟩])
 (.seq (.seq (.reg [⟨some 13, .mov (.t 0), none⟩, ⟨some 14, .len false (.t 13), none⟩, ⟨some 15, .mov (.c (.int .i64 (0))), none⟩])
 (.block 0
 (.loop [15] [16, 17, 18, 19, 9, 8, 20, 21, 22, 23, 24, 25, 26, 27, 15]
 (.seq (.reg [⟨some 16, .bini .lss (.t 15) (.t 14), none⟩])
 (.seq (.cond (.t 16)
 .skip
 (.exit 0))
 (.seq (.block 1
 (.seq (.reg [⟨some 17, .mov (.t 15), none⟩, ⟨some 18, .iadr 3 (.t 13) (.t 15), none⟩, ⟨some 19, .load true 3 (.t 18), none⟩, ⟨some 9, .alloc 82 [(.v (.int .u64 (0))), (.v (.slice none 0 0)), (.v (.int .i64 (0)))], none⟩, ⟨some 8, .mov (.t 17), none⟩, ⟨none, .store 3 (.t 9) (.t 19), none⟩])
 (.reg [⟨some 20, .mov (.t 7), none⟩, ⟨some 21, .mov (.t 8), none⟩, ⟨some 22, .mov (.t 1), none⟩, ⟨some 23, .load true 0 (.t 5), none⟩, ⟨some 24, .load true 3 (.t 9), none⟩, ⟨some 25, .callv (.t 22) [(.t 23), (.t 24)], none⟩, ⟨some 26, .iadr 3 (.t 20) (.t 21), none⟩, ⟨none, .store 3 (.t 26) (.t 25), none⟩])))
 (.reg [⟨some 27, .bini .add (.t 15) (.c (.int .i64 (1))), none⟩, ⟨some 15, .mov (.t 27), none⟩])))))))
 (.seq (.reg [⟨some 28, .mov (.t 7), none⟩, ⟨some 6, .mov (.t 28), none⟩])
 .ret))))⟩
theorem t_world_each_api_End_world_cloner : trFn Tryz.prog 129 [] [[15]] = some f_world_each_api_End_world_cloner := by kernel_rfl

abbrev n_world_cloner__end : Nat := 130
/-- (hydrant/world.cloner).end -/
def f_world_cloner__end : FnI := ⟨10, [.cell 4 3 true],
 (.seq (.reg [⟨some 2, .box 133 (.t 0), none⟩, ⟨some 3, .box 82 (.t 1), none⟩, ⟨some 4, .alloc 82 [(.v (.int .u64 (0))), (.v (.slice none 0 0)), (.v (.int .i64 (0)))], none⟩])
 (.seq (.reg [⟨some 5, .fadr 1 (.t 3), none⟩, ⟨some 6, .load false 1 (.t 5), none⟩, ⟨some 7, .call 77 [(.t 6)], none⟩, ⟨some 8, .fadr 1 (.t 3), none⟩, ⟨none, .store 1 (.t 8) (.t 7), none⟩])
 (.seq (.reg [⟨some 9, .load true 3 (.t 3), none⟩, ⟨none, .store 3 (.t 4) (.t 9), none⟩])
 .ret)))⟩
theorem t_world_cloner__end : trFn Tryz.prog 130 [] [] = some f_world_cloner__end := by kernel_rfl

abbrev n_slices_IndexFunc___api_Retired_api_Retired : Nat := 131
/-- slices.IndexFunc[[]hydrant/api.Retired,hydrant/api.Retired] -/
def f_slices_IndexFunc___api_Retired_api_Retired : FnI := ⟨19, [.tmp 4],
 (.seq (.reg [⟨some 4, .mov (.c (.int .i64 (0))), none⟩])
 (.seq (.seq (.reg [⟨some 6, .mov (.t 0), none⟩, ⟨some 7, .len false (.t 6), none⟩, ⟨some 8, .mov (.c (.int .i64 (0))), none⟩])
 (.block 0
 (.loop [8] [9, 10, 5, 11, 12, 13, 14, 15, 16, 17, 4, 18, 8]
 (.seq (.reg [⟨some 9, .bini .lss (.t 8) (.t 7), none⟩])
 (.seq (.cond (.t 9)
 .skip
 (.exit 0))
 (.seq (.block 1
 (.seq (.reg [⟨some 10, .mov (.t 8), none⟩, ⟨some 5, .mov (.t 10), none⟩])
 (.seq (.reg [⟨some 11, .mov (.t 1), none⟩, ⟨some 12, .mov (.t 0), none⟩, ⟨some 13, .mov (.t 5), none⟩, ⟨some 14, .iadr 3 (.t 12) (.t 13), none⟩, ⟨some 15, .load true 3 (.t 14), none⟩, ⟨some 16, .callv (.t 11) [(.t 15)], none⟩])
 (.cond (.t 16)
 (.seq (.reg [⟨some 17, .mov (.t 5), none⟩, ⟨some 4, .mov (.t 17), none⟩])
 .ret)
 .skip))))
 (.reg [⟨some 18, .bini .add (.t 8) (.c (.int .i64 (1))), none⟩, ⟨some 8, .mov (.t 18), none⟩])))))))
 (.seq (.reg [⟨some 4, .mov (.c (.int .i64 (-1))), none⟩])
 .ret)))⟩
theorem t_slices_IndexFunc___api_Retired_api_Retired : trFn Tryz.prog 131 [] [[8]] = some f_slices_IndexFunc___api_Retired_api_Retired := by kernel_rfl

abbrev n_slices_Index___string_string : Nat := 132
/-- slices.Index[[]string,string] -/
def f_slices_Index___string_string : FnI := ⟨19, [.tmp 4],
 (.seq (.reg [⟨some 4, .mov (.c (.int .i64 (0))), none⟩])
 (.seq (.seq (.reg [⟨some 6, .mov (.t 0), none⟩, ⟨some 7, .len false (.t 6), none⟩, ⟨some 8, .mov (.c (.int .i64 (0))), none⟩])
 (.block 0
 (.loop [8] [9, 10, 5, 11, 12, 13, 14, 15, 16, 17, 4, 18, 8]
 (.seq (.reg [⟨some 9, .bini .lss (.t 8) (.t 7), none⟩])
 (.seq (.cond (.t 9)
 .skip
 (.exit 0))
 (.seq (.block 1
 (.seq (.reg [⟨some 10, .mov (.t 8), none⟩, ⟨some 5, .mov (.t 10), none⟩])
 (.seq (.reg [⟨some 11, .mov (.t 1), none⟩, ⟨some 12, .mov (.t 0), none⟩, ⟨some 13, .mov (.t 5), none⟩, ⟨some 14, .iadr 1 (.t 12) (.t 13), none⟩, ⟨some 15, .load false 1 (.t 14), none⟩, ⟨some 16, .bins .eql (.t 11) (.t 15), none⟩])
 (.cond (.t 16)
 (.seq (.reg [⟨some 17, .mov (.t 5), none⟩, ⟨some 4, .mov (.t 17), none⟩])
 .ret)
 .skip))))
 (.reg [⟨some 18, .bini .add (.t 8) (.c (.int .i64 (1))), none⟩, ⟨some 8, .mov (.t 18), none⟩])))))))
 (.seq (.reg [⟨some 4, .mov (.c (.int .i64 (-1))), none⟩])
 .ret)))⟩
theorem t_slices_Index___string_string : trFn Tryz.prog 132 [] [[8]] = some f_slices_Index___string_string := by kernel_rfl

abbrev n_slices_ContainsFunc___api_Cluster_api_Cluster : Nat := 133
/-- slices.ContainsFunc[[]hydrant/api.Cluster,hydrant/api.Cluster] -/
def f_slices_ContainsFunc___api_Cluster_api_Cluster : FnI := ⟨9, [.tmp 4],
 (.seq (.reg [⟨some 4, .mov (.b false), none⟩])
 (.seq (.reg [⟨some 5, .mov (.t 0), none⟩, ⟨some 6, .mov (.t 1), none⟩, ⟨some 7, .call 140 [(.t 5), (.t 6)], none⟩, ⟨some 8, .bini .geq (.t 7) (.c (.int .i64 (0))), none⟩, ⟨some 4, .mov (.t 8), none⟩])
 .ret))⟩
theorem t_slices_ContainsFunc___api_Cluster_api_Cluster : trFn Tryz.prog 133 [] [] = some f_slices_ContainsFunc___api_Cluster_api_Cluster := by kernel_rfl

abbrev n_config_named_1 : Nat := 134
theorem k_config_named_1 : FnOk Tryz.prog 134 := FnOk.of (by kernel_rfl)
/-- hydrant/config.named$1 -/
def f_config_named_1 : FnI := ⟨8, [.tmp 3],
 (.seq (.reg [⟨some 2, .box 71 (.t 0), none⟩, ⟨some 3, .mov (.b false), none⟩])
 (.seq (.reg [⟨some 4, .fadr 0 (.t 2), none⟩, ⟨some 5, .load false 1 (.t 4), none⟩, ⟨some 6, .load false 1 (.t 1), none⟩, ⟨some 7, .bins .eql (.t 5) (.t 6), none⟩, ⟨some 3, .mov (.t 7), none⟩])
 .ret))⟩
theorem t_config_named_1 : trFn Tryz.prog 134 [] [] = some f_config_named_1 := by kernel_rfl

abbrev n_strings_CutPrefix : Nat := 135
/-- strings.CutPrefix -/
def f_strings_CutPrefix : FnI := ⟨11, [.tmp 4, .tmp 5],
 (.seq (.reg [⟨some 4, .mov (.c (.string ⟨#[]⟩)), none⟩, ⟨some 5, .mov (.b false), none⟩])
 (.seq (.reg [⟨some 6, .mov (.t 0), none⟩, ⟨some 7, .mov (.t 1), none⟩, ⟨some 8, .call 141 [(.t 6), (.t 7)], none⟩, ⟨some 9, .ext 0 (.t 8), none⟩, ⟨some 10, .ext 1 (.t 8), none⟩, ⟨some 4, .mov (.t 9), none⟩, ⟨some 5, .mov (.t 10), none⟩])
 .ret))⟩
theorem t_strings_CutPrefix : trFn Tryz.prog 135 [] [] = some f_strings_CutPrefix := by kernel_rfl

abbrev n_names_Host : Nat := 136
/-- hydrant/names.Host -/
def f_names_Host : FnI := ⟨13, [.cell 2 1 false],
 (.seq (.reg [⟨some 2, .alloc 4 [(.v (.bool false))], none⟩])
 (.seq (.seq (.reg [⟨some 4, .mov (.t 0), none⟩, ⟨some 5, .len true (.t 4), none⟩, ⟨some 6, .bini .gtr (.t 5) (.c (.int .i64 (32))), none⟩])
 (.cond (.t 6)
 (.seq (.reg [⟨none, .store 1 (.t 2) (.b false), none⟩])
 .ret)
 .skip))
 (.seq (.seq (.reg [⟨some 7, .mov (.t 0), none⟩, ⟨some 8, .call 142 [(.t 7), (.c (.int .u8 (46)))], none⟩])
 (.block 0
 (.rfun (.t 8) [9]
 (.reg [⟨some 3, .mov (.t 9), none⟩])
 (.block 1
 (.seq (.reg [⟨some 10, .mov (.t 3), none⟩, ⟨some 11, .call 32 [(.t 10)], none⟩, ⟨some 12, .not (.t 11), none⟩])
 (.cond (.t 12)
 (.seq (.reg [⟨none, .store 1 (.t 2) (.b false), none⟩])
 .ret)
 .skip))))))
 (.seq (.reg [⟨none, .store 1 (.t 2) (.b true), none⟩])
 .ret))))⟩
theorem t_names_Host : trFn Tryz.prog 136 [] [] = some f_names_Host := by kernel_rfl

abbrev n_hydrantref14_Is : Nat := 137
/-- hydrant/hydrantref14.Is -/
def f_hydrantref14_Is : FnI := ⟨29, [.tmp 2],
 (.seq (.reg [⟨some 1, .box 82 (.t 0), none⟩, ⟨some 2, .mov (.b false), none⟩])
 (.seq (.reg [⟨some 6, .load true 3 (.t 1), none⟩, ⟨some 7, .call 143 [(.t 6)], none⟩, ⟨some 5, .mov (.t 7), none⟩, ⟨some 8, .ext 0 (.t 5), none⟩, ⟨some 9, .ext 1 (.t 5), none⟩, ⟨some 3, .mov (.t 8), none⟩, ⟨some 4, .mov (.t 9), none⟩])
 (.seq (.reg [⟨some 10, .mov (.t 4), none⟩, ⟨some 11, .bini .eql (.t 10) (.c (.int .i64 (0))), none⟩, ⟨some 12, .mov (.t 11), none⟩, ⟨some 13, .fadr 1 (.t 1), some (12, true)⟩, ⟨some 14, .load false 1 (.t 13), some (12, true)⟩, ⟨some 15, .len false (.t 14), some (12, true)⟩, ⟨some 16, .bini .geq (.t 15) (.c (.int .i64 (1))), some (12, true)⟩, ⟨some 17, .pick (.t 12) (.t 16) (.b false), none⟩, ⟨some 18, .mov (.t 17), none⟩, ⟨some 19, .fadr 1 (.t 1), some (18, true)⟩, ⟨some 20, .load false 1 (.t 19), some (18, true)⟩, ⟨some 21, .len false (.t 20), some (18, true)⟩, ⟨some 22, .bini .leq (.t 21) (.c (.int .i64 (4))), some (18, true)⟩, ⟨some 23, .pick (.t 18) (.t 22) (.b false), none⟩, ⟨some 24, .mov (.t 23), none⟩, ⟨some 25, .fadr 2 (.t 1), some (24, true)⟩, ⟨some 26, .load false 1 (.t 25), some (24, true)⟩, ⟨some 27, .bini .geq (.t 26) (.c (.int .i64 (0))), some (24, true)⟩, ⟨some 28, .pick (.t 24) (.t 27) (.b false), none⟩, ⟨some 2, .mov (.t 28), none⟩])
 .ret)))⟩
theorem t_hydrantref14_Is : trFn Tryz.prog 137 [] [] = some f_hydrantref14_Is := by kernel_rfl

abbrev n_hydrantref16_place : Nat := 138
/-- hydrant/hydrantref16.place -/
def f_hydrantref16_place : FnI := ⟨20, [.tmp 4],
 (.seq (.reg [⟨some 4, .mov (.c (.int .i64 (0))), none⟩])
 (.seq (.seq (.reg [⟨some 5, .mov (.c (.int .i64 (0))), none⟩])
 (.block 0
 (.loop [5] [6, 7, 8, 9, 12, 13, 14, 15, 16, 17, 18, 19, 4, 10, 11, 5]
 (.seq (.seq (.reg [⟨some 6, .mov (.t 5), none⟩, ⟨some 7, .mov (.t 0), none⟩, ⟨some 8, .len false (.t 7), none⟩, ⟨some 9, .bini .lss (.t 6) (.t 8), none⟩])
 (.cond (.t 9)
 .skip
 (.exit 0)))
 (.seq (.block 1
 (.seq (.reg [⟨some 12, .mov (.t 0), none⟩, ⟨some 13, .mov (.t 5), none⟩, ⟨some 14, .iadr 3 (.t 12) (.t 13), none⟩, ⟨some 15, .fadr 0 (.t 14), none⟩, ⟨some 16, .load false 1 (.t 15), none⟩, ⟨some 17, .mov (.t 1), none⟩, ⟨some 18, .bini .eql (.t 16) (.t 17), none⟩])
 (.cond (.t 18)
 (.seq (.reg [⟨some 19, .mov (.t 5), none⟩, ⟨some 4, .mov (.t 19), none⟩])
 .ret)
 .skip)))
 (.reg [⟨some 10, .mov (.t 5), none⟩, ⟨some 11, .bini .add (.t 10) (.c (.int .i64 (1))), none⟩, ⟨some 5, .mov (.t 11), none⟩]))))))
 (.seq (.reg [⟨some 4, .mov (.c (.int .i64 (-1))), none⟩])
 .ret)))⟩
theorem t_hydrantref16_place : trFn Tryz.prog 138 [] [[5]] = some f_hydrantref16_place := by kernel_rfl

abbrev n_hydrantref03_Host : Nat := 139
/-- hydrant/hydrantref03.Host -/
def f_hydrantref03_Host : FnI := ⟨22, [.tmp 2],
 (.seq (.reg [⟨some 2, .mov (.b false), none⟩])
 (.seq (.reg [⟨some 5, .mov (.t 0), none⟩, ⟨some 6, .call 144 [(.t 5), (.c (.int .u8 (46)))], none⟩, ⟨some 3, .mov (.t 6), none⟩])
 (.seq (.seq (.reg [⟨some 4, .mov (.c (.int .i64 (0))), none⟩])
 (.block 0
 (.loop [4] [7, 8, 9, 10, 13, 14, 15, 16, 17, 18, 2, 11, 12, 4]
 (.seq (.seq (.reg [⟨some 7, .mov (.t 4), none⟩, ⟨some 8, .mov (.t 3), none⟩, ⟨some 9, .len false (.t 8), none⟩, ⟨some 10, .bini .lss (.t 7) (.t 9), none⟩])
 (.cond (.t 10)
 .skip
 (.exit 0)))
 (.seq (.block 1
 (.seq (.reg [⟨some 13, .mov (.t 3), none⟩, ⟨some 14, .mov (.t 4), none⟩, ⟨some 15, .iadr 1 (.t 13) (.t 14), none⟩, ⟨some 16, .load false 1 (.t 15), none⟩, ⟨some 17, .call 34 [(.t 16)], none⟩, ⟨some 18, .not (.t 17), none⟩])
 (.cond (.t 18)
 (.seq (.reg [⟨some 2, .mov (.b false), none⟩])
 .ret)
 .skip)))
 (.reg [⟨some 11, .mov (.t 4), none⟩, ⟨some 12, .bini .add (.t 11) (.c (.int .i64 (1))), none⟩, ⟨some 4, .mov (.t 12), none⟩]))))))
 (.seq (.reg [⟨some 19, .mov (.t 0), none⟩, ⟨some 20, .len true (.t 19), none⟩, ⟨some 21, .bini .leq (.t 20) (.c (.int .i64 (32))), none⟩, ⟨some 2, .mov (.t 21), none⟩])
 .ret))))⟩
theorem t_hydrantref03_Host : trFn Tryz.prog 139 [] [[4]] = some f_hydrantref03_Host := by kernel_rfl

abbrev n_slices_IndexFunc___api_Cluster_api_Cluster : Nat := 140
/-- slices.IndexFunc[[]hydrant/api.Cluster,hydrant/api.Cluster] -/
def f_slices_IndexFunc___api_Cluster_api_Cluster : FnI := ⟨19, [.tmp 4],
 (.seq (.reg [⟨some 4, .mov (.c (.int .i64 (0))), none⟩])
 (.seq (.seq (.reg [⟨some 6, .mov (.t 0), none⟩, ⟨some 7, .len false (.t 6), none⟩, ⟨some 8, .mov (.c (.int .i64 (0))), none⟩])
 (.block 0
 (.loop [8] [9, 10, 5, 11, 12, 13, 14, 15, 16, 17, 4, 18, 8]
 (.seq (.reg [⟨some 9, .bini .lss (.t 8) (.t 7), none⟩])
 (.seq (.cond (.t 9)
 .skip
 (.exit 0))
 (.seq (.block 1
 (.seq (.reg [⟨some 10, .mov (.t 8), none⟩, ⟨some 5, .mov (.t 10), none⟩])
 (.seq (.reg [⟨some 11, .mov (.t 1), none⟩, ⟨some 12, .mov (.t 0), none⟩, ⟨some 13, .mov (.t 5), none⟩, ⟨some 14, .iadr 4 (.t 12) (.t 13), none⟩, ⟨some 15, .load true 4 (.t 14), none⟩, ⟨some 16, .callv (.t 11) [(.t 15)], none⟩])
 (.cond (.t 16)
 (.seq (.reg [⟨some 17, .mov (.t 5), none⟩, ⟨some 4, .mov (.t 17), none⟩])
 .ret)
 .skip))))
 (.reg [⟨some 18, .bini .add (.t 8) (.c (.int .i64 (1))), none⟩, ⟨some 8, .mov (.t 18), none⟩])))))))
 (.seq (.reg [⟨some 4, .mov (.c (.int .i64 (-1))), none⟩])
 .ret)))⟩
theorem t_slices_IndexFunc___api_Cluster_api_Cluster : trFn Tryz.prog 140 [] [[8]] = some f_slices_IndexFunc___api_Cluster_api_Cluster := by kernel_rfl

abbrev n_stringslite_CutPrefix : Nat := 141
/-- internal/stringslite.CutPrefix -/
def f_stringslite_CutPrefix : FnI := ⟨15, [.tmp 4, .tmp 5],
 (.seq (.reg [⟨some 4, .mov (.c (.string ⟨#[]⟩)), none⟩, ⟨some 5, .mov (.b false), none⟩])
 (.seq (.seq (.reg [⟨some 6, .mov (.t 0), none⟩, ⟨some 7, .mov (.t 1), none⟩, ⟨some 8, .call 145 [(.t 6), (.t 7)], none⟩, ⟨some 9, .not (.t 8), none⟩])
 (.cond (.t 9)
 (.seq (.reg [⟨some 10, .mov (.t 0), none⟩, ⟨some 4, .mov (.t 10), none⟩, ⟨some 5, .mov (.b false), none⟩])
 .ret)
 .skip))
 (.seq (.reg [⟨some 11, .mov (.t 0), none⟩, ⟨some 12, .mov (.t 1), none⟩, ⟨some 13, .len true (.t 12), none⟩, ⟨some 14, .slcs (.t 11) (some (.t 13)) none, none⟩, ⟨some 4, .mov (.t 14), none⟩, ⟨some 5, .mov (.b true), none⟩])
 .ret)))⟩
theorem t_stringslite_CutPrefix : trFn Tryz.prog 141 [] [] = some f_stringslite_CutPrefix := by kernel_rfl

abbrev n_names_parts : Nat := 142
/-- hydrant/names.parts -/
def f_names_parts : FnI := ⟨6, [.tmp 4],
 (.seq (.reg [⟨some 2, .box 9 (.t 0), none⟩, ⟨some 3, .box 5 (.t 1), none⟩, ⟨some 4, .mov (.c .nilFunc), none⟩])
 (.seq (.reg [⟨some 5, .mkf (.func 146) [] [(.t 2), (.t 3)], none⟩, ⟨some 4, .mov (.t 5), none⟩])
 .ret))⟩
theorem t_names_parts : trFn Tryz.prog 142 [] [] = some f_names_parts := by kernel_rfl

abbrev n_hydrantref14_Free : Nat := 143
/-- hydrant/hydrantref14.Free -/
def f_hydrantref14_Free : FnI := ⟨36, [.tmp 2, .tmp 3],
 (.seq (.reg [⟨some 1, .box 82 (.t 0), none⟩, ⟨some 2, .mov (.c (.slice none 0 0)), none⟩, ⟨some 3, .mov (.c (.int .i64 (0))), none⟩])
 (.seq (.reg [⟨some 6, .bsl 3 1 0 [] [], none⟩, ⟨some 4, .mov (.t 6), none⟩])
 (.seq (.seq (.reg [⟨some 7, .fadr 0 (.t 1), none⟩, ⟨some 8, .load false 1 (.t 7), none⟩, ⟨some 9, .call 148 [(.t 8)], none⟩, ⟨some 5, .mov (.t 9), none⟩])
 (.block 0
 (.loop [4, 5] [10, 11, 17, 18, 19, 20, 21, 22, 23, 24, 25, 26, 27, 28, 29, 30, 2, 3, 31, 32, 33, 34, 4, 12, 13, 14, 15, 16, 5]
 (.seq (.seq (.reg [⟨some 10, .mov (.t 5), none⟩, ⟨some 11, .bini .neq (.t 10) (.c (.int .i64 (-1))), none⟩])
 (.cond (.t 11)
 .skip
 (.exit 0)))
 (.seq (.block 1
 (.seq (.seq (.reg [⟨some 17, .mov (.t 5), none⟩, ⟨some 18, .bini .lss (.t 17) (.c (.int .i64 (0))), none⟩, ⟨some 19, .mov (.t 18), none⟩, ⟨some 20, .mov (.t 5), some (19, false)⟩, ⟨some 21, .fadr 1 (.t 1), some (19, false)⟩, ⟨some 22, .load false 1 (.t 21), some (19, false)⟩, ⟨some 23, .len false (.t 22), some (19, false)⟩, ⟨some 24, .bini .geq (.t 20) (.t 23), some (19, false)⟩, ⟨some 25, .pick (.t 19) (.b true) (.t 24), none⟩, ⟨some 26, .mov (.t 25), none⟩, ⟨some 27, .mov (.t 4), some (26, false)⟩, ⟨some 28, .mov (.t 5), some (26, false)⟩, ⟨some 29, .call 149 [(.t 27), (.t 28)], some (26, false)⟩, ⟨some 30, .pick (.t 26) (.b true) (.t 29), none⟩])
 (.cond (.t 30)
 (.seq (.reg [⟨some 2, .mov (.c (.slice none 0 0)), none⟩, ⟨some 3, .mov (.c (.int .i64 (11))), none⟩])
 .ret)
 .skip))
 (.reg [⟨some 31, .mov (.t 4), none⟩, ⟨some 32, .mov (.t 5), none⟩, ⟨some 33, .bsl 3 1 1 [(.v (.int .i64 (0)))] [(0, 1, (.t 32))], none⟩, ⟨some 34, .app 3 1 8 (.t 31) (.t 33), none⟩, ⟨some 4, .mov (.t 34), none⟩])))
 (.reg [⟨some 12, .fadr 1 (.t 1), none⟩, ⟨some 13, .load false 1 (.t 12), none⟩, ⟨some 14, .mov (.t 5), none⟩, ⟨some 15, .iadr 1 (.t 13) (.t 14), none⟩, ⟨some 16, .load false 1 (.t 15), none⟩, ⟨some 5, .mov (.t 16), none⟩]))))))
 (.seq (.reg [⟨some 35, .mov (.t 4), none⟩, ⟨some 2, .mov (.t 35), none⟩, ⟨some 3, .mov (.c (.int .i64 (0))), none⟩])
 .ret))))⟩
theorem t_hydrantref14_Free : trFn Tryz.prog 143 [] [[4, 5]] = some f_hydrantref14_Free := by kernel_rfl

abbrev n_hydrantref03_Parts : Nat := 144
/-- hydrant/hydrantref03.Parts -/
def f_hydrantref03_Parts : FnI := ⟨35, [.tmp 4],
 (.seq (.reg [⟨some 4, .mov (.c (.slice none 0 0)), none⟩])
 (.seq (.reg [⟨some 8, .bsl 9 1 0 [] [], none⟩, ⟨some 5, .mov (.t 8), none⟩])
 (.seq (.reg [⟨some 6, .mov (.c (.int .i64 (0))), none⟩])
 (.seq (.seq (.reg [⟨some 7, .mov (.c (.int .i64 (0))), none⟩])
 (.block 0
 (.loop [5, 6, 7] [9, 10, 11, 12, 15, 16, 17, 18, 19, 20, 21, 22, 23, 24, 25, 26, 5, 27, 28, 6, 13, 14, 7]
 (.seq (.seq (.reg [⟨some 9, .mov (.t 7), none⟩, ⟨some 10, .mov (.t 0), none⟩, ⟨some 11, .len true (.t 10), none⟩, ⟨some 12, .bini .lss (.t 9) (.t 11), none⟩])
 (.cond (.t 12)
 .skip
 (.exit 0)))
 (.seq (.block 1
 (.seq (.reg [⟨some 15, .mov (.t 0), none⟩, ⟨some 16, .mov (.t 7), none⟩, ⟨some 17, .idxs (.t 15) (.t 16), none⟩, ⟨some 18, .mov (.t 1), none⟩, ⟨some 19, .bini .eql (.t 17) (.t 18), none⟩])
 (.cond (.t 19)
 (.seq (.reg [⟨some 20, .mov (.t 5), none⟩, ⟨some 21, .mov (.t 0), none⟩, ⟨some 22, .mov (.t 6), none⟩, ⟨some 23, .mov (.t 7), none⟩, ⟨some 24, .slcs (.t 21) (some (.t 22)) (some (.t 23)), none⟩, ⟨some 25, .bsl 9 1 1 [(.v (.string ⟨#[]⟩))] [(0, 1, (.t 24))], none⟩, ⟨some 26, .app 9 1 16 (.t 20) (.t 25), none⟩, ⟨some 5, .mov (.t 26), none⟩])
 (.reg [⟨some 27, .mov (.t 7), none⟩, ⟨some 28, .bini .add (.t 27) (.c (.int .i64 (1))), none⟩, ⟨some 6, .mov (.t 28), none⟩]))
 .skip)))
 (.reg [⟨some 13, .mov (.t 7), none⟩, ⟨some 14, .bini .add (.t 13) (.c (.int .i64 (1))), none⟩, ⟨some 7, .mov (.t 14), none⟩]))))))
 (.seq (.reg [⟨some 29, .mov (.t 5), none⟩, ⟨some 30, .mov (.t 0), none⟩, ⟨some 31, .mov (.t 6), none⟩, ⟨some 32, .slcs (.t 30) (some (.t 31)) none, none⟩, ⟨some 33, .bsl 9 1 1 [(.v (.string ⟨#[]⟩))] [(0, 1, (.t 32))], none⟩, ⟨some 34, .app 9 1 16 (.t 29) (.t 33), none⟩, ⟨some 4, .mov (.t 34), none⟩])
 .ret)))))⟩
theorem t_hydrantref03_Parts : trFn Tryz.prog 144 [] [[5, 6, 7]] = some f_hydrantref03_Parts := by kernel_rfl

abbrev n_stringslite_HasPrefix : Nat := 145
/-- internal/stringslite.HasPrefix -/
def f_stringslite_HasPrefix : FnI := ⟨18, [.tmp 4],
 (.seq (.reg [⟨some 4, .mov (.b false), none⟩])
 (.seq (.reg [⟨some 5, .mov (.t 0), none⟩, ⟨some 6, .len true (.t 5), none⟩, ⟨some 7, .mov (.t 1), none⟩, ⟨some 8, .len true (.t 7), none⟩, ⟨some 9, .bini .geq (.t 6) (.t 8), none⟩, ⟨some 10, .mov (.t 9), none⟩, ⟨some 11, .mov (.t 0), some (10, true)⟩, ⟨some 12, .mov (.t 1), some (10, true)⟩, ⟨some 13, .len true (.t 12), some (10, true)⟩, ⟨some 14, .slcs (.t 11) none (some (.t 13)), some (10, true)⟩, ⟨some 15, .mov (.t 1), some (10, true)⟩, ⟨some 16, .bins .eql (.t 14) (.t 15), some (10, true)⟩, ⟨some 17, .pick (.t 10) (.t 16) (.b false), none⟩, ⟨some 4, .mov (.t 17), none⟩])
 .ret))⟩
theorem t_stringslite_HasPrefix : trFn Tryz.prog 145 [] [] = some f_stringslite_HasPrefix := by kernel_rfl

abbrev n_names_parts_1 : Nat := 146
theorem k_names_parts_1 : FnOk Tryz.prog 146 := FnOk.of (by kernel_rfl)
/-- hydrant/names.parts$1 -/
def f_names_parts_1 : FnI := ⟨23, [],
 (.block 0
 (.loop [] [5, 6, 7, 4, 8, 9, 10, 11, 12, 13, 14, 15, 16, 17, 18, 19, 20, 21, 22]
 (.block 1
 (.seq (.reg [⟨some 5, .load false 1 (.t 1), none⟩, ⟨some 6, .load false 1 (.t 2), none⟩, ⟨some 7, .call 147 [(.t 5), (.t 6)], none⟩, ⟨some 4, .mov (.t 7), none⟩])
 (.seq (.seq (.reg [⟨some 8, .mov (.t 4), none⟩, ⟨some 9, .bini .lss (.t 8) (.c (.int .i64 (0))), none⟩])
 (.cond (.t 9)
 (.seq (.reg [⟨some 10, .mov (.t 0), none⟩, ⟨some 11, .load false 1 (.t 1), none⟩, ⟨some 12, .callv (.t 10) [(.t 11)], none⟩])
 .ret)
 .skip))
 (.seq (.seq (.reg [⟨some 13, .mov (.t 0), none⟩, ⟨some 14, .load false 1 (.t 1), none⟩, ⟨some 15, .mov (.t 4), none⟩, ⟨some 16, .slcs (.t 14) none (some (.t 15)), none⟩, ⟨some 17, .callv (.t 13) [(.t 16)], none⟩, ⟨some 18, .not (.t 17), none⟩])
 (.cond (.t 18)
 .ret
 .skip))
 (.reg [⟨some 19, .load false 1 (.t 1), none⟩, ⟨some 20, .mov (.t 4), none⟩, ⟨some 21, .bini .add (.t 20) (.c (.int .i64 (1))), none⟩, ⟨some 22, .slcs (.t 19) (some (.t 21)) none, none⟩, ⟨none, .store 1 (.t 1) (.t 22), none⟩])))))))⟩
theorem t_names_parts_1 : trFn Tryz.prog 146 [] [[]] = some f_names_parts_1 := by kernel_rfl

abbrev n_strings_IndexByte : Nat := 147
/-- strings.IndexByte -/
def f_strings_IndexByte : FnI := ⟨8, [.tmp 4],
 (.seq (.reg [⟨some 4, .mov (.c (.int .i64 (0))), none⟩])
 (.seq (.reg [⟨some 5, .mov (.t 0), none⟩, ⟨some 6, .mov (.t 1), none⟩, ⟨some 7, .call 150 [(.t 5), (.t 6)], none⟩, ⟨some 4, .mov (.t 7), none⟩])
 .ret))⟩
theorem t_strings_IndexByte : trFn Tryz.prog 147 [] [] = some f_strings_IndexByte := by kernel_rfl

abbrev n_hydrantref01_Index : Nat := 148
/-- hydrant/hydrantref01.Index -/
def f_hydrantref01_Index : FnI := ⟨7, [.tmp 2],
 (.seq (.reg [⟨some 2, .mov (.c (.int .i64 (0))), none⟩])
 (.seq (.reg [⟨some 3, .mov (.t 0), none⟩, ⟨some 4, .bini .rem (.t 3) (.c (.int .u64 (4294967296))), none⟩, ⟨some 5, .conv .i64 (.t 4), none⟩, ⟨some 6, .bini .sub (.t 5) (.c (.int .i64 (1))), none⟩, ⟨some 2, .mov (.t 6), none⟩])
 .ret))⟩
theorem t_hydrantref01_Index : trFn Tryz.prog 148 [] [] = some f_hydrantref01_Index := by kernel_rfl

abbrev n_hydrantref14_has : Nat := 149
/-- hydrant/hydrantref14.has -/
def f_hydrantref14_has : FnI := ⟨18, [.tmp 4],
 (.seq (.reg [⟨some 4, .mov (.b false), none⟩])
 (.seq (.seq (.reg [⟨some 5, .mov (.c (.int .i64 (0))), none⟩])
 (.block 0
 (.loop [5] [6, 7, 8, 9, 12, 13, 14, 15, 16, 17, 4, 10, 11, 5]
 (.seq (.seq (.reg [⟨some 6, .mov (.t 5), none⟩, ⟨some 7, .mov (.t 0), none⟩, ⟨some 8, .len false (.t 7), none⟩, ⟨some 9, .bini .lss (.t 6) (.t 8), none⟩])
 (.cond (.t 9)
 .skip
 (.exit 0)))
 (.seq (.block 1
 (.seq (.reg [⟨some 12, .mov (.t 0), none⟩, ⟨some 13, .mov (.t 5), none⟩, ⟨some 14, .iadr 1 (.t 12) (.t 13), none⟩, ⟨some 15, .load false 1 (.t 14), none⟩, ⟨some 16, .mov (.t 1), none⟩, ⟨some 17, .bini .eql (.t 15) (.t 16), none⟩])
 (.cond (.t 17)
 (.seq (.reg [⟨some 4, .mov (.b true), none⟩])
 .ret)
 .skip)))
 (.reg [⟨some 10, .mov (.t 5), none⟩, ⟨some 11, .bini .add (.t 10) (.c (.int .i64 (1))), none⟩, ⟨some 5, .mov (.t 11), none⟩]))))))
 (.seq (.reg [⟨some 4, .mov (.b false), none⟩])
 .ret)))⟩
theorem t_hydrantref14_has : trFn Tryz.prog 149 [] [[5]] = some f_hydrantref14_has := by kernel_rfl

abbrev n_stringslite_IndexByte : Nat := 150
end Go.Proofs.YtkkhdnddplkobaaGreat

