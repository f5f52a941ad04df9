/- The functions of the epochs, as the evaluator reads them: each is what the given program's code says (checked by the kernel). -/
import Derived.Test.YtddndeflnfogoaaSx13
import Derived.Test.YtddndeflnfogoaaRows
namespace Go.Proofs.Ytddndeflnfogoaa
open Go.Proofs.Ytddndeflnfogoaa.Sx

/-- hydrant/hydrantlaw15.EpochTells -/
def f_hydrantlaw15_EpochTells : FnI := ⟨47, [.tmp 6],
 (.seq (.reg [⟨some 6, .mov (.b false), none⟩])
 (.seq (.seq (.reg [⟨some 7, .mov (.t 2), none⟩, ⟨some 8, .len false (.t 7), none⟩, ⟨some 9, .bini .gtr (.t 8) (.c (.int .i64 (1000))), none⟩])
 (.cond (.t 9)
 (.seq (.reg [⟨some 6, .mov (.b true), none⟩])
 .ret)
 .skip))
 (.seq (.reg [⟨some 10, .call 11 [], none⟩, ⟨some 11, .mov (.t 10), none⟩, ⟨some 12, .mov (.t 1), some (11, true)⟩, ⟨some 13, .mov (.t 2), some (11, true)⟩, ⟨some 14, .call 12 [(.t 12), (.t 13)], some (11, true)⟩, ⟨some 15, .mov (.t 1), some (11, true)⟩, ⟨some 16, .mov (.t 2), some (11, true)⟩, ⟨some 17, .call 13 [(.t 15), (.t 16)], some (11, true)⟩, ⟨some 18, .binb false (.t 14) (.t 17), some (11, true)⟩, ⟨some 19, .pick (.t 11) (.t 18) (.b false), none⟩, ⟨some 20, .mov (.t 19), none⟩, ⟨some 21, .mov (.t 1), some (20, true)⟩, ⟨some 22, .mov (.t 2), some (20, true)⟩, ⟨some 23, .call 14 [(.t 21), (.t 22)], some (20, true)⟩, ⟨some 24, .mov (.t 1), some (20, true)⟩, ⟨some 25, .mov (.t 2), some (20, true)⟩, ⟨some 26, .call 15 [(.t 24), (.t 25)], some (20, true)⟩, ⟨some 27, .bini .eql (.t 23) (.t 26), some (20, true)⟩, ⟨some 28, .pick (.t 20) (.t 27) (.b false), none⟩, ⟨some 29, .mov (.t 28), none⟩, ⟨some 30, .mov (.t 0), some (29, true)⟩, ⟨some 31, .mov (.t 1), some (29, true)⟩, ⟨some 32, .call 16 [(.t 30), (.t 31)], some (29, true)⟩, ⟨some 33, .mov (.t 0), some (29, true)⟩, ⟨some 34, .mov (.t 1), some (29, true)⟩, ⟨some 35, .call 17 [(.t 33), (.t 34)], some (29, true)⟩, ⟨some 36, .binb false (.t 32) (.t 35), some (29, true)⟩, ⟨some 37, .pick (.t 29) (.t 36) (.b false), none⟩, ⟨some 38, .mov (.t 37), none⟩, ⟨some 39, .mov (.t 0), some (38, true)⟩, ⟨some 40, .mov (.t 2), some (38, true)⟩, ⟨some 41, .call 18 [(.t 39), (.t 40)], some (38, true)⟩, ⟨some 42, .mov (.t 0), some (38, true)⟩, ⟨some 43, .mov (.t 2), some (38, true)⟩, ⟨some 44, .call 19 [(.t 42), (.t 43)], some (38, true)⟩, ⟨some 45, .binb false (.t 41) (.t 44), some (38, true)⟩, ⟨some 46, .pick (.t 38) (.t 45) (.b false), none⟩, ⟨some 6, .mov (.t 46), none⟩])
 .ret)))⟩
theorem t_hydrantlaw15_EpochTells : trFn Try.prog 3 [] [] = some f_hydrantlaw15_EpochTells := by kernel_rfl

/-- hydrant/hydrantlaw15.EpochWaits -/
def f_hydrantlaw15_EpochWaits : FnI := ⟨72, [.tmp 8],
 (.seq (.reg [⟨some 8, .mov (.b false), none⟩])
 (.seq (.seq (.reg [⟨some 12, .mov (.t 3), none⟩, ⟨some 13, .len false (.t 12), none⟩, ⟨some 14, .bini .gtr (.t 13) (.c (.int .i64 (100))), none⟩, ⟨some 15, .mov (.t 14), none⟩, ⟨some 16, .mov (.t 0), some (15, false)⟩, ⟨some 17, .bini .lss (.t 16) (.c (.int .i64 (0))), some (15, false)⟩, ⟨some 18, .pick (.t 15) (.b true) (.t 17), none⟩, ⟨some 19, .mov (.t 18), none⟩, ⟨some 20, .mov (.t 0), some (19, false)⟩, ⟨some 21, .bini .gtr (.t 20) (.c (.int .i64 (1000000))), some (19, false)⟩, ⟨some 22, .pick (.t 19) (.b true) (.t 21), none⟩, ⟨some 23, .mov (.t 22), none⟩, ⟨some 24, .mov (.t 1), some (23, false)⟩, ⟨some 25, .bini .lss (.t 24) (.c (.int .i64 (0))), some (23, false)⟩, ⟨some 26, .pick (.t 23) (.b true) (.t 25), none⟩, ⟨some 27, .mov (.t 26), none⟩, ⟨some 28, .mov (.t 1), some (27, false)⟩, ⟨some 29, .bini .gtr (.t 28) (.c (.int .i64 (100))), some (27, false)⟩, ⟨some 30, .pick (.t 27) (.b true) (.t 29), none⟩, ⟨some 31, .mov (.t 30), none⟩, ⟨some 32, .mov (.t 2), some (31, false)⟩, ⟨some 33, .mov (.t 0), some (31, false)⟩, ⟨some 34, .bini .lss (.t 32) (.t 33), some (31, false)⟩, ⟨some 35, .pick (.t 31) (.b true) (.t 34), none⟩, ⟨some 36, .mov (.t 35), none⟩, ⟨some 37, .mov (.t 2), some (36, false)⟩, ⟨some 38, .bini .gtr (.t 37) (.c (.int .i64 (2000000))), some (36, false)⟩, ⟨some 39, .pick (.t 36) (.b true) (.t 38), none⟩])
 (.cond (.t 39)
 (.seq (.reg [⟨some 40, .call 11 [], none⟩, ⟨some 8, .mov (.t 40), none⟩])
 .ret)
 .skip))
 (.seq (.reg [⟨some 41, .mov (.t 0), none⟩, ⟨some 42, .bini .add (.t 41) (.c (.int .i64 (1))), none⟩, ⟨some 43, .bsl 3 1 1 [(.v (.int .i64 (0)))] [(0, 1, (.t 42))], none⟩, ⟨some 9, .mov (.t 43), none⟩])
 (.seq (.reg [⟨some 44, .mov (.t 9), none⟩, ⟨some 45, .mov (.t 3), none⟩, ⟨some 46, .app 3 1 8 (.t 44) (.t 45), none⟩, ⟨some 9, .mov (.t 46), none⟩])
 (.seq (.reg [⟨some 47, .mov (.t 0), none⟩, ⟨some 10, .mov (.t 47), none⟩])
 (.seq (.seq (.reg [⟨some 11, .mov (.c (.int .i64 (0))), none⟩])
 (.block 0
 (.loop [10, 11] [48, 49, 50, 53, 54, 55, 10, 56, 57, 58, 59, 60, 61, 62, 63, 64, 65, 66, 67, 68, 69, 70, 8, 51, 52, 11]
 (.seq (.seq (.reg [⟨some 48, .mov (.t 11), none⟩, ⟨some 49, .mov (.t 1), none⟩, ⟨some 50, .bini .lss (.t 48) (.t 49), none⟩])
 (.cond (.t 50)
 .skip
 (.exit 0)))
 (.seq (.block 1
 (.seq (.reg [⟨some 53, .mov (.t 10), none⟩, ⟨some 54, .mov (.t 9), none⟩, ⟨some 55, .call 14 [(.t 53), (.t 54)], none⟩, ⟨some 10, .mov (.t 55), none⟩])
 (.seq (.reg [⟨some 56, .mov (.t 10), none⟩, ⟨some 57, .mov (.t 0), none⟩, ⟨some 58, .bini .add (.t 57) (.c (.int .i64 (1))), none⟩, ⟨some 59, .bini .gtr (.t 56) (.t 58), none⟩, ⟨some 60, .mov (.t 59), none⟩, ⟨some 61, .mov (.t 2), some (60, false)⟩, ⟨some 62, .mov (.t 10), some (60, false)⟩, ⟨some 63, .call 16 [(.t 61), (.t 62)], some (60, false)⟩, ⟨some 64, .pick (.t 60) (.b true) (.t 63), none⟩, ⟨some 65, .mov (.t 64), none⟩, ⟨some 66, .mov (.t 2), some (65, false)⟩, ⟨some 67, .mov (.t 9), some (65, false)⟩, ⟨some 68, .call 18 [(.t 66), (.t 67)], some (65, false)⟩, ⟨some 69, .not (.t 68), some (65, false)⟩, ⟨some 70, .pick (.t 65) (.b true) (.t 69), none⟩])
 (.cond (.t 70)
 (.seq (.reg [⟨some 8, .mov (.b false), none⟩])
 .ret)
 .skip))))
 (.reg [⟨some 51, .mov (.t 11), none⟩, ⟨some 52, .bini .add (.t 51) (.c (.int .i64 (1))), none⟩, ⟨some 11, .mov (.t 52), none⟩]))))))
 (.seq (.reg [⟨some 71, .call 11 [], none⟩, ⟨some 8, .mov (.t 71), none⟩])
 .ret)))))))⟩
theorem t_hydrantlaw15_EpochWaits : trFn Try.prog 4 [] [[10, 11]] = some f_hydrantlaw15_EpochWaits := by kernel_rfl

/-- hydrant/hydrantlaw15.EpochFree -/
def f_hydrantlaw15_EpochFree : FnI := ⟨67, [.tmp 6],
 (.seq (.reg [⟨some 6, .mov (.b false), none⟩])
 (.seq (.seq (.reg [⟨some 9, .mov (.t 2), none⟩, ⟨some 10, .len false (.t 9), none⟩, ⟨some 11, .bini .gtr (.t 10) (.c (.int .i64 (1000))), none⟩, ⟨some 12, .mov (.t 11), none⟩, ⟨some 13, .mov (.t 1), some (12, false)⟩, ⟨some 14, .bini .lss (.t 13) (.c (.int .i64 (0))), some (12, false)⟩, ⟨some 15, .pick (.t 12) (.b true) (.t 14), none⟩, ⟨some 16, .mov (.t 15), none⟩, ⟨some 17, .mov (.t 1), some (16, false)⟩, ⟨some 18, .bini .gtr (.t 17) (.c (.int .i64 (1000000))), some (16, false)⟩, ⟨some 19, .pick (.t 16) (.b true) (.t 18), none⟩, ⟨some 20, .mov (.t 19), none⟩, ⟨some 21, .mov (.t 0), some (20, false)⟩, ⟨some 22, .bini .lss (.t 21) (.c (.int .i64 (0))), some (20, false)⟩, ⟨some 23, .pick (.t 20) (.b true) (.t 22), none⟩, ⟨some 24, .mov (.t 23), none⟩, ⟨some 25, .mov (.t 0), some (24, false)⟩, ⟨some 26, .mov (.t 1), some (24, false)⟩, ⟨some 27, .bini .geq (.t 25) (.t 26), some (24, false)⟩, ⟨some 28, .pick (.t 24) (.b true) (.t 27), none⟩])
 (.cond (.t 28)
 (.seq (.reg [⟨some 29, .call 11 [], none⟩, ⟨some 6, .mov (.t 29), none⟩])
 .ret)
 .skip))
 (.seq (.reg [⟨some 30, .mov (.t 1), none⟩, ⟨some 31, .mov (.t 2), none⟩, ⟨some 32, .call 14 [(.t 30), (.t 31)], none⟩, ⟨some 7, .mov (.t 32), none⟩])
 (.seq (.seq (.reg [⟨some 33, .mov (.t 7), none⟩, ⟨some 34, .mov (.t 1), none⟩, ⟨some 35, .bini .eql (.t 33) (.t 34), none⟩])
 (.cond (.t 35)
 (.seq (.reg [⟨some 36, .call 11 [], none⟩, ⟨some 37, .mov (.t 36), none⟩, ⟨some 38, .mov (.t 1), some (37, true)⟩, ⟨some 39, .mov (.t 2), some (37, true)⟩, ⟨some 40, .call 12 [(.t 38), (.t 39)], some (37, true)⟩, ⟨some 41, .not (.t 40), some (37, true)⟩, ⟨some 42, .pick (.t 37) (.t 41) (.b false), none⟩, ⟨some 6, .mov (.t 42), none⟩])
 .ret)
 .skip))
 (.seq (.seq (.reg [⟨some 8, .mov (.c (.int .i64 (0))), none⟩])
 (.block 0
 (.loop [8] [43, 44, 45, 46, 49, 50, 51, 52, 53, 6, 47, 48, 8]
 (.seq (.seq (.reg [⟨some 43, .mov (.t 8), none⟩, ⟨some 44, .mov (.t 2), none⟩, ⟨some 45, .len false (.t 44), none⟩, ⟨some 46, .bini .lss (.t 43) (.t 45), none⟩])
 (.cond (.t 46)
 .skip
 (.exit 0)))
 (.seq (.block 1
 (.seq (.reg [⟨some 49, .mov (.t 2), none⟩, ⟨some 50, .mov (.t 8), none⟩, ⟨some 51, .iadr 1 (.t 49) (.t 50), none⟩, ⟨some 52, .load false 1 (.t 51), none⟩, ⟨some 53, .bini .lss (.t 52) (.c (.int .i64 (0))), none⟩])
 (.cond (.t 53)
 (.seq (.reg [⟨some 6, .mov (.b false), none⟩])
 .ret)
 .skip)))
 (.reg [⟨some 47, .mov (.t 8), none⟩, ⟨some 48, .bini .add (.t 47) (.c (.int .i64 (1))), none⟩, ⟨some 8, .mov (.t 48), none⟩]))))))
 (.seq (.reg [⟨some 54, .call 11 [], none⟩, ⟨some 55, .mov (.t 54), none⟩, ⟨some 56, .mov (.t 7), some (55, true)⟩, ⟨some 57, .mov (.t 1), some (55, true)⟩, ⟨some 58, .bini .add (.t 57) (.c (.int .i64 (1))), some (55, true)⟩, ⟨some 59, .bini .eql (.t 56) (.t 58), some (55, true)⟩, ⟨some 60, .pick (.t 55) (.t 59) (.b false), none⟩, ⟨some 61, .mov (.t 60), none⟩, ⟨some 62, .mov (.t 0), some (61, true)⟩, ⟨some 63, .mov (.t 2), some (61, true)⟩, ⟨some 64, .call 18 [(.t 62), (.t 63)], some (61, true)⟩, ⟨some 65, .not (.t 64), some (61, true)⟩, ⟨some 66, .pick (.t 61) (.t 65) (.b false), none⟩, ⟨some 6, .mov (.t 66), none⟩])
 .ret))))))⟩
theorem t_hydrantlaw15_EpochFree : trFn Try.prog 5 [] [[8]] = some f_hydrantlaw15_EpochFree := by kernel_rfl

/-- hydrant/hydrantlaw15.passed -/
def f_hydrantlaw15_passed : FnI := ⟨37, [.tmp 0],
 (.seq (.reg [⟨some 0, .mov (.b false), none⟩])
 (.seq (.reg [⟨some 1, .bsl 3 1 3 [(.v (.int .i64 (0))), (.v (.int .i64 (0))), (.v (.int .i64 (0)))] [(0, 1, (.c (.int .i64 (0)))), (1, 1, (.c (.int .i64 (5)))), (2, 1, (.c (.int .i64 (0))))], none⟩, ⟨some 2, .call 12 [(.c (.int .i64 (4))), (.t 1)], none⟩, ⟨some 3, .mov (.t 2), none⟩, ⟨some 4, .bsl 3 1 1 [(.v (.int .i64 (0)))] [(0, 1, (.c (.int .i64 (4))))], some (3, true)⟩, ⟨some 5, .call 12 [(.c (.int .i64 (4))), (.t 4)], some (3, true)⟩, ⟨some 6, .not (.t 5), some (3, true)⟩, ⟨some 7, .pick (.t 3) (.t 6) (.b false), none⟩, ⟨some 8, .mov (.t 7), none⟩, ⟨some 9, .call 14 [(.c (.int .i64 (4))), (.c (.slice none 0 0))], some (8, true)⟩, ⟨some 10, .bini .eql (.t 9) (.c (.int .i64 (5))), some (8, true)⟩, ⟨some 11, .pick (.t 8) (.t 10) (.b false), none⟩, ⟨some 12, .mov (.t 11), none⟩, ⟨some 13, .bsl 3 1 1 [(.v (.int .i64 (0)))] [(0, 1, (.c (.int .i64 (4))))], some (12, true)⟩, ⟨some 14, .call 14 [(.c (.int .i64 (4))), (.t 13)], some (12, true)⟩, ⟨some 15, .bini .eql (.t 14) (.c (.int .i64 (4))), some (12, true)⟩, ⟨some 16, .pick (.t 12) (.t 15) (.b false), none⟩, ⟨some 17, .mov (.t 16), none⟩, ⟨some 18, .call 16 [(.c (.int .i64 (3))), (.c (.int .i64 (5)))], some (17, true)⟩, ⟨some 19, .pick (.t 17) (.t 18) (.b false), none⟩, ⟨some 20, .mov (.t 19), none⟩, ⟨some 21, .call 16 [(.c (.int .i64 (4))), (.c (.int .i64 (5)))], some (20, true)⟩, ⟨some 22, .not (.t 21), some (20, true)⟩, ⟨some 23, .pick (.t 20) (.t 22) (.b false), none⟩, ⟨some 24, .mov (.t 23), none⟩, ⟨some 25, .bsl 3 1 2 [(.v (.int .i64 (0))), (.v (.int .i64 (0)))] [(0, 1, (.c (.int .i64 (0)))), (1, 1, (.c (.int .i64 (5))))], some (24, true)⟩, ⟨some 26, .call 18 [(.c (.int .i64 (4))), (.t 25)], some (24, true)⟩, ⟨some 27, .pick (.t 24) (.t 26) (.b false), none⟩, ⟨some 28, .mov (.t 27), none⟩, ⟨some 29, .bsl 3 1 2 [(.v (.int .i64 (0))), (.v (.int .i64 (0)))] [(0, 1, (.c (.int .i64 (0)))), (1, 1, (.c (.int .i64 (5))))], some (28, true)⟩, ⟨some 30, .call 18 [(.c (.int .i64 (3))), (.t 29)], some (28, true)⟩, ⟨some 31, .not (.t 30), some (28, true)⟩, ⟨some 32, .pick (.t 28) (.t 31) (.b false), none⟩, ⟨some 33, .mov (.t 32), none⟩, ⟨some 34, .call 18 [(.c (.int .i64 (3))), (.c (.slice none 0 0))], some (33, true)⟩, ⟨some 35, .not (.t 34), some (33, true)⟩, ⟨some 36, .pick (.t 33) (.t 35) (.b false), none⟩, ⟨some 0, .mov (.t 36), none⟩])
 .ret))⟩
theorem t_hydrantlaw15_passed : trFn Try.prog 11 [] [] = some f_hydrantlaw15_passed := by kernel_rfl

/-- hydrant/epoch.Can -/
def f_epoch_Can : FnI := ⟨8, [.tmp 4],
 (.seq (.reg [⟨some 2, .box 3 (.t 0), none⟩, ⟨some 4, .mov (.b false), none⟩])
 (.seq (.reg [⟨some 5, .mkf (.func 32) [] [(.t 2)], none⟩, ⟨some 6, .mov (.t 1), none⟩, ⟨some 7, .call 31 [(.t 5), (.t 6)], none⟩, ⟨some 4, .mov (.t 7), none⟩])
 .ret))⟩
theorem t_epoch_Can : trFn Try.prog 12 [] [] = some f_epoch_Can := by kernel_rfl

/-- hydrant/hydrantref15.Can -/
def f_hydrantref15_Can : FnI := ⟨31, [.tmp 4],
 (.seq (.reg [⟨some 4, .mov (.b false), none⟩])
 (.seq (.seq (.reg [⟨some 5, .mov (.c (.int .i64 (0))), none⟩])
 (.block 0
 (.loop [5] [6, 7, 8, 9, 12, 13, 14, 15, 16, 17, 18, 19, 20, 21, 22, 23, 24, 25, 26, 27, 28, 29, 30, 4, 10, 11, 5]
 (.seq (.seq (.reg [⟨some 6, .mov (.t 5), none⟩, ⟨some 7, .mov (.t 1), none⟩, ⟨some 8, .len false (.t 7), none⟩, ⟨some 9, .bini .lss (.t 6) (.t 8), none⟩])
 (.cond (.t 9)
 .skip
 (.exit 0)))
 (.seq (.block 1
 (.seq (.reg [⟨some 12, .mov (.t 1), none⟩, ⟨some 13, .mov (.t 5), none⟩, ⟨some 14, .iadr 1 (.t 12) (.t 13), none⟩, ⟨some 15, .load false 1 (.t 14), none⟩, ⟨some 16, .bini .neq (.t 15) (.c (.int .i64 (0))), none⟩, ⟨some 17, .mov (.t 16), none⟩, ⟨some 18, .mov (.t 0), some (17, true)⟩, ⟨some 19, .call 33 [], some (17, true)⟩, ⟨some 20, .bini .eql (.t 18) (.t 19), some (17, true)⟩, ⟨some 21, .mov (.t 20), some (17, true)⟩, ⟨some 22, .mov (.t 1), some (21, false)⟩, ⟨some 23, .mov (.t 5), some (21, false)⟩, ⟨some 24, .iadr 1 (.t 22) (.t 23), some (21, false)⟩, ⟨some 25, .load false 1 (.t 24), some (21, false)⟩, ⟨some 26, .mov (.t 0), some (21, false)⟩, ⟨some 27, .bini .add (.t 26) (.c (.int .i64 (1))), some (21, false)⟩, ⟨some 28, .bini .neq (.t 25) (.t 27), some (21, false)⟩, ⟨some 29, .pick (.t 21) (.b true) (.t 28), some (17, true)⟩, ⟨some 30, .pick (.t 17) (.t 29) (.b false), none⟩])
 (.cond (.t 30)
 (.seq (.reg [⟨some 4, .mov (.b false), none⟩])
 .ret)
 .skip)))
 (.reg [⟨some 10, .mov (.t 5), none⟩, ⟨some 11, .bini .add (.t 10) (.c (.int .i64 (1))), none⟩, ⟨some 5, .mov (.t 11), none⟩]))))))
 (.seq (.reg [⟨some 4, .mov (.b true), none⟩])
 .ret)))⟩
theorem t_hydrantref15_Can : trFn Try.prog 13 [] [[5]] = some f_hydrantref15_Can := by kernel_rfl

/-- hydrant/epoch.Next -/
def f_epoch_Next : FnI := ⟨15, [.tmp 4],
 (.seq (.reg [⟨some 4, .mov (.c (.int .i64 (0))), none⟩])
 (.seq (.seq (.reg [⟨some 5, .mov (.t 0), none⟩, ⟨some 6, .bini .lss (.t 5) (.c (.int .i64 (9223372036854775807))), none⟩, ⟨some 7, .mov (.t 6), none⟩, ⟨some 8, .mov (.t 0), some (7, true)⟩, ⟨some 9, .mov (.t 1), some (7, true)⟩, ⟨some 10, .call 12 [(.t 8), (.t 9)], some (7, true)⟩, ⟨some 11, .pick (.t 7) (.t 10) (.b false), none⟩])
 (.cond (.t 11)
 (.reg [⟨some 12, .mov (.t 0), none⟩, ⟨some 13, .bini .add (.t 12) (.c (.int .i64 (1))), none⟩, ⟨some 0, .mov (.t 13), none⟩])
 .skip))
 (.seq (.reg [⟨some 14, .mov (.t 0), none⟩, ⟨some 4, .mov (.t 14), none⟩])
 .ret)))⟩
theorem t_epoch_Next : trFn Try.prog 14 [] [] = some f_epoch_Next := by kernel_rfl

/-- hydrant/hydrantref15.Next -/
def f_hydrantref15_Next : FnI := ⟨17, [.tmp 4],
 (.seq (.reg [⟨some 4, .mov (.c (.int .i64 (0))), none⟩])
 (.seq (.seq (.reg [⟨some 5, .mov (.t 0), none⟩, ⟨some 6, .mov (.t 1), none⟩, ⟨some 7, .call 13 [(.t 5), (.t 6)], none⟩, ⟨some 8, .not (.t 7), none⟩, ⟨some 9, .mov (.t 8), none⟩, ⟨some 10, .mov (.t 0), some (9, false)⟩, ⟨some 11, .call 33 [], some (9, false)⟩, ⟨some 12, .bini .eql (.t 10) (.t 11), some (9, false)⟩, ⟨some 13, .pick (.t 9) (.b true) (.t 12), none⟩])
 (.cond (.t 13)
 (.seq (.reg [⟨some 14, .mov (.t 0), none⟩, ⟨some 4, .mov (.t 14), none⟩])
 .ret)
 .skip))
 (.seq (.reg [⟨some 15, .mov (.t 0), none⟩, ⟨some 16, .bini .add (.t 15) (.c (.int .i64 (1))), none⟩, ⟨some 4, .mov (.t 16), none⟩])
 .ret)))⟩
theorem t_hydrantref15_Next : trFn Try.prog 15 [] [] = some f_hydrantref15_Next := by kernel_rfl

/-- hydrant/epoch.Safe -/
def f_epoch_Safe : FnI := ⟨13, [.tmp 4],
 (.seq (.reg [⟨some 4, .mov (.b false), none⟩])
 (.seq (.reg [⟨some 5, .mov (.t 0), none⟩, ⟨some 6, .bini .leq (.t 5) (.c (.int .i64 (9223372036854775805))), none⟩, ⟨some 7, .mov (.t 6), none⟩, ⟨some 8, .mov (.t 0), some (7, true)⟩, ⟨some 9, .bini .add (.t 8) (.c (.int .i64 (2))), some (7, true)⟩, ⟨some 10, .mov (.t 1), some (7, true)⟩, ⟨some 11, .bini .leq (.t 9) (.t 10), some (7, true)⟩, ⟨some 12, .pick (.t 7) (.t 11) (.b false), none⟩, ⟨some 4, .mov (.t 12), none⟩])
 .ret))⟩
theorem t_epoch_Safe : trFn Try.prog 16 [] [] = some f_epoch_Safe := by kernel_rfl

/-- hydrant/hydrantref15.Safe -/
def f_hydrantref15_Safe : FnI := ⟨15, [.tmp 4],
 (.seq (.reg [⟨some 4, .mov (.b false), none⟩])
 (.seq (.reg [⟨some 5, .mov (.t 0), none⟩, ⟨some 6, .call 33 [], none⟩, ⟨some 7, .bini .sub (.t 6) (.c (.int .i64 (2))), none⟩, ⟨some 8, .bini .leq (.t 5) (.t 7), none⟩, ⟨some 9, .mov (.t 8), none⟩, ⟨some 10, .mov (.t 1), some (9, true)⟩, ⟨some 11, .mov (.t 0), some (9, true)⟩, ⟨some 12, .bini .add (.t 11) (.c (.int .i64 (2))), some (9, true)⟩, ⟨some 13, .bini .geq (.t 10) (.t 12), some (9, true)⟩, ⟨some 14, .pick (.t 9) (.t 13) (.b false), none⟩, ⟨some 4, .mov (.t 14), none⟩])
 .ret))⟩
theorem t_hydrantref15_Safe : trFn Try.prog 17 [] [] = some f_hydrantref15_Safe := by kernel_rfl

/-- hydrant/epoch.Holds -/
def f_epoch_Holds : FnI := ⟨9, [.tmp 4],
 (.seq (.reg [⟨some 2, .box 3 (.t 0), none⟩, ⟨some 4, .mov (.b false), none⟩])
 (.seq (.reg [⟨some 5, .mkf (.func 34) [] [(.t 2)], none⟩, ⟨some 6, .mov (.t 1), none⟩, ⟨some 7, .call 31 [(.t 5), (.t 6)], none⟩, ⟨some 8, .not (.t 7), none⟩, ⟨some 4, .mov (.t 8), none⟩])
 .ret))⟩
theorem t_epoch_Holds : trFn Try.prog 18 [] [] = some f_epoch_Holds := by kernel_rfl

/-- hydrant/hydrantref15.Holds -/
def f_hydrantref15_Holds : FnI := ⟨26, [.tmp 4],
 (.seq (.reg [⟨some 4, .mov (.b false), none⟩])
 (.seq (.seq (.reg [⟨some 5, .mov (.c (.int .i64 (0))), none⟩])
 (.block 0
 (.loop [5] [6, 7, 8, 9, 12, 13, 14, 15, 16, 17, 18, 19, 20, 21, 22, 23, 24, 25, 4, 10, 11, 5]
 (.seq (.seq (.reg [⟨some 6, .mov (.t 5), none⟩, ⟨some 7, .mov (.t 1), none⟩, ⟨some 8, .len false (.t 7), none⟩, ⟨some 9, .bini .lss (.t 6) (.t 8), none⟩])
 (.cond (.t 9)
 .skip
 (.exit 0)))
 (.seq (.block 1
 (.seq (.reg [⟨some 12, .mov (.t 1), none⟩, ⟨some 13, .mov (.t 5), none⟩, ⟨some 14, .iadr 1 (.t 12) (.t 13), none⟩, ⟨some 15, .load false 1 (.t 14), none⟩, ⟨some 16, .bini .geq (.t 15) (.c (.int .i64 (1))), none⟩, ⟨some 17, .mov (.t 16), none⟩, ⟨some 18, .mov (.t 1), some (17, true)⟩, ⟨some 19, .mov (.t 5), some (17, true)⟩, ⟨some 20, .iadr 1 (.t 18) (.t 19), some (17, true)⟩, ⟨some 21, .load false 1 (.t 20), some (17, true)⟩, ⟨some 22, .bini .sub (.t 21) (.c (.int .i64 (1))), some (17, true)⟩, ⟨some 23, .mov (.t 0), some (17, true)⟩, ⟨some 24, .bini .leq (.t 22) (.t 23), some (17, true)⟩, ⟨some 25, .pick (.t 17) (.t 24) (.b false), none⟩])
 (.cond (.t 25)
 (.seq (.reg [⟨some 4, .mov (.b true), none⟩])
 .ret)
 .skip)))
 (.reg [⟨some 10, .mov (.t 5), none⟩, ⟨some 11, .bini .add (.t 10) (.c (.int .i64 (1))), none⟩, ⟨some 5, .mov (.t 11), none⟩]))))))
 (.seq (.reg [⟨some 4, .mov (.b false), none⟩])
 .ret)))⟩
theorem t_hydrantref15_Holds : trFn Try.prog 19 [] [[5]] = some f_hydrantref15_Holds := by kernel_rfl

/-- hydrant/epoch.all -/
def f_epoch_all : FnI := ⟨18, [.tmp 4],
 (.seq (.reg [⟨some 4, .mov (.b false), none⟩])
 (.seq (.seq (.reg [⟨some 7, .mov (.t 1), none⟩, ⟨some 8, .len false (.t 7), none⟩, ⟨some 9, .mov (.c (.int .i64 (0))), none⟩])
 (.block 0
 (.loop [9] [10, 11, 12, 6, 13, 14, 15, 16, 4, 17, 9]
 (.seq (.reg [⟨some 10, .bini .lss (.t 9) (.t 8), none⟩])
 (.seq (.cond (.t 10)
 .skip
 (.exit 0))
 (.seq (.block 1
 (.seq (.reg [⟨some 11, .iadr 1 (.t 7) (.t 9), none⟩, ⟨some 12, .load false 1 (.t 11), none⟩, ⟨some 6, .mov (.t 12), none⟩])
 (.seq (.reg [⟨some 13, .mov (.t 0), none⟩, ⟨some 14, .mov (.t 6), none⟩, ⟨some 15, .callv (.t 13) [(.t 14)], none⟩, ⟨some 16, .not (.t 15), none⟩])
 (.cond (.t 16)
 (.seq (.reg [⟨some 4, .mov (.b false), none⟩])
 .ret)
 .skip))))
 (.reg [⟨some 17, .bini .add (.t 9) (.c (.int .i64 (1))), none⟩, ⟨some 9, .mov (.t 17), none⟩])))))))
 (.seq (.reg [⟨some 4, .mov (.b true), none⟩])
 .ret)))⟩
theorem t_epoch_all : trFn Try.prog 31 [] [[9]] = some f_epoch_all := by kernel_rfl

/-- hydrant/epoch.Can$1 -/
def f_epoch_Can_1 : FnI := ⟨16, [.tmp 3],
 (.seq (.reg [⟨some 3, .mov (.b false), none⟩])
 (.seq (.reg [⟨some 4, .mov (.t 0), none⟩, ⟨some 5, .bini .eql (.t 4) (.c (.int .i64 (0))), none⟩, ⟨some 6, .mov (.t 5), none⟩, ⟨some 7, .load false 1 (.t 1), some (6, false)⟩, ⟨some 8, .bini .lss (.t 7) (.c (.int .i64 (9223372036854775807))), some (6, false)⟩, ⟨some 9, .mov (.t 8), some (6, false)⟩, ⟨some 10, .mov (.t 0), some (9, true)⟩, ⟨some 11, .load false 1 (.t 1), some (9, true)⟩, ⟨some 12, .bini .add (.t 11) (.c (.int .i64 (1))), some (9, true)⟩, ⟨some 13, .bini .eql (.t 10) (.t 12), some (9, true)⟩, ⟨some 14, .pick (.t 9) (.t 13) (.b false), some (6, false)⟩, ⟨some 15, .pick (.t 6) (.b true) (.t 14), none⟩, ⟨some 3, .mov (.t 15), none⟩])
 .ret))⟩
theorem t_epoch_Can_1 : trFn Try.prog 32 [] [] = some f_epoch_Can_1 := by kernel_rfl

/-- hydrant/hydrantref15.top -/
def f_hydrantref15_top : FnI := ⟨1, [.tmp 0],
 (.seq (.reg [⟨some 0, .mov (.c (.int .i64 (0))), none⟩])
 (.seq (.reg [⟨some 0, .mov (.c (.int .i64 (9223372036854775807))), none⟩])
 .ret))⟩
theorem t_hydrantref15_top : trFn Try.prog 33 [] [] = some f_hydrantref15_top := by kernel_rfl

/-- hydrant/epoch.Holds$1 -/
def f_epoch_Holds_1 : FnI := ⟨12, [.tmp 3],
 (.seq (.reg [⟨some 3, .mov (.b false), none⟩])
 (.seq (.reg [⟨some 4, .mov (.t 0), none⟩, ⟨some 5, .bini .lss (.t 4) (.c (.int .i64 (1))), none⟩, ⟨some 6, .mov (.t 5), none⟩, ⟨some 7, .mov (.t 0), some (6, false)⟩, ⟨some 8, .bini .sub (.t 7) (.c (.int .i64 (1))), some (6, false)⟩, ⟨some 9, .load false 1 (.t 1), some (6, false)⟩, ⟨some 10, .bini .gtr (.t 8) (.t 9), some (6, false)⟩, ⟨some 11, .pick (.t 6) (.b true) (.t 10), none⟩, ⟨some 3, .mov (.t 11), none⟩])
 .ret))⟩
theorem t_epoch_Holds_1 : trFn Try.prog 34 [] [] = some f_epoch_Holds_1 := by kernel_rfl

end Go.Proofs.Ytddndeflnfogoaa
