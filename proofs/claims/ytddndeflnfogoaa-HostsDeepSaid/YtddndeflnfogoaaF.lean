/- The functions, as the evaluator reads them: each is what the given program's code says (checked by the kernel). -/
import Derived.Test.YtddndeflnfogoaaSx14
import Derived.Test.YtddndeflnfogoaaRows
namespace Go.Proofs.Ytddndeflnfogoaa
open Go.Proofs.Ytddndeflnfogoaa.Sx
abbrev ty_int64 : Nat := 2
abbrev ty_int : Nat := 3
abbrev ty_bool : Nat := 4
abbrev ty_uint8 : Nat := 5
abbrev ty_abi_BoundsErrorCode : Nat := 6
abbrev ty_runtime_boundsError : Nat := 8
abbrev ty_string : Nat := 9
abbrev ty_runtime_errorString : Nat := 10
abbrev ty_runtime_plainError : Nat := 11
abbrev ty_uintptr : Nat := 12
abbrev ty_runtime_errorAddressString : Nat := 14
abbrev ty_ptr_runtime_TypeAssertionError : Nat := 15
abbrev ty_ptr_runtime_PanicNilError : Nat := 16
abbrev ty_ptr_abi_Type : Nat := 17
abbrev ty_maps_unhashableTypeError : Nat := 19
abbrev ty_int32 : Nat := 21
abbrev ty_sl_int : Nat := 22
abbrev ty_names_alphabet : Nat := 44
abbrev ty_sl_string : Nat := 47
abbrev ty_runtime_TypeAssertionError : Nat := 52
abbrev ty_runtime_PanicNilError : Nat := 55
abbrev ty_uint32 : Nat := 56
abbrev ty_abi_TFlag : Nat := 57
abbrev ty_abi_Kind : Nat := 58
abbrev ty_ptr_uint8 : Nat := 60
abbrev ty_abi_NameOff : Nat := 61
abbrev ty_abi_TypeOff : Nat := 62
abbrev ty_abi_Type : Nat := 64
abbrev ty_unsafe_Pointer : Nat := 65
abbrev n_gosem_cut_init : Nat := 2
theorem k_gosem_cut_init : FnOk Try.prog 2 := FnOk.of (by kernel_rfl)
abbrev n_hydrantlaw15_EpochTells : Nat := 3
theorem k_hydrantlaw15_EpochTells : FnOk Try.prog 3 := FnOk.of (by kernel_rfl)
/-- hydrant/hydrantlaw15.EpochTells -/
def f_hydrantlaw15_EpochTells : FnI := ⟨47, [.tmp 6],
 (.seq (.reg [⟨some 6, .mov (.b false), none⟩])
 (.seq (.seq (.reg [⟨some 7, .mov (.t 2), none⟩, ⟨some 8, .len false (.t 7), none⟩, ⟨some 9, .bini .gtr (.t 8) (.c (.int .i64 (1000))), none⟩])
 (.cond (.t 9)
 (.seq (.reg [⟨some 6, .mov (.b true), none⟩])
 .ret)
 .skip))
 (.seq (.reg [⟨some 10, .call 11 [], none⟩, ⟨some 11, .mov (.t 10), none⟩, ⟨some 12, .mov (.t 1), some (11, true)⟩, ⟨some 13, .mov (.t 2), some (11, true)⟩, ⟨some 14, .call 12 [(.t 12), (.t 13)], some (11, true)⟩, ⟨some 15, .mov (.t 1), some (11, true)⟩, ⟨some 16, .mov (.t 2), some (11, true)⟩, ⟨some 17, .call 13 [(.t 15), (.t 16)], some (11, true)⟩, ⟨some 18, .binb false (.t 14) (.t 17), some (11, true)⟩, ⟨some 19, .pick (.t 11) (.t 18) (.b false), none⟩, ⟨some 20, .mov (.t 19), none⟩, ⟨some 21, .mov (.t 1), some (20, true)⟩, ⟨some 22, .mov (.t 2), some (20, true)⟩, ⟨some 23, .call 14 [(.t 21), (.t 22)], some (20, true)⟩, ⟨some 24, .mov (.t 1), some (20, true)⟩, ⟨some 25, .mov (.t 2), some (20, true)⟩, ⟨some 26, .call 15 [(.t 24), (.t 25)], some (20, true)⟩, ⟨some 27, .bini .eql (.t 23) (.t 26), some (20, true)⟩, ⟨some 28, .pick (.t 20) (.t 27) (.b false), none⟩, ⟨some 29, .mov (.t 28), none⟩, ⟨some 30, .mov (.t 0), some (29, true)⟩, ⟨some 31, .mov (.t 1), some (29, true)⟩, ⟨some 32, .call 16 [(.t 30), (.t 31)], some (29, true)⟩, ⟨some 33, .mov (.t 0), some (29, true)⟩, ⟨some 34, .mov (.t 1), some (29, true)⟩, ⟨some 35, .call 17 [(.t 33), (.t 34)], some (29, true)⟩, ⟨some 36, .binb false (.t 32) (.t 35), some (29, true)⟩, ⟨some 37, .pick (.t 29) (.t 36) (.b false), none⟩, ⟨some 38, .mov (.t 37), none⟩, ⟨some 39, .mov (.t 0), some (38, true)⟩, ⟨some 40, .mov (.t 2), some (38, true)⟩, ⟨some 41, .call 18 [(.t 39), (.t 40)], some (38, true)⟩, ⟨some 42, .mov (.t 0), some (38, true)⟩, ⟨some 43, .mov (.t 2), some (38, true)⟩, ⟨some 44, .call 19 [(.t 42), (.t 43)], some (38, true)⟩, ⟨some 45, .binb false (.t 41) (.t 44), some (38, true)⟩, ⟨some 46, .pick (.t 38) (.t 45) (.b false), none⟩, ⟨some 6, .mov (.t 46), none⟩])
 .ret)))⟩
theorem t_hydrantlaw15_EpochTells : trFn Try.prog 3 [] [] = some f_hydrantlaw15_EpochTells := by kernel_rfl

abbrev n_hydrantlaw15_EpochWaits : Nat := 4
theorem k_hydrantlaw15_EpochWaits : FnOk Try.prog 4 := FnOk.of (by kernel_rfl)
/-- hydrant/hydrantlaw15.EpochWaits -/
def f_hydrantlaw15_EpochWaits : FnI := ⟨72, [.tmp 8],
 (.seq (.reg [⟨some 8, .mov (.b false), none⟩])
 (.seq (.seq (.reg [⟨some 12, .mov (.t 3), none⟩, ⟨some 13, .len false (.t 12), none⟩, ⟨some 14, .bini .gtr (.t 13) (.c (.int .i64 (100))), none⟩, ⟨some 15, .mov (.t 14), none⟩, ⟨some 16, .mov (.t 0), some (15, false)⟩, ⟨some 17, .bini .lss (.t 16) (.c (.int .i64 (0))), some (15, false)⟩, ⟨some 18, .pick (.t 15) (.b true) (.t 17), none⟩, ⟨some 19, .mov (.t 18), none⟩, ⟨some 20, .mov (.t 0), some (19, false)⟩, ⟨some 21, .bini .gtr (.t 20) (.c (.int .i64 (1000000))), some (19, false)⟩, ⟨some 22, .pick (.t 19) (.b true) (.t 21), none⟩, ⟨some 23, .mov (.t 22), none⟩, ⟨some 24, .mov (.t 1), some (23, false)⟩, ⟨some 25, .bini .lss (.t 24) (.c (.int .i64 (0))), some (23, false)⟩, ⟨some 26, .pick (.t 23) (.b true) (.t 25), none⟩, ⟨some 27, .mov (.t 26), none⟩, ⟨some 28, .mov (.t 1), some (27, false)⟩, ⟨some 29, .bini .gtr (.t 28) (.c (.int .i64 (100))), some (27, false)⟩, ⟨some 30, .pick (.t 27) (.b true) (.t 29), none⟩, ⟨some 31, .mov (.t 30), none⟩, ⟨some 32, .mov (.t 2), some (31, false)⟩, ⟨some 33, .mov (.t 0), some (31, false)⟩, ⟨some 34, .bini .lss (.t 32) (.t 33), some (31, false)⟩, ⟨some 35, .pick (.t 31) (.b true) (.t 34), none⟩, ⟨some 36, .mov (.t 35), none⟩, ⟨some 37, .mov (.t 2), some (36, false)⟩, ⟨some 38, .bini .gtr (.t 37) (.c (.int .i64 (2000000))), some (36, false)⟩, ⟨some 39, .pick (.t 36) (.b true) (.t 38), none⟩])
 (.cond (.t 39)
 (.seq (.reg [⟨some 40, .call 11 [], none⟩, ⟨some 8, .mov (.t 40), none⟩])
 .ret)
 .skip))
 (.seq (.reg [⟨some 41, .mov (.t 0), none⟩, ⟨some 42, .bini .add (.t 41) (.c (.int .i64 (1))), none⟩, ⟨some 43, .bsl 3 1 1 [(.v (.int .i64 (0)))] [(0, 1, (.t 42))], none⟩, ⟨some 9, .mov (.t 43), none⟩])
 (.seq (.reg [⟨some 44, .mov (.t 9), none⟩, ⟨some 45, .mov (.t 3), none⟩, ⟨some 46, .app 3 1 8 (.t 44) (.t 45), none⟩, ⟨some 9, .mov (.t 46), none⟩])
 (.seq (.reg [⟨some 47, .mov (.t 0), none⟩, ⟨some 10, .mov (.t 47), none⟩])
 (.seq (.seq (.reg [⟨some 11, .mov (.c (.int .i64 (0))), none⟩])
 (.block 0
 (.loop [10, 11] [48, 49, 50, 53, 54, 55, 10, 56, 57, 58, 59, 60, 61, 62, 63, 64, 65, 66, 67, 68, 69, 70, 8, 51, 52, 11]
 (.seq (.seq (.reg [⟨some 48, .mov (.t 11), none⟩, ⟨some 49, .mov (.t 1), none⟩, ⟨some 50, .bini .lss (.t 48) (.t 49), none⟩])
 (.cond (.t 50)
 .skip
 (.exit 0)))
 (.seq (.block 1
 (.seq (.reg [⟨some 53, .mov (.t 10), none⟩, ⟨some 54, .mov (.t 9), none⟩, ⟨some 55, .call 14 [(.t 53), (.t 54)], none⟩, ⟨some 10, .mov (.t 55), none⟩])
 (.seq (.reg [⟨some 56, .mov (.t 10), none⟩, ⟨some 57, .mov (.t 0), none⟩, ⟨some 58, .bini .add (.t 57) (.c (.int .i64 (1))), none⟩, ⟨some 59, .bini .gtr (.t 56) (.t 58), none⟩, ⟨some 60, .mov (.t 59), none⟩, ⟨some 61, .mov (.t 2), some (60, false)⟩, ⟨some 62, .mov (.t 10), some (60, false)⟩, ⟨some 63, .call 16 [(.t 61), (.t 62)], some (60, false)⟩, ⟨some 64, .pick (.t 60) (.b true) (.t 63), none⟩, ⟨some 65, .mov (.t 64), none⟩, ⟨some 66, .mov (.t 2), some (65, false)⟩, ⟨some 67, .mov (.t 9), some (65, false)⟩, ⟨some 68, .call 18 [(.t 66), (.t 67)], some (65, false)⟩, ⟨some 69, .not (.t 68), some (65, false)⟩, ⟨some 70, .pick (.t 65) (.b true) (.t 69), none⟩])
 (.cond (.t 70)
 (.seq (.reg [⟨some 8, .mov (.b false), none⟩])
 .ret)
 .skip))))
 (.reg [⟨some 51, .mov (.t 11), none⟩, ⟨some 52, .bini .add (.t 51) (.c (.int .i64 (1))), none⟩, ⟨some 11, .mov (.t 52), none⟩]))))))
 (.seq (.reg [⟨some 71, .call 11 [], none⟩, ⟨some 8, .mov (.t 71), none⟩])
 .ret)))))))⟩
theorem t_hydrantlaw15_EpochWaits : trFn Try.prog 4 [] [[10, 11]] = some f_hydrantlaw15_EpochWaits := by kernel_rfl

abbrev n_hydrantlaw15_EpochFree : Nat := 5
theorem k_hydrantlaw15_EpochFree : FnOk Try.prog 5 := FnOk.of (by kernel_rfl)
/-- hydrant/hydrantlaw15.EpochFree -/
def f_hydrantlaw15_EpochFree : FnI := ⟨67, [.tmp 6],
 (.seq (.reg [⟨some 6, .mov (.b false), none⟩])
 (.seq (.seq (.reg [⟨some 9, .mov (.t 2), none⟩, ⟨some 10, .len false (.t 9), none⟩, ⟨some 11, .bini .gtr (.t 10) (.c (.int .i64 (1000))), none⟩, ⟨some 12, .mov (.t 11), none⟩, ⟨some 13, .mov (.t 1), some (12, false)⟩, ⟨some 14, .bini .lss (.t 13) (.c (.int .i64 (0))), some (12, false)⟩, ⟨some 15, .pick (.t 12) (.b true) (.t 14), none⟩, ⟨some 16, .mov (.t 15), none⟩, ⟨some 17, .mov (.t 1), some (16, false)⟩, ⟨some 18, .bini .gtr (.t 17) (.c (.int .i64 (1000000))), some (16, false)⟩, ⟨some 19, .pick (.t 16) (.b true) (.t 18), none⟩, ⟨some 20, .mov (.t 19), none⟩, ⟨some 21, .mov (.t 0), some (20, false)⟩, ⟨some 22, .bini .lss (.t 21) (.c (.int .i64 (0))), some (20, false)⟩, ⟨some 23, .pick (.t 20) (.b true) (.t 22), none⟩, ⟨some 24, .mov (.t 23), none⟩, ⟨some 25, .mov (.t 0), some (24, false)⟩, ⟨some 26, .mov (.t 1), some (24, false)⟩, ⟨some 27, .bini .geq (.t 25) (.t 26), some (24, false)⟩, ⟨some 28, .pick (.t 24) (.b true) (.t 27), none⟩])
 (.cond (.t 28)
 (.seq (.reg [⟨some 29, .call 11 [], none⟩, ⟨some 6, .mov (.t 29), none⟩])
 .ret)
 .skip))
 (.seq (.reg [⟨some 30, .mov (.t 1), none⟩, ⟨some 31, .mov (.t 2), none⟩, ⟨some 32, .call 14 [(.t 30), (.t 31)], none⟩, ⟨some 7, .mov (.t 32), none⟩])
 (.seq (.seq (.reg [⟨some 33, .mov (.t 7), none⟩, ⟨some 34, .mov (.t 1), none⟩, ⟨some 35, .bini .eql (.t 33) (.t 34), none⟩])
 (.cond (.t 35)
 (.seq (.reg [⟨some 36, .call 11 [], none⟩, ⟨some 37, .mov (.t 36), none⟩, ⟨some 38, .mov (.t 1), some (37, true)⟩, ⟨some 39, .mov (.t 2), some (37, true)⟩, ⟨some 40, .call 12 [(.t 38), (.t 39)], some (37, true)⟩, ⟨some 41, .not (.t 40), some (37, true)⟩, ⟨some 42, .pick (.t 37) (.t 41) (.b false), none⟩, ⟨some 6, .mov (.t 42), none⟩])
 .ret)
 .skip))
 (.seq (.seq (.reg [⟨some 8, .mov (.c (.int .i64 (0))), none⟩])
 (.block 0
 (.loop [8] [43, 44, 45, 46, 49, 50, 51, 52, 53, 6, 47, 48, 8]
 (.seq (.seq (.reg [⟨some 43, .mov (.t 8), none⟩, ⟨some 44, .mov (.t 2), none⟩, ⟨some 45, .len false (.t 44), none⟩, ⟨some 46, .bini .lss (.t 43) (.t 45), none⟩])
 (.cond (.t 46)
 .skip
 (.exit 0)))
 (.seq (.block 1
 (.seq (.reg [⟨some 49, .mov (.t 2), none⟩, ⟨some 50, .mov (.t 8), none⟩, ⟨some 51, .iadr 1 (.t 49) (.t 50), none⟩, ⟨some 52, .load false 1 (.t 51), none⟩, ⟨some 53, .bini .lss (.t 52) (.c (.int .i64 (0))), none⟩])
 (.cond (.t 53)
 (.seq (.reg [⟨some 6, .mov (.b false), none⟩])
 .ret)
 .skip)))
 (.reg [⟨some 47, .mov (.t 8), none⟩, ⟨some 48, .bini .add (.t 47) (.c (.int .i64 (1))), none⟩, ⟨some 8, .mov (.t 48), none⟩]))))))
 (.seq (.reg [⟨some 54, .call 11 [], none⟩, ⟨some 55, .mov (.t 54), none⟩, ⟨some 56, .mov (.t 7), some (55, true)⟩, ⟨some 57, .mov (.t 1), some (55, true)⟩, ⟨some 58, .bini .add (.t 57) (.c (.int .i64 (1))), some (55, true)⟩, ⟨some 59, .bini .eql (.t 56) (.t 58), some (55, true)⟩, ⟨some 60, .pick (.t 55) (.t 59) (.b false), none⟩, ⟨some 61, .mov (.t 60), none⟩, ⟨some 62, .mov (.t 0), some (61, true)⟩, ⟨some 63, .mov (.t 2), some (61, true)⟩, ⟨some 64, .call 18 [(.t 62), (.t 63)], some (61, true)⟩, ⟨some 65, .not (.t 64), some (61, true)⟩, ⟨some 66, .pick (.t 61) (.t 65) (.b false), none⟩, ⟨some 6, .mov (.t 66), none⟩])
 .ret))))))⟩
theorem t_hydrantlaw15_EpochFree : trFn Try.prog 5 [] [[8]] = some f_hydrantlaw15_EpochFree := by kernel_rfl

abbrev n_hydrantlaw04_HostsMatch : Nat := 6
theorem k_hydrantlaw04_HostsMatch : FnOk Try.prog 6 := FnOk.of (by kernel_rfl)
/-- hydrant/hydrantlaw04.HostsMatch -/
def f_hydrantlaw04_HostsMatch : FnI := ⟨39, [.tmp 4],
 (.seq (.reg [⟨some 4, .mov (.b false), none⟩])
 (.seq (.seq (.reg [⟨some 5, .mov (.t 0), none⟩, ⟨some 6, .len true (.t 5), none⟩, ⟨some 7, .bini .gtr (.t 6) (.c (.int .i64 (200))), none⟩, ⟨some 8, .mov (.t 7), none⟩, ⟨some 9, .mov (.t 1), some (8, false)⟩, ⟨some 10, .len true (.t 9), some (8, false)⟩, ⟨some 11, .bini .gtr (.t 10) (.c (.int .i64 (200))), some (8, false)⟩, ⟨some 12, .pick (.t 8) (.b true) (.t 11), none⟩])
 (.cond (.t 12)
 (.seq (.reg [⟨some 4, .mov (.b true), none⟩])
 .ret)
 .skip))
 (.seq (.reg [⟨some 13, .call 20 [], none⟩, ⟨some 14, .mov (.t 13), none⟩, ⟨some 15, .mov (.t 0), some (14, true)⟩, ⟨some 16, .mov (.t 1), some (14, true)⟩, ⟨some 17, .call 21 [(.t 15), (.t 16)], some (14, true)⟩, ⟨some 18, .mov (.t 0), some (14, true)⟩, ⟨some 19, .mov (.t 1), some (14, true)⟩, ⟨some 20, .call 22 [(.t 18), (.t 19)], some (14, true)⟩, ⟨some 21, .binb false (.t 17) (.t 20), some (14, true)⟩, ⟨some 22, .pick (.t 14) (.t 21) (.b false), none⟩, ⟨some 23, .mov (.t 22), none⟩, ⟨some 24, .mov (.t 0), some (23, true)⟩, ⟨some 25, .mov (.t 1), some (23, true)⟩, ⟨some 26, .call 23 [(.t 24), (.t 25)], some (23, true)⟩, ⟨some 27, .mov (.t 0), some (23, true)⟩, ⟨some 28, .mov (.t 1), some (23, true)⟩, ⟨some 29, .call 24 [(.t 27), (.t 28)], some (23, true)⟩, ⟨some 30, .binb false (.t 26) (.t 29), some (23, true)⟩, ⟨some 31, .pick (.t 23) (.t 30) (.b false), none⟩, ⟨some 32, .mov (.t 31), none⟩, ⟨some 33, .mov (.t 0), some (32, true)⟩, ⟨some 34, .call 25 [(.t 33)], some (32, true)⟩, ⟨some 35, .mov (.t 0), some (32, true)⟩, ⟨some 36, .call 26 [(.t 35)], some (32, true)⟩, ⟨some 37, .bini .eql (.t 34) (.t 36), some (32, true)⟩, ⟨some 38, .pick (.t 32) (.t 37) (.b false), none⟩, ⟨some 4, .mov (.t 38), none⟩])
 .ret)))⟩
theorem t_hydrantlaw04_HostsMatch : trFn Try.prog 6 [] [] = some f_hydrantlaw04_HostsMatch := by kernel_rfl

abbrev n_hydrantlaw04_HostsBetter : Nat := 7
theorem k_hydrantlaw04_HostsBetter : FnOk Try.prog 7 := FnOk.of (by kernel_rfl)
/-- hydrant/hydrantlaw04.HostsBetter -/
def f_hydrantlaw04_HostsBetter : FnI := ⟨64, [.tmp 8],
 (.seq (.reg [⟨some 8, .mov (.b false), none⟩])
 (.seq (.seq (.reg [⟨some 9, .mov (.t 0), none⟩, ⟨some 10, .len true (.t 9), none⟩, ⟨some 11, .bini .gtr (.t 10) (.c (.int .i64 (200))), none⟩, ⟨some 12, .mov (.t 11), none⟩, ⟨some 13, .mov (.t 2), some (12, false)⟩, ⟨some 14, .len true (.t 13), some (12, false)⟩, ⟨some 15, .bini .gtr (.t 14) (.c (.int .i64 (200))), some (12, false)⟩, ⟨some 16, .pick (.t 12) (.b true) (.t 15), none⟩, ⟨some 17, .mov (.t 16), none⟩, ⟨some 18, .mov (.t 1), some (17, false)⟩, ⟨some 19, .len true (.t 18), some (17, false)⟩, ⟨some 20, .bini .gtr (.t 19) (.c (.int .i64 (200))), some (17, false)⟩, ⟨some 21, .pick (.t 17) (.b true) (.t 20), none⟩, ⟨some 22, .mov (.t 21), none⟩, ⟨some 23, .mov (.t 3), some (22, false)⟩, ⟨some 24, .len true (.t 23), some (22, false)⟩, ⟨some 25, .bini .gtr (.t 24) (.c (.int .i64 (200))), some (22, false)⟩, ⟨some 26, .pick (.t 22) (.b true) (.t 25), none⟩])
 (.cond (.t 26)
 (.seq (.reg [⟨some 8, .mov (.b true), none⟩])
 .ret)
 .skip))
 (.seq (.reg [⟨some 27, .call 20 [], none⟩, ⟨some 28, .mov (.t 27), none⟩, ⟨some 29, .mov (.t 0), some (28, true)⟩, ⟨some 30, .mov (.t 1), some (28, true)⟩, ⟨some 31, .mov (.t 2), some (28, true)⟩, ⟨some 32, .mov (.t 3), some (28, true)⟩, ⟨some 33, .call 27 [(.t 29), (.t 30), (.t 31), (.t 32)], some (28, true)⟩, ⟨some 34, .mov (.t 0), some (28, true)⟩, ⟨some 35, .mov (.t 1), some (28, true)⟩, ⟨some 36, .mov (.t 2), some (28, true)⟩, ⟨some 37, .mov (.t 3), some (28, true)⟩, ⟨some 38, .call 28 [(.t 34), (.t 35), (.t 36), (.t 37)], some (28, true)⟩, ⟨some 39, .binb false (.t 33) (.t 38), some (28, true)⟩, ⟨some 40, .pick (.t 28) (.t 39) (.b false), none⟩, ⟨some 41, .mov (.t 40), none⟩, ⟨some 42, .mov (.t 0), some (41, true)⟩, ⟨some 43, .mov (.t 1), some (41, true)⟩, ⟨some 44, .mov (.t 2), some (41, true)⟩, ⟨some 45, .mov (.t 3), some (41, true)⟩, ⟨some 46, .call 27 [(.t 42), (.t 43), (.t 44), (.t 45)], some (41, true)⟩, ⟨some 47, .mov (.t 46), some (41, true)⟩, ⟨some 48, .mov (.t 2), some (47, true)⟩, ⟨some 49, .mov (.t 3), some (47, true)⟩, ⟨some 50, .mov (.t 0), some (47, true)⟩, ⟨some 51, .mov (.t 1), some (47, true)⟩, ⟨some 52, .call 27 [(.t 48), (.t 49), (.t 50), (.t 51)], some (47, true)⟩, ⟨some 53, .pick (.t 47) (.t 52) (.b false), some (41, true)⟩, ⟨some 54, .not (.t 53), some (41, true)⟩, ⟨some 55, .pick (.t 41) (.t 54) (.b false), none⟩, ⟨some 56, .mov (.t 55), none⟩, ⟨some 57, .mov (.t 0), some (56, true)⟩, ⟨some 58, .mov (.t 1), some (56, true)⟩, ⟨some 59, .mov (.t 0), some (56, true)⟩, ⟨some 60, .mov (.t 1), some (56, true)⟩, ⟨some 61, .call 27 [(.t 57), (.t 58), (.t 59), (.t 60)], some (56, true)⟩, ⟨some 62, .not (.t 61), some (56, true)⟩, ⟨some 63, .pick (.t 56) (.t 62) (.b false), none⟩, ⟨some 8, .mov (.t 63), none⟩])
 .ret)))⟩
theorem t_hydrantlaw04_HostsBetter : trFn Try.prog 7 [] [] = some f_hydrantlaw04_HostsBetter := by kernel_rfl

abbrev n_hydrantlaw04_HostsUnlike : Nat := 8
theorem k_hydrantlaw04_HostsUnlike : FnOk Try.prog 8 := FnOk.of (by kernel_rfl)
/-- hydrant/hydrantlaw04.HostsUnlike -/
def f_hydrantlaw04_HostsUnlike : FnI := ⟨47, [.tmp 6],
 (.seq (.reg [⟨some 6, .mov (.b false), none⟩])
 (.seq (.seq (.reg [⟨some 7, .mov (.t 0), none⟩, ⟨some 8, .len true (.t 7), none⟩, ⟨some 9, .bini .gtr (.t 8) (.c (.int .i64 (200))), none⟩, ⟨some 10, .mov (.t 9), none⟩, ⟨some 11, .mov (.t 1), some (10, false)⟩, ⟨some 12, .len true (.t 11), some (10, false)⟩, ⟨some 13, .bini .gtr (.t 12) (.c (.int .i64 (200))), some (10, false)⟩, ⟨some 14, .pick (.t 10) (.b true) (.t 13), none⟩, ⟨some 15, .mov (.t 14), none⟩, ⟨some 16, .mov (.t 2), some (15, false)⟩, ⟨some 17, .len true (.t 16), some (15, false)⟩, ⟨some 18, .bini .gtr (.t 17) (.c (.int .i64 (200))), some (15, false)⟩, ⟨some 19, .pick (.t 15) (.b true) (.t 18), none⟩])
 (.cond (.t 19)
 (.seq (.reg [⟨some 6, .mov (.b true), none⟩])
 .ret)
 .skip))
 (.seq (.seq (.reg [⟨some 20, .mov (.t 0), none⟩, ⟨some 21, .mov (.t 2), none⟩, ⟨some 22, .call 21 [(.t 20), (.t 21)], none⟩, ⟨some 23, .not (.t 22), none⟩, ⟨some 24, .mov (.t 23), none⟩, ⟨some 25, .mov (.t 1), some (24, false)⟩, ⟨some 26, .mov (.t 2), some (24, false)⟩, ⟨some 27, .call 21 [(.t 25), (.t 26)], some (24, false)⟩, ⟨some 28, .not (.t 27), some (24, false)⟩, ⟨some 29, .pick (.t 24) (.b true) (.t 28), none⟩])
 (.cond (.t 29)
 (.seq (.reg [⟨some 30, .call 20 [], none⟩, ⟨some 6, .mov (.t 30), none⟩])
 .ret)
 .skip))
 (.seq (.reg [⟨some 31, .call 20 [], none⟩, ⟨some 32, .mov (.t 31), none⟩, ⟨some 33, .mov (.t 0), some (32, true)⟩, ⟨some 34, .mov (.t 1), some (32, true)⟩, ⟨some 35, .bins .eql (.t 33) (.t 34), some (32, true)⟩, ⟨some 36, .mov (.t 0), some (32, true)⟩, ⟨some 37, .call 25 [(.t 36)], some (32, true)⟩, ⟨some 38, .mov (.t 1), some (32, true)⟩, ⟨some 39, .call 25 [(.t 38)], some (32, true)⟩, ⟨some 40, .bini .eql (.t 37) (.t 39), some (32, true)⟩, ⟨some 41, .binb false (.t 35) (.t 40), some (32, true)⟩, ⟨some 42, .pick (.t 32) (.t 41) (.b false), none⟩, ⟨some 43, .mov (.t 42), none⟩, ⟨some 44, .mov (.t 2), some (43, true)⟩, ⟨some 45, .call 29 [(.t 44)], some (43, true)⟩, ⟨some 46, .pick (.t 43) (.t 45) (.b false), none⟩, ⟨some 6, .mov (.t 46), none⟩])
 .ret))))⟩
theorem t_hydrantlaw04_HostsUnlike : trFn Try.prog 8 [] [] = some f_hydrantlaw04_HostsUnlike := by kernel_rfl

abbrev n_hydrantlaw04_HostsUnder : Nat := 9
theorem k_hydrantlaw04_HostsUnder : FnOk Try.prog 9 := FnOk.of (by kernel_rfl)
/-- hydrant/hydrantlaw04.HostsUnder -/
def f_hydrantlaw04_HostsUnder : FnI := ⟨59, [.tmp 6],
 (.seq (.reg [⟨some 6, .mov (.b false), none⟩])
 (.seq (.seq (.reg [⟨some 7, .mov (.t 0), none⟩, ⟨some 8, .len true (.t 7), none⟩, ⟨some 9, .bini .gtr (.t 8) (.c (.int .i64 (200))), none⟩, ⟨some 10, .mov (.t 9), none⟩, ⟨some 11, .mov (.t 1), some (10, false)⟩, ⟨some 12, .len true (.t 11), some (10, false)⟩, ⟨some 13, .bini .gtr (.t 12) (.c (.int .i64 (200))), some (10, false)⟩, ⟨some 14, .pick (.t 10) (.b true) (.t 13), none⟩, ⟨some 15, .mov (.t 14), none⟩, ⟨some 16, .mov (.t 2), some (15, false)⟩, ⟨some 17, .len true (.t 16), some (15, false)⟩, ⟨some 18, .bini .gtr (.t 17) (.c (.int .i64 (200))), some (15, false)⟩, ⟨some 19, .pick (.t 15) (.b true) (.t 18), none⟩])
 (.cond (.t 19)
 (.seq (.reg [⟨some 6, .mov (.b true), none⟩])
 .ret)
 .skip))
 (.seq (.seq (.reg [⟨some 20, .mov (.t 0), none⟩, ⟨some 21, .mov (.t 1), none⟩, ⟨some 22, .call 23 [(.t 20), (.t 21)], none⟩, ⟨some 23, .mov (.t 22), none⟩, ⟨some 24, .mov (.t 1), some (23, true)⟩, ⟨some 25, .mov (.t 0), some (23, true)⟩, ⟨some 26, .call 23 [(.t 24), (.t 25)], some (23, true)⟩, ⟨some 27, .pick (.t 23) (.t 26) (.b false), none⟩, ⟨some 28, .mov (.t 27), none⟩, ⟨some 29, .mov (.t 0), some (28, true)⟩, ⟨some 30, .mov (.t 1), some (28, true)⟩, ⟨some 31, .bins .neq (.t 29) (.t 30), some (28, true)⟩, ⟨some 32, .pick (.t 28) (.t 31) (.b false), none⟩])
 (.cond (.t 32)
 (.seq (.reg [⟨some 6, .mov (.b false), none⟩])
 .ret)
 .skip))
 (.seq (.reg [⟨some 33, .call 20 [], none⟩, ⟨some 34, .mov (.t 33), none⟩, ⟨some 35, .mov (.t 0), some (34, true)⟩, ⟨some 36, .mov (.t 0), some (34, true)⟩, ⟨some 37, .call 23 [(.t 35), (.t 36)], some (34, true)⟩, ⟨some 38, .mov (.t 0), some (34, true)⟩, ⟨some 39, .call 30 [(.t 38)], some (34, true)⟩, ⟨some 40, .binb false (.t 37) (.t 39), some (34, true)⟩, ⟨some 41, .pick (.t 34) (.t 40) (.b false), none⟩, ⟨some 42, .mov (.t 41), none⟩, ⟨some 43, .mov (.t 0), some (42, true)⟩, ⟨some 44, .mov (.t 1), some (42, true)⟩, ⟨some 45, .call 23 [(.t 43), (.t 44)], some (42, true)⟩, ⟨some 46, .not (.t 45), some (42, true)⟩, ⟨some 47, .mov (.t 46), some (42, true)⟩, ⟨some 48, .mov (.t 1), some (47, false)⟩, ⟨some 49, .mov (.t 2), some (47, false)⟩, ⟨some 50, .call 23 [(.t 48), (.t 49)], some (47, false)⟩, ⟨some 51, .not (.t 50), some (47, false)⟩, ⟨some 52, .pick (.t 47) (.b true) (.t 51), some (42, true)⟩, ⟨some 53, .mov (.t 52), some (42, true)⟩, ⟨some 54, .mov (.t 0), some (53, false)⟩, ⟨some 55, .mov (.t 2), some (53, false)⟩, ⟨some 56, .call 23 [(.t 54), (.t 55)], some (53, false)⟩, ⟨some 57, .pick (.t 53) (.b true) (.t 56), some (42, true)⟩, ⟨some 58, .pick (.t 42) (.t 57) (.b false), none⟩, ⟨some 6, .mov (.t 58), none⟩])
 .ret))))⟩
theorem t_hydrantlaw04_HostsUnder : trFn Try.prog 9 [] [] = some f_hydrantlaw04_HostsUnder := by kernel_rfl

abbrev n_hydrantlaw04_HostsDeep : Nat := 10
theorem k_hydrantlaw04_HostsDeep : FnOk Try.prog 10 := FnOk.of (by kernel_rfl)
/-- hydrant/hydrantlaw04.HostsDeep -/
def f_hydrantlaw04_HostsDeep : FnI := ⟨62, [.tmp 6],
 (.seq (.reg [⟨some 6, .mov (.b false), none⟩])
 (.seq (.seq (.reg [⟨some 9, .mov (.t 0), none⟩, ⟨some 10, .len true (.t 9), none⟩, ⟨some 11, .bini .gtr (.t 10) (.c (.int .i64 (200))), none⟩, ⟨some 12, .mov (.t 11), none⟩, ⟨some 13, .mov (.t 1), some (12, false)⟩, ⟨some 14, .len true (.t 13), some (12, false)⟩, ⟨some 15, .bini .gtr (.t 14) (.c (.int .i64 (200))), some (12, false)⟩, ⟨some 16, .pick (.t 12) (.b true) (.t 15), none⟩, ⟨some 17, .mov (.t 16), none⟩, ⟨some 18, .mov (.t 2), some (17, false)⟩, ⟨some 19, .len true (.t 18), some (17, false)⟩, ⟨some 20, .bini .gtr (.t 19) (.c (.int .i64 (200))), some (17, false)⟩, ⟨some 21, .pick (.t 17) (.b true) (.t 20), none⟩])
 (.cond (.t 21)
 (.seq (.reg [⟨some 6, .mov (.b true), none⟩])
 .ret)
 .skip))
 (.seq (.reg [⟨some 22, .mov (.t 0), none⟩, ⟨some 23, .bins .add (.c (.string ⟨#[42, 46]⟩)) (.t 22), none⟩, ⟨some 7, .mov (.t 23), none⟩])
 (.seq (.reg [⟨some 24, .mov (.t 2), none⟩, ⟨some 25, .bins .add (.t 24) (.c (.string ⟨#[46]⟩)), none⟩, ⟨some 26, .mov (.t 1), none⟩, ⟨some 27, .bins .add (.t 25) (.t 26), none⟩, ⟨some 8, .mov (.t 27), none⟩])
 (.seq (.seq (.reg [⟨some 28, .mov (.t 8), none⟩, ⟨some 29, .call 29 [(.t 28)], none⟩, ⟨some 30, .not (.t 29), none⟩, ⟨some 31, .mov (.t 30), none⟩, ⟨some 32, .mov (.t 1), some (31, false)⟩, ⟨some 33, .call 29 [(.t 32)], some (31, false)⟩, ⟨some 34, .not (.t 33), some (31, false)⟩, ⟨some 35, .pick (.t 31) (.b true) (.t 34), none⟩])
 (.cond (.t 35)
 (.seq (.reg [⟨some 36, .call 20 [], none⟩, ⟨some 6, .mov (.t 36), none⟩])
 .ret)
 .skip))
 (.seq (.reg [⟨some 37, .call 20 [], none⟩, ⟨some 38, .mov (.t 37), none⟩, ⟨some 39, .mov (.t 7), some (38, true)⟩, ⟨some 40, .mov (.t 1), some (38, true)⟩, ⟨some 41, .call 21 [(.t 39), (.t 40)], some (38, true)⟩, ⟨some 42, .not (.t 41), some (38, true)⟩, ⟨some 43, .mov (.t 42), some (38, true)⟩, ⟨some 44, .mov (.t 7), some (43, false)⟩, ⟨some 45, .mov (.t 8), some (43, false)⟩, ⟨some 46, .call 21 [(.t 44), (.t 45)], some (43, false)⟩, ⟨some 47, .pick (.t 43) (.b true) (.t 46), some (38, true)⟩, ⟨some 48, .pick (.t 38) (.t 47) (.b false), none⟩, ⟨some 49, .mov (.t 48), none⟩, ⟨some 50, .mov (.t 1), some (49, true)⟩, ⟨some 51, .bins .add (.c (.string ⟨#[42, 46]⟩)) (.t 50), some (49, true)⟩, ⟨some 52, .mov (.t 8), some (49, true)⟩, ⟨some 53, .call 21 [(.t 51), (.t 52)], some (49, true)⟩, ⟨some 54, .pick (.t 49) (.t 53) (.b false), none⟩, ⟨some 55, .mov (.t 54), none⟩, ⟨some 56, .mov (.t 1), some (55, true)⟩, ⟨some 57, .bins .add (.c (.string ⟨#[42, 46]⟩)) (.t 56), some (55, true)⟩, ⟨some 58, .mov (.t 1), some (55, true)⟩, ⟨some 59, .call 21 [(.t 57), (.t 58)], some (55, true)⟩, ⟨some 60, .not (.t 59), some (55, true)⟩, ⟨some 61, .pick (.t 55) (.t 60) (.b false), none⟩, ⟨some 6, .mov (.t 61), none⟩])
 .ret))))))⟩
theorem t_hydrantlaw04_HostsDeep : trFn Try.prog 10 [] [] = some f_hydrantlaw04_HostsDeep := by kernel_rfl

abbrev n_hydrantlaw15_passed : Nat := 11
theorem k_hydrantlaw15_passed : FnOk Try.prog 11 := FnOk.of (by kernel_rfl)
/-- hydrant/hydrantlaw15.passed -/
def f_hydrantlaw15_passed : FnI := ⟨37, [.tmp 0],
 (.seq (.reg [⟨some 0, .mov (.b false), none⟩])
 (.seq (.reg [⟨some 1, .bsl 3 1 3 [(.v (.int .i64 (0))), (.v (.int .i64 (0))), (.v (.int .i64 (0)))] [(0, 1, (.c (.int .i64 (0)))), (1, 1, (.c (.int .i64 (5)))), (2, 1, (.c (.int .i64 (0))))], none⟩, ⟨some 2, .call 12 [(.c (.int .i64 (4))), (.t 1)], none⟩, ⟨some 3, .mov (.t 2), none⟩, ⟨some 4, .bsl 3 1 1 [(.v (.int .i64 (0)))] [(0, 1, (.c (.int .i64 (4))))], some (3, true)⟩, ⟨some 5, .call 12 [(.c (.int .i64 (4))), (.t 4)], some (3, true)⟩, ⟨some 6, .not (.t 5), some (3, true)⟩, ⟨some 7, .pick (.t 3) (.t 6) (.b false), none⟩, ⟨some 8, .mov (.t 7), none⟩, ⟨some 9, .call 14 [(.c (.int .i64 (4))), (.c (.slice none 0 0))], some (8, true)⟩, ⟨some 10, .bini .eql (.t 9) (.c (.int .i64 (5))), some (8, true)⟩, ⟨some 11, .pick (.t 8) (.t 10) (.b false), none⟩, ⟨some 12, .mov (.t 11), none⟩, ⟨some 13, .bsl 3 1 1 [(.v (.int .i64 (0)))] [(0, 1, (.c (.int .i64 (4))))], some (12, true)⟩, ⟨some 14, .call 14 [(.c (.int .i64 (4))), (.t 13)], some (12, true)⟩, ⟨some 15, .bini .eql (.t 14) (.c (.int .i64 (4))), some (12, true)⟩, ⟨some 16, .pick (.t 12) (.t 15) (.b false), none⟩, ⟨some 17, .mov (.t 16), none⟩, ⟨some 18, .call 16 [(.c (.int .i64 (3))), (.c (.int .i64 (5)))], some (17, true)⟩, ⟨some 19, .pick (.t 17) (.t 18) (.b false), none⟩, ⟨some 20, .mov (.t 19), none⟩, ⟨some 21, .call 16 [(.c (.int .i64 (4))), (.c (.int .i64 (5)))], some (20, true)⟩, ⟨some 22, .not (.t 21), some (20, true)⟩, ⟨some 23, .pick (.t 20) (.t 22) (.b false), none⟩, ⟨some 24, .mov (.t 23), none⟩, ⟨some 25, .bsl 3 1 2 [(.v (.int .i64 (0))), (.v (.int .i64 (0)))] [(0, 1, (.c (.int .i64 (0)))), (1, 1, (.c (.int .i64 (5))))], some (24, true)⟩, ⟨some 26, .call 18 [(.c (.int .i64 (4))), (.t 25)], some (24, true)⟩, ⟨some 27, .pick (.t 24) (.t 26) (.b false), none⟩, ⟨some 28, .mov (.t 27), none⟩, ⟨some 29, .bsl 3 1 2 [(.v (.int .i64 (0))), (.v (.int .i64 (0)))] [(0, 1, (.c (.int .i64 (0)))), (1, 1, (.c (.int .i64 (5))))], some (28, true)⟩, ⟨some 30, .call 18 [(.c (.int .i64 (3))), (.t 29)], some (28, true)⟩, ⟨some 31, .not (.t 30), some (28, true)⟩, ⟨some 32, .pick (.t 28) (.t 31) (.b false), none⟩, ⟨some 33, .mov (.t 32), none⟩, ⟨some 34, .call 18 [(.c (.int .i64 (3))), (.c (.slice none 0 0))], some (33, true)⟩, ⟨some 35, .not (.t 34), some (33, true)⟩, ⟨some 36, .pick (.t 33) (.t 35) (.b false), none⟩, ⟨some 0, .mov (.t 36), none⟩])
 .ret))⟩
theorem t_hydrantlaw15_passed : trFn Try.prog 11 [] [] = some f_hydrantlaw15_passed := by kernel_rfl

abbrev n_epoch_Can : Nat := 12
theorem k_epoch_Can : FnOk Try.prog 12 := FnOk.of (by kernel_rfl)
/-- hydrant/epoch.Can -/
def f_epoch_Can : FnI := ⟨8, [.tmp 4],
 (.seq (.reg [⟨some 2, .box 3 (.t 0), none⟩, ⟨some 4, .mov (.b false), none⟩])
 (.seq (.reg [⟨some 5, .mkf (.func 32) [] [(.t 2)], none⟩, ⟨some 6, .mov (.t 1), none⟩, ⟨some 7, .call 31 [(.t 5), (.t 6)], none⟩, ⟨some 4, .mov (.t 7), none⟩])
 .ret))⟩
theorem t_epoch_Can : trFn Try.prog 12 [] [] = some f_epoch_Can := by kernel_rfl

abbrev n_hydrantref15_Can : Nat := 13
theorem k_hydrantref15_Can : FnOk Try.prog 13 := FnOk.of (by kernel_rfl)
/-- hydrant/hydrantref15.Can -/
def f_hydrantref15_Can : FnI := ⟨31, [.tmp 4],
 (.seq (.reg [⟨some 4, .mov (.b false), none⟩])
 (.seq (.seq (.reg [⟨some 5, .mov (.c (.int .i64 (0))), none⟩])
 (.block 0
 (.loop [5] [6, 7, 8, 9, 12, 13, 14, 15, 16, 17, 18, 19, 20, 21, 22, 23, 24, 25, 26, 27, 28, 29, 30, 4, 10, 11, 5]
 (.seq (.seq (.reg [⟨some 6, .mov (.t 5), none⟩, ⟨some 7, .mov (.t 1), none⟩, ⟨some 8, .len false (.t 7), none⟩, ⟨some 9, .bini .lss (.t 6) (.t 8), none⟩])
 (.cond (.t 9)
 .skip
 (.exit 0)))
 (.seq (.block 1
 (.seq (.reg [⟨some 12, .mov (.t 1), none⟩, ⟨some 13, .mov (.t 5), none⟩, ⟨some 14, .iadr 1 (.t 12) (.t 13), none⟩, ⟨some 15, .load false 1 (.t 14), none⟩, ⟨some 16, .bini .neq (.t 15) (.c (.int .i64 (0))), none⟩, ⟨some 17, .mov (.t 16), none⟩, ⟨some 18, .mov (.t 0), some (17, true)⟩, ⟨some 19, .call 33 [], some (17, true)⟩, ⟨some 20, .bini .eql (.t 18) (.t 19), some (17, true)⟩, ⟨some 21, .mov (.t 20), some (17, true)⟩, ⟨some 22, .mov (.t 1), some (21, false)⟩, ⟨some 23, .mov (.t 5), some (21, false)⟩, ⟨some 24, .iadr 1 (.t 22) (.t 23), some (21, false)⟩, ⟨some 25, .load false 1 (.t 24), some (21, false)⟩, ⟨some 26, .mov (.t 0), some (21, false)⟩, ⟨some 27, .bini .add (.t 26) (.c (.int .i64 (1))), some (21, false)⟩, ⟨some 28, .bini .neq (.t 25) (.t 27), some (21, false)⟩, ⟨some 29, .pick (.t 21) (.b true) (.t 28), some (17, true)⟩, ⟨some 30, .pick (.t 17) (.t 29) (.b false), none⟩])
 (.cond (.t 30)
 (.seq (.reg [⟨some 4, .mov (.b false), none⟩])
 .ret)
 .skip)))
 (.reg [⟨some 10, .mov (.t 5), none⟩, ⟨some 11, .bini .add (.t 10) (.c (.int .i64 (1))), none⟩, ⟨some 5, .mov (.t 11), none⟩]))))))
 (.seq (.reg [⟨some 4, .mov (.b true), none⟩])
 .ret)))⟩
theorem t_hydrantref15_Can : trFn Try.prog 13 [] [[5]] = some f_hydrantref15_Can := by kernel_rfl

abbrev n_epoch_Next : Nat := 14
theorem k_epoch_Next : FnOk Try.prog 14 := FnOk.of (by kernel_rfl)
/-- hydrant/epoch.Next -/
def f_epoch_Next : FnI := ⟨15, [.tmp 4],
 (.seq (.reg [⟨some 4, .mov (.c (.int .i64 (0))), none⟩])
 (.seq (.seq (.reg [⟨some 5, .mov (.t 0), none⟩, ⟨some 6, .bini .lss (.t 5) (.c (.int .i64 (9223372036854775807))), none⟩, ⟨some 7, .mov (.t 6), none⟩, ⟨some 8, .mov (.t 0), some (7, true)⟩, ⟨some 9, .mov (.t 1), some (7, true)⟩, ⟨some 10, .call 12 [(.t 8), (.t 9)], some (7, true)⟩, ⟨some 11, .pick (.t 7) (.t 10) (.b false), none⟩])
 (.cond (.t 11)
 (.reg [⟨some 12, .mov (.t 0), none⟩, ⟨some 13, .bini .add (.t 12) (.c (.int .i64 (1))), none⟩, ⟨some 0, .mov (.t 13), none⟩])
 .skip))
 (.seq (.reg [⟨some 14, .mov (.t 0), none⟩, ⟨some 4, .mov (.t 14), none⟩])
 .ret)))⟩
theorem t_epoch_Next : trFn Try.prog 14 [] [] = some f_epoch_Next := by kernel_rfl

abbrev n_hydrantref15_Next : Nat := 15
theorem k_hydrantref15_Next : FnOk Try.prog 15 := FnOk.of (by kernel_rfl)
/-- hydrant/hydrantref15.Next -/
def f_hydrantref15_Next : FnI := ⟨17, [.tmp 4],
 (.seq (.reg [⟨some 4, .mov (.c (.int .i64 (0))), none⟩])
 (.seq (.seq (.reg [⟨some 5, .mov (.t 0), none⟩, ⟨some 6, .mov (.t 1), none⟩, ⟨some 7, .call 13 [(.t 5), (.t 6)], none⟩, ⟨some 8, .not (.t 7), none⟩, ⟨some 9, .mov (.t 8), none⟩, ⟨some 10, .mov (.t 0), some (9, false)⟩, ⟨some 11, .call 33 [], some (9, false)⟩, ⟨some 12, .bini .eql (.t 10) (.t 11), some (9, false)⟩, ⟨some 13, .pick (.t 9) (.b true) (.t 12), none⟩])
 (.cond (.t 13)
 (.seq (.reg [⟨some 14, .mov (.t 0), none⟩, ⟨some 4, .mov (.t 14), none⟩])
 .ret)
 .skip))
 (.seq (.reg [⟨some 15, .mov (.t 0), none⟩, ⟨some 16, .bini .add (.t 15) (.c (.int .i64 (1))), none⟩, ⟨some 4, .mov (.t 16), none⟩])
 .ret)))⟩
theorem t_hydrantref15_Next : trFn Try.prog 15 [] [] = some f_hydrantref15_Next := by kernel_rfl

abbrev n_epoch_Safe : Nat := 16
theorem k_epoch_Safe : FnOk Try.prog 16 := FnOk.of (by kernel_rfl)
/-- hydrant/epoch.Safe -/
def f_epoch_Safe : FnI := ⟨13, [.tmp 4],
 (.seq (.reg [⟨some 4, .mov (.b false), none⟩])
 (.seq (.reg [⟨some 5, .mov (.t 0), none⟩, ⟨some 6, .bini .leq (.t 5) (.c (.int .i64 (9223372036854775805))), none⟩, ⟨some 7, .mov (.t 6), none⟩, ⟨some 8, .mov (.t 0), some (7, true)⟩, ⟨some 9, .bini .add (.t 8) (.c (.int .i64 (2))), some (7, true)⟩, ⟨some 10, .mov (.t 1), some (7, true)⟩, ⟨some 11, .bini .leq (.t 9) (.t 10), some (7, true)⟩, ⟨some 12, .pick (.t 7) (.t 11) (.b false), none⟩, ⟨some 4, .mov (.t 12), none⟩])
 .ret))⟩
theorem t_epoch_Safe : trFn Try.prog 16 [] [] = some f_epoch_Safe := by kernel_rfl

abbrev n_hydrantref15_Safe : Nat := 17
theorem k_hydrantref15_Safe : FnOk Try.prog 17 := FnOk.of (by kernel_rfl)
/-- hydrant/hydrantref15.Safe -/
def f_hydrantref15_Safe : FnI := ⟨15, [.tmp 4],
 (.seq (.reg [⟨some 4, .mov (.b false), none⟩])
 (.seq (.reg [⟨some 5, .mov (.t 0), none⟩, ⟨some 6, .call 33 [], none⟩, ⟨some 7, .bini .sub (.t 6) (.c (.int .i64 (2))), none⟩, ⟨some 8, .bini .leq (.t 5) (.t 7), none⟩, ⟨some 9, .mov (.t 8), none⟩, ⟨some 10, .mov (.t 1), some (9, true)⟩, ⟨some 11, .mov (.t 0), some (9, true)⟩, ⟨some 12, .bini .add (.t 11) (.c (.int .i64 (2))), some (9, true)⟩, ⟨some 13, .bini .geq (.t 10) (.t 12), some (9, true)⟩, ⟨some 14, .pick (.t 9) (.t 13) (.b false), none⟩, ⟨some 4, .mov (.t 14), none⟩])
 .ret))⟩
theorem t_hydrantref15_Safe : trFn Try.prog 17 [] [] = some f_hydrantref15_Safe := by kernel_rfl

abbrev n_epoch_Holds : Nat := 18
theorem k_epoch_Holds : FnOk Try.prog 18 := FnOk.of (by kernel_rfl)
/-- hydrant/epoch.Holds -/
def f_epoch_Holds : FnI := ⟨9, [.tmp 4],
 (.seq (.reg [⟨some 2, .box 3 (.t 0), none⟩, ⟨some 4, .mov (.b false), none⟩])
 (.seq (.reg [⟨some 5, .mkf (.func 34) [] [(.t 2)], none⟩, ⟨some 6, .mov (.t 1), none⟩, ⟨some 7, .call 31 [(.t 5), (.t 6)], none⟩, ⟨some 8, .not (.t 7), none⟩, ⟨some 4, .mov (.t 8), none⟩])
 .ret))⟩
theorem t_epoch_Holds : trFn Try.prog 18 [] [] = some f_epoch_Holds := by kernel_rfl

abbrev n_hydrantref15_Holds : Nat := 19
theorem k_hydrantref15_Holds : FnOk Try.prog 19 := FnOk.of (by kernel_rfl)
/-- hydrant/hydrantref15.Holds -/
def f_hydrantref15_Holds : FnI := ⟨26, [.tmp 4],
 (.seq (.reg [⟨some 4, .mov (.b false), none⟩])
 (.seq (.seq (.reg [⟨some 5, .mov (.c (.int .i64 (0))), none⟩])
 (.block 0
 (.loop [5] [6, 7, 8, 9, 12, 13, 14, 15, 16, 17, 18, 19, 20, 21, 22, 23, 24, 25, 4, 10, 11, 5]
 (.seq (.seq (.reg [⟨some 6, .mov (.t 5), none⟩, ⟨some 7, .mov (.t 1), none⟩, ⟨some 8, .len false (.t 7), none⟩, ⟨some 9, .bini .lss (.t 6) (.t 8), none⟩])
 (.cond (.t 9)
 .skip
 (.exit 0)))
 (.seq (.block 1
 (.seq (.reg [⟨some 12, .mov (.t 1), none⟩, ⟨some 13, .mov (.t 5), none⟩, ⟨some 14, .iadr 1 (.t 12) (.t 13), none⟩, ⟨some 15, .load false 1 (.t 14), none⟩, ⟨some 16, .bini .geq (.t 15) (.c (.int .i64 (1))), none⟩, ⟨some 17, .mov (.t 16), none⟩, ⟨some 18, .mov (.t 1), some (17, true)⟩, ⟨some 19, .mov (.t 5), some (17, true)⟩, ⟨some 20, .iadr 1 (.t 18) (.t 19), some (17, true)⟩, ⟨some 21, .load false 1 (.t 20), some (17, true)⟩, ⟨some 22, .bini .sub (.t 21) (.c (.int .i64 (1))), some (17, true)⟩, ⟨some 23, .mov (.t 0), some (17, true)⟩, ⟨some 24, .bini .leq (.t 22) (.t 23), some (17, true)⟩, ⟨some 25, .pick (.t 17) (.t 24) (.b false), none⟩])
 (.cond (.t 25)
 (.seq (.reg [⟨some 4, .mov (.b true), none⟩])
 .ret)
 .skip)))
 (.reg [⟨some 10, .mov (.t 5), none⟩, ⟨some 11, .bini .add (.t 10) (.c (.int .i64 (1))), none⟩, ⟨some 5, .mov (.t 11), none⟩]))))))
 (.seq (.reg [⟨some 4, .mov (.b false), none⟩])
 .ret)))⟩
theorem t_hydrantref15_Holds : trFn Try.prog 19 [] [[5]] = some f_hydrantref15_Holds := by kernel_rfl

abbrev n_hydrantlaw04_matched : Nat := 20
theorem k_hydrantlaw04_matched : FnOk Try.prog 20 := FnOk.of (by kernel_rfl)
/-- hydrant/hydrantlaw04.matched -/
def f_hydrantlaw04_matched : FnI := ⟨49, [.tmp 0],
 (.seq (.reg [⟨some 0, .mov (.b false), none⟩])
 (.seq (.reg [⟨some 1, .call 21 [(.c (.string ⟨#[42]⟩)), (.c (.string ⟨#[97, 46, 98]⟩))], none⟩, ⟨some 2, .mov (.t 1), none⟩, ⟨some 3, .call 21 [(.c (.string ⟨#[42, 46, 98]⟩)), (.c (.string ⟨#[97, 46, 98]⟩))], some (2, true)⟩, ⟨some 4, .pick (.t 2) (.t 3) (.b false), none⟩, ⟨some 5, .mov (.t 4), none⟩, ⟨some 6, .call 21 [(.c (.string ⟨#[42, 46, 98]⟩)), (.c (.string ⟨#[98]⟩))], some (5, true)⟩, ⟨some 7, .not (.t 6), some (5, true)⟩, ⟨some 8, .pick (.t 5) (.t 7) (.b false), none⟩, ⟨some 9, .mov (.t 8), none⟩, ⟨some 10, .call 21 [(.c (.string ⟨#[42, 46, 98]⟩)), (.c (.string ⟨#[97, 98]⟩))], some (9, true)⟩, ⟨some 11, .not (.t 10), some (9, true)⟩, ⟨some 12, .pick (.t 9) (.t 11) (.b false), none⟩, ⟨some 13, .mov (.t 12), none⟩, ⟨some 14, .call 21 [(.c (.string ⟨#[97]⟩)), (.c (.string ⟨#[97]⟩))], some (13, true)⟩, ⟨some 15, .pick (.t 13) (.t 14) (.b false), none⟩, ⟨some 16, .mov (.t 15), none⟩, ⟨some 17, .call 21 [(.c (.string ⟨#[97]⟩)), (.c (.string ⟨#[98]⟩))], some (16, true)⟩, ⟨some 18, .not (.t 17), some (16, true)⟩, ⟨some 19, .pick (.t 16) (.t 18) (.b false), none⟩, ⟨some 20, .mov (.t 19), none⟩, ⟨some 21, .call 23 [(.c (.string ⟨#[47, 97, 47, 98]⟩)), (.c (.string ⟨#[47, 97]⟩))], some (20, true)⟩, ⟨some 22, .pick (.t 20) (.t 21) (.b false), none⟩, ⟨some 23, .mov (.t 22), none⟩, ⟨some 24, .call 23 [(.c (.string ⟨#[47, 97, 98]⟩)), (.c (.string ⟨#[47, 97]⟩))], some (23, true)⟩, ⟨some 25, .not (.t 24), some (23, true)⟩, ⟨some 26, .pick (.t 23) (.t 25) (.b false), none⟩, ⟨some 27, .mov (.t 26), none⟩, ⟨some 28, .call 23 [(.c (.string ⟨#[47, 97, 98]⟩)), (.c (.string ⟨#[47]⟩))], some (27, true)⟩, ⟨some 29, .pick (.t 27) (.t 28) (.b false), none⟩, ⟨some 30, .mov (.t 29), none⟩, ⟨some 31, .call 25 [(.c (.string ⟨#[42, 46, 97, 98]⟩))], some (30, true)⟩, ⟨some 32, .bini .eql (.t 31) (.c (.int .i64 (2))), some (30, true)⟩, ⟨some 33, .pick (.t 30) (.t 32) (.b false), none⟩, ⟨some 34, .mov (.t 33), none⟩, ⟨some 35, .call 25 [(.c (.string ⟨#[97, 98]⟩))], some (34, true)⟩, ⟨some 36, .bini .eql (.t 35) (.c (.int .i64 (100))), some (34, true)⟩, ⟨some 37, .pick (.t 34) (.t 36) (.b false), none⟩, ⟨some 38, .mov (.t 37), none⟩, ⟨some 39, .call 25 [(.c (.string ⟨#[42]⟩))], some (38, true)⟩, ⟨some 40, .bini .eql (.t 39) (.c (.int .i64 (0))), some (38, true)⟩, ⟨some 41, .pick (.t 38) (.t 40) (.b false), none⟩, ⟨some 42, .mov (.t 41), none⟩, ⟨some 43, .call 27 [(.c (.string ⟨#[42, 46, 97]⟩)), (.c (.string ⟨#[47]⟩)), (.c (.string ⟨#[42]⟩)), (.c (.string ⟨#[47, 97, 97, 97]⟩))], some (42, true)⟩, ⟨some 44, .pick (.t 42) (.t 43) (.b false), none⟩, ⟨some 45, .mov (.t 44), none⟩, ⟨some 46, .call 27 [(.c (.string ⟨#[42]⟩)), (.c (.string ⟨#[47, 97]⟩)), (.c (.string ⟨#[42]⟩)), (.c (.string ⟨#[47, 98]⟩))], some (45, true)⟩, ⟨some 47, .not (.t 46), some (45, true)⟩, ⟨some 48, .pick (.t 45) (.t 47) (.b false), none⟩, ⟨some 0, .mov (.t 48), none⟩])
 .ret))⟩
theorem t_hydrantlaw04_matched : trFn Try.prog 20 [] [] = some f_hydrantlaw04_matched := by kernel_rfl

abbrev n_hosts_Match : Nat := 21
theorem k_hosts_Match : FnOk Try.prog 21 := FnOk.of (by kernel_rfl)
/-- hydrant/hosts.Match -/
def f_hosts_Match : FnI := ⟨43, [.tmp 4],
 (.seq (.reg [⟨some 4, .mov (.b false), none⟩])
 (.seq (.seq (.reg [⟨some 7, .mov (.t 0), none⟩, ⟨some 8, .call 35 [(.t 7)], none⟩, ⟨some 9, .not (.t 8), none⟩, ⟨some 10, .mov (.t 9), none⟩, ⟨some 11, .mov (.t 1), some (10, false)⟩, ⟨some 12, .call 29 [(.t 11)], some (10, false)⟩, ⟨some 13, .not (.t 12), some (10, false)⟩, ⟨some 14, .pick (.t 10) (.b true) (.t 13), none⟩])
 (.cond (.t 14)
 (.seq (.reg [⟨some 4, .mov (.b false), none⟩])
 .ret)
 .skip))
 (.seq (.reg [⟨some 16, .mov (.t 0), none⟩, ⟨some 17, .call 36 [(.t 16), (.c (.string ⟨#[42]⟩))], none⟩, ⟨some 15, .mov (.t 17), none⟩, ⟨some 18, .ext 0 (.t 15), none⟩, ⟨some 19, .ext 1 (.t 15), none⟩, ⟨some 5, .mov (.t 18), none⟩, ⟨some 6, .mov (.t 19), none⟩])
 (.seq (.block 0
 (.seq (.block 2
 (.block 1
 (.seq (.seq (.seq (.reg [⟨some 21, .mov (.t 0), none⟩, ⟨some 22, .mov (.t 1), none⟩, ⟨some 23, .bins .eql (.t 21) (.t 22), none⟩, ⟨some 20, .mov (.t 23), none⟩])
 (.cond (.t 20)
 (.exit 1)
 .skip))
 (.seq (.reg [⟨some 25, .mov (.t 6), none⟩, ⟨some 26, .mov (.t 25), none⟩, ⟨some 27, .mov (.t 5), some (26, true)⟩, ⟨some 28, .bins .eql (.t 27) (.c (.string ⟨#[]⟩)), some (26, true)⟩, ⟨some 29, .pick (.t 26) (.t 28) (.b false), none⟩, ⟨some 24, .mov (.t 29), none⟩])
 (.cond (.t 24)
 (.exit 2)
 .skip)))
 (.exit 0))))
 (.seq (.seq (.reg [⟨some 4, .mov (.b true), none⟩])
 .ret)
 (.exit 0))))
 (.seq (.reg [⟨some 30, .mov (.t 6), none⟩, ⟨some 31, .mov (.t 30), none⟩, ⟨some 32, .mov (.t 1), some (31, true)⟩, ⟨some 33, .len true (.t 32), some (31, true)⟩, ⟨some 34, .mov (.t 5), some (31, true)⟩, ⟨some 35, .len true (.t 34), some (31, true)⟩, ⟨some 36, .bini .gtr (.t 33) (.t 35), some (31, true)⟩, ⟨some 37, .pick (.t 31) (.t 36) (.b false), none⟩, ⟨some 38, .mov (.t 37), none⟩, ⟨some 39, .mov (.t 1), some (38, true)⟩, ⟨some 40, .mov (.t 5), some (38, true)⟩, ⟨some 41, .call 37 [(.t 39), (.t 40)], some (38, true)⟩, ⟨some 42, .pick (.t 38) (.t 41) (.b false), none⟩, ⟨some 4, .mov (.t 42), none⟩])
 .ret)))))⟩
theorem t_hosts_Match : trFn Try.prog 21 [] [] = some f_hosts_Match := by kernel_rfl

abbrev n_hydrantref04_Match : Nat := 22
theorem k_hydrantref04_Match : FnOk Try.prog 22 := FnOk.of (by kernel_rfl)
/-- hydrant/hydrantref04.Match -/
def f_hydrantref04_Match : FnI := ⟨41, [.tmp 4],
 (.seq (.reg [⟨some 4, .mov (.b false), none⟩])
 (.seq (.seq (.reg [⟨some 7, .mov (.t 0), none⟩, ⟨some 8, .call 38 [(.t 7)], none⟩, ⟨some 9, .not (.t 8), none⟩, ⟨some 10, .mov (.t 9), none⟩, ⟨some 11, .mov (.t 1), some (10, false)⟩, ⟨some 12, .call 39 [(.t 11)], some (10, false)⟩, ⟨some 13, .not (.t 12), some (10, false)⟩, ⟨some 14, .pick (.t 10) (.b true) (.t 13), none⟩])
 (.cond (.t 14)
 (.seq (.reg [⟨some 4, .mov (.b false), none⟩])
 .ret)
 .skip))
 (.seq (.seq (.reg [⟨some 15, .mov (.t 0), none⟩, ⟨some 16, .bins .eql (.t 15) (.c (.string ⟨#[42]⟩)), none⟩, ⟨some 17, .mov (.t 16), none⟩, ⟨some 18, .mov (.t 0), some (17, false)⟩, ⟨some 19, .mov (.t 1), some (17, false)⟩, ⟨some 20, .bins .eql (.t 18) (.t 19), some (17, false)⟩, ⟨some 21, .pick (.t 17) (.b true) (.t 20), none⟩])
 (.cond (.t 21)
 (.seq (.reg [⟨some 4, .mov (.b true), none⟩])
 .ret)
 .skip))
 (.seq (.seq (.reg [⟨some 22, .mov (.t 0), none⟩, ⟨some 23, .idxs (.t 22) (.c (.int .i64 (0))), none⟩, ⟨some 24, .bini .neq (.t 23) (.c (.int .u8 (42))), none⟩])
 (.cond (.t 24)
 (.seq (.reg [⟨some 4, .mov (.b false), none⟩])
 .ret)
 .skip))
 (.seq (.reg [⟨some 25, .mov (.t 0), none⟩, ⟨some 26, .slcs (.t 25) (some (.c (.int .i64 (1)))) none, none⟩, ⟨some 5, .mov (.t 26), none⟩])
 (.seq (.reg [⟨some 27, .mov (.t 1), none⟩, ⟨some 28, .len true (.t 27), none⟩, ⟨some 29, .mov (.t 5), none⟩, ⟨some 30, .len true (.t 29), none⟩, ⟨some 31, .bini .sub (.t 28) (.t 30), none⟩, ⟨some 6, .mov (.t 31), none⟩])
 (.seq (.reg [⟨some 32, .mov (.t 6), none⟩, ⟨some 33, .bini .gtr (.t 32) (.c (.int .i64 (0))), none⟩, ⟨some 34, .mov (.t 33), none⟩, ⟨some 35, .mov (.t 1), some (34, true)⟩, ⟨some 36, .mov (.t 6), some (34, true)⟩, ⟨some 37, .slcs (.t 35) (some (.t 36)) none, some (34, true)⟩, ⟨some 38, .mov (.t 5), some (34, true)⟩, ⟨some 39, .bins .eql (.t 37) (.t 38), some (34, true)⟩, ⟨some 40, .pick (.t 34) (.t 39) (.b false), none⟩, ⟨some 4, .mov (.t 40), none⟩])
 .ret)))))))⟩
theorem t_hydrantref04_Match : trFn Try.prog 22 [] [] = some f_hydrantref04_Match := by kernel_rfl

abbrev n_hosts_Under : Nat := 23
theorem k_hosts_Under : FnOk Try.prog 23 := FnOk.of (by kernel_rfl)
/-- hydrant/hosts.Under -/
def f_hosts_Under : FnI := ⟨35, [.tmp 4],
 (.seq (.reg [⟨some 4, .mov (.b false), none⟩])
 (.seq (.seq (.reg [⟨some 7, .mov (.t 0), none⟩, ⟨some 8, .call 30 [(.t 7)], none⟩, ⟨some 9, .not (.t 8), none⟩, ⟨some 10, .mov (.t 9), none⟩, ⟨some 11, .mov (.t 1), some (10, false)⟩, ⟨some 12, .call 30 [(.t 11)], some (10, false)⟩, ⟨some 13, .not (.t 12), some (10, false)⟩, ⟨some 14, .pick (.t 10) (.b true) (.t 13), none⟩])
 (.cond (.t 14)
 (.seq (.reg [⟨some 4, .mov (.b false), none⟩])
 .ret)
 .skip))
 (.seq (.reg [⟨some 16, .mov (.t 0), none⟩, ⟨some 17, .mov (.t 1), none⟩, ⟨some 18, .call 36 [(.t 16), (.t 17)], none⟩, ⟨some 15, .mov (.t 18), none⟩, ⟨some 19, .ext 0 (.t 15), none⟩, ⟨some 20, .ext 1 (.t 15), none⟩, ⟨some 5, .mov (.t 19), none⟩, ⟨some 6, .mov (.t 20), none⟩])
 (.seq (.reg [⟨some 21, .mov (.t 6), none⟩, ⟨some 22, .mov (.t 21), none⟩, ⟨some 23, .mov (.t 5), some (22, true)⟩, ⟨some 24, .bins .eql (.t 23) (.c (.string ⟨#[]⟩)), some (22, true)⟩, ⟨some 25, .mov (.t 24), some (22, true)⟩, ⟨some 26, .mov (.t 1), some (25, false)⟩, ⟨some 27, .call 37 [(.t 26), (.c (.string ⟨#[47]⟩))], some (25, false)⟩, ⟨some 28, .pick (.t 25) (.b true) (.t 27), some (22, true)⟩, ⟨some 29, .mov (.t 28), some (22, true)⟩, ⟨some 30, .mov (.t 5), some (29, false)⟩, ⟨some 31, .idxs (.t 30) (.c (.int .i64 (0))), some (29, false)⟩, ⟨some 32, .bini .eql (.t 31) (.c (.int .u8 (47))), some (29, false)⟩, ⟨some 33, .pick (.t 29) (.b true) (.t 32), some (22, true)⟩, ⟨some 34, .pick (.t 22) (.t 33) (.b false), none⟩, ⟨some 4, .mov (.t 34), none⟩])
 .ret))))⟩
theorem t_hosts_Under : trFn Try.prog 23 [] [] = some f_hosts_Under := by kernel_rfl

abbrev n_hydrantref04_Under : Nat := 24
theorem k_hydrantref04_Under : FnOk Try.prog 24 := FnOk.of (by kernel_rfl)
/-- hydrant/hydrantref04.Under -/
def f_hydrantref04_Under : FnI := ⟨48, [.tmp 4],
 (.seq (.reg [⟨some 4, .mov (.b false), none⟩])
 (.seq (.seq (.reg [⟨some 5, .mov (.t 0), none⟩, ⟨some 6, .call 40 [(.t 5)], none⟩, ⟨some 7, .not (.t 6), none⟩, ⟨some 8, .mov (.t 7), none⟩, ⟨some 9, .mov (.t 1), some (8, false)⟩, ⟨some 10, .call 40 [(.t 9)], some (8, false)⟩, ⟨some 11, .not (.t 10), some (8, false)⟩, ⟨some 12, .pick (.t 8) (.b true) (.t 11), none⟩, ⟨some 13, .mov (.t 12), none⟩, ⟨some 14, .mov (.t 0), some (13, false)⟩, ⟨some 15, .len true (.t 14), some (13, false)⟩, ⟨some 16, .mov (.t 1), some (13, false)⟩, ⟨some 17, .len true (.t 16), some (13, false)⟩, ⟨some 18, .bini .lss (.t 15) (.t 17), some (13, false)⟩, ⟨some 19, .pick (.t 13) (.b true) (.t 18), none⟩, ⟨some 20, .mov (.t 19), none⟩, ⟨some 21, .mov (.t 0), some (20, false)⟩, ⟨some 22, .mov (.t 1), some (20, false)⟩, ⟨some 23, .len true (.t 22), some (20, false)⟩, ⟨some 24, .slcs (.t 21) none (some (.t 23)), some (20, false)⟩, ⟨some 25, .mov (.t 1), some (20, false)⟩, ⟨some 26, .bins .neq (.t 24) (.t 25), some (20, false)⟩, ⟨some 27, .pick (.t 20) (.b true) (.t 26), none⟩])
 (.cond (.t 27)
 (.seq (.reg [⟨some 4, .mov (.b false), none⟩])
 .ret)
 .skip))
 (.seq (.reg [⟨some 28, .mov (.t 0), none⟩, ⟨some 29, .len true (.t 28), none⟩, ⟨some 30, .mov (.t 1), none⟩, ⟨some 31, .len true (.t 30), none⟩, ⟨some 32, .bini .eql (.t 29) (.t 31), none⟩, ⟨some 33, .mov (.t 32), none⟩, ⟨some 34, .mov (.t 1), some (33, false)⟩, ⟨some 35, .mov (.t 1), some (33, false)⟩, ⟨some 36, .len true (.t 35), some (33, false)⟩, ⟨some 37, .bini .sub (.t 36) (.c (.int .i64 (1))), some (33, false)⟩, ⟨some 38, .idxs (.t 34) (.t 37), some (33, false)⟩, ⟨some 39, .bini .eql (.t 38) (.c (.int .u8 (47))), some (33, false)⟩, ⟨some 40, .pick (.t 33) (.b true) (.t 39), none⟩, ⟨some 41, .mov (.t 40), none⟩, ⟨some 42, .mov (.t 0), some (41, false)⟩, ⟨some 43, .mov (.t 1), some (41, false)⟩, ⟨some 44, .len true (.t 43), some (41, false)⟩, ⟨some 45, .idxs (.t 42) (.t 44), some (41, false)⟩, ⟨some 46, .bini .eql (.t 45) (.c (.int .u8 (47))), some (41, false)⟩, ⟨some 47, .pick (.t 41) (.b true) (.t 46), none⟩, ⟨some 4, .mov (.t 47), none⟩])
 .ret)))⟩
theorem t_hydrantref04_Under : trFn Try.prog 24 [] [] = some f_hydrantref04_Under := by kernel_rfl

abbrev n_hosts_Weight : Nat := 25
theorem k_hosts_Weight : FnOk Try.prog 25 := FnOk.of (by kernel_rfl)
/-- hydrant/hosts.Weight -/
def f_hosts_Weight : FnI := ⟨20, [.tmp 2],
 (.seq (.reg [⟨some 2, .mov (.c (.int .i64 (0))), none⟩])
 (.seq (.seq (.reg [⟨some 5, .mov (.t 0), none⟩, ⟨some 6, .call 35 [(.t 5)], none⟩, ⟨some 7, .not (.t 6), none⟩])
 (.cond (.t 7)
 (.seq (.reg [⟨some 2, .mov (.c (.int .i64 (0))), none⟩])
 .ret)
 .skip))
 (.seq (.reg [⟨some 9, .mov (.t 0), none⟩, ⟨some 10, .call 36 [(.t 9), (.c (.string ⟨#[42, 46]⟩))], none⟩, ⟨some 8, .mov (.t 10), none⟩, ⟨some 11, .ext 0 (.t 8), none⟩, ⟨some 12, .ext 1 (.t 8), none⟩, ⟨some 3, .mov (.t 11), none⟩, ⟨some 4, .mov (.t 12), none⟩])
 (.seq (.block 0
 (.seq (.reg [⟨some 14, .mov (.t 4), none⟩, ⟨some 13, .mov (.t 14), none⟩])
 (.cond (.t 13)
 (.seq (.reg [⟨some 15, .mov (.t 3), none⟩, ⟨some 16, .len true (.t 15), none⟩, ⟨some 2, .mov (.t 16), none⟩])
 .ret)
 (.seq (.reg [⟨some 18, .mov (.t 0), none⟩, ⟨some 19, .bins .eql (.t 18) (.c (.string ⟨#[42]⟩)), none⟩, ⟨some 17, .mov (.t 19), none⟩])
 (.cond (.t 17)
 (.seq (.reg [⟨some 2, .mov (.c (.int .i64 (0))), none⟩])
 .ret)
 .skip)))))
 (.seq (.reg [⟨some 2, .mov (.c (.int .i64 (100))), none⟩])
 .ret)))))⟩
theorem t_hosts_Weight : trFn Try.prog 25 [] [] = some f_hosts_Weight := by kernel_rfl

abbrev n_hydrantref04_Weight : Nat := 26
theorem k_hydrantref04_Weight : FnOk Try.prog 26 := FnOk.of (by kernel_rfl)
/-- hydrant/hydrantref04.Weight -/
def f_hydrantref04_Weight : FnI := ⟨16, [.tmp 2],
 (.seq (.reg [⟨some 2, .mov (.c (.int .i64 (0))), none⟩])
 (.seq (.seq (.reg [⟨some 3, .mov (.t 0), none⟩, ⟨some 4, .call 38 [(.t 3)], none⟩, ⟨some 5, .not (.t 4), none⟩, ⟨some 6, .mov (.t 5), none⟩, ⟨some 7, .mov (.t 0), some (6, false)⟩, ⟨some 8, .bins .eql (.t 7) (.c (.string ⟨#[42]⟩)), some (6, false)⟩, ⟨some 9, .pick (.t 6) (.b true) (.t 8), none⟩])
 (.cond (.t 9)
 (.seq (.reg [⟨some 2, .mov (.c (.int .i64 (0))), none⟩])
 .ret)
 .skip))
 (.seq (.seq (.reg [⟨some 10, .mov (.t 0), none⟩, ⟨some 11, .idxs (.t 10) (.c (.int .i64 (0))), none⟩, ⟨some 12, .bini .eql (.t 11) (.c (.int .u8 (42))), none⟩])
 (.cond (.t 12)
 (.seq (.reg [⟨some 13, .mov (.t 0), none⟩, ⟨some 14, .len true (.t 13), none⟩, ⟨some 15, .bini .sub (.t 14) (.c (.int .i64 (2))), none⟩, ⟨some 2, .mov (.t 15), none⟩])
 .ret)
 .skip))
 (.seq (.reg [⟨some 2, .mov (.c (.int .i64 (100))), none⟩])
 .ret))))⟩
theorem t_hydrantref04_Weight : trFn Try.prog 26 [] [] = some f_hydrantref04_Weight := by kernel_rfl

abbrev n_hosts_Better : Nat := 27
theorem k_hosts_Better : FnOk Try.prog 27 := FnOk.of (by kernel_rfl)
/-- hydrant/hosts.Better -/
def f_hosts_Better : FnI := ⟨26, [.tmp 8],
 (.seq (.reg [⟨some 8, .mov (.b false), none⟩])
 (.seq (.seq (.reg [⟨some 11, .mov (.t 0), none⟩, ⟨some 12, .call 25 [(.t 11)], none⟩, ⟨some 13, .mov (.t 2), none⟩, ⟨some 14, .call 25 [(.t 13)], none⟩, ⟨some 9, .mov (.t 12), none⟩, ⟨some 10, .mov (.t 14), none⟩])
 (.seq (.reg [⟨some 15, .mov (.t 9), none⟩, ⟨some 16, .mov (.t 10), none⟩, ⟨some 17, .bini .neq (.t 15) (.t 16), none⟩])
 (.cond (.t 17)
 (.seq (.reg [⟨some 18, .mov (.t 9), none⟩, ⟨some 19, .mov (.t 10), none⟩, ⟨some 20, .bini .gtr (.t 18) (.t 19), none⟩, ⟨some 8, .mov (.t 20), none⟩])
 .ret)
 .skip)))
 (.seq (.reg [⟨some 21, .mov (.t 1), none⟩, ⟨some 22, .len true (.t 21), none⟩, ⟨some 23, .mov (.t 3), none⟩, ⟨some 24, .len true (.t 23), none⟩, ⟨some 25, .bini .gtr (.t 22) (.t 24), none⟩, ⟨some 8, .mov (.t 25), none⟩])
 .ret)))⟩
theorem t_hosts_Better : trFn Try.prog 27 [] [] = some f_hosts_Better := by kernel_rfl

abbrev n_hydrantref04_Better : Nat := 28
theorem k_hydrantref04_Better : FnOk Try.prog 28 := FnOk.of (by kernel_rfl)
/-- hydrant/hydrantref04.Better -/
def f_hydrantref04_Better : FnI := ⟨30, [.tmp 8],
 (.seq (.reg [⟨some 8, .mov (.b false), none⟩])
 (.seq (.reg [⟨some 11, .mov (.t 0), none⟩, ⟨some 12, .call 26 [(.t 11)], none⟩, ⟨some 9, .mov (.t 12), none⟩])
 (.seq (.reg [⟨some 13, .mov (.t 2), none⟩, ⟨some 14, .call 26 [(.t 13)], none⟩, ⟨some 10, .mov (.t 14), none⟩])
 (.seq (.reg [⟨some 15, .mov (.t 9), none⟩, ⟨some 16, .mov (.t 10), none⟩, ⟨some 17, .bini .gtr (.t 15) (.t 16), none⟩, ⟨some 18, .mov (.t 17), none⟩, ⟨some 19, .mov (.t 9), some (18, false)⟩, ⟨some 20, .mov (.t 10), some (18, false)⟩, ⟨some 21, .bini .eql (.t 19) (.t 20), some (18, false)⟩, ⟨some 22, .mov (.t 21), some (18, false)⟩, ⟨some 23, .mov (.t 1), some (22, true)⟩, ⟨some 24, .len true (.t 23), some (22, true)⟩, ⟨some 25, .mov (.t 3), some (22, true)⟩, ⟨some 26, .len true (.t 25), some (22, true)⟩, ⟨some 27, .bini .gtr (.t 24) (.t 26), some (22, true)⟩, ⟨some 28, .pick (.t 22) (.t 27) (.b false), some (18, false)⟩, ⟨some 29, .pick (.t 18) (.b true) (.t 28), none⟩, ⟨some 8, .mov (.t 29), none⟩])
 .ret))))⟩
theorem t_hydrantref04_Better : trFn Try.prog 28 [] [] = some f_hydrantref04_Better := by kernel_rfl

abbrev n_names_Host : Nat := 29
theorem k_names_Host : FnOk Try.prog 29 := FnOk.of (by kernel_rfl)
/-- hydrant/names.Host -/
def f_names_Host : FnI := ⟨13, [.cell 2 1 false],
 (.seq (.reg [⟨some 2, .alloc 4 [(.v (.bool false))], none⟩])
 (.seq (.seq (.reg [⟨some 4, .mov (.t 0), none⟩, ⟨some 5, .len true (.t 4), none⟩, ⟨some 6, .bini .gtr (.t 5) (.c (.int .i64 (32))), none⟩])
 (.cond (.t 6)
 (.seq (.reg [⟨none, .store 1 (.t 2) (.b false), none⟩])
 .ret)
 .skip))
 (.seq (.seq (.reg [⟨some 7, .mov (.t 0), none⟩, ⟨some 8, .call 41 [(.t 7), (.c (.int .u8 (46)))], none⟩])
 (.block 0
 (.rfun (.t 8) [9]
 (.reg [⟨some 3, .mov (.t 9), none⟩])
 (.block 1
 (.seq (.reg [⟨some 10, .mov (.t 3), none⟩, ⟨some 11, .call 42 [(.t 10)], none⟩, ⟨some 12, .not (.t 11), none⟩])
 (.cond (.t 12)
 (.seq (.reg [⟨none, .store 1 (.t 2) (.b false), none⟩])
 .ret)
 .skip))))))
 (.seq (.reg [⟨none, .store 1 (.t 2) (.b true), none⟩])
 .ret))))⟩
theorem t_names_Host : trFn Try.prog 29 [] [] = some f_names_Host := by kernel_rfl

abbrev n_names_Path : Nat := 30
theorem k_names_Path : FnOk Try.prog 30 := FnOk.of (by kernel_rfl)
/-- hydrant/names.Path -/
def f_names_Path : FnI := ⟨21, [.tmp 2],
 (.seq (.reg [⟨some 2, .mov (.b false), none⟩])
 (.seq (.reg [⟨some 3, .mov (.t 0), none⟩, ⟨some 4, .len true (.t 3), none⟩, ⟨some 5, .bini .gtr (.t 4) (.c (.int .i64 (0))), none⟩, ⟨some 6, .mov (.t 5), none⟩, ⟨some 7, .mov (.t 0), some (6, true)⟩, ⟨some 8, .len true (.t 7), some (6, true)⟩, ⟨some 9, .bini .leq (.t 8) (.c (.int .i64 (32))), some (6, true)⟩, ⟨some 10, .pick (.t 6) (.t 9) (.b false), none⟩, ⟨some 11, .mov (.t 10), none⟩, ⟨some 12, .mov (.t 0), some (11, true)⟩, ⟨some 13, .idxs (.t 12) (.c (.int .i64 (0))), some (11, true)⟩, ⟨some 14, .bini .eql (.t 13) (.c (.int .u8 (47))), some (11, true)⟩, ⟨some 15, .pick (.t 11) (.t 14) (.b false), none⟩, ⟨some 16, .mov (.t 15), none⟩, ⟨some 17, .call 43 [], some (16, true)⟩, ⟨some 18, .mov (.t 0), some (16, true)⟩, ⟨some 19, .call 44 [(.t 17), (.t 18), (.c (.int .u8 (47)))], some (16, true)⟩, ⟨some 20, .pick (.t 16) (.t 19) (.b false), none⟩, ⟨some 2, .mov (.t 20), none⟩])
 .ret))⟩
theorem t_names_Path : trFn Try.prog 30 [] [] = some f_names_Path := by kernel_rfl

abbrev n_epoch_all : Nat := 31
theorem k_epoch_all : FnOk Try.prog 31 := FnOk.of (by kernel_rfl)
/-- hydrant/epoch.all -/
def f_epoch_all : FnI := ⟨18, [.tmp 4],
 (.seq (.reg [⟨some 4, .mov (.b false), none⟩])
 (.seq (.seq (.reg [⟨some 7, .mov (.t 1), none⟩, ⟨some 8, .len false (.t 7), none⟩, ⟨some 9, .mov (.c (.int .i64 (0))), none⟩])
 (.block 0
 (.loop [9] [10, 11, 12, 6, 13, 14, 15, 16, 4, 17, 9]
 (.seq (.reg [⟨some 10, .bini .lss (.t 9) (.t 8), none⟩])
 (.seq (.cond (.t 10)
 .skip
 (.exit 0))
 (.seq (.block 1
 (.seq (.reg [⟨some 11, .iadr 1 (.t 7) (.t 9), none⟩, ⟨some 12, .load false 1 (.t 11), none⟩, ⟨some 6, .mov (.t 12), none⟩])
 (.seq (.reg [⟨some 13, .mov (.t 0), none⟩, ⟨some 14, .mov (.t 6), none⟩, ⟨some 15, .callv (.t 13) [(.t 14)], none⟩, ⟨some 16, .not (.t 15), none⟩])
 (.cond (.t 16)
 (.seq (.reg [⟨some 4, .mov (.b false), none⟩])
 .ret)
 .skip))))
 (.reg [⟨some 17, .bini .add (.t 9) (.c (.int .i64 (1))), none⟩, ⟨some 9, .mov (.t 17), none⟩])))))))
 (.seq (.reg [⟨some 4, .mov (.b true), none⟩])
 .ret)))⟩
theorem t_epoch_all : trFn Try.prog 31 [] [[9]] = some f_epoch_all := by kernel_rfl

abbrev n_epoch_Can_1 : Nat := 32
theorem k_epoch_Can_1 : FnOk Try.prog 32 := FnOk.of (by kernel_rfl)
/-- hydrant/epoch.Can$1 -/
def f_epoch_Can_1 : FnI := ⟨16, [.tmp 3],
 (.seq (.reg [⟨some 3, .mov (.b false), none⟩])
 (.seq (.reg [⟨some 4, .mov (.t 0), none⟩, ⟨some 5, .bini .eql (.t 4) (.c (.int .i64 (0))), none⟩, ⟨some 6, .mov (.t 5), none⟩, ⟨some 7, .load false 1 (.t 1), some (6, false)⟩, ⟨some 8, .bini .lss (.t 7) (.c (.int .i64 (9223372036854775807))), some (6, false)⟩, ⟨some 9, .mov (.t 8), some (6, false)⟩, ⟨some 10, .mov (.t 0), some (9, true)⟩, ⟨some 11, .load false 1 (.t 1), some (9, true)⟩, ⟨some 12, .bini .add (.t 11) (.c (.int .i64 (1))), some (9, true)⟩, ⟨some 13, .bini .eql (.t 10) (.t 12), some (9, true)⟩, ⟨some 14, .pick (.t 9) (.t 13) (.b false), some (6, false)⟩, ⟨some 15, .pick (.t 6) (.b true) (.t 14), none⟩, ⟨some 3, .mov (.t 15), none⟩])
 .ret))⟩
theorem t_epoch_Can_1 : trFn Try.prog 32 [] [] = some f_epoch_Can_1 := by kernel_rfl

abbrev n_hydrantref15_top : Nat := 33
theorem k_hydrantref15_top : FnOk Try.prog 33 := FnOk.of (by kernel_rfl)
/-- hydrant/hydrantref15.top -/
def f_hydrantref15_top : FnI := ⟨1, [.tmp 0],
 (.seq (.reg [⟨some 0, .mov (.c (.int .i64 (0))), none⟩])
 (.seq (.reg [⟨some 0, .mov (.c (.int .i64 (9223372036854775807))), none⟩])
 .ret))⟩
theorem t_hydrantref15_top : trFn Try.prog 33 [] [] = some f_hydrantref15_top := by kernel_rfl

abbrev n_epoch_Holds_1 : Nat := 34
theorem k_epoch_Holds_1 : FnOk Try.prog 34 := FnOk.of (by kernel_rfl)
/-- hydrant/epoch.Holds$1 -/
def f_epoch_Holds_1 : FnI := ⟨12, [.tmp 3],
 (.seq (.reg [⟨some 3, .mov (.b false), none⟩])
 (.seq (.reg [⟨some 4, .mov (.t 0), none⟩, ⟨some 5, .bini .lss (.t 4) (.c (.int .i64 (1))), none⟩, ⟨some 6, .mov (.t 5), none⟩, ⟨some 7, .mov (.t 0), some (6, false)⟩, ⟨some 8, .bini .sub (.t 7) (.c (.int .i64 (1))), some (6, false)⟩, ⟨some 9, .load false 1 (.t 1), some (6, false)⟩, ⟨some 10, .bini .gtr (.t 8) (.t 9), some (6, false)⟩, ⟨some 11, .pick (.t 6) (.b true) (.t 10), none⟩, ⟨some 3, .mov (.t 11), none⟩])
 .ret))⟩
theorem t_epoch_Holds_1 : trFn Try.prog 34 [] [] = some f_epoch_Holds_1 := by kernel_rfl

abbrev n_names_Pattern : Nat := 35
theorem k_names_Pattern : FnOk Try.prog 35 := FnOk.of (by kernel_rfl)
/-- hydrant/names.Pattern -/
def f_names_Pattern : FnI := ⟨19, [.tmp 2],
 (.seq (.reg [⟨some 2, .mov (.b false), none⟩])
 (.seq (.seq (.reg [⟨some 6, .mov (.t 0), none⟩, ⟨some 7, .call 36 [(.t 6), (.c (.string ⟨#[42, 46]⟩))], none⟩, ⟨some 5, .mov (.t 7), none⟩, ⟨some 8, .ext 0 (.t 5), none⟩, ⟨some 9, .ext 1 (.t 5), none⟩, ⟨some 3, .mov (.t 8), none⟩, ⟨some 4, .mov (.t 9), none⟩])
 (.seq (.reg [⟨some 10, .mov (.t 4), none⟩])
 (.cond (.t 10)
 (.seq (.reg [⟨some 11, .mov (.t 3), none⟩, ⟨some 12, .call 29 [(.t 11)], none⟩, ⟨some 2, .mov (.t 12), none⟩])
 .ret)
 .skip)))
 (.seq (.reg [⟨some 13, .mov (.t 0), none⟩, ⟨some 14, .bins .eql (.t 13) (.c (.string ⟨#[42]⟩)), none⟩, ⟨some 15, .mov (.t 14), none⟩, ⟨some 16, .mov (.t 0), some (15, false)⟩, ⟨some 17, .call 29 [(.t 16)], some (15, false)⟩, ⟨some 18, .pick (.t 15) (.b true) (.t 17), none⟩, ⟨some 2, .mov (.t 18), none⟩])
 .ret)))⟩
theorem t_names_Pattern : trFn Try.prog 35 [] [] = some f_names_Pattern := by kernel_rfl

abbrev n_strings_CutPrefix : Nat := 36
theorem k_strings_CutPrefix : FnOk Try.prog 36 := FnOk.of (by kernel_rfl)
/-- strings.CutPrefix -/
def f_strings_CutPrefix : FnI := ⟨11, [.tmp 4, .tmp 5],
 (.seq (.reg [⟨some 4, .mov (.c (.string ⟨#[]⟩)), none⟩, ⟨some 5, .mov (.b false), none⟩])
 (.seq (.reg [⟨some 6, .mov (.t 0), none⟩, ⟨some 7, .mov (.t 1), none⟩, ⟨some 8, .call 45 [(.t 6), (.t 7)], none⟩, ⟨some 9, .ext 0 (.t 8), none⟩, ⟨some 10, .ext 1 (.t 8), none⟩, ⟨some 4, .mov (.t 9), none⟩, ⟨some 5, .mov (.t 10), none⟩])
 .ret))⟩
theorem t_strings_CutPrefix : trFn Try.prog 36 [] [] = some f_strings_CutPrefix := by kernel_rfl

abbrev n_strings_HasSuffix : Nat := 37
theorem k_strings_HasSuffix : FnOk Try.prog 37 := FnOk.of (by kernel_rfl)
/-- strings.HasSuffix -/
def f_strings_HasSuffix : FnI := ⟨8, [.tmp 4],
 (.seq (.reg [⟨some 4, .mov (.b false), none⟩])
 (.seq (.reg [⟨some 5, .mov (.t 0), none⟩, ⟨some 6, .mov (.t 1), none⟩, ⟨some 7, .call 46 [(.t 5), (.t 6)], none⟩, ⟨some 4, .mov (.t 7), none⟩])
 .ret))⟩
theorem t_strings_HasSuffix : trFn Try.prog 37 [] [] = some f_strings_HasSuffix := by kernel_rfl

abbrev n_hydrantref03_Pattern : Nat := 38
theorem k_hydrantref03_Pattern : FnOk Try.prog 38 := FnOk.of (by kernel_rfl)
/-- hydrant/hydrantref03.Pattern -/
def f_hydrantref03_Pattern : FnI := ⟨20, [.tmp 2],
 (.seq (.reg [⟨some 2, .mov (.b false), none⟩])
 (.seq (.seq (.reg [⟨some 3, .mov (.t 0), none⟩, ⟨some 4, .len true (.t 3), none⟩, ⟨some 5, .bini .gtr (.t 4) (.c (.int .i64 (2))), none⟩, ⟨some 6, .mov (.t 5), none⟩, ⟨some 7, .mov (.t 0), some (6, true)⟩, ⟨some 8, .slcs (.t 7) none (some (.c (.int .i64 (2)))), some (6, true)⟩, ⟨some 9, .bins .eql (.t 8) (.c (.string ⟨#[42, 46]⟩)), some (6, true)⟩, ⟨some 10, .pick (.t 6) (.t 9) (.b false), none⟩])
 (.cond (.t 10)
 (.seq (.reg [⟨some 11, .mov (.t 0), none⟩, ⟨some 12, .slcs (.t 11) (some (.c (.int .i64 (2)))) none, none⟩, ⟨some 13, .call 39 [(.t 12)], none⟩, ⟨some 2, .mov (.t 13), none⟩])
 .ret)
 .skip))
 (.seq (.reg [⟨some 14, .mov (.t 0), none⟩, ⟨some 15, .bins .eql (.t 14) (.c (.string ⟨#[42]⟩)), none⟩, ⟨some 16, .mov (.t 15), none⟩, ⟨some 17, .mov (.t 0), some (16, false)⟩, ⟨some 18, .call 39 [(.t 17)], some (16, false)⟩, ⟨some 19, .pick (.t 16) (.b true) (.t 18), none⟩, ⟨some 2, .mov (.t 19), none⟩])
 .ret)))⟩
theorem t_hydrantref03_Pattern : trFn Try.prog 38 [] [] = some f_hydrantref03_Pattern := by kernel_rfl

abbrev n_hydrantref03_Host : Nat := 39
theorem k_hydrantref03_Host : FnOk Try.prog 39 := FnOk.of (by kernel_rfl)
/-- hydrant/hydrantref03.Host -/
def f_hydrantref03_Host : FnI := ⟨22, [.tmp 2],
 (.seq (.reg [⟨some 2, .mov (.b false), none⟩])
 (.seq (.reg [⟨some 5, .mov (.t 0), none⟩, ⟨some 6, .call 47 [(.t 5), (.c (.int .u8 (46)))], none⟩, ⟨some 3, .mov (.t 6), none⟩])
 (.seq (.seq (.reg [⟨some 4, .mov (.c (.int .i64 (0))), none⟩])
 (.block 0
 (.loop [4] [7, 8, 9, 10, 13, 14, 15, 16, 17, 18, 2, 11, 12, 4]
 (.seq (.seq (.reg [⟨some 7, .mov (.t 4), none⟩, ⟨some 8, .mov (.t 3), none⟩, ⟨some 9, .len false (.t 8), none⟩, ⟨some 10, .bini .lss (.t 7) (.t 9), none⟩])
 (.cond (.t 10)
 .skip
 (.exit 0)))
 (.seq (.block 1
 (.seq (.reg [⟨some 13, .mov (.t 3), none⟩, ⟨some 14, .mov (.t 4), none⟩, ⟨some 15, .iadr 1 (.t 13) (.t 14), none⟩, ⟨some 16, .load false 1 (.t 15), none⟩, ⟨some 17, .call 48 [(.t 16)], none⟩, ⟨some 18, .not (.t 17), none⟩])
 (.cond (.t 18)
 (.seq (.reg [⟨some 2, .mov (.b false), none⟩])
 .ret)
 .skip)))
 (.reg [⟨some 11, .mov (.t 4), none⟩, ⟨some 12, .bini .add (.t 11) (.c (.int .i64 (1))), none⟩, ⟨some 4, .mov (.t 12), none⟩]))))))
 (.seq (.reg [⟨some 19, .mov (.t 0), none⟩, ⟨some 20, .len true (.t 19), none⟩, ⟨some 21, .bini .leq (.t 20) (.c (.int .i64 (32))), none⟩, ⟨some 2, .mov (.t 21), none⟩])
 .ret))))⟩
theorem t_hydrantref03_Host : trFn Try.prog 39 [] [[4]] = some f_hydrantref03_Host := by kernel_rfl

abbrev n_hydrantref03_Path : Nat := 40
theorem k_hydrantref03_Path : FnOk Try.prog 40 := FnOk.of (by kernel_rfl)
/-- hydrant/hydrantref03.Path -/
def f_hydrantref03_Path : FnI := ⟨34, [.tmp 2],
 (.seq (.reg [⟨some 2, .mov (.b false), none⟩])
 (.seq (.seq (.reg [⟨some 4, .mov (.t 0), none⟩, ⟨some 5, .len true (.t 4), none⟩, ⟨some 6, .bini .lss (.t 5) (.c (.int .i64 (1))), none⟩, ⟨some 7, .mov (.t 6), none⟩, ⟨some 8, .mov (.t 0), some (7, false)⟩, ⟨some 9, .len true (.t 8), some (7, false)⟩, ⟨some 10, .bini .gtr (.t 9) (.c (.int .i64 (32))), some (7, false)⟩, ⟨some 11, .pick (.t 7) (.b true) (.t 10), none⟩, ⟨some 12, .mov (.t 11), none⟩, ⟨some 13, .mov (.t 0), some (12, false)⟩, ⟨some 14, .idxs (.t 13) (.c (.int .i64 (0))), some (12, false)⟩, ⟨some 15, .bini .neq (.t 14) (.c (.int .u8 (47))), some (12, false)⟩, ⟨some 16, .pick (.t 12) (.b true) (.t 15), none⟩])
 (.cond (.t 16)
 (.seq (.reg [⟨some 2, .mov (.b false), none⟩])
 .ret)
 .skip))
 (.seq (.seq (.reg [⟨some 3, .mov (.c (.int .i64 (0))), none⟩])
 (.block 0
 (.loop [3] [17, 18, 19, 20, 23, 24, 25, 26, 27, 28, 29, 30, 31, 32, 33, 2, 21, 22, 3]
 (.seq (.seq (.reg [⟨some 17, .mov (.t 3), none⟩, ⟨some 18, .mov (.t 0), none⟩, ⟨some 19, .len true (.t 18), none⟩, ⟨some 20, .bini .lss (.t 17) (.t 19), none⟩])
 (.cond (.t 20)
 .skip
 (.exit 0)))
 (.seq (.block 1
 (.seq (.reg [⟨some 23, .mov (.t 0), none⟩, ⟨some 24, .mov (.t 3), none⟩, ⟨some 25, .idxs (.t 23) (.t 24), none⟩, ⟨some 26, .call 49 [(.t 25)], none⟩, ⟨some 27, .not (.t 26), none⟩, ⟨some 28, .mov (.t 27), none⟩, ⟨some 29, .mov (.t 0), some (28, true)⟩, ⟨some 30, .mov (.t 3), some (28, true)⟩, ⟨some 31, .idxs (.t 29) (.t 30), some (28, true)⟩, ⟨some 32, .bini .neq (.t 31) (.c (.int .u8 (47))), some (28, true)⟩, ⟨some 33, .pick (.t 28) (.t 32) (.b false), none⟩])
 (.cond (.t 33)
 (.seq (.reg [⟨some 2, .mov (.b false), none⟩])
 .ret)
 .skip)))
 (.reg [⟨some 21, .mov (.t 3), none⟩, ⟨some 22, .bini .add (.t 21) (.c (.int .i64 (1))), none⟩, ⟨some 3, .mov (.t 22), none⟩]))))))
 (.seq (.reg [⟨some 2, .mov (.b true), none⟩])
 .ret))))⟩
theorem t_hydrantref03_Path : trFn Try.prog 40 [] [[3]] = some f_hydrantref03_Path := by kernel_rfl

abbrev n_names_parts : Nat := 41
theorem k_names_parts : FnOk Try.prog 41 := FnOk.of (by kernel_rfl)
/-- hydrant/names.parts -/
def f_names_parts : FnI := ⟨6, [.tmp 4],
 (.seq (.reg [⟨some 2, .box 9 (.t 0), none⟩, ⟨some 3, .box 5 (.t 1), none⟩, ⟨some 4, .mov (.c .nilFunc), none⟩])
 (.seq (.reg [⟨some 5, .mkf (.func 50) [] [(.t 2), (.t 3)], none⟩, ⟨some 4, .mov (.t 5), none⟩])
 .ret))⟩
theorem t_names_parts : trFn Try.prog 41 [] [] = some f_names_parts := by kernel_rfl

abbrev n_names_Name : Nat := 42
theorem k_names_Name : FnOk Try.prog 42 := FnOk.of (by kernel_rfl)
/-- hydrant/names.Name -/
def f_names_Name : FnI := ⟨21, [.tmp 2],
 (.seq (.reg [⟨some 2, .mov (.b false), none⟩])
 (.seq (.reg [⟨some 3, .mov (.t 0), none⟩, ⟨some 4, .len true (.t 3), none⟩, ⟨some 5, .bini .gtr (.t 4) (.c (.int .i64 (0))), none⟩, ⟨some 6, .mov (.t 5), none⟩, ⟨some 7, .mov (.t 0), some (6, true)⟩, ⟨some 8, .len true (.t 7), some (6, true)⟩, ⟨some 9, .bini .leq (.t 8) (.c (.int .i64 (16))), some (6, true)⟩, ⟨some 10, .pick (.t 6) (.t 9) (.b false), none⟩, ⟨some 11, .mov (.t 10), none⟩, ⟨some 12, .mov (.t 0), some (11, true)⟩, ⟨some 13, .idxs (.t 12) (.c (.int .i64 (0))), some (11, true)⟩, ⟨some 14, .call 52 [(.t 13)], some (11, true)⟩, ⟨some 15, .pick (.t 11) (.t 14) (.b false), none⟩, ⟨some 16, .mov (.t 15), none⟩, ⟨some 17, .call 43 [], some (16, true)⟩, ⟨some 18, .mov (.t 0), some (16, true)⟩, ⟨some 19, .call 44 [(.t 17), (.t 18), (.c (.int .u8 (45)))], some (16, true)⟩, ⟨some 20, .pick (.t 16) (.t 19) (.b false), none⟩, ⟨some 2, .mov (.t 20), none⟩])
 .ret))⟩
theorem t_names_Name : trFn Try.prog 42 [] [] = some f_names_Name := by kernel_rfl

abbrev n_names_word : Nat := 43
theorem k_names_word : FnOk Try.prog 43 := FnOk.of (by kernel_rfl)
/-- hydrant/names.word -/
def f_names_word : FnI := ⟨2, [.cell 0 1 true],
 (.seq (.reg [⟨some 0, .alloc 44 [(.v .nilFunc)], none⟩])
 (.seq (.reg [⟨some 1, .build [(.v .nilFunc)] [(0, 1, (.c (.func (.func 53) #[] #[])))], none⟩, ⟨none, .store 1 (.t 0) (.t 1), none⟩])
 .ret))⟩
theorem t_names_word : trFn Try.prog 43 [] [] = some f_names_word := by kernel_rfl

abbrev n_names_alphabet__all : Nat := 44
theorem k_names_alphabet__all : FnOk Try.prog 44 := FnOk.of (by kernel_rfl)
/-- (hydrant/names.alphabet).all -/
def f_names_alphabet__all : FnI := ⟨28, [.tmp 6],
 (.seq (.reg [⟨some 3, .box 44 (.t 0), none⟩, ⟨some 6, .mov (.b false), none⟩])
 (.seq (.seq (.reg [⟨some 8, .mov (.t 1), none⟩, ⟨some 9, .len true (.t 8), none⟩, ⟨some 10, .mov (.c (.int .i64 (0))), none⟩])
 (.block 0
 (.loop [10] [11, 12, 7, 13, 14, 15, 16, 17, 18, 19, 20, 21, 22, 23, 24, 25, 26, 6, 27, 10]
 (.seq (.reg [⟨some 11, .bini .lss (.t 10) (.t 9), none⟩])
 (.seq (.cond (.t 11)
 .skip
 (.exit 0))
 (.seq (.block 1
 (.seq (.reg [⟨some 12, .mov (.t 10), none⟩, ⟨some 7, .mov (.t 12), none⟩])
 (.seq (.regD [⟨some 13, .mov (.t 1), none⟩, ⟨some 14, .mov (.t 7), none⟩, ⟨some 15, .idxs (.t 13) (.t 14), none⟩, ⟨some 16, .mov (.t 2), none⟩, ⟨some 17, .bini .neq (.t 15) (.t 16), none⟩, ⟨some 18, .mov (.t 17), none⟩, ⟨some 19, .fadr 0 (.t 3), some (18, true)⟩, ⟨some 20, .load false 1 (.t 19), some (18, true)⟩, ⟨some 21, .mov (.t 1), some (18, true)⟩, ⟨some 22, .mov (.t 7), some (18, true)⟩, ⟨some 23, .idxs (.t 21) (.t 22), some (18, true)⟩, ⟨some 24, .callv (.t 20) [(.t 23)], some (18, true)⟩, ⟨some 25, .not (.t 24), some (18, true)⟩, ⟨some 26, .pick (.t 18) (.t 25) (.b false), none⟩])
 (.cond (.t 26)
 (.seq (.reg [⟨some 6, .mov (.b false), none⟩])
 .ret)
 .skip))))
 (.reg [⟨some 27, .bini .add (.t 10) (.c (.int .i64 (1))), none⟩, ⟨some 10, .mov (.t 27), none⟩])))))))
 (.seq (.reg [⟨some 6, .mov (.b true), none⟩])
 .ret)))⟩
theorem t_names_alphabet__all : trFn Try.prog 44 [[0, 1, 2, 3, 4, 5, 6, 7, 8, 9, 10, 11, 12, 13]] [[10]] = some f_names_alphabet__all := by kernel_rfl

abbrev n_stringslite_CutPrefix : Nat := 45
theorem k_stringslite_CutPrefix : FnOk Try.prog 45 := FnOk.of (by kernel_rfl)
/-- internal/stringslite.CutPrefix -/
def f_stringslite_CutPrefix : FnI := ⟨15, [.tmp 4, .tmp 5],
 (.seq (.reg [⟨some 4, .mov (.c (.string ⟨#[]⟩)), none⟩, ⟨some 5, .mov (.b false), none⟩])
 (.seq (.seq (.reg [⟨some 6, .mov (.t 0), none⟩, ⟨some 7, .mov (.t 1), none⟩, ⟨some 8, .call 54 [(.t 6), (.t 7)], none⟩, ⟨some 9, .not (.t 8), none⟩])
 (.cond (.t 9)
 (.seq (.reg [⟨some 10, .mov (.t 0), none⟩, ⟨some 4, .mov (.t 10), none⟩, ⟨some 5, .mov (.b false), none⟩])
 .ret)
 .skip))
 (.seq (.reg [⟨some 11, .mov (.t 0), none⟩, ⟨some 12, .mov (.t 1), none⟩, ⟨some 13, .len true (.t 12), none⟩, ⟨some 14, .slcs (.t 11) (some (.t 13)) none, none⟩, ⟨some 4, .mov (.t 14), none⟩, ⟨some 5, .mov (.b true), none⟩])
 .ret)))⟩
theorem t_stringslite_CutPrefix : trFn Try.prog 45 [] [] = some f_stringslite_CutPrefix := by kernel_rfl

abbrev n_stringslite_HasSuffix : Nat := 46
theorem k_stringslite_HasSuffix : FnOk Try.prog 46 := FnOk.of (by kernel_rfl)
/-- internal/stringslite.HasSuffix -/
def f_stringslite_HasSuffix : FnI := ⟨21, [.tmp 4],
 (.seq (.reg [⟨some 4, .mov (.b false), none⟩])
 (.seq (.reg [⟨some 5, .mov (.t 0), none⟩, ⟨some 6, .len true (.t 5), none⟩, ⟨some 7, .mov (.t 1), none⟩, ⟨some 8, .len true (.t 7), none⟩, ⟨some 9, .bini .geq (.t 6) (.t 8), none⟩, ⟨some 10, .mov (.t 9), none⟩, ⟨some 11, .mov (.t 0), some (10, true)⟩, ⟨some 12, .mov (.t 0), some (10, true)⟩, ⟨some 13, .len true (.t 12), some (10, true)⟩, ⟨some 14, .mov (.t 1), some (10, true)⟩, ⟨some 15, .len true (.t 14), some (10, true)⟩, ⟨some 16, .bini .sub (.t 13) (.t 15), some (10, true)⟩, ⟨some 17, .slcs (.t 11) (some (.t 16)) none, some (10, true)⟩, ⟨some 18, .mov (.t 1), some (10, true)⟩, ⟨some 19, .bins .eql (.t 17) (.t 18), some (10, true)⟩, ⟨some 20, .pick (.t 10) (.t 19) (.b false), none⟩, ⟨some 4, .mov (.t 20), none⟩])
 .ret))⟩
theorem t_stringslite_HasSuffix : trFn Try.prog 46 [] [] = some f_stringslite_HasSuffix := by kernel_rfl

abbrev n_hydrantref03_Parts : Nat := 47
theorem k_hydrantref03_Parts : FnOk Try.prog 47 := FnOk.of (by kernel_rfl)
/-- hydrant/hydrantref03.Parts -/
def f_hydrantref03_Parts : FnI := ⟨35, [.tmp 4],
 (.seq (.reg [⟨some 4, .mov (.c (.slice none 0 0)), none⟩])
 (.seq (.reg [⟨some 8, .bsl 9 1 0 [] [], none⟩, ⟨some 5, .mov (.t 8), none⟩])
 (.seq (.reg [⟨some 6, .mov (.c (.int .i64 (0))), none⟩])
 (.seq (.seq (.reg [⟨some 7, .mov (.c (.int .i64 (0))), none⟩])
 (.block 0
 (.loop [5, 6, 7] [9, 10, 11, 12, 15, 16, 17, 18, 19, 20, 21, 22, 23, 24, 25, 26, 5, 27, 28, 6, 13, 14, 7]
 (.seq (.seq (.reg [⟨some 9, .mov (.t 7), none⟩, ⟨some 10, .mov (.t 0), none⟩, ⟨some 11, .len true (.t 10), none⟩, ⟨some 12, .bini .lss (.t 9) (.t 11), none⟩])
 (.cond (.t 12)
 .skip
 (.exit 0)))
 (.seq (.block 1
 (.seq (.reg [⟨some 15, .mov (.t 0), none⟩, ⟨some 16, .mov (.t 7), none⟩, ⟨some 17, .idxs (.t 15) (.t 16), none⟩, ⟨some 18, .mov (.t 1), none⟩, ⟨some 19, .bini .eql (.t 17) (.t 18), none⟩])
 (.cond (.t 19)
 (.seq (.reg [⟨some 20, .mov (.t 5), none⟩, ⟨some 21, .mov (.t 0), none⟩, ⟨some 22, .mov (.t 6), none⟩, ⟨some 23, .mov (.t 7), none⟩, ⟨some 24, .slcs (.t 21) (some (.t 22)) (some (.t 23)), none⟩, ⟨some 25, .bsl 9 1 1 [(.v (.string ⟨#[]⟩))] [(0, 1, (.t 24))], none⟩, ⟨some 26, .app 9 1 16 (.t 20) (.t 25), none⟩, ⟨some 5, .mov (.t 26), none⟩])
 (.reg [⟨some 27, .mov (.t 7), none⟩, ⟨some 28, .bini .add (.t 27) (.c (.int .i64 (1))), none⟩, ⟨some 6, .mov (.t 28), none⟩]))
 .skip)))
 (.reg [⟨some 13, .mov (.t 7), none⟩, ⟨some 14, .bini .add (.t 13) (.c (.int .i64 (1))), none⟩, ⟨some 7, .mov (.t 14), none⟩]))))))
 (.seq (.reg [⟨some 29, .mov (.t 5), none⟩, ⟨some 30, .mov (.t 0), none⟩, ⟨some 31, .mov (.t 6), none⟩, ⟨some 32, .slcs (.t 30) (some (.t 31)) none, none⟩, ⟨some 33, .bsl 9 1 1 [(.v (.string ⟨#[]⟩))] [(0, 1, (.t 32))], none⟩, ⟨some 34, .app 9 1 16 (.t 29) (.t 33), none⟩, ⟨some 4, .mov (.t 34), none⟩])
 .ret)))))⟩
theorem t_hydrantref03_Parts : trFn Try.prog 47 [] [[5, 6, 7]] = some f_hydrantref03_Parts := by kernel_rfl

abbrev n_hydrantref03_Name : Nat := 48
theorem k_hydrantref03_Name : FnOk Try.prog 48 := FnOk.of (by kernel_rfl)
/-- hydrant/hydrantref03.Name -/
def f_hydrantref03_Name : FnI := ⟨29, [.tmp 2],
 (.seq (.reg [⟨some 2, .mov (.b false), none⟩])
 (.seq (.seq (.reg [⟨some 4, .mov (.t 0), none⟩, ⟨some 5, .len true (.t 4), none⟩, ⟨some 6, .bini .lss (.t 5) (.c (.int .i64 (1))), none⟩, ⟨some 7, .mov (.t 6), none⟩, ⟨some 8, .mov (.t 0), some (7, false)⟩, ⟨some 9, .len true (.t 8), some (7, false)⟩, ⟨some 10, .bini .gtr (.t 9) (.c (.int .i64 (16))), some (7, false)⟩, ⟨some 11, .pick (.t 7) (.b true) (.t 10), none⟩, ⟨some 12, .mov (.t 11), none⟩, ⟨some 13, .mov (.t 0), some (12, false)⟩, ⟨some 14, .idxs (.t 13) (.c (.int .i64 (0))), some (12, false)⟩, ⟨some 15, .call 55 [(.t 14)], some (12, false)⟩, ⟨some 16, .not (.t 15), some (12, false)⟩, ⟨some 17, .pick (.t 12) (.b true) (.t 16), none⟩])
 (.cond (.t 17)
 (.seq (.reg [⟨some 2, .mov (.b false), none⟩])
 .ret)
 .skip))
 (.seq (.seq (.reg [⟨some 3, .mov (.c (.int .i64 (0))), none⟩])
 (.block 0
 (.loop [3] [18, 19, 20, 21, 24, 25, 26, 27, 28, 2, 22, 23, 3]
 (.seq (.seq (.reg [⟨some 18, .mov (.t 3), none⟩, ⟨some 19, .mov (.t 0), none⟩, ⟨some 20, .len true (.t 19), none⟩, ⟨some 21, .bini .lss (.t 18) (.t 20), none⟩])
 (.cond (.t 21)
 .skip
 (.exit 0)))
 (.seq (.block 1
 (.seq (.reg [⟨some 24, .mov (.t 0), none⟩, ⟨some 25, .mov (.t 3), none⟩, ⟨some 26, .idxs (.t 24) (.t 25), none⟩, ⟨some 27, .call 49 [(.t 26)], none⟩, ⟨some 28, .not (.t 27), none⟩])
 (.cond (.t 28)
 (.seq (.reg [⟨some 2, .mov (.b false), none⟩])
 .ret)
 .skip)))
 (.reg [⟨some 22, .mov (.t 3), none⟩, ⟨some 23, .bini .add (.t 22) (.c (.int .i64 (1))), none⟩, ⟨some 3, .mov (.t 23), none⟩]))))))
 (.seq (.reg [⟨some 2, .mov (.b true), none⟩])
 .ret))))⟩
theorem t_hydrantref03_Name : trFn Try.prog 48 [] [[3]] = some f_hydrantref03_Name := by kernel_rfl

abbrev n_hydrantref03_word : Nat := 49
theorem k_hydrantref03_word : FnOk Try.prog 49 := FnOk.of (by kernel_rfl)
/-- hydrant/hydrantref03.word -/
def f_hydrantref03_word : FnI := ⟨17, [.tmp 2],
 (.seq (.reg [⟨some 2, .mov (.b false), none⟩])
 (.seq (.reg [⟨some 3, .mov (.t 0), none⟩, ⟨some 4, .call 55 [(.t 3)], none⟩, ⟨some 5, .mov (.t 4), none⟩, ⟨some 6, .mov (.t 0), some (5, false)⟩, ⟨some 7, .bini .geq (.t 6) (.c (.int .u8 (48))), some (5, false)⟩, ⟨some 8, .mov (.t 7), some (5, false)⟩, ⟨some 9, .mov (.t 0), some (8, true)⟩, ⟨some 10, .bini .leq (.t 9) (.c (.int .u8 (57))), some (8, true)⟩, ⟨some 11, .pick (.t 8) (.t 10) (.b false), some (5, false)⟩, ⟨some 12, .pick (.t 5) (.b true) (.t 11), none⟩, ⟨some 13, .mov (.t 12), none⟩, ⟨some 14, .mov (.t 0), some (13, false)⟩, ⟨some 15, .bini .eql (.t 14) (.c (.int .u8 (45))), some (13, false)⟩, ⟨some 16, .pick (.t 13) (.b true) (.t 15), none⟩, ⟨some 2, .mov (.t 16), none⟩])
 .ret))⟩
theorem t_hydrantref03_word : trFn Try.prog 49 [] [] = some f_hydrantref03_word := by kernel_rfl

abbrev n_names_parts_1 : Nat := 50
theorem k_names_parts_1 : FnOk Try.prog 50 := FnOk.of (by kernel_rfl)
/-- hydrant/names.parts$1 -/
def f_names_parts_1 : FnI := ⟨23, [],
 (.block 0
 (.loop [] [5, 6, 7, 4, 8, 9, 10, 11, 12, 13, 14, 15, 16, 17, 18, 19, 20, 21, 22]
 (.block 1
 (.seq (.reg [⟨some 5, .load false 1 (.t 1), none⟩, ⟨some 6, .load false 1 (.t 2), none⟩, ⟨some 7, .call 51 [(.t 5), (.t 6)], none⟩, ⟨some 4, .mov (.t 7), none⟩])
 (.seq (.seq (.reg [⟨some 8, .mov (.t 4), none⟩, ⟨some 9, .bini .lss (.t 8) (.c (.int .i64 (0))), none⟩])
 (.cond (.t 9)
 (.seq (.reg [⟨some 10, .mov (.t 0), none⟩, ⟨some 11, .load false 1 (.t 1), none⟩, ⟨some 12, .callv (.t 10) [(.t 11)], none⟩])
 .ret)
 .skip))
 (.seq (.seq (.reg [⟨some 13, .mov (.t 0), none⟩, ⟨some 14, .load false 1 (.t 1), none⟩, ⟨some 15, .mov (.t 4), none⟩, ⟨some 16, .slcs (.t 14) none (some (.t 15)), none⟩, ⟨some 17, .callv (.t 13) [(.t 16)], none⟩, ⟨some 18, .not (.t 17), none⟩])
 (.cond (.t 18)
 .ret
 .skip))
 (.reg [⟨some 19, .load false 1 (.t 1), none⟩, ⟨some 20, .mov (.t 4), none⟩, ⟨some 21, .bini .add (.t 20) (.c (.int .i64 (1))), none⟩, ⟨some 22, .slcs (.t 19) (some (.t 21)) none, none⟩, ⟨none, .store 1 (.t 1) (.t 22), none⟩])))))))⟩
theorem t_names_parts_1 : trFn Try.prog 50 [] [[]] = some f_names_parts_1 := by kernel_rfl

abbrev n_strings_IndexByte : Nat := 51
theorem k_strings_IndexByte : FnOk Try.prog 51 := FnOk.of (by kernel_rfl)
/-- strings.IndexByte -/
def f_strings_IndexByte : FnI := ⟨8, [.tmp 4],
 (.seq (.reg [⟨some 4, .mov (.c (.int .i64 (0))), none⟩])
 (.seq (.reg [⟨some 5, .mov (.t 0), none⟩, ⟨some 6, .mov (.t 1), none⟩, ⟨some 7, .call 56 [(.t 5), (.t 6)], none⟩, ⟨some 4, .mov (.t 7), none⟩])
 .ret))⟩
theorem t_strings_IndexByte : trFn Try.prog 51 [] [] = some f_strings_IndexByte := by kernel_rfl

abbrev n_names_low : Nat := 52
theorem k_names_low : FnOk Try.prog 52 := FnOk.of (by kernel_rfl)
/-- hydrant/names.low -/
def f_names_low : FnI := ⟨9, [.tmp 2],
 (.seq (.reg [⟨some 2, .mov (.b false), none⟩])
 (.seq (.reg [⟨some 3, .mov (.t 0), none⟩, ⟨some 4, .bini .geq (.t 3) (.c (.int .u8 (97))), none⟩, ⟨some 5, .mov (.t 4), none⟩, ⟨some 6, .mov (.t 0), some (5, true)⟩, ⟨some 7, .bini .leq (.t 6) (.c (.int .u8 (122))), some (5, true)⟩, ⟨some 8, .pick (.t 5) (.t 7) (.b false), none⟩, ⟨some 2, .mov (.t 8), none⟩])
 .ret))⟩
theorem t_names_low : trFn Try.prog 52 [] [] = some f_names_low := by kernel_rfl

abbrev n_names_word_1 : Nat := 53
theorem k_names_word_1 : FnOk Try.prog 53 := FnOk.of (by kernel_rfl)
/-- hydrant/names.word$1 -/
def f_names_word_1 : FnI := ⟨17, [.tmp 2],
 (.seq (.reg [⟨some 2, .mov (.b false), none⟩])
 (.seq (.reg [⟨some 3, .mov (.t 0), none⟩, ⟨some 4, .call 52 [(.t 3)], none⟩, ⟨some 5, .mov (.t 4), none⟩, ⟨some 6, .mov (.t 0), some (5, false)⟩, ⟨some 7, .bini .geq (.t 6) (.c (.int .u8 (48))), some (5, false)⟩, ⟨some 8, .mov (.t 7), some (5, false)⟩, ⟨some 9, .mov (.t 0), some (8, true)⟩, ⟨some 10, .bini .leq (.t 9) (.c (.int .u8 (57))), some (8, true)⟩, ⟨some 11, .pick (.t 8) (.t 10) (.b false), some (5, false)⟩, ⟨some 12, .pick (.t 5) (.b true) (.t 11), none⟩, ⟨some 13, .mov (.t 12), none⟩, ⟨some 14, .mov (.t 0), some (13, false)⟩, ⟨some 15, .bini .eql (.t 14) (.c (.int .u8 (45))), some (13, false)⟩, ⟨some 16, .pick (.t 13) (.b true) (.t 15), none⟩, ⟨some 2, .mov (.t 16), none⟩])
 .ret))⟩
theorem t_names_word_1 : trFn Try.prog 53 [] [] = some f_names_word_1 := by kernel_rfl

abbrev n_stringslite_HasPrefix : Nat := 54
theorem k_stringslite_HasPrefix : FnOk Try.prog 54 := FnOk.of (by kernel_rfl)
/-- internal/stringslite.HasPrefix -/
def f_stringslite_HasPrefix : FnI := ⟨18, [.tmp 4],
 (.seq (.reg [⟨some 4, .mov (.b false), none⟩])
 (.seq (.reg [⟨some 5, .mov (.t 0), none⟩, ⟨some 6, .len true (.t 5), none⟩, ⟨some 7, .mov (.t 1), none⟩, ⟨some 8, .len true (.t 7), none⟩, ⟨some 9, .bini .geq (.t 6) (.t 8), none⟩, ⟨some 10, .mov (.t 9), none⟩, ⟨some 11, .mov (.t 0), some (10, true)⟩, ⟨some 12, .mov (.t 1), some (10, true)⟩, ⟨some 13, .len true (.t 12), some (10, true)⟩, ⟨some 14, .slcs (.t 11) none (some (.t 13)), some (10, true)⟩, ⟨some 15, .mov (.t 1), some (10, true)⟩, ⟨some 16, .bins .eql (.t 14) (.t 15), some (10, true)⟩, ⟨some 17, .pick (.t 10) (.t 16) (.b false), none⟩, ⟨some 4, .mov (.t 17), none⟩])
 .ret))⟩
theorem t_stringslite_HasPrefix : trFn Try.prog 54 [] [] = some f_stringslite_HasPrefix := by kernel_rfl

abbrev n_hydrantref03_low : Nat := 55
theorem k_hydrantref03_low : FnOk Try.prog 55 := FnOk.of (by kernel_rfl)
/-- hydrant/hydrantref03.low -/
def f_hydrantref03_low : FnI := ⟨9, [.tmp 2],
 (.seq (.reg [⟨some 2, .mov (.b false), none⟩])
 (.seq (.reg [⟨some 3, .mov (.t 0), none⟩, ⟨some 4, .bini .geq (.t 3) (.c (.int .u8 (97))), none⟩, ⟨some 5, .mov (.t 4), none⟩, ⟨some 6, .mov (.t 0), some (5, true)⟩, ⟨some 7, .bini .leq (.t 6) (.c (.int .u8 (122))), some (5, true)⟩, ⟨some 8, .pick (.t 5) (.t 7) (.b false), none⟩, ⟨some 2, .mov (.t 8), none⟩])
 .ret))⟩
theorem t_hydrantref03_low : trFn Try.prog 55 [] [] = some f_hydrantref03_low := by kernel_rfl

abbrev n_stringslite_IndexByte : Nat := 56
theorem k_stringslite_IndexByte : FnOk Try.prog 56 := FnOk.of (by kernel_rfl)
abbrev n_bytealg_IndexByteString : Nat := 57
end Go.Proofs.Ytddndeflnfogoaa
