/- The functions, as the evaluator reads them: each is what the given program's code says (checked by the kernel). -/
import Derived.Test.YtedjbhpocedagaaSxB
import Derived.Test.YtedjbhpocedagaaRows
namespace Go.Proofs.Ytedjbhpocedagaa
open Go.Proofs.Ytedjbhpocedagaa.Sx
abbrev ty_int64 : Nat := 2
abbrev ty_int : Nat := 3
abbrev ty_bool : Nat := 4
abbrev ty_uint8 : Nat := 5
abbrev ty_abi_BoundsErrorCode : Nat := 6
abbrev ty_runtime_boundsError : Nat := 8
abbrev ty_string : Nat := 9
abbrev ty_runtime_errorString : Nat := 10
abbrev ty_runtime_plainError : Nat := 11
abbrev ty_uintptr : Nat := 12
abbrev ty_runtime_errorAddressString : Nat := 14
abbrev ty_ptr_runtime_TypeAssertionError : Nat := 15
abbrev ty_ptr_runtime_PanicNilError : Nat := 16
abbrev ty_ptr_abi_Type : Nat := 17
abbrev ty_maps_unhashableTypeError : Nat := 19
abbrev ty_int32 : Nat := 21
abbrev ty_sl_string : Nat := 22
abbrev ty_sl_api_Route : Nat := 23
abbrev ty_sl_api_Cluster : Nat := 24
abbrev ty_api_Config : Nat := 26
abbrev ty_slsl_api_Op : Nat := 27
abbrev ty_sl_int : Nat := 28
abbrev ty_api_Script : Nat := 30
abbrev ty_sl_uint8 : Nat := 35
abbrev ty_api_Errno : Nat := 36
abbrev ty_sl_api_Op : Nat := 46
abbrev ty_sl_api_Rule : Nat := 48
abbrev ty_api_Snap : Nat := 50
abbrev ty_api_Op : Nat := 61
abbrev ty_uint : Nat := 72
abbrev ty_config_checker : Nat := 74
abbrev ty_sl_bool : Nat := 77
abbrev ty_api_Cluster : Nat := 79
abbrev ty_api_Route : Nat := 81
abbrev ty_api_Rule : Nat := 85
abbrev ty_names_alphabet : Nat := 104
abbrev ty_runtime_TypeAssertionError : Nat := 121
abbrev ty_runtime_PanicNilError : Nat := 124
abbrev ty_uint32 : Nat := 126
abbrev ty_abi_TFlag : Nat := 127
abbrev ty_abi_Kind : Nat := 128
abbrev ty_ptr_uint8 : Nat := 130
abbrev ty_abi_NameOff : Nat := 131
abbrev ty_abi_TypeOff : Nat := 132
abbrev ty_abi_Type : Nat := 134
abbrev ty_unsafe_Pointer : Nat := 135
abbrev n_gosem_cut_init : Nat := 2
theorem k_gosem_cut_init : FnOk Try.prog 2 := FnOk.of (by kernel_rfl)
abbrev n_hydrantlaw08_ScriptIs : Nat := 3
theorem k_hydrantlaw08_ScriptIs : FnOk Try.prog 3 := FnOk.of (by kernel_rfl)
/-- hydrant/hydrantlaw08.ScriptIs -/
def f_hydrantlaw08_ScriptIs : FnI := ⟨20, [.tmp 2],
 (.seq (.reg [⟨some 1, .box 30 (.t 0), none⟩, ⟨some 2, .mov (.b false), none⟩])
 (.seq (.seq (.reg [⟨some 3, .load true 5 (.t 1), none⟩, ⟨some 4, .call 12 [(.t 3)], none⟩])
 (.cond (.t 4)
 (.seq (.reg [⟨some 2, .mov (.b true), none⟩])
 .ret)
 .skip))
 (.seq (.regD [] (.op ⟨0, false, [], ⟨some 5, .call 13 [], none⟩⟩
 (.op ⟨1, false, [], ⟨some 6, .mov (.t 5), none⟩⟩
 (.op ⟨2, true, [], ⟨some 7, .load true 5 (.t 1), some (6, true)⟩⟩
 (.op ⟨4, true, [], ⟨some 9, .load true 5 (.t 1), some (6, true)⟩⟩
 (.op ⟨3, false, [], ⟨some 8, .call 14 [(.t 7)], some (6, true)⟩⟩
 (.op ⟨5, false, [], ⟨some 10, .call 15 [(.t 9)], some (6, true)⟩⟩
 (.op ⟨6, false, [], ⟨some 11, .binb false (.t 8) (.t 10), some (6, true)⟩⟩
 (.op ⟨7, false, [], ⟨some 12, .pick (.t 6) (.t 11) (.b false), none⟩⟩
 (.op ⟨8, false, [], ⟨some 13, .mov (.t 12), none⟩⟩
 (.op ⟨9, true, [], ⟨some 14, .load true 5 (.t 1), some (13, true)⟩⟩
 (.op ⟨11, true, [], ⟨some 16, .load true 5 (.t 1), some (13, true)⟩⟩
 (.op ⟨10, false, [], ⟨some 15, .call 17 [(.t 14)], some (13, true)⟩⟩
 (.op ⟨12, false, [], ⟨some 17, .call 18 [(.t 16)], some (13, true)⟩⟩
 (.op ⟨13, false, [], ⟨some 18, .call 16 [(.t 15), (.t 17)], some (13, true)⟩⟩
 (.op ⟨14, false, [], ⟨some 19, .pick (.t 13) (.t 18) (.b false), none⟩⟩
 (.op ⟨15, false, [], ⟨some 2, .mov (.t 19), none⟩⟩
 .nil)))))))))))))))))
 .ret)))⟩
theorem t_hydrantlaw08_ScriptIs : trFn Try.prog 3 [([], (.exec 0 (.first 1 (.first 2 (.first 4 (.exec 3 (.exec 5 (.first 6 (.first 7 (.first 8 (.first 9 (.first 11 (.exec 10 (.exec 12 (.exec 13 (.first 14 (.first 15 .nil)))))))))))))))))] [] = some f_hydrantlaw08_ScriptIs := by kernel_rfl

abbrev n_hydrantlaw08_ScriptBytes : Nat := 4
theorem k_hydrantlaw08_ScriptBytes : FnOk Try.prog 4 := FnOk.of (by kernel_rfl)
/-- hydrant/hydrantlaw08.ScriptBytes -/
def f_hydrantlaw08_ScriptBytes : FnI := ⟨62, [.tmp 4],
 (.seq (.reg [⟨some 4, .mov (.b false), none⟩])
 (.seq (.seq (.reg [⟨some 13, .mov (.t 0), none⟩, ⟨some 14, .len false (.t 13), none⟩, ⟨some 15, .bini .gtr (.t 14) (.c (.int .i64 (5000))), none⟩, ⟨some 16, .mov (.t 15), none⟩, ⟨some 17, .mov (.t 1), some (16, false)⟩, ⟨some 18, .len false (.t 17), some (16, false)⟩, ⟨some 19, .bini .gtr (.t 18) (.c (.int .i64 (10000))), some (16, false)⟩, ⟨some 20, .pick (.t 16) (.b true) (.t 19), none⟩])
 (.cond (.t 20)
 (.seq (.reg [⟨some 4, .mov (.b true), none⟩])
 .ret)
 .skip))
 (.seq (.reg [⟨some 22, .mov (.t 0), none⟩, ⟨some 23, .call 19 [(.t 22)], none⟩, ⟨some 21, .mov (.t 23), none⟩, ⟨some 24, .ext 0 (.t 21), none⟩, ⟨some 25, .ext 1 (.t 21), none⟩, ⟨some 5, .mov (.t 24), none⟩, ⟨some 6, .mov (.t 25), none⟩])
 (.seq (.reg [⟨some 27, .mov (.t 0), none⟩, ⟨some 28, .call 20 [(.t 27)], none⟩, ⟨some 26, .mov (.t 28), none⟩, ⟨some 29, .ext 0 (.t 26), none⟩, ⟨some 30, .ext 1 (.t 26), none⟩, ⟨some 7, .mov (.t 29), none⟩, ⟨some 8, .mov (.t 30), none⟩])
 (.seq (.reg [⟨some 32, .mov (.t 1), none⟩, ⟨some 33, .call 21 [(.t 32)], none⟩, ⟨some 31, .mov (.t 33), none⟩, ⟨some 34, .ext 0 (.t 31), none⟩, ⟨some 35, .ext 1 (.t 31), none⟩, ⟨some 9, .mov (.t 34), none⟩, ⟨some 10, .mov (.t 35), none⟩])
 (.seq (.reg [⟨some 37, .mov (.t 1), none⟩, ⟨some 38, .call 22 [(.t 37)], none⟩, ⟨some 36, .mov (.t 38), none⟩, ⟨some 39, .ext 0 (.t 36), none⟩, ⟨some 40, .ext 1 (.t 36), none⟩, ⟨some 11, .mov (.t 39), none⟩, ⟨some 12, .mov (.t 40), none⟩])
 (.seq (.reg [⟨some 41, .call 13 [], none⟩, ⟨some 42, .mov (.t 41), none⟩, ⟨some 43, .mov (.t 5), some (42, true)⟩, ⟨some 44, .mov (.t 7), some (42, true)⟩, ⟨some 45, .call 23 [(.t 43), (.t 44)], some (42, true)⟩, ⟨some 46, .pick (.t 42) (.t 45) (.b false), none⟩, ⟨some 47, .mov (.t 46), none⟩, ⟨some 48, .mov (.t 6), some (47, true)⟩, ⟨some 49, .mov (.t 8), some (47, true)⟩, ⟨some 50, .bini .eql (.t 48) (.t 49), some (47, true)⟩, ⟨some 51, .pick (.t 47) (.t 50) (.b false), none⟩, ⟨some 52, .mov (.t 51), none⟩, ⟨some 53, .mov (.t 9), some (52, true)⟩, ⟨some 54, .mov (.t 11), some (52, true)⟩, ⟨some 55, .call 24 [(.t 53), (.t 54)], some (52, true)⟩, ⟨some 56, .pick (.t 52) (.t 55) (.b false), none⟩, ⟨some 57, .mov (.t 56), none⟩, ⟨some 58, .mov (.t 10), some (57, true)⟩, ⟨some 59, .mov (.t 12), some (57, true)⟩, ⟨some 60, .bini .eql (.t 58) (.t 59), some (57, true)⟩, ⟨some 61, .pick (.t 57) (.t 60) (.b false), none⟩, ⟨some 4, .mov (.t 61), none⟩])
 .ret)))))))⟩
theorem t_hydrantlaw08_ScriptBytes : trFn Try.prog 4 [] [] = some f_hydrantlaw08_ScriptBytes := by kernel_rfl

abbrev n_hydrantlaw08_ScriptBack : Nat := 5
theorem k_hydrantlaw08_ScriptBack : FnOk Try.prog 5 := FnOk.of (by kernel_rfl)
/-- hydrant/hydrantlaw08.ScriptBack -/
def f_hydrantlaw08_ScriptBack : FnI := ⟨69, [.tmp 4],
 (.seq (.reg [⟨some 4, .mov (.b false), none⟩])
 (.seq (.seq (.reg [⟨some 13, .mov (.t 0), none⟩, ⟨some 14, .len false (.t 13), none⟩, ⟨some 15, .bini .gtr (.t 14) (.c (.int .i64 (5000))), none⟩, ⟨some 16, .mov (.t 15), none⟩, ⟨some 17, .mov (.t 1), some (16, false)⟩, ⟨some 18, .len false (.t 17), some (16, false)⟩, ⟨some 19, .bini .gtr (.t 18) (.c (.int .i64 (10000))), some (16, false)⟩, ⟨some 20, .pick (.t 16) (.b true) (.t 19), none⟩])
 (.cond (.t 20)
 (.seq (.reg [⟨some 4, .mov (.b true), none⟩])
 .ret)
 .skip))
 (.seq (.reg [⟨some 22, .mov (.t 0), none⟩, ⟨some 23, .call 19 [(.t 22)], none⟩, ⟨some 21, .mov (.t 23), none⟩, ⟨some 24, .ext 0 (.t 21), none⟩, ⟨some 25, .ext 1 (.t 21), none⟩, ⟨some 5, .mov (.t 24), none⟩, ⟨some 6, .mov (.t 25), none⟩])
 (.seq (.seq (.reg [⟨some 26, .mov (.t 6), none⟩, ⟨some 27, .bini .eql (.t 26) (.c (.int .i64 (0))), none⟩])
 (.cond (.t 27)
 (.seq (.reg [⟨some 29, .mov (.t 5), none⟩, ⟨some 30, .call 21 [(.t 29)], none⟩, ⟨some 28, .mov (.t 30), none⟩, ⟨some 31, .ext 0 (.t 28), none⟩, ⟨some 32, .ext 1 (.t 28), none⟩, ⟨some 7, .mov (.t 31), none⟩, ⟨some 8, .mov (.t 32), none⟩])
 (.seq (.reg [⟨some 33, .mov (.t 8), none⟩, ⟨some 34, .bini .neq (.t 33) (.c (.int .i64 (0))), none⟩, ⟨some 35, .mov (.t 34), none⟩, ⟨some 36, .mov (.t 7), some (35, false)⟩, ⟨some 37, .mov (.t 0), some (35, false)⟩, ⟨some 38, .call 24 [(.t 36), (.t 37)], some (35, false)⟩, ⟨some 39, .not (.t 38), some (35, false)⟩, ⟨some 40, .pick (.t 35) (.b true) (.t 39), none⟩])
 (.cond (.t 40)
 (.seq (.reg [⟨some 4, .mov (.b false), none⟩])
 .ret)
 .skip)))
 .skip))
 (.seq (.reg [⟨some 42, .mov (.t 1), none⟩, ⟨some 43, .call 21 [(.t 42)], none⟩, ⟨some 41, .mov (.t 43), none⟩, ⟨some 44, .ext 0 (.t 41), none⟩, ⟨some 45, .ext 1 (.t 41), none⟩, ⟨some 9, .mov (.t 44), none⟩, ⟨some 10, .mov (.t 45), none⟩])
 (.seq (.seq (.reg [⟨some 46, .mov (.t 10), none⟩, ⟨some 47, .bini .neq (.t 46) (.c (.int .i64 (0))), none⟩])
 (.cond (.t 47)
 (.seq (.reg [⟨some 48, .call 13 [], none⟩, ⟨some 49, .mov (.t 48), none⟩, ⟨some 50, .mov (.t 9), some (49, true)⟩, ⟨some 51, .len false (.t 50), some (49, true)⟩, ⟨some 52, .bini .eql (.t 51) (.c (.int .i64 (0))), some (49, true)⟩, ⟨some 53, .pick (.t 49) (.t 52) (.b false), none⟩, ⟨some 4, .mov (.t 53), none⟩])
 .ret)
 .skip))
 (.seq (.reg [⟨some 55, .mov (.t 9), none⟩, ⟨some 56, .call 19 [(.t 55)], none⟩, ⟨some 54, .mov (.t 56), none⟩, ⟨some 57, .ext 0 (.t 54), none⟩, ⟨some 58, .ext 1 (.t 54), none⟩, ⟨some 11, .mov (.t 57), none⟩, ⟨some 12, .mov (.t 58), none⟩])
 (.seq (.reg [⟨some 59, .call 13 [], none⟩, ⟨some 60, .mov (.t 59), none⟩, ⟨some 61, .mov (.t 12), some (60, true)⟩, ⟨some 62, .bini .eql (.t 61) (.c (.int .i64 (0))), some (60, true)⟩, ⟨some 63, .pick (.t 60) (.t 62) (.b false), none⟩, ⟨some 64, .mov (.t 63), none⟩, ⟨some 65, .mov (.t 11), some (64, true)⟩, ⟨some 66, .mov (.t 1), some (64, true)⟩, ⟨some 67, .call 23 [(.t 65), (.t 66)], some (64, true)⟩, ⟨some 68, .pick (.t 64) (.t 67) (.b false), none⟩, ⟨some 4, .mov (.t 68), none⟩])
 .ret))))))))⟩
theorem t_hydrantlaw08_ScriptBack : trFn Try.prog 5 [] [] = some f_hydrantlaw08_ScriptBack := by kernel_rfl

abbrev n_hydrantlaw08_ScriptNames : Nat := 6
theorem k_hydrantlaw08_ScriptNames : FnOk Try.prog 6 := FnOk.of (by kernel_rfl)
/-- hydrant/hydrantlaw08.ScriptNames -/
def f_hydrantlaw08_ScriptNames : FnI := ⟨72, [.tmp 2],
 (.seq (.reg [⟨some 1, .box 30 (.t 0), none⟩, ⟨some 2, .mov (.b false), none⟩])
 (.seq (.seq (.reg [⟨some 8, .load true 5 (.t 1), none⟩, ⟨some 9, .call 12 [(.t 8)], none⟩])
 (.cond (.t 9)
 (.seq (.reg [⟨some 2, .mov (.b true), none⟩])
 .ret)
 .skip))
 (.seq (.reg [⟨some 10, .load true 5 (.t 1), none⟩, ⟨some 11, .call 17 [(.t 10)], none⟩, ⟨some 3, .mov (.t 11), none⟩])
 (.seq (.seq (.reg [⟨some 4, .mov (.c (.int .i64 (0))), none⟩])
 (.block 0
 (.loop [4] [12, 13, 14, 15, 5, 18, 19, 20, 23, 24, 25, 26, 27, 28, 29, 30, 31, 2, 21, 22, 16, 17, 4]
 (.seq (.seq (.reg [⟨some 12, .mov (.t 4), none⟩, ⟨some 13, .mov (.t 3), none⟩, ⟨some 14, .len false (.t 13), none⟩, ⟨some 15, .bini .lss (.t 12) (.t 14), none⟩])
 (.cond (.t 15)
 .skip
 (.exit 0)))
 (.seq (.block 1
 (.seq (.reg [⟨some 5, .mov (.c (.int .i64 (0))), none⟩])
 (.block 2
 (.loop [5] [18, 19, 20, 23, 24, 25, 26, 27, 28, 29, 30, 31, 2, 21, 22, 5]
 (.seq (.seq (.reg [⟨some 18, .mov (.t 5), none⟩, ⟨some 19, .mov (.t 4), none⟩, ⟨some 20, .bini .lss (.t 18) (.t 19), none⟩])
 (.cond (.t 20)
 .skip
 (.exit 2)))
 (.seq (.block 3
 (.seq (.regD [] (.op ⟨0, false, [], ⟨some 23, .mov (.t 3), none⟩⟩
 (.op ⟨1, false, [], ⟨some 24, .mov (.t 5), none⟩⟩
 (.op ⟨2, true, [], ⟨some 25, .iadr 1 (.t 23) (.t 24), none⟩⟩
 (.op ⟨3, true, [], ⟨some 26, .load false 1 (.t 25), none⟩⟩
 (.op ⟨4, false, [], ⟨some 27, .mov (.t 3), none⟩⟩
 (.op ⟨5, false, [], ⟨some 28, .mov (.t 4), none⟩⟩
 (.op ⟨6, true, [], ⟨some 29, .iadr 1 (.t 27) (.t 28), none⟩⟩
 (.op ⟨7, true, [], ⟨some 30, .load false 1 (.t 29), none⟩⟩
 (.op ⟨8, false, [], ⟨some 31, .bins .eql (.t 26) (.t 30), none⟩⟩
 .nil))))))))))
 (.cond (.t 31)
 (.seq (.reg [⟨some 2, .mov (.b false), none⟩])
 .ret)
 .skip)))
 (.reg [⟨some 21, .mov (.t 5), none⟩, ⟨some 22, .bini .add (.t 21) (.c (.int .i64 (1))), none⟩, ⟨some 5, .mov (.t 22), none⟩])))))))
 (.reg [⟨some 16, .mov (.t 4), none⟩, ⟨some 17, .bini .add (.t 16) (.c (.int .i64 (1))), none⟩, ⟨some 4, .mov (.t 17), none⟩]))))))
 (.seq (.reg [⟨some 33, .fadr 0 (.t 1), none⟩, ⟨some 34, .load true 3 (.t 33), none⟩, ⟨some 35, .call 25 [(.t 34)], none⟩, ⟨some 32, .mov (.t 35), none⟩, ⟨some 36, .ext 0 (.t 32), none⟩, ⟨some 37, .ext 1 (.t 32), none⟩, ⟨some 6, .mov (.t 36), none⟩, ⟨some 7, .mov (.t 37), none⟩])
 (.seq (.seq (.regD [] (.op ⟨0, false, [], ⟨some 38, .mov (.t 6), none⟩⟩
 (.op ⟨1, false, [], ⟨some 39, .bini .eql (.t 38) (.c (.int .i64 (0))), none⟩⟩
 (.op ⟨2, false, [], ⟨some 40, .mov (.t 39), none⟩⟩
 (.op ⟨3, false, [], ⟨some 41, .mov (.t 3), some (40, true)⟩⟩
 (.op ⟨4, false, [], ⟨some 42, .len false (.t 41), some (40, true)⟩⟩
 (.op ⟨5, false, [], ⟨some 43, .fadr 0 (.t 1), some (40, true)⟩⟩
 (.op ⟨6, false, [], ⟨some 44, .fadr 0 (.t 43), some (40, true)⟩⟩
 (.op ⟨7, true, [], ⟨some 45, .load false 1 (.t 44), some (40, true)⟩⟩
 (.op ⟨8, false, [], ⟨some 46, .len false (.t 45), some (40, true)⟩⟩
 (.op ⟨9, false, [], ⟨some 47, .bini .lss (.t 42) (.t 46), some (40, true)⟩⟩
 (.op ⟨10, false, [], ⟨some 48, .mov (.t 47), some (40, true)⟩⟩
 (.op ⟨11, false, [], ⟨some 49, .mov (.t 3), some (48, false)⟩⟩
 (.op ⟨12, false, [], ⟨some 50, .fadr 0 (.t 1), some (48, false)⟩⟩
 (.op ⟨13, false, [], ⟨some 51, .fadr 0 (.t 50), some (48, false)⟩⟩
 (.op ⟨14, true, [], ⟨some 52, .load false 1 (.t 51), some (48, false)⟩⟩
 (.op ⟨15, false, [], ⟨some 53, .len false (.t 52), some (48, false)⟩⟩
 (.op ⟨16, false, [], ⟨some 54, .slc 1 (.t 49) none (some (.t 53)) none, some (48, false)⟩⟩
 (.op ⟨17, false, [], ⟨some 55, .fadr 0 (.t 1), some (48, false)⟩⟩
 (.op ⟨18, false, [], ⟨some 56, .fadr 0 (.t 55), some (48, false)⟩⟩
 (.op ⟨19, true, [], ⟨some 57, .load false 1 (.t 56), some (48, false)⟩⟩
 (.op ⟨20, false, [], ⟨some 58, .call 16 [(.t 54), (.t 57)], some (48, false)⟩⟩
 (.op ⟨21, false, [], ⟨some 59, .not (.t 58), some (48, false)⟩⟩
 (.op ⟨22, false, [], ⟨some 60, .pick (.t 48) (.b true) (.t 59), some (40, true)⟩⟩
 (.op ⟨23, false, [], ⟨some 61, .pick (.t 40) (.t 60) (.b false), none⟩⟩
 .nil)))))))))))))))))))))))))
 (.cond (.t 61)
 (.seq (.reg [⟨some 2, .mov (.b false), none⟩])
 .ret)
 .skip))
 (.seq (.reg [⟨some 62, .call 13 [], none⟩, ⟨some 63, .mov (.t 62), none⟩, ⟨some 64, .load true 5 (.t 1), some (63, true)⟩, ⟨some 65, .call 14 [(.t 64)], some (63, true)⟩, ⟨some 66, .not (.t 65), some (63, true)⟩, ⟨some 67, .mov (.t 66), some (63, true)⟩, ⟨some 68, .mov (.t 6), some (67, false)⟩, ⟨some 69, .bini .eql (.t 68) (.c (.int .i64 (0))), some (67, false)⟩, ⟨some 70, .pick (.t 67) (.b true) (.t 69), some (63, true)⟩, ⟨some 71, .pick (.t 63) (.t 70) (.b false), none⟩, ⟨some 2, .mov (.t 71), none⟩])
 .ret)))))))⟩
theorem t_hydrantlaw08_ScriptNames : trFn Try.prog 6 [([], (.first 0 (.first 1 (.first 2 (.first 3 (.first 4 (.first 5 (.first 6 (.first 7 (.first 8 .nil)))))))))), ([], (.first 0 (.first 1 (.first 2 (.first 3 (.first 4 (.first 5 (.first 6 (.first 7 (.first 8 (.first 9 (.first 10 (.first 11 (.first 12 (.first 13 (.first 14 (.first 15 (.first 16 (.first 17 (.first 18 (.first 19 (.exec 20 (.first 21 (.first 22 (.first 23 .nil)))))))))))))))))))))))))] [[4], [5]] = some f_hydrantlaw08_ScriptNames := by kernel_rfl

abbrev n_hydrantlaw08_ScriptLess : Nat := 7
theorem k_hydrantlaw08_ScriptLess : FnOk Try.prog 7 := FnOk.of (by kernel_rfl)
/-- hydrant/hydrantlaw08.ScriptLess -/
def f_hydrantlaw08_ScriptLess : FnI := ⟨80, [.tmp 2],
 (.seq (.reg [⟨some 1, .box 30 (.t 0), none⟩, ⟨some 2, .mov (.b false), none⟩])
 (.seq (.seq (.reg [⟨some 6, .load true 5 (.t 1), none⟩, ⟨some 7, .call 12 [(.t 6)], none⟩, ⟨some 8, .mov (.t 7), none⟩, ⟨some 9, .load true 5 (.t 1), some (8, false)⟩, ⟨some 10, .call 14 [(.t 9)], some (8, false)⟩, ⟨some 11, .not (.t 10), some (8, false)⟩, ⟨some 12, .pick (.t 8) (.b true) (.t 11), none⟩])
 (.cond (.t 12)
 (.seq (.reg [⟨some 13, .call 13 [], none⟩, ⟨some 2, .mov (.t 13), none⟩])
 .ret)
 .skip))
 (.seq (.reg [⟨some 14, .load true 5 (.t 1), none⟩, ⟨some 3, .alloc 30 [(.v (.slice none 0 0)), (.v (.slice none 0 0)), (.v (.slice none 0 0)), (.v (.slice none 0 0)), (.v (.slice none 0 0))], none⟩, ⟨none, .store 5 (.t 3) (.t 14), none⟩])
 (.seq (.seq (.reg [⟨some 15, .fadr 4 (.t 1), none⟩, ⟨some 16, .load false 1 (.t 15), none⟩, ⟨some 17, .len false (.t 16), none⟩, ⟨some 18, .bini .gtr (.t 17) (.c (.int .i64 (0))), none⟩])
 (.cond (.t 18)
 (.seq (.reg [⟨some 19, .fadr 4 (.t 1), none⟩, ⟨some 20, .load false 1 (.t 19), none⟩, ⟨some 21, .fadr 4 (.t 1), none⟩, ⟨some 22, .load false 1 (.t 21), none⟩, ⟨some 23, .len false (.t 22), none⟩, ⟨some 24, .bini .sub (.t 23) (.c (.int .i64 (1))), none⟩, ⟨some 25, .slc 1 (.t 20) none (some (.t 24)) none, none⟩, ⟨some 26, .fadr 4 (.t 3), none⟩, ⟨none, .store 1 (.t 26) (.t 25), none⟩])
 (.seq (.reg [⟨some 27, .load true 5 (.t 3), none⟩, ⟨some 28, .call 14 [(.t 27)], none⟩, ⟨some 29, .not (.t 28), none⟩])
 (.cond (.t 29)
 (.seq (.reg [⟨some 2, .mov (.b false), none⟩])
 .ret)
 .skip)))
 .skip))
 (.seq (.reg [⟨some 30, .fadr 3 (.t 1), none⟩, ⟨some 31, .load false 1 (.t 30), none⟩, ⟨some 32, .len false (.t 31), none⟩, ⟨some 4, .mov (.t 32), none⟩])
 (.seq (.reg [⟨some 33, .fadr 3 (.t 1), none⟩, ⟨some 34, .load false 1 (.t 33), none⟩, ⟨some 35, .mov (.t 4), none⟩, ⟨some 36, .bini .sub (.t 35) (.c (.int .i64 (1))), none⟩, ⟨some 37, .iadr 1 (.t 34) (.t 36), none⟩, ⟨some 38, .load false 1 (.t 37), none⟩, ⟨some 5, .mov (.t 38), none⟩])
 (.seq (.seq (.reg [⟨some 39, .mov (.t 5), none⟩, ⟨some 40, .len false (.t 39), none⟩, ⟨some 41, .bini .gtr (.t 40) (.c (.int .i64 (0))), none⟩])
 (.cond (.t 41)
 (.seq (.reg [⟨some 42, .bsl 46 1 0 [] [], none⟩, ⟨some 43, .fadr 3 (.t 3), none⟩, ⟨none, .store 1 (.t 43) (.t 42), none⟩])
 (.seq (.regD [] (.op ⟨0, false, [], ⟨some 44, .fadr 3 (.t 3), none⟩⟩
 (.op ⟨1, true, [], ⟨some 45, .load false 1 (.t 44), none⟩⟩
 (.op ⟨2, false, [], ⟨some 46, .fadr 3 (.t 1), none⟩⟩
 (.op ⟨3, true, [], ⟨some 47, .load false 1 (.t 46), none⟩⟩
 (.op ⟨4, false, [], ⟨some 48, .mov (.t 4), none⟩⟩
 (.op ⟨5, false, [], ⟨some 49, .bini .sub (.t 48) (.c (.int .i64 (1))), none⟩⟩
 (.op ⟨6, false, [], ⟨some 50, .slc 1 (.t 47) none (some (.t 49)) none, none⟩⟩
 (.op ⟨7, false, [], ⟨some 51, .app 46 1 24 (.t 45) (.t 50), none⟩⟩
 (.op ⟨8, false, [], ⟨some 52, .fadr 3 (.t 3), none⟩⟩
 (.op ⟨9, false, [], ⟨none, .store 1 (.t 52) (.t 51), none⟩⟩
 .nil)))))))))))
 (.seq (.regD [] (.op ⟨0, false, [], ⟨some 53, .fadr 3 (.t 3), none⟩⟩
 (.op ⟨1, true, [], ⟨some 54, .load false 1 (.t 53), none⟩⟩
 (.op ⟨2, false, [], ⟨some 55, .mov (.t 5), none⟩⟩
 (.op ⟨3, false, [], ⟨some 56, .mov (.t 5), none⟩⟩
 (.op ⟨4, false, [], ⟨some 57, .len false (.t 56), none⟩⟩
 (.op ⟨5, false, [], ⟨some 58, .bini .sub (.t 57) (.c (.int .i64 (1))), none⟩⟩
 (.op ⟨6, false, [], ⟨some 59, .slc 10 (.t 55) none (some (.t 58)) none, none⟩⟩
 (.op ⟨7, false, [], ⟨some 60, .bsl 46 1 1 [(.v (.slice none 0 0))] [(0, 1, (.t 59))], none⟩⟩
 (.op ⟨8, false, [], ⟨some 61, .app 46 1 24 (.t 54) (.t 60), none⟩⟩
 (.op ⟨9, false, [], ⟨some 62, .fadr 3 (.t 3), none⟩⟩
 (.op ⟨10, false, [], ⟨none, .store 1 (.t 62) (.t 61), none⟩⟩
 .nil))))))))))))
 (.seq (.reg [⟨some 63, .load true 5 (.t 3), none⟩, ⟨some 64, .call 14 [(.t 63)], none⟩, ⟨some 65, .not (.t 64), none⟩])
 (.cond (.t 65)
 (.seq (.reg [⟨some 2, .mov (.b false), none⟩])
 .ret)
 .skip)))))
 .skip))
 (.seq (.reg [⟨some 66, .fadr 3 (.t 1), none⟩, ⟨some 67, .load false 1 (.t 66), none⟩, ⟨some 68, .mov (.t 4), none⟩, ⟨some 69, .bini .sub (.t 68) (.c (.int .i64 (1))), none⟩, ⟨some 70, .slc 1 (.t 67) none (some (.t 69)) none, none⟩, ⟨some 71, .fadr 3 (.t 3), none⟩, ⟨none, .store 1 (.t 71) (.t 70), none⟩])
 (.seq (.reg [⟨some 72, .call 13 [], none⟩, ⟨some 73, .mov (.t 72), none⟩, ⟨some 74, .load true 5 (.t 3), some (73, true)⟩, ⟨some 75, .call 14 [(.t 74)], some (73, true)⟩, ⟨some 76, .mov (.t 4), some (73, true)⟩, ⟨some 77, .bini .gtr (.t 76) (.c (.int .i64 (1))), some (73, true)⟩, ⟨some 78, .binb false (.t 75) (.t 77), some (73, true)⟩, ⟨some 79, .pick (.t 73) (.t 78) (.b false), none⟩, ⟨some 2, .mov (.t 79), none⟩])
 .ret)))))))))⟩
theorem t_hydrantlaw08_ScriptLess : trFn Try.prog 7 [([], (.first 0 (.first 1 (.first 2 (.first 3 (.first 4 (.first 5 (.first 6 (.exec 7 (.first 8 (.exec 9 .nil))))))))))), ([], (.first 0 (.first 1 (.first 2 (.first 3 (.first 4 (.first 5 (.first 6 (.exec 7 (.exec 8 (.first 9 (.exec 10 .nil))))))))))))] [] = some f_hydrantlaw08_ScriptLess := by kernel_rfl

abbrev n_hydrantlaw07_SnapBuilds : Nat := 8
theorem k_hydrantlaw07_SnapBuilds : FnOk Try.prog 8 := FnOk.of (by kernel_rfl)
/-- hydrant/hydrantlaw07.SnapBuilds -/
def f_hydrantlaw07_SnapBuilds : FnI := ⟨39, [.tmp 2],
 (.seq (.reg [⟨some 1, .box 26 (.t 0), none⟩, ⟨some 2, .mov (.b false), none⟩])
 (.seq (.seq (.reg [⟨some 9, .load true 3 (.t 1), none⟩, ⟨some 10, .call 26 [(.t 9)], none⟩])
 (.cond (.t 10)
 (.seq (.reg [⟨some 2, .mov (.b true), none⟩])
 .ret)
 .skip))
 (.seq (.reg [⟨some 12, .load true 3 (.t 1), none⟩, ⟨some 13, .call 27 [(.t 12)], none⟩, ⟨some 11, .mov (.t 13), none⟩, ⟨some 14, .ext 0 (.t 11), none⟩, ⟨some 15, .ext 1 (.t 11), none⟩, ⟨some 16, .ext 2 (.t 11), none⟩, ⟨some 3, .alloc 50 [(.v (.slice none 0 0)), (.v (.slice none 0 0)), (.v (.slice none 0 0))], none⟩, ⟨none, .store 3 (.t 3) (.t 14), none⟩, ⟨some 4, .mov (.t 15), none⟩, ⟨some 5, .mov (.t 16), none⟩])
 (.seq (.reg [⟨some 18, .load true 3 (.t 1), none⟩, ⟨some 19, .call 28 [(.t 18)], none⟩, ⟨some 17, .mov (.t 19), none⟩, ⟨some 20, .ext 0 (.t 17), none⟩, ⟨some 21, .ext 1 (.t 17), none⟩, ⟨some 22, .ext 2 (.t 17), none⟩, ⟨some 6, .alloc 50 [(.v (.slice none 0 0)), (.v (.slice none 0 0)), (.v (.slice none 0 0))], none⟩, ⟨none, .store 3 (.t 6) (.t 20), none⟩, ⟨some 7, .mov (.t 21), none⟩, ⟨some 8, .mov (.t 22), none⟩])
 (.seq (.reg [⟨some 23, .call 29 [], none⟩, ⟨some 24, .mov (.t 23), none⟩, ⟨some 25, .load true 3 (.t 3), some (24, true)⟩, ⟨some 26, .load true 3 (.t 6), some (24, true)⟩, ⟨some 27, .call 30 [(.t 25), (.t 26)], some (24, true)⟩, ⟨some 28, .pick (.t 24) (.t 27) (.b false), none⟩, ⟨some 29, .mov (.t 28), none⟩, ⟨some 30, .mov (.t 4), some (29, true)⟩, ⟨some 31, .mov (.t 7), some (29, true)⟩, ⟨some 32, .bini .eql (.t 30) (.t 31), some (29, true)⟩, ⟨some 33, .pick (.t 29) (.t 32) (.b false), none⟩, ⟨some 34, .mov (.t 33), none⟩, ⟨some 35, .mov (.t 5), some (34, true)⟩, ⟨some 36, .mov (.t 8), some (34, true)⟩, ⟨some 37, .bini .eql (.t 35) (.t 36), some (34, true)⟩, ⟨some 38, .pick (.t 34) (.t 37) (.b false), none⟩, ⟨some 2, .mov (.t 38), none⟩])
 .ret)))))⟩
theorem t_hydrantlaw07_SnapBuilds : trFn Try.prog 8 [] [] = some f_hydrantlaw07_SnapBuilds := by kernel_rfl

abbrev n_hydrantlaw07_SnapBack : Nat := 9
theorem k_hydrantlaw07_SnapBack : FnOk Try.prog 9 := FnOk.of (by kernel_rfl)
/-- hydrant/hydrantlaw07.SnapBack -/
def f_hydrantlaw07_SnapBack : FnI := ⟨55, [.tmp 2],
 (.seq (.reg [⟨some 1, .box 26 (.t 0), none⟩, ⟨some 2, .mov (.b false), none⟩])
 (.seq (.seq (.reg [⟨some 8, .load true 3 (.t 1), none⟩, ⟨some 9, .call 26 [(.t 8)], none⟩])
 (.cond (.t 9)
 (.seq (.reg [⟨some 2, .mov (.b true), none⟩])
 .ret)
 .skip))
 (.seq (.reg [⟨some 11, .load true 3 (.t 1), none⟩, ⟨some 12, .call 27 [(.t 11)], none⟩, ⟨some 10, .mov (.t 12), none⟩, ⟨some 13, .ext 0 (.t 10), none⟩, ⟨some 14, .ext 1 (.t 10), none⟩, ⟨some 15, .ext 2 (.t 10), none⟩, ⟨some 3, .alloc 50 [(.v (.slice none 0 0)), (.v (.slice none 0 0)), (.v (.slice none 0 0))], none⟩, ⟨none, .store 3 (.t 3) (.t 13), none⟩, ⟨some 4, .mov (.t 14), none⟩, ⟨some 5, .mov (.t 15), none⟩])
 (.seq (.reg [⟨some 17, .load true 3 (.t 1), none⟩, ⟨some 18, .call 25 [(.t 17)], none⟩, ⟨some 16, .mov (.t 18), none⟩, ⟨some 19, .ext 0 (.t 16), none⟩, ⟨some 20, .ext 1 (.t 16), none⟩, ⟨some 6, .mov (.t 19), none⟩, ⟨some 7, .mov (.t 20), none⟩])
 (.seq (.seq (.reg [⟨some 21, .mov (.t 4), none⟩, ⟨some 22, .mov (.t 6), none⟩, ⟨some 23, .bini .neq (.t 21) (.t 22), none⟩, ⟨some 24, .mov (.t 23), none⟩, ⟨some 25, .mov (.t 5), some (24, false)⟩, ⟨some 26, .mov (.t 7), some (24, false)⟩, ⟨some 27, .bini .neq (.t 25) (.t 26), some (24, false)⟩, ⟨some 28, .pick (.t 24) (.b true) (.t 27), none⟩])
 (.cond (.t 28)
 (.seq (.reg [⟨some 2, .mov (.b false), none⟩])
 .ret)
 .skip))
 (.seq (.seq (.reg [⟨some 29, .mov (.t 4), none⟩, ⟨some 30, .bini .neq (.t 29) (.c (.int .i64 (0))), none⟩])
 (.cond (.t 30)
 (.seq (.reg [⟨some 31, .call 29 [], none⟩, ⟨some 32, .mov (.t 31), none⟩, ⟨some 33, .fadr 1 (.t 3), some (32, true)⟩, ⟨some 34, .load false 1 (.t 33), some (32, true)⟩, ⟨some 35, .len false (.t 34), some (32, true)⟩, ⟨some 36, .bini .eql (.t 35) (.c (.int .i64 (0))), some (32, true)⟩, ⟨some 37, .pick (.t 32) (.t 36) (.b false), none⟩, ⟨some 38, .mov (.t 37), none⟩, ⟨some 39, .fadr 0 (.t 3), some (38, true)⟩, ⟨some 40, .load false 1 (.t 39), some (38, true)⟩, ⟨some 41, .len false (.t 40), some (38, true)⟩, ⟨some 42, .bini .eql (.t 41) (.c (.int .i64 (0))), some (38, true)⟩, ⟨some 43, .pick (.t 38) (.t 42) (.b false), none⟩, ⟨some 2, .mov (.t 43), none⟩])
 .ret)
 .skip))
 (.seq (.regD [] (.op ⟨0, false, [], ⟨some 44, .call 29 [], none⟩⟩
 (.op ⟨1, false, [], ⟨some 45, .mov (.t 44), none⟩⟩
 (.op ⟨2, true, [], ⟨some 46, .load true 3 (.t 3), some (45, true)⟩⟩
 (.op ⟨3, false, [], ⟨some 47, .call 31 [(.t 46)], some (45, true)⟩⟩
 (.op ⟨4, false, [], ⟨some 48, .pick (.t 45) (.t 47) (.b false), none⟩⟩
 (.op ⟨5, false, [], ⟨some 49, .mov (.t 48), none⟩⟩
 (.op ⟨6, true, [], ⟨some 50, .load true 3 (.t 3), some (49, true)⟩⟩
 (.op ⟨8, true, [], ⟨some 52, .load true 3 (.t 1), some (49, true)⟩⟩
 (.op ⟨7, false, [], ⟨some 51, .call 33 [(.t 50)], some (49, true)⟩⟩
 (.op ⟨9, false, [], ⟨some 53, .call 32 [(.t 51), (.t 52)], some (49, true)⟩⟩
 (.op ⟨10, false, [], ⟨some 54, .pick (.t 49) (.t 53) (.b false), none⟩⟩
 (.op ⟨11, false, [], ⟨some 2, .mov (.t 54), none⟩⟩
 .nil)))))))))))))
 .ret)))))))⟩
theorem t_hydrantlaw07_SnapBack : trFn Try.prog 9 [([], (.exec 0 (.first 1 (.first 2 (.exec 3 (.first 4 (.first 5 (.first 6 (.first 8 (.exec 7 (.exec 9 (.first 10 (.first 11 .nil)))))))))))))] [] = some f_hydrantlaw07_SnapBack := by kernel_rfl

abbrev n_hydrantlaw07_SnapAgain : Nat := 10
theorem k_hydrantlaw07_SnapAgain : FnOk Try.prog 10 := FnOk.of (by kernel_rfl)
/-- hydrant/hydrantlaw07.SnapAgain -/
def f_hydrantlaw07_SnapAgain : FnI := ⟨80, [.tmp 8],
 (.seq (.reg [⟨some 4, .box 50 (.t 0), none⟩, ⟨some 8, .mov (.b false), none⟩])
 (.seq (.seq (.reg [⟨some 14, .load true 3 (.t 4), none⟩, ⟨some 15, .call 34 [(.t 14)], none⟩, ⟨some 16, .mov (.t 15), none⟩, ⟨some 17, .mov (.t 2), some (16, false)⟩, ⟨some 18, .len true (.t 17), some (16, false)⟩, ⟨some 19, .bini .gtr (.t 18) (.c (.int .i64 (100))), some (16, false)⟩, ⟨some 20, .pick (.t 16) (.b true) (.t 19), none⟩, ⟨some 21, .mov (.t 20), none⟩, ⟨some 22, .mov (.t 3), some (21, false)⟩, ⟨some 23, .len true (.t 22), some (21, false)⟩, ⟨some 24, .bini .gtr (.t 23) (.c (.int .i64 (100))), some (21, false)⟩, ⟨some 25, .pick (.t 21) (.b true) (.t 24), none⟩, ⟨some 26, .mov (.t 25), none⟩, ⟨some 27, .load true 3 (.t 4), some (26, false)⟩, ⟨some 28, .call 31 [(.t 27)], some (26, false)⟩, ⟨some 29, .not (.t 28), some (26, false)⟩, ⟨some 30, .pick (.t 26) (.b true) (.t 29), none⟩])
 (.cond (.t 30)
 (.seq (.reg [⟨some 31, .call 29 [], none⟩, ⟨some 8, .mov (.t 31), none⟩])
 .ret)
 .skip))
 (.seq (.reg [⟨some 33, .load true 3 (.t 4), none⟩, ⟨some 34, .call 33 [(.t 33)], none⟩, ⟨some 35, .call 27 [(.t 34)], none⟩, ⟨some 32, .mov (.t 35), none⟩, ⟨some 36, .ext 0 (.t 32), none⟩, ⟨some 37, .ext 1 (.t 32), none⟩, ⟨some 38, .ext 2 (.t 32), none⟩, ⟨some 9, .alloc 50 [(.v (.slice none 0 0)), (.v (.slice none 0 0)), (.v (.slice none 0 0))], none⟩, ⟨none, .store 3 (.t 9) (.t 36), none⟩, ⟨some 10, .mov (.t 37), none⟩, ⟨some 11, .mov (.t 38), none⟩])
 (.seq (.reg [⟨some 40, .load true 3 (.t 4), none⟩, ⟨some 41, .mov (.t 1), none⟩, ⟨some 42, .mov (.t 2), none⟩, ⟨some 43, .mov (.t 3), none⟩, ⟨some 44, .call 35 [(.t 40), (.t 41), (.t 42), (.t 43)], none⟩, ⟨some 39, .mov (.t 44), none⟩, ⟨some 45, .ext 0 (.t 39), none⟩, ⟨some 46, .ext 1 (.t 39), none⟩, ⟨some 12, .mov (.t 45), none⟩, ⟨some 13, .mov (.t 46), none⟩])
 (.seq (.reg [⟨some 47, .call 29 [], none⟩, ⟨some 48, .mov (.t 47), none⟩, ⟨some 49, .mov (.t 10), some (48, true)⟩, ⟨some 50, .bini .eql (.t 49) (.c (.int .i64 (0))), some (48, true)⟩, ⟨some 51, .pick (.t 48) (.t 50) (.b false), none⟩, ⟨some 52, .mov (.t 51), none⟩, ⟨some 53, .load true 3 (.t 4), some (52, true)⟩, ⟨some 54, .load true 3 (.t 9), some (52, true)⟩, ⟨some 55, .call 30 [(.t 53), (.t 54)], some (52, true)⟩, ⟨some 56, .pick (.t 52) (.t 55) (.b false), none⟩, ⟨some 57, .mov (.t 56), none⟩, ⟨some 58, .mov (.t 13), some (57, true)⟩, ⟨some 59, .bini .eql (.t 58) (.c (.int .i64 (0))), some (57, true)⟩, ⟨some 60, .mov (.t 59), some (57, true)⟩, ⟨some 61, .mov (.t 12), some (60, true)⟩, ⟨some 62, .bini .geq (.t 61) (.c (.int .i64 (0))), some (60, true)⟩, ⟨some 63, .pick (.t 60) (.t 62) (.b false), some (57, true)⟩, ⟨some 64, .mov (.t 63), some (57, true)⟩, ⟨some 65, .mov (.t 12), some (64, true)⟩, ⟨some 66, .fadr 2 (.t 4), some (64, true)⟩, ⟨some 67, .load false 1 (.t 66), some (64, true)⟩, ⟨some 68, .len false (.t 67), some (64, true)⟩, ⟨some 69, .bini .lss (.t 65) (.t 68), some (64, true)⟩, ⟨some 70, .pick (.t 64) (.t 69) (.b false), some (57, true)⟩, ⟨some 71, .mov (.t 70), some (57, true)⟩, ⟨some 72, .mov (.t 13), some (71, false)⟩, ⟨some 73, .bini .eql (.t 72) (.c (.int .i64 (3))), some (71, false)⟩, ⟨some 74, .pick (.t 71) (.b true) (.t 73), some (57, true)⟩, ⟨some 75, .mov (.t 74), some (57, true)⟩, ⟨some 76, .mov (.t 13), some (75, false)⟩, ⟨some 77, .bini .eql (.t 76) (.c (.int .i64 (5))), some (75, false)⟩, ⟨some 78, .pick (.t 75) (.b true) (.t 77), some (57, true)⟩, ⟨some 79, .pick (.t 57) (.t 78) (.b false), none⟩, ⟨some 8, .mov (.t 79), none⟩])
 .ret)))))⟩
theorem t_hydrantlaw07_SnapAgain : trFn Try.prog 10 [] [] = some f_hydrantlaw07_SnapAgain := by kernel_rfl

abbrev n_hydrantlaw07_SnapUnlike : Nat := 11
theorem k_hydrantlaw07_SnapUnlike : FnOk Try.prog 11 := FnOk.of (by kernel_rfl)
/-- hydrant/hydrantlaw07.SnapUnlike -/
def f_hydrantlaw07_SnapUnlike : FnI := ⟨46, [.tmp 4],
 (.seq (.reg [⟨some 2, .box 26 (.t 0), none⟩, ⟨some 3, .box 26 (.t 1), none⟩, ⟨some 4, .mov (.b false), none⟩])
 (.seq (.seq (.reg [⟨some 11, .load true 3 (.t 2), none⟩, ⟨some 12, .call 26 [(.t 11)], none⟩, ⟨some 13, .mov (.t 12), none⟩, ⟨some 14, .load true 3 (.t 3), some (13, false)⟩, ⟨some 15, .call 26 [(.t 14)], some (13, false)⟩, ⟨some 16, .pick (.t 13) (.b true) (.t 15), none⟩])
 (.cond (.t 16)
 (.seq (.reg [⟨some 4, .mov (.b true), none⟩])
 .ret)
 .skip))
 (.seq (.reg [⟨some 18, .load true 3 (.t 2), none⟩, ⟨some 19, .call 27 [(.t 18)], none⟩, ⟨some 17, .mov (.t 19), none⟩, ⟨some 20, .ext 0 (.t 17), none⟩, ⟨some 21, .ext 1 (.t 17), none⟩, ⟨some 22, .ext 2 (.t 17), none⟩, ⟨some 5, .alloc 50 [(.v (.slice none 0 0)), (.v (.slice none 0 0)), (.v (.slice none 0 0))], none⟩, ⟨none, .store 3 (.t 5) (.t 20), none⟩, ⟨some 6, .mov (.t 21), none⟩, ⟨some 7, .mov (.t 22), none⟩])
 (.seq (.reg [⟨some 24, .load true 3 (.t 3), none⟩, ⟨some 25, .call 27 [(.t 24)], none⟩, ⟨some 23, .mov (.t 25), none⟩, ⟨some 26, .ext 0 (.t 23), none⟩, ⟨some 27, .ext 1 (.t 23), none⟩, ⟨some 28, .ext 2 (.t 23), none⟩, ⟨some 8, .alloc 50 [(.v (.slice none 0 0)), (.v (.slice none 0 0)), (.v (.slice none 0 0))], none⟩, ⟨none, .store 3 (.t 8) (.t 26), none⟩, ⟨some 9, .mov (.t 27), none⟩, ⟨some 10, .mov (.t 28), none⟩])
 (.seq (.seq (.reg [⟨some 29, .mov (.t 6), none⟩, ⟨some 30, .bini .neq (.t 29) (.c (.int .i64 (0))), none⟩, ⟨some 31, .mov (.t 30), none⟩, ⟨some 32, .mov (.t 9), some (31, false)⟩, ⟨some 33, .bini .neq (.t 32) (.c (.int .i64 (0))), some (31, false)⟩, ⟨some 34, .pick (.t 31) (.b true) (.t 33), none⟩])
 (.cond (.t 34)
 (.seq (.reg [⟨some 35, .call 29 [], none⟩, ⟨some 4, .mov (.t 35), none⟩])
 .ret)
 .skip))
 (.seq (.regD [] (.op ⟨0, false, [], ⟨some 36, .call 29 [], none⟩⟩
 (.op ⟨1, false, [], ⟨some 37, .mov (.t 36), none⟩⟩
 (.op ⟨2, true, [], ⟨some 38, .load true 3 (.t 5), some (37, true)⟩⟩
 (.op ⟨3, true, [], ⟨some 39, .load true 3 (.t 8), some (37, true)⟩⟩
 (.op ⟨5, true, [], ⟨some 41, .load true 3 (.t 2), some (37, true)⟩⟩
 (.op ⟨6, true, [], ⟨some 42, .load true 3 (.t 3), some (37, true)⟩⟩
 (.op ⟨4, false, [], ⟨some 40, .call 30 [(.t 38), (.t 39)], some (37, true)⟩⟩
 (.op ⟨7, false, [], ⟨some 43, .call 32 [(.t 41), (.t 42)], some (37, true)⟩⟩
 (.op ⟨8, false, [], ⟨some 44, .binb false (.t 40) (.t 43), some (37, true)⟩⟩
 (.op ⟨9, false, [], ⟨some 45, .pick (.t 37) (.t 44) (.b false), none⟩⟩
 (.op ⟨10, false, [], ⟨some 4, .mov (.t 45), none⟩⟩
 .nil))))))))))))
 .ret))))))⟩
theorem t_hydrantlaw07_SnapUnlike : trFn Try.prog 11 [([], (.exec 0 (.first 1 (.first 2 (.first 3 (.first 5 (.first 6 (.exec 4 (.exec 7 (.first 8 (.first 9 (.first 10 .nil))))))))))))] [] = some f_hydrantlaw07_SnapUnlike := by kernel_rfl

abbrev n_hydrantref08_Big : Nat := 12
theorem k_hydrantref08_Big : FnOk Try.prog 12 := FnOk.of (by kernel_rfl)
/-- hydrant/hydrantref08.Big -/
def f_hydrantref08_Big : FnI := ⟨68, [.tmp 2],
 (.seq (.reg [⟨some 1, .box 30 (.t 0), none⟩, ⟨some 2, .mov (.b false), none⟩])
 (.seq (.seq (.reg [⟨some 6, .fadr 0 (.t 1), none⟩, ⟨some 7, .load true 3 (.t 6), none⟩, ⟨some 8, .call 26 [(.t 7)], none⟩, ⟨some 9, .mov (.t 8), none⟩, ⟨some 10, .fadr 3 (.t 1), some (9, false)⟩, ⟨some 11, .load false 1 (.t 10), some (9, false)⟩, ⟨some 12, .len false (.t 11), some (9, false)⟩, ⟨some 13, .bini .gtr (.t 12) (.c (.int .i64 (20))), some (9, false)⟩, ⟨some 14, .pick (.t 9) (.b true) (.t 13), none⟩, ⟨some 15, .mov (.t 14), none⟩, ⟨some 16, .fadr 4 (.t 1), some (15, false)⟩, ⟨some 17, .load false 1 (.t 16), some (15, false)⟩, ⟨some 18, .len false (.t 17), some (15, false)⟩, ⟨some 19, .bini .gtr (.t 18) (.c (.int .i64 (5000))), some (15, false)⟩, ⟨some 20, .pick (.t 15) (.b true) (.t 19), none⟩])
 (.cond (.t 20)
 (.seq (.reg [⟨some 2, .mov (.b true), none⟩])
 .ret)
 .skip))
 (.seq (.seq (.reg [⟨some 3, .mov (.c (.int .i64 (0))), none⟩])
 (.block 0
 (.loop [3] [21, 22, 23, 24, 25, 28, 29, 30, 31, 32, 33, 34, 2, 4, 35, 36, 37, 38, 39, 40, 41, 42, 45, 46, 47, 48, 49, 50, 51, 52, 5, 53, 54, 55, 56, 57, 58, 59, 60, 61, 62, 63, 64, 65, 66, 67, 43, 44, 26, 27, 3]
 (.seq (.seq (.reg [⟨some 21, .mov (.t 3), none⟩, ⟨some 22, .fadr 3 (.t 1), none⟩, ⟨some 23, .load false 1 (.t 22), none⟩, ⟨some 24, .len false (.t 23), none⟩, ⟨some 25, .bini .lss (.t 21) (.t 24), none⟩])
 (.cond (.t 25)
 .skip
 (.exit 0)))
 (.seq (.block 1
 (.seq (.seq (.reg [⟨some 28, .fadr 3 (.t 1), none⟩, ⟨some 29, .load false 1 (.t 28), none⟩, ⟨some 30, .mov (.t 3), none⟩, ⟨some 31, .iadr 1 (.t 29) (.t 30), none⟩, ⟨some 32, .load false 1 (.t 31), none⟩, ⟨some 33, .len false (.t 32), none⟩, ⟨some 34, .bini .gtr (.t 33) (.c (.int .i64 (40))), none⟩])
 (.cond (.t 34)
 (.seq (.reg [⟨some 2, .mov (.b true), none⟩])
 .ret)
 .skip))
 (.seq (.reg [⟨some 4, .mov (.c (.int .i64 (0))), none⟩])
 (.block 2
 (.loop [4] [35, 36, 37, 38, 39, 40, 41, 42, 45, 46, 47, 48, 49, 50, 51, 52, 5, 53, 54, 55, 56, 57, 58, 59, 60, 61, 62, 63, 64, 65, 66, 67, 2, 43, 44, 4]
 (.seq (.seq (.reg [⟨some 35, .mov (.t 4), none⟩, ⟨some 36, .fadr 3 (.t 1), none⟩, ⟨some 37, .load false 1 (.t 36), none⟩, ⟨some 38, .mov (.t 3), none⟩, ⟨some 39, .iadr 1 (.t 37) (.t 38), none⟩, ⟨some 40, .load false 1 (.t 39), none⟩, ⟨some 41, .len false (.t 40), none⟩, ⟨some 42, .bini .lss (.t 35) (.t 41), none⟩])
 (.cond (.t 42)
 .skip
 (.exit 2)))
 (.seq (.block 3
 (.seq (.reg [⟨some 45, .fadr 3 (.t 1), none⟩, ⟨some 46, .load false 1 (.t 45), none⟩, ⟨some 47, .mov (.t 3), none⟩, ⟨some 48, .iadr 1 (.t 46) (.t 47), none⟩, ⟨some 49, .load false 1 (.t 48), none⟩, ⟨some 50, .mov (.t 4), none⟩, ⟨some 51, .iadr 10 (.t 49) (.t 50), none⟩, ⟨some 52, .load true 10 (.t 51), none⟩, ⟨some 5, .alloc 61 [(.v (.int .i64 (0))), (.v (.string ⟨#[]⟩)), (.v (.string ⟨#[]⟩)), (.v (.string ⟨#[]⟩)), (.v (.int .i64 (0))), (.v (.int .i64 (0))), (.v (.int .i64 (0))), (.v (.slice none 0 0)), (.v (.slice none 0 0)), (.v (.slice none 0 0))], none⟩, ⟨none, .store 10 (.t 5) (.t 52), none⟩])
 (.seq (.reg [⟨some 53, .fadr 7 (.t 5), none⟩, ⟨some 54, .load true 3 (.t 53), none⟩, ⟨some 55, .call 26 [(.t 54)], none⟩, ⟨some 56, .mov (.t 55), none⟩, ⟨some 57, .fadr 2 (.t 5), some (56, false)⟩, ⟨some 58, .load false 1 (.t 57), some (56, false)⟩, ⟨some 59, .len true (.t 58), some (56, false)⟩, ⟨some 60, .bini .gtr (.t 59) (.c (.int .i64 (100))), some (56, false)⟩, ⟨some 61, .pick (.t 56) (.b true) (.t 60), none⟩, ⟨some 62, .mov (.t 61), none⟩, ⟨some 63, .fadr 3 (.t 5), some (62, false)⟩, ⟨some 64, .load false 1 (.t 63), some (62, false)⟩, ⟨some 65, .len true (.t 64), some (62, false)⟩, ⟨some 66, .bini .gtr (.t 65) (.c (.int .i64 (100))), some (62, false)⟩, ⟨some 67, .pick (.t 62) (.b true) (.t 66), none⟩])
 (.cond (.t 67)
 (.seq (.reg [⟨some 2, .mov (.b true), none⟩])
 .ret)
 .skip))))
 (.reg [⟨some 43, .mov (.t 4), none⟩, ⟨some 44, .bini .add (.t 43) (.c (.int .i64 (1))), none⟩, ⟨some 4, .mov (.t 44), none⟩]))))))))
 (.reg [⟨some 26, .mov (.t 3), none⟩, ⟨some 27, .bini .add (.t 26) (.c (.int .i64 (1))), none⟩, ⟨some 3, .mov (.t 27), none⟩]))))))
 (.seq (.reg [⟨some 2, .mov (.b false), none⟩])
 .ret))))⟩
theorem t_hydrantref08_Big : trFn Try.prog 12 [] [[3], [4]] = some f_hydrantref08_Big := by kernel_rfl

abbrev n_hydrantlaw08_written : Nat := 13
theorem k_hydrantlaw08_written : FnOk Try.prog 13 := FnOk.of (by kernel_rfl)
/-- hydrant/hydrantlaw08.written -/
def f_hydrantlaw08_written : FnI := ⟨107, [.tmp 0],
 (.seq (.reg [⟨some 0, .mov (.b false), none⟩])
 (.seq (.reg [⟨some 13, .call 36 [], none⟩, ⟨some 1, .alloc 30 [(.v (.slice none 0 0)), (.v (.slice none 0 0)), (.v (.slice none 0 0)), (.v (.slice none 0 0)), (.v (.slice none 0 0))], none⟩, ⟨none, .store 5 (.t 1) (.t 13), none⟩])
 (.seq (.reg [⟨some 15, .fadr 4 (.t 1), none⟩, ⟨some 16, .load false 1 (.t 15), none⟩, ⟨some 17, .call 19 [(.t 16)], none⟩, ⟨some 14, .mov (.t 17), none⟩, ⟨some 18, .ext 0 (.t 14), none⟩, ⟨some 19, .ext 1 (.t 14), none⟩, ⟨some 2, .mov (.t 18), none⟩, ⟨some 3, .mov (.t 19), none⟩])
 (.seq (.reg [⟨some 21, .mov (.t 2), none⟩, ⟨some 22, .call 21 [(.t 21)], none⟩, ⟨some 20, .mov (.t 22), none⟩, ⟨some 23, .ext 0 (.t 20), none⟩, ⟨some 24, .ext 1 (.t 20), none⟩, ⟨some 4, .mov (.t 23), none⟩, ⟨some 5, .mov (.t 24), none⟩])
 (.seq (.reg [⟨some 26, .bsl 3 1 1 [(.v (.int .i64 (0)))] [(0, 1, (.c (.int .i64 (-1))))], none⟩, ⟨some 27, .call 19 [(.t 26)], none⟩, ⟨some 25, .mov (.t 27), none⟩, ⟨some 28, .ext 0 (.t 25), none⟩, ⟨some 29, .ext 1 (.t 25), none⟩, ⟨some 6, .mov (.t 28), none⟩, ⟨some 7, .mov (.t 29), none⟩])
 (.seq (.reg [⟨some 31, .bsl 5 1 1 [(.v (.int .u8 (0)))] [(0, 1, (.c (.int .u8 (128))))], none⟩, ⟨some 32, .call 21 [(.t 31)], none⟩, ⟨some 30, .mov (.t 32), none⟩, ⟨some 33, .ext 0 (.t 30), none⟩, ⟨some 34, .ext 1 (.t 30), none⟩, ⟨some 8, .mov (.t 33), none⟩, ⟨some 9, .mov (.t 34), none⟩])
 (.seq (.reg [⟨some 36, .bsl 5 1 2 [(.v (.int .u8 (0))), (.v (.int .u8 (0)))] [(0, 1, (.c (.int .u8 (128)))), (1, 1, (.c (.int .u8 (0))))], none⟩, ⟨some 37, .call 21 [(.t 36)], none⟩, ⟨some 35, .mov (.t 37), none⟩, ⟨some 38, .ext 0 (.t 35), none⟩, ⟨some 39, .ext 1 (.t 35), none⟩, ⟨some 10, .mov (.t 38), none⟩, ⟨some 11, .mov (.t 39), none⟩])
 (.seq (.reg [⟨some 40, .load true 5 (.t 1), none⟩, ⟨some 12, .alloc 30 [(.v (.slice none 0 0)), (.v (.slice none 0 0)), (.v (.slice none 0 0)), (.v (.slice none 0 0)), (.v (.slice none 0 0))], none⟩, ⟨none, .store 5 (.t 12) (.t 40), none⟩])
 (.seq (.reg [⟨some 41, .bsl 3 1 1 [(.v (.int .i64 (0)))] [(0, 1, (.c (.int .i64 (-1))))], none⟩, ⟨some 42, .fadr 4 (.t 12), none⟩, ⟨none, .store 1 (.t 42) (.t 41), none⟩])
 (.seq (.reg [⟨some 43, .load true 5 (.t 1), none⟩, ⟨some 44, .call 14 [(.t 43)], none⟩, ⟨some 45, .mov (.t 44), none⟩, ⟨some 46, .load true 5 (.t 12), some (45, true)⟩, ⟨some 47, .call 14 [(.t 46)], some (45, true)⟩, ⟨some 48, .not (.t 47), some (45, true)⟩, ⟨some 49, .pick (.t 45) (.t 48) (.b false), none⟩, ⟨some 50, .mov (.t 49), none⟩, ⟨some 51, .load true 5 (.t 1), some (50, true)⟩, ⟨some 52, .call 17 [(.t 51)], some (50, true)⟩, ⟨some 53, .bsl 9 1 2 [(.v (.string ⟨#[]⟩)), (.v (.string ⟨#[]⟩))] [(0, 1, (.c (.string ⟨#[105, 110]⟩))), (1, 1, (.c (.string ⟨#[119, 101, 98]⟩)))], some (50, true)⟩, ⟨some 54, .call 16 [(.t 52), (.t 53)], some (50, true)⟩, ⟨some 55, .pick (.t 50) (.t 54) (.b false), none⟩, ⟨some 56, .mov (.t 55), none⟩, ⟨some 57, .mov (.t 3), some (56, true)⟩, ⟨some 58, .bini .eql (.t 57) (.c (.int .i64 (0))), some (56, true)⟩, ⟨some 59, .pick (.t 56) (.t 58) (.b false), none⟩, ⟨some 60, .mov (.t 59), none⟩, ⟨some 61, .mov (.t 2), some (60, true)⟩, ⟨some 62, .len false (.t 61), some (60, true)⟩, ⟨some 63, .bini .eql (.t 62) (.c (.int .i64 (3))), some (60, true)⟩, ⟨some 64, .pick (.t 60) (.t 63) (.b false), none⟩, ⟨some 65, .mov (.t 64), none⟩, ⟨some 66, .mov (.t 2), some (65, true)⟩, ⟨some 67, .iadr 1 (.t 66) (.c (.int .i64 (0))), some (65, true)⟩, ⟨some 68, .load false 1 (.t 67), some (65, true)⟩, ⟨some 69, .bini .eql (.t 68) (.c (.int .u8 (0))), some (65, true)⟩, ⟨some 70, .pick (.t 65) (.t 69) (.b false), none⟩, ⟨some 71, .mov (.t 70), none⟩, ⟨some 72, .mov (.t 2), some (71, true)⟩, ⟨some 73, .iadr 1 (.t 72) (.c (.int .i64 (1))), some (71, true)⟩, ⟨some 74, .load false 1 (.t 73), some (71, true)⟩, ⟨some 75, .bini .eql (.t 74) (.c (.int .u8 (172))), some (71, true)⟩, ⟨some 76, .pick (.t 71) (.t 75) (.b false), none⟩, ⟨some 77, .mov (.t 76), none⟩, ⟨some 78, .mov (.t 2), some (77, true)⟩, ⟨some 79, .iadr 1 (.t 78) (.c (.int .i64 (2))), some (77, true)⟩, ⟨some 80, .load false 1 (.t 79), some (77, true)⟩, ⟨some 81, .bini .eql (.t 80) (.c (.int .u8 (2))), some (77, true)⟩, ⟨some 82, .pick (.t 77) (.t 81) (.b false), none⟩, ⟨some 83, .mov (.t 82), none⟩, ⟨some 84, .mov (.t 5), some (83, true)⟩, ⟨some 85, .mov (.t 3), some (83, true)⟩, ⟨some 86, .bini .eql (.t 84) (.t 85), some (83, true)⟩, ⟨some 87, .pick (.t 83) (.t 86) (.b false), none⟩, ⟨some 88, .mov (.t 87), none⟩, ⟨some 89, .mov (.t 4), some (88, true)⟩, ⟨some 90, .fadr 4 (.t 1), some (88, true)⟩, ⟨some 91, .load false 1 (.t 90), some (88, true)⟩, ⟨some 92, .call 24 [(.t 89), (.t 91)], some (88, true)⟩, ⟨some 93, .pick (.t 88) (.t 92) (.b false), none⟩, ⟨some 94, .mov (.t 93), none⟩, ⟨some 95, .mov (.t 7), some (94, true)⟩, ⟨some 96, .bini .eql (.t 95) (.c (.int .i64 (1))), some (94, true)⟩, ⟨some 97, .pick (.t 94) (.t 96) (.b false), none⟩, ⟨some 98, .mov (.t 97), none⟩, ⟨some 99, .mov (.t 9), some (98, true)⟩, ⟨some 100, .bini .eql (.t 99) (.c (.int .i64 (11))), some (98, true)⟩, ⟨some 101, .pick (.t 98) (.t 100) (.b false), none⟩, ⟨some 102, .mov (.t 101), none⟩, ⟨some 103, .mov (.t 11), some (102, true)⟩, ⟨some 104, .mov (.t 9), some (102, true)⟩, ⟨some 105, .bini .eql (.t 103) (.t 104), some (102, true)⟩, ⟨some 106, .pick (.t 102) (.t 105) (.b false), none⟩, ⟨some 0, .mov (.t 106), none⟩])
 .ret))))))))))⟩
theorem t_hydrantlaw08_written : trFn Try.prog 13 [] [] = some f_hydrantlaw08_written := by kernel_rfl

abbrev n_script_Is : Nat := 14
theorem k_script_Is : FnOk Try.prog 14 := FnOk.of (by kernel_rfl)
/-- hydrant/script.Is -/
def f_script_Is : FnI := ⟨46, [.tmp 2],
 (.seq (.reg [⟨some 1, .box 30 (.t 0), none⟩, ⟨some 2, .mov (.b false), none⟩])
 (.seq (.seq (.reg [⟨some 5, .fadr 0 (.t 1), none⟩, ⟨some 6, .load true 3 (.t 5), none⟩, ⟨some 7, .call 37 [(.t 6)], none⟩, ⟨some 8, .not (.t 7), none⟩, ⟨some 9, .mov (.t 8), none⟩, ⟨some 10, .fadr 3 (.t 1), some (9, false)⟩, ⟨some 11, .load false 1 (.t 10), some (9, false)⟩, ⟨some 12, .len false (.t 11), some (9, false)⟩, ⟨some 13, .bini .lss (.t 12) (.c (.int .i64 (1))), some (9, false)⟩, ⟨some 14, .pick (.t 9) (.b true) (.t 13), none⟩, ⟨some 15, .mov (.t 14), none⟩, ⟨some 16, .fadr 3 (.t 1), some (15, false)⟩, ⟨some 17, .load false 1 (.t 16), some (15, false)⟩, ⟨some 18, .len false (.t 17), some (15, false)⟩, ⟨some 19, .bini .gtr (.t 18) (.c (.int .i64 (8))), some (15, false)⟩, ⟨some 20, .pick (.t 15) (.b true) (.t 19), none⟩, ⟨some 21, .mov (.t 20), none⟩, ⟨some 22, .fadr 4 (.t 1), some (21, false)⟩, ⟨some 23, .load false 1 (.t 22), some (21, false)⟩, ⟨some 24, .len false (.t 23), some (21, false)⟩, ⟨some 25, .bini .gtr (.t 24) (.c (.int .i64 (4000))), some (21, false)⟩, ⟨some 26, .pick (.t 21) (.b true) (.t 25), none⟩])
 (.cond (.t 26)
 (.seq (.reg [⟨some 2, .mov (.b false), none⟩])
 .ret)
 .skip))
 (.seq (.seq (.reg [⟨some 27, .fadr 3 (.t 1), none⟩, ⟨some 28, .load false 1 (.t 27), none⟩, ⟨some 29, .len false (.t 28), none⟩, ⟨some 30, .mov (.c (.int .i64 (0))), none⟩])
 (.block 0
 (.loop [30] [31, 32, 33, 4, 34, 35, 36, 37, 38, 39, 40, 2, 41, 30]
 (.seq (.reg [⟨some 31, .bini .lss (.t 30) (.t 29), none⟩])
 (.seq (.cond (.t 31)
 .skip
 (.exit 0))
 (.seq (.block 1
 (.seq (.reg [⟨some 32, .iadr 1 (.t 28) (.t 30), none⟩, ⟨some 33, .load false 1 (.t 32), none⟩, ⟨some 4, .mov (.t 33), none⟩])
 (.seq (.reg [⟨some 34, .mov (.t 4), none⟩, ⟨some 35, .len false (.t 34), none⟩, ⟨some 36, .bini .gtr (.t 35) (.c (.int .i64 (16))), none⟩, ⟨some 37, .mov (.t 36), none⟩, ⟨some 38, .mov (.t 4), some (37, false)⟩, ⟨some 39, .call 38 [(.t 38), (.c (.func (.func 39) #[] #[]))], some (37, false)⟩, ⟨some 40, .pick (.t 37) (.b true) (.t 39), none⟩])
 (.cond (.t 40)
 (.seq (.reg [⟨some 2, .mov (.b false), none⟩])
 .ret)
 .skip))))
 (.reg [⟨some 41, .bini .add (.t 30) (.c (.int .i64 (1))), none⟩, ⟨some 30, .mov (.t 41), none⟩])))))))
 (.seq (.reg [⟨some 42, .fadr 4 (.t 1), none⟩, ⟨some 43, .load false 1 (.t 42), none⟩, ⟨some 44, .call 40 [(.t 43), (.c (.func (.func 41) #[] #[]))], none⟩, ⟨some 45, .not (.t 44), none⟩, ⟨some 2, .mov (.t 45), none⟩])
 .ret))))⟩
theorem t_script_Is : trFn Try.prog 14 [] [[30]] = some f_script_Is := by kernel_rfl

abbrev n_hydrantref08_Is : Nat := 15
theorem k_hydrantref08_Is : FnOk Try.prog 15 := FnOk.of (by kernel_rfl)
/-- hydrant/hydrantref08.Is -/
def f_hydrantref08_Is : FnI := ⟨93, [.tmp 2],
 (.seq (.reg [⟨some 1, .box 30 (.t 0), none⟩, ⟨some 2, .mov (.b false), none⟩])
 (.seq (.reg [⟨some 9, .fadr 0 (.t 1), none⟩, ⟨some 10, .load true 3 (.t 9), none⟩, ⟨some 11, .call 42 [(.t 10)], none⟩, ⟨some 8, .mov (.t 11), none⟩, ⟨some 12, .ext 0 (.t 8), none⟩, ⟨some 13, .ext 1 (.t 8), none⟩, ⟨some 3, .mov (.t 12), none⟩, ⟨some 4, .mov (.t 13), none⟩])
 (.seq (.seq (.reg [⟨some 14, .mov (.t 3), none⟩, ⟨some 15, .bini .neq (.t 14) (.c (.int .i64 (0))), none⟩, ⟨some 16, .mov (.t 15), none⟩, ⟨some 17, .fadr 3 (.t 1), some (16, false)⟩, ⟨some 18, .load false 1 (.t 17), some (16, false)⟩, ⟨some 19, .len false (.t 18), some (16, false)⟩, ⟨some 20, .bini .lss (.t 19) (.c (.int .i64 (1))), some (16, false)⟩, ⟨some 21, .pick (.t 16) (.b true) (.t 20), none⟩, ⟨some 22, .mov (.t 21), none⟩, ⟨some 23, .fadr 3 (.t 1), some (22, false)⟩, ⟨some 24, .load false 1 (.t 23), some (22, false)⟩, ⟨some 25, .len false (.t 24), some (22, false)⟩, ⟨some 26, .bini .gtr (.t 25) (.c (.int .i64 (8))), some (22, false)⟩, ⟨some 27, .pick (.t 22) (.b true) (.t 26), none⟩, ⟨some 28, .mov (.t 27), none⟩, ⟨some 29, .fadr 4 (.t 1), some (28, false)⟩, ⟨some 30, .load false 1 (.t 29), some (28, false)⟩, ⟨some 31, .len false (.t 30), some (28, false)⟩, ⟨some 32, .bini .gtr (.t 31) (.c (.int .i64 (4000))), some (28, false)⟩, ⟨some 33, .pick (.t 28) (.b true) (.t 32), none⟩])
 (.cond (.t 33)
 (.seq (.reg [⟨some 2, .mov (.b false), none⟩])
 .ret)
 .skip))
 (.seq (.seq (.reg [⟨some 5, .mov (.c (.int .i64 (0))), none⟩])
 (.block 0
 (.loop [5] [34, 35, 36, 37, 38, 41, 42, 43, 44, 45, 46, 47, 2, 6, 48, 49, 50, 51, 52, 53, 54, 55, 58, 59, 60, 61, 62, 63, 64, 65, 66, 67, 68, 69, 70, 71, 72, 73, 74, 75, 76, 77, 78, 79, 56, 57, 39, 40, 5]
 (.seq (.seq (.reg [⟨some 34, .mov (.t 5), none⟩, ⟨some 35, .fadr 3 (.t 1), none⟩, ⟨some 36, .load false 1 (.t 35), none⟩, ⟨some 37, .len false (.t 36), none⟩, ⟨some 38, .bini .lss (.t 34) (.t 37), none⟩])
 (.cond (.t 38)
 .skip
 (.exit 0)))
 (.seq (.block 1
 (.seq (.seq (.reg [⟨some 41, .fadr 3 (.t 1), none⟩, ⟨some 42, .load false 1 (.t 41), none⟩, ⟨some 43, .mov (.t 5), none⟩, ⟨some 44, .iadr 1 (.t 42) (.t 43), none⟩, ⟨some 45, .load false 1 (.t 44), none⟩, ⟨some 46, .len false (.t 45), none⟩, ⟨some 47, .bini .gtr (.t 46) (.c (.int .i64 (16))), none⟩])
 (.cond (.t 47)
 (.seq (.reg [⟨some 2, .mov (.b false), none⟩])
 .ret)
 .skip))
 (.seq (.reg [⟨some 6, .mov (.c (.int .i64 (0))), none⟩])
 (.block 2
 (.loop [6] [48, 49, 50, 51, 52, 53, 54, 55, 58, 59, 60, 61, 62, 63, 64, 65, 66, 67, 68, 69, 70, 71, 72, 73, 74, 75, 76, 77, 78, 79, 2, 56, 57, 6]
 (.seq (.seq (.reg [⟨some 48, .mov (.t 6), none⟩, ⟨some 49, .fadr 3 (.t 1), none⟩, ⟨some 50, .load false 1 (.t 49), none⟩, ⟨some 51, .mov (.t 5), none⟩, ⟨some 52, .iadr 1 (.t 50) (.t 51), none⟩, ⟨some 53, .load false 1 (.t 52), none⟩, ⟨some 54, .len false (.t 53), none⟩, ⟨some 55, .bini .lss (.t 48) (.t 54), none⟩])
 (.cond (.t 55)
 .skip
 (.exit 2)))
 (.seq (.block 3
 (.seq (.reg [⟨some 58, .fadr 3 (.t 1), none⟩, ⟨some 59, .load false 1 (.t 58), none⟩, ⟨some 60, .mov (.t 5), none⟩, ⟨some 61, .iadr 1 (.t 59) (.t 60), none⟩, ⟨some 62, .load false 1 (.t 61), none⟩, ⟨some 63, .mov (.t 6), none⟩, ⟨some 64, .iadr 10 (.t 62) (.t 63), none⟩, ⟨some 65, .fadr 0 (.t 64), none⟩, ⟨some 66, .load false 1 (.t 65), none⟩, ⟨some 67, .bini .lss (.t 66) (.c (.int .i64 (1))), none⟩, ⟨some 68, .mov (.t 67), none⟩, ⟨some 69, .fadr 3 (.t 1), some (68, false)⟩, ⟨some 70, .load false 1 (.t 69), some (68, false)⟩, ⟨some 71, .mov (.t 5), some (68, false)⟩, ⟨some 72, .iadr 1 (.t 70) (.t 71), some (68, false)⟩, ⟨some 73, .load false 1 (.t 72), some (68, false)⟩, ⟨some 74, .mov (.t 6), some (68, false)⟩, ⟨some 75, .iadr 10 (.t 73) (.t 74), some (68, false)⟩, ⟨some 76, .fadr 0 (.t 75), some (68, false)⟩, ⟨some 77, .load false 1 (.t 76), some (68, false)⟩, ⟨some 78, .bini .gtr (.t 77) (.c (.int .i64 (6))), some (68, false)⟩, ⟨some 79, .pick (.t 68) (.b true) (.t 78), none⟩])
 (.cond (.t 79)
 (.seq (.reg [⟨some 2, .mov (.b false), none⟩])
 .ret)
 .skip)))
 (.reg [⟨some 56, .mov (.t 6), none⟩, ⟨some 57, .bini .add (.t 56) (.c (.int .i64 (1))), none⟩, ⟨some 6, .mov (.t 57), none⟩]))))))))
 (.reg [⟨some 39, .mov (.t 5), none⟩, ⟨some 40, .bini .add (.t 39) (.c (.int .i64 (1))), none⟩, ⟨some 5, .mov (.t 40), none⟩]))))))
 (.seq (.seq (.reg [⟨some 7, .mov (.c (.int .i64 (0))), none⟩])
 (.block 4
 (.loop [7] [80, 81, 82, 83, 84, 87, 88, 89, 90, 91, 92, 2, 85, 86, 7]
 (.seq (.seq (.reg [⟨some 80, .mov (.t 7), none⟩, ⟨some 81, .fadr 4 (.t 1), none⟩, ⟨some 82, .load false 1 (.t 81), none⟩, ⟨some 83, .len false (.t 82), none⟩, ⟨some 84, .bini .lss (.t 80) (.t 83), none⟩])
 (.cond (.t 84)
 .skip
 (.exit 4)))
 (.seq (.block 5
 (.seq (.reg [⟨some 87, .fadr 4 (.t 1), none⟩, ⟨some 88, .load false 1 (.t 87), none⟩, ⟨some 89, .mov (.t 7), none⟩, ⟨some 90, .iadr 1 (.t 88) (.t 89), none⟩, ⟨some 91, .load false 1 (.t 90), none⟩, ⟨some 92, .bini .lss (.t 91) (.c (.int .i64 (0))), none⟩])
 (.cond (.t 92)
 (.seq (.reg [⟨some 2, .mov (.b false), none⟩])
 .ret)
 .skip)))
 (.reg [⟨some 85, .mov (.t 7), none⟩, ⟨some 86, .bini .add (.t 85) (.c (.int .i64 (1))), none⟩, ⟨some 7, .mov (.t 86), none⟩]))))))
 (.seq (.reg [⟨some 2, .mov (.b true), none⟩])
 .ret))))))⟩
theorem t_hydrantref08_Is : trFn Try.prog 15 [] [[5], [6], [7]] = some f_hydrantref08_Is := by kernel_rfl

abbrev n_hydrantref03_Same : Nat := 16
theorem k_hydrantref03_Same : FnOk Try.prog 16 := FnOk.of (by kernel_rfl)
/-- hydrant/hydrantref03.Same -/
def f_hydrantref03_Same : FnI := ⟨26, [.tmp 4],
 (.seq (.reg [⟨some 4, .mov (.b false), none⟩])
 (.seq (.seq (.reg [⟨some 6, .mov (.t 0), none⟩, ⟨some 7, .len false (.t 6), none⟩, ⟨some 8, .mov (.t 1), none⟩, ⟨some 9, .len false (.t 8), none⟩, ⟨some 10, .bini .neq (.t 7) (.t 9), none⟩])
 (.cond (.t 10)
 (.seq (.reg [⟨some 4, .mov (.b false), none⟩])
 .ret)
 .skip))
 (.seq (.seq (.reg [⟨some 5, .mov (.c (.int .i64 (0))), none⟩])
 (.block 0
 (.loop [5] [11, 12, 13, 14, 17, 18, 19, 20, 21, 22, 23, 24, 25, 4, 15, 16, 5]
 (.seq (.seq (.reg [⟨some 11, .mov (.t 5), none⟩, ⟨some 12, .mov (.t 0), none⟩, ⟨some 13, .len false (.t 12), none⟩, ⟨some 14, .bini .lss (.t 11) (.t 13), none⟩])
 (.cond (.t 14)
 .skip
 (.exit 0)))
 (.seq (.block 1
 (.seq (.regD [] (.op ⟨0, false, [], ⟨some 17, .mov (.t 0), none⟩⟩
 (.op ⟨1, false, [], ⟨some 18, .mov (.t 5), none⟩⟩
 (.op ⟨2, true, [], ⟨some 19, .iadr 1 (.t 17) (.t 18), none⟩⟩
 (.op ⟨3, true, [], ⟨some 20, .load false 1 (.t 19), none⟩⟩
 (.op ⟨4, false, [], ⟨some 21, .mov (.t 1), none⟩⟩
 (.op ⟨5, false, [], ⟨some 22, .mov (.t 5), none⟩⟩
 (.op ⟨6, true, [], ⟨some 23, .iadr 1 (.t 21) (.t 22), none⟩⟩
 (.op ⟨7, true, [], ⟨some 24, .load false 1 (.t 23), none⟩⟩
 (.op ⟨8, false, [], ⟨some 25, .bins .neq (.t 20) (.t 24), none⟩⟩
 .nil))))))))))
 (.cond (.t 25)
 (.seq (.reg [⟨some 4, .mov (.b false), none⟩])
 .ret)
 .skip)))
 (.reg [⟨some 15, .mov (.t 5), none⟩, ⟨some 16, .bini .add (.t 15) (.c (.int .i64 (1))), none⟩, ⟨some 5, .mov (.t 16), none⟩]))))))
 (.seq (.reg [⟨some 4, .mov (.b true), none⟩])
 .ret))))⟩
theorem t_hydrantref03_Same : trFn Try.prog 16 [([], (.first 0 (.first 1 (.first 2 (.first 3 (.first 4 (.first 5 (.first 6 (.first 7 (.first 8 .nil))))))))))] [[5]] = some f_hydrantref03_Same := by kernel_rfl

abbrev n_script_Names : Nat := 17
theorem k_script_Names : FnOk Try.prog 17 := FnOk.of (by kernel_rfl)
/-- hydrant/script.Names -/
def f_script_Names : FnI := ⟨27, [.tmp 2],
 (.seq (.reg [⟨some 1, .box 30 (.t 0), none⟩, ⟨some 2, .mov (.c (.slice none 0 0)), none⟩])
 (.seq (.reg [⟨some 3, .alloc 22 [(.v (.slice none 0 0))], none⟩])
 (.seq (.seq (.reg [⟨some 7, .load true 5 (.t 1), none⟩, ⟨some 8, .call 43 [(.t 7)], none⟩])
 (.block 0
 (.rfun (.t 8) [9]
 (.reg [⟨some 4, .alloc 26 [(.v (.slice none 0 0)), (.v (.slice none 0 0)), (.v (.slice none 0 0))], none⟩, ⟨none, .store 3 (.t 4) (.t 9), none⟩])
 (.block 1
 (.seq (.reg [⟨some 10, .fadr 0 (.t 4), none⟩, ⟨some 11, .load false 1 (.t 10), none⟩, ⟨some 12, .len false (.t 11), none⟩, ⟨some 13, .mov (.c (.int .i64 (0))), none⟩])
 (.block 2
 (.loop [13] [14, 15, 16, 6, 17, 18, 19, 20, 21, 22, 23, 24, 25, 13]
 (.seq (.reg [⟨some 14, .bini .lss (.t 13) (.t 12), none⟩])
 (.seq (.cond (.t 14)
 .skip
 (.exit 2))
 (.seq (.block 3
 (.seq (.reg [⟨some 15, .iadr 1 (.t 11) (.t 13), none⟩, ⟨some 16, .load false 1 (.t 15), none⟩, ⟨some 6, .mov (.t 16), none⟩])
 (.seq (.reg [⟨some 17, .load false 1 (.t 3), none⟩, ⟨some 18, .mov (.t 6), none⟩, ⟨some 19, .call 44 [(.t 17), (.t 18)], none⟩, ⟨some 20, .not (.t 19), none⟩])
 (.cond (.t 20)
 (.reg [⟨some 21, .load false 1 (.t 3), none⟩, ⟨some 22, .mov (.t 6), none⟩, ⟨some 23, .bsl 9 1 1 [(.v (.string ⟨#[]⟩))] [(0, 1, (.t 22))], none⟩, ⟨some 24, .app 9 1 16 (.t 21) (.t 23), none⟩, ⟨none, .store 1 (.t 3) (.t 24), none⟩])
 .skip))))
 (.reg [⟨some 25, .bini .add (.t 13) (.c (.int .i64 (1))), none⟩, ⟨some 13, .mov (.t 25), none⟩])))))))))))
 (.seq (.reg [⟨some 26, .load false 1 (.t 3), none⟩, ⟨some 2, .mov (.t 26), none⟩])
 .ret))))⟩
theorem t_script_Names : trFn Try.prog 17 [] [[13]] = some f_script_Names := by kernel_rfl

abbrev n_hydrantref08_Names : Nat := 18
theorem k_hydrantref08_Names : FnOk Try.prog 18 := FnOk.of (by kernel_rfl)
/-- hydrant/hydrantref08.Names -/
def f_hydrantref08_Names : FnI := ⟨58, [.tmp 2],
 (.seq (.reg [⟨some 1, .box 30 (.t 0), none⟩, ⟨some 2, .mov (.c (.slice none 0 0)), none⟩])
 (.seq (.reg [⟨some 9, .bsl 9 1 0 [] [], none⟩, ⟨some 10, .fadr 0 (.t 1), none⟩, ⟨some 11, .fadr 0 (.t 10), none⟩, ⟨some 12, .load false 1 (.t 11), none⟩, ⟨some 13, .call 45 [(.t 9), (.t 12)], none⟩, ⟨some 3, .mov (.t 13), none⟩])
 (.seq (.seq (.reg [⟨some 4, .mov (.c (.int .i64 (0))), none⟩])
 (.block 0
 (.loop [3, 4] [14, 15, 16, 17, 18, 5, 21, 22, 23, 24, 25, 26, 27, 28, 31, 32, 33, 34, 35, 36, 37, 38, 6, 40, 41, 42, 39, 43, 44, 7, 8, 45, 46, 47, 48, 49, 50, 51, 52, 53, 54, 55, 56, 3, 29, 30, 19, 20, 4]
 (.seq (.seq (.reg [⟨some 14, .mov (.t 4), none⟩, ⟨some 15, .fadr 3 (.t 1), none⟩, ⟨some 16, .load false 1 (.t 15), none⟩, ⟨some 17, .len false (.t 16), none⟩, ⟨some 18, .bini .lss (.t 14) (.t 17), none⟩])
 (.cond (.t 18)
 .skip
 (.exit 0)))
 (.seq (.block 1
 (.seq (.reg [⟨some 5, .mov (.c (.int .i64 (0))), none⟩])
 (.block 2
 (.loop [3, 5] [21, 22, 23, 24, 25, 26, 27, 28, 31, 32, 33, 34, 35, 36, 37, 38, 6, 40, 41, 42, 39, 43, 44, 7, 8, 45, 46, 47, 48, 49, 50, 51, 52, 53, 54, 55, 56, 3, 29, 30, 5]
 (.seq (.seq (.reg [⟨some 21, .mov (.t 5), none⟩, ⟨some 22, .fadr 3 (.t 1), none⟩, ⟨some 23, .load false 1 (.t 22), none⟩, ⟨some 24, .mov (.t 4), none⟩, ⟨some 25, .iadr 1 (.t 23) (.t 24), none⟩, ⟨some 26, .load false 1 (.t 25), none⟩, ⟨some 27, .len false (.t 26), none⟩, ⟨some 28, .bini .lss (.t 21) (.t 27), none⟩])
 (.cond (.t 28)
 .skip
 (.exit 2)))
 (.seq (.block 3
 (.seq (.reg [⟨some 31, .fadr 3 (.t 1), none⟩, ⟨some 32, .load false 1 (.t 31), none⟩, ⟨some 33, .mov (.t 4), none⟩, ⟨some 34, .iadr 1 (.t 32) (.t 33), none⟩, ⟨some 35, .load false 1 (.t 34), none⟩, ⟨some 36, .mov (.t 5), none⟩, ⟨some 37, .iadr 10 (.t 35) (.t 36), none⟩, ⟨some 38, .load true 10 (.t 37), none⟩, ⟨some 6, .alloc 61 [(.v (.int .i64 (0))), (.v (.string ⟨#[]⟩)), (.v (.string ⟨#[]⟩)), (.v (.string ⟨#[]⟩)), (.v (.int .i64 (0))), (.v (.int .i64 (0))), (.v (.int .i64 (0))), (.v (.slice none 0 0)), (.v (.slice none 0 0)), (.v (.slice none 0 0))], none⟩, ⟨none, .store 10 (.t 6) (.t 38), none⟩])
 (.seq (.reg [⟨some 40, .fadr 7 (.t 6), none⟩, ⟨some 41, .load true 3 (.t 40), none⟩, ⟨some 42, .call 42 [(.t 41)], none⟩, ⟨some 39, .mov (.t 42), none⟩, ⟨some 43, .ext 0 (.t 39), none⟩, ⟨some 44, .ext 1 (.t 39), none⟩, ⟨some 7, .mov (.t 43), none⟩, ⟨some 8, .mov (.t 44), none⟩])
 (.seq (.reg [⟨some 45, .fadr 0 (.t 6), none⟩, ⟨some 46, .load false 1 (.t 45), none⟩, ⟨some 47, .bini .eql (.t 46) (.c (.int .i64 (3))), none⟩, ⟨some 48, .mov (.t 47), none⟩, ⟨some 49, .mov (.t 7), some (48, true)⟩, ⟨some 50, .bini .eql (.t 49) (.c (.int .i64 (0))), some (48, true)⟩, ⟨some 51, .pick (.t 48) (.t 50) (.b false), none⟩])
 (.cond (.t 51)
 (.reg [⟨some 52, .mov (.t 3), none⟩, ⟨some 53, .fadr 7 (.t 6), none⟩, ⟨some 54, .fadr 0 (.t 53), none⟩, ⟨some 55, .load false 1 (.t 54), none⟩, ⟨some 56, .call 45 [(.t 52), (.t 55)], none⟩, ⟨some 3, .mov (.t 56), none⟩])
 .skip)))))
 (.reg [⟨some 29, .mov (.t 5), none⟩, ⟨some 30, .bini .add (.t 29) (.c (.int .i64 (1))), none⟩, ⟨some 5, .mov (.t 30), none⟩])))))))
 (.reg [⟨some 19, .mov (.t 4), none⟩, ⟨some 20, .bini .add (.t 19) (.c (.int .i64 (1))), none⟩, ⟨some 4, .mov (.t 20), none⟩]))))))
 (.seq (.reg [⟨some 57, .mov (.t 3), none⟩, ⟨some 2, .mov (.t 57), none⟩])
 .ret))))⟩
theorem t_hydrantref08_Names : trFn Try.prog 18 [] [[3, 4], [3, 5]] = some f_hydrantref08_Names := by kernel_rfl

abbrev n_script_Bytes : Nat := 19
theorem k_script_Bytes : FnOk Try.prog 19 := FnOk.of (by kernel_rfl)
/-- hydrant/script.Bytes -/
def f_script_Bytes : FnI := ⟨35, [.tmp 2, .tmp 3],
 (.seq (.reg [⟨some 2, .mov (.c (.slice none 0 0)), none⟩, ⟨some 3, .mov (.c (.int .i64 (0))), none⟩])
 (.seq (.seq (.reg [⟨some 7, .mov (.t 0), none⟩, ⟨some 8, .len false (.t 7), none⟩, ⟨some 9, .bini .gtr (.t 8) (.c (.int .i64 (4000))), none⟩])
 (.cond (.t 9)
 (.seq (.reg [⟨some 2, .mov (.c (.slice none 0 0)), none⟩, ⟨some 3, .mov (.c (.int .i64 (6))), none⟩])
 .ret)
 .skip))
 (.seq (.reg [⟨some 4, .mov (.c (.slice none 0 0)), none⟩])
 (.seq (.seq (.reg [⟨some 10, .mov (.t 0), none⟩, ⟨some 11, .len false (.t 10), none⟩, ⟨some 12, .mov (.c (.int .i64 (0))), none⟩])
 (.block 0
 (.loop [4, 12] [13, 14, 15, 6, 16, 17, 2, 3, 18, 19, 22, 23, 24, 25, 26, 27, 4, 20, 21, 28, 29, 30, 31, 32, 33, 12]
 (.seq (.reg [⟨some 13, .bini .lss (.t 12) (.t 11), none⟩])
 (.seq (.cond (.t 13)
 .skip
 (.exit 0))
 (.seq (.block 1
 (.seq (.reg [⟨some 14, .iadr 1 (.t 10) (.t 12), none⟩, ⟨some 15, .load false 1 (.t 14), none⟩, ⟨some 6, .mov (.t 15), none⟩])
 (.seq (.seq (.reg [⟨some 16, .mov (.t 6), none⟩, ⟨some 17, .bini .lss (.t 16) (.c (.int .i64 (0))), none⟩])
 (.cond (.t 17)
 (.seq (.reg [⟨some 2, .mov (.c (.slice none 0 0)), none⟩, ⟨some 3, .mov (.c (.int .i64 (1))), none⟩])
 .ret)
 .skip))
 (.seq (.block 2
 (.loop [4, 6] [18, 19, 22, 23, 24, 25, 26, 27, 4, 20, 21, 6]
 (.seq (.seq (.reg [⟨some 18, .mov (.t 6), none⟩, ⟨some 19, .bini .gtr (.t 18) (.c (.int .i64 (127))), none⟩])
 (.cond (.t 19)
 .skip
 (.exit 2)))
 (.seq (.block 3
 (.reg [⟨some 22, .mov (.t 4), none⟩, ⟨some 23, .mov (.t 6), none⟩, ⟨some 24, .conv .u8 (.t 23), none⟩, ⟨some 25, .bini .or (.t 24) (.c (.int .u8 (128))), none⟩, ⟨some 26, .bsl 5 1 1 [(.v (.int .u8 (0)))] [(0, 1, (.t 25))], none⟩, ⟨some 27, .app 5 1 1 (.t 22) (.t 26), none⟩, ⟨some 4, .mov (.t 27), none⟩]))
 (.reg [⟨some 20, .mov (.t 6), none⟩, ⟨some 21, .bini .shr (.t 20) (.c (.int .u64 (7))), none⟩, ⟨some 6, .mov (.t 21), none⟩])))))
 (.reg [⟨some 28, .mov (.t 4), none⟩, ⟨some 29, .mov (.t 6), none⟩, ⟨some 30, .conv .u8 (.t 29), none⟩, ⟨some 31, .bsl 5 1 1 [(.v (.int .u8 (0)))] [(0, 1, (.t 30))], none⟩, ⟨some 32, .app 5 1 1 (.t 28) (.t 31), none⟩, ⟨some 4, .mov (.t 32), none⟩])))))
 (.reg [⟨some 33, .bini .add (.t 12) (.c (.int .i64 (1))), none⟩, ⟨some 12, .mov (.t 33), none⟩])))))))
 (.seq (.reg [⟨some 34, .mov (.t 4), none⟩, ⟨some 2, .mov (.t 34), none⟩, ⟨some 3, .mov (.c (.int .i64 (0))), none⟩])
 .ret)))))⟩
theorem t_script_Bytes : trFn Try.prog 19 [] [[4, 12], [4, 6]] = some f_script_Bytes := by kernel_rfl

abbrev n_hydrantref08_Bytes : Nat := 20
theorem k_hydrantref08_Bytes : FnOk Try.prog 20 := FnOk.of (by kernel_rfl)
/-- hydrant/hydrantref08.Bytes -/
def f_hydrantref08_Bytes : FnI := ⟨40, [.tmp 2, .tmp 3],
 (.seq (.reg [⟨some 2, .mov (.c (.slice none 0 0)), none⟩, ⟨some 3, .mov (.c (.int .i64 (0))), none⟩])
 (.seq (.seq (.reg [⟨some 7, .mov (.t 0), none⟩, ⟨some 8, .len false (.t 7), none⟩, ⟨some 9, .bini .gtr (.t 8) (.c (.int .i64 (4000))), none⟩])
 (.cond (.t 9)
 (.seq (.reg [⟨some 2, .mov (.c (.slice none 0 0)), none⟩, ⟨some 3, .mov (.c (.int .i64 (6))), none⟩])
 .ret)
 .skip))
 (.seq (.reg [⟨some 10, .bsl 5 1 0 [] [], none⟩, ⟨some 4, .mov (.t 10), none⟩])
 (.seq (.seq (.reg [⟨some 5, .mov (.c (.int .i64 (0))), none⟩])
 (.block 0
 (.loop [4, 5] [11, 12, 13, 14, 17, 18, 19, 20, 6, 21, 22, 2, 3, 23, 24, 25, 26, 27, 28, 29, 30, 31, 4, 32, 33, 34, 35, 36, 37, 38, 15, 16, 5]
 (.seq (.seq (.reg [⟨some 11, .mov (.t 5), none⟩, ⟨some 12, .mov (.t 0), none⟩, ⟨some 13, .len false (.t 12), none⟩, ⟨some 14, .bini .lss (.t 11) (.t 13), none⟩])
 (.cond (.t 14)
 .skip
 (.exit 0)))
 (.seq (.block 1
 (.seq (.reg [⟨some 17, .mov (.t 0), none⟩, ⟨some 18, .mov (.t 5), none⟩, ⟨some 19, .iadr 1 (.t 17) (.t 18), none⟩, ⟨some 20, .load false 1 (.t 19), none⟩, ⟨some 6, .mov (.t 20), none⟩])
 (.seq (.seq (.reg [⟨some 21, .mov (.t 6), none⟩, ⟨some 22, .bini .lss (.t 21) (.c (.int .i64 (0))), none⟩])
 (.cond (.t 22)
 (.seq (.reg [⟨some 2, .mov (.c (.slice none 0 0)), none⟩, ⟨some 3, .mov (.c (.int .i64 (1))), none⟩])
 .ret)
 .skip))
 (.seq (.block 2
 (.loop [4, 6] [23, 24, 25, 26, 27, 28, 29, 30, 31, 4, 32, 33, 6]
 (.seq (.seq (.reg [⟨some 23, .mov (.t 6), none⟩, ⟨some 24, .bini .gtr (.t 23) (.c (.int .i64 (127))), none⟩])
 (.cond (.t 24)
 .skip
 (.exit 2)))
 (.block 3
 (.seq (.reg [⟨some 25, .mov (.t 4), none⟩, ⟨some 26, .mov (.t 6), none⟩, ⟨some 27, .bini .rem (.t 26) (.c (.int .i64 (128))), none⟩, ⟨some 28, .bini .add (.t 27) (.c (.int .i64 (128))), none⟩, ⟨some 29, .conv .u8 (.t 28), none⟩, ⟨some 30, .bsl 5 1 1 [(.v (.int .u8 (0)))] [(0, 1, (.t 29))], none⟩, ⟨some 31, .app 5 1 1 (.t 25) (.t 30), none⟩, ⟨some 4, .mov (.t 31), none⟩])
 (.reg [⟨some 32, .mov (.t 6), none⟩, ⟨some 33, .bini .quo (.t 32) (.c (.int .i64 (128))), none⟩, ⟨some 6, .mov (.t 33), none⟩]))))))
 (.reg [⟨some 34, .mov (.t 4), none⟩, ⟨some 35, .mov (.t 6), none⟩, ⟨some 36, .conv .u8 (.t 35), none⟩, ⟨some 37, .bsl 5 1 1 [(.v (.int .u8 (0)))] [(0, 1, (.t 36))], none⟩, ⟨some 38, .app 5 1 1 (.t 34) (.t 37), none⟩, ⟨some 4, .mov (.t 38), none⟩])))))
 (.reg [⟨some 15, .mov (.t 5), none⟩, ⟨some 16, .bini .add (.t 15) (.c (.int .i64 (1))), none⟩, ⟨some 5, .mov (.t 16), none⟩]))))))
 (.seq (.reg [⟨some 39, .mov (.t 4), none⟩, ⟨some 2, .mov (.t 39), none⟩, ⟨some 3, .mov (.c (.int .i64 (0))), none⟩])
 .ret)))))⟩
theorem t_hydrantref08_Bytes : trFn Try.prog 20 [] [[4, 5], [4, 6]] = some f_hydrantref08_Bytes := by kernel_rfl

abbrev n_script_Picks : Nat := 21
theorem k_script_Picks : FnOk Try.prog 21 := FnOk.of (by kernel_rfl)
/-- hydrant/script.Picks -/
def f_script_Picks : FnI := ⟨51, [.tmp 2, .tmp 3],
 (.seq (.reg [⟨some 2, .mov (.c (.slice none 0 0)), none⟩, ⟨some 3, .mov (.c (.int .i64 (0))), none⟩])
 (.scope
 (.seq (.reg [⟨some 4, .mov (.c (.slice none 0 0)), none⟩])
 (.seq (.label 0)
 (.seq (.block 0
 (.loop [0, 4] [8, 9, 10, 5, 11, 12, 13, 14, 15, 16, 17, 18, 19, 20, 21, 6, 7, 22, 23, 24, 25, 26, 27, 28, 29, 30, 31, 32, 33, 34, 35, 36, 37, 2, 3, 38, 39, 40, 41, 42, 43, 44, 4, 45, 46, 47, 48, 0, 49]
 (.seq (.seq (.reg [⟨some 8, .mov (.t 0), none⟩, ⟨some 9, .len false (.t 8), none⟩, ⟨some 10, .bini .gtr (.t 9) (.c (.int .i64 (0))), none⟩])
 (.cond (.t 10)
 .skip
 (.exit 0)))
 (.block 1
 (.seq (.reg [⟨some 5, .mov (.c (.int .i64 (0))), none⟩])
 (.seq (.seq (.reg [⟨some 11, .mov (.t 0), none⟩, ⟨some 12, .mov (.t 0), none⟩, ⟨some 13, .len false (.t 12), none⟩, ⟨some 14, .mini (.c (.int .i64 (9))) (.t 13), none⟩, ⟨some 15, .slc 1 (.t 11) none (some (.t 14)) none, none⟩, ⟨some 16, .len false (.t 15), none⟩, ⟨some 17, .mov (.c (.int .i64 (0))), none⟩])
 (.block 2
 (.loop [0, 4, 5, 17] [18, 19, 20, 21, 6, 7, 22, 23, 24, 25, 26, 27, 28, 29, 5, 30, 31, 32, 33, 34, 35, 36, 37, 2, 3, 38, 39, 40, 41, 42, 43, 44, 4, 45, 46, 47, 48, 0, 49, 17]
 (.seq (.reg [⟨some 18, .bini .lss (.t 17) (.t 16), none⟩])
 (.seq (.cond (.t 18)
 .skip
 (.exit 2))
 (.seq (.block 3
 (.seq (.reg [⟨some 19, .mov (.t 17), none⟩, ⟨some 20, .iadr 1 (.t 15) (.t 17), none⟩, ⟨some 21, .load false 1 (.t 20), none⟩, ⟨some 6, .mov (.t 19), none⟩, ⟨some 7, .mov (.t 21), none⟩])
 (.seq (.reg [⟨some 22, .mov (.t 5), none⟩, ⟨some 23, .mov (.t 7), none⟩, ⟨some 24, .bini .and (.t 23) (.c (.int .u8 (127))), none⟩, ⟨some 25, .conv .i64 (.t 24), none⟩, ⟨some 26, .mov (.t 6), none⟩, ⟨some 27, .bini .mul (.c (.int .i64 (7))) (.t 26), none⟩, ⟨some 28, .bini .shl (.t 25) (.t 27), none⟩, ⟨some 29, .bini .or (.t 22) (.t 28), none⟩, ⟨some 5, .mov (.t 29), none⟩])
 (.seq (.seq (.reg [⟨some 30, .mov (.t 7), none⟩, ⟨some 31, .bini .geq (.t 30) (.c (.int .u8 (128))), none⟩])
 (.cond (.t 31)
 (.exit 3)
 .skip))
 (.seq (.seq (.reg [⟨some 32, .mov (.t 6), none⟩, ⟨some 33, .bini .gtr (.t 32) (.c (.int .i64 (0))), none⟩, ⟨some 34, .mov (.t 33), none⟩, ⟨some 35, .mov (.t 7), some (34, true)⟩, ⟨some 36, .bini .eql (.t 35) (.c (.int .u8 (0))), some (34, true)⟩, ⟨some 37, .pick (.t 34) (.t 36) (.b false), none⟩])
 (.cond (.t 37)
 (.seq (.reg [⟨some 2, .mov (.c (.slice none 0 0)), none⟩, ⟨some 3, .mov (.c (.int .i64 (11))), none⟩])
 .ret)
 .skip))
 (.seq (.seq (.reg [⟨some 38, .mov (.t 4), none⟩, ⟨some 39, .len false (.t 38), none⟩, ⟨some 40, .bini .eql (.t 39) (.c (.int .i64 (4000))), none⟩])
 (.cond (.t 40)
 (.seq (.reg [⟨some 2, .mov (.c (.slice none 0 0)), none⟩, ⟨some 3, .mov (.c (.int .i64 (6))), none⟩])
 .ret)
 .skip))
 (.seq (.reg [⟨some 41, .mov (.t 4), none⟩, ⟨some 42, .mov (.t 5), none⟩, ⟨some 43, .bsl 3 1 1 [(.v (.int .i64 (0)))] [(0, 1, (.t 42))], none⟩, ⟨some 44, .app 3 1 8 (.t 41) (.t 43), none⟩, ⟨some 4, .mov (.t 44), none⟩])
 (.seq (.reg [⟨some 45, .mov (.t 0), none⟩, ⟨some 46, .mov (.t 6), none⟩, ⟨some 47, .bini .add (.t 46) (.c (.int .i64 (1))), none⟩, ⟨some 48, .slc 1 (.t 45) (some (.t 47)) none none, none⟩, ⟨some 0, .mov (.t 48), none⟩])
 (.exit 1)))))))))
 (.reg [⟨some 49, .bini .add (.t 17) (.c (.int .i64 (1))), none⟩, ⟨some 17, .mov (.t 49), none⟩])))))))
 (.seq (.reg [⟨some 2, .mov (.c (.slice none 0 0)), none⟩, ⟨some 3, .mov (.c (.int .i64 (11))), none⟩])
 .ret)))))))
 (.seq (.reg [⟨some 50, .mov (.t 4), none⟩, ⟨some 2, .mov (.t 50), none⟩, ⟨some 3, .mov (.c (.int .i64 (0))), none⟩])
 .ret))))))⟩
theorem t_script_Picks : trFn Try.prog 21 [] [[0, 4], [0, 4, 5, 17]] = some f_script_Picks := by kernel_rfl

abbrev n_hydrantref08_Picks : Nat := 22
theorem k_hydrantref08_Picks : FnOk Try.prog 22 := FnOk.of (by kernel_rfl)
/-- hydrant/hydrantref08.Picks -/
def f_hydrantref08_Picks : FnI := ⟨97, [.tmp 2, .tmp 3],
 (.seq (.reg [⟨some 2, .mov (.c (.slice none 0 0)), none⟩, ⟨some 3, .mov (.c (.int .i64 (0))), none⟩])
 (.seq (.reg [⟨some 9, .bsl 3 1 0 [] [], none⟩, ⟨some 4, .mov (.t 9), none⟩])
 (.seq (.seq (.reg [⟨some 5, .mov (.c (.int .i64 (0))), none⟩])
 (.block 0
 (.loop [4, 5] [10, 11, 12, 13, 6, 7, 8, 14, 15, 16, 17, 18, 19, 20, 21, 22, 23, 24, 25, 26, 27, 28, 29, 30, 31, 32, 33, 34, 35, 36, 37, 38, 39, 40, 41, 42, 43, 44, 45, 46, 47, 48, 49, 50, 51, 52, 53, 54, 55, 56, 57, 58, 59, 60, 61, 62, 63, 64, 65, 66, 67, 68, 69, 70, 71, 72, 73, 2, 3, 74, 75, 76, 77, 78, 79, 80, 81, 82, 83, 84, 85, 86, 87, 88, 5, 89, 90, 91, 92, 4, 93, 94, 95]
 (.seq (.seq (.reg [⟨some 10, .mov (.t 5), none⟩, ⟨some 11, .mov (.t 0), none⟩, ⟨some 12, .len false (.t 11), none⟩, ⟨some 13, .bini .lss (.t 10) (.t 12), none⟩])
 (.cond (.t 13)
 .skip
 (.exit 0)))
 (.block 1
 (.seq (.reg [⟨some 6, .mov (.c (.int .i64 (0))), none⟩])
 (.seq (.reg [⟨some 7, .mov (.c (.int .i64 (1))), none⟩])
 (.seq (.reg [⟨some 8, .mov (.c (.int .i64 (0))), none⟩])
 (.seq (.block 2
 (.loop [6, 7, 8] [14, 15, 16, 17, 18, 19, 20, 21, 22, 23, 24, 25, 26, 27, 28, 29, 30, 31, 32, 33, 34, 35, 36, 37, 38, 39, 40, 41, 42, 43, 44, 6, 45, 46, 47, 48, 7, 49, 50, 8]
 (.seq (.seq (.reg [⟨some 14, .mov (.t 5), none⟩, ⟨some 15, .mov (.t 8), none⟩, ⟨some 16, .bini .add (.t 14) (.t 15), none⟩, ⟨some 17, .mov (.t 0), none⟩, ⟨some 18, .len false (.t 17), none⟩, ⟨some 19, .bini .lss (.t 16) (.t 18), none⟩, ⟨some 20, .mov (.t 19), none⟩, ⟨some 21, .mov (.t 0), some (20, true)⟩, ⟨some 22, .mov (.t 5), some (20, true)⟩, ⟨some 23, .mov (.t 8), some (20, true)⟩, ⟨some 24, .bini .add (.t 22) (.t 23), some (20, true)⟩, ⟨some 25, .iadr 1 (.t 21) (.t 24), some (20, true)⟩, ⟨some 26, .load false 1 (.t 25), some (20, true)⟩, ⟨some 27, .bini .geq (.t 26) (.c (.int .u8 (128))), some (20, true)⟩, ⟨some 28, .pick (.t 20) (.t 27) (.b false), none⟩, ⟨some 29, .mov (.t 28), none⟩, ⟨some 30, .mov (.t 8), some (29, true)⟩, ⟨some 31, .bini .lss (.t 30) (.c (.int .i64 (9))), some (29, true)⟩, ⟨some 32, .pick (.t 29) (.t 31) (.b false), none⟩])
 (.cond (.t 32)
 .skip
 (.exit 2)))
 (.block 3
 (.seq (.reg [⟨some 33, .mov (.t 6), none⟩, ⟨some 34, .mov (.t 7), none⟩, ⟨some 35, .mov (.t 0), none⟩, ⟨some 36, .mov (.t 5), none⟩, ⟨some 37, .mov (.t 8), none⟩, ⟨some 38, .bini .add (.t 36) (.t 37), none⟩, ⟨some 39, .iadr 1 (.t 35) (.t 38), none⟩, ⟨some 40, .load false 1 (.t 39), none⟩, ⟨some 41, .conv .i64 (.t 40), none⟩, ⟨some 42, .bini .sub (.t 41) (.c (.int .i64 (128))), none⟩, ⟨some 43, .bini .mul (.t 34) (.t 42), none⟩, ⟨some 44, .bini .add (.t 33) (.t 43), none⟩, ⟨some 6, .mov (.t 44), none⟩])
 (.seq (.seq (.reg [⟨some 45, .mov (.t 8), none⟩, ⟨some 46, .bini .lss (.t 45) (.c (.int .i64 (8))), none⟩])
 (.cond (.t 46)
 (.reg [⟨some 47, .mov (.t 7), none⟩, ⟨some 48, .bini .mul (.t 47) (.c (.int .i64 (128))), none⟩, ⟨some 7, .mov (.t 48), none⟩])
 .skip))
 (.reg [⟨some 49, .mov (.t 8), none⟩, ⟨some 50, .bini .add (.t 49) (.c (.int .i64 (1))), none⟩, ⟨some 8, .mov (.t 50), none⟩])))))))
 (.seq (.seq (.reg [⟨some 51, .mov (.t 5), none⟩, ⟨some 52, .mov (.t 8), none⟩, ⟨some 53, .bini .add (.t 51) (.t 52), none⟩, ⟨some 54, .mov (.t 0), none⟩, ⟨some 55, .len false (.t 54), none⟩, ⟨some 56, .bini .geq (.t 53) (.t 55), none⟩, ⟨some 57, .mov (.t 56), none⟩, ⟨some 58, .mov (.t 8), some (57, false)⟩, ⟨some 59, .bini .geq (.t 58) (.c (.int .i64 (9))), some (57, false)⟩, ⟨some 60, .pick (.t 57) (.b true) (.t 59), none⟩, ⟨some 61, .mov (.t 60), none⟩, ⟨some 62, .mov (.t 8), some (61, false)⟩, ⟨some 63, .bini .gtr (.t 62) (.c (.int .i64 (0))), some (61, false)⟩, ⟨some 64, .mov (.t 63), some (61, false)⟩, ⟨some 65, .mov (.t 0), some (64, true)⟩, ⟨some 66, .mov (.t 5), some (64, true)⟩, ⟨some 67, .mov (.t 8), some (64, true)⟩, ⟨some 68, .bini .add (.t 66) (.t 67), some (64, true)⟩, ⟨some 69, .iadr 1 (.t 65) (.t 68), some (64, true)⟩, ⟨some 70, .load false 1 (.t 69), some (64, true)⟩, ⟨some 71, .bini .eql (.t 70) (.c (.int .u8 (0))), some (64, true)⟩, ⟨some 72, .pick (.t 64) (.t 71) (.b false), some (61, false)⟩, ⟨some 73, .pick (.t 61) (.b true) (.t 72), none⟩])
 (.cond (.t 73)
 (.seq (.reg [⟨some 2, .mov (.c (.slice none 0 0)), none⟩, ⟨some 3, .mov (.c (.int .i64 (11))), none⟩])
 .ret)
 .skip))
 (.seq (.reg [⟨some 74, .mov (.t 6), none⟩, ⟨some 75, .mov (.t 7), none⟩, ⟨some 76, .mov (.t 0), none⟩, ⟨some 77, .mov (.t 5), none⟩, ⟨some 78, .mov (.t 8), none⟩, ⟨some 79, .bini .add (.t 77) (.t 78), none⟩, ⟨some 80, .iadr 1 (.t 76) (.t 79), none⟩, ⟨some 81, .load false 1 (.t 80), none⟩, ⟨some 82, .conv .i64 (.t 81), none⟩, ⟨some 83, .bini .mul (.t 75) (.t 82), none⟩, ⟨some 84, .bini .add (.t 74) (.t 83), none⟩, ⟨some 6, .mov (.t 84), none⟩])
 (.seq (.reg [⟨some 85, .mov (.t 5), none⟩, ⟨some 86, .mov (.t 8), none⟩, ⟨some 87, .bini .add (.t 85) (.t 86), none⟩, ⟨some 88, .bini .add (.t 87) (.c (.int .i64 (1))), none⟩, ⟨some 5, .mov (.t 88), none⟩])
 (.seq (.reg [⟨some 89, .mov (.t 4), none⟩, ⟨some 90, .mov (.t 6), none⟩, ⟨some 91, .bsl 3 1 1 [(.v (.int .i64 (0)))] [(0, 1, (.t 90))], none⟩, ⟨some 92, .app 3 1 8 (.t 89) (.t 91), none⟩, ⟨some 4, .mov (.t 92), none⟩])
 (.seq (.reg [⟨some 93, .mov (.t 4), none⟩, ⟨some 94, .len false (.t 93), none⟩, ⟨some 95, .bini .gtr (.t 94) (.c (.int .i64 (4000))), none⟩])
 (.cond (.t 95)
 (.seq (.reg [⟨some 2, .mov (.c (.slice none 0 0)), none⟩, ⟨some 3, .mov (.c (.int .i64 (6))), none⟩])
 .ret)
 .skip)))))))))))))))
 (.seq (.reg [⟨some 96, .mov (.t 4), none⟩, ⟨some 2, .mov (.t 96), none⟩, ⟨some 3, .mov (.c (.int .i64 (0))), none⟩])
 .ret))))⟩
theorem t_hydrantref08_Picks : trFn Try.prog 22 [] [[4, 5], [6, 7, 8]] = some f_hydrantref08_Picks := by kernel_rfl

abbrev n_hydrantlaw08_sameBytes : Nat := 23
theorem k_hydrantlaw08_sameBytes : FnOk Try.prog 23 := FnOk.of (by kernel_rfl)
/-- hydrant/hydrantlaw08.sameBytes -/
def f_hydrantlaw08_sameBytes : FnI := ⟨10, [.tmp 4],
 (.seq (.reg [⟨some 4, .mov (.b false), none⟩])
 (.seq (.reg [⟨some 5, .mov (.t 0), none⟩, ⟨some 6, .tos (.t 5), none⟩, ⟨some 7, .mov (.t 1), none⟩, ⟨some 8, .tos (.t 7), none⟩, ⟨some 9, .bins .eql (.t 6) (.t 8), none⟩, ⟨some 4, .mov (.t 9), none⟩])
 .ret))⟩
theorem t_hydrantlaw08_sameBytes : trFn Try.prog 23 [] [] = some f_hydrantlaw08_sameBytes := by kernel_rfl

abbrev n_hydrantref02_Same : Nat := 24
theorem k_hydrantref02_Same : FnOk Try.prog 24 := FnOk.of (by kernel_rfl)
/-- hydrant/hydrantref02.Same -/
def f_hydrantref02_Same : FnI := ⟨26, [.tmp 4],
 (.seq (.reg [⟨some 4, .mov (.b false), none⟩])
 (.seq (.seq (.reg [⟨some 6, .mov (.t 0), none⟩, ⟨some 7, .len false (.t 6), none⟩, ⟨some 8, .mov (.t 1), none⟩, ⟨some 9, .len false (.t 8), none⟩, ⟨some 10, .bini .neq (.t 7) (.t 9), none⟩])
 (.cond (.t 10)
 (.seq (.reg [⟨some 4, .mov (.b false), none⟩])
 .ret)
 .skip))
 (.seq (.seq (.reg [⟨some 5, .mov (.c (.int .i64 (0))), none⟩])
 (.block 0
 (.loop [5] [11, 12, 13, 14, 17, 18, 19, 20, 21, 22, 23, 24, 25, 4, 15, 16, 5]
 (.seq (.seq (.reg [⟨some 11, .mov (.t 5), none⟩, ⟨some 12, .mov (.t 0), none⟩, ⟨some 13, .len false (.t 12), none⟩, ⟨some 14, .bini .lss (.t 11) (.t 13), none⟩])
 (.cond (.t 14)
 .skip
 (.exit 0)))
 (.seq (.block 1
 (.seq (.regD [] (.op ⟨0, false, [], ⟨some 17, .mov (.t 0), none⟩⟩
 (.op ⟨1, false, [], ⟨some 18, .mov (.t 5), none⟩⟩
 (.op ⟨2, true, [], ⟨some 19, .iadr 1 (.t 17) (.t 18), none⟩⟩
 (.op ⟨3, true, [], ⟨some 20, .load false 1 (.t 19), none⟩⟩
 (.op ⟨4, false, [], ⟨some 21, .mov (.t 1), none⟩⟩
 (.op ⟨5, false, [], ⟨some 22, .mov (.t 5), none⟩⟩
 (.op ⟨6, true, [], ⟨some 23, .iadr 1 (.t 21) (.t 22), none⟩⟩
 (.op ⟨7, true, [], ⟨some 24, .load false 1 (.t 23), none⟩⟩
 (.op ⟨8, false, [], ⟨some 25, .bini .neq (.t 20) (.t 24), none⟩⟩
 .nil))))))))))
 (.cond (.t 25)
 (.seq (.reg [⟨some 4, .mov (.b false), none⟩])
 .ret)
 .skip)))
 (.reg [⟨some 15, .mov (.t 5), none⟩, ⟨some 16, .bini .add (.t 15) (.c (.int .i64 (1))), none⟩, ⟨some 5, .mov (.t 16), none⟩]))))))
 (.seq (.reg [⟨some 4, .mov (.b true), none⟩])
 .ret))))⟩
theorem t_hydrantref02_Same : trFn Try.prog 24 [([], (.first 0 (.first 1 (.first 2 (.first 3 (.first 4 (.first 5 (.first 6 (.first 7 (.first 8 .nil))))))))))] [[5]] = some f_hydrantref02_Same := by kernel_rfl

abbrev n_config_Check : Nat := 25
theorem k_config_Check : FnOk Try.prog 25 := FnOk.of (by kernel_rfl)
/-- hydrant/config.Check -/
def f_config_Check : FnI := ⟨35, [.tmp 2, .tmp 3],
 (.seq (.reg [⟨some 1, .box 26 (.t 0), none⟩, ⟨some 2, .mov (.c (.int .i64 (0))), none⟩, ⟨some 3, .mov (.c (.int .i64 (0))), none⟩])
 (.seq (.reg [⟨some 9, .load true 3 (.t 1), none⟩, ⟨some 10, .build [(.v (.slice none 0 0)), (.v (.slice none 0 0)), (.v (.slice none 0 0))] [(0, 3, (.t 9))], none⟩, ⟨some 4, .alloc 74 [(.v (.slice none 0 0)), (.v (.slice none 0 0)), (.v (.slice none 0 0))], none⟩, ⟨none, .store 3 (.t 4) (.t 10), none⟩])
 (.seq (.seq (.reg [⟨some 11, .load true 3 (.t 4), none⟩, ⟨some 12, .mkf (.func 46) [(.t 11)] [], none⟩, ⟨some 13, .load true 3 (.t 4), none⟩, ⟨some 14, .mkf (.func 47) [(.t 13)] [], none⟩, ⟨some 15, .load true 3 (.t 4), none⟩, ⟨some 16, .mkf (.func 48) [(.t 15)] [], none⟩, ⟨some 17, .load true 3 (.t 4), none⟩, ⟨some 18, .mkf (.func 49) [(.t 17)] [], none⟩, ⟨some 19, .bsl 75 1 4 [(.v .nilFunc), (.v .nilFunc), (.v .nilFunc), (.v .nilFunc)] [(0, 1, (.t 12)), (1, 1, (.t 14)), (2, 1, (.t 16)), (3, 1, (.t 18))], none⟩, ⟨some 20, .len false (.t 19), none⟩, ⟨some 21, .mov (.c (.int .i64 (0))), none⟩])
 (.block 0
 (.loop [21] [22, 23, 24, 6, 26, 27, 25, 28, 29, 7, 8, 30, 31, 32, 33, 2, 3, 34, 21]
 (.seq (.reg [⟨some 22, .bini .lss (.t 21) (.t 20), none⟩])
 (.seq (.cond (.t 22)
 .skip
 (.exit 0))
 (.seq (.block 1
 (.seq (.reg [⟨some 23, .iadr 1 (.t 19) (.t 21), none⟩, ⟨some 24, .load false 1 (.t 23), none⟩, ⟨some 6, .mov (.t 24), none⟩])
 (.seq (.reg [⟨some 26, .mov (.t 6), none⟩, ⟨some 27, .callv (.t 26) [], none⟩, ⟨some 25, .mov (.t 27), none⟩, ⟨some 28, .ext 0 (.t 25), none⟩, ⟨some 29, .ext 1 (.t 25), none⟩, ⟨some 7, .mov (.t 28), none⟩, ⟨some 8, .mov (.t 29), none⟩])
 (.seq (.reg [⟨some 30, .mov (.t 7), none⟩, ⟨some 31, .bini .neq (.t 30) (.c (.int .i64 (0))), none⟩])
 (.cond (.t 31)
 (.seq (.reg [⟨some 32, .mov (.t 7), none⟩, ⟨some 33, .mov (.t 8), none⟩, ⟨some 2, .mov (.t 32), none⟩, ⟨some 3, .mov (.t 33), none⟩])
 .ret)
 .skip)))))
 (.reg [⟨some 34, .bini .add (.t 21) (.c (.int .i64 (1))), none⟩, ⟨some 21, .mov (.t 34), none⟩])))))))
 (.seq (.reg [⟨some 2, .mov (.c (.int .i64 (0))), none⟩, ⟨some 3, .mov (.c (.int .i64 (0))), none⟩])
 .ret))))⟩
theorem t_config_Check : trFn Try.prog 25 [] [[21]] = some f_config_Check := by kernel_rfl

abbrev n_hydrantref05_Big : Nat := 26
theorem k_hydrantref05_Big : FnOk Try.prog 26 := FnOk.of (by kernel_rfl)
/-- hydrant/hydrantref05.Big -/
def f_hydrantref05_Big : FnI := ⟨71, [.tmp 2],
 (.seq (.reg [⟨some 1, .box 26 (.t 0), none⟩, ⟨some 2, .mov (.b false), none⟩])
 (.seq (.seq (.reg [⟨some 5, .fadr 0 (.t 1), none⟩, ⟨some 6, .load false 1 (.t 5), none⟩, ⟨some 7, .len false (.t 6), none⟩, ⟨some 8, .bini .gtr (.t 7) (.c (.int .i64 (50))), none⟩, ⟨some 9, .mov (.t 8), none⟩, ⟨some 10, .fadr 1 (.t 1), some (9, false)⟩, ⟨some 11, .load false 1 (.t 10), some (9, false)⟩, ⟨some 12, .len false (.t 11), some (9, false)⟩, ⟨some 13, .bini .gtr (.t 12) (.c (.int .i64 (50))), some (9, false)⟩, ⟨some 14, .pick (.t 9) (.b true) (.t 13), none⟩, ⟨some 15, .mov (.t 14), none⟩, ⟨some 16, .fadr 2 (.t 1), some (15, false)⟩, ⟨some 17, .load false 1 (.t 16), some (15, false)⟩, ⟨some 18, .len false (.t 17), some (15, false)⟩, ⟨some 19, .bini .gtr (.t 18) (.c (.int .i64 (50))), some (15, false)⟩, ⟨some 20, .pick (.t 15) (.b true) (.t 19), none⟩])
 (.cond (.t 20)
 (.seq (.reg [⟨some 2, .mov (.b true), none⟩])
 .ret)
 .skip))
 (.seq (.seq (.reg [⟨some 3, .mov (.c (.int .i64 (0))), none⟩])
 (.block 0
 (.loop [3] [21, 22, 23, 24, 25, 28, 29, 30, 31, 32, 33, 34, 35, 36, 37, 38, 39, 40, 41, 42, 43, 44, 45, 2, 26, 27, 3]
 (.seq (.seq (.reg [⟨some 21, .mov (.t 3), none⟩, ⟨some 22, .fadr 2 (.t 1), none⟩, ⟨some 23, .load false 1 (.t 22), none⟩, ⟨some 24, .len false (.t 23), none⟩, ⟨some 25, .bini .lss (.t 21) (.t 24), none⟩])
 (.cond (.t 25)
 .skip
 (.exit 0)))
 (.seq (.block 1
 (.seq (.reg [⟨some 28, .fadr 2 (.t 1), none⟩, ⟨some 29, .load false 1 (.t 28), none⟩, ⟨some 30, .mov (.t 3), none⟩, ⟨some 31, .iadr 4 (.t 29) (.t 30), none⟩, ⟨some 32, .fadr 3 (.t 31), none⟩, ⟨some 33, .load false 1 (.t 32), none⟩, ⟨some 34, .len false (.t 33), none⟩, ⟨some 35, .bini .gtr (.t 34) (.c (.int .i64 (50))), none⟩, ⟨some 36, .mov (.t 35), none⟩, ⟨some 37, .fadr 2 (.t 1), some (36, false)⟩, ⟨some 38, .load false 1 (.t 37), some (36, false)⟩, ⟨some 39, .mov (.t 3), some (36, false)⟩, ⟨some 40, .iadr 4 (.t 38) (.t 39), some (36, false)⟩, ⟨some 41, .fadr 0 (.t 40), some (36, false)⟩, ⟨some 42, .load false 1 (.t 41), some (36, false)⟩, ⟨some 43, .len true (.t 42), some (36, false)⟩, ⟨some 44, .bini .gtr (.t 43) (.c (.int .i64 (100))), some (36, false)⟩, ⟨some 45, .pick (.t 36) (.b true) (.t 44), none⟩])
 (.cond (.t 45)
 (.seq (.reg [⟨some 2, .mov (.b true), none⟩])
 .ret)
 .skip)))
 (.reg [⟨some 26, .mov (.t 3), none⟩, ⟨some 27, .bini .add (.t 26) (.c (.int .i64 (1))), none⟩, ⟨some 3, .mov (.t 27), none⟩]))))))
 (.seq (.seq (.reg [⟨some 4, .mov (.c (.int .i64 (0))), none⟩])
 (.block 2
 (.loop [4] [46, 47, 48, 49, 50, 53, 54, 55, 56, 57, 58, 59, 60, 61, 62, 63, 64, 65, 66, 67, 68, 69, 70, 2, 51, 52, 4]
 (.seq (.seq (.reg [⟨some 46, .mov (.t 4), none⟩, ⟨some 47, .fadr 1 (.t 1), none⟩, ⟨some 48, .load false 1 (.t 47), none⟩, ⟨some 49, .len false (.t 48), none⟩, ⟨some 50, .bini .lss (.t 46) (.t 49), none⟩])
 (.cond (.t 50)
 .skip
 (.exit 2)))
 (.seq (.block 3
 (.seq (.reg [⟨some 53, .fadr 1 (.t 1), none⟩, ⟨some 54, .load false 1 (.t 53), none⟩, ⟨some 55, .mov (.t 4), none⟩, ⟨some 56, .iadr 4 (.t 54) (.t 55), none⟩, ⟨some 57, .fadr 1 (.t 56), none⟩, ⟨some 58, .load false 1 (.t 57), none⟩, ⟨some 59, .len true (.t 58), none⟩, ⟨some 60, .bini .gtr (.t 59) (.c (.int .i64 (100))), none⟩, ⟨some 61, .mov (.t 60), none⟩, ⟨some 62, .fadr 1 (.t 1), some (61, false)⟩, ⟨some 63, .load false 1 (.t 62), some (61, false)⟩, ⟨some 64, .mov (.t 4), some (61, false)⟩, ⟨some 65, .iadr 4 (.t 63) (.t 64), some (61, false)⟩, ⟨some 66, .fadr 2 (.t 65), some (61, false)⟩, ⟨some 67, .load false 1 (.t 66), some (61, false)⟩, ⟨some 68, .len true (.t 67), some (61, false)⟩, ⟨some 69, .bini .gtr (.t 68) (.c (.int .i64 (100))), some (61, false)⟩, ⟨some 70, .pick (.t 61) (.b true) (.t 69), none⟩])
 (.cond (.t 70)
 (.seq (.reg [⟨some 2, .mov (.b true), none⟩])
 .ret)
 .skip)))
 (.reg [⟨some 51, .mov (.t 4), none⟩, ⟨some 52, .bini .add (.t 51) (.c (.int .i64 (1))), none⟩, ⟨some 4, .mov (.t 52), none⟩]))))))
 (.seq (.reg [⟨some 2, .mov (.b false), none⟩])
 .ret)))))⟩
theorem t_hydrantref05_Big : trFn Try.prog 26 [] [[3], [4]] = some f_hydrantref05_Big := by kernel_rfl

abbrev n_snap_Build : Nat := 27
theorem k_snap_Build : FnOk Try.prog 27 := FnOk.of (by kernel_rfl)
/-- hydrant/snap.Build -/
def f_snap_Build : FnI := ⟨54, [.cell 2 3 true, .tmp 3, .tmp 4],
 (.seq (.reg [⟨some 1, .box 26 (.t 0), none⟩, ⟨some 2, .alloc 50 [(.v (.slice none 0 0)), (.v (.slice none 0 0)), (.v (.slice none 0 0))], none⟩, ⟨some 3, .mov (.c (.int .i64 (0))), none⟩, ⟨some 4, .mov (.c (.int .i64 (0))), none⟩])
 (.seq (.seq (.reg [⟨some 11, .load true 3 (.t 1), none⟩, ⟨some 12, .call 25 [(.t 11)], none⟩, ⟨some 10, .mov (.t 12), none⟩, ⟨some 13, .ext 0 (.t 10), none⟩, ⟨some 14, .ext 1 (.t 10), none⟩, ⟨some 5, .mov (.t 13), none⟩, ⟨some 6, .mov (.t 14), none⟩])
 (.seq (.reg [⟨some 15, .mov (.t 5), none⟩, ⟨some 16, .bini .neq (.t 15) (.c (.int .i64 (0))), none⟩])
 (.cond (.t 16)
 (.seq (.reg [⟨some 17, .build [(.v (.slice none 0 0)), (.v (.slice none 0 0)), (.v (.slice none 0 0))] [], none⟩, ⟨some 18, .mov (.t 5), none⟩, ⟨some 19, .mov (.t 6), none⟩, ⟨none, .store 3 (.t 2) (.t 17), none⟩, ⟨some 3, .mov (.t 18), none⟩, ⟨some 4, .mov (.t 19), none⟩])
 .ret)
 .skip)))
 (.seq (.reg [⟨some 20, .fadr 0 (.t 1), none⟩, ⟨some 21, .load false 1 (.t 20), none⟩, ⟨some 22, .fadr 2 (.t 1), none⟩, ⟨some 23, .load false 1 (.t 22), none⟩, ⟨some 24, .build [(.v (.slice none 0 0)), (.v (.slice none 0 0)), (.v (.slice none 0 0))] [(0, 1, (.t 21)), (2, 1, (.t 23))], none⟩, ⟨some 7, .alloc 50 [(.v (.slice none 0 0)), (.v (.slice none 0 0)), (.v (.slice none 0 0))], none⟩, ⟨none, .store 3 (.t 7) (.t 24), none⟩])
 (.seq (.seq (.reg [⟨some 25, .fadr 1 (.t 1), none⟩, ⟨some 26, .load false 1 (.t 25), none⟩, ⟨some 27, .len false (.t 26), none⟩, ⟨some 28, .mov (.c (.int .i64 (0))), none⟩])
 (.block 0
 (.loop [28] [29, 30, 31, 9, 32, 33, 34, 35, 36, 37, 39, 40, 41, 42, 43, 44, 45, 46, 38, 47, 48, 49, 50, 51, 52, 28]
 (.seq (.reg [⟨some 29, .bini .lss (.t 28) (.t 27), none⟩])
 (.seq (.cond (.t 29)
 .skip
 (.exit 0))
 (.seq (.block 1
 (.seq (.reg [⟨some 30, .iadr 4 (.t 26) (.t 28), none⟩, ⟨some 31, .load true 4 (.t 30), none⟩, ⟨some 9, .alloc 81 [(.v (.string ⟨#[]⟩)), (.v (.string ⟨#[]⟩)), (.v (.string ⟨#[]⟩)), (.v (.string ⟨#[]⟩))], none⟩, ⟨none, .store 4 (.t 9) (.t 31), none⟩])
 (.regD [] (.op ⟨0, false, [], ⟨some 32, .fadr 1 (.t 7), none⟩⟩
 (.op ⟨1, true, [], ⟨some 33, .load false 1 (.t 32), none⟩⟩
 (.op ⟨2, false, [], ⟨some 34, .fadr 0 (.t 1), none⟩⟩
 (.op ⟨3, true, [], ⟨some 35, .load false 1 (.t 34), none⟩⟩
 (.op ⟨4, false, [], ⟨some 36, .fadr 0 (.t 9), none⟩⟩
 (.op ⟨5, true, [], ⟨some 37, .load false 1 (.t 36), none⟩⟩
 (.op ⟨7, false, [], ⟨some 39, .fadr 1 (.t 9), none⟩⟩
 (.op ⟨8, true, [], ⟨some 40, .load false 1 (.t 39), none⟩⟩
 (.op ⟨9, false, [], ⟨some 41, .fadr 2 (.t 9), none⟩⟩
 (.op ⟨10, true, [], ⟨some 42, .load false 1 (.t 41), none⟩⟩
 (.op ⟨11, false, [], ⟨some 43, .fadr 2 (.t 1), none⟩⟩
 (.op ⟨12, true, [], ⟨some 44, .load false 1 (.t 43), none⟩⟩
 (.op ⟨13, false, [], ⟨some 45, .fadr 3 (.t 9), none⟩⟩
 (.op ⟨14, true, [], ⟨some 46, .load false 1 (.t 45), none⟩⟩
 (.op ⟨6, false, [], ⟨some 38, .call 50 [(.t 35), (.t 37)], none⟩⟩
 (.op ⟨15, false, [], ⟨some 47, .call 51 [(.t 44), (.t 46)], none⟩⟩
 (.op ⟨16, false, [], ⟨some 48, .build [(.v (.int .i64 (0))), (.v (.string ⟨#[]⟩)), (.v (.string ⟨#[]⟩)), (.v (.int .i64 (0)))] [(0, 1, (.t 38)), (1, 1, (.t 40)), (2, 1, (.t 42)), (3, 1, (.t 47))], none⟩⟩
 (.op ⟨17, false, [], ⟨some 49, .bsl 85 4 1 [(.v (.int .i64 (0))), (.v (.string ⟨#[]⟩)), (.v (.string ⟨#[]⟩)), (.v (.int .i64 (0)))] [(0, 4, (.t 48))], none⟩⟩
 (.op ⟨18, false, [], ⟨some 50, .app 85 4 48 (.t 33) (.t 49), none⟩⟩
 (.op ⟨19, false, [], ⟨some 51, .fadr 1 (.t 7), none⟩⟩
 (.op ⟨20, false, [], ⟨none, .store 1 (.t 51) (.t 50), none⟩⟩
 .nil))))))))))))))))))))))))
 (.reg [⟨some 52, .bini .add (.t 28) (.c (.int .i64 (1))), none⟩, ⟨some 28, .mov (.t 52), none⟩])))))))
 (.seq (.reg [⟨some 53, .load true 3 (.t 7), none⟩, ⟨none, .store 3 (.t 2) (.t 53), none⟩, ⟨some 3, .mov (.c (.int .i64 (0))), none⟩, ⟨some 4, .mov (.c (.int .i64 (0))), none⟩])
 .ret)))))⟩
theorem t_snap_Build : trFn Try.prog 27 [([], (.first 0 (.first 1 (.first 2 (.first 3 (.first 4 (.first 5 (.first 7 (.first 8 (.first 9 (.first 10 (.first 11 (.first 12 (.first 13 (.first 14 (.exec 6 (.exec 15 (.first 16 (.exec 17 (.exec 18 (.first 19 (.exec 20 .nil))))))))))))))))))))))] [[28]] = some f_snap_Build := by kernel_rfl

abbrev n_hydrantref07_Build : Nat := 28
theorem k_hydrantref07_Build : FnOk Try.prog 28 := FnOk.of (by kernel_rfl)
/-- hydrant/hydrantref07.Build -/
def f_hydrantref07_Build : FnI := ⟨58, [.cell 2 3 true, .tmp 3, .tmp 4],
 (.seq (.reg [⟨some 1, .box 26 (.t 0), none⟩, ⟨some 2, .alloc 50 [(.v (.slice none 0 0)), (.v (.slice none 0 0)), (.v (.slice none 0 0))], none⟩, ⟨some 3, .mov (.c (.int .i64 (0))), none⟩, ⟨some 4, .mov (.c (.int .i64 (0))), none⟩])
 (.seq (.reg [⟨some 11, .load true 3 (.t 1), none⟩, ⟨some 12, .call 42 [(.t 11)], none⟩, ⟨some 10, .mov (.t 12), none⟩, ⟨some 13, .ext 0 (.t 10), none⟩, ⟨some 14, .ext 1 (.t 10), none⟩, ⟨some 5, .mov (.t 13), none⟩, ⟨some 6, .mov (.t 14), none⟩])
 (.seq (.seq (.reg [⟨some 15, .mov (.t 5), none⟩, ⟨some 16, .bini .neq (.t 15) (.c (.int .i64 (0))), none⟩])
 (.cond (.t 16)
 (.seq (.reg [⟨some 17, .build [(.v (.slice none 0 0)), (.v (.slice none 0 0)), (.v (.slice none 0 0))] [], none⟩, ⟨some 18, .mov (.t 5), none⟩, ⟨some 19, .mov (.t 6), none⟩, ⟨none, .store 3 (.t 2) (.t 17), none⟩, ⟨some 3, .mov (.t 18), none⟩, ⟨some 4, .mov (.t 19), none⟩])
 .ret)
 .skip))
 (.seq (.reg [⟨some 20, .fadr 0 (.t 1), none⟩, ⟨some 21, .load false 1 (.t 20), none⟩, ⟨some 22, .fadr 2 (.t 1), none⟩, ⟨some 23, .load false 1 (.t 22), none⟩, ⟨some 24, .build [(.v (.slice none 0 0)), (.v (.slice none 0 0)), (.v (.slice none 0 0))] [(0, 1, (.t 21)), (2, 1, (.t 23))], none⟩, ⟨some 7, .alloc 50 [(.v (.slice none 0 0)), (.v (.slice none 0 0)), (.v (.slice none 0 0))], none⟩, ⟨none, .store 3 (.t 7) (.t 24), none⟩])
 (.seq (.seq (.reg [⟨some 8, .mov (.c (.int .i64 (0))), none⟩])
 (.block 0
 (.loop [8] [25, 26, 27, 28, 29, 32, 33, 34, 35, 36, 9, 37, 38, 39, 40, 41, 42, 44, 45, 46, 47, 48, 49, 50, 51, 43, 52, 53, 54, 55, 56, 30, 31, 8]
 (.seq (.seq (.reg [⟨some 25, .mov (.t 8), none⟩, ⟨some 26, .fadr 1 (.t 1), none⟩, ⟨some 27, .load false 1 (.t 26), none⟩, ⟨some 28, .len false (.t 27), none⟩, ⟨some 29, .bini .lss (.t 25) (.t 28), none⟩])
 (.cond (.t 29)
 .skip
 (.exit 0)))
 (.seq (.block 1
 (.seq (.reg [⟨some 32, .fadr 1 (.t 1), none⟩, ⟨some 33, .load false 1 (.t 32), none⟩, ⟨some 34, .mov (.t 8), none⟩, ⟨some 35, .iadr 4 (.t 33) (.t 34), none⟩, ⟨some 36, .load true 4 (.t 35), none⟩, ⟨some 9, .alloc 81 [(.v (.string ⟨#[]⟩)), (.v (.string ⟨#[]⟩)), (.v (.string ⟨#[]⟩)), (.v (.string ⟨#[]⟩))], none⟩, ⟨none, .store 4 (.t 9) (.t 36), none⟩])
 (.regD [] (.op ⟨0, false, [], ⟨some 37, .fadr 1 (.t 7), none⟩⟩
 (.op ⟨1, true, [], ⟨some 38, .load false 1 (.t 37), none⟩⟩
 (.op ⟨2, false, [], ⟨some 39, .fadr 0 (.t 1), none⟩⟩
 (.op ⟨3, true, [], ⟨some 40, .load false 1 (.t 39), none⟩⟩
 (.op ⟨4, false, [], ⟨some 41, .fadr 0 (.t 9), none⟩⟩
 (.op ⟨5, true, [], ⟨some 42, .load false 1 (.t 41), none⟩⟩
 (.op ⟨7, false, [], ⟨some 44, .fadr 1 (.t 9), none⟩⟩
 (.op ⟨8, true, [], ⟨some 45, .load false 1 (.t 44), none⟩⟩
 (.op ⟨9, false, [], ⟨some 46, .fadr 2 (.t 9), none⟩⟩
 (.op ⟨10, true, [], ⟨some 47, .load false 1 (.t 46), none⟩⟩
 (.op ⟨11, false, [], ⟨some 48, .fadr 2 (.t 1), none⟩⟩
 (.op ⟨12, true, [], ⟨some 49, .load false 1 (.t 48), none⟩⟩
 (.op ⟨13, false, [], ⟨some 50, .fadr 3 (.t 9), none⟩⟩
 (.op ⟨14, true, [], ⟨some 51, .load false 1 (.t 50), none⟩⟩
 (.op ⟨6, false, [], ⟨some 43, .call 52 [(.t 40), (.t 42)], none⟩⟩
 (.op ⟨15, false, [], ⟨some 52, .call 53 [(.t 49), (.t 51)], none⟩⟩
 (.op ⟨16, false, [], ⟨some 53, .build [(.v (.int .i64 (0))), (.v (.string ⟨#[]⟩)), (.v (.string ⟨#[]⟩)), (.v (.int .i64 (0)))] [(0, 1, (.t 43)), (1, 1, (.t 45)), (2, 1, (.t 47)), (3, 1, (.t 52))], none⟩⟩
 (.op ⟨17, false, [], ⟨some 54, .bsl 85 4 1 [(.v (.int .i64 (0))), (.v (.string ⟨#[]⟩)), (.v (.string ⟨#[]⟩)), (.v (.int .i64 (0)))] [(0, 4, (.t 53))], none⟩⟩
 (.op ⟨18, false, [], ⟨some 55, .app 85 4 48 (.t 38) (.t 54), none⟩⟩
 (.op ⟨19, false, [], ⟨some 56, .fadr 1 (.t 7), none⟩⟩
 (.op ⟨20, false, [], ⟨none, .store 1 (.t 56) (.t 55), none⟩⟩
 .nil))))))))))))))))))))))))
 (.reg [⟨some 30, .mov (.t 8), none⟩, ⟨some 31, .bini .add (.t 30) (.c (.int .i64 (1))), none⟩, ⟨some 8, .mov (.t 31), none⟩]))))))
 (.seq (.reg [⟨some 57, .load true 3 (.t 7), none⟩, ⟨none, .store 3 (.t 2) (.t 57), none⟩, ⟨some 3, .mov (.c (.int .i64 (0))), none⟩, ⟨some 4, .mov (.c (.int .i64 (0))), none⟩])
 .ret))))))⟩
theorem t_hydrantref07_Build : trFn Try.prog 28 [([], (.first 0 (.first 1 (.first 2 (.first 3 (.first 4 (.first 5 (.first 7 (.first 8 (.first 9 (.first 10 (.first 11 (.first 12 (.first 13 (.first 14 (.exec 6 (.exec 15 (.first 16 (.exec 17 (.exec 18 (.first 19 (.exec 20 .nil))))))))))))))))))))))] [[8]] = some f_hydrantref07_Build := by kernel_rfl

abbrev n_hydrantlaw07_built : Nat := 29
theorem k_hydrantlaw07_built : FnOk Try.prog 29 := FnOk.of (by kernel_rfl)
/-- hydrant/hydrantlaw07.built -/
def f_hydrantlaw07_built : FnI := ⟨104, [.tmp 0],
 (.seq (.reg [⟨some 0, .mov (.b false), none⟩])
 (.seq (.reg [⟨some 14, .call 54 [], none⟩, ⟨some 1, .alloc 26 [(.v (.slice none 0 0)), (.v (.slice none 0 0)), (.v (.slice none 0 0))], none⟩, ⟨none, .store 3 (.t 1) (.t 14), none⟩])
 (.seq (.reg [⟨some 16, .load true 3 (.t 1), none⟩, ⟨some 17, .call 27 [(.t 16)], none⟩, ⟨some 15, .mov (.t 17), none⟩, ⟨some 18, .ext 0 (.t 15), none⟩, ⟨some 19, .ext 1 (.t 15), none⟩, ⟨some 20, .ext 2 (.t 15), none⟩, ⟨some 2, .alloc 50 [(.v (.slice none 0 0)), (.v (.slice none 0 0)), (.v (.slice none 0 0))], none⟩, ⟨none, .store 3 (.t 2) (.t 18), none⟩, ⟨some 3, .mov (.t 19), none⟩, ⟨some 4, .mov (.t 20), none⟩])
 (.seq (.reg [⟨some 22, .load true 3 (.t 2), none⟩, ⟨some 23, .call 35 [(.t 22), (.c (.string ⟨#[105, 110]⟩)), (.c (.string ⟨#[120]⟩)), (.c (.string ⟨#[47, 113]⟩))], none⟩, ⟨some 21, .mov (.t 23), none⟩, ⟨some 24, .ext 0 (.t 21), none⟩, ⟨some 25, .ext 1 (.t 21), none⟩, ⟨some 5, .mov (.t 24), none⟩, ⟨some 6, .mov (.t 25), none⟩])
 (.seq (.reg [⟨some 27, .load true 3 (.t 2), none⟩, ⟨some 28, .call 35 [(.t 27), (.c (.string ⟨#[111, 117, 116]⟩)), (.c (.string ⟨#[120]⟩)), (.c (.string ⟨#[47, 113]⟩))], none⟩, ⟨some 26, .mov (.t 28), none⟩, ⟨some 29, .ext 0 (.t 26), none⟩, ⟨some 30, .ext 1 (.t 26), none⟩, ⟨some 7, .mov (.t 29), none⟩, ⟨some 8, .mov (.t 30), none⟩])
 (.seq (.reg [⟨some 32, .load true 3 (.t 2), none⟩, ⟨some 33, .call 35 [(.t 32), (.c (.string ⟨#[105, 110]⟩)), (.c (.string ⟨#[120]⟩)), (.c (.string ⟨#[113]⟩))], none⟩, ⟨some 31, .mov (.t 33), none⟩, ⟨some 34, .ext 0 (.t 31), none⟩, ⟨some 35, .ext 1 (.t 31), none⟩, ⟨some 9, .mov (.t 34), none⟩, ⟨some 10, .mov (.t 35), none⟩])
 (.seq (.reg [⟨some 36, .fadr 1 (.t 1), none⟩, ⟨some 37, .load false 1 (.t 36), none⟩, ⟨some 38, .iadr 4 (.t 37) (.c (.int .i64 (1))), none⟩, ⟨some 39, .fadr 3 (.t 38), none⟩, ⟨none, .store 1 (.t 39) (.c (.string ⟨#[99]⟩)), none⟩])
 (.seq (.reg [⟨some 41, .load true 3 (.t 1), none⟩, ⟨some 42, .call 27 [(.t 41)], none⟩, ⟨some 40, .mov (.t 42), none⟩, ⟨some 43, .ext 0 (.t 40), none⟩, ⟨some 44, .ext 1 (.t 40), none⟩, ⟨some 45, .ext 2 (.t 40), none⟩, ⟨some 11, .alloc 50 [(.v (.slice none 0 0)), (.v (.slice none 0 0)), (.v (.slice none 0 0))], none⟩, ⟨none, .store 3 (.t 11) (.t 43), none⟩, ⟨some 12, .mov (.t 44), none⟩, ⟨some 13, .mov (.t 45), none⟩])
 (.seq (.seq (.reg [⟨some 46, .fadr 1 (.t 2), none⟩, ⟨some 47, .load false 1 (.t 46), none⟩, ⟨some 48, .len false (.t 47), none⟩, ⟨some 49, .bini .neq (.t 48) (.c (.int .i64 (2))), none⟩])
 (.cond (.t 49)
 (.seq (.reg [⟨some 0, .mov (.b false), none⟩])
 .ret)
 .skip))
 (.seq (.reg [⟨some 50, .mov (.t 3), none⟩, ⟨some 51, .bini .eql (.t 50) (.c (.int .i64 (0))), none⟩, ⟨some 52, .mov (.t 51), none⟩, ⟨some 53, .mov (.t 4), some (52, true)⟩, ⟨some 54, .bini .eql (.t 53) (.c (.int .i64 (0))), some (52, true)⟩, ⟨some 55, .pick (.t 52) (.t 54) (.b false), none⟩, ⟨some 56, .mov (.t 55), none⟩, ⟨some 57, .fadr 1 (.t 2), some (56, true)⟩, ⟨some 58, .load false 1 (.t 57), some (56, true)⟩, ⟨some 59, .iadr 4 (.t 58) (.c (.int .i64 (1))), some (56, true)⟩, ⟨some 60, .load true 4 (.t 59), some (56, true)⟩, ⟨some 61, .build [(.v (.int .i64 (0))), (.v (.string ⟨#[]⟩)), (.v (.string ⟨#[]⟩)), (.v (.int .i64 (0)))] [(1, 1, (.c (.string ⟨#[120]⟩))), (2, 1, (.c (.string ⟨#[47]⟩))), (3, 1, (.c (.int .i64 (1))))], some (56, true)⟩, ⟨some 62, .binst false [0, 1, 1, 0] (.t 60) (.t 61), some (56, true)⟩, ⟨some 63, .pick (.t 56) (.t 62) (.b false), none⟩, ⟨some 64, .mov (.t 63), none⟩, ⟨some 65, .mov (.t 6), some (64, true)⟩, ⟨some 66, .mov (.t 3), some (64, true)⟩, ⟨some 67, .bini .eql (.t 65) (.t 66), some (64, true)⟩, ⟨some 68, .pick (.t 64) (.t 67) (.b false), none⟩, ⟨some 69, .mov (.t 68), none⟩, ⟨some 70, .mov (.t 5), some (69, true)⟩, ⟨some 71, .bini .eql (.t 70) (.c (.int .i64 (1))), some (69, true)⟩, ⟨some 72, .pick (.t 69) (.t 71) (.b false), none⟩, ⟨some 73, .mov (.t 72), none⟩, ⟨some 74, .mov (.t 8), some (73, true)⟩, ⟨some 75, .bini .eql (.t 74) (.c (.int .i64 (3))), some (73, true)⟩, ⟨some 76, .pick (.t 73) (.t 75) (.b false), none⟩, ⟨some 77, .mov (.t 76), none⟩, ⟨some 78, .mov (.t 10), some (77, true)⟩, ⟨some 79, .bini .eql (.t 78) (.c (.int .i64 (5))), some (77, true)⟩, ⟨some 80, .pick (.t 77) (.t 79) (.b false), none⟩, ⟨some 81, .mov (.t 80), none⟩, ⟨some 82, .mov (.t 12), some (81, true)⟩, ⟨some 83, .bini .eql (.t 82) (.c (.int .i64 (5))), some (81, true)⟩, ⟨some 84, .pick (.t 81) (.t 83) (.b false), none⟩, ⟨some 85, .mov (.t 84), none⟩, ⟨some 86, .mov (.t 13), some (85, true)⟩, ⟨some 87, .bini .eql (.t 86) (.c (.int .i64 (1))), some (85, true)⟩, ⟨some 88, .pick (.t 85) (.t 87) (.b false), none⟩, ⟨some 89, .mov (.t 88), none⟩, ⟨some 90, .load true 3 (.t 2), some (89, true)⟩, ⟨some 91, .call 31 [(.t 90)], some (89, true)⟩, ⟨some 92, .pick (.t 89) (.t 91) (.b false), none⟩, ⟨some 93, .mov (.t 92), none⟩, ⟨some 94, .build [(.v (.slice none 0 0)), (.v (.slice none 0 0)), (.v (.slice none 0 0))] [], some (93, true)⟩, ⟨some 95, .call 31 [(.t 94)], some (93, true)⟩, ⟨some 96, .not (.t 95), some (93, true)⟩, ⟨some 97, .pick (.t 93) (.t 96) (.b false), none⟩, ⟨some 98, .mov (.t 97), none⟩, ⟨some 99, .load true 3 (.t 2), some (98, true)⟩, ⟨some 100, .call 33 [(.t 99)], some (98, true)⟩, ⟨some 101, .call 54 [], some (98, true)⟩, ⟨some 102, .call 32 [(.t 100), (.t 101)], some (98, true)⟩, ⟨some 103, .pick (.t 98) (.t 102) (.b false), none⟩, ⟨some 0, .mov (.t 103), none⟩])
 .ret))))))))))⟩
theorem t_hydrantlaw07_built : trFn Try.prog 29 [] [] = some f_hydrantlaw07_built := by kernel_rfl

abbrev n_hydrantref07_Same : Nat := 30
theorem k_hydrantref07_Same : FnOk Try.prog 30 := FnOk.of (by kernel_rfl)
/-- hydrant/hydrantref07.Same -/
def f_hydrantref07_Same : FnI := ⟨47, [.tmp 4],
 (.seq (.reg [⟨some 2, .box 50 (.t 0), none⟩, ⟨some 3, .box 50 (.t 1), none⟩, ⟨some 4, .mov (.b false), none⟩])
 (.seq (.seq (.reg [⟨some 6, .fadr 0 (.t 2), none⟩, ⟨some 7, .load false 1 (.t 6), none⟩, ⟨some 8, .fadr 0 (.t 3), none⟩, ⟨some 9, .load false 1 (.t 8), none⟩, ⟨some 10, .call 55 [(.t 7), (.t 9)], none⟩, ⟨some 11, .not (.t 10), none⟩, ⟨some 12, .mov (.t 11), none⟩, ⟨some 13, .fadr 2 (.t 2), some (12, false)⟩, ⟨some 14, .load false 1 (.t 13), some (12, false)⟩, ⟨some 15, .fadr 2 (.t 3), some (12, false)⟩, ⟨some 16, .load false 1 (.t 15), some (12, false)⟩, ⟨some 17, .call 56 [(.t 14), (.t 16)], some (12, false)⟩, ⟨some 18, .not (.t 17), some (12, false)⟩, ⟨some 19, .pick (.t 12) (.b true) (.t 18), none⟩, ⟨some 20, .mov (.t 19), none⟩, ⟨some 21, .fadr 1 (.t 2), some (20, false)⟩, ⟨some 22, .load false 1 (.t 21), some (20, false)⟩, ⟨some 23, .len false (.t 22), some (20, false)⟩, ⟨some 24, .fadr 1 (.t 3), some (20, false)⟩, ⟨some 25, .load false 1 (.t 24), some (20, false)⟩, ⟨some 26, .len false (.t 25), some (20, false)⟩, ⟨some 27, .bini .neq (.t 23) (.t 26), some (20, false)⟩, ⟨some 28, .pick (.t 20) (.b true) (.t 27), none⟩])
 (.cond (.t 28)
 (.seq (.reg [⟨some 4, .mov (.b false), none⟩])
 .ret)
 .skip))
 (.seq (.seq (.reg [⟨some 5, .mov (.c (.int .i64 (0))), none⟩])
 (.block 0
 (.loop [5] [29, 30, 31, 32, 33, 36, 37, 38, 39, 40, 41, 42, 43, 44, 45, 46, 4, 34, 35, 5]
 (.seq (.seq (.reg [⟨some 29, .mov (.t 5), none⟩, ⟨some 30, .fadr 1 (.t 2), none⟩, ⟨some 31, .load false 1 (.t 30), none⟩, ⟨some 32, .len false (.t 31), none⟩, ⟨some 33, .bini .lss (.t 29) (.t 32), none⟩])
 (.cond (.t 33)
 .skip
 (.exit 0)))
 (.seq (.block 1
 (.seq (.regD [] (.op ⟨0, false, [], ⟨some 36, .fadr 1 (.t 2), none⟩⟩
 (.op ⟨1, true, [], ⟨some 37, .load false 1 (.t 36), none⟩⟩
 (.op ⟨2, false, [], ⟨some 38, .mov (.t 5), none⟩⟩
 (.op ⟨3, true, [], ⟨some 39, .iadr 4 (.t 37) (.t 38), none⟩⟩
 (.op ⟨4, true, [], ⟨some 40, .load true 4 (.t 39), none⟩⟩
 (.op ⟨5, false, [], ⟨some 41, .fadr 1 (.t 3), none⟩⟩
 (.op ⟨6, true, [], ⟨some 42, .load false 1 (.t 41), none⟩⟩
 (.op ⟨7, false, [], ⟨some 43, .mov (.t 5), none⟩⟩
 (.op ⟨8, true, [], ⟨some 44, .iadr 4 (.t 42) (.t 43), none⟩⟩
 (.op ⟨9, true, [], ⟨some 45, .load true 4 (.t 44), none⟩⟩
 (.op ⟨10, false, [], ⟨some 46, .binst true [0, 1, 1, 0] (.t 40) (.t 45), none⟩⟩
 .nil))))))))))))
 (.cond (.t 46)
 (.seq (.reg [⟨some 4, .mov (.b false), none⟩])
 .ret)
 .skip)))
 (.reg [⟨some 34, .mov (.t 5), none⟩, ⟨some 35, .bini .add (.t 34) (.c (.int .i64 (1))), none⟩, ⟨some 5, .mov (.t 35), none⟩]))))))
 (.seq (.reg [⟨some 4, .mov (.b true), none⟩])
 .ret))))⟩
theorem t_hydrantref07_Same : trFn Try.prog 30 [([], (.first 0 (.first 1 (.first 2 (.first 3 (.first 4 (.first 5 (.first 6 (.first 7 (.first 8 (.first 9 (.first 10 .nil))))))))))))] [[5]] = some f_hydrantref07_Same := by kernel_rfl

abbrev n_snap_Is : Nat := 31
theorem k_snap_Is : FnOk Try.prog 31 := FnOk.of (by kernel_rfl)
/-- hydrant/snap.Is -/
def f_snap_Is : FnI := ⟨13, [.tmp 2],
 (.seq (.reg [⟨some 1, .box 50 (.t 0), none⟩, ⟨some 2, .mov (.b false), none⟩])
 (.seq (.reg [⟨some 6, .load true 3 (.t 1), none⟩, ⟨some 7, .call 33 [(.t 6)], none⟩, ⟨some 8, .call 25 [(.t 7)], none⟩, ⟨some 5, .mov (.t 8), none⟩, ⟨some 9, .ext 0 (.t 5), none⟩, ⟨some 10, .ext 1 (.t 5), none⟩, ⟨some 3, .mov (.t 9), none⟩, ⟨some 4, .mov (.t 10), none⟩])
 (.seq (.reg [⟨some 11, .mov (.t 3), none⟩, ⟨some 12, .bini .eql (.t 11) (.c (.int .i64 (0))), none⟩, ⟨some 2, .mov (.t 12), none⟩])
 .ret)))⟩
theorem t_snap_Is : trFn Try.prog 31 [] [] = some f_snap_Is := by kernel_rfl

abbrev n_hydrantref07_SameConfigs : Nat := 32
theorem k_hydrantref07_SameConfigs : FnOk Try.prog 32 := FnOk.of (by kernel_rfl)
/-- hydrant/hydrantref07.SameConfigs -/
def f_hydrantref07_SameConfigs : FnI := ⟨47, [.tmp 4],
 (.seq (.reg [⟨some 2, .box 26 (.t 0), none⟩, ⟨some 3, .box 26 (.t 1), none⟩, ⟨some 4, .mov (.b false), none⟩])
 (.seq (.seq (.reg [⟨some 6, .fadr 0 (.t 2), none⟩, ⟨some 7, .load false 1 (.t 6), none⟩, ⟨some 8, .fadr 0 (.t 3), none⟩, ⟨some 9, .load false 1 (.t 8), none⟩, ⟨some 10, .call 55 [(.t 7), (.t 9)], none⟩, ⟨some 11, .not (.t 10), none⟩, ⟨some 12, .mov (.t 11), none⟩, ⟨some 13, .fadr 2 (.t 2), some (12, false)⟩, ⟨some 14, .load false 1 (.t 13), some (12, false)⟩, ⟨some 15, .fadr 2 (.t 3), some (12, false)⟩, ⟨some 16, .load false 1 (.t 15), some (12, false)⟩, ⟨some 17, .call 56 [(.t 14), (.t 16)], some (12, false)⟩, ⟨some 18, .not (.t 17), some (12, false)⟩, ⟨some 19, .pick (.t 12) (.b true) (.t 18), none⟩, ⟨some 20, .mov (.t 19), none⟩, ⟨some 21, .fadr 1 (.t 2), some (20, false)⟩, ⟨some 22, .load false 1 (.t 21), some (20, false)⟩, ⟨some 23, .len false (.t 22), some (20, false)⟩, ⟨some 24, .fadr 1 (.t 3), some (20, false)⟩, ⟨some 25, .load false 1 (.t 24), some (20, false)⟩, ⟨some 26, .len false (.t 25), some (20, false)⟩, ⟨some 27, .bini .neq (.t 23) (.t 26), some (20, false)⟩, ⟨some 28, .pick (.t 20) (.b true) (.t 27), none⟩])
 (.cond (.t 28)
 (.seq (.reg [⟨some 4, .mov (.b false), none⟩])
 .ret)
 .skip))
 (.seq (.seq (.reg [⟨some 5, .mov (.c (.int .i64 (0))), none⟩])
 (.block 0
 (.loop [5] [29, 30, 31, 32, 33, 36, 37, 38, 39, 40, 41, 42, 43, 44, 45, 46, 4, 34, 35, 5]
 (.seq (.seq (.reg [⟨some 29, .mov (.t 5), none⟩, ⟨some 30, .fadr 1 (.t 2), none⟩, ⟨some 31, .load false 1 (.t 30), none⟩, ⟨some 32, .len false (.t 31), none⟩, ⟨some 33, .bini .lss (.t 29) (.t 32), none⟩])
 (.cond (.t 33)
 .skip
 (.exit 0)))
 (.seq (.block 1
 (.seq (.regD [] (.op ⟨0, false, [], ⟨some 36, .fadr 1 (.t 2), none⟩⟩
 (.op ⟨1, true, [], ⟨some 37, .load false 1 (.t 36), none⟩⟩
 (.op ⟨2, false, [], ⟨some 38, .mov (.t 5), none⟩⟩
 (.op ⟨3, true, [], ⟨some 39, .iadr 4 (.t 37) (.t 38), none⟩⟩
 (.op ⟨4, true, [], ⟨some 40, .load true 4 (.t 39), none⟩⟩
 (.op ⟨5, false, [], ⟨some 41, .fadr 1 (.t 3), none⟩⟩
 (.op ⟨6, true, [], ⟨some 42, .load false 1 (.t 41), none⟩⟩
 (.op ⟨7, false, [], ⟨some 43, .mov (.t 5), none⟩⟩
 (.op ⟨8, true, [], ⟨some 44, .iadr 4 (.t 42) (.t 43), none⟩⟩
 (.op ⟨9, true, [], ⟨some 45, .load true 4 (.t 44), none⟩⟩
 (.op ⟨10, false, [], ⟨some 46, .binst true [1, 1, 1, 1] (.t 40) (.t 45), none⟩⟩
 .nil))))))))))))
 (.cond (.t 46)
 (.seq (.reg [⟨some 4, .mov (.b false), none⟩])
 .ret)
 .skip)))
 (.reg [⟨some 34, .mov (.t 5), none⟩, ⟨some 35, .bini .add (.t 34) (.c (.int .i64 (1))), none⟩, ⟨some 5, .mov (.t 35), none⟩]))))))
 (.seq (.reg [⟨some 4, .mov (.b true), none⟩])
 .ret))))⟩
theorem t_hydrantref07_SameConfigs : trFn Try.prog 32 [([], (.first 0 (.first 1 (.first 2 (.first 3 (.first 4 (.first 5 (.first 6 (.first 7 (.first 8 (.first 9 (.first 10 .nil))))))))))))] [[5]] = some f_hydrantref07_SameConfigs := by kernel_rfl

abbrev n_snap_Config : Nat := 33
theorem k_snap_Config : FnOk Try.prog 33 := FnOk.of (by kernel_rfl)
/-- hydrant/snap.Config -/
def f_snap_Config : FnI := ⟨69, [.cell 2 3 true],
 (.seq (.reg [⟨some 1, .box 50 (.t 0), none⟩, ⟨some 2, .alloc 26 [(.v (.slice none 0 0)), (.v (.slice none 0 0)), (.v (.slice none 0 0))], none⟩])
 (.seq (.reg [⟨some 7, .fadr 0 (.t 1), none⟩, ⟨some 8, .load false 1 (.t 7), none⟩, ⟨some 9, .fadr 2 (.t 1), none⟩, ⟨some 10, .load false 1 (.t 9), none⟩, ⟨some 11, .build [(.v (.slice none 0 0)), (.v (.slice none 0 0)), (.v (.slice none 0 0))] [(0, 1, (.t 8)), (2, 1, (.t 10))], none⟩, ⟨some 3, .alloc 26 [(.v (.slice none 0 0)), (.v (.slice none 0 0)), (.v (.slice none 0 0))], none⟩, ⟨none, .store 3 (.t 3) (.t 11), none⟩])
 (.seq (.seq (.reg [⟨some 12, .fadr 1 (.t 1), none⟩, ⟨some 13, .load false 1 (.t 12), none⟩, ⟨some 14, .len false (.t 13), none⟩, ⟨some 15, .mov (.c (.int .i64 (0))), none⟩])
 (.block 0
 (.loop [15] [16, 17, 18, 5, 19, 20, 21, 22, 23, 6, 24, 25, 26, 27, 28, 29, 30, 31, 32, 33, 34, 35, 36, 37, 38, 39, 40, 41, 42, 43, 44, 45, 46, 47, 48, 49, 50, 51, 52, 53, 54, 55, 56, 57, 58, 59, 60, 61, 62, 63, 64, 65, 66, 67, 15]
 (.seq (.reg [⟨some 16, .bini .lss (.t 15) (.t 14), none⟩])
 (.seq (.cond (.t 16)
 .skip
 (.exit 0))
 (.seq (.block 1
 (.seq (.reg [⟨some 17, .iadr 4 (.t 13) (.t 15), none⟩, ⟨some 18, .load true 4 (.t 17), none⟩, ⟨some 5, .alloc 85 [(.v (.int .i64 (0))), (.v (.string ⟨#[]⟩)), (.v (.string ⟨#[]⟩)), (.v (.int .i64 (0)))], none⟩, ⟨none, .store 4 (.t 5) (.t 18), none⟩])
 (.seq (.reg [⟨some 19, .fadr 1 (.t 5), none⟩, ⟨some 20, .load false 1 (.t 19), none⟩, ⟨some 21, .fadr 2 (.t 5), none⟩, ⟨some 22, .load false 1 (.t 21), none⟩, ⟨some 23, .build [(.v (.string ⟨#[]⟩)), (.v (.string ⟨#[]⟩)), (.v (.string ⟨#[]⟩)), (.v (.string ⟨#[]⟩))] [(1, 1, (.t 20)), (2, 1, (.t 22))], none⟩, ⟨some 6, .alloc 81 [(.v (.string ⟨#[]⟩)), (.v (.string ⟨#[]⟩)), (.v (.string ⟨#[]⟩)), (.v (.string ⟨#[]⟩))], none⟩, ⟨none, .store 4 (.t 6) (.t 23), none⟩])
 (.seq (.seq (.reg [⟨some 24, .fadr 0 (.t 5), none⟩, ⟨some 25, .load false 1 (.t 24), none⟩, ⟨some 26, .bini .geq (.t 25) (.c (.int .i64 (0))), none⟩, ⟨some 27, .mov (.t 26), none⟩, ⟨some 28, .fadr 0 (.t 5), some (27, true)⟩, ⟨some 29, .load false 1 (.t 28), some (27, true)⟩, ⟨some 30, .fadr 0 (.t 1), some (27, true)⟩, ⟨some 31, .load false 1 (.t 30), some (27, true)⟩, ⟨some 32, .len false (.t 31), some (27, true)⟩, ⟨some 33, .bini .lss (.t 29) (.t 32), some (27, true)⟩, ⟨some 34, .pick (.t 27) (.t 33) (.b false), none⟩])
 (.cond (.t 34)
 (.reg [⟨some 35, .fadr 0 (.t 1), none⟩, ⟨some 36, .load false 1 (.t 35), none⟩, ⟨some 37, .fadr 0 (.t 5), none⟩, ⟨some 38, .load false 1 (.t 37), none⟩, ⟨some 39, .iadr 1 (.t 36) (.t 38), none⟩, ⟨some 40, .load false 1 (.t 39), none⟩, ⟨some 41, .fadr 0 (.t 6), none⟩, ⟨none, .store 1 (.t 41) (.t 40), none⟩])
 .skip))
 (.seq (.seq (.reg [⟨some 42, .fadr 3 (.t 5), none⟩, ⟨some 43, .load false 1 (.t 42), none⟩, ⟨some 44, .bini .geq (.t 43) (.c (.int .i64 (0))), none⟩, ⟨some 45, .mov (.t 44), none⟩, ⟨some 46, .fadr 3 (.t 5), some (45, true)⟩, ⟨some 47, .load false 1 (.t 46), some (45, true)⟩, ⟨some 48, .fadr 2 (.t 1), some (45, true)⟩, ⟨some 49, .load false 1 (.t 48), some (45, true)⟩, ⟨some 50, .len false (.t 49), some (45, true)⟩, ⟨some 51, .bini .lss (.t 47) (.t 50), some (45, true)⟩, ⟨some 52, .pick (.t 45) (.t 51) (.b false), none⟩])
 (.cond (.t 52)
 (.reg [⟨some 53, .fadr 2 (.t 1), none⟩, ⟨some 54, .load false 1 (.t 53), none⟩, ⟨some 55, .fadr 3 (.t 5), none⟩, ⟨some 56, .load false 1 (.t 55), none⟩, ⟨some 57, .iadr 4 (.t 54) (.t 56), none⟩, ⟨some 58, .fadr 0 (.t 57), none⟩, ⟨some 59, .load false 1 (.t 58), none⟩, ⟨some 60, .fadr 3 (.t 6), none⟩, ⟨none, .store 1 (.t 60) (.t 59), none⟩])
 .skip))
 (.reg [⟨some 61, .fadr 1 (.t 3), none⟩, ⟨some 62, .load false 1 (.t 61), none⟩, ⟨some 63, .load true 4 (.t 6), none⟩, ⟨some 64, .bsl 81 4 1 [(.v (.string ⟨#[]⟩)), (.v (.string ⟨#[]⟩)), (.v (.string ⟨#[]⟩)), (.v (.string ⟨#[]⟩))] [(0, 4, (.t 63))], none⟩, ⟨some 65, .app 81 4 64 (.t 62) (.t 64), none⟩, ⟨some 66, .fadr 1 (.t 3), none⟩, ⟨none, .store 1 (.t 66) (.t 65), none⟩]))))))
 (.reg [⟨some 67, .bini .add (.t 15) (.c (.int .i64 (1))), none⟩, ⟨some 15, .mov (.t 67), none⟩])))))))
 (.seq (.reg [⟨some 68, .load true 3 (.t 3), none⟩, ⟨none, .store 3 (.t 2) (.t 68), none⟩])
 .ret))))⟩
theorem t_snap_Config : trFn Try.prog 33 [] [[15]] = some f_snap_Config := by kernel_rfl

abbrev n_hydrantlaw07_big : Nat := 34
theorem k_hydrantlaw07_big : FnOk Try.prog 34 := FnOk.of (by kernel_rfl)
/-- hydrant/hydrantlaw07.big -/
def f_hydrantlaw07_big : FnI := ⟨14, [.tmp 2],
 (.seq (.reg [⟨some 1, .box 50 (.t 0), none⟩, ⟨some 2, .mov (.b false), none⟩])
 (.seq (.reg [⟨some 3, .fadr 1 (.t 1), none⟩, ⟨some 4, .load false 1 (.t 3), none⟩, ⟨some 5, .call 57 [(.t 4)], none⟩, ⟨some 6, .mov (.t 5), none⟩, ⟨some 7, .fadr 0 (.t 1), some (6, false)⟩, ⟨some 8, .load false 1 (.t 7), some (6, false)⟩, ⟨some 9, .fadr 2 (.t 1), some (6, false)⟩, ⟨some 10, .load false 1 (.t 9), some (6, false)⟩, ⟨some 11, .build [(.v (.slice none 0 0)), (.v (.slice none 0 0)), (.v (.slice none 0 0))] [(0, 1, (.t 8)), (2, 1, (.t 10))], some (6, false)⟩, ⟨some 12, .call 26 [(.t 11)], some (6, false)⟩, ⟨some 13, .pick (.t 6) (.b true) (.t 12), none⟩, ⟨some 2, .mov (.t 13), none⟩])
 .ret))⟩
theorem t_hydrantlaw07_big : trFn Try.prog 34 [] [] = some f_hydrantlaw07_big := by kernel_rfl

abbrev n_snap_Find : Nat := 35
theorem k_snap_Find : FnOk Try.prog 35 := FnOk.of (by kernel_rfl)
/-- hydrant/snap.Find -/
def f_snap_Find : FnI := ⟨37, [.tmp 8, .tmp 9],
 (.seq (.reg [⟨some 4, .box 50 (.t 0), none⟩, ⟨some 8, .mov (.c (.int .i64 (0))), none⟩, ⟨some 9, .mov (.c (.int .i64 (0))), none⟩])
 (.seq (.reg [⟨some 13, .fadr 0 (.t 4), none⟩, ⟨some 14, .load false 1 (.t 13), none⟩, ⟨some 15, .mov (.t 1), none⟩, ⟨some 16, .call 50 [(.t 14), (.t 15)], none⟩, ⟨some 10, .mov (.t 16), none⟩])
 (.seq (.seq (.reg [⟨some 17, .mov (.t 10), none⟩, ⟨some 18, .bini .lss (.t 17) (.c (.int .i64 (0))), none⟩])
 (.cond (.t 18)
 (.seq (.reg [⟨some 8, .mov (.c (.int .i64 (0))), none⟩, ⟨some 9, .mov (.c (.int .i64 (3))), none⟩])
 .ret)
 .skip))
 (.seq (.reg [⟨some 20, .fadr 1 (.t 4), none⟩, ⟨some 21, .load false 1 (.t 20), none⟩, ⟨some 22, .mov (.t 10), none⟩, ⟨some 23, .mov (.t 2), none⟩, ⟨some 24, .mov (.t 3), none⟩, ⟨some 25, .call 58 [(.t 21), (.t 22), (.t 23), (.t 24)], none⟩, ⟨some 19, .mov (.t 25), none⟩, ⟨some 26, .ext 0 (.t 19), none⟩, ⟨some 27, .ext 1 (.t 19), none⟩, ⟨some 11, .mov (.t 26), none⟩, ⟨some 12, .mov (.t 27), none⟩])
 (.seq (.seq (.reg [⟨some 28, .mov (.t 12), none⟩, ⟨some 29, .bini .neq (.t 28) (.c (.int .i64 (0))), none⟩])
 (.cond (.t 29)
 (.seq (.reg [⟨some 30, .mov (.t 12), none⟩, ⟨some 8, .mov (.c (.int .i64 (0))), none⟩, ⟨some 9, .mov (.t 30), none⟩])
 .ret)
 .skip))
 (.seq (.reg [⟨some 31, .fadr 1 (.t 4), none⟩, ⟨some 32, .load false 1 (.t 31), none⟩, ⟨some 33, .mov (.t 11), none⟩, ⟨some 34, .iadr 4 (.t 32) (.t 33), none⟩, ⟨some 35, .fadr 3 (.t 34), none⟩, ⟨some 36, .load false 1 (.t 35), none⟩, ⟨some 8, .mov (.t 36), none⟩, ⟨some 9, .mov (.c (.int .i64 (0))), none⟩])
 .ret))))))⟩
theorem t_snap_Find : trFn Try.prog 35 [] [] = some f_snap_Find := by kernel_rfl

abbrev n_hydrantlaw08_plain : Nat := 36
theorem k_hydrantlaw08_plain : FnOk Try.prog 36 := FnOk.of (by kernel_rfl)
/-- hydrant/hydrantlaw08.plain -/
def f_hydrantlaw08_plain : FnI := ⟨21, [.cell 0 5 true],
 (.seq (.reg [⟨some 0, .alloc 30 [(.v (.slice none 0 0)), (.v (.slice none 0 0)), (.v (.slice none 0 0)), (.v (.slice none 0 0)), (.v (.slice none 0 0))], none⟩])
 (.seq (.reg [⟨some 3, .bsl 9 1 1 [(.v (.string ⟨#[]⟩))] [(0, 1, (.c (.string ⟨#[105, 110]⟩)))], none⟩, ⟨some 4, .bsl 4 1 1 [(.v (.bool false))] [(0, 1, (.b true))], none⟩, ⟨some 5, .build [(.v (.string ⟨#[]⟩)), (.v (.int .i64 (0))), (.v (.int .i64 (0))), (.v (.slice none 0 0))] [(0, 1, (.c (.string ⟨#[97]⟩))), (1, 1, (.c (.int .i64 (1)))), (2, 1, (.c (.int .i64 (1)))), (3, 1, (.t 4))], none⟩, ⟨some 6, .bsl 79 4 1 [(.v (.string ⟨#[]⟩)), (.v (.int .i64 (0))), (.v (.int .i64 (0))), (.v (.slice none 0 0))] [(0, 4, (.t 5))], none⟩, ⟨some 7, .build [(.v (.string ⟨#[]⟩)), (.v (.string ⟨#[]⟩)), (.v (.string ⟨#[]⟩)), (.v (.string ⟨#[]⟩))] [(0, 1, (.c (.string ⟨#[105, 110]⟩))), (1, 1, (.c (.string ⟨#[42]⟩))), (2, 1, (.c (.string ⟨#[47]⟩))), (3, 1, (.c (.string ⟨#[97]⟩)))], none⟩, ⟨some 8, .bsl 81 4 1 [(.v (.string ⟨#[]⟩)), (.v (.string ⟨#[]⟩)), (.v (.string ⟨#[]⟩)), (.v (.string ⟨#[]⟩))] [(0, 4, (.t 7))], none⟩, ⟨some 9, .build [(.v (.slice none 0 0)), (.v (.slice none 0 0)), (.v (.slice none 0 0))] [(0, 1, (.t 3)), (2, 1, (.t 6)), (1, 1, (.t 8))], none⟩, ⟨some 1, .alloc 26 [(.v (.slice none 0 0)), (.v (.slice none 0 0)), (.v (.slice none 0 0))], none⟩, ⟨none, .store 3 (.t 1) (.t 9), none⟩])
 (.seq (.reg [⟨some 10, .load true 3 (.t 1), none⟩, ⟨some 2, .alloc 26 [(.v (.slice none 0 0)), (.v (.slice none 0 0)), (.v (.slice none 0 0))], none⟩, ⟨none, .store 3 (.t 2) (.t 10), none⟩])
 (.seq (.reg [⟨some 11, .bsl 9 1 2 [(.v (.string ⟨#[]⟩)), (.v (.string ⟨#[]⟩))] [(0, 1, (.c (.string ⟨#[119, 101, 98]⟩))), (1, 1, (.c (.string ⟨#[105, 110]⟩)))], none⟩, ⟨some 12, .fadr 0 (.t 2), none⟩, ⟨none, .store 1 (.t 12) (.t 11), none⟩])
 (.seq (.reg [⟨some 13, .load true 3 (.t 1), none⟩, ⟨some 14, .load true 3 (.t 2), none⟩, ⟨some 15, .build [(.v (.int .i64 (0))), (.v (.string ⟨#[]⟩)), (.v (.string ⟨#[]⟩)), (.v (.string ⟨#[]⟩)), (.v (.int .i64 (0))), (.v (.int .i64 (0))), (.v (.int .i64 (0))), (.v (.slice none 0 0)), (.v (.slice none 0 0)), (.v (.slice none 0 0))] [(0, 1, (.c (.int .i64 (3)))), (7, 3, (.t 14))], none⟩, ⟨some 16, .build [(.v (.int .i64 (0))), (.v (.string ⟨#[]⟩)), (.v (.string ⟨#[]⟩)), (.v (.string ⟨#[]⟩)), (.v (.int .i64 (0))), (.v (.int .i64 (0))), (.v (.int .i64 (0))), (.v (.slice none 0 0)), (.v (.slice none 0 0)), (.v (.slice none 0 0))] [(0, 1, (.c (.int .i64 (3))))], none⟩, ⟨some 17, .bsl 61 10 2 [(.v (.int .i64 (0))), (.v (.string ⟨#[]⟩)), (.v (.string ⟨#[]⟩)), (.v (.string ⟨#[]⟩)), (.v (.int .i64 (0))), (.v (.int .i64 (0))), (.v (.int .i64 (0))), (.v (.slice none 0 0)), (.v (.slice none 0 0)), (.v (.slice none 0 0)), (.v (.int .i64 (0))), (.v (.string ⟨#[]⟩)), (.v (.string ⟨#[]⟩)), (.v (.string ⟨#[]⟩)), (.v (.int .i64 (0))), (.v (.int .i64 (0))), (.v (.int .i64 (0))), (.v (.slice none 0 0)), (.v (.slice none 0 0)), (.v (.slice none 0 0))] [(0, 10, (.t 15)), (10, 10, (.t 16))], none⟩, ⟨some 18, .bsl 46 1 1 [(.v (.slice none 0 0))] [(0, 1, (.t 17))], none⟩, ⟨some 19, .bsl 3 1 2 [(.v (.int .i64 (0))), (.v (.int .i64 (0)))] [(0, 1, (.c (.int .i64 (0)))), (1, 1, (.c (.int .i64 (300))))], none⟩, ⟨some 20, .build [(.v (.slice none 0 0)), (.v (.slice none 0 0)), (.v (.slice none 0 0)), (.v (.slice none 0 0)), (.v (.slice none 0 0))] [(0, 3, (.t 13)), (3, 1, (.t 18)), (4, 1, (.t 19))], none⟩, ⟨none, .store 5 (.t 0) (.t 20), none⟩])
 .ret)))))⟩
theorem t_hydrantlaw08_plain : trFn Try.prog 36 [] [] = some f_hydrantlaw08_plain := by kernel_rfl

abbrev n_script_right : Nat := 37
theorem k_script_right : FnOk Try.prog 37 := FnOk.of (by kernel_rfl)
/-- hydrant/script.right -/
def f_script_right : FnI := ⟨12, [.tmp 2],
 (.seq (.reg [⟨some 1, .box 26 (.t 0), none⟩, ⟨some 2, .mov (.b false), none⟩])
 (.seq (.reg [⟨some 6, .load true 3 (.t 1), none⟩, ⟨some 7, .call 25 [(.t 6)], none⟩, ⟨some 5, .mov (.t 7), none⟩, ⟨some 8, .ext 0 (.t 5), none⟩, ⟨some 9, .ext 1 (.t 5), none⟩, ⟨some 3, .mov (.t 8), none⟩, ⟨some 4, .mov (.t 9), none⟩])
 (.seq (.reg [⟨some 10, .mov (.t 3), none⟩, ⟨some 11, .bini .eql (.t 10) (.c (.int .i64 (0))), none⟩, ⟨some 2, .mov (.t 11), none⟩])
 .ret)))⟩
theorem t_script_right : trFn Try.prog 37 [] [] = some f_script_right := by kernel_rfl

abbrev n_slices_ContainsFunc___api_Op_api_Op : Nat := 38
theorem k_slices_ContainsFunc___api_Op_api_Op : FnOk Try.prog 38 := FnOk.of (by kernel_rfl)
/-- slices.ContainsFunc[[]hydrant/api.Op,hydrant/api.Op] -/
def f_slices_ContainsFunc___api_Op_api_Op : FnI := ⟨9, [.tmp 4],
 (.seq (.reg [⟨some 4, .mov (.b false), none⟩])
 (.seq (.reg [⟨some 5, .mov (.t 0), none⟩, ⟨some 6, .mov (.t 1), none⟩, ⟨some 7, .call 59 [(.t 5), (.t 6)], none⟩, ⟨some 8, .bini .geq (.t 7) (.c (.int .i64 (0))), none⟩, ⟨some 4, .mov (.t 8), none⟩])
 .ret))⟩
theorem t_slices_ContainsFunc___api_Op_api_Op : trFn Try.prog 38 [] [] = some f_slices_ContainsFunc___api_Op_api_Op := by kernel_rfl

abbrev n_script_Is_1 : Nat := 39
theorem k_script_Is_1 : FnOk Try.prog 39 := FnOk.of (by kernel_rfl)
/-- hydrant/script.Is$1 -/
def f_script_Is_1 : FnI := ⟨11, [.tmp 2],
 (.seq (.reg [⟨some 1, .box 61 (.t 0), none⟩, ⟨some 2, .mov (.b false), none⟩])
 (.seq (.reg [⟨some 3, .fadr 0 (.t 1), none⟩, ⟨some 4, .load false 1 (.t 3), none⟩, ⟨some 5, .bini .lss (.t 4) (.c (.int .i64 (1))), none⟩, ⟨some 6, .mov (.t 5), none⟩, ⟨some 7, .fadr 0 (.t 1), some (6, false)⟩, ⟨some 8, .load false 1 (.t 7), some (6, false)⟩, ⟨some 9, .bini .gtr (.t 8) (.c (.int .i64 (6))), some (6, false)⟩, ⟨some 10, .pick (.t 6) (.b true) (.t 9), none⟩, ⟨some 2, .mov (.t 10), none⟩])
 .ret))⟩
theorem t_script_Is_1 : trFn Try.prog 39 [] [] = some f_script_Is_1 := by kernel_rfl

abbrev n_slices_ContainsFunc___int_int : Nat := 40
theorem k_slices_ContainsFunc___int_int : FnOk Try.prog 40 := FnOk.of (by kernel_rfl)
/-- slices.ContainsFunc[[]int,int] -/
def f_slices_ContainsFunc___int_int : FnI := ⟨9, [.tmp 4],
 (.seq (.reg [⟨some 4, .mov (.b false), none⟩])
 (.seq (.reg [⟨some 5, .mov (.t 0), none⟩, ⟨some 6, .mov (.t 1), none⟩, ⟨some 7, .call 60 [(.t 5), (.t 6)], none⟩, ⟨some 8, .bini .geq (.t 7) (.c (.int .i64 (0))), none⟩, ⟨some 4, .mov (.t 8), none⟩])
 .ret))⟩
theorem t_slices_ContainsFunc___int_int : trFn Try.prog 40 [] [] = some f_slices_ContainsFunc___int_int := by kernel_rfl

abbrev n_script_Is_2 : Nat := 41
theorem k_script_Is_2 : FnOk Try.prog 41 := FnOk.of (by kernel_rfl)
/-- hydrant/script.Is$2 -/
def f_script_Is_2 : FnI := ⟨5, [.tmp 2],
 (.seq (.reg [⟨some 2, .mov (.b false), none⟩])
 (.seq (.reg [⟨some 3, .mov (.t 0), none⟩, ⟨some 4, .bini .lss (.t 3) (.c (.int .i64 (0))), none⟩, ⟨some 2, .mov (.t 4), none⟩])
 .ret))⟩
theorem t_script_Is_2 : trFn Try.prog 41 [] [] = some f_script_Is_2 := by kernel_rfl

abbrev n_hydrantref05_Check : Nat := 42
theorem k_hydrantref05_Check : FnOk Try.prog 42 := FnOk.of (by kernel_rfl)
/-- hydrant/hydrantref05.Check -/
def f_hydrantref05_Check : FnI := ⟨69, [.tmp 2, .tmp 3],
 (.seq (.reg [⟨some 1, .box 26 (.t 0), none⟩, ⟨some 2, .mov (.c (.int .i64 (0))), none⟩, ⟨some 3, .mov (.c (.int .i64 (0))), none⟩])
 (.seq (.seq (.reg [⟨some 10, .fadr 0 (.t 1), none⟩, ⟨some 11, .load false 1 (.t 10), none⟩, ⟨some 12, .len false (.t 11), none⟩, ⟨some 13, .bini .lss (.t 12) (.c (.int .i64 (1))), none⟩, ⟨some 14, .mov (.t 13), none⟩, ⟨some 15, .fadr 0 (.t 1), some (14, false)⟩, ⟨some 16, .load false 1 (.t 15), some (14, false)⟩, ⟨some 17, .len false (.t 16), some (14, false)⟩, ⟨some 18, .bini .gtr (.t 17) (.c (.int .i64 (4))), some (14, false)⟩, ⟨some 19, .pick (.t 14) (.b true) (.t 18), none⟩, ⟨some 20, .mov (.t 19), none⟩, ⟨some 21, .fadr 1 (.t 1), some (20, false)⟩, ⟨some 22, .load false 1 (.t 21), some (20, false)⟩, ⟨some 23, .len false (.t 22), some (20, false)⟩, ⟨some 24, .bini .lss (.t 23) (.c (.int .i64 (1))), some (20, false)⟩, ⟨some 25, .pick (.t 20) (.b true) (.t 24), none⟩, ⟨some 26, .mov (.t 25), none⟩, ⟨some 27, .fadr 1 (.t 1), some (26, false)⟩, ⟨some 28, .load false 1 (.t 27), some (26, false)⟩, ⟨some 29, .len false (.t 28), some (26, false)⟩, ⟨some 30, .bini .gtr (.t 29) (.c (.int .i64 (8))), some (26, false)⟩, ⟨some 31, .pick (.t 26) (.b true) (.t 30), none⟩, ⟨some 32, .mov (.t 31), none⟩, ⟨some 33, .fadr 2 (.t 1), some (32, false)⟩, ⟨some 34, .load false 1 (.t 33), some (32, false)⟩, ⟨some 35, .len false (.t 34), some (32, false)⟩, ⟨some 36, .bini .lss (.t 35) (.c (.int .i64 (1))), some (32, false)⟩, ⟨some 37, .pick (.t 32) (.b true) (.t 36), none⟩, ⟨some 38, .mov (.t 37), none⟩, ⟨some 39, .fadr 2 (.t 1), some (38, false)⟩, ⟨some 40, .load false 1 (.t 39), some (38, false)⟩, ⟨some 41, .len false (.t 40), some (38, false)⟩, ⟨some 42, .bini .gtr (.t 41) (.c (.int .i64 (4))), some (38, false)⟩, ⟨some 43, .pick (.t 38) (.b true) (.t 42), none⟩])
 (.cond (.t 43)
 (.seq (.reg [⟨some 2, .mov (.c (.int .i64 (6))), none⟩, ⟨some 3, .mov (.c (.int .i64 (0))), none⟩])
 .ret)
 .skip))
 (.seq (.reg [⟨some 45, .load true 3 (.t 1), none⟩, ⟨some 46, .call 61 [(.t 45)], none⟩, ⟨some 44, .mov (.t 46), none⟩, ⟨some 47, .ext 0 (.t 44), none⟩, ⟨some 48, .ext 1 (.t 44), none⟩, ⟨some 4, .mov (.t 47), none⟩, ⟨some 5, .mov (.t 48), none⟩])
 (.seq (.seq (.reg [⟨some 49, .mov (.t 4), none⟩, ⟨some 50, .bini .neq (.t 49) (.c (.int .i64 (0))), none⟩])
 (.cond (.t 50)
 (.seq (.reg [⟨some 51, .mov (.t 4), none⟩, ⟨some 52, .mov (.t 5), none⟩, ⟨some 2, .mov (.t 51), none⟩, ⟨some 3, .mov (.t 52), none⟩])
 .ret)
 .skip))
 (.seq (.reg [⟨some 54, .load true 3 (.t 1), none⟩, ⟨some 55, .call 62 [(.t 54)], none⟩, ⟨some 53, .mov (.t 55), none⟩, ⟨some 56, .ext 0 (.t 53), none⟩, ⟨some 57, .ext 1 (.t 53), none⟩, ⟨some 6, .mov (.t 56), none⟩, ⟨some 7, .mov (.t 57), none⟩])
 (.seq (.seq (.reg [⟨some 58, .mov (.t 6), none⟩, ⟨some 59, .bini .neq (.t 58) (.c (.int .i64 (0))), none⟩])
 (.cond (.t 59)
 (.seq (.reg [⟨some 60, .mov (.t 6), none⟩, ⟨some 61, .mov (.t 7), none⟩, ⟨some 2, .mov (.t 60), none⟩, ⟨some 3, .mov (.t 61), none⟩])
 .ret)
 .skip))
 (.seq (.reg [⟨some 63, .load true 3 (.t 1), none⟩, ⟨some 64, .call 63 [(.t 63)], none⟩, ⟨some 62, .mov (.t 64), none⟩, ⟨some 65, .ext 0 (.t 62), none⟩, ⟨some 66, .ext 1 (.t 62), none⟩, ⟨some 8, .mov (.t 65), none⟩, ⟨some 9, .mov (.t 66), none⟩])
 (.seq (.reg [⟨some 67, .mov (.t 8), none⟩, ⟨some 68, .mov (.t 9), none⟩, ⟨some 2, .mov (.t 67), none⟩, ⟨some 3, .mov (.t 68), none⟩])
 .ret))))))))⟩
theorem t_hydrantref05_Check : trFn Try.prog 42 [] [] = some f_hydrantref05_Check := by kernel_rfl

abbrev n_script_configs : Nat := 43
theorem k_script_configs : FnOk Try.prog 43 := FnOk.of (by kernel_rfl)
/-- hydrant/script.configs -/
def f_script_configs : FnI := ⟨4, [.tmp 2],
 (.seq (.reg [⟨some 1, .box 30 (.t 0), none⟩, ⟨some 2, .mov (.c .nilFunc), none⟩])
 (.seq (.reg [⟨some 3, .mkf (.func 64) [] [(.t 1)], none⟩, ⟨some 2, .mov (.t 3), none⟩])
 .ret))⟩
theorem t_script_configs : trFn Try.prog 43 [] [] = some f_script_configs := by kernel_rfl

abbrev n_slices_Contains___string_string : Nat := 44
theorem k_slices_Contains___string_string : FnOk Try.prog 44 := FnOk.of (by kernel_rfl)
/-- slices.Contains[[]string,string] -/
def f_slices_Contains___string_string : FnI := ⟨9, [.tmp 4],
 (.seq (.reg [⟨some 4, .mov (.b false), none⟩])
 (.seq (.reg [⟨some 5, .mov (.t 0), none⟩, ⟨some 6, .mov (.t 1), none⟩, ⟨some 7, .call 65 [(.t 5), (.t 6)], none⟩, ⟨some 8, .bini .geq (.t 7) (.c (.int .i64 (0))), none⟩, ⟨some 4, .mov (.t 8), none⟩])
 .ret))⟩
theorem t_slices_Contains___string_string : trFn Try.prog 44 [] [] = some f_slices_Contains___string_string := by kernel_rfl

abbrev n_hydrantref08_add : Nat := 45
theorem k_hydrantref08_add : FnOk Try.prog 45 := FnOk.of (by kernel_rfl)
/-- hydrant/hydrantref08.add -/
def f_hydrantref08_add : FnI := ⟨27, [.tmp 4],
 (.seq (.reg [⟨some 4, .mov (.c (.slice none 0 0)), none⟩])
 (.seq (.seq (.reg [⟨some 5, .mov (.c (.int .i64 (0))), none⟩])
 (.block 0
 (.loop [0, 5] [6, 7, 8, 9, 12, 13, 14, 15, 16, 17, 18, 19, 20, 21, 22, 23, 24, 25, 0, 10, 11, 5]
 (.seq (.seq (.reg [⟨some 6, .mov (.t 5), none⟩, ⟨some 7, .mov (.t 1), none⟩, ⟨some 8, .len false (.t 7), none⟩, ⟨some 9, .bini .lss (.t 6) (.t 8), none⟩])
 (.cond (.t 9)
 .skip
 (.exit 0)))
 (.seq (.block 1
 (.seq (.reg [⟨some 12, .mov (.t 0), none⟩, ⟨some 13, .mov (.t 1), none⟩, ⟨some 14, .mov (.t 5), none⟩, ⟨some 15, .iadr 1 (.t 13) (.t 14), none⟩, ⟨some 16, .load false 1 (.t 15), none⟩, ⟨some 17, .call 52 [(.t 12), (.t 16)], none⟩, ⟨some 18, .bini .lss (.t 17) (.c (.int .i64 (0))), none⟩])
 (.cond (.t 18)
 (.reg [⟨some 19, .mov (.t 0), none⟩, ⟨some 20, .mov (.t 1), none⟩, ⟨some 21, .mov (.t 5), none⟩, ⟨some 22, .iadr 1 (.t 20) (.t 21), none⟩, ⟨some 23, .load false 1 (.t 22), none⟩, ⟨some 24, .bsl 9 1 1 [(.v (.string ⟨#[]⟩))] [(0, 1, (.t 23))], none⟩, ⟨some 25, .app 9 1 16 (.t 19) (.t 24), none⟩, ⟨some 0, .mov (.t 25), none⟩])
 .skip)))
 (.reg [⟨some 10, .mov (.t 5), none⟩, ⟨some 11, .bini .add (.t 10) (.c (.int .i64 (1))), none⟩, ⟨some 5, .mov (.t 11), none⟩]))))))
 (.seq (.reg [⟨some 26, .mov (.t 0), none⟩, ⟨some 4, .mov (.t 26), none⟩])
 .ret)))⟩
theorem t_hydrantref08_add : trFn Try.prog 45 [] [[0, 5]] = some f_hydrantref08_add := by kernel_rfl

abbrev n_config_checker__size : Nat := 46
theorem k_config_checker__size : FnOk Try.prog 46 := FnOk.of (by kernel_rfl)
/-- (hydrant/config.checker).size -/
def f_config_checker__size : FnI := ⟨26, [.tmp 2, .tmp 3],
 (.seq (.reg [⟨some 1, .box 74 (.t 0), none⟩, ⟨some 2, .mov (.c (.int .i64 (0))), none⟩, ⟨some 3, .mov (.c (.int .i64 (0))), none⟩])
 (.seq (.seq (.reg [⟨some 4, .fadr 0 (.t 1), none⟩, ⟨some 5, .fadr 0 (.t 4), none⟩, ⟨some 6, .load false 1 (.t 5), none⟩, ⟨some 7, .len false (.t 6), none⟩, ⟨some 8, .call 66 [(.t 7), (.c (.int .i64 (1))), (.c (.int .i64 (4)))], none⟩, ⟨some 9, .not (.t 8), none⟩, ⟨some 10, .mov (.t 9), none⟩, ⟨some 11, .fadr 0 (.t 1), some (10, false)⟩, ⟨some 12, .fadr 1 (.t 11), some (10, false)⟩, ⟨some 13, .load false 1 (.t 12), some (10, false)⟩, ⟨some 14, .len false (.t 13), some (10, false)⟩, ⟨some 15, .call 66 [(.t 14), (.c (.int .i64 (1))), (.c (.int .i64 (8)))], some (10, false)⟩, ⟨some 16, .not (.t 15), some (10, false)⟩, ⟨some 17, .pick (.t 10) (.b true) (.t 16), none⟩, ⟨some 18, .mov (.t 17), none⟩, ⟨some 19, .fadr 0 (.t 1), some (18, false)⟩, ⟨some 20, .fadr 2 (.t 19), some (18, false)⟩, ⟨some 21, .load false 1 (.t 20), some (18, false)⟩, ⟨some 22, .len false (.t 21), some (18, false)⟩, ⟨some 23, .call 66 [(.t 22), (.c (.int .i64 (1))), (.c (.int .i64 (4)))], some (18, false)⟩, ⟨some 24, .not (.t 23), some (18, false)⟩, ⟨some 25, .pick (.t 18) (.b true) (.t 24), none⟩])
 (.cond (.t 25)
 (.seq (.reg [⟨some 2, .mov (.c (.int .i64 (6))), none⟩, ⟨some 3, .mov (.c (.int .i64 (0))), none⟩])
 .ret)
 .skip))
 (.seq (.reg [⟨some 2, .mov (.c (.int .i64 (0))), none⟩, ⟨some 3, .mov (.c (.int .i64 (0))), none⟩])
 .ret)))⟩
theorem t_config_checker__size : trFn Try.prog 46 [] [] = some f_config_checker__size := by kernel_rfl

abbrev n_config_checker__listens : Nat := 47
theorem k_config_checker__listens : FnOk Try.prog 47 := FnOk.of (by kernel_rfl)
/-- (hydrant/config.checker).listens -/
def f_config_checker__listens : FnI := ⟨30, [.tmp 2, .tmp 3],
 (.seq (.reg [⟨some 1, .box 74 (.t 0), none⟩, ⟨some 2, .mov (.c (.int .i64 (0))), none⟩, ⟨some 3, .mov (.c (.int .i64 (0))), none⟩])
 (.seq (.seq (.reg [⟨some 6, .fadr 0 (.t 1), none⟩, ⟨some 7, .fadr 0 (.t 6), none⟩, ⟨some 8, .load false 1 (.t 7), none⟩, ⟨some 9, .len false (.t 8), none⟩, ⟨some 10, .mov (.c (.int .i64 (0))), none⟩])
 (.block 0
 (.loop [10] [11, 12, 13, 14, 4, 5, 16, 17, 18, 15, 19, 2, 3, 21, 22, 23, 24, 25, 26, 27, 20, 28, 29, 10]
 (.seq (.reg [⟨some 11, .bini .lss (.t 10) (.t 9), none⟩])
 (.seq (.cond (.t 11)
 .skip
 (.exit 0))
 (.seq (.block 1
 (.seq (.reg [⟨some 12, .mov (.t 10), none⟩, ⟨some 13, .iadr 1 (.t 8) (.t 10), none⟩, ⟨some 14, .load false 1 (.t 13), none⟩, ⟨some 4, .mov (.t 12), none⟩, ⟨some 5, .mov (.t 14), none⟩])
 (.block 2
 (.seq (.reg [⟨some 16, .mov (.t 5), none⟩, ⟨some 17, .call 67 [(.t 16)], none⟩, ⟨some 18, .not (.t 17), none⟩, ⟨some 15, .mov (.t 18), none⟩])
 (.cond (.t 15)
 (.seq (.reg [⟨some 19, .mov (.t 4), none⟩, ⟨some 2, .mov (.c (.int .i64 (3))), none⟩, ⟨some 3, .mov (.t 19), none⟩])
 .ret)
 (.seq (.reg [⟨some 21, .fadr 0 (.t 1), none⟩, ⟨some 22, .fadr 0 (.t 21), none⟩, ⟨some 23, .load false 1 (.t 22), none⟩, ⟨some 24, .mov (.t 4), none⟩, ⟨some 25, .slc 1 (.t 23) none (some (.t 24)) none, none⟩, ⟨some 26, .mov (.t 5), none⟩, ⟨some 27, .call 44 [(.t 25), (.t 26)], none⟩, ⟨some 20, .mov (.t 27), none⟩])
 (.cond (.t 20)
 (.seq (.reg [⟨some 28, .mov (.t 4), none⟩, ⟨some 2, .mov (.c (.int .i64 (4))), none⟩, ⟨some 3, .mov (.t 28), none⟩])
 .ret)
 .skip)))))))
 (.reg [⟨some 29, .bini .add (.t 10) (.c (.int .i64 (1))), none⟩, ⟨some 10, .mov (.t 29), none⟩])))))))
 (.seq (.reg [⟨some 2, .mov (.c (.int .i64 (0))), none⟩, ⟨some 3, .mov (.c (.int .i64 (0))), none⟩])
 .ret)))⟩
theorem t_config_checker__listens : trFn Try.prog 47 [] [[10]] = some f_config_checker__listens := by kernel_rfl

abbrev n_config_checker__clusters : Nat := 48
theorem k_config_checker__clusters : FnOk Try.prog 48 := FnOk.of (by kernel_rfl)
/-- (hydrant/config.checker).clusters -/
def f_config_checker__clusters : FnI := ⟨55, [.tmp 2, .tmp 3],
 (.seq (.reg [⟨some 1, .box 74 (.t 0), none⟩, ⟨some 2, .mov (.c (.int .i64 (0))), none⟩, ⟨some 3, .mov (.c (.int .i64 (0))), none⟩])
 (.seq (.seq (.reg [⟨some 6, .fadr 0 (.t 1), none⟩, ⟨some 7, .fadr 2 (.t 6), none⟩, ⟨some 8, .load false 1 (.t 7), none⟩, ⟨some 9, .len false (.t 8), none⟩, ⟨some 10, .mov (.c (.int .i64 (0))), none⟩])
 (.block 0
 (.loop [10] [11, 12, 13, 14, 5, 4, 16, 17, 18, 19, 15, 20, 2, 3, 22, 23, 24, 25, 26, 27, 28, 29, 21, 30, 32, 33, 34, 35, 36, 37, 38, 39, 31, 40, 42, 43, 44, 45, 41, 46, 48, 49, 50, 51, 52, 47, 53, 54, 10]
 (.seq (.reg [⟨some 11, .bini .lss (.t 10) (.t 9), none⟩])
 (.seq (.cond (.t 11)
 .skip
 (.exit 0))
 (.seq (.block 1
 (.seq (.reg [⟨some 12, .mov (.t 10), none⟩, ⟨some 13, .iadr 4 (.t 8) (.t 10), none⟩, ⟨some 14, .load true 4 (.t 13), none⟩, ⟨some 5, .alloc 79 [(.v (.string ⟨#[]⟩)), (.v (.int .i64 (0))), (.v (.int .i64 (0))), (.v (.slice none 0 0))], none⟩, ⟨some 4, .mov (.t 12), none⟩, ⟨none, .store 4 (.t 5) (.t 14), none⟩])
 (.block 2
 (.seq (.reg [⟨some 16, .fadr 0 (.t 5), none⟩, ⟨some 17, .load false 1 (.t 16), none⟩, ⟨some 18, .call 67 [(.t 17)], none⟩, ⟨some 19, .not (.t 18), none⟩, ⟨some 15, .mov (.t 19), none⟩])
 (.cond (.t 15)
 (.seq (.reg [⟨some 20, .mov (.t 4), none⟩, ⟨some 2, .mov (.c (.int .i64 (3))), none⟩, ⟨some 3, .mov (.t 20), none⟩])
 .ret)
 (.seq (.regD [] (.op ⟨0, false, [], ⟨some 22, .fadr 0 (.t 1), none⟩⟩
 (.op ⟨1, false, [], ⟨some 23, .fadr 2 (.t 22), none⟩⟩
 (.op ⟨2, true, [], ⟨some 24, .load false 1 (.t 23), none⟩⟩
 (.op ⟨3, false, [], ⟨some 25, .mov (.t 4), none⟩⟩
 (.op ⟨4, false, [], ⟨some 26, .slc 4 (.t 24) none (some (.t 25)) none, none⟩⟩
 (.op ⟨5, false, [], ⟨some 27, .fadr 0 (.t 5), none⟩⟩
 (.op ⟨6, true, [], ⟨some 28, .load false 1 (.t 27), none⟩⟩
 (.op ⟨7, false, [], ⟨some 29, .call 68 [(.t 26), (.t 28)], none⟩⟩
 (.op ⟨8, false, [], ⟨some 21, .mov (.t 29), none⟩⟩
 .nil))))))))))
 (.cond (.t 21)
 (.seq (.reg [⟨some 30, .mov (.t 4), none⟩, ⟨some 2, .mov (.c (.int .i64 (4))), none⟩, ⟨some 3, .mov (.t 30), none⟩])
 .ret)
 (.seq (.reg [⟨some 32, .fadr 1 (.t 5), none⟩, ⟨some 33, .load false 1 (.t 32), none⟩, ⟨some 34, .bini .neq (.t 33) (.c (.int .i64 (1))), none⟩, ⟨some 35, .mov (.t 34), none⟩, ⟨some 36, .fadr 1 (.t 5), some (35, true)⟩, ⟨some 37, .load false 1 (.t 36), some (35, true)⟩, ⟨some 38, .bini .neq (.t 37) (.c (.int .i64 (2))), some (35, true)⟩, ⟨some 39, .pick (.t 35) (.t 38) (.b false), none⟩, ⟨some 31, .mov (.t 39), none⟩])
 (.cond (.t 31)
 (.seq (.reg [⟨some 40, .mov (.t 4), none⟩, ⟨some 2, .mov (.c (.int .i64 (9))), none⟩, ⟨some 3, .mov (.t 40), none⟩])
 .ret)
 (.seq (.reg [⟨some 42, .fadr 2 (.t 5), none⟩, ⟨some 43, .load false 1 (.t 42), none⟩, ⟨some 44, .call 66 [(.t 43), (.c (.int .i64 (1))), (.c (.int .i64 (4)))], none⟩, ⟨some 45, .not (.t 44), none⟩, ⟨some 41, .mov (.t 45), none⟩])
 (.cond (.t 41)
 (.seq (.reg [⟨some 46, .mov (.t 4), none⟩, ⟨some 2, .mov (.c (.int .i64 (10))), none⟩, ⟨some 3, .mov (.t 46), none⟩])
 .ret)
 (.seq (.reg [⟨some 48, .fadr 3 (.t 5), none⟩, ⟨some 49, .load false 1 (.t 48), none⟩, ⟨some 50, .len false (.t 49), none⟩, ⟨some 51, .call 66 [(.t 50), (.c (.int .i64 (1))), (.c (.int .i64 (4)))], none⟩, ⟨some 52, .not (.t 51), none⟩, ⟨some 47, .mov (.t 52), none⟩])
 (.cond (.t 47)
 (.seq (.reg [⟨some 53, .mov (.t 4), none⟩, ⟨some 2, .mov (.c (.int .i64 (6))), none⟩, ⟨some 3, .mov (.t 53), none⟩])
 .ret)
 .skip)))))))))))))
 (.reg [⟨some 54, .bini .add (.t 10) (.c (.int .i64 (1))), none⟩, ⟨some 10, .mov (.t 54), none⟩])))))))
 (.seq (.reg [⟨some 2, .mov (.c (.int .i64 (0))), none⟩, ⟨some 3, .mov (.c (.int .i64 (0))), none⟩])
 .ret)))⟩
theorem t_config_checker__clusters : trFn Try.prog 48 [([], (.first 0 (.first 1 (.first 2 (.first 3 (.first 4 (.first 5 (.first 6 (.exec 7 (.first 8 .nil))))))))))] [[10]] = some f_config_checker__clusters := by kernel_rfl

abbrev n_config_checker__routes : Nat := 49
theorem k_config_checker__routes : FnOk Try.prog 49 := FnOk.of (by kernel_rfl)
/-- (hydrant/config.checker).routes -/
def f_config_checker__routes : FnI := ⟨65, [.tmp 2, .tmp 3],
 (.seq (.reg [⟨some 1, .box 74 (.t 0), none⟩, ⟨some 2, .mov (.c (.int .i64 (0))), none⟩, ⟨some 3, .mov (.c (.int .i64 (0))), none⟩])
 (.seq (.seq (.reg [⟨some 8, .fadr 0 (.t 1), none⟩, ⟨some 9, .fadr 1 (.t 8), none⟩, ⟨some 10, .load false 1 (.t 9), none⟩, ⟨some 11, .len false (.t 10), none⟩, ⟨some 12, .mov (.c (.int .i64 (0))), none⟩])
 (.block 0
 (.loop [12] [13, 14, 15, 16, 5, 4, 18, 19, 20, 21, 22, 23, 24, 17, 25, 2, 3, 27, 28, 29, 30, 26, 31, 33, 34, 35, 36, 32, 37, 39, 40, 41, 42, 43, 44, 45, 38, 46, 47, 48, 49, 50, 51, 52, 53, 54, 55, 56, 57, 7, 58, 59, 60, 61, 62, 63, 64, 12]
 (.seq (.reg [⟨some 13, .bini .lss (.t 12) (.t 11), none⟩])
 (.seq (.cond (.t 13)
 .skip
 (.exit 0))
 (.seq (.block 1
 (.seq (.reg [⟨some 14, .mov (.t 12), none⟩, ⟨some 15, .iadr 4 (.t 10) (.t 12), none⟩, ⟨some 16, .load true 4 (.t 15), none⟩, ⟨some 5, .alloc 81 [(.v (.string ⟨#[]⟩)), (.v (.string ⟨#[]⟩)), (.v (.string ⟨#[]⟩)), (.v (.string ⟨#[]⟩))], none⟩, ⟨some 4, .mov (.t 14), none⟩, ⟨none, .store 4 (.t 5) (.t 16), none⟩])
 (.seq (.block 2
 (.seq (.reg [⟨some 18, .fadr 0 (.t 1), none⟩, ⟨some 19, .fadr 0 (.t 18), none⟩, ⟨some 20, .load false 1 (.t 19), none⟩, ⟨some 21, .fadr 0 (.t 5), none⟩, ⟨some 22, .load false 1 (.t 21), none⟩, ⟨some 23, .call 44 [(.t 20), (.t 22)], none⟩, ⟨some 24, .not (.t 23), none⟩, ⟨some 17, .mov (.t 24), none⟩])
 (.cond (.t 17)
 (.seq (.reg [⟨some 25, .mov (.t 4), none⟩, ⟨some 2, .mov (.c (.int .i64 (5))), none⟩, ⟨some 3, .mov (.t 25), none⟩])
 .ret)
 (.seq (.reg [⟨some 27, .fadr 1 (.t 5), none⟩, ⟨some 28, .load false 1 (.t 27), none⟩, ⟨some 29, .call 69 [(.t 28)], none⟩, ⟨some 30, .not (.t 29), none⟩, ⟨some 26, .mov (.t 30), none⟩])
 (.cond (.t 26)
 (.seq (.reg [⟨some 31, .mov (.t 4), none⟩, ⟨some 2, .mov (.c (.int .i64 (7))), none⟩, ⟨some 3, .mov (.t 31), none⟩])
 .ret)
 (.seq (.reg [⟨some 33, .fadr 2 (.t 5), none⟩, ⟨some 34, .load false 1 (.t 33), none⟩, ⟨some 35, .call 70 [(.t 34)], none⟩, ⟨some 36, .not (.t 35), none⟩, ⟨some 32, .mov (.t 36), none⟩])
 (.cond (.t 32)
 (.seq (.reg [⟨some 37, .mov (.t 4), none⟩, ⟨some 2, .mov (.c (.int .i64 (8))), none⟩, ⟨some 3, .mov (.t 37), none⟩])
 .ret)
 (.seq (.reg [⟨some 39, .fadr 0 (.t 1), none⟩, ⟨some 40, .fadr 2 (.t 39), none⟩, ⟨some 41, .load false 1 (.t 40), none⟩, ⟨some 42, .fadr 3 (.t 5), none⟩, ⟨some 43, .load false 1 (.t 42), none⟩, ⟨some 44, .call 68 [(.t 41), (.t 43)], none⟩, ⟨some 45, .not (.t 44), none⟩, ⟨some 38, .mov (.t 45), none⟩])
 (.cond (.t 38)
 (.seq (.reg [⟨some 46, .mov (.t 4), none⟩, ⟨some 2, .mov (.c (.int .i64 (5))), none⟩, ⟨some 3, .mov (.t 46), none⟩])
 .ret)
 .skip)))))))))
 (.seq (.reg [⟨some 47, .fadr 3 (.t 5), none⟩, ⟨none, .store 1 (.t 47) (.c (.string ⟨#[]⟩)), none⟩])
 (.seq (.reg [⟨some 48, .fadr 0 (.t 1), none⟩, ⟨some 49, .fadr 1 (.t 48), none⟩, ⟨some 50, .load false 1 (.t 49), none⟩, ⟨some 51, .mov (.t 4), none⟩, ⟨some 52, .slc 4 (.t 50) none (some (.t 51)) none, none⟩, ⟨some 53, .len false (.t 52), none⟩, ⟨some 54, .mov (.c (.int .i64 (0))), none⟩])
 (.block 3
 (.loop [54] [55, 56, 57, 7, 58, 59, 60, 61, 62, 2, 3, 63, 54]
 (.seq (.reg [⟨some 55, .bini .lss (.t 54) (.t 53), none⟩])
 (.seq (.cond (.t 55)
 .skip
 (.exit 3))
 (.seq (.block 4
 (.seq (.reg [⟨some 56, .iadr 4 (.t 52) (.t 54), none⟩, ⟨some 57, .load true 4 (.t 56), none⟩, ⟨some 7, .alloc 81 [(.v (.string ⟨#[]⟩)), (.v (.string ⟨#[]⟩)), (.v (.string ⟨#[]⟩)), (.v (.string ⟨#[]⟩))], none⟩, ⟨none, .store 4 (.t 7) (.t 57), none⟩])
 (.seq (.reg [⟨some 58, .fadr 3 (.t 7), none⟩, ⟨none, .store 1 (.t 58) (.c (.string ⟨#[]⟩)), none⟩])
 (.seq (.reg [⟨some 59, .load true 4 (.t 7), none⟩, ⟨some 60, .load true 4 (.t 5), none⟩, ⟨some 61, .binst false [1, 1, 1, 1] (.t 59) (.t 60), none⟩])
 (.cond (.t 61)
 (.seq (.reg [⟨some 62, .mov (.t 4), none⟩, ⟨some 2, .mov (.c (.int .i64 (4))), none⟩, ⟨some 3, .mov (.t 62), none⟩])
 .ret)
 .skip)))))
 (.reg [⟨some 63, .bini .add (.t 54) (.c (.int .i64 (1))), none⟩, ⟨some 54, .mov (.t 63), none⟩])))))))))))
 (.reg [⟨some 64, .bini .add (.t 12) (.c (.int .i64 (1))), none⟩, ⟨some 12, .mov (.t 64), none⟩])))))))
 (.seq (.reg [⟨some 2, .mov (.c (.int .i64 (0))), none⟩, ⟨some 3, .mov (.c (.int .i64 (0))), none⟩])
 .ret)))⟩
theorem t_config_checker__routes : trFn Try.prog 49 [] [[12], [54]] = some f_config_checker__routes := by kernel_rfl

abbrev n_snap_listener : Nat := 50
theorem k_snap_listener : FnOk Try.prog 50 := FnOk.of (by kernel_rfl)
/-- hydrant/snap.listener -/
def f_snap_listener : FnI := ⟨8, [.tmp 4],
 (.seq (.reg [⟨some 3, .box 9 (.t 1), none⟩, ⟨some 4, .mov (.c (.int .i64 (0))), none⟩])
 (.seq (.reg [⟨some 5, .mov (.t 0), none⟩, ⟨some 6, .mkf (.func 72) [] [(.t 3)], none⟩, ⟨some 7, .call 71 [(.t 5), (.t 6)], none⟩, ⟨some 4, .mov (.t 7), none⟩])
 .ret))⟩
theorem t_snap_listener : trFn Try.prog 50 [] [] = some f_snap_listener := by kernel_rfl

abbrev n_snap_cluster : Nat := 51
theorem k_snap_cluster : FnOk Try.prog 51 := FnOk.of (by kernel_rfl)
/-- hydrant/snap.cluster -/
def f_snap_cluster : FnI := ⟨8, [.tmp 4],
 (.seq (.reg [⟨some 3, .box 9 (.t 1), none⟩, ⟨some 4, .mov (.c (.int .i64 (0))), none⟩])
 (.seq (.reg [⟨some 5, .mov (.t 0), none⟩, ⟨some 6, .mkf (.func 74) [] [(.t 3)], none⟩, ⟨some 7, .call 73 [(.t 5), (.t 6)], none⟩, ⟨some 4, .mov (.t 7), none⟩])
 .ret))⟩
theorem t_snap_cluster : trFn Try.prog 51 [] [] = some f_snap_cluster := by kernel_rfl

abbrev n_hydrantref05_Listen : Nat := 52
theorem k_hydrantref05_Listen : FnOk Try.prog 52 := FnOk.of (by kernel_rfl)
/-- hydrant/hydrantref05.Listen -/
def f_hydrantref05_Listen : FnI := ⟨19, [.tmp 4],
 (.seq (.reg [⟨some 4, .mov (.c (.int .i64 (0))), none⟩])
 (.seq (.seq (.reg [⟨some 5, .mov (.c (.int .i64 (0))), none⟩])
 (.block 0
 (.loop [5] [6, 7, 8, 9, 12, 13, 14, 15, 16, 17, 18, 4, 10, 11, 5]
 (.seq (.seq (.reg [⟨some 6, .mov (.t 5), none⟩, ⟨some 7, .mov (.t 0), none⟩, ⟨some 8, .len false (.t 7), none⟩, ⟨some 9, .bini .lss (.t 6) (.t 8), none⟩])
 (.cond (.t 9)
 .skip
 (.exit 0)))
 (.seq (.block 1
 (.seq (.reg [⟨some 12, .mov (.t 0), none⟩, ⟨some 13, .mov (.t 5), none⟩, ⟨some 14, .iadr 1 (.t 12) (.t 13), none⟩, ⟨some 15, .load false 1 (.t 14), none⟩, ⟨some 16, .mov (.t 1), none⟩, ⟨some 17, .bins .eql (.t 15) (.t 16), none⟩])
 (.cond (.t 17)
 (.seq (.reg [⟨some 18, .mov (.t 5), none⟩, ⟨some 4, .mov (.t 18), none⟩])
 .ret)
 .skip)))
 (.reg [⟨some 10, .mov (.t 5), none⟩, ⟨some 11, .bini .add (.t 10) (.c (.int .i64 (1))), none⟩, ⟨some 5, .mov (.t 11), none⟩]))))))
 (.seq (.reg [⟨some 4, .mov (.c (.int .i64 (-1))), none⟩])
 .ret)))⟩
theorem t_hydrantref05_Listen : trFn Try.prog 52 [] [[5]] = some f_hydrantref05_Listen := by kernel_rfl

abbrev n_hydrantref05_Cluster : Nat := 53
theorem k_hydrantref05_Cluster : FnOk Try.prog 53 := FnOk.of (by kernel_rfl)
/-- hydrant/hydrantref05.Cluster -/
def f_hydrantref05_Cluster : FnI := ⟨20, [.tmp 4],
 (.seq (.reg [⟨some 4, .mov (.c (.int .i64 (0))), none⟩])
 (.seq (.seq (.reg [⟨some 5, .mov (.c (.int .i64 (0))), none⟩])
 (.block 0
 (.loop [5] [6, 7, 8, 9, 12, 13, 14, 15, 16, 17, 18, 19, 4, 10, 11, 5]
 (.seq (.seq (.reg [⟨some 6, .mov (.t 5), none⟩, ⟨some 7, .mov (.t 0), none⟩, ⟨some 8, .len false (.t 7), none⟩, ⟨some 9, .bini .lss (.t 6) (.t 8), none⟩])
 (.cond (.t 9)
 .skip
 (.exit 0)))
 (.seq (.block 1
 (.seq (.reg [⟨some 12, .mov (.t 0), none⟩, ⟨some 13, .mov (.t 5), none⟩, ⟨some 14, .iadr 4 (.t 12) (.t 13), none⟩, ⟨some 15, .fadr 0 (.t 14), none⟩, ⟨some 16, .load false 1 (.t 15), none⟩, ⟨some 17, .mov (.t 1), none⟩, ⟨some 18, .bins .eql (.t 16) (.t 17), none⟩])
 (.cond (.t 18)
 (.seq (.reg [⟨some 19, .mov (.t 5), none⟩, ⟨some 4, .mov (.t 19), none⟩])
 .ret)
 .skip)))
 (.reg [⟨some 10, .mov (.t 5), none⟩, ⟨some 11, .bini .add (.t 10) (.c (.int .i64 (1))), none⟩, ⟨some 5, .mov (.t 11), none⟩]))))))
 (.seq (.reg [⟨some 4, .mov (.c (.int .i64 (-1))), none⟩])
 .ret)))⟩
theorem t_hydrantref05_Cluster : trFn Try.prog 53 [] [[5]] = some f_hydrantref05_Cluster := by kernel_rfl

abbrev n_hydrantlaw07_plain : Nat := 54
theorem k_hydrantlaw07_plain : FnOk Try.prog 54 := FnOk.of (by kernel_rfl)
/-- hydrant/hydrantlaw07.plain -/
def f_hydrantlaw07_plain : FnI := ⟨11, [.cell 0 3 true],
 (.seq (.reg [⟨some 0, .alloc 26 [(.v (.slice none 0 0)), (.v (.slice none 0 0)), (.v (.slice none 0 0))], none⟩])
 (.seq (.reg [⟨some 1, .bsl 9 1 1 [(.v (.string ⟨#[]⟩))] [(0, 1, (.c (.string ⟨#[105, 110]⟩)))], none⟩, ⟨some 2, .bsl 4 1 1 [(.v (.bool false))] [(0, 1, (.b true))], none⟩, ⟨some 3, .build [(.v (.string ⟨#[]⟩)), (.v (.int .i64 (0))), (.v (.int .i64 (0))), (.v (.slice none 0 0))] [(0, 1, (.c (.string ⟨#[97]⟩))), (1, 1, (.c (.int .i64 (1)))), (2, 1, (.c (.int .i64 (1)))), (3, 1, (.t 2))], none⟩, ⟨some 4, .bsl 4 1 2 [(.v (.bool false)), (.v (.bool false))] [(0, 1, (.b false)), (1, 1, (.b true))], none⟩, ⟨some 5, .build [(.v (.string ⟨#[]⟩)), (.v (.int .i64 (0))), (.v (.int .i64 (0))), (.v (.slice none 0 0))] [(0, 1, (.c (.string ⟨#[98]⟩))), (1, 1, (.c (.int .i64 (2)))), (2, 1, (.c (.int .i64 (4)))), (3, 1, (.t 4))], none⟩, ⟨some 6, .bsl 79 4 2 [(.v (.string ⟨#[]⟩)), (.v (.int .i64 (0))), (.v (.int .i64 (0))), (.v (.slice none 0 0)), (.v (.string ⟨#[]⟩)), (.v (.int .i64 (0))), (.v (.int .i64 (0))), (.v (.slice none 0 0))] [(0, 4, (.t 3)), (4, 4, (.t 5))], none⟩, ⟨some 7, .build [(.v (.string ⟨#[]⟩)), (.v (.string ⟨#[]⟩)), (.v (.string ⟨#[]⟩)), (.v (.string ⟨#[]⟩))] [(0, 1, (.c (.string ⟨#[105, 110]⟩))), (1, 1, (.c (.string ⟨#[42]⟩))), (2, 1, (.c (.string ⟨#[47]⟩))), (3, 1, (.c (.string ⟨#[97]⟩)))], none⟩, ⟨some 8, .build [(.v (.string ⟨#[]⟩)), (.v (.string ⟨#[]⟩)), (.v (.string ⟨#[]⟩)), (.v (.string ⟨#[]⟩))] [(0, 1, (.c (.string ⟨#[105, 110]⟩))), (1, 1, (.c (.string ⟨#[120]⟩))), (2, 1, (.c (.string ⟨#[47]⟩))), (3, 1, (.c (.string ⟨#[98]⟩)))], none⟩, ⟨some 9, .bsl 81 4 2 [(.v (.string ⟨#[]⟩)), (.v (.string ⟨#[]⟩)), (.v (.string ⟨#[]⟩)), (.v (.string ⟨#[]⟩)), (.v (.string ⟨#[]⟩)), (.v (.string ⟨#[]⟩)), (.v (.string ⟨#[]⟩)), (.v (.string ⟨#[]⟩))] [(0, 4, (.t 7)), (4, 4, (.t 8))], none⟩, ⟨some 10, .build [(.v (.slice none 0 0)), (.v (.slice none 0 0)), (.v (.slice none 0 0))] [(0, 1, (.t 1)), (2, 1, (.t 6)), (1, 1, (.t 9))], none⟩, ⟨none, .store 3 (.t 0) (.t 10), none⟩])
 .ret))⟩
theorem t_hydrantlaw07_plain : trFn Try.prog 54 [] [] = some f_hydrantlaw07_plain := by kernel_rfl

abbrev n_hydrantref07_sameTexts : Nat := 55
theorem k_hydrantref07_sameTexts : FnOk Try.prog 55 := FnOk.of (by kernel_rfl)
/-- hydrant/hydrantref07.sameTexts -/
def f_hydrantref07_sameTexts : FnI := ⟨26, [.tmp 4],
 (.seq (.reg [⟨some 4, .mov (.b false), none⟩])
 (.seq (.seq (.reg [⟨some 6, .mov (.t 0), none⟩, ⟨some 7, .len false (.t 6), none⟩, ⟨some 8, .mov (.t 1), none⟩, ⟨some 9, .len false (.t 8), none⟩, ⟨some 10, .bini .neq (.t 7) (.t 9), none⟩])
 (.cond (.t 10)
 (.seq (.reg [⟨some 4, .mov (.b false), none⟩])
 .ret)
 .skip))
 (.seq (.seq (.reg [⟨some 5, .mov (.c (.int .i64 (0))), none⟩])
 (.block 0
 (.loop [5] [11, 12, 13, 14, 17, 18, 19, 20, 21, 22, 23, 24, 25, 4, 15, 16, 5]
 (.seq (.seq (.reg [⟨some 11, .mov (.t 5), none⟩, ⟨some 12, .mov (.t 0), none⟩, ⟨some 13, .len false (.t 12), none⟩, ⟨some 14, .bini .lss (.t 11) (.t 13), none⟩])
 (.cond (.t 14)
 .skip
 (.exit 0)))
 (.seq (.block 1
 (.seq (.regD [] (.op ⟨0, false, [], ⟨some 17, .mov (.t 0), none⟩⟩
 (.op ⟨1, false, [], ⟨some 18, .mov (.t 5), none⟩⟩
 (.op ⟨2, true, [], ⟨some 19, .iadr 1 (.t 17) (.t 18), none⟩⟩
 (.op ⟨3, true, [], ⟨some 20, .load false 1 (.t 19), none⟩⟩
 (.op ⟨4, false, [], ⟨some 21, .mov (.t 1), none⟩⟩
 (.op ⟨5, false, [], ⟨some 22, .mov (.t 5), none⟩⟩
 (.op ⟨6, true, [], ⟨some 23, .iadr 1 (.t 21) (.t 22), none⟩⟩
 (.op ⟨7, true, [], ⟨some 24, .load false 1 (.t 23), none⟩⟩
 (.op ⟨8, false, [], ⟨some 25, .bins .neq (.t 20) (.t 24), none⟩⟩
 .nil))))))))))
 (.cond (.t 25)
 (.seq (.reg [⟨some 4, .mov (.b false), none⟩])
 .ret)
 .skip)))
 (.reg [⟨some 15, .mov (.t 5), none⟩, ⟨some 16, .bini .add (.t 15) (.c (.int .i64 (1))), none⟩, ⟨some 5, .mov (.t 16), none⟩]))))))
 (.seq (.reg [⟨some 4, .mov (.b true), none⟩])
 .ret))))⟩
theorem t_hydrantref07_sameTexts : trFn Try.prog 55 [([], (.first 0 (.first 1 (.first 2 (.first 3 (.first 4 (.first 5 (.first 6 (.first 7 (.first 8 .nil))))))))))] [[5]] = some f_hydrantref07_sameTexts := by kernel_rfl

abbrev n_hydrantref07_sameClusters : Nat := 56
theorem k_hydrantref07_sameClusters : FnOk Try.prog 56 := FnOk.of (by kernel_rfl)
/-- hydrant/hydrantref07.sameClusters -/
def f_hydrantref07_sameClusters : FnI := ⟨97, [.tmp 4],
 (.seq (.reg [⟨some 4, .mov (.b false), none⟩])
 (.seq (.seq (.reg [⟨some 7, .mov (.t 0), none⟩, ⟨some 8, .len false (.t 7), none⟩, ⟨some 9, .mov (.t 1), none⟩, ⟨some 10, .len false (.t 9), none⟩, ⟨some 11, .bini .neq (.t 8) (.t 10), none⟩])
 (.cond (.t 11)
 (.seq (.reg [⟨some 4, .mov (.b false), none⟩])
 .ret)
 .skip))
 (.seq (.seq (.reg [⟨some 5, .mov (.c (.int .i64 (0))), none⟩])
 (.block 0
 (.loop [5] [12, 13, 14, 15, 18, 19, 20, 21, 22, 23, 24, 25, 26, 27, 28, 29, 30, 31, 32, 33, 34, 35, 36, 37, 38, 39, 40, 41, 42, 43, 44, 45, 46, 47, 48, 49, 50, 51, 52, 53, 54, 55, 56, 57, 58, 59, 60, 61, 62, 63, 64, 65, 66, 67, 68, 69, 4, 6, 70, 71, 72, 73, 74, 75, 76, 77, 80, 81, 82, 83, 84, 85, 86, 87, 88, 89, 90, 91, 92, 93, 94, 95, 96, 78, 79, 16, 17, 5]
 (.seq (.seq (.reg [⟨some 12, .mov (.t 5), none⟩, ⟨some 13, .mov (.t 0), none⟩, ⟨some 14, .len false (.t 13), none⟩, ⟨some 15, .bini .lss (.t 12) (.t 14), none⟩])
 (.cond (.t 15)
 .skip
 (.exit 0)))
 (.seq (.block 1
 (.seq (.seq (.regD [] (.op ⟨0, false, [], ⟨some 18, .mov (.t 0), none⟩⟩
 (.op ⟨1, false, [], ⟨some 19, .mov (.t 5), none⟩⟩
 (.op ⟨2, true, [], ⟨some 20, .iadr 4 (.t 18) (.t 19), none⟩⟩
 (.op ⟨3, false, [], ⟨some 21, .fadr 0 (.t 20), none⟩⟩
 (.op ⟨4, true, [], ⟨some 22, .load false 1 (.t 21), none⟩⟩
 (.op ⟨5, false, [], ⟨some 23, .mov (.t 1), none⟩⟩
 (.op ⟨6, false, [], ⟨some 24, .mov (.t 5), none⟩⟩
 (.op ⟨7, true, [], ⟨some 25, .iadr 4 (.t 23) (.t 24), none⟩⟩
 (.op ⟨8, false, [], ⟨some 26, .fadr 0 (.t 25), none⟩⟩
 (.op ⟨9, true, [], ⟨some 27, .load false 1 (.t 26), none⟩⟩
 (.op ⟨10, false, [], ⟨some 28, .bins .neq (.t 22) (.t 27), none⟩⟩
 (.op ⟨11, false, [], ⟨some 29, .mov (.t 28), none⟩⟩
 (.op ⟨12, false, [], ⟨some 30, .mov (.t 0), some (29, false)⟩⟩
 (.op ⟨13, false, [], ⟨some 31, .mov (.t 5), some (29, false)⟩⟩
 (.op ⟨14, true, [], ⟨some 32, .iadr 4 (.t 30) (.t 31), some (29, false)⟩⟩
 (.op ⟨15, false, [], ⟨some 33, .fadr 1 (.t 32), some (29, false)⟩⟩
 (.op ⟨16, true, [], ⟨some 34, .load false 1 (.t 33), some (29, false)⟩⟩
 (.op ⟨17, false, [], ⟨some 35, .mov (.t 1), some (29, false)⟩⟩
 (.op ⟨18, false, [], ⟨some 36, .mov (.t 5), some (29, false)⟩⟩
 (.op ⟨19, true, [], ⟨some 37, .iadr 4 (.t 35) (.t 36), some (29, false)⟩⟩
 (.op ⟨20, false, [], ⟨some 38, .fadr 1 (.t 37), some (29, false)⟩⟩
 (.op ⟨21, true, [], ⟨some 39, .load false 1 (.t 38), some (29, false)⟩⟩
 (.op ⟨22, false, [], ⟨some 40, .bini .neq (.t 34) (.t 39), some (29, false)⟩⟩
 (.op ⟨23, false, [], ⟨some 41, .pick (.t 29) (.b true) (.t 40), none⟩⟩
 (.op ⟨24, false, [], ⟨some 42, .mov (.t 41), none⟩⟩
 (.op ⟨25, false, [], ⟨some 43, .mov (.t 0), some (42, false)⟩⟩
 (.op ⟨26, false, [], ⟨some 44, .mov (.t 5), some (42, false)⟩⟩
 (.op ⟨27, true, [], ⟨some 45, .iadr 4 (.t 43) (.t 44), some (42, false)⟩⟩
 (.op ⟨28, false, [], ⟨some 46, .fadr 2 (.t 45), some (42, false)⟩⟩
 (.op ⟨29, true, [], ⟨some 47, .load false 1 (.t 46), some (42, false)⟩⟩
 (.op ⟨30, false, [], ⟨some 48, .mov (.t 1), some (42, false)⟩⟩
 (.op ⟨31, false, [], ⟨some 49, .mov (.t 5), some (42, false)⟩⟩
 (.op ⟨32, true, [], ⟨some 50, .iadr 4 (.t 48) (.t 49), some (42, false)⟩⟩
 (.op ⟨33, false, [], ⟨some 51, .fadr 2 (.t 50), some (42, false)⟩⟩
 (.op ⟨34, true, [], ⟨some 52, .load false 1 (.t 51), some (42, false)⟩⟩
 (.op ⟨35, false, [], ⟨some 53, .bini .neq (.t 47) (.t 52), some (42, false)⟩⟩
 (.op ⟨36, false, [], ⟨some 54, .pick (.t 42) (.b true) (.t 53), none⟩⟩
 (.op ⟨37, false, [], ⟨some 55, .mov (.t 54), none⟩⟩
 (.op ⟨38, false, [], ⟨some 56, .mov (.t 0), some (55, false)⟩⟩
 (.op ⟨39, false, [], ⟨some 57, .mov (.t 5), some (55, false)⟩⟩
 (.op ⟨40, true, [], ⟨some 58, .iadr 4 (.t 56) (.t 57), some (55, false)⟩⟩
 (.op ⟨41, false, [], ⟨some 59, .fadr 3 (.t 58), some (55, false)⟩⟩
 (.op ⟨42, true, [], ⟨some 60, .load false 1 (.t 59), some (55, false)⟩⟩
 (.op ⟨43, false, [], ⟨some 61, .len false (.t 60), some (55, false)⟩⟩
 (.op ⟨44, false, [], ⟨some 62, .mov (.t 1), some (55, false)⟩⟩
 (.op ⟨45, false, [], ⟨some 63, .mov (.t 5), some (55, false)⟩⟩
 (.op ⟨46, true, [], ⟨some 64, .iadr 4 (.t 62) (.t 63), some (55, false)⟩⟩
 (.op ⟨47, false, [], ⟨some 65, .fadr 3 (.t 64), some (55, false)⟩⟩
 (.op ⟨48, true, [], ⟨some 66, .load false 1 (.t 65), some (55, false)⟩⟩
 (.op ⟨49, false, [], ⟨some 67, .len false (.t 66), some (55, false)⟩⟩
 (.op ⟨50, false, [], ⟨some 68, .bini .neq (.t 61) (.t 67), some (55, false)⟩⟩
 (.op ⟨51, false, [], ⟨some 69, .pick (.t 55) (.b true) (.t 68), none⟩⟩
 .nil)))))))))))))))))))))))))))))))))))))))))))))))))))))
 (.cond (.t 69)
 (.seq (.reg [⟨some 4, .mov (.b false), none⟩])
 .ret)
 .skip))
 (.seq (.reg [⟨some 6, .mov (.c (.int .i64 (0))), none⟩])
 (.block 2
 (.loop [6] [70, 71, 72, 73, 74, 75, 76, 77, 80, 81, 82, 83, 84, 85, 86, 87, 88, 89, 90, 91, 92, 93, 94, 95, 96, 4, 78, 79, 6]
 (.seq (.seq (.reg [⟨some 70, .mov (.t 6), none⟩, ⟨some 71, .mov (.t 0), none⟩, ⟨some 72, .mov (.t 5), none⟩, ⟨some 73, .iadr 4 (.t 71) (.t 72), none⟩, ⟨some 74, .fadr 3 (.t 73), none⟩, ⟨some 75, .load false 1 (.t 74), none⟩, ⟨some 76, .len false (.t 75), none⟩, ⟨some 77, .bini .lss (.t 70) (.t 76), none⟩])
 (.cond (.t 77)
 .skip
 (.exit 2)))
 (.seq (.block 3
 (.seq (.regD [] (.op ⟨0, false, [], ⟨some 80, .mov (.t 0), none⟩⟩
 (.op ⟨1, false, [], ⟨some 81, .mov (.t 5), none⟩⟩
 (.op ⟨2, true, [], ⟨some 82, .iadr 4 (.t 80) (.t 81), none⟩⟩
 (.op ⟨3, false, [], ⟨some 83, .fadr 3 (.t 82), none⟩⟩
 (.op ⟨4, true, [], ⟨some 84, .load false 1 (.t 83), none⟩⟩
 (.op ⟨5, false, [], ⟨some 85, .mov (.t 6), none⟩⟩
 (.op ⟨6, true, [], ⟨some 86, .iadr 1 (.t 84) (.t 85), none⟩⟩
 (.op ⟨7, true, [], ⟨some 87, .load false 1 (.t 86), none⟩⟩
 (.op ⟨8, false, [], ⟨some 88, .mov (.t 1), none⟩⟩
 (.op ⟨9, false, [], ⟨some 89, .mov (.t 5), none⟩⟩
 (.op ⟨10, true, [], ⟨some 90, .iadr 4 (.t 88) (.t 89), none⟩⟩
 (.op ⟨11, false, [], ⟨some 91, .fadr 3 (.t 90), none⟩⟩
 (.op ⟨12, true, [], ⟨some 92, .load false 1 (.t 91), none⟩⟩
 (.op ⟨13, false, [], ⟨some 93, .mov (.t 6), none⟩⟩
 (.op ⟨14, true, [], ⟨some 94, .iadr 1 (.t 92) (.t 93), none⟩⟩
 (.op ⟨15, true, [], ⟨some 95, .load false 1 (.t 94), none⟩⟩
 (.op ⟨16, false, [], ⟨some 96, .binb true (.t 87) (.t 95), none⟩⟩
 .nil))))))))))))))))))
 (.cond (.t 96)
 (.seq (.reg [⟨some 4, .mov (.b false), none⟩])
 .ret)
 .skip)))
 (.reg [⟨some 78, .mov (.t 6), none⟩, ⟨some 79, .bini .add (.t 78) (.c (.int .i64 (1))), none⟩, ⟨some 6, .mov (.t 79), none⟩]))))))))
 (.reg [⟨some 16, .mov (.t 5), none⟩, ⟨some 17, .bini .add (.t 16) (.c (.int .i64 (1))), none⟩, ⟨some 5, .mov (.t 17), none⟩]))))))
 (.seq (.reg [⟨some 4, .mov (.b true), none⟩])
 .ret))))⟩
theorem t_hydrantref07_sameClusters : trFn Try.prog 56 [([], (.first 0 (.first 1 (.first 2 (.first 3 (.first 4 (.first 5 (.first 6 (.first 7 (.first 8 (.first 9 (.first 10 (.first 11 (.first 12 (.first 13 (.first 14 (.first 15 (.first 16 (.first 17 (.first 18 (.first 19 (.first 20 (.first 21 (.first 22 (.first 23 (.first 24 (.first 25 (.first 26 (.first 27 (.first 28 (.first 29 (.first 30 (.first 31 (.first 32 (.first 33 (.first 34 (.first 35 (.first 36 (.first 37 (.first 38 (.first 39 (.first 40 (.first 41 (.first 42 (.first 43 (.first 44 (.first 45 (.first 46 (.first 47 (.first 48 (.first 49 (.first 50 (.first 51 .nil))))))))))))))))))))))))))))))))))))))))))))))))))))), ([], (.first 0 (.first 1 (.first 2 (.first 3 (.first 4 (.first 5 (.first 6 (.first 7 (.first 8 (.first 9 (.first 10 (.first 11 (.first 12 (.first 13 (.first 14 (.first 15 (.first 16 .nil))))))))))))))))))] [[5], [6]] = some f_hydrantref07_sameClusters := by kernel_rfl

abbrev n_hydrantref06_Big : Nat := 57
theorem k_hydrantref06_Big : FnOk Try.prog 57 := FnOk.of (by kernel_rfl)
/-- hydrant/hydrantref06.Big -/
def f_hydrantref06_Big : FnI := ⟨34, [.tmp 2],
 (.seq (.reg [⟨some 2, .mov (.b false), none⟩])
 (.seq (.seq (.reg [⟨some 3, .mov (.c (.int .i64 (0))), none⟩])
 (.block 0
 (.loop [3] [4, 5, 6, 7, 8, 9, 10, 11, 12, 15, 16, 17, 18, 19, 20, 21, 22, 23, 24, 25, 26, 27, 28, 29, 30, 2, 13, 14, 3]
 (.seq (.seq (.reg [⟨some 4, .mov (.t 3), none⟩, ⟨some 5, .mov (.t 0), none⟩, ⟨some 6, .len false (.t 5), none⟩, ⟨some 7, .bini .lss (.t 4) (.t 6), none⟩, ⟨some 8, .mov (.t 7), none⟩, ⟨some 9, .mov (.t 0), some (8, true)⟩, ⟨some 10, .len false (.t 9), some (8, true)⟩, ⟨some 11, .bini .leq (.t 10) (.c (.int .i64 (50))), some (8, true)⟩, ⟨some 12, .pick (.t 8) (.t 11) (.b false), none⟩])
 (.cond (.t 12)
 .skip
 (.exit 0)))
 (.seq (.block 1
 (.seq (.reg [⟨some 15, .mov (.t 0), none⟩, ⟨some 16, .mov (.t 3), none⟩, ⟨some 17, .iadr 4 (.t 15) (.t 16), none⟩, ⟨some 18, .fadr 1 (.t 17), none⟩, ⟨some 19, .load false 1 (.t 18), none⟩, ⟨some 20, .len true (.t 19), none⟩, ⟨some 21, .bini .gtr (.t 20) (.c (.int .i64 (100))), none⟩, ⟨some 22, .mov (.t 21), none⟩, ⟨some 23, .mov (.t 0), some (22, false)⟩, ⟨some 24, .mov (.t 3), some (22, false)⟩, ⟨some 25, .iadr 4 (.t 23) (.t 24), some (22, false)⟩, ⟨some 26, .fadr 2 (.t 25), some (22, false)⟩, ⟨some 27, .load false 1 (.t 26), some (22, false)⟩, ⟨some 28, .len true (.t 27), some (22, false)⟩, ⟨some 29, .bini .gtr (.t 28) (.c (.int .i64 (100))), some (22, false)⟩, ⟨some 30, .pick (.t 22) (.b true) (.t 29), none⟩])
 (.cond (.t 30)
 (.seq (.reg [⟨some 2, .mov (.b true), none⟩])
 .ret)
 .skip)))
 (.reg [⟨some 13, .mov (.t 3), none⟩, ⟨some 14, .bini .add (.t 13) (.c (.int .i64 (1))), none⟩, ⟨some 3, .mov (.t 14), none⟩]))))))
 (.seq (.reg [⟨some 31, .mov (.t 0), none⟩, ⟨some 32, .len false (.t 31), none⟩, ⟨some 33, .bini .gtr (.t 32) (.c (.int .i64 (50))), none⟩, ⟨some 2, .mov (.t 33), none⟩])
 .ret)))⟩
theorem t_hydrantref06_Big : trFn Try.prog 57 [] [[3]] = some f_hydrantref06_Big := by kernel_rfl

abbrev n_routes_Best : Nat := 58
theorem k_routes_Best : FnOk Try.prog 58 := FnOk.of (by kernel_rfl)
/-- hydrant/routes.Best -/
def f_routes_Best : FnI := ⟨43, [.tmp 8, .tmp 9],
 (.seq (.reg [⟨some 4, .box 48 (.t 0), none⟩, ⟨some 8, .mov (.c (.int .i64 (0))), none⟩, ⟨some 9, .mov (.c (.int .i64 (0))), none⟩])
 (.seq (.reg [⟨some 10, .alloc 3 [(.v (.int .i64 (0)))], none⟩, ⟨none, .store 1 (.t 10) (.c (.int .i64 (-1))), none⟩])
 (.seq (.seq (.reg [⟨some 13, .load false 1 (.t 4), none⟩, ⟨some 14, .mov (.t 1), none⟩, ⟨some 15, .mov (.t 2), none⟩, ⟨some 16, .mov (.t 3), none⟩, ⟨some 17, .call 75 [(.t 13), (.t 14), (.t 15), (.t 16)], none⟩])
 (.block 0
 (.rfun (.t 17) [18, 19]
 (.seq (.reg [⟨some 11, .mov (.t 18), none⟩])
 (.reg [⟨some 12, .alloc 85 [(.v (.int .i64 (0))), (.v (.string ⟨#[]⟩)), (.v (.string ⟨#[]⟩)), (.v (.int .i64 (0)))], none⟩, ⟨none, .store 4 (.t 12) (.t 19), none⟩]))
 (.block 1
 (.seq (.regD [] (.op ⟨0, true, [], ⟨some 20, .load false 1 (.t 10), none⟩⟩
 (.op ⟨1, false, [], ⟨some 21, .bini .lss (.t 20) (.c (.int .i64 (0))), none⟩⟩
 (.op ⟨2, false, [], ⟨some 22, .mov (.t 21), none⟩⟩
 (.op ⟨3, false, [], ⟨some 23, .fadr 1 (.t 12), some (22, false)⟩⟩
 (.op ⟨4, true, [], ⟨some 24, .load false 1 (.t 23), some (22, false)⟩⟩
 (.op ⟨5, false, [], ⟨some 25, .fadr 2 (.t 12), some (22, false)⟩⟩
 (.op ⟨6, true, [], ⟨some 26, .load false 1 (.t 25), some (22, false)⟩⟩
 (.op ⟨7, true, [], ⟨some 27, .load false 1 (.t 4), some (22, false)⟩⟩
 (.op ⟨8, true, [], ⟨some 28, .load false 1 (.t 10), some (22, false)⟩⟩
 (.op ⟨9, true, [], ⟨some 29, .iadr 4 (.t 27) (.t 28), some (22, false)⟩⟩
 (.op ⟨10, false, [], ⟨some 30, .fadr 1 (.t 29), some (22, false)⟩⟩
 (.op ⟨11, true, [], ⟨some 31, .load false 1 (.t 30), some (22, false)⟩⟩
 (.op ⟨12, true, [], ⟨some 32, .load false 1 (.t 4), some (22, false)⟩⟩
 (.op ⟨13, true, [], ⟨some 33, .load false 1 (.t 10), some (22, false)⟩⟩
 (.op ⟨14, true, [], ⟨some 34, .iadr 4 (.t 32) (.t 33), some (22, false)⟩⟩
 (.op ⟨15, false, [], ⟨some 35, .fadr 2 (.t 34), some (22, false)⟩⟩
 (.op ⟨16, true, [], ⟨some 36, .load false 1 (.t 35), some (22, false)⟩⟩
 (.op ⟨17, false, [], ⟨some 37, .call 76 [(.t 24), (.t 26), (.t 31), (.t 36)], some (22, false)⟩⟩
 (.op ⟨18, false, [], ⟨some 38, .pick (.t 22) (.b true) (.t 37), none⟩⟩
 .nil))))))))))))))))))))
 (.cond (.t 38)
 (.reg [⟨some 39, .mov (.t 11), none⟩, ⟨none, .store 1 (.t 10) (.t 39), none⟩])
 .skip))))))
 (.seq (.seq (.reg [⟨some 40, .load false 1 (.t 10), none⟩, ⟨some 41, .bini .lss (.t 40) (.c (.int .i64 (0))), none⟩])
 (.cond (.t 41)
 (.seq (.reg [⟨some 8, .mov (.c (.int .i64 (0))), none⟩, ⟨some 9, .mov (.c (.int .i64 (5))), none⟩])
 .ret)
 .skip))
 (.seq (.reg [⟨some 42, .load false 1 (.t 10), none⟩, ⟨some 8, .mov (.t 42), none⟩, ⟨some 9, .mov (.c (.int .i64 (0))), none⟩])
 .ret)))))⟩
theorem t_routes_Best : trFn Try.prog 58 [([], (.first 0 (.first 1 (.first 2 (.first 3 (.first 4 (.first 5 (.first 6 (.first 7 (.first 8 (.first 9 (.first 10 (.first 11 (.first 12 (.first 13 (.first 14 (.first 15 (.first 16 (.exec 17 (.first 18 .nil))))))))))))))))))))] [] = some f_routes_Best := by kernel_rfl

abbrev n_slices_IndexFunc___api_Op_api_Op : Nat := 59
theorem k_slices_IndexFunc___api_Op_api_Op : FnOk Try.prog 59 := FnOk.of (by kernel_rfl)
/-- slices.IndexFunc[[]hydrant/api.Op,hydrant/api.Op] -/
def f_slices_IndexFunc___api_Op_api_Op : FnI := ⟨19, [.tmp 4],
 (.seq (.reg [⟨some 4, .mov (.c (.int .i64 (0))), none⟩])
 (.seq (.seq (.reg [⟨some 6, .mov (.t 0), none⟩, ⟨some 7, .len false (.t 6), none⟩, ⟨some 8, .mov (.c (.int .i64 (0))), none⟩])
 (.block 0
 (.loop [8] [9, 10, 5, 11, 12, 13, 14, 15, 16, 17, 4, 18, 8]
 (.seq (.reg [⟨some 9, .bini .lss (.t 8) (.t 7), none⟩])
 (.seq (.cond (.t 9)
 .skip
 (.exit 0))
 (.seq (.block 1
 (.seq (.reg [⟨some 10, .mov (.t 8), none⟩, ⟨some 5, .mov (.t 10), none⟩])
 (.seq (.reg [⟨some 11, .mov (.t 1), none⟩, ⟨some 12, .mov (.t 0), none⟩, ⟨some 13, .mov (.t 5), none⟩, ⟨some 14, .iadr 10 (.t 12) (.t 13), none⟩, ⟨some 15, .load true 10 (.t 14), none⟩, ⟨some 16, .callv (.t 11) [(.t 15)], none⟩])
 (.cond (.t 16)
 (.seq (.reg [⟨some 17, .mov (.t 5), none⟩, ⟨some 4, .mov (.t 17), none⟩])
 .ret)
 .skip))))
 (.reg [⟨some 18, .bini .add (.t 8) (.c (.int .i64 (1))), none⟩, ⟨some 8, .mov (.t 18), none⟩])))))))
 (.seq (.reg [⟨some 4, .mov (.c (.int .i64 (-1))), none⟩])
 .ret)))⟩
theorem t_slices_IndexFunc___api_Op_api_Op : trFn Try.prog 59 [] [[8]] = some f_slices_IndexFunc___api_Op_api_Op := by kernel_rfl

abbrev n_slices_IndexFunc___int_int : Nat := 60
theorem k_slices_IndexFunc___int_int : FnOk Try.prog 60 := FnOk.of (by kernel_rfl)
/-- slices.IndexFunc[[]int,int] -/
def f_slices_IndexFunc___int_int : FnI := ⟨19, [.tmp 4],
 (.seq (.reg [⟨some 4, .mov (.c (.int .i64 (0))), none⟩])
 (.seq (.seq (.reg [⟨some 6, .mov (.t 0), none⟩, ⟨some 7, .len false (.t 6), none⟩, ⟨some 8, .mov (.c (.int .i64 (0))), none⟩])
 (.block 0
 (.loop [8] [9, 10, 5, 11, 12, 13, 14, 15, 16, 17, 4, 18, 8]
 (.seq (.reg [⟨some 9, .bini .lss (.t 8) (.t 7), none⟩])
 (.seq (.cond (.t 9)
 .skip
 (.exit 0))
 (.seq (.block 1
 (.seq (.reg [⟨some 10, .mov (.t 8), none⟩, ⟨some 5, .mov (.t 10), none⟩])
 (.seq (.reg [⟨some 11, .mov (.t 1), none⟩, ⟨some 12, .mov (.t 0), none⟩, ⟨some 13, .mov (.t 5), none⟩, ⟨some 14, .iadr 1 (.t 12) (.t 13), none⟩, ⟨some 15, .load false 1 (.t 14), none⟩, ⟨some 16, .callv (.t 11) [(.t 15)], none⟩])
 (.cond (.t 16)
 (.seq (.reg [⟨some 17, .mov (.t 5), none⟩, ⟨some 4, .mov (.t 17), none⟩])
 .ret)
 .skip))))
 (.reg [⟨some 18, .bini .add (.t 8) (.c (.int .i64 (1))), none⟩, ⟨some 8, .mov (.t 18), none⟩])))))))
 (.seq (.reg [⟨some 4, .mov (.c (.int .i64 (-1))), none⟩])
 .ret)))⟩
theorem t_slices_IndexFunc___int_int : trFn Try.prog 60 [] [[8]] = some f_slices_IndexFunc___int_int := by kernel_rfl

abbrev n_hydrantref05_listens : Nat := 61
theorem k_hydrantref05_listens : FnOk Try.prog 61 := FnOk.of (by kernel_rfl)
/-- hydrant/hydrantref05.listens -/
def f_hydrantref05_listens : FnI := ⟨38, [.tmp 2, .tmp 3],
 (.seq (.reg [⟨some 1, .box 26 (.t 0), none⟩, ⟨some 2, .mov (.c (.int .i64 (0))), none⟩, ⟨some 3, .mov (.c (.int .i64 (0))), none⟩])
 (.seq (.seq (.reg [⟨some 4, .mov (.c (.int .i64 (0))), none⟩])
 (.block 0
 (.loop [4] [6, 7, 8, 9, 10, 13, 14, 15, 16, 17, 18, 19, 20, 2, 3, 5, 21, 22, 23, 26, 27, 28, 29, 30, 31, 32, 33, 34, 35, 36, 37, 24, 25, 11, 12, 4]
 (.seq (.seq (.reg [⟨some 6, .mov (.t 4), none⟩, ⟨some 7, .fadr 0 (.t 1), none⟩, ⟨some 8, .load false 1 (.t 7), none⟩, ⟨some 9, .len false (.t 8), none⟩, ⟨some 10, .bini .lss (.t 6) (.t 9), none⟩])
 (.cond (.t 10)
 .skip
 (.exit 0)))
 (.seq (.block 1
 (.seq (.seq (.reg [⟨some 13, .fadr 0 (.t 1), none⟩, ⟨some 14, .load false 1 (.t 13), none⟩, ⟨some 15, .mov (.t 4), none⟩, ⟨some 16, .iadr 1 (.t 14) (.t 15), none⟩, ⟨some 17, .load false 1 (.t 16), none⟩, ⟨some 18, .call 77 [(.t 17)], none⟩, ⟨some 19, .not (.t 18), none⟩])
 (.cond (.t 19)
 (.seq (.reg [⟨some 20, .mov (.t 4), none⟩, ⟨some 2, .mov (.c (.int .i64 (3))), none⟩, ⟨some 3, .mov (.t 20), none⟩])
 .ret)
 .skip))
 (.seq (.reg [⟨some 5, .mov (.c (.int .i64 (0))), none⟩])
 (.block 2
 (.loop [5] [21, 22, 23, 26, 27, 28, 29, 30, 31, 32, 33, 34, 35, 36, 37, 2, 3, 24, 25, 5]
 (.seq (.seq (.reg [⟨some 21, .mov (.t 5), none⟩, ⟨some 22, .mov (.t 4), none⟩, ⟨some 23, .bini .lss (.t 21) (.t 22), none⟩])
 (.cond (.t 23)
 .skip
 (.exit 2)))
 (.seq (.block 3
 (.seq (.regD [] (.op ⟨0, false, [], ⟨some 26, .fadr 0 (.t 1), none⟩⟩
 (.op ⟨1, true, [], ⟨some 27, .load false 1 (.t 26), none⟩⟩
 (.op ⟨2, false, [], ⟨some 28, .mov (.t 5), none⟩⟩
 (.op ⟨3, true, [], ⟨some 29, .iadr 1 (.t 27) (.t 28), none⟩⟩
 (.op ⟨4, true, [], ⟨some 30, .load false 1 (.t 29), none⟩⟩
 (.op ⟨5, false, [], ⟨some 31, .fadr 0 (.t 1), none⟩⟩
 (.op ⟨6, true, [], ⟨some 32, .load false 1 (.t 31), none⟩⟩
 (.op ⟨7, false, [], ⟨some 33, .mov (.t 4), none⟩⟩
 (.op ⟨8, true, [], ⟨some 34, .iadr 1 (.t 32) (.t 33), none⟩⟩
 (.op ⟨9, true, [], ⟨some 35, .load false 1 (.t 34), none⟩⟩
 (.op ⟨10, false, [], ⟨some 36, .bins .eql (.t 30) (.t 35), none⟩⟩
 .nil))))))))))))
 (.cond (.t 36)
 (.seq (.reg [⟨some 37, .mov (.t 4), none⟩, ⟨some 2, .mov (.c (.int .i64 (4))), none⟩, ⟨some 3, .mov (.t 37), none⟩])
 .ret)
 .skip)))
 (.reg [⟨some 24, .mov (.t 5), none⟩, ⟨some 25, .bini .add (.t 24) (.c (.int .i64 (1))), none⟩, ⟨some 5, .mov (.t 25), none⟩]))))))))
 (.reg [⟨some 11, .mov (.t 4), none⟩, ⟨some 12, .bini .add (.t 11) (.c (.int .i64 (1))), none⟩, ⟨some 4, .mov (.t 12), none⟩]))))))
 (.seq (.reg [⟨some 2, .mov (.c (.int .i64 (0))), none⟩, ⟨some 3, .mov (.c (.int .i64 (0))), none⟩])
 .ret)))⟩
theorem t_hydrantref05_listens : trFn Try.prog 61 [([], (.first 0 (.first 1 (.first 2 (.first 3 (.first 4 (.first 5 (.first 6 (.first 7 (.first 8 (.first 9 (.first 10 .nil))))))))))))] [[4], [5]] = some f_hydrantref05_listens := by kernel_rfl

abbrev n_hydrantref05_clusters : Nat := 62
theorem k_hydrantref05_clusters : FnOk Try.prog 62 := FnOk.of (by kernel_rfl)
/-- hydrant/hydrantref05.clusters -/
def f_hydrantref05_clusters : FnI := ⟨68, [.tmp 2, .tmp 3],
 (.seq (.reg [⟨some 1, .box 26 (.t 0), none⟩, ⟨some 2, .mov (.c (.int .i64 (0))), none⟩, ⟨some 3, .mov (.c (.int .i64 (0))), none⟩])
 (.seq (.seq (.reg [⟨some 4, .mov (.c (.int .i64 (0))), none⟩])
 (.block 0
 (.loop [4] [7, 8, 9, 10, 11, 14, 15, 16, 17, 18, 5, 19, 20, 21, 22, 23, 2, 3, 6, 24, 25, 26, 29, 30, 31, 32, 33, 34, 35, 36, 37, 38, 27, 28, 39, 40, 41, 42, 43, 44, 45, 46, 47, 48, 49, 50, 51, 52, 53, 54, 55, 56, 57, 58, 59, 60, 61, 62, 63, 64, 65, 66, 67, 12, 13, 4]
 (.seq (.seq (.reg [⟨some 7, .mov (.t 4), none⟩, ⟨some 8, .fadr 2 (.t 1), none⟩, ⟨some 9, .load false 1 (.t 8), none⟩, ⟨some 10, .len false (.t 9), none⟩, ⟨some 11, .bini .lss (.t 7) (.t 10), none⟩])
 (.cond (.t 11)
 .skip
 (.exit 0)))
 (.seq (.block 1
 (.seq (.reg [⟨some 14, .fadr 2 (.t 1), none⟩, ⟨some 15, .load false 1 (.t 14), none⟩, ⟨some 16, .mov (.t 4), none⟩, ⟨some 17, .iadr 4 (.t 15) (.t 16), none⟩, ⟨some 18, .load true 4 (.t 17), none⟩, ⟨some 5, .alloc 79 [(.v (.string ⟨#[]⟩)), (.v (.int .i64 (0))), (.v (.int .i64 (0))), (.v (.slice none 0 0))], none⟩, ⟨none, .store 4 (.t 5) (.t 18), none⟩])
 (.seq (.seq (.reg [⟨some 19, .fadr 0 (.t 5), none⟩, ⟨some 20, .load false 1 (.t 19), none⟩, ⟨some 21, .call 77 [(.t 20)], none⟩, ⟨some 22, .not (.t 21), none⟩])
 (.cond (.t 22)
 (.seq (.reg [⟨some 23, .mov (.t 4), none⟩, ⟨some 2, .mov (.c (.int .i64 (3))), none⟩, ⟨some 3, .mov (.t 23), none⟩])
 .ret)
 .skip))
 (.seq (.seq (.reg [⟨some 6, .mov (.c (.int .i64 (0))), none⟩])
 (.block 2
 (.loop [6] [24, 25, 26, 29, 30, 31, 32, 33, 34, 35, 36, 37, 38, 2, 3, 27, 28, 6]
 (.seq (.seq (.reg [⟨some 24, .mov (.t 6), none⟩, ⟨some 25, .mov (.t 4), none⟩, ⟨some 26, .bini .lss (.t 24) (.t 25), none⟩])
 (.cond (.t 26)
 .skip
 (.exit 2)))
 (.seq (.block 3
 (.seq (.regD [] (.op ⟨0, false, [], ⟨some 29, .fadr 2 (.t 1), none⟩⟩
 (.op ⟨1, true, [], ⟨some 30, .load false 1 (.t 29), none⟩⟩
 (.op ⟨2, false, [], ⟨some 31, .mov (.t 6), none⟩⟩
 (.op ⟨3, true, [], ⟨some 32, .iadr 4 (.t 30) (.t 31), none⟩⟩
 (.op ⟨4, false, [], ⟨some 33, .fadr 0 (.t 32), none⟩⟩
 (.op ⟨5, true, [], ⟨some 34, .load false 1 (.t 33), none⟩⟩
 (.op ⟨6, false, [], ⟨some 35, .fadr 0 (.t 5), none⟩⟩
 (.op ⟨7, true, [], ⟨some 36, .load false 1 (.t 35), none⟩⟩
 (.op ⟨8, false, [], ⟨some 37, .bins .eql (.t 34) (.t 36), none⟩⟩
 .nil))))))))))
 (.cond (.t 37)
 (.seq (.reg [⟨some 38, .mov (.t 4), none⟩, ⟨some 2, .mov (.c (.int .i64 (4))), none⟩, ⟨some 3, .mov (.t 38), none⟩])
 .ret)
 .skip)))
 (.reg [⟨some 27, .mov (.t 6), none⟩, ⟨some 28, .bini .add (.t 27) (.c (.int .i64 (1))), none⟩, ⟨some 6, .mov (.t 28), none⟩]))))))
 (.seq (.seq (.reg [⟨some 39, .fadr 1 (.t 5), none⟩, ⟨some 40, .load false 1 (.t 39), none⟩, ⟨some 41, .bini .neq (.t 40) (.c (.int .i64 (1))), none⟩, ⟨some 42, .mov (.t 41), none⟩, ⟨some 43, .fadr 1 (.t 5), some (42, true)⟩, ⟨some 44, .load false 1 (.t 43), some (42, true)⟩, ⟨some 45, .bini .neq (.t 44) (.c (.int .i64 (2))), some (42, true)⟩, ⟨some 46, .pick (.t 42) (.t 45) (.b false), none⟩])
 (.cond (.t 46)
 (.seq (.reg [⟨some 47, .mov (.t 4), none⟩, ⟨some 2, .mov (.c (.int .i64 (9))), none⟩, ⟨some 3, .mov (.t 47), none⟩])
 .ret)
 .skip))
 (.seq (.seq (.reg [⟨some 48, .fadr 2 (.t 5), none⟩, ⟨some 49, .load false 1 (.t 48), none⟩, ⟨some 50, .bini .lss (.t 49) (.c (.int .i64 (1))), none⟩, ⟨some 51, .mov (.t 50), none⟩, ⟨some 52, .fadr 2 (.t 5), some (51, false)⟩, ⟨some 53, .load false 1 (.t 52), some (51, false)⟩, ⟨some 54, .bini .gtr (.t 53) (.c (.int .i64 (4))), some (51, false)⟩, ⟨some 55, .pick (.t 51) (.b true) (.t 54), none⟩])
 (.cond (.t 55)
 (.seq (.reg [⟨some 56, .mov (.t 4), none⟩, ⟨some 2, .mov (.c (.int .i64 (10))), none⟩, ⟨some 3, .mov (.t 56), none⟩])
 .ret)
 .skip))
 (.seq (.reg [⟨some 57, .fadr 3 (.t 5), none⟩, ⟨some 58, .load false 1 (.t 57), none⟩, ⟨some 59, .len false (.t 58), none⟩, ⟨some 60, .bini .lss (.t 59) (.c (.int .i64 (1))), none⟩, ⟨some 61, .mov (.t 60), none⟩, ⟨some 62, .fadr 3 (.t 5), some (61, false)⟩, ⟨some 63, .load false 1 (.t 62), some (61, false)⟩, ⟨some 64, .len false (.t 63), some (61, false)⟩, ⟨some 65, .bini .gtr (.t 64) (.c (.int .i64 (4))), some (61, false)⟩, ⟨some 66, .pick (.t 61) (.b true) (.t 65), none⟩])
 (.cond (.t 66)
 (.seq (.reg [⟨some 67, .mov (.t 4), none⟩, ⟨some 2, .mov (.c (.int .i64 (6))), none⟩, ⟨some 3, .mov (.t 67), none⟩])
 .ret)
 .skip))))))))
 (.reg [⟨some 12, .mov (.t 4), none⟩, ⟨some 13, .bini .add (.t 12) (.c (.int .i64 (1))), none⟩, ⟨some 4, .mov (.t 13), none⟩]))))))
 (.seq (.reg [⟨some 2, .mov (.c (.int .i64 (0))), none⟩, ⟨some 3, .mov (.c (.int .i64 (0))), none⟩])
 .ret)))⟩
theorem t_hydrantref05_clusters : trFn Try.prog 62 [([], (.first 0 (.first 1 (.first 2 (.first 3 (.first 4 (.first 5 (.first 6 (.first 7 (.first 8 .nil))))))))))] [[4], [6]] = some f_hydrantref05_clusters := by kernel_rfl

abbrev n_hydrantref05_routes : Nat := 63
theorem k_hydrantref05_routes : FnOk Try.prog 63 := FnOk.of (by kernel_rfl)
/-- hydrant/hydrantref05.routes -/
def f_hydrantref05_routes : FnI := ⟨74, [.tmp 2, .tmp 3],
 (.seq (.reg [⟨some 1, .box 26 (.t 0), none⟩, ⟨some 2, .mov (.c (.int .i64 (0))), none⟩, ⟨some 3, .mov (.c (.int .i64 (0))), none⟩])
 (.seq (.seq (.reg [⟨some 4, .mov (.c (.int .i64 (0))), none⟩])
 (.block 0
 (.loop [4] [8, 9, 10, 11, 12, 15, 16, 17, 18, 19, 5, 20, 21, 22, 23, 24, 25, 26, 2, 3, 27, 28, 29, 30, 31, 32, 33, 34, 35, 36, 37, 38, 39, 40, 41, 42, 43, 6, 44, 45, 46, 49, 50, 51, 52, 53, 7, 54, 55, 56, 57, 58, 59, 60, 61, 62, 63, 64, 65, 66, 67, 68, 69, 70, 71, 72, 73, 47, 48, 13, 14, 4]
 (.seq (.seq (.reg [⟨some 8, .mov (.t 4), none⟩, ⟨some 9, .fadr 1 (.t 1), none⟩, ⟨some 10, .load false 1 (.t 9), none⟩, ⟨some 11, .len false (.t 10), none⟩, ⟨some 12, .bini .lss (.t 8) (.t 11), none⟩])
 (.cond (.t 12)
 .skip
 (.exit 0)))
 (.seq (.block 1
 (.seq (.reg [⟨some 15, .fadr 1 (.t 1), none⟩, ⟨some 16, .load false 1 (.t 15), none⟩, ⟨some 17, .mov (.t 4), none⟩, ⟨some 18, .iadr 4 (.t 16) (.t 17), none⟩, ⟨some 19, .load true 4 (.t 18), none⟩, ⟨some 5, .alloc 81 [(.v (.string ⟨#[]⟩)), (.v (.string ⟨#[]⟩)), (.v (.string ⟨#[]⟩)), (.v (.string ⟨#[]⟩))], none⟩, ⟨none, .store 4 (.t 5) (.t 19), none⟩])
 (.seq (.seq (.reg [⟨some 20, .fadr 0 (.t 1), none⟩, ⟨some 21, .load false 1 (.t 20), none⟩, ⟨some 22, .fadr 0 (.t 5), none⟩, ⟨some 23, .load false 1 (.t 22), none⟩, ⟨some 24, .call 52 [(.t 21), (.t 23)], none⟩, ⟨some 25, .bini .lss (.t 24) (.c (.int .i64 (0))), none⟩])
 (.cond (.t 25)
 (.seq (.reg [⟨some 26, .mov (.t 4), none⟩, ⟨some 2, .mov (.c (.int .i64 (5))), none⟩, ⟨some 3, .mov (.t 26), none⟩])
 .ret)
 .skip))
 (.seq (.seq (.reg [⟨some 27, .fadr 1 (.t 5), none⟩, ⟨some 28, .load false 1 (.t 27), none⟩, ⟨some 29, .call 78 [(.t 28)], none⟩, ⟨some 30, .not (.t 29), none⟩])
 (.cond (.t 30)
 (.seq (.reg [⟨some 31, .mov (.t 4), none⟩, ⟨some 2, .mov (.c (.int .i64 (7))), none⟩, ⟨some 3, .mov (.t 31), none⟩])
 .ret)
 .skip))
 (.seq (.seq (.reg [⟨some 32, .fadr 2 (.t 5), none⟩, ⟨some 33, .load false 1 (.t 32), none⟩, ⟨some 34, .call 79 [(.t 33)], none⟩, ⟨some 35, .not (.t 34), none⟩])
 (.cond (.t 35)
 (.seq (.reg [⟨some 36, .mov (.t 4), none⟩, ⟨some 2, .mov (.c (.int .i64 (8))), none⟩, ⟨some 3, .mov (.t 36), none⟩])
 .ret)
 .skip))
 (.seq (.seq (.reg [⟨some 37, .fadr 2 (.t 1), none⟩, ⟨some 38, .load false 1 (.t 37), none⟩, ⟨some 39, .fadr 3 (.t 5), none⟩, ⟨some 40, .load false 1 (.t 39), none⟩, ⟨some 41, .call 53 [(.t 38), (.t 40)], none⟩, ⟨some 42, .bini .lss (.t 41) (.c (.int .i64 (0))), none⟩])
 (.cond (.t 42)
 (.seq (.reg [⟨some 43, .mov (.t 4), none⟩, ⟨some 2, .mov (.c (.int .i64 (5))), none⟩, ⟨some 3, .mov (.t 43), none⟩])
 .ret)
 .skip))
 (.seq (.reg [⟨some 6, .mov (.c (.int .i64 (0))), none⟩])
 (.block 2
 (.loop [6] [44, 45, 46, 49, 50, 51, 52, 53, 7, 54, 55, 56, 57, 58, 59, 60, 61, 62, 63, 64, 65, 66, 67, 68, 69, 70, 71, 72, 73, 2, 3, 47, 48, 6]
 (.seq (.seq (.reg [⟨some 44, .mov (.t 6), none⟩, ⟨some 45, .mov (.t 4), none⟩, ⟨some 46, .bini .lss (.t 44) (.t 45), none⟩])
 (.cond (.t 46)
 .skip
 (.exit 2)))
 (.seq (.block 3
 (.seq (.reg [⟨some 49, .fadr 1 (.t 1), none⟩, ⟨some 50, .load false 1 (.t 49), none⟩, ⟨some 51, .mov (.t 6), none⟩, ⟨some 52, .iadr 4 (.t 50) (.t 51), none⟩, ⟨some 53, .load true 4 (.t 52), none⟩, ⟨some 7, .alloc 81 [(.v (.string ⟨#[]⟩)), (.v (.string ⟨#[]⟩)), (.v (.string ⟨#[]⟩)), (.v (.string ⟨#[]⟩))], none⟩, ⟨none, .store 4 (.t 7) (.t 53), none⟩])
 (.seq (.reg [⟨some 54, .fadr 0 (.t 7), none⟩, ⟨some 55, .load false 1 (.t 54), none⟩, ⟨some 56, .fadr 0 (.t 5), none⟩, ⟨some 57, .load false 1 (.t 56), none⟩, ⟨some 58, .bins .eql (.t 55) (.t 57), none⟩, ⟨some 59, .mov (.t 58), none⟩, ⟨some 60, .fadr 1 (.t 7), some (59, true)⟩, ⟨some 61, .load false 1 (.t 60), some (59, true)⟩, ⟨some 62, .fadr 1 (.t 5), some (59, true)⟩, ⟨some 63, .load false 1 (.t 62), some (59, true)⟩, ⟨some 64, .bins .eql (.t 61) (.t 63), some (59, true)⟩, ⟨some 65, .pick (.t 59) (.t 64) (.b false), none⟩, ⟨some 66, .mov (.t 65), none⟩, ⟨some 67, .fadr 2 (.t 7), some (66, true)⟩, ⟨some 68, .load false 1 (.t 67), some (66, true)⟩, ⟨some 69, .fadr 2 (.t 5), some (66, true)⟩, ⟨some 70, .load false 1 (.t 69), some (66, true)⟩, ⟨some 71, .bins .eql (.t 68) (.t 70), some (66, true)⟩, ⟨some 72, .pick (.t 66) (.t 71) (.b false), none⟩])
 (.cond (.t 72)
 (.seq (.reg [⟨some 73, .mov (.t 4), none⟩, ⟨some 2, .mov (.c (.int .i64 (4))), none⟩, ⟨some 3, .mov (.t 73), none⟩])
 .ret)
 .skip))))
 (.reg [⟨some 47, .mov (.t 6), none⟩, ⟨some 48, .bini .add (.t 47) (.c (.int .i64 (1))), none⟩, ⟨some 6, .mov (.t 48), none⟩]))))))))))))
 (.reg [⟨some 13, .mov (.t 4), none⟩, ⟨some 14, .bini .add (.t 13) (.c (.int .i64 (1))), none⟩, ⟨some 4, .mov (.t 14), none⟩]))))))
 (.seq (.reg [⟨some 2, .mov (.c (.int .i64 (0))), none⟩, ⟨some 3, .mov (.c (.int .i64 (0))), none⟩])
 .ret)))⟩
theorem t_hydrantref05_routes : trFn Try.prog 63 [] [[4], [6]] = some f_hydrantref05_routes := by kernel_rfl

abbrev n_script_configs_1 : Nat := 64
theorem k_script_configs_1 : FnOk Try.prog 64 := FnOk.of (by kernel_rfl)
/-- hydrant/script.configs$1 -/
def f_script_configs_1 : FnI := ⟨42, [],
 (.seq (.seq (.reg [⟨some 7, .mov (.t 0), none⟩, ⟨some 8, .fadr 0 (.t 1), none⟩, ⟨some 9, .load true 3 (.t 8), none⟩, ⟨some 10, .callv (.t 7) [(.t 9)], none⟩, ⟨some 11, .not (.t 10), none⟩])
 (.cond (.t 11)
 .ret
 .skip))
 (.seq (.reg [⟨some 12, .fadr 3 (.t 1), none⟩, ⟨some 13, .load false 1 (.t 12), none⟩, ⟨some 14, .len false (.t 13), none⟩, ⟨some 15, .mov (.c (.int .i64 (0))), none⟩])
 (.block 0
 (.loop [15] [16, 17, 18, 4, 19, 20, 21, 22, 23, 24, 6, 25, 26, 27, 28, 29, 30, 31, 32, 33, 34, 35, 36, 37, 38, 39, 40, 41, 15]
 (.seq (.reg [⟨some 16, .bini .lss (.t 15) (.t 14), none⟩])
 (.seq (.cond (.t 16)
 .skip
 (.exit 0))
 (.seq (.block 1
 (.seq (.reg [⟨some 17, .iadr 1 (.t 13) (.t 15), none⟩, ⟨some 18, .load false 1 (.t 17), none⟩, ⟨some 4, .mov (.t 18), none⟩])
 (.seq (.reg [⟨some 19, .mov (.t 4), none⟩, ⟨some 20, .len false (.t 19), none⟩, ⟨some 21, .mov (.c (.int .i64 (0))), none⟩])
 (.block 2
 (.loop [21] [22, 23, 24, 6, 25, 26, 27, 28, 29, 30, 31, 32, 33, 34, 35, 36, 37, 38, 39, 40, 21]
 (.seq (.reg [⟨some 22, .bini .lss (.t 21) (.t 20), none⟩])
 (.seq (.cond (.t 22)
 .skip
 (.exit 2))
 (.seq (.block 3
 (.seq (.reg [⟨some 23, .iadr 10 (.t 19) (.t 21), none⟩, ⟨some 24, .load true 10 (.t 23), none⟩, ⟨some 6, .alloc 61 [(.v (.int .i64 (0))), (.v (.string ⟨#[]⟩)), (.v (.string ⟨#[]⟩)), (.v (.string ⟨#[]⟩)), (.v (.int .i64 (0))), (.v (.int .i64 (0))), (.v (.int .i64 (0))), (.v (.slice none 0 0)), (.v (.slice none 0 0)), (.v (.slice none 0 0))], none⟩, ⟨none, .store 10 (.t 6) (.t 24), none⟩])
 (.seq (.reg [⟨some 25, .fadr 0 (.t 6), none⟩, ⟨some 26, .load false 1 (.t 25), none⟩, ⟨some 27, .bini .eql (.t 26) (.c (.int .i64 (3))), none⟩, ⟨some 28, .mov (.t 27), none⟩, ⟨some 29, .fadr 7 (.t 6), some (28, true)⟩, ⟨some 30, .load true 3 (.t 29), some (28, true)⟩, ⟨some 31, .call 37 [(.t 30)], some (28, true)⟩, ⟨some 32, .pick (.t 28) (.t 31) (.b false), none⟩, ⟨some 33, .mov (.t 32), none⟩, ⟨some 34, .mov (.t 0), some (33, true)⟩, ⟨some 35, .fadr 7 (.t 6), some (33, true)⟩, ⟨some 36, .load true 3 (.t 35), some (33, true)⟩, ⟨some 37, .callv (.t 34) [(.t 36)], some (33, true)⟩, ⟨some 38, .not (.t 37), some (33, true)⟩, ⟨some 39, .pick (.t 33) (.t 38) (.b false), none⟩])
 (.cond (.t 39)
 .ret
 .skip))))
 (.reg [⟨some 40, .bini .add (.t 21) (.c (.int .i64 (1))), none⟩, ⟨some 21, .mov (.t 40), none⟩])))))))))
 (.reg [⟨some 41, .bini .add (.t 15) (.c (.int .i64 (1))), none⟩, ⟨some 15, .mov (.t 41), none⟩]))))))))⟩
theorem t_script_configs_1 : trFn Try.prog 64 [] [[15], [21]] = some f_script_configs_1 := by kernel_rfl

abbrev n_slices_Index___string_string : Nat := 65
theorem k_slices_Index___string_string : FnOk Try.prog 65 := FnOk.of (by kernel_rfl)
/-- slices.Index[[]string,string] -/
def f_slices_Index___string_string : FnI := ⟨19, [.tmp 4],
 (.seq (.reg [⟨some 4, .mov (.c (.int .i64 (0))), none⟩])
 (.seq (.seq (.reg [⟨some 6, .mov (.t 0), none⟩, ⟨some 7, .len false (.t 6), none⟩, ⟨some 8, .mov (.c (.int .i64 (0))), none⟩])
 (.block 0
 (.loop [8] [9, 10, 5, 11, 12, 13, 14, 15, 16, 17, 4, 18, 8]
 (.seq (.reg [⟨some 9, .bini .lss (.t 8) (.t 7), none⟩])
 (.seq (.cond (.t 9)
 .skip
 (.exit 0))
 (.seq (.block 1
 (.seq (.reg [⟨some 10, .mov (.t 8), none⟩, ⟨some 5, .mov (.t 10), none⟩])
 (.seq (.reg [⟨some 11, .mov (.t 1), none⟩, ⟨some 12, .mov (.t 0), none⟩, ⟨some 13, .mov (.t 5), none⟩, ⟨some 14, .iadr 1 (.t 12) (.t 13), none⟩, ⟨some 15, .load false 1 (.t 14), none⟩, ⟨some 16, .bins .eql (.t 11) (.t 15), none⟩])
 (.cond (.t 16)
 (.seq (.reg [⟨some 17, .mov (.t 5), none⟩, ⟨some 4, .mov (.t 17), none⟩])
 .ret)
 .skip))))
 (.reg [⟨some 18, .bini .add (.t 8) (.c (.int .i64 (1))), none⟩, ⟨some 8, .mov (.t 18), none⟩])))))))
 (.seq (.reg [⟨some 4, .mov (.c (.int .i64 (-1))), none⟩])
 .ret)))⟩
theorem t_slices_Index___string_string : trFn Try.prog 65 [] [[8]] = some f_slices_Index___string_string := by kernel_rfl

abbrev n_config_within : Nat := 66
theorem k_config_within : FnOk Try.prog 66 := FnOk.of (by kernel_rfl)
/-- hydrant/config.within -/
def f_config_within : FnI := ⟨15, [.tmp 6],
 (.seq (.reg [⟨some 6, .mov (.b false), none⟩])
 (.seq (.reg [⟨some 7, .mov (.t 0), none⟩, ⟨some 8, .mov (.t 1), none⟩, ⟨some 9, .bini .geq (.t 7) (.t 8), none⟩, ⟨some 10, .mov (.t 9), none⟩, ⟨some 11, .mov (.t 0), some (10, true)⟩, ⟨some 12, .mov (.t 2), some (10, true)⟩, ⟨some 13, .bini .leq (.t 11) (.t 12), some (10, true)⟩, ⟨some 14, .pick (.t 10) (.t 13) (.b false), none⟩, ⟨some 6, .mov (.t 14), none⟩])
 .ret))⟩
theorem t_config_within : trFn Try.prog 66 [] [] = some f_config_within := by kernel_rfl

abbrev n_names_Name : Nat := 67
theorem k_names_Name : FnOk Try.prog 67 := FnOk.of (by kernel_rfl)
/-- hydrant/names.Name -/
def f_names_Name : FnI := ⟨21, [.tmp 2],
 (.seq (.reg [⟨some 2, .mov (.b false), none⟩])
 (.seq (.reg [⟨some 3, .mov (.t 0), none⟩, ⟨some 4, .len true (.t 3), none⟩, ⟨some 5, .bini .gtr (.t 4) (.c (.int .i64 (0))), none⟩, ⟨some 6, .mov (.t 5), none⟩, ⟨some 7, .mov (.t 0), some (6, true)⟩, ⟨some 8, .len true (.t 7), some (6, true)⟩, ⟨some 9, .bini .leq (.t 8) (.c (.int .i64 (16))), some (6, true)⟩, ⟨some 10, .pick (.t 6) (.t 9) (.b false), none⟩, ⟨some 11, .mov (.t 10), none⟩, ⟨some 12, .mov (.t 0), some (11, true)⟩, ⟨some 13, .idxs (.t 12) (.c (.int .i64 (0))), some (11, true)⟩, ⟨some 14, .call 80 [(.t 13)], some (11, true)⟩, ⟨some 15, .pick (.t 11) (.t 14) (.b false), none⟩, ⟨some 16, .mov (.t 15), none⟩, ⟨some 17, .call 81 [], some (16, true)⟩, ⟨some 18, .mov (.t 0), some (16, true)⟩, ⟨some 19, .call 82 [(.t 17), (.t 18), (.c (.int .u8 (45)))], some (16, true)⟩, ⟨some 20, .pick (.t 16) (.t 19) (.b false), none⟩, ⟨some 2, .mov (.t 20), none⟩])
 .ret))⟩
theorem t_names_Name : trFn Try.prog 67 [] [] = some f_names_Name := by kernel_rfl

abbrev n_config_named : Nat := 68
theorem k_config_named : FnOk Try.prog 68 := FnOk.of (by kernel_rfl)
/-- hydrant/config.named -/
def f_config_named : FnI := ⟨8, [.tmp 4],
 (.seq (.reg [⟨some 3, .box 9 (.t 1), none⟩, ⟨some 4, .mov (.b false), none⟩])
 (.seq (.reg [⟨some 5, .mov (.t 0), none⟩, ⟨some 6, .mkf (.func 84) [] [(.t 3)], none⟩, ⟨some 7, .call 83 [(.t 5), (.t 6)], none⟩, ⟨some 4, .mov (.t 7), none⟩])
 .ret))⟩
theorem t_config_named : trFn Try.prog 68 [] [] = some f_config_named := by kernel_rfl

abbrev n_names_Pattern : Nat := 69
theorem k_names_Pattern : FnOk Try.prog 69 := FnOk.of (by kernel_rfl)
/-- hydrant/names.Pattern -/
def f_names_Pattern : FnI := ⟨19, [.tmp 2],
 (.seq (.reg [⟨some 2, .mov (.b false), none⟩])
 (.seq (.seq (.reg [⟨some 6, .mov (.t 0), none⟩, ⟨some 7, .call 85 [(.t 6), (.c (.string ⟨#[42, 46]⟩))], none⟩, ⟨some 5, .mov (.t 7), none⟩, ⟨some 8, .ext 0 (.t 5), none⟩, ⟨some 9, .ext 1 (.t 5), none⟩, ⟨some 3, .mov (.t 8), none⟩, ⟨some 4, .mov (.t 9), none⟩])
 (.seq (.reg [⟨some 10, .mov (.t 4), none⟩])
 (.cond (.t 10)
 (.seq (.reg [⟨some 11, .mov (.t 3), none⟩, ⟨some 12, .call 86 [(.t 11)], none⟩, ⟨some 2, .mov (.t 12), none⟩])
 .ret)
 .skip)))
 (.seq (.reg [⟨some 13, .mov (.t 0), none⟩, ⟨some 14, .bins .eql (.t 13) (.c (.string ⟨#[42]⟩)), none⟩, ⟨some 15, .mov (.t 14), none⟩, ⟨some 16, .mov (.t 0), some (15, false)⟩, ⟨some 17, .call 86 [(.t 16)], some (15, false)⟩, ⟨some 18, .pick (.t 15) (.b true) (.t 17), none⟩, ⟨some 2, .mov (.t 18), none⟩])
 .ret)))⟩
theorem t_names_Pattern : trFn Try.prog 69 [] [] = some f_names_Pattern := by kernel_rfl

abbrev n_names_Path : Nat := 70
theorem k_names_Path : FnOk Try.prog 70 := FnOk.of (by kernel_rfl)
/-- hydrant/names.Path -/
def f_names_Path : FnI := ⟨21, [.tmp 2],
 (.seq (.reg [⟨some 2, .mov (.b false), none⟩])
 (.seq (.reg [⟨some 3, .mov (.t 0), none⟩, ⟨some 4, .len true (.t 3), none⟩, ⟨some 5, .bini .gtr (.t 4) (.c (.int .i64 (0))), none⟩, ⟨some 6, .mov (.t 5), none⟩, ⟨some 7, .mov (.t 0), some (6, true)⟩, ⟨some 8, .len true (.t 7), some (6, true)⟩, ⟨some 9, .bini .leq (.t 8) (.c (.int .i64 (32))), some (6, true)⟩, ⟨some 10, .pick (.t 6) (.t 9) (.b false), none⟩, ⟨some 11, .mov (.t 10), none⟩, ⟨some 12, .mov (.t 0), some (11, true)⟩, ⟨some 13, .idxs (.t 12) (.c (.int .i64 (0))), some (11, true)⟩, ⟨some 14, .bini .eql (.t 13) (.c (.int .u8 (47))), some (11, true)⟩, ⟨some 15, .pick (.t 11) (.t 14) (.b false), none⟩, ⟨some 16, .mov (.t 15), none⟩, ⟨some 17, .call 81 [], some (16, true)⟩, ⟨some 18, .mov (.t 0), some (16, true)⟩, ⟨some 19, .call 82 [(.t 17), (.t 18), (.c (.int .u8 (47)))], some (16, true)⟩, ⟨some 20, .pick (.t 16) (.t 19) (.b false), none⟩, ⟨some 2, .mov (.t 20), none⟩])
 .ret))⟩
theorem t_names_Path : trFn Try.prog 70 [] [] = some f_names_Path := by kernel_rfl

abbrev n_snap_place_string : Nat := 71
theorem k_snap_place_string : FnOk Try.prog 71 := FnOk.of (by kernel_rfl)
/-- hydrant/snap.place[string] -/
def f_snap_place_string : FnI := ⟨19, [.tmp 4],
 (.seq (.reg [⟨some 4, .mov (.c (.int .i64 (0))), none⟩])
 (.seq (.seq (.reg [⟨some 7, .mov (.t 0), none⟩, ⟨some 8, .len false (.t 7), none⟩, ⟨some 9, .mov (.c (.int .i64 (0))), none⟩])
 (.block 0
 (.loop [9] [10, 11, 12, 13, 5, 6, 14, 15, 16, 17, 4, 18, 9]
 (.seq (.reg [⟨some 10, .bini .lss (.t 9) (.t 8), none⟩])
 (.seq (.cond (.t 10)
 .skip
 (.exit 0))
 (.seq (.block 1
 (.seq (.reg [⟨some 11, .mov (.t 9), none⟩, ⟨some 12, .iadr 1 (.t 7) (.t 9), none⟩, ⟨some 13, .load false 1 (.t 12), none⟩, ⟨some 5, .mov (.t 11), none⟩, ⟨some 6, .mov (.t 13), none⟩])
 (.seq (.reg [⟨some 14, .mov (.t 1), none⟩, ⟨some 15, .mov (.t 6), none⟩, ⟨some 16, .callv (.t 14) [(.t 15)], none⟩])
 (.cond (.t 16)
 (.seq (.reg [⟨some 17, .mov (.t 5), none⟩, ⟨some 4, .mov (.t 17), none⟩])
 .ret)
 .skip))))
 (.reg [⟨some 18, .bini .add (.t 9) (.c (.int .i64 (1))), none⟩, ⟨some 9, .mov (.t 18), none⟩])))))))
 (.seq (.reg [⟨some 4, .mov (.c (.int .i64 (-1))), none⟩])
 .ret)))⟩
theorem t_snap_place_string : trFn Try.prog 71 [] [[9]] = some f_snap_place_string := by kernel_rfl

abbrev n_snap_listener_1 : Nat := 72
theorem k_snap_listener_1 : FnOk Try.prog 72 := FnOk.of (by kernel_rfl)
/-- hydrant/snap.listener$1 -/
def f_snap_listener_1 : FnI := ⟨7, [.tmp 3],
 (.seq (.reg [⟨some 3, .mov (.b false), none⟩])
 (.seq (.reg [⟨some 4, .mov (.t 0), none⟩, ⟨some 5, .load false 1 (.t 1), none⟩, ⟨some 6, .bins .eql (.t 4) (.t 5), none⟩, ⟨some 3, .mov (.t 6), none⟩])
 .ret))⟩
theorem t_snap_listener_1 : trFn Try.prog 72 [] [] = some f_snap_listener_1 := by kernel_rfl

abbrev n_snap_place_api_Cluster : Nat := 73
theorem k_snap_place_api_Cluster : FnOk Try.prog 73 := FnOk.of (by kernel_rfl)
/-- hydrant/snap.place[hydrant/api.Cluster] -/
def f_snap_place_api_Cluster : FnI := ⟨19, [.tmp 4],
 (.seq (.reg [⟨some 4, .mov (.c (.int .i64 (0))), none⟩])
 (.seq (.seq (.reg [⟨some 7, .mov (.t 0), none⟩, ⟨some 8, .len false (.t 7), none⟩, ⟨some 9, .mov (.c (.int .i64 (0))), none⟩])
 (.block 0
 (.loop [9] [10, 11, 12, 13, 6, 5, 14, 15, 16, 17, 4, 18, 9]
 (.seq (.reg [⟨some 10, .bini .lss (.t 9) (.t 8), none⟩])
 (.seq (.cond (.t 10)
 .skip
 (.exit 0))
 (.seq (.block 1
 (.seq (.reg [⟨some 11, .mov (.t 9), none⟩, ⟨some 12, .iadr 4 (.t 7) (.t 9), none⟩, ⟨some 13, .load true 4 (.t 12), none⟩, ⟨some 6, .alloc 79 [(.v (.string ⟨#[]⟩)), (.v (.int .i64 (0))), (.v (.int .i64 (0))), (.v (.slice none 0 0))], none⟩, ⟨some 5, .mov (.t 11), none⟩, ⟨none, .store 4 (.t 6) (.t 13), none⟩])
 (.seq (.reg [⟨some 14, .mov (.t 1), none⟩, ⟨some 15, .load true 4 (.t 6), none⟩, ⟨some 16, .callv (.t 14) [(.t 15)], none⟩])
 (.cond (.t 16)
 (.seq (.reg [⟨some 17, .mov (.t 5), none⟩, ⟨some 4, .mov (.t 17), none⟩])
 .ret)
 .skip))))
 (.reg [⟨some 18, .bini .add (.t 9) (.c (.int .i64 (1))), none⟩, ⟨some 9, .mov (.t 18), none⟩])))))))
 (.seq (.reg [⟨some 4, .mov (.c (.int .i64 (-1))), none⟩])
 .ret)))⟩
theorem t_snap_place_api_Cluster : trFn Try.prog 73 [] [[9]] = some f_snap_place_api_Cluster := by kernel_rfl

abbrev n_snap_cluster_1 : Nat := 74
theorem k_snap_cluster_1 : FnOk Try.prog 74 := FnOk.of (by kernel_rfl)
/-- hydrant/snap.cluster$1 -/
def f_snap_cluster_1 : FnI := ⟨8, [.tmp 3],
 (.seq (.reg [⟨some 2, .box 79 (.t 0), none⟩, ⟨some 3, .mov (.b false), none⟩])
 (.seq (.reg [⟨some 4, .fadr 0 (.t 2), none⟩, ⟨some 5, .load false 1 (.t 4), none⟩, ⟨some 6, .load false 1 (.t 1), none⟩, ⟨some 7, .bins .eql (.t 5) (.t 6), none⟩, ⟨some 3, .mov (.t 7), none⟩])
 .ret))⟩
theorem t_snap_cluster_1 : trFn Try.prog 74 [] [] = some f_snap_cluster_1 := by kernel_rfl

abbrev n_routes_fitting : Nat := 75
theorem k_routes_fitting : FnOk Try.prog 75 := FnOk.of (by kernel_rfl)
/-- hydrant/routes.fitting -/
def f_routes_fitting : FnI := ⟨10, [.tmp 8],
 (.seq (.reg [⟨some 4, .box 48 (.t 0), none⟩, ⟨some 5, .box 3 (.t 1), none⟩, ⟨some 6, .box 9 (.t 2), none⟩, ⟨some 7, .box 9 (.t 3), none⟩, ⟨some 8, .mov (.c .nilFunc), none⟩])
 (.seq (.reg [⟨some 9, .mkf (.func 87) [] [(.t 4), (.t 5), (.t 6), (.t 7)], none⟩, ⟨some 8, .mov (.t 9), none⟩])
 .ret))⟩
theorem t_routes_fitting : trFn Try.prog 75 [] [] = some f_routes_fitting := by kernel_rfl

abbrev n_hosts_Better : Nat := 76
theorem k_hosts_Better : FnOk Try.prog 76 := FnOk.of (by kernel_rfl)
/-- hydrant/hosts.Better -/
def f_hosts_Better : FnI := ⟨26, [.tmp 8],
 (.seq (.reg [⟨some 8, .mov (.b false), none⟩])
 (.seq (.seq (.reg [⟨some 11, .mov (.t 0), none⟩, ⟨some 12, .call 89 [(.t 11)], none⟩, ⟨some 13, .mov (.t 2), none⟩, ⟨some 14, .call 89 [(.t 13)], none⟩, ⟨some 9, .mov (.t 12), none⟩, ⟨some 10, .mov (.t 14), none⟩])
 (.seq (.reg [⟨some 15, .mov (.t 9), none⟩, ⟨some 16, .mov (.t 10), none⟩, ⟨some 17, .bini .neq (.t 15) (.t 16), none⟩])
 (.cond (.t 17)
 (.seq (.reg [⟨some 18, .mov (.t 9), none⟩, ⟨some 19, .mov (.t 10), none⟩, ⟨some 20, .bini .gtr (.t 18) (.t 19), none⟩, ⟨some 8, .mov (.t 20), none⟩])
 .ret)
 .skip)))
 (.seq (.reg [⟨some 21, .mov (.t 1), none⟩, ⟨some 22, .len true (.t 21), none⟩, ⟨some 23, .mov (.t 3), none⟩, ⟨some 24, .len true (.t 23), none⟩, ⟨some 25, .bini .gtr (.t 22) (.t 24), none⟩, ⟨some 8, .mov (.t 25), none⟩])
 .ret)))⟩
theorem t_hosts_Better : trFn Try.prog 76 [] [] = some f_hosts_Better := by kernel_rfl

abbrev n_hydrantref03_Name : Nat := 77
theorem k_hydrantref03_Name : FnOk Try.prog 77 := FnOk.of (by kernel_rfl)
/-- hydrant/hydrantref03.Name -/
def f_hydrantref03_Name : FnI := ⟨29, [.tmp 2],
 (.seq (.reg [⟨some 2, .mov (.b false), none⟩])
 (.seq (.seq (.reg [⟨some 4, .mov (.t 0), none⟩, ⟨some 5, .len true (.t 4), none⟩, ⟨some 6, .bini .lss (.t 5) (.c (.int .i64 (1))), none⟩, ⟨some 7, .mov (.t 6), none⟩, ⟨some 8, .mov (.t 0), some (7, false)⟩, ⟨some 9, .len true (.t 8), some (7, false)⟩, ⟨some 10, .bini .gtr (.t 9) (.c (.int .i64 (16))), some (7, false)⟩, ⟨some 11, .pick (.t 7) (.b true) (.t 10), none⟩, ⟨some 12, .mov (.t 11), none⟩, ⟨some 13, .mov (.t 0), some (12, false)⟩, ⟨some 14, .idxs (.t 13) (.c (.int .i64 (0))), some (12, false)⟩, ⟨some 15, .call 90 [(.t 14)], some (12, false)⟩, ⟨some 16, .not (.t 15), some (12, false)⟩, ⟨some 17, .pick (.t 12) (.b true) (.t 16), none⟩])
 (.cond (.t 17)
 (.seq (.reg [⟨some 2, .mov (.b false), none⟩])
 .ret)
 .skip))
 (.seq (.seq (.reg [⟨some 3, .mov (.c (.int .i64 (0))), none⟩])
 (.block 0
 (.loop [3] [18, 19, 20, 21, 24, 25, 26, 27, 28, 2, 22, 23, 3]
 (.seq (.seq (.reg [⟨some 18, .mov (.t 3), none⟩, ⟨some 19, .mov (.t 0), none⟩, ⟨some 20, .len true (.t 19), none⟩, ⟨some 21, .bini .lss (.t 18) (.t 20), none⟩])
 (.cond (.t 21)
 .skip
 (.exit 0)))
 (.seq (.block 1
 (.seq (.reg [⟨some 24, .mov (.t 0), none⟩, ⟨some 25, .mov (.t 3), none⟩, ⟨some 26, .idxs (.t 24) (.t 25), none⟩, ⟨some 27, .call 91 [(.t 26)], none⟩, ⟨some 28, .not (.t 27), none⟩])
 (.cond (.t 28)
 (.seq (.reg [⟨some 2, .mov (.b false), none⟩])
 .ret)
 .skip)))
 (.reg [⟨some 22, .mov (.t 3), none⟩, ⟨some 23, .bini .add (.t 22) (.c (.int .i64 (1))), none⟩, ⟨some 3, .mov (.t 23), none⟩]))))))
 (.seq (.reg [⟨some 2, .mov (.b true), none⟩])
 .ret))))⟩
theorem t_hydrantref03_Name : trFn Try.prog 77 [] [[3]] = some f_hydrantref03_Name := by kernel_rfl

abbrev n_hydrantref03_Pattern : Nat := 78
theorem k_hydrantref03_Pattern : FnOk Try.prog 78 := FnOk.of (by kernel_rfl)
/-- hydrant/hydrantref03.Pattern -/
def f_hydrantref03_Pattern : FnI := ⟨20, [.tmp 2],
 (.seq (.reg [⟨some 2, .mov (.b false), none⟩])
 (.seq (.seq (.reg [⟨some 3, .mov (.t 0), none⟩, ⟨some 4, .len true (.t 3), none⟩, ⟨some 5, .bini .gtr (.t 4) (.c (.int .i64 (2))), none⟩, ⟨some 6, .mov (.t 5), none⟩, ⟨some 7, .mov (.t 0), some (6, true)⟩, ⟨some 8, .slcs (.t 7) none (some (.c (.int .i64 (2)))), some (6, true)⟩, ⟨some 9, .bins .eql (.t 8) (.c (.string ⟨#[42, 46]⟩)), some (6, true)⟩, ⟨some 10, .pick (.t 6) (.t 9) (.b false), none⟩])
 (.cond (.t 10)
 (.seq (.reg [⟨some 11, .mov (.t 0), none⟩, ⟨some 12, .slcs (.t 11) (some (.c (.int .i64 (2)))) none, none⟩, ⟨some 13, .call 92 [(.t 12)], none⟩, ⟨some 2, .mov (.t 13), none⟩])
 .ret)
 .skip))
 (.seq (.reg [⟨some 14, .mov (.t 0), none⟩, ⟨some 15, .bins .eql (.t 14) (.c (.string ⟨#[42]⟩)), none⟩, ⟨some 16, .mov (.t 15), none⟩, ⟨some 17, .mov (.t 0), some (16, false)⟩, ⟨some 18, .call 92 [(.t 17)], some (16, false)⟩, ⟨some 19, .pick (.t 16) (.b true) (.t 18), none⟩, ⟨some 2, .mov (.t 19), none⟩])
 .ret)))⟩
theorem t_hydrantref03_Pattern : trFn Try.prog 78 [] [] = some f_hydrantref03_Pattern := by kernel_rfl

abbrev n_hydrantref03_Path : Nat := 79
theorem k_hydrantref03_Path : FnOk Try.prog 79 := FnOk.of (by kernel_rfl)
/-- hydrant/hydrantref03.Path -/
def f_hydrantref03_Path : FnI := ⟨34, [.tmp 2],
 (.seq (.reg [⟨some 2, .mov (.b false), none⟩])
 (.seq (.seq (.reg [⟨some 4, .mov (.t 0), none⟩, ⟨some 5, .len true (.t 4), none⟩, ⟨some 6, .bini .lss (.t 5) (.c (.int .i64 (1))), none⟩, ⟨some 7, .mov (.t 6), none⟩, ⟨some 8, .mov (.t 0), some (7, false)⟩, ⟨some 9, .len true (.t 8), some (7, false)⟩, ⟨some 10, .bini .gtr (.t 9) (.c (.int .i64 (32))), some (7, false)⟩, ⟨some 11, .pick (.t 7) (.b true) (.t 10), none⟩, ⟨some 12, .mov (.t 11), none⟩, ⟨some 13, .mov (.t 0), some (12, false)⟩, ⟨some 14, .idxs (.t 13) (.c (.int .i64 (0))), some (12, false)⟩, ⟨some 15, .bini .neq (.t 14) (.c (.int .u8 (47))), some (12, false)⟩, ⟨some 16, .pick (.t 12) (.b true) (.t 15), none⟩])
 (.cond (.t 16)
 (.seq (.reg [⟨some 2, .mov (.b false), none⟩])
 .ret)
 .skip))
 (.seq (.seq (.reg [⟨some 3, .mov (.c (.int .i64 (0))), none⟩])
 (.block 0
 (.loop [3] [17, 18, 19, 20, 23, 24, 25, 26, 27, 28, 29, 30, 31, 32, 33, 2, 21, 22, 3]
 (.seq (.seq (.reg [⟨some 17, .mov (.t 3), none⟩, ⟨some 18, .mov (.t 0), none⟩, ⟨some 19, .len true (.t 18), none⟩, ⟨some 20, .bini .lss (.t 17) (.t 19), none⟩])
 (.cond (.t 20)
 .skip
 (.exit 0)))
 (.seq (.block 1
 (.seq (.reg [⟨some 23, .mov (.t 0), none⟩, ⟨some 24, .mov (.t 3), none⟩, ⟨some 25, .idxs (.t 23) (.t 24), none⟩, ⟨some 26, .call 91 [(.t 25)], none⟩, ⟨some 27, .not (.t 26), none⟩, ⟨some 28, .mov (.t 27), none⟩, ⟨some 29, .mov (.t 0), some (28, true)⟩, ⟨some 30, .mov (.t 3), some (28, true)⟩, ⟨some 31, .idxs (.t 29) (.t 30), some (28, true)⟩, ⟨some 32, .bini .neq (.t 31) (.c (.int .u8 (47))), some (28, true)⟩, ⟨some 33, .pick (.t 28) (.t 32) (.b false), none⟩])
 (.cond (.t 33)
 (.seq (.reg [⟨some 2, .mov (.b false), none⟩])
 .ret)
 .skip)))
 (.reg [⟨some 21, .mov (.t 3), none⟩, ⟨some 22, .bini .add (.t 21) (.c (.int .i64 (1))), none⟩, ⟨some 3, .mov (.t 22), none⟩]))))))
 (.seq (.reg [⟨some 2, .mov (.b true), none⟩])
 .ret))))⟩
theorem t_hydrantref03_Path : trFn Try.prog 79 [] [[3]] = some f_hydrantref03_Path := by kernel_rfl

abbrev n_names_low : Nat := 80
theorem k_names_low : FnOk Try.prog 80 := FnOk.of (by kernel_rfl)
/-- hydrant/names.low -/
def f_names_low : FnI := ⟨9, [.tmp 2],
 (.seq (.reg [⟨some 2, .mov (.b false), none⟩])
 (.seq (.reg [⟨some 3, .mov (.t 0), none⟩, ⟨some 4, .bini .geq (.t 3) (.c (.int .u8 (97))), none⟩, ⟨some 5, .mov (.t 4), none⟩, ⟨some 6, .mov (.t 0), some (5, true)⟩, ⟨some 7, .bini .leq (.t 6) (.c (.int .u8 (122))), some (5, true)⟩, ⟨some 8, .pick (.t 5) (.t 7) (.b false), none⟩, ⟨some 2, .mov (.t 8), none⟩])
 .ret))⟩
theorem t_names_low : trFn Try.prog 80 [] [] = some f_names_low := by kernel_rfl

abbrev n_names_word : Nat := 81
theorem k_names_word : FnOk Try.prog 81 := FnOk.of (by kernel_rfl)
/-- hydrant/names.word -/
def f_names_word : FnI := ⟨2, [.cell 0 1 true],
 (.seq (.reg [⟨some 0, .alloc 104 [(.v .nilFunc)], none⟩])
 (.seq (.reg [⟨some 1, .build [(.v .nilFunc)] [(0, 1, (.c (.func (.func 93) #[] #[])))], none⟩, ⟨none, .store 1 (.t 0) (.t 1), none⟩])
 .ret))⟩
theorem t_names_word : trFn Try.prog 81 [] [] = some f_names_word := by kernel_rfl

abbrev n_names_alphabet__all : Nat := 82
theorem k_names_alphabet__all : FnOk Try.prog 82 := FnOk.of (by kernel_rfl)
/-- (hydrant/names.alphabet).all -/
def f_names_alphabet__all : FnI := ⟨28, [.tmp 6],
 (.seq (.reg [⟨some 3, .box 104 (.t 0), none⟩, ⟨some 6, .mov (.b false), none⟩])
 (.seq (.seq (.reg [⟨some 8, .mov (.t 1), none⟩, ⟨some 9, .len true (.t 8), none⟩, ⟨some 10, .mov (.c (.int .i64 (0))), none⟩])
 (.block 0
 (.loop [10] [11, 12, 7, 13, 14, 15, 16, 17, 18, 19, 20, 21, 22, 23, 24, 25, 26, 6, 27, 10]
 (.seq (.reg [⟨some 11, .bini .lss (.t 10) (.t 9), none⟩])
 (.seq (.cond (.t 11)
 .skip
 (.exit 0))
 (.seq (.block 1
 (.seq (.reg [⟨some 12, .mov (.t 10), none⟩, ⟨some 7, .mov (.t 12), none⟩])
 (.seq (.regD [] (.op ⟨0, false, [], ⟨some 13, .mov (.t 1), none⟩⟩
 (.op ⟨1, false, [], ⟨some 14, .mov (.t 7), none⟩⟩
 (.op ⟨2, false, [], ⟨some 15, .idxs (.t 13) (.t 14), none⟩⟩
 (.op ⟨3, false, [], ⟨some 16, .mov (.t 2), none⟩⟩
 (.op ⟨4, false, [], ⟨some 17, .bini .neq (.t 15) (.t 16), none⟩⟩
 (.op ⟨5, false, [], ⟨some 18, .mov (.t 17), none⟩⟩
 (.op ⟨6, false, [], ⟨some 19, .fadr 0 (.t 3), some (18, true)⟩⟩
 (.op ⟨7, true, [], ⟨some 20, .load false 1 (.t 19), some (18, true)⟩⟩
 (.op ⟨8, false, [], ⟨some 21, .mov (.t 1), some (18, true)⟩⟩
 (.op ⟨9, false, [], ⟨some 22, .mov (.t 7), some (18, true)⟩⟩
 (.op ⟨10, false, [], ⟨some 23, .idxs (.t 21) (.t 22), some (18, true)⟩⟩
 (.op ⟨11, false, [], ⟨some 24, .callv (.t 20) [(.t 23)], some (18, true)⟩⟩
 (.op ⟨12, false, [], ⟨some 25, .not (.t 24), some (18, true)⟩⟩
 (.op ⟨13, false, [], ⟨some 26, .pick (.t 18) (.t 25) (.b false), none⟩⟩
 .nil)))))))))))))))
 (.cond (.t 26)
 (.seq (.reg [⟨some 6, .mov (.b false), none⟩])
 .ret)
 .skip))))
 (.reg [⟨some 27, .bini .add (.t 10) (.c (.int .i64 (1))), none⟩, ⟨some 10, .mov (.t 27), none⟩])))))))
 (.seq (.reg [⟨some 6, .mov (.b true), none⟩])
 .ret)))⟩
theorem t_names_alphabet__all : trFn Try.prog 82 [([], (.first 0 (.first 1 (.first 2 (.first 3 (.first 4 (.first 5 (.first 6 (.first 7 (.first 8 (.first 9 (.first 10 (.exec 11 (.first 12 (.first 13 .nil)))))))))))))))] [[10]] = some f_names_alphabet__all := by kernel_rfl

abbrev n_slices_ContainsFunc___api_Cluster_api_Cluster : Nat := 83
theorem k_slices_ContainsFunc___api_Cluster_api_Cluster : FnOk Try.prog 83 := FnOk.of (by kernel_rfl)
/-- slices.ContainsFunc[[]hydrant/api.Cluster,hydrant/api.Cluster] -/
def f_slices_ContainsFunc___api_Cluster_api_Cluster : FnI := ⟨9, [.tmp 4],
 (.seq (.reg [⟨some 4, .mov (.b false), none⟩])
 (.seq (.reg [⟨some 5, .mov (.t 0), none⟩, ⟨some 6, .mov (.t 1), none⟩, ⟨some 7, .call 94 [(.t 5), (.t 6)], none⟩, ⟨some 8, .bini .geq (.t 7) (.c (.int .i64 (0))), none⟩, ⟨some 4, .mov (.t 8), none⟩])
 .ret))⟩
theorem t_slices_ContainsFunc___api_Cluster_api_Cluster : trFn Try.prog 83 [] [] = some f_slices_ContainsFunc___api_Cluster_api_Cluster := by kernel_rfl

abbrev n_config_named_1 : Nat := 84
theorem k_config_named_1 : FnOk Try.prog 84 := FnOk.of (by kernel_rfl)
/-- hydrant/config.named$1 -/
def f_config_named_1 : FnI := ⟨8, [.tmp 3],
 (.seq (.reg [⟨some 2, .box 79 (.t 0), none⟩, ⟨some 3, .mov (.b false), none⟩])
 (.seq (.reg [⟨some 4, .fadr 0 (.t 2), none⟩, ⟨some 5, .load false 1 (.t 4), none⟩, ⟨some 6, .load false 1 (.t 1), none⟩, ⟨some 7, .bins .eql (.t 5) (.t 6), none⟩, ⟨some 3, .mov (.t 7), none⟩])
 .ret))⟩
theorem t_config_named_1 : trFn Try.prog 84 [] [] = some f_config_named_1 := by kernel_rfl

abbrev n_strings_CutPrefix : Nat := 85
theorem k_strings_CutPrefix : FnOk Try.prog 85 := FnOk.of (by kernel_rfl)
/-- strings.CutPrefix -/
def f_strings_CutPrefix : FnI := ⟨11, [.tmp 4, .tmp 5],
 (.seq (.reg [⟨some 4, .mov (.c (.string ⟨#[]⟩)), none⟩, ⟨some 5, .mov (.b false), none⟩])
 (.seq (.reg [⟨some 6, .mov (.t 0), none⟩, ⟨some 7, .mov (.t 1), none⟩, ⟨some 8, .call 95 [(.t 6), (.t 7)], none⟩, ⟨some 9, .ext 0 (.t 8), none⟩, ⟨some 10, .ext 1 (.t 8), none⟩, ⟨some 4, .mov (.t 9), none⟩, ⟨some 5, .mov (.t 10), none⟩])
 .ret))⟩
theorem t_strings_CutPrefix : trFn Try.prog 85 [] [] = some f_strings_CutPrefix := by kernel_rfl

abbrev n_names_Host : Nat := 86
theorem k_names_Host : FnOk Try.prog 86 := FnOk.of (by kernel_rfl)
/-- hydrant/names.Host -/
def f_names_Host : FnI := ⟨13, [.cell 2 1 false],
 (.seq (.reg [⟨some 2, .alloc 4 [(.v (.bool false))], none⟩])
 (.seq (.seq (.reg [⟨some 4, .mov (.t 0), none⟩, ⟨some 5, .len true (.t 4), none⟩, ⟨some 6, .bini .gtr (.t 5) (.c (.int .i64 (32))), none⟩])
 (.cond (.t 6)
 (.seq (.reg [⟨none, .store 1 (.t 2) (.b false), none⟩])
 .ret)
 .skip))
 (.seq (.seq (.reg [⟨some 7, .mov (.t 0), none⟩, ⟨some 8, .call 96 [(.t 7), (.c (.int .u8 (46)))], none⟩])
 (.block 0
 (.rfun (.t 8) [9]
 (.reg [⟨some 3, .mov (.t 9), none⟩])
 (.block 1
 (.seq (.reg [⟨some 10, .mov (.t 3), none⟩, ⟨some 11, .call 67 [(.t 10)], none⟩, ⟨some 12, .not (.t 11), none⟩])
 (.cond (.t 12)
 (.seq (.reg [⟨none, .store 1 (.t 2) (.b false), none⟩])
 .ret)
 .skip))))))
 (.seq (.reg [⟨none, .store 1 (.t 2) (.b true), none⟩])
 .ret))))⟩
theorem t_names_Host : trFn Try.prog 86 [] [] = some f_names_Host := by kernel_rfl

abbrev n_routes_fitting_1 : Nat := 87
theorem k_routes_fitting_1 : FnOk Try.prog 87 := FnOk.of (by kernel_rfl)
/-- hydrant/routes.fitting$1 -/
def f_routes_fitting_1 : FnI := ⟨28, [],
 (.seq (.reg [⟨some 8, .load false 1 (.t 1), none⟩, ⟨some 9, .len false (.t 8), none⟩, ⟨some 10, .mov (.c (.int .i64 (0))), none⟩])
 (.block 0
 (.loop [10] [11, 12, 13, 14, 7, 6, 15, 16, 17, 18, 19, 20, 21, 22, 23, 24, 25, 26, 27, 10]
 (.seq (.reg [⟨some 11, .bini .lss (.t 10) (.t 9), none⟩])
 (.seq (.cond (.t 11)
 .skip
 (.exit 0))
 (.seq (.block 1
 (.seq (.reg [⟨some 12, .mov (.t 10), none⟩, ⟨some 13, .iadr 4 (.t 8) (.t 10), none⟩, ⟨some 14, .load true 4 (.t 13), none⟩, ⟨some 7, .alloc 85 [(.v (.int .i64 (0))), (.v (.string ⟨#[]⟩)), (.v (.string ⟨#[]⟩)), (.v (.int .i64 (0)))], none⟩, ⟨some 6, .mov (.t 12), none⟩, ⟨none, .store 4 (.t 7) (.t 14), none⟩])
 (.seq (.reg [⟨some 15, .load true 4 (.t 7), none⟩, ⟨some 16, .load false 1 (.t 2), none⟩, ⟨some 17, .load false 1 (.t 3), none⟩, ⟨some 18, .load false 1 (.t 4), none⟩, ⟨some 19, .call 88 [(.t 15), (.t 16), (.t 17), (.t 18)], none⟩, ⟨some 20, .mov (.t 19), none⟩, ⟨some 21, .mov (.t 0), some (20, true)⟩, ⟨some 22, .mov (.t 6), some (20, true)⟩, ⟨some 23, .load true 4 (.t 7), some (20, true)⟩, ⟨some 24, .callv (.t 21) [(.t 22), (.t 23)], some (20, true)⟩, ⟨some 25, .not (.t 24), some (20, true)⟩, ⟨some 26, .pick (.t 20) (.t 25) (.b false), none⟩])
 (.cond (.t 26)
 .ret
 .skip))))
 (.reg [⟨some 27, .bini .add (.t 10) (.c (.int .i64 (1))), none⟩, ⟨some 10, .mov (.t 27), none⟩])))))))⟩
theorem t_routes_fitting_1 : trFn Try.prog 87 [] [[10]] = some f_routes_fitting_1 := by kernel_rfl

abbrev n_routes_Fits : Nat := 88
theorem k_routes_Fits : FnOk Try.prog 88 := FnOk.of (by kernel_rfl)
/-- hydrant/routes.Fits -/
def f_routes_Fits : FnI := ⟨25, [.tmp 8],
 (.seq (.reg [⟨some 4, .box 85 (.t 0), none⟩, ⟨some 8, .mov (.b false), none⟩])
 (.seq (.reg [⟨some 9, .fadr 0 (.t 4), none⟩, ⟨some 10, .load false 1 (.t 9), none⟩, ⟨some 11, .mov (.t 1), none⟩, ⟨some 12, .bini .eql (.t 10) (.t 11), none⟩, ⟨some 13, .mov (.t 12), none⟩, ⟨some 14, .fadr 1 (.t 4), some (13, true)⟩, ⟨some 15, .load false 1 (.t 14), some (13, true)⟩, ⟨some 16, .mov (.t 2), some (13, true)⟩, ⟨some 17, .call 97 [(.t 15), (.t 16)], some (13, true)⟩, ⟨some 18, .pick (.t 13) (.t 17) (.b false), none⟩, ⟨some 19, .mov (.t 18), none⟩, ⟨some 20, .mov (.t 3), some (19, true)⟩, ⟨some 21, .fadr 2 (.t 4), some (19, true)⟩, ⟨some 22, .load false 1 (.t 21), some (19, true)⟩, ⟨some 23, .call 98 [(.t 20), (.t 22)], some (19, true)⟩, ⟨some 24, .pick (.t 19) (.t 23) (.b false), none⟩, ⟨some 8, .mov (.t 24), none⟩])
 .ret))⟩
theorem t_routes_Fits : trFn Try.prog 88 [] [] = some f_routes_Fits := by kernel_rfl

abbrev n_hosts_Weight : Nat := 89
theorem k_hosts_Weight : FnOk Try.prog 89 := FnOk.of (by kernel_rfl)
/-- hydrant/hosts.Weight -/
def f_hosts_Weight : FnI := ⟨20, [.tmp 2],
 (.seq (.reg [⟨some 2, .mov (.c (.int .i64 (0))), none⟩])
 (.seq (.seq (.reg [⟨some 5, .mov (.t 0), none⟩, ⟨some 6, .call 69 [(.t 5)], none⟩, ⟨some 7, .not (.t 6), none⟩])
 (.cond (.t 7)
 (.seq (.reg [⟨some 2, .mov (.c (.int .i64 (0))), none⟩])
 .ret)
 .skip))
 (.seq (.reg [⟨some 9, .mov (.t 0), none⟩, ⟨some 10, .call 85 [(.t 9), (.c (.string ⟨#[42, 46]⟩))], none⟩, ⟨some 8, .mov (.t 10), none⟩, ⟨some 11, .ext 0 (.t 8), none⟩, ⟨some 12, .ext 1 (.t 8), none⟩, ⟨some 3, .mov (.t 11), none⟩, ⟨some 4, .mov (.t 12), none⟩])
 (.seq (.block 0
 (.seq (.reg [⟨some 14, .mov (.t 4), none⟩, ⟨some 13, .mov (.t 14), none⟩])
 (.cond (.t 13)
 (.seq (.reg [⟨some 15, .mov (.t 3), none⟩, ⟨some 16, .len true (.t 15), none⟩, ⟨some 2, .mov (.t 16), none⟩])
 .ret)
 (.seq (.reg [⟨some 18, .mov (.t 0), none⟩, ⟨some 19, .bins .eql (.t 18) (.c (.string ⟨#[42]⟩)), none⟩, ⟨some 17, .mov (.t 19), none⟩])
 (.cond (.t 17)
 (.seq (.reg [⟨some 2, .mov (.c (.int .i64 (0))), none⟩])
 .ret)
 .skip)))))
 (.seq (.reg [⟨some 2, .mov (.c (.int .i64 (100))), none⟩])
 .ret)))))⟩
theorem t_hosts_Weight : trFn Try.prog 89 [] [] = some f_hosts_Weight := by kernel_rfl

abbrev n_hydrantref03_low : Nat := 90
theorem k_hydrantref03_low : FnOk Try.prog 90 := FnOk.of (by kernel_rfl)
/-- hydrant/hydrantref03.low -/
def f_hydrantref03_low : FnI := ⟨9, [.tmp 2],
 (.seq (.reg [⟨some 2, .mov (.b false), none⟩])
 (.seq (.reg [⟨some 3, .mov (.t 0), none⟩, ⟨some 4, .bini .geq (.t 3) (.c (.int .u8 (97))), none⟩, ⟨some 5, .mov (.t 4), none⟩, ⟨some 6, .mov (.t 0), some (5, true)⟩, ⟨some 7, .bini .leq (.t 6) (.c (.int .u8 (122))), some (5, true)⟩, ⟨some 8, .pick (.t 5) (.t 7) (.b false), none⟩, ⟨some 2, .mov (.t 8), none⟩])
 .ret))⟩
theorem t_hydrantref03_low : trFn Try.prog 90 [] [] = some f_hydrantref03_low := by kernel_rfl

abbrev n_hydrantref03_word : Nat := 91
theorem k_hydrantref03_word : FnOk Try.prog 91 := FnOk.of (by kernel_rfl)
/-- hydrant/hydrantref03.word -/
def f_hydrantref03_word : FnI := ⟨17, [.tmp 2],
 (.seq (.reg [⟨some 2, .mov (.b false), none⟩])
 (.seq (.reg [⟨some 3, .mov (.t 0), none⟩, ⟨some 4, .call 90 [(.t 3)], none⟩, ⟨some 5, .mov (.t 4), none⟩, ⟨some 6, .mov (.t 0), some (5, false)⟩, ⟨some 7, .bini .geq (.t 6) (.c (.int .u8 (48))), some (5, false)⟩, ⟨some 8, .mov (.t 7), some (5, false)⟩, ⟨some 9, .mov (.t 0), some (8, true)⟩, ⟨some 10, .bini .leq (.t 9) (.c (.int .u8 (57))), some (8, true)⟩, ⟨some 11, .pick (.t 8) (.t 10) (.b false), some (5, false)⟩, ⟨some 12, .pick (.t 5) (.b true) (.t 11), none⟩, ⟨some 13, .mov (.t 12), none⟩, ⟨some 14, .mov (.t 0), some (13, false)⟩, ⟨some 15, .bini .eql (.t 14) (.c (.int .u8 (45))), some (13, false)⟩, ⟨some 16, .pick (.t 13) (.b true) (.t 15), none⟩, ⟨some 2, .mov (.t 16), none⟩])
 .ret))⟩
theorem t_hydrantref03_word : trFn Try.prog 91 [] [] = some f_hydrantref03_word := by kernel_rfl

abbrev n_hydrantref03_Host : Nat := 92
theorem k_hydrantref03_Host : FnOk Try.prog 92 := FnOk.of (by kernel_rfl)
/-- hydrant/hydrantref03.Host -/
def f_hydrantref03_Host : FnI := ⟨22, [.tmp 2],
 (.seq (.reg [⟨some 2, .mov (.b false), none⟩])
 (.seq (.reg [⟨some 5, .mov (.t 0), none⟩, ⟨some 6, .call 99 [(.t 5), (.c (.int .u8 (46)))], none⟩, ⟨some 3, .mov (.t 6), none⟩])
 (.seq (.seq (.reg [⟨some 4, .mov (.c (.int .i64 (0))), none⟩])
 (.block 0
 (.loop [4] [7, 8, 9, 10, 13, 14, 15, 16, 17, 18, 2, 11, 12, 4]
 (.seq (.seq (.reg [⟨some 7, .mov (.t 4), none⟩, ⟨some 8, .mov (.t 3), none⟩, ⟨some 9, .len false (.t 8), none⟩, ⟨some 10, .bini .lss (.t 7) (.t 9), none⟩])
 (.cond (.t 10)
 .skip
 (.exit 0)))
 (.seq (.block 1
 (.seq (.reg [⟨some 13, .mov (.t 3), none⟩, ⟨some 14, .mov (.t 4), none⟩, ⟨some 15, .iadr 1 (.t 13) (.t 14), none⟩, ⟨some 16, .load false 1 (.t 15), none⟩, ⟨some 17, .call 77 [(.t 16)], none⟩, ⟨some 18, .not (.t 17), none⟩])
 (.cond (.t 18)
 (.seq (.reg [⟨some 2, .mov (.b false), none⟩])
 .ret)
 .skip)))
 (.reg [⟨some 11, .mov (.t 4), none⟩, ⟨some 12, .bini .add (.t 11) (.c (.int .i64 (1))), none⟩, ⟨some 4, .mov (.t 12), none⟩]))))))
 (.seq (.reg [⟨some 19, .mov (.t 0), none⟩, ⟨some 20, .len true (.t 19), none⟩, ⟨some 21, .bini .leq (.t 20) (.c (.int .i64 (32))), none⟩, ⟨some 2, .mov (.t 21), none⟩])
 .ret))))⟩
theorem t_hydrantref03_Host : trFn Try.prog 92 [] [[4]] = some f_hydrantref03_Host := by kernel_rfl

abbrev n_names_word_1 : Nat := 93
theorem k_names_word_1 : FnOk Try.prog 93 := FnOk.of (by kernel_rfl)
/-- hydrant/names.word$1 -/
def f_names_word_1 : FnI := ⟨17, [.tmp 2],
 (.seq (.reg [⟨some 2, .mov (.b false), none⟩])
 (.seq (.reg [⟨some 3, .mov (.t 0), none⟩, ⟨some 4, .call 80 [(.t 3)], none⟩, ⟨some 5, .mov (.t 4), none⟩, ⟨some 6, .mov (.t 0), some (5, false)⟩, ⟨some 7, .bini .geq (.t 6) (.c (.int .u8 (48))), some (5, false)⟩, ⟨some 8, .mov (.t 7), some (5, false)⟩, ⟨some 9, .mov (.t 0), some (8, true)⟩, ⟨some 10, .bini .leq (.t 9) (.c (.int .u8 (57))), some (8, true)⟩, ⟨some 11, .pick (.t 8) (.t 10) (.b false), some (5, false)⟩, ⟨some 12, .pick (.t 5) (.b true) (.t 11), none⟩, ⟨some 13, .mov (.t 12), none⟩, ⟨some 14, .mov (.t 0), some (13, false)⟩, ⟨some 15, .bini .eql (.t 14) (.c (.int .u8 (45))), some (13, false)⟩, ⟨some 16, .pick (.t 13) (.b true) (.t 15), none⟩, ⟨some 2, .mov (.t 16), none⟩])
 .ret))⟩
theorem t_names_word_1 : trFn Try.prog 93 [] [] = some f_names_word_1 := by kernel_rfl

abbrev n_slices_IndexFunc___api_Cluster_api_Cluster : Nat := 94
theorem k_slices_IndexFunc___api_Cluster_api_Cluster : FnOk Try.prog 94 := FnOk.of (by kernel_rfl)
/-- slices.IndexFunc[[]hydrant/api.Cluster,hydrant/api.Cluster] -/
def f_slices_IndexFunc___api_Cluster_api_Cluster : FnI := ⟨19, [.tmp 4],
 (.seq (.reg [⟨some 4, .mov (.c (.int .i64 (0))), none⟩])
 (.seq (.seq (.reg [⟨some 6, .mov (.t 0), none⟩, ⟨some 7, .len false (.t 6), none⟩, ⟨some 8, .mov (.c (.int .i64 (0))), none⟩])
 (.block 0
 (.loop [8] [9, 10, 5, 11, 12, 13, 14, 15, 16, 17, 4, 18, 8]
 (.seq (.reg [⟨some 9, .bini .lss (.t 8) (.t 7), none⟩])
 (.seq (.cond (.t 9)
 .skip
 (.exit 0))
 (.seq (.block 1
 (.seq (.reg [⟨some 10, .mov (.t 8), none⟩, ⟨some 5, .mov (.t 10), none⟩])
 (.seq (.reg [⟨some 11, .mov (.t 1), none⟩, ⟨some 12, .mov (.t 0), none⟩, ⟨some 13, .mov (.t 5), none⟩, ⟨some 14, .iadr 4 (.t 12) (.t 13), none⟩, ⟨some 15, .load true 4 (.t 14), none⟩, ⟨some 16, .callv (.t 11) [(.t 15)], none⟩])
 (.cond (.t 16)
 (.seq (.reg [⟨some 17, .mov (.t 5), none⟩, ⟨some 4, .mov (.t 17), none⟩])
 .ret)
 .skip))))
 (.reg [⟨some 18, .bini .add (.t 8) (.c (.int .i64 (1))), none⟩, ⟨some 8, .mov (.t 18), none⟩])))))))
 (.seq (.reg [⟨some 4, .mov (.c (.int .i64 (-1))), none⟩])
 .ret)))⟩
theorem t_slices_IndexFunc___api_Cluster_api_Cluster : trFn Try.prog 94 [] [[8]] = some f_slices_IndexFunc___api_Cluster_api_Cluster := by kernel_rfl

abbrev n_stringslite_CutPrefix : Nat := 95
theorem k_stringslite_CutPrefix : FnOk Try.prog 95 := FnOk.of (by kernel_rfl)
/-- internal/stringslite.CutPrefix -/
def f_stringslite_CutPrefix : FnI := ⟨15, [.tmp 4, .tmp 5],
 (.seq (.reg [⟨some 4, .mov (.c (.string ⟨#[]⟩)), none⟩, ⟨some 5, .mov (.b false), none⟩])
 (.seq (.seq (.reg [⟨some 6, .mov (.t 0), none⟩, ⟨some 7, .mov (.t 1), none⟩, ⟨some 8, .call 100 [(.t 6), (.t 7)], none⟩, ⟨some 9, .not (.t 8), none⟩])
 (.cond (.t 9)
 (.seq (.reg [⟨some 10, .mov (.t 0), none⟩, ⟨some 4, .mov (.t 10), none⟩, ⟨some 5, .mov (.b false), none⟩])
 .ret)
 .skip))
 (.seq (.reg [⟨some 11, .mov (.t 0), none⟩, ⟨some 12, .mov (.t 1), none⟩, ⟨some 13, .len true (.t 12), none⟩, ⟨some 14, .slcs (.t 11) (some (.t 13)) none, none⟩, ⟨some 4, .mov (.t 14), none⟩, ⟨some 5, .mov (.b true), none⟩])
 .ret)))⟩
theorem t_stringslite_CutPrefix : trFn Try.prog 95 [] [] = some f_stringslite_CutPrefix := by kernel_rfl

abbrev n_names_parts : Nat := 96
theorem k_names_parts : FnOk Try.prog 96 := FnOk.of (by kernel_rfl)
/-- hydrant/names.parts -/
def f_names_parts : FnI := ⟨6, [.tmp 4],
 (.seq (.reg [⟨some 2, .box 9 (.t 0), none⟩, ⟨some 3, .box 5 (.t 1), none⟩, ⟨some 4, .mov (.c .nilFunc), none⟩])
 (.seq (.reg [⟨some 5, .mkf (.func 101) [] [(.t 2), (.t 3)], none⟩, ⟨some 4, .mov (.t 5), none⟩])
 .ret))⟩
theorem t_names_parts : trFn Try.prog 96 [] [] = some f_names_parts := by kernel_rfl

abbrev n_hosts_Match : Nat := 97
theorem k_hosts_Match : FnOk Try.prog 97 := FnOk.of (by kernel_rfl)
/-- hydrant/hosts.Match -/
def f_hosts_Match : FnI := ⟨43, [.tmp 4],
 (.seq (.reg [⟨some 4, .mov (.b false), none⟩])
 (.seq (.seq (.reg [⟨some 7, .mov (.t 0), none⟩, ⟨some 8, .call 69 [(.t 7)], none⟩, ⟨some 9, .not (.t 8), none⟩, ⟨some 10, .mov (.t 9), none⟩, ⟨some 11, .mov (.t 1), some (10, false)⟩, ⟨some 12, .call 86 [(.t 11)], some (10, false)⟩, ⟨some 13, .not (.t 12), some (10, false)⟩, ⟨some 14, .pick (.t 10) (.b true) (.t 13), none⟩])
 (.cond (.t 14)
 (.seq (.reg [⟨some 4, .mov (.b false), none⟩])
 .ret)
 .skip))
 (.seq (.reg [⟨some 16, .mov (.t 0), none⟩, ⟨some 17, .call 85 [(.t 16), (.c (.string ⟨#[42]⟩))], none⟩, ⟨some 15, .mov (.t 17), none⟩, ⟨some 18, .ext 0 (.t 15), none⟩, ⟨some 19, .ext 1 (.t 15), none⟩, ⟨some 5, .mov (.t 18), none⟩, ⟨some 6, .mov (.t 19), none⟩])
 (.seq (.block 0
 (.seq (.block 2
 (.block 1
 (.seq (.seq (.seq (.reg [⟨some 21, .mov (.t 0), none⟩, ⟨some 22, .mov (.t 1), none⟩, ⟨some 23, .bins .eql (.t 21) (.t 22), none⟩, ⟨some 20, .mov (.t 23), none⟩])
 (.cond (.t 20)
 (.exit 1)
 .skip))
 (.seq (.reg [⟨some 25, .mov (.t 6), none⟩, ⟨some 26, .mov (.t 25), none⟩, ⟨some 27, .mov (.t 5), some (26, true)⟩, ⟨some 28, .bins .eql (.t 27) (.c (.string ⟨#[]⟩)), some (26, true)⟩, ⟨some 29, .pick (.t 26) (.t 28) (.b false), none⟩, ⟨some 24, .mov (.t 29), none⟩])
 (.cond (.t 24)
 (.exit 2)
 .skip)))
 (.exit 0))))
 (.seq (.seq (.reg [⟨some 4, .mov (.b true), none⟩])
 .ret)
 (.exit 0))))
 (.seq (.reg [⟨some 30, .mov (.t 6), none⟩, ⟨some 31, .mov (.t 30), none⟩, ⟨some 32, .mov (.t 1), some (31, true)⟩, ⟨some 33, .len true (.t 32), some (31, true)⟩, ⟨some 34, .mov (.t 5), some (31, true)⟩, ⟨some 35, .len true (.t 34), some (31, true)⟩, ⟨some 36, .bini .gtr (.t 33) (.t 35), some (31, true)⟩, ⟨some 37, .pick (.t 31) (.t 36) (.b false), none⟩, ⟨some 38, .mov (.t 37), none⟩, ⟨some 39, .mov (.t 1), some (38, true)⟩, ⟨some 40, .mov (.t 5), some (38, true)⟩, ⟨some 41, .call 103 [(.t 39), (.t 40)], some (38, true)⟩, ⟨some 42, .pick (.t 38) (.t 41) (.b false), none⟩, ⟨some 4, .mov (.t 42), none⟩])
 .ret)))))⟩
theorem t_hosts_Match : trFn Try.prog 97 [] [] = some f_hosts_Match := by kernel_rfl

abbrev n_hosts_Under : Nat := 98
theorem k_hosts_Under : FnOk Try.prog 98 := FnOk.of (by kernel_rfl)
/-- hydrant/hosts.Under -/
def f_hosts_Under : FnI := ⟨35, [.tmp 4],
 (.seq (.reg [⟨some 4, .mov (.b false), none⟩])
 (.seq (.seq (.reg [⟨some 7, .mov (.t 0), none⟩, ⟨some 8, .call 70 [(.t 7)], none⟩, ⟨some 9, .not (.t 8), none⟩, ⟨some 10, .mov (.t 9), none⟩, ⟨some 11, .mov (.t 1), some (10, false)⟩, ⟨some 12, .call 70 [(.t 11)], some (10, false)⟩, ⟨some 13, .not (.t 12), some (10, false)⟩, ⟨some 14, .pick (.t 10) (.b true) (.t 13), none⟩])
 (.cond (.t 14)
 (.seq (.reg [⟨some 4, .mov (.b false), none⟩])
 .ret)
 .skip))
 (.seq (.reg [⟨some 16, .mov (.t 0), none⟩, ⟨some 17, .mov (.t 1), none⟩, ⟨some 18, .call 85 [(.t 16), (.t 17)], none⟩, ⟨some 15, .mov (.t 18), none⟩, ⟨some 19, .ext 0 (.t 15), none⟩, ⟨some 20, .ext 1 (.t 15), none⟩, ⟨some 5, .mov (.t 19), none⟩, ⟨some 6, .mov (.t 20), none⟩])
 (.seq (.reg [⟨some 21, .mov (.t 6), none⟩, ⟨some 22, .mov (.t 21), none⟩, ⟨some 23, .mov (.t 5), some (22, true)⟩, ⟨some 24, .bins .eql (.t 23) (.c (.string ⟨#[]⟩)), some (22, true)⟩, ⟨some 25, .mov (.t 24), some (22, true)⟩, ⟨some 26, .mov (.t 1), some (25, false)⟩, ⟨some 27, .call 103 [(.t 26), (.c (.string ⟨#[47]⟩))], some (25, false)⟩, ⟨some 28, .pick (.t 25) (.b true) (.t 27), some (22, true)⟩, ⟨some 29, .mov (.t 28), some (22, true)⟩, ⟨some 30, .mov (.t 5), some (29, false)⟩, ⟨some 31, .idxs (.t 30) (.c (.int .i64 (0))), some (29, false)⟩, ⟨some 32, .bini .eql (.t 31) (.c (.int .u8 (47))), some (29, false)⟩, ⟨some 33, .pick (.t 29) (.b true) (.t 32), some (22, true)⟩, ⟨some 34, .pick (.t 22) (.t 33) (.b false), none⟩, ⟨some 4, .mov (.t 34), none⟩])
 .ret))))⟩
theorem t_hosts_Under : trFn Try.prog 98 [] [] = some f_hosts_Under := by kernel_rfl

abbrev n_hydrantref03_Parts : Nat := 99
theorem k_hydrantref03_Parts : FnOk Try.prog 99 := FnOk.of (by kernel_rfl)
/-- hydrant/hydrantref03.Parts -/
def f_hydrantref03_Parts : FnI := ⟨35, [.tmp 4],
 (.seq (.reg [⟨some 4, .mov (.c (.slice none 0 0)), none⟩])
 (.seq (.reg [⟨some 8, .bsl 9 1 0 [] [], none⟩, ⟨some 5, .mov (.t 8), none⟩])
 (.seq (.reg [⟨some 6, .mov (.c (.int .i64 (0))), none⟩])
 (.seq (.seq (.reg [⟨some 7, .mov (.c (.int .i64 (0))), none⟩])
 (.block 0
 (.loop [5, 6, 7] [9, 10, 11, 12, 15, 16, 17, 18, 19, 20, 21, 22, 23, 24, 25, 26, 5, 27, 28, 6, 13, 14, 7]
 (.seq (.seq (.reg [⟨some 9, .mov (.t 7), none⟩, ⟨some 10, .mov (.t 0), none⟩, ⟨some 11, .len true (.t 10), none⟩, ⟨some 12, .bini .lss (.t 9) (.t 11), none⟩])
 (.cond (.t 12)
 .skip
 (.exit 0)))
 (.seq (.block 1
 (.seq (.reg [⟨some 15, .mov (.t 0), none⟩, ⟨some 16, .mov (.t 7), none⟩, ⟨some 17, .idxs (.t 15) (.t 16), none⟩, ⟨some 18, .mov (.t 1), none⟩, ⟨some 19, .bini .eql (.t 17) (.t 18), none⟩])
 (.cond (.t 19)
 (.seq (.reg [⟨some 20, .mov (.t 5), none⟩, ⟨some 21, .mov (.t 0), none⟩, ⟨some 22, .mov (.t 6), none⟩, ⟨some 23, .mov (.t 7), none⟩, ⟨some 24, .slcs (.t 21) (some (.t 22)) (some (.t 23)), none⟩, ⟨some 25, .bsl 9 1 1 [(.v (.string ⟨#[]⟩))] [(0, 1, (.t 24))], none⟩, ⟨some 26, .app 9 1 16 (.t 20) (.t 25), none⟩, ⟨some 5, .mov (.t 26), none⟩])
 (.reg [⟨some 27, .mov (.t 7), none⟩, ⟨some 28, .bini .add (.t 27) (.c (.int .i64 (1))), none⟩, ⟨some 6, .mov (.t 28), none⟩]))
 .skip)))
 (.reg [⟨some 13, .mov (.t 7), none⟩, ⟨some 14, .bini .add (.t 13) (.c (.int .i64 (1))), none⟩, ⟨some 7, .mov (.t 14), none⟩]))))))
 (.seq (.reg [⟨some 29, .mov (.t 5), none⟩, ⟨some 30, .mov (.t 0), none⟩, ⟨some 31, .mov (.t 6), none⟩, ⟨some 32, .slcs (.t 30) (some (.t 31)) none, none⟩, ⟨some 33, .bsl 9 1 1 [(.v (.string ⟨#[]⟩))] [(0, 1, (.t 32))], none⟩, ⟨some 34, .app 9 1 16 (.t 29) (.t 33), none⟩, ⟨some 4, .mov (.t 34), none⟩])
 .ret)))))⟩
theorem t_hydrantref03_Parts : trFn Try.prog 99 [] [[5, 6, 7]] = some f_hydrantref03_Parts := by kernel_rfl

abbrev n_stringslite_HasPrefix : Nat := 100
theorem k_stringslite_HasPrefix : FnOk Try.prog 100 := FnOk.of (by kernel_rfl)
/-- internal/stringslite.HasPrefix -/
def f_stringslite_HasPrefix : FnI := ⟨18, [.tmp 4],
 (.seq (.reg [⟨some 4, .mov (.b false), none⟩])
 (.seq (.reg [⟨some 5, .mov (.t 0), none⟩, ⟨some 6, .len true (.t 5), none⟩, ⟨some 7, .mov (.t 1), none⟩, ⟨some 8, .len true (.t 7), none⟩, ⟨some 9, .bini .geq (.t 6) (.t 8), none⟩, ⟨some 10, .mov (.t 9), none⟩, ⟨some 11, .mov (.t 0), some (10, true)⟩, ⟨some 12, .mov (.t 1), some (10, true)⟩, ⟨some 13, .len true (.t 12), some (10, true)⟩, ⟨some 14, .slcs (.t 11) none (some (.t 13)), some (10, true)⟩, ⟨some 15, .mov (.t 1), some (10, true)⟩, ⟨some 16, .bins .eql (.t 14) (.t 15), some (10, true)⟩, ⟨some 17, .pick (.t 10) (.t 16) (.b false), none⟩, ⟨some 4, .mov (.t 17), none⟩])
 .ret))⟩
theorem t_stringslite_HasPrefix : trFn Try.prog 100 [] [] = some f_stringslite_HasPrefix := by kernel_rfl

abbrev n_names_parts_1 : Nat := 101
theorem k_names_parts_1 : FnOk Try.prog 101 := FnOk.of (by kernel_rfl)
/-- hydrant/names.parts$1 -/
def f_names_parts_1 : FnI := ⟨23, [],
 (.block 0
 (.loop [] [5, 6, 7, 4, 8, 9, 10, 11, 12, 13, 14, 15, 16, 17, 18, 19, 20, 21, 22]
 (.block 1
 (.seq (.reg [⟨some 5, .load false 1 (.t 1), none⟩, ⟨some 6, .load false 1 (.t 2), none⟩, ⟨some 7, .call 102 [(.t 5), (.t 6)], none⟩, ⟨some 4, .mov (.t 7), none⟩])
 (.seq (.seq (.reg [⟨some 8, .mov (.t 4), none⟩, ⟨some 9, .bini .lss (.t 8) (.c (.int .i64 (0))), none⟩])
 (.cond (.t 9)
 (.seq (.reg [⟨some 10, .mov (.t 0), none⟩, ⟨some 11, .load false 1 (.t 1), none⟩, ⟨some 12, .callv (.t 10) [(.t 11)], none⟩])
 .ret)
 .skip))
 (.seq (.seq (.reg [⟨some 13, .mov (.t 0), none⟩, ⟨some 14, .load false 1 (.t 1), none⟩, ⟨some 15, .mov (.t 4), none⟩, ⟨some 16, .slcs (.t 14) none (some (.t 15)), none⟩, ⟨some 17, .callv (.t 13) [(.t 16)], none⟩, ⟨some 18, .not (.t 17), none⟩])
 (.cond (.t 18)
 .ret
 .skip))
 (.reg [⟨some 19, .load false 1 (.t 1), none⟩, ⟨some 20, .mov (.t 4), none⟩, ⟨some 21, .bini .add (.t 20) (.c (.int .i64 (1))), none⟩, ⟨some 22, .slcs (.t 19) (some (.t 21)) none, none⟩, ⟨none, .store 1 (.t 1) (.t 22), none⟩])))))))⟩
theorem t_names_parts_1 : trFn Try.prog 101 [] [[]] = some f_names_parts_1 := by kernel_rfl

abbrev n_strings_IndexByte : Nat := 102
theorem k_strings_IndexByte : FnOk Try.prog 102 := FnOk.of (by kernel_rfl)
/-- strings.IndexByte -/
def f_strings_IndexByte : FnI := ⟨8, [.tmp 4],
 (.seq (.reg [⟨some 4, .mov (.c (.int .i64 (0))), none⟩])
 (.seq (.reg [⟨some 5, .mov (.t 0), none⟩, ⟨some 6, .mov (.t 1), none⟩, ⟨some 7, .call 104 [(.t 5), (.t 6)], none⟩, ⟨some 4, .mov (.t 7), none⟩])
 .ret))⟩
theorem t_strings_IndexByte : trFn Try.prog 102 [] [] = some f_strings_IndexByte := by kernel_rfl

abbrev n_strings_HasSuffix : Nat := 103
theorem k_strings_HasSuffix : FnOk Try.prog 103 := FnOk.of (by kernel_rfl)
/-- strings.HasSuffix -/
def f_strings_HasSuffix : FnI := ⟨8, [.tmp 4],
 (.seq (.reg [⟨some 4, .mov (.b false), none⟩])
 (.seq (.reg [⟨some 5, .mov (.t 0), none⟩, ⟨some 6, .mov (.t 1), none⟩, ⟨some 7, .call 105 [(.t 5), (.t 6)], none⟩, ⟨some 4, .mov (.t 7), none⟩])
 .ret))⟩
theorem t_strings_HasSuffix : trFn Try.prog 103 [] [] = some f_strings_HasSuffix := by kernel_rfl

abbrev n_stringslite_IndexByte : Nat := 104
theorem k_stringslite_IndexByte : FnOk Try.prog 104 := FnOk.of (by kernel_rfl)
abbrev n_stringslite_HasSuffix : Nat := 105
theorem k_stringslite_HasSuffix : FnOk Try.prog 105 := FnOk.of (by kernel_rfl)
/-- internal/stringslite.HasSuffix -/
def f_stringslite_HasSuffix : FnI := ⟨21, [.tmp 4],
 (.seq (.reg [⟨some 4, .mov (.b false), none⟩])
 (.seq (.reg [⟨some 5, .mov (.t 0), none⟩, ⟨some 6, .len true (.t 5), none⟩, ⟨some 7, .mov (.t 1), none⟩, ⟨some 8, .len true (.t 7), none⟩, ⟨some 9, .bini .geq (.t 6) (.t 8), none⟩, ⟨some 10, .mov (.t 9), none⟩, ⟨some 11, .mov (.t 0), some (10, true)⟩, ⟨some 12, .mov (.t 0), some (10, true)⟩, ⟨some 13, .len true (.t 12), some (10, true)⟩, ⟨some 14, .mov (.t 1), some (10, true)⟩, ⟨some 15, .len true (.t 14), some (10, true)⟩, ⟨some 16, .bini .sub (.t 13) (.t 15), some (10, true)⟩, ⟨some 17, .slcs (.t 11) (some (.t 16)) none, some (10, true)⟩, ⟨some 18, .mov (.t 1), some (10, true)⟩, ⟨some 19, .bins .eql (.t 17) (.t 18), some (10, true)⟩, ⟨some 20, .pick (.t 10) (.t 19) (.b false), none⟩, ⟨some 4, .mov (.t 20), none⟩])
 .ret))⟩
theorem t_stringslite_HasSuffix : trFn Try.prog 105 [] [] = some f_stringslite_HasSuffix := by kernel_rfl

abbrev n_bytealg_IndexByteString : Nat := 106
end Go.Proofs.Ytedjbhpocedagaa
