/- The functions, as the evaluator reads them: each is what the given program's code says (checked by the kernel). -/
import Derived.Test.YtjbhkahjhohaeaaSx14
import Derived.Test.YtjbhkahjhohaeaaRows
namespace Go.Proofs.Ytjbhkahjhohaeaa
open Go.Proofs.Ytjbhkahjhohaeaa.Sx
abbrev ty_int64 : Nat := 2
abbrev ty_int : Nat := 3
abbrev ty_bool : Nat := 4
abbrev ty_uint8 : Nat := 5
abbrev ty_abi_BoundsErrorCode : Nat := 6
abbrev ty_runtime_boundsError : Nat := 8
abbrev ty_string : Nat := 9
abbrev ty_runtime_errorString : Nat := 10
abbrev ty_runtime_plainError : Nat := 11
abbrev ty_uintptr : Nat := 12
abbrev ty_runtime_errorAddressString : Nat := 14
abbrev ty_ptr_runtime_TypeAssertionError : Nat := 15
abbrev ty_ptr_runtime_PanicNilError : Nat := 16
abbrev ty_ptr_abi_Type : Nat := 17
abbrev ty_maps_unhashableTypeError : Nat := 19
abbrev ty_int32 : Nat := 21
abbrev ty_sl_api_Rule : Nat := 22
abbrev ty_api_Errno : Nat := 24
abbrev ty_api_Rule : Nat := 31
abbrev ty_sl_string : Nat := 36
abbrev ty_sl_api_Route : Nat := 37
abbrev ty_sl_api_Cluster : Nat := 38
abbrev ty_api_Config : Nat := 40
abbrev ty_sl_bool : Nat := 44
abbrev ty_api_Cluster : Nat := 46
abbrev ty_api_Route : Nat := 48
abbrev ty_config_checker : Nat := 62
abbrev ty_names_alphabet : Nat := 70
abbrev ty_runtime_TypeAssertionError : Nat := 87
abbrev ty_runtime_PanicNilError : Nat := 90
abbrev ty_uint32 : Nat := 92
abbrev ty_abi_TFlag : Nat := 93
abbrev ty_abi_Kind : Nat := 94
abbrev ty_ptr_uint8 : Nat := 96
abbrev ty_abi_NameOff : Nat := 97
abbrev ty_abi_TypeOff : Nat := 98
abbrev ty_abi_Type : Nat := 100
abbrev ty_unsafe_Pointer : Nat := 101
abbrev n_gosem_cut_init : Nat := 2
theorem k_gosem_cut_init : FnOk Try.prog 2 := FnOk.of (by kernel_rfl)
abbrev n_hydrantlaw06_RoutesBest : Nat := 3
theorem k_hydrantlaw06_RoutesBest : FnOk Try.prog 3 := FnOk.of (by kernel_rfl)
/-- hydrant/hydrantlaw06.RoutesBest -/
def f_hydrantlaw06_RoutesBest : FnI := ⟨44, [.tmp 8],
 (.seq (.reg [⟨some 8, .mov (.b false), none⟩])
 (.seq (.seq (.reg [⟨some 13, .mov (.t 0), none⟩, ⟨some 14, .mov (.t 2), none⟩, ⟨some 15, .mov (.t 3), none⟩, ⟨some 16, .call 13 [(.t 13), (.t 14), (.t 15)], none⟩])
 (.cond (.t 16)
 (.seq (.reg [⟨some 8, .mov (.b true), none⟩])
 .ret)
 .skip))
 (.seq (.reg [⟨some 18, .mov (.t 0), none⟩, ⟨some 19, .mov (.t 1), none⟩, ⟨some 20, .mov (.t 2), none⟩, ⟨some 21, .mov (.t 3), none⟩, ⟨some 22, .call 14 [(.t 18), (.t 19), (.t 20), (.t 21)], none⟩, ⟨some 17, .mov (.t 22), none⟩, ⟨some 23, .ext 0 (.t 17), none⟩, ⟨some 24, .ext 1 (.t 17), none⟩, ⟨some 9, .mov (.t 23), none⟩, ⟨some 10, .mov (.t 24), none⟩])
 (.seq (.reg [⟨some 26, .mov (.t 0), none⟩, ⟨some 27, .mov (.t 1), none⟩, ⟨some 28, .mov (.t 2), none⟩, ⟨some 29, .mov (.t 3), none⟩, ⟨some 30, .call 15 [(.t 26), (.t 27), (.t 28), (.t 29)], none⟩, ⟨some 25, .mov (.t 30), none⟩, ⟨some 31, .ext 0 (.t 25), none⟩, ⟨some 32, .ext 1 (.t 25), none⟩, ⟨some 11, .mov (.t 31), none⟩, ⟨some 12, .mov (.t 32), none⟩])
 (.seq (.reg [⟨some 33, .call 16 [], none⟩, ⟨some 34, .mov (.t 33), none⟩, ⟨some 35, .mov (.t 9), some (34, true)⟩, ⟨some 36, .mov (.t 11), some (34, true)⟩, ⟨some 37, .bini .eql (.t 35) (.t 36), some (34, true)⟩, ⟨some 38, .pick (.t 34) (.t 37) (.b false), none⟩, ⟨some 39, .mov (.t 38), none⟩, ⟨some 40, .mov (.t 10), some (39, true)⟩, ⟨some 41, .mov (.t 12), some (39, true)⟩, ⟨some 42, .bini .eql (.t 40) (.t 41), some (39, true)⟩, ⟨some 43, .pick (.t 39) (.t 42) (.b false), none⟩, ⟨some 8, .mov (.t 43), none⟩])
 .ret)))))⟩
theorem t_hydrantlaw06_RoutesBest : trFn Try.prog 3 [] [] = some f_hydrantlaw06_RoutesBest := by kernel_rfl

abbrev n_hydrantlaw06_RoutesFit : Nat := 4
theorem k_hydrantlaw06_RoutesFit : FnOk Try.prog 4 := FnOk.of (by kernel_rfl)
/-- hydrant/hydrantlaw06.RoutesFit -/
def f_hydrantlaw06_RoutesFit : FnI := ⟨133, [.tmp 10],
 (.seq (.reg [⟨some 10, .mov (.b false), none⟩])
 (.seq (.seq (.reg [⟨some 13, .mov (.t 0), none⟩, ⟨some 14, .mov (.t 2), none⟩, ⟨some 15, .mov (.t 3), none⟩, ⟨some 16, .call 13 [(.t 13), (.t 14), (.t 15)], none⟩])
 (.cond (.t 16)
 (.seq (.reg [⟨some 10, .mov (.b true), none⟩])
 .ret)
 .skip))
 (.seq (.reg [⟨some 18, .mov (.t 0), none⟩, ⟨some 19, .mov (.t 1), none⟩, ⟨some 20, .mov (.t 2), none⟩, ⟨some 21, .mov (.t 3), none⟩, ⟨some 22, .call 14 [(.t 18), (.t 19), (.t 20), (.t 21)], none⟩, ⟨some 17, .mov (.t 22), none⟩, ⟨some 23, .ext 0 (.t 17), none⟩, ⟨some 24, .ext 1 (.t 17), none⟩, ⟨some 11, .mov (.t 23), none⟩, ⟨some 12, .mov (.t 24), none⟩])
 (.seq (.seq (.reg [⟨some 25, .mov (.t 4), none⟩, ⟨some 26, .bini .lss (.t 25) (.c (.int .i64 (0))), none⟩, ⟨some 27, .mov (.t 26), none⟩, ⟨some 28, .mov (.t 4), some (27, false)⟩, ⟨some 29, .mov (.t 0), some (27, false)⟩, ⟨some 30, .len false (.t 29), some (27, false)⟩, ⟨some 31, .bini .geq (.t 28) (.t 30), some (27, false)⟩, ⟨some 32, .pick (.t 27) (.b true) (.t 31), none⟩])
 (.cond (.t 32)
 (.seq (.reg [⟨some 33, .call 16 [], none⟩, ⟨some 34, .mov (.t 33), none⟩, ⟨some 35, .mov (.t 12), some (34, true)⟩, ⟨some 36, .bini .eql (.t 35) (.c (.int .i64 (5))), some (34, true)⟩, ⟨some 37, .mov (.t 36), some (34, true)⟩, ⟨some 38, .mov (.t 11), some (37, false)⟩, ⟨some 39, .bini .geq (.t 38) (.c (.int .i64 (0))), some (37, false)⟩, ⟨some 40, .mov (.t 39), some (37, false)⟩, ⟨some 41, .mov (.t 11), some (40, true)⟩, ⟨some 42, .mov (.t 0), some (40, true)⟩, ⟨some 43, .len false (.t 42), some (40, true)⟩, ⟨some 44, .bini .lss (.t 41) (.t 43), some (40, true)⟩, ⟨some 45, .pick (.t 40) (.t 44) (.b false), some (37, false)⟩, ⟨some 46, .mov (.t 45), some (37, false)⟩, ⟨some 47, .mov (.t 0), some (46, true)⟩, ⟨some 48, .mov (.t 11), some (46, true)⟩, ⟨some 49, .iadr 4 (.t 47) (.t 48), some (46, true)⟩, ⟨some 50, .load true 4 (.t 49), some (46, true)⟩, ⟨some 51, .mov (.t 1), some (46, true)⟩, ⟨some 52, .mov (.t 2), some (46, true)⟩, ⟨some 53, .mov (.t 3), some (46, true)⟩, ⟨some 54, .call 17 [(.t 50), (.t 51), (.t 52), (.t 53)], some (46, true)⟩, ⟨some 55, .pick (.t 46) (.t 54) (.b false), some (37, false)⟩, ⟨some 56, .pick (.t 37) (.b true) (.t 55), some (34, true)⟩, ⟨some 57, .pick (.t 34) (.t 56) (.b false), none⟩, ⟨some 10, .mov (.t 57), none⟩])
 .ret)
 .skip))
 (.seq (.seq (.regD [⟨some 58, .mov (.t 0), none⟩, ⟨some 59, .mov (.t 4), none⟩, ⟨some 60, .iadr 4 (.t 58) (.t 59), none⟩, ⟨some 61, .load true 4 (.t 60), none⟩, ⟨some 62, .mov (.t 1), none⟩, ⟨some 63, .mov (.t 2), none⟩, ⟨some 64, .mov (.t 3), none⟩, ⟨some 66, .mov (.t 0), none⟩, ⟨some 67, .mov (.t 4), none⟩, ⟨some 68, .iadr 4 (.t 66) (.t 67), none⟩, ⟨some 69, .load true 4 (.t 68), none⟩, ⟨some 70, .mov (.t 1), none⟩, ⟨some 71, .mov (.t 2), none⟩, ⟨some 72, .mov (.t 3), none⟩, ⟨some 65, .call 17 [(.t 61), (.t 62), (.t 63), (.t 64)], none⟩, ⟨some 73, .call 18 [(.t 69), (.t 70), (.t 71), (.t 72)], none⟩, ⟨some 74, .binb true (.t 65) (.t 73), none⟩])
 (.cond (.t 74)
 (.seq (.reg [⟨some 10, .mov (.b false), none⟩])
 .ret)
 .skip))
 (.seq (.seq (.reg [⟨some 75, .mov (.t 0), none⟩, ⟨some 76, .mov (.t 4), none⟩, ⟨some 77, .iadr 4 (.t 75) (.t 76), none⟩, ⟨some 78, .load true 4 (.t 77), none⟩, ⟨some 79, .mov (.t 1), none⟩, ⟨some 80, .mov (.t 2), none⟩, ⟨some 81, .mov (.t 3), none⟩, ⟨some 82, .call 17 [(.t 78), (.t 79), (.t 80), (.t 81)], none⟩, ⟨some 83, .not (.t 82), none⟩])
 (.cond (.t 83)
 (.seq (.reg [⟨some 84, .call 16 [], none⟩, ⟨some 85, .mov (.t 84), none⟩, ⟨some 86, .mov (.t 12), some (85, true)⟩, ⟨some 87, .bini .neq (.t 86) (.c (.int .i64 (0))), some (85, true)⟩, ⟨some 88, .mov (.t 87), some (85, true)⟩, ⟨some 89, .mov (.t 11), some (88, false)⟩, ⟨some 90, .mov (.t 4), some (88, false)⟩, ⟨some 91, .bini .neq (.t 89) (.t 90), some (88, false)⟩, ⟨some 92, .pick (.t 88) (.b true) (.t 91), some (85, true)⟩, ⟨some 93, .pick (.t 85) (.t 92) (.b false), none⟩, ⟨some 10, .mov (.t 93), none⟩])
 .ret)
 .skip))
 (.seq (.regD [⟨some 94, .call 16 [], none⟩, ⟨some 95, .mov (.t 94), none⟩, ⟨some 96, .mov (.t 12), some (95, true)⟩, ⟨some 97, .bini .eql (.t 96) (.c (.int .i64 (0))), some (95, true)⟩, ⟨some 98, .pick (.t 95) (.t 97) (.b false), none⟩, ⟨some 99, .mov (.t 98), none⟩, ⟨some 100, .mov (.t 11), some (99, true)⟩, ⟨some 101, .bini .geq (.t 100) (.c (.int .i64 (0))), some (99, true)⟩, ⟨some 102, .pick (.t 99) (.t 101) (.b false), none⟩, ⟨some 103, .mov (.t 102), none⟩, ⟨some 104, .mov (.t 11), some (103, true)⟩, ⟨some 105, .mov (.t 0), some (103, true)⟩, ⟨some 106, .len false (.t 105), some (103, true)⟩, ⟨some 107, .bini .lss (.t 104) (.t 106), some (103, true)⟩, ⟨some 108, .pick (.t 103) (.t 107) (.b false), none⟩, ⟨some 109, .mov (.t 108), none⟩, ⟨some 110, .mov (.t 0), some (109, true)⟩, ⟨some 111, .mov (.t 4), some (109, true)⟩, ⟨some 112, .iadr 4 (.t 110) (.t 111), some (109, true)⟩, ⟨some 113, .fadr 1 (.t 112), some (109, true)⟩, ⟨some 114, .load false 1 (.t 113), some (109, true)⟩, ⟨some 115, .mov (.t 0), some (109, true)⟩, ⟨some 116, .mov (.t 4), some (109, true)⟩, ⟨some 117, .iadr 4 (.t 115) (.t 116), some (109, true)⟩, ⟨some 118, .fadr 2 (.t 117), some (109, true)⟩, ⟨some 119, .load false 1 (.t 118), some (109, true)⟩, ⟨some 120, .mov (.t 0), some (109, true)⟩, ⟨some 121, .mov (.t 11), some (109, true)⟩, ⟨some 122, .iadr 4 (.t 120) (.t 121), some (109, true)⟩, ⟨some 123, .fadr 1 (.t 122), some (109, true)⟩, ⟨some 124, .load false 1 (.t 123), some (109, true)⟩, ⟨some 125, .mov (.t 0), some (109, true)⟩, ⟨some 126, .mov (.t 11), some (109, true)⟩, ⟨some 127, .iadr 4 (.t 125) (.t 126), some (109, true)⟩, ⟨some 128, .fadr 2 (.t 127), some (109, true)⟩, ⟨some 129, .load false 1 (.t 128), some (109, true)⟩, ⟨some 130, .call 19 [(.t 114), (.t 119), (.t 124), (.t 129)], some (109, true)⟩, ⟨some 131, .not (.t 130), some (109, true)⟩, ⟨some 132, .pick (.t 109) (.t 131) (.b false), none⟩, ⟨some 10, .mov (.t 132), none⟩])
 .ret)))))))⟩
theorem t_hydrantlaw06_RoutesFit : trFn Try.prog 4 [[0, 1, 2, 3, 4, 5, 6, 8, 9, 10, 11, 12, 13, 14, 7, 15, 16], [0, 1, 2, 3, 4, 5, 6, 7, 8, 9, 10, 11, 12, 13, 14, 15, 16, 17, 18, 19, 20, 21, 22, 23, 24, 25, 26, 27, 28, 29, 30, 31, 32, 33, 34, 35, 36, 37, 38, 39]] [] = some f_hydrantlaw06_RoutesFit := by kernel_rfl

abbrev n_hydrantlaw06_RoutesIdle : Nat := 5
theorem k_hydrantlaw06_RoutesIdle : FnOk Try.prog 5 := FnOk.of (by kernel_rfl)
/-- hydrant/hydrantlaw06.RoutesIdle -/
def f_hydrantlaw06_RoutesIdle : FnI := ⟨103, [.tmp 12],
 (.seq (.reg [⟨some 10, .box 31 (.t 4), none⟩, ⟨some 12, .mov (.b false), none⟩])
 (.seq (.seq (.reg [⟨some 18, .mov (.t 0), none⟩, ⟨some 19, .mov (.t 2), none⟩, ⟨some 20, .mov (.t 3), none⟩, ⟨some 21, .call 13 [(.t 18), (.t 19), (.t 20)], none⟩, ⟨some 22, .mov (.t 21), none⟩, ⟨some 23, .fadr 1 (.t 10), some (22, false)⟩, ⟨some 24, .load false 1 (.t 23), some (22, false)⟩, ⟨some 25, .len true (.t 24), some (22, false)⟩, ⟨some 26, .bini .gtr (.t 25) (.c (.int .i64 (100))), some (22, false)⟩, ⟨some 27, .pick (.t 22) (.b true) (.t 26), none⟩, ⟨some 28, .mov (.t 27), none⟩, ⟨some 29, .fadr 2 (.t 10), some (28, false)⟩, ⟨some 30, .load false 1 (.t 29), some (28, false)⟩, ⟨some 31, .len true (.t 30), some (28, false)⟩, ⟨some 32, .bini .gtr (.t 31) (.c (.int .i64 (100))), some (28, false)⟩, ⟨some 33, .pick (.t 28) (.b true) (.t 32), none⟩, ⟨some 34, .mov (.t 33), none⟩, ⟨some 35, .mov (.t 5), some (34, false)⟩, ⟨some 36, .bini .lss (.t 35) (.c (.int .i64 (0))), some (34, false)⟩, ⟨some 37, .pick (.t 34) (.b true) (.t 36), none⟩, ⟨some 38, .mov (.t 37), none⟩, ⟨some 39, .mov (.t 5), some (38, false)⟩, ⟨some 40, .mov (.t 0), some (38, false)⟩, ⟨some 41, .len false (.t 40), some (38, false)⟩, ⟨some 42, .bini .gtr (.t 39) (.t 41), some (38, false)⟩, ⟨some 43, .pick (.t 38) (.b true) (.t 42), none⟩, ⟨some 44, .mov (.t 43), none⟩, ⟨some 45, .load true 4 (.t 10), some (44, false)⟩, ⟨some 46, .mov (.t 1), some (44, false)⟩, ⟨some 47, .mov (.t 2), some (44, false)⟩, ⟨some 48, .mov (.t 3), some (44, false)⟩, ⟨some 49, .call 17 [(.t 45), (.t 46), (.t 47), (.t 48)], some (44, false)⟩, ⟨some 50, .pick (.t 44) (.b true) (.t 49), none⟩])
 (.cond (.t 50)
 (.seq (.reg [⟨some 51, .call 16 [], none⟩, ⟨some 12, .mov (.t 51), none⟩])
 .ret)
 .skip))
 (.seq (.reg [⟨some 52, .bsl 31 4 0 [] [], none⟩, ⟨some 13, .mov (.t 52), none⟩])
 (.seq (.reg [⟨some 53, .mov (.t 13), none⟩, ⟨some 54, .mov (.t 0), none⟩, ⟨some 55, .mov (.t 5), none⟩, ⟨some 56, .slc 4 (.t 54) none (some (.t 55)) none, none⟩, ⟨some 57, .app 31 4 48 (.t 53) (.t 56), none⟩, ⟨some 13, .mov (.t 57), none⟩])
 (.seq (.reg [⟨some 58, .mov (.t 13), none⟩, ⟨some 59, .load true 4 (.t 10), none⟩, ⟨some 60, .bsl 31 4 1 [(.v (.int .i64 (0))), (.v (.string ⟨#[]⟩)), (.v (.string ⟨#[]⟩)), (.v (.int .i64 (0)))] [(0, 4, (.t 59))], none⟩, ⟨some 61, .app 31 4 48 (.t 58) (.t 60), none⟩, ⟨some 13, .mov (.t 61), none⟩])
 (.seq (.reg [⟨some 62, .mov (.t 13), none⟩, ⟨some 63, .mov (.t 0), none⟩, ⟨some 64, .mov (.t 5), none⟩, ⟨some 65, .slc 4 (.t 63) (some (.t 64)) none none, none⟩, ⟨some 66, .app 31 4 48 (.t 62) (.t 65), none⟩, ⟨some 13, .mov (.t 66), none⟩])
 (.seq (.reg [⟨some 68, .mov (.t 0), none⟩, ⟨some 69, .mov (.t 1), none⟩, ⟨some 70, .mov (.t 2), none⟩, ⟨some 71, .mov (.t 3), none⟩, ⟨some 72, .call 14 [(.t 68), (.t 69), (.t 70), (.t 71)], none⟩, ⟨some 67, .mov (.t 72), none⟩, ⟨some 73, .ext 0 (.t 67), none⟩, ⟨some 74, .ext 1 (.t 67), none⟩, ⟨some 14, .mov (.t 73), none⟩, ⟨some 15, .mov (.t 74), none⟩])
 (.seq (.reg [⟨some 76, .mov (.t 13), none⟩, ⟨some 77, .mov (.t 1), none⟩, ⟨some 78, .mov (.t 2), none⟩, ⟨some 79, .mov (.t 3), none⟩, ⟨some 80, .call 14 [(.t 76), (.t 77), (.t 78), (.t 79)], none⟩, ⟨some 75, .mov (.t 80), none⟩, ⟨some 81, .ext 0 (.t 75), none⟩, ⟨some 82, .ext 1 (.t 75), none⟩, ⟨some 16, .mov (.t 81), none⟩, ⟨some 17, .mov (.t 82), none⟩])
 (.seq (.seq (.reg [⟨some 83, .mov (.t 15), none⟩, ⟨some 84, .bini .eql (.t 83) (.c (.int .i64 (0))), none⟩, ⟨some 85, .mov (.t 84), none⟩, ⟨some 86, .mov (.t 14), some (85, true)⟩, ⟨some 87, .mov (.t 5), some (85, true)⟩, ⟨some 88, .bini .geq (.t 86) (.t 87), some (85, true)⟩, ⟨some 89, .pick (.t 85) (.t 88) (.b false), none⟩])
 (.cond (.t 89)
 (.reg [⟨some 90, .mov (.t 14), none⟩, ⟨some 91, .bini .add (.t 90) (.c (.int .i64 (1))), none⟩, ⟨some 14, .mov (.t 91), none⟩])
 .skip))
 (.seq (.reg [⟨some 92, .call 16 [], none⟩, ⟨some 93, .mov (.t 92), none⟩, ⟨some 94, .mov (.t 14), some (93, true)⟩, ⟨some 95, .mov (.t 16), some (93, true)⟩, ⟨some 96, .bini .eql (.t 94) (.t 95), some (93, true)⟩, ⟨some 97, .pick (.t 93) (.t 96) (.b false), none⟩, ⟨some 98, .mov (.t 97), none⟩, ⟨some 99, .mov (.t 15), some (98, true)⟩, ⟨some 100, .mov (.t 17), some (98, true)⟩, ⟨some 101, .bini .eql (.t 99) (.t 100), some (98, true)⟩, ⟨some 102, .pick (.t 98) (.t 101) (.b false), none⟩, ⟨some 12, .mov (.t 102), none⟩])
 .ret))))))))))⟩
theorem t_hydrantlaw06_RoutesIdle : trFn Try.prog 5 [] [] = some f_hydrantlaw06_RoutesIdle := by kernel_rfl

abbrev n_hydrantlaw06_RoutesMore : Nat := 6
theorem k_hydrantlaw06_RoutesMore : FnOk Try.prog 6 := FnOk.of (by kernel_rfl)
/-- hydrant/hydrantlaw06.RoutesMore -/
def f_hydrantlaw06_RoutesMore : FnI := ⟨114, [.tmp 10],
 (.seq (.reg [⟨some 9, .box 31 (.t 4), none⟩, ⟨some 10, .mov (.b false), none⟩])
 (.seq (.seq (.reg [⟨some 16, .mov (.t 0), none⟩, ⟨some 17, .mov (.t 2), none⟩, ⟨some 18, .mov (.t 3), none⟩, ⟨some 19, .call 13 [(.t 16), (.t 17), (.t 18)], none⟩, ⟨some 20, .mov (.t 19), none⟩, ⟨some 21, .fadr 1 (.t 9), some (20, false)⟩, ⟨some 22, .load false 1 (.t 21), some (20, false)⟩, ⟨some 23, .len true (.t 22), some (20, false)⟩, ⟨some 24, .bini .gtr (.t 23) (.c (.int .i64 (100))), some (20, false)⟩, ⟨some 25, .pick (.t 20) (.b true) (.t 24), none⟩, ⟨some 26, .mov (.t 25), none⟩, ⟨some 27, .fadr 2 (.t 9), some (26, false)⟩, ⟨some 28, .load false 1 (.t 27), some (26, false)⟩, ⟨some 29, .len true (.t 28), some (26, false)⟩, ⟨some 30, .bini .gtr (.t 29) (.c (.int .i64 (100))), some (26, false)⟩, ⟨some 31, .pick (.t 26) (.b true) (.t 30), none⟩])
 (.cond (.t 31)
 (.seq (.reg [⟨some 10, .mov (.b true), none⟩])
 .ret)
 .skip))
 (.seq (.reg [⟨some 32, .bsl 31 4 0 [] [], none⟩, ⟨some 11, .mov (.t 32), none⟩])
 (.seq (.reg [⟨some 33, .mov (.t 11), none⟩, ⟨some 34, .mov (.t 0), none⟩, ⟨some 35, .app 31 4 48 (.t 33) (.t 34), none⟩, ⟨some 11, .mov (.t 35), none⟩])
 (.seq (.reg [⟨some 36, .mov (.t 11), none⟩, ⟨some 37, .load true 4 (.t 9), none⟩, ⟨some 38, .bsl 31 4 1 [(.v (.int .i64 (0))), (.v (.string ⟨#[]⟩)), (.v (.string ⟨#[]⟩)), (.v (.int .i64 (0)))] [(0, 4, (.t 37))], none⟩, ⟨some 39, .app 31 4 48 (.t 36) (.t 38), none⟩, ⟨some 11, .mov (.t 39), none⟩])
 (.seq (.reg [⟨some 41, .mov (.t 0), none⟩, ⟨some 42, .mov (.t 1), none⟩, ⟨some 43, .mov (.t 2), none⟩, ⟨some 44, .mov (.t 3), none⟩, ⟨some 45, .call 14 [(.t 41), (.t 42), (.t 43), (.t 44)], none⟩, ⟨some 40, .mov (.t 45), none⟩, ⟨some 46, .ext 0 (.t 40), none⟩, ⟨some 47, .ext 1 (.t 40), none⟩, ⟨some 12, .mov (.t 46), none⟩, ⟨some 13, .mov (.t 47), none⟩])
 (.seq (.reg [⟨some 49, .mov (.t 11), none⟩, ⟨some 50, .mov (.t 1), none⟩, ⟨some 51, .mov (.t 2), none⟩, ⟨some 52, .mov (.t 3), none⟩, ⟨some 53, .call 14 [(.t 49), (.t 50), (.t 51), (.t 52)], none⟩, ⟨some 48, .mov (.t 53), none⟩, ⟨some 54, .ext 0 (.t 48), none⟩, ⟨some 55, .ext 1 (.t 48), none⟩, ⟨some 14, .mov (.t 54), none⟩, ⟨some 15, .mov (.t 55), none⟩])
 (.seq (.seq (.reg [⟨some 56, .mov (.t 15), none⟩, ⟨some 57, .bini .eql (.t 56) (.c (.int .i64 (0))), none⟩, ⟨some 58, .mov (.t 57), none⟩, ⟨some 59, .mov (.t 14), some (58, true)⟩, ⟨some 60, .mov (.t 0), some (58, true)⟩, ⟨some 61, .len false (.t 60), some (58, true)⟩, ⟨some 62, .bini .eql (.t 59) (.t 61), some (58, true)⟩, ⟨some 63, .pick (.t 58) (.t 62) (.b false), none⟩])
 (.cond (.t 63)
 (.seq (.regD [⟨some 64, .call 16 [], none⟩, ⟨some 65, .mov (.t 64), none⟩, ⟨some 66, .load true 4 (.t 9), some (65, true)⟩, ⟨some 67, .mov (.t 1), some (65, true)⟩, ⟨some 68, .mov (.t 2), some (65, true)⟩, ⟨some 69, .mov (.t 3), some (65, true)⟩, ⟨some 70, .call 17 [(.t 66), (.t 67), (.t 68), (.t 69)], some (65, true)⟩, ⟨some 71, .pick (.t 65) (.t 70) (.b false), none⟩, ⟨some 72, .mov (.t 71), none⟩, ⟨some 73, .mov (.t 13), some (72, true)⟩, ⟨some 74, .bini .neq (.t 73) (.c (.int .i64 (0))), some (72, true)⟩, ⟨some 75, .mov (.t 74), some (72, true)⟩, ⟨some 76, .mov (.t 12), some (75, false)⟩, ⟨some 77, .bini .geq (.t 76) (.c (.int .i64 (0))), some (75, false)⟩, ⟨some 78, .mov (.t 77), some (75, false)⟩, ⟨some 79, .mov (.t 12), some (78, true)⟩, ⟨some 80, .mov (.t 0), some (78, true)⟩, ⟨some 81, .len false (.t 80), some (78, true)⟩, ⟨some 82, .bini .lss (.t 79) (.t 81), some (78, true)⟩, ⟨some 83, .pick (.t 78) (.t 82) (.b false), some (75, false)⟩, ⟨some 84, .mov (.t 83), some (75, false)⟩, ⟨some 85, .fadr 1 (.t 9), some (84, true)⟩, ⟨some 86, .load false 1 (.t 85), some (84, true)⟩, ⟨some 87, .fadr 2 (.t 9), some (84, true)⟩, ⟨some 88, .load false 1 (.t 87), some (84, true)⟩, ⟨some 89, .mov (.t 0), some (84, true)⟩, ⟨some 90, .mov (.t 12), some (84, true)⟩, ⟨some 91, .iadr 4 (.t 89) (.t 90), some (84, true)⟩, ⟨some 92, .fadr 1 (.t 91), some (84, true)⟩, ⟨some 93, .load false 1 (.t 92), some (84, true)⟩, ⟨some 94, .mov (.t 0), some (84, true)⟩, ⟨some 95, .mov (.t 12), some (84, true)⟩, ⟨some 96, .iadr 4 (.t 94) (.t 95), some (84, true)⟩, ⟨some 97, .fadr 2 (.t 96), some (84, true)⟩, ⟨some 98, .load false 1 (.t 97), some (84, true)⟩, ⟨some 99, .call 19 [(.t 86), (.t 88), (.t 93), (.t 98)], some (84, true)⟩, ⟨some 100, .pick (.t 84) (.t 99) (.b false), some (75, false)⟩, ⟨some 101, .pick (.t 75) (.b true) (.t 100), some (72, true)⟩, ⟨some 102, .pick (.t 72) (.t 101) (.b false), none⟩, ⟨some 10, .mov (.t 102), none⟩])
 .ret)
 .skip))
 (.seq (.reg [⟨some 103, .call 16 [], none⟩, ⟨some 104, .mov (.t 103), none⟩, ⟨some 105, .mov (.t 12), some (104, true)⟩, ⟨some 106, .mov (.t 14), some (104, true)⟩, ⟨some 107, .bini .eql (.t 105) (.t 106), some (104, true)⟩, ⟨some 108, .pick (.t 104) (.t 107) (.b false), none⟩, ⟨some 109, .mov (.t 108), none⟩, ⟨some 110, .mov (.t 13), some (109, true)⟩, ⟨some 111, .mov (.t 15), some (109, true)⟩, ⟨some 112, .bini .eql (.t 110) (.t 111), some (109, true)⟩, ⟨some 113, .pick (.t 109) (.t 112) (.b false), none⟩, ⟨some 10, .mov (.t 113), none⟩])
 .ret)))))))))⟩
theorem t_hydrantlaw06_RoutesMore : trFn Try.prog 6 [[0, 1, 2, 3, 4, 5, 6, 7, 8, 9, 10, 11, 12, 13, 14, 15, 16, 17, 18, 19, 20, 21, 22, 23, 24, 25, 26, 27, 28, 29, 30, 31, 32, 33, 34, 35, 36, 37, 38, 39]] [] = some f_hydrantlaw06_RoutesMore := by kernel_rfl

abbrev n_hydrantlaw06_RoutesTwice : Nat := 7
theorem k_hydrantlaw06_RoutesTwice : FnOk Try.prog 7 := FnOk.of (by kernel_rfl)
/-- hydrant/hydrantlaw06.RoutesTwice -/
def f_hydrantlaw06_RoutesTwice : FnI := ⟨69, [.tmp 10],
 (.seq (.reg [⟨some 10, .mov (.b false), none⟩])
 (.seq (.seq (.reg [⟨some 16, .mov (.t 0), none⟩, ⟨some 17, .mov (.t 2), none⟩, ⟨some 18, .mov (.t 3), none⟩, ⟨some 19, .call 13 [(.t 16), (.t 17), (.t 18)], none⟩, ⟨some 20, .mov (.t 19), none⟩, ⟨some 21, .mov (.t 4), some (20, false)⟩, ⟨some 22, .bini .lss (.t 21) (.c (.int .i64 (0))), some (20, false)⟩, ⟨some 23, .pick (.t 20) (.b true) (.t 22), none⟩, ⟨some 24, .mov (.t 23), none⟩, ⟨some 25, .mov (.t 4), some (24, false)⟩, ⟨some 26, .mov (.t 0), some (24, false)⟩, ⟨some 27, .len false (.t 26), some (24, false)⟩, ⟨some 28, .bini .geq (.t 25) (.t 27), some (24, false)⟩, ⟨some 29, .pick (.t 24) (.b true) (.t 28), none⟩])
 (.cond (.t 29)
 (.seq (.reg [⟨some 30, .call 16 [], none⟩, ⟨some 10, .mov (.t 30), none⟩])
 .ret)
 .skip))
 (.seq (.reg [⟨some 31, .bsl 31 4 0 [] [], none⟩, ⟨some 11, .mov (.t 31), none⟩])
 (.seq (.reg [⟨some 32, .mov (.t 11), none⟩, ⟨some 33, .mov (.t 0), none⟩, ⟨some 34, .app 31 4 48 (.t 32) (.t 33), none⟩, ⟨some 11, .mov (.t 34), none⟩])
 (.seq (.reg [⟨some 35, .mov (.t 11), none⟩, ⟨some 36, .mov (.t 0), none⟩, ⟨some 37, .mov (.t 4), none⟩, ⟨some 38, .iadr 4 (.t 36) (.t 37), none⟩, ⟨some 39, .load true 4 (.t 38), none⟩, ⟨some 40, .bsl 31 4 1 [(.v (.int .i64 (0))), (.v (.string ⟨#[]⟩)), (.v (.string ⟨#[]⟩)), (.v (.int .i64 (0)))] [(0, 4, (.t 39))], none⟩, ⟨some 41, .app 31 4 48 (.t 35) (.t 40), none⟩, ⟨some 11, .mov (.t 41), none⟩])
 (.seq (.reg [⟨some 43, .mov (.t 0), none⟩, ⟨some 44, .mov (.t 1), none⟩, ⟨some 45, .mov (.t 2), none⟩, ⟨some 46, .mov (.t 3), none⟩, ⟨some 47, .call 14 [(.t 43), (.t 44), (.t 45), (.t 46)], none⟩, ⟨some 42, .mov (.t 47), none⟩, ⟨some 48, .ext 0 (.t 42), none⟩, ⟨some 49, .ext 1 (.t 42), none⟩, ⟨some 12, .mov (.t 48), none⟩, ⟨some 13, .mov (.t 49), none⟩])
 (.seq (.reg [⟨some 51, .mov (.t 11), none⟩, ⟨some 52, .mov (.t 1), none⟩, ⟨some 53, .mov (.t 2), none⟩, ⟨some 54, .mov (.t 3), none⟩, ⟨some 55, .call 14 [(.t 51), (.t 52), (.t 53), (.t 54)], none⟩, ⟨some 50, .mov (.t 55), none⟩, ⟨some 56, .ext 0 (.t 50), none⟩, ⟨some 57, .ext 1 (.t 50), none⟩, ⟨some 14, .mov (.t 56), none⟩, ⟨some 15, .mov (.t 57), none⟩])
 (.seq (.reg [⟨some 58, .call 16 [], none⟩, ⟨some 59, .mov (.t 58), none⟩, ⟨some 60, .mov (.t 12), some (59, true)⟩, ⟨some 61, .mov (.t 14), some (59, true)⟩, ⟨some 62, .bini .eql (.t 60) (.t 61), some (59, true)⟩, ⟨some 63, .pick (.t 59) (.t 62) (.b false), none⟩, ⟨some 64, .mov (.t 63), none⟩, ⟨some 65, .mov (.t 13), some (64, true)⟩, ⟨some 66, .mov (.t 15), some (64, true)⟩, ⟨some 67, .bini .eql (.t 65) (.t 66), some (64, true)⟩, ⟨some 68, .pick (.t 64) (.t 67) (.b false), none⟩, ⟨some 10, .mov (.t 68), none⟩])
 .ret))))))))⟩
theorem t_hydrantlaw06_RoutesTwice : trFn Try.prog 7 [] [] = some f_hydrantlaw06_RoutesTwice := by kernel_rfl

abbrev n_hydrantlaw05_ConfigChecks : Nat := 8
theorem k_hydrantlaw05_ConfigChecks : FnOk Try.prog 8 := FnOk.of (by kernel_rfl)
/-- hydrant/hydrantlaw05.ConfigChecks -/
def f_hydrantlaw05_ConfigChecks : FnI := ⟨30, [.tmp 2],
 (.seq (.reg [⟨some 1, .box 40 (.t 0), none⟩, ⟨some 2, .mov (.b false), none⟩])
 (.seq (.seq (.reg [⟨some 7, .load true 3 (.t 1), none⟩, ⟨some 8, .call 20 [(.t 7)], none⟩])
 (.cond (.t 8)
 (.seq (.reg [⟨some 2, .mov (.b true), none⟩])
 .ret)
 .skip))
 (.seq (.reg [⟨some 10, .load true 3 (.t 1), none⟩, ⟨some 11, .call 21 [(.t 10)], none⟩, ⟨some 9, .mov (.t 11), none⟩, ⟨some 12, .ext 0 (.t 9), none⟩, ⟨some 13, .ext 1 (.t 9), none⟩, ⟨some 3, .mov (.t 12), none⟩, ⟨some 4, .mov (.t 13), none⟩])
 (.seq (.reg [⟨some 15, .load true 3 (.t 1), none⟩, ⟨some 16, .call 22 [(.t 15)], none⟩, ⟨some 14, .mov (.t 16), none⟩, ⟨some 17, .ext 0 (.t 14), none⟩, ⟨some 18, .ext 1 (.t 14), none⟩, ⟨some 5, .mov (.t 17), none⟩, ⟨some 6, .mov (.t 18), none⟩])
 (.seq (.reg [⟨some 19, .call 23 [], none⟩, ⟨some 20, .mov (.t 19), none⟩, ⟨some 21, .mov (.t 3), some (20, true)⟩, ⟨some 22, .mov (.t 5), some (20, true)⟩, ⟨some 23, .bini .eql (.t 21) (.t 22), some (20, true)⟩, ⟨some 24, .pick (.t 20) (.t 23) (.b false), none⟩, ⟨some 25, .mov (.t 24), none⟩, ⟨some 26, .mov (.t 4), some (25, true)⟩, ⟨some 27, .mov (.t 6), some (25, true)⟩, ⟨some 28, .bini .eql (.t 26) (.t 27), some (25, true)⟩, ⟨some 29, .pick (.t 25) (.t 28) (.b false), none⟩, ⟨some 2, .mov (.t 29), none⟩])
 .ret)))))⟩
theorem t_hydrantlaw05_ConfigChecks : trFn Try.prog 8 [] [] = some f_hydrantlaw05_ConfigChecks := by kernel_rfl

abbrev n_hydrantlaw05_ConfigLess : Nat := 9
theorem k_hydrantlaw05_ConfigLess : FnOk Try.prog 9 := FnOk.of (by kernel_rfl)
/-- hydrant/hydrantlaw05.ConfigLess -/
def f_hydrantlaw05_ConfigLess : FnI := ⟨49, [.tmp 2],
 (.seq (.reg [⟨some 1, .box 40 (.t 0), none⟩, ⟨some 2, .mov (.b false), none⟩])
 (.seq (.reg [⟨some 9, .load true 3 (.t 1), none⟩, ⟨some 10, .call 21 [(.t 9)], none⟩, ⟨some 8, .mov (.t 10), none⟩, ⟨some 11, .ext 0 (.t 8), none⟩, ⟨some 12, .ext 1 (.t 8), none⟩, ⟨some 3, .mov (.t 11), none⟩, ⟨some 4, .mov (.t 12), none⟩])
 (.seq (.seq (.reg [⟨some 13, .load true 3 (.t 1), none⟩, ⟨some 14, .call 20 [(.t 13)], none⟩, ⟨some 15, .mov (.t 14), none⟩, ⟨some 16, .mov (.t 3), some (15, false)⟩, ⟨some 17, .bini .neq (.t 16) (.c (.int .i64 (0))), some (15, false)⟩, ⟨some 18, .pick (.t 15) (.b true) (.t 17), none⟩, ⟨some 19, .mov (.t 18), none⟩, ⟨some 20, .fadr 1 (.t 1), some (19, false)⟩, ⟨some 21, .load false 1 (.t 20), some (19, false)⟩, ⟨some 22, .len false (.t 21), some (19, false)⟩, ⟨some 23, .bini .lss (.t 22) (.c (.int .i64 (2))), some (19, false)⟩, ⟨some 24, .pick (.t 19) (.b true) (.t 23), none⟩])
 (.cond (.t 24)
 (.seq (.reg [⟨some 25, .call 23 [], none⟩, ⟨some 2, .mov (.t 25), none⟩])
 .ret)
 .skip))
 (.seq (.reg [⟨some 26, .load true 3 (.t 1), none⟩, ⟨some 5, .alloc 40 [(.v (.slice none 0 0)), (.v (.slice none 0 0)), (.v (.slice none 0 0))], none⟩, ⟨none, .store 3 (.t 5) (.t 26), none⟩])
 (.seq (.reg [⟨some 27, .fadr 1 (.t 1), none⟩, ⟨some 28, .load false 1 (.t 27), none⟩, ⟨some 29, .fadr 1 (.t 1), none⟩, ⟨some 30, .load false 1 (.t 29), none⟩, ⟨some 31, .len false (.t 30), none⟩, ⟨some 32, .bini .sub (.t 31) (.c (.int .i64 (1))), none⟩, ⟨some 33, .slc 4 (.t 28) none (some (.t 32)) none, none⟩, ⟨some 34, .fadr 1 (.t 5), none⟩, ⟨none, .store 1 (.t 34) (.t 33), none⟩])
 (.seq (.reg [⟨some 36, .load true 3 (.t 5), none⟩, ⟨some 37, .call 21 [(.t 36)], none⟩, ⟨some 35, .mov (.t 37), none⟩, ⟨some 38, .ext 0 (.t 35), none⟩, ⟨some 39, .ext 1 (.t 35), none⟩, ⟨some 6, .mov (.t 38), none⟩, ⟨some 7, .mov (.t 39), none⟩])
 (.seq (.reg [⟨some 40, .call 23 [], none⟩, ⟨some 41, .mov (.t 40), none⟩, ⟨some 42, .mov (.t 6), some (41, true)⟩, ⟨some 43, .bini .eql (.t 42) (.c (.int .i64 (0))), some (41, true)⟩, ⟨some 44, .pick (.t 41) (.t 43) (.b false), none⟩, ⟨some 45, .mov (.t 44), none⟩, ⟨some 46, .mov (.t 7), some (45, true)⟩, ⟨some 47, .bini .eql (.t 46) (.c (.int .i64 (0))), some (45, true)⟩, ⟨some 48, .pick (.t 45) (.t 47) (.b false), none⟩, ⟨some 2, .mov (.t 48), none⟩])
 .ret)))))))⟩
theorem t_hydrantlaw05_ConfigLess : trFn Try.prog 9 [] [] = some f_hydrantlaw05_ConfigLess := by kernel_rfl

abbrev n_hydrantlaw05_ConfigOrder : Nat := 10
theorem k_hydrantlaw05_ConfigOrder : FnOk Try.prog 10 := FnOk.of (by kernel_rfl)
/-- hydrant/hydrantlaw05.ConfigOrder -/
def f_hydrantlaw05_ConfigOrder : FnI := ⟨98, [.tmp 2],
 (.seq (.reg [⟨some 1, .box 40 (.t 0), none⟩, ⟨some 2, .mov (.b false), none⟩])
 (.seq (.seq (.reg [⟨some 11, .load true 3 (.t 1), none⟩, ⟨some 12, .call 20 [(.t 11)], none⟩])
 (.cond (.t 12)
 (.seq (.reg [⟨some 2, .mov (.b true), none⟩])
 .ret)
 .skip))
 (.seq (.reg [⟨some 13, .build [(.v (.slice none 0 0)), (.v (.slice none 0 0)), (.v (.slice none 0 0))] [], none⟩, ⟨some 3, .alloc 40 [(.v (.slice none 0 0)), (.v (.slice none 0 0)), (.v (.slice none 0 0))], none⟩, ⟨none, .store 3 (.t 3) (.t 13), none⟩])
 (.seq (.seq (.reg [⟨some 14, .fadr 0 (.t 1), none⟩, ⟨some 15, .load false 1 (.t 14), none⟩, ⟨some 16, .len false (.t 15), none⟩, ⟨some 17, .bini .sub (.t 16) (.c (.int .i64 (1))), none⟩, ⟨some 4, .mov (.t 17), none⟩])
 (.block 0
 (.loop [4] [18, 19, 22, 23, 24, 25, 26, 27, 28, 29, 30, 31, 20, 21, 4]
 (.seq (.seq (.reg [⟨some 18, .mov (.t 4), none⟩, ⟨some 19, .bini .geq (.t 18) (.c (.int .i64 (0))), none⟩])
 (.cond (.t 19)
 .skip
 (.exit 0)))
 (.seq (.block 1
 (.regD [⟨some 22, .fadr 0 (.t 3), none⟩, ⟨some 23, .load false 1 (.t 22), none⟩, ⟨some 24, .fadr 0 (.t 1), none⟩, ⟨some 25, .load false 1 (.t 24), none⟩, ⟨some 26, .mov (.t 4), none⟩, ⟨some 27, .iadr 1 (.t 25) (.t 26), none⟩, ⟨some 28, .load false 1 (.t 27), none⟩, ⟨some 29, .bsl 9 1 1 [(.v (.string ⟨#[]⟩))] [(0, 1, (.t 28))], none⟩, ⟨some 30, .app 9 1 16 (.t 23) (.t 29), none⟩, ⟨some 31, .fadr 0 (.t 3), none⟩, ⟨none, .store 1 (.t 31) (.t 30), none⟩]))
 (.reg [⟨some 20, .mov (.t 4), none⟩, ⟨some 21, .bini .sub (.t 20) (.c (.int .i64 (1))), none⟩, ⟨some 4, .mov (.t 21), none⟩]))))))
 (.seq (.seq (.reg [⟨some 32, .fadr 2 (.t 1), none⟩, ⟨some 33, .load false 1 (.t 32), none⟩, ⟨some 34, .len false (.t 33), none⟩, ⟨some 35, .bini .sub (.t 34) (.c (.int .i64 (1))), none⟩, ⟨some 5, .mov (.t 35), none⟩])
 (.block 2
 (.loop [5] [36, 37, 40, 41, 42, 43, 44, 45, 46, 47, 48, 49, 38, 39, 5]
 (.seq (.seq (.reg [⟨some 36, .mov (.t 5), none⟩, ⟨some 37, .bini .geq (.t 36) (.c (.int .i64 (0))), none⟩])
 (.cond (.t 37)
 .skip
 (.exit 2)))
 (.seq (.block 3
 (.regD [⟨some 40, .fadr 2 (.t 3), none⟩, ⟨some 41, .load false 1 (.t 40), none⟩, ⟨some 42, .fadr 2 (.t 1), none⟩, ⟨some 43, .load false 1 (.t 42), none⟩, ⟨some 44, .mov (.t 5), none⟩, ⟨some 45, .iadr 4 (.t 43) (.t 44), none⟩, ⟨some 46, .load true 4 (.t 45), none⟩, ⟨some 47, .bsl 46 4 1 [(.v (.string ⟨#[]⟩)), (.v (.int .i64 (0))), (.v (.int .i64 (0))), (.v (.slice none 0 0))] [(0, 4, (.t 46))], none⟩, ⟨some 48, .app 46 4 56 (.t 41) (.t 47), none⟩, ⟨some 49, .fadr 2 (.t 3), none⟩, ⟨none, .store 1 (.t 49) (.t 48), none⟩]))
 (.reg [⟨some 38, .mov (.t 5), none⟩, ⟨some 39, .bini .sub (.t 38) (.c (.int .i64 (1))), none⟩, ⟨some 5, .mov (.t 39), none⟩]))))))
 (.seq (.seq (.reg [⟨some 50, .fadr 1 (.t 1), none⟩, ⟨some 51, .load false 1 (.t 50), none⟩, ⟨some 52, .len false (.t 51), none⟩, ⟨some 53, .bini .sub (.t 52) (.c (.int .i64 (1))), none⟩, ⟨some 6, .mov (.t 53), none⟩])
 (.block 4
 (.loop [6] [54, 55, 58, 59, 60, 61, 62, 63, 64, 65, 66, 67, 56, 57, 6]
 (.seq (.seq (.reg [⟨some 54, .mov (.t 6), none⟩, ⟨some 55, .bini .geq (.t 54) (.c (.int .i64 (0))), none⟩])
 (.cond (.t 55)
 .skip
 (.exit 4)))
 (.seq (.block 5
 (.regD [⟨some 58, .fadr 1 (.t 3), none⟩, ⟨some 59, .load false 1 (.t 58), none⟩, ⟨some 60, .fadr 1 (.t 1), none⟩, ⟨some 61, .load false 1 (.t 60), none⟩, ⟨some 62, .mov (.t 6), none⟩, ⟨some 63, .iadr 4 (.t 61) (.t 62), none⟩, ⟨some 64, .load true 4 (.t 63), none⟩, ⟨some 65, .bsl 48 4 1 [(.v (.string ⟨#[]⟩)), (.v (.string ⟨#[]⟩)), (.v (.string ⟨#[]⟩)), (.v (.string ⟨#[]⟩))] [(0, 4, (.t 64))], none⟩, ⟨some 66, .app 48 4 64 (.t 59) (.t 65), none⟩, ⟨some 67, .fadr 1 (.t 3), none⟩, ⟨none, .store 1 (.t 67) (.t 66), none⟩]))
 (.reg [⟨some 56, .mov (.t 6), none⟩, ⟨some 57, .bini .sub (.t 56) (.c (.int .i64 (1))), none⟩, ⟨some 6, .mov (.t 57), none⟩]))))))
 (.seq (.reg [⟨some 69, .load true 3 (.t 1), none⟩, ⟨some 70, .call 21 [(.t 69)], none⟩, ⟨some 68, .mov (.t 70), none⟩, ⟨some 71, .ext 0 (.t 68), none⟩, ⟨some 72, .ext 1 (.t 68), none⟩, ⟨some 7, .mov (.t 71), none⟩, ⟨some 8, .mov (.t 72), none⟩])
 (.seq (.reg [⟨some 74, .load true 3 (.t 3), none⟩, ⟨some 75, .call 21 [(.t 74)], none⟩, ⟨some 73, .mov (.t 75), none⟩, ⟨some 76, .ext 0 (.t 73), none⟩, ⟨some 77, .ext 1 (.t 73), none⟩, ⟨some 9, .mov (.t 76), none⟩, ⟨some 10, .mov (.t 77), none⟩])
 (.seq (.reg [⟨some 78, .call 23 [], none⟩, ⟨some 79, .mov (.t 78), none⟩, ⟨some 80, .mov (.t 7), some (79, true)⟩, ⟨some 81, .bini .eql (.t 80) (.c (.int .i64 (0))), some (79, true)⟩, ⟨some 82, .mov (.t 9), some (79, true)⟩, ⟨some 83, .bini .eql (.t 82) (.c (.int .i64 (0))), some (79, true)⟩, ⟨some 84, .binb false (.t 81) (.t 83), some (79, true)⟩, ⟨some 85, .pick (.t 79) (.t 84) (.b false), none⟩, ⟨some 86, .mov (.t 85), none⟩, ⟨some 87, .mov (.t 7), some (86, true)⟩, ⟨some 88, .bini .neq (.t 87) (.c (.int .i64 (0))), some (86, true)⟩, ⟨some 89, .mov (.t 88), some (86, true)⟩, ⟨some 90, .mov (.t 8), some (89, false)⟩, ⟨some 91, .bini .eql (.t 90) (.c (.int .i64 (0))), some (89, false)⟩, ⟨some 92, .mov (.t 91), some (89, false)⟩, ⟨some 93, .mov (.t 10), some (92, true)⟩, ⟨some 94, .bini .eql (.t 93) (.c (.int .i64 (0))), some (92, true)⟩, ⟨some 95, .pick (.t 92) (.t 94) (.b false), some (89, false)⟩, ⟨some 96, .pick (.t 89) (.b true) (.t 95), some (86, true)⟩, ⟨some 97, .pick (.t 86) (.t 96) (.b false), none⟩, ⟨some 2, .mov (.t 97), none⟩])
 .ret)))))))))⟩
theorem t_hydrantlaw05_ConfigOrder : trFn Try.prog 10 [[0, 1, 2, 3, 4, 5, 6, 7, 8, 9, 10], [0, 1, 2, 3, 4, 5, 6, 7, 8, 9, 10], [0, 1, 2, 3, 4, 5, 6, 7, 8, 9, 10]] [[4], [5], [6]] = some f_hydrantlaw05_ConfigOrder := by kernel_rfl

abbrev n_hydrantlaw05_ConfigTwice : Nat := 11
theorem k_hydrantlaw05_ConfigTwice : FnOk Try.prog 11 := FnOk.of (by kernel_rfl)
/-- hydrant/hydrantlaw05.ConfigTwice -/
def f_hydrantlaw05_ConfigTwice : FnI := ⟨125, [.tmp 4],
 (.seq (.reg [⟨some 2, .box 40 (.t 0), none⟩, ⟨some 4, .mov (.b false), none⟩])
 (.seq (.reg [⟨some 14, .load true 3 (.t 2), none⟩, ⟨some 15, .call 21 [(.t 14)], none⟩, ⟨some 13, .mov (.t 15), none⟩, ⟨some 16, .ext 0 (.t 13), none⟩, ⟨some 17, .ext 1 (.t 13), none⟩, ⟨some 5, .mov (.t 16), none⟩, ⟨some 6, .mov (.t 17), none⟩])
 (.seq (.seq (.reg [⟨some 18, .load true 3 (.t 2), none⟩, ⟨some 19, .call 20 [(.t 18)], none⟩, ⟨some 20, .mov (.t 19), none⟩, ⟨some 21, .mov (.t 5), some (20, false)⟩, ⟨some 22, .bini .neq (.t 21) (.c (.int .i64 (0))), some (20, false)⟩, ⟨some 23, .pick (.t 20) (.b true) (.t 22), none⟩])
 (.cond (.t 23)
 (.seq (.reg [⟨some 24, .call 23 [], none⟩, ⟨some 4, .mov (.t 24), none⟩])
 .ret)
 .skip))
 (.seq (.reg [⟨some 25, .load true 3 (.t 2), none⟩, ⟨some 7, .alloc 40 [(.v (.slice none 0 0)), (.v (.slice none 0 0)), (.v (.slice none 0 0))], none⟩, ⟨none, .store 3 (.t 7) (.t 25), none⟩])
 (.seq (.reg [⟨some 26, .bsl 9 1 0 [] [], none⟩, ⟨some 27, .fadr 0 (.t 7), none⟩, ⟨none, .store 1 (.t 27) (.t 26), none⟩])
 (.seq (.reg [⟨some 28, .fadr 0 (.t 7), none⟩, ⟨some 29, .load false 1 (.t 28), none⟩, ⟨some 30, .fadr 0 (.t 2), none⟩, ⟨some 31, .load false 1 (.t 30), none⟩, ⟨some 32, .app 9 1 16 (.t 29) (.t 31), none⟩, ⟨some 33, .fadr 0 (.t 7), none⟩, ⟨none, .store 1 (.t 33) (.t 32), none⟩])
 (.seq (.regD [⟨some 34, .fadr 0 (.t 7), none⟩, ⟨some 35, .load false 1 (.t 34), none⟩, ⟨some 36, .fadr 0 (.t 2), none⟩, ⟨some 37, .load false 1 (.t 36), none⟩, ⟨some 38, .iadr 1 (.t 37) (.c (.int .i64 (0))), none⟩, ⟨some 39, .load false 1 (.t 38), none⟩, ⟨some 40, .bsl 9 1 1 [(.v (.string ⟨#[]⟩))] [(0, 1, (.t 39))], none⟩, ⟨some 41, .app 9 1 16 (.t 35) (.t 40), none⟩, ⟨some 42, .fadr 0 (.t 7), none⟩, ⟨none, .store 1 (.t 42) (.t 41), none⟩])
 (.seq (.reg [⟨some 44, .load true 3 (.t 7), none⟩, ⟨some 45, .call 21 [(.t 44)], none⟩, ⟨some 43, .mov (.t 45), none⟩, ⟨some 46, .ext 0 (.t 43), none⟩, ⟨some 47, .ext 1 (.t 43), none⟩, ⟨some 8, .mov (.t 46), none⟩, ⟨some 9, .mov (.t 47), none⟩])
 (.seq (.reg [⟨some 48, .load true 3 (.t 2), none⟩, ⟨some 10, .alloc 40 [(.v (.slice none 0 0)), (.v (.slice none 0 0)), (.v (.slice none 0 0))], none⟩, ⟨none, .store 3 (.t 10) (.t 48), none⟩])
 (.seq (.reg [⟨some 49, .bsl 48 4 0 [] [], none⟩, ⟨some 50, .fadr 1 (.t 10), none⟩, ⟨none, .store 1 (.t 50) (.t 49), none⟩])
 (.seq (.reg [⟨some 51, .fadr 1 (.t 10), none⟩, ⟨some 52, .load false 1 (.t 51), none⟩, ⟨some 53, .fadr 1 (.t 2), none⟩, ⟨some 54, .load false 1 (.t 53), none⟩, ⟨some 55, .app 48 4 64 (.t 52) (.t 54), none⟩, ⟨some 56, .fadr 1 (.t 10), none⟩, ⟨none, .store 1 (.t 56) (.t 55), none⟩])
 (.seq (.seq (.reg [⟨some 57, .mov (.t 1), none⟩, ⟨some 58, .bini .lss (.t 57) (.c (.int .i64 (0))), none⟩, ⟨some 59, .mov (.t 58), none⟩, ⟨some 60, .mov (.t 1), some (59, false)⟩, ⟨some 61, .fadr 1 (.t 2), some (59, false)⟩, ⟨some 62, .load false 1 (.t 61), some (59, false)⟩, ⟨some 63, .len false (.t 62), some (59, false)⟩, ⟨some 64, .bini .geq (.t 60) (.t 63), some (59, false)⟩, ⟨some 65, .pick (.t 59) (.b true) (.t 64), none⟩])
 (.cond (.t 65)
 (.seq (.reg [⟨some 66, .call 23 [], none⟩, ⟨some 67, .mov (.t 66), none⟩, ⟨some 68, .fadr 0 (.t 2), some (67, true)⟩, ⟨some 69, .load false 1 (.t 68), some (67, true)⟩, ⟨some 70, .len false (.t 69), some (67, true)⟩, ⟨some 71, .bini .eql (.t 70) (.c (.int .i64 (4))), some (67, true)⟩, ⟨some 72, .mov (.t 71), some (67, true)⟩, ⟨some 73, .mov (.t 8), some (72, true)⟩, ⟨some 74, .bini .eql (.t 73) (.c (.int .i64 (6))), some (72, true)⟩, ⟨some 75, .pick (.t 72) (.t 74) (.b false), some (67, true)⟩, ⟨some 76, .mov (.t 75), some (67, true)⟩, ⟨some 77, .mov (.t 8), some (76, false)⟩, ⟨some 78, .bini .eql (.t 77) (.c (.int .i64 (4))), some (76, false)⟩, ⟨some 79, .mov (.t 78), some (76, false)⟩, ⟨some 80, .mov (.t 9), some (79, true)⟩, ⟨some 81, .fadr 0 (.t 2), some (79, true)⟩, ⟨some 82, .load false 1 (.t 81), some (79, true)⟩, ⟨some 83, .len false (.t 82), some (79, true)⟩, ⟨some 84, .bini .eql (.t 80) (.t 83), some (79, true)⟩, ⟨some 85, .pick (.t 79) (.t 84) (.b false), some (76, false)⟩, ⟨some 86, .pick (.t 76) (.b true) (.t 85), some (67, true)⟩, ⟨some 87, .pick (.t 67) (.t 86) (.b false), none⟩, ⟨some 4, .mov (.t 87), none⟩])
 .ret)
 .skip))
 (.seq (.regD [⟨some 88, .fadr 1 (.t 10), none⟩, ⟨some 89, .load false 1 (.t 88), none⟩, ⟨some 90, .fadr 1 (.t 2), none⟩, ⟨some 91, .load false 1 (.t 90), none⟩, ⟨some 92, .mov (.t 1), none⟩, ⟨some 93, .iadr 4 (.t 91) (.t 92), none⟩, ⟨some 94, .load true 4 (.t 93), none⟩, ⟨some 95, .bsl 48 4 1 [(.v (.string ⟨#[]⟩)), (.v (.string ⟨#[]⟩)), (.v (.string ⟨#[]⟩)), (.v (.string ⟨#[]⟩))] [(0, 4, (.t 94))], none⟩, ⟨some 96, .app 48 4 64 (.t 89) (.t 95), none⟩, ⟨some 97, .fadr 1 (.t 10), none⟩, ⟨none, .store 1 (.t 97) (.t 96), none⟩])
 (.seq (.reg [⟨some 99, .load true 3 (.t 10), none⟩, ⟨some 100, .call 21 [(.t 99)], none⟩, ⟨some 98, .mov (.t 100), none⟩, ⟨some 101, .ext 0 (.t 98), none⟩, ⟨some 102, .ext 1 (.t 98), none⟩, ⟨some 11, .mov (.t 101), none⟩, ⟨some 12, .mov (.t 102), none⟩])
 (.seq (.reg [⟨some 103, .call 23 [], none⟩, ⟨some 104, .mov (.t 103), none⟩, ⟨some 105, .fadr 1 (.t 2), some (104, true)⟩, ⟨some 106, .load false 1 (.t 105), some (104, true)⟩, ⟨some 107, .len false (.t 106), some (104, true)⟩, ⟨some 108, .bini .eql (.t 107) (.c (.int .i64 (8))), some (104, true)⟩, ⟨some 109, .mov (.t 108), some (104, true)⟩, ⟨some 110, .mov (.t 11), some (109, true)⟩, ⟨some 111, .bini .eql (.t 110) (.c (.int .i64 (6))), some (109, true)⟩, ⟨some 112, .pick (.t 109) (.t 111) (.b false), some (104, true)⟩, ⟨some 113, .mov (.t 112), some (104, true)⟩, ⟨some 114, .mov (.t 11), some (113, false)⟩, ⟨some 115, .bini .eql (.t 114) (.c (.int .i64 (4))), some (113, false)⟩, ⟨some 116, .mov (.t 115), some (113, false)⟩, ⟨some 117, .mov (.t 12), some (116, true)⟩, ⟨some 118, .fadr 1 (.t 2), some (116, true)⟩, ⟨some 119, .load false 1 (.t 118), some (116, true)⟩, ⟨some 120, .len false (.t 119), some (116, true)⟩, ⟨some 121, .bini .eql (.t 117) (.t 120), some (116, true)⟩, ⟨some 122, .pick (.t 116) (.t 121) (.b false), some (113, false)⟩, ⟨some 123, .pick (.t 113) (.b true) (.t 122), some (104, true)⟩, ⟨some 124, .pick (.t 104) (.t 123) (.b false), none⟩, ⟨some 4, .mov (.t 124), none⟩])
 .ret)))))))))))))))⟩
theorem t_hydrantlaw05_ConfigTwice : trFn Try.prog 11 [[0, 1, 2, 3, 4, 5, 6, 7, 8, 9], [0, 1, 2, 3, 4, 5, 6, 7, 8, 9, 10]] [] = some f_hydrantlaw05_ConfigTwice := by kernel_rfl

abbrev n_hydrantlaw05_ConfigParts : Nat := 12
theorem k_hydrantlaw05_ConfigParts : FnOk Try.prog 12 := FnOk.of (by kernel_rfl)
/-- hydrant/hydrantlaw05.ConfigParts -/
def f_hydrantlaw05_ConfigParts : FnI := ⟨122, [.tmp 2],
 (.seq (.reg [⟨some 1, .box 40 (.t 0), none⟩, ⟨some 2, .mov (.b false), none⟩])
 (.seq (.reg [⟨some 10, .load true 3 (.t 1), none⟩, ⟨some 11, .call 21 [(.t 10)], none⟩, ⟨some 9, .mov (.t 11), none⟩, ⟨some 12, .ext 0 (.t 9), none⟩, ⟨some 13, .ext 1 (.t 9), none⟩, ⟨some 3, .mov (.t 12), none⟩, ⟨some 4, .mov (.t 13), none⟩])
 (.seq (.seq (.reg [⟨some 14, .load true 3 (.t 1), none⟩, ⟨some 15, .call 20 [(.t 14)], none⟩, ⟨some 16, .mov (.t 15), none⟩, ⟨some 17, .mov (.t 3), some (16, false)⟩, ⟨some 18, .bini .neq (.t 17) (.c (.int .i64 (0))), some (16, false)⟩, ⟨some 19, .pick (.t 16) (.b true) (.t 18), none⟩])
 (.cond (.t 19)
 (.seq (.reg [⟨some 20, .call 23 [], none⟩, ⟨some 2, .mov (.t 20), none⟩])
 .ret)
 .skip))
 (.seq (.seq (.reg [⟨some 5, .mov (.c (.int .i64 (0))), none⟩])
 (.block 0
 (.loop [5] [21, 22, 23, 24, 25, 28, 29, 30, 31, 32, 6, 33, 34, 35, 36, 37, 38, 39, 40, 41, 42, 43, 44, 45, 46, 47, 48, 49, 50, 51, 52, 53, 54, 55, 56, 57, 58, 2, 26, 27, 5]
 (.seq (.seq (.reg [⟨some 21, .mov (.t 5), none⟩, ⟨some 22, .fadr 1 (.t 1), none⟩, ⟨some 23, .load false 1 (.t 22), none⟩, ⟨some 24, .len false (.t 23), none⟩, ⟨some 25, .bini .lss (.t 21) (.t 24), none⟩])
 (.cond (.t 25)
 .skip
 (.exit 0)))
 (.seq (.block 1
 (.seq (.reg [⟨some 28, .fadr 1 (.t 1), none⟩, ⟨some 29, .load false 1 (.t 28), none⟩, ⟨some 30, .mov (.t 5), none⟩, ⟨some 31, .iadr 4 (.t 29) (.t 30), none⟩, ⟨some 32, .load true 4 (.t 31), none⟩, ⟨some 6, .alloc 48 [(.v (.string ⟨#[]⟩)), (.v (.string ⟨#[]⟩)), (.v (.string ⟨#[]⟩)), (.v (.string ⟨#[]⟩))], none⟩, ⟨none, .store 4 (.t 6) (.t 32), none⟩])
 (.seq (.reg [⟨some 33, .fadr 0 (.t 1), none⟩, ⟨some 34, .load false 1 (.t 33), none⟩, ⟨some 35, .fadr 0 (.t 6), none⟩, ⟨some 36, .load false 1 (.t 35), none⟩, ⟨some 37, .call 24 [(.t 34), (.t 36)], none⟩, ⟨some 38, .bini .lss (.t 37) (.c (.int .i64 (0))), none⟩, ⟨some 39, .mov (.t 38), none⟩, ⟨some 40, .fadr 2 (.t 1), some (39, false)⟩, ⟨some 41, .load false 1 (.t 40), some (39, false)⟩, ⟨some 42, .fadr 3 (.t 6), some (39, false)⟩, ⟨some 43, .load false 1 (.t 42), some (39, false)⟩, ⟨some 44, .call 25 [(.t 41), (.t 43)], some (39, false)⟩, ⟨some 45, .bini .lss (.t 44) (.c (.int .i64 (0))), some (39, false)⟩, ⟨some 46, .pick (.t 39) (.b true) (.t 45), none⟩, ⟨some 47, .mov (.t 46), none⟩, ⟨some 48, .fadr 1 (.t 6), some (47, false)⟩, ⟨some 49, .load false 1 (.t 48), some (47, false)⟩, ⟨some 50, .call 26 [(.t 49)], some (47, false)⟩, ⟨some 51, .not (.t 50), some (47, false)⟩, ⟨some 52, .pick (.t 47) (.b true) (.t 51), none⟩, ⟨some 53, .mov (.t 52), none⟩, ⟨some 54, .fadr 2 (.t 6), some (53, false)⟩, ⟨some 55, .load false 1 (.t 54), some (53, false)⟩, ⟨some 56, .call 27 [(.t 55)], some (53, false)⟩, ⟨some 57, .not (.t 56), some (53, false)⟩, ⟨some 58, .pick (.t 53) (.b true) (.t 57), none⟩])
 (.cond (.t 58)
 (.seq (.reg [⟨some 2, .mov (.b false), none⟩])
 .ret)
 .skip))))
 (.reg [⟨some 26, .mov (.t 5), none⟩, ⟨some 27, .bini .add (.t 26) (.c (.int .i64 (1))), none⟩, ⟨some 5, .mov (.t 27), none⟩]))))))
 (.seq (.seq (.reg [⟨some 7, .mov (.c (.int .i64 (0))), none⟩])
 (.block 2
 (.loop [7] [59, 60, 61, 62, 63, 66, 67, 68, 69, 70, 8, 71, 72, 73, 74, 75, 76, 77, 78, 79, 80, 81, 82, 83, 84, 85, 86, 87, 88, 89, 90, 91, 92, 93, 94, 95, 96, 2, 64, 65, 7]
 (.seq (.seq (.reg [⟨some 59, .mov (.t 7), none⟩, ⟨some 60, .fadr 2 (.t 1), none⟩, ⟨some 61, .load false 1 (.t 60), none⟩, ⟨some 62, .len false (.t 61), none⟩, ⟨some 63, .bini .lss (.t 59) (.t 62), none⟩])
 (.cond (.t 63)
 .skip
 (.exit 2)))
 (.seq (.block 3
 (.seq (.reg [⟨some 66, .fadr 2 (.t 1), none⟩, ⟨some 67, .load false 1 (.t 66), none⟩, ⟨some 68, .mov (.t 7), none⟩, ⟨some 69, .iadr 4 (.t 67) (.t 68), none⟩, ⟨some 70, .load true 4 (.t 69), none⟩, ⟨some 8, .alloc 46 [(.v (.string ⟨#[]⟩)), (.v (.int .i64 (0))), (.v (.int .i64 (0))), (.v (.slice none 0 0))], none⟩, ⟨none, .store 4 (.t 8) (.t 70), none⟩])
 (.seq (.reg [⟨some 71, .fadr 0 (.t 8), none⟩, ⟨some 72, .load false 1 (.t 71), none⟩, ⟨some 73, .call 28 [(.t 72)], none⟩, ⟨some 74, .not (.t 73), none⟩, ⟨some 75, .mov (.t 74), none⟩, ⟨some 76, .fadr 2 (.t 8), some (75, false)⟩, ⟨some 77, .load false 1 (.t 76), some (75, false)⟩, ⟨some 78, .bini .lss (.t 77) (.c (.int .i64 (1))), some (75, false)⟩, ⟨some 79, .pick (.t 75) (.b true) (.t 78), none⟩, ⟨some 80, .mov (.t 79), none⟩, ⟨some 81, .fadr 2 (.t 8), some (80, false)⟩, ⟨some 82, .load false 1 (.t 81), some (80, false)⟩, ⟨some 83, .bini .gtr (.t 82) (.c (.int .i64 (4))), some (80, false)⟩, ⟨some 84, .pick (.t 80) (.b true) (.t 83), none⟩, ⟨some 85, .mov (.t 84), none⟩, ⟨some 86, .fadr 3 (.t 8), some (85, false)⟩, ⟨some 87, .load false 1 (.t 86), some (85, false)⟩, ⟨some 88, .len false (.t 87), some (85, false)⟩, ⟨some 89, .bini .lss (.t 88) (.c (.int .i64 (1))), some (85, false)⟩, ⟨some 90, .pick (.t 85) (.b true) (.t 89), none⟩, ⟨some 91, .mov (.t 90), none⟩, ⟨some 92, .fadr 3 (.t 8), some (91, false)⟩, ⟨some 93, .load false 1 (.t 92), some (91, false)⟩, ⟨some 94, .len false (.t 93), some (91, false)⟩, ⟨some 95, .bini .gtr (.t 94) (.c (.int .i64 (4))), some (91, false)⟩, ⟨some 96, .pick (.t 91) (.b true) (.t 95), none⟩])
 (.cond (.t 96)
 (.seq (.reg [⟨some 2, .mov (.b false), none⟩])
 .ret)
 .skip))))
 (.reg [⟨some 64, .mov (.t 7), none⟩, ⟨some 65, .bini .add (.t 64) (.c (.int .i64 (1))), none⟩, ⟨some 7, .mov (.t 65), none⟩]))))))
 (.seq (.reg [⟨some 97, .call 23 [], none⟩, ⟨some 98, .mov (.t 97), none⟩, ⟨some 99, .fadr 0 (.t 1), some (98, true)⟩, ⟨some 100, .load false 1 (.t 99), some (98, true)⟩, ⟨some 101, .len false (.t 100), some (98, true)⟩, ⟨some 102, .bini .geq (.t 101) (.c (.int .i64 (1))), some (98, true)⟩, ⟨some 103, .pick (.t 98) (.t 102) (.b false), none⟩, ⟨some 104, .mov (.t 103), none⟩, ⟨some 105, .fadr 0 (.t 1), some (104, true)⟩, ⟨some 106, .load false 1 (.t 105), some (104, true)⟩, ⟨some 107, .len false (.t 106), some (104, true)⟩, ⟨some 108, .bini .leq (.t 107) (.c (.int .i64 (4))), some (104, true)⟩, ⟨some 109, .pick (.t 104) (.t 108) (.b false), none⟩, ⟨some 110, .mov (.t 109), none⟩, ⟨some 111, .fadr 1 (.t 1), some (110, true)⟩, ⟨some 112, .load false 1 (.t 111), some (110, true)⟩, ⟨some 113, .len false (.t 112), some (110, true)⟩, ⟨some 114, .bini .geq (.t 113) (.c (.int .i64 (1))), some (110, true)⟩, ⟨some 115, .pick (.t 110) (.t 114) (.b false), none⟩, ⟨some 116, .mov (.t 115), none⟩, ⟨some 117, .fadr 1 (.t 1), some (116, true)⟩, ⟨some 118, .load false 1 (.t 117), some (116, true)⟩, ⟨some 119, .len false (.t 118), some (116, true)⟩, ⟨some 120, .bini .leq (.t 119) (.c (.int .i64 (8))), some (116, true)⟩, ⟨some 121, .pick (.t 116) (.t 120) (.b false), none⟩, ⟨some 2, .mov (.t 121), none⟩])
 .ret))))))⟩
theorem t_hydrantlaw05_ConfigParts : trFn Try.prog 12 [] [[5], [7]] = some f_hydrantlaw05_ConfigParts := by kernel_rfl

abbrev n_hydrantlaw06_long : Nat := 13
theorem k_hydrantlaw06_long : FnOk Try.prog 13 := FnOk.of (by kernel_rfl)
/-- hydrant/hydrantlaw06.long -/
def f_hydrantlaw06_long : FnI := ⟨19, [.tmp 6],
 (.seq (.reg [⟨some 6, .mov (.b false), none⟩])
 (.seq (.reg [⟨some 7, .mov (.t 0), none⟩, ⟨some 8, .call 29 [(.t 7)], none⟩, ⟨some 9, .mov (.t 8), none⟩, ⟨some 10, .mov (.t 1), some (9, false)⟩, ⟨some 11, .len true (.t 10), some (9, false)⟩, ⟨some 12, .bini .gtr (.t 11) (.c (.int .i64 (100))), some (9, false)⟩, ⟨some 13, .pick (.t 9) (.b true) (.t 12), none⟩, ⟨some 14, .mov (.t 13), none⟩, ⟨some 15, .mov (.t 2), some (14, false)⟩, ⟨some 16, .len true (.t 15), some (14, false)⟩, ⟨some 17, .bini .gtr (.t 16) (.c (.int .i64 (100))), some (14, false)⟩, ⟨some 18, .pick (.t 14) (.b true) (.t 17), none⟩, ⟨some 6, .mov (.t 18), none⟩])
 .ret))⟩
theorem t_hydrantlaw06_long : trFn Try.prog 13 [] [] = some f_hydrantlaw06_long := by kernel_rfl

abbrev n_routes_Best : Nat := 14
theorem k_routes_Best : FnOk Try.prog 14 := FnOk.of (by kernel_rfl)
/-- hydrant/routes.Best -/
def f_routes_Best : FnI := ⟨43, [.tmp 8, .tmp 9],
 (.seq (.reg [⟨some 4, .box 22 (.t 0), none⟩, ⟨some 8, .mov (.c (.int .i64 (0))), none⟩, ⟨some 9, .mov (.c (.int .i64 (0))), none⟩])
 (.seq (.reg [⟨some 10, .alloc 3 [(.v (.int .i64 (0)))], none⟩, ⟨none, .store 1 (.t 10) (.c (.int .i64 (-1))), none⟩])
 (.seq (.seq (.reg [⟨some 13, .load false 1 (.t 4), none⟩, ⟨some 14, .mov (.t 1), none⟩, ⟨some 15, .mov (.t 2), none⟩, ⟨some 16, .mov (.t 3), none⟩, ⟨some 17, .call 30 [(.t 13), (.t 14), (.t 15), (.t 16)], none⟩])
 (.block 0
 (.rfun (.t 17) [18, 19]
 (.seq (.reg [⟨some 11, .mov (.t 18), none⟩])
 (.reg [⟨some 12, .alloc 31 [(.v (.int .i64 (0))), (.v (.string ⟨#[]⟩)), (.v (.string ⟨#[]⟩)), (.v (.int .i64 (0)))], none⟩, ⟨none, .store 4 (.t 12) (.t 19), none⟩]))
 (.block 1
 (.seq (.regD [⟨some 20, .load false 1 (.t 10), none⟩, ⟨some 21, .bini .lss (.t 20) (.c (.int .i64 (0))), none⟩, ⟨some 22, .mov (.t 21), none⟩, ⟨some 23, .fadr 1 (.t 12), some (22, false)⟩, ⟨some 24, .load false 1 (.t 23), some (22, false)⟩, ⟨some 25, .fadr 2 (.t 12), some (22, false)⟩, ⟨some 26, .load false 1 (.t 25), some (22, false)⟩, ⟨some 27, .load false 1 (.t 4), some (22, false)⟩, ⟨some 28, .load false 1 (.t 10), some (22, false)⟩, ⟨some 29, .iadr 4 (.t 27) (.t 28), some (22, false)⟩, ⟨some 30, .fadr 1 (.t 29), some (22, false)⟩, ⟨some 31, .load false 1 (.t 30), some (22, false)⟩, ⟨some 32, .load false 1 (.t 4), some (22, false)⟩, ⟨some 33, .load false 1 (.t 10), some (22, false)⟩, ⟨some 34, .iadr 4 (.t 32) (.t 33), some (22, false)⟩, ⟨some 35, .fadr 2 (.t 34), some (22, false)⟩, ⟨some 36, .load false 1 (.t 35), some (22, false)⟩, ⟨some 37, .call 19 [(.t 24), (.t 26), (.t 31), (.t 36)], some (22, false)⟩, ⟨some 38, .pick (.t 22) (.b true) (.t 37), none⟩])
 (.cond (.t 38)
 (.reg [⟨some 39, .mov (.t 11), none⟩, ⟨none, .store 1 (.t 10) (.t 39), none⟩])
 .skip))))))
 (.seq (.seq (.reg [⟨some 40, .load false 1 (.t 10), none⟩, ⟨some 41, .bini .lss (.t 40) (.c (.int .i64 (0))), none⟩])
 (.cond (.t 41)
 (.seq (.reg [⟨some 8, .mov (.c (.int .i64 (0))), none⟩, ⟨some 9, .mov (.c (.int .i64 (5))), none⟩])
 .ret)
 .skip))
 (.seq (.reg [⟨some 42, .load false 1 (.t 10), none⟩, ⟨some 8, .mov (.t 42), none⟩, ⟨some 9, .mov (.c (.int .i64 (0))), none⟩])
 .ret)))))⟩
theorem t_routes_Best : trFn Try.prog 14 [[0, 1, 2, 3, 4, 5, 6, 7, 8, 9, 10, 11, 12, 13, 14, 15, 16, 17, 18]] [] = some f_routes_Best := by kernel_rfl

abbrev n_hydrantref06_Best : Nat := 15
theorem k_hydrantref06_Best : FnOk Try.prog 15 := FnOk.of (by kernel_rfl)
/-- hydrant/hydrantref06.Best -/
def f_hydrantref06_Best : FnI := ⟨35, [.tmp 8, .tmp 9],
 (.seq (.reg [⟨some 8, .mov (.c (.int .i64 (0))), none⟩, ⟨some 9, .mov (.c (.int .i64 (0))), none⟩])
 (.seq (.seq (.reg [⟨some 10, .mov (.c (.int .i64 (0))), none⟩])
 (.block 0
 (.loop [10] [11, 12, 13, 14, 17, 18, 19, 20, 21, 22, 23, 24, 25, 26, 27, 28, 29, 30, 31, 32, 33, 34, 8, 9, 15, 16, 10]
 (.seq (.seq (.reg [⟨some 11, .mov (.t 10), none⟩, ⟨some 12, .mov (.t 0), none⟩, ⟨some 13, .len false (.t 12), none⟩, ⟨some 14, .bini .lss (.t 11) (.t 13), none⟩])
 (.cond (.t 14)
 .skip
 (.exit 0)))
 (.seq (.block 1
 (.seq (.reg [⟨some 17, .mov (.t 0), none⟩, ⟨some 18, .mov (.t 10), none⟩, ⟨some 19, .iadr 4 (.t 17) (.t 18), none⟩, ⟨some 20, .load true 4 (.t 19), none⟩, ⟨some 21, .mov (.t 1), none⟩, ⟨some 22, .mov (.t 2), none⟩, ⟨some 23, .mov (.t 3), none⟩, ⟨some 24, .call 18 [(.t 20), (.t 21), (.t 22), (.t 23)], none⟩, ⟨some 25, .mov (.t 24), none⟩, ⟨some 26, .mov (.t 0), some (25, true)⟩, ⟨some 27, .mov (.t 10), some (25, true)⟩, ⟨some 28, .mov (.t 1), some (25, true)⟩, ⟨some 29, .mov (.t 2), some (25, true)⟩, ⟨some 30, .mov (.t 3), some (25, true)⟩, ⟨some 31, .call 31 [(.t 26), (.t 27), (.t 28), (.t 29), (.t 30)], some (25, true)⟩, ⟨some 32, .not (.t 31), some (25, true)⟩, ⟨some 33, .pick (.t 25) (.t 32) (.b false), none⟩])
 (.cond (.t 33)
 (.seq (.reg [⟨some 34, .mov (.t 10), none⟩, ⟨some 8, .mov (.t 34), none⟩, ⟨some 9, .mov (.c (.int .i64 (0))), none⟩])
 .ret)
 .skip)))
 (.reg [⟨some 15, .mov (.t 10), none⟩, ⟨some 16, .bini .add (.t 15) (.c (.int .i64 (1))), none⟩, ⟨some 10, .mov (.t 16), none⟩]))))))
 (.seq (.reg [⟨some 8, .mov (.c (.int .i64 (0))), none⟩, ⟨some 9, .mov (.c (.int .i64 (5))), none⟩])
 .ret)))⟩
theorem t_hydrantref06_Best : trFn Try.prog 15 [] [[10]] = some f_hydrantref06_Best := by kernel_rfl

abbrev n_hydrantlaw06_chosen : Nat := 16
theorem k_hydrantlaw06_chosen : FnOk Try.prog 16 := FnOk.of (by kernel_rfl)
/-- hydrant/hydrantlaw06.chosen -/
def f_hydrantlaw06_chosen : FnI := ⟨88, [.tmp 0],
 (.seq (.reg [⟨some 0, .mov (.b false), none⟩])
 (.seq (.reg [⟨some 12, .call 32 [], none⟩, ⟨some 1, .mov (.t 12), none⟩])
 (.seq (.reg [⟨some 14, .mov (.t 1), none⟩, ⟨some 15, .call 14 [(.t 14), (.c (.int .i64 (0))), (.c (.string ⟨#[120]⟩)), (.c (.string ⟨#[47, 98]⟩))], none⟩, ⟨some 13, .mov (.t 15), none⟩, ⟨some 16, .ext 0 (.t 13), none⟩, ⟨some 17, .ext 1 (.t 13), none⟩, ⟨some 2, .mov (.t 16), none⟩, ⟨some 3, .mov (.t 17), none⟩])
 (.seq (.reg [⟨some 19, .mov (.t 1), none⟩, ⟨some 20, .call 14 [(.t 19), (.c (.int .i64 (0))), (.c (.string ⟨#[120]⟩)), (.c (.string ⟨#[47, 97, 47, 99]⟩))], none⟩, ⟨some 18, .mov (.t 20), none⟩, ⟨some 21, .ext 0 (.t 18), none⟩, ⟨some 22, .ext 1 (.t 18), none⟩, ⟨some 4, .mov (.t 21), none⟩, ⟨some 5, .mov (.t 22), none⟩])
 (.seq (.reg [⟨some 24, .mov (.t 1), none⟩, ⟨some 25, .call 14 [(.t 24), (.c (.int .i64 (0))), (.c (.string ⟨#[97, 46, 98]⟩)), (.c (.string ⟨#[47, 97]⟩))], none⟩, ⟨some 23, .mov (.t 25), none⟩, ⟨some 26, .ext 0 (.t 23), none⟩, ⟨some 27, .ext 1 (.t 23), none⟩, ⟨some 6, .mov (.t 26), none⟩, ⟨some 7, .mov (.t 27), none⟩])
 (.seq (.reg [⟨some 29, .mov (.t 1), none⟩, ⟨some 30, .call 14 [(.t 29), (.c (.int .i64 (1))), (.c (.string ⟨#[97, 46, 98]⟩)), (.c (.string ⟨#[47, 97]⟩))], none⟩, ⟨some 28, .mov (.t 30), none⟩, ⟨some 31, .ext 0 (.t 28), none⟩, ⟨some 32, .ext 1 (.t 28), none⟩, ⟨some 8, .mov (.t 31), none⟩, ⟨some 9, .mov (.t 32), none⟩])
 (.seq (.reg [⟨some 34, .mov (.t 1), none⟩, ⟨some 35, .call 14 [(.t 34), (.c (.int .i64 (1))), (.c (.string ⟨#[98]⟩)), (.c (.string ⟨#[47, 97]⟩))], none⟩, ⟨some 33, .mov (.t 35), none⟩, ⟨some 36, .ext 0 (.t 33), none⟩, ⟨some 37, .ext 1 (.t 33), none⟩, ⟨some 10, .mov (.t 36), none⟩, ⟨some 11, .mov (.t 37), none⟩])
 (.seq (.reg [⟨some 38, .mov (.t 3), none⟩, ⟨some 39, .bini .eql (.t 38) (.c (.int .i64 (0))), none⟩, ⟨some 40, .mov (.t 39), none⟩, ⟨some 41, .mov (.t 2), some (40, true)⟩, ⟨some 42, .bini .eql (.t 41) (.c (.int .i64 (0))), some (40, true)⟩, ⟨some 43, .pick (.t 40) (.t 42) (.b false), none⟩, ⟨some 44, .mov (.t 43), none⟩, ⟨some 45, .mov (.t 5), some (44, true)⟩, ⟨some 46, .mov (.t 3), some (44, true)⟩, ⟨some 47, .bini .eql (.t 45) (.t 46), some (44, true)⟩, ⟨some 48, .pick (.t 44) (.t 47) (.b false), none⟩, ⟨some 49, .mov (.t 48), none⟩, ⟨some 50, .mov (.t 4), some (49, true)⟩, ⟨some 51, .bini .eql (.t 50) (.c (.int .i64 (2))), some (49, true)⟩, ⟨some 52, .pick (.t 49) (.t 51) (.b false), none⟩, ⟨some 53, .mov (.t 52), none⟩, ⟨some 54, .mov (.t 7), some (53, true)⟩, ⟨some 55, .mov (.t 3), some (53, true)⟩, ⟨some 56, .bini .eql (.t 54) (.t 55), some (53, true)⟩, ⟨some 57, .pick (.t 53) (.t 56) (.b false), none⟩, ⟨some 58, .mov (.t 57), none⟩, ⟨some 59, .mov (.t 6), some (58, true)⟩, ⟨some 60, .bini .eql (.t 59) (.c (.int .i64 (1))), some (58, true)⟩, ⟨some 61, .pick (.t 58) (.t 60) (.b false), none⟩, ⟨some 62, .mov (.t 61), none⟩, ⟨some 63, .mov (.t 9), some (62, true)⟩, ⟨some 64, .mov (.t 3), some (62, true)⟩, ⟨some 65, .bini .eql (.t 63) (.t 64), some (62, true)⟩, ⟨some 66, .pick (.t 62) (.t 65) (.b false), none⟩, ⟨some 67, .mov (.t 66), none⟩, ⟨some 68, .mov (.t 8), some (67, true)⟩, ⟨some 69, .bini .eql (.t 68) (.c (.int .i64 (3))), some (67, true)⟩, ⟨some 70, .pick (.t 67) (.t 69) (.b false), none⟩, ⟨some 71, .mov (.t 70), none⟩, ⟨some 72, .mov (.t 11), some (71, true)⟩, ⟨some 73, .bini .eql (.t 72) (.c (.int .i64 (5))), some (71, true)⟩, ⟨some 74, .pick (.t 71) (.t 73) (.b false), none⟩, ⟨some 75, .mov (.t 74), none⟩, ⟨some 76, .mov (.t 1), some (75, true)⟩, ⟨some 77, .iadr 4 (.t 76) (.c (.int .i64 (0))), some (75, true)⟩, ⟨some 78, .load true 4 (.t 77), some (75, true)⟩, ⟨some 79, .call 17 [(.t 78), (.c (.int .i64 (0))), (.c (.string ⟨#[120]⟩)), (.c (.string ⟨#[47]⟩))], some (75, true)⟩, ⟨some 80, .pick (.t 75) (.t 79) (.b false), none⟩, ⟨some 81, .mov (.t 80), none⟩, ⟨some 82, .mov (.t 1), some (81, true)⟩, ⟨some 83, .iadr 4 (.t 82) (.c (.int .i64 (0))), some (81, true)⟩, ⟨some 84, .load true 4 (.t 83), some (81, true)⟩, ⟨some 85, .call 17 [(.t 84), (.c (.int .i64 (1))), (.c (.string ⟨#[120]⟩)), (.c (.string ⟨#[47]⟩))], some (81, true)⟩, ⟨some 86, .not (.t 85), some (81, true)⟩, ⟨some 87, .pick (.t 81) (.t 86) (.b false), none⟩, ⟨some 0, .mov (.t 87), none⟩])
 .ret))))))))⟩
theorem t_hydrantlaw06_chosen : trFn Try.prog 16 [] [] = some f_hydrantlaw06_chosen := by kernel_rfl

abbrev n_routes_Fits : Nat := 17
theorem k_routes_Fits : FnOk Try.prog 17 := FnOk.of (by kernel_rfl)
/-- hydrant/routes.Fits -/
def f_routes_Fits : FnI := ⟨25, [.tmp 8],
 (.seq (.reg [⟨some 4, .box 31 (.t 0), none⟩, ⟨some 8, .mov (.b false), none⟩])
 (.seq (.reg [⟨some 9, .fadr 0 (.t 4), none⟩, ⟨some 10, .load false 1 (.t 9), none⟩, ⟨some 11, .mov (.t 1), none⟩, ⟨some 12, .bini .eql (.t 10) (.t 11), none⟩, ⟨some 13, .mov (.t 12), none⟩, ⟨some 14, .fadr 1 (.t 4), some (13, true)⟩, ⟨some 15, .load false 1 (.t 14), some (13, true)⟩, ⟨some 16, .mov (.t 2), some (13, true)⟩, ⟨some 17, .call 33 [(.t 15), (.t 16)], some (13, true)⟩, ⟨some 18, .pick (.t 13) (.t 17) (.b false), none⟩, ⟨some 19, .mov (.t 18), none⟩, ⟨some 20, .mov (.t 3), some (19, true)⟩, ⟨some 21, .fadr 2 (.t 4), some (19, true)⟩, ⟨some 22, .load false 1 (.t 21), some (19, true)⟩, ⟨some 23, .call 34 [(.t 20), (.t 22)], some (19, true)⟩, ⟨some 24, .pick (.t 19) (.t 23) (.b false), none⟩, ⟨some 8, .mov (.t 24), none⟩])
 .ret))⟩
theorem t_routes_Fits : trFn Try.prog 17 [] [] = some f_routes_Fits := by kernel_rfl

abbrev n_hydrantref06_Fits : Nat := 18
theorem k_hydrantref06_Fits : FnOk Try.prog 18 := FnOk.of (by kernel_rfl)
/-- hydrant/hydrantref06.Fits -/
def f_hydrantref06_Fits : FnI := ⟨25, [.tmp 8],
 (.seq (.reg [⟨some 4, .box 31 (.t 0), none⟩, ⟨some 8, .mov (.b false), none⟩])
 (.seq (.reg [⟨some 9, .fadr 0 (.t 4), none⟩, ⟨some 10, .load false 1 (.t 9), none⟩, ⟨some 11, .mov (.t 1), none⟩, ⟨some 12, .bini .eql (.t 10) (.t 11), none⟩, ⟨some 13, .mov (.t 12), none⟩, ⟨some 14, .fadr 1 (.t 4), some (13, true)⟩, ⟨some 15, .load false 1 (.t 14), some (13, true)⟩, ⟨some 16, .mov (.t 2), some (13, true)⟩, ⟨some 17, .call 35 [(.t 15), (.t 16)], some (13, true)⟩, ⟨some 18, .pick (.t 13) (.t 17) (.b false), none⟩, ⟨some 19, .mov (.t 18), none⟩, ⟨some 20, .mov (.t 3), some (19, true)⟩, ⟨some 21, .fadr 2 (.t 4), some (19, true)⟩, ⟨some 22, .load false 1 (.t 21), some (19, true)⟩, ⟨some 23, .call 36 [(.t 20), (.t 22)], some (19, true)⟩, ⟨some 24, .pick (.t 19) (.t 23) (.b false), none⟩, ⟨some 8, .mov (.t 24), none⟩])
 .ret))⟩
theorem t_hydrantref06_Fits : trFn Try.prog 18 [] [] = some f_hydrantref06_Fits := by kernel_rfl

abbrev n_hosts_Better : Nat := 19
theorem k_hosts_Better : FnOk Try.prog 19 := FnOk.of (by kernel_rfl)
/-- hydrant/hosts.Better -/
def f_hosts_Better : FnI := ⟨26, [.tmp 8],
 (.seq (.reg [⟨some 8, .mov (.b false), none⟩])
 (.seq (.seq (.reg [⟨some 11, .mov (.t 0), none⟩, ⟨some 12, .call 37 [(.t 11)], none⟩, ⟨some 13, .mov (.t 2), none⟩, ⟨some 14, .call 37 [(.t 13)], none⟩, ⟨some 9, .mov (.t 12), none⟩, ⟨some 10, .mov (.t 14), none⟩])
 (.seq (.reg [⟨some 15, .mov (.t 9), none⟩, ⟨some 16, .mov (.t 10), none⟩, ⟨some 17, .bini .neq (.t 15) (.t 16), none⟩])
 (.cond (.t 17)
 (.seq (.reg [⟨some 18, .mov (.t 9), none⟩, ⟨some 19, .mov (.t 10), none⟩, ⟨some 20, .bini .gtr (.t 18) (.t 19), none⟩, ⟨some 8, .mov (.t 20), none⟩])
 .ret)
 .skip)))
 (.seq (.reg [⟨some 21, .mov (.t 1), none⟩, ⟨some 22, .len true (.t 21), none⟩, ⟨some 23, .mov (.t 3), none⟩, ⟨some 24, .len true (.t 23), none⟩, ⟨some 25, .bini .gtr (.t 22) (.t 24), none⟩, ⟨some 8, .mov (.t 25), none⟩])
 .ret)))⟩
theorem t_hosts_Better : trFn Try.prog 19 [] [] = some f_hosts_Better := by kernel_rfl

abbrev n_hydrantref05_Big : Nat := 20
theorem k_hydrantref05_Big : FnOk Try.prog 20 := FnOk.of (by kernel_rfl)
/-- hydrant/hydrantref05.Big -/
def f_hydrantref05_Big : FnI := ⟨71, [.tmp 2],
 (.seq (.reg [⟨some 1, .box 40 (.t 0), none⟩, ⟨some 2, .mov (.b false), none⟩])
 (.seq (.seq (.reg [⟨some 5, .fadr 0 (.t 1), none⟩, ⟨some 6, .load false 1 (.t 5), none⟩, ⟨some 7, .len false (.t 6), none⟩, ⟨some 8, .bini .gtr (.t 7) (.c (.int .i64 (50))), none⟩, ⟨some 9, .mov (.t 8), none⟩, ⟨some 10, .fadr 1 (.t 1), some (9, false)⟩, ⟨some 11, .load false 1 (.t 10), some (9, false)⟩, ⟨some 12, .len false (.t 11), some (9, false)⟩, ⟨some 13, .bini .gtr (.t 12) (.c (.int .i64 (50))), some (9, false)⟩, ⟨some 14, .pick (.t 9) (.b true) (.t 13), none⟩, ⟨some 15, .mov (.t 14), none⟩, ⟨some 16, .fadr 2 (.t 1), some (15, false)⟩, ⟨some 17, .load false 1 (.t 16), some (15, false)⟩, ⟨some 18, .len false (.t 17), some (15, false)⟩, ⟨some 19, .bini .gtr (.t 18) (.c (.int .i64 (50))), some (15, false)⟩, ⟨some 20, .pick (.t 15) (.b true) (.t 19), none⟩])
 (.cond (.t 20)
 (.seq (.reg [⟨some 2, .mov (.b true), none⟩])
 .ret)
 .skip))
 (.seq (.seq (.reg [⟨some 3, .mov (.c (.int .i64 (0))), none⟩])
 (.block 0
 (.loop [3] [21, 22, 23, 24, 25, 28, 29, 30, 31, 32, 33, 34, 35, 36, 37, 38, 39, 40, 41, 42, 43, 44, 45, 2, 26, 27, 3]
 (.seq (.seq (.reg [⟨some 21, .mov (.t 3), none⟩, ⟨some 22, .fadr 2 (.t 1), none⟩, ⟨some 23, .load false 1 (.t 22), none⟩, ⟨some 24, .len false (.t 23), none⟩, ⟨some 25, .bini .lss (.t 21) (.t 24), none⟩])
 (.cond (.t 25)
 .skip
 (.exit 0)))
 (.seq (.block 1
 (.seq (.reg [⟨some 28, .fadr 2 (.t 1), none⟩, ⟨some 29, .load false 1 (.t 28), none⟩, ⟨some 30, .mov (.t 3), none⟩, ⟨some 31, .iadr 4 (.t 29) (.t 30), none⟩, ⟨some 32, .fadr 3 (.t 31), none⟩, ⟨some 33, .load false 1 (.t 32), none⟩, ⟨some 34, .len false (.t 33), none⟩, ⟨some 35, .bini .gtr (.t 34) (.c (.int .i64 (50))), none⟩, ⟨some 36, .mov (.t 35), none⟩, ⟨some 37, .fadr 2 (.t 1), some (36, false)⟩, ⟨some 38, .load false 1 (.t 37), some (36, false)⟩, ⟨some 39, .mov (.t 3), some (36, false)⟩, ⟨some 40, .iadr 4 (.t 38) (.t 39), some (36, false)⟩, ⟨some 41, .fadr 0 (.t 40), some (36, false)⟩, ⟨some 42, .load false 1 (.t 41), some (36, false)⟩, ⟨some 43, .len true (.t 42), some (36, false)⟩, ⟨some 44, .bini .gtr (.t 43) (.c (.int .i64 (100))), some (36, false)⟩, ⟨some 45, .pick (.t 36) (.b true) (.t 44), none⟩])
 (.cond (.t 45)
 (.seq (.reg [⟨some 2, .mov (.b true), none⟩])
 .ret)
 .skip)))
 (.reg [⟨some 26, .mov (.t 3), none⟩, ⟨some 27, .bini .add (.t 26) (.c (.int .i64 (1))), none⟩, ⟨some 3, .mov (.t 27), none⟩]))))))
 (.seq (.seq (.reg [⟨some 4, .mov (.c (.int .i64 (0))), none⟩])
 (.block 2
 (.loop [4] [46, 47, 48, 49, 50, 53, 54, 55, 56, 57, 58, 59, 60, 61, 62, 63, 64, 65, 66, 67, 68, 69, 70, 2, 51, 52, 4]
 (.seq (.seq (.reg [⟨some 46, .mov (.t 4), none⟩, ⟨some 47, .fadr 1 (.t 1), none⟩, ⟨some 48, .load false 1 (.t 47), none⟩, ⟨some 49, .len false (.t 48), none⟩, ⟨some 50, .bini .lss (.t 46) (.t 49), none⟩])
 (.cond (.t 50)
 .skip
 (.exit 2)))
 (.seq (.block 3
 (.seq (.reg [⟨some 53, .fadr 1 (.t 1), none⟩, ⟨some 54, .load false 1 (.t 53), none⟩, ⟨some 55, .mov (.t 4), none⟩, ⟨some 56, .iadr 4 (.t 54) (.t 55), none⟩, ⟨some 57, .fadr 1 (.t 56), none⟩, ⟨some 58, .load false 1 (.t 57), none⟩, ⟨some 59, .len true (.t 58), none⟩, ⟨some 60, .bini .gtr (.t 59) (.c (.int .i64 (100))), none⟩, ⟨some 61, .mov (.t 60), none⟩, ⟨some 62, .fadr 1 (.t 1), some (61, false)⟩, ⟨some 63, .load false 1 (.t 62), some (61, false)⟩, ⟨some 64, .mov (.t 4), some (61, false)⟩, ⟨some 65, .iadr 4 (.t 63) (.t 64), some (61, false)⟩, ⟨some 66, .fadr 2 (.t 65), some (61, false)⟩, ⟨some 67, .load false 1 (.t 66), some (61, false)⟩, ⟨some 68, .len true (.t 67), some (61, false)⟩, ⟨some 69, .bini .gtr (.t 68) (.c (.int .i64 (100))), some (61, false)⟩, ⟨some 70, .pick (.t 61) (.b true) (.t 69), none⟩])
 (.cond (.t 70)
 (.seq (.reg [⟨some 2, .mov (.b true), none⟩])
 .ret)
 .skip)))
 (.reg [⟨some 51, .mov (.t 4), none⟩, ⟨some 52, .bini .add (.t 51) (.c (.int .i64 (1))), none⟩, ⟨some 4, .mov (.t 52), none⟩]))))))
 (.seq (.reg [⟨some 2, .mov (.b false), none⟩])
 .ret)))))⟩
theorem t_hydrantref05_Big : trFn Try.prog 20 [] [[3], [4]] = some f_hydrantref05_Big := by kernel_rfl

abbrev n_config_Check : Nat := 21
theorem k_config_Check : FnOk Try.prog 21 := FnOk.of (by kernel_rfl)
/-- hydrant/config.Check -/
def f_config_Check : FnI := ⟨35, [.tmp 2, .tmp 3],
 (.seq (.reg [⟨some 1, .box 40 (.t 0), none⟩, ⟨some 2, .mov (.c (.int .i64 (0))), none⟩, ⟨some 3, .mov (.c (.int .i64 (0))), none⟩])
 (.seq (.reg [⟨some 9, .load true 3 (.t 1), none⟩, ⟨some 10, .build [(.v (.slice none 0 0)), (.v (.slice none 0 0)), (.v (.slice none 0 0))] [(0, 3, (.t 9))], none⟩, ⟨some 4, .alloc 62 [(.v (.slice none 0 0)), (.v (.slice none 0 0)), (.v (.slice none 0 0))], none⟩, ⟨none, .store 3 (.t 4) (.t 10), none⟩])
 (.seq (.seq (.reg [⟨some 11, .load true 3 (.t 4), none⟩, ⟨some 12, .mkf (.func 38) [(.t 11)] [], none⟩, ⟨some 13, .load true 3 (.t 4), none⟩, ⟨some 14, .mkf (.func 39) [(.t 13)] [], none⟩, ⟨some 15, .load true 3 (.t 4), none⟩, ⟨some 16, .mkf (.func 40) [(.t 15)] [], none⟩, ⟨some 17, .load true 3 (.t 4), none⟩, ⟨some 18, .mkf (.func 41) [(.t 17)] [], none⟩, ⟨some 19, .bsl 63 1 4 [(.v .nilFunc), (.v .nilFunc), (.v .nilFunc), (.v .nilFunc)] [(0, 1, (.t 12)), (1, 1, (.t 14)), (2, 1, (.t 16)), (3, 1, (.t 18))], none⟩, ⟨some 20, .len false (.t 19), none⟩, ⟨some 21, .mov (.c (.int .i64 (0))), none⟩])
 (.block 0
 (.loop [21] [22, 23, 24, 6, 26, 27, 25, 28, 29, 7, 8, 30, 31, 32, 33, 2, 3, 34, 21]
 (.seq (.reg [⟨some 22, .bini .lss (.t 21) (.t 20), none⟩])
 (.seq (.cond (.t 22)
 .skip
 (.exit 0))
 (.seq (.block 1
 (.seq (.reg [⟨some 23, .iadr 1 (.t 19) (.t 21), none⟩, ⟨some 24, .load false 1 (.t 23), none⟩, ⟨some 6, .mov (.t 24), none⟩])
 (.seq (.reg [⟨some 26, .mov (.t 6), none⟩, ⟨some 27, .callv (.t 26) [], none⟩, ⟨some 25, .mov (.t 27), none⟩, ⟨some 28, .ext 0 (.t 25), none⟩, ⟨some 29, .ext 1 (.t 25), none⟩, ⟨some 7, .mov (.t 28), none⟩, ⟨some 8, .mov (.t 29), none⟩])
 (.seq (.reg [⟨some 30, .mov (.t 7), none⟩, ⟨some 31, .bini .neq (.t 30) (.c (.int .i64 (0))), none⟩])
 (.cond (.t 31)
 (.seq (.reg [⟨some 32, .mov (.t 7), none⟩, ⟨some 33, .mov (.t 8), none⟩, ⟨some 2, .mov (.t 32), none⟩, ⟨some 3, .mov (.t 33), none⟩])
 .ret)
 .skip)))))
 (.reg [⟨some 34, .bini .add (.t 21) (.c (.int .i64 (1))), none⟩, ⟨some 21, .mov (.t 34), none⟩])))))))
 (.seq (.reg [⟨some 2, .mov (.c (.int .i64 (0))), none⟩, ⟨some 3, .mov (.c (.int .i64 (0))), none⟩])
 .ret))))⟩
theorem t_config_Check : trFn Try.prog 21 [] [[21]] = some f_config_Check := by kernel_rfl

abbrev n_hydrantref05_Check : Nat := 22
theorem k_hydrantref05_Check : FnOk Try.prog 22 := FnOk.of (by kernel_rfl)
/-- hydrant/hydrantref05.Check -/
def f_hydrantref05_Check : FnI := ⟨69, [.tmp 2, .tmp 3],
 (.seq (.reg [⟨some 1, .box 40 (.t 0), none⟩, ⟨some 2, .mov (.c (.int .i64 (0))), none⟩, ⟨some 3, .mov (.c (.int .i64 (0))), none⟩])
 (.seq (.seq (.reg [⟨some 10, .fadr 0 (.t 1), none⟩, ⟨some 11, .load false 1 (.t 10), none⟩, ⟨some 12, .len false (.t 11), none⟩, ⟨some 13, .bini .lss (.t 12) (.c (.int .i64 (1))), none⟩, ⟨some 14, .mov (.t 13), none⟩, ⟨some 15, .fadr 0 (.t 1), some (14, false)⟩, ⟨some 16, .load false 1 (.t 15), some (14, false)⟩, ⟨some 17, .len false (.t 16), some (14, false)⟩, ⟨some 18, .bini .gtr (.t 17) (.c (.int .i64 (4))), some (14, false)⟩, ⟨some 19, .pick (.t 14) (.b true) (.t 18), none⟩, ⟨some 20, .mov (.t 19), none⟩, ⟨some 21, .fadr 1 (.t 1), some (20, false)⟩, ⟨some 22, .load false 1 (.t 21), some (20, false)⟩, ⟨some 23, .len false (.t 22), some (20, false)⟩, ⟨some 24, .bini .lss (.t 23) (.c (.int .i64 (1))), some (20, false)⟩, ⟨some 25, .pick (.t 20) (.b true) (.t 24), none⟩, ⟨some 26, .mov (.t 25), none⟩, ⟨some 27, .fadr 1 (.t 1), some (26, false)⟩, ⟨some 28, .load false 1 (.t 27), some (26, false)⟩, ⟨some 29, .len false (.t 28), some (26, false)⟩, ⟨some 30, .bini .gtr (.t 29) (.c (.int .i64 (8))), some (26, false)⟩, ⟨some 31, .pick (.t 26) (.b true) (.t 30), none⟩, ⟨some 32, .mov (.t 31), none⟩, ⟨some 33, .fadr 2 (.t 1), some (32, false)⟩, ⟨some 34, .load false 1 (.t 33), some (32, false)⟩, ⟨some 35, .len false (.t 34), some (32, false)⟩, ⟨some 36, .bini .lss (.t 35) (.c (.int .i64 (1))), some (32, false)⟩, ⟨some 37, .pick (.t 32) (.b true) (.t 36), none⟩, ⟨some 38, .mov (.t 37), none⟩, ⟨some 39, .fadr 2 (.t 1), some (38, false)⟩, ⟨some 40, .load false 1 (.t 39), some (38, false)⟩, ⟨some 41, .len false (.t 40), some (38, false)⟩, ⟨some 42, .bini .gtr (.t 41) (.c (.int .i64 (4))), some (38, false)⟩, ⟨some 43, .pick (.t 38) (.b true) (.t 42), none⟩])
 (.cond (.t 43)
 (.seq (.reg [⟨some 2, .mov (.c (.int .i64 (6))), none⟩, ⟨some 3, .mov (.c (.int .i64 (0))), none⟩])
 .ret)
 .skip))
 (.seq (.reg [⟨some 45, .load true 3 (.t 1), none⟩, ⟨some 46, .call 42 [(.t 45)], none⟩, ⟨some 44, .mov (.t 46), none⟩, ⟨some 47, .ext 0 (.t 44), none⟩, ⟨some 48, .ext 1 (.t 44), none⟩, ⟨some 4, .mov (.t 47), none⟩, ⟨some 5, .mov (.t 48), none⟩])
 (.seq (.seq (.reg [⟨some 49, .mov (.t 4), none⟩, ⟨some 50, .bini .neq (.t 49) (.c (.int .i64 (0))), none⟩])
 (.cond (.t 50)
 (.seq (.reg [⟨some 51, .mov (.t 4), none⟩, ⟨some 52, .mov (.t 5), none⟩, ⟨some 2, .mov (.t 51), none⟩, ⟨some 3, .mov (.t 52), none⟩])
 .ret)
 .skip))
 (.seq (.reg [⟨some 54, .load true 3 (.t 1), none⟩, ⟨some 55, .call 43 [(.t 54)], none⟩, ⟨some 53, .mov (.t 55), none⟩, ⟨some 56, .ext 0 (.t 53), none⟩, ⟨some 57, .ext 1 (.t 53), none⟩, ⟨some 6, .mov (.t 56), none⟩, ⟨some 7, .mov (.t 57), none⟩])
 (.seq (.seq (.reg [⟨some 58, .mov (.t 6), none⟩, ⟨some 59, .bini .neq (.t 58) (.c (.int .i64 (0))), none⟩])
 (.cond (.t 59)
 (.seq (.reg [⟨some 60, .mov (.t 6), none⟩, ⟨some 61, .mov (.t 7), none⟩, ⟨some 2, .mov (.t 60), none⟩, ⟨some 3, .mov (.t 61), none⟩])
 .ret)
 .skip))
 (.seq (.reg [⟨some 63, .load true 3 (.t 1), none⟩, ⟨some 64, .call 44 [(.t 63)], none⟩, ⟨some 62, .mov (.t 64), none⟩, ⟨some 65, .ext 0 (.t 62), none⟩, ⟨some 66, .ext 1 (.t 62), none⟩, ⟨some 8, .mov (.t 65), none⟩, ⟨some 9, .mov (.t 66), none⟩])
 (.seq (.reg [⟨some 67, .mov (.t 8), none⟩, ⟨some 68, .mov (.t 9), none⟩, ⟨some 2, .mov (.t 67), none⟩, ⟨some 3, .mov (.t 68), none⟩])
 .ret))))))))⟩
theorem t_hydrantref05_Check : trFn Try.prog 22 [] [] = some f_hydrantref05_Check := by kernel_rfl

abbrev n_hydrantlaw05_checked : Nat := 23
theorem k_hydrantlaw05_checked : FnOk Try.prog 23 := FnOk.of (by kernel_rfl)
/-- hydrant/hydrantlaw05.checked -/
def f_hydrantlaw05_checked : FnI := ⟨101, [.tmp 0],
 (.seq (.reg [⟨some 0, .mov (.b false), none⟩])
 (.seq (.reg [⟨some 14, .call 45 [], none⟩, ⟨some 1, .alloc 40 [(.v (.slice none 0 0)), (.v (.slice none 0 0)), (.v (.slice none 0 0))], none⟩, ⟨none, .store 3 (.t 1) (.t 14), none⟩])
 (.seq (.reg [⟨some 16, .load true 3 (.t 1), none⟩, ⟨some 17, .call 21 [(.t 16)], none⟩, ⟨some 15, .mov (.t 17), none⟩, ⟨some 18, .ext 0 (.t 15), none⟩, ⟨some 19, .ext 1 (.t 15), none⟩, ⟨some 2, .mov (.t 18), none⟩, ⟨some 3, .mov (.t 19), none⟩])
 (.seq (.reg [⟨some 20, .fadr 1 (.t 1), none⟩, ⟨some 21, .load false 1 (.t 20), none⟩, ⟨some 22, .iadr 4 (.t 21) (.c (.int .i64 (1))), none⟩, ⟨some 23, .fadr 3 (.t 22), none⟩, ⟨none, .store 1 (.t 23) (.c (.string ⟨#[99]⟩)), none⟩])
 (.seq (.reg [⟨some 25, .load true 3 (.t 1), none⟩, ⟨some 26, .call 21 [(.t 25)], none⟩, ⟨some 24, .mov (.t 26), none⟩, ⟨some 27, .ext 0 (.t 24), none⟩, ⟨some 28, .ext 1 (.t 24), none⟩, ⟨some 4, .mov (.t 27), none⟩, ⟨some 5, .mov (.t 28), none⟩])
 (.seq (.reg [⟨some 29, .fadr 1 (.t 1), none⟩, ⟨some 30, .load false 1 (.t 29), none⟩, ⟨some 31, .iadr 4 (.t 30) (.c (.int .i64 (1))), none⟩, ⟨some 32, .fadr 1 (.t 31), none⟩, ⟨none, .store 1 (.t 32) (.c (.string ⟨#[88]⟩)), none⟩])
 (.seq (.reg [⟨some 34, .load true 3 (.t 1), none⟩, ⟨some 35, .call 21 [(.t 34)], none⟩, ⟨some 33, .mov (.t 35), none⟩, ⟨some 36, .ext 0 (.t 33), none⟩, ⟨some 37, .ext 1 (.t 33), none⟩, ⟨some 6, .mov (.t 36), none⟩, ⟨some 7, .mov (.t 37), none⟩])
 (.seq (.reg [⟨some 38, .fadr 2 (.t 1), none⟩, ⟨some 39, .load false 1 (.t 38), none⟩, ⟨some 40, .iadr 4 (.t 39) (.c (.int .i64 (1))), none⟩, ⟨some 41, .fadr 0 (.t 40), none⟩, ⟨none, .store 1 (.t 41) (.c (.string ⟨#[97]⟩)), none⟩])
 (.seq (.reg [⟨some 43, .load true 3 (.t 1), none⟩, ⟨some 44, .call 21 [(.t 43)], none⟩, ⟨some 42, .mov (.t 44), none⟩, ⟨some 45, .ext 0 (.t 42), none⟩, ⟨some 46, .ext 1 (.t 42), none⟩, ⟨some 8, .mov (.t 45), none⟩, ⟨some 9, .mov (.t 46), none⟩])
 (.seq (.reg [⟨some 47, .fadr 0 (.t 1), none⟩, ⟨some 48, .load false 1 (.t 47), none⟩, ⟨some 49, .bsl 9 1 1 [(.v (.string ⟨#[]⟩))] [(0, 1, (.c (.string ⟨#[105, 110]⟩)))], none⟩, ⟨some 50, .app 9 1 16 (.t 48) (.t 49), none⟩, ⟨some 51, .fadr 0 (.t 1), none⟩, ⟨none, .store 1 (.t 51) (.t 50), none⟩])
 (.seq (.reg [⟨some 53, .load true 3 (.t 1), none⟩, ⟨some 54, .call 21 [(.t 53)], none⟩, ⟨some 52, .mov (.t 54), none⟩, ⟨some 55, .ext 0 (.t 52), none⟩, ⟨some 56, .ext 1 (.t 52), none⟩, ⟨some 10, .mov (.t 55), none⟩, ⟨some 11, .mov (.t 56), none⟩])
 (.seq (.reg [⟨some 57, .fadr 1 (.t 1), none⟩, ⟨none, .store 1 (.t 57) (.c (.slice none 0 0)), none⟩])
 (.seq (.reg [⟨some 59, .load true 3 (.t 1), none⟩, ⟨some 60, .call 21 [(.t 59)], none⟩, ⟨some 58, .mov (.t 60), none⟩, ⟨some 61, .ext 0 (.t 58), none⟩, ⟨some 62, .ext 1 (.t 58), none⟩, ⟨some 12, .mov (.t 61), none⟩, ⟨some 13, .mov (.t 62), none⟩])
 (.seq (.reg [⟨some 63, .mov (.t 2), none⟩, ⟨some 64, .bini .eql (.t 63) (.c (.int .i64 (0))), none⟩, ⟨some 65, .mov (.t 64), none⟩, ⟨some 66, .mov (.t 4), some (65, true)⟩, ⟨some 67, .bini .eql (.t 66) (.c (.int .i64 (5))), some (65, true)⟩, ⟨some 68, .pick (.t 65) (.t 67) (.b false), none⟩, ⟨some 69, .mov (.t 68), none⟩, ⟨some 70, .mov (.t 5), some (69, true)⟩, ⟨some 71, .bini .eql (.t 70) (.c (.int .i64 (1))), some (69, true)⟩, ⟨some 72, .pick (.t 69) (.t 71) (.b false), none⟩, ⟨some 73, .mov (.t 72), none⟩, ⟨some 74, .mov (.t 6), some (73, true)⟩, ⟨some 75, .bini .eql (.t 74) (.c (.int .i64 (7))), some (73, true)⟩, ⟨some 76, .pick (.t 73) (.t 75) (.b false), none⟩, ⟨some 77, .mov (.t 76), none⟩, ⟨some 78, .mov (.t 8), some (77, true)⟩, ⟨some 79, .bini .eql (.t 78) (.c (.int .i64 (4))), some (77, true)⟩, ⟨some 80, .pick (.t 77) (.t 79) (.b false), none⟩, ⟨some 81, .mov (.t 80), none⟩, ⟨some 82, .mov (.t 9), some (81, true)⟩, ⟨some 83, .bini .eql (.t 82) (.c (.int .i64 (1))), some (81, true)⟩, ⟨some 84, .pick (.t 81) (.t 83) (.b false), none⟩, ⟨some 85, .mov (.t 84), none⟩, ⟨some 86, .mov (.t 10), some (85, true)⟩, ⟨some 87, .bini .eql (.t 86) (.c (.int .i64 (4))), some (85, true)⟩, ⟨some 88, .pick (.t 85) (.t 87) (.b false), none⟩, ⟨some 89, .mov (.t 88), none⟩, ⟨some 90, .mov (.t 11), some (89, true)⟩, ⟨some 91, .bini .eql (.t 90) (.c (.int .i64 (1))), some (89, true)⟩, ⟨some 92, .pick (.t 89) (.t 91) (.b false), none⟩, ⟨some 93, .mov (.t 92), none⟩, ⟨some 94, .mov (.t 12), some (93, true)⟩, ⟨some 95, .bini .eql (.t 94) (.c (.int .i64 (6))), some (93, true)⟩, ⟨some 96, .pick (.t 93) (.t 95) (.b false), none⟩, ⟨some 97, .mov (.t 96), none⟩, ⟨some 98, .mov (.t 13), some (97, true)⟩, ⟨some 99, .bini .eql (.t 98) (.c (.int .i64 (0))), some (97, true)⟩, ⟨some 100, .pick (.t 97) (.t 99) (.b false), none⟩, ⟨some 0, .mov (.t 100), none⟩])
 .ret))))))))))))))⟩
theorem t_hydrantlaw05_checked : trFn Try.prog 23 [] [] = some f_hydrantlaw05_checked := by kernel_rfl

abbrev n_hydrantref05_Listen : Nat := 24
theorem k_hydrantref05_Listen : FnOk Try.prog 24 := FnOk.of (by kernel_rfl)
/-- hydrant/hydrantref05.Listen -/
def f_hydrantref05_Listen : FnI := ⟨19, [.tmp 4],
 (.seq (.reg [⟨some 4, .mov (.c (.int .i64 (0))), none⟩])
 (.seq (.seq (.reg [⟨some 5, .mov (.c (.int .i64 (0))), none⟩])
 (.block 0
 (.loop [5] [6, 7, 8, 9, 12, 13, 14, 15, 16, 17, 18, 4, 10, 11, 5]
 (.seq (.seq (.reg [⟨some 6, .mov (.t 5), none⟩, ⟨some 7, .mov (.t 0), none⟩, ⟨some 8, .len false (.t 7), none⟩, ⟨some 9, .bini .lss (.t 6) (.t 8), none⟩])
 (.cond (.t 9)
 .skip
 (.exit 0)))
 (.seq (.block 1
 (.seq (.reg [⟨some 12, .mov (.t 0), none⟩, ⟨some 13, .mov (.t 5), none⟩, ⟨some 14, .iadr 1 (.t 12) (.t 13), none⟩, ⟨some 15, .load false 1 (.t 14), none⟩, ⟨some 16, .mov (.t 1), none⟩, ⟨some 17, .bins .eql (.t 15) (.t 16), none⟩])
 (.cond (.t 17)
 (.seq (.reg [⟨some 18, .mov (.t 5), none⟩, ⟨some 4, .mov (.t 18), none⟩])
 .ret)
 .skip)))
 (.reg [⟨some 10, .mov (.t 5), none⟩, ⟨some 11, .bini .add (.t 10) (.c (.int .i64 (1))), none⟩, ⟨some 5, .mov (.t 11), none⟩]))))))
 (.seq (.reg [⟨some 4, .mov (.c (.int .i64 (-1))), none⟩])
 .ret)))⟩
theorem t_hydrantref05_Listen : trFn Try.prog 24 [] [[5]] = some f_hydrantref05_Listen := by kernel_rfl

abbrev n_hydrantref05_Cluster : Nat := 25
theorem k_hydrantref05_Cluster : FnOk Try.prog 25 := FnOk.of (by kernel_rfl)
/-- hydrant/hydrantref05.Cluster -/
def f_hydrantref05_Cluster : FnI := ⟨20, [.tmp 4],
 (.seq (.reg [⟨some 4, .mov (.c (.int .i64 (0))), none⟩])
 (.seq (.seq (.reg [⟨some 5, .mov (.c (.int .i64 (0))), none⟩])
 (.block 0
 (.loop [5] [6, 7, 8, 9, 12, 13, 14, 15, 16, 17, 18, 19, 4, 10, 11, 5]
 (.seq (.seq (.reg [⟨some 6, .mov (.t 5), none⟩, ⟨some 7, .mov (.t 0), none⟩, ⟨some 8, .len false (.t 7), none⟩, ⟨some 9, .bini .lss (.t 6) (.t 8), none⟩])
 (.cond (.t 9)
 .skip
 (.exit 0)))
 (.seq (.block 1
 (.seq (.reg [⟨some 12, .mov (.t 0), none⟩, ⟨some 13, .mov (.t 5), none⟩, ⟨some 14, .iadr 4 (.t 12) (.t 13), none⟩, ⟨some 15, .fadr 0 (.t 14), none⟩, ⟨some 16, .load false 1 (.t 15), none⟩, ⟨some 17, .mov (.t 1), none⟩, ⟨some 18, .bins .eql (.t 16) (.t 17), none⟩])
 (.cond (.t 18)
 (.seq (.reg [⟨some 19, .mov (.t 5), none⟩, ⟨some 4, .mov (.t 19), none⟩])
 .ret)
 .skip)))
 (.reg [⟨some 10, .mov (.t 5), none⟩, ⟨some 11, .bini .add (.t 10) (.c (.int .i64 (1))), none⟩, ⟨some 5, .mov (.t 11), none⟩]))))))
 (.seq (.reg [⟨some 4, .mov (.c (.int .i64 (-1))), none⟩])
 .ret)))⟩
theorem t_hydrantref05_Cluster : trFn Try.prog 25 [] [[5]] = some f_hydrantref05_Cluster := by kernel_rfl

abbrev n_names_Pattern : Nat := 26
theorem k_names_Pattern : FnOk Try.prog 26 := FnOk.of (by kernel_rfl)
/-- hydrant/names.Pattern -/
def f_names_Pattern : FnI := ⟨19, [.tmp 2],
 (.seq (.reg [⟨some 2, .mov (.b false), none⟩])
 (.seq (.seq (.reg [⟨some 6, .mov (.t 0), none⟩, ⟨some 7, .call 46 [(.t 6), (.c (.string ⟨#[42, 46]⟩))], none⟩, ⟨some 5, .mov (.t 7), none⟩, ⟨some 8, .ext 0 (.t 5), none⟩, ⟨some 9, .ext 1 (.t 5), none⟩, ⟨some 3, .mov (.t 8), none⟩, ⟨some 4, .mov (.t 9), none⟩])
 (.seq (.reg [⟨some 10, .mov (.t 4), none⟩])
 (.cond (.t 10)
 (.seq (.reg [⟨some 11, .mov (.t 3), none⟩, ⟨some 12, .call 47 [(.t 11)], none⟩, ⟨some 2, .mov (.t 12), none⟩])
 .ret)
 .skip)))
 (.seq (.reg [⟨some 13, .mov (.t 0), none⟩, ⟨some 14, .bins .eql (.t 13) (.c (.string ⟨#[42]⟩)), none⟩, ⟨some 15, .mov (.t 14), none⟩, ⟨some 16, .mov (.t 0), some (15, false)⟩, ⟨some 17, .call 47 [(.t 16)], some (15, false)⟩, ⟨some 18, .pick (.t 15) (.b true) (.t 17), none⟩, ⟨some 2, .mov (.t 18), none⟩])
 .ret)))⟩
theorem t_names_Pattern : trFn Try.prog 26 [] [] = some f_names_Pattern := by kernel_rfl

abbrev n_names_Path : Nat := 27
theorem k_names_Path : FnOk Try.prog 27 := FnOk.of (by kernel_rfl)
/-- hydrant/names.Path -/
def f_names_Path : FnI := ⟨21, [.tmp 2],
 (.seq (.reg [⟨some 2, .mov (.b false), none⟩])
 (.seq (.reg [⟨some 3, .mov (.t 0), none⟩, ⟨some 4, .len true (.t 3), none⟩, ⟨some 5, .bini .gtr (.t 4) (.c (.int .i64 (0))), none⟩, ⟨some 6, .mov (.t 5), none⟩, ⟨some 7, .mov (.t 0), some (6, true)⟩, ⟨some 8, .len true (.t 7), some (6, true)⟩, ⟨some 9, .bini .leq (.t 8) (.c (.int .i64 (32))), some (6, true)⟩, ⟨some 10, .pick (.t 6) (.t 9) (.b false), none⟩, ⟨some 11, .mov (.t 10), none⟩, ⟨some 12, .mov (.t 0), some (11, true)⟩, ⟨some 13, .idxs (.t 12) (.c (.int .i64 (0))), some (11, true)⟩, ⟨some 14, .bini .eql (.t 13) (.c (.int .u8 (47))), some (11, true)⟩, ⟨some 15, .pick (.t 11) (.t 14) (.b false), none⟩, ⟨some 16, .mov (.t 15), none⟩, ⟨some 17, .call 48 [], some (16, true)⟩, ⟨some 18, .mov (.t 0), some (16, true)⟩, ⟨some 19, .call 49 [(.t 17), (.t 18), (.c (.int .u8 (47)))], some (16, true)⟩, ⟨some 20, .pick (.t 16) (.t 19) (.b false), none⟩, ⟨some 2, .mov (.t 20), none⟩])
 .ret))⟩
theorem t_names_Path : trFn Try.prog 27 [] [] = some f_names_Path := by kernel_rfl

abbrev n_names_Name : Nat := 28
theorem k_names_Name : FnOk Try.prog 28 := FnOk.of (by kernel_rfl)
/-- hydrant/names.Name -/
def f_names_Name : FnI := ⟨21, [.tmp 2],
 (.seq (.reg [⟨some 2, .mov (.b false), none⟩])
 (.seq (.reg [⟨some 3, .mov (.t 0), none⟩, ⟨some 4, .len true (.t 3), none⟩, ⟨some 5, .bini .gtr (.t 4) (.c (.int .i64 (0))), none⟩, ⟨some 6, .mov (.t 5), none⟩, ⟨some 7, .mov (.t 0), some (6, true)⟩, ⟨some 8, .len true (.t 7), some (6, true)⟩, ⟨some 9, .bini .leq (.t 8) (.c (.int .i64 (16))), some (6, true)⟩, ⟨some 10, .pick (.t 6) (.t 9) (.b false), none⟩, ⟨some 11, .mov (.t 10), none⟩, ⟨some 12, .mov (.t 0), some (11, true)⟩, ⟨some 13, .idxs (.t 12) (.c (.int .i64 (0))), some (11, true)⟩, ⟨some 14, .call 50 [(.t 13)], some (11, true)⟩, ⟨some 15, .pick (.t 11) (.t 14) (.b false), none⟩, ⟨some 16, .mov (.t 15), none⟩, ⟨some 17, .call 48 [], some (16, true)⟩, ⟨some 18, .mov (.t 0), some (16, true)⟩, ⟨some 19, .call 49 [(.t 17), (.t 18), (.c (.int .u8 (45)))], some (16, true)⟩, ⟨some 20, .pick (.t 16) (.t 19) (.b false), none⟩, ⟨some 2, .mov (.t 20), none⟩])
 .ret))⟩
theorem t_names_Name : trFn Try.prog 28 [] [] = some f_names_Name := by kernel_rfl

abbrev n_hydrantref06_Big : Nat := 29
theorem k_hydrantref06_Big : FnOk Try.prog 29 := FnOk.of (by kernel_rfl)
/-- hydrant/hydrantref06.Big -/
def f_hydrantref06_Big : FnI := ⟨34, [.tmp 2],
 (.seq (.reg [⟨some 2, .mov (.b false), none⟩])
 (.seq (.seq (.reg [⟨some 3, .mov (.c (.int .i64 (0))), none⟩])
 (.block 0
 (.loop [3] [4, 5, 6, 7, 8, 9, 10, 11, 12, 15, 16, 17, 18, 19, 20, 21, 22, 23, 24, 25, 26, 27, 28, 29, 30, 2, 13, 14, 3]
 (.seq (.seq (.reg [⟨some 4, .mov (.t 3), none⟩, ⟨some 5, .mov (.t 0), none⟩, ⟨some 6, .len false (.t 5), none⟩, ⟨some 7, .bini .lss (.t 4) (.t 6), none⟩, ⟨some 8, .mov (.t 7), none⟩, ⟨some 9, .mov (.t 0), some (8, true)⟩, ⟨some 10, .len false (.t 9), some (8, true)⟩, ⟨some 11, .bini .leq (.t 10) (.c (.int .i64 (50))), some (8, true)⟩, ⟨some 12, .pick (.t 8) (.t 11) (.b false), none⟩])
 (.cond (.t 12)
 .skip
 (.exit 0)))
 (.seq (.block 1
 (.seq (.reg [⟨some 15, .mov (.t 0), none⟩, ⟨some 16, .mov (.t 3), none⟩, ⟨some 17, .iadr 4 (.t 15) (.t 16), none⟩, ⟨some 18, .fadr 1 (.t 17), none⟩, ⟨some 19, .load false 1 (.t 18), none⟩, ⟨some 20, .len true (.t 19), none⟩, ⟨some 21, .bini .gtr (.t 20) (.c (.int .i64 (100))), none⟩, ⟨some 22, .mov (.t 21), none⟩, ⟨some 23, .mov (.t 0), some (22, false)⟩, ⟨some 24, .mov (.t 3), some (22, false)⟩, ⟨some 25, .iadr 4 (.t 23) (.t 24), some (22, false)⟩, ⟨some 26, .fadr 2 (.t 25), some (22, false)⟩, ⟨some 27, .load false 1 (.t 26), some (22, false)⟩, ⟨some 28, .len true (.t 27), some (22, false)⟩, ⟨some 29, .bini .gtr (.t 28) (.c (.int .i64 (100))), some (22, false)⟩, ⟨some 30, .pick (.t 22) (.b true) (.t 29), none⟩])
 (.cond (.t 30)
 (.seq (.reg [⟨some 2, .mov (.b true), none⟩])
 .ret)
 .skip)))
 (.reg [⟨some 13, .mov (.t 3), none⟩, ⟨some 14, .bini .add (.t 13) (.c (.int .i64 (1))), none⟩, ⟨some 3, .mov (.t 14), none⟩]))))))
 (.seq (.reg [⟨some 31, .mov (.t 0), none⟩, ⟨some 32, .len false (.t 31), none⟩, ⟨some 33, .bini .gtr (.t 32) (.c (.int .i64 (50))), none⟩, ⟨some 2, .mov (.t 33), none⟩])
 .ret)))⟩
theorem t_hydrantref06_Big : trFn Try.prog 29 [] [[3]] = some f_hydrantref06_Big := by kernel_rfl

abbrev n_routes_fitting : Nat := 30
theorem k_routes_fitting : FnOk Try.prog 30 := FnOk.of (by kernel_rfl)
/-- hydrant/routes.fitting -/
def f_routes_fitting : FnI := ⟨10, [.tmp 8],
 (.seq (.reg [⟨some 4, .box 22 (.t 0), none⟩, ⟨some 5, .box 3 (.t 1), none⟩, ⟨some 6, .box 9 (.t 2), none⟩, ⟨some 7, .box 9 (.t 3), none⟩, ⟨some 8, .mov (.c .nilFunc), none⟩])
 (.seq (.reg [⟨some 9, .mkf (.func 51) [] [(.t 4), (.t 5), (.t 6), (.t 7)], none⟩, ⟨some 8, .mov (.t 9), none⟩])
 .ret))⟩
theorem t_routes_fitting : trFn Try.prog 30 [] [] = some f_routes_fitting := by kernel_rfl

abbrev n_hydrantref06_beaten : Nat := 31
theorem k_hydrantref06_beaten : FnOk Try.prog 31 := FnOk.of (by kernel_rfl)
/-- hydrant/hydrantref06.beaten -/
def f_hydrantref06_beaten : FnI := ⟨49, [.tmp 10],
 (.seq (.reg [⟨some 10, .mov (.b false), none⟩])
 (.seq (.seq (.reg [⟨some 11, .mov (.c (.int .i64 (0))), none⟩])
 (.block 0
 (.loop [11] [12, 13, 14, 15, 18, 19, 20, 21, 22, 23, 24, 25, 26, 27, 28, 29, 30, 31, 32, 33, 34, 35, 36, 37, 38, 39, 40, 41, 42, 43, 44, 45, 46, 47, 48, 10, 16, 17, 11]
 (.seq (.seq (.reg [⟨some 12, .mov (.t 11), none⟩, ⟨some 13, .mov (.t 0), none⟩, ⟨some 14, .len false (.t 13), none⟩, ⟨some 15, .bini .lss (.t 12) (.t 14), none⟩])
 (.cond (.t 15)
 .skip
 (.exit 0)))
 (.seq (.block 1
 (.seq (.regD [⟨some 18, .mov (.t 0), none⟩, ⟨some 19, .mov (.t 11), none⟩, ⟨some 20, .iadr 4 (.t 18) (.t 19), none⟩, ⟨some 21, .load true 4 (.t 20), none⟩, ⟨some 22, .mov (.t 2), none⟩, ⟨some 23, .mov (.t 3), none⟩, ⟨some 24, .mov (.t 4), none⟩, ⟨some 25, .call 18 [(.t 21), (.t 22), (.t 23), (.t 24)], none⟩, ⟨some 26, .mov (.t 25), none⟩, ⟨some 27, .mov (.t 0), some (26, true)⟩, ⟨some 28, .mov (.t 11), some (26, true)⟩, ⟨some 29, .iadr 4 (.t 27) (.t 28), some (26, true)⟩, ⟨some 30, .fadr 1 (.t 29), some (26, true)⟩, ⟨some 31, .load false 1 (.t 30), some (26, true)⟩, ⟨some 32, .mov (.t 0), some (26, true)⟩, ⟨some 33, .mov (.t 11), some (26, true)⟩, ⟨some 34, .iadr 4 (.t 32) (.t 33), some (26, true)⟩, ⟨some 35, .fadr 2 (.t 34), some (26, true)⟩, ⟨some 36, .load false 1 (.t 35), some (26, true)⟩, ⟨some 37, .mov (.t 0), some (26, true)⟩, ⟨some 38, .mov (.t 1), some (26, true)⟩, ⟨some 39, .iadr 4 (.t 37) (.t 38), some (26, true)⟩, ⟨some 40, .fadr 1 (.t 39), some (26, true)⟩, ⟨some 41, .load false 1 (.t 40), some (26, true)⟩, ⟨some 42, .mov (.t 0), some (26, true)⟩, ⟨some 43, .mov (.t 1), some (26, true)⟩, ⟨some 44, .iadr 4 (.t 42) (.t 43), some (26, true)⟩, ⟨some 45, .fadr 2 (.t 44), some (26, true)⟩, ⟨some 46, .load false 1 (.t 45), some (26, true)⟩, ⟨some 47, .call 52 [(.t 31), (.t 36), (.t 41), (.t 46)], some (26, true)⟩, ⟨some 48, .pick (.t 26) (.t 47) (.b false), none⟩])
 (.cond (.t 48)
 (.seq (.reg [⟨some 10, .mov (.b true), none⟩])
 .ret)
 .skip)))
 (.reg [⟨some 16, .mov (.t 11), none⟩, ⟨some 17, .bini .add (.t 16) (.c (.int .i64 (1))), none⟩, ⟨some 11, .mov (.t 17), none⟩]))))))
 (.seq (.reg [⟨some 10, .mov (.b false), none⟩])
 .ret)))⟩
theorem t_hydrantref06_beaten : trFn Try.prog 31 [[0, 1, 2, 3, 4, 5, 6, 7, 8, 9, 10, 11, 12, 13, 14, 15, 16, 17, 18, 19, 20, 21, 22, 23, 24, 25, 26, 27, 28, 29, 30]] [[11]] = some f_hydrantref06_beaten := by kernel_rfl

abbrev n_hydrantlaw06_plain : Nat := 32
theorem k_hydrantlaw06_plain : FnOk Try.prog 32 := FnOk.of (by kernel_rfl)
/-- hydrant/hydrantlaw06.plain -/
def f_hydrantlaw06_plain : FnI := ⟨6, [.tmp 0],
 (.seq (.reg [⟨some 0, .mov (.c (.slice none 0 0)), none⟩])
 (.seq (.reg [⟨some 1, .build [(.v (.int .i64 (0))), (.v (.string ⟨#[]⟩)), (.v (.string ⟨#[]⟩)), (.v (.int .i64 (0)))] [(1, 1, (.c (.string ⟨#[42]⟩))), (2, 1, (.c (.string ⟨#[47]⟩)))], none⟩, ⟨some 2, .build [(.v (.int .i64 (0))), (.v (.string ⟨#[]⟩)), (.v (.string ⟨#[]⟩)), (.v (.int .i64 (0)))] [(1, 1, (.c (.string ⟨#[42, 46, 98]⟩))), (2, 1, (.c (.string ⟨#[47]⟩)))], none⟩, ⟨some 3, .build [(.v (.int .i64 (0))), (.v (.string ⟨#[]⟩)), (.v (.string ⟨#[]⟩)), (.v (.int .i64 (0)))] [(1, 1, (.c (.string ⟨#[42]⟩))), (2, 1, (.c (.string ⟨#[47, 97]⟩))), (3, 1, (.c (.int .i64 (1))))], none⟩, ⟨some 4, .build [(.v (.int .i64 (0))), (.v (.string ⟨#[]⟩)), (.v (.string ⟨#[]⟩)), (.v (.int .i64 (0)))] [(0, 1, (.c (.int .i64 (1)))), (1, 1, (.c (.string ⟨#[97, 46, 98]⟩))), (2, 1, (.c (.string ⟨#[47]⟩)))], none⟩, ⟨some 5, .bsl 31 4 4 [(.v (.int .i64 (0))), (.v (.string ⟨#[]⟩)), (.v (.string ⟨#[]⟩)), (.v (.int .i64 (0))), (.v (.int .i64 (0))), (.v (.string ⟨#[]⟩)), (.v (.string ⟨#[]⟩)), (.v (.int .i64 (0))), (.v (.int .i64 (0))), (.v (.string ⟨#[]⟩)), (.v (.string ⟨#[]⟩)), (.v (.int .i64 (0))), (.v (.int .i64 (0))), (.v (.string ⟨#[]⟩)), (.v (.string ⟨#[]⟩)), (.v (.int .i64 (0)))] [(0, 4, (.t 1)), (4, 4, (.t 2)), (8, 4, (.t 3)), (12, 4, (.t 4))], none⟩, ⟨some 0, .mov (.t 5), none⟩])
 .ret))⟩
theorem t_hydrantlaw06_plain : trFn Try.prog 32 [] [] = some f_hydrantlaw06_plain := by kernel_rfl

abbrev n_hosts_Match : Nat := 33
theorem k_hosts_Match : FnOk Try.prog 33 := FnOk.of (by kernel_rfl)
/-- hydrant/hosts.Match -/
def f_hosts_Match : FnI := ⟨43, [.tmp 4],
 (.seq (.reg [⟨some 4, .mov (.b false), none⟩])
 (.seq (.seq (.reg [⟨some 7, .mov (.t 0), none⟩, ⟨some 8, .call 26 [(.t 7)], none⟩, ⟨some 9, .not (.t 8), none⟩, ⟨some 10, .mov (.t 9), none⟩, ⟨some 11, .mov (.t 1), some (10, false)⟩, ⟨some 12, .call 47 [(.t 11)], some (10, false)⟩, ⟨some 13, .not (.t 12), some (10, false)⟩, ⟨some 14, .pick (.t 10) (.b true) (.t 13), none⟩])
 (.cond (.t 14)
 (.seq (.reg [⟨some 4, .mov (.b false), none⟩])
 .ret)
 .skip))
 (.seq (.reg [⟨some 16, .mov (.t 0), none⟩, ⟨some 17, .call 46 [(.t 16), (.c (.string ⟨#[42]⟩))], none⟩, ⟨some 15, .mov (.t 17), none⟩, ⟨some 18, .ext 0 (.t 15), none⟩, ⟨some 19, .ext 1 (.t 15), none⟩, ⟨some 5, .mov (.t 18), none⟩, ⟨some 6, .mov (.t 19), none⟩])
 (.seq (.block 0
 (.seq (.block 2
 (.block 1
 (.seq (.seq (.seq (.reg [⟨some 21, .mov (.t 0), none⟩, ⟨some 22, .mov (.t 1), none⟩, ⟨some 23, .bins .eql (.t 21) (.t 22), none⟩, ⟨some 20, .mov (.t 23), none⟩])
 (.cond (.t 20)
 (.exit 1)
 .skip))
 (.seq (.reg [⟨some 25, .mov (.t 6), none⟩, ⟨some 26, .mov (.t 25), none⟩, ⟨some 27, .mov (.t 5), some (26, true)⟩, ⟨some 28, .bins .eql (.t 27) (.c (.string ⟨#[]⟩)), some (26, true)⟩, ⟨some 29, .pick (.t 26) (.t 28) (.b false), none⟩, ⟨some 24, .mov (.t 29), none⟩])
 (.cond (.t 24)
 (.exit 2)
 .skip)))
 (.exit 0))))
 (.seq (.seq (.reg [⟨some 4, .mov (.b true), none⟩])
 .ret)
 (.exit 0))))
 (.seq (.reg [⟨some 30, .mov (.t 6), none⟩, ⟨some 31, .mov (.t 30), none⟩, ⟨some 32, .mov (.t 1), some (31, true)⟩, ⟨some 33, .len true (.t 32), some (31, true)⟩, ⟨some 34, .mov (.t 5), some (31, true)⟩, ⟨some 35, .len true (.t 34), some (31, true)⟩, ⟨some 36, .bini .gtr (.t 33) (.t 35), some (31, true)⟩, ⟨some 37, .pick (.t 31) (.t 36) (.b false), none⟩, ⟨some 38, .mov (.t 37), none⟩, ⟨some 39, .mov (.t 1), some (38, true)⟩, ⟨some 40, .mov (.t 5), some (38, true)⟩, ⟨some 41, .call 53 [(.t 39), (.t 40)], some (38, true)⟩, ⟨some 42, .pick (.t 38) (.t 41) (.b false), none⟩, ⟨some 4, .mov (.t 42), none⟩])
 .ret)))))⟩
theorem t_hosts_Match : trFn Try.prog 33 [] [] = some f_hosts_Match := by kernel_rfl

abbrev n_hosts_Under : Nat := 34
theorem k_hosts_Under : FnOk Try.prog 34 := FnOk.of (by kernel_rfl)
/-- hydrant/hosts.Under -/
def f_hosts_Under : FnI := ⟨35, [.tmp 4],
 (.seq (.reg [⟨some 4, .mov (.b false), none⟩])
 (.seq (.seq (.reg [⟨some 7, .mov (.t 0), none⟩, ⟨some 8, .call 27 [(.t 7)], none⟩, ⟨some 9, .not (.t 8), none⟩, ⟨some 10, .mov (.t 9), none⟩, ⟨some 11, .mov (.t 1), some (10, false)⟩, ⟨some 12, .call 27 [(.t 11)], some (10, false)⟩, ⟨some 13, .not (.t 12), some (10, false)⟩, ⟨some 14, .pick (.t 10) (.b true) (.t 13), none⟩])
 (.cond (.t 14)
 (.seq (.reg [⟨some 4, .mov (.b false), none⟩])
 .ret)
 .skip))
 (.seq (.reg [⟨some 16, .mov (.t 0), none⟩, ⟨some 17, .mov (.t 1), none⟩, ⟨some 18, .call 46 [(.t 16), (.t 17)], none⟩, ⟨some 15, .mov (.t 18), none⟩, ⟨some 19, .ext 0 (.t 15), none⟩, ⟨some 20, .ext 1 (.t 15), none⟩, ⟨some 5, .mov (.t 19), none⟩, ⟨some 6, .mov (.t 20), none⟩])
 (.seq (.reg [⟨some 21, .mov (.t 6), none⟩, ⟨some 22, .mov (.t 21), none⟩, ⟨some 23, .mov (.t 5), some (22, true)⟩, ⟨some 24, .bins .eql (.t 23) (.c (.string ⟨#[]⟩)), some (22, true)⟩, ⟨some 25, .mov (.t 24), some (22, true)⟩, ⟨some 26, .mov (.t 1), some (25, false)⟩, ⟨some 27, .call 53 [(.t 26), (.c (.string ⟨#[47]⟩))], some (25, false)⟩, ⟨some 28, .pick (.t 25) (.b true) (.t 27), some (22, true)⟩, ⟨some 29, .mov (.t 28), some (22, true)⟩, ⟨some 30, .mov (.t 5), some (29, false)⟩, ⟨some 31, .idxs (.t 30) (.c (.int .i64 (0))), some (29, false)⟩, ⟨some 32, .bini .eql (.t 31) (.c (.int .u8 (47))), some (29, false)⟩, ⟨some 33, .pick (.t 29) (.b true) (.t 32), some (22, true)⟩, ⟨some 34, .pick (.t 22) (.t 33) (.b false), none⟩, ⟨some 4, .mov (.t 34), none⟩])
 .ret))))⟩
theorem t_hosts_Under : trFn Try.prog 34 [] [] = some f_hosts_Under := by kernel_rfl

abbrev n_hydrantref04_Match : Nat := 35
theorem k_hydrantref04_Match : FnOk Try.prog 35 := FnOk.of (by kernel_rfl)
/-- hydrant/hydrantref04.Match -/
def f_hydrantref04_Match : FnI := ⟨41, [.tmp 4],
 (.seq (.reg [⟨some 4, .mov (.b false), none⟩])
 (.seq (.seq (.reg [⟨some 7, .mov (.t 0), none⟩, ⟨some 8, .call 54 [(.t 7)], none⟩, ⟨some 9, .not (.t 8), none⟩, ⟨some 10, .mov (.t 9), none⟩, ⟨some 11, .mov (.t 1), some (10, false)⟩, ⟨some 12, .call 55 [(.t 11)], some (10, false)⟩, ⟨some 13, .not (.t 12), some (10, false)⟩, ⟨some 14, .pick (.t 10) (.b true) (.t 13), none⟩])
 (.cond (.t 14)
 (.seq (.reg [⟨some 4, .mov (.b false), none⟩])
 .ret)
 .skip))
 (.seq (.seq (.reg [⟨some 15, .mov (.t 0), none⟩, ⟨some 16, .bins .eql (.t 15) (.c (.string ⟨#[42]⟩)), none⟩, ⟨some 17, .mov (.t 16), none⟩, ⟨some 18, .mov (.t 0), some (17, false)⟩, ⟨some 19, .mov (.t 1), some (17, false)⟩, ⟨some 20, .bins .eql (.t 18) (.t 19), some (17, false)⟩, ⟨some 21, .pick (.t 17) (.b true) (.t 20), none⟩])
 (.cond (.t 21)
 (.seq (.reg [⟨some 4, .mov (.b true), none⟩])
 .ret)
 .skip))
 (.seq (.seq (.reg [⟨some 22, .mov (.t 0), none⟩, ⟨some 23, .idxs (.t 22) (.c (.int .i64 (0))), none⟩, ⟨some 24, .bini .neq (.t 23) (.c (.int .u8 (42))), none⟩])
 (.cond (.t 24)
 (.seq (.reg [⟨some 4, .mov (.b false), none⟩])
 .ret)
 .skip))
 (.seq (.reg [⟨some 25, .mov (.t 0), none⟩, ⟨some 26, .slcs (.t 25) (some (.c (.int .i64 (1)))) none, none⟩, ⟨some 5, .mov (.t 26), none⟩])
 (.seq (.reg [⟨some 27, .mov (.t 1), none⟩, ⟨some 28, .len true (.t 27), none⟩, ⟨some 29, .mov (.t 5), none⟩, ⟨some 30, .len true (.t 29), none⟩, ⟨some 31, .bini .sub (.t 28) (.t 30), none⟩, ⟨some 6, .mov (.t 31), none⟩])
 (.seq (.reg [⟨some 32, .mov (.t 6), none⟩, ⟨some 33, .bini .gtr (.t 32) (.c (.int .i64 (0))), none⟩, ⟨some 34, .mov (.t 33), none⟩, ⟨some 35, .mov (.t 1), some (34, true)⟩, ⟨some 36, .mov (.t 6), some (34, true)⟩, ⟨some 37, .slcs (.t 35) (some (.t 36)) none, some (34, true)⟩, ⟨some 38, .mov (.t 5), some (34, true)⟩, ⟨some 39, .bins .eql (.t 37) (.t 38), some (34, true)⟩, ⟨some 40, .pick (.t 34) (.t 39) (.b false), none⟩, ⟨some 4, .mov (.t 40), none⟩])
 .ret)))))))⟩
theorem t_hydrantref04_Match : trFn Try.prog 35 [] [] = some f_hydrantref04_Match := by kernel_rfl

abbrev n_hydrantref04_Under : Nat := 36
theorem k_hydrantref04_Under : FnOk Try.prog 36 := FnOk.of (by kernel_rfl)
/-- hydrant/hydrantref04.Under -/
def f_hydrantref04_Under : FnI := ⟨48, [.tmp 4],
 (.seq (.reg [⟨some 4, .mov (.b false), none⟩])
 (.seq (.seq (.reg [⟨some 5, .mov (.t 0), none⟩, ⟨some 6, .call 56 [(.t 5)], none⟩, ⟨some 7, .not (.t 6), none⟩, ⟨some 8, .mov (.t 7), none⟩, ⟨some 9, .mov (.t 1), some (8, false)⟩, ⟨some 10, .call 56 [(.t 9)], some (8, false)⟩, ⟨some 11, .not (.t 10), some (8, false)⟩, ⟨some 12, .pick (.t 8) (.b true) (.t 11), none⟩, ⟨some 13, .mov (.t 12), none⟩, ⟨some 14, .mov (.t 0), some (13, false)⟩, ⟨some 15, .len true (.t 14), some (13, false)⟩, ⟨some 16, .mov (.t 1), some (13, false)⟩, ⟨some 17, .len true (.t 16), some (13, false)⟩, ⟨some 18, .bini .lss (.t 15) (.t 17), some (13, false)⟩, ⟨some 19, .pick (.t 13) (.b true) (.t 18), none⟩, ⟨some 20, .mov (.t 19), none⟩, ⟨some 21, .mov (.t 0), some (20, false)⟩, ⟨some 22, .mov (.t 1), some (20, false)⟩, ⟨some 23, .len true (.t 22), some (20, false)⟩, ⟨some 24, .slcs (.t 21) none (some (.t 23)), some (20, false)⟩, ⟨some 25, .mov (.t 1), some (20, false)⟩, ⟨some 26, .bins .neq (.t 24) (.t 25), some (20, false)⟩, ⟨some 27, .pick (.t 20) (.b true) (.t 26), none⟩])
 (.cond (.t 27)
 (.seq (.reg [⟨some 4, .mov (.b false), none⟩])
 .ret)
 .skip))
 (.seq (.reg [⟨some 28, .mov (.t 0), none⟩, ⟨some 29, .len true (.t 28), none⟩, ⟨some 30, .mov (.t 1), none⟩, ⟨some 31, .len true (.t 30), none⟩, ⟨some 32, .bini .eql (.t 29) (.t 31), none⟩, ⟨some 33, .mov (.t 32), none⟩, ⟨some 34, .mov (.t 1), some (33, false)⟩, ⟨some 35, .mov (.t 1), some (33, false)⟩, ⟨some 36, .len true (.t 35), some (33, false)⟩, ⟨some 37, .bini .sub (.t 36) (.c (.int .i64 (1))), some (33, false)⟩, ⟨some 38, .idxs (.t 34) (.t 37), some (33, false)⟩, ⟨some 39, .bini .eql (.t 38) (.c (.int .u8 (47))), some (33, false)⟩, ⟨some 40, .pick (.t 33) (.b true) (.t 39), none⟩, ⟨some 41, .mov (.t 40), none⟩, ⟨some 42, .mov (.t 0), some (41, false)⟩, ⟨some 43, .mov (.t 1), some (41, false)⟩, ⟨some 44, .len true (.t 43), some (41, false)⟩, ⟨some 45, .idxs (.t 42) (.t 44), some (41, false)⟩, ⟨some 46, .bini .eql (.t 45) (.c (.int .u8 (47))), some (41, false)⟩, ⟨some 47, .pick (.t 41) (.b true) (.t 46), none⟩, ⟨some 4, .mov (.t 47), none⟩])
 .ret)))⟩
theorem t_hydrantref04_Under : trFn Try.prog 36 [] [] = some f_hydrantref04_Under := by kernel_rfl

abbrev n_hosts_Weight : Nat := 37
theorem k_hosts_Weight : FnOk Try.prog 37 := FnOk.of (by kernel_rfl)
/-- hydrant/hosts.Weight -/
def f_hosts_Weight : FnI := ⟨20, [.tmp 2],
 (.seq (.reg [⟨some 2, .mov (.c (.int .i64 (0))), none⟩])
 (.seq (.seq (.reg [⟨some 5, .mov (.t 0), none⟩, ⟨some 6, .call 26 [(.t 5)], none⟩, ⟨some 7, .not (.t 6), none⟩])
 (.cond (.t 7)
 (.seq (.reg [⟨some 2, .mov (.c (.int .i64 (0))), none⟩])
 .ret)
 .skip))
 (.seq (.reg [⟨some 9, .mov (.t 0), none⟩, ⟨some 10, .call 46 [(.t 9), (.c (.string ⟨#[42, 46]⟩))], none⟩, ⟨some 8, .mov (.t 10), none⟩, ⟨some 11, .ext 0 (.t 8), none⟩, ⟨some 12, .ext 1 (.t 8), none⟩, ⟨some 3, .mov (.t 11), none⟩, ⟨some 4, .mov (.t 12), none⟩])
 (.seq (.block 0
 (.seq (.reg [⟨some 14, .mov (.t 4), none⟩, ⟨some 13, .mov (.t 14), none⟩])
 (.cond (.t 13)
 (.seq (.reg [⟨some 15, .mov (.t 3), none⟩, ⟨some 16, .len true (.t 15), none⟩, ⟨some 2, .mov (.t 16), none⟩])
 .ret)
 (.seq (.reg [⟨some 18, .mov (.t 0), none⟩, ⟨some 19, .bins .eql (.t 18) (.c (.string ⟨#[42]⟩)), none⟩, ⟨some 17, .mov (.t 19), none⟩])
 (.cond (.t 17)
 (.seq (.reg [⟨some 2, .mov (.c (.int .i64 (0))), none⟩])
 .ret)
 .skip)))))
 (.seq (.reg [⟨some 2, .mov (.c (.int .i64 (100))), none⟩])
 .ret)))))⟩
theorem t_hosts_Weight : trFn Try.prog 37 [] [] = some f_hosts_Weight := by kernel_rfl

abbrev n_config_checker__size : Nat := 38
theorem k_config_checker__size : FnOk Try.prog 38 := FnOk.of (by kernel_rfl)
/-- (hydrant/config.checker).size -/
def f_config_checker__size : FnI := ⟨26, [.tmp 2, .tmp 3],
 (.seq (.reg [⟨some 1, .box 62 (.t 0), none⟩, ⟨some 2, .mov (.c (.int .i64 (0))), none⟩, ⟨some 3, .mov (.c (.int .i64 (0))), none⟩])
 (.seq (.seq (.reg [⟨some 4, .fadr 0 (.t 1), none⟩, ⟨some 5, .fadr 0 (.t 4), none⟩, ⟨some 6, .load false 1 (.t 5), none⟩, ⟨some 7, .len false (.t 6), none⟩, ⟨some 8, .call 57 [(.t 7), (.c (.int .i64 (1))), (.c (.int .i64 (4)))], none⟩, ⟨some 9, .not (.t 8), none⟩, ⟨some 10, .mov (.t 9), none⟩, ⟨some 11, .fadr 0 (.t 1), some (10, false)⟩, ⟨some 12, .fadr 1 (.t 11), some (10, false)⟩, ⟨some 13, .load false 1 (.t 12), some (10, false)⟩, ⟨some 14, .len false (.t 13), some (10, false)⟩, ⟨some 15, .call 57 [(.t 14), (.c (.int .i64 (1))), (.c (.int .i64 (8)))], some (10, false)⟩, ⟨some 16, .not (.t 15), some (10, false)⟩, ⟨some 17, .pick (.t 10) (.b true) (.t 16), none⟩, ⟨some 18, .mov (.t 17), none⟩, ⟨some 19, .fadr 0 (.t 1), some (18, false)⟩, ⟨some 20, .fadr 2 (.t 19), some (18, false)⟩, ⟨some 21, .load false 1 (.t 20), some (18, false)⟩, ⟨some 22, .len false (.t 21), some (18, false)⟩, ⟨some 23, .call 57 [(.t 22), (.c (.int .i64 (1))), (.c (.int .i64 (4)))], some (18, false)⟩, ⟨some 24, .not (.t 23), some (18, false)⟩, ⟨some 25, .pick (.t 18) (.b true) (.t 24), none⟩])
 (.cond (.t 25)
 (.seq (.reg [⟨some 2, .mov (.c (.int .i64 (6))), none⟩, ⟨some 3, .mov (.c (.int .i64 (0))), none⟩])
 .ret)
 .skip))
 (.seq (.reg [⟨some 2, .mov (.c (.int .i64 (0))), none⟩, ⟨some 3, .mov (.c (.int .i64 (0))), none⟩])
 .ret)))⟩
theorem t_config_checker__size : trFn Try.prog 38 [] [] = some f_config_checker__size := by kernel_rfl

abbrev n_config_checker__listens : Nat := 39
theorem k_config_checker__listens : FnOk Try.prog 39 := FnOk.of (by kernel_rfl)
/-- (hydrant/config.checker).listens -/
def f_config_checker__listens : FnI := ⟨30, [.tmp 2, .tmp 3],
 (.seq (.reg [⟨some 1, .box 62 (.t 0), none⟩, ⟨some 2, .mov (.c (.int .i64 (0))), none⟩, ⟨some 3, .mov (.c (.int .i64 (0))), none⟩])
 (.seq (.seq (.reg [⟨some 6, .fadr 0 (.t 1), none⟩, ⟨some 7, .fadr 0 (.t 6), none⟩, ⟨some 8, .load false 1 (.t 7), none⟩, ⟨some 9, .len false (.t 8), none⟩, ⟨some 10, .mov (.c (.int .i64 (0))), none⟩])
 (.block 0
 (.loop [10] [11, 12, 13, 14, 4, 5, 16, 17, 18, 15, 19, 2, 3, 21, 22, 23, 24, 25, 26, 27, 20, 28, 29, 10]
 (.seq (.reg [⟨some 11, .bini .lss (.t 10) (.t 9), none⟩])
 (.seq (.cond (.t 11)
 .skip
 (.exit 0))
 (.seq (.block 1
 (.seq (.reg [⟨some 12, .mov (.t 10), none⟩, ⟨some 13, .iadr 1 (.t 8) (.t 10), none⟩, ⟨some 14, .load false 1 (.t 13), none⟩, ⟨some 4, .mov (.t 12), none⟩, ⟨some 5, .mov (.t 14), none⟩])
 (.block 2
 (.seq (.reg [⟨some 16, .mov (.t 5), none⟩, ⟨some 17, .call 28 [(.t 16)], none⟩, ⟨some 18, .not (.t 17), none⟩, ⟨some 15, .mov (.t 18), none⟩])
 (.cond (.t 15)
 (.seq (.reg [⟨some 19, .mov (.t 4), none⟩, ⟨some 2, .mov (.c (.int .i64 (3))), none⟩, ⟨some 3, .mov (.t 19), none⟩])
 .ret)
 (.seq (.reg [⟨some 21, .fadr 0 (.t 1), none⟩, ⟨some 22, .fadr 0 (.t 21), none⟩, ⟨some 23, .load false 1 (.t 22), none⟩, ⟨some 24, .mov (.t 4), none⟩, ⟨some 25, .slc 1 (.t 23) none (some (.t 24)) none, none⟩, ⟨some 26, .mov (.t 5), none⟩, ⟨some 27, .call 58 [(.t 25), (.t 26)], none⟩, ⟨some 20, .mov (.t 27), none⟩])
 (.cond (.t 20)
 (.seq (.reg [⟨some 28, .mov (.t 4), none⟩, ⟨some 2, .mov (.c (.int .i64 (4))), none⟩, ⟨some 3, .mov (.t 28), none⟩])
 .ret)
 .skip)))))))
 (.reg [⟨some 29, .bini .add (.t 10) (.c (.int .i64 (1))), none⟩, ⟨some 10, .mov (.t 29), none⟩])))))))
 (.seq (.reg [⟨some 2, .mov (.c (.int .i64 (0))), none⟩, ⟨some 3, .mov (.c (.int .i64 (0))), none⟩])
 .ret)))⟩
theorem t_config_checker__listens : trFn Try.prog 39 [] [[10]] = some f_config_checker__listens := by kernel_rfl

abbrev n_config_checker__clusters : Nat := 40
theorem k_config_checker__clusters : FnOk Try.prog 40 := FnOk.of (by kernel_rfl)
/-- (hydrant/config.checker).clusters -/
def f_config_checker__clusters : FnI := ⟨55, [.tmp 2, .tmp 3],
 (.seq (.reg [⟨some 1, .box 62 (.t 0), none⟩, ⟨some 2, .mov (.c (.int .i64 (0))), none⟩, ⟨some 3, .mov (.c (.int .i64 (0))), none⟩])
 (.seq (.seq (.reg [⟨some 6, .fadr 0 (.t 1), none⟩, ⟨some 7, .fadr 2 (.t 6), none⟩, ⟨some 8, .load false 1 (.t 7), none⟩, ⟨some 9, .len false (.t 8), none⟩, ⟨some 10, .mov (.c (.int .i64 (0))), none⟩])
 (.block 0
 (.loop [10] [11, 12, 13, 14, 5, 4, 16, 17, 18, 19, 15, 20, 2, 3, 22, 23, 24, 25, 26, 27, 28, 29, 21, 30, 32, 33, 34, 35, 36, 37, 38, 39, 31, 40, 42, 43, 44, 45, 41, 46, 48, 49, 50, 51, 52, 47, 53, 54, 10]
 (.seq (.reg [⟨some 11, .bini .lss (.t 10) (.t 9), none⟩])
 (.seq (.cond (.t 11)
 .skip
 (.exit 0))
 (.seq (.block 1
 (.seq (.reg [⟨some 12, .mov (.t 10), none⟩, ⟨some 13, .iadr 4 (.t 8) (.t 10), none⟩, ⟨some 14, .load true 4 (.t 13), none⟩, ⟨some 5, .alloc 46 [(.v (.string ⟨#[]⟩)), (.v (.int .i64 (0))), (.v (.int .i64 (0))), (.v (.slice none 0 0))], none⟩, ⟨some 4, .mov (.t 12), none⟩, ⟨none, .store 4 (.t 5) (.t 14), none⟩])
 (.block 2
 (.seq (.reg [⟨some 16, .fadr 0 (.t 5), none⟩, ⟨some 17, .load false 1 (.t 16), none⟩, ⟨some 18, .call 28 [(.t 17)], none⟩, ⟨some 19, .not (.t 18), none⟩, ⟨some 15, .mov (.t 19), none⟩])
 (.cond (.t 15)
 (.seq (.reg [⟨some 20, .mov (.t 4), none⟩, ⟨some 2, .mov (.c (.int .i64 (3))), none⟩, ⟨some 3, .mov (.t 20), none⟩])
 .ret)
 (.seq (.regD [⟨some 22, .fadr 0 (.t 1), none⟩, ⟨some 23, .fadr 2 (.t 22), none⟩, ⟨some 24, .load false 1 (.t 23), none⟩, ⟨some 25, .mov (.t 4), none⟩, ⟨some 26, .slc 4 (.t 24) none (some (.t 25)) none, none⟩, ⟨some 27, .fadr 0 (.t 5), none⟩, ⟨some 28, .load false 1 (.t 27), none⟩, ⟨some 29, .call 59 [(.t 26), (.t 28)], none⟩, ⟨some 21, .mov (.t 29), none⟩])
 (.cond (.t 21)
 (.seq (.reg [⟨some 30, .mov (.t 4), none⟩, ⟨some 2, .mov (.c (.int .i64 (4))), none⟩, ⟨some 3, .mov (.t 30), none⟩])
 .ret)
 (.seq (.reg [⟨some 32, .fadr 1 (.t 5), none⟩, ⟨some 33, .load false 1 (.t 32), none⟩, ⟨some 34, .bini .neq (.t 33) (.c (.int .i64 (1))), none⟩, ⟨some 35, .mov (.t 34), none⟩, ⟨some 36, .fadr 1 (.t 5), some (35, true)⟩, ⟨some 37, .load false 1 (.t 36), some (35, true)⟩, ⟨some 38, .bini .neq (.t 37) (.c (.int .i64 (2))), some (35, true)⟩, ⟨some 39, .pick (.t 35) (.t 38) (.b false), none⟩, ⟨some 31, .mov (.t 39), none⟩])
 (.cond (.t 31)
 (.seq (.reg [⟨some 40, .mov (.t 4), none⟩, ⟨some 2, .mov (.c (.int .i64 (9))), none⟩, ⟨some 3, .mov (.t 40), none⟩])
 .ret)
 (.seq (.reg [⟨some 42, .fadr 2 (.t 5), none⟩, ⟨some 43, .load false 1 (.t 42), none⟩, ⟨some 44, .call 57 [(.t 43), (.c (.int .i64 (1))), (.c (.int .i64 (4)))], none⟩, ⟨some 45, .not (.t 44), none⟩, ⟨some 41, .mov (.t 45), none⟩])
 (.cond (.t 41)
 (.seq (.reg [⟨some 46, .mov (.t 4), none⟩, ⟨some 2, .mov (.c (.int .i64 (10))), none⟩, ⟨some 3, .mov (.t 46), none⟩])
 .ret)
 (.seq (.reg [⟨some 48, .fadr 3 (.t 5), none⟩, ⟨some 49, .load false 1 (.t 48), none⟩, ⟨some 50, .len false (.t 49), none⟩, ⟨some 51, .call 57 [(.t 50), (.c (.int .i64 (1))), (.c (.int .i64 (4)))], none⟩, ⟨some 52, .not (.t 51), none⟩, ⟨some 47, .mov (.t 52), none⟩])
 (.cond (.t 47)
 (.seq (.reg [⟨some 53, .mov (.t 4), none⟩, ⟨some 2, .mov (.c (.int .i64 (6))), none⟩, ⟨some 3, .mov (.t 53), none⟩])
 .ret)
 .skip)))))))))))))
 (.reg [⟨some 54, .bini .add (.t 10) (.c (.int .i64 (1))), none⟩, ⟨some 10, .mov (.t 54), none⟩])))))))
 (.seq (.reg [⟨some 2, .mov (.c (.int .i64 (0))), none⟩, ⟨some 3, .mov (.c (.int .i64 (0))), none⟩])
 .ret)))⟩
theorem t_config_checker__clusters : trFn Try.prog 40 [[0, 1, 2, 3, 4, 5, 6, 7, 8]] [[10]] = some f_config_checker__clusters := by kernel_rfl

abbrev n_config_checker__routes : Nat := 41
theorem k_config_checker__routes : FnOk Try.prog 41 := FnOk.of (by kernel_rfl)
/-- (hydrant/config.checker).routes -/
def f_config_checker__routes : FnI := ⟨65, [.tmp 2, .tmp 3],
 (.seq (.reg [⟨some 1, .box 62 (.t 0), none⟩, ⟨some 2, .mov (.c (.int .i64 (0))), none⟩, ⟨some 3, .mov (.c (.int .i64 (0))), none⟩])
 (.seq (.seq (.reg [⟨some 8, .fadr 0 (.t 1), none⟩, ⟨some 9, .fadr 1 (.t 8), none⟩, ⟨some 10, .load false 1 (.t 9), none⟩, ⟨some 11, .len false (.t 10), none⟩, ⟨some 12, .mov (.c (.int .i64 (0))), none⟩])
 (.block 0
 (.loop [12] [13, 14, 15, 16, 5, 4, 18, 19, 20, 21, 22, 23, 24, 17, 25, 2, 3, 27, 28, 29, 30, 26, 31, 33, 34, 35, 36, 32, 37, 39, 40, 41, 42, 43, 44, 45, 38, 46, 47, 48, 49, 50, 51, 52, 53, 54, 55, 56, 57, 7, 58, 59, 60, 61, 62, 63, 64, 12]
 (.seq (.reg [⟨some 13, .bini .lss (.t 12) (.t 11), none⟩])
 (.seq (.cond (.t 13)
 .skip
 (.exit 0))
 (.seq (.block 1
 (.seq (.reg [⟨some 14, .mov (.t 12), none⟩, ⟨some 15, .iadr 4 (.t 10) (.t 12), none⟩, ⟨some 16, .load true 4 (.t 15), none⟩, ⟨some 5, .alloc 48 [(.v (.string ⟨#[]⟩)), (.v (.string ⟨#[]⟩)), (.v (.string ⟨#[]⟩)), (.v (.string ⟨#[]⟩))], none⟩, ⟨some 4, .mov (.t 14), none⟩, ⟨none, .store 4 (.t 5) (.t 16), none⟩])
 (.seq (.block 2
 (.seq (.reg [⟨some 18, .fadr 0 (.t 1), none⟩, ⟨some 19, .fadr 0 (.t 18), none⟩, ⟨some 20, .load false 1 (.t 19), none⟩, ⟨some 21, .fadr 0 (.t 5), none⟩, ⟨some 22, .load false 1 (.t 21), none⟩, ⟨some 23, .call 58 [(.t 20), (.t 22)], none⟩, ⟨some 24, .not (.t 23), none⟩, ⟨some 17, .mov (.t 24), none⟩])
 (.cond (.t 17)
 (.seq (.reg [⟨some 25, .mov (.t 4), none⟩, ⟨some 2, .mov (.c (.int .i64 (5))), none⟩, ⟨some 3, .mov (.t 25), none⟩])
 .ret)
 (.seq (.reg [⟨some 27, .fadr 1 (.t 5), none⟩, ⟨some 28, .load false 1 (.t 27), none⟩, ⟨some 29, .call 26 [(.t 28)], none⟩, ⟨some 30, .not (.t 29), none⟩, ⟨some 26, .mov (.t 30), none⟩])
 (.cond (.t 26)
 (.seq (.reg [⟨some 31, .mov (.t 4), none⟩, ⟨some 2, .mov (.c (.int .i64 (7))), none⟩, ⟨some 3, .mov (.t 31), none⟩])
 .ret)
 (.seq (.reg [⟨some 33, .fadr 2 (.t 5), none⟩, ⟨some 34, .load false 1 (.t 33), none⟩, ⟨some 35, .call 27 [(.t 34)], none⟩, ⟨some 36, .not (.t 35), none⟩, ⟨some 32, .mov (.t 36), none⟩])
 (.cond (.t 32)
 (.seq (.reg [⟨some 37, .mov (.t 4), none⟩, ⟨some 2, .mov (.c (.int .i64 (8))), none⟩, ⟨some 3, .mov (.t 37), none⟩])
 .ret)
 (.seq (.reg [⟨some 39, .fadr 0 (.t 1), none⟩, ⟨some 40, .fadr 2 (.t 39), none⟩, ⟨some 41, .load false 1 (.t 40), none⟩, ⟨some 42, .fadr 3 (.t 5), none⟩, ⟨some 43, .load false 1 (.t 42), none⟩, ⟨some 44, .call 59 [(.t 41), (.t 43)], none⟩, ⟨some 45, .not (.t 44), none⟩, ⟨some 38, .mov (.t 45), none⟩])
 (.cond (.t 38)
 (.seq (.reg [⟨some 46, .mov (.t 4), none⟩, ⟨some 2, .mov (.c (.int .i64 (5))), none⟩, ⟨some 3, .mov (.t 46), none⟩])
 .ret)
 .skip)))))))))
 (.seq (.reg [⟨some 47, .fadr 3 (.t 5), none⟩, ⟨none, .store 1 (.t 47) (.c (.string ⟨#[]⟩)), none⟩])
 (.seq (.reg [⟨some 48, .fadr 0 (.t 1), none⟩, ⟨some 49, .fadr 1 (.t 48), none⟩, ⟨some 50, .load false 1 (.t 49), none⟩, ⟨some 51, .mov (.t 4), none⟩, ⟨some 52, .slc 4 (.t 50) none (some (.t 51)) none, none⟩, ⟨some 53, .len false (.t 52), none⟩, ⟨some 54, .mov (.c (.int .i64 (0))), none⟩])
 (.block 3
 (.loop [54] [55, 56, 57, 7, 58, 59, 60, 61, 62, 2, 3, 63, 54]
 (.seq (.reg [⟨some 55, .bini .lss (.t 54) (.t 53), none⟩])
 (.seq (.cond (.t 55)
 .skip
 (.exit 3))
 (.seq (.block 4
 (.seq (.reg [⟨some 56, .iadr 4 (.t 52) (.t 54), none⟩, ⟨some 57, .load true 4 (.t 56), none⟩, ⟨some 7, .alloc 48 [(.v (.string ⟨#[]⟩)), (.v (.string ⟨#[]⟩)), (.v (.string ⟨#[]⟩)), (.v (.string ⟨#[]⟩))], none⟩, ⟨none, .store 4 (.t 7) (.t 57), none⟩])
 (.seq (.reg [⟨some 58, .fadr 3 (.t 7), none⟩, ⟨none, .store 1 (.t 58) (.c (.string ⟨#[]⟩)), none⟩])
 (.seq (.reg [⟨some 59, .load true 4 (.t 7), none⟩, ⟨some 60, .load true 4 (.t 5), none⟩, ⟨some 61, .binst false [1, 1, 1, 1] (.t 59) (.t 60), none⟩])
 (.cond (.t 61)
 (.seq (.reg [⟨some 62, .mov (.t 4), none⟩, ⟨some 2, .mov (.c (.int .i64 (4))), none⟩, ⟨some 3, .mov (.t 62), none⟩])
 .ret)
 .skip)))))
 (.reg [⟨some 63, .bini .add (.t 54) (.c (.int .i64 (1))), none⟩, ⟨some 54, .mov (.t 63), none⟩])))))))))))
 (.reg [⟨some 64, .bini .add (.t 12) (.c (.int .i64 (1))), none⟩, ⟨some 12, .mov (.t 64), none⟩])))))))
 (.seq (.reg [⟨some 2, .mov (.c (.int .i64 (0))), none⟩, ⟨some 3, .mov (.c (.int .i64 (0))), none⟩])
 .ret)))⟩
theorem t_config_checker__routes : trFn Try.prog 41 [] [[12], [54]] = some f_config_checker__routes := by kernel_rfl

abbrev n_hydrantref05_listens : Nat := 42
theorem k_hydrantref05_listens : FnOk Try.prog 42 := FnOk.of (by kernel_rfl)
/-- hydrant/hydrantref05.listens -/
def f_hydrantref05_listens : FnI := ⟨38, [.tmp 2, .tmp 3],
 (.seq (.reg [⟨some 1, .box 40 (.t 0), none⟩, ⟨some 2, .mov (.c (.int .i64 (0))), none⟩, ⟨some 3, .mov (.c (.int .i64 (0))), none⟩])
 (.seq (.seq (.reg [⟨some 4, .mov (.c (.int .i64 (0))), none⟩])
 (.block 0
 (.loop [4] [6, 7, 8, 9, 10, 13, 14, 15, 16, 17, 18, 19, 20, 2, 3, 5, 21, 22, 23, 26, 27, 28, 29, 30, 31, 32, 33, 34, 35, 36, 37, 24, 25, 11, 12, 4]
 (.seq (.seq (.reg [⟨some 6, .mov (.t 4), none⟩, ⟨some 7, .fadr 0 (.t 1), none⟩, ⟨some 8, .load false 1 (.t 7), none⟩, ⟨some 9, .len false (.t 8), none⟩, ⟨some 10, .bini .lss (.t 6) (.t 9), none⟩])
 (.cond (.t 10)
 .skip
 (.exit 0)))
 (.seq (.block 1
 (.seq (.seq (.reg [⟨some 13, .fadr 0 (.t 1), none⟩, ⟨some 14, .load false 1 (.t 13), none⟩, ⟨some 15, .mov (.t 4), none⟩, ⟨some 16, .iadr 1 (.t 14) (.t 15), none⟩, ⟨some 17, .load false 1 (.t 16), none⟩, ⟨some 18, .call 60 [(.t 17)], none⟩, ⟨some 19, .not (.t 18), none⟩])
 (.cond (.t 19)
 (.seq (.reg [⟨some 20, .mov (.t 4), none⟩, ⟨some 2, .mov (.c (.int .i64 (3))), none⟩, ⟨some 3, .mov (.t 20), none⟩])
 .ret)
 .skip))
 (.seq (.reg [⟨some 5, .mov (.c (.int .i64 (0))), none⟩])
 (.block 2
 (.loop [5] [21, 22, 23, 26, 27, 28, 29, 30, 31, 32, 33, 34, 35, 36, 37, 2, 3, 24, 25, 5]
 (.seq (.seq (.reg [⟨some 21, .mov (.t 5), none⟩, ⟨some 22, .mov (.t 4), none⟩, ⟨some 23, .bini .lss (.t 21) (.t 22), none⟩])
 (.cond (.t 23)
 .skip
 (.exit 2)))
 (.seq (.block 3
 (.seq (.regD [⟨some 26, .fadr 0 (.t 1), none⟩, ⟨some 27, .load false 1 (.t 26), none⟩, ⟨some 28, .mov (.t 5), none⟩, ⟨some 29, .iadr 1 (.t 27) (.t 28), none⟩, ⟨some 30, .load false 1 (.t 29), none⟩, ⟨some 31, .fadr 0 (.t 1), none⟩, ⟨some 32, .load false 1 (.t 31), none⟩, ⟨some 33, .mov (.t 4), none⟩, ⟨some 34, .iadr 1 (.t 32) (.t 33), none⟩, ⟨some 35, .load false 1 (.t 34), none⟩, ⟨some 36, .bins .eql (.t 30) (.t 35), none⟩])
 (.cond (.t 36)
 (.seq (.reg [⟨some 37, .mov (.t 4), none⟩, ⟨some 2, .mov (.c (.int .i64 (4))), none⟩, ⟨some 3, .mov (.t 37), none⟩])
 .ret)
 .skip)))
 (.reg [⟨some 24, .mov (.t 5), none⟩, ⟨some 25, .bini .add (.t 24) (.c (.int .i64 (1))), none⟩, ⟨some 5, .mov (.t 25), none⟩]))))))))
 (.reg [⟨some 11, .mov (.t 4), none⟩, ⟨some 12, .bini .add (.t 11) (.c (.int .i64 (1))), none⟩, ⟨some 4, .mov (.t 12), none⟩]))))))
 (.seq (.reg [⟨some 2, .mov (.c (.int .i64 (0))), none⟩, ⟨some 3, .mov (.c (.int .i64 (0))), none⟩])
 .ret)))⟩
theorem t_hydrantref05_listens : trFn Try.prog 42 [[0, 1, 2, 3, 4, 5, 6, 7, 8, 9, 10]] [[4], [5]] = some f_hydrantref05_listens := by kernel_rfl

abbrev n_hydrantref05_clusters : Nat := 43
theorem k_hydrantref05_clusters : FnOk Try.prog 43 := FnOk.of (by kernel_rfl)
/-- hydrant/hydrantref05.clusters -/
def f_hydrantref05_clusters : FnI := ⟨68, [.tmp 2, .tmp 3],
 (.seq (.reg [⟨some 1, .box 40 (.t 0), none⟩, ⟨some 2, .mov (.c (.int .i64 (0))), none⟩, ⟨some 3, .mov (.c (.int .i64 (0))), none⟩])
 (.seq (.seq (.reg [⟨some 4, .mov (.c (.int .i64 (0))), none⟩])
 (.block 0
 (.loop [4] [7, 8, 9, 10, 11, 14, 15, 16, 17, 18, 5, 19, 20, 21, 22, 23, 2, 3, 6, 24, 25, 26, 29, 30, 31, 32, 33, 34, 35, 36, 37, 38, 27, 28, 39, 40, 41, 42, 43, 44, 45, 46, 47, 48, 49, 50, 51, 52, 53, 54, 55, 56, 57, 58, 59, 60, 61, 62, 63, 64, 65, 66, 67, 12, 13, 4]
 (.seq (.seq (.reg [⟨some 7, .mov (.t 4), none⟩, ⟨some 8, .fadr 2 (.t 1), none⟩, ⟨some 9, .load false 1 (.t 8), none⟩, ⟨some 10, .len false (.t 9), none⟩, ⟨some 11, .bini .lss (.t 7) (.t 10), none⟩])
 (.cond (.t 11)
 .skip
 (.exit 0)))
 (.seq (.block 1
 (.seq (.reg [⟨some 14, .fadr 2 (.t 1), none⟩, ⟨some 15, .load false 1 (.t 14), none⟩, ⟨some 16, .mov (.t 4), none⟩, ⟨some 17, .iadr 4 (.t 15) (.t 16), none⟩, ⟨some 18, .load true 4 (.t 17), none⟩, ⟨some 5, .alloc 46 [(.v (.string ⟨#[]⟩)), (.v (.int .i64 (0))), (.v (.int .i64 (0))), (.v (.slice none 0 0))], none⟩, ⟨none, .store 4 (.t 5) (.t 18), none⟩])
 (.seq (.seq (.reg [⟨some 19, .fadr 0 (.t 5), none⟩, ⟨some 20, .load false 1 (.t 19), none⟩, ⟨some 21, .call 60 [(.t 20)], none⟩, ⟨some 22, .not (.t 21), none⟩])
 (.cond (.t 22)
 (.seq (.reg [⟨some 23, .mov (.t 4), none⟩, ⟨some 2, .mov (.c (.int .i64 (3))), none⟩, ⟨some 3, .mov (.t 23), none⟩])
 .ret)
 .skip))
 (.seq (.seq (.reg [⟨some 6, .mov (.c (.int .i64 (0))), none⟩])
 (.block 2
 (.loop [6] [24, 25, 26, 29, 30, 31, 32, 33, 34, 35, 36, 37, 38, 2, 3, 27, 28, 6]
 (.seq (.seq (.reg [⟨some 24, .mov (.t 6), none⟩, ⟨some 25, .mov (.t 4), none⟩, ⟨some 26, .bini .lss (.t 24) (.t 25), none⟩])
 (.cond (.t 26)
 .skip
 (.exit 2)))
 (.seq (.block 3
 (.seq (.regD [⟨some 29, .fadr 2 (.t 1), none⟩, ⟨some 30, .load false 1 (.t 29), none⟩, ⟨some 31, .mov (.t 6), none⟩, ⟨some 32, .iadr 4 (.t 30) (.t 31), none⟩, ⟨some 33, .fadr 0 (.t 32), none⟩, ⟨some 34, .load false 1 (.t 33), none⟩, ⟨some 35, .fadr 0 (.t 5), none⟩, ⟨some 36, .load false 1 (.t 35), none⟩, ⟨some 37, .bins .eql (.t 34) (.t 36), none⟩])
 (.cond (.t 37)
 (.seq (.reg [⟨some 38, .mov (.t 4), none⟩, ⟨some 2, .mov (.c (.int .i64 (4))), none⟩, ⟨some 3, .mov (.t 38), none⟩])
 .ret)
 .skip)))
 (.reg [⟨some 27, .mov (.t 6), none⟩, ⟨some 28, .bini .add (.t 27) (.c (.int .i64 (1))), none⟩, ⟨some 6, .mov (.t 28), none⟩]))))))
 (.seq (.seq (.reg [⟨some 39, .fadr 1 (.t 5), none⟩, ⟨some 40, .load false 1 (.t 39), none⟩, ⟨some 41, .bini .neq (.t 40) (.c (.int .i64 (1))), none⟩, ⟨some 42, .mov (.t 41), none⟩, ⟨some 43, .fadr 1 (.t 5), some (42, true)⟩, ⟨some 44, .load false 1 (.t 43), some (42, true)⟩, ⟨some 45, .bini .neq (.t 44) (.c (.int .i64 (2))), some (42, true)⟩, ⟨some 46, .pick (.t 42) (.t 45) (.b false), none⟩])
 (.cond (.t 46)
 (.seq (.reg [⟨some 47, .mov (.t 4), none⟩, ⟨some 2, .mov (.c (.int .i64 (9))), none⟩, ⟨some 3, .mov (.t 47), none⟩])
 .ret)
 .skip))
 (.seq (.seq (.reg [⟨some 48, .fadr 2 (.t 5), none⟩, ⟨some 49, .load false 1 (.t 48), none⟩, ⟨some 50, .bini .lss (.t 49) (.c (.int .i64 (1))), none⟩, ⟨some 51, .mov (.t 50), none⟩, ⟨some 52, .fadr 2 (.t 5), some (51, false)⟩, ⟨some 53, .load false 1 (.t 52), some (51, false)⟩, ⟨some 54, .bini .gtr (.t 53) (.c (.int .i64 (4))), some (51, false)⟩, ⟨some 55, .pick (.t 51) (.b true) (.t 54), none⟩])
 (.cond (.t 55)
 (.seq (.reg [⟨some 56, .mov (.t 4), none⟩, ⟨some 2, .mov (.c (.int .i64 (10))), none⟩, ⟨some 3, .mov (.t 56), none⟩])
 .ret)
 .skip))
 (.seq (.reg [⟨some 57, .fadr 3 (.t 5), none⟩, ⟨some 58, .load false 1 (.t 57), none⟩, ⟨some 59, .len false (.t 58), none⟩, ⟨some 60, .bini .lss (.t 59) (.c (.int .i64 (1))), none⟩, ⟨some 61, .mov (.t 60), none⟩, ⟨some 62, .fadr 3 (.t 5), some (61, false)⟩, ⟨some 63, .load false 1 (.t 62), some (61, false)⟩, ⟨some 64, .len false (.t 63), some (61, false)⟩, ⟨some 65, .bini .gtr (.t 64) (.c (.int .i64 (4))), some (61, false)⟩, ⟨some 66, .pick (.t 61) (.b true) (.t 65), none⟩])
 (.cond (.t 66)
 (.seq (.reg [⟨some 67, .mov (.t 4), none⟩, ⟨some 2, .mov (.c (.int .i64 (6))), none⟩, ⟨some 3, .mov (.t 67), none⟩])
 .ret)
 .skip))))))))
 (.reg [⟨some 12, .mov (.t 4), none⟩, ⟨some 13, .bini .add (.t 12) (.c (.int .i64 (1))), none⟩, ⟨some 4, .mov (.t 13), none⟩]))))))
 (.seq (.reg [⟨some 2, .mov (.c (.int .i64 (0))), none⟩, ⟨some 3, .mov (.c (.int .i64 (0))), none⟩])
 .ret)))⟩
theorem t_hydrantref05_clusters : trFn Try.prog 43 [[0, 1, 2, 3, 4, 5, 6, 7, 8]] [[4], [6]] = some f_hydrantref05_clusters := by kernel_rfl

abbrev n_hydrantref05_routes : Nat := 44
theorem k_hydrantref05_routes : FnOk Try.prog 44 := FnOk.of (by kernel_rfl)
/-- hydrant/hydrantref05.routes -/
def f_hydrantref05_routes : FnI := ⟨74, [.tmp 2, .tmp 3],
 (.seq (.reg [⟨some 1, .box 40 (.t 0), none⟩, ⟨some 2, .mov (.c (.int .i64 (0))), none⟩, ⟨some 3, .mov (.c (.int .i64 (0))), none⟩])
 (.seq (.seq (.reg [⟨some 4, .mov (.c (.int .i64 (0))), none⟩])
 (.block 0
 (.loop [4] [8, 9, 10, 11, 12, 15, 16, 17, 18, 19, 5, 20, 21, 22, 23, 24, 25, 26, 2, 3, 27, 28, 29, 30, 31, 32, 33, 34, 35, 36, 37, 38, 39, 40, 41, 42, 43, 6, 44, 45, 46, 49, 50, 51, 52, 53, 7, 54, 55, 56, 57, 58, 59, 60, 61, 62, 63, 64, 65, 66, 67, 68, 69, 70, 71, 72, 73, 47, 48, 13, 14, 4]
 (.seq (.seq (.reg [⟨some 8, .mov (.t 4), none⟩, ⟨some 9, .fadr 1 (.t 1), none⟩, ⟨some 10, .load false 1 (.t 9), none⟩, ⟨some 11, .len false (.t 10), none⟩, ⟨some 12, .bini .lss (.t 8) (.t 11), none⟩])
 (.cond (.t 12)
 .skip
 (.exit 0)))
 (.seq (.block 1
 (.seq (.reg [⟨some 15, .fadr 1 (.t 1), none⟩, ⟨some 16, .load false 1 (.t 15), none⟩, ⟨some 17, .mov (.t 4), none⟩, ⟨some 18, .iadr 4 (.t 16) (.t 17), none⟩, ⟨some 19, .load true 4 (.t 18), none⟩, ⟨some 5, .alloc 48 [(.v (.string ⟨#[]⟩)), (.v (.string ⟨#[]⟩)), (.v (.string ⟨#[]⟩)), (.v (.string ⟨#[]⟩))], none⟩, ⟨none, .store 4 (.t 5) (.t 19), none⟩])
 (.seq (.seq (.reg [⟨some 20, .fadr 0 (.t 1), none⟩, ⟨some 21, .load false 1 (.t 20), none⟩, ⟨some 22, .fadr 0 (.t 5), none⟩, ⟨some 23, .load false 1 (.t 22), none⟩, ⟨some 24, .call 24 [(.t 21), (.t 23)], none⟩, ⟨some 25, .bini .lss (.t 24) (.c (.int .i64 (0))), none⟩])
 (.cond (.t 25)
 (.seq (.reg [⟨some 26, .mov (.t 4), none⟩, ⟨some 2, .mov (.c (.int .i64 (5))), none⟩, ⟨some 3, .mov (.t 26), none⟩])
 .ret)
 .skip))
 (.seq (.seq (.reg [⟨some 27, .fadr 1 (.t 5), none⟩, ⟨some 28, .load false 1 (.t 27), none⟩, ⟨some 29, .call 54 [(.t 28)], none⟩, ⟨some 30, .not (.t 29), none⟩])
 (.cond (.t 30)
 (.seq (.reg [⟨some 31, .mov (.t 4), none⟩, ⟨some 2, .mov (.c (.int .i64 (7))), none⟩, ⟨some 3, .mov (.t 31), none⟩])
 .ret)
 .skip))
 (.seq (.seq (.reg [⟨some 32, .fadr 2 (.t 5), none⟩, ⟨some 33, .load false 1 (.t 32), none⟩, ⟨some 34, .call 56 [(.t 33)], none⟩, ⟨some 35, .not (.t 34), none⟩])
 (.cond (.t 35)
 (.seq (.reg [⟨some 36, .mov (.t 4), none⟩, ⟨some 2, .mov (.c (.int .i64 (8))), none⟩, ⟨some 3, .mov (.t 36), none⟩])
 .ret)
 .skip))
 (.seq (.seq (.reg [⟨some 37, .fadr 2 (.t 1), none⟩, ⟨some 38, .load false 1 (.t 37), none⟩, ⟨some 39, .fadr 3 (.t 5), none⟩, ⟨some 40, .load false 1 (.t 39), none⟩, ⟨some 41, .call 25 [(.t 38), (.t 40)], none⟩, ⟨some 42, .bini .lss (.t 41) (.c (.int .i64 (0))), none⟩])
 (.cond (.t 42)
 (.seq (.reg [⟨some 43, .mov (.t 4), none⟩, ⟨some 2, .mov (.c (.int .i64 (5))), none⟩, ⟨some 3, .mov (.t 43), none⟩])
 .ret)
 .skip))
 (.seq (.reg [⟨some 6, .mov (.c (.int .i64 (0))), none⟩])
 (.block 2
 (.loop [6] [44, 45, 46, 49, 50, 51, 52, 53, 7, 54, 55, 56, 57, 58, 59, 60, 61, 62, 63, 64, 65, 66, 67, 68, 69, 70, 71, 72, 73, 2, 3, 47, 48, 6]
 (.seq (.seq (.reg [⟨some 44, .mov (.t 6), none⟩, ⟨some 45, .mov (.t 4), none⟩, ⟨some 46, .bini .lss (.t 44) (.t 45), none⟩])
 (.cond (.t 46)
 .skip
 (.exit 2)))
 (.seq (.block 3
 (.seq (.reg [⟨some 49, .fadr 1 (.t 1), none⟩, ⟨some 50, .load false 1 (.t 49), none⟩, ⟨some 51, .mov (.t 6), none⟩, ⟨some 52, .iadr 4 (.t 50) (.t 51), none⟩, ⟨some 53, .load true 4 (.t 52), none⟩, ⟨some 7, .alloc 48 [(.v (.string ⟨#[]⟩)), (.v (.string ⟨#[]⟩)), (.v (.string ⟨#[]⟩)), (.v (.string ⟨#[]⟩))], none⟩, ⟨none, .store 4 (.t 7) (.t 53), none⟩])
 (.seq (.reg [⟨some 54, .fadr 0 (.t 7), none⟩, ⟨some 55, .load false 1 (.t 54), none⟩, ⟨some 56, .fadr 0 (.t 5), none⟩, ⟨some 57, .load false 1 (.t 56), none⟩, ⟨some 58, .bins .eql (.t 55) (.t 57), none⟩, ⟨some 59, .mov (.t 58), none⟩, ⟨some 60, .fadr 1 (.t 7), some (59, true)⟩, ⟨some 61, .load false 1 (.t 60), some (59, true)⟩, ⟨some 62, .fadr 1 (.t 5), some (59, true)⟩, ⟨some 63, .load false 1 (.t 62), some (59, true)⟩, ⟨some 64, .bins .eql (.t 61) (.t 63), some (59, true)⟩, ⟨some 65, .pick (.t 59) (.t 64) (.b false), none⟩, ⟨some 66, .mov (.t 65), none⟩, ⟨some 67, .fadr 2 (.t 7), some (66, true)⟩, ⟨some 68, .load false 1 (.t 67), some (66, true)⟩, ⟨some 69, .fadr 2 (.t 5), some (66, true)⟩, ⟨some 70, .load false 1 (.t 69), some (66, true)⟩, ⟨some 71, .bins .eql (.t 68) (.t 70), some (66, true)⟩, ⟨some 72, .pick (.t 66) (.t 71) (.b false), none⟩])
 (.cond (.t 72)
 (.seq (.reg [⟨some 73, .mov (.t 4), none⟩, ⟨some 2, .mov (.c (.int .i64 (4))), none⟩, ⟨some 3, .mov (.t 73), none⟩])
 .ret)
 .skip))))
 (.reg [⟨some 47, .mov (.t 6), none⟩, ⟨some 48, .bini .add (.t 47) (.c (.int .i64 (1))), none⟩, ⟨some 6, .mov (.t 48), none⟩]))))))))))))
 (.reg [⟨some 13, .mov (.t 4), none⟩, ⟨some 14, .bini .add (.t 13) (.c (.int .i64 (1))), none⟩, ⟨some 4, .mov (.t 14), none⟩]))))))
 (.seq (.reg [⟨some 2, .mov (.c (.int .i64 (0))), none⟩, ⟨some 3, .mov (.c (.int .i64 (0))), none⟩])
 .ret)))⟩
theorem t_hydrantref05_routes : trFn Try.prog 44 [] [[4], [6]] = some f_hydrantref05_routes := by kernel_rfl

abbrev n_hydrantlaw05_plain : Nat := 45
theorem k_hydrantlaw05_plain : FnOk Try.prog 45 := FnOk.of (by kernel_rfl)
/-- hydrant/hydrantlaw05.plain -/
def f_hydrantlaw05_plain : FnI := ⟨11, [.cell 0 3 true],
 (.seq (.reg [⟨some 0, .alloc 40 [(.v (.slice none 0 0)), (.v (.slice none 0 0)), (.v (.slice none 0 0))], none⟩])
 (.seq (.reg [⟨some 1, .bsl 9 1 1 [(.v (.string ⟨#[]⟩))] [(0, 1, (.c (.string ⟨#[105, 110]⟩)))], none⟩, ⟨some 2, .bsl 4 1 1 [(.v (.bool false))] [(0, 1, (.b true))], none⟩, ⟨some 3, .build [(.v (.string ⟨#[]⟩)), (.v (.int .i64 (0))), (.v (.int .i64 (0))), (.v (.slice none 0 0))] [(0, 1, (.c (.string ⟨#[97]⟩))), (1, 1, (.c (.int .i64 (1)))), (2, 1, (.c (.int .i64 (1)))), (3, 1, (.t 2))], none⟩, ⟨some 4, .bsl 4 1 2 [(.v (.bool false)), (.v (.bool false))] [(0, 1, (.b false)), (1, 1, (.b true))], none⟩, ⟨some 5, .build [(.v (.string ⟨#[]⟩)), (.v (.int .i64 (0))), (.v (.int .i64 (0))), (.v (.slice none 0 0))] [(0, 1, (.c (.string ⟨#[98]⟩))), (1, 1, (.c (.int .i64 (2)))), (2, 1, (.c (.int .i64 (4)))), (3, 1, (.t 4))], none⟩, ⟨some 6, .bsl 46 4 2 [(.v (.string ⟨#[]⟩)), (.v (.int .i64 (0))), (.v (.int .i64 (0))), (.v (.slice none 0 0)), (.v (.string ⟨#[]⟩)), (.v (.int .i64 (0))), (.v (.int .i64 (0))), (.v (.slice none 0 0))] [(0, 4, (.t 3)), (4, 4, (.t 5))], none⟩, ⟨some 7, .build [(.v (.string ⟨#[]⟩)), (.v (.string ⟨#[]⟩)), (.v (.string ⟨#[]⟩)), (.v (.string ⟨#[]⟩))] [(0, 1, (.c (.string ⟨#[105, 110]⟩))), (1, 1, (.c (.string ⟨#[42]⟩))), (2, 1, (.c (.string ⟨#[47]⟩))), (3, 1, (.c (.string ⟨#[97]⟩)))], none⟩, ⟨some 8, .build [(.v (.string ⟨#[]⟩)), (.v (.string ⟨#[]⟩)), (.v (.string ⟨#[]⟩)), (.v (.string ⟨#[]⟩))] [(0, 1, (.c (.string ⟨#[105, 110]⟩))), (1, 1, (.c (.string ⟨#[120]⟩))), (2, 1, (.c (.string ⟨#[47]⟩))), (3, 1, (.c (.string ⟨#[98]⟩)))], none⟩, ⟨some 9, .bsl 48 4 2 [(.v (.string ⟨#[]⟩)), (.v (.string ⟨#[]⟩)), (.v (.string ⟨#[]⟩)), (.v (.string ⟨#[]⟩)), (.v (.string ⟨#[]⟩)), (.v (.string ⟨#[]⟩)), (.v (.string ⟨#[]⟩)), (.v (.string ⟨#[]⟩))] [(0, 4, (.t 7)), (4, 4, (.t 8))], none⟩, ⟨some 10, .build [(.v (.slice none 0 0)), (.v (.slice none 0 0)), (.v (.slice none 0 0))] [(0, 1, (.t 1)), (2, 1, (.t 6)), (1, 1, (.t 9))], none⟩, ⟨none, .store 3 (.t 0) (.t 10), none⟩])
 .ret))⟩
theorem t_hydrantlaw05_plain : trFn Try.prog 45 [] [] = some f_hydrantlaw05_plain := by kernel_rfl

abbrev n_strings_CutPrefix : Nat := 46
theorem k_strings_CutPrefix : FnOk Try.prog 46 := FnOk.of (by kernel_rfl)
/-- strings.CutPrefix -/
def f_strings_CutPrefix : FnI := ⟨11, [.tmp 4, .tmp 5],
 (.seq (.reg [⟨some 4, .mov (.c (.string ⟨#[]⟩)), none⟩, ⟨some 5, .mov (.b false), none⟩])
 (.seq (.reg [⟨some 6, .mov (.t 0), none⟩, ⟨some 7, .mov (.t 1), none⟩, ⟨some 8, .call 61 [(.t 6), (.t 7)], none⟩, ⟨some 9, .ext 0 (.t 8), none⟩, ⟨some 10, .ext 1 (.t 8), none⟩, ⟨some 4, .mov (.t 9), none⟩, ⟨some 5, .mov (.t 10), none⟩])
 .ret))⟩
theorem t_strings_CutPrefix : trFn Try.prog 46 [] [] = some f_strings_CutPrefix := by kernel_rfl

abbrev n_names_Host : Nat := 47
theorem k_names_Host : FnOk Try.prog 47 := FnOk.of (by kernel_rfl)
/-- hydrant/names.Host -/
def f_names_Host : FnI := ⟨13, [.cell 2 1 false],
 (.seq (.reg [⟨some 2, .alloc 4 [(.v (.bool false))], none⟩])
 (.seq (.seq (.reg [⟨some 4, .mov (.t 0), none⟩, ⟨some 5, .len true (.t 4), none⟩, ⟨some 6, .bini .gtr (.t 5) (.c (.int .i64 (32))), none⟩])
 (.cond (.t 6)
 (.seq (.reg [⟨none, .store 1 (.t 2) (.b false), none⟩])
 .ret)
 .skip))
 (.seq (.seq (.reg [⟨some 7, .mov (.t 0), none⟩, ⟨some 8, .call 62 [(.t 7), (.c (.int .u8 (46)))], none⟩])
 (.block 0
 (.rfun (.t 8) [9]
 (.reg [⟨some 3, .mov (.t 9), none⟩])
 (.block 1
 (.seq (.reg [⟨some 10, .mov (.t 3), none⟩, ⟨some 11, .call 28 [(.t 10)], none⟩, ⟨some 12, .not (.t 11), none⟩])
 (.cond (.t 12)
 (.seq (.reg [⟨none, .store 1 (.t 2) (.b false), none⟩])
 .ret)
 .skip))))))
 (.seq (.reg [⟨none, .store 1 (.t 2) (.b true), none⟩])
 .ret))))⟩
theorem t_names_Host : trFn Try.prog 47 [] [] = some f_names_Host := by kernel_rfl

abbrev n_names_word : Nat := 48
theorem k_names_word : FnOk Try.prog 48 := FnOk.of (by kernel_rfl)
/-- hydrant/names.word -/
def f_names_word : FnI := ⟨2, [.cell 0 1 true],
 (.seq (.reg [⟨some 0, .alloc 70 [(.v .nilFunc)], none⟩])
 (.seq (.reg [⟨some 1, .build [(.v .nilFunc)] [(0, 1, (.c (.func (.func 63) #[] #[])))], none⟩, ⟨none, .store 1 (.t 0) (.t 1), none⟩])
 .ret))⟩
theorem t_names_word : trFn Try.prog 48 [] [] = some f_names_word := by kernel_rfl

abbrev n_names_alphabet__all : Nat := 49
theorem k_names_alphabet__all : FnOk Try.prog 49 := FnOk.of (by kernel_rfl)
/-- (hydrant/names.alphabet).all -/
def f_names_alphabet__all : FnI := ⟨28, [.tmp 6],
 (.seq (.reg [⟨some 3, .box 70 (.t 0), none⟩, ⟨some 6, .mov (.b false), none⟩])
 (.seq (.seq (.reg [⟨some 8, .mov (.t 1), none⟩, ⟨some 9, .len true (.t 8), none⟩, ⟨some 10, .mov (.c (.int .i64 (0))), none⟩])
 (.block 0
 (.loop [10] [11, 12, 7, 13, 14, 15, 16, 17, 18, 19, 20, 21, 22, 23, 24, 25, 26, 6, 27, 10]
 (.seq (.reg [⟨some 11, .bini .lss (.t 10) (.t 9), none⟩])
 (.seq (.cond (.t 11)
 .skip
 (.exit 0))
 (.seq (.block 1
 (.seq (.reg [⟨some 12, .mov (.t 10), none⟩, ⟨some 7, .mov (.t 12), none⟩])
 (.seq (.regD [⟨some 13, .mov (.t 1), none⟩, ⟨some 14, .mov (.t 7), none⟩, ⟨some 15, .idxs (.t 13) (.t 14), none⟩, ⟨some 16, .mov (.t 2), none⟩, ⟨some 17, .bini .neq (.t 15) (.t 16), none⟩, ⟨some 18, .mov (.t 17), none⟩, ⟨some 19, .fadr 0 (.t 3), some (18, true)⟩, ⟨some 20, .load false 1 (.t 19), some (18, true)⟩, ⟨some 21, .mov (.t 1), some (18, true)⟩, ⟨some 22, .mov (.t 7), some (18, true)⟩, ⟨some 23, .idxs (.t 21) (.t 22), some (18, true)⟩, ⟨some 24, .callv (.t 20) [(.t 23)], some (18, true)⟩, ⟨some 25, .not (.t 24), some (18, true)⟩, ⟨some 26, .pick (.t 18) (.t 25) (.b false), none⟩])
 (.cond (.t 26)
 (.seq (.reg [⟨some 6, .mov (.b false), none⟩])
 .ret)
 .skip))))
 (.reg [⟨some 27, .bini .add (.t 10) (.c (.int .i64 (1))), none⟩, ⟨some 10, .mov (.t 27), none⟩])))))))
 (.seq (.reg [⟨some 6, .mov (.b true), none⟩])
 .ret)))⟩
theorem t_names_alphabet__all : trFn Try.prog 49 [[0, 1, 2, 3, 4, 5, 6, 7, 8, 9, 10, 11, 12, 13]] [[10]] = some f_names_alphabet__all := by kernel_rfl

abbrev n_names_low : Nat := 50
theorem k_names_low : FnOk Try.prog 50 := FnOk.of (by kernel_rfl)
/-- hydrant/names.low -/
def f_names_low : FnI := ⟨9, [.tmp 2],
 (.seq (.reg [⟨some 2, .mov (.b false), none⟩])
 (.seq (.reg [⟨some 3, .mov (.t 0), none⟩, ⟨some 4, .bini .geq (.t 3) (.c (.int .u8 (97))), none⟩, ⟨some 5, .mov (.t 4), none⟩, ⟨some 6, .mov (.t 0), some (5, true)⟩, ⟨some 7, .bini .leq (.t 6) (.c (.int .u8 (122))), some (5, true)⟩, ⟨some 8, .pick (.t 5) (.t 7) (.b false), none⟩, ⟨some 2, .mov (.t 8), none⟩])
 .ret))⟩
theorem t_names_low : trFn Try.prog 50 [] [] = some f_names_low := by kernel_rfl

abbrev n_routes_fitting_1 : Nat := 51
theorem k_routes_fitting_1 : FnOk Try.prog 51 := FnOk.of (by kernel_rfl)
/-- hydrant/routes.fitting$1 -/
def f_routes_fitting_1 : FnI := ⟨28, [],
 (.seq (.reg [⟨some 8, .load false 1 (.t 1), none⟩, ⟨some 9, .len false (.t 8), none⟩, ⟨some 10, .mov (.c (.int .i64 (0))), none⟩])
 (.block 0
 (.loop [10] [11, 12, 13, 14, 7, 6, 15, 16, 17, 18, 19, 20, 21, 22, 23, 24, 25, 26, 27, 10]
 (.seq (.reg [⟨some 11, .bini .lss (.t 10) (.t 9), none⟩])
 (.seq (.cond (.t 11)
 .skip
 (.exit 0))
 (.seq (.block 1
 (.seq (.reg [⟨some 12, .mov (.t 10), none⟩, ⟨some 13, .iadr 4 (.t 8) (.t 10), none⟩, ⟨some 14, .load true 4 (.t 13), none⟩, ⟨some 7, .alloc 31 [(.v (.int .i64 (0))), (.v (.string ⟨#[]⟩)), (.v (.string ⟨#[]⟩)), (.v (.int .i64 (0)))], none⟩, ⟨some 6, .mov (.t 12), none⟩, ⟨none, .store 4 (.t 7) (.t 14), none⟩])
 (.seq (.reg [⟨some 15, .load true 4 (.t 7), none⟩, ⟨some 16, .load false 1 (.t 2), none⟩, ⟨some 17, .load false 1 (.t 3), none⟩, ⟨some 18, .load false 1 (.t 4), none⟩, ⟨some 19, .call 17 [(.t 15), (.t 16), (.t 17), (.t 18)], none⟩, ⟨some 20, .mov (.t 19), none⟩, ⟨some 21, .mov (.t 0), some (20, true)⟩, ⟨some 22, .mov (.t 6), some (20, true)⟩, ⟨some 23, .load true 4 (.t 7), some (20, true)⟩, ⟨some 24, .callv (.t 21) [(.t 22), (.t 23)], some (20, true)⟩, ⟨some 25, .not (.t 24), some (20, true)⟩, ⟨some 26, .pick (.t 20) (.t 25) (.b false), none⟩])
 (.cond (.t 26)
 .ret
 .skip))))
 (.reg [⟨some 27, .bini .add (.t 10) (.c (.int .i64 (1))), none⟩, ⟨some 10, .mov (.t 27), none⟩])))))))⟩
theorem t_routes_fitting_1 : trFn Try.prog 51 [] [[10]] = some f_routes_fitting_1 := by kernel_rfl

abbrev n_hydrantref04_Better : Nat := 52
theorem k_hydrantref04_Better : FnOk Try.prog 52 := FnOk.of (by kernel_rfl)
/-- hydrant/hydrantref04.Better -/
def f_hydrantref04_Better : FnI := ⟨30, [.tmp 8],
 (.seq (.reg [⟨some 8, .mov (.b false), none⟩])
 (.seq (.reg [⟨some 11, .mov (.t 0), none⟩, ⟨some 12, .call 64 [(.t 11)], none⟩, ⟨some 9, .mov (.t 12), none⟩])
 (.seq (.reg [⟨some 13, .mov (.t 2), none⟩, ⟨some 14, .call 64 [(.t 13)], none⟩, ⟨some 10, .mov (.t 14), none⟩])
 (.seq (.reg [⟨some 15, .mov (.t 9), none⟩, ⟨some 16, .mov (.t 10), none⟩, ⟨some 17, .bini .gtr (.t 15) (.t 16), none⟩, ⟨some 18, .mov (.t 17), none⟩, ⟨some 19, .mov (.t 9), some (18, false)⟩, ⟨some 20, .mov (.t 10), some (18, false)⟩, ⟨some 21, .bini .eql (.t 19) (.t 20), some (18, false)⟩, ⟨some 22, .mov (.t 21), some (18, false)⟩, ⟨some 23, .mov (.t 1), some (22, true)⟩, ⟨some 24, .len true (.t 23), some (22, true)⟩, ⟨some 25, .mov (.t 3), some (22, true)⟩, ⟨some 26, .len true (.t 25), some (22, true)⟩, ⟨some 27, .bini .gtr (.t 24) (.t 26), some (22, true)⟩, ⟨some 28, .pick (.t 22) (.t 27) (.b false), some (18, false)⟩, ⟨some 29, .pick (.t 18) (.b true) (.t 28), none⟩, ⟨some 8, .mov (.t 29), none⟩])
 .ret))))⟩
theorem t_hydrantref04_Better : trFn Try.prog 52 [] [] = some f_hydrantref04_Better := by kernel_rfl

abbrev n_strings_HasSuffix : Nat := 53
theorem k_strings_HasSuffix : FnOk Try.prog 53 := FnOk.of (by kernel_rfl)
/-- strings.HasSuffix -/
def f_strings_HasSuffix : FnI := ⟨8, [.tmp 4],
 (.seq (.reg [⟨some 4, .mov (.b false), none⟩])
 (.seq (.reg [⟨some 5, .mov (.t 0), none⟩, ⟨some 6, .mov (.t 1), none⟩, ⟨some 7, .call 65 [(.t 5), (.t 6)], none⟩, ⟨some 4, .mov (.t 7), none⟩])
 .ret))⟩
theorem t_strings_HasSuffix : trFn Try.prog 53 [] [] = some f_strings_HasSuffix := by kernel_rfl

abbrev n_hydrantref03_Pattern : Nat := 54
theorem k_hydrantref03_Pattern : FnOk Try.prog 54 := FnOk.of (by kernel_rfl)
/-- hydrant/hydrantref03.Pattern -/
def f_hydrantref03_Pattern : FnI := ⟨20, [.tmp 2],
 (.seq (.reg [⟨some 2, .mov (.b false), none⟩])
 (.seq (.seq (.reg [⟨some 3, .mov (.t 0), none⟩, ⟨some 4, .len true (.t 3), none⟩, ⟨some 5, .bini .gtr (.t 4) (.c (.int .i64 (2))), none⟩, ⟨some 6, .mov (.t 5), none⟩, ⟨some 7, .mov (.t 0), some (6, true)⟩, ⟨some 8, .slcs (.t 7) none (some (.c (.int .i64 (2)))), some (6, true)⟩, ⟨some 9, .bins .eql (.t 8) (.c (.string ⟨#[42, 46]⟩)), some (6, true)⟩, ⟨some 10, .pick (.t 6) (.t 9) (.b false), none⟩])
 (.cond (.t 10)
 (.seq (.reg [⟨some 11, .mov (.t 0), none⟩, ⟨some 12, .slcs (.t 11) (some (.c (.int .i64 (2)))) none, none⟩, ⟨some 13, .call 55 [(.t 12)], none⟩, ⟨some 2, .mov (.t 13), none⟩])
 .ret)
 .skip))
 (.seq (.reg [⟨some 14, .mov (.t 0), none⟩, ⟨some 15, .bins .eql (.t 14) (.c (.string ⟨#[42]⟩)), none⟩, ⟨some 16, .mov (.t 15), none⟩, ⟨some 17, .mov (.t 0), some (16, false)⟩, ⟨some 18, .call 55 [(.t 17)], some (16, false)⟩, ⟨some 19, .pick (.t 16) (.b true) (.t 18), none⟩, ⟨some 2, .mov (.t 19), none⟩])
 .ret)))⟩
theorem t_hydrantref03_Pattern : trFn Try.prog 54 [] [] = some f_hydrantref03_Pattern := by kernel_rfl

abbrev n_hydrantref03_Host : Nat := 55
theorem k_hydrantref03_Host : FnOk Try.prog 55 := FnOk.of (by kernel_rfl)
/-- hydrant/hydrantref03.Host -/
def f_hydrantref03_Host : FnI := ⟨22, [.tmp 2],
 (.seq (.reg [⟨some 2, .mov (.b false), none⟩])
 (.seq (.reg [⟨some 5, .mov (.t 0), none⟩, ⟨some 6, .call 66 [(.t 5), (.c (.int .u8 (46)))], none⟩, ⟨some 3, .mov (.t 6), none⟩])
 (.seq (.seq (.reg [⟨some 4, .mov (.c (.int .i64 (0))), none⟩])
 (.block 0
 (.loop [4] [7, 8, 9, 10, 13, 14, 15, 16, 17, 18, 2, 11, 12, 4]
 (.seq (.seq (.reg [⟨some 7, .mov (.t 4), none⟩, ⟨some 8, .mov (.t 3), none⟩, ⟨some 9, .len false (.t 8), none⟩, ⟨some 10, .bini .lss (.t 7) (.t 9), none⟩])
 (.cond (.t 10)
 .skip
 (.exit 0)))
 (.seq (.block 1
 (.seq (.reg [⟨some 13, .mov (.t 3), none⟩, ⟨some 14, .mov (.t 4), none⟩, ⟨some 15, .iadr 1 (.t 13) (.t 14), none⟩, ⟨some 16, .load false 1 (.t 15), none⟩, ⟨some 17, .call 60 [(.t 16)], none⟩, ⟨some 18, .not (.t 17), none⟩])
 (.cond (.t 18)
 (.seq (.reg [⟨some 2, .mov (.b false), none⟩])
 .ret)
 .skip)))
 (.reg [⟨some 11, .mov (.t 4), none⟩, ⟨some 12, .bini .add (.t 11) (.c (.int .i64 (1))), none⟩, ⟨some 4, .mov (.t 12), none⟩]))))))
 (.seq (.reg [⟨some 19, .mov (.t 0), none⟩, ⟨some 20, .len true (.t 19), none⟩, ⟨some 21, .bini .leq (.t 20) (.c (.int .i64 (32))), none⟩, ⟨some 2, .mov (.t 21), none⟩])
 .ret))))⟩
theorem t_hydrantref03_Host : trFn Try.prog 55 [] [[4]] = some f_hydrantref03_Host := by kernel_rfl

abbrev n_hydrantref03_Path : Nat := 56
theorem k_hydrantref03_Path : FnOk Try.prog 56 := FnOk.of (by kernel_rfl)
/-- hydrant/hydrantref03.Path -/
def f_hydrantref03_Path : FnI := ⟨34, [.tmp 2],
 (.seq (.reg [⟨some 2, .mov (.b false), none⟩])
 (.seq (.seq (.reg [⟨some 4, .mov (.t 0), none⟩, ⟨some 5, .len true (.t 4), none⟩, ⟨some 6, .bini .lss (.t 5) (.c (.int .i64 (1))), none⟩, ⟨some 7, .mov (.t 6), none⟩, ⟨some 8, .mov (.t 0), some (7, false)⟩, ⟨some 9, .len true (.t 8), some (7, false)⟩, ⟨some 10, .bini .gtr (.t 9) (.c (.int .i64 (32))), some (7, false)⟩, ⟨some 11, .pick (.t 7) (.b true) (.t 10), none⟩, ⟨some 12, .mov (.t 11), none⟩, ⟨some 13, .mov (.t 0), some (12, false)⟩, ⟨some 14, .idxs (.t 13) (.c (.int .i64 (0))), some (12, false)⟩, ⟨some 15, .bini .neq (.t 14) (.c (.int .u8 (47))), some (12, false)⟩, ⟨some 16, .pick (.t 12) (.b true) (.t 15), none⟩])
 (.cond (.t 16)
 (.seq (.reg [⟨some 2, .mov (.b false), none⟩])
 .ret)
 .skip))
 (.seq (.seq (.reg [⟨some 3, .mov (.c (.int .i64 (0))), none⟩])
 (.block 0
 (.loop [3] [17, 18, 19, 20, 23, 24, 25, 26, 27, 28, 29, 30, 31, 32, 33, 2, 21, 22, 3]
 (.seq (.seq (.reg [⟨some 17, .mov (.t 3), none⟩, ⟨some 18, .mov (.t 0), none⟩, ⟨some 19, .len true (.t 18), none⟩, ⟨some 20, .bini .lss (.t 17) (.t 19), none⟩])
 (.cond (.t 20)
 .skip
 (.exit 0)))
 (.seq (.block 1
 (.seq (.reg [⟨some 23, .mov (.t 0), none⟩, ⟨some 24, .mov (.t 3), none⟩, ⟨some 25, .idxs (.t 23) (.t 24), none⟩, ⟨some 26, .call 67 [(.t 25)], none⟩, ⟨some 27, .not (.t 26), none⟩, ⟨some 28, .mov (.t 27), none⟩, ⟨some 29, .mov (.t 0), some (28, true)⟩, ⟨some 30, .mov (.t 3), some (28, true)⟩, ⟨some 31, .idxs (.t 29) (.t 30), some (28, true)⟩, ⟨some 32, .bini .neq (.t 31) (.c (.int .u8 (47))), some (28, true)⟩, ⟨some 33, .pick (.t 28) (.t 32) (.b false), none⟩])
 (.cond (.t 33)
 (.seq (.reg [⟨some 2, .mov (.b false), none⟩])
 .ret)
 .skip)))
 (.reg [⟨some 21, .mov (.t 3), none⟩, ⟨some 22, .bini .add (.t 21) (.c (.int .i64 (1))), none⟩, ⟨some 3, .mov (.t 22), none⟩]))))))
 (.seq (.reg [⟨some 2, .mov (.b true), none⟩])
 .ret))))⟩
theorem t_hydrantref03_Path : trFn Try.prog 56 [] [[3]] = some f_hydrantref03_Path := by kernel_rfl

abbrev n_config_within : Nat := 57
theorem k_config_within : FnOk Try.prog 57 := FnOk.of (by kernel_rfl)
/-- hydrant/config.within -/
def f_config_within : FnI := ⟨15, [.tmp 6],
 (.seq (.reg [⟨some 6, .mov (.b false), none⟩])
 (.seq (.reg [⟨some 7, .mov (.t 0), none⟩, ⟨some 8, .mov (.t 1), none⟩, ⟨some 9, .bini .geq (.t 7) (.t 8), none⟩, ⟨some 10, .mov (.t 9), none⟩, ⟨some 11, .mov (.t 0), some (10, true)⟩, ⟨some 12, .mov (.t 2), some (10, true)⟩, ⟨some 13, .bini .leq (.t 11) (.t 12), some (10, true)⟩, ⟨some 14, .pick (.t 10) (.t 13) (.b false), none⟩, ⟨some 6, .mov (.t 14), none⟩])
 .ret))⟩
theorem t_config_within : trFn Try.prog 57 [] [] = some f_config_within := by kernel_rfl

abbrev n_slices_Contains___string_string : Nat := 58
theorem k_slices_Contains___string_string : FnOk Try.prog 58 := FnOk.of (by kernel_rfl)
/-- slices.Contains[[]string,string] -/
def f_slices_Contains___string_string : FnI := ⟨9, [.tmp 4],
 (.seq (.reg [⟨some 4, .mov (.b false), none⟩])
 (.seq (.reg [⟨some 5, .mov (.t 0), none⟩, ⟨some 6, .mov (.t 1), none⟩, ⟨some 7, .call 68 [(.t 5), (.t 6)], none⟩, ⟨some 8, .bini .geq (.t 7) (.c (.int .i64 (0))), none⟩, ⟨some 4, .mov (.t 8), none⟩])
 .ret))⟩
theorem t_slices_Contains___string_string : trFn Try.prog 58 [] [] = some f_slices_Contains___string_string := by kernel_rfl

abbrev n_config_named : Nat := 59
theorem k_config_named : FnOk Try.prog 59 := FnOk.of (by kernel_rfl)
/-- hydrant/config.named -/
def f_config_named : FnI := ⟨8, [.tmp 4],
 (.seq (.reg [⟨some 3, .box 9 (.t 1), none⟩, ⟨some 4, .mov (.b false), none⟩])
 (.seq (.reg [⟨some 5, .mov (.t 0), none⟩, ⟨some 6, .mkf (.func 70) [] [(.t 3)], none⟩, ⟨some 7, .call 69 [(.t 5), (.t 6)], none⟩, ⟨some 4, .mov (.t 7), none⟩])
 .ret))⟩
theorem t_config_named : trFn Try.prog 59 [] [] = some f_config_named := by kernel_rfl

abbrev n_hydrantref03_Name : Nat := 60
theorem k_hydrantref03_Name : FnOk Try.prog 60 := FnOk.of (by kernel_rfl)
/-- hydrant/hydrantref03.Name -/
def f_hydrantref03_Name : FnI := ⟨29, [.tmp 2],
 (.seq (.reg [⟨some 2, .mov (.b false), none⟩])
 (.seq (.seq (.reg [⟨some 4, .mov (.t 0), none⟩, ⟨some 5, .len true (.t 4), none⟩, ⟨some 6, .bini .lss (.t 5) (.c (.int .i64 (1))), none⟩, ⟨some 7, .mov (.t 6), none⟩, ⟨some 8, .mov (.t 0), some (7, false)⟩, ⟨some 9, .len true (.t 8), some (7, false)⟩, ⟨some 10, .bini .gtr (.t 9) (.c (.int .i64 (16))), some (7, false)⟩, ⟨some 11, .pick (.t 7) (.b true) (.t 10), none⟩, ⟨some 12, .mov (.t 11), none⟩, ⟨some 13, .mov (.t 0), some (12, false)⟩, ⟨some 14, .idxs (.t 13) (.c (.int .i64 (0))), some (12, false)⟩, ⟨some 15, .call 71 [(.t 14)], some (12, false)⟩, ⟨some 16, .not (.t 15), some (12, false)⟩, ⟨some 17, .pick (.t 12) (.b true) (.t 16), none⟩])
 (.cond (.t 17)
 (.seq (.reg [⟨some 2, .mov (.b false), none⟩])
 .ret)
 .skip))
 (.seq (.seq (.reg [⟨some 3, .mov (.c (.int .i64 (0))), none⟩])
 (.block 0
 (.loop [3] [18, 19, 20, 21, 24, 25, 26, 27, 28, 2, 22, 23, 3]
 (.seq (.seq (.reg [⟨some 18, .mov (.t 3), none⟩, ⟨some 19, .mov (.t 0), none⟩, ⟨some 20, .len true (.t 19), none⟩, ⟨some 21, .bini .lss (.t 18) (.t 20), none⟩])
 (.cond (.t 21)
 .skip
 (.exit 0)))
 (.seq (.block 1
 (.seq (.reg [⟨some 24, .mov (.t 0), none⟩, ⟨some 25, .mov (.t 3), none⟩, ⟨some 26, .idxs (.t 24) (.t 25), none⟩, ⟨some 27, .call 67 [(.t 26)], none⟩, ⟨some 28, .not (.t 27), none⟩])
 (.cond (.t 28)
 (.seq (.reg [⟨some 2, .mov (.b false), none⟩])
 .ret)
 .skip)))
 (.reg [⟨some 22, .mov (.t 3), none⟩, ⟨some 23, .bini .add (.t 22) (.c (.int .i64 (1))), none⟩, ⟨some 3, .mov (.t 23), none⟩]))))))
 (.seq (.reg [⟨some 2, .mov (.b true), none⟩])
 .ret))))⟩
theorem t_hydrantref03_Name : trFn Try.prog 60 [] [[3]] = some f_hydrantref03_Name := by kernel_rfl

abbrev n_stringslite_CutPrefix : Nat := 61
theorem k_stringslite_CutPrefix : FnOk Try.prog 61 := FnOk.of (by kernel_rfl)
/-- internal/stringslite.CutPrefix -/
def f_stringslite_CutPrefix : FnI := ⟨15, [.tmp 4, .tmp 5],
 (.seq (.reg [⟨some 4, .mov (.c (.string ⟨#[]⟩)), none⟩, ⟨some 5, .mov (.b false), none⟩])
 (.seq (.seq (.reg [⟨some 6, .mov (.t 0), none⟩, ⟨some 7, .mov (.t 1), none⟩, ⟨some 8, .call 72 [(.t 6), (.t 7)], none⟩, ⟨some 9, .not (.t 8), none⟩])
 (.cond (.t 9)
 (.seq (.reg [⟨some 10, .mov (.t 0), none⟩, ⟨some 4, .mov (.t 10), none⟩, ⟨some 5, .mov (.b false), none⟩])
 .ret)
 .skip))
 (.seq (.reg [⟨some 11, .mov (.t 0), none⟩, ⟨some 12, .mov (.t 1), none⟩, ⟨some 13, .len true (.t 12), none⟩, ⟨some 14, .slcs (.t 11) (some (.t 13)) none, none⟩, ⟨some 4, .mov (.t 14), none⟩, ⟨some 5, .mov (.b true), none⟩])
 .ret)))⟩
theorem t_stringslite_CutPrefix : trFn Try.prog 61 [] [] = some f_stringslite_CutPrefix := by kernel_rfl

abbrev n_names_parts : Nat := 62
theorem k_names_parts : FnOk Try.prog 62 := FnOk.of (by kernel_rfl)
/-- hydrant/names.parts -/
def f_names_parts : FnI := ⟨6, [.tmp 4],
 (.seq (.reg [⟨some 2, .box 9 (.t 0), none⟩, ⟨some 3, .box 5 (.t 1), none⟩, ⟨some 4, .mov (.c .nilFunc), none⟩])
 (.seq (.reg [⟨some 5, .mkf (.func 73) [] [(.t 2), (.t 3)], none⟩, ⟨some 4, .mov (.t 5), none⟩])
 .ret))⟩
theorem t_names_parts : trFn Try.prog 62 [] [] = some f_names_parts := by kernel_rfl

abbrev n_names_word_1 : Nat := 63
theorem k_names_word_1 : FnOk Try.prog 63 := FnOk.of (by kernel_rfl)
/-- hydrant/names.word$1 -/
def f_names_word_1 : FnI := ⟨17, [.tmp 2],
 (.seq (.reg [⟨some 2, .mov (.b false), none⟩])
 (.seq (.reg [⟨some 3, .mov (.t 0), none⟩, ⟨some 4, .call 50 [(.t 3)], none⟩, ⟨some 5, .mov (.t 4), none⟩, ⟨some 6, .mov (.t 0), some (5, false)⟩, ⟨some 7, .bini .geq (.t 6) (.c (.int .u8 (48))), some (5, false)⟩, ⟨some 8, .mov (.t 7), some (5, false)⟩, ⟨some 9, .mov (.t 0), some (8, true)⟩, ⟨some 10, .bini .leq (.t 9) (.c (.int .u8 (57))), some (8, true)⟩, ⟨some 11, .pick (.t 8) (.t 10) (.b false), some (5, false)⟩, ⟨some 12, .pick (.t 5) (.b true) (.t 11), none⟩, ⟨some 13, .mov (.t 12), none⟩, ⟨some 14, .mov (.t 0), some (13, false)⟩, ⟨some 15, .bini .eql (.t 14) (.c (.int .u8 (45))), some (13, false)⟩, ⟨some 16, .pick (.t 13) (.b true) (.t 15), none⟩, ⟨some 2, .mov (.t 16), none⟩])
 .ret))⟩
theorem t_names_word_1 : trFn Try.prog 63 [] [] = some f_names_word_1 := by kernel_rfl

abbrev n_hydrantref04_Weight : Nat := 64
theorem k_hydrantref04_Weight : FnOk Try.prog 64 := FnOk.of (by kernel_rfl)
/-- hydrant/hydrantref04.Weight -/
def f_hydrantref04_Weight : FnI := ⟨16, [.tmp 2],
 (.seq (.reg [⟨some 2, .mov (.c (.int .i64 (0))), none⟩])
 (.seq (.seq (.reg [⟨some 3, .mov (.t 0), none⟩, ⟨some 4, .call 54 [(.t 3)], none⟩, ⟨some 5, .not (.t 4), none⟩, ⟨some 6, .mov (.t 5), none⟩, ⟨some 7, .mov (.t 0), some (6, false)⟩, ⟨some 8, .bins .eql (.t 7) (.c (.string ⟨#[42]⟩)), some (6, false)⟩, ⟨some 9, .pick (.t 6) (.b true) (.t 8), none⟩])
 (.cond (.t 9)
 (.seq (.reg [⟨some 2, .mov (.c (.int .i64 (0))), none⟩])
 .ret)
 .skip))
 (.seq (.seq (.reg [⟨some 10, .mov (.t 0), none⟩, ⟨some 11, .idxs (.t 10) (.c (.int .i64 (0))), none⟩, ⟨some 12, .bini .eql (.t 11) (.c (.int .u8 (42))), none⟩])
 (.cond (.t 12)
 (.seq (.reg [⟨some 13, .mov (.t 0), none⟩, ⟨some 14, .len true (.t 13), none⟩, ⟨some 15, .bini .sub (.t 14) (.c (.int .i64 (2))), none⟩, ⟨some 2, .mov (.t 15), none⟩])
 .ret)
 .skip))
 (.seq (.reg [⟨some 2, .mov (.c (.int .i64 (100))), none⟩])
 .ret))))⟩
theorem t_hydrantref04_Weight : trFn Try.prog 64 [] [] = some f_hydrantref04_Weight := by kernel_rfl

abbrev n_stringslite_HasSuffix : Nat := 65
theorem k_stringslite_HasSuffix : FnOk Try.prog 65 := FnOk.of (by kernel_rfl)
/-- internal/stringslite.HasSuffix -/
def f_stringslite_HasSuffix : FnI := ⟨21, [.tmp 4],
 (.seq (.reg [⟨some 4, .mov (.b false), none⟩])
 (.seq (.reg [⟨some 5, .mov (.t 0), none⟩, ⟨some 6, .len true (.t 5), none⟩, ⟨some 7, .mov (.t 1), none⟩, ⟨some 8, .len true (.t 7), none⟩, ⟨some 9, .bini .geq (.t 6) (.t 8), none⟩, ⟨some 10, .mov (.t 9), none⟩, ⟨some 11, .mov (.t 0), some (10, true)⟩, ⟨some 12, .mov (.t 0), some (10, true)⟩, ⟨some 13, .len true (.t 12), some (10, true)⟩, ⟨some 14, .mov (.t 1), some (10, true)⟩, ⟨some 15, .len true (.t 14), some (10, true)⟩, ⟨some 16, .bini .sub (.t 13) (.t 15), some (10, true)⟩, ⟨some 17, .slcs (.t 11) (some (.t 16)) none, some (10, true)⟩, ⟨some 18, .mov (.t 1), some (10, true)⟩, ⟨some 19, .bins .eql (.t 17) (.t 18), some (10, true)⟩, ⟨some 20, .pick (.t 10) (.t 19) (.b false), none⟩, ⟨some 4, .mov (.t 20), none⟩])
 .ret))⟩
theorem t_stringslite_HasSuffix : trFn Try.prog 65 [] [] = some f_stringslite_HasSuffix := by kernel_rfl

abbrev n_hydrantref03_Parts : Nat := 66
theorem k_hydrantref03_Parts : FnOk Try.prog 66 := FnOk.of (by kernel_rfl)
/-- hydrant/hydrantref03.Parts -/
def f_hydrantref03_Parts : FnI := ⟨35, [.tmp 4],
 (.seq (.reg [⟨some 4, .mov (.c (.slice none 0 0)), none⟩])
 (.seq (.reg [⟨some 8, .bsl 9 1 0 [] [], none⟩, ⟨some 5, .mov (.t 8), none⟩])
 (.seq (.reg [⟨some 6, .mov (.c (.int .i64 (0))), none⟩])
 (.seq (.seq (.reg [⟨some 7, .mov (.c (.int .i64 (0))), none⟩])
 (.block 0
 (.loop [5, 6, 7] [9, 10, 11, 12, 15, 16, 17, 18, 19, 20, 21, 22, 23, 24, 25, 26, 5, 27, 28, 6, 13, 14, 7]
 (.seq (.seq (.reg [⟨some 9, .mov (.t 7), none⟩, ⟨some 10, .mov (.t 0), none⟩, ⟨some 11, .len true (.t 10), none⟩, ⟨some 12, .bini .lss (.t 9) (.t 11), none⟩])
 (.cond (.t 12)
 .skip
 (.exit 0)))
 (.seq (.block 1
 (.seq (.reg [⟨some 15, .mov (.t 0), none⟩, ⟨some 16, .mov (.t 7), none⟩, ⟨some 17, .idxs (.t 15) (.t 16), none⟩, ⟨some 18, .mov (.t 1), none⟩, ⟨some 19, .bini .eql (.t 17) (.t 18), none⟩])
 (.cond (.t 19)
 (.seq (.reg [⟨some 20, .mov (.t 5), none⟩, ⟨some 21, .mov (.t 0), none⟩, ⟨some 22, .mov (.t 6), none⟩, ⟨some 23, .mov (.t 7), none⟩, ⟨some 24, .slcs (.t 21) (some (.t 22)) (some (.t 23)), none⟩, ⟨some 25, .bsl 9 1 1 [(.v (.string ⟨#[]⟩))] [(0, 1, (.t 24))], none⟩, ⟨some 26, .app 9 1 16 (.t 20) (.t 25), none⟩, ⟨some 5, .mov (.t 26), none⟩])
 (.reg [⟨some 27, .mov (.t 7), none⟩, ⟨some 28, .bini .add (.t 27) (.c (.int .i64 (1))), none⟩, ⟨some 6, .mov (.t 28), none⟩]))
 .skip)))
 (.reg [⟨some 13, .mov (.t 7), none⟩, ⟨some 14, .bini .add (.t 13) (.c (.int .i64 (1))), none⟩, ⟨some 7, .mov (.t 14), none⟩]))))))
 (.seq (.reg [⟨some 29, .mov (.t 5), none⟩, ⟨some 30, .mov (.t 0), none⟩, ⟨some 31, .mov (.t 6), none⟩, ⟨some 32, .slcs (.t 30) (some (.t 31)) none, none⟩, ⟨some 33, .bsl 9 1 1 [(.v (.string ⟨#[]⟩))] [(0, 1, (.t 32))], none⟩, ⟨some 34, .app 9 1 16 (.t 29) (.t 33), none⟩, ⟨some 4, .mov (.t 34), none⟩])
 .ret)))))⟩
theorem t_hydrantref03_Parts : trFn Try.prog 66 [] [[5, 6, 7]] = some f_hydrantref03_Parts := by kernel_rfl

abbrev n_hydrantref03_word : Nat := 67
theorem k_hydrantref03_word : FnOk Try.prog 67 := FnOk.of (by kernel_rfl)
/-- hydrant/hydrantref03.word -/
def f_hydrantref03_word : FnI := ⟨17, [.tmp 2],
 (.seq (.reg [⟨some 2, .mov (.b false), none⟩])
 (.seq (.reg [⟨some 3, .mov (.t 0), none⟩, ⟨some 4, .call 71 [(.t 3)], none⟩, ⟨some 5, .mov (.t 4), none⟩, ⟨some 6, .mov (.t 0), some (5, false)⟩, ⟨some 7, .bini .geq (.t 6) (.c (.int .u8 (48))), some (5, false)⟩, ⟨some 8, .mov (.t 7), some (5, false)⟩, ⟨some 9, .mov (.t 0), some (8, true)⟩, ⟨some 10, .bini .leq (.t 9) (.c (.int .u8 (57))), some (8, true)⟩, ⟨some 11, .pick (.t 8) (.t 10) (.b false), some (5, false)⟩, ⟨some 12, .pick (.t 5) (.b true) (.t 11), none⟩, ⟨some 13, .mov (.t 12), none⟩, ⟨some 14, .mov (.t 0), some (13, false)⟩, ⟨some 15, .bini .eql (.t 14) (.c (.int .u8 (45))), some (13, false)⟩, ⟨some 16, .pick (.t 13) (.b true) (.t 15), none⟩, ⟨some 2, .mov (.t 16), none⟩])
 .ret))⟩
theorem t_hydrantref03_word : trFn Try.prog 67 [] [] = some f_hydrantref03_word := by kernel_rfl

abbrev n_slices_Index___string_string : Nat := 68
theorem k_slices_Index___string_string : FnOk Try.prog 68 := FnOk.of (by kernel_rfl)
/-- slices.Index[[]string,string] -/
def f_slices_Index___string_string : FnI := ⟨19, [.tmp 4],
 (.seq (.reg [⟨some 4, .mov (.c (.int .i64 (0))), none⟩])
 (.seq (.seq (.reg [⟨some 6, .mov (.t 0), none⟩, ⟨some 7, .len false (.t 6), none⟩, ⟨some 8, .mov (.c (.int .i64 (0))), none⟩])
 (.block 0
 (.loop [8] [9, 10, 5, 11, 12, 13, 14, 15, 16, 17, 4, 18, 8]
 (.seq (.reg [⟨some 9, .bini .lss (.t 8) (.t 7), none⟩])
 (.seq (.cond (.t 9)
 .skip
 (.exit 0))
 (.seq (.block 1
 (.seq (.reg [⟨some 10, .mov (.t 8), none⟩, ⟨some 5, .mov (.t 10), none⟩])
 (.seq (.reg [⟨some 11, .mov (.t 1), none⟩, ⟨some 12, .mov (.t 0), none⟩, ⟨some 13, .mov (.t 5), none⟩, ⟨some 14, .iadr 1 (.t 12) (.t 13), none⟩, ⟨some 15, .load false 1 (.t 14), none⟩, ⟨some 16, .bins .eql (.t 11) (.t 15), none⟩])
 (.cond (.t 16)
 (.seq (.reg [⟨some 17, .mov (.t 5), none⟩, ⟨some 4, .mov (.t 17), none⟩])
 .ret)
 .skip))))
 (.reg [⟨some 18, .bini .add (.t 8) (.c (.int .i64 (1))), none⟩, ⟨some 8, .mov (.t 18), none⟩])))))))
 (.seq (.reg [⟨some 4, .mov (.c (.int .i64 (-1))), none⟩])
 .ret)))⟩
theorem t_slices_Index___string_string : trFn Try.prog 68 [] [[8]] = some f_slices_Index___string_string := by kernel_rfl

abbrev n_slices_ContainsFunc___api_Cluster_api_Cluster : Nat := 69
theorem k_slices_ContainsFunc___api_Cluster_api_Cluster : FnOk Try.prog 69 := FnOk.of (by kernel_rfl)
/-- slices.ContainsFunc[[]hydrant/api.Cluster,hydrant/api.Cluster] -/
def f_slices_ContainsFunc___api_Cluster_api_Cluster : FnI := ⟨9, [.tmp 4],
 (.seq (.reg [⟨some 4, .mov (.b false), none⟩])
 (.seq (.reg [⟨some 5, .mov (.t 0), none⟩, ⟨some 6, .mov (.t 1), none⟩, ⟨some 7, .call 75 [(.t 5), (.t 6)], none⟩, ⟨some 8, .bini .geq (.t 7) (.c (.int .i64 (0))), none⟩, ⟨some 4, .mov (.t 8), none⟩])
 .ret))⟩
theorem t_slices_ContainsFunc___api_Cluster_api_Cluster : trFn Try.prog 69 [] [] = some f_slices_ContainsFunc___api_Cluster_api_Cluster := by kernel_rfl

abbrev n_config_named_1 : Nat := 70
theorem k_config_named_1 : FnOk Try.prog 70 := FnOk.of (by kernel_rfl)
/-- hydrant/config.named$1 -/
def f_config_named_1 : FnI := ⟨8, [.tmp 3],
 (.seq (.reg [⟨some 2, .box 46 (.t 0), none⟩, ⟨some 3, .mov (.b false), none⟩])
 (.seq (.reg [⟨some 4, .fadr 0 (.t 2), none⟩, ⟨some 5, .load false 1 (.t 4), none⟩, ⟨some 6, .load false 1 (.t 1), none⟩, ⟨some 7, .bins .eql (.t 5) (.t 6), none⟩, ⟨some 3, .mov (.t 7), none⟩])
 .ret))⟩
theorem t_config_named_1 : trFn Try.prog 70 [] [] = some f_config_named_1 := by kernel_rfl

abbrev n_hydrantref03_low : Nat := 71
theorem k_hydrantref03_low : FnOk Try.prog 71 := FnOk.of (by kernel_rfl)
/-- hydrant/hydrantref03.low -/
def f_hydrantref03_low : FnI := ⟨9, [.tmp 2],
 (.seq (.reg [⟨some 2, .mov (.b false), none⟩])
 (.seq (.reg [⟨some 3, .mov (.t 0), none⟩, ⟨some 4, .bini .geq (.t 3) (.c (.int .u8 (97))), none⟩, ⟨some 5, .mov (.t 4), none⟩, ⟨some 6, .mov (.t 0), some (5, true)⟩, ⟨some 7, .bini .leq (.t 6) (.c (.int .u8 (122))), some (5, true)⟩, ⟨some 8, .pick (.t 5) (.t 7) (.b false), none⟩, ⟨some 2, .mov (.t 8), none⟩])
 .ret))⟩
theorem t_hydrantref03_low : trFn Try.prog 71 [] [] = some f_hydrantref03_low := by kernel_rfl

abbrev n_stringslite_HasPrefix : Nat := 72
theorem k_stringslite_HasPrefix : FnOk Try.prog 72 := FnOk.of (by kernel_rfl)
/-- internal/stringslite.HasPrefix -/
def f_stringslite_HasPrefix : FnI := ⟨18, [.tmp 4],
 (.seq (.reg [⟨some 4, .mov (.b false), none⟩])
 (.seq (.reg [⟨some 5, .mov (.t 0), none⟩, ⟨some 6, .len true (.t 5), none⟩, ⟨some 7, .mov (.t 1), none⟩, ⟨some 8, .len true (.t 7), none⟩, ⟨some 9, .bini .geq (.t 6) (.t 8), none⟩, ⟨some 10, .mov (.t 9), none⟩, ⟨some 11, .mov (.t 0), some (10, true)⟩, ⟨some 12, .mov (.t 1), some (10, true)⟩, ⟨some 13, .len true (.t 12), some (10, true)⟩, ⟨some 14, .slcs (.t 11) none (some (.t 13)), some (10, true)⟩, ⟨some 15, .mov (.t 1), some (10, true)⟩, ⟨some 16, .bins .eql (.t 14) (.t 15), some (10, true)⟩, ⟨some 17, .pick (.t 10) (.t 16) (.b false), none⟩, ⟨some 4, .mov (.t 17), none⟩])
 .ret))⟩
theorem t_stringslite_HasPrefix : trFn Try.prog 72 [] [] = some f_stringslite_HasPrefix := by kernel_rfl

abbrev n_names_parts_1 : Nat := 73
theorem k_names_parts_1 : FnOk Try.prog 73 := FnOk.of (by kernel_rfl)
/-- hydrant/names.parts$1 -/
def f_names_parts_1 : FnI := ⟨23, [],
 (.block 0
 (.loop [] [5, 6, 7, 4, 8, 9, 10, 11, 12, 13, 14, 15, 16, 17, 18, 19, 20, 21, 22]
 (.block 1
 (.seq (.reg [⟨some 5, .load false 1 (.t 1), none⟩, ⟨some 6, .load false 1 (.t 2), none⟩, ⟨some 7, .call 74 [(.t 5), (.t 6)], none⟩, ⟨some 4, .mov (.t 7), none⟩])
 (.seq (.seq (.reg [⟨some 8, .mov (.t 4), none⟩, ⟨some 9, .bini .lss (.t 8) (.c (.int .i64 (0))), none⟩])
 (.cond (.t 9)
 (.seq (.reg [⟨some 10, .mov (.t 0), none⟩, ⟨some 11, .load false 1 (.t 1), none⟩, ⟨some 12, .callv (.t 10) [(.t 11)], none⟩])
 .ret)
 .skip))
 (.seq (.seq (.reg [⟨some 13, .mov (.t 0), none⟩, ⟨some 14, .load false 1 (.t 1), none⟩, ⟨some 15, .mov (.t 4), none⟩, ⟨some 16, .slcs (.t 14) none (some (.t 15)), none⟩, ⟨some 17, .callv (.t 13) [(.t 16)], none⟩, ⟨some 18, .not (.t 17), none⟩])
 (.cond (.t 18)
 .ret
 .skip))
 (.reg [⟨some 19, .load false 1 (.t 1), none⟩, ⟨some 20, .mov (.t 4), none⟩, ⟨some 21, .bini .add (.t 20) (.c (.int .i64 (1))), none⟩, ⟨some 22, .slcs (.t 19) (some (.t 21)) none, none⟩, ⟨none, .store 1 (.t 1) (.t 22), none⟩])))))))⟩
theorem t_names_parts_1 : trFn Try.prog 73 [] [[]] = some f_names_parts_1 := by kernel_rfl

abbrev n_strings_IndexByte : Nat := 74
theorem k_strings_IndexByte : FnOk Try.prog 74 := FnOk.of (by kernel_rfl)
/-- strings.IndexByte -/
def f_strings_IndexByte : FnI := ⟨8, [.tmp 4],
 (.seq (.reg [⟨some 4, .mov (.c (.int .i64 (0))), none⟩])
 (.seq (.reg [⟨some 5, .mov (.t 0), none⟩, ⟨some 6, .mov (.t 1), none⟩, ⟨some 7, .call 76 [(.t 5), (.t 6)], none⟩, ⟨some 4, .mov (.t 7), none⟩])
 .ret))⟩
theorem t_strings_IndexByte : trFn Try.prog 74 [] [] = some f_strings_IndexByte := by kernel_rfl

abbrev n_slices_IndexFunc___api_Cluster_api_Cluster : Nat := 75
theorem k_slices_IndexFunc___api_Cluster_api_Cluster : FnOk Try.prog 75 := FnOk.of (by kernel_rfl)
/-- slices.IndexFunc[[]hydrant/api.Cluster,hydrant/api.Cluster] -/
def f_slices_IndexFunc___api_Cluster_api_Cluster : FnI := ⟨19, [.tmp 4],
 (.seq (.reg [⟨some 4, .mov (.c (.int .i64 (0))), none⟩])
 (.seq (.seq (.reg [⟨some 6, .mov (.t 0), none⟩, ⟨some 7, .len false (.t 6), none⟩, ⟨some 8, .mov (.c (.int .i64 (0))), none⟩])
 (.block 0
 (.loop [8] [9, 10, 5, 11, 12, 13, 14, 15, 16, 17, 4, 18, 8]
 (.seq (.reg [⟨some 9, .bini .lss (.t 8) (.t 7), none⟩])
 (.seq (.cond (.t 9)
 .skip
 (.exit 0))
 (.seq (.block 1
 (.seq (.reg [⟨some 10, .mov (.t 8), none⟩, ⟨some 5, .mov (.t 10), none⟩])
 (.seq (.reg [⟨some 11, .mov (.t 1), none⟩, ⟨some 12, .mov (.t 0), none⟩, ⟨some 13, .mov (.t 5), none⟩, ⟨some 14, .iadr 4 (.t 12) (.t 13), none⟩, ⟨some 15, .load true 4 (.t 14), none⟩, ⟨some 16, .callv (.t 11) [(.t 15)], none⟩])
 (.cond (.t 16)
 (.seq (.reg [⟨some 17, .mov (.t 5), none⟩, ⟨some 4, .mov (.t 17), none⟩])
 .ret)
 .skip))))
 (.reg [⟨some 18, .bini .add (.t 8) (.c (.int .i64 (1))), none⟩, ⟨some 8, .mov (.t 18), none⟩])))))))
 (.seq (.reg [⟨some 4, .mov (.c (.int .i64 (-1))), none⟩])
 .ret)))⟩
theorem t_slices_IndexFunc___api_Cluster_api_Cluster : trFn Try.prog 75 [] [[8]] = some f_slices_IndexFunc___api_Cluster_api_Cluster := by kernel_rfl

abbrev n_stringslite_IndexByte : Nat := 76
theorem k_stringslite_IndexByte : FnOk Try.prog 76 := FnOk.of (by kernel_rfl)
abbrev n_bytealg_IndexByteString : Nat := 77
end Go.Proofs.Ytjbhkahjhohaeaa
