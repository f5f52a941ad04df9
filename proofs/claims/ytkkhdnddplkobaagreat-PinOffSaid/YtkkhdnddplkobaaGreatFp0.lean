/- The functions, a part. -/
import Derived.Test.YtkkhdnddplkobaaGreatSxB
import Derived.Test.YtkkhdnddplkobaaGreatRows
namespace Go.Proofs.YtkkhdnddplkobaaGreat
open Go.Proofs.YtkkhdnddplkobaaGreat.Sx
abbrev ty_int : Nat := 3
abbrev ty_bool : Nat := 4
abbrev ty_string : Nat := 9
abbrev ty_sl_string : Nat := 22
abbrev ty_sl_api_Rule : Nat := 23
abbrev ty_sl_api_Cluster : Nat := 24
abbrev ty_api_Snap : Nat := 26
abbrev ty_sl_int : Nat := 28
abbrev ty_sl_api_Version : Nat := 29
abbrev ty_sl_api_Listen : Nat := 30
abbrev ty_slsl_uint64 : Nat := 31
abbrev ty_sl_api_Retired : Nat := 32
abbrev ty_api_World : Nat := 34
abbrev ty_api_Errno : Nat := 35
abbrev ty_sl_api_Group : Nat := 38
abbrev ty_api_Version : Nat := 40
abbrev ty_sl_api_Route : Nat := 49
abbrev ty_api_Config : Nat := 51
abbrev ty_api_Op : Nat := 53
abbrev ty_uint64 : Nat := 54
abbrev ty_a6_uint64 : Nat := 55
abbrev ty_api_Answer : Nat := 57
abbrev ty_api_Machine : Nat := 59
abbrev ty_sl_bool : Nat := 69
abbrev ty_api_Cluster : Nat := 71
abbrev ty_api_Listen : Nat := 77
abbrev ty_sl_api_End : Nat := 78
abbrev ty_api_Group : Nat := 80
abbrev ty_api_End : Nat := 82
abbrev ty_api_Retired : Nat := 95
abbrev ty_sl_uint64 : Nat := 106
abbrev ty_api_Rule : Nat := 122
abbrev ty_world_cloner : Nat := 133
abbrev ty_api_Route : Nat := 157
abbrev n_hydrantlaw19_PinOff : Nat := 6
/-- hydrant/hydrantlaw19.PinOff -/
def f_hydrantlaw19_PinOff : FnI := ⟨34, [.tmp 4],
 (.seq (.reg [⟨some 2, .box 34 (.t 0), none⟩, ⟨some 3, .box 59 (.t 1), none⟩, ⟨some 4, .mov (.b false), none⟩])
 (.seq (.seq (.reg [⟨some 9, .load true 8 (.t 2), none⟩, ⟨some 10, .call 18 [(.t 9)], none⟩])
 (.cond (.t 10)
 (.seq (.reg [⟨some 4, .mov (.b true), none⟩])
 .ret)
 .skip))
 (.seq (.reg [⟨some 12, .load true 8 (.t 2), none⟩, ⟨some 13, .load true 44 (.t 3), none⟩, ⟨some 14, .call 28 [(.t 12), (.t 13)], none⟩, ⟨some 11, .mov (.t 14), none⟩, ⟨some 15, .ext 0 (.t 11), none⟩, ⟨some 16, .ext 1 (.t 11), none⟩, ⟨some 5, .alloc 34 [(.v (.int .i64 (0))), (.v (.int .i64 (0))), (.v (.int .i64 (0))), (.v (.slice none 0 0)), (.v (.slice none 0 0)), (.v (.slice none 0 0)), (.v (.slice none 0 0)), (.v (.slice none 0 0))], none⟩, ⟨some 6, .alloc 61 [(.v (.int .i64 (0))), (.v (.int .i64 (0))), (.v (.int .i64 (0))), (.v (.int .i64 (0))), (.v (.int .i64 (0))), (.v (.bool false)), (.v (.int .i64 (0))), (.v (.bool false)), (.v (.bool false)), (.v (.bool false)), (.v (.int .i64 (0))), (.v (.int .i64 (0))), (.v (.int .i64 (0))), (.v (.int .i64 (0))), (.v (.int .i64 (0))), (.v (.int .i64 (0))), (.v (.int .i64 (0))), (.v (.int .u64 (0))), (.v (.int .u64 (0))), (.v (.int .u64 (0))), (.v (.int .u64 (0))), (.v (.int .u64 (0))), (.v (.int .u64 (0)))], none⟩, ⟨none, .store 8 (.t 5) (.t 15), none⟩, ⟨none, .store 23 (.t 6) (.t 16), none⟩])
 (.seq (.reg [⟨some 18, .load true 8 (.t 2), none⟩, ⟨some 19, .load true 44 (.t 3), none⟩, ⟨some 20, .call 29 [(.t 18), (.t 19)], none⟩, ⟨some 17, .mov (.t 20), none⟩, ⟨some 21, .ext 0 (.t 17), none⟩, ⟨some 22, .ext 1 (.t 17), none⟩, ⟨some 7, .alloc 34 [(.v (.int .i64 (0))), (.v (.int .i64 (0))), (.v (.int .i64 (0))), (.v (.slice none 0 0)), (.v (.slice none 0 0)), (.v (.slice none 0 0)), (.v (.slice none 0 0)), (.v (.slice none 0 0))], none⟩, ⟨some 8, .alloc 61 [(.v (.int .i64 (0))), (.v (.int .i64 (0))), (.v (.int .i64 (0))), (.v (.int .i64 (0))), (.v (.int .i64 (0))), (.v (.bool false)), (.v (.int .i64 (0))), (.v (.bool false)), (.v (.bool false)), (.v (.bool false)), (.v (.int .i64 (0))), (.v (.int .i64 (0))), (.v (.int .i64 (0))), (.v (.int .i64 (0))), (.v (.int .i64 (0))), (.v (.int .i64 (0))), (.v (.int .i64 (0))), (.v (.int .u64 (0))), (.v (.int .u64 (0))), (.v (.int .u64 (0))), (.v (.int .u64 (0))), (.v (.int .u64 (0))), (.v (.int .u64 (0)))], none⟩, ⟨none, .store 8 (.t 7) (.t 21), none⟩, ⟨none, .store 23 (.t 8) (.t 22), none⟩])
 (.seq (.reg [⟨some 23, .call 25 [], none⟩, ⟨some 24, .mov (.t 23), none⟩, ⟨some 25, .load true 8 (.t 5), some (24, true)⟩, ⟨some 26, .load true 8 (.t 7), some (24, true)⟩, ⟨some 27, .call 13 [(.t 25), (.t 26)], some (24, true)⟩, ⟨some 28, .pick (.t 24) (.t 27) (.b false), none⟩, ⟨some 29, .mov (.t 28), none⟩, ⟨some 30, .load true 23 (.t 6), some (29, true)⟩, ⟨some 31, .load true 23 (.t 8), some (29, true)⟩, ⟨some 32, .binst false [0, 0, 0, 0, 0, 2, 0, 2, 2, 2, 0, 0, 0, 0, 0, 0, 0, 0, 0, 0, 0, 0, 0] (.t 30) (.t 31), some (29, true)⟩, ⟨some 33, .pick (.t 29) (.t 32) (.b false), none⟩, ⟨some 4, .mov (.t 33), none⟩])
 .ret)))))⟩
theorem t_hydrantlaw19_PinOff : trFn Tryz.prog 6 [] [] = some f_hydrantlaw19_PinOff := by kernel_rfl

abbrev n_hydrantref18_BigSnap : Nat := 7
/-- hydrant/hydrantref18.BigSnap -/
def f_hydrantref18_BigSnap : FnI := ⟨44, [.tmp 2],
 (.seq (.reg [⟨some 1, .box 26 (.t 0), none⟩, ⟨some 2, .mov (.b false), none⟩])
 (.seq (.seq (.reg [⟨some 4, .fadr 0 (.t 1), none⟩, ⟨some 5, .load false 1 (.t 4), none⟩, ⟨some 6, .len false (.t 5), none⟩, ⟨some 7, .bini .gtr (.t 6) (.c (.int .i64 (20))), none⟩, ⟨some 8, .mov (.t 7), none⟩, ⟨some 9, .fadr 2 (.t 1), some (8, false)⟩, ⟨some 10, .load false 1 (.t 9), some (8, false)⟩, ⟨some 11, .len false (.t 10), some (8, false)⟩, ⟨some 12, .bini .gtr (.t 11) (.c (.int .i64 (20))), some (8, false)⟩, ⟨some 13, .pick (.t 8) (.b true) (.t 12), none⟩, ⟨some 14, .mov (.t 13), none⟩, ⟨some 15, .fadr 1 (.t 1), some (14, false)⟩, ⟨some 16, .load false 1 (.t 15), some (14, false)⟩, ⟨some 17, .call 30 [(.t 16)], some (14, false)⟩, ⟨some 18, .pick (.t 14) (.b true) (.t 17), none⟩])
 (.cond (.t 18)
 (.seq (.reg [⟨some 2, .mov (.b true), none⟩])
 .ret)
 .skip))
 (.seq (.seq (.reg [⟨some 3, .mov (.c (.int .i64 (0))), none⟩])
 (.block 0
 (.loop [3] [19, 20, 21, 22, 23, 26, 27, 28, 29, 30, 31, 32, 33, 34, 35, 36, 37, 38, 39, 40, 41, 42, 43, 2, 24, 25, 3]
 (.seq (.seq (.reg [⟨some 19, .mov (.t 3), none⟩, ⟨some 20, .fadr 2 (.t 1), none⟩, ⟨some 21, .load false 1 (.t 20), none⟩, ⟨some 22, .len false (.t 21), none⟩, ⟨some 23, .bini .lss (.t 19) (.t 22), none⟩])
 (.cond (.t 23)
 .skip
 (.exit 0)))
 (.seq (.block 1
 (.seq (.reg [⟨some 26, .fadr 2 (.t 1), none⟩, ⟨some 27, .load false 1 (.t 26), none⟩, ⟨some 28, .mov (.t 3), none⟩, ⟨some 29, .iadr 4 (.t 27) (.t 28), none⟩, ⟨some 30, .fadr 3 (.t 29), none⟩, ⟨some 31, .load false 1 (.t 30), none⟩, ⟨some 32, .len false (.t 31), none⟩, ⟨some 33, .bini .gtr (.t 32) (.c (.int .i64 (20))), none⟩, ⟨some 34, .mov (.t 33), none⟩, ⟨some 35, .fadr 2 (.t 1), some (34, false)⟩, ⟨some 36, .load false 1 (.t 35), some (34, false)⟩, ⟨some 37, .mov (.t 3), some (34, false)⟩, ⟨some 38, .iadr 4 (.t 36) (.t 37), some (34, false)⟩, ⟨some 39, .fadr 0 (.t 38), some (34, false)⟩, ⟨some 40, .load false 1 (.t 39), some (34, false)⟩, ⟨some 41, .len true (.t 40), some (34, false)⟩, ⟨some 42, .bini .gtr (.t 41) (.c (.int .i64 (100))), some (34, false)⟩, ⟨some 43, .pick (.t 34) (.b true) (.t 42), none⟩])
 (.cond (.t 43)
 (.seq (.reg [⟨some 2, .mov (.b true), none⟩])
 .ret)
 .skip)))
 (.reg [⟨some 24, .mov (.t 3), none⟩, ⟨some 25, .bini .add (.t 24) (.c (.int .i64 (1))), none⟩, ⟨some 3, .mov (.t 25), none⟩]))))))
 (.seq (.reg [⟨some 2, .mov (.b false), none⟩])
 .ret))))⟩
theorem t_hydrantref18_BigSnap : trFn Tryz.prog 7 [] [[3]] = some f_hydrantref18_BigSnap := by kernel_rfl

abbrev n_world_New : Nat := 8
/-- hydrant/world.New -/
def f_world_New : FnI := ⟨64, [.cell 6 8 true, .tmp 7],
 (.seq (.reg [⟨some 3, .box 26 (.t 0), none⟩, ⟨some 6, .alloc 34 [(.v (.int .i64 (0))), (.v (.int .i64 (0))), (.v (.int .i64 (0))), (.v (.slice none 0 0)), (.v (.slice none 0 0)), (.v (.slice none 0 0)), (.v (.slice none 0 0)), (.v (.slice none 0 0))], none⟩, ⟨some 7, .mov (.c (.int .i64 (0))), none⟩])
 (.seq (.reg [⟨some 15, .load true 3 (.t 3), none⟩, ⟨some 16, .call 10 [(.t 15)], none⟩, ⟨some 14, .mov (.t 16), none⟩, ⟨some 17, .ext 0 (.t 14), none⟩, ⟨some 18, .ext 1 (.t 14), none⟩, ⟨some 8, .alloc 40 [(.v (.slice none 0 0)), (.v (.slice none 0 0)), (.v (.slice none 0 0)), (.v (.slice none 0 0)), (.v (.bool false))], none⟩, ⟨none, .store 5 (.t 8) (.t 17), none⟩, ⟨some 9, .mov (.t 18), none⟩])
 (.seq (.seq (.reg [⟨some 19, .mov (.t 9), none⟩, ⟨some 20, .bini .neq (.t 19) (.c (.int .i64 (0))), none⟩])
 (.cond (.t 20)
 (.seq (.reg [⟨some 21, .build [(.v (.int .i64 (0))), (.v (.int .i64 (0))), (.v (.int .i64 (0))), (.v (.slice none 0 0)), (.v (.slice none 0 0)), (.v (.slice none 0 0)), (.v (.slice none 0 0)), (.v (.slice none 0 0))] [], none⟩, ⟨some 22, .mov (.t 9), none⟩, ⟨none, .store 8 (.t 6) (.t 21), none⟩, ⟨some 7, .mov (.t 22), none⟩])
 .ret)
 .skip))
 (.seq (.reg [⟨some 24, .mov (.t 2), none⟩, ⟨some 25, .call 31 [(.t 24)], none⟩, ⟨some 23, .mov (.t 25), none⟩, ⟨some 26, .ext 0 (.t 23), none⟩, ⟨some 27, .ext 1 (.t 23), none⟩, ⟨some 10, .mov (.t 26), none⟩, ⟨some 9, .mov (.t 27), none⟩])
 (.seq (.seq (.reg [⟨some 28, .mov (.t 9), none⟩, ⟨some 29, .bini .neq (.t 28) (.c (.int .i64 (0))), none⟩])
 (.cond (.t 29)
 (.seq (.reg [⟨some 30, .build [(.v (.int .i64 (0))), (.v (.int .i64 (0))), (.v (.int .i64 (0))), (.v (.slice none 0 0)), (.v (.slice none 0 0)), (.v (.slice none 0 0)), (.v (.slice none 0 0)), (.v (.slice none 0 0))] [], none⟩, ⟨some 31, .mov (.t 9), none⟩, ⟨none, .store 8 (.t 6) (.t 30), none⟩, ⟨some 7, .mov (.t 31), none⟩])
 .ret)
 .skip))
 (.seq (.regD [11] (.op ⟨0, true, [], ⟨some 32, .load true 5 (.t 8), none⟩⟩
 (.op ⟨2, false, [], ⟨some 34, .mov (.t 2), none⟩⟩
 (.op ⟨4, false, [], ⟨some 36, .mov (.t 10), none⟩⟩
 (.alt (.op ⟨1, false, [], ⟨some 33, .bsl 40 5 1 [(.v (.slice none 0 0)), (.v (.slice none 0 0)), (.v (.slice none 0 0)), (.v (.slice none 0 0)), (.v (.bool false))] [(0, 5, (.t 32))], none⟩⟩
 (.op ⟨3, false, [], ⟨some 35, .msl 3 1 8 [(.int .i64 (0))] (.t 34) (.t 34), none⟩⟩
 (.op ⟨5, false, [], ⟨some 37, .build [(.v (.int .i64 (0))), (.v (.int .i64 (0))), (.v (.int .i64 (0))), (.v (.slice none 0 0)), (.v (.slice none 0 0)), (.v (.slice none 0 0)), (.v (.slice none 0 0)), (.v (.slice none 0 0))] [(4, 1, (.t 33)), (3, 1, (.t 35)), (6, 1, (.t 36))], none⟩⟩
 (.bring ⟨6, false, [], ⟨some 11, .alloc 34 [(.v (.int .i64 (0))), (.v (.int .i64 (0))), (.v (.int .i64 (0))), (.v (.slice none 0 0)), (.v (.slice none 0 0)), (.v (.slice none 0 0)), (.v (.slice none 0 0)), (.v (.slice none 0 0))], none⟩⟩
 (.op ⟨7, false, [], ⟨none, .store 8 (.t 11) (.t 37), none⟩⟩
 .nil)))))
 (.op ⟨3, false, [], ⟨some 35, .msl 3 1 8 [(.int .i64 (0))] (.t 34) (.t 34), none⟩⟩
 (.op ⟨1, false, [], ⟨some 33, .bsl 40 5 1 [(.v (.slice none 0 0)), (.v (.slice none 0 0)), (.v (.slice none 0 0)), (.v (.slice none 0 0)), (.v (.bool false))] [(0, 5, (.t 32))], none⟩⟩
 (.op ⟨5, false, [], ⟨some 37, .build [(.v (.int .i64 (0))), (.v (.int .i64 (0))), (.v (.int .i64 (0))), (.v (.slice none 0 0)), (.v (.slice none 0 0)), (.v (.slice none 0 0)), (.v (.slice none 0 0)), (.v (.slice none 0 0))] [(4, 1, (.t 33)), (3, 1, (.t 35)), (6, 1, (.t 36))], none⟩⟩
 (.bring ⟨6, false, [], ⟨some 11, .alloc 34 [(.v (.int .i64 (0))), (.v (.int .i64 (0))), (.v (.int .i64 (0))), (.v (.slice none 0 0)), (.v (.slice none 0 0)), (.v (.slice none 0 0)), (.v (.slice none 0 0)), (.v (.slice none 0 0))], none⟩⟩
 (.op ⟨7, false, [], ⟨none, .store 8 (.t 11) (.t 37), none⟩⟩
 .nil))))))))))
 (.seq (.seq (.reg [⟨some 38, .mov (.t 1), none⟩, ⟨some 39, .len false (.t 38), none⟩, ⟨some 40, .mov (.c (.int .i64 (0))), none⟩])
 (.block 0
 (.loop [40] [41, 42, 43, 13, 44, 45, 46, 47, 48, 49, 50, 51, 52, 53, 54, 7, 55, 56, 57, 58, 59, 60, 61, 62, 40]
 (.seq (.reg [⟨some 41, .bini .lss (.t 40) (.t 39), none⟩])
 (.seq (.cond (.t 41)
 .skip
 (.exit 0))
 (.seq (.block 1
 (.seq (.reg [⟨some 42, .iadr 1 (.t 38) (.t 40), none⟩, ⟨some 43, .load false 1 (.t 42), none⟩, ⟨some 13, .mov (.t 43), none⟩])
 (.seq (.seq (.reg [⟨some 44, .mov (.t 13), none⟩, ⟨some 45, .call 32 [(.t 44)], none⟩, ⟨some 46, .not (.t 45), none⟩, ⟨some 47, .mov (.t 46), none⟩, ⟨some 48, .fadr 5 (.t 11), some (47, false)⟩, ⟨some 49, .load false 1 (.t 48), some (47, false)⟩, ⟨some 50, .mov (.t 13), some (47, false)⟩, ⟨some 51, .call 33 [(.t 49), (.t 50)], some (47, false)⟩, ⟨some 52, .bini .geq (.t 51) (.c (.int .i64 (0))), some (47, false)⟩, ⟨some 53, .pick (.t 47) (.b true) (.t 52), none⟩])
 (.cond (.t 53)
 (.seq (.reg [⟨some 54, .build [(.v (.int .i64 (0))), (.v (.int .i64 (0))), (.v (.int .i64 (0))), (.v (.slice none 0 0)), (.v (.slice none 0 0)), (.v (.slice none 0 0)), (.v (.slice none 0 0)), (.v (.slice none 0 0))] [], none⟩, ⟨none, .store 8 (.t 6) (.t 54), none⟩, ⟨some 7, .mov (.c (.int .i64 (1))), none⟩])
 .ret)
 .skip))
 (.reg [⟨some 55, .fadr 5 (.t 11), none⟩, ⟨some 56, .load false 1 (.t 55), none⟩, ⟨some 57, .mov (.t 13), none⟩, ⟨some 58, .build [(.v (.string ⟨#[]⟩)), (.v (.bool false)), (.v (.int .i64 (0))), (.v (.bool false))] [(0, 1, (.t 57))], none⟩, ⟨some 59, .bsl 77 4 1 [(.v (.string ⟨#[]⟩)), (.v (.bool false)), (.v (.int .i64 (0))), (.v (.bool false))] [(0, 4, (.t 58))], none⟩, ⟨some 60, .app 77 4 40 (.t 56) (.t 59), none⟩, ⟨some 61, .fadr 5 (.t 11), none⟩, ⟨none, .store 1 (.t 61) (.t 60), none⟩]))))
 (.reg [⟨some 62, .bini .add (.t 40) (.c (.int .i64 (1))), none⟩, ⟨some 40, .mov (.t 62), none⟩])))))))
 (.seq (.reg [⟨some 63, .load true 8 (.t 11), none⟩, ⟨none, .store 8 (.t 6) (.t 63), none⟩, ⟨some 7, .mov (.c (.int .i64 (0))), none⟩])
 .ret))))))))⟩
theorem t_world_New : trFn Tryz.prog 8 [([6], (.first 0 (.first 2 (.first 4 (.alt (.exec 1 (.exec 3 (.first 5 (.bring 6 (.exec 7 .nil))))) (.exec 3 (.exec 1 (.first 5 (.bring 6 (.exec 7 .nil))))))))))] [[40]] = some f_world_New := by kernel_rfl

abbrev n_world_Cells : Nat := 10
/-- hydrant/world.Cells -/
def f_world_Cells : FnI := ⟨53, [.cell 2 5 true, .tmp 3],
 (.seq (.reg [⟨some 1, .box 26 (.t 0), none⟩, ⟨some 2, .alloc 40 [(.v (.slice none 0 0)), (.v (.slice none 0 0)), (.v (.slice none 0 0)), (.v (.slice none 0 0)), (.v (.bool false))], none⟩, ⟨some 3, .mov (.c (.int .i64 (0))), none⟩])
 (.seq (.seq (.reg [⟨some 10, .load true 3 (.t 1), none⟩, ⟨some 11, .call 17 [(.t 10)], none⟩, ⟨some 12, .not (.t 11), none⟩])
 (.cond (.t 12)
 (.seq (.reg [⟨some 13, .build [(.v (.slice none 0 0)), (.v (.slice none 0 0)), (.v (.slice none 0 0)), (.v (.slice none 0 0)), (.v (.bool false))] [], none⟩, ⟨none, .store 5 (.t 2) (.t 13), none⟩, ⟨some 3, .mov (.c (.int .i64 (1))), none⟩])
 .ret)
 .skip))
 (.seq (.reg [⟨some 14, .load true 3 (.t 1), none⟩, ⟨some 15, .build [(.v (.slice none 0 0)), (.v (.slice none 0 0)), (.v (.slice none 0 0)), (.v (.slice none 0 0)), (.v (.bool false))] [(0, 3, (.t 14))], none⟩, ⟨some 4, .alloc 40 [(.v (.slice none 0 0)), (.v (.slice none 0 0)), (.v (.slice none 0 0)), (.v (.slice none 0 0)), (.v (.bool false))], none⟩, ⟨none, .store 5 (.t 4) (.t 15), none⟩])
 (.seq (.seq (.reg [⟨some 16, .fadr 2 (.t 1), none⟩, ⟨some 17, .load false 1 (.t 16), none⟩, ⟨some 18, .len false (.t 17), none⟩, ⟨some 19, .mov (.c (.int .i64 (0))), none⟩])
 (.block 0
 (.loop [19] [20, 21, 22, 6, 7, 23, 24, 25, 26, 27, 29, 30, 31, 28, 32, 33, 8, 9, 34, 35, 36, 37, 3, 38, 39, 40, 41, 42, 43, 44, 45, 46, 47, 48, 49, 50, 51, 19]
 (.seq (.reg [⟨some 20, .bini .lss (.t 19) (.t 18), none⟩])
 (.seq (.cond (.t 20)
 .skip
 (.exit 0))
 (.seq (.block 1
 (.seq (.reg [⟨some 21, .iadr 4 (.t 17) (.t 19), none⟩, ⟨some 22, .load true 4 (.t 21), none⟩, ⟨some 6, .alloc 71 [(.v (.string ⟨#[]⟩)), (.v (.int .i64 (0))), (.v (.int .i64 (0))), (.v (.slice none 0 0))], none⟩, ⟨none, .store 4 (.t 6) (.t 22), none⟩])
 (.seq (.reg [⟨some 7, .alloc 80 [(.v (.int .u64 (0))), (.v (.slice none 0 0))], none⟩])
 (.seq (.seq (.reg [⟨some 23, .fadr 3 (.t 6), none⟩, ⟨some 24, .load false 1 (.t 23), none⟩, ⟨some 25, .len false (.t 24), none⟩, ⟨some 26, .mov (.c (.int .i64 (0))), none⟩])
 (.block 2
 (.loop [26] [27, 29, 30, 31, 28, 32, 33, 8, 9, 34, 35, 36, 37, 3, 38, 39, 40, 41, 42, 43, 44, 26]
 (.seq (.reg [⟨some 27, .bini .lss (.t 26) (.t 25), none⟩])
 (.seq (.cond (.t 27)
 .skip
 (.exit 2))
 (.seq (.block 3
 (.seq (.reg [⟨some 29, .fadr 2 (.t 6), none⟩, ⟨some 30, .load false 1 (.t 29), none⟩, ⟨some 31, .call 37 [(.t 30)], none⟩, ⟨some 28, .mov (.t 31), none⟩, ⟨some 32, .ext 0 (.t 28), none⟩, ⟨some 33, .ext 1 (.t 28), none⟩, ⟨some 8, .alloc 82 [(.v (.int .u64 (0))), (.v (.slice none 0 0)), (.v (.int .i64 (0)))], none⟩, ⟨none, .store 3 (.t 8) (.t 32), none⟩, ⟨some 9, .mov (.t 33), none⟩])
 (.seq (.seq (.reg [⟨some 34, .mov (.t 9), none⟩, ⟨some 35, .bini .neq (.t 34) (.c (.int .i64 (0))), none⟩])
 (.cond (.t 35)
 (.seq (.reg [⟨some 36, .build [(.v (.slice none 0 0)), (.v (.slice none 0 0)), (.v (.slice none 0 0)), (.v (.slice none 0 0)), (.v (.bool false))] [], none⟩, ⟨some 37, .mov (.t 9), none⟩, ⟨none, .store 5 (.t 2) (.t 36), none⟩, ⟨some 3, .mov (.t 37), none⟩])
 .ret)
 .skip))
 (.reg [⟨some 38, .fadr 1 (.t 7), none⟩, ⟨some 39, .load false 1 (.t 38), none⟩, ⟨some 40, .load true 3 (.t 8), none⟩, ⟨some 41, .bsl 82 3 1 [(.v (.int .u64 (0))), (.v (.slice none 0 0)), (.v (.int .i64 (0)))] [(0, 3, (.t 40))], none⟩, ⟨some 42, .app 82 3 40 (.t 39) (.t 41), none⟩, ⟨some 43, .fadr 1 (.t 7), none⟩, ⟨none, .store 1 (.t 43) (.t 42), none⟩]))))
 (.reg [⟨some 44, .bini .add (.t 26) (.c (.int .i64 (1))), none⟩, ⟨some 26, .mov (.t 44), none⟩])))))))
 (.reg [⟨some 45, .fadr 3 (.t 4), none⟩, ⟨some 46, .load false 1 (.t 45), none⟩, ⟨some 47, .load true 2 (.t 7), none⟩, ⟨some 48, .bsl 80 2 1 [(.v (.int .u64 (0))), (.v (.slice none 0 0))] [(0, 2, (.t 47))], none⟩, ⟨some 49, .app 80 2 32 (.t 46) (.t 48), none⟩, ⟨some 50, .fadr 3 (.t 4), none⟩, ⟨none, .store 1 (.t 50) (.t 49), none⟩])))))
 (.reg [⟨some 51, .bini .add (.t 19) (.c (.int .i64 (1))), none⟩, ⟨some 19, .mov (.t 51), none⟩])))))))
 (.seq (.reg [⟨some 52, .load true 5 (.t 4), none⟩, ⟨none, .store 5 (.t 2) (.t 52), none⟩, ⟨some 3, .mov (.c (.int .i64 (0))), none⟩])
 .ret)))))⟩
theorem t_world_Cells : trFn Tryz.prog 10 [] [[19], [26]] = some f_world_Cells := by kernel_rfl

abbrev n_hydrantref18_Same : Nat := 13
/-- hydrant/hydrantref18.Same -/
def f_hydrantref18_Same : FnI := ⟨105, [.tmp 4],
 (.seq (.reg [⟨some 2, .box 34 (.t 0), none⟩, ⟨some 3, .box 34 (.t 1), none⟩, ⟨some 4, .mov (.b false), none⟩])
 (.seq (.seq (.reg [⟨some 7, .fadr 0 (.t 2), none⟩, ⟨some 8, .load false 1 (.t 7), none⟩, ⟨some 9, .fadr 0 (.t 3), none⟩, ⟨some 10, .load false 1 (.t 9), none⟩, ⟨some 11, .bini .neq (.t 8) (.t 10), none⟩, ⟨some 12, .mov (.t 11), none⟩, ⟨some 13, .fadr 1 (.t 2), some (12, false)⟩, ⟨some 14, .load false 1 (.t 13), some (12, false)⟩, ⟨some 15, .fadr 1 (.t 3), some (12, false)⟩, ⟨some 16, .load false 1 (.t 15), some (12, false)⟩, ⟨some 17, .bini .neq (.t 14) (.t 16), some (12, false)⟩, ⟨some 18, .pick (.t 12) (.b true) (.t 17), none⟩, ⟨some 19, .mov (.t 18), none⟩, ⟨some 20, .fadr 2 (.t 2), some (19, false)⟩, ⟨some 21, .load false 1 (.t 20), some (19, false)⟩, ⟨some 22, .fadr 2 (.t 3), some (19, false)⟩, ⟨some 23, .load false 1 (.t 22), some (19, false)⟩, ⟨some 24, .bini .neq (.t 21) (.t 23), some (19, false)⟩, ⟨some 25, .pick (.t 19) (.b true) (.t 24), none⟩, ⟨some 26, .mov (.t 25), none⟩, ⟨some 27, .fadr 3 (.t 2), some (26, false)⟩, ⟨some 28, .load false 1 (.t 27), some (26, false)⟩, ⟨some 29, .fadr 3 (.t 3), some (26, false)⟩, ⟨some 30, .load false 1 (.t 29), some (26, false)⟩, ⟨some 31, .call 42 [(.t 28), (.t 30)], some (26, false)⟩, ⟨some 32, .not (.t 31), some (26, false)⟩, ⟨some 33, .pick (.t 26) (.b true) (.t 32), none⟩, ⟨some 34, .mov (.t 33), none⟩, ⟨some 35, .fadr 4 (.t 2), some (34, false)⟩, ⟨some 36, .load false 1 (.t 35), some (34, false)⟩, ⟨some 37, .len false (.t 36), some (34, false)⟩, ⟨some 38, .fadr 4 (.t 3), some (34, false)⟩, ⟨some 39, .load false 1 (.t 38), some (34, false)⟩, ⟨some 40, .len false (.t 39), some (34, false)⟩, ⟨some 41, .bini .neq (.t 37) (.t 40), some (34, false)⟩, ⟨some 42, .pick (.t 34) (.b true) (.t 41), none⟩, ⟨some 43, .mov (.t 42), none⟩, ⟨some 44, .fadr 5 (.t 2), some (43, false)⟩, ⟨some 45, .load false 1 (.t 44), some (43, false)⟩, ⟨some 46, .len false (.t 45), some (43, false)⟩, ⟨some 47, .fadr 5 (.t 3), some (43, false)⟩, ⟨some 48, .load false 1 (.t 47), some (43, false)⟩, ⟨some 49, .len false (.t 48), some (43, false)⟩, ⟨some 50, .bini .neq (.t 46) (.t 49), some (43, false)⟩, ⟨some 51, .pick (.t 43) (.b true) (.t 50), none⟩, ⟨some 52, .mov (.t 51), none⟩, ⟨some 53, .fadr 6 (.t 2), some (52, false)⟩, ⟨some 54, .load false 1 (.t 53), some (52, false)⟩, ⟨some 55, .fadr 6 (.t 3), some (52, false)⟩, ⟨some 56, .load false 1 (.t 55), some (52, false)⟩, ⟨some 57, .call 43 [(.t 54), (.t 56)], some (52, false)⟩, ⟨some 58, .not (.t 57), some (52, false)⟩, ⟨some 59, .pick (.t 52) (.b true) (.t 58), none⟩, ⟨some 60, .mov (.t 59), none⟩, ⟨some 61, .fadr 7 (.t 2), some (60, false)⟩, ⟨some 62, .load false 1 (.t 61), some (60, false)⟩, ⟨some 63, .fadr 7 (.t 3), some (60, false)⟩, ⟨some 64, .load false 1 (.t 63), some (60, false)⟩, ⟨some 65, .call 44 [(.t 62), (.t 64)], some (60, false)⟩, ⟨some 66, .not (.t 65), some (60, false)⟩, ⟨some 67, .pick (.t 60) (.b true) (.t 66), none⟩])
 (.cond (.t 67)
 (.seq (.reg [⟨some 4, .mov (.b false), none⟩])
 .ret)
 .skip))
 (.seq (.seq (.reg [⟨some 5, .mov (.c (.int .i64 (0))), none⟩])
 (.block 0
 (.loop [5] [68, 69, 70, 71, 72, 75, 76, 77, 78, 79, 80, 81, 82, 83, 84, 85, 86, 4, 73, 74, 5]
 (.seq (.seq (.reg [⟨some 68, .mov (.t 5), none⟩, ⟨some 69, .fadr 4 (.t 2), none⟩, ⟨some 70, .load false 1 (.t 69), none⟩, ⟨some 71, .len false (.t 70), none⟩, ⟨some 72, .bini .lss (.t 68) (.t 71), none⟩])
 (.cond (.t 72)
 .skip
 (.exit 0)))
 (.seq (.block 1
 (.seq (.regD [] (.op ⟨0, false, [], ⟨some 75, .fadr 4 (.t 2), none⟩⟩
 (.op ⟨1, true, [], ⟨some 76, .load false 1 (.t 75), none⟩⟩
 (.op ⟨2, false, [], ⟨some 77, .mov (.t 5), none⟩⟩
 (.op ⟨3, true, [], ⟨some 78, .iadr 5 (.t 76) (.t 77), none⟩⟩
 (.op ⟨4, true, [], ⟨some 79, .load true 5 (.t 78), none⟩⟩
 (.op ⟨5, false, [], ⟨some 80, .fadr 4 (.t 3), none⟩⟩
 (.op ⟨6, true, [], ⟨some 81, .load false 1 (.t 80), none⟩⟩
 (.op ⟨7, false, [], ⟨some 82, .mov (.t 5), none⟩⟩
 (.op ⟨8, true, [], ⟨some 83, .iadr 5 (.t 81) (.t 82), none⟩⟩
 (.op ⟨9, true, [], ⟨some 84, .load true 5 (.t 83), none⟩⟩
 (.op ⟨10, false, [], ⟨some 85, .call 14 [(.t 79), (.t 84)], none⟩⟩
 (.op ⟨11, false, [], ⟨some 86, .not (.t 85), none⟩⟩
 .nil)))))))))))))
 (.cond (.t 86)
 (.seq (.reg [⟨some 4, .mov (.b false), none⟩])
 .ret)
 .skip)))
 (.reg [⟨some 73, .mov (.t 5), none⟩, ⟨some 74, .bini .add (.t 73) (.c (.int .i64 (1))), none⟩, ⟨some 5, .mov (.t 74), none⟩]))))))
 (.seq (.seq (.reg [⟨some 6, .mov (.c (.int .i64 (0))), none⟩])
 (.block 2
 (.loop [6] [87, 88, 89, 90, 91, 94, 95, 96, 97, 98, 99, 100, 101, 102, 103, 104, 4, 92, 93, 6]
 (.seq (.seq (.reg [⟨some 87, .mov (.t 6), none⟩, ⟨some 88, .fadr 5 (.t 2), none⟩, ⟨some 89, .load false 1 (.t 88), none⟩, ⟨some 90, .len false (.t 89), none⟩, ⟨some 91, .bini .lss (.t 87) (.t 90), none⟩])
 (.cond (.t 91)
 .skip
 (.exit 2)))
 (.seq (.block 3
 (.seq (.regD [] (.op ⟨0, false, [], ⟨some 94, .fadr 5 (.t 2), none⟩⟩
 (.op ⟨1, true, [], ⟨some 95, .load false 1 (.t 94), none⟩⟩
 (.op ⟨2, false, [], ⟨some 96, .mov (.t 6), none⟩⟩
 (.op ⟨3, true, [], ⟨some 97, .iadr 4 (.t 95) (.t 96), none⟩⟩
 (.op ⟨4, true, [], ⟨some 98, .load true 4 (.t 97), none⟩⟩
 (.op ⟨5, false, [], ⟨some 99, .fadr 5 (.t 3), none⟩⟩
 (.op ⟨6, true, [], ⟨some 100, .load false 1 (.t 99), none⟩⟩
 (.op ⟨7, false, [], ⟨some 101, .mov (.t 6), none⟩⟩
 (.op ⟨8, true, [], ⟨some 102, .iadr 4 (.t 100) (.t 101), none⟩⟩
 (.op ⟨9, true, [], ⟨some 103, .load true 4 (.t 102), none⟩⟩
 (.op ⟨10, false, [], ⟨some 104, .binst true [1, 2, 0, 2] (.t 98) (.t 103), none⟩⟩
 .nil))))))))))))
 (.cond (.t 104)
 (.seq (.reg [⟨some 4, .mov (.b false), none⟩])
 .ret)
 .skip)))
 (.reg [⟨some 92, .mov (.t 6), none⟩, ⟨some 93, .bini .add (.t 92) (.c (.int .i64 (1))), none⟩, ⟨some 6, .mov (.t 93), none⟩]))))))
 (.seq (.reg [⟨some 4, .mov (.b true), none⟩])
 .ret)))))⟩
theorem t_hydrantref18_Same : trFn Tryz.prog 13 [([], (.first 0 (.first 1 (.first 2 (.first 3 (.first 4 (.first 5 (.first 6 (.first 7 (.first 8 (.first 9 (.exec 10 (.first 11 .nil))))))))))))), ([], (.first 0 (.first 1 (.first 2 (.first 3 (.first 4 (.first 5 (.first 6 (.first 7 (.first 8 (.first 9 (.first 10 .nil))))))))))))] [[5], [6]] = some f_hydrantref18_Same := by kernel_rfl

abbrev n_hydrantref18_SameVersions : Nat := 14
/-- hydrant/hydrantref18.SameVersions -/
def f_hydrantref18_SameVersions : FnI := ⟨97, [.tmp 4],
 (.seq (.reg [⟨some 2, .box 40 (.t 0), none⟩, ⟨some 3, .box 40 (.t 1), none⟩, ⟨some 4, .mov (.b false), none⟩])
 (.seq (.seq (.reg [⟨some 7, .fadr 0 (.t 2), none⟩, ⟨some 8, .load true 3 (.t 7), none⟩, ⟨some 9, .fadr 0 (.t 3), none⟩, ⟨some 10, .load true 3 (.t 9), none⟩, ⟨some 11, .call 45 [(.t 8), (.t 10)], none⟩, ⟨some 12, .not (.t 11), none⟩, ⟨some 13, .mov (.t 12), none⟩, ⟨some 14, .fadr 4 (.t 2), some (13, false)⟩, ⟨some 15, .load false 1 (.t 14), some (13, false)⟩, ⟨some 16, .fadr 4 (.t 3), some (13, false)⟩, ⟨some 17, .load false 1 (.t 16), some (13, false)⟩, ⟨some 18, .binb true (.t 15) (.t 17), some (13, false)⟩, ⟨some 19, .pick (.t 13) (.b true) (.t 18), none⟩, ⟨some 20, .mov (.t 19), none⟩, ⟨some 21, .fadr 3 (.t 2), some (20, false)⟩, ⟨some 22, .load false 1 (.t 21), some (20, false)⟩, ⟨some 23, .len false (.t 22), some (20, false)⟩, ⟨some 24, .fadr 3 (.t 3), some (20, false)⟩, ⟨some 25, .load false 1 (.t 24), some (20, false)⟩, ⟨some 26, .len false (.t 25), some (20, false)⟩, ⟨some 27, .bini .neq (.t 23) (.t 26), some (20, false)⟩, ⟨some 28, .pick (.t 20) (.b true) (.t 27), none⟩])
 (.cond (.t 28)
 (.seq (.reg [⟨some 4, .mov (.b false), none⟩])
 .ret)
 .skip))
 (.seq (.seq (.reg [⟨some 5, .mov (.c (.int .i64 (0))), none⟩])
 (.block 0
 (.loop [5] [29, 30, 31, 32, 33, 36, 37, 38, 39, 40, 41, 42, 43, 44, 45, 46, 47, 48, 49, 50, 51, 52, 53, 54, 55, 56, 57, 58, 59, 60, 61, 62, 63, 64, 65, 4, 6, 66, 67, 68, 69, 70, 71, 72, 73, 74, 77, 78, 79, 80, 81, 82, 83, 84, 85, 86, 87, 88, 89, 90, 91, 92, 93, 94, 95, 96, 75, 76, 34, 35, 5]
 (.seq (.seq (.reg [⟨some 29, .mov (.t 5), none⟩, ⟨some 30, .fadr 3 (.t 2), none⟩, ⟨some 31, .load false 1 (.t 30), none⟩, ⟨some 32, .len false (.t 31), none⟩, ⟨some 33, .bini .lss (.t 29) (.t 32), none⟩])
 (.cond (.t 33)
 .skip
 (.exit 0)))
 (.seq (.block 1
 (.seq (.seq (.regD [] (.op ⟨0, false, [], ⟨some 36, .fadr 3 (.t 2), none⟩⟩
 (.op ⟨1, true, [], ⟨some 37, .load false 1 (.t 36), none⟩⟩
 (.op ⟨2, false, [], ⟨some 38, .mov (.t 5), none⟩⟩
 (.op ⟨3, true, [], ⟨some 39, .iadr 2 (.t 37) (.t 38), none⟩⟩
 (.op ⟨4, false, [], ⟨some 40, .fadr 0 (.t 39), none⟩⟩
 (.op ⟨5, true, [], ⟨some 41, .load false 1 (.t 40), none⟩⟩
 (.op ⟨6, false, [], ⟨some 42, .fadr 3 (.t 3), none⟩⟩
 (.op ⟨7, true, [], ⟨some 43, .load false 1 (.t 42), none⟩⟩
 (.op ⟨8, false, [], ⟨some 44, .mov (.t 5), none⟩⟩
 (.op ⟨9, true, [], ⟨some 45, .iadr 2 (.t 43) (.t 44), none⟩⟩
 (.op ⟨10, false, [], ⟨some 46, .fadr 0 (.t 45), none⟩⟩
 (.op ⟨11, true, [], ⟨some 47, .load false 1 (.t 46), none⟩⟩
 (.op ⟨12, false, [], ⟨some 48, .bini .neq (.t 41) (.t 47), none⟩⟩
 (.op ⟨13, false, [], ⟨some 49, .mov (.t 48), none⟩⟩
 (.op ⟨14, false, [], ⟨some 50, .fadr 3 (.t 2), some (49, false)⟩⟩
 (.op ⟨15, true, [], ⟨some 51, .load false 1 (.t 50), some (49, false)⟩⟩
 (.op ⟨16, false, [], ⟨some 52, .mov (.t 5), some (49, false)⟩⟩
 (.op ⟨17, true, [], ⟨some 53, .iadr 2 (.t 51) (.t 52), some (49, false)⟩⟩
 (.op ⟨18, false, [], ⟨some 54, .fadr 1 (.t 53), some (49, false)⟩⟩
 (.op ⟨19, true, [], ⟨some 55, .load false 1 (.t 54), some (49, false)⟩⟩
 (.op ⟨20, false, [], ⟨some 56, .len false (.t 55), some (49, false)⟩⟩
 (.op ⟨21, false, [], ⟨some 57, .fadr 3 (.t 3), some (49, false)⟩⟩
 (.op ⟨22, true, [], ⟨some 58, .load false 1 (.t 57), some (49, false)⟩⟩
 (.op ⟨23, false, [], ⟨some 59, .mov (.t 5), some (49, false)⟩⟩
 (.op ⟨24, true, [], ⟨some 60, .iadr 2 (.t 58) (.t 59), some (49, false)⟩⟩
 (.op ⟨25, false, [], ⟨some 61, .fadr 1 (.t 60), some (49, false)⟩⟩
 (.op ⟨26, true, [], ⟨some 62, .load false 1 (.t 61), some (49, false)⟩⟩
 (.op ⟨27, false, [], ⟨some 63, .len false (.t 62), some (49, false)⟩⟩
 (.op ⟨28, false, [], ⟨some 64, .bini .neq (.t 56) (.t 63), some (49, false)⟩⟩
 (.op ⟨29, false, [], ⟨some 65, .pick (.t 49) (.b true) (.t 64), none⟩⟩
 .nil)))))))))))))))))))))))))))))))
 (.cond (.t 65)
 (.seq (.reg [⟨some 4, .mov (.b false), none⟩])
 .ret)
 .skip))
 (.seq (.reg [⟨some 6, .mov (.c (.int .i64 (0))), none⟩])
 (.block 2
 (.loop [6] [66, 67, 68, 69, 70, 71, 72, 73, 74, 77, 78, 79, 80, 81, 82, 83, 84, 85, 86, 87, 88, 89, 90, 91, 92, 93, 94, 95, 96, 4, 75, 76, 6]
 (.seq (.seq (.reg [⟨some 66, .mov (.t 6), none⟩, ⟨some 67, .fadr 3 (.t 2), none⟩, ⟨some 68, .load false 1 (.t 67), none⟩, ⟨some 69, .mov (.t 5), none⟩, ⟨some 70, .iadr 2 (.t 68) (.t 69), none⟩, ⟨some 71, .fadr 1 (.t 70), none⟩, ⟨some 72, .load false 1 (.t 71), none⟩, ⟨some 73, .len false (.t 72), none⟩, ⟨some 74, .bini .lss (.t 66) (.t 73), none⟩])
 (.cond (.t 74)
 .skip
 (.exit 2)))
 (.seq (.block 3
 (.seq (.regD [] (.op ⟨0, false, [], ⟨some 77, .fadr 3 (.t 2), none⟩⟩
 (.op ⟨1, true, [], ⟨some 78, .load false 1 (.t 77), none⟩⟩
 (.op ⟨2, false, [], ⟨some 79, .mov (.t 5), none⟩⟩
 (.op ⟨3, true, [], ⟨some 80, .iadr 2 (.t 78) (.t 79), none⟩⟩
 (.op ⟨4, false, [], ⟨some 81, .fadr 1 (.t 80), none⟩⟩
 (.op ⟨5, true, [], ⟨some 82, .load false 1 (.t 81), none⟩⟩
 (.op ⟨6, false, [], ⟨some 83, .mov (.t 6), none⟩⟩
 (.op ⟨7, true, [], ⟨some 84, .iadr 3 (.t 82) (.t 83), none⟩⟩
 (.op ⟨8, true, [], ⟨some 85, .load true 3 (.t 84), none⟩⟩
 (.op ⟨9, false, [], ⟨some 86, .fadr 3 (.t 3), none⟩⟩
 (.op ⟨10, true, [], ⟨some 87, .load false 1 (.t 86), none⟩⟩
 (.op ⟨11, false, [], ⟨some 88, .mov (.t 5), none⟩⟩
 (.op ⟨12, true, [], ⟨some 89, .iadr 2 (.t 87) (.t 88), none⟩⟩
 (.op ⟨13, false, [], ⟨some 90, .fadr 1 (.t 89), none⟩⟩
 (.op ⟨14, true, [], ⟨some 91, .load false 1 (.t 90), none⟩⟩
 (.op ⟨15, false, [], ⟨some 92, .mov (.t 6), none⟩⟩
 (.op ⟨16, true, [], ⟨some 93, .iadr 3 (.t 91) (.t 92), none⟩⟩
 (.op ⟨17, true, [], ⟨some 94, .load true 3 (.t 93), none⟩⟩
 (.op ⟨18, false, [], ⟨some 95, .call 46 [(.t 85), (.t 94)], none⟩⟩
 (.op ⟨19, false, [], ⟨some 96, .not (.t 95), none⟩⟩
 .nil)))))))))))))))))))))
 (.cond (.t 96)
 (.seq (.reg [⟨some 4, .mov (.b false), none⟩])
 .ret)
 .skip)))
 (.reg [⟨some 75, .mov (.t 6), none⟩, ⟨some 76, .bini .add (.t 75) (.c (.int .i64 (1))), none⟩, ⟨some 6, .mov (.t 76), none⟩]))))))))
 (.reg [⟨some 34, .mov (.t 5), none⟩, ⟨some 35, .bini .add (.t 34) (.c (.int .i64 (1))), none⟩, ⟨some 5, .mov (.t 35), none⟩]))))))
 (.seq (.reg [⟨some 4, .mov (.b true), none⟩])
 .ret))))⟩
theorem t_hydrantref18_SameVersions : trFn Tryz.prog 14 [([], (.first 0 (.first 1 (.first 2 (.first 3 (.first 4 (.first 5 (.first 6 (.first 7 (.first 8 (.first 9 (.first 10 (.first 11 (.first 12 (.first 13 (.first 14 (.first 15 (.first 16 (.first 17 (.first 18 (.first 19 (.first 20 (.first 21 (.first 22 (.first 23 (.first 24 (.first 25 (.first 26 (.first 27 (.first 28 (.first 29 .nil))))))))))))))))))))))))))))))), ([], (.first 0 (.first 1 (.first 2 (.first 3 (.first 4 (.first 5 (.first 6 (.first 7 (.first 8 (.first 9 (.first 10 (.first 11 (.first 12 (.first 13 (.first 14 (.first 15 (.first 16 (.first 17 (.exec 18 (.first 19 .nil)))))))))))))))))))))] [[5], [6]] = some f_hydrantref18_SameVersions := by kernel_rfl

abbrev n_world_Is : Nat := 15
/-- hydrant/world.Is -/
def f_world_Is : FnI := ⟨107, [.tmp 2],
 (.seq (.reg [⟨some 1, .box 34 (.t 0), none⟩, ⟨some 2, .mov (.b false), none⟩])
 (.seq (.seq (.reg [⟨some 10, .load true 8 (.t 1), none⟩, ⟨some 11, .call 47 [(.t 10)], none⟩, ⟨some 12, .not (.t 11), none⟩, ⟨some 13, .mov (.t 12), none⟩, ⟨some 14, .fadr 1 (.t 1), some (13, false)⟩, ⟨some 15, .load false 1 (.t 14), some (13, false)⟩, ⟨some 16, .bini .lss (.t 15) (.c (.int .i64 (0))), some (13, false)⟩, ⟨some 17, .pick (.t 13) (.b true) (.t 16), none⟩, ⟨some 18, .mov (.t 17), none⟩, ⟨some 19, .fadr 1 (.t 1), some (18, false)⟩, ⟨some 20, .load false 1 (.t 19), some (18, false)⟩, ⟨some 21, .fadr 4 (.t 1), some (18, false)⟩, ⟨some 22, .load false 1 (.t 21), some (18, false)⟩, ⟨some 23, .len false (.t 22), some (18, false)⟩, ⟨some 24, .bini .geq (.t 20) (.t 23), some (18, false)⟩, ⟨some 25, .pick (.t 18) (.b true) (.t 24), none⟩, ⟨some 26, .mov (.t 25), none⟩, ⟨some 27, .fadr 7 (.t 1), some (26, false)⟩, ⟨some 28, .load false 1 (.t 27), some (26, false)⟩, ⟨some 29, .call 48 [(.t 28)], some (26, false)⟩, ⟨some 30, .not (.t 29), some (26, false)⟩, ⟨some 31, .pick (.t 26) (.b true) (.t 30), none⟩])
 (.cond (.t 31)
 (.seq (.reg [⟨some 2, .mov (.b false), none⟩])
 .ret)
 .skip))
 (.seq (.reg [⟨some 32, .mkm .i64, none⟩, ⟨some 3, .mov (.t 32), none⟩])
 (.seq (.seq (.reg [⟨some 33, .fadr 7 (.t 1), none⟩, ⟨some 34, .load false 1 (.t 33), none⟩, ⟨some 35, .len false (.t 34), none⟩, ⟨some 36, .mov (.c (.int .i64 (0))), none⟩])
 (.block 0
 (.loop [36] [37, 38, 39, 5, 40, 41, 42, 43, 44, 45, 46, 47, 48, 49, 50, 51, 52, 53, 54, 55, 56, 57, 58, 59, 2, 60, 61, 62, 63, 64, 65, 36]
 (.seq (.reg [⟨some 37, .bini .lss (.t 36) (.t 35), none⟩])
 (.seq (.cond (.t 37)
 .skip
 (.exit 0))
 (.seq (.block 1
 (.seq (.reg [⟨some 38, .iadr 3 (.t 34) (.t 36), none⟩, ⟨some 39, .load true 3 (.t 38), none⟩, ⟨some 5, .alloc 95 [(.v (.int .i64 (0))), (.v (.int .i64 (0))), (.v (.bool false))], none⟩, ⟨none, .store 3 (.t 5) (.t 39), none⟩])
 (.seq (.seq (.reg [⟨some 40, .fadr 0 (.t 5), none⟩, ⟨some 41, .load false 1 (.t 40), none⟩, ⟨some 42, .fadr 4 (.t 1), none⟩, ⟨some 43, .load false 1 (.t 42), none⟩, ⟨some 44, .len false (.t 43), none⟩, ⟨some 45, .bini .geq (.t 41) (.t 44), none⟩, ⟨some 46, .mov (.t 45), none⟩, ⟨some 47, .fadr 0 (.t 5), some (46, false)⟩, ⟨some 48, .load false 1 (.t 47), some (46, false)⟩, ⟨some 49, .fadr 1 (.t 1), some (46, false)⟩, ⟨some 50, .load false 1 (.t 49), some (46, false)⟩, ⟨some 51, .bini .eql (.t 48) (.t 50), some (46, false)⟩, ⟨some 52, .pick (.t 46) (.b true) (.t 51), none⟩, ⟨some 53, .mov (.t 52), none⟩, ⟨some 54, .fadr 1 (.t 5), some (53, false)⟩, ⟨some 55, .load false 1 (.t 54), some (53, false)⟩, ⟨some 56, .fadr 0 (.t 1), some (53, false)⟩, ⟨some 57, .load false 1 (.t 56), some (53, false)⟩, ⟨some 58, .bini .gtr (.t 55) (.t 57), some (53, false)⟩, ⟨some 59, .pick (.t 53) (.b true) (.t 58), none⟩])
 (.cond (.t 59)
 (.seq (.reg [⟨some 2, .mov (.b false), none⟩])
 .ret)
 .skip))
 (.reg [⟨some 60, .mov (.t 3), none⟩, ⟨some 61, .fadr 0 (.t 5), none⟩, ⟨some 62, .load false 1 (.t 61), none⟩, ⟨some 63, .fadr 2 (.t 5), none⟩, ⟨some 64, .load false 1 (.t 63), none⟩, ⟨none, .mup .i64 (.t 60) (.t 62) (.t 64), none⟩]))))
 (.reg [⟨some 65, .bini .add (.t 36) (.c (.int .i64 (1))), none⟩, ⟨some 36, .mov (.t 65), none⟩])))))))
 (.seq (.seq (.reg [⟨some 66, .fadr 4 (.t 1), none⟩, ⟨some 67, .load false 1 (.t 66), none⟩, ⟨some 68, .len false (.t 67), none⟩, ⟨some 69, .mov (.c (.int .i64 (0))), none⟩])
 (.block 2
 (.loop [69] [70, 71, 72, 73, 7, 6, 74, 75, 76, 77, 78, 79, 80, 81, 82, 83, 84, 2, 85, 69]
 (.seq (.reg [⟨some 70, .bini .lss (.t 69) (.t 68), none⟩])
 (.seq (.cond (.t 70)
 .skip
 (.exit 2))
 (.seq (.block 3
 (.seq (.reg [⟨some 71, .mov (.t 69), none⟩, ⟨some 72, .iadr 5 (.t 67) (.t 69), none⟩, ⟨some 73, .load true 5 (.t 72), none⟩, ⟨some 7, .alloc 40 [(.v (.slice none 0 0)), (.v (.slice none 0 0)), (.v (.slice none 0 0)), (.v (.slice none 0 0)), (.v (.bool false))], none⟩, ⟨some 6, .mov (.t 71), none⟩, ⟨none, .store 5 (.t 7) (.t 73), none⟩])
 (.seq (.reg [⟨some 74, .load true 5 (.t 7), none⟩, ⟨some 75, .call 49 [(.t 74)], none⟩, ⟨some 76, .not (.t 75), none⟩, ⟨some 77, .mov (.t 76), none⟩, ⟨some 78, .fadr 4 (.t 7), some (77, false)⟩, ⟨some 79, .load false 1 (.t 78), some (77, false)⟩, ⟨some 80, .mov (.t 3), some (77, false)⟩, ⟨some 81, .mov (.t 6), some (77, false)⟩, ⟨some 82, .look .i64 (.bool false) false (.t 80) (.t 81), some (77, false)⟩, ⟨some 83, .binb true (.t 79) (.t 82), some (77, false)⟩, ⟨some 84, .pick (.t 77) (.b true) (.t 83), none⟩])
 (.cond (.t 84)
 (.seq (.reg [⟨some 2, .mov (.b false), none⟩])
 .ret)
 .skip))))
 (.reg [⟨some 85, .bini .add (.t 69) (.c (.int .i64 (1))), none⟩, ⟨some 69, .mov (.t 85), none⟩])))))))
 (.seq (.seq (.reg [⟨some 86, .fadr 5 (.t 1), none⟩, ⟨some 87, .load false 1 (.t 86), none⟩, ⟨some 88, .len false (.t 87), none⟩, ⟨some 89, .mov (.c (.int .i64 (0))), none⟩])
 (.block 4
 (.loop [89] [90, 91, 92, 93, 9, 8, 94, 95, 96, 97, 98, 99, 100, 101, 102, 103, 104, 105, 2, 106, 89]
 (.seq (.reg [⟨some 90, .bini .lss (.t 89) (.t 88), none⟩])
 (.seq (.cond (.t 90)
 .skip
 (.exit 4))
 (.seq (.block 5
 (.seq (.reg [⟨some 91, .mov (.t 89), none⟩, ⟨some 92, .iadr 4 (.t 87) (.t 89), none⟩, ⟨some 93, .load true 4 (.t 92), none⟩, ⟨some 9, .alloc 77 [(.v (.string ⟨#[]⟩)), (.v (.bool false)), (.v (.int .i64 (0))), (.v (.bool false))], none⟩, ⟨some 8, .mov (.t 91), none⟩, ⟨none, .store 4 (.t 9) (.t 93), none⟩])
 (.seq (.reg [⟨some 94, .load true 4 (.t 9), none⟩, ⟨some 95, .call 50 [(.t 94)], none⟩, ⟨some 96, .not (.t 95), none⟩, ⟨some 97, .mov (.t 96), none⟩, ⟨some 98, .fadr 5 (.t 1), some (97, false)⟩, ⟨some 99, .load false 1 (.t 98), some (97, false)⟩, ⟨some 100, .fadr 0 (.t 9), some (97, false)⟩, ⟨some 101, .load false 1 (.t 100), some (97, false)⟩, ⟨some 102, .call 33 [(.t 99), (.t 101)], some (97, false)⟩, ⟨some 103, .mov (.t 8), some (97, false)⟩, ⟨some 104, .bini .neq (.t 102) (.t 103), some (97, false)⟩, ⟨some 105, .pick (.t 97) (.b true) (.t 104), none⟩])
 (.cond (.t 105)
 (.seq (.reg [⟨some 2, .mov (.b false), none⟩])
 .ret)
 .skip))))
 (.reg [⟨some 106, .bini .add (.t 89) (.c (.int .i64 (1))), none⟩, ⟨some 89, .mov (.t 106), none⟩])))))))
 (.seq (.reg [⟨some 2, .mov (.b true), none⟩])
 .ret)))))))⟩
theorem t_world_Is : trFn Tryz.prog 15 [] [[36], [69], [89]] = some f_world_Is := by kernel_rfl

abbrev n_snap_Is : Nat := 17
/-- hydrant/snap.Is -/
def f_snap_Is : FnI := ⟨13, [.tmp 2],
 (.seq (.reg [⟨some 1, .box 26 (.t 0), none⟩, ⟨some 2, .mov (.b false), none⟩])
 (.seq (.reg [⟨some 6, .load true 3 (.t 1), none⟩, ⟨some 7, .call 54 [(.t 6)], none⟩, ⟨some 8, .call 53 [(.t 7)], none⟩, ⟨some 5, .mov (.t 8), none⟩, ⟨some 9, .ext 0 (.t 5), none⟩, ⟨some 10, .ext 1 (.t 5), none⟩, ⟨some 3, .mov (.t 9), none⟩, ⟨some 4, .mov (.t 10), none⟩])
 (.seq (.reg [⟨some 11, .mov (.t 3), none⟩, ⟨some 12, .bini .eql (.t 11) (.c (.int .i64 (0))), none⟩, ⟨some 2, .mov (.t 12), none⟩])
 .ret)))⟩
theorem t_snap_Is : trFn Tryz.prog 17 [] [] = some f_snap_Is := by kernel_rfl

abbrev n_hydrantref18_Big : Nat := 18
/-- hydrant/hydrantref18.Big -/
def f_hydrantref18_Big : FnI := ⟨69, [.tmp 2],
 (.seq (.reg [⟨some 1, .box 34 (.t 0), none⟩, ⟨some 2, .mov (.b false), none⟩])
 (.seq (.seq (.reg [⟨some 6, .fadr 3 (.t 1), none⟩, ⟨some 7, .load false 1 (.t 6), none⟩, ⟨some 8, .len false (.t 7), none⟩, ⟨some 9, .bini .gtr (.t 8) (.c (.int .i64 (20))), none⟩, ⟨some 10, .mov (.t 9), none⟩, ⟨some 11, .fadr 4 (.t 1), some (10, false)⟩, ⟨some 12, .load false 1 (.t 11), some (10, false)⟩, ⟨some 13, .len false (.t 12), some (10, false)⟩, ⟨some 14, .bini .gtr (.t 13) (.c (.int .i64 (40))), some (10, false)⟩, ⟨some 15, .pick (.t 10) (.b true) (.t 14), none⟩, ⟨some 16, .mov (.t 15), none⟩, ⟨some 17, .fadr 5 (.t 1), some (16, false)⟩, ⟨some 18, .load false 1 (.t 17), some (16, false)⟩, ⟨some 19, .len false (.t 18), some (16, false)⟩, ⟨some 20, .bini .gtr (.t 19) (.c (.int .i64 (40))), some (16, false)⟩, ⟨some 21, .pick (.t 16) (.b true) (.t 20), none⟩, ⟨some 22, .mov (.t 21), none⟩, ⟨some 23, .fadr 6 (.t 1), some (22, false)⟩, ⟨some 24, .load false 1 (.t 23), some (22, false)⟩, ⟨some 25, .call 55 [(.t 24)], some (22, false)⟩, ⟨some 26, .pick (.t 22) (.b true) (.t 25), none⟩, ⟨some 27, .mov (.t 26), none⟩, ⟨some 28, .fadr 7 (.t 1), some (27, false)⟩, ⟨some 29, .load false 1 (.t 28), some (27, false)⟩, ⟨some 30, .len false (.t 29), some (27, false)⟩, ⟨some 31, .bini .gtr (.t 30) (.c (.int .i64 (60))), some (27, false)⟩, ⟨some 32, .pick (.t 27) (.b true) (.t 31), none⟩])
 (.cond (.t 32)
 (.seq (.reg [⟨some 2, .mov (.b true), none⟩])
 .ret)
 .skip))
 (.seq (.seq (.reg [⟨some 3, .mov (.c (.int .i64 (0))), none⟩])
 (.block 0
 (.loop [3] [33, 34, 35, 36, 37, 40, 41, 42, 43, 44, 4, 45, 46, 47, 48, 49, 50, 51, 52, 53, 2, 5, 54, 55, 56, 57, 58, 61, 62, 63, 64, 65, 66, 67, 68, 59, 60, 38, 39, 3]
 (.seq (.seq (.reg [⟨some 33, .mov (.t 3), none⟩, ⟨some 34, .fadr 4 (.t 1), none⟩, ⟨some 35, .load false 1 (.t 34), none⟩, ⟨some 36, .len false (.t 35), none⟩, ⟨some 37, .bini .lss (.t 33) (.t 36), none⟩])
 (.cond (.t 37)
 .skip
 (.exit 0)))
 (.seq (.block 1
 (.seq (.reg [⟨some 40, .fadr 4 (.t 1), none⟩, ⟨some 41, .load false 1 (.t 40), none⟩, ⟨some 42, .mov (.t 3), none⟩, ⟨some 43, .iadr 5 (.t 41) (.t 42), none⟩, ⟨some 44, .load true 5 (.t 43), none⟩, ⟨some 4, .alloc 40 [(.v (.slice none 0 0)), (.v (.slice none 0 0)), (.v (.slice none 0 0)), (.v (.slice none 0 0)), (.v (.bool false))], none⟩, ⟨none, .store 5 (.t 4) (.t 44), none⟩])
 (.seq (.seq (.reg [⟨some 45, .fadr 0 (.t 4), none⟩, ⟨some 46, .load true 3 (.t 45), none⟩, ⟨some 47, .call 7 [(.t 46)], none⟩, ⟨some 48, .mov (.t 47), none⟩, ⟨some 49, .fadr 3 (.t 4), some (48, false)⟩, ⟨some 50, .load false 1 (.t 49), some (48, false)⟩, ⟨some 51, .len false (.t 50), some (48, false)⟩, ⟨some 52, .bini .gtr (.t 51) (.c (.int .i64 (20))), some (48, false)⟩, ⟨some 53, .pick (.t 48) (.b true) (.t 52), none⟩])
 (.cond (.t 53)
 (.seq (.reg [⟨some 2, .mov (.b true), none⟩])
 .ret)
 .skip))
 (.seq (.reg [⟨some 5, .mov (.c (.int .i64 (0))), none⟩])
 (.block 2
 (.loop [5] [54, 55, 56, 57, 58, 61, 62, 63, 64, 65, 66, 67, 68, 2, 59, 60, 5]
 (.seq (.seq (.reg [⟨some 54, .mov (.t 5), none⟩, ⟨some 55, .fadr 3 (.t 4), none⟩, ⟨some 56, .load false 1 (.t 55), none⟩, ⟨some 57, .len false (.t 56), none⟩, ⟨some 58, .bini .lss (.t 54) (.t 57), none⟩])
 (.cond (.t 58)
 .skip
 (.exit 2)))
 (.seq (.block 3
 (.seq (.reg [⟨some 61, .fadr 3 (.t 4), none⟩, ⟨some 62, .load false 1 (.t 61), none⟩, ⟨some 63, .mov (.t 5), none⟩, ⟨some 64, .iadr 2 (.t 62) (.t 63), none⟩, ⟨some 65, .fadr 1 (.t 64), none⟩, ⟨some 66, .load false 1 (.t 65), none⟩, ⟨some 67, .len false (.t 66), none⟩, ⟨some 68, .bini .gtr (.t 67) (.c (.int .i64 (20))), none⟩])
 (.cond (.t 68)
 (.seq (.reg [⟨some 2, .mov (.b true), none⟩])
 .ret)
 .skip)))
 (.reg [⟨some 59, .mov (.t 5), none⟩, ⟨some 60, .bini .add (.t 59) (.c (.int .i64 (1))), none⟩, ⟨some 5, .mov (.t 60), none⟩])))))))))
 (.reg [⟨some 38, .mov (.t 3), none⟩, ⟨some 39, .bini .add (.t 38) (.c (.int .i64 (1))), none⟩, ⟨some 3, .mov (.t 39), none⟩]))))))
 (.seq (.reg [⟨some 2, .mov (.b false), none⟩])
 .ret))))⟩
theorem t_hydrantref18_Big : trFn Tryz.prog 18 [] [[3], [5]] = some f_hydrantref18_Big := by kernel_rfl

abbrev n_pin_Step : Nat := 23
/-- hydrant/pin.Step -/
def f_pin_Step : FnI := ⟨40, [.cell 4 8 true, .cell 5 44 true, .cell 6 23 true],
 (.seq (.reg [⟨some 2, .box 34 (.t 0), none⟩, ⟨some 3, .box 59 (.t 1), none⟩, ⟨some 4, .alloc 34 [(.v (.int .i64 (0))), (.v (.int .i64 (0))), (.v (.int .i64 (0))), (.v (.slice none 0 0)), (.v (.slice none 0 0)), (.v (.slice none 0 0)), (.v (.slice none 0 0)), (.v (.slice none 0 0))], none⟩, ⟨some 5, .alloc 59 [(.v (.int .i64 (0))), (.v (.string ⟨#[]⟩)), (.v (.string ⟨#[]⟩)), (.v (.string ⟨#[]⟩)), (.v (.int .i64 (0))), (.v (.int .i64 (0))), (.v (.int .i64 (0))), (.v (.slice none 0 0)), (.v (.slice none 0 0)), (.v (.slice none 0 0)), (.v (.int .i64 (0))), (.v (.int .i64 (0))), (.v (.int .i64 (0))), (.v (.int .i64 (0))), (.v (.int .i64 (0))), (.v (.int .i64 (0))), (.v (.int .i64 (0))), (.v (.int .i64 (0))), (.v (.int .i64 (0))), (.v (.int .u64 (0))), (.v (.int .i64 (0))), (.v (.int .i64 (0))), (.v (.int .i64 (0))), (.v (.int .i64 (0))), (.v (.bool false)), (.v (.int .i64 (0))), (.v (.int .i64 (0))), (.v (.int .i64 (0))), (.v (.int .i64 (0))), (.v (.int .i64 (0))), (.v (.int .i64 (0))), (.v (.int .i64 (0))), (.v (.int .u64 (0))), (.v (.int .u64 (0))), (.v (.int .u64 (0))), (.v (.int .u64 (0))), (.v (.int .u64 (0))), (.v (.int .u64 (0))), (.v (.int .u64 (0))), (.v (.int .u64 (0))), (.v (.int .u64 (0))), (.v (.int .u64 (0))), (.v (.int .u64 (0))), (.v (.int .u64 (0)))], none⟩, ⟨some 6, .alloc 61 [(.v (.int .i64 (0))), (.v (.int .i64 (0))), (.v (.int .i64 (0))), (.v (.int .i64 (0))), (.v (.int .i64 (0))), (.v (.bool false)), (.v (.int .i64 (0))), (.v (.bool false)), (.v (.bool false)), (.v (.bool false)), (.v (.int .i64 (0))), (.v (.int .i64 (0))), (.v (.int .i64 (0))), (.v (.int .i64 (0))), (.v (.int .i64 (0))), (.v (.int .i64 (0))), (.v (.int .i64 (0))), (.v (.int .u64 (0))), (.v (.int .u64 (0))), (.v (.int .u64 (0))), (.v (.int .u64 (0))), (.v (.int .u64 (0))), (.v (.int .u64 (0)))], none⟩])
 (.seq (.regD [7] (.op ⟨1, false, [], ⟨some 12, .fadr 11 (.t 3), none⟩⟩
 (.op ⟨2, true, [], ⟨some 13, .load false 1 (.t 12), none⟩⟩
 (.op ⟨0, false, [], ⟨some 11, .call 62 [], none⟩⟩
 (.op ⟨3, true, [], ⟨some 14, .look .i64 (.agg #[.nilFunc]) true (.t 11) (.t 13), none⟩⟩
 (.op ⟨4, false, [], ⟨some 10, .mov (.t 14), none⟩⟩
 (.op ⟨5, false, [], ⟨some 15, .ext 0 (.t 10), none⟩⟩
 (.op ⟨6, false, [], ⟨some 16, .ext 1 (.t 10), none⟩⟩
 (.bring ⟨7, false, [], ⟨some 7, .alloc 114 [(.v .nilFunc)], none⟩⟩
 (.op ⟨8, false, [], ⟨none, .store 1 (.t 7) (.t 15), none⟩⟩
 (.op ⟨9, false, [], ⟨some 8, .mov (.t 16), none⟩⟩
 .nil)))))))))))
 (.seq (.seq (.reg [⟨some 17, .mov (.t 8), none⟩, ⟨some 18, .not (.t 17), none⟩, ⟨some 19, .mov (.t 18), none⟩, ⟨some 20, .load true 8 (.t 2), some (19, false)⟩, ⟨some 21, .load true 44 (.t 3), some (19, false)⟩, ⟨some 22, .call 26 [(.t 20), (.t 21)], some (19, false)⟩, ⟨some 23, .not (.t 22), some (19, false)⟩, ⟨some 24, .pick (.t 19) (.b true) (.t 23), none⟩])
 (.cond (.t 24)
 (.seq (.regD [] (.op ⟨0, true, [], ⟨some 25, .load true 8 (.t 2), none⟩⟩
 (.op ⟨2, false, [], ⟨some 27, .build [(.v (.int .i64 (0))), (.v (.int .i64 (0))), (.v (.int .i64 (0))), (.v (.int .i64 (0))), (.v (.int .i64 (0))), (.v (.bool false)), (.v (.int .i64 (0))), (.v (.bool false)), (.v (.bool false)), (.v (.bool false)), (.v (.int .i64 (0))), (.v (.int .i64 (0))), (.v (.int .i64 (0))), (.v (.int .i64 (0))), (.v (.int .i64 (0))), (.v (.int .i64 (0))), (.v (.int .i64 (0))), (.v (.int .u64 (0))), (.v (.int .u64 (0))), (.v (.int .u64 (0))), (.v (.int .u64 (0))), (.v (.int .u64 (0))), (.v (.int .u64 (0)))] [], none⟩⟩
 (.op ⟨1, true, [], ⟨some 26, .load true 44 (.t 3), none⟩⟩
 (.op ⟨3, false, [1], ⟨none, .store 8 (.t 4) (.t 25), none⟩⟩
 (.op ⟨4, false, [], ⟨none, .store 44 (.t 5) (.t 26), none⟩⟩
 (.op ⟨5, false, [], ⟨none, .store 23 (.t 6) (.t 27), none⟩⟩
 .nil)))))))
 .ret)
 .skip))
 (.seq (.reg [⟨some 28, .load true 8 (.t 2), none⟩, ⟨some 29, .call 41 [(.t 28)], none⟩, ⟨none, .store 8 (.t 2) (.t 29), none⟩])
 (.seq (.reg [⟨some 30, .fadr 0 (.t 7), none⟩, ⟨some 31, .load false 1 (.t 30), none⟩, ⟨some 32, .callv (.t 31) [(.t 2), (.t 3)], none⟩, ⟨some 9, .alloc 61 [(.v (.int .i64 (0))), (.v (.int .i64 (0))), (.v (.int .i64 (0))), (.v (.int .i64 (0))), (.v (.int .i64 (0))), (.v (.bool false)), (.v (.int .i64 (0))), (.v (.bool false)), (.v (.bool false)), (.v (.bool false)), (.v (.int .i64 (0))), (.v (.int .i64 (0))), (.v (.int .i64 (0))), (.v (.int .i64 (0))), (.v (.int .i64 (0))), (.v (.int .i64 (0))), (.v (.int .i64 (0))), (.v (.int .u64 (0))), (.v (.int .u64 (0))), (.v (.int .u64 (0))), (.v (.int .u64 (0))), (.v (.int .u64 (0))), (.v (.int .u64 (0)))], none⟩, ⟨none, .store 23 (.t 9) (.t 32), none⟩])
 (.seq (.reg [⟨some 33, .fadr 10 (.t 3), none⟩, ⟨some 34, .load false 1 (.t 33), none⟩, ⟨some 35, .fadr 0 (.t 9), none⟩, ⟨none, .store 1 (.t 35) (.t 34), none⟩, ⟨some 36, .fadr 4 (.t 9), none⟩, ⟨none, .store 1 (.t 36) (.c (.int .i64 (-1))), none⟩])
 (.seq (.regD [] (.op ⟨0, true, [], ⟨some 37, .load true 8 (.t 2), none⟩⟩
 (.op ⟨1, true, [], ⟨some 38, .load true 44 (.t 3), none⟩⟩
 (.op ⟨2, true, [], ⟨some 39, .load true 23 (.t 9), none⟩⟩
 (.op ⟨3, false, [2, 1], ⟨none, .store 8 (.t 4) (.t 37), none⟩⟩
 (.op ⟨4, false, [2], ⟨none, .store 44 (.t 5) (.t 38), none⟩⟩
 (.op ⟨5, false, [], ⟨none, .store 23 (.t 6) (.t 39), none⟩⟩
 .nil)))))))
 .ret)))))))⟩
theorem t_pin_Step : trFn Tryz.prog 23 [([7], (.first 1 (.first 2 (.exec 0 (.first 3 (.first 4 (.first 5 (.first 6 (.bring 7 (.exec 8 (.first 9 .nil))))))))))), ([], (.first 0 (.first 2 (.first 1 (.exec 3 (.exec 4 (.exec 5 .nil))))))), ([], (.first 0 (.first 1 (.first 2 (.exec 3 (.exec 4 (.exec 5 .nil)))))))] [] = some f_pin_Step := by kernel_rfl

abbrev n_hydrantlaw19_pinned : Nat := 25
/-- hydrant/hydrantlaw19.pinned -/
def f_hydrantlaw19_pinned : FnI := ⟨159, [.tmp 0],
 (.seq (.reg [⟨some 0, .mov (.b false), none⟩])
 (.seq (.reg [⟨some 23, .call 63 [], none⟩, ⟨some 1, .alloc 34 [(.v (.int .i64 (0))), (.v (.int .i64 (0))), (.v (.int .i64 (0))), (.v (.slice none 0 0)), (.v (.slice none 0 0)), (.v (.slice none 0 0)), (.v (.slice none 0 0)), (.v (.slice none 0 0))], none⟩, ⟨none, .store 8 (.t 1) (.t 23), none⟩])
 (.seq (.reg [⟨some 24, .build [(.v (.int .i64 (0))), (.v (.string ⟨#[]⟩)), (.v (.string ⟨#[]⟩)), (.v (.string ⟨#[]⟩)), (.v (.int .i64 (0))), (.v (.int .i64 (0))), (.v (.int .i64 (0))), (.v (.slice none 0 0)), (.v (.slice none 0 0)), (.v (.slice none 0 0)), (.v (.int .i64 (0))), (.v (.int .i64 (0))), (.v (.int .i64 (0))), (.v (.int .i64 (0))), (.v (.int .i64 (0))), (.v (.int .i64 (0))), (.v (.int .i64 (0))), (.v (.int .i64 (0))), (.v (.int .i64 (0))), (.v (.int .u64 (0))), (.v (.int .i64 (0))), (.v (.int .i64 (0))), (.v (.int .i64 (0))), (.v (.int .i64 (0))), (.v (.bool false)), (.v (.int .i64 (0))), (.v (.int .i64 (0))), (.v (.int .i64 (0))), (.v (.int .i64 (0))), (.v (.int .i64 (0))), (.v (.int .i64 (0))), (.v (.int .i64 (0))), (.v (.int .u64 (0))), (.v (.int .u64 (0))), (.v (.int .u64 (0))), (.v (.int .u64 (0))), (.v (.int .u64 (0))), (.v (.int .u64 (0))), (.v (.int .u64 (0))), (.v (.int .u64 (0))), (.v (.int .u64 (0))), (.v (.int .u64 (0))), (.v (.int .u64 (0))), (.v (.int .u64 (0)))] [(10, 1, (.c (.int .i64 (1))))], none⟩, ⟨some 2, .alloc 59 [(.v (.int .i64 (0))), (.v (.string ⟨#[]⟩)), (.v (.string ⟨#[]⟩)), (.v (.string ⟨#[]⟩)), (.v (.int .i64 (0))), (.v (.int .i64 (0))), (.v (.int .i64 (0))), (.v (.slice none 0 0)), (.v (.slice none 0 0)), (.v (.slice none 0 0)), (.v (.int .i64 (0))), (.v (.int .i64 (0))), (.v (.int .i64 (0))), (.v (.int .i64 (0))), (.v (.int .i64 (0))), (.v (.int .i64 (0))), (.v (.int .i64 (0))), (.v (.int .i64 (0))), (.v (.int .i64 (0))), (.v (.int .u64 (0))), (.v (.int .i64 (0))), (.v (.int .i64 (0))), (.v (.int .i64 (0))), (.v (.int .i64 (0))), (.v (.bool false)), (.v (.int .i64 (0))), (.v (.int .i64 (0))), (.v (.int .i64 (0))), (.v (.int .i64 (0))), (.v (.int .i64 (0))), (.v (.int .i64 (0))), (.v (.int .i64 (0))), (.v (.int .u64 (0))), (.v (.int .u64 (0))), (.v (.int .u64 (0))), (.v (.int .u64 (0))), (.v (.int .u64 (0))), (.v (.int .u64 (0))), (.v (.int .u64 (0))), (.v (.int .u64 (0))), (.v (.int .u64 (0))), (.v (.int .u64 (0))), (.v (.int .u64 (0))), (.v (.int .u64 (0)))], none⟩, ⟨none, .store 44 (.t 2) (.t 24), none⟩])
 (.seq (.seq (.reg [⟨some 25, .load true 8 (.t 1), none⟩, ⟨some 26, .load true 44 (.t 2), none⟩, ⟨some 27, .call 26 [(.t 25), (.t 26)], none⟩, ⟨some 28, .not (.t 27), none⟩])
 (.cond (.t 28)
 (.seq (.reg [⟨some 0, .mov (.b false), none⟩])
 .ret)
 .skip))
 (.seq (.reg [⟨some 30, .load true 8 (.t 1), none⟩, ⟨some 31, .load true 44 (.t 2), none⟩, ⟨some 32, .call 23 [(.t 30), (.t 31)], none⟩, ⟨some 29, .mov (.t 32), none⟩, ⟨some 33, .ext 0 (.t 29), none⟩, ⟨some 34, .ext 1 (.t 29), none⟩, ⟨some 35, .ext 2 (.t 29), none⟩, ⟨some 3, .alloc 34 [(.v (.int .i64 (0))), (.v (.int .i64 (0))), (.v (.int .i64 (0))), (.v (.slice none 0 0)), (.v (.slice none 0 0)), (.v (.slice none 0 0)), (.v (.slice none 0 0)), (.v (.slice none 0 0))], none⟩, ⟨some 4, .alloc 59 [(.v (.int .i64 (0))), (.v (.string ⟨#[]⟩)), (.v (.string ⟨#[]⟩)), (.v (.string ⟨#[]⟩)), (.v (.int .i64 (0))), (.v (.int .i64 (0))), (.v (.int .i64 (0))), (.v (.slice none 0 0)), (.v (.slice none 0 0)), (.v (.slice none 0 0)), (.v (.int .i64 (0))), (.v (.int .i64 (0))), (.v (.int .i64 (0))), (.v (.int .i64 (0))), (.v (.int .i64 (0))), (.v (.int .i64 (0))), (.v (.int .i64 (0))), (.v (.int .i64 (0))), (.v (.int .i64 (0))), (.v (.int .u64 (0))), (.v (.int .i64 (0))), (.v (.int .i64 (0))), (.v (.int .i64 (0))), (.v (.int .i64 (0))), (.v (.bool false)), (.v (.int .i64 (0))), (.v (.int .i64 (0))), (.v (.int .i64 (0))), (.v (.int .i64 (0))), (.v (.int .i64 (0))), (.v (.int .i64 (0))), (.v (.int .i64 (0))), (.v (.int .u64 (0))), (.v (.int .u64 (0))), (.v (.int .u64 (0))), (.v (.int .u64 (0))), (.v (.int .u64 (0))), (.v (.int .u64 (0))), (.v (.int .u64 (0))), (.v (.int .u64 (0))), (.v (.int .u64 (0))), (.v (.int .u64 (0))), (.v (.int .u64 (0))), (.v (.int .u64 (0)))], none⟩, ⟨some 5, .alloc 61 [(.v (.int .i64 (0))), (.v (.int .i64 (0))), (.v (.int .i64 (0))), (.v (.int .i64 (0))), (.v (.int .i64 (0))), (.v (.bool false)), (.v (.int .i64 (0))), (.v (.bool false)), (.v (.bool false)), (.v (.bool false)), (.v (.int .i64 (0))), (.v (.int .i64 (0))), (.v (.int .i64 (0))), (.v (.int .i64 (0))), (.v (.int .i64 (0))), (.v (.int .i64 (0))), (.v (.int .i64 (0))), (.v (.int .u64 (0))), (.v (.int .u64 (0))), (.v (.int .u64 (0))), (.v (.int .u64 (0))), (.v (.int .u64 (0))), (.v (.int .u64 (0)))], none⟩, ⟨none, .store 8 (.t 3) (.t 33), none⟩, ⟨none, .store 44 (.t 4) (.t 34), none⟩, ⟨none, .store 23 (.t 5) (.t 35), none⟩])
 (.seq (.reg [⟨some 37, .load true 8 (.t 3), none⟩, ⟨some 38, .load true 44 (.t 4), none⟩, ⟨some 39, .call 23 [(.t 37), (.t 38)], none⟩, ⟨some 36, .mov (.t 39), none⟩, ⟨some 40, .ext 0 (.t 36), none⟩, ⟨some 41, .ext 1 (.t 36), none⟩, ⟨some 42, .ext 2 (.t 36), none⟩, ⟨some 6, .alloc 34 [(.v (.int .i64 (0))), (.v (.int .i64 (0))), (.v (.int .i64 (0))), (.v (.slice none 0 0)), (.v (.slice none 0 0)), (.v (.slice none 0 0)), (.v (.slice none 0 0)), (.v (.slice none 0 0))], none⟩, ⟨some 7, .alloc 59 [(.v (.int .i64 (0))), (.v (.string ⟨#[]⟩)), (.v (.string ⟨#[]⟩)), (.v (.string ⟨#[]⟩)), (.v (.int .i64 (0))), (.v (.int .i64 (0))), (.v (.int .i64 (0))), (.v (.slice none 0 0)), (.v (.slice none 0 0)), (.v (.slice none 0 0)), (.v (.int .i64 (0))), (.v (.int .i64 (0))), (.v (.int .i64 (0))), (.v (.int .i64 (0))), (.v (.int .i64 (0))), (.v (.int .i64 (0))), (.v (.int .i64 (0))), (.v (.int .i64 (0))), (.v (.int .i64 (0))), (.v (.int .u64 (0))), (.v (.int .i64 (0))), (.v (.int .i64 (0))), (.v (.int .i64 (0))), (.v (.int .i64 (0))), (.v (.bool false)), (.v (.int .i64 (0))), (.v (.int .i64 (0))), (.v (.int .i64 (0))), (.v (.int .i64 (0))), (.v (.int .i64 (0))), (.v (.int .i64 (0))), (.v (.int .i64 (0))), (.v (.int .u64 (0))), (.v (.int .u64 (0))), (.v (.int .u64 (0))), (.v (.int .u64 (0))), (.v (.int .u64 (0))), (.v (.int .u64 (0))), (.v (.int .u64 (0))), (.v (.int .u64 (0))), (.v (.int .u64 (0))), (.v (.int .u64 (0))), (.v (.int .u64 (0))), (.v (.int .u64 (0)))], none⟩, ⟨some 8, .alloc 61 [(.v (.int .i64 (0))), (.v (.int .i64 (0))), (.v (.int .i64 (0))), (.v (.int .i64 (0))), (.v (.int .i64 (0))), (.v (.bool false)), (.v (.int .i64 (0))), (.v (.bool false)), (.v (.bool false)), (.v (.bool false)), (.v (.int .i64 (0))), (.v (.int .i64 (0))), (.v (.int .i64 (0))), (.v (.int .i64 (0))), (.v (.int .i64 (0))), (.v (.int .i64 (0))), (.v (.int .i64 (0))), (.v (.int .u64 (0))), (.v (.int .u64 (0))), (.v (.int .u64 (0))), (.v (.int .u64 (0))), (.v (.int .u64 (0))), (.v (.int .u64 (0)))], none⟩, ⟨none, .store 8 (.t 6) (.t 40), none⟩, ⟨none, .store 44 (.t 7) (.t 41), none⟩, ⟨none, .store 23 (.t 8) (.t 42), none⟩])
 (.seq (.reg [⟨some 43, .fadr 0 (.t 6), none⟩, ⟨none, .store 1 (.t 43) (.c (.int .i64 (1))), none⟩])
 (.seq (.reg [⟨some 45, .load true 8 (.t 6), none⟩, ⟨some 46, .load true 44 (.t 7), none⟩, ⟨some 47, .call 23 [(.t 45), (.t 46)], none⟩, ⟨some 44, .mov (.t 47), none⟩, ⟨some 48, .ext 0 (.t 44), none⟩, ⟨some 49, .ext 1 (.t 44), none⟩, ⟨some 50, .ext 2 (.t 44), none⟩, ⟨some 9, .alloc 34 [(.v (.int .i64 (0))), (.v (.int .i64 (0))), (.v (.int .i64 (0))), (.v (.slice none 0 0)), (.v (.slice none 0 0)), (.v (.slice none 0 0)), (.v (.slice none 0 0)), (.v (.slice none 0 0))], none⟩, ⟨some 10, .alloc 59 [(.v (.int .i64 (0))), (.v (.string ⟨#[]⟩)), (.v (.string ⟨#[]⟩)), (.v (.string ⟨#[]⟩)), (.v (.int .i64 (0))), (.v (.int .i64 (0))), (.v (.int .i64 (0))), (.v (.slice none 0 0)), (.v (.slice none 0 0)), (.v (.slice none 0 0)), (.v (.int .i64 (0))), (.v (.int .i64 (0))), (.v (.int .i64 (0))), (.v (.int .i64 (0))), (.v (.int .i64 (0))), (.v (.int .i64 (0))), (.v (.int .i64 (0))), (.v (.int .i64 (0))), (.v (.int .i64 (0))), (.v (.int .u64 (0))), (.v (.int .i64 (0))), (.v (.int .i64 (0))), (.v (.int .i64 (0))), (.v (.int .i64 (0))), (.v (.bool false)), (.v (.int .i64 (0))), (.v (.int .i64 (0))), (.v (.int .i64 (0))), (.v (.int .i64 (0))), (.v (.int .i64 (0))), (.v (.int .i64 (0))), (.v (.int .i64 (0))), (.v (.int .u64 (0))), (.v (.int .u64 (0))), (.v (.int .u64 (0))), (.v (.int .u64 (0))), (.v (.int .u64 (0))), (.v (.int .u64 (0))), (.v (.int .u64 (0))), (.v (.int .u64 (0))), (.v (.int .u64 (0))), (.v (.int .u64 (0))), (.v (.int .u64 (0))), (.v (.int .u64 (0)))], none⟩, ⟨some 11, .alloc 61 [(.v (.int .i64 (0))), (.v (.int .i64 (0))), (.v (.int .i64 (0))), (.v (.int .i64 (0))), (.v (.int .i64 (0))), (.v (.bool false)), (.v (.int .i64 (0))), (.v (.bool false)), (.v (.bool false)), (.v (.bool false)), (.v (.int .i64 (0))), (.v (.int .i64 (0))), (.v (.int .i64 (0))), (.v (.int .i64 (0))), (.v (.int .i64 (0))), (.v (.int .i64 (0))), (.v (.int .i64 (0))), (.v (.int .u64 (0))), (.v (.int .u64 (0))), (.v (.int .u64 (0))), (.v (.int .u64 (0))), (.v (.int .u64 (0))), (.v (.int .u64 (0)))], none⟩, ⟨none, .store 8 (.t 9) (.t 48), none⟩, ⟨none, .store 44 (.t 10) (.t 49), none⟩, ⟨none, .store 23 (.t 11) (.t 50), none⟩])
 (.seq (.reg [⟨some 52, .load true 8 (.t 9), none⟩, ⟨some 53, .load true 44 (.t 10), none⟩, ⟨some 54, .call 23 [(.t 52), (.t 53)], none⟩, ⟨some 51, .mov (.t 54), none⟩, ⟨some 55, .ext 0 (.t 51), none⟩, ⟨some 56, .ext 1 (.t 51), none⟩, ⟨some 57, .ext 2 (.t 51), none⟩, ⟨some 12, .alloc 34 [(.v (.int .i64 (0))), (.v (.int .i64 (0))), (.v (.int .i64 (0))), (.v (.slice none 0 0)), (.v (.slice none 0 0)), (.v (.slice none 0 0)), (.v (.slice none 0 0)), (.v (.slice none 0 0))], none⟩, ⟨some 13, .alloc 59 [(.v (.int .i64 (0))), (.v (.string ⟨#[]⟩)), (.v (.string ⟨#[]⟩)), (.v (.string ⟨#[]⟩)), (.v (.int .i64 (0))), (.v (.int .i64 (0))), (.v (.int .i64 (0))), (.v (.slice none 0 0)), (.v (.slice none 0 0)), (.v (.slice none 0 0)), (.v (.int .i64 (0))), (.v (.int .i64 (0))), (.v (.int .i64 (0))), (.v (.int .i64 (0))), (.v (.int .i64 (0))), (.v (.int .i64 (0))), (.v (.int .i64 (0))), (.v (.int .i64 (0))), (.v (.int .i64 (0))), (.v (.int .u64 (0))), (.v (.int .i64 (0))), (.v (.int .i64 (0))), (.v (.int .i64 (0))), (.v (.int .i64 (0))), (.v (.bool false)), (.v (.int .i64 (0))), (.v (.int .i64 (0))), (.v (.int .i64 (0))), (.v (.int .i64 (0))), (.v (.int .i64 (0))), (.v (.int .i64 (0))), (.v (.int .i64 (0))), (.v (.int .u64 (0))), (.v (.int .u64 (0))), (.v (.int .u64 (0))), (.v (.int .u64 (0))), (.v (.int .u64 (0))), (.v (.int .u64 (0))), (.v (.int .u64 (0))), (.v (.int .u64 (0))), (.v (.int .u64 (0))), (.v (.int .u64 (0))), (.v (.int .u64 (0))), (.v (.int .u64 (0)))], none⟩, ⟨some 14, .alloc 61 [(.v (.int .i64 (0))), (.v (.int .i64 (0))), (.v (.int .i64 (0))), (.v (.int .i64 (0))), (.v (.int .i64 (0))), (.v (.bool false)), (.v (.int .i64 (0))), (.v (.bool false)), (.v (.bool false)), (.v (.bool false)), (.v (.int .i64 (0))), (.v (.int .i64 (0))), (.v (.int .i64 (0))), (.v (.int .i64 (0))), (.v (.int .i64 (0))), (.v (.int .i64 (0))), (.v (.int .i64 (0))), (.v (.int .u64 (0))), (.v (.int .u64 (0))), (.v (.int .u64 (0))), (.v (.int .u64 (0))), (.v (.int .u64 (0))), (.v (.int .u64 (0)))], none⟩, ⟨none, .store 8 (.t 12) (.t 55), none⟩, ⟨none, .store 44 (.t 13) (.t 56), none⟩, ⟨none, .store 23 (.t 14) (.t 57), none⟩])
 (.seq (.reg [⟨some 59, .load true 8 (.t 12), none⟩, ⟨some 60, .load true 44 (.t 13), none⟩, ⟨some 61, .call 23 [(.t 59), (.t 60)], none⟩, ⟨some 58, .mov (.t 61), none⟩, ⟨some 62, .ext 0 (.t 58), none⟩, ⟨some 63, .ext 1 (.t 58), none⟩, ⟨some 64, .ext 2 (.t 58), none⟩, ⟨some 15, .alloc 34 [(.v (.int .i64 (0))), (.v (.int .i64 (0))), (.v (.int .i64 (0))), (.v (.slice none 0 0)), (.v (.slice none 0 0)), (.v (.slice none 0 0)), (.v (.slice none 0 0)), (.v (.slice none 0 0))], none⟩, ⟨some 16, .alloc 59 [(.v (.int .i64 (0))), (.v (.string ⟨#[]⟩)), (.v (.string ⟨#[]⟩)), (.v (.string ⟨#[]⟩)), (.v (.int .i64 (0))), (.v (.int .i64 (0))), (.v (.int .i64 (0))), (.v (.slice none 0 0)), (.v (.slice none 0 0)), (.v (.slice none 0 0)), (.v (.int .i64 (0))), (.v (.int .i64 (0))), (.v (.int .i64 (0))), (.v (.int .i64 (0))), (.v (.int .i64 (0))), (.v (.int .i64 (0))), (.v (.int .i64 (0))), (.v (.int .i64 (0))), (.v (.int .i64 (0))), (.v (.int .u64 (0))), (.v (.int .i64 (0))), (.v (.int .i64 (0))), (.v (.int .i64 (0))), (.v (.int .i64 (0))), (.v (.bool false)), (.v (.int .i64 (0))), (.v (.int .i64 (0))), (.v (.int .i64 (0))), (.v (.int .i64 (0))), (.v (.int .i64 (0))), (.v (.int .i64 (0))), (.v (.int .i64 (0))), (.v (.int .u64 (0))), (.v (.int .u64 (0))), (.v (.int .u64 (0))), (.v (.int .u64 (0))), (.v (.int .u64 (0))), (.v (.int .u64 (0))), (.v (.int .u64 (0))), (.v (.int .u64 (0))), (.v (.int .u64 (0))), (.v (.int .u64 (0))), (.v (.int .u64 (0))), (.v (.int .u64 (0)))], none⟩, ⟨some 17, .alloc 61 [(.v (.int .i64 (0))), (.v (.int .i64 (0))), (.v (.int .i64 (0))), (.v (.int .i64 (0))), (.v (.int .i64 (0))), (.v (.bool false)), (.v (.int .i64 (0))), (.v (.bool false)), (.v (.bool false)), (.v (.bool false)), (.v (.int .i64 (0))), (.v (.int .i64 (0))), (.v (.int .i64 (0))), (.v (.int .i64 (0))), (.v (.int .i64 (0))), (.v (.int .i64 (0))), (.v (.int .i64 (0))), (.v (.int .u64 (0))), (.v (.int .u64 (0))), (.v (.int .u64 (0))), (.v (.int .u64 (0))), (.v (.int .u64 (0))), (.v (.int .u64 (0)))], none⟩, ⟨none, .store 8 (.t 15) (.t 62), none⟩, ⟨none, .store 44 (.t 16) (.t 63), none⟩, ⟨none, .store 23 (.t 17) (.t 64), none⟩])
 (.seq (.reg [⟨some 66, .load true 8 (.t 15), none⟩, ⟨some 67, .load true 44 (.t 16), none⟩, ⟨some 68, .call 28 [(.t 66), (.t 67)], none⟩, ⟨some 65, .mov (.t 68), none⟩, ⟨some 69, .ext 0 (.t 65), none⟩, ⟨some 70, .ext 1 (.t 65), none⟩, ⟨some 18, .alloc 34 [(.v (.int .i64 (0))), (.v (.int .i64 (0))), (.v (.int .i64 (0))), (.v (.slice none 0 0)), (.v (.slice none 0 0)), (.v (.slice none 0 0)), (.v (.slice none 0 0)), (.v (.slice none 0 0))], none⟩, ⟨some 19, .alloc 61 [(.v (.int .i64 (0))), (.v (.int .i64 (0))), (.v (.int .i64 (0))), (.v (.int .i64 (0))), (.v (.int .i64 (0))), (.v (.bool false)), (.v (.int .i64 (0))), (.v (.bool false)), (.v (.bool false)), (.v (.bool false)), (.v (.int .i64 (0))), (.v (.int .i64 (0))), (.v (.int .i64 (0))), (.v (.int .i64 (0))), (.v (.int .i64 (0))), (.v (.int .i64 (0))), (.v (.int .i64 (0))), (.v (.int .u64 (0))), (.v (.int .u64 (0))), (.v (.int .u64 (0))), (.v (.int .u64 (0))), (.v (.int .u64 (0))), (.v (.int .u64 (0)))], none⟩, ⟨none, .store 8 (.t 18) (.t 69), none⟩, ⟨none, .store 23 (.t 19) (.t 70), none⟩])
 (.seq (.reg [⟨some 72, .load true 8 (.t 15), none⟩, ⟨some 73, .load true 44 (.t 16), none⟩, ⟨some 74, .call 23 [(.t 72), (.t 73)], none⟩, ⟨some 71, .mov (.t 74), none⟩, ⟨some 75, .ext 0 (.t 71), none⟩, ⟨some 76, .ext 1 (.t 71), none⟩, ⟨some 77, .ext 2 (.t 71), none⟩, ⟨some 20, .alloc 34 [(.v (.int .i64 (0))), (.v (.int .i64 (0))), (.v (.int .i64 (0))), (.v (.slice none 0 0)), (.v (.slice none 0 0)), (.v (.slice none 0 0)), (.v (.slice none 0 0)), (.v (.slice none 0 0))], none⟩, ⟨some 21, .alloc 59 [(.v (.int .i64 (0))), (.v (.string ⟨#[]⟩)), (.v (.string ⟨#[]⟩)), (.v (.string ⟨#[]⟩)), (.v (.int .i64 (0))), (.v (.int .i64 (0))), (.v (.int .i64 (0))), (.v (.slice none 0 0)), (.v (.slice none 0 0)), (.v (.slice none 0 0)), (.v (.int .i64 (0))), (.v (.int .i64 (0))), (.v (.int .i64 (0))), (.v (.int .i64 (0))), (.v (.int .i64 (0))), (.v (.int .i64 (0))), (.v (.int .i64 (0))), (.v (.int .i64 (0))), (.v (.int .i64 (0))), (.v (.int .u64 (0))), (.v (.int .i64 (0))), (.v (.int .i64 (0))), (.v (.int .i64 (0))), (.v (.int .i64 (0))), (.v (.bool false)), (.v (.int .i64 (0))), (.v (.int .i64 (0))), (.v (.int .i64 (0))), (.v (.int .i64 (0))), (.v (.int .i64 (0))), (.v (.int .i64 (0))), (.v (.int .i64 (0))), (.v (.int .u64 (0))), (.v (.int .u64 (0))), (.v (.int .u64 (0))), (.v (.int .u64 (0))), (.v (.int .u64 (0))), (.v (.int .u64 (0))), (.v (.int .u64 (0))), (.v (.int .u64 (0))), (.v (.int .u64 (0))), (.v (.int .u64 (0))), (.v (.int .u64 (0))), (.v (.int .u64 (0)))], none⟩, ⟨some 22, .alloc 61 [(.v (.int .i64 (0))), (.v (.int .i64 (0))), (.v (.int .i64 (0))), (.v (.int .i64 (0))), (.v (.int .i64 (0))), (.v (.bool false)), (.v (.int .i64 (0))), (.v (.bool false)), (.v (.bool false)), (.v (.bool false)), (.v (.int .i64 (0))), (.v (.int .i64 (0))), (.v (.int .i64 (0))), (.v (.int .i64 (0))), (.v (.int .i64 (0))), (.v (.int .i64 (0))), (.v (.int .i64 (0))), (.v (.int .u64 (0))), (.v (.int .u64 (0))), (.v (.int .u64 (0))), (.v (.int .u64 (0))), (.v (.int .u64 (0))), (.v (.int .u64 (0)))], none⟩, ⟨none, .store 8 (.t 20) (.t 75), none⟩, ⟨none, .store 44 (.t 21) (.t 76), none⟩, ⟨none, .store 23 (.t 22) (.t 77), none⟩])
 (.seq (.seq (.reg [⟨some 78, .fadr 3 (.t 6), none⟩, ⟨some 79, .load false 1 (.t 78), none⟩, ⟨some 80, .len false (.t 79), none⟩, ⟨some 81, .bini .neq (.t 80) (.c (.int .i64 (2))), none⟩, ⟨some 82, .mov (.t 81), none⟩, ⟨some 83, .fadr 3 (.t 12), some (82, false)⟩, ⟨some 84, .load false 1 (.t 83), some (82, false)⟩, ⟨some 85, .len false (.t 84), some (82, false)⟩, ⟨some 86, .bini .neq (.t 85) (.c (.int .i64 (2))), some (82, false)⟩, ⟨some 87, .pick (.t 82) (.b true) (.t 86), none⟩, ⟨some 88, .mov (.t 87), none⟩, ⟨some 89, .fadr 3 (.t 18), some (88, false)⟩, ⟨some 90, .load false 1 (.t 89), some (88, false)⟩, ⟨some 91, .len false (.t 90), some (88, false)⟩, ⟨some 92, .bini .neq (.t 91) (.c (.int .i64 (2))), some (88, false)⟩, ⟨some 93, .pick (.t 88) (.b true) (.t 92), none⟩])
 (.cond (.t 93)
 (.seq (.reg [⟨some 0, .mov (.b false), none⟩])
 .ret)
 .skip))
 (.seq (.reg [⟨some 94, .load true 23 (.t 5), none⟩, ⟨some 95, .build [(.v (.int .i64 (0))), (.v (.int .i64 (0))), (.v (.int .i64 (0))), (.v (.int .i64 (0))), (.v (.int .i64 (0))), (.v (.bool false)), (.v (.int .i64 (0))), (.v (.bool false)), (.v (.bool false)), (.v (.bool false)), (.v (.int .i64 (0))), (.v (.int .i64 (0))), (.v (.int .i64 (0))), (.v (.int .i64 (0))), (.v (.int .i64 (0))), (.v (.int .i64 (0))), (.v (.int .i64 (0))), (.v (.int .u64 (0))), (.v (.int .u64 (0))), (.v (.int .u64 (0))), (.v (.int .u64 (0))), (.v (.int .u64 (0))), (.v (.int .u64 (0)))] [(0, 1, (.c (.int .i64 (1)))), (2, 1, (.c (.int .i64 (1)))), (3, 1, (.c (.int .i64 (1)))), (4, 1, (.c (.int .i64 (-1))))], none⟩, ⟨some 96, .binst false [0, 0, 0, 0, 0, 2, 0, 2, 2, 2, 0, 0, 0, 0, 0, 0, 0, 0, 0, 0, 0, 0, 0] (.t 94) (.t 95), none⟩, ⟨some 97, .mov (.t 96), none⟩, ⟨some 98, .load true 23 (.t 8), some (97, true)⟩, ⟨some 99, .build [(.v (.int .i64 (0))), (.v (.int .i64 (0))), (.v (.int .i64 (0))), (.v (.int .i64 (0))), (.v (.int .i64 (0))), (.v (.bool false)), (.v (.int .i64 (0))), (.v (.bool false)), (.v (.bool false)), (.v (.bool false)), (.v (.int .i64 (0))), (.v (.int .i64 (0))), (.v (.int .i64 (0))), (.v (.int .i64 (0))), (.v (.int .i64 (0))), (.v (.int .i64 (0))), (.v (.int .i64 (0))), (.v (.int .u64 (0))), (.v (.int .u64 (0))), (.v (.int .u64 (0))), (.v (.int .u64 (0))), (.v (.int .u64 (0))), (.v (.int .u64 (0)))] [(0, 1, (.c (.int .i64 (1)))), (2, 1, (.c (.int .i64 (2)))), (3, 1, (.c (.int .i64 (2)))), (4, 1, (.c (.int .i64 (-1)))), (6, 1, (.c (.int .i64 (1))))], some (97, true)⟩, ⟨some 100, .binst false [0, 0, 0, 0, 0, 2, 0, 2, 2, 2, 0, 0, 0, 0, 0, 0, 0, 0, 0, 0, 0, 0, 0] (.t 98) (.t 99), some (97, true)⟩, ⟨some 101, .pick (.t 97) (.t 100) (.b false), none⟩, ⟨some 102, .mov (.t 101), none⟩, ⟨some 103, .fadr 3 (.t 6), some (102, true)⟩, ⟨some 104, .load false 1 (.t 103), some (102, true)⟩, ⟨some 105, .iadr 1 (.t 104) (.c (.int .i64 (1))), some (102, true)⟩, ⟨some 106, .load false 1 (.t 105), some (102, true)⟩, ⟨some 107, .bini .eql (.t 106) (.c (.int .i64 (1))), some (102, true)⟩, ⟨some 108, .pick (.t 102) (.t 107) (.b false), none⟩, ⟨some 109, .mov (.t 108), none⟩, ⟨some 110, .fadr 11 (.t 10), some (109, true)⟩, ⟨some 111, .load false 1 (.t 110), some (109, true)⟩, ⟨some 112, .bini .eql (.t 111) (.c (.int .i64 (1))), some (109, true)⟩, ⟨some 113, .pick (.t 109) (.t 112) (.b false), none⟩, ⟨some 114, .mov (.t 113), none⟩, ⟨some 115, .fadr 3 (.t 12), some (114, true)⟩, ⟨some 116, .load false 1 (.t 115), some (114, true)⟩, ⟨some 117, .iadr 1 (.t 116) (.c (.int .i64 (1))), some (114, true)⟩, ⟨some 118, .load false 1 (.t 117), some (114, true)⟩, ⟨some 119, .bini .eql (.t 118) (.c (.int .i64 (2))), some (114, true)⟩, ⟨some 120, .pick (.t 114) (.t 119) (.b false), none⟩, ⟨some 121, .mov (.t 120), none⟩, ⟨some 122, .fadr 11 (.t 16), some (121, true)⟩, ⟨some 123, .load false 1 (.t 122), some (121, true)⟩, ⟨some 124, .bini .eql (.t 123) (.c (.int .i64 (3))), some (121, true)⟩, ⟨some 125, .pick (.t 121) (.t 124) (.b false), none⟩, ⟨some 126, .mov (.t 125), none⟩, ⟨some 127, .fadr 6 (.t 17), some (126, true)⟩, ⟨some 128, .load false 1 (.t 127), some (126, true)⟩, ⟨some 129, .bini .eql (.t 128) (.c (.int .i64 (1))), some (126, true)⟩, ⟨some 130, .pick (.t 126) (.t 129) (.b false), none⟩, ⟨some 131, .mov (.t 130), none⟩, ⟨some 132, .fadr 3 (.t 18), some (131, true)⟩, ⟨some 133, .load false 1 (.t 132), some (131, true)⟩, ⟨some 134, .iadr 1 (.t 133) (.c (.int .i64 (1))), some (131, true)⟩, ⟨some 135, .load false 1 (.t 134), some (131, true)⟩, ⟨some 136, .bini .eql (.t 135) (.c (.int .i64 (0))), some (131, true)⟩, ⟨some 137, .pick (.t 131) (.t 136) (.b false), none⟩, ⟨some 138, .mov (.t 137), none⟩, ⟨some 139, .fadr 3 (.t 19), some (138, true)⟩, ⟨some 140, .load false 1 (.t 139), some (138, true)⟩, ⟨some 141, .bini .eql (.t 140) (.c (.int .i64 (2))), some (138, true)⟩, ⟨some 142, .pick (.t 138) (.t 141) (.b false), none⟩, ⟨some 143, .mov (.t 142), none⟩, ⟨some 144, .fadr 11 (.t 21), some (143, true)⟩, ⟨some 145, .load false 1 (.t 144), some (143, true)⟩, ⟨some 146, .bini .eql (.t 145) (.c (.int .i64 (3))), some (143, true)⟩, ⟨some 147, .pick (.t 143) (.t 146) (.b false), none⟩, ⟨some 148, .mov (.t 147), none⟩, ⟨some 149, .load true 23 (.t 22), some (148, true)⟩, ⟨some 150, .build [(.v (.int .i64 (0))), (.v (.int .i64 (0))), (.v (.int .i64 (0))), (.v (.int .i64 (0))), (.v (.int .i64 (0))), (.v (.bool false)), (.v (.int .i64 (0))), (.v (.bool false)), (.v (.bool false)), (.v (.bool false)), (.v (.int .i64 (0))), (.v (.int .i64 (0))), (.v (.int .i64 (0))), (.v (.int .i64 (0))), (.v (.int .i64 (0))), (.v (.int .i64 (0))), (.v (.int .i64 (0))), (.v (.int .u64 (0))), (.v (.int .u64 (0))), (.v (.int .u64 (0))), (.v (.int .u64 (0))), (.v (.int .u64 (0))), (.v (.int .u64 (0)))] [], some (148, true)⟩, ⟨some 151, .binst false [0, 0, 0, 0, 0, 2, 0, 2, 2, 2, 0, 0, 0, 0, 0, 0, 0, 0, 0, 0, 0, 0, 0] (.t 149) (.t 150), some (148, true)⟩, ⟨some 152, .pick (.t 148) (.t 151) (.b false), none⟩, ⟨some 153, .mov (.t 152), none⟩, ⟨some 154, .load true 8 (.t 1), some (153, true)⟩, ⟨some 155, .build [(.v (.int .i64 (0))), (.v (.string ⟨#[]⟩)), (.v (.string ⟨#[]⟩)), (.v (.string ⟨#[]⟩)), (.v (.int .i64 (0))), (.v (.int .i64 (0))), (.v (.int .i64 (0))), (.v (.slice none 0 0)), (.v (.slice none 0 0)), (.v (.slice none 0 0)), (.v (.int .i64 (0))), (.v (.int .i64 (0))), (.v (.int .i64 (0))), (.v (.int .i64 (0))), (.v (.int .i64 (0))), (.v (.int .i64 (0))), (.v (.int .i64 (0))), (.v (.int .i64 (0))), (.v (.int .i64 (0))), (.v (.int .u64 (0))), (.v (.int .i64 (0))), (.v (.int .i64 (0))), (.v (.int .i64 (0))), (.v (.int .i64 (0))), (.v (.bool false)), (.v (.int .i64 (0))), (.v (.int .i64 (0))), (.v (.int .i64 (0))), (.v (.int .i64 (0))), (.v (.int .i64 (0))), (.v (.int .i64 (0))), (.v (.int .i64 (0))), (.v (.int .u64 (0))), (.v (.int .u64 (0))), (.v (.int .u64 (0))), (.v (.int .u64 (0))), (.v (.int .u64 (0))), (.v (.int .u64 (0))), (.v (.int .u64 (0))), (.v (.int .u64 (0))), (.v (.int .u64 (0))), (.v (.int .u64 (0))), (.v (.int .u64 (0))), (.v (.int .u64 (0)))] [(10, 1, (.c (.int .i64 (2))))], some (153, true)⟩, ⟨some 156, .call 26 [(.t 154), (.t 155)], some (153, true)⟩, ⟨some 157, .not (.t 156), some (153, true)⟩, ⟨some 158, .pick (.t 153) (.t 157) (.b false), none⟩, ⟨some 0, .mov (.t 158), none⟩])
 .ret))))))))))))))⟩
theorem t_hydrantlaw19_pinned : trFn Tryz.prog 25 [] [] = some f_hydrantlaw19_pinned := by kernel_rfl

abbrev n_pin_Suits : Nat := 26
/-- hydrant/pin.Suits -/
def f_pin_Suits : FnI := ⟨96, [.tmp 4],
 (.seq (.reg [⟨some 2, .box 34 (.t 0), none⟩, ⟨some 3, .box 59 (.t 1), none⟩, ⟨some 4, .mov (.b false), none⟩])
 (.seq (.seq (.reg [⟨some 7, .load true 8 (.t 2), none⟩, ⟨some 8, .call 15 [(.t 7)], none⟩, ⟨some 9, .not (.t 8), none⟩, ⟨some 10, .mov (.t 9), none⟩, ⟨some 11, .fadr 10 (.t 3), some (10, false)⟩, ⟨some 12, .load false 1 (.t 11), some (10, false)⟩, ⟨some 13, .fadr 3 (.t 2), some (10, false)⟩, ⟨some 14, .load false 1 (.t 13), some (10, false)⟩, ⟨some 15, .len false (.t 14), some (10, false)⟩, ⟨some 16, .call 64 [(.t 12), (.t 15)], some (10, false)⟩, ⟨some 17, .not (.t 16), some (10, false)⟩, ⟨some 18, .pick (.t 10) (.b true) (.t 17), none⟩, ⟨some 19, .mov (.t 18), none⟩, ⟨some 20, .fadr 24 (.t 3), some (19, false)⟩, ⟨some 21, .load false 1 (.t 20), some (19, false)⟩, ⟨some 22, .pick (.t 19) (.b true) (.t 21), none⟩, ⟨some 23, .mov (.t 22), none⟩, ⟨some 24, .fadr 13 (.t 3), some (23, false)⟩, ⟨some 25, .load false 1 (.t 24), some (23, false)⟩, ⟨some 26, .fadr 4 (.t 2), some (23, false)⟩, ⟨some 27, .load false 1 (.t 26), some (23, false)⟩, ⟨some 28, .len false (.t 27), some (23, false)⟩, ⟨some 29, .call 64 [(.t 25), (.t 28)], some (23, false)⟩, ⟨some 30, .not (.t 29), some (23, false)⟩, ⟨some 31, .pick (.t 23) (.b true) (.t 30), none⟩])
 (.cond (.t 31)
 (.seq (.reg [⟨some 4, .mov (.b false), none⟩])
 .ret)
 .skip))
 (.seq (.reg [⟨some 32, .fadr 4 (.t 2), none⟩, ⟨some 33, .load false 1 (.t 32), none⟩, ⟨some 34, .fadr 13 (.t 3), none⟩, ⟨some 35, .load false 1 (.t 34), none⟩, ⟨some 36, .iadr 5 (.t 33) (.t 35), none⟩, ⟨some 37, .fadr 3 (.t 36), none⟩, ⟨some 38, .load false 1 (.t 37), none⟩, ⟨some 5, .mov (.t 38), none⟩])
 (.seq (.seq (.reg [⟨some 39, .fadr 15 (.t 3), none⟩, ⟨some 40, .load false 1 (.t 39), none⟩, ⟨some 41, .mov (.t 5), none⟩, ⟨some 42, .len false (.t 41), none⟩, ⟨some 43, .call 64 [(.t 40), (.t 42)], none⟩, ⟨some 44, .not (.t 43), none⟩])
 (.cond (.t 44)
 (.seq (.reg [⟨some 4, .mov (.b false), none⟩])
 .ret)
 .skip))
 (.seq (.reg [⟨some 45, .mov (.t 5), none⟩, ⟨some 46, .fadr 15 (.t 3), none⟩, ⟨some 47, .load false 1 (.t 46), none⟩, ⟨some 48, .iadr 2 (.t 45) (.t 47), none⟩, ⟨some 49, .fadr 1 (.t 48), none⟩, ⟨some 50, .load false 1 (.t 49), none⟩, ⟨some 6, .mov (.t 50), none⟩])
 (.seq (.seq (.regD [] (.op ⟨0, false, [], ⟨some 51, .fadr 16 (.t 3), none⟩⟩
 (.op ⟨1, true, [], ⟨some 52, .load false 1 (.t 51), none⟩⟩
 (.op ⟨2, false, [], ⟨some 53, .mov (.t 6), none⟩⟩
 (.op ⟨3, false, [], ⟨some 54, .len false (.t 53), none⟩⟩
 (.op ⟨4, false, [], ⟨some 55, .call 64 [(.t 52), (.t 54)], none⟩⟩
 (.op ⟨5, false, [], ⟨some 56, .not (.t 55), none⟩⟩
 (.op ⟨6, false, [], ⟨some 57, .mov (.t 56), none⟩⟩
 (.op ⟨7, false, [], ⟨some 58, .fadr 17 (.t 3), some (57, false)⟩⟩
 (.op ⟨8, true, [], ⟨some 59, .load false 1 (.t 58), some (57, false)⟩⟩
 (.op ⟨9, false, [], ⟨some 60, .mov (.t 6), some (57, false)⟩⟩
 (.op ⟨10, false, [], ⟨some 61, .len false (.t 60), some (57, false)⟩⟩
 (.op ⟨11, false, [], ⟨some 62, .call 64 [(.t 59), (.t 61)], some (57, false)⟩⟩
 (.op ⟨12, false, [], ⟨some 63, .not (.t 62), some (57, false)⟩⟩
 (.op ⟨13, false, [], ⟨some 64, .pick (.t 57) (.b true) (.t 63), none⟩⟩
 (.op ⟨14, false, [], ⟨some 65, .mov (.t 64), none⟩⟩
 (.op ⟨15, false, [], ⟨some 66, .fadr 18 (.t 3), some (65, false)⟩⟩
 (.op ⟨16, true, [], ⟨some 67, .load false 1 (.t 66), some (65, false)⟩⟩
 (.op ⟨17, false, [], ⟨some 68, .mov (.t 6), some (65, false)⟩⟩
 (.op ⟨18, false, [], ⟨some 69, .fadr 16 (.t 3), some (65, false)⟩⟩
 (.op ⟨19, true, [], ⟨some 70, .load false 1 (.t 69), some (65, false)⟩⟩
 (.op ⟨20, true, [], ⟨some 71, .iadr 3 (.t 68) (.t 70), some (65, false)⟩⟩
 (.op ⟨21, false, [], ⟨some 72, .fadr 1 (.t 71), some (65, false)⟩⟩
 (.op ⟨22, true, [], ⟨some 73, .load false 1 (.t 72), some (65, false)⟩⟩
 (.op ⟨23, false, [], ⟨some 74, .len false (.t 73), some (65, false)⟩⟩
 (.op ⟨24, false, [], ⟨some 75, .call 64 [(.t 67), (.t 74)], some (65, false)⟩⟩
 (.op ⟨25, false, [], ⟨some 76, .not (.t 75), some (65, false)⟩⟩
 (.op ⟨26, false, [], ⟨some 77, .pick (.t 65) (.b true) (.t 76), none⟩⟩
 .nil))))))))))))))))))))))))))))
 (.cond (.t 77)
 (.seq (.reg [⟨some 4, .mov (.b false), none⟩])
 .ret)
 .skip))
 (.seq (.reg [⟨some 78, .fadr 14 (.t 3), none⟩, ⟨some 79, .load false 1 (.t 78), none⟩, ⟨some 80, .bini .add (.t 79) (.c (.int .i64 (1))), none⟩, ⟨some 81, .fadr 5 (.t 2), none⟩, ⟨some 82, .load false 1 (.t 81), none⟩, ⟨some 83, .len false (.t 82), none⟩, ⟨some 84, .bini .add (.t 83) (.c (.int .i64 (1))), none⟩, ⟨some 85, .call 64 [(.t 80), (.t 84)], none⟩, ⟨some 86, .mov (.t 85), none⟩, ⟨some 87, .fadr 21 (.t 3), some (86, true)⟩, ⟨some 88, .load false 1 (.t 87), some (86, true)⟩, ⟨some 89, .bini .geq (.t 88) (.c (.int .i64 (0))), some (86, true)⟩, ⟨some 90, .pick (.t 86) (.t 89) (.b false), none⟩, ⟨some 91, .mov (.t 90), none⟩, ⟨some 92, .fadr 22 (.t 3), some (91, true)⟩, ⟨some 93, .load false 1 (.t 92), some (91, true)⟩, ⟨some 94, .bini .geq (.t 93) (.c (.int .i64 (0))), some (91, true)⟩, ⟨some 95, .pick (.t 91) (.t 94) (.b false), none⟩, ⟨some 4, .mov (.t 95), none⟩])
 .ret)))))))⟩
theorem t_pin_Suits : trFn Tryz.prog 26 [([], (.first 0 (.first 1 (.first 2 (.first 3 (.exec 4 (.first 5 (.first 6 (.first 7 (.first 8 (.first 9 (.first 10 (.exec 11 (.first 12 (.first 13 (.first 14 (.first 15 (.first 16 (.first 17 (.first 18 (.first 19 (.first 20 (.first 21 (.first 22 (.first 23 (.exec 24 (.first 25 (.first 26 .nil))))))))))))))))))))))))))))] [] = some f_pin_Suits := by kernel_rfl

abbrev n_hydrantref19_Suits : Nat := 27
/-- hydrant/hydrantref19.Suits -/
def f_hydrantref19_Suits : FnI := ⟨105, [.tmp 4],
 (.seq (.reg [⟨some 2, .box 34 (.t 0), none⟩, ⟨some 3, .box 59 (.t 1), none⟩, ⟨some 4, .mov (.b false), none⟩])
 (.seq (.seq (.regD [] (.op ⟨0, true, [], ⟨some 6, .load true 8 (.t 2), none⟩⟩
 (.op ⟨1, false, [], ⟨some 7, .call 65 [(.t 6)], none⟩⟩
 (.op ⟨2, false, [], ⟨some 8, .not (.t 7), none⟩⟩
 (.op ⟨3, false, [], ⟨some 9, .mov (.t 8), none⟩⟩
 (.op ⟨4, false, [], ⟨some 10, .fadr 10 (.t 3), some (9, false)⟩⟩
 (.op ⟨5, true, [], ⟨some 11, .load false 1 (.t 10), some (9, false)⟩⟩
 (.op ⟨6, false, [], ⟨some 12, .fadr 3 (.t 2), some (9, false)⟩⟩
 (.op ⟨7, true, [], ⟨some 13, .load false 1 (.t 12), some (9, false)⟩⟩
 (.op ⟨8, false, [], ⟨some 14, .len false (.t 13), some (9, false)⟩⟩
 (.op ⟨9, false, [], ⟨some 15, .call 66 [(.t 11), (.t 14)], some (9, false)⟩⟩
 (.op ⟨10, false, [], ⟨some 16, .not (.t 15), some (9, false)⟩⟩
 (.op ⟨11, false, [], ⟨some 17, .pick (.t 9) (.b true) (.t 16), none⟩⟩
 (.op ⟨12, false, [], ⟨some 18, .mov (.t 17), none⟩⟩
 (.op ⟨13, false, [], ⟨some 19, .fadr 24 (.t 3), some (18, false)⟩⟩
 (.op ⟨14, true, [], ⟨some 20, .load false 1 (.t 19), some (18, false)⟩⟩
 (.op ⟨15, false, [], ⟨some 21, .pick (.t 18) (.b true) (.t 20), none⟩⟩
 (.op ⟨16, false, [], ⟨some 22, .mov (.t 21), none⟩⟩
 (.op ⟨17, false, [], ⟨some 23, .fadr 13 (.t 3), some (22, false)⟩⟩
 (.op ⟨18, true, [], ⟨some 24, .load false 1 (.t 23), some (22, false)⟩⟩
 (.op ⟨19, false, [], ⟨some 25, .fadr 4 (.t 2), some (22, false)⟩⟩
 (.op ⟨20, true, [], ⟨some 26, .load false 1 (.t 25), some (22, false)⟩⟩
 (.op ⟨21, false, [], ⟨some 27, .len false (.t 26), some (22, false)⟩⟩
 (.op ⟨22, false, [], ⟨some 28, .call 66 [(.t 24), (.t 27)], some (22, false)⟩⟩
 (.op ⟨23, false, [], ⟨some 29, .not (.t 28), some (22, false)⟩⟩
 (.op ⟨24, false, [], ⟨some 30, .pick (.t 22) (.b true) (.t 29), none⟩⟩
 (.op ⟨25, false, [], ⟨some 31, .mov (.t 30), none⟩⟩
 (.op ⟨26, false, [], ⟨some 32, .fadr 15 (.t 3), some (31, false)⟩⟩
 (.op ⟨27, true, [], ⟨some 33, .load false 1 (.t 32), some (31, false)⟩⟩
 (.op ⟨28, false, [], ⟨some 34, .fadr 4 (.t 2), some (31, false)⟩⟩
 (.op ⟨29, true, [], ⟨some 35, .load false 1 (.t 34), some (31, false)⟩⟩
 (.op ⟨30, false, [], ⟨some 36, .fadr 13 (.t 3), some (31, false)⟩⟩
 (.op ⟨31, true, [], ⟨some 37, .load false 1 (.t 36), some (31, false)⟩⟩
 (.op ⟨32, true, [], ⟨some 38, .iadr 5 (.t 35) (.t 37), some (31, false)⟩⟩
 (.op ⟨33, false, [], ⟨some 39, .fadr 3 (.t 38), some (31, false)⟩⟩
 (.op ⟨34, true, [], ⟨some 40, .load false 1 (.t 39), some (31, false)⟩⟩
 (.op ⟨35, false, [], ⟨some 41, .len false (.t 40), some (31, false)⟩⟩
 (.op ⟨36, false, [], ⟨some 42, .call 66 [(.t 33), (.t 41)], some (31, false)⟩⟩
 (.op ⟨37, false, [], ⟨some 43, .not (.t 42), some (31, false)⟩⟩
 (.op ⟨38, false, [], ⟨some 44, .pick (.t 31) (.b true) (.t 43), none⟩⟩
 .nil))))))))))))))))))))))))))))))))))))))))
 (.cond (.t 44)
 (.seq (.reg [⟨some 4, .mov (.b false), none⟩])
 .ret)
 .skip))
 (.seq (.regD [] (.op ⟨0, false, [], ⟨some 45, .fadr 4 (.t 2), none⟩⟩
 (.op ⟨1, true, [], ⟨some 46, .load false 1 (.t 45), none⟩⟩
 (.op ⟨2, false, [], ⟨some 47, .fadr 13 (.t 3), none⟩⟩
 (.op ⟨3, true, [], ⟨some 48, .load false 1 (.t 47), none⟩⟩
 (.op ⟨4, true, [], ⟨some 49, .iadr 5 (.t 46) (.t 48), none⟩⟩
 (.op ⟨5, false, [], ⟨some 50, .fadr 3 (.t 49), none⟩⟩
 (.op ⟨6, true, [], ⟨some 51, .load false 1 (.t 50), none⟩⟩
 (.op ⟨7, false, [], ⟨some 52, .fadr 15 (.t 3), none⟩⟩
 (.op ⟨8, true, [], ⟨some 53, .load false 1 (.t 52), none⟩⟩
 (.op ⟨9, true, [], ⟨some 54, .iadr 2 (.t 51) (.t 53), none⟩⟩
 (.op ⟨10, false, [], ⟨some 55, .fadr 1 (.t 54), none⟩⟩
 (.op ⟨11, true, [], ⟨some 56, .load false 1 (.t 55), none⟩⟩
 (.op ⟨12, false, [], ⟨some 5, .mov (.t 56), none⟩⟩
 .nil))))))))))))))
 (.seq (.seq (.regD [] (.op ⟨0, false, [], ⟨some 57, .fadr 16 (.t 3), none⟩⟩
 (.op ⟨1, true, [], ⟨some 58, .load false 1 (.t 57), none⟩⟩
 (.op ⟨2, false, [], ⟨some 59, .mov (.t 5), none⟩⟩
 (.op ⟨3, false, [], ⟨some 60, .len false (.t 59), none⟩⟩
 (.op ⟨4, false, [], ⟨some 61, .call 66 [(.t 58), (.t 60)], none⟩⟩
 (.op ⟨5, false, [], ⟨some 62, .not (.t 61), none⟩⟩
 (.op ⟨6, false, [], ⟨some 63, .mov (.t 62), none⟩⟩
 (.op ⟨7, false, [], ⟨some 64, .fadr 17 (.t 3), some (63, false)⟩⟩
 (.op ⟨8, true, [], ⟨some 65, .load false 1 (.t 64), some (63, false)⟩⟩
 (.op ⟨9, false, [], ⟨some 66, .mov (.t 5), some (63, false)⟩⟩
 (.op ⟨10, false, [], ⟨some 67, .len false (.t 66), some (63, false)⟩⟩
 (.op ⟨11, false, [], ⟨some 68, .call 66 [(.t 65), (.t 67)], some (63, false)⟩⟩
 (.op ⟨12, false, [], ⟨some 69, .not (.t 68), some (63, false)⟩⟩
 (.op ⟨13, false, [], ⟨some 70, .pick (.t 63) (.b true) (.t 69), none⟩⟩
 (.op ⟨14, false, [], ⟨some 71, .mov (.t 70), none⟩⟩
 (.op ⟨15, false, [], ⟨some 72, .fadr 18 (.t 3), some (71, false)⟩⟩
 (.op ⟨16, true, [], ⟨some 73, .load false 1 (.t 72), some (71, false)⟩⟩
 (.op ⟨17, false, [], ⟨some 74, .mov (.t 5), some (71, false)⟩⟩
 (.op ⟨18, false, [], ⟨some 75, .fadr 16 (.t 3), some (71, false)⟩⟩
 (.op ⟨19, true, [], ⟨some 76, .load false 1 (.t 75), some (71, false)⟩⟩
 (.op ⟨20, true, [], ⟨some 77, .iadr 3 (.t 74) (.t 76), some (71, false)⟩⟩
 (.op ⟨21, false, [], ⟨some 78, .fadr 1 (.t 77), some (71, false)⟩⟩
 (.op ⟨22, true, [], ⟨some 79, .load false 1 (.t 78), some (71, false)⟩⟩
 (.op ⟨23, false, [], ⟨some 80, .len false (.t 79), some (71, false)⟩⟩
 (.op ⟨24, false, [], ⟨some 81, .call 66 [(.t 73), (.t 80)], some (71, false)⟩⟩
 (.op ⟨25, false, [], ⟨some 82, .not (.t 81), some (71, false)⟩⟩
 (.op ⟨26, false, [], ⟨some 83, .pick (.t 71) (.b true) (.t 82), none⟩⟩
 .nil))))))))))))))))))))))))))))
 (.cond (.t 83)
 (.seq (.reg [⟨some 4, .mov (.b false), none⟩])
 .ret)
 .skip))
 (.seq (.reg [⟨some 84, .fadr 14 (.t 3), none⟩, ⟨some 85, .load false 1 (.t 84), none⟩, ⟨some 86, .bini .geq (.t 85) (.c (.int .i64 (-1))), none⟩, ⟨some 87, .mov (.t 86), none⟩, ⟨some 88, .fadr 14 (.t 3), some (87, true)⟩, ⟨some 89, .load false 1 (.t 88), some (87, true)⟩, ⟨some 90, .fadr 5 (.t 2), some (87, true)⟩, ⟨some 91, .load false 1 (.t 90), some (87, true)⟩, ⟨some 92, .len false (.t 91), some (87, true)⟩, ⟨some 93, .bini .lss (.t 89) (.t 92), some (87, true)⟩, ⟨some 94, .pick (.t 87) (.t 93) (.b false), none⟩, ⟨some 95, .mov (.t 94), none⟩, ⟨some 96, .fadr 21 (.t 3), some (95, true)⟩, ⟨some 97, .load false 1 (.t 96), some (95, true)⟩, ⟨some 98, .bini .geq (.t 97) (.c (.int .i64 (0))), some (95, true)⟩, ⟨some 99, .pick (.t 95) (.t 98) (.b false), none⟩, ⟨some 100, .mov (.t 99), none⟩, ⟨some 101, .fadr 22 (.t 3), some (100, true)⟩, ⟨some 102, .load false 1 (.t 101), some (100, true)⟩, ⟨some 103, .bini .geq (.t 102) (.c (.int .i64 (0))), some (100, true)⟩, ⟨some 104, .pick (.t 100) (.t 103) (.b false), none⟩, ⟨some 4, .mov (.t 104), none⟩])
 .ret)))))⟩
theorem t_hydrantref19_Suits : trFn Tryz.prog 27 [([], (.first 0 (.exec 1 (.first 2 (.first 3 (.first 4 (.first 5 (.first 6 (.first 7 (.first 8 (.exec 9 (.first 10 (.first 11 (.first 12 (.first 13 (.first 14 (.first 15 (.first 16 (.first 17 (.first 18 (.first 19 (.first 20 (.first 21 (.exec 22 (.first 23 (.first 24 (.first 25 (.first 26 (.first 27 (.first 28 (.first 29 (.first 30 (.first 31 (.first 32 (.first 33 (.first 34 (.first 35 (.exec 36 (.first 37 (.first 38 .nil)))))))))))))))))))))))))))))))))))))))), ([], (.first 0 (.first 1 (.first 2 (.first 3 (.first 4 (.first 5 (.first 6 (.first 7 (.first 8 (.first 9 (.first 10 (.first 11 (.first 12 .nil)))))))))))))), ([], (.first 0 (.first 1 (.first 2 (.first 3 (.exec 4 (.first 5 (.first 6 (.first 7 (.first 8 (.first 9 (.first 10 (.exec 11 (.first 12 (.first 13 (.first 14 (.first 15 (.first 16 (.first 17 (.first 18 (.first 19 (.first 20 (.first 21 (.first 22 (.first 23 (.exec 24 (.first 25 (.first 26 .nil))))))))))))))))))))))))))))] [] = some f_hydrantref19_Suits := by kernel_rfl

abbrev n_pin_Off : Nat := 28
/-- hydrant/pin.Off -/
def f_pin_Off : FnI := ⟨23, [.cell 4 8 true, .cell 5 23 true],
 (.seq (.reg [⟨some 2, .box 34 (.t 0), none⟩, ⟨some 3, .box 59 (.t 1), none⟩, ⟨some 4, .alloc 34 [(.v (.int .i64 (0))), (.v (.int .i64 (0))), (.v (.int .i64 (0))), (.v (.slice none 0 0)), (.v (.slice none 0 0)), (.v (.slice none 0 0)), (.v (.slice none 0 0)), (.v (.slice none 0 0))], none⟩, ⟨some 5, .alloc 61 [(.v (.int .i64 (0))), (.v (.int .i64 (0))), (.v (.int .i64 (0))), (.v (.int .i64 (0))), (.v (.int .i64 (0))), (.v (.bool false)), (.v (.int .i64 (0))), (.v (.bool false)), (.v (.bool false)), (.v (.bool false)), (.v (.int .i64 (0))), (.v (.int .i64 (0))), (.v (.int .i64 (0))), (.v (.int .i64 (0))), (.v (.int .i64 (0))), (.v (.int .i64 (0))), (.v (.int .i64 (0))), (.v (.int .u64 (0))), (.v (.int .u64 (0))), (.v (.int .u64 (0))), (.v (.int .u64 (0))), (.v (.int .u64 (0))), (.v (.int .u64 (0)))], none⟩])
 (.seq (.seq (.reg [⟨some 6, .load true 8 (.t 2), none⟩, ⟨some 7, .load true 44 (.t 3), none⟩, ⟨some 8, .call 26 [(.t 6), (.t 7)], none⟩, ⟨some 9, .not (.t 8), none⟩])
 (.cond (.t 9)
 (.seq (.reg [⟨some 10, .load true 8 (.t 2), none⟩, ⟨some 11, .build [(.v (.int .i64 (0))), (.v (.int .i64 (0))), (.v (.int .i64 (0))), (.v (.int .i64 (0))), (.v (.int .i64 (0))), (.v (.bool false)), (.v (.int .i64 (0))), (.v (.bool false)), (.v (.bool false)), (.v (.bool false)), (.v (.int .i64 (0))), (.v (.int .i64 (0))), (.v (.int .i64 (0))), (.v (.int .i64 (0))), (.v (.int .i64 (0))), (.v (.int .i64 (0))), (.v (.int .i64 (0))), (.v (.int .u64 (0))), (.v (.int .u64 (0))), (.v (.int .u64 (0))), (.v (.int .u64 (0))), (.v (.int .u64 (0))), (.v (.int .u64 (0)))] [], none⟩, ⟨none, .store 8 (.t 4) (.t 10), none⟩, ⟨none, .store 23 (.t 5) (.t 11), none⟩])
 .ret)
 .skip))
 (.seq (.reg [⟨some 12, .load true 8 (.t 2), none⟩, ⟨some 13, .call 41 [(.t 12)], none⟩, ⟨none, .store 8 (.t 2) (.t 13), none⟩])
 (.seq (.reg [⟨some 14, .fadr 3 (.t 2), none⟩, ⟨some 15, .load false 1 (.t 14), none⟩, ⟨some 16, .fadr 10 (.t 3), none⟩, ⟨some 17, .load false 1 (.t 16), none⟩, ⟨some 18, .iadr 1 (.t 15) (.t 17), none⟩, ⟨none, .store 1 (.t 18) (.c (.int .i64 (0))), none⟩])
 (.seq (.regD [] (.op ⟨0, true, [], ⟨some 19, .load true 8 (.t 2), none⟩⟩
 (.op ⟨1, false, [], ⟨some 20, .fadr 10 (.t 3), none⟩⟩
 (.op ⟨2, true, [], ⟨some 21, .load false 1 (.t 20), none⟩⟩
 (.op ⟨3, false, [], ⟨some 22, .build [(.v (.int .i64 (0))), (.v (.int .i64 (0))), (.v (.int .i64 (0))), (.v (.int .i64 (0))), (.v (.int .i64 (0))), (.v (.bool false)), (.v (.int .i64 (0))), (.v (.bool false)), (.v (.bool false)), (.v (.bool false)), (.v (.int .i64 (0))), (.v (.int .i64 (0))), (.v (.int .i64 (0))), (.v (.int .i64 (0))), (.v (.int .i64 (0))), (.v (.int .i64 (0))), (.v (.int .i64 (0))), (.v (.int .u64 (0))), (.v (.int .u64 (0))), (.v (.int .u64 (0))), (.v (.int .u64 (0))), (.v (.int .u64 (0))), (.v (.int .u64 (0)))] [(0, 1, (.t 21)), (2, 1, (.c (.int .i64 (2)))), (3, 1, (.c (.int .i64 (2)))), (4, 1, (.c (.int .i64 (-1))))], none⟩⟩
 (.op ⟨4, false, [2], ⟨none, .store 8 (.t 4) (.t 19), none⟩⟩
 (.op ⟨5, false, [], ⟨none, .store 23 (.t 5) (.t 22), none⟩⟩
 .nil)))))))
 .ret)))))⟩
theorem t_pin_Off : trFn Tryz.prog 28 [([], (.first 0 (.first 1 (.first 2 (.first 3 (.exec 4 (.exec 5 .nil)))))))] [] = some f_pin_Off := by kernel_rfl

abbrev n_hydrantref19_Off : Nat := 29
/-- hydrant/hydrantref19.Off -/
def f_hydrantref19_Off : FnI := ⟨24, [.cell 4 8 true, .cell 5 23 true],
 (.seq (.reg [⟨some 2, .box 34 (.t 0), none⟩, ⟨some 3, .box 59 (.t 1), none⟩, ⟨some 4, .alloc 34 [(.v (.int .i64 (0))), (.v (.int .i64 (0))), (.v (.int .i64 (0))), (.v (.slice none 0 0)), (.v (.slice none 0 0)), (.v (.slice none 0 0)), (.v (.slice none 0 0)), (.v (.slice none 0 0))], none⟩, ⟨some 5, .alloc 61 [(.v (.int .i64 (0))), (.v (.int .i64 (0))), (.v (.int .i64 (0))), (.v (.int .i64 (0))), (.v (.int .i64 (0))), (.v (.bool false)), (.v (.int .i64 (0))), (.v (.bool false)), (.v (.bool false)), (.v (.bool false)), (.v (.int .i64 (0))), (.v (.int .i64 (0))), (.v (.int .i64 (0))), (.v (.int .i64 (0))), (.v (.int .i64 (0))), (.v (.int .i64 (0))), (.v (.int .i64 (0))), (.v (.int .u64 (0))), (.v (.int .u64 (0))), (.v (.int .u64 (0))), (.v (.int .u64 (0))), (.v (.int .u64 (0))), (.v (.int .u64 (0)))], none⟩])
 (.seq (.seq (.reg [⟨some 7, .load true 8 (.t 2), none⟩, ⟨some 8, .load true 44 (.t 3), none⟩, ⟨some 9, .call 27 [(.t 7), (.t 8)], none⟩, ⟨some 10, .not (.t 9), none⟩])
 (.cond (.t 10)
 (.seq (.reg [⟨some 11, .load true 8 (.t 2), none⟩, ⟨some 12, .build [(.v (.int .i64 (0))), (.v (.int .i64 (0))), (.v (.int .i64 (0))), (.v (.int .i64 (0))), (.v (.int .i64 (0))), (.v (.bool false)), (.v (.int .i64 (0))), (.v (.bool false)), (.v (.bool false)), (.v (.bool false)), (.v (.int .i64 (0))), (.v (.int .i64 (0))), (.v (.int .i64 (0))), (.v (.int .i64 (0))), (.v (.int .i64 (0))), (.v (.int .i64 (0))), (.v (.int .i64 (0))), (.v (.int .u64 (0))), (.v (.int .u64 (0))), (.v (.int .u64 (0))), (.v (.int .u64 (0))), (.v (.int .u64 (0))), (.v (.int .u64 (0)))] [], none⟩, ⟨none, .store 8 (.t 4) (.t 11), none⟩, ⟨none, .store 23 (.t 5) (.t 12), none⟩])
 .ret)
 .skip))
 (.seq (.reg [⟨some 13, .load true 8 (.t 2), none⟩, ⟨some 14, .call 57 [(.t 13)], none⟩, ⟨some 6, .alloc 34 [(.v (.int .i64 (0))), (.v (.int .i64 (0))), (.v (.int .i64 (0))), (.v (.slice none 0 0)), (.v (.slice none 0 0)), (.v (.slice none 0 0)), (.v (.slice none 0 0)), (.v (.slice none 0 0))], none⟩, ⟨none, .store 8 (.t 6) (.t 14), none⟩])
 (.seq (.reg [⟨some 15, .fadr 3 (.t 6), none⟩, ⟨some 16, .load false 1 (.t 15), none⟩, ⟨some 17, .fadr 10 (.t 3), none⟩, ⟨some 18, .load false 1 (.t 17), none⟩, ⟨some 19, .iadr 1 (.t 16) (.t 18), none⟩, ⟨none, .store 1 (.t 19) (.c (.int .i64 (0))), none⟩])
 (.seq (.regD [] (.op ⟨0, true, [], ⟨some 20, .load true 8 (.t 6), none⟩⟩
 (.op ⟨1, false, [], ⟨some 21, .fadr 10 (.t 3), none⟩⟩
 (.op ⟨2, true, [], ⟨some 22, .load false 1 (.t 21), none⟩⟩
 (.op ⟨3, false, [], ⟨some 23, .build [(.v (.int .i64 (0))), (.v (.int .i64 (0))), (.v (.int .i64 (0))), (.v (.int .i64 (0))), (.v (.int .i64 (0))), (.v (.bool false)), (.v (.int .i64 (0))), (.v (.bool false)), (.v (.bool false)), (.v (.bool false)), (.v (.int .i64 (0))), (.v (.int .i64 (0))), (.v (.int .i64 (0))), (.v (.int .i64 (0))), (.v (.int .i64 (0))), (.v (.int .i64 (0))), (.v (.int .i64 (0))), (.v (.int .u64 (0))), (.v (.int .u64 (0))), (.v (.int .u64 (0))), (.v (.int .u64 (0))), (.v (.int .u64 (0))), (.v (.int .u64 (0)))] [(0, 1, (.t 22)), (2, 1, (.c (.int .i64 (2)))), (3, 1, (.c (.int .i64 (2)))), (4, 1, (.c (.int .i64 (-1))))], none⟩⟩
 (.op ⟨4, false, [2], ⟨none, .store 8 (.t 4) (.t 20), none⟩⟩
 (.op ⟨5, false, [], ⟨none, .store 23 (.t 5) (.t 23), none⟩⟩
 .nil)))))))
 .ret)))))⟩
theorem t_hydrantref19_Off : trFn Tryz.prog 29 [([], (.first 0 (.first 1 (.first 2 (.first 3 (.exec 4 (.exec 5 .nil)))))))] [] = some f_hydrantref19_Off := by kernel_rfl

abbrev n_hydrantref06_Big : Nat := 30
/-- hydrant/hydrantref06.Big -/
def f_hydrantref06_Big : FnI := ⟨34, [.tmp 2],
 (.seq (.reg [⟨some 2, .mov (.b false), none⟩])
 (.seq (.seq (.reg [⟨some 3, .mov (.c (.int .i64 (0))), none⟩])
 (.block 0
 (.loop [3] [4, 5, 6, 7, 8, 9, 10, 11, 12, 15, 16, 17, 18, 19, 20, 21, 22, 23, 24, 25, 26, 27, 28, 29, 30, 2, 13, 14, 3]
 (.seq (.seq (.reg [⟨some 4, .mov (.t 3), none⟩, ⟨some 5, .mov (.t 0), none⟩, ⟨some 6, .len false (.t 5), none⟩, ⟨some 7, .bini .lss (.t 4) (.t 6), none⟩, ⟨some 8, .mov (.t 7), none⟩, ⟨some 9, .mov (.t 0), some (8, true)⟩, ⟨some 10, .len false (.t 9), some (8, true)⟩, ⟨some 11, .bini .leq (.t 10) (.c (.int .i64 (50))), some (8, true)⟩, ⟨some 12, .pick (.t 8) (.t 11) (.b false), none⟩])
 (.cond (.t 12)
 .skip
 (.exit 0)))
 (.seq (.block 1
 (.seq (.reg [⟨some 15, .mov (.t 0), none⟩, ⟨some 16, .mov (.t 3), none⟩, ⟨some 17, .iadr 4 (.t 15) (.t 16), none⟩, ⟨some 18, .fadr 1 (.t 17), none⟩, ⟨some 19, .load false 1 (.t 18), none⟩, ⟨some 20, .len true (.t 19), none⟩, ⟨some 21, .bini .gtr (.t 20) (.c (.int .i64 (100))), none⟩, ⟨some 22, .mov (.t 21), none⟩, ⟨some 23, .mov (.t 0), some (22, false)⟩, ⟨some 24, .mov (.t 3), some (22, false)⟩, ⟨some 25, .iadr 4 (.t 23) (.t 24), some (22, false)⟩, ⟨some 26, .fadr 2 (.t 25), some (22, false)⟩, ⟨some 27, .load false 1 (.t 26), some (22, false)⟩, ⟨some 28, .len true (.t 27), some (22, false)⟩, ⟨some 29, .bini .gtr (.t 28) (.c (.int .i64 (100))), some (22, false)⟩, ⟨some 30, .pick (.t 22) (.b true) (.t 29), none⟩])
 (.cond (.t 30)
 (.seq (.reg [⟨some 2, .mov (.b true), none⟩])
 .ret)
 .skip)))
 (.reg [⟨some 13, .mov (.t 3), none⟩, ⟨some 14, .bini .add (.t 13) (.c (.int .i64 (1))), none⟩, ⟨some 3, .mov (.t 14), none⟩]))))))
 (.seq (.reg [⟨some 31, .mov (.t 0), none⟩, ⟨some 32, .len false (.t 31), none⟩, ⟨some 33, .bini .gtr (.t 32) (.c (.int .i64 (50))), none⟩, ⟨some 2, .mov (.t 33), none⟩])
 .ret)))⟩
theorem t_hydrantref06_Big : trFn Tryz.prog 30 [] [[3]] = some f_hydrantref06_Big := by kernel_rfl

abbrev n_shard_New : Nat := 31
/-- hydrant/shard.New -/
def f_shard_New : FnI := ⟨25, [.tmp 2, .tmp 3],
 (.seq (.reg [⟨some 2, .mov (.c (.slice none 0 0)), none⟩, ⟨some 3, .mov (.c (.int .i64 (0))), none⟩])
 (.seq (.seq (.reg [⟨some 6, .mov (.t 0), none⟩, ⟨some 7, .bini .lss (.t 6) (.c (.int .i64 (1))), none⟩, ⟨some 8, .mov (.t 7), none⟩, ⟨some 9, .mov (.t 0), some (8, false)⟩, ⟨some 10, .bini .gtr (.t 9) (.c (.int .i64 (8))), some (8, false)⟩, ⟨some 11, .pick (.t 8) (.b true) (.t 10), none⟩])
 (.cond (.t 11)
 (.seq (.reg [⟨some 2, .mov (.c (.slice none 0 0)), none⟩, ⟨some 3, .mov (.c (.int .i64 (1))), none⟩])
 .ret)
 .skip))
 (.seq (.reg [⟨some 12, .mov (.t 0), none⟩, ⟨some 13, .msl 106 1 24 [(.slice none 0 0)] (.t 12) (.t 12), none⟩, ⟨some 4, .mov (.t 13), none⟩])
 (.seq (.seq (.reg [⟨some 14, .mov (.t 4), none⟩, ⟨some 15, .len false (.t 14), none⟩, ⟨some 16, .mov (.c (.int .i64 (0))), none⟩])
 (.block 0
 (.loop [16] [17, 18, 5, 19, 20, 21, 22, 23, 16]
 (.seq (.reg [⟨some 17, .bini .lss (.t 16) (.t 15), none⟩])
 (.seq (.cond (.t 17)
 .skip
 (.exit 0))
 (.seq (.block 1
 (.seq (.reg [⟨some 18, .mov (.t 16), none⟩, ⟨some 5, .mov (.t 18), none⟩])
 (.reg [⟨some 19, .mov (.t 4), none⟩, ⟨some 20, .mov (.t 5), none⟩, ⟨some 21, .msl 54 1 8 [(.int .u64 (0))] (.c (.int .i64 (6))) (.c (.int .i64 (6))), none⟩, ⟨some 22, .iadr 1 (.t 19) (.t 20), none⟩, ⟨none, .store 1 (.t 22) (.t 21), none⟩])))
 (.reg [⟨some 23, .bini .add (.t 16) (.c (.int .i64 (1))), none⟩, ⟨some 16, .mov (.t 23), none⟩])))))))
 (.seq (.reg [⟨some 24, .mov (.t 4), none⟩, ⟨some 2, .mov (.t 24), none⟩, ⟨some 3, .mov (.c (.int .i64 (0))), none⟩])
 .ret)))))⟩
theorem t_shard_New : trFn Tryz.prog 31 [] [[16]] = some f_shard_New := by kernel_rfl

abbrev n_names_Name : Nat := 32
/-- hydrant/names.Name -/
def f_names_Name : FnI := ⟨21, [.tmp 2],
 (.seq (.reg [⟨some 2, .mov (.b false), none⟩])
 (.seq (.reg [⟨some 3, .mov (.t 0), none⟩, ⟨some 4, .len true (.t 3), none⟩, ⟨some 5, .bini .gtr (.t 4) (.c (.int .i64 (0))), none⟩, ⟨some 6, .mov (.t 5), none⟩, ⟨some 7, .mov (.t 0), some (6, true)⟩, ⟨some 8, .len true (.t 7), some (6, true)⟩, ⟨some 9, .bini .leq (.t 8) (.c (.int .i64 (16))), some (6, true)⟩, ⟨some 10, .pick (.t 6) (.t 9) (.b false), none⟩, ⟨some 11, .mov (.t 10), none⟩, ⟨some 12, .mov (.t 0), some (11, true)⟩, ⟨some 13, .idxs (.t 12) (.c (.int .i64 (0))), some (11, true)⟩, ⟨some 14, .call 67 [(.t 13)], some (11, true)⟩, ⟨some 15, .pick (.t 11) (.t 14) (.b false), none⟩, ⟨some 16, .mov (.t 15), none⟩, ⟨some 17, .call 68 [], some (16, true)⟩, ⟨some 18, .mov (.t 0), some (16, true)⟩, ⟨some 19, .call 69 [(.t 17), (.t 18), (.c (.int .u8 (45)))], some (16, true)⟩, ⟨some 20, .pick (.t 16) (.t 19) (.b false), none⟩, ⟨some 2, .mov (.t 20), none⟩])
 .ret))⟩
theorem t_names_Name : trFn Tryz.prog 32 [] [] = some f_names_Name := by kernel_rfl

abbrev n_gates_Place : Nat := 33
/-- hydrant/gates.Place -/
def f_gates_Place : FnI := ⟨8, [.tmp 4],
 (.seq (.reg [⟨some 3, .box 9 (.t 1), none⟩, ⟨some 4, .mov (.c (.int .i64 (0))), none⟩])
 (.seq (.reg [⟨some 5, .mov (.t 0), none⟩, ⟨some 6, .mkf (.func 71) [] [(.t 3)], none⟩, ⟨some 7, .call 70 [(.t 5), (.t 6)], none⟩, ⟨some 4, .mov (.t 7), none⟩])
 .ret))⟩
theorem t_gates_Place : trFn Tryz.prog 33 [] [] = some f_gates_Place := by kernel_rfl

abbrev n_hydrantref03_Name : Nat := 34
/-- hydrant/hydrantref03.Name -/
def f_hydrantref03_Name : FnI := ⟨29, [.tmp 2],
 (.seq (.reg [⟨some 2, .mov (.b false), none⟩])
 (.seq (.seq (.reg [⟨some 4, .mov (.t 0), none⟩, ⟨some 5, .len true (.t 4), none⟩, ⟨some 6, .bini .lss (.t 5) (.c (.int .i64 (1))), none⟩, ⟨some 7, .mov (.t 6), none⟩, ⟨some 8, .mov (.t 0), some (7, false)⟩, ⟨some 9, .len true (.t 8), some (7, false)⟩, ⟨some 10, .bini .gtr (.t 9) (.c (.int .i64 (16))), some (7, false)⟩, ⟨some 11, .pick (.t 7) (.b true) (.t 10), none⟩, ⟨some 12, .mov (.t 11), none⟩, ⟨some 13, .mov (.t 0), some (12, false)⟩, ⟨some 14, .idxs (.t 13) (.c (.int .i64 (0))), some (12, false)⟩, ⟨some 15, .call 72 [(.t 14)], some (12, false)⟩, ⟨some 16, .not (.t 15), some (12, false)⟩, ⟨some 17, .pick (.t 12) (.b true) (.t 16), none⟩])
 (.cond (.t 17)
 (.seq (.reg [⟨some 2, .mov (.b false), none⟩])
 .ret)
 .skip))
 (.seq (.seq (.reg [⟨some 3, .mov (.c (.int .i64 (0))), none⟩])
 (.block 0
 (.loop [3] [18, 19, 20, 21, 24, 25, 26, 27, 28, 2, 22, 23, 3]
 (.seq (.seq (.reg [⟨some 18, .mov (.t 3), none⟩, ⟨some 19, .mov (.t 0), none⟩, ⟨some 20, .len true (.t 19), none⟩, ⟨some 21, .bini .lss (.t 18) (.t 20), none⟩])
 (.cond (.t 21)
 .skip
 (.exit 0)))
 (.seq (.block 1
 (.seq (.reg [⟨some 24, .mov (.t 0), none⟩, ⟨some 25, .mov (.t 3), none⟩, ⟨some 26, .idxs (.t 24) (.t 25), none⟩, ⟨some 27, .call 73 [(.t 26)], none⟩, ⟨some 28, .not (.t 27), none⟩])
 (.cond (.t 28)
 (.seq (.reg [⟨some 2, .mov (.b false), none⟩])
 .ret)
 .skip)))
 (.reg [⟨some 22, .mov (.t 3), none⟩, ⟨some 23, .bini .add (.t 22) (.c (.int .i64 (1))), none⟩, ⟨some 3, .mov (.t 23), none⟩]))))))
 (.seq (.reg [⟨some 2, .mov (.b true), none⟩])
 .ret))))⟩
theorem t_hydrantref03_Name : trFn Tryz.prog 34 [] [[3]] = some f_hydrantref03_Name := by kernel_rfl

abbrev n_hydrantref17_Place : Nat := 35
/-- hydrant/hydrantref17.Place -/
def f_hydrantref17_Place : FnI := ⟨20, [.tmp 4],
 (.seq (.reg [⟨some 4, .mov (.c (.int .i64 (0))), none⟩])
 (.seq (.seq (.reg [⟨some 5, .mov (.c (.int .i64 (0))), none⟩])
 (.block 0
 (.loop [5] [6, 7, 8, 9, 12, 13, 14, 15, 16, 17, 18, 19, 4, 10, 11, 5]
 (.seq (.seq (.reg [⟨some 6, .mov (.t 5), none⟩, ⟨some 7, .mov (.t 0), none⟩, ⟨some 8, .len false (.t 7), none⟩, ⟨some 9, .bini .lss (.t 6) (.t 8), none⟩])
 (.cond (.t 9)
 .skip
 (.exit 0)))
 (.seq (.block 1
 (.seq (.reg [⟨some 12, .mov (.t 0), none⟩, ⟨some 13, .mov (.t 5), none⟩, ⟨some 14, .iadr 4 (.t 12) (.t 13), none⟩, ⟨some 15, .fadr 0 (.t 14), none⟩, ⟨some 16, .load false 1 (.t 15), none⟩, ⟨some 17, .mov (.t 1), none⟩, ⟨some 18, .bins .eql (.t 16) (.t 17), none⟩])
 (.cond (.t 18)
 (.seq (.reg [⟨some 19, .mov (.t 5), none⟩, ⟨some 4, .mov (.t 19), none⟩])
 .ret)
 .skip)))
 (.reg [⟨some 10, .mov (.t 5), none⟩, ⟨some 11, .bini .add (.t 10) (.c (.int .i64 (1))), none⟩, ⟨some 5, .mov (.t 11), none⟩]))))))
 (.seq (.reg [⟨some 4, .mov (.c (.int .i64 (-1))), none⟩])
 .ret)))⟩
theorem t_hydrantref17_Place : trFn Tryz.prog 35 [] [[5]] = some f_hydrantref17_Place := by kernel_rfl

abbrev n_slots_Fresh : Nat := 37
/-- hydrant/slots.Fresh -/
def f_slots_Fresh : FnI := ⟨40, [.cell 2 3 true, .tmp 3],
 (.seq (.reg [⟨some 2, .alloc 82 [(.v (.int .u64 (0))), (.v (.slice none 0 0)), (.v (.int .i64 (0)))], none⟩, ⟨some 3, .mov (.c (.int .i64 (0))), none⟩])
 (.seq (.seq (.reg [⟨some 6, .mov (.t 0), none⟩, ⟨some 7, .bini .lss (.t 6) (.c (.int .i64 (1))), none⟩, ⟨some 8, .mov (.t 7), none⟩, ⟨some 9, .mov (.t 0), some (8, false)⟩, ⟨some 10, .bini .gtr (.t 9) (.c (.int .i64 (4))), some (8, false)⟩, ⟨some 11, .pick (.t 8) (.b true) (.t 10), none⟩])
 (.cond (.t 11)
 (.seq (.reg [⟨some 12, .build [(.v (.int .u64 (0))), (.v (.slice none 0 0)), (.v (.int .i64 (0)))] [], none⟩, ⟨none, .store 3 (.t 2) (.t 12), none⟩, ⟨some 3, .mov (.c (.int .i64 (1))), none⟩])
 .ret)
 .skip))
 (.seq (.reg [⟨some 13, .mov (.t 0), none⟩, ⟨some 14, .msl 3 1 8 [(.int .i64 (0))] (.t 13) (.t 13), none⟩, ⟨some 15, .build [(.v (.int .u64 (0))), (.v (.slice none 0 0)), (.v (.int .i64 (0)))] [(1, 1, (.t 14))], none⟩, ⟨some 4, .alloc 82 [(.v (.int .u64 (0))), (.v (.slice none 0 0)), (.v (.int .i64 (0)))], none⟩, ⟨none, .store 3 (.t 4) (.t 15), none⟩])
 (.seq (.seq (.reg [⟨some 16, .fadr 1 (.t 4), none⟩, ⟨some 17, .load false 1 (.t 16), none⟩, ⟨some 18, .len false (.t 17), none⟩, ⟨some 19, .mov (.c (.int .i64 (0))), none⟩])
 (.block 0
 (.loop [19] [20, 21, 5, 22, 23, 24, 25, 26, 27, 28, 19]
 (.seq (.reg [⟨some 20, .bini .lss (.t 19) (.t 18), none⟩])
 (.seq (.cond (.t 20)
 .skip
 (.exit 0))
 (.seq (.block 1
 (.seq (.reg [⟨some 21, .mov (.t 19), none⟩, ⟨some 5, .mov (.t 21), none⟩])
 (.reg [⟨some 22, .fadr 1 (.t 4), none⟩, ⟨some 23, .load false 1 (.t 22), none⟩, ⟨some 24, .mov (.t 5), none⟩, ⟨some 25, .mov (.t 5), none⟩, ⟨some 26, .bini .add (.t 25) (.c (.int .i64 (1))), none⟩, ⟨some 27, .iadr 1 (.t 23) (.t 24), none⟩, ⟨none, .store 1 (.t 27) (.t 26), none⟩])))
 (.reg [⟨some 28, .bini .add (.t 19) (.c (.int .i64 (1))), none⟩, ⟨some 19, .mov (.t 28), none⟩])))))))
 (.seq (.reg [⟨some 29, .fadr 1 (.t 4), none⟩, ⟨some 30, .load false 1 (.t 29), none⟩, ⟨some 31, .mov (.t 0), none⟩, ⟨some 32, .bini .sub (.t 31) (.c (.int .i64 (1))), none⟩, ⟨some 33, .iadr 1 (.t 30) (.t 32), none⟩, ⟨none, .store 1 (.t 33) (.c (.int .i64 (-1))), none⟩])
 (.seq (.reg [⟨some 35, .call 74 [(.c (.int .u32 (0))), (.c (.int .i64 (0)))], none⟩, ⟨some 34, .mov (.t 35), none⟩, ⟨some 36, .ext 0 (.t 34), none⟩, ⟨some 37, .ext 1 (.t 34), none⟩, ⟨some 38, .fadr 0 (.t 4), none⟩, ⟨none, .store 1 (.t 38) (.t 36), none⟩])
 (.seq (.reg [⟨some 39, .load true 3 (.t 4), none⟩, ⟨none, .store 3 (.t 2) (.t 39), none⟩, ⟨some 3, .mov (.c (.int .i64 (0))), none⟩])
 .ret)))))))⟩
theorem t_slots_Fresh : trFn Tryz.prog 37 [] [[19]] = some f_slots_Fresh := by kernel_rfl

abbrev n_hydrantref07_Is : Nat := 38
/-- hydrant/hydrantref07.Is -/
def f_hydrantref07_Is : FnI := ⟨13, [.tmp 2],
 (.seq (.reg [⟨some 1, .box 26 (.t 0), none⟩, ⟨some 2, .mov (.b false), none⟩])
 (.seq (.reg [⟨some 6, .load true 3 (.t 1), none⟩, ⟨some 7, .call 76 [(.t 6)], none⟩, ⟨some 8, .call 75 [(.t 7)], none⟩, ⟨some 5, .mov (.t 8), none⟩, ⟨some 9, .ext 0 (.t 5), none⟩, ⟨some 10, .ext 1 (.t 5), none⟩, ⟨some 3, .mov (.t 9), none⟩, ⟨some 4, .mov (.t 10), none⟩])
 (.seq (.reg [⟨some 11, .mov (.t 3), none⟩, ⟨some 12, .bini .eql (.t 11) (.c (.int .i64 (0))), none⟩, ⟨some 2, .mov (.t 12), none⟩])
 .ret)))⟩
theorem t_hydrantref07_Is : trFn Tryz.prog 38 [] [] = some f_hydrantref07_Is := by kernel_rfl

abbrev n_world_Clone : Nat := 41
/-- hydrant/world.Clone -/
def f_world_Clone : FnI := ⟨28, [.cell 2 8 true],
 (.seq (.reg [⟨some 1, .box 34 (.t 0), none⟩, ⟨some 2, .alloc 34 [(.v (.int .i64 (0))), (.v (.int .i64 (0))), (.v (.int .i64 (0))), (.v (.slice none 0 0)), (.v (.slice none 0 0)), (.v (.slice none 0 0)), (.v (.slice none 0 0)), (.v (.slice none 0 0))], none⟩])
 (.seq (.reg [⟨some 4, .build [] [], none⟩, ⟨some 3, .alloc 133 [], none⟩, ⟨none, .store 0 (.t 3) (.t 4), none⟩])
 (.seq (.reg [⟨some 5, .fadr 3 (.t 1), none⟩, ⟨some 6, .load false 1 (.t 5), none⟩, ⟨some 7, .call 77 [(.t 6)], none⟩, ⟨some 8, .fadr 3 (.t 1), none⟩, ⟨none, .store 1 (.t 8) (.t 7), none⟩])
 (.seq (.reg [⟨some 9, .fadr 4 (.t 1), none⟩, ⟨some 10, .load false 1 (.t 9), none⟩, ⟨some 11, .load true 0 (.t 3), none⟩, ⟨some 12, .call 78 [(.t 10), (.c (.func (.func 79) #[] #[])), (.t 11)], none⟩, ⟨some 13, .fadr 4 (.t 1), none⟩, ⟨none, .store 1 (.t 13) (.t 12), none⟩])
 (.seq (.reg [⟨some 14, .fadr 5 (.t 1), none⟩, ⟨some 15, .load false 1 (.t 14), none⟩, ⟨some 16, .call 80 [(.t 15)], none⟩, ⟨some 17, .fadr 5 (.t 1), none⟩, ⟨none, .store 1 (.t 17) (.t 16), none⟩])
 (.seq (.reg [⟨some 18, .fadr 6 (.t 1), none⟩, ⟨some 19, .load false 1 (.t 18), none⟩, ⟨some 20, .load true 0 (.t 3), none⟩, ⟨some 21, .call 81 [(.t 19), (.c (.func (.func 82) #[] #[])), (.t 20)], none⟩, ⟨some 22, .fadr 6 (.t 1), none⟩, ⟨none, .store 1 (.t 22) (.t 21), none⟩])
 (.seq (.reg [⟨some 23, .fadr 7 (.t 1), none⟩, ⟨some 24, .load false 1 (.t 23), none⟩, ⟨some 25, .call 83 [(.t 24)], none⟩, ⟨some 26, .fadr 7 (.t 1), none⟩, ⟨none, .store 1 (.t 26) (.t 25), none⟩])
 (.seq (.reg [⟨some 27, .load true 8 (.t 1), none⟩, ⟨none, .store 8 (.t 2) (.t 27), none⟩])
 .ret))))))))⟩
theorem t_world_Clone : trFn Tryz.prog 41 [] [] = some f_world_Clone := by kernel_rfl

abbrev n_hydrantref18_sameInts : Nat := 42
/-- hydrant/hydrantref18.sameInts -/
def f_hydrantref18_sameInts : FnI := ⟨26, [.tmp 4],
 (.seq (.reg [⟨some 4, .mov (.b false), none⟩])
 (.seq (.seq (.reg [⟨some 6, .mov (.t 0), none⟩, ⟨some 7, .len false (.t 6), none⟩, ⟨some 8, .mov (.t 1), none⟩, ⟨some 9, .len false (.t 8), none⟩, ⟨some 10, .bini .neq (.t 7) (.t 9), none⟩])
 (.cond (.t 10)
 (.seq (.reg [⟨some 4, .mov (.b false), none⟩])
 .ret)
 .skip))
 (.seq (.seq (.reg [⟨some 5, .mov (.c (.int .i64 (0))), none⟩])
 (.block 0
 (.loop [5] [11, 12, 13, 14, 17, 18, 19, 20, 21, 22, 23, 24, 25, 4, 15, 16, 5]
 (.seq (.seq (.reg [⟨some 11, .mov (.t 5), none⟩, ⟨some 12, .mov (.t 0), none⟩, ⟨some 13, .len false (.t 12), none⟩, ⟨some 14, .bini .lss (.t 11) (.t 13), none⟩])
 (.cond (.t 14)
 .skip
 (.exit 0)))
 (.seq (.block 1
 (.seq (.regD [] (.op ⟨0, false, [], ⟨some 17, .mov (.t 0), none⟩⟩
 (.op ⟨1, false, [], ⟨some 18, .mov (.t 5), none⟩⟩
 (.op ⟨2, true, [], ⟨some 19, .iadr 1 (.t 17) (.t 18), none⟩⟩
 (.op ⟨3, true, [], ⟨some 20, .load false 1 (.t 19), none⟩⟩
 (.op ⟨4, false, [], ⟨some 21, .mov (.t 1), none⟩⟩
 (.op ⟨5, false, [], ⟨some 22, .mov (.t 5), none⟩⟩
 (.op ⟨6, true, [], ⟨some 23, .iadr 1 (.t 21) (.t 22), none⟩⟩
 (.op ⟨7, true, [], ⟨some 24, .load false 1 (.t 23), none⟩⟩
 (.op ⟨8, false, [], ⟨some 25, .bini .neq (.t 20) (.t 24), none⟩⟩
 .nil))))))))))
 (.cond (.t 25)
 (.seq (.reg [⟨some 4, .mov (.b false), none⟩])
 .ret)
 .skip)))
 (.reg [⟨some 15, .mov (.t 5), none⟩, ⟨some 16, .bini .add (.t 15) (.c (.int .i64 (1))), none⟩, ⟨some 5, .mov (.t 16), none⟩]))))))
 (.seq (.reg [⟨some 4, .mov (.b true), none⟩])
 .ret))))⟩
theorem t_hydrantref18_sameInts : trFn Tryz.prog 42 [([], (.first 0 (.first 1 (.first 2 (.first 3 (.first 4 (.first 5 (.first 6 (.first 7 (.first 8 .nil))))))))))] [[5]] = some f_hydrantref18_sameInts := by kernel_rfl

abbrev n_hydrantref11_Same : Nat := 43
/-- hydrant/hydrantref11.Same -/
def f_hydrantref11_Same : FnI := ⟨53, [.tmp 4],
 (.seq (.reg [⟨some 4, .mov (.b false), none⟩])
 (.seq (.seq (.reg [⟨some 7, .mov (.t 0), none⟩, ⟨some 8, .len false (.t 7), none⟩, ⟨some 9, .mov (.t 1), none⟩, ⟨some 10, .len false (.t 9), none⟩, ⟨some 11, .bini .neq (.t 8) (.t 10), none⟩])
 (.cond (.t 11)
 (.seq (.reg [⟨some 4, .mov (.b false), none⟩])
 .ret)
 .skip))
 (.seq (.seq (.reg [⟨some 5, .mov (.c (.int .i64 (0))), none⟩])
 (.block 0
 (.loop [5] [12, 13, 14, 15, 18, 19, 20, 21, 22, 23, 24, 25, 26, 27, 28, 4, 6, 29, 30, 31, 32, 33, 34, 35, 38, 39, 40, 41, 42, 43, 44, 45, 46, 47, 48, 49, 50, 51, 52, 36, 37, 16, 17, 5]
 (.seq (.seq (.reg [⟨some 12, .mov (.t 5), none⟩, ⟨some 13, .mov (.t 0), none⟩, ⟨some 14, .len false (.t 13), none⟩, ⟨some 15, .bini .lss (.t 12) (.t 14), none⟩])
 (.cond (.t 15)
 .skip
 (.exit 0)))
 (.seq (.block 1
 (.seq (.seq (.regD [] (.op ⟨0, false, [], ⟨some 18, .mov (.t 0), none⟩⟩
 (.op ⟨1, false, [], ⟨some 19, .mov (.t 5), none⟩⟩
 (.op ⟨2, true, [], ⟨some 20, .iadr 1 (.t 18) (.t 19), none⟩⟩
 (.op ⟨3, true, [], ⟨some 21, .load false 1 (.t 20), none⟩⟩
 (.op ⟨4, false, [], ⟨some 22, .len false (.t 21), none⟩⟩
 (.op ⟨5, false, [], ⟨some 23, .mov (.t 1), none⟩⟩
 (.op ⟨6, false, [], ⟨some 24, .mov (.t 5), none⟩⟩
 (.op ⟨7, true, [], ⟨some 25, .iadr 1 (.t 23) (.t 24), none⟩⟩
 (.op ⟨8, true, [], ⟨some 26, .load false 1 (.t 25), none⟩⟩
 (.op ⟨9, false, [], ⟨some 27, .len false (.t 26), none⟩⟩
 (.op ⟨10, false, [], ⟨some 28, .bini .neq (.t 22) (.t 27), none⟩⟩
 .nil))))))))))))
 (.cond (.t 28)
 (.seq (.reg [⟨some 4, .mov (.b false), none⟩])
 .ret)
 .skip))
 (.seq (.reg [⟨some 6, .mov (.c (.int .i64 (0))), none⟩])
 (.block 2
 (.loop [6] [29, 30, 31, 32, 33, 34, 35, 38, 39, 40, 41, 42, 43, 44, 45, 46, 47, 48, 49, 50, 51, 52, 4, 36, 37, 6]
 (.seq (.seq (.reg [⟨some 29, .mov (.t 6), none⟩, ⟨some 30, .mov (.t 0), none⟩, ⟨some 31, .mov (.t 5), none⟩, ⟨some 32, .iadr 1 (.t 30) (.t 31), none⟩, ⟨some 33, .load false 1 (.t 32), none⟩, ⟨some 34, .len false (.t 33), none⟩, ⟨some 35, .bini .lss (.t 29) (.t 34), none⟩])
 (.cond (.t 35)
 .skip
 (.exit 2)))
 (.seq (.block 3
 (.seq (.regD [] (.op ⟨0, false, [], ⟨some 38, .mov (.t 0), none⟩⟩
 (.op ⟨1, false, [], ⟨some 39, .mov (.t 5), none⟩⟩
 (.op ⟨2, true, [], ⟨some 40, .iadr 1 (.t 38) (.t 39), none⟩⟩
 (.op ⟨3, true, [], ⟨some 41, .load false 1 (.t 40), none⟩⟩
 (.op ⟨4, false, [], ⟨some 42, .mov (.t 6), none⟩⟩
 (.op ⟨5, true, [], ⟨some 43, .iadr 1 (.t 41) (.t 42), none⟩⟩
 (.op ⟨6, true, [], ⟨some 44, .load false 1 (.t 43), none⟩⟩
 (.op ⟨7, false, [], ⟨some 45, .mov (.t 1), none⟩⟩
 (.op ⟨8, false, [], ⟨some 46, .mov (.t 5), none⟩⟩
 (.op ⟨9, true, [], ⟨some 47, .iadr 1 (.t 45) (.t 46), none⟩⟩
 (.op ⟨10, true, [], ⟨some 48, .load false 1 (.t 47), none⟩⟩
 (.op ⟨11, false, [], ⟨some 49, .mov (.t 6), none⟩⟩
 (.op ⟨12, true, [], ⟨some 50, .iadr 1 (.t 48) (.t 49), none⟩⟩
 (.op ⟨13, true, [], ⟨some 51, .load false 1 (.t 50), none⟩⟩
 (.op ⟨14, false, [], ⟨some 52, .bini .neq (.t 44) (.t 51), none⟩⟩
 .nil))))))))))))))))
 (.cond (.t 52)
 (.seq (.reg [⟨some 4, .mov (.b false), none⟩])
 .ret)
 .skip)))
 (.reg [⟨some 36, .mov (.t 6), none⟩, ⟨some 37, .bini .add (.t 36) (.c (.int .i64 (1))), none⟩, ⟨some 6, .mov (.t 37), none⟩]))))))))
 (.reg [⟨some 16, .mov (.t 5), none⟩, ⟨some 17, .bini .add (.t 16) (.c (.int .i64 (1))), none⟩, ⟨some 5, .mov (.t 17), none⟩]))))))
 (.seq (.reg [⟨some 4, .mov (.b true), none⟩])
 .ret))))⟩
theorem t_hydrantref11_Same : trFn Tryz.prog 43 [([], (.first 0 (.first 1 (.first 2 (.first 3 (.first 4 (.first 5 (.first 6 (.first 7 (.first 8 (.first 9 (.first 10 .nil)))))))))))), ([], (.first 0 (.first 1 (.first 2 (.first 3 (.first 4 (.first 5 (.first 6 (.first 7 (.first 8 (.first 9 (.first 10 (.first 11 (.first 12 (.first 13 (.first 14 .nil))))))))))))))))] [[5], [6]] = some f_hydrantref11_Same := by kernel_rfl

abbrev n_hydrantref16_Same : Nat := 44
/-- hydrant/hydrantref16.Same -/
def f_hydrantref16_Same : FnI := ⟨26, [.tmp 4],
 (.seq (.reg [⟨some 4, .mov (.b false), none⟩])
 (.seq (.seq (.reg [⟨some 6, .mov (.t 0), none⟩, ⟨some 7, .len false (.t 6), none⟩, ⟨some 8, .mov (.t 1), none⟩, ⟨some 9, .len false (.t 8), none⟩, ⟨some 10, .bini .neq (.t 7) (.t 9), none⟩])
 (.cond (.t 10)
 (.seq (.reg [⟨some 4, .mov (.b false), none⟩])
 .ret)
 .skip))
 (.seq (.seq (.reg [⟨some 5, .mov (.c (.int .i64 (0))), none⟩])
 (.block 0
 (.loop [5] [11, 12, 13, 14, 17, 18, 19, 20, 21, 22, 23, 24, 25, 4, 15, 16, 5]
 (.seq (.seq (.reg [⟨some 11, .mov (.t 5), none⟩, ⟨some 12, .mov (.t 0), none⟩, ⟨some 13, .len false (.t 12), none⟩, ⟨some 14, .bini .lss (.t 11) (.t 13), none⟩])
 (.cond (.t 14)
 .skip
 (.exit 0)))
 (.seq (.block 1
 (.seq (.regD [] (.op ⟨0, false, [], ⟨some 17, .mov (.t 0), none⟩⟩
 (.op ⟨1, false, [], ⟨some 18, .mov (.t 5), none⟩⟩
 (.op ⟨2, true, [], ⟨some 19, .iadr 3 (.t 17) (.t 18), none⟩⟩
 (.op ⟨3, true, [], ⟨some 20, .load true 3 (.t 19), none⟩⟩
 (.op ⟨4, false, [], ⟨some 21, .mov (.t 1), none⟩⟩
 (.op ⟨5, false, [], ⟨some 22, .mov (.t 5), none⟩⟩
 (.op ⟨6, true, [], ⟨some 23, .iadr 3 (.t 21) (.t 22), none⟩⟩
 (.op ⟨7, true, [], ⟨some 24, .load true 3 (.t 23), none⟩⟩
 (.op ⟨8, false, [], ⟨some 25, .binst true [0, 0, 2] (.t 20) (.t 24), none⟩⟩
 .nil))))))))))
 (.cond (.t 25)
 (.seq (.reg [⟨some 4, .mov (.b false), none⟩])
 .ret)
 .skip)))
 (.reg [⟨some 15, .mov (.t 5), none⟩, ⟨some 16, .bini .add (.t 15) (.c (.int .i64 (1))), none⟩, ⟨some 5, .mov (.t 16), none⟩]))))))
 (.seq (.reg [⟨some 4, .mov (.b true), none⟩])
 .ret))))⟩
theorem t_hydrantref16_Same : trFn Tryz.prog 44 [([], (.first 0 (.first 1 (.first 2 (.first 3 (.first 4 (.first 5 (.first 6 (.first 7 (.first 8 .nil))))))))))] [[5]] = some f_hydrantref16_Same := by kernel_rfl

abbrev n_hydrantref07_Same : Nat := 45
/-- hydrant/hydrantref07.Same -/
def f_hydrantref07_Same : FnI := ⟨47, [.tmp 4],
 (.seq (.reg [⟨some 2, .box 26 (.t 0), none⟩, ⟨some 3, .box 26 (.t 1), none⟩, ⟨some 4, .mov (.b false), none⟩])
 (.seq (.seq (.reg [⟨some 6, .fadr 0 (.t 2), none⟩, ⟨some 7, .load false 1 (.t 6), none⟩, ⟨some 8, .fadr 0 (.t 3), none⟩, ⟨some 9, .load false 1 (.t 8), none⟩, ⟨some 10, .call 84 [(.t 7), (.t 9)], none⟩, ⟨some 11, .not (.t 10), none⟩, ⟨some 12, .mov (.t 11), none⟩, ⟨some 13, .fadr 2 (.t 2), some (12, false)⟩, ⟨some 14, .load false 1 (.t 13), some (12, false)⟩, ⟨some 15, .fadr 2 (.t 3), some (12, false)⟩, ⟨some 16, .load false 1 (.t 15), some (12, false)⟩, ⟨some 17, .call 85 [(.t 14), (.t 16)], some (12, false)⟩, ⟨some 18, .not (.t 17), some (12, false)⟩, ⟨some 19, .pick (.t 12) (.b true) (.t 18), none⟩, ⟨some 20, .mov (.t 19), none⟩, ⟨some 21, .fadr 1 (.t 2), some (20, false)⟩, ⟨some 22, .load false 1 (.t 21), some (20, false)⟩, ⟨some 23, .len false (.t 22), some (20, false)⟩, ⟨some 24, .fadr 1 (.t 3), some (20, false)⟩, ⟨some 25, .load false 1 (.t 24), some (20, false)⟩, ⟨some 26, .len false (.t 25), some (20, false)⟩, ⟨some 27, .bini .neq (.t 23) (.t 26), some (20, false)⟩, ⟨some 28, .pick (.t 20) (.b true) (.t 27), none⟩])
 (.cond (.t 28)
 (.seq (.reg [⟨some 4, .mov (.b false), none⟩])
 .ret)
 .skip))
 (.seq (.seq (.reg [⟨some 5, .mov (.c (.int .i64 (0))), none⟩])
 (.block 0
 (.loop [5] [29, 30, 31, 32, 33, 36, 37, 38, 39, 40, 41, 42, 43, 44, 45, 46, 4, 34, 35, 5]
 (.seq (.seq (.reg [⟨some 29, .mov (.t 5), none⟩, ⟨some 30, .fadr 1 (.t 2), none⟩, ⟨some 31, .load false 1 (.t 30), none⟩, ⟨some 32, .len false (.t 31), none⟩, ⟨some 33, .bini .lss (.t 29) (.t 32), none⟩])
 (.cond (.t 33)
 .skip
 (.exit 0)))
 (.seq (.block 1
 (.seq (.regD [] (.op ⟨0, false, [], ⟨some 36, .fadr 1 (.t 2), none⟩⟩
 (.op ⟨1, true, [], ⟨some 37, .load false 1 (.t 36), none⟩⟩
 (.op ⟨2, false, [], ⟨some 38, .mov (.t 5), none⟩⟩
 (.op ⟨3, true, [], ⟨some 39, .iadr 4 (.t 37) (.t 38), none⟩⟩
 (.op ⟨4, true, [], ⟨some 40, .load true 4 (.t 39), none⟩⟩
 (.op ⟨5, false, [], ⟨some 41, .fadr 1 (.t 3), none⟩⟩
 (.op ⟨6, true, [], ⟨some 42, .load false 1 (.t 41), none⟩⟩
 (.op ⟨7, false, [], ⟨some 43, .mov (.t 5), none⟩⟩
 (.op ⟨8, true, [], ⟨some 44, .iadr 4 (.t 42) (.t 43), none⟩⟩
 (.op ⟨9, true, [], ⟨some 45, .load true 4 (.t 44), none⟩⟩
 (.op ⟨10, false, [], ⟨some 46, .binst true [0, 1, 1, 0] (.t 40) (.t 45), none⟩⟩
 .nil))))))))))))
 (.cond (.t 46)
 (.seq (.reg [⟨some 4, .mov (.b false), none⟩])
 .ret)
 .skip)))
 (.reg [⟨some 34, .mov (.t 5), none⟩, ⟨some 35, .bini .add (.t 34) (.c (.int .i64 (1))), none⟩, ⟨some 5, .mov (.t 35), none⟩]))))))
 (.seq (.reg [⟨some 4, .mov (.b true), none⟩])
 .ret))))⟩
theorem t_hydrantref07_Same : trFn Tryz.prog 45 [([], (.first 0 (.first 1 (.first 2 (.first 3 (.first 4 (.first 5 (.first 6 (.first 7 (.first 8 (.first 9 (.first 10 .nil))))))))))))] [[5]] = some f_hydrantref07_Same := by kernel_rfl

abbrev n_hydrantref14_Same : Nat := 46
/-- hydrant/hydrantref14.Same -/
def f_hydrantref14_Same : FnI := ⟨45, [.tmp 4],
 (.seq (.reg [⟨some 2, .box 82 (.t 0), none⟩, ⟨some 3, .box 82 (.t 1), none⟩, ⟨some 4, .mov (.b false), none⟩])
 (.seq (.seq (.reg [⟨some 6, .fadr 0 (.t 2), none⟩, ⟨some 7, .load false 1 (.t 6), none⟩, ⟨some 8, .fadr 0 (.t 3), none⟩, ⟨some 9, .load false 1 (.t 8), none⟩, ⟨some 10, .bini .neq (.t 7) (.t 9), none⟩, ⟨some 11, .mov (.t 10), none⟩, ⟨some 12, .fadr 2 (.t 2), some (11, false)⟩, ⟨some 13, .load false 1 (.t 12), some (11, false)⟩, ⟨some 14, .fadr 2 (.t 3), some (11, false)⟩, ⟨some 15, .load false 1 (.t 14), some (11, false)⟩, ⟨some 16, .bini .neq (.t 13) (.t 15), some (11, false)⟩, ⟨some 17, .pick (.t 11) (.b true) (.t 16), none⟩, ⟨some 18, .mov (.t 17), none⟩, ⟨some 19, .fadr 1 (.t 2), some (18, false)⟩, ⟨some 20, .load false 1 (.t 19), some (18, false)⟩, ⟨some 21, .len false (.t 20), some (18, false)⟩, ⟨some 22, .fadr 1 (.t 3), some (18, false)⟩, ⟨some 23, .load false 1 (.t 22), some (18, false)⟩, ⟨some 24, .len false (.t 23), some (18, false)⟩, ⟨some 25, .bini .neq (.t 21) (.t 24), some (18, false)⟩, ⟨some 26, .pick (.t 18) (.b true) (.t 25), none⟩])
 (.cond (.t 26)
 (.seq (.reg [⟨some 4, .mov (.b false), none⟩])
 .ret)
 .skip))
 (.seq (.seq (.reg [⟨some 5, .mov (.c (.int .i64 (0))), none⟩])
 (.block 0
 (.loop [5] [27, 28, 29, 30, 31, 34, 35, 36, 37, 38, 39, 40, 41, 42, 43, 44, 4, 32, 33, 5]
 (.seq (.seq (.reg [⟨some 27, .mov (.t 5), none⟩, ⟨some 28, .fadr 1 (.t 2), none⟩, ⟨some 29, .load false 1 (.t 28), none⟩, ⟨some 30, .len false (.t 29), none⟩, ⟨some 31, .bini .lss (.t 27) (.t 30), none⟩])
 (.cond (.t 31)
 .skip
 (.exit 0)))
 (.seq (.block 1
 (.seq (.regD [] (.op ⟨0, false, [], ⟨some 34, .fadr 1 (.t 2), none⟩⟩
 (.op ⟨1, true, [], ⟨some 35, .load false 1 (.t 34), none⟩⟩
 (.op ⟨2, false, [], ⟨some 36, .mov (.t 5), none⟩⟩
 (.op ⟨3, true, [], ⟨some 37, .iadr 1 (.t 35) (.t 36), none⟩⟩
 (.op ⟨4, true, [], ⟨some 38, .load false 1 (.t 37), none⟩⟩
 (.op ⟨5, false, [], ⟨some 39, .fadr 1 (.t 3), none⟩⟩
 (.op ⟨6, true, [], ⟨some 40, .load false 1 (.t 39), none⟩⟩
 (.op ⟨7, false, [], ⟨some 41, .mov (.t 5), none⟩⟩
 (.op ⟨8, true, [], ⟨some 42, .iadr 1 (.t 40) (.t 41), none⟩⟩
 (.op ⟨9, true, [], ⟨some 43, .load false 1 (.t 42), none⟩⟩
 (.op ⟨10, false, [], ⟨some 44, .bini .neq (.t 38) (.t 43), none⟩⟩
 .nil))))))))))))
 (.cond (.t 44)
 (.seq (.reg [⟨some 4, .mov (.b false), none⟩])
 .ret)
 .skip)))
 (.reg [⟨some 32, .mov (.t 5), none⟩, ⟨some 33, .bini .add (.t 32) (.c (.int .i64 (1))), none⟩, ⟨some 5, .mov (.t 33), none⟩]))))))
 (.seq (.reg [⟨some 4, .mov (.b true), none⟩])
 .ret))))⟩
theorem t_hydrantref14_Same : trFn Tryz.prog 46 [([], (.first 0 (.first 1 (.first 2 (.first 3 (.first 4 (.first 5 (.first 6 (.first 7 (.first 8 (.first 9 (.first 10 .nil))))))))))))] [[5]] = some f_hydrantref14_Same := by kernel_rfl

abbrev n_world_ground : Nat := 47
/-- hydrant/world.ground -/
def f_world_ground : FnI := ⟨51, [.tmp 2],
 (.seq (.reg [⟨some 1, .box 34 (.t 0), none⟩, ⟨some 2, .mov (.b false), none⟩])
 (.seq (.reg [⟨some 4, .fadr 3 (.t 1), none⟩, ⟨some 5, .load false 1 (.t 4), none⟩, ⟨some 6, .len false (.t 5), none⟩, ⟨some 3, .mov (.t 6), none⟩])
 (.seq (.seq (.reg [⟨some 7, .mov (.t 3), none⟩, ⟨some 8, .bini .lss (.t 7) (.c (.int .i64 (1))), none⟩, ⟨some 9, .mov (.t 8), none⟩, ⟨some 10, .mov (.t 3), some (9, false)⟩, ⟨some 11, .bini .gtr (.t 10) (.c (.int .i64 (8))), some (9, false)⟩, ⟨some 12, .pick (.t 9) (.b true) (.t 11), none⟩, ⟨some 13, .mov (.t 12), none⟩, ⟨some 14, .fadr 6 (.t 1), some (13, false)⟩, ⟨some 15, .load false 1 (.t 14), some (13, false)⟩, ⟨some 16, .len false (.t 15), some (13, false)⟩, ⟨some 17, .mov (.t 3), some (13, false)⟩, ⟨some 18, .bini .neq (.t 16) (.t 17), some (13, false)⟩, ⟨some 19, .pick (.t 13) (.b true) (.t 18), none⟩, ⟨some 20, .mov (.t 19), none⟩, ⟨some 21, .fadr 6 (.t 1), some (20, false)⟩, ⟨some 22, .load false 1 (.t 21), some (20, false)⟩, ⟨some 23, .call 86 [(.t 22)], some (20, false)⟩, ⟨some 24, .not (.t 23), some (20, false)⟩, ⟨some 25, .pick (.t 20) (.b true) (.t 24), none⟩, ⟨some 26, .mov (.t 25), none⟩, ⟨some 27, .fadr 0 (.t 1), some (26, false)⟩, ⟨some 28, .load false 1 (.t 27), some (26, false)⟩, ⟨some 29, .bini .lss (.t 28) (.c (.int .i64 (0))), some (26, false)⟩, ⟨some 30, .pick (.t 26) (.b true) (.t 29), none⟩, ⟨some 31, .mov (.t 30), none⟩, ⟨some 32, .fadr 0 (.t 1), some (31, false)⟩, ⟨some 33, .load false 1 (.t 32), some (31, false)⟩, ⟨some 34, .bini .gtr (.t 33) (.c (.int .i64 (1000000000000))), some (31, false)⟩, ⟨some 35, .pick (.t 31) (.b true) (.t 34), none⟩, ⟨some 36, .mov (.t 35), none⟩, ⟨some 37, .fadr 2 (.t 1), some (36, false)⟩, ⟨some 38, .load false 1 (.t 37), some (36, false)⟩, ⟨some 39, .bini .neq (.t 38) (.c (.int .i64 (0))), some (36, false)⟩, ⟨some 40, .mov (.t 39), some (36, false)⟩, ⟨some 41, .fadr 2 (.t 1), some (40, true)⟩, ⟨some 42, .load false 1 (.t 41), some (40, true)⟩, ⟨some 43, .bini .neq (.t 42) (.c (.int .i64 (1))), some (40, true)⟩, ⟨some 44, .pick (.t 40) (.t 43) (.b false), some (36, false)⟩, ⟨some 45, .pick (.t 36) (.b true) (.t 44), none⟩])
 (.cond (.t 45)
 (.seq (.reg [⟨some 2, .mov (.b false), none⟩])
 .ret)
 .skip))
 (.seq (.reg [⟨some 46, .fadr 3 (.t 1), none⟩, ⟨some 47, .load false 1 (.t 46), none⟩, ⟨some 48, .mkf (.func 88) [] [(.t 1)], none⟩, ⟨some 49, .call 87 [(.t 47), (.t 48)], none⟩, ⟨some 50, .not (.t 49), none⟩, ⟨some 2, .mov (.t 50), none⟩])
 .ret))))⟩
theorem t_world_ground : trFn Tryz.prog 47 [] [] = some f_world_ground := by kernel_rfl

abbrev n_limbo_Is : Nat := 48
/-- hydrant/limbo.Is -/
def f_limbo_Is : FnI := ⟨29, [.tmp 2],
 (.seq (.reg [⟨some 2, .mov (.b false), none⟩])
 (.seq (.seq (.reg [⟨some 5, .mov (.t 0), none⟩, ⟨some 6, .len false (.t 5), none⟩, ⟨some 7, .mov (.c (.int .i64 (0))), none⟩])
 (.block 0
 (.loop [7] [8, 9, 10, 11, 4, 3, 12, 13, 14, 15, 16, 17, 18, 19, 20, 21, 22, 23, 24, 25, 26, 27, 2, 28, 7]
 (.seq (.reg [⟨some 8, .bini .lss (.t 7) (.t 6), none⟩])
 (.seq (.cond (.t 8)
 .skip
 (.exit 0))
 (.seq (.block 1
 (.seq (.reg [⟨some 9, .mov (.t 7), none⟩, ⟨some 10, .iadr 3 (.t 5) (.t 7), none⟩, ⟨some 11, .load true 3 (.t 10), none⟩, ⟨some 4, .alloc 95 [(.v (.int .i64 (0))), (.v (.int .i64 (0))), (.v (.bool false))], none⟩, ⟨some 3, .mov (.t 9), none⟩, ⟨none, .store 3 (.t 4) (.t 11), none⟩])
 (.seq (.regD [] (.op ⟨0, false, [], ⟨some 12, .fadr 0 (.t 4), none⟩⟩
 (.op ⟨1, true, [], ⟨some 13, .load false 1 (.t 12), none⟩⟩
 (.op ⟨2, false, [], ⟨some 14, .bini .lss (.t 13) (.c (.int .i64 (0))), none⟩⟩
 (.op ⟨3, false, [], ⟨some 15, .mov (.t 14), none⟩⟩
 (.op ⟨4, false, [], ⟨some 16, .fadr 1 (.t 4), some (15, false)⟩⟩
 (.op ⟨5, true, [], ⟨some 17, .load false 1 (.t 16), some (15, false)⟩⟩
 (.op ⟨6, false, [], ⟨some 18, .bini .lss (.t 17) (.c (.int .i64 (0))), some (15, false)⟩⟩
 (.op ⟨7, false, [], ⟨some 19, .pick (.t 15) (.b true) (.t 18), none⟩⟩
 (.op ⟨8, false, [], ⟨some 20, .mov (.t 19), none⟩⟩
 (.op ⟨9, false, [], ⟨some 21, .mov (.t 0), some (20, false)⟩⟩
 (.op ⟨10, false, [], ⟨some 22, .mov (.t 3), some (20, false)⟩⟩
 (.op ⟨11, false, [], ⟨some 23, .slc 3 (.t 21) none (some (.t 22)) none, some (20, false)⟩⟩
 (.op ⟨12, false, [], ⟨some 24, .fadr 0 (.t 4), some (20, false)⟩⟩
 (.op ⟨13, true, [], ⟨some 25, .load false 1 (.t 24), some (20, false)⟩⟩
 (.op ⟨14, false, [], ⟨some 26, .call 89 [(.t 23), (.t 25)], some (20, false)⟩⟩
 (.op ⟨15, false, [], ⟨some 27, .pick (.t 20) (.b true) (.t 26), none⟩⟩
 .nil)))))))))))))))))
 (.cond (.t 27)
 (.seq (.reg [⟨some 2, .mov (.b false), none⟩])
 .ret)
 .skip))))
 (.reg [⟨some 28, .bini .add (.t 7) (.c (.int .i64 (1))), none⟩, ⟨some 7, .mov (.t 28), none⟩])))))))
 (.seq (.reg [⟨some 2, .mov (.b true), none⟩])
 .ret)))⟩
theorem t_limbo_Is : trFn Tryz.prog 48 [([], (.first 0 (.first 1 (.first 2 (.first 3 (.first 4 (.first 5 (.first 6 (.first 7 (.first 8 (.first 9 (.first 10 (.first 11 (.first 12 (.first 13 (.exec 14 (.first 15 .nil)))))))))))))))))] [[7]] = some f_limbo_Is := by kernel_rfl

abbrev n_world_version : Nat := 49
/-- hydrant/world.version -/
def f_world_version : FnI := ⟨50, [.tmp 2],
 (.seq (.reg [⟨some 1, .box 40 (.t 0), none⟩, ⟨some 2, .mov (.b false), none⟩])
 (.seq (.seq (.reg [⟨some 7, .fadr 0 (.t 1), none⟩, ⟨some 8, .load true 3 (.t 7), none⟩, ⟨some 9, .call 17 [(.t 8)], none⟩, ⟨some 10, .not (.t 9), none⟩, ⟨some 11, .mov (.t 10), none⟩, ⟨some 12, .fadr 3 (.t 1), some (11, false)⟩, ⟨some 13, .load false 1 (.t 12), some (11, false)⟩, ⟨some 14, .len false (.t 13), some (11, false)⟩, ⟨some 15, .fadr 0 (.t 1), some (11, false)⟩, ⟨some 16, .fadr 2 (.t 15), some (11, false)⟩, ⟨some 17, .load false 1 (.t 16), some (11, false)⟩, ⟨some 18, .len false (.t 17), some (11, false)⟩, ⟨some 19, .bini .neq (.t 14) (.t 18), some (11, false)⟩, ⟨some 20, .pick (.t 11) (.b true) (.t 19), none⟩])
 (.cond (.t 20)
 (.seq (.reg [⟨some 2, .mov (.b false), none⟩])
 .ret)
 .skip))
 (.seq (.seq (.reg [⟨some 21, .fadr 3 (.t 1), none⟩, ⟨some 22, .load false 1 (.t 21), none⟩, ⟨some 23, .len false (.t 22), none⟩, ⟨some 24, .mov (.c (.int .i64 (0))), none⟩])
 (.block 0
 (.loop [24] [25, 26, 27, 28, 4, 3, 29, 30, 31, 32, 33, 34, 5, 35, 6, 36, 37, 38, 39, 40, 41, 42, 43, 44, 45, 46, 47, 48, 2, 49, 24]
 (.seq (.reg [⟨some 25, .bini .lss (.t 24) (.t 23), none⟩])
 (.seq (.cond (.t 25)
 .skip
 (.exit 0))
 (.seq (.block 1
 (.seq (.reg [⟨some 26, .mov (.t 24), none⟩, ⟨some 27, .iadr 2 (.t 22) (.t 24), none⟩, ⟨some 28, .load true 2 (.t 27), none⟩, ⟨some 4, .alloc 80 [(.v (.int .u64 (0))), (.v (.slice none 0 0))], none⟩, ⟨some 3, .mov (.t 26), none⟩, ⟨none, .store 2 (.t 4) (.t 28), none⟩])
 (.seq (.reg [⟨some 29, .fadr 0 (.t 1), none⟩, ⟨some 30, .fadr 2 (.t 29), none⟩, ⟨some 31, .load false 1 (.t 30), none⟩, ⟨some 32, .mov (.t 3), none⟩, ⟨some 33, .iadr 4 (.t 31) (.t 32), none⟩, ⟨some 34, .load true 4 (.t 33), none⟩, ⟨some 5, .alloc 71 [(.v (.string ⟨#[]⟩)), (.v (.int .i64 (0))), (.v (.int .i64 (0))), (.v (.slice none 0 0))], none⟩, ⟨none, .store 4 (.t 5) (.t 34), none⟩])
 (.seq (.reg [⟨some 35, .mkf (.func 90) [] [(.t 5)], none⟩, ⟨some 6, .mov (.t 35), none⟩])
 (.seq (.reg [⟨some 36, .fadr 1 (.t 4), none⟩, ⟨some 37, .load false 1 (.t 36), none⟩, ⟨some 38, .len false (.t 37), none⟩, ⟨some 39, .fadr 3 (.t 5), none⟩, ⟨some 40, .load false 1 (.t 39), none⟩, ⟨some 41, .len false (.t 40), none⟩, ⟨some 42, .bini .neq (.t 38) (.t 41), none⟩, ⟨some 43, .mov (.t 42), none⟩, ⟨some 44, .fadr 1 (.t 4), some (43, false)⟩, ⟨some 45, .load false 1 (.t 44), some (43, false)⟩, ⟨some 46, .mov (.t 6), some (43, false)⟩, ⟨some 47, .call 91 [(.t 45), (.t 46)], some (43, false)⟩, ⟨some 48, .pick (.t 43) (.b true) (.t 47), none⟩])
 (.cond (.t 48)
 (.seq (.reg [⟨some 2, .mov (.b false), none⟩])
 .ret)
 .skip))))))
 (.reg [⟨some 49, .bini .add (.t 24) (.c (.int .i64 (1))), none⟩, ⟨some 24, .mov (.t 49), none⟩])))))))
 (.seq (.reg [⟨some 2, .mov (.b true), none⟩])
 .ret))))⟩
theorem t_world_version : trFn Tryz.prog 49 [] [[24]] = some f_world_version := by kernel_rfl

abbrev n_gates_Is : Nat := 50
/-- hydrant/gates.Is -/
def f_gates_Is : FnI := ⟨20, [.tmp 2],
 (.seq (.reg [⟨some 1, .box 77 (.t 0), none⟩, ⟨some 2, .mov (.b false), none⟩])
 (.seq (.reg [⟨some 3, .fadr 0 (.t 1), none⟩, ⟨some 4, .load false 1 (.t 3), none⟩, ⟨some 5, .call 32 [(.t 4)], none⟩, ⟨some 6, .mov (.t 5), none⟩, ⟨some 7, .fadr 2 (.t 1), some (6, true)⟩, ⟨some 8, .load false 1 (.t 7), some (6, true)⟩, ⟨some 9, .bini .geq (.t 8) (.c (.int .i64 (0))), some (6, true)⟩, ⟨some 10, .pick (.t 6) (.t 9) (.b false), none⟩, ⟨some 11, .mov (.t 10), none⟩, ⟨some 12, .fadr 1 (.t 1), some (11, true)⟩, ⟨some 13, .load false 1 (.t 12), some (11, true)⟩, ⟨some 14, .mov (.t 13), some (11, true)⟩, ⟨some 15, .fadr 3 (.t 1), some (14, false)⟩, ⟨some 16, .load false 1 (.t 15), some (14, false)⟩, ⟨some 17, .not (.t 16), some (14, false)⟩, ⟨some 18, .pick (.t 14) (.b true) (.t 17), some (11, true)⟩, ⟨some 19, .pick (.t 11) (.t 18) (.b false), none⟩, ⟨some 2, .mov (.t 19), none⟩])
 .ret))⟩
theorem t_gates_Is : trFn Tryz.prog 50 [] [] = some f_gates_Is := by kernel_rfl

abbrev n_slots_Free : Nat := 51
/-- hydrant/slots.Free -/
def f_slots_Free : FnI := ⟨19, [.cell 2 1 false, .cell 3 1 false],
 (.seq (.reg [⟨some 1, .box 82 (.t 0), none⟩, ⟨some 2, .alloc 28 [(.v (.slice none 0 0))], none⟩, ⟨some 3, .alloc 35 [(.v (.int .i64 (0)))], none⟩])
 (.seq (.reg [⟨some 4, .alloc 28 [(.v (.slice none 0 0))], none⟩])
 (.seq (.seq (.reg [⟨some 6, .load true 3 (.t 1), none⟩, ⟨some 7, .call 92 [(.t 6)], none⟩])
 (.block 0
 (.rfun (.t 7) [8]
 (.reg [⟨some 5, .mov (.t 8), none⟩])
 (.block 1
 (.seq (.reg [⟨some 9, .mov (.t 5), none⟩])
 (.block 2
 (.seq (.reg [⟨some 15, .bini .eql (.t 9) (.c (.int .i64 (-2))), none⟩, ⟨some 14, .mov (.t 15), none⟩])
 (.cond (.t 14)
 (.seq (.reg [⟨none, .store 1 (.t 2) (.c (.slice none 0 0)), none⟩, ⟨none, .store 1 (.t 3) (.c (.int .i64 (11))), none⟩])
 .ret)
 (.seq (.reg [⟨some 17, .bini .eql (.t 9) (.c (.int .i64 (-1))), none⟩, ⟨some 16, .mov (.t 17), none⟩])
 (.cond (.t 16)
 .skip
 (.reg [⟨some 10, .load false 1 (.t 4), none⟩, ⟨some 11, .mov (.t 5), none⟩, ⟨some 12, .bsl 3 1 1 [(.v (.int .i64 (0)))] [(0, 1, (.t 11))], none⟩, ⟨some 13, .app 3 1 8 (.t 10) (.t 12), none⟩, ⟨none, .store 1 (.t 4) (.t 13), none⟩])))))))))))
 (.seq (.reg [⟨some 18, .load false 1 (.t 4), none⟩, ⟨none, .store 1 (.t 2) (.t 18), none⟩, ⟨none, .store 1 (.t 3) (.c (.int .i64 (0))), none⟩])
 .ret))))⟩
theorem t_slots_Free : trFn Tryz.prog 51 [] [] = some f_slots_Free := by kernel_rfl

abbrev n_slots_Is : Nat := 52
/-- hydrant/slots.Is -/
def f_slots_Is : FnI := ⟨29, [.tmp 2],
 (.seq (.reg [⟨some 1, .box 82 (.t 0), none⟩, ⟨some 2, .mov (.b false), none⟩])
 (.seq (.reg [⟨some 6, .load true 3 (.t 1), none⟩, ⟨some 7, .call 51 [(.t 6)], none⟩, ⟨some 5, .mov (.t 7), none⟩, ⟨some 8, .ext 0 (.t 5), none⟩, ⟨some 9, .ext 1 (.t 5), none⟩, ⟨some 3, .mov (.t 8), none⟩, ⟨some 4, .mov (.t 9), none⟩])
 (.seq (.reg [⟨some 10, .mov (.t 4), none⟩, ⟨some 11, .bini .eql (.t 10) (.c (.int .i64 (0))), none⟩, ⟨some 12, .mov (.t 11), none⟩, ⟨some 13, .fadr 1 (.t 1), some (12, true)⟩, ⟨some 14, .load false 1 (.t 13), some (12, true)⟩, ⟨some 15, .len false (.t 14), some (12, true)⟩, ⟨some 16, .bini .geq (.t 15) (.c (.int .i64 (1))), some (12, true)⟩, ⟨some 17, .pick (.t 12) (.t 16) (.b false), none⟩, ⟨some 18, .mov (.t 17), none⟩, ⟨some 19, .fadr 1 (.t 1), some (18, true)⟩, ⟨some 20, .load false 1 (.t 19), some (18, true)⟩, ⟨some 21, .len false (.t 20), some (18, true)⟩, ⟨some 22, .bini .leq (.t 21) (.c (.int .i64 (4))), some (18, true)⟩, ⟨some 23, .pick (.t 18) (.t 22) (.b false), none⟩, ⟨some 24, .mov (.t 23), none⟩, ⟨some 25, .fadr 2 (.t 1), some (24, true)⟩, ⟨some 26, .load false 1 (.t 25), some (24, true)⟩, ⟨some 27, .bini .geq (.t 26) (.c (.int .i64 (0))), some (24, true)⟩, ⟨some 28, .pick (.t 24) (.t 27) (.b false), none⟩, ⟨some 2, .mov (.t 28), none⟩])
 .ret)))⟩
theorem t_slots_Is : trFn Tryz.prog 52 [] [] = some f_slots_Is := by kernel_rfl

abbrev n_config_Check : Nat := 53
/-- hydrant/config.Check -/
def f_config_Check : FnI := ⟨35, [.tmp 2, .tmp 3],
 (.seq (.reg [⟨some 1, .box 51 (.t 0), none⟩, ⟨some 2, .mov (.c (.int .i64 (0))), none⟩, ⟨some 3, .mov (.c (.int .i64 (0))), none⟩])
 (.seq (.reg [⟨some 9, .load true 3 (.t 1), none⟩, ⟨some 10, .build [(.v (.slice none 0 0)), (.v (.slice none 0 0)), (.v (.slice none 0 0))] [(0, 3, (.t 9))], none⟩, ⟨some 4, .alloc 153 [(.v (.slice none 0 0)), (.v (.slice none 0 0)), (.v (.slice none 0 0))], none⟩, ⟨none, .store 3 (.t 4) (.t 10), none⟩])
 (.seq (.seq (.reg [⟨some 11, .load true 3 (.t 4), none⟩, ⟨some 12, .mkf (.func 93) [(.t 11)] [], none⟩, ⟨some 13, .load true 3 (.t 4), none⟩, ⟨some 14, .mkf (.func 94) [(.t 13)] [], none⟩, ⟨some 15, .load true 3 (.t 4), none⟩, ⟨some 16, .mkf (.func 95) [(.t 15)] [], none⟩, ⟨some 17, .load true 3 (.t 4), none⟩, ⟨some 18, .mkf (.func 96) [(.t 17)] [], none⟩, ⟨some 19, .bsl 154 1 4 [(.v .nilFunc), (.v .nilFunc), (.v .nilFunc), (.v .nilFunc)] [(0, 1, (.t 12)), (1, 1, (.t 14)), (2, 1, (.t 16)), (3, 1, (.t 18))], none⟩, ⟨some 20, .len false (.t 19), none⟩, ⟨some 21, .mov (.c (.int .i64 (0))), none⟩])
 (.block 0
 (.loop [21] [22, 23, 24, 6, 26, 27, 25, 28, 29, 7, 8, 30, 31, 32, 33, 2, 3, 34, 21]
 (.seq (.reg [⟨some 22, .bini .lss (.t 21) (.t 20), none⟩])
 (.seq (.cond (.t 22)
 .skip
 (.exit 0))
 (.seq (.block 1
 (.seq (.reg [⟨some 23, .iadr 1 (.t 19) (.t 21), none⟩, ⟨some 24, .load false 1 (.t 23), none⟩, ⟨some 6, .mov (.t 24), none⟩])
 (.seq (.reg [⟨some 26, .mov (.t 6), none⟩, ⟨some 27, .callv (.t 26) [], none⟩, ⟨some 25, .mov (.t 27), none⟩, ⟨some 28, .ext 0 (.t 25), none⟩, ⟨some 29, .ext 1 (.t 25), none⟩, ⟨some 7, .mov (.t 28), none⟩, ⟨some 8, .mov (.t 29), none⟩])
 (.seq (.reg [⟨some 30, .mov (.t 7), none⟩, ⟨some 31, .bini .neq (.t 30) (.c (.int .i64 (0))), none⟩])
 (.cond (.t 31)
 (.seq (.reg [⟨some 32, .mov (.t 7), none⟩, ⟨some 33, .mov (.t 8), none⟩, ⟨some 2, .mov (.t 32), none⟩, ⟨some 3, .mov (.t 33), none⟩])
 .ret)
 .skip)))))
 (.reg [⟨some 34, .bini .add (.t 21) (.c (.int .i64 (1))), none⟩, ⟨some 21, .mov (.t 34), none⟩])))))))
 (.seq (.reg [⟨some 2, .mov (.c (.int .i64 (0))), none⟩, ⟨some 3, .mov (.c (.int .i64 (0))), none⟩])
 .ret))))⟩
theorem t_config_Check : trFn Tryz.prog 53 [] [[21]] = some f_config_Check := by kernel_rfl

abbrev n_snap_Config : Nat := 54
/-- hydrant/snap.Config -/
def f_snap_Config : FnI := ⟨69, [.cell 2 3 true],
 (.seq (.reg [⟨some 1, .box 26 (.t 0), none⟩, ⟨some 2, .alloc 51 [(.v (.slice none 0 0)), (.v (.slice none 0 0)), (.v (.slice none 0 0))], none⟩])
 (.seq (.reg [⟨some 7, .fadr 0 (.t 1), none⟩, ⟨some 8, .load false 1 (.t 7), none⟩, ⟨some 9, .fadr 2 (.t 1), none⟩, ⟨some 10, .load false 1 (.t 9), none⟩, ⟨some 11, .build [(.v (.slice none 0 0)), (.v (.slice none 0 0)), (.v (.slice none 0 0))] [(0, 1, (.t 8)), (2, 1, (.t 10))], none⟩, ⟨some 3, .alloc 51 [(.v (.slice none 0 0)), (.v (.slice none 0 0)), (.v (.slice none 0 0))], none⟩, ⟨none, .store 3 (.t 3) (.t 11), none⟩])
 (.seq (.seq (.reg [⟨some 12, .fadr 1 (.t 1), none⟩, ⟨some 13, .load false 1 (.t 12), none⟩, ⟨some 14, .len false (.t 13), none⟩, ⟨some 15, .mov (.c (.int .i64 (0))), none⟩])
 (.block 0
 (.loop [15] [16, 17, 18, 5, 19, 20, 21, 22, 23, 6, 24, 25, 26, 27, 28, 29, 30, 31, 32, 33, 34, 35, 36, 37, 38, 39, 40, 41, 42, 43, 44, 45, 46, 47, 48, 49, 50, 51, 52, 53, 54, 55, 56, 57, 58, 59, 60, 61, 62, 63, 64, 65, 66, 67, 15]
 (.seq (.reg [⟨some 16, .bini .lss (.t 15) (.t 14), none⟩])
 (.seq (.cond (.t 16)
 .skip
 (.exit 0))
 (.seq (.block 1
 (.seq (.reg [⟨some 17, .iadr 4 (.t 13) (.t 15), none⟩, ⟨some 18, .load true 4 (.t 17), none⟩, ⟨some 5, .alloc 122 [(.v (.int .i64 (0))), (.v (.string ⟨#[]⟩)), (.v (.string ⟨#[]⟩)), (.v (.int .i64 (0)))], none⟩, ⟨none, .store 4 (.t 5) (.t 18), none⟩])
 (.seq (.reg [⟨some 19, .fadr 1 (.t 5), none⟩, ⟨some 20, .load false 1 (.t 19), none⟩, ⟨some 21, .fadr 2 (.t 5), none⟩, ⟨some 22, .load false 1 (.t 21), none⟩, ⟨some 23, .build [(.v (.string ⟨#[]⟩)), (.v (.string ⟨#[]⟩)), (.v (.string ⟨#[]⟩)), (.v (.string ⟨#[]⟩))] [(1, 1, (.t 20)), (2, 1, (.t 22))], none⟩, ⟨some 6, .alloc 157 [(.v (.string ⟨#[]⟩)), (.v (.string ⟨#[]⟩)), (.v (.string ⟨#[]⟩)), (.v (.string ⟨#[]⟩))], none⟩, ⟨none, .store 4 (.t 6) (.t 23), none⟩])
 (.seq (.seq (.reg [⟨some 24, .fadr 0 (.t 5), none⟩, ⟨some 25, .load false 1 (.t 24), none⟩, ⟨some 26, .bini .geq (.t 25) (.c (.int .i64 (0))), none⟩, ⟨some 27, .mov (.t 26), none⟩, ⟨some 28, .fadr 0 (.t 5), some (27, true)⟩, ⟨some 29, .load false 1 (.t 28), some (27, true)⟩, ⟨some 30, .fadr 0 (.t 1), some (27, true)⟩, ⟨some 31, .load false 1 (.t 30), some (27, true)⟩, ⟨some 32, .len false (.t 31), some (27, true)⟩, ⟨some 33, .bini .lss (.t 29) (.t 32), some (27, true)⟩, ⟨some 34, .pick (.t 27) (.t 33) (.b false), none⟩])
 (.cond (.t 34)
 (.reg [⟨some 35, .fadr 0 (.t 1), none⟩, ⟨some 36, .load false 1 (.t 35), none⟩, ⟨some 37, .fadr 0 (.t 5), none⟩, ⟨some 38, .load false 1 (.t 37), none⟩, ⟨some 39, .iadr 1 (.t 36) (.t 38), none⟩, ⟨some 40, .load false 1 (.t 39), none⟩, ⟨some 41, .fadr 0 (.t 6), none⟩, ⟨none, .store 1 (.t 41) (.t 40), none⟩])
 .skip))
 (.seq (.seq (.reg [⟨some 42, .fadr 3 (.t 5), none⟩, ⟨some 43, .load false 1 (.t 42), none⟩, ⟨some 44, .bini .geq (.t 43) (.c (.int .i64 (0))), none⟩, ⟨some 45, .mov (.t 44), none⟩, ⟨some 46, .fadr 3 (.t 5), some (45, true)⟩, ⟨some 47, .load false 1 (.t 46), some (45, true)⟩, ⟨some 48, .fadr 2 (.t 1), some (45, true)⟩, ⟨some 49, .load false 1 (.t 48), some (45, true)⟩, ⟨some 50, .len false (.t 49), some (45, true)⟩, ⟨some 51, .bini .lss (.t 47) (.t 50), some (45, true)⟩, ⟨some 52, .pick (.t 45) (.t 51) (.b false), none⟩])
 (.cond (.t 52)
 (.reg [⟨some 53, .fadr 2 (.t 1), none⟩, ⟨some 54, .load false 1 (.t 53), none⟩, ⟨some 55, .fadr 3 (.t 5), none⟩, ⟨some 56, .load false 1 (.t 55), none⟩, ⟨some 57, .iadr 4 (.t 54) (.t 56), none⟩, ⟨some 58, .fadr 0 (.t 57), none⟩, ⟨some 59, .load false 1 (.t 58), none⟩, ⟨some 60, .fadr 3 (.t 6), none⟩, ⟨none, .store 1 (.t 60) (.t 59), none⟩])
 .skip))
 (.reg [⟨some 61, .fadr 1 (.t 3), none⟩, ⟨some 62, .load false 1 (.t 61), none⟩, ⟨some 63, .load true 4 (.t 6), none⟩, ⟨some 64, .bsl 157 4 1 [(.v (.string ⟨#[]⟩)), (.v (.string ⟨#[]⟩)), (.v (.string ⟨#[]⟩)), (.v (.string ⟨#[]⟩))] [(0, 4, (.t 63))], none⟩, ⟨some 65, .app 157 4 64 (.t 62) (.t 64), none⟩, ⟨some 66, .fadr 1 (.t 3), none⟩, ⟨none, .store 1 (.t 66) (.t 65), none⟩]))))))
 (.reg [⟨some 67, .bini .add (.t 15) (.c (.int .i64 (1))), none⟩, ⟨some 15, .mov (.t 67), none⟩])))))))
 (.seq (.reg [⟨some 68, .load true 3 (.t 3), none⟩, ⟨none, .store 3 (.t 2) (.t 68), none⟩])
 .ret))))⟩
theorem t_snap_Config : trFn Tryz.prog 54 [] [[15]] = some f_snap_Config := by kernel_rfl

abbrev n_hydrantref11_Big : Nat := 55
/-- hydrant/hydrantref11.Big -/
def f_hydrantref11_Big : FnI := ⟨24, [.tmp 2],
 (.seq (.reg [⟨some 2, .mov (.b false), none⟩])
 (.seq (.seq (.reg [⟨some 3, .mov (.c (.int .i64 (0))), none⟩])
 (.block 0
 (.loop [3] [4, 5, 6, 7, 8, 9, 10, 11, 12, 15, 16, 17, 18, 19, 20, 2, 13, 14, 3]
 (.seq (.seq (.reg [⟨some 4, .mov (.t 3), none⟩, ⟨some 5, .mov (.t 0), none⟩, ⟨some 6, .len false (.t 5), none⟩, ⟨some 7, .bini .lss (.t 4) (.t 6), none⟩, ⟨some 8, .mov (.t 7), none⟩, ⟨some 9, .mov (.t 0), some (8, true)⟩, ⟨some 10, .len false (.t 9), some (8, true)⟩, ⟨some 11, .bini .leq (.t 10) (.c (.int .i64 (50))), some (8, true)⟩, ⟨some 12, .pick (.t 8) (.t 11) (.b false), none⟩])
 (.cond (.t 12)
 .skip
 (.exit 0)))
 (.seq (.block 1
 (.seq (.reg [⟨some 15, .mov (.t 0), none⟩, ⟨some 16, .mov (.t 3), none⟩, ⟨some 17, .iadr 1 (.t 15) (.t 16), none⟩, ⟨some 18, .load false 1 (.t 17), none⟩, ⟨some 19, .len false (.t 18), none⟩, ⟨some 20, .bini .gtr (.t 19) (.c (.int .i64 (50))), none⟩])
 (.cond (.t 20)
 (.seq (.reg [⟨some 2, .mov (.b true), none⟩])
 .ret)
 .skip)))
 (.reg [⟨some 13, .mov (.t 3), none⟩, ⟨some 14, .bini .add (.t 13) (.c (.int .i64 (1))), none⟩, ⟨some 3, .mov (.t 14), none⟩]))))))
 (.seq (.reg [⟨some 21, .mov (.t 0), none⟩, ⟨some 22, .len false (.t 21), none⟩, ⟨some 23, .bini .gtr (.t 22) (.c (.int .i64 (50))), none⟩, ⟨some 2, .mov (.t 23), none⟩])
 .ret)))⟩
theorem t_hydrantref11_Big : trFn Tryz.prog 55 [] [[3]] = some f_hydrantref11_Big := by kernel_rfl

abbrev n_hydrantref18_Clone : Nat := 57
/-- hydrant/hydrantref18.Clone -/
def f_hydrantref18_Clone : FnI := ⟨151, [.cell 2 8 true],
 (.seq (.reg [⟨some 1, .box 34 (.t 0), none⟩, ⟨some 2, .alloc 34 [(.v (.int .i64 (0))), (.v (.int .i64 (0))), (.v (.int .i64 (0))), (.v (.slice none 0 0)), (.v (.slice none 0 0)), (.v (.slice none 0 0)), (.v (.slice none 0 0)), (.v (.slice none 0 0))], none⟩])
 (.seq (.reg [⟨some 13, .load true 8 (.t 1), none⟩, ⟨some 3, .alloc 34 [(.v (.int .i64 (0))), (.v (.int .i64 (0))), (.v (.int .i64 (0))), (.v (.slice none 0 0)), (.v (.slice none 0 0)), (.v (.slice none 0 0)), (.v (.slice none 0 0)), (.v (.slice none 0 0))], none⟩, ⟨none, .store 8 (.t 3) (.t 13), none⟩])
 (.seq (.reg [⟨some 14, .bsl 3 1 0 [] [], none⟩, ⟨some 15, .fadr 3 (.t 3), none⟩, ⟨none, .store 1 (.t 15) (.t 14), none⟩])
 (.seq (.reg [⟨some 16, .fadr 3 (.t 3), none⟩, ⟨some 17, .load false 1 (.t 16), none⟩, ⟨some 18, .fadr 3 (.t 1), none⟩, ⟨some 19, .load false 1 (.t 18), none⟩, ⟨some 20, .app 3 1 8 (.t 17) (.t 19), none⟩, ⟨some 21, .fadr 3 (.t 3), none⟩, ⟨none, .store 1 (.t 21) (.t 20), none⟩])
 (.seq (.reg [⟨some 22, .bsl 40 5 0 [] [], none⟩, ⟨some 23, .fadr 4 (.t 3), none⟩, ⟨none, .store 1 (.t 23) (.t 22), none⟩])
 (.seq (.seq (.reg [⟨some 4, .mov (.c (.int .i64 (0))), none⟩])
 (.block 0
 (.loop [4] [24, 25, 26, 27, 28, 31, 32, 33, 34, 35, 5, 36, 37, 6, 38, 39, 40, 41, 42, 43, 44, 45, 46, 49, 50, 51, 52, 53, 54, 55, 56, 57, 7, 58, 59, 8, 60, 61, 62, 63, 64, 65, 66, 67, 68, 69, 70, 71, 72, 75, 76, 77, 78, 79, 80, 81, 82, 83, 84, 85, 86, 87, 9, 88, 10, 89, 90, 91, 92, 93, 94, 95, 96, 97, 98, 99, 73, 74, 100, 101, 102, 103, 104, 105, 47, 48, 106, 107, 108, 109, 110, 111, 29, 30, 4]
 (.seq (.seq (.reg [⟨some 24, .mov (.t 4), none⟩, ⟨some 25, .fadr 4 (.t 1), none⟩, ⟨some 26, .load false 1 (.t 25), none⟩, ⟨some 27, .len false (.t 26), none⟩, ⟨some 28, .bini .lss (.t 24) (.t 27), none⟩])
 (.cond (.t 28)
 .skip
 (.exit 0)))
 (.seq (.block 1
 (.seq (.reg [⟨some 31, .fadr 4 (.t 1), none⟩, ⟨some 32, .load false 1 (.t 31), none⟩, ⟨some 33, .mov (.t 4), none⟩, ⟨some 34, .iadr 5 (.t 32) (.t 33), none⟩, ⟨some 35, .load true 5 (.t 34), none⟩, ⟨some 5, .alloc 40 [(.v (.slice none 0 0)), (.v (.slice none 0 0)), (.v (.slice none 0 0)), (.v (.slice none 0 0)), (.v (.bool false))], none⟩, ⟨none, .store 5 (.t 5) (.t 35), none⟩])
 (.seq (.reg [⟨some 36, .bsl 80 2 0 [] [], none⟩, ⟨some 37, .fadr 3 (.t 5), none⟩, ⟨none, .store 1 (.t 37) (.t 36), none⟩])
 (.seq (.seq (.reg [⟨some 6, .mov (.c (.int .i64 (0))), none⟩])
 (.block 2
 (.loop [6] [38, 39, 40, 41, 42, 43, 44, 45, 46, 49, 50, 51, 52, 53, 54, 55, 56, 57, 7, 58, 59, 8, 60, 61, 62, 63, 64, 65, 66, 67, 68, 69, 70, 71, 72, 75, 76, 77, 78, 79, 80, 81, 82, 83, 84, 85, 86, 87, 9, 88, 10, 89, 90, 91, 92, 93, 94, 95, 96, 97, 98, 99, 73, 74, 100, 101, 102, 103, 104, 105, 47, 48, 6]
 (.seq (.seq (.reg [⟨some 38, .mov (.t 6), none⟩, ⟨some 39, .fadr 4 (.t 1), none⟩, ⟨some 40, .load false 1 (.t 39), none⟩, ⟨some 41, .mov (.t 4), none⟩, ⟨some 42, .iadr 5 (.t 40) (.t 41), none⟩, ⟨some 43, .fadr 3 (.t 42), none⟩, ⟨some 44, .load false 1 (.t 43), none⟩, ⟨some 45, .len false (.t 44), none⟩, ⟨some 46, .bini .lss (.t 38) (.t 45), none⟩])
 (.cond (.t 46)
 .skip
 (.exit 2)))
 (.seq (.block 3
 (.seq (.reg [⟨some 49, .fadr 4 (.t 1), none⟩, ⟨some 50, .load false 1 (.t 49), none⟩, ⟨some 51, .mov (.t 4), none⟩, ⟨some 52, .iadr 5 (.t 50) (.t 51), none⟩, ⟨some 53, .fadr 3 (.t 52), none⟩, ⟨some 54, .load false 1 (.t 53), none⟩, ⟨some 55, .mov (.t 6), none⟩, ⟨some 56, .iadr 2 (.t 54) (.t 55), none⟩, ⟨some 57, .load true 2 (.t 56), none⟩, ⟨some 7, .alloc 80 [(.v (.int .u64 (0))), (.v (.slice none 0 0))], none⟩, ⟨none, .store 2 (.t 7) (.t 57), none⟩])
 (.seq (.reg [⟨some 58, .bsl 82 3 0 [] [], none⟩, ⟨some 59, .fadr 1 (.t 7), none⟩, ⟨none, .store 1 (.t 59) (.t 58), none⟩])
 (.seq (.seq (.reg [⟨some 8, .mov (.c (.int .i64 (0))), none⟩])
 (.block 4
 (.loop [8] [60, 61, 62, 63, 64, 65, 66, 67, 68, 69, 70, 71, 72, 75, 76, 77, 78, 79, 80, 81, 82, 83, 84, 85, 86, 87, 9, 88, 10, 89, 90, 91, 92, 93, 94, 95, 96, 97, 98, 99, 73, 74, 8]
 (.seq (.seq (.reg [⟨some 60, .mov (.t 8), none⟩, ⟨some 61, .fadr 4 (.t 1), none⟩, ⟨some 62, .load false 1 (.t 61), none⟩, ⟨some 63, .mov (.t 4), none⟩, ⟨some 64, .iadr 5 (.t 62) (.t 63), none⟩, ⟨some 65, .fadr 3 (.t 64), none⟩, ⟨some 66, .load false 1 (.t 65), none⟩, ⟨some 67, .mov (.t 6), none⟩, ⟨some 68, .iadr 2 (.t 66) (.t 67), none⟩, ⟨some 69, .fadr 1 (.t 68), none⟩, ⟨some 70, .load false 1 (.t 69), none⟩, ⟨some 71, .len false (.t 70), none⟩, ⟨some 72, .bini .lss (.t 60) (.t 71), none⟩])
 (.cond (.t 72)
 .skip
 (.exit 4)))
 (.seq (.block 5
 (.seq (.reg [⟨some 75, .fadr 4 (.t 1), none⟩, ⟨some 76, .load false 1 (.t 75), none⟩, ⟨some 77, .mov (.t 4), none⟩, ⟨some 78, .iadr 5 (.t 76) (.t 77), none⟩, ⟨some 79, .fadr 3 (.t 78), none⟩, ⟨some 80, .load false 1 (.t 79), none⟩, ⟨some 81, .mov (.t 6), none⟩, ⟨some 82, .iadr 2 (.t 80) (.t 81), none⟩, ⟨some 83, .fadr 1 (.t 82), none⟩, ⟨some 84, .load false 1 (.t 83), none⟩, ⟨some 85, .mov (.t 8), none⟩, ⟨some 86, .iadr 3 (.t 84) (.t 85), none⟩, ⟨some 87, .load true 3 (.t 86), none⟩, ⟨some 9, .alloc 82 [(.v (.int .u64 (0))), (.v (.slice none 0 0)), (.v (.int .i64 (0)))], none⟩, ⟨none, .store 3 (.t 9) (.t 87), none⟩])
 (.seq (.reg [⟨some 88, .bsl 3 1 0 [] [], none⟩, ⟨some 10, .mov (.t 88), none⟩])
 (.seq (.reg [⟨some 89, .mov (.t 10), none⟩, ⟨some 90, .fadr 1 (.t 9), none⟩, ⟨some 91, .load false 1 (.t 90), none⟩, ⟨some 92, .app 3 1 8 (.t 89) (.t 91), none⟩, ⟨some 93, .fadr 1 (.t 9), none⟩, ⟨none, .store 1 (.t 93) (.t 92), none⟩])
 (.reg [⟨some 94, .fadr 1 (.t 7), none⟩, ⟨some 95, .load false 1 (.t 94), none⟩, ⟨some 96, .load true 3 (.t 9), none⟩, ⟨some 97, .bsl 82 3 1 [(.v (.int .u64 (0))), (.v (.slice none 0 0)), (.v (.int .i64 (0)))] [(0, 3, (.t 96))], none⟩, ⟨some 98, .app 82 3 40 (.t 95) (.t 97), none⟩, ⟨some 99, .fadr 1 (.t 7), none⟩, ⟨none, .store 1 (.t 99) (.t 98), none⟩])))))
 (.reg [⟨some 73, .mov (.t 8), none⟩, ⟨some 74, .bini .add (.t 73) (.c (.int .i64 (1))), none⟩, ⟨some 8, .mov (.t 74), none⟩]))))))
 (.reg [⟨some 100, .fadr 3 (.t 5), none⟩, ⟨some 101, .load false 1 (.t 100), none⟩, ⟨some 102, .load true 2 (.t 7), none⟩, ⟨some 103, .bsl 80 2 1 [(.v (.int .u64 (0))), (.v (.slice none 0 0))] [(0, 2, (.t 102))], none⟩, ⟨some 104, .app 80 2 32 (.t 101) (.t 103), none⟩, ⟨some 105, .fadr 3 (.t 5), none⟩, ⟨none, .store 1 (.t 105) (.t 104), none⟩])))))
 (.reg [⟨some 47, .mov (.t 6), none⟩, ⟨some 48, .bini .add (.t 47) (.c (.int .i64 (1))), none⟩, ⟨some 6, .mov (.t 48), none⟩]))))))
 (.reg [⟨some 106, .fadr 4 (.t 3), none⟩, ⟨some 107, .load false 1 (.t 106), none⟩, ⟨some 108, .load true 5 (.t 5), none⟩, ⟨some 109, .bsl 40 5 1 [(.v (.slice none 0 0)), (.v (.slice none 0 0)), (.v (.slice none 0 0)), (.v (.slice none 0 0)), (.v (.bool false))] [(0, 5, (.t 108))], none⟩, ⟨some 110, .app 40 5 104 (.t 107) (.t 109), none⟩, ⟨some 111, .fadr 4 (.t 3), none⟩, ⟨none, .store 1 (.t 111) (.t 110), none⟩])))))
 (.reg [⟨some 29, .mov (.t 4), none⟩, ⟨some 30, .bini .add (.t 29) (.c (.int .i64 (1))), none⟩, ⟨some 4, .mov (.t 30), none⟩]))))))
 (.seq (.reg [⟨some 112, .bsl 77 4 0 [] [], none⟩, ⟨some 113, .fadr 5 (.t 3), none⟩, ⟨none, .store 1 (.t 113) (.t 112), none⟩])
 (.seq (.reg [⟨some 114, .fadr 5 (.t 3), none⟩, ⟨some 115, .load false 1 (.t 114), none⟩, ⟨some 116, .fadr 5 (.t 1), none⟩, ⟨some 117, .load false 1 (.t 116), none⟩, ⟨some 118, .app 77 4 40 (.t 115) (.t 117), none⟩, ⟨some 119, .fadr 5 (.t 3), none⟩, ⟨none, .store 1 (.t 119) (.t 118), none⟩])
 (.seq (.reg [⟨some 120, .bsl 106 1 0 [] [], none⟩, ⟨some 121, .fadr 6 (.t 3), none⟩, ⟨none, .store 1 (.t 121) (.t 120), none⟩])
 (.seq (.seq (.reg [⟨some 11, .mov (.c (.int .i64 (0))), none⟩])
 (.block 6
 (.loop [11] [122, 123, 124, 125, 126, 129, 12, 132, 133, 134, 135, 136, 137, 130, 131, 138, 139, 140, 141, 127, 128, 11]
 (.seq (.seq (.reg [⟨some 122, .mov (.t 11), none⟩, ⟨some 123, .fadr 6 (.t 1), none⟩, ⟨some 124, .load false 1 (.t 123), none⟩, ⟨some 125, .len false (.t 124), none⟩, ⟨some 126, .bini .lss (.t 122) (.t 125), none⟩])
 (.cond (.t 126)
 .skip
 (.exit 6)))
 (.seq (.block 7
 (.seq (.reg [⟨some 129, .bsl 54 1 0 [] [], none⟩, ⟨some 12, .mov (.t 129), none⟩])
 (.regD [] (.op ⟨2, false, [], ⟨some 132, .mov (.t 12), none⟩⟩
 (.op ⟨3, false, [], ⟨some 133, .fadr 6 (.t 1), none⟩⟩
 (.op ⟨4, true, [], ⟨some 134, .load false 1 (.t 133), none⟩⟩
 (.op ⟨5, false, [], ⟨some 135, .mov (.t 11), none⟩⟩
 (.op ⟨6, true, [], ⟨some 136, .iadr 1 (.t 134) (.t 135), none⟩⟩
 (.op ⟨7, true, [], ⟨some 137, .load false 1 (.t 136), none⟩⟩
 (.op ⟨0, false, [], ⟨some 130, .fadr 6 (.t 3), none⟩⟩
 (.op ⟨1, true, [], ⟨some 131, .load false 1 (.t 130), none⟩⟩
 (.op ⟨8, false, [1], ⟨some 138, .app 54 1 8 (.t 132) (.t 137), none⟩⟩
 (.op ⟨9, false, [], ⟨some 139, .bsl 106 1 1 [(.v (.slice none 0 0))] [(0, 1, (.t 138))], none⟩⟩
 (.op ⟨10, false, [], ⟨some 140, .app 106 1 24 (.t 131) (.t 139), none⟩⟩
 (.op ⟨11, false, [], ⟨some 141, .fadr 6 (.t 3), none⟩⟩
 (.op ⟨12, false, [], ⟨none, .store 1 (.t 141) (.t 140), none⟩⟩
 .nil))))))))))))))))
 (.reg [⟨some 127, .mov (.t 11), none⟩, ⟨some 128, .bini .add (.t 127) (.c (.int .i64 (1))), none⟩, ⟨some 11, .mov (.t 128), none⟩]))))))
 (.seq (.reg [⟨some 142, .bsl 95 3 0 [] [], none⟩, ⟨some 143, .fadr 7 (.t 3), none⟩, ⟨none, .store 1 (.t 143) (.t 142), none⟩])
 (.seq (.reg [⟨some 144, .fadr 7 (.t 3), none⟩, ⟨some 145, .load false 1 (.t 144), none⟩, ⟨some 146, .fadr 7 (.t 1), none⟩, ⟨some 147, .load false 1 (.t 146), none⟩, ⟨some 148, .app 95 3 24 (.t 145) (.t 147), none⟩, ⟨some 149, .fadr 7 (.t 3), none⟩, ⟨none, .store 1 (.t 149) (.t 148), none⟩])
 (.seq (.reg [⟨some 150, .load true 8 (.t 3), none⟩, ⟨none, .store 8 (.t 2) (.t 150), none⟩])
 .ret)))))))))))))⟩
theorem t_hydrantref18_Clone : trFn Tryz.prog 57 [([], (.first 2 (.first 3 (.first 4 (.first 5 (.first 6 (.first 7 (.first 0 (.first 1 (.exec 8 (.exec 9 (.exec 10 (.first 11 (.exec 12 .nil))))))))))))))] [[4], [6], [8], [11]] = some f_hydrantref18_Clone := by kernel_rfl

abbrev n_pin_steps : Nat := 62
/-- hydrant/pin.steps -/
def f_pin_steps : FnI := ⟨6, [.tmp 0],
 (.seq (.reg [⟨some 0, .mov (.c (.map none)), none⟩])
 (.seq (.reg [⟨some 1, .mkm .i64, none⟩, ⟨some 2, .build [(.v .nilFunc)] [(0, 1, (.c (.func (.func 97) #[] #[])))], none⟩, ⟨none, .mup .i64 (.t 1) (.c (.int .i64 (0))) (.t 2), none⟩, ⟨some 3, .build [(.v .nilFunc)] [(0, 1, (.c (.func (.func 99) #[] #[])))], none⟩, ⟨none, .mup .i64 (.t 1) (.c (.int .i64 (1))) (.t 3), none⟩, ⟨some 4, .build [(.v .nilFunc)] [(0, 1, (.c (.func (.func 100) #[] #[])))], none⟩, ⟨none, .mup .i64 (.t 1) (.c (.int .i64 (2))) (.t 4), none⟩, ⟨some 5, .mov (.t 1), none⟩, ⟨some 0, .mov (.t 5), none⟩])
 .ret))⟩
theorem t_pin_steps : trFn Tryz.prog 62 [] [] = some f_pin_steps := by kernel_rfl

abbrev n_hydrantlaw19_plain : Nat := 63
/-- hydrant/hydrantlaw19.plain -/
def f_hydrantlaw19_plain : FnI := ⟨18, [.cell 0 8 true],
 (.seq (.reg [⟨some 0, .alloc 34 [(.v (.int .i64 (0))), (.v (.int .i64 (0))), (.v (.int .i64 (0))), (.v (.slice none 0 0)), (.v (.slice none 0 0)), (.v (.slice none 0 0)), (.v (.slice none 0 0)), (.v (.slice none 0 0))], none⟩])
 (.seq (.reg [⟨some 4, .bsl 9 1 1 [(.v (.string ⟨#[]⟩))] [(0, 1, (.c (.string ⟨#[105, 110]⟩)))], none⟩, ⟨some 5, .build [(.v (.int .i64 (0))), (.v (.string ⟨#[]⟩)), (.v (.string ⟨#[]⟩)), (.v (.int .i64 (0)))] [(1, 1, (.c (.string ⟨#[42]⟩))), (2, 1, (.c (.string ⟨#[47]⟩)))], none⟩, ⟨some 6, .bsl 122 4 1 [(.v (.int .i64 (0))), (.v (.string ⟨#[]⟩)), (.v (.string ⟨#[]⟩)), (.v (.int .i64 (0)))] [(0, 4, (.t 5))], none⟩, ⟨some 7, .bsl 4 1 2 [(.v (.bool false)), (.v (.bool false))] [(0, 1, (.b true)), (1, 1, (.b false))], none⟩, ⟨some 8, .build [(.v (.string ⟨#[]⟩)), (.v (.int .i64 (0))), (.v (.int .i64 (0))), (.v (.slice none 0 0))] [(0, 1, (.c (.string ⟨#[97]⟩))), (1, 1, (.c (.int .i64 (1)))), (2, 1, (.c (.int .i64 (2)))), (3, 1, (.t 7))], none⟩, ⟨some 9, .bsl 71 4 1 [(.v (.string ⟨#[]⟩)), (.v (.int .i64 (0))), (.v (.int .i64 (0))), (.v (.slice none 0 0))] [(0, 4, (.t 8))], none⟩, ⟨some 10, .build [(.v (.slice none 0 0)), (.v (.slice none 0 0)), (.v (.slice none 0 0))] [(0, 1, (.t 4)), (1, 1, (.t 6)), (2, 1, (.t 9))], none⟩, ⟨some 1, .alloc 26 [(.v (.slice none 0 0)), (.v (.slice none 0 0)), (.v (.slice none 0 0))], none⟩, ⟨none, .store 3 (.t 1) (.t 10), none⟩])
 (.seq (.reg [⟨some 12, .load true 3 (.t 1), none⟩, ⟨some 13, .bsl 9 1 1 [(.v (.string ⟨#[]⟩))] [(0, 1, (.c (.string ⟨#[105, 110]⟩)))], none⟩, ⟨some 14, .call 8 [(.t 12), (.t 13), (.c (.int .i64 (2)))], none⟩, ⟨some 11, .mov (.t 14), none⟩, ⟨some 15, .ext 0 (.t 11), none⟩, ⟨some 16, .ext 1 (.t 11), none⟩, ⟨some 2, .alloc 34 [(.v (.int .i64 (0))), (.v (.int .i64 (0))), (.v (.int .i64 (0))), (.v (.slice none 0 0)), (.v (.slice none 0 0)), (.v (.slice none 0 0)), (.v (.slice none 0 0)), (.v (.slice none 0 0))], none⟩, ⟨none, .store 8 (.t 2) (.t 15), none⟩, ⟨some 3, .mov (.t 16), none⟩])
 (.seq (.reg [⟨some 17, .load true 8 (.t 2), none⟩, ⟨none, .store 8 (.t 0) (.t 17), none⟩])
 .ret))))⟩
theorem t_hydrantlaw19_plain : trFn Tryz.prog 63 [] [] = some f_hydrantlaw19_plain := by kernel_rfl

abbrev n_pin_in : Nat := 64
/-- hydrant/pin.in -/
def f_pin_in : FnI := ⟨12, [.tmp 4],
 (.seq (.reg [⟨some 4, .mov (.b false), none⟩])
 (.seq (.reg [⟨some 5, .mov (.t 0), none⟩, ⟨some 6, .bini .geq (.t 5) (.c (.int .i64 (0))), none⟩, ⟨some 7, .mov (.t 6), none⟩, ⟨some 8, .mov (.t 0), some (7, true)⟩, ⟨some 9, .mov (.t 1), some (7, true)⟩, ⟨some 10, .bini .lss (.t 8) (.t 9), some (7, true)⟩, ⟨some 11, .pick (.t 7) (.t 10) (.b false), none⟩, ⟨some 4, .mov (.t 11), none⟩])
 .ret))⟩
theorem t_pin_in : trFn Tryz.prog 64 [] [] = some f_pin_in := by kernel_rfl

abbrev n_hydrantref18_Is : Nat := 65
/-- hydrant/hydrantref18.Is -/
def f_hydrantref18_Is : FnI := ⟨97, [.tmp 2],
 (.seq (.reg [⟨some 1, .box 34 (.t 0), none⟩, ⟨some 2, .mov (.b false), none⟩])
 (.seq (.seq (.reg [⟨some 4, .fadr 3 (.t 1), none⟩, ⟨some 5, .load false 1 (.t 4), none⟩, ⟨some 6, .len false (.t 5), none⟩, ⟨some 7, .bini .lss (.t 6) (.c (.int .i64 (1))), none⟩, ⟨some 8, .mov (.t 7), none⟩, ⟨some 9, .fadr 3 (.t 1), some (8, false)⟩, ⟨some 10, .load false 1 (.t 9), some (8, false)⟩, ⟨some 11, .len false (.t 10), some (8, false)⟩, ⟨some 12, .bini .gtr (.t 11) (.c (.int .i64 (8))), some (8, false)⟩, ⟨some 13, .pick (.t 8) (.b true) (.t 12), none⟩, ⟨some 14, .mov (.t 13), none⟩, ⟨some 15, .fadr 6 (.t 1), some (14, false)⟩, ⟨some 16, .load false 1 (.t 15), some (14, false)⟩, ⟨some 17, .len false (.t 16), some (14, false)⟩, ⟨some 18, .fadr 3 (.t 1), some (14, false)⟩, ⟨some 19, .load false 1 (.t 18), some (14, false)⟩, ⟨some 20, .len false (.t 19), some (14, false)⟩, ⟨some 21, .bini .neq (.t 17) (.t 20), some (14, false)⟩, ⟨some 22, .pick (.t 14) (.b true) (.t 21), none⟩, ⟨some 23, .mov (.t 22), none⟩, ⟨some 24, .fadr 6 (.t 1), some (23, false)⟩, ⟨some 25, .load false 1 (.t 24), some (23, false)⟩, ⟨some 26, .call 101 [(.t 25)], some (23, false)⟩, ⟨some 27, .not (.t 26), some (23, false)⟩, ⟨some 28, .pick (.t 23) (.b true) (.t 27), none⟩, ⟨some 29, .mov (.t 28), none⟩, ⟨some 30, .fadr 0 (.t 1), some (29, false)⟩, ⟨some 31, .load false 1 (.t 30), some (29, false)⟩, ⟨some 32, .bini .lss (.t 31) (.c (.int .i64 (0))), some (29, false)⟩, ⟨some 33, .pick (.t 29) (.b true) (.t 32), none⟩, ⟨some 34, .mov (.t 33), none⟩, ⟨some 35, .fadr 0 (.t 1), some (34, false)⟩, ⟨some 36, .load false 1 (.t 35), some (34, false)⟩, ⟨some 37, .bini .gtr (.t 36) (.c (.int .i64 (1000000000000))), some (34, false)⟩, ⟨some 38, .pick (.t 34) (.b true) (.t 37), none⟩, ⟨some 39, .mov (.t 38), none⟩, ⟨some 40, .fadr 2 (.t 1), some (39, false)⟩, ⟨some 41, .load false 1 (.t 40), some (39, false)⟩, ⟨some 42, .bini .lss (.t 41) (.c (.int .i64 (0))), some (39, false)⟩, ⟨some 43, .pick (.t 39) (.b true) (.t 42), none⟩, ⟨some 44, .mov (.t 43), none⟩, ⟨some 45, .fadr 2 (.t 1), some (44, false)⟩, ⟨some 46, .load false 1 (.t 45), some (44, false)⟩, ⟨some 47, .bini .gtr (.t 46) (.c (.int .i64 (1))), some (44, false)⟩, ⟨some 48, .pick (.t 44) (.b true) (.t 47), none⟩])
 (.cond (.t 48)
 (.seq (.reg [⟨some 2, .mov (.b false), none⟩])
 .ret)
 .skip))
 (.seq (.seq (.reg [⟨some 3, .mov (.c (.int .i64 (0))), none⟩])
 (.block 0
 (.loop [3] [49, 50, 51, 52, 53, 56, 57, 58, 59, 60, 61, 62, 63, 64, 65, 66, 67, 68, 69, 70, 71, 72, 2, 54, 55, 3]
 (.seq (.seq (.reg [⟨some 49, .mov (.t 3), none⟩, ⟨some 50, .fadr 3 (.t 1), none⟩, ⟨some 51, .load false 1 (.t 50), none⟩, ⟨some 52, .len false (.t 51), none⟩, ⟨some 53, .bini .lss (.t 49) (.t 52), none⟩])
 (.cond (.t 53)
 .skip
 (.exit 0)))
 (.seq (.block 1
 (.seq (.regD [] (.op ⟨0, false, [], ⟨some 56, .fadr 3 (.t 1), none⟩⟩
 (.op ⟨1, true, [], ⟨some 57, .load false 1 (.t 56), none⟩⟩
 (.op ⟨2, false, [], ⟨some 58, .mov (.t 3), none⟩⟩
 (.op ⟨3, true, [], ⟨some 59, .iadr 1 (.t 57) (.t 58), none⟩⟩
 (.op ⟨4, true, [], ⟨some 60, .load false 1 (.t 59), none⟩⟩
 (.op ⟨5, false, [], ⟨some 61, .bini .lss (.t 60) (.c (.int .i64 (0))), none⟩⟩
 (.op ⟨6, false, [], ⟨some 62, .mov (.t 61), none⟩⟩
 (.op ⟨7, false, [], ⟨some 63, .fadr 3 (.t 1), some (62, false)⟩⟩
 (.op ⟨8, true, [], ⟨some 64, .load false 1 (.t 63), some (62, false)⟩⟩
 (.op ⟨9, false, [], ⟨some 65, .mov (.t 3), some (62, false)⟩⟩
 (.op ⟨10, true, [], ⟨some 66, .iadr 1 (.t 64) (.t 65), some (62, false)⟩⟩
 (.op ⟨11, true, [], ⟨some 67, .load false 1 (.t 66), some (62, false)⟩⟩
 (.op ⟨12, false, [], ⟨some 68, .fadr 0 (.t 1), some (62, false)⟩⟩
 (.op ⟨13, true, [], ⟨some 69, .load false 1 (.t 68), some (62, false)⟩⟩
 (.op ⟨14, false, [], ⟨some 70, .bini .add (.t 69) (.c (.int .i64 (1))), some (62, false)⟩⟩
 (.op ⟨15, false, [], ⟨some 71, .bini .gtr (.t 67) (.t 70), some (62, false)⟩⟩
 (.op ⟨16, false, [], ⟨some 72, .pick (.t 62) (.b true) (.t 71), none⟩⟩
 .nil))))))))))))))))))
 (.cond (.t 72)
 (.seq (.reg [⟨some 2, .mov (.b false), none⟩])
 .ret)
 .skip)))
 (.reg [⟨some 54, .mov (.t 3), none⟩, ⟨some 55, .bini .add (.t 54) (.c (.int .i64 (1))), none⟩, ⟨some 3, .mov (.t 55), none⟩]))))))
 (.seq (.seq (.reg [⟨some 73, .fadr 1 (.t 1), none⟩, ⟨some 74, .load false 1 (.t 73), none⟩, ⟨some 75, .bini .lss (.t 74) (.c (.int .i64 (0))), none⟩, ⟨some 76, .mov (.t 75), none⟩, ⟨some 77, .fadr 1 (.t 1), some (76, false)⟩, ⟨some 78, .load false 1 (.t 77), some (76, false)⟩, ⟨some 79, .fadr 4 (.t 1), some (76, false)⟩, ⟨some 80, .load false 1 (.t 79), some (76, false)⟩, ⟨some 81, .len false (.t 80), some (76, false)⟩, ⟨some 82, .bini .geq (.t 78) (.t 81), some (76, false)⟩, ⟨some 83, .pick (.t 76) (.b true) (.t 82), none⟩, ⟨some 84, .mov (.t 83), none⟩, ⟨some 85, .load true 8 (.t 1), some (84, false)⟩, ⟨some 86, .call 102 [(.t 85)], some (84, false)⟩, ⟨some 87, .not (.t 86), some (84, false)⟩, ⟨some 88, .pick (.t 84) (.b true) (.t 87), none⟩])
 (.cond (.t 88)
 (.seq (.reg [⟨some 2, .mov (.b false), none⟩])
 .ret)
 .skip))
 (.seq (.reg [⟨some 89, .fadr 4 (.t 1), none⟩, ⟨some 90, .load false 1 (.t 89), none⟩, ⟨some 91, .fadr 1 (.t 1), none⟩, ⟨some 92, .load false 1 (.t 91), none⟩, ⟨some 93, .iadr 5 (.t 90) (.t 92), none⟩, ⟨some 94, .fadr 4 (.t 93), none⟩, ⟨some 95, .load false 1 (.t 94), none⟩, ⟨some 96, .not (.t 95), none⟩, ⟨some 2, .mov (.t 96), none⟩])
 .ret)))))⟩
theorem t_hydrantref18_Is : trFn Tryz.prog 65 [([], (.first 0 (.first 1 (.first 2 (.first 3 (.first 4 (.first 5 (.first 6 (.first 7 (.first 8 (.first 9 (.first 10 (.first 11 (.first 12 (.first 13 (.first 14 (.first 15 (.first 16 .nil))))))))))))))))))] [[3]] = some f_hydrantref18_Is := by kernel_rfl

abbrev n_hydrantref19_in : Nat := 66
/-- hydrant/hydrantref19.in -/
def f_hydrantref19_in : FnI := ⟨12, [.tmp 4],
 (.seq (.reg [⟨some 4, .mov (.b false), none⟩])
 (.seq (.reg [⟨some 5, .mov (.t 0), none⟩, ⟨some 6, .bini .geq (.t 5) (.c (.int .i64 (0))), none⟩, ⟨some 7, .mov (.t 6), none⟩, ⟨some 8, .mov (.t 0), some (7, true)⟩, ⟨some 9, .mov (.t 1), some (7, true)⟩, ⟨some 10, .bini .lss (.t 8) (.t 9), some (7, true)⟩, ⟨some 11, .pick (.t 7) (.t 10) (.b false), none⟩, ⟨some 4, .mov (.t 11), none⟩])
 .ret))⟩
theorem t_hydrantref19_in : trFn Tryz.prog 66 [] [] = some f_hydrantref19_in := by kernel_rfl

abbrev n_names_low : Nat := 67
/-- hydrant/names.low -/
def f_names_low : FnI := ⟨9, [.tmp 2],
 (.seq (.reg [⟨some 2, .mov (.b false), none⟩])
 (.seq (.reg [⟨some 3, .mov (.t 0), none⟩, ⟨some 4, .bini .geq (.t 3) (.c (.int .u8 (97))), none⟩, ⟨some 5, .mov (.t 4), none⟩, ⟨some 6, .mov (.t 0), some (5, true)⟩, ⟨some 7, .bini .leq (.t 6) (.c (.int .u8 (122))), some (5, true)⟩, ⟨some 8, .pick (.t 5) (.t 7) (.b false), none⟩, ⟨some 2, .mov (.t 8), none⟩])
 .ret))⟩
theorem t_names_low : trFn Tryz.prog 67 [] [] = some f_names_low := by kernel_rfl

abbrev n_names_word : Nat := 68
/-- hydrant/names.word -/
def f_names_word : FnI := ⟨2, [.cell 0 1 true],
 (.seq (.reg [⟨some 0, .alloc 125 [(.v .nilFunc)], none⟩])
 (.seq (.reg [⟨some 1, .build [(.v .nilFunc)] [(0, 1, (.c (.func (.func 103) #[] #[])))], none⟩, ⟨none, .store 1 (.t 0) (.t 1), none⟩])
 .ret))⟩
theorem t_names_word : trFn Tryz.prog 68 [] [] = some f_names_word := by kernel_rfl

abbrev n_names_alphabet__all : Nat := 69
/-- (hydrant/names.alphabet).all -/
def f_names_alphabet__all : FnI := ⟨28, [.tmp 6],
 (.seq (.reg [⟨some 3, .box 125 (.t 0), none⟩, ⟨some 6, .mov (.b false), none⟩])
 (.seq (.seq (.reg [⟨some 8, .mov (.t 1), none⟩, ⟨some 9, .len true (.t 8), none⟩, ⟨some 10, .mov (.c (.int .i64 (0))), none⟩])
 (.block 0
 (.loop [10] [11, 12, 7, 13, 14, 15, 16, 17, 18, 19, 20, 21, 22, 23, 24, 25, 26, 6, 27, 10]
 (.seq (.reg [⟨some 11, .bini .lss (.t 10) (.t 9), none⟩])
 (.seq (.cond (.t 11)
 .skip
 (.exit 0))
 (.seq (.block 1
 (.seq (.reg [⟨some 12, .mov (.t 10), none⟩, ⟨some 7, .mov (.t 12), none⟩])
 (.seq (.regD [] (.op ⟨0, false, [], ⟨some 13, .mov (.t 1), none⟩⟩
 (.op ⟨1, false, [], ⟨some 14, .mov (.t 7), none⟩⟩
 (.op ⟨2, false, [], ⟨some 15, .idxs (.t 13) (.t 14), none⟩⟩
 (.op ⟨3, false, [], ⟨some 16, .mov (.t 2), none⟩⟩
 (.op ⟨4, false, [], ⟨some 17, .bini .neq (.t 15) (.t 16), none⟩⟩
 (.op ⟨5, false, [], ⟨some 18, .mov (.t 17), none⟩⟩
 (.op ⟨6, false, [], ⟨some 19, .fadr 0 (.t 3), some (18, true)⟩⟩
 (.op ⟨7, true, [], ⟨some 20, .load false 1 (.t 19), some (18, true)⟩⟩
 (.op ⟨8, false, [], ⟨some 21, .mov (.t 1), some (18, true)⟩⟩
 (.op ⟨9, false, [], ⟨some 22, .mov (.t 7), some (18, true)⟩⟩
 (.op ⟨10, false, [], ⟨some 23, .idxs (.t 21) (.t 22), some (18, true)⟩⟩
 (.op ⟨11, false, [], ⟨some 24, .callv (.t 20) [(.t 23)], some (18, true)⟩⟩
 (.op ⟨12, false, [], ⟨some 25, .not (.t 24), some (18, true)⟩⟩
 (.op ⟨13, false, [], ⟨some 26, .pick (.t 18) (.t 25) (.b false), none⟩⟩
 .nil)))))))))))))))
 (.cond (.t 26)
 (.seq (.reg [⟨some 6, .mov (.b false), none⟩])
 .ret)
 .skip))))
 (.reg [⟨some 27, .bini .add (.t 10) (.c (.int .i64 (1))), none⟩, ⟨some 10, .mov (.t 27), none⟩])))))))
 (.seq (.reg [⟨some 6, .mov (.b true), none⟩])
 .ret)))⟩
theorem t_names_alphabet__all : trFn Tryz.prog 69 [([], (.first 0 (.first 1 (.first 2 (.first 3 (.first 4 (.first 5 (.first 6 (.first 7 (.first 8 (.first 9 (.first 10 (.exec 11 (.first 12 (.first 13 .nil)))))))))))))))] [[10]] = some f_names_alphabet__all := by kernel_rfl

abbrev n_slices_IndexFunc___api_Listen_api_Listen : Nat := 70
/-- slices.IndexFunc[[]hydrant/api.Listen,hydrant/api.Listen] -/
def f_slices_IndexFunc___api_Listen_api_Listen : FnI := ⟨19, [.tmp 4],
 (.seq (.reg [⟨some 4, .mov (.c (.int .i64 (0))), none⟩])
 (.seq (.seq (.reg [⟨some 6, .mov (.t 0), none⟩, ⟨some 7, .len false (.t 6), none⟩, ⟨some 8, .mov (.c (.int .i64 (0))), none⟩])
 (.block 0
 (.loop [8] [9, 10, 5, 11, 12, 13, 14, 15, 16, 17, 4, 18, 8]
 (.seq (.reg [⟨some 9, .bini .lss (.t 8) (.t 7), none⟩])
 (.seq (.cond (.t 9)
 .skip
 (.exit 0))
 (.seq (.block 1
 (.seq (.reg [⟨some 10, .mov (.t 8), none⟩, ⟨some 5, .mov (.t 10), none⟩])
 (.seq (.reg [⟨some 11, .mov (.t 1), none⟩, ⟨some 12, .mov (.t 0), none⟩, ⟨some 13, .mov (.t 5), none⟩, ⟨some 14, .iadr 4 (.t 12) (.t 13), none⟩, ⟨some 15, .load true 4 (.t 14), none⟩, ⟨some 16, .callv (.t 11) [(.t 15)], none⟩])
 (.cond (.t 16)
 (.seq (.reg [⟨some 17, .mov (.t 5), none⟩, ⟨some 4, .mov (.t 17), none⟩])
 .ret)
 .skip))))
 (.reg [⟨some 18, .bini .add (.t 8) (.c (.int .i64 (1))), none⟩, ⟨some 8, .mov (.t 18), none⟩])))))))
 (.seq (.reg [⟨some 4, .mov (.c (.int .i64 (-1))), none⟩])
 .ret)))⟩
theorem t_slices_IndexFunc___api_Listen_api_Listen : trFn Tryz.prog 70 [] [[8]] = some f_slices_IndexFunc___api_Listen_api_Listen := by kernel_rfl

abbrev n_gates_Place_1 : Nat := 71
theorem k_gates_Place_1 : FnOk Tryz.prog 71 := FnOk.of (by kernel_rfl)
/-- hydrant/gates.Place$1 -/
def f_gates_Place_1 : FnI := ⟨8, [.tmp 3],
 (.seq (.reg [⟨some 2, .box 77 (.t 0), none⟩, ⟨some 3, .mov (.b false), none⟩])
 (.seq (.reg [⟨some 4, .fadr 0 (.t 2), none⟩, ⟨some 5, .load false 1 (.t 4), none⟩, ⟨some 6, .load false 1 (.t 1), none⟩, ⟨some 7, .bins .eql (.t 5) (.t 6), none⟩, ⟨some 3, .mov (.t 7), none⟩])
 .ret))⟩
theorem t_gates_Place_1 : trFn Tryz.prog 71 [] [] = some f_gates_Place_1 := by kernel_rfl

abbrev n_hydrantref03_low : Nat := 72
/-- hydrant/hydrantref03.low -/
def f_hydrantref03_low : FnI := ⟨9, [.tmp 2],
 (.seq (.reg [⟨some 2, .mov (.b false), none⟩])
 (.seq (.reg [⟨some 3, .mov (.t 0), none⟩, ⟨some 4, .bini .geq (.t 3) (.c (.int .u8 (97))), none⟩, ⟨some 5, .mov (.t 4), none⟩, ⟨some 6, .mov (.t 0), some (5, true)⟩, ⟨some 7, .bini .leq (.t 6) (.c (.int .u8 (122))), some (5, true)⟩, ⟨some 8, .pick (.t 5) (.t 7) (.b false), none⟩, ⟨some 2, .mov (.t 8), none⟩])
 .ret))⟩
theorem t_hydrantref03_low : trFn Tryz.prog 72 [] [] = some f_hydrantref03_low := by kernel_rfl

abbrev n_hydrantref03_word : Nat := 73
/-- hydrant/hydrantref03.word -/
def f_hydrantref03_word : FnI := ⟨17, [.tmp 2],
 (.seq (.reg [⟨some 2, .mov (.b false), none⟩])
 (.seq (.reg [⟨some 3, .mov (.t 0), none⟩, ⟨some 4, .call 72 [(.t 3)], none⟩, ⟨some 5, .mov (.t 4), none⟩, ⟨some 6, .mov (.t 0), some (5, false)⟩, ⟨some 7, .bini .geq (.t 6) (.c (.int .u8 (48))), some (5, false)⟩, ⟨some 8, .mov (.t 7), some (5, false)⟩, ⟨some 9, .mov (.t 0), some (8, true)⟩, ⟨some 10, .bini .leq (.t 9) (.c (.int .u8 (57))), some (8, true)⟩, ⟨some 11, .pick (.t 8) (.t 10) (.b false), some (5, false)⟩, ⟨some 12, .pick (.t 5) (.b true) (.t 11), none⟩, ⟨some 13, .mov (.t 12), none⟩, ⟨some 14, .mov (.t 0), some (13, false)⟩, ⟨some 15, .bini .eql (.t 14) (.c (.int .u8 (45))), some (13, false)⟩, ⟨some 16, .pick (.t 13) (.b true) (.t 15), none⟩, ⟨some 2, .mov (.t 16), none⟩])
 .ret))⟩
theorem t_hydrantref03_word : trFn Tryz.prog 73 [] [] = some f_hydrantref03_word := by kernel_rfl

abbrev n_tag_Make : Nat := 74
/-- hydrant/tag.Make -/
def f_tag_Make : FnI := ⟨19, [.tmp 4, .tmp 5],
 (.seq (.reg [⟨some 4, .mov (.c (.int .u64 (0))), none⟩, ⟨some 5, .mov (.c (.int .i64 (0))), none⟩])
 (.seq (.seq (.reg [⟨some 6, .mov (.t 1), none⟩, ⟨some 7, .bini .lss (.t 6) (.c (.int .i64 (-1))), none⟩, ⟨some 8, .mov (.t 7), none⟩, ⟨some 9, .mov (.t 1), some (8, false)⟩, ⟨some 10, .bini .gtr (.t 9) (.c (.int .i64 (2147483646))), some (8, false)⟩, ⟨some 11, .pick (.t 8) (.b true) (.t 10), none⟩])
 (.cond (.t 11)
 (.seq (.reg [⟨some 4, .mov (.c (.int .u64 (0))), none⟩, ⟨some 5, .mov (.c (.int .i64 (1))), none⟩])
 .ret)
 .skip))
 (.seq (.reg [⟨some 12, .mov (.t 0), none⟩, ⟨some 13, .conv .u64 (.t 12), none⟩, ⟨some 14, .bini .shl (.t 13) (.c (.int .u64 (32))), none⟩, ⟨some 15, .mov (.t 1), none⟩, ⟨some 16, .bini .sub (.t 15) (.c (.int .i64 (-1))), none⟩, ⟨some 17, .conv .u64 (.t 16), none⟩, ⟨some 18, .bini .or (.t 14) (.t 17), none⟩, ⟨some 4, .mov (.t 18), none⟩, ⟨some 5, .mov (.c (.int .i64 (0))), none⟩])
 .ret)))⟩
theorem t_tag_Make : trFn Tryz.prog 74 [] [] = some f_tag_Make := by kernel_rfl

abbrev n_hydrantref05_Check : Nat := 75
/-- hydrant/hydrantref05.Check -/
def f_hydrantref05_Check : FnI := ⟨69, [.tmp 2, .tmp 3],
 (.seq (.reg [⟨some 1, .box 51 (.t 0), none⟩, ⟨some 2, .mov (.c (.int .i64 (0))), none⟩, ⟨some 3, .mov (.c (.int .i64 (0))), none⟩])
 (.seq (.seq (.reg [⟨some 10, .fadr 0 (.t 1), none⟩, ⟨some 11, .load false 1 (.t 10), none⟩, ⟨some 12, .len false (.t 11), none⟩, ⟨some 13, .bini .lss (.t 12) (.c (.int .i64 (1))), none⟩, ⟨some 14, .mov (.t 13), none⟩, ⟨some 15, .fadr 0 (.t 1), some (14, false)⟩, ⟨some 16, .load false 1 (.t 15), some (14, false)⟩, ⟨some 17, .len false (.t 16), some (14, false)⟩, ⟨some 18, .bini .gtr (.t 17) (.c (.int .i64 (4))), some (14, false)⟩, ⟨some 19, .pick (.t 14) (.b true) (.t 18), none⟩, ⟨some 20, .mov (.t 19), none⟩, ⟨some 21, .fadr 1 (.t 1), some (20, false)⟩, ⟨some 22, .load false 1 (.t 21), some (20, false)⟩, ⟨some 23, .len false (.t 22), some (20, false)⟩, ⟨some 24, .bini .lss (.t 23) (.c (.int .i64 (1))), some (20, false)⟩, ⟨some 25, .pick (.t 20) (.b true) (.t 24), none⟩, ⟨some 26, .mov (.t 25), none⟩, ⟨some 27, .fadr 1 (.t 1), some (26, false)⟩, ⟨some 28, .load false 1 (.t 27), some (26, false)⟩, ⟨some 29, .len false (.t 28), some (26, false)⟩, ⟨some 30, .bini .gtr (.t 29) (.c (.int .i64 (8))), some (26, false)⟩, ⟨some 31, .pick (.t 26) (.b true) (.t 30), none⟩, ⟨some 32, .mov (.t 31), none⟩, ⟨some 33, .fadr 2 (.t 1), some (32, false)⟩, ⟨some 34, .load false 1 (.t 33), some (32, false)⟩, ⟨some 35, .len false (.t 34), some (32, false)⟩, ⟨some 36, .bini .lss (.t 35) (.c (.int .i64 (1))), some (32, false)⟩, ⟨some 37, .pick (.t 32) (.b true) (.t 36), none⟩, ⟨some 38, .mov (.t 37), none⟩, ⟨some 39, .fadr 2 (.t 1), some (38, false)⟩, ⟨some 40, .load false 1 (.t 39), some (38, false)⟩, ⟨some 41, .len false (.t 40), some (38, false)⟩, ⟨some 42, .bini .gtr (.t 41) (.c (.int .i64 (4))), some (38, false)⟩, ⟨some 43, .pick (.t 38) (.b true) (.t 42), none⟩])
 (.cond (.t 43)
 (.seq (.reg [⟨some 2, .mov (.c (.int .i64 (6))), none⟩, ⟨some 3, .mov (.c (.int .i64 (0))), none⟩])
 .ret)
 .skip))
 (.seq (.reg [⟨some 45, .load true 3 (.t 1), none⟩, ⟨some 46, .call 104 [(.t 45)], none⟩, ⟨some 44, .mov (.t 46), none⟩, ⟨some 47, .ext 0 (.t 44), none⟩, ⟨some 48, .ext 1 (.t 44), none⟩, ⟨some 4, .mov (.t 47), none⟩, ⟨some 5, .mov (.t 48), none⟩])
 (.seq (.seq (.reg [⟨some 49, .mov (.t 4), none⟩, ⟨some 50, .bini .neq (.t 49) (.c (.int .i64 (0))), none⟩])
 (.cond (.t 50)
 (.seq (.reg [⟨some 51, .mov (.t 4), none⟩, ⟨some 52, .mov (.t 5), none⟩, ⟨some 2, .mov (.t 51), none⟩, ⟨some 3, .mov (.t 52), none⟩])
 .ret)
 .skip))
 (.seq (.reg [⟨some 54, .load true 3 (.t 1), none⟩, ⟨some 55, .call 105 [(.t 54)], none⟩, ⟨some 53, .mov (.t 55), none⟩, ⟨some 56, .ext 0 (.t 53), none⟩, ⟨some 57, .ext 1 (.t 53), none⟩, ⟨some 6, .mov (.t 56), none⟩, ⟨some 7, .mov (.t 57), none⟩])
 (.seq (.seq (.reg [⟨some 58, .mov (.t 6), none⟩, ⟨some 59, .bini .neq (.t 58) (.c (.int .i64 (0))), none⟩])
 (.cond (.t 59)
 (.seq (.reg [⟨some 60, .mov (.t 6), none⟩, ⟨some 61, .mov (.t 7), none⟩, ⟨some 2, .mov (.t 60), none⟩, ⟨some 3, .mov (.t 61), none⟩])
 .ret)
 .skip))
 (.seq (.reg [⟨some 63, .load true 3 (.t 1), none⟩, ⟨some 64, .call 106 [(.t 63)], none⟩, ⟨some 62, .mov (.t 64), none⟩, ⟨some 65, .ext 0 (.t 62), none⟩, ⟨some 66, .ext 1 (.t 62), none⟩, ⟨some 8, .mov (.t 65), none⟩, ⟨some 9, .mov (.t 66), none⟩])
 (.seq (.reg [⟨some 67, .mov (.t 8), none⟩, ⟨some 68, .mov (.t 9), none⟩, ⟨some 2, .mov (.t 67), none⟩, ⟨some 3, .mov (.t 68), none⟩])
 .ret))))))))⟩
theorem t_hydrantref05_Check : trFn Tryz.prog 75 [] [] = some f_hydrantref05_Check := by kernel_rfl

abbrev n_hydrantref07_Config : Nat := 76
/-- hydrant/hydrantref07.Config -/
def f_hydrantref07_Config : FnI := ⟨73, [.cell 2 3 true],
 (.seq (.reg [⟨some 1, .box 26 (.t 0), none⟩, ⟨some 2, .alloc 51 [(.v (.slice none 0 0)), (.v (.slice none 0 0)), (.v (.slice none 0 0))], none⟩])
 (.seq (.reg [⟨some 7, .fadr 0 (.t 1), none⟩, ⟨some 8, .load false 1 (.t 7), none⟩, ⟨some 9, .fadr 2 (.t 1), none⟩, ⟨some 10, .load false 1 (.t 9), none⟩, ⟨some 11, .build [(.v (.slice none 0 0)), (.v (.slice none 0 0)), (.v (.slice none 0 0))] [(0, 1, (.t 8)), (2, 1, (.t 10))], none⟩, ⟨some 3, .alloc 51 [(.v (.slice none 0 0)), (.v (.slice none 0 0)), (.v (.slice none 0 0))], none⟩, ⟨none, .store 3 (.t 3) (.t 11), none⟩])
 (.seq (.seq (.reg [⟨some 4, .mov (.c (.int .i64 (0))), none⟩])
 (.block 0
 (.loop [4] [12, 13, 14, 15, 16, 19, 20, 21, 22, 23, 5, 24, 25, 26, 27, 28, 6, 29, 30, 31, 32, 33, 34, 35, 36, 37, 38, 39, 40, 41, 42, 43, 44, 45, 46, 47, 48, 49, 50, 51, 52, 53, 54, 55, 56, 57, 58, 59, 60, 61, 62, 63, 64, 65, 66, 67, 68, 69, 70, 71, 17, 18, 4]
 (.seq (.seq (.reg [⟨some 12, .mov (.t 4), none⟩, ⟨some 13, .fadr 1 (.t 1), none⟩, ⟨some 14, .load false 1 (.t 13), none⟩, ⟨some 15, .len false (.t 14), none⟩, ⟨some 16, .bini .lss (.t 12) (.t 15), none⟩])
 (.cond (.t 16)
 .skip
 (.exit 0)))
 (.seq (.block 1
 (.seq (.reg [⟨some 19, .fadr 1 (.t 1), none⟩, ⟨some 20, .load false 1 (.t 19), none⟩, ⟨some 21, .mov (.t 4), none⟩, ⟨some 22, .iadr 4 (.t 20) (.t 21), none⟩, ⟨some 23, .load true 4 (.t 22), none⟩, ⟨some 5, .alloc 122 [(.v (.int .i64 (0))), (.v (.string ⟨#[]⟩)), (.v (.string ⟨#[]⟩)), (.v (.int .i64 (0)))], none⟩, ⟨none, .store 4 (.t 5) (.t 23), none⟩])
 (.seq (.reg [⟨some 24, .fadr 1 (.t 5), none⟩, ⟨some 25, .load false 1 (.t 24), none⟩, ⟨some 26, .fadr 2 (.t 5), none⟩, ⟨some 27, .load false 1 (.t 26), none⟩, ⟨some 28, .build [(.v (.string ⟨#[]⟩)), (.v (.string ⟨#[]⟩)), (.v (.string ⟨#[]⟩)), (.v (.string ⟨#[]⟩))] [(1, 1, (.t 25)), (2, 1, (.t 27))], none⟩, ⟨some 6, .alloc 157 [(.v (.string ⟨#[]⟩)), (.v (.string ⟨#[]⟩)), (.v (.string ⟨#[]⟩)), (.v (.string ⟨#[]⟩))], none⟩, ⟨none, .store 4 (.t 6) (.t 28), none⟩])
 (.seq (.seq (.reg [⟨some 29, .fadr 0 (.t 5), none⟩, ⟨some 30, .load false 1 (.t 29), none⟩, ⟨some 31, .bini .geq (.t 30) (.c (.int .i64 (0))), none⟩, ⟨some 32, .mov (.t 31), none⟩, ⟨some 33, .fadr 0 (.t 5), some (32, true)⟩, ⟨some 34, .load false 1 (.t 33), some (32, true)⟩, ⟨some 35, .fadr 0 (.t 1), some (32, true)⟩, ⟨some 36, .load false 1 (.t 35), some (32, true)⟩, ⟨some 37, .len false (.t 36), some (32, true)⟩, ⟨some 38, .bini .lss (.t 34) (.t 37), some (32, true)⟩, ⟨some 39, .pick (.t 32) (.t 38) (.b false), none⟩])
 (.cond (.t 39)
 (.reg [⟨some 40, .fadr 0 (.t 1), none⟩, ⟨some 41, .load false 1 (.t 40), none⟩, ⟨some 42, .fadr 0 (.t 5), none⟩, ⟨some 43, .load false 1 (.t 42), none⟩, ⟨some 44, .iadr 1 (.t 41) (.t 43), none⟩, ⟨some 45, .load false 1 (.t 44), none⟩, ⟨some 46, .fadr 0 (.t 6), none⟩, ⟨none, .store 1 (.t 46) (.t 45), none⟩])
 .skip))
 (.seq (.seq (.reg [⟨some 47, .fadr 3 (.t 5), none⟩, ⟨some 48, .load false 1 (.t 47), none⟩, ⟨some 49, .bini .geq (.t 48) (.c (.int .i64 (0))), none⟩, ⟨some 50, .mov (.t 49), none⟩, ⟨some 51, .fadr 3 (.t 5), some (50, true)⟩, ⟨some 52, .load false 1 (.t 51), some (50, true)⟩, ⟨some 53, .fadr 2 (.t 1), some (50, true)⟩, ⟨some 54, .load false 1 (.t 53), some (50, true)⟩, ⟨some 55, .len false (.t 54), some (50, true)⟩, ⟨some 56, .bini .lss (.t 52) (.t 55), some (50, true)⟩, ⟨some 57, .pick (.t 50) (.t 56) (.b false), none⟩])
 (.cond (.t 57)
 (.reg [⟨some 58, .fadr 2 (.t 1), none⟩, ⟨some 59, .load false 1 (.t 58), none⟩, ⟨some 60, .fadr 3 (.t 5), none⟩, ⟨some 61, .load false 1 (.t 60), none⟩, ⟨some 62, .iadr 4 (.t 59) (.t 61), none⟩, ⟨some 63, .fadr 0 (.t 62), none⟩, ⟨some 64, .load false 1 (.t 63), none⟩, ⟨some 65, .fadr 3 (.t 6), none⟩, ⟨none, .store 1 (.t 65) (.t 64), none⟩])
 .skip))
 (.reg [⟨some 66, .fadr 1 (.t 3), none⟩, ⟨some 67, .load false 1 (.t 66), none⟩, ⟨some 68, .load true 4 (.t 6), none⟩, ⟨some 69, .bsl 157 4 1 [(.v (.string ⟨#[]⟩)), (.v (.string ⟨#[]⟩)), (.v (.string ⟨#[]⟩)), (.v (.string ⟨#[]⟩))] [(0, 4, (.t 68))], none⟩, ⟨some 70, .app 157 4 64 (.t 67) (.t 69), none⟩, ⟨some 71, .fadr 1 (.t 3), none⟩, ⟨none, .store 1 (.t 71) (.t 70), none⟩]))))))
 (.reg [⟨some 17, .mov (.t 4), none⟩, ⟨some 18, .bini .add (.t 17) (.c (.int .i64 (1))), none⟩, ⟨some 4, .mov (.t 18), none⟩]))))))
 (.seq (.reg [⟨some 72, .load true 3 (.t 3), none⟩, ⟨none, .store 3 (.t 2) (.t 72), none⟩])
 .ret))))⟩
theorem t_hydrantref07_Config : trFn Tryz.prog 76 [] [[4]] = some f_hydrantref07_Config := by kernel_rfl

abbrev n_slices_Clone___int_int : Nat := 77
/-- slices.Clone[[]int,int] -/
def f_slices_Clone___int_int : FnI := ⟨8, [.tmp 2],
 (.seq (.reg [⟨some 2, .mov (.c (.slice none 0 0)), none⟩])
 (.seq (.seq (.reg [⟨some 3, .mov (.t 0), none⟩, ⟨some 4, .binn 0 false (.t 3), none⟩])
 (.cond (.t 4)
 (.seq (.reg [⟨some 2, .mov (.c (.slice none 0 0)), none⟩])
 .ret)
 .skip))
 (.seq (.reg [⟨some 5, .bsl 3 1 0 [] [], none⟩, ⟨some 6, .mov (.t 0), none⟩, ⟨some 7, .app 3 1 8 (.t 5) (.t 6), none⟩, ⟨some 2, .mov (.t 7), none⟩])
 .ret)))⟩
theorem t_slices_Clone___int_int : trFn Tryz.prog 77 [] [] = some f_slices_Clone___int_int := by kernel_rfl

abbrev n_world_each_api_Version_world_cloner : Nat := 78
/-- hydrant/world.each[hydrant/api.Version,hydrant/world.cloner] -/
def f_world_each_api_Version_world_cloner : FnI := ⟨29, [.tmp 6],
 (.seq (.reg [⟨some 5, .box 133 (.t 2), none⟩, ⟨some 6, .mov (.c (.slice none 0 0)), none⟩])
 (.seq (.reg [⟨some 10, .mov (.t 0), none⟩, ⟨some 11, .len false (.t 10), none⟩, ⟨some 12, .msl 40 5 104 [(.slice none 0 0), (.slice none 0 0), (.slice none 0 0), (.slice none 0 0), (.bool false)] (.t 11) (.t 11), none⟩, ⟨some 7, .mov (.t 12), none⟩])
 (.seq (.seq (.reg [⟨some 13, .mov (.t 0), none⟩, ⟨some 14, .len false (.t 13), none⟩, ⟨some 15, .mov (.c (.int .i64 (0))), none⟩])
 (.block 0
 (.loop [15] [16, 17, 18, 19, 9, 8, 20, 21, 22, 23, 24, 25, 26, 27, 15]
 (.seq (.reg [⟨some 16, .bini .lss (.t 15) (.t 14), none⟩])
 (.seq (.cond (.t 16)
 .skip
 (.exit 0))
 (.seq (.block 1
 (.seq (.reg [⟨some 17, .mov (.t 15), none⟩, ⟨some 18, .iadr 5 (.t 13) (.t 15), none⟩, ⟨some 19, .load true 5 (.t 18), none⟩, ⟨some 9, .alloc 40 [(.v (.slice none 0 0)), (.v (.slice none 0 0)), (.v (.slice none 0 0)), (.v (.slice none 0 0)), (.v (.bool false))], none⟩, ⟨some 8, .mov (.t 17), none⟩, ⟨none, .store 5 (.t 9) (.t 19), none⟩])
 (.reg [⟨some 20, .mov (.t 7), none⟩, ⟨some 21, .mov (.t 8), none⟩, ⟨some 22, .mov (.t 1), none⟩, ⟨some 23, .load true 0 (.t 5), none⟩, ⟨some 24, .load true 5 (.t 9), none⟩, ⟨some 25, .callv (.t 22) [(.t 23), (.t 24)], none⟩, ⟨some 26, .iadr 5 (.t 20) (.t 21), none⟩, ⟨none, .store 5 (.t 26) (.t 25), none⟩])))
 (.reg [⟨some 27, .bini .add (.t 15) (.c (.int .i64 (1))), none⟩, ⟨some 15, .mov (.t 27), none⟩])))))))
 (.seq (.reg [⟨some 28, .mov (.t 7), none⟩, ⟨some 6, .mov (.t 28), none⟩])
 .ret))))⟩
theorem t_world_each_api_Version_world_cloner : trFn Tryz.prog 78 [] [[15]] = some f_world_each_api_Version_world_cloner := by kernel_rfl

abbrev n_world_cloner__version : Nat := 79
/-- (hydrant/world.cloner).version -/
def f_world_cloner__version : FnI := ⟨11, [.cell 4 5 true],
 (.seq (.reg [⟨some 2, .box 133 (.t 0), none⟩, ⟨some 3, .box 40 (.t 1), none⟩, ⟨some 4, .alloc 40 [(.v (.slice none 0 0)), (.v (.slice none 0 0)), (.v (.slice none 0 0)), (.v (.slice none 0 0)), (.v (.bool false))], none⟩])
 (.seq (.reg [⟨some 5, .fadr 3 (.t 3), none⟩, ⟨some 6, .load false 1 (.t 5), none⟩, ⟨some 7, .load true 0 (.t 2), none⟩, ⟨some 8, .call 107 [(.t 6), (.c (.func (.func 108) #[] #[])), (.t 7)], none⟩, ⟨some 9, .fadr 3 (.t 3), none⟩, ⟨none, .store 1 (.t 9) (.t 8), none⟩])
 (.seq (.reg [⟨some 10, .load true 5 (.t 3), none⟩, ⟨none, .store 5 (.t 4) (.t 10), none⟩])
 .ret)))⟩
theorem t_world_cloner__version : trFn Tryz.prog 79 [] [] = some f_world_cloner__version := by kernel_rfl

abbrev n_slices_Clone___api_Listen_api_Listen : Nat := 80
/-- slices.Clone[[]hydrant/api.Listen,hydrant/api.Listen] -/
def f_slices_Clone___api_Listen_api_Listen : FnI := ⟨8, [.tmp 2],
 (.seq (.reg [⟨some 2, .mov (.c (.slice none 0 0)), none⟩])
 (.seq (.seq (.reg [⟨some 3, .mov (.t 0), none⟩, ⟨some 4, .binn 0 false (.t 3), none⟩])
 (.cond (.t 4)
 (.seq (.reg [⟨some 2, .mov (.c (.slice none 0 0)), none⟩])
 .ret)
 .skip))
 (.seq (.reg [⟨some 5, .bsl 77 4 0 [] [], none⟩, ⟨some 6, .mov (.t 0), none⟩, ⟨some 7, .app 77 4 40 (.t 5) (.t 6), none⟩, ⟨some 2, .mov (.t 7), none⟩])
 .ret)))⟩
theorem t_slices_Clone___api_Listen_api_Listen : trFn Tryz.prog 80 [] [] = some f_slices_Clone___api_Listen_api_Listen := by kernel_rfl

abbrev n_world_each___uint64_world_cloner : Nat := 81
/-- hydrant/world.each[[]uint64,hydrant/world.cloner] -/
def f_world_each___uint64_world_cloner : FnI := ⟨29, [.tmp 6],
 (.seq (.reg [⟨some 5, .box 133 (.t 2), none⟩, ⟨some 6, .mov (.c (.slice none 0 0)), none⟩])
 (.seq (.reg [⟨some 10, .mov (.t 0), none⟩, ⟨some 11, .len false (.t 10), none⟩, ⟨some 12, .msl 106 1 24 [(.slice none 0 0)] (.t 11) (.t 11), none⟩, ⟨some 7, .mov (.t 12), none⟩])
 (.seq (.seq (.reg [⟨some 13, .mov (.t 0), none⟩, ⟨some 14, .len false (.t 13), none⟩, ⟨some 15, .mov (.c (.int .i64 (0))), none⟩])
 (.block 0
 (.loop [15] [16, 17, 18, 19, 8, 9, 20, 21, 22, 23, 24, 25, 26, 27, 15]
 (.seq (.reg [⟨some 16, .bini .lss (.t 15) (.t 14), none⟩])
 (.seq (.cond (.t 16)
 .skip
 (.exit 0))
 (.seq (.block 1
 (.seq (.reg [⟨some 17, .mov (.t 15), none⟩, ⟨some 18, .iadr 1 (.t 13) (.t 15), none⟩, ⟨some 19, .load false 1 (.t 18), none⟩, ⟨some 8, .mov (.t 17), none⟩, ⟨some 9, .mov (.t 19), none⟩])
 (.reg [⟨some 20, .mov (.t 7), none⟩, ⟨some 21, .mov (.t 8), none⟩, ⟨some 22, .mov (.t 1), none⟩, ⟨some 23, .load true 0 (.t 5), none⟩, ⟨some 24, .mov (.t 9), none⟩, ⟨some 25, .callv (.t 22) [(.t 23), (.t 24)], none⟩, ⟨some 26, .iadr 1 (.t 20) (.t 21), none⟩, ⟨none, .store 1 (.t 26) (.t 25), none⟩])))
 (.reg [⟨some 27, .bini .add (.t 15) (.c (.int .i64 (1))), none⟩, ⟨some 15, .mov (.t 27), none⟩])))))))
 (.seq (.reg [⟨some 28, .mov (.t 7), none⟩, ⟨some 6, .mov (.t 28), none⟩])
 .ret))))⟩
theorem t_world_each___uint64_world_cloner : trFn Tryz.prog 81 [] [[15]] = some f_world_each___uint64_world_cloner := by kernel_rfl

abbrev n_world_cloner__row : Nat := 82
/-- (hydrant/world.cloner).row -/
def f_world_cloner__row : FnI := ⟨7, [.tmp 4],
 (.seq (.reg [⟨some 2, .box 133 (.t 0), none⟩, ⟨some 4, .mov (.c (.slice none 0 0)), none⟩])
 (.seq (.reg [⟨some 5, .mov (.t 1), none⟩, ⟨some 6, .call 109 [(.t 5)], none⟩, ⟨some 4, .mov (.t 6), none⟩])
 .ret))⟩
theorem t_world_cloner__row : trFn Tryz.prog 82 [] [] = some f_world_cloner__row := by kernel_rfl

abbrev n_slices_Clone___api_Retired_api_Retired : Nat := 83
/-- slices.Clone[[]hydrant/api.Retired,hydrant/api.Retired] -/
def f_slices_Clone___api_Retired_api_Retired : FnI := ⟨8, [.tmp 2],
 (.seq (.reg [⟨some 2, .mov (.c (.slice none 0 0)), none⟩])
 (.seq (.seq (.reg [⟨some 3, .mov (.t 0), none⟩, ⟨some 4, .binn 0 false (.t 3), none⟩])
 (.cond (.t 4)
 (.seq (.reg [⟨some 2, .mov (.c (.slice none 0 0)), none⟩])
 .ret)
 .skip))
 (.seq (.reg [⟨some 5, .bsl 95 3 0 [] [], none⟩, ⟨some 6, .mov (.t 0), none⟩, ⟨some 7, .app 95 3 24 (.t 5) (.t 6), none⟩, ⟨some 2, .mov (.t 7), none⟩])
 .ret)))⟩
theorem t_slices_Clone___api_Retired_api_Retired : trFn Tryz.prog 83 [] [] = some f_slices_Clone___api_Retired_api_Retired := by kernel_rfl

abbrev n_hydrantref07_sameTexts : Nat := 84
/-- hydrant/hydrantref07.sameTexts -/
def f_hydrantref07_sameTexts : FnI := ⟨26, [.tmp 4],
 (.seq (.reg [⟨some 4, .mov (.b false), none⟩])
 (.seq (.seq (.reg [⟨some 6, .mov (.t 0), none⟩, ⟨some 7, .len false (.t 6), none⟩, ⟨some 8, .mov (.t 1), none⟩, ⟨some 9, .len false (.t 8), none⟩, ⟨some 10, .bini .neq (.t 7) (.t 9), none⟩])
 (.cond (.t 10)
 (.seq (.reg [⟨some 4, .mov (.b false), none⟩])
 .ret)
 .skip))
 (.seq (.seq (.reg [⟨some 5, .mov (.c (.int .i64 (0))), none⟩])
 (.block 0
 (.loop [5] [11, 12, 13, 14, 17, 18, 19, 20, 21, 22, 23, 24, 25, 4, 15, 16, 5]
 (.seq (.seq (.reg [⟨some 11, .mov (.t 5), none⟩, ⟨some 12, .mov (.t 0), none⟩, ⟨some 13, .len false (.t 12), none⟩, ⟨some 14, .bini .lss (.t 11) (.t 13), none⟩])
 (.cond (.t 14)
 .skip
 (.exit 0)))
 (.seq (.block 1
 (.seq (.regD [] (.op ⟨0, false, [], ⟨some 17, .mov (.t 0), none⟩⟩
 (.op ⟨1, false, [], ⟨some 18, .mov (.t 5), none⟩⟩
 (.op ⟨2, true, [], ⟨some 19, .iadr 1 (.t 17) (.t 18), none⟩⟩
 (.op ⟨3, true, [], ⟨some 20, .load false 1 (.t 19), none⟩⟩
 (.op ⟨4, false, [], ⟨some 21, .mov (.t 1), none⟩⟩
 (.op ⟨5, false, [], ⟨some 22, .mov (.t 5), none⟩⟩
 (.op ⟨6, true, [], ⟨some 23, .iadr 1 (.t 21) (.t 22), none⟩⟩
 (.op ⟨7, true, [], ⟨some 24, .load false 1 (.t 23), none⟩⟩
 (.op ⟨8, false, [], ⟨some 25, .bins .neq (.t 20) (.t 24), none⟩⟩
 .nil))))))))))
 (.cond (.t 25)
 (.seq (.reg [⟨some 4, .mov (.b false), none⟩])
 .ret)
 .skip)))
 (.reg [⟨some 15, .mov (.t 5), none⟩, ⟨some 16, .bini .add (.t 15) (.c (.int .i64 (1))), none⟩, ⟨some 5, .mov (.t 16), none⟩]))))))
 (.seq (.reg [⟨some 4, .mov (.b true), none⟩])
 .ret))))⟩
theorem t_hydrantref07_sameTexts : trFn Tryz.prog 84 [([], (.first 0 (.first 1 (.first 2 (.first 3 (.first 4 (.first 5 (.first 6 (.first 7 (.first 8 .nil))))))))))] [[5]] = some f_hydrantref07_sameTexts := by kernel_rfl

abbrev n_hydrantref07_sameClusters : Nat := 85
/-- hydrant/hydrantref07.sameClusters -/
def f_hydrantref07_sameClusters : FnI := ⟨97, [.tmp 4],
 (.seq (.reg [⟨some 4, .mov (.b false), none⟩])
 (.seq (.seq (.reg [⟨some 7, .mov (.t 0), none⟩, ⟨some 8, .len false (.t 7), none⟩, ⟨some 9, .mov (.t 1), none⟩, ⟨some 10, .len false (.t 9), none⟩, ⟨some 11, .bini .neq (.t 8) (.t 10), none⟩])
 (.cond (.t 11)
 (.seq (.reg [⟨some 4, .mov (.b false), none⟩])
 .ret)
 .skip))
 (.seq (.seq (.reg [⟨some 5, .mov (.c (.int .i64 (0))), none⟩])
 (.block 0
 (.loop [5] [12, 13, 14, 15, 18, 19, 20, 21, 22, 23, 24, 25, 26, 27, 28, 29, 30, 31, 32, 33, 34, 35, 36, 37, 38, 39, 40, 41, 42, 43, 44, 45, 46, 47, 48, 49, 50, 51, 52, 53, 54, 55, 56, 57, 58, 59, 60, 61, 62, 63, 64, 65, 66, 67, 68, 69, 4, 6, 70, 71, 72, 73, 74, 75, 76, 77, 80, 81, 82, 83, 84, 85, 86, 87, 88, 89, 90, 91, 92, 93, 94, 95, 96, 78, 79, 16, 17, 5]
 (.seq (.seq (.reg [⟨some 12, .mov (.t 5), none⟩, ⟨some 13, .mov (.t 0), none⟩, ⟨some 14, .len false (.t 13), none⟩, ⟨some 15, .bini .lss (.t 12) (.t 14), none⟩])
 (.cond (.t 15)
 .skip
 (.exit 0)))
 (.seq (.block 1
 (.seq (.seq (.regD [] (.op ⟨0, false, [], ⟨some 18, .mov (.t 0), none⟩⟩
 (.op ⟨1, false, [], ⟨some 19, .mov (.t 5), none⟩⟩
 (.op ⟨2, true, [], ⟨some 20, .iadr 4 (.t 18) (.t 19), none⟩⟩
 (.op ⟨3, false, [], ⟨some 21, .fadr 0 (.t 20), none⟩⟩
 (.op ⟨4, true, [], ⟨some 22, .load false 1 (.t 21), none⟩⟩
 (.op ⟨5, false, [], ⟨some 23, .mov (.t 1), none⟩⟩
 (.op ⟨6, false, [], ⟨some 24, .mov (.t 5), none⟩⟩
 (.op ⟨7, true, [], ⟨some 25, .iadr 4 (.t 23) (.t 24), none⟩⟩
 (.op ⟨8, false, [], ⟨some 26, .fadr 0 (.t 25), none⟩⟩
 (.op ⟨9, true, [], ⟨some 27, .load false 1 (.t 26), none⟩⟩
 (.op ⟨10, false, [], ⟨some 28, .bins .neq (.t 22) (.t 27), none⟩⟩
 (.op ⟨11, false, [], ⟨some 29, .mov (.t 28), none⟩⟩
 (.op ⟨12, false, [], ⟨some 30, .mov (.t 0), some (29, false)⟩⟩
 (.op ⟨13, false, [], ⟨some 31, .mov (.t 5), some (29, false)⟩⟩
 (.op ⟨14, true, [], ⟨some 32, .iadr 4 (.t 30) (.t 31), some (29, false)⟩⟩
 (.op ⟨15, false, [], ⟨some 33, .fadr 1 (.t 32), some (29, false)⟩⟩
 (.op ⟨16, true, [], ⟨some 34, .load false 1 (.t 33), some (29, false)⟩⟩
 (.op ⟨17, false, [], ⟨some 35, .mov (.t 1), some (29, false)⟩⟩
 (.op ⟨18, false, [], ⟨some 36, .mov (.t 5), some (29, false)⟩⟩
 (.op ⟨19, true, [], ⟨some 37, .iadr 4 (.t 35) (.t 36), some (29, false)⟩⟩
 (.op ⟨20, false, [], ⟨some 38, .fadr 1 (.t 37), some (29, false)⟩⟩
 (.op ⟨21, true, [], ⟨some 39, .load false 1 (.t 38), some (29, false)⟩⟩
 (.op ⟨22, false, [], ⟨some 40, .bini .neq (.t 34) (.t 39), some (29, false)⟩⟩
 (.op ⟨23, false, [], ⟨some 41, .pick (.t 29) (.b true) (.t 40), none⟩⟩
 (.op ⟨24, false, [], ⟨some 42, .mov (.t 41), none⟩⟩
 (.op ⟨25, false, [], ⟨some 43, .mov (.t 0), some (42, false)⟩⟩
 (.op ⟨26, false, [], ⟨some 44, .mov (.t 5), some (42, false)⟩⟩
 (.op ⟨27, true, [], ⟨some 45, .iadr 4 (.t 43) (.t 44), some (42, false)⟩⟩
 (.op ⟨28, false, [], ⟨some 46, .fadr 2 (.t 45), some (42, false)⟩⟩
 (.op ⟨29, true, [], ⟨some 47, .load false 1 (.t 46), some (42, false)⟩⟩
 (.op ⟨30, false, [], ⟨some 48, .mov (.t 1), some (42, false)⟩⟩
 (.op ⟨31, false, [], ⟨some 49, .mov (.t 5), some (42, false)⟩⟩
 (.op ⟨32, true, [], ⟨some 50, .iadr 4 (.t 48) (.t 49), some (42, false)⟩⟩
 (.op ⟨33, false, [], ⟨some 51, .fadr 2 (.t 50), some (42, false)⟩⟩
 (.op ⟨34, true, [], ⟨some 52, .load false 1 (.t 51), some (42, false)⟩⟩
 (.op ⟨35, false, [], ⟨some 53, .bini .neq (.t 47) (.t 52), some (42, false)⟩⟩
 (.op ⟨36, false, [], ⟨some 54, .pick (.t 42) (.b true) (.t 53), none⟩⟩
 (.op ⟨37, false, [], ⟨some 55, .mov (.t 54), none⟩⟩
 (.op ⟨38, false, [], ⟨some 56, .mov (.t 0), some (55, false)⟩⟩
 (.op ⟨39, false, [], ⟨some 57, .mov (.t 5), some (55, false)⟩⟩
 (.op ⟨40, true, [], ⟨some 58, .iadr 4 (.t 56) (.t 57), some (55, false)⟩⟩
 (.op ⟨41, false, [], ⟨some 59, .fadr 3 (.t 58), some (55, false)⟩⟩
 (.op ⟨42, true, [], ⟨some 60, .load false 1 (.t 59), some (55, false)⟩⟩
 (.op ⟨43, false, [], ⟨some 61, .len false (.t 60), some (55, false)⟩⟩
 (.op ⟨44, false, [], ⟨some 62, .mov (.t 1), some (55, false)⟩⟩
 (.op ⟨45, false, [], ⟨some 63, .mov (.t 5), some (55, false)⟩⟩
 (.op ⟨46, true, [], ⟨some 64, .iadr 4 (.t 62) (.t 63), some (55, false)⟩⟩
 (.op ⟨47, false, [], ⟨some 65, .fadr 3 (.t 64), some (55, false)⟩⟩
 (.op ⟨48, true, [], ⟨some 66, .load false 1 (.t 65), some (55, false)⟩⟩
 (.op ⟨49, false, [], ⟨some 67, .len false (.t 66), some (55, false)⟩⟩
 (.op ⟨50, false, [], ⟨some 68, .bini .neq (.t 61) (.t 67), some (55, false)⟩⟩
 (.op ⟨51, false, [], ⟨some 69, .pick (.t 55) (.b true) (.t 68), none⟩⟩
 .nil)))))))))))))))))))))))))))))))))))))))))))))))))))))
 (.cond (.t 69)
 (.seq (.reg [⟨some 4, .mov (.b false), none⟩])
 .ret)
 .skip))
 (.seq (.reg [⟨some 6, .mov (.c (.int .i64 (0))), none⟩])
 (.block 2
 (.loop [6] [70, 71, 72, 73, 74, 75, 76, 77, 80, 81, 82, 83, 84, 85, 86, 87, 88, 89, 90, 91, 92, 93, 94, 95, 96, 4, 78, 79, 6]
 (.seq (.seq (.reg [⟨some 70, .mov (.t 6), none⟩, ⟨some 71, .mov (.t 0), none⟩, ⟨some 72, .mov (.t 5), none⟩, ⟨some 73, .iadr 4 (.t 71) (.t 72), none⟩, ⟨some 74, .fadr 3 (.t 73), none⟩, ⟨some 75, .load false 1 (.t 74), none⟩, ⟨some 76, .len false (.t 75), none⟩, ⟨some 77, .bini .lss (.t 70) (.t 76), none⟩])
 (.cond (.t 77)
 .skip
 (.exit 2)))
 (.seq (.block 3
 (.seq (.regD [] (.op ⟨0, false, [], ⟨some 80, .mov (.t 0), none⟩⟩
 (.op ⟨1, false, [], ⟨some 81, .mov (.t 5), none⟩⟩
 (.op ⟨2, true, [], ⟨some 82, .iadr 4 (.t 80) (.t 81), none⟩⟩
 (.op ⟨3, false, [], ⟨some 83, .fadr 3 (.t 82), none⟩⟩
 (.op ⟨4, true, [], ⟨some 84, .load false 1 (.t 83), none⟩⟩
 (.op ⟨5, false, [], ⟨some 85, .mov (.t 6), none⟩⟩
 (.op ⟨6, true, [], ⟨some 86, .iadr 1 (.t 84) (.t 85), none⟩⟩
 (.op ⟨7, true, [], ⟨some 87, .load false 1 (.t 86), none⟩⟩
 (.op ⟨8, false, [], ⟨some 88, .mov (.t 1), none⟩⟩
 (.op ⟨9, false, [], ⟨some 89, .mov (.t 5), none⟩⟩
 (.op ⟨10, true, [], ⟨some 90, .iadr 4 (.t 88) (.t 89), none⟩⟩
 (.op ⟨11, false, [], ⟨some 91, .fadr 3 (.t 90), none⟩⟩
 (.op ⟨12, true, [], ⟨some 92, .load false 1 (.t 91), none⟩⟩
 (.op ⟨13, false, [], ⟨some 93, .mov (.t 6), none⟩⟩
 (.op ⟨14, true, [], ⟨some 94, .iadr 1 (.t 92) (.t 93), none⟩⟩
 (.op ⟨15, true, [], ⟨some 95, .load false 1 (.t 94), none⟩⟩
 (.op ⟨16, false, [], ⟨some 96, .binb true (.t 87) (.t 95), none⟩⟩
 .nil))))))))))))))))))
 (.cond (.t 96)
 (.seq (.reg [⟨some 4, .mov (.b false), none⟩])
 .ret)
 .skip)))
 (.reg [⟨some 78, .mov (.t 6), none⟩, ⟨some 79, .bini .add (.t 78) (.c (.int .i64 (1))), none⟩, ⟨some 6, .mov (.t 79), none⟩]))))))))
 (.reg [⟨some 16, .mov (.t 5), none⟩, ⟨some 17, .bini .add (.t 16) (.c (.int .i64 (1))), none⟩, ⟨some 5, .mov (.t 17), none⟩]))))))
 (.seq (.reg [⟨some 4, .mov (.b true), none⟩])
 .ret))))⟩
theorem t_hydrantref07_sameClusters : trFn Tryz.prog 85 [([], (.first 0 (.first 1 (.first 2 (.first 3 (.first 4 (.first 5 (.first 6 (.first 7 (.first 8 (.first 9 (.first 10 (.first 11 (.first 12 (.first 13 (.first 14 (.first 15 (.first 16 (.first 17 (.first 18 (.first 19 (.first 20 (.first 21 (.first 22 (.first 23 (.first 24 (.first 25 (.first 26 (.first 27 (.first 28 (.first 29 (.first 30 (.first 31 (.first 32 (.first 33 (.first 34 (.first 35 (.first 36 (.first 37 (.first 38 (.first 39 (.first 40 (.first 41 (.first 42 (.first 43 (.first 44 (.first 45 (.first 46 (.first 47 (.first 48 (.first 49 (.first 50 (.first 51 .nil))))))))))))))))))))))))))))))))))))))))))))))))))))), ([], (.first 0 (.first 1 (.first 2 (.first 3 (.first 4 (.first 5 (.first 6 (.first 7 (.first 8 (.first 9 (.first 10 (.first 11 (.first 12 (.first 13 (.first 14 (.first 15 (.first 16 .nil))))))))))))))))))] [[5], [6]] = some f_hydrantref07_sameClusters := by kernel_rfl

abbrev n_shard_Is : Nat := 86
/-- hydrant/shard.Is -/
def f_shard_Is : FnI := ⟨23, [.tmp 2],
 (.seq (.reg [⟨some 2, .mov (.b false), none⟩])
 (.seq (.seq (.reg [⟨some 5, .mov (.t 0), none⟩, ⟨some 6, .len false (.t 5), none⟩, ⟨some 7, .mov (.c (.int .i64 (0))), none⟩])
 (.block 0
 (.loop [7] [8, 9, 10, 4, 11, 12, 13, 2, 14, 7]
 (.seq (.reg [⟨some 8, .bini .lss (.t 7) (.t 6), none⟩])
 (.seq (.cond (.t 8)
 .skip
 (.exit 0))
 (.seq (.block 1
 (.seq (.reg [⟨some 9, .iadr 1 (.t 5) (.t 7), none⟩, ⟨some 10, .load false 1 (.t 9), none⟩, ⟨some 4, .mov (.t 10), none⟩])
 (.seq (.reg [⟨some 11, .mov (.t 4), none⟩, ⟨some 12, .len false (.t 11), none⟩, ⟨some 13, .bini .neq (.t 12) (.c (.int .i64 (6))), none⟩])
 (.cond (.t 13)
 (.seq (.reg [⟨some 2, .mov (.b false), none⟩])
 .ret)
 .skip))))
 (.reg [⟨some 14, .bini .add (.t 7) (.c (.int .i64 (1))), none⟩, ⟨some 7, .mov (.t 14), none⟩])))))))
 (.seq (.reg [⟨some 15, .mov (.t 0), none⟩, ⟨some 16, .len false (.t 15), none⟩, ⟨some 17, .bini .geq (.t 16) (.c (.int .i64 (1))), none⟩, ⟨some 18, .mov (.t 17), none⟩, ⟨some 19, .mov (.t 0), some (18, true)⟩, ⟨some 20, .len false (.t 19), some (18, true)⟩, ⟨some 21, .bini .leq (.t 20) (.c (.int .i64 (8))), some (18, true)⟩, ⟨some 22, .pick (.t 18) (.t 21) (.b false), none⟩, ⟨some 2, .mov (.t 22), none⟩])
 .ret)))⟩
theorem t_shard_Is : trFn Tryz.prog 86 [] [[7]] = some f_shard_Is := by kernel_rfl

abbrev n_slices_ContainsFunc___int_int : Nat := 87
/-- slices.ContainsFunc[[]int,int] -/
def f_slices_ContainsFunc___int_int : FnI := ⟨9, [.tmp 4],
 (.seq (.reg [⟨some 4, .mov (.b false), none⟩])
 (.seq (.reg [⟨some 5, .mov (.t 0), none⟩, ⟨some 6, .mov (.t 1), none⟩, ⟨some 7, .call 110 [(.t 5), (.t 6)], none⟩, ⟨some 8, .bini .geq (.t 7) (.c (.int .i64 (0))), none⟩, ⟨some 4, .mov (.t 8), none⟩])
 .ret))⟩
theorem t_slices_ContainsFunc___int_int : trFn Tryz.prog 87 [] [] = some f_slices_ContainsFunc___int_int := by kernel_rfl

abbrev n_world_ground_1 : Nat := 88
theorem k_world_ground_1 : FnOk Tryz.prog 88 := FnOk.of (by kernel_rfl)
/-- hydrant/world.ground$1 -/
def f_world_ground_1 : FnI := ⟨13, [.tmp 3],
 (.seq (.reg [⟨some 3, .mov (.b false), none⟩])
 (.seq (.reg [⟨some 4, .mov (.t 0), none⟩, ⟨some 5, .bini .lss (.t 4) (.c (.int .i64 (0))), none⟩, ⟨some 6, .mov (.t 5), none⟩, ⟨some 7, .mov (.t 0), some (6, false)⟩, ⟨some 8, .fadr 0 (.t 1), some (6, false)⟩, ⟨some 9, .load false 1 (.t 8), some (6, false)⟩, ⟨some 10, .bini .add (.t 9) (.c (.int .i64 (1))), some (6, false)⟩, ⟨some 11, .bini .gtr (.t 7) (.t 10), some (6, false)⟩, ⟨some 12, .pick (.t 6) (.b true) (.t 11), none⟩, ⟨some 3, .mov (.t 12), none⟩])
 .ret))⟩
theorem t_world_ground_1 : trFn Tryz.prog 88 [] [] = some f_world_ground_1 := by kernel_rfl

abbrev n_limbo_has : Nat := 89
/-- hydrant/limbo.has -/
def f_limbo_has : FnI := ⟨8, [.tmp 4],
 (.seq (.reg [⟨some 3, .box 3 (.t 1), none⟩, ⟨some 4, .mov (.b false), none⟩])
 (.seq (.reg [⟨some 5, .mov (.t 0), none⟩, ⟨some 6, .mkf (.func 112) [] [(.t 3)], none⟩, ⟨some 7, .call 111 [(.t 5), (.t 6)], none⟩, ⟨some 4, .mov (.t 7), none⟩])
 .ret))⟩
theorem t_limbo_has : trFn Tryz.prog 89 [] [] = some f_limbo_has := by kernel_rfl

abbrev n_world_version_1 : Nat := 90
theorem k_world_version_1 : FnOk Tryz.prog 90 := FnOk.of (by kernel_rfl)
/-- hydrant/world.version$1 -/
def f_world_version_1 : FnI := ⟨15, [.tmp 3],
 (.seq (.reg [⟨some 2, .box 82 (.t 0), none⟩, ⟨some 3, .mov (.b false), none⟩])
 (.seq (.reg [⟨some 4, .load true 3 (.t 2), none⟩, ⟨some 5, .call 52 [(.t 4)], none⟩, ⟨some 6, .not (.t 5), none⟩, ⟨some 7, .mov (.t 6), none⟩, ⟨some 8, .fadr 1 (.t 2), some (7, false)⟩, ⟨some 9, .load false 1 (.t 8), some (7, false)⟩, ⟨some 10, .len false (.t 9), some (7, false)⟩, ⟨some 11, .fadr 2 (.t 1), some (7, false)⟩, ⟨some 12, .load false 1 (.t 11), some (7, false)⟩, ⟨some 13, .bini .neq (.t 10) (.t 12), some (7, false)⟩, ⟨some 14, .pick (.t 7) (.b true) (.t 13), none⟩, ⟨some 3, .mov (.t 14), none⟩])
 .ret))⟩
theorem t_world_version_1 : trFn Tryz.prog 90 [] [] = some f_world_version_1 := by kernel_rfl

abbrev n_slices_ContainsFunc___api_End_api_End : Nat := 91
/-- slices.ContainsFunc[[]hydrant/api.End,hydrant/api.End] -/
def f_slices_ContainsFunc___api_End_api_End : FnI := ⟨9, [.tmp 4],
 (.seq (.reg [⟨some 4, .mov (.b false), none⟩])
 (.seq (.reg [⟨some 5, .mov (.t 0), none⟩, ⟨some 6, .mov (.t 1), none⟩, ⟨some 7, .call 113 [(.t 5), (.t 6)], none⟩, ⟨some 8, .bini .geq (.t 7) (.c (.int .i64 (0))), none⟩, ⟨some 4, .mov (.t 8), none⟩])
 .ret))⟩
theorem t_slices_ContainsFunc___api_End_api_End : trFn Tryz.prog 91 [] [] = some f_slices_ContainsFunc___api_End_api_End := by kernel_rfl

abbrev n_slots_chain : Nat := 92
/-- hydrant/slots.chain -/
def f_slots_chain : FnI := ⟨4, [.tmp 2],
 (.seq (.reg [⟨some 1, .box 82 (.t 0), none⟩, ⟨some 2, .mov (.c .nilFunc), none⟩])
 (.seq (.reg [⟨some 3, .mkf (.func 114) [] [(.t 1)], none⟩, ⟨some 2, .mov (.t 3), none⟩])
 .ret))⟩
theorem t_slots_chain : trFn Tryz.prog 92 [] [] = some f_slots_chain := by kernel_rfl

abbrev n_config_checker__size : Nat := 93
theorem k_config_checker__size : FnOk Tryz.prog 93 := FnOk.of (by kernel_rfl)
/-- (hydrant/config.checker).size -/
def f_config_checker__size : FnI := ⟨26, [.tmp 2, .tmp 3],
 (.seq (.reg [⟨some 1, .box 153 (.t 0), none⟩, ⟨some 2, .mov (.c (.int .i64 (0))), none⟩, ⟨some 3, .mov (.c (.int .i64 (0))), none⟩])
 (.seq (.seq (.reg [⟨some 4, .fadr 0 (.t 1), none⟩, ⟨some 5, .fadr 0 (.t 4), none⟩, ⟨some 6, .load false 1 (.t 5), none⟩, ⟨some 7, .len false (.t 6), none⟩, ⟨some 8, .call 116 [(.t 7), (.c (.int .i64 (1))), (.c (.int .i64 (4)))], none⟩, ⟨some 9, .not (.t 8), none⟩, ⟨some 10, .mov (.t 9), none⟩, ⟨some 11, .fadr 0 (.t 1), some (10, false)⟩, ⟨some 12, .fadr 1 (.t 11), some (10, false)⟩, ⟨some 13, .load false 1 (.t 12), some (10, false)⟩, ⟨some 14, .len false (.t 13), some (10, false)⟩, ⟨some 15, .call 116 [(.t 14), (.c (.int .i64 (1))), (.c (.int .i64 (8)))], some (10, false)⟩, ⟨some 16, .not (.t 15), some (10, false)⟩, ⟨some 17, .pick (.t 10) (.b true) (.t 16), none⟩, ⟨some 18, .mov (.t 17), none⟩, ⟨some 19, .fadr 0 (.t 1), some (18, false)⟩, ⟨some 20, .fadr 2 (.t 19), some (18, false)⟩, ⟨some 21, .load false 1 (.t 20), some (18, false)⟩, ⟨some 22, .len false (.t 21), some (18, false)⟩, ⟨some 23, .call 116 [(.t 22), (.c (.int .i64 (1))), (.c (.int .i64 (4)))], some (18, false)⟩, ⟨some 24, .not (.t 23), some (18, false)⟩, ⟨some 25, .pick (.t 18) (.b true) (.t 24), none⟩])
 (.cond (.t 25)
 (.seq (.reg [⟨some 2, .mov (.c (.int .i64 (6))), none⟩, ⟨some 3, .mov (.c (.int .i64 (0))), none⟩])
 .ret)
 .skip))
 (.seq (.reg [⟨some 2, .mov (.c (.int .i64 (0))), none⟩, ⟨some 3, .mov (.c (.int .i64 (0))), none⟩])
 .ret)))⟩
theorem t_config_checker__size : trFn Tryz.prog 93 [] [] = some f_config_checker__size := by kernel_rfl

abbrev n_config_checker__listens : Nat := 94
theorem k_config_checker__listens : FnOk Tryz.prog 94 := FnOk.of (by kernel_rfl)
/-- (hydrant/config.checker).listens -/
def f_config_checker__listens : FnI := ⟨30, [.tmp 2, .tmp 3],
 (.seq (.reg [⟨some 1, .box 153 (.t 0), none⟩, ⟨some 2, .mov (.c (.int .i64 (0))), none⟩, ⟨some 3, .mov (.c (.int .i64 (0))), none⟩])
 (.seq (.seq (.reg [⟨some 6, .fadr 0 (.t 1), none⟩, ⟨some 7, .fadr 0 (.t 6), none⟩, ⟨some 8, .load false 1 (.t 7), none⟩, ⟨some 9, .len false (.t 8), none⟩, ⟨some 10, .mov (.c (.int .i64 (0))), none⟩])
 (.block 0
 (.loop [10] [11, 12, 13, 14, 4, 5, 16, 17, 18, 15, 19, 2, 3, 21, 22, 23, 24, 25, 26, 27, 20, 28, 29, 10]
 (.seq (.reg [⟨some 11, .bini .lss (.t 10) (.t 9), none⟩])
 (.seq (.cond (.t 11)
 .skip
 (.exit 0))
 (.seq (.block 1
 (.seq (.reg [⟨some 12, .mov (.t 10), none⟩, ⟨some 13, .iadr 1 (.t 8) (.t 10), none⟩, ⟨some 14, .load false 1 (.t 13), none⟩, ⟨some 4, .mov (.t 12), none⟩, ⟨some 5, .mov (.t 14), none⟩])
 (.block 2
 (.seq (.reg [⟨some 16, .mov (.t 5), none⟩, ⟨some 17, .call 32 [(.t 16)], none⟩, ⟨some 18, .not (.t 17), none⟩, ⟨some 15, .mov (.t 18), none⟩])
 (.cond (.t 15)
 (.seq (.reg [⟨some 19, .mov (.t 4), none⟩, ⟨some 2, .mov (.c (.int .i64 (3))), none⟩, ⟨some 3, .mov (.t 19), none⟩])
 .ret)
 (.seq (.reg [⟨some 21, .fadr 0 (.t 1), none⟩, ⟨some 22, .fadr 0 (.t 21), none⟩, ⟨some 23, .load false 1 (.t 22), none⟩, ⟨some 24, .mov (.t 4), none⟩, ⟨some 25, .slc 1 (.t 23) none (some (.t 24)) none, none⟩, ⟨some 26, .mov (.t 5), none⟩, ⟨some 27, .call 117 [(.t 25), (.t 26)], none⟩, ⟨some 20, .mov (.t 27), none⟩])
 (.cond (.t 20)
 (.seq (.reg [⟨some 28, .mov (.t 4), none⟩, ⟨some 2, .mov (.c (.int .i64 (4))), none⟩, ⟨some 3, .mov (.t 28), none⟩])
 .ret)
 .skip)))))))
 (.reg [⟨some 29, .bini .add (.t 10) (.c (.int .i64 (1))), none⟩, ⟨some 10, .mov (.t 29), none⟩])))))))
 (.seq (.reg [⟨some 2, .mov (.c (.int .i64 (0))), none⟩, ⟨some 3, .mov (.c (.int .i64 (0))), none⟩])
 .ret)))⟩
theorem t_config_checker__listens : trFn Tryz.prog 94 [] [[10]] = some f_config_checker__listens := by kernel_rfl

abbrev n_config_checker__clusters : Nat := 95
theorem k_config_checker__clusters : FnOk Tryz.prog 95 := FnOk.of (by kernel_rfl)
/-- (hydrant/config.checker).clusters -/
def f_config_checker__clusters : FnI := ⟨55, [.tmp 2, .tmp 3],
 (.seq (.reg [⟨some 1, .box 153 (.t 0), none⟩, ⟨some 2, .mov (.c (.int .i64 (0))), none⟩, ⟨some 3, .mov (.c (.int .i64 (0))), none⟩])
 (.seq (.seq (.reg [⟨some 6, .fadr 0 (.t 1), none⟩, ⟨some 7, .fadr 2 (.t 6), none⟩, ⟨some 8, .load false 1 (.t 7), none⟩, ⟨some 9, .len false (.t 8), none⟩, ⟨some 10, .mov (.c (.int .i64 (0))), none⟩])
 (.block 0
 (.loop [10] [11, 12, 13, 14, 5, 4, 16, 17, 18, 19, 15, 20, 2, 3, 22, 23, 24, 25, 26, 27, 28, 29, 21, 30, 32, 33, 34, 35, 36, 37, 38, 39, 31, 40, 42, 43, 44, 45, 41, 46, 48, 49, 50, 51, 52, 47, 53, 54, 10]
 (.seq (.reg [⟨some 11, .bini .lss (.t 10) (.t 9), none⟩])
 (.seq (.cond (.t 11)
 .skip
 (.exit 0))
 (.seq (.block 1
 (.seq (.reg [⟨some 12, .mov (.t 10), none⟩, ⟨some 13, .iadr 4 (.t 8) (.t 10), none⟩, ⟨some 14, .load true 4 (.t 13), none⟩, ⟨some 5, .alloc 71 [(.v (.string ⟨#[]⟩)), (.v (.int .i64 (0))), (.v (.int .i64 (0))), (.v (.slice none 0 0))], none⟩, ⟨some 4, .mov (.t 12), none⟩, ⟨none, .store 4 (.t 5) (.t 14), none⟩])
 (.block 2
 (.seq (.reg [⟨some 16, .fadr 0 (.t 5), none⟩, ⟨some 17, .load false 1 (.t 16), none⟩, ⟨some 18, .call 32 [(.t 17)], none⟩, ⟨some 19, .not (.t 18), none⟩, ⟨some 15, .mov (.t 19), none⟩])
 (.cond (.t 15)
 (.seq (.reg [⟨some 20, .mov (.t 4), none⟩, ⟨some 2, .mov (.c (.int .i64 (3))), none⟩, ⟨some 3, .mov (.t 20), none⟩])
 .ret)
 (.seq (.regD [] (.op ⟨0, false, [], ⟨some 22, .fadr 0 (.t 1), none⟩⟩
 (.op ⟨1, false, [], ⟨some 23, .fadr 2 (.t 22), none⟩⟩
 (.op ⟨2, true, [], ⟨some 24, .load false 1 (.t 23), none⟩⟩
 (.op ⟨3, false, [], ⟨some 25, .mov (.t 4), none⟩⟩
 (.op ⟨4, false, [], ⟨some 26, .slc 4 (.t 24) none (some (.t 25)) none, none⟩⟩
 (.op ⟨5, false, [], ⟨some 27, .fadr 0 (.t 5), none⟩⟩
 (.op ⟨6, true, [], ⟨some 28, .load false 1 (.t 27), none⟩⟩
 (.op ⟨7, false, [], ⟨some 29, .call 118 [(.t 26), (.t 28)], none⟩⟩
 (.op ⟨8, false, [], ⟨some 21, .mov (.t 29), none⟩⟩
 .nil))))))))))
 (.cond (.t 21)
 (.seq (.reg [⟨some 30, .mov (.t 4), none⟩, ⟨some 2, .mov (.c (.int .i64 (4))), none⟩, ⟨some 3, .mov (.t 30), none⟩])
 .ret)
 (.seq (.reg [⟨some 32, .fadr 1 (.t 5), none⟩, ⟨some 33, .load false 1 (.t 32), none⟩, ⟨some 34, .bini .neq (.t 33) (.c (.int .i64 (1))), none⟩, ⟨some 35, .mov (.t 34), none⟩, ⟨some 36, .fadr 1 (.t 5), some (35, true)⟩, ⟨some 37, .load false 1 (.t 36), some (35, true)⟩, ⟨some 38, .bini .neq (.t 37) (.c (.int .i64 (2))), some (35, true)⟩, ⟨some 39, .pick (.t 35) (.t 38) (.b false), none⟩, ⟨some 31, .mov (.t 39), none⟩])
 (.cond (.t 31)
 (.seq (.reg [⟨some 40, .mov (.t 4), none⟩, ⟨some 2, .mov (.c (.int .i64 (9))), none⟩, ⟨some 3, .mov (.t 40), none⟩])
 .ret)
 (.seq (.reg [⟨some 42, .fadr 2 (.t 5), none⟩, ⟨some 43, .load false 1 (.t 42), none⟩, ⟨some 44, .call 116 [(.t 43), (.c (.int .i64 (1))), (.c (.int .i64 (4)))], none⟩, ⟨some 45, .not (.t 44), none⟩, ⟨some 41, .mov (.t 45), none⟩])
 (.cond (.t 41)
 (.seq (.reg [⟨some 46, .mov (.t 4), none⟩, ⟨some 2, .mov (.c (.int .i64 (10))), none⟩, ⟨some 3, .mov (.t 46), none⟩])
 .ret)
 (.seq (.reg [⟨some 48, .fadr 3 (.t 5), none⟩, ⟨some 49, .load false 1 (.t 48), none⟩, ⟨some 50, .len false (.t 49), none⟩, ⟨some 51, .call 116 [(.t 50), (.c (.int .i64 (1))), (.c (.int .i64 (4)))], none⟩, ⟨some 52, .not (.t 51), none⟩, ⟨some 47, .mov (.t 52), none⟩])
 (.cond (.t 47)
 (.seq (.reg [⟨some 53, .mov (.t 4), none⟩, ⟨some 2, .mov (.c (.int .i64 (6))), none⟩, ⟨some 3, .mov (.t 53), none⟩])
 .ret)
 .skip)))))))))))))
 (.reg [⟨some 54, .bini .add (.t 10) (.c (.int .i64 (1))), none⟩, ⟨some 10, .mov (.t 54), none⟩])))))))
 (.seq (.reg [⟨some 2, .mov (.c (.int .i64 (0))), none⟩, ⟨some 3, .mov (.c (.int .i64 (0))), none⟩])
 .ret)))⟩
theorem t_config_checker__clusters : trFn Tryz.prog 95 [([], (.first 0 (.first 1 (.first 2 (.first 3 (.first 4 (.first 5 (.first 6 (.exec 7 (.first 8 .nil))))))))))] [[10]] = some f_config_checker__clusters := by kernel_rfl

abbrev n_config_checker__routes : Nat := 96
theorem k_config_checker__routes : FnOk Tryz.prog 96 := FnOk.of (by kernel_rfl)
/-- (hydrant/config.checker).routes -/
def f_config_checker__routes : FnI := ⟨65, [.tmp 2, .tmp 3],
 (.seq (.reg [⟨some 1, .box 153 (.t 0), none⟩, ⟨some 2, .mov (.c (.int .i64 (0))), none⟩, ⟨some 3, .mov (.c (.int .i64 (0))), none⟩])
 (.seq (.seq (.reg [⟨some 8, .fadr 0 (.t 1), none⟩, ⟨some 9, .fadr 1 (.t 8), none⟩, ⟨some 10, .load false 1 (.t 9), none⟩, ⟨some 11, .len false (.t 10), none⟩, ⟨some 12, .mov (.c (.int .i64 (0))), none⟩])
 (.block 0
 (.loop [12] [13, 14, 15, 16, 5, 4, 18, 19, 20, 21, 22, 23, 24, 17, 25, 2, 3, 27, 28, 29, 30, 26, 31, 33, 34, 35, 36, 32, 37, 39, 40, 41, 42, 43, 44, 45, 38, 46, 47, 48, 49, 50, 51, 52, 53, 54, 55, 56, 57, 7, 58, 59, 60, 61, 62, 63, 64, 12]
 (.seq (.reg [⟨some 13, .bini .lss (.t 12) (.t 11), none⟩])
 (.seq (.cond (.t 13)
 .skip
 (.exit 0))
 (.seq (.block 1
 (.seq (.reg [⟨some 14, .mov (.t 12), none⟩, ⟨some 15, .iadr 4 (.t 10) (.t 12), none⟩, ⟨some 16, .load true 4 (.t 15), none⟩, ⟨some 5, .alloc 157 [(.v (.string ⟨#[]⟩)), (.v (.string ⟨#[]⟩)), (.v (.string ⟨#[]⟩)), (.v (.string ⟨#[]⟩))], none⟩, ⟨some 4, .mov (.t 14), none⟩, ⟨none, .store 4 (.t 5) (.t 16), none⟩])
 (.seq (.block 2
 (.seq (.reg [⟨some 18, .fadr 0 (.t 1), none⟩, ⟨some 19, .fadr 0 (.t 18), none⟩, ⟨some 20, .load false 1 (.t 19), none⟩, ⟨some 21, .fadr 0 (.t 5), none⟩, ⟨some 22, .load false 1 (.t 21), none⟩, ⟨some 23, .call 117 [(.t 20), (.t 22)], none⟩, ⟨some 24, .not (.t 23), none⟩, ⟨some 17, .mov (.t 24), none⟩])
 (.cond (.t 17)
 (.seq (.reg [⟨some 25, .mov (.t 4), none⟩, ⟨some 2, .mov (.c (.int .i64 (5))), none⟩, ⟨some 3, .mov (.t 25), none⟩])
 .ret)
 (.seq (.reg [⟨some 27, .fadr 1 (.t 5), none⟩, ⟨some 28, .load false 1 (.t 27), none⟩, ⟨some 29, .call 119 [(.t 28)], none⟩, ⟨some 30, .not (.t 29), none⟩, ⟨some 26, .mov (.t 30), none⟩])
 (.cond (.t 26)
 (.seq (.reg [⟨some 31, .mov (.t 4), none⟩, ⟨some 2, .mov (.c (.int .i64 (7))), none⟩, ⟨some 3, .mov (.t 31), none⟩])
 .ret)
 (.seq (.reg [⟨some 33, .fadr 2 (.t 5), none⟩, ⟨some 34, .load false 1 (.t 33), none⟩, ⟨some 35, .call 120 [(.t 34)], none⟩, ⟨some 36, .not (.t 35), none⟩, ⟨some 32, .mov (.t 36), none⟩])
 (.cond (.t 32)
 (.seq (.reg [⟨some 37, .mov (.t 4), none⟩, ⟨some 2, .mov (.c (.int .i64 (8))), none⟩, ⟨some 3, .mov (.t 37), none⟩])
 .ret)
 (.seq (.reg [⟨some 39, .fadr 0 (.t 1), none⟩, ⟨some 40, .fadr 2 (.t 39), none⟩, ⟨some 41, .load false 1 (.t 40), none⟩, ⟨some 42, .fadr 3 (.t 5), none⟩, ⟨some 43, .load false 1 (.t 42), none⟩, ⟨some 44, .call 118 [(.t 41), (.t 43)], none⟩, ⟨some 45, .not (.t 44), none⟩, ⟨some 38, .mov (.t 45), none⟩])
 (.cond (.t 38)
 (.seq (.reg [⟨some 46, .mov (.t 4), none⟩, ⟨some 2, .mov (.c (.int .i64 (5))), none⟩, ⟨some 3, .mov (.t 46), none⟩])
 .ret)
 .skip)))))))))
 (.seq (.reg [⟨some 47, .fadr 3 (.t 5), none⟩, ⟨none, .store 1 (.t 47) (.c (.string ⟨#[]⟩)), none⟩])
 (.seq (.reg [⟨some 48, .fadr 0 (.t 1), none⟩, ⟨some 49, .fadr 1 (.t 48), none⟩, ⟨some 50, .load false 1 (.t 49), none⟩, ⟨some 51, .mov (.t 4), none⟩, ⟨some 52, .slc 4 (.t 50) none (some (.t 51)) none, none⟩, ⟨some 53, .len false (.t 52), none⟩, ⟨some 54, .mov (.c (.int .i64 (0))), none⟩])
 (.block 3
 (.loop [54] [55, 56, 57, 7, 58, 59, 60, 61, 62, 2, 3, 63, 54]
 (.seq (.reg [⟨some 55, .bini .lss (.t 54) (.t 53), none⟩])
 (.seq (.cond (.t 55)
 .skip
 (.exit 3))
 (.seq (.block 4
 (.seq (.reg [⟨some 56, .iadr 4 (.t 52) (.t 54), none⟩, ⟨some 57, .load true 4 (.t 56), none⟩, ⟨some 7, .alloc 157 [(.v (.string ⟨#[]⟩)), (.v (.string ⟨#[]⟩)), (.v (.string ⟨#[]⟩)), (.v (.string ⟨#[]⟩))], none⟩, ⟨none, .store 4 (.t 7) (.t 57), none⟩])
 (.seq (.reg [⟨some 58, .fadr 3 (.t 7), none⟩, ⟨none, .store 1 (.t 58) (.c (.string ⟨#[]⟩)), none⟩])
 (.seq (.reg [⟨some 59, .load true 4 (.t 7), none⟩, ⟨some 60, .load true 4 (.t 5), none⟩, ⟨some 61, .binst false [1, 1, 1, 1] (.t 59) (.t 60), none⟩])
 (.cond (.t 61)
 (.seq (.reg [⟨some 62, .mov (.t 4), none⟩, ⟨some 2, .mov (.c (.int .i64 (4))), none⟩, ⟨some 3, .mov (.t 62), none⟩])
 .ret)
 .skip)))))
 (.reg [⟨some 63, .bini .add (.t 54) (.c (.int .i64 (1))), none⟩, ⟨some 54, .mov (.t 63), none⟩])))))))))))
 (.reg [⟨some 64, .bini .add (.t 12) (.c (.int .i64 (1))), none⟩, ⟨some 12, .mov (.t 64), none⟩])))))))
 (.seq (.reg [⟨some 2, .mov (.c (.int .i64 (0))), none⟩, ⟨some 3, .mov (.c (.int .i64 (0))), none⟩])
 .ret)))⟩
theorem t_config_checker__routes : trFn Tryz.prog 96 [] [[12], [54]] = some f_config_checker__routes := by kernel_rfl

abbrev n_pin_steps_1 : Nat := 97
theorem k_pin_steps_1 : FnOk Tryz.prog 97 := FnOk.of (by kernel_rfl)
/-- hydrant/pin.steps$1 -/
def f_pin_steps_1 : FnI := ⟨17, [.cell 4 23 true],
 (.seq (.reg [⟨some 4, .alloc 61 [(.v (.int .i64 (0))), (.v (.int .i64 (0))), (.v (.int .i64 (0))), (.v (.int .i64 (0))), (.v (.int .i64 (0))), (.v (.bool false)), (.v (.int .i64 (0))), (.v (.bool false)), (.v (.bool false)), (.v (.bool false)), (.v (.int .i64 (0))), (.v (.int .i64 (0))), (.v (.int .i64 (0))), (.v (.int .i64 (0))), (.v (.int .i64 (0))), (.v (.int .i64 (0))), (.v (.int .i64 (0))), (.v (.int .u64 (0))), (.v (.int .u64 (0))), (.v (.int .u64 (0))), (.v (.int .u64 (0))), (.v (.int .u64 (0))), (.v (.int .u64 (0)))], none⟩])
 (.seq (.reg [⟨some 5, .mov (.t 1), none⟩, ⟨some 6, .mov (.t 1), none⟩, ⟨some 7, .mov (.t 0), none⟩, ⟨some 8, .nck (.t 7), none⟩, ⟨some 9, .fadr 0 (.t 8), none⟩, ⟨some 10, .load false 1 (.t 9), none⟩, ⟨some 11, .nck (.t 5), none⟩, ⟨some 12, .fadr 12 (.t 11), none⟩, ⟨none, .store 1 (.t 12) (.t 10), none⟩, ⟨some 13, .nck (.t 6), none⟩, ⟨some 14, .fadr 11 (.t 13), none⟩, ⟨none, .store 1 (.t 14) (.c (.int .i64 (1))), none⟩])
 (.seq (.reg [⟨some 15, .mov (.t 0), none⟩, ⟨some 16, .call 98 [(.t 15)], none⟩, ⟨none, .store 23 (.t 4) (.t 16), none⟩])
 .ret)))⟩
theorem t_pin_steps_1 : trFn Tryz.prog 97 [] [] = some f_pin_steps_1 := by kernel_rfl

abbrev n_pin_load : Nat := 98
/-- hydrant/pin.load -/
def f_pin_load : FnI := ⟨8, [.cell 2 23 true],
 (.seq (.reg [⟨some 2, .alloc 61 [(.v (.int .i64 (0))), (.v (.int .i64 (0))), (.v (.int .i64 (0))), (.v (.int .i64 (0))), (.v (.int .i64 (0))), (.v (.bool false)), (.v (.int .i64 (0))), (.v (.bool false)), (.v (.bool false)), (.v (.bool false)), (.v (.int .i64 (0))), (.v (.int .i64 (0))), (.v (.int .i64 (0))), (.v (.int .i64 (0))), (.v (.int .i64 (0))), (.v (.int .i64 (0))), (.v (.int .i64 (0))), (.v (.int .u64 (0))), (.v (.int .u64 (0))), (.v (.int .u64 (0))), (.v (.int .u64 (0))), (.v (.int .u64 (0))), (.v (.int .u64 (0)))], none⟩])
 (.seq (.reg [⟨some 3, .mov (.t 0), none⟩, ⟨some 4, .nck (.t 3), none⟩, ⟨some 5, .fadr 0 (.t 4), none⟩, ⟨some 6, .load false 1 (.t 5), none⟩, ⟨some 7, .build [(.v (.int .i64 (0))), (.v (.int .i64 (0))), (.v (.int .i64 (0))), (.v (.int .i64 (0))), (.v (.int .i64 (0))), (.v (.bool false)), (.v (.int .i64 (0))), (.v (.bool false)), (.v (.bool false)), (.v (.bool false)), (.v (.int .i64 (0))), (.v (.int .i64 (0))), (.v (.int .i64 (0))), (.v (.int .i64 (0))), (.v (.int .i64 (0))), (.v (.int .i64 (0))), (.v (.int .i64 (0))), (.v (.int .u64 (0))), (.v (.int .u64 (0))), (.v (.int .u64 (0))), (.v (.int .u64 (0))), (.v (.int .u64 (0))), (.v (.int .u64 (0)))] [(2, 1, (.c (.int .i64 (1)))), (3, 1, (.c (.int .i64 (1)))), (6, 1, (.t 6))], none⟩, ⟨none, .store 23 (.t 2) (.t 7), none⟩])
 .ret))⟩
theorem t_pin_load : trFn Tryz.prog 98 [] [] = some f_pin_load := by kernel_rfl

abbrev n_pin_steps_2 : Nat := 99
theorem k_pin_steps_2 : FnOk Tryz.prog 99 := FnOk.of (by kernel_rfl)
/-- hydrant/pin.steps$2 -/
def f_pin_steps_2 : FnI := ⟨28, [.cell 4 23 true],
 (.seq (.reg [⟨some 4, .alloc 61 [(.v (.int .i64 (0))), (.v (.int .i64 (0))), (.v (.int .i64 (0))), (.v (.int .i64 (0))), (.v (.int .i64 (0))), (.v (.bool false)), (.v (.int .i64 (0))), (.v (.bool false)), (.v (.bool false)), (.v (.bool false)), (.v (.int .i64 (0))), (.v (.int .i64 (0))), (.v (.int .i64 (0))), (.v (.int .i64 (0))), (.v (.int .i64 (0))), (.v (.int .i64 (0))), (.v (.int .i64 (0))), (.v (.int .u64 (0))), (.v (.int .u64 (0))), (.v (.int .u64 (0))), (.v (.int .u64 (0))), (.v (.int .u64 (0))), (.v (.int .u64 (0)))], none⟩])
 (.seq (.regD [] (.op ⟨0, false, [], ⟨some 5, .mov (.t 0), none⟩⟩
 (.op ⟨1, false, [], ⟨some 6, .nck (.t 5), none⟩⟩
 (.op ⟨2, false, [], ⟨some 7, .fadr 3 (.t 6), none⟩⟩
 (.op ⟨3, true, [], ⟨some 8, .load false 1 (.t 7), none⟩⟩
 (.op ⟨4, false, [], ⟨some 9, .mov (.t 1), none⟩⟩
 (.op ⟨5, false, [], ⟨some 10, .nck (.t 9), none⟩⟩
 (.op ⟨6, false, [], ⟨some 11, .fadr 10 (.t 10), none⟩⟩
 (.op ⟨7, true, [], ⟨some 12, .load false 1 (.t 11), none⟩⟩
 (.op ⟨9, false, [], ⟨some 14, .mov (.t 1), none⟩⟩
 (.op ⟨10, false, [], ⟨some 15, .nck (.t 14), none⟩⟩
 (.op ⟨11, false, [], ⟨some 16, .fadr 12 (.t 15), none⟩⟩
 (.op ⟨12, true, [], ⟨some 17, .load false 1 (.t 16), none⟩⟩
 (.op ⟨13, false, [], ⟨some 18, .bini .add (.t 17) (.c (.int .i64 (1))), none⟩⟩
 (.op ⟨14, true, [], ⟨some 19, .iadr 1 (.t 8) (.t 12), none⟩⟩
 (.op ⟨8, false, [], ⟨some 13, .mov (.t 1), none⟩⟩
 (.op ⟨15, false, [], ⟨none, .store 1 (.t 19) (.t 18), none⟩⟩
 (.op ⟨16, false, [], ⟨some 20, .nck (.t 13), none⟩⟩
 (.op ⟨17, false, [], ⟨some 21, .fadr 11 (.t 20), none⟩⟩
 (.op ⟨18, false, [], ⟨none, .store 1 (.t 21) (.c (.int .i64 (2))), none⟩⟩
 .nil))))))))))))))))))))
 (.seq (.reg [⟨some 22, .mov (.t 1), none⟩, ⟨some 23, .nck (.t 22), none⟩, ⟨some 24, .fadr 12 (.t 23), none⟩, ⟨some 25, .load false 1 (.t 24), none⟩, ⟨some 26, .bini .add (.t 25) (.c (.int .i64 (1))), none⟩, ⟨some 27, .build [(.v (.int .i64 (0))), (.v (.int .i64 (0))), (.v (.int .i64 (0))), (.v (.int .i64 (0))), (.v (.int .i64 (0))), (.v (.bool false)), (.v (.int .i64 (0))), (.v (.bool false)), (.v (.bool false)), (.v (.bool false)), (.v (.int .i64 (0))), (.v (.int .i64 (0))), (.v (.int .i64 (0))), (.v (.int .i64 (0))), (.v (.int .i64 (0))), (.v (.int .i64 (0))), (.v (.int .i64 (0))), (.v (.int .u64 (0))), (.v (.int .u64 (0))), (.v (.int .u64 (0))), (.v (.int .u64 (0))), (.v (.int .u64 (0))), (.v (.int .u64 (0)))] [(2, 1, (.c (.int .i64 (2)))), (3, 1, (.c (.int .i64 (2)))), (6, 1, (.t 26))], none⟩, ⟨none, .store 23 (.t 4) (.t 27), none⟩])
 .ret)))⟩
theorem t_pin_steps_2 : trFn Tryz.prog 99 [([], (.first 0 (.first 1 (.first 2 (.first 3 (.first 4 (.first 5 (.first 6 (.first 7 (.first 9 (.first 10 (.first 11 (.first 12 (.first 13 (.first 14 (.first 8 (.exec 15 (.first 16 (.first 17 (.exec 18 .nil))))))))))))))))))))] [] = some f_pin_steps_2 := by kernel_rfl

abbrev n_pin_steps_3 : Nat := 100
theorem k_pin_steps_3 : FnOk Tryz.prog 100 := FnOk.of (by kernel_rfl)
/-- hydrant/pin.steps$3 -/
def f_pin_steps_3 : FnI := ⟨29, [.cell 4 23 true],
 (.seq (.reg [⟨some 4, .alloc 61 [(.v (.int .i64 (0))), (.v (.int .i64 (0))), (.v (.int .i64 (0))), (.v (.int .i64 (0))), (.v (.int .i64 (0))), (.v (.bool false)), (.v (.int .i64 (0))), (.v (.bool false)), (.v (.bool false)), (.v (.bool false)), (.v (.int .i64 (0))), (.v (.int .i64 (0))), (.v (.int .i64 (0))), (.v (.int .i64 (0))), (.v (.int .i64 (0))), (.v (.int .i64 (0))), (.v (.int .i64 (0))), (.v (.int .u64 (0))), (.v (.int .u64 (0))), (.v (.int .u64 (0))), (.v (.int .u64 (0))), (.v (.int .u64 (0))), (.v (.int .u64 (0)))], none⟩])
 (.seq (.reg [⟨some 5, .mov (.t 1), none⟩, ⟨some 6, .nck (.t 5), none⟩, ⟨some 7, .fadr 11 (.t 6), none⟩, ⟨none, .store 1 (.t 7) (.c (.int .i64 (1))), none⟩])
 (.seq (.seq (.regD [] (.op ⟨0, false, [], ⟨some 8, .mov (.t 0), none⟩⟩
 (.op ⟨1, false, [], ⟨some 9, .nck (.t 8), none⟩⟩
 (.op ⟨2, false, [], ⟨some 10, .fadr 0 (.t 9), none⟩⟩
 (.op ⟨3, true, [], ⟨some 11, .load false 1 (.t 10), none⟩⟩
 (.op ⟨4, false, [], ⟨some 12, .mov (.t 1), none⟩⟩
 (.op ⟨5, false, [], ⟨some 13, .nck (.t 12), none⟩⟩
 (.op ⟨6, false, [], ⟨some 14, .fadr 12 (.t 13), none⟩⟩
 (.op ⟨7, true, [], ⟨some 15, .load false 1 (.t 14), none⟩⟩
 (.op ⟨8, false, [], ⟨some 16, .bini .eql (.t 11) (.t 15), none⟩⟩
 .nil))))))))))
 (.cond (.t 16)
 (.reg [⟨some 17, .mov (.t 1), none⟩, ⟨some 18, .nck (.t 17), none⟩, ⟨some 19, .fadr 11 (.t 18), none⟩, ⟨none, .store 1 (.t 19) (.c (.int .i64 (3))), none⟩])
 .skip))
 (.seq (.reg [⟨some 20, .mov (.t 1), none⟩, ⟨some 21, .mov (.t 0), none⟩, ⟨some 22, .nck (.t 21), none⟩, ⟨some 23, .fadr 0 (.t 22), none⟩, ⟨some 24, .load false 1 (.t 23), none⟩, ⟨some 25, .nck (.t 20), none⟩, ⟨some 26, .fadr 12 (.t 25), none⟩, ⟨none, .store 1 (.t 26) (.t 24), none⟩])
 (.seq (.reg [⟨some 27, .mov (.t 0), none⟩, ⟨some 28, .call 98 [(.t 27)], none⟩, ⟨none, .store 23 (.t 4) (.t 28), none⟩])
 .ret)))))⟩
theorem t_pin_steps_3 : trFn Tryz.prog 100 [([], (.first 0 (.first 1 (.first 2 (.first 3 (.first 4 (.first 5 (.first 6 (.first 7 (.first 8 .nil))))))))))] [] = some f_pin_steps_3 := by kernel_rfl

abbrev n_hydrantref11_Is : Nat := 101
/-- hydrant/hydrantref11.Is -/
def f_hydrantref11_Is : FnI := ⟨24, [.tmp 2],
 (.seq (.reg [⟨some 2, .mov (.b false), none⟩])
 (.seq (.seq (.reg [⟨some 3, .mov (.c (.int .i64 (0))), none⟩])
 (.block 0
 (.loop [3] [4, 5, 6, 7, 10, 11, 12, 13, 14, 15, 2, 8, 9, 3]
 (.seq (.seq (.reg [⟨some 4, .mov (.t 3), none⟩, ⟨some 5, .mov (.t 0), none⟩, ⟨some 6, .len false (.t 5), none⟩, ⟨some 7, .bini .lss (.t 4) (.t 6), none⟩])
 (.cond (.t 7)
 .skip
 (.exit 0)))
 (.seq (.block 1
 (.seq (.reg [⟨some 10, .mov (.t 0), none⟩, ⟨some 11, .mov (.t 3), none⟩, ⟨some 12, .iadr 1 (.t 10) (.t 11), none⟩, ⟨some 13, .load false 1 (.t 12), none⟩, ⟨some 14, .len false (.t 13), none⟩, ⟨some 15, .bini .neq (.t 14) (.c (.int .i64 (6))), none⟩])
 (.cond (.t 15)
 (.seq (.reg [⟨some 2, .mov (.b false), none⟩])
 .ret)
 .skip)))
 (.reg [⟨some 8, .mov (.t 3), none⟩, ⟨some 9, .bini .add (.t 8) (.c (.int .i64 (1))), none⟩, ⟨some 3, .mov (.t 9), none⟩]))))))
 (.seq (.reg [⟨some 16, .mov (.t 0), none⟩, ⟨some 17, .len false (.t 16), none⟩, ⟨some 18, .bini .geq (.t 17) (.c (.int .i64 (1))), none⟩, ⟨some 19, .mov (.t 18), none⟩, ⟨some 20, .mov (.t 0), some (19, true)⟩, ⟨some 21, .len false (.t 20), some (19, true)⟩, ⟨some 22, .bini .leq (.t 21) (.c (.int .i64 (8))), some (19, true)⟩, ⟨some 23, .pick (.t 19) (.t 22) (.b false), none⟩, ⟨some 2, .mov (.t 23), none⟩])
 .ret)))⟩
theorem t_hydrantref11_Is : trFn Tryz.prog 101 [] [[3]] = some f_hydrantref11_Is := by kernel_rfl

abbrev n_hydrantref18_lists : Nat := 102
/-- hydrant/hydrantref18.lists -/
def f_hydrantref18_lists : FnI := ⟨101, [.tmp 2],
 (.seq (.reg [⟨some 1, .box 34 (.t 0), none⟩, ⟨some 2, .mov (.b false), none⟩])
 (.seq (.seq (.reg [⟨some 3, .mov (.c (.int .i64 (0))), none⟩])
 (.block 0
 (.loop [3] [7, 8, 9, 10, 11, 14, 15, 16, 17, 18, 19, 20, 21, 22, 23, 24, 25, 26, 27, 28, 29, 31, 30, 32, 33, 2, 12, 13, 3]
 (.seq (.seq (.reg [⟨some 7, .mov (.t 3), none⟩, ⟨some 8, .fadr 5 (.t 1), none⟩, ⟨some 9, .load false 1 (.t 8), none⟩, ⟨some 10, .len false (.t 9), none⟩, ⟨some 11, .bini .lss (.t 7) (.t 10), none⟩])
 (.cond (.t 11)
 .skip
 (.exit 0)))
 (.seq (.block 1
 (.seq (.regD [] (.op ⟨0, false, [], ⟨some 14, .fadr 5 (.t 1), none⟩⟩
 (.op ⟨1, true, [], ⟨some 15, .load false 1 (.t 14), none⟩⟩
 (.op ⟨2, false, [], ⟨some 16, .mov (.t 3), none⟩⟩
 (.op ⟨3, true, [], ⟨some 17, .iadr 4 (.t 15) (.t 16), none⟩⟩
 (.op ⟨4, true, [], ⟨some 18, .load true 4 (.t 17), none⟩⟩
 (.op ⟨5, false, [], ⟨some 19, .call 121 [(.t 18)], none⟩⟩
 (.op ⟨6, false, [], ⟨some 20, .not (.t 19), none⟩⟩
 (.op ⟨7, false, [], ⟨some 21, .mov (.t 20), none⟩⟩
 (.op ⟨8, false, [], ⟨some 22, .fadr 5 (.t 1), some (21, false)⟩⟩
 (.op ⟨9, true, [], ⟨some 23, .load false 1 (.t 22), some (21, false)⟩⟩
 (.op ⟨10, false, [], ⟨some 24, .fadr 5 (.t 1), some (21, false)⟩⟩
 (.op ⟨11, true, [], ⟨some 25, .load false 1 (.t 24), some (21, false)⟩⟩
 (.op ⟨12, false, [], ⟨some 26, .mov (.t 3), some (21, false)⟩⟩
 (.op ⟨13, true, [], ⟨some 27, .iadr 4 (.t 25) (.t 26), some (21, false)⟩⟩
 (.op ⟨14, false, [], ⟨some 28, .fadr 0 (.t 27), some (21, false)⟩⟩
 (.op ⟨15, true, [], ⟨some 29, .load false 1 (.t 28), some (21, false)⟩⟩
 (.op ⟨17, false, [], ⟨some 31, .mov (.t 3), some (21, false)⟩⟩
 (.op ⟨16, false, [], ⟨some 30, .call 35 [(.t 23), (.t 29)], some (21, false)⟩⟩
 (.op ⟨18, false, [], ⟨some 32, .bini .neq (.t 30) (.t 31), some (21, false)⟩⟩
 (.op ⟨19, false, [], ⟨some 33, .pick (.t 21) (.b true) (.t 32), none⟩⟩
 .nil)))))))))))))))))))))
 (.cond (.t 33)
 (.seq (.reg [⟨some 2, .mov (.b false), none⟩])
 .ret)
 .skip)))
 (.reg [⟨some 12, .mov (.t 3), none⟩, ⟨some 13, .bini .add (.t 12) (.c (.int .i64 (1))), none⟩, ⟨some 3, .mov (.t 13), none⟩]))))))
 (.seq (.seq (.reg [⟨some 4, .mov (.c (.int .i64 (0))), none⟩])
 (.block 2
 (.loop [4] [34, 35, 36, 37, 38, 41, 42, 43, 44, 45, 46, 47, 48, 49, 50, 51, 52, 53, 54, 55, 56, 57, 58, 59, 60, 2, 39, 40, 4]
 (.seq (.seq (.reg [⟨some 34, .mov (.t 4), none⟩, ⟨some 35, .fadr 4 (.t 1), none⟩, ⟨some 36, .load false 1 (.t 35), none⟩, ⟨some 37, .len false (.t 36), none⟩, ⟨some 38, .bini .lss (.t 34) (.t 37), none⟩])
 (.cond (.t 38)
 .skip
 (.exit 2)))
 (.seq (.block 3
 (.seq (.regD [] (.op ⟨0, false, [], ⟨some 41, .fadr 4 (.t 1), none⟩⟩
 (.op ⟨1, true, [], ⟨some 42, .load false 1 (.t 41), none⟩⟩
 (.op ⟨2, false, [], ⟨some 43, .mov (.t 4), none⟩⟩
 (.op ⟨3, true, [], ⟨some 44, .iadr 5 (.t 42) (.t 43), none⟩⟩
 (.op ⟨4, true, [], ⟨some 45, .load true 5 (.t 44), none⟩⟩
 (.op ⟨5, false, [], ⟨some 46, .call 122 [(.t 45)], none⟩⟩
 (.op ⟨6, false, [], ⟨some 47, .not (.t 46), none⟩⟩
 (.op ⟨7, false, [], ⟨some 48, .mov (.t 47), none⟩⟩
 (.op ⟨8, false, [], ⟨some 49, .fadr 4 (.t 1), some (48, false)⟩⟩
 (.op ⟨9, true, [], ⟨some 50, .load false 1 (.t 49), some (48, false)⟩⟩
 (.op ⟨10, false, [], ⟨some 51, .mov (.t 4), some (48, false)⟩⟩
 (.op ⟨11, true, [], ⟨some 52, .iadr 5 (.t 50) (.t 51), some (48, false)⟩⟩
 (.op ⟨12, false, [], ⟨some 53, .fadr 4 (.t 52), some (48, false)⟩⟩
 (.op ⟨13, true, [], ⟨some 54, .load false 1 (.t 53), some (48, false)⟩⟩
 (.op ⟨14, false, [], ⟨some 55, .fadr 7 (.t 1), some (48, false)⟩⟩
 (.op ⟨15, true, [], ⟨some 56, .load false 1 (.t 55), some (48, false)⟩⟩
 (.op ⟨16, false, [], ⟨some 57, .mov (.t 4), some (48, false)⟩⟩
 (.op ⟨17, false, [], ⟨some 58, .call 123 [(.t 56), (.t 57)], some (48, false)⟩⟩
 (.op ⟨18, false, [], ⟨some 59, .binb true (.t 54) (.t 58), some (48, false)⟩⟩
 (.op ⟨19, false, [], ⟨some 60, .pick (.t 48) (.b true) (.t 59), none⟩⟩
 .nil)))))))))))))))))))))
 (.cond (.t 60)
 (.seq (.reg [⟨some 2, .mov (.b false), none⟩])
 .ret)
 .skip)))
 (.reg [⟨some 39, .mov (.t 4), none⟩, ⟨some 40, .bini .add (.t 39) (.c (.int .i64 (1))), none⟩, ⟨some 4, .mov (.t 40), none⟩]))))))
 (.seq (.seq (.reg [⟨some 5, .mov (.c (.int .i64 (0))), none⟩])
 (.block 4
 (.loop [5] [61, 62, 63, 64, 65, 68, 69, 70, 71, 72, 6, 73, 74, 75, 76, 77, 78, 79, 80, 81, 82, 83, 84, 85, 86, 87, 88, 89, 90, 91, 92, 93, 94, 95, 96, 97, 2, 66, 67, 5]
 (.seq (.seq (.reg [⟨some 61, .mov (.t 5), none⟩, ⟨some 62, .fadr 7 (.t 1), none⟩, ⟨some 63, .load false 1 (.t 62), none⟩, ⟨some 64, .len false (.t 63), none⟩, ⟨some 65, .bini .lss (.t 61) (.t 64), none⟩])
 (.cond (.t 65)
 .skip
 (.exit 4)))
 (.seq (.block 5
 (.seq (.reg [⟨some 68, .fadr 7 (.t 1), none⟩, ⟨some 69, .load false 1 (.t 68), none⟩, ⟨some 70, .mov (.t 5), none⟩, ⟨some 71, .iadr 3 (.t 69) (.t 70), none⟩, ⟨some 72, .load true 3 (.t 71), none⟩, ⟨some 6, .alloc 95 [(.v (.int .i64 (0))), (.v (.int .i64 (0))), (.v (.bool false))], none⟩, ⟨none, .store 3 (.t 6) (.t 72), none⟩])
 (.seq (.reg [⟨some 73, .fadr 0 (.t 6), none⟩, ⟨some 74, .load false 1 (.t 73), none⟩, ⟨some 75, .bini .lss (.t 74) (.c (.int .i64 (0))), none⟩, ⟨some 76, .mov (.t 75), none⟩, ⟨some 77, .fadr 0 (.t 6), some (76, false)⟩, ⟨some 78, .load false 1 (.t 77), some (76, false)⟩, ⟨some 79, .fadr 4 (.t 1), some (76, false)⟩, ⟨some 80, .load false 1 (.t 79), some (76, false)⟩, ⟨some 81, .len false (.t 80), some (76, false)⟩, ⟨some 82, .bini .geq (.t 78) (.t 81), some (76, false)⟩, ⟨some 83, .pick (.t 76) (.b true) (.t 82), none⟩, ⟨some 84, .mov (.t 83), none⟩, ⟨some 85, .fadr 0 (.t 6), some (84, false)⟩, ⟨some 86, .load false 1 (.t 85), some (84, false)⟩, ⟨some 87, .fadr 1 (.t 1), some (84, false)⟩, ⟨some 88, .load false 1 (.t 87), some (84, false)⟩, ⟨some 89, .bini .eql (.t 86) (.t 88), some (84, false)⟩, ⟨some 90, .pick (.t 84) (.b true) (.t 89), none⟩, ⟨some 91, .mov (.t 90), none⟩, ⟨some 92, .fadr 1 (.t 6), some (91, false)⟩, ⟨some 93, .load false 1 (.t 92), some (91, false)⟩, ⟨some 94, .fadr 0 (.t 1), some (91, false)⟩, ⟨some 95, .load false 1 (.t 94), some (91, false)⟩, ⟨some 96, .bini .gtr (.t 93) (.t 95), some (91, false)⟩, ⟨some 97, .pick (.t 91) (.b true) (.t 96), none⟩])
 (.cond (.t 97)
 (.seq (.reg [⟨some 2, .mov (.b false), none⟩])
 .ret)
 .skip))))
 (.reg [⟨some 66, .mov (.t 5), none⟩, ⟨some 67, .bini .add (.t 66) (.c (.int .i64 (1))), none⟩, ⟨some 5, .mov (.t 67), none⟩]))))))
 (.seq (.reg [⟨some 98, .fadr 7 (.t 1), none⟩, ⟨some 99, .load false 1 (.t 98), none⟩, ⟨some 100, .call 124 [(.t 99)], none⟩, ⟨some 2, .mov (.t 100), none⟩])
 .ret)))))⟩
theorem t_hydrantref18_lists : trFn Tryz.prog 102 [([], (.first 0 (.first 1 (.first 2 (.first 3 (.first 4 (.exec 5 (.first 6 (.first 7 (.first 8 (.first 9 (.first 10 (.first 11 (.first 12 (.first 13 (.first 14 (.first 15 (.first 17 (.exec 16 (.first 18 (.first 19 .nil))))))))))))))))))))), ([], (.first 0 (.first 1 (.first 2 (.first 3 (.first 4 (.exec 5 (.first 6 (.first 7 (.first 8 (.first 9 (.first 10 (.first 11 (.first 12 (.first 13 (.first 14 (.first 15 (.first 16 (.exec 17 (.first 18 (.first 19 .nil)))))))))))))))))))))] [[3], [4], [5]] = some f_hydrantref18_lists := by kernel_rfl


end Go.Proofs.YtkkhdnddplkobaaGreat

