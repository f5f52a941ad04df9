/- The functions, as the evaluator reads them: each is what the given program's code says (checked by the kernel). -/
import Derived.Test.YtjaeeadfmnokeaaGreatSxB
import Derived.Test.YtjaeeadfmnokeaaGreatRows
namespace Go.Proofs.YtjaeeadfmnokeaaGreat
open Go.Proofs.YtjaeeadfmnokeaaGreat.Sx
abbrev zl0 : List SV := [(.v (.int .i64 (0))), (.v (.string ⟨#[]⟩)), (.v (.string ⟨#[]⟩)), (.v (.string ⟨#[]⟩)), (.v (.int .i64 (0))), (.v (.int .i64 (0))), (.v (.int .i64 (0))), (.v (.slice none 0 0)), (.v (.slice none 0 0)), (.v (.slice none 0 0)), (.v (.int .i64 (0))), (.v (.int .i64 (0))), (.v (.int .i64 (0))), (.v (.int .i64 (0))), (.v (.int .i64 (0))), (.v (.int .i64 (0))), (.v (.int .i64 (0))), (.v (.int .i64 (0))), (.v (.int .i64 (0))), (.v (.int .u64 (0))), (.v (.int .i64 (0))), (.v (.int .i64 (0))), (.v (.int .i64 (0))), (.v (.int .i64 (0))), (.v (.bool false)), (.v (.int .i64 (0))), (.v (.int .i64 (0))), (.v (.int .i64 (0))), (.v (.int .i64 (0))), (.v (.int .i64 (0))), (.v (.int .i64 (0))), (.v (.int .i64 (0))), (.v (.int .u64 (0))), (.v (.int .u64 (0))), (.v (.int .u64 (0))), (.v (.int .u64 (0))), (.v (.int .u64 (0))), (.v (.int .u64 (0))), (.v (.int .u64 (0))), (.v (.int .u64 (0))), (.v (.int .u64 (0))), (.v (.int .u64 (0))), (.v (.int .u64 (0))), (.v (.int .u64 (0)))]
abbrev zl1 : List SV := [(.v (.int .i64 (0))), (.v (.int .i64 (0))), (.v (.int .i64 (0))), (.v (.int .i64 (0))), (.v (.int .i64 (0))), (.v (.bool false)), (.v (.int .i64 (0))), (.v (.bool false)), (.v (.bool false)), (.v (.bool false)), (.v (.int .i64 (0))), (.v (.int .i64 (0))), (.v (.int .i64 (0))), (.v (.int .i64 (0))), (.v (.int .i64 (0))), (.v (.int .i64 (0))), (.v (.int .i64 (0))), (.v (.int .u64 (0))), (.v (.int .u64 (0))), (.v (.int .u64 (0))), (.v (.int .u64 (0))), (.v (.int .u64 (0))), (.v (.int .u64 (0)))]
abbrev zl2 : List SV := [(.v (.int .i64 (0))), (.v (.int .i64 (0))), (.v (.int .i64 (0))), (.v (.int .i64 (0))), (.v (.int .i64 (0))), (.v (.int .i64 (0))), (.v (.int .i64 (0))), (.v (.int .u64 (0))), (.v (.int .u64 (0))), (.v (.int .u64 (0))), (.v (.int .u64 (0))), (.v (.int .u64 (0))), (.v (.int .u64 (0)))]
abbrev ty_int : Nat := 3
abbrev ty_bool : Nat := 4
abbrev ty_string : Nat := 9
abbrev ty_sl_int : Nat := 22
abbrev ty_sl_api_Version : Nat := 23
abbrev ty_sl_api_Listen : Nat := 24
abbrev ty_slsl_uint64 : Nat := 25
abbrev ty_sl_api_Retired : Nat := 26
abbrev ty_api_World : Nat := 28
abbrev ty_sl_string : Nat := 29
abbrev ty_sl_api_Route : Nat := 30
abbrev ty_sl_api_Cluster : Nat := 31
abbrev ty_api_Config : Nat := 33
abbrev ty_api_Op : Nat := 35
abbrev ty_uint64 : Nat := 36
abbrev ty_a6_uint64 : Nat := 37
abbrev ty_api_Answer : Nat := 39
abbrev ty_api_Machine : Nat := 41
abbrev ty_sl_api_Rule : Nat := 52
abbrev ty_api_Snap : Nat := 54
abbrev ty_sl_api_Group : Nat := 55
abbrev ty_api_Version : Nat := 57
abbrev ty_sl_api_End : Nat := 59
abbrev ty_api_Group : Nat := 61
abbrev ty_api_Listen : Nat := 70
abbrev ty_sl_uint64 : Nat := 81
abbrev ty_sl_bool : Nat := 83
abbrev ty_api_Cluster : Nat := 85
abbrev ty_api_End : Nat := 88
abbrev ty_world_cloner : Nat := 90
abbrev ty_api_Retired : Nat := 101
abbrev ty_api_Rule : Nat := 105
abbrev ty_api_Errno : Nat := 106
abbrev ty_api_Route : Nat := 158
abbrev n_hydrantlaw23_DrainSteps : Nat := 3
def f_hydrantlaw23_DrainSteps : FnI := ⟨50, [.tmp 4],
 (.seq (.reg [xo 2 (.box 28 (.t 0)), xo 3 (.box 41 (.t 1)), xo 4 (.mov (.b false))])
 (.seq (.seq (.reg [xo 11 (.load true 8 (.t 2)), xo 12 (.call 4 [(.t 11)]), xo 13 (.mov (.t 12)), xg 14 (.fadr 0 (.t 3)) 13 false, xg 15 (.fadr 1 (.t 14)) 13 false, xg 16 (.load false 1 (.t 15)) 13 false, xg 17 (.len true (.t 16)) 13 false, xg 18 (.bini .gtr (.t 17) (.c (.int .i64 (1000)))) 13 false, xo 19 (.pick (.t 13) (.b true) (.t 18))])
 (.cond (.t 19)
 (.seq (.reg [xo 4 (.mov (.b true))])
 .ret)
 .skip))
 (.seq (.reg [xo 21 (.load true 8 (.t 2)), xo 22 (.load true 44 (.t 3)), xo 23 (.call 5 [(.t 21), (.t 22)]), xo 20 (.mov (.t 23)), xo 24 (.ext 0 (.t 20)), xo 25 (.ext 1 (.t 20)), xo 26 (.ext 2 (.t 20)), xo 5 (.alloc 28 [(.v (.int .i64 (0))), (.v (.int .i64 (0))), (.v (.int .i64 (0))), (.v (.slice none 0 0)), (.v (.slice none 0 0)), (.v (.slice none 0 0)), (.v (.slice none 0 0)), (.v (.slice none 0 0))]), xo 6 (.alloc 41 zl0), xo 7 (.alloc 44 zl1), xn (.store 8 (.t 5) (.t 24)), xn (.store 44 (.t 6) (.t 25)), xn (.store 23 (.t 7) (.t 26))])
 (.seq (.reg [xo 28 (.load true 8 (.t 2)), xo 29 (.load true 44 (.t 3)), xo 30 (.call 6 [(.t 28), (.t 29)]), xo 27 (.mov (.t 30)), xo 31 (.ext 0 (.t 27)), xo 32 (.ext 1 (.t 27)), xo 33 (.ext 2 (.t 27)), xo 8 (.alloc 28 [(.v (.int .i64 (0))), (.v (.int .i64 (0))), (.v (.int .i64 (0))), (.v (.slice none 0 0)), (.v (.slice none 0 0)), (.v (.slice none 0 0)), (.v (.slice none 0 0)), (.v (.slice none 0 0))]), xo 9 (.alloc 41 zl0), xo 10 (.alloc 44 zl1), xn (.store 8 (.t 8) (.t 31)), xn (.store 44 (.t 9) (.t 32)), xn (.store 23 (.t 10) (.t 33))])
 (.seq (.reg [xo 34 (.call 7 []), xo 35 (.mov (.t 34)), xg 36 (.load true 8 (.t 5)) 35 true, xg 37 (.load true 8 (.t 8)) 35 true, xg 38 (.call 8 [(.t 36), (.t 37)]) 35 true, xo 39 (.pick (.t 35) (.t 38) (.b false)), xo 40 (.mov (.t 39)), xg 41 (.load true 44 (.t 6)) 40 true, xg 42 (.load true 44 (.t 9)) 40 true, xg 43 (.call 9 [(.t 41), (.t 42)]) 40 true, xo 44 (.pick (.t 40) (.t 43) (.b false)), xo 45 (.mov (.t 44)), xg 46 (.load true 23 (.t 7)) 45 true, xg 47 (.load true 23 (.t 10)) 45 true, xg 48 (.binst false [0, 0, 0, 0, 0, 2, 0, 2, 2, 2, 0, 0, 0, 0, 0, 0, 0, 0, 0, 0, 0, 0, 0] (.t 46) (.t 47)) 45 true, xo 49 (.pick (.t 45) (.t 48) (.b false)), xo 4 (.mov (.t 49))])
 .ret)))))⟩
theorem t_hydrantlaw23_DrainSteps : trFn Tryz.prog 3 [] [] = some f_hydrantlaw23_DrainSteps := by kernel_rfl

abbrev n_hydrantref18_Big : Nat := 4
def f_hydrantref18_Big : FnI := ⟨69, [.tmp 2],
 (.seq (.reg [xo 1 (.box 28 (.t 0)), xo 2 (.mov (.b false))])
 (.seq (.seq (.reg [xo 6 (.fadr 3 (.t 1)), xo 7 (.load false 1 (.t 6)), xo 8 (.len false (.t 7)), xo 9 (.bini .gtr (.t 8) (.c (.int .i64 (20)))), xo 10 (.mov (.t 9)), xg 11 (.fadr 4 (.t 1)) 10 false, xg 12 (.load false 1 (.t 11)) 10 false, xg 13 (.len false (.t 12)) 10 false, xg 14 (.bini .gtr (.t 13) (.c (.int .i64 (40)))) 10 false, xo 15 (.pick (.t 10) (.b true) (.t 14)), xo 16 (.mov (.t 15)), xg 17 (.fadr 5 (.t 1)) 16 false, xg 18 (.load false 1 (.t 17)) 16 false, xg 19 (.len false (.t 18)) 16 false, xg 20 (.bini .gtr (.t 19) (.c (.int .i64 (40)))) 16 false, xo 21 (.pick (.t 16) (.b true) (.t 20)), xo 22 (.mov (.t 21)), xg 23 (.fadr 6 (.t 1)) 22 false, xg 24 (.load false 1 (.t 23)) 22 false, xg 25 (.call 10 [(.t 24)]) 22 false, xo 26 (.pick (.t 22) (.b true) (.t 25)), xo 27 (.mov (.t 26)), xg 28 (.fadr 7 (.t 1)) 27 false, xg 29 (.load false 1 (.t 28)) 27 false, xg 30 (.len false (.t 29)) 27 false, xg 31 (.bini .gtr (.t 30) (.c (.int .i64 (60)))) 27 false, xo 32 (.pick (.t 27) (.b true) (.t 31))])
 (.cond (.t 32)
 (.seq (.reg [xo 2 (.mov (.b true))])
 .ret)
 .skip))
 (.seq (.seq (.reg [xo 3 (.mov (.c (.int .i64 (0))))])
 (.block 0
 (.loop [3] [33, 34, 35, 36, 37, 40, 41, 42, 43, 44, 4, 45, 46, 47, 48, 49, 50, 51, 52, 53, 2, 5, 54, 55, 56, 57, 58, 61, 62, 63, 64, 65, 66, 67, 68, 59, 60, 38, 39, 3]
 (.seq (.seq (.reg [xo 33 (.mov (.t 3)), xo 34 (.fadr 4 (.t 1)), xo 35 (.load false 1 (.t 34)), xo 36 (.len false (.t 35)), xo 37 (.bini .lss (.t 33) (.t 36))])
 (.cond (.t 37)
 .skip
 (.exit 0)))
 (.seq (.block 1
 (.seq (.reg [xo 40 (.fadr 4 (.t 1)), xo 41 (.load false 1 (.t 40)), xo 42 (.mov (.t 3)), xo 43 (.iadr 5 (.t 41) (.t 42)), xo 44 (.load true 5 (.t 43)), xo 4 (.alloc 57 [(.v (.slice none 0 0)), (.v (.slice none 0 0)), (.v (.slice none 0 0)), (.v (.slice none 0 0)), (.v (.bool false))]), xn (.store 5 (.t 4) (.t 44))])
 (.seq (.seq (.reg [xo 45 (.fadr 0 (.t 4)), xo 46 (.load true 3 (.t 45)), xo 47 (.call 11 [(.t 46)]), xo 48 (.mov (.t 47)), xg 49 (.fadr 3 (.t 4)) 48 false, xg 50 (.load false 1 (.t 49)) 48 false, xg 51 (.len false (.t 50)) 48 false, xg 52 (.bini .gtr (.t 51) (.c (.int .i64 (20)))) 48 false, xo 53 (.pick (.t 48) (.b true) (.t 52))])
 (.cond (.t 53)
 (.seq (.reg [xo 2 (.mov (.b true))])
 .ret)
 .skip))
 (.seq (.reg [xo 5 (.mov (.c (.int .i64 (0))))])
 (.block 2
 (.loop [5] [54, 55, 56, 57, 58, 61, 62, 63, 64, 65, 66, 67, 68, 2, 59, 60, 5]
 (.seq (.seq (.reg [xo 54 (.mov (.t 5)), xo 55 (.fadr 3 (.t 4)), xo 56 (.load false 1 (.t 55)), xo 57 (.len false (.t 56)), xo 58 (.bini .lss (.t 54) (.t 57))])
 (.cond (.t 58)
 .skip
 (.exit 2)))
 (.seq (.block 3
 (.seq (.reg [xo 61 (.fadr 3 (.t 4)), xo 62 (.load false 1 (.t 61)), xo 63 (.mov (.t 5)), xo 64 (.iadr 2 (.t 62) (.t 63)), xo 65 (.fadr 1 (.t 64)), xo 66 (.load false 1 (.t 65)), xo 67 (.len false (.t 66)), xo 68 (.bini .gtr (.t 67) (.c (.int .i64 (20))))])
 (.cond (.t 68)
 (.seq (.reg [xo 2 (.mov (.b true))])
 .ret)
 .skip)))
 (.reg [xo 59 (.mov (.t 5)), xo 60 (.bini .add (.t 59) (.c (.int .i64 (1)))), xo 5 (.mov (.t 60))])))))))))
 (.reg [xo 38 (.mov (.t 3)), xo 39 (.bini .add (.t 38) (.c (.int .i64 (1)))), xo 3 (.mov (.t 39))]))))))
 (.seq (.reg [xo 2 (.mov (.b false))])
 .ret))))⟩
theorem t_hydrantref18_Big : trFn Tryz.prog 4 [] [[3], [5]] = some f_hydrantref18_Big := by kernel_rfl

abbrev n_drain_Step : Nat := 5
def f_drain_Step : FnI := ⟨88, [.cell 4 8 true, .cell 5 44 true, .cell 6 23 true],
 (.seq (.reg [xo 2 (.box 28 (.t 0)), xo 3 (.box 41 (.t 1)), xo 4 (.alloc 28 [(.v (.int .i64 (0))), (.v (.int .i64 (0))), (.v (.int .i64 (0))), (.v (.slice none 0 0)), (.v (.slice none 0 0)), (.v (.slice none 0 0)), (.v (.slice none 0 0)), (.v (.slice none 0 0))]), xo 5 (.alloc 41 zl0), xo 6 (.alloc 44 zl1)])
 (.seq (.seq (.reg [xo 9 (.fadr 11 (.t 3)), xo 10 (.load false 1 (.t 9)), xo 11 (.bini .neq (.t 10) (.c (.int .i64 (0)))), xo 12 (.mov (.t 11)), xg 13 (.load true 8 (.t 2)) 12 false, xg 14 (.load true 44 (.t 3)) 12 false, xg 15 (.call 12 [(.t 13), (.t 14)]) 12 false, xg 16 (.not (.t 15)) 12 false, xo 17 (.pick (.t 12) (.b true) (.t 16))])
 (.cond (.t 17)
 (.seq (.regD [] (.op ⟨0, true, [], xo 18 (.load true 8 (.t 2))⟩
 (.op ⟨2, false, [], xo 20 (.build zl1 [])⟩
 (.op ⟨1, true, [], xo 19 (.load true 44 (.t 3))⟩
 (.op ⟨3, false, [1], xn (.store 8 (.t 4) (.t 18))⟩
 (.op ⟨4, false, [], xn (.store 44 (.t 5) (.t 19))⟩
 (.op ⟨5, false, [], xn (.store 23 (.t 6) (.t 20))⟩
 .nil)))))))
 .ret)
 .skip))
 (.seq (.reg [xo 21 (.load true 8 (.t 2)), xo 22 (.call 13 [(.t 21)]), xn (.store 8 (.t 2) (.t 22))])
 (.seq (.reg [xo 23 (.fadr 10 (.t 3)), xo 24 (.load false 1 (.t 23)), xo 25 (.build zl1 [(0, 1, (.t 24)), (2, 1, (.c (.int .i64 (1)))), (4, 1, (.c (.int .i64 (-1))))]), xo 26 (.build [(.v (.pointer none)), (.v (.int .i64 (0))), (.v (.int .i64 (0))), (.v (.int .i64 (0))), (.v (.int .i64 (0))), (.v (.int .i64 (0))), (.v (.bool false)), (.v (.int .i64 (0))), (.v (.bool false)), (.v (.bool false)), (.v (.bool false)), (.v (.int .i64 (0))), (.v (.int .i64 (0))), (.v (.int .i64 (0))), (.v (.int .i64 (0))), (.v (.int .i64 (0))), (.v (.int .i64 (0))), (.v (.int .i64 (0))), (.v (.int .u64 (0))), (.v (.int .u64 (0))), (.v (.int .u64 (0))), (.v (.int .u64 (0))), (.v (.int .u64 (0))), (.v (.int .u64 (0)))] [(0, 1, (.t 3)), (1, 23, (.t 25))]), xo 27 (.box 66 (.t 26)), xo 7 (.mov (.t 27))])
 (.seq (.reg [xo 28 (.fadr 5 (.t 2)), xo 29 (.load false 1 (.t 28)), xo 30 (.fadr 0 (.t 3)), xo 31 (.fadr 1 (.t 30)), xo 32 (.load false 1 (.t 31)), xo 33 (.call 14 [(.t 29), (.t 32)]), xo 8 (.mov (.t 33))])
 (.seq (.seq (.reg [xo 34 (.mov (.t 8)), xo 35 (.bini .lss (.t 34) (.c (.int .i64 (0))))])
 (.cond (.t 35)
 (.seq (.reg [xo 36 (.mov (.t 7)), xo 37 (.build zl2 [(0, 1, (.c (.int .i64 (7))))]), xo 38 (.call 15 [(.t 36), (.t 37)])])
 (.seq (.regD [] (.op ⟨0, true, [], xo 39 (.load true 8 (.t 2))⟩
 (.op ⟨2, false, [], xo 41 (.mov (.t 7))⟩
 (.op ⟨3, false, [], xo 42 (.nck (.t 41))⟩
 (.op ⟨4, false, [], xo 43 (.fadr 1 (.t 42))⟩
 (.op ⟨1, true, [], xo 40 (.load true 44 (.t 3))⟩
 (.op ⟨5, true, [], xo 44 (.load true 23 (.t 43))⟩
 (.op ⟨6, false, [5, 1], xn (.store 8 (.t 4) (.t 39))⟩
 (.op ⟨7, false, [5], xn (.store 44 (.t 5) (.t 40))⟩
 (.op ⟨8, false, [], xn (.store 23 (.t 6) (.t 44))⟩
 .nil))))))))))
 .ret))
 .skip))
 (.seq (.regD [] (.op ⟨0, false, [], xo 45 (.fadr 5 (.t 2))⟩
 (.op ⟨1, true, [], xo 46 (.load false 1 (.t 45))⟩
 (.op ⟨2, false, [], xo 47 (.mov (.t 8))⟩
 (.op ⟨3, false, [], xo 48 (.fadr 5 (.t 2))⟩
 (.op ⟨4, true, [], xo 49 (.load false 1 (.t 48))⟩
 (.op ⟨5, false, [], xo 50 (.mov (.t 8))⟩
 (.op ⟨6, true, [], xo 51 (.iadr 4 (.t 49) (.t 50))⟩
 (.op ⟨7, true, [], xo 52 (.load true 4 (.t 51))⟩
 (.op ⟨8, false, [], xo 53 (.call 16 [(.t 52)])⟩
 (.op ⟨9, true, [], xo 54 (.iadr 4 (.t 46) (.t 47))⟩
 (.op ⟨10, false, [], xn (.store 4 (.t 54) (.t 53))⟩
 .nil))))))))))))
 (.seq (.reg [xo 55 (.mov (.t 7)), xo 56 (.nck (.t 55)), xo 57 (.fadr 0 (.t 56)), xo 58 (.load false 1 (.t 57)), xo 59 (.mov (.t 8)), xo 60 (.nck (.t 58)), xo 61 (.fadr 14 (.t 60)), xn (.store 1 (.t 61) (.t 59))])
 (.seq (.reg [xo 62 (.mov (.t 7)), xo 63 (.mov (.t 7)), xo 64 (.mov (.t 7)), xo 65 (.mov (.t 7)), xo 66 (.nck (.t 62)), xo 67 (.fadr 1 (.t 66)), xo 68 (.fadr 2 (.t 67)), xn (.store 1 (.t 68) (.c (.int .i64 (2)))), xo 69 (.nck (.t 63)), xo 70 (.fadr 1 (.t 69)), xo 71 (.fadr 3 (.t 70)), xn (.store 1 (.t 71) (.c (.int .i64 (4)))), xo 72 (.nck (.t 64)), xo 73 (.fadr 1 (.t 72)), xo 74 (.fadr 6 (.t 73)), xn (.store 1 (.t 74) (.c (.int .i64 (1)))), xo 75 (.nck (.t 65)), xo 76 (.fadr 1 (.t 75)), xo 77 (.fadr 8 (.t 76)), xn (.store 1 (.t 77) (.b true))])
 (.seq (.reg [xo 78 (.mov (.t 7)), xo 79 (.mov (.t 8)), xo 80 (.build zl2 [(0, 1, (.c (.int .i64 (10)))), (5, 1, (.t 79))]), xo 81 (.call 15 [(.t 78), (.t 80)])])
 (.seq (.regD [] (.op ⟨0, true, [], xo 82 (.load true 8 (.t 2))⟩
 (.op ⟨2, false, [], xo 84 (.mov (.t 7))⟩
 (.op ⟨3, false, [], xo 85 (.nck (.t 84))⟩
 (.op ⟨4, false, [], xo 86 (.fadr 1 (.t 85))⟩
 (.op ⟨1, true, [], xo 83 (.load true 44 (.t 3))⟩
 (.op ⟨5, true, [], xo 87 (.load true 23 (.t 86))⟩
 (.op ⟨6, false, [5, 1], xn (.store 8 (.t 4) (.t 82))⟩
 (.op ⟨7, false, [5], xn (.store 44 (.t 5) (.t 83))⟩
 (.op ⟨8, false, [], xn (.store 23 (.t 6) (.t 87))⟩
 .nil))))))))))
 .ret)))))))))))⟩
theorem t_drain_Step : trFn Tryz.prog 5 [([], (.first 0 (.first 2 (.first 1 (.exec 3 (.exec 4 (.exec 5 .nil))))))), ([], (.first 0 (.first 2 (.first 3 (.first 4 (.first 1 (.first 5 (.exec 6 (.exec 7 (.exec 8 .nil)))))))))), ([], (.first 0 (.first 1 (.first 2 (.first 3 (.first 4 (.first 5 (.first 6 (.first 7 (.exec 8 (.first 9 (.exec 10 .nil)))))))))))), ([], (.first 0 (.first 2 (.first 3 (.first 4 (.first 1 (.first 5 (.exec 6 (.exec 7 (.exec 8 .nil))))))))))] [] = some f_drain_Step := by kernel_rfl

abbrev n_hydrantref23_Step : Nat := 6
def f_hydrantref23_Step : FnI := ⟨66, [.cell 4 8 true, .cell 5 44 true, .cell 6 23 true],
 (.seq (.reg [xo 2 (.box 28 (.t 0)), xo 3 (.box 41 (.t 1)), xo 4 (.alloc 28 [(.v (.int .i64 (0))), (.v (.int .i64 (0))), (.v (.int .i64 (0))), (.v (.slice none 0 0)), (.v (.slice none 0 0)), (.v (.slice none 0 0)), (.v (.slice none 0 0)), (.v (.slice none 0 0))]), xo 5 (.alloc 41 zl0), xo 6 (.alloc 44 zl1)])
 (.seq (.seq (.reg [xo 13 (.load true 8 (.t 2)), xo 14 (.load true 44 (.t 3)), xo 15 (.call 17 [(.t 13), (.t 14)]), xo 16 (.not (.t 15)), xo 17 (.mov (.t 16)), xg 18 (.fadr 11 (.t 3)) 17 false, xg 19 (.load false 1 (.t 18)) 17 false, xg 20 (.bini .neq (.t 19) (.c (.int .i64 (0)))) 17 false, xo 21 (.pick (.t 17) (.b true) (.t 20))])
 (.cond (.t 21)
 (.seq (.regD [] (.op ⟨0, true, [], xo 22 (.load true 8 (.t 2))⟩
 (.op ⟨2, false, [], xo 24 (.build zl1 [])⟩
 (.op ⟨1, true, [], xo 23 (.load true 44 (.t 3))⟩
 (.op ⟨3, false, [1], xn (.store 8 (.t 4) (.t 22))⟩
 (.op ⟨4, false, [], xn (.store 44 (.t 5) (.t 23))⟩
 (.op ⟨5, false, [], xn (.store 23 (.t 6) (.t 24))⟩
 .nil)))))))
 .ret)
 .skip))
 (.seq (.reg [xo 25 (.load true 8 (.t 2)), xo 26 (.call 18 [(.t 25)]), xo 7 (.alloc 28 [(.v (.int .i64 (0))), (.v (.int .i64 (0))), (.v (.int .i64 (0))), (.v (.slice none 0 0)), (.v (.slice none 0 0)), (.v (.slice none 0 0)), (.v (.slice none 0 0)), (.v (.slice none 0 0))]), xn (.store 8 (.t 7) (.t 26))])
 (.seq (.reg [xo 27 (.fadr 5 (.t 2)), xo 28 (.load false 1 (.t 27)), xo 29 (.fadr 0 (.t 3)), xo 30 (.fadr 1 (.t 29)), xo 31 (.load false 1 (.t 30)), xo 32 (.call 19 [(.t 28), (.t 31)]), xo 8 (.mov (.t 32))])
 (.seq (.seq (.reg [xo 33 (.mov (.t 8)), xo 34 (.bini .lss (.t 33) (.c (.int .i64 (0))))])
 (.cond (.t 34)
 (.seq (.regD [9, 10] (.op ⟨0, true, [], xo 36 (.load true 44 (.t 3))⟩
 (.op ⟨1, true, [], xo 37 (.load true 44 (.t 3))⟩
 (.op ⟨3, false, [], xo 39 (.build zl2 [(0, 1, (.c (.int .i64 (7))))])⟩
 (.op ⟨2, false, [], xo 38 (.call 21 [(.t 37), (.c (.int .i64 (1))), (.c (.int .i64 (0))), (.c (.int .i64 (0)))])⟩
 (.op ⟨4, false, [], xo 40 (.call 20 [(.t 36), (.t 38), (.t 39)])⟩
 (.op ⟨5, false, [], xo 35 (.mov (.t 40))⟩
 (.op ⟨6, false, [], xo 41 (.ext 0 (.t 35))⟩
 (.op ⟨7, false, [], xo 42 (.ext 1 (.t 35))⟩
 (.bring ⟨8, false, [], xo 9 (.alloc 41 zl0)⟩
 (.bring ⟨9, false, [], xo 10 (.alloc 44 zl1)⟩
 (.op ⟨10, false, [], xn (.store 44 (.t 9) (.t 41))⟩
 (.op ⟨11, false, [], xn (.store 23 (.t 10) (.t 42))⟩
 .nil)))))))))))))
 (.seq (.regD [] (.op ⟨0, true, [], xo 43 (.load true 8 (.t 7))⟩
 (.op ⟨1, true, [], xo 44 (.load true 44 (.t 9))⟩
 (.op ⟨2, true, [], xo 45 (.load true 23 (.t 10))⟩
 (.op ⟨3, false, [2, 1], xn (.store 8 (.t 4) (.t 43))⟩
 (.op ⟨4, false, [2], xn (.store 44 (.t 5) (.t 44))⟩
 (.op ⟨5, false, [], xn (.store 23 (.t 6) (.t 45))⟩
 .nil)))))))
 .ret))
 .skip))
 (.seq (.reg [xo 46 (.fadr 5 (.t 7)), xo 47 (.load false 1 (.t 46)), xo 48 (.mov (.t 8)), xo 49 (.iadr 4 (.t 47) (.t 48)), xo 50 (.fadr 1 (.t 49)), xn (.store 1 (.t 50) (.b true))])
 (.seq (.reg [xo 51 (.mov (.t 8)), xo 52 (.fadr 14 (.t 3)), xn (.store 1 (.t 52) (.t 51))])
 (.seq (.regD [11, 12] (.op ⟨0, true, [], xo 54 (.load true 44 (.t 3))⟩
 (.op ⟨1, true, [], xo 55 (.load true 44 (.t 3))⟩
 (.op ⟨3, false, [], xo 57 (.mov (.t 8))⟩
 (.op ⟨4, false, [], xo 58 (.build zl2 [(0, 1, (.c (.int .i64 (10)))), (5, 1, (.t 57))])⟩
 (.op ⟨2, false, [], xo 56 (.call 21 [(.t 55), (.c (.int .i64 (2))), (.c (.int .i64 (4))), (.c (.int .i64 (1)))])⟩
 (.op ⟨5, false, [], xo 59 (.call 20 [(.t 54), (.t 56), (.t 58)])⟩
 (.op ⟨6, false, [], xo 53 (.mov (.t 59))⟩
 (.op ⟨7, false, [], xo 60 (.ext 0 (.t 53))⟩
 (.op ⟨8, false, [], xo 61 (.ext 1 (.t 53))⟩
 (.bring ⟨9, false, [], xo 11 (.alloc 41 zl0)⟩
 (.bring ⟨10, false, [], xo 12 (.alloc 44 zl1)⟩
 (.op ⟨11, false, [], xn (.store 44 (.t 11) (.t 60))⟩
 (.op ⟨12, false, [], xn (.store 23 (.t 12) (.t 61))⟩
 .nil))))))))))))))
 (.seq (.reg [xo 62 (.fadr 8 (.t 12)), xn (.store 1 (.t 62) (.b true))])
 (.seq (.regD [] (.op ⟨0, true, [], xo 63 (.load true 8 (.t 7))⟩
 (.op ⟨1, true, [], xo 64 (.load true 44 (.t 11))⟩
 (.op ⟨2, true, [], xo 65 (.load true 23 (.t 12))⟩
 (.op ⟨3, false, [2, 1], xn (.store 8 (.t 4) (.t 63))⟩
 (.op ⟨4, false, [2], xn (.store 44 (.t 5) (.t 64))⟩
 (.op ⟨5, false, [], xn (.store 23 (.t 6) (.t 65))⟩
 .nil)))))))
 .ret))))))))))⟩
theorem t_hydrantref23_Step : trFn Tryz.prog 6 [([], (.first 0 (.first 2 (.first 1 (.exec 3 (.exec 4 (.exec 5 .nil))))))), ([8, 9], (.first 0 (.first 1 (.first 3 (.exec 2 (.exec 4 (.first 5 (.first 6 (.first 7 (.bring 8 (.bring 9 (.exec 10 (.exec 11 .nil))))))))))))), ([], (.first 0 (.first 1 (.first 2 (.exec 3 (.exec 4 (.exec 5 .nil))))))), ([9, 10], (.first 0 (.first 1 (.first 3 (.first 4 (.exec 2 (.exec 5 (.first 6 (.first 7 (.first 8 (.bring 9 (.bring 10 (.exec 11 (.exec 12 .nil)))))))))))))), ([], (.first 0 (.first 1 (.first 2 (.exec 3 (.exec 4 (.exec 5 .nil)))))))] [] = some f_hydrantref23_Step := by kernel_rfl

abbrev n_hydrantlaw23_drained : Nat := 7
def f_hydrantlaw23_drained : FnI := ⟨52, [.tmp 0],
 (.seq (.reg [xo 0 (.mov (.b false))])
 (.seq (.reg [xo 8 (.call 22 []), xo 9 (.build [(.v (.int .i64 (0))), (.v (.string ⟨#[]⟩)), (.v (.string ⟨#[]⟩)), (.v (.string ⟨#[]⟩)), (.v (.int .i64 (0))), (.v (.int .i64 (0))), (.v (.int .i64 (0))), (.v (.slice none 0 0)), (.v (.slice none 0 0)), (.v (.slice none 0 0))] [(0, 1, (.c (.int .i64 (4)))), (1, 1, (.c (.string ⟨#[105, 110]⟩)))]), xo 10 (.build zl0 [(0, 10, (.t 9))]), xo 11 (.call 5 [(.t 8), (.t 10)]), xo 7 (.mov (.t 11)), xo 12 (.ext 0 (.t 7)), xo 13 (.ext 1 (.t 7)), xo 14 (.ext 2 (.t 7)), xo 1 (.alloc 28 [(.v (.int .i64 (0))), (.v (.int .i64 (0))), (.v (.int .i64 (0))), (.v (.slice none 0 0)), (.v (.slice none 0 0)), (.v (.slice none 0 0)), (.v (.slice none 0 0)), (.v (.slice none 0 0))]), xo 2 (.alloc 41 zl0), xo 3 (.alloc 44 zl1), xn (.store 8 (.t 1) (.t 12)), xn (.store 44 (.t 2) (.t 13)), xn (.store 23 (.t 3) (.t 14))])
 (.seq (.reg [xo 16 (.call 22 []), xo 17 (.build [(.v (.int .i64 (0))), (.v (.string ⟨#[]⟩)), (.v (.string ⟨#[]⟩)), (.v (.string ⟨#[]⟩)), (.v (.int .i64 (0))), (.v (.int .i64 (0))), (.v (.int .i64 (0))), (.v (.slice none 0 0)), (.v (.slice none 0 0)), (.v (.slice none 0 0))] [(0, 1, (.c (.int .i64 (4)))), (1, 1, (.c (.string ⟨#[110, 111]⟩)))]), xo 18 (.build zl0 [(0, 10, (.t 17))]), xo 19 (.call 5 [(.t 16), (.t 18)]), xo 15 (.mov (.t 19)), xo 20 (.ext 0 (.t 15)), xo 21 (.ext 1 (.t 15)), xo 22 (.ext 2 (.t 15)), xo 4 (.alloc 28 [(.v (.int .i64 (0))), (.v (.int .i64 (0))), (.v (.int .i64 (0))), (.v (.slice none 0 0)), (.v (.slice none 0 0)), (.v (.slice none 0 0)), (.v (.slice none 0 0)), (.v (.slice none 0 0))]), xo 5 (.alloc 41 zl0), xo 6 (.alloc 44 zl1), xn (.store 8 (.t 4) (.t 20)), xn (.store 44 (.t 5) (.t 21)), xn (.store 23 (.t 6) (.t 22))])
 (.seq (.seq (.reg [xo 23 (.fadr 5 (.t 1)), xo 24 (.load false 1 (.t 23)), xo 25 (.len false (.t 24)), xo 26 (.bini .neq (.t 25) (.c (.int .i64 (1))))])
 (.cond (.t 26)
 (.seq (.reg [xo 0 (.mov (.b false))])
 .ret)
 .skip))
 (.seq (.reg [xo 27 (.fadr 5 (.t 1)), xo 28 (.load false 1 (.t 27)), xo 29 (.iadr 4 (.t 28) (.c (.int .i64 (0)))), xo 30 (.fadr 1 (.t 29)), xo 31 (.load false 1 (.t 30)), xo 32 (.mov (.t 31)), xg 33 (.fadr 24 (.t 2)) 32 true, xg 34 (.load false 1 (.t 33)) 32 true, xo 35 (.pick (.t 32) (.t 34) (.b false)), xo 36 (.mov (.t 35)), xg 37 (.load true 23 (.t 3)) 36 true, xg 38 (.build zl2 [(0, 1, (.c (.int .i64 (10))))]) 36 true, xg 39 (.build zl1 [(2, 1, (.c (.int .i64 (2)))), (3, 1, (.c (.int .i64 (4)))), (4, 1, (.c (.int .i64 (-1)))), (6, 1, (.c (.int .i64 (1)))), (8, 1, (.b true)), (9, 1, (.b true)), (10, 13, (.t 38))]) 36 true, xg 40 (.binst false [0, 0, 0, 0, 0, 2, 0, 2, 2, 2, 0, 0, 0, 0, 0, 0, 0, 0, 0, 0, 0, 0, 0] (.t 37) (.t 39)) 36 true, xo 41 (.pick (.t 36) (.t 40) (.b false)), xo 42 (.mov (.t 41)), xg 43 (.fadr 24 (.t 5)) 42 true, xg 44 (.load false 1 (.t 43)) 42 true, xo 45 (.pick (.t 42) (.t 44) (.b false)), xo 46 (.mov (.t 45)), xg 47 (.load true 23 (.t 6)) 46 true, xg 48 (.build zl2 [(0, 1, (.c (.int .i64 (7))))]) 46 true, xg 49 (.build zl1 [(2, 1, (.c (.int .i64 (1)))), (4, 1, (.c (.int .i64 (-1)))), (9, 1, (.b true)), (10, 13, (.t 48))]) 46 true, xg 50 (.binst false [0, 0, 0, 0, 0, 2, 0, 2, 2, 2, 0, 0, 0, 0, 0, 0, 0, 0, 0, 0, 0, 0, 0] (.t 47) (.t 49)) 46 true, xo 51 (.pick (.t 46) (.t 50) (.b false)), xo 0 (.mov (.t 51))])
 .ret)))))⟩
theorem t_hydrantlaw23_drained : trFn Tryz.prog 7 [] [] = some f_hydrantlaw23_drained := by kernel_rfl

abbrev n_hydrantref18_Same : Nat := 8
def f_hydrantref18_Same : FnI := ⟨105, [.tmp 4],
 (.seq (.reg [xo 2 (.box 28 (.t 0)), xo 3 (.box 28 (.t 1)), xo 4 (.mov (.b false))])
 (.seq (.seq (.reg [xo 7 (.fadr 0 (.t 2)), xo 8 (.load false 1 (.t 7)), xo 9 (.fadr 0 (.t 3)), xo 10 (.load false 1 (.t 9)), xo 11 (.bini .neq (.t 8) (.t 10)), xo 12 (.mov (.t 11)), xg 13 (.fadr 1 (.t 2)) 12 false, xg 14 (.load false 1 (.t 13)) 12 false, xg 15 (.fadr 1 (.t 3)) 12 false, xg 16 (.load false 1 (.t 15)) 12 false, xg 17 (.bini .neq (.t 14) (.t 16)) 12 false, xo 18 (.pick (.t 12) (.b true) (.t 17)), xo 19 (.mov (.t 18)), xg 20 (.fadr 2 (.t 2)) 19 false, xg 21 (.load false 1 (.t 20)) 19 false, xg 22 (.fadr 2 (.t 3)) 19 false, xg 23 (.load false 1 (.t 22)) 19 false, xg 24 (.bini .neq (.t 21) (.t 23)) 19 false, xo 25 (.pick (.t 19) (.b true) (.t 24)), xo 26 (.mov (.t 25)), xg 27 (.fadr 3 (.t 2)) 26 false, xg 28 (.load false 1 (.t 27)) 26 false, xg 29 (.fadr 3 (.t 3)) 26 false, xg 30 (.load false 1 (.t 29)) 26 false, xg 31 (.call 23 [(.t 28), (.t 30)]) 26 false, xg 32 (.not (.t 31)) 26 false, xo 33 (.pick (.t 26) (.b true) (.t 32)), xo 34 (.mov (.t 33)), xg 35 (.fadr 4 (.t 2)) 34 false, xg 36 (.load false 1 (.t 35)) 34 false, xg 37 (.len false (.t 36)) 34 false, xg 38 (.fadr 4 (.t 3)) 34 false, xg 39 (.load false 1 (.t 38)) 34 false, xg 40 (.len false (.t 39)) 34 false, xg 41 (.bini .neq (.t 37) (.t 40)) 34 false, xo 42 (.pick (.t 34) (.b true) (.t 41)), xo 43 (.mov (.t 42)), xg 44 (.fadr 5 (.t 2)) 43 false, xg 45 (.load false 1 (.t 44)) 43 false, xg 46 (.len false (.t 45)) 43 false, xg 47 (.fadr 5 (.t 3)) 43 false, xg 48 (.load false 1 (.t 47)) 43 false, xg 49 (.len false (.t 48)) 43 false, xg 50 (.bini .neq (.t 46) (.t 49)) 43 false, xo 51 (.pick (.t 43) (.b true) (.t 50)), xo 52 (.mov (.t 51)), xg 53 (.fadr 6 (.t 2)) 52 false, xg 54 (.load false 1 (.t 53)) 52 false, xg 55 (.fadr 6 (.t 3)) 52 false, xg 56 (.load false 1 (.t 55)) 52 false, xg 57 (.call 24 [(.t 54), (.t 56)]) 52 false, xg 58 (.not (.t 57)) 52 false, xo 59 (.pick (.t 52) (.b true) (.t 58)), xo 60 (.mov (.t 59)), xg 61 (.fadr 7 (.t 2)) 60 false, xg 62 (.load false 1 (.t 61)) 60 false, xg 63 (.fadr 7 (.t 3)) 60 false, xg 64 (.load false 1 (.t 63)) 60 false, xg 65 (.call 25 [(.t 62), (.t 64)]) 60 false, xg 66 (.not (.t 65)) 60 false, xo 67 (.pick (.t 60) (.b true) (.t 66))])
 (.cond (.t 67)
 (.seq (.reg [xo 4 (.mov (.b false))])
 .ret)
 .skip))
 (.seq (.seq (.reg [xo 5 (.mov (.c (.int .i64 (0))))])
 (.block 0
 (.loop [5] [68, 69, 70, 71, 72, 75, 76, 77, 78, 79, 80, 81, 82, 83, 84, 85, 86, 4, 73, 74, 5]
 (.seq (.seq (.reg [xo 68 (.mov (.t 5)), xo 69 (.fadr 4 (.t 2)), xo 70 (.load false 1 (.t 69)), xo 71 (.len false (.t 70)), xo 72 (.bini .lss (.t 68) (.t 71))])
 (.cond (.t 72)
 .skip
 (.exit 0)))
 (.seq (.block 1
 (.seq (.regD [] (.op ⟨0, false, [], xo 75 (.fadr 4 (.t 2))⟩
 (.op ⟨1, true, [], xo 76 (.load false 1 (.t 75))⟩
 (.op ⟨2, false, [], xo 77 (.mov (.t 5))⟩
 (.op ⟨3, true, [], xo 78 (.iadr 5 (.t 76) (.t 77))⟩
 (.op ⟨4, true, [], xo 79 (.load true 5 (.t 78))⟩
 (.op ⟨5, false, [], xo 80 (.fadr 4 (.t 3))⟩
 (.op ⟨6, true, [], xo 81 (.load false 1 (.t 80))⟩
 (.op ⟨7, false, [], xo 82 (.mov (.t 5))⟩
 (.op ⟨8, true, [], xo 83 (.iadr 5 (.t 81) (.t 82))⟩
 (.op ⟨9, true, [], xo 84 (.load true 5 (.t 83))⟩
 (.op ⟨10, false, [], xo 85 (.call 26 [(.t 79), (.t 84)])⟩
 (.op ⟨11, false, [], xo 86 (.not (.t 85))⟩
 .nil)))))))))))))
 (.cond (.t 86)
 (.seq (.reg [xo 4 (.mov (.b false))])
 .ret)
 .skip)))
 (.reg [xo 73 (.mov (.t 5)), xo 74 (.bini .add (.t 73) (.c (.int .i64 (1)))), xo 5 (.mov (.t 74))]))))))
 (.seq (.seq (.reg [xo 6 (.mov (.c (.int .i64 (0))))])
 (.block 2
 (.loop [6] [87, 88, 89, 90, 91, 94, 95, 96, 97, 98, 99, 100, 101, 102, 103, 104, 4, 92, 93, 6]
 (.seq (.seq (.reg [xo 87 (.mov (.t 6)), xo 88 (.fadr 5 (.t 2)), xo 89 (.load false 1 (.t 88)), xo 90 (.len false (.t 89)), xo 91 (.bini .lss (.t 87) (.t 90))])
 (.cond (.t 91)
 .skip
 (.exit 2)))
 (.seq (.block 3
 (.seq (.regD [] (.op ⟨0, false, [], xo 94 (.fadr 5 (.t 2))⟩
 (.op ⟨1, true, [], xo 95 (.load false 1 (.t 94))⟩
 (.op ⟨2, false, [], xo 96 (.mov (.t 6))⟩
 (.op ⟨3, true, [], xo 97 (.iadr 4 (.t 95) (.t 96))⟩
 (.op ⟨4, true, [], xo 98 (.load true 4 (.t 97))⟩
 (.op ⟨5, false, [], xo 99 (.fadr 5 (.t 3))⟩
 (.op ⟨6, true, [], xo 100 (.load false 1 (.t 99))⟩
 (.op ⟨7, false, [], xo 101 (.mov (.t 6))⟩
 (.op ⟨8, true, [], xo 102 (.iadr 4 (.t 100) (.t 101))⟩
 (.op ⟨9, true, [], xo 103 (.load true 4 (.t 102))⟩
 (.op ⟨10, false, [], xo 104 (.binst true [1, 2, 0, 2] (.t 98) (.t 103))⟩
 .nil))))))))))))
 (.cond (.t 104)
 (.seq (.reg [xo 4 (.mov (.b false))])
 .ret)
 .skip)))
 (.reg [xo 92 (.mov (.t 6)), xo 93 (.bini .add (.t 92) (.c (.int .i64 (1)))), xo 6 (.mov (.t 93))]))))))
 (.seq (.reg [xo 4 (.mov (.b true))])
 .ret)))))⟩
theorem t_hydrantref18_Same : trFn Tryz.prog 8 [([], (.first 0 (.first 1 (.first 2 (.first 3 (.first 4 (.first 5 (.first 6 (.first 7 (.first 8 (.first 9 (.exec 10 (.first 11 .nil))))))))))))), ([], (.first 0 (.first 1 (.first 2 (.first 3 (.first 4 (.first 5 (.first 6 (.first 7 (.first 8 (.first 9 (.first 10 .nil))))))))))))] [[5], [6]] = some f_hydrantref18_Same := by kernel_rfl

abbrev n_hydrantref19_Same : Nat := 9
def f_hydrantref19_Same : FnI := ⟨128, [.tmp 4],
 (.seq (.reg [xo 2 (.box 41 (.t 0)), xo 3 (.box 41 (.t 1)), xo 4 (.mov (.b false))])
 (.seq (.seq (.reg [xo 5 (.fadr 0 (.t 2)), xo 6 (.load true 10 (.t 5)), xo 7 (.fadr 0 (.t 3)), xo 8 (.load true 10 (.t 7)), xo 9 (.call 27 [(.t 6), (.t 8)]), xo 10 (.not (.t 9))])
 (.cond (.t 10)
 (.seq (.reg [xo 4 (.mov (.b false))])
 .ret)
 .skip))
 (.seq (.reg [xo 11 (.fadr 10 (.t 2)), xo 12 (.load false 1 (.t 11)), xo 13 (.fadr 10 (.t 3)), xo 14 (.load false 1 (.t 13)), xo 15 (.bini .eql (.t 12) (.t 14)), xo 16 (.mov (.t 15)), xg 17 (.fadr 11 (.t 2)) 16 true, xg 18 (.load false 1 (.t 17)) 16 true, xg 19 (.fadr 11 (.t 3)) 16 true, xg 20 (.load false 1 (.t 19)) 16 true, xg 21 (.bini .eql (.t 18) (.t 20)) 16 true, xo 22 (.pick (.t 16) (.t 21) (.b false)), xo 23 (.mov (.t 22)), xg 24 (.fadr 12 (.t 2)) 23 true, xg 25 (.load false 1 (.t 24)) 23 true, xg 26 (.fadr 12 (.t 3)) 23 true, xg 27 (.load false 1 (.t 26)) 23 true, xg 28 (.bini .eql (.t 25) (.t 27)) 23 true, xo 29 (.pick (.t 23) (.t 28) (.b false)), xo 30 (.mov (.t 29)), xg 31 (.fadr 13 (.t 2)) 30 true, xg 32 (.load false 1 (.t 31)) 30 true, xg 33 (.fadr 13 (.t 3)) 30 true, xg 34 (.load false 1 (.t 33)) 30 true, xg 35 (.bini .eql (.t 32) (.t 34)) 30 true, xo 36 (.pick (.t 30) (.t 35) (.b false)), xo 37 (.mov (.t 36)), xg 38 (.fadr 14 (.t 2)) 37 true, xg 39 (.load false 1 (.t 38)) 37 true, xg 40 (.fadr 14 (.t 3)) 37 true, xg 41 (.load false 1 (.t 40)) 37 true, xg 42 (.bini .eql (.t 39) (.t 41)) 37 true, xo 43 (.pick (.t 37) (.t 42) (.b false)), xo 44 (.mov (.t 43)), xg 45 (.fadr 15 (.t 2)) 44 true, xg 46 (.load false 1 (.t 45)) 44 true, xg 47 (.fadr 15 (.t 3)) 44 true, xg 48 (.load false 1 (.t 47)) 44 true, xg 49 (.bini .eql (.t 46) (.t 48)) 44 true, xo 50 (.pick (.t 44) (.t 49) (.b false)), xo 51 (.mov (.t 50)), xg 52 (.fadr 16 (.t 2)) 51 true, xg 53 (.load false 1 (.t 52)) 51 true, xg 54 (.fadr 16 (.t 3)) 51 true, xg 55 (.load false 1 (.t 54)) 51 true, xg 56 (.bini .eql (.t 53) (.t 55)) 51 true, xo 57 (.pick (.t 51) (.t 56) (.b false)), xo 58 (.mov (.t 57)), xg 59 (.fadr 17 (.t 2)) 58 true, xg 60 (.load false 1 (.t 59)) 58 true, xg 61 (.fadr 17 (.t 3)) 58 true, xg 62 (.load false 1 (.t 61)) 58 true, xg 63 (.bini .eql (.t 60) (.t 62)) 58 true, xo 64 (.pick (.t 58) (.t 63) (.b false)), xo 65 (.mov (.t 64)), xg 66 (.fadr 18 (.t 2)) 65 true, xg 67 (.load false 1 (.t 66)) 65 true, xg 68 (.fadr 18 (.t 3)) 65 true, xg 69 (.load false 1 (.t 68)) 65 true, xg 70 (.bini .eql (.t 67) (.t 69)) 65 true, xo 71 (.pick (.t 65) (.t 70) (.b false)), xo 72 (.mov (.t 71)), xg 73 (.fadr 19 (.t 2)) 72 true, xg 74 (.load false 1 (.t 73)) 72 true, xg 75 (.fadr 19 (.t 3)) 72 true, xg 76 (.load false 1 (.t 75)) 72 true, xg 77 (.bini .eql (.t 74) (.t 76)) 72 true, xo 78 (.pick (.t 72) (.t 77) (.b false)), xo 79 (.mov (.t 78)), xg 80 (.fadr 20 (.t 2)) 79 true, xg 81 (.load false 1 (.t 80)) 79 true, xg 82 (.fadr 20 (.t 3)) 79 true, xg 83 (.load false 1 (.t 82)) 79 true, xg 84 (.bini .eql (.t 81) (.t 83)) 79 true, xo 85 (.pick (.t 79) (.t 84) (.b false)), xo 86 (.mov (.t 85)), xg 87 (.fadr 21 (.t 2)) 86 true, xg 88 (.load false 1 (.t 87)) 86 true, xg 89 (.fadr 21 (.t 3)) 86 true, xg 90 (.load false 1 (.t 89)) 86 true, xg 91 (.bini .eql (.t 88) (.t 90)) 86 true, xo 92 (.pick (.t 86) (.t 91) (.b false)), xo 93 (.mov (.t 92)), xg 94 (.fadr 22 (.t 2)) 93 true, xg 95 (.load false 1 (.t 94)) 93 true, xg 96 (.fadr 22 (.t 3)) 93 true, xg 97 (.load false 1 (.t 96)) 93 true, xg 98 (.bini .eql (.t 95) (.t 97)) 93 true, xo 99 (.pick (.t 93) (.t 98) (.b false)), xo 100 (.mov (.t 99)), xg 101 (.fadr 23 (.t 2)) 100 true, xg 102 (.load false 1 (.t 101)) 100 true, xg 103 (.fadr 23 (.t 3)) 100 true, xg 104 (.load false 1 (.t 103)) 100 true, xg 105 (.bini .eql (.t 102) (.t 104)) 100 true, xo 106 (.pick (.t 100) (.t 105) (.b false)), xo 107 (.mov (.t 106)), xg 108 (.fadr 24 (.t 2)) 107 true, xg 109 (.load false 1 (.t 108)) 107 true, xg 110 (.fadr 24 (.t 3)) 107 true, xg 111 (.load false 1 (.t 110)) 107 true, xg 112 (.binb false (.t 109) (.t 111)) 107 true, xo 113 (.pick (.t 107) (.t 112) (.b false)), xo 114 (.mov (.t 113)), xg 115 (.fadr 25 (.t 2)) 114 true, xg 116 (.load true 13 (.t 115)) 114 true, xg 117 (.fadr 25 (.t 3)) 114 true, xg 118 (.load true 13 (.t 117)) 114 true, xg 119 (.binst false [0, 0, 0, 0, 0, 0, 0, 0, 0, 0, 0, 0, 0] (.t 116) (.t 118)) 114 true, xo 120 (.pick (.t 114) (.t 119) (.b false)), xo 121 (.mov (.t 120)), xg 122 (.fadr 38 (.t 2)) 121 true, xg 123 (.load true 6 (.t 122)) 121 true, xg 124 (.fadr 38 (.t 3)) 121 true, xg 125 (.load true 6 (.t 124)) 121 true, xg 126 (.binst false [0, 0, 0, 0, 0, 0] (.t 123) (.t 125)) 121 true, xo 127 (.pick (.t 121) (.t 126) (.b false)), xo 4 (.mov (.t 127))])
 .ret)))⟩
theorem t_hydrantref19_Same : trFn Tryz.prog 9 [] [] = some f_hydrantref19_Same := by kernel_rfl

abbrev n_hydrantref11_Big : Nat := 10
def f_hydrantref11_Big : FnI := ⟨24, [.tmp 2],
 (.seq (.reg [xo 2 (.mov (.b false))])
 (.seq (.seq (.reg [xo 3 (.mov (.c (.int .i64 (0))))])
 (.block 0
 (.loop [3] [4, 5, 6, 7, 8, 9, 10, 11, 12, 15, 16, 17, 18, 19, 20, 2, 13, 14, 3]
 (.seq (.seq (.reg [xo 4 (.mov (.t 3)), xo 5 (.mov (.t 0)), xo 6 (.len false (.t 5)), xo 7 (.bini .lss (.t 4) (.t 6)), xo 8 (.mov (.t 7)), xg 9 (.mov (.t 0)) 8 true, xg 10 (.len false (.t 9)) 8 true, xg 11 (.bini .leq (.t 10) (.c (.int .i64 (50)))) 8 true, xo 12 (.pick (.t 8) (.t 11) (.b false))])
 (.cond (.t 12)
 .skip
 (.exit 0)))
 (.seq (.block 1
 (.seq (.reg [xo 15 (.mov (.t 0)), xo 16 (.mov (.t 3)), xo 17 (.iadr 1 (.t 15) (.t 16)), xo 18 (.load false 1 (.t 17)), xo 19 (.len false (.t 18)), xo 20 (.bini .gtr (.t 19) (.c (.int .i64 (50))))])
 (.cond (.t 20)
 (.seq (.reg [xo 2 (.mov (.b true))])
 .ret)
 .skip)))
 (.reg [xo 13 (.mov (.t 3)), xo 14 (.bini .add (.t 13) (.c (.int .i64 (1)))), xo 3 (.mov (.t 14))]))))))
 (.seq (.reg [xo 21 (.mov (.t 0)), xo 22 (.len false (.t 21)), xo 23 (.bini .gtr (.t 22) (.c (.int .i64 (50)))), xo 2 (.mov (.t 23))])
 .ret)))⟩
theorem t_hydrantref11_Big : trFn Tryz.prog 10 [] [[3]] = some f_hydrantref11_Big := by kernel_rfl

abbrev n_hydrantref18_BigSnap : Nat := 11
def f_hydrantref18_BigSnap : FnI := ⟨44, [.tmp 2],
 (.seq (.reg [xo 1 (.box 54 (.t 0)), xo 2 (.mov (.b false))])
 (.seq (.seq (.reg [xo 4 (.fadr 0 (.t 1)), xo 5 (.load false 1 (.t 4)), xo 6 (.len false (.t 5)), xo 7 (.bini .gtr (.t 6) (.c (.int .i64 (20)))), xo 8 (.mov (.t 7)), xg 9 (.fadr 2 (.t 1)) 8 false, xg 10 (.load false 1 (.t 9)) 8 false, xg 11 (.len false (.t 10)) 8 false, xg 12 (.bini .gtr (.t 11) (.c (.int .i64 (20)))) 8 false, xo 13 (.pick (.t 8) (.b true) (.t 12)), xo 14 (.mov (.t 13)), xg 15 (.fadr 1 (.t 1)) 14 false, xg 16 (.load false 1 (.t 15)) 14 false, xg 17 (.call 28 [(.t 16)]) 14 false, xo 18 (.pick (.t 14) (.b true) (.t 17))])
 (.cond (.t 18)
 (.seq (.reg [xo 2 (.mov (.b true))])
 .ret)
 .skip))
 (.seq (.seq (.reg [xo 3 (.mov (.c (.int .i64 (0))))])
 (.block 0
 (.loop [3] [19, 20, 21, 22, 23, 26, 27, 28, 29, 30, 31, 32, 33, 34, 35, 36, 37, 38, 39, 40, 41, 42, 43, 2, 24, 25, 3]
 (.seq (.seq (.reg [xo 19 (.mov (.t 3)), xo 20 (.fadr 2 (.t 1)), xo 21 (.load false 1 (.t 20)), xo 22 (.len false (.t 21)), xo 23 (.bini .lss (.t 19) (.t 22))])
 (.cond (.t 23)
 .skip
 (.exit 0)))
 (.seq (.block 1
 (.seq (.reg [xo 26 (.fadr 2 (.t 1)), xo 27 (.load false 1 (.t 26)), xo 28 (.mov (.t 3)), xo 29 (.iadr 4 (.t 27) (.t 28)), xo 30 (.fadr 3 (.t 29)), xo 31 (.load false 1 (.t 30)), xo 32 (.len false (.t 31)), xo 33 (.bini .gtr (.t 32) (.c (.int .i64 (20)))), xo 34 (.mov (.t 33)), xg 35 (.fadr 2 (.t 1)) 34 false, xg 36 (.load false 1 (.t 35)) 34 false, xg 37 (.mov (.t 3)) 34 false, xg 38 (.iadr 4 (.t 36) (.t 37)) 34 false, xg 39 (.fadr 0 (.t 38)) 34 false, xg 40 (.load false 1 (.t 39)) 34 false, xg 41 (.len true (.t 40)) 34 false, xg 42 (.bini .gtr (.t 41) (.c (.int .i64 (100)))) 34 false, xo 43 (.pick (.t 34) (.b true) (.t 42))])
 (.cond (.t 43)
 (.seq (.reg [xo 2 (.mov (.b true))])
 .ret)
 .skip)))
 (.reg [xo 24 (.mov (.t 3)), xo 25 (.bini .add (.t 24) (.c (.int .i64 (1)))), xo 3 (.mov (.t 25))]))))))
 (.seq (.reg [xo 2 (.mov (.b false))])
 .ret))))⟩
theorem t_hydrantref18_BigSnap : trFn Tryz.prog 11 [] [[3]] = some f_hydrantref18_BigSnap := by kernel_rfl

abbrev n_pin_Suits : Nat := 12
def f_pin_Suits : FnI := ⟨96, [.tmp 4],
 (.seq (.reg [xo 2 (.box 28 (.t 0)), xo 3 (.box 41 (.t 1)), xo 4 (.mov (.b false))])
 (.seq (.seq (.reg [xo 7 (.load true 8 (.t 2)), xo 8 (.call 29 [(.t 7)]), xo 9 (.not (.t 8)), xo 10 (.mov (.t 9)), xg 11 (.fadr 10 (.t 3)) 10 false, xg 12 (.load false 1 (.t 11)) 10 false, xg 13 (.fadr 3 (.t 2)) 10 false, xg 14 (.load false 1 (.t 13)) 10 false, xg 15 (.len false (.t 14)) 10 false, xg 16 (.call 30 [(.t 12), (.t 15)]) 10 false, xg 17 (.not (.t 16)) 10 false, xo 18 (.pick (.t 10) (.b true) (.t 17)), xo 19 (.mov (.t 18)), xg 20 (.fadr 24 (.t 3)) 19 false, xg 21 (.load false 1 (.t 20)) 19 false, xo 22 (.pick (.t 19) (.b true) (.t 21)), xo 23 (.mov (.t 22)), xg 24 (.fadr 13 (.t 3)) 23 false, xg 25 (.load false 1 (.t 24)) 23 false, xg 26 (.fadr 4 (.t 2)) 23 false, xg 27 (.load false 1 (.t 26)) 23 false, xg 28 (.len false (.t 27)) 23 false, xg 29 (.call 30 [(.t 25), (.t 28)]) 23 false, xg 30 (.not (.t 29)) 23 false, xo 31 (.pick (.t 23) (.b true) (.t 30))])
 (.cond (.t 31)
 (.seq (.reg [xo 4 (.mov (.b false))])
 .ret)
 .skip))
 (.seq (.reg [xo 32 (.fadr 4 (.t 2)), xo 33 (.load false 1 (.t 32)), xo 34 (.fadr 13 (.t 3)), xo 35 (.load false 1 (.t 34)), xo 36 (.iadr 5 (.t 33) (.t 35)), xo 37 (.fadr 3 (.t 36)), xo 38 (.load false 1 (.t 37)), xo 5 (.mov (.t 38))])
 (.seq (.seq (.reg [xo 39 (.fadr 15 (.t 3)), xo 40 (.load false 1 (.t 39)), xo 41 (.mov (.t 5)), xo 42 (.len false (.t 41)), xo 43 (.call 30 [(.t 40), (.t 42)]), xo 44 (.not (.t 43))])
 (.cond (.t 44)
 (.seq (.reg [xo 4 (.mov (.b false))])
 .ret)
 .skip))
 (.seq (.reg [xo 45 (.mov (.t 5)), xo 46 (.fadr 15 (.t 3)), xo 47 (.load false 1 (.t 46)), xo 48 (.iadr 2 (.t 45) (.t 47)), xo 49 (.fadr 1 (.t 48)), xo 50 (.load false 1 (.t 49)), xo 6 (.mov (.t 50))])
 (.seq (.seq (.regD [] (.op ⟨0, false, [], xo 51 (.fadr 16 (.t 3))⟩
 (.op ⟨1, true, [], xo 52 (.load false 1 (.t 51))⟩
 (.op ⟨2, false, [], xo 53 (.mov (.t 6))⟩
 (.op ⟨3, false, [], xo 54 (.len false (.t 53))⟩
 (.op ⟨4, false, [], xo 55 (.call 30 [(.t 52), (.t 54)])⟩
 (.op ⟨5, false, [], xo 56 (.not (.t 55))⟩
 (.op ⟨6, false, [], xo 57 (.mov (.t 56))⟩
 (.op ⟨7, false, [], xg 58 (.fadr 17 (.t 3)) 57 false⟩
 (.op ⟨8, true, [], xg 59 (.load false 1 (.t 58)) 57 false⟩
 (.op ⟨9, false, [], xg 60 (.mov (.t 6)) 57 false⟩
 (.op ⟨10, false, [], xg 61 (.len false (.t 60)) 57 false⟩
 (.op ⟨11, false, [], xg 62 (.call 30 [(.t 59), (.t 61)]) 57 false⟩
 (.op ⟨12, false, [], xg 63 (.not (.t 62)) 57 false⟩
 (.op ⟨13, false, [], xo 64 (.pick (.t 57) (.b true) (.t 63))⟩
 (.op ⟨14, false, [], xo 65 (.mov (.t 64))⟩
 (.op ⟨15, false, [], xg 66 (.fadr 18 (.t 3)) 65 false⟩
 (.op ⟨16, true, [], xg 67 (.load false 1 (.t 66)) 65 false⟩
 (.op ⟨17, false, [], xg 68 (.mov (.t 6)) 65 false⟩
 (.op ⟨18, false, [], xg 69 (.fadr 16 (.t 3)) 65 false⟩
 (.op ⟨19, true, [], xg 70 (.load false 1 (.t 69)) 65 false⟩
 (.op ⟨20, true, [], xg 71 (.iadr 3 (.t 68) (.t 70)) 65 false⟩
 (.op ⟨21, false, [], xg 72 (.fadr 1 (.t 71)) 65 false⟩
 (.op ⟨22, true, [], xg 73 (.load false 1 (.t 72)) 65 false⟩
 (.op ⟨23, false, [], xg 74 (.len false (.t 73)) 65 false⟩
 (.op ⟨24, false, [], xg 75 (.call 30 [(.t 67), (.t 74)]) 65 false⟩
 (.op ⟨25, false, [], xg 76 (.not (.t 75)) 65 false⟩
 (.op ⟨26, false, [], xo 77 (.pick (.t 65) (.b true) (.t 76))⟩
 .nil))))))))))))))))))))))))))))
 (.cond (.t 77)
 (.seq (.reg [xo 4 (.mov (.b false))])
 .ret)
 .skip))
 (.seq (.reg [xo 78 (.fadr 14 (.t 3)), xo 79 (.load false 1 (.t 78)), xo 80 (.bini .add (.t 79) (.c (.int .i64 (1)))), xo 81 (.fadr 5 (.t 2)), xo 82 (.load false 1 (.t 81)), xo 83 (.len false (.t 82)), xo 84 (.bini .add (.t 83) (.c (.int .i64 (1)))), xo 85 (.call 30 [(.t 80), (.t 84)]), xo 86 (.mov (.t 85)), xg 87 (.fadr 21 (.t 3)) 86 true, xg 88 (.load false 1 (.t 87)) 86 true, xg 89 (.bini .geq (.t 88) (.c (.int .i64 (0)))) 86 true, xo 90 (.pick (.t 86) (.t 89) (.b false)), xo 91 (.mov (.t 90)), xg 92 (.fadr 22 (.t 3)) 91 true, xg 93 (.load false 1 (.t 92)) 91 true, xg 94 (.bini .geq (.t 93) (.c (.int .i64 (0)))) 91 true, xo 95 (.pick (.t 91) (.t 94) (.b false)), xo 4 (.mov (.t 95))])
 .ret)))))))⟩
theorem t_pin_Suits : trFn Tryz.prog 12 [([], (.first 0 (.first 1 (.first 2 (.first 3 (.exec 4 (.first 5 (.first 6 (.first 7 (.first 8 (.first 9 (.first 10 (.exec 11 (.first 12 (.first 13 (.first 14 (.first 15 (.first 16 (.first 17 (.first 18 (.first 19 (.first 20 (.first 21 (.first 22 (.first 23 (.exec 24 (.first 25 (.first 26 .nil))))))))))))))))))))))))))))] [] = some f_pin_Suits := by kernel_rfl

abbrev n_world_Clone : Nat := 13
def f_world_Clone : FnI := ⟨28, [.cell 2 8 true],
 (.seq (.reg [xo 1 (.box 28 (.t 0)), xo 2 (.alloc 28 [(.v (.int .i64 (0))), (.v (.int .i64 (0))), (.v (.int .i64 (0))), (.v (.slice none 0 0)), (.v (.slice none 0 0)), (.v (.slice none 0 0)), (.v (.slice none 0 0)), (.v (.slice none 0 0))])])
 (.seq (.reg [xo 4 (.build [] []), xo 3 (.alloc 90 []), xn (.store 0 (.t 3) (.t 4))])
 (.seq (.reg [xo 5 (.fadr 3 (.t 1)), xo 6 (.load false 1 (.t 5)), xo 7 (.call 31 [(.t 6)]), xo 8 (.fadr 3 (.t 1)), xn (.store 1 (.t 8) (.t 7))])
 (.seq (.reg [xo 9 (.fadr 4 (.t 1)), xo 10 (.load false 1 (.t 9)), xo 11 (.load true 0 (.t 3)), xo 12 (.call 32 [(.t 10), (.c (.func (.func 33) #[] #[])), (.t 11)]), xo 13 (.fadr 4 (.t 1)), xn (.store 1 (.t 13) (.t 12))])
 (.seq (.reg [xo 14 (.fadr 5 (.t 1)), xo 15 (.load false 1 (.t 14)), xo 16 (.call 34 [(.t 15)]), xo 17 (.fadr 5 (.t 1)), xn (.store 1 (.t 17) (.t 16))])
 (.seq (.reg [xo 18 (.fadr 6 (.t 1)), xo 19 (.load false 1 (.t 18)), xo 20 (.load true 0 (.t 3)), xo 21 (.call 35 [(.t 19), (.c (.func (.func 36) #[] #[])), (.t 20)]), xo 22 (.fadr 6 (.t 1)), xn (.store 1 (.t 22) (.t 21))])
 (.seq (.reg [xo 23 (.fadr 7 (.t 1)), xo 24 (.load false 1 (.t 23)), xo 25 (.call 37 [(.t 24)]), xo 26 (.fadr 7 (.t 1)), xn (.store 1 (.t 26) (.t 25))])
 (.seq (.reg [xo 27 (.load true 8 (.t 1)), xn (.store 8 (.t 2) (.t 27))])
 .ret))))))))⟩
theorem t_world_Clone : trFn Tryz.prog 13 [] [] = some f_world_Clone := by kernel_rfl

abbrev n_gates_Place : Nat := 14
def f_gates_Place : FnI := ⟨8, [.tmp 4],
 (.seq (.reg [xo 3 (.box 9 (.t 1)), xo 4 (.mov (.c (.int .i64 (0))))])
 (.seq (.reg [xo 5 (.mov (.t 0)), xo 6 (.mkf (.func 39) [] [(.t 3)]), xo 7 (.call 38 [(.t 5), (.t 6)]), xo 4 (.mov (.t 7))])
 .ret))⟩
theorem t_gates_Place : trFn Tryz.prog 14 [] [] = some f_gates_Place := by kernel_rfl

abbrev n_drain_work__ends : Nat := 15
def f_drain_work__ends : FnI := ⟨26, [],
 (.seq (.reg [xo 3 (.box 39 (.t 1))])
 (.seq (.regD [] (.op ⟨0, false, [], xo 4 (.mov (.t 0))⟩
 (.op ⟨1, false, [], xo 5 (.nck (.t 4))⟩
 (.op ⟨2, false, [], xo 6 (.fadr 0 (.t 5))⟩
 (.op ⟨3, true, [], xo 7 (.load false 1 (.t 6))⟩
 (.op ⟨4, false, [], xo 8 (.mov (.t 0))⟩
 (.op ⟨5, false, [], xo 9 (.nck (.t 8))⟩
 (.op ⟨6, false, [], xo 10 (.fadr 0 (.t 9))⟩
 (.op ⟨7, true, [], xo 11 (.load false 1 (.t 10))⟩
 (.op ⟨9, false, [], xo 13 (.nck (.t 7))⟩
 (.op ⟨10, false, [], xo 14 (.fadr 24 (.t 13))⟩
 (.op ⟨8, true, [], xo 12 (.load true 13 (.t 3))⟩
 (.op ⟨11, false, [8], xn (.store 1 (.t 14) (.b true))⟩
 (.op ⟨12, false, [], xo 15 (.nck (.t 11))⟩
 (.op ⟨13, false, [], xo 16 (.fadr 25 (.t 15))⟩
 (.op ⟨14, false, [], xn (.store 13 (.t 16) (.t 12))⟩
 .nil))))))))))))))))
 (.regD [] (.op ⟨0, false, [], xo 17 (.mov (.t 0))⟩
 (.op ⟨3, false, [], xo 20 (.nck (.t 17))⟩
 (.op ⟨4, false, [], xo 21 (.fadr 1 (.t 20))⟩
 (.op ⟨5, false, [], xo 22 (.fadr 9 (.t 21))⟩
 (.op ⟨1, false, [], xo 18 (.mov (.t 0))⟩
 (.op ⟨2, true, [], xo 19 (.load true 13 (.t 3))⟩
 (.op ⟨6, false, [2], xn (.store 1 (.t 22) (.b true))⟩
 (.op ⟨7, false, [], xo 23 (.nck (.t 18))⟩
 (.op ⟨8, false, [], xo 24 (.fadr 1 (.t 23))⟩
 (.op ⟨9, false, [], xo 25 (.fadr 10 (.t 24))⟩
 (.op ⟨10, false, [], xn (.store 13 (.t 25) (.t 19))⟩
 .nil))))))))))))))⟩
theorem t_drain_work__ends : trFn Tryz.prog 15 [([], (.first 0 (.first 1 (.first 2 (.first 3 (.first 4 (.first 5 (.first 6 (.first 7 (.first 9 (.first 10 (.first 8 (.exec 11 (.first 12 (.first 13 (.exec 14 .nil)))))))))))))))), ([], (.first 0 (.first 3 (.first 4 (.first 5 (.first 1 (.first 2 (.exec 6 (.first 7 (.first 8 (.first 9 (.exec 10 .nil))))))))))))] [] = some f_drain_work__ends := by kernel_rfl

abbrev n_gates_Drain : Nat := 16
def f_gates_Drain : FnI := ⟨5, [.cell 2 4 true],
 (.seq (.reg [xo 1 (.box 70 (.t 0)), xo 2 (.alloc 70 [(.v (.string ⟨#[]⟩)), (.v (.bool false)), (.v (.int .i64 (0))), (.v (.bool false))])])
 (.seq (.reg [xo 3 (.fadr 1 (.t 1)), xn (.store 1 (.t 3) (.b true))])
 (.seq (.reg [xo 4 (.load true 4 (.t 1)), xn (.store 4 (.t 2) (.t 4))])
 .ret)))⟩
theorem t_gates_Drain : trFn Tryz.prog 16 [] [] = some f_gates_Drain := by kernel_rfl

abbrev n_hydrantref19_Suits : Nat := 17
def f_hydrantref19_Suits : FnI := ⟨105, [.tmp 4],
 (.seq (.reg [xo 2 (.box 28 (.t 0)), xo 3 (.box 41 (.t 1)), xo 4 (.mov (.b false))])
 (.seq (.seq (.regD [] (.op ⟨0, true, [], xo 6 (.load true 8 (.t 2))⟩
 (.op ⟨1, false, [], xo 7 (.call 40 [(.t 6)])⟩
 (.op ⟨2, false, [], xo 8 (.not (.t 7))⟩
 (.op ⟨3, false, [], xo 9 (.mov (.t 8))⟩
 (.op ⟨4, false, [], xg 10 (.fadr 10 (.t 3)) 9 false⟩
 (.op ⟨5, true, [], xg 11 (.load false 1 (.t 10)) 9 false⟩
 (.op ⟨6, false, [], xg 12 (.fadr 3 (.t 2)) 9 false⟩
 (.op ⟨7, true, [], xg 13 (.load false 1 (.t 12)) 9 false⟩
 (.op ⟨8, false, [], xg 14 (.len false (.t 13)) 9 false⟩
 (.op ⟨9, false, [], xg 15 (.call 41 [(.t 11), (.t 14)]) 9 false⟩
 (.op ⟨10, false, [], xg 16 (.not (.t 15)) 9 false⟩
 (.op ⟨11, false, [], xo 17 (.pick (.t 9) (.b true) (.t 16))⟩
 (.op ⟨12, false, [], xo 18 (.mov (.t 17))⟩
 (.op ⟨13, false, [], xg 19 (.fadr 24 (.t 3)) 18 false⟩
 (.op ⟨14, true, [], xg 20 (.load false 1 (.t 19)) 18 false⟩
 (.op ⟨15, false, [], xo 21 (.pick (.t 18) (.b true) (.t 20))⟩
 (.op ⟨16, false, [], xo 22 (.mov (.t 21))⟩
 (.op ⟨17, false, [], xg 23 (.fadr 13 (.t 3)) 22 false⟩
 (.op ⟨18, true, [], xg 24 (.load false 1 (.t 23)) 22 false⟩
 (.op ⟨19, false, [], xg 25 (.fadr 4 (.t 2)) 22 false⟩
 (.op ⟨20, true, [], xg 26 (.load false 1 (.t 25)) 22 false⟩
 (.op ⟨21, false, [], xg 27 (.len false (.t 26)) 22 false⟩
 (.op ⟨22, false, [], xg 28 (.call 41 [(.t 24), (.t 27)]) 22 false⟩
 (.op ⟨23, false, [], xg 29 (.not (.t 28)) 22 false⟩
 (.op ⟨24, false, [], xo 30 (.pick (.t 22) (.b true) (.t 29))⟩
 (.op ⟨25, false, [], xo 31 (.mov (.t 30))⟩
 (.op ⟨26, false, [], xg 32 (.fadr 15 (.t 3)) 31 false⟩
 (.op ⟨27, true, [], xg 33 (.load false 1 (.t 32)) 31 false⟩
 (.op ⟨28, false, [], xg 34 (.fadr 4 (.t 2)) 31 false⟩
 (.op ⟨29, true, [], xg 35 (.load false 1 (.t 34)) 31 false⟩
 (.op ⟨30, false, [], xg 36 (.fadr 13 (.t 3)) 31 false⟩
 (.op ⟨31, true, [], xg 37 (.load false 1 (.t 36)) 31 false⟩
 (.op ⟨32, true, [], xg 38 (.iadr 5 (.t 35) (.t 37)) 31 false⟩
 (.op ⟨33, false, [], xg 39 (.fadr 3 (.t 38)) 31 false⟩
 (.op ⟨34, true, [], xg 40 (.load false 1 (.t 39)) 31 false⟩
 (.op ⟨35, false, [], xg 41 (.len false (.t 40)) 31 false⟩
 (.op ⟨36, false, [], xg 42 (.call 41 [(.t 33), (.t 41)]) 31 false⟩
 (.op ⟨37, false, [], xg 43 (.not (.t 42)) 31 false⟩
 (.op ⟨38, false, [], xo 44 (.pick (.t 31) (.b true) (.t 43))⟩
 .nil))))))))))))))))))))))))))))))))))))))))
 (.cond (.t 44)
 (.seq (.reg [xo 4 (.mov (.b false))])
 .ret)
 .skip))
 (.seq (.regD [] (.op ⟨0, false, [], xo 45 (.fadr 4 (.t 2))⟩
 (.op ⟨1, true, [], xo 46 (.load false 1 (.t 45))⟩
 (.op ⟨2, false, [], xo 47 (.fadr 13 (.t 3))⟩
 (.op ⟨3, true, [], xo 48 (.load false 1 (.t 47))⟩
 (.op ⟨4, true, [], xo 49 (.iadr 5 (.t 46) (.t 48))⟩
 (.op ⟨5, false, [], xo 50 (.fadr 3 (.t 49))⟩
 (.op ⟨6, true, [], xo 51 (.load false 1 (.t 50))⟩
 (.op ⟨7, false, [], xo 52 (.fadr 15 (.t 3))⟩
 (.op ⟨8, true, [], xo 53 (.load false 1 (.t 52))⟩
 (.op ⟨9, true, [], xo 54 (.iadr 2 (.t 51) (.t 53))⟩
 (.op ⟨10, false, [], xo 55 (.fadr 1 (.t 54))⟩
 (.op ⟨11, true, [], xo 56 (.load false 1 (.t 55))⟩
 (.op ⟨12, false, [], xo 5 (.mov (.t 56))⟩
 .nil))))))))))))))
 (.seq (.seq (.regD [] (.op ⟨0, false, [], xo 57 (.fadr 16 (.t 3))⟩
 (.op ⟨1, true, [], xo 58 (.load false 1 (.t 57))⟩
 (.op ⟨2, false, [], xo 59 (.mov (.t 5))⟩
 (.op ⟨3, false, [], xo 60 (.len false (.t 59))⟩
 (.op ⟨4, false, [], xo 61 (.call 41 [(.t 58), (.t 60)])⟩
 (.op ⟨5, false, [], xo 62 (.not (.t 61))⟩
 (.op ⟨6, false, [], xo 63 (.mov (.t 62))⟩
 (.op ⟨7, false, [], xg 64 (.fadr 17 (.t 3)) 63 false⟩
 (.op ⟨8, true, [], xg 65 (.load false 1 (.t 64)) 63 false⟩
 (.op ⟨9, false, [], xg 66 (.mov (.t 5)) 63 false⟩
 (.op ⟨10, false, [], xg 67 (.len false (.t 66)) 63 false⟩
 (.op ⟨11, false, [], xg 68 (.call 41 [(.t 65), (.t 67)]) 63 false⟩
 (.op ⟨12, false, [], xg 69 (.not (.t 68)) 63 false⟩
 (.op ⟨13, false, [], xo 70 (.pick (.t 63) (.b true) (.t 69))⟩
 (.op ⟨14, false, [], xo 71 (.mov (.t 70))⟩
 (.op ⟨15, false, [], xg 72 (.fadr 18 (.t 3)) 71 false⟩
 (.op ⟨16, true, [], xg 73 (.load false 1 (.t 72)) 71 false⟩
 (.op ⟨17, false, [], xg 74 (.mov (.t 5)) 71 false⟩
 (.op ⟨18, false, [], xg 75 (.fadr 16 (.t 3)) 71 false⟩
 (.op ⟨19, true, [], xg 76 (.load false 1 (.t 75)) 71 false⟩
 (.op ⟨20, true, [], xg 77 (.iadr 3 (.t 74) (.t 76)) 71 false⟩
 (.op ⟨21, false, [], xg 78 (.fadr 1 (.t 77)) 71 false⟩
 (.op ⟨22, true, [], xg 79 (.load false 1 (.t 78)) 71 false⟩
 (.op ⟨23, false, [], xg 80 (.len false (.t 79)) 71 false⟩
 (.op ⟨24, false, [], xg 81 (.call 41 [(.t 73), (.t 80)]) 71 false⟩
 (.op ⟨25, false, [], xg 82 (.not (.t 81)) 71 false⟩
 (.op ⟨26, false, [], xo 83 (.pick (.t 71) (.b true) (.t 82))⟩
 .nil))))))))))))))))))))))))))))
 (.cond (.t 83)
 (.seq (.reg [xo 4 (.mov (.b false))])
 .ret)
 .skip))
 (.seq (.reg [xo 84 (.fadr 14 (.t 3)), xo 85 (.load false 1 (.t 84)), xo 86 (.bini .geq (.t 85) (.c (.int .i64 (-1)))), xo 87 (.mov (.t 86)), xg 88 (.fadr 14 (.t 3)) 87 true, xg 89 (.load false 1 (.t 88)) 87 true, xg 90 (.fadr 5 (.t 2)) 87 true, xg 91 (.load false 1 (.t 90)) 87 true, xg 92 (.len false (.t 91)) 87 true, xg 93 (.bini .lss (.t 89) (.t 92)) 87 true, xo 94 (.pick (.t 87) (.t 93) (.b false)), xo 95 (.mov (.t 94)), xg 96 (.fadr 21 (.t 3)) 95 true, xg 97 (.load false 1 (.t 96)) 95 true, xg 98 (.bini .geq (.t 97) (.c (.int .i64 (0)))) 95 true, xo 99 (.pick (.t 95) (.t 98) (.b false)), xo 100 (.mov (.t 99)), xg 101 (.fadr 22 (.t 3)) 100 true, xg 102 (.load false 1 (.t 101)) 100 true, xg 103 (.bini .geq (.t 102) (.c (.int .i64 (0)))) 100 true, xo 104 (.pick (.t 100) (.t 103) (.b false)), xo 4 (.mov (.t 104))])
 .ret)))))⟩
theorem t_hydrantref19_Suits : trFn Tryz.prog 17 [([], (.first 0 (.exec 1 (.first 2 (.first 3 (.first 4 (.first 5 (.first 6 (.first 7 (.first 8 (.exec 9 (.first 10 (.first 11 (.first 12 (.first 13 (.first 14 (.first 15 (.first 16 (.first 17 (.first 18 (.first 19 (.first 20 (.first 21 (.exec 22 (.first 23 (.first 24 (.first 25 (.first 26 (.first 27 (.first 28 (.first 29 (.first 30 (.first 31 (.first 32 (.first 33 (.first 34 (.first 35 (.exec 36 (.first 37 (.first 38 .nil)))))))))))))))))))))))))))))))))))))))), ([], (.first 0 (.first 1 (.first 2 (.first 3 (.first 4 (.first 5 (.first 6 (.first 7 (.first 8 (.first 9 (.first 10 (.first 11 (.first 12 .nil)))))))))))))), ([], (.first 0 (.first 1 (.first 2 (.first 3 (.exec 4 (.first 5 (.first 6 (.first 7 (.first 8 (.first 9 (.first 10 (.exec 11 (.first 12 (.first 13 (.first 14 (.first 15 (.first 16 (.first 17 (.first 18 (.first 19 (.first 20 (.first 21 (.first 22 (.first 23 (.exec 24 (.first 25 (.first 26 .nil))))))))))))))))))))))))))))] [] = some f_hydrantref19_Suits := by kernel_rfl

abbrev n_hydrantref18_Clone : Nat := 18
def f_hydrantref18_Clone : FnI := ⟨151, [.cell 2 8 true],
 (.seq (.reg [xo 1 (.box 28 (.t 0)), xo 2 (.alloc 28 [(.v (.int .i64 (0))), (.v (.int .i64 (0))), (.v (.int .i64 (0))), (.v (.slice none 0 0)), (.v (.slice none 0 0)), (.v (.slice none 0 0)), (.v (.slice none 0 0)), (.v (.slice none 0 0))])])
 (.seq (.reg [xo 13 (.load true 8 (.t 1)), xo 3 (.alloc 28 [(.v (.int .i64 (0))), (.v (.int .i64 (0))), (.v (.int .i64 (0))), (.v (.slice none 0 0)), (.v (.slice none 0 0)), (.v (.slice none 0 0)), (.v (.slice none 0 0)), (.v (.slice none 0 0))]), xn (.store 8 (.t 3) (.t 13))])
 (.seq (.reg [xo 14 (.bsl 3 1 0 [] []), xo 15 (.fadr 3 (.t 3)), xn (.store 1 (.t 15) (.t 14))])
 (.seq (.reg [xo 16 (.fadr 3 (.t 3)), xo 17 (.load false 1 (.t 16)), xo 18 (.fadr 3 (.t 1)), xo 19 (.load false 1 (.t 18)), xo 20 (.app 3 1 8 (.t 17) (.t 19)), xo 21 (.fadr 3 (.t 3)), xn (.store 1 (.t 21) (.t 20))])
 (.seq (.reg [xo 22 (.bsl 57 5 0 [] []), xo 23 (.fadr 4 (.t 3)), xn (.store 1 (.t 23) (.t 22))])
 (.seq (.seq (.reg [xo 4 (.mov (.c (.int .i64 (0))))])
 (.block 0
 (.loop [4] [24, 25, 26, 27, 28, 31, 32, 33, 34, 35, 5, 36, 37, 6, 38, 39, 40, 41, 42, 43, 44, 45, 46, 49, 50, 51, 52, 53, 54, 55, 56, 57, 7, 58, 59, 8, 60, 61, 62, 63, 64, 65, 66, 67, 68, 69, 70, 71, 72, 75, 76, 77, 78, 79, 80, 81, 82, 83, 84, 85, 86, 87, 9, 88, 10, 89, 90, 91, 92, 93, 94, 95, 96, 97, 98, 99, 73, 74, 100, 101, 102, 103, 104, 105, 47, 48, 106, 107, 108, 109, 110, 111, 29, 30, 4]
 (.seq (.seq (.reg [xo 24 (.mov (.t 4)), xo 25 (.fadr 4 (.t 1)), xo 26 (.load false 1 (.t 25)), xo 27 (.len false (.t 26)), xo 28 (.bini .lss (.t 24) (.t 27))])
 (.cond (.t 28)
 .skip
 (.exit 0)))
 (.seq (.block 1
 (.seq (.reg [xo 31 (.fadr 4 (.t 1)), xo 32 (.load false 1 (.t 31)), xo 33 (.mov (.t 4)), xo 34 (.iadr 5 (.t 32) (.t 33)), xo 35 (.load true 5 (.t 34)), xo 5 (.alloc 57 [(.v (.slice none 0 0)), (.v (.slice none 0 0)), (.v (.slice none 0 0)), (.v (.slice none 0 0)), (.v (.bool false))]), xn (.store 5 (.t 5) (.t 35))])
 (.seq (.reg [xo 36 (.bsl 61 2 0 [] []), xo 37 (.fadr 3 (.t 5)), xn (.store 1 (.t 37) (.t 36))])
 (.seq (.seq (.reg [xo 6 (.mov (.c (.int .i64 (0))))])
 (.block 2
 (.loop [6] [38, 39, 40, 41, 42, 43, 44, 45, 46, 49, 50, 51, 52, 53, 54, 55, 56, 57, 7, 58, 59, 8, 60, 61, 62, 63, 64, 65, 66, 67, 68, 69, 70, 71, 72, 75, 76, 77, 78, 79, 80, 81, 82, 83, 84, 85, 86, 87, 9, 88, 10, 89, 90, 91, 92, 93, 94, 95, 96, 97, 98, 99, 73, 74, 100, 101, 102, 103, 104, 105, 47, 48, 6]
 (.seq (.seq (.reg [xo 38 (.mov (.t 6)), xo 39 (.fadr 4 (.t 1)), xo 40 (.load false 1 (.t 39)), xo 41 (.mov (.t 4)), xo 42 (.iadr 5 (.t 40) (.t 41)), xo 43 (.fadr 3 (.t 42)), xo 44 (.load false 1 (.t 43)), xo 45 (.len false (.t 44)), xo 46 (.bini .lss (.t 38) (.t 45))])
 (.cond (.t 46)
 .skip
 (.exit 2)))
 (.seq (.block 3
 (.seq (.reg [xo 49 (.fadr 4 (.t 1)), xo 50 (.load false 1 (.t 49)), xo 51 (.mov (.t 4)), xo 52 (.iadr 5 (.t 50) (.t 51)), xo 53 (.fadr 3 (.t 52)), xo 54 (.load false 1 (.t 53)), xo 55 (.mov (.t 6)), xo 56 (.iadr 2 (.t 54) (.t 55)), xo 57 (.load true 2 (.t 56)), xo 7 (.alloc 61 [(.v (.int .u64 (0))), (.v (.slice none 0 0))]), xn (.store 2 (.t 7) (.t 57))])
 (.seq (.reg [xo 58 (.bsl 88 3 0 [] []), xo 59 (.fadr 1 (.t 7)), xn (.store 1 (.t 59) (.t 58))])
 (.seq (.seq (.reg [xo 8 (.mov (.c (.int .i64 (0))))])
 (.block 4
 (.loop [8] [60, 61, 62, 63, 64, 65, 66, 67, 68, 69, 70, 71, 72, 75, 76, 77, 78, 79, 80, 81, 82, 83, 84, 85, 86, 87, 9, 88, 10, 89, 90, 91, 92, 93, 94, 95, 96, 97, 98, 99, 73, 74, 8]
 (.seq (.seq (.reg [xo 60 (.mov (.t 8)), xo 61 (.fadr 4 (.t 1)), xo 62 (.load false 1 (.t 61)), xo 63 (.mov (.t 4)), xo 64 (.iadr 5 (.t 62) (.t 63)), xo 65 (.fadr 3 (.t 64)), xo 66 (.load false 1 (.t 65)), xo 67 (.mov (.t 6)), xo 68 (.iadr 2 (.t 66) (.t 67)), xo 69 (.fadr 1 (.t 68)), xo 70 (.load false 1 (.t 69)), xo 71 (.len false (.t 70)), xo 72 (.bini .lss (.t 60) (.t 71))])
 (.cond (.t 72)
 .skip
 (.exit 4)))
 (.seq (.block 5
 (.seq (.reg [xo 75 (.fadr 4 (.t 1)), xo 76 (.load false 1 (.t 75)), xo 77 (.mov (.t 4)), xo 78 (.iadr 5 (.t 76) (.t 77)), xo 79 (.fadr 3 (.t 78)), xo 80 (.load false 1 (.t 79)), xo 81 (.mov (.t 6)), xo 82 (.iadr 2 (.t 80) (.t 81)), xo 83 (.fadr 1 (.t 82)), xo 84 (.load false 1 (.t 83)), xo 85 (.mov (.t 8)), xo 86 (.iadr 3 (.t 84) (.t 85)), xo 87 (.load true 3 (.t 86)), xo 9 (.alloc 88 [(.v (.int .u64 (0))), (.v (.slice none 0 0)), (.v (.int .i64 (0)))]), xn (.store 3 (.t 9) (.t 87))])
 (.seq (.reg [xo 88 (.bsl 3 1 0 [] []), xo 10 (.mov (.t 88))])
 (.seq (.reg [xo 89 (.mov (.t 10)), xo 90 (.fadr 1 (.t 9)), xo 91 (.load false 1 (.t 90)), xo 92 (.app 3 1 8 (.t 89) (.t 91)), xo 93 (.fadr 1 (.t 9)), xn (.store 1 (.t 93) (.t 92))])
 (.reg [xo 94 (.fadr 1 (.t 7)), xo 95 (.load false 1 (.t 94)), xo 96 (.load true 3 (.t 9)), xo 97 (.bsl 88 3 1 [(.v (.int .u64 (0))), (.v (.slice none 0 0)), (.v (.int .i64 (0)))] [(0, 3, (.t 96))]), xo 98 (.app 88 3 40 (.t 95) (.t 97)), xo 99 (.fadr 1 (.t 7)), xn (.store 1 (.t 99) (.t 98))])))))
 (.reg [xo 73 (.mov (.t 8)), xo 74 (.bini .add (.t 73) (.c (.int .i64 (1)))), xo 8 (.mov (.t 74))]))))))
 (.reg [xo 100 (.fadr 3 (.t 5)), xo 101 (.load false 1 (.t 100)), xo 102 (.load true 2 (.t 7)), xo 103 (.bsl 61 2 1 [(.v (.int .u64 (0))), (.v (.slice none 0 0))] [(0, 2, (.t 102))]), xo 104 (.app 61 2 32 (.t 101) (.t 103)), xo 105 (.fadr 3 (.t 5)), xn (.store 1 (.t 105) (.t 104))])))))
 (.reg [xo 47 (.mov (.t 6)), xo 48 (.bini .add (.t 47) (.c (.int .i64 (1)))), xo 6 (.mov (.t 48))]))))))
 (.reg [xo 106 (.fadr 4 (.t 3)), xo 107 (.load false 1 (.t 106)), xo 108 (.load true 5 (.t 5)), xo 109 (.bsl 57 5 1 [(.v (.slice none 0 0)), (.v (.slice none 0 0)), (.v (.slice none 0 0)), (.v (.slice none 0 0)), (.v (.bool false))] [(0, 5, (.t 108))]), xo 110 (.app 57 5 104 (.t 107) (.t 109)), xo 111 (.fadr 4 (.t 3)), xn (.store 1 (.t 111) (.t 110))])))))
 (.reg [xo 29 (.mov (.t 4)), xo 30 (.bini .add (.t 29) (.c (.int .i64 (1)))), xo 4 (.mov (.t 30))]))))))
 (.seq (.reg [xo 112 (.bsl 70 4 0 [] []), xo 113 (.fadr 5 (.t 3)), xn (.store 1 (.t 113) (.t 112))])
 (.seq (.reg [xo 114 (.fadr 5 (.t 3)), xo 115 (.load false 1 (.t 114)), xo 116 (.fadr 5 (.t 1)), xo 117 (.load false 1 (.t 116)), xo 118 (.app 70 4 40 (.t 115) (.t 117)), xo 119 (.fadr 5 (.t 3)), xn (.store 1 (.t 119) (.t 118))])
 (.seq (.reg [xo 120 (.bsl 81 1 0 [] []), xo 121 (.fadr 6 (.t 3)), xn (.store 1 (.t 121) (.t 120))])
 (.seq (.seq (.reg [xo 11 (.mov (.c (.int .i64 (0))))])
 (.block 6
 (.loop [11] [122, 123, 124, 125, 126, 129, 12, 132, 133, 134, 135, 136, 137, 130, 131, 138, 139, 140, 141, 127, 128, 11]
 (.seq (.seq (.reg [xo 122 (.mov (.t 11)), xo 123 (.fadr 6 (.t 1)), xo 124 (.load false 1 (.t 123)), xo 125 (.len false (.t 124)), xo 126 (.bini .lss (.t 122) (.t 125))])
 (.cond (.t 126)
 .skip
 (.exit 6)))
 (.seq (.block 7
 (.seq (.reg [xo 129 (.bsl 36 1 0 [] []), xo 12 (.mov (.t 129))])
 (.regD [] (.op ⟨2, false, [], xo 132 (.mov (.t 12))⟩
 (.op ⟨3, false, [], xo 133 (.fadr 6 (.t 1))⟩
 (.op ⟨4, true, [], xo 134 (.load false 1 (.t 133))⟩
 (.op ⟨5, false, [], xo 135 (.mov (.t 11))⟩
 (.op ⟨6, true, [], xo 136 (.iadr 1 (.t 134) (.t 135))⟩
 (.op ⟨7, true, [], xo 137 (.load false 1 (.t 136))⟩
 (.op ⟨0, false, [], xo 130 (.fadr 6 (.t 3))⟩
 (.op ⟨1, true, [], xo 131 (.load false 1 (.t 130))⟩
 (.op ⟨8, false, [1], xo 138 (.app 36 1 8 (.t 132) (.t 137))⟩
 (.op ⟨9, false, [], xo 139 (.bsl 81 1 1 [(.v (.slice none 0 0))] [(0, 1, (.t 138))])⟩
 (.op ⟨10, false, [], xo 140 (.app 81 1 24 (.t 131) (.t 139))⟩
 (.op ⟨11, false, [], xo 141 (.fadr 6 (.t 3))⟩
 (.op ⟨12, false, [], xn (.store 1 (.t 141) (.t 140))⟩
 .nil))))))))))))))))
 (.reg [xo 127 (.mov (.t 11)), xo 128 (.bini .add (.t 127) (.c (.int .i64 (1)))), xo 11 (.mov (.t 128))]))))))
 (.seq (.reg [xo 142 (.bsl 101 3 0 [] []), xo 143 (.fadr 7 (.t 3)), xn (.store 1 (.t 143) (.t 142))])
 (.seq (.reg [xo 144 (.fadr 7 (.t 3)), xo 145 (.load false 1 (.t 144)), xo 146 (.fadr 7 (.t 1)), xo 147 (.load false 1 (.t 146)), xo 148 (.app 101 3 24 (.t 145) (.t 147)), xo 149 (.fadr 7 (.t 3)), xn (.store 1 (.t 149) (.t 148))])
 (.seq (.reg [xo 150 (.load true 8 (.t 3)), xn (.store 8 (.t 2) (.t 150))])
 .ret)))))))))))))⟩
theorem t_hydrantref18_Clone : trFn Tryz.prog 18 [([], (.first 2 (.first 3 (.first 4 (.first 5 (.first 6 (.first 7 (.first 0 (.first 1 (.exec 8 (.exec 9 (.exec 10 (.first 11 (.exec 12 .nil))))))))))))))] [[4], [6], [8], [11]] = some f_hydrantref18_Clone := by kernel_rfl

abbrev n_hydrantref17_Place : Nat := 19
def f_hydrantref17_Place : FnI := ⟨20, [.tmp 4],
 (.seq (.reg [xo 4 (.mov (.c (.int .i64 (0))))])
 (.seq (.seq (.reg [xo 5 (.mov (.c (.int .i64 (0))))])
 (.block 0
 (.loop [5] [6, 7, 8, 9, 12, 13, 14, 15, 16, 17, 18, 19, 4, 10, 11, 5]
 (.seq (.seq (.reg [xo 6 (.mov (.t 5)), xo 7 (.mov (.t 0)), xo 8 (.len false (.t 7)), xo 9 (.bini .lss (.t 6) (.t 8))])
 (.cond (.t 9)
 .skip
 (.exit 0)))
 (.seq (.block 1
 (.seq (.reg [xo 12 (.mov (.t 0)), xo 13 (.mov (.t 5)), xo 14 (.iadr 4 (.t 12) (.t 13)), xo 15 (.fadr 0 (.t 14)), xo 16 (.load false 1 (.t 15)), xo 17 (.mov (.t 1)), xo 18 (.bins .eql (.t 16) (.t 17))])
 (.cond (.t 18)
 (.seq (.reg [xo 19 (.mov (.t 5)), xo 4 (.mov (.t 19))])
 .ret)
 .skip)))
 (.reg [xo 10 (.mov (.t 5)), xo 11 (.bini .add (.t 10) (.c (.int .i64 (1)))), xo 5 (.mov (.t 11))]))))))
 (.seq (.reg [xo 4 (.mov (.c (.int .i64 (-1))))])
 .ret)))⟩
theorem t_hydrantref17_Place : trFn Tryz.prog 19 [] [[5]] = some f_hydrantref17_Place := by kernel_rfl

abbrev n_hydrantref22_Done : Nat := 20
def f_hydrantref22_Done : FnI := ⟨16, [.cell 6 44 true, .cell 7 23 true],
 (.seq (.reg [xo 3 (.box 41 (.t 0)), xo 4 (.box 44 (.t 1)), xo 5 (.box 39 (.t 2)), xo 6 (.alloc 41 zl0), xo 7 (.alloc 44 zl1)])
 (.seq (.reg [xo 8 (.fadr 24 (.t 3)), xn (.store 1 (.t 8) (.b true))])
 (.seq (.reg [xo 9 (.load true 13 (.t 5)), xo 10 (.fadr 25 (.t 3)), xn (.store 13 (.t 10) (.t 9))])
 (.seq (.reg [xo 11 (.fadr 9 (.t 4)), xn (.store 1 (.t 11) (.b true))])
 (.seq (.reg [xo 12 (.load true 13 (.t 5)), xo 13 (.fadr 10 (.t 4)), xn (.store 13 (.t 13) (.t 12))])
 (.seq (.regD [] (.op ⟨0, true, [], xo 14 (.load true 44 (.t 3))⟩
 (.op ⟨1, true, [], xo 15 (.load true 23 (.t 4))⟩
 (.op ⟨2, false, [1], xn (.store 44 (.t 6) (.t 14))⟩
 (.op ⟨3, false, [], xn (.store 23 (.t 7) (.t 15))⟩
 .nil)))))
 .ret))))))⟩
theorem t_hydrantref22_Done : trFn Tryz.prog 20 [([], (.first 0 (.first 1 (.exec 2 (.exec 3 .nil)))))] [] = some f_hydrantref22_Done := by kernel_rfl

abbrev n_hydrantref20_Other : Nat := 21
def f_hydrantref20_Other : FnI := ⟨15, [.cell 8 23 true],
 (.seq (.reg [xo 4 (.box 41 (.t 0)), xo 8 (.alloc 44 zl1)])
 (.seq (.reg [xo 9 (.fadr 10 (.t 4)), xo 10 (.load false 1 (.t 9)), xo 11 (.mov (.t 1)), xo 12 (.mov (.t 2)), xo 13 (.mov (.t 3)), xo 14 (.build zl1 [(0, 1, (.t 10)), (2, 1, (.t 11)), (3, 1, (.t 12)), (4, 1, (.c (.int .i64 (-1)))), (6, 1, (.t 13))]), xn (.store 23 (.t 8) (.t 14))])
 .ret))⟩
theorem t_hydrantref20_Other : trFn Tryz.prog 21 [] [] = some f_hydrantref20_Other := by kernel_rfl

abbrev n_hydrantlaw23_plain : Nat := 22
def f_hydrantlaw23_plain : FnI := ⟨18, [.cell 0 8 true],
 (.seq (.reg [xo 0 (.alloc 28 [(.v (.int .i64 (0))), (.v (.int .i64 (0))), (.v (.int .i64 (0))), (.v (.slice none 0 0)), (.v (.slice none 0 0)), (.v (.slice none 0 0)), (.v (.slice none 0 0)), (.v (.slice none 0 0))])])
 (.seq (.reg [xo 4 (.bsl 9 1 1 [(.v (.string ⟨#[]⟩))] [(0, 1, (.c (.string ⟨#[105, 110]⟩)))]), xo 5 (.build [(.v (.int .i64 (0))), (.v (.string ⟨#[]⟩)), (.v (.string ⟨#[]⟩)), (.v (.int .i64 (0)))] [(1, 1, (.c (.string ⟨#[42]⟩))), (2, 1, (.c (.string ⟨#[47]⟩)))]), xo 6 (.bsl 105 4 1 [(.v (.int .i64 (0))), (.v (.string ⟨#[]⟩)), (.v (.string ⟨#[]⟩)), (.v (.int .i64 (0)))] [(0, 4, (.t 5))]), xo 7 (.bsl 4 1 1 [(.v (.bool false))] [(0, 1, (.b true))]), xo 8 (.build [(.v (.string ⟨#[]⟩)), (.v (.int .i64 (0))), (.v (.int .i64 (0))), (.v (.slice none 0 0))] [(0, 1, (.c (.string ⟨#[97]⟩))), (1, 1, (.c (.int .i64 (1)))), (2, 1, (.c (.int .i64 (1)))), (3, 1, (.t 7))]), xo 9 (.bsl 85 4 1 [(.v (.string ⟨#[]⟩)), (.v (.int .i64 (0))), (.v (.int .i64 (0))), (.v (.slice none 0 0))] [(0, 4, (.t 8))]), xo 10 (.build [(.v (.slice none 0 0)), (.v (.slice none 0 0)), (.v (.slice none 0 0))] [(0, 1, (.t 4)), (1, 1, (.t 6)), (2, 1, (.t 9))]), xo 1 (.alloc 54 [(.v (.slice none 0 0)), (.v (.slice none 0 0)), (.v (.slice none 0 0))]), xn (.store 3 (.t 1) (.t 10))])
 (.seq (.reg [xo 12 (.load true 3 (.t 1)), xo 13 (.bsl 9 1 1 [(.v (.string ⟨#[]⟩))] [(0, 1, (.c (.string ⟨#[105, 110]⟩)))]), xo 14 (.call 42 [(.t 12), (.t 13), (.c (.int .i64 (1)))]), xo 11 (.mov (.t 14)), xo 15 (.ext 0 (.t 11)), xo 16 (.ext 1 (.t 11)), xo 2 (.alloc 28 [(.v (.int .i64 (0))), (.v (.int .i64 (0))), (.v (.int .i64 (0))), (.v (.slice none 0 0)), (.v (.slice none 0 0)), (.v (.slice none 0 0)), (.v (.slice none 0 0)), (.v (.slice none 0 0))]), xn (.store 8 (.t 2) (.t 15)), xo 3 (.mov (.t 16))])
 (.seq (.reg [xo 17 (.load true 8 (.t 2)), xn (.store 8 (.t 0) (.t 17))])
 .ret))))⟩
theorem t_hydrantlaw23_plain : trFn Tryz.prog 22 [] [] = some f_hydrantlaw23_plain := by kernel_rfl

abbrev n_hydrantref18_sameInts : Nat := 23
def f_hydrantref18_sameInts : FnI := ⟨26, [.tmp 4],
 (.seq (.reg [xo 4 (.mov (.b false))])
 (.seq (.seq (.reg [xo 6 (.mov (.t 0)), xo 7 (.len false (.t 6)), xo 8 (.mov (.t 1)), xo 9 (.len false (.t 8)), xo 10 (.bini .neq (.t 7) (.t 9))])
 (.cond (.t 10)
 (.seq (.reg [xo 4 (.mov (.b false))])
 .ret)
 .skip))
 (.seq (.seq (.reg [xo 5 (.mov (.c (.int .i64 (0))))])
 (.block 0
 (.loop [5] [11, 12, 13, 14, 17, 18, 19, 20, 21, 22, 23, 24, 25, 4, 15, 16, 5]
 (.seq (.seq (.reg [xo 11 (.mov (.t 5)), xo 12 (.mov (.t 0)), xo 13 (.len false (.t 12)), xo 14 (.bini .lss (.t 11) (.t 13))])
 (.cond (.t 14)
 .skip
 (.exit 0)))
 (.seq (.block 1
 (.seq (.regD [] (.op ⟨0, false, [], xo 17 (.mov (.t 0))⟩
 (.op ⟨1, false, [], xo 18 (.mov (.t 5))⟩
 (.op ⟨2, true, [], xo 19 (.iadr 1 (.t 17) (.t 18))⟩
 (.op ⟨3, true, [], xo 20 (.load false 1 (.t 19))⟩
 (.op ⟨4, false, [], xo 21 (.mov (.t 1))⟩
 (.op ⟨5, false, [], xo 22 (.mov (.t 5))⟩
 (.op ⟨6, true, [], xo 23 (.iadr 1 (.t 21) (.t 22))⟩
 (.op ⟨7, true, [], xo 24 (.load false 1 (.t 23))⟩
 (.op ⟨8, false, [], xo 25 (.bini .neq (.t 20) (.t 24))⟩
 .nil))))))))))
 (.cond (.t 25)
 (.seq (.reg [xo 4 (.mov (.b false))])
 .ret)
 .skip)))
 (.reg [xo 15 (.mov (.t 5)), xo 16 (.bini .add (.t 15) (.c (.int .i64 (1)))), xo 5 (.mov (.t 16))]))))))
 (.seq (.reg [xo 4 (.mov (.b true))])
 .ret))))⟩
theorem t_hydrantref18_sameInts : trFn Tryz.prog 23 [([], (.first 0 (.first 1 (.first 2 (.first 3 (.first 4 (.first 5 (.first 6 (.first 7 (.first 8 .nil))))))))))] [[5]] = some f_hydrantref18_sameInts := by kernel_rfl

abbrev n_hydrantref11_Same : Nat := 24
def f_hydrantref11_Same : FnI := ⟨53, [.tmp 4],
 (.seq (.reg [xo 4 (.mov (.b false))])
 (.seq (.seq (.reg [xo 7 (.mov (.t 0)), xo 8 (.len false (.t 7)), xo 9 (.mov (.t 1)), xo 10 (.len false (.t 9)), xo 11 (.bini .neq (.t 8) (.t 10))])
 (.cond (.t 11)
 (.seq (.reg [xo 4 (.mov (.b false))])
 .ret)
 .skip))
 (.seq (.seq (.reg [xo 5 (.mov (.c (.int .i64 (0))))])
 (.block 0
 (.loop [5] [12, 13, 14, 15, 18, 19, 20, 21, 22, 23, 24, 25, 26, 27, 28, 4, 6, 29, 30, 31, 32, 33, 34, 35, 38, 39, 40, 41, 42, 43, 44, 45, 46, 47, 48, 49, 50, 51, 52, 36, 37, 16, 17, 5]
 (.seq (.seq (.reg [xo 12 (.mov (.t 5)), xo 13 (.mov (.t 0)), xo 14 (.len false (.t 13)), xo 15 (.bini .lss (.t 12) (.t 14))])
 (.cond (.t 15)
 .skip
 (.exit 0)))
 (.seq (.block 1
 (.seq (.seq (.regD [] (.op ⟨0, false, [], xo 18 (.mov (.t 0))⟩
 (.op ⟨1, false, [], xo 19 (.mov (.t 5))⟩
 (.op ⟨2, true, [], xo 20 (.iadr 1 (.t 18) (.t 19))⟩
 (.op ⟨3, true, [], xo 21 (.load false 1 (.t 20))⟩
 (.op ⟨4, false, [], xo 22 (.len false (.t 21))⟩
 (.op ⟨5, false, [], xo 23 (.mov (.t 1))⟩
 (.op ⟨6, false, [], xo 24 (.mov (.t 5))⟩
 (.op ⟨7, true, [], xo 25 (.iadr 1 (.t 23) (.t 24))⟩
 (.op ⟨8, true, [], xo 26 (.load false 1 (.t 25))⟩
 (.op ⟨9, false, [], xo 27 (.len false (.t 26))⟩
 (.op ⟨10, false, [], xo 28 (.bini .neq (.t 22) (.t 27))⟩
 .nil))))))))))))
 (.cond (.t 28)
 (.seq (.reg [xo 4 (.mov (.b false))])
 .ret)
 .skip))
 (.seq (.reg [xo 6 (.mov (.c (.int .i64 (0))))])
 (.block 2
 (.loop [6] [29, 30, 31, 32, 33, 34, 35, 38, 39, 40, 41, 42, 43, 44, 45, 46, 47, 48, 49, 50, 51, 52, 4, 36, 37, 6]
 (.seq (.seq (.reg [xo 29 (.mov (.t 6)), xo 30 (.mov (.t 0)), xo 31 (.mov (.t 5)), xo 32 (.iadr 1 (.t 30) (.t 31)), xo 33 (.load false 1 (.t 32)), xo 34 (.len false (.t 33)), xo 35 (.bini .lss (.t 29) (.t 34))])
 (.cond (.t 35)
 .skip
 (.exit 2)))
 (.seq (.block 3
 (.seq (.regD [] (.op ⟨0, false, [], xo 38 (.mov (.t 0))⟩
 (.op ⟨1, false, [], xo 39 (.mov (.t 5))⟩
 (.op ⟨2, true, [], xo 40 (.iadr 1 (.t 38) (.t 39))⟩
 (.op ⟨3, true, [], xo 41 (.load false 1 (.t 40))⟩
 (.op ⟨4, false, [], xo 42 (.mov (.t 6))⟩
 (.op ⟨5, true, [], xo 43 (.iadr 1 (.t 41) (.t 42))⟩
 (.op ⟨6, true, [], xo 44 (.load false 1 (.t 43))⟩
 (.op ⟨7, false, [], xo 45 (.mov (.t 1))⟩
 (.op ⟨8, false, [], xo 46 (.mov (.t 5))⟩
 (.op ⟨9, true, [], xo 47 (.iadr 1 (.t 45) (.t 46))⟩
 (.op ⟨10, true, [], xo 48 (.load false 1 (.t 47))⟩
 (.op ⟨11, false, [], xo 49 (.mov (.t 6))⟩
 (.op ⟨12, true, [], xo 50 (.iadr 1 (.t 48) (.t 49))⟩
 (.op ⟨13, true, [], xo 51 (.load false 1 (.t 50))⟩
 (.op ⟨14, false, [], xo 52 (.bini .neq (.t 44) (.t 51))⟩
 .nil))))))))))))))))
 (.cond (.t 52)
 (.seq (.reg [xo 4 (.mov (.b false))])
 .ret)
 .skip)))
 (.reg [xo 36 (.mov (.t 6)), xo 37 (.bini .add (.t 36) (.c (.int .i64 (1)))), xo 6 (.mov (.t 37))]))))))))
 (.reg [xo 16 (.mov (.t 5)), xo 17 (.bini .add (.t 16) (.c (.int .i64 (1)))), xo 5 (.mov (.t 17))]))))))
 (.seq (.reg [xo 4 (.mov (.b true))])
 .ret))))⟩
theorem t_hydrantref11_Same : trFn Tryz.prog 24 [([], (.first 0 (.first 1 (.first 2 (.first 3 (.first 4 (.first 5 (.first 6 (.first 7 (.first 8 (.first 9 (.first 10 .nil)))))))))))), ([], (.first 0 (.first 1 (.first 2 (.first 3 (.first 4 (.first 5 (.first 6 (.first 7 (.first 8 (.first 9 (.first 10 (.first 11 (.first 12 (.first 13 (.first 14 .nil))))))))))))))))] [[5], [6]] = some f_hydrantref11_Same := by kernel_rfl

abbrev n_hydrantref16_Same : Nat := 25
def f_hydrantref16_Same : FnI := ⟨26, [.tmp 4],
 (.seq (.reg [xo 4 (.mov (.b false))])
 (.seq (.seq (.reg [xo 6 (.mov (.t 0)), xo 7 (.len false (.t 6)), xo 8 (.mov (.t 1)), xo 9 (.len false (.t 8)), xo 10 (.bini .neq (.t 7) (.t 9))])
 (.cond (.t 10)
 (.seq (.reg [xo 4 (.mov (.b false))])
 .ret)
 .skip))
 (.seq (.seq (.reg [xo 5 (.mov (.c (.int .i64 (0))))])
 (.block 0
 (.loop [5] [11, 12, 13, 14, 17, 18, 19, 20, 21, 22, 23, 24, 25, 4, 15, 16, 5]
 (.seq (.seq (.reg [xo 11 (.mov (.t 5)), xo 12 (.mov (.t 0)), xo 13 (.len false (.t 12)), xo 14 (.bini .lss (.t 11) (.t 13))])
 (.cond (.t 14)
 .skip
 (.exit 0)))
 (.seq (.block 1
 (.seq (.regD [] (.op ⟨0, false, [], xo 17 (.mov (.t 0))⟩
 (.op ⟨1, false, [], xo 18 (.mov (.t 5))⟩
 (.op ⟨2, true, [], xo 19 (.iadr 3 (.t 17) (.t 18))⟩
 (.op ⟨3, true, [], xo 20 (.load true 3 (.t 19))⟩
 (.op ⟨4, false, [], xo 21 (.mov (.t 1))⟩
 (.op ⟨5, false, [], xo 22 (.mov (.t 5))⟩
 (.op ⟨6, true, [], xo 23 (.iadr 3 (.t 21) (.t 22))⟩
 (.op ⟨7, true, [], xo 24 (.load true 3 (.t 23))⟩
 (.op ⟨8, false, [], xo 25 (.binst true [0, 0, 2] (.t 20) (.t 24))⟩
 .nil))))))))))
 (.cond (.t 25)
 (.seq (.reg [xo 4 (.mov (.b false))])
 .ret)
 .skip)))
 (.reg [xo 15 (.mov (.t 5)), xo 16 (.bini .add (.t 15) (.c (.int .i64 (1)))), xo 5 (.mov (.t 16))]))))))
 (.seq (.reg [xo 4 (.mov (.b true))])
 .ret))))⟩
theorem t_hydrantref16_Same : trFn Tryz.prog 25 [([], (.first 0 (.first 1 (.first 2 (.first 3 (.first 4 (.first 5 (.first 6 (.first 7 (.first 8 .nil))))))))))] [[5]] = some f_hydrantref16_Same := by kernel_rfl

abbrev n_hydrantref18_SameVersions : Nat := 26
def f_hydrantref18_SameVersions : FnI := ⟨97, [.tmp 4],
 (.seq (.reg [xo 2 (.box 57 (.t 0)), xo 3 (.box 57 (.t 1)), xo 4 (.mov (.b false))])
 (.seq (.seq (.reg [xo 7 (.fadr 0 (.t 2)), xo 8 (.load true 3 (.t 7)), xo 9 (.fadr 0 (.t 3)), xo 10 (.load true 3 (.t 9)), xo 11 (.call 43 [(.t 8), (.t 10)]), xo 12 (.not (.t 11)), xo 13 (.mov (.t 12)), xg 14 (.fadr 4 (.t 2)) 13 false, xg 15 (.load false 1 (.t 14)) 13 false, xg 16 (.fadr 4 (.t 3)) 13 false, xg 17 (.load false 1 (.t 16)) 13 false, xg 18 (.binb true (.t 15) (.t 17)) 13 false, xo 19 (.pick (.t 13) (.b true) (.t 18)), xo 20 (.mov (.t 19)), xg 21 (.fadr 3 (.t 2)) 20 false, xg 22 (.load false 1 (.t 21)) 20 false, xg 23 (.len false (.t 22)) 20 false, xg 24 (.fadr 3 (.t 3)) 20 false, xg 25 (.load false 1 (.t 24)) 20 false, xg 26 (.len false (.t 25)) 20 false, xg 27 (.bini .neq (.t 23) (.t 26)) 20 false, xo 28 (.pick (.t 20) (.b true) (.t 27))])
 (.cond (.t 28)
 (.seq (.reg [xo 4 (.mov (.b false))])
 .ret)
 .skip))
 (.seq (.seq (.reg [xo 5 (.mov (.c (.int .i64 (0))))])
 (.block 0
 (.loop [5] [29, 30, 31, 32, 33, 36, 37, 38, 39, 40, 41, 42, 43, 44, 45, 46, 47, 48, 49, 50, 51, 52, 53, 54, 55, 56, 57, 58, 59, 60, 61, 62, 63, 64, 65, 4, 6, 66, 67, 68, 69, 70, 71, 72, 73, 74, 77, 78, 79, 80, 81, 82, 83, 84, 85, 86, 87, 88, 89, 90, 91, 92, 93, 94, 95, 96, 75, 76, 34, 35, 5]
 (.seq (.seq (.reg [xo 29 (.mov (.t 5)), xo 30 (.fadr 3 (.t 2)), xo 31 (.load false 1 (.t 30)), xo 32 (.len false (.t 31)), xo 33 (.bini .lss (.t 29) (.t 32))])
 (.cond (.t 33)
 .skip
 (.exit 0)))
 (.seq (.block 1
 (.seq (.seq (.regD [] (.op ⟨0, false, [], xo 36 (.fadr 3 (.t 2))⟩
 (.op ⟨1, true, [], xo 37 (.load false 1 (.t 36))⟩
 (.op ⟨2, false, [], xo 38 (.mov (.t 5))⟩
 (.op ⟨3, true, [], xo 39 (.iadr 2 (.t 37) (.t 38))⟩
 (.op ⟨4, false, [], xo 40 (.fadr 0 (.t 39))⟩
 (.op ⟨5, true, [], xo 41 (.load false 1 (.t 40))⟩
 (.op ⟨6, false, [], xo 42 (.fadr 3 (.t 3))⟩
 (.op ⟨7, true, [], xo 43 (.load false 1 (.t 42))⟩
 (.op ⟨8, false, [], xo 44 (.mov (.t 5))⟩
 (.op ⟨9, true, [], xo 45 (.iadr 2 (.t 43) (.t 44))⟩
 (.op ⟨10, false, [], xo 46 (.fadr 0 (.t 45))⟩
 (.op ⟨11, true, [], xo 47 (.load false 1 (.t 46))⟩
 (.op ⟨12, false, [], xo 48 (.bini .neq (.t 41) (.t 47))⟩
 (.op ⟨13, false, [], xo 49 (.mov (.t 48))⟩
 (.op ⟨14, false, [], xg 50 (.fadr 3 (.t 2)) 49 false⟩
 (.op ⟨15, true, [], xg 51 (.load false 1 (.t 50)) 49 false⟩
 (.op ⟨16, false, [], xg 52 (.mov (.t 5)) 49 false⟩
 (.op ⟨17, true, [], xg 53 (.iadr 2 (.t 51) (.t 52)) 49 false⟩
 (.op ⟨18, false, [], xg 54 (.fadr 1 (.t 53)) 49 false⟩
 (.op ⟨19, true, [], xg 55 (.load false 1 (.t 54)) 49 false⟩
 (.op ⟨20, false, [], xg 56 (.len false (.t 55)) 49 false⟩
 (.op ⟨21, false, [], xg 57 (.fadr 3 (.t 3)) 49 false⟩
 (.op ⟨22, true, [], xg 58 (.load false 1 (.t 57)) 49 false⟩
 (.op ⟨23, false, [], xg 59 (.mov (.t 5)) 49 false⟩
 (.op ⟨24, true, [], xg 60 (.iadr 2 (.t 58) (.t 59)) 49 false⟩
 (.op ⟨25, false, [], xg 61 (.fadr 1 (.t 60)) 49 false⟩
 (.op ⟨26, true, [], xg 62 (.load false 1 (.t 61)) 49 false⟩
 (.op ⟨27, false, [], xg 63 (.len false (.t 62)) 49 false⟩
 (.op ⟨28, false, [], xg 64 (.bini .neq (.t 56) (.t 63)) 49 false⟩
 (.op ⟨29, false, [], xo 65 (.pick (.t 49) (.b true) (.t 64))⟩
 .nil)))))))))))))))))))))))))))))))
 (.cond (.t 65)
 (.seq (.reg [xo 4 (.mov (.b false))])
 .ret)
 .skip))
 (.seq (.reg [xo 6 (.mov (.c (.int .i64 (0))))])
 (.block 2
 (.loop [6] [66, 67, 68, 69, 70, 71, 72, 73, 74, 77, 78, 79, 80, 81, 82, 83, 84, 85, 86, 87, 88, 89, 90, 91, 92, 93, 94, 95, 96, 4, 75, 76, 6]
 (.seq (.seq (.reg [xo 66 (.mov (.t 6)), xo 67 (.fadr 3 (.t 2)), xo 68 (.load false 1 (.t 67)), xo 69 (.mov (.t 5)), xo 70 (.iadr 2 (.t 68) (.t 69)), xo 71 (.fadr 1 (.t 70)), xo 72 (.load false 1 (.t 71)), xo 73 (.len false (.t 72)), xo 74 (.bini .lss (.t 66) (.t 73))])
 (.cond (.t 74)
 .skip
 (.exit 2)))
 (.seq (.block 3
 (.seq (.regD [] (.op ⟨0, false, [], xo 77 (.fadr 3 (.t 2))⟩
 (.op ⟨1, true, [], xo 78 (.load false 1 (.t 77))⟩
 (.op ⟨2, false, [], xo 79 (.mov (.t 5))⟩
 (.op ⟨3, true, [], xo 80 (.iadr 2 (.t 78) (.t 79))⟩
 (.op ⟨4, false, [], xo 81 (.fadr 1 (.t 80))⟩
 (.op ⟨5, true, [], xo 82 (.load false 1 (.t 81))⟩
 (.op ⟨6, false, [], xo 83 (.mov (.t 6))⟩
 (.op ⟨7, true, [], xo 84 (.iadr 3 (.t 82) (.t 83))⟩
 (.op ⟨8, true, [], xo 85 (.load true 3 (.t 84))⟩
 (.op ⟨9, false, [], xo 86 (.fadr 3 (.t 3))⟩
 (.op ⟨10, true, [], xo 87 (.load false 1 (.t 86))⟩
 (.op ⟨11, false, [], xo 88 (.mov (.t 5))⟩
 (.op ⟨12, true, [], xo 89 (.iadr 2 (.t 87) (.t 88))⟩
 (.op ⟨13, false, [], xo 90 (.fadr 1 (.t 89))⟩
 (.op ⟨14, true, [], xo 91 (.load false 1 (.t 90))⟩
 (.op ⟨15, false, [], xo 92 (.mov (.t 6))⟩
 (.op ⟨16, true, [], xo 93 (.iadr 3 (.t 91) (.t 92))⟩
 (.op ⟨17, true, [], xo 94 (.load true 3 (.t 93))⟩
 (.op ⟨18, false, [], xo 95 (.call 44 [(.t 85), (.t 94)])⟩
 (.op ⟨19, false, [], xo 96 (.not (.t 95))⟩
 .nil)))))))))))))))))))))
 (.cond (.t 96)
 (.seq (.reg [xo 4 (.mov (.b false))])
 .ret)
 .skip)))
 (.reg [xo 75 (.mov (.t 6)), xo 76 (.bini .add (.t 75) (.c (.int .i64 (1)))), xo 6 (.mov (.t 76))]))))))))
 (.reg [xo 34 (.mov (.t 5)), xo 35 (.bini .add (.t 34) (.c (.int .i64 (1)))), xo 5 (.mov (.t 35))]))))))
 (.seq (.reg [xo 4 (.mov (.b true))])
 .ret))))⟩
theorem t_hydrantref18_SameVersions : trFn Tryz.prog 26 [([], (.first 0 (.first 1 (.first 2 (.first 3 (.first 4 (.first 5 (.first 6 (.first 7 (.first 8 (.first 9 (.first 10 (.first 11 (.first 12 (.first 13 (.first 14 (.first 15 (.first 16 (.first 17 (.first 18 (.first 19 (.first 20 (.first 21 (.first 22 (.first 23 (.first 24 (.first 25 (.first 26 (.first 27 (.first 28 (.first 29 .nil))))))))))))))))))))))))))))))), ([], (.first 0 (.first 1 (.first 2 (.first 3 (.first 4 (.first 5 (.first 6 (.first 7 (.first 8 (.first 9 (.first 10 (.first 11 (.first 12 (.first 13 (.first 14 (.first 15 (.first 16 (.first 17 (.exec 18 (.first 19 .nil)))))))))))))))))))))] [[5], [6]] = some f_hydrantref18_SameVersions := by kernel_rfl

abbrev n_hydrantref19_sameOps : Nat := 27
def f_hydrantref19_sameOps : FnI := ⟨85, [.tmp 4],
 (.seq (.reg [xo 2 (.box 35 (.t 0)), xo 3 (.box 35 (.t 1)), xo 4 (.mov (.b false))])
 (.seq (.reg [xo 5 (.fadr 0 (.t 2)), xo 6 (.load false 1 (.t 5)), xo 7 (.fadr 0 (.t 3)), xo 8 (.load false 1 (.t 7)), xo 9 (.bini .eql (.t 6) (.t 8)), xo 10 (.mov (.t 9)), xg 11 (.fadr 1 (.t 2)) 10 true, xg 12 (.load false 1 (.t 11)) 10 true, xg 13 (.fadr 1 (.t 3)) 10 true, xg 14 (.load false 1 (.t 13)) 10 true, xg 15 (.bins .eql (.t 12) (.t 14)) 10 true, xo 16 (.pick (.t 10) (.t 15) (.b false)), xo 17 (.mov (.t 16)), xg 18 (.fadr 2 (.t 2)) 17 true, xg 19 (.load false 1 (.t 18)) 17 true, xg 20 (.fadr 2 (.t 3)) 17 true, xg 21 (.load false 1 (.t 20)) 17 true, xg 22 (.bins .eql (.t 19) (.t 21)) 17 true, xo 23 (.pick (.t 17) (.t 22) (.b false)), xo 24 (.mov (.t 23)), xg 25 (.fadr 3 (.t 2)) 24 true, xg 26 (.load false 1 (.t 25)) 24 true, xg 27 (.fadr 3 (.t 3)) 24 true, xg 28 (.load false 1 (.t 27)) 24 true, xg 29 (.bins .eql (.t 26) (.t 28)) 24 true, xo 30 (.pick (.t 24) (.t 29) (.b false)), xo 31 (.mov (.t 30)), xg 32 (.fadr 4 (.t 2)) 31 true, xg 33 (.load false 1 (.t 32)) 31 true, xg 34 (.fadr 4 (.t 3)) 31 true, xg 35 (.load false 1 (.t 34)) 31 true, xg 36 (.bini .eql (.t 33) (.t 35)) 31 true, xo 37 (.pick (.t 31) (.t 36) (.b false)), xo 38 (.mov (.t 37)), xg 39 (.fadr 5 (.t 2)) 38 true, xg 40 (.load false 1 (.t 39)) 38 true, xg 41 (.fadr 5 (.t 3)) 38 true, xg 42 (.load false 1 (.t 41)) 38 true, xg 43 (.bini .eql (.t 40) (.t 42)) 38 true, xo 44 (.pick (.t 38) (.t 43) (.b false)), xo 45 (.mov (.t 44)), xg 46 (.fadr 6 (.t 2)) 45 true, xg 47 (.load false 1 (.t 46)) 45 true, xg 48 (.fadr 6 (.t 3)) 45 true, xg 49 (.load false 1 (.t 48)) 45 true, xg 50 (.bini .eql (.t 47) (.t 49)) 45 true, xo 51 (.pick (.t 45) (.t 50) (.b false)), xo 52 (.mov (.t 51)), xg 53 (.fadr 7 (.t 2)) 52 true, xg 54 (.fadr 0 (.t 53)) 52 true, xg 55 (.load false 1 (.t 54)) 52 true, xg 56 (.len false (.t 55)) 52 true, xg 57 (.fadr 7 (.t 3)) 52 true, xg 58 (.fadr 0 (.t 57)) 52 true, xg 59 (.load false 1 (.t 58)) 52 true, xg 60 (.len false (.t 59)) 52 true, xg 61 (.bini .eql (.t 56) (.t 60)) 52 true, xo 62 (.pick (.t 52) (.t 61) (.b false)), xo 63 (.mov (.t 62)), xg 64 (.fadr 7 (.t 2)) 63 true, xg 65 (.fadr 1 (.t 64)) 63 true, xg 66 (.load false 1 (.t 65)) 63 true, xg 67 (.len false (.t 66)) 63 true, xg 68 (.fadr 7 (.t 3)) 63 true, xg 69 (.fadr 1 (.t 68)) 63 true, xg 70 (.load false 1 (.t 69)) 63 true, xg 71 (.len false (.t 70)) 63 true, xg 72 (.bini .eql (.t 67) (.t 71)) 63 true, xo 73 (.pick (.t 63) (.t 72) (.b false)), xo 74 (.mov (.t 73)), xg 75 (.fadr 7 (.t 2)) 74 true, xg 76 (.fadr 2 (.t 75)) 74 true, xg 77 (.load false 1 (.t 76)) 74 true, xg 78 (.len false (.t 77)) 74 true, xg 79 (.fadr 7 (.t 3)) 74 true, xg 80 (.fadr 2 (.t 79)) 74 true, xg 81 (.load false 1 (.t 80)) 74 true, xg 82 (.len false (.t 81)) 74 true, xg 83 (.bini .eql (.t 78) (.t 82)) 74 true, xo 84 (.pick (.t 74) (.t 83) (.b false)), xo 4 (.mov (.t 84))])
 .ret))⟩
theorem t_hydrantref19_sameOps : trFn Tryz.prog 27 [] [] = some f_hydrantref19_sameOps := by kernel_rfl

abbrev n_hydrantref06_Big : Nat := 28
def f_hydrantref06_Big : FnI := ⟨34, [.tmp 2],
 (.seq (.reg [xo 2 (.mov (.b false))])
 (.seq (.seq (.reg [xo 3 (.mov (.c (.int .i64 (0))))])
 (.block 0
 (.loop [3] [4, 5, 6, 7, 8, 9, 10, 11, 12, 15, 16, 17, 18, 19, 20, 21, 22, 23, 24, 25, 26, 27, 28, 29, 30, 2, 13, 14, 3]
 (.seq (.seq (.reg [xo 4 (.mov (.t 3)), xo 5 (.mov (.t 0)), xo 6 (.len false (.t 5)), xo 7 (.bini .lss (.t 4) (.t 6)), xo 8 (.mov (.t 7)), xg 9 (.mov (.t 0)) 8 true, xg 10 (.len false (.t 9)) 8 true, xg 11 (.bini .leq (.t 10) (.c (.int .i64 (50)))) 8 true, xo 12 (.pick (.t 8) (.t 11) (.b false))])
 (.cond (.t 12)
 .skip
 (.exit 0)))
 (.seq (.block 1
 (.seq (.reg [xo 15 (.mov (.t 0)), xo 16 (.mov (.t 3)), xo 17 (.iadr 4 (.t 15) (.t 16)), xo 18 (.fadr 1 (.t 17)), xo 19 (.load false 1 (.t 18)), xo 20 (.len true (.t 19)), xo 21 (.bini .gtr (.t 20) (.c (.int .i64 (100)))), xo 22 (.mov (.t 21)), xg 23 (.mov (.t 0)) 22 false, xg 24 (.mov (.t 3)) 22 false, xg 25 (.iadr 4 (.t 23) (.t 24)) 22 false, xg 26 (.fadr 2 (.t 25)) 22 false, xg 27 (.load false 1 (.t 26)) 22 false, xg 28 (.len true (.t 27)) 22 false, xg 29 (.bini .gtr (.t 28) (.c (.int .i64 (100)))) 22 false, xo 30 (.pick (.t 22) (.b true) (.t 29))])
 (.cond (.t 30)
 (.seq (.reg [xo 2 (.mov (.b true))])
 .ret)
 .skip)))
 (.reg [xo 13 (.mov (.t 3)), xo 14 (.bini .add (.t 13) (.c (.int .i64 (1)))), xo 3 (.mov (.t 14))]))))))
 (.seq (.reg [xo 31 (.mov (.t 0)), xo 32 (.len false (.t 31)), xo 33 (.bini .gtr (.t 32) (.c (.int .i64 (50)))), xo 2 (.mov (.t 33))])
 .ret)))⟩
theorem t_hydrantref06_Big : trFn Tryz.prog 28 [] [[3]] = some f_hydrantref06_Big := by kernel_rfl

abbrev n_world_Is : Nat := 29
def f_world_Is : FnI := ⟨107, [.tmp 2],
 (.seq (.reg [xo 1 (.box 28 (.t 0)), xo 2 (.mov (.b false))])
 (.seq (.seq (.reg [xo 10 (.load true 8 (.t 1)), xo 11 (.call 45 [(.t 10)]), xo 12 (.not (.t 11)), xo 13 (.mov (.t 12)), xg 14 (.fadr 1 (.t 1)) 13 false, xg 15 (.load false 1 (.t 14)) 13 false, xg 16 (.bini .lss (.t 15) (.c (.int .i64 (0)))) 13 false, xo 17 (.pick (.t 13) (.b true) (.t 16)), xo 18 (.mov (.t 17)), xg 19 (.fadr 1 (.t 1)) 18 false, xg 20 (.load false 1 (.t 19)) 18 false, xg 21 (.fadr 4 (.t 1)) 18 false, xg 22 (.load false 1 (.t 21)) 18 false, xg 23 (.len false (.t 22)) 18 false, xg 24 (.bini .geq (.t 20) (.t 23)) 18 false, xo 25 (.pick (.t 18) (.b true) (.t 24)), xo 26 (.mov (.t 25)), xg 27 (.fadr 7 (.t 1)) 26 false, xg 28 (.load false 1 (.t 27)) 26 false, xg 29 (.call 46 [(.t 28)]) 26 false, xg 30 (.not (.t 29)) 26 false, xo 31 (.pick (.t 26) (.b true) (.t 30))])
 (.cond (.t 31)
 (.seq (.reg [xo 2 (.mov (.b false))])
 .ret)
 .skip))
 (.seq (.reg [xo 32 (.mkm .i64), xo 3 (.mov (.t 32))])
 (.seq (.seq (.reg [xo 33 (.fadr 7 (.t 1)), xo 34 (.load false 1 (.t 33)), xo 35 (.len false (.t 34)), xo 36 (.mov (.c (.int .i64 (0))))])
 (.block 0
 (.loop [36] [37, 38, 39, 5, 40, 41, 42, 43, 44, 45, 46, 47, 48, 49, 50, 51, 52, 53, 54, 55, 56, 57, 58, 59, 2, 60, 61, 62, 63, 64, 65, 36]
 (.seq (.reg [xo 37 (.bini .lss (.t 36) (.t 35))])
 (.seq (.cond (.t 37)
 .skip
 (.exit 0))
 (.seq (.block 1
 (.seq (.reg [xo 38 (.iadr 3 (.t 34) (.t 36)), xo 39 (.load true 3 (.t 38)), xo 5 (.alloc 101 [(.v (.int .i64 (0))), (.v (.int .i64 (0))), (.v (.bool false))]), xn (.store 3 (.t 5) (.t 39))])
 (.seq (.seq (.reg [xo 40 (.fadr 0 (.t 5)), xo 41 (.load false 1 (.t 40)), xo 42 (.fadr 4 (.t 1)), xo 43 (.load false 1 (.t 42)), xo 44 (.len false (.t 43)), xo 45 (.bini .geq (.t 41) (.t 44)), xo 46 (.mov (.t 45)), xg 47 (.fadr 0 (.t 5)) 46 false, xg 48 (.load false 1 (.t 47)) 46 false, xg 49 (.fadr 1 (.t 1)) 46 false, xg 50 (.load false 1 (.t 49)) 46 false, xg 51 (.bini .eql (.t 48) (.t 50)) 46 false, xo 52 (.pick (.t 46) (.b true) (.t 51)), xo 53 (.mov (.t 52)), xg 54 (.fadr 1 (.t 5)) 53 false, xg 55 (.load false 1 (.t 54)) 53 false, xg 56 (.fadr 0 (.t 1)) 53 false, xg 57 (.load false 1 (.t 56)) 53 false, xg 58 (.bini .gtr (.t 55) (.t 57)) 53 false, xo 59 (.pick (.t 53) (.b true) (.t 58))])
 (.cond (.t 59)
 (.seq (.reg [xo 2 (.mov (.b false))])
 .ret)
 .skip))
 (.reg [xo 60 (.mov (.t 3)), xo 61 (.fadr 0 (.t 5)), xo 62 (.load false 1 (.t 61)), xo 63 (.fadr 2 (.t 5)), xo 64 (.load false 1 (.t 63)), xn (.mup .i64 (.t 60) (.t 62) (.t 64))]))))
 (.reg [xo 65 (.bini .add (.t 36) (.c (.int .i64 (1)))), xo 36 (.mov (.t 65))])))))))
 (.seq (.seq (.reg [xo 66 (.fadr 4 (.t 1)), xo 67 (.load false 1 (.t 66)), xo 68 (.len false (.t 67)), xo 69 (.mov (.c (.int .i64 (0))))])
 (.block 2
 (.loop [69] [70, 71, 72, 73, 7, 6, 74, 75, 76, 77, 78, 79, 80, 81, 82, 83, 84, 2, 85, 69]
 (.seq (.reg [xo 70 (.bini .lss (.t 69) (.t 68))])
 (.seq (.cond (.t 70)
 .skip
 (.exit 2))
 (.seq (.block 3
 (.seq (.reg [xo 71 (.mov (.t 69)), xo 72 (.iadr 5 (.t 67) (.t 69)), xo 73 (.load true 5 (.t 72)), xo 7 (.alloc 57 [(.v (.slice none 0 0)), (.v (.slice none 0 0)), (.v (.slice none 0 0)), (.v (.slice none 0 0)), (.v (.bool false))]), xo 6 (.mov (.t 71)), xn (.store 5 (.t 7) (.t 73))])
 (.seq (.reg [xo 74 (.load true 5 (.t 7)), xo 75 (.call 47 [(.t 74)]), xo 76 (.not (.t 75)), xo 77 (.mov (.t 76)), xg 78 (.fadr 4 (.t 7)) 77 false, xg 79 (.load false 1 (.t 78)) 77 false, xg 80 (.mov (.t 3)) 77 false, xg 81 (.mov (.t 6)) 77 false, xg 82 (.look .i64 (.bool false) false (.t 80) (.t 81)) 77 false, xg 83 (.binb true (.t 79) (.t 82)) 77 false, xo 84 (.pick (.t 77) (.b true) (.t 83))])
 (.cond (.t 84)
 (.seq (.reg [xo 2 (.mov (.b false))])
 .ret)
 .skip))))
 (.reg [xo 85 (.bini .add (.t 69) (.c (.int .i64 (1)))), xo 69 (.mov (.t 85))])))))))
 (.seq (.seq (.reg [xo 86 (.fadr 5 (.t 1)), xo 87 (.load false 1 (.t 86)), xo 88 (.len false (.t 87)), xo 89 (.mov (.c (.int .i64 (0))))])
 (.block 4
 (.loop [89] [90, 91, 92, 93, 9, 8, 94, 95, 96, 97, 98, 99, 100, 101, 102, 103, 104, 105, 2, 106, 89]
 (.seq (.reg [xo 90 (.bini .lss (.t 89) (.t 88))])
 (.seq (.cond (.t 90)
 .skip
 (.exit 4))
 (.seq (.block 5
 (.seq (.reg [xo 91 (.mov (.t 89)), xo 92 (.iadr 4 (.t 87) (.t 89)), xo 93 (.load true 4 (.t 92)), xo 9 (.alloc 70 [(.v (.string ⟨#[]⟩)), (.v (.bool false)), (.v (.int .i64 (0))), (.v (.bool false))]), xo 8 (.mov (.t 91)), xn (.store 4 (.t 9) (.t 93))])
 (.seq (.reg [xo 94 (.load true 4 (.t 9)), xo 95 (.call 48 [(.t 94)]), xo 96 (.not (.t 95)), xo 97 (.mov (.t 96)), xg 98 (.fadr 5 (.t 1)) 97 false, xg 99 (.load false 1 (.t 98)) 97 false, xg 100 (.fadr 0 (.t 9)) 97 false, xg 101 (.load false 1 (.t 100)) 97 false, xg 102 (.call 14 [(.t 99), (.t 101)]) 97 false, xg 103 (.mov (.t 8)) 97 false, xg 104 (.bini .neq (.t 102) (.t 103)) 97 false, xo 105 (.pick (.t 97) (.b true) (.t 104))])
 (.cond (.t 105)
 (.seq (.reg [xo 2 (.mov (.b false))])
 .ret)
 .skip))))
 (.reg [xo 106 (.bini .add (.t 89) (.c (.int .i64 (1)))), xo 89 (.mov (.t 106))])))))))
 (.seq (.reg [xo 2 (.mov (.b true))])
 .ret)))))))⟩
theorem t_world_Is : trFn Tryz.prog 29 [] [[36], [69], [89]] = some f_world_Is := by kernel_rfl

abbrev n_pin_in : Nat := 30
def f_pin_in : FnI := ⟨12, [.tmp 4],
 (.seq (.reg [xo 4 (.mov (.b false))])
 (.seq (.reg [xo 5 (.mov (.t 0)), xo 6 (.bini .geq (.t 5) (.c (.int .i64 (0)))), xo 7 (.mov (.t 6)), xg 8 (.mov (.t 0)) 7 true, xg 9 (.mov (.t 1)) 7 true, xg 10 (.bini .lss (.t 8) (.t 9)) 7 true, xo 11 (.pick (.t 7) (.t 10) (.b false)), xo 4 (.mov (.t 11))])
 .ret))⟩
theorem t_pin_in : trFn Tryz.prog 30 [] [] = some f_pin_in := by kernel_rfl

abbrev n_slices_Clone___int_int : Nat := 31
def f_slices_Clone___int_int : FnI := ⟨8, [.tmp 2],
 (.seq (.reg [xo 2 (.mov (.c (.slice none 0 0)))])
 (.seq (.seq (.reg [xo 3 (.mov (.t 0)), xo 4 (.binn 0 false (.t 3))])
 (.cond (.t 4)
 (.seq (.reg [xo 2 (.mov (.c (.slice none 0 0)))])
 .ret)
 .skip))
 (.seq (.reg [xo 5 (.bsl 3 1 0 [] []), xo 6 (.mov (.t 0)), xo 7 (.app 3 1 8 (.t 5) (.t 6)), xo 2 (.mov (.t 7))])
 .ret)))⟩
theorem t_slices_Clone___int_int : trFn Tryz.prog 31 [] [] = some f_slices_Clone___int_int := by kernel_rfl

abbrev n_world_each_api_Version_world_cloner : Nat := 32
def f_world_each_api_Version_world_cloner : FnI := ⟨29, [.tmp 6],
 (.seq (.reg [xo 5 (.box 90 (.t 2)), xo 6 (.mov (.c (.slice none 0 0)))])
 (.seq (.reg [xo 10 (.mov (.t 0)), xo 11 (.len false (.t 10)), xo 12 (.msl 57 5 104 [(.slice none 0 0), (.slice none 0 0), (.slice none 0 0), (.slice none 0 0), (.bool false)] (.t 11) (.t 11)), xo 7 (.mov (.t 12))])
 (.seq (.seq (.reg [xo 13 (.mov (.t 0)), xo 14 (.len false (.t 13)), xo 15 (.mov (.c (.int .i64 (0))))])
 (.block 0
 (.loop [15] [16, 17, 18, 19, 9, 8, 20, 21, 22, 23, 24, 25, 26, 27, 15]
 (.seq (.reg [xo 16 (.bini .lss (.t 15) (.t 14))])
 (.seq (.cond (.t 16)
 .skip
 (.exit 0))
 (.seq (.block 1
 (.seq (.reg [xo 17 (.mov (.t 15)), xo 18 (.iadr 5 (.t 13) (.t 15)), xo 19 (.load true 5 (.t 18)), xo 9 (.alloc 57 [(.v (.slice none 0 0)), (.v (.slice none 0 0)), (.v (.slice none 0 0)), (.v (.slice none 0 0)), (.v (.bool false))]), xo 8 (.mov (.t 17)), xn (.store 5 (.t 9) (.t 19))])
 (.reg [xo 20 (.mov (.t 7)), xo 21 (.mov (.t 8)), xo 22 (.mov (.t 1)), xo 23 (.load true 0 (.t 5)), xo 24 (.load true 5 (.t 9)), xo 25 (.callv (.t 22) [(.t 23), (.t 24)]), xo 26 (.iadr 5 (.t 20) (.t 21)), xn (.store 5 (.t 26) (.t 25))])))
 (.reg [xo 27 (.bini .add (.t 15) (.c (.int .i64 (1)))), xo 15 (.mov (.t 27))])))))))
 (.seq (.reg [xo 28 (.mov (.t 7)), xo 6 (.mov (.t 28))])
 .ret))))⟩
theorem t_world_each_api_Version_world_cloner : trFn Tryz.prog 32 [] [[15]] = some f_world_each_api_Version_world_cloner := by kernel_rfl

abbrev n_world_cloner__version : Nat := 33
def f_world_cloner__version : FnI := ⟨11, [.cell 4 5 true],
 (.seq (.reg [xo 2 (.box 90 (.t 0)), xo 3 (.box 57 (.t 1)), xo 4 (.alloc 57 [(.v (.slice none 0 0)), (.v (.slice none 0 0)), (.v (.slice none 0 0)), (.v (.slice none 0 0)), (.v (.bool false))])])
 (.seq (.reg [xo 5 (.fadr 3 (.t 3)), xo 6 (.load false 1 (.t 5)), xo 7 (.load true 0 (.t 2)), xo 8 (.call 49 [(.t 6), (.c (.func (.func 50) #[] #[])), (.t 7)]), xo 9 (.fadr 3 (.t 3)), xn (.store 1 (.t 9) (.t 8))])
 (.seq (.reg [xo 10 (.load true 5 (.t 3)), xn (.store 5 (.t 4) (.t 10))])
 .ret)))⟩
theorem t_world_cloner__version : trFn Tryz.prog 33 [] [] = some f_world_cloner__version := by kernel_rfl

abbrev n_slices_Clone___api_Listen_api_Listen : Nat := 34
def f_slices_Clone___api_Listen_api_Listen : FnI := ⟨8, [.tmp 2],
 (.seq (.reg [xo 2 (.mov (.c (.slice none 0 0)))])
 (.seq (.seq (.reg [xo 3 (.mov (.t 0)), xo 4 (.binn 0 false (.t 3))])
 (.cond (.t 4)
 (.seq (.reg [xo 2 (.mov (.c (.slice none 0 0)))])
 .ret)
 .skip))
 (.seq (.reg [xo 5 (.bsl 70 4 0 [] []), xo 6 (.mov (.t 0)), xo 7 (.app 70 4 40 (.t 5) (.t 6)), xo 2 (.mov (.t 7))])
 .ret)))⟩
theorem t_slices_Clone___api_Listen_api_Listen : trFn Tryz.prog 34 [] [] = some f_slices_Clone___api_Listen_api_Listen := by kernel_rfl

abbrev n_world_each___uint64_world_cloner : Nat := 35
def f_world_each___uint64_world_cloner : FnI := ⟨29, [.tmp 6],
 (.seq (.reg [xo 5 (.box 90 (.t 2)), xo 6 (.mov (.c (.slice none 0 0)))])
 (.seq (.reg [xo 10 (.mov (.t 0)), xo 11 (.len false (.t 10)), xo 12 (.msl 81 1 24 [(.slice none 0 0)] (.t 11) (.t 11)), xo 7 (.mov (.t 12))])
 (.seq (.seq (.reg [xo 13 (.mov (.t 0)), xo 14 (.len false (.t 13)), xo 15 (.mov (.c (.int .i64 (0))))])
 (.block 0
 (.loop [15] [16, 17, 18, 19, 8, 9, 20, 21, 22, 23, 24, 25, 26, 27, 15]
 (.seq (.reg [xo 16 (.bini .lss (.t 15) (.t 14))])
 (.seq (.cond (.t 16)
 .skip
 (.exit 0))
 (.seq (.block 1
 (.seq (.reg [xo 17 (.mov (.t 15)), xo 18 (.iadr 1 (.t 13) (.t 15)), xo 19 (.load false 1 (.t 18)), xo 8 (.mov (.t 17)), xo 9 (.mov (.t 19))])
 (.reg [xo 20 (.mov (.t 7)), xo 21 (.mov (.t 8)), xo 22 (.mov (.t 1)), xo 23 (.load true 0 (.t 5)), xo 24 (.mov (.t 9)), xo 25 (.callv (.t 22) [(.t 23), (.t 24)]), xo 26 (.iadr 1 (.t 20) (.t 21)), xn (.store 1 (.t 26) (.t 25))])))
 (.reg [xo 27 (.bini .add (.t 15) (.c (.int .i64 (1)))), xo 15 (.mov (.t 27))])))))))
 (.seq (.reg [xo 28 (.mov (.t 7)), xo 6 (.mov (.t 28))])
 .ret))))⟩
theorem t_world_each___uint64_world_cloner : trFn Tryz.prog 35 [] [[15]] = some f_world_each___uint64_world_cloner := by kernel_rfl

abbrev n_world_cloner__row : Nat := 36
def f_world_cloner__row : FnI := ⟨7, [.tmp 4],
 (.seq (.reg [xo 2 (.box 90 (.t 0)), xo 4 (.mov (.c (.slice none 0 0)))])
 (.seq (.reg [xo 5 (.mov (.t 1)), xo 6 (.call 51 [(.t 5)]), xo 4 (.mov (.t 6))])
 .ret))⟩
theorem t_world_cloner__row : trFn Tryz.prog 36 [] [] = some f_world_cloner__row := by kernel_rfl

abbrev n_slices_Clone___api_Retired_api_Retired : Nat := 37
def f_slices_Clone___api_Retired_api_Retired : FnI := ⟨8, [.tmp 2],
 (.seq (.reg [xo 2 (.mov (.c (.slice none 0 0)))])
 (.seq (.seq (.reg [xo 3 (.mov (.t 0)), xo 4 (.binn 0 false (.t 3))])
 (.cond (.t 4)
 (.seq (.reg [xo 2 (.mov (.c (.slice none 0 0)))])
 .ret)
 .skip))
 (.seq (.reg [xo 5 (.bsl 101 3 0 [] []), xo 6 (.mov (.t 0)), xo 7 (.app 101 3 24 (.t 5) (.t 6)), xo 2 (.mov (.t 7))])
 .ret)))⟩
theorem t_slices_Clone___api_Retired_api_Retired : trFn Tryz.prog 37 [] [] = some f_slices_Clone___api_Retired_api_Retired := by kernel_rfl

abbrev n_slices_IndexFunc___api_Listen_api_Listen : Nat := 38
def f_slices_IndexFunc___api_Listen_api_Listen : FnI := ⟨19, [.tmp 4],
 (.seq (.reg [xo 4 (.mov (.c (.int .i64 (0))))])
 (.seq (.seq (.reg [xo 6 (.mov (.t 0)), xo 7 (.len false (.t 6)), xo 8 (.mov (.c (.int .i64 (0))))])
 (.block 0
 (.loop [8] [9, 10, 5, 11, 12, 13, 14, 15, 16, 17, 4, 18, 8]
 (.seq (.reg [xo 9 (.bini .lss (.t 8) (.t 7))])
 (.seq (.cond (.t 9)
 .skip
 (.exit 0))
 (.seq (.block 1
 (.seq (.reg [xo 10 (.mov (.t 8)), xo 5 (.mov (.t 10))])
 (.seq (.reg [xo 11 (.mov (.t 1)), xo 12 (.mov (.t 0)), xo 13 (.mov (.t 5)), xo 14 (.iadr 4 (.t 12) (.t 13)), xo 15 (.load true 4 (.t 14)), xo 16 (.callv (.t 11) [(.t 15)])])
 (.cond (.t 16)
 (.seq (.reg [xo 17 (.mov (.t 5)), xo 4 (.mov (.t 17))])
 .ret)
 .skip))))
 (.reg [xo 18 (.bini .add (.t 8) (.c (.int .i64 (1)))), xo 8 (.mov (.t 18))])))))))
 (.seq (.reg [xo 4 (.mov (.c (.int .i64 (-1))))])
 .ret)))⟩
theorem t_slices_IndexFunc___api_Listen_api_Listen : trFn Tryz.prog 38 [] [[8]] = some f_slices_IndexFunc___api_Listen_api_Listen := by kernel_rfl

abbrev n_gates_Place_1 : Nat := 39
theorem k_gates_Place_1 : FnOk Tryz.prog 39 := FnOk.of (by kernel_rfl)
def f_gates_Place_1 : FnI := ⟨8, [.tmp 3],
 (.seq (.reg [xo 2 (.box 70 (.t 0)), xo 3 (.mov (.b false))])
 (.seq (.reg [xo 4 (.fadr 0 (.t 2)), xo 5 (.load false 1 (.t 4)), xo 6 (.load false 1 (.t 1)), xo 7 (.bins .eql (.t 5) (.t 6)), xo 3 (.mov (.t 7))])
 .ret))⟩
theorem t_gates_Place_1 : trFn Tryz.prog 39 [] [] = some f_gates_Place_1 := by kernel_rfl

abbrev n_hydrantref18_Is : Nat := 40
def f_hydrantref18_Is : FnI := ⟨97, [.tmp 2],
 (.seq (.reg [xo 1 (.box 28 (.t 0)), xo 2 (.mov (.b false))])
 (.seq (.seq (.reg [xo 4 (.fadr 3 (.t 1)), xo 5 (.load false 1 (.t 4)), xo 6 (.len false (.t 5)), xo 7 (.bini .lss (.t 6) (.c (.int .i64 (1)))), xo 8 (.mov (.t 7)), xg 9 (.fadr 3 (.t 1)) 8 false, xg 10 (.load false 1 (.t 9)) 8 false, xg 11 (.len false (.t 10)) 8 false, xg 12 (.bini .gtr (.t 11) (.c (.int .i64 (8)))) 8 false, xo 13 (.pick (.t 8) (.b true) (.t 12)), xo 14 (.mov (.t 13)), xg 15 (.fadr 6 (.t 1)) 14 false, xg 16 (.load false 1 (.t 15)) 14 false, xg 17 (.len false (.t 16)) 14 false, xg 18 (.fadr 3 (.t 1)) 14 false, xg 19 (.load false 1 (.t 18)) 14 false, xg 20 (.len false (.t 19)) 14 false, xg 21 (.bini .neq (.t 17) (.t 20)) 14 false, xo 22 (.pick (.t 14) (.b true) (.t 21)), xo 23 (.mov (.t 22)), xg 24 (.fadr 6 (.t 1)) 23 false, xg 25 (.load false 1 (.t 24)) 23 false, xg 26 (.call 52 [(.t 25)]) 23 false, xg 27 (.not (.t 26)) 23 false, xo 28 (.pick (.t 23) (.b true) (.t 27)), xo 29 (.mov (.t 28)), xg 30 (.fadr 0 (.t 1)) 29 false, xg 31 (.load false 1 (.t 30)) 29 false, xg 32 (.bini .lss (.t 31) (.c (.int .i64 (0)))) 29 false, xo 33 (.pick (.t 29) (.b true) (.t 32)), xo 34 (.mov (.t 33)), xg 35 (.fadr 0 (.t 1)) 34 false, xg 36 (.load false 1 (.t 35)) 34 false, xg 37 (.bini .gtr (.t 36) (.c (.int .i64 (1000000000000)))) 34 false, xo 38 (.pick (.t 34) (.b true) (.t 37)), xo 39 (.mov (.t 38)), xg 40 (.fadr 2 (.t 1)) 39 false, xg 41 (.load false 1 (.t 40)) 39 false, xg 42 (.bini .lss (.t 41) (.c (.int .i64 (0)))) 39 false, xo 43 (.pick (.t 39) (.b true) (.t 42)), xo 44 (.mov (.t 43)), xg 45 (.fadr 2 (.t 1)) 44 false, xg 46 (.load false 1 (.t 45)) 44 false, xg 47 (.bini .gtr (.t 46) (.c (.int .i64 (1)))) 44 false, xo 48 (.pick (.t 44) (.b true) (.t 47))])
 (.cond (.t 48)
 (.seq (.reg [xo 2 (.mov (.b false))])
 .ret)
 .skip))
 (.seq (.seq (.reg [xo 3 (.mov (.c (.int .i64 (0))))])
 (.block 0
 (.loop [3] [49, 50, 51, 52, 53, 56, 57, 58, 59, 60, 61, 62, 63, 64, 65, 66, 67, 68, 69, 70, 71, 72, 2, 54, 55, 3]
 (.seq (.seq (.reg [xo 49 (.mov (.t 3)), xo 50 (.fadr 3 (.t 1)), xo 51 (.load false 1 (.t 50)), xo 52 (.len false (.t 51)), xo 53 (.bini .lss (.t 49) (.t 52))])
 (.cond (.t 53)
 .skip
 (.exit 0)))
 (.seq (.block 1
 (.seq (.regD [] (.op ⟨0, false, [], xo 56 (.fadr 3 (.t 1))⟩
 (.op ⟨1, true, [], xo 57 (.load false 1 (.t 56))⟩
 (.op ⟨2, false, [], xo 58 (.mov (.t 3))⟩
 (.op ⟨3, true, [], xo 59 (.iadr 1 (.t 57) (.t 58))⟩
 (.op ⟨4, true, [], xo 60 (.load false 1 (.t 59))⟩
 (.op ⟨5, false, [], xo 61 (.bini .lss (.t 60) (.c (.int .i64 (0))))⟩
 (.op ⟨6, false, [], xo 62 (.mov (.t 61))⟩
 (.op ⟨7, false, [], xg 63 (.fadr 3 (.t 1)) 62 false⟩
 (.op ⟨8, true, [], xg 64 (.load false 1 (.t 63)) 62 false⟩
 (.op ⟨9, false, [], xg 65 (.mov (.t 3)) 62 false⟩
 (.op ⟨10, true, [], xg 66 (.iadr 1 (.t 64) (.t 65)) 62 false⟩
 (.op ⟨11, true, [], xg 67 (.load false 1 (.t 66)) 62 false⟩
 (.op ⟨12, false, [], xg 68 (.fadr 0 (.t 1)) 62 false⟩
 (.op ⟨13, true, [], xg 69 (.load false 1 (.t 68)) 62 false⟩
 (.op ⟨14, false, [], xg 70 (.bini .add (.t 69) (.c (.int .i64 (1)))) 62 false⟩
 (.op ⟨15, false, [], xg 71 (.bini .gtr (.t 67) (.t 70)) 62 false⟩
 (.op ⟨16, false, [], xo 72 (.pick (.t 62) (.b true) (.t 71))⟩
 .nil))))))))))))))))))
 (.cond (.t 72)
 (.seq (.reg [xo 2 (.mov (.b false))])
 .ret)
 .skip)))
 (.reg [xo 54 (.mov (.t 3)), xo 55 (.bini .add (.t 54) (.c (.int .i64 (1)))), xo 3 (.mov (.t 55))]))))))
 (.seq (.seq (.reg [xo 73 (.fadr 1 (.t 1)), xo 74 (.load false 1 (.t 73)), xo 75 (.bini .lss (.t 74) (.c (.int .i64 (0)))), xo 76 (.mov (.t 75)), xg 77 (.fadr 1 (.t 1)) 76 false, xg 78 (.load false 1 (.t 77)) 76 false, xg 79 (.fadr 4 (.t 1)) 76 false, xg 80 (.load false 1 (.t 79)) 76 false, xg 81 (.len false (.t 80)) 76 false, xg 82 (.bini .geq (.t 78) (.t 81)) 76 false, xo 83 (.pick (.t 76) (.b true) (.t 82)), xo 84 (.mov (.t 83)), xg 85 (.load true 8 (.t 1)) 84 false, xg 86 (.call 53 [(.t 85)]) 84 false, xg 87 (.not (.t 86)) 84 false, xo 88 (.pick (.t 84) (.b true) (.t 87))])
 (.cond (.t 88)
 (.seq (.reg [xo 2 (.mov (.b false))])
 .ret)
 .skip))
 (.seq (.reg [xo 89 (.fadr 4 (.t 1)), xo 90 (.load false 1 (.t 89)), xo 91 (.fadr 1 (.t 1)), xo 92 (.load false 1 (.t 91)), xo 93 (.iadr 5 (.t 90) (.t 92)), xo 94 (.fadr 4 (.t 93)), xo 95 (.load false 1 (.t 94)), xo 96 (.not (.t 95)), xo 2 (.mov (.t 96))])
 .ret)))))⟩
theorem t_hydrantref18_Is : trFn Tryz.prog 40 [([], (.first 0 (.first 1 (.first 2 (.first 3 (.first 4 (.first 5 (.first 6 (.first 7 (.first 8 (.first 9 (.first 10 (.first 11 (.first 12 (.first 13 (.first 14 (.first 15 (.first 16 .nil))))))))))))))))))] [[3]] = some f_hydrantref18_Is := by kernel_rfl

abbrev n_hydrantref19_in : Nat := 41
def f_hydrantref19_in : FnI := ⟨12, [.tmp 4],
 (.seq (.reg [xo 4 (.mov (.b false))])
 (.seq (.reg [xo 5 (.mov (.t 0)), xo 6 (.bini .geq (.t 5) (.c (.int .i64 (0)))), xo 7 (.mov (.t 6)), xg 8 (.mov (.t 0)) 7 true, xg 9 (.mov (.t 1)) 7 true, xg 10 (.bini .lss (.t 8) (.t 9)) 7 true, xo 11 (.pick (.t 7) (.t 10) (.b false)), xo 4 (.mov (.t 11))])
 .ret))⟩
theorem t_hydrantref19_in : trFn Tryz.prog 41 [] [] = some f_hydrantref19_in := by kernel_rfl

abbrev n_world_New : Nat := 42
def f_world_New : FnI := ⟨64, [.cell 6 8 true, .tmp 7],
 (.seq (.reg [xo 3 (.box 54 (.t 0)), xo 6 (.alloc 28 [(.v (.int .i64 (0))), (.v (.int .i64 (0))), (.v (.int .i64 (0))), (.v (.slice none 0 0)), (.v (.slice none 0 0)), (.v (.slice none 0 0)), (.v (.slice none 0 0)), (.v (.slice none 0 0))]), xo 7 (.mov (.c (.int .i64 (0))))])
 (.seq (.reg [xo 15 (.load true 3 (.t 3)), xo 16 (.call 54 [(.t 15)]), xo 14 (.mov (.t 16)), xo 17 (.ext 0 (.t 14)), xo 18 (.ext 1 (.t 14)), xo 8 (.alloc 57 [(.v (.slice none 0 0)), (.v (.slice none 0 0)), (.v (.slice none 0 0)), (.v (.slice none 0 0)), (.v (.bool false))]), xn (.store 5 (.t 8) (.t 17)), xo 9 (.mov (.t 18))])
 (.seq (.seq (.reg [xo 19 (.mov (.t 9)), xo 20 (.bini .neq (.t 19) (.c (.int .i64 (0))))])
 (.cond (.t 20)
 (.seq (.reg [xo 21 (.build [(.v (.int .i64 (0))), (.v (.int .i64 (0))), (.v (.int .i64 (0))), (.v (.slice none 0 0)), (.v (.slice none 0 0)), (.v (.slice none 0 0)), (.v (.slice none 0 0)), (.v (.slice none 0 0))] []), xo 22 (.mov (.t 9)), xn (.store 8 (.t 6) (.t 21)), xo 7 (.mov (.t 22))])
 .ret)
 .skip))
 (.seq (.reg [xo 24 (.mov (.t 2)), xo 25 (.call 55 [(.t 24)]), xo 23 (.mov (.t 25)), xo 26 (.ext 0 (.t 23)), xo 27 (.ext 1 (.t 23)), xo 10 (.mov (.t 26)), xo 9 (.mov (.t 27))])
 (.seq (.seq (.reg [xo 28 (.mov (.t 9)), xo 29 (.bini .neq (.t 28) (.c (.int .i64 (0))))])
 (.cond (.t 29)
 (.seq (.reg [xo 30 (.build [(.v (.int .i64 (0))), (.v (.int .i64 (0))), (.v (.int .i64 (0))), (.v (.slice none 0 0)), (.v (.slice none 0 0)), (.v (.slice none 0 0)), (.v (.slice none 0 0)), (.v (.slice none 0 0))] []), xo 31 (.mov (.t 9)), xn (.store 8 (.t 6) (.t 30)), xo 7 (.mov (.t 31))])
 .ret)
 .skip))
 (.seq (.regD [11] (.op ⟨0, true, [], xo 32 (.load true 5 (.t 8))⟩
 (.op ⟨2, false, [], xo 34 (.mov (.t 2))⟩
 (.op ⟨4, false, [], xo 36 (.mov (.t 10))⟩
 (.alt (.op ⟨1, false, [], xo 33 (.bsl 57 5 1 [(.v (.slice none 0 0)), (.v (.slice none 0 0)), (.v (.slice none 0 0)), (.v (.slice none 0 0)), (.v (.bool false))] [(0, 5, (.t 32))])⟩
 (.op ⟨3, false, [], xo 35 (.msl 3 1 8 [(.int .i64 (0))] (.t 34) (.t 34))⟩
 (.op ⟨5, false, [], xo 37 (.build [(.v (.int .i64 (0))), (.v (.int .i64 (0))), (.v (.int .i64 (0))), (.v (.slice none 0 0)), (.v (.slice none 0 0)), (.v (.slice none 0 0)), (.v (.slice none 0 0)), (.v (.slice none 0 0))] [(4, 1, (.t 33)), (3, 1, (.t 35)), (6, 1, (.t 36))])⟩
 (.bring ⟨6, false, [], xo 11 (.alloc 28 [(.v (.int .i64 (0))), (.v (.int .i64 (0))), (.v (.int .i64 (0))), (.v (.slice none 0 0)), (.v (.slice none 0 0)), (.v (.slice none 0 0)), (.v (.slice none 0 0)), (.v (.slice none 0 0))])⟩
 (.op ⟨7, false, [], xn (.store 8 (.t 11) (.t 37))⟩
 .nil)))))
 (.op ⟨3, false, [], xo 35 (.msl 3 1 8 [(.int .i64 (0))] (.t 34) (.t 34))⟩
 (.op ⟨1, false, [], xo 33 (.bsl 57 5 1 [(.v (.slice none 0 0)), (.v (.slice none 0 0)), (.v (.slice none 0 0)), (.v (.slice none 0 0)), (.v (.bool false))] [(0, 5, (.t 32))])⟩
 (.op ⟨5, false, [], xo 37 (.build [(.v (.int .i64 (0))), (.v (.int .i64 (0))), (.v (.int .i64 (0))), (.v (.slice none 0 0)), (.v (.slice none 0 0)), (.v (.slice none 0 0)), (.v (.slice none 0 0)), (.v (.slice none 0 0))] [(4, 1, (.t 33)), (3, 1, (.t 35)), (6, 1, (.t 36))])⟩
 (.bring ⟨6, false, [], xo 11 (.alloc 28 [(.v (.int .i64 (0))), (.v (.int .i64 (0))), (.v (.int .i64 (0))), (.v (.slice none 0 0)), (.v (.slice none 0 0)), (.v (.slice none 0 0)), (.v (.slice none 0 0)), (.v (.slice none 0 0))])⟩
 (.op ⟨7, false, [], xn (.store 8 (.t 11) (.t 37))⟩
 .nil))))))))))
 (.seq (.seq (.reg [xo 38 (.mov (.t 1)), xo 39 (.len false (.t 38)), xo 40 (.mov (.c (.int .i64 (0))))])
 (.block 0
 (.loop [40] [41, 42, 43, 13, 44, 45, 46, 47, 48, 49, 50, 51, 52, 53, 54, 7, 55, 56, 57, 58, 59, 60, 61, 62, 40]
 (.seq (.reg [xo 41 (.bini .lss (.t 40) (.t 39))])
 (.seq (.cond (.t 41)
 .skip
 (.exit 0))
 (.seq (.block 1
 (.seq (.reg [xo 42 (.iadr 1 (.t 38) (.t 40)), xo 43 (.load false 1 (.t 42)), xo 13 (.mov (.t 43))])
 (.seq (.seq (.reg [xo 44 (.mov (.t 13)), xo 45 (.call 56 [(.t 44)]), xo 46 (.not (.t 45)), xo 47 (.mov (.t 46)), xg 48 (.fadr 5 (.t 11)) 47 false, xg 49 (.load false 1 (.t 48)) 47 false, xg 50 (.mov (.t 13)) 47 false, xg 51 (.call 14 [(.t 49), (.t 50)]) 47 false, xg 52 (.bini .geq (.t 51) (.c (.int .i64 (0)))) 47 false, xo 53 (.pick (.t 47) (.b true) (.t 52))])
 (.cond (.t 53)
 (.seq (.reg [xo 54 (.build [(.v (.int .i64 (0))), (.v (.int .i64 (0))), (.v (.int .i64 (0))), (.v (.slice none 0 0)), (.v (.slice none 0 0)), (.v (.slice none 0 0)), (.v (.slice none 0 0)), (.v (.slice none 0 0))] []), xn (.store 8 (.t 6) (.t 54)), xo 7 (.mov (.c (.int .i64 (1))))])
 .ret)
 .skip))
 (.reg [xo 55 (.fadr 5 (.t 11)), xo 56 (.load false 1 (.t 55)), xo 57 (.mov (.t 13)), xo 58 (.build [(.v (.string ⟨#[]⟩)), (.v (.bool false)), (.v (.int .i64 (0))), (.v (.bool false))] [(0, 1, (.t 57))]), xo 59 (.bsl 70 4 1 [(.v (.string ⟨#[]⟩)), (.v (.bool false)), (.v (.int .i64 (0))), (.v (.bool false))] [(0, 4, (.t 58))]), xo 60 (.app 70 4 40 (.t 56) (.t 59)), xo 61 (.fadr 5 (.t 11)), xn (.store 1 (.t 61) (.t 60))]))))
 (.reg [xo 62 (.bini .add (.t 40) (.c (.int .i64 (1)))), xo 40 (.mov (.t 62))])))))))
 (.seq (.reg [xo 63 (.load true 8 (.t 11)), xn (.store 8 (.t 6) (.t 63)), xo 7 (.mov (.c (.int .i64 (0))))])
 .ret))))))))⟩
theorem t_world_New : trFn Tryz.prog 42 [([6], (.first 0 (.first 2 (.first 4 (.alt (.exec 1 (.exec 3 (.first 5 (.bring 6 (.exec 7 .nil))))) (.exec 3 (.exec 1 (.first 5 (.bring 6 (.exec 7 .nil))))))))))] [[40]] = some f_world_New := by kernel_rfl

abbrev n_hydrantref07_Same : Nat := 43
def f_hydrantref07_Same : FnI := ⟨47, [.tmp 4],
 (.seq (.reg [xo 2 (.box 54 (.t 0)), xo 3 (.box 54 (.t 1)), xo 4 (.mov (.b false))])
 (.seq (.seq (.reg [xo 6 (.fadr 0 (.t 2)), xo 7 (.load false 1 (.t 6)), xo 8 (.fadr 0 (.t 3)), xo 9 (.load false 1 (.t 8)), xo 10 (.call 57 [(.t 7), (.t 9)]), xo 11 (.not (.t 10)), xo 12 (.mov (.t 11)), xg 13 (.fadr 2 (.t 2)) 12 false, xg 14 (.load false 1 (.t 13)) 12 false, xg 15 (.fadr 2 (.t 3)) 12 false, xg 16 (.load false 1 (.t 15)) 12 false, xg 17 (.call 58 [(.t 14), (.t 16)]) 12 false, xg 18 (.not (.t 17)) 12 false, xo 19 (.pick (.t 12) (.b true) (.t 18)), xo 20 (.mov (.t 19)), xg 21 (.fadr 1 (.t 2)) 20 false, xg 22 (.load false 1 (.t 21)) 20 false, xg 23 (.len false (.t 22)) 20 false, xg 24 (.fadr 1 (.t 3)) 20 false, xg 25 (.load false 1 (.t 24)) 20 false, xg 26 (.len false (.t 25)) 20 false, xg 27 (.bini .neq (.t 23) (.t 26)) 20 false, xo 28 (.pick (.t 20) (.b true) (.t 27))])
 (.cond (.t 28)
 (.seq (.reg [xo 4 (.mov (.b false))])
 .ret)
 .skip))
 (.seq (.seq (.reg [xo 5 (.mov (.c (.int .i64 (0))))])
 (.block 0
 (.loop [5] [29, 30, 31, 32, 33, 36, 37, 38, 39, 40, 41, 42, 43, 44, 45, 46, 4, 34, 35, 5]
 (.seq (.seq (.reg [xo 29 (.mov (.t 5)), xo 30 (.fadr 1 (.t 2)), xo 31 (.load false 1 (.t 30)), xo 32 (.len false (.t 31)), xo 33 (.bini .lss (.t 29) (.t 32))])
 (.cond (.t 33)
 .skip
 (.exit 0)))
 (.seq (.block 1
 (.seq (.regD [] (.op ⟨0, false, [], xo 36 (.fadr 1 (.t 2))⟩
 (.op ⟨1, true, [], xo 37 (.load false 1 (.t 36))⟩
 (.op ⟨2, false, [], xo 38 (.mov (.t 5))⟩
 (.op ⟨3, true, [], xo 39 (.iadr 4 (.t 37) (.t 38))⟩
 (.op ⟨4, true, [], xo 40 (.load true 4 (.t 39))⟩
 (.op ⟨5, false, [], xo 41 (.fadr 1 (.t 3))⟩
 (.op ⟨6, true, [], xo 42 (.load false 1 (.t 41))⟩
 (.op ⟨7, false, [], xo 43 (.mov (.t 5))⟩
 (.op ⟨8, true, [], xo 44 (.iadr 4 (.t 42) (.t 43))⟩
 (.op ⟨9, true, [], xo 45 (.load true 4 (.t 44))⟩
 (.op ⟨10, false, [], xo 46 (.binst true [0, 1, 1, 0] (.t 40) (.t 45))⟩
 .nil))))))))))))
 (.cond (.t 46)
 (.seq (.reg [xo 4 (.mov (.b false))])
 .ret)
 .skip)))
 (.reg [xo 34 (.mov (.t 5)), xo 35 (.bini .add (.t 34) (.c (.int .i64 (1)))), xo 5 (.mov (.t 35))]))))))
 (.seq (.reg [xo 4 (.mov (.b true))])
 .ret))))⟩
theorem t_hydrantref07_Same : trFn Tryz.prog 43 [([], (.first 0 (.first 1 (.first 2 (.first 3 (.first 4 (.first 5 (.first 6 (.first 7 (.first 8 (.first 9 (.first 10 .nil))))))))))))] [[5]] = some f_hydrantref07_Same := by kernel_rfl

abbrev n_hydrantref14_Same : Nat := 44
def f_hydrantref14_Same : FnI := ⟨45, [.tmp 4],
 (.seq (.reg [xo 2 (.box 88 (.t 0)), xo 3 (.box 88 (.t 1)), xo 4 (.mov (.b false))])
 (.seq (.seq (.reg [xo 6 (.fadr 0 (.t 2)), xo 7 (.load false 1 (.t 6)), xo 8 (.fadr 0 (.t 3)), xo 9 (.load false 1 (.t 8)), xo 10 (.bini .neq (.t 7) (.t 9)), xo 11 (.mov (.t 10)), xg 12 (.fadr 2 (.t 2)) 11 false, xg 13 (.load false 1 (.t 12)) 11 false, xg 14 (.fadr 2 (.t 3)) 11 false, xg 15 (.load false 1 (.t 14)) 11 false, xg 16 (.bini .neq (.t 13) (.t 15)) 11 false, xo 17 (.pick (.t 11) (.b true) (.t 16)), xo 18 (.mov (.t 17)), xg 19 (.fadr 1 (.t 2)) 18 false, xg 20 (.load false 1 (.t 19)) 18 false, xg 21 (.len false (.t 20)) 18 false, xg 22 (.fadr 1 (.t 3)) 18 false, xg 23 (.load false 1 (.t 22)) 18 false, xg 24 (.len false (.t 23)) 18 false, xg 25 (.bini .neq (.t 21) (.t 24)) 18 false, xo 26 (.pick (.t 18) (.b true) (.t 25))])
 (.cond (.t 26)
 (.seq (.reg [xo 4 (.mov (.b false))])
 .ret)
 .skip))
 (.seq (.seq (.reg [xo 5 (.mov (.c (.int .i64 (0))))])
 (.block 0
 (.loop [5] [27, 28, 29, 30, 31, 34, 35, 36, 37, 38, 39, 40, 41, 42, 43, 44, 4, 32, 33, 5]
 (.seq (.seq (.reg [xo 27 (.mov (.t 5)), xo 28 (.fadr 1 (.t 2)), xo 29 (.load false 1 (.t 28)), xo 30 (.len false (.t 29)), xo 31 (.bini .lss (.t 27) (.t 30))])
 (.cond (.t 31)
 .skip
 (.exit 0)))
 (.seq (.block 1
 (.seq (.regD [] (.op ⟨0, false, [], xo 34 (.fadr 1 (.t 2))⟩
 (.op ⟨1, true, [], xo 35 (.load false 1 (.t 34))⟩
 (.op ⟨2, false, [], xo 36 (.mov (.t 5))⟩
 (.op ⟨3, true, [], xo 37 (.iadr 1 (.t 35) (.t 36))⟩
 (.op ⟨4, true, [], xo 38 (.load false 1 (.t 37))⟩
 (.op ⟨5, false, [], xo 39 (.fadr 1 (.t 3))⟩
 (.op ⟨6, true, [], xo 40 (.load false 1 (.t 39))⟩
 (.op ⟨7, false, [], xo 41 (.mov (.t 5))⟩
 (.op ⟨8, true, [], xo 42 (.iadr 1 (.t 40) (.t 41))⟩
 (.op ⟨9, true, [], xo 43 (.load false 1 (.t 42))⟩
 (.op ⟨10, false, [], xo 44 (.bini .neq (.t 38) (.t 43))⟩
 .nil))))))))))))
 (.cond (.t 44)
 (.seq (.reg [xo 4 (.mov (.b false))])
 .ret)
 .skip)))
 (.reg [xo 32 (.mov (.t 5)), xo 33 (.bini .add (.t 32) (.c (.int .i64 (1)))), xo 5 (.mov (.t 33))]))))))
 (.seq (.reg [xo 4 (.mov (.b true))])
 .ret))))⟩
theorem t_hydrantref14_Same : trFn Tryz.prog 44 [([], (.first 0 (.first 1 (.first 2 (.first 3 (.first 4 (.first 5 (.first 6 (.first 7 (.first 8 (.first 9 (.first 10 .nil))))))))))))] [[5]] = some f_hydrantref14_Same := by kernel_rfl

abbrev n_world_ground : Nat := 45
def f_world_ground : FnI := ⟨51, [.tmp 2],
 (.seq (.reg [xo 1 (.box 28 (.t 0)), xo 2 (.mov (.b false))])
 (.seq (.reg [xo 4 (.fadr 3 (.t 1)), xo 5 (.load false 1 (.t 4)), xo 6 (.len false (.t 5)), xo 3 (.mov (.t 6))])
 (.seq (.seq (.reg [xo 7 (.mov (.t 3)), xo 8 (.bini .lss (.t 7) (.c (.int .i64 (1)))), xo 9 (.mov (.t 8)), xg 10 (.mov (.t 3)) 9 false, xg 11 (.bini .gtr (.t 10) (.c (.int .i64 (8)))) 9 false, xo 12 (.pick (.t 9) (.b true) (.t 11)), xo 13 (.mov (.t 12)), xg 14 (.fadr 6 (.t 1)) 13 false, xg 15 (.load false 1 (.t 14)) 13 false, xg 16 (.len false (.t 15)) 13 false, xg 17 (.mov (.t 3)) 13 false, xg 18 (.bini .neq (.t 16) (.t 17)) 13 false, xo 19 (.pick (.t 13) (.b true) (.t 18)), xo 20 (.mov (.t 19)), xg 21 (.fadr 6 (.t 1)) 20 false, xg 22 (.load false 1 (.t 21)) 20 false, xg 23 (.call 59 [(.t 22)]) 20 false, xg 24 (.not (.t 23)) 20 false, xo 25 (.pick (.t 20) (.b true) (.t 24)), xo 26 (.mov (.t 25)), xg 27 (.fadr 0 (.t 1)) 26 false, xg 28 (.load false 1 (.t 27)) 26 false, xg 29 (.bini .lss (.t 28) (.c (.int .i64 (0)))) 26 false, xo 30 (.pick (.t 26) (.b true) (.t 29)), xo 31 (.mov (.t 30)), xg 32 (.fadr 0 (.t 1)) 31 false, xg 33 (.load false 1 (.t 32)) 31 false, xg 34 (.bini .gtr (.t 33) (.c (.int .i64 (1000000000000)))) 31 false, xo 35 (.pick (.t 31) (.b true) (.t 34)), xo 36 (.mov (.t 35)), xg 37 (.fadr 2 (.t 1)) 36 false, xg 38 (.load false 1 (.t 37)) 36 false, xg 39 (.bini .neq (.t 38) (.c (.int .i64 (0)))) 36 false, xg 40 (.mov (.t 39)) 36 false, xg 41 (.fadr 2 (.t 1)) 40 true, xg 42 (.load false 1 (.t 41)) 40 true, xg 43 (.bini .neq (.t 42) (.c (.int .i64 (1)))) 40 true, xg 44 (.pick (.t 40) (.t 43) (.b false)) 36 false, xo 45 (.pick (.t 36) (.b true) (.t 44))])
 (.cond (.t 45)
 (.seq (.reg [xo 2 (.mov (.b false))])
 .ret)
 .skip))
 (.seq (.reg [xo 46 (.fadr 3 (.t 1)), xo 47 (.load false 1 (.t 46)), xo 48 (.mkf (.func 61) [] [(.t 1)]), xo 49 (.call 60 [(.t 47), (.t 48)]), xo 50 (.not (.t 49)), xo 2 (.mov (.t 50))])
 .ret))))⟩
theorem t_world_ground : trFn Tryz.prog 45 [] [] = some f_world_ground := by kernel_rfl

abbrev n_limbo_Is : Nat := 46
def f_limbo_Is : FnI := ⟨29, [.tmp 2],
 (.seq (.reg [xo 2 (.mov (.b false))])
 (.seq (.seq (.reg [xo 5 (.mov (.t 0)), xo 6 (.len false (.t 5)), xo 7 (.mov (.c (.int .i64 (0))))])
 (.block 0
 (.loop [7] [8, 9, 10, 11, 4, 3, 12, 13, 14, 15, 16, 17, 18, 19, 20, 21, 22, 23, 24, 25, 26, 27, 2, 28, 7]
 (.seq (.reg [xo 8 (.bini .lss (.t 7) (.t 6))])
 (.seq (.cond (.t 8)
 .skip
 (.exit 0))
 (.seq (.block 1
 (.seq (.reg [xo 9 (.mov (.t 7)), xo 10 (.iadr 3 (.t 5) (.t 7)), xo 11 (.load true 3 (.t 10)), xo 4 (.alloc 101 [(.v (.int .i64 (0))), (.v (.int .i64 (0))), (.v (.bool false))]), xo 3 (.mov (.t 9)), xn (.store 3 (.t 4) (.t 11))])
 (.seq (.regD [] (.op ⟨0, false, [], xo 12 (.fadr 0 (.t 4))⟩
 (.op ⟨1, true, [], xo 13 (.load false 1 (.t 12))⟩
 (.op ⟨2, false, [], xo 14 (.bini .lss (.t 13) (.c (.int .i64 (0))))⟩
 (.op ⟨3, false, [], xo 15 (.mov (.t 14))⟩
 (.op ⟨4, false, [], xg 16 (.fadr 1 (.t 4)) 15 false⟩
 (.op ⟨5, true, [], xg 17 (.load false 1 (.t 16)) 15 false⟩
 (.op ⟨6, false, [], xg 18 (.bini .lss (.t 17) (.c (.int .i64 (0)))) 15 false⟩
 (.op ⟨7, false, [], xo 19 (.pick (.t 15) (.b true) (.t 18))⟩
 (.op ⟨8, false, [], xo 20 (.mov (.t 19))⟩
 (.op ⟨9, false, [], xg 21 (.mov (.t 0)) 20 false⟩
 (.op ⟨10, false, [], xg 22 (.mov (.t 3)) 20 false⟩
 (.op ⟨11, false, [], xg 23 (.slc 3 (.t 21) none (some (.t 22)) none) 20 false⟩
 (.op ⟨12, false, [], xg 24 (.fadr 0 (.t 4)) 20 false⟩
 (.op ⟨13, true, [], xg 25 (.load false 1 (.t 24)) 20 false⟩
 (.op ⟨14, false, [], xg 26 (.call 62 [(.t 23), (.t 25)]) 20 false⟩
 (.op ⟨15, false, [], xo 27 (.pick (.t 20) (.b true) (.t 26))⟩
 .nil)))))))))))))))))
 (.cond (.t 27)
 (.seq (.reg [xo 2 (.mov (.b false))])
 .ret)
 .skip))))
 (.reg [xo 28 (.bini .add (.t 7) (.c (.int .i64 (1)))), xo 7 (.mov (.t 28))])))))))
 (.seq (.reg [xo 2 (.mov (.b true))])
 .ret)))⟩
theorem t_limbo_Is : trFn Tryz.prog 46 [([], (.first 0 (.first 1 (.first 2 (.first 3 (.first 4 (.first 5 (.first 6 (.first 7 (.first 8 (.first 9 (.first 10 (.first 11 (.first 12 (.first 13 (.exec 14 (.first 15 .nil)))))))))))))))))] [[7]] = some f_limbo_Is := by kernel_rfl

abbrev n_world_version : Nat := 47
def f_world_version : FnI := ⟨50, [.tmp 2],
 (.seq (.reg [xo 1 (.box 57 (.t 0)), xo 2 (.mov (.b false))])
 (.seq (.seq (.reg [xo 7 (.fadr 0 (.t 1)), xo 8 (.load true 3 (.t 7)), xo 9 (.call 63 [(.t 8)]), xo 10 (.not (.t 9)), xo 11 (.mov (.t 10)), xg 12 (.fadr 3 (.t 1)) 11 false, xg 13 (.load false 1 (.t 12)) 11 false, xg 14 (.len false (.t 13)) 11 false, xg 15 (.fadr 0 (.t 1)) 11 false, xg 16 (.fadr 2 (.t 15)) 11 false, xg 17 (.load false 1 (.t 16)) 11 false, xg 18 (.len false (.t 17)) 11 false, xg 19 (.bini .neq (.t 14) (.t 18)) 11 false, xo 20 (.pick (.t 11) (.b true) (.t 19))])
 (.cond (.t 20)
 (.seq (.reg [xo 2 (.mov (.b false))])
 .ret)
 .skip))
 (.seq (.seq (.reg [xo 21 (.fadr 3 (.t 1)), xo 22 (.load false 1 (.t 21)), xo 23 (.len false (.t 22)), xo 24 (.mov (.c (.int .i64 (0))))])
 (.block 0
 (.loop [24] [25, 26, 27, 28, 4, 3, 29, 30, 31, 32, 33, 34, 5, 35, 6, 36, 37, 38, 39, 40, 41, 42, 43, 44, 45, 46, 47, 48, 2, 49, 24]
 (.seq (.reg [xo 25 (.bini .lss (.t 24) (.t 23))])
 (.seq (.cond (.t 25)
 .skip
 (.exit 0))
 (.seq (.block 1
 (.seq (.reg [xo 26 (.mov (.t 24)), xo 27 (.iadr 2 (.t 22) (.t 24)), xo 28 (.load true 2 (.t 27)), xo 4 (.alloc 61 [(.v (.int .u64 (0))), (.v (.slice none 0 0))]), xo 3 (.mov (.t 26)), xn (.store 2 (.t 4) (.t 28))])
 (.seq (.reg [xo 29 (.fadr 0 (.t 1)), xo 30 (.fadr 2 (.t 29)), xo 31 (.load false 1 (.t 30)), xo 32 (.mov (.t 3)), xo 33 (.iadr 4 (.t 31) (.t 32)), xo 34 (.load true 4 (.t 33)), xo 5 (.alloc 85 [(.v (.string ⟨#[]⟩)), (.v (.int .i64 (0))), (.v (.int .i64 (0))), (.v (.slice none 0 0))]), xn (.store 4 (.t 5) (.t 34))])
 (.seq (.reg [xo 35 (.mkf (.func 64) [] [(.t 5)]), xo 6 (.mov (.t 35))])
 (.seq (.reg [xo 36 (.fadr 1 (.t 4)), xo 37 (.load false 1 (.t 36)), xo 38 (.len false (.t 37)), xo 39 (.fadr 3 (.t 5)), xo 40 (.load false 1 (.t 39)), xo 41 (.len false (.t 40)), xo 42 (.bini .neq (.t 38) (.t 41)), xo 43 (.mov (.t 42)), xg 44 (.fadr 1 (.t 4)) 43 false, xg 45 (.load false 1 (.t 44)) 43 false, xg 46 (.mov (.t 6)) 43 false, xg 47 (.call 66 [(.t 45), (.t 46)]) 43 false, xo 48 (.pick (.t 43) (.b true) (.t 47))])
 (.cond (.t 48)
 (.seq (.reg [xo 2 (.mov (.b false))])
 .ret)
 .skip))))))
 (.reg [xo 49 (.bini .add (.t 24) (.c (.int .i64 (1)))), xo 24 (.mov (.t 49))])))))))
 (.seq (.reg [xo 2 (.mov (.b true))])
 .ret))))⟩
theorem t_world_version : trFn Tryz.prog 47 [] [[24]] = some f_world_version := by kernel_rfl

abbrev n_gates_Is : Nat := 48
def f_gates_Is : FnI := ⟨20, [.tmp 2],
 (.seq (.reg [xo 1 (.box 70 (.t 0)), xo 2 (.mov (.b false))])
 (.seq (.reg [xo 3 (.fadr 0 (.t 1)), xo 4 (.load false 1 (.t 3)), xo 5 (.call 56 [(.t 4)]), xo 6 (.mov (.t 5)), xg 7 (.fadr 2 (.t 1)) 6 true, xg 8 (.load false 1 (.t 7)) 6 true, xg 9 (.bini .geq (.t 8) (.c (.int .i64 (0)))) 6 true, xo 10 (.pick (.t 6) (.t 9) (.b false)), xo 11 (.mov (.t 10)), xg 12 (.fadr 1 (.t 1)) 11 true, xg 13 (.load false 1 (.t 12)) 11 true, xg 14 (.mov (.t 13)) 11 true, xg 15 (.fadr 3 (.t 1)) 14 false, xg 16 (.load false 1 (.t 15)) 14 false, xg 17 (.not (.t 16)) 14 false, xg 18 (.pick (.t 14) (.b true) (.t 17)) 11 true, xo 19 (.pick (.t 11) (.t 18) (.b false)), xo 2 (.mov (.t 19))])
 .ret))⟩
theorem t_gates_Is : trFn Tryz.prog 48 [] [] = some f_gates_Is := by kernel_rfl

abbrev n_world_each_api_Group_world_cloner : Nat := 49
def f_world_each_api_Group_world_cloner : FnI := ⟨29, [.tmp 6],
 (.seq (.reg [xo 5 (.box 90 (.t 2)), xo 6 (.mov (.c (.slice none 0 0)))])
 (.seq (.reg [xo 10 (.mov (.t 0)), xo 11 (.len false (.t 10)), xo 12 (.msl 61 2 32 [(.int .u64 (0)), (.slice none 0 0)] (.t 11) (.t 11)), xo 7 (.mov (.t 12))])
 (.seq (.seq (.reg [xo 13 (.mov (.t 0)), xo 14 (.len false (.t 13)), xo 15 (.mov (.c (.int .i64 (0))))])
 (.block 0
 (.loop [15] [16, 17, 18, 19, 9, 8, 20, 21, 22, 23, 24, 25, 26, 27, 15]
 (.seq (.reg [xo 16 (.bini .lss (.t 15) (.t 14))])
 (.seq (.cond (.t 16)
 .skip
 (.exit 0))
 (.seq (.block 1
 (.seq (.reg [xo 17 (.mov (.t 15)), xo 18 (.iadr 2 (.t 13) (.t 15)), xo 19 (.load true 2 (.t 18)), xo 9 (.alloc 61 [(.v (.int .u64 (0))), (.v (.slice none 0 0))]), xo 8 (.mov (.t 17)), xn (.store 2 (.t 9) (.t 19))])
 (.reg [xo 20 (.mov (.t 7)), xo 21 (.mov (.t 8)), xo 22 (.mov (.t 1)), xo 23 (.load true 0 (.t 5)), xo 24 (.load true 2 (.t 9)), xo 25 (.callv (.t 22) [(.t 23), (.t 24)]), xo 26 (.iadr 2 (.t 20) (.t 21)), xn (.store 2 (.t 26) (.t 25))])))
 (.reg [xo 27 (.bini .add (.t 15) (.c (.int .i64 (1)))), xo 15 (.mov (.t 27))])))))))
 (.seq (.reg [xo 28 (.mov (.t 7)), xo 6 (.mov (.t 28))])
 .ret))))⟩
theorem t_world_each_api_Group_world_cloner : trFn Tryz.prog 49 [] [[15]] = some f_world_each_api_Group_world_cloner := by kernel_rfl

abbrev n_world_cloner__group : Nat := 50
def f_world_cloner__group : FnI := ⟨11, [.cell 4 2 true],
 (.seq (.reg [xo 2 (.box 90 (.t 0)), xo 3 (.box 61 (.t 1)), xo 4 (.alloc 61 [(.v (.int .u64 (0))), (.v (.slice none 0 0))])])
 (.seq (.reg [xo 5 (.fadr 1 (.t 3)), xo 6 (.load false 1 (.t 5)), xo 7 (.load true 0 (.t 2)), xo 8 (.call 67 [(.t 6), (.c (.func (.func 68) #[] #[])), (.t 7)]), xo 9 (.fadr 1 (.t 3)), xn (.store 1 (.t 9) (.t 8))])
 (.seq (.reg [xo 10 (.load true 2 (.t 3)), xn (.store 2 (.t 4) (.t 10))])
 .ret)))⟩
theorem t_world_cloner__group : trFn Tryz.prog 50 [] [] = some f_world_cloner__group := by kernel_rfl

abbrev n_slices_Clone___uint64_uint64 : Nat := 51
def f_slices_Clone___uint64_uint64 : FnI := ⟨8, [.tmp 2],
 (.seq (.reg [xo 2 (.mov (.c (.slice none 0 0)))])
 (.seq (.seq (.reg [xo 3 (.mov (.t 0)), xo 4 (.binn 0 false (.t 3))])
 (.cond (.t 4)
 (.seq (.reg [xo 2 (.mov (.c (.slice none 0 0)))])
 .ret)
 .skip))
 (.seq (.reg [xo 5 (.bsl 36 1 0 [] []), xo 6 (.mov (.t 0)), xo 7 (.app 36 1 8 (.t 5) (.t 6)), xo 2 (.mov (.t 7))])
 .ret)))⟩
theorem t_slices_Clone___uint64_uint64 : trFn Tryz.prog 51 [] [] = some f_slices_Clone___uint64_uint64 := by kernel_rfl

abbrev n_hydrantref11_Is : Nat := 52
def f_hydrantref11_Is : FnI := ⟨24, [.tmp 2],
 (.seq (.reg [xo 2 (.mov (.b false))])
 (.seq (.seq (.reg [xo 3 (.mov (.c (.int .i64 (0))))])
 (.block 0
 (.loop [3] [4, 5, 6, 7, 10, 11, 12, 13, 14, 15, 2, 8, 9, 3]
 (.seq (.seq (.reg [xo 4 (.mov (.t 3)), xo 5 (.mov (.t 0)), xo 6 (.len false (.t 5)), xo 7 (.bini .lss (.t 4) (.t 6))])
 (.cond (.t 7)
 .skip
 (.exit 0)))
 (.seq (.block 1
 (.seq (.reg [xo 10 (.mov (.t 0)), xo 11 (.mov (.t 3)), xo 12 (.iadr 1 (.t 10) (.t 11)), xo 13 (.load false 1 (.t 12)), xo 14 (.len false (.t 13)), xo 15 (.bini .neq (.t 14) (.c (.int .i64 (6))))])
 (.cond (.t 15)
 (.seq (.reg [xo 2 (.mov (.b false))])
 .ret)
 .skip)))
 (.reg [xo 8 (.mov (.t 3)), xo 9 (.bini .add (.t 8) (.c (.int .i64 (1)))), xo 3 (.mov (.t 9))]))))))
 (.seq (.reg [xo 16 (.mov (.t 0)), xo 17 (.len false (.t 16)), xo 18 (.bini .geq (.t 17) (.c (.int .i64 (1)))), xo 19 (.mov (.t 18)), xg 20 (.mov (.t 0)) 19 true, xg 21 (.len false (.t 20)) 19 true, xg 22 (.bini .leq (.t 21) (.c (.int .i64 (8)))) 19 true, xo 23 (.pick (.t 19) (.t 22) (.b false)), xo 2 (.mov (.t 23))])
 .ret)))⟩
theorem t_hydrantref11_Is : trFn Tryz.prog 52 [] [[3]] = some f_hydrantref11_Is := by kernel_rfl

abbrev n_hydrantref18_lists : Nat := 53
def f_hydrantref18_lists : FnI := ⟨101, [.tmp 2],
 (.seq (.reg [xo 1 (.box 28 (.t 0)), xo 2 (.mov (.b false))])
 (.seq (.seq (.reg [xo 3 (.mov (.c (.int .i64 (0))))])
 (.block 0
 (.loop [3] [7, 8, 9, 10, 11, 14, 15, 16, 17, 18, 19, 20, 21, 22, 23, 24, 25, 26, 27, 28, 29, 31, 30, 32, 33, 2, 12, 13, 3]
 (.seq (.seq (.reg [xo 7 (.mov (.t 3)), xo 8 (.fadr 5 (.t 1)), xo 9 (.load false 1 (.t 8)), xo 10 (.len false (.t 9)), xo 11 (.bini .lss (.t 7) (.t 10))])
 (.cond (.t 11)
 .skip
 (.exit 0)))
 (.seq (.block 1
 (.seq (.regD [] (.op ⟨0, false, [], xo 14 (.fadr 5 (.t 1))⟩
 (.op ⟨1, true, [], xo 15 (.load false 1 (.t 14))⟩
 (.op ⟨2, false, [], xo 16 (.mov (.t 3))⟩
 (.op ⟨3, true, [], xo 17 (.iadr 4 (.t 15) (.t 16))⟩
 (.op ⟨4, true, [], xo 18 (.load true 4 (.t 17))⟩
 (.op ⟨5, false, [], xo 19 (.call 69 [(.t 18)])⟩
 (.op ⟨6, false, [], xo 20 (.not (.t 19))⟩
 (.op ⟨7, false, [], xo 21 (.mov (.t 20))⟩
 (.op ⟨8, false, [], xg 22 (.fadr 5 (.t 1)) 21 false⟩
 (.op ⟨9, true, [], xg 23 (.load false 1 (.t 22)) 21 false⟩
 (.op ⟨10, false, [], xg 24 (.fadr 5 (.t 1)) 21 false⟩
 (.op ⟨11, true, [], xg 25 (.load false 1 (.t 24)) 21 false⟩
 (.op ⟨12, false, [], xg 26 (.mov (.t 3)) 21 false⟩
 (.op ⟨13, true, [], xg 27 (.iadr 4 (.t 25) (.t 26)) 21 false⟩
 (.op ⟨14, false, [], xg 28 (.fadr 0 (.t 27)) 21 false⟩
 (.op ⟨15, true, [], xg 29 (.load false 1 (.t 28)) 21 false⟩
 (.op ⟨17, false, [], xg 31 (.mov (.t 3)) 21 false⟩
 (.op ⟨16, false, [], xg 30 (.call 19 [(.t 23), (.t 29)]) 21 false⟩
 (.op ⟨18, false, [], xg 32 (.bini .neq (.t 30) (.t 31)) 21 false⟩
 (.op ⟨19, false, [], xo 33 (.pick (.t 21) (.b true) (.t 32))⟩
 .nil)))))))))))))))))))))
 (.cond (.t 33)
 (.seq (.reg [xo 2 (.mov (.b false))])
 .ret)
 .skip)))
 (.reg [xo 12 (.mov (.t 3)), xo 13 (.bini .add (.t 12) (.c (.int .i64 (1)))), xo 3 (.mov (.t 13))]))))))
 (.seq (.seq (.reg [xo 4 (.mov (.c (.int .i64 (0))))])
 (.block 2
 (.loop [4] [34, 35, 36, 37, 38, 41, 42, 43, 44, 45, 46, 47, 48, 49, 50, 51, 52, 53, 54, 55, 56, 57, 58, 59, 60, 2, 39, 40, 4]
 (.seq (.seq (.reg [xo 34 (.mov (.t 4)), xo 35 (.fadr 4 (.t 1)), xo 36 (.load false 1 (.t 35)), xo 37 (.len false (.t 36)), xo 38 (.bini .lss (.t 34) (.t 37))])
 (.cond (.t 38)
 .skip
 (.exit 2)))
 (.seq (.block 3
 (.seq (.regD [] (.op ⟨0, false, [], xo 41 (.fadr 4 (.t 1))⟩
 (.op ⟨1, true, [], xo 42 (.load false 1 (.t 41))⟩
 (.op ⟨2, false, [], xo 43 (.mov (.t 4))⟩
 (.op ⟨3, true, [], xo 44 (.iadr 5 (.t 42) (.t 43))⟩
 (.op ⟨4, true, [], xo 45 (.load true 5 (.t 44))⟩
 (.op ⟨5, false, [], xo 46 (.call 70 [(.t 45)])⟩
 (.op ⟨6, false, [], xo 47 (.not (.t 46))⟩
 (.op ⟨7, false, [], xo 48 (.mov (.t 47))⟩
 (.op ⟨8, false, [], xg 49 (.fadr 4 (.t 1)) 48 false⟩
 (.op ⟨9, true, [], xg 50 (.load false 1 (.t 49)) 48 false⟩
 (.op ⟨10, false, [], xg 51 (.mov (.t 4)) 48 false⟩
 (.op ⟨11, true, [], xg 52 (.iadr 5 (.t 50) (.t 51)) 48 false⟩
 (.op ⟨12, false, [], xg 53 (.fadr 4 (.t 52)) 48 false⟩
 (.op ⟨13, true, [], xg 54 (.load false 1 (.t 53)) 48 false⟩
 (.op ⟨14, false, [], xg 55 (.fadr 7 (.t 1)) 48 false⟩
 (.op ⟨15, true, [], xg 56 (.load false 1 (.t 55)) 48 false⟩
 (.op ⟨16, false, [], xg 57 (.mov (.t 4)) 48 false⟩
 (.op ⟨17, false, [], xg 58 (.call 71 [(.t 56), (.t 57)]) 48 false⟩
 (.op ⟨18, false, [], xg 59 (.binb true (.t 54) (.t 58)) 48 false⟩
 (.op ⟨19, false, [], xo 60 (.pick (.t 48) (.b true) (.t 59))⟩
 .nil)))))))))))))))))))))
 (.cond (.t 60)
 (.seq (.reg [xo 2 (.mov (.b false))])
 .ret)
 .skip)))
 (.reg [xo 39 (.mov (.t 4)), xo 40 (.bini .add (.t 39) (.c (.int .i64 (1)))), xo 4 (.mov (.t 40))]))))))
 (.seq (.seq (.reg [xo 5 (.mov (.c (.int .i64 (0))))])
 (.block 4
 (.loop [5] [61, 62, 63, 64, 65, 68, 69, 70, 71, 72, 6, 73, 74, 75, 76, 77, 78, 79, 80, 81, 82, 83, 84, 85, 86, 87, 88, 89, 90, 91, 92, 93, 94, 95, 96, 97, 2, 66, 67, 5]
 (.seq (.seq (.reg [xo 61 (.mov (.t 5)), xo 62 (.fadr 7 (.t 1)), xo 63 (.load false 1 (.t 62)), xo 64 (.len false (.t 63)), xo 65 (.bini .lss (.t 61) (.t 64))])
 (.cond (.t 65)
 .skip
 (.exit 4)))
 (.seq (.block 5
 (.seq (.reg [xo 68 (.fadr 7 (.t 1)), xo 69 (.load false 1 (.t 68)), xo 70 (.mov (.t 5)), xo 71 (.iadr 3 (.t 69) (.t 70)), xo 72 (.load true 3 (.t 71)), xo 6 (.alloc 101 [(.v (.int .i64 (0))), (.v (.int .i64 (0))), (.v (.bool false))]), xn (.store 3 (.t 6) (.t 72))])
 (.seq (.reg [xo 73 (.fadr 0 (.t 6)), xo 74 (.load false 1 (.t 73)), xo 75 (.bini .lss (.t 74) (.c (.int .i64 (0)))), xo 76 (.mov (.t 75)), xg 77 (.fadr 0 (.t 6)) 76 false, xg 78 (.load false 1 (.t 77)) 76 false, xg 79 (.fadr 4 (.t 1)) 76 false, xg 80 (.load false 1 (.t 79)) 76 false, xg 81 (.len false (.t 80)) 76 false, xg 82 (.bini .geq (.t 78) (.t 81)) 76 false, xo 83 (.pick (.t 76) (.b true) (.t 82)), xo 84 (.mov (.t 83)), xg 85 (.fadr 0 (.t 6)) 84 false, xg 86 (.load false 1 (.t 85)) 84 false, xg 87 (.fadr 1 (.t 1)) 84 false, xg 88 (.load false 1 (.t 87)) 84 false, xg 89 (.bini .eql (.t 86) (.t 88)) 84 false, xo 90 (.pick (.t 84) (.b true) (.t 89)), xo 91 (.mov (.t 90)), xg 92 (.fadr 1 (.t 6)) 91 false, xg 93 (.load false 1 (.t 92)) 91 false, xg 94 (.fadr 0 (.t 1)) 91 false, xg 95 (.load false 1 (.t 94)) 91 false, xg 96 (.bini .gtr (.t 93) (.t 95)) 91 false, xo 97 (.pick (.t 91) (.b true) (.t 96))])
 (.cond (.t 97)
 (.seq (.reg [xo 2 (.mov (.b false))])
 .ret)
 .skip))))
 (.reg [xo 66 (.mov (.t 5)), xo 67 (.bini .add (.t 66) (.c (.int .i64 (1)))), xo 5 (.mov (.t 67))]))))))
 (.seq (.reg [xo 98 (.fadr 7 (.t 1)), xo 99 (.load false 1 (.t 98)), xo 100 (.call 72 [(.t 99)]), xo 2 (.mov (.t 100))])
 .ret)))))⟩
theorem t_hydrantref18_lists : trFn Tryz.prog 53 [([], (.first 0 (.first 1 (.first 2 (.first 3 (.first 4 (.exec 5 (.first 6 (.first 7 (.first 8 (.first 9 (.first 10 (.first 11 (.first 12 (.first 13 (.first 14 (.first 15 (.first 17 (.exec 16 (.first 18 (.first 19 .nil))))))))))))))))))))), ([], (.first 0 (.first 1 (.first 2 (.first 3 (.first 4 (.exec 5 (.first 6 (.first 7 (.first 8 (.first 9 (.first 10 (.first 11 (.first 12 (.first 13 (.first 14 (.first 15 (.first 16 (.exec 17 (.first 18 (.first 19 .nil)))))))))))))))))))))] [[3], [4], [5]] = some f_hydrantref18_lists := by kernel_rfl

abbrev n_world_Cells : Nat := 54
def f_world_Cells : FnI := ⟨53, [.cell 2 5 true, .tmp 3],
 (.seq (.reg [xo 1 (.box 54 (.t 0)), xo 2 (.alloc 57 [(.v (.slice none 0 0)), (.v (.slice none 0 0)), (.v (.slice none 0 0)), (.v (.slice none 0 0)), (.v (.bool false))]), xo 3 (.mov (.c (.int .i64 (0))))])
 (.seq (.seq (.reg [xo 10 (.load true 3 (.t 1)), xo 11 (.call 63 [(.t 10)]), xo 12 (.not (.t 11))])
 (.cond (.t 12)
 (.seq (.reg [xo 13 (.build [(.v (.slice none 0 0)), (.v (.slice none 0 0)), (.v (.slice none 0 0)), (.v (.slice none 0 0)), (.v (.bool false))] []), xn (.store 5 (.t 2) (.t 13)), xo 3 (.mov (.c (.int .i64 (1))))])
 .ret)
 .skip))
 (.seq (.reg [xo 14 (.load true 3 (.t 1)), xo 15 (.build [(.v (.slice none 0 0)), (.v (.slice none 0 0)), (.v (.slice none 0 0)), (.v (.slice none 0 0)), (.v (.bool false))] [(0, 3, (.t 14))]), xo 4 (.alloc 57 [(.v (.slice none 0 0)), (.v (.slice none 0 0)), (.v (.slice none 0 0)), (.v (.slice none 0 0)), (.v (.bool false))]), xn (.store 5 (.t 4) (.t 15))])
 (.seq (.seq (.reg [xo 16 (.fadr 2 (.t 1)), xo 17 (.load false 1 (.t 16)), xo 18 (.len false (.t 17)), xo 19 (.mov (.c (.int .i64 (0))))])
 (.block 0
 (.loop [19] [20, 21, 22, 6, 7, 23, 24, 25, 26, 27, 29, 30, 31, 28, 32, 33, 8, 9, 34, 35, 36, 37, 3, 38, 39, 40, 41, 42, 43, 44, 45, 46, 47, 48, 49, 50, 51, 19]
 (.seq (.reg [xo 20 (.bini .lss (.t 19) (.t 18))])
 (.seq (.cond (.t 20)
 .skip
 (.exit 0))
 (.seq (.block 1
 (.seq (.reg [xo 21 (.iadr 4 (.t 17) (.t 19)), xo 22 (.load true 4 (.t 21)), xo 6 (.alloc 85 [(.v (.string ⟨#[]⟩)), (.v (.int .i64 (0))), (.v (.int .i64 (0))), (.v (.slice none 0 0))]), xn (.store 4 (.t 6) (.t 22))])
 (.seq (.reg [xo 7 (.alloc 61 [(.v (.int .u64 (0))), (.v (.slice none 0 0))])])
 (.seq (.seq (.reg [xo 23 (.fadr 3 (.t 6)), xo 24 (.load false 1 (.t 23)), xo 25 (.len false (.t 24)), xo 26 (.mov (.c (.int .i64 (0))))])
 (.block 2
 (.loop [26] [27, 29, 30, 31, 28, 32, 33, 8, 9, 34, 35, 36, 37, 3, 38, 39, 40, 41, 42, 43, 44, 26]
 (.seq (.reg [xo 27 (.bini .lss (.t 26) (.t 25))])
 (.seq (.cond (.t 27)
 .skip
 (.exit 2))
 (.seq (.block 3
 (.seq (.reg [xo 29 (.fadr 2 (.t 6)), xo 30 (.load false 1 (.t 29)), xo 31 (.call 73 [(.t 30)]), xo 28 (.mov (.t 31)), xo 32 (.ext 0 (.t 28)), xo 33 (.ext 1 (.t 28)), xo 8 (.alloc 88 [(.v (.int .u64 (0))), (.v (.slice none 0 0)), (.v (.int .i64 (0)))]), xn (.store 3 (.t 8) (.t 32)), xo 9 (.mov (.t 33))])
 (.seq (.seq (.reg [xo 34 (.mov (.t 9)), xo 35 (.bini .neq (.t 34) (.c (.int .i64 (0))))])
 (.cond (.t 35)
 (.seq (.reg [xo 36 (.build [(.v (.slice none 0 0)), (.v (.slice none 0 0)), (.v (.slice none 0 0)), (.v (.slice none 0 0)), (.v (.bool false))] []), xo 37 (.mov (.t 9)), xn (.store 5 (.t 2) (.t 36)), xo 3 (.mov (.t 37))])
 .ret)
 .skip))
 (.reg [xo 38 (.fadr 1 (.t 7)), xo 39 (.load false 1 (.t 38)), xo 40 (.load true 3 (.t 8)), xo 41 (.bsl 88 3 1 [(.v (.int .u64 (0))), (.v (.slice none 0 0)), (.v (.int .i64 (0)))] [(0, 3, (.t 40))]), xo 42 (.app 88 3 40 (.t 39) (.t 41)), xo 43 (.fadr 1 (.t 7)), xn (.store 1 (.t 43) (.t 42))]))))
 (.reg [xo 44 (.bini .add (.t 26) (.c (.int .i64 (1)))), xo 26 (.mov (.t 44))])))))))
 (.reg [xo 45 (.fadr 3 (.t 4)), xo 46 (.load false 1 (.t 45)), xo 47 (.load true 2 (.t 7)), xo 48 (.bsl 61 2 1 [(.v (.int .u64 (0))), (.v (.slice none 0 0))] [(0, 2, (.t 47))]), xo 49 (.app 61 2 32 (.t 46) (.t 48)), xo 50 (.fadr 3 (.t 4)), xn (.store 1 (.t 50) (.t 49))])))))
 (.reg [xo 51 (.bini .add (.t 19) (.c (.int .i64 (1)))), xo 19 (.mov (.t 51))])))))))
 (.seq (.reg [xo 52 (.load true 5 (.t 4)), xn (.store 5 (.t 2) (.t 52)), xo 3 (.mov (.c (.int .i64 (0))))])
 .ret)))))⟩
theorem t_world_Cells : trFn Tryz.prog 54 [] [[19], [26]] = some f_world_Cells := by kernel_rfl

abbrev n_shard_New : Nat := 55
def f_shard_New : FnI := ⟨25, [.tmp 2, .tmp 3],
 (.seq (.reg [xo 2 (.mov (.c (.slice none 0 0))), xo 3 (.mov (.c (.int .i64 (0))))])
 (.seq (.seq (.reg [xo 6 (.mov (.t 0)), xo 7 (.bini .lss (.t 6) (.c (.int .i64 (1)))), xo 8 (.mov (.t 7)), xg 9 (.mov (.t 0)) 8 false, xg 10 (.bini .gtr (.t 9) (.c (.int .i64 (8)))) 8 false, xo 11 (.pick (.t 8) (.b true) (.t 10))])
 (.cond (.t 11)
 (.seq (.reg [xo 2 (.mov (.c (.slice none 0 0))), xo 3 (.mov (.c (.int .i64 (1))))])
 .ret)
 .skip))
 (.seq (.reg [xo 12 (.mov (.t 0)), xo 13 (.msl 81 1 24 [(.slice none 0 0)] (.t 12) (.t 12)), xo 4 (.mov (.t 13))])
 (.seq (.seq (.reg [xo 14 (.mov (.t 4)), xo 15 (.len false (.t 14)), xo 16 (.mov (.c (.int .i64 (0))))])
 (.block 0
 (.loop [16] [17, 18, 5, 19, 20, 21, 22, 23, 16]
 (.seq (.reg [xo 17 (.bini .lss (.t 16) (.t 15))])
 (.seq (.cond (.t 17)
 .skip
 (.exit 0))
 (.seq (.block 1
 (.seq (.reg [xo 18 (.mov (.t 16)), xo 5 (.mov (.t 18))])
 (.reg [xo 19 (.mov (.t 4)), xo 20 (.mov (.t 5)), xo 21 (.msl 36 1 8 [(.int .u64 (0))] (.c (.int .i64 (6))) (.c (.int .i64 (6)))), xo 22 (.iadr 1 (.t 19) (.t 20)), xn (.store 1 (.t 22) (.t 21))])))
 (.reg [xo 23 (.bini .add (.t 16) (.c (.int .i64 (1)))), xo 16 (.mov (.t 23))])))))))
 (.seq (.reg [xo 24 (.mov (.t 4)), xo 2 (.mov (.t 24)), xo 3 (.mov (.c (.int .i64 (0))))])
 .ret)))))⟩
theorem t_shard_New : trFn Tryz.prog 55 [] [[16]] = some f_shard_New := by kernel_rfl

abbrev n_names_Name : Nat := 56
def f_names_Name : FnI := ⟨21, [.tmp 2],
 (.seq (.reg [xo 2 (.mov (.b false))])
 (.seq (.reg [xo 3 (.mov (.t 0)), xo 4 (.len true (.t 3)), xo 5 (.bini .gtr (.t 4) (.c (.int .i64 (0)))), xo 6 (.mov (.t 5)), xg 7 (.mov (.t 0)) 6 true, xg 8 (.len true (.t 7)) 6 true, xg 9 (.bini .leq (.t 8) (.c (.int .i64 (16)))) 6 true, xo 10 (.pick (.t 6) (.t 9) (.b false)), xo 11 (.mov (.t 10)), xg 12 (.mov (.t 0)) 11 true, xg 13 (.idxs (.t 12) (.c (.int .i64 (0)))) 11 true, xg 14 (.call 74 [(.t 13)]) 11 true, xo 15 (.pick (.t 11) (.t 14) (.b false)), xo 16 (.mov (.t 15)), xg 17 (.call 75 []) 16 true, xg 18 (.mov (.t 0)) 16 true, xg 19 (.call 76 [(.t 17), (.t 18), (.c (.int .u8 (45)))]) 16 true, xo 20 (.pick (.t 16) (.t 19) (.b false)), xo 2 (.mov (.t 20))])
 .ret))⟩
theorem t_names_Name : trFn Tryz.prog 56 [] [] = some f_names_Name := by kernel_rfl

abbrev n_hydrantref07_sameTexts : Nat := 57
def f_hydrantref07_sameTexts : FnI := ⟨26, [.tmp 4],
 (.seq (.reg [xo 4 (.mov (.b false))])
 (.seq (.seq (.reg [xo 6 (.mov (.t 0)), xo 7 (.len false (.t 6)), xo 8 (.mov (.t 1)), xo 9 (.len false (.t 8)), xo 10 (.bini .neq (.t 7) (.t 9))])
 (.cond (.t 10)
 (.seq (.reg [xo 4 (.mov (.b false))])
 .ret)
 .skip))
 (.seq (.seq (.reg [xo 5 (.mov (.c (.int .i64 (0))))])
 (.block 0
 (.loop [5] [11, 12, 13, 14, 17, 18, 19, 20, 21, 22, 23, 24, 25, 4, 15, 16, 5]
 (.seq (.seq (.reg [xo 11 (.mov (.t 5)), xo 12 (.mov (.t 0)), xo 13 (.len false (.t 12)), xo 14 (.bini .lss (.t 11) (.t 13))])
 (.cond (.t 14)
 .skip
 (.exit 0)))
 (.seq (.block 1
 (.seq (.regD [] (.op ⟨0, false, [], xo 17 (.mov (.t 0))⟩
 (.op ⟨1, false, [], xo 18 (.mov (.t 5))⟩
 (.op ⟨2, true, [], xo 19 (.iadr 1 (.t 17) (.t 18))⟩
 (.op ⟨3, true, [], xo 20 (.load false 1 (.t 19))⟩
 (.op ⟨4, false, [], xo 21 (.mov (.t 1))⟩
 (.op ⟨5, false, [], xo 22 (.mov (.t 5))⟩
 (.op ⟨6, true, [], xo 23 (.iadr 1 (.t 21) (.t 22))⟩
 (.op ⟨7, true, [], xo 24 (.load false 1 (.t 23))⟩
 (.op ⟨8, false, [], xo 25 (.bins .neq (.t 20) (.t 24))⟩
 .nil))))))))))
 (.cond (.t 25)
 (.seq (.reg [xo 4 (.mov (.b false))])
 .ret)
 .skip)))
 (.reg [xo 15 (.mov (.t 5)), xo 16 (.bini .add (.t 15) (.c (.int .i64 (1)))), xo 5 (.mov (.t 16))]))))))
 (.seq (.reg [xo 4 (.mov (.b true))])
 .ret))))⟩
theorem t_hydrantref07_sameTexts : trFn Tryz.prog 57 [([], (.first 0 (.first 1 (.first 2 (.first 3 (.first 4 (.first 5 (.first 6 (.first 7 (.first 8 .nil))))))))))] [[5]] = some f_hydrantref07_sameTexts := by kernel_rfl

abbrev n_hydrantref07_sameClusters : Nat := 58
def f_hydrantref07_sameClusters : FnI := ⟨97, [.tmp 4],
 (.seq (.reg [xo 4 (.mov (.b false))])
 (.seq (.seq (.reg [xo 7 (.mov (.t 0)), xo 8 (.len false (.t 7)), xo 9 (.mov (.t 1)), xo 10 (.len false (.t 9)), xo 11 (.bini .neq (.t 8) (.t 10))])
 (.cond (.t 11)
 (.seq (.reg [xo 4 (.mov (.b false))])
 .ret)
 .skip))
 (.seq (.seq (.reg [xo 5 (.mov (.c (.int .i64 (0))))])
 (.block 0
 (.loop [5] [12, 13, 14, 15, 18, 19, 20, 21, 22, 23, 24, 25, 26, 27, 28, 29, 30, 31, 32, 33, 34, 35, 36, 37, 38, 39, 40, 41, 42, 43, 44, 45, 46, 47, 48, 49, 50, 51, 52, 53, 54, 55, 56, 57, 58, 59, 60, 61, 62, 63, 64, 65, 66, 67, 68, 69, 4, 6, 70, 71, 72, 73, 74, 75, 76, 77, 80, 81, 82, 83, 84, 85, 86, 87, 88, 89, 90, 91, 92, 93, 94, 95, 96, 78, 79, 16, 17, 5]
 (.seq (.seq (.reg [xo 12 (.mov (.t 5)), xo 13 (.mov (.t 0)), xo 14 (.len false (.t 13)), xo 15 (.bini .lss (.t 12) (.t 14))])
 (.cond (.t 15)
 .skip
 (.exit 0)))
 (.seq (.block 1
 (.seq (.seq (.regD [] (.op ⟨0, false, [], xo 18 (.mov (.t 0))⟩
 (.op ⟨1, false, [], xo 19 (.mov (.t 5))⟩
 (.op ⟨2, true, [], xo 20 (.iadr 4 (.t 18) (.t 19))⟩
 (.op ⟨3, false, [], xo 21 (.fadr 0 (.t 20))⟩
 (.op ⟨4, true, [], xo 22 (.load false 1 (.t 21))⟩
 (.op ⟨5, false, [], xo 23 (.mov (.t 1))⟩
 (.op ⟨6, false, [], xo 24 (.mov (.t 5))⟩
 (.op ⟨7, true, [], xo 25 (.iadr 4 (.t 23) (.t 24))⟩
 (.op ⟨8, false, [], xo 26 (.fadr 0 (.t 25))⟩
 (.op ⟨9, true, [], xo 27 (.load false 1 (.t 26))⟩
 (.op ⟨10, false, [], xo 28 (.bins .neq (.t 22) (.t 27))⟩
 (.op ⟨11, false, [], xo 29 (.mov (.t 28))⟩
 (.op ⟨12, false, [], xg 30 (.mov (.t 0)) 29 false⟩
 (.op ⟨13, false, [], xg 31 (.mov (.t 5)) 29 false⟩
 (.op ⟨14, true, [], xg 32 (.iadr 4 (.t 30) (.t 31)) 29 false⟩
 (.op ⟨15, false, [], xg 33 (.fadr 1 (.t 32)) 29 false⟩
 (.op ⟨16, true, [], xg 34 (.load false 1 (.t 33)) 29 false⟩
 (.op ⟨17, false, [], xg 35 (.mov (.t 1)) 29 false⟩
 (.op ⟨18, false, [], xg 36 (.mov (.t 5)) 29 false⟩
 (.op ⟨19, true, [], xg 37 (.iadr 4 (.t 35) (.t 36)) 29 false⟩
 (.op ⟨20, false, [], xg 38 (.fadr 1 (.t 37)) 29 false⟩
 (.op ⟨21, true, [], xg 39 (.load false 1 (.t 38)) 29 false⟩
 (.op ⟨22, false, [], xg 40 (.bini .neq (.t 34) (.t 39)) 29 false⟩
 (.op ⟨23, false, [], xo 41 (.pick (.t 29) (.b true) (.t 40))⟩
 (.op ⟨24, false, [], xo 42 (.mov (.t 41))⟩
 (.op ⟨25, false, [], xg 43 (.mov (.t 0)) 42 false⟩
 (.op ⟨26, false, [], xg 44 (.mov (.t 5)) 42 false⟩
 (.op ⟨27, true, [], xg 45 (.iadr 4 (.t 43) (.t 44)) 42 false⟩
 (.op ⟨28, false, [], xg 46 (.fadr 2 (.t 45)) 42 false⟩
 (.op ⟨29, true, [], xg 47 (.load false 1 (.t 46)) 42 false⟩
 (.op ⟨30, false, [], xg 48 (.mov (.t 1)) 42 false⟩
 (.op ⟨31, false, [], xg 49 (.mov (.t 5)) 42 false⟩
 (.op ⟨32, true, [], xg 50 (.iadr 4 (.t 48) (.t 49)) 42 false⟩
 (.op ⟨33, false, [], xg 51 (.fadr 2 (.t 50)) 42 false⟩
 (.op ⟨34, true, [], xg 52 (.load false 1 (.t 51)) 42 false⟩
 (.op ⟨35, false, [], xg 53 (.bini .neq (.t 47) (.t 52)) 42 false⟩
 (.op ⟨36, false, [], xo 54 (.pick (.t 42) (.b true) (.t 53))⟩
 (.op ⟨37, false, [], xo 55 (.mov (.t 54))⟩
 (.op ⟨38, false, [], xg 56 (.mov (.t 0)) 55 false⟩
 (.op ⟨39, false, [], xg 57 (.mov (.t 5)) 55 false⟩
 (.op ⟨40, true, [], xg 58 (.iadr 4 (.t 56) (.t 57)) 55 false⟩
 (.op ⟨41, false, [], xg 59 (.fadr 3 (.t 58)) 55 false⟩
 (.op ⟨42, true, [], xg 60 (.load false 1 (.t 59)) 55 false⟩
 (.op ⟨43, false, [], xg 61 (.len false (.t 60)) 55 false⟩
 (.op ⟨44, false, [], xg 62 (.mov (.t 1)) 55 false⟩
 (.op ⟨45, false, [], xg 63 (.mov (.t 5)) 55 false⟩
 (.op ⟨46, true, [], xg 64 (.iadr 4 (.t 62) (.t 63)) 55 false⟩
 (.op ⟨47, false, [], xg 65 (.fadr 3 (.t 64)) 55 false⟩
 (.op ⟨48, true, [], xg 66 (.load false 1 (.t 65)) 55 false⟩
 (.op ⟨49, false, [], xg 67 (.len false (.t 66)) 55 false⟩
 (.op ⟨50, false, [], xg 68 (.bini .neq (.t 61) (.t 67)) 55 false⟩
 (.op ⟨51, false, [], xo 69 (.pick (.t 55) (.b true) (.t 68))⟩
 .nil)))))))))))))))))))))))))))))))))))))))))))))))))))))
 (.cond (.t 69)
 (.seq (.reg [xo 4 (.mov (.b false))])
 .ret)
 .skip))
 (.seq (.reg [xo 6 (.mov (.c (.int .i64 (0))))])
 (.block 2
 (.loop [6] [70, 71, 72, 73, 74, 75, 76, 77, 80, 81, 82, 83, 84, 85, 86, 87, 88, 89, 90, 91, 92, 93, 94, 95, 96, 4, 78, 79, 6]
 (.seq (.seq (.reg [xo 70 (.mov (.t 6)), xo 71 (.mov (.t 0)), xo 72 (.mov (.t 5)), xo 73 (.iadr 4 (.t 71) (.t 72)), xo 74 (.fadr 3 (.t 73)), xo 75 (.load false 1 (.t 74)), xo 76 (.len false (.t 75)), xo 77 (.bini .lss (.t 70) (.t 76))])
 (.cond (.t 77)
 .skip
 (.exit 2)))
 (.seq (.block 3
 (.seq (.regD [] (.op ⟨0, false, [], xo 80 (.mov (.t 0))⟩
 (.op ⟨1, false, [], xo 81 (.mov (.t 5))⟩
 (.op ⟨2, true, [], xo 82 (.iadr 4 (.t 80) (.t 81))⟩
 (.op ⟨3, false, [], xo 83 (.fadr 3 (.t 82))⟩
 (.op ⟨4, true, [], xo 84 (.load false 1 (.t 83))⟩
 (.op ⟨5, false, [], xo 85 (.mov (.t 6))⟩
 (.op ⟨6, true, [], xo 86 (.iadr 1 (.t 84) (.t 85))⟩
 (.op ⟨7, true, [], xo 87 (.load false 1 (.t 86))⟩
 (.op ⟨8, false, [], xo 88 (.mov (.t 1))⟩
 (.op ⟨9, false, [], xo 89 (.mov (.t 5))⟩
 (.op ⟨10, true, [], xo 90 (.iadr 4 (.t 88) (.t 89))⟩
 (.op ⟨11, false, [], xo 91 (.fadr 3 (.t 90))⟩
 (.op ⟨12, true, [], xo 92 (.load false 1 (.t 91))⟩
 (.op ⟨13, false, [], xo 93 (.mov (.t 6))⟩
 (.op ⟨14, true, [], xo 94 (.iadr 1 (.t 92) (.t 93))⟩
 (.op ⟨15, true, [], xo 95 (.load false 1 (.t 94))⟩
 (.op ⟨16, false, [], xo 96 (.binb true (.t 87) (.t 95))⟩
 .nil))))))))))))))))))
 (.cond (.t 96)
 (.seq (.reg [xo 4 (.mov (.b false))])
 .ret)
 .skip)))
 (.reg [xo 78 (.mov (.t 6)), xo 79 (.bini .add (.t 78) (.c (.int .i64 (1)))), xo 6 (.mov (.t 79))]))))))))
 (.reg [xo 16 (.mov (.t 5)), xo 17 (.bini .add (.t 16) (.c (.int .i64 (1)))), xo 5 (.mov (.t 17))]))))))
 (.seq (.reg [xo 4 (.mov (.b true))])
 .ret))))⟩
theorem t_hydrantref07_sameClusters : trFn Tryz.prog 58 [([], (.first 0 (.first 1 (.first 2 (.first 3 (.first 4 (.first 5 (.first 6 (.first 7 (.first 8 (.first 9 (.first 10 (.first 11 (.first 12 (.first 13 (.first 14 (.first 15 (.first 16 (.first 17 (.first 18 (.first 19 (.first 20 (.first 21 (.first 22 (.first 23 (.first 24 (.first 25 (.first 26 (.first 27 (.first 28 (.first 29 (.first 30 (.first 31 (.first 32 (.first 33 (.first 34 (.first 35 (.first 36 (.first 37 (.first 38 (.first 39 (.first 40 (.first 41 (.first 42 (.first 43 (.first 44 (.first 45 (.first 46 (.first 47 (.first 48 (.first 49 (.first 50 (.first 51 .nil))))))))))))))))))))))))))))))))))))))))))))))))))))), ([], (.first 0 (.first 1 (.first 2 (.first 3 (.first 4 (.first 5 (.first 6 (.first 7 (.first 8 (.first 9 (.first 10 (.first 11 (.first 12 (.first 13 (.first 14 (.first 15 (.first 16 .nil))))))))))))))))))] [[5], [6]] = some f_hydrantref07_sameClusters := by kernel_rfl

abbrev n_shard_Is : Nat := 59
def f_shard_Is : FnI := ⟨23, [.tmp 2],
 (.seq (.reg [xo 2 (.mov (.b false))])
 (.seq (.seq (.reg [xo 5 (.mov (.t 0)), xo 6 (.len false (.t 5)), xo 7 (.mov (.c (.int .i64 (0))))])
 (.block 0
 (.loop [7] [8, 9, 10, 4, 11, 12, 13, 2, 14, 7]
 (.seq (.reg [xo 8 (.bini .lss (.t 7) (.t 6))])
 (.seq (.cond (.t 8)
 .skip
 (.exit 0))
 (.seq (.block 1
 (.seq (.reg [xo 9 (.iadr 1 (.t 5) (.t 7)), xo 10 (.load false 1 (.t 9)), xo 4 (.mov (.t 10))])
 (.seq (.reg [xo 11 (.mov (.t 4)), xo 12 (.len false (.t 11)), xo 13 (.bini .neq (.t 12) (.c (.int .i64 (6))))])
 (.cond (.t 13)
 (.seq (.reg [xo 2 (.mov (.b false))])
 .ret)
 .skip))))
 (.reg [xo 14 (.bini .add (.t 7) (.c (.int .i64 (1)))), xo 7 (.mov (.t 14))])))))))
 (.seq (.reg [xo 15 (.mov (.t 0)), xo 16 (.len false (.t 15)), xo 17 (.bini .geq (.t 16) (.c (.int .i64 (1)))), xo 18 (.mov (.t 17)), xg 19 (.mov (.t 0)) 18 true, xg 20 (.len false (.t 19)) 18 true, xg 21 (.bini .leq (.t 20) (.c (.int .i64 (8)))) 18 true, xo 22 (.pick (.t 18) (.t 21) (.b false)), xo 2 (.mov (.t 22))])
 .ret)))⟩
theorem t_shard_Is : trFn Tryz.prog 59 [] [[7]] = some f_shard_Is := by kernel_rfl

abbrev n_slices_ContainsFunc___int_int : Nat := 60
def f_slices_ContainsFunc___int_int : FnI := ⟨9, [.tmp 4],
 (.seq (.reg [xo 4 (.mov (.b false))])
 (.seq (.reg [xo 5 (.mov (.t 0)), xo 6 (.mov (.t 1)), xo 7 (.call 77 [(.t 5), (.t 6)]), xo 8 (.bini .geq (.t 7) (.c (.int .i64 (0)))), xo 4 (.mov (.t 8))])
 .ret))⟩
theorem t_slices_ContainsFunc___int_int : trFn Tryz.prog 60 [] [] = some f_slices_ContainsFunc___int_int := by kernel_rfl

abbrev n_world_ground_1 : Nat := 61
theorem k_world_ground_1 : FnOk Tryz.prog 61 := FnOk.of (by kernel_rfl)
def f_world_ground_1 : FnI := ⟨13, [.tmp 3],
 (.seq (.reg [xo 3 (.mov (.b false))])
 (.seq (.reg [xo 4 (.mov (.t 0)), xo 5 (.bini .lss (.t 4) (.c (.int .i64 (0)))), xo 6 (.mov (.t 5)), xg 7 (.mov (.t 0)) 6 false, xg 8 (.fadr 0 (.t 1)) 6 false, xg 9 (.load false 1 (.t 8)) 6 false, xg 10 (.bini .add (.t 9) (.c (.int .i64 (1)))) 6 false, xg 11 (.bini .gtr (.t 7) (.t 10)) 6 false, xo 12 (.pick (.t 6) (.b true) (.t 11)), xo 3 (.mov (.t 12))])
 .ret))⟩
theorem t_world_ground_1 : trFn Tryz.prog 61 [] [] = some f_world_ground_1 := by kernel_rfl

abbrev n_limbo_has : Nat := 62
def f_limbo_has : FnI := ⟨8, [.tmp 4],
 (.seq (.reg [xo 3 (.box 3 (.t 1)), xo 4 (.mov (.b false))])
 (.seq (.reg [xo 5 (.mov (.t 0)), xo 6 (.mkf (.func 79) [] [(.t 3)]), xo 7 (.call 78 [(.t 5), (.t 6)]), xo 4 (.mov (.t 7))])
 .ret))⟩
theorem t_limbo_has : trFn Tryz.prog 62 [] [] = some f_limbo_has := by kernel_rfl

abbrev n_snap_Is : Nat := 63
def f_snap_Is : FnI := ⟨13, [.tmp 2],
 (.seq (.reg [xo 1 (.box 54 (.t 0)), xo 2 (.mov (.b false))])
 (.seq (.reg [xo 6 (.load true 3 (.t 1)), xo 7 (.call 81 [(.t 6)]), xo 8 (.call 80 [(.t 7)]), xo 5 (.mov (.t 8)), xo 9 (.ext 0 (.t 5)), xo 10 (.ext 1 (.t 5)), xo 3 (.mov (.t 9)), xo 4 (.mov (.t 10))])
 (.seq (.reg [xo 11 (.mov (.t 3)), xo 12 (.bini .eql (.t 11) (.c (.int .i64 (0)))), xo 2 (.mov (.t 12))])
 .ret)))⟩
theorem t_snap_Is : trFn Tryz.prog 63 [] [] = some f_snap_Is := by kernel_rfl

abbrev n_world_version_1 : Nat := 64
theorem k_world_version_1 : FnOk Tryz.prog 64 := FnOk.of (by kernel_rfl)
def f_world_version_1 : FnI := ⟨15, [.tmp 3],
 (.seq (.reg [xo 2 (.box 88 (.t 0)), xo 3 (.mov (.b false))])
 (.seq (.reg [xo 4 (.load true 3 (.t 2)), xo 5 (.call 65 [(.t 4)]), xo 6 (.not (.t 5)), xo 7 (.mov (.t 6)), xg 8 (.fadr 1 (.t 2)) 7 false, xg 9 (.load false 1 (.t 8)) 7 false, xg 10 (.len false (.t 9)) 7 false, xg 11 (.fadr 2 (.t 1)) 7 false, xg 12 (.load false 1 (.t 11)) 7 false, xg 13 (.bini .neq (.t 10) (.t 12)) 7 false, xo 14 (.pick (.t 7) (.b true) (.t 13)), xo 3 (.mov (.t 14))])
 .ret))⟩
theorem t_world_version_1 : trFn Tryz.prog 64 [] [] = some f_world_version_1 := by kernel_rfl

abbrev n_slots_Is : Nat := 65
def f_slots_Is : FnI := ⟨29, [.tmp 2],
 (.seq (.reg [xo 1 (.box 88 (.t 0)), xo 2 (.mov (.b false))])
 (.seq (.reg [xo 6 (.load true 3 (.t 1)), xo 7 (.call 82 [(.t 6)]), xo 5 (.mov (.t 7)), xo 8 (.ext 0 (.t 5)), xo 9 (.ext 1 (.t 5)), xo 3 (.mov (.t 8)), xo 4 (.mov (.t 9))])
 (.seq (.reg [xo 10 (.mov (.t 4)), xo 11 (.bini .eql (.t 10) (.c (.int .i64 (0)))), xo 12 (.mov (.t 11)), xg 13 (.fadr 1 (.t 1)) 12 true, xg 14 (.load false 1 (.t 13)) 12 true, xg 15 (.len false (.t 14)) 12 true, xg 16 (.bini .geq (.t 15) (.c (.int .i64 (1)))) 12 true, xo 17 (.pick (.t 12) (.t 16) (.b false)), xo 18 (.mov (.t 17)), xg 19 (.fadr 1 (.t 1)) 18 true, xg 20 (.load false 1 (.t 19)) 18 true, xg 21 (.len false (.t 20)) 18 true, xg 22 (.bini .leq (.t 21) (.c (.int .i64 (4)))) 18 true, xo 23 (.pick (.t 18) (.t 22) (.b false)), xo 24 (.mov (.t 23)), xg 25 (.fadr 2 (.t 1)) 24 true, xg 26 (.load false 1 (.t 25)) 24 true, xg 27 (.bini .geq (.t 26) (.c (.int .i64 (0)))) 24 true, xo 28 (.pick (.t 24) (.t 27) (.b false)), xo 2 (.mov (.t 28))])
 .ret)))⟩
theorem t_slots_Is : trFn Tryz.prog 65 [] [] = some f_slots_Is := by kernel_rfl

abbrev n_slices_ContainsFunc___api_End_api_End : Nat := 66
def f_slices_ContainsFunc___api_End_api_End : FnI := ⟨9, [.tmp 4],
 (.seq (.reg [xo 4 (.mov (.b false))])
 (.seq (.reg [xo 5 (.mov (.t 0)), xo 6 (.mov (.t 1)), xo 7 (.call 83 [(.t 5), (.t 6)]), xo 8 (.bini .geq (.t 7) (.c (.int .i64 (0)))), xo 4 (.mov (.t 8))])
 .ret))⟩
theorem t_slices_ContainsFunc___api_End_api_End : trFn Tryz.prog 66 [] [] = some f_slices_ContainsFunc___api_End_api_End := by kernel_rfl

abbrev n_world_each_api_End_world_cloner : Nat := 67
def f_world_each_api_End_world_cloner : FnI := ⟨29, [.tmp 6],
 (.seq (.reg [xo 5 (.box 90 (.t 2)), xo 6 (.mov (.c (.slice none 0 0)))])
 (.seq (.reg [xo 10 (.mov (.t 0)), xo 11 (.len false (.t 10)), xo 12 (.msl 88 3 40 [(.int .u64 (0)), (.slice none 0 0), (.int .i64 (0))] (.t 11) (.t 11)), xo 7 (.mov (.t 12))])
 (.seq (.seq (.reg [xo 13 (.mov (.t 0)), xo 14 (.len false (.t 13)), xo 15 (.mov (.c (.int .i64 (0))))])
 (.block 0
 (.loop [15] [16, 17, 18, 19, 9, 8, 20, 21, 22, 23, 24, 25, 26, 27, 15]
 (.seq (.reg [xo 16 (.bini .lss (.t 15) (.t 14))])
 (.seq (.cond (.t 16)
 .skip
 (.exit 0))
 (.seq (.block 1
 (.seq (.reg [xo 17 (.mov (.t 15)), xo 18 (.iadr 3 (.t 13) (.t 15)), xo 19 (.load true 3 (.t 18)), xo 9 (.alloc 88 [(.v (.int .u64 (0))), (.v (.slice none 0 0)), (.v (.int .i64 (0)))]), xo 8 (.mov (.t 17)), xn (.store 3 (.t 9) (.t 19))])
 (.reg [xo 20 (.mov (.t 7)), xo 21 (.mov (.t 8)), xo 22 (.mov (.t 1)), xo 23 (.load true 0 (.t 5)), xo 24 (.load true 3 (.t 9)), xo 25 (.callv (.t 22) [(.t 23), (.t 24)]), xo 26 (.iadr 3 (.t 20) (.t 21)), xn (.store 3 (.t 26) (.t 25))])))
 (.reg [xo 27 (.bini .add (.t 15) (.c (.int .i64 (1)))), xo 15 (.mov (.t 27))])))))))
 (.seq (.reg [xo 28 (.mov (.t 7)), xo 6 (.mov (.t 28))])
 .ret))))⟩
theorem t_world_each_api_End_world_cloner : trFn Tryz.prog 67 [] [[15]] = some f_world_each_api_End_world_cloner := by kernel_rfl

abbrev n_world_cloner__end : Nat := 68
def f_world_cloner__end : FnI := ⟨10, [.cell 4 3 true],
 (.seq (.reg [xo 2 (.box 90 (.t 0)), xo 3 (.box 88 (.t 1)), xo 4 (.alloc 88 [(.v (.int .u64 (0))), (.v (.slice none 0 0)), (.v (.int .i64 (0)))])])
 (.seq (.reg [xo 5 (.fadr 1 (.t 3)), xo 6 (.load false 1 (.t 5)), xo 7 (.call 31 [(.t 6)]), xo 8 (.fadr 1 (.t 3)), xn (.store 1 (.t 8) (.t 7))])
 (.seq (.reg [xo 9 (.load true 3 (.t 3)), xn (.store 3 (.t 4) (.t 9))])
 .ret)))⟩
theorem t_world_cloner__end : trFn Tryz.prog 68 [] [] = some f_world_cloner__end := by kernel_rfl

abbrev n_hydrantref17_Is : Nat := 69
def f_hydrantref17_Is : FnI := ⟨20, [.tmp 2],
 (.seq (.reg [xo 1 (.box 70 (.t 0)), xo 2 (.mov (.b false))])
 (.seq (.reg [xo 3 (.fadr 0 (.t 1)), xo 4 (.load false 1 (.t 3)), xo 5 (.call 84 [(.t 4)]), xo 6 (.mov (.t 5)), xg 7 (.fadr 2 (.t 1)) 6 true, xg 8 (.load false 1 (.t 7)) 6 true, xg 9 (.bini .geq (.t 8) (.c (.int .i64 (0)))) 6 true, xo 10 (.pick (.t 6) (.t 9) (.b false)), xo 11 (.mov (.t 10)), xg 12 (.fadr 1 (.t 1)) 11 true, xg 13 (.load false 1 (.t 12)) 11 true, xg 14 (.mov (.t 13)) 11 true, xg 15 (.fadr 3 (.t 1)) 14 false, xg 16 (.load false 1 (.t 15)) 14 false, xg 17 (.not (.t 16)) 14 false, xg 18 (.pick (.t 14) (.b true) (.t 17)) 11 true, xo 19 (.pick (.t 11) (.t 18) (.b false)), xo 2 (.mov (.t 19))])
 .ret))⟩
theorem t_hydrantref17_Is : trFn Tryz.prog 69 [] [] = some f_hydrantref17_Is := by kernel_rfl

abbrev n_hydrantref18_version : Nat := 70
def f_hydrantref18_version : FnI := ⟨79, [.tmp 2],
 (.seq (.reg [xo 1 (.box 57 (.t 0)), xo 2 (.mov (.b false))])
 (.seq (.seq (.reg [xo 6 (.fadr 0 (.t 1)), xo 7 (.load true 3 (.t 6)), xo 8 (.call 85 [(.t 7)]), xo 9 (.not (.t 8)), xo 10 (.mov (.t 9)), xg 11 (.fadr 3 (.t 1)) 10 false, xg 12 (.load false 1 (.t 11)) 10 false, xg 13 (.len false (.t 12)) 10 false, xg 14 (.fadr 0 (.t 1)) 10 false, xg 15 (.fadr 2 (.t 14)) 10 false, xg 16 (.load false 1 (.t 15)) 10 false, xg 17 (.len false (.t 16)) 10 false, xg 18 (.bini .neq (.t 13) (.t 17)) 10 false, xo 19 (.pick (.t 10) (.b true) (.t 18))])
 (.cond (.t 19)
 (.seq (.reg [xo 2 (.mov (.b false))])
 .ret)
 .skip))
 (.seq (.seq (.reg [xo 3 (.mov (.c (.int .i64 (0))))])
 (.block 0
 (.loop [3] [20, 21, 22, 23, 24, 27, 28, 29, 30, 31, 32, 33, 34, 35, 36, 37, 38, 39, 40, 41, 42, 2, 4, 43, 44, 45, 46, 47, 48, 49, 50, 51, 54, 55, 56, 57, 58, 59, 60, 61, 62, 5, 63, 64, 65, 66, 67, 68, 69, 70, 71, 72, 73, 74, 75, 76, 77, 78, 52, 53, 25, 26, 3]
 (.seq (.seq (.reg [xo 20 (.mov (.t 3)), xo 21 (.fadr 3 (.t 1)), xo 22 (.load false 1 (.t 21)), xo 23 (.len false (.t 22)), xo 24 (.bini .lss (.t 20) (.t 23))])
 (.cond (.t 24)
 .skip
 (.exit 0)))
 (.seq (.block 1
 (.seq (.seq (.regD [] (.op ⟨0, false, [], xo 27 (.fadr 3 (.t 1))⟩
 (.op ⟨1, true, [], xo 28 (.load false 1 (.t 27))⟩
 (.op ⟨2, false, [], xo 29 (.mov (.t 3))⟩
 (.op ⟨3, true, [], xo 30 (.iadr 2 (.t 28) (.t 29))⟩
 (.op ⟨4, false, [], xo 31 (.fadr 1 (.t 30))⟩
 (.op ⟨5, true, [], xo 32 (.load false 1 (.t 31))⟩
 (.op ⟨6, false, [], xo 33 (.len false (.t 32))⟩
 (.op ⟨7, false, [], xo 34 (.fadr 0 (.t 1))⟩
 (.op ⟨8, false, [], xo 35 (.fadr 2 (.t 34))⟩
 (.op ⟨9, true, [], xo 36 (.load false 1 (.t 35))⟩
 (.op ⟨10, false, [], xo 37 (.mov (.t 3))⟩
 (.op ⟨11, true, [], xo 38 (.iadr 4 (.t 36) (.t 37))⟩
 (.op ⟨12, false, [], xo 39 (.fadr 3 (.t 38))⟩
 (.op ⟨13, true, [], xo 40 (.load false 1 (.t 39))⟩
 (.op ⟨14, false, [], xo 41 (.len false (.t 40))⟩
 (.op ⟨15, false, [], xo 42 (.bini .neq (.t 33) (.t 41))⟩
 .nil)))))))))))))))))
 (.cond (.t 42)
 (.seq (.reg [xo 2 (.mov (.b false))])
 .ret)
 .skip))
 (.seq (.reg [xo 4 (.mov (.c (.int .i64 (0))))])
 (.block 2
 (.loop [4] [43, 44, 45, 46, 47, 48, 49, 50, 51, 54, 55, 56, 57, 58, 59, 60, 61, 62, 5, 63, 64, 65, 66, 67, 68, 69, 70, 71, 72, 73, 74, 75, 76, 77, 78, 2, 52, 53, 4]
 (.seq (.seq (.reg [xo 43 (.mov (.t 4)), xo 44 (.fadr 3 (.t 1)), xo 45 (.load false 1 (.t 44)), xo 46 (.mov (.t 3)), xo 47 (.iadr 2 (.t 45) (.t 46)), xo 48 (.fadr 1 (.t 47)), xo 49 (.load false 1 (.t 48)), xo 50 (.len false (.t 49)), xo 51 (.bini .lss (.t 43) (.t 50))])
 (.cond (.t 51)
 .skip
 (.exit 2)))
 (.seq (.block 3
 (.seq (.reg [xo 54 (.fadr 3 (.t 1)), xo 55 (.load false 1 (.t 54)), xo 56 (.mov (.t 3)), xo 57 (.iadr 2 (.t 55) (.t 56)), xo 58 (.fadr 1 (.t 57)), xo 59 (.load false 1 (.t 58)), xo 60 (.mov (.t 4)), xo 61 (.iadr 3 (.t 59) (.t 60)), xo 62 (.load true 3 (.t 61)), xo 5 (.alloc 88 [(.v (.int .u64 (0))), (.v (.slice none 0 0)), (.v (.int .i64 (0)))]), xn (.store 3 (.t 5) (.t 62))])
 (.seq (.regD [] (.op ⟨0, true, [], xo 63 (.load true 3 (.t 5))⟩
 (.op ⟨1, false, [], xo 64 (.call 86 [(.t 63)])⟩
 (.op ⟨2, false, [], xo 65 (.not (.t 64))⟩
 (.op ⟨3, false, [], xo 66 (.mov (.t 65))⟩
 (.op ⟨4, false, [], xg 67 (.fadr 1 (.t 5)) 66 false⟩
 (.op ⟨5, true, [], xg 68 (.load false 1 (.t 67)) 66 false⟩
 (.op ⟨6, false, [], xg 69 (.len false (.t 68)) 66 false⟩
 (.op ⟨7, false, [], xg 70 (.fadr 0 (.t 1)) 66 false⟩
 (.op ⟨8, false, [], xg 71 (.fadr 2 (.t 70)) 66 false⟩
 (.op ⟨9, true, [], xg 72 (.load false 1 (.t 71)) 66 false⟩
 (.op ⟨10, false, [], xg 73 (.mov (.t 3)) 66 false⟩
 (.op ⟨11, true, [], xg 74 (.iadr 4 (.t 72) (.t 73)) 66 false⟩
 (.op ⟨12, false, [], xg 75 (.fadr 2 (.t 74)) 66 false⟩
 (.op ⟨13, true, [], xg 76 (.load false 1 (.t 75)) 66 false⟩
 (.op ⟨14, false, [], xg 77 (.bini .neq (.t 69) (.t 76)) 66 false⟩
 (.op ⟨15, false, [], xo 78 (.pick (.t 66) (.b true) (.t 77))⟩
 .nil)))))))))))))))))
 (.cond (.t 78)
 (.seq (.reg [xo 2 (.mov (.b false))])
 .ret)
 .skip))))
 (.reg [xo 52 (.mov (.t 4)), xo 53 (.bini .add (.t 52) (.c (.int .i64 (1)))), xo 4 (.mov (.t 53))]))))))))
 (.reg [xo 25 (.mov (.t 3)), xo 26 (.bini .add (.t 25) (.c (.int .i64 (1)))), xo 3 (.mov (.t 26))]))))))
 (.seq (.reg [xo 2 (.mov (.b true))])
 .ret))))⟩
theorem t_hydrantref18_version : trFn Tryz.prog 70 [([], (.first 0 (.first 1 (.first 2 (.first 3 (.first 4 (.first 5 (.first 6 (.first 7 (.first 8 (.first 9 (.first 10 (.first 11 (.first 12 (.first 13 (.first 14 (.first 15 .nil))))))))))))))))), ([], (.first 0 (.exec 1 (.first 2 (.first 3 (.first 4 (.first 5 (.first 6 (.first 7 (.first 8 (.first 9 (.first 10 (.first 11 (.first 12 (.first 13 (.first 14 (.first 15 .nil)))))))))))))))))] [[3], [4]] = some f_hydrantref18_version := by kernel_rfl

abbrev n_hydrantref18_gone : Nat := 71
def f_hydrantref18_gone : FnI := ⟨26, [.tmp 4],
 (.seq (.reg [xo 4 (.mov (.b false))])
 (.seq (.seq (.reg [xo 5 (.mov (.c (.int .i64 (0))))])
 (.block 0
 (.loop [5] [6, 7, 8, 9, 12, 13, 14, 15, 16, 17, 18, 19, 20, 21, 22, 23, 24, 25, 4, 10, 11, 5]
 (.seq (.seq (.reg [xo 6 (.mov (.t 5)), xo 7 (.mov (.t 0)), xo 8 (.len false (.t 7)), xo 9 (.bini .lss (.t 6) (.t 8))])
 (.cond (.t 9)
 .skip
 (.exit 0)))
 (.seq (.block 1
 (.seq (.reg [xo 12 (.mov (.t 0)), xo 13 (.mov (.t 5)), xo 14 (.iadr 3 (.t 12) (.t 13)), xo 15 (.fadr 0 (.t 14)), xo 16 (.load false 1 (.t 15)), xo 17 (.mov (.t 1)), xo 18 (.bini .eql (.t 16) (.t 17)), xo 19 (.mov (.t 18)), xg 20 (.mov (.t 0)) 19 true, xg 21 (.mov (.t 5)) 19 true, xg 22 (.iadr 3 (.t 20) (.t 21)) 19 true, xg 23 (.fadr 2 (.t 22)) 19 true, xg 24 (.load false 1 (.t 23)) 19 true, xo 25 (.pick (.t 19) (.t 24) (.b false))])
 (.cond (.t 25)
 (.seq (.reg [xo 4 (.mov (.b true))])
 .ret)
 .skip)))
 (.reg [xo 10 (.mov (.t 5)), xo 11 (.bini .add (.t 10) (.c (.int .i64 (1)))), xo 5 (.mov (.t 11))]))))))
 (.seq (.reg [xo 4 (.mov (.b false))])
 .ret)))⟩
theorem t_hydrantref18_gone : trFn Tryz.prog 71 [] [[5]] = some f_hydrantref18_gone := by kernel_rfl

abbrev n_hydrantref16_Is : Nat := 72
def f_hydrantref16_Is : FnI := ⟨35, [.tmp 2],
 (.seq (.reg [xo 2 (.mov (.b false))])
 (.seq (.seq (.reg [xo 3 (.mov (.c (.int .i64 (0))))])
 (.block 0
 (.loop [3] [4, 5, 6, 7, 10, 11, 12, 13, 14, 15, 16, 17, 18, 19, 20, 21, 22, 23, 24, 25, 26, 27, 28, 29, 30, 31, 32, 33, 34, 2, 8, 9, 3]
 (.seq (.seq (.reg [xo 4 (.mov (.t 3)), xo 5 (.mov (.t 0)), xo 6 (.len false (.t 5)), xo 7 (.bini .lss (.t 4) (.t 6))])
 (.cond (.t 7)
 .skip
 (.exit 0)))
 (.seq (.block 1
 (.seq (.reg [xo 10 (.mov (.t 0)), xo 11 (.mov (.t 3)), xo 12 (.iadr 3 (.t 10) (.t 11)), xo 13 (.fadr 0 (.t 12)), xo 14 (.load false 1 (.t 13)), xo 15 (.bini .lss (.t 14) (.c (.int .i64 (0)))), xo 16 (.mov (.t 15)), xg 17 (.mov (.t 0)) 16 false, xg 18 (.mov (.t 3)) 16 false, xg 19 (.iadr 3 (.t 17) (.t 18)) 16 false, xg 20 (.fadr 1 (.t 19)) 16 false, xg 21 (.load false 1 (.t 20)) 16 false, xg 22 (.bini .lss (.t 21) (.c (.int .i64 (0)))) 16 false, xo 23 (.pick (.t 16) (.b true) (.t 22)), xo 24 (.mov (.t 23)), xg 25 (.mov (.t 0)) 24 false, xg 26 (.mov (.t 0)) 24 false, xg 27 (.mov (.t 3)) 24 false, xg 28 (.iadr 3 (.t 26) (.t 27)) 24 false, xg 29 (.fadr 0 (.t 28)) 24 false, xg 30 (.load false 1 (.t 29)) 24 false, xg 31 (.call 87 [(.t 25), (.t 30)]) 24 false, xg 32 (.mov (.t 3)) 24 false, xg 33 (.bini .neq (.t 31) (.t 32)) 24 false, xo 34 (.pick (.t 24) (.b true) (.t 33))])
 (.cond (.t 34)
 (.seq (.reg [xo 2 (.mov (.b false))])
 .ret)
 .skip)))
 (.reg [xo 8 (.mov (.t 3)), xo 9 (.bini .add (.t 8) (.c (.int .i64 (1)))), xo 3 (.mov (.t 9))]))))))
 (.seq (.reg [xo 2 (.mov (.b true))])
 .ret)))⟩
theorem t_hydrantref16_Is : trFn Tryz.prog 72 [] [[3]] = some f_hydrantref16_Is := by kernel_rfl

abbrev n_slots_Fresh : Nat := 73
def f_slots_Fresh : FnI := ⟨40, [.cell 2 3 true, .tmp 3],
 (.seq (.reg [xo 2 (.alloc 88 [(.v (.int .u64 (0))), (.v (.slice none 0 0)), (.v (.int .i64 (0)))]), xo 3 (.mov (.c (.int .i64 (0))))])
 (.seq (.seq (.reg [xo 6 (.mov (.t 0)), xo 7 (.bini .lss (.t 6) (.c (.int .i64 (1)))), xo 8 (.mov (.t 7)), xg 9 (.mov (.t 0)) 8 false, xg 10 (.bini .gtr (.t 9) (.c (.int .i64 (4)))) 8 false, xo 11 (.pick (.t 8) (.b true) (.t 10))])
 (.cond (.t 11)
 (.seq (.reg [xo 12 (.build [(.v (.int .u64 (0))), (.v (.slice none 0 0)), (.v (.int .i64 (0)))] []), xn (.store 3 (.t 2) (.t 12)), xo 3 (.mov (.c (.int .i64 (1))))])
 .ret)
 .skip))
 (.seq (.reg [xo 13 (.mov (.t 0)), xo 14 (.msl 3 1 8 [(.int .i64 (0))] (.t 13) (.t 13)), xo 15 (.build [(.v (.int .u64 (0))), (.v (.slice none 0 0)), (.v (.int .i64 (0)))] [(1, 1, (.t 14))]), xo 4 (.alloc 88 [(.v (.int .u64 (0))), (.v (.slice none 0 0)), (.v (.int .i64 (0)))]), xn (.store 3 (.t 4) (.t 15))])
 (.seq (.seq (.reg [xo 16 (.fadr 1 (.t 4)), xo 17 (.load false 1 (.t 16)), xo 18 (.len false (.t 17)), xo 19 (.mov (.c (.int .i64 (0))))])
 (.block 0
 (.loop [19] [20, 21, 5, 22, 23, 24, 25, 26, 27, 28, 19]
 (.seq (.reg [xo 20 (.bini .lss (.t 19) (.t 18))])
 (.seq (.cond (.t 20)
 .skip
 (.exit 0))
 (.seq (.block 1
 (.seq (.reg [xo 21 (.mov (.t 19)), xo 5 (.mov (.t 21))])
 (.reg [xo 22 (.fadr 1 (.t 4)), xo 23 (.load false 1 (.t 22)), xo 24 (.mov (.t 5)), xo 25 (.mov (.t 5)), xo 26 (.bini .add (.t 25) (.c (.int .i64 (1)))), xo 27 (.iadr 1 (.t 23) (.t 24)), xn (.store 1 (.t 27) (.t 26))])))
 (.reg [xo 28 (.bini .add (.t 19) (.c (.int .i64 (1)))), xo 19 (.mov (.t 28))])))))))
 (.seq (.reg [xo 29 (.fadr 1 (.t 4)), xo 30 (.load false 1 (.t 29)), xo 31 (.mov (.t 0)), xo 32 (.bini .sub (.t 31) (.c (.int .i64 (1)))), xo 33 (.iadr 1 (.t 30) (.t 32)), xn (.store 1 (.t 33) (.c (.int .i64 (-1))))])
 (.seq (.reg [xo 35 (.call 88 [(.c (.int .u32 (0))), (.c (.int .i64 (0)))]), xo 34 (.mov (.t 35)), xo 36 (.ext 0 (.t 34)), xo 37 (.ext 1 (.t 34)), xo 38 (.fadr 0 (.t 4)), xn (.store 1 (.t 38) (.t 36))])
 (.seq (.reg [xo 39 (.load true 3 (.t 4)), xn (.store 3 (.t 2) (.t 39)), xo 3 (.mov (.c (.int .i64 (0))))])
 .ret)))))))⟩
theorem t_slots_Fresh : trFn Tryz.prog 73 [] [[19]] = some f_slots_Fresh := by kernel_rfl

abbrev n_names_low : Nat := 74
def f_names_low : FnI := ⟨9, [.tmp 2],
 (.seq (.reg [xo 2 (.mov (.b false))])
 (.seq (.reg [xo 3 (.mov (.t 0)), xo 4 (.bini .geq (.t 3) (.c (.int .u8 (97)))), xo 5 (.mov (.t 4)), xg 6 (.mov (.t 0)) 5 true, xg 7 (.bini .leq (.t 6) (.c (.int .u8 (122)))) 5 true, xo 8 (.pick (.t 5) (.t 7) (.b false)), xo 2 (.mov (.t 8))])
 .ret))⟩
theorem t_names_low : trFn Tryz.prog 74 [] [] = some f_names_low := by kernel_rfl

abbrev n_names_word : Nat := 75
def f_names_word : FnI := ⟨2, [.cell 0 1 true],
 (.seq (.reg [xo 0 (.alloc 136 [(.v .nilFunc)])])
 (.seq (.reg [xo 1 (.build [(.v .nilFunc)] [(0, 1, (.c (.func (.func 89) #[] #[])))]), xn (.store 1 (.t 0) (.t 1))])
 .ret))⟩
theorem t_names_word : trFn Tryz.prog 75 [] [] = some f_names_word := by kernel_rfl

abbrev n_names_alphabet__all : Nat := 76
def f_names_alphabet__all : FnI := ⟨28, [.tmp 6],
 (.seq (.reg [xo 3 (.box 136 (.t 0)), xo 6 (.mov (.b false))])
 (.seq (.seq (.reg [xo 8 (.mov (.t 1)), xo 9 (.len true (.t 8)), xo 10 (.mov (.c (.int .i64 (0))))])
 (.block 0
 (.loop [10] [11, 12, 7, 13, 14, 15, 16, 17, 18, 19, 20, 21, 22, 23, 24, 25, 26, 6, 27, 10]
 (.seq (.reg [xo 11 (.bini .lss (.t 10) (.t 9))])
 (.seq (.cond (.t 11)
 .skip
 (.exit 0))
 (.seq (.block 1
 (.seq (.reg [xo 12 (.mov (.t 10)), xo 7 (.mov (.t 12))])
 (.seq (.regD [] (.op ⟨0, false, [], xo 13 (.mov (.t 1))⟩
 (.op ⟨1, false, [], xo 14 (.mov (.t 7))⟩
 (.op ⟨2, false, [], xo 15 (.idxs (.t 13) (.t 14))⟩
 (.op ⟨3, false, [], xo 16 (.mov (.t 2))⟩
 (.op ⟨4, false, [], xo 17 (.bini .neq (.t 15) (.t 16))⟩
 (.op ⟨5, false, [], xo 18 (.mov (.t 17))⟩
 (.op ⟨6, false, [], xg 19 (.fadr 0 (.t 3)) 18 true⟩
 (.op ⟨7, true, [], xg 20 (.load false 1 (.t 19)) 18 true⟩
 (.op ⟨8, false, [], xg 21 (.mov (.t 1)) 18 true⟩
 (.op ⟨9, false, [], xg 22 (.mov (.t 7)) 18 true⟩
 (.op ⟨10, false, [], xg 23 (.idxs (.t 21) (.t 22)) 18 true⟩
 (.op ⟨11, false, [], xg 24 (.callv (.t 20) [(.t 23)]) 18 true⟩
 (.op ⟨12, false, [], xg 25 (.not (.t 24)) 18 true⟩
 (.op ⟨13, false, [], xo 26 (.pick (.t 18) (.t 25) (.b false))⟩
 .nil)))))))))))))))
 (.cond (.t 26)
 (.seq (.reg [xo 6 (.mov (.b false))])
 .ret)
 .skip))))
 (.reg [xo 27 (.bini .add (.t 10) (.c (.int .i64 (1)))), xo 10 (.mov (.t 27))])))))))
 (.seq (.reg [xo 6 (.mov (.b true))])
 .ret)))⟩
theorem t_names_alphabet__all : trFn Tryz.prog 76 [([], (.first 0 (.first 1 (.first 2 (.first 3 (.first 4 (.first 5 (.first 6 (.first 7 (.first 8 (.first 9 (.first 10 (.exec 11 (.first 12 (.first 13 .nil)))))))))))))))] [[10]] = some f_names_alphabet__all := by kernel_rfl

abbrev n_slices_IndexFunc___int_int : Nat := 77
def f_slices_IndexFunc___int_int : FnI := ⟨19, [.tmp 4],
 (.seq (.reg [xo 4 (.mov (.c (.int .i64 (0))))])
 (.seq (.seq (.reg [xo 6 (.mov (.t 0)), xo 7 (.len false (.t 6)), xo 8 (.mov (.c (.int .i64 (0))))])
 (.block 0
 (.loop [8] [9, 10, 5, 11, 12, 13, 14, 15, 16, 17, 4, 18, 8]
 (.seq (.reg [xo 9 (.bini .lss (.t 8) (.t 7))])
 (.seq (.cond (.t 9)
 .skip
 (.exit 0))
 (.seq (.block 1
 (.seq (.reg [xo 10 (.mov (.t 8)), xo 5 (.mov (.t 10))])
 (.seq (.reg [xo 11 (.mov (.t 1)), xo 12 (.mov (.t 0)), xo 13 (.mov (.t 5)), xo 14 (.iadr 1 (.t 12) (.t 13)), xo 15 (.load false 1 (.t 14)), xo 16 (.callv (.t 11) [(.t 15)])])
 (.cond (.t 16)
 (.seq (.reg [xo 17 (.mov (.t 5)), xo 4 (.mov (.t 17))])
 .ret)
 .skip))))
 (.reg [xo 18 (.bini .add (.t 8) (.c (.int .i64 (1)))), xo 8 (.mov (.t 18))])))))))
 (.seq (.reg [xo 4 (.mov (.c (.int .i64 (-1))))])
 .ret)))⟩
theorem t_slices_IndexFunc___int_int : trFn Tryz.prog 77 [] [[8]] = some f_slices_IndexFunc___int_int := by kernel_rfl

abbrev n_slices_ContainsFunc___api_Retired_api_Retired : Nat := 78
def f_slices_ContainsFunc___api_Retired_api_Retired : FnI := ⟨9, [.tmp 4],
 (.seq (.reg [xo 4 (.mov (.b false))])
 (.seq (.reg [xo 5 (.mov (.t 0)), xo 6 (.mov (.t 1)), xo 7 (.call 90 [(.t 5), (.t 6)]), xo 8 (.bini .geq (.t 7) (.c (.int .i64 (0)))), xo 4 (.mov (.t 8))])
 .ret))⟩
theorem t_slices_ContainsFunc___api_Retired_api_Retired : trFn Tryz.prog 78 [] [] = some f_slices_ContainsFunc___api_Retired_api_Retired := by kernel_rfl

abbrev n_limbo_has_1 : Nat := 79
theorem k_limbo_has_1 : FnOk Tryz.prog 79 := FnOk.of (by kernel_rfl)
def f_limbo_has_1 : FnI := ⟨8, [.tmp 3],
 (.seq (.reg [xo 2 (.box 101 (.t 0)), xo 3 (.mov (.b false))])
 (.seq (.reg [xo 4 (.fadr 0 (.t 2)), xo 5 (.load false 1 (.t 4)), xo 6 (.load false 1 (.t 1)), xo 7 (.bini .eql (.t 5) (.t 6)), xo 3 (.mov (.t 7))])
 .ret))⟩
theorem t_limbo_has_1 : trFn Tryz.prog 79 [] [] = some f_limbo_has_1 := by kernel_rfl

abbrev n_config_Check : Nat := 80
def f_config_Check : FnI := ⟨35, [.tmp 2, .tmp 3],
 (.seq (.reg [xo 1 (.box 33 (.t 0)), xo 2 (.mov (.c (.int .i64 (0)))), xo 3 (.mov (.c (.int .i64 (0))))])
 (.seq (.reg [xo 9 (.load true 3 (.t 1)), xo 10 (.build [(.v (.slice none 0 0)), (.v (.slice none 0 0)), (.v (.slice none 0 0))] [(0, 3, (.t 9))]), xo 4 (.alloc 154 [(.v (.slice none 0 0)), (.v (.slice none 0 0)), (.v (.slice none 0 0))]), xn (.store 3 (.t 4) (.t 10))])
 (.seq (.seq (.reg [xo 11 (.load true 3 (.t 4)), xo 12 (.mkf (.func 91) [(.t 11)] []), xo 13 (.load true 3 (.t 4)), xo 14 (.mkf (.func 92) [(.t 13)] []), xo 15 (.load true 3 (.t 4)), xo 16 (.mkf (.func 93) [(.t 15)] []), xo 17 (.load true 3 (.t 4)), xo 18 (.mkf (.func 94) [(.t 17)] []), xo 19 (.bsl 155 1 4 [(.v .nilFunc), (.v .nilFunc), (.v .nilFunc), (.v .nilFunc)] [(0, 1, (.t 12)), (1, 1, (.t 14)), (2, 1, (.t 16)), (3, 1, (.t 18))]), xo 20 (.len false (.t 19)), xo 21 (.mov (.c (.int .i64 (0))))])
 (.block 0
 (.loop [21] [22, 23, 24, 6, 26, 27, 25, 28, 29, 7, 8, 30, 31, 32, 33, 2, 3, 34, 21]
 (.seq (.reg [xo 22 (.bini .lss (.t 21) (.t 20))])
 (.seq (.cond (.t 22)
 .skip
 (.exit 0))
 (.seq (.block 1
 (.seq (.reg [xo 23 (.iadr 1 (.t 19) (.t 21)), xo 24 (.load false 1 (.t 23)), xo 6 (.mov (.t 24))])
 (.seq (.reg [xo 26 (.mov (.t 6)), xo 27 (.callv (.t 26) []), xo 25 (.mov (.t 27)), xo 28 (.ext 0 (.t 25)), xo 29 (.ext 1 (.t 25)), xo 7 (.mov (.t 28)), xo 8 (.mov (.t 29))])
 (.seq (.reg [xo 30 (.mov (.t 7)), xo 31 (.bini .neq (.t 30) (.c (.int .i64 (0))))])
 (.cond (.t 31)
 (.seq (.reg [xo 32 (.mov (.t 7)), xo 33 (.mov (.t 8)), xo 2 (.mov (.t 32)), xo 3 (.mov (.t 33))])
 .ret)
 .skip)))))
 (.reg [xo 34 (.bini .add (.t 21) (.c (.int .i64 (1)))), xo 21 (.mov (.t 34))])))))))
 (.seq (.reg [xo 2 (.mov (.c (.int .i64 (0)))), xo 3 (.mov (.c (.int .i64 (0))))])
 .ret))))⟩
theorem t_config_Check : trFn Tryz.prog 80 [] [[21]] = some f_config_Check := by kernel_rfl

abbrev n_snap_Config : Nat := 81
def f_snap_Config : FnI := ⟨69, [.cell 2 3 true],
 (.seq (.reg [xo 1 (.box 54 (.t 0)), xo 2 (.alloc 33 [(.v (.slice none 0 0)), (.v (.slice none 0 0)), (.v (.slice none 0 0))])])
 (.seq (.reg [xo 7 (.fadr 0 (.t 1)), xo 8 (.load false 1 (.t 7)), xo 9 (.fadr 2 (.t 1)), xo 10 (.load false 1 (.t 9)), xo 11 (.build [(.v (.slice none 0 0)), (.v (.slice none 0 0)), (.v (.slice none 0 0))] [(0, 1, (.t 8)), (2, 1, (.t 10))]), xo 3 (.alloc 33 [(.v (.slice none 0 0)), (.v (.slice none 0 0)), (.v (.slice none 0 0))]), xn (.store 3 (.t 3) (.t 11))])
 (.seq (.seq (.reg [xo 12 (.fadr 1 (.t 1)), xo 13 (.load false 1 (.t 12)), xo 14 (.len false (.t 13)), xo 15 (.mov (.c (.int .i64 (0))))])
 (.block 0
 (.loop [15] [16, 17, 18, 5, 19, 20, 21, 22, 23, 6, 24, 25, 26, 27, 28, 29, 30, 31, 32, 33, 34, 35, 36, 37, 38, 39, 40, 41, 42, 43, 44, 45, 46, 47, 48, 49, 50, 51, 52, 53, 54, 55, 56, 57, 58, 59, 60, 61, 62, 63, 64, 65, 66, 67, 15]
 (.seq (.reg [xo 16 (.bini .lss (.t 15) (.t 14))])
 (.seq (.cond (.t 16)
 .skip
 (.exit 0))
 (.seq (.block 1
 (.seq (.reg [xo 17 (.iadr 4 (.t 13) (.t 15)), xo 18 (.load true 4 (.t 17)), xo 5 (.alloc 105 [(.v (.int .i64 (0))), (.v (.string ⟨#[]⟩)), (.v (.string ⟨#[]⟩)), (.v (.int .i64 (0)))]), xn (.store 4 (.t 5) (.t 18))])
 (.seq (.reg [xo 19 (.fadr 1 (.t 5)), xo 20 (.load false 1 (.t 19)), xo 21 (.fadr 2 (.t 5)), xo 22 (.load false 1 (.t 21)), xo 23 (.build [(.v (.string ⟨#[]⟩)), (.v (.string ⟨#[]⟩)), (.v (.string ⟨#[]⟩)), (.v (.string ⟨#[]⟩))] [(1, 1, (.t 20)), (2, 1, (.t 22))]), xo 6 (.alloc 158 [(.v (.string ⟨#[]⟩)), (.v (.string ⟨#[]⟩)), (.v (.string ⟨#[]⟩)), (.v (.string ⟨#[]⟩))]), xn (.store 4 (.t 6) (.t 23))])
 (.seq (.seq (.reg [xo 24 (.fadr 0 (.t 5)), xo 25 (.load false 1 (.t 24)), xo 26 (.bini .geq (.t 25) (.c (.int .i64 (0)))), xo 27 (.mov (.t 26)), xg 28 (.fadr 0 (.t 5)) 27 true, xg 29 (.load false 1 (.t 28)) 27 true, xg 30 (.fadr 0 (.t 1)) 27 true, xg 31 (.load false 1 (.t 30)) 27 true, xg 32 (.len false (.t 31)) 27 true, xg 33 (.bini .lss (.t 29) (.t 32)) 27 true, xo 34 (.pick (.t 27) (.t 33) (.b false))])
 (.cond (.t 34)
 (.reg [xo 35 (.fadr 0 (.t 1)), xo 36 (.load false 1 (.t 35)), xo 37 (.fadr 0 (.t 5)), xo 38 (.load false 1 (.t 37)), xo 39 (.iadr 1 (.t 36) (.t 38)), xo 40 (.load false 1 (.t 39)), xo 41 (.fadr 0 (.t 6)), xn (.store 1 (.t 41) (.t 40))])
 .skip))
 (.seq (.seq (.reg [xo 42 (.fadr 3 (.t 5)), xo 43 (.load false 1 (.t 42)), xo 44 (.bini .geq (.t 43) (.c (.int .i64 (0)))), xo 45 (.mov (.t 44)), xg 46 (.fadr 3 (.t 5)) 45 true, xg 47 (.load false 1 (.t 46)) 45 true, xg 48 (.fadr 2 (.t 1)) 45 true, xg 49 (.load false 1 (.t 48)) 45 true, xg 50 (.len false (.t 49)) 45 true, xg 51 (.bini .lss (.t 47) (.t 50)) 45 true, xo 52 (.pick (.t 45) (.t 51) (.b false))])
 (.cond (.t 52)
 (.reg [xo 53 (.fadr 2 (.t 1)), xo 54 (.load false 1 (.t 53)), xo 55 (.fadr 3 (.t 5)), xo 56 (.load false 1 (.t 55)), xo 57 (.iadr 4 (.t 54) (.t 56)), xo 58 (.fadr 0 (.t 57)), xo 59 (.load false 1 (.t 58)), xo 60 (.fadr 3 (.t 6)), xn (.store 1 (.t 60) (.t 59))])
 .skip))
 (.reg [xo 61 (.fadr 1 (.t 3)), xo 62 (.load false 1 (.t 61)), xo 63 (.load true 4 (.t 6)), xo 64 (.bsl 158 4 1 [(.v (.string ⟨#[]⟩)), (.v (.string ⟨#[]⟩)), (.v (.string ⟨#[]⟩)), (.v (.string ⟨#[]⟩))] [(0, 4, (.t 63))]), xo 65 (.app 158 4 64 (.t 62) (.t 64)), xo 66 (.fadr 1 (.t 3)), xn (.store 1 (.t 66) (.t 65))]))))))
 (.reg [xo 67 (.bini .add (.t 15) (.c (.int .i64 (1)))), xo 15 (.mov (.t 67))])))))))
 (.seq (.reg [xo 68 (.load true 3 (.t 3)), xn (.store 3 (.t 2) (.t 68))])
 .ret))))⟩
theorem t_snap_Config : trFn Tryz.prog 81 [] [[15]] = some f_snap_Config := by kernel_rfl

abbrev n_slots_Free : Nat := 82
def f_slots_Free : FnI := ⟨19, [.cell 2 1 false, .cell 3 1 false],
 (.seq (.reg [xo 1 (.box 88 (.t 0)), xo 2 (.alloc 22 [(.v (.slice none 0 0))]), xo 3 (.alloc 106 [(.v (.int .i64 (0)))])])
 (.seq (.reg [xo 4 (.alloc 22 [(.v (.slice none 0 0))])])
 (.seq (.seq (.reg [xo 6 (.load true 3 (.t 1)), xo 7 (.call 95 [(.t 6)])])
 (.block 0
 (.rfun (.t 7) [8]
 (.reg [xo 5 (.mov (.t 8))])
 (.block 1
 (.seq (.reg [xo 9 (.mov (.t 5))])
 (.block 2
 (.seq (.reg [xo 15 (.bini .eql (.t 9) (.c (.int .i64 (-2)))), xo 14 (.mov (.t 15))])
 (.cond (.t 14)
 (.seq (.reg [xn (.store 1 (.t 2) (.c (.slice none 0 0))), xn (.store 1 (.t 3) (.c (.int .i64 (11))))])
 .ret)
 (.seq (.reg [xo 17 (.bini .eql (.t 9) (.c (.int .i64 (-1)))), xo 16 (.mov (.t 17))])
 (.cond (.t 16)
 .skip
 (.reg [xo 10 (.load false 1 (.t 4)), xo 11 (.mov (.t 5)), xo 12 (.bsl 3 1 1 [(.v (.int .i64 (0)))] [(0, 1, (.t 11))]), xo 13 (.app 3 1 8 (.t 10) (.t 12)), xn (.store 1 (.t 4) (.t 13))])))))))))))
 (.seq (.reg [xo 18 (.load false 1 (.t 4)), xn (.store 1 (.t 2) (.t 18)), xn (.store 1 (.t 3) (.c (.int .i64 (0))))])
 .ret))))⟩
theorem t_slots_Free : trFn Tryz.prog 82 [] [] = some f_slots_Free := by kernel_rfl

abbrev n_slices_IndexFunc___api_End_api_End : Nat := 83
def f_slices_IndexFunc___api_End_api_End : FnI := ⟨19, [.tmp 4],
 (.seq (.reg [xo 4 (.mov (.c (.int .i64 (0))))])
 (.seq (.seq (.reg [xo 6 (.mov (.t 0)), xo 7 (.len false (.t 6)), xo 8 (.mov (.c (.int .i64 (0))))])
 (.block 0
 (.loop [8] [9, 10, 5, 11, 12, 13, 14, 15, 16, 17, 4, 18, 8]
 (.seq (.reg [xo 9 (.bini .lss (.t 8) (.t 7))])
 (.seq (.cond (.t 9)
 .skip
 (.exit 0))
 (.seq (.block 1
 (.seq (.reg [xo 10 (.mov (.t 8)), xo 5 (.mov (.t 10))])
 (.seq (.reg [xo 11 (.mov (.t 1)), xo 12 (.mov (.t 0)), xo 13 (.mov (.t 5)), xo 14 (.iadr 3 (.t 12) (.t 13)), xo 15 (.load true 3 (.t 14)), xo 16 (.callv (.t 11) [(.t 15)])])
 (.cond (.t 16)
 (.seq (.reg [xo 17 (.mov (.t 5)), xo 4 (.mov (.t 17))])
 .ret)
 .skip))))
 (.reg [xo 18 (.bini .add (.t 8) (.c (.int .i64 (1)))), xo 8 (.mov (.t 18))])))))))
 (.seq (.reg [xo 4 (.mov (.c (.int .i64 (-1))))])
 .ret)))⟩
theorem t_slices_IndexFunc___api_End_api_End : trFn Tryz.prog 83 [] [[8]] = some f_slices_IndexFunc___api_End_api_End := by kernel_rfl

abbrev n_hydrantref03_Name : Nat := 84
def f_hydrantref03_Name : FnI := ⟨29, [.tmp 2],
 (.seq (.reg [xo 2 (.mov (.b false))])
 (.seq (.seq (.reg [xo 4 (.mov (.t 0)), xo 5 (.len true (.t 4)), xo 6 (.bini .lss (.t 5) (.c (.int .i64 (1)))), xo 7 (.mov (.t 6)), xg 8 (.mov (.t 0)) 7 false, xg 9 (.len true (.t 8)) 7 false, xg 10 (.bini .gtr (.t 9) (.c (.int .i64 (16)))) 7 false, xo 11 (.pick (.t 7) (.b true) (.t 10)), xo 12 (.mov (.t 11)), xg 13 (.mov (.t 0)) 12 false, xg 14 (.idxs (.t 13) (.c (.int .i64 (0)))) 12 false, xg 15 (.call 96 [(.t 14)]) 12 false, xg 16 (.not (.t 15)) 12 false, xo 17 (.pick (.t 12) (.b true) (.t 16))])
 (.cond (.t 17)
 (.seq (.reg [xo 2 (.mov (.b false))])
 .ret)
 .skip))
 (.seq (.seq (.reg [xo 3 (.mov (.c (.int .i64 (0))))])
 (.block 0
 (.loop [3] [18, 19, 20, 21, 24, 25, 26, 27, 28, 2, 22, 23, 3]
 (.seq (.seq (.reg [xo 18 (.mov (.t 3)), xo 19 (.mov (.t 0)), xo 20 (.len true (.t 19)), xo 21 (.bini .lss (.t 18) (.t 20))])
 (.cond (.t 21)
 .skip
 (.exit 0)))
 (.seq (.block 1
 (.seq (.reg [xo 24 (.mov (.t 0)), xo 25 (.mov (.t 3)), xo 26 (.idxs (.t 24) (.t 25)), xo 27 (.call 97 [(.t 26)]), xo 28 (.not (.t 27))])
 (.cond (.t 28)
 (.seq (.reg [xo 2 (.mov (.b false))])
 .ret)
 .skip)))
 (.reg [xo 22 (.mov (.t 3)), xo 23 (.bini .add (.t 22) (.c (.int .i64 (1)))), xo 3 (.mov (.t 23))]))))))
 (.seq (.reg [xo 2 (.mov (.b true))])
 .ret))))⟩
theorem t_hydrantref03_Name : trFn Tryz.prog 84 [] [[3]] = some f_hydrantref03_Name := by kernel_rfl

abbrev n_hydrantref07_Is : Nat := 85
def f_hydrantref07_Is : FnI := ⟨13, [.tmp 2],
 (.seq (.reg [xo 1 (.box 54 (.t 0)), xo 2 (.mov (.b false))])
 (.seq (.reg [xo 6 (.load true 3 (.t 1)), xo 7 (.call 99 [(.t 6)]), xo 8 (.call 98 [(.t 7)]), xo 5 (.mov (.t 8)), xo 9 (.ext 0 (.t 5)), xo 10 (.ext 1 (.t 5)), xo 3 (.mov (.t 9)), xo 4 (.mov (.t 10))])
 (.seq (.reg [xo 11 (.mov (.t 3)), xo 12 (.bini .eql (.t 11) (.c (.int .i64 (0)))), xo 2 (.mov (.t 12))])
 .ret)))⟩
theorem t_hydrantref07_Is : trFn Tryz.prog 85 [] [] = some f_hydrantref07_Is := by kernel_rfl

abbrev n_hydrantref14_Is : Nat := 86
def f_hydrantref14_Is : FnI := ⟨29, [.tmp 2],
 (.seq (.reg [xo 1 (.box 88 (.t 0)), xo 2 (.mov (.b false))])
 (.seq (.reg [xo 6 (.load true 3 (.t 1)), xo 7 (.call 100 [(.t 6)]), xo 5 (.mov (.t 7)), xo 8 (.ext 0 (.t 5)), xo 9 (.ext 1 (.t 5)), xo 3 (.mov (.t 8)), xo 4 (.mov (.t 9))])
 (.seq (.reg [xo 10 (.mov (.t 4)), xo 11 (.bini .eql (.t 10) (.c (.int .i64 (0)))), xo 12 (.mov (.t 11)), xg 13 (.fadr 1 (.t 1)) 12 true, xg 14 (.load false 1 (.t 13)) 12 true, xg 15 (.len false (.t 14)) 12 true, xg 16 (.bini .geq (.t 15) (.c (.int .i64 (1)))) 12 true, xo 17 (.pick (.t 12) (.t 16) (.b false)), xo 18 (.mov (.t 17)), xg 19 (.fadr 1 (.t 1)) 18 true, xg 20 (.load false 1 (.t 19)) 18 true, xg 21 (.len false (.t 20)) 18 true, xg 22 (.bini .leq (.t 21) (.c (.int .i64 (4)))) 18 true, xo 23 (.pick (.t 18) (.t 22) (.b false)), xo 24 (.mov (.t 23)), xg 25 (.fadr 2 (.t 1)) 24 true, xg 26 (.load false 1 (.t 25)) 24 true, xg 27 (.bini .geq (.t 26) (.c (.int .i64 (0)))) 24 true, xo 28 (.pick (.t 24) (.t 27) (.b false)), xo 2 (.mov (.t 28))])
 .ret)))⟩
theorem t_hydrantref14_Is : trFn Tryz.prog 86 [] [] = some f_hydrantref14_Is := by kernel_rfl

abbrev n_hydrantref16_place : Nat := 87
def f_hydrantref16_place : FnI := ⟨20, [.tmp 4],
 (.seq (.reg [xo 4 (.mov (.c (.int .i64 (0))))])
 (.seq (.seq (.reg [xo 5 (.mov (.c (.int .i64 (0))))])
 (.block 0
 (.loop [5] [6, 7, 8, 9, 12, 13, 14, 15, 16, 17, 18, 19, 4, 10, 11, 5]
 (.seq (.seq (.reg [xo 6 (.mov (.t 5)), xo 7 (.mov (.t 0)), xo 8 (.len false (.t 7)), xo 9 (.bini .lss (.t 6) (.t 8))])
 (.cond (.t 9)
 .skip
 (.exit 0)))
 (.seq (.block 1
 (.seq (.reg [xo 12 (.mov (.t 0)), xo 13 (.mov (.t 5)), xo 14 (.iadr 3 (.t 12) (.t 13)), xo 15 (.fadr 0 (.t 14)), xo 16 (.load false 1 (.t 15)), xo 17 (.mov (.t 1)), xo 18 (.bini .eql (.t 16) (.t 17))])
 (.cond (.t 18)
 (.seq (.reg [xo 19 (.mov (.t 5)), xo 4 (.mov (.t 19))])
 .ret)
 .skip)))
 (.reg [xo 10 (.mov (.t 5)), xo 11 (.bini .add (.t 10) (.c (.int .i64 (1)))), xo 5 (.mov (.t 11))]))))))
 (.seq (.reg [xo 4 (.mov (.c (.int .i64 (-1))))])
 .ret)))⟩
theorem t_hydrantref16_place : trFn Tryz.prog 87 [] [[5]] = some f_hydrantref16_place := by kernel_rfl

abbrev n_tag_Make : Nat := 88
def f_tag_Make : FnI := ⟨19, [.tmp 4, .tmp 5],
 (.seq (.reg [xo 4 (.mov (.c (.int .u64 (0)))), xo 5 (.mov (.c (.int .i64 (0))))])
 (.seq (.seq (.reg [xo 6 (.mov (.t 1)), xo 7 (.bini .lss (.t 6) (.c (.int .i64 (-1)))), xo 8 (.mov (.t 7)), xg 9 (.mov (.t 1)) 8 false, xg 10 (.bini .gtr (.t 9) (.c (.int .i64 (2147483646)))) 8 false, xo 11 (.pick (.t 8) (.b true) (.t 10))])
 (.cond (.t 11)
 (.seq (.reg [xo 4 (.mov (.c (.int .u64 (0)))), xo 5 (.mov (.c (.int .i64 (1))))])
 .ret)
 .skip))
 (.seq (.reg [xo 12 (.mov (.t 0)), xo 13 (.conv .u64 (.t 12)), xo 14 (.bini .shl (.t 13) (.c (.int .u64 (32)))), xo 15 (.mov (.t 1)), xo 16 (.bini .sub (.t 15) (.c (.int .i64 (-1)))), xo 17 (.conv .u64 (.t 16)), xo 18 (.bini .or (.t 14) (.t 17)), xo 4 (.mov (.t 18)), xo 5 (.mov (.c (.int .i64 (0))))])
 .ret)))⟩
theorem t_tag_Make : trFn Tryz.prog 88 [] [] = some f_tag_Make := by kernel_rfl

abbrev n_names_word_1 : Nat := 89
theorem k_names_word_1 : FnOk Tryz.prog 89 := FnOk.of (by kernel_rfl)
def f_names_word_1 : FnI := ⟨17, [.tmp 2],
 (.seq (.reg [xo 2 (.mov (.b false))])
 (.seq (.reg [xo 3 (.mov (.t 0)), xo 4 (.call 74 [(.t 3)]), xo 5 (.mov (.t 4)), xg 6 (.mov (.t 0)) 5 false, xg 7 (.bini .geq (.t 6) (.c (.int .u8 (48)))) 5 false, xg 8 (.mov (.t 7)) 5 false, xg 9 (.mov (.t 0)) 8 true, xg 10 (.bini .leq (.t 9) (.c (.int .u8 (57)))) 8 true, xg 11 (.pick (.t 8) (.t 10) (.b false)) 5 false, xo 12 (.pick (.t 5) (.b true) (.t 11)), xo 13 (.mov (.t 12)), xg 14 (.mov (.t 0)) 13 false, xg 15 (.bini .eql (.t 14) (.c (.int .u8 (45)))) 13 false, xo 16 (.pick (.t 13) (.b true) (.t 15)), xo 2 (.mov (.t 16))])
 .ret))⟩
theorem t_names_word_1 : trFn Tryz.prog 89 [] [] = some f_names_word_1 := by kernel_rfl

abbrev n_slices_IndexFunc___api_Retired_api_Retired : Nat := 90
def f_slices_IndexFunc___api_Retired_api_Retired : FnI := ⟨19, [.tmp 4],
 (.seq (.reg [xo 4 (.mov (.c (.int .i64 (0))))])
 (.seq (.seq (.reg [xo 6 (.mov (.t 0)), xo 7 (.len false (.t 6)), xo 8 (.mov (.c (.int .i64 (0))))])
 (.block 0
 (.loop [8] [9, 10, 5, 11, 12, 13, 14, 15, 16, 17, 4, 18, 8]
 (.seq (.reg [xo 9 (.bini .lss (.t 8) (.t 7))])
 (.seq (.cond (.t 9)
 .skip
 (.exit 0))
 (.seq (.block 1
 (.seq (.reg [xo 10 (.mov (.t 8)), xo 5 (.mov (.t 10))])
 (.seq (.reg [xo 11 (.mov (.t 1)), xo 12 (.mov (.t 0)), xo 13 (.mov (.t 5)), xo 14 (.iadr 3 (.t 12) (.t 13)), xo 15 (.load true 3 (.t 14)), xo 16 (.callv (.t 11) [(.t 15)])])
 (.cond (.t 16)
 (.seq (.reg [xo 17 (.mov (.t 5)), xo 4 (.mov (.t 17))])
 .ret)
 .skip))))
 (.reg [xo 18 (.bini .add (.t 8) (.c (.int .i64 (1)))), xo 8 (.mov (.t 18))])))))))
 (.seq (.reg [xo 4 (.mov (.c (.int .i64 (-1))))])
 .ret)))⟩
theorem t_slices_IndexFunc___api_Retired_api_Retired : trFn Tryz.prog 90 [] [[8]] = some f_slices_IndexFunc___api_Retired_api_Retired := by kernel_rfl

abbrev n_config_checker__size : Nat := 91
theorem k_config_checker__size : FnOk Tryz.prog 91 := FnOk.of (by kernel_rfl)
def f_config_checker__size : FnI := ⟨26, [.tmp 2, .tmp 3],
 (.seq (.reg [xo 1 (.box 154 (.t 0)), xo 2 (.mov (.c (.int .i64 (0)))), xo 3 (.mov (.c (.int .i64 (0))))])
 (.seq (.seq (.reg [xo 4 (.fadr 0 (.t 1)), xo 5 (.fadr 0 (.t 4)), xo 6 (.load false 1 (.t 5)), xo 7 (.len false (.t 6)), xo 8 (.call 101 [(.t 7), (.c (.int .i64 (1))), (.c (.int .i64 (4)))]), xo 9 (.not (.t 8)), xo 10 (.mov (.t 9)), xg 11 (.fadr 0 (.t 1)) 10 false, xg 12 (.fadr 1 (.t 11)) 10 false, xg 13 (.load false 1 (.t 12)) 10 false, xg 14 (.len false (.t 13)) 10 false, xg 15 (.call 101 [(.t 14), (.c (.int .i64 (1))), (.c (.int .i64 (8)))]) 10 false, xg 16 (.not (.t 15)) 10 false, xo 17 (.pick (.t 10) (.b true) (.t 16)), xo 18 (.mov (.t 17)), xg 19 (.fadr 0 (.t 1)) 18 false, xg 20 (.fadr 2 (.t 19)) 18 false, xg 21 (.load false 1 (.t 20)) 18 false, xg 22 (.len false (.t 21)) 18 false, xg 23 (.call 101 [(.t 22), (.c (.int .i64 (1))), (.c (.int .i64 (4)))]) 18 false, xg 24 (.not (.t 23)) 18 false, xo 25 (.pick (.t 18) (.b true) (.t 24))])
 (.cond (.t 25)
 (.seq (.reg [xo 2 (.mov (.c (.int .i64 (6)))), xo 3 (.mov (.c (.int .i64 (0))))])
 .ret)
 .skip))
 (.seq (.reg [xo 2 (.mov (.c (.int .i64 (0)))), xo 3 (.mov (.c (.int .i64 (0))))])
 .ret)))⟩
theorem t_config_checker__size : trFn Tryz.prog 91 [] [] = some f_config_checker__size := by kernel_rfl

abbrev n_config_checker__listens : Nat := 92
theorem k_config_checker__listens : FnOk Tryz.prog 92 := FnOk.of (by kernel_rfl)
def f_config_checker__listens : FnI := ⟨30, [.tmp 2, .tmp 3],
 (.seq (.reg [xo 1 (.box 154 (.t 0)), xo 2 (.mov (.c (.int .i64 (0)))), xo 3 (.mov (.c (.int .i64 (0))))])
 (.seq (.seq (.reg [xo 6 (.fadr 0 (.t 1)), xo 7 (.fadr 0 (.t 6)), xo 8 (.load false 1 (.t 7)), xo 9 (.len false (.t 8)), xo 10 (.mov (.c (.int .i64 (0))))])
 (.block 0
 (.loop [10] [11, 12, 13, 14, 4, 5, 16, 17, 18, 15, 19, 2, 3, 21, 22, 23, 24, 25, 26, 27, 20, 28, 29, 10]
 (.seq (.reg [xo 11 (.bini .lss (.t 10) (.t 9))])
 (.seq (.cond (.t 11)
 .skip
 (.exit 0))
 (.seq (.block 1
 (.seq (.reg [xo 12 (.mov (.t 10)), xo 13 (.iadr 1 (.t 8) (.t 10)), xo 14 (.load false 1 (.t 13)), xo 4 (.mov (.t 12)), xo 5 (.mov (.t 14))])
 (.block 2
 (.seq (.reg [xo 16 (.mov (.t 5)), xo 17 (.call 56 [(.t 16)]), xo 18 (.not (.t 17)), xo 15 (.mov (.t 18))])
 (.cond (.t 15)
 (.seq (.reg [xo 19 (.mov (.t 4)), xo 2 (.mov (.c (.int .i64 (3)))), xo 3 (.mov (.t 19))])
 .ret)
 (.seq (.reg [xo 21 (.fadr 0 (.t 1)), xo 22 (.fadr 0 (.t 21)), xo 23 (.load false 1 (.t 22)), xo 24 (.mov (.t 4)), xo 25 (.slc 1 (.t 23) none (some (.t 24)) none), xo 26 (.mov (.t 5)), xo 27 (.call 102 [(.t 25), (.t 26)]), xo 20 (.mov (.t 27))])
 (.cond (.t 20)
 (.seq (.reg [xo 28 (.mov (.t 4)), xo 2 (.mov (.c (.int .i64 (4)))), xo 3 (.mov (.t 28))])
 .ret)
 .skip)))))))
 (.reg [xo 29 (.bini .add (.t 10) (.c (.int .i64 (1)))), xo 10 (.mov (.t 29))])))))))
 (.seq (.reg [xo 2 (.mov (.c (.int .i64 (0)))), xo 3 (.mov (.c (.int .i64 (0))))])
 .ret)))⟩
theorem t_config_checker__listens : trFn Tryz.prog 92 [] [[10]] = some f_config_checker__listens := by kernel_rfl

abbrev n_config_checker__clusters : Nat := 93
theorem k_config_checker__clusters : FnOk Tryz.prog 93 := FnOk.of (by kernel_rfl)
def f_config_checker__clusters : FnI := ⟨55, [.tmp 2, .tmp 3],
 (.seq (.reg [xo 1 (.box 154 (.t 0)), xo 2 (.mov (.c (.int .i64 (0)))), xo 3 (.mov (.c (.int .i64 (0))))])
 (.seq (.seq (.reg [xo 6 (.fadr 0 (.t 1)), xo 7 (.fadr 2 (.t 6)), xo 8 (.load false 1 (.t 7)), xo 9 (.len false (.t 8)), xo 10 (.mov (.c (.int .i64 (0))))])
 (.block 0
 (.loop [10] [11, 12, 13, 14, 5, 4, 16, 17, 18, 19, 15, 20, 2, 3, 22, 23, 24, 25, 26, 27, 28, 29, 21, 30, 32, 33, 34, 35, 36, 37, 38, 39, 31, 40, 42, 43, 44, 45, 41, 46, 48, 49, 50, 51, 52, 47, 53, 54, 10]
 (.seq (.reg [xo 11 (.bini .lss (.t 10) (.t 9))])
 (.seq (.cond (.t 11)
 .skip
 (.exit 0))
 (.seq (.block 1
 (.seq (.reg [xo 12 (.mov (.t 10)), xo 13 (.iadr 4 (.t 8) (.t 10)), xo 14 (.load true 4 (.t 13)), xo 5 (.alloc 85 [(.v (.string ⟨#[]⟩)), (.v (.int .i64 (0))), (.v (.int .i64 (0))), (.v (.slice none 0 0))]), xo 4 (.mov (.t 12)), xn (.store 4 (.t 5) (.t 14))])
 (.block 2
 (.seq (.reg [xo 16 (.fadr 0 (.t 5)), xo 17 (.load false 1 (.t 16)), xo 18 (.call 56 [(.t 17)]), xo 19 (.not (.t 18)), xo 15 (.mov (.t 19))])
 (.cond (.t 15)
 (.seq (.reg [xo 20 (.mov (.t 4)), xo 2 (.mov (.c (.int .i64 (3)))), xo 3 (.mov (.t 20))])
 .ret)
 (.seq (.regD [] (.op ⟨0, false, [], xo 22 (.fadr 0 (.t 1))⟩
 (.op ⟨1, false, [], xo 23 (.fadr 2 (.t 22))⟩
 (.op ⟨2, true, [], xo 24 (.load false 1 (.t 23))⟩
 (.op ⟨3, false, [], xo 25 (.mov (.t 4))⟩
 (.op ⟨4, false, [], xo 26 (.slc 4 (.t 24) none (some (.t 25)) none)⟩
 (.op ⟨5, false, [], xo 27 (.fadr 0 (.t 5))⟩
 (.op ⟨6, true, [], xo 28 (.load false 1 (.t 27))⟩
 (.op ⟨7, false, [], xo 29 (.call 103 [(.t 26), (.t 28)])⟩
 (.op ⟨8, false, [], xo 21 (.mov (.t 29))⟩
 .nil))))))))))
 (.cond (.t 21)
 (.seq (.reg [xo 30 (.mov (.t 4)), xo 2 (.mov (.c (.int .i64 (4)))), xo 3 (.mov (.t 30))])
 .ret)
 (.seq (.reg [xo 32 (.fadr 1 (.t 5)), xo 33 (.load false 1 (.t 32)), xo 34 (.bini .neq (.t 33) (.c (.int .i64 (1)))), xo 35 (.mov (.t 34)), xg 36 (.fadr 1 (.t 5)) 35 true, xg 37 (.load false 1 (.t 36)) 35 true, xg 38 (.bini .neq (.t 37) (.c (.int .i64 (2)))) 35 true, xo 39 (.pick (.t 35) (.t 38) (.b false)), xo 31 (.mov (.t 39))])
 (.cond (.t 31)
 (.seq (.reg [xo 40 (.mov (.t 4)), xo 2 (.mov (.c (.int .i64 (9)))), xo 3 (.mov (.t 40))])
 .ret)
 (.seq (.reg [xo 42 (.fadr 2 (.t 5)), xo 43 (.load false 1 (.t 42)), xo 44 (.call 101 [(.t 43), (.c (.int .i64 (1))), (.c (.int .i64 (4)))]), xo 45 (.not (.t 44)), xo 41 (.mov (.t 45))])
 (.cond (.t 41)
 (.seq (.reg [xo 46 (.mov (.t 4)), xo 2 (.mov (.c (.int .i64 (10)))), xo 3 (.mov (.t 46))])
 .ret)
 (.seq (.reg [xo 48 (.fadr 3 (.t 5)), xo 49 (.load false 1 (.t 48)), xo 50 (.len false (.t 49)), xo 51 (.call 101 [(.t 50), (.c (.int .i64 (1))), (.c (.int .i64 (4)))]), xo 52 (.not (.t 51)), xo 47 (.mov (.t 52))])
 (.cond (.t 47)
 (.seq (.reg [xo 53 (.mov (.t 4)), xo 2 (.mov (.c (.int .i64 (6)))), xo 3 (.mov (.t 53))])
 .ret)
 .skip)))))))))))))
 (.reg [xo 54 (.bini .add (.t 10) (.c (.int .i64 (1)))), xo 10 (.mov (.t 54))])))))))
 (.seq (.reg [xo 2 (.mov (.c (.int .i64 (0)))), xo 3 (.mov (.c (.int .i64 (0))))])
 .ret)))⟩
theorem t_config_checker__clusters : trFn Tryz.prog 93 [([], (.first 0 (.first 1 (.first 2 (.first 3 (.first 4 (.first 5 (.first 6 (.exec 7 (.first 8 .nil))))))))))] [[10]] = some f_config_checker__clusters := by kernel_rfl

abbrev n_config_checker__routes : Nat := 94
theorem k_config_checker__routes : FnOk Tryz.prog 94 := FnOk.of (by kernel_rfl)
def f_config_checker__routes : FnI := ⟨65, [.tmp 2, .tmp 3],
 (.seq (.reg [xo 1 (.box 154 (.t 0)), xo 2 (.mov (.c (.int .i64 (0)))), xo 3 (.mov (.c (.int .i64 (0))))])
 (.seq (.seq (.reg [xo 8 (.fadr 0 (.t 1)), xo 9 (.fadr 1 (.t 8)), xo 10 (.load false 1 (.t 9)), xo 11 (.len false (.t 10)), xo 12 (.mov (.c (.int .i64 (0))))])
 (.block 0
 (.loop [12] [13, 14, 15, 16, 5, 4, 18, 19, 20, 21, 22, 23, 24, 17, 25, 2, 3, 27, 28, 29, 30, 26, 31, 33, 34, 35, 36, 32, 37, 39, 40, 41, 42, 43, 44, 45, 38, 46, 47, 48, 49, 50, 51, 52, 53, 54, 55, 56, 57, 7, 58, 59, 60, 61, 62, 63, 64, 12]
 (.seq (.reg [xo 13 (.bini .lss (.t 12) (.t 11))])
 (.seq (.cond (.t 13)
 .skip
 (.exit 0))
 (.seq (.block 1
 (.seq (.reg [xo 14 (.mov (.t 12)), xo 15 (.iadr 4 (.t 10) (.t 12)), xo 16 (.load true 4 (.t 15)), xo 5 (.alloc 158 [(.v (.string ⟨#[]⟩)), (.v (.string ⟨#[]⟩)), (.v (.string ⟨#[]⟩)), (.v (.string ⟨#[]⟩))]), xo 4 (.mov (.t 14)), xn (.store 4 (.t 5) (.t 16))])
 (.seq (.block 2
 (.seq (.reg [xo 18 (.fadr 0 (.t 1)), xo 19 (.fadr 0 (.t 18)), xo 20 (.load false 1 (.t 19)), xo 21 (.fadr 0 (.t 5)), xo 22 (.load false 1 (.t 21)), xo 23 (.call 102 [(.t 20), (.t 22)]), xo 24 (.not (.t 23)), xo 17 (.mov (.t 24))])
 (.cond (.t 17)
 (.seq (.reg [xo 25 (.mov (.t 4)), xo 2 (.mov (.c (.int .i64 (5)))), xo 3 (.mov (.t 25))])
 .ret)
 (.seq (.reg [xo 27 (.fadr 1 (.t 5)), xo 28 (.load false 1 (.t 27)), xo 29 (.call 104 [(.t 28)]), xo 30 (.not (.t 29)), xo 26 (.mov (.t 30))])
 (.cond (.t 26)
 (.seq (.reg [xo 31 (.mov (.t 4)), xo 2 (.mov (.c (.int .i64 (7)))), xo 3 (.mov (.t 31))])
 .ret)
 (.seq (.reg [xo 33 (.fadr 2 (.t 5)), xo 34 (.load false 1 (.t 33)), xo 35 (.call 105 [(.t 34)]), xo 36 (.not (.t 35)), xo 32 (.mov (.t 36))])
 (.cond (.t 32)
 (.seq (.reg [xo 37 (.mov (.t 4)), xo 2 (.mov (.c (.int .i64 (8)))), xo 3 (.mov (.t 37))])
 .ret)
 (.seq (.reg [xo 39 (.fadr 0 (.t 1)), xo 40 (.fadr 2 (.t 39)), xo 41 (.load false 1 (.t 40)), xo 42 (.fadr 3 (.t 5)), xo 43 (.load false 1 (.t 42)), xo 44 (.call 103 [(.t 41), (.t 43)]), xo 45 (.not (.t 44)), xo 38 (.mov (.t 45))])
 (.cond (.t 38)
 (.seq (.reg [xo 46 (.mov (.t 4)), xo 2 (.mov (.c (.int .i64 (5)))), xo 3 (.mov (.t 46))])
 .ret)
 .skip)))))))))
 (.seq (.reg [xo 47 (.fadr 3 (.t 5)), xn (.store 1 (.t 47) (.c (.string ⟨#[]⟩)))])
 (.seq (.reg [xo 48 (.fadr 0 (.t 1)), xo 49 (.fadr 1 (.t 48)), xo 50 (.load false 1 (.t 49)), xo 51 (.mov (.t 4)), xo 52 (.slc 4 (.t 50) none (some (.t 51)) none), xo 53 (.len false (.t 52)), xo 54 (.mov (.c (.int .i64 (0))))])
 (.block 3
 (.loop [54] [55, 56, 57, 7, 58, 59, 60, 61, 62, 2, 3, 63, 54]
 (.seq (.reg [xo 55 (.bini .lss (.t 54) (.t 53))])
 (.seq (.cond (.t 55)
 .skip
 (.exit 3))
 (.seq (.block 4
 (.seq (.reg [xo 56 (.iadr 4 (.t 52) (.t 54)), xo 57 (.load true 4 (.t 56)), xo 7 (.alloc 158 [(.v (.string ⟨#[]⟩)), (.v (.string ⟨#[]⟩)), (.v (.string ⟨#[]⟩)), (.v (.string ⟨#[]⟩))]), xn (.store 4 (.t 7) (.t 57))])
 (.seq (.reg [xo 58 (.fadr 3 (.t 7)), xn (.store 1 (.t 58) (.c (.string ⟨#[]⟩)))])
 (.seq (.reg [xo 59 (.load true 4 (.t 7)), xo 60 (.load true 4 (.t 5)), xo 61 (.binst false [1, 1, 1, 1] (.t 59) (.t 60))])
 (.cond (.t 61)
 (.seq (.reg [xo 62 (.mov (.t 4)), xo 2 (.mov (.c (.int .i64 (4)))), xo 3 (.mov (.t 62))])
 .ret)
 .skip)))))
 (.reg [xo 63 (.bini .add (.t 54) (.c (.int .i64 (1)))), xo 54 (.mov (.t 63))])))))))))))
 (.reg [xo 64 (.bini .add (.t 12) (.c (.int .i64 (1)))), xo 12 (.mov (.t 64))])))))))
 (.seq (.reg [xo 2 (.mov (.c (.int .i64 (0)))), xo 3 (.mov (.c (.int .i64 (0))))])
 .ret)))⟩
theorem t_config_checker__routes : trFn Tryz.prog 94 [] [[12], [54]] = some f_config_checker__routes := by kernel_rfl

abbrev n_slots_chain : Nat := 95
def f_slots_chain : FnI := ⟨4, [.tmp 2],
 (.seq (.reg [xo 1 (.box 88 (.t 0)), xo 2 (.mov (.c .nilFunc))])
 (.seq (.reg [xo 3 (.mkf (.func 106) [] [(.t 1)]), xo 2 (.mov (.t 3))])
 .ret))⟩
theorem t_slots_chain : trFn Tryz.prog 95 [] [] = some f_slots_chain := by kernel_rfl

abbrev n_hydrantref03_low : Nat := 96
def f_hydrantref03_low : FnI := ⟨9, [.tmp 2],
 (.seq (.reg [xo 2 (.mov (.b false))])
 (.seq (.reg [xo 3 (.mov (.t 0)), xo 4 (.bini .geq (.t 3) (.c (.int .u8 (97)))), xo 5 (.mov (.t 4)), xg 6 (.mov (.t 0)) 5 true, xg 7 (.bini .leq (.t 6) (.c (.int .u8 (122)))) 5 true, xo 8 (.pick (.t 5) (.t 7) (.b false)), xo 2 (.mov (.t 8))])
 .ret))⟩
theorem t_hydrantref03_low : trFn Tryz.prog 96 [] [] = some f_hydrantref03_low := by kernel_rfl

abbrev n_hydrantref03_word : Nat := 97
def f_hydrantref03_word : FnI := ⟨17, [.tmp 2],
 (.seq (.reg [xo 2 (.mov (.b false))])
 (.seq (.reg [xo 3 (.mov (.t 0)), xo 4 (.call 96 [(.t 3)]), xo 5 (.mov (.t 4)), xg 6 (.mov (.t 0)) 5 false, xg 7 (.bini .geq (.t 6) (.c (.int .u8 (48)))) 5 false, xg 8 (.mov (.t 7)) 5 false, xg 9 (.mov (.t 0)) 8 true, xg 10 (.bini .leq (.t 9) (.c (.int .u8 (57)))) 8 true, xg 11 (.pick (.t 8) (.t 10) (.b false)) 5 false, xo 12 (.pick (.t 5) (.b true) (.t 11)), xo 13 (.mov (.t 12)), xg 14 (.mov (.t 0)) 13 false, xg 15 (.bini .eql (.t 14) (.c (.int .u8 (45)))) 13 false, xo 16 (.pick (.t 13) (.b true) (.t 15)), xo 2 (.mov (.t 16))])
 .ret))⟩
theorem t_hydrantref03_word : trFn Tryz.prog 97 [] [] = some f_hydrantref03_word := by kernel_rfl

abbrev n_hydrantref05_Check : Nat := 98
def f_hydrantref05_Check : FnI := ⟨69, [.tmp 2, .tmp 3],
 (.seq (.reg [xo 1 (.box 33 (.t 0)), xo 2 (.mov (.c (.int .i64 (0)))), xo 3 (.mov (.c (.int .i64 (0))))])
 (.seq (.seq (.reg [xo 10 (.fadr 0 (.t 1)), xo 11 (.load false 1 (.t 10)), xo 12 (.len false (.t 11)), xo 13 (.bini .lss (.t 12) (.c (.int .i64 (1)))), xo 14 (.mov (.t 13)), xg 15 (.fadr 0 (.t 1)) 14 false, xg 16 (.load false 1 (.t 15)) 14 false, xg 17 (.len false (.t 16)) 14 false, xg 18 (.bini .gtr (.t 17) (.c (.int .i64 (4)))) 14 false, xo 19 (.pick (.t 14) (.b true) (.t 18)), xo 20 (.mov (.t 19)), xg 21 (.fadr 1 (.t 1)) 20 false, xg 22 (.load false 1 (.t 21)) 20 false, xg 23 (.len false (.t 22)) 20 false, xg 24 (.bini .lss (.t 23) (.c (.int .i64 (1)))) 20 false, xo 25 (.pick (.t 20) (.b true) (.t 24)), xo 26 (.mov (.t 25)), xg 27 (.fadr 1 (.t 1)) 26 false, xg 28 (.load false 1 (.t 27)) 26 false, xg 29 (.len false (.t 28)) 26 false, xg 30 (.bini .gtr (.t 29) (.c (.int .i64 (8)))) 26 false, xo 31 (.pick (.t 26) (.b true) (.t 30)), xo 32 (.mov (.t 31)), xg 33 (.fadr 2 (.t 1)) 32 false, xg 34 (.load false 1 (.t 33)) 32 false, xg 35 (.len false (.t 34)) 32 false, xg 36 (.bini .lss (.t 35) (.c (.int .i64 (1)))) 32 false, xo 37 (.pick (.t 32) (.b true) (.t 36)), xo 38 (.mov (.t 37)), xg 39 (.fadr 2 (.t 1)) 38 false, xg 40 (.load false 1 (.t 39)) 38 false, xg 41 (.len false (.t 40)) 38 false, xg 42 (.bini .gtr (.t 41) (.c (.int .i64 (4)))) 38 false, xo 43 (.pick (.t 38) (.b true) (.t 42))])
 (.cond (.t 43)
 (.seq (.reg [xo 2 (.mov (.c (.int .i64 (6)))), xo 3 (.mov (.c (.int .i64 (0))))])
 .ret)
 .skip))
 (.seq (.reg [xo 45 (.load true 3 (.t 1)), xo 46 (.call 108 [(.t 45)]), xo 44 (.mov (.t 46)), xo 47 (.ext 0 (.t 44)), xo 48 (.ext 1 (.t 44)), xo 4 (.mov (.t 47)), xo 5 (.mov (.t 48))])
 (.seq (.seq (.reg [xo 49 (.mov (.t 4)), xo 50 (.bini .neq (.t 49) (.c (.int .i64 (0))))])
 (.cond (.t 50)
 (.seq (.reg [xo 51 (.mov (.t 4)), xo 52 (.mov (.t 5)), xo 2 (.mov (.t 51)), xo 3 (.mov (.t 52))])
 .ret)
 .skip))
 (.seq (.reg [xo 54 (.load true 3 (.t 1)), xo 55 (.call 109 [(.t 54)]), xo 53 (.mov (.t 55)), xo 56 (.ext 0 (.t 53)), xo 57 (.ext 1 (.t 53)), xo 6 (.mov (.t 56)), xo 7 (.mov (.t 57))])
 (.seq (.seq (.reg [xo 58 (.mov (.t 6)), xo 59 (.bini .neq (.t 58) (.c (.int .i64 (0))))])
 (.cond (.t 59)
 (.seq (.reg [xo 60 (.mov (.t 6)), xo 61 (.mov (.t 7)), xo 2 (.mov (.t 60)), xo 3 (.mov (.t 61))])
 .ret)
 .skip))
 (.seq (.reg [xo 63 (.load true 3 (.t 1)), xo 64 (.call 110 [(.t 63)]), xo 62 (.mov (.t 64)), xo 65 (.ext 0 (.t 62)), xo 66 (.ext 1 (.t 62)), xo 8 (.mov (.t 65)), xo 9 (.mov (.t 66))])
 (.seq (.reg [xo 67 (.mov (.t 8)), xo 68 (.mov (.t 9)), xo 2 (.mov (.t 67)), xo 3 (.mov (.t 68))])
 .ret))))))))⟩
theorem t_hydrantref05_Check : trFn Tryz.prog 98 [] [] = some f_hydrantref05_Check := by kernel_rfl

abbrev n_hydrantref07_Config : Nat := 99
def f_hydrantref07_Config : FnI := ⟨73, [.cell 2 3 true],
 (.seq (.reg [xo 1 (.box 54 (.t 0)), xo 2 (.alloc 33 [(.v (.slice none 0 0)), (.v (.slice none 0 0)), (.v (.slice none 0 0))])])
 (.seq (.reg [xo 7 (.fadr 0 (.t 1)), xo 8 (.load false 1 (.t 7)), xo 9 (.fadr 2 (.t 1)), xo 10 (.load false 1 (.t 9)), xo 11 (.build [(.v (.slice none 0 0)), (.v (.slice none 0 0)), (.v (.slice none 0 0))] [(0, 1, (.t 8)), (2, 1, (.t 10))]), xo 3 (.alloc 33 [(.v (.slice none 0 0)), (.v (.slice none 0 0)), (.v (.slice none 0 0))]), xn (.store 3 (.t 3) (.t 11))])
 (.seq (.seq (.reg [xo 4 (.mov (.c (.int .i64 (0))))])
 (.block 0
 (.loop [4] [12, 13, 14, 15, 16, 19, 20, 21, 22, 23, 5, 24, 25, 26, 27, 28, 6, 29, 30, 31, 32, 33, 34, 35, 36, 37, 38, 39, 40, 41, 42, 43, 44, 45, 46, 47, 48, 49, 50, 51, 52, 53, 54, 55, 56, 57, 58, 59, 60, 61, 62, 63, 64, 65, 66, 67, 68, 69, 70, 71, 17, 18, 4]
 (.seq (.seq (.reg [xo 12 (.mov (.t 4)), xo 13 (.fadr 1 (.t 1)), xo 14 (.load false 1 (.t 13)), xo 15 (.len false (.t 14)), xo 16 (.bini .lss (.t 12) (.t 15))])
 (.cond (.t 16)
 .skip
 (.exit 0)))
 (.seq (.block 1
 (.seq (.reg [xo 19 (.fadr 1 (.t 1)), xo 20 (.load false 1 (.t 19)), xo 21 (.mov (.t 4)), xo 22 (.iadr 4 (.t 20) (.t 21)), xo 23 (.load true 4 (.t 22)), xo 5 (.alloc 105 [(.v (.int .i64 (0))), (.v (.string ⟨#[]⟩)), (.v (.string ⟨#[]⟩)), (.v (.int .i64 (0)))]), xn (.store 4 (.t 5) (.t 23))])
 (.seq (.reg [xo 24 (.fadr 1 (.t 5)), xo 25 (.load false 1 (.t 24)), xo 26 (.fadr 2 (.t 5)), xo 27 (.load false 1 (.t 26)), xo 28 (.build [(.v (.string ⟨#[]⟩)), (.v (.string ⟨#[]⟩)), (.v (.string ⟨#[]⟩)), (.v (.string ⟨#[]⟩))] [(1, 1, (.t 25)), (2, 1, (.t 27))]), xo 6 (.alloc 158 [(.v (.string ⟨#[]⟩)), (.v (.string ⟨#[]⟩)), (.v (.string ⟨#[]⟩)), (.v (.string ⟨#[]⟩))]), xn (.store 4 (.t 6) (.t 28))])
 (.seq (.seq (.reg [xo 29 (.fadr 0 (.t 5)), xo 30 (.load false 1 (.t 29)), xo 31 (.bini .geq (.t 30) (.c (.int .i64 (0)))), xo 32 (.mov (.t 31)), xg 33 (.fadr 0 (.t 5)) 32 true, xg 34 (.load false 1 (.t 33)) 32 true, xg 35 (.fadr 0 (.t 1)) 32 true, xg 36 (.load false 1 (.t 35)) 32 true, xg 37 (.len false (.t 36)) 32 true, xg 38 (.bini .lss (.t 34) (.t 37)) 32 true, xo 39 (.pick (.t 32) (.t 38) (.b false))])
 (.cond (.t 39)
 (.reg [xo 40 (.fadr 0 (.t 1)), xo 41 (.load false 1 (.t 40)), xo 42 (.fadr 0 (.t 5)), xo 43 (.load false 1 (.t 42)), xo 44 (.iadr 1 (.t 41) (.t 43)), xo 45 (.load false 1 (.t 44)), xo 46 (.fadr 0 (.t 6)), xn (.store 1 (.t 46) (.t 45))])
 .skip))
 (.seq (.seq (.reg [xo 47 (.fadr 3 (.t 5)), xo 48 (.load false 1 (.t 47)), xo 49 (.bini .geq (.t 48) (.c (.int .i64 (0)))), xo 50 (.mov (.t 49)), xg 51 (.fadr 3 (.t 5)) 50 true, xg 52 (.load false 1 (.t 51)) 50 true, xg 53 (.fadr 2 (.t 1)) 50 true, xg 54 (.load false 1 (.t 53)) 50 true, xg 55 (.len false (.t 54)) 50 true, xg 56 (.bini .lss (.t 52) (.t 55)) 50 true, xo 57 (.pick (.t 50) (.t 56) (.b false))])
 (.cond (.t 57)
 (.reg [xo 58 (.fadr 2 (.t 1)), xo 59 (.load false 1 (.t 58)), xo 60 (.fadr 3 (.t 5)), xo 61 (.load false 1 (.t 60)), xo 62 (.iadr 4 (.t 59) (.t 61)), xo 63 (.fadr 0 (.t 62)), xo 64 (.load false 1 (.t 63)), xo 65 (.fadr 3 (.t 6)), xn (.store 1 (.t 65) (.t 64))])
 .skip))
 (.reg [xo 66 (.fadr 1 (.t 3)), xo 67 (.load false 1 (.t 66)), xo 68 (.load true 4 (.t 6)), xo 69 (.bsl 158 4 1 [(.v (.string ⟨#[]⟩)), (.v (.string ⟨#[]⟩)), (.v (.string ⟨#[]⟩)), (.v (.string ⟨#[]⟩))] [(0, 4, (.t 68))]), xo 70 (.app 158 4 64 (.t 67) (.t 69)), xo 71 (.fadr 1 (.t 3)), xn (.store 1 (.t 71) (.t 70))]))))))
 (.reg [xo 17 (.mov (.t 4)), xo 18 (.bini .add (.t 17) (.c (.int .i64 (1)))), xo 4 (.mov (.t 18))]))))))
 (.seq (.reg [xo 72 (.load true 3 (.t 3)), xn (.store 3 (.t 2) (.t 72))])
 .ret))))⟩
theorem t_hydrantref07_Config : trFn Tryz.prog 99 [] [[4]] = some f_hydrantref07_Config := by kernel_rfl

abbrev n_hydrantref14_Free : Nat := 100
def f_hydrantref14_Free : FnI := ⟨36, [.tmp 2, .tmp 3],
 (.seq (.reg [xo 1 (.box 88 (.t 0)), xo 2 (.mov (.c (.slice none 0 0))), xo 3 (.mov (.c (.int .i64 (0))))])
 (.seq (.reg [xo 6 (.bsl 3 1 0 [] []), xo 4 (.mov (.t 6))])
 (.seq (.seq (.reg [xo 7 (.fadr 0 (.t 1)), xo 8 (.load false 1 (.t 7)), xo 9 (.call 111 [(.t 8)]), xo 5 (.mov (.t 9))])
 (.block 0
 (.loop [4, 5] [10, 11, 17, 18, 19, 20, 21, 22, 23, 24, 25, 26, 27, 28, 29, 30, 2, 3, 31, 32, 33, 34, 4, 12, 13, 14, 15, 16, 5]
 (.seq (.seq (.reg [xo 10 (.mov (.t 5)), xo 11 (.bini .neq (.t 10) (.c (.int .i64 (-1))))])
 (.cond (.t 11)
 .skip
 (.exit 0)))
 (.seq (.block 1
 (.seq (.seq (.reg [xo 17 (.mov (.t 5)), xo 18 (.bini .lss (.t 17) (.c (.int .i64 (0)))), xo 19 (.mov (.t 18)), xg 20 (.mov (.t 5)) 19 false, xg 21 (.fadr 1 (.t 1)) 19 false, xg 22 (.load false 1 (.t 21)) 19 false, xg 23 (.len false (.t 22)) 19 false, xg 24 (.bini .geq (.t 20) (.t 23)) 19 false, xo 25 (.pick (.t 19) (.b true) (.t 24)), xo 26 (.mov (.t 25)), xg 27 (.mov (.t 4)) 26 false, xg 28 (.mov (.t 5)) 26 false, xg 29 (.call 112 [(.t 27), (.t 28)]) 26 false, xo 30 (.pick (.t 26) (.b true) (.t 29))])
 (.cond (.t 30)
 (.seq (.reg [xo 2 (.mov (.c (.slice none 0 0))), xo 3 (.mov (.c (.int .i64 (11))))])
 .ret)
 .skip))
 (.reg [xo 31 (.mov (.t 4)), xo 32 (.mov (.t 5)), xo 33 (.bsl 3 1 1 [(.v (.int .i64 (0)))] [(0, 1, (.t 32))]), xo 34 (.app 3 1 8 (.t 31) (.t 33)), xo 4 (.mov (.t 34))])))
 (.reg [xo 12 (.fadr 1 (.t 1)), xo 13 (.load false 1 (.t 12)), xo 14 (.mov (.t 5)), xo 15 (.iadr 1 (.t 13) (.t 14)), xo 16 (.load false 1 (.t 15)), xo 5 (.mov (.t 16))]))))))
 (.seq (.reg [xo 35 (.mov (.t 4)), xo 2 (.mov (.t 35)), xo 3 (.mov (.c (.int .i64 (0))))])
 .ret))))⟩
theorem t_hydrantref14_Free : trFn Tryz.prog 100 [] [[4, 5]] = some f_hydrantref14_Free := by kernel_rfl

abbrev n_config_within : Nat := 101
def f_config_within : FnI := ⟨15, [.tmp 6],
 (.seq (.reg [xo 6 (.mov (.b false))])
 (.seq (.reg [xo 7 (.mov (.t 0)), xo 8 (.mov (.t 1)), xo 9 (.bini .geq (.t 7) (.t 8)), xo 10 (.mov (.t 9)), xg 11 (.mov (.t 0)) 10 true, xg 12 (.mov (.t 2)) 10 true, xg 13 (.bini .leq (.t 11) (.t 12)) 10 true, xo 14 (.pick (.t 10) (.t 13) (.b false)), xo 6 (.mov (.t 14))])
 .ret))⟩
theorem t_config_within : trFn Tryz.prog 101 [] [] = some f_config_within := by kernel_rfl

abbrev n_slices_Contains___string_string : Nat := 102
def f_slices_Contains___string_string : FnI := ⟨9, [.tmp 4],
 (.seq (.reg [xo 4 (.mov (.b false))])
 (.seq (.reg [xo 5 (.mov (.t 0)), xo 6 (.mov (.t 1)), xo 7 (.call 113 [(.t 5), (.t 6)]), xo 8 (.bini .geq (.t 7) (.c (.int .i64 (0)))), xo 4 (.mov (.t 8))])
 .ret))⟩
theorem t_slices_Contains___string_string : trFn Tryz.prog 102 [] [] = some f_slices_Contains___string_string := by kernel_rfl

abbrev n_config_named : Nat := 103
def f_config_named : FnI := ⟨8, [.tmp 4],
 (.seq (.reg [xo 3 (.box 9 (.t 1)), xo 4 (.mov (.b false))])
 (.seq (.reg [xo 5 (.mov (.t 0)), xo 6 (.mkf (.func 115) [] [(.t 3)]), xo 7 (.call 114 [(.t 5), (.t 6)]), xo 4 (.mov (.t 7))])
 .ret))⟩
theorem t_config_named : trFn Tryz.prog 103 [] [] = some f_config_named := by kernel_rfl

abbrev n_names_Pattern : Nat := 104
def f_names_Pattern : FnI := ⟨19, [.tmp 2],
 (.seq (.reg [xo 2 (.mov (.b false))])
 (.seq (.seq (.reg [xo 6 (.mov (.t 0)), xo 7 (.call 116 [(.t 6), (.c (.string ⟨#[42, 46]⟩))]), xo 5 (.mov (.t 7)), xo 8 (.ext 0 (.t 5)), xo 9 (.ext 1 (.t 5)), xo 3 (.mov (.t 8)), xo 4 (.mov (.t 9))])
 (.seq (.reg [xo 10 (.mov (.t 4))])
 (.cond (.t 10)
 (.seq (.reg [xo 11 (.mov (.t 3)), xo 12 (.call 117 [(.t 11)]), xo 2 (.mov (.t 12))])
 .ret)
 .skip)))
 (.seq (.reg [xo 13 (.mov (.t 0)), xo 14 (.bins .eql (.t 13) (.c (.string ⟨#[42]⟩))), xo 15 (.mov (.t 14)), xg 16 (.mov (.t 0)) 15 false, xg 17 (.call 117 [(.t 16)]) 15 false, xo 18 (.pick (.t 15) (.b true) (.t 17)), xo 2 (.mov (.t 18))])
 .ret)))⟩
theorem t_names_Pattern : trFn Tryz.prog 104 [] [] = some f_names_Pattern := by kernel_rfl

abbrev n_names_Path : Nat := 105
def f_names_Path : FnI := ⟨21, [.tmp 2],
 (.seq (.reg [xo 2 (.mov (.b false))])
 (.seq (.reg [xo 3 (.mov (.t 0)), xo 4 (.len true (.t 3)), xo 5 (.bini .gtr (.t 4) (.c (.int .i64 (0)))), xo 6 (.mov (.t 5)), xg 7 (.mov (.t 0)) 6 true, xg 8 (.len true (.t 7)) 6 true, xg 9 (.bini .leq (.t 8) (.c (.int .i64 (32)))) 6 true, xo 10 (.pick (.t 6) (.t 9) (.b false)), xo 11 (.mov (.t 10)), xg 12 (.mov (.t 0)) 11 true, xg 13 (.idxs (.t 12) (.c (.int .i64 (0)))) 11 true, xg 14 (.bini .eql (.t 13) (.c (.int .u8 (47)))) 11 true, xo 15 (.pick (.t 11) (.t 14) (.b false)), xo 16 (.mov (.t 15)), xg 17 (.call 75 []) 16 true, xg 18 (.mov (.t 0)) 16 true, xg 19 (.call 76 [(.t 17), (.t 18), (.c (.int .u8 (47)))]) 16 true, xo 20 (.pick (.t 16) (.t 19) (.b false)), xo 2 (.mov (.t 20))])
 .ret))⟩
theorem t_names_Path : trFn Tryz.prog 105 [] [] = some f_names_Path := by kernel_rfl

abbrev n_slots_chain_1 : Nat := 106
theorem k_slots_chain_1 : FnOk Tryz.prog 106 := FnOk.of (by kernel_rfl)
def f_slots_chain_1 : FnI := ⟨44, [],
 (.scope
 (.seq (.reg [xo 5 (.fadr 1 (.t 1)), xo 6 (.load false 1 (.t 5)), xo 7 (.len false (.t 6)), xo 8 (.msl 4 1 1 [(.bool false)] (.t 7) (.t 7)), xo 3 (.mov (.t 8))])
 (.seq (.reg [xo 9 (.fadr 0 (.t 1)), xo 10 (.load false 1 (.t 9)), xo 11 (.call 107 [(.t 10)]), xo 4 (.mov (.t 11))])
 (.seq (.label 0)
 (.seq (.block 0
 (.loop [4] [12, 13, 14, 15, 16, 17, 18, 19, 20, 21, 22, 23, 24, 25, 26, 27, 28, 4, 29, 30, 31, 32, 33, 34, 35, 36, 37, 38, 39, 40]
 (.seq (.seq (.reg [xo 12 (.mov (.t 4)), xo 13 (.bini .neq (.t 12) (.c (.int .i64 (-1))))])
 (.cond (.t 13)
 .skip
 (.exit 0)))
 (.block 1
 (.seq (.seq (.reg [xo 14 (.mov (.t 4)), xo 15 (.bini .lss (.t 14) (.c (.int .i64 (0)))), xo 16 (.mov (.t 15)), xg 17 (.mov (.t 4)) 16 false, xg 18 (.fadr 1 (.t 1)) 16 false, xg 19 (.load false 1 (.t 18)) 16 false, xg 20 (.len false (.t 19)) 16 false, xg 21 (.bini .geq (.t 17) (.t 20)) 16 false, xo 22 (.pick (.t 16) (.b true) (.t 21)), xo 23 (.mov (.t 22)), xg 24 (.mov (.t 3)) 23 false, xg 25 (.mov (.t 4)) 23 false, xg 26 (.iadr 1 (.t 24) (.t 25)) 23 false, xg 27 (.load false 1 (.t 26)) 23 false, xo 28 (.pick (.t 23) (.b true) (.t 27))])
 (.cond (.t 28)
 (.seq (.reg [xo 4 (.mov (.c (.int .i64 (-2))))])
 (.exit 0))
 .skip))
 (.seq (.reg [xo 29 (.mov (.t 3)), xo 30 (.mov (.t 4)), xo 31 (.iadr 1 (.t 29) (.t 30)), xn (.store 1 (.t 31) (.b true))])
 (.seq (.seq (.reg [xo 32 (.mov (.t 0)), xo 33 (.mov (.t 4)), xo 34 (.callv (.t 32) [(.t 33)]), xo 35 (.not (.t 34))])
 (.cond (.t 35)
 .ret
 .skip))
 (.reg [xo 36 (.fadr 1 (.t 1)), xo 37 (.load false 1 (.t 36)), xo 38 (.mov (.t 4)), xo 39 (.iadr 1 (.t 37) (.t 38)), xo 40 (.load false 1 (.t 39)), xo 4 (.mov (.t 40))]))))))))
 (.reg [xo 41 (.mov (.t 0)), xo 42 (.mov (.t 4)), xo 43 (.callv (.t 41) [(.t 42)])]))))))⟩
theorem t_slots_chain_1 : trFn Tryz.prog 106 [] [[4]] = some f_slots_chain_1 := by kernel_rfl

abbrev n_tag_Index : Nat := 107
def f_tag_Index : FnI := ⟨7, [.tmp 2],
 (.seq (.reg [xo 2 (.mov (.c (.int .i64 (0))))])
 (.seq (.reg [xo 3 (.mov (.t 0)), xo 4 (.conv .u32 (.t 3)), xo 5 (.conv .i64 (.t 4)), xo 6 (.bini .add (.t 5) (.c (.int .i64 (-1)))), xo 2 (.mov (.t 6))])
 .ret))⟩
theorem t_tag_Index : trFn Tryz.prog 107 [] [] = some f_tag_Index := by kernel_rfl

abbrev n_hydrantref05_listens : Nat := 108
def f_hydrantref05_listens : FnI := ⟨38, [.tmp 2, .tmp 3],
 (.seq (.reg [xo 1 (.box 33 (.t 0)), xo 2 (.mov (.c (.int .i64 (0)))), xo 3 (.mov (.c (.int .i64 (0))))])
 (.seq (.seq (.reg [xo 4 (.mov (.c (.int .i64 (0))))])
 (.block 0
 (.loop [4] [6, 7, 8, 9, 10, 13, 14, 15, 16, 17, 18, 19, 20, 2, 3, 5, 21, 22, 23, 26, 27, 28, 29, 30, 31, 32, 33, 34, 35, 36, 37, 24, 25, 11, 12, 4]
 (.seq (.seq (.reg [xo 6 (.mov (.t 4)), xo 7 (.fadr 0 (.t 1)), xo 8 (.load false 1 (.t 7)), xo 9 (.len false (.t 8)), xo 10 (.bini .lss (.t 6) (.t 9))])
 (.cond (.t 10)
 .skip
 (.exit 0)))
 (.seq (.block 1
 (.seq (.seq (.reg [xo 13 (.fadr 0 (.t 1)), xo 14 (.load false 1 (.t 13)), xo 15 (.mov (.t 4)), xo 16 (.iadr 1 (.t 14) (.t 15)), xo 17 (.load false 1 (.t 16)), xo 18 (.call 84 [(.t 17)]), xo 19 (.not (.t 18))])
 (.cond (.t 19)
 (.seq (.reg [xo 20 (.mov (.t 4)), xo 2 (.mov (.c (.int .i64 (3)))), xo 3 (.mov (.t 20))])
 .ret)
 .skip))
 (.seq (.reg [xo 5 (.mov (.c (.int .i64 (0))))])
 (.block 2
 (.loop [5] [21, 22, 23, 26, 27, 28, 29, 30, 31, 32, 33, 34, 35, 36, 37, 2, 3, 24, 25, 5]
 (.seq (.seq (.reg [xo 21 (.mov (.t 5)), xo 22 (.mov (.t 4)), xo 23 (.bini .lss (.t 21) (.t 22))])
 (.cond (.t 23)
 .skip
 (.exit 2)))
 (.seq (.block 3
 (.seq (.regD [] (.op ⟨0, false, [], xo 26 (.fadr 0 (.t 1))⟩
 (.op ⟨1, true, [], xo 27 (.load false 1 (.t 26))⟩
 (.op ⟨2, false, [], xo 28 (.mov (.t 5))⟩
 (.op ⟨3, true, [], xo 29 (.iadr 1 (.t 27) (.t 28))⟩
 (.op ⟨4, true, [], xo 30 (.load false 1 (.t 29))⟩
 (.op ⟨5, false, [], xo 31 (.fadr 0 (.t 1))⟩
 (.op ⟨6, true, [], xo 32 (.load false 1 (.t 31))⟩
 (.op ⟨7, false, [], xo 33 (.mov (.t 4))⟩
 (.op ⟨8, true, [], xo 34 (.iadr 1 (.t 32) (.t 33))⟩
 (.op ⟨9, true, [], xo 35 (.load false 1 (.t 34))⟩
 (.op ⟨10, false, [], xo 36 (.bins .eql (.t 30) (.t 35))⟩
 .nil))))))))))))
 (.cond (.t 36)
 (.seq (.reg [xo 37 (.mov (.t 4)), xo 2 (.mov (.c (.int .i64 (4)))), xo 3 (.mov (.t 37))])
 .ret)
 .skip)))
 (.reg [xo 24 (.mov (.t 5)), xo 25 (.bini .add (.t 24) (.c (.int .i64 (1)))), xo 5 (.mov (.t 25))]))))))))
 (.reg [xo 11 (.mov (.t 4)), xo 12 (.bini .add (.t 11) (.c (.int .i64 (1)))), xo 4 (.mov (.t 12))]))))))
 (.seq (.reg [xo 2 (.mov (.c (.int .i64 (0)))), xo 3 (.mov (.c (.int .i64 (0))))])
 .ret)))⟩
theorem t_hydrantref05_listens : trFn Tryz.prog 108 [([], (.first 0 (.first 1 (.first 2 (.first 3 (.first 4 (.first 5 (.first 6 (.first 7 (.first 8 (.first 9 (.first 10 .nil))))))))))))] [[4], [5]] = some f_hydrantref05_listens := by kernel_rfl

abbrev n_hydrantref05_clusters : Nat := 109
def f_hydrantref05_clusters : FnI := ⟨68, [.tmp 2, .tmp 3],
 (.seq (.reg [xo 1 (.box 33 (.t 0)), xo 2 (.mov (.c (.int .i64 (0)))), xo 3 (.mov (.c (.int .i64 (0))))])
 (.seq (.seq (.reg [xo 4 (.mov (.c (.int .i64 (0))))])
 (.block 0
 (.loop [4] [7, 8, 9, 10, 11, 14, 15, 16, 17, 18, 5, 19, 20, 21, 22, 23, 2, 3, 6, 24, 25, 26, 29, 30, 31, 32, 33, 34, 35, 36, 37, 38, 27, 28, 39, 40, 41, 42, 43, 44, 45, 46, 47, 48, 49, 50, 51, 52, 53, 54, 55, 56, 57, 58, 59, 60, 61, 62, 63, 64, 65, 66, 67, 12, 13, 4]
 (.seq (.seq (.reg [xo 7 (.mov (.t 4)), xo 8 (.fadr 2 (.t 1)), xo 9 (.load false 1 (.t 8)), xo 10 (.len false (.t 9)), xo 11 (.bini .lss (.t 7) (.t 10))])
 (.cond (.t 11)
 .skip
 (.exit 0)))
 (.seq (.block 1
 (.seq (.reg [xo 14 (.fadr 2 (.t 1)), xo 15 (.load false 1 (.t 14)), xo 16 (.mov (.t 4)), xo 17 (.iadr 4 (.t 15) (.t 16)), xo 18 (.load true 4 (.t 17)), xo 5 (.alloc 85 [(.v (.string ⟨#[]⟩)), (.v (.int .i64 (0))), (.v (.int .i64 (0))), (.v (.slice none 0 0))]), xn (.store 4 (.t 5) (.t 18))])
 (.seq (.seq (.reg [xo 19 (.fadr 0 (.t 5)), xo 20 (.load false 1 (.t 19)), xo 21 (.call 84 [(.t 20)]), xo 22 (.not (.t 21))])
 (.cond (.t 22)
 (.seq (.reg [xo 23 (.mov (.t 4)), xo 2 (.mov (.c (.int .i64 (3)))), xo 3 (.mov (.t 23))])
 .ret)
 .skip))
 (.seq (.seq (.reg [xo 6 (.mov (.c (.int .i64 (0))))])
 (.block 2
 (.loop [6] [24, 25, 26, 29, 30, 31, 32, 33, 34, 35, 36, 37, 38, 2, 3, 27, 28, 6]
 (.seq (.seq (.reg [xo 24 (.mov (.t 6)), xo 25 (.mov (.t 4)), xo 26 (.bini .lss (.t 24) (.t 25))])
 (.cond (.t 26)
 .skip
 (.exit 2)))
 (.seq (.block 3
 (.seq (.regD [] (.op ⟨0, false, [], xo 29 (.fadr 2 (.t 1))⟩
 (.op ⟨1, true, [], xo 30 (.load false 1 (.t 29))⟩
 (.op ⟨2, false, [], xo 31 (.mov (.t 6))⟩
 (.op ⟨3, true, [], xo 32 (.iadr 4 (.t 30) (.t 31))⟩
 (.op ⟨4, false, [], xo 33 (.fadr 0 (.t 32))⟩
 (.op ⟨5, true, [], xo 34 (.load false 1 (.t 33))⟩
 (.op ⟨6, false, [], xo 35 (.fadr 0 (.t 5))⟩
 (.op ⟨7, true, [], xo 36 (.load false 1 (.t 35))⟩
 (.op ⟨8, false, [], xo 37 (.bins .eql (.t 34) (.t 36))⟩
 .nil))))))))))
 (.cond (.t 37)
 (.seq (.reg [xo 38 (.mov (.t 4)), xo 2 (.mov (.c (.int .i64 (4)))), xo 3 (.mov (.t 38))])
 .ret)
 .skip)))
 (.reg [xo 27 (.mov (.t 6)), xo 28 (.bini .add (.t 27) (.c (.int .i64 (1)))), xo 6 (.mov (.t 28))]))))))
 (.seq (.seq (.reg [xo 39 (.fadr 1 (.t 5)), xo 40 (.load false 1 (.t 39)), xo 41 (.bini .neq (.t 40) (.c (.int .i64 (1)))), xo 42 (.mov (.t 41)), xg 43 (.fadr 1 (.t 5)) 42 true, xg 44 (.load false 1 (.t 43)) 42 true, xg 45 (.bini .neq (.t 44) (.c (.int .i64 (2)))) 42 true, xo 46 (.pick (.t 42) (.t 45) (.b false))])
 (.cond (.t 46)
 (.seq (.reg [xo 47 (.mov (.t 4)), xo 2 (.mov (.c (.int .i64 (9)))), xo 3 (.mov (.t 47))])
 .ret)
 .skip))
 (.seq (.seq (.reg [xo 48 (.fadr 2 (.t 5)), xo 49 (.load false 1 (.t 48)), xo 50 (.bini .lss (.t 49) (.c (.int .i64 (1)))), xo 51 (.mov (.t 50)), xg 52 (.fadr 2 (.t 5)) 51 false, xg 53 (.load false 1 (.t 52)) 51 false, xg 54 (.bini .gtr (.t 53) (.c (.int .i64 (4)))) 51 false, xo 55 (.pick (.t 51) (.b true) (.t 54))])
 (.cond (.t 55)
 (.seq (.reg [xo 56 (.mov (.t 4)), xo 2 (.mov (.c (.int .i64 (10)))), xo 3 (.mov (.t 56))])
 .ret)
 .skip))
 (.seq (.reg [xo 57 (.fadr 3 (.t 5)), xo 58 (.load false 1 (.t 57)), xo 59 (.len false (.t 58)), xo 60 (.bini .lss (.t 59) (.c (.int .i64 (1)))), xo 61 (.mov (.t 60)), xg 62 (.fadr 3 (.t 5)) 61 false, xg 63 (.load false 1 (.t 62)) 61 false, xg 64 (.len false (.t 63)) 61 false, xg 65 (.bini .gtr (.t 64) (.c (.int .i64 (4)))) 61 false, xo 66 (.pick (.t 61) (.b true) (.t 65))])
 (.cond (.t 66)
 (.seq (.reg [xo 67 (.mov (.t 4)), xo 2 (.mov (.c (.int .i64 (6)))), xo 3 (.mov (.t 67))])
 .ret)
 .skip))))))))
 (.reg [xo 12 (.mov (.t 4)), xo 13 (.bini .add (.t 12) (.c (.int .i64 (1)))), xo 4 (.mov (.t 13))]))))))
 (.seq (.reg [xo 2 (.mov (.c (.int .i64 (0)))), xo 3 (.mov (.c (.int .i64 (0))))])
 .ret)))⟩
theorem t_hydrantref05_clusters : trFn Tryz.prog 109 [([], (.first 0 (.first 1 (.first 2 (.first 3 (.first 4 (.first 5 (.first 6 (.first 7 (.first 8 .nil))))))))))] [[4], [6]] = some f_hydrantref05_clusters := by kernel_rfl

abbrev n_hydrantref05_routes : Nat := 110
def f_hydrantref05_routes : FnI := ⟨74, [.tmp 2, .tmp 3],
 (.seq (.reg [xo 1 (.box 33 (.t 0)), xo 2 (.mov (.c (.int .i64 (0)))), xo 3 (.mov (.c (.int .i64 (0))))])
 (.seq (.seq (.reg [xo 4 (.mov (.c (.int .i64 (0))))])
 (.block 0
 (.loop [4] [8, 9, 10, 11, 12, 15, 16, 17, 18, 19, 5, 20, 21, 22, 23, 24, 25, 26, 2, 3, 27, 28, 29, 30, 31, 32, 33, 34, 35, 36, 37, 38, 39, 40, 41, 42, 43, 6, 44, 45, 46, 49, 50, 51, 52, 53, 7, 54, 55, 56, 57, 58, 59, 60, 61, 62, 63, 64, 65, 66, 67, 68, 69, 70, 71, 72, 73, 47, 48, 13, 14, 4]
 (.seq (.seq (.reg [xo 8 (.mov (.t 4)), xo 9 (.fadr 1 (.t 1)), xo 10 (.load false 1 (.t 9)), xo 11 (.len false (.t 10)), xo 12 (.bini .lss (.t 8) (.t 11))])
 (.cond (.t 12)
 .skip
 (.exit 0)))
 (.seq (.block 1
 (.seq (.reg [xo 15 (.fadr 1 (.t 1)), xo 16 (.load false 1 (.t 15)), xo 17 (.mov (.t 4)), xo 18 (.iadr 4 (.t 16) (.t 17)), xo 19 (.load true 4 (.t 18)), xo 5 (.alloc 158 [(.v (.string ⟨#[]⟩)), (.v (.string ⟨#[]⟩)), (.v (.string ⟨#[]⟩)), (.v (.string ⟨#[]⟩))]), xn (.store 4 (.t 5) (.t 19))])
 (.seq (.seq (.reg [xo 20 (.fadr 0 (.t 1)), xo 21 (.load false 1 (.t 20)), xo 22 (.fadr 0 (.t 5)), xo 23 (.load false 1 (.t 22)), xo 24 (.call 118 [(.t 21), (.t 23)]), xo 25 (.bini .lss (.t 24) (.c (.int .i64 (0))))])
 (.cond (.t 25)
 (.seq (.reg [xo 26 (.mov (.t 4)), xo 2 (.mov (.c (.int .i64 (5)))), xo 3 (.mov (.t 26))])
 .ret)
 .skip))
 (.seq (.seq (.reg [xo 27 (.fadr 1 (.t 5)), xo 28 (.load false 1 (.t 27)), xo 29 (.call 119 [(.t 28)]), xo 30 (.not (.t 29))])
 (.cond (.t 30)
 (.seq (.reg [xo 31 (.mov (.t 4)), xo 2 (.mov (.c (.int .i64 (7)))), xo 3 (.mov (.t 31))])
 .ret)
 .skip))
 (.seq (.seq (.reg [xo 32 (.fadr 2 (.t 5)), xo 33 (.load false 1 (.t 32)), xo 34 (.call 120 [(.t 33)]), xo 35 (.not (.t 34))])
 (.cond (.t 35)
 (.seq (.reg [xo 36 (.mov (.t 4)), xo 2 (.mov (.c (.int .i64 (8)))), xo 3 (.mov (.t 36))])
 .ret)
 .skip))
 (.seq (.seq (.reg [xo 37 (.fadr 2 (.t 1)), xo 38 (.load false 1 (.t 37)), xo 39 (.fadr 3 (.t 5)), xo 40 (.load false 1 (.t 39)), xo 41 (.call 121 [(.t 38), (.t 40)]), xo 42 (.bini .lss (.t 41) (.c (.int .i64 (0))))])
 (.cond (.t 42)
 (.seq (.reg [xo 43 (.mov (.t 4)), xo 2 (.mov (.c (.int .i64 (5)))), xo 3 (.mov (.t 43))])
 .ret)
 .skip))
 (.seq (.reg [xo 6 (.mov (.c (.int .i64 (0))))])
 (.block 2
 (.loop [6] [44, 45, 46, 49, 50, 51, 52, 53, 7, 54, 55, 56, 57, 58, 59, 60, 61, 62, 63, 64, 65, 66, 67, 68, 69, 70, 71, 72, 73, 2, 3, 47, 48, 6]
 (.seq (.seq (.reg [xo 44 (.mov (.t 6)), xo 45 (.mov (.t 4)), xo 46 (.bini .lss (.t 44) (.t 45))])
 (.cond (.t 46)
 .skip
 (.exit 2)))
 (.seq (.block 3
 (.seq (.reg [xo 49 (.fadr 1 (.t 1)), xo 50 (.load false 1 (.t 49)), xo 51 (.mov (.t 6)), xo 52 (.iadr 4 (.t 50) (.t 51)), xo 53 (.load true 4 (.t 52)), xo 7 (.alloc 158 [(.v (.string ⟨#[]⟩)), (.v (.string ⟨#[]⟩)), (.v (.string ⟨#[]⟩)), (.v (.string ⟨#[]⟩))]), xn (.store 4 (.t 7) (.t 53))])
 (.seq (.reg [xo 54 (.fadr 0 (.t 7)), xo 55 (.load false 1 (.t 54)), xo 56 (.fadr 0 (.t 5)), xo 57 (.load false 1 (.t 56)), xo 58 (.bins .eql (.t 55) (.t 57)), xo 59 (.mov (.t 58)), xg 60 (.fadr 1 (.t 7)) 59 true, xg 61 (.load false 1 (.t 60)) 59 true, xg 62 (.fadr 1 (.t 5)) 59 true, xg 63 (.load false 1 (.t 62)) 59 true, xg 64 (.bins .eql (.t 61) (.t 63)) 59 true, xo 65 (.pick (.t 59) (.t 64) (.b false)), xo 66 (.mov (.t 65)), xg 67 (.fadr 2 (.t 7)) 66 true, xg 68 (.load false 1 (.t 67)) 66 true, xg 69 (.fadr 2 (.t 5)) 66 true, xg 70 (.load false 1 (.t 69)) 66 true, xg 71 (.bins .eql (.t 68) (.t 70)) 66 true, xo 72 (.pick (.t 66) (.t 71) (.b false))])
 (.cond (.t 72)
 (.seq (.reg [xo 73 (.mov (.t 4)), xo 2 (.mov (.c (.int .i64 (4)))), xo 3 (.mov (.t 73))])
 .ret)
 .skip))))
 (.reg [xo 47 (.mov (.t 6)), xo 48 (.bini .add (.t 47) (.c (.int .i64 (1)))), xo 6 (.mov (.t 48))]))))))))))))
 (.reg [xo 13 (.mov (.t 4)), xo 14 (.bini .add (.t 13) (.c (.int .i64 (1)))), xo 4 (.mov (.t 14))]))))))
 (.seq (.reg [xo 2 (.mov (.c (.int .i64 (0)))), xo 3 (.mov (.c (.int .i64 (0))))])
 .ret)))⟩
theorem t_hydrantref05_routes : trFn Tryz.prog 110 [] [[4], [6]] = some f_hydrantref05_routes := by kernel_rfl

abbrev n_hydrantref01_Index : Nat := 111
def f_hydrantref01_Index : FnI := ⟨7, [.tmp 2],
 (.seq (.reg [xo 2 (.mov (.c (.int .i64 (0))))])
 (.seq (.reg [xo 3 (.mov (.t 0)), xo 4 (.bini .rem (.t 3) (.c (.int .u64 (4294967296)))), xo 5 (.conv .i64 (.t 4)), xo 6 (.bini .sub (.t 5) (.c (.int .i64 (1)))), xo 2 (.mov (.t 6))])
 .ret))⟩
theorem t_hydrantref01_Index : trFn Tryz.prog 111 [] [] = some f_hydrantref01_Index := by kernel_rfl

abbrev n_hydrantref14_has : Nat := 112
def f_hydrantref14_has : FnI := ⟨18, [.tmp 4],
 (.seq (.reg [xo 4 (.mov (.b false))])
 (.seq (.seq (.reg [xo 5 (.mov (.c (.int .i64 (0))))])
 (.block 0
 (.loop [5] [6, 7, 8, 9, 12, 13, 14, 15, 16, 17, 4, 10, 11, 5]
 (.seq (.seq (.reg [xo 6 (.mov (.t 5)), xo 7 (.mov (.t 0)), xo 8 (.len false (.t 7)), xo 9 (.bini .lss (.t 6) (.t 8))])
 (.cond (.t 9)
 .skip
 (.exit 0)))
 (.seq (.block 1
 (.seq (.reg [xo 12 (.mov (.t 0)), xo 13 (.mov (.t 5)), xo 14 (.iadr 1 (.t 12) (.t 13)), xo 15 (.load false 1 (.t 14)), xo 16 (.mov (.t 1)), xo 17 (.bini .eql (.t 15) (.t 16))])
 (.cond (.t 17)
 (.seq (.reg [xo 4 (.mov (.b true))])
 .ret)
 .skip)))
 (.reg [xo 10 (.mov (.t 5)), xo 11 (.bini .add (.t 10) (.c (.int .i64 (1)))), xo 5 (.mov (.t 11))]))))))
 (.seq (.reg [xo 4 (.mov (.b false))])
 .ret)))⟩
theorem t_hydrantref14_has : trFn Tryz.prog 112 [] [[5]] = some f_hydrantref14_has := by kernel_rfl

abbrev n_slices_Index___string_string : Nat := 113
def f_slices_Index___string_string : FnI := ⟨19, [.tmp 4],
 (.seq (.reg [xo 4 (.mov (.c (.int .i64 (0))))])
 (.seq (.seq (.reg [xo 6 (.mov (.t 0)), xo 7 (.len false (.t 6)), xo 8 (.mov (.c (.int .i64 (0))))])
 (.block 0
 (.loop [8] [9, 10, 5, 11, 12, 13, 14, 15, 16, 17, 4, 18, 8]
 (.seq (.reg [xo 9 (.bini .lss (.t 8) (.t 7))])
 (.seq (.cond (.t 9)
 .skip
 (.exit 0))
 (.seq (.block 1
 (.seq (.reg [xo 10 (.mov (.t 8)), xo 5 (.mov (.t 10))])
 (.seq (.reg [xo 11 (.mov (.t 1)), xo 12 (.mov (.t 0)), xo 13 (.mov (.t 5)), xo 14 (.iadr 1 (.t 12) (.t 13)), xo 15 (.load false 1 (.t 14)), xo 16 (.bins .eql (.t 11) (.t 15))])
 (.cond (.t 16)
 (.seq (.reg [xo 17 (.mov (.t 5)), xo 4 (.mov (.t 17))])
 .ret)
 .skip))))
 (.reg [xo 18 (.bini .add (.t 8) (.c (.int .i64 (1)))), xo 8 (.mov (.t 18))])))))))
 (.seq (.reg [xo 4 (.mov (.c (.int .i64 (-1))))])
 .ret)))⟩
theorem t_slices_Index___string_string : trFn Tryz.prog 113 [] [[8]] = some f_slices_Index___string_string := by kernel_rfl

abbrev n_slices_ContainsFunc___api_Cluster_api_Cluster : Nat := 114
def f_slices_ContainsFunc___api_Cluster_api_Cluster : FnI := ⟨9, [.tmp 4],
 (.seq (.reg [xo 4 (.mov (.b false))])
 (.seq (.reg [xo 5 (.mov (.t 0)), xo 6 (.mov (.t 1)), xo 7 (.call 122 [(.t 5), (.t 6)]), xo 8 (.bini .geq (.t 7) (.c (.int .i64 (0)))), xo 4 (.mov (.t 8))])
 .ret))⟩
theorem t_slices_ContainsFunc___api_Cluster_api_Cluster : trFn Tryz.prog 114 [] [] = some f_slices_ContainsFunc___api_Cluster_api_Cluster := by kernel_rfl

abbrev n_config_named_1 : Nat := 115
theorem k_config_named_1 : FnOk Tryz.prog 115 := FnOk.of (by kernel_rfl)
def f_config_named_1 : FnI := ⟨8, [.tmp 3],
 (.seq (.reg [xo 2 (.box 85 (.t 0)), xo 3 (.mov (.b false))])
 (.seq (.reg [xo 4 (.fadr 0 (.t 2)), xo 5 (.load false 1 (.t 4)), xo 6 (.load false 1 (.t 1)), xo 7 (.bins .eql (.t 5) (.t 6)), xo 3 (.mov (.t 7))])
 .ret))⟩
theorem t_config_named_1 : trFn Tryz.prog 115 [] [] = some f_config_named_1 := by kernel_rfl

abbrev n_strings_CutPrefix : Nat := 116
def f_strings_CutPrefix : FnI := ⟨11, [.tmp 4, .tmp 5],
 (.seq (.reg [xo 4 (.mov (.c (.string ⟨#[]⟩))), xo 5 (.mov (.b false))])
 (.seq (.reg [xo 6 (.mov (.t 0)), xo 7 (.mov (.t 1)), xo 8 (.call 123 [(.t 6), (.t 7)]), xo 9 (.ext 0 (.t 8)), xo 10 (.ext 1 (.t 8)), xo 4 (.mov (.t 9)), xo 5 (.mov (.t 10))])
 .ret))⟩
theorem t_strings_CutPrefix : trFn Tryz.prog 116 [] [] = some f_strings_CutPrefix := by kernel_rfl

abbrev n_names_Host : Nat := 117
def f_names_Host : FnI := ⟨13, [.cell 2 1 false],
 (.seq (.reg [xo 2 (.alloc 4 [(.v (.bool false))])])
 (.seq (.seq (.reg [xo 4 (.mov (.t 0)), xo 5 (.len true (.t 4)), xo 6 (.bini .gtr (.t 5) (.c (.int .i64 (32))))])
 (.cond (.t 6)
 (.seq (.reg [xn (.store 1 (.t 2) (.b false))])
 .ret)
 .skip))
 (.seq (.seq (.reg [xo 7 (.mov (.t 0)), xo 8 (.call 124 [(.t 7), (.c (.int .u8 (46)))])])
 (.block 0
 (.rfun (.t 8) [9]
 (.reg [xo 3 (.mov (.t 9))])
 (.block 1
 (.seq (.reg [xo 10 (.mov (.t 3)), xo 11 (.call 56 [(.t 10)]), xo 12 (.not (.t 11))])
 (.cond (.t 12)
 (.seq (.reg [xn (.store 1 (.t 2) (.b false))])
 .ret)
 .skip))))))
 (.seq (.reg [xn (.store 1 (.t 2) (.b true))])
 .ret))))⟩
theorem t_names_Host : trFn Tryz.prog 117 [] [] = some f_names_Host := by kernel_rfl

abbrev n_hydrantref05_Listen : Nat := 118
def f_hydrantref05_Listen : FnI := ⟨19, [.tmp 4],
 (.seq (.reg [xo 4 (.mov (.c (.int .i64 (0))))])
 (.seq (.seq (.reg [xo 5 (.mov (.c (.int .i64 (0))))])
 (.block 0
 (.loop [5] [6, 7, 8, 9, 12, 13, 14, 15, 16, 17, 18, 4, 10, 11, 5]
 (.seq (.seq (.reg [xo 6 (.mov (.t 5)), xo 7 (.mov (.t 0)), xo 8 (.len false (.t 7)), xo 9 (.bini .lss (.t 6) (.t 8))])
 (.cond (.t 9)
 .skip
 (.exit 0)))
 (.seq (.block 1
 (.seq (.reg [xo 12 (.mov (.t 0)), xo 13 (.mov (.t 5)), xo 14 (.iadr 1 (.t 12) (.t 13)), xo 15 (.load false 1 (.t 14)), xo 16 (.mov (.t 1)), xo 17 (.bins .eql (.t 15) (.t 16))])
 (.cond (.t 17)
 (.seq (.reg [xo 18 (.mov (.t 5)), xo 4 (.mov (.t 18))])
 .ret)
 .skip)))
 (.reg [xo 10 (.mov (.t 5)), xo 11 (.bini .add (.t 10) (.c (.int .i64 (1)))), xo 5 (.mov (.t 11))]))))))
 (.seq (.reg [xo 4 (.mov (.c (.int .i64 (-1))))])
 .ret)))⟩
theorem t_hydrantref05_Listen : trFn Tryz.prog 118 [] [[5]] = some f_hydrantref05_Listen := by kernel_rfl

abbrev n_hydrantref03_Pattern : Nat := 119
def f_hydrantref03_Pattern : FnI := ⟨20, [.tmp 2],
 (.seq (.reg [xo 2 (.mov (.b false))])
 (.seq (.seq (.reg [xo 3 (.mov (.t 0)), xo 4 (.len true (.t 3)), xo 5 (.bini .gtr (.t 4) (.c (.int .i64 (2)))), xo 6 (.mov (.t 5)), xg 7 (.mov (.t 0)) 6 true, xg 8 (.slcs (.t 7) none (some (.c (.int .i64 (2))))) 6 true, xg 9 (.bins .eql (.t 8) (.c (.string ⟨#[42, 46]⟩))) 6 true, xo 10 (.pick (.t 6) (.t 9) (.b false))])
 (.cond (.t 10)
 (.seq (.reg [xo 11 (.mov (.t 0)), xo 12 (.slcs (.t 11) (some (.c (.int .i64 (2)))) none), xo 13 (.call 125 [(.t 12)]), xo 2 (.mov (.t 13))])
 .ret)
 .skip))
 (.seq (.reg [xo 14 (.mov (.t 0)), xo 15 (.bins .eql (.t 14) (.c (.string ⟨#[42]⟩))), xo 16 (.mov (.t 15)), xg 17 (.mov (.t 0)) 16 false, xg 18 (.call 125 [(.t 17)]) 16 false, xo 19 (.pick (.t 16) (.b true) (.t 18)), xo 2 (.mov (.t 19))])
 .ret)))⟩
theorem t_hydrantref03_Pattern : trFn Tryz.prog 119 [] [] = some f_hydrantref03_Pattern := by kernel_rfl

abbrev n_hydrantref03_Path : Nat := 120
def f_hydrantref03_Path : FnI := ⟨34, [.tmp 2],
 (.seq (.reg [xo 2 (.mov (.b false))])
 (.seq (.seq (.reg [xo 4 (.mov (.t 0)), xo 5 (.len true (.t 4)), xo 6 (.bini .lss (.t 5) (.c (.int .i64 (1)))), xo 7 (.mov (.t 6)), xg 8 (.mov (.t 0)) 7 false, xg 9 (.len true (.t 8)) 7 false, xg 10 (.bini .gtr (.t 9) (.c (.int .i64 (32)))) 7 false, xo 11 (.pick (.t 7) (.b true) (.t 10)), xo 12 (.mov (.t 11)), xg 13 (.mov (.t 0)) 12 false, xg 14 (.idxs (.t 13) (.c (.int .i64 (0)))) 12 false, xg 15 (.bini .neq (.t 14) (.c (.int .u8 (47)))) 12 false, xo 16 (.pick (.t 12) (.b true) (.t 15))])
 (.cond (.t 16)
 (.seq (.reg [xo 2 (.mov (.b false))])
 .ret)
 .skip))
 (.seq (.seq (.reg [xo 3 (.mov (.c (.int .i64 (0))))])
 (.block 0
 (.loop [3] [17, 18, 19, 20, 23, 24, 25, 26, 27, 28, 29, 30, 31, 32, 33, 2, 21, 22, 3]
 (.seq (.seq (.reg [xo 17 (.mov (.t 3)), xo 18 (.mov (.t 0)), xo 19 (.len true (.t 18)), xo 20 (.bini .lss (.t 17) (.t 19))])
 (.cond (.t 20)
 .skip
 (.exit 0)))
 (.seq (.block 1
 (.seq (.reg [xo 23 (.mov (.t 0)), xo 24 (.mov (.t 3)), xo 25 (.idxs (.t 23) (.t 24)), xo 26 (.call 97 [(.t 25)]), xo 27 (.not (.t 26)), xo 28 (.mov (.t 27)), xg 29 (.mov (.t 0)) 28 true, xg 30 (.mov (.t 3)) 28 true, xg 31 (.idxs (.t 29) (.t 30)) 28 true, xg 32 (.bini .neq (.t 31) (.c (.int .u8 (47)))) 28 true, xo 33 (.pick (.t 28) (.t 32) (.b false))])
 (.cond (.t 33)
 (.seq (.reg [xo 2 (.mov (.b false))])
 .ret)
 .skip)))
 (.reg [xo 21 (.mov (.t 3)), xo 22 (.bini .add (.t 21) (.c (.int .i64 (1)))), xo 3 (.mov (.t 22))]))))))
 (.seq (.reg [xo 2 (.mov (.b true))])
 .ret))))⟩
theorem t_hydrantref03_Path : trFn Tryz.prog 120 [] [[3]] = some f_hydrantref03_Path := by kernel_rfl

abbrev n_hydrantref05_Cluster : Nat := 121
def f_hydrantref05_Cluster : FnI := ⟨20, [.tmp 4],
 (.seq (.reg [xo 4 (.mov (.c (.int .i64 (0))))])
 (.seq (.seq (.reg [xo 5 (.mov (.c (.int .i64 (0))))])
 (.block 0
 (.loop [5] [6, 7, 8, 9, 12, 13, 14, 15, 16, 17, 18, 19, 4, 10, 11, 5]
 (.seq (.seq (.reg [xo 6 (.mov (.t 5)), xo 7 (.mov (.t 0)), xo 8 (.len false (.t 7)), xo 9 (.bini .lss (.t 6) (.t 8))])
 (.cond (.t 9)
 .skip
 (.exit 0)))
 (.seq (.block 1
 (.seq (.reg [xo 12 (.mov (.t 0)), xo 13 (.mov (.t 5)), xo 14 (.iadr 4 (.t 12) (.t 13)), xo 15 (.fadr 0 (.t 14)), xo 16 (.load false 1 (.t 15)), xo 17 (.mov (.t 1)), xo 18 (.bins .eql (.t 16) (.t 17))])
 (.cond (.t 18)
 (.seq (.reg [xo 19 (.mov (.t 5)), xo 4 (.mov (.t 19))])
 .ret)
 .skip)))
 (.reg [xo 10 (.mov (.t 5)), xo 11 (.bini .add (.t 10) (.c (.int .i64 (1)))), xo 5 (.mov (.t 11))]))))))
 (.seq (.reg [xo 4 (.mov (.c (.int .i64 (-1))))])
 .ret)))⟩
theorem t_hydrantref05_Cluster : trFn Tryz.prog 121 [] [[5]] = some f_hydrantref05_Cluster := by kernel_rfl

abbrev n_slices_IndexFunc___api_Cluster_api_Cluster : Nat := 122
def f_slices_IndexFunc___api_Cluster_api_Cluster : FnI := ⟨19, [.tmp 4],
 (.seq (.reg [xo 4 (.mov (.c (.int .i64 (0))))])
 (.seq (.seq (.reg [xo 6 (.mov (.t 0)), xo 7 (.len false (.t 6)), xo 8 (.mov (.c (.int .i64 (0))))])
 (.block 0
 (.loop [8] [9, 10, 5, 11, 12, 13, 14, 15, 16, 17, 4, 18, 8]
 (.seq (.reg [xo 9 (.bini .lss (.t 8) (.t 7))])
 (.seq (.cond (.t 9)
 .skip
 (.exit 0))
 (.seq (.block 1
 (.seq (.reg [xo 10 (.mov (.t 8)), xo 5 (.mov (.t 10))])
 (.seq (.reg [xo 11 (.mov (.t 1)), xo 12 (.mov (.t 0)), xo 13 (.mov (.t 5)), xo 14 (.iadr 4 (.t 12) (.t 13)), xo 15 (.load true 4 (.t 14)), xo 16 (.callv (.t 11) [(.t 15)])])
 (.cond (.t 16)
 (.seq (.reg [xo 17 (.mov (.t 5)), xo 4 (.mov (.t 17))])
 .ret)
 .skip))))
 (.reg [xo 18 (.bini .add (.t 8) (.c (.int .i64 (1)))), xo 8 (.mov (.t 18))])))))))
 (.seq (.reg [xo 4 (.mov (.c (.int .i64 (-1))))])
 .ret)))⟩
theorem t_slices_IndexFunc___api_Cluster_api_Cluster : trFn Tryz.prog 122 [] [[8]] = some f_slices_IndexFunc___api_Cluster_api_Cluster := by kernel_rfl

abbrev n_stringslite_CutPrefix : Nat := 123
def f_stringslite_CutPrefix : FnI := ⟨15, [.tmp 4, .tmp 5],
 (.seq (.reg [xo 4 (.mov (.c (.string ⟨#[]⟩))), xo 5 (.mov (.b false))])
 (.seq (.seq (.reg [xo 6 (.mov (.t 0)), xo 7 (.mov (.t 1)), xo 8 (.call 126 [(.t 6), (.t 7)]), xo 9 (.not (.t 8))])
 (.cond (.t 9)
 (.seq (.reg [xo 10 (.mov (.t 0)), xo 4 (.mov (.t 10)), xo 5 (.mov (.b false))])
 .ret)
 .skip))
 (.seq (.reg [xo 11 (.mov (.t 0)), xo 12 (.mov (.t 1)), xo 13 (.len true (.t 12)), xo 14 (.slcs (.t 11) (some (.t 13)) none), xo 4 (.mov (.t 14)), xo 5 (.mov (.b true))])
 .ret)))⟩
theorem t_stringslite_CutPrefix : trFn Tryz.prog 123 [] [] = some f_stringslite_CutPrefix := by kernel_rfl

abbrev n_names_parts : Nat := 124
def f_names_parts : FnI := ⟨6, [.tmp 4],
 (.seq (.reg [xo 2 (.box 9 (.t 0)), xo 3 (.box 5 (.t 1)), xo 4 (.mov (.c .nilFunc))])
 (.seq (.reg [xo 5 (.mkf (.func 127) [] [(.t 2), (.t 3)]), xo 4 (.mov (.t 5))])
 .ret))⟩
theorem t_names_parts : trFn Tryz.prog 124 [] [] = some f_names_parts := by kernel_rfl

abbrev n_hydrantref03_Host : Nat := 125
def f_hydrantref03_Host : FnI := ⟨22, [.tmp 2],
 (.seq (.reg [xo 2 (.mov (.b false))])
 (.seq (.reg [xo 5 (.mov (.t 0)), xo 6 (.call 129 [(.t 5), (.c (.int .u8 (46)))]), xo 3 (.mov (.t 6))])
 (.seq (.seq (.reg [xo 4 (.mov (.c (.int .i64 (0))))])
 (.block 0
 (.loop [4] [7, 8, 9, 10, 13, 14, 15, 16, 17, 18, 2, 11, 12, 4]
 (.seq (.seq (.reg [xo 7 (.mov (.t 4)), xo 8 (.mov (.t 3)), xo 9 (.len false (.t 8)), xo 10 (.bini .lss (.t 7) (.t 9))])
 (.cond (.t 10)
 .skip
 (.exit 0)))
 (.seq (.block 1
 (.seq (.reg [xo 13 (.mov (.t 3)), xo 14 (.mov (.t 4)), xo 15 (.iadr 1 (.t 13) (.t 14)), xo 16 (.load false 1 (.t 15)), xo 17 (.call 84 [(.t 16)]), xo 18 (.not (.t 17))])
 (.cond (.t 18)
 (.seq (.reg [xo 2 (.mov (.b false))])
 .ret)
 .skip)))
 (.reg [xo 11 (.mov (.t 4)), xo 12 (.bini .add (.t 11) (.c (.int .i64 (1)))), xo 4 (.mov (.t 12))]))))))
 (.seq (.reg [xo 19 (.mov (.t 0)), xo 20 (.len true (.t 19)), xo 21 (.bini .leq (.t 20) (.c (.int .i64 (32)))), xo 2 (.mov (.t 21))])
 .ret))))⟩
theorem t_hydrantref03_Host : trFn Tryz.prog 125 [] [[4]] = some f_hydrantref03_Host := by kernel_rfl

abbrev n_stringslite_HasPrefix : Nat := 126
def f_stringslite_HasPrefix : FnI := ⟨18, [.tmp 4],
 (.seq (.reg [xo 4 (.mov (.b false))])
 (.seq (.reg [xo 5 (.mov (.t 0)), xo 6 (.len true (.t 5)), xo 7 (.mov (.t 1)), xo 8 (.len true (.t 7)), xo 9 (.bini .geq (.t 6) (.t 8)), xo 10 (.mov (.t 9)), xg 11 (.mov (.t 0)) 10 true, xg 12 (.mov (.t 1)) 10 true, xg 13 (.len true (.t 12)) 10 true, xg 14 (.slcs (.t 11) none (some (.t 13))) 10 true, xg 15 (.mov (.t 1)) 10 true, xg 16 (.bins .eql (.t 14) (.t 15)) 10 true, xo 17 (.pick (.t 10) (.t 16) (.b false)), xo 4 (.mov (.t 17))])
 .ret))⟩
theorem t_stringslite_HasPrefix : trFn Tryz.prog 126 [] [] = some f_stringslite_HasPrefix := by kernel_rfl

abbrev n_names_parts_1 : Nat := 127
theorem k_names_parts_1 : FnOk Tryz.prog 127 := FnOk.of (by kernel_rfl)
def f_names_parts_1 : FnI := ⟨23, [],
 (.block 0
 (.loop [] [5, 6, 7, 4, 8, 9, 10, 11, 12, 13, 14, 15, 16, 17, 18, 19, 20, 21, 22]
 (.block 1
 (.seq (.reg [xo 5 (.load false 1 (.t 1)), xo 6 (.load false 1 (.t 2)), xo 7 (.call 128 [(.t 5), (.t 6)]), xo 4 (.mov (.t 7))])
 (.seq (.seq (.reg [xo 8 (.mov (.t 4)), xo 9 (.bini .lss (.t 8) (.c (.int .i64 (0))))])
 (.cond (.t 9)
 (.seq (.reg [xo 10 (.mov (.t 0)), xo 11 (.load false 1 (.t 1)), xo 12 (.callv (.t 10) [(.t 11)])])
 .ret)
 .skip))
 (.seq (.seq (.reg [xo 13 (.mov (.t 0)), xo 14 (.load false 1 (.t 1)), xo 15 (.mov (.t 4)), xo 16 (.slcs (.t 14) none (some (.t 15))), xo 17 (.callv (.t 13) [(.t 16)]), xo 18 (.not (.t 17))])
 (.cond (.t 18)
 .ret
 .skip))
 (.reg [xo 19 (.load false 1 (.t 1)), xo 20 (.mov (.t 4)), xo 21 (.bini .add (.t 20) (.c (.int .i64 (1)))), xo 22 (.slcs (.t 19) (some (.t 21)) none), xn (.store 1 (.t 1) (.t 22))])))))))⟩
theorem t_names_parts_1 : trFn Tryz.prog 127 [] [[]] = some f_names_parts_1 := by kernel_rfl

abbrev n_strings_IndexByte : Nat := 128
def f_strings_IndexByte : FnI := ⟨8, [.tmp 4],
 (.seq (.reg [xo 4 (.mov (.c (.int .i64 (0))))])
 (.seq (.reg [xo 5 (.mov (.t 0)), xo 6 (.mov (.t 1)), xo 7 (.call 130 [(.t 5), (.t 6)]), xo 4 (.mov (.t 7))])
 .ret))⟩
theorem t_strings_IndexByte : trFn Tryz.prog 128 [] [] = some f_strings_IndexByte := by kernel_rfl

abbrev n_hydrantref03_Parts : Nat := 129
def f_hydrantref03_Parts : FnI := ⟨35, [.tmp 4],
 (.seq (.reg [xo 4 (.mov (.c (.slice none 0 0)))])
 (.seq (.reg [xo 8 (.bsl 9 1 0 [] []), xo 5 (.mov (.t 8))])
 (.seq (.reg [xo 6 (.mov (.c (.int .i64 (0))))])
 (.seq (.seq (.reg [xo 7 (.mov (.c (.int .i64 (0))))])
 (.block 0
 (.loop [5, 6, 7] [9, 10, 11, 12, 15, 16, 17, 18, 19, 20, 21, 22, 23, 24, 25, 26, 5, 27, 28, 6, 13, 14, 7]
 (.seq (.seq (.reg [xo 9 (.mov (.t 7)), xo 10 (.mov (.t 0)), xo 11 (.len true (.t 10)), xo 12 (.bini .lss (.t 9) (.t 11))])
 (.cond (.t 12)
 .skip
 (.exit 0)))
 (.seq (.block 1
 (.seq (.reg [xo 15 (.mov (.t 0)), xo 16 (.mov (.t 7)), xo 17 (.idxs (.t 15) (.t 16)), xo 18 (.mov (.t 1)), xo 19 (.bini .eql (.t 17) (.t 18))])
 (.cond (.t 19)
 (.seq (.reg [xo 20 (.mov (.t 5)), xo 21 (.mov (.t 0)), xo 22 (.mov (.t 6)), xo 23 (.mov (.t 7)), xo 24 (.slcs (.t 21) (some (.t 22)) (some (.t 23))), xo 25 (.bsl 9 1 1 [(.v (.string ⟨#[]⟩))] [(0, 1, (.t 24))]), xo 26 (.app 9 1 16 (.t 20) (.t 25)), xo 5 (.mov (.t 26))])
 (.reg [xo 27 (.mov (.t 7)), xo 28 (.bini .add (.t 27) (.c (.int .i64 (1)))), xo 6 (.mov (.t 28))]))
 .skip)))
 (.reg [xo 13 (.mov (.t 7)), xo 14 (.bini .add (.t 13) (.c (.int .i64 (1)))), xo 7 (.mov (.t 14))]))))))
 (.seq (.reg [xo 29 (.mov (.t 5)), xo 30 (.mov (.t 0)), xo 31 (.mov (.t 6)), xo 32 (.slcs (.t 30) (some (.t 31)) none), xo 33 (.bsl 9 1 1 [(.v (.string ⟨#[]⟩))] [(0, 1, (.t 32))]), xo 34 (.app 9 1 16 (.t 29) (.t 33)), xo 4 (.mov (.t 34))])
 .ret)))))⟩
theorem t_hydrantref03_Parts : trFn Tryz.prog 129 [] [[5, 6, 7]] = some f_hydrantref03_Parts := by kernel_rfl

abbrev n_stringslite_IndexByte : Nat := 130
end Go.Proofs.YtjaeeadfmnokeaaGreat

