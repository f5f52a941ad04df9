/- The functions, as the evaluator reads them: each is what the given program's code says (checked by the kernel). -/
import Derived.Test.YtkkhdnddplkobaaGreatSxB
import Derived.Test.YtkkhdnddplkobaaGreatRows
namespace Go.Proofs.YtkkhdnddplkobaaGreat
open Go.Proofs.YtkkhdnddplkobaaGreat.Sx
abbrev ty_int : Nat := 3
abbrev ty_bool : Nat := 4
abbrev ty_string : Nat := 9
abbrev ty_sl_string : Nat := 22
abbrev ty_sl_api_Rule : Nat := 23
abbrev ty_sl_api_Cluster : Nat := 24
abbrev ty_api_Snap : Nat := 26
abbrev ty_sl_int : Nat := 28
abbrev ty_api_World : Nat := 34
abbrev ty_api_Errno : Nat := 35
abbrev ty_api_Version : Nat := 40
abbrev ty_api_Config : Nat := 51
abbrev ty_uint64 : Nat := 54
abbrev ty_sl_bool : Nat := 69
abbrev ty_api_Cluster : Nat := 71
abbrev ty_api_Listen : Nat := 77
abbrev ty_api_Group : Nat := 80
abbrev ty_api_End : Nat := 82
abbrev ty_api_Retired : Nat := 95
abbrev ty_sl_uint64 : Nat := 106
abbrev ty_api_Rule : Nat := 122
abbrev ty_world_cloner : Nat := 133
abbrev ty_api_Route : Nat := 157
abbrev n_hydrantlaw18_WorldNew : Nat := 3
def f_hydrantlaw18_WorldNew : FnI := ⟨84, [.tmp 6],
 (.seq (.reg [xo 3 (.box 26 (.t 0)), xo 6 (.mov (.b false))])
 (.seq (.seq (.reg [xo 15 (.load true 3 (.t 3)), xo 16 (.call 7 [(.t 15)]), xo 17 (.mov (.t 16)), xg 18 (.mov (.t 1)) 17 false, xg 19 (.len false (.t 18)) 17 false, xg 20 (.bini .gtr (.t 19) (.c (.int .i64 (100)))) 17 false, xo 21 (.pick (.t 17) (.b true) (.t 20))])
 (.cond (.t 21)
 (.seq (.reg [xo 6 (.mov (.b true))])
 .ret)
 .skip))
 (.seq (.reg [xo 23 (.load true 3 (.t 3)), xo 24 (.mov (.t 1)), xo 25 (.mov (.t 2)), xo 26 (.call 8 [(.t 23), (.t 24), (.t 25)]), xo 22 (.mov (.t 26)), xo 27 (.ext 0 (.t 22)), xo 28 (.ext 1 (.t 22)), xo 7 (.alloc 34 [(.v (.int .i64 (0))), (.v (.int .i64 (0))), (.v (.int .i64 (0))), (.v (.slice none 0 0)), (.v (.slice none 0 0)), (.v (.slice none 0 0)), (.v (.slice none 0 0)), (.v (.slice none 0 0))]), xn (.store 8 (.t 7) (.t 27)), xo 8 (.mov (.t 28))])
 (.seq (.reg [xo 30 (.load true 3 (.t 3)), xo 31 (.mov (.t 1)), xo 32 (.mov (.t 2)), xo 33 (.call 9 [(.t 30), (.t 31), (.t 32)]), xo 29 (.mov (.t 33)), xo 34 (.ext 0 (.t 29)), xo 35 (.ext 1 (.t 29)), xo 9 (.alloc 34 [(.v (.int .i64 (0))), (.v (.int .i64 (0))), (.v (.int .i64 (0))), (.v (.slice none 0 0)), (.v (.slice none 0 0)), (.v (.slice none 0 0)), (.v (.slice none 0 0)), (.v (.slice none 0 0))]), xn (.store 8 (.t 9) (.t 34)), xo 10 (.mov (.t 35))])
 (.seq (.reg [xo 37 (.load true 3 (.t 3)), xo 38 (.call 10 [(.t 37)]), xo 36 (.mov (.t 38)), xo 39 (.ext 0 (.t 36)), xo 40 (.ext 1 (.t 36)), xo 11 (.alloc 40 [(.v (.slice none 0 0)), (.v (.slice none 0 0)), (.v (.slice none 0 0)), (.v (.slice none 0 0)), (.v (.bool false))]), xn (.store 5 (.t 11) (.t 39)), xo 12 (.mov (.t 40))])
 (.seq (.reg [xo 42 (.load true 3 (.t 3)), xo 43 (.call 11 [(.t 42)]), xo 41 (.mov (.t 43)), xo 44 (.ext 0 (.t 41)), xo 45 (.ext 1 (.t 41)), xo 13 (.alloc 40 [(.v (.slice none 0 0)), (.v (.slice none 0 0)), (.v (.slice none 0 0)), (.v (.slice none 0 0)), (.v (.bool false))]), xn (.store 5 (.t 13) (.t 44)), xo 14 (.mov (.t 45))])
 (.seq (.reg [xo 46 (.call 12 []), xo 47 (.mov (.t 46)), xg 48 (.load true 8 (.t 7)) 47 true, xg 49 (.load true 8 (.t 9)) 47 true, xg 50 (.call 13 [(.t 48), (.t 49)]) 47 true, xo 51 (.pick (.t 47) (.t 50) (.b false)), xo 52 (.mov (.t 51)), xg 53 (.mov (.t 8)) 52 true, xg 54 (.mov (.t 10)) 52 true, xg 55 (.bini .eql (.t 53) (.t 54)) 52 true, xo 56 (.pick (.t 52) (.t 55) (.b false)), xo 57 (.mov (.t 56)), xg 58 (.load true 5 (.t 11)) 57 true, xg 59 (.load true 5 (.t 13)) 57 true, xg 60 (.call 14 [(.t 58), (.t 59)]) 57 true, xo 61 (.pick (.t 57) (.t 60) (.b false)), xo 62 (.mov (.t 61)), xg 63 (.mov (.t 12)) 62 true, xg 64 (.mov (.t 14)) 62 true, xg 65 (.bini .eql (.t 63) (.t 64)) 62 true, xo 66 (.pick (.t 62) (.t 65) (.b false)), xo 67 (.mov (.t 66)), xg 68 (.mov (.t 8)) 67 true, xg 69 (.bini .neq (.t 68) (.c (.int .i64 (0)))) 67 true, xg 70 (.mov (.t 69)) 67 true, xg 71 (.load true 8 (.t 7)) 70 false, xg 72 (.call 15 [(.t 71)]) 70 false, xg 73 (.mov (.t 72)) 70 false, xg 74 (.load true 8 (.t 7)) 73 true, xg 75 (.call 16 [(.t 74)]) 73 true, xg 76 (.bini .eql (.t 75) (.c (.int .i64 (0)))) 73 true, xg 77 (.pick (.t 73) (.t 76) (.b false)) 70 false, xg 78 (.mov (.t 77)) 70 false, xg 79 (.load true 3 (.t 3)) 78 true, xg 80 (.call 17 [(.t 79)]) 78 true, xg 81 (.pick (.t 78) (.t 80) (.b false)) 70 false, xg 82 (.pick (.t 70) (.b true) (.t 81)) 67 true, xo 83 (.pick (.t 67) (.t 82) (.b false)), xo 6 (.mov (.t 83))])
 .ret)))))))⟩
theorem t_hydrantlaw18_WorldNew : trFn Tryz.prog 3 [] [] = some f_hydrantlaw18_WorldNew := by kernel_rfl

abbrev n_hydrantref18_BigSnap : Nat := 7
def f_hydrantref18_BigSnap : FnI := ⟨44, [.tmp 2],
 (.seq (.reg [xo 1 (.box 26 (.t 0)), xo 2 (.mov (.b false))])
 (.seq (.seq (.reg [xo 4 (.fadr 0 (.t 1)), xo 5 (.load false 1 (.t 4)), xo 6 (.len false (.t 5)), xo 7 (.bini .gtr (.t 6) (.c (.int .i64 (20)))), xo 8 (.mov (.t 7)), xg 9 (.fadr 2 (.t 1)) 8 false, xg 10 (.load false 1 (.t 9)) 8 false, xg 11 (.len false (.t 10)) 8 false, xg 12 (.bini .gtr (.t 11) (.c (.int .i64 (20)))) 8 false, xo 13 (.pick (.t 8) (.b true) (.t 12)), xo 14 (.mov (.t 13)), xg 15 (.fadr 1 (.t 1)) 14 false, xg 16 (.load false 1 (.t 15)) 14 false, xg 17 (.call 30 [(.t 16)]) 14 false, xo 18 (.pick (.t 14) (.b true) (.t 17))])
 (.cond (.t 18)
 (.seq (.reg [xo 2 (.mov (.b true))])
 .ret)
 .skip))
 (.seq (.seq (.reg [xo 3 (.mov (.c (.int .i64 (0))))])
 (.block 0
 (.loop [3] [19, 20, 21, 22, 23, 26, 27, 28, 29, 30, 31, 32, 33, 34, 35, 36, 37, 38, 39, 40, 41, 42, 43, 2, 24, 25, 3]
 (.seq (.seq (.reg [xo 19 (.mov (.t 3)), xo 20 (.fadr 2 (.t 1)), xo 21 (.load false 1 (.t 20)), xo 22 (.len false (.t 21)), xo 23 (.bini .lss (.t 19) (.t 22))])
 (.cond (.t 23)
 .skip
 (.exit 0)))
 (.seq (.block 1
 (.seq (.reg [xo 26 (.fadr 2 (.t 1)), xo 27 (.load false 1 (.t 26)), xo 28 (.mov (.t 3)), xo 29 (.iadr 4 (.t 27) (.t 28)), xo 30 (.fadr 3 (.t 29)), xo 31 (.load false 1 (.t 30)), xo 32 (.len false (.t 31)), xo 33 (.bini .gtr (.t 32) (.c (.int .i64 (20)))), xo 34 (.mov (.t 33)), xg 35 (.fadr 2 (.t 1)) 34 false, xg 36 (.load false 1 (.t 35)) 34 false, xg 37 (.mov (.t 3)) 34 false, xg 38 (.iadr 4 (.t 36) (.t 37)) 34 false, xg 39 (.fadr 0 (.t 38)) 34 false, xg 40 (.load false 1 (.t 39)) 34 false, xg 41 (.len true (.t 40)) 34 false, xg 42 (.bini .gtr (.t 41) (.c (.int .i64 (100)))) 34 false, xo 43 (.pick (.t 34) (.b true) (.t 42))])
 (.cond (.t 43)
 (.seq (.reg [xo 2 (.mov (.b true))])
 .ret)
 .skip)))
 (.reg [xo 24 (.mov (.t 3)), xo 25 (.bini .add (.t 24) (.c (.int .i64 (1)))), xo 3 (.mov (.t 25))]))))))
 (.seq (.reg [xo 2 (.mov (.b false))])
 .ret))))⟩
theorem t_hydrantref18_BigSnap : trFn Tryz.prog 7 [] [[3]] = some f_hydrantref18_BigSnap := by kernel_rfl

abbrev n_world_New : Nat := 8
def f_world_New : FnI := ⟨64, [.cell 6 8 true, .tmp 7],
 (.seq (.reg [xo 3 (.box 26 (.t 0)), xo 6 (.alloc 34 [(.v (.int .i64 (0))), (.v (.int .i64 (0))), (.v (.int .i64 (0))), (.v (.slice none 0 0)), (.v (.slice none 0 0)), (.v (.slice none 0 0)), (.v (.slice none 0 0)), (.v (.slice none 0 0))]), xo 7 (.mov (.c (.int .i64 (0))))])
 (.seq (.reg [xo 15 (.load true 3 (.t 3)), xo 16 (.call 10 [(.t 15)]), xo 14 (.mov (.t 16)), xo 17 (.ext 0 (.t 14)), xo 18 (.ext 1 (.t 14)), xo 8 (.alloc 40 [(.v (.slice none 0 0)), (.v (.slice none 0 0)), (.v (.slice none 0 0)), (.v (.slice none 0 0)), (.v (.bool false))]), xn (.store 5 (.t 8) (.t 17)), xo 9 (.mov (.t 18))])
 (.seq (.seq (.reg [xo 19 (.mov (.t 9)), xo 20 (.bini .neq (.t 19) (.c (.int .i64 (0))))])
 (.cond (.t 20)
 (.seq (.reg [xo 21 (.build [(.v (.int .i64 (0))), (.v (.int .i64 (0))), (.v (.int .i64 (0))), (.v (.slice none 0 0)), (.v (.slice none 0 0)), (.v (.slice none 0 0)), (.v (.slice none 0 0)), (.v (.slice none 0 0))] []), xo 22 (.mov (.t 9)), xn (.store 8 (.t 6) (.t 21)), xo 7 (.mov (.t 22))])
 .ret)
 .skip))
 (.seq (.reg [xo 24 (.mov (.t 2)), xo 25 (.call 31 [(.t 24)]), xo 23 (.mov (.t 25)), xo 26 (.ext 0 (.t 23)), xo 27 (.ext 1 (.t 23)), xo 10 (.mov (.t 26)), xo 9 (.mov (.t 27))])
 (.seq (.seq (.reg [xo 28 (.mov (.t 9)), xo 29 (.bini .neq (.t 28) (.c (.int .i64 (0))))])
 (.cond (.t 29)
 (.seq (.reg [xo 30 (.build [(.v (.int .i64 (0))), (.v (.int .i64 (0))), (.v (.int .i64 (0))), (.v (.slice none 0 0)), (.v (.slice none 0 0)), (.v (.slice none 0 0)), (.v (.slice none 0 0)), (.v (.slice none 0 0))] []), xo 31 (.mov (.t 9)), xn (.store 8 (.t 6) (.t 30)), xo 7 (.mov (.t 31))])
 .ret)
 .skip))
 (.seq (.regD [11] (.op ⟨0, true, [], xo 32 (.load true 5 (.t 8))⟩
 (.op ⟨2, false, [], xo 34 (.mov (.t 2))⟩
 (.op ⟨4, false, [], xo 36 (.mov (.t 10))⟩
 (.alt (.op ⟨1, false, [], xo 33 (.bsl 40 5 1 [(.v (.slice none 0 0)), (.v (.slice none 0 0)), (.v (.slice none 0 0)), (.v (.slice none 0 0)), (.v (.bool false))] [(0, 5, (.t 32))])⟩
 (.op ⟨3, false, [], xo 35 (.msl 3 1 8 [(.int .i64 (0))] (.t 34) (.t 34))⟩
 (.op ⟨5, false, [], xo 37 (.build [(.v (.int .i64 (0))), (.v (.int .i64 (0))), (.v (.int .i64 (0))), (.v (.slice none 0 0)), (.v (.slice none 0 0)), (.v (.slice none 0 0)), (.v (.slice none 0 0)), (.v (.slice none 0 0))] [(4, 1, (.t 33)), (3, 1, (.t 35)), (6, 1, (.t 36))])⟩
 (.bring ⟨6, false, [], xo 11 (.alloc 34 [(.v (.int .i64 (0))), (.v (.int .i64 (0))), (.v (.int .i64 (0))), (.v (.slice none 0 0)), (.v (.slice none 0 0)), (.v (.slice none 0 0)), (.v (.slice none 0 0)), (.v (.slice none 0 0))])⟩
 (.op ⟨7, false, [], xn (.store 8 (.t 11) (.t 37))⟩
 .nil)))))
 (.op ⟨3, false, [], xo 35 (.msl 3 1 8 [(.int .i64 (0))] (.t 34) (.t 34))⟩
 (.op ⟨1, false, [], xo 33 (.bsl 40 5 1 [(.v (.slice none 0 0)), (.v (.slice none 0 0)), (.v (.slice none 0 0)), (.v (.slice none 0 0)), (.v (.bool false))] [(0, 5, (.t 32))])⟩
 (.op ⟨5, false, [], xo 37 (.build [(.v (.int .i64 (0))), (.v (.int .i64 (0))), (.v (.int .i64 (0))), (.v (.slice none 0 0)), (.v (.slice none 0 0)), (.v (.slice none 0 0)), (.v (.slice none 0 0)), (.v (.slice none 0 0))] [(4, 1, (.t 33)), (3, 1, (.t 35)), (6, 1, (.t 36))])⟩
 (.bring ⟨6, false, [], xo 11 (.alloc 34 [(.v (.int .i64 (0))), (.v (.int .i64 (0))), (.v (.int .i64 (0))), (.v (.slice none 0 0)), (.v (.slice none 0 0)), (.v (.slice none 0 0)), (.v (.slice none 0 0)), (.v (.slice none 0 0))])⟩
 (.op ⟨7, false, [], xn (.store 8 (.t 11) (.t 37))⟩
 .nil))))))))))
 (.seq (.seq (.reg [xo 38 (.mov (.t 1)), xo 39 (.len false (.t 38)), xo 40 (.mov (.c (.int .i64 (0))))])
 (.block 0
 (.loop [40] [41, 42, 43, 13, 44, 45, 46, 47, 48, 49, 50, 51, 52, 53, 54, 7, 55, 56, 57, 58, 59, 60, 61, 62, 40]
 (.seq (.reg [xo 41 (.bini .lss (.t 40) (.t 39))])
 (.seq (.cond (.t 41)
 .skip
 (.exit 0))
 (.seq (.block 1
 (.seq (.reg [xo 42 (.iadr 1 (.t 38) (.t 40)), xo 43 (.load false 1 (.t 42)), xo 13 (.mov (.t 43))])
 (.seq (.seq (.reg [xo 44 (.mov (.t 13)), xo 45 (.call 32 [(.t 44)]), xo 46 (.not (.t 45)), xo 47 (.mov (.t 46)), xg 48 (.fadr 5 (.t 11)) 47 false, xg 49 (.load false 1 (.t 48)) 47 false, xg 50 (.mov (.t 13)) 47 false, xg 51 (.call 33 [(.t 49), (.t 50)]) 47 false, xg 52 (.bini .geq (.t 51) (.c (.int .i64 (0)))) 47 false, xo 53 (.pick (.t 47) (.b true) (.t 52))])
 (.cond (.t 53)
 (.seq (.reg [xo 54 (.build [(.v (.int .i64 (0))), (.v (.int .i64 (0))), (.v (.int .i64 (0))), (.v (.slice none 0 0)), (.v (.slice none 0 0)), (.v (.slice none 0 0)), (.v (.slice none 0 0)), (.v (.slice none 0 0))] []), xn (.store 8 (.t 6) (.t 54)), xo 7 (.mov (.c (.int .i64 (1))))])
 .ret)
 .skip))
 (.reg [xo 55 (.fadr 5 (.t 11)), xo 56 (.load false 1 (.t 55)), xo 57 (.mov (.t 13)), xo 58 (.build [(.v (.string ⟨#[]⟩)), (.v (.bool false)), (.v (.int .i64 (0))), (.v (.bool false))] [(0, 1, (.t 57))]), xo 59 (.bsl 77 4 1 [(.v (.string ⟨#[]⟩)), (.v (.bool false)), (.v (.int .i64 (0))), (.v (.bool false))] [(0, 4, (.t 58))]), xo 60 (.app 77 4 40 (.t 56) (.t 59)), xo 61 (.fadr 5 (.t 11)), xn (.store 1 (.t 61) (.t 60))]))))
 (.reg [xo 62 (.bini .add (.t 40) (.c (.int .i64 (1)))), xo 40 (.mov (.t 62))])))))))
 (.seq (.reg [xo 63 (.load true 8 (.t 11)), xn (.store 8 (.t 6) (.t 63)), xo 7 (.mov (.c (.int .i64 (0))))])
 .ret))))))))⟩
theorem t_world_New : trFn Tryz.prog 8 [([6], (.first 0 (.first 2 (.first 4 (.alt (.exec 1 (.exec 3 (.first 5 (.bring 6 (.exec 7 .nil))))) (.exec 3 (.exec 1 (.first 5 (.bring 6 (.exec 7 .nil))))))))))] [[40]] = some f_world_New := by kernel_rfl

abbrev n_hydrantref18_New : Nat := 9
def f_hydrantref18_New : FnI := ⟨82, [.cell 6 8 true, .tmp 7],
 (.seq (.reg [xo 3 (.box 26 (.t 0)), xo 6 (.alloc 34 [(.v (.int .i64 (0))), (.v (.int .i64 (0))), (.v (.int .i64 (0))), (.v (.slice none 0 0)), (.v (.slice none 0 0)), (.v (.slice none 0 0)), (.v (.slice none 0 0)), (.v (.slice none 0 0))]), xo 7 (.mov (.c (.int .i64 (0))))])
 (.seq (.reg [xo 14 (.load true 3 (.t 3)), xo 15 (.call 11 [(.t 14)]), xo 13 (.mov (.t 15)), xo 16 (.ext 0 (.t 13)), xo 17 (.ext 1 (.t 13)), xo 8 (.alloc 40 [(.v (.slice none 0 0)), (.v (.slice none 0 0)), (.v (.slice none 0 0)), (.v (.slice none 0 0)), (.v (.bool false))]), xn (.store 5 (.t 8) (.t 16)), xo 9 (.mov (.t 17))])
 (.seq (.seq (.reg [xo 18 (.mov (.t 9)), xo 19 (.bini .neq (.t 18) (.c (.int .i64 (0)))), xo 20 (.mov (.t 19)), xg 21 (.mov (.t 2)) 20 false, xg 22 (.bini .lss (.t 21) (.c (.int .i64 (1)))) 20 false, xo 23 (.pick (.t 20) (.b true) (.t 22)), xo 24 (.mov (.t 23)), xg 25 (.mov (.t 2)) 24 false, xg 26 (.bini .gtr (.t 25) (.c (.int .i64 (8)))) 24 false, xo 27 (.pick (.t 24) (.b true) (.t 26))])
 (.cond (.t 27)
 (.seq (.reg [xo 28 (.build [(.v (.int .i64 (0))), (.v (.int .i64 (0))), (.v (.int .i64 (0))), (.v (.slice none 0 0)), (.v (.slice none 0 0)), (.v (.slice none 0 0)), (.v (.slice none 0 0)), (.v (.slice none 0 0))] []), xn (.store 8 (.t 6) (.t 28)), xo 7 (.mov (.c (.int .i64 (1))))])
 .ret)
 .skip))
 (.seq (.reg [xo 29 (.load true 5 (.t 8)), xo 30 (.bsl 40 5 1 [(.v (.slice none 0 0)), (.v (.slice none 0 0)), (.v (.slice none 0 0)), (.v (.slice none 0 0)), (.v (.bool false))] [(0, 5, (.t 29))]), xo 31 (.build [(.v (.int .i64 (0))), (.v (.int .i64 (0))), (.v (.int .i64 (0))), (.v (.slice none 0 0)), (.v (.slice none 0 0)), (.v (.slice none 0 0)), (.v (.slice none 0 0)), (.v (.slice none 0 0))] [(4, 1, (.t 30))]), xo 10 (.alloc 34 [(.v (.int .i64 (0))), (.v (.int .i64 (0))), (.v (.int .i64 (0))), (.v (.slice none 0 0)), (.v (.slice none 0 0)), (.v (.slice none 0 0)), (.v (.slice none 0 0)), (.v (.slice none 0 0))]), xn (.store 8 (.t 10) (.t 31))])
 (.seq (.seq (.reg [xo 11 (.mov (.c (.int .i64 (0))))])
 (.block 0
 (.loop [11] [32, 33, 34, 35, 38, 39, 40, 41, 42, 43, 44, 45, 46, 47, 48, 49, 50, 51, 52, 53, 54, 7, 55, 56, 57, 58, 59, 60, 61, 62, 63, 64, 36, 37, 11]
 (.seq (.seq (.reg [xo 32 (.mov (.t 11)), xo 33 (.mov (.t 1)), xo 34 (.len false (.t 33)), xo 35 (.bini .lss (.t 32) (.t 34))])
 (.cond (.t 35)
 .skip
 (.exit 0)))
 (.seq (.block 1
 (.seq (.seq (.regD [] (.op ⟨0, false, [], xo 38 (.mov (.t 1))⟩
 (.op ⟨1, false, [], xo 39 (.mov (.t 11))⟩
 (.op ⟨2, true, [], xo 40 (.iadr 1 (.t 38) (.t 39))⟩
 (.op ⟨3, true, [], xo 41 (.load false 1 (.t 40))⟩
 (.op ⟨4, false, [], xo 42 (.call 34 [(.t 41)])⟩
 (.op ⟨5, false, [], xo 43 (.not (.t 42))⟩
 (.op ⟨6, false, [], xo 44 (.mov (.t 43))⟩
 (.op ⟨7, false, [], xg 45 (.fadr 5 (.t 10)) 44 false⟩
 (.op ⟨8, true, [], xg 46 (.load false 1 (.t 45)) 44 false⟩
 (.op ⟨9, false, [], xg 47 (.mov (.t 1)) 44 false⟩
 (.op ⟨10, false, [], xg 48 (.mov (.t 11)) 44 false⟩
 (.op ⟨11, true, [], xg 49 (.iadr 1 (.t 47) (.t 48)) 44 false⟩
 (.op ⟨12, true, [], xg 50 (.load false 1 (.t 49)) 44 false⟩
 (.op ⟨13, false, [], xg 51 (.call 35 [(.t 46), (.t 50)]) 44 false⟩
 (.op ⟨14, false, [], xg 52 (.bini .geq (.t 51) (.c (.int .i64 (0)))) 44 false⟩
 (.op ⟨15, false, [], xo 53 (.pick (.t 44) (.b true) (.t 52))⟩
 .nil)))))))))))))))))
 (.cond (.t 53)
 (.seq (.reg [xo 54 (.build [(.v (.int .i64 (0))), (.v (.int .i64 (0))), (.v (.int .i64 (0))), (.v (.slice none 0 0)), (.v (.slice none 0 0)), (.v (.slice none 0 0)), (.v (.slice none 0 0)), (.v (.slice none 0 0))] []), xn (.store 8 (.t 6) (.t 54)), xo 7 (.mov (.c (.int .i64 (1))))])
 .ret)
 .skip))
 (.regD [] (.op ⟨0, false, [], xo 55 (.fadr 5 (.t 10))⟩
 (.op ⟨1, true, [], xo 56 (.load false 1 (.t 55))⟩
 (.op ⟨2, false, [], xo 57 (.mov (.t 1))⟩
 (.op ⟨3, false, [], xo 58 (.mov (.t 11))⟩
 (.op ⟨4, true, [], xo 59 (.iadr 1 (.t 57) (.t 58))⟩
 (.op ⟨5, true, [], xo 60 (.load false 1 (.t 59))⟩
 (.op ⟨6, false, [], xo 61 (.build [(.v (.string ⟨#[]⟩)), (.v (.bool false)), (.v (.int .i64 (0))), (.v (.bool false))] [(0, 1, (.t 60))])⟩
 (.op ⟨7, false, [], xo 62 (.bsl 77 4 1 [(.v (.string ⟨#[]⟩)), (.v (.bool false)), (.v (.int .i64 (0))), (.v (.bool false))] [(0, 4, (.t 61))])⟩
 (.op ⟨8, false, [], xo 63 (.app 77 4 40 (.t 56) (.t 62))⟩
 (.op ⟨9, false, [], xo 64 (.fadr 5 (.t 10))⟩
 (.op ⟨10, false, [], xn (.store 1 (.t 64) (.t 63))⟩
 .nil))))))))))))))
 (.reg [xo 36 (.mov (.t 11)), xo 37 (.bini .add (.t 36) (.c (.int .i64 (1)))), xo 11 (.mov (.t 37))]))))))
 (.seq (.seq (.reg [xo 12 (.mov (.c (.int .i64 (0))))])
 (.block 2
 (.loop [12] [65, 66, 67, 70, 71, 72, 73, 74, 68, 69, 12]
 (.seq (.seq (.reg [xo 65 (.mov (.t 12)), xo 66 (.mov (.t 2)), xo 67 (.bini .lss (.t 65) (.t 66))])
 (.cond (.t 67)
 .skip
 (.exit 2)))
 (.seq (.block 3
 (.reg [xo 70 (.fadr 3 (.t 10)), xo 71 (.load false 1 (.t 70)), xo 72 (.bsl 3 1 1 [(.v (.int .i64 (0)))] [(0, 1, (.c (.int .i64 (0))))]), xo 73 (.app 3 1 8 (.t 71) (.t 72)), xo 74 (.fadr 3 (.t 10)), xn (.store 1 (.t 74) (.t 73))]))
 (.reg [xo 68 (.mov (.t 12)), xo 69 (.bini .add (.t 68) (.c (.int .i64 (1)))), xo 12 (.mov (.t 69))]))))))
 (.seq (.reg [xo 76 (.mov (.t 2)), xo 77 (.call 36 [(.t 76)]), xo 75 (.mov (.t 77)), xo 78 (.ext 0 (.t 75)), xo 79 (.ext 1 (.t 75)), xo 80 (.fadr 6 (.t 10)), xn (.store 1 (.t 80) (.t 78))])
 (.seq (.reg [xo 81 (.load true 8 (.t 10)), xn (.store 8 (.t 6) (.t 81)), xo 7 (.mov (.c (.int .i64 (0))))])
 .ret))))))))⟩
theorem t_hydrantref18_New : trFn Tryz.prog 9 [([], (.first 0 (.first 1 (.first 2 (.first 3 (.exec 4 (.first 5 (.first 6 (.first 7 (.first 8 (.first 9 (.first 10 (.first 11 (.first 12 (.exec 13 (.first 14 (.first 15 .nil))))))))))))))))), ([], (.first 0 (.first 1 (.first 2 (.first 3 (.first 4 (.first 5 (.first 6 (.exec 7 (.exec 8 (.first 9 (.exec 10 .nil))))))))))))] [[11], [12]] = some f_hydrantref18_New := by kernel_rfl

abbrev n_world_Cells : Nat := 10
def f_world_Cells : FnI := ⟨53, [.cell 2 5 true, .tmp 3],
 (.seq (.reg [xo 1 (.box 26 (.t 0)), xo 2 (.alloc 40 [(.v (.slice none 0 0)), (.v (.slice none 0 0)), (.v (.slice none 0 0)), (.v (.slice none 0 0)), (.v (.bool false))]), xo 3 (.mov (.c (.int .i64 (0))))])
 (.seq (.seq (.reg [xo 10 (.load true 3 (.t 1)), xo 11 (.call 17 [(.t 10)]), xo 12 (.not (.t 11))])
 (.cond (.t 12)
 (.seq (.reg [xo 13 (.build [(.v (.slice none 0 0)), (.v (.slice none 0 0)), (.v (.slice none 0 0)), (.v (.slice none 0 0)), (.v (.bool false))] []), xn (.store 5 (.t 2) (.t 13)), xo 3 (.mov (.c (.int .i64 (1))))])
 .ret)
 .skip))
 (.seq (.reg [xo 14 (.load true 3 (.t 1)), xo 15 (.build [(.v (.slice none 0 0)), (.v (.slice none 0 0)), (.v (.slice none 0 0)), (.v (.slice none 0 0)), (.v (.bool false))] [(0, 3, (.t 14))]), xo 4 (.alloc 40 [(.v (.slice none 0 0)), (.v (.slice none 0 0)), (.v (.slice none 0 0)), (.v (.slice none 0 0)), (.v (.bool false))]), xn (.store 5 (.t 4) (.t 15))])
 (.seq (.seq (.reg [xo 16 (.fadr 2 (.t 1)), xo 17 (.load false 1 (.t 16)), xo 18 (.len false (.t 17)), xo 19 (.mov (.c (.int .i64 (0))))])
 (.block 0
 (.loop [19] [20, 21, 22, 6, 7, 23, 24, 25, 26, 27, 29, 30, 31, 28, 32, 33, 8, 9, 34, 35, 36, 37, 3, 38, 39, 40, 41, 42, 43, 44, 45, 46, 47, 48, 49, 50, 51, 19]
 (.seq (.reg [xo 20 (.bini .lss (.t 19) (.t 18))])
 (.seq (.cond (.t 20)
 .skip
 (.exit 0))
 (.seq (.block 1
 (.seq (.reg [xo 21 (.iadr 4 (.t 17) (.t 19)), xo 22 (.load true 4 (.t 21)), xo 6 (.alloc 71 [(.v (.string ⟨#[]⟩)), (.v (.int .i64 (0))), (.v (.int .i64 (0))), (.v (.slice none 0 0))]), xn (.store 4 (.t 6) (.t 22))])
 (.seq (.reg [xo 7 (.alloc 80 [(.v (.int .u64 (0))), (.v (.slice none 0 0))])])
 (.seq (.seq (.reg [xo 23 (.fadr 3 (.t 6)), xo 24 (.load false 1 (.t 23)), xo 25 (.len false (.t 24)), xo 26 (.mov (.c (.int .i64 (0))))])
 (.block 2
 (.loop [26] [27, 29, 30, 31, 28, 32, 33, 8, 9, 34, 35, 36, 37, 3, 38, 39, 40, 41, 42, 43, 44, 26]
 (.seq (.reg [xo 27 (.bini .lss (.t 26) (.t 25))])
 (.seq (.cond (.t 27)
 .skip
 (.exit 2))
 (.seq (.block 3
 (.seq (.reg [xo 29 (.fadr 2 (.t 6)), xo 30 (.load false 1 (.t 29)), xo 31 (.call 37 [(.t 30)]), xo 28 (.mov (.t 31)), xo 32 (.ext 0 (.t 28)), xo 33 (.ext 1 (.t 28)), xo 8 (.alloc 82 [(.v (.int .u64 (0))), (.v (.slice none 0 0)), (.v (.int .i64 (0)))]), xn (.store 3 (.t 8) (.t 32)), xo 9 (.mov (.t 33))])
 (.seq (.seq (.reg [xo 34 (.mov (.t 9)), xo 35 (.bini .neq (.t 34) (.c (.int .i64 (0))))])
 (.cond (.t 35)
 (.seq (.reg [xo 36 (.build [(.v (.slice none 0 0)), (.v (.slice none 0 0)), (.v (.slice none 0 0)), (.v (.slice none 0 0)), (.v (.bool false))] []), xo 37 (.mov (.t 9)), xn (.store 5 (.t 2) (.t 36)), xo 3 (.mov (.t 37))])
 .ret)
 .skip))
 (.reg [xo 38 (.fadr 1 (.t 7)), xo 39 (.load false 1 (.t 38)), xo 40 (.load true 3 (.t 8)), xo 41 (.bsl 82 3 1 [(.v (.int .u64 (0))), (.v (.slice none 0 0)), (.v (.int .i64 (0)))] [(0, 3, (.t 40))]), xo 42 (.app 82 3 40 (.t 39) (.t 41)), xo 43 (.fadr 1 (.t 7)), xn (.store 1 (.t 43) (.t 42))]))))
 (.reg [xo 44 (.bini .add (.t 26) (.c (.int .i64 (1)))), xo 26 (.mov (.t 44))])))))))
 (.reg [xo 45 (.fadr 3 (.t 4)), xo 46 (.load false 1 (.t 45)), xo 47 (.load true 2 (.t 7)), xo 48 (.bsl 80 2 1 [(.v (.int .u64 (0))), (.v (.slice none 0 0))] [(0, 2, (.t 47))]), xo 49 (.app 80 2 32 (.t 46) (.t 48)), xo 50 (.fadr 3 (.t 4)), xn (.store 1 (.t 50) (.t 49))])))))
 (.reg [xo 51 (.bini .add (.t 19) (.c (.int .i64 (1)))), xo 19 (.mov (.t 51))])))))))
 (.seq (.reg [xo 52 (.load true 5 (.t 4)), xn (.store 5 (.t 2) (.t 52)), xo 3 (.mov (.c (.int .i64 (0))))])
 .ret)))))⟩
theorem t_world_Cells : trFn Tryz.prog 10 [] [[19], [26]] = some f_world_Cells := by kernel_rfl

abbrev n_hydrantref18_Cells : Nat := 11
def f_hydrantref18_Cells : FnI := ⟨58, [.cell 2 5 true, .tmp 3],
 (.seq (.reg [xo 1 (.box 26 (.t 0)), xo 2 (.alloc 40 [(.v (.slice none 0 0)), (.v (.slice none 0 0)), (.v (.slice none 0 0)), (.v (.slice none 0 0)), (.v (.bool false))]), xo 3 (.mov (.c (.int .i64 (0))))])
 (.seq (.seq (.reg [xo 10 (.load true 3 (.t 1)), xo 11 (.call 38 [(.t 10)]), xo 12 (.not (.t 11))])
 (.cond (.t 12)
 (.seq (.reg [xo 13 (.build [(.v (.slice none 0 0)), (.v (.slice none 0 0)), (.v (.slice none 0 0)), (.v (.slice none 0 0)), (.v (.bool false))] []), xn (.store 5 (.t 2) (.t 13)), xo 3 (.mov (.c (.int .i64 (1))))])
 .ret)
 .skip))
 (.seq (.reg [xo 14 (.load true 3 (.t 1)), xo 15 (.build [(.v (.slice none 0 0)), (.v (.slice none 0 0)), (.v (.slice none 0 0)), (.v (.slice none 0 0)), (.v (.bool false))] [(0, 3, (.t 14))]), xo 4 (.alloc 40 [(.v (.slice none 0 0)), (.v (.slice none 0 0)), (.v (.slice none 0 0)), (.v (.slice none 0 0)), (.v (.bool false))]), xn (.store 5 (.t 4) (.t 15))])
 (.seq (.seq (.reg [xo 5 (.mov (.c (.int .i64 (0))))])
 (.block 0
 (.loop [5] [16, 17, 18, 19, 20, 23, 6, 7, 24, 25, 26, 27, 28, 29, 30, 31, 32, 36, 37, 38, 39, 40, 41, 42, 35, 43, 44, 8, 9, 45, 46, 47, 48, 49, 50, 33, 34, 51, 52, 53, 54, 55, 56, 21, 22, 5]
 (.seq (.seq (.reg [xo 16 (.mov (.t 5)), xo 17 (.fadr 2 (.t 1)), xo 18 (.load false 1 (.t 17)), xo 19 (.len false (.t 18)), xo 20 (.bini .lss (.t 16) (.t 19))])
 (.cond (.t 20)
 .skip
 (.exit 0)))
 (.seq (.block 1
 (.seq (.reg [xo 23 (.build [(.v (.int .u64 (0))), (.v (.slice none 0 0))] []), xo 6 (.alloc 80 [(.v (.int .u64 (0))), (.v (.slice none 0 0))]), xn (.store 2 (.t 6) (.t 23))])
 (.seq (.seq (.reg [xo 7 (.mov (.c (.int .i64 (0))))])
 (.block 2
 (.loop [7] [24, 25, 26, 27, 28, 29, 30, 31, 32, 36, 37, 38, 39, 40, 41, 42, 35, 43, 44, 8, 9, 45, 46, 47, 48, 49, 50, 33, 34, 7]
 (.seq (.seq (.reg [xo 24 (.mov (.t 7)), xo 25 (.fadr 2 (.t 1)), xo 26 (.load false 1 (.t 25)), xo 27 (.mov (.t 5)), xo 28 (.iadr 4 (.t 26) (.t 27)), xo 29 (.fadr 3 (.t 28)), xo 30 (.load false 1 (.t 29)), xo 31 (.len false (.t 30)), xo 32 (.bini .lss (.t 24) (.t 31))])
 (.cond (.t 32)
 .skip
 (.exit 2)))
 (.seq (.block 3
 (.seq (.reg [xo 36 (.fadr 2 (.t 1)), xo 37 (.load false 1 (.t 36)), xo 38 (.mov (.t 5)), xo 39 (.iadr 4 (.t 37) (.t 38)), xo 40 (.fadr 2 (.t 39)), xo 41 (.load false 1 (.t 40)), xo 42 (.call 39 [(.t 41)]), xo 35 (.mov (.t 42)), xo 43 (.ext 0 (.t 35)), xo 44 (.ext 1 (.t 35)), xo 8 (.alloc 82 [(.v (.int .u64 (0))), (.v (.slice none 0 0)), (.v (.int .i64 (0)))]), xn (.store 3 (.t 8) (.t 43)), xo 9 (.mov (.t 44))])
 (.reg [xo 45 (.fadr 1 (.t 6)), xo 46 (.load false 1 (.t 45)), xo 47 (.load true 3 (.t 8)), xo 48 (.bsl 82 3 1 [(.v (.int .u64 (0))), (.v (.slice none 0 0)), (.v (.int .i64 (0)))] [(0, 3, (.t 47))]), xo 49 (.app 82 3 40 (.t 46) (.t 48)), xo 50 (.fadr 1 (.t 6)), xn (.store 1 (.t 50) (.t 49))])))
 (.reg [xo 33 (.mov (.t 7)), xo 34 (.bini .add (.t 33) (.c (.int .i64 (1)))), xo 7 (.mov (.t 34))]))))))
 (.reg [xo 51 (.fadr 3 (.t 4)), xo 52 (.load false 1 (.t 51)), xo 53 (.load true 2 (.t 6)), xo 54 (.bsl 80 2 1 [(.v (.int .u64 (0))), (.v (.slice none 0 0))] [(0, 2, (.t 53))]), xo 55 (.app 80 2 32 (.t 52) (.t 54)), xo 56 (.fadr 3 (.t 4)), xn (.store 1 (.t 56) (.t 55))]))))
 (.reg [xo 21 (.mov (.t 5)), xo 22 (.bini .add (.t 21) (.c (.int .i64 (1)))), xo 5 (.mov (.t 22))]))))))
 (.seq (.reg [xo 57 (.load true 5 (.t 4)), xn (.store 5 (.t 2) (.t 57)), xo 3 (.mov (.c (.int .i64 (0))))])
 .ret)))))⟩
theorem t_hydrantref18_Cells : trFn Tryz.prog 11 [] [[5], [7]] = some f_hydrantref18_Cells := by kernel_rfl

abbrev n_hydrantlaw18_made : Nat := 12
def f_hydrantlaw18_made : FnI := ⟨184, [.tmp 0],
 (.seq (.reg [xo 0 (.mov (.b false))])
 (.seq (.reg [xo 14 (.call 40 []), xo 15 (.bsl 9 1 2 [(.v (.string ⟨#[]⟩)), (.v (.string ⟨#[]⟩))] [(0, 1, (.c (.string ⟨#[105, 110]⟩))), (1, 1, (.c (.string ⟨#[119, 101, 98]⟩)))]), xo 16 (.call 8 [(.t 14), (.t 15), (.c (.int .i64 (3)))]), xo 13 (.mov (.t 16)), xo 17 (.ext 0 (.t 13)), xo 18 (.ext 1 (.t 13)), xo 1 (.alloc 34 [(.v (.int .i64 (0))), (.v (.int .i64 (0))), (.v (.int .i64 (0))), (.v (.slice none 0 0)), (.v (.slice none 0 0)), (.v (.slice none 0 0)), (.v (.slice none 0 0)), (.v (.slice none 0 0))]), xn (.store 8 (.t 1) (.t 17)), xo 2 (.mov (.t 18))])
 (.seq (.reg [xo 20 (.call 40 []), xo 21 (.bsl 9 1 2 [(.v (.string ⟨#[]⟩)), (.v (.string ⟨#[]⟩))] [(0, 1, (.c (.string ⟨#[105, 110]⟩))), (1, 1, (.c (.string ⟨#[105, 110]⟩)))]), xo 22 (.call 8 [(.t 20), (.t 21), (.c (.int .i64 (3)))]), xo 19 (.mov (.t 22)), xo 23 (.ext 0 (.t 19)), xo 24 (.ext 1 (.t 19)), xo 3 (.alloc 34 [(.v (.int .i64 (0))), (.v (.int .i64 (0))), (.v (.int .i64 (0))), (.v (.slice none 0 0)), (.v (.slice none 0 0)), (.v (.slice none 0 0)), (.v (.slice none 0 0)), (.v (.slice none 0 0))]), xn (.store 8 (.t 3) (.t 23)), xo 4 (.mov (.t 24))])
 (.seq (.reg [xo 26 (.call 40 []), xo 27 (.call 8 [(.t 26), (.c (.slice none 0 0)), (.c (.int .i64 (9)))]), xo 25 (.mov (.t 27)), xo 28 (.ext 0 (.t 25)), xo 29 (.ext 1 (.t 25)), xo 5 (.alloc 34 [(.v (.int .i64 (0))), (.v (.int .i64 (0))), (.v (.int .i64 (0))), (.v (.slice none 0 0)), (.v (.slice none 0 0)), (.v (.slice none 0 0)), (.v (.slice none 0 0)), (.v (.slice none 0 0))]), xn (.store 8 (.t 5) (.t 28)), xo 6 (.mov (.t 29))])
 (.seq (.reg [xo 31 (.build [(.v (.slice none 0 0)), (.v (.slice none 0 0)), (.v (.slice none 0 0))] []), xo 32 (.call 8 [(.t 31), (.c (.slice none 0 0)), (.c (.int .i64 (1)))]), xo 30 (.mov (.t 32)), xo 33 (.ext 0 (.t 30)), xo 34 (.ext 1 (.t 30)), xo 7 (.alloc 34 [(.v (.int .i64 (0))), (.v (.int .i64 (0))), (.v (.int .i64 (0))), (.v (.slice none 0 0)), (.v (.slice none 0 0)), (.v (.slice none 0 0)), (.v (.slice none 0 0)), (.v (.slice none 0 0))]), xn (.store 8 (.t 7) (.t 33)), xo 8 (.mov (.t 34))])
 (.seq (.reg [xo 36 (.call 40 []), xo 37 (.call 10 [(.t 36)]), xo 35 (.mov (.t 37)), xo 38 (.ext 0 (.t 35)), xo 39 (.ext 1 (.t 35)), xo 9 (.alloc 40 [(.v (.slice none 0 0)), (.v (.slice none 0 0)), (.v (.slice none 0 0)), (.v (.slice none 0 0)), (.v (.bool false))]), xn (.store 5 (.t 9) (.t 38)), xo 10 (.mov (.t 39))])
 (.seq (.seq (.reg [xo 40 (.fadr 4 (.t 1)), xo 41 (.load false 1 (.t 40)), xo 42 (.len false (.t 41)), xo 43 (.bini .neq (.t 42) (.c (.int .i64 (1)))), xo 44 (.mov (.t 43)), xg 45 (.fadr 4 (.t 1)) 44 false, xg 46 (.load false 1 (.t 45)) 44 false, xg 47 (.iadr 5 (.t 46) (.c (.int .i64 (0)))) 44 false, xg 48 (.fadr 3 (.t 47)) 44 false, xg 49 (.load false 1 (.t 48)) 44 false, xg 50 (.len false (.t 49)) 44 false, xg 51 (.bini .neq (.t 50) (.c (.int .i64 (1)))) 44 false, xo 52 (.pick (.t 44) (.b true) (.t 51)), xo 53 (.mov (.t 52)), xg 54 (.fadr 4 (.t 1)) 53 false, xg 55 (.load false 1 (.t 54)) 53 false, xg 56 (.iadr 5 (.t 55) (.c (.int .i64 (0)))) 53 false, xg 57 (.fadr 3 (.t 56)) 53 false, xg 58 (.load false 1 (.t 57)) 53 false, xg 59 (.iadr 2 (.t 58) (.c (.int .i64 (0)))) 53 false, xg 60 (.fadr 1 (.t 59)) 53 false, xg 61 (.load false 1 (.t 60)) 53 false, xg 62 (.len false (.t 61)) 53 false, xg 63 (.bini .neq (.t 62) (.c (.int .i64 (2)))) 53 false, xo 64 (.pick (.t 53) (.b true) (.t 63)), xo 65 (.mov (.t 64)), xg 66 (.fadr 5 (.t 1)) 65 false, xg 67 (.load false 1 (.t 66)) 65 false, xg 68 (.len false (.t 67)) 65 false, xg 69 (.bini .neq (.t 68) (.c (.int .i64 (2)))) 65 false, xo 70 (.pick (.t 65) (.b true) (.t 69))])
 (.cond (.t 70)
 (.seq (.reg [xo 0 (.mov (.b false))])
 .ret)
 .skip))
 (.seq (.reg [xo 71 (.load true 8 (.t 1)), xo 72 (.call 41 [(.t 71)]), xo 11 (.alloc 34 [(.v (.int .i64 (0))), (.v (.int .i64 (0))), (.v (.int .i64 (0))), (.v (.slice none 0 0)), (.v (.slice none 0 0)), (.v (.slice none 0 0)), (.v (.slice none 0 0)), (.v (.slice none 0 0))]), xn (.store 8 (.t 11) (.t 72))])
 (.seq (.seq (.reg [xo 73 (.fadr 4 (.t 11)), xo 74 (.load false 1 (.t 73)), xo 75 (.len false (.t 74)), xo 76 (.bini .neq (.t 75) (.c (.int .i64 (1)))), xo 77 (.mov (.t 76)), xg 78 (.fadr 4 (.t 11)) 77 false, xg 79 (.load false 1 (.t 78)) 77 false, xg 80 (.iadr 5 (.t 79) (.c (.int .i64 (0)))) 77 false, xg 81 (.fadr 3 (.t 80)) 77 false, xg 82 (.load false 1 (.t 81)) 77 false, xg 83 (.len false (.t 82)) 77 false, xg 84 (.bini .neq (.t 83) (.c (.int .i64 (1)))) 77 false, xo 85 (.pick (.t 77) (.b true) (.t 84)), xo 86 (.mov (.t 85)), xg 87 (.fadr 4 (.t 11)) 86 false, xg 88 (.load false 1 (.t 87)) 86 false, xg 89 (.iadr 5 (.t 88) (.c (.int .i64 (0)))) 86 false, xg 90 (.fadr 3 (.t 89)) 86 false, xg 91 (.load false 1 (.t 90)) 86 false, xg 92 (.iadr 2 (.t 91) (.c (.int .i64 (0)))) 86 false, xg 93 (.fadr 1 (.t 92)) 86 false, xg 94 (.load false 1 (.t 93)) 86 false, xg 95 (.len false (.t 94)) 86 false, xg 96 (.bini .neq (.t 95) (.c (.int .i64 (2)))) 86 false, xo 97 (.pick (.t 86) (.b true) (.t 96))])
 (.cond (.t 97)
 (.seq (.reg [xo 0 (.mov (.b false))])
 .ret)
 .skip))
 (.seq (.reg [xo 98 (.fadr 4 (.t 11)), xo 99 (.load false 1 (.t 98)), xo 100 (.iadr 5 (.t 99) (.c (.int .i64 (0)))), xo 101 (.fadr 3 (.t 100)), xo 102 (.load false 1 (.t 101)), xo 103 (.iadr 2 (.t 102) (.c (.int .i64 (0)))), xo 104 (.fadr 1 (.t 103)), xo 105 (.load false 1 (.t 104)), xo 106 (.iadr 3 (.t 105) (.c (.int .i64 (1)))), xo 107 (.fadr 0 (.t 106)), xn (.store 1 (.t 107) (.c (.int .u64 (0))))])
 (.seq (.reg [xo 108 (.load true 8 (.t 11)), xo 109 (.call 16 [(.t 108)]), xo 12 (.mov (.t 109))])
 (.seq (.reg [xo 110 (.fadr 2 (.t 11)), xn (.store 1 (.t 110) (.c (.int .i64 (2))))])
 (.seq (.regD [] (.op ⟨0, false, [], xo 111 (.mov (.t 2))⟩
 (.op ⟨1, false, [], xo 112 (.bini .eql (.t 111) (.c (.int .i64 (0))))⟩
 (.op ⟨2, false, [], xo 113 (.mov (.t 112))⟩
 (.op ⟨3, false, [], xg 114 (.mov (.t 4)) 113 true⟩
 (.op ⟨4, false, [], xg 115 (.bini .eql (.t 114) (.c (.int .i64 (1)))) 113 true⟩
 (.op ⟨5, false, [], xo 116 (.pick (.t 113) (.t 115) (.b false))⟩
 (.op ⟨6, false, [], xo 117 (.mov (.t 116))⟩
 (.op ⟨7, false, [], xg 118 (.mov (.t 6)) 117 true⟩
 (.op ⟨8, false, [], xg 119 (.mov (.t 4)) 117 true⟩
 (.op ⟨9, false, [], xg 120 (.bini .eql (.t 118) (.t 119)) 117 true⟩
 (.op ⟨10, false, [], xo 121 (.pick (.t 117) (.t 120) (.b false))⟩
 (.op ⟨11, false, [], xo 122 (.mov (.t 121))⟩
 (.op ⟨12, false, [], xg 123 (.mov (.t 8)) 122 true⟩
 (.op ⟨13, false, [], xg 124 (.mov (.t 4)) 122 true⟩
 (.op ⟨14, false, [], xg 125 (.bini .eql (.t 123) (.t 124)) 122 true⟩
 (.op ⟨15, false, [], xo 126 (.pick (.t 122) (.t 125) (.b false))⟩
 (.op ⟨16, false, [], xo 127 (.mov (.t 126))⟩
 (.op ⟨17, false, [], xg 128 (.mov (.t 10)) 127 true⟩
 (.op ⟨18, false, [], xg 129 (.mov (.t 2)) 127 true⟩
 (.op ⟨19, false, [], xg 130 (.bini .eql (.t 128) (.t 129)) 127 true⟩
 (.op ⟨20, false, [], xo 131 (.pick (.t 127) (.t 130) (.b false))⟩
 (.op ⟨21, false, [], xo 132 (.mov (.t 131))⟩
 (.op ⟨22, true, [], xg 133 (.load true 5 (.t 9)) 132 true⟩
 (.op ⟨23, false, [], xg 134 (.fadr 4 (.t 1)) 132 true⟩
 (.op ⟨24, true, [], xg 135 (.load false 1 (.t 134)) 132 true⟩
 (.op ⟨25, true, [], xg 136 (.iadr 5 (.t 135) (.c (.int .i64 (0)))) 132 true⟩
 (.op ⟨26, true, [], xg 137 (.load true 5 (.t 136)) 132 true⟩
 (.op ⟨27, false, [], xg 138 (.call 14 [(.t 133), (.t 137)]) 132 true⟩
 (.op ⟨28, false, [], xo 139 (.pick (.t 132) (.t 138) (.b false))⟩
 (.op ⟨29, false, [], xo 140 (.mov (.t 139))⟩
 (.op ⟨30, false, [], xg 141 (.fadr 3 (.t 1)) 140 true⟩
 (.op ⟨31, true, [], xg 142 (.load false 1 (.t 141)) 140 true⟩
 (.op ⟨32, false, [], xg 143 (.len false (.t 142)) 140 true⟩
 (.op ⟨33, false, [], xg 144 (.bini .eql (.t 143) (.c (.int .i64 (3)))) 140 true⟩
 (.op ⟨34, false, [], xo 145 (.pick (.t 140) (.t 144) (.b false))⟩
 (.op ⟨35, false, [], xo 146 (.mov (.t 145))⟩
 (.op ⟨36, false, [], xg 147 (.fadr 6 (.t 1)) 146 true⟩
 (.op ⟨37, true, [], xg 148 (.load false 1 (.t 147)) 146 true⟩
 (.op ⟨38, false, [], xg 149 (.len false (.t 148)) 146 true⟩
 (.op ⟨39, false, [], xg 150 (.bini .eql (.t 149) (.c (.int .i64 (3)))) 146 true⟩
 (.op ⟨40, false, [], xo 151 (.pick (.t 146) (.t 150) (.b false))⟩
 (.op ⟨41, false, [], xo 152 (.mov (.t 151))⟩
 (.op ⟨42, false, [], xg 153 (.fadr 4 (.t 1)) 152 true⟩
 (.op ⟨43, true, [], xg 154 (.load false 1 (.t 153)) 152 true⟩
 (.op ⟨44, true, [], xg 155 (.iadr 5 (.t 154) (.c (.int .i64 (0)))) 152 true⟩
 (.op ⟨45, false, [], xg 156 (.fadr 3 (.t 155)) 152 true⟩
 (.op ⟨46, true, [], xg 157 (.load false 1 (.t 156)) 152 true⟩
 (.op ⟨47, true, [], xg 158 (.iadr 2 (.t 157) (.c (.int .i64 (0)))) 152 true⟩
 (.op ⟨48, false, [], xg 159 (.fadr 1 (.t 158)) 152 true⟩
 (.op ⟨49, true, [], xg 160 (.load false 1 (.t 159)) 152 true⟩
 (.op ⟨50, true, [], xg 161 (.iadr 3 (.t 160) (.c (.int .i64 (1)))) 152 true⟩
 (.op ⟨51, false, [], xg 162 (.fadr 0 (.t 161)) 152 true⟩
 (.op ⟨52, true, [], xg 163 (.load false 1 (.t 162)) 152 true⟩
 (.op ⟨53, false, [], xg 164 (.bini .eql (.t 163) (.c (.int .u64 (1)))) 152 true⟩
 (.op ⟨54, false, [], xo 165 (.pick (.t 152) (.t 164) (.b false))⟩
 (.op ⟨55, false, [], xo 166 (.mov (.t 165))⟩
 (.op ⟨56, false, [], xg 167 (.mov (.t 12)) 166 true⟩
 (.op ⟨57, false, [], xg 168 (.bini .eql (.t 167) (.c (.int .i64 (2)))) 166 true⟩
 (.op ⟨58, false, [], xo 169 (.pick (.t 166) (.t 168) (.b false))⟩
 (.op ⟨59, false, [], xo 170 (.mov (.t 169))⟩
 (.op ⟨60, true, [], xg 171 (.load true 8 (.t 1)) 170 true⟩
 (.op ⟨61, false, [], xg 172 (.call 16 [(.t 171)]) 170 true⟩
 (.op ⟨62, false, [], xg 173 (.bini .eql (.t 172) (.c (.int .i64 (0)))) 170 true⟩
 (.op ⟨63, false, [], xo 174 (.pick (.t 170) (.t 173) (.b false))⟩
 (.op ⟨64, false, [], xo 175 (.mov (.t 174))⟩
 (.op ⟨65, true, [], xg 176 (.load true 8 (.t 1)) 175 true⟩
 (.op ⟨66, false, [], xg 177 (.call 15 [(.t 176)]) 175 true⟩
 (.op ⟨67, false, [], xo 178 (.pick (.t 175) (.t 177) (.b false))⟩
 (.op ⟨68, false, [], xo 179 (.mov (.t 178))⟩
 (.op ⟨69, true, [], xg 180 (.load true 8 (.t 11)) 179 true⟩
 (.op ⟨70, false, [], xg 181 (.call 15 [(.t 180)]) 179 true⟩
 (.op ⟨71, false, [], xg 182 (.not (.t 181)) 179 true⟩
 (.op ⟨72, false, [], xo 183 (.pick (.t 179) (.t 182) (.b false))⟩
 (.op ⟨73, false, [], xo 0 (.mov (.t 183))⟩
 .nil)))))))))))))))))))))))))))))))))))))))))))))))))))))))))))))))))))))))))))
 .ret)))))))))))))⟩
theorem t_hydrantlaw18_made : trFn Tryz.prog 12 [([], (.first 0 (.first 1 (.first 2 (.first 3 (.first 4 (.first 5 (.first 6 (.first 7 (.first 8 (.first 9 (.first 10 (.first 11 (.first 12 (.first 13 (.first 14 (.first 15 (.first 16 (.first 17 (.first 18 (.first 19 (.first 20 (.first 21 (.first 22 (.first 23 (.first 24 (.first 25 (.first 26 (.exec 27 (.first 28 (.first 29 (.first 30 (.first 31 (.first 32 (.first 33 (.first 34 (.first 35 (.first 36 (.first 37 (.first 38 (.first 39 (.first 40 (.first 41 (.first 42 (.first 43 (.first 44 (.first 45 (.first 46 (.first 47 (.first 48 (.first 49 (.first 50 (.first 51 (.first 52 (.first 53 (.first 54 (.first 55 (.first 56 (.first 57 (.first 58 (.first 59 (.first 60 (.exec 61 (.first 62 (.first 63 (.first 64 (.first 65 (.exec 66 (.first 67 (.first 68 (.first 69 (.exec 70 (.first 71 (.first 72 (.first 73 .nil)))))))))))))))))))))))))))))))))))))))))))))))))))))))))))))))))))))))))))] [] = some f_hydrantlaw18_made := by kernel_rfl

abbrev n_hydrantref18_Same : Nat := 13
def f_hydrantref18_Same : FnI := ⟨105, [.tmp 4],
 (.seq (.reg [xo 2 (.box 34 (.t 0)), xo 3 (.box 34 (.t 1)), xo 4 (.mov (.b false))])
 (.seq (.seq (.reg [xo 7 (.fadr 0 (.t 2)), xo 8 (.load false 1 (.t 7)), xo 9 (.fadr 0 (.t 3)), xo 10 (.load false 1 (.t 9)), xo 11 (.bini .neq (.t 8) (.t 10)), xo 12 (.mov (.t 11)), xg 13 (.fadr 1 (.t 2)) 12 false, xg 14 (.load false 1 (.t 13)) 12 false, xg 15 (.fadr 1 (.t 3)) 12 false, xg 16 (.load false 1 (.t 15)) 12 false, xg 17 (.bini .neq (.t 14) (.t 16)) 12 false, xo 18 (.pick (.t 12) (.b true) (.t 17)), xo 19 (.mov (.t 18)), xg 20 (.fadr 2 (.t 2)) 19 false, xg 21 (.load false 1 (.t 20)) 19 false, xg 22 (.fadr 2 (.t 3)) 19 false, xg 23 (.load false 1 (.t 22)) 19 false, xg 24 (.bini .neq (.t 21) (.t 23)) 19 false, xo 25 (.pick (.t 19) (.b true) (.t 24)), xo 26 (.mov (.t 25)), xg 27 (.fadr 3 (.t 2)) 26 false, xg 28 (.load false 1 (.t 27)) 26 false, xg 29 (.fadr 3 (.t 3)) 26 false, xg 30 (.load false 1 (.t 29)) 26 false, xg 31 (.call 42 [(.t 28), (.t 30)]) 26 false, xg 32 (.not (.t 31)) 26 false, xo 33 (.pick (.t 26) (.b true) (.t 32)), xo 34 (.mov (.t 33)), xg 35 (.fadr 4 (.t 2)) 34 false, xg 36 (.load false 1 (.t 35)) 34 false, xg 37 (.len false (.t 36)) 34 false, xg 38 (.fadr 4 (.t 3)) 34 false, xg 39 (.load false 1 (.t 38)) 34 false, xg 40 (.len false (.t 39)) 34 false, xg 41 (.bini .neq (.t 37) (.t 40)) 34 false, xo 42 (.pick (.t 34) (.b true) (.t 41)), xo 43 (.mov (.t 42)), xg 44 (.fadr 5 (.t 2)) 43 false, xg 45 (.load false 1 (.t 44)) 43 false, xg 46 (.len false (.t 45)) 43 false, xg 47 (.fadr 5 (.t 3)) 43 false, xg 48 (.load false 1 (.t 47)) 43 false, xg 49 (.len false (.t 48)) 43 false, xg 50 (.bini .neq (.t 46) (.t 49)) 43 false, xo 51 (.pick (.t 43) (.b true) (.t 50)), xo 52 (.mov (.t 51)), xg 53 (.fadr 6 (.t 2)) 52 false, xg 54 (.load false 1 (.t 53)) 52 false, xg 55 (.fadr 6 (.t 3)) 52 false, xg 56 (.load false 1 (.t 55)) 52 false, xg 57 (.call 43 [(.t 54), (.t 56)]) 52 false, xg 58 (.not (.t 57)) 52 false, xo 59 (.pick (.t 52) (.b true) (.t 58)), xo 60 (.mov (.t 59)), xg 61 (.fadr 7 (.t 2)) 60 false, xg 62 (.load false 1 (.t 61)) 60 false, xg 63 (.fadr 7 (.t 3)) 60 false, xg 64 (.load false 1 (.t 63)) 60 false, xg 65 (.call 44 [(.t 62), (.t 64)]) 60 false, xg 66 (.not (.t 65)) 60 false, xo 67 (.pick (.t 60) (.b true) (.t 66))])
 (.cond (.t 67)
 (.seq (.reg [xo 4 (.mov (.b false))])
 .ret)
 .skip))
 (.seq (.seq (.reg [xo 5 (.mov (.c (.int .i64 (0))))])
 (.block 0
 (.loop [5] [68, 69, 70, 71, 72, 75, 76, 77, 78, 79, 80, 81, 82, 83, 84, 85, 86, 4, 73, 74, 5]
 (.seq (.seq (.reg [xo 68 (.mov (.t 5)), xo 69 (.fadr 4 (.t 2)), xo 70 (.load false 1 (.t 69)), xo 71 (.len false (.t 70)), xo 72 (.bini .lss (.t 68) (.t 71))])
 (.cond (.t 72)
 .skip
 (.exit 0)))
 (.seq (.block 1
 (.seq (.regD [] (.op ⟨0, false, [], xo 75 (.fadr 4 (.t 2))⟩
 (.op ⟨1, true, [], xo 76 (.load false 1 (.t 75))⟩
 (.op ⟨2, false, [], xo 77 (.mov (.t 5))⟩
 (.op ⟨3, true, [], xo 78 (.iadr 5 (.t 76) (.t 77))⟩
 (.op ⟨4, true, [], xo 79 (.load true 5 (.t 78))⟩
 (.op ⟨5, false, [], xo 80 (.fadr 4 (.t 3))⟩
 (.op ⟨6, true, [], xo 81 (.load false 1 (.t 80))⟩
 (.op ⟨7, false, [], xo 82 (.mov (.t 5))⟩
 (.op ⟨8, true, [], xo 83 (.iadr 5 (.t 81) (.t 82))⟩
 (.op ⟨9, true, [], xo 84 (.load true 5 (.t 83))⟩
 (.op ⟨10, false, [], xo 85 (.call 14 [(.t 79), (.t 84)])⟩
 (.op ⟨11, false, [], xo 86 (.not (.t 85))⟩
 .nil)))))))))))))
 (.cond (.t 86)
 (.seq (.reg [xo 4 (.mov (.b false))])
 .ret)
 .skip)))
 (.reg [xo 73 (.mov (.t 5)), xo 74 (.bini .add (.t 73) (.c (.int .i64 (1)))), xo 5 (.mov (.t 74))]))))))
 (.seq (.seq (.reg [xo 6 (.mov (.c (.int .i64 (0))))])
 (.block 2
 (.loop [6] [87, 88, 89, 90, 91, 94, 95, 96, 97, 98, 99, 100, 101, 102, 103, 104, 4, 92, 93, 6]
 (.seq (.seq (.reg [xo 87 (.mov (.t 6)), xo 88 (.fadr 5 (.t 2)), xo 89 (.load false 1 (.t 88)), xo 90 (.len false (.t 89)), xo 91 (.bini .lss (.t 87) (.t 90))])
 (.cond (.t 91)
 .skip
 (.exit 2)))
 (.seq (.block 3
 (.seq (.regD [] (.op ⟨0, false, [], xo 94 (.fadr 5 (.t 2))⟩
 (.op ⟨1, true, [], xo 95 (.load false 1 (.t 94))⟩
 (.op ⟨2, false, [], xo 96 (.mov (.t 6))⟩
 (.op ⟨3, true, [], xo 97 (.iadr 4 (.t 95) (.t 96))⟩
 (.op ⟨4, true, [], xo 98 (.load true 4 (.t 97))⟩
 (.op ⟨5, false, [], xo 99 (.fadr 5 (.t 3))⟩
 (.op ⟨6, true, [], xo 100 (.load false 1 (.t 99))⟩
 (.op ⟨7, false, [], xo 101 (.mov (.t 6))⟩
 (.op ⟨8, true, [], xo 102 (.iadr 4 (.t 100) (.t 101))⟩
 (.op ⟨9, true, [], xo 103 (.load true 4 (.t 102))⟩
 (.op ⟨10, false, [], xo 104 (.binst true [1, 2, 0, 2] (.t 98) (.t 103))⟩
 .nil))))))))))))
 (.cond (.t 104)
 (.seq (.reg [xo 4 (.mov (.b false))])
 .ret)
 .skip)))
 (.reg [xo 92 (.mov (.t 6)), xo 93 (.bini .add (.t 92) (.c (.int .i64 (1)))), xo 6 (.mov (.t 93))]))))))
 (.seq (.reg [xo 4 (.mov (.b true))])
 .ret)))))⟩
theorem t_hydrantref18_Same : trFn Tryz.prog 13 [([], (.first 0 (.first 1 (.first 2 (.first 3 (.first 4 (.first 5 (.first 6 (.first 7 (.first 8 (.first 9 (.exec 10 (.first 11 .nil))))))))))))), ([], (.first 0 (.first 1 (.first 2 (.first 3 (.first 4 (.first 5 (.first 6 (.first 7 (.first 8 (.first 9 (.first 10 .nil))))))))))))] [[5], [6]] = some f_hydrantref18_Same := by kernel_rfl

abbrev n_hydrantref18_SameVersions : Nat := 14
def f_hydrantref18_SameVersions : FnI := ⟨97, [.tmp 4],
 (.seq (.reg [xo 2 (.box 40 (.t 0)), xo 3 (.box 40 (.t 1)), xo 4 (.mov (.b false))])
 (.seq (.seq (.reg [xo 7 (.fadr 0 (.t 2)), xo 8 (.load true 3 (.t 7)), xo 9 (.fadr 0 (.t 3)), xo 10 (.load true 3 (.t 9)), xo 11 (.call 45 [(.t 8), (.t 10)]), xo 12 (.not (.t 11)), xo 13 (.mov (.t 12)), xg 14 (.fadr 4 (.t 2)) 13 false, xg 15 (.load false 1 (.t 14)) 13 false, xg 16 (.fadr 4 (.t 3)) 13 false, xg 17 (.load false 1 (.t 16)) 13 false, xg 18 (.binb true (.t 15) (.t 17)) 13 false, xo 19 (.pick (.t 13) (.b true) (.t 18)), xo 20 (.mov (.t 19)), xg 21 (.fadr 3 (.t 2)) 20 false, xg 22 (.load false 1 (.t 21)) 20 false, xg 23 (.len false (.t 22)) 20 false, xg 24 (.fadr 3 (.t 3)) 20 false, xg 25 (.load false 1 (.t 24)) 20 false, xg 26 (.len false (.t 25)) 20 false, xg 27 (.bini .neq (.t 23) (.t 26)) 20 false, xo 28 (.pick (.t 20) (.b true) (.t 27))])
 (.cond (.t 28)
 (.seq (.reg [xo 4 (.mov (.b false))])
 .ret)
 .skip))
 (.seq (.seq (.reg [xo 5 (.mov (.c (.int .i64 (0))))])
 (.block 0
 (.loop [5] [29, 30, 31, 32, 33, 36, 37, 38, 39, 40, 41, 42, 43, 44, 45, 46, 47, 48, 49, 50, 51, 52, 53, 54, 55, 56, 57, 58, 59, 60, 61, 62, 63, 64, 65, 4, 6, 66, 67, 68, 69, 70, 71, 72, 73, 74, 77, 78, 79, 80, 81, 82, 83, 84, 85, 86, 87, 88, 89, 90, 91, 92, 93, 94, 95, 96, 75, 76, 34, 35, 5]
 (.seq (.seq (.reg [xo 29 (.mov (.t 5)), xo 30 (.fadr 3 (.t 2)), xo 31 (.load false 1 (.t 30)), xo 32 (.len false (.t 31)), xo 33 (.bini .lss (.t 29) (.t 32))])
 (.cond (.t 33)
 .skip
 (.exit 0)))
 (.seq (.block 1
 (.seq (.seq (.regD [] (.op ⟨0, false, [], xo 36 (.fadr 3 (.t 2))⟩
 (.op ⟨1, true, [], xo 37 (.load false 1 (.t 36))⟩
 (.op ⟨2, false, [], xo 38 (.mov (.t 5))⟩
 (.op ⟨3, true, [], xo 39 (.iadr 2 (.t 37) (.t 38))⟩
 (.op ⟨4, false, [], xo 40 (.fadr 0 (.t 39))⟩
 (.op ⟨5, true, [], xo 41 (.load false 1 (.t 40))⟩
 (.op ⟨6, false, [], xo 42 (.fadr 3 (.t 3))⟩
 (.op ⟨7, true, [], xo 43 (.load false 1 (.t 42))⟩
 (.op ⟨8, false, [], xo 44 (.mov (.t 5))⟩
 (.op ⟨9, true, [], xo 45 (.iadr 2 (.t 43) (.t 44))⟩
 (.op ⟨10, false, [], xo 46 (.fadr 0 (.t 45))⟩
 (.op ⟨11, true, [], xo 47 (.load false 1 (.t 46))⟩
 (.op ⟨12, false, [], xo 48 (.bini .neq (.t 41) (.t 47))⟩
 (.op ⟨13, false, [], xo 49 (.mov (.t 48))⟩
 (.op ⟨14, false, [], xg 50 (.fadr 3 (.t 2)) 49 false⟩
 (.op ⟨15, true, [], xg 51 (.load false 1 (.t 50)) 49 false⟩
 (.op ⟨16, false, [], xg 52 (.mov (.t 5)) 49 false⟩
 (.op ⟨17, true, [], xg 53 (.iadr 2 (.t 51) (.t 52)) 49 false⟩
 (.op ⟨18, false, [], xg 54 (.fadr 1 (.t 53)) 49 false⟩
 (.op ⟨19, true, [], xg 55 (.load false 1 (.t 54)) 49 false⟩
 (.op ⟨20, false, [], xg 56 (.len false (.t 55)) 49 false⟩
 (.op ⟨21, false, [], xg 57 (.fadr 3 (.t 3)) 49 false⟩
 (.op ⟨22, true, [], xg 58 (.load false 1 (.t 57)) 49 false⟩
 (.op ⟨23, false, [], xg 59 (.mov (.t 5)) 49 false⟩
 (.op ⟨24, true, [], xg 60 (.iadr 2 (.t 58) (.t 59)) 49 false⟩
 (.op ⟨25, false, [], xg 61 (.fadr 1 (.t 60)) 49 false⟩
 (.op ⟨26, true, [], xg 62 (.load false 1 (.t 61)) 49 false⟩
 (.op ⟨27, false, [], xg 63 (.len false (.t 62)) 49 false⟩
 (.op ⟨28, false, [], xg 64 (.bini .neq (.t 56) (.t 63)) 49 false⟩
 (.op ⟨29, false, [], xo 65 (.pick (.t 49) (.b true) (.t 64))⟩
 .nil)))))))))))))))))))))))))))))))
 (.cond (.t 65)
 (.seq (.reg [xo 4 (.mov (.b false))])
 .ret)
 .skip))
 (.seq (.reg [xo 6 (.mov (.c (.int .i64 (0))))])
 (.block 2
 (.loop [6] [66, 67, 68, 69, 70, 71, 72, 73, 74, 77, 78, 79, 80, 81, 82, 83, 84, 85, 86, 87, 88, 89, 90, 91, 92, 93, 94, 95, 96, 4, 75, 76, 6]
 (.seq (.seq (.reg [xo 66 (.mov (.t 6)), xo 67 (.fadr 3 (.t 2)), xo 68 (.load false 1 (.t 67)), xo 69 (.mov (.t 5)), xo 70 (.iadr 2 (.t 68) (.t 69)), xo 71 (.fadr 1 (.t 70)), xo 72 (.load false 1 (.t 71)), xo 73 (.len false (.t 72)), xo 74 (.bini .lss (.t 66) (.t 73))])
 (.cond (.t 74)
 .skip
 (.exit 2)))
 (.seq (.block 3
 (.seq (.regD [] (.op ⟨0, false, [], xo 77 (.fadr 3 (.t 2))⟩
 (.op ⟨1, true, [], xo 78 (.load false 1 (.t 77))⟩
 (.op ⟨2, false, [], xo 79 (.mov (.t 5))⟩
 (.op ⟨3, true, [], xo 80 (.iadr 2 (.t 78) (.t 79))⟩
 (.op ⟨4, false, [], xo 81 (.fadr 1 (.t 80))⟩
 (.op ⟨5, true, [], xo 82 (.load false 1 (.t 81))⟩
 (.op ⟨6, false, [], xo 83 (.mov (.t 6))⟩
 (.op ⟨7, true, [], xo 84 (.iadr 3 (.t 82) (.t 83))⟩
 (.op ⟨8, true, [], xo 85 (.load true 3 (.t 84))⟩
 (.op ⟨9, false, [], xo 86 (.fadr 3 (.t 3))⟩
 (.op ⟨10, true, [], xo 87 (.load false 1 (.t 86))⟩
 (.op ⟨11, false, [], xo 88 (.mov (.t 5))⟩
 (.op ⟨12, true, [], xo 89 (.iadr 2 (.t 87) (.t 88))⟩
 (.op ⟨13, false, [], xo 90 (.fadr 1 (.t 89))⟩
 (.op ⟨14, true, [], xo 91 (.load false 1 (.t 90))⟩
 (.op ⟨15, false, [], xo 92 (.mov (.t 6))⟩
 (.op ⟨16, true, [], xo 93 (.iadr 3 (.t 91) (.t 92))⟩
 (.op ⟨17, true, [], xo 94 (.load true 3 (.t 93))⟩
 (.op ⟨18, false, [], xo 95 (.call 46 [(.t 85), (.t 94)])⟩
 (.op ⟨19, false, [], xo 96 (.not (.t 95))⟩
 .nil)))))))))))))))))))))
 (.cond (.t 96)
 (.seq (.reg [xo 4 (.mov (.b false))])
 .ret)
 .skip)))
 (.reg [xo 75 (.mov (.t 6)), xo 76 (.bini .add (.t 75) (.c (.int .i64 (1)))), xo 6 (.mov (.t 76))]))))))))
 (.reg [xo 34 (.mov (.t 5)), xo 35 (.bini .add (.t 34) (.c (.int .i64 (1)))), xo 5 (.mov (.t 35))]))))))
 (.seq (.reg [xo 4 (.mov (.b true))])
 .ret))))⟩
theorem t_hydrantref18_SameVersions : trFn Tryz.prog 14 [([], (.first 0 (.first 1 (.first 2 (.first 3 (.first 4 (.first 5 (.first 6 (.first 7 (.first 8 (.first 9 (.first 10 (.first 11 (.first 12 (.first 13 (.first 14 (.first 15 (.first 16 (.first 17 (.first 18 (.first 19 (.first 20 (.first 21 (.first 22 (.first 23 (.first 24 (.first 25 (.first 26 (.first 27 (.first 28 (.first 29 .nil))))))))))))))))))))))))))))))), ([], (.first 0 (.first 1 (.first 2 (.first 3 (.first 4 (.first 5 (.first 6 (.first 7 (.first 8 (.first 9 (.first 10 (.first 11 (.first 12 (.first 13 (.first 14 (.first 15 (.first 16 (.first 17 (.exec 18 (.first 19 .nil)))))))))))))))))))))] [[5], [6]] = some f_hydrantref18_SameVersions := by kernel_rfl

abbrev n_world_Is : Nat := 15
def f_world_Is : FnI := ⟨107, [.tmp 2],
 (.seq (.reg [xo 1 (.box 34 (.t 0)), xo 2 (.mov (.b false))])
 (.seq (.seq (.reg [xo 10 (.load true 8 (.t 1)), xo 11 (.call 47 [(.t 10)]), xo 12 (.not (.t 11)), xo 13 (.mov (.t 12)), xg 14 (.fadr 1 (.t 1)) 13 false, xg 15 (.load false 1 (.t 14)) 13 false, xg 16 (.bini .lss (.t 15) (.c (.int .i64 (0)))) 13 false, xo 17 (.pick (.t 13) (.b true) (.t 16)), xo 18 (.mov (.t 17)), xg 19 (.fadr 1 (.t 1)) 18 false, xg 20 (.load false 1 (.t 19)) 18 false, xg 21 (.fadr 4 (.t 1)) 18 false, xg 22 (.load false 1 (.t 21)) 18 false, xg 23 (.len false (.t 22)) 18 false, xg 24 (.bini .geq (.t 20) (.t 23)) 18 false, xo 25 (.pick (.t 18) (.b true) (.t 24)), xo 26 (.mov (.t 25)), xg 27 (.fadr 7 (.t 1)) 26 false, xg 28 (.load false 1 (.t 27)) 26 false, xg 29 (.call 48 [(.t 28)]) 26 false, xg 30 (.not (.t 29)) 26 false, xo 31 (.pick (.t 26) (.b true) (.t 30))])
 (.cond (.t 31)
 (.seq (.reg [xo 2 (.mov (.b false))])
 .ret)
 .skip))
 (.seq (.reg [xo 32 (.mkm .i64), xo 3 (.mov (.t 32))])
 (.seq (.seq (.reg [xo 33 (.fadr 7 (.t 1)), xo 34 (.load false 1 (.t 33)), xo 35 (.len false (.t 34)), xo 36 (.mov (.c (.int .i64 (0))))])
 (.block 0
 (.loop [36] [37, 38, 39, 5, 40, 41, 42, 43, 44, 45, 46, 47, 48, 49, 50, 51, 52, 53, 54, 55, 56, 57, 58, 59, 2, 60, 61, 62, 63, 64, 65, 36]
 (.seq (.reg [xo 37 (.bini .lss (.t 36) (.t 35))])
 (.seq (.cond (.t 37)
 .skip
 (.exit 0))
 (.seq (.block 1
 (.seq (.reg [xo 38 (.iadr 3 (.t 34) (.t 36)), xo 39 (.load true 3 (.t 38)), xo 5 (.alloc 95 [(.v (.int .i64 (0))), (.v (.int .i64 (0))), (.v (.bool false))]), xn (.store 3 (.t 5) (.t 39))])
 (.seq (.seq (.reg [xo 40 (.fadr 0 (.t 5)), xo 41 (.load false 1 (.t 40)), xo 42 (.fadr 4 (.t 1)), xo 43 (.load false 1 (.t 42)), xo 44 (.len false (.t 43)), xo 45 (.bini .geq (.t 41) (.t 44)), xo 46 (.mov (.t 45)), xg 47 (.fadr 0 (.t 5)) 46 false, xg 48 (.load false 1 (.t 47)) 46 false, xg 49 (.fadr 1 (.t 1)) 46 false, xg 50 (.load false 1 (.t 49)) 46 false, xg 51 (.bini .eql (.t 48) (.t 50)) 46 false, xo 52 (.pick (.t 46) (.b true) (.t 51)), xo 53 (.mov (.t 52)), xg 54 (.fadr 1 (.t 5)) 53 false, xg 55 (.load false 1 (.t 54)) 53 false, xg 56 (.fadr 0 (.t 1)) 53 false, xg 57 (.load false 1 (.t 56)) 53 false, xg 58 (.bini .gtr (.t 55) (.t 57)) 53 false, xo 59 (.pick (.t 53) (.b true) (.t 58))])
 (.cond (.t 59)
 (.seq (.reg [xo 2 (.mov (.b false))])
 .ret)
 .skip))
 (.reg [xo 60 (.mov (.t 3)), xo 61 (.fadr 0 (.t 5)), xo 62 (.load false 1 (.t 61)), xo 63 (.fadr 2 (.t 5)), xo 64 (.load false 1 (.t 63)), xn (.mup .i64 (.t 60) (.t 62) (.t 64))]))))
 (.reg [xo 65 (.bini .add (.t 36) (.c (.int .i64 (1)))), xo 36 (.mov (.t 65))])))))))
 (.seq (.seq (.reg [xo 66 (.fadr 4 (.t 1)), xo 67 (.load false 1 (.t 66)), xo 68 (.len false (.t 67)), xo 69 (.mov (.c (.int .i64 (0))))])
 (.block 2
 (.loop [69] [70, 71, 72, 73, 7, 6, 74, 75, 76, 77, 78, 79, 80, 81, 82, 83, 84, 2, 85, 69]
 (.seq (.reg [xo 70 (.bini .lss (.t 69) (.t 68))])
 (.seq (.cond (.t 70)
 .skip
 (.exit 2))
 (.seq (.block 3
 (.seq (.reg [xo 71 (.mov (.t 69)), xo 72 (.iadr 5 (.t 67) (.t 69)), xo 73 (.load true 5 (.t 72)), xo 7 (.alloc 40 [(.v (.slice none 0 0)), (.v (.slice none 0 0)), (.v (.slice none 0 0)), (.v (.slice none 0 0)), (.v (.bool false))]), xo 6 (.mov (.t 71)), xn (.store 5 (.t 7) (.t 73))])
 (.seq (.reg [xo 74 (.load true 5 (.t 7)), xo 75 (.call 49 [(.t 74)]), xo 76 (.not (.t 75)), xo 77 (.mov (.t 76)), xg 78 (.fadr 4 (.t 7)) 77 false, xg 79 (.load false 1 (.t 78)) 77 false, xg 80 (.mov (.t 3)) 77 false, xg 81 (.mov (.t 6)) 77 false, xg 82 (.look .i64 (.bool false) false (.t 80) (.t 81)) 77 false, xg 83 (.binb true (.t 79) (.t 82)) 77 false, xo 84 (.pick (.t 77) (.b true) (.t 83))])
 (.cond (.t 84)
 (.seq (.reg [xo 2 (.mov (.b false))])
 .ret)
 .skip))))
 (.reg [xo 85 (.bini .add (.t 69) (.c (.int .i64 (1)))), xo 69 (.mov (.t 85))])))))))
 (.seq (.seq (.reg [xo 86 (.fadr 5 (.t 1)), xo 87 (.load false 1 (.t 86)), xo 88 (.len false (.t 87)), xo 89 (.mov (.c (.int .i64 (0))))])
 (.block 4
 (.loop [89] [90, 91, 92, 93, 9, 8, 94, 95, 96, 97, 98, 99, 100, 101, 102, 103, 104, 105, 2, 106, 89]
 (.seq (.reg [xo 90 (.bini .lss (.t 89) (.t 88))])
 (.seq (.cond (.t 90)
 .skip
 (.exit 4))
 (.seq (.block 5
 (.seq (.reg [xo 91 (.mov (.t 89)), xo 92 (.iadr 4 (.t 87) (.t 89)), xo 93 (.load true 4 (.t 92)), xo 9 (.alloc 77 [(.v (.string ⟨#[]⟩)), (.v (.bool false)), (.v (.int .i64 (0))), (.v (.bool false))]), xo 8 (.mov (.t 91)), xn (.store 4 (.t 9) (.t 93))])
 (.seq (.reg [xo 94 (.load true 4 (.t 9)), xo 95 (.call 50 [(.t 94)]), xo 96 (.not (.t 95)), xo 97 (.mov (.t 96)), xg 98 (.fadr 5 (.t 1)) 97 false, xg 99 (.load false 1 (.t 98)) 97 false, xg 100 (.fadr 0 (.t 9)) 97 false, xg 101 (.load false 1 (.t 100)) 97 false, xg 102 (.call 33 [(.t 99), (.t 101)]) 97 false, xg 103 (.mov (.t 8)) 97 false, xg 104 (.bini .neq (.t 102) (.t 103)) 97 false, xo 105 (.pick (.t 97) (.b true) (.t 104))])
 (.cond (.t 105)
 (.seq (.reg [xo 2 (.mov (.b false))])
 .ret)
 .skip))))
 (.reg [xo 106 (.bini .add (.t 89) (.c (.int .i64 (1)))), xo 89 (.mov (.t 106))])))))))
 (.seq (.reg [xo 2 (.mov (.b true))])
 .ret)))))))⟩
theorem t_world_Is : trFn Tryz.prog 15 [] [[36], [69], [89]] = some f_world_Is := by kernel_rfl

abbrev n_world_Held : Nat := 16
def f_world_Held : FnI := ⟨52, [.tmp 2],
 (.seq (.reg [xo 1 (.box 34 (.t 0)), xo 2 (.mov (.c (.int .i64 (0))))])
 (.seq (.reg [xo 3 (.mov (.c (.int .i64 (0))))])
 (.seq (.seq (.reg [xo 12 (.fadr 4 (.t 1)), xo 13 (.load false 1 (.t 12)), xo 14 (.len false (.t 13)), xo 15 (.mov (.c (.int .i64 (0))))])
 (.block 0
 (.loop [3, 15] [16, 17, 18, 5, 19, 20, 21, 22, 23, 24, 25, 7, 26, 27, 28, 29, 30, 31, 32, 9, 34, 35, 33, 36, 37, 10, 11, 38, 39, 40, 41, 42, 43, 44, 45, 46, 47, 3, 48, 49, 50, 15]
 (.seq (.reg [xo 16 (.bini .lss (.t 15) (.t 14))])
 (.seq (.cond (.t 16)
 .skip
 (.exit 0))
 (.seq (.block 1
 (.seq (.reg [xo 17 (.iadr 5 (.t 13) (.t 15)), xo 18 (.load true 5 (.t 17)), xo 5 (.alloc 40 [(.v (.slice none 0 0)), (.v (.slice none 0 0)), (.v (.slice none 0 0)), (.v (.slice none 0 0)), (.v (.bool false))]), xn (.store 5 (.t 5) (.t 18))])
 (.seq (.reg [xo 19 (.fadr 3 (.t 5)), xo 20 (.load false 1 (.t 19)), xo 21 (.len false (.t 20)), xo 22 (.mov (.c (.int .i64 (0))))])
 (.block 2
 (.loop [3, 22] [23, 24, 25, 7, 26, 27, 28, 29, 30, 31, 32, 9, 34, 35, 33, 36, 37, 10, 11, 38, 39, 40, 41, 42, 43, 44, 45, 46, 47, 3, 48, 49, 22]
 (.seq (.reg [xo 23 (.bini .lss (.t 22) (.t 21))])
 (.seq (.cond (.t 23)
 .skip
 (.exit 2))
 (.seq (.block 3
 (.seq (.reg [xo 24 (.iadr 2 (.t 20) (.t 22)), xo 25 (.load true 2 (.t 24)), xo 7 (.alloc 80 [(.v (.int .u64 (0))), (.v (.slice none 0 0))]), xn (.store 2 (.t 7) (.t 25))])
 (.seq (.reg [xo 26 (.fadr 1 (.t 7)), xo 27 (.load false 1 (.t 26)), xo 28 (.len false (.t 27)), xo 29 (.mov (.c (.int .i64 (0))))])
 (.block 4
 (.loop [3, 29] [30, 31, 32, 9, 34, 35, 33, 36, 37, 10, 11, 38, 39, 40, 41, 42, 43, 44, 45, 46, 47, 3, 48, 29]
 (.seq (.reg [xo 30 (.bini .lss (.t 29) (.t 28))])
 (.seq (.cond (.t 30)
 .skip
 (.exit 4))
 (.seq (.block 5
 (.seq (.reg [xo 31 (.iadr 3 (.t 27) (.t 29)), xo 32 (.load true 3 (.t 31)), xo 9 (.alloc 82 [(.v (.int .u64 (0))), (.v (.slice none 0 0)), (.v (.int .i64 (0)))]), xn (.store 3 (.t 9) (.t 32))])
 (.seq (.reg [xo 34 (.load true 3 (.t 9)), xo 35 (.call 51 [(.t 34)]), xo 33 (.mov (.t 35)), xo 36 (.ext 0 (.t 33)), xo 37 (.ext 1 (.t 33)), xo 10 (.mov (.t 36)), xo 11 (.mov (.t 37))])
 (.seq (.reg [xo 38 (.load true 3 (.t 9)), xo 39 (.call 52 [(.t 38)])])
 (.cond (.t 39)
 (.reg [xo 40 (.mov (.t 3)), xo 41 (.fadr 1 (.t 9)), xo 42 (.load false 1 (.t 41)), xo 43 (.len false (.t 42)), xo 44 (.mov (.t 10)), xo 45 (.len false (.t 44)), xo 46 (.bini .sub (.t 43) (.t 45)), xo 47 (.bini .add (.t 40) (.t 46)), xo 3 (.mov (.t 47))])
 .skip)))))
 (.reg [xo 48 (.bini .add (.t 29) (.c (.int .i64 (1)))), xo 29 (.mov (.t 48))])))))))))
 (.reg [xo 49 (.bini .add (.t 22) (.c (.int .i64 (1)))), xo 22 (.mov (.t 49))])))))))))
 (.reg [xo 50 (.bini .add (.t 15) (.c (.int .i64 (1)))), xo 15 (.mov (.t 50))])))))))
 (.seq (.reg [xo 51 (.mov (.t 3)), xo 2 (.mov (.t 51))])
 .ret))))⟩
theorem t_world_Held : trFn Tryz.prog 16 [] [[3, 15], [3, 22], [3, 29]] = some f_world_Held := by kernel_rfl

abbrev n_snap_Is : Nat := 17
def f_snap_Is : FnI := ⟨13, [.tmp 2],
 (.seq (.reg [xo 1 (.box 26 (.t 0)), xo 2 (.mov (.b false))])
 (.seq (.reg [xo 6 (.load true 3 (.t 1)), xo 7 (.call 54 [(.t 6)]), xo 8 (.call 53 [(.t 7)]), xo 5 (.mov (.t 8)), xo 9 (.ext 0 (.t 5)), xo 10 (.ext 1 (.t 5)), xo 3 (.mov (.t 9)), xo 4 (.mov (.t 10))])
 (.seq (.reg [xo 11 (.mov (.t 3)), xo 12 (.bini .eql (.t 11) (.c (.int .i64 (0)))), xo 2 (.mov (.t 12))])
 .ret)))⟩
theorem t_snap_Is : trFn Tryz.prog 17 [] [] = some f_snap_Is := by kernel_rfl

abbrev n_hydrantref06_Big : Nat := 30
def f_hydrantref06_Big : FnI := ⟨34, [.tmp 2],
 (.seq (.reg [xo 2 (.mov (.b false))])
 (.seq (.seq (.reg [xo 3 (.mov (.c (.int .i64 (0))))])
 (.block 0
 (.loop [3] [4, 5, 6, 7, 8, 9, 10, 11, 12, 15, 16, 17, 18, 19, 20, 21, 22, 23, 24, 25, 26, 27, 28, 29, 30, 2, 13, 14, 3]
 (.seq (.seq (.reg [xo 4 (.mov (.t 3)), xo 5 (.mov (.t 0)), xo 6 (.len false (.t 5)), xo 7 (.bini .lss (.t 4) (.t 6)), xo 8 (.mov (.t 7)), xg 9 (.mov (.t 0)) 8 true, xg 10 (.len false (.t 9)) 8 true, xg 11 (.bini .leq (.t 10) (.c (.int .i64 (50)))) 8 true, xo 12 (.pick (.t 8) (.t 11) (.b false))])
 (.cond (.t 12)
 .skip
 (.exit 0)))
 (.seq (.block 1
 (.seq (.reg [xo 15 (.mov (.t 0)), xo 16 (.mov (.t 3)), xo 17 (.iadr 4 (.t 15) (.t 16)), xo 18 (.fadr 1 (.t 17)), xo 19 (.load false 1 (.t 18)), xo 20 (.len true (.t 19)), xo 21 (.bini .gtr (.t 20) (.c (.int .i64 (100)))), xo 22 (.mov (.t 21)), xg 23 (.mov (.t 0)) 22 false, xg 24 (.mov (.t 3)) 22 false, xg 25 (.iadr 4 (.t 23) (.t 24)) 22 false, xg 26 (.fadr 2 (.t 25)) 22 false, xg 27 (.load false 1 (.t 26)) 22 false, xg 28 (.len true (.t 27)) 22 false, xg 29 (.bini .gtr (.t 28) (.c (.int .i64 (100)))) 22 false, xo 30 (.pick (.t 22) (.b true) (.t 29))])
 (.cond (.t 30)
 (.seq (.reg [xo 2 (.mov (.b true))])
 .ret)
 .skip)))
 (.reg [xo 13 (.mov (.t 3)), xo 14 (.bini .add (.t 13) (.c (.int .i64 (1)))), xo 3 (.mov (.t 14))]))))))
 (.seq (.reg [xo 31 (.mov (.t 0)), xo 32 (.len false (.t 31)), xo 33 (.bini .gtr (.t 32) (.c (.int .i64 (50)))), xo 2 (.mov (.t 33))])
 .ret)))⟩
theorem t_hydrantref06_Big : trFn Tryz.prog 30 [] [[3]] = some f_hydrantref06_Big := by kernel_rfl

abbrev n_shard_New : Nat := 31
def f_shard_New : FnI := ⟨25, [.tmp 2, .tmp 3],
 (.seq (.reg [xo 2 (.mov (.c (.slice none 0 0))), xo 3 (.mov (.c (.int .i64 (0))))])
 (.seq (.seq (.reg [xo 6 (.mov (.t 0)), xo 7 (.bini .lss (.t 6) (.c (.int .i64 (1)))), xo 8 (.mov (.t 7)), xg 9 (.mov (.t 0)) 8 false, xg 10 (.bini .gtr (.t 9) (.c (.int .i64 (8)))) 8 false, xo 11 (.pick (.t 8) (.b true) (.t 10))])
 (.cond (.t 11)
 (.seq (.reg [xo 2 (.mov (.c (.slice none 0 0))), xo 3 (.mov (.c (.int .i64 (1))))])
 .ret)
 .skip))
 (.seq (.reg [xo 12 (.mov (.t 0)), xo 13 (.msl 106 1 24 [(.slice none 0 0)] (.t 12) (.t 12)), xo 4 (.mov (.t 13))])
 (.seq (.seq (.reg [xo 14 (.mov (.t 4)), xo 15 (.len false (.t 14)), xo 16 (.mov (.c (.int .i64 (0))))])
 (.block 0
 (.loop [16] [17, 18, 5, 19, 20, 21, 22, 23, 16]
 (.seq (.reg [xo 17 (.bini .lss (.t 16) (.t 15))])
 (.seq (.cond (.t 17)
 .skip
 (.exit 0))
 (.seq (.block 1
 (.seq (.reg [xo 18 (.mov (.t 16)), xo 5 (.mov (.t 18))])
 (.reg [xo 19 (.mov (.t 4)), xo 20 (.mov (.t 5)), xo 21 (.msl 54 1 8 [(.int .u64 (0))] (.c (.int .i64 (6))) (.c (.int .i64 (6)))), xo 22 (.iadr 1 (.t 19) (.t 20)), xn (.store 1 (.t 22) (.t 21))])))
 (.reg [xo 23 (.bini .add (.t 16) (.c (.int .i64 (1)))), xo 16 (.mov (.t 23))])))))))
 (.seq (.reg [xo 24 (.mov (.t 4)), xo 2 (.mov (.t 24)), xo 3 (.mov (.c (.int .i64 (0))))])
 .ret)))))⟩
theorem t_shard_New : trFn Tryz.prog 31 [] [[16]] = some f_shard_New := by kernel_rfl

abbrev n_names_Name : Nat := 32
def f_names_Name : FnI := ⟨21, [.tmp 2],
 (.seq (.reg [xo 2 (.mov (.b false))])
 (.seq (.reg [xo 3 (.mov (.t 0)), xo 4 (.len true (.t 3)), xo 5 (.bini .gtr (.t 4) (.c (.int .i64 (0)))), xo 6 (.mov (.t 5)), xg 7 (.mov (.t 0)) 6 true, xg 8 (.len true (.t 7)) 6 true, xg 9 (.bini .leq (.t 8) (.c (.int .i64 (16)))) 6 true, xo 10 (.pick (.t 6) (.t 9) (.b false)), xo 11 (.mov (.t 10)), xg 12 (.mov (.t 0)) 11 true, xg 13 (.idxs (.t 12) (.c (.int .i64 (0)))) 11 true, xg 14 (.call 67 [(.t 13)]) 11 true, xo 15 (.pick (.t 11) (.t 14) (.b false)), xo 16 (.mov (.t 15)), xg 17 (.call 68 []) 16 true, xg 18 (.mov (.t 0)) 16 true, xg 19 (.call 69 [(.t 17), (.t 18), (.c (.int .u8 (45)))]) 16 true, xo 20 (.pick (.t 16) (.t 19) (.b false)), xo 2 (.mov (.t 20))])
 .ret))⟩
theorem t_names_Name : trFn Tryz.prog 32 [] [] = some f_names_Name := by kernel_rfl

abbrev n_gates_Place : Nat := 33
def f_gates_Place : FnI := ⟨8, [.tmp 4],
 (.seq (.reg [xo 3 (.box 9 (.t 1)), xo 4 (.mov (.c (.int .i64 (0))))])
 (.seq (.reg [xo 5 (.mov (.t 0)), xo 6 (.mkf (.func 71) [] [(.t 3)]), xo 7 (.call 70 [(.t 5), (.t 6)]), xo 4 (.mov (.t 7))])
 .ret))⟩
theorem t_gates_Place : trFn Tryz.prog 33 [] [] = some f_gates_Place := by kernel_rfl

abbrev n_hydrantref03_Name : Nat := 34
def f_hydrantref03_Name : FnI := ⟨29, [.tmp 2],
 (.seq (.reg [xo 2 (.mov (.b false))])
 (.seq (.seq (.reg [xo 4 (.mov (.t 0)), xo 5 (.len true (.t 4)), xo 6 (.bini .lss (.t 5) (.c (.int .i64 (1)))), xo 7 (.mov (.t 6)), xg 8 (.mov (.t 0)) 7 false, xg 9 (.len true (.t 8)) 7 false, xg 10 (.bini .gtr (.t 9) (.c (.int .i64 (16)))) 7 false, xo 11 (.pick (.t 7) (.b true) (.t 10)), xo 12 (.mov (.t 11)), xg 13 (.mov (.t 0)) 12 false, xg 14 (.idxs (.t 13) (.c (.int .i64 (0)))) 12 false, xg 15 (.call 72 [(.t 14)]) 12 false, xg 16 (.not (.t 15)) 12 false, xo 17 (.pick (.t 12) (.b true) (.t 16))])
 (.cond (.t 17)
 (.seq (.reg [xo 2 (.mov (.b false))])
 .ret)
 .skip))
 (.seq (.seq (.reg [xo 3 (.mov (.c (.int .i64 (0))))])
 (.block 0
 (.loop [3] [18, 19, 20, 21, 24, 25, 26, 27, 28, 2, 22, 23, 3]
 (.seq (.seq (.reg [xo 18 (.mov (.t 3)), xo 19 (.mov (.t 0)), xo 20 (.len true (.t 19)), xo 21 (.bini .lss (.t 18) (.t 20))])
 (.cond (.t 21)
 .skip
 (.exit 0)))
 (.seq (.block 1
 (.seq (.reg [xo 24 (.mov (.t 0)), xo 25 (.mov (.t 3)), xo 26 (.idxs (.t 24) (.t 25)), xo 27 (.call 73 [(.t 26)]), xo 28 (.not (.t 27))])
 (.cond (.t 28)
 (.seq (.reg [xo 2 (.mov (.b false))])
 .ret)
 .skip)))
 (.reg [xo 22 (.mov (.t 3)), xo 23 (.bini .add (.t 22) (.c (.int .i64 (1)))), xo 3 (.mov (.t 23))]))))))
 (.seq (.reg [xo 2 (.mov (.b true))])
 .ret))))⟩
theorem t_hydrantref03_Name : trFn Tryz.prog 34 [] [[3]] = some f_hydrantref03_Name := by kernel_rfl

abbrev n_hydrantref17_Place : Nat := 35
def f_hydrantref17_Place : FnI := ⟨20, [.tmp 4],
 (.seq (.reg [xo 4 (.mov (.c (.int .i64 (0))))])
 (.seq (.seq (.reg [xo 5 (.mov (.c (.int .i64 (0))))])
 (.block 0
 (.loop [5] [6, 7, 8, 9, 12, 13, 14, 15, 16, 17, 18, 19, 4, 10, 11, 5]
 (.seq (.seq (.reg [xo 6 (.mov (.t 5)), xo 7 (.mov (.t 0)), xo 8 (.len false (.t 7)), xo 9 (.bini .lss (.t 6) (.t 8))])
 (.cond (.t 9)
 .skip
 (.exit 0)))
 (.seq (.block 1
 (.seq (.reg [xo 12 (.mov (.t 0)), xo 13 (.mov (.t 5)), xo 14 (.iadr 4 (.t 12) (.t 13)), xo 15 (.fadr 0 (.t 14)), xo 16 (.load false 1 (.t 15)), xo 17 (.mov (.t 1)), xo 18 (.bins .eql (.t 16) (.t 17))])
 (.cond (.t 18)
 (.seq (.reg [xo 19 (.mov (.t 5)), xo 4 (.mov (.t 19))])
 .ret)
 .skip)))
 (.reg [xo 10 (.mov (.t 5)), xo 11 (.bini .add (.t 10) (.c (.int .i64 (1)))), xo 5 (.mov (.t 11))]))))))
 (.seq (.reg [xo 4 (.mov (.c (.int .i64 (-1))))])
 .ret)))⟩
theorem t_hydrantref17_Place : trFn Tryz.prog 35 [] [[5]] = some f_hydrantref17_Place := by kernel_rfl

abbrev n_hydrantref11_New : Nat := 36
def f_hydrantref11_New : FnI := ⟨23, [.tmp 2, .tmp 3],
 (.seq (.reg [xo 2 (.mov (.c (.slice none 0 0))), xo 3 (.mov (.c (.int .i64 (0))))])
 (.seq (.seq (.reg [xo 6 (.mov (.t 0)), xo 7 (.bini .lss (.t 6) (.c (.int .i64 (1)))), xo 8 (.mov (.t 7)), xg 9 (.mov (.t 0)) 8 false, xg 10 (.bini .gtr (.t 9) (.c (.int .i64 (8)))) 8 false, xo 11 (.pick (.t 8) (.b true) (.t 10))])
 (.cond (.t 11)
 (.seq (.reg [xo 2 (.mov (.c (.slice none 0 0))), xo 3 (.mov (.c (.int .i64 (1))))])
 .ret)
 .skip))
 (.seq (.reg [xo 12 (.bsl 106 1 0 [] []), xo 4 (.mov (.t 12))])
 (.seq (.seq (.reg [xo 5 (.mov (.c (.int .i64 (0))))])
 (.block 0
 (.loop [4, 5] [13, 14, 15, 18, 19, 20, 21, 4, 16, 17, 5]
 (.seq (.seq (.reg [xo 13 (.mov (.t 5)), xo 14 (.mov (.t 0)), xo 15 (.bini .lss (.t 13) (.t 14))])
 (.cond (.t 15)
 .skip
 (.exit 0)))
 (.seq (.block 1
 (.reg [xo 18 (.mov (.t 4)), xo 19 (.bsl 54 1 6 [(.v (.int .u64 (0))), (.v (.int .u64 (0))), (.v (.int .u64 (0))), (.v (.int .u64 (0))), (.v (.int .u64 (0))), (.v (.int .u64 (0)))] [(0, 1, (.c (.int .u64 (0)))), (1, 1, (.c (.int .u64 (0)))), (2, 1, (.c (.int .u64 (0)))), (3, 1, (.c (.int .u64 (0)))), (4, 1, (.c (.int .u64 (0)))), (5, 1, (.c (.int .u64 (0))))]), xo 20 (.bsl 106 1 1 [(.v (.slice none 0 0))] [(0, 1, (.t 19))]), xo 21 (.app 106 1 24 (.t 18) (.t 20)), xo 4 (.mov (.t 21))]))
 (.reg [xo 16 (.mov (.t 5)), xo 17 (.bini .add (.t 16) (.c (.int .i64 (1)))), xo 5 (.mov (.t 17))]))))))
 (.seq (.reg [xo 22 (.mov (.t 4)), xo 2 (.mov (.t 22)), xo 3 (.mov (.c (.int .i64 (0))))])
 .ret)))))⟩
theorem t_hydrantref11_New : trFn Tryz.prog 36 [] [[4, 5]] = some f_hydrantref11_New := by kernel_rfl

abbrev n_slots_Fresh : Nat := 37
def f_slots_Fresh : FnI := ⟨40, [.cell 2 3 true, .tmp 3],
 (.seq (.reg [xo 2 (.alloc 82 [(.v (.int .u64 (0))), (.v (.slice none 0 0)), (.v (.int .i64 (0)))]), xo 3 (.mov (.c (.int .i64 (0))))])
 (.seq (.seq (.reg [xo 6 (.mov (.t 0)), xo 7 (.bini .lss (.t 6) (.c (.int .i64 (1)))), xo 8 (.mov (.t 7)), xg 9 (.mov (.t 0)) 8 false, xg 10 (.bini .gtr (.t 9) (.c (.int .i64 (4)))) 8 false, xo 11 (.pick (.t 8) (.b true) (.t 10))])
 (.cond (.t 11)
 (.seq (.reg [xo 12 (.build [(.v (.int .u64 (0))), (.v (.slice none 0 0)), (.v (.int .i64 (0)))] []), xn (.store 3 (.t 2) (.t 12)), xo 3 (.mov (.c (.int .i64 (1))))])
 .ret)
 .skip))
 (.seq (.reg [xo 13 (.mov (.t 0)), xo 14 (.msl 3 1 8 [(.int .i64 (0))] (.t 13) (.t 13)), xo 15 (.build [(.v (.int .u64 (0))), (.v (.slice none 0 0)), (.v (.int .i64 (0)))] [(1, 1, (.t 14))]), xo 4 (.alloc 82 [(.v (.int .u64 (0))), (.v (.slice none 0 0)), (.v (.int .i64 (0)))]), xn (.store 3 (.t 4) (.t 15))])
 (.seq (.seq (.reg [xo 16 (.fadr 1 (.t 4)), xo 17 (.load false 1 (.t 16)), xo 18 (.len false (.t 17)), xo 19 (.mov (.c (.int .i64 (0))))])
 (.block 0
 (.loop [19] [20, 21, 5, 22, 23, 24, 25, 26, 27, 28, 19]
 (.seq (.reg [xo 20 (.bini .lss (.t 19) (.t 18))])
 (.seq (.cond (.t 20)
 .skip
 (.exit 0))
 (.seq (.block 1
 (.seq (.reg [xo 21 (.mov (.t 19)), xo 5 (.mov (.t 21))])
 (.reg [xo 22 (.fadr 1 (.t 4)), xo 23 (.load false 1 (.t 22)), xo 24 (.mov (.t 5)), xo 25 (.mov (.t 5)), xo 26 (.bini .add (.t 25) (.c (.int .i64 (1)))), xo 27 (.iadr 1 (.t 23) (.t 24)), xn (.store 1 (.t 27) (.t 26))])))
 (.reg [xo 28 (.bini .add (.t 19) (.c (.int .i64 (1)))), xo 19 (.mov (.t 28))])))))))
 (.seq (.reg [xo 29 (.fadr 1 (.t 4)), xo 30 (.load false 1 (.t 29)), xo 31 (.mov (.t 0)), xo 32 (.bini .sub (.t 31) (.c (.int .i64 (1)))), xo 33 (.iadr 1 (.t 30) (.t 32)), xn (.store 1 (.t 33) (.c (.int .i64 (-1))))])
 (.seq (.reg [xo 35 (.call 74 [(.c (.int .u32 (0))), (.c (.int .i64 (0)))]), xo 34 (.mov (.t 35)), xo 36 (.ext 0 (.t 34)), xo 37 (.ext 1 (.t 34)), xo 38 (.fadr 0 (.t 4)), xn (.store 1 (.t 38) (.t 36))])
 (.seq (.reg [xo 39 (.load true 3 (.t 4)), xn (.store 3 (.t 2) (.t 39)), xo 3 (.mov (.c (.int .i64 (0))))])
 .ret)))))))⟩
theorem t_slots_Fresh : trFn Tryz.prog 37 [] [[19]] = some f_slots_Fresh := by kernel_rfl

abbrev n_hydrantref07_Is : Nat := 38
def f_hydrantref07_Is : FnI := ⟨13, [.tmp 2],
 (.seq (.reg [xo 1 (.box 26 (.t 0)), xo 2 (.mov (.b false))])
 (.seq (.reg [xo 6 (.load true 3 (.t 1)), xo 7 (.call 76 [(.t 6)]), xo 8 (.call 75 [(.t 7)]), xo 5 (.mov (.t 8)), xo 9 (.ext 0 (.t 5)), xo 10 (.ext 1 (.t 5)), xo 3 (.mov (.t 9)), xo 4 (.mov (.t 10))])
 (.seq (.reg [xo 11 (.mov (.t 3)), xo 12 (.bini .eql (.t 11) (.c (.int .i64 (0)))), xo 2 (.mov (.t 12))])
 .ret)))⟩
theorem t_hydrantref07_Is : trFn Tryz.prog 38 [] [] = some f_hydrantref07_Is := by kernel_rfl

abbrev n_hydrantref14_Fresh : Nat := 39
def f_hydrantref14_Fresh : FnI := ⟨31, [.cell 2 3 true, .tmp 3],
 (.seq (.reg [xo 2 (.alloc 82 [(.v (.int .u64 (0))), (.v (.slice none 0 0)), (.v (.int .i64 (0)))]), xo 3 (.mov (.c (.int .i64 (0))))])
 (.seq (.seq (.reg [xo 6 (.mov (.t 0)), xo 7 (.bini .lss (.t 6) (.c (.int .i64 (1)))), xo 8 (.mov (.t 7)), xg 9 (.mov (.t 0)) 8 false, xg 10 (.bini .gtr (.t 9) (.c (.int .i64 (4)))) 8 false, xo 11 (.pick (.t 8) (.b true) (.t 10))])
 (.cond (.t 11)
 (.seq (.reg [xo 12 (.build [(.v (.int .u64 (0))), (.v (.slice none 0 0)), (.v (.int .i64 (0)))] []), xn (.store 3 (.t 2) (.t 12)), xo 3 (.mov (.c (.int .i64 (1))))])
 .ret)
 .skip))
 (.seq (.reg [xo 13 (.build [(.v (.int .u64 (0))), (.v (.slice none 0 0)), (.v (.int .i64 (0)))] [(0, 1, (.c (.int .u64 (1))))]), xo 4 (.alloc 82 [(.v (.int .u64 (0))), (.v (.slice none 0 0)), (.v (.int .i64 (0)))]), xn (.store 3 (.t 4) (.t 13))])
 (.seq (.seq (.reg [xo 5 (.mov (.c (.int .i64 (1))))])
 (.block 0
 (.loop [5] [14, 15, 16, 19, 20, 21, 22, 23, 24, 17, 18, 5]
 (.seq (.seq (.reg [xo 14 (.mov (.t 5)), xo 15 (.mov (.t 0)), xo 16 (.bini .lss (.t 14) (.t 15))])
 (.cond (.t 16)
 .skip
 (.exit 0)))
 (.seq (.block 1
 (.reg [xo 19 (.fadr 1 (.t 4)), xo 20 (.load false 1 (.t 19)), xo 21 (.mov (.t 5)), xo 22 (.bsl 3 1 1 [(.v (.int .i64 (0)))] [(0, 1, (.t 21))]), xo 23 (.app 3 1 8 (.t 20) (.t 22)), xo 24 (.fadr 1 (.t 4)), xn (.store 1 (.t 24) (.t 23))]))
 (.reg [xo 17 (.mov (.t 5)), xo 18 (.bini .add (.t 17) (.c (.int .i64 (1)))), xo 5 (.mov (.t 18))]))))))
 (.seq (.reg [xo 25 (.fadr 1 (.t 4)), xo 26 (.load false 1 (.t 25)), xo 27 (.bsl 3 1 1 [(.v (.int .i64 (0)))] [(0, 1, (.c (.int .i64 (-1))))]), xo 28 (.app 3 1 8 (.t 26) (.t 27)), xo 29 (.fadr 1 (.t 4)), xn (.store 1 (.t 29) (.t 28))])
 (.seq (.reg [xo 30 (.load true 3 (.t 4)), xn (.store 3 (.t 2) (.t 30)), xo 3 (.mov (.c (.int .i64 (0))))])
 .ret))))))⟩
theorem t_hydrantref14_Fresh : trFn Tryz.prog 39 [] [[5]] = some f_hydrantref14_Fresh := by kernel_rfl

abbrev n_hydrantlaw18_plain : Nat := 40
def f_hydrantlaw18_plain : FnI := ⟨8, [.cell 0 3 true],
 (.seq (.reg [xo 0 (.alloc 26 [(.v (.slice none 0 0)), (.v (.slice none 0 0)), (.v (.slice none 0 0))])])
 (.seq (.reg [xo 1 (.bsl 9 1 1 [(.v (.string ⟨#[]⟩))] [(0, 1, (.c (.string ⟨#[105, 110]⟩)))]), xo 2 (.build [(.v (.int .i64 (0))), (.v (.string ⟨#[]⟩)), (.v (.string ⟨#[]⟩)), (.v (.int .i64 (0)))] [(1, 1, (.c (.string ⟨#[42]⟩))), (2, 1, (.c (.string ⟨#[47]⟩)))]), xo 3 (.bsl 122 4 1 [(.v (.int .i64 (0))), (.v (.string ⟨#[]⟩)), (.v (.string ⟨#[]⟩)), (.v (.int .i64 (0)))] [(0, 4, (.t 2))]), xo 4 (.bsl 4 1 2 [(.v (.bool false)), (.v (.bool false))] [(0, 1, (.b true)), (1, 1, (.b false))]), xo 5 (.build [(.v (.string ⟨#[]⟩)), (.v (.int .i64 (0))), (.v (.int .i64 (0))), (.v (.slice none 0 0))] [(0, 1, (.c (.string ⟨#[97]⟩))), (1, 1, (.c (.int .i64 (1)))), (2, 1, (.c (.int .i64 (2)))), (3, 1, (.t 4))]), xo 6 (.bsl 71 4 1 [(.v (.string ⟨#[]⟩)), (.v (.int .i64 (0))), (.v (.int .i64 (0))), (.v (.slice none 0 0))] [(0, 4, (.t 5))]), xo 7 (.build [(.v (.slice none 0 0)), (.v (.slice none 0 0)), (.v (.slice none 0 0))] [(0, 1, (.t 1)), (1, 1, (.t 3)), (2, 1, (.t 6))]), xn (.store 3 (.t 0) (.t 7))])
 .ret))⟩
theorem t_hydrantlaw18_plain : trFn Tryz.prog 40 [] [] = some f_hydrantlaw18_plain := by kernel_rfl

abbrev n_world_Clone : Nat := 41
def f_world_Clone : FnI := ⟨28, [.cell 2 8 true],
 (.seq (.reg [xo 1 (.box 34 (.t 0)), xo 2 (.alloc 34 [(.v (.int .i64 (0))), (.v (.int .i64 (0))), (.v (.int .i64 (0))), (.v (.slice none 0 0)), (.v (.slice none 0 0)), (.v (.slice none 0 0)), (.v (.slice none 0 0)), (.v (.slice none 0 0))])])
 (.seq (.reg [xo 4 (.build [] []), xo 3 (.alloc 133 []), xn (.store 0 (.t 3) (.t 4))])
 (.seq (.reg [xo 5 (.fadr 3 (.t 1)), xo 6 (.load false 1 (.t 5)), xo 7 (.call 77 [(.t 6)]), xo 8 (.fadr 3 (.t 1)), xn (.store 1 (.t 8) (.t 7))])
 (.seq (.reg [xo 9 (.fadr 4 (.t 1)), xo 10 (.load false 1 (.t 9)), xo 11 (.load true 0 (.t 3)), xo 12 (.call 78 [(.t 10), (.c (.func (.func 79) #[] #[])), (.t 11)]), xo 13 (.fadr 4 (.t 1)), xn (.store 1 (.t 13) (.t 12))])
 (.seq (.reg [xo 14 (.fadr 5 (.t 1)), xo 15 (.load false 1 (.t 14)), xo 16 (.call 80 [(.t 15)]), xo 17 (.fadr 5 (.t 1)), xn (.store 1 (.t 17) (.t 16))])
 (.seq (.reg [xo 18 (.fadr 6 (.t 1)), xo 19 (.load false 1 (.t 18)), xo 20 (.load true 0 (.t 3)), xo 21 (.call 81 [(.t 19), (.c (.func (.func 82) #[] #[])), (.t 20)]), xo 22 (.fadr 6 (.t 1)), xn (.store 1 (.t 22) (.t 21))])
 (.seq (.reg [xo 23 (.fadr 7 (.t 1)), xo 24 (.load false 1 (.t 23)), xo 25 (.call 83 [(.t 24)]), xo 26 (.fadr 7 (.t 1)), xn (.store 1 (.t 26) (.t 25))])
 (.seq (.reg [xo 27 (.load true 8 (.t 1)), xn (.store 8 (.t 2) (.t 27))])
 .ret))))))))⟩
theorem t_world_Clone : trFn Tryz.prog 41 [] [] = some f_world_Clone := by kernel_rfl

abbrev n_hydrantref18_sameInts : Nat := 42
def f_hydrantref18_sameInts : FnI := ⟨26, [.tmp 4],
 (.seq (.reg [xo 4 (.mov (.b false))])
 (.seq (.seq (.reg [xo 6 (.mov (.t 0)), xo 7 (.len false (.t 6)), xo 8 (.mov (.t 1)), xo 9 (.len false (.t 8)), xo 10 (.bini .neq (.t 7) (.t 9))])
 (.cond (.t 10)
 (.seq (.reg [xo 4 (.mov (.b false))])
 .ret)
 .skip))
 (.seq (.seq (.reg [xo 5 (.mov (.c (.int .i64 (0))))])
 (.block 0
 (.loop [5] [11, 12, 13, 14, 17, 18, 19, 20, 21, 22, 23, 24, 25, 4, 15, 16, 5]
 (.seq (.seq (.reg [xo 11 (.mov (.t 5)), xo 12 (.mov (.t 0)), xo 13 (.len false (.t 12)), xo 14 (.bini .lss (.t 11) (.t 13))])
 (.cond (.t 14)
 .skip
 (.exit 0)))
 (.seq (.block 1
 (.seq (.regD [] (.op ⟨0, false, [], xo 17 (.mov (.t 0))⟩
 (.op ⟨1, false, [], xo 18 (.mov (.t 5))⟩
 (.op ⟨2, true, [], xo 19 (.iadr 1 (.t 17) (.t 18))⟩
 (.op ⟨3, true, [], xo 20 (.load false 1 (.t 19))⟩
 (.op ⟨4, false, [], xo 21 (.mov (.t 1))⟩
 (.op ⟨5, false, [], xo 22 (.mov (.t 5))⟩
 (.op ⟨6, true, [], xo 23 (.iadr 1 (.t 21) (.t 22))⟩
 (.op ⟨7, true, [], xo 24 (.load false 1 (.t 23))⟩
 (.op ⟨8, false, [], xo 25 (.bini .neq (.t 20) (.t 24))⟩
 .nil))))))))))
 (.cond (.t 25)
 (.seq (.reg [xo 4 (.mov (.b false))])
 .ret)
 .skip)))
 (.reg [xo 15 (.mov (.t 5)), xo 16 (.bini .add (.t 15) (.c (.int .i64 (1)))), xo 5 (.mov (.t 16))]))))))
 (.seq (.reg [xo 4 (.mov (.b true))])
 .ret))))⟩
theorem t_hydrantref18_sameInts : trFn Tryz.prog 42 [([], (.first 0 (.first 1 (.first 2 (.first 3 (.first 4 (.first 5 (.first 6 (.first 7 (.first 8 .nil))))))))))] [[5]] = some f_hydrantref18_sameInts := by kernel_rfl

abbrev n_hydrantref11_Same : Nat := 43
def f_hydrantref11_Same : FnI := ⟨53, [.tmp 4],
 (.seq (.reg [xo 4 (.mov (.b false))])
 (.seq (.seq (.reg [xo 7 (.mov (.t 0)), xo 8 (.len false (.t 7)), xo 9 (.mov (.t 1)), xo 10 (.len false (.t 9)), xo 11 (.bini .neq (.t 8) (.t 10))])
 (.cond (.t 11)
 (.seq (.reg [xo 4 (.mov (.b false))])
 .ret)
 .skip))
 (.seq (.seq (.reg [xo 5 (.mov (.c (.int .i64 (0))))])
 (.block 0
 (.loop [5] [12, 13, 14, 15, 18, 19, 20, 21, 22, 23, 24, 25, 26, 27, 28, 4, 6, 29, 30, 31, 32, 33, 34, 35, 38, 39, 40, 41, 42, 43, 44, 45, 46, 47, 48, 49, 50, 51, 52, 36, 37, 16, 17, 5]
 (.seq (.seq (.reg [xo 12 (.mov (.t 5)), xo 13 (.mov (.t 0)), xo 14 (.len false (.t 13)), xo 15 (.bini .lss (.t 12) (.t 14))])
 (.cond (.t 15)
 .skip
 (.exit 0)))
 (.seq (.block 1
 (.seq (.seq (.regD [] (.op ⟨0, false, [], xo 18 (.mov (.t 0))⟩
 (.op ⟨1, false, [], xo 19 (.mov (.t 5))⟩
 (.op ⟨2, true, [], xo 20 (.iadr 1 (.t 18) (.t 19))⟩
 (.op ⟨3, true, [], xo 21 (.load false 1 (.t 20))⟩
 (.op ⟨4, false, [], xo 22 (.len false (.t 21))⟩
 (.op ⟨5, false, [], xo 23 (.mov (.t 1))⟩
 (.op ⟨6, false, [], xo 24 (.mov (.t 5))⟩
 (.op ⟨7, true, [], xo 25 (.iadr 1 (.t 23) (.t 24))⟩
 (.op ⟨8, true, [], xo 26 (.load false 1 (.t 25))⟩
 (.op ⟨9, false, [], xo 27 (.len false (.t 26))⟩
 (.op ⟨10, false, [], xo 28 (.bini .neq (.t 22) (.t 27))⟩
 .nil))))))))))))
 (.cond (.t 28)
 (.seq (.reg [xo 4 (.mov (.b false))])
 .ret)
 .skip))
 (.seq (.reg [xo 6 (.mov (.c (.int .i64 (0))))])
 (.block 2
 (.loop [6] [29, 30, 31, 32, 33, 34, 35, 38, 39, 40, 41, 42, 43, 44, 45, 46, 47, 48, 49, 50, 51, 52, 4, 36, 37, 6]
 (.seq (.seq (.reg [xo 29 (.mov (.t 6)), xo 30 (.mov (.t 0)), xo 31 (.mov (.t 5)), xo 32 (.iadr 1 (.t 30) (.t 31)), xo 33 (.load false 1 (.t 32)), xo 34 (.len false (.t 33)), xo 35 (.bini .lss (.t 29) (.t 34))])
 (.cond (.t 35)
 .skip
 (.exit 2)))
 (.seq (.block 3
 (.seq (.regD [] (.op ⟨0, false, [], xo 38 (.mov (.t 0))⟩
 (.op ⟨1, false, [], xo 39 (.mov (.t 5))⟩
 (.op ⟨2, true, [], xo 40 (.iadr 1 (.t 38) (.t 39))⟩
 (.op ⟨3, true, [], xo 41 (.load false 1 (.t 40))⟩
 (.op ⟨4, false, [], xo 42 (.mov (.t 6))⟩
 (.op ⟨5, true, [], xo 43 (.iadr 1 (.t 41) (.t 42))⟩
 (.op ⟨6, true, [], xo 44 (.load false 1 (.t 43))⟩
 (.op ⟨7, false, [], xo 45 (.mov (.t 1))⟩
 (.op ⟨8, false, [], xo 46 (.mov (.t 5))⟩
 (.op ⟨9, true, [], xo 47 (.iadr 1 (.t 45) (.t 46))⟩
 (.op ⟨10, true, [], xo 48 (.load false 1 (.t 47))⟩
 (.op ⟨11, false, [], xo 49 (.mov (.t 6))⟩
 (.op ⟨12, true, [], xo 50 (.iadr 1 (.t 48) (.t 49))⟩
 (.op ⟨13, true, [], xo 51 (.load false 1 (.t 50))⟩
 (.op ⟨14, false, [], xo 52 (.bini .neq (.t 44) (.t 51))⟩
 .nil))))))))))))))))
 (.cond (.t 52)
 (.seq (.reg [xo 4 (.mov (.b false))])
 .ret)
 .skip)))
 (.reg [xo 36 (.mov (.t 6)), xo 37 (.bini .add (.t 36) (.c (.int .i64 (1)))), xo 6 (.mov (.t 37))]))))))))
 (.reg [xo 16 (.mov (.t 5)), xo 17 (.bini .add (.t 16) (.c (.int .i64 (1)))), xo 5 (.mov (.t 17))]))))))
 (.seq (.reg [xo 4 (.mov (.b true))])
 .ret))))⟩
theorem t_hydrantref11_Same : trFn Tryz.prog 43 [([], (.first 0 (.first 1 (.first 2 (.first 3 (.first 4 (.first 5 (.first 6 (.first 7 (.first 8 (.first 9 (.first 10 .nil)))))))))))), ([], (.first 0 (.first 1 (.first 2 (.first 3 (.first 4 (.first 5 (.first 6 (.first 7 (.first 8 (.first 9 (.first 10 (.first 11 (.first 12 (.first 13 (.first 14 .nil))))))))))))))))] [[5], [6]] = some f_hydrantref11_Same := by kernel_rfl

abbrev n_hydrantref16_Same : Nat := 44
def f_hydrantref16_Same : FnI := ⟨26, [.tmp 4],
 (.seq (.reg [xo 4 (.mov (.b false))])
 (.seq (.seq (.reg [xo 6 (.mov (.t 0)), xo 7 (.len false (.t 6)), xo 8 (.mov (.t 1)), xo 9 (.len false (.t 8)), xo 10 (.bini .neq (.t 7) (.t 9))])
 (.cond (.t 10)
 (.seq (.reg [xo 4 (.mov (.b false))])
 .ret)
 .skip))
 (.seq (.seq (.reg [xo 5 (.mov (.c (.int .i64 (0))))])
 (.block 0
 (.loop [5] [11, 12, 13, 14, 17, 18, 19, 20, 21, 22, 23, 24, 25, 4, 15, 16, 5]
 (.seq (.seq (.reg [xo 11 (.mov (.t 5)), xo 12 (.mov (.t 0)), xo 13 (.len false (.t 12)), xo 14 (.bini .lss (.t 11) (.t 13))])
 (.cond (.t 14)
 .skip
 (.exit 0)))
 (.seq (.block 1
 (.seq (.regD [] (.op ⟨0, false, [], xo 17 (.mov (.t 0))⟩
 (.op ⟨1, false, [], xo 18 (.mov (.t 5))⟩
 (.op ⟨2, true, [], xo 19 (.iadr 3 (.t 17) (.t 18))⟩
 (.op ⟨3, true, [], xo 20 (.load true 3 (.t 19))⟩
 (.op ⟨4, false, [], xo 21 (.mov (.t 1))⟩
 (.op ⟨5, false, [], xo 22 (.mov (.t 5))⟩
 (.op ⟨6, true, [], xo 23 (.iadr 3 (.t 21) (.t 22))⟩
 (.op ⟨7, true, [], xo 24 (.load true 3 (.t 23))⟩
 (.op ⟨8, false, [], xo 25 (.binst true [0, 0, 2] (.t 20) (.t 24))⟩
 .nil))))))))))
 (.cond (.t 25)
 (.seq (.reg [xo 4 (.mov (.b false))])
 .ret)
 .skip)))
 (.reg [xo 15 (.mov (.t 5)), xo 16 (.bini .add (.t 15) (.c (.int .i64 (1)))), xo 5 (.mov (.t 16))]))))))
 (.seq (.reg [xo 4 (.mov (.b true))])
 .ret))))⟩
theorem t_hydrantref16_Same : trFn Tryz.prog 44 [([], (.first 0 (.first 1 (.first 2 (.first 3 (.first 4 (.first 5 (.first 6 (.first 7 (.first 8 .nil))))))))))] [[5]] = some f_hydrantref16_Same := by kernel_rfl

abbrev n_hydrantref07_Same : Nat := 45
def f_hydrantref07_Same : FnI := ⟨47, [.tmp 4],
 (.seq (.reg [xo 2 (.box 26 (.t 0)), xo 3 (.box 26 (.t 1)), xo 4 (.mov (.b false))])
 (.seq (.seq (.reg [xo 6 (.fadr 0 (.t 2)), xo 7 (.load false 1 (.t 6)), xo 8 (.fadr 0 (.t 3)), xo 9 (.load false 1 (.t 8)), xo 10 (.call 84 [(.t 7), (.t 9)]), xo 11 (.not (.t 10)), xo 12 (.mov (.t 11)), xg 13 (.fadr 2 (.t 2)) 12 false, xg 14 (.load false 1 (.t 13)) 12 false, xg 15 (.fadr 2 (.t 3)) 12 false, xg 16 (.load false 1 (.t 15)) 12 false, xg 17 (.call 85 [(.t 14), (.t 16)]) 12 false, xg 18 (.not (.t 17)) 12 false, xo 19 (.pick (.t 12) (.b true) (.t 18)), xo 20 (.mov (.t 19)), xg 21 (.fadr 1 (.t 2)) 20 false, xg 22 (.load false 1 (.t 21)) 20 false, xg 23 (.len false (.t 22)) 20 false, xg 24 (.fadr 1 (.t 3)) 20 false, xg 25 (.load false 1 (.t 24)) 20 false, xg 26 (.len false (.t 25)) 20 false, xg 27 (.bini .neq (.t 23) (.t 26)) 20 false, xo 28 (.pick (.t 20) (.b true) (.t 27))])
 (.cond (.t 28)
 (.seq (.reg [xo 4 (.mov (.b false))])
 .ret)
 .skip))
 (.seq (.seq (.reg [xo 5 (.mov (.c (.int .i64 (0))))])
 (.block 0
 (.loop [5] [29, 30, 31, 32, 33, 36, 37, 38, 39, 40, 41, 42, 43, 44, 45, 46, 4, 34, 35, 5]
 (.seq (.seq (.reg [xo 29 (.mov (.t 5)), xo 30 (.fadr 1 (.t 2)), xo 31 (.load false 1 (.t 30)), xo 32 (.len false (.t 31)), xo 33 (.bini .lss (.t 29) (.t 32))])
 (.cond (.t 33)
 .skip
 (.exit 0)))
 (.seq (.block 1
 (.seq (.regD [] (.op ⟨0, false, [], xo 36 (.fadr 1 (.t 2))⟩
 (.op ⟨1, true, [], xo 37 (.load false 1 (.t 36))⟩
 (.op ⟨2, false, [], xo 38 (.mov (.t 5))⟩
 (.op ⟨3, true, [], xo 39 (.iadr 4 (.t 37) (.t 38))⟩
 (.op ⟨4, true, [], xo 40 (.load true 4 (.t 39))⟩
 (.op ⟨5, false, [], xo 41 (.fadr 1 (.t 3))⟩
 (.op ⟨6, true, [], xo 42 (.load false 1 (.t 41))⟩
 (.op ⟨7, false, [], xo 43 (.mov (.t 5))⟩
 (.op ⟨8, true, [], xo 44 (.iadr 4 (.t 42) (.t 43))⟩
 (.op ⟨9, true, [], xo 45 (.load true 4 (.t 44))⟩
 (.op ⟨10, false, [], xo 46 (.binst true [0, 1, 1, 0] (.t 40) (.t 45))⟩
 .nil))))))))))))
 (.cond (.t 46)
 (.seq (.reg [xo 4 (.mov (.b false))])
 .ret)
 .skip)))
 (.reg [xo 34 (.mov (.t 5)), xo 35 (.bini .add (.t 34) (.c (.int .i64 (1)))), xo 5 (.mov (.t 35))]))))))
 (.seq (.reg [xo 4 (.mov (.b true))])
 .ret))))⟩
theorem t_hydrantref07_Same : trFn Tryz.prog 45 [([], (.first 0 (.first 1 (.first 2 (.first 3 (.first 4 (.first 5 (.first 6 (.first 7 (.first 8 (.first 9 (.first 10 .nil))))))))))))] [[5]] = some f_hydrantref07_Same := by kernel_rfl

abbrev n_hydrantref14_Same : Nat := 46
def f_hydrantref14_Same : FnI := ⟨45, [.tmp 4],
 (.seq (.reg [xo 2 (.box 82 (.t 0)), xo 3 (.box 82 (.t 1)), xo 4 (.mov (.b false))])
 (.seq (.seq (.reg [xo 6 (.fadr 0 (.t 2)), xo 7 (.load false 1 (.t 6)), xo 8 (.fadr 0 (.t 3)), xo 9 (.load false 1 (.t 8)), xo 10 (.bini .neq (.t 7) (.t 9)), xo 11 (.mov (.t 10)), xg 12 (.fadr 2 (.t 2)) 11 false, xg 13 (.load false 1 (.t 12)) 11 false, xg 14 (.fadr 2 (.t 3)) 11 false, xg 15 (.load false 1 (.t 14)) 11 false, xg 16 (.bini .neq (.t 13) (.t 15)) 11 false, xo 17 (.pick (.t 11) (.b true) (.t 16)), xo 18 (.mov (.t 17)), xg 19 (.fadr 1 (.t 2)) 18 false, xg 20 (.load false 1 (.t 19)) 18 false, xg 21 (.len false (.t 20)) 18 false, xg 22 (.fadr 1 (.t 3)) 18 false, xg 23 (.load false 1 (.t 22)) 18 false, xg 24 (.len false (.t 23)) 18 false, xg 25 (.bini .neq (.t 21) (.t 24)) 18 false, xo 26 (.pick (.t 18) (.b true) (.t 25))])
 (.cond (.t 26)
 (.seq (.reg [xo 4 (.mov (.b false))])
 .ret)
 .skip))
 (.seq (.seq (.reg [xo 5 (.mov (.c (.int .i64 (0))))])
 (.block 0
 (.loop [5] [27, 28, 29, 30, 31, 34, 35, 36, 37, 38, 39, 40, 41, 42, 43, 44, 4, 32, 33, 5]
 (.seq (.seq (.reg [xo 27 (.mov (.t 5)), xo 28 (.fadr 1 (.t 2)), xo 29 (.load false 1 (.t 28)), xo 30 (.len false (.t 29)), xo 31 (.bini .lss (.t 27) (.t 30))])
 (.cond (.t 31)
 .skip
 (.exit 0)))
 (.seq (.block 1
 (.seq (.regD [] (.op ⟨0, false, [], xo 34 (.fadr 1 (.t 2))⟩
 (.op ⟨1, true, [], xo 35 (.load false 1 (.t 34))⟩
 (.op ⟨2, false, [], xo 36 (.mov (.t 5))⟩
 (.op ⟨3, true, [], xo 37 (.iadr 1 (.t 35) (.t 36))⟩
 (.op ⟨4, true, [], xo 38 (.load false 1 (.t 37))⟩
 (.op ⟨5, false, [], xo 39 (.fadr 1 (.t 3))⟩
 (.op ⟨6, true, [], xo 40 (.load false 1 (.t 39))⟩
 (.op ⟨7, false, [], xo 41 (.mov (.t 5))⟩
 (.op ⟨8, true, [], xo 42 (.iadr 1 (.t 40) (.t 41))⟩
 (.op ⟨9, true, [], xo 43 (.load false 1 (.t 42))⟩
 (.op ⟨10, false, [], xo 44 (.bini .neq (.t 38) (.t 43))⟩
 .nil))))))))))))
 (.cond (.t 44)
 (.seq (.reg [xo 4 (.mov (.b false))])
 .ret)
 .skip)))
 (.reg [xo 32 (.mov (.t 5)), xo 33 (.bini .add (.t 32) (.c (.int .i64 (1)))), xo 5 (.mov (.t 33))]))))))
 (.seq (.reg [xo 4 (.mov (.b true))])
 .ret))))⟩
theorem t_hydrantref14_Same : trFn Tryz.prog 46 [([], (.first 0 (.first 1 (.first 2 (.first 3 (.first 4 (.first 5 (.first 6 (.first 7 (.first 8 (.first 9 (.first 10 .nil))))))))))))] [[5]] = some f_hydrantref14_Same := by kernel_rfl

abbrev n_world_ground : Nat := 47
def f_world_ground : FnI := ⟨51, [.tmp 2],
 (.seq (.reg [xo 1 (.box 34 (.t 0)), xo 2 (.mov (.b false))])
 (.seq (.reg [xo 4 (.fadr 3 (.t 1)), xo 5 (.load false 1 (.t 4)), xo 6 (.len false (.t 5)), xo 3 (.mov (.t 6))])
 (.seq (.seq (.reg [xo 7 (.mov (.t 3)), xo 8 (.bini .lss (.t 7) (.c (.int .i64 (1)))), xo 9 (.mov (.t 8)), xg 10 (.mov (.t 3)) 9 false, xg 11 (.bini .gtr (.t 10) (.c (.int .i64 (8)))) 9 false, xo 12 (.pick (.t 9) (.b true) (.t 11)), xo 13 (.mov (.t 12)), xg 14 (.fadr 6 (.t 1)) 13 false, xg 15 (.load false 1 (.t 14)) 13 false, xg 16 (.len false (.t 15)) 13 false, xg 17 (.mov (.t 3)) 13 false, xg 18 (.bini .neq (.t 16) (.t 17)) 13 false, xo 19 (.pick (.t 13) (.b true) (.t 18)), xo 20 (.mov (.t 19)), xg 21 (.fadr 6 (.t 1)) 20 false, xg 22 (.load false 1 (.t 21)) 20 false, xg 23 (.call 86 [(.t 22)]) 20 false, xg 24 (.not (.t 23)) 20 false, xo 25 (.pick (.t 20) (.b true) (.t 24)), xo 26 (.mov (.t 25)), xg 27 (.fadr 0 (.t 1)) 26 false, xg 28 (.load false 1 (.t 27)) 26 false, xg 29 (.bini .lss (.t 28) (.c (.int .i64 (0)))) 26 false, xo 30 (.pick (.t 26) (.b true) (.t 29)), xo 31 (.mov (.t 30)), xg 32 (.fadr 0 (.t 1)) 31 false, xg 33 (.load false 1 (.t 32)) 31 false, xg 34 (.bini .gtr (.t 33) (.c (.int .i64 (1000000000000)))) 31 false, xo 35 (.pick (.t 31) (.b true) (.t 34)), xo 36 (.mov (.t 35)), xg 37 (.fadr 2 (.t 1)) 36 false, xg 38 (.load false 1 (.t 37)) 36 false, xg 39 (.bini .neq (.t 38) (.c (.int .i64 (0)))) 36 false, xg 40 (.mov (.t 39)) 36 false, xg 41 (.fadr 2 (.t 1)) 40 true, xg 42 (.load false 1 (.t 41)) 40 true, xg 43 (.bini .neq (.t 42) (.c (.int .i64 (1)))) 40 true, xg 44 (.pick (.t 40) (.t 43) (.b false)) 36 false, xo 45 (.pick (.t 36) (.b true) (.t 44))])
 (.cond (.t 45)
 (.seq (.reg [xo 2 (.mov (.b false))])
 .ret)
 .skip))
 (.seq (.reg [xo 46 (.fadr 3 (.t 1)), xo 47 (.load false 1 (.t 46)), xo 48 (.mkf (.func 88) [] [(.t 1)]), xo 49 (.call 87 [(.t 47), (.t 48)]), xo 50 (.not (.t 49)), xo 2 (.mov (.t 50))])
 .ret))))⟩
theorem t_world_ground : trFn Tryz.prog 47 [] [] = some f_world_ground := by kernel_rfl

abbrev n_limbo_Is : Nat := 48
def f_limbo_Is : FnI := ⟨29, [.tmp 2],
 (.seq (.reg [xo 2 (.mov (.b false))])
 (.seq (.seq (.reg [xo 5 (.mov (.t 0)), xo 6 (.len false (.t 5)), xo 7 (.mov (.c (.int .i64 (0))))])
 (.block 0
 (.loop [7] [8, 9, 10, 11, 4, 3, 12, 13, 14, 15, 16, 17, 18, 19, 20, 21, 22, 23, 24, 25, 26, 27, 2, 28, 7]
 (.seq (.reg [xo 8 (.bini .lss (.t 7) (.t 6))])
 (.seq (.cond (.t 8)
 .skip
 (.exit 0))
 (.seq (.block 1
 (.seq (.reg [xo 9 (.mov (.t 7)), xo 10 (.iadr 3 (.t 5) (.t 7)), xo 11 (.load true 3 (.t 10)), xo 4 (.alloc 95 [(.v (.int .i64 (0))), (.v (.int .i64 (0))), (.v (.bool false))]), xo 3 (.mov (.t 9)), xn (.store 3 (.t 4) (.t 11))])
 (.seq (.regD [] (.op ⟨0, false, [], xo 12 (.fadr 0 (.t 4))⟩
 (.op ⟨1, true, [], xo 13 (.load false 1 (.t 12))⟩
 (.op ⟨2, false, [], xo 14 (.bini .lss (.t 13) (.c (.int .i64 (0))))⟩
 (.op ⟨3, false, [], xo 15 (.mov (.t 14))⟩
 (.op ⟨4, false, [], xg 16 (.fadr 1 (.t 4)) 15 false⟩
 (.op ⟨5, true, [], xg 17 (.load false 1 (.t 16)) 15 false⟩
 (.op ⟨6, false, [], xg 18 (.bini .lss (.t 17) (.c (.int .i64 (0)))) 15 false⟩
 (.op ⟨7, false, [], xo 19 (.pick (.t 15) (.b true) (.t 18))⟩
 (.op ⟨8, false, [], xo 20 (.mov (.t 19))⟩
 (.op ⟨9, false, [], xg 21 (.mov (.t 0)) 20 false⟩
 (.op ⟨10, false, [], xg 22 (.mov (.t 3)) 20 false⟩
 (.op ⟨11, false, [], xg 23 (.slc 3 (.t 21) none (some (.t 22)) none) 20 false⟩
 (.op ⟨12, false, [], xg 24 (.fadr 0 (.t 4)) 20 false⟩
 (.op ⟨13, true, [], xg 25 (.load false 1 (.t 24)) 20 false⟩
 (.op ⟨14, false, [], xg 26 (.call 89 [(.t 23), (.t 25)]) 20 false⟩
 (.op ⟨15, false, [], xo 27 (.pick (.t 20) (.b true) (.t 26))⟩
 .nil)))))))))))))))))
 (.cond (.t 27)
 (.seq (.reg [xo 2 (.mov (.b false))])
 .ret)
 .skip))))
 (.reg [xo 28 (.bini .add (.t 7) (.c (.int .i64 (1)))), xo 7 (.mov (.t 28))])))))))
 (.seq (.reg [xo 2 (.mov (.b true))])
 .ret)))⟩
theorem t_limbo_Is : trFn Tryz.prog 48 [([], (.first 0 (.first 1 (.first 2 (.first 3 (.first 4 (.first 5 (.first 6 (.first 7 (.first 8 (.first 9 (.first 10 (.first 11 (.first 12 (.first 13 (.exec 14 (.first 15 .nil)))))))))))))))))] [[7]] = some f_limbo_Is := by kernel_rfl

abbrev n_world_version : Nat := 49
def f_world_version : FnI := ⟨50, [.tmp 2],
 (.seq (.reg [xo 1 (.box 40 (.t 0)), xo 2 (.mov (.b false))])
 (.seq (.seq (.reg [xo 7 (.fadr 0 (.t 1)), xo 8 (.load true 3 (.t 7)), xo 9 (.call 17 [(.t 8)]), xo 10 (.not (.t 9)), xo 11 (.mov (.t 10)), xg 12 (.fadr 3 (.t 1)) 11 false, xg 13 (.load false 1 (.t 12)) 11 false, xg 14 (.len false (.t 13)) 11 false, xg 15 (.fadr 0 (.t 1)) 11 false, xg 16 (.fadr 2 (.t 15)) 11 false, xg 17 (.load false 1 (.t 16)) 11 false, xg 18 (.len false (.t 17)) 11 false, xg 19 (.bini .neq (.t 14) (.t 18)) 11 false, xo 20 (.pick (.t 11) (.b true) (.t 19))])
 (.cond (.t 20)
 (.seq (.reg [xo 2 (.mov (.b false))])
 .ret)
 .skip))
 (.seq (.seq (.reg [xo 21 (.fadr 3 (.t 1)), xo 22 (.load false 1 (.t 21)), xo 23 (.len false (.t 22)), xo 24 (.mov (.c (.int .i64 (0))))])
 (.block 0
 (.loop [24] [25, 26, 27, 28, 4, 3, 29, 30, 31, 32, 33, 34, 5, 35, 6, 36, 37, 38, 39, 40, 41, 42, 43, 44, 45, 46, 47, 48, 2, 49, 24]
 (.seq (.reg [xo 25 (.bini .lss (.t 24) (.t 23))])
 (.seq (.cond (.t 25)
 .skip
 (.exit 0))
 (.seq (.block 1
 (.seq (.reg [xo 26 (.mov (.t 24)), xo 27 (.iadr 2 (.t 22) (.t 24)), xo 28 (.load true 2 (.t 27)), xo 4 (.alloc 80 [(.v (.int .u64 (0))), (.v (.slice none 0 0))]), xo 3 (.mov (.t 26)), xn (.store 2 (.t 4) (.t 28))])
 (.seq (.reg [xo 29 (.fadr 0 (.t 1)), xo 30 (.fadr 2 (.t 29)), xo 31 (.load false 1 (.t 30)), xo 32 (.mov (.t 3)), xo 33 (.iadr 4 (.t 31) (.t 32)), xo 34 (.load true 4 (.t 33)), xo 5 (.alloc 71 [(.v (.string ⟨#[]⟩)), (.v (.int .i64 (0))), (.v (.int .i64 (0))), (.v (.slice none 0 0))]), xn (.store 4 (.t 5) (.t 34))])
 (.seq (.reg [xo 35 (.mkf (.func 90) [] [(.t 5)]), xo 6 (.mov (.t 35))])
 (.seq (.reg [xo 36 (.fadr 1 (.t 4)), xo 37 (.load false 1 (.t 36)), xo 38 (.len false (.t 37)), xo 39 (.fadr 3 (.t 5)), xo 40 (.load false 1 (.t 39)), xo 41 (.len false (.t 40)), xo 42 (.bini .neq (.t 38) (.t 41)), xo 43 (.mov (.t 42)), xg 44 (.fadr 1 (.t 4)) 43 false, xg 45 (.load false 1 (.t 44)) 43 false, xg 46 (.mov (.t 6)) 43 false, xg 47 (.call 91 [(.t 45), (.t 46)]) 43 false, xo 48 (.pick (.t 43) (.b true) (.t 47))])
 (.cond (.t 48)
 (.seq (.reg [xo 2 (.mov (.b false))])
 .ret)
 .skip))))))
 (.reg [xo 49 (.bini .add (.t 24) (.c (.int .i64 (1)))), xo 24 (.mov (.t 49))])))))))
 (.seq (.reg [xo 2 (.mov (.b true))])
 .ret))))⟩
theorem t_world_version : trFn Tryz.prog 49 [] [[24]] = some f_world_version := by kernel_rfl

abbrev n_gates_Is : Nat := 50
def f_gates_Is : FnI := ⟨20, [.tmp 2],
 (.seq (.reg [xo 1 (.box 77 (.t 0)), xo 2 (.mov (.b false))])
 (.seq (.reg [xo 3 (.fadr 0 (.t 1)), xo 4 (.load false 1 (.t 3)), xo 5 (.call 32 [(.t 4)]), xo 6 (.mov (.t 5)), xg 7 (.fadr 2 (.t 1)) 6 true, xg 8 (.load false 1 (.t 7)) 6 true, xg 9 (.bini .geq (.t 8) (.c (.int .i64 (0)))) 6 true, xo 10 (.pick (.t 6) (.t 9) (.b false)), xo 11 (.mov (.t 10)), xg 12 (.fadr 1 (.t 1)) 11 true, xg 13 (.load false 1 (.t 12)) 11 true, xg 14 (.mov (.t 13)) 11 true, xg 15 (.fadr 3 (.t 1)) 14 false, xg 16 (.load false 1 (.t 15)) 14 false, xg 17 (.not (.t 16)) 14 false, xg 18 (.pick (.t 14) (.b true) (.t 17)) 11 true, xo 19 (.pick (.t 11) (.t 18) (.b false)), xo 2 (.mov (.t 19))])
 .ret))⟩
theorem t_gates_Is : trFn Tryz.prog 50 [] [] = some f_gates_Is := by kernel_rfl

abbrev n_slots_Free : Nat := 51
def f_slots_Free : FnI := ⟨19, [.cell 2 1 false, .cell 3 1 false],
 (.seq (.reg [xo 1 (.box 82 (.t 0)), xo 2 (.alloc 28 [(.v (.slice none 0 0))]), xo 3 (.alloc 35 [(.v (.int .i64 (0)))])])
 (.seq (.reg [xo 4 (.alloc 28 [(.v (.slice none 0 0))])])
 (.seq (.seq (.reg [xo 6 (.load true 3 (.t 1)), xo 7 (.call 92 [(.t 6)])])
 (.block 0
 (.rfun (.t 7) [8]
 (.reg [xo 5 (.mov (.t 8))])
 (.block 1
 (.seq (.reg [xo 9 (.mov (.t 5))])
 (.block 2
 (.seq (.reg [xo 15 (.bini .eql (.t 9) (.c (.int .i64 (-2)))), xo 14 (.mov (.t 15))])
 (.cond (.t 14)
 (.seq (.reg [xn (.store 1 (.t 2) (.c (.slice none 0 0))), xn (.store 1 (.t 3) (.c (.int .i64 (11))))])
 .ret)
 (.seq (.reg [xo 17 (.bini .eql (.t 9) (.c (.int .i64 (-1)))), xo 16 (.mov (.t 17))])
 (.cond (.t 16)
 .skip
 (.reg [xo 10 (.load false 1 (.t 4)), xo 11 (.mov (.t 5)), xo 12 (.bsl 3 1 1 [(.v (.int .i64 (0)))] [(0, 1, (.t 11))]), xo 13 (.app 3 1 8 (.t 10) (.t 12)), xn (.store 1 (.t 4) (.t 13))])))))))))))
 (.seq (.reg [xo 18 (.load false 1 (.t 4)), xn (.store 1 (.t 2) (.t 18)), xn (.store 1 (.t 3) (.c (.int .i64 (0))))])
 .ret))))⟩
theorem t_slots_Free : trFn Tryz.prog 51 [] [] = some f_slots_Free := by kernel_rfl

abbrev n_slots_Is : Nat := 52
def f_slots_Is : FnI := ⟨29, [.tmp 2],
 (.seq (.reg [xo 1 (.box 82 (.t 0)), xo 2 (.mov (.b false))])
 (.seq (.reg [xo 6 (.load true 3 (.t 1)), xo 7 (.call 51 [(.t 6)]), xo 5 (.mov (.t 7)), xo 8 (.ext 0 (.t 5)), xo 9 (.ext 1 (.t 5)), xo 3 (.mov (.t 8)), xo 4 (.mov (.t 9))])
 (.seq (.reg [xo 10 (.mov (.t 4)), xo 11 (.bini .eql (.t 10) (.c (.int .i64 (0)))), xo 12 (.mov (.t 11)), xg 13 (.fadr 1 (.t 1)) 12 true, xg 14 (.load false 1 (.t 13)) 12 true, xg 15 (.len false (.t 14)) 12 true, xg 16 (.bini .geq (.t 15) (.c (.int .i64 (1)))) 12 true, xo 17 (.pick (.t 12) (.t 16) (.b false)), xo 18 (.mov (.t 17)), xg 19 (.fadr 1 (.t 1)) 18 true, xg 20 (.load false 1 (.t 19)) 18 true, xg 21 (.len false (.t 20)) 18 true, xg 22 (.bini .leq (.t 21) (.c (.int .i64 (4)))) 18 true, xo 23 (.pick (.t 18) (.t 22) (.b false)), xo 24 (.mov (.t 23)), xg 25 (.fadr 2 (.t 1)) 24 true, xg 26 (.load false 1 (.t 25)) 24 true, xg 27 (.bini .geq (.t 26) (.c (.int .i64 (0)))) 24 true, xo 28 (.pick (.t 24) (.t 27) (.b false)), xo 2 (.mov (.t 28))])
 .ret)))⟩
theorem t_slots_Is : trFn Tryz.prog 52 [] [] = some f_slots_Is := by kernel_rfl

abbrev n_config_Check : Nat := 53
def f_config_Check : FnI := ⟨35, [.tmp 2, .tmp 3],
 (.seq (.reg [xo 1 (.box 51 (.t 0)), xo 2 (.mov (.c (.int .i64 (0)))), xo 3 (.mov (.c (.int .i64 (0))))])
 (.seq (.reg [xo 9 (.load true 3 (.t 1)), xo 10 (.build [(.v (.slice none 0 0)), (.v (.slice none 0 0)), (.v (.slice none 0 0))] [(0, 3, (.t 9))]), xo 4 (.alloc 153 [(.v (.slice none 0 0)), (.v (.slice none 0 0)), (.v (.slice none 0 0))]), xn (.store 3 (.t 4) (.t 10))])
 (.seq (.seq (.reg [xo 11 (.load true 3 (.t 4)), xo 12 (.mkf (.func 93) [(.t 11)] []), xo 13 (.load true 3 (.t 4)), xo 14 (.mkf (.func 94) [(.t 13)] []), xo 15 (.load true 3 (.t 4)), xo 16 (.mkf (.func 95) [(.t 15)] []), xo 17 (.load true 3 (.t 4)), xo 18 (.mkf (.func 96) [(.t 17)] []), xo 19 (.bsl 154 1 4 [(.v .nilFunc), (.v .nilFunc), (.v .nilFunc), (.v .nilFunc)] [(0, 1, (.t 12)), (1, 1, (.t 14)), (2, 1, (.t 16)), (3, 1, (.t 18))]), xo 20 (.len false (.t 19)), xo 21 (.mov (.c (.int .i64 (0))))])
 (.block 0
 (.loop [21] [22, 23, 24, 6, 26, 27, 25, 28, 29, 7, 8, 30, 31, 32, 33, 2, 3, 34, 21]
 (.seq (.reg [xo 22 (.bini .lss (.t 21) (.t 20))])
 (.seq (.cond (.t 22)
 .skip
 (.exit 0))
 (.seq (.block 1
 (.seq (.reg [xo 23 (.iadr 1 (.t 19) (.t 21)), xo 24 (.load false 1 (.t 23)), xo 6 (.mov (.t 24))])
 (.seq (.reg [xo 26 (.mov (.t 6)), xo 27 (.callv (.t 26) []), xo 25 (.mov (.t 27)), xo 28 (.ext 0 (.t 25)), xo 29 (.ext 1 (.t 25)), xo 7 (.mov (.t 28)), xo 8 (.mov (.t 29))])
 (.seq (.reg [xo 30 (.mov (.t 7)), xo 31 (.bini .neq (.t 30) (.c (.int .i64 (0))))])
 (.cond (.t 31)
 (.seq (.reg [xo 32 (.mov (.t 7)), xo 33 (.mov (.t 8)), xo 2 (.mov (.t 32)), xo 3 (.mov (.t 33))])
 .ret)
 .skip)))))
 (.reg [xo 34 (.bini .add (.t 21) (.c (.int .i64 (1)))), xo 21 (.mov (.t 34))])))))))
 (.seq (.reg [xo 2 (.mov (.c (.int .i64 (0)))), xo 3 (.mov (.c (.int .i64 (0))))])
 .ret))))⟩
theorem t_config_Check : trFn Tryz.prog 53 [] [[21]] = some f_config_Check := by kernel_rfl

abbrev n_snap_Config : Nat := 54
def f_snap_Config : FnI := ⟨69, [.cell 2 3 true],
 (.seq (.reg [xo 1 (.box 26 (.t 0)), xo 2 (.alloc 51 [(.v (.slice none 0 0)), (.v (.slice none 0 0)), (.v (.slice none 0 0))])])
 (.seq (.reg [xo 7 (.fadr 0 (.t 1)), xo 8 (.load false 1 (.t 7)), xo 9 (.fadr 2 (.t 1)), xo 10 (.load false 1 (.t 9)), xo 11 (.build [(.v (.slice none 0 0)), (.v (.slice none 0 0)), (.v (.slice none 0 0))] [(0, 1, (.t 8)), (2, 1, (.t 10))]), xo 3 (.alloc 51 [(.v (.slice none 0 0)), (.v (.slice none 0 0)), (.v (.slice none 0 0))]), xn (.store 3 (.t 3) (.t 11))])
 (.seq (.seq (.reg [xo 12 (.fadr 1 (.t 1)), xo 13 (.load false 1 (.t 12)), xo 14 (.len false (.t 13)), xo 15 (.mov (.c (.int .i64 (0))))])
 (.block 0
 (.loop [15] [16, 17, 18, 5, 19, 20, 21, 22, 23, 6, 24, 25, 26, 27, 28, 29, 30, 31, 32, 33, 34, 35, 36, 37, 38, 39, 40, 41, 42, 43, 44, 45, 46, 47, 48, 49, 50, 51, 52, 53, 54, 55, 56, 57, 58, 59, 60, 61, 62, 63, 64, 65, 66, 67, 15]
 (.seq (.reg [xo 16 (.bini .lss (.t 15) (.t 14))])
 (.seq (.cond (.t 16)
 .skip
 (.exit 0))
 (.seq (.block 1
 (.seq (.reg [xo 17 (.iadr 4 (.t 13) (.t 15)), xo 18 (.load true 4 (.t 17)), xo 5 (.alloc 122 [(.v (.int .i64 (0))), (.v (.string ⟨#[]⟩)), (.v (.string ⟨#[]⟩)), (.v (.int .i64 (0)))]), xn (.store 4 (.t 5) (.t 18))])
 (.seq (.reg [xo 19 (.fadr 1 (.t 5)), xo 20 (.load false 1 (.t 19)), xo 21 (.fadr 2 (.t 5)), xo 22 (.load false 1 (.t 21)), xo 23 (.build [(.v (.string ⟨#[]⟩)), (.v (.string ⟨#[]⟩)), (.v (.string ⟨#[]⟩)), (.v (.string ⟨#[]⟩))] [(1, 1, (.t 20)), (2, 1, (.t 22))]), xo 6 (.alloc 157 [(.v (.string ⟨#[]⟩)), (.v (.string ⟨#[]⟩)), (.v (.string ⟨#[]⟩)), (.v (.string ⟨#[]⟩))]), xn (.store 4 (.t 6) (.t 23))])
 (.seq (.seq (.reg [xo 24 (.fadr 0 (.t 5)), xo 25 (.load false 1 (.t 24)), xo 26 (.bini .geq (.t 25) (.c (.int .i64 (0)))), xo 27 (.mov (.t 26)), xg 28 (.fadr 0 (.t 5)) 27 true, xg 29 (.load false 1 (.t 28)) 27 true, xg 30 (.fadr 0 (.t 1)) 27 true, xg 31 (.load false 1 (.t 30)) 27 true, xg 32 (.len false (.t 31)) 27 true, xg 33 (.bini .lss (.t 29) (.t 32)) 27 true, xo 34 (.pick (.t 27) (.t 33) (.b false))])
 (.cond (.t 34)
 (.reg [xo 35 (.fadr 0 (.t 1)), xo 36 (.load false 1 (.t 35)), xo 37 (.fadr 0 (.t 5)), xo 38 (.load false 1 (.t 37)), xo 39 (.iadr 1 (.t 36) (.t 38)), xo 40 (.load false 1 (.t 39)), xo 41 (.fadr 0 (.t 6)), xn (.store 1 (.t 41) (.t 40))])
 .skip))
 (.seq (.seq (.reg [xo 42 (.fadr 3 (.t 5)), xo 43 (.load false 1 (.t 42)), xo 44 (.bini .geq (.t 43) (.c (.int .i64 (0)))), xo 45 (.mov (.t 44)), xg 46 (.fadr 3 (.t 5)) 45 true, xg 47 (.load false 1 (.t 46)) 45 true, xg 48 (.fadr 2 (.t 1)) 45 true, xg 49 (.load false 1 (.t 48)) 45 true, xg 50 (.len false (.t 49)) 45 true, xg 51 (.bini .lss (.t 47) (.t 50)) 45 true, xo 52 (.pick (.t 45) (.t 51) (.b false))])
 (.cond (.t 52)
 (.reg [xo 53 (.fadr 2 (.t 1)), xo 54 (.load false 1 (.t 53)), xo 55 (.fadr 3 (.t 5)), xo 56 (.load false 1 (.t 55)), xo 57 (.iadr 4 (.t 54) (.t 56)), xo 58 (.fadr 0 (.t 57)), xo 59 (.load false 1 (.t 58)), xo 60 (.fadr 3 (.t 6)), xn (.store 1 (.t 60) (.t 59))])
 .skip))
 (.reg [xo 61 (.fadr 1 (.t 3)), xo 62 (.load false 1 (.t 61)), xo 63 (.load true 4 (.t 6)), xo 64 (.bsl 157 4 1 [(.v (.string ⟨#[]⟩)), (.v (.string ⟨#[]⟩)), (.v (.string ⟨#[]⟩)), (.v (.string ⟨#[]⟩))] [(0, 4, (.t 63))]), xo 65 (.app 157 4 64 (.t 62) (.t 64)), xo 66 (.fadr 1 (.t 3)), xn (.store 1 (.t 66) (.t 65))]))))))
 (.reg [xo 67 (.bini .add (.t 15) (.c (.int .i64 (1)))), xo 15 (.mov (.t 67))])))))))
 (.seq (.reg [xo 68 (.load true 3 (.t 3)), xn (.store 3 (.t 2) (.t 68))])
 .ret))))⟩
theorem t_snap_Config : trFn Tryz.prog 54 [] [[15]] = some f_snap_Config := by kernel_rfl

abbrev n_names_low : Nat := 67
def f_names_low : FnI := ⟨9, [.tmp 2],
 (.seq (.reg [xo 2 (.mov (.b false))])
 (.seq (.reg [xo 3 (.mov (.t 0)), xo 4 (.bini .geq (.t 3) (.c (.int .u8 (97)))), xo 5 (.mov (.t 4)), xg 6 (.mov (.t 0)) 5 true, xg 7 (.bini .leq (.t 6) (.c (.int .u8 (122)))) 5 true, xo 8 (.pick (.t 5) (.t 7) (.b false)), xo 2 (.mov (.t 8))])
 .ret))⟩
theorem t_names_low : trFn Tryz.prog 67 [] [] = some f_names_low := by kernel_rfl

abbrev n_names_word : Nat := 68
def f_names_word : FnI := ⟨2, [.cell 0 1 true],
 (.seq (.reg [xo 0 (.alloc 125 [(.v .nilFunc)])])
 (.seq (.reg [xo 1 (.build [(.v .nilFunc)] [(0, 1, (.c (.func (.func 103) #[] #[])))]), xn (.store 1 (.t 0) (.t 1))])
 .ret))⟩
theorem t_names_word : trFn Tryz.prog 68 [] [] = some f_names_word := by kernel_rfl

abbrev n_names_alphabet__all : Nat := 69
def f_names_alphabet__all : FnI := ⟨28, [.tmp 6],
 (.seq (.reg [xo 3 (.box 125 (.t 0)), xo 6 (.mov (.b false))])
 (.seq (.seq (.reg [xo 8 (.mov (.t 1)), xo 9 (.len true (.t 8)), xo 10 (.mov (.c (.int .i64 (0))))])
 (.block 0
 (.loop [10] [11, 12, 7, 13, 14, 15, 16, 17, 18, 19, 20, 21, 22, 23, 24, 25, 26, 6, 27, 10]
 (.seq (.reg [xo 11 (.bini .lss (.t 10) (.t 9))])
 (.seq (.cond (.t 11)
 .skip
 (.exit 0))
 (.seq (.block 1
 (.seq (.reg [xo 12 (.mov (.t 10)), xo 7 (.mov (.t 12))])
 (.seq (.regD [] (.op ⟨0, false, [], xo 13 (.mov (.t 1))⟩
 (.op ⟨1, false, [], xo 14 (.mov (.t 7))⟩
 (.op ⟨2, false, [], xo 15 (.idxs (.t 13) (.t 14))⟩
 (.op ⟨3, false, [], xo 16 (.mov (.t 2))⟩
 (.op ⟨4, false, [], xo 17 (.bini .neq (.t 15) (.t 16))⟩
 (.op ⟨5, false, [], xo 18 (.mov (.t 17))⟩
 (.op ⟨6, false, [], xg 19 (.fadr 0 (.t 3)) 18 true⟩
 (.op ⟨7, true, [], xg 20 (.load false 1 (.t 19)) 18 true⟩
 (.op ⟨8, false, [], xg 21 (.mov (.t 1)) 18 true⟩
 (.op ⟨9, false, [], xg 22 (.mov (.t 7)) 18 true⟩
 (.op ⟨10, false, [], xg 23 (.idxs (.t 21) (.t 22)) 18 true⟩
 (.op ⟨11, false, [], xg 24 (.callv (.t 20) [(.t 23)]) 18 true⟩
 (.op ⟨12, false, [], xg 25 (.not (.t 24)) 18 true⟩
 (.op ⟨13, false, [], xo 26 (.pick (.t 18) (.t 25) (.b false))⟩
 .nil)))))))))))))))
 (.cond (.t 26)
 (.seq (.reg [xo 6 (.mov (.b false))])
 .ret)
 .skip))))
 (.reg [xo 27 (.bini .add (.t 10) (.c (.int .i64 (1)))), xo 10 (.mov (.t 27))])))))))
 (.seq (.reg [xo 6 (.mov (.b true))])
 .ret)))⟩
theorem t_names_alphabet__all : trFn Tryz.prog 69 [([], (.first 0 (.first 1 (.first 2 (.first 3 (.first 4 (.first 5 (.first 6 (.first 7 (.first 8 (.first 9 (.first 10 (.exec 11 (.first 12 (.first 13 .nil)))))))))))))))] [[10]] = some f_names_alphabet__all := by kernel_rfl

abbrev n_slices_IndexFunc___api_Listen_api_Listen : Nat := 70
def f_slices_IndexFunc___api_Listen_api_Listen : FnI := ⟨19, [.tmp 4],
 (.seq (.reg [xo 4 (.mov (.c (.int .i64 (0))))])
 (.seq (.seq (.reg [xo 6 (.mov (.t 0)), xo 7 (.len false (.t 6)), xo 8 (.mov (.c (.int .i64 (0))))])
 (.block 0
 (.loop [8] [9, 10, 5, 11, 12, 13, 14, 15, 16, 17, 4, 18, 8]
 (.seq (.reg [xo 9 (.bini .lss (.t 8) (.t 7))])
 (.seq (.cond (.t 9)
 .skip
 (.exit 0))
 (.seq (.block 1
 (.seq (.reg [xo 10 (.mov (.t 8)), xo 5 (.mov (.t 10))])
 (.seq (.reg [xo 11 (.mov (.t 1)), xo 12 (.mov (.t 0)), xo 13 (.mov (.t 5)), xo 14 (.iadr 4 (.t 12) (.t 13)), xo 15 (.load true 4 (.t 14)), xo 16 (.callv (.t 11) [(.t 15)])])
 (.cond (.t 16)
 (.seq (.reg [xo 17 (.mov (.t 5)), xo 4 (.mov (.t 17))])
 .ret)
 .skip))))
 (.reg [xo 18 (.bini .add (.t 8) (.c (.int .i64 (1)))), xo 8 (.mov (.t 18))])))))))
 (.seq (.reg [xo 4 (.mov (.c (.int .i64 (-1))))])
 .ret)))⟩
theorem t_slices_IndexFunc___api_Listen_api_Listen : trFn Tryz.prog 70 [] [[8]] = some f_slices_IndexFunc___api_Listen_api_Listen := by kernel_rfl

abbrev n_gates_Place_1 : Nat := 71
theorem k_gates_Place_1 : FnOk Tryz.prog 71 := FnOk.of (by kernel_rfl)
def f_gates_Place_1 : FnI := ⟨8, [.tmp 3],
 (.seq (.reg [xo 2 (.box 77 (.t 0)), xo 3 (.mov (.b false))])
 (.seq (.reg [xo 4 (.fadr 0 (.t 2)), xo 5 (.load false 1 (.t 4)), xo 6 (.load false 1 (.t 1)), xo 7 (.bins .eql (.t 5) (.t 6)), xo 3 (.mov (.t 7))])
 .ret))⟩
theorem t_gates_Place_1 : trFn Tryz.prog 71 [] [] = some f_gates_Place_1 := by kernel_rfl

abbrev n_hydrantref03_low : Nat := 72
def f_hydrantref03_low : FnI := ⟨9, [.tmp 2],
 (.seq (.reg [xo 2 (.mov (.b false))])
 (.seq (.reg [xo 3 (.mov (.t 0)), xo 4 (.bini .geq (.t 3) (.c (.int .u8 (97)))), xo 5 (.mov (.t 4)), xg 6 (.mov (.t 0)) 5 true, xg 7 (.bini .leq (.t 6) (.c (.int .u8 (122)))) 5 true, xo 8 (.pick (.t 5) (.t 7) (.b false)), xo 2 (.mov (.t 8))])
 .ret))⟩
theorem t_hydrantref03_low : trFn Tryz.prog 72 [] [] = some f_hydrantref03_low := by kernel_rfl

abbrev n_hydrantref03_word : Nat := 73
def f_hydrantref03_word : FnI := ⟨17, [.tmp 2],
 (.seq (.reg [xo 2 (.mov (.b false))])
 (.seq (.reg [xo 3 (.mov (.t 0)), xo 4 (.call 72 [(.t 3)]), xo 5 (.mov (.t 4)), xg 6 (.mov (.t 0)) 5 false, xg 7 (.bini .geq (.t 6) (.c (.int .u8 (48)))) 5 false, xg 8 (.mov (.t 7)) 5 false, xg 9 (.mov (.t 0)) 8 true, xg 10 (.bini .leq (.t 9) (.c (.int .u8 (57)))) 8 true, xg 11 (.pick (.t 8) (.t 10) (.b false)) 5 false, xo 12 (.pick (.t 5) (.b true) (.t 11)), xo 13 (.mov (.t 12)), xg 14 (.mov (.t 0)) 13 false, xg 15 (.bini .eql (.t 14) (.c (.int .u8 (45)))) 13 false, xo 16 (.pick (.t 13) (.b true) (.t 15)), xo 2 (.mov (.t 16))])
 .ret))⟩
theorem t_hydrantref03_word : trFn Tryz.prog 73 [] [] = some f_hydrantref03_word := by kernel_rfl

abbrev n_tag_Make : Nat := 74
def f_tag_Make : FnI := ⟨19, [.tmp 4, .tmp 5],
 (.seq (.reg [xo 4 (.mov (.c (.int .u64 (0)))), xo 5 (.mov (.c (.int .i64 (0))))])
 (.seq (.seq (.reg [xo 6 (.mov (.t 1)), xo 7 (.bini .lss (.t 6) (.c (.int .i64 (-1)))), xo 8 (.mov (.t 7)), xg 9 (.mov (.t 1)) 8 false, xg 10 (.bini .gtr (.t 9) (.c (.int .i64 (2147483646)))) 8 false, xo 11 (.pick (.t 8) (.b true) (.t 10))])
 (.cond (.t 11)
 (.seq (.reg [xo 4 (.mov (.c (.int .u64 (0)))), xo 5 (.mov (.c (.int .i64 (1))))])
 .ret)
 .skip))
 (.seq (.reg [xo 12 (.mov (.t 0)), xo 13 (.conv .u64 (.t 12)), xo 14 (.bini .shl (.t 13) (.c (.int .u64 (32)))), xo 15 (.mov (.t 1)), xo 16 (.bini .sub (.t 15) (.c (.int .i64 (-1)))), xo 17 (.conv .u64 (.t 16)), xo 18 (.bini .or (.t 14) (.t 17)), xo 4 (.mov (.t 18)), xo 5 (.mov (.c (.int .i64 (0))))])
 .ret)))⟩
theorem t_tag_Make : trFn Tryz.prog 74 [] [] = some f_tag_Make := by kernel_rfl

abbrev n_hydrantref05_Check : Nat := 75
def f_hydrantref05_Check : FnI := ⟨69, [.tmp 2, .tmp 3],
 (.seq (.reg [xo 1 (.box 51 (.t 0)), xo 2 (.mov (.c (.int .i64 (0)))), xo 3 (.mov (.c (.int .i64 (0))))])
 (.seq (.seq (.reg [xo 10 (.fadr 0 (.t 1)), xo 11 (.load false 1 (.t 10)), xo 12 (.len false (.t 11)), xo 13 (.bini .lss (.t 12) (.c (.int .i64 (1)))), xo 14 (.mov (.t 13)), xg 15 (.fadr 0 (.t 1)) 14 false, xg 16 (.load false 1 (.t 15)) 14 false, xg 17 (.len false (.t 16)) 14 false, xg 18 (.bini .gtr (.t 17) (.c (.int .i64 (4)))) 14 false, xo 19 (.pick (.t 14) (.b true) (.t 18)), xo 20 (.mov (.t 19)), xg 21 (.fadr 1 (.t 1)) 20 false, xg 22 (.load false 1 (.t 21)) 20 false, xg 23 (.len false (.t 22)) 20 false, xg 24 (.bini .lss (.t 23) (.c (.int .i64 (1)))) 20 false, xo 25 (.pick (.t 20) (.b true) (.t 24)), xo 26 (.mov (.t 25)), xg 27 (.fadr 1 (.t 1)) 26 false, xg 28 (.load false 1 (.t 27)) 26 false, xg 29 (.len false (.t 28)) 26 false, xg 30 (.bini .gtr (.t 29) (.c (.int .i64 (8)))) 26 false, xo 31 (.pick (.t 26) (.b true) (.t 30)), xo 32 (.mov (.t 31)), xg 33 (.fadr 2 (.t 1)) 32 false, xg 34 (.load false 1 (.t 33)) 32 false, xg 35 (.len false (.t 34)) 32 false, xg 36 (.bini .lss (.t 35) (.c (.int .i64 (1)))) 32 false, xo 37 (.pick (.t 32) (.b true) (.t 36)), xo 38 (.mov (.t 37)), xg 39 (.fadr 2 (.t 1)) 38 false, xg 40 (.load false 1 (.t 39)) 38 false, xg 41 (.len false (.t 40)) 38 false, xg 42 (.bini .gtr (.t 41) (.c (.int .i64 (4)))) 38 false, xo 43 (.pick (.t 38) (.b true) (.t 42))])
 (.cond (.t 43)
 (.seq (.reg [xo 2 (.mov (.c (.int .i64 (6)))), xo 3 (.mov (.c (.int .i64 (0))))])
 .ret)
 .skip))
 (.seq (.reg [xo 45 (.load true 3 (.t 1)), xo 46 (.call 104 [(.t 45)]), xo 44 (.mov (.t 46)), xo 47 (.ext 0 (.t 44)), xo 48 (.ext 1 (.t 44)), xo 4 (.mov (.t 47)), xo 5 (.mov (.t 48))])
 (.seq (.seq (.reg [xo 49 (.mov (.t 4)), xo 50 (.bini .neq (.t 49) (.c (.int .i64 (0))))])
 (.cond (.t 50)
 (.seq (.reg [xo 51 (.mov (.t 4)), xo 52 (.mov (.t 5)), xo 2 (.mov (.t 51)), xo 3 (.mov (.t 52))])
 .ret)
 .skip))
 (.seq (.reg [xo 54 (.load true 3 (.t 1)), xo 55 (.call 105 [(.t 54)]), xo 53 (.mov (.t 55)), xo 56 (.ext 0 (.t 53)), xo 57 (.ext 1 (.t 53)), xo 6 (.mov (.t 56)), xo 7 (.mov (.t 57))])
 (.seq (.seq (.reg [xo 58 (.mov (.t 6)), xo 59 (.bini .neq (.t 58) (.c (.int .i64 (0))))])
 (.cond (.t 59)
 (.seq (.reg [xo 60 (.mov (.t 6)), xo 61 (.mov (.t 7)), xo 2 (.mov (.t 60)), xo 3 (.mov (.t 61))])
 .ret)
 .skip))
 (.seq (.reg [xo 63 (.load true 3 (.t 1)), xo 64 (.call 106 [(.t 63)]), xo 62 (.mov (.t 64)), xo 65 (.ext 0 (.t 62)), xo 66 (.ext 1 (.t 62)), xo 8 (.mov (.t 65)), xo 9 (.mov (.t 66))])
 (.seq (.reg [xo 67 (.mov (.t 8)), xo 68 (.mov (.t 9)), xo 2 (.mov (.t 67)), xo 3 (.mov (.t 68))])
 .ret))))))))⟩
theorem t_hydrantref05_Check : trFn Tryz.prog 75 [] [] = some f_hydrantref05_Check := by kernel_rfl

abbrev n_hydrantref07_Config : Nat := 76
def f_hydrantref07_Config : FnI := ⟨73, [.cell 2 3 true],
 (.seq (.reg [xo 1 (.box 26 (.t 0)), xo 2 (.alloc 51 [(.v (.slice none 0 0)), (.v (.slice none 0 0)), (.v (.slice none 0 0))])])
 (.seq (.reg [xo 7 (.fadr 0 (.t 1)), xo 8 (.load false 1 (.t 7)), xo 9 (.fadr 2 (.t 1)), xo 10 (.load false 1 (.t 9)), xo 11 (.build [(.v (.slice none 0 0)), (.v (.slice none 0 0)), (.v (.slice none 0 0))] [(0, 1, (.t 8)), (2, 1, (.t 10))]), xo 3 (.alloc 51 [(.v (.slice none 0 0)), (.v (.slice none 0 0)), (.v (.slice none 0 0))]), xn (.store 3 (.t 3) (.t 11))])
 (.seq (.seq (.reg [xo 4 (.mov (.c (.int .i64 (0))))])
 (.block 0
 (.loop [4] [12, 13, 14, 15, 16, 19, 20, 21, 22, 23, 5, 24, 25, 26, 27, 28, 6, 29, 30, 31, 32, 33, 34, 35, 36, 37, 38, 39, 40, 41, 42, 43, 44, 45, 46, 47, 48, 49, 50, 51, 52, 53, 54, 55, 56, 57, 58, 59, 60, 61, 62, 63, 64, 65, 66, 67, 68, 69, 70, 71, 17, 18, 4]
 (.seq (.seq (.reg [xo 12 (.mov (.t 4)), xo 13 (.fadr 1 (.t 1)), xo 14 (.load false 1 (.t 13)), xo 15 (.len false (.t 14)), xo 16 (.bini .lss (.t 12) (.t 15))])
 (.cond (.t 16)
 .skip
 (.exit 0)))
 (.seq (.block 1
 (.seq (.reg [xo 19 (.fadr 1 (.t 1)), xo 20 (.load false 1 (.t 19)), xo 21 (.mov (.t 4)), xo 22 (.iadr 4 (.t 20) (.t 21)), xo 23 (.load true 4 (.t 22)), xo 5 (.alloc 122 [(.v (.int .i64 (0))), (.v (.string ⟨#[]⟩)), (.v (.string ⟨#[]⟩)), (.v (.int .i64 (0)))]), xn (.store 4 (.t 5) (.t 23))])
 (.seq (.reg [xo 24 (.fadr 1 (.t 5)), xo 25 (.load false 1 (.t 24)), xo 26 (.fadr 2 (.t 5)), xo 27 (.load false 1 (.t 26)), xo 28 (.build [(.v (.string ⟨#[]⟩)), (.v (.string ⟨#[]⟩)), (.v (.string ⟨#[]⟩)), (.v (.string ⟨#[]⟩))] [(1, 1, (.t 25)), (2, 1, (.t 27))]), xo 6 (.alloc 157 [(.v (.string ⟨#[]⟩)), (.v (.string ⟨#[]⟩)), (.v (.string ⟨#[]⟩)), (.v (.string ⟨#[]⟩))]), xn (.store 4 (.t 6) (.t 28))])
 (.seq (.seq (.reg [xo 29 (.fadr 0 (.t 5)), xo 30 (.load false 1 (.t 29)), xo 31 (.bini .geq (.t 30) (.c (.int .i64 (0)))), xo 32 (.mov (.t 31)), xg 33 (.fadr 0 (.t 5)) 32 true, xg 34 (.load false 1 (.t 33)) 32 true, xg 35 (.fadr 0 (.t 1)) 32 true, xg 36 (.load false 1 (.t 35)) 32 true, xg 37 (.len false (.t 36)) 32 true, xg 38 (.bini .lss (.t 34) (.t 37)) 32 true, xo 39 (.pick (.t 32) (.t 38) (.b false))])
 (.cond (.t 39)
 (.reg [xo 40 (.fadr 0 (.t 1)), xo 41 (.load false 1 (.t 40)), xo 42 (.fadr 0 (.t 5)), xo 43 (.load false 1 (.t 42)), xo 44 (.iadr 1 (.t 41) (.t 43)), xo 45 (.load false 1 (.t 44)), xo 46 (.fadr 0 (.t 6)), xn (.store 1 (.t 46) (.t 45))])
 .skip))
 (.seq (.seq (.reg [xo 47 (.fadr 3 (.t 5)), xo 48 (.load false 1 (.t 47)), xo 49 (.bini .geq (.t 48) (.c (.int .i64 (0)))), xo 50 (.mov (.t 49)), xg 51 (.fadr 3 (.t 5)) 50 true, xg 52 (.load false 1 (.t 51)) 50 true, xg 53 (.fadr 2 (.t 1)) 50 true, xg 54 (.load false 1 (.t 53)) 50 true, xg 55 (.len false (.t 54)) 50 true, xg 56 (.bini .lss (.t 52) (.t 55)) 50 true, xo 57 (.pick (.t 50) (.t 56) (.b false))])
 (.cond (.t 57)
 (.reg [xo 58 (.fadr 2 (.t 1)), xo 59 (.load false 1 (.t 58)), xo 60 (.fadr 3 (.t 5)), xo 61 (.load false 1 (.t 60)), xo 62 (.iadr 4 (.t 59) (.t 61)), xo 63 (.fadr 0 (.t 62)), xo 64 (.load false 1 (.t 63)), xo 65 (.fadr 3 (.t 6)), xn (.store 1 (.t 65) (.t 64))])
 .skip))
 (.reg [xo 66 (.fadr 1 (.t 3)), xo 67 (.load false 1 (.t 66)), xo 68 (.load true 4 (.t 6)), xo 69 (.bsl 157 4 1 [(.v (.string ⟨#[]⟩)), (.v (.string ⟨#[]⟩)), (.v (.string ⟨#[]⟩)), (.v (.string ⟨#[]⟩))] [(0, 4, (.t 68))]), xo 70 (.app 157 4 64 (.t 67) (.t 69)), xo 71 (.fadr 1 (.t 3)), xn (.store 1 (.t 71) (.t 70))]))))))
 (.reg [xo 17 (.mov (.t 4)), xo 18 (.bini .add (.t 17) (.c (.int .i64 (1)))), xo 4 (.mov (.t 18))]))))))
 (.seq (.reg [xo 72 (.load true 3 (.t 3)), xn (.store 3 (.t 2) (.t 72))])
 .ret))))⟩
theorem t_hydrantref07_Config : trFn Tryz.prog 76 [] [[4]] = some f_hydrantref07_Config := by kernel_rfl

abbrev n_slices_Clone___int_int : Nat := 77
def f_slices_Clone___int_int : FnI := ⟨8, [.tmp 2],
 (.seq (.reg [xo 2 (.mov (.c (.slice none 0 0)))])
 (.seq (.seq (.reg [xo 3 (.mov (.t 0)), xo 4 (.binn 0 false (.t 3))])
 (.cond (.t 4)
 (.seq (.reg [xo 2 (.mov (.c (.slice none 0 0)))])
 .ret)
 .skip))
 (.seq (.reg [xo 5 (.bsl 3 1 0 [] []), xo 6 (.mov (.t 0)), xo 7 (.app 3 1 8 (.t 5) (.t 6)), xo 2 (.mov (.t 7))])
 .ret)))⟩
theorem t_slices_Clone___int_int : trFn Tryz.prog 77 [] [] = some f_slices_Clone___int_int := by kernel_rfl

abbrev n_world_each_api_Version_world_cloner : Nat := 78
def f_world_each_api_Version_world_cloner : FnI := ⟨29, [.tmp 6],
 (.seq (.reg [xo 5 (.box 133 (.t 2)), xo 6 (.mov (.c (.slice none 0 0)))])
 (.seq (.reg [xo 10 (.mov (.t 0)), xo 11 (.len false (.t 10)), xo 12 (.msl 40 5 104 [(.slice none 0 0), (.slice none 0 0), (.slice none 0 0), (.slice none 0 0), (.bool false)] (.t 11) (.t 11)), xo 7 (.mov (.t 12))])
 (.seq (.seq (.reg [xo 13 (.mov (.t 0)), xo 14 (.len false (.t 13)), xo 15 (.mov (.c (.int .i64 (0))))])
 (.block 0
 (.loop [15] [16, 17, 18, 19, 9, 8, 20, 21, 22, 23, 24, 25, 26, 27, 15]
 (.seq (.reg [xo 16 (.bini .lss (.t 15) (.t 14))])
 (.seq (.cond (.t 16)
 .skip
 (.exit 0))
 (.seq (.block 1
 (.seq (.reg [xo 17 (.mov (.t 15)), xo 18 (.iadr 5 (.t 13) (.t 15)), xo 19 (.load true 5 (.t 18)), xo 9 (.alloc 40 [(.v (.slice none 0 0)), (.v (.slice none 0 0)), (.v (.slice none 0 0)), (.v (.slice none 0 0)), (.v (.bool false))]), xo 8 (.mov (.t 17)), xn (.store 5 (.t 9) (.t 19))])
 (.reg [xo 20 (.mov (.t 7)), xo 21 (.mov (.t 8)), xo 22 (.mov (.t 1)), xo 23 (.load true 0 (.t 5)), xo 24 (.load true 5 (.t 9)), xo 25 (.callv (.t 22) [(.t 23), (.t 24)]), xo 26 (.iadr 5 (.t 20) (.t 21)), xn (.store 5 (.t 26) (.t 25))])))
 (.reg [xo 27 (.bini .add (.t 15) (.c (.int .i64 (1)))), xo 15 (.mov (.t 27))])))))))
 (.seq (.reg [xo 28 (.mov (.t 7)), xo 6 (.mov (.t 28))])
 .ret))))⟩
theorem t_world_each_api_Version_world_cloner : trFn Tryz.prog 78 [] [[15]] = some f_world_each_api_Version_world_cloner := by kernel_rfl

abbrev n_world_cloner__version : Nat := 79
def f_world_cloner__version : FnI := ⟨11, [.cell 4 5 true],
 (.seq (.reg [xo 2 (.box 133 (.t 0)), xo 3 (.box 40 (.t 1)), xo 4 (.alloc 40 [(.v (.slice none 0 0)), (.v (.slice none 0 0)), (.v (.slice none 0 0)), (.v (.slice none 0 0)), (.v (.bool false))])])
 (.seq (.reg [xo 5 (.fadr 3 (.t 3)), xo 6 (.load false 1 (.t 5)), xo 7 (.load true 0 (.t 2)), xo 8 (.call 107 [(.t 6), (.c (.func (.func 108) #[] #[])), (.t 7)]), xo 9 (.fadr 3 (.t 3)), xn (.store 1 (.t 9) (.t 8))])
 (.seq (.reg [xo 10 (.load true 5 (.t 3)), xn (.store 5 (.t 4) (.t 10))])
 .ret)))⟩
theorem t_world_cloner__version : trFn Tryz.prog 79 [] [] = some f_world_cloner__version := by kernel_rfl

abbrev n_slices_Clone___api_Listen_api_Listen : Nat := 80
def f_slices_Clone___api_Listen_api_Listen : FnI := ⟨8, [.tmp 2],
 (.seq (.reg [xo 2 (.mov (.c (.slice none 0 0)))])
 (.seq (.seq (.reg [xo 3 (.mov (.t 0)), xo 4 (.binn 0 false (.t 3))])
 (.cond (.t 4)
 (.seq (.reg [xo 2 (.mov (.c (.slice none 0 0)))])
 .ret)
 .skip))
 (.seq (.reg [xo 5 (.bsl 77 4 0 [] []), xo 6 (.mov (.t 0)), xo 7 (.app 77 4 40 (.t 5) (.t 6)), xo 2 (.mov (.t 7))])
 .ret)))⟩
theorem t_slices_Clone___api_Listen_api_Listen : trFn Tryz.prog 80 [] [] = some f_slices_Clone___api_Listen_api_Listen := by kernel_rfl

abbrev n_world_each___uint64_world_cloner : Nat := 81
def f_world_each___uint64_world_cloner : FnI := ⟨29, [.tmp 6],
 (.seq (.reg [xo 5 (.box 133 (.t 2)), xo 6 (.mov (.c (.slice none 0 0)))])
 (.seq (.reg [xo 10 (.mov (.t 0)), xo 11 (.len false (.t 10)), xo 12 (.msl 106 1 24 [(.slice none 0 0)] (.t 11) (.t 11)), xo 7 (.mov (.t 12))])
 (.seq (.seq (.reg [xo 13 (.mov (.t 0)), xo 14 (.len false (.t 13)), xo 15 (.mov (.c (.int .i64 (0))))])
 (.block 0
 (.loop [15] [16, 17, 18, 19, 8, 9, 20, 21, 22, 23, 24, 25, 26, 27, 15]
 (.seq (.reg [xo 16 (.bini .lss (.t 15) (.t 14))])
 (.seq (.cond (.t 16)
 .skip
 (.exit 0))
 (.seq (.block 1
 (.seq (.reg [xo 17 (.mov (.t 15)), xo 18 (.iadr 1 (.t 13) (.t 15)), xo 19 (.load false 1 (.t 18)), xo 8 (.mov (.t 17)), xo 9 (.mov (.t 19))])
 (.reg [xo 20 (.mov (.t 7)), xo 21 (.mov (.t 8)), xo 22 (.mov (.t 1)), xo 23 (.load true 0 (.t 5)), xo 24 (.mov (.t 9)), xo 25 (.callv (.t 22) [(.t 23), (.t 24)]), xo 26 (.iadr 1 (.t 20) (.t 21)), xn (.store 1 (.t 26) (.t 25))])))
 (.reg [xo 27 (.bini .add (.t 15) (.c (.int .i64 (1)))), xo 15 (.mov (.t 27))])))))))
 (.seq (.reg [xo 28 (.mov (.t 7)), xo 6 (.mov (.t 28))])
 .ret))))⟩
theorem t_world_each___uint64_world_cloner : trFn Tryz.prog 81 [] [[15]] = some f_world_each___uint64_world_cloner := by kernel_rfl

abbrev n_world_cloner__row : Nat := 82
def f_world_cloner__row : FnI := ⟨7, [.tmp 4],
 (.seq (.reg [xo 2 (.box 133 (.t 0)), xo 4 (.mov (.c (.slice none 0 0)))])
 (.seq (.reg [xo 5 (.mov (.t 1)), xo 6 (.call 109 [(.t 5)]), xo 4 (.mov (.t 6))])
 .ret))⟩
theorem t_world_cloner__row : trFn Tryz.prog 82 [] [] = some f_world_cloner__row := by kernel_rfl

abbrev n_slices_Clone___api_Retired_api_Retired : Nat := 83
def f_slices_Clone___api_Retired_api_Retired : FnI := ⟨8, [.tmp 2],
 (.seq (.reg [xo 2 (.mov (.c (.slice none 0 0)))])
 (.seq (.seq (.reg [xo 3 (.mov (.t 0)), xo 4 (.binn 0 false (.t 3))])
 (.cond (.t 4)
 (.seq (.reg [xo 2 (.mov (.c (.slice none 0 0)))])
 .ret)
 .skip))
 (.seq (.reg [xo 5 (.bsl 95 3 0 [] []), xo 6 (.mov (.t 0)), xo 7 (.app 95 3 24 (.t 5) (.t 6)), xo 2 (.mov (.t 7))])
 .ret)))⟩
theorem t_slices_Clone___api_Retired_api_Retired : trFn Tryz.prog 83 [] [] = some f_slices_Clone___api_Retired_api_Retired := by kernel_rfl

abbrev n_hydrantref07_sameTexts : Nat := 84
def f_hydrantref07_sameTexts : FnI := ⟨26, [.tmp 4],
 (.seq (.reg [xo 4 (.mov (.b false))])
 (.seq (.seq (.reg [xo 6 (.mov (.t 0)), xo 7 (.len false (.t 6)), xo 8 (.mov (.t 1)), xo 9 (.len false (.t 8)), xo 10 (.bini .neq (.t 7) (.t 9))])
 (.cond (.t 10)
 (.seq (.reg [xo 4 (.mov (.b false))])
 .ret)
 .skip))
 (.seq (.seq (.reg [xo 5 (.mov (.c (.int .i64 (0))))])
 (.block 0
 (.loop [5] [11, 12, 13, 14, 17, 18, 19, 20, 21, 22, 23, 24, 25, 4, 15, 16, 5]
 (.seq (.seq (.reg [xo 11 (.mov (.t 5)), xo 12 (.mov (.t 0)), xo 13 (.len false (.t 12)), xo 14 (.bini .lss (.t 11) (.t 13))])
 (.cond (.t 14)
 .skip
 (.exit 0)))
 (.seq (.block 1
 (.seq (.regD [] (.op ⟨0, false, [], xo 17 (.mov (.t 0))⟩
 (.op ⟨1, false, [], xo 18 (.mov (.t 5))⟩
 (.op ⟨2, true, [], xo 19 (.iadr 1 (.t 17) (.t 18))⟩
 (.op ⟨3, true, [], xo 20 (.load false 1 (.t 19))⟩
 (.op ⟨4, false, [], xo 21 (.mov (.t 1))⟩
 (.op ⟨5, false, [], xo 22 (.mov (.t 5))⟩
 (.op ⟨6, true, [], xo 23 (.iadr 1 (.t 21) (.t 22))⟩
 (.op ⟨7, true, [], xo 24 (.load false 1 (.t 23))⟩
 (.op ⟨8, false, [], xo 25 (.bins .neq (.t 20) (.t 24))⟩
 .nil))))))))))
 (.cond (.t 25)
 (.seq (.reg [xo 4 (.mov (.b false))])
 .ret)
 .skip)))
 (.reg [xo 15 (.mov (.t 5)), xo 16 (.bini .add (.t 15) (.c (.int .i64 (1)))), xo 5 (.mov (.t 16))]))))))
 (.seq (.reg [xo 4 (.mov (.b true))])
 .ret))))⟩
theorem t_hydrantref07_sameTexts : trFn Tryz.prog 84 [([], (.first 0 (.first 1 (.first 2 (.first 3 (.first 4 (.first 5 (.first 6 (.first 7 (.first 8 .nil))))))))))] [[5]] = some f_hydrantref07_sameTexts := by kernel_rfl

abbrev n_hydrantref07_sameClusters : Nat := 85
def f_hydrantref07_sameClusters : FnI := ⟨97, [.tmp 4],
 (.seq (.reg [xo 4 (.mov (.b false))])
 (.seq (.seq (.reg [xo 7 (.mov (.t 0)), xo 8 (.len false (.t 7)), xo 9 (.mov (.t 1)), xo 10 (.len false (.t 9)), xo 11 (.bini .neq (.t 8) (.t 10))])
 (.cond (.t 11)
 (.seq (.reg [xo 4 (.mov (.b false))])
 .ret)
 .skip))
 (.seq (.seq (.reg [xo 5 (.mov (.c (.int .i64 (0))))])
 (.block 0
 (.loop [5] [12, 13, 14, 15, 18, 19, 20, 21, 22, 23, 24, 25, 26, 27, 28, 29, 30, 31, 32, 33, 34, 35, 36, 37, 38, 39, 40, 41, 42, 43, 44, 45, 46, 47, 48, 49, 50, 51, 52, 53, 54, 55, 56, 57, 58, 59, 60, 61, 62, 63, 64, 65, 66, 67, 68, 69, 4, 6, 70, 71, 72, 73, 74, 75, 76, 77, 80, 81, 82, 83, 84, 85, 86, 87, 88, 89, 90, 91, 92, 93, 94, 95, 96, 78, 79, 16, 17, 5]
 (.seq (.seq (.reg [xo 12 (.mov (.t 5)), xo 13 (.mov (.t 0)), xo 14 (.len false (.t 13)), xo 15 (.bini .lss (.t 12) (.t 14))])
 (.cond (.t 15)
 .skip
 (.exit 0)))
 (.seq (.block 1
 (.seq (.seq (.regD [] (.op ⟨0, false, [], xo 18 (.mov (.t 0))⟩
 (.op ⟨1, false, [], xo 19 (.mov (.t 5))⟩
 (.op ⟨2, true, [], xo 20 (.iadr 4 (.t 18) (.t 19))⟩
 (.op ⟨3, false, [], xo 21 (.fadr 0 (.t 20))⟩
 (.op ⟨4, true, [], xo 22 (.load false 1 (.t 21))⟩
 (.op ⟨5, false, [], xo 23 (.mov (.t 1))⟩
 (.op ⟨6, false, [], xo 24 (.mov (.t 5))⟩
 (.op ⟨7, true, [], xo 25 (.iadr 4 (.t 23) (.t 24))⟩
 (.op ⟨8, false, [], xo 26 (.fadr 0 (.t 25))⟩
 (.op ⟨9, true, [], xo 27 (.load false 1 (.t 26))⟩
 (.op ⟨10, false, [], xo 28 (.bins .neq (.t 22) (.t 27))⟩
 (.op ⟨11, false, [], xo 29 (.mov (.t 28))⟩
 (.op ⟨12, false, [], xg 30 (.mov (.t 0)) 29 false⟩
 (.op ⟨13, false, [], xg 31 (.mov (.t 5)) 29 false⟩
 (.op ⟨14, true, [], xg 32 (.iadr 4 (.t 30) (.t 31)) 29 false⟩
 (.op ⟨15, false, [], xg 33 (.fadr 1 (.t 32)) 29 false⟩
 (.op ⟨16, true, [], xg 34 (.load false 1 (.t 33)) 29 false⟩
 (.op ⟨17, false, [], xg 35 (.mov (.t 1)) 29 false⟩
 (.op ⟨18, false, [], xg 36 (.mov (.t 5)) 29 false⟩
 (.op ⟨19, true, [], xg 37 (.iadr 4 (.t 35) (.t 36)) 29 false⟩
 (.op ⟨20, false, [], xg 38 (.fadr 1 (.t 37)) 29 false⟩
 (.op ⟨21, true, [], xg 39 (.load false 1 (.t 38)) 29 false⟩
 (.op ⟨22, false, [], xg 40 (.bini .neq (.t 34) (.t 39)) 29 false⟩
 (.op ⟨23, false, [], xo 41 (.pick (.t 29) (.b true) (.t 40))⟩
 (.op ⟨24, false, [], xo 42 (.mov (.t 41))⟩
 (.op ⟨25, false, [], xg 43 (.mov (.t 0)) 42 false⟩
 (.op ⟨26, false, [], xg 44 (.mov (.t 5)) 42 false⟩
 (.op ⟨27, true, [], xg 45 (.iadr 4 (.t 43) (.t 44)) 42 false⟩
 (.op ⟨28, false, [], xg 46 (.fadr 2 (.t 45)) 42 false⟩
 (.op ⟨29, true, [], xg 47 (.load false 1 (.t 46)) 42 false⟩
 (.op ⟨30, false, [], xg 48 (.mov (.t 1)) 42 false⟩
 (.op ⟨31, false, [], xg 49 (.mov (.t 5)) 42 false⟩
 (.op ⟨32, true, [], xg 50 (.iadr 4 (.t 48) (.t 49)) 42 false⟩
 (.op ⟨33, false, [], xg 51 (.fadr 2 (.t 50)) 42 false⟩
 (.op ⟨34, true, [], xg 52 (.load false 1 (.t 51)) 42 false⟩
 (.op ⟨35, false, [], xg 53 (.bini .neq (.t 47) (.t 52)) 42 false⟩
 (.op ⟨36, false, [], xo 54 (.pick (.t 42) (.b true) (.t 53))⟩
 (.op ⟨37, false, [], xo 55 (.mov (.t 54))⟩
 (.op ⟨38, false, [], xg 56 (.mov (.t 0)) 55 false⟩
 (.op ⟨39, false, [], xg 57 (.mov (.t 5)) 55 false⟩
 (.op ⟨40, true, [], xg 58 (.iadr 4 (.t 56) (.t 57)) 55 false⟩
 (.op ⟨41, false, [], xg 59 (.fadr 3 (.t 58)) 55 false⟩
 (.op ⟨42, true, [], xg 60 (.load false 1 (.t 59)) 55 false⟩
 (.op ⟨43, false, [], xg 61 (.len false (.t 60)) 55 false⟩
 (.op ⟨44, false, [], xg 62 (.mov (.t 1)) 55 false⟩
 (.op ⟨45, false, [], xg 63 (.mov (.t 5)) 55 false⟩
 (.op ⟨46, true, [], xg 64 (.iadr 4 (.t 62) (.t 63)) 55 false⟩
 (.op ⟨47, false, [], xg 65 (.fadr 3 (.t 64)) 55 false⟩
 (.op ⟨48, true, [], xg 66 (.load false 1 (.t 65)) 55 false⟩
 (.op ⟨49, false, [], xg 67 (.len false (.t 66)) 55 false⟩
 (.op ⟨50, false, [], xg 68 (.bini .neq (.t 61) (.t 67)) 55 false⟩
 (.op ⟨51, false, [], xo 69 (.pick (.t 55) (.b true) (.t 68))⟩
 .nil)))))))))))))))))))))))))))))))))))))))))))))))))))))
 (.cond (.t 69)
 (.seq (.reg [xo 4 (.mov (.b false))])
 .ret)
 .skip))
 (.seq (.reg [xo 6 (.mov (.c (.int .i64 (0))))])
 (.block 2
 (.loop [6] [70, 71, 72, 73, 74, 75, 76, 77, 80, 81, 82, 83, 84, 85, 86, 87, 88, 89, 90, 91, 92, 93, 94, 95, 96, 4, 78, 79, 6]
 (.seq (.seq (.reg [xo 70 (.mov (.t 6)), xo 71 (.mov (.t 0)), xo 72 (.mov (.t 5)), xo 73 (.iadr 4 (.t 71) (.t 72)), xo 74 (.fadr 3 (.t 73)), xo 75 (.load false 1 (.t 74)), xo 76 (.len false (.t 75)), xo 77 (.bini .lss (.t 70) (.t 76))])
 (.cond (.t 77)
 .skip
 (.exit 2)))
 (.seq (.block 3
 (.seq (.regD [] (.op ⟨0, false, [], xo 80 (.mov (.t 0))⟩
 (.op ⟨1, false, [], xo 81 (.mov (.t 5))⟩
 (.op ⟨2, true, [], xo 82 (.iadr 4 (.t 80) (.t 81))⟩
 (.op ⟨3, false, [], xo 83 (.fadr 3 (.t 82))⟩
 (.op ⟨4, true, [], xo 84 (.load false 1 (.t 83))⟩
 (.op ⟨5, false, [], xo 85 (.mov (.t 6))⟩
 (.op ⟨6, true, [], xo 86 (.iadr 1 (.t 84) (.t 85))⟩
 (.op ⟨7, true, [], xo 87 (.load false 1 (.t 86))⟩
 (.op ⟨8, false, [], xo 88 (.mov (.t 1))⟩
 (.op ⟨9, false, [], xo 89 (.mov (.t 5))⟩
 (.op ⟨10, true, [], xo 90 (.iadr 4 (.t 88) (.t 89))⟩
 (.op ⟨11, false, [], xo 91 (.fadr 3 (.t 90))⟩
 (.op ⟨12, true, [], xo 92 (.load false 1 (.t 91))⟩
 (.op ⟨13, false, [], xo 93 (.mov (.t 6))⟩
 (.op ⟨14, true, [], xo 94 (.iadr 1 (.t 92) (.t 93))⟩
 (.op ⟨15, true, [], xo 95 (.load false 1 (.t 94))⟩
 (.op ⟨16, false, [], xo 96 (.binb true (.t 87) (.t 95))⟩
 .nil))))))))))))))))))
 (.cond (.t 96)
 (.seq (.reg [xo 4 (.mov (.b false))])
 .ret)
 .skip)))
 (.reg [xo 78 (.mov (.t 6)), xo 79 (.bini .add (.t 78) (.c (.int .i64 (1)))), xo 6 (.mov (.t 79))]))))))))
 (.reg [xo 16 (.mov (.t 5)), xo 17 (.bini .add (.t 16) (.c (.int .i64 (1)))), xo 5 (.mov (.t 17))]))))))
 (.seq (.reg [xo 4 (.mov (.b true))])
 .ret))))⟩
theorem t_hydrantref07_sameClusters : trFn Tryz.prog 85 [([], (.first 0 (.first 1 (.first 2 (.first 3 (.first 4 (.first 5 (.first 6 (.first 7 (.first 8 (.first 9 (.first 10 (.first 11 (.first 12 (.first 13 (.first 14 (.first 15 (.first 16 (.first 17 (.first 18 (.first 19 (.first 20 (.first 21 (.first 22 (.first 23 (.first 24 (.first 25 (.first 26 (.first 27 (.first 28 (.first 29 (.first 30 (.first 31 (.first 32 (.first 33 (.first 34 (.first 35 (.first 36 (.first 37 (.first 38 (.first 39 (.first 40 (.first 41 (.first 42 (.first 43 (.first 44 (.first 45 (.first 46 (.first 47 (.first 48 (.first 49 (.first 50 (.first 51 .nil))))))))))))))))))))))))))))))))))))))))))))))))))))), ([], (.first 0 (.first 1 (.first 2 (.first 3 (.first 4 (.first 5 (.first 6 (.first 7 (.first 8 (.first 9 (.first 10 (.first 11 (.first 12 (.first 13 (.first 14 (.first 15 (.first 16 .nil))))))))))))))))))] [[5], [6]] = some f_hydrantref07_sameClusters := by kernel_rfl

abbrev n_shard_Is : Nat := 86
def f_shard_Is : FnI := ⟨23, [.tmp 2],
 (.seq (.reg [xo 2 (.mov (.b false))])
 (.seq (.seq (.reg [xo 5 (.mov (.t 0)), xo 6 (.len false (.t 5)), xo 7 (.mov (.c (.int .i64 (0))))])
 (.block 0
 (.loop [7] [8, 9, 10, 4, 11, 12, 13, 2, 14, 7]
 (.seq (.reg [xo 8 (.bini .lss (.t 7) (.t 6))])
 (.seq (.cond (.t 8)
 .skip
 (.exit 0))
 (.seq (.block 1
 (.seq (.reg [xo 9 (.iadr 1 (.t 5) (.t 7)), xo 10 (.load false 1 (.t 9)), xo 4 (.mov (.t 10))])
 (.seq (.reg [xo 11 (.mov (.t 4)), xo 12 (.len false (.t 11)), xo 13 (.bini .neq (.t 12) (.c (.int .i64 (6))))])
 (.cond (.t 13)
 (.seq (.reg [xo 2 (.mov (.b false))])
 .ret)
 .skip))))
 (.reg [xo 14 (.bini .add (.t 7) (.c (.int .i64 (1)))), xo 7 (.mov (.t 14))])))))))
 (.seq (.reg [xo 15 (.mov (.t 0)), xo 16 (.len false (.t 15)), xo 17 (.bini .geq (.t 16) (.c (.int .i64 (1)))), xo 18 (.mov (.t 17)), xg 19 (.mov (.t 0)) 18 true, xg 20 (.len false (.t 19)) 18 true, xg 21 (.bini .leq (.t 20) (.c (.int .i64 (8)))) 18 true, xo 22 (.pick (.t 18) (.t 21) (.b false)), xo 2 (.mov (.t 22))])
 .ret)))⟩
theorem t_shard_Is : trFn Tryz.prog 86 [] [[7]] = some f_shard_Is := by kernel_rfl

abbrev n_slices_ContainsFunc___int_int : Nat := 87
def f_slices_ContainsFunc___int_int : FnI := ⟨9, [.tmp 4],
 (.seq (.reg [xo 4 (.mov (.b false))])
 (.seq (.reg [xo 5 (.mov (.t 0)), xo 6 (.mov (.t 1)), xo 7 (.call 110 [(.t 5), (.t 6)]), xo 8 (.bini .geq (.t 7) (.c (.int .i64 (0)))), xo 4 (.mov (.t 8))])
 .ret))⟩
theorem t_slices_ContainsFunc___int_int : trFn Tryz.prog 87 [] [] = some f_slices_ContainsFunc___int_int := by kernel_rfl

abbrev n_world_ground_1 : Nat := 88
theorem k_world_ground_1 : FnOk Tryz.prog 88 := FnOk.of (by kernel_rfl)
def f_world_ground_1 : FnI := ⟨13, [.tmp 3],
 (.seq (.reg [xo 3 (.mov (.b false))])
 (.seq (.reg [xo 4 (.mov (.t 0)), xo 5 (.bini .lss (.t 4) (.c (.int .i64 (0)))), xo 6 (.mov (.t 5)), xg 7 (.mov (.t 0)) 6 false, xg 8 (.fadr 0 (.t 1)) 6 false, xg 9 (.load false 1 (.t 8)) 6 false, xg 10 (.bini .add (.t 9) (.c (.int .i64 (1)))) 6 false, xg 11 (.bini .gtr (.t 7) (.t 10)) 6 false, xo 12 (.pick (.t 6) (.b true) (.t 11)), xo 3 (.mov (.t 12))])
 .ret))⟩
theorem t_world_ground_1 : trFn Tryz.prog 88 [] [] = some f_world_ground_1 := by kernel_rfl

abbrev n_limbo_has : Nat := 89
def f_limbo_has : FnI := ⟨8, [.tmp 4],
 (.seq (.reg [xo 3 (.box 3 (.t 1)), xo 4 (.mov (.b false))])
 (.seq (.reg [xo 5 (.mov (.t 0)), xo 6 (.mkf (.func 112) [] [(.t 3)]), xo 7 (.call 111 [(.t 5), (.t 6)]), xo 4 (.mov (.t 7))])
 .ret))⟩
theorem t_limbo_has : trFn Tryz.prog 89 [] [] = some f_limbo_has := by kernel_rfl

abbrev n_world_version_1 : Nat := 90
theorem k_world_version_1 : FnOk Tryz.prog 90 := FnOk.of (by kernel_rfl)
def f_world_version_1 : FnI := ⟨15, [.tmp 3],
 (.seq (.reg [xo 2 (.box 82 (.t 0)), xo 3 (.mov (.b false))])
 (.seq (.reg [xo 4 (.load true 3 (.t 2)), xo 5 (.call 52 [(.t 4)]), xo 6 (.not (.t 5)), xo 7 (.mov (.t 6)), xg 8 (.fadr 1 (.t 2)) 7 false, xg 9 (.load false 1 (.t 8)) 7 false, xg 10 (.len false (.t 9)) 7 false, xg 11 (.fadr 2 (.t 1)) 7 false, xg 12 (.load false 1 (.t 11)) 7 false, xg 13 (.bini .neq (.t 10) (.t 12)) 7 false, xo 14 (.pick (.t 7) (.b true) (.t 13)), xo 3 (.mov (.t 14))])
 .ret))⟩
theorem t_world_version_1 : trFn Tryz.prog 90 [] [] = some f_world_version_1 := by kernel_rfl

abbrev n_slices_ContainsFunc___api_End_api_End : Nat := 91
def f_slices_ContainsFunc___api_End_api_End : FnI := ⟨9, [.tmp 4],
 (.seq (.reg [xo 4 (.mov (.b false))])
 (.seq (.reg [xo 5 (.mov (.t 0)), xo 6 (.mov (.t 1)), xo 7 (.call 113 [(.t 5), (.t 6)]), xo 8 (.bini .geq (.t 7) (.c (.int .i64 (0)))), xo 4 (.mov (.t 8))])
 .ret))⟩
theorem t_slices_ContainsFunc___api_End_api_End : trFn Tryz.prog 91 [] [] = some f_slices_ContainsFunc___api_End_api_End := by kernel_rfl

abbrev n_slots_chain : Nat := 92
def f_slots_chain : FnI := ⟨4, [.tmp 2],
 (.seq (.reg [xo 1 (.box 82 (.t 0)), xo 2 (.mov (.c .nilFunc))])
 (.seq (.reg [xo 3 (.mkf (.func 114) [] [(.t 1)]), xo 2 (.mov (.t 3))])
 .ret))⟩
theorem t_slots_chain : trFn Tryz.prog 92 [] [] = some f_slots_chain := by kernel_rfl

abbrev n_config_checker__size : Nat := 93
theorem k_config_checker__size : FnOk Tryz.prog 93 := FnOk.of (by kernel_rfl)
def f_config_checker__size : FnI := ⟨26, [.tmp 2, .tmp 3],
 (.seq (.reg [xo 1 (.box 153 (.t 0)), xo 2 (.mov (.c (.int .i64 (0)))), xo 3 (.mov (.c (.int .i64 (0))))])
 (.seq (.seq (.reg [xo 4 (.fadr 0 (.t 1)), xo 5 (.fadr 0 (.t 4)), xo 6 (.load false 1 (.t 5)), xo 7 (.len false (.t 6)), xo 8 (.call 116 [(.t 7), (.c (.int .i64 (1))), (.c (.int .i64 (4)))]), xo 9 (.not (.t 8)), xo 10 (.mov (.t 9)), xg 11 (.fadr 0 (.t 1)) 10 false, xg 12 (.fadr 1 (.t 11)) 10 false, xg 13 (.load false 1 (.t 12)) 10 false, xg 14 (.len false (.t 13)) 10 false, xg 15 (.call 116 [(.t 14), (.c (.int .i64 (1))), (.c (.int .i64 (8)))]) 10 false, xg 16 (.not (.t 15)) 10 false, xo 17 (.pick (.t 10) (.b true) (.t 16)), xo 18 (.mov (.t 17)), xg 19 (.fadr 0 (.t 1)) 18 false, xg 20 (.fadr 2 (.t 19)) 18 false, xg 21 (.load false 1 (.t 20)) 18 false, xg 22 (.len false (.t 21)) 18 false, xg 23 (.call 116 [(.t 22), (.c (.int .i64 (1))), (.c (.int .i64 (4)))]) 18 false, xg 24 (.not (.t 23)) 18 false, xo 25 (.pick (.t 18) (.b true) (.t 24))])
 (.cond (.t 25)
 (.seq (.reg [xo 2 (.mov (.c (.int .i64 (6)))), xo 3 (.mov (.c (.int .i64 (0))))])
 .ret)
 .skip))
 (.seq (.reg [xo 2 (.mov (.c (.int .i64 (0)))), xo 3 (.mov (.c (.int .i64 (0))))])
 .ret)))⟩
theorem t_config_checker__size : trFn Tryz.prog 93 [] [] = some f_config_checker__size := by kernel_rfl

abbrev n_config_checker__listens : Nat := 94
theorem k_config_checker__listens : FnOk Tryz.prog 94 := FnOk.of (by kernel_rfl)
def f_config_checker__listens : FnI := ⟨30, [.tmp 2, .tmp 3],
 (.seq (.reg [xo 1 (.box 153 (.t 0)), xo 2 (.mov (.c (.int .i64 (0)))), xo 3 (.mov (.c (.int .i64 (0))))])
 (.seq (.seq (.reg [xo 6 (.fadr 0 (.t 1)), xo 7 (.fadr 0 (.t 6)), xo 8 (.load false 1 (.t 7)), xo 9 (.len false (.t 8)), xo 10 (.mov (.c (.int .i64 (0))))])
 (.block 0
 (.loop [10] [11, 12, 13, 14, 4, 5, 16, 17, 18, 15, 19, 2, 3, 21, 22, 23, 24, 25, 26, 27, 20, 28, 29, 10]
 (.seq (.reg [xo 11 (.bini .lss (.t 10) (.t 9))])
 (.seq (.cond (.t 11)
 .skip
 (.exit 0))
 (.seq (.block 1
 (.seq (.reg [xo 12 (.mov (.t 10)), xo 13 (.iadr 1 (.t 8) (.t 10)), xo 14 (.load false 1 (.t 13)), xo 4 (.mov (.t 12)), xo 5 (.mov (.t 14))])
 (.block 2
 (.seq (.reg [xo 16 (.mov (.t 5)), xo 17 (.call 32 [(.t 16)]), xo 18 (.not (.t 17)), xo 15 (.mov (.t 18))])
 (.cond (.t 15)
 (.seq (.reg [xo 19 (.mov (.t 4)), xo 2 (.mov (.c (.int .i64 (3)))), xo 3 (.mov (.t 19))])
 .ret)
 (.seq (.reg [xo 21 (.fadr 0 (.t 1)), xo 22 (.fadr 0 (.t 21)), xo 23 (.load false 1 (.t 22)), xo 24 (.mov (.t 4)), xo 25 (.slc 1 (.t 23) none (some (.t 24)) none), xo 26 (.mov (.t 5)), xo 27 (.call 117 [(.t 25), (.t 26)]), xo 20 (.mov (.t 27))])
 (.cond (.t 20)
 (.seq (.reg [xo 28 (.mov (.t 4)), xo 2 (.mov (.c (.int .i64 (4)))), xo 3 (.mov (.t 28))])
 .ret)
 .skip)))))))
 (.reg [xo 29 (.bini .add (.t 10) (.c (.int .i64 (1)))), xo 10 (.mov (.t 29))])))))))
 (.seq (.reg [xo 2 (.mov (.c (.int .i64 (0)))), xo 3 (.mov (.c (.int .i64 (0))))])
 .ret)))⟩
theorem t_config_checker__listens : trFn Tryz.prog 94 [] [[10]] = some f_config_checker__listens := by kernel_rfl

abbrev n_config_checker__clusters : Nat := 95
theorem k_config_checker__clusters : FnOk Tryz.prog 95 := FnOk.of (by kernel_rfl)
def f_config_checker__clusters : FnI := ⟨55, [.tmp 2, .tmp 3],
 (.seq (.reg [xo 1 (.box 153 (.t 0)), xo 2 (.mov (.c (.int .i64 (0)))), xo 3 (.mov (.c (.int .i64 (0))))])
 (.seq (.seq (.reg [xo 6 (.fadr 0 (.t 1)), xo 7 (.fadr 2 (.t 6)), xo 8 (.load false 1 (.t 7)), xo 9 (.len false (.t 8)), xo 10 (.mov (.c (.int .i64 (0))))])
 (.block 0
 (.loop [10] [11, 12, 13, 14, 5, 4, 16, 17, 18, 19, 15, 20, 2, 3, 22, 23, 24, 25, 26, 27, 28, 29, 21, 30, 32, 33, 34, 35, 36, 37, 38, 39, 31, 40, 42, 43, 44, 45, 41, 46, 48, 49, 50, 51, 52, 47, 53, 54, 10]
 (.seq (.reg [xo 11 (.bini .lss (.t 10) (.t 9))])
 (.seq (.cond (.t 11)
 .skip
 (.exit 0))
 (.seq (.block 1
 (.seq (.reg [xo 12 (.mov (.t 10)), xo 13 (.iadr 4 (.t 8) (.t 10)), xo 14 (.load true 4 (.t 13)), xo 5 (.alloc 71 [(.v (.string ⟨#[]⟩)), (.v (.int .i64 (0))), (.v (.int .i64 (0))), (.v (.slice none 0 0))]), xo 4 (.mov (.t 12)), xn (.store 4 (.t 5) (.t 14))])
 (.block 2
 (.seq (.reg [xo 16 (.fadr 0 (.t 5)), xo 17 (.load false 1 (.t 16)), xo 18 (.call 32 [(.t 17)]), xo 19 (.not (.t 18)), xo 15 (.mov (.t 19))])
 (.cond (.t 15)
 (.seq (.reg [xo 20 (.mov (.t 4)), xo 2 (.mov (.c (.int .i64 (3)))), xo 3 (.mov (.t 20))])
 .ret)
 (.seq (.regD [] (.op ⟨0, false, [], xo 22 (.fadr 0 (.t 1))⟩
 (.op ⟨1, false, [], xo 23 (.fadr 2 (.t 22))⟩
 (.op ⟨2, true, [], xo 24 (.load false 1 (.t 23))⟩
 (.op ⟨3, false, [], xo 25 (.mov (.t 4))⟩
 (.op ⟨4, false, [], xo 26 (.slc 4 (.t 24) none (some (.t 25)) none)⟩
 (.op ⟨5, false, [], xo 27 (.fadr 0 (.t 5))⟩
 (.op ⟨6, true, [], xo 28 (.load false 1 (.t 27))⟩
 (.op ⟨7, false, [], xo 29 (.call 118 [(.t 26), (.t 28)])⟩
 (.op ⟨8, false, [], xo 21 (.mov (.t 29))⟩
 .nil))))))))))
 (.cond (.t 21)
 (.seq (.reg [xo 30 (.mov (.t 4)), xo 2 (.mov (.c (.int .i64 (4)))), xo 3 (.mov (.t 30))])
 .ret)
 (.seq (.reg [xo 32 (.fadr 1 (.t 5)), xo 33 (.load false 1 (.t 32)), xo 34 (.bini .neq (.t 33) (.c (.int .i64 (1)))), xo 35 (.mov (.t 34)), xg 36 (.fadr 1 (.t 5)) 35 true, xg 37 (.load false 1 (.t 36)) 35 true, xg 38 (.bini .neq (.t 37) (.c (.int .i64 (2)))) 35 true, xo 39 (.pick (.t 35) (.t 38) (.b false)), xo 31 (.mov (.t 39))])
 (.cond (.t 31)
 (.seq (.reg [xo 40 (.mov (.t 4)), xo 2 (.mov (.c (.int .i64 (9)))), xo 3 (.mov (.t 40))])
 .ret)
 (.seq (.reg [xo 42 (.fadr 2 (.t 5)), xo 43 (.load false 1 (.t 42)), xo 44 (.call 116 [(.t 43), (.c (.int .i64 (1))), (.c (.int .i64 (4)))]), xo 45 (.not (.t 44)), xo 41 (.mov (.t 45))])
 (.cond (.t 41)
 (.seq (.reg [xo 46 (.mov (.t 4)), xo 2 (.mov (.c (.int .i64 (10)))), xo 3 (.mov (.t 46))])
 .ret)
 (.seq (.reg [xo 48 (.fadr 3 (.t 5)), xo 49 (.load false 1 (.t 48)), xo 50 (.len false (.t 49)), xo 51 (.call 116 [(.t 50), (.c (.int .i64 (1))), (.c (.int .i64 (4)))]), xo 52 (.not (.t 51)), xo 47 (.mov (.t 52))])
 (.cond (.t 47)
 (.seq (.reg [xo 53 (.mov (.t 4)), xo 2 (.mov (.c (.int .i64 (6)))), xo 3 (.mov (.t 53))])
 .ret)
 .skip)))))))))))))
 (.reg [xo 54 (.bini .add (.t 10) (.c (.int .i64 (1)))), xo 10 (.mov (.t 54))])))))))
 (.seq (.reg [xo 2 (.mov (.c (.int .i64 (0)))), xo 3 (.mov (.c (.int .i64 (0))))])
 .ret)))⟩
theorem t_config_checker__clusters : trFn Tryz.prog 95 [([], (.first 0 (.first 1 (.first 2 (.first 3 (.first 4 (.first 5 (.first 6 (.exec 7 (.first 8 .nil))))))))))] [[10]] = some f_config_checker__clusters := by kernel_rfl

abbrev n_config_checker__routes : Nat := 96
theorem k_config_checker__routes : FnOk Tryz.prog 96 := FnOk.of (by kernel_rfl)
def f_config_checker__routes : FnI := ⟨65, [.tmp 2, .tmp 3],
 (.seq (.reg [xo 1 (.box 153 (.t 0)), xo 2 (.mov (.c (.int .i64 (0)))), xo 3 (.mov (.c (.int .i64 (0))))])
 (.seq (.seq (.reg [xo 8 (.fadr 0 (.t 1)), xo 9 (.fadr 1 (.t 8)), xo 10 (.load false 1 (.t 9)), xo 11 (.len false (.t 10)), xo 12 (.mov (.c (.int .i64 (0))))])
 (.block 0
 (.loop [12] [13, 14, 15, 16, 5, 4, 18, 19, 20, 21, 22, 23, 24, 17, 25, 2, 3, 27, 28, 29, 30, 26, 31, 33, 34, 35, 36, 32, 37, 39, 40, 41, 42, 43, 44, 45, 38, 46, 47, 48, 49, 50, 51, 52, 53, 54, 55, 56, 57, 7, 58, 59, 60, 61, 62, 63, 64, 12]
 (.seq (.reg [xo 13 (.bini .lss (.t 12) (.t 11))])
 (.seq (.cond (.t 13)
 .skip
 (.exit 0))
 (.seq (.block 1
 (.seq (.reg [xo 14 (.mov (.t 12)), xo 15 (.iadr 4 (.t 10) (.t 12)), xo 16 (.load true 4 (.t 15)), xo 5 (.alloc 157 [(.v (.string ⟨#[]⟩)), (.v (.string ⟨#[]⟩)), (.v (.string ⟨#[]⟩)), (.v (.string ⟨#[]⟩))]), xo 4 (.mov (.t 14)), xn (.store 4 (.t 5) (.t 16))])
 (.seq (.block 2
 (.seq (.reg [xo 18 (.fadr 0 (.t 1)), xo 19 (.fadr 0 (.t 18)), xo 20 (.load false 1 (.t 19)), xo 21 (.fadr 0 (.t 5)), xo 22 (.load false 1 (.t 21)), xo 23 (.call 117 [(.t 20), (.t 22)]), xo 24 (.not (.t 23)), xo 17 (.mov (.t 24))])
 (.cond (.t 17)
 (.seq (.reg [xo 25 (.mov (.t 4)), xo 2 (.mov (.c (.int .i64 (5)))), xo 3 (.mov (.t 25))])
 .ret)
 (.seq (.reg [xo 27 (.fadr 1 (.t 5)), xo 28 (.load false 1 (.t 27)), xo 29 (.call 119 [(.t 28)]), xo 30 (.not (.t 29)), xo 26 (.mov (.t 30))])
 (.cond (.t 26)
 (.seq (.reg [xo 31 (.mov (.t 4)), xo 2 (.mov (.c (.int .i64 (7)))), xo 3 (.mov (.t 31))])
 .ret)
 (.seq (.reg [xo 33 (.fadr 2 (.t 5)), xo 34 (.load false 1 (.t 33)), xo 35 (.call 120 [(.t 34)]), xo 36 (.not (.t 35)), xo 32 (.mov (.t 36))])
 (.cond (.t 32)
 (.seq (.reg [xo 37 (.mov (.t 4)), xo 2 (.mov (.c (.int .i64 (8)))), xo 3 (.mov (.t 37))])
 .ret)
 (.seq (.reg [xo 39 (.fadr 0 (.t 1)), xo 40 (.fadr 2 (.t 39)), xo 41 (.load false 1 (.t 40)), xo 42 (.fadr 3 (.t 5)), xo 43 (.load false 1 (.t 42)), xo 44 (.call 118 [(.t 41), (.t 43)]), xo 45 (.not (.t 44)), xo 38 (.mov (.t 45))])
 (.cond (.t 38)
 (.seq (.reg [xo 46 (.mov (.t 4)), xo 2 (.mov (.c (.int .i64 (5)))), xo 3 (.mov (.t 46))])
 .ret)
 .skip)))))))))
 (.seq (.reg [xo 47 (.fadr 3 (.t 5)), xn (.store 1 (.t 47) (.c (.string ⟨#[]⟩)))])
 (.seq (.reg [xo 48 (.fadr 0 (.t 1)), xo 49 (.fadr 1 (.t 48)), xo 50 (.load false 1 (.t 49)), xo 51 (.mov (.t 4)), xo 52 (.slc 4 (.t 50) none (some (.t 51)) none), xo 53 (.len false (.t 52)), xo 54 (.mov (.c (.int .i64 (0))))])
 (.block 3
 (.loop [54] [55, 56, 57, 7, 58, 59, 60, 61, 62, 2, 3, 63, 54]
 (.seq (.reg [xo 55 (.bini .lss (.t 54) (.t 53))])
 (.seq (.cond (.t 55)
 .skip
 (.exit 3))
 (.seq (.block 4
 (.seq (.reg [xo 56 (.iadr 4 (.t 52) (.t 54)), xo 57 (.load true 4 (.t 56)), xo 7 (.alloc 157 [(.v (.string ⟨#[]⟩)), (.v (.string ⟨#[]⟩)), (.v (.string ⟨#[]⟩)), (.v (.string ⟨#[]⟩))]), xn (.store 4 (.t 7) (.t 57))])
 (.seq (.reg [xo 58 (.fadr 3 (.t 7)), xn (.store 1 (.t 58) (.c (.string ⟨#[]⟩)))])
 (.seq (.reg [xo 59 (.load true 4 (.t 7)), xo 60 (.load true 4 (.t 5)), xo 61 (.binst false [1, 1, 1, 1] (.t 59) (.t 60))])
 (.cond (.t 61)
 (.seq (.reg [xo 62 (.mov (.t 4)), xo 2 (.mov (.c (.int .i64 (4)))), xo 3 (.mov (.t 62))])
 .ret)
 .skip)))))
 (.reg [xo 63 (.bini .add (.t 54) (.c (.int .i64 (1)))), xo 54 (.mov (.t 63))])))))))))))
 (.reg [xo 64 (.bini .add (.t 12) (.c (.int .i64 (1)))), xo 12 (.mov (.t 64))])))))))
 (.seq (.reg [xo 2 (.mov (.c (.int .i64 (0)))), xo 3 (.mov (.c (.int .i64 (0))))])
 .ret)))⟩
theorem t_config_checker__routes : trFn Tryz.prog 96 [] [[12], [54]] = some f_config_checker__routes := by kernel_rfl

abbrev n_names_word_1 : Nat := 103
theorem k_names_word_1 : FnOk Tryz.prog 103 := FnOk.of (by kernel_rfl)
def f_names_word_1 : FnI := ⟨17, [.tmp 2],
 (.seq (.reg [xo 2 (.mov (.b false))])
 (.seq (.reg [xo 3 (.mov (.t 0)), xo 4 (.call 67 [(.t 3)]), xo 5 (.mov (.t 4)), xg 6 (.mov (.t 0)) 5 false, xg 7 (.bini .geq (.t 6) (.c (.int .u8 (48)))) 5 false, xg 8 (.mov (.t 7)) 5 false, xg 9 (.mov (.t 0)) 8 true, xg 10 (.bini .leq (.t 9) (.c (.int .u8 (57)))) 8 true, xg 11 (.pick (.t 8) (.t 10) (.b false)) 5 false, xo 12 (.pick (.t 5) (.b true) (.t 11)), xo 13 (.mov (.t 12)), xg 14 (.mov (.t 0)) 13 false, xg 15 (.bini .eql (.t 14) (.c (.int .u8 (45)))) 13 false, xo 16 (.pick (.t 13) (.b true) (.t 15)), xo 2 (.mov (.t 16))])
 .ret))⟩
theorem t_names_word_1 : trFn Tryz.prog 103 [] [] = some f_names_word_1 := by kernel_rfl

abbrev n_hydrantref05_listens : Nat := 104
def f_hydrantref05_listens : FnI := ⟨38, [.tmp 2, .tmp 3],
 (.seq (.reg [xo 1 (.box 51 (.t 0)), xo 2 (.mov (.c (.int .i64 (0)))), xo 3 (.mov (.c (.int .i64 (0))))])
 (.seq (.seq (.reg [xo 4 (.mov (.c (.int .i64 (0))))])
 (.block 0
 (.loop [4] [6, 7, 8, 9, 10, 13, 14, 15, 16, 17, 18, 19, 20, 2, 3, 5, 21, 22, 23, 26, 27, 28, 29, 30, 31, 32, 33, 34, 35, 36, 37, 24, 25, 11, 12, 4]
 (.seq (.seq (.reg [xo 6 (.mov (.t 4)), xo 7 (.fadr 0 (.t 1)), xo 8 (.load false 1 (.t 7)), xo 9 (.len false (.t 8)), xo 10 (.bini .lss (.t 6) (.t 9))])
 (.cond (.t 10)
 .skip
 (.exit 0)))
 (.seq (.block 1
 (.seq (.seq (.reg [xo 13 (.fadr 0 (.t 1)), xo 14 (.load false 1 (.t 13)), xo 15 (.mov (.t 4)), xo 16 (.iadr 1 (.t 14) (.t 15)), xo 17 (.load false 1 (.t 16)), xo 18 (.call 34 [(.t 17)]), xo 19 (.not (.t 18))])
 (.cond (.t 19)
 (.seq (.reg [xo 20 (.mov (.t 4)), xo 2 (.mov (.c (.int .i64 (3)))), xo 3 (.mov (.t 20))])
 .ret)
 .skip))
 (.seq (.reg [xo 5 (.mov (.c (.int .i64 (0))))])
 (.block 2
 (.loop [5] [21, 22, 23, 26, 27, 28, 29, 30, 31, 32, 33, 34, 35, 36, 37, 2, 3, 24, 25, 5]
 (.seq (.seq (.reg [xo 21 (.mov (.t 5)), xo 22 (.mov (.t 4)), xo 23 (.bini .lss (.t 21) (.t 22))])
 (.cond (.t 23)
 .skip
 (.exit 2)))
 (.seq (.block 3
 (.seq (.regD [] (.op ⟨0, false, [], xo 26 (.fadr 0 (.t 1))⟩
 (.op ⟨1, true, [], xo 27 (.load false 1 (.t 26))⟩
 (.op ⟨2, false, [], xo 28 (.mov (.t 5))⟩
 (.op ⟨3, true, [], xo 29 (.iadr 1 (.t 27) (.t 28))⟩
 (.op ⟨4, true, [], xo 30 (.load false 1 (.t 29))⟩
 (.op ⟨5, false, [], xo 31 (.fadr 0 (.t 1))⟩
 (.op ⟨6, true, [], xo 32 (.load false 1 (.t 31))⟩
 (.op ⟨7, false, [], xo 33 (.mov (.t 4))⟩
 (.op ⟨8, true, [], xo 34 (.iadr 1 (.t 32) (.t 33))⟩
 (.op ⟨9, true, [], xo 35 (.load false 1 (.t 34))⟩
 (.op ⟨10, false, [], xo 36 (.bins .eql (.t 30) (.t 35))⟩
 .nil))))))))))))
 (.cond (.t 36)
 (.seq (.reg [xo 37 (.mov (.t 4)), xo 2 (.mov (.c (.int .i64 (4)))), xo 3 (.mov (.t 37))])
 .ret)
 .skip)))
 (.reg [xo 24 (.mov (.t 5)), xo 25 (.bini .add (.t 24) (.c (.int .i64 (1)))), xo 5 (.mov (.t 25))]))))))))
 (.reg [xo 11 (.mov (.t 4)), xo 12 (.bini .add (.t 11) (.c (.int .i64 (1)))), xo 4 (.mov (.t 12))]))))))
 (.seq (.reg [xo 2 (.mov (.c (.int .i64 (0)))), xo 3 (.mov (.c (.int .i64 (0))))])
 .ret)))⟩
theorem t_hydrantref05_listens : trFn Tryz.prog 104 [([], (.first 0 (.first 1 (.first 2 (.first 3 (.first 4 (.first 5 (.first 6 (.first 7 (.first 8 (.first 9 (.first 10 .nil))))))))))))] [[4], [5]] = some f_hydrantref05_listens := by kernel_rfl

abbrev n_hydrantref05_clusters : Nat := 105
def f_hydrantref05_clusters : FnI := ⟨68, [.tmp 2, .tmp 3],
 (.seq (.reg [xo 1 (.box 51 (.t 0)), xo 2 (.mov (.c (.int .i64 (0)))), xo 3 (.mov (.c (.int .i64 (0))))])
 (.seq (.seq (.reg [xo 4 (.mov (.c (.int .i64 (0))))])
 (.block 0
 (.loop [4] [7, 8, 9, 10, 11, 14, 15, 16, 17, 18, 5, 19, 20, 21, 22, 23, 2, 3, 6, 24, 25, 26, 29, 30, 31, 32, 33, 34, 35, 36, 37, 38, 27, 28, 39, 40, 41, 42, 43, 44, 45, 46, 47, 48, 49, 50, 51, 52, 53, 54, 55, 56, 57, 58, 59, 60, 61, 62, 63, 64, 65, 66, 67, 12, 13, 4]
 (.seq (.seq (.reg [xo 7 (.mov (.t 4)), xo 8 (.fadr 2 (.t 1)), xo 9 (.load false 1 (.t 8)), xo 10 (.len false (.t 9)), xo 11 (.bini .lss (.t 7) (.t 10))])
 (.cond (.t 11)
 .skip
 (.exit 0)))
 (.seq (.block 1
 (.seq (.reg [xo 14 (.fadr 2 (.t 1)), xo 15 (.load false 1 (.t 14)), xo 16 (.mov (.t 4)), xo 17 (.iadr 4 (.t 15) (.t 16)), xo 18 (.load true 4 (.t 17)), xo 5 (.alloc 71 [(.v (.string ⟨#[]⟩)), (.v (.int .i64 (0))), (.v (.int .i64 (0))), (.v (.slice none 0 0))]), xn (.store 4 (.t 5) (.t 18))])
 (.seq (.seq (.reg [xo 19 (.fadr 0 (.t 5)), xo 20 (.load false 1 (.t 19)), xo 21 (.call 34 [(.t 20)]), xo 22 (.not (.t 21))])
 (.cond (.t 22)
 (.seq (.reg [xo 23 (.mov (.t 4)), xo 2 (.mov (.c (.int .i64 (3)))), xo 3 (.mov (.t 23))])
 .ret)
 .skip))
 (.seq (.seq (.reg [xo 6 (.mov (.c (.int .i64 (0))))])
 (.block 2
 (.loop [6] [24, 25, 26, 29, 30, 31, 32, 33, 34, 35, 36, 37, 38, 2, 3, 27, 28, 6]
 (.seq (.seq (.reg [xo 24 (.mov (.t 6)), xo 25 (.mov (.t 4)), xo 26 (.bini .lss (.t 24) (.t 25))])
 (.cond (.t 26)
 .skip
 (.exit 2)))
 (.seq (.block 3
 (.seq (.regD [] (.op ⟨0, false, [], xo 29 (.fadr 2 (.t 1))⟩
 (.op ⟨1, true, [], xo 30 (.load false 1 (.t 29))⟩
 (.op ⟨2, false, [], xo 31 (.mov (.t 6))⟩
 (.op ⟨3, true, [], xo 32 (.iadr 4 (.t 30) (.t 31))⟩
 (.op ⟨4, false, [], xo 33 (.fadr 0 (.t 32))⟩
 (.op ⟨5, true, [], xo 34 (.load false 1 (.t 33))⟩
 (.op ⟨6, false, [], xo 35 (.fadr 0 (.t 5))⟩
 (.op ⟨7, true, [], xo 36 (.load false 1 (.t 35))⟩
 (.op ⟨8, false, [], xo 37 (.bins .eql (.t 34) (.t 36))⟩
 .nil))))))))))
 (.cond (.t 37)
 (.seq (.reg [xo 38 (.mov (.t 4)), xo 2 (.mov (.c (.int .i64 (4)))), xo 3 (.mov (.t 38))])
 .ret)
 .skip)))
 (.reg [xo 27 (.mov (.t 6)), xo 28 (.bini .add (.t 27) (.c (.int .i64 (1)))), xo 6 (.mov (.t 28))]))))))
 (.seq (.seq (.reg [xo 39 (.fadr 1 (.t 5)), xo 40 (.load false 1 (.t 39)), xo 41 (.bini .neq (.t 40) (.c (.int .i64 (1)))), xo 42 (.mov (.t 41)), xg 43 (.fadr 1 (.t 5)) 42 true, xg 44 (.load false 1 (.t 43)) 42 true, xg 45 (.bini .neq (.t 44) (.c (.int .i64 (2)))) 42 true, xo 46 (.pick (.t 42) (.t 45) (.b false))])
 (.cond (.t 46)
 (.seq (.reg [xo 47 (.mov (.t 4)), xo 2 (.mov (.c (.int .i64 (9)))), xo 3 (.mov (.t 47))])
 .ret)
 .skip))
 (.seq (.seq (.reg [xo 48 (.fadr 2 (.t 5)), xo 49 (.load false 1 (.t 48)), xo 50 (.bini .lss (.t 49) (.c (.int .i64 (1)))), xo 51 (.mov (.t 50)), xg 52 (.fadr 2 (.t 5)) 51 false, xg 53 (.load false 1 (.t 52)) 51 false, xg 54 (.bini .gtr (.t 53) (.c (.int .i64 (4)))) 51 false, xo 55 (.pick (.t 51) (.b true) (.t 54))])
 (.cond (.t 55)
 (.seq (.reg [xo 56 (.mov (.t 4)), xo 2 (.mov (.c (.int .i64 (10)))), xo 3 (.mov (.t 56))])
 .ret)
 .skip))
 (.seq (.reg [xo 57 (.fadr 3 (.t 5)), xo 58 (.load false 1 (.t 57)), xo 59 (.len false (.t 58)), xo 60 (.bini .lss (.t 59) (.c (.int .i64 (1)))), xo 61 (.mov (.t 60)), xg 62 (.fadr 3 (.t 5)) 61 false, xg 63 (.load false 1 (.t 62)) 61 false, xg 64 (.len false (.t 63)) 61 false, xg 65 (.bini .gtr (.t 64) (.c (.int .i64 (4)))) 61 false, xo 66 (.pick (.t 61) (.b true) (.t 65))])
 (.cond (.t 66)
 (.seq (.reg [xo 67 (.mov (.t 4)), xo 2 (.mov (.c (.int .i64 (6)))), xo 3 (.mov (.t 67))])
 .ret)
 .skip))))))))
 (.reg [xo 12 (.mov (.t 4)), xo 13 (.bini .add (.t 12) (.c (.int .i64 (1)))), xo 4 (.mov (.t 13))]))))))
 (.seq (.reg [xo 2 (.mov (.c (.int .i64 (0)))), xo 3 (.mov (.c (.int .i64 (0))))])
 .ret)))⟩
theorem t_hydrantref05_clusters : trFn Tryz.prog 105 [([], (.first 0 (.first 1 (.first 2 (.first 3 (.first 4 (.first 5 (.first 6 (.first 7 (.first 8 .nil))))))))))] [[4], [6]] = some f_hydrantref05_clusters := by kernel_rfl

abbrev n_hydrantref05_routes : Nat := 106
def f_hydrantref05_routes : FnI := ⟨74, [.tmp 2, .tmp 3],
 (.seq (.reg [xo 1 (.box 51 (.t 0)), xo 2 (.mov (.c (.int .i64 (0)))), xo 3 (.mov (.c (.int .i64 (0))))])
 (.seq (.seq (.reg [xo 4 (.mov (.c (.int .i64 (0))))])
 (.block 0
 (.loop [4] [8, 9, 10, 11, 12, 15, 16, 17, 18, 19, 5, 20, 21, 22, 23, 24, 25, 26, 2, 3, 27, 28, 29, 30, 31, 32, 33, 34, 35, 36, 37, 38, 39, 40, 41, 42, 43, 6, 44, 45, 46, 49, 50, 51, 52, 53, 7, 54, 55, 56, 57, 58, 59, 60, 61, 62, 63, 64, 65, 66, 67, 68, 69, 70, 71, 72, 73, 47, 48, 13, 14, 4]
 (.seq (.seq (.reg [xo 8 (.mov (.t 4)), xo 9 (.fadr 1 (.t 1)), xo 10 (.load false 1 (.t 9)), xo 11 (.len false (.t 10)), xo 12 (.bini .lss (.t 8) (.t 11))])
 (.cond (.t 12)
 .skip
 (.exit 0)))
 (.seq (.block 1
 (.seq (.reg [xo 15 (.fadr 1 (.t 1)), xo 16 (.load false 1 (.t 15)), xo 17 (.mov (.t 4)), xo 18 (.iadr 4 (.t 16) (.t 17)), xo 19 (.load true 4 (.t 18)), xo 5 (.alloc 157 [(.v (.string ⟨#[]⟩)), (.v (.string ⟨#[]⟩)), (.v (.string ⟨#[]⟩)), (.v (.string ⟨#[]⟩))]), xn (.store 4 (.t 5) (.t 19))])
 (.seq (.seq (.reg [xo 20 (.fadr 0 (.t 1)), xo 21 (.load false 1 (.t 20)), xo 22 (.fadr 0 (.t 5)), xo 23 (.load false 1 (.t 22)), xo 24 (.call 125 [(.t 21), (.t 23)]), xo 25 (.bini .lss (.t 24) (.c (.int .i64 (0))))])
 (.cond (.t 25)
 (.seq (.reg [xo 26 (.mov (.t 4)), xo 2 (.mov (.c (.int .i64 (5)))), xo 3 (.mov (.t 26))])
 .ret)
 .skip))
 (.seq (.seq (.reg [xo 27 (.fadr 1 (.t 5)), xo 28 (.load false 1 (.t 27)), xo 29 (.call 126 [(.t 28)]), xo 30 (.not (.t 29))])
 (.cond (.t 30)
 (.seq (.reg [xo 31 (.mov (.t 4)), xo 2 (.mov (.c (.int .i64 (7)))), xo 3 (.mov (.t 31))])
 .ret)
 .skip))
 (.seq (.seq (.reg [xo 32 (.fadr 2 (.t 5)), xo 33 (.load false 1 (.t 32)), xo 34 (.call 127 [(.t 33)]), xo 35 (.not (.t 34))])
 (.cond (.t 35)
 (.seq (.reg [xo 36 (.mov (.t 4)), xo 2 (.mov (.c (.int .i64 (8)))), xo 3 (.mov (.t 36))])
 .ret)
 .skip))
 (.seq (.seq (.reg [xo 37 (.fadr 2 (.t 1)), xo 38 (.load false 1 (.t 37)), xo 39 (.fadr 3 (.t 5)), xo 40 (.load false 1 (.t 39)), xo 41 (.call 128 [(.t 38), (.t 40)]), xo 42 (.bini .lss (.t 41) (.c (.int .i64 (0))))])
 (.cond (.t 42)
 (.seq (.reg [xo 43 (.mov (.t 4)), xo 2 (.mov (.c (.int .i64 (5)))), xo 3 (.mov (.t 43))])
 .ret)
 .skip))
 (.seq (.reg [xo 6 (.mov (.c (.int .i64 (0))))])
 (.block 2
 (.loop [6] [44, 45, 46, 49, 50, 51, 52, 53, 7, 54, 55, 56, 57, 58, 59, 60, 61, 62, 63, 64, 65, 66, 67, 68, 69, 70, 71, 72, 73, 2, 3, 47, 48, 6]
 (.seq (.seq (.reg [xo 44 (.mov (.t 6)), xo 45 (.mov (.t 4)), xo 46 (.bini .lss (.t 44) (.t 45))])
 (.cond (.t 46)
 .skip
 (.exit 2)))
 (.seq (.block 3
 (.seq (.reg [xo 49 (.fadr 1 (.t 1)), xo 50 (.load false 1 (.t 49)), xo 51 (.mov (.t 6)), xo 52 (.iadr 4 (.t 50) (.t 51)), xo 53 (.load true 4 (.t 52)), xo 7 (.alloc 157 [(.v (.string ⟨#[]⟩)), (.v (.string ⟨#[]⟩)), (.v (.string ⟨#[]⟩)), (.v (.string ⟨#[]⟩))]), xn (.store 4 (.t 7) (.t 53))])
 (.seq (.reg [xo 54 (.fadr 0 (.t 7)), xo 55 (.load false 1 (.t 54)), xo 56 (.fadr 0 (.t 5)), xo 57 (.load false 1 (.t 56)), xo 58 (.bins .eql (.t 55) (.t 57)), xo 59 (.mov (.t 58)), xg 60 (.fadr 1 (.t 7)) 59 true, xg 61 (.load false 1 (.t 60)) 59 true, xg 62 (.fadr 1 (.t 5)) 59 true, xg 63 (.load false 1 (.t 62)) 59 true, xg 64 (.bins .eql (.t 61) (.t 63)) 59 true, xo 65 (.pick (.t 59) (.t 64) (.b false)), xo 66 (.mov (.t 65)), xg 67 (.fadr 2 (.t 7)) 66 true, xg 68 (.load false 1 (.t 67)) 66 true, xg 69 (.fadr 2 (.t 5)) 66 true, xg 70 (.load false 1 (.t 69)) 66 true, xg 71 (.bins .eql (.t 68) (.t 70)) 66 true, xo 72 (.pick (.t 66) (.t 71) (.b false))])
 (.cond (.t 72)
 (.seq (.reg [xo 73 (.mov (.t 4)), xo 2 (.mov (.c (.int .i64 (4)))), xo 3 (.mov (.t 73))])
 .ret)
 .skip))))
 (.reg [xo 47 (.mov (.t 6)), xo 48 (.bini .add (.t 47) (.c (.int .i64 (1)))), xo 6 (.mov (.t 48))]))))))))))))
 (.reg [xo 13 (.mov (.t 4)), xo 14 (.bini .add (.t 13) (.c (.int .i64 (1)))), xo 4 (.mov (.t 14))]))))))
 (.seq (.reg [xo 2 (.mov (.c (.int .i64 (0)))), xo 3 (.mov (.c (.int .i64 (0))))])
 .ret)))⟩
theorem t_hydrantref05_routes : trFn Tryz.prog 106 [] [[4], [6]] = some f_hydrantref05_routes := by kernel_rfl

abbrev n_world_each_api_Group_world_cloner : Nat := 107
def f_world_each_api_Group_world_cloner : FnI := ⟨29, [.tmp 6],
 (.seq (.reg [xo 5 (.box 133 (.t 2)), xo 6 (.mov (.c (.slice none 0 0)))])
 (.seq (.reg [xo 10 (.mov (.t 0)), xo 11 (.len false (.t 10)), xo 12 (.msl 80 2 32 [(.int .u64 (0)), (.slice none 0 0)] (.t 11) (.t 11)), xo 7 (.mov (.t 12))])
 (.seq (.seq (.reg [xo 13 (.mov (.t 0)), xo 14 (.len false (.t 13)), xo 15 (.mov (.c (.int .i64 (0))))])
 (.block 0
 (.loop [15] [16, 17, 18, 19, 9, 8, 20, 21, 22, 23, 24, 25, 26, 27, 15]
 (.seq (.reg [xo 16 (.bini .lss (.t 15) (.t 14))])
 (.seq (.cond (.t 16)
 .skip
 (.exit 0))
 (.seq (.block 1
 (.seq (.reg [xo 17 (.mov (.t 15)), xo 18 (.iadr 2 (.t 13) (.t 15)), xo 19 (.load true 2 (.t 18)), xo 9 (.alloc 80 [(.v (.int .u64 (0))), (.v (.slice none 0 0))]), xo 8 (.mov (.t 17)), xn (.store 2 (.t 9) (.t 19))])
 (.reg [xo 20 (.mov (.t 7)), xo 21 (.mov (.t 8)), xo 22 (.mov (.t 1)), xo 23 (.load true 0 (.t 5)), xo 24 (.load true 2 (.t 9)), xo 25 (.callv (.t 22) [(.t 23), (.t 24)]), xo 26 (.iadr 2 (.t 20) (.t 21)), xn (.store 2 (.t 26) (.t 25))])))
 (.reg [xo 27 (.bini .add (.t 15) (.c (.int .i64 (1)))), xo 15 (.mov (.t 27))])))))))
 (.seq (.reg [xo 28 (.mov (.t 7)), xo 6 (.mov (.t 28))])
 .ret))))⟩
theorem t_world_each_api_Group_world_cloner : trFn Tryz.prog 107 [] [[15]] = some f_world_each_api_Group_world_cloner := by kernel_rfl

abbrev n_world_cloner__group : Nat := 108
def f_world_cloner__group : FnI := ⟨11, [.cell 4 2 true],
 (.seq (.reg [xo 2 (.box 133 (.t 0)), xo 3 (.box 80 (.t 1)), xo 4 (.alloc 80 [(.v (.int .u64 (0))), (.v (.slice none 0 0))])])
 (.seq (.reg [xo 5 (.fadr 1 (.t 3)), xo 6 (.load false 1 (.t 5)), xo 7 (.load true 0 (.t 2)), xo 8 (.call 129 [(.t 6), (.c (.func (.func 130) #[] #[])), (.t 7)]), xo 9 (.fadr 1 (.t 3)), xn (.store 1 (.t 9) (.t 8))])
 (.seq (.reg [xo 10 (.load true 2 (.t 3)), xn (.store 2 (.t 4) (.t 10))])
 .ret)))⟩
theorem t_world_cloner__group : trFn Tryz.prog 108 [] [] = some f_world_cloner__group := by kernel_rfl

abbrev n_slices_Clone___uint64_uint64 : Nat := 109
def f_slices_Clone___uint64_uint64 : FnI := ⟨8, [.tmp 2],
 (.seq (.reg [xo 2 (.mov (.c (.slice none 0 0)))])
 (.seq (.seq (.reg [xo 3 (.mov (.t 0)), xo 4 (.binn 0 false (.t 3))])
 (.cond (.t 4)
 (.seq (.reg [xo 2 (.mov (.c (.slice none 0 0)))])
 .ret)
 .skip))
 (.seq (.reg [xo 5 (.bsl 54 1 0 [] []), xo 6 (.mov (.t 0)), xo 7 (.app 54 1 8 (.t 5) (.t 6)), xo 2 (.mov (.t 7))])
 .ret)))⟩
theorem t_slices_Clone___uint64_uint64 : trFn Tryz.prog 109 [] [] = some f_slices_Clone___uint64_uint64 := by kernel_rfl

abbrev n_slices_IndexFunc___int_int : Nat := 110
def f_slices_IndexFunc___int_int : FnI := ⟨19, [.tmp 4],
 (.seq (.reg [xo 4 (.mov (.c (.int .i64 (0))))])
 (.seq (.seq (.reg [xo 6 (.mov (.t 0)), xo 7 (.len false (.t 6)), xo 8 (.mov (.c (.int .i64 (0))))])
 (.block 0
 (.loop [8] [9, 10, 5, 11, 12, 13, 14, 15, 16, 17, 4, 18, 8]
 (.seq (.reg [xo 9 (.bini .lss (.t 8) (.t 7))])
 (.seq (.cond (.t 9)
 .skip
 (.exit 0))
 (.seq (.block 1
 (.seq (.reg [xo 10 (.mov (.t 8)), xo 5 (.mov (.t 10))])
 (.seq (.reg [xo 11 (.mov (.t 1)), xo 12 (.mov (.t 0)), xo 13 (.mov (.t 5)), xo 14 (.iadr 1 (.t 12) (.t 13)), xo 15 (.load false 1 (.t 14)), xo 16 (.callv (.t 11) [(.t 15)])])
 (.cond (.t 16)
 (.seq (.reg [xo 17 (.mov (.t 5)), xo 4 (.mov (.t 17))])
 .ret)
 .skip))))
 (.reg [xo 18 (.bini .add (.t 8) (.c (.int .i64 (1)))), xo 8 (.mov (.t 18))])))))))
 (.seq (.reg [xo 4 (.mov (.c (.int .i64 (-1))))])
 .ret)))⟩
theorem t_slices_IndexFunc___int_int : trFn Tryz.prog 110 [] [[8]] = some f_slices_IndexFunc___int_int := by kernel_rfl

abbrev n_slices_ContainsFunc___api_Retired_api_Retired : Nat := 111
def f_slices_ContainsFunc___api_Retired_api_Retired : FnI := ⟨9, [.tmp 4],
 (.seq (.reg [xo 4 (.mov (.b false))])
 (.seq (.reg [xo 5 (.mov (.t 0)), xo 6 (.mov (.t 1)), xo 7 (.call 131 [(.t 5), (.t 6)]), xo 8 (.bini .geq (.t 7) (.c (.int .i64 (0)))), xo 4 (.mov (.t 8))])
 .ret))⟩
theorem t_slices_ContainsFunc___api_Retired_api_Retired : trFn Tryz.prog 111 [] [] = some f_slices_ContainsFunc___api_Retired_api_Retired := by kernel_rfl

abbrev n_limbo_has_1 : Nat := 112
theorem k_limbo_has_1 : FnOk Tryz.prog 112 := FnOk.of (by kernel_rfl)
def f_limbo_has_1 : FnI := ⟨8, [.tmp 3],
 (.seq (.reg [xo 2 (.box 95 (.t 0)), xo 3 (.mov (.b false))])
 (.seq (.reg [xo 4 (.fadr 0 (.t 2)), xo 5 (.load false 1 (.t 4)), xo 6 (.load false 1 (.t 1)), xo 7 (.bini .eql (.t 5) (.t 6)), xo 3 (.mov (.t 7))])
 .ret))⟩
theorem t_limbo_has_1 : trFn Tryz.prog 112 [] [] = some f_limbo_has_1 := by kernel_rfl

abbrev n_slices_IndexFunc___api_End_api_End : Nat := 113
def f_slices_IndexFunc___api_End_api_End : FnI := ⟨19, [.tmp 4],
 (.seq (.reg [xo 4 (.mov (.c (.int .i64 (0))))])
 (.seq (.seq (.reg [xo 6 (.mov (.t 0)), xo 7 (.len false (.t 6)), xo 8 (.mov (.c (.int .i64 (0))))])
 (.block 0
 (.loop [8] [9, 10, 5, 11, 12, 13, 14, 15, 16, 17, 4, 18, 8]
 (.seq (.reg [xo 9 (.bini .lss (.t 8) (.t 7))])
 (.seq (.cond (.t 9)
 .skip
 (.exit 0))
 (.seq (.block 1
 (.seq (.reg [xo 10 (.mov (.t 8)), xo 5 (.mov (.t 10))])
 (.seq (.reg [xo 11 (.mov (.t 1)), xo 12 (.mov (.t 0)), xo 13 (.mov (.t 5)), xo 14 (.iadr 3 (.t 12) (.t 13)), xo 15 (.load true 3 (.t 14)), xo 16 (.callv (.t 11) [(.t 15)])])
 (.cond (.t 16)
 (.seq (.reg [xo 17 (.mov (.t 5)), xo 4 (.mov (.t 17))])
 .ret)
 .skip))))
 (.reg [xo 18 (.bini .add (.t 8) (.c (.int .i64 (1)))), xo 8 (.mov (.t 18))])))))))
 (.seq (.reg [xo 4 (.mov (.c (.int .i64 (-1))))])
 .ret)))⟩
theorem t_slices_IndexFunc___api_End_api_End : trFn Tryz.prog 113 [] [[8]] = some f_slices_IndexFunc___api_End_api_End := by kernel_rfl

abbrev n_slots_chain_1 : Nat := 114
theorem k_slots_chain_1 : FnOk Tryz.prog 114 := FnOk.of (by kernel_rfl)
def f_slots_chain_1 : FnI := ⟨44, [],
 (.scope
 (.seq (.reg [xo 5 (.fadr 1 (.t 1)), xo 6 (.load false 1 (.t 5)), xo 7 (.len false (.t 6)), xo 8 (.msl 4 1 1 [(.bool false)] (.t 7) (.t 7)), xo 3 (.mov (.t 8))])
 (.seq (.reg [xo 9 (.fadr 0 (.t 1)), xo 10 (.load false 1 (.t 9)), xo 11 (.call 115 [(.t 10)]), xo 4 (.mov (.t 11))])
 (.seq (.label 0)
 (.seq (.block 0
 (.loop [4] [12, 13, 14, 15, 16, 17, 18, 19, 20, 21, 22, 23, 24, 25, 26, 27, 28, 4, 29, 30, 31, 32, 33, 34, 35, 36, 37, 38, 39, 40]
 (.seq (.seq (.reg [xo 12 (.mov (.t 4)), xo 13 (.bini .neq (.t 12) (.c (.int .i64 (-1))))])
 (.cond (.t 13)
 .skip
 (.exit 0)))
 (.block 1
 (.seq (.seq (.reg [xo 14 (.mov (.t 4)), xo 15 (.bini .lss (.t 14) (.c (.int .i64 (0)))), xo 16 (.mov (.t 15)), xg 17 (.mov (.t 4)) 16 false, xg 18 (.fadr 1 (.t 1)) 16 false, xg 19 (.load false 1 (.t 18)) 16 false, xg 20 (.len false (.t 19)) 16 false, xg 21 (.bini .geq (.t 17) (.t 20)) 16 false, xo 22 (.pick (.t 16) (.b true) (.t 21)), xo 23 (.mov (.t 22)), xg 24 (.mov (.t 3)) 23 false, xg 25 (.mov (.t 4)) 23 false, xg 26 (.iadr 1 (.t 24) (.t 25)) 23 false, xg 27 (.load false 1 (.t 26)) 23 false, xo 28 (.pick (.t 23) (.b true) (.t 27))])
 (.cond (.t 28)
 (.seq (.reg [xo 4 (.mov (.c (.int .i64 (-2))))])
 (.exit 0))
 .skip))
 (.seq (.reg [xo 29 (.mov (.t 3)), xo 30 (.mov (.t 4)), xo 31 (.iadr 1 (.t 29) (.t 30)), xn (.store 1 (.t 31) (.b true))])
 (.seq (.seq (.reg [xo 32 (.mov (.t 0)), xo 33 (.mov (.t 4)), xo 34 (.callv (.t 32) [(.t 33)]), xo 35 (.not (.t 34))])
 (.cond (.t 35)
 .ret
 .skip))
 (.reg [xo 36 (.fadr 1 (.t 1)), xo 37 (.load false 1 (.t 36)), xo 38 (.mov (.t 4)), xo 39 (.iadr 1 (.t 37) (.t 38)), xo 40 (.load false 1 (.t 39)), xo 4 (.mov (.t 40))]))))))))
 (.reg [xo 41 (.mov (.t 0)), xo 42 (.mov (.t 4)), xo 43 (.callv (.t 41) [(.t 42)])]))))))⟩
theorem t_slots_chain_1 : trFn Tryz.prog 114 [] [[4]] = some f_slots_chain_1 := by kernel_rfl

abbrev n_tag_Index : Nat := 115
def f_tag_Index : FnI := ⟨7, [.tmp 2],
 (.seq (.reg [xo 2 (.mov (.c (.int .i64 (0))))])
 (.seq (.reg [xo 3 (.mov (.t 0)), xo 4 (.conv .u32 (.t 3)), xo 5 (.conv .i64 (.t 4)), xo 6 (.bini .add (.t 5) (.c (.int .i64 (-1)))), xo 2 (.mov (.t 6))])
 .ret))⟩
theorem t_tag_Index : trFn Tryz.prog 115 [] [] = some f_tag_Index := by kernel_rfl

abbrev n_config_within : Nat := 116
def f_config_within : FnI := ⟨15, [.tmp 6],
 (.seq (.reg [xo 6 (.mov (.b false))])
 (.seq (.reg [xo 7 (.mov (.t 0)), xo 8 (.mov (.t 1)), xo 9 (.bini .geq (.t 7) (.t 8)), xo 10 (.mov (.t 9)), xg 11 (.mov (.t 0)) 10 true, xg 12 (.mov (.t 2)) 10 true, xg 13 (.bini .leq (.t 11) (.t 12)) 10 true, xo 14 (.pick (.t 10) (.t 13) (.b false)), xo 6 (.mov (.t 14))])
 .ret))⟩
theorem t_config_within : trFn Tryz.prog 116 [] [] = some f_config_within := by kernel_rfl

abbrev n_slices_Contains___string_string : Nat := 117
def f_slices_Contains___string_string : FnI := ⟨9, [.tmp 4],
 (.seq (.reg [xo 4 (.mov (.b false))])
 (.seq (.reg [xo 5 (.mov (.t 0)), xo 6 (.mov (.t 1)), xo 7 (.call 132 [(.t 5), (.t 6)]), xo 8 (.bini .geq (.t 7) (.c (.int .i64 (0)))), xo 4 (.mov (.t 8))])
 .ret))⟩
theorem t_slices_Contains___string_string : trFn Tryz.prog 117 [] [] = some f_slices_Contains___string_string := by kernel_rfl

abbrev n_config_named : Nat := 118
def f_config_named : FnI := ⟨8, [.tmp 4],
 (.seq (.reg [xo 3 (.box 9 (.t 1)), xo 4 (.mov (.b false))])
 (.seq (.reg [xo 5 (.mov (.t 0)), xo 6 (.mkf (.func 134) [] [(.t 3)]), xo 7 (.call 133 [(.t 5), (.t 6)]), xo 4 (.mov (.t 7))])
 .ret))⟩
theorem t_config_named : trFn Tryz.prog 118 [] [] = some f_config_named := by kernel_rfl

abbrev n_names_Pattern : Nat := 119
def f_names_Pattern : FnI := ⟨19, [.tmp 2],
 (.seq (.reg [xo 2 (.mov (.b false))])
 (.seq (.seq (.reg [xo 6 (.mov (.t 0)), xo 7 (.call 135 [(.t 6), (.c (.string ⟨#[42, 46]⟩))]), xo 5 (.mov (.t 7)), xo 8 (.ext 0 (.t 5)), xo 9 (.ext 1 (.t 5)), xo 3 (.mov (.t 8)), xo 4 (.mov (.t 9))])
 (.seq (.reg [xo 10 (.mov (.t 4))])
 (.cond (.t 10)
 (.seq (.reg [xo 11 (.mov (.t 3)), xo 12 (.call 136 [(.t 11)]), xo 2 (.mov (.t 12))])
 .ret)
 .skip)))
 (.seq (.reg [xo 13 (.mov (.t 0)), xo 14 (.bins .eql (.t 13) (.c (.string ⟨#[42]⟩))), xo 15 (.mov (.t 14)), xg 16 (.mov (.t 0)) 15 false, xg 17 (.call 136 [(.t 16)]) 15 false, xo 18 (.pick (.t 15) (.b true) (.t 17)), xo 2 (.mov (.t 18))])
 .ret)))⟩
theorem t_names_Pattern : trFn Tryz.prog 119 [] [] = some f_names_Pattern := by kernel_rfl

abbrev n_names_Path : Nat := 120
def f_names_Path : FnI := ⟨21, [.tmp 2],
 (.seq (.reg [xo 2 (.mov (.b false))])
 (.seq (.reg [xo 3 (.mov (.t 0)), xo 4 (.len true (.t 3)), xo 5 (.bini .gtr (.t 4) (.c (.int .i64 (0)))), xo 6 (.mov (.t 5)), xg 7 (.mov (.t 0)) 6 true, xg 8 (.len true (.t 7)) 6 true, xg 9 (.bini .leq (.t 8) (.c (.int .i64 (32)))) 6 true, xo 10 (.pick (.t 6) (.t 9) (.b false)), xo 11 (.mov (.t 10)), xg 12 (.mov (.t 0)) 11 true, xg 13 (.idxs (.t 12) (.c (.int .i64 (0)))) 11 true, xg 14 (.bini .eql (.t 13) (.c (.int .u8 (47)))) 11 true, xo 15 (.pick (.t 11) (.t 14) (.b false)), xo 16 (.mov (.t 15)), xg 17 (.call 68 []) 16 true, xg 18 (.mov (.t 0)) 16 true, xg 19 (.call 69 [(.t 17), (.t 18), (.c (.int .u8 (47)))]) 16 true, xo 20 (.pick (.t 16) (.t 19) (.b false)), xo 2 (.mov (.t 20))])
 .ret))⟩
theorem t_names_Path : trFn Tryz.prog 120 [] [] = some f_names_Path := by kernel_rfl

abbrev n_hydrantref05_Listen : Nat := 125
def f_hydrantref05_Listen : FnI := ⟨19, [.tmp 4],
 (.seq (.reg [xo 4 (.mov (.c (.int .i64 (0))))])
 (.seq (.seq (.reg [xo 5 (.mov (.c (.int .i64 (0))))])
 (.block 0
 (.loop [5] [6, 7, 8, 9, 12, 13, 14, 15, 16, 17, 18, 4, 10, 11, 5]
 (.seq (.seq (.reg [xo 6 (.mov (.t 5)), xo 7 (.mov (.t 0)), xo 8 (.len false (.t 7)), xo 9 (.bini .lss (.t 6) (.t 8))])
 (.cond (.t 9)
 .skip
 (.exit 0)))
 (.seq (.block 1
 (.seq (.reg [xo 12 (.mov (.t 0)), xo 13 (.mov (.t 5)), xo 14 (.iadr 1 (.t 12) (.t 13)), xo 15 (.load false 1 (.t 14)), xo 16 (.mov (.t 1)), xo 17 (.bins .eql (.t 15) (.t 16))])
 (.cond (.t 17)
 (.seq (.reg [xo 18 (.mov (.t 5)), xo 4 (.mov (.t 18))])
 .ret)
 .skip)))
 (.reg [xo 10 (.mov (.t 5)), xo 11 (.bini .add (.t 10) (.c (.int .i64 (1)))), xo 5 (.mov (.t 11))]))))))
 (.seq (.reg [xo 4 (.mov (.c (.int .i64 (-1))))])
 .ret)))⟩
theorem t_hydrantref05_Listen : trFn Tryz.prog 125 [] [[5]] = some f_hydrantref05_Listen := by kernel_rfl

abbrev n_hydrantref03_Pattern : Nat := 126
def f_hydrantref03_Pattern : FnI := ⟨20, [.tmp 2],
 (.seq (.reg [xo 2 (.mov (.b false))])
 (.seq (.seq (.reg [xo 3 (.mov (.t 0)), xo 4 (.len true (.t 3)), xo 5 (.bini .gtr (.t 4) (.c (.int .i64 (2)))), xo 6 (.mov (.t 5)), xg 7 (.mov (.t 0)) 6 true, xg 8 (.slcs (.t 7) none (some (.c (.int .i64 (2))))) 6 true, xg 9 (.bins .eql (.t 8) (.c (.string ⟨#[42, 46]⟩))) 6 true, xo 10 (.pick (.t 6) (.t 9) (.b false))])
 (.cond (.t 10)
 (.seq (.reg [xo 11 (.mov (.t 0)), xo 12 (.slcs (.t 11) (some (.c (.int .i64 (2)))) none), xo 13 (.call 139 [(.t 12)]), xo 2 (.mov (.t 13))])
 .ret)
 .skip))
 (.seq (.reg [xo 14 (.mov (.t 0)), xo 15 (.bins .eql (.t 14) (.c (.string ⟨#[42]⟩))), xo 16 (.mov (.t 15)), xg 17 (.mov (.t 0)) 16 false, xg 18 (.call 139 [(.t 17)]) 16 false, xo 19 (.pick (.t 16) (.b true) (.t 18)), xo 2 (.mov (.t 19))])
 .ret)))⟩
theorem t_hydrantref03_Pattern : trFn Tryz.prog 126 [] [] = some f_hydrantref03_Pattern := by kernel_rfl

abbrev n_hydrantref03_Path : Nat := 127
def f_hydrantref03_Path : FnI := ⟨34, [.tmp 2],
 (.seq (.reg [xo 2 (.mov (.b false))])
 (.seq (.seq (.reg [xo 4 (.mov (.t 0)), xo 5 (.len true (.t 4)), xo 6 (.bini .lss (.t 5) (.c (.int .i64 (1)))), xo 7 (.mov (.t 6)), xg 8 (.mov (.t 0)) 7 false, xg 9 (.len true (.t 8)) 7 false, xg 10 (.bini .gtr (.t 9) (.c (.int .i64 (32)))) 7 false, xo 11 (.pick (.t 7) (.b true) (.t 10)), xo 12 (.mov (.t 11)), xg 13 (.mov (.t 0)) 12 false, xg 14 (.idxs (.t 13) (.c (.int .i64 (0)))) 12 false, xg 15 (.bini .neq (.t 14) (.c (.int .u8 (47)))) 12 false, xo 16 (.pick (.t 12) (.b true) (.t 15))])
 (.cond (.t 16)
 (.seq (.reg [xo 2 (.mov (.b false))])
 .ret)
 .skip))
 (.seq (.seq (.reg [xo 3 (.mov (.c (.int .i64 (0))))])
 (.block 0
 (.loop [3] [17, 18, 19, 20, 23, 24, 25, 26, 27, 28, 29, 30, 31, 32, 33, 2, 21, 22, 3]
 (.seq (.seq (.reg [xo 17 (.mov (.t 3)), xo 18 (.mov (.t 0)), xo 19 (.len true (.t 18)), xo 20 (.bini .lss (.t 17) (.t 19))])
 (.cond (.t 20)
 .skip
 (.exit 0)))
 (.seq (.block 1
 (.seq (.reg [xo 23 (.mov (.t 0)), xo 24 (.mov (.t 3)), xo 25 (.idxs (.t 23) (.t 24)), xo 26 (.call 73 [(.t 25)]), xo 27 (.not (.t 26)), xo 28 (.mov (.t 27)), xg 29 (.mov (.t 0)) 28 true, xg 30 (.mov (.t 3)) 28 true, xg 31 (.idxs (.t 29) (.t 30)) 28 true, xg 32 (.bini .neq (.t 31) (.c (.int .u8 (47)))) 28 true, xo 33 (.pick (.t 28) (.t 32) (.b false))])
 (.cond (.t 33)
 (.seq (.reg [xo 2 (.mov (.b false))])
 .ret)
 .skip)))
 (.reg [xo 21 (.mov (.t 3)), xo 22 (.bini .add (.t 21) (.c (.int .i64 (1)))), xo 3 (.mov (.t 22))]))))))
 (.seq (.reg [xo 2 (.mov (.b true))])
 .ret))))⟩
theorem t_hydrantref03_Path : trFn Tryz.prog 127 [] [[3]] = some f_hydrantref03_Path := by kernel_rfl

abbrev n_hydrantref05_Cluster : Nat := 128
def f_hydrantref05_Cluster : FnI := ⟨20, [.tmp 4],
 (.seq (.reg [xo 4 (.mov (.c (.int .i64 (0))))])
 (.seq (.seq (.reg [xo 5 (.mov (.c (.int .i64 (0))))])
 (.block 0
 (.loop [5] [6, 7, 8, 9, 12, 13, 14, 15, 16, 17, 18, 19, 4, 10, 11, 5]
 (.seq (.seq (.reg [xo 6 (.mov (.t 5)), xo 7 (.mov (.t 0)), xo 8 (.len false (.t 7)), xo 9 (.bini .lss (.t 6) (.t 8))])
 (.cond (.t 9)
 .skip
 (.exit 0)))
 (.seq (.block 1
 (.seq (.reg [xo 12 (.mov (.t 0)), xo 13 (.mov (.t 5)), xo 14 (.iadr 4 (.t 12) (.t 13)), xo 15 (.fadr 0 (.t 14)), xo 16 (.load false 1 (.t 15)), xo 17 (.mov (.t 1)), xo 18 (.bins .eql (.t 16) (.t 17))])
 (.cond (.t 18)
 (.seq (.reg [xo 19 (.mov (.t 5)), xo 4 (.mov (.t 19))])
 .ret)
 .skip)))
 (.reg [xo 10 (.mov (.t 5)), xo 11 (.bini .add (.t 10) (.c (.int .i64 (1)))), xo 5 (.mov (.t 11))]))))))
 (.seq (.reg [xo 4 (.mov (.c (.int .i64 (-1))))])
 .ret)))⟩
theorem t_hydrantref05_Cluster : trFn Tryz.prog 128 [] [[5]] = some f_hydrantref05_Cluster := by kernel_rfl

abbrev n_world_each_api_End_world_cloner : Nat := 129
def f_world_each_api_End_world_cloner : FnI := ⟨29, [.tmp 6],
 (.seq (.reg [xo 5 (.box 133 (.t 2)), xo 6 (.mov (.c (.slice none 0 0)))])
 (.seq (.reg [xo 10 (.mov (.t 0)), xo 11 (.len false (.t 10)), xo 12 (.msl 82 3 40 [(.int .u64 (0)), (.slice none 0 0), (.int .i64 (0))] (.t 11) (.t 11)), xo 7 (.mov (.t 12))])
 (.seq (.seq (.reg [xo 13 (.mov (.t 0)), xo 14 (.len false (.t 13)), xo 15 (.mov (.c (.int .i64 (0))))])
 (.block 0
 (.loop [15] [16, 17, 18, 19, 9, 8, 20, 21, 22, 23, 24, 25, 26, 27, 15]
 (.seq (.reg [xo 16 (.bini .lss (.t 15) (.t 14))])
 (.seq (.cond (.t 16)
 .skip
 (.exit 0))
 (.seq (.block 1
 (.seq (.reg [xo 17 (.mov (.t 15)), xo 18 (.iadr 3 (.t 13) (.t 15)), xo 19 (.load true 3 (.t 18)), xo 9 (.alloc 82 [(.v (.int .u64 (0))), (.v (.slice none 0 0)), (.v (.int .i64 (0)))]), xo 8 (.mov (.t 17)), xn (.store 3 (.t 9) (.t 19))])
 (.reg [xo 20 (.mov (.t 7)), xo 21 (.mov (.t 8)), xo 22 (.mov (.t 1)), xo 23 (.load true 0 (.t 5)), xo 24 (.load true 3 (.t 9)), xo 25 (.callv (.t 22) [(.t 23), (.t 24)]), xo 26 (.iadr 3 (.t 20) (.t 21)), xn (.store 3 (.t 26) (.t 25))])))
 (.reg [xo 27 (.bini .add (.t 15) (.c (.int .i64 (1)))), xo 15 (.mov (.t 27))])))))))
 (.seq (.reg [xo 28 (.mov (.t 7)), xo 6 (.mov (.t 28))])
 .ret))))⟩
theorem t_world_each_api_End_world_cloner : trFn Tryz.prog 129 [] [[15]] = some f_world_each_api_End_world_cloner := by kernel_rfl

abbrev n_world_cloner__end : Nat := 130
def f_world_cloner__end : FnI := ⟨10, [.cell 4 3 true],
 (.seq (.reg [xo 2 (.box 133 (.t 0)), xo 3 (.box 82 (.t 1)), xo 4 (.alloc 82 [(.v (.int .u64 (0))), (.v (.slice none 0 0)), (.v (.int .i64 (0)))])])
 (.seq (.reg [xo 5 (.fadr 1 (.t 3)), xo 6 (.load false 1 (.t 5)), xo 7 (.call 77 [(.t 6)]), xo 8 (.fadr 1 (.t 3)), xn (.store 1 (.t 8) (.t 7))])
 (.seq (.reg [xo 9 (.load true 3 (.t 3)), xn (.store 3 (.t 4) (.t 9))])
 .ret)))⟩
theorem t_world_cloner__end : trFn Tryz.prog 130 [] [] = some f_world_cloner__end := by kernel_rfl

abbrev n_slices_IndexFunc___api_Retired_api_Retired : Nat := 131
def f_slices_IndexFunc___api_Retired_api_Retired : FnI := ⟨19, [.tmp 4],
 (.seq (.reg [xo 4 (.mov (.c (.int .i64 (0))))])
 (.seq (.seq (.reg [xo 6 (.mov (.t 0)), xo 7 (.len false (.t 6)), xo 8 (.mov (.c (.int .i64 (0))))])
 (.block 0
 (.loop [8] [9, 10, 5, 11, 12, 13, 14, 15, 16, 17, 4, 18, 8]
 (.seq (.reg [xo 9 (.bini .lss (.t 8) (.t 7))])
 (.seq (.cond (.t 9)
 .skip
 (.exit 0))
 (.seq (.block 1
 (.seq (.reg [xo 10 (.mov (.t 8)), xo 5 (.mov (.t 10))])
 (.seq (.reg [xo 11 (.mov (.t 1)), xo 12 (.mov (.t 0)), xo 13 (.mov (.t 5)), xo 14 (.iadr 3 (.t 12) (.t 13)), xo 15 (.load true 3 (.t 14)), xo 16 (.callv (.t 11) [(.t 15)])])
 (.cond (.t 16)
 (.seq (.reg [xo 17 (.mov (.t 5)), xo 4 (.mov (.t 17))])
 .ret)
 .skip))))
 (.reg [xo 18 (.bini .add (.t 8) (.c (.int .i64 (1)))), xo 8 (.mov (.t 18))])))))))
 (.seq (.reg [xo 4 (.mov (.c (.int .i64 (-1))))])
 .ret)))⟩
theorem t_slices_IndexFunc___api_Retired_api_Retired : trFn Tryz.prog 131 [] [[8]] = some f_slices_IndexFunc___api_Retired_api_Retired := by kernel_rfl

abbrev n_slices_Index___string_string : Nat := 132
def f_slices_Index___string_string : FnI := ⟨19, [.tmp 4],
 (.seq (.reg [xo 4 (.mov (.c (.int .i64 (0))))])
 (.seq (.seq (.reg [xo 6 (.mov (.t 0)), xo 7 (.len false (.t 6)), xo 8 (.mov (.c (.int .i64 (0))))])
 (.block 0
 (.loop [8] [9, 10, 5, 11, 12, 13, 14, 15, 16, 17, 4, 18, 8]
 (.seq (.reg [xo 9 (.bini .lss (.t 8) (.t 7))])
 (.seq (.cond (.t 9)
 .skip
 (.exit 0))
 (.seq (.block 1
 (.seq (.reg [xo 10 (.mov (.t 8)), xo 5 (.mov (.t 10))])
 (.seq (.reg [xo 11 (.mov (.t 1)), xo 12 (.mov (.t 0)), xo 13 (.mov (.t 5)), xo 14 (.iadr 1 (.t 12) (.t 13)), xo 15 (.load false 1 (.t 14)), xo 16 (.bins .eql (.t 11) (.t 15))])
 (.cond (.t 16)
 (.seq (.reg [xo 17 (.mov (.t 5)), xo 4 (.mov (.t 17))])
 .ret)
 .skip))))
 (.reg [xo 18 (.bini .add (.t 8) (.c (.int .i64 (1)))), xo 8 (.mov (.t 18))])))))))
 (.seq (.reg [xo 4 (.mov (.c (.int .i64 (-1))))])
 .ret)))⟩
theorem t_slices_Index___string_string : trFn Tryz.prog 132 [] [[8]] = some f_slices_Index___string_string := by kernel_rfl

abbrev n_slices_ContainsFunc___api_Cluster_api_Cluster : Nat := 133
def f_slices_ContainsFunc___api_Cluster_api_Cluster : FnI := ⟨9, [.tmp 4],
 (.seq (.reg [xo 4 (.mov (.b false))])
 (.seq (.reg [xo 5 (.mov (.t 0)), xo 6 (.mov (.t 1)), xo 7 (.call 140 [(.t 5), (.t 6)]), xo 8 (.bini .geq (.t 7) (.c (.int .i64 (0)))), xo 4 (.mov (.t 8))])
 .ret))⟩
theorem t_slices_ContainsFunc___api_Cluster_api_Cluster : trFn Tryz.prog 133 [] [] = some f_slices_ContainsFunc___api_Cluster_api_Cluster := by kernel_rfl

abbrev n_config_named_1 : Nat := 134
theorem k_config_named_1 : FnOk Tryz.prog 134 := FnOk.of (by kernel_rfl)
def f_config_named_1 : FnI := ⟨8, [.tmp 3],
 (.seq (.reg [xo 2 (.box 71 (.t 0)), xo 3 (.mov (.b false))])
 (.seq (.reg [xo 4 (.fadr 0 (.t 2)), xo 5 (.load false 1 (.t 4)), xo 6 (.load false 1 (.t 1)), xo 7 (.bins .eql (.t 5) (.t 6)), xo 3 (.mov (.t 7))])
 .ret))⟩
theorem t_config_named_1 : trFn Tryz.prog 134 [] [] = some f_config_named_1 := by kernel_rfl

abbrev n_strings_CutPrefix : Nat := 135
def f_strings_CutPrefix : FnI := ⟨11, [.tmp 4, .tmp 5],
 (.seq (.reg [xo 4 (.mov (.c (.string ⟨#[]⟩))), xo 5 (.mov (.b false))])
 (.seq (.reg [xo 6 (.mov (.t 0)), xo 7 (.mov (.t 1)), xo 8 (.call 141 [(.t 6), (.t 7)]), xo 9 (.ext 0 (.t 8)), xo 10 (.ext 1 (.t 8)), xo 4 (.mov (.t 9)), xo 5 (.mov (.t 10))])
 .ret))⟩
theorem t_strings_CutPrefix : trFn Tryz.prog 135 [] [] = some f_strings_CutPrefix := by kernel_rfl

abbrev n_names_Host : Nat := 136
def f_names_Host : FnI := ⟨13, [.cell 2 1 false],
 (.seq (.reg [xo 2 (.alloc 4 [(.v (.bool false))])])
 (.seq (.seq (.reg [xo 4 (.mov (.t 0)), xo 5 (.len true (.t 4)), xo 6 (.bini .gtr (.t 5) (.c (.int .i64 (32))))])
 (.cond (.t 6)
 (.seq (.reg [xn (.store 1 (.t 2) (.b false))])
 .ret)
 .skip))
 (.seq (.seq (.reg [xo 7 (.mov (.t 0)), xo 8 (.call 142 [(.t 7), (.c (.int .u8 (46)))])])
 (.block 0
 (.rfun (.t 8) [9]
 (.reg [xo 3 (.mov (.t 9))])
 (.block 1
 (.seq (.reg [xo 10 (.mov (.t 3)), xo 11 (.call 32 [(.t 10)]), xo 12 (.not (.t 11))])
 (.cond (.t 12)
 (.seq (.reg [xn (.store 1 (.t 2) (.b false))])
 .ret)
 .skip))))))
 (.seq (.reg [xn (.store 1 (.t 2) (.b true))])
 .ret))))⟩
theorem t_names_Host : trFn Tryz.prog 136 [] [] = some f_names_Host := by kernel_rfl

abbrev n_hydrantref03_Host : Nat := 139
def f_hydrantref03_Host : FnI := ⟨22, [.tmp 2],
 (.seq (.reg [xo 2 (.mov (.b false))])
 (.seq (.reg [xo 5 (.mov (.t 0)), xo 6 (.call 144 [(.t 5), (.c (.int .u8 (46)))]), xo 3 (.mov (.t 6))])
 (.seq (.seq (.reg [xo 4 (.mov (.c (.int .i64 (0))))])
 (.block 0
 (.loop [4] [7, 8, 9, 10, 13, 14, 15, 16, 17, 18, 2, 11, 12, 4]
 (.seq (.seq (.reg [xo 7 (.mov (.t 4)), xo 8 (.mov (.t 3)), xo 9 (.len false (.t 8)), xo 10 (.bini .lss (.t 7) (.t 9))])
 (.cond (.t 10)
 .skip
 (.exit 0)))
 (.seq (.block 1
 (.seq (.reg [xo 13 (.mov (.t 3)), xo 14 (.mov (.t 4)), xo 15 (.iadr 1 (.t 13) (.t 14)), xo 16 (.load false 1 (.t 15)), xo 17 (.call 34 [(.t 16)]), xo 18 (.not (.t 17))])
 (.cond (.t 18)
 (.seq (.reg [xo 2 (.mov (.b false))])
 .ret)
 .skip)))
 (.reg [xo 11 (.mov (.t 4)), xo 12 (.bini .add (.t 11) (.c (.int .i64 (1)))), xo 4 (.mov (.t 12))]))))))
 (.seq (.reg [xo 19 (.mov (.t 0)), xo 20 (.len true (.t 19)), xo 21 (.bini .leq (.t 20) (.c (.int .i64 (32)))), xo 2 (.mov (.t 21))])
 .ret))))⟩
theorem t_hydrantref03_Host : trFn Tryz.prog 139 [] [[4]] = some f_hydrantref03_Host := by kernel_rfl

abbrev n_slices_IndexFunc___api_Cluster_api_Cluster : Nat := 140
def f_slices_IndexFunc___api_Cluster_api_Cluster : FnI := ⟨19, [.tmp 4],
 (.seq (.reg [xo 4 (.mov (.c (.int .i64 (0))))])
 (.seq (.seq (.reg [xo 6 (.mov (.t 0)), xo 7 (.len false (.t 6)), xo 8 (.mov (.c (.int .i64 (0))))])
 (.block 0
 (.loop [8] [9, 10, 5, 11, 12, 13, 14, 15, 16, 17, 4, 18, 8]
 (.seq (.reg [xo 9 (.bini .lss (.t 8) (.t 7))])
 (.seq (.cond (.t 9)
 .skip
 (.exit 0))
 (.seq (.block 1
 (.seq (.reg [xo 10 (.mov (.t 8)), xo 5 (.mov (.t 10))])
 (.seq (.reg [xo 11 (.mov (.t 1)), xo 12 (.mov (.t 0)), xo 13 (.mov (.t 5)), xo 14 (.iadr 4 (.t 12) (.t 13)), xo 15 (.load true 4 (.t 14)), xo 16 (.callv (.t 11) [(.t 15)])])
 (.cond (.t 16)
 (.seq (.reg [xo 17 (.mov (.t 5)), xo 4 (.mov (.t 17))])
 .ret)
 .skip))))
 (.reg [xo 18 (.bini .add (.t 8) (.c (.int .i64 (1)))), xo 8 (.mov (.t 18))])))))))
 (.seq (.reg [xo 4 (.mov (.c (.int .i64 (-1))))])
 .ret)))⟩
theorem t_slices_IndexFunc___api_Cluster_api_Cluster : trFn Tryz.prog 140 [] [[8]] = some f_slices_IndexFunc___api_Cluster_api_Cluster := by kernel_rfl

abbrev n_stringslite_CutPrefix : Nat := 141
def f_stringslite_CutPrefix : FnI := ⟨15, [.tmp 4, .tmp 5],
 (.seq (.reg [xo 4 (.mov (.c (.string ⟨#[]⟩))), xo 5 (.mov (.b false))])
 (.seq (.seq (.reg [xo 6 (.mov (.t 0)), xo 7 (.mov (.t 1)), xo 8 (.call 145 [(.t 6), (.t 7)]), xo 9 (.not (.t 8))])
 (.cond (.t 9)
 (.seq (.reg [xo 10 (.mov (.t 0)), xo 4 (.mov (.t 10)), xo 5 (.mov (.b false))])
 .ret)
 .skip))
 (.seq (.reg [xo 11 (.mov (.t 0)), xo 12 (.mov (.t 1)), xo 13 (.len true (.t 12)), xo 14 (.slcs (.t 11) (some (.t 13)) none), xo 4 (.mov (.t 14)), xo 5 (.mov (.b true))])
 .ret)))⟩
theorem t_stringslite_CutPrefix : trFn Tryz.prog 141 [] [] = some f_stringslite_CutPrefix := by kernel_rfl

abbrev n_names_parts : Nat := 142
def f_names_parts : FnI := ⟨6, [.tmp 4],
 (.seq (.reg [xo 2 (.box 9 (.t 0)), xo 3 (.box 5 (.t 1)), xo 4 (.mov (.c .nilFunc))])
 (.seq (.reg [xo 5 (.mkf (.func 146) [] [(.t 2), (.t 3)]), xo 4 (.mov (.t 5))])
 .ret))⟩
theorem t_names_parts : trFn Tryz.prog 142 [] [] = some f_names_parts := by kernel_rfl

abbrev n_hydrantref03_Parts : Nat := 144
def f_hydrantref03_Parts : FnI := ⟨35, [.tmp 4],
 (.seq (.reg [xo 4 (.mov (.c (.slice none 0 0)))])
 (.seq (.reg [xo 8 (.bsl 9 1 0 [] []), xo 5 (.mov (.t 8))])
 (.seq (.reg [xo 6 (.mov (.c (.int .i64 (0))))])
 (.seq (.seq (.reg [xo 7 (.mov (.c (.int .i64 (0))))])
 (.block 0
 (.loop [5, 6, 7] [9, 10, 11, 12, 15, 16, 17, 18, 19, 20, 21, 22, 23, 24, 25, 26, 5, 27, 28, 6, 13, 14, 7]
 (.seq (.seq (.reg [xo 9 (.mov (.t 7)), xo 10 (.mov (.t 0)), xo 11 (.len true (.t 10)), xo 12 (.bini .lss (.t 9) (.t 11))])
 (.cond (.t 12)
 .skip
 (.exit 0)))
 (.seq (.block 1
 (.seq (.reg [xo 15 (.mov (.t 0)), xo 16 (.mov (.t 7)), xo 17 (.idxs (.t 15) (.t 16)), xo 18 (.mov (.t 1)), xo 19 (.bini .eql (.t 17) (.t 18))])
 (.cond (.t 19)
 (.seq (.reg [xo 20 (.mov (.t 5)), xo 21 (.mov (.t 0)), xo 22 (.mov (.t 6)), xo 23 (.mov (.t 7)), xo 24 (.slcs (.t 21) (some (.t 22)) (some (.t 23))), xo 25 (.bsl 9 1 1 [(.v (.string ⟨#[]⟩))] [(0, 1, (.t 24))]), xo 26 (.app 9 1 16 (.t 20) (.t 25)), xo 5 (.mov (.t 26))])
 (.reg [xo 27 (.mov (.t 7)), xo 28 (.bini .add (.t 27) (.c (.int .i64 (1)))), xo 6 (.mov (.t 28))]))
 .skip)))
 (.reg [xo 13 (.mov (.t 7)), xo 14 (.bini .add (.t 13) (.c (.int .i64 (1)))), xo 7 (.mov (.t 14))]))))))
 (.seq (.reg [xo 29 (.mov (.t 5)), xo 30 (.mov (.t 0)), xo 31 (.mov (.t 6)), xo 32 (.slcs (.t 30) (some (.t 31)) none), xo 33 (.bsl 9 1 1 [(.v (.string ⟨#[]⟩))] [(0, 1, (.t 32))]), xo 34 (.app 9 1 16 (.t 29) (.t 33)), xo 4 (.mov (.t 34))])
 .ret)))))⟩
theorem t_hydrantref03_Parts : trFn Tryz.prog 144 [] [[5, 6, 7]] = some f_hydrantref03_Parts := by kernel_rfl

abbrev n_stringslite_HasPrefix : Nat := 145
def f_stringslite_HasPrefix : FnI := ⟨18, [.tmp 4],
 (.seq (.reg [xo 4 (.mov (.b false))])
 (.seq (.reg [xo 5 (.mov (.t 0)), xo 6 (.len true (.t 5)), xo 7 (.mov (.t 1)), xo 8 (.len true (.t 7)), xo 9 (.bini .geq (.t 6) (.t 8)), xo 10 (.mov (.t 9)), xg 11 (.mov (.t 0)) 10 true, xg 12 (.mov (.t 1)) 10 true, xg 13 (.len true (.t 12)) 10 true, xg 14 (.slcs (.t 11) none (some (.t 13))) 10 true, xg 15 (.mov (.t 1)) 10 true, xg 16 (.bins .eql (.t 14) (.t 15)) 10 true, xo 17 (.pick (.t 10) (.t 16) (.b false)), xo 4 (.mov (.t 17))])
 .ret))⟩
theorem t_stringslite_HasPrefix : trFn Tryz.prog 145 [] [] = some f_stringslite_HasPrefix := by kernel_rfl

abbrev n_names_parts_1 : Nat := 146
theorem k_names_parts_1 : FnOk Tryz.prog 146 := FnOk.of (by kernel_rfl)
def f_names_parts_1 : FnI := ⟨23, [],
 (.block 0
 (.loop [] [5, 6, 7, 4, 8, 9, 10, 11, 12, 13, 14, 15, 16, 17, 18, 19, 20, 21, 22]
 (.block 1
 (.seq (.reg [xo 5 (.load false 1 (.t 1)), xo 6 (.load false 1 (.t 2)), xo 7 (.call 147 [(.t 5), (.t 6)]), xo 4 (.mov (.t 7))])
 (.seq (.seq (.reg [xo 8 (.mov (.t 4)), xo 9 (.bini .lss (.t 8) (.c (.int .i64 (0))))])
 (.cond (.t 9)
 (.seq (.reg [xo 10 (.mov (.t 0)), xo 11 (.load false 1 (.t 1)), xo 12 (.callv (.t 10) [(.t 11)])])
 .ret)
 .skip))
 (.seq (.seq (.reg [xo 13 (.mov (.t 0)), xo 14 (.load false 1 (.t 1)), xo 15 (.mov (.t 4)), xo 16 (.slcs (.t 14) none (some (.t 15))), xo 17 (.callv (.t 13) [(.t 16)]), xo 18 (.not (.t 17))])
 (.cond (.t 18)
 .ret
 .skip))
 (.reg [xo 19 (.load false 1 (.t 1)), xo 20 (.mov (.t 4)), xo 21 (.bini .add (.t 20) (.c (.int .i64 (1)))), xo 22 (.slcs (.t 19) (some (.t 21)) none), xn (.store 1 (.t 1) (.t 22))])))))))⟩
theorem t_names_parts_1 : trFn Tryz.prog 146 [] [[]] = some f_names_parts_1 := by kernel_rfl

abbrev n_strings_IndexByte : Nat := 147
def f_strings_IndexByte : FnI := ⟨8, [.tmp 4],
 (.seq (.reg [xo 4 (.mov (.c (.int .i64 (0))))])
 (.seq (.reg [xo 5 (.mov (.t 0)), xo 6 (.mov (.t 1)), xo 7 (.call 150 [(.t 5), (.t 6)]), xo 4 (.mov (.t 7))])
 .ret))⟩
theorem t_strings_IndexByte : trFn Tryz.prog 147 [] [] = some f_strings_IndexByte := by kernel_rfl

abbrev n_stringslite_IndexByte : Nat := 150
end Go.Proofs.YtkkhdnddplkobaaGreat

