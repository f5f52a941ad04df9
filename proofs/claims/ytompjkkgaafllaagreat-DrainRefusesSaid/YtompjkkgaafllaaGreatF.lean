/- The functions, as the evaluator reads them: each is what the given program's code says (checked by the kernel). -/
import Derived.Test.YtompjkkgaafllaaGreatSxB
import Derived.Test.YtompjkkgaafllaaGreatRows
set_option linter.unusedVariables false
set_option linter.unusedSimpArgs false
namespace Go.Proofs.YtompjkkgaafllaaGreat
open Go.Proofs.YtompjkkgaafllaaGreat.Sx
abbrev zl0:List SV:=[(.v (.int .i64 (0))),(.v (.string ⟨#[]⟩)),(.v (.string ⟨#[]⟩)),(.v (.string ⟨#[]⟩)),(.v (.int .i64 (0))),(.v (.int .i64 (0))),(.v (.int .i64 (0))),(.v (.slice none 0 0)),(.v (.slice none 0 0)),(.v (.slice none 0 0)),(.v (.int .i64 (0))),(.v (.int .i64 (0))),(.v (.int .i64 (0))),(.v (.int .i64 (0))),(.v (.int .i64 (0))),(.v (.int .i64 (0))),(.v (.int .i64 (0))),(.v (.int .i64 (0))),(.v (.int .i64 (0))),(.v (.int .u64 (0))),(.v (.int .i64 (0))),(.v (.int .i64 (0))),(.v (.int .i64 (0))),(.v (.int .i64 (0))),(.v (.bool false)),(.v (.int .i64 (0))),(.v (.int .i64 (0))),(.v (.int .i64 (0))),(.v (.int .i64 (0))),(.v (.int .i64 (0))),(.v (.int .i64 (0))),(.v (.int .i64 (0))),(.v (.int .u64 (0))),(.v (.int .u64 (0))),(.v (.int .u64 (0))),(.v (.int .u64 (0))),(.v (.int .u64 (0))),(.v (.int .u64 (0))),(.v (.int .u64 (0))),(.v (.int .u64 (0))),(.v (.int .u64 (0))),(.v (.int .u64 (0))),(.v (.int .u64 (0))),(.v (.int .u64 (0)))]
abbrev zl1:List SV:=[(.v (.int .i64 (0))),(.v (.int .i64 (0))),(.v (.int .i64 (0))),(.v (.int .i64 (0))),(.v (.int .i64 (0))),(.v (.bool false)),(.v (.int .i64 (0))),(.v (.bool false)),(.v (.bool false)),(.v (.bool false)),(.v (.int .i64 (0))),(.v (.int .i64 (0))),(.v (.int .i64 (0))),(.v (.int .i64 (0))),(.v (.int .i64 (0))),(.v (.int .i64 (0))),(.v (.int .i64 (0))),(.v (.int .u64 (0))),(.v (.int .u64 (0))),(.v (.int .u64 (0))),(.v (.int .u64 (0))),(.v (.int .u64 (0))),(.v (.int .u64 (0)))]
abbrev zl2:List SV:=[(.v (.int .i64 (0))),(.v (.int .i64 (0))),(.v (.int .i64 (0))),(.v (.int .i64 (0))),(.v (.int .i64 (0))),(.v (.int .i64 (0))),(.v (.int .i64 (0))),(.v (.int .u64 (0))),(.v (.int .u64 (0))),(.v (.int .u64 (0))),(.v (.int .u64 (0))),(.v (.int .u64 (0))),(.v (.int .u64 (0)))]
abbrev quA:Nat:=3
abbrev qQI:Nat:=4
abbrev qWC:Nat:=9
abbrev qmD:Nat:=22
abbrev qUE:Nat:=23
abbrev qQF:Nat:=24
abbrev qvG:Nat:=25
abbrev qVE:Nat:=26
abbrev qHA:Nat:=28
abbrev qrI:Nat:=29
abbrev qNJ:Nat:=30
abbrev qWE:Nat:=31
abbrev qaD:Nat:=33
abbrev qlM:Nat:=35
abbrev qTE:Nat:=36
abbrev qVK:Nat:=41
abbrev qUK:Nat:=52
abbrev qoA:Nat:=54
abbrev qjF:Nat:=55
abbrev qEA:Nat:=57
abbrev qYH:Nat:=59
abbrev qcA:Nat:=61
abbrev qXA:Nat:=63
abbrev qtA:Nat:=65
abbrev qmM:Nat:=82
abbrev q3B:Nat:=89
abbrev qZB:Nat:=92
abbrev qkP:Nat:=94
abbrev qkA:Nat:=96
abbrev qOJ:Nat:=98
abbrev qVC:Nat:=102
abbrev qAE:Nat:=182
abbrev mv (n:Nat):SOp:=.mov (.t n)
abbrev lf (n:Nat):SOp:=.load false 1 (.t n)
abbrev lt (s n:Nat):SOp:=.load true s (.t n)
abbrev fa (k n:Nat):SOp:=.fadr k (.t n)
abbrev nk (n:Nat):SOp:=.nck (.t n)
abbrev ci (n:Int):Opd:=.c (.int .i64 n)
abbrev vi (n:Int):SV:=.v (.int .i64 n)
abbrev of (i:Nat) (o:SOper) (r:OT):OT:=.op ⟨i,false,[],o⟩ r
abbrev ot (i:Nat) (o:SOper) (r:OT):OT:=.op ⟨i,true,[],o⟩ r
abbrev mo (d n:Nat):SOper:=xo d (mv n)
abbrev lo (d n:Nat):SOper:=xo d (lf n)
abbrev fo (d k n:Nat):SOper:=xo d (fa k n)
abbrev sq (a b:SCode):SCode:=.seq a b
abbrev rg (l:List SOper):SCode:=.reg l
abbrev rd (l:List Nat) (t:OT):SCode:=.regD l t
abbrev bi (o:BinOp) (a b:Nat):SOp:=.bini o (.t a) (.t b)
abbrev bc (o:BinOp) (a:Nat) (n:Int):SOp:=.bini o (.t a) (ci n)
abbrev cD (a:Nat) (x y:SCode):SCode:=.cond (.t a) x y
abbrev ia (k a b:Nat):SOp:=.iadr k (.t a) (.t b)
abbrev st (k a b:Nat):SOp:=.store k (.t a) (.t b)
abbrev fs (l:List Nat) (r:OI):OI:=l.foldr .first r
abbrev qrD:Nat:=3
def quD:FnI:=⟨111,[.tmp 6],
 (sq (rg [xo 3 (.box 28 (.t 0)),xo 5 (.box 35 (.t 2)),xo 6 (.mov (.b false))])
 (sq (rg [xo 15 (lt 10 5),mo 16 1,xo 17 (.build zl0 [(0,10,(.t 15)),(10,1,(.t 16))]),xo 7 (.alloc 41 zl0),xn (st 44 7 17)])
 (sq (sq (rg [xo 18 (lt 8 3),xo 19 (.call 4 [(.t 18)]),mo 20 19,xg 21 (lt 8 3) 20 false,xg 22 (.call 5 [(.t 21)]) 20 false,xg 23 (.not (.t 22)) 20 false,xo 24 (.pick (.t 20) (.b true) (.t 23)),mo 25 24,xg 26 (fa 2 5) 25 false,xg 27 (lf 26) 25 false,xg 28 (.len true (.t 27)) 25 false,xg 29 (bc .gtr 28 100) 25 false,xo 30 (.pick (.t 25) (.b true) (.t 29)),mo 31 30,xg 32 (fa 3 5) 31 false,xg 33 (lf 32) 31 false,xg 34 (.len true (.t 33)) 31 false,xg 35 (bc .gtr 34 100) 31 false,xo 36 (.pick (.t 31) (.b true) (.t 35)),mo 37 36,xg 38 (lt 8 3) 37 false,xg 39 (lt 44 7) 37 false,xg 40 (.call 6 [(.t 38),(.t 39)]) 37 false,xg 41 (.not (.t 40)) 37 false,xo 42 (.pick (.t 37) (.b true) (.t 41))])
 (cD 42
 (sq (rg [xo 43 (.call 7 []),mo 6 43])
 .ret)
 .skip))
 (sq (rg [xo 45 (lt 8 3),xo 46 (lt 44 7),xo 47 (.call 8 [(.t 45),(.t 46)]),mo 44 47,xo 48 (.ext 0 (.t 44)),xo 49 (.ext 1 (.t 44)),xo 50 (.ext 2 (.t 44)),xo 8 (.alloc 28 [(vi 0),(vi 0),(vi 0),(.v (.slice none 0 0)),(.v (.slice none 0 0)),(.v (.slice none 0 0)),(.v (.slice none 0 0)),(.v (.slice none 0 0))]),xo 9 (.alloc 41 zl0),xo 10 (.alloc 46 zl1),xn (st 8 8 48),xn (st 44 9 49),xn (st 23 10 50)])
 (sq (sq (rg [xo 11 (.mov (ci 0))])
 (.block 0
 (.loop [11] [51,52,53,54,55,56,57,61,62,63,60,64,65,66,12,13,14,67,68,58,59,11]
 (sq (sq (rg [mo 51 11,xo 52 (bc .lss 51 40),mo 53 52,xg 54 (fa 24 7) 53 true,xg 55 (lf 54) 53 true,xg 56 (.not (.t 55)) 53 true,xo 57 (.pick (.t 53) (.t 56) (.b false))])
 (cD 57
 .skip
 (.exit 0)))
 (sq (.block 1
 (sq (rg [xo 61 (lt 8 8),xo 62 (lt 44 7),xo 63 (.call 9 [(.t 61),(.t 62)]),mo 60 63,xo 64 (.ext 0 (.t 60)),xo 65 (.ext 1 (.t 60)),xo 66 (.ext 2 (.t 60)),xo 12 (.alloc 28 [(vi 0),(vi 0),(vi 0),(.v (.slice none 0 0)),(.v (.slice none 0 0)),(.v (.slice none 0 0)),(.v (.slice none 0 0)),(.v (.slice none 0 0))]),xo 13 (.alloc 41 zl0),xo 14 (.alloc 46 zl1),xn (st 8 12 64),xn (st 44 13 65),xn (st 23 14 66)])
 (sq (rg [xo 67 (lt 8 12),xn (st 8 8 67)])
 (rg [xo 68 (lt 44 13),xn (st 44 7 68)]))))
 (rg [mo 58 11,xo 59 (bc .add 58 1),mo 11 59]))))))
 (sq (sq (rg [fo 69 25 9,fo 70 0 69,lo 71 70,xo 72 (bc .eql 71 7)])
 (cD 72
 (sq (rd [] (of 0 (xo 73 (.call 7 []))
 (of 1 (mo 74 73)
 (of 2 (xg 75 (fa 25 7) 74 true)
 (of 3 (xg 76 (fa 0 75) 74 true)
 (ot 4 (xg 77 (lf 76) 74 true)
 (of 5 (xg 78 (bc .eql 77 2) 74 true)
 (of 6 (xo 79 (.pick (.t 74) (.t 78) (.b false)))
 (of 7 (mo 80 79)
 (ot 8 (xg 81 (lt 8 8) 80 true)
 (ot 10 (xg 83 (lt 8 3) 80 true)
 (of 9 (xg 82 (.call 10 [(.t 81)]) 80 true)
 (of 11 (xg 84 (.call 10 [(.t 83)]) 80 true)
 (of 12 (xg 85 (bi .eql 82 84) 80 true)
 (of 13 (xo 86 (.pick (.t 80) (.t 85) (.b false)))
 (of 14 (mo 6 86)
 .nil))))))))))))))))
 .ret)
 .skip))
 (sq (rd [] (of 0 (xo 87 (.call 7 []))
 (of 1 (mo 88 87)
 (of 2 (xg 89 (fa 25 9) 88 true)
 (of 3 (xg 90 (fa 0 89) 88 true)
 (ot 4 (xg 91 (lf 90) 88 true)
 (of 5 (xg 92 (bc .eql 91 10) 88 true)
 (of 6 (xo 93 (.pick (.t 88) (.t 92) (.b false)))
 (of 7 (mo 94 93)
 (of 8 (xg 95 (fa 25 7) 94 true)
 (of 9 (xg 96 (fa 0 95) 94 true)
 (ot 10 (xg 97 (lf 96) 94 true)
 (of 11 (xg 98 (bc .eql 97 5) 94 true)
 (of 12 (xo 99 (.pick (.t 94) (.t 98) (.b false)))
 (of 13 (mo 100 99)
 (ot 14 (xg 101 (lt 8 8) 100 true)
 (ot 16 (xg 103 (lt 8 3) 100 true)
 (of 15 (xg 102 (.call 10 [(.t 101)]) 100 true)
 (of 17 (xg 104 (.call 10 [(.t 103)]) 100 true)
 (of 18 (xg 105 (bi .eql 102 104) 100 true)
 (of 19 (xo 106 (.pick (.t 100) (.t 105) (.b false)))
 (of 20 (mo 107 106)
 (ot 21 (xg 108 (lt 8 8) 107 true)
 (of 22 (xg 109 (.call 11 [(.t 108)]) 107 true)
 (of 23 (xo 110 (.pick (.t 107) (.t 109) (.b false)))
 (of 24 (mo 6 110)
 .nil))))))))))))))))))))))))))
 .ret)))))))⟩
theorem qnD:trFn Tryz.prog 3 [([],(.exec 0 (fs [1,2,3,4,5,6,7,8,10] (.exec 9 (.exec 11 (fs [12,13,14] .nil)))))),([],(.exec 0 (fs [1,2,3,4,5,6,7,8,9,10,11,12,13,14,16] (.exec 15 (.exec 17 (fs [18,19,20,21] (.exec 22 (.first 23 (.first 24 .nil)))))))))] [[11]]=some quD:=by kernel_rfl
abbrev quH:Nat:=4
def qEI:FnI:=⟨69,[.tmp 2],
 (sq (rg [xo 1 (.box 28 (.t 0)),xo 2 (.mov (.b false))])
 (sq (sq (rg [fo 6 3 1,lo 7 6,xo 8 (.len false (.t 7)),xo 9 (bc .gtr 8 20),mo 10 9,xg 11 (fa 4 1) 10 false,xg 12 (lf 11) 10 false,xg 13 (.len false (.t 12)) 10 false,xg 14 (bc .gtr 13 40) 10 false,xo 15 (.pick (.t 10) (.b true) (.t 14)),mo 16 15,xg 17 (fa 5 1) 16 false,xg 18 (lf 17) 16 false,xg 19 (.len false (.t 18)) 16 false,xg 20 (bc .gtr 19 40) 16 false,xo 21 (.pick (.t 16) (.b true) (.t 20)),mo 22 21,xg 23 (fa 6 1) 22 false,xg 24 (lf 23) 22 false,xg 25 (.call 12 [(.t 24)]) 22 false,xo 26 (.pick (.t 22) (.b true) (.t 25)),mo 27 26,xg 28 (fa 7 1) 27 false,xg 29 (lf 28) 27 false,xg 30 (.len false (.t 29)) 27 false,xg 31 (bc .gtr 30 60) 27 false,xo 32 (.pick (.t 27) (.b true) (.t 31))])
 (cD 32
 (sq (rg [xo 2 (.mov (.b true))])
 .ret)
 .skip))
 (sq (sq (rg [xo 3 (.mov (ci 0))])
 (.block 0
 (.loop [3] [33,34,35,36,37,40,41,42,43,44,4,45,46,47,48,49,50,51,52,53,2,5,54,55,56,57,58,61,62,63,64,65,66,67,68,59,60,38,39,3]
 (sq (sq (rg [mo 33 3,fo 34 4 1,lo 35 34,xo 36 (.len false (.t 35)),xo 37 (bi .lss 33 36)])
 (cD 37
 .skip
 (.exit 0)))
 (sq (.block 1
 (sq (rg [fo 40 4 1,lo 41 40,mo 42 3,xo 43 (ia 5 41 42),xo 44 (lt 5 43),xo 4 (.alloc 57 [(.v (.slice none 0 0)),(.v (.slice none 0 0)),(.v (.slice none 0 0)),(.v (.slice none 0 0)),(.v (.bool false))]),xn (st 5 4 44)])
 (sq (sq (rg [fo 45 0 4,xo 46 (lt 3 45),xo 47 (.call 13 [(.t 46)]),mo 48 47,xg 49 (fa 3 4) 48 false,xg 50 (lf 49) 48 false,xg 51 (.len false (.t 50)) 48 false,xg 52 (bc .gtr 51 20) 48 false,xo 53 (.pick (.t 48) (.b true) (.t 52))])
 (cD 53
 (sq (rg [xo 2 (.mov (.b true))])
 .ret)
 .skip))
 (sq (rg [xo 5 (.mov (ci 0))])
 (.block 2
 (.loop [5] [54,55,56,57,58,61,62,63,64,65,66,67,68,2,59,60,5]
 (sq (sq (rg [mo 54 5,fo 55 3 4,lo 56 55,xo 57 (.len false (.t 56)),xo 58 (bi .lss 54 57)])
 (cD 58
 .skip
 (.exit 2)))
 (sq (.block 3
 (sq (rg [fo 61 3 4,lo 62 61,mo 63 5,xo 64 (ia 2 62 63),fo 65 1 64,lo 66 65,xo 67 (.len false (.t 66)),xo 68 (bc .gtr 67 20)])
 (cD 68
 (sq (rg [xo 2 (.mov (.b true))])
 .ret)
 .skip)))
 (rg [mo 59 5,xo 60 (bc .add 59 1),mo 5 60])))))))))
 (rg [mo 38 3,xo 39 (bc .add 38 1),mo 3 39]))))))
 (sq (rg [xo 2 (.mov (.b false))])
 .ret))))⟩
theorem qaH:trFn Tryz.prog 4 [] [[3],[5]]=some qEI:=by kernel_rfl
abbrev qLH:Nat:=5
def qVH:FnI:=⟨72,[.tmp 2],
 (sq (rg [xo 1 (.box 28 (.t 0)),xo 2 (.mov (.b false))])
 (sq (sq (rg [fo 7 0 1,lo 8 7,xo 9 (bc .gtr 8 1000000)])
 (cD 9
 (sq (rg [xo 2 (.mov (.b false))])
 .ret)
 .skip))
 (sq (sq (rg [xo 3 (.mov (ci 0))])
 (.block 0
 (.loop [3] [10,11,12,13,14,17,18,19,20,21,22,23,2,15,16,3]
 (sq (sq (rg [mo 10 3,fo 11 5 1,lo 12 11,xo 13 (.len false (.t 12)),xo 14 (bi .lss 10 13)])
 (cD 14
 .skip
 (.exit 0)))
 (sq (.block 1
 (sq (rg [fo 17 5 1,lo 18 17,mo 19 3,xo 20 (ia 4 18 19),fo 21 2 20,lo 22 21,xo 23 (bc .gtr 22 1000000)])
 (cD 23
 (sq (rg [xo 2 (.mov (.b false))])
 .ret)
 .skip)))
 (rg [mo 15 3,xo 16 (bc .add 15 1),mo 3 16]))))))
 (sq (sq (rg [xo 4 (.mov (ci 0))])
 (.block 2
 (.loop [4] [24,25,26,27,28,5,31,32,33,34,35,36,37,38,39,6,42,43,44,45,46,47,48,49,50,51,52,53,54,57,58,59,60,61,62,63,64,65,66,67,68,69,70,71,2,55,56,40,41,29,30,4]
 (sq (sq (rg [mo 24 4,fo 25 4 1,lo 26 25,xo 27 (.len false (.t 26)),xo 28 (bi .lss 24 27)])
 (cD 28
 .skip
 (.exit 2)))
 (sq (.block 3
 (sq (rg [xo 5 (.mov (ci 0))])
 (.block 4
 (.loop [5] [31,32,33,34,35,36,37,38,39,6,42,43,44,45,46,47,48,49,50,51,52,53,54,57,58,59,60,61,62,63,64,65,66,67,68,69,70,71,2,55,56,40,41,5]
 (sq (sq (rg [mo 31 5,fo 32 4 1,lo 33 32,mo 34 4,xo 35 (ia 5 33 34),fo 36 3 35,lo 37 36,xo 38 (.len false (.t 37)),xo 39 (bi .lss 31 38)])
 (cD 39
 .skip
 (.exit 4)))
 (sq (.block 5
 (sq (rg [xo 6 (.mov (ci 0))])
 (.block 6
 (.loop [6] [42,43,44,45,46,47,48,49,50,51,52,53,54,57,58,59,60,61,62,63,64,65,66,67,68,69,70,71,2,55,56,6]
 (sq (sq (rg [mo 42 6,fo 43 4 1,lo 44 43,mo 45 4,xo 46 (ia 5 44 45),fo 47 3 46,lo 48 47,mo 49 5,xo 50 (ia 2 48 49),fo 51 1 50,lo 52 51,xo 53 (.len false (.t 52)),xo 54 (bi .lss 42 53)])
 (cD 54
 .skip
 (.exit 6)))
 (sq (.block 7
 (sq (rg [fo 57 4 1,lo 58 57,mo 59 4,xo 60 (ia 5 58 59),fo 61 3 60,lo 62 61,mo 63 5,xo 64 (ia 2 62 63),fo 65 1 64,lo 66 65,mo 67 6,xo 68 (ia 3 66 67),fo 69 2 68,lo 70 69,xo 71 (bc .gtr 70 1000000)])
 (cD 71
 (sq (rg [xo 2 (.mov (.b false))])
 .ret)
 .skip)))
 (rg [mo 55 6,xo 56 (bc .add 55 1),mo 6 56])))))))
 (rg [mo 40 5,xo 41 (bc .add 40 1),mo 5 41])))))))
 (rg [mo 29 4,xo 30 (bc .add 29 1),mo 4 30]))))))
 (sq (rg [xo 2 (.mov (.b true))])
 .ret)))))⟩
theorem qBH:trFn Tryz.prog 5 [] [[3],[4],[5],[6]]=some qVH:=by kernel_rfl
abbrev qoO:Nat:=6
def q5O:FnI:=⟨96,[.tmp 4],
 (sq (rg [xo 2 (.box 28 (.t 0)),xo 3 (.box 41 (.t 1)),xo 4 (.mov (.b false))])
 (sq (sq (rg [xo 7 (lt 8 2),xo 8 (.call 11 [(.t 7)]),xo 9 (.not (.t 8)),mo 10 9,xg 11 (fa 10 3) 10 false,xg 12 (lf 11) 10 false,xg 13 (fa 3 2) 10 false,xg 14 (lf 13) 10 false,xg 15 (.len false (.t 14)) 10 false,xg 16 (.call 14 [(.t 12),(.t 15)]) 10 false,xg 17 (.not (.t 16)) 10 false,xo 18 (.pick (.t 10) (.b true) (.t 17)),mo 19 18,xg 20 (fa 24 3) 19 false,xg 21 (lf 20) 19 false,xo 22 (.pick (.t 19) (.b true) (.t 21)),mo 23 22,xg 24 (fa 13 3) 23 false,xg 25 (lf 24) 23 false,xg 26 (fa 4 2) 23 false,xg 27 (lf 26) 23 false,xg 28 (.len false (.t 27)) 23 false,xg 29 (.call 14 [(.t 25),(.t 28)]) 23 false,xg 30 (.not (.t 29)) 23 false,xo 31 (.pick (.t 23) (.b true) (.t 30))])
 (cD 31
 (sq (rg [xo 4 (.mov (.b false))])
 .ret)
 .skip))
 (sq (rg [fo 32 4 2,lo 33 32,fo 34 13 3,lo 35 34,xo 36 (ia 5 33 35),fo 37 3 36,lo 38 37,mo 5 38])
 (sq (sq (rg [fo 39 15 3,lo 40 39,mo 41 5,xo 42 (.len false (.t 41)),xo 43 (.call 14 [(.t 40),(.t 42)]),xo 44 (.not (.t 43))])
 (cD 44
 (sq (rg [xo 4 (.mov (.b false))])
 .ret)
 .skip))
 (sq (rg [mo 45 5,fo 46 15 3,lo 47 46,xo 48 (ia 2 45 47),fo 49 1 48,lo 50 49,mo 6 50])
 (sq (sq (rd [] (of 0 (fo 51 16 3)
 (ot 1 (lo 52 51)
 (of 2 (mo 53 6)
 (of 3 (xo 54 (.len false (.t 53)))
 (of 4 (xo 55 (.call 14 [(.t 52),(.t 54)]))
 (of 5 (xo 56 (.not (.t 55)))
 (of 6 (mo 57 56)
 (of 7 (xg 58 (fa 17 3) 57 false)
 (ot 8 (xg 59 (lf 58) 57 false)
 (of 9 (xg 60 (mv 6) 57 false)
 (of 10 (xg 61 (.len false (.t 60)) 57 false)
 (of 11 (xg 62 (.call 14 [(.t 59),(.t 61)]) 57 false)
 (of 12 (xg 63 (.not (.t 62)) 57 false)
 (of 13 (xo 64 (.pick (.t 57) (.b true) (.t 63)))
 (of 14 (mo 65 64)
 (of 15 (xg 66 (fa 18 3) 65 false)
 (ot 16 (xg 67 (lf 66) 65 false)
 (of 17 (xg 68 (mv 6) 65 false)
 (of 18 (xg 69 (fa 16 3) 65 false)
 (ot 19 (xg 70 (lf 69) 65 false)
 (ot 20 (xg 71 (ia 3 68 70) 65 false)
 (of 21 (xg 72 (fa 1 71) 65 false)
 (ot 22 (xg 73 (lf 72) 65 false)
 (of 23 (xg 74 (.len false (.t 73)) 65 false)
 (of 24 (xg 75 (.call 14 [(.t 67),(.t 74)]) 65 false)
 (of 25 (xg 76 (.not (.t 75)) 65 false)
 (of 26 (xo 77 (.pick (.t 65) (.b true) (.t 76)))
 .nil))))))))))))))))))))))))))))
 (cD 77
 (sq (rg [xo 4 (.mov (.b false))])
 .ret)
 .skip))
 (sq (rg [fo 78 14 3,lo 79 78,xo 80 (bc .add 79 1),fo 81 5 2,lo 82 81,xo 83 (.len false (.t 82)),xo 84 (bc .add 83 1),xo 85 (.call 14 [(.t 80),(.t 84)]),mo 86 85,xg 87 (fa 21 3) 86 true,xg 88 (lf 87) 86 true,xg 89 (bc .geq 88 0) 86 true,xo 90 (.pick (.t 86) (.t 89) (.b false)),mo 91 90,xg 92 (fa 22 3) 91 true,xg 93 (lf 92) 91 true,xg 94 (bc .geq 93 0) 91 true,xo 95 (.pick (.t 91) (.t 94) (.b false)),mo 4 95])
 .ret)))))))⟩
theorem qHO:trFn Tryz.prog 6 [([],(fs [0,1,2,3] (.exec 4 (fs [5,6,7,8,9,10] (.exec 11 (fs [12,13,14,15,16,17,18,19,20,21,22,23] (.exec 24 (.first 25 (.first 26 .nil)))))))))] []=some q5O:=by kernel_rfl
abbrev qbF:Nat:=7
def qfF:FnI:=⟨52,[.tmp 0],
 (sq (rg [xo 0 (.mov (.b false))])
 (sq (rg [xo 8 (.call 15 []),xo 9 (.build [(vi 0),(.v (.string ⟨#[]⟩)),(.v (.string ⟨#[]⟩)),(.v (.string ⟨#[]⟩)),(vi 0),(vi 0),(vi 0),(.v (.slice none 0 0)),(.v (.slice none 0 0)),(.v (.slice none 0 0))] [(0,1,(ci 4)),(1,1,(.c (.string ⟨#[105,110]⟩)))]),xo 10 (.build zl0 [(0,10,(.t 9))]),xo 11 (.call 8 [(.t 8),(.t 10)]),mo 7 11,xo 12 (.ext 0 (.t 7)),xo 13 (.ext 1 (.t 7)),xo 14 (.ext 2 (.t 7)),xo 1 (.alloc 28 [(vi 0),(vi 0),(vi 0),(.v (.slice none 0 0)),(.v (.slice none 0 0)),(.v (.slice none 0 0)),(.v (.slice none 0 0)),(.v (.slice none 0 0))]),xo 2 (.alloc 41 zl0),xo 3 (.alloc 46 zl1),xn (st 8 1 12),xn (st 44 2 13),xn (st 23 3 14)])
 (sq (rg [xo 16 (.call 15 []),xo 17 (.build [(vi 0),(.v (.string ⟨#[]⟩)),(.v (.string ⟨#[]⟩)),(.v (.string ⟨#[]⟩)),(vi 0),(vi 0),(vi 0),(.v (.slice none 0 0)),(.v (.slice none 0 0)),(.v (.slice none 0 0))] [(0,1,(ci 4)),(1,1,(.c (.string ⟨#[110,111]⟩)))]),xo 18 (.build zl0 [(0,10,(.t 17))]),xo 19 (.call 8 [(.t 16),(.t 18)]),mo 15 19,xo 20 (.ext 0 (.t 15)),xo 21 (.ext 1 (.t 15)),xo 22 (.ext 2 (.t 15)),xo 4 (.alloc 28 [(vi 0),(vi 0),(vi 0),(.v (.slice none 0 0)),(.v (.slice none 0 0)),(.v (.slice none 0 0)),(.v (.slice none 0 0)),(.v (.slice none 0 0))]),xo 5 (.alloc 41 zl0),xo 6 (.alloc 46 zl1),xn (st 8 4 20),xn (st 44 5 21),xn (st 23 6 22)])
 (sq (sq (rg [fo 23 5 1,lo 24 23,xo 25 (.len false (.t 24)),xo 26 (bc .neq 25 1)])
 (cD 26
 (sq (rg [xo 0 (.mov (.b false))])
 .ret)
 .skip))
 (sq (rg [fo 27 5 1,lo 28 27,xo 29 (.iadr 4 (.t 28) (ci 0)),fo 30 1 29,lo 31 30,mo 32 31,xg 33 (fa 24 2) 32 true,xg 34 (lf 33) 32 true,xo 35 (.pick (.t 32) (.t 34) (.b false)),mo 36 35,xg 37 (lt 23 3) 36 true,xg 38 (.build zl2 [(0,1,(ci 10))]) 36 true,xg 39 (.build zl1 [(2,1,(ci 2)),(3,1,(ci 4)),(4,1,(ci (-1))),(6,1,(ci 1)),(8,1,(.b true)),(9,1,(.b true)),(10,13,(.t 38))]) 36 true,xg 40 (.binst false [0,0,0,0,0,2,0,2,2,2,0,0,0,0,0,0,0,0,0,0,0,0,0] (.t 37) (.t 39)) 36 true,xo 41 (.pick (.t 36) (.t 40) (.b false)),mo 42 41,xg 43 (fa 24 5) 42 true,xg 44 (lf 43) 42 true,xo 45 (.pick (.t 42) (.t 44) (.b false)),mo 46 45,xg 47 (lt 23 6) 46 true,xg 48 (.build zl2 [(0,1,(ci 7))]) 46 true,xg 49 (.build zl1 [(2,1,(ci 1)),(4,1,(ci (-1))),(9,1,(.b true)),(10,13,(.t 48))]) 46 true,xg 50 (.binst false [0,0,0,0,0,2,0,2,2,2,0,0,0,0,0,0,0,0,0,0,0,0,0] (.t 47) (.t 49)) 46 true,xo 51 (.pick (.t 46) (.t 50) (.b false)),mo 0 51])
 .ret)))))⟩
theorem qWF:trFn Tryz.prog 7 [] []=some qfF:=by kernel_rfl
abbrev qQN:Nat:=8
def qqN:FnI:=⟨88,[.cell 4 8 true,.cell 5 44 true,.cell 6 23 true],
 (sq (rg [xo 2 (.box 28 (.t 0)),xo 3 (.box 41 (.t 1)),xo 4 (.alloc 28 [(vi 0),(vi 0),(vi 0),(.v (.slice none 0 0)),(.v (.slice none 0 0)),(.v (.slice none 0 0)),(.v (.slice none 0 0)),(.v (.slice none 0 0))]),xo 5 (.alloc 41 zl0),xo 6 (.alloc 46 zl1)])
 (sq (sq (rg [fo 9 11 3,lo 10 9,xo 11 (bc .neq 10 0),mo 12 11,xg 13 (lt 8 2) 12 false,xg 14 (lt 44 3) 12 false,xg 15 (.call 6 [(.t 13),(.t 14)]) 12 false,xg 16 (.not (.t 15)) 12 false,xo 17 (.pick (.t 12) (.b true) (.t 16))])
 (cD 17
 (sq (rd [] (ot 0 (xo 18 (lt 8 2))
 (of 2 (xo 20 (.build zl1 []))
 (ot 1 (xo 19 (lt 44 3))
 (.op ⟨3,false,[1],xn (st 8 4 18)⟩
 (of 4 (xn (st 44 5 19))
 (of 5 (xn (st 23 6 20))
 .nil)))))))
 .ret)
 .skip))
 (sq (rg [xo 21 (lt 8 2),xo 22 (.call 16 [(.t 21)]),xn (st 8 2 22)])
 (sq (rg [fo 23 10 3,lo 24 23,xo 25 (.build zl1 [(0,1,(.t 24)),(2,1,(ci 1)),(4,1,(ci (-1)))]),xo 26 (.build [(.v (.pointer none)),(vi 0),(vi 0),(vi 0),(vi 0),(vi 0),(.v (.bool false)),(vi 0),(.v (.bool false)),(.v (.bool false)),(.v (.bool false)),(vi 0),(vi 0),(vi 0),(vi 0),(vi 0),(vi 0),(vi 0),(.v (.int .u64 (0))),(.v (.int .u64 (0))),(.v (.int .u64 (0))),(.v (.int .u64 (0))),(.v (.int .u64 (0))),(.v (.int .u64 (0)))] [(0,1,(.t 3)),(1,23,(.t 25))]),xo 27 (.box 72 (.t 26)),mo 7 27])
 (sq (rg [fo 28 5 2,lo 29 28,fo 30 0 3,fo 31 1 30,lo 32 31,xo 33 (.call 17 [(.t 29),(.t 32)]),mo 8 33])
 (sq (sq (rg [mo 34 8,xo 35 (bc .lss 34 0)])
 (cD 35
 (sq (rg [mo 36 7,xo 37 (.build zl2 [(0,1,(ci 7))]),xo 38 (.call 18 [(.t 36),(.t 37)])])
 (sq (rd [] (ot 0 (xo 39 (lt 8 2))
 (of 2 (mo 41 7)
 (of 3 (xo 42 (nk 41))
 (of 4 (fo 43 1 42)
 (ot 1 (xo 40 (lt 44 3))
 (ot 5 (xo 44 (lt 23 43))
 (.op ⟨6,false,[5,1],xn (st 8 4 39)⟩
 (.op ⟨7,false,[5],xn (st 44 5 40)⟩
 (of 8 (xn (st 23 6 44))
 .nil))))))))))
 .ret))
 .skip))
 (sq (rd [] (of 0 (fo 45 5 2)
 (ot 1 (lo 46 45)
 (of 2 (mo 47 8)
 (of 3 (fo 48 5 2)
 (ot 4 (lo 49 48)
 (of 5 (mo 50 8)
 (ot 6 (xo 51 (ia 4 49 50))
 (ot 7 (xo 52 (lt 4 51))
 (of 8 (xo 53 (.call 19 [(.t 52)]))
 (ot 9 (xo 54 (ia 4 46 47))
 (of 10 (xn (st 4 54 53))
 .nil))))))))))))
 (sq (rg [mo 55 7,xo 56 (nk 55),fo 57 0 56,lo 58 57,mo 59 8,xo 60 (nk 58),fo 61 14 60,xn (st 1 61 59)])
 (sq (rg [mo 62 7,mo 63 7,mo 64 7,mo 65 7,xo 66 (nk 62),fo 67 1 66,fo 68 2 67,xn (.store 1 (.t 68) (ci 2)),xo 69 (nk 63),fo 70 1 69,fo 71 3 70,xn (.store 1 (.t 71) (ci 4)),xo 72 (nk 64),fo 73 1 72,fo 74 6 73,xn (.store 1 (.t 74) (ci 1)),xo 75 (nk 65),fo 76 1 75,fo 77 8 76,xn (.store 1 (.t 77) (.b true))])
 (sq (rg [mo 78 7,mo 79 8,xo 80 (.build zl2 [(0,1,(ci 10)),(5,1,(.t 79))]),xo 81 (.call 18 [(.t 78),(.t 80)])])
 (sq (rd [] (ot 0 (xo 82 (lt 8 2))
 (of 2 (mo 84 7)
 (of 3 (xo 85 (nk 84))
 (of 4 (fo 86 1 85)
 (ot 1 (xo 83 (lt 44 3))
 (ot 5 (xo 87 (lt 23 86))
 (.op ⟨6,false,[5,1],xn (st 8 4 82)⟩
 (.op ⟨7,false,[5],xn (st 44 5 83)⟩
 (of 8 (xn (st 23 6 87))
 .nil))))))))))
 .ret)))))))))))⟩
theorem qwM:trFn Tryz.prog 8 [([],(fs [0,2,1] (.exec 3 (.exec 4 (.exec 5 .nil))))),([],(fs [0,2,3,4,1,5] (.exec 6 (.exec 7 (.exec 8 .nil))))),([],(fs [0,1,2,3,4,5,6,7] (.exec 8 (.first 9 (.exec 10 .nil))))),([],(fs [0,2,3,4,1,5] (.exec 6 (.exec 7 (.exec 8 .nil)))))] []=some qqN:=by kernel_rfl
abbrev qIA:Nat:=9
def qZM:FnI:=⟨80,[.cell 4 8 true,.cell 5 44 true,.cell 6 23 true],
 (sq (rg [xo 2 (.box 28 (.t 0)),xo 3 (.box 41 (.t 1)),xo 4 (.alloc 28 [(vi 0),(vi 0),(vi 0),(.v (.slice none 0 0)),(.v (.slice none 0 0)),(.v (.slice none 0 0)),(.v (.slice none 0 0)),(.v (.slice none 0 0))]),xo 5 (.alloc 41 zl0),xo 6 (.alloc 46 zl1)])
 (sq (sq (rg [fo 11 11 3,lo 12 11,xo 13 (bc .geq 12 0),mo 14 13,xg 15 (fa 11 3) 14 true,xg 16 (lf 15) 14 true,xg 17 (bc .lss 16 3) 14 true,xo 18 (.pick (.t 14) (.t 17) (.b false))])
 (cD 18
 (sq (rg [xo 19 (lt 8 2),xo 20 (lt 44 3),xo 21 (.call 20 [(.t 19),(.t 20)]),xo 22 (.ext 0 (.t 21)),xo 23 (.ext 1 (.t 21)),xo 24 (.ext 2 (.t 21)),xn (st 8 4 22),xn (st 44 5 23),xn (st 23 6 24)])
 .ret)
 .skip))
 (sq (sq (rg [fo 25 11 3,lo 26 25,xo 27 (bc .lss 26 0),mo 28 27,xg 29 (fa 11 3) 28 false,xg 30 (lf 29) 28 false,xg 31 (bc .geq 30 24) 28 false,xo 32 (.pick (.t 28) (.b true) (.t 31)),mo 33 32,xg 34 (lt 8 2) 33 false,xg 35 (lt 44 3) 33 false,xg 36 (.call 6 [(.t 34),(.t 35)]) 33 false,xg 37 (.not (.t 36)) 33 false,xo 38 (.pick (.t 33) (.b true) (.t 37)),mo 39 38,xg 40 (fa 14 3) 39 false,xg 41 (lf 40) 39 false,xg 42 (bc .lss 41 0) 39 false,xg 43 (mv 42) 39 false,xg 44 (fa 11 3) 43 true,xg 45 (lf 44) 43 true,xg 46 (bc .eql 45 4) 43 true,xg 47 (mv 46) 43 true,xg 48 (fa 11 3) 47 false,xg 49 (lf 48) 47 false,xg 50 (bc .eql 49 5) 47 false,xg 51 (.pick (.t 47) (.b true) (.t 50)) 43 true,xg 52 (mv 51) 43 true,xg 53 (fa 11 3) 52 false,xg 54 (lf 53) 52 false,xg 55 (bc .eql 54 22) 52 false,xg 56 (.pick (.t 52) (.b true) (.t 55)) 43 true,xg 57 (.pick (.t 43) (.t 56) (.b false)) 39 false,xo 58 (.pick (.t 39) (.b true) (.t 57))])
 (cD 58
 (sq (rd [] (ot 0 (xo 59 (lt 8 2))
 (of 2 (xo 61 (.build zl1 []))
 (ot 1 (xo 60 (lt 44 3))
 (.op ⟨3,false,[1],xn (st 8 4 59)⟩
 (of 4 (xn (st 44 5 60))
 (of 5 (xn (st 23 6 61))
 .nil)))))))
 .ret)
 .skip))
 (sq (rd [] (of 1 (fo 63 11 3)
 (ot 2 (lo 64 63)
 (of 0 (xo 62 (.call 21 []))
 (of 3 (xo 65 (.idxa 24 1 false (.t 62) (.t 64)))
 (of 4 (mo 7 65)
 .nil))))))
 (sq (sq (rg [mo 66 7,xo 67 (.binn 2 false (.t 66))])
 (cD 67
 (sq (rd [] (ot 0 (xo 68 (lt 8 2))
 (of 2 (xo 70 (.build zl1 []))
 (ot 1 (xo 69 (lt 44 3))
 (.op ⟨3,false,[1],xn (st 8 4 68)⟩
 (of 4 (xn (st 44 5 69))
 (of 5 (xn (st 23 6 70))
 .nil)))))))
 .ret)
 .skip))
 (sq (rg [xo 71 (lt 8 2),xo 72 (.call 16 [(.t 71)]),xo 8 (.alloc 28 [(vi 0),(vi 0),(vi 0),(.v (.slice none 0 0)),(.v (.slice none 0 0)),(.v (.slice none 0 0)),(.v (.slice none 0 0)),(.v (.slice none 0 0))]),xn (st 8 8 72)])
 (sq (rg [xo 73 (lt 44 3),xo 9 (.alloc 41 zl0),xn (st 44 9 73)])
 (sq (rg [mo 74 7,xo 75 (.build [(.v (.pointer none)),(.v (.pointer none))] [(0,1,(.t 8)),(1,1,(.t 9))]),xo 76 (.callv (.t 74) [(.t 75)]),xo 10 (.alloc 46 zl1),xn (st 23 10 76)])
 (sq (rd [] (ot 0 (xo 77 (lt 8 8))
 (ot 1 (xo 78 (lt 44 9))
 (ot 2 (xo 79 (lt 23 10))
 (.op ⟨3,false,[2,1],xn (st 8 4 77)⟩
 (.op ⟨4,false,[2],xn (st 44 5 78)⟩
 (of 5 (xn (st 23 6 79))
 .nil)))))))
 .ret)))))))))⟩
theorem qLA:trFn Tryz.prog 9 [([],(fs [0,2,1] (.exec 3 (.exec 4 (.exec 5 .nil))))),([],(.first 1 (.first 2 (.exec 0 (.first 3 (.first 4 .nil)))))),([],(fs [0,2,1] (.exec 3 (.exec 4 (.exec 5 .nil))))),([],(fs [0,1,2] (.exec 3 (.exec 4 (.exec 5 .nil)))))] []=some qZM:=by kernel_rfl
abbrev qHN:Nat:=10
def qiN:FnI:=⟨52,[.tmp 2],
 (sq (rg [xo 1 (.box 28 (.t 0)),xo 2 (.mov (ci 0))])
 (sq (rg [xo 3 (.mov (ci 0))])
 (sq (sq (rg [fo 12 4 1,lo 13 12,xo 14 (.len false (.t 13)),xo 15 (.mov (ci 0))])
 (.block 0
 (.loop [3,15] [16,17,18,5,19,20,21,22,23,24,25,7,26,27,28,29,30,31,32,9,34,35,33,36,37,10,11,38,39,40,41,42,43,44,45,46,47,3,48,49,50,15]
 (sq (rg [xo 16 (bi .lss 15 14)])
 (sq (cD 16
 .skip
 (.exit 0))
 (sq (.block 1
 (sq (rg [xo 17 (ia 5 13 15),xo 18 (lt 5 17),xo 5 (.alloc 57 [(.v (.slice none 0 0)),(.v (.slice none 0 0)),(.v (.slice none 0 0)),(.v (.slice none 0 0)),(.v (.bool false))]),xn (st 5 5 18)])
 (sq (rg [fo 19 3 5,lo 20 19,xo 21 (.len false (.t 20)),xo 22 (.mov (ci 0))])
 (.block 2
 (.loop [3,22] [23,24,25,7,26,27,28,29,30,31,32,9,34,35,33,36,37,10,11,38,39,40,41,42,43,44,45,46,47,3,48,49,22]
 (sq (rg [xo 23 (bi .lss 22 21)])
 (sq (cD 23
 .skip
 (.exit 2))
 (sq (.block 3
 (sq (rg [xo 24 (ia 2 20 22),xo 25 (lt 2 24),xo 7 (.alloc 61 [(.v (.int .u64 (0))),(.v (.slice none 0 0))]),xn (st 2 7 25)])
 (sq (rg [fo 26 1 7,lo 27 26,xo 28 (.len false (.t 27)),xo 29 (.mov (ci 0))])
 (.block 4
 (.loop [3,29] [30,31,32,9,34,35,33,36,37,10,11,38,39,40,41,42,43,44,45,46,47,3,48,29]
 (sq (rg [xo 30 (bi .lss 29 28)])
 (sq (cD 30
 .skip
 (.exit 4))
 (sq (.block 5
 (sq (rg [xo 31 (ia 3 27 29),xo 32 (lt 3 31),xo 9 (.alloc 65 [(.v (.int .u64 (0))),(.v (.slice none 0 0)),(vi 0)]),xn (st 3 9 32)])
 (sq (rg [xo 34 (lt 3 9),xo 35 (.call 22 [(.t 34)]),mo 33 35,xo 36 (.ext 0 (.t 33)),xo 37 (.ext 1 (.t 33)),mo 10 36,mo 11 37])
 (sq (rg [xo 38 (lt 3 9),xo 39 (.call 23 [(.t 38)])])
 (cD 39
 (rg [mo 40 3,fo 41 1 9,lo 42 41,xo 43 (.len false (.t 42)),mo 44 10,xo 45 (.len false (.t 44)),xo 46 (bi .sub 43 45),xo 47 (bi .add 40 46),mo 3 47])
 .skip)))))
 (rg [xo 48 (bc .add 29 1),mo 29 48])))))))))
 (rg [xo 49 (bc .add 22 1),mo 22 49])))))))))
 (rg [xo 50 (bc .add 15 1),mo 15 50])))))))
 (sq (rg [mo 51 3,mo 2 51])
 .ret))))⟩
theorem qnM:trFn Tryz.prog 10 [] [[3,15],[3,22],[3,29]]=some qiN:=by kernel_rfl
abbrev qCQ:Nat:=11
def qRQ:FnI:=⟨107,[.tmp 2],
 (sq (rg [xo 1 (.box 28 (.t 0)),xo 2 (.mov (.b false))])
 (sq (sq (rg [xo 10 (lt 8 1),xo 11 (.call 24 [(.t 10)]),xo 12 (.not (.t 11)),mo 13 12,xg 14 (fa 1 1) 13 false,xg 15 (lf 14) 13 false,xg 16 (bc .lss 15 0) 13 false,xo 17 (.pick (.t 13) (.b true) (.t 16)),mo 18 17,xg 19 (fa 1 1) 18 false,xg 20 (lf 19) 18 false,xg 21 (fa 4 1) 18 false,xg 22 (lf 21) 18 false,xg 23 (.len false (.t 22)) 18 false,xg 24 (bi .geq 20 23) 18 false,xo 25 (.pick (.t 18) (.b true) (.t 24)),mo 26 25,xg 27 (fa 7 1) 26 false,xg 28 (lf 27) 26 false,xg 29 (.call 25 [(.t 28)]) 26 false,xg 30 (.not (.t 29)) 26 false,xo 31 (.pick (.t 26) (.b true) (.t 30))])
 (cD 31
 (sq (rg [xo 2 (.mov (.b false))])
 .ret)
 .skip))
 (sq (rg [xo 32 (.mkm .i64),mo 3 32])
 (sq (sq (rg [fo 33 7 1,lo 34 33,xo 35 (.len false (.t 34)),xo 36 (.mov (ci 0))])
 (.block 0
 (.loop [36] [37,38,39,5,40,41,42,43,44,45,46,47,48,49,50,51,52,53,54,55,56,57,58,59,2,60,61,62,63,64,65,36]
 (sq (rg [xo 37 (bi .lss 36 35)])
 (sq (cD 37
 .skip
 (.exit 0))
 (sq (.block 1
 (sq (rg [xo 38 (ia 3 34 36),xo 39 (lt 3 38),xo 5 (.alloc 89 [(vi 0),(vi 0),(.v (.bool false))]),xn (st 3 5 39)])
 (sq (sq (rg [fo 40 0 5,lo 41 40,fo 42 4 1,lo 43 42,xo 44 (.len false (.t 43)),xo 45 (bi .geq 41 44),mo 46 45,xg 47 (fa 0 5) 46 false,xg 48 (lf 47) 46 false,xg 49 (fa 1 1) 46 false,xg 50 (lf 49) 46 false,xg 51 (bi .eql 48 50) 46 false,xo 52 (.pick (.t 46) (.b true) (.t 51)),mo 53 52,xg 54 (fa 1 5) 53 false,xg 55 (lf 54) 53 false,xg 56 (fa 0 1) 53 false,xg 57 (lf 56) 53 false,xg 58 (bi .gtr 55 57) 53 false,xo 59 (.pick (.t 53) (.b true) (.t 58))])
 (cD 59
 (sq (rg [xo 2 (.mov (.b false))])
 .ret)
 .skip))
 (rg [mo 60 3,fo 61 0 5,lo 62 61,fo 63 2 5,lo 64 63,xn (.mup .i64 (.t 60) (.t 62) (.t 64))]))))
 (rg [xo 65 (bc .add 36 1),mo 36 65])))))))
 (sq (sq (rg [fo 66 4 1,lo 67 66,xo 68 (.len false (.t 67)),xo 69 (.mov (ci 0))])
 (.block 2
 (.loop [69] [70,71,72,73,7,6,74,75,76,77,78,79,80,81,82,83,84,2,85,69]
 (sq (rg [xo 70 (bi .lss 69 68)])
 (sq (cD 70
 .skip
 (.exit 2))
 (sq (.block 3
 (sq (rg [mo 71 69,xo 72 (ia 5 67 69),xo 73 (lt 5 72),xo 7 (.alloc 57 [(.v (.slice none 0 0)),(.v (.slice none 0 0)),(.v (.slice none 0 0)),(.v (.slice none 0 0)),(.v (.bool false))]),mo 6 71,xn (st 5 7 73)])
 (sq (rg [xo 74 (lt 5 7),xo 75 (.call 26 [(.t 74)]),xo 76 (.not (.t 75)),mo 77 76,xg 78 (fa 4 7) 77 false,xg 79 (lf 78) 77 false,xg 80 (mv 3) 77 false,xg 81 (mv 6) 77 false,xg 82 (.look .i64 (.bool false) false (.t 80) (.t 81)) 77 false,xg 83 (.binb true (.t 79) (.t 82)) 77 false,xo 84 (.pick (.t 77) (.b true) (.t 83))])
 (cD 84
 (sq (rg [xo 2 (.mov (.b false))])
 .ret)
 .skip))))
 (rg [xo 85 (bc .add 69 1),mo 69 85])))))))
 (sq (sq (rg [fo 86 5 1,lo 87 86,xo 88 (.len false (.t 87)),xo 89 (.mov (ci 0))])
 (.block 4
 (.loop [89] [90,91,92,93,9,8,94,95,96,97,98,99,100,101,102,103,104,105,2,106,89]
 (sq (rg [xo 90 (bi .lss 89 88)])
 (sq (cD 90
 .skip
 (.exit 4))
 (sq (.block 5
 (sq (rg [mo 91 89,xo 92 (ia 4 87 89),xo 93 (lt 4 92),xo 9 (.alloc 63 [(.v (.string ⟨#[]⟩)),(.v (.bool false)),(vi 0),(.v (.bool false))]),mo 8 91,xn (st 4 9 93)])
 (sq (rg [xo 94 (lt 4 9),xo 95 (.call 27 [(.t 94)]),xo 96 (.not (.t 95)),mo 97 96,xg 98 (fa 5 1) 97 false,xg 99 (lf 98) 97 false,xg 100 (fa 0 9) 97 false,xg 101 (lf 100) 97 false,xg 102 (.call 17 [(.t 99),(.t 101)]) 97 false,xg 103 (mv 8) 97 false,xg 104 (bi .neq 102 103) 97 false,xo 105 (.pick (.t 97) (.b true) (.t 104))])
 (cD 105
 (sq (rg [xo 2 (.mov (.b false))])
 .ret)
 .skip))))
 (rg [xo 106 (bc .add 89 1),mo 89 106])))))))
 (sq (rg [xo 2 (.mov (.b true))])
 .ret)))))))⟩
theorem qlP:trFn Tryz.prog 11 [] [[36],[69],[89]]=some qRQ:=by kernel_rfl
abbrev qvH:Nat:=12
def qFI:FnI:=⟨24,[.tmp 2],
 (sq (rg [xo 2 (.mov (.b false))])
 (sq (sq (rg [xo 3 (.mov (ci 0))])
 (.block 0
 (.loop [3] [4,5,6,7,8,9,10,11,12,15,16,17,18,19,20,2,13,14,3]
 (sq (sq (rg [mo 4 3,mo 5 0,xo 6 (.len false (.t 5)),xo 7 (bi .lss 4 6),mo 8 7,xg 9 (mv 0) 8 true,xg 10 (.len false (.t 9)) 8 true,xg 11 (bc .leq 10 50) 8 true,xo 12 (.pick (.t 8) (.t 11) (.b false))])
 (cD 12
 .skip
 (.exit 0)))
 (sq (.block 1
 (sq (rg [mo 15 0,mo 16 3,xo 17 (ia 1 15 16),lo 18 17,xo 19 (.len false (.t 18)),xo 20 (bc .gtr 19 50)])
 (cD 20
 (sq (rg [xo 2 (.mov (.b true))])
 .ret)
 .skip)))
 (rg [mo 13 3,xo 14 (bc .add 13 1),mo 3 14]))))))
 (sq (rg [mo 21 0,xo 22 (.len false (.t 21)),xo 23 (bc .gtr 22 50),mo 2 23])
 .ret)))⟩
theorem qbH:trFn Tryz.prog 12 [] [[3]]=some qFI:=by kernel_rfl
abbrev qaF:Nat:=13
def qeF:FnI:=⟨44,[.tmp 2],
 (sq (rg [xo 1 (.box 54 (.t 0)),xo 2 (.mov (.b false))])
 (sq (sq (rg [fo 4 0 1,lo 5 4,xo 6 (.len false (.t 5)),xo 7 (bc .gtr 6 20),mo 8 7,xg 9 (fa 2 1) 8 false,xg 10 (lf 9) 8 false,xg 11 (.len false (.t 10)) 8 false,xg 12 (bc .gtr 11 20) 8 false,xo 13 (.pick (.t 8) (.b true) (.t 12)),mo 14 13,xg 15 (fa 1 1) 14 false,xg 16 (lf 15) 14 false,xg 17 (.call 28 [(.t 16)]) 14 false,xo 18 (.pick (.t 14) (.b true) (.t 17))])
 (cD 18
 (sq (rg [xo 2 (.mov (.b true))])
 .ret)
 .skip))
 (sq (sq (rg [xo 3 (.mov (ci 0))])
 (.block 0
 (.loop [3] [19,20,21,22,23,26,27,28,29,30,31,32,33,34,35,36,37,38,39,40,41,42,43,2,24,25,3]
 (sq (sq (rg [mo 19 3,fo 20 2 1,lo 21 20,xo 22 (.len false (.t 21)),xo 23 (bi .lss 19 22)])
 (cD 23
 .skip
 (.exit 0)))
 (sq (.block 1
 (sq (rg [fo 26 2 1,lo 27 26,mo 28 3,xo 29 (ia 4 27 28),fo 30 3 29,lo 31 30,xo 32 (.len false (.t 31)),xo 33 (bc .gtr 32 20),mo 34 33,xg 35 (fa 2 1) 34 false,xg 36 (lf 35) 34 false,xg 37 (mv 3) 34 false,xg 38 (ia 4 36 37) 34 false,xg 39 (fa 0 38) 34 false,xg 40 (lf 39) 34 false,xg 41 (.len true (.t 40)) 34 false,xg 42 (bc .gtr 41 100) 34 false,xo 43 (.pick (.t 34) (.b true) (.t 42))])
 (cD 43
 (sq (rg [xo 2 (.mov (.b true))])
 .ret)
 .skip)))
 (rg [mo 24 3,xo 25 (bc .add 24 1),mo 3 25]))))))
 (sq (rg [xo 2 (.mov (.b false))])
 .ret))))⟩
theorem qVF:trFn Tryz.prog 13 [] [[3]]=some qeF:=by kernel_rfl
abbrev qaS:Nat:=14
def qoS:FnI:=⟨12,[.tmp 4],
 (sq (rg [xo 4 (.mov (.b false))])
 (sq (rg [mo 5 0,xo 6 (bc .geq 5 0),mo 7 6,xg 8 (mv 0) 7 true,xg 9 (mv 1) 7 true,xg 10 (bi .lss 8 9) 7 true,xo 11 (.pick (.t 7) (.t 10) (.b false)),mo 4 11])
 .ret))⟩
theorem q1R:trFn Tryz.prog 14 [] []=some qoS:=by kernel_rfl
abbrev qhG:Nat:=15
def qqG:FnI:=⟨18,[.cell 0 8 true],
 (sq (rg [xo 0 (.alloc 28 [(vi 0),(vi 0),(vi 0),(.v (.slice none 0 0)),(.v (.slice none 0 0)),(.v (.slice none 0 0)),(.v (.slice none 0 0)),(.v (.slice none 0 0))])])
 (sq (rg [xo 4 (.bsl 9 1 1 [(.v (.string ⟨#[]⟩))] [(0,1,(.c (.string ⟨#[105,110]⟩)))]),xo 5 (.build [(vi 0),(.v (.string ⟨#[]⟩)),(.v (.string ⟨#[]⟩)),(vi 0)] [(1,1,(.c (.string ⟨#[42]⟩))),(2,1,(.c (.string ⟨#[47]⟩)))]),xo 6 (.bsl 98 4 1 [(vi 0),(.v (.string ⟨#[]⟩)),(.v (.string ⟨#[]⟩)),(vi 0)] [(0,4,(.t 5))]),xo 7 (.bsl 4 1 1 [(.v (.bool false))] [(0,1,(.b true))]),xo 8 (.build [(.v (.string ⟨#[]⟩)),(vi 0),(vi 0),(.v (.slice none 0 0))] [(0,1,(.c (.string ⟨#[97]⟩))),(1,1,(ci 1)),(2,1,(ci 1)),(3,1,(.t 7))]),xo 9 (.bsl 96 4 1 [(.v (.string ⟨#[]⟩)),(vi 0),(vi 0),(.v (.slice none 0 0))] [(0,4,(.t 8))]),xo 10 (.build [(.v (.slice none 0 0)),(.v (.slice none 0 0)),(.v (.slice none 0 0))] [(0,1,(.t 4)),(1,1,(.t 6)),(2,1,(.t 9))]),xo 1 (.alloc 54 [(.v (.slice none 0 0)),(.v (.slice none 0 0)),(.v (.slice none 0 0))]),xn (st 3 1 10)])
 (sq (rg [xo 12 (lt 3 1),xo 13 (.bsl 9 1 1 [(.v (.string ⟨#[]⟩))] [(0,1,(.c (.string ⟨#[105,110]⟩)))]),xo 14 (.call 29 [(.t 12),(.t 13),(ci 1)]),mo 11 14,xo 15 (.ext 0 (.t 11)),xo 16 (.ext 1 (.t 11)),xo 2 (.alloc 28 [(vi 0),(vi 0),(vi 0),(.v (.slice none 0 0)),(.v (.slice none 0 0)),(.v (.slice none 0 0)),(.v (.slice none 0 0)),(.v (.slice none 0 0))]),xn (st 8 2 15),mo 3 16])
 (sq (rg [xo 17 (lt 8 2),xn (st 8 0 17)])
 .ret))))⟩
theorem qaG:trFn Tryz.prog 15 [] []=some qqG:=by kernel_rfl
abbrev q0L:Nat:=16
def qRM:FnI:=⟨28,[.cell 2 8 true],
 (sq (rg [xo 1 (.box 28 (.t 0)),xo 2 (.alloc 28 [(vi 0),(vi 0),(vi 0),(.v (.slice none 0 0)),(.v (.slice none 0 0)),(.v (.slice none 0 0)),(.v (.slice none 0 0)),(.v (.slice none 0 0))])])
 (sq (rg [xo 4 (.build [] []),xo 3 (.alloc 102 []),xn (st 0 3 4)])
 (sq (rg [fo 5 3 1,lo 6 5,xo 7 (.call 30 [(.t 6)]),fo 8 3 1,xn (st 1 8 7)])
 (sq (rg [fo 9 4 1,lo 10 9,xo 11 (lt 0 3),xo 12 (.call 31 [(.t 10),(.c (.func (.func 32) #[] #[])),(.t 11)]),fo 13 4 1,xn (st 1 13 12)])
 (sq (rg [fo 14 5 1,lo 15 14,xo 16 (.call 33 [(.t 15)]),fo 17 5 1,xn (st 1 17 16)])
 (sq (rg [fo 18 6 1,lo 19 18,xo 20 (lt 0 3),xo 21 (.call 34 [(.t 19),(.c (.func (.func 35) #[] #[])),(.t 20)]),fo 22 6 1,xn (st 1 22 21)])
 (sq (rg [fo 23 7 1,lo 24 23,xo 25 (.call 36 [(.t 24)]),fo 26 7 1,xn (st 1 26 25)])
 (sq (rg [xo 27 (lt 8 1),xn (st 8 2 27)])
 .ret))))))))⟩
theorem qRL:trFn Tryz.prog 16 [] []=some qRM:=by kernel_rfl
abbrev qBM:Nat:=17
def qaM:FnI:=⟨8,[.tmp 4],
 (sq (rg [xo 3 (.box 9 (.t 1)),xo 4 (.mov (ci 0))])
 (sq (rg [mo 5 0,xo 6 (.mkf (.func 38) [] [(.t 3)]),xo 7 (.call 37 [(.t 5),(.t 6)]),mo 4 7])
 .ret))⟩
theorem qfL:trFn Tryz.prog 17 [] []=some qaM:=by kernel_rfl
abbrev qzH:Nat:=18
def qHE:FnI:=⟨26,[],
 (sq (rg [xo 3 (.box 39 (.t 1))])
 (sq (rd [] (of 0 (mo 4 0)
 (of 1 (xo 5 (nk 4))
 (of 2 (fo 6 0 5)
 (ot 3 (lo 7 6)
 (of 4 (mo 8 0)
 (of 5 (xo 9 (nk 8))
 (of 6 (fo 10 0 9)
 (ot 7 (lo 11 10)
 (of 9 (xo 13 (nk 7))
 (of 10 (fo 14 24 13)
 (ot 8 (xo 12 (lt 13 3))
 (.op ⟨11,false,[8],xn (.store 1 (.t 14) (.b true))⟩
 (of 12 (xo 15 (nk 11))
 (of 13 (fo 16 25 15)
 (of 14 (xn (st 13 16 12))
 .nil))))))))))))))))
 (rd [] (of 0 (mo 17 0)
 (of 3 (xo 20 (nk 17))
 (of 4 (fo 21 1 20)
 (of 5 (fo 22 9 21)
 (of 1 (mo 18 0)
 (ot 2 (xo 19 (lt 13 3))
 (.op ⟨6,false,[2],xn (.store 1 (.t 22) (.b true))⟩
 (of 7 (xo 23 (nk 18))
 (of 8 (fo 24 1 23)
 (of 9 (fo 25 10 24)
 (of 10 (xn (st 13 25 19))
 .nil))))))))))))))⟩
theorem qfH:trFn Tryz.prog 18 [([],(fs [0,1,2,3,4,5,6,7,9,10,8] (.exec 11 (.first 12 (.first 13 (.exec 14 .nil)))))),([],(fs [0,3,4,5,1,2] (.exec 6 (fs [7,8,9] (.exec 10 .nil)))))] []=some qHE:=by kernel_rfl
abbrev qCM:Nat:=19
def qbM:FnI:=⟨5,[.cell 2 4 true],
 (sq (rg [xo 1 (.box 63 (.t 0)),xo 2 (.alloc 63 [(.v (.string ⟨#[]⟩)),(.v (.bool false)),(vi 0),(.v (.bool false))])])
 (sq (rg [fo 3 1 1,xn (.store 1 (.t 3) (.b true))])
 (sq (rg [xo 4 (lt 4 1),xn (st 4 2 4)])
 .ret)))⟩
theorem qgL:trFn Tryz.prog 19 [] []=some qbM:=by kernel_rfl
abbrev qiE:Nat:=20
def qWQ:FnI:=⟨40,[.cell 4 8 true,.cell 5 44 true,.cell 6 23 true],
 (sq (rg [xo 2 (.box 28 (.t 0)),xo 3 (.box 41 (.t 1)),xo 4 (.alloc 28 [(vi 0),(vi 0),(vi 0),(.v (.slice none 0 0)),(.v (.slice none 0 0)),(.v (.slice none 0 0)),(.v (.slice none 0 0)),(.v (.slice none 0 0))]),xo 5 (.alloc 41 zl0),xo 6 (.alloc 46 zl1)])
 (sq (rd [7] (of 1 (fo 12 11 3)
 (ot 2 (lo 13 12)
 (of 0 (xo 11 (.call 39 []))
 (ot 3 (xo 14 (.look .i64 (.agg #[.nilFunc]) true (.t 11) (.t 13)))
 (of 4 (mo 10 14)
 (of 5 (xo 15 (.ext 0 (.t 10)))
 (of 6 (xo 16 (.ext 1 (.t 10)))
 (.bring ⟨7,false,[],xo 7 (.alloc 115 [(.v .nilFunc)])⟩
 (of 8 (xn (st 1 7 15))
 (of 9 (mo 8 16)
 .nil)))))))))))
 (sq (sq (rg [mo 17 8,xo 18 (.not (.t 17)),mo 19 18,xg 20 (lt 8 2) 19 false,xg 21 (lt 44 3) 19 false,xg 22 (.call 6 [(.t 20),(.t 21)]) 19 false,xg 23 (.not (.t 22)) 19 false,xo 24 (.pick (.t 19) (.b true) (.t 23))])
 (cD 24
 (sq (rd [] (ot 0 (xo 25 (lt 8 2))
 (of 2 (xo 27 (.build zl1 []))
 (ot 1 (xo 26 (lt 44 3))
 (.op ⟨3,false,[1],xn (st 8 4 25)⟩
 (of 4 (xn (st 44 5 26))
 (of 5 (xn (st 23 6 27))
 .nil)))))))
 .ret)
 .skip))
 (sq (rg [xo 28 (lt 8 2),xo 29 (.call 16 [(.t 28)]),xn (st 8 2 29)])
 (sq (rg [fo 30 0 7,lo 31 30,xo 32 (.callv (.t 31) [(.t 2),(.t 3)]),xo 9 (.alloc 46 zl1),xn (st 23 9 32)])
 (sq (rg [fo 33 10 3,lo 34 33,fo 35 0 9,xn (st 1 35 34),fo 36 4 9,xn (.store 1 (.t 36) (ci (-1)))])
 (sq (rd [] (ot 0 (xo 37 (lt 8 2))
 (ot 1 (xo 38 (lt 44 3))
 (ot 2 (xo 39 (lt 23 9))
 (.op ⟨3,false,[2,1],xn (st 8 4 37)⟩
 (.op ⟨4,false,[2],xn (st 44 5 38)⟩
 (of 5 (xn (st 23 6 39))
 .nil)))))))
 .ret)))))))⟩
theorem qQG:trFn Tryz.prog 20 [([7],(.first 1 (.first 2 (.exec 0 (fs [3,4,5,6] (.bring 7 (.exec 8 (.first 9 .nil)))))))),([],(fs [0,2,1] (.exec 3 (.exec 4 (.exec 5 .nil))))),([],(fs [0,1,2] (.exec 3 (.exec 4 (.exec 5 .nil)))))] []=some qWQ:=by kernel_rfl
abbrev qjK:Nat:=21
def qrK:FnI:=⟨2,[.cell 0 24 true],
 (sq (rg [xo 0 (.alloc 77 [(.v .nilFunc),(.v .nilFunc),(.v .nilFunc),(.v .nilFunc),(.v .nilFunc),(.v .nilFunc),(.v .nilFunc),(.v .nilFunc),(.v .nilFunc),(.v .nilFunc),(.v .nilFunc),(.v .nilFunc),(.v .nilFunc),(.v .nilFunc),(.v .nilFunc),(.v .nilFunc),(.v .nilFunc),(.v .nilFunc),(.v .nilFunc),(.v .nilFunc),(.v .nilFunc),(.v .nilFunc),(.v .nilFunc),(.v .nilFunc)])])
 (sq (rg [xo 1 (.build [(.v .nilFunc),(.v .nilFunc),(.v .nilFunc),(.v .nilFunc),(.v .nilFunc),(.v .nilFunc),(.v .nilFunc),(.v .nilFunc),(.v .nilFunc),(.v .nilFunc),(.v .nilFunc),(.v .nilFunc),(.v .nilFunc),(.v .nilFunc),(.v .nilFunc),(.v .nilFunc),(.v .nilFunc),(.v .nilFunc),(.v .nilFunc),(.v .nilFunc),(.v .nilFunc),(.v .nilFunc),(.v .nilFunc),(.v .nilFunc)] [(3,1,(.c (.func (.func 40) #[] #[]))),(4,1,(.c (.func (.func 41) #[] #[]))),(5,1,(.c (.func (.func 42) #[] #[]))),(6,1,(.c (.func (.func 43) #[] #[]))),(7,1,(.c (.func (.func 44) #[] #[]))),(8,1,(.c (.func (.func 45) #[] #[]))),(9,1,(.c (.func (.func 46) #[] #[]))),(10,1,(.c (.func (.func 47) #[] #[]))),(11,1,(.c (.func (.func 48) #[] #[]))),(12,1,(.c (.func (.func 49) #[] #[]))),(20,1,(.c (.func (.func 50) #[] #[]))),(21,1,(.c (.func (.func 51) #[] #[]))),(22,1,(.c (.func (.func 52) #[] #[]))),(23,1,(.c (.func (.func 53) #[] #[])))]),xn (st 24 0 1)])
 .ret))⟩
theorem qaK:trFn Tryz.prog 21 [] []=some qrK:=by kernel_rfl
abbrev qJN:Nat:=22
def qkN:FnI:=⟨19,[.cell 2 1 false,.cell 3 1 false],
 (sq (rg [xo 1 (.box 65 (.t 0)),xo 2 (.alloc 22 [(.v (.slice none 0 0))]),xo 3 (.alloc 82 [(vi 0)])])
 (sq (rg [xo 4 (.alloc 22 [(.v (.slice none 0 0))])])
 (sq (sq (rg [xo 6 (lt 3 1),xo 7 (.call 54 [(.t 6)])])
 (.block 0
 (.rfun (.t 7) [8]
 (rg [mo 5 8])
 (.block 1
 (sq (rg [mo 9 5])
 (.block 2
 (sq (rg [xo 15 (.bini .eql (.t 9) (ci (-2))),mo 14 15])
 (cD 14
 (sq (rg [xn (.store 1 (.t 2) (.c (.slice none 0 0))),xn (.store 1 (.t 3) (ci 11))])
 .ret)
 (sq (rg [xo 17 (.bini .eql (.t 9) (ci (-1))),mo 16 17])
 (cD 16
 .skip
 (rg [lo 10 4,mo 11 5,xo 12 (.bsl 3 1 1 [(vi 0)] [(0,1,(.t 11))]),xo 13 (.app 3 1 8 (.t 10) (.t 12)),xn (st 1 4 13)])))))))))))
 (sq (rg [lo 18 4,xn (st 1 2 18),xn (.store 1 (.t 3) (ci 0))])
 .ret))))⟩
theorem qpM:trFn Tryz.prog 22 [] []=some qkN:=by kernel_rfl
abbrev qEQ:Nat:=23
def qUQ:FnI:=⟨29,[.tmp 2],
 (sq (rg [xo 1 (.box 65 (.t 0)),xo 2 (.mov (.b false))])
 (sq (rg [xo 6 (lt 3 1),xo 7 (.call 22 [(.t 6)]),mo 5 7,xo 8 (.ext 0 (.t 5)),xo 9 (.ext 1 (.t 5)),mo 3 8,mo 4 9])
 (sq (rg [mo 10 4,xo 11 (bc .eql 10 0),mo 12 11,xg 13 (fa 1 1) 12 true,xg 14 (lf 13) 12 true,xg 15 (.len false (.t 14)) 12 true,xg 16 (bc .geq 15 1) 12 true,xo 17 (.pick (.t 12) (.t 16) (.b false)),mo 18 17,xg 19 (fa 1 1) 18 true,xg 20 (lf 19) 18 true,xg 21 (.len false (.t 20)) 18 true,xg 22 (bc .leq 21 4) 18 true,xo 23 (.pick (.t 18) (.t 22) (.b false)),mo 24 23,xg 25 (fa 2 1) 24 true,xg 26 (lf 25) 24 true,xg 27 (bc .geq 26 0) 24 true,xo 28 (.pick (.t 24) (.t 27) (.b false)),mo 2 28])
 .ret)))⟩
theorem qnP:trFn Tryz.prog 23 [] []=some qUQ:=by kernel_rfl
abbrev qgK:Nat:=24
def qnK:FnI:=⟨51,[.tmp 2],
 (sq (rg [xo 1 (.box 28 (.t 0)),xo 2 (.mov (.b false))])
 (sq (rg [fo 4 3 1,lo 5 4,xo 6 (.len false (.t 5)),mo 3 6])
 (sq (sq (rg [mo 7 3,xo 8 (bc .lss 7 1),mo 9 8,xg 10 (mv 3) 9 false,xg 11 (bc .gtr 10 8) 9 false,xo 12 (.pick (.t 9) (.b true) (.t 11)),mo 13 12,xg 14 (fa 6 1) 13 false,xg 15 (lf 14) 13 false,xg 16 (.len false (.t 15)) 13 false,xg 17 (mv 3) 13 false,xg 18 (bi .neq 16 17) 13 false,xo 19 (.pick (.t 13) (.b true) (.t 18)),mo 20 19,xg 21 (fa 6 1) 20 false,xg 22 (lf 21) 20 false,xg 23 (.call 55 [(.t 22)]) 20 false,xg 24 (.not (.t 23)) 20 false,xo 25 (.pick (.t 20) (.b true) (.t 24)),mo 26 25,xg 27 (fa 0 1) 26 false,xg 28 (lf 27) 26 false,xg 29 (bc .lss 28 0) 26 false,xo 30 (.pick (.t 26) (.b true) (.t 29)),mo 31 30,xg 32 (fa 0 1) 31 false,xg 33 (lf 32) 31 false,xg 34 (bc .gtr 33 1000000000000) 31 false,xo 35 (.pick (.t 31) (.b true) (.t 34)),mo 36 35,xg 37 (fa 2 1) 36 false,xg 38 (lf 37) 36 false,xg 39 (bc .neq 38 0) 36 false,xg 40 (mv 39) 36 false,xg 41 (fa 2 1) 40 true,xg 42 (lf 41) 40 true,xg 43 (bc .neq 42 1) 40 true,xg 44 (.pick (.t 40) (.t 43) (.b false)) 36 false,xo 45 (.pick (.t 36) (.b true) (.t 44))])
 (cD 45
 (sq (rg [xo 2 (.mov (.b false))])
 .ret)
 .skip))
 (sq (rg [fo 46 3 1,lo 47 46,xo 48 (.mkf (.func 57) [] [(.t 1)]),xo 49 (.call 56 [(.t 47),(.t 48)]),xo 50 (.not (.t 49)),mo 2 50])
 .ret))))⟩
theorem qWK:trFn Tryz.prog 24 [] []=some qnK:=by kernel_rfl
abbrev qHQ:Nat:=25
def qXQ:FnI:=⟨29,[.tmp 2],
 (sq (rg [xo 2 (.mov (.b false))])
 (sq (sq (rg [mo 5 0,xo 6 (.len false (.t 5)),xo 7 (.mov (ci 0))])
 (.block 0
 (.loop [7] [8,9,10,11,4,3,12,13,14,15,16,17,18,19,20,21,22,23,24,25,26,27,2,28,7]
 (sq (rg [xo 8 (bi .lss 7 6)])
 (sq (cD 8
 .skip
 (.exit 0))
 (sq (.block 1
 (sq (rg [mo 9 7,xo 10 (ia 3 5 7),xo 11 (lt 3 10),xo 4 (.alloc 89 [(vi 0),(vi 0),(.v (.bool false))]),mo 3 9,xn (st 3 4 11)])
 (sq (rd [] (of 0 (fo 12 0 4)
 (ot 1 (lo 13 12)
 (of 2 (xo 14 (bc .lss 13 0))
 (of 3 (mo 15 14)
 (of 4 (xg 16 (fa 1 4) 15 false)
 (ot 5 (xg 17 (lf 16) 15 false)
 (of 6 (xg 18 (bc .lss 17 0) 15 false)
 (of 7 (xo 19 (.pick (.t 15) (.b true) (.t 18)))
 (of 8 (mo 20 19)
 (of 9 (xg 21 (mv 0) 20 false)
 (of 10 (xg 22 (mv 3) 20 false)
 (of 11 (xg 23 (.slc 3 (.t 21) none (some (.t 22)) none) 20 false)
 (of 12 (xg 24 (fa 0 4) 20 false)
 (ot 13 (xg 25 (lf 24) 20 false)
 (of 14 (xg 26 (.call 58 [(.t 23),(.t 25)]) 20 false)
 (of 15 (xo 27 (.pick (.t 20) (.b true) (.t 26)))
 .nil)))))))))))))))))
 (cD 27
 (sq (rg [xo 2 (.mov (.b false))])
 .ret)
 .skip))))
 (rg [xo 28 (bc .add 7 1),mo 7 28])))))))
 (sq (rg [xo 2 (.mov (.b true))])
 .ret)))⟩
theorem qqP:trFn Tryz.prog 25 [([],(fs [0,1,2,3,4,5,6,7,8,9,10,11,12,13] (.exec 14 (.first 15 .nil))))] [[7]]=some qXQ:=by kernel_rfl
abbrev qsJ:Nat:=26
def qHK:FnI:=⟨50,[.tmp 2],
 (sq (rg [xo 1 (.box 57 (.t 0)),xo 2 (.mov (.b false))])
 (sq (sq (rg [fo 7 0 1,xo 8 (lt 3 7),xo 9 (.call 59 [(.t 8)]),xo 10 (.not (.t 9)),mo 11 10,xg 12 (fa 3 1) 11 false,xg 13 (lf 12) 11 false,xg 14 (.len false (.t 13)) 11 false,xg 15 (fa 0 1) 11 false,xg 16 (fa 2 15) 11 false,xg 17 (lf 16) 11 false,xg 18 (.len false (.t 17)) 11 false,xg 19 (bi .neq 14 18) 11 false,xo 20 (.pick (.t 11) (.b true) (.t 19))])
 (cD 20
 (sq (rg [xo 2 (.mov (.b false))])
 .ret)
 .skip))
 (sq (sq (rg [fo 21 3 1,lo 22 21,xo 23 (.len false (.t 22)),xo 24 (.mov (ci 0))])
 (.block 0
 (.loop [24] [25,26,27,28,4,3,29,30,31,32,33,34,5,35,6,36,37,38,39,40,41,42,43,44,45,46,47,48,2,49,24]
 (sq (rg [xo 25 (bi .lss 24 23)])
 (sq (cD 25
 .skip
 (.exit 0))
 (sq (.block 1
 (sq (rg [mo 26 24,xo 27 (ia 2 22 24),xo 28 (lt 2 27),xo 4 (.alloc 61 [(.v (.int .u64 (0))),(.v (.slice none 0 0))]),mo 3 26,xn (st 2 4 28)])
 (sq (rg [fo 29 0 1,fo 30 2 29,lo 31 30,mo 32 3,xo 33 (ia 4 31 32),xo 34 (lt 4 33),xo 5 (.alloc 96 [(.v (.string ⟨#[]⟩)),(vi 0),(vi 0),(.v (.slice none 0 0))]),xn (st 4 5 34)])
 (sq (rg [xo 35 (.mkf (.func 60) [] [(.t 5)]),mo 6 35])
 (sq (rg [fo 36 1 4,lo 37 36,xo 38 (.len false (.t 37)),fo 39 3 5,lo 40 39,xo 41 (.len false (.t 40)),xo 42 (bi .neq 38 41),mo 43 42,xg 44 (fa 1 4) 43 false,xg 45 (lf 44) 43 false,xg 46 (mv 6) 43 false,xg 47 (.call 61 [(.t 45),(.t 46)]) 43 false,xo 48 (.pick (.t 43) (.b true) (.t 47))])
 (cD 48
 (sq (rg [xo 2 (.mov (.b false))])
 .ret)
 .skip))))))
 (rg [xo 49 (bc .add 24 1),mo 24 49])))))))
 (sq (rg [xo 2 (.mov (.b true))])
 .ret))))⟩
theorem qQJ:trFn Tryz.prog 26 [] [[24]]=some qHK:=by kernel_rfl
abbrev qIQ:Nat:=27
def qYQ:FnI:=⟨20,[.tmp 2],
 (sq (rg [xo 1 (.box 63 (.t 0)),xo 2 (.mov (.b false))])
 (sq (rg [fo 3 0 1,lo 4 3,xo 5 (.call 62 [(.t 4)]),mo 6 5,xg 7 (fa 2 1) 6 true,xg 8 (lf 7) 6 true,xg 9 (bc .geq 8 0) 6 true,xo 10 (.pick (.t 6) (.t 9) (.b false)),mo 11 10,xg 12 (fa 1 1) 11 true,xg 13 (lf 12) 11 true,xg 14 (mv 13) 11 true,xg 15 (fa 3 1) 14 false,xg 16 (lf 15) 14 false,xg 17 (.not (.t 16)) 14 false,xg 18 (.pick (.t 14) (.b true) (.t 17)) 11 true,xo 19 (.pick (.t 11) (.t 18) (.b false)),mo 2 19])
 .ret))⟩
theorem qrP:trFn Tryz.prog 27 [] []=some qYQ:=by kernel_rfl
abbrev qwH:Nat:=28
def qGI:FnI:=⟨34,[.tmp 2],
 (sq (rg [xo 2 (.mov (.b false))])
 (sq (sq (rg [xo 3 (.mov (ci 0))])
 (.block 0
 (.loop [3] [4,5,6,7,8,9,10,11,12,15,16,17,18,19,20,21,22,23,24,25,26,27,28,29,30,2,13,14,3]
 (sq (sq (rg [mo 4 3,mo 5 0,xo 6 (.len false (.t 5)),xo 7 (bi .lss 4 6),mo 8 7,xg 9 (mv 0) 8 true,xg 10 (.len false (.t 9)) 8 true,xg 11 (bc .leq 10 50) 8 true,xo 12 (.pick (.t 8) (.t 11) (.b false))])
 (cD 12
 .skip
 (.exit 0)))
 (sq (.block 1
 (sq (rg [mo 15 0,mo 16 3,xo 17 (ia 4 15 16),fo 18 1 17,lo 19 18,xo 20 (.len true (.t 19)),xo 21 (bc .gtr 20 100),mo 22 21,xg 23 (mv 0) 22 false,xg 24 (mv 3) 22 false,xg 25 (ia 4 23 24) 22 false,xg 26 (fa 2 25) 22 false,xg 27 (lf 26) 22 false,xg 28 (.len true (.t 27)) 22 false,xg 29 (bc .gtr 28 100) 22 false,xo 30 (.pick (.t 22) (.b true) (.t 29))])
 (cD 30
 (sq (rg [xo 2 (.mov (.b true))])
 .ret)
 .skip)))
 (rg [mo 13 3,xo 14 (bc .add 13 1),mo 3 14]))))))
 (sq (rg [mo 31 0,xo 32 (.len false (.t 31)),xo 33 (bc .gtr 32 50),mo 2 33])
 .ret)))⟩
theorem qcH:trFn Tryz.prog 28 [] [[3]]=some qGI:=by kernel_rfl
abbrev qkO:Nat:=29
def q1O:FnI:=⟨64,[.cell 6 8 true,.tmp 7],
 (sq (rg [xo 3 (.box 54 (.t 0)),xo 6 (.alloc 28 [(vi 0),(vi 0),(vi 0),(.v (.slice none 0 0)),(.v (.slice none 0 0)),(.v (.slice none 0 0)),(.v (.slice none 0 0)),(.v (.slice none 0 0))]),xo 7 (.mov (ci 0))])
 (sq (rg [xo 15 (lt 3 3),xo 16 (.call 63 [(.t 15)]),mo 14 16,xo 17 (.ext 0 (.t 14)),xo 18 (.ext 1 (.t 14)),xo 8 (.alloc 57 [(.v (.slice none 0 0)),(.v (.slice none 0 0)),(.v (.slice none 0 0)),(.v (.slice none 0 0)),(.v (.bool false))]),xn (st 5 8 17),mo 9 18])
 (sq (sq (rg [mo 19 9,xo 20 (bc .neq 19 0)])
 (cD 20
 (sq (rg [xo 21 (.build [(vi 0),(vi 0),(vi 0),(.v (.slice none 0 0)),(.v (.slice none 0 0)),(.v (.slice none 0 0)),(.v (.slice none 0 0)),(.v (.slice none 0 0))] []),mo 22 9,xn (st 8 6 21),mo 7 22])
 .ret)
 .skip))
 (sq (rg [mo 24 2,xo 25 (.call 64 [(.t 24)]),mo 23 25,xo 26 (.ext 0 (.t 23)),xo 27 (.ext 1 (.t 23)),mo 10 26,mo 9 27])
 (sq (sq (rg [mo 28 9,xo 29 (bc .neq 28 0)])
 (cD 29
 (sq (rg [xo 30 (.build [(vi 0),(vi 0),(vi 0),(.v (.slice none 0 0)),(.v (.slice none 0 0)),(.v (.slice none 0 0)),(.v (.slice none 0 0)),(.v (.slice none 0 0))] []),mo 31 9,xn (st 8 6 30),mo 7 31])
 .ret)
 .skip))
 (sq (rd [11] (ot 0 (xo 32 (lt 5 8))
 (of 2 (mo 34 2)
 (of 4 (mo 36 10)
 (.alt (of 1 (xo 33 (.bsl 57 5 1 [(.v (.slice none 0 0)),(.v (.slice none 0 0)),(.v (.slice none 0 0)),(.v (.slice none 0 0)),(.v (.bool false))] [(0,5,(.t 32))]))
 (of 3 (xo 35 (.msl 3 1 8 [(.int .i64 (0))] (.t 34) (.t 34)))
 (of 5 (xo 37 (.build [(vi 0),(vi 0),(vi 0),(.v (.slice none 0 0)),(.v (.slice none 0 0)),(.v (.slice none 0 0)),(.v (.slice none 0 0)),(.v (.slice none 0 0))] [(4,1,(.t 33)),(3,1,(.t 35)),(6,1,(.t 36))]))
 (.bring ⟨6,false,[],xo 11 (.alloc 28 [(vi 0),(vi 0),(vi 0),(.v (.slice none 0 0)),(.v (.slice none 0 0)),(.v (.slice none 0 0)),(.v (.slice none 0 0)),(.v (.slice none 0 0))])⟩
 (of 7 (xn (st 8 11 37))
 .nil)))))
 (of 3 (xo 35 (.msl 3 1 8 [(.int .i64 (0))] (.t 34) (.t 34)))
 (of 1 (xo 33 (.bsl 57 5 1 [(.v (.slice none 0 0)),(.v (.slice none 0 0)),(.v (.slice none 0 0)),(.v (.slice none 0 0)),(.v (.bool false))] [(0,5,(.t 32))]))
 (of 5 (xo 37 (.build [(vi 0),(vi 0),(vi 0),(.v (.slice none 0 0)),(.v (.slice none 0 0)),(.v (.slice none 0 0)),(.v (.slice none 0 0)),(.v (.slice none 0 0))] [(4,1,(.t 33)),(3,1,(.t 35)),(6,1,(.t 36))]))
 (.bring ⟨6,false,[],xo 11 (.alloc 28 [(vi 0),(vi 0),(vi 0),(.v (.slice none 0 0)),(.v (.slice none 0 0)),(.v (.slice none 0 0)),(.v (.slice none 0 0)),(.v (.slice none 0 0))])⟩
 (of 7 (xn (st 8 11 37))
 .nil))))))))))
 (sq (sq (rg [mo 38 1,xo 39 (.len false (.t 38)),xo 40 (.mov (ci 0))])
 (.block 0
 (.loop [40] [41,42,43,13,44,45,46,47,48,49,50,51,52,53,54,7,55,56,57,58,59,60,61,62,40]
 (sq (rg [xo 41 (bi .lss 40 39)])
 (sq (cD 41
 .skip
 (.exit 0))
 (sq (.block 1
 (sq (rg [xo 42 (ia 1 38 40),lo 43 42,mo 13 43])
 (sq (sq (rg [mo 44 13,xo 45 (.call 62 [(.t 44)]),xo 46 (.not (.t 45)),mo 47 46,xg 48 (fa 5 11) 47 false,xg 49 (lf 48) 47 false,xg 50 (mv 13) 47 false,xg 51 (.call 17 [(.t 49),(.t 50)]) 47 false,xg 52 (bc .geq 51 0) 47 false,xo 53 (.pick (.t 47) (.b true) (.t 52))])
 (cD 53
 (sq (rg [xo 54 (.build [(vi 0),(vi 0),(vi 0),(.v (.slice none 0 0)),(.v (.slice none 0 0)),(.v (.slice none 0 0)),(.v (.slice none 0 0)),(.v (.slice none 0 0))] []),xn (st 8 6 54),xo 7 (.mov (ci 1))])
 .ret)
 .skip))
 (rg [fo 55 5 11,lo 56 55,mo 57 13,xo 58 (.build [(.v (.string ⟨#[]⟩)),(.v (.bool false)),(vi 0),(.v (.bool false))] [(0,1,(.t 57))]),xo 59 (.bsl 63 4 1 [(.v (.string ⟨#[]⟩)),(.v (.bool false)),(vi 0),(.v (.bool false))] [(0,4,(.t 58))]),xo 60 (.app 63 4 40 (.t 56) (.t 59)),fo 61 5 11,xn (st 1 61 60)]))))
 (rg [xo 62 (bc .add 40 1),mo 40 62])))))))
 (sq (rg [xo 63 (lt 8 11),xn (st 8 6 63),xo 7 (.mov (ci 0))])
 .ret))))))))⟩
theorem qDO:trFn Tryz.prog 29 [([6],(fs [0,2,4] (.alt (.exec 1 (.exec 3 (.first 5 (.bring 6 (.exec 7 .nil))))) (.exec 3 (.exec 1 (.first 5 (.bring 6 (.exec 7 .nil))))))))] [[40]]=some q1O:=by kernel_rfl
abbrev qhE:Nat:=30
def qoE:FnI:=⟨8,[.tmp 2],
 (sq (rg [xo 2 (.mov (.c (.slice none 0 0)))])
 (sq (sq (rg [mo 3 0,xo 4 (.binn 0 false (.t 3))])
 (cD 4
 (sq (rg [xo 2 (.mov (.c (.slice none 0 0)))])
 .ret)
 .skip))
 (sq (rg [xo 5 (.bsl 3 1 0 [] []),mo 6 0,xo 7 (.app 3 1 8 (.t 5) (.t 6)),mo 2 7])
 .ret)))⟩
theorem qXE:trFn Tryz.prog 30 [] []=some qoE:=by kernel_rfl
abbrev q0B:Nat:=31
def q2B:FnI:=⟨29,[.tmp 6],
 (sq (rg [xo 5 (.box 102 (.t 2)),xo 6 (.mov (.c (.slice none 0 0)))])
 (sq (rg [mo 10 0,xo 11 (.len false (.t 10)),xo 12 (.msl 57 5 104 [(.slice none 0 0),(.slice none 0 0),(.slice none 0 0),(.slice none 0 0),(.bool false)] (.t 11) (.t 11)),mo 7 12])
 (sq (sq (rg [mo 13 0,xo 14 (.len false (.t 13)),xo 15 (.mov (ci 0))])
 (.block 0
 (.loop [15] [16,17,18,19,9,8,20,21,22,23,24,25,26,27,15]
 (sq (rg [xo 16 (bi .lss 15 14)])
 (sq (cD 16
 .skip
 (.exit 0))
 (sq (.block 1
 (sq (rg [mo 17 15,xo 18 (ia 5 13 15),xo 19 (lt 5 18),xo 9 (.alloc 57 [(.v (.slice none 0 0)),(.v (.slice none 0 0)),(.v (.slice none 0 0)),(.v (.slice none 0 0)),(.v (.bool false))]),mo 8 17,xn (st 5 9 19)])
 (rg [mo 20 7,mo 21 8,mo 22 1,xo 23 (lt 0 5),xo 24 (lt 5 9),xo 25 (.callv (.t 22) [(.t 23),(.t 24)]),xo 26 (ia 5 20 21),xn (st 5 26 25)])))
 (rg [xo 27 (bc .add 15 1),mo 15 27])))))))
 (sq (rg [mo 28 7,mo 6 28])
 .ret))))⟩
theorem qyB:trFn Tryz.prog 31 [] [[15]]=some q2B:=by kernel_rfl
abbrev qKB:Nat:=32
def qKF:FnI:=⟨11,[.cell 4 5 true],
 (sq (rg [xo 2 (.box 102 (.t 0)),xo 3 (.box 57 (.t 1)),xo 4 (.alloc 57 [(.v (.slice none 0 0)),(.v (.slice none 0 0)),(.v (.slice none 0 0)),(.v (.slice none 0 0)),(.v (.bool false))])])
 (sq (rg [fo 5 3 3,lo 6 5,xo 7 (lt 0 2),xo 8 (.call 65 [(.t 6),(.c (.func (.func 66) #[] #[])),(.t 7)]),fo 9 3 3,xn (st 1 9 8)])
 (sq (rg [xo 10 (lt 5 3),xn (st 5 4 10)])
 .ret)))⟩
theorem quE:trFn Tryz.prog 32 [] []=some qKF:=by kernel_rfl
abbrev qmB:Nat:=33
def qnB:FnI:=⟨8,[.tmp 2],
 (sq (rg [xo 2 (.mov (.c (.slice none 0 0)))])
 (sq (sq (rg [mo 3 0,xo 4 (.binn 0 false (.t 3))])
 (cD 4
 (sq (rg [xo 2 (.mov (.c (.slice none 0 0)))])
 .ret)
 .skip))
 (sq (rg [xo 5 (.bsl 63 4 0 [] []),mo 6 0,xo 7 (.app 63 4 40 (.t 5) (.t 6)),mo 2 7])
 .ret)))⟩
theorem qiB:trFn Tryz.prog 33 [] []=some qnB:=by kernel_rfl
abbrev qSC:Nat:=34
def qUC:FnI:=⟨29,[.tmp 6],
 (sq (rg [xo 5 (.box 102 (.t 2)),xo 6 (.mov (.c (.slice none 0 0)))])
 (sq (rg [mo 10 0,xo 11 (.len false (.t 10)),xo 12 (.msl 92 1 24 [(.slice none 0 0)] (.t 11) (.t 11)),mo 7 12])
 (sq (sq (rg [mo 13 0,xo 14 (.len false (.t 13)),xo 15 (.mov (ci 0))])
 (.block 0
 (.loop [15] [16,17,18,19,8,9,20,21,22,23,24,25,26,27,15]
 (sq (rg [xo 16 (bi .lss 15 14)])
 (sq (cD 16
 .skip
 (.exit 0))
 (sq (.block 1
 (sq (rg [mo 17 15,xo 18 (ia 1 13 15),lo 19 18,mo 8 17,mo 9 19])
 (rg [mo 20 7,mo 21 8,mo 22 1,xo 23 (lt 0 5),mo 24 9,xo 25 (.callv (.t 22) [(.t 23),(.t 24)]),xo 26 (ia 1 20 21),xn (st 1 26 25)])))
 (rg [xo 27 (bc .add 15 1),mo 15 27])))))))
 (sq (rg [mo 28 7,mo 6 28])
 .ret))))⟩
theorem qRC:trFn Tryz.prog 34 [] [[15]]=some qUC:=by kernel_rfl
abbrev qEC:Nat:=35
def qQH:FnI:=⟨7,[.tmp 4],
 (sq (rg [xo 2 (.box 102 (.t 0)),xo 4 (.mov (.c (.slice none 0 0)))])
 (sq (rg [mo 5 1,xo 6 (.call 67 [(.t 5)]),mo 4 6])
 .ret))⟩
theorem q5G:trFn Tryz.prog 35 [] []=some qQH:=by kernel_rfl
abbrev qXB:Nat:=36
def qYB:FnI:=⟨8,[.tmp 2],
 (sq (rg [xo 2 (.mov (.c (.slice none 0 0)))])
 (sq (sq (rg [mo 3 0,xo 4 (.binn 0 false (.t 3))])
 (cD 4
 (sq (rg [xo 2 (.mov (.c (.slice none 0 0)))])
 .ret)
 .skip))
 (sq (rg [xo 5 (.bsl 89 3 0 [] []),mo 6 0,xo 7 (.app 89 3 24 (.t 5) (.t 6)),mo 2 7])
 .ret)))⟩
theorem qVB:trFn Tryz.prog 36 [] []=some qYB:=by kernel_rfl
abbrev qPB:Nat:=37
def qZA:FnI:=⟨19,[.tmp 4],
 (sq (rg [xo 4 (.mov (ci 0))])
 (sq (sq (rg [mo 6 0,xo 7 (.len false (.t 6)),xo 8 (.mov (ci 0))])
 (.block 0
 (.loop [8] [9,10,5,11,12,13,14,15,16,17,4,18,8]
 (sq (rg [xo 9 (bi .lss 8 7)])
 (sq (cD 9
 .skip
 (.exit 0))
 (sq (.block 1
 (sq (rg [mo 10 8,mo 5 10])
 (sq (rg [mo 11 1,mo 12 0,mo 13 5,xo 14 (ia 4 12 13),xo 15 (lt 4 14),xo 16 (.callv (.t 11) [(.t 15)])])
 (cD 16
 (sq (rg [mo 17 5,mo 4 17])
 .ret)
 .skip))))
 (rg [xo 18 (bc .add 8 1),mo 8 18])))))))
 (sq (rg [xo 4 (.mov (ci (-1)))])
 .ret)))⟩
theorem qNB:trFn Tryz.prog 37 [] [[8]]=some qZA:=by kernel_rfl
abbrev q0J:Nat:=38
theorem q8J:FnOk Tryz.prog 38:=FnOk.of (by kernel_rfl)
def qIG:FnI:=⟨8,[.tmp 3],
 (sq (rg [xo 2 (.box 63 (.t 0)),xo 3 (.mov (.b false))])
 (sq (rg [fo 4 0 2,lo 5 4,lo 6 1,xo 7 (.bins .eql (.t 5) (.t 6)),mo 3 7])
 .ret))⟩
theorem qYJ:trFn Tryz.prog 38 [] []=some qIG:=by kernel_rfl
abbrev qxJ:Nat:=39
def qKK:FnI:=⟨6,[.tmp 0],
 (sq (rg [xo 0 (.mov (.c (.map none)))])
 (sq (rg [xo 1 (.mkm .i64),xo 2 (.build [(.v .nilFunc)] [(0,1,(.c (.func (.func 68) #[] #[])))]),xn (.mup .i64 (.t 1) (ci 0) (.t 2)),xo 3 (.build [(.v .nilFunc)] [(0,1,(.c (.func (.func 70) #[] #[])))]),xn (.mup .i64 (.t 1) (ci 1) (.t 3)),xo 4 (.build [(.v .nilFunc)] [(0,1,(.c (.func (.func 71) #[] #[])))]),xn (.mup .i64 (.t 1) (ci 2) (.t 4)),mo 5 1,mo 0 5])
 .ret))⟩
theorem qVJ:trFn Tryz.prog 39 [] []=some qKK:=by kernel_rfl
abbrev qrB:Nat:=40
theorem q7D:FnOk Tryz.prog 40:=FnOk.of (by kernel_rfl)
def qwB:FnI:=⟨60,[.cell 2 23 true],
 (sq (rg [xo 1 (.box 81 (.t 0)),xo 2 (.alloc 46 zl1)])
 (sq (rd [3] (ot 0 (xo 5 (lt 2 1))
 (of 1 (fo 6 0 1)
 (ot 2 (lo 7 6)
 (of 3 (xo 8 (nk 7))
 (of 4 (fo 9 1 8)
 (ot 5 (lo 10 9)
 (of 6 (xo 11 (.call 72 [(.t 5),(ci 1),(ci 3),(.t 10)]))
 (.bring ⟨7,false,[],xo 3 (.alloc 46 zl1)⟩
 (of 8 (xn (st 23 3 11))
 .nil))))))))))
 (sq (rg [fo 12 8 3,xn (.store 1 (.t 12) (.b true))])
 (sq (rg [fo 13 1 1,lo 14 13,mo 4 14])
 (sq (rg [mo 15 4,mo 16 4,mo 17 4,mo 18 4,mo 19 4,fo 20 0 1,lo 21 20,xo 22 (nk 21),fo 23 1 22,lo 24 23,xo 25 (nk 15),fo 26 13 25,xn (st 1 26 24),xo 27 (nk 16),fo 28 15 27,xn (.store 1 (.t 28) (ci 0)),xo 29 (nk 17),fo 30 16 29,xn (.store 1 (.t 30) (ci 0)),xo 31 (nk 18),fo 32 17 31,xn (.store 1 (.t 32) (ci 0)),xo 33 (nk 19),fo 34 18 33,xn (.store 1 (.t 34) (ci 0))])
 (sq (rd [] (of 0 (mo 35 4)
 (of 2 (fo 37 0 1)
 (ot 3 (lo 38 37)
 (of 4 (xo 39 (nk 38))
 (of 5 (fo 40 5 39)
 (ot 6 (lo 41 40)
 (of 7 (mo 42 4)
 (of 8 (xo 43 (nk 42))
 (of 9 (fo 44 0 43)
 (of 10 (fo 45 1 44)
 (ot 11 (lo 46 45)
 (of 1 (mo 36 4)
 (of 12 (xo 47 (.call 17 [(.t 41),(.t 46)]))
 (of 13 (xo 48 (nk 35))
 (of 14 (fo 49 14 48)
 (of 15 (xn (st 1 49 47))
 (of 16 (xo 50 (nk 36))
 (of 17 (fo 51 11 50)
 (of 18 (xn (.store 1 (.t 51) (ci 4)))
 .nil))))))))))))))))))))
 (sq (sq (rg [mo 52 4,xo 53 (nk 52),fo 54 14 53,lo 55 54,xo 56 (bc .lss 55 0)])
 (cD 56
 (rg [xo 57 (lt 2 1),xo 58 (.call 73 [(.t 57),(ci 2)])])
 .skip))
 (sq (rg [xo 59 (lt 23 3),xn (st 23 2 59)])
 .ret))))))))⟩
theorem q2D:trFn Tryz.prog 40 [([7],(fs [0,1,2,3,4,5] (.exec 6 (.bring 7 (.exec 8 .nil))))),([],(fs [0,2,3,4,5,6,7,8,9,10,11,1] (.exec 12 (.first 13 (.first 14 (.exec 15 (.first 16 (.first 17 (.exec 18 .nil)))))))))] []=some qwB:=by kernel_rfl
abbrev qUD:Nat:=41
theorem qpG:FnOk Tryz.prog 41:=FnOk.of (by kernel_rfl)
def qYD:FnI:=⟨32,[.cell 2 23 true],
 (sq (rg [xo 1 (.box 81 (.t 0)),xo 2 (.alloc 46 zl1)])
 (sq (rd [] (of 0 (fo 4 0 1)
 (ot 1 (lo 5 4)
 (of 2 (xo 6 (nk 5))
 (of 3 (fo 7 5 6)
 (ot 4 (lo 8 7)
 (of 5 (fo 9 1 1)
 (ot 6 (lo 10 9)
 (of 7 (xo 11 (nk 10))
 (of 8 (fo 12 14 11)
 (ot 9 (lo 13 12)
 (ot 10 (xo 14 (ia 4 8 13))
 (of 11 (mo 3 14)
 .nil)))))))))))))
 (sq (rg [mo 15 3,xo 16 (nk 15),fo 17 2 16,lo 18 17,xo 19 (bc .add 18 1),xo 20 (nk 15),fo 21 2 20,xn (st 1 21 19)])
 (sq (rg [fo 22 1 1,lo 23 22,xo 24 (nk 23),fo 25 11 24,xn (.store 1 (.t 25) (ci 5))])
 (sq (rd [] (ot 0 (xo 26 (lt 2 1))
 (of 1 (mo 27 3)
 (of 2 (xo 28 (nk 27))
 (of 3 (fo 29 2 28)
 (ot 4 (lo 30 29)
 (of 5 (xo 31 (.call 72 [(.t 26),(ci 3),(ci 5),(.t 30)]))
 (of 6 (xn (st 23 2 31))
 .nil))))))))
 .ret)))))⟩
theorem qgG:trFn Tryz.prog 41 [([],(fs [0,1,2,3,4,5,6,7,8,9,10,11] .nil)),([],(fs [0,1,2,3,4] (.exec 5 (.exec 6 .nil))))] []=some qYD:=by kernel_rfl
abbrev qLC:Nat:=42
theorem qjE:FnOk Tryz.prog 42:=FnOk.of (by kernel_rfl)
def qPC:FnI:=⟨27,[.cell 2 23 true],
 (sq (rg [xo 1 (.box 81 (.t 0)),xo 2 (.alloc 46 zl1)])
 (sq (sq (rd [] (of 0 (fo 4 0 1)
 (ot 1 (lo 5 4)
 (of 2 (xo 6 (nk 5))
 (of 3 (fo 7 5 6)
 (ot 4 (lo 8 7)
 (of 5 (fo 9 1 1)
 (ot 6 (lo 10 9)
 (of 7 (xo 11 (nk 10))
 (of 8 (fo 12 14 11)
 (ot 9 (lo 13 12)
 (ot 10 (xo 14 (ia 4 8 13))
 (of 11 (fo 15 1 14)
 (ot 12 (lo 16 15)
 .nil))))))))))))))
 (cD 16
 (sq (rg [xo 17 (lt 2 1),xo 18 (.call 72 [(.t 17),(ci 1),(ci 4),(ci 1)]),xo 3 (.alloc 46 zl1),xn (st 23 3 18)])
 (sq (rg [fo 19 8 3,xn (.store 1 (.t 19) (.b true))])
 (sq (rg [xo 20 (lt 2 1),xo 21 (.call 73 [(.t 20),(ci 5)])])
 (sq (rg [xo 22 (lt 23 3),xn (st 23 2 22)])
 .ret))))
 .skip))
 (sq (rg [xo 23 (lt 2 1),xo 24 (.call 74 [(.t 23)])])
 (sq (rg [xo 25 (lt 2 1),xo 26 (.call 72 [(.t 25),(ci 1),(ci 4),(ci 0)]),xn (st 23 2 26)])
 .ret))))⟩
theorem qYE:trFn Tryz.prog 42 [([],(fs [0,1,2,3,4,5,6,7,8,9,10,11,12] .nil))] []=some qPC:=by kernel_rfl
abbrev qHD:Nat:=43
theorem q7F:FnOk Tryz.prog 43:=FnOk.of (by kernel_rfl)
def qMD:FnI:=⟨36,[.cell 2 23 true],
 (sq (rg [xo 1 (.box 81 (.t 0)),xo 2 (.alloc 46 zl1)])
 (sq (rg [xo 4 (lt 2 1),xo 5 (.call 75 [(.t 4)]),xo 6 (nk 5),fo 7 0 6,lo 8 7,mo 3 8])
 (sq (rg [xo 9 (lt 2 1),xo 10 (.call 75 [(.t 9)]),xo 11 (nk 10),fo 12 0 11,lo 13 12,xo 14 (.bini .add (.t 13) (.c (.int .u64 (1)))),xo 15 (nk 10),fo 16 0 15,xn (st 1 16 14)])
 (sq (rd [] (of 0 (fo 18 1 1)
 (ot 1 (lo 19 18)
 (ot 2 (xo 20 (lt 2 1))
 (of 4 (mo 22 3)
 (of 3 (xo 21 (.call 77 [(.t 20)]))
 (of 5 (xo 23 (.call 76 [(.t 21),(.t 22)]))
 (of 6 (mo 17 23)
 (of 7 (xo 24 (.ext 0 (.t 17)))
 (of 9 (xo 26 (nk 19))
 (of 10 (fo 27 16 26)
 (of 8 (xo 25 (.ext 1 (.t 17)))
 (of 11 (xn (st 1 27 24))
 .nil)))))))))))))
 (sq (rg [fo 28 1 1,lo 29 28,xo 30 (nk 29),fo 31 11 30,xn (.store 1 (.t 31) (ci 9))])
 (sq (rg [xo 32 (lt 2 1),mo 33 3,xo 34 (.conv .i64 (.t 33)),xo 35 (.call 78 [(.t 32),(ci 3),(ci 6),(.t 34)]),xn (st 23 2 35)])
 .ret))))))⟩
theorem qpF:trFn Tryz.prog 43 [([],(fs [0,1,2,4] (.exec 3 (.exec 5 (fs [6,7,9,10,8] (.exec 11 .nil))))))] []=some qMD:=by kernel_rfl
abbrev qsB:Nat:=44
theorem q8D:FnOk Tryz.prog 44:=FnOk.of (by kernel_rfl)
def qxB:FnI:=⟨23,[.cell 2 23 true],
 (sq (rg [xo 1 (.box 81 (.t 0)),xo 2 (.alloc 46 zl1)])
 (sq (rd [] (of 0 (fo 3 1 1)
 (ot 1 (lo 4 3)
 (ot 4 (xo 7 (lt 2 1))
 (of 2 (fo 5 1 1)
 (ot 3 (lo 6 5)
 (of 5 (xo 8 (.call 79 [(.t 7)]))
 (of 6 (xo 9 (nk 8))
 (of 7 (fo 10 2 9)
 (ot 8 (lo 11 10)
 (of 9 (xo 12 (nk 4))
 (of 10 (fo 13 21 12)
 (.op ⟨11,false,[3],xn (st 1 13 11)⟩
 (of 12 (xo 14 (nk 6))
 (of 13 (fo 15 11 14)
 (of 14 (xn (.store 1 (.t 15) (ci 8)))
 .nil))))))))))))))))
 (sq (rd [] (ot 0 (xo 16 (lt 2 1))
 (of 1 (fo 17 1 1)
 (ot 2 (lo 18 17)
 (of 3 (xo 19 (nk 18))
 (of 4 (fo 20 21 19)
 (ot 5 (lo 21 20)
 (of 6 (xo 22 (.call 78 [(.t 16),(ci 1),(ci 7),(.t 21)]))
 (of 7 (xn (st 23 2 22))
 .nil)))))))))
 .ret)))⟩
theorem q3D:trFn Tryz.prog 44 [([],(fs [0,1,4,2,3] (.exec 5 (fs [6,7,8,9,10] (.exec 11 (.first 12 (.first 13 (.exec 14 .nil)))))))),([],(fs [0,1,2,3,4,5] (.exec 6 (.exec 7 .nil))))] []=some qxB:=by kernel_rfl
abbrev qqB:Nat:=45
theorem q6D:FnOk Tryz.prog 45:=FnOk.of (by kernel_rfl)
def qvB:FnI:=⟨42,[.cell 2 23 true],
 (sq (rg [xo 1 (.box 81 (.t 0)),xo 2 (.alloc 46 zl1)])
 (sq (rg [fo 5 1 1,lo 6 5,mo 3 6])
 (sq (rd [] (ot 0 (xo 7 (lt 2 1))
 (of 5 (mo 12 3)
 (of 6 (xo 13 (nk 12))
 (of 7 (fo 14 17 13)
 (ot 8 (lo 15 14)
 (of 1 (xo 8 (.call 75 [(.t 7)]))
 (of 2 (xo 9 (nk 8))
 (of 3 (fo 10 1 9)
 (ot 4 (lo 11 10)
 (ot 9 (xo 16 (ia 3 11 15))
 (of 10 (fo 17 2 16)
 (ot 11 (lo 18 17)
 (of 12 (mo 4 18)
 .nil))))))))))))))
 (sq (rd [] (of 0 (mo 19 3)
 (of 2 (mo 21 3)
 (of 3 (xo 22 (nk 21))
 (of 4 (fo 23 16 22)
 (ot 5 (lo 24 23)
 (of 6 (mo 25 3)
 (of 7 (xo 26 (nk 25))
 (of 8 (fo 27 21 26)
 (ot 9 (lo 28 27)
 (of 10 (mo 29 3)
 (of 11 (xo 30 (nk 29))
 (of 12 (fo 31 17 30)
 (ot 13 (lo 32 31)
 (of 14 (mo 33 4)
 (of 1 (mo 20 3)
 (of 15 (xo 34 (.call 80 [(.t 24),(.t 28),(.t 32),(.t 33)]))
 (of 16 (xo 35 (nk 19))
 (of 17 (fo 36 16 35)
 (of 18 (xn (st 1 36 34))
 (of 19 (xo 37 (nk 20))
 (of 20 (fo 38 11 37)
 (of 21 (xn (.store 1 (.t 38) (ci 9)))
 .nil)))))))))))))))))))))))
 (sq (rg [xo 39 (lt 2 1),mo 40 4,xo 41 (.call 78 [(.t 39),(ci 1),(ci 7),(.t 40)]),xn (st 23 2 41)])
 .ret)))))⟩
theorem q1D:trFn Tryz.prog 45 [([],(fs [0,5,6,7,8] (.exec 1 (fs [2,3,4,9,10,11,12] .nil)))),([],(fs [0,2,3,4,5,6,7,8,9,10,11,12,13,14,1] (.exec 15 (.first 16 (.first 17 (.exec 18 (.first 19 (.first 20 (.exec 21 .nil)))))))))] []=some qvB:=by kernel_rfl
abbrev qgC:Nat:=46
theorem qFF:FnOk Tryz.prog 46:=FnOk.of (by kernel_rfl)
def qmC:FnI:=⟨44,[.cell 2 23 true],
 (sq (rg [xo 1 (.box 81 (.t 0)),xo 2 (.alloc 46 zl1)])
 (sq (rg [fo 5 1 1,lo 6 5,mo 3 6])
 (sq (rg [mo 7 3,xo 8 (lt 2 1),xo 9 (.call 79 [(.t 8)]),xo 10 (nk 9),fo 11 0 10,lo 12 11,xo 13 (nk 7),fo 14 19 13,xn (st 1 14 12)])
 (sq (rg [mo 15 3,xo 16 (nk 15),fo 17 19 16,lo 18 17,xo 19 (.call 81 [(.t 18)]),mo 4 19])
 (sq (sq (rg [mo 20 4,xo 21 (bc .lss 20 0),mo 22 21,xg 23 (mv 4) 22 false,xg 24 (lt 2 1) 22 false,xg 25 (.call 79 [(.t 24)]) 22 false,xg 26 (nk 25) 22 false,xg 27 (fa 1 26) 22 false,xg 28 (lf 27) 22 false,xg 29 (.len false (.t 28)) 22 false,xg 30 (bi .geq 23 29) 22 false,xo 31 (.pick (.t 22) (.b true) (.t 30))])
 (cD 31
 (rg [xo 32 (lt 2 1),xo 33 (.call 73 [(.t 32),(ci 4)])])
 (rg [mo 34 3,mo 35 3,mo 36 4,xo 37 (nk 34),fo 38 18 37,xn (st 1 38 36),xo 39 (nk 35),fo 40 11 39,xn (.store 1 (.t 40) (ci 10))])))
 (sq (rg [xo 41 (lt 2 1),mo 42 4,xo 43 (.call 78 [(.t 41),(ci 1),(ci 8),(.t 42)]),xn (st 23 2 43)])
 .ret))))))⟩
theorem qzE:trFn Tryz.prog 46 [] []=some qmC:=by kernel_rfl
abbrev qfC:Nat:=47
theorem qEF:FnOk Tryz.prog 47:=FnOk.of (by kernel_rfl)
def qlC:FnI:=⟨30,[.cell 2 23 true],
 (sq (rg [xo 1 (.box 81 (.t 0)),xo 2 (.alloc 46 zl1)])
 (sq (rd [] (of 0 (fo 3 1 1)
 (ot 1 (lo 4 3)
 (ot 4 (xo 7 (lt 2 1))
 (of 9 (fo 12 1 1)
 (ot 10 (lo 13 12)
 (of 11 (xo 14 (nk 13))
 (of 12 (fo 15 18 14)
 (ot 13 (lo 16 15)
 (of 2 (fo 5 1 1)
 (ot 3 (lo 6 5)
 (of 5 (xo 8 (.call 79 [(.t 7)]))
 (of 6 (xo 9 (nk 8))
 (of 7 (fo 10 1 9)
 (ot 8 (lo 11 10)
 (ot 14 (xo 17 (ia 1 11 16))
 (ot 15 (lo 18 17)
 (of 16 (xo 19 (nk 4))
 (of 17 (fo 20 20 19)
 (.op ⟨18,false,[3],xn (st 1 20 18)⟩
 (of 19 (xo 21 (nk 6))
 (of 20 (fo 22 11 21)
 (of 21 (xn (.store 1 (.t 22) (ci 11)))
 .nil)))))))))))))))))))))))
 (sq (rd [] (ot 0 (xo 23 (lt 2 1))
 (of 1 (fo 24 1 1)
 (ot 2 (lo 25 24)
 (of 3 (xo 26 (nk 25))
 (of 4 (fo 27 20 26)
 (ot 5 (lo 28 27)
 (of 6 (xo 29 (.call 78 [(.t 23),(ci 1),(ci 9),(.t 28)]))
 (of 7 (xn (st 23 2 29))
 .nil)))))))))
 .ret)))⟩
theorem qyE:trFn Tryz.prog 47 [([],(fs [0,1,4,9,10,11,12,13,2,3] (.exec 5 (fs [6,7,8,14,15,16,17] (.exec 18 (.first 19 (.first 20 (.exec 21 .nil)))))))),([],(fs [0,1,2,3,4,5] (.exec 6 (.exec 7 .nil))))] []=some qlC:=by kernel_rfl
abbrev qtC:Nat:=48
theorem qvC:FnOk Tryz.prog 48:=FnOk.of (by kernel_rfl)
def qxC:FnI:=⟨59,[.cell 2 23 true],
 (sq (rg [xo 1 (.box 81 (.t 0)),xo 2 (.alloc 46 zl1)])
 (sq (rg [fo 6 1 1,lo 7 6,mo 3 7])
 (sq (rd [] (of 0 (mo 9 3)
 (of 1 (xo 10 (nk 9))
 (of 2 (fo 11 19 10)
 (ot 3 (lo 12 11)
 (of 4 (mo 13 3)
 (of 5 (xo 14 (nk 13))
 (of 6 (fo 15 20 14)
 (ot 7 (lo 16 15)
 (of 8 (xo 17 (.call 82 [(.t 12),(.t 16)]))
 (of 9 (mo 8 17)
 (of 10 (xo 18 (.ext 0 (.t 8)))
 (of 11 (xo 19 (.ext 1 (.t 8)))
 (of 12 (mo 4 18)
 (of 13 (mo 5 19)
 .nil)))))))))))))))
 (sq (sq (rd [] (ot 0 (xo 20 (lt 2 1))
 (of 5 (mo 25 3)
 (of 6 (xo 26 (nk 25))
 (of 7 (fo 27 19 26)
 (ot 8 (lo 28 27)
 (of 1 (xo 21 (.call 79 [(.t 20)]))
 (of 2 (xo 22 (nk 21))
 (of 3 (fo 23 0 22)
 (ot 4 (lo 24 23)
 (of 9 (xo 29 (bi .neq 24 28))
 (of 10 (mo 30 29)
 (of 11 (xg 31 (mv 5) 30 false)
 (of 12 (xg 32 (bc .neq 31 0) 30 false)
 (of 13 (xo 33 (.pick (.t 30) (.b true) (.t 32)))
 .nil)))))))))))))))
 (cD 33
 (sq (rg [mo 34 3,xo 35 (nk 34),fo 36 11 35,xn (.store 1 (.t 36) (ci 9))])
 (sq (rd [] (ot 0 (xo 37 (lt 2 1))
 (ot 1 (xo 38 (lt 2 1))
 (of 2 (xo 39 (.call 79 [(.t 38)]))
 (of 3 (xo 40 (nk 39))
 (of 4 (fo 41 0 40)
 (ot 5 (lo 42 41)
 (of 6 (xo 43 (.call 81 [(.t 42)]))
 (of 7 (xo 44 (.call 78 [(.t 37),(ci 5),(ci 8),(.t 43)]))
 (of 8 (xn (st 23 2 44))
 .nil))))))))))
 .ret))
 .skip))
 (sq (rg [xo 45 (lt 2 1),xo 46 (.call 79 [(.t 45)]),mo 47 3,mo 48 4,xo 49 (nk 46),fo 50 0 49,xn (st 1 50 48),xo 51 (nk 47),fo 52 11 51,xn (.store 1 (.t 52) (ci 12))])
 (sq (rd [] (ot 0 (xo 53 (lt 2 1))
 (of 1 (mo 54 3)
 (of 2 (xo 55 (nk 54))
 (of 3 (fo 56 18 55)
 (ot 4 (lo 57 56)
 (of 5 (xo 58 (.call 78 [(.t 53),(ci 4),(ci 8),(.t 57)]))
 (of 6 (xn (st 23 2 58))
 .nil))))))))
 .ret))))))⟩
theorem qYF:trFn Tryz.prog 48 [([],(fs [0,1,2,3,4,5,6,7] (.exec 8 (fs [9,10,11,12,13] .nil)))),([],(fs [0,5,6,7,8] (.exec 1 (fs [2,3,4,9,10,11,12,13] .nil)))),([],(.first 0 (.first 1 (.exec 2 (fs [3,4,5] (.exec 6 (.exec 7 (.exec 8 .nil)))))))),([],(fs [0,1,2,3,4] (.exec 5 (.exec 6 .nil))))] []=some qxC:=by kernel_rfl
abbrev qID:Nat:=49
theorem q8F:FnOk Tryz.prog 49:=FnOk.of (by kernel_rfl)
def qND:FnI:=⟨48,[.cell 2 23 true],
 (sq (rg [xo 1 (.box 81 (.t 0)),xo 2 (.alloc 46 zl1)])
 (sq (rg [fo 4 1 1,lo 5 4,mo 3 5])
 (sq (rg [xo 6 (lt 2 1),xo 7 (.call 79 [(.t 6)]),xo 8 (nk 7),fo 9 2 8,lo 10 9,xo 11 (bc .add 10 1),xo 12 (nk 7),fo 13 2 12,xn (st 1 13 11)])
 (sq (rd [] (of 0 (mo 14 3)
 (of 1 (mo 15 3)
 (of 2 (xo 16 (nk 15))
 (of 3 (fo 17 13 16)
 (ot 4 (lo 18 17)
 (of 5 (mo 19 3)
 (of 6 (xo 20 (nk 19))
 (of 7 (fo 21 15 20)
 (ot 8 (lo 22 21)
 (of 9 (mo 23 3)
 (of 10 (xo 24 (nk 23))
 (of 11 (fo 25 16 24)
 (ot 12 (lo 26 25)
 (of 13 (mo 27 3)
 (of 14 (xo 28 (nk 27))
 (of 15 (fo 29 18 28)
 (ot 16 (lo 30 29)
 (of 17 (mo 31 3)
 (of 18 (xo 32 (nk 31))
 (of 19 (fo 33 14 32)
 (ot 20 (lo 34 33)
 (of 21 (xo 35 (.build zl2 [(0,1,(ci 1)),(1,1,(.t 18)),(2,1,(.t 22)),(3,1,(.t 26)),(4,1,(.t 30)),(5,1,(.t 34))]))
 (of 22 (xo 36 (nk 14))
 (of 23 (fo 37 25 36)
 (of 24 (xn (st 13 37 35))
 .nil))))))))))))))))))))))))))
 (sq (rg [mo 38 3,xo 39 (nk 38),fo 40 11 39,xn (.store 1 (.t 40) (ci 20))])
 (sq (rd [] (ot 0 (xo 41 (lt 2 1))
 (ot 1 (xo 42 (lt 2 1))
 (of 2 (xo 43 (.call 79 [(.t 42)]))
 (of 3 (xo 44 (nk 43))
 (of 4 (fo 45 2 44)
 (ot 5 (lo 46 45)
 (of 6 (xo 47 (.call 78 [(.t 41),(ci 3),(ci 7),(.t 46)]))
 (of 7 (xn (st 23 2 47))
 .nil)))))))))
 .ret))))))⟩
theorem qqF:trFn Tryz.prog 49 [([],(fs [0,1,2,3,4,5,6,7,8,9,10,11,12,13,14,15,16,17,18,19,20,21,22,23] (.exec 24 .nil))),([],(.first 0 (.first 1 (.exec 2 (fs [3,4,5] (.exec 6 (.exec 7 .nil)))))))] []=some qND:=by kernel_rfl
abbrev qMC:Nat:=50
theorem qkE:FnOk Tryz.prog 50:=FnOk.of (by kernel_rfl)
def qQC:FnI:=⟨40,[.cell 2 23 true],
 (sq (rg [xo 1 (.box 81 (.t 0)),xo 2 (.alloc 46 zl1)])
 (sq (rg [fo 4 1 1,lo 5 4,xo 6 (nk 5),fo 7 25 6,fo 8 0 7,lo 9 8,mo 3 9])
 (sq (sq (rg [mo 10 3,xo 11 (bc .lss 10 1),mo 12 11,xg 13 (mv 3) 12 false,xg 14 (bc .gtr 13 5) 12 false,xo 15 (.pick (.t 12) (.b true) (.t 14))])
 (cD 15
 (rg [xo 3 (.mov (ci 0))])
 .skip))
 (sq (rd [] (of 0 (fo 16 0 1)
 (ot 1 (lo 17 16)
 (of 2 (xo 18 (nk 17))
 (of 3 (fo 19 6 18)
 (ot 4 (lo 20 19)
 (of 5 (fo 21 1 1)
 (ot 6 (lo 22 21)
 (of 7 (xo 23 (nk 22))
 (of 8 (fo 24 10 23)
 (ot 9 (lo 25 24)
 (ot 10 (xo 26 (ia 1 20 25))
 (ot 11 (lo 27 26)
 (of 12 (mo 28 3)
 (ot 13 (xo 29 (ia 1 27 28))
 (ot 14 (lo 30 29)
 (of 15 (xo 31 (.bini .add (.t 30) (.c (.int .u64 (1)))))
 (ot 16 (xo 32 (ia 1 27 28))
 (of 17 (xn (st 1 32 31))
 .nil)))))))))))))))))))
 (sq (rg [fo 33 1 1,lo 34 33,xo 35 (nk 34),fo 36 11 35,xn (.store 1 (.t 36) (ci 21))])
 (sq (rg [xo 37 (lt 2 1),mo 38 3,xo 39 (.call 72 [(.t 37),(ci 3),(ci 10),(.t 38)]),xn (st 23 2 39)])
 .ret))))))⟩
theorem qZE:trFn Tryz.prog 50 [([],(fs [0,1,2,3,4,5,6,7,8,9,10,11,12,13,14,15,16] (.exec 17 .nil)))] []=some qQC:=by kernel_rfl
abbrev qhC:Nat:=51
theorem qGF:FnOk Tryz.prog 51:=FnOk.of (by kernel_rfl)
def qnC:FnI:=⟨44,[.cell 2 23 true],
 (sq (rg [xo 1 (.box 81 (.t 0)),xo 2 (.alloc 46 zl1)])
 (sq (rd [] (of 0 (fo 3 0 1)
 (ot 1 (lo 4 3)
 (of 2 (xo 5 (nk 4))
 (of 3 (fo 6 6 5)
 (ot 4 (lo 7 6)
 (of 5 (fo 8 1 1)
 (ot 6 (lo 9 8)
 (of 7 (xo 10 (nk 9))
 (of 8 (fo 11 10 10)
 (ot 9 (lo 12 11)
 (ot 10 (xo 13 (ia 1 7 12))
 (ot 11 (lo 14 13)
 (ot 12 (xo 15 (.iadr 1 (.t 14) (ci 0)))
 (ot 13 (lo 16 15)
 (of 14 (xo 17 (.bini .add (.t 16) (.c (.int .u64 (1)))))
 (ot 15 (xo 18 (.iadr 1 (.t 14) (ci 0)))
 (of 16 (xn (st 1 18 17))
 .nil))))))))))))))))))
 (sq (rg [fo 19 1 1,lo 20 19,xo 21 (nk 20),fo 22 11 21,xn (.store 1 (.t 22) (ci 22))])
 (sq (sq (rg [fo 23 1 1,lo 24 23,xo 25 (nk 24),fo 26 25 25,fo 27 0 26,lo 28 27,xo 29 (bc .eql 28 1),mo 30 29,xg 31 (fa 1 1) 30 false,xg 32 (lf 31) 30 false,xg 33 (nk 32) 30 false,xg 34 (fa 14 33) 30 false,xg 35 (lf 34) 30 false,xg 36 (bc .lss 35 0) 30 false,xo 37 (.pick (.t 30) (.b true) (.t 36))])
 (cD 37
 (rg [fo 38 1 1,lo 39 38,xo 40 (nk 39),fo 41 11 40,xn (.store 1 (.t 41) (ci 23))])
 .skip))
 (sq (rg [xo 42 (lt 2 1),xo 43 (.call 72 [(.t 42),(ci 3),(ci 10),(ci 0)]),xn (st 23 2 43)])
 .ret)))))⟩
theorem q0E:trFn Tryz.prog 51 [([],(fs [0,1,2,3,4,5,6,7,8,9,10,11,12,13,14,15] (.exec 16 .nil)))] []=some qnC:=by kernel_rfl
abbrev qTD:Nat:=52
theorem qoG:FnOk Tryz.prog 52:=FnOk.of (by kernel_rfl)
def qXD:FnI:=⟨32,[.cell 2 23 true],
 (sq (rg [xo 1 (.box 81 (.t 0)),xo 2 (.alloc 46 zl1)])
 (sq (rd [] (of 0 (fo 4 0 1)
 (ot 1 (lo 5 4)
 (of 2 (xo 6 (nk 5))
 (of 3 (fo 7 5 6)
 (ot 4 (lo 8 7)
 (of 5 (fo 9 1 1)
 (ot 6 (lo 10 9)
 (of 7 (xo 11 (nk 10))
 (of 8 (fo 12 14 11)
 (ot 9 (lo 13 12)
 (ot 10 (xo 14 (ia 4 8 13))
 (of 11 (mo 3 14)
 .nil)))))))))))))
 (sq (rg [mo 15 3,xo 16 (nk 15),fo 17 2 16,lo 18 17,xo 19 (bc .sub 18 1),xo 20 (nk 15),fo 21 2 20,xn (st 1 21 19)])
 (sq (rg [fo 22 1 1,lo 23 22,xo 24 (nk 23),fo 25 11 24,xn (.store 1 (.t 25) (ci 23))])
 (sq (rd [] (ot 0 (xo 26 (lt 2 1))
 (of 1 (mo 27 3)
 (of 2 (xo 28 (nk 27))
 (of 3 (fo 29 2 28)
 (ot 4 (lo 30 29)
 (of 5 (xo 31 (.call 72 [(.t 26),(ci 3),(ci 5),(.t 30)]))
 (of 6 (xn (st 23 2 31))
 .nil))))))))
 .ret)))))⟩
theorem qeG:trFn Tryz.prog 52 [([],(fs [0,1,2,3,4,5,6,7,8,9,10,11] .nil)),([],(fs [0,1,2,3,4] (.exec 5 (.exec 6 .nil))))] []=some qXD:=by kernel_rfl
abbrev qSD:Nat:=53
theorem qnG:FnOk Tryz.prog 53:=FnOk.of (by kernel_rfl)
def qVD:FnI:=⟨33,[.cell 2 23 true],
 (sq (rg [xo 1 (.box 81 (.t 0)),xo 2 (.alloc 46 zl1)])
 (sq (rd [3,4] (of 0 (fo 6 0 1)
 (ot 1 (lo 7 6)
 (of 2 (xo 8 (nk 7))
 (ot 3 (xo 9 (lt 8 8))
 (of 4 (fo 10 1 1)
 (ot 5 (lo 11 10)
 (of 6 (xo 12 (nk 11))
 (ot 7 (xo 13 (lt 44 12))
 (of 8 (xo 14 (.call 83 [(.t 9),(.t 13)]))
 (of 9 (mo 5 14)
 (of 10 (xo 15 (.ext 0 (.t 5)))
 (of 11 (xo 16 (.ext 1 (.t 5)))
 (.bring ⟨12,false,[],xo 3 (.alloc 28 [(vi 0),(vi 0),(vi 0),(.v (.slice none 0 0)),(.v (.slice none 0 0)),(.v (.slice none 0 0)),(.v (.slice none 0 0)),(.v (.slice none 0 0))])⟩
 (.bring ⟨13,false,[],xo 4 (.alloc 46 zl1)⟩
 (of 14 (xn (st 8 3 15))
 (of 15 (xn (st 23 4 16))
 .nil)))))))))))))))))
 (sq (rg [fo 17 0 1,lo 18 17,xo 19 (lt 8 3),xo 20 (nk 18),xn (st 8 20 19)])
 (sq (rd [] (of 0 (fo 21 1 1)
 (ot 1 (lo 22 21)
 (of 2 (fo 23 1 1)
 (ot 3 (lo 24 23)
 (of 4 (xo 25 (nk 24))
 (of 5 (fo 26 25 25)
 (ot 6 (xo 27 (lt 13 26))
 (of 7 (xo 28 (nk 22))
 (of 8 (fo 29 24 28)
 (of 9 (xn (.store 1 (.t 29) (.b true)))
 (of 10 (fo 30 9 4)
 (of 11 (xn (.store 1 (.t 30) (.b true)))
 (of 12 (fo 31 10 4)
 (of 13 (xn (st 13 31 27))
 .nil)))))))))))))))
 (sq (rg [xo 32 (lt 23 4),xn (st 23 2 32)])
 .ret)))))⟩
theorem qbG:trFn Tryz.prog 53 [([12,13],(fs [0,1,2,3,4,5,6,7] (.exec 8 (fs [9,10,11] (.bring 12 (.bring 13 (.exec 14 (.exec 15 .nil)))))))),([],(fs [0,1,2,3,4,5,6,7,8] (.exec 9 (.first 10 (.exec 11 (.first 12 (.exec 13 .nil)))))))] []=some qVD:=by kernel_rfl
abbrev q3L:Nat:=54
def q8H:FnI:=⟨4,[.tmp 2],
 (sq (rg [xo 1 (.box 65 (.t 0)),xo 2 (.mov (.c .nilFunc))])
 (sq (rg [xo 3 (.mkf (.func 84) [] [(.t 1)]),mo 2 3])
 .ret))⟩
theorem qUL:trFn Tryz.prog 54 [] []=some q8H:=by kernel_rfl
abbrev qFQ:Nat:=55
def qVQ:FnI:=⟨23,[.tmp 2],
 (sq (rg [xo 2 (.mov (.b false))])
 (sq (sq (rg [mo 5 0,xo 6 (.len false (.t 5)),xo 7 (.mov (ci 0))])
 (.block 0
 (.loop [7] [8,9,10,4,11,12,13,2,14,7]
 (sq (rg [xo 8 (bi .lss 7 6)])
 (sq (cD 8
 .skip
 (.exit 0))
 (sq (.block 1
 (sq (rg [xo 9 (ia 1 5 7),lo 10 9,mo 4 10])
 (sq (rg [mo 11 4,xo 12 (.len false (.t 11)),xo 13 (bc .neq 12 6)])
 (cD 13
 (sq (rg [xo 2 (.mov (.b false))])
 .ret)
 .skip))))
 (rg [xo 14 (bc .add 7 1),mo 7 14])))))))
 (sq (rg [mo 15 0,xo 16 (.len false (.t 15)),xo 17 (bc .geq 16 1),mo 18 17,xg 19 (mv 0) 18 true,xg 20 (.len false (.t 19)) 18 true,xg 21 (bc .leq 20 8) 18 true,xo 22 (.pick (.t 18) (.t 21) (.b false)),mo 2 22])
 .ret)))⟩
theorem qoP:trFn Tryz.prog 55 [] [[7]]=some qVQ:=by kernel_rfl
abbrev q6C:Nat:=56
def q9A:FnI:=⟨9,[.tmp 4],
 (sq (rg [xo 4 (.mov (.b false))])
 (sq (rg [mo 5 0,mo 6 1,xo 7 (.call 85 [(.t 5),(.t 6)]),xo 8 (bc .geq 7 0),mo 4 8])
 .ret))⟩
theorem qyC:trFn Tryz.prog 56 [] []=some q9A:=by kernel_rfl
abbrev q9I:Nat:=57
theorem qDJ:FnOk Tryz.prog 57:=FnOk.of (by kernel_rfl)
def qSF:FnI:=⟨13,[.tmp 3],
 (sq (rg [xo 3 (.mov (.b false))])
 (sq (rg [mo 4 0,xo 5 (bc .lss 4 0),mo 6 5,xg 7 (mv 0) 6 false,xg 8 (fa 0 1) 6 false,xg 9 (lf 8) 6 false,xg 10 (bc .add 9 1) 6 false,xg 11 (bi .gtr 7 10) 6 false,xo 12 (.pick (.t 6) (.b true) (.t 11)),mo 3 12])
 .ret))⟩
theorem q4I:trFn Tryz.prog 57 [] []=some qSF:=by kernel_rfl
abbrev qqO:Nat:=58
def q7O:FnI:=⟨8,[.tmp 4],
 (sq (rg [xo 3 (.box 3 (.t 1)),xo 4 (.mov (.b false))])
 (sq (rg [mo 5 0,xo 6 (.mkf (.func 87) [] [(.t 3)]),xo 7 (.call 86 [(.t 5),(.t 6)]),mo 4 7])
 .ret))⟩
theorem qJO:trFn Tryz.prog 58 [] []=some q7O:=by kernel_rfl
abbrev qQR:Nat:=59
def qbR:FnI:=⟨13,[.tmp 2],
 (sq (rg [xo 1 (.box 54 (.t 0)),xo 2 (.mov (.b false))])
 (sq (rg [xo 6 (lt 3 1),xo 7 (.call 89 [(.t 6)]),xo 8 (.call 88 [(.t 7)]),mo 5 8,xo 9 (.ext 0 (.t 5)),xo 10 (.ext 1 (.t 5)),mo 3 9,mo 4 10])
 (sq (rg [mo 11 3,xo 12 (bc .eql 11 0),mo 2 12])
 .ret)))⟩
theorem qmQ:trFn Tryz.prog 59 [] []=some qbR:=by kernel_rfl
abbrev qdI:Nat:=60
theorem qgI:FnOk Tryz.prog 60:=FnOk.of (by kernel_rfl)
def qlE:FnI:=⟨15,[.tmp 3],
 (sq (rg [xo 2 (.box 65 (.t 0)),xo 3 (.mov (.b false))])
 (sq (rg [xo 4 (lt 3 2),xo 5 (.call 23 [(.t 4)]),xo 6 (.not (.t 5)),mo 7 6,xg 8 (fa 1 2) 7 false,xg 9 (lf 8) 7 false,xg 10 (.len false (.t 9)) 7 false,xg 11 (fa 2 1) 7 false,xg 12 (lf 11) 7 false,xg 13 (bi .neq 10 12) 7 false,xo 14 (.pick (.t 7) (.b true) (.t 13)),mo 3 14])
 .ret))⟩
theorem qRI:trFn Tryz.prog 60 [] []=some qlE:=by kernel_rfl
abbrev qfB:Nat:=61
def qdA:FnI:=⟨9,[.tmp 4],
 (sq (rg [xo 4 (.mov (.b false))])
 (sq (rg [mo 5 0,mo 6 1,xo 7 (.call 90 [(.t 5),(.t 6)]),xo 8 (bc .geq 7 0),mo 4 8])
 .ret))⟩
theorem qaB:trFn Tryz.prog 61 [] []=some qdA:=by kernel_rfl
abbrev qMN:Nat:=62
def qmN:FnI:=⟨21,[.tmp 2],
 (sq (rg [xo 2 (.mov (.b false))])
 (sq (rg [mo 3 0,xo 4 (.len true (.t 3)),xo 5 (bc .gtr 4 0),mo 6 5,xg 7 (mv 0) 6 true,xg 8 (.len true (.t 7)) 6 true,xg 9 (bc .leq 8 16) 6 true,xo 10 (.pick (.t 6) (.t 9) (.b false)),mo 11 10,xg 12 (mv 0) 11 true,xg 13 (.idxs (.t 12) (ci 0)) 11 true,xg 14 (.call 91 [(.t 13)]) 11 true,xo 15 (.pick (.t 11) (.t 14) (.b false)),mo 16 15,xg 17 (.call 92 []) 16 true,xg 18 (mv 0) 16 true,xg 19 (.call 93 [(.t 17),(.t 18),(.c (.int .u8 (45)))]) 16 true,xo 20 (.pick (.t 16) (.t 19) (.b false)),mo 2 20])
 .ret))⟩
theorem qsM:trFn Tryz.prog 62 [] []=some qmN:=by kernel_rfl
abbrev q1L:Nat:=63
def qSM:FnI:=⟨53,[.cell 2 5 true,.tmp 3],
 (sq (rg [xo 1 (.box 54 (.t 0)),xo 2 (.alloc 57 [(.v (.slice none 0 0)),(.v (.slice none 0 0)),(.v (.slice none 0 0)),(.v (.slice none 0 0)),(.v (.bool false))]),xo 3 (.mov (ci 0))])
 (sq (sq (rg [xo 10 (lt 3 1),xo 11 (.call 59 [(.t 10)]),xo 12 (.not (.t 11))])
 (cD 12
 (sq (rg [xo 13 (.build [(.v (.slice none 0 0)),(.v (.slice none 0 0)),(.v (.slice none 0 0)),(.v (.slice none 0 0)),(.v (.bool false))] []),xn (st 5 2 13),xo 3 (.mov (ci 1))])
 .ret)
 .skip))
 (sq (rg [xo 14 (lt 3 1),xo 15 (.build [(.v (.slice none 0 0)),(.v (.slice none 0 0)),(.v (.slice none 0 0)),(.v (.slice none 0 0)),(.v (.bool false))] [(0,3,(.t 14))]),xo 4 (.alloc 57 [(.v (.slice none 0 0)),(.v (.slice none 0 0)),(.v (.slice none 0 0)),(.v (.slice none 0 0)),(.v (.bool false))]),xn (st 5 4 15)])
 (sq (sq (rg [fo 16 2 1,lo 17 16,xo 18 (.len false (.t 17)),xo 19 (.mov (ci 0))])
 (.block 0
 (.loop [19] [20,21,22,6,7,23,24,25,26,27,29,30,31,28,32,33,8,9,34,35,36,37,3,38,39,40,41,42,43,44,45,46,47,48,49,50,51,19]
 (sq (rg [xo 20 (bi .lss 19 18)])
 (sq (cD 20
 .skip
 (.exit 0))
 (sq (.block 1
 (sq (rg [xo 21 (ia 4 17 19),xo 22 (lt 4 21),xo 6 (.alloc 96 [(.v (.string ⟨#[]⟩)),(vi 0),(vi 0),(.v (.slice none 0 0))]),xn (st 4 6 22)])
 (sq (rg [xo 7 (.alloc 61 [(.v (.int .u64 (0))),(.v (.slice none 0 0))])])
 (sq (sq (rg [fo 23 3 6,lo 24 23,xo 25 (.len false (.t 24)),xo 26 (.mov (ci 0))])
 (.block 2
 (.loop [26] [27,29,30,31,28,32,33,8,9,34,35,36,37,3,38,39,40,41,42,43,44,26]
 (sq (rg [xo 27 (bi .lss 26 25)])
 (sq (cD 27
 .skip
 (.exit 2))
 (sq (.block 3
 (sq (rg [fo 29 2 6,lo 30 29,xo 31 (.call 94 [(.t 30)]),mo 28 31,xo 32 (.ext 0 (.t 28)),xo 33 (.ext 1 (.t 28)),xo 8 (.alloc 65 [(.v (.int .u64 (0))),(.v (.slice none 0 0)),(vi 0)]),xn (st 3 8 32),mo 9 33])
 (sq (sq (rg [mo 34 9,xo 35 (bc .neq 34 0)])
 (cD 35
 (sq (rg [xo 36 (.build [(.v (.slice none 0 0)),(.v (.slice none 0 0)),(.v (.slice none 0 0)),(.v (.slice none 0 0)),(.v (.bool false))] []),mo 37 9,xn (st 5 2 36),mo 3 37])
 .ret)
 .skip))
 (rg [fo 38 1 7,lo 39 38,xo 40 (lt 3 8),xo 41 (.bsl 65 3 1 [(.v (.int .u64 (0))),(.v (.slice none 0 0)),(vi 0)] [(0,3,(.t 40))]),xo 42 (.app 65 3 40 (.t 39) (.t 41)),fo 43 1 7,xn (st 1 43 42)]))))
 (rg [xo 44 (bc .add 26 1),mo 26 44])))))))
 (rg [fo 45 3 4,lo 46 45,xo 47 (lt 2 7),xo 48 (.bsl 61 2 1 [(.v (.int .u64 (0))),(.v (.slice none 0 0))] [(0,2,(.t 47))]),xo 49 (.app 61 2 32 (.t 46) (.t 48)),fo 50 3 4,xn (st 1 50 49)])))))
 (rg [xo 51 (bc .add 19 1),mo 19 51])))))))
 (sq (rg [xo 52 (lt 5 4),xn (st 5 2 52),xo 3 (.mov (ci 0))])
 .ret)))))⟩
theorem qSL:trFn Tryz.prog 63 [] [[19],[26]]=some qSM:=by kernel_rfl
abbrev qnO:Nat:=64
def q4O:FnI:=⟨25,[.tmp 2,.tmp 3],
 (sq (rg [xo 2 (.mov (.c (.slice none 0 0))),xo 3 (.mov (ci 0))])
 (sq (sq (rg [mo 6 0,xo 7 (bc .lss 6 1),mo 8 7,xg 9 (mv 0) 8 false,xg 10 (bc .gtr 9 8) 8 false,xo 11 (.pick (.t 8) (.b true) (.t 10))])
 (cD 11
 (sq (rg [xo 2 (.mov (.c (.slice none 0 0))),xo 3 (.mov (ci 1))])
 .ret)
 .skip))
 (sq (rg [mo 12 0,xo 13 (.msl 92 1 24 [(.slice none 0 0)] (.t 12) (.t 12)),mo 4 13])
 (sq (sq (rg [mo 14 4,xo 15 (.len false (.t 14)),xo 16 (.mov (ci 0))])
 (.block 0
 (.loop [16] [17,18,5,19,20,21,22,23,16]
 (sq (rg [xo 17 (bi .lss 16 15)])
 (sq (cD 17
 .skip
 (.exit 0))
 (sq (.block 1
 (sq (rg [mo 18 16,mo 5 18])
 (rg [mo 19 4,mo 20 5,xo 21 (.msl 36 1 8 [(.int .u64 (0))] (ci 6) (ci 6)),xo 22 (ia 1 19 20),xn (st 1 22 21)])))
 (rg [xo 23 (bc .add 16 1),mo 16 23])))))))
 (sq (rg [mo 24 4,mo 2 24,xo 3 (.mov (ci 0))])
 .ret)))))⟩
theorem qGO:trFn Tryz.prog 64 [] [[16]]=some q4O:=by kernel_rfl
abbrev qDC:Nat:=65
def qGC:FnI:=⟨29,[.tmp 6],
 (sq (rg [xo 5 (.box 102 (.t 2)),xo 6 (.mov (.c (.slice none 0 0)))])
 (sq (rg [mo 10 0,xo 11 (.len false (.t 10)),xo 12 (.msl 61 2 32 [(.int .u64 (0)),(.slice none 0 0)] (.t 11) (.t 11)),mo 7 12])
 (sq (sq (rg [mo 13 0,xo 14 (.len false (.t 13)),xo 15 (.mov (ci 0))])
 (.block 0
 (.loop [15] [16,17,18,19,9,8,20,21,22,23,24,25,26,27,15]
 (sq (rg [xo 16 (bi .lss 15 14)])
 (sq (cD 16
 .skip
 (.exit 0))
 (sq (.block 1
 (sq (rg [mo 17 15,xo 18 (ia 2 13 15),xo 19 (lt 2 18),xo 9 (.alloc 61 [(.v (.int .u64 (0))),(.v (.slice none 0 0))]),mo 8 17,xn (st 2 9 19)])
 (rg [mo 20 7,mo 21 8,mo 22 1,xo 23 (lt 0 5),xo 24 (lt 2 9),xo 25 (.callv (.t 22) [(.t 23),(.t 24)]),xo 26 (ia 2 20 21),xn (st 2 26 25)])))
 (rg [xo 27 (bc .add 15 1),mo 15 27])))))))
 (sq (rg [mo 28 7,mo 6 28])
 .ret))))⟩
theorem qBC:trFn Tryz.prog 65 [] [[15]]=some qGC:=by kernel_rfl
abbrev qeB:Nat:=66
def qEG:FnI:=⟨11,[.cell 4 2 true],
 (sq (rg [xo 2 (.box 102 (.t 0)),xo 3 (.box 61 (.t 1)),xo 4 (.alloc 61 [(.v (.int .u64 (0))),(.v (.slice none 0 0))])])
 (sq (rg [fo 5 1 3,lo 6 5,xo 7 (lt 0 2),xo 8 (.call 95 [(.t 6),(.c (.func (.func 96) #[] #[])),(.t 7)]),fo 9 1 3,xn (st 1 9 8)])
 (sq (rg [xo 10 (lt 2 3),xn (st 2 4 10)])
 .ret)))⟩
theorem qnF:trFn Tryz.prog 66 [] []=some qEG:=by kernel_rfl
abbrev qGD:Nat:=67
def qKD:FnI:=⟨8,[.tmp 2],
 (sq (rg [xo 2 (.mov (.c (.slice none 0 0)))])
 (sq (sq (rg [mo 3 0,xo 4 (.binn 0 false (.t 3))])
 (cD 4
 (sq (rg [xo 2 (.mov (.c (.slice none 0 0)))])
 .ret)
 .skip))
 (sq (rg [xo 5 (.bsl 36 1 0 [] []),mo 6 0,xo 7 (.app 36 1 8 (.t 5) (.t 6)),mo 2 7])
 .ret)))⟩
theorem qCD:trFn Tryz.prog 67 [] []=some qKD:=by kernel_rfl
abbrev qBF:Nat:=68
theorem qIM:FnOk Tryz.prog 68:=FnOk.of (by kernel_rfl)
def qBI:FnI:=⟨17,[.cell 4 23 true],
 (sq (rg [xo 4 (.alloc 46 zl1)])
 (sq (rg [mo 5 1,mo 6 1,mo 7 0,xo 8 (nk 7),fo 9 0 8,lo 10 9,xo 11 (nk 5),fo 12 12 11,xn (st 1 12 10),xo 13 (nk 6),fo 14 11 13,xn (.store 1 (.t 14) (ci 1))])
 (sq (rg [mo 15 0,xo 16 (.call 69 [(.t 15)]),xn (st 23 4 16)])
 .ret)))⟩
theorem qaL:trFn Tryz.prog 68 [] []=some qBI:=by kernel_rfl
abbrev qGQ:Nat:=69
def qJL:FnI:=⟨8,[.cell 2 23 true],
 (sq (rg [xo 2 (.alloc 46 zl1)])
 (sq (rg [mo 3 0,xo 4 (nk 3),fo 5 0 4,lo 6 5,xo 7 (.build zl1 [(2,1,(ci 1)),(3,1,(ci 1)),(6,1,(.t 6))]),xn (st 23 2 7)])
 .ret))⟩
theorem qpP:trFn Tryz.prog 69 [] []=some qJL:=by kernel_rfl
abbrev qAF:Nat:=70
theorem qHM:FnOk Tryz.prog 70:=FnOk.of (by kernel_rfl)
def qAI:FnI:=⟨28,[.cell 4 23 true],
 (sq (rg [xo 4 (.alloc 46 zl1)])
 (sq (rd [] (of 0 (mo 5 0)
 (of 1 (xo 6 (nk 5))
 (of 2 (fo 7 3 6)
 (ot 3 (lo 8 7)
 (of 4 (mo 9 1)
 (of 5 (xo 10 (nk 9))
 (of 6 (fo 11 10 10)
 (ot 7 (lo 12 11)
 (of 9 (mo 14 1)
 (of 10 (xo 15 (nk 14))
 (of 11 (fo 16 12 15)
 (ot 12 (lo 17 16)
 (of 13 (xo 18 (bc .add 17 1))
 (ot 14 (xo 19 (ia 1 8 12))
 (of 8 (mo 13 1)
 (of 15 (xn (st 1 19 18))
 (of 16 (xo 20 (nk 13))
 (of 17 (fo 21 11 20)
 (of 18 (xn (.store 1 (.t 21) (ci 2)))
 .nil))))))))))))))))))))
 (sq (rg [mo 22 1,xo 23 (nk 22),fo 24 12 23,lo 25 24,xo 26 (bc .add 25 1),xo 27 (.build zl1 [(2,1,(ci 2)),(3,1,(ci 2)),(6,1,(.t 26))]),xn (st 23 4 27)])
 .ret)))⟩
theorem qZL:trFn Tryz.prog 70 [([],(fs [0,1,2,3,4,5,6,7,9,10,11,12,13,14,8] (.exec 15 (.first 16 (.first 17 (.exec 18 .nil))))))] []=some qAI:=by kernel_rfl
abbrev q9E:Nat:=71
theorem qGM:FnOk Tryz.prog 71:=FnOk.of (by kernel_rfl)
def q9H:FnI:=⟨29,[.cell 4 23 true],
 (sq (rg [xo 4 (.alloc 46 zl1)])
 (sq (rg [mo 5 1,xo 6 (nk 5),fo 7 11 6,xn (.store 1 (.t 7) (ci 1))])
 (sq (sq (rd [] (of 0 (mo 8 0)
 (of 1 (xo 9 (nk 8))
 (of 2 (fo 10 0 9)
 (ot 3 (lo 11 10)
 (of 4 (mo 12 1)
 (of 5 (xo 13 (nk 12))
 (of 6 (fo 14 12 13)
 (ot 7 (lo 15 14)
 (of 8 (xo 16 (bi .eql 11 15))
 .nil))))))))))
 (cD 16
 (rg [mo 17 1,xo 18 (nk 17),fo 19 11 18,xn (.store 1 (.t 19) (ci 3))])
 .skip))
 (sq (rg [mo 20 1,mo 21 0,xo 22 (nk 21),fo 23 0 22,lo 24 23,xo 25 (nk 20),fo 26 12 25,xn (st 1 26 24)])
 (sq (rg [mo 27 0,xo 28 (.call 69 [(.t 27)]),xn (st 23 4 28)])
 .ret)))))⟩
theorem qYL:trFn Tryz.prog 71 [([],(fs [0,1,2,3,4,5,6,7,8] .nil))] []=some q9H:=by kernel_rfl
abbrev qjG:Nat:=72
def qrG:FnI:=⟨18,[.cell 8 23 true],
 (sq (rg [xo 4 (.box 81 (.t 0)),xo 8 (.alloc 46 zl1)])
 (sq (rg [fo 9 1 4,lo 10 9,xo 11 (nk 10),fo 12 10 11,lo 13 12,mo 14 1,mo 15 2,mo 16 3,xo 17 (.build zl1 [(0,1,(.t 13)),(2,1,(.t 14)),(3,1,(.t 15)),(4,1,(ci (-1))),(6,1,(.t 16))]),xn (st 23 8 17)])
 .ret))⟩
theorem qdG:trFn Tryz.prog 72 [] []=some qrG:=by kernel_rfl
abbrev qMH:Nat:=73
def qvD:FnI:=⟨14,[],
 (sq (rg [xo 2 (.box 81 (.t 0))])
 (rd [] (of 0 (fo 4 1 2)
 (ot 1 (lo 5 4)
 (of 4 (mo 8 1)
 (of 5 (xo 9 (.build zl2 [(0,1,(.t 8))]))
 (of 6 (xo 10 (nk 5))
 (of 7 (fo 11 25 10)
 (of 2 (fo 6 1 2)
 (ot 3 (lo 7 6)
 (.op ⟨8,false,[3],xn (st 13 11 9)⟩
 (of 9 (xo 12 (nk 7))
 (of 10 (fo 13 11 12)
 (of 11 (xn (.store 1 (.t 13) (ci 20)))
 .nil))))))))))))))⟩
theorem qCH:trFn Tryz.prog 73 [([],(fs [0,1,4,5,6,7,2,3] (.exec 8 (.first 9 (.first 10 (.exec 11 .nil))))))] []=some qvD:=by kernel_rfl
abbrev qiG:Nat:=74
def qWD:FnI:=⟨89,[],
 (sq (rg [xo 1 (.box 81 (.t 0))])
 (sq (rg [fo 7 1 1,lo 8 7,mo 2 8])
 (sq (rd [] (of 0 (fo 10 0 1)
 (ot 1 (lo 11 10)
 (of 2 (xo 12 (nk 11))
 (of 3 (fo 13 4 12)
 (ot 4 (lo 14 13)
 (of 5 (mo 15 2)
 (of 6 (xo 16 (nk 15))
 (of 7 (fo 17 13 16)
 (ot 8 (lo 18 17)
 (ot 9 (xo 19 (ia 5 14 18))
 (of 10 (fo 20 0 19)
 (ot 11 (xo 21 (lt 3 20))
 (of 12 (mo 22 2)
 (of 13 (xo 23 (nk 22))
 (of 14 (fo 24 0 23)
 (of 15 (fo 25 1 24)
 (ot 16 (lo 26 25)
 (of 17 (mo 27 2)
 (of 18 (xo 28 (nk 27))
 (of 19 (fo 29 0 28)
 (of 20 (fo 30 2 29)
 (ot 21 (lo 31 30)
 (of 22 (mo 32 2)
 (of 23 (xo 33 (nk 32))
 (of 24 (fo 34 0 33)
 (of 25 (fo 35 3 34)
 (ot 26 (lo 36 35)
 (of 27 (xo 37 (.call 97 [(.t 21),(.t 26),(.t 31),(.t 36)]))
 (of 28 (mo 9 37)
 (of 29 (xo 38 (.ext 0 (.t 9)))
 (of 30 (xo 39 (.ext 1 (.t 9)))
 (of 31 (mo 3 38)
 (of 32 (mo 4 39)
 .nil))))))))))))))))))))))))))))))))))
 (sq (sq (rg [mo 40 4,xo 41 (bc .neq 40 0)])
 (cD 41
 (sq (rg [xo 42 (lt 2 1),xo 43 (.call 73 [(.t 42),(ci 2)])])
 .ret)
 .skip))
 (sq (rg [mo 44 2,mo 45 3,xo 46 (nk 44),fo 47 15 46,xn (st 1 47 45)])
 (sq (rd [] (ot 0 (xo 49 (lt 2 1))
 (of 2 (mo 51 2)
 (of 3 (xo 52 (nk 51))
 (of 4 (fo 53 0 52)
 (of 5 (fo 54 4 53)
 (ot 6 (lo 55 54)
 (of 7 (mo 56 2)
 (of 8 (xo 57 (nk 56))
 (of 9 (fo 58 0 57)
 (of 10 (fo 59 5 58)
 (ot 11 (lo 60 59)
 (of 1 (xo 50 (.call 77 [(.t 49)]))
 (of 12 (xo 61 (.call 98 [(.t 50),(.t 55),(.t 60)]))
 (of 13 (mo 48 61)
 (of 14 (xo 62 (.ext 0 (.t 48)))
 (of 15 (xo 63 (.ext 1 (.t 48)))
 (of 16 (xo 64 (.ext 2 (.t 48)))
 (of 17 (mo 5 62)
 (of 18 (mo 6 63)
 (of 19 (mo 4 64)
 .nil)))))))))))))))))))))
 (.block 0
 (sq (rg [mo 77 4,xo 78 (bc .neq 77 0),mo 76 78])
 (cD 76
 (rg [xo 79 (lt 2 1),xo 80 (.call 73 [(.t 79),(ci 3)])])
 (sq (rg [xo 82 (lt 2 1),xo 83 (.call 77 [(.t 82)]),xo 84 (.fld 1 1 false (.t 83)),xo 85 (bc .eql 84 1),mo 81 85])
 (cD 81
 (rg [mo 86 2,xo 87 (nk 86),fo 88 11 87,xn (.store 1 (.t 88) (ci 6))])
 (rg [mo 65 2,mo 66 2,mo 67 2,mo 68 5,mo 69 6,xo 70 (nk 65),fo 71 16 70,xn (st 1 71 68),xo 72 (nk 66),fo 73 17 72,xn (st 1 73 69),xo 74 (nk 67),fo 75 11 74,xn (.store 1 (.t 75) (ci 7))]))))))))))))⟩
theorem qcG:trFn Tryz.prog 74 [([],(fs [0,1,2,3,4,5,6,7,8,9,10,11,12,13,14,15,16,17,18,19,20,21,22,23,24,25,26] (.exec 27 (fs [28,29,30,31,32] .nil)))),([],(fs [0,2,3,4,5,6,7,8,9,10,11] (.exec 1 (.exec 12 (fs [13,14,15,16,17,18,19] .nil)))))] []=some qWD:=by kernel_rfl
abbrev qkG:Nat:=75
def qsG:FnI:=⟨22,[.tmp 2],
 (sq (rg [xo 1 (.box 81 (.t 0)),xo 2 (.mov (.c (.pointer none)))])
 (sq (rd [] (of 0 (fo 3 0 1)
 (ot 1 (lo 4 3)
 (of 2 (xo 5 (nk 4))
 (of 3 (fo 6 4 5)
 (ot 4 (lo 7 6)
 (of 5 (fo 8 1 1)
 (ot 6 (lo 9 8)
 (of 7 (xo 10 (nk 9))
 (of 8 (fo 11 13 10)
 (ot 9 (lo 12 11)
 (ot 10 (xo 13 (ia 5 7 12))
 (of 11 (fo 14 3 13)
 (ot 12 (lo 15 14)
 (of 13 (fo 16 1 1)
 (ot 14 (lo 17 16)
 (of 15 (xo 18 (nk 17))
 (of 16 (fo 19 15 18)
 (ot 17 (lo 20 19)
 (ot 18 (xo 21 (ia 2 15 20))
 (of 19 (mo 2 21)
 .nil)))))))))))))))))))))
 .ret))⟩
theorem qfG:trFn Tryz.prog 75 [([],(fs [0,1,2,3,4,5,6,7,8,9,10,11,12,13,14,15,16,17,18,19] .nil))] []=some qsG:=by kernel_rfl
abbrev qIN:Nat:=76
def qjN:FnI:=⟨20,[.tmp 4,.tmp 5],
 (sq (rg [xo 2 (.box 96 (.t 0)),xo 4 (.mov (ci 0)),xo 5 (.mov (ci 0))])
 (sq (rg [xo 7 (lt 4 2),xo 8 (.call 99 [(.t 7)]),mo 6 8])
 (sq (sq (rg [mo 9 6,xo 10 (.len false (.t 9)),xo 11 (bc .eql 10 0)])
 (cD 11
 (sq (rg [xo 4 (.mov (ci 0)),xo 5 (.mov (ci 5))])
 .ret)
 .skip))
 (sq (rg [mo 12 6,mo 13 1,mo 14 6,xo 15 (.len false (.t 14)),xo 16 (.conv .u64 (.t 15)),xo 17 (bi .rem 13 16),xo 18 (ia 1 12 17),lo 19 18,mo 4 19,xo 5 (.mov (ci 0))])
 .ret))))⟩
theorem qoM:trFn Tryz.prog 76 [] []=some qjN:=by kernel_rfl
abbrev qcF:Nat:=77
def qgF:FnI:=⟨24,[.cell 2 4 true],
 (sq (rg [xo 1 (.box 81 (.t 0)),xo 2 (.alloc 96 [(.v (.string ⟨#[]⟩)),(vi 0),(vi 0),(.v (.slice none 0 0))])])
 (sq (rd [] (of 0 (fo 3 0 1)
 (ot 1 (lo 4 3)
 (of 2 (xo 5 (nk 4))
 (of 3 (fo 6 4 5)
 (ot 4 (lo 7 6)
 (of 5 (fo 8 1 1)
 (ot 6 (lo 9 8)
 (of 7 (xo 10 (nk 9))
 (of 8 (fo 11 13 10)
 (ot 9 (lo 12 11)
 (ot 10 (xo 13 (ia 5 7 12))
 (of 11 (fo 14 0 13)
 (of 12 (fo 15 2 14)
 (ot 13 (lo 16 15)
 (of 14 (fo 17 1 1)
 (ot 15 (lo 18 17)
 (of 16 (xo 19 (nk 18))
 (of 17 (fo 20 15 19)
 (ot 18 (lo 21 20)
 (ot 19 (xo 22 (ia 4 16 21))
 (ot 20 (xo 23 (lt 4 22))
 (of 21 (xn (st 4 2 23))
 .nil)))))))))))))))))))))))
 .ret))⟩
theorem qXF:trFn Tryz.prog 77 [([],(fs [0,1,2,3,4,5,6,7,8,9,10,11,12,13,14,15,16,17,18,19,20] (.exec 21 .nil)))] []=some qgF:=by kernel_rfl
abbrev qxH:Nat:=78
def qHI:FnI:=⟨36,[.cell 8 23 true],
 (sq (rg [xo 4 (.box 81 (.t 0)),xo 8 (.alloc 46 zl1)])
 (sq (rg [xo 10 (lt 2 4),mo 11 1,mo 12 2,mo 13 3,xo 14 (.call 72 [(.t 10),(.t 11),(.t 12),(.t 13)]),xo 9 (.alloc 46 zl1),xn (st 23 9 14)])
 (sq (rd [] (of 0 (fo 15 1 4)
 (ot 1 (lo 16 15)
 (of 2 (xo 17 (nk 16))
 (of 3 (fo 18 13 17)
 (ot 4 (lo 19 18)
 (of 18 (fo 33 4 9)
 (of 5 (fo 20 0 4)
 (of 10 (fo 25 1 4)
 (ot 6 (lo 21 20)
 (of 7 (xo 22 (nk 21))
 (of 8 (fo 23 4 22)
 (ot 9 (lo 24 23)
 (ot 11 (lo 26 25)
 (of 12 (xo 27 (nk 26))
 (of 13 (fo 28 13 27)
 (ot 14 (lo 29 28)
 (ot 15 (xo 30 (ia 5 24 29))
 (of 16 (fo 31 4 30)
 (ot 17 (lo 32 31)
 (.op ⟨19,false,[17,15,14,11,9,6],xn (st 1 33 19)⟩
 (of 20 (fo 34 5 9)
 (of 21 (xn (st 1 34 32))
 .nil)))))))))))))))))))))))
 (sq (rg [xo 35 (lt 23 9),xn (st 23 8 35)])
 .ret))))⟩
theorem qdH:trFn Tryz.prog 78 [([],(fs [0,1,2,3,4,18,5,10,6,7,8,9,11,12,13,14,15,16,17] (.exec 19 (.first 20 (.exec 21 .nil)))))] []=some qHI:=by kernel_rfl
abbrev qyH:Nat:=79
def qII:FnI:=⟨14,[.tmp 2],
 (sq (rg [xo 1 (.box 81 (.t 0)),xo 2 (.mov (.c (.pointer none)))])
 (sq (rd [] (ot 0 (xo 3 (lt 2 1))
 (of 5 (fo 8 1 1)
 (ot 6 (lo 9 8)
 (of 7 (xo 10 (nk 9))
 (of 8 (fo 11 16 10)
 (ot 9 (lo 12 11)
 (of 1 (xo 4 (.call 75 [(.t 3)]))
 (of 2 (xo 5 (nk 4))
 (of 3 (fo 6 1 5)
 (ot 4 (lo 7 6)
 (ot 10 (xo 13 (ia 3 7 12))
 (of 11 (mo 2 13)
 .nil)))))))))))))
 .ret))⟩
theorem qeH:trFn Tryz.prog 79 [([],(fs [0,5,6,7,8,9] (.exec 1 (fs [2,3,4,10,11] .nil))))] []=some qII:=by kernel_rfl
abbrev qON:Nat:=80
def qoN:FnI:=⟨14,[.tmp 8],
 (sq (rg [xo 8 (.mov (ci 0))])
 (sq (sq (rg [mo 9 3,mo 10 1,xo 11 (bi .lss 9 10)])
 (cD 11
 (sq (rg [mo 12 2,mo 8 12])
 .ret)
 .skip))
 (sq (rg [mo 13 0,mo 8 13])
 .ret)))⟩
theorem quM:trFn Tryz.prog 80 [] []=some qoN:=by kernel_rfl
abbrev qlO:Nat:=81
def q2O:FnI:=⟨7,[.tmp 2],
 (sq (rg [xo 2 (.mov (ci 0))])
 (sq (rg [mo 3 0,xo 4 (.conv .u32 (.t 3)),xo 5 (.conv .i64 (.t 4)),xo 6 (.bini .add (.t 5) (ci (-1))),mo 2 6])
 .ret))⟩
theorem qEO:trFn Tryz.prog 81 [] []=some q2O:=by kernel_rfl
abbrev q7K:Nat:=82
def qSQ:FnI:=⟨13,[.tmp 4,.tmp 5],
 (sq (rg [xo 4 (.mov (.c (.int .u64 (0)))),xo 5 (.mov (ci 0))])
 (sq (rg [mo 6 0,xo 7 (.call 101 [(.t 6)]),xo 8 (.bini .add (.t 7) (.c (.int .u32 (1)))),mo 9 1,xo 10 (.call 100 [(.t 8),(.t 9)]),xo 11 (.ext 0 (.t 10)),xo 12 (.ext 1 (.t 10)),mo 4 11,mo 5 12])
 .ret))⟩
theorem qyK:trFn Tryz.prog 82 [] []=some qSQ:=by kernel_rfl
abbrev qRR:Nat:=83
def qcR:FnI:=⟨23,[.cell 4 8 true,.cell 5 23 true],
 (sq (rg [xo 2 (.box 28 (.t 0)),xo 3 (.box 41 (.t 1)),xo 4 (.alloc 28 [(vi 0),(vi 0),(vi 0),(.v (.slice none 0 0)),(.v (.slice none 0 0)),(.v (.slice none 0 0)),(.v (.slice none 0 0)),(.v (.slice none 0 0))]),xo 5 (.alloc 46 zl1)])
 (sq (sq (rg [xo 6 (lt 8 2),xo 7 (lt 44 3),xo 8 (.call 6 [(.t 6),(.t 7)]),xo 9 (.not (.t 8))])
 (cD 9
 (sq (rg [xo 10 (lt 8 2),xo 11 (.build zl1 []),xn (st 8 4 10),xn (st 23 5 11)])
 .ret)
 .skip))
 (sq (rg [xo 12 (lt 8 2),xo 13 (.call 16 [(.t 12)]),xn (st 8 2 13)])
 (sq (rg [fo 14 3 2,lo 15 14,fo 16 10 3,lo 17 16,xo 18 (ia 1 15 17),xn (.store 1 (.t 18) (ci 0))])
 (sq (rd [] (ot 0 (xo 19 (lt 8 2))
 (of 1 (fo 20 10 3)
 (ot 2 (lo 21 20)
 (of 3 (xo 22 (.build zl1 [(0,1,(.t 21)),(2,1,(ci 2)),(3,1,(ci 2)),(4,1,(ci (-1)))]))
 (.op ⟨4,false,[2],xn (st 8 4 19)⟩
 (of 5 (xn (st 23 5 22))
 .nil)))))))
 .ret)))))⟩
theorem qnQ:trFn Tryz.prog 83 [([],(fs [0,1,2,3] (.exec 4 (.exec 5 .nil))))] []=some qcR:=by kernel_rfl
abbrev qwJ:Nat:=84
theorem q6J:FnOk Tryz.prog 84:=FnOk.of (by kernel_rfl)
def qGG:FnI:=⟨44,[],
 (.scope
 (sq (rg [fo 5 1 1,lo 6 5,xo 7 (.len false (.t 6)),xo 8 (.msl 4 1 1 [(.bool false)] (.t 7) (.t 7)),mo 3 8])
 (sq (rg [fo 9 0 1,lo 10 9,xo 11 (.call 81 [(.t 10)]),mo 4 11])
 (sq (.label 0)
 (sq (.block 0
 (.loop [4] [12,13,14,15,16,17,18,19,20,21,22,23,24,25,26,27,28,4,29,30,31,32,33,34,35,36,37,38,39,40]
 (sq (sq (rg [mo 12 4,xo 13 (.bini .neq (.t 12) (ci (-1)))])
 (cD 13
 .skip
 (.exit 0)))
 (.block 1
 (sq (sq (rg [mo 14 4,xo 15 (bc .lss 14 0),mo 16 15,xg 17 (mv 4) 16 false,xg 18 (fa 1 1) 16 false,xg 19 (lf 18) 16 false,xg 20 (.len false (.t 19)) 16 false,xg 21 (bi .geq 17 20) 16 false,xo 22 (.pick (.t 16) (.b true) (.t 21)),mo 23 22,xg 24 (mv 3) 23 false,xg 25 (mv 4) 23 false,xg 26 (ia 1 24 25) 23 false,xg 27 (lf 26) 23 false,xo 28 (.pick (.t 23) (.b true) (.t 27))])
 (cD 28
 (sq (rg [xo 4 (.mov (ci (-2)))])
 (.exit 0))
 .skip))
 (sq (rg [mo 29 3,mo 30 4,xo 31 (ia 1 29 30),xn (.store 1 (.t 31) (.b true))])
 (sq (sq (rg [mo 32 0,mo 33 4,xo 34 (.callv (.t 32) [(.t 33)]),xo 35 (.not (.t 34))])
 (cD 35
 .ret
 .skip))
 (rg [fo 36 1 1,lo 37 36,mo 38 4,xo 39 (ia 1 37 38),lo 40 39,mo 4 40]))))))))
 (rg [mo 41 0,mo 42 4,xo 43 (.callv (.t 41) [(.t 42)])]))))))⟩
theorem qUJ:trFn Tryz.prog 84 [] [[4]]=some qGG:=by kernel_rfl
abbrev qeD:Nat:=85
def qTB:FnI:=⟨19,[.tmp 4],
 (sq (rg [xo 4 (.mov (ci 0))])
 (sq (sq (rg [mo 6 0,xo 7 (.len false (.t 6)),xo 8 (.mov (ci 0))])
 (.block 0
 (.loop [8] [9,10,5,11,12,13,14,15,16,17,4,18,8]
 (sq (rg [xo 9 (bi .lss 8 7)])
 (sq (cD 9
 .skip
 (.exit 0))
 (sq (.block 1
 (sq (rg [mo 10 8,mo 5 10])
 (sq (rg [mo 11 1,mo 12 0,mo 13 5,xo 14 (ia 1 12 13),lo 15 14,xo 16 (.callv (.t 11) [(.t 15)])])
 (cD 16
 (sq (rg [mo 17 5,mo 4 17])
 .ret)
 .skip))))
 (rg [xo 18 (bc .add 8 1),mo 8 18])))))))
 (sq (rg [xo 4 (.mov (ci (-1)))])
 .ret)))⟩
theorem qbD:trFn Tryz.prog 85 [] [[8]]=some qTB:=by kernel_rfl
abbrev qzA:Nat:=86
def qTA:FnI:=⟨9,[.tmp 4],
 (sq (rg [xo 4 (.mov (.b false))])
 (sq (rg [mo 5 0,mo 6 1,xo 7 (.call 102 [(.t 5),(.t 6)]),xo 8 (bc .geq 7 0),mo 4 8])
 .ret))⟩
theorem qxA:trFn Tryz.prog 86 [] []=some qTA:=by kernel_rfl
abbrev q8L:Nat:=87
theorem qJM:FnOk Tryz.prog 87:=FnOk.of (by kernel_rfl)
def qDI:FnI:=⟨8,[.tmp 3],
 (sq (rg [xo 2 (.box 89 (.t 0)),xo 3 (.mov (.b false))])
 (sq (rg [fo 4 0 2,lo 5 4,lo 6 1,xo 7 (bi .eql 5 6),mo 3 7])
 .ret))⟩
theorem qcL:trFn Tryz.prog 87 [] []=some qDI:=by kernel_rfl
abbrev qlK:Nat:=88
def qtK:FnI:=⟨35,[.tmp 2,.tmp 3],
 (sq (rg [xo 1 (.box 33 (.t 0)),xo 2 (.mov (ci 0)),xo 3 (.mov (ci 0))])
 (sq (rg [xo 9 (lt 3 1),xo 10 (.build [(.v (.slice none 0 0)),(.v (.slice none 0 0)),(.v (.slice none 0 0))] [(0,3,(.t 9))]),xo 4 (.alloc 178 [(.v (.slice none 0 0)),(.v (.slice none 0 0)),(.v (.slice none 0 0))]),xn (st 3 4 10)])
 (sq (sq (rg [xo 11 (lt 3 4),xo 12 (.mkf (.func 103) [(.t 11)] []),xo 13 (lt 3 4),xo 14 (.mkf (.func 104) [(.t 13)] []),xo 15 (lt 3 4),xo 16 (.mkf (.func 105) [(.t 15)] []),xo 17 (lt 3 4),xo 18 (.mkf (.func 106) [(.t 17)] []),xo 19 (.bsl 179 1 4 [(.v .nilFunc),(.v .nilFunc),(.v .nilFunc),(.v .nilFunc)] [(0,1,(.t 12)),(1,1,(.t 14)),(2,1,(.t 16)),(3,1,(.t 18))]),xo 20 (.len false (.t 19)),xo 21 (.mov (ci 0))])
 (.block 0
 (.loop [21] [22,23,24,6,26,27,25,28,29,7,8,30,31,32,33,2,3,34,21]
 (sq (rg [xo 22 (bi .lss 21 20)])
 (sq (cD 22
 .skip
 (.exit 0))
 (sq (.block 1
 (sq (rg [xo 23 (ia 1 19 21),lo 24 23,mo 6 24])
 (sq (rg [mo 26 6,xo 27 (.callv (.t 26) []),mo 25 27,xo 28 (.ext 0 (.t 25)),xo 29 (.ext 1 (.t 25)),mo 7 28,mo 8 29])
 (sq (rg [mo 30 7,xo 31 (bc .neq 30 0)])
 (cD 31
 (sq (rg [mo 32 7,mo 33 8,mo 2 32,mo 3 33])
 .ret)
 .skip)))))
 (rg [xo 34 (bc .add 21 1),mo 21 34])))))))
 (sq (rg [xo 2 (.mov (ci 0)),xo 3 (.mov (ci 0))])
 .ret))))⟩
theorem qcK:trFn Tryz.prog 88 [] [[21]]=some qtK:=by kernel_rfl
abbrev q2L:Nat:=89
def qTM:FnI:=⟨69,[.cell 2 3 true],
 (sq (rg [xo 1 (.box 54 (.t 0)),xo 2 (.alloc 33 [(.v (.slice none 0 0)),(.v (.slice none 0 0)),(.v (.slice none 0 0))])])
 (sq (rg [fo 7 0 1,lo 8 7,fo 9 2 1,lo 10 9,xo 11 (.build [(.v (.slice none 0 0)),(.v (.slice none 0 0)),(.v (.slice none 0 0))] [(0,1,(.t 8)),(2,1,(.t 10))]),xo 3 (.alloc 33 [(.v (.slice none 0 0)),(.v (.slice none 0 0)),(.v (.slice none 0 0))]),xn (st 3 3 11)])
 (sq (sq (rg [fo 12 1 1,lo 13 12,xo 14 (.len false (.t 13)),xo 15 (.mov (ci 0))])
 (.block 0
 (.loop [15] [16,17,18,5,19,20,21,22,23,6,24,25,26,27,28,29,30,31,32,33,34,35,36,37,38,39,40,41,42,43,44,45,46,47,48,49,50,51,52,53,54,55,56,57,58,59,60,61,62,63,64,65,66,67,15]
 (sq (rg [xo 16 (bi .lss 15 14)])
 (sq (cD 16
 .skip
 (.exit 0))
 (sq (.block 1
 (sq (rg [xo 17 (ia 4 13 15),xo 18 (lt 4 17),xo 5 (.alloc 98 [(vi 0),(.v (.string ⟨#[]⟩)),(.v (.string ⟨#[]⟩)),(vi 0)]),xn (st 4 5 18)])
 (sq (rg [fo 19 1 5,lo 20 19,fo 21 2 5,lo 22 21,xo 23 (.build [(.v (.string ⟨#[]⟩)),(.v (.string ⟨#[]⟩)),(.v (.string ⟨#[]⟩)),(.v (.string ⟨#[]⟩))] [(1,1,(.t 20)),(2,1,(.t 22))]),xo 6 (.alloc 182 [(.v (.string ⟨#[]⟩)),(.v (.string ⟨#[]⟩)),(.v (.string ⟨#[]⟩)),(.v (.string ⟨#[]⟩))]),xn (st 4 6 23)])
 (sq (sq (rg [fo 24 0 5,lo 25 24,xo 26 (bc .geq 25 0),mo 27 26,xg 28 (fa 0 5) 27 true,xg 29 (lf 28) 27 true,xg 30 (fa 0 1) 27 true,xg 31 (lf 30) 27 true,xg 32 (.len false (.t 31)) 27 true,xg 33 (bi .lss 29 32) 27 true,xo 34 (.pick (.t 27) (.t 33) (.b false))])
 (cD 34
 (rg [fo 35 0 1,lo 36 35,fo 37 0 5,lo 38 37,xo 39 (ia 1 36 38),lo 40 39,fo 41 0 6,xn (st 1 41 40)])
 .skip))
 (sq (sq (rg [fo 42 3 5,lo 43 42,xo 44 (bc .geq 43 0),mo 45 44,xg 46 (fa 3 5) 45 true,xg 47 (lf 46) 45 true,xg 48 (fa 2 1) 45 true,xg 49 (lf 48) 45 true,xg 50 (.len false (.t 49)) 45 true,xg 51 (bi .lss 47 50) 45 true,xo 52 (.pick (.t 45) (.t 51) (.b false))])
 (cD 52
 (rg [fo 53 2 1,lo 54 53,fo 55 3 5,lo 56 55,xo 57 (ia 4 54 56),fo 58 0 57,lo 59 58,fo 60 3 6,xn (st 1 60 59)])
 .skip))
 (rg [fo 61 1 3,lo 62 61,xo 63 (lt 4 6),xo 64 (.bsl 182 4 1 [(.v (.string ⟨#[]⟩)),(.v (.string ⟨#[]⟩)),(.v (.string ⟨#[]⟩)),(.v (.string ⟨#[]⟩))] [(0,4,(.t 63))]),xo 65 (.app 182 4 64 (.t 62) (.t 64)),fo 66 1 3,xn (st 1 66 65)]))))))
 (rg [xo 67 (bc .add 15 1),mo 15 67])))))))
 (sq (rg [xo 68 (lt 3 3),xn (st 3 2 68)])
 .ret))))⟩
theorem qTL:trFn Tryz.prog 89 [] [[15]]=some qTM:=by kernel_rfl
abbrev q6B:Nat:=90
def qlA:FnI:=⟨19,[.tmp 4],
 (sq (rg [xo 4 (.mov (ci 0))])
 (sq (sq (rg [mo 6 0,xo 7 (.len false (.t 6)),xo 8 (.mov (ci 0))])
 (.block 0
 (.loop [8] [9,10,5,11,12,13,14,15,16,17,4,18,8]
 (sq (rg [xo 9 (bi .lss 8 7)])
 (sq (cD 9
 .skip
 (.exit 0))
 (sq (.block 1
 (sq (rg [mo 10 8,mo 5 10])
 (sq (rg [mo 11 1,mo 12 0,mo 13 5,xo 14 (ia 3 12 13),xo 15 (lt 3 14),xo 16 (.callv (.t 11) [(.t 15)])])
 (cD 16
 (sq (rg [mo 17 5,mo 4 17])
 .ret)
 .skip))))
 (rg [xo 18 (bc .add 8 1),mo 8 18])))))))
 (sq (rg [xo 4 (.mov (ci (-1)))])
 .ret)))⟩
theorem q4B:trFn Tryz.prog 90 [] [[8]]=some qlA:=by kernel_rfl
abbrev qpO:Nat:=91
def q6O:FnI:=⟨9,[.tmp 2],
 (sq (rg [xo 2 (.mov (.b false))])
 (sq (rg [mo 3 0,xo 4 (.bini .geq (.t 3) (.c (.int .u8 (97)))),mo 5 4,xg 6 (mv 0) 5 true,xg 7 (.bini .leq (.t 6) (.c (.int .u8 (122)))) 5 true,xo 8 (.pick (.t 5) (.t 7) (.b false)),mo 2 8])
 .ret))⟩
theorem qIO:trFn Tryz.prog 91 [] []=some q6O:=by kernel_rfl
abbrev qKN:Nat:=92
def q2I:FnI:=⟨2,[.cell 0 1 true],
 (sq (rg [xo 0 (.alloc 161 [(.v .nilFunc)])])
 (sq (rg [xo 1 (.build [(.v .nilFunc)] [(0,1,(.c (.func (.func 107) #[] #[])))]),xn (st 1 0 1)])
 .ret))⟩
theorem qqM:trFn Tryz.prog 92 [] []=some q2I:=by kernel_rfl
abbrev q4F:Nat:=93
def qLD:FnI:=⟨28,[.tmp 6],
 (sq (rg [xo 3 (.box 161 (.t 0)),xo 6 (.mov (.b false))])
 (sq (sq (rg [mo 8 1,xo 9 (.len true (.t 8)),xo 10 (.mov (ci 0))])
 (.block 0
 (.loop [10] [11,12,7,13,14,15,16,17,18,19,20,21,22,23,24,25,26,6,27,10]
 (sq (rg [xo 11 (bi .lss 10 9)])
 (sq (cD 11
 .skip
 (.exit 0))
 (sq (.block 1
 (sq (rg [mo 12 10,mo 7 12])
 (sq (rd [] (of 0 (mo 13 1)
 (of 1 (mo 14 7)
 (of 2 (xo 15 (.idxs (.t 13) (.t 14)))
 (of 3 (mo 16 2)
 (of 4 (xo 17 (bi .neq 15 16))
 (of 5 (mo 18 17)
 (of 6 (xg 19 (fa 0 3) 18 true)
 (ot 7 (xg 20 (lf 19) 18 true)
 (of 8 (xg 21 (mv 1) 18 true)
 (of 9 (xg 22 (mv 7) 18 true)
 (of 10 (xg 23 (.idxs (.t 21) (.t 22)) 18 true)
 (of 11 (xg 24 (.callv (.t 20) [(.t 23)]) 18 true)
 (of 12 (xg 25 (.not (.t 24)) 18 true)
 (of 13 (xo 26 (.pick (.t 18) (.t 25) (.b false)))
 .nil)))))))))))))))
 (cD 26
 (sq (rg [xo 6 (.mov (.b false))])
 .ret)
 .skip))))
 (rg [xo 27 (bc .add 10 1),mo 10 27])))))))
 (sq (rg [xo 6 (.mov (.b true))])
 .ret)))⟩
theorem qoF:trFn Tryz.prog 93 [([],(fs [0,1,2,3,4,5,6,7,8,9,10] (.exec 11 (.first 12 (.first 13 .nil)))))] [[10]]=some qLD:=by kernel_rfl
abbrev q4L:Nat:=94
def qUM:FnI:=⟨40,[.cell 2 3 true,.tmp 3],
 (sq (rg [xo 2 (.alloc 65 [(.v (.int .u64 (0))),(.v (.slice none 0 0)),(vi 0)]),xo 3 (.mov (ci 0))])
 (sq (sq (rg [mo 6 0,xo 7 (bc .lss 6 1),mo 8 7,xg 9 (mv 0) 8 false,xg 10 (bc .gtr 9 4) 8 false,xo 11 (.pick (.t 8) (.b true) (.t 10))])
 (cD 11
 (sq (rg [xo 12 (.build [(.v (.int .u64 (0))),(.v (.slice none 0 0)),(vi 0)] []),xn (st 3 2 12),xo 3 (.mov (ci 1))])
 .ret)
 .skip))
 (sq (rg [mo 13 0,xo 14 (.msl 3 1 8 [(.int .i64 (0))] (.t 13) (.t 13)),xo 15 (.build [(.v (.int .u64 (0))),(.v (.slice none 0 0)),(vi 0)] [(1,1,(.t 14))]),xo 4 (.alloc 65 [(.v (.int .u64 (0))),(.v (.slice none 0 0)),(vi 0)]),xn (st 3 4 15)])
 (sq (sq (rg [fo 16 1 4,lo 17 16,xo 18 (.len false (.t 17)),xo 19 (.mov (ci 0))])
 (.block 0
 (.loop [19] [20,21,5,22,23,24,25,26,27,28,19]
 (sq (rg [xo 20 (bi .lss 19 18)])
 (sq (cD 20
 .skip
 (.exit 0))
 (sq (.block 1
 (sq (rg [mo 21 19,mo 5 21])
 (rg [fo 22 1 4,lo 23 22,mo 24 5,mo 25 5,xo 26 (bc .add 25 1),xo 27 (ia 1 23 24),xn (st 1 27 26)])))
 (rg [xo 28 (bc .add 19 1),mo 19 28])))))))
 (sq (rg [fo 29 1 4,lo 30 29,mo 31 0,xo 32 (bc .sub 31 1),xo 33 (ia 1 30 32),xn (.store 1 (.t 33) (ci (-1)))])
 (sq (rg [xo 35 (.call 100 [(.c (.int .u32 (0))),(ci 0)]),mo 34 35,xo 36 (.ext 0 (.t 34)),xo 37 (.ext 1 (.t 34)),fo 38 0 4,xn (st 1 38 36)])
 (sq (rg [xo 39 (lt 3 4),xn (st 3 2 39),xo 3 (.mov (ci 0))])
 .ret)))))))⟩
theorem qVL:trFn Tryz.prog 94 [] [[19]]=some qUM:=by kernel_rfl
abbrev qdC:Nat:=95
def qjC:FnI:=⟨29,[.tmp 6],
 (sq (rg [xo 5 (.box 102 (.t 2)),xo 6 (.mov (.c (.slice none 0 0)))])
 (sq (rg [mo 10 0,xo 11 (.len false (.t 10)),xo 12 (.msl 65 3 40 [(.int .u64 (0)),(.slice none 0 0),(.int .i64 (0))] (.t 11) (.t 11)),mo 7 12])
 (sq (sq (rg [mo 13 0,xo 14 (.len false (.t 13)),xo 15 (.mov (ci 0))])
 (.block 0
 (.loop [15] [16,17,18,19,9,8,20,21,22,23,24,25,26,27,15]
 (sq (rg [xo 16 (bi .lss 15 14)])
 (sq (cD 16
 .skip
 (.exit 0))
 (sq (.block 1
 (sq (rg [mo 17 15,xo 18 (ia 3 13 15),xo 19 (lt 3 18),xo 9 (.alloc 65 [(.v (.int .u64 (0))),(.v (.slice none 0 0)),(vi 0)]),mo 8 17,xn (st 3 9 19)])
 (rg [mo 20 7,mo 21 8,mo 22 1,xo 23 (lt 0 5),xo 24 (lt 3 9),xo 25 (.callv (.t 22) [(.t 23),(.t 24)]),xo 26 (ia 3 20 21),xn (st 3 26 25)])))
 (rg [xo 27 (bc .add 15 1),mo 15 27])))))))
 (sq (rg [mo 28 7,mo 6 28])
 .ret))))⟩
theorem qXC:trFn Tryz.prog 95 [] [[15]]=some qjC:=by kernel_rfl
abbrev qFC:Nat:=96
def qRH:FnI:=⟨10,[.cell 4 3 true],
 (sq (rg [xo 2 (.box 102 (.t 0)),xo 3 (.box 65 (.t 1)),xo 4 (.alloc 65 [(.v (.int .u64 (0))),(.v (.slice none 0 0)),(vi 0)])])
 (sq (rg [fo 5 1 3,lo 6 5,xo 7 (.call 30 [(.t 6)]),fo 8 1 3,xn (st 1 8 7)])
 (sq (rg [xo 9 (lt 3 3),xn (st 3 4 9)])
 .ret)))⟩
theorem q6G:trFn Tryz.prog 96 [] []=some qRH:=by kernel_rfl
abbrev qmO:Nat:=97
def q3O:FnI:=⟨37,[.tmp 8,.tmp 9],
 (sq (rg [xo 4 (.box 54 (.t 0)),xo 8 (.mov (ci 0)),xo 9 (.mov (ci 0))])
 (sq (rg [fo 13 0 4,lo 14 13,mo 15 1,xo 16 (.call 108 [(.t 14),(.t 15)]),mo 10 16])
 (sq (sq (rg [mo 17 10,xo 18 (bc .lss 17 0)])
 (cD 18
 (sq (rg [xo 8 (.mov (ci 0)),xo 9 (.mov (ci 3))])
 .ret)
 .skip))
 (sq (rg [fo 20 1 4,lo 21 20,mo 22 10,mo 23 2,mo 24 3,xo 25 (.call 109 [(.t 21),(.t 22),(.t 23),(.t 24)]),mo 19 25,xo 26 (.ext 0 (.t 19)),xo 27 (.ext 1 (.t 19)),mo 11 26,mo 12 27])
 (sq (sq (rg [mo 28 12,xo 29 (bc .neq 28 0)])
 (cD 29
 (sq (rg [mo 30 12,xo 8 (.mov (ci 0)),mo 9 30])
 .ret)
 .skip))
 (sq (rg [fo 31 1 4,lo 32 31,mo 33 11,xo 34 (ia 4 32 33),fo 35 3 34,lo 36 35,mo 8 36,xo 9 (.mov (ci 0))])
 .ret))))))⟩
theorem qFO:trFn Tryz.prog 97 [] []=some q3O:=by kernel_rfl
abbrev qPN:Nat:=98
def qpN:FnI:=⟨44,[.tmp 6,.tmp 7,.tmp 8],
 (sq (rg [xo 3 (.box 96 (.t 0)),xo 6 (.mov (ci 0)),xo 7 (.mov (ci 0)),xo 8 (.mov (ci 0))])
 (sq (rg [xo 13 (lt 4 3),xo 14 (.call 99 [(.t 13)]),mo 9 14])
 (sq (rg [mo 15 9,xo 16 (.len false (.t 15)),mo 10 16])
 (sq (sq (rg [mo 17 10,xo 18 (bc .eql 17 0)])
 (cD 18
 (sq (rg [xo 6 (.mov (ci 0)),xo 7 (.mov (ci 0)),xo 8 (.mov (ci 5))])
 .ret)
 .skip))
 (sq (rg [mo 19 1,mo 20 2,xo 21 (.build [(vi 0),(vi 0)] [(0,1,(.t 19)),(1,1,(.t 20))]),xo 11 (.alloc 185 [(vi 0),(vi 0)]),xn (st 2 11 21)])
 (sq (sq (rg [xo 22 (.mov (ci 0))])
 (.block 0
 (.loop [22] [23,24,12,25,26,27,28,29,30,31,32,33,34,35,36,37,38,39,22]
 (sq (rg [xo 23 (bc .lss 22 2)])
 (sq (cD 23
 .skip
 (.exit 0))
 (sq (.block 1
 (sq (rg [mo 24 22,mo 12 24])
 (rg [mo 25 12,mo 26 9,mo 27 12,xo 28 (.iadra 2 1 (.t 11) (.t 27)),lo 29 28,mo 30 10,xo 31 (bi .rem 29 30),mo 32 10,xo 33 (bi .add 31 32),mo 34 10,xo 35 (bi .rem 33 34),xo 36 (ia 1 26 35),lo 37 36,xo 38 (.iadra 2 1 (.t 11) (.t 25)),xn (st 1 38 37)])))
 (rg [xo 39 (bc .add 22 1),mo 22 39])))))))
 (sq (rd [] (of 0 (xo 40 (.iadra 2 1 (.t 11) (ci 0)))
 (ot 1 (lo 41 40)
 (of 2 (xo 42 (.iadra 2 1 (.t 11) (ci 1)))
 (ot 3 (lo 43 42)
 (of 4 (mo 6 41)
 (of 5 (mo 7 43)
 (of 6 (xo 8 (.mov (ci 0)))
 .nil))))))))
 .ret)))))))⟩
theorem qvM:trFn Tryz.prog 98 [([],(fs [0,1,2,3,4,5,6] .nil))] [[22]]=some qpN:=by kernel_rfl
abbrev quJ:Nat:=99
def qIK:FnI:=⟨13,[.tmp 2],
 (sq (rg [xo 1 (.box 96 (.t 0)),xo 2 (.mov (.c (.slice none 0 0)))])
 (sq (rg [xo 3 (.alloc 22 [(.v (.slice none 0 0))])])
 (sq (sq (rg [xo 5 (lt 4 1),xo 6 (.call 110 [(.t 5)])])
 (.block 0
 (.rfun (.t 6) [7]
 (rg [mo 4 7])
 (.block 1
 (rg [lo 8 3,mo 9 4,xo 10 (.bsl 3 1 1 [(vi 0)] [(0,1,(.t 9))]),xo 11 (.app 3 1 8 (.t 8) (.t 10)),xn (st 1 3 11)])))))
 (sq (rg [lo 12 3,mo 2 12])
 .ret))))⟩
theorem qSJ:trFn Tryz.prog 99 [] []=some qIK:=by kernel_rfl
abbrev qDQ:Nat:=100
def qTQ:FnI:=⟨19,[.tmp 4,.tmp 5],
 (sq (rg [xo 4 (.mov (.c (.int .u64 (0)))),xo 5 (.mov (ci 0))])
 (sq (sq (rg [mo 6 1,xo 7 (.bini .lss (.t 6) (ci (-1))),mo 8 7,xg 9 (mv 1) 8 false,xg 10 (bc .gtr 9 2147483646) 8 false,xo 11 (.pick (.t 8) (.b true) (.t 10))])
 (cD 11
 (sq (rg [xo 4 (.mov (.c (.int .u64 (0)))),xo 5 (.mov (ci 1))])
 .ret)
 .skip))
 (sq (rg [mo 12 0,xo 13 (.conv .u64 (.t 12)),xo 14 (.bini .shl (.t 13) (.c (.int .u64 (32)))),mo 15 1,xo 16 (.bini .sub (.t 15) (ci (-1))),xo 17 (.conv .u64 (.t 16)),xo 18 (bi .or 14 17),mo 4 18,xo 5 (.mov (ci 0))])
 .ret)))⟩
theorem qmP:trFn Tryz.prog 100 [] []=some qTQ:=by kernel_rfl
abbrev qPR:Nat:=101
def qaR:FnI:=⟨6,[.tmp 2],
 (sq (rg [xo 2 (.mov (.c (.int .u32 (0))))])
 (sq (rg [mo 3 0,xo 4 (.bini .shr (.t 3) (.c (.int .u64 (32)))),xo 5 (.conv .u32 (.t 4)),mo 2 5])
 .ret))⟩
theorem qlQ:trFn Tryz.prog 101 [] []=some qaR:=by kernel_rfl
abbrev qDB:Nat:=102
def qVA:FnI:=⟨19,[.tmp 4],
 (sq (rg [xo 4 (.mov (ci 0))])
 (sq (sq (rg [mo 6 0,xo 7 (.len false (.t 6)),xo 8 (.mov (ci 0))])
 (.block 0
 (.loop [8] [9,10,5,11,12,13,14,15,16,17,4,18,8]
 (sq (rg [xo 9 (bi .lss 8 7)])
 (sq (cD 9
 .skip
 (.exit 0))
 (sq (.block 1
 (sq (rg [mo 10 8,mo 5 10])
 (sq (rg [mo 11 1,mo 12 0,mo 13 5,xo 14 (ia 3 12 13),xo 15 (lt 3 14),xo 16 (.callv (.t 11) [(.t 15)])])
 (cD 16
 (sq (rg [mo 17 5,mo 4 17])
 .ret)
 .skip))))
 (rg [xo 18 (bc .add 8 1),mo 8 18])))))))
 (sq (rg [xo 4 (.mov (ci (-1)))])
 .ret)))⟩
theorem qBB:trFn Tryz.prog 102 [] [[8]]=some qVA:=by kernel_rfl
abbrev quC:Nat:=103
theorem qwC:FnOk Tryz.prog 103:=FnOk.of (by kernel_rfl)
def qhF:FnI:=⟨26,[.tmp 2,.tmp 3],
 (sq (rg [xo 1 (.box 178 (.t 0)),xo 2 (.mov (ci 0)),xo 3 (.mov (ci 0))])
 (sq (sq (rg [fo 4 0 1,fo 5 0 4,lo 6 5,xo 7 (.len false (.t 6)),xo 8 (.call 111 [(.t 7),(ci 1),(ci 4)]),xo 9 (.not (.t 8)),mo 10 9,xg 11 (fa 0 1) 10 false,xg 12 (fa 1 11) 10 false,xg 13 (lf 12) 10 false,xg 14 (.len false (.t 13)) 10 false,xg 15 (.call 111 [(.t 14),(ci 1),(ci 8)]) 10 false,xg 16 (.not (.t 15)) 10 false,xo 17 (.pick (.t 10) (.b true) (.t 16)),mo 18 17,xg 19 (fa 0 1) 18 false,xg 20 (fa 2 19) 18 false,xg 21 (lf 20) 18 false,xg 22 (.len false (.t 21)) 18 false,xg 23 (.call 111 [(.t 22),(ci 1),(ci 4)]) 18 false,xg 24 (.not (.t 23)) 18 false,xo 25 (.pick (.t 18) (.b true) (.t 24))])
 (cD 25
 (sq (rg [xo 2 (.mov (ci 6)),xo 3 (.mov (ci 0))])
 .ret)
 .skip))
 (sq (rg [xo 2 (.mov (ci 0)),xo 3 (.mov (ci 0))])
 .ret)))⟩
theorem qZF:trFn Tryz.prog 103 [] []=some qhF:=by kernel_rfl
abbrev q8B:Nat:=104
theorem q9B:FnOk Tryz.prog 104:=FnOk.of (by kernel_rfl)
def qPE:FnI:=⟨30,[.tmp 2,.tmp 3],
 (sq (rg [xo 1 (.box 178 (.t 0)),xo 2 (.mov (ci 0)),xo 3 (.mov (ci 0))])
 (sq (sq (rg [fo 6 0 1,fo 7 0 6,lo 8 7,xo 9 (.len false (.t 8)),xo 10 (.mov (ci 0))])
 (.block 0
 (.loop [10] [11,12,13,14,4,5,16,17,18,15,19,2,3,21,22,23,24,25,26,27,20,28,29,10]
 (sq (rg [xo 11 (bi .lss 10 9)])
 (sq (cD 11
 .skip
 (.exit 0))
 (sq (.block 1
 (sq (rg [mo 12 10,xo 13 (ia 1 8 10),lo 14 13,mo 4 12,mo 5 14])
 (.block 2
 (sq (rg [mo 16 5,xo 17 (.call 62 [(.t 16)]),xo 18 (.not (.t 17)),mo 15 18])
 (cD 15
 (sq (rg [mo 19 4,xo 2 (.mov (ci 3)),mo 3 19])
 .ret)
 (sq (rg [fo 21 0 1,fo 22 0 21,lo 23 22,mo 24 4,xo 25 (.slc 1 (.t 23) none (some (.t 24)) none),mo 26 5,xo 27 (.call 112 [(.t 25),(.t 26)]),mo 20 27])
 (cD 20
 (sq (rg [mo 28 4,xo 2 (.mov (ci 4)),mo 3 28])
 .ret)
 .skip)))))))
 (rg [xo 29 (bc .add 10 1),mo 10 29])))))))
 (sq (rg [xo 2 (.mov (ci 0)),xo 3 (.mov (ci 0))])
 .ret)))⟩
theorem qNE:trFn Tryz.prog 104 [] [[10]]=some qPE:=by kernel_rfl
abbrev qtB:Nat:=105
theorem quB:FnOk Tryz.prog 105:=FnOk.of (by kernel_rfl)
def q9D:FnI:=⟨55,[.tmp 2,.tmp 3],
 (sq (rg [xo 1 (.box 178 (.t 0)),xo 2 (.mov (ci 0)),xo 3 (.mov (ci 0))])
 (sq (sq (rg [fo 6 0 1,fo 7 2 6,lo 8 7,xo 9 (.len false (.t 8)),xo 10 (.mov (ci 0))])
 (.block 0
 (.loop [10] [11,12,13,14,5,4,16,17,18,19,15,20,2,3,22,23,24,25,26,27,28,29,21,30,32,33,34,35,36,37,38,39,31,40,42,43,44,45,41,46,48,49,50,51,52,47,53,54,10]
 (sq (rg [xo 11 (bi .lss 10 9)])
 (sq (cD 11
 .skip
 (.exit 0))
 (sq (.block 1
 (sq (rg [mo 12 10,xo 13 (ia 4 8 10),xo 14 (lt 4 13),xo 5 (.alloc 96 [(.v (.string ⟨#[]⟩)),(vi 0),(vi 0),(.v (.slice none 0 0))]),mo 4 12,xn (st 4 5 14)])
 (.block 2
 (sq (rg [fo 16 0 5,lo 17 16,xo 18 (.call 62 [(.t 17)]),xo 19 (.not (.t 18)),mo 15 19])
 (cD 15
 (sq (rg [mo 20 4,xo 2 (.mov (ci 3)),mo 3 20])
 .ret)
 (sq (rd [] (of 0 (fo 22 0 1)
 (of 1 (fo 23 2 22)
 (ot 2 (lo 24 23)
 (of 3 (mo 25 4)
 (of 4 (xo 26 (.slc 4 (.t 24) none (some (.t 25)) none))
 (of 5 (fo 27 0 5)
 (ot 6 (lo 28 27)
 (of 7 (xo 29 (.call 113 [(.t 26),(.t 28)]))
 (of 8 (mo 21 29)
 .nil))))))))))
 (cD 21
 (sq (rg [mo 30 4,xo 2 (.mov (ci 4)),mo 3 30])
 .ret)
 (sq (rg [fo 32 1 5,lo 33 32,xo 34 (bc .neq 33 1),mo 35 34,xg 36 (fa 1 5) 35 true,xg 37 (lf 36) 35 true,xg 38 (bc .neq 37 2) 35 true,xo 39 (.pick (.t 35) (.t 38) (.b false)),mo 31 39])
 (cD 31
 (sq (rg [mo 40 4,xo 2 (.mov (ci 9)),mo 3 40])
 .ret)
 (sq (rg [fo 42 2 5,lo 43 42,xo 44 (.call 111 [(.t 43),(ci 1),(ci 4)]),xo 45 (.not (.t 44)),mo 41 45])
 (cD 41
 (sq (rg [mo 46 4,xo 2 (.mov (ci 10)),mo 3 46])
 .ret)
 (sq (rg [fo 48 3 5,lo 49 48,xo 50 (.len false (.t 49)),xo 51 (.call 111 [(.t 50),(ci 1),(ci 4)]),xo 52 (.not (.t 51)),mo 47 52])
 (cD 47
 (sq (rg [mo 53 4,xo 2 (.mov (ci 6)),mo 3 53])
 .ret)
 .skip)))))))))))))
 (rg [xo 54 (bc .add 10 1),mo 10 54])))))))
 (sq (rg [xo 2 (.mov (ci 0)),xo 3 (.mov (ci 0))])
 .ret)))⟩
theorem q4D:trFn Tryz.prog 105 [([],(fs [0,1,2,3,4,5,6] (.exec 7 (.first 8 .nil))))] [[10]]=some q9D:=by kernel_rfl
abbrev qNC:Nat:=106
theorem qOC:FnOk Tryz.prog 106:=FnOk.of (by kernel_rfl)
def qpE:FnI:=⟨65,[.tmp 2,.tmp 3],
 (sq (rg [xo 1 (.box 178 (.t 0)),xo 2 (.mov (ci 0)),xo 3 (.mov (ci 0))])
 (sq (sq (rg [fo 8 0 1,fo 9 1 8,lo 10 9,xo 11 (.len false (.t 10)),xo 12 (.mov (ci 0))])
 (.block 0
 (.loop [12] [13,14,15,16,5,4,18,19,20,21,22,23,24,17,25,2,3,27,28,29,30,26,31,33,34,35,36,32,37,39,40,41,42,43,44,45,38,46,47,48,49,50,51,52,53,54,55,56,57,7,58,59,60,61,62,63,64,12]
 (sq (rg [xo 13 (bi .lss 12 11)])
 (sq (cD 13
 .skip
 (.exit 0))
 (sq (.block 1
 (sq (rg [mo 14 12,xo 15 (ia 4 10 12),xo 16 (lt 4 15),xo 5 (.alloc 182 [(.v (.string ⟨#[]⟩)),(.v (.string ⟨#[]⟩)),(.v (.string ⟨#[]⟩)),(.v (.string ⟨#[]⟩))]),mo 4 14,xn (st 4 5 16)])
 (sq (.block 2
 (sq (rg [fo 18 0 1,fo 19 0 18,lo 20 19,fo 21 0 5,lo 22 21,xo 23 (.call 112 [(.t 20),(.t 22)]),xo 24 (.not (.t 23)),mo 17 24])
 (cD 17
 (sq (rg [mo 25 4,xo 2 (.mov (ci 5)),mo 3 25])
 .ret)
 (sq (rg [fo 27 1 5,lo 28 27,xo 29 (.call 114 [(.t 28)]),xo 30 (.not (.t 29)),mo 26 30])
 (cD 26
 (sq (rg [mo 31 4,xo 2 (.mov (ci 7)),mo 3 31])
 .ret)
 (sq (rg [fo 33 2 5,lo 34 33,xo 35 (.call 115 [(.t 34)]),xo 36 (.not (.t 35)),mo 32 36])
 (cD 32
 (sq (rg [mo 37 4,xo 2 (.mov (ci 8)),mo 3 37])
 .ret)
 (sq (rg [fo 39 0 1,fo 40 2 39,lo 41 40,fo 42 3 5,lo 43 42,xo 44 (.call 113 [(.t 41),(.t 43)]),xo 45 (.not (.t 44)),mo 38 45])
 (cD 38
 (sq (rg [mo 46 4,xo 2 (.mov (ci 5)),mo 3 46])
 .ret)
 .skip)))))))))
 (sq (rg [fo 47 3 5,xn (.store 1 (.t 47) (.c (.string ⟨#[]⟩)))])
 (sq (rg [fo 48 0 1,fo 49 1 48,lo 50 49,mo 51 4,xo 52 (.slc 4 (.t 50) none (some (.t 51)) none),xo 53 (.len false (.t 52)),xo 54 (.mov (ci 0))])
 (.block 3
 (.loop [54] [55,56,57,7,58,59,60,61,62,2,3,63,54]
 (sq (rg [xo 55 (bi .lss 54 53)])
 (sq (cD 55
 .skip
 (.exit 3))
 (sq (.block 4
 (sq (rg [xo 56 (ia 4 52 54),xo 57 (lt 4 56),xo 7 (.alloc 182 [(.v (.string ⟨#[]⟩)),(.v (.string ⟨#[]⟩)),(.v (.string ⟨#[]⟩)),(.v (.string ⟨#[]⟩))]),xn (st 4 7 57)])
 (sq (rg [fo 58 3 7,xn (.store 1 (.t 58) (.c (.string ⟨#[]⟩)))])
 (sq (rg [xo 59 (lt 4 7),xo 60 (lt 4 5),xo 61 (.binst false [1,1,1,1] (.t 59) (.t 60))])
 (cD 61
 (sq (rg [mo 62 4,xo 2 (.mov (ci 4)),mo 3 62])
 .ret)
 .skip)))))
 (rg [xo 63 (bc .add 54 1),mo 54 63])))))))))))
 (rg [xo 64 (bc .add 12 1),mo 12 64])))))))
 (sq (rg [xo 2 (.mov (ci 0)),xo 3 (.mov (ci 0))])
 .ret)))⟩
theorem qaE:trFn Tryz.prog 106 [] [[12],[54]]=some qpE:=by kernel_rfl
abbrev q7B:Nat:=107
theorem qzG:FnOk Tryz.prog 107:=FnOk.of (by kernel_rfl)
def qoK:FnI:=⟨17,[.tmp 2],
 (sq (rg [xo 2 (.mov (.b false))])
 (sq (rg [mo 3 0,xo 4 (.call 91 [(.t 3)]),mo 5 4,xg 6 (mv 0) 5 false,xg 7 (.bini .geq (.t 6) (.c (.int .u8 (48)))) 5 false,xg 8 (mv 7) 5 false,xg 9 (mv 0) 8 true,xg 10 (.bini .leq (.t 9) (.c (.int .u8 (57)))) 8 true,xg 11 (.pick (.t 8) (.t 10) (.b false)) 5 false,xo 12 (.pick (.t 5) (.b true) (.t 11)),mo 13 12,xg 14 (mv 0) 13 false,xg 15 (.bini .eql (.t 14) (.c (.int .u8 (45)))) 13 false,xo 16 (.pick (.t 13) (.b true) (.t 15)),mo 2 16])
 .ret))⟩
theorem qXK:trFn Tryz.prog 107 [] []=some qoK:=by kernel_rfl
abbrev qvJ:Nat:=108
def qJK:FnI:=⟨8,[.tmp 4],
 (sq (rg [xo 3 (.box 9 (.t 1)),xo 4 (.mov (ci 0))])
 (sq (rg [mo 5 0,xo 6 (.mkf (.func 117) [] [(.t 3)]),xo 7 (.call 116 [(.t 5),(.t 6)]),mo 4 7])
 .ret))⟩
theorem qTJ:trFn Tryz.prog 108 [] []=some qJK:=by kernel_rfl
abbrev q6L:Nat:=109
def qWM:FnI:=⟨43,[.tmp 8,.tmp 9],
 (sq (rg [xo 4 (.box 52 (.t 0)),xo 8 (.mov (ci 0)),xo 9 (.mov (ci 0))])
 (sq (rg [xo 10 (.alloc 3 [(vi 0)]),xn (.store 1 (.t 10) (ci (-1)))])
 (sq (sq (rg [lo 13 4,mo 14 1,mo 15 2,mo 16 3,xo 17 (.call 118 [(.t 13),(.t 14),(.t 15),(.t 16)])])
 (.block 0
 (.rfun (.t 17) [18,19]
 (sq (rg [mo 11 18])
 (rg [xo 12 (.alloc 98 [(vi 0),(.v (.string ⟨#[]⟩)),(.v (.string ⟨#[]⟩)),(vi 0)]),xn (st 4 12 19)]))
 (.block 1
 (sq (rd [] (ot 0 (lo 20 10)
 (of 1 (xo 21 (bc .lss 20 0))
 (of 2 (mo 22 21)
 (of 3 (xg 23 (fa 1 12) 22 false)
 (ot 4 (xg 24 (lf 23) 22 false)
 (of 5 (xg 25 (fa 2 12) 22 false)
 (ot 6 (xg 26 (lf 25) 22 false)
 (ot 7 (xg 27 (lf 4) 22 false)
 (ot 8 (xg 28 (lf 10) 22 false)
 (ot 9 (xg 29 (ia 4 27 28) 22 false)
 (of 10 (xg 30 (fa 1 29) 22 false)
 (ot 11 (xg 31 (lf 30) 22 false)
 (ot 12 (xg 32 (lf 4) 22 false)
 (ot 13 (xg 33 (lf 10) 22 false)
 (ot 14 (xg 34 (ia 4 32 33) 22 false)
 (of 15 (xg 35 (fa 2 34) 22 false)
 (ot 16 (xg 36 (lf 35) 22 false)
 (of 17 (xg 37 (.call 119 [(.t 24),(.t 26),(.t 31),(.t 36)]) 22 false)
 (of 18 (xo 38 (.pick (.t 22) (.b true) (.t 37)))
 .nil))))))))))))))))))))
 (cD 38
 (rg [mo 39 11,xn (st 1 10 39)])
 .skip))))))
 (sq (sq (rg [lo 40 10,xo 41 (bc .lss 40 0)])
 (cD 41
 (sq (rg [xo 8 (.mov (ci 0)),xo 9 (.mov (ci 5))])
 .ret)
 .skip))
 (sq (rg [lo 42 10,mo 8 42,xo 9 (.mov (ci 0))])
 .ret)))))⟩
theorem qXL:trFn Tryz.prog 109 [([],(fs [0,1,2,3,4,5,6,7,8,9,10,11,12,13,14,15,16] (.exec 17 (.first 18 .nil))))] []=some qWM:=by kernel_rfl
abbrev qtJ:Nat:=110
def qFG:FnI:=⟨4,[.tmp 2],
 (sq (rg [xo 1 (.box 96 (.t 0)),xo 2 (.mov (.c .nilFunc))])
 (sq (rg [xo 3 (.mkf (.func 120) [] [(.t 1)]),mo 2 3])
 .ret))⟩
theorem qRJ:trFn Tryz.prog 110 [] []=some qFG:=by kernel_rfl
abbrev q1J:Nat:=111
def qMK:FnI:=⟨15,[.tmp 6],
 (sq (rg [xo 6 (.mov (.b false))])
 (sq (rg [mo 7 0,mo 8 1,xo 9 (bi .geq 7 8),mo 10 9,xg 11 (mv 0) 10 true,xg 12 (mv 2) 10 true,xg 13 (bi .leq 11 12) 10 true,xo 14 (.pick (.t 10) (.t 13) (.b false)),mo 6 14])
 .ret))⟩
theorem qZJ:trFn Tryz.prog 111 [] []=some qMK:=by kernel_rfl
abbrev qeC:Nat:=112
def qkC:FnI:=⟨9,[.tmp 4],
 (sq (rg [xo 4 (.mov (.b false))])
 (sq (rg [mo 5 0,mo 6 1,xo 7 (.call 121 [(.t 5),(.t 6)]),xo 8 (bc .geq 7 0),mo 4 8])
 .ret))⟩
theorem qYC:trFn Tryz.prog 112 [] []=some qkC:=by kernel_rfl
abbrev qkK:Nat:=113
def qsK:FnI:=⟨8,[.tmp 4],
 (sq (rg [xo 3 (.box 9 (.t 1)),xo 4 (.mov (.b false))])
 (sq (rg [mo 5 0,xo 6 (.mkf (.func 123) [] [(.t 3)]),xo 7 (.call 122 [(.t 5),(.t 6)]),mo 4 7])
 .ret))⟩
theorem qbK:trFn Tryz.prog 113 [] []=some qsK:=by kernel_rfl
abbrev qzJ:Nat:=114
def qLK:FnI:=⟨19,[.tmp 2],
 (sq (rg [xo 2 (.mov (.b false))])
 (sq (sq (rg [mo 6 0,xo 7 (.call 124 [(.t 6),(.c (.string ⟨#[42,46]⟩))]),mo 5 7,xo 8 (.ext 0 (.t 5)),xo 9 (.ext 1 (.t 5)),mo 3 8,mo 4 9])
 (sq (rg [mo 10 4])
 (cD 10
 (sq (rg [mo 11 3,xo 12 (.call 125 [(.t 11)]),mo 2 12])
 .ret)
 .skip)))
 (sq (rg [mo 13 0,xo 14 (.bins .eql (.t 13) (.c (.string ⟨#[42]⟩))),mo 15 14,xg 16 (mv 0) 15 false,xg 17 (.call 125 [(.t 16)]) 15 false,xo 18 (.pick (.t 15) (.b true) (.t 17)),mo 2 18])
 .ret)))⟩
theorem qXJ:trFn Tryz.prog 114 [] []=some qLK:=by kernel_rfl
abbrev qLN:Nat:=115
def qlN:FnI:=⟨21,[.tmp 2],
 (sq (rg [xo 2 (.mov (.b false))])
 (sq (rg [mo 3 0,xo 4 (.len true (.t 3)),xo 5 (bc .gtr 4 0),mo 6 5,xg 7 (mv 0) 6 true,xg 8 (.len true (.t 7)) 6 true,xg 9 (bc .leq 8 32) 6 true,xo 10 (.pick (.t 6) (.t 9) (.b false)),mo 11 10,xg 12 (mv 0) 11 true,xg 13 (.idxs (.t 12) (ci 0)) 11 true,xg 14 (.bini .eql (.t 13) (.c (.int .u8 (47)))) 11 true,xo 15 (.pick (.t 11) (.t 14) (.b false)),mo 16 15,xg 17 (.call 92 []) 16 true,xg 18 (mv 0) 16 true,xg 19 (.call 93 [(.t 17),(.t 18),(.c (.int .u8 (47)))]) 16 true,xo 20 (.pick (.t 16) (.t 19) (.b false)),mo 2 20])
 .ret))⟩
theorem qrM:trFn Tryz.prog 115 [] []=some qlN:=by kernel_rfl
abbrev qKH:Nat:=116
def qtD:FnI:=⟨19,[.tmp 4],
 (sq (rg [xo 4 (.mov (ci 0))])
 (sq (sq (rg [mo 7 0,xo 8 (.len false (.t 7)),xo 9 (.mov (ci 0))])
 (.block 0
 (.loop [9] [10,11,12,13,5,6,14,15,16,17,4,18,9]
 (sq (rg [xo 10 (bi .lss 9 8)])
 (sq (cD 10
 .skip
 (.exit 0))
 (sq (.block 1
 (sq (rg [mo 11 9,xo 12 (ia 1 7 9),lo 13 12,mo 5 11,mo 6 13])
 (sq (rg [mo 14 1,mo 15 6,xo 16 (.callv (.t 14) [(.t 15)])])
 (cD 16
 (sq (rg [mo 17 5,mo 4 17])
 .ret)
 .skip))))
 (rg [xo 18 (bc .add 9 1),mo 9 18])))))))
 (sq (rg [xo 4 (.mov (ci (-1)))])
 .ret)))⟩
theorem qAH:trFn Tryz.prog 116 [] [[9]]=some qtD:=by kernel_rfl
abbrev qfI:Nat:=117
theorem qiI:FnOk Tryz.prog 117:=FnOk.of (by kernel_rfl)
def qnE:FnI:=⟨7,[.tmp 3],
 (sq (rg [xo 3 (.mov (.b false))])
 (sq (rg [mo 4 0,lo 5 1,xo 6 (.bins .eql (.t 4) (.t 5)),mo 3 6])
 .ret))⟩
theorem qTI:trFn Tryz.prog 117 [] []=some qnE:=by kernel_rfl
abbrev qAJ:Nat:=118
def qTF:FnI:=⟨10,[.tmp 8],
 (sq (rg [xo 4 (.box 52 (.t 0)),xo 5 (.box 3 (.t 1)),xo 6 (.box 9 (.t 2)),xo 7 (.box 9 (.t 3)),xo 8 (.mov (.c .nilFunc))])
 (sq (rg [xo 9 (.mkf (.func 126) [] [(.t 4),(.t 5),(.t 6),(.t 7)]),mo 8 9])
 .ret))⟩
theorem q5I:trFn Tryz.prog 118 [] []=some qTF:=by kernel_rfl
abbrev qiK:Nat:=119
def qqK:FnI:=⟨26,[.tmp 8],
 (sq (rg [xo 8 (.mov (.b false))])
 (sq (sq (rg [mo 11 0,xo 12 (.call 128 [(.t 11)]),mo 13 2,xo 14 (.call 128 [(.t 13)]),mo 9 12,mo 10 14])
 (sq (rg [mo 15 9,mo 16 10,xo 17 (bi .neq 15 16)])
 (cD 17
 (sq (rg [mo 18 9,mo 19 10,xo 20 (bi .gtr 18 19),mo 8 20])
 .ret)
 .skip)))
 (sq (rg [mo 21 1,xo 22 (.len true (.t 21)),mo 23 3,xo 24 (.len true (.t 23)),xo 25 (bi .gtr 22 24),mo 8 25])
 .ret)))⟩
theorem qZK:trFn Tryz.prog 119 [] []=some qqK:=by kernel_rfl
abbrev qeI:Nat:=120
theorem qhI:FnOk Tryz.prog 120:=FnOk.of (by kernel_rfl)
def qmE:FnI:=⟨21,[],
 (sq (rg [fo 5 3 1,lo 6 5,xo 7 (.len false (.t 6)),xo 8 (.mov (ci 0))])
 (.block 0
 (.loop [8] [9,10,11,12,3,4,13,14,15,16,17,18,19,20,8]
 (sq (rg [xo 9 (bi .lss 8 7)])
 (sq (cD 9
 .skip
 (.exit 0))
 (sq (.block 1
 (sq (rg [mo 10 8,xo 11 (ia 1 6 8),lo 12 11,mo 3 10,mo 4 12])
 (sq (rg [mo 13 4,mo 14 13,xg 15 (mv 0) 14 true,xg 16 (mv 3) 14 true,xg 17 (.callv (.t 15) [(.t 16)]) 14 true,xg 18 (.not (.t 17)) 14 true,xo 19 (.pick (.t 14) (.t 18) (.b false))])
 (cD 19
 .ret
 .skip))))
 (rg [xo 20 (bc .add 8 1),mo 8 20])))))))⟩
theorem qSI:trFn Tryz.prog 120 [] [[8]]=some qmE:=by kernel_rfl
abbrev qFD:Nat:=121
def qJD:FnI:=⟨19,[.tmp 4],
 (sq (rg [xo 4 (.mov (ci 0))])
 (sq (sq (rg [mo 6 0,xo 7 (.len false (.t 6)),xo 8 (.mov (ci 0))])
 (.block 0
 (.loop [8] [9,10,5,11,12,13,14,15,16,17,4,18,8]
 (sq (rg [xo 9 (bi .lss 8 7)])
 (sq (cD 9
 .skip
 (.exit 0))
 (sq (.block 1
 (sq (rg [mo 10 8,mo 5 10])
 (sq (rg [mo 11 1,mo 12 0,mo 13 5,xo 14 (ia 1 12 13),lo 15 14,xo 16 (.bins .eql (.t 11) (.t 15))])
 (cD 16
 (sq (rg [mo 17 5,mo 4 17])
 .ret)
 .skip))))
 (rg [xo 18 (bc .add 8 1),mo 8 18])))))))
 (sq (rg [xo 4 (.mov (ci (-1)))])
 .ret)))⟩
theorem qBD:trFn Tryz.prog 121 [] [[8]]=some qJD:=by kernel_rfl
abbrev q0A:Nat:=122
def qUA:FnI:=⟨9,[.tmp 4],
 (sq (rg [xo 4 (.mov (.b false))])
 (sq (rg [mo 5 0,mo 6 1,xo 7 (.call 129 [(.t 5),(.t 6)]),xo 8 (bc .geq 7 0),mo 4 8])
 .ret))⟩
theorem qyA:trFn Tryz.prog 122 [] []=some qUA:=by kernel_rfl
abbrev qBJ:Nat:=123
theorem qEJ:FnOk Tryz.prog 123:=FnOk.of (by kernel_rfl)
def qUF:FnI:=⟨8,[.tmp 3],
 (sq (rg [xo 2 (.box 96 (.t 0)),xo 3 (.mov (.b false))])
 (sq (rg [fo 4 0 2,lo 5 4,lo 6 1,xo 7 (.bins .eql (.t 5) (.t 6)),mo 3 7])
 .ret))⟩
theorem q6I:trFn Tryz.prog 123 [] []=some qUF:=by kernel_rfl
abbrev qJH:Nat:=124
def qUH:FnI:=⟨11,[.tmp 4,.tmp 5],
 (sq (rg [xo 4 (.mov (.c (.string ⟨#[]⟩))),xo 5 (.mov (.b false))])
 (sq (rg [mo 6 0,mo 7 1,xo 8 (.call 130 [(.t 6),(.t 7)]),xo 9 (.ext 0 (.t 8)),xo 10 (.ext 1 (.t 8)),mo 4 9,mo 5 10])
 .ret))⟩
theorem q9G:trFn Tryz.prog 124 [] []=some qUH:=by kernel_rfl
abbrev qNN:Nat:=125
def qnN:FnI:=⟨13,[.cell 2 1 false],
 (sq (rg [xo 2 (.alloc 4 [(.v (.bool false))])])
 (sq (sq (rg [mo 4 0,xo 5 (.len true (.t 4)),xo 6 (bc .gtr 5 32)])
 (cD 6
 (sq (rg [xn (.store 1 (.t 2) (.b false))])
 .ret)
 .skip))
 (sq (sq (rg [mo 7 0,xo 8 (.call 131 [(.t 7),(.c (.int .u8 (46)))])])
 (.block 0
 (.rfun (.t 8) [9]
 (rg [mo 3 9])
 (.block 1
 (sq (rg [mo 10 3,xo 11 (.call 62 [(.t 10)]),xo 12 (.not (.t 11))])
 (cD 12
 (sq (rg [xn (.store 1 (.t 2) (.b false))])
 .ret)
 .skip))))))
 (sq (rg [xn (.store 1 (.t 2) (.b true))])
 .ret))))⟩
theorem qtM:trFn Tryz.prog 125 [] []=some qnN:=by kernel_rfl
abbrev qtH:Nat:=126
theorem q2H:FnOk Tryz.prog 126:=FnOk.of (by kernel_rfl)
def qGE:FnI:=⟨28,[],
 (sq (rg [lo 8 1,xo 9 (.len false (.t 8)),xo 10 (.mov (ci 0))])
 (.block 0
 (.loop [10] [11,12,13,14,7,6,15,16,17,18,19,20,21,22,23,24,25,26,27,10]
 (sq (rg [xo 11 (bi .lss 10 9)])
 (sq (cD 11
 .skip
 (.exit 0))
 (sq (.block 1
 (sq (rg [mo 12 10,xo 13 (ia 4 8 10),xo 14 (lt 4 13),xo 7 (.alloc 98 [(vi 0),(.v (.string ⟨#[]⟩)),(.v (.string ⟨#[]⟩)),(vi 0)]),mo 6 12,xn (st 4 7 14)])
 (sq (rg [xo 15 (lt 4 7),lo 16 2,lo 17 3,lo 18 4,xo 19 (.call 127 [(.t 15),(.t 16),(.t 17),(.t 18)]),mo 20 19,xg 21 (mv 0) 20 true,xg 22 (mv 6) 20 true,xg 23 (lt 4 7) 20 true,xg 24 (.callv (.t 21) [(.t 22),(.t 23)]) 20 true,xg 25 (.not (.t 24)) 20 true,xo 26 (.pick (.t 20) (.t 25) (.b false))])
 (cD 26
 .ret
 .skip))))
 (rg [xo 27 (bc .add 10 1),mo 10 27])))))))⟩
theorem qZH:trFn Tryz.prog 126 [] [[10]]=some qGE:=by kernel_rfl
abbrev q5L:Nat:=127
def qVM:FnI:=⟨25,[.tmp 8],
 (sq (rg [xo 4 (.box 98 (.t 0)),xo 8 (.mov (.b false))])
 (sq (rg [fo 9 0 4,lo 10 9,mo 11 1,xo 12 (bi .eql 10 11),mo 13 12,xg 14 (fa 1 4) 13 true,xg 15 (lf 14) 13 true,xg 16 (mv 2) 13 true,xg 17 (.call 132 [(.t 15),(.t 16)]) 13 true,xo 18 (.pick (.t 13) (.t 17) (.b false)),mo 19 18,xg 20 (mv 3) 19 true,xg 21 (fa 2 4) 19 true,xg 22 (lf 21) 19 true,xg 23 (.call 133 [(.t 20),(.t 22)]) 19 true,xo 24 (.pick (.t 19) (.t 23) (.b false)),mo 8 24])
 .ret))⟩
theorem qWL:trFn Tryz.prog 127 [] []=some qVM:=by kernel_rfl
abbrev qhK:Nat:=128
def qpK:FnI:=⟨20,[.tmp 2],
 (sq (rg [xo 2 (.mov (ci 0))])
 (sq (sq (rg [mo 5 0,xo 6 (.call 114 [(.t 5)]),xo 7 (.not (.t 6))])
 (cD 7
 (sq (rg [xo 2 (.mov (ci 0))])
 .ret)
 .skip))
 (sq (rg [mo 9 0,xo 10 (.call 124 [(.t 9),(.c (.string ⟨#[42,46]⟩))]),mo 8 10,xo 11 (.ext 0 (.t 8)),xo 12 (.ext 1 (.t 8)),mo 3 11,mo 4 12])
 (sq (.block 0
 (sq (rg [mo 14 4,mo 13 14])
 (cD 13
 (sq (rg [mo 15 3,xo 16 (.len true (.t 15)),mo 2 16])
 .ret)
 (sq (rg [mo 18 0,xo 19 (.bins .eql (.t 18) (.c (.string ⟨#[42]⟩))),mo 17 19])
 (cD 17
 (sq (rg [xo 2 (.mov (ci 0))])
 .ret)
 .skip)))))
 (sq (rg [xo 2 (.mov (ci 100))])
 .ret)))))⟩
theorem qYK:trFn Tryz.prog 128 [] []=some qpK:=by kernel_rfl
abbrev qEB:Nat:=129
def qWA:FnI:=⟨19,[.tmp 4],
 (sq (rg [xo 4 (.mov (ci 0))])
 (sq (sq (rg [mo 6 0,xo 7 (.len false (.t 6)),xo 8 (.mov (ci 0))])
 (.block 0
 (.loop [8] [9,10,5,11,12,13,14,15,16,17,4,18,8]
 (sq (rg [xo 9 (bi .lss 8 7)])
 (sq (cD 9
 .skip
 (.exit 0))
 (sq (.block 1
 (sq (rg [mo 10 8,mo 5 10])
 (sq (rg [mo 11 1,mo 12 0,mo 13 5,xo 14 (ia 4 12 13),xo 15 (lt 4 14),xo 16 (.callv (.t 11) [(.t 15)])])
 (cD 16
 (sq (rg [mo 17 5,mo 4 17])
 .ret)
 .skip))))
 (rg [xo 18 (bc .add 8 1),mo 8 18])))))))
 (sq (rg [xo 4 (.mov (ci (-1)))])
 .ret)))⟩
theorem qCB:trFn Tryz.prog 129 [] [[8]]=some qWA:=by kernel_rfl
abbrev q8E:Nat:=130
def qNF:FnI:=⟨15,[.tmp 4,.tmp 5],
 (sq (rg [xo 4 (.mov (.c (.string ⟨#[]⟩))),xo 5 (.mov (.b false))])
 (sq (sq (rg [mo 6 0,mo 7 1,xo 8 (.call 134 [(.t 6),(.t 7)]),xo 9 (.not (.t 8))])
 (cD 9
 (sq (rg [mo 10 0,mo 4 10,xo 5 (.mov (.b false))])
 .ret)
 .skip))
 (sq (rg [mo 11 0,mo 12 1,xo 13 (.len true (.t 12)),xo 14 (.slcs (.t 11) (some (.t 13)) none),mo 4 14,xo 5 (.mov (.b true))])
 .ret)))⟩
theorem qxE:trFn Tryz.prog 130 [] []=some qNF:=by kernel_rfl
abbrev q7L:Nat:=131
def qCI:FnI:=⟨6,[.tmp 4],
 (sq (rg [xo 2 (.box 9 (.t 0)),xo 3 (.box 5 (.t 1)),xo 4 (.mov (.c .nilFunc))])
 (sq (rg [xo 5 (.mkf (.func 135) [] [(.t 2),(.t 3)]),mo 4 5])
 .ret))⟩
theorem qbL:trFn Tryz.prog 131 [] []=some qCI:=by kernel_rfl
abbrev qAM:Nat:=132
def qYM:FnI:=⟨43,[.tmp 4],
 (sq (rg [xo 4 (.mov (.b false))])
 (sq (sq (rg [mo 7 0,xo 8 (.call 114 [(.t 7)]),xo 9 (.not (.t 8)),mo 10 9,xg 11 (mv 1) 10 false,xg 12 (.call 125 [(.t 11)]) 10 false,xg 13 (.not (.t 12)) 10 false,xo 14 (.pick (.t 10) (.b true) (.t 13))])
 (cD 14
 (sq (rg [xo 4 (.mov (.b false))])
 .ret)
 .skip))
 (sq (rg [mo 16 0,xo 17 (.call 124 [(.t 16),(.c (.string ⟨#[42]⟩))]),mo 15 17,xo 18 (.ext 0 (.t 15)),xo 19 (.ext 1 (.t 15)),mo 5 18,mo 6 19])
 (sq (.block 0
 (sq (.block 2
 (.block 1
 (sq (sq (sq (rg [mo 21 0,mo 22 1,xo 23 (.bins .eql (.t 21) (.t 22)),mo 20 23])
 (cD 20
 (.exit 1)
 .skip))
 (sq (rg [mo 25 6,mo 26 25,xg 27 (mv 5) 26 true,xg 28 (.bins .eql (.t 27) (.c (.string ⟨#[]⟩))) 26 true,xo 29 (.pick (.t 26) (.t 28) (.b false)),mo 24 29])
 (cD 24
 (.exit 2)
 .skip)))
 (.exit 0))))
 (sq (sq (rg [xo 4 (.mov (.b true))])
 .ret)
 (.exit 0))))
 (sq (rg [mo 30 6,mo 31 30,xg 32 (mv 1) 31 true,xg 33 (.len true (.t 32)) 31 true,xg 34 (mv 5) 31 true,xg 35 (.len true (.t 34)) 31 true,xg 36 (bi .gtr 33 35) 31 true,xo 37 (.pick (.t 31) (.t 36) (.b false)),mo 38 37,xg 39 (mv 1) 38 true,xg 40 (mv 5) 38 true,xg 41 (.call 137 [(.t 39),(.t 40)]) 38 true,xo 42 (.pick (.t 38) (.t 41) (.b false)),mo 4 42])
 .ret)))))⟩
theorem qeL:trFn Tryz.prog 132 [] []=some qYM:=by kernel_rfl
abbrev q9L:Nat:=133
def qXM:FnI:=⟨35,[.tmp 4],
 (sq (rg [xo 4 (.mov (.b false))])
 (sq (sq (rg [mo 7 0,xo 8 (.call 115 [(.t 7)]),xo 9 (.not (.t 8)),mo 10 9,xg 11 (mv 1) 10 false,xg 12 (.call 115 [(.t 11)]) 10 false,xg 13 (.not (.t 12)) 10 false,xo 14 (.pick (.t 10) (.b true) (.t 13))])
 (cD 14
 (sq (rg [xo 4 (.mov (.b false))])
 .ret)
 .skip))
 (sq (rg [mo 16 0,mo 17 1,xo 18 (.call 124 [(.t 16),(.t 17)]),mo 15 18,xo 19 (.ext 0 (.t 15)),xo 20 (.ext 1 (.t 15)),mo 5 19,mo 6 20])
 (sq (rg [mo 21 6,mo 22 21,xg 23 (mv 5) 22 true,xg 24 (.bins .eql (.t 23) (.c (.string ⟨#[]⟩))) 22 true,xg 25 (mv 24) 22 true,xg 26 (mv 1) 25 false,xg 27 (.call 137 [(.t 26),(.c (.string ⟨#[47]⟩))]) 25 false,xg 28 (.pick (.t 25) (.b true) (.t 27)) 22 true,xg 29 (mv 28) 22 true,xg 30 (mv 5) 29 false,xg 31 (.idxs (.t 30) (ci 0)) 29 false,xg 32 (.bini .eql (.t 31) (.c (.int .u8 (47)))) 29 false,xg 33 (.pick (.t 29) (.b true) (.t 32)) 22 true,xo 34 (.pick (.t 22) (.t 33) (.b false)),mo 4 34])
 .ret))))⟩
theorem qdL:trFn Tryz.prog 133 [] []=some qXM:=by kernel_rfl
abbrev q7E:Nat:=134
def qMF:FnI:=⟨18,[.tmp 4],
 (sq (rg [xo 4 (.mov (.b false))])
 (sq (rg [mo 5 0,xo 6 (.len true (.t 5)),mo 7 1,xo 8 (.len true (.t 7)),xo 9 (bi .geq 6 8),mo 10 9,xg 11 (mv 0) 10 true,xg 12 (mv 1) 10 true,xg 13 (.len true (.t 12)) 10 true,xg 14 (.slcs (.t 11) none (some (.t 13))) 10 true,xg 15 (mv 1) 10 true,xg 16 (.bins .eql (.t 14) (.t 15)) 10 true,xo 17 (.pick (.t 10) (.t 16) (.b false)),mo 4 17])
 .ret))⟩
theorem qwE:trFn Tryz.prog 134 [] []=some qMF:=by kernel_rfl
abbrev qyJ:Nat:=135
theorem q7J:FnOk Tryz.prog 135:=FnOk.of (by kernel_rfl)
def qHG:FnI:=⟨23,[],
 (.block 0
 (.loop [] [5,6,7,4,8,9,10,11,12,13,14,15,16,17,18,19,20,21,22]
 (.block 1
 (sq (rg [lo 5 1,lo 6 2,xo 7 (.call 136 [(.t 5),(.t 6)]),mo 4 7])
 (sq (sq (rg [mo 8 4,xo 9 (bc .lss 8 0)])
 (cD 9
 (sq (rg [mo 10 0,lo 11 1,xo 12 (.callv (.t 10) [(.t 11)])])
 .ret)
 .skip))
 (sq (sq (rg [mo 13 0,lo 14 1,mo 15 4,xo 16 (.slcs (.t 14) none (some (.t 15))),xo 17 (.callv (.t 13) [(.t 16)]),xo 18 (.not (.t 17))])
 (cD 18
 .ret
 .skip))
 (rg [lo 19 1,mo 20 4,xo 21 (bc .add 20 1),xo 22 (.slcs (.t 19) (some (.t 21)) none),xn (st 1 1 22)])))))))⟩
theorem qWJ:trFn Tryz.prog 135 [] [[]]=some qHG:=by kernel_rfl
abbrev qHH:Nat:=136
def qSH:FnI:=⟨8,[.tmp 4],
 (sq (rg [xo 4 (.mov (ci 0))])
 (sq (rg [mo 5 0,mo 6 1,xo 7 (.call 138 [(.t 5),(.t 6)]),mo 4 7])
 .ret))⟩
theorem q7G:trFn Tryz.prog 136 [] []=some qSH:=by kernel_rfl
abbrev qIH:Nat:=137
def qTH:FnI:=⟨8,[.tmp 4],
 (sq (rg [xo 4 (.mov (.b false))])
 (sq (rg [mo 5 0,mo 6 1,xo 7 (.call 139 [(.t 5),(.t 6)]),mo 4 7])
 .ret))⟩
theorem q8G:trFn Tryz.prog 137 [] []=some qTH:=by kernel_rfl
abbrev q5E:Nat:=138
abbrev q6E:Nat:=139
def qLF:FnI:=⟨21,[.tmp 4],
 (sq (rg [xo 4 (.mov (.b false))])
 (sq (rg [mo 5 0,xo 6 (.len true (.t 5)),mo 7 1,xo 8 (.len true (.t 7)),xo 9 (bi .geq 6 8),mo 10 9,xg 11 (mv 0) 10 true,xg 12 (mv 0) 10 true,xg 13 (.len true (.t 12)) 10 true,xg 14 (mv 1) 10 true,xg 15 (.len true (.t 14)) 10 true,xg 16 (bi .sub 13 15) 10 true,xg 17 (.slcs (.t 11) (some (.t 16)) none) 10 true,xg 18 (mv 1) 10 true,xg 19 (.bins .eql (.t 17) (.t 18)) 10 true,xo 20 (.pick (.t 10) (.t 19) (.b false)),mo 4 20])
 .ret))⟩
theorem qvE:trFn Tryz.prog 139 [] []=some qLF:=by kernel_rfl
end Go.Proofs.YtompjkkgaafllaaGreat
