/- The functions, as the evaluator reads them: each is what the given program's code says (checked by the kernel). -/
import Derived.Test.YtkogfpniapaigaaGreatSxB
import Derived.Test.YtkogfpniapaigaaGreatRows
set_option linter.unusedVariables false
set_option linter.unusedSimpArgs false
namespace Go.Proofs.YtkogfpniapaigaaGreat
open Go.Proofs.YtkogfpniapaigaaGreat.Sx
abbrev zl0:List SV:=[(.v (.int .i64 (0))),(.v (.string ⟨#[]⟩)),(.v (.string ⟨#[]⟩)),(.v (.string ⟨#[]⟩)),(.v (.int .i64 (0))),(.v (.int .i64 (0))),(.v (.int .i64 (0))),(.v (.slice none 0 0)),(.v (.slice none 0 0)),(.v (.slice none 0 0)),(.v (.int .i64 (0))),(.v (.int .i64 (0))),(.v (.int .i64 (0))),(.v (.int .i64 (0))),(.v (.int .i64 (0))),(.v (.int .i64 (0))),(.v (.int .i64 (0))),(.v (.int .i64 (0))),(.v (.int .i64 (0))),(.v (.int .u64 (0))),(.v (.int .i64 (0))),(.v (.int .i64 (0))),(.v (.int .i64 (0))),(.v (.int .i64 (0))),(.v (.bool false)),(.v (.int .i64 (0))),(.v (.int .i64 (0))),(.v (.int .i64 (0))),(.v (.int .i64 (0))),(.v (.int .i64 (0))),(.v (.int .i64 (0))),(.v (.int .i64 (0))),(.v (.int .u64 (0))),(.v (.int .u64 (0))),(.v (.int .u64 (0))),(.v (.int .u64 (0))),(.v (.int .u64 (0))),(.v (.int .u64 (0))),(.v (.int .u64 (0))),(.v (.int .u64 (0))),(.v (.int .u64 (0))),(.v (.int .u64 (0))),(.v (.int .u64 (0))),(.v (.int .u64 (0)))]
abbrev zl1:List SV:=[(.v (.int .i64 (0))),(.v (.int .i64 (0))),(.v (.int .i64 (0))),(.v (.int .i64 (0))),(.v (.int .i64 (0))),(.v (.bool false)),(.v (.int .i64 (0))),(.v (.bool false)),(.v (.bool false)),(.v (.bool false)),(.v (.int .i64 (0))),(.v (.int .i64 (0))),(.v (.int .i64 (0))),(.v (.int .i64 (0))),(.v (.int .i64 (0))),(.v (.int .i64 (0))),(.v (.int .i64 (0))),(.v (.int .u64 (0))),(.v (.int .u64 (0))),(.v (.int .u64 (0))),(.v (.int .u64 (0))),(.v (.int .u64 (0))),(.v (.int .u64 (0)))]
abbrev zl2:List SV:=[(.v (.int .i64 (0))),(.v (.int .i64 (0))),(.v (.int .i64 (0))),(.v (.int .i64 (0))),(.v (.int .i64 (0))),(.v (.int .i64 (0))),(.v (.int .i64 (0))),(.v (.int .u64 (0))),(.v (.int .u64 (0))),(.v (.int .u64 (0))),(.v (.int .u64 (0))),(.v (.int .u64 (0))),(.v (.int .u64 (0)))]
abbrev qNA:Nat:=3
abbrev qGH:Nat:=4
abbrev q0B:Nat:=9
abbrev qzD:Nat:=22
abbrev q0D:Nat:=23
abbrev q2E:Nat:=24
abbrev q8G:Nat:=25
abbrev q1D:Nat:=26
abbrev qEA:Nat:=28
abbrev qwJ:Nat:=29
abbrev qbK:Nat:=30
abbrev q2D:Nat:=31
abbrev qtA:Nat:=33
abbrev qcK:Nat:=35
abbrev q0C:Nat:=36
abbrev qZF:Nat:=37
abbrev qbE:Nat:=39
abbrev qtC:Nat:=41
abbrev qBK:Nat:=52
abbrev q9A:Nat:=56
abbrev qZL:Nat:=58
abbrev qPA:Nat:=60
abbrev qbN:Nat:=61
abbrev qYF:Nat:=65
abbrev qCA:Nat:=67
abbrev qMI:Nat:=72
abbrev qLA:Nat:=74
abbrev qTQ:Nat:=75
abbrev q1B:Nat:=77
abbrev qJC:Nat:=79
abbrev qbA:Nat:=95
abbrev qSA:Nat:=99
abbrev qkC:Nat:=110
abbrev qKB:Nat:=116
abbrev qTC:Nat:=121
abbrev mv (n:Nat):SOp:=.mov (.t n)
abbrev lf (n:Nat):SOp:=.load false 1 (.t n)
abbrev lt (s n:Nat):SOp:=.load true s (.t n)
abbrev fa (k n:Nat):SOp:=.fadr k (.t n)
abbrev nk (n:Nat):SOp:=.nck (.t n)
abbrev ci (n:Int):Opd:=.c (.int .i64 n)
abbrev vi (n:Int):SV:=.v (.int .i64 n)
abbrev of (i:Nat) (o:SOper) (r:OT):OT:=.op ⟨i,false,[],o⟩ r
abbrev ot (i:Nat) (o:SOper) (r:OT):OT:=.op ⟨i,true,[],o⟩ r
abbrev mo (d n:Nat):SOper:=xo d (mv n)
abbrev lo (d n:Nat):SOper:=xo d (lf n)
abbrev fo (d k n:Nat):SOper:=xo d (fa k n)
abbrev sq (a b:SCode):SCode:=.seq a b
abbrev rg (l:List SOper):SCode:=.reg l
abbrev rd (l:List Nat) (t:OT):SCode:=.regD l t
abbrev bi (o:BinOp) (a b:Nat):SOp:=.bini o (.t a) (.t b)
abbrev bc (o:BinOp) (a:Nat) (n:Int):SOp:=.bini o (.t a) (ci n)
abbrev cD (a:Nat) (x y:SCode):SCode:=.cond (.t a) x y
abbrev ia (k a b:Nat):SOp:=.iadr k (.t a) (.t b)
abbrev st (k a b:Nat):SOp:=.store k (.t a) (.t b)
abbrev fs (l:List Nat) (r:OI):OI:=l.foldr .first r
abbrev qJE:Nat:=3
def qSE:FnI:=⟨49,[.tmp 4],
 (sq (rg [xo 2 (.box 28 (.t 0)),xo 3 (.box 41 (.t 1)),xo 4 (.mov (.b false))])
 (sq (sq (rg [xo 11 (lt 8 2),xo 12 (.call 6 [(.t 11)]),mo 13 12,xg 14 (fa 0 3) 13 false,xg 15 (fa 7 14) 13 false,xg 16 (lt 3 15) 13 false,xg 17 (.call 7 [(.t 16)]) 13 false,xo 18 (.pick (.t 13) (.b true) (.t 17))])
 (cD 18
 (sq (rg [xo 4 (.mov (.b true))])
 .ret)
 .skip))
 (sq (rg [xo 20 (lt 8 2),xo 21 (lt 44 3),xo 22 (.call 8 [(.t 20),(.t 21)]),mo 19 22,xo 23 (.ext 0 (.t 19)),xo 24 (.ext 1 (.t 19)),xo 25 (.ext 2 (.t 19)),xo 5 (.alloc 28 [(vi 0),(vi 0),(vi 0),(.v (.slice none 0 0)),(.v (.slice none 0 0)),(.v (.slice none 0 0)),(.v (.slice none 0 0)),(.v (.slice none 0 0))]),xo 6 (.alloc 41 zl0),xo 7 (.alloc 45 zl1),xn (st 8 5 23),xn (st 44 6 24),xn (st 23 7 25)])
 (sq (rg [xo 27 (lt 8 2),xo 28 (lt 44 3),xo 29 (.call 9 [(.t 27),(.t 28)]),mo 26 29,xo 30 (.ext 0 (.t 26)),xo 31 (.ext 1 (.t 26)),xo 32 (.ext 2 (.t 26)),xo 8 (.alloc 28 [(vi 0),(vi 0),(vi 0),(.v (.slice none 0 0)),(.v (.slice none 0 0)),(.v (.slice none 0 0)),(.v (.slice none 0 0)),(.v (.slice none 0 0))]),xo 9 (.alloc 41 zl0),xo 10 (.alloc 45 zl1),xn (st 8 8 30),xn (st 44 9 31),xn (st 23 10 32)])
 (sq (rg [xo 33 (.call 10 []),mo 34 33,xg 35 (lt 8 5) 34 true,xg 36 (lt 8 8) 34 true,xg 37 (.call 11 [(.t 35),(.t 36)]) 34 true,xo 38 (.pick (.t 34) (.t 37) (.b false)),mo 39 38,xg 40 (lt 44 6) 39 true,xg 41 (lt 44 9) 39 true,xg 42 (.call 12 [(.t 40),(.t 41)]) 39 true,xo 43 (.pick (.t 39) (.t 42) (.b false)),mo 44 43,xg 45 (lt 23 7) 44 true,xg 46 (lt 23 10) 44 true,xg 47 (.binst false [0,0,0,0,0,2,0,2,2,2,0,0,0,0,0,0,0,0,0,0,0,0,0] (.t 45) (.t 46)) 44 true,xo 48 (.pick (.t 44) (.t 47) (.b false)),mo 4 48])
 .ret)))))⟩
theorem q6D:trFn Tryz.prog 3 [] []=some qSE:=by kernel_rfl
abbrev qpE:Nat:=4
def qzE:FnI:=⟨135,[.tmp 6],
 (sq (rg [xo 3 (.box 28 (.t 0)),xo 6 (.mov (.b false))])
 (sq (sq (rg [xo 14 (lt 8 3),xo 15 (.call 6 [(.t 14)]),mo 16 15,xg 17 (mv 2) 16 false,xg 18 (.len false (.t 17)) 16 false,xg 19 (bc .gtr 18 8) 16 false,xo 20 (.pick (.t 16) (.b true) (.t 19)),mo 21 20,xg 22 (lt 8 3) 21 false,xg 23 (mv 1) 21 false,xg 24 (.build zl0 [(10,1,(.t 23))]) 21 false,xg 25 (.call 13 [(.t 22),(.t 24)]) 21 false,xg 26 (.not (.t 25)) 21 false,xo 27 (.pick (.t 21) (.b true) (.t 26))])
 (cD 27
 (sq (rg [xo 28 (.call 10 []),mo 6 28])
 .ret)
 .skip))
 (sq (rg [xo 29 (lt 8 3),xo 7 (.alloc 28 [(vi 0),(vi 0),(vi 0),(.v (.slice none 0 0)),(.v (.slice none 0 0)),(.v (.slice none 0 0)),(.v (.slice none 0 0)),(.v (.slice none 0 0))]),xn (st 8 7 29)])
 (sq (rg [xo 8 (.mov (ci 0))])
 (sq (sq (rg [xo 9 (.mov (ci 0))])
 (.block 0
 (.loop [8,9] [30,31,32,33,36,37,38,39,40,41,6,10,11,43,44,45,46,47,48,49,50,51,42,52,53,54,12,55,56,57,58,59,60,8,61,34,35,9]
 (sq (sq (rg [mo 30 9,mo 31 2,xo 32 (.len false (.t 31)),xo 33 (bi .lss 30 32)])
 (cD 33
 .skip
 (.exit 0)))
 (sq (.block 1
 (sq (sq (rg [mo 36 2,mo 37 9,xo 38 (ia 3 36 37),xo 39 (lt 3 38),xo 40 (.call 7 [(.t 39)])])
 (cD 40
 (sq (rg [xo 41 (.call 10 []),mo 6 41])
 .ret)
 .skip))
 (sq (rd [10,11] (ot 0 (xo 43 (lt 8 7))
 (of 1 (mo 44 2)
 (of 2 (mo 45 9)
 (ot 3 (xo 46 (ia 3 44 45))
 (ot 4 (xo 47 (lt 3 46))
 (of 5 (xo 48 (.build [(vi 0),(.v (.string ⟨#[]⟩)),(.v (.string ⟨#[]⟩)),(.v (.string ⟨#[]⟩)),(vi 0),(vi 0),(vi 0),(.v (.slice none 0 0)),(.v (.slice none 0 0)),(.v (.slice none 0 0))] [(0,1,(ci 3)),(7,3,(.t 47))]))
 (of 6 (mo 49 1)
 (of 7 (xo 50 (.build zl0 [(0,10,(.t 48)),(10,1,(.t 49))]))
 (of 8 (xo 51 (.call 14 [(.t 43),(.t 50)]))
 (of 9 (mo 42 51)
 (of 10 (xo 52 (.ext 0 (.t 42)))
 (of 11 (xo 53 (.ext 1 (.t 42)))
 (of 12 (xo 54 (.ext 2 (.t 42)))
 (.bring ⟨13,false,[],xo 10 (.alloc 28 [(vi 0),(vi 0),(vi 0),(.v (.slice none 0 0)),(.v (.slice none 0 0)),(.v (.slice none 0 0)),(.v (.slice none 0 0)),(.v (.slice none 0 0))])⟩
 (.bring ⟨14,false,[],xo 11 (.alloc 41 zl0)⟩
 (of 15 (xn (st 8 10 52))
 (of 16 (xn (st 44 11 53))
 (of 17 (mo 12 54)
 .nil)))))))))))))))))))
 (sq (sq (rg [fo 55 25 11,fo 56 0 55,lo 57 56,xo 58 (bc .eql 57 8)])
 (cD 58
 (rg [mo 59 8,xo 60 (bc .add 59 1),mo 8 60])
 .skip))
 (rg [xo 61 (lt 8 10),xn (st 8 7 61)])))))
 (rg [mo 34 9,xo 35 (bc .add 34 1),mo 9 35]))))))
 (sq (sq (rg [fo 62 4 7,lo 63 62,xo 64 (.len false (.t 63)),fo 65 4 3,lo 66 65,xo 67 (.len false (.t 66)),mo 68 8,xo 69 (bi .add 67 68),xo 70 (bi .neq 64 69),mo 71 70,xg 72 (fa 7 7) 71 false,xg 73 (lf 72) 71 false,xg 74 (.len false (.t 73)) 71 false,xg 75 (fa 7 3) 71 false,xg 76 (lf 75) 71 false,xg 77 (.len false (.t 76)) 71 false,xg 78 (mv 8) 71 false,xg 79 (bi .add 77 78) 71 false,xg 80 (bi .neq 74 79) 71 false,xo 81 (.pick (.t 71) (.b true) (.t 80))])
 (cD 81
 (sq (rg [xo 6 (.mov (.b false))])
 .ret)
 .skip))
 (sq (sq (rg [fo 82 7 3,lo 83 82,xo 84 (.len false (.t 83)),mo 13 84])
 (.block 2
 (.loop [13] [85,86,87,88,89,92,93,94,95,96,97,98,99,100,101,102,103,104,105,106,107,108,109,110,111,112,113,114,115,116,117,118,119,6,90,91,13]
 (sq (sq (rg [mo 85 13,fo 86 7 7,lo 87 86,xo 88 (.len false (.t 87)),xo 89 (bi .lss 85 88)])
 (cD 89
 .skip
 (.exit 2)))
 (sq (.block 3
 (sq (rd [] (of 0 (fo 92 7 7)
 (ot 1 (lo 93 92)
 (of 2 (mo 94 13)
 (ot 3 (xo 95 (ia 3 93 94))
 (of 4 (fo 96 2 95)
 (ot 5 (lo 97 96)
 (of 6 (mo 98 97)
 (of 7 (xg 99 (fa 7 7) 98 false)
 (ot 8 (xg 100 (lf 99) 98 false)
 (of 9 (xg 101 (mv 13) 98 false)
 (ot 10 (xg 102 (ia 3 100 101) 98 false)
 (of 11 (xg 103 (fa 0 102) 98 false)
 (ot 12 (xg 104 (lf 103) 98 false)
 (of 13 (xg 105 (fa 1 7) 98 false)
 (ot 14 (xg 106 (lf 105) 98 false)
 (of 15 (xg 107 (bi .eql 104 106) 98 false)
 (of 16 (xo 108 (.pick (.t 98) (.b true) (.t 107)))
 (of 17 (mo 109 108)
 (of 18 (xg 110 (fa 7 7) 109 false)
 (ot 19 (xg 111 (lf 110) 109 false)
 (of 20 (xg 112 (mv 13) 109 false)
 (ot 21 (xg 113 (ia 3 111 112) 109 false)
 (of 22 (xg 114 (fa 1 113) 109 false)
 (ot 23 (xg 115 (lf 114) 109 false)
 (of 24 (xg 116 (fa 0 3) 109 false)
 (ot 25 (xg 117 (lf 116) 109 false)
 (of 26 (xg 118 (bi .neq 115 117) 109 false)
 (of 27 (xo 119 (.pick (.t 109) (.b true) (.t 118)))
 .nil)))))))))))))))))))))))))))))
 (cD 119
 (sq (rg [xo 6 (.mov (.b false))])
 .ret)
 .skip)))
 (rg [mo 90 13,xo 91 (bc .add 90 1),mo 13 91]))))))
 (sq (rg [xo 120 (.call 10 []),mo 121 120,xg 122 (lt 8 7) 121 true,xg 123 (.call 15 [(.t 122)]) 121 true,xo 124 (.pick (.t 121) (.t 123) (.b false)),mo 125 124,xg 126 (mv 8) 125 true,xg 127 (bc .eql 126 0) 125 true,xg 128 (fa 1 7) 125 true,xg 129 (lf 128) 125 true,xg 130 (fa 1 3) 125 true,xg 131 (lf 130) 125 true,xg 132 (bi .eql 129 131) 125 true,xg 133 (.binb false (.t 127) (.t 132)) 125 true,xo 134 (.pick (.t 125) (.t 133) (.b false)),mo 6 134])
 .ret))))))))⟩
theorem qhE:trFn Tryz.prog 4 [([13,14],(fs [0,1,2,3,4,5,6,7] (.exec 8 (fs [9,10,11,12] (.bring 13 (.bring 14 (.exec 15 (.exec 16 (.first 17 .nil))))))))),([],(fs [0,1,2,3,4,5,6,7,8,9,10,11,12,13,14,15,16,17,18,19,20,21,22,23,24,25,26,27] .nil))] [[8,9],[13]]=some qzE:=by kernel_rfl
abbrev qKE:Nat:=5
def qTE:FnI:=⟨158,[.tmp 6],
 (sq (rg [xo 3 (.box 28 (.t 0)),xo 5 (.box 33 (.t 2)),xo 6 (.mov (.b false))])
 (sq (rg [xo 16 (lt 3 5),xo 17 (.build [(vi 0),(.v (.string ⟨#[]⟩)),(.v (.string ⟨#[]⟩)),(.v (.string ⟨#[]⟩)),(vi 0),(vi 0),(vi 0),(.v (.slice none 0 0)),(.v (.slice none 0 0)),(.v (.slice none 0 0))] [(0,1,(ci 3)),(7,3,(.t 16))]),mo 18 1,xo 19 (.build zl0 [(0,10,(.t 17)),(10,1,(.t 18))]),xo 7 (.alloc 41 zl0),xn (st 44 7 19)])
 (sq (sq (rg [xo 20 (lt 8 3),xo 21 (.call 6 [(.t 20)]),mo 22 21,xg 23 (lt 3 5) 22 false,xg 24 (.call 7 [(.t 23)]) 22 false,xo 25 (.pick (.t 22) (.b true) (.t 24)),mo 26 25,xg 27 (lt 8 3) 26 false,xg 28 (lt 44 7) 26 false,xg 29 (.call 13 [(.t 27),(.t 28)]) 26 false,xg 30 (.not (.t 29)) 26 false,xo 31 (.pick (.t 26) (.b true) (.t 30))])
 (cD 31
 (sq (rg [xo 32 (.call 10 []),mo 6 32])
 .ret)
 .skip))
 (sq (sq (rg [xo 8 (.mov (ci 0))])
 (.block 0
 (.loop [8] [33,34,35,36,37,40,41,42,43,44,45,46,47,48,6,38,39,8]
 (sq (sq (rg [mo 33 8,fo 34 7 3,lo 35 34,xo 36 (.len false (.t 35)),xo 37 (bi .lss 33 36)])
 (cD 37
 .skip
 (.exit 0)))
 (sq (.block 1
 (sq (rd [] (of 0 (fo 40 7 3)
 (ot 1 (lo 41 40)
 (of 2 (mo 42 8)
 (ot 3 (xo 43 (ia 3 41 42))
 (of 4 (fo 44 0 43)
 (ot 5 (lo 45 44)
 (of 6 (fo 46 1 3)
 (ot 7 (lo 47 46)
 (of 8 (xo 48 (bi .eql 45 47))
 .nil))))))))))
 (cD 48
 (sq (rg [xo 6 (.mov (.b false))])
 .ret)
 .skip)))
 (rg [mo 38 8,xo 39 (bc .add 38 1),mo 8 39]))))))
 (sq (rg [xo 50 (lt 8 3),xo 51 (lt 44 7),xo 52 (.call 14 [(.t 50),(.t 51)]),mo 49 52,xo 53 (.ext 0 (.t 49)),xo 54 (.ext 1 (.t 49)),xo 55 (.ext 2 (.t 49)),xo 9 (.alloc 28 [(vi 0),(vi 0),(vi 0),(.v (.slice none 0 0)),(.v (.slice none 0 0)),(.v (.slice none 0 0)),(.v (.slice none 0 0)),(.v (.slice none 0 0))]),xo 10 (.alloc 41 zl0),xn (st 8 9 53),xn (st 44 10 54),mo 11 55])
 (sq (rg [xo 57 (lt 3 5),xo 58 (.call 16 [(.t 57)]),mo 56 58,xo 59 (.ext 0 (.t 56)),xo 60 (.ext 1 (.t 56)),xo 61 (.ext 2 (.t 56)),xo 12 (.alloc 60 [(.v (.slice none 0 0)),(.v (.slice none 0 0)),(.v (.slice none 0 0))]),xn (st 3 12 59),mo 13 60,mo 14 61])
 (sq (sq (rg [fo 62 24 10,lo 63 62,xo 64 (.not (.t 63)),mo 65 64,xg 66 (lt 8 9) 65 false,xg 67 (.call 15 [(.t 66)]) 65 false,xg 68 (.not (.t 67)) 65 false,xo 69 (.pick (.t 65) (.b true) (.t 68))])
 (cD 69
 (sq (rg [xo 6 (.mov (.b false))])
 .ret)
 .skip))
 (sq (sq (rg [mo 70 13,xo 71 (bc .neq 70 0)])
 (cD 71
 (sq (rg [xo 72 (.call 10 []),mo 73 72,xg 74 (mv 11) 73 true,xg 75 (bc .eql 74 1) 73 true,xo 76 (.pick (.t 73) (.t 75) (.b false)),mo 77 76,xg 78 (fa 25 10) 77 true,xg 79 (lt 13 78) 77 true,xg 80 (mv 13) 77 true,xg 81 (.build zl2 [(0,1,(ci 9)),(6,1,(.t 80))]) 77 true,xg 82 (.binst false [0,0,0,0,0,0,0,0,0,0,0,0,0] (.t 79) (.t 81)) 77 true,xo 83 (.pick (.t 77) (.t 82) (.b false)),mo 84 83,xg 85 (lt 8 3) 84 true,xg 86 (lt 8 9) 84 true,xg 87 (.call 11 [(.t 85),(.t 86)]) 84 true,xo 88 (.pick (.t 84) (.t 87) (.b false)),mo 6 88])
 .ret)
 .skip))
 (sq (rg [fo 89 4 3,lo 90 89,xo 91 (.len false (.t 90)),mo 15 91])
 (sq (sq (rg [fo 92 4 9,lo 93 92,xo 94 (.len false (.t 93)),mo 95 15,xo 96 (bc .add 95 1),xo 97 (bi .neq 94 96),mo 98 97,xg 99 (fa 7 9) 98 false,xg 100 (lf 99) 98 false,xg 101 (.len false (.t 100)) 98 false,xg 102 (fa 7 3) 98 false,xg 103 (lf 102) 98 false,xg 104 (.len false (.t 103)) 98 false,xg 105 (bc .add 104 1) 98 false,xg 106 (bi .neq 101 105) 98 false,xo 107 (.pick (.t 98) (.b true) (.t 106))])
 (cD 107
 (sq (rg [xo 6 (.mov (.b false))])
 .ret)
 .skip))
 (sq (rd [] (of 0 (xo 108 (.call 10 []))
 (of 1 (mo 109 108)
 (of 2 (xg 110 (mv 11) 109 true)
 (of 3 (xg 111 (bc .eql 110 3) 109 true)
 (of 4 (xo 112 (.pick (.t 109) (.t 111) (.b false)))
 (of 5 (mo 113 112)
 (of 6 (xg 114 (fa 1 9) 113 true)
 (ot 7 (xg 115 (lf 114) 113 true)
 (of 8 (xg 116 (mv 15) 113 true)
 (of 9 (xg 117 (bi .eql 115 116) 113 true)
 (of 10 (xo 118 (.pick (.t 113) (.t 117) (.b false)))
 (of 11 (mo 119 118)
 (of 12 (xg 120 (fa 25 10) 119 true)
 (ot 13 (xg 121 (lt 13 120) 119 true)
 (of 14 (xg 122 (mv 15) 119 true)
 (of 15 (xg 123 (.build zl2 [(0,1,(ci 8)),(1,1,(.t 122))]) 119 true)
 (of 16 (xg 124 (.binst false [0,0,0,0,0,0,0,0,0,0,0,0,0] (.t 121) (.t 123)) 119 true)
 (of 17 (xo 125 (.pick (.t 119) (.t 124) (.b false)))
 (of 18 (mo 126 125)
 (of 19 (xg 127 (fa 4 9) 126 true)
 (ot 20 (xg 128 (lf 127) 126 true)
 (of 21 (xg 129 (mv 15) 126 true)
 (ot 22 (xg 130 (ia 5 128 129) 126 true)
 (of 23 (xg 131 (fa 0 130) 126 true)
 (ot 24 (xg 132 (lt 3 131) 126 true)
 (ot 25 (xg 133 (lt 3 12) 126 true)
 (of 26 (xg 134 (.call 17 [(.t 132),(.t 133)]) 126 true)
 (of 27 (xo 135 (.pick (.t 126) (.t 134) (.b false)))
 (of 28 (mo 136 135)
 (of 29 (xg 137 (fa 7 9) 136 true)
 (ot 30 (xg 138 (lf 137) 136 true)
 (of 31 (xg 139 (fa 7 3) 136 true)
 (ot 32 (xg 140 (lf 139) 136 true)
 (of 33 (xg 141 (.len false (.t 140)) 136 true)
 (ot 34 (xg 142 (ia 3 138 141) 136 true)
 (ot 35 (xg 143 (lt 3 142) 136 true)
 (of 36 (xg 144 (fa 1 3) 136 true)
 (ot 37 (xg 145 (lf 144) 136 true)
 (of 38 (xg 146 (fa 0 3) 136 true)
 (ot 39 (xg 147 (lf 146) 136 true)
 (of 40 (xg 148 (.build [(vi 0),(vi 0),(.v (.bool false))] [(0,1,(.t 145)),(1,1,(.t 147))]) 136 true)
 (of 41 (xg 149 (.binst false [0,0,2] (.t 143) (.t 148)) 136 true)
 (of 42 (xo 150 (.pick (.t 136) (.t 149) (.b false)))
 (of 43 (mo 151 150)
 (ot 44 (xg 152 (lt 8 9) 151 true)
 (ot 46 (xg 154 (lt 8 3) 151 true)
 (of 45 (xg 153 (.call 18 [(.t 152)]) 151 true)
 (of 47 (xg 155 (.call 18 [(.t 154)]) 151 true)
 (of 48 (xg 156 (bi .eql 153 155) 151 true)
 (of 49 (xo 157 (.pick (.t 151) (.t 156) (.b false)))
 (of 50 (mo 6 157)
 .nil))))))))))))))))))))))))))))))))))))))))))))))))))))
 .ret)))))))))))⟩
theorem q7D:trFn Tryz.prog 5 [([],(fs [0,1,2,3,4,5,6,7,8] .nil)),([],(.exec 0 (fs [1,2,3,4,5,6,7,8,9,10,11,12,13,14,15,16,17,18,19,20,21,22,23,24,25] (.exec 26 (fs [27,28,29,30,31,32,33,34,35,36,37,38,39,40,41,42,43,44,46] (.exec 45 (.exec 47 (fs [48,49,50] .nil))))))))] [[8]]=some qTE:=by kernel_rfl
abbrev qfI:Nat:=6
def qwI:FnI:=⟨69,[.tmp 2],
 (sq (rg [xo 1 (.box 28 (.t 0)),xo 2 (.mov (.b false))])
 (sq (sq (rg [fo 6 3 1,lo 7 6,xo 8 (.len false (.t 7)),xo 9 (bc .gtr 8 20),mo 10 9,xg 11 (fa 4 1) 10 false,xg 12 (lf 11) 10 false,xg 13 (.len false (.t 12)) 10 false,xg 14 (bc .gtr 13 40) 10 false,xo 15 (.pick (.t 10) (.b true) (.t 14)),mo 16 15,xg 17 (fa 5 1) 16 false,xg 18 (lf 17) 16 false,xg 19 (.len false (.t 18)) 16 false,xg 20 (bc .gtr 19 40) 16 false,xo 21 (.pick (.t 16) (.b true) (.t 20)),mo 22 21,xg 23 (fa 6 1) 22 false,xg 24 (lf 23) 22 false,xg 25 (.call 19 [(.t 24)]) 22 false,xo 26 (.pick (.t 22) (.b true) (.t 25)),mo 27 26,xg 28 (fa 7 1) 27 false,xg 29 (lf 28) 27 false,xg 30 (.len false (.t 29)) 27 false,xg 31 (bc .gtr 30 60) 27 false,xo 32 (.pick (.t 27) (.b true) (.t 31))])
 (cD 32
 (sq (rg [xo 2 (.mov (.b true))])
 .ret)
 .skip))
 (sq (sq (rg [xo 3 (.mov (ci 0))])
 (.block 0
 (.loop [3] [33,34,35,36,37,40,41,42,43,44,4,45,46,47,48,49,50,51,52,53,2,5,54,55,56,57,58,61,62,63,64,65,66,67,68,59,60,38,39,3]
 (sq (sq (rg [mo 33 3,fo 34 4 1,lo 35 34,xo 36 (.len false (.t 35)),xo 37 (bi .lss 33 36)])
 (cD 37
 .skip
 (.exit 0)))
 (sq (.block 1
 (sq (rg [fo 40 4 1,lo 41 40,mo 42 3,xo 43 (ia 5 41 42),xo 44 (lt 5 43),xo 4 (.alloc 67 [(.v (.slice none 0 0)),(.v (.slice none 0 0)),(.v (.slice none 0 0)),(.v (.slice none 0 0)),(.v (.bool false))]),xn (st 5 4 44)])
 (sq (sq (rg [fo 45 0 4,xo 46 (lt 3 45),xo 47 (.call 20 [(.t 46)]),mo 48 47,xg 49 (fa 3 4) 48 false,xg 50 (lf 49) 48 false,xg 51 (.len false (.t 50)) 48 false,xg 52 (bc .gtr 51 20) 48 false,xo 53 (.pick (.t 48) (.b true) (.t 52))])
 (cD 53
 (sq (rg [xo 2 (.mov (.b true))])
 .ret)
 .skip))
 (sq (rg [xo 5 (.mov (ci 0))])
 (.block 2
 (.loop [5] [54,55,56,57,58,61,62,63,64,65,66,67,68,2,59,60,5]
 (sq (sq (rg [mo 54 5,fo 55 3 4,lo 56 55,xo 57 (.len false (.t 56)),xo 58 (bi .lss 54 57)])
 (cD 58
 .skip
 (.exit 2)))
 (sq (.block 3
 (sq (rg [fo 61 3 4,lo 62 61,mo 63 5,xo 64 (ia 2 62 63),fo 65 1 64,lo 66 65,xo 67 (.len false (.t 66)),xo 68 (bc .gtr 67 20)])
 (cD 68
 (sq (rg [xo 2 (.mov (.b true))])
 .ret)
 .skip)))
 (rg [mo 59 5,xo 60 (bc .add 59 1),mo 5 60])))))))))
 (rg [mo 38 3,xo 39 (bc .add 38 1),mo 3 39]))))))
 (sq (rg [xo 2 (.mov (.b false))])
 .ret))))⟩
theorem qNI:trFn Tryz.prog 6 [] [[3],[5]]=some qwI:=by kernel_rfl
abbrev qjI:Nat:=7
def qzI:FnI:=⟨71,[.tmp 2],
 (sq (rg [xo 1 (.box 33 (.t 0)),xo 2 (.mov (.b false))])
 (sq (sq (rg [fo 5 0 1,lo 6 5,xo 7 (.len false (.t 6)),xo 8 (bc .gtr 7 50),mo 9 8,xg 10 (fa 1 1) 9 false,xg 11 (lf 10) 9 false,xg 12 (.len false (.t 11)) 9 false,xg 13 (bc .gtr 12 50) 9 false,xo 14 (.pick (.t 9) (.b true) (.t 13)),mo 15 14,xg 16 (fa 2 1) 15 false,xg 17 (lf 16) 15 false,xg 18 (.len false (.t 17)) 15 false,xg 19 (bc .gtr 18 50) 15 false,xo 20 (.pick (.t 15) (.b true) (.t 19))])
 (cD 20
 (sq (rg [xo 2 (.mov (.b true))])
 .ret)
 .skip))
 (sq (sq (rg [xo 3 (.mov (ci 0))])
 (.block 0
 (.loop [3] [21,22,23,24,25,28,29,30,31,32,33,34,35,36,37,38,39,40,41,42,43,44,45,2,26,27,3]
 (sq (sq (rg [mo 21 3,fo 22 2 1,lo 23 22,xo 24 (.len false (.t 23)),xo 25 (bi .lss 21 24)])
 (cD 25
 .skip
 (.exit 0)))
 (sq (.block 1
 (sq (rg [fo 28 2 1,lo 29 28,mo 30 3,xo 31 (ia 4 29 30),fo 32 3 31,lo 33 32,xo 34 (.len false (.t 33)),xo 35 (bc .gtr 34 50),mo 36 35,xg 37 (fa 2 1) 36 false,xg 38 (lf 37) 36 false,xg 39 (mv 3) 36 false,xg 40 (ia 4 38 39) 36 false,xg 41 (fa 0 40) 36 false,xg 42 (lf 41) 36 false,xg 43 (.len true (.t 42)) 36 false,xg 44 (bc .gtr 43 100) 36 false,xo 45 (.pick (.t 36) (.b true) (.t 44))])
 (cD 45
 (sq (rg [xo 2 (.mov (.b true))])
 .ret)
 .skip)))
 (rg [mo 26 3,xo 27 (bc .add 26 1),mo 3 27]))))))
 (sq (sq (rg [xo 4 (.mov (ci 0))])
 (.block 2
 (.loop [4] [46,47,48,49,50,53,54,55,56,57,58,59,60,61,62,63,64,65,66,67,68,69,70,2,51,52,4]
 (sq (sq (rg [mo 46 4,fo 47 1 1,lo 48 47,xo 49 (.len false (.t 48)),xo 50 (bi .lss 46 49)])
 (cD 50
 .skip
 (.exit 2)))
 (sq (.block 3
 (sq (rg [fo 53 1 1,lo 54 53,mo 55 4,xo 56 (ia 4 54 55),fo 57 1 56,lo 58 57,xo 59 (.len true (.t 58)),xo 60 (bc .gtr 59 100),mo 61 60,xg 62 (fa 1 1) 61 false,xg 63 (lf 62) 61 false,xg 64 (mv 4) 61 false,xg 65 (ia 4 63 64) 61 false,xg 66 (fa 2 65) 61 false,xg 67 (lf 66) 61 false,xg 68 (.len true (.t 67)) 61 false,xg 69 (bc .gtr 68 100) 61 false,xo 70 (.pick (.t 61) (.b true) (.t 69))])
 (cD 70
 (sq (rg [xo 2 (.mov (.b true))])
 .ret)
 .skip)))
 (rg [mo 51 4,xo 52 (bc .add 51 1),mo 4 52]))))))
 (sq (rg [xo 2 (.mov (.b false))])
 .ret)))))⟩
theorem qRI:trFn Tryz.prog 7 [] [[3],[4]]=some qzI:=by kernel_rfl
abbrev qaP:Nat:=8
def qqP:FnI:=⟨86,[.cell 4 8 true,.cell 5 44 true,.cell 6 23 true],
 (sq (rg [xo 2 (.box 28 (.t 0)),xo 3 (.box 41 (.t 1)),xo 4 (.alloc 28 [(vi 0),(vi 0),(vi 0),(.v (.slice none 0 0)),(.v (.slice none 0 0)),(.v (.slice none 0 0)),(.v (.slice none 0 0)),(.v (.slice none 0 0))]),xo 5 (.alloc 41 zl0),xo 6 (.alloc 45 zl1)])
 (sq (sq (rg [fo 10 11 3,lo 11 10,xo 12 (bc .lss 11 0),mo 13 12,xg 14 (fa 11 3) 13 false,xg 15 (lf 14) 13 false,xg 16 (bc .gtr 15 2) 13 false,xo 17 (.pick (.t 13) (.b true) (.t 16)),mo 18 17,xg 19 (lt 8 2) 18 false,xg 20 (lt 44 3) 18 false,xg 21 (.call 13 [(.t 19),(.t 20)]) 18 false,xg 22 (.not (.t 21)) 18 false,xo 23 (.pick (.t 18) (.b true) (.t 22)),mo 24 23,xg 25 (fa 11 3) 24 false,xg 26 (lf 25) 24 false,xg 27 (bc .eql 26 2) 24 false,xg 28 (mv 27) 24 false,xg 29 (lt 8 2) 28 true,xg 30 (lt 44 3) 28 true,xg 31 (.call 21 [(.t 29),(.t 30)]) 28 true,xg 32 (.pick (.t 28) (.t 31) (.b false)) 24 false,xo 33 (.pick (.t 24) (.b true) (.t 32))])
 (cD 33
 (sq (rd [] (ot 0 (xo 34 (lt 8 2))
 (of 2 (xo 36 (.build zl1 []))
 (ot 1 (xo 35 (lt 44 3))
 (.op ⟨3,false,[1],xn (st 8 4 34)⟩
 (of 4 (xn (st 44 5 35))
 (of 5 (xn (st 23 6 36))
 .nil)))))))
 .ret)
 .skip))
 (sq (rg [xo 37 (lt 8 2),xo 38 (.call 22 [(.t 37)]),xo 7 (.alloc 28 [(vi 0),(vi 0),(vi 0),(.v (.slice none 0 0)),(.v (.slice none 0 0)),(.v (.slice none 0 0)),(.v (.slice none 0 0)),(.v (.slice none 0 0))]),xn (st 8 7 38)])
 (sq (sq (rg [fo 39 11 3,lo 40 39])
 (.block 0
 (sq (rg [xo 42 (bc .eql 40 0),mo 41 42])
 (cD 41
 (sq (rg [xo 43 (.mkf (.func 24) [] [(.t 7)]),fo 44 1 2,lo 45 44,xo 46 (.call 23 [(.t 3),(.t 43),(.t 45)]),xo 8 (.alloc 45 zl1),xn (st 23 8 46)])
 (sq (rd [] (ot 0 (xo 47 (lt 8 7))
 (ot 1 (xo 48 (lt 44 3))
 (ot 2 (xo 49 (lt 23 8))
 (.op ⟨3,false,[2,1],xn (st 8 4 47)⟩
 (.op ⟨4,false,[2],xn (st 44 5 48)⟩
 (of 5 (xn (st 23 6 49))
 .nil)))))))
 .ret))
 (sq (rg [xo 51 (bc .eql 40 1),mo 50 51])
 (cD 50
 (sq (rg [fo 52 0 2,lo 53 52,fo 54 12 3,xn (st 1 54 53),fo 55 11 3,xn (.store 1 (.t 55) (ci 2))])
 (sq (rd [] (ot 0 (xo 56 (lt 8 7))
 (of 2 (fo 58 0 2)
 (ot 3 (lo 59 58)
 (ot 1 (xo 57 (lt 44 3))
 (of 4 (xo 60 (.call 25 [(.t 3),(ci 1),(ci 1),(.t 59)]))
 (.op ⟨5,false,[1],xn (st 8 4 56)⟩
 (of 6 (xn (st 44 5 57))
 (of 7 (xn (st 23 6 60))
 .nil)))))))))
 .ret))
 .skip))))))
 (sq (rg [fo 61 7 7,lo 62 61,fo 63 13 3,lo 64 63,fo 65 12 3,lo 66 65,xo 67 (.build [(vi 0),(vi 0),(.v (.bool false))] [(0,1,(.t 64)),(1,1,(.t 66))]),xo 68 (.bsl 56 3 1 [(vi 0),(vi 0),(.v (.bool false))] [(0,3,(.t 67))]),xo 69 (.app 56 3 24 (.t 62) (.t 68)),fo 70 7 7,xn (st 1 70 69)])
 (sq (rg [fo 71 13 3,lo 72 71,xo 73 (.call 25 [(.t 3),(ci 2),(ci 11),(.t 72)]),xo 9 (.alloc 45 zl1),xn (st 23 9 73)])
 (sq (rg [fo 74 21 3,lo 75 74,xo 76 (.build zl2 [(0,1,(ci 8)),(1,1,(.t 75))]),fo 77 24 3,xn (.store 1 (.t 77) (.b true)),fo 78 25 3,xn (st 13 78 76)])
 (sq (rd [] (of 2 (fo 81 9 9)
 (of 0 (fo 79 25 3)
 (ot 1 (xo 80 (lt 13 79))
 (.op ⟨3,false,[1],xn (.store 1 (.t 81) (.b true))⟩
 (of 4 (fo 82 10 9)
 (of 5 (xn (st 13 82 80))
 .nil)))))))
 (sq (rd [] (ot 0 (xo 83 (lt 8 7))
 (ot 1 (xo 84 (lt 44 3))
 (ot 2 (xo 85 (lt 23 9))
 (.op ⟨3,false,[2,1],xn (st 8 4 83)⟩
 (.op ⟨4,false,[2],xn (st 44 5 84)⟩
 (of 5 (xn (st 23 6 85))
 .nil)))))))
 .ret)))))))))⟩
theorem q0O:trFn Tryz.prog 8 [([],(fs [0,2,1] (.exec 3 (.exec 4 (.exec 5 .nil))))),([],(fs [0,1,2] (.exec 3 (.exec 4 (.exec 5 .nil))))),([],(fs [0,2,3,1] (.exec 4 (.exec 5 (.exec 6 (.exec 7 .nil)))))),([],(fs [2,0,1] (.exec 3 (.first 4 (.exec 5 .nil))))),([],(fs [0,1,2] (.exec 3 (.exec 4 (.exec 5 .nil)))))] []=some qqP:=by kernel_rfl
abbrev qlH:Nat:=9
def q7H:FnI:=⟨93,[.cell 4 8 true,.cell 5 44 true,.cell 6 23 true],
 (sq (rg [xo 2 (.box 28 (.t 0)),xo 3 (.box 41 (.t 1)),xo 4 (.alloc 28 [(vi 0),(vi 0),(vi 0),(.v (.slice none 0 0)),(.v (.slice none 0 0)),(.v (.slice none 0 0)),(.v (.slice none 0 0)),(.v (.slice none 0 0))]),xo 5 (.alloc 41 zl0),xo 6 (.alloc 45 zl1)])
 (sq (sq (rg [xo 13 (lt 8 2),xo 14 (lt 44 3),xo 15 (.call 26 [(.t 13),(.t 14)]),xo 16 (.not (.t 15)),mo 17 16,xg 18 (fa 11 3) 17 false,xg 19 (lf 18) 17 false,xg 20 (bc .lss 19 0) 17 false,xo 21 (.pick (.t 17) (.b true) (.t 20)),mo 22 21,xg 23 (fa 11 3) 22 false,xg 24 (lf 23) 22 false,xg 25 (bc .gtr 24 2) 22 false,xo 26 (.pick (.t 22) (.b true) (.t 25)),mo 27 26,xg 28 (fa 11 3) 27 false,xg 29 (lf 28) 27 false,xg 30 (bc .eql 29 2) 27 false,xg 31 (mv 30) 27 false,xg 32 (lt 8 2) 31 true,xg 33 (lt 44 3) 31 true,xg 34 (.call 27 [(.t 32),(.t 33)]) 31 true,xg 35 (.pick (.t 31) (.t 34) (.b false)) 27 false,xo 36 (.pick (.t 27) (.b true) (.t 35))])
 (cD 36
 (sq (rd [] (ot 0 (xo 37 (lt 8 2))
 (of 2 (xo 39 (.build zl1 []))
 (ot 1 (xo 38 (lt 44 3))
 (.op ⟨3,false,[1],xn (st 8 4 37)⟩
 (of 4 (xn (st 44 5 38))
 (of 5 (xn (st 23 6 39))
 .nil)))))))
 .ret)
 .skip))
 (sq (sq (rg [fo 40 11 3,lo 41 40,xo 42 (bc .eql 41 0)])
 (cD 42
 (sq (rg [xo 44 (lt 8 2),xo 45 (lt 44 3),xo 46 (.call 28 [(.t 44),(.t 45)]),mo 43 46,xo 47 (.ext 0 (.t 43)),xo 48 (.ext 1 (.t 43)),xo 49 (.ext 2 (.t 43)),xo 7 (.alloc 28 [(vi 0),(vi 0),(vi 0),(.v (.slice none 0 0)),(.v (.slice none 0 0)),(.v (.slice none 0 0)),(.v (.slice none 0 0)),(.v (.slice none 0 0))]),xo 8 (.alloc 41 zl0),xo 9 (.alloc 45 zl1),xn (st 8 7 47),xn (st 44 8 48),xn (st 23 9 49)])
 (sq (rd [] (ot 0 (xo 50 (lt 8 7))
 (ot 1 (xo 51 (lt 44 8))
 (ot 2 (xo 52 (lt 23 9))
 (.op ⟨3,false,[2,1],xn (st 8 4 50)⟩
 (.op ⟨4,false,[2],xn (st 44 5 51)⟩
 (of 5 (xn (st 23 6 52))
 .nil)))))))
 .ret))
 .skip))
 (sq (rg [xo 53 (lt 8 2),xo 54 (.call 29 [(.t 53)]),xo 10 (.alloc 28 [(vi 0),(vi 0),(vi 0),(.v (.slice none 0 0)),(.v (.slice none 0 0)),(.v (.slice none 0 0)),(.v (.slice none 0 0)),(.v (.slice none 0 0))]),xn (st 8 10 54)])
 (sq (sq (rg [fo 55 11 3,lo 56 55,xo 57 (bc .eql 56 1)])
 (cD 57
 (sq (rg [fo 58 0 2,lo 59 58,fo 60 12 3,xn (st 1 60 59)])
 (sq (rg [fo 61 11 3,xn (.store 1 (.t 61) (ci 2))])
 (sq (rd [] (ot 0 (xo 62 (lt 8 10))
 (ot 2 (xo 64 (lt 44 3))
 (of 3 (fo 65 0 2)
 (ot 4 (lo 66 65)
 (ot 1 (xo 63 (lt 44 3))
 (of 5 (xo 67 (.call 30 [(.t 64),(ci 1),(ci 1),(.t 66)]))
 (.op ⟨6,false,[1],xn (st 8 4 62)⟩
 (of 7 (xn (st 44 5 63))
 (of 8 (xn (st 23 6 67))
 .nil))))))))))
 .ret)))
 .skip))
 (sq (rg [fo 68 7 10,lo 69 68,fo 70 13 3,lo 71 70,fo 72 12 3,lo 73 72,xo 74 (.build [(vi 0),(vi 0),(.v (.bool false))] [(0,1,(.t 71)),(1,1,(.t 73))]),xo 75 (.bsl 56 3 1 [(vi 0),(vi 0),(.v (.bool false))] [(0,3,(.t 74))]),xo 76 (.app 56 3 24 (.t 69) (.t 75)),fo 77 7 10,xn (st 1 77 76)])
 (sq (rd [11,12] (ot 0 (xo 79 (lt 44 3))
 (ot 1 (xo 80 (lt 44 3))
 (of 2 (fo 81 13 3)
 (ot 3 (lo 82 81)
 (of 5 (fo 84 21 3)
 (ot 6 (lo 85 84)
 (of 7 (xo 86 (.build zl2 [(0,1,(ci 8)),(1,1,(.t 85))]))
 (of 4 (xo 83 (.call 30 [(.t 80),(ci 2),(ci 11),(.t 82)]))
 (of 8 (xo 87 (.call 31 [(.t 79),(.t 83),(.t 86)]))
 (of 9 (mo 78 87)
 (of 10 (xo 88 (.ext 0 (.t 78)))
 (of 11 (xo 89 (.ext 1 (.t 78)))
 (.bring ⟨12,false,[],xo 11 (.alloc 41 zl0)⟩
 (.bring ⟨13,false,[],xo 12 (.alloc 45 zl1)⟩
 (of 14 (xn (st 44 11 88))
 (of 15 (xn (st 23 12 89))
 .nil)))))))))))))))))
 (sq (rd [] (ot 0 (xo 90 (lt 8 10))
 (ot 1 (xo 91 (lt 44 11))
 (ot 2 (xo 92 (lt 23 12))
 (.op ⟨3,false,[2,1],xn (st 8 4 90)⟩
 (.op ⟨4,false,[2],xn (st 44 5 91)⟩
 (of 5 (xn (st 23 6 92))
 .nil)))))))
 .ret))))))))⟩
theorem qNH:trFn Tryz.prog 9 [([],(fs [0,2,1] (.exec 3 (.exec 4 (.exec 5 .nil))))),([],(fs [0,1,2] (.exec 3 (.exec 4 (.exec 5 .nil))))),([],(fs [0,2,3,4,1] (.exec 5 (.exec 6 (.exec 7 (.exec 8 .nil)))))),([12,13],(fs [0,1,2,3,5,6,7] (.exec 4 (.exec 8 (fs [9,10,11] (.bring 12 (.bring 13 (.exec 14 (.exec 15 .nil))))))))),([],(fs [0,1,2] (.exec 3 (.exec 4 (.exec 5 .nil)))))] []=some q7H:=by kernel_rfl
abbrev qOF:Nat:=10
def qWF:FnI:=⟨82,[.tmp 0],
 (sq (rg [xo 0 (.mov (.b false))])
 (sq (rg [xo 10 (.call 32 []),mo 9 10,xo 11 (.ext 0 (.t 9)),xo 12 (.ext 1 (.t 9)),xo 1 (.alloc 28 [(vi 0),(vi 0),(vi 0),(.v (.slice none 0 0)),(.v (.slice none 0 0)),(.v (.slice none 0 0)),(.v (.slice none 0 0)),(.v (.slice none 0 0))]),xo 2 (.alloc 33 [(.v (.slice none 0 0)),(.v (.slice none 0 0)),(.v (.slice none 0 0))]),xn (st 8 1 11),xn (st 3 2 12)])
 (sq (rg [xo 14 (lt 8 1),xo 15 (lt 3 2),xo 16 (.build [(vi 0),(.v (.string ⟨#[]⟩)),(.v (.string ⟨#[]⟩)),(.v (.string ⟨#[]⟩)),(vi 0),(vi 0),(vi 0),(.v (.slice none 0 0)),(.v (.slice none 0 0)),(.v (.slice none 0 0))] [(0,1,(ci 3)),(7,3,(.t 15))]),xo 17 (.build zl0 [(0,10,(.t 16))]),xo 18 (.call 14 [(.t 14),(.t 17)]),mo 13 18,xo 19 (.ext 0 (.t 13)),xo 20 (.ext 1 (.t 13)),xo 21 (.ext 2 (.t 13)),xo 3 (.alloc 28 [(vi 0),(vi 0),(vi 0),(.v (.slice none 0 0)),(.v (.slice none 0 0)),(.v (.slice none 0 0)),(.v (.slice none 0 0)),(.v (.slice none 0 0))]),xo 4 (.alloc 41 zl0),xn (st 8 3 19),xn (st 44 4 20),mo 5 21])
 (sq (rg [fo 22 1 2,xn (.store 1 (.t 22) (.c (.slice none 0 0)))])
 (sq (rg [xo 24 (lt 8 3),xo 25 (lt 3 2),xo 26 (.build [(vi 0),(.v (.string ⟨#[]⟩)),(.v (.string ⟨#[]⟩)),(.v (.string ⟨#[]⟩)),(vi 0),(vi 0),(vi 0),(.v (.slice none 0 0)),(.v (.slice none 0 0)),(.v (.slice none 0 0))] [(0,1,(ci 3)),(7,3,(.t 25))]),xo 27 (.build zl0 [(0,10,(.t 26))]),xo 28 (.call 14 [(.t 24),(.t 27)]),mo 23 28,xo 29 (.ext 0 (.t 23)),xo 30 (.ext 1 (.t 23)),xo 31 (.ext 2 (.t 23)),xo 6 (.alloc 28 [(vi 0),(vi 0),(vi 0),(.v (.slice none 0 0)),(.v (.slice none 0 0)),(.v (.slice none 0 0)),(.v (.slice none 0 0)),(.v (.slice none 0 0))]),xo 7 (.alloc 41 zl0),xn (st 8 6 29),xn (st 44 7 30),mo 8 31])
 (sq (sq (rg [fo 32 4 3,lo 33 32,xo 34 (.len false (.t 33)),xo 35 (bc .neq 34 2),mo 36 35,xg 37 (fa 7 3) 36 false,xg 38 (lf 37) 36 false,xg 39 (.len false (.t 38)) 36 false,xg 40 (bc .neq 39 1) 36 false,xo 41 (.pick (.t 36) (.b true) (.t 40))])
 (cD 41
 (sq (rg [xo 0 (.mov (.b false))])
 .ret)
 .skip))
 (sq (rg [fo 42 25 4,xo 43 (lt 13 42),xo 44 (.build zl2 [(0,1,(ci 8)),(1,1,(ci 1))]),xo 45 (.binst false [0,0,0,0,0,0,0,0,0,0,0,0,0] (.t 43) (.t 44)),mo 46 45,xg 47 (mv 5) 46 true,xg 48 (bc .eql 47 3) 46 true,xo 49 (.pick (.t 46) (.t 48) (.b false)),mo 50 49,xg 51 (fa 1 3) 50 true,xg 52 (lf 51) 50 true,xg 53 (bc .eql 52 1) 50 true,xo 54 (.pick (.t 50) (.t 53) (.b false)),mo 55 54,xg 56 (fa 7 3) 55 true,xg 57 (lf 56) 55 true,xg 58 (.iadr 3 (.t 57) (ci 0)) 55 true,xg 59 (lt 3 58) 55 true,xg 60 (.build [(vi 0),(vi 0),(.v (.bool false))] []) 55 true,xg 61 (.binst false [0,0,2] (.t 59) (.t 60)) 55 true,xo 62 (.pick (.t 55) (.t 61) (.b false)),mo 63 62,xg 64 (fa 25 7) 63 true,xg 65 (lt 13 64) 63 true,xg 66 (.build zl2 [(0,1,(ci 9)),(6,1,(ci 6))]) 63 true,xg 67 (.binst false [0,0,0,0,0,0,0,0,0,0,0,0,0] (.t 65) (.t 66)) 63 true,xo 68 (.pick (.t 63) (.t 67) (.b false)),mo 69 68,xg 70 (mv 8) 69 true,xg 71 (bc .eql 70 1) 69 true,xo 72 (.pick (.t 69) (.t 71) (.b false)),mo 73 72,xg 74 (lt 8 3) 73 true,xg 75 (lt 8 6) 73 true,xg 76 (.call 11 [(.t 74),(.t 75)]) 73 true,xo 77 (.pick (.t 73) (.t 76) (.b false)),mo 78 77,xg 79 (lt 8 3) 78 true,xg 80 (.call 15 [(.t 79)]) 78 true,xo 81 (.pick (.t 78) (.t 80) (.b false)),mo 0 81])
 .ret)))))))⟩
theorem qFF:trFn Tryz.prog 10 [] []=some qWF:=by kernel_rfl
abbrev qGC:Nat:=11
def qBI:FnI:=⟨105,[.tmp 4],
 (sq (rg [xo 2 (.box 28 (.t 0)),xo 3 (.box 28 (.t 1)),xo 4 (.mov (.b false))])
 (sq (sq (rg [fo 7 0 2,lo 8 7,fo 9 0 3,lo 10 9,xo 11 (bi .neq 8 10),mo 12 11,xg 13 (fa 1 2) 12 false,xg 14 (lf 13) 12 false,xg 15 (fa 1 3) 12 false,xg 16 (lf 15) 12 false,xg 17 (bi .neq 14 16) 12 false,xo 18 (.pick (.t 12) (.b true) (.t 17)),mo 19 18,xg 20 (fa 2 2) 19 false,xg 21 (lf 20) 19 false,xg 22 (fa 2 3) 19 false,xg 23 (lf 22) 19 false,xg 24 (bi .neq 21 23) 19 false,xo 25 (.pick (.t 19) (.b true) (.t 24)),mo 26 25,xg 27 (fa 3 2) 26 false,xg 28 (lf 27) 26 false,xg 29 (fa 3 3) 26 false,xg 30 (lf 29) 26 false,xg 31 (.call 33 [(.t 28),(.t 30)]) 26 false,xg 32 (.not (.t 31)) 26 false,xo 33 (.pick (.t 26) (.b true) (.t 32)),mo 34 33,xg 35 (fa 4 2) 34 false,xg 36 (lf 35) 34 false,xg 37 (.len false (.t 36)) 34 false,xg 38 (fa 4 3) 34 false,xg 39 (lf 38) 34 false,xg 40 (.len false (.t 39)) 34 false,xg 41 (bi .neq 37 40) 34 false,xo 42 (.pick (.t 34) (.b true) (.t 41)),mo 43 42,xg 44 (fa 5 2) 43 false,xg 45 (lf 44) 43 false,xg 46 (.len false (.t 45)) 43 false,xg 47 (fa 5 3) 43 false,xg 48 (lf 47) 43 false,xg 49 (.len false (.t 48)) 43 false,xg 50 (bi .neq 46 49) 43 false,xo 51 (.pick (.t 43) (.b true) (.t 50)),mo 52 51,xg 53 (fa 6 2) 52 false,xg 54 (lf 53) 52 false,xg 55 (fa 6 3) 52 false,xg 56 (lf 55) 52 false,xg 57 (.call 34 [(.t 54),(.t 56)]) 52 false,xg 58 (.not (.t 57)) 52 false,xo 59 (.pick (.t 52) (.b true) (.t 58)),mo 60 59,xg 61 (fa 7 2) 60 false,xg 62 (lf 61) 60 false,xg 63 (fa 7 3) 60 false,xg 64 (lf 63) 60 false,xg 65 (.call 35 [(.t 62),(.t 64)]) 60 false,xg 66 (.not (.t 65)) 60 false,xo 67 (.pick (.t 60) (.b true) (.t 66))])
 (cD 67
 (sq (rg [xo 4 (.mov (.b false))])
 .ret)
 .skip))
 (sq (sq (rg [xo 5 (.mov (ci 0))])
 (.block 0
 (.loop [5] [68,69,70,71,72,75,76,77,78,79,80,81,82,83,84,85,86,4,73,74,5]
 (sq (sq (rg [mo 68 5,fo 69 4 2,lo 70 69,xo 71 (.len false (.t 70)),xo 72 (bi .lss 68 71)])
 (cD 72
 .skip
 (.exit 0)))
 (sq (.block 1
 (sq (rd [] (of 0 (fo 75 4 2)
 (ot 1 (lo 76 75)
 (of 2 (mo 77 5)
 (ot 3 (xo 78 (ia 5 76 77))
 (ot 4 (xo 79 (lt 5 78))
 (of 5 (fo 80 4 3)
 (ot 6 (lo 81 80)
 (of 7 (mo 82 5)
 (ot 8 (xo 83 (ia 5 81 82))
 (ot 9 (xo 84 (lt 5 83))
 (of 10 (xo 85 (.call 36 [(.t 79),(.t 84)]))
 (of 11 (xo 86 (.not (.t 85)))
 .nil)))))))))))))
 (cD 86
 (sq (rg [xo 4 (.mov (.b false))])
 .ret)
 .skip)))
 (rg [mo 73 5,xo 74 (bc .add 73 1),mo 5 74]))))))
 (sq (sq (rg [xo 6 (.mov (ci 0))])
 (.block 2
 (.loop [6] [87,88,89,90,91,94,95,96,97,98,99,100,101,102,103,104,4,92,93,6]
 (sq (sq (rg [mo 87 6,fo 88 5 2,lo 89 88,xo 90 (.len false (.t 89)),xo 91 (bi .lss 87 90)])
 (cD 91
 .skip
 (.exit 2)))
 (sq (.block 3
 (sq (rd [] (of 0 (fo 94 5 2)
 (ot 1 (lo 95 94)
 (of 2 (mo 96 6)
 (ot 3 (xo 97 (ia 4 95 96))
 (ot 4 (xo 98 (lt 4 97))
 (of 5 (fo 99 5 3)
 (ot 6 (lo 100 99)
 (of 7 (mo 101 6)
 (ot 8 (xo 102 (ia 4 100 101))
 (ot 9 (xo 103 (lt 4 102))
 (of 10 (xo 104 (.binst true [1,2,0,2] (.t 98) (.t 103)))
 .nil))))))))))))
 (cD 104
 (sq (rg [xo 4 (.mov (.b false))])
 .ret)
 .skip)))
 (rg [mo 92 6,xo 93 (bc .add 92 1),mo 6 93]))))))
 (sq (rg [xo 4 (.mov (.b true))])
 .ret)))))⟩
theorem qRH:trFn Tryz.prog 11 [([],(fs [0,1,2,3,4,5,6,7,8,9] (.exec 10 (.first 11 .nil)))),([],(fs [0,1,2,3,4,5,6,7,8,9,10] .nil))] [[5],[6]]=some qBI:=by kernel_rfl
abbrev qnH:Nat:=12
def q9H:FnI:=⟨128,[.tmp 4],
 (sq (rg [xo 2 (.box 41 (.t 0)),xo 3 (.box 41 (.t 1)),xo 4 (.mov (.b false))])
 (sq (sq (rg [fo 5 0 2,xo 6 (lt 10 5),fo 7 0 3,xo 8 (lt 10 7),xo 9 (.call 37 [(.t 6),(.t 8)]),xo 10 (.not (.t 9))])
 (cD 10
 (sq (rg [xo 4 (.mov (.b false))])
 .ret)
 .skip))
 (sq (rg [fo 11 10 2,lo 12 11,fo 13 10 3,lo 14 13,xo 15 (bi .eql 12 14),mo 16 15,xg 17 (fa 11 2) 16 true,xg 18 (lf 17) 16 true,xg 19 (fa 11 3) 16 true,xg 20 (lf 19) 16 true,xg 21 (bi .eql 18 20) 16 true,xo 22 (.pick (.t 16) (.t 21) (.b false)),mo 23 22,xg 24 (fa 12 2) 23 true,xg 25 (lf 24) 23 true,xg 26 (fa 12 3) 23 true,xg 27 (lf 26) 23 true,xg 28 (bi .eql 25 27) 23 true,xo 29 (.pick (.t 23) (.t 28) (.b false)),mo 30 29,xg 31 (fa 13 2) 30 true,xg 32 (lf 31) 30 true,xg 33 (fa 13 3) 30 true,xg 34 (lf 33) 30 true,xg 35 (bi .eql 32 34) 30 true,xo 36 (.pick (.t 30) (.t 35) (.b false)),mo 37 36,xg 38 (fa 14 2) 37 true,xg 39 (lf 38) 37 true,xg 40 (fa 14 3) 37 true,xg 41 (lf 40) 37 true,xg 42 (bi .eql 39 41) 37 true,xo 43 (.pick (.t 37) (.t 42) (.b false)),mo 44 43,xg 45 (fa 15 2) 44 true,xg 46 (lf 45) 44 true,xg 47 (fa 15 3) 44 true,xg 48 (lf 47) 44 true,xg 49 (bi .eql 46 48) 44 true,xo 50 (.pick (.t 44) (.t 49) (.b false)),mo 51 50,xg 52 (fa 16 2) 51 true,xg 53 (lf 52) 51 true,xg 54 (fa 16 3) 51 true,xg 55 (lf 54) 51 true,xg 56 (bi .eql 53 55) 51 true,xo 57 (.pick (.t 51) (.t 56) (.b false)),mo 58 57,xg 59 (fa 17 2) 58 true,xg 60 (lf 59) 58 true,xg 61 (fa 17 3) 58 true,xg 62 (lf 61) 58 true,xg 63 (bi .eql 60 62) 58 true,xo 64 (.pick (.t 58) (.t 63) (.b false)),mo 65 64,xg 66 (fa 18 2) 65 true,xg 67 (lf 66) 65 true,xg 68 (fa 18 3) 65 true,xg 69 (lf 68) 65 true,xg 70 (bi .eql 67 69) 65 true,xo 71 (.pick (.t 65) (.t 70) (.b false)),mo 72 71,xg 73 (fa 19 2) 72 true,xg 74 (lf 73) 72 true,xg 75 (fa 19 3) 72 true,xg 76 (lf 75) 72 true,xg 77 (bi .eql 74 76) 72 true,xo 78 (.pick (.t 72) (.t 77) (.b false)),mo 79 78,xg 80 (fa 20 2) 79 true,xg 81 (lf 80) 79 true,xg 82 (fa 20 3) 79 true,xg 83 (lf 82) 79 true,xg 84 (bi .eql 81 83) 79 true,xo 85 (.pick (.t 79) (.t 84) (.b false)),mo 86 85,xg 87 (fa 21 2) 86 true,xg 88 (lf 87) 86 true,xg 89 (fa 21 3) 86 true,xg 90 (lf 89) 86 true,xg 91 (bi .eql 88 90) 86 true,xo 92 (.pick (.t 86) (.t 91) (.b false)),mo 93 92,xg 94 (fa 22 2) 93 true,xg 95 (lf 94) 93 true,xg 96 (fa 22 3) 93 true,xg 97 (lf 96) 93 true,xg 98 (bi .eql 95 97) 93 true,xo 99 (.pick (.t 93) (.t 98) (.b false)),mo 100 99,xg 101 (fa 23 2) 100 true,xg 102 (lf 101) 100 true,xg 103 (fa 23 3) 100 true,xg 104 (lf 103) 100 true,xg 105 (bi .eql 102 104) 100 true,xo 106 (.pick (.t 100) (.t 105) (.b false)),mo 107 106,xg 108 (fa 24 2) 107 true,xg 109 (lf 108) 107 true,xg 110 (fa 24 3) 107 true,xg 111 (lf 110) 107 true,xg 112 (.binb false (.t 109) (.t 111)) 107 true,xo 113 (.pick (.t 107) (.t 112) (.b false)),mo 114 113,xg 115 (fa 25 2) 114 true,xg 116 (lt 13 115) 114 true,xg 117 (fa 25 3) 114 true,xg 118 (lt 13 117) 114 true,xg 119 (.binst false [0,0,0,0,0,0,0,0,0,0,0,0,0] (.t 116) (.t 118)) 114 true,xo 120 (.pick (.t 114) (.t 119) (.b false)),mo 121 120,xg 122 (fa 38 2) 121 true,xg 123 (lt 6 122) 121 true,xg 124 (fa 38 3) 121 true,xg 125 (lt 6 124) 121 true,xg 126 (.binst false [0,0,0,0,0,0] (.t 123) (.t 125)) 121 true,xo 127 (.pick (.t 121) (.t 126) (.b false)),mo 4 127])
 .ret)))⟩
theorem qPH:trFn Tryz.prog 12 [] []=some q9H:=by kernel_rfl
abbrev qcP:Nat:=13
def qsP:FnI:=⟨96,[.tmp 4],
 (sq (rg [xo 2 (.box 28 (.t 0)),xo 3 (.box 41 (.t 1)),xo 4 (.mov (.b false))])
 (sq (sq (rg [xo 7 (lt 8 2),xo 8 (.call 15 [(.t 7)]),xo 9 (.not (.t 8)),mo 10 9,xg 11 (fa 10 3) 10 false,xg 12 (lf 11) 10 false,xg 13 (fa 3 2) 10 false,xg 14 (lf 13) 10 false,xg 15 (.len false (.t 14)) 10 false,xg 16 (.call 38 [(.t 12),(.t 15)]) 10 false,xg 17 (.not (.t 16)) 10 false,xo 18 (.pick (.t 10) (.b true) (.t 17)),mo 19 18,xg 20 (fa 24 3) 19 false,xg 21 (lf 20) 19 false,xo 22 (.pick (.t 19) (.b true) (.t 21)),mo 23 22,xg 24 (fa 13 3) 23 false,xg 25 (lf 24) 23 false,xg 26 (fa 4 2) 23 false,xg 27 (lf 26) 23 false,xg 28 (.len false (.t 27)) 23 false,xg 29 (.call 38 [(.t 25),(.t 28)]) 23 false,xg 30 (.not (.t 29)) 23 false,xo 31 (.pick (.t 23) (.b true) (.t 30))])
 (cD 31
 (sq (rg [xo 4 (.mov (.b false))])
 .ret)
 .skip))
 (sq (rg [fo 32 4 2,lo 33 32,fo 34 13 3,lo 35 34,xo 36 (ia 5 33 35),fo 37 3 36,lo 38 37,mo 5 38])
 (sq (sq (rg [fo 39 15 3,lo 40 39,mo 41 5,xo 42 (.len false (.t 41)),xo 43 (.call 38 [(.t 40),(.t 42)]),xo 44 (.not (.t 43))])
 (cD 44
 (sq (rg [xo 4 (.mov (.b false))])
 .ret)
 .skip))
 (sq (rg [mo 45 5,fo 46 15 3,lo 47 46,xo 48 (ia 2 45 47),fo 49 1 48,lo 50 49,mo 6 50])
 (sq (sq (rd [] (of 0 (fo 51 16 3)
 (ot 1 (lo 52 51)
 (of 2 (mo 53 6)
 (of 3 (xo 54 (.len false (.t 53)))
 (of 4 (xo 55 (.call 38 [(.t 52),(.t 54)]))
 (of 5 (xo 56 (.not (.t 55)))
 (of 6 (mo 57 56)
 (of 7 (xg 58 (fa 17 3) 57 false)
 (ot 8 (xg 59 (lf 58) 57 false)
 (of 9 (xg 60 (mv 6) 57 false)
 (of 10 (xg 61 (.len false (.t 60)) 57 false)
 (of 11 (xg 62 (.call 38 [(.t 59),(.t 61)]) 57 false)
 (of 12 (xg 63 (.not (.t 62)) 57 false)
 (of 13 (xo 64 (.pick (.t 57) (.b true) (.t 63)))
 (of 14 (mo 65 64)
 (of 15 (xg 66 (fa 18 3) 65 false)
 (ot 16 (xg 67 (lf 66) 65 false)
 (of 17 (xg 68 (mv 6) 65 false)
 (of 18 (xg 69 (fa 16 3) 65 false)
 (ot 19 (xg 70 (lf 69) 65 false)
 (ot 20 (xg 71 (ia 3 68 70) 65 false)
 (of 21 (xg 72 (fa 1 71) 65 false)
 (ot 22 (xg 73 (lf 72) 65 false)
 (of 23 (xg 74 (.len false (.t 73)) 65 false)
 (of 24 (xg 75 (.call 38 [(.t 67),(.t 74)]) 65 false)
 (of 25 (xg 76 (.not (.t 75)) 65 false)
 (of 26 (xo 77 (.pick (.t 65) (.b true) (.t 76)))
 .nil))))))))))))))))))))))))))))
 (cD 77
 (sq (rg [xo 4 (.mov (.b false))])
 .ret)
 .skip))
 (sq (rg [fo 78 14 3,lo 79 78,xo 80 (bc .add 79 1),fo 81 5 2,lo 82 81,xo 83 (.len false (.t 82)),xo 84 (bc .add 83 1),xo 85 (.call 38 [(.t 80),(.t 84)]),mo 86 85,xg 87 (fa 21 3) 86 true,xg 88 (lf 87) 86 true,xg 89 (bc .geq 88 0) 86 true,xo 90 (.pick (.t 86) (.t 89) (.b false)),mo 91 90,xg 92 (fa 22 3) 91 true,xg 93 (lf 92) 91 true,xg 94 (bc .geq 93 0) 91 true,xo 95 (.pick (.t 91) (.t 94) (.b false)),mo 4 95])
 .ret)))))))⟩
theorem q2O:trFn Tryz.prog 13 [([],(fs [0,1,2,3] (.exec 4 (fs [5,6,7,8,9,10] (.exec 11 (fs [12,13,14,15,16,17,18,19,20,21,22,23] (.exec 24 (.first 25 (.first 26 .nil)))))))))] []=some qsP:=by kernel_rfl
abbrev qrG:Nat:=14
def q6G:FnI:=⟨32,[.cell 4 8 true,.cell 5 44 true,.tmp 6],
 (sq (rg [xo 2 (.box 28 (.t 0)),xo 3 (.box 41 (.t 1)),xo 4 (.alloc 28 [(vi 0),(vi 0),(vi 0),(.v (.slice none 0 0)),(.v (.slice none 0 0)),(.v (.slice none 0 0)),(.v (.slice none 0 0)),(.v (.slice none 0 0))]),xo 5 (.alloc 41 zl0),xo 6 (.mov (ci 0))])
 (sq (rg [xo 7 (.mov (ci 0))])
 (sq (.block 0
 (.loop [7] [11,12,13,14,15,16,17,19,20,21,18,22,23,24,8,9,10,25,26,27,28,7]
 (sq (sq (rg [mo 11 7,xo 12 (bc .lss 11 10),mo 13 12,xg 14 (fa 24 3) 13 true,xg 15 (lf 14) 13 true,xg 16 (.not (.t 15)) 13 true,xo 17 (.pick (.t 13) (.t 16) (.b false))])
 (cD 17
 .skip
 (.exit 0)))
 (.block 1
 (sq (rg [xo 19 (lt 8 2),xo 20 (lt 44 3),xo 21 (.call 8 [(.t 19),(.t 20)]),mo 18 21,xo 22 (.ext 0 (.t 18)),xo 23 (.ext 1 (.t 18)),xo 24 (.ext 2 (.t 18)),xo 8 (.alloc 28 [(vi 0),(vi 0),(vi 0),(.v (.slice none 0 0)),(.v (.slice none 0 0)),(.v (.slice none 0 0)),(.v (.slice none 0 0)),(.v (.slice none 0 0))]),xo 9 (.alloc 41 zl0),xo 10 (.alloc 45 zl1),xn (st 8 8 22),xn (st 44 9 23),xn (st 23 10 24)])
 (sq (rg [xo 25 (lt 8 8),xn (st 8 2 25)])
 (sq (rg [xo 26 (lt 44 9),xn (st 44 3 26)])
 (rg [mo 27 7,xo 28 (bc .add 27 1),mo 7 28]))))))))
 (sq (rd [] (ot 0 (xo 29 (lt 8 2))
 (of 2 (mo 31 7)
 (ot 1 (xo 30 (lt 44 3))
 (.op ⟨3,false,[1],xn (st 8 4 29)⟩
 (of 4 (xn (st 44 5 30))
 (of 5 (mo 6 31)
 .nil)))))))
 .ret))))⟩
theorem qcG:trFn Tryz.prog 14 [([],(fs [0,2,1] (.exec 3 (.exec 4 (.first 5 .nil)))))] [[7]]=some q6G:=by kernel_rfl
abbrev qFE:Nat:=15
def q7Q:FnI:=⟨107,[.tmp 2],
 (sq (rg [xo 1 (.box 28 (.t 0)),xo 2 (.mov (.b false))])
 (sq (sq (rg [xo 10 (lt 8 1),xo 11 (.call 39 [(.t 10)]),xo 12 (.not (.t 11)),mo 13 12,xg 14 (fa 1 1) 13 false,xg 15 (lf 14) 13 false,xg 16 (bc .lss 15 0) 13 false,xo 17 (.pick (.t 13) (.b true) (.t 16)),mo 18 17,xg 19 (fa 1 1) 18 false,xg 20 (lf 19) 18 false,xg 21 (fa 4 1) 18 false,xg 22 (lf 21) 18 false,xg 23 (.len false (.t 22)) 18 false,xg 24 (bi .geq 20 23) 18 false,xo 25 (.pick (.t 18) (.b true) (.t 24)),mo 26 25,xg 27 (fa 7 1) 26 false,xg 28 (lf 27) 26 false,xg 29 (.call 40 [(.t 28)]) 26 false,xg 30 (.not (.t 29)) 26 false,xo 31 (.pick (.t 26) (.b true) (.t 30))])
 (cD 31
 (sq (rg [xo 2 (.mov (.b false))])
 .ret)
 .skip))
 (sq (rg [xo 32 (.mkm .i64),mo 3 32])
 (sq (sq (rg [fo 33 7 1,lo 34 33,xo 35 (.len false (.t 34)),xo 36 (.mov (ci 0))])
 (.block 0
 (.loop [36] [37,38,39,5,40,41,42,43,44,45,46,47,48,49,50,51,52,53,54,55,56,57,58,59,2,60,61,62,63,64,65,36]
 (sq (rg [xo 37 (bi .lss 36 35)])
 (sq (cD 37
 .skip
 (.exit 0))
 (sq (.block 1
 (sq (rg [xo 38 (ia 3 34 36),xo 39 (lt 3 38),xo 5 (.alloc 56 [(vi 0),(vi 0),(.v (.bool false))]),xn (st 3 5 39)])
 (sq (sq (rg [fo 40 0 5,lo 41 40,fo 42 4 1,lo 43 42,xo 44 (.len false (.t 43)),xo 45 (bi .geq 41 44),mo 46 45,xg 47 (fa 0 5) 46 false,xg 48 (lf 47) 46 false,xg 49 (fa 1 1) 46 false,xg 50 (lf 49) 46 false,xg 51 (bi .eql 48 50) 46 false,xo 52 (.pick (.t 46) (.b true) (.t 51)),mo 53 52,xg 54 (fa 1 5) 53 false,xg 55 (lf 54) 53 false,xg 56 (fa 0 1) 53 false,xg 57 (lf 56) 53 false,xg 58 (bi .gtr 55 57) 53 false,xo 59 (.pick (.t 53) (.b true) (.t 58))])
 (cD 59
 (sq (rg [xo 2 (.mov (.b false))])
 .ret)
 .skip))
 (rg [mo 60 3,fo 61 0 5,lo 62 61,fo 63 2 5,lo 64 63,xn (.mup .i64 (.t 60) (.t 62) (.t 64))]))))
 (rg [xo 65 (bc .add 36 1),mo 36 65])))))))
 (sq (sq (rg [fo 66 4 1,lo 67 66,xo 68 (.len false (.t 67)),xo 69 (.mov (ci 0))])
 (.block 2
 (.loop [69] [70,71,72,73,7,6,74,75,76,77,78,79,80,81,82,83,84,2,85,69]
 (sq (rg [xo 70 (bi .lss 69 68)])
 (sq (cD 70
 .skip
 (.exit 2))
 (sq (.block 3
 (sq (rg [mo 71 69,xo 72 (ia 5 67 69),xo 73 (lt 5 72),xo 7 (.alloc 67 [(.v (.slice none 0 0)),(.v (.slice none 0 0)),(.v (.slice none 0 0)),(.v (.slice none 0 0)),(.v (.bool false))]),mo 6 71,xn (st 5 7 73)])
 (sq (rg [xo 74 (lt 5 7),xo 75 (.call 41 [(.t 74)]),xo 76 (.not (.t 75)),mo 77 76,xg 78 (fa 4 7) 77 false,xg 79 (lf 78) 77 false,xg 80 (mv 3) 77 false,xg 81 (mv 6) 77 false,xg 82 (.look .i64 (.bool false) false (.t 80) (.t 81)) 77 false,xg 83 (.binb true (.t 79) (.t 82)) 77 false,xo 84 (.pick (.t 77) (.b true) (.t 83))])
 (cD 84
 (sq (rg [xo 2 (.mov (.b false))])
 .ret)
 .skip))))
 (rg [xo 85 (bc .add 69 1),mo 69 85])))))))
 (sq (sq (rg [fo 86 5 1,lo 87 86,xo 88 (.len false (.t 87)),xo 89 (.mov (ci 0))])
 (.block 4
 (.loop [89] [90,91,92,93,9,8,94,95,96,97,98,99,100,101,102,103,104,105,2,106,89]
 (sq (rg [xo 90 (bi .lss 89 88)])
 (sq (cD 90
 .skip
 (.exit 4))
 (sq (.block 5
 (sq (rg [mo 91 89,xo 92 (ia 4 87 89),xo 93 (lt 4 92),xo 9 (.alloc 95 [(.v (.string ⟨#[]⟩)),(.v (.bool false)),(vi 0),(.v (.bool false))]),mo 8 91,xn (st 4 9 93)])
 (sq (rg [xo 94 (lt 4 9),xo 95 (.call 42 [(.t 94)]),xo 96 (.not (.t 95)),mo 97 96,xg 98 (fa 5 1) 97 false,xg 99 (lf 98) 97 false,xg 100 (fa 0 9) 97 false,xg 101 (lf 100) 97 false,xg 102 (.call 43 [(.t 99),(.t 101)]) 97 false,xg 103 (mv 8) 97 false,xg 104 (bi .neq 102 103) 97 false,xo 105 (.pick (.t 97) (.b true) (.t 104))])
 (cD 105
 (sq (rg [xo 2 (.mov (.b false))])
 .ret)
 .skip))))
 (rg [xo 106 (bc .add 89 1),mo 89 106])))))))
 (sq (rg [xo 2 (.mov (.b true))])
 .ret)))))))⟩
theorem qUQ:trFn Tryz.prog 15 [] [[36],[69],[89]]=some q7Q:=by kernel_rfl
abbrev qEO:Nat:=16
def qZO:FnI:=⟨54,[.cell 2 3 true,.tmp 3,.tmp 4],
 (sq (rg [xo 1 (.box 33 (.t 0)),xo 2 (.alloc 60 [(.v (.slice none 0 0)),(.v (.slice none 0 0)),(.v (.slice none 0 0))]),xo 3 (.mov (ci 0)),xo 4 (.mov (ci 0))])
 (sq (sq (rg [xo 11 (lt 3 1),xo 12 (.call 44 [(.t 11)]),mo 10 12,xo 13 (.ext 0 (.t 10)),xo 14 (.ext 1 (.t 10)),mo 5 13,mo 6 14])
 (sq (rg [mo 15 5,xo 16 (bc .neq 15 0)])
 (cD 16
 (sq (rg [xo 17 (.build [(.v (.slice none 0 0)),(.v (.slice none 0 0)),(.v (.slice none 0 0))] []),mo 18 5,mo 19 6,xn (st 3 2 17),mo 3 18,mo 4 19])
 .ret)
 .skip)))
 (sq (rg [fo 20 0 1,lo 21 20,fo 22 2 1,lo 23 22,xo 24 (.build [(.v (.slice none 0 0)),(.v (.slice none 0 0)),(.v (.slice none 0 0))] [(0,1,(.t 21)),(2,1,(.t 23))]),xo 7 (.alloc 60 [(.v (.slice none 0 0)),(.v (.slice none 0 0)),(.v (.slice none 0 0))]),xn (st 3 7 24)])
 (sq (sq (rg [fo 25 1 1,lo 26 25,xo 27 (.len false (.t 26)),xo 28 (.mov (ci 0))])
 (.block 0
 (.loop [28] [29,30,31,9,32,33,34,35,36,37,39,40,41,42,43,44,45,46,38,47,48,49,50,51,52,28]
 (sq (rg [xo 29 (bi .lss 28 27)])
 (sq (cD 29
 .skip
 (.exit 0))
 (sq (.block 1
 (sq (rg [xo 30 (ia 4 26 28),xo 31 (lt 4 30),xo 9 (.alloc 79 [(.v (.string ⟨#[]⟩)),(.v (.string ⟨#[]⟩)),(.v (.string ⟨#[]⟩)),(.v (.string ⟨#[]⟩))]),xn (st 4 9 31)])
 (rd [] (of 0 (fo 32 1 7)
 (ot 1 (lo 33 32)
 (of 2 (fo 34 0 1)
 (ot 3 (lo 35 34)
 (of 4 (fo 36 0 9)
 (ot 5 (lo 37 36)
 (of 7 (fo 39 1 9)
 (ot 8 (lo 40 39)
 (of 9 (fo 41 2 9)
 (ot 10 (lo 42 41)
 (of 11 (fo 43 2 1)
 (ot 12 (lo 44 43)
 (of 13 (fo 45 3 9)
 (ot 14 (lo 46 45)
 (of 6 (xo 38 (.call 45 [(.t 35),(.t 37)]))
 (of 15 (xo 47 (.call 46 [(.t 44),(.t 46)]))
 (of 16 (xo 48 (.build [(vi 0),(.v (.string ⟨#[]⟩)),(.v (.string ⟨#[]⟩)),(vi 0)] [(0,1,(.t 38)),(1,1,(.t 40)),(2,1,(.t 42)),(3,1,(.t 47))]))
 (of 17 (xo 49 (.bsl 110 4 1 [(vi 0),(.v (.string ⟨#[]⟩)),(.v (.string ⟨#[]⟩)),(vi 0)] [(0,4,(.t 48))]))
 (of 18 (xo 50 (.app 110 4 48 (.t 33) (.t 49)))
 (of 19 (fo 51 1 7)
 (of 20 (xn (st 1 51 50))
 .nil))))))))))))))))))))))))
 (rg [xo 52 (bc .add 28 1),mo 28 52])))))))
 (sq (rg [xo 53 (lt 3 7),xn (st 3 2 53),xo 3 (.mov (ci 0)),xo 4 (.mov (ci 0))])
 .ret)))))⟩
theorem qdN:trFn Tryz.prog 16 [([],(fs [0,1,2,3,4,5,7,8,9,10,11,12,13,14] (.exec 6 (.exec 15 (.first 16 (.exec 17 (.exec 18 (.first 19 (.exec 20 .nil)))))))))] [[28]]=some qZO:=by kernel_rfl
abbrev qWD:Nat:=17
def qGI:FnI:=⟨47,[.tmp 4],
 (sq (rg [xo 2 (.box 60 (.t 0)),xo 3 (.box 60 (.t 1)),xo 4 (.mov (.b false))])
 (sq (sq (rg [fo 6 0 2,lo 7 6,fo 8 0 3,lo 9 8,xo 10 (.call 47 [(.t 7),(.t 9)]),xo 11 (.not (.t 10)),mo 12 11,xg 13 (fa 2 2) 12 false,xg 14 (lf 13) 12 false,xg 15 (fa 2 3) 12 false,xg 16 (lf 15) 12 false,xg 17 (.call 48 [(.t 14),(.t 16)]) 12 false,xg 18 (.not (.t 17)) 12 false,xo 19 (.pick (.t 12) (.b true) (.t 18)),mo 20 19,xg 21 (fa 1 2) 20 false,xg 22 (lf 21) 20 false,xg 23 (.len false (.t 22)) 20 false,xg 24 (fa 1 3) 20 false,xg 25 (lf 24) 20 false,xg 26 (.len false (.t 25)) 20 false,xg 27 (bi .neq 23 26) 20 false,xo 28 (.pick (.t 20) (.b true) (.t 27))])
 (cD 28
 (sq (rg [xo 4 (.mov (.b false))])
 .ret)
 .skip))
 (sq (sq (rg [xo 5 (.mov (ci 0))])
 (.block 0
 (.loop [5] [29,30,31,32,33,36,37,38,39,40,41,42,43,44,45,46,4,34,35,5]
 (sq (sq (rg [mo 29 5,fo 30 1 2,lo 31 30,xo 32 (.len false (.t 31)),xo 33 (bi .lss 29 32)])
 (cD 33
 .skip
 (.exit 0)))
 (sq (.block 1
 (sq (rd [] (of 0 (fo 36 1 2)
 (ot 1 (lo 37 36)
 (of 2 (mo 38 5)
 (ot 3 (xo 39 (ia 4 37 38))
 (ot 4 (xo 40 (lt 4 39))
 (of 5 (fo 41 1 3)
 (ot 6 (lo 42 41)
 (of 7 (mo 43 5)
 (ot 8 (xo 44 (ia 4 42 43))
 (ot 9 (xo 45 (lt 4 44))
 (of 10 (xo 46 (.binst true [0,1,1,0] (.t 40) (.t 45)))
 .nil))))))))))))
 (cD 46
 (sq (rg [xo 4 (.mov (.b false))])
 .ret)
 .skip)))
 (rg [mo 34 5,xo 35 (bc .add 34 1),mo 5 35]))))))
 (sq (rg [xo 4 (.mov (.b true))])
 .ret))))⟩
theorem qWH:trFn Tryz.prog 17 [([],(fs [0,1,2,3,4,5,6,7,8,9,10] .nil))] [[5]]=some qGI:=by kernel_rfl
abbrev qtF:Nat:=18
def qYO:FnI:=⟨52,[.tmp 2],
 (sq (rg [xo 1 (.box 28 (.t 0)),xo 2 (.mov (ci 0))])
 (sq (rg [xo 3 (.mov (ci 0))])
 (sq (sq (rg [fo 12 4 1,lo 13 12,xo 14 (.len false (.t 13)),xo 15 (.mov (ci 0))])
 (.block 0
 (.loop [3,15] [16,17,18,5,19,20,21,22,23,24,25,7,26,27,28,29,30,31,32,9,34,35,33,36,37,10,11,38,39,40,41,42,43,44,45,46,47,3,48,49,50,15]
 (sq (rg [xo 16 (bi .lss 15 14)])
 (sq (cD 16
 .skip
 (.exit 0))
 (sq (.block 1
 (sq (rg [xo 17 (ia 5 13 15),xo 18 (lt 5 17),xo 5 (.alloc 67 [(.v (.slice none 0 0)),(.v (.slice none 0 0)),(.v (.slice none 0 0)),(.v (.slice none 0 0)),(.v (.bool false))]),xn (st 5 5 18)])
 (sq (rg [fo 19 3 5,lo 20 19,xo 21 (.len false (.t 20)),xo 22 (.mov (ci 0))])
 (.block 2
 (.loop [3,22] [23,24,25,7,26,27,28,29,30,31,32,9,34,35,33,36,37,10,11,38,39,40,41,42,43,44,45,46,47,3,48,49,22]
 (sq (rg [xo 23 (bi .lss 22 21)])
 (sq (cD 23
 .skip
 (.exit 2))
 (sq (.block 3
 (sq (rg [xo 24 (ia 2 20 22),xo 25 (lt 2 24),xo 7 (.alloc 74 [(.v (.int .u64 (0))),(.v (.slice none 0 0))]),xn (st 2 7 25)])
 (sq (rg [fo 26 1 7,lo 27 26,xo 28 (.len false (.t 27)),xo 29 (.mov (ci 0))])
 (.block 4
 (.loop [3,29] [30,31,32,9,34,35,33,36,37,10,11,38,39,40,41,42,43,44,45,46,47,3,48,29]
 (sq (rg [xo 30 (bi .lss 29 28)])
 (sq (cD 30
 .skip
 (.exit 4))
 (sq (.block 5
 (sq (rg [xo 31 (ia 3 27 29),xo 32 (lt 3 31),xo 9 (.alloc 99 [(.v (.int .u64 (0))),(.v (.slice none 0 0)),(vi 0)]),xn (st 3 9 32)])
 (sq (rg [xo 34 (lt 3 9),xo 35 (.call 49 [(.t 34)]),mo 33 35,xo 36 (.ext 0 (.t 33)),xo 37 (.ext 1 (.t 33)),mo 10 36,mo 11 37])
 (sq (rg [xo 38 (lt 3 9),xo 39 (.call 50 [(.t 38)])])
 (cD 39
 (rg [mo 40 3,fo 41 1 9,lo 42 41,xo 43 (.len false (.t 42)),mo 44 10,xo 45 (.len false (.t 44)),xo 46 (bi .sub 43 45),xo 47 (bi .add 40 46),mo 3 47])
 .skip)))))
 (rg [xo 48 (bc .add 29 1),mo 29 48])))))))))
 (rg [xo 49 (bc .add 22 1),mo 22 49])))))))))
 (rg [xo 50 (bc .add 15 1),mo 15 50])))))))
 (sq (rg [mo 51 3,mo 2 51])
 .ret))))⟩
theorem qcN:trFn Tryz.prog 18 [] [[3,15],[3,22],[3,29]]=some qYO:=by kernel_rfl
abbrev qhI:Nat:=19
def qxI:FnI:=⟨24,[.tmp 2],
 (sq (rg [xo 2 (.mov (.b false))])
 (sq (sq (rg [xo 3 (.mov (ci 0))])
 (.block 0
 (.loop [3] [4,5,6,7,8,9,10,11,12,15,16,17,18,19,20,2,13,14,3]
 (sq (sq (rg [mo 4 3,mo 5 0,xo 6 (.len false (.t 5)),xo 7 (bi .lss 4 6),mo 8 7,xg 9 (mv 0) 8 true,xg 10 (.len false (.t 9)) 8 true,xg 11 (bc .leq 10 50) 8 true,xo 12 (.pick (.t 8) (.t 11) (.b false))])
 (cD 12
 .skip
 (.exit 0)))
 (sq (.block 1
 (sq (rg [mo 15 0,mo 16 3,xo 17 (ia 1 15 16),lo 18 17,xo 19 (.len false (.t 18)),xo 20 (bc .gtr 19 50)])
 (cD 20
 (sq (rg [xo 2 (.mov (.b true))])
 .ret)
 .skip)))
 (rg [mo 13 3,xo 14 (bc .add 13 1),mo 3 14]))))))
 (sq (rg [mo 21 0,xo 22 (.len false (.t 21)),xo 23 (bc .gtr 22 50),mo 2 23])
 .ret)))⟩
theorem qPI:trFn Tryz.prog 19 [] [[3]]=some qxI:=by kernel_rfl
abbrev qKF:Nat:=20
def qSF:FnI:=⟨44,[.tmp 2],
 (sq (rg [xo 1 (.box 60 (.t 0)),xo 2 (.mov (.b false))])
 (sq (sq (rg [fo 4 0 1,lo 5 4,xo 6 (.len false (.t 5)),xo 7 (bc .gtr 6 20),mo 8 7,xg 9 (fa 2 1) 8 false,xg 10 (lf 9) 8 false,xg 11 (.len false (.t 10)) 8 false,xg 12 (bc .gtr 11 20) 8 false,xo 13 (.pick (.t 8) (.b true) (.t 12)),mo 14 13,xg 15 (fa 1 1) 14 false,xg 16 (lf 15) 14 false,xg 17 (.call 51 [(.t 16)]) 14 false,xo 18 (.pick (.t 14) (.b true) (.t 17))])
 (cD 18
 (sq (rg [xo 2 (.mov (.b true))])
 .ret)
 .skip))
 (sq (sq (rg [xo 3 (.mov (ci 0))])
 (.block 0
 (.loop [3] [19,20,21,22,23,26,27,28,29,30,31,32,33,34,35,36,37,38,39,40,41,42,43,2,24,25,3]
 (sq (sq (rg [mo 19 3,fo 20 2 1,lo 21 20,xo 22 (.len false (.t 21)),xo 23 (bi .lss 19 22)])
 (cD 23
 .skip
 (.exit 0)))
 (sq (.block 1
 (sq (rg [fo 26 2 1,lo 27 26,mo 28 3,xo 29 (ia 4 27 28),fo 30 3 29,lo 31 30,xo 32 (.len false (.t 31)),xo 33 (bc .gtr 32 20),mo 34 33,xg 35 (fa 2 1) 34 false,xg 36 (lf 35) 34 false,xg 37 (mv 3) 34 false,xg 38 (ia 4 36 37) 34 false,xg 39 (fa 0 38) 34 false,xg 40 (lf 39) 34 false,xg 41 (.len true (.t 40)) 34 false,xg 42 (bc .gtr 41 100) 34 false,xo 43 (.pick (.t 34) (.b true) (.t 42))])
 (cD 43
 (sq (rg [xo 2 (.mov (.b true))])
 .ret)
 .skip)))
 (rg [mo 24 3,xo 25 (bc .add 24 1),mo 3 25]))))))
 (sq (rg [xo 2 (.mov (.b false))])
 .ret))))⟩
theorem qBF:trFn Tryz.prog 20 [] [[3]]=some qSF:=by kernel_rfl
abbrev qZP:Nat:=21
def qpP:FnI:=⟨30,[.tmp 4],
 (sq (rg [xo 2 (.box 28 (.t 0)),xo 3 (.box 41 (.t 1)),xo 4 (.mov (.b false))])
 (sq (rg [fo 6 7 2,lo 7 6,xo 8 (.mkf (.func 53) [] [(.t 3)]),xo 9 (.call 52 [(.t 7),(.t 8)]),mo 5 9])
 (sq (rg [mo 10 5,mo 11 10,xg 12 (fa 13 3) 11 false,xg 13 (lf 12) 11 false,xg 14 (fa 1 2) 11 false,xg 15 (lf 14) 11 false,xg 16 (bi .eql 13 15) 11 false,xo 17 (.pick (.t 11) (.b true) (.t 16)),mo 18 17,xg 19 (fa 12 3) 18 false,xg 20 (lf 19) 18 false,xg 21 (bc .lss 20 0) 18 false,xo 22 (.pick (.t 18) (.b true) (.t 21)),mo 23 22,xg 24 (fa 12 3) 23 false,xg 25 (lf 24) 23 false,xg 26 (fa 0 2) 23 false,xg 27 (lf 26) 23 false,xg 28 (bi .gtr 25 27) 23 false,xo 29 (.pick (.t 23) (.b true) (.t 28)),mo 4 29])
 .ret)))⟩
theorem qzO:trFn Tryz.prog 21 [] []=some qpP:=by kernel_rfl
abbrev qyM:Nat:=22
def qPN:FnI:=⟨28,[.cell 2 8 true],
 (sq (rg [xo 1 (.box 28 (.t 0)),xo 2 (.alloc 28 [(vi 0),(vi 0),(vi 0),(.v (.slice none 0 0)),(.v (.slice none 0 0)),(.v (.slice none 0 0)),(.v (.slice none 0 0)),(.v (.slice none 0 0))])])
 (sq (rg [xo 4 (.build [] []),xo 3 (.alloc 121 []),xn (st 0 3 4)])
 (sq (rg [fo 5 3 1,lo 6 5,xo 7 (.call 54 [(.t 6)]),fo 8 3 1,xn (st 1 8 7)])
 (sq (rg [fo 9 4 1,lo 10 9,xo 11 (lt 0 3),xo 12 (.call 55 [(.t 10),(.c (.func (.func 56) #[] #[])),(.t 11)]),fo 13 4 1,xn (st 1 13 12)])
 (sq (rg [fo 14 5 1,lo 15 14,xo 16 (.call 57 [(.t 15)]),fo 17 5 1,xn (st 1 17 16)])
 (sq (rg [fo 18 6 1,lo 19 18,xo 20 (lt 0 3),xo 21 (.call 58 [(.t 19),(.c (.func (.func 59) #[] #[])),(.t 20)]),fo 22 6 1,xn (st 1 22 21)])
 (sq (rg [fo 23 7 1,lo 24 23,xo 25 (.call 60 [(.t 24)]),fo 26 7 1,xn (st 1 26 25)])
 (sq (rg [xo 27 (lt 8 1),xn (st 8 2 27)])
 .ret))))))))⟩
theorem qUM:trFn Tryz.prog 22 [] []=some qPN:=by kernel_rfl
def qON:FnD:=⟨72,[.cell 6 23 true],
 [(rg [xo 3 (.box 82 (.t 0)),xo 6 (.alloc 45 zl1)]),(rg [lo 14 3,xo 15 (nk 14),fo 16 0 15,fo 17 7 16,xo 18 (lt 3 17),xo 19 (.call 16 [(.t 18)]),mo 13 19,xo 20 (.ext 0 (.t 13)),xo 21 (.ext 1 (.t 13)),xo 22 (.ext 2 (.t 13)),xo 7 (.alloc 60 [(.v (.slice none 0 0)),(.v (.slice none 0 0)),(.v (.slice none 0 0))]),xo 8 (.alloc 61 [(vi 0)]),xn (st 3 7 20),xn (st 1 8 21),mo 9 22]),(sq (rg [lo 23 8,xo 24 (bc .eql 23 0)])
 (cD 24
 (sq (rg [xo 10 (.alloc 67 [(.v (.slice none 0 0)),(.v (.slice none 0 0)),(.v (.slice none 0 0)),(.v (.slice none 0 0)),(.v (.bool false))])])
 (sq (rg [xo 26 (lt 3 7),xo 27 (.call 61 [(.t 26)]),mo 25 27,xo 28 (.ext 0 (.t 25)),xo 29 (.ext 1 (.t 25)),xn (st 5 10 28),xn (st 1 8 29)])
 (sq (rg [lo 30 8,xo 31 (bc .eql 30 0)])
 (cD 31
 (sq (rg [mo 33 1,xo 34 (lt 5 10),xo 35 (.callv (.t 33) [(.t 34)]),mo 32 35,xo 36 (.ext 0 (.t 32)),xo 37 (.ext 1 (.t 32)),mo 11 36,mo 12 37])
 (sq (rd [] (ot 0 (lo 38 3)
 (of 7 (mo 45 11)
 (of 9 (xo 47 (nk 38))
 (of 10 (fo 48 13 47)
 (of 8 (mo 46 12)
 (ot 1 (lo 39 3)
 (ot 2 (lo 40 3)
 (ot 3 (lo 41 3)
 (ot 4 (lo 42 3)
 (ot 5 (lo 43 3)
 (ot 6 (lo 44 3)
 (.op ⟨11,false,[6,5,4,3,2,1],xn (st 1 48 45)⟩
 (of 12 (xo 49 (nk 39))
 (of 13 (fo 50 15 49)
 (.op ⟨14,false,[6,5,4,3,2],xn (.store 1 (.t 50) (ci 0))⟩
 (of 15 (xo 51 (nk 40))
 (of 16 (fo 52 16 51)
 (.op ⟨17,false,[6,5,4,3],xn (.store 1 (.t 52) (ci 0))⟩
 (of 18 (xo 53 (nk 41))
 (of 19 (fo 54 17 53)
 (.op ⟨20,false,[6,5,4],xn (.store 1 (.t 54) (ci 0))⟩
 (of 21 (xo 55 (nk 42))
 (of 22 (fo 56 18 55)
 (.op ⟨23,false,[6,5],xn (.store 1 (.t 56) (ci 0))⟩
 (of 24 (xo 57 (nk 43))
 (of 25 (fo 58 21 57)
 (.op ⟨26,false,[6],xn (st 1 58 46)⟩
 (of 27 (xo 59 (nk 44))
 (of 28 (fo 60 11 59)
 (of 29 (xn (.store 1 (.t 60) (ci 1)))
 .nil)))))))))))))))))))))))))))))))
 (sq (rg [lo 61 3,mo 62 12,xo 63 (.call 25 [(.t 61),(ci 6),(ci 3),(.t 62)]),xn (st 23 6 63)])
 (sq (rg [fo 64 8 6,xn (.store 1 (.t 64) (.b true))])
 (sq (rg [xo 65 (lt 23 6),xn (st 23 6 65)])
 .ret)))))
 .skip))))
 .skip))],.mkf (.func 62) [] [(.t 3),(.t 6),(.t 8)],66,62,
 (sq (rg [lo 67 3,mo 68 2,xo 69 (.call 25 [(.t 67),(ci 1),(ci 3),(.t 68)]),xn (st 23 6 69)])
 (sq (rg [fo 70 8 6,xn (.store 1 (.t 70) (.b true))])
 (sq (rg [xo 71 (lt 23 6),xn (st 23 6 71)])
 .ret))),
 ⟨15,[],
 (sq (rg [lo 3 0,xo 4 (nk 3),fo 5 24 4,xn (.store 1 (.t 5) (.b true)),fo 6 9 1,xn (.store 1 (.t 6) (.b true))])
 (rg [lo 7 0,lo 8 2,xo 9 (.build zl2 [(0,1,(ci 9)),(6,1,(.t 8))]),lo 10 2,xo 11 (.build zl2 [(0,1,(ci 9)),(6,1,(.t 10))]),xo 12 (nk 7),fo 13 25 12,xn (st 13 13 9),fo 14 10 1,xn (st 13 14 11)]))⟩⟩
theorem qSM:qYR Tryz.prog 23 [([],(fs [0,7,9,10,8,1,2,3,4,5,6] (.exec 11 (.first 12 (.first 13 (.exec 14 (.first 15 (.first 16 (.exec 17 (.first 18 (.first 19 (.exec 20 (.first 21 (.first 22 (.exec 23 (.first 24 (.first 25 (.exec 26 (.first 27 (.first 28 (.exec 29 .nil)))))))))))))))))))))] [] [] []=some qON:=by kernel_rfl
abbrev q1M:Nat:=24
theorem qDN:FnOk Tryz.prog 24:=FnOk.of (by kernel_rfl)
def qsI:FnI:=⟨20,[.tmp 3,.tmp 4],
 (sq (rg [xo 2 (.box 67 (.t 0)),xo 3 (.mov (ci 0)),xo 4 (.mov (ci 0))])
 (sq (rd [] (of 0 (fo 5 1 1)
 (ot 1 (lo 6 5)
 (of 2 (fo 7 4 1)
 (ot 3 (lo 8 7)
 (of 4 (xo 9 (.len false (.t 8)))
 (of 5 (mo 3 6)
 (of 6 (mo 4 9)
 .nil))))))))
 (sq (rg [fo 10 4 1,lo 11 10,xo 12 (lt 5 2),xo 13 (.bsl 67 5 1 [(.v (.slice none 0 0)),(.v (.slice none 0 0)),(.v (.slice none 0 0)),(.v (.slice none 0 0)),(.v (.bool false))] [(0,5,(.t 12))]),xo 14 (.app 67 5 104 (.t 11) (.t 13)),mo 15 4,fo 16 4 1,xn (st 1 16 14),fo 17 1 1,xn (st 1 17 15)])
 (sq (rg [mo 18 3,mo 19 4,mo 3 18,mo 4 19])
 .ret))))⟩
theorem qXM:trFn Tryz.prog 24 [([],(fs [0,1,2,3,4,5,6] .nil))] []=some qsI:=by kernel_rfl
abbrev q5J:Nat:=25
def q9J:FnI:=⟨17,[.cell 8 23 true],
 (sq (rg [xo 8 (.alloc 45 zl1)])
 (sq (rg [mo 9 0,xo 10 (nk 9),fo 11 10 10,lo 12 11,mo 13 1,mo 14 2,mo 15 3,xo 16 (.build zl1 [(0,1,(.t 12)),(2,1,(.t 13)),(3,1,(.t 14)),(4,1,(ci (-1))),(6,1,(.t 15))]),xn (st 23 8 16)])
 .ret))⟩
theorem qxJ:trFn Tryz.prog 25 [] []=some q9J:=by kernel_rfl
abbrev qfG:Nat:=26
def quG:FnI:=⟨105,[.tmp 4],
 (sq (rg [xo 2 (.box 28 (.t 0)),xo 3 (.box 41 (.t 1)),xo 4 (.mov (.b false))])
 (sq (sq (rd [] (ot 0 (xo 6 (lt 8 2))
 (of 1 (xo 7 (.call 63 [(.t 6)]))
 (of 2 (xo 8 (.not (.t 7)))
 (of 3 (mo 9 8)
 (of 4 (xg 10 (fa 10 3) 9 false)
 (ot 5 (xg 11 (lf 10) 9 false)
 (of 6 (xg 12 (fa 3 2) 9 false)
 (ot 7 (xg 13 (lf 12) 9 false)
 (of 8 (xg 14 (.len false (.t 13)) 9 false)
 (of 9 (xg 15 (.call 64 [(.t 11),(.t 14)]) 9 false)
 (of 10 (xg 16 (.not (.t 15)) 9 false)
 (of 11 (xo 17 (.pick (.t 9) (.b true) (.t 16)))
 (of 12 (mo 18 17)
 (of 13 (xg 19 (fa 24 3) 18 false)
 (ot 14 (xg 20 (lf 19) 18 false)
 (of 15 (xo 21 (.pick (.t 18) (.b true) (.t 20)))
 (of 16 (mo 22 21)
 (of 17 (xg 23 (fa 13 3) 22 false)
 (ot 18 (xg 24 (lf 23) 22 false)
 (of 19 (xg 25 (fa 4 2) 22 false)
 (ot 20 (xg 26 (lf 25) 22 false)
 (of 21 (xg 27 (.len false (.t 26)) 22 false)
 (of 22 (xg 28 (.call 64 [(.t 24),(.t 27)]) 22 false)
 (of 23 (xg 29 (.not (.t 28)) 22 false)
 (of 24 (xo 30 (.pick (.t 22) (.b true) (.t 29)))
 (of 25 (mo 31 30)
 (of 26 (xg 32 (fa 15 3) 31 false)
 (ot 27 (xg 33 (lf 32) 31 false)
 (of 28 (xg 34 (fa 4 2) 31 false)
 (ot 29 (xg 35 (lf 34) 31 false)
 (of 30 (xg 36 (fa 13 3) 31 false)
 (ot 31 (xg 37 (lf 36) 31 false)
 (ot 32 (xg 38 (ia 5 35 37) 31 false)
 (of 33 (xg 39 (fa 3 38) 31 false)
 (ot 34 (xg 40 (lf 39) 31 false)
 (of 35 (xg 41 (.len false (.t 40)) 31 false)
 (of 36 (xg 42 (.call 64 [(.t 33),(.t 41)]) 31 false)
 (of 37 (xg 43 (.not (.t 42)) 31 false)
 (of 38 (xo 44 (.pick (.t 31) (.b true) (.t 43)))
 .nil))))))))))))))))))))))))))))))))))))))))
 (cD 44
 (sq (rg [xo 4 (.mov (.b false))])
 .ret)
 .skip))
 (sq (rd [] (of 0 (fo 45 4 2)
 (ot 1 (lo 46 45)
 (of 2 (fo 47 13 3)
 (ot 3 (lo 48 47)
 (ot 4 (xo 49 (ia 5 46 48))
 (of 5 (fo 50 3 49)
 (ot 6 (lo 51 50)
 (of 7 (fo 52 15 3)
 (ot 8 (lo 53 52)
 (ot 9 (xo 54 (ia 2 51 53))
 (of 10 (fo 55 1 54)
 (ot 11 (lo 56 55)
 (of 12 (mo 5 56)
 .nil))))))))))))))
 (sq (sq (rd [] (of 0 (fo 57 16 3)
 (ot 1 (lo 58 57)
 (of 2 (mo 59 5)
 (of 3 (xo 60 (.len false (.t 59)))
 (of 4 (xo 61 (.call 64 [(.t 58),(.t 60)]))
 (of 5 (xo 62 (.not (.t 61)))
 (of 6 (mo 63 62)
 (of 7 (xg 64 (fa 17 3) 63 false)
 (ot 8 (xg 65 (lf 64) 63 false)
 (of 9 (xg 66 (mv 5) 63 false)
 (of 10 (xg 67 (.len false (.t 66)) 63 false)
 (of 11 (xg 68 (.call 64 [(.t 65),(.t 67)]) 63 false)
 (of 12 (xg 69 (.not (.t 68)) 63 false)
 (of 13 (xo 70 (.pick (.t 63) (.b true) (.t 69)))
 (of 14 (mo 71 70)
 (of 15 (xg 72 (fa 18 3) 71 false)
 (ot 16 (xg 73 (lf 72) 71 false)
 (of 17 (xg 74 (mv 5) 71 false)
 (of 18 (xg 75 (fa 16 3) 71 false)
 (ot 19 (xg 76 (lf 75) 71 false)
 (ot 20 (xg 77 (ia 3 74 76) 71 false)
 (of 21 (xg 78 (fa 1 77) 71 false)
 (ot 22 (xg 79 (lf 78) 71 false)
 (of 23 (xg 80 (.len false (.t 79)) 71 false)
 (of 24 (xg 81 (.call 64 [(.t 73),(.t 80)]) 71 false)
 (of 25 (xg 82 (.not (.t 81)) 71 false)
 (of 26 (xo 83 (.pick (.t 71) (.b true) (.t 82)))
 .nil))))))))))))))))))))))))))))
 (cD 83
 (sq (rg [xo 4 (.mov (.b false))])
 .ret)
 .skip))
 (sq (rg [fo 84 14 3,lo 85 84,xo 86 (.bini .geq (.t 85) (ci (-1))),mo 87 86,xg 88 (fa 14 3) 87 true,xg 89 (lf 88) 87 true,xg 90 (fa 5 2) 87 true,xg 91 (lf 90) 87 true,xg 92 (.len false (.t 91)) 87 true,xg 93 (bi .lss 89 92) 87 true,xo 94 (.pick (.t 87) (.t 93) (.b false)),mo 95 94,xg 96 (fa 21 3) 95 true,xg 97 (lf 96) 95 true,xg 98 (bc .geq 97 0) 95 true,xo 99 (.pick (.t 95) (.t 98) (.b false)),mo 100 99,xg 101 (fa 22 3) 100 true,xg 102 (lf 101) 100 true,xg 103 (bc .geq 102 0) 100 true,xo 104 (.pick (.t 100) (.t 103) (.b false)),mo 4 104])
 .ret)))))⟩
theorem qQG:trFn Tryz.prog 26 [([],(.first 0 (.exec 1 (fs [2,3,4,5,6,7,8] (.exec 9 (fs [10,11,12,13,14,15,16,17,18,19,20,21] (.exec 22 (fs [23,24,25,26,27,28,29,30,31,32,33,34,35] (.exec 36 (.first 37 (.first 38 .nil))))))))))),([],(fs [0,1,2,3,4,5,6,7,8,9,10,11,12] .nil)),([],(fs [0,1,2,3] (.exec 4 (fs [5,6,7,8,9,10] (.exec 11 (fs [12,13,14,15,16,17,18,19,20,21,22,23] (.exec 24 (.first 25 (.first 26 .nil)))))))))] []=some quG:=by kernel_rfl
abbrev qkH:Nat:=27
def q6H:FnI:=⟨39,[.tmp 4],
 (sq (rg [xo 2 (.box 28 (.t 0)),xo 3 (.box 41 (.t 1)),xo 4 (.mov (.b false))])
 (sq (sq (rg [xo 5 (.mov (ci 0))])
 (.block 0
 (.loop [5] [6,7,8,9,10,13,14,15,16,17,18,19,20,21,4,11,12,5]
 (sq (sq (rg [mo 6 5,fo 7 7 2,lo 8 7,xo 9 (.len false (.t 8)),xo 10 (bi .lss 6 9)])
 (cD 10
 .skip
 (.exit 0)))
 (sq (.block 1
 (sq (rd [] (of 0 (fo 13 7 2)
 (ot 1 (lo 14 13)
 (of 2 (mo 15 5)
 (ot 3 (xo 16 (ia 3 14 15))
 (of 4 (fo 17 0 16)
 (ot 5 (lo 18 17)
 (of 6 (fo 19 13 3)
 (ot 7 (lo 20 19)
 (of 8 (xo 21 (bi .eql 18 20))
 .nil))))))))))
 (cD 21
 (sq (rg [xo 4 (.mov (.b true))])
 .ret)
 .skip)))
 (rg [mo 11 5,xo 12 (bc .add 11 1),mo 5 12]))))))
 (sq (rg [fo 22 13 3,lo 23 22,fo 24 1 2,lo 25 24,xo 26 (bi .eql 23 25),mo 27 26,xg 28 (fa 12 3) 27 false,xg 29 (lf 28) 27 false,xg 30 (bc .lss 29 0) 27 false,xo 31 (.pick (.t 27) (.b true) (.t 30)),mo 32 31,xg 33 (fa 12 3) 32 false,xg 34 (lf 33) 32 false,xg 35 (fa 0 2) 32 false,xg 36 (lf 35) 32 false,xg 37 (bi .gtr 34 36) 32 false,xo 38 (.pick (.t 32) (.b true) (.t 37)),mo 4 38])
 .ret)))⟩
theorem qMH:trFn Tryz.prog 27 [([],(fs [0,1,2,3,4,5,6,7,8] .nil))] [[5]]=some q6H:=by kernel_rfl
abbrev qHF:Nat:=28
def qPF:FnI:=⟨79,[.cell 4 8 true,.cell 5 44 true,.cell 6 23 true],
 (sq (rg [xo 2 (.box 28 (.t 0)),xo 3 (.box 41 (.t 1)),xo 4 (.alloc 28 [(vi 0),(vi 0),(vi 0),(.v (.slice none 0 0)),(.v (.slice none 0 0)),(.v (.slice none 0 0)),(.v (.slice none 0 0)),(.v (.slice none 0 0))]),xo 5 (.alloc 41 zl0),xo 6 (.alloc 45 zl1)])
 (sq (rg [xo 17 (lt 8 2),xo 18 (.call 29 [(.t 17)]),xo 7 (.alloc 28 [(vi 0),(vi 0),(vi 0),(.v (.slice none 0 0)),(.v (.slice none 0 0)),(.v (.slice none 0 0)),(.v (.slice none 0 0)),(.v (.slice none 0 0))]),xn (st 8 7 18)])
 (sq (rg [fo 20 0 3,fo 21 7 20,xo 22 (lt 3 21),xo 23 (.call 65 [(.t 22)]),mo 19 23,xo 24 (.ext 0 (.t 19)),xo 25 (.ext 1 (.t 19)),xo 26 (.ext 2 (.t 19)),xo 8 (.alloc 60 [(.v (.slice none 0 0)),(.v (.slice none 0 0)),(.v (.slice none 0 0))]),xn (st 3 8 24),mo 9 25,mo 10 26])
 (sq (sq (rg [mo 27 9,xo 28 (bc .neq 27 0)])
 (cD 28
 (sq (rg [xo 29 (lt 44 3),fo 30 1 2,lo 31 30,xo 32 (.call 30 [(.t 29),(ci 1),(ci 3),(.t 31)]),xo 11 (.alloc 45 zl1),xn (st 23 11 32)])
 (sq (rg [fo 33 8 11,xn (.store 1 (.t 33) (.b true))])
 (sq (rg [xo 35 (lt 44 3),xo 36 (lt 23 11),mo 37 9,xo 38 (.build zl2 [(0,1,(ci 9)),(6,1,(.t 37))]),xo 39 (.call 31 [(.t 35),(.t 36),(.t 38)]),mo 34 39,xo 40 (.ext 0 (.t 34)),xo 41 (.ext 1 (.t 34)),xo 12 (.alloc 41 zl0),xo 13 (.alloc 45 zl1),xn (st 44 12 40),xn (st 23 13 41)])
 (sq (rd [] (ot 0 (xo 42 (lt 8 7))
 (ot 1 (xo 43 (lt 44 12))
 (ot 2 (xo 44 (lt 23 13))
 (.op ⟨3,false,[2,1],xn (st 8 4 42)⟩
 (.op ⟨4,false,[2],xn (st 44 5 43)⟩
 (of 5 (xn (st 23 6 44))
 .nil)))))))
 .ret))))
 .skip))
 (sq (rg [xo 46 (lt 3 8),xo 47 (.call 66 [(.t 46)]),mo 45 47,xo 48 (.ext 0 (.t 45)),xo 49 (.ext 1 (.t 45)),xo 14 (.alloc 67 [(.v (.slice none 0 0)),(.v (.slice none 0 0)),(.v (.slice none 0 0)),(.v (.slice none 0 0)),(.v (.bool false))]),xn (st 5 14 48),mo 15 49])
 (sq (rg [fo 50 4 7,lo 51 50,xo 52 (lt 5 14),xo 53 (.bsl 67 5 1 [(.v (.slice none 0 0)),(.v (.slice none 0 0)),(.v (.slice none 0 0)),(.v (.slice none 0 0)),(.v (.bool false))] [(0,5,(.t 52))]),xo 54 (.app 67 5 104 (.t 51) (.t 53)),fo 55 4 7,xn (st 1 55 54)])
 (sq (rg [fo 56 4 2,lo 57 56,xo 58 (.len false (.t 57)),fo 59 1 7,xn (st 1 59 58)])
 (sq (rg [fo 60 1 2,lo 61 60,fo 62 13 3,xn (st 1 62 61)])
 (sq (rg [fo 63 15 3,xn (.store 1 (.t 63) (ci 0))])
 (sq (rg [fo 64 16 3,xn (.store 1 (.t 64) (ci 0))])
 (sq (rg [fo 65 17 3,xn (.store 1 (.t 65) (ci 0))])
 (sq (rg [fo 66 18 3,xn (.store 1 (.t 66) (ci 0))])
 (sq (rg [fo 67 1 7,lo 68 67,fo 69 21 3,xn (st 1 69 68)])
 (sq (rg [fo 70 11 3,xn (.store 1 (.t 70) (ci 1))])
 (sq (rg [xo 71 (lt 44 3),fo 72 1 7,lo 73 72,xo 74 (.call 30 [(.t 71),(ci 6),(ci 3),(.t 73)]),xo 16 (.alloc 45 zl1),xn (st 23 16 74)])
 (sq (rg [fo 75 8 16,xn (.store 1 (.t 75) (.b true))])
 (sq (rd [] (ot 0 (xo 76 (lt 8 7))
 (ot 1 (xo 77 (lt 44 3))
 (ot 2 (xo 78 (lt 23 16))
 (.op ⟨3,false,[2,1],xn (st 8 4 76)⟩
 (.op ⟨4,false,[2],xn (st 44 5 77)⟩
 (of 5 (xn (st 23 6 78))
 .nil)))))))
 .ret)))))))))))))))))⟩
theorem q8E:trFn Tryz.prog 28 [([],(fs [0,1,2] (.exec 3 (.exec 4 (.exec 5 .nil))))),([],(fs [0,1,2] (.exec 3 (.exec 4 (.exec 5 .nil)))))] []=some qPF:=by kernel_rfl
abbrev qhG:Nat:=29
def qwG:FnI:=⟨151,[.cell 2 8 true],
 (sq (rg [xo 1 (.box 28 (.t 0)),xo 2 (.alloc 28 [(vi 0),(vi 0),(vi 0),(.v (.slice none 0 0)),(.v (.slice none 0 0)),(.v (.slice none 0 0)),(.v (.slice none 0 0)),(.v (.slice none 0 0))])])
 (sq (rg [xo 13 (lt 8 1),xo 3 (.alloc 28 [(vi 0),(vi 0),(vi 0),(.v (.slice none 0 0)),(.v (.slice none 0 0)),(.v (.slice none 0 0)),(.v (.slice none 0 0)),(.v (.slice none 0 0))]),xn (st 8 3 13)])
 (sq (rg [xo 14 (.bsl 3 1 0 [] []),fo 15 3 3,xn (st 1 15 14)])
 (sq (rg [fo 16 3 3,lo 17 16,fo 18 3 1,lo 19 18,xo 20 (.app 3 1 8 (.t 17) (.t 19)),fo 21 3 3,xn (st 1 21 20)])
 (sq (rg [xo 22 (.bsl 67 5 0 [] []),fo 23 4 3,xn (st 1 23 22)])
 (sq (sq (rg [xo 4 (.mov (ci 0))])
 (.block 0
 (.loop [4] [24,25,26,27,28,31,32,33,34,35,5,36,37,6,38,39,40,41,42,43,44,45,46,49,50,51,52,53,54,55,56,57,7,58,59,8,60,61,62,63,64,65,66,67,68,69,70,71,72,75,76,77,78,79,80,81,82,83,84,85,86,87,9,88,10,89,90,91,92,93,94,95,96,97,98,99,73,74,100,101,102,103,104,105,47,48,106,107,108,109,110,111,29,30,4]
 (sq (sq (rg [mo 24 4,fo 25 4 1,lo 26 25,xo 27 (.len false (.t 26)),xo 28 (bi .lss 24 27)])
 (cD 28
 .skip
 (.exit 0)))
 (sq (.block 1
 (sq (rg [fo 31 4 1,lo 32 31,mo 33 4,xo 34 (ia 5 32 33),xo 35 (lt 5 34),xo 5 (.alloc 67 [(.v (.slice none 0 0)),(.v (.slice none 0 0)),(.v (.slice none 0 0)),(.v (.slice none 0 0)),(.v (.bool false))]),xn (st 5 5 35)])
 (sq (rg [xo 36 (.bsl 74 2 0 [] []),fo 37 3 5,xn (st 1 37 36)])
 (sq (sq (rg [xo 6 (.mov (ci 0))])
 (.block 2
 (.loop [6] [38,39,40,41,42,43,44,45,46,49,50,51,52,53,54,55,56,57,7,58,59,8,60,61,62,63,64,65,66,67,68,69,70,71,72,75,76,77,78,79,80,81,82,83,84,85,86,87,9,88,10,89,90,91,92,93,94,95,96,97,98,99,73,74,100,101,102,103,104,105,47,48,6]
 (sq (sq (rg [mo 38 6,fo 39 4 1,lo 40 39,mo 41 4,xo 42 (ia 5 40 41),fo 43 3 42,lo 44 43,xo 45 (.len false (.t 44)),xo 46 (bi .lss 38 45)])
 (cD 46
 .skip
 (.exit 2)))
 (sq (.block 3
 (sq (rg [fo 49 4 1,lo 50 49,mo 51 4,xo 52 (ia 5 50 51),fo 53 3 52,lo 54 53,mo 55 6,xo 56 (ia 2 54 55),xo 57 (lt 2 56),xo 7 (.alloc 74 [(.v (.int .u64 (0))),(.v (.slice none 0 0))]),xn (st 2 7 57)])
 (sq (rg [xo 58 (.bsl 99 3 0 [] []),fo 59 1 7,xn (st 1 59 58)])
 (sq (sq (rg [xo 8 (.mov (ci 0))])
 (.block 4
 (.loop [8] [60,61,62,63,64,65,66,67,68,69,70,71,72,75,76,77,78,79,80,81,82,83,84,85,86,87,9,88,10,89,90,91,92,93,94,95,96,97,98,99,73,74,8]
 (sq (sq (rg [mo 60 8,fo 61 4 1,lo 62 61,mo 63 4,xo 64 (ia 5 62 63),fo 65 3 64,lo 66 65,mo 67 6,xo 68 (ia 2 66 67),fo 69 1 68,lo 70 69,xo 71 (.len false (.t 70)),xo 72 (bi .lss 60 71)])
 (cD 72
 .skip
 (.exit 4)))
 (sq (.block 5
 (sq (rg [fo 75 4 1,lo 76 75,mo 77 4,xo 78 (ia 5 76 77),fo 79 3 78,lo 80 79,mo 81 6,xo 82 (ia 2 80 81),fo 83 1 82,lo 84 83,mo 85 8,xo 86 (ia 3 84 85),xo 87 (lt 3 86),xo 9 (.alloc 99 [(.v (.int .u64 (0))),(.v (.slice none 0 0)),(vi 0)]),xn (st 3 9 87)])
 (sq (rg [xo 88 (.bsl 3 1 0 [] []),mo 10 88])
 (sq (rg [mo 89 10,fo 90 1 9,lo 91 90,xo 92 (.app 3 1 8 (.t 89) (.t 91)),fo 93 1 9,xn (st 1 93 92)])
 (rg [fo 94 1 7,lo 95 94,xo 96 (lt 3 9),xo 97 (.bsl 99 3 1 [(.v (.int .u64 (0))),(.v (.slice none 0 0)),(vi 0)] [(0,3,(.t 96))]),xo 98 (.app 99 3 40 (.t 95) (.t 97)),fo 99 1 7,xn (st 1 99 98)])))))
 (rg [mo 73 8,xo 74 (bc .add 73 1),mo 8 74]))))))
 (rg [fo 100 3 5,lo 101 100,xo 102 (lt 2 7),xo 103 (.bsl 74 2 1 [(.v (.int .u64 (0))),(.v (.slice none 0 0))] [(0,2,(.t 102))]),xo 104 (.app 74 2 32 (.t 101) (.t 103)),fo 105 3 5,xn (st 1 105 104)])))))
 (rg [mo 47 6,xo 48 (bc .add 47 1),mo 6 48]))))))
 (rg [fo 106 4 3,lo 107 106,xo 108 (lt 5 5),xo 109 (.bsl 67 5 1 [(.v (.slice none 0 0)),(.v (.slice none 0 0)),(.v (.slice none 0 0)),(.v (.slice none 0 0)),(.v (.bool false))] [(0,5,(.t 108))]),xo 110 (.app 67 5 104 (.t 107) (.t 109)),fo 111 4 3,xn (st 1 111 110)])))))
 (rg [mo 29 4,xo 30 (bc .add 29 1),mo 4 30]))))))
 (sq (rg [xo 112 (.bsl 95 4 0 [] []),fo 113 5 3,xn (st 1 113 112)])
 (sq (rg [fo 114 5 3,lo 115 114,fo 116 5 1,lo 117 116,xo 118 (.app 95 4 40 (.t 115) (.t 117)),fo 119 5 3,xn (st 1 119 118)])
 (sq (rg [xo 120 (.bsl 116 1 0 [] []),fo 121 6 3,xn (st 1 121 120)])
 (sq (sq (rg [xo 11 (.mov (ci 0))])
 (.block 6
 (.loop [11] [122,123,124,125,126,129,12,132,133,134,135,136,137,130,131,138,139,140,141,127,128,11]
 (sq (sq (rg [mo 122 11,fo 123 6 1,lo 124 123,xo 125 (.len false (.t 124)),xo 126 (bi .lss 122 125)])
 (cD 126
 .skip
 (.exit 6)))
 (sq (.block 7
 (sq (rg [xo 129 (.bsl 36 1 0 [] []),mo 12 129])
 (rd [] (of 2 (mo 132 12)
 (of 3 (fo 133 6 1)
 (ot 4 (lo 134 133)
 (of 5 (mo 135 11)
 (ot 6 (xo 136 (ia 1 134 135))
 (ot 7 (lo 137 136)
 (of 0 (fo 130 6 3)
 (ot 1 (lo 131 130)
 (.op ⟨8,false,[1],xo 138 (.app 36 1 8 (.t 132) (.t 137))⟩
 (of 9 (xo 139 (.bsl 116 1 1 [(.v (.slice none 0 0))] [(0,1,(.t 138))]))
 (of 10 (xo 140 (.app 116 1 24 (.t 131) (.t 139)))
 (of 11 (fo 141 6 3)
 (of 12 (xn (st 1 141 140))
 .nil))))))))))))))))
 (rg [mo 127 11,xo 128 (bc .add 127 1),mo 11 128]))))))
 (sq (rg [xo 142 (.bsl 56 3 0 [] []),fo 143 7 3,xn (st 1 143 142)])
 (sq (rg [fo 144 7 3,lo 145 144,fo 146 7 1,lo 147 146,xo 148 (.app 56 3 24 (.t 145) (.t 147)),fo 149 7 3,xn (st 1 149 148)])
 (sq (rg [xo 150 (lt 8 3),xn (st 8 2 150)])
 .ret)))))))))))))⟩
theorem qSG:trFn Tryz.prog 29 [([],(fs [2,3,4,5,6,7,0,1] (.exec 8 (.exec 9 (.exec 10 (.first 11 (.exec 12 .nil)))))))] [[4],[6],[8],[11]]=some qwG:=by kernel_rfl
abbrev qeG:Nat:=30
def qtG:FnI:=⟨15,[.cell 8 23 true],
 (sq (rg [xo 4 (.box 41 (.t 0)),xo 8 (.alloc 45 zl1)])
 (sq (rg [fo 9 10 4,lo 10 9,mo 11 1,mo 12 2,mo 13 3,xo 14 (.build zl1 [(0,1,(.t 10)),(2,1,(.t 11)),(3,1,(.t 12)),(4,1,(ci (-1))),(6,1,(.t 13))]),xn (st 23 8 14)])
 .ret))⟩
theorem qPG:trFn Tryz.prog 30 [] []=some qtG:=by kernel_rfl
abbrev qmH:Nat:=31
def q8H:FnI:=⟨16,[.cell 6 44 true,.cell 7 23 true],
 (sq (rg [xo 3 (.box 41 (.t 0)),xo 4 (.box 45 (.t 1)),xo 5 (.box 39 (.t 2)),xo 6 (.alloc 41 zl0),xo 7 (.alloc 45 zl1)])
 (sq (rg [fo 8 24 3,xn (.store 1 (.t 8) (.b true))])
 (sq (rg [xo 9 (lt 13 5),fo 10 25 3,xn (st 13 10 9)])
 (sq (rg [fo 11 9 4,xn (.store 1 (.t 11) (.b true))])
 (sq (rg [xo 12 (lt 13 5),fo 13 10 4,xn (st 13 13 12)])
 (sq (rd [] (ot 0 (xo 14 (lt 44 3))
 (ot 1 (xo 15 (lt 23 4))
 (.op ⟨2,false,[1],xn (st 44 6 14)⟩
 (of 3 (xn (st 23 7 15))
 .nil)))))
 .ret))))))⟩
theorem qOH:trFn Tryz.prog 31 [([],(.first 0 (.first 1 (.exec 2 (.exec 3 .nil)))))] []=some q8H:=by kernel_rfl
abbrev qqG:Nat:=32
def q5G:FnI:=⟨29,[.cell 0 8 true,.cell 1 3 true],
 (sq (rg [xo 0 (.alloc 28 [(vi 0),(vi 0),(vi 0),(.v (.slice none 0 0)),(.v (.slice none 0 0)),(.v (.slice none 0 0)),(.v (.slice none 0 0)),(.v (.slice none 0 0))]),xo 1 (.alloc 33 [(.v (.slice none 0 0)),(.v (.slice none 0 0)),(.v (.slice none 0 0))])])
 (sq (rg [xo 8 (.bsl 9 1 1 [(.v (.string ⟨#[]⟩))] [(0,1,(.c (.string ⟨#[105,110]⟩)))]),xo 9 (.bsl 4 1 1 [(.v (.bool false))] [(0,1,(.b true))]),xo 10 (.build [(.v (.string ⟨#[]⟩)),(vi 0),(vi 0),(.v (.slice none 0 0))] [(0,1,(.c (.string ⟨#[97]⟩))),(1,1,(ci 1)),(2,1,(ci 1)),(3,1,(.t 9))]),xo 11 (.bsl 77 4 1 [(.v (.string ⟨#[]⟩)),(vi 0),(vi 0),(.v (.slice none 0 0))] [(0,4,(.t 10))]),xo 12 (.build [(.v (.string ⟨#[]⟩)),(.v (.string ⟨#[]⟩)),(.v (.string ⟨#[]⟩)),(.v (.string ⟨#[]⟩))] [(0,1,(.c (.string ⟨#[105,110]⟩))),(1,1,(.c (.string ⟨#[42]⟩))),(2,1,(.c (.string ⟨#[47]⟩))),(3,1,(.c (.string ⟨#[97]⟩)))]),xo 13 (.bsl 79 4 1 [(.v (.string ⟨#[]⟩)),(.v (.string ⟨#[]⟩)),(.v (.string ⟨#[]⟩)),(.v (.string ⟨#[]⟩))] [(0,4,(.t 12))]),xo 14 (.build [(.v (.slice none 0 0)),(.v (.slice none 0 0)),(.v (.slice none 0 0))] [(0,1,(.t 8)),(2,1,(.t 11)),(1,1,(.t 13))]),xo 2 (.alloc 33 [(.v (.slice none 0 0)),(.v (.slice none 0 0)),(.v (.slice none 0 0))]),xn (st 3 2 14)])
 (sq (rg [xo 16 (lt 3 2),xo 17 (.call 16 [(.t 16)]),mo 15 17,xo 18 (.ext 0 (.t 15)),xo 19 (.ext 1 (.t 15)),xo 20 (.ext 2 (.t 15)),xo 3 (.alloc 60 [(.v (.slice none 0 0)),(.v (.slice none 0 0)),(.v (.slice none 0 0))]),xn (st 3 3 18),mo 4 19,mo 5 20])
 (sq (rg [xo 22 (lt 3 3),xo 23 (.bsl 9 1 1 [(.v (.string ⟨#[]⟩))] [(0,1,(.c (.string ⟨#[105,110]⟩)))]),xo 24 (.call 67 [(.t 22),(.t 23),(ci 1)]),mo 21 24,xo 25 (.ext 0 (.t 21)),xo 26 (.ext 1 (.t 21)),xo 6 (.alloc 28 [(vi 0),(vi 0),(vi 0),(.v (.slice none 0 0)),(.v (.slice none 0 0)),(.v (.slice none 0 0)),(.v (.slice none 0 0)),(.v (.slice none 0 0))]),xn (st 8 6 25),mo 7 26])
 (sq (rd [] (ot 0 (xo 27 (lt 8 6))
 (ot 1 (xo 28 (lt 3 2))
 (.op ⟨2,false,[1],xn (st 8 0 27)⟩
 (of 3 (xn (st 3 1 28))
 .nil)))))
 .ret)))))⟩
theorem qbG:trFn Tryz.prog 32 [([],(.first 0 (.first 1 (.exec 2 (.exec 3 .nil)))))] []=some q5G:=by kernel_rfl
abbrev qnE:Nat:=33
def qxE:FnI:=⟨26,[.tmp 4],
 (sq (rg [xo 4 (.mov (.b false))])
 (sq (sq (rg [mo 6 0,xo 7 (.len false (.t 6)),mo 8 1,xo 9 (.len false (.t 8)),xo 10 (bi .neq 7 9)])
 (cD 10
 (sq (rg [xo 4 (.mov (.b false))])
 .ret)
 .skip))
 (sq (sq (rg [xo 5 (.mov (ci 0))])
 (.block 0
 (.loop [5] [11,12,13,14,17,18,19,20,21,22,23,24,25,4,15,16,5]
 (sq (sq (rg [mo 11 5,mo 12 0,xo 13 (.len false (.t 12)),xo 14 (bi .lss 11 13)])
 (cD 14
 .skip
 (.exit 0)))
 (sq (.block 1
 (sq (rd [] (of 0 (mo 17 0)
 (of 1 (mo 18 5)
 (ot 2 (xo 19 (ia 1 17 18))
 (ot 3 (lo 20 19)
 (of 4 (mo 21 1)
 (of 5 (mo 22 5)
 (ot 6 (xo 23 (ia 1 21 22))
 (ot 7 (lo 24 23)
 (of 8 (xo 25 (bi .neq 20 24))
 .nil))))))))))
 (cD 25
 (sq (rg [xo 4 (.mov (.b false))])
 .ret)
 .skip)))
 (rg [mo 15 5,xo 16 (bc .add 15 1),mo 5 16]))))))
 (sq (rg [xo 4 (.mov (.b true))])
 .ret))))⟩
theorem qfE:trFn Tryz.prog 33 [([],(fs [0,1,2,3,4,5,6,7,8] .nil))] [[5]]=some qxE:=by kernel_rfl
abbrev qsH:Nat:=34
def qFI:FnI:=⟨53,[.tmp 4],
 (sq (rg [xo 4 (.mov (.b false))])
 (sq (sq (rg [mo 7 0,xo 8 (.len false (.t 7)),mo 9 1,xo 10 (.len false (.t 9)),xo 11 (bi .neq 8 10)])
 (cD 11
 (sq (rg [xo 4 (.mov (.b false))])
 .ret)
 .skip))
 (sq (sq (rg [xo 5 (.mov (ci 0))])
 (.block 0
 (.loop [5] [12,13,14,15,18,19,20,21,22,23,24,25,26,27,28,4,6,29,30,31,32,33,34,35,38,39,40,41,42,43,44,45,46,47,48,49,50,51,52,36,37,16,17,5]
 (sq (sq (rg [mo 12 5,mo 13 0,xo 14 (.len false (.t 13)),xo 15 (bi .lss 12 14)])
 (cD 15
 .skip
 (.exit 0)))
 (sq (.block 1
 (sq (sq (rd [] (of 0 (mo 18 0)
 (of 1 (mo 19 5)
 (ot 2 (xo 20 (ia 1 18 19))
 (ot 3 (lo 21 20)
 (of 4 (xo 22 (.len false (.t 21)))
 (of 5 (mo 23 1)
 (of 6 (mo 24 5)
 (ot 7 (xo 25 (ia 1 23 24))
 (ot 8 (lo 26 25)
 (of 9 (xo 27 (.len false (.t 26)))
 (of 10 (xo 28 (bi .neq 22 27))
 .nil))))))))))))
 (cD 28
 (sq (rg [xo 4 (.mov (.b false))])
 .ret)
 .skip))
 (sq (rg [xo 6 (.mov (ci 0))])
 (.block 2
 (.loop [6] [29,30,31,32,33,34,35,38,39,40,41,42,43,44,45,46,47,48,49,50,51,52,4,36,37,6]
 (sq (sq (rg [mo 29 6,mo 30 0,mo 31 5,xo 32 (ia 1 30 31),lo 33 32,xo 34 (.len false (.t 33)),xo 35 (bi .lss 29 34)])
 (cD 35
 .skip
 (.exit 2)))
 (sq (.block 3
 (sq (rd [] (of 0 (mo 38 0)
 (of 1 (mo 39 5)
 (ot 2 (xo 40 (ia 1 38 39))
 (ot 3 (lo 41 40)
 (of 4 (mo 42 6)
 (ot 5 (xo 43 (ia 1 41 42))
 (ot 6 (lo 44 43)
 (of 7 (mo 45 1)
 (of 8 (mo 46 5)
 (ot 9 (xo 47 (ia 1 45 46))
 (ot 10 (lo 48 47)
 (of 11 (mo 49 6)
 (ot 12 (xo 50 (ia 1 48 49))
 (ot 13 (lo 51 50)
 (of 14 (xo 52 (bi .neq 44 51))
 .nil))))))))))))))))
 (cD 52
 (sq (rg [xo 4 (.mov (.b false))])
 .ret)
 .skip)))
 (rg [mo 36 6,xo 37 (bc .add 36 1),mo 6 37]))))))))
 (rg [mo 16 5,xo 17 (bc .add 16 1),mo 5 17]))))))
 (sq (rg [xo 4 (.mov (.b true))])
 .ret))))⟩
theorem qVH:trFn Tryz.prog 34 [([],(fs [0,1,2,3,4,5,6,7,8,9,10] .nil)),([],(fs [0,1,2,3,4,5,6,7,8,9,10,11,12,13,14] .nil))] [[5],[6]]=some qFI:=by kernel_rfl
abbrev qpH:Nat:=35
def qCI:FnI:=⟨26,[.tmp 4],
 (sq (rg [xo 4 (.mov (.b false))])
 (sq (sq (rg [mo 6 0,xo 7 (.len false (.t 6)),mo 8 1,xo 9 (.len false (.t 8)),xo 10 (bi .neq 7 9)])
 (cD 10
 (sq (rg [xo 4 (.mov (.b false))])
 .ret)
 .skip))
 (sq (sq (rg [xo 5 (.mov (ci 0))])
 (.block 0
 (.loop [5] [11,12,13,14,17,18,19,20,21,22,23,24,25,4,15,16,5]
 (sq (sq (rg [mo 11 5,mo 12 0,xo 13 (.len false (.t 12)),xo 14 (bi .lss 11 13)])
 (cD 14
 .skip
 (.exit 0)))
 (sq (.block 1
 (sq (rd [] (of 0 (mo 17 0)
 (of 1 (mo 18 5)
 (ot 2 (xo 19 (ia 3 17 18))
 (ot 3 (xo 20 (lt 3 19))
 (of 4 (mo 21 1)
 (of 5 (mo 22 5)
 (ot 6 (xo 23 (ia 3 21 22))
 (ot 7 (xo 24 (lt 3 23))
 (of 8 (xo 25 (.binst true [0,0,2] (.t 20) (.t 24)))
 .nil))))))))))
 (cD 25
 (sq (rg [xo 4 (.mov (.b false))])
 .ret)
 .skip)))
 (rg [mo 15 5,xo 16 (bc .add 15 1),mo 5 16]))))))
 (sq (rg [xo 4 (.mov (.b true))])
 .ret))))⟩
theorem qSH:trFn Tryz.prog 35 [([],(fs [0,1,2,3,4,5,6,7,8] .nil))] [[5]]=some qCI:=by kernel_rfl
abbrev qUD:Nat:=36
def qbD:FnI:=⟨97,[.tmp 4],
 (sq (rg [xo 2 (.box 67 (.t 0)),xo 3 (.box 67 (.t 1)),xo 4 (.mov (.b false))])
 (sq (sq (rg [fo 7 0 2,xo 8 (lt 3 7),fo 9 0 3,xo 10 (lt 3 9),xo 11 (.call 17 [(.t 8),(.t 10)]),xo 12 (.not (.t 11)),mo 13 12,xg 14 (fa 4 2) 13 false,xg 15 (lf 14) 13 false,xg 16 (fa 4 3) 13 false,xg 17 (lf 16) 13 false,xg 18 (.binb true (.t 15) (.t 17)) 13 false,xo 19 (.pick (.t 13) (.b true) (.t 18)),mo 20 19,xg 21 (fa 3 2) 20 false,xg 22 (lf 21) 20 false,xg 23 (.len false (.t 22)) 20 false,xg 24 (fa 3 3) 20 false,xg 25 (lf 24) 20 false,xg 26 (.len false (.t 25)) 20 false,xg 27 (bi .neq 23 26) 20 false,xo 28 (.pick (.t 20) (.b true) (.t 27))])
 (cD 28
 (sq (rg [xo 4 (.mov (.b false))])
 .ret)
 .skip))
 (sq (sq (rg [xo 5 (.mov (ci 0))])
 (.block 0
 (.loop [5] [29,30,31,32,33,36,37,38,39,40,41,42,43,44,45,46,47,48,49,50,51,52,53,54,55,56,57,58,59,60,61,62,63,64,65,4,6,66,67,68,69,70,71,72,73,74,77,78,79,80,81,82,83,84,85,86,87,88,89,90,91,92,93,94,95,96,75,76,34,35,5]
 (sq (sq (rg [mo 29 5,fo 30 3 2,lo 31 30,xo 32 (.len false (.t 31)),xo 33 (bi .lss 29 32)])
 (cD 33
 .skip
 (.exit 0)))
 (sq (.block 1
 (sq (sq (rd [] (of 0 (fo 36 3 2)
 (ot 1 (lo 37 36)
 (of 2 (mo 38 5)
 (ot 3 (xo 39 (ia 2 37 38))
 (of 4 (fo 40 0 39)
 (ot 5 (lo 41 40)
 (of 6 (fo 42 3 3)
 (ot 7 (lo 43 42)
 (of 8 (mo 44 5)
 (ot 9 (xo 45 (ia 2 43 44))
 (of 10 (fo 46 0 45)
 (ot 11 (lo 47 46)
 (of 12 (xo 48 (bi .neq 41 47))
 (of 13 (mo 49 48)
 (of 14 (xg 50 (fa 3 2) 49 false)
 (ot 15 (xg 51 (lf 50) 49 false)
 (of 16 (xg 52 (mv 5) 49 false)
 (ot 17 (xg 53 (ia 2 51 52) 49 false)
 (of 18 (xg 54 (fa 1 53) 49 false)
 (ot 19 (xg 55 (lf 54) 49 false)
 (of 20 (xg 56 (.len false (.t 55)) 49 false)
 (of 21 (xg 57 (fa 3 3) 49 false)
 (ot 22 (xg 58 (lf 57) 49 false)
 (of 23 (xg 59 (mv 5) 49 false)
 (ot 24 (xg 60 (ia 2 58 59) 49 false)
 (of 25 (xg 61 (fa 1 60) 49 false)
 (ot 26 (xg 62 (lf 61) 49 false)
 (of 27 (xg 63 (.len false (.t 62)) 49 false)
 (of 28 (xg 64 (bi .neq 56 63) 49 false)
 (of 29 (xo 65 (.pick (.t 49) (.b true) (.t 64)))
 .nil)))))))))))))))))))))))))))))))
 (cD 65
 (sq (rg [xo 4 (.mov (.b false))])
 .ret)
 .skip))
 (sq (rg [xo 6 (.mov (ci 0))])
 (.block 2
 (.loop [6] [66,67,68,69,70,71,72,73,74,77,78,79,80,81,82,83,84,85,86,87,88,89,90,91,92,93,94,95,96,4,75,76,6]
 (sq (sq (rg [mo 66 6,fo 67 3 2,lo 68 67,mo 69 5,xo 70 (ia 2 68 69),fo 71 1 70,lo 72 71,xo 73 (.len false (.t 72)),xo 74 (bi .lss 66 73)])
 (cD 74
 .skip
 (.exit 2)))
 (sq (.block 3
 (sq (rd [] (of 0 (fo 77 3 2)
 (ot 1 (lo 78 77)
 (of 2 (mo 79 5)
 (ot 3 (xo 80 (ia 2 78 79))
 (of 4 (fo 81 1 80)
 (ot 5 (lo 82 81)
 (of 6 (mo 83 6)
 (ot 7 (xo 84 (ia 3 82 83))
 (ot 8 (xo 85 (lt 3 84))
 (of 9 (fo 86 3 3)
 (ot 10 (lo 87 86)
 (of 11 (mo 88 5)
 (ot 12 (xo 89 (ia 2 87 88))
 (of 13 (fo 90 1 89)
 (ot 14 (lo 91 90)
 (of 15 (mo 92 6)
 (ot 16 (xo 93 (ia 3 91 92))
 (ot 17 (xo 94 (lt 3 93))
 (of 18 (xo 95 (.call 68 [(.t 85),(.t 94)]))
 (of 19 (xo 96 (.not (.t 95)))
 .nil)))))))))))))))))))))
 (cD 96
 (sq (rg [xo 4 (.mov (.b false))])
 .ret)
 .skip)))
 (rg [mo 75 6,xo 76 (bc .add 75 1),mo 6 76]))))))))
 (rg [mo 34 5,xo 35 (bc .add 34 1),mo 5 35]))))))
 (sq (rg [xo 4 (.mov (.b true))])
 .ret))))⟩
theorem qND:trFn Tryz.prog 36 [([],(fs [0,1,2,3,4,5,6,7,8,9,10,11,12,13,14,15,16,17,18,19,20,21,22,23,24,25,26,27,28,29] .nil)),([],(fs [0,1,2,3,4,5,6,7,8,9,10,11,12,13,14,15,16,17] (.exec 18 (.first 19 .nil))))] [[5],[6]]=some qbD:=by kernel_rfl
abbrev qIF:Nat:=37
def qQF:FnI:=⟨85,[.tmp 4],
 (sq (rg [xo 2 (.box 35 (.t 0)),xo 3 (.box 35 (.t 1)),xo 4 (.mov (.b false))])
 (sq (rg [fo 5 0 2,lo 6 5,fo 7 0 3,lo 8 7,xo 9 (bi .eql 6 8),mo 10 9,xg 11 (fa 1 2) 10 true,xg 12 (lf 11) 10 true,xg 13 (fa 1 3) 10 true,xg 14 (lf 13) 10 true,xg 15 (.bins .eql (.t 12) (.t 14)) 10 true,xo 16 (.pick (.t 10) (.t 15) (.b false)),mo 17 16,xg 18 (fa 2 2) 17 true,xg 19 (lf 18) 17 true,xg 20 (fa 2 3) 17 true,xg 21 (lf 20) 17 true,xg 22 (.bins .eql (.t 19) (.t 21)) 17 true,xo 23 (.pick (.t 17) (.t 22) (.b false)),mo 24 23,xg 25 (fa 3 2) 24 true,xg 26 (lf 25) 24 true,xg 27 (fa 3 3) 24 true,xg 28 (lf 27) 24 true,xg 29 (.bins .eql (.t 26) (.t 28)) 24 true,xo 30 (.pick (.t 24) (.t 29) (.b false)),mo 31 30,xg 32 (fa 4 2) 31 true,xg 33 (lf 32) 31 true,xg 34 (fa 4 3) 31 true,xg 35 (lf 34) 31 true,xg 36 (bi .eql 33 35) 31 true,xo 37 (.pick (.t 31) (.t 36) (.b false)),mo 38 37,xg 39 (fa 5 2) 38 true,xg 40 (lf 39) 38 true,xg 41 (fa 5 3) 38 true,xg 42 (lf 41) 38 true,xg 43 (bi .eql 40 42) 38 true,xo 44 (.pick (.t 38) (.t 43) (.b false)),mo 45 44,xg 46 (fa 6 2) 45 true,xg 47 (lf 46) 45 true,xg 48 (fa 6 3) 45 true,xg 49 (lf 48) 45 true,xg 50 (bi .eql 47 49) 45 true,xo 51 (.pick (.t 45) (.t 50) (.b false)),mo 52 51,xg 53 (fa 7 2) 52 true,xg 54 (fa 0 53) 52 true,xg 55 (lf 54) 52 true,xg 56 (.len false (.t 55)) 52 true,xg 57 (fa 7 3) 52 true,xg 58 (fa 0 57) 52 true,xg 59 (lf 58) 52 true,xg 60 (.len false (.t 59)) 52 true,xg 61 (bi .eql 56 60) 52 true,xo 62 (.pick (.t 52) (.t 61) (.b false)),mo 63 62,xg 64 (fa 7 2) 63 true,xg 65 (fa 1 64) 63 true,xg 66 (lf 65) 63 true,xg 67 (.len false (.t 66)) 63 true,xg 68 (fa 7 3) 63 true,xg 69 (fa 1 68) 63 true,xg 70 (lf 69) 63 true,xg 71 (.len false (.t 70)) 63 true,xg 72 (bi .eql 67 71) 63 true,xo 73 (.pick (.t 63) (.t 72) (.b false)),mo 74 73,xg 75 (fa 7 2) 74 true,xg 76 (fa 2 75) 74 true,xg 77 (lf 76) 74 true,xg 78 (.len false (.t 77)) 74 true,xg 79 (fa 7 3) 74 true,xg 80 (fa 2 79) 74 true,xg 81 (lf 80) 74 true,xg 82 (.len false (.t 81)) 74 true,xg 83 (bi .eql 78 82) 74 true,xo 84 (.pick (.t 74) (.t 83) (.b false)),mo 4 84])
 .ret))⟩
theorem q9E:trFn Tryz.prog 37 [] []=some qQF:=by kernel_rfl
abbrev qRT:Nat:=38
def qcT:FnI:=⟨12,[.tmp 4],
 (sq (rg [xo 4 (.mov (.b false))])
 (sq (rg [mo 5 0,xo 6 (bc .geq 5 0),mo 7 6,xg 8 (mv 0) 7 true,xg 9 (mv 1) 7 true,xg 10 (bi .lss 8 9) 7 true,xo 11 (.pick (.t 7) (.t 10) (.b false)),mo 4 11])
 .ret))⟩
theorem q0S:trFn Tryz.prog 38 [] []=some qcT:=by kernel_rfl
abbrev qjL:Nat:=39
def qpL:FnI:=⟨51,[.tmp 2],
 (sq (rg [xo 1 (.box 28 (.t 0)),xo 2 (.mov (.b false))])
 (sq (rg [fo 4 3 1,lo 5 4,xo 6 (.len false (.t 5)),mo 3 6])
 (sq (sq (rg [mo 7 3,xo 8 (bc .lss 7 1),mo 9 8,xg 10 (mv 3) 9 false,xg 11 (bc .gtr 10 8) 9 false,xo 12 (.pick (.t 9) (.b true) (.t 11)),mo 13 12,xg 14 (fa 6 1) 13 false,xg 15 (lf 14) 13 false,xg 16 (.len false (.t 15)) 13 false,xg 17 (mv 3) 13 false,xg 18 (bi .neq 16 17) 13 false,xo 19 (.pick (.t 13) (.b true) (.t 18)),mo 20 19,xg 21 (fa 6 1) 20 false,xg 22 (lf 21) 20 false,xg 23 (.call 69 [(.t 22)]) 20 false,xg 24 (.not (.t 23)) 20 false,xo 25 (.pick (.t 20) (.b true) (.t 24)),mo 26 25,xg 27 (fa 0 1) 26 false,xg 28 (lf 27) 26 false,xg 29 (bc .lss 28 0) 26 false,xo 30 (.pick (.t 26) (.b true) (.t 29)),mo 31 30,xg 32 (fa 0 1) 31 false,xg 33 (lf 32) 31 false,xg 34 (bc .gtr 33 1000000000000) 31 false,xo 35 (.pick (.t 31) (.b true) (.t 34)),mo 36 35,xg 37 (fa 2 1) 36 false,xg 38 (lf 37) 36 false,xg 39 (bc .neq 38 0) 36 false,xg 40 (mv 39) 36 false,xg 41 (fa 2 1) 40 true,xg 42 (lf 41) 40 true,xg 43 (bc .neq 42 1) 40 true,xg 44 (.pick (.t 40) (.t 43) (.b false)) 36 false,xo 45 (.pick (.t 36) (.b true) (.t 44))])
 (cD 45
 (sq (rg [xo 2 (.mov (.b false))])
 .ret)
 .skip))
 (sq (rg [fo 46 3 1,lo 47 46,xo 48 (.mkf (.func 71) [] [(.t 1)]),xo 49 (.call 70 [(.t 47),(.t 48)]),xo 50 (.not (.t 49)),mo 2 50])
 .ret))))⟩
theorem qaL:trFn Tryz.prog 39 [] []=some qpL:=by kernel_rfl
abbrev q0Q:Nat:=40
def qBR:FnI:=⟨29,[.tmp 2],
 (sq (rg [xo 2 (.mov (.b false))])
 (sq (sq (rg [mo 5 0,xo 6 (.len false (.t 5)),xo 7 (.mov (ci 0))])
 (.block 0
 (.loop [7] [8,9,10,11,4,3,12,13,14,15,16,17,18,19,20,21,22,23,24,25,26,27,2,28,7]
 (sq (rg [xo 8 (bi .lss 7 6)])
 (sq (cD 8
 .skip
 (.exit 0))
 (sq (.block 1
 (sq (rg [mo 9 7,xo 10 (ia 3 5 7),xo 11 (lt 3 10),xo 4 (.alloc 56 [(vi 0),(vi 0),(.v (.bool false))]),mo 3 9,xn (st 3 4 11)])
 (sq (rd [] (of 0 (fo 12 0 4)
 (ot 1 (lo 13 12)
 (of 2 (xo 14 (bc .lss 13 0))
 (of 3 (mo 15 14)
 (of 4 (xg 16 (fa 1 4) 15 false)
 (ot 5 (xg 17 (lf 16) 15 false)
 (of 6 (xg 18 (bc .lss 17 0) 15 false)
 (of 7 (xo 19 (.pick (.t 15) (.b true) (.t 18)))
 (of 8 (mo 20 19)
 (of 9 (xg 21 (mv 0) 20 false)
 (of 10 (xg 22 (mv 3) 20 false)
 (of 11 (xg 23 (.slc 3 (.t 21) none (some (.t 22)) none) 20 false)
 (of 12 (xg 24 (fa 0 4) 20 false)
 (ot 13 (xg 25 (lf 24) 20 false)
 (of 14 (xg 26 (.call 72 [(.t 23),(.t 25)]) 20 false)
 (of 15 (xo 27 (.pick (.t 20) (.b true) (.t 26)))
 .nil)))))))))))))))))
 (cD 27
 (sq (rg [xo 2 (.mov (.b false))])
 .ret)
 .skip))))
 (rg [xo 28 (bc .add 7 1),mo 7 28])))))))
 (sq (rg [xo 2 (.mov (.b true))])
 .ret)))⟩
theorem qYQ:trFn Tryz.prog 40 [([],(fs [0,1,2,3,4,5,6,7,8,9,10,11,12,13] (.exec 14 (.first 15 .nil))))] [[7]]=some qBR:=by kernel_rfl
abbrev q4K:Nat:=41
def qKL:FnI:=⟨50,[.tmp 2],
 (sq (rg [xo 1 (.box 67 (.t 0)),xo 2 (.mov (.b false))])
 (sq (sq (rg [fo 7 0 1,xo 8 (lt 3 7),xo 9 (.call 73 [(.t 8)]),xo 10 (.not (.t 9)),mo 11 10,xg 12 (fa 3 1) 11 false,xg 13 (lf 12) 11 false,xg 14 (.len false (.t 13)) 11 false,xg 15 (fa 0 1) 11 false,xg 16 (fa 2 15) 11 false,xg 17 (lf 16) 11 false,xg 18 (.len false (.t 17)) 11 false,xg 19 (bi .neq 14 18) 11 false,xo 20 (.pick (.t 11) (.b true) (.t 19))])
 (cD 20
 (sq (rg [xo 2 (.mov (.b false))])
 .ret)
 .skip))
 (sq (sq (rg [fo 21 3 1,lo 22 21,xo 23 (.len false (.t 22)),xo 24 (.mov (ci 0))])
 (.block 0
 (.loop [24] [25,26,27,28,4,3,29,30,31,32,33,34,5,35,6,36,37,38,39,40,41,42,43,44,45,46,47,48,2,49,24]
 (sq (rg [xo 25 (bi .lss 24 23)])
 (sq (cD 25
 .skip
 (.exit 0))
 (sq (.block 1
 (sq (rg [mo 26 24,xo 27 (ia 2 22 24),xo 28 (lt 2 27),xo 4 (.alloc 74 [(.v (.int .u64 (0))),(.v (.slice none 0 0))]),mo 3 26,xn (st 2 4 28)])
 (sq (rg [fo 29 0 1,fo 30 2 29,lo 31 30,mo 32 3,xo 33 (ia 4 31 32),xo 34 (lt 4 33),xo 5 (.alloc 77 [(.v (.string ⟨#[]⟩)),(vi 0),(vi 0),(.v (.slice none 0 0))]),xn (st 4 5 34)])
 (sq (rg [xo 35 (.mkf (.func 74) [] [(.t 5)]),mo 6 35])
 (sq (rg [fo 36 1 4,lo 37 36,xo 38 (.len false (.t 37)),fo 39 3 5,lo 40 39,xo 41 (.len false (.t 40)),xo 42 (bi .neq 38 41),mo 43 42,xg 44 (fa 1 4) 43 false,xg 45 (lf 44) 43 false,xg 46 (mv 6) 43 false,xg 47 (.call 75 [(.t 45),(.t 46)]) 43 false,xo 48 (.pick (.t 43) (.b true) (.t 47))])
 (cD 48
 (sq (rg [xo 2 (.mov (.b false))])
 .ret)
 .skip))))))
 (rg [xo 49 (bc .add 24 1),mo 24 49])))))))
 (sq (rg [xo 2 (.mov (.b true))])
 .ret))))⟩
theorem qfK:trFn Tryz.prog 41 [] [[24]]=some qKL:=by kernel_rfl
abbrev q1Q:Nat:=42
def qCR:FnI:=⟨20,[.tmp 2],
 (sq (rg [xo 1 (.box 95 (.t 0)),xo 2 (.mov (.b false))])
 (sq (rg [fo 3 0 1,lo 4 3,xo 5 (.call 76 [(.t 4)]),mo 6 5,xg 7 (fa 2 1) 6 true,xg 8 (lf 7) 6 true,xg 9 (bc .geq 8 0) 6 true,xo 10 (.pick (.t 6) (.t 9) (.b false)),mo 11 10,xg 12 (fa 1 1) 11 true,xg 13 (lf 12) 11 true,xg 14 (mv 13) 11 true,xg 15 (fa 3 1) 14 false,xg 16 (lf 15) 14 false,xg 17 (.not (.t 16)) 14 false,xg 18 (.pick (.t 14) (.b true) (.t 17)) 11 true,xo 19 (.pick (.t 11) (.t 18) (.b false)),mo 2 19])
 .ret))⟩
theorem qZQ:trFn Tryz.prog 42 [] []=some qCR:=by kernel_rfl
abbrev q7M:Nat:=43
def qTN:FnI:=⟨8,[.tmp 4],
 (sq (rg [xo 3 (.box 9 (.t 1)),xo 4 (.mov (ci 0))])
 (sq (rg [mo 5 0,xo 6 (.mkf (.func 78) [] [(.t 3)]),xo 7 (.call 77 [(.t 5),(.t 6)]),mo 4 7])
 .ret))⟩
theorem qdM:trFn Tryz.prog 43 [] []=some qTN:=by kernel_rfl
abbrev qmL:Nat:=44
def qtL:FnI:=⟨35,[.tmp 2,.tmp 3],
 (sq (rg [xo 1 (.box 33 (.t 0)),xo 2 (.mov (ci 0)),xo 3 (.mov (ci 0))])
 (sq (rg [xo 9 (lt 3 1),xo 10 (.build [(.v (.slice none 0 0)),(.v (.slice none 0 0)),(.v (.slice none 0 0))] [(0,3,(.t 9))]),xo 4 (.alloc 144 [(.v (.slice none 0 0)),(.v (.slice none 0 0)),(.v (.slice none 0 0))]),xn (st 3 4 10)])
 (sq (sq (rg [xo 11 (lt 3 4),xo 12 (.mkf (.func 79) [(.t 11)] []),xo 13 (lt 3 4),xo 14 (.mkf (.func 80) [(.t 13)] []),xo 15 (lt 3 4),xo 16 (.mkf (.func 81) [(.t 15)] []),xo 17 (lt 3 4),xo 18 (.mkf (.func 82) [(.t 17)] []),xo 19 (.bsl 145 1 4 [(.v .nilFunc),(.v .nilFunc),(.v .nilFunc),(.v .nilFunc)] [(0,1,(.t 12)),(1,1,(.t 14)),(2,1,(.t 16)),(3,1,(.t 18))]),xo 20 (.len false (.t 19)),xo 21 (.mov (ci 0))])
 (.block 0
 (.loop [21] [22,23,24,6,26,27,25,28,29,7,8,30,31,32,33,2,3,34,21]
 (sq (rg [xo 22 (bi .lss 21 20)])
 (sq (cD 22
 .skip
 (.exit 0))
 (sq (.block 1
 (sq (rg [xo 23 (ia 1 19 21),lo 24 23,mo 6 24])
 (sq (rg [mo 26 6,xo 27 (.callv (.t 26) []),mo 25 27,xo 28 (.ext 0 (.t 25)),xo 29 (.ext 1 (.t 25)),mo 7 28,mo 8 29])
 (sq (rg [mo 30 7,xo 31 (bc .neq 30 0)])
 (cD 31
 (sq (rg [mo 32 7,mo 33 8,mo 2 32,mo 3 33])
 .ret)
 .skip)))))
 (rg [xo 34 (bc .add 21 1),mo 21 34])))))))
 (sq (rg [xo 2 (.mov (ci 0)),xo 3 (.mov (ci 0))])
 .ret))))⟩
theorem qeL:trFn Tryz.prog 44 [] [[21]]=some qtL:=by kernel_rfl
abbrev q5K:Nat:=45
def qLL:FnI:=⟨8,[.tmp 4],
 (sq (rg [xo 3 (.box 9 (.t 1)),xo 4 (.mov (ci 0))])
 (sq (rg [mo 5 0,xo 6 (.mkf (.func 84) [] [(.t 3)]),xo 7 (.call 83 [(.t 5),(.t 6)]),mo 4 7])
 .ret))⟩
theorem qgK:trFn Tryz.prog 45 [] []=some qLL:=by kernel_rfl
abbrev qkL:Nat:=46
def qqL:FnI:=⟨8,[.tmp 4],
 (sq (rg [xo 3 (.box 9 (.t 1)),xo 4 (.mov (ci 0))])
 (sq (rg [mo 5 0,xo 6 (.mkf (.func 86) [] [(.t 3)]),xo 7 (.call 85 [(.t 5),(.t 6)]),mo 4 7])
 .ret))⟩
theorem qbL:trFn Tryz.prog 46 [] []=some qqL:=by kernel_rfl
abbrev qIE:Nat:=47
def qRE:FnI:=⟨26,[.tmp 4],
 (sq (rg [xo 4 (.mov (.b false))])
 (sq (sq (rg [mo 6 0,xo 7 (.len false (.t 6)),mo 8 1,xo 9 (.len false (.t 8)),xo 10 (bi .neq 7 9)])
 (cD 10
 (sq (rg [xo 4 (.mov (.b false))])
 .ret)
 .skip))
 (sq (sq (rg [xo 5 (.mov (ci 0))])
 (.block 0
 (.loop [5] [11,12,13,14,17,18,19,20,21,22,23,24,25,4,15,16,5]
 (sq (sq (rg [mo 11 5,mo 12 0,xo 13 (.len false (.t 12)),xo 14 (bi .lss 11 13)])
 (cD 14
 .skip
 (.exit 0)))
 (sq (.block 1
 (sq (rd [] (of 0 (mo 17 0)
 (of 1 (mo 18 5)
 (ot 2 (xo 19 (ia 1 17 18))
 (ot 3 (lo 20 19)
 (of 4 (mo 21 1)
 (of 5 (mo 22 5)
 (ot 6 (xo 23 (ia 1 21 22))
 (ot 7 (lo 24 23)
 (of 8 (xo 25 (.bins .neq (.t 20) (.t 24)))
 .nil))))))))))
 (cD 25
 (sq (rg [xo 4 (.mov (.b false))])
 .ret)
 .skip)))
 (rg [mo 15 5,xo 16 (bc .add 15 1),mo 5 16]))))))
 (sq (rg [xo 4 (.mov (.b true))])
 .ret))))⟩
theorem q5D:trFn Tryz.prog 47 [([],(fs [0,1,2,3,4,5,6,7,8] .nil))] [[5]]=some qRE:=by kernel_rfl
abbrev qVD:Nat:=48
def qcD:FnI:=⟨97,[.tmp 4],
 (sq (rg [xo 4 (.mov (.b false))])
 (sq (sq (rg [mo 7 0,xo 8 (.len false (.t 7)),mo 9 1,xo 10 (.len false (.t 9)),xo 11 (bi .neq 8 10)])
 (cD 11
 (sq (rg [xo 4 (.mov (.b false))])
 .ret)
 .skip))
 (sq (sq (rg [xo 5 (.mov (ci 0))])
 (.block 0
 (.loop [5] [12,13,14,15,18,19,20,21,22,23,24,25,26,27,28,29,30,31,32,33,34,35,36,37,38,39,40,41,42,43,44,45,46,47,48,49,50,51,52,53,54,55,56,57,58,59,60,61,62,63,64,65,66,67,68,69,4,6,70,71,72,73,74,75,76,77,80,81,82,83,84,85,86,87,88,89,90,91,92,93,94,95,96,78,79,16,17,5]
 (sq (sq (rg [mo 12 5,mo 13 0,xo 14 (.len false (.t 13)),xo 15 (bi .lss 12 14)])
 (cD 15
 .skip
 (.exit 0)))
 (sq (.block 1
 (sq (sq (rd [] (of 0 (mo 18 0)
 (of 1 (mo 19 5)
 (ot 2 (xo 20 (ia 4 18 19))
 (of 3 (fo 21 0 20)
 (ot 4 (lo 22 21)
 (of 5 (mo 23 1)
 (of 6 (mo 24 5)
 (ot 7 (xo 25 (ia 4 23 24))
 (of 8 (fo 26 0 25)
 (ot 9 (lo 27 26)
 (of 10 (xo 28 (.bins .neq (.t 22) (.t 27)))
 (of 11 (mo 29 28)
 (of 12 (xg 30 (mv 0) 29 false)
 (of 13 (xg 31 (mv 5) 29 false)
 (ot 14 (xg 32 (ia 4 30 31) 29 false)
 (of 15 (xg 33 (fa 1 32) 29 false)
 (ot 16 (xg 34 (lf 33) 29 false)
 (of 17 (xg 35 (mv 1) 29 false)
 (of 18 (xg 36 (mv 5) 29 false)
 (ot 19 (xg 37 (ia 4 35 36) 29 false)
 (of 20 (xg 38 (fa 1 37) 29 false)
 (ot 21 (xg 39 (lf 38) 29 false)
 (of 22 (xg 40 (bi .neq 34 39) 29 false)
 (of 23 (xo 41 (.pick (.t 29) (.b true) (.t 40)))
 (of 24 (mo 42 41)
 (of 25 (xg 43 (mv 0) 42 false)
 (of 26 (xg 44 (mv 5) 42 false)
 (ot 27 (xg 45 (ia 4 43 44) 42 false)
 (of 28 (xg 46 (fa 2 45) 42 false)
 (ot 29 (xg 47 (lf 46) 42 false)
 (of 30 (xg 48 (mv 1) 42 false)
 (of 31 (xg 49 (mv 5) 42 false)
 (ot 32 (xg 50 (ia 4 48 49) 42 false)
 (of 33 (xg 51 (fa 2 50) 42 false)
 (ot 34 (xg 52 (lf 51) 42 false)
 (of 35 (xg 53 (bi .neq 47 52) 42 false)
 (of 36 (xo 54 (.pick (.t 42) (.b true) (.t 53)))
 (of 37 (mo 55 54)
 (of 38 (xg 56 (mv 0) 55 false)
 (of 39 (xg 57 (mv 5) 55 false)
 (ot 40 (xg 58 (ia 4 56 57) 55 false)
 (of 41 (xg 59 (fa 3 58) 55 false)
 (ot 42 (xg 60 (lf 59) 55 false)
 (of 43 (xg 61 (.len false (.t 60)) 55 false)
 (of 44 (xg 62 (mv 1) 55 false)
 (of 45 (xg 63 (mv 5) 55 false)
 (ot 46 (xg 64 (ia 4 62 63) 55 false)
 (of 47 (xg 65 (fa 3 64) 55 false)
 (ot 48 (xg 66 (lf 65) 55 false)
 (of 49 (xg 67 (.len false (.t 66)) 55 false)
 (of 50 (xg 68 (bi .neq 61 67) 55 false)
 (of 51 (xo 69 (.pick (.t 55) (.b true) (.t 68)))
 .nil)))))))))))))))))))))))))))))))))))))))))))))))))))))
 (cD 69
 (sq (rg [xo 4 (.mov (.b false))])
 .ret)
 .skip))
 (sq (rg [xo 6 (.mov (ci 0))])
 (.block 2
 (.loop [6] [70,71,72,73,74,75,76,77,80,81,82,83,84,85,86,87,88,89,90,91,92,93,94,95,96,4,78,79,6]
 (sq (sq (rg [mo 70 6,mo 71 0,mo 72 5,xo 73 (ia 4 71 72),fo 74 3 73,lo 75 74,xo 76 (.len false (.t 75)),xo 77 (bi .lss 70 76)])
 (cD 77
 .skip
 (.exit 2)))
 (sq (.block 3
 (sq (rd [] (of 0 (mo 80 0)
 (of 1 (mo 81 5)
 (ot 2 (xo 82 (ia 4 80 81))
 (of 3 (fo 83 3 82)
 (ot 4 (lo 84 83)
 (of 5 (mo 85 6)
 (ot 6 (xo 86 (ia 1 84 85))
 (ot 7 (lo 87 86)
 (of 8 (mo 88 1)
 (of 9 (mo 89 5)
 (ot 10 (xo 90 (ia 4 88 89))
 (of 11 (fo 91 3 90)
 (ot 12 (lo 92 91)
 (of 13 (mo 93 6)
 (ot 14 (xo 94 (ia 1 92 93))
 (ot 15 (lo 95 94)
 (of 16 (xo 96 (.binb true (.t 87) (.t 95)))
 .nil))))))))))))))))))
 (cD 96
 (sq (rg [xo 4 (.mov (.b false))])
 .ret)
 .skip)))
 (rg [mo 78 6,xo 79 (bc .add 78 1),mo 6 79]))))))))
 (rg [mo 16 5,xo 17 (bc .add 16 1),mo 5 17]))))))
 (sq (rg [xo 4 (.mov (.b true))])
 .ret))))⟩
theorem qOD:trFn Tryz.prog 48 [([],(fs [0,1,2,3,4,5,6,7,8,9,10,11,12,13,14,15,16,17,18,19,20,21,22,23,24,25,26,27,28,29,30,31,32,33,34,35,36,37,38,39,40,41,42,43,44,45,46,47,48,49,50,51] .nil)),([],(fs [0,1,2,3,4,5,6,7,8,9,10,11,12,13,14,15,16] .nil))] [[5],[6]]=some qcD:=by kernel_rfl
abbrev qFO:Nat:=49
def qaO:FnI:=⟨19,[.cell 2 1 false,.cell 3 1 false],
 (sq (rg [xo 1 (.box 99 (.t 0)),xo 2 (.alloc 22 [(.v (.slice none 0 0))]),xo 3 (.alloc 61 [(vi 0)])])
 (sq (rg [xo 4 (.alloc 22 [(.v (.slice none 0 0))])])
 (sq (sq (rg [xo 6 (lt 3 1),xo 7 (.call 87 [(.t 6)])])
 (.block 0
 (.rfun (.t 7) [8]
 (rg [mo 5 8])
 (.block 1
 (sq (rg [mo 9 5])
 (.block 2
 (sq (rg [xo 15 (.bini .eql (.t 9) (ci (-2))),mo 14 15])
 (cD 14
 (sq (rg [xn (.store 1 (.t 2) (.c (.slice none 0 0))),xn (.store 1 (.t 3) (ci 11))])
 .ret)
 (sq (rg [xo 17 (.bini .eql (.t 9) (ci (-1))),mo 16 17])
 (cD 16
 .skip
 (rg [lo 10 4,mo 11 5,xo 12 (.bsl 3 1 1 [(vi 0)] [(0,1,(.t 11))]),xo 13 (.app 3 1 8 (.t 10) (.t 12)),xn (st 1 4 13)])))))))))))
 (sq (rg [lo 18 4,xn (st 1 2 18),xn (.store 1 (.t 3) (ci 0))])
 .ret))))⟩
theorem qeN:trFn Tryz.prog 49 [] []=some qaO:=by kernel_rfl
abbrev qyQ:Nat:=50
def q9Q:FnI:=⟨29,[.tmp 2],
 (sq (rg [xo 1 (.box 99 (.t 0)),xo 2 (.mov (.b false))])
 (sq (rg [xo 6 (lt 3 1),xo 7 (.call 49 [(.t 6)]),mo 5 7,xo 8 (.ext 0 (.t 5)),xo 9 (.ext 1 (.t 5)),mo 3 8,mo 4 9])
 (sq (rg [mo 10 4,xo 11 (bc .eql 10 0),mo 12 11,xg 13 (fa 1 1) 12 true,xg 14 (lf 13) 12 true,xg 15 (.len false (.t 14)) 12 true,xg 16 (bc .geq 15 1) 12 true,xo 17 (.pick (.t 12) (.t 16) (.b false)),mo 18 17,xg 19 (fa 1 1) 18 true,xg 20 (lf 19) 18 true,xg 21 (.len false (.t 20)) 18 true,xg 22 (bc .leq 21 4) 18 true,xo 23 (.pick (.t 18) (.t 22) (.b false)),mo 24 23,xg 25 (fa 2 1) 24 true,xg 26 (lf 25) 24 true,xg 27 (bc .geq 26 0) 24 true,xo 28 (.pick (.t 24) (.t 27) (.b false)),mo 2 28])
 .ret)))⟩
theorem qWQ:trFn Tryz.prog 50 [] []=some q9Q:=by kernel_rfl
abbrev qiI:Nat:=51
def qyI:FnI:=⟨34,[.tmp 2],
 (sq (rg [xo 2 (.mov (.b false))])
 (sq (sq (rg [xo 3 (.mov (ci 0))])
 (.block 0
 (.loop [3] [4,5,6,7,8,9,10,11,12,15,16,17,18,19,20,21,22,23,24,25,26,27,28,29,30,2,13,14,3]
 (sq (sq (rg [mo 4 3,mo 5 0,xo 6 (.len false (.t 5)),xo 7 (bi .lss 4 6),mo 8 7,xg 9 (mv 0) 8 true,xg 10 (.len false (.t 9)) 8 true,xg 11 (bc .leq 10 50) 8 true,xo 12 (.pick (.t 8) (.t 11) (.b false))])
 (cD 12
 .skip
 (.exit 0)))
 (sq (.block 1
 (sq (rg [mo 15 0,mo 16 3,xo 17 (ia 4 15 16),fo 18 1 17,lo 19 18,xo 20 (.len true (.t 19)),xo 21 (bc .gtr 20 100),mo 22 21,xg 23 (mv 0) 22 false,xg 24 (mv 3) 22 false,xg 25 (ia 4 23 24) 22 false,xg 26 (fa 2 25) 22 false,xg 27 (lf 26) 22 false,xg 28 (.len true (.t 27)) 22 false,xg 29 (bc .gtr 28 100) 22 false,xo 30 (.pick (.t 22) (.b true) (.t 29))])
 (cD 30
 (sq (rg [xo 2 (.mov (.b true))])
 .ret)
 .skip)))
 (rg [mo 13 3,xo 14 (bc .add 13 1),mo 3 14]))))))
 (sq (rg [mo 31 0,xo 32 (.len false (.t 31)),xo 33 (bc .gtr 32 50),mo 2 33])
 .ret)))⟩
theorem qQI:trFn Tryz.prog 51 [] [[3]]=some qyI:=by kernel_rfl
abbrev qYA:Nat:=52
def qKA:FnI:=⟨9,[.tmp 4],
 (sq (rg [xo 4 (.mov (.b false))])
 (sq (rg [mo 5 0,mo 6 1,xo 7 (.call 88 [(.t 5),(.t 6)]),xo 8 (bc .geq 7 0),mo 4 8])
 .ret))⟩
theorem qXA:trFn Tryz.prog 52 [] []=some qKA:=by kernel_rfl
abbrev q0M:Nat:=53
theorem qCN:FnOk Tryz.prog 53:=FnOk.of (by kernel_rfl)
def qrI:FnI:=⟨9,[.tmp 3],
 (sq (rg [xo 2 (.box 56 (.t 0)),xo 3 (.mov (.b false))])
 (sq (rg [fo 4 0 2,lo 5 4,fo 6 13 1,lo 7 6,xo 8 (bi .eql 5 7),mo 3 8])
 .ret))⟩
theorem qWM:trFn Tryz.prog 53 [] []=some qrI:=by kernel_rfl
abbrev qHE:Nat:=54
def qQE:FnI:=⟨8,[.tmp 2],
 (sq (rg [xo 2 (.mov (.c (.slice none 0 0)))])
 (sq (sq (rg [mo 3 0,xo 4 (.binn 0 false (.t 3))])
 (cD 4
 (sq (rg [xo 2 (.mov (.c (.slice none 0 0)))])
 .ret)
 .skip))
 (sq (rg [xo 5 (.bsl 3 1 0 [] []),mo 6 0,xo 7 (.app 3 1 8 (.t 5) (.t 6)),mo 2 7])
 .ret)))⟩
theorem q4D:trFn Tryz.prog 54 [] []=some qQE:=by kernel_rfl
abbrev qyB:Nat:=55
def qzB:FnI:=⟨29,[.tmp 6],
 (sq (rg [xo 5 (.box 121 (.t 2)),xo 6 (.mov (.c (.slice none 0 0)))])
 (sq (rg [mo 10 0,xo 11 (.len false (.t 10)),xo 12 (.msl 67 5 104 [(.slice none 0 0),(.slice none 0 0),(.slice none 0 0),(.slice none 0 0),(.bool false)] (.t 11) (.t 11)),mo 7 12])
 (sq (sq (rg [mo 13 0,xo 14 (.len false (.t 13)),xo 15 (.mov (ci 0))])
 (.block 0
 (.loop [15] [16,17,18,19,9,8,20,21,22,23,24,25,26,27,15]
 (sq (rg [xo 16 (bi .lss 15 14)])
 (sq (cD 16
 .skip
 (.exit 0))
 (sq (.block 1
 (sq (rg [mo 17 15,xo 18 (ia 5 13 15),xo 19 (lt 5 18),xo 9 (.alloc 67 [(.v (.slice none 0 0)),(.v (.slice none 0 0)),(.v (.slice none 0 0)),(.v (.slice none 0 0)),(.v (.bool false))]),mo 8 17,xn (st 5 9 19)])
 (rg [mo 20 7,mo 21 8,mo 22 1,xo 23 (lt 0 5),xo 24 (lt 5 9),xo 25 (.callv (.t 22) [(.t 23),(.t 24)]),xo 26 (ia 5 20 21),xn (st 5 26 25)])))
 (rg [xo 27 (bc .add 15 1),mo 15 27])))))))
 (sq (rg [mo 28 7,mo 6 28])
 .ret))))⟩
theorem qwB:trFn Tryz.prog 55 [] [[15]]=some qzB:=by kernel_rfl
abbrev qQB:Nat:=56
def quE:FnI:=⟨11,[.cell 4 5 true],
 (sq (rg [xo 2 (.box 121 (.t 0)),xo 3 (.box 67 (.t 1)),xo 4 (.alloc 67 [(.v (.slice none 0 0)),(.v (.slice none 0 0)),(.v (.slice none 0 0)),(.v (.slice none 0 0)),(.v (.bool false))])])
 (sq (rg [fo 5 3 3,lo 6 5,xo 7 (lt 0 2),xo 8 (.call 89 [(.t 6),(.c (.func (.func 90) #[] #[])),(.t 7)]),fo 9 3 3,xn (st 1 9 8)])
 (sq (rg [xo 10 (lt 5 3),xn (st 5 4 10)])
 .ret)))⟩
theorem qcE:trFn Tryz.prog 56 [] []=some quE:=by kernel_rfl
abbrev qmB:Nat:=57
def qoB:FnI:=⟨8,[.tmp 2],
 (sq (rg [xo 2 (.mov (.c (.slice none 0 0)))])
 (sq (sq (rg [mo 3 0,xo 4 (.binn 0 false (.t 3))])
 (cD 4
 (sq (rg [xo 2 (.mov (.c (.slice none 0 0)))])
 .ret)
 .skip))
 (sq (rg [xo 5 (.bsl 95 4 0 [] []),mo 6 0,xo 7 (.app 95 4 40 (.t 5) (.t 6)),mo 2 7])
 .ret)))⟩
theorem qjB:trFn Tryz.prog 57 [] []=some qoB:=by kernel_rfl
abbrev qQC:Nat:=58
def qRC:FnI:=⟨29,[.tmp 6],
 (sq (rg [xo 5 (.box 121 (.t 2)),xo 6 (.mov (.c (.slice none 0 0)))])
 (sq (rg [mo 10 0,xo 11 (.len false (.t 10)),xo 12 (.msl 116 1 24 [(.slice none 0 0)] (.t 11) (.t 11)),mo 7 12])
 (sq (sq (rg [mo 13 0,xo 14 (.len false (.t 13)),xo 15 (.mov (ci 0))])
 (.block 0
 (.loop [15] [16,17,18,19,8,9,20,21,22,23,24,25,26,27,15]
 (sq (rg [xo 16 (bi .lss 15 14)])
 (sq (cD 16
 .skip
 (.exit 0))
 (sq (.block 1
 (sq (rg [mo 17 15,xo 18 (ia 1 13 15),lo 19 18,mo 8 17,mo 9 19])
 (rg [mo 20 7,mo 21 8,mo 22 1,xo 23 (lt 0 5),mo 24 9,xo 25 (.callv (.t 22) [(.t 23),(.t 24)]),xo 26 (ia 1 20 21),xn (st 1 26 25)])))
 (rg [xo 27 (bc .add 15 1),mo 15 27])))))))
 (sq (rg [mo 28 7,mo 6 28])
 .ret))))⟩
theorem qOC:trFn Tryz.prog 58 [] [[15]]=some qRC:=by kernel_rfl
abbrev qEC:Nat:=59
def q2H:FnI:=⟨7,[.tmp 4],
 (sq (rg [xo 2 (.box 121 (.t 0)),xo 4 (.mov (.c (.slice none 0 0)))])
 (sq (rg [mo 5 1,xo 6 (.call 91 [(.t 5)]),mo 4 6])
 .ret))⟩
theorem qHH:trFn Tryz.prog 59 [] []=some q2H:=by kernel_rfl
abbrev qcB:Nat:=60
def qdB:FnI:=⟨8,[.tmp 2],
 (sq (rg [xo 2 (.mov (.c (.slice none 0 0)))])
 (sq (sq (rg [mo 3 0,xo 4 (.binn 0 false (.t 3))])
 (cD 4
 (sq (rg [xo 2 (.mov (.c (.slice none 0 0)))])
 .ret)
 .skip))
 (sq (rg [xo 5 (.bsl 56 3 0 [] []),mo 6 0,xo 7 (.app 56 3 24 (.t 5) (.t 6)),mo 2 7])
 .ret)))⟩
theorem qbB:trFn Tryz.prog 60 [] []=some qdB:=by kernel_rfl
abbrev qzM:Nat:=61
def qQN:FnI:=⟨53,[.cell 2 5 true,.tmp 3],
 (sq (rg [xo 1 (.box 60 (.t 0)),xo 2 (.alloc 67 [(.v (.slice none 0 0)),(.v (.slice none 0 0)),(.v (.slice none 0 0)),(.v (.slice none 0 0)),(.v (.bool false))]),xo 3 (.mov (ci 0))])
 (sq (sq (rg [xo 10 (lt 3 1),xo 11 (.call 73 [(.t 10)]),xo 12 (.not (.t 11))])
 (cD 12
 (sq (rg [xo 13 (.build [(.v (.slice none 0 0)),(.v (.slice none 0 0)),(.v (.slice none 0 0)),(.v (.slice none 0 0)),(.v (.bool false))] []),xn (st 5 2 13),xo 3 (.mov (ci 1))])
 .ret)
 .skip))
 (sq (rg [xo 14 (lt 3 1),xo 15 (.build [(.v (.slice none 0 0)),(.v (.slice none 0 0)),(.v (.slice none 0 0)),(.v (.slice none 0 0)),(.v (.bool false))] [(0,3,(.t 14))]),xo 4 (.alloc 67 [(.v (.slice none 0 0)),(.v (.slice none 0 0)),(.v (.slice none 0 0)),(.v (.slice none 0 0)),(.v (.bool false))]),xn (st 5 4 15)])
 (sq (sq (rg [fo 16 2 1,lo 17 16,xo 18 (.len false (.t 17)),xo 19 (.mov (ci 0))])
 (.block 0
 (.loop [19] [20,21,22,6,7,23,24,25,26,27,29,30,31,28,32,33,8,9,34,35,36,37,3,38,39,40,41,42,43,44,45,46,47,48,49,50,51,19]
 (sq (rg [xo 20 (bi .lss 19 18)])
 (sq (cD 20
 .skip
 (.exit 0))
 (sq (.block 1
 (sq (rg [xo 21 (ia 4 17 19),xo 22 (lt 4 21),xo 6 (.alloc 77 [(.v (.string ⟨#[]⟩)),(vi 0),(vi 0),(.v (.slice none 0 0))]),xn (st 4 6 22)])
 (sq (rg [xo 7 (.alloc 74 [(.v (.int .u64 (0))),(.v (.slice none 0 0))])])
 (sq (sq (rg [fo 23 3 6,lo 24 23,xo 25 (.len false (.t 24)),xo 26 (.mov (ci 0))])
 (.block 2
 (.loop [26] [27,29,30,31,28,32,33,8,9,34,35,36,37,3,38,39,40,41,42,43,44,26]
 (sq (rg [xo 27 (bi .lss 26 25)])
 (sq (cD 27
 .skip
 (.exit 2))
 (sq (.block 3
 (sq (rg [fo 29 2 6,lo 30 29,xo 31 (.call 92 [(.t 30)]),mo 28 31,xo 32 (.ext 0 (.t 28)),xo 33 (.ext 1 (.t 28)),xo 8 (.alloc 99 [(.v (.int .u64 (0))),(.v (.slice none 0 0)),(vi 0)]),xn (st 3 8 32),mo 9 33])
 (sq (sq (rg [mo 34 9,xo 35 (bc .neq 34 0)])
 (cD 35
 (sq (rg [xo 36 (.build [(.v (.slice none 0 0)),(.v (.slice none 0 0)),(.v (.slice none 0 0)),(.v (.slice none 0 0)),(.v (.bool false))] []),mo 37 9,xn (st 5 2 36),mo 3 37])
 .ret)
 .skip))
 (rg [fo 38 1 7,lo 39 38,xo 40 (lt 3 8),xo 41 (.bsl 99 3 1 [(.v (.int .u64 (0))),(.v (.slice none 0 0)),(vi 0)] [(0,3,(.t 40))]),xo 42 (.app 99 3 40 (.t 39) (.t 41)),fo 43 1 7,xn (st 1 43 42)]))))
 (rg [xo 44 (bc .add 26 1),mo 26 44])))))))
 (rg [fo 45 3 4,lo 46 45,xo 47 (lt 2 7),xo 48 (.bsl 74 2 1 [(.v (.int .u64 (0))),(.v (.slice none 0 0))] [(0,2,(.t 47))]),xo 49 (.app 74 2 32 (.t 46) (.t 48)),fo 50 3 4,xn (st 1 50 49)])))))
 (rg [xo 51 (bc .add 19 1),mo 19 51])))))))
 (sq (rg [xo 52 (lt 5 4),xn (st 5 2 52),xo 3 (.mov (ci 0))])
 .ret)))))⟩
theorem qVM:trFn Tryz.prog 61 [] [[19],[26]]=some qQN:=by kernel_rfl
theorem qnL:FnOk Tryz.prog 62:=FnOk.of (by kernel_rfl)
abbrev qXJ:Nat:=63
def qjJ:FnI:=⟨97,[.tmp 2],
 (sq (rg [xo 1 (.box 28 (.t 0)),xo 2 (.mov (.b false))])
 (sq (sq (rg [fo 4 3 1,lo 5 4,xo 6 (.len false (.t 5)),xo 7 (bc .lss 6 1),mo 8 7,xg 9 (fa 3 1) 8 false,xg 10 (lf 9) 8 false,xg 11 (.len false (.t 10)) 8 false,xg 12 (bc .gtr 11 8) 8 false,xo 13 (.pick (.t 8) (.b true) (.t 12)),mo 14 13,xg 15 (fa 6 1) 14 false,xg 16 (lf 15) 14 false,xg 17 (.len false (.t 16)) 14 false,xg 18 (fa 3 1) 14 false,xg 19 (lf 18) 14 false,xg 20 (.len false (.t 19)) 14 false,xg 21 (bi .neq 17 20) 14 false,xo 22 (.pick (.t 14) (.b true) (.t 21)),mo 23 22,xg 24 (fa 6 1) 23 false,xg 25 (lf 24) 23 false,xg 26 (.call 93 [(.t 25)]) 23 false,xg 27 (.not (.t 26)) 23 false,xo 28 (.pick (.t 23) (.b true) (.t 27)),mo 29 28,xg 30 (fa 0 1) 29 false,xg 31 (lf 30) 29 false,xg 32 (bc .lss 31 0) 29 false,xo 33 (.pick (.t 29) (.b true) (.t 32)),mo 34 33,xg 35 (fa 0 1) 34 false,xg 36 (lf 35) 34 false,xg 37 (bc .gtr 36 1000000000000) 34 false,xo 38 (.pick (.t 34) (.b true) (.t 37)),mo 39 38,xg 40 (fa 2 1) 39 false,xg 41 (lf 40) 39 false,xg 42 (bc .lss 41 0) 39 false,xo 43 (.pick (.t 39) (.b true) (.t 42)),mo 44 43,xg 45 (fa 2 1) 44 false,xg 46 (lf 45) 44 false,xg 47 (bc .gtr 46 1) 44 false,xo 48 (.pick (.t 44) (.b true) (.t 47))])
 (cD 48
 (sq (rg [xo 2 (.mov (.b false))])
 .ret)
 .skip))
 (sq (sq (rg [xo 3 (.mov (ci 0))])
 (.block 0
 (.loop [3] [49,50,51,52,53,56,57,58,59,60,61,62,63,64,65,66,67,68,69,70,71,72,2,54,55,3]
 (sq (sq (rg [mo 49 3,fo 50 3 1,lo 51 50,xo 52 (.len false (.t 51)),xo 53 (bi .lss 49 52)])
 (cD 53
 .skip
 (.exit 0)))
 (sq (.block 1
 (sq (rd [] (of 0 (fo 56 3 1)
 (ot 1 (lo 57 56)
 (of 2 (mo 58 3)
 (ot 3 (xo 59 (ia 1 57 58))
 (ot 4 (lo 60 59)
 (of 5 (xo 61 (bc .lss 60 0))
 (of 6 (mo 62 61)
 (of 7 (xg 63 (fa 3 1) 62 false)
 (ot 8 (xg 64 (lf 63) 62 false)
 (of 9 (xg 65 (mv 3) 62 false)
 (ot 10 (xg 66 (ia 1 64 65) 62 false)
 (ot 11 (xg 67 (lf 66) 62 false)
 (of 12 (xg 68 (fa 0 1) 62 false)
 (ot 13 (xg 69 (lf 68) 62 false)
 (of 14 (xg 70 (bc .add 69 1) 62 false)
 (of 15 (xg 71 (bi .gtr 67 70) 62 false)
 (of 16 (xo 72 (.pick (.t 62) (.b true) (.t 71)))
 .nil))))))))))))))))))
 (cD 72
 (sq (rg [xo 2 (.mov (.b false))])
 .ret)
 .skip)))
 (rg [mo 54 3,xo 55 (bc .add 54 1),mo 3 55]))))))
 (sq (sq (rg [fo 73 1 1,lo 74 73,xo 75 (bc .lss 74 0),mo 76 75,xg 77 (fa 1 1) 76 false,xg 78 (lf 77) 76 false,xg 79 (fa 4 1) 76 false,xg 80 (lf 79) 76 false,xg 81 (.len false (.t 80)) 76 false,xg 82 (bi .geq 78 81) 76 false,xo 83 (.pick (.t 76) (.b true) (.t 82)),mo 84 83,xg 85 (lt 8 1) 84 false,xg 86 (.call 94 [(.t 85)]) 84 false,xg 87 (.not (.t 86)) 84 false,xo 88 (.pick (.t 84) (.b true) (.t 87))])
 (cD 88
 (sq (rg [xo 2 (.mov (.b false))])
 .ret)
 .skip))
 (sq (rg [fo 89 4 1,lo 90 89,fo 91 1 1,lo 92 91,xo 93 (ia 5 90 92),fo 94 4 93,lo 95 94,xo 96 (.not (.t 95)),mo 2 96])
 .ret)))))⟩
theorem qDJ:trFn Tryz.prog 63 [([],(fs [0,1,2,3,4,5,6,7,8,9,10,11,12,13,14,15,16] .nil))] [[3]]=some qjJ:=by kernel_rfl
abbrev qWJ:Nat:=64
def qiJ:FnI:=⟨12,[.tmp 4],
 (sq (rg [xo 4 (.mov (.b false))])
 (sq (rg [mo 5 0,xo 6 (bc .geq 5 0),mo 7 6,xg 8 (mv 0) 7 true,xg 9 (mv 1) 7 true,xg 10 (bi .lss 8 9) 7 true,xo 11 (.pick (.t 7) (.t 10) (.b false)),mo 4 11])
 .ret))⟩
theorem qCJ:trFn Tryz.prog 64 [] []=some qiJ:=by kernel_rfl
abbrev qmG:Nat:=65
def q1G:FnI:=⟨58,[.cell 2 3 true,.tmp 3,.tmp 4],
 (sq (rg [xo 1 (.box 33 (.t 0)),xo 2 (.alloc 60 [(.v (.slice none 0 0)),(.v (.slice none 0 0)),(.v (.slice none 0 0))]),xo 3 (.mov (ci 0)),xo 4 (.mov (ci 0))])
 (sq (rg [xo 11 (lt 3 1),xo 12 (.call 95 [(.t 11)]),mo 10 12,xo 13 (.ext 0 (.t 10)),xo 14 (.ext 1 (.t 10)),mo 5 13,mo 6 14])
 (sq (sq (rg [mo 15 5,xo 16 (bc .neq 15 0)])
 (cD 16
 (sq (rg [xo 17 (.build [(.v (.slice none 0 0)),(.v (.slice none 0 0)),(.v (.slice none 0 0))] []),mo 18 5,mo 19 6,xn (st 3 2 17),mo 3 18,mo 4 19])
 .ret)
 .skip))
 (sq (rg [fo 20 0 1,lo 21 20,fo 22 2 1,lo 23 22,xo 24 (.build [(.v (.slice none 0 0)),(.v (.slice none 0 0)),(.v (.slice none 0 0))] [(0,1,(.t 21)),(2,1,(.t 23))]),xo 7 (.alloc 60 [(.v (.slice none 0 0)),(.v (.slice none 0 0)),(.v (.slice none 0 0))]),xn (st 3 7 24)])
 (sq (sq (rg [xo 8 (.mov (ci 0))])
 (.block 0
 (.loop [8] [25,26,27,28,29,32,33,34,35,36,9,37,38,39,40,41,42,44,45,46,47,48,49,50,51,43,52,53,54,55,56,30,31,8]
 (sq (sq (rg [mo 25 8,fo 26 1 1,lo 27 26,xo 28 (.len false (.t 27)),xo 29 (bi .lss 25 28)])
 (cD 29
 .skip
 (.exit 0)))
 (sq (.block 1
 (sq (rg [fo 32 1 1,lo 33 32,mo 34 8,xo 35 (ia 4 33 34),xo 36 (lt 4 35),xo 9 (.alloc 79 [(.v (.string ⟨#[]⟩)),(.v (.string ⟨#[]⟩)),(.v (.string ⟨#[]⟩)),(.v (.string ⟨#[]⟩))]),xn (st 4 9 36)])
 (rd [] (of 0 (fo 37 1 7)
 (ot 1 (lo 38 37)
 (of 2 (fo 39 0 1)
 (ot 3 (lo 40 39)
 (of 4 (fo 41 0 9)
 (ot 5 (lo 42 41)
 (of 7 (fo 44 1 9)
 (ot 8 (lo 45 44)
 (of 9 (fo 46 2 9)
 (ot 10 (lo 47 46)
 (of 11 (fo 48 2 1)
 (ot 12 (lo 49 48)
 (of 13 (fo 50 3 9)
 (ot 14 (lo 51 50)
 (of 6 (xo 43 (.call 96 [(.t 40),(.t 42)]))
 (of 15 (xo 52 (.call 97 [(.t 49),(.t 51)]))
 (of 16 (xo 53 (.build [(vi 0),(.v (.string ⟨#[]⟩)),(.v (.string ⟨#[]⟩)),(vi 0)] [(0,1,(.t 43)),(1,1,(.t 45)),(2,1,(.t 47)),(3,1,(.t 52))]))
 (of 17 (xo 54 (.bsl 110 4 1 [(vi 0),(.v (.string ⟨#[]⟩)),(.v (.string ⟨#[]⟩)),(vi 0)] [(0,4,(.t 53))]))
 (of 18 (xo 55 (.app 110 4 48 (.t 38) (.t 54)))
 (of 19 (fo 56 1 7)
 (of 20 (xn (st 1 56 55))
 .nil))))))))))))))))))))))))
 (rg [mo 30 8,xo 31 (bc .add 30 1),mo 8 31]))))))
 (sq (rg [xo 57 (lt 3 7),xn (st 3 2 57),xo 3 (.mov (ci 0)),xo 4 (.mov (ci 0))])
 .ret))))))⟩
theorem qXG:trFn Tryz.prog 65 [([],(fs [0,1,2,3,4,5,7,8,9,10,11,12,13,14] (.exec 6 (.exec 15 (.first 16 (.exec 17 (.exec 18 (.first 19 (.exec 20 .nil)))))))))] [[8]]=some q1G:=by kernel_rfl
abbrev qiG:Nat:=66
def qxG:FnI:=⟨58,[.cell 2 5 true,.tmp 3],
 (sq (rg [xo 1 (.box 60 (.t 0)),xo 2 (.alloc 67 [(.v (.slice none 0 0)),(.v (.slice none 0 0)),(.v (.slice none 0 0)),(.v (.slice none 0 0)),(.v (.bool false))]),xo 3 (.mov (ci 0))])
 (sq (sq (rg [xo 10 (lt 3 1),xo 11 (.call 98 [(.t 10)]),xo 12 (.not (.t 11))])
 (cD 12
 (sq (rg [xo 13 (.build [(.v (.slice none 0 0)),(.v (.slice none 0 0)),(.v (.slice none 0 0)),(.v (.slice none 0 0)),(.v (.bool false))] []),xn (st 5 2 13),xo 3 (.mov (ci 1))])
 .ret)
 .skip))
 (sq (rg [xo 14 (lt 3 1),xo 15 (.build [(.v (.slice none 0 0)),(.v (.slice none 0 0)),(.v (.slice none 0 0)),(.v (.slice none 0 0)),(.v (.bool false))] [(0,3,(.t 14))]),xo 4 (.alloc 67 [(.v (.slice none 0 0)),(.v (.slice none 0 0)),(.v (.slice none 0 0)),(.v (.slice none 0 0)),(.v (.bool false))]),xn (st 5 4 15)])
 (sq (sq (rg [xo 5 (.mov (ci 0))])
 (.block 0
 (.loop [5] [16,17,18,19,20,23,6,7,24,25,26,27,28,29,30,31,32,36,37,38,39,40,41,42,35,43,44,8,9,45,46,47,48,49,50,33,34,51,52,53,54,55,56,21,22,5]
 (sq (sq (rg [mo 16 5,fo 17 2 1,lo 18 17,xo 19 (.len false (.t 18)),xo 20 (bi .lss 16 19)])
 (cD 20
 .skip
 (.exit 0)))
 (sq (.block 1
 (sq (rg [xo 23 (.build [(.v (.int .u64 (0))),(.v (.slice none 0 0))] []),xo 6 (.alloc 74 [(.v (.int .u64 (0))),(.v (.slice none 0 0))]),xn (st 2 6 23)])
 (sq (sq (rg [xo 7 (.mov (ci 0))])
 (.block 2
 (.loop [7] [24,25,26,27,28,29,30,31,32,36,37,38,39,40,41,42,35,43,44,8,9,45,46,47,48,49,50,33,34,7]
 (sq (sq (rg [mo 24 7,fo 25 2 1,lo 26 25,mo 27 5,xo 28 (ia 4 26 27),fo 29 3 28,lo 30 29,xo 31 (.len false (.t 30)),xo 32 (bi .lss 24 31)])
 (cD 32
 .skip
 (.exit 2)))
 (sq (.block 3
 (sq (rg [fo 36 2 1,lo 37 36,mo 38 5,xo 39 (ia 4 37 38),fo 40 2 39,lo 41 40,xo 42 (.call 99 [(.t 41)]),mo 35 42,xo 43 (.ext 0 (.t 35)),xo 44 (.ext 1 (.t 35)),xo 8 (.alloc 99 [(.v (.int .u64 (0))),(.v (.slice none 0 0)),(vi 0)]),xn (st 3 8 43),mo 9 44])
 (rg [fo 45 1 6,lo 46 45,xo 47 (lt 3 8),xo 48 (.bsl 99 3 1 [(.v (.int .u64 (0))),(.v (.slice none 0 0)),(vi 0)] [(0,3,(.t 47))]),xo 49 (.app 99 3 40 (.t 46) (.t 48)),fo 50 1 6,xn (st 1 50 49)])))
 (rg [mo 33 7,xo 34 (bc .add 33 1),mo 7 34]))))))
 (rg [fo 51 3 4,lo 52 51,xo 53 (lt 2 6),xo 54 (.bsl 74 2 1 [(.v (.int .u64 (0))),(.v (.slice none 0 0))] [(0,2,(.t 53))]),xo 55 (.app 74 2 32 (.t 52) (.t 54)),fo 56 3 4,xn (st 1 56 55)]))))
 (rg [mo 21 5,xo 22 (bc .add 21 1),mo 5 22]))))))
 (sq (rg [xo 57 (lt 5 4),xn (st 5 2 57),xo 3 (.mov (ci 0))])
 .ret)))))⟩
theorem qTG:trFn Tryz.prog 66 [] [[5],[7]]=some qxG:=by kernel_rfl
abbrev qXP:Nat:=67
def qnP:FnI:=⟨64,[.cell 6 8 true,.tmp 7],
 (sq (rg [xo 3 (.box 60 (.t 0)),xo 6 (.alloc 28 [(vi 0),(vi 0),(vi 0),(.v (.slice none 0 0)),(.v (.slice none 0 0)),(.v (.slice none 0 0)),(.v (.slice none 0 0)),(.v (.slice none 0 0))]),xo 7 (.mov (ci 0))])
 (sq (rg [xo 15 (lt 3 3),xo 16 (.call 61 [(.t 15)]),mo 14 16,xo 17 (.ext 0 (.t 14)),xo 18 (.ext 1 (.t 14)),xo 8 (.alloc 67 [(.v (.slice none 0 0)),(.v (.slice none 0 0)),(.v (.slice none 0 0)),(.v (.slice none 0 0)),(.v (.bool false))]),xn (st 5 8 17),mo 9 18])
 (sq (sq (rg [mo 19 9,xo 20 (bc .neq 19 0)])
 (cD 20
 (sq (rg [xo 21 (.build [(vi 0),(vi 0),(vi 0),(.v (.slice none 0 0)),(.v (.slice none 0 0)),(.v (.slice none 0 0)),(.v (.slice none 0 0)),(.v (.slice none 0 0))] []),mo 22 9,xn (st 8 6 21),mo 7 22])
 .ret)
 .skip))
 (sq (rg [mo 24 2,xo 25 (.call 100 [(.t 24)]),mo 23 25,xo 26 (.ext 0 (.t 23)),xo 27 (.ext 1 (.t 23)),mo 10 26,mo 9 27])
 (sq (sq (rg [mo 28 9,xo 29 (bc .neq 28 0)])
 (cD 29
 (sq (rg [xo 30 (.build [(vi 0),(vi 0),(vi 0),(.v (.slice none 0 0)),(.v (.slice none 0 0)),(.v (.slice none 0 0)),(.v (.slice none 0 0)),(.v (.slice none 0 0))] []),mo 31 9,xn (st 8 6 30),mo 7 31])
 .ret)
 .skip))
 (sq (rd [11] (ot 0 (xo 32 (lt 5 8))
 (of 2 (mo 34 2)
 (of 4 (mo 36 10)
 (.alt (of 1 (xo 33 (.bsl 67 5 1 [(.v (.slice none 0 0)),(.v (.slice none 0 0)),(.v (.slice none 0 0)),(.v (.slice none 0 0)),(.v (.bool false))] [(0,5,(.t 32))]))
 (of 3 (xo 35 (.msl 3 1 8 [(.int .i64 (0))] (.t 34) (.t 34)))
 (of 5 (xo 37 (.build [(vi 0),(vi 0),(vi 0),(.v (.slice none 0 0)),(.v (.slice none 0 0)),(.v (.slice none 0 0)),(.v (.slice none 0 0)),(.v (.slice none 0 0))] [(4,1,(.t 33)),(3,1,(.t 35)),(6,1,(.t 36))]))
 (.bring ⟨6,false,[],xo 11 (.alloc 28 [(vi 0),(vi 0),(vi 0),(.v (.slice none 0 0)),(.v (.slice none 0 0)),(.v (.slice none 0 0)),(.v (.slice none 0 0)),(.v (.slice none 0 0))])⟩
 (of 7 (xn (st 8 11 37))
 .nil)))))
 (of 3 (xo 35 (.msl 3 1 8 [(.int .i64 (0))] (.t 34) (.t 34)))
 (of 1 (xo 33 (.bsl 67 5 1 [(.v (.slice none 0 0)),(.v (.slice none 0 0)),(.v (.slice none 0 0)),(.v (.slice none 0 0)),(.v (.bool false))] [(0,5,(.t 32))]))
 (of 5 (xo 37 (.build [(vi 0),(vi 0),(vi 0),(.v (.slice none 0 0)),(.v (.slice none 0 0)),(.v (.slice none 0 0)),(.v (.slice none 0 0)),(.v (.slice none 0 0))] [(4,1,(.t 33)),(3,1,(.t 35)),(6,1,(.t 36))]))
 (.bring ⟨6,false,[],xo 11 (.alloc 28 [(vi 0),(vi 0),(vi 0),(.v (.slice none 0 0)),(.v (.slice none 0 0)),(.v (.slice none 0 0)),(.v (.slice none 0 0)),(.v (.slice none 0 0))])⟩
 (of 7 (xn (st 8 11 37))
 .nil))))))))))
 (sq (sq (rg [mo 38 1,xo 39 (.len false (.t 38)),xo 40 (.mov (ci 0))])
 (.block 0
 (.loop [40] [41,42,43,13,44,45,46,47,48,49,50,51,52,53,54,7,55,56,57,58,59,60,61,62,40]
 (sq (rg [xo 41 (bi .lss 40 39)])
 (sq (cD 41
 .skip
 (.exit 0))
 (sq (.block 1
 (sq (rg [xo 42 (ia 1 38 40),lo 43 42,mo 13 43])
 (sq (sq (rg [mo 44 13,xo 45 (.call 76 [(.t 44)]),xo 46 (.not (.t 45)),mo 47 46,xg 48 (fa 5 11) 47 false,xg 49 (lf 48) 47 false,xg 50 (mv 13) 47 false,xg 51 (.call 43 [(.t 49),(.t 50)]) 47 false,xg 52 (bc .geq 51 0) 47 false,xo 53 (.pick (.t 47) (.b true) (.t 52))])
 (cD 53
 (sq (rg [xo 54 (.build [(vi 0),(vi 0),(vi 0),(.v (.slice none 0 0)),(.v (.slice none 0 0)),(.v (.slice none 0 0)),(.v (.slice none 0 0)),(.v (.slice none 0 0))] []),xn (st 8 6 54),xo 7 (.mov (ci 1))])
 .ret)
 .skip))
 (rg [fo 55 5 11,lo 56 55,mo 57 13,xo 58 (.build [(.v (.string ⟨#[]⟩)),(.v (.bool false)),(vi 0),(.v (.bool false))] [(0,1,(.t 57))]),xo 59 (.bsl 95 4 1 [(.v (.string ⟨#[]⟩)),(.v (.bool false)),(vi 0),(.v (.bool false))] [(0,4,(.t 58))]),xo 60 (.app 95 4 40 (.t 56) (.t 59)),fo 61 5 11,xn (st 1 61 60)]))))
 (rg [xo 62 (bc .add 40 1),mo 40 62])))))))
 (sq (rg [xo 63 (lt 8 11),xn (st 8 6 63),xo 7 (.mov (ci 0))])
 .ret))))))))⟩
theorem qxO:trFn Tryz.prog 67 [([6],(fs [0,2,4] (.alt (.exec 1 (.exec 3 (.first 5 (.bring 6 (.exec 7 .nil))))) (.exec 3 (.exec 1 (.first 5 (.bring 6 (.exec 7 .nil))))))))] [[40]]=some qnP:=by kernel_rfl
abbrev qqH:Nat:=68
def qDI:FnI:=⟨45,[.tmp 4],
 (sq (rg [xo 2 (.box 99 (.t 0)),xo 3 (.box 99 (.t 1)),xo 4 (.mov (.b false))])
 (sq (sq (rg [fo 6 0 2,lo 7 6,fo 8 0 3,lo 9 8,xo 10 (bi .neq 7 9),mo 11 10,xg 12 (fa 2 2) 11 false,xg 13 (lf 12) 11 false,xg 14 (fa 2 3) 11 false,xg 15 (lf 14) 11 false,xg 16 (bi .neq 13 15) 11 false,xo 17 (.pick (.t 11) (.b true) (.t 16)),mo 18 17,xg 19 (fa 1 2) 18 false,xg 20 (lf 19) 18 false,xg 21 (.len false (.t 20)) 18 false,xg 22 (fa 1 3) 18 false,xg 23 (lf 22) 18 false,xg 24 (.len false (.t 23)) 18 false,xg 25 (bi .neq 21 24) 18 false,xo 26 (.pick (.t 18) (.b true) (.t 25))])
 (cD 26
 (sq (rg [xo 4 (.mov (.b false))])
 .ret)
 .skip))
 (sq (sq (rg [xo 5 (.mov (ci 0))])
 (.block 0
 (.loop [5] [27,28,29,30,31,34,35,36,37,38,39,40,41,42,43,44,4,32,33,5]
 (sq (sq (rg [mo 27 5,fo 28 1 2,lo 29 28,xo 30 (.len false (.t 29)),xo 31 (bi .lss 27 30)])
 (cD 31
 .skip
 (.exit 0)))
 (sq (.block 1
 (sq (rd [] (of 0 (fo 34 1 2)
 (ot 1 (lo 35 34)
 (of 2 (mo 36 5)
 (ot 3 (xo 37 (ia 1 35 36))
 (ot 4 (lo 38 37)
 (of 5 (fo 39 1 3)
 (ot 6 (lo 40 39)
 (of 7 (mo 41 5)
 (ot 8 (xo 42 (ia 1 40 41))
 (ot 9 (lo 43 42)
 (of 10 (xo 44 (bi .neq 38 43))
 .nil))))))))))))
 (cD 44
 (sq (rg [xo 4 (.mov (.b false))])
 .ret)
 .skip)))
 (rg [mo 32 5,xo 33 (bc .add 32 1),mo 5 33]))))))
 (sq (rg [xo 4 (.mov (.b true))])
 .ret))))⟩
theorem qTH:trFn Tryz.prog 68 [([],(fs [0,1,2,3,4,5,6,7,8,9,10] .nil))] [[5]]=some qDI:=by kernel_rfl
abbrev qzQ:Nat:=69
def qAR:FnI:=⟨23,[.tmp 2],
 (sq (rg [xo 2 (.mov (.b false))])
 (sq (sq (rg [mo 5 0,xo 6 (.len false (.t 5)),xo 7 (.mov (ci 0))])
 (.block 0
 (.loop [7] [8,9,10,4,11,12,13,2,14,7]
 (sq (rg [xo 8 (bi .lss 7 6)])
 (sq (cD 8
 .skip
 (.exit 0))
 (sq (.block 1
 (sq (rg [xo 9 (ia 1 5 7),lo 10 9,mo 4 10])
 (sq (rg [mo 11 4,xo 12 (.len false (.t 11)),xo 13 (bc .neq 12 6)])
 (cD 13
 (sq (rg [xo 2 (.mov (.b false))])
 .ret)
 .skip))))
 (rg [xo 14 (bc .add 7 1),mo 7 14])))))))
 (sq (rg [mo 15 0,xo 16 (.len false (.t 15)),xo 17 (bc .geq 16 1),mo 18 17,xg 19 (mv 0) 18 true,xg 20 (.len false (.t 19)) 18 true,xg 21 (bc .leq 20 8) 18 true,xo 22 (.pick (.t 18) (.t 21) (.b false)),mo 2 22])
 .ret)))⟩
theorem qXQ:trFn Tryz.prog 69 [] [[7]]=some qAR:=by kernel_rfl
abbrev qrC:Nat:=70
def qHB:FnI:=⟨9,[.tmp 4],
 (sq (rg [xo 4 (.mov (.b false))])
 (sq (rg [mo 5 0,mo 6 1,xo 7 (.call 101 [(.t 5),(.t 6)]),xo 8 (bc .geq 7 0),mo 4 8])
 .ret))⟩
theorem qlC:trFn Tryz.prog 70 [] []=some qHB:=by kernel_rfl
abbrev qGK:Nat:=71
theorem qKK:FnOk Tryz.prog 71:=FnOk.of (by kernel_rfl)
def q5E:FnI:=⟨13,[.tmp 3],
 (sq (rg [xo 3 (.mov (.b false))])
 (sq (rg [mo 4 0,xo 5 (bc .lss 4 0),mo 6 5,xg 7 (mv 0) 6 false,xg 8 (fa 0 1) 6 false,xg 9 (lf 8) 6 false,xg 10 (bc .add 9 1) 6 false,xg 11 (bi .gtr 7 10) 6 false,xo 12 (.pick (.t 6) (.b true) (.t 11)),mo 3 12])
 .ret))⟩
theorem qCK:trFn Tryz.prog 71 [] []=some q5E:=by kernel_rfl
abbrev qeP:Nat:=72
def quP:FnI:=⟨8,[.tmp 4],
 (sq (rg [xo 3 (.box 3 (.t 1)),xo 4 (.mov (.b false))])
 (sq (rg [mo 5 0,xo 6 (.mkf (.func 102) [] [(.t 3)]),xo 7 (.call 52 [(.t 5),(.t 6)]),mo 4 7])
 .ret))⟩
theorem q4O:trFn Tryz.prog 72 [] []=some quP:=by kernel_rfl
abbrev qKS:Nat:=73
def qXS:FnI:=⟨13,[.tmp 2],
 (sq (rg [xo 1 (.box 60 (.t 0)),xo 2 (.mov (.b false))])
 (sq (rg [xo 6 (lt 3 1),xo 7 (.call 103 [(.t 6)]),xo 8 (.call 44 [(.t 7)]),mo 5 8,xo 9 (.ext 0 (.t 5)),xo 10 (.ext 1 (.t 5)),mo 3 9,mo 4 10])
 (sq (rg [mo 11 3,xo 12 (bc .eql 11 0),mo 2 12])
 .ret)))⟩
theorem qZR:trFn Tryz.prog 73 [] []=some qXS:=by kernel_rfl
abbrev qUJ:Nat:=74
theorem qdJ:FnOk Tryz.prog 74:=FnOk.of (by kernel_rfl)
def qOE:FnI:=⟨15,[.tmp 3],
 (sq (rg [xo 2 (.box 99 (.t 0)),xo 3 (.mov (.b false))])
 (sq (rg [xo 4 (lt 3 2),xo 5 (.call 50 [(.t 4)]),xo 6 (.not (.t 5)),mo 7 6,xg 8 (fa 1 2) 7 false,xg 9 (lf 8) 7 false,xg 10 (.len false (.t 9)) 7 false,xg 11 (fa 2 1) 7 false,xg 12 (lf 11) 7 false,xg 13 (bi .neq 10 12) 7 false,xo 14 (.pick (.t 7) (.b true) (.t 13)),mo 3 14])
 .ret))⟩
theorem qAJ:trFn Tryz.prog 74 [] []=some qOE:=by kernel_rfl
abbrev qhB:Nat:=75
def qqA:FnI:=⟨9,[.tmp 4],
 (sq (rg [xo 4 (.mov (.b false))])
 (sq (rg [mo 5 0,mo 6 1,xo 7 (.call 104 [(.t 5),(.t 6)]),xo 8 (bc .geq 7 0),mo 4 8])
 .ret))⟩
theorem qeB:trFn Tryz.prog 75 [] []=some qqA:=by kernel_rfl
abbrev qIO:Nat:=76
def qcO:FnI:=⟨21,[.tmp 2],
 (sq (rg [xo 2 (.mov (.b false))])
 (sq (rg [mo 3 0,xo 4 (.len true (.t 3)),xo 5 (bc .gtr 4 0),mo 6 5,xg 7 (mv 0) 6 true,xg 8 (.len true (.t 7)) 6 true,xg 9 (bc .leq 8 16) 6 true,xo 10 (.pick (.t 6) (.t 9) (.b false)),mo 11 10,xg 12 (mv 0) 11 true,xg 13 (.idxs (.t 12) (ci 0)) 11 true,xg 14 (.call 105 [(.t 13)]) 11 true,xo 15 (.pick (.t 11) (.t 14) (.b false)),mo 16 15,xg 17 (.call 106 []) 16 true,xg 18 (mv 0) 16 true,xg 19 (.call 107 [(.t 17),(.t 18),(.c (.int .u8 (45)))]) 16 true,xo 20 (.pick (.t 16) (.t 19) (.b false)),mo 2 20])
 .ret))⟩
theorem qhN:trFn Tryz.prog 76 [] []=some qcO:=by kernel_rfl
abbrev qTB:Nat:=77
def qkA:FnI:=⟨19,[.tmp 4],
 (sq (rg [xo 4 (.mov (ci 0))])
 (sq (sq (rg [mo 6 0,xo 7 (.len false (.t 6)),xo 8 (.mov (ci 0))])
 (.block 0
 (.loop [8] [9,10,5,11,12,13,14,15,16,17,4,18,8]
 (sq (rg [xo 9 (bi .lss 8 7)])
 (sq (cD 9
 .skip
 (.exit 0))
 (sq (.block 1
 (sq (rg [mo 10 8,mo 5 10])
 (sq (rg [mo 11 1,mo 12 0,mo 13 5,xo 14 (ia 4 12 13),xo 15 (lt 4 14),xo 16 (.callv (.t 11) [(.t 15)])])
 (cD 16
 (sq (rg [mo 17 5,mo 4 17])
 .ret)
 .skip))))
 (rg [xo 18 (bc .add 8 1),mo 8 18])))))))
 (sq (rg [xo 4 (.mov (ci (-1)))])
 .ret)))⟩
theorem qSB:trFn Tryz.prog 77 [] [[8]]=some qkA:=by kernel_rfl
abbrev q9K:Nat:=78
theorem qGL:FnOk Tryz.prog 78:=FnOk.of (by kernel_rfl)
def q9F:FnI:=⟨8,[.tmp 3],
 (sq (rg [xo 2 (.box 95 (.t 0)),xo 3 (.mov (.b false))])
 (sq (rg [fo 4 0 2,lo 5 4,lo 6 1,xo 7 (.bins .eql (.t 5) (.t 6)),mo 3 7])
 .ret))⟩
theorem qkK:trFn Tryz.prog 78 [] []=some q9F:=by kernel_rfl
abbrev qgC:Nat:=79
theorem qhC:FnOk Tryz.prog 79:=FnOk.of (by kernel_rfl)
def qXF:FnI:=⟨26,[.tmp 2,.tmp 3],
 (sq (rg [xo 1 (.box 144 (.t 0)),xo 2 (.mov (ci 0)),xo 3 (.mov (ci 0))])
 (sq (sq (rg [fo 4 0 1,fo 5 0 4,lo 6 5,xo 7 (.len false (.t 6)),xo 8 (.call 108 [(.t 7),(ci 1),(ci 4)]),xo 9 (.not (.t 8)),mo 10 9,xg 11 (fa 0 1) 10 false,xg 12 (fa 1 11) 10 false,xg 13 (lf 12) 10 false,xg 14 (.len false (.t 13)) 10 false,xg 15 (.call 108 [(.t 14),(ci 1),(ci 8)]) 10 false,xg 16 (.not (.t 15)) 10 false,xo 17 (.pick (.t 10) (.b true) (.t 16)),mo 18 17,xg 19 (fa 0 1) 18 false,xg 20 (fa 2 19) 18 false,xg 21 (lf 20) 18 false,xg 22 (.len false (.t 21)) 18 false,xg 23 (.call 108 [(.t 22),(ci 1),(ci 4)]) 18 false,xg 24 (.not (.t 23)) 18 false,xo 25 (.pick (.t 18) (.b true) (.t 24))])
 (cD 25
 (sq (rg [xo 2 (.mov (ci 6)),xo 3 (.mov (ci 0))])
 .ret)
 .skip))
 (sq (rg [xo 2 (.mov (ci 0)),xo 3 (.mov (ci 0))])
 .ret)))⟩
theorem qGF:trFn Tryz.prog 79 [] []=some qXF:=by kernel_rfl
abbrev q6B:Nat:=80
theorem q7B:FnOk Tryz.prog 80:=FnOk.of (by kernel_rfl)
def qvD:FnI:=⟨30,[.tmp 2,.tmp 3],
 (sq (rg [xo 1 (.box 144 (.t 0)),xo 2 (.mov (ci 0)),xo 3 (.mov (ci 0))])
 (sq (sq (rg [fo 6 0 1,fo 7 0 6,lo 8 7,xo 9 (.len false (.t 8)),xo 10 (.mov (ci 0))])
 (.block 0
 (.loop [10] [11,12,13,14,4,5,16,17,18,15,19,2,3,21,22,23,24,25,26,27,20,28,29,10]
 (sq (rg [xo 11 (bi .lss 10 9)])
 (sq (cD 11
 .skip
 (.exit 0))
 (sq (.block 1
 (sq (rg [mo 12 10,xo 13 (ia 1 8 10),lo 14 13,mo 4 12,mo 5 14])
 (.block 2
 (sq (rg [mo 16 5,xo 17 (.call 76 [(.t 16)]),xo 18 (.not (.t 17)),mo 15 18])
 (cD 15
 (sq (rg [mo 19 4,xo 2 (.mov (ci 3)),mo 3 19])
 .ret)
 (sq (rg [fo 21 0 1,fo 22 0 21,lo 23 22,mo 24 4,xo 25 (.slc 1 (.t 23) none (some (.t 24)) none),mo 26 5,xo 27 (.call 109 [(.t 25),(.t 26)]),mo 20 27])
 (cD 20
 (sq (rg [mo 28 4,xo 2 (.mov (ci 4)),mo 3 28])
 .ret)
 .skip)))))))
 (rg [xo 29 (bc .add 10 1),mo 10 29])))))))
 (sq (rg [xo 2 (.mov (ci 0)),xo 3 (.mov (ci 0))])
 .ret)))⟩
theorem quD:trFn Tryz.prog 80 [] [[10]]=some qvD:=by kernel_rfl
abbrev quB:Nat:=81
theorem qvB:FnOk Tryz.prog 81:=FnOk.of (by kernel_rfl)
def qjD:FnI:=⟨55,[.tmp 2,.tmp 3],
 (sq (rg [xo 1 (.box 144 (.t 0)),xo 2 (.mov (ci 0)),xo 3 (.mov (ci 0))])
 (sq (sq (rg [fo 6 0 1,fo 7 2 6,lo 8 7,xo 9 (.len false (.t 8)),xo 10 (.mov (ci 0))])
 (.block 0
 (.loop [10] [11,12,13,14,5,4,16,17,18,19,15,20,2,3,22,23,24,25,26,27,28,29,21,30,32,33,34,35,36,37,38,39,31,40,42,43,44,45,41,46,48,49,50,51,52,47,53,54,10]
 (sq (rg [xo 11 (bi .lss 10 9)])
 (sq (cD 11
 .skip
 (.exit 0))
 (sq (.block 1
 (sq (rg [mo 12 10,xo 13 (ia 4 8 10),xo 14 (lt 4 13),xo 5 (.alloc 77 [(.v (.string ⟨#[]⟩)),(vi 0),(vi 0),(.v (.slice none 0 0))]),mo 4 12,xn (st 4 5 14)])
 (.block 2
 (sq (rg [fo 16 0 5,lo 17 16,xo 18 (.call 76 [(.t 17)]),xo 19 (.not (.t 18)),mo 15 19])
 (cD 15
 (sq (rg [mo 20 4,xo 2 (.mov (ci 3)),mo 3 20])
 .ret)
 (sq (rd [] (of 0 (fo 22 0 1)
 (of 1 (fo 23 2 22)
 (ot 2 (lo 24 23)
 (of 3 (mo 25 4)
 (of 4 (xo 26 (.slc 4 (.t 24) none (some (.t 25)) none))
 (of 5 (fo 27 0 5)
 (ot 6 (lo 28 27)
 (of 7 (xo 29 (.call 110 [(.t 26),(.t 28)]))
 (of 8 (mo 21 29)
 .nil))))))))))
 (cD 21
 (sq (rg [mo 30 4,xo 2 (.mov (ci 4)),mo 3 30])
 .ret)
 (sq (rg [fo 32 1 5,lo 33 32,xo 34 (bc .neq 33 1),mo 35 34,xg 36 (fa 1 5) 35 true,xg 37 (lf 36) 35 true,xg 38 (bc .neq 37 2) 35 true,xo 39 (.pick (.t 35) (.t 38) (.b false)),mo 31 39])
 (cD 31
 (sq (rg [mo 40 4,xo 2 (.mov (ci 9)),mo 3 40])
 .ret)
 (sq (rg [fo 42 2 5,lo 43 42,xo 44 (.call 108 [(.t 43),(ci 1),(ci 4)]),xo 45 (.not (.t 44)),mo 41 45])
 (cD 41
 (sq (rg [mo 46 4,xo 2 (.mov (ci 10)),mo 3 46])
 .ret)
 (sq (rg [fo 48 3 5,lo 49 48,xo 50 (.len false (.t 49)),xo 51 (.call 108 [(.t 50),(ci 1),(ci 4)]),xo 52 (.not (.t 51)),mo 47 52])
 (cD 47
 (sq (rg [mo 53 4,xo 2 (.mov (ci 6)),mo 3 53])
 .ret)
 .skip)))))))))))))
 (rg [xo 54 (bc .add 10 1),mo 10 54])))))))
 (sq (rg [xo 2 (.mov (ci 0)),xo 3 (.mov (ci 0))])
 .ret)))⟩
theorem qhD:trFn Tryz.prog 81 [([],(fs [0,1,2,3,4,5,6] (.exec 7 (.first 8 .nil))))] [[10]]=some qjD:=by kernel_rfl
abbrev qLC:Nat:=82
theorem qMC:FnOk Tryz.prog 82:=FnOk.of (by kernel_rfl)
def qUE:FnI:=⟨65,[.tmp 2,.tmp 3],
 (sq (rg [xo 1 (.box 144 (.t 0)),xo 2 (.mov (ci 0)),xo 3 (.mov (ci 0))])
 (sq (sq (rg [fo 8 0 1,fo 9 1 8,lo 10 9,xo 11 (.len false (.t 10)),xo 12 (.mov (ci 0))])
 (.block 0
 (.loop [12] [13,14,15,16,5,4,18,19,20,21,22,23,24,17,25,2,3,27,28,29,30,26,31,33,34,35,36,32,37,39,40,41,42,43,44,45,38,46,47,48,49,50,51,52,53,54,55,56,57,7,58,59,60,61,62,63,64,12]
 (sq (rg [xo 13 (bi .lss 12 11)])
 (sq (cD 13
 .skip
 (.exit 0))
 (sq (.block 1
 (sq (rg [mo 14 12,xo 15 (ia 4 10 12),xo 16 (lt 4 15),xo 5 (.alloc 79 [(.v (.string ⟨#[]⟩)),(.v (.string ⟨#[]⟩)),(.v (.string ⟨#[]⟩)),(.v (.string ⟨#[]⟩))]),mo 4 14,xn (st 4 5 16)])
 (sq (.block 2
 (sq (rg [fo 18 0 1,fo 19 0 18,lo 20 19,fo 21 0 5,lo 22 21,xo 23 (.call 109 [(.t 20),(.t 22)]),xo 24 (.not (.t 23)),mo 17 24])
 (cD 17
 (sq (rg [mo 25 4,xo 2 (.mov (ci 5)),mo 3 25])
 .ret)
 (sq (rg [fo 27 1 5,lo 28 27,xo 29 (.call 111 [(.t 28)]),xo 30 (.not (.t 29)),mo 26 30])
 (cD 26
 (sq (rg [mo 31 4,xo 2 (.mov (ci 7)),mo 3 31])
 .ret)
 (sq (rg [fo 33 2 5,lo 34 33,xo 35 (.call 112 [(.t 34)]),xo 36 (.not (.t 35)),mo 32 36])
 (cD 32
 (sq (rg [mo 37 4,xo 2 (.mov (ci 8)),mo 3 37])
 .ret)
 (sq (rg [fo 39 0 1,fo 40 2 39,lo 41 40,fo 42 3 5,lo 43 42,xo 44 (.call 110 [(.t 41),(.t 43)]),xo 45 (.not (.t 44)),mo 38 45])
 (cD 38
 (sq (rg [mo 46 4,xo 2 (.mov (ci 5)),mo 3 46])
 .ret)
 .skip)))))))))
 (sq (rg [fo 47 3 5,xn (.store 1 (.t 47) (.c (.string ⟨#[]⟩)))])
 (sq (rg [fo 48 0 1,fo 49 1 48,lo 50 49,mo 51 4,xo 52 (.slc 4 (.t 50) none (some (.t 51)) none),xo 53 (.len false (.t 52)),xo 54 (.mov (ci 0))])
 (.block 3
 (.loop [54] [55,56,57,7,58,59,60,61,62,2,3,63,54]
 (sq (rg [xo 55 (bi .lss 54 53)])
 (sq (cD 55
 .skip
 (.exit 3))
 (sq (.block 4
 (sq (rg [xo 56 (ia 4 52 54),xo 57 (lt 4 56),xo 7 (.alloc 79 [(.v (.string ⟨#[]⟩)),(.v (.string ⟨#[]⟩)),(.v (.string ⟨#[]⟩)),(.v (.string ⟨#[]⟩))]),xn (st 4 7 57)])
 (sq (rg [fo 58 3 7,xn (.store 1 (.t 58) (.c (.string ⟨#[]⟩)))])
 (sq (rg [xo 59 (lt 4 7),xo 60 (lt 4 5),xo 61 (.binst false [1,1,1,1] (.t 59) (.t 60))])
 (cD 61
 (sq (rg [mo 62 4,xo 2 (.mov (ci 4)),mo 3 62])
 .ret)
 .skip)))))
 (rg [xo 63 (bc .add 54 1),mo 54 63])))))))))))
 (rg [xo 64 (bc .add 12 1),mo 12 64])))))))
 (sq (rg [xo 2 (.mov (ci 0)),xo 3 (.mov (ci 0))])
 .ret)))⟩
theorem q8D:trFn Tryz.prog 82 [] [[12],[54]]=some qUE:=by kernel_rfl
abbrev qjH:Nat:=83
def qaD:FnI:=⟨19,[.tmp 4],
 (sq (rg [xo 4 (.mov (ci 0))])
 (sq (sq (rg [mo 7 0,xo 8 (.len false (.t 7)),xo 9 (.mov (ci 0))])
 (.block 0
 (.loop [9] [10,11,12,13,5,6,14,15,16,17,4,18,9]
 (sq (rg [xo 10 (bi .lss 9 8)])
 (sq (cD 10
 .skip
 (.exit 0))
 (sq (.block 1
 (sq (rg [mo 11 9,xo 12 (ia 1 7 9),lo 13 12,mo 5 11,mo 6 13])
 (sq (rg [mo 14 1,mo 15 6,xo 16 (.callv (.t 14) [(.t 15)])])
 (cD 16
 (sq (rg [mo 17 5,mo 4 17])
 .ret)
 .skip))))
 (rg [xo 18 (bc .add 9 1),mo 9 18])))))))
 (sq (rg [xo 4 (.mov (ci (-1)))])
 .ret)))⟩
theorem qLH:trFn Tryz.prog 83 [] [[9]]=some qaD:=by kernel_rfl
abbrev qVJ:Nat:=84
theorem qeJ:FnOk Tryz.prog 84:=FnOk.of (by kernel_rfl)
def qPE:FnI:=⟨7,[.tmp 3],
 (sq (rg [xo 3 (.mov (.b false))])
 (sq (rg [mo 4 0,lo 5 1,xo 6 (.bins .eql (.t 4) (.t 5)),mo 3 6])
 .ret))⟩
theorem qBJ:trFn Tryz.prog 84 [] []=some qPE:=by kernel_rfl
abbrev qGE:Nat:=85
def qNC:FnI:=⟨19,[.tmp 4],
 (sq (rg [xo 4 (.mov (ci 0))])
 (sq (sq (rg [mo 7 0,xo 8 (.len false (.t 7)),xo 9 (.mov (ci 0))])
 (.block 0
 (.loop [9] [10,11,12,13,6,5,14,15,16,17,4,18,9]
 (sq (rg [xo 10 (bi .lss 9 8)])
 (sq (cD 10
 .skip
 (.exit 0))
 (sq (.block 1
 (sq (rg [mo 11 9,xo 12 (ia 4 7 9),xo 13 (lt 4 12),xo 6 (.alloc 77 [(.v (.string ⟨#[]⟩)),(vi 0),(vi 0),(.v (.slice none 0 0))]),mo 5 11,xn (st 4 6 13)])
 (sq (rg [mo 14 1,xo 15 (lt 4 6),xo 16 (.callv (.t 14) [(.t 15)])])
 (cD 16
 (sq (rg [mo 17 5,mo 4 17])
 .ret)
 .skip))))
 (rg [xo 18 (bc .add 9 1),mo 9 18])))))))
 (sq (rg [xo 4 (.mov (ci (-1)))])
 .ret)))⟩
theorem q3D:trFn Tryz.prog 85 [] [[9]]=some qNC:=by kernel_rfl
abbrev qHK:Nat:=86
theorem qLK:FnOk Tryz.prog 86:=FnOk.of (by kernel_rfl)
def q6E:FnI:=⟨8,[.tmp 3],
 (sq (rg [xo 2 (.box 77 (.t 0)),xo 3 (.mov (.b false))])
 (sq (rg [fo 4 0 2,lo 5 4,lo 6 1,xo 7 (.bins .eql (.t 5) (.t 6)),mo 3 7])
 .ret))⟩
theorem qDK:trFn Tryz.prog 86 [] []=some q6E:=by kernel_rfl
abbrev q3M:Nat:=87
def qtI:FnI:=⟨4,[.tmp 2],
 (sq (rg [xo 1 (.box 99 (.t 0)),xo 2 (.mov (.c .nilFunc))])
 (sq (rg [xo 3 (.mkf (.func 113) [] [(.t 1)]),mo 2 3])
 .ret))⟩
theorem qZM:trFn Tryz.prog 87 [] []=some qtI:=by kernel_rfl
abbrev qfA:Nat:=88
def qOA:FnI:=⟨19,[.tmp 4],
 (sq (rg [xo 4 (.mov (ci 0))])
 (sq (sq (rg [mo 6 0,xo 7 (.len false (.t 6)),xo 8 (.mov (ci 0))])
 (.block 0
 (.loop [8] [9,10,5,11,12,13,14,15,16,17,4,18,8]
 (sq (rg [xo 9 (bi .lss 8 7)])
 (sq (cD 9
 .skip
 (.exit 0))
 (sq (.block 1
 (sq (rg [mo 10 8,mo 5 10])
 (sq (rg [mo 11 1,mo 12 0,mo 13 5,xo 14 (ia 3 12 13),xo 15 (lt 3 14),xo 16 (.callv (.t 11) [(.t 15)])])
 (cD 16
 (sq (rg [mo 17 5,mo 4 17])
 .ret)
 .skip))))
 (rg [xo 18 (bc .add 8 1),mo 8 18])))))))
 (sq (rg [xo 4 (.mov (ci (-1)))])
 .ret)))⟩
theorem qeA:trFn Tryz.prog 88 [] [[8]]=some qOA:=by kernel_rfl
abbrev qDC:Nat:=89
def qHC:FnI:=⟨29,[.tmp 6],
 (sq (rg [xo 5 (.box 121 (.t 2)),xo 6 (.mov (.c (.slice none 0 0)))])
 (sq (rg [mo 10 0,xo 11 (.len false (.t 10)),xo 12 (.msl 74 2 32 [(.int .u64 (0)),(.slice none 0 0)] (.t 11) (.t 11)),mo 7 12])
 (sq (sq (rg [mo 13 0,xo 14 (.len false (.t 13)),xo 15 (.mov (ci 0))])
 (.block 0
 (.loop [15] [16,17,18,19,9,8,20,21,22,23,24,25,26,27,15]
 (sq (rg [xo 16 (bi .lss 15 14)])
 (sq (cD 16
 .skip
 (.exit 0))
 (sq (.block 1
 (sq (rg [mo 17 15,xo 18 (ia 2 13 15),xo 19 (lt 2 18),xo 9 (.alloc 74 [(.v (.int .u64 (0))),(.v (.slice none 0 0))]),mo 8 17,xn (st 2 9 19)])
 (rg [mo 20 7,mo 21 8,mo 22 1,xo 23 (lt 0 5),xo 24 (lt 2 9),xo 25 (.callv (.t 22) [(.t 23),(.t 24)]),xo 26 (ia 2 20 21),xn (st 2 26 25)])))
 (rg [xo 27 (bc .add 15 1),mo 15 27])))))))
 (sq (rg [mo 28 7,mo 6 28])
 .ret))))⟩
theorem qCC:trFn Tryz.prog 89 [] [[15]]=some qHC:=by kernel_rfl
abbrev qgB:Nat:=90
def q3F:FnI:=⟨11,[.cell 4 2 true],
 (sq (rg [xo 2 (.box 121 (.t 0)),xo 3 (.box 74 (.t 1)),xo 4 (.alloc 74 [(.v (.int .u64 (0))),(.v (.slice none 0 0))])])
 (sq (rg [fo 5 1 3,lo 6 5,xo 7 (lt 0 2),xo 8 (.call 115 [(.t 6),(.c (.func (.func 116) #[] #[])),(.t 7)]),fo 9 1 3,xn (st 1 9 8)])
 (sq (rg [xo 10 (lt 2 3),xn (st 2 4 10)])
 .ret)))⟩
theorem qcF:trFn Tryz.prog 90 [] []=some q3F:=by kernel_rfl
abbrev q6C:Nat:=91
def q8C:FnI:=⟨8,[.tmp 2],
 (sq (rg [xo 2 (.mov (.c (.slice none 0 0)))])
 (sq (sq (rg [mo 3 0,xo 4 (.binn 0 false (.t 3))])
 (cD 4
 (sq (rg [xo 2 (.mov (.c (.slice none 0 0)))])
 .ret)
 .skip))
 (sq (rg [xo 5 (.bsl 36 1 0 [] []),mo 6 0,xo 7 (.app 36 1 8 (.t 5) (.t 6)),mo 2 7])
 .ret)))⟩
theorem q2C:trFn Tryz.prog 91 [] []=some q8C:=by kernel_rfl
abbrev q4M:Nat:=92
def qSN:FnI:=⟨40,[.cell 2 3 true,.tmp 3],
 (sq (rg [xo 2 (.alloc 99 [(.v (.int .u64 (0))),(.v (.slice none 0 0)),(vi 0)]),xo 3 (.mov (ci 0))])
 (sq (sq (rg [mo 6 0,xo 7 (bc .lss 6 1),mo 8 7,xg 9 (mv 0) 8 false,xg 10 (bc .gtr 9 4) 8 false,xo 11 (.pick (.t 8) (.b true) (.t 10))])
 (cD 11
 (sq (rg [xo 12 (.build [(.v (.int .u64 (0))),(.v (.slice none 0 0)),(vi 0)] []),xn (st 3 2 12),xo 3 (.mov (ci 1))])
 .ret)
 .skip))
 (sq (rg [mo 13 0,xo 14 (.msl 3 1 8 [(.int .i64 (0))] (.t 13) (.t 13)),xo 15 (.build [(.v (.int .u64 (0))),(.v (.slice none 0 0)),(vi 0)] [(1,1,(.t 14))]),xo 4 (.alloc 99 [(.v (.int .u64 (0))),(.v (.slice none 0 0)),(vi 0)]),xn (st 3 4 15)])
 (sq (sq (rg [fo 16 1 4,lo 17 16,xo 18 (.len false (.t 17)),xo 19 (.mov (ci 0))])
 (.block 0
 (.loop [19] [20,21,5,22,23,24,25,26,27,28,19]
 (sq (rg [xo 20 (bi .lss 19 18)])
 (sq (cD 20
 .skip
 (.exit 0))
 (sq (.block 1
 (sq (rg [mo 21 19,mo 5 21])
 (rg [fo 22 1 4,lo 23 22,mo 24 5,mo 25 5,xo 26 (bc .add 25 1),xo 27 (ia 1 23 24),xn (st 1 27 26)])))
 (rg [xo 28 (bc .add 19 1),mo 19 28])))))))
 (sq (rg [fo 29 1 4,lo 30 29,mo 31 0,xo 32 (bc .sub 31 1),xo 33 (ia 1 30 32),xn (.store 1 (.t 33) (ci (-1)))])
 (sq (rg [xo 35 (.call 117 [(.c (.int .u32 (0))),(ci 0)]),mo 34 35,xo 36 (.ext 0 (.t 34)),xo 37 (.ext 1 (.t 34)),fo 38 0 4,xn (st 1 38 36)])
 (sq (rg [xo 39 (lt 3 4),xn (st 3 2 39),xo 3 (.mov (ci 0))])
 .ret)))))))⟩
theorem qaM:trFn Tryz.prog 92 [] [[19]]=some qSN:=by kernel_rfl
abbrev qbJ:Nat:=93
def qnJ:FnI:=⟨24,[.tmp 2],
 (sq (rg [xo 2 (.mov (.b false))])
 (sq (sq (rg [xo 3 (.mov (ci 0))])
 (.block 0
 (.loop [3] [4,5,6,7,10,11,12,13,14,15,2,8,9,3]
 (sq (sq (rg [mo 4 3,mo 5 0,xo 6 (.len false (.t 5)),xo 7 (bi .lss 4 6)])
 (cD 7
 .skip
 (.exit 0)))
 (sq (.block 1
 (sq (rg [mo 10 0,mo 11 3,xo 12 (ia 1 10 11),lo 13 12,xo 14 (.len false (.t 13)),xo 15 (bc .neq 14 6)])
 (cD 15
 (sq (rg [xo 2 (.mov (.b false))])
 .ret)
 .skip)))
 (rg [mo 8 3,xo 9 (bc .add 8 1),mo 3 9]))))))
 (sq (rg [mo 16 0,xo 17 (.len false (.t 16)),xo 18 (bc .geq 17 1),mo 19 18,xg 20 (mv 0) 19 true,xg 21 (.len false (.t 20)) 19 true,xg 22 (bc .leq 21 8) 19 true,xo 23 (.pick (.t 19) (.t 22) (.b false)),mo 2 23])
 .ret)))⟩
theorem qHJ:trFn Tryz.prog 93 [] [[3]]=some qnJ:=by kernel_rfl
abbrev qgG:Nat:=94
def qvG:FnI:=⟨101,[.tmp 2],
 (sq (rg [xo 1 (.box 28 (.t 0)),xo 2 (.mov (.b false))])
 (sq (sq (rg [xo 3 (.mov (ci 0))])
 (.block 0
 (.loop [3] [7,8,9,10,11,14,15,16,17,18,19,20,21,22,23,24,25,26,27,28,29,31,30,32,33,2,12,13,3]
 (sq (sq (rg [mo 7 3,fo 8 5 1,lo 9 8,xo 10 (.len false (.t 9)),xo 11 (bi .lss 7 10)])
 (cD 11
 .skip
 (.exit 0)))
 (sq (.block 1
 (sq (rd [] (of 0 (fo 14 5 1)
 (ot 1 (lo 15 14)
 (of 2 (mo 16 3)
 (ot 3 (xo 17 (ia 4 15 16))
 (ot 4 (xo 18 (lt 4 17))
 (of 5 (xo 19 (.call 118 [(.t 18)]))
 (of 6 (xo 20 (.not (.t 19)))
 (of 7 (mo 21 20)
 (of 8 (xg 22 (fa 5 1) 21 false)
 (ot 9 (xg 23 (lf 22) 21 false)
 (of 10 (xg 24 (fa 5 1) 21 false)
 (ot 11 (xg 25 (lf 24) 21 false)
 (of 12 (xg 26 (mv 3) 21 false)
 (ot 13 (xg 27 (ia 4 25 26) 21 false)
 (of 14 (xg 28 (fa 0 27) 21 false)
 (ot 15 (xg 29 (lf 28) 21 false)
 (of 17 (xg 31 (mv 3) 21 false)
 (of 16 (xg 30 (.call 119 [(.t 23),(.t 29)]) 21 false)
 (of 18 (xg 32 (bi .neq 30 31) 21 false)
 (of 19 (xo 33 (.pick (.t 21) (.b true) (.t 32)))
 .nil)))))))))))))))))))))
 (cD 33
 (sq (rg [xo 2 (.mov (.b false))])
 .ret)
 .skip)))
 (rg [mo 12 3,xo 13 (bc .add 12 1),mo 3 13]))))))
 (sq (sq (rg [xo 4 (.mov (ci 0))])
 (.block 2
 (.loop [4] [34,35,36,37,38,41,42,43,44,45,46,47,48,49,50,51,52,53,54,55,56,57,58,59,60,2,39,40,4]
 (sq (sq (rg [mo 34 4,fo 35 4 1,lo 36 35,xo 37 (.len false (.t 36)),xo 38 (bi .lss 34 37)])
 (cD 38
 .skip
 (.exit 2)))
 (sq (.block 3
 (sq (rd [] (of 0 (fo 41 4 1)
 (ot 1 (lo 42 41)
 (of 2 (mo 43 4)
 (ot 3 (xo 44 (ia 5 42 43))
 (ot 4 (xo 45 (lt 5 44))
 (of 5 (xo 46 (.call 120 [(.t 45)]))
 (of 6 (xo 47 (.not (.t 46)))
 (of 7 (mo 48 47)
 (of 8 (xg 49 (fa 4 1) 48 false)
 (ot 9 (xg 50 (lf 49) 48 false)
 (of 10 (xg 51 (mv 4) 48 false)
 (ot 11 (xg 52 (ia 5 50 51) 48 false)
 (of 12 (xg 53 (fa 4 52) 48 false)
 (ot 13 (xg 54 (lf 53) 48 false)
 (of 14 (xg 55 (fa 7 1) 48 false)
 (ot 15 (xg 56 (lf 55) 48 false)
 (of 16 (xg 57 (mv 4) 48 false)
 (of 17 (xg 58 (.call 121 [(.t 56),(.t 57)]) 48 false)
 (of 18 (xg 59 (.binb true (.t 54) (.t 58)) 48 false)
 (of 19 (xo 60 (.pick (.t 48) (.b true) (.t 59)))
 .nil)))))))))))))))))))))
 (cD 60
 (sq (rg [xo 2 (.mov (.b false))])
 .ret)
 .skip)))
 (rg [mo 39 4,xo 40 (bc .add 39 1),mo 4 40]))))))
 (sq (sq (rg [xo 5 (.mov (ci 0))])
 (.block 4
 (.loop [5] [61,62,63,64,65,68,69,70,71,72,6,73,74,75,76,77,78,79,80,81,82,83,84,85,86,87,88,89,90,91,92,93,94,95,96,97,2,66,67,5]
 (sq (sq (rg [mo 61 5,fo 62 7 1,lo 63 62,xo 64 (.len false (.t 63)),xo 65 (bi .lss 61 64)])
 (cD 65
 .skip
 (.exit 4)))
 (sq (.block 5
 (sq (rg [fo 68 7 1,lo 69 68,mo 70 5,xo 71 (ia 3 69 70),xo 72 (lt 3 71),xo 6 (.alloc 56 [(vi 0),(vi 0),(.v (.bool false))]),xn (st 3 6 72)])
 (sq (rg [fo 73 0 6,lo 74 73,xo 75 (bc .lss 74 0),mo 76 75,xg 77 (fa 0 6) 76 false,xg 78 (lf 77) 76 false,xg 79 (fa 4 1) 76 false,xg 80 (lf 79) 76 false,xg 81 (.len false (.t 80)) 76 false,xg 82 (bi .geq 78 81) 76 false,xo 83 (.pick (.t 76) (.b true) (.t 82)),mo 84 83,xg 85 (fa 0 6) 84 false,xg 86 (lf 85) 84 false,xg 87 (fa 1 1) 84 false,xg 88 (lf 87) 84 false,xg 89 (bi .eql 86 88) 84 false,xo 90 (.pick (.t 84) (.b true) (.t 89)),mo 91 90,xg 92 (fa 1 6) 91 false,xg 93 (lf 92) 91 false,xg 94 (fa 0 1) 91 false,xg 95 (lf 94) 91 false,xg 96 (bi .gtr 93 95) 91 false,xo 97 (.pick (.t 91) (.b true) (.t 96))])
 (cD 97
 (sq (rg [xo 2 (.mov (.b false))])
 .ret)
 .skip))))
 (rg [mo 66 5,xo 67 (bc .add 66 1),mo 5 67]))))))
 (sq (rg [fo 98 7 1,lo 99 98,xo 100 (.call 122 [(.t 99)]),mo 2 100])
 .ret)))))⟩
theorem qRG:trFn Tryz.prog 94 [([],(fs [0,1,2,3,4] (.exec 5 (fs [6,7,8,9,10,11,12,13,14,15,17] (.exec 16 (.first 18 (.first 19 .nil))))))),([],(fs [0,1,2,3,4] (.exec 5 (fs [6,7,8,9,10,11,12,13,14,15,16] (.exec 17 (.first 18 (.first 19 .nil)))))))] [[3],[4],[5]]=some qvG:=by kernel_rfl
abbrev qnG:Nat:=95
def q2G:FnI:=⟨69,[.tmp 2,.tmp 3],
 (sq (rg [xo 1 (.box 33 (.t 0)),xo 2 (.mov (ci 0)),xo 3 (.mov (ci 0))])
 (sq (sq (rg [fo 10 0 1,lo 11 10,xo 12 (.len false (.t 11)),xo 13 (bc .lss 12 1),mo 14 13,xg 15 (fa 0 1) 14 false,xg 16 (lf 15) 14 false,xg 17 (.len false (.t 16)) 14 false,xg 18 (bc .gtr 17 4) 14 false,xo 19 (.pick (.t 14) (.b true) (.t 18)),mo 20 19,xg 21 (fa 1 1) 20 false,xg 22 (lf 21) 20 false,xg 23 (.len false (.t 22)) 20 false,xg 24 (bc .lss 23 1) 20 false,xo 25 (.pick (.t 20) (.b true) (.t 24)),mo 26 25,xg 27 (fa 1 1) 26 false,xg 28 (lf 27) 26 false,xg 29 (.len false (.t 28)) 26 false,xg 30 (bc .gtr 29 8) 26 false,xo 31 (.pick (.t 26) (.b true) (.t 30)),mo 32 31,xg 33 (fa 2 1) 32 false,xg 34 (lf 33) 32 false,xg 35 (.len false (.t 34)) 32 false,xg 36 (bc .lss 35 1) 32 false,xo 37 (.pick (.t 32) (.b true) (.t 36)),mo 38 37,xg 39 (fa 2 1) 38 false,xg 40 (lf 39) 38 false,xg 41 (.len false (.t 40)) 38 false,xg 42 (bc .gtr 41 4) 38 false,xo 43 (.pick (.t 38) (.b true) (.t 42))])
 (cD 43
 (sq (rg [xo 2 (.mov (ci 6)),xo 3 (.mov (ci 0))])
 .ret)
 .skip))
 (sq (rg [xo 45 (lt 3 1),xo 46 (.call 123 [(.t 45)]),mo 44 46,xo 47 (.ext 0 (.t 44)),xo 48 (.ext 1 (.t 44)),mo 4 47,mo 5 48])
 (sq (sq (rg [mo 49 4,xo 50 (bc .neq 49 0)])
 (cD 50
 (sq (rg [mo 51 4,mo 52 5,mo 2 51,mo 3 52])
 .ret)
 .skip))
 (sq (rg [xo 54 (lt 3 1),xo 55 (.call 124 [(.t 54)]),mo 53 55,xo 56 (.ext 0 (.t 53)),xo 57 (.ext 1 (.t 53)),mo 6 56,mo 7 57])
 (sq (sq (rg [mo 58 6,xo 59 (bc .neq 58 0)])
 (cD 59
 (sq (rg [mo 60 6,mo 61 7,mo 2 60,mo 3 61])
 .ret)
 .skip))
 (sq (rg [xo 63 (lt 3 1),xo 64 (.call 125 [(.t 63)]),mo 62 64,xo 65 (.ext 0 (.t 62)),xo 66 (.ext 1 (.t 62)),mo 8 65,mo 9 66])
 (sq (rg [mo 67 8,mo 68 9,mo 2 67,mo 3 68])
 .ret))))))))⟩
theorem qYG:trFn Tryz.prog 95 [] []=some q2G:=by kernel_rfl
abbrev qxF:Nat:=96
def q8F:FnI:=⟨19,[.tmp 4],
 (sq (rg [xo 4 (.mov (ci 0))])
 (sq (sq (rg [xo 5 (.mov (ci 0))])
 (.block 0
 (.loop [5] [6,7,8,9,12,13,14,15,16,17,18,4,10,11,5]
 (sq (sq (rg [mo 6 5,mo 7 0,xo 8 (.len false (.t 7)),xo 9 (bi .lss 6 8)])
 (cD 9
 .skip
 (.exit 0)))
 (sq (.block 1
 (sq (rg [mo 12 0,mo 13 5,xo 14 (ia 1 12 13),lo 15 14,mo 16 1,xo 17 (.bins .eql (.t 15) (.t 16))])
 (cD 17
 (sq (rg [mo 18 5,mo 4 18])
 .ret)
 .skip)))
 (rg [mo 10 5,xo 11 (bc .add 10 1),mo 5 11]))))))
 (sq (rg [xo 4 (.mov (ci (-1)))])
 .ret)))⟩
theorem qgF:trFn Tryz.prog 96 [] [[5]]=some q8F:=by kernel_rfl
abbrev qMF:Nat:=97
def qUF:FnI:=⟨20,[.tmp 4],
 (sq (rg [xo 4 (.mov (ci 0))])
 (sq (sq (rg [xo 5 (.mov (ci 0))])
 (.block 0
 (.loop [5] [6,7,8,9,12,13,14,15,16,17,18,19,4,10,11,5]
 (sq (sq (rg [mo 6 5,mo 7 0,xo 8 (.len false (.t 7)),xo 9 (bi .lss 6 8)])
 (cD 9
 .skip
 (.exit 0)))
 (sq (.block 1
 (sq (rg [mo 12 0,mo 13 5,xo 14 (ia 4 12 13),fo 15 0 14,lo 16 15,mo 17 1,xo 18 (.bins .eql (.t 16) (.t 17))])
 (cD 18
 (sq (rg [mo 19 5,mo 4 19])
 .ret)
 .skip)))
 (rg [mo 10 5,xo 11 (bc .add 10 1),mo 5 11]))))))
 (sq (rg [xo 4 (.mov (ci (-1)))])
 .ret)))⟩
theorem qDF:trFn Tryz.prog 97 [] [[5]]=some qUF:=by kernel_rfl
abbrev qcJ:Nat:=98
def qoJ:FnI:=⟨13,[.tmp 2],
 (sq (rg [xo 1 (.box 60 (.t 0)),xo 2 (.mov (.b false))])
 (sq (rg [xo 6 (lt 3 1),xo 7 (.call 126 [(.t 6)]),xo 8 (.call 95 [(.t 7)]),mo 5 8,xo 9 (.ext 0 (.t 5)),xo 10 (.ext 1 (.t 5)),mo 3 9,mo 4 10])
 (sq (rg [mo 11 3,xo 12 (bc .eql 11 0),mo 2 12])
 .ret)))⟩
theorem qIJ:trFn Tryz.prog 98 [] []=some qoJ:=by kernel_rfl
abbrev qlG:Nat:=99
def q0G:FnI:=⟨31,[.cell 2 3 true,.tmp 3],
 (sq (rg [xo 2 (.alloc 99 [(.v (.int .u64 (0))),(.v (.slice none 0 0)),(vi 0)]),xo 3 (.mov (ci 0))])
 (sq (sq (rg [mo 6 0,xo 7 (bc .lss 6 1),mo 8 7,xg 9 (mv 0) 8 false,xg 10 (bc .gtr 9 4) 8 false,xo 11 (.pick (.t 8) (.b true) (.t 10))])
 (cD 11
 (sq (rg [xo 12 (.build [(.v (.int .u64 (0))),(.v (.slice none 0 0)),(vi 0)] []),xn (st 3 2 12),xo 3 (.mov (ci 1))])
 .ret)
 .skip))
 (sq (rg [xo 13 (.build [(.v (.int .u64 (0))),(.v (.slice none 0 0)),(vi 0)] [(0,1,(.c (.int .u64 (1))))]),xo 4 (.alloc 99 [(.v (.int .u64 (0))),(.v (.slice none 0 0)),(vi 0)]),xn (st 3 4 13)])
 (sq (sq (rg [xo 5 (.mov (ci 1))])
 (.block 0
 (.loop [5] [14,15,16,19,20,21,22,23,24,17,18,5]
 (sq (sq (rg [mo 14 5,mo 15 0,xo 16 (bi .lss 14 15)])
 (cD 16
 .skip
 (.exit 0)))
 (sq (.block 1
 (rg [fo 19 1 4,lo 20 19,mo 21 5,xo 22 (.bsl 3 1 1 [(vi 0)] [(0,1,(.t 21))]),xo 23 (.app 3 1 8 (.t 20) (.t 22)),fo 24 1 4,xn (st 1 24 23)]))
 (rg [mo 17 5,xo 18 (bc .add 17 1),mo 5 18]))))))
 (sq (rg [fo 25 1 4,lo 26 25,xo 27 (.bsl 3 1 1 [(vi 0)] [(0,1,(ci (-1)))]),xo 28 (.app 3 1 8 (.t 26) (.t 27)),fo 29 1 4,xn (st 1 29 28)])
 (sq (rg [xo 30 (lt 3 4),xn (st 3 2 30),xo 3 (.mov (ci 0))])
 .ret))))))⟩
theorem qWG:trFn Tryz.prog 99 [] [[5]]=some q0G:=by kernel_rfl
abbrev qbP:Nat:=100
def qrP:FnI:=⟨25,[.tmp 2,.tmp 3],
 (sq (rg [xo 2 (.mov (.c (.slice none 0 0))),xo 3 (.mov (ci 0))])
 (sq (sq (rg [mo 6 0,xo 7 (bc .lss 6 1),mo 8 7,xg 9 (mv 0) 8 false,xg 10 (bc .gtr 9 8) 8 false,xo 11 (.pick (.t 8) (.b true) (.t 10))])
 (cD 11
 (sq (rg [xo 2 (.mov (.c (.slice none 0 0))),xo 3 (.mov (ci 1))])
 .ret)
 .skip))
 (sq (rg [mo 12 0,xo 13 (.msl 116 1 24 [(.slice none 0 0)] (.t 12) (.t 12)),mo 4 13])
 (sq (sq (rg [mo 14 4,xo 15 (.len false (.t 14)),xo 16 (.mov (ci 0))])
 (.block 0
 (.loop [16] [17,18,5,19,20,21,22,23,16]
 (sq (rg [xo 17 (bi .lss 16 15)])
 (sq (cD 17
 .skip
 (.exit 0))
 (sq (.block 1
 (sq (rg [mo 18 16,mo 5 18])
 (rg [mo 19 4,mo 20 5,xo 21 (.msl 36 1 8 [(.int .u64 (0))] (ci 6) (ci 6)),xo 22 (ia 1 19 20),xn (st 1 22 21)])))
 (rg [xo 23 (bc .add 16 1),mo 16 23])))))))
 (sq (rg [mo 24 4,mo 2 24,xo 3 (.mov (ci 0))])
 .ret)))))⟩
theorem q1O:trFn Tryz.prog 100 [] [[16]]=some qrP:=by kernel_rfl
abbrev qHD:Nat:=101
def qZB:FnI:=⟨19,[.tmp 4],
 (sq (rg [xo 4 (.mov (ci 0))])
 (sq (sq (rg [mo 6 0,xo 7 (.len false (.t 6)),xo 8 (.mov (ci 0))])
 (.block 0
 (.loop [8] [9,10,5,11,12,13,14,15,16,17,4,18,8]
 (sq (rg [xo 9 (bi .lss 8 7)])
 (sq (cD 9
 .skip
 (.exit 0))
 (sq (.block 1
 (sq (rg [mo 10 8,mo 5 10])
 (sq (rg [mo 11 1,mo 12 0,mo 13 5,xo 14 (ia 1 12 13),lo 15 14,xo 16 (.callv (.t 11) [(.t 15)])])
 (cD 16
 (sq (rg [mo 17 5,mo 4 17])
 .ret)
 .skip))))
 (rg [xo 18 (bc .add 8 1),mo 8 18])))))))
 (sq (rg [xo 4 (.mov (ci (-1)))])
 .ret)))⟩
theorem qGD:trFn Tryz.prog 101 [] [[8]]=some qZB:=by kernel_rfl
abbrev q6M:Nat:=102
theorem qEN:FnOk Tryz.prog 102:=FnOk.of (by kernel_rfl)
def qvI:FnI:=⟨8,[.tmp 3],
 (sq (rg [xo 2 (.box 56 (.t 0)),xo 3 (.mov (.b false))])
 (sq (rg [fo 4 0 2,lo 5 4,lo 6 1,xo 7 (bi .eql 5 6),mo 3 7])
 .ret))⟩
theorem qcM:trFn Tryz.prog 102 [] []=some qvI:=by kernel_rfl
abbrev q2M:Nat:=103
def qRN:FnI:=⟨69,[.cell 2 3 true],
 (sq (rg [xo 1 (.box 60 (.t 0)),xo 2 (.alloc 33 [(.v (.slice none 0 0)),(.v (.slice none 0 0)),(.v (.slice none 0 0))])])
 (sq (rg [fo 7 0 1,lo 8 7,fo 9 2 1,lo 10 9,xo 11 (.build [(.v (.slice none 0 0)),(.v (.slice none 0 0)),(.v (.slice none 0 0))] [(0,1,(.t 8)),(2,1,(.t 10))]),xo 3 (.alloc 33 [(.v (.slice none 0 0)),(.v (.slice none 0 0)),(.v (.slice none 0 0))]),xn (st 3 3 11)])
 (sq (sq (rg [fo 12 1 1,lo 13 12,xo 14 (.len false (.t 13)),xo 15 (.mov (ci 0))])
 (.block 0
 (.loop [15] [16,17,18,5,19,20,21,22,23,6,24,25,26,27,28,29,30,31,32,33,34,35,36,37,38,39,40,41,42,43,44,45,46,47,48,49,50,51,52,53,54,55,56,57,58,59,60,61,62,63,64,65,66,67,15]
 (sq (rg [xo 16 (bi .lss 15 14)])
 (sq (cD 16
 .skip
 (.exit 0))
 (sq (.block 1
 (sq (rg [xo 17 (ia 4 13 15),xo 18 (lt 4 17),xo 5 (.alloc 110 [(vi 0),(.v (.string ⟨#[]⟩)),(.v (.string ⟨#[]⟩)),(vi 0)]),xn (st 4 5 18)])
 (sq (rg [fo 19 1 5,lo 20 19,fo 21 2 5,lo 22 21,xo 23 (.build [(.v (.string ⟨#[]⟩)),(.v (.string ⟨#[]⟩)),(.v (.string ⟨#[]⟩)),(.v (.string ⟨#[]⟩))] [(1,1,(.t 20)),(2,1,(.t 22))]),xo 6 (.alloc 79 [(.v (.string ⟨#[]⟩)),(.v (.string ⟨#[]⟩)),(.v (.string ⟨#[]⟩)),(.v (.string ⟨#[]⟩))]),xn (st 4 6 23)])
 (sq (sq (rg [fo 24 0 5,lo 25 24,xo 26 (bc .geq 25 0),mo 27 26,xg 28 (fa 0 5) 27 true,xg 29 (lf 28) 27 true,xg 30 (fa 0 1) 27 true,xg 31 (lf 30) 27 true,xg 32 (.len false (.t 31)) 27 true,xg 33 (bi .lss 29 32) 27 true,xo 34 (.pick (.t 27) (.t 33) (.b false))])
 (cD 34
 (rg [fo 35 0 1,lo 36 35,fo 37 0 5,lo 38 37,xo 39 (ia 1 36 38),lo 40 39,fo 41 0 6,xn (st 1 41 40)])
 .skip))
 (sq (sq (rg [fo 42 3 5,lo 43 42,xo 44 (bc .geq 43 0),mo 45 44,xg 46 (fa 3 5) 45 true,xg 47 (lf 46) 45 true,xg 48 (fa 2 1) 45 true,xg 49 (lf 48) 45 true,xg 50 (.len false (.t 49)) 45 true,xg 51 (bi .lss 47 50) 45 true,xo 52 (.pick (.t 45) (.t 51) (.b false))])
 (cD 52
 (rg [fo 53 2 1,lo 54 53,fo 55 3 5,lo 56 55,xo 57 (ia 4 54 56),fo 58 0 57,lo 59 58,fo 60 3 6,xn (st 1 60 59)])
 .skip))
 (rg [fo 61 1 3,lo 62 61,xo 63 (lt 4 6),xo 64 (.bsl 79 4 1 [(.v (.string ⟨#[]⟩)),(.v (.string ⟨#[]⟩)),(.v (.string ⟨#[]⟩)),(.v (.string ⟨#[]⟩))] [(0,4,(.t 63))]),xo 65 (.app 79 4 64 (.t 62) (.t 64)),fo 66 1 3,xn (st 1 66 65)]))))))
 (rg [xo 67 (bc .add 15 1),mo 15 67])))))))
 (sq (rg [xo 68 (lt 3 3),xn (st 3 2 68)])
 .ret))))⟩
theorem qYM:trFn Tryz.prog 103 [] [[15]]=some qRN:=by kernel_rfl
abbrev q4B:Nat:=104
def qxA:FnI:=⟨19,[.tmp 4],
 (sq (rg [xo 4 (.mov (ci 0))])
 (sq (sq (rg [mo 6 0,xo 7 (.len false (.t 6)),xo 8 (.mov (ci 0))])
 (.block 0
 (.loop [8] [9,10,5,11,12,13,14,15,16,17,4,18,8]
 (sq (rg [xo 9 (bi .lss 8 7)])
 (sq (cD 9
 .skip
 (.exit 0))
 (sq (.block 1
 (sq (rg [mo 10 8,mo 5 10])
 (sq (rg [mo 11 1,mo 12 0,mo 13 5,xo 14 (ia 3 12 13),xo 15 (lt 3 14),xo 16 (.callv (.t 11) [(.t 15)])])
 (cD 16
 (sq (rg [mo 17 5,mo 4 17])
 .ret)
 .skip))))
 (rg [xo 18 (bc .add 8 1),mo 8 18])))))))
 (sq (rg [xo 4 (.mov (ci (-1)))])
 .ret)))⟩
theorem q2B:trFn Tryz.prog 104 [] [[8]]=some qxA:=by kernel_rfl
abbrev qdP:Nat:=105
def qtP:FnI:=⟨9,[.tmp 2],
 (sq (rg [xo 2 (.mov (.b false))])
 (sq (rg [mo 3 0,xo 4 (.bini .geq (.t 3) (.c (.int .u8 (97)))),mo 5 4,xg 6 (mv 0) 5 true,xg 7 (.bini .leq (.t 6) (.c (.int .u8 (122)))) 5 true,xo 8 (.pick (.t 5) (.t 7) (.b false)),mo 2 8])
 .ret))⟩
theorem q3O:trFn Tryz.prog 105 [] []=some qtP:=by kernel_rfl
abbrev qGO:Nat:=106
def qAK:FnI:=⟨2,[.cell 0 1 true],
 (sq (rg [xo 0 (.alloc 166 [(.v .nilFunc)])])
 (sq (rg [xo 1 (.build [(.v .nilFunc)] [(0,1,(.c (.func (.func 127) #[] #[])))]),xn (st 1 0 1)])
 .ret))⟩
theorem qfN:trFn Tryz.prog 106 [] []=some qAK:=by kernel_rfl
abbrev quF:Nat:=107
def q9C:FnI:=⟨28,[.tmp 6],
 (sq (rg [xo 3 (.box 166 (.t 0)),xo 6 (.mov (.b false))])
 (sq (sq (rg [mo 8 1,xo 9 (.len true (.t 8)),xo 10 (.mov (ci 0))])
 (.block 0
 (.loop [10] [11,12,7,13,14,15,16,17,18,19,20,21,22,23,24,25,26,6,27,10]
 (sq (rg [xo 11 (bi .lss 10 9)])
 (sq (cD 11
 .skip
 (.exit 0))
 (sq (.block 1
 (sq (rg [mo 12 10,mo 7 12])
 (sq (rd [] (of 0 (mo 13 1)
 (of 1 (mo 14 7)
 (of 2 (xo 15 (.idxs (.t 13) (.t 14)))
 (of 3 (mo 16 2)
 (of 4 (xo 17 (bi .neq 15 16))
 (of 5 (mo 18 17)
 (of 6 (xg 19 (fa 0 3) 18 true)
 (ot 7 (xg 20 (lf 19) 18 true)
 (of 8 (xg 21 (mv 1) 18 true)
 (of 9 (xg 22 (mv 7) 18 true)
 (of 10 (xg 23 (.idxs (.t 21) (.t 22)) 18 true)
 (of 11 (xg 24 (.callv (.t 20) [(.t 23)]) 18 true)
 (of 12 (xg 25 (.not (.t 24)) 18 true)
 (of 13 (xo 26 (.pick (.t 18) (.t 25) (.b false)))
 .nil)))))))))))))))
 (cD 26
 (sq (rg [xo 6 (.mov (.b false))])
 .ret)
 .skip))))
 (rg [xo 27 (bc .add 10 1),mo 10 27])))))))
 (sq (rg [xo 6 (.mov (.b true))])
 .ret)))⟩
theorem qdF:trFn Tryz.prog 107 [([],(fs [0,1,2,3,4,5,6,7,8,9,10] (.exec 11 (.first 12 (.first 13 .nil)))))] [[10]]=some q9C:=by kernel_rfl
abbrev qAL:Nat:=108
def qNL:FnI:=⟨15,[.tmp 6],
 (sq (rg [xo 6 (.mov (.b false))])
 (sq (rg [mo 7 0,mo 8 1,xo 9 (bi .geq 7 8),mo 10 9,xg 11 (mv 0) 10 true,xg 12 (mv 2) 10 true,xg 13 (bi .leq 11 12) 10 true,xo 14 (.pick (.t 10) (.t 13) (.b false)),mo 6 14])
 .ret))⟩
theorem qlK:trFn Tryz.prog 108 [] []=some qNL:=by kernel_rfl
abbrev qZC:Nat:=109
def qcC:FnI:=⟨9,[.tmp 4],
 (sq (rg [xo 4 (.mov (.b false))])
 (sq (rg [mo 5 0,mo 6 1,xo 7 (.call 128 [(.t 5),(.t 6)]),xo 8 (bc .geq 7 0),mo 4 8])
 .ret))⟩
theorem qVC:trFn Tryz.prog 109 [] []=some qcC:=by kernel_rfl
abbrev qlL:Nat:=110
def qsL:FnI:=⟨8,[.tmp 4],
 (sq (rg [xo 3 (.box 9 (.t 1)),xo 4 (.mov (.b false))])
 (sq (rg [mo 5 0,xo 6 (.mkf (.func 130) [] [(.t 3)]),xo 7 (.call 129 [(.t 5),(.t 6)]),mo 4 7])
 .ret))⟩
theorem qdL:trFn Tryz.prog 110 [] []=some qsL:=by kernel_rfl
abbrev q8K:Nat:=111
def qML:FnI:=⟨19,[.tmp 2],
 (sq (rg [xo 2 (.mov (.b false))])
 (sq (sq (rg [mo 6 0,xo 7 (.call 131 [(.t 6),(.c (.string ⟨#[42,46]⟩))]),mo 5 7,xo 8 (.ext 0 (.t 5)),xo 9 (.ext 1 (.t 5)),mo 3 8,mo 4 9])
 (sq (rg [mo 10 4])
 (cD 10
 (sq (rg [mo 11 3,xo 12 (.call 132 [(.t 11)]),mo 2 12])
 .ret)
 .skip)))
 (sq (rg [mo 13 0,xo 14 (.bins .eql (.t 13) (.c (.string ⟨#[42]⟩))),mo 15 14,xg 16 (mv 0) 15 false,xg 17 (.call 132 [(.t 16)]) 15 false,xo 18 (.pick (.t 15) (.b true) (.t 17)),mo 2 18])
 .ret)))⟩
theorem qjK:trFn Tryz.prog 111 [] []=some qML:=by kernel_rfl
abbrev qHO:Nat:=112
def qbO:FnI:=⟨21,[.tmp 2],
 (sq (rg [xo 2 (.mov (.b false))])
 (sq (rg [mo 3 0,xo 4 (.len true (.t 3)),xo 5 (bc .gtr 4 0),mo 6 5,xg 7 (mv 0) 6 true,xg 8 (.len true (.t 7)) 6 true,xg 9 (bc .leq 8 32) 6 true,xo 10 (.pick (.t 6) (.t 9) (.b false)),mo 11 10,xg 12 (mv 0) 11 true,xg 13 (.idxs (.t 12) (ci 0)) 11 true,xg 14 (.bini .eql (.t 13) (.c (.int .u8 (47)))) 11 true,xo 15 (.pick (.t 11) (.t 14) (.b false)),mo 16 15,xg 17 (.call 106 []) 16 true,xg 18 (mv 0) 16 true,xg 19 (.call 107 [(.t 17),(.t 18),(.c (.int .u8 (47)))]) 16 true,xo 20 (.pick (.t 16) (.t 19) (.b false)),mo 2 20])
 .ret))⟩
theorem qgN:trFn Tryz.prog 112 [] []=some qbO:=by kernel_rfl
abbrev q6K:Nat:=113
theorem qEL:FnOk Tryz.prog 113:=FnOk.of (by kernel_rfl)
def q4F:FnI:=⟨44,[],
 (.scope
 (sq (rg [fo 5 1 1,lo 6 5,xo 7 (.len false (.t 6)),xo 8 (.msl 4 1 1 [(.bool false)] (.t 7) (.t 7)),mo 3 8])
 (sq (rg [fo 9 0 1,lo 10 9,xo 11 (.call 114 [(.t 10)]),mo 4 11])
 (sq (.label 0)
 (sq (.block 0
 (.loop [4] [12,13,14,15,16,17,18,19,20,21,22,23,24,25,26,27,28,4,29,30,31,32,33,34,35,36,37,38,39,40]
 (sq (sq (rg [mo 12 4,xo 13 (.bini .neq (.t 12) (ci (-1)))])
 (cD 13
 .skip
 (.exit 0)))
 (.block 1
 (sq (sq (rg [mo 14 4,xo 15 (bc .lss 14 0),mo 16 15,xg 17 (mv 4) 16 false,xg 18 (fa 1 1) 16 false,xg 19 (lf 18) 16 false,xg 20 (.len false (.t 19)) 16 false,xg 21 (bi .geq 17 20) 16 false,xo 22 (.pick (.t 16) (.b true) (.t 21)),mo 23 22,xg 24 (mv 3) 23 false,xg 25 (mv 4) 23 false,xg 26 (ia 1 24 25) 23 false,xg 27 (lf 26) 23 false,xo 28 (.pick (.t 23) (.b true) (.t 27))])
 (cD 28
 (sq (rg [xo 4 (.mov (ci (-2)))])
 (.exit 0))
 .skip))
 (sq (rg [mo 29 3,mo 30 4,xo 31 (ia 1 29 30),xn (.store 1 (.t 31) (.b true))])
 (sq (sq (rg [mo 32 0,mo 33 4,xo 34 (.callv (.t 32) [(.t 33)]),xo 35 (.not (.t 34))])
 (cD 35
 .ret
 .skip))
 (rg [fo 36 1 1,lo 37 36,mo 38 4,xo 39 (ia 1 37 38),lo 40 39,mo 4 40]))))))))
 (rg [mo 41 0,mo 42 4,xo 43 (.callv (.t 41) [(.t 42)])]))))))⟩
theorem qhK:trFn Tryz.prog 113 [] [[4]]=some q4F:=by kernel_rfl
abbrev qYP:Nat:=114
def qoP:FnI:=⟨7,[.tmp 2],
 (sq (rg [xo 2 (.mov (ci 0))])
 (sq (rg [mo 3 0,xo 4 (.conv .u32 (.t 3)),xo 5 (.conv .i64 (.t 4)),xo 6 (.bini .add (.t 5) (ci (-1))),mo 2 6])
 .ret))⟩
theorem qyO:trFn Tryz.prog 114 [] []=some qoP:=by kernel_rfl
abbrev qYC:Nat:=115
def qbC:FnI:=⟨29,[.tmp 6],
 (sq (rg [xo 5 (.box 121 (.t 2)),xo 6 (.mov (.c (.slice none 0 0)))])
 (sq (rg [mo 10 0,xo 11 (.len false (.t 10)),xo 12 (.msl 99 3 40 [(.int .u64 (0)),(.slice none 0 0),(.int .i64 (0))] (.t 11) (.t 11)),mo 7 12])
 (sq (sq (rg [mo 13 0,xo 14 (.len false (.t 13)),xo 15 (.mov (ci 0))])
 (.block 0
 (.loop [15] [16,17,18,19,9,8,20,21,22,23,24,25,26,27,15]
 (sq (rg [xo 16 (bi .lss 15 14)])
 (sq (cD 16
 .skip
 (.exit 0))
 (sq (.block 1
 (sq (rg [mo 17 15,xo 18 (ia 3 13 15),xo 19 (lt 3 18),xo 9 (.alloc 99 [(.v (.int .u64 (0))),(.v (.slice none 0 0)),(vi 0)]),mo 8 17,xn (st 3 9 19)])
 (rg [mo 20 7,mo 21 8,mo 22 1,xo 23 (lt 0 5),xo 24 (lt 3 9),xo 25 (.callv (.t 22) [(.t 23),(.t 24)]),xo 26 (ia 3 20 21),xn (st 3 26 25)])))
 (rg [xo 27 (bc .add 15 1),mo 15 27])))))))
 (sq (rg [mo 28 7,mo 6 28])
 .ret))))⟩
theorem qUC:trFn Tryz.prog 115 [] [[15]]=some qbC:=by kernel_rfl
abbrev qFC:Nat:=116
def q3H:FnI:=⟨10,[.cell 4 3 true],
 (sq (rg [xo 2 (.box 121 (.t 0)),xo 3 (.box 99 (.t 1)),xo 4 (.alloc 99 [(.v (.int .u64 (0))),(.v (.slice none 0 0)),(vi 0)])])
 (sq (rg [fo 5 1 3,lo 6 5,xo 7 (.call 54 [(.t 6)]),fo 8 1 3,xn (st 1 8 7)])
 (sq (rg [xo 9 (lt 3 3),xn (st 3 4 9)])
 .ret)))⟩
theorem qIH:trFn Tryz.prog 116 [] []=some q3H:=by kernel_rfl
abbrev qxQ:Nat:=117
def q8Q:FnI:=⟨19,[.tmp 4,.tmp 5],
 (sq (rg [xo 4 (.mov (.c (.int .u64 (0)))),xo 5 (.mov (ci 0))])
 (sq (sq (rg [mo 6 1,xo 7 (.bini .lss (.t 6) (ci (-1))),mo 8 7,xg 9 (mv 1) 8 false,xg 10 (bc .gtr 9 2147483646) 8 false,xo 11 (.pick (.t 8) (.b true) (.t 10))])
 (cD 11
 (sq (rg [xo 4 (.mov (.c (.int .u64 (0)))),xo 5 (.mov (ci 1))])
 .ret)
 .skip))
 (sq (rg [mo 12 0,xo 13 (.conv .u64 (.t 12)),xo 14 (.bini .shl (.t 13) (.c (.int .u64 (32)))),mo 15 1,xo 16 (.bini .sub (.t 15) (ci (-1))),xo 17 (.conv .u64 (.t 16)),xo 18 (bi .or 14 17),mo 4 18,xo 5 (.mov (ci 0))])
 .ret)))⟩
theorem qVQ:trFn Tryz.prog 117 [] []=some q8Q:=by kernel_rfl
abbrev qYJ:Nat:=118
def qkJ:FnI:=⟨20,[.tmp 2],
 (sq (rg [xo 1 (.box 95 (.t 0)),xo 2 (.mov (.b false))])
 (sq (rg [fo 3 0 1,lo 4 3,xo 5 (.call 133 [(.t 4)]),mo 6 5,xg 7 (fa 2 1) 6 true,xg 8 (lf 7) 6 true,xg 9 (bc .geq 8 0) 6 true,xo 10 (.pick (.t 6) (.t 9) (.b false)),mo 11 10,xg 12 (fa 1 1) 11 true,xg 13 (lf 12) 11 true,xg 14 (mv 13) 11 true,xg 15 (fa 3 1) 14 false,xg 16 (lf 15) 14 false,xg 17 (.not (.t 16)) 14 false,xg 18 (.pick (.t 14) (.b true) (.t 17)) 11 true,xo 19 (.pick (.t 11) (.t 18) (.b false)),mo 2 19])
 .ret))⟩
theorem qEJ:trFn Tryz.prog 118 [] []=some qkJ:=by kernel_rfl
abbrev qjG:Nat:=119
def qyG:FnI:=⟨20,[.tmp 4],
 (sq (rg [xo 4 (.mov (ci 0))])
 (sq (sq (rg [xo 5 (.mov (ci 0))])
 (.block 0
 (.loop [5] [6,7,8,9,12,13,14,15,16,17,18,19,4,10,11,5]
 (sq (sq (rg [mo 6 5,mo 7 0,xo 8 (.len false (.t 7)),xo 9 (bi .lss 6 8)])
 (cD 9
 .skip
 (.exit 0)))
 (sq (.block 1
 (sq (rg [mo 12 0,mo 13 5,xo 14 (ia 4 12 13),fo 15 0 14,lo 16 15,mo 17 1,xo 18 (.bins .eql (.t 16) (.t 17))])
 (cD 18
 (sq (rg [mo 19 5,mo 4 19])
 .ret)
 .skip)))
 (rg [mo 10 5,xo 11 (bc .add 10 1),mo 5 11]))))))
 (sq (rg [xo 4 (.mov (ci (-1)))])
 .ret)))⟩
theorem qUG:trFn Tryz.prog 119 [] [[5]]=some qyG:=by kernel_rfl
abbrev qJF:Nat:=120
def qRF:FnI:=⟨79,[.tmp 2],
 (sq (rg [xo 1 (.box 67 (.t 0)),xo 2 (.mov (.b false))])
 (sq (sq (rg [fo 6 0 1,xo 7 (lt 3 6),xo 8 (.call 98 [(.t 7)]),xo 9 (.not (.t 8)),mo 10 9,xg 11 (fa 3 1) 10 false,xg 12 (lf 11) 10 false,xg 13 (.len false (.t 12)) 10 false,xg 14 (fa 0 1) 10 false,xg 15 (fa 2 14) 10 false,xg 16 (lf 15) 10 false,xg 17 (.len false (.t 16)) 10 false,xg 18 (bi .neq 13 17) 10 false,xo 19 (.pick (.t 10) (.b true) (.t 18))])
 (cD 19
 (sq (rg [xo 2 (.mov (.b false))])
 .ret)
 .skip))
 (sq (sq (rg [xo 3 (.mov (ci 0))])
 (.block 0
 (.loop [3] [20,21,22,23,24,27,28,29,30,31,32,33,34,35,36,37,38,39,40,41,42,2,4,43,44,45,46,47,48,49,50,51,54,55,56,57,58,59,60,61,62,5,63,64,65,66,67,68,69,70,71,72,73,74,75,76,77,78,52,53,25,26,3]
 (sq (sq (rg [mo 20 3,fo 21 3 1,lo 22 21,xo 23 (.len false (.t 22)),xo 24 (bi .lss 20 23)])
 (cD 24
 .skip
 (.exit 0)))
 (sq (.block 1
 (sq (sq (rd [] (of 0 (fo 27 3 1)
 (ot 1 (lo 28 27)
 (of 2 (mo 29 3)
 (ot 3 (xo 30 (ia 2 28 29))
 (of 4 (fo 31 1 30)
 (ot 5 (lo 32 31)
 (of 6 (xo 33 (.len false (.t 32)))
 (of 7 (fo 34 0 1)
 (of 8 (fo 35 2 34)
 (ot 9 (lo 36 35)
 (of 10 (mo 37 3)
 (ot 11 (xo 38 (ia 4 36 37))
 (of 12 (fo 39 3 38)
 (ot 13 (lo 40 39)
 (of 14 (xo 41 (.len false (.t 40)))
 (of 15 (xo 42 (bi .neq 33 41))
 .nil)))))))))))))))))
 (cD 42
 (sq (rg [xo 2 (.mov (.b false))])
 .ret)
 .skip))
 (sq (rg [xo 4 (.mov (ci 0))])
 (.block 2
 (.loop [4] [43,44,45,46,47,48,49,50,51,54,55,56,57,58,59,60,61,62,5,63,64,65,66,67,68,69,70,71,72,73,74,75,76,77,78,2,52,53,4]
 (sq (sq (rg [mo 43 4,fo 44 3 1,lo 45 44,mo 46 3,xo 47 (ia 2 45 46),fo 48 1 47,lo 49 48,xo 50 (.len false (.t 49)),xo 51 (bi .lss 43 50)])
 (cD 51
 .skip
 (.exit 2)))
 (sq (.block 3
 (sq (rg [fo 54 3 1,lo 55 54,mo 56 3,xo 57 (ia 2 55 56),fo 58 1 57,lo 59 58,mo 60 4,xo 61 (ia 3 59 60),xo 62 (lt 3 61),xo 5 (.alloc 99 [(.v (.int .u64 (0))),(.v (.slice none 0 0)),(vi 0)]),xn (st 3 5 62)])
 (sq (rd [] (ot 0 (xo 63 (lt 3 5))
 (of 1 (xo 64 (.call 134 [(.t 63)]))
 (of 2 (xo 65 (.not (.t 64)))
 (of 3 (mo 66 65)
 (of 4 (xg 67 (fa 1 5) 66 false)
 (ot 5 (xg 68 (lf 67) 66 false)
 (of 6 (xg 69 (.len false (.t 68)) 66 false)
 (of 7 (xg 70 (fa 0 1) 66 false)
 (of 8 (xg 71 (fa 2 70) 66 false)
 (ot 9 (xg 72 (lf 71) 66 false)
 (of 10 (xg 73 (mv 3) 66 false)
 (ot 11 (xg 74 (ia 4 72 73) 66 false)
 (of 12 (xg 75 (fa 2 74) 66 false)
 (ot 13 (xg 76 (lf 75) 66 false)
 (of 14 (xg 77 (bi .neq 69 76) 66 false)
 (of 15 (xo 78 (.pick (.t 66) (.b true) (.t 77)))
 .nil)))))))))))))))))
 (cD 78
 (sq (rg [xo 2 (.mov (.b false))])
 .ret)
 .skip))))
 (rg [mo 52 4,xo 53 (bc .add 52 1),mo 4 53]))))))))
 (rg [mo 25 3,xo 26 (bc .add 25 1),mo 3 26]))))))
 (sq (rg [xo 2 (.mov (.b true))])
 .ret))))⟩
theorem qAF:trFn Tryz.prog 120 [([],(fs [0,1,2,3,4,5,6,7,8,9,10,11,12,13,14,15] .nil)),([],(.first 0 (.exec 1 (fs [2,3,4,5,6,7,8,9,10,11,12,13,14,15] .nil))))] [[3],[4]]=some qRF:=by kernel_rfl
abbrev qoH:Nat:=121
def qAI:FnI:=⟨26,[.tmp 4],
 (sq (rg [xo 4 (.mov (.b false))])
 (sq (sq (rg [xo 5 (.mov (ci 0))])
 (.block 0
 (.loop [5] [6,7,8,9,12,13,14,15,16,17,18,19,20,21,22,23,24,25,4,10,11,5]
 (sq (sq (rg [mo 6 5,mo 7 0,xo 8 (.len false (.t 7)),xo 9 (bi .lss 6 8)])
 (cD 9
 .skip
 (.exit 0)))
 (sq (.block 1
 (sq (rg [mo 12 0,mo 13 5,xo 14 (ia 3 12 13),fo 15 0 14,lo 16 15,mo 17 1,xo 18 (bi .eql 16 17),mo 19 18,xg 20 (mv 0) 19 true,xg 21 (mv 5) 19 true,xg 22 (ia 3 20 21) 19 true,xg 23 (fa 2 22) 19 true,xg 24 (lf 23) 19 true,xo 25 (.pick (.t 19) (.t 24) (.b false))])
 (cD 25
 (sq (rg [xo 4 (.mov (.b true))])
 .ret)
 .skip)))
 (rg [mo 10 5,xo 11 (bc .add 10 1),mo 5 11]))))))
 (sq (rg [xo 4 (.mov (.b false))])
 .ret)))⟩
theorem qQH:trFn Tryz.prog 121 [] [[5]]=some qAI:=by kernel_rfl
abbrev qZJ:Nat:=122
def qlJ:FnI:=⟨35,[.tmp 2],
 (sq (rg [xo 2 (.mov (.b false))])
 (sq (sq (rg [xo 3 (.mov (ci 0))])
 (.block 0
 (.loop [3] [4,5,6,7,10,11,12,13,14,15,16,17,18,19,20,21,22,23,24,25,26,27,28,29,30,31,32,33,34,2,8,9,3]
 (sq (sq (rg [mo 4 3,mo 5 0,xo 6 (.len false (.t 5)),xo 7 (bi .lss 4 6)])
 (cD 7
 .skip
 (.exit 0)))
 (sq (.block 1
 (sq (rg [mo 10 0,mo 11 3,xo 12 (ia 3 10 11),fo 13 0 12,lo 14 13,xo 15 (bc .lss 14 0),mo 16 15,xg 17 (mv 0) 16 false,xg 18 (mv 3) 16 false,xg 19 (ia 3 17 18) 16 false,xg 20 (fa 1 19) 16 false,xg 21 (lf 20) 16 false,xg 22 (bc .lss 21 0) 16 false,xo 23 (.pick (.t 16) (.b true) (.t 22)),mo 24 23,xg 25 (mv 0) 24 false,xg 26 (mv 0) 24 false,xg 27 (mv 3) 24 false,xg 28 (ia 3 26 27) 24 false,xg 29 (fa 0 28) 24 false,xg 30 (lf 29) 24 false,xg 31 (.call 135 [(.t 25),(.t 30)]) 24 false,xg 32 (mv 3) 24 false,xg 33 (bi .neq 31 32) 24 false,xo 34 (.pick (.t 24) (.b true) (.t 33))])
 (cD 34
 (sq (rg [xo 2 (.mov (.b false))])
 .ret)
 .skip)))
 (rg [mo 8 3,xo 9 (bc .add 8 1),mo 3 9]))))))
 (sq (rg [xo 2 (.mov (.b true))])
 .ret)))⟩
theorem qFJ:trFn Tryz.prog 122 [] [[3]]=some qlJ:=by kernel_rfl
abbrev qLF:Nat:=123
def qTF:FnI:=⟨38,[.tmp 2,.tmp 3],
 (sq (rg [xo 1 (.box 33 (.t 0)),xo 2 (.mov (ci 0)),xo 3 (.mov (ci 0))])
 (sq (sq (rg [xo 4 (.mov (ci 0))])
 (.block 0
 (.loop [4] [6,7,8,9,10,13,14,15,16,17,18,19,20,2,3,5,21,22,23,26,27,28,29,30,31,32,33,34,35,36,37,24,25,11,12,4]
 (sq (sq (rg [mo 6 4,fo 7 0 1,lo 8 7,xo 9 (.len false (.t 8)),xo 10 (bi .lss 6 9)])
 (cD 10
 .skip
 (.exit 0)))
 (sq (.block 1
 (sq (sq (rg [fo 13 0 1,lo 14 13,mo 15 4,xo 16 (ia 1 14 15),lo 17 16,xo 18 (.call 133 [(.t 17)]),xo 19 (.not (.t 18))])
 (cD 19
 (sq (rg [mo 20 4,xo 2 (.mov (ci 3)),mo 3 20])
 .ret)
 .skip))
 (sq (rg [xo 5 (.mov (ci 0))])
 (.block 2
 (.loop [5] [21,22,23,26,27,28,29,30,31,32,33,34,35,36,37,2,3,24,25,5]
 (sq (sq (rg [mo 21 5,mo 22 4,xo 23 (bi .lss 21 22)])
 (cD 23
 .skip
 (.exit 2)))
 (sq (.block 3
 (sq (rd [] (of 0 (fo 26 0 1)
 (ot 1 (lo 27 26)
 (of 2 (mo 28 5)
 (ot 3 (xo 29 (ia 1 27 28))
 (ot 4 (lo 30 29)
 (of 5 (fo 31 0 1)
 (ot 6 (lo 32 31)
 (of 7 (mo 33 4)
 (ot 8 (xo 34 (ia 1 32 33))
 (ot 9 (lo 35 34)
 (of 10 (xo 36 (.bins .eql (.t 30) (.t 35)))
 .nil))))))))))))
 (cD 36
 (sq (rg [mo 37 4,xo 2 (.mov (ci 4)),mo 3 37])
 .ret)
 .skip)))
 (rg [mo 24 5,xo 25 (bc .add 24 1),mo 5 25]))))))))
 (rg [mo 11 4,xo 12 (bc .add 11 1),mo 4 12]))))))
 (sq (rg [xo 2 (.mov (ci 0)),xo 3 (.mov (ci 0))])
 .ret)))⟩
theorem qCF:trFn Tryz.prog 123 [([],(fs [0,1,2,3,4,5,6,7,8,9,10] .nil))] [[4],[5]]=some qTF:=by kernel_rfl
abbrev qoE:Nat:=124
def qyE:FnI:=⟨68,[.tmp 2,.tmp 3],
 (sq (rg [xo 1 (.box 33 (.t 0)),xo 2 (.mov (ci 0)),xo 3 (.mov (ci 0))])
 (sq (sq (rg [xo 4 (.mov (ci 0))])
 (.block 0
 (.loop [4] [7,8,9,10,11,14,15,16,17,18,5,19,20,21,22,23,2,3,6,24,25,26,29,30,31,32,33,34,35,36,37,38,27,28,39,40,41,42,43,44,45,46,47,48,49,50,51,52,53,54,55,56,57,58,59,60,61,62,63,64,65,66,67,12,13,4]
 (sq (sq (rg [mo 7 4,fo 8 2 1,lo 9 8,xo 10 (.len false (.t 9)),xo 11 (bi .lss 7 10)])
 (cD 11
 .skip
 (.exit 0)))
 (sq (.block 1
 (sq (rg [fo 14 2 1,lo 15 14,mo 16 4,xo 17 (ia 4 15 16),xo 18 (lt 4 17),xo 5 (.alloc 77 [(.v (.string ⟨#[]⟩)),(vi 0),(vi 0),(.v (.slice none 0 0))]),xn (st 4 5 18)])
 (sq (sq (rg [fo 19 0 5,lo 20 19,xo 21 (.call 133 [(.t 20)]),xo 22 (.not (.t 21))])
 (cD 22
 (sq (rg [mo 23 4,xo 2 (.mov (ci 3)),mo 3 23])
 .ret)
 .skip))
 (sq (sq (rg [xo 6 (.mov (ci 0))])
 (.block 2
 (.loop [6] [24,25,26,29,30,31,32,33,34,35,36,37,38,2,3,27,28,6]
 (sq (sq (rg [mo 24 6,mo 25 4,xo 26 (bi .lss 24 25)])
 (cD 26
 .skip
 (.exit 2)))
 (sq (.block 3
 (sq (rd [] (of 0 (fo 29 2 1)
 (ot 1 (lo 30 29)
 (of 2 (mo 31 6)
 (ot 3 (xo 32 (ia 4 30 31))
 (of 4 (fo 33 0 32)
 (ot 5 (lo 34 33)
 (of 6 (fo 35 0 5)
 (ot 7 (lo 36 35)
 (of 8 (xo 37 (.bins .eql (.t 34) (.t 36)))
 .nil))))))))))
 (cD 37
 (sq (rg [mo 38 4,xo 2 (.mov (ci 4)),mo 3 38])
 .ret)
 .skip)))
 (rg [mo 27 6,xo 28 (bc .add 27 1),mo 6 28]))))))
 (sq (sq (rg [fo 39 1 5,lo 40 39,xo 41 (bc .neq 40 1),mo 42 41,xg 43 (fa 1 5) 42 true,xg 44 (lf 43) 42 true,xg 45 (bc .neq 44 2) 42 true,xo 46 (.pick (.t 42) (.t 45) (.b false))])
 (cD 46
 (sq (rg [mo 47 4,xo 2 (.mov (ci 9)),mo 3 47])
 .ret)
 .skip))
 (sq (sq (rg [fo 48 2 5,lo 49 48,xo 50 (bc .lss 49 1),mo 51 50,xg 52 (fa 2 5) 51 false,xg 53 (lf 52) 51 false,xg 54 (bc .gtr 53 4) 51 false,xo 55 (.pick (.t 51) (.b true) (.t 54))])
 (cD 55
 (sq (rg [mo 56 4,xo 2 (.mov (ci 10)),mo 3 56])
 .ret)
 .skip))
 (sq (rg [fo 57 3 5,lo 58 57,xo 59 (.len false (.t 58)),xo 60 (bc .lss 59 1),mo 61 60,xg 62 (fa 3 5) 61 false,xg 63 (lf 62) 61 false,xg 64 (.len false (.t 63)) 61 false,xg 65 (bc .gtr 64 4) 61 false,xo 66 (.pick (.t 61) (.b true) (.t 65))])
 (cD 66
 (sq (rg [mo 67 4,xo 2 (.mov (ci 6)),mo 3 67])
 .ret)
 .skip))))))))
 (rg [mo 12 4,xo 13 (bc .add 12 1),mo 4 13]))))))
 (sq (rg [xo 2 (.mov (ci 0)),xo 3 (.mov (ci 0))])
 .ret)))⟩
theorem qgE:trFn Tryz.prog 124 [([],(fs [0,1,2,3,4,5,6,7,8] .nil))] [[4],[6]]=some qyE:=by kernel_rfl
abbrev qwF:Nat:=125
def q7F:FnI:=⟨74,[.tmp 2,.tmp 3],
 (sq (rg [xo 1 (.box 33 (.t 0)),xo 2 (.mov (ci 0)),xo 3 (.mov (ci 0))])
 (sq (sq (rg [xo 4 (.mov (ci 0))])
 (.block 0
 (.loop [4] [8,9,10,11,12,15,16,17,18,19,5,20,21,22,23,24,25,26,2,3,27,28,29,30,31,32,33,34,35,36,37,38,39,40,41,42,43,6,44,45,46,49,50,51,52,53,7,54,55,56,57,58,59,60,61,62,63,64,65,66,67,68,69,70,71,72,73,47,48,13,14,4]
 (sq (sq (rg [mo 8 4,fo 9 1 1,lo 10 9,xo 11 (.len false (.t 10)),xo 12 (bi .lss 8 11)])
 (cD 12
 .skip
 (.exit 0)))
 (sq (.block 1
 (sq (rg [fo 15 1 1,lo 16 15,mo 17 4,xo 18 (ia 4 16 17),xo 19 (lt 4 18),xo 5 (.alloc 79 [(.v (.string ⟨#[]⟩)),(.v (.string ⟨#[]⟩)),(.v (.string ⟨#[]⟩)),(.v (.string ⟨#[]⟩))]),xn (st 4 5 19)])
 (sq (sq (rg [fo 20 0 1,lo 21 20,fo 22 0 5,lo 23 22,xo 24 (.call 96 [(.t 21),(.t 23)]),xo 25 (bc .lss 24 0)])
 (cD 25
 (sq (rg [mo 26 4,xo 2 (.mov (ci 5)),mo 3 26])
 .ret)
 .skip))
 (sq (sq (rg [fo 27 1 5,lo 28 27,xo 29 (.call 136 [(.t 28)]),xo 30 (.not (.t 29))])
 (cD 30
 (sq (rg [mo 31 4,xo 2 (.mov (ci 7)),mo 3 31])
 .ret)
 .skip))
 (sq (sq (rg [fo 32 2 5,lo 33 32,xo 34 (.call 137 [(.t 33)]),xo 35 (.not (.t 34))])
 (cD 35
 (sq (rg [mo 36 4,xo 2 (.mov (ci 8)),mo 3 36])
 .ret)
 .skip))
 (sq (sq (rg [fo 37 2 1,lo 38 37,fo 39 3 5,lo 40 39,xo 41 (.call 97 [(.t 38),(.t 40)]),xo 42 (bc .lss 41 0)])
 (cD 42
 (sq (rg [mo 43 4,xo 2 (.mov (ci 5)),mo 3 43])
 .ret)
 .skip))
 (sq (rg [xo 6 (.mov (ci 0))])
 (.block 2
 (.loop [6] [44,45,46,49,50,51,52,53,7,54,55,56,57,58,59,60,61,62,63,64,65,66,67,68,69,70,71,72,73,2,3,47,48,6]
 (sq (sq (rg [mo 44 6,mo 45 4,xo 46 (bi .lss 44 45)])
 (cD 46
 .skip
 (.exit 2)))
 (sq (.block 3
 (sq (rg [fo 49 1 1,lo 50 49,mo 51 6,xo 52 (ia 4 50 51),xo 53 (lt 4 52),xo 7 (.alloc 79 [(.v (.string ⟨#[]⟩)),(.v (.string ⟨#[]⟩)),(.v (.string ⟨#[]⟩)),(.v (.string ⟨#[]⟩))]),xn (st 4 7 53)])
 (sq (rg [fo 54 0 7,lo 55 54,fo 56 0 5,lo 57 56,xo 58 (.bins .eql (.t 55) (.t 57)),mo 59 58,xg 60 (fa 1 7) 59 true,xg 61 (lf 60) 59 true,xg 62 (fa 1 5) 59 true,xg 63 (lf 62) 59 true,xg 64 (.bins .eql (.t 61) (.t 63)) 59 true,xo 65 (.pick (.t 59) (.t 64) (.b false)),mo 66 65,xg 67 (fa 2 7) 66 true,xg 68 (lf 67) 66 true,xg 69 (fa 2 5) 66 true,xg 70 (lf 69) 66 true,xg 71 (.bins .eql (.t 68) (.t 70)) 66 true,xo 72 (.pick (.t 66) (.t 71) (.b false))])
 (cD 72
 (sq (rg [mo 73 4,xo 2 (.mov (ci 4)),mo 3 73])
 .ret)
 .skip))))
 (rg [mo 47 6,xo 48 (bc .add 47 1),mo 6 48]))))))))))))
 (rg [mo 13 4,xo 14 (bc .add 13 1),mo 4 14]))))))
 (sq (rg [xo 2 (.mov (ci 0)),xo 3 (.mov (ci 0))])
 .ret)))⟩
theorem qfF:trFn Tryz.prog 125 [] [[4],[6]]=some q7F:=by kernel_rfl
abbrev qvF:Nat:=126
def q6F:FnI:=⟨73,[.cell 2 3 true],
 (sq (rg [xo 1 (.box 60 (.t 0)),xo 2 (.alloc 33 [(.v (.slice none 0 0)),(.v (.slice none 0 0)),(.v (.slice none 0 0))])])
 (sq (rg [fo 7 0 1,lo 8 7,fo 9 2 1,lo 10 9,xo 11 (.build [(.v (.slice none 0 0)),(.v (.slice none 0 0)),(.v (.slice none 0 0))] [(0,1,(.t 8)),(2,1,(.t 10))]),xo 3 (.alloc 33 [(.v (.slice none 0 0)),(.v (.slice none 0 0)),(.v (.slice none 0 0))]),xn (st 3 3 11)])
 (sq (sq (rg [xo 4 (.mov (ci 0))])
 (.block 0
 (.loop [4] [12,13,14,15,16,19,20,21,22,23,5,24,25,26,27,28,6,29,30,31,32,33,34,35,36,37,38,39,40,41,42,43,44,45,46,47,48,49,50,51,52,53,54,55,56,57,58,59,60,61,62,63,64,65,66,67,68,69,70,71,17,18,4]
 (sq (sq (rg [mo 12 4,fo 13 1 1,lo 14 13,xo 15 (.len false (.t 14)),xo 16 (bi .lss 12 15)])
 (cD 16
 .skip
 (.exit 0)))
 (sq (.block 1
 (sq (rg [fo 19 1 1,lo 20 19,mo 21 4,xo 22 (ia 4 20 21),xo 23 (lt 4 22),xo 5 (.alloc 110 [(vi 0),(.v (.string ⟨#[]⟩)),(.v (.string ⟨#[]⟩)),(vi 0)]),xn (st 4 5 23)])
 (sq (rg [fo 24 1 5,lo 25 24,fo 26 2 5,lo 27 26,xo 28 (.build [(.v (.string ⟨#[]⟩)),(.v (.string ⟨#[]⟩)),(.v (.string ⟨#[]⟩)),(.v (.string ⟨#[]⟩))] [(1,1,(.t 25)),(2,1,(.t 27))]),xo 6 (.alloc 79 [(.v (.string ⟨#[]⟩)),(.v (.string ⟨#[]⟩)),(.v (.string ⟨#[]⟩)),(.v (.string ⟨#[]⟩))]),xn (st 4 6 28)])
 (sq (sq (rg [fo 29 0 5,lo 30 29,xo 31 (bc .geq 30 0),mo 32 31,xg 33 (fa 0 5) 32 true,xg 34 (lf 33) 32 true,xg 35 (fa 0 1) 32 true,xg 36 (lf 35) 32 true,xg 37 (.len false (.t 36)) 32 true,xg 38 (bi .lss 34 37) 32 true,xo 39 (.pick (.t 32) (.t 38) (.b false))])
 (cD 39
 (rg [fo 40 0 1,lo 41 40,fo 42 0 5,lo 43 42,xo 44 (ia 1 41 43),lo 45 44,fo 46 0 6,xn (st 1 46 45)])
 .skip))
 (sq (sq (rg [fo 47 3 5,lo 48 47,xo 49 (bc .geq 48 0),mo 50 49,xg 51 (fa 3 5) 50 true,xg 52 (lf 51) 50 true,xg 53 (fa 2 1) 50 true,xg 54 (lf 53) 50 true,xg 55 (.len false (.t 54)) 50 true,xg 56 (bi .lss 52 55) 50 true,xo 57 (.pick (.t 50) (.t 56) (.b false))])
 (cD 57
 (rg [fo 58 2 1,lo 59 58,fo 60 3 5,lo 61 60,xo 62 (ia 4 59 61),fo 63 0 62,lo 64 63,fo 65 3 6,xn (st 1 65 64)])
 .skip))
 (rg [fo 66 1 3,lo 67 66,xo 68 (lt 4 6),xo 69 (.bsl 79 4 1 [(.v (.string ⟨#[]⟩)),(.v (.string ⟨#[]⟩)),(.v (.string ⟨#[]⟩)),(.v (.string ⟨#[]⟩))] [(0,4,(.t 68))]),xo 70 (.app 79 4 64 (.t 67) (.t 69)),fo 71 1 3,xn (st 1 71 70)]))))))
 (rg [mo 17 4,xo 18 (bc .add 17 1),mo 4 18]))))))
 (sq (rg [xo 72 (lt 3 3),xn (st 3 2 72)])
 .ret))))⟩
theorem qeF:trFn Tryz.prog 126 [] [[4]]=some q6F:=by kernel_rfl
abbrev q5B:Nat:=127
theorem qEH:FnOk Tryz.prog 127:=FnOk.of (by kernel_rfl)
def qrL:FnI:=⟨17,[.tmp 2],
 (sq (rg [xo 2 (.mov (.b false))])
 (sq (rg [mo 3 0,xo 4 (.call 105 [(.t 3)]),mo 5 4,xg 6 (mv 0) 5 false,xg 7 (.bini .geq (.t 6) (.c (.int .u8 (48)))) 5 false,xg 8 (mv 7) 5 false,xg 9 (mv 0) 8 true,xg 10 (.bini .leq (.t 9) (.c (.int .u8 (57)))) 8 true,xg 11 (.pick (.t 8) (.t 10) (.b false)) 5 false,xo 12 (.pick (.t 5) (.b true) (.t 11)),mo 13 12,xg 14 (mv 0) 13 false,xg 15 (.bini .eql (.t 14) (.c (.int .u8 (45)))) 13 false,xo 16 (.pick (.t 13) (.b true) (.t 15)),mo 2 16])
 .ret))⟩
theorem qcL:trFn Tryz.prog 127 [] []=some qrL:=by kernel_rfl
abbrev q5C:Nat:=128
def q7C:FnI:=⟨19,[.tmp 4],
 (sq (rg [xo 4 (.mov (ci 0))])
 (sq (sq (rg [mo 6 0,xo 7 (.len false (.t 6)),xo 8 (.mov (ci 0))])
 (.block 0
 (.loop [8] [9,10,5,11,12,13,14,15,16,17,4,18,8]
 (sq (rg [xo 9 (bi .lss 8 7)])
 (sq (cD 9
 .skip
 (.exit 0))
 (sq (.block 1
 (sq (rg [mo 10 8,mo 5 10])
 (sq (rg [mo 11 1,mo 12 0,mo 13 5,xo 14 (ia 1 12 13),lo 15 14,xo 16 (.bins .eql (.t 11) (.t 15))])
 (cD 16
 (sq (rg [mo 17 5,mo 4 17])
 .ret)
 .skip))))
 (rg [xo 18 (bc .add 8 1),mo 8 18])))))))
 (sq (rg [xo 4 (.mov (ci (-1)))])
 .ret)))⟩
theorem q1C:trFn Tryz.prog 128 [] [[8]]=some q7C:=by kernel_rfl
abbrev qBB:Nat:=129
def qZA:FnI:=⟨9,[.tmp 4],
 (sq (rg [xo 4 (.mov (.b false))])
 (sq (rg [mo 5 0,mo 6 1,xo 7 (.call 138 [(.t 5),(.t 6)]),xo 8 (bc .geq 7 0),mo 4 8])
 .ret))⟩
theorem qAB:trFn Tryz.prog 129 [] []=some qZA:=by kernel_rfl
abbrev qIK:Nat:=130
theorem qMK:FnOk Tryz.prog 130:=FnOk.of (by kernel_rfl)
def q7E:FnI:=⟨8,[.tmp 3],
 (sq (rg [xo 2 (.box 77 (.t 0)),xo 3 (.mov (.b false))])
 (sq (rg [fo 4 0 2,lo 5 4,lo 6 1,xo 7 (.bins .eql (.t 5) (.t 6)),mo 3 7])
 .ret))⟩
theorem qEK:trFn Tryz.prog 130 [] []=some q7E:=by kernel_rfl
abbrev qiH:Nat:=131
def q5H:FnI:=⟨11,[.tmp 4,.tmp 5],
 (sq (rg [xo 4 (.mov (.c (.string ⟨#[]⟩))),xo 5 (.mov (.b false))])
 (sq (rg [mo 6 0,mo 7 1,xo 8 (.call 139 [(.t 6),(.t 7)]),xo 9 (.ext 0 (.t 8)),xo 10 (.ext 1 (.t 8)),mo 4 9,mo 5 10])
 .ret))⟩
theorem qKH:trFn Tryz.prog 131 [] []=some q5H:=by kernel_rfl
abbrev qJO:Nat:=132
def qdO:FnI:=⟨13,[.cell 2 1 false],
 (sq (rg [xo 2 (.alloc 4 [(.v (.bool false))])])
 (sq (sq (rg [mo 4 0,xo 5 (.len true (.t 4)),xo 6 (bc .gtr 5 32)])
 (cD 6
 (sq (rg [xn (.store 1 (.t 2) (.b false))])
 .ret)
 .skip))
 (sq (sq (rg [mo 7 0,xo 8 (.call 140 [(.t 7),(.c (.int .u8 (46)))])])
 (.block 0
 (.rfun (.t 8) [9]
 (rg [mo 3 9])
 (.block 1
 (sq (rg [mo 10 3,xo 11 (.call 76 [(.t 10)]),xo 12 (.not (.t 11))])
 (cD 12
 (sq (rg [xn (.store 1 (.t 2) (.b false))])
 .ret)
 .skip))))))
 (sq (rg [xn (.store 1 (.t 2) (.b true))])
 .ret))))⟩
theorem qiN:trFn Tryz.prog 132 [] []=some qdO:=by kernel_rfl
abbrev qvH:Nat:=133
def qJI:FnI:=⟨29,[.tmp 2],
 (sq (rg [xo 2 (.mov (.b false))])
 (sq (sq (rg [mo 4 0,xo 5 (.len true (.t 4)),xo 6 (bc .lss 5 1),mo 7 6,xg 8 (mv 0) 7 false,xg 9 (.len true (.t 8)) 7 false,xg 10 (bc .gtr 9 16) 7 false,xo 11 (.pick (.t 7) (.b true) (.t 10)),mo 12 11,xg 13 (mv 0) 12 false,xg 14 (.idxs (.t 13) (ci 0)) 12 false,xg 15 (.call 141 [(.t 14)]) 12 false,xg 16 (.not (.t 15)) 12 false,xo 17 (.pick (.t 12) (.b true) (.t 16))])
 (cD 17
 (sq (rg [xo 2 (.mov (.b false))])
 .ret)
 .skip))
 (sq (sq (rg [xo 3 (.mov (ci 0))])
 (.block 0
 (.loop [3] [18,19,20,21,24,25,26,27,28,2,22,23,3]
 (sq (sq (rg [mo 18 3,mo 19 0,xo 20 (.len true (.t 19)),xo 21 (bi .lss 18 20)])
 (cD 21
 .skip
 (.exit 0)))
 (sq (.block 1
 (sq (rg [mo 24 0,mo 25 3,xo 26 (.idxs (.t 24) (.t 25)),xo 27 (.call 142 [(.t 26)]),xo 28 (.not (.t 27))])
 (cD 28
 (sq (rg [xo 2 (.mov (.b false))])
 .ret)
 .skip)))
 (rg [mo 22 3,xo 23 (bc .add 22 1),mo 3 23]))))))
 (sq (rg [xo 2 (.mov (.b true))])
 .ret))))⟩
theorem qZH:trFn Tryz.prog 133 [] [[3]]=some qJI:=by kernel_rfl
abbrev qaJ:Nat:=134
def qmJ:FnI:=⟨29,[.tmp 2],
 (sq (rg [xo 1 (.box 99 (.t 0)),xo 2 (.mov (.b false))])
 (sq (rg [xo 6 (lt 3 1),xo 7 (.call 143 [(.t 6)]),mo 5 7,xo 8 (.ext 0 (.t 5)),xo 9 (.ext 1 (.t 5)),mo 3 8,mo 4 9])
 (sq (rg [mo 10 4,xo 11 (bc .eql 10 0),mo 12 11,xg 13 (fa 1 1) 12 true,xg 14 (lf 13) 12 true,xg 15 (.len false (.t 14)) 12 true,xg 16 (bc .geq 15 1) 12 true,xo 17 (.pick (.t 12) (.t 16) (.b false)),mo 18 17,xg 19 (fa 1 1) 18 true,xg 20 (lf 19) 18 true,xg 21 (.len false (.t 20)) 18 true,xg 22 (bc .leq 21 4) 18 true,xo 23 (.pick (.t 18) (.t 22) (.b false)),mo 24 23,xg 25 (fa 2 1) 24 true,xg 26 (lf 25) 24 true,xg 27 (bc .geq 26 0) 24 true,xo 28 (.pick (.t 24) (.t 27) (.b false)),mo 2 28])
 .ret)))⟩
theorem qGJ:trFn Tryz.prog 134 [] []=some qmJ:=by kernel_rfl
abbrev qkG:Nat:=135
def qzG:FnI:=⟨20,[.tmp 4],
 (sq (rg [xo 4 (.mov (ci 0))])
 (sq (sq (rg [xo 5 (.mov (ci 0))])
 (.block 0
 (.loop [5] [6,7,8,9,12,13,14,15,16,17,18,19,4,10,11,5]
 (sq (sq (rg [mo 6 5,mo 7 0,xo 8 (.len false (.t 7)),xo 9 (bi .lss 6 8)])
 (cD 9
 .skip
 (.exit 0)))
 (sq (.block 1
 (sq (rg [mo 12 0,mo 13 5,xo 14 (ia 3 12 13),fo 15 0 14,lo 16 15,mo 17 1,xo 18 (bi .eql 16 17)])
 (cD 18
 (sq (rg [mo 19 5,mo 4 19])
 .ret)
 .skip)))
 (rg [mo 10 5,xo 11 (bc .add 10 1),mo 5 11]))))))
 (sq (rg [xo 4 (.mov (ci (-1)))])
 .ret)))⟩
theorem qVG:trFn Tryz.prog 135 [] [[5]]=some qzG:=by kernel_rfl
abbrev qNF:Nat:=136
def qVF:FnI:=⟨20,[.tmp 2],
 (sq (rg [xo 2 (.mov (.b false))])
 (sq (sq (rg [mo 3 0,xo 4 (.len true (.t 3)),xo 5 (bc .gtr 4 2),mo 6 5,xg 7 (mv 0) 6 true,xg 8 (.slcs (.t 7) none (some (ci 2))) 6 true,xg 9 (.bins .eql (.t 8) (.c (.string ⟨#[42,46]⟩))) 6 true,xo 10 (.pick (.t 6) (.t 9) (.b false))])
 (cD 10
 (sq (rg [mo 11 0,xo 12 (.slcs (.t 11) (some (ci 2)) none),xo 13 (.call 144 [(.t 12)]),mo 2 13])
 .ret)
 .skip))
 (sq (rg [mo 14 0,xo 15 (.bins .eql (.t 14) (.c (.string ⟨#[42]⟩))),mo 16 15,xg 17 (mv 0) 16 false,xg 18 (.call 144 [(.t 17)]) 16 false,xo 19 (.pick (.t 16) (.b true) (.t 18)),mo 2 19])
 .ret)))⟩
theorem qEF:trFn Tryz.prog 136 [] []=some qVF:=by kernel_rfl
abbrev quH:Nat:=137
def qII:FnI:=⟨34,[.tmp 2],
 (sq (rg [xo 2 (.mov (.b false))])
 (sq (sq (rg [mo 4 0,xo 5 (.len true (.t 4)),xo 6 (bc .lss 5 1),mo 7 6,xg 8 (mv 0) 7 false,xg 9 (.len true (.t 8)) 7 false,xg 10 (bc .gtr 9 32) 7 false,xo 11 (.pick (.t 7) (.b true) (.t 10)),mo 12 11,xg 13 (mv 0) 12 false,xg 14 (.idxs (.t 13) (ci 0)) 12 false,xg 15 (.bini .neq (.t 14) (.c (.int .u8 (47)))) 12 false,xo 16 (.pick (.t 12) (.b true) (.t 15))])
 (cD 16
 (sq (rg [xo 2 (.mov (.b false))])
 .ret)
 .skip))
 (sq (sq (rg [xo 3 (.mov (ci 0))])
 (.block 0
 (.loop [3] [17,18,19,20,23,24,25,26,27,28,29,30,31,32,33,2,21,22,3]
 (sq (sq (rg [mo 17 3,mo 18 0,xo 19 (.len true (.t 18)),xo 20 (bi .lss 17 19)])
 (cD 20
 .skip
 (.exit 0)))
 (sq (.block 1
 (sq (rg [mo 23 0,mo 24 3,xo 25 (.idxs (.t 23) (.t 24)),xo 26 (.call 142 [(.t 25)]),xo 27 (.not (.t 26)),mo 28 27,xg 29 (mv 0) 28 true,xg 30 (mv 3) 28 true,xg 31 (.idxs (.t 29) (.t 30)) 28 true,xg 32 (.bini .neq (.t 31) (.c (.int .u8 (47)))) 28 true,xo 33 (.pick (.t 28) (.t 32) (.b false))])
 (cD 33
 (sq (rg [xo 2 (.mov (.b false))])
 .ret)
 .skip)))
 (rg [mo 21 3,xo 22 (bc .add 21 1),mo 3 22]))))))
 (sq (rg [xo 2 (.mov (.b true))])
 .ret))))⟩
theorem qYH:trFn Tryz.prog 137 [] [[3]]=some qII:=by kernel_rfl
abbrev qJB:Nat:=138
def qgA:FnI:=⟨19,[.tmp 4],
 (sq (rg [xo 4 (.mov (ci 0))])
 (sq (sq (rg [mo 6 0,xo 7 (.len false (.t 6)),xo 8 (.mov (ci 0))])
 (.block 0
 (.loop [8] [9,10,5,11,12,13,14,15,16,17,4,18,8]
 (sq (rg [xo 9 (bi .lss 8 7)])
 (sq (cD 9
 .skip
 (.exit 0))
 (sq (.block 1
 (sq (rg [mo 10 8,mo 5 10])
 (sq (rg [mo 11 1,mo 12 0,mo 13 5,xo 14 (ia 4 12 13),xo 15 (lt 4 14),xo 16 (.callv (.t 11) [(.t 15)])])
 (cD 16
 (sq (rg [mo 17 5,mo 4 17])
 .ret)
 .skip))))
 (rg [xo 18 (bc .add 8 1),mo 8 18])))))))
 (sq (rg [xo 4 (.mov (ci (-1)))])
 .ret)))⟩
theorem qIB:trFn Tryz.prog 138 [] [[8]]=some qgA:=by kernel_rfl
abbrev qmE:Nat:=139
def qwE:FnI:=⟨15,[.tmp 4,.tmp 5],
 (sq (rg [xo 4 (.mov (.c (.string ⟨#[]⟩))),xo 5 (.mov (.b false))])
 (sq (sq (rg [mo 6 0,mo 7 1,xo 8 (.call 145 [(.t 6),(.t 7)]),xo 9 (.not (.t 8))])
 (cD 9
 (sq (rg [mo 10 0,mo 4 10,xo 5 (.mov (.b false))])
 .ret)
 .skip))
 (sq (rg [mo 11 0,mo 12 1,xo 13 (.len true (.t 12)),xo 14 (.slcs (.t 11) (some (.t 13)) none),mo 4 14,xo 5 (.mov (.b true))])
 .ret)))⟩
theorem qeE:trFn Tryz.prog 139 [] []=some qwE:=by kernel_rfl
abbrev q5M:Nat:=140
def quI:FnI:=⟨6,[.tmp 4],
 (sq (rg [xo 2 (.box 9 (.t 0)),xo 3 (.box 5 (.t 1)),xo 4 (.mov (.c .nilFunc))])
 (sq (rg [xo 5 (.mkf (.func 146) [] [(.t 2),(.t 3)]),mo 4 5])
 .ret))⟩
theorem qbM:trFn Tryz.prog 140 [] []=some quI:=by kernel_rfl
abbrev qkI:Nat:=141
def q0I:FnI:=⟨9,[.tmp 2],
 (sq (rg [xo 2 (.mov (.b false))])
 (sq (rg [mo 3 0,xo 4 (.bini .geq (.t 3) (.c (.int .u8 (97)))),mo 5 4,xg 6 (mv 0) 5 true,xg 7 (.bini .leq (.t 6) (.c (.int .u8 (122)))) 5 true,xo 8 (.pick (.t 5) (.t 7) (.b false)),mo 2 8])
 .ret))⟩
theorem qSI:trFn Tryz.prog 141 [] []=some q0I:=by kernel_rfl
abbrev qtH:Nat:=142
def qHI:FnI:=⟨17,[.tmp 2],
 (sq (rg [xo 2 (.mov (.b false))])
 (sq (rg [mo 3 0,xo 4 (.call 141 [(.t 3)]),mo 5 4,xg 6 (mv 0) 5 false,xg 7 (.bini .geq (.t 6) (.c (.int .u8 (48)))) 5 false,xg 8 (mv 7) 5 false,xg 9 (mv 0) 8 true,xg 10 (.bini .leq (.t 9) (.c (.int .u8 (57)))) 8 true,xg 11 (.pick (.t 8) (.t 10) (.b false)) 5 false,xo 12 (.pick (.t 5) (.b true) (.t 11)),mo 13 12,xg 14 (mv 0) 13 false,xg 15 (.bini .eql (.t 14) (.c (.int .u8 (45)))) 13 false,xo 16 (.pick (.t 13) (.b true) (.t 15)),mo 2 16])
 .ret))⟩
theorem qXH:trFn Tryz.prog 142 [] []=some qHI:=by kernel_rfl
abbrev qrH:Nat:=143
def qEI:FnI:=⟨36,[.tmp 2,.tmp 3],
 (sq (rg [xo 1 (.box 99 (.t 0)),xo 2 (.mov (.c (.slice none 0 0))),xo 3 (.mov (ci 0))])
 (sq (rg [xo 6 (.bsl 3 1 0 [] []),mo 4 6])
 (sq (sq (rg [fo 7 0 1,lo 8 7,xo 9 (.call 148 [(.t 8)]),mo 5 9])
 (.block 0
 (.loop [4,5] [10,11,17,18,19,20,21,22,23,24,25,26,27,28,29,30,2,3,31,32,33,34,4,12,13,14,15,16,5]
 (sq (sq (rg [mo 10 5,xo 11 (.bini .neq (.t 10) (ci (-1)))])
 (cD 11
 .skip
 (.exit 0)))
 (sq (.block 1
 (sq (sq (rg [mo 17 5,xo 18 (bc .lss 17 0),mo 19 18,xg 20 (mv 5) 19 false,xg 21 (fa 1 1) 19 false,xg 22 (lf 21) 19 false,xg 23 (.len false (.t 22)) 19 false,xg 24 (bi .geq 20 23) 19 false,xo 25 (.pick (.t 19) (.b true) (.t 24)),mo 26 25,xg 27 (mv 4) 26 false,xg 28 (mv 5) 26 false,xg 29 (.call 149 [(.t 27),(.t 28)]) 26 false,xo 30 (.pick (.t 26) (.b true) (.t 29))])
 (cD 30
 (sq (rg [xo 2 (.mov (.c (.slice none 0 0))),xo 3 (.mov (ci 11))])
 .ret)
 .skip))
 (rg [mo 31 4,mo 32 5,xo 33 (.bsl 3 1 1 [(vi 0)] [(0,1,(.t 32))]),xo 34 (.app 3 1 8 (.t 31) (.t 33)),mo 4 34])))
 (rg [fo 12 1 1,lo 13 12,mo 14 5,xo 15 (ia 1 13 14),lo 16 15,mo 5 16]))))))
 (sq (rg [mo 35 4,mo 2 35,xo 3 (.mov (ci 0))])
 .ret))))⟩
theorem qUH:trFn Tryz.prog 143 [] [[4,5]]=some qEI:=by kernel_rfl
abbrev qwH:Nat:=144
def qKI:FnI:=⟨22,[.tmp 2],
 (sq (rg [xo 2 (.mov (.b false))])
 (sq (rg [mo 5 0,xo 6 (.call 150 [(.t 5),(.c (.int .u8 (46)))]),mo 3 6])
 (sq (sq (rg [xo 4 (.mov (ci 0))])
 (.block 0
 (.loop [4] [7,8,9,10,13,14,15,16,17,18,2,11,12,4]
 (sq (sq (rg [mo 7 4,mo 8 3,xo 9 (.len false (.t 8)),xo 10 (bi .lss 7 9)])
 (cD 10
 .skip
 (.exit 0)))
 (sq (.block 1
 (sq (rg [mo 13 3,mo 14 4,xo 15 (ia 1 13 14),lo 16 15,xo 17 (.call 133 [(.t 16)]),xo 18 (.not (.t 17))])
 (cD 18
 (sq (rg [xo 2 (.mov (.b false))])
 .ret)
 .skip)))
 (rg [mo 11 4,xo 12 (bc .add 11 1),mo 4 12]))))))
 (sq (rg [mo 19 0,xo 20 (.len true (.t 19)),xo 21 (bc .leq 20 32),mo 2 21])
 .ret))))⟩
theorem qaH:trFn Tryz.prog 144 [] [[4]]=some qKI:=by kernel_rfl
abbrev qlE:Nat:=145
def qvE:FnI:=⟨18,[.tmp 4],
 (sq (rg [xo 4 (.mov (.b false))])
 (sq (rg [mo 5 0,xo 6 (.len true (.t 5)),mo 7 1,xo 8 (.len true (.t 7)),xo 9 (bi .geq 6 8),mo 10 9,xg 11 (mv 0) 10 true,xg 12 (mv 1) 10 true,xg 13 (.len true (.t 12)) 10 true,xg 14 (.slcs (.t 11) none (some (.t 13))) 10 true,xg 15 (mv 1) 10 true,xg 16 (.bins .eql (.t 14) (.t 15)) 10 true,xo 17 (.pick (.t 10) (.t 16) (.b false)),mo 4 17])
 .ret))⟩
theorem qdE:trFn Tryz.prog 145 [] []=some qvE:=by kernel_rfl
abbrev q7K:Nat:=146
theorem qFL:FnOk Tryz.prog 146:=FnOk.of (by kernel_rfl)
def q5F:FnI:=⟨23,[],
 (.block 0
 (.loop [] [5,6,7,4,8,9,10,11,12,13,14,15,16,17,18,19,20,21,22]
 (.block 1
 (sq (rg [lo 5 1,lo 6 2,xo 7 (.call 147 [(.t 5),(.t 6)]),mo 4 7])
 (sq (sq (rg [mo 8 4,xo 9 (bc .lss 8 0)])
 (cD 9
 (sq (rg [mo 10 0,lo 11 1,xo 12 (.callv (.t 10) [(.t 11)])])
 .ret)
 .skip))
 (sq (sq (rg [mo 13 0,lo 14 1,mo 15 4,xo 16 (.slcs (.t 14) none (some (.t 15))),xo 17 (.callv (.t 13) [(.t 16)]),xo 18 (.not (.t 17))])
 (cD 18
 .ret
 .skip))
 (rg [lo 19 1,mo 20 4,xo 21 (bc .add 20 1),xo 22 (.slcs (.t 19) (some (.t 21)) none),xn (st 1 1 22)])))))))⟩
theorem qiK:trFn Tryz.prog 146 [] [[]]=some q5F:=by kernel_rfl
abbrev qhH:Nat:=147
def q4H:FnI:=⟨8,[.tmp 4],
 (sq (rg [xo 4 (.mov (ci 0))])
 (sq (rg [mo 5 0,mo 6 1,xo 7 (.call 151 [(.t 5),(.t 6)]),mo 4 7])
 .ret))⟩
theorem qJH:trFn Tryz.prog 147 [] []=some q4H:=by kernel_rfl
abbrev qpG:Nat:=148
def q4G:FnI:=⟨7,[.tmp 2],
 (sq (rg [xo 2 (.mov (ci 0))])
 (sq (rg [mo 3 0,xo 4 (.bini .rem (.t 3) (.c (.int .u64 (4294967296)))),xo 5 (.conv .i64 (.t 4)),xo 6 (bc .sub 5 1),mo 2 6])
 .ret))⟩
theorem qaG:trFn Tryz.prog 148 [] []=some q4G:=by kernel_rfl
abbrev qgI:Nat:=149
def qpD:FnI:=⟨18,[.tmp 4],
 (sq (rg [xo 4 (.mov (.b false))])
 (sq (sq (rg [xo 5 (.mov (ci 0))])
 (.block 0
 (.loop [5] [6,7,8,9,12,13,14,15,16,17,4,10,11,5]
 (sq (sq (rg [mo 6 5,mo 7 0,xo 8 (.len false (.t 7)),xo 9 (bi .lss 6 8)])
 (cD 9
 .skip
 (.exit 0)))
 (sq (.block 1
 (sq (rg [mo 12 0,mo 13 5,xo 14 (ia 1 12 13),lo 15 14,mo 16 1,xo 17 (bi .eql 15 16)])
 (cD 17
 (sq (rg [xo 4 (.mov (.b true))])
 .ret)
 .skip)))
 (rg [mo 10 5,xo 11 (bc .add 10 1),mo 5 11]))))))
 (sq (rg [xo 4 (.mov (.b false))])
 .ret)))⟩
theorem qOI:trFn Tryz.prog 149 [] [[5]]=some qpD:=by kernel_rfl
abbrev qoG:Nat:=150
def q3G:FnI:=⟨35,[.tmp 4],
 (sq (rg [xo 4 (.mov (.c (.slice none 0 0)))])
 (sq (rg [xo 8 (.bsl 9 1 0 [] []),mo 5 8])
 (sq (rg [xo 6 (.mov (ci 0))])
 (sq (sq (rg [xo 7 (.mov (ci 0))])
 (.block 0
 (.loop [5,6,7] [9,10,11,12,15,16,17,18,19,20,21,22,23,24,25,26,5,27,28,6,13,14,7]
 (sq (sq (rg [mo 9 7,mo 10 0,xo 11 (.len true (.t 10)),xo 12 (bi .lss 9 11)])
 (cD 12
 .skip
 (.exit 0)))
 (sq (.block 1
 (sq (rg [mo 15 0,mo 16 7,xo 17 (.idxs (.t 15) (.t 16)),mo 18 1,xo 19 (bi .eql 17 18)])
 (cD 19
 (sq (rg [mo 20 5,mo 21 0,mo 22 6,mo 23 7,xo 24 (.slcs (.t 21) (some (.t 22)) (some (.t 23))),xo 25 (.bsl 9 1 1 [(.v (.string ⟨#[]⟩))] [(0,1,(.t 24))]),xo 26 (.app 9 1 16 (.t 20) (.t 25)),mo 5 26])
 (rg [mo 27 7,xo 28 (bc .add 27 1),mo 6 28]))
 .skip)))
 (rg [mo 13 7,xo 14 (bc .add 13 1),mo 7 14]))))))
 (sq (rg [mo 29 5,mo 30 0,mo 31 6,xo 32 (.slcs (.t 30) (some (.t 31)) none),xo 33 (.bsl 9 1 1 [(.v (.string ⟨#[]⟩))] [(0,1,(.t 32))]),xo 34 (.app 9 1 16 (.t 29) (.t 33)),mo 4 34])
 .ret)))))⟩
theorem qZG:trFn Tryz.prog 150 [] [[5,6,7]]=some q3G:=by kernel_rfl
abbrev qkE:Nat:=151
end Go.Proofs.YtkogfpniapaigaaGreat
