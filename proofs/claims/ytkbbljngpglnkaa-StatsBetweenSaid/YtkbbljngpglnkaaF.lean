/- The functions, as the evaluator reads them: each is what the given program's code says (checked by the kernel). -/
import Derived.Test.YtkbbljngpglnkaaSxB
import Derived.Test.YtkbbljngpglnkaaRows
set_option linter.unusedVariables false
set_option linter.unusedSimpArgs false
namespace Go.Proofs.Ytkbbljngpglnkaa
open Go.Proofs.Ytkbbljngpglnkaa.Sx
abbrev zl0:List SV:=[(.v (.int .i64 (0))),(.v (.string ⟨#[]⟩)),(.v (.string ⟨#[]⟩)),(.v (.string ⟨#[]⟩)),(.v (.int .i64 (0))),(.v (.int .i64 (0))),(.v (.int .i64 (0))),(.v (.slice none 0 0)),(.v (.slice none 0 0)),(.v (.slice none 0 0)),(.v (.int .i64 (0))),(.v (.int .i64 (0))),(.v (.int .i64 (0))),(.v (.int .i64 (0))),(.v (.int .i64 (0))),(.v (.int .i64 (0))),(.v (.int .i64 (0))),(.v (.int .i64 (0))),(.v (.int .i64 (0))),(.v (.int .u64 (0))),(.v (.int .i64 (0))),(.v (.int .i64 (0))),(.v (.int .i64 (0))),(.v (.int .i64 (0))),(.v (.bool false)),(.v (.int .i64 (0))),(.v (.int .i64 (0))),(.v (.int .i64 (0))),(.v (.int .i64 (0))),(.v (.int .i64 (0))),(.v (.int .i64 (0))),(.v (.int .i64 (0))),(.v (.int .u64 (0))),(.v (.int .u64 (0))),(.v (.int .u64 (0))),(.v (.int .u64 (0))),(.v (.int .u64 (0))),(.v (.int .u64 (0))),(.v (.int .u64 (0))),(.v (.int .u64 (0))),(.v (.int .u64 (0))),(.v (.int .u64 (0))),(.v (.int .u64 (0))),(.v (.int .u64 (0)))]
abbrev zl1:List SV:=[(.v (.int .i64 (0))),(.v (.int .i64 (0))),(.v (.int .i64 (0))),(.v (.int .i64 (0))),(.v (.int .i64 (0))),(.v (.bool false)),(.v (.int .i64 (0))),(.v (.bool false)),(.v (.bool false)),(.v (.bool false)),(.v (.int .i64 (0))),(.v (.int .i64 (0))),(.v (.int .i64 (0))),(.v (.int .i64 (0))),(.v (.int .i64 (0))),(.v (.int .i64 (0))),(.v (.int .i64 (0))),(.v (.int .u64 (0))),(.v (.int .u64 (0))),(.v (.int .u64 (0))),(.v (.int .u64 (0))),(.v (.int .u64 (0))),(.v (.int .u64 (0)))]
abbrev zl2:List SV:=[(.v (.int .i64 (0))),(.v (.int .i64 (0))),(.v (.int .i64 (0))),(.v (.int .i64 (0))),(.v (.int .i64 (0))),(.v (.int .i64 (0))),(.v (.int .i64 (0))),(.v (.int .u64 (0))),(.v (.int .u64 (0))),(.v (.int .u64 (0))),(.v (.int .u64 (0))),(.v (.int .u64 (0))),(.v (.int .u64 (0)))]
abbrev q9A:Nat:=3
abbrev qyF:Nat:=4
abbrev qHF:Nat:=9
abbrev qMC:Nat:=22
abbrev qID:Nat:=23
abbrev qrD:Nat:=24
abbrev qlE:Nat:=25
abbrev qJD:Nat:=26
abbrev qEA:Nat:=28
abbrev qSK:Nat:=29
abbrev q9I:Nat:=30
abbrev qxF:Nat:=32
abbrev qJF:Nat:=34
abbrev qHD:Nat:=37
abbrev qGA:Nat:=38
abbrev q9C:Nat:=42
abbrev qEB:Nat:=46
abbrev qBJ:Nat:=47
abbrev qAJ:Nat:=53
abbrev qbH:Nat:=58
abbrev qbA:Nat:=60
abbrev q1D:Nat:=61
abbrev qCA:Nat:=63
abbrev qIF:Nat:=67
abbrev qTA:Nat:=69
abbrev qeA:Nat:=72
abbrev qZB:Nat:=79
abbrev qOA:Nat:=81
abbrev qoL:Nat:=84
abbrev qKC:Nat:=86
abbrev qgG:Nat:=93
abbrev qzB:Nat:=97
abbrev qGG:Nat:=158
abbrev mv (n:Nat):SOp:=.mov (.t n)
abbrev lf (n:Nat):SOp:=.load false 1 (.t n)
abbrev lt (s n:Nat):SOp:=.load true s (.t n)
abbrev fa (k n:Nat):SOp:=.fadr k (.t n)
abbrev nk (n:Nat):SOp:=.nck (.t n)
abbrev ci (n:Int):Opd:=.c (.int .i64 n)
abbrev vi (n:Int):SV:=.v (.int .i64 n)
abbrev of (i:Nat) (o:SOper) (r:OT):OT:=.op ⟨i,false,[],o⟩ r
abbrev ot (i:Nat) (o:SOper) (r:OT):OT:=.op ⟨i,true,[],o⟩ r
abbrev mo (d n:Nat):SOper:=xo d (mv n)
abbrev lo (d n:Nat):SOper:=xo d (lf n)
abbrev fo (d k n:Nat):SOper:=xo d (fa k n)
abbrev sq (a b:SCode):SCode:=.seq a b
abbrev rg (l:List SOper):SCode:=.reg l
abbrev rd (l:List Nat) (t:OT):SCode:=.regD l t
abbrev bi (o:BinOp) (a b:Nat):SOp:=.bini o (.t a) (.t b)
abbrev bc (o:BinOp) (a:Nat) (n:Int):SOp:=.bini o (.t a) (ci n)
abbrev cD (a:Nat) (x y:SCode):SCode:=.cond (.t a) x y
abbrev ia (k a b:Nat):SOp:=.iadr k (.t a) (.t b)
abbrev st (k a b:Nat):SOp:=.store k (.t a) (.t b)
abbrev fs (l:List Nat) (r:OI):OI:=l.foldr .first r
abbrev qqC:Nat:=3
def qtC:FnI:=⟨164,[.tmp 6],
 (sq (rg [xo 3 (.box 28 (.t 0)),xo 6 (.mov (.b false))])
 (sq (rg [xo 21 (.build [(vi 0),(.v (.string ⟨#[]⟩)),(.v (.string ⟨#[]⟩)),(.v (.string ⟨#[]⟩)),(vi 0),(vi 0),(vi 0),(.v (.slice none 0 0)),(.v (.slice none 0 0)),(.v (.slice none 0 0))] [(0,1,(ci 6))]),mo 22 1,xo 23 (.build zl0 [(0,10,(.t 21)),(10,1,(.t 22))]),xo 7 (.alloc 42 zl0),xn (st 44 7 23)])
 (sq (sq (rg [xo 24 (lt 8 3),xo 25 (.call 5 [(.t 24)]),mo 26 25,xg 27 (mv 2) 26 false,xg 28 (.len false (.t 27)) 26 false,xg 29 (bc .gtr 28 100) 26 false,xo 30 (.pick (.t 26) (.b true) (.t 29)),mo 31 30,xg 32 (lt 8 3) 31 false,xg 33 (lt 44 7) 31 false,xg 34 (.call 6 [(.t 32),(.t 33)]) 31 false,xg 35 (.not (.t 34)) 31 false,xo 36 (.pick (.t 31) (.b true) (.t 35))])
 (cD 36
 (sq (rg [xo 37 (.call 7 []),mo 6 37])
 .ret)
 .skip))
 (sq (sq (rg [xo 8 (.mov (ci 0))])
 (.block 0
 (.loop [8] [38,39,40,41,42,9,45,46,47,48,49,50,51,52,55,56,57,58,59,60,61,62,63,64,6,53,54,43,44,8]
 (sq (sq (rg [mo 38 8,fo 39 6 3,lo 40 39,xo 41 (.len false (.t 40)),xo 42 (bi .lss 38 41)])
 (cD 42
 .skip
 (.exit 0)))
 (sq (.block 1
 (sq (rg [xo 9 (.mov (ci 0))])
 (.block 2
 (.loop [9] [45,46,47,48,49,50,51,52,55,56,57,58,59,60,61,62,63,64,6,53,54,9]
 (sq (sq (rg [mo 45 9,fo 46 6 3,lo 47 46,mo 48 8,xo 49 (ia 1 47 48),lo 50 49,xo 51 (.len false (.t 50)),xo 52 (bi .lss 45 51)])
 (cD 52
 .skip
 (.exit 2)))
 (sq (.block 3
 (sq (rg [fo 55 6 3,lo 56 55,mo 57 8,xo 58 (ia 1 56 57),lo 59 58,mo 60 9,xo 61 (ia 1 59 60),lo 62 61,xo 63 (.bini .gtr (.t 62) (.c (.int .u64 (1000000))))])
 (cD 63
 (sq (rg [xo 64 (.call 7 []),mo 6 64])
 .ret)
 .skip)))
 (rg [mo 53 9,xo 54 (bc .add 53 1),mo 9 54])))))))
 (rg [mo 43 8,xo 44 (bc .add 43 1),mo 8 44]))))))
 (sq (rg [fo 66 6 3,lo 67 66,xo 68 (.call 8 [(.t 67)]),mo 65 68,xo 69 (.ext 0 (.t 65)),xo 70 (.ext 1 (.t 65)),xo 10 (.alloc 38 [(.v (.int .u64 (0))),(.v (.int .u64 (0))),(.v (.int .u64 (0))),(.v (.int .u64 (0))),(.v (.int .u64 (0))),(.v (.int .u64 (0)))]),xn (st 6 10 69),mo 11 70])
 (sq (sq (rg [xo 12 (.mov (ci 0))])
 (.block 4
 (.loop [12] [71,72,73,74,75,76,77,80,81,82,83,84,85,86,87,88,89,90,91,93,94,95,96,97,98,99,100,101,102,103,104,105,106,107,92,108,109,13,14,110,111,112,113,115,116,117,114,118,119,120,15,16,17,121,78,79,12]
 (sq (sq (rg [mo 71 12,xo 72 (bc .lss 71 60),mo 73 72,xg 74 (fa 24 7) 73 true,xg 75 (lf 74) 73 true,xg 76 (.not (.t 75)) 73 true,xo 77 (.pick (.t 73) (.t 76) (.b false))])
 (cD 77
 .skip
 (.exit 4)))
 (sq (.block 5
 (sq (sq (rg [mo 80 12,mo 81 2,xo 82 (.len false (.t 81)),xo 83 (bi .lss 80 82),mo 84 83,xg 85 (mv 2) 84 true,xg 86 (mv 12) 84 true,xg 87 (ia 1 85 86) 84 true,xg 88 (lf 87) 84 true,xg 89 (.len false (.t 88)) 84 true,xg 90 (bc .eql 89 2) 84 true,xo 91 (.pick (.t 84) (.t 90) (.b false))])
 (cD 91
 (sq (rd [] (of 0 (fo 93 6 3)
 (ot 1 (lo 94 93)
 (of 2 (mo 95 2)
 (of 3 (mo 96 12)
 (ot 4 (xo 97 (ia 1 95 96))
 (ot 5 (lo 98 97)
 (ot 6 (xo 99 (.iadr 1 (.t 98) (ci 0)))
 (ot 7 (lo 100 99)
 (of 8 (mo 101 2)
 (of 9 (mo 102 12)
 (ot 10 (xo 103 (ia 1 101 102))
 (ot 11 (lo 104 103)
 (ot 12 (xo 105 (.iadr 1 (.t 104) (ci 1)))
 (ot 13 (lo 106 105)
 (of 14 (xo 107 (.call 9 [(.t 94),(.t 100),(.t 106)]))
 (of 15 (mo 92 107)
 (of 16 (xo 108 (.ext 0 (.t 92)))
 (of 17 (xo 109 (.ext 1 (.t 92)))
 (of 18 (mo 13 108)
 (of 19 (mo 14 109)
 .nil)))))))))))))))))))))
 (sq (rg [mo 110 14,xo 111 (bc .eql 110 0)])
 (cD 111
 (rg [mo 112 13,fo 113 6 3,xn (st 1 113 112)])
 .skip)))
 .skip))
 (sq (rg [xo 115 (lt 8 3),xo 116 (lt 44 7),xo 117 (.call 10 [(.t 115),(.t 116)]),mo 114 117,xo 118 (.ext 0 (.t 114)),xo 119 (.ext 1 (.t 114)),xo 120 (.ext 2 (.t 114)),xo 15 (.alloc 28 [(vi 0),(vi 0),(vi 0),(.v (.slice none 0 0)),(.v (.slice none 0 0)),(.v (.slice none 0 0)),(.v (.slice none 0 0)),(.v (.slice none 0 0))]),xo 16 (.alloc 42 zl0),xo 17 (.alloc 53 zl1),xn (st 8 15 118),xn (st 44 16 119),xn (st 23 17 120)])
 (rg [xo 121 (lt 44 16),xn (st 44 7 121)]))))
 (rg [mo 78 12,xo 79 (bc .add 78 1),mo 12 79]))))))
 (sq (rg [fo 123 6 3,lo 124 123,xo 125 (.call 8 [(.t 124)]),mo 122 125,xo 126 (.ext 0 (.t 122)),xo 127 (.ext 1 (.t 122)),xo 18 (.alloc 38 [(.v (.int .u64 (0))),(.v (.int .u64 (0))),(.v (.int .u64 (0))),(.v (.int .u64 (0))),(.v (.int .u64 (0))),(.v (.int .u64 (0)))]),xn (st 6 18 126),mo 19 127])
 (sq (sq (rg [mo 128 11,xo 129 (bc .neq 128 0),mo 130 129,xg 131 (mv 19) 130 false,xg 132 (bc .neq 131 0) 130 false,xo 133 (.pick (.t 130) (.b true) (.t 132)),mo 134 133,xg 135 (fa 24 7) 134 false,xg 136 (lf 135) 134 false,xg 137 (.not (.t 136)) 134 false,xo 138 (.pick (.t 134) (.b true) (.t 137))])
 (cD 138
 (sq (rg [xo 6 (.mov (.b false))])
 .ret)
 .skip))
 (sq (sq (rg [xo 20 (.mov (ci 0))])
 (.block 6
 (.loop [20] [139,140,143,144,145,146,147,148,149,150,151,152,153,154,155,156,157,158,159,160,161,162,6,141,142,20]
 (sq (sq (rg [mo 139 20,xo 140 (bc .lss 139 6)])
 (cD 140
 .skip
 (.exit 6)))
 (sq (.block 7
 (sq (rd [] (of 0 (mo 143 20)
 (of 1 (fo 144 25 7)
 (of 2 (fo 145 7 144)
 (of 3 (xo 146 (.iadra 6 1 (.t 145) (.t 143)))
 (ot 4 (lo 147 146)
 (of 5 (mo 148 20)
 (of 6 (xo 149 (.iadra 6 1 (.t 10) (.t 148)))
 (ot 7 (lo 150 149)
 (of 8 (xo 151 (bi .lss 147 150))
 (of 9 (mo 152 151)
 (of 10 (xg 153 (mv 20) 152 false)
 (of 11 (xg 154 (fa 25 7) 152 false)
 (of 12 (xg 155 (fa 7 154) 152 false)
 (of 13 (xg 156 (.iadra 6 1 (.t 155) (.t 153)) 152 false)
 (ot 14 (xg 157 (lf 156) 152 false)
 (of 15 (xg 158 (mv 20) 152 false)
 (of 16 (xg 159 (.iadra 6 1 (.t 18) (.t 158)) 152 false)
 (ot 17 (xg 160 (lf 159) 152 false)
 (of 18 (xg 161 (bi .gtr 157 160) 152 false)
 (of 19 (xo 162 (.pick (.t 152) (.b true) (.t 161)))
 .nil)))))))))))))))))))))
 (cD 162
 (sq (rg [xo 6 (.mov (.b false))])
 .ret)
 .skip)))
 (rg [mo 141 20,xo 142 (bc .add 141 1),mo 20 142]))))))
 (sq (rg [xo 163 (.call 7 []),mo 6 163])
 .ret))))))))))⟩
theorem qkC:trFn Try.prog 3 [([],(fs [0,1,2,3,4,5,6,7,8,9,10,11,12,13] (.exec 14 (fs [15,16,17,18,19] .nil)))),([],(fs [0,1,2,3,4,5,6,7,8,9,10,11,12,13,14,15,16,17,18,19] .nil))] [[8],[9],[12],[20]]=some qtC:=by kernel_rfl
abbrev qcF:Nat:=5
def qoF:FnI:=⟨69,[.tmp 2],
 (sq (rg [xo 1 (.box 28 (.t 0)),xo 2 (.mov (.b false))])
 (sq (sq (rg [fo 6 3 1,lo 7 6,xo 8 (.len false (.t 7)),xo 9 (bc .gtr 8 20),mo 10 9,xg 11 (fa 4 1) 10 false,xg 12 (lf 11) 10 false,xg 13 (.len false (.t 12)) 10 false,xg 14 (bc .gtr 13 40) 10 false,xo 15 (.pick (.t 10) (.b true) (.t 14)),mo 16 15,xg 17 (fa 5 1) 16 false,xg 18 (lf 17) 16 false,xg 19 (.len false (.t 18)) 16 false,xg 20 (bc .gtr 19 40) 16 false,xo 21 (.pick (.t 16) (.b true) (.t 20)),mo 22 21,xg 23 (fa 6 1) 22 false,xg 24 (lf 23) 22 false,xg 25 (.call 14 [(.t 24)]) 22 false,xo 26 (.pick (.t 22) (.b true) (.t 25)),mo 27 26,xg 28 (fa 7 1) 27 false,xg 29 (lf 28) 27 false,xg 30 (.len false (.t 29)) 27 false,xg 31 (bc .gtr 30 60) 27 false,xo 32 (.pick (.t 27) (.b true) (.t 31))])
 (cD 32
 (sq (rg [xo 2 (.mov (.b true))])
 .ret)
 .skip))
 (sq (sq (rg [xo 3 (.mov (ci 0))])
 (.block 0
 (.loop [3] [33,34,35,36,37,40,41,42,43,44,4,45,46,47,48,49,50,51,52,53,2,5,54,55,56,57,58,61,62,63,64,65,66,67,68,59,60,38,39,3]
 (sq (sq (rg [mo 33 3,fo 34 4 1,lo 35 34,xo 36 (.len false (.t 35)),xo 37 (bi .lss 33 36)])
 (cD 37
 .skip
 (.exit 0)))
 (sq (.block 1
 (sq (rg [fo 40 4 1,lo 41 40,mo 42 3,xo 43 (ia 5 41 42),xo 44 (lt 5 43),xo 4 (.alloc 63 [(.v (.slice none 0 0)),(.v (.slice none 0 0)),(.v (.slice none 0 0)),(.v (.slice none 0 0)),(.v (.bool false))]),xn (st 5 4 44)])
 (sq (sq (rg [fo 45 0 4,xo 46 (lt 3 45),xo 47 (.call 15 [(.t 46)]),mo 48 47,xg 49 (fa 3 4) 48 false,xg 50 (lf 49) 48 false,xg 51 (.len false (.t 50)) 48 false,xg 52 (bc .gtr 51 20) 48 false,xo 53 (.pick (.t 48) (.b true) (.t 52))])
 (cD 53
 (sq (rg [xo 2 (.mov (.b true))])
 .ret)
 .skip))
 (sq (rg [xo 5 (.mov (ci 0))])
 (.block 2
 (.loop [5] [54,55,56,57,58,61,62,63,64,65,66,67,68,2,59,60,5]
 (sq (sq (rg [mo 54 5,fo 55 3 4,lo 56 55,xo 57 (.len false (.t 56)),xo 58 (bi .lss 54 57)])
 (cD 58
 .skip
 (.exit 2)))
 (sq (.block 3
 (sq (rg [fo 61 3 4,lo 62 61,mo 63 5,xo 64 (ia 2 62 63),fo 65 1 64,lo 66 65,xo 67 (.len false (.t 66)),xo 68 (bc .gtr 67 20)])
 (cD 68
 (sq (rg [xo 2 (.mov (.b true))])
 .ret)
 .skip)))
 (rg [mo 59 5,xo 60 (bc .add 59 1),mo 5 60])))))))))
 (rg [mo 38 3,xo 39 (bc .add 38 1),mo 3 39]))))))
 (sq (rg [xo 2 (.mov (.b false))])
 .ret))))⟩
theorem qKF:trFn Try.prog 5 [] [[3],[5]]=some qoF:=by kernel_rfl
abbrev q1K:Nat:=6
def qHL:FnI:=⟨96,[.tmp 4],
 (sq (rg [xo 2 (.box 28 (.t 0)),xo 3 (.box 42 (.t 1)),xo 4 (.mov (.b false))])
 (sq (sq (rg [xo 7 (lt 8 2),xo 8 (.call 16 [(.t 7)]),xo 9 (.not (.t 8)),mo 10 9,xg 11 (fa 10 3) 10 false,xg 12 (lf 11) 10 false,xg 13 (fa 3 2) 10 false,xg 14 (lf 13) 10 false,xg 15 (.len false (.t 14)) 10 false,xg 16 (.call 17 [(.t 12),(.t 15)]) 10 false,xg 17 (.not (.t 16)) 10 false,xo 18 (.pick (.t 10) (.b true) (.t 17)),mo 19 18,xg 20 (fa 24 3) 19 false,xg 21 (lf 20) 19 false,xo 22 (.pick (.t 19) (.b true) (.t 21)),mo 23 22,xg 24 (fa 13 3) 23 false,xg 25 (lf 24) 23 false,xg 26 (fa 4 2) 23 false,xg 27 (lf 26) 23 false,xg 28 (.len false (.t 27)) 23 false,xg 29 (.call 17 [(.t 25),(.t 28)]) 23 false,xg 30 (.not (.t 29)) 23 false,xo 31 (.pick (.t 23) (.b true) (.t 30))])
 (cD 31
 (sq (rg [xo 4 (.mov (.b false))])
 .ret)
 .skip))
 (sq (rg [fo 32 4 2,lo 33 32,fo 34 13 3,lo 35 34,xo 36 (ia 5 33 35),fo 37 3 36,lo 38 37,mo 5 38])
 (sq (sq (rg [fo 39 15 3,lo 40 39,mo 41 5,xo 42 (.len false (.t 41)),xo 43 (.call 17 [(.t 40),(.t 42)]),xo 44 (.not (.t 43))])
 (cD 44
 (sq (rg [xo 4 (.mov (.b false))])
 .ret)
 .skip))
 (sq (rg [mo 45 5,fo 46 15 3,lo 47 46,xo 48 (ia 2 45 47),fo 49 1 48,lo 50 49,mo 6 50])
 (sq (sq (rd [] (of 0 (fo 51 16 3)
 (ot 1 (lo 52 51)
 (of 2 (mo 53 6)
 (of 3 (xo 54 (.len false (.t 53)))
 (of 4 (xo 55 (.call 17 [(.t 52),(.t 54)]))
 (of 5 (xo 56 (.not (.t 55)))
 (of 6 (mo 57 56)
 (of 7 (xg 58 (fa 17 3) 57 false)
 (ot 8 (xg 59 (lf 58) 57 false)
 (of 9 (xg 60 (mv 6) 57 false)
 (of 10 (xg 61 (.len false (.t 60)) 57 false)
 (of 11 (xg 62 (.call 17 [(.t 59),(.t 61)]) 57 false)
 (of 12 (xg 63 (.not (.t 62)) 57 false)
 (of 13 (xo 64 (.pick (.t 57) (.b true) (.t 63)))
 (of 14 (mo 65 64)
 (of 15 (xg 66 (fa 18 3) 65 false)
 (ot 16 (xg 67 (lf 66) 65 false)
 (of 17 (xg 68 (mv 6) 65 false)
 (of 18 (xg 69 (fa 16 3) 65 false)
 (ot 19 (xg 70 (lf 69) 65 false)
 (ot 20 (xg 71 (ia 3 68 70) 65 false)
 (of 21 (xg 72 (fa 1 71) 65 false)
 (ot 22 (xg 73 (lf 72) 65 false)
 (of 23 (xg 74 (.len false (.t 73)) 65 false)
 (of 24 (xg 75 (.call 17 [(.t 67),(.t 74)]) 65 false)
 (of 25 (xg 76 (.not (.t 75)) 65 false)
 (of 26 (xo 77 (.pick (.t 65) (.b true) (.t 76)))
 .nil))))))))))))))))))))))))))))
 (cD 77
 (sq (rg [xo 4 (.mov (.b false))])
 .ret)
 .skip))
 (sq (rg [fo 78 14 3,lo 79 78,xo 80 (bc .add 79 1),fo 81 5 2,lo 82 81,xo 83 (.len false (.t 82)),xo 84 (bc .add 83 1),xo 85 (.call 17 [(.t 80),(.t 84)]),mo 86 85,xg 87 (fa 21 3) 86 true,xg 88 (lf 87) 86 true,xg 89 (bc .geq 88 0) 86 true,xo 90 (.pick (.t 86) (.t 89) (.b false)),mo 91 90,xg 92 (fa 22 3) 91 true,xg 93 (lf 92) 91 true,xg 94 (bc .geq 93 0) 91 true,xo 95 (.pick (.t 91) (.t 94) (.b false)),mo 4 95])
 .ret)))))))⟩
theorem qbK:trFn Try.prog 6 [([],(fs [0,1,2,3] (.exec 4 (fs [5,6,7,8,9,10] (.exec 11 (fs [12,13,14,15,16,17,18,19,20,21,22,23] (.exec 24 (.first 25 (.first 26 .nil)))))))))] []=some qHL:=by kernel_rfl
abbrev q6E:Nat:=7
def qFF:FnI:=⟨62,[.tmp 0],
 (sq (rg [xo 0 (.mov (.b false))])
 (sq (rg [xo 10 (.call 18 []),xo 1 (.alloc 28 [(vi 0),(vi 0),(vi 0),(.v (.slice none 0 0)),(.v (.slice none 0 0)),(.v (.slice none 0 0)),(.v (.slice none 0 0)),(.v (.slice none 0 0))]),xn (st 8 1 10)])
 (sq (rg [xo 11 (.build [(vi 0),(.v (.string ⟨#[]⟩)),(.v (.string ⟨#[]⟩)),(.v (.string ⟨#[]⟩)),(vi 0),(vi 0),(vi 0),(.v (.slice none 0 0)),(.v (.slice none 0 0)),(.v (.slice none 0 0))] [(0,1,(ci 6))]),xo 12 (.build zl0 [(0,10,(.t 11))]),xo 2 (.alloc 42 zl0),xn (st 44 2 12)])
 (sq (rg [xo 14 (lt 8 1),xo 15 (lt 44 2),xo 16 (.call 10 [(.t 14),(.t 15)]),mo 13 16,xo 17 (.ext 0 (.t 13)),xo 18 (.ext 1 (.t 13)),xo 19 (.ext 2 (.t 13)),xo 3 (.alloc 28 [(vi 0),(vi 0),(vi 0),(.v (.slice none 0 0)),(.v (.slice none 0 0)),(.v (.slice none 0 0)),(.v (.slice none 0 0)),(.v (.slice none 0 0))]),xo 4 (.alloc 42 zl0),xo 5 (.alloc 53 zl1),xn (st 8 3 17),xn (st 44 4 18),xn (st 23 5 19)])
 (sq (rg [xo 6 (.mov (ci 0))])
 (sq (.block 0
 (.loop [6] [20,21,22,23,24,25,26,28,29,30,27,31,32,33,7,8,9,34,35,36,6]
 (sq (sq (rg [mo 20 6,xo 21 (bc .lss 20 20),mo 22 21,xg 23 (fa 24 2) 22 true,xg 24 (lf 23) 22 true,xg 25 (.not (.t 24)) 22 true,xo 26 (.pick (.t 22) (.t 25) (.b false))])
 (cD 26
 .skip
 (.exit 0)))
 (.block 1
 (sq (rg [xo 28 (lt 8 1),xo 29 (lt 44 2),xo 30 (.call 10 [(.t 28),(.t 29)]),mo 27 30,xo 31 (.ext 0 (.t 27)),xo 32 (.ext 1 (.t 27)),xo 33 (.ext 2 (.t 27)),xo 7 (.alloc 28 [(vi 0),(vi 0),(vi 0),(.v (.slice none 0 0)),(.v (.slice none 0 0)),(.v (.slice none 0 0)),(.v (.slice none 0 0)),(.v (.slice none 0 0))]),xo 8 (.alloc 42 zl0),xo 9 (.alloc 53 zl1),xn (st 8 7 31),xn (st 44 8 32),xn (st 23 9 33)])
 (sq (rg [xo 34 (lt 44 8),xn (st 44 2 34)])
 (rg [mo 35 6,xo 36 (bc .add 35 1),mo 6 36])))))))
 (sq (rg [xo 37 (lt 23 5),xo 38 (.build zl1 [(2,1,(ci 1)),(3,1,(ci 10)),(4,1,(ci (-1)))]),xo 39 (.binst false [0,0,0,0,0,2,0,2,2,2,0,0,0,0,0,0,0,0,0,0,0,0,0] (.t 37) (.t 38)),mo 40 39,xg 41 (fa 22 4) 40 true,xg 42 (lf 41) 40 true,xg 43 (bc .eql 42 1) 40 true,xo 44 (.pick (.t 40) (.t 43) (.b false)),mo 45 44,xg 46 (fa 38 4) 45 true,xg 47 (.iadra 6 1 (.t 46) (ci 0)) 45 true,xg 48 (lf 47) 45 true,xg 49 (.bini .eql (.t 48) (.c (.int .u64 (3)))) 45 true,xo 50 (.pick (.t 45) (.t 49) (.b false)),mo 51 50,xg 52 (mv 6) 51 true,xg 53 (bc .eql 52 12) 51 true,xo 54 (.pick (.t 51) (.t 53) (.b false)),mo 55 54,xg 56 (fa 25 2) 55 true,xg 57 (lt 13 56) 55 true,xg 58 (.build [(.v (.int .u64 (0))),(.v (.int .u64 (0))),(.v (.int .u64 (0))),(.v (.int .u64 (0))),(.v (.int .u64 (0))),(.v (.int .u64 (0)))] [(0,1,(.c (.int .u64 (7)))),(1,1,(.c (.int .u64 (5)))),(2,1,(.c (.int .u64 (2)))),(3,1,(.c (.int .u64 (0)))),(4,1,(.c (.int .u64 (0)))),(5,1,(.c (.int .u64 (0))))]) 55 true,xg 59 (.build zl2 [(0,1,(ci 13)),(7,6,(.t 58))]) 55 true,xg 60 (.binst false [0,0,0,0,0,0,0,0,0,0,0,0,0] (.t 57) (.t 59)) 55 true,xo 61 (.pick (.t 55) (.t 60) (.b false)),mo 0 61])
 .ret)))))))⟩
theorem qzE:trFn Try.prog 7 [] [[6]]=some qFF:=by kernel_rfl
abbrev qyK:Nat:=8
def qEL:FnI:=⟨33,[.cell 2 6 true,.tmp 3],
 (sq (rg [xo 2 (.alloc 38 [(.v (.int .u64 (0))),(.v (.int .u64 (0))),(.v (.int .u64 (0))),(.v (.int .u64 (0))),(.v (.int .u64 (0))),(.v (.int .u64 (0)))]),xo 3 (.mov (ci 0))])
 (sq (rg [xo 4 (.alloc 38 [(.v (.int .u64 (0))),(.v (.int .u64 (0))),(.v (.int .u64 (0))),(.v (.int .u64 (0))),(.v (.int .u64 (0))),(.v (.int .u64 (0)))])])
 (sq (sq (rg [mo 8 0,xo 9 (.call 19 [(.t 8)]),xo 10 (.not (.t 9))])
 (cD 10
 (sq (rg [xo 11 (lt 6 4),xn (st 6 2 11),xo 3 (.mov (ci 1))])
 .ret)
 .skip))
 (sq (sq (rg [mo 12 0,xo 13 (.len false (.t 12)),xo 14 (.mov (ci 0))])
 (.block 0
 (.loop [14] [15,16,17,6,18,19,20,7,21,22,23,24,25,26,27,28,29,30,31,14]
 (sq (rg [xo 15 (bi .lss 14 13)])
 (sq (cD 15
 .skip
 (.exit 0))
 (sq (.block 1
 (sq (rg [xo 16 (ia 1 12 14),lo 17 16,mo 6 17])
 (sq (rg [xo 18 (.mov (ci 0))])
 (.block 2
 (.loop [18] [19,20,7,21,22,23,24,25,26,27,28,29,30,18]
 (sq (rg [xo 19 (bc .lss 18 6)])
 (sq (cD 19
 .skip
 (.exit 2))
 (sq (.block 3
 (sq (rg [mo 20 18,mo 7 20])
 (rd [] (of 0 (mo 21 7)
 (of 1 (xo 22 (.iadra 6 1 (.t 4) (.t 21)))
 (ot 2 (lo 23 22)
 (of 3 (mo 24 6)
 (of 4 (mo 25 7)
 (ot 5 (xo 26 (ia 1 24 25))
 (ot 6 (lo 27 26)
 (of 7 (xo 28 (bi .add 23 27))
 (of 8 (xo 29 (.iadra 6 1 (.t 4) (.t 21)))
 (of 9 (xn (st 1 29 28))
 .nil)))))))))))))
 (rg [xo 30 (bc .add 18 1),mo 18 30])))))))))
 (rg [xo 31 (bc .add 14 1),mo 14 31])))))))
 (sq (rg [xo 32 (lt 6 4),xn (st 6 2 32),xo 3 (.mov (ci 0))])
 .ret)))))⟩
theorem qYK:trFn Try.prog 8 [([],(fs [0,1,2,3,4,5,6,7,8] (.exec 9 .nil)))] [[14],[18]]=some qEL:=by kernel_rfl
abbrev q0K:Nat:=9
def qGL:FnI:=⟨59,[.tmp 6,.tmp 7],
 (sq (rg [xo 6 (.mov (.c (.slice none 0 0))),xo 7 (.mov (ci 0))])
 (sq (sq (rg [mo 9 0,xo 10 (.call 19 [(.t 9)]),xo 11 (.not (.t 10)),mo 12 11,xg 13 (mv 1) 12 false,xg 14 (bc .lss 13 0) 12 false,xo 15 (.pick (.t 12) (.b true) (.t 14)),mo 16 15,xg 17 (mv 1) 16 false,xg 18 (mv 0) 16 false,xg 19 (.len false (.t 18)) 16 false,xg 20 (bi .geq 17 19) 16 false,xo 21 (.pick (.t 16) (.b true) (.t 20)),mo 22 21,xg 23 (mv 2) 22 false,xg 24 (bc .lss 23 0) 22 false,xo 25 (.pick (.t 22) (.b true) (.t 24)),mo 26 25,xg 27 (mv 2) 26 false,xg 28 (bc .geq 27 6) 26 false,xo 29 (.pick (.t 26) (.b true) (.t 28))])
 (cD 29
 (sq (rg [xo 6 (.mov (.c (.slice none 0 0))),xo 7 (.mov (ci 1))])
 .ret)
 .skip))
 (sq (rg [mo 30 0,xo 31 (.len false (.t 30)),xo 32 (.msl 46 1 24 [(.slice none 0 0)] (.t 31) (.t 31)),mo 8 32])
 (sq (rg [mo 33 8,mo 34 0,xo 35 (.cpy (.t 33) (.t 34))])
 (sq (rg [mo 36 8,mo 37 1,xo 38 (.msl 37 1 8 [(.int .u64 (0))] (ci 6) (ci 6)),xo 39 (ia 1 36 37),xn (st 1 39 38)])
 (sq (rd [] (of 0 (mo 40 8)
 (of 1 (mo 41 1)
 (ot 2 (xo 42 (ia 1 40 41))
 (ot 3 (lo 43 42)
 (of 4 (mo 44 0)
 (of 5 (mo 45 1)
 (ot 6 (xo 46 (ia 1 44 45))
 (ot 7 (lo 47 46)
 (of 8 (xo 48 (.cpy (.t 43) (.t 47)))
 .nil))))))))))
 (sq (rg [mo 49 8,mo 50 1,xo 51 (ia 1 49 50),lo 52 51,mo 53 2,xo 54 (ia 1 52 53),lo 55 54,xo 56 (.bini .add (.t 55) (.c (.int .u64 (1)))),xo 57 (ia 1 52 53),xn (st 1 57 56)])
 (sq (rg [mo 58 8,mo 6 58,xo 7 (.mov (ci 0))])
 .ret))))))))⟩
theorem qaK:trFn Try.prog 9 [([],(fs [0,1,2,3,4,5,6,7] (.exec 8 .nil)))] []=some qGL:=by kernel_rfl
abbrev qLG:Nat:=10
def q9J:FnI:=⟨85,[.cell 4 8 true,.cell 5 44 true,.cell 6 23 true],
 (sq (rg [xo 2 (.box 28 (.t 0)),xo 3 (.box 42 (.t 1)),xo 4 (.alloc 28 [(vi 0),(vi 0),(vi 0),(.v (.slice none 0 0)),(.v (.slice none 0 0)),(.v (.slice none 0 0)),(.v (.slice none 0 0)),(.v (.slice none 0 0))]),xo 5 (.alloc 42 zl0),xo 6 (.alloc 53 zl1)])
 (sq (sq (rg [fo 8 11 3,lo 9 8,xo 10 (bc .neq 9 0),mo 11 10,xg 12 (fa 22 3) 11 false,xg 13 (lf 12) 11 false,xg 14 (bc .geq 13 6) 11 false,xo 15 (.pick (.t 11) (.b true) (.t 14)),mo 16 15,xg 17 (fa 21 3) 16 false,xg 18 (lf 17) 16 false,xg 19 (fa 6 2) 16 false,xg 20 (lf 19) 16 false,xg 21 (.len false (.t 20)) 16 false,xg 22 (bi .geq 18 21) 16 false,xo 23 (.pick (.t 16) (.b true) (.t 22)),mo 24 23,xg 25 (lt 8 2) 24 false,xg 26 (lt 44 3) 24 false,xg 27 (.call 6 [(.t 25),(.t 26)]) 24 false,xg 28 (.not (.t 27)) 24 false,xo 29 (.pick (.t 24) (.b true) (.t 28))])
 (cD 29
 (sq (rd [] (ot 0 (xo 30 (lt 8 2))
 (of 2 (xo 32 (.build zl1 []))
 (ot 1 (xo 31 (lt 44 3))
 (.op ⟨3,false,[1],xn (st 8 4 30)⟩
 (of 4 (xn (st 44 5 31))
 (of 5 (xn (st 23 6 32))
 .nil)))))))
 .ret)
 .skip))
 (sq (rg [fo 33 10 3,lo 34 33,fo 35 22 3,lo 36 35,xo 37 (.build zl1 [(0,1,(.t 34)),(2,1,(ci 1)),(3,1,(ci 10)),(4,1,(ci (-1))),(6,1,(.t 36))]),xo 7 (.alloc 53 zl1),xn (st 23 7 37)])
 (sq (rd [] (of 0 (fo 38 38 3)
 (ot 1 (xo 39 (lt 6 38))
 (of 2 (fo 40 22 3)
 (ot 3 (lo 41 40)
 (of 4 (fo 42 6 2)
 (ot 5 (lo 43 42)
 (of 6 (fo 44 21 3)
 (ot 7 (lo 45 44)
 (ot 8 (xo 46 (ia 1 43 45))
 (ot 9 (lo 47 46)
 (of 10 (fo 48 22 3)
 (ot 11 (lo 49 48)
 (ot 12 (xo 50 (ia 1 47 49))
 (ot 13 (lo 51 50)
 (of 14 (xo 52 (.call 20 [(.t 39),(.t 41),(.t 51)]))
 (of 15 (fo 53 38 3)
 (of 16 (xn (st 6 53 52))
 .nil))))))))))))))))))
 (sq (rg [fo 54 22 3,lo 55 54,xo 56 (bc .add 55 1),fo 57 22 3,xn (st 1 57 56)])
 (sq (sq (rg [fo 58 22 3,lo 59 58,xo 60 (bc .eql 59 6)])
 (cD 60
 (rg [fo 61 21 3,lo 62 61,xo 63 (bc .add 62 1),fo 64 21 3,xn (st 1 64 63),fo 65 22 3,xn (.store 1 (.t 65) (ci 0))])
 .skip))
 (sq (sq (rg [fo 66 21 3,lo 67 66,fo 68 6 2,lo 69 68,xo 70 (.len false (.t 69)),xo 71 (bi .eql 67 70)])
 (cD 71
 (sq (rg [fo 72 38 3,xo 73 (lt 6 72),xo 74 (.build zl2 [(0,1,(ci 13)),(7,6,(.t 73))]),fo 75 24 3,xn (.store 1 (.t 75) (.b true)),fo 76 25 3,xn (st 13 76 74)])
 (rd [] (of 2 (fo 79 9 7)
 (of 0 (fo 77 25 3)
 (ot 1 (xo 78 (lt 13 77))
 (.op ⟨3,false,[1],xn (.store 1 (.t 79) (.b true))⟩
 (of 4 (fo 80 10 7)
 (of 5 (xn (st 13 80 78))
 .nil))))))))
 .skip))
 (sq (rd [] (ot 0 (xo 81 (lt 8 2))
 (ot 2 (xo 83 (lt 44 3))
 (ot 3 (xo 84 (lt 23 7))
 (of 1 (xo 82 (.call 21 [(.t 81)]))
 (.op ⟨4,false,[3,2],xn (st 8 4 82)⟩
 (.op ⟨5,false,[3],xn (st 44 5 83)⟩
 (of 6 (xn (st 23 6 84))
 .nil))))))))
 .ret))))))))⟩
theorem qCJ:trFn Try.prog 10 [([],(fs [0,2,1] (.exec 3 (.exec 4 (.exec 5 .nil))))),([],(fs [0,1,2,3,4,5,6,7,8,9,10,11,12,13] (.exec 14 (.first 15 (.exec 16 .nil))))),([],(fs [2,0,1] (.exec 3 (.first 4 (.exec 5 .nil))))),([],(fs [0,2,3] (.exec 1 (.exec 4 (.exec 5 (.exec 6 .nil))))))] []=some q9J:=by kernel_rfl
abbrev qdF:Nat:=14
def qpF:FnI:=⟨24,[.tmp 2],
 (sq (rg [xo 2 (.mov (.b false))])
 (sq (sq (rg [xo 3 (.mov (ci 0))])
 (.block 0
 (.loop [3] [4,5,6,7,8,9,10,11,12,15,16,17,18,19,20,2,13,14,3]
 (sq (sq (rg [mo 4 3,mo 5 0,xo 6 (.len false (.t 5)),xo 7 (bi .lss 4 6),mo 8 7,xg 9 (mv 0) 8 true,xg 10 (.len false (.t 9)) 8 true,xg 11 (bc .leq 10 50) 8 true,xo 12 (.pick (.t 8) (.t 11) (.b false))])
 (cD 12
 .skip
 (.exit 0)))
 (sq (.block 1
 (sq (rg [mo 15 0,mo 16 3,xo 17 (ia 1 15 16),lo 18 17,xo 19 (.len false (.t 18)),xo 20 (bc .gtr 19 50)])
 (cD 20
 (sq (rg [xo 2 (.mov (.b true))])
 .ret)
 .skip)))
 (rg [mo 13 3,xo 14 (bc .add 13 1),mo 3 14]))))))
 (sq (rg [mo 21 0,xo 22 (.len false (.t 21)),xo 23 (bc .gtr 22 50),mo 2 23])
 .ret)))⟩
theorem qLF:trFn Try.prog 14 [] [[3]]=some qpF:=by kernel_rfl
abbrev qxD:Nat:=15
def qyD:FnI:=⟨44,[.tmp 2],
 (sq (rg [xo 1 (.box 60 (.t 0)),xo 2 (.mov (.b false))])
 (sq (sq (rg [fo 4 0 1,lo 5 4,xo 6 (.len false (.t 5)),xo 7 (bc .gtr 6 20),mo 8 7,xg 9 (fa 2 1) 8 false,xg 10 (lf 9) 8 false,xg 11 (.len false (.t 10)) 8 false,xg 12 (bc .gtr 11 20) 8 false,xo 13 (.pick (.t 8) (.b true) (.t 12)),mo 14 13,xg 15 (fa 1 1) 14 false,xg 16 (lf 15) 14 false,xg 17 (.call 25 [(.t 16)]) 14 false,xo 18 (.pick (.t 14) (.b true) (.t 17))])
 (cD 18
 (sq (rg [xo 2 (.mov (.b true))])
 .ret)
 .skip))
 (sq (sq (rg [xo 3 (.mov (ci 0))])
 (.block 0
 (.loop [3] [19,20,21,22,23,26,27,28,29,30,31,32,33,34,35,36,37,38,39,40,41,42,43,2,24,25,3]
 (sq (sq (rg [mo 19 3,fo 20 2 1,lo 21 20,xo 22 (.len false (.t 21)),xo 23 (bi .lss 19 22)])
 (cD 23
 .skip
 (.exit 0)))
 (sq (.block 1
 (sq (rg [fo 26 2 1,lo 27 26,mo 28 3,xo 29 (ia 4 27 28),fo 30 3 29,lo 31 30,xo 32 (.len false (.t 31)),xo 33 (bc .gtr 32 20),mo 34 33,xg 35 (fa 2 1) 34 false,xg 36 (lf 35) 34 false,xg 37 (mv 3) 34 false,xg 38 (ia 4 36 37) 34 false,xg 39 (fa 0 38) 34 false,xg 40 (lf 39) 34 false,xg 41 (.len true (.t 40)) 34 false,xg 42 (bc .gtr 41 100) 34 false,xo 43 (.pick (.t 34) (.b true) (.t 42))])
 (cD 43
 (sq (rg [xo 2 (.mov (.b true))])
 .ret)
 .skip)))
 (rg [mo 24 3,xo 25 (bc .add 24 1),mo 3 25]))))))
 (sq (rg [xo 2 (.mov (.b false))])
 .ret))))⟩
theorem qvD:trFn Try.prog 15 [] [[3]]=some qyD:=by kernel_rfl
abbrev qJM:Nat:=16
def qUM:FnI:=⟨107,[.tmp 2],
 (sq (rg [xo 1 (.box 28 (.t 0)),xo 2 (.mov (.b false))])
 (sq (sq (rg [xo 10 (lt 8 1),xo 11 (.call 26 [(.t 10)]),xo 12 (.not (.t 11)),mo 13 12,xg 14 (fa 1 1) 13 false,xg 15 (lf 14) 13 false,xg 16 (bc .lss 15 0) 13 false,xo 17 (.pick (.t 13) (.b true) (.t 16)),mo 18 17,xg 19 (fa 1 1) 18 false,xg 20 (lf 19) 18 false,xg 21 (fa 4 1) 18 false,xg 22 (lf 21) 18 false,xg 23 (.len false (.t 22)) 18 false,xg 24 (bi .geq 20 23) 18 false,xo 25 (.pick (.t 18) (.b true) (.t 24)),mo 26 25,xg 27 (fa 7 1) 26 false,xg 28 (lf 27) 26 false,xg 29 (.call 27 [(.t 28)]) 26 false,xg 30 (.not (.t 29)) 26 false,xo 31 (.pick (.t 26) (.b true) (.t 30))])
 (cD 31
 (sq (rg [xo 2 (.mov (.b false))])
 .ret)
 .skip))
 (sq (rg [xo 32 (.mkm .i64),mo 3 32])
 (sq (sq (rg [fo 33 7 1,lo 34 33,xo 35 (.len false (.t 34)),xo 36 (.mov (ci 0))])
 (.block 0
 (.loop [36] [37,38,39,5,40,41,42,43,44,45,46,47,48,49,50,51,52,53,54,55,56,57,58,59,2,60,61,62,63,64,65,36]
 (sq (rg [xo 37 (bi .lss 36 35)])
 (sq (cD 37
 .skip
 (.exit 0))
 (sq (.block 1
 (sq (rg [xo 38 (ia 3 34 36),xo 39 (lt 3 38),xo 5 (.alloc 79 [(vi 0),(vi 0),(.v (.bool false))]),xn (st 3 5 39)])
 (sq (sq (rg [fo 40 0 5,lo 41 40,fo 42 4 1,lo 43 42,xo 44 (.len false (.t 43)),xo 45 (bi .geq 41 44),mo 46 45,xg 47 (fa 0 5) 46 false,xg 48 (lf 47) 46 false,xg 49 (fa 1 1) 46 false,xg 50 (lf 49) 46 false,xg 51 (bi .eql 48 50) 46 false,xo 52 (.pick (.t 46) (.b true) (.t 51)),mo 53 52,xg 54 (fa 1 5) 53 false,xg 55 (lf 54) 53 false,xg 56 (fa 0 1) 53 false,xg 57 (lf 56) 53 false,xg 58 (bi .gtr 55 57) 53 false,xo 59 (.pick (.t 53) (.b true) (.t 58))])
 (cD 59
 (sq (rg [xo 2 (.mov (.b false))])
 .ret)
 .skip))
 (rg [mo 60 3,fo 61 0 5,lo 62 61,fo 63 2 5,lo 64 63,xn (.mup .i64 (.t 60) (.t 62) (.t 64))]))))
 (rg [xo 65 (bc .add 36 1),mo 36 65])))))))
 (sq (sq (rg [fo 66 4 1,lo 67 66,xo 68 (.len false (.t 67)),xo 69 (.mov (ci 0))])
 (.block 2
 (.loop [69] [70,71,72,73,7,6,74,75,76,77,78,79,80,81,82,83,84,2,85,69]
 (sq (rg [xo 70 (bi .lss 69 68)])
 (sq (cD 70
 .skip
 (.exit 2))
 (sq (.block 3
 (sq (rg [mo 71 69,xo 72 (ia 5 67 69),xo 73 (lt 5 72),xo 7 (.alloc 63 [(.v (.slice none 0 0)),(.v (.slice none 0 0)),(.v (.slice none 0 0)),(.v (.slice none 0 0)),(.v (.bool false))]),mo 6 71,xn (st 5 7 73)])
 (sq (rg [xo 74 (lt 5 7),xo 75 (.call 28 [(.t 74)]),xo 76 (.not (.t 75)),mo 77 76,xg 78 (fa 4 7) 77 false,xg 79 (lf 78) 77 false,xg 80 (mv 3) 77 false,xg 81 (mv 6) 77 false,xg 82 (.look .i64 (.bool false) false (.t 80) (.t 81)) 77 false,xg 83 (.binb true (.t 79) (.t 82)) 77 false,xo 84 (.pick (.t 77) (.b true) (.t 83))])
 (cD 84
 (sq (rg [xo 2 (.mov (.b false))])
 .ret)
 .skip))))
 (rg [xo 85 (bc .add 69 1),mo 69 85])))))))
 (sq (sq (rg [fo 86 5 1,lo 87 86,xo 88 (.len false (.t 87)),xo 89 (.mov (ci 0))])
 (.block 4
 (.loop [89] [90,91,92,93,9,8,94,95,96,97,98,99,100,101,102,103,104,105,2,106,89]
 (sq (rg [xo 90 (bi .lss 89 88)])
 (sq (cD 90
 .skip
 (.exit 4))
 (sq (.block 5
 (sq (rg [mo 91 89,xo 92 (ia 4 87 89),xo 93 (lt 4 92),xo 9 (.alloc 81 [(.v (.string ⟨#[]⟩)),(.v (.bool false)),(vi 0),(.v (.bool false))]),mo 8 91,xn (st 4 9 93)])
 (sq (rg [xo 94 (lt 4 9),xo 95 (.call 29 [(.t 94)]),xo 96 (.not (.t 95)),mo 97 96,xg 98 (fa 5 1) 97 false,xg 99 (lf 98) 97 false,xg 100 (fa 0 9) 97 false,xg 101 (lf 100) 97 false,xg 102 (.call 30 [(.t 99),(.t 101)]) 97 false,xg 103 (mv 8) 97 false,xg 104 (bi .neq 102 103) 97 false,xo 105 (.pick (.t 97) (.b true) (.t 104))])
 (cD 105
 (sq (rg [xo 2 (.mov (.b false))])
 .ret)
 .skip))))
 (rg [xo 106 (bc .add 89 1),mo 89 106])))))))
 (sq (rg [xo 2 (.mov (.b true))])
 .ret)))))))⟩
theorem qpL:trFn Try.prog 16 [] [[36],[69],[89]]=some qUM:=by kernel_rfl
abbrev q8N:Nat:=17
def qNO:FnI:=⟨12,[.tmp 4],
 (sq (rg [xo 4 (.mov (.b false))])
 (sq (rg [mo 5 0,xo 6 (bc .geq 5 0),mo 7 6,xg 8 (mv 0) 7 true,xg 9 (mv 1) 7 true,xg 10 (bi .lss 8 9) 7 true,xo 11 (.pick (.t 7) (.t 10) (.b false)),mo 4 11])
 .ret))⟩
theorem qhN:trFn Try.prog 17 [] []=some qNO:=by kernel_rfl
abbrev qiE:Nat:=18
def qjE:FnI:=⟨22,[.cell 0 8 true],
 (sq (rg [xo 0 (.alloc 28 [(vi 0),(vi 0),(vi 0),(.v (.slice none 0 0)),(.v (.slice none 0 0)),(.v (.slice none 0 0)),(.v (.slice none 0 0)),(.v (.slice none 0 0))])])
 (sq (rg [xo 4 (.bsl 9 1 1 [(.v (.string ⟨#[]⟩))] [(0,1,(.c (.string ⟨#[105,110]⟩)))]),xo 5 (.build [(vi 0),(.v (.string ⟨#[]⟩)),(.v (.string ⟨#[]⟩)),(vi 0)] [(1,1,(.c (.string ⟨#[42]⟩))),(2,1,(.c (.string ⟨#[47]⟩)))]),xo 6 (.bsl 93 4 1 [(vi 0),(.v (.string ⟨#[]⟩)),(.v (.string ⟨#[]⟩)),(vi 0)] [(0,4,(.t 5))]),xo 7 (.bsl 4 1 1 [(.v (.bool false))] [(0,1,(.b true))]),xo 8 (.build [(.v (.string ⟨#[]⟩)),(vi 0),(vi 0),(.v (.slice none 0 0))] [(0,1,(.c (.string ⟨#[97]⟩))),(1,1,(ci 1)),(2,1,(ci 1)),(3,1,(.t 7))]),xo 9 (.bsl 86 4 1 [(.v (.string ⟨#[]⟩)),(vi 0),(vi 0),(.v (.slice none 0 0))] [(0,4,(.t 8))]),xo 10 (.build [(.v (.slice none 0 0)),(.v (.slice none 0 0)),(.v (.slice none 0 0))] [(0,1,(.t 4)),(1,1,(.t 6)),(2,1,(.t 9))]),xo 1 (.alloc 60 [(.v (.slice none 0 0)),(.v (.slice none 0 0)),(.v (.slice none 0 0))]),xn (st 3 1 10)])
 (sq (rg [xo 12 (lt 3 1),xo 13 (.bsl 9 1 1 [(.v (.string ⟨#[]⟩))] [(0,1,(.c (.string ⟨#[105,110]⟩)))]),xo 14 (.call 31 [(.t 12),(.t 13),(ci 2)]),mo 11 14,xo 15 (.ext 0 (.t 11)),xo 16 (.ext 1 (.t 11)),xo 2 (.alloc 28 [(vi 0),(vi 0),(vi 0),(.v (.slice none 0 0)),(.v (.slice none 0 0)),(.v (.slice none 0 0)),(.v (.slice none 0 0)),(.v (.slice none 0 0))]),xn (st 8 2 15),mo 3 16])
 (sq (rg [xo 17 (.bsl 37 1 6 [(.v (.int .u64 (0))),(.v (.int .u64 (0))),(.v (.int .u64 (0))),(.v (.int .u64 (0))),(.v (.int .u64 (0))),(.v (.int .u64 (0)))] [(0,1,(.c (.int .u64 (3)))),(1,1,(.c (.int .u64 (1)))),(2,1,(.c (.int .u64 (2)))),(3,1,(.c (.int .u64 (0)))),(4,1,(.c (.int .u64 (0)))),(5,1,(.c (.int .u64 (0))))]),xo 18 (.bsl 37 1 6 [(.v (.int .u64 (0))),(.v (.int .u64 (0))),(.v (.int .u64 (0))),(.v (.int .u64 (0))),(.v (.int .u64 (0))),(.v (.int .u64 (0)))] [(0,1,(.c (.int .u64 (4)))),(1,1,(.c (.int .u64 (4)))),(2,1,(.c (.int .u64 (0)))),(3,1,(.c (.int .u64 (0)))),(4,1,(.c (.int .u64 (0)))),(5,1,(.c (.int .u64 (0))))]),xo 19 (.bsl 46 1 2 [(.v (.slice none 0 0)),(.v (.slice none 0 0))] [(0,1,(.t 17)),(1,1,(.t 18))]),fo 20 6 2,xn (st 1 20 19)])
 (sq (rg [xo 21 (lt 8 2),xn (st 8 0 21)])
 .ret)))))⟩
theorem qgE:trFn Try.prog 18 [] []=some qjE:=by kernel_rfl
abbrev qMM:Nat:=19
def qXM:FnI:=⟨23,[.tmp 2],
 (sq (rg [xo 2 (.mov (.b false))])
 (sq (sq (rg [mo 5 0,xo 6 (.len false (.t 5)),xo 7 (.mov (ci 0))])
 (.block 0
 (.loop [7] [8,9,10,4,11,12,13,2,14,7]
 (sq (rg [xo 8 (bi .lss 7 6)])
 (sq (cD 8
 .skip
 (.exit 0))
 (sq (.block 1
 (sq (rg [xo 9 (ia 1 5 7),lo 10 9,mo 4 10])
 (sq (rg [mo 11 4,xo 12 (.len false (.t 11)),xo 13 (bc .neq 12 6)])
 (cD 13
 (sq (rg [xo 2 (.mov (.b false))])
 .ret)
 .skip))))
 (rg [xo 14 (bc .add 7 1),mo 7 14])))))))
 (sq (rg [mo 15 0,xo 16 (.len false (.t 15)),xo 17 (bc .geq 16 1),mo 18 17,xg 19 (mv 0) 18 true,xg 20 (.len false (.t 19)) 18 true,xg 21 (bc .leq 20 8) 18 true,xo 22 (.pick (.t 18) (.t 21) (.b false)),mo 2 22])
 .ret)))⟩
theorem qsL:trFn Try.prog 19 [] [[7]]=some qXM:=by kernel_rfl
abbrev qjJ:Nat:=20
def q8J:FnI:=⟨14,[.cell 6 6 true],
 (sq (rg [xo 3 (.box 38 (.t 0)),xo 6 (.alloc 38 [(.v (.int .u64 (0))),(.v (.int .u64 (0))),(.v (.int .u64 (0))),(.v (.int .u64 (0))),(.v (.int .u64 (0))),(.v (.int .u64 (0)))])])
 (sq (rg [mo 7 1,xo 8 (.iadra 6 1 (.t 3) (.t 7)),lo 9 8,mo 10 2,xo 11 (bi .add 9 10),xo 12 (.iadra 6 1 (.t 3) (.t 7)),xn (st 1 12 11)])
 (sq (rg [xo 13 (lt 6 3),xn (st 6 6 13)])
 .ret)))⟩
theorem qqB:trFn Try.prog 20 [] []=some q8J:=by kernel_rfl
abbrev qfI:Nat:=21
def qwI:FnI:=⟨28,[.cell 2 8 true],
 (sq (rg [xo 1 (.box 28 (.t 0)),xo 2 (.alloc 28 [(vi 0),(vi 0),(vi 0),(.v (.slice none 0 0)),(.v (.slice none 0 0)),(.v (.slice none 0 0)),(.v (.slice none 0 0)),(.v (.slice none 0 0))])])
 (sq (rg [xo 4 (.build [] []),xo 3 (.alloc 97 []),xn (st 0 3 4)])
 (sq (rg [fo 5 3 1,lo 6 5,xo 7 (.call 32 [(.t 6)]),fo 8 3 1,xn (st 1 8 7)])
 (sq (rg [fo 9 4 1,lo 10 9,xo 11 (lt 0 3),xo 12 (.call 33 [(.t 10),(.c (.func (.func 34) #[] #[])),(.t 11)]),fo 13 4 1,xn (st 1 13 12)])
 (sq (rg [fo 14 5 1,lo 15 14,xo 16 (.call 35 [(.t 15)]),fo 17 5 1,xn (st 1 17 16)])
 (sq (rg [fo 18 6 1,lo 19 18,xo 20 (lt 0 3),xo 21 (.call 36 [(.t 19),(.c (.func (.func 37) #[] #[])),(.t 20)]),fo 22 6 1,xn (st 1 22 21)])
 (sq (rg [fo 23 7 1,lo 24 23,xo 25 (.call 38 [(.t 24)]),fo 26 7 1,xn (st 1 26 25)])
 (sq (rg [xo 27 (lt 8 1),xn (st 8 2 27)])
 .ret))))))))⟩
theorem qMI:trFn Try.prog 21 [] []=some qwI:=by kernel_rfl
abbrev qeF:Nat:=25
def qqF:FnI:=⟨34,[.tmp 2],
 (sq (rg [xo 2 (.mov (.b false))])
 (sq (sq (rg [xo 3 (.mov (ci 0))])
 (.block 0
 (.loop [3] [4,5,6,7,8,9,10,11,12,15,16,17,18,19,20,21,22,23,24,25,26,27,28,29,30,2,13,14,3]
 (sq (sq (rg [mo 4 3,mo 5 0,xo 6 (.len false (.t 5)),xo 7 (bi .lss 4 6),mo 8 7,xg 9 (mv 0) 8 true,xg 10 (.len false (.t 9)) 8 true,xg 11 (bc .leq 10 50) 8 true,xo 12 (.pick (.t 8) (.t 11) (.b false))])
 (cD 12
 .skip
 (.exit 0)))
 (sq (.block 1
 (sq (rg [mo 15 0,mo 16 3,xo 17 (ia 4 15 16),fo 18 1 17,lo 19 18,xo 20 (.len true (.t 19)),xo 21 (bc .gtr 20 100),mo 22 21,xg 23 (mv 0) 22 false,xg 24 (mv 3) 22 false,xg 25 (ia 4 23 24) 22 false,xg 26 (fa 2 25) 22 false,xg 27 (lf 26) 22 false,xg 28 (.len true (.t 27)) 22 false,xg 29 (bc .gtr 28 100) 22 false,xo 30 (.pick (.t 22) (.b true) (.t 29))])
 (cD 30
 (sq (rg [xo 2 (.mov (.b true))])
 .ret)
 .skip)))
 (rg [mo 13 3,xo 14 (bc .add 13 1),mo 3 14]))))))
 (sq (rg [mo 31 0,xo 32 (.len false (.t 31)),xo 33 (bc .gtr 32 50),mo 2 33])
 .ret)))⟩
theorem qMF:trFn Try.prog 25 [] [[3]]=some qqF:=by kernel_rfl
abbrev qlH:Nat:=26
def qoH:FnI:=⟨51,[.tmp 2],
 (sq (rg [xo 1 (.box 28 (.t 0)),xo 2 (.mov (.b false))])
 (sq (rg [fo 4 3 1,lo 5 4,xo 6 (.len false (.t 5)),mo 3 6])
 (sq (sq (rg [mo 7 3,xo 8 (bc .lss 7 1),mo 9 8,xg 10 (mv 3) 9 false,xg 11 (bc .gtr 10 8) 9 false,xo 12 (.pick (.t 9) (.b true) (.t 11)),mo 13 12,xg 14 (fa 6 1) 13 false,xg 15 (lf 14) 13 false,xg 16 (.len false (.t 15)) 13 false,xg 17 (mv 3) 13 false,xg 18 (bi .neq 16 17) 13 false,xo 19 (.pick (.t 13) (.b true) (.t 18)),mo 20 19,xg 21 (fa 6 1) 20 false,xg 22 (lf 21) 20 false,xg 23 (.call 19 [(.t 22)]) 20 false,xg 24 (.not (.t 23)) 20 false,xo 25 (.pick (.t 20) (.b true) (.t 24)),mo 26 25,xg 27 (fa 0 1) 26 false,xg 28 (lf 27) 26 false,xg 29 (bc .lss 28 0) 26 false,xo 30 (.pick (.t 26) (.b true) (.t 29)),mo 31 30,xg 32 (fa 0 1) 31 false,xg 33 (lf 32) 31 false,xg 34 (bc .gtr 33 1000000000000) 31 false,xo 35 (.pick (.t 31) (.b true) (.t 34)),mo 36 35,xg 37 (fa 2 1) 36 false,xg 38 (lf 37) 36 false,xg 39 (bc .neq 38 0) 36 false,xg 40 (mv 39) 36 false,xg 41 (fa 2 1) 40 true,xg 42 (lf 41) 40 true,xg 43 (bc .neq 42 1) 40 true,xg 44 (.pick (.t 40) (.t 43) (.b false)) 36 false,xo 45 (.pick (.t 36) (.b true) (.t 44))])
 (cD 45
 (sq (rg [xo 2 (.mov (.b false))])
 .ret)
 .skip))
 (sq (rg [fo 46 3 1,lo 47 46,xo 48 (.mkf (.func 42) [] [(.t 1)]),xo 49 (.call 41 [(.t 47),(.t 48)]),xo 50 (.not (.t 49)),mo 2 50])
 .ret))))⟩
theorem qcH:trFn Try.prog 26 [] []=some qoH:=by kernel_rfl
abbrev qNM:Nat:=27
def qYM:FnI:=⟨29,[.tmp 2],
 (sq (rg [xo 2 (.mov (.b false))])
 (sq (sq (rg [mo 5 0,xo 6 (.len false (.t 5)),xo 7 (.mov (ci 0))])
 (.block 0
 (.loop [7] [8,9,10,11,4,3,12,13,14,15,16,17,18,19,20,21,22,23,24,25,26,27,2,28,7]
 (sq (rg [xo 8 (bi .lss 7 6)])
 (sq (cD 8
 .skip
 (.exit 0))
 (sq (.block 1
 (sq (rg [mo 9 7,xo 10 (ia 3 5 7),xo 11 (lt 3 10),xo 4 (.alloc 79 [(vi 0),(vi 0),(.v (.bool false))]),mo 3 9,xn (st 3 4 11)])
 (sq (rd [] (of 0 (fo 12 0 4)
 (ot 1 (lo 13 12)
 (of 2 (xo 14 (bc .lss 13 0))
 (of 3 (mo 15 14)
 (of 4 (xg 16 (fa 1 4) 15 false)
 (ot 5 (xg 17 (lf 16) 15 false)
 (of 6 (xg 18 (bc .lss 17 0) 15 false)
 (of 7 (xo 19 (.pick (.t 15) (.b true) (.t 18)))
 (of 8 (mo 20 19)
 (of 9 (xg 21 (mv 0) 20 false)
 (of 10 (xg 22 (mv 3) 20 false)
 (of 11 (xg 23 (.slc 3 (.t 21) none (some (.t 22)) none) 20 false)
 (of 12 (xg 24 (fa 0 4) 20 false)
 (ot 13 (xg 25 (lf 24) 20 false)
 (of 14 (xg 26 (.call 43 [(.t 23),(.t 25)]) 20 false)
 (of 15 (xo 27 (.pick (.t 20) (.b true) (.t 26)))
 .nil)))))))))))))))))
 (cD 27
 (sq (rg [xo 2 (.mov (.b false))])
 .ret)
 .skip))))
 (rg [xo 28 (bc .add 7 1),mo 7 28])))))))
 (sq (rg [xo 2 (.mov (.b true))])
 .ret)))⟩
theorem qtL:trFn Try.prog 27 [([],(fs [0,1,2,3,4,5,6,7,8,9,10,11,12,13] (.exec 14 (.first 15 .nil))))] [[7]]=some qYM:=by kernel_rfl
abbrev q9G:Nat:=28
def qQH:FnI:=⟨50,[.tmp 2],
 (sq (rg [xo 1 (.box 63 (.t 0)),xo 2 (.mov (.b false))])
 (sq (sq (rg [fo 7 0 1,xo 8 (lt 3 7),xo 9 (.call 44 [(.t 8)]),xo 10 (.not (.t 9)),mo 11 10,xg 12 (fa 3 1) 11 false,xg 13 (lf 12) 11 false,xg 14 (.len false (.t 13)) 11 false,xg 15 (fa 0 1) 11 false,xg 16 (fa 2 15) 11 false,xg 17 (lf 16) 11 false,xg 18 (.len false (.t 17)) 11 false,xg 19 (bi .neq 14 18) 11 false,xo 20 (.pick (.t 11) (.b true) (.t 19))])
 (cD 20
 (sq (rg [xo 2 (.mov (.b false))])
 .ret)
 .skip))
 (sq (sq (rg [fo 21 3 1,lo 22 21,xo 23 (.len false (.t 22)),xo 24 (.mov (ci 0))])
 (.block 0
 (.loop [24] [25,26,27,28,4,3,29,30,31,32,33,34,5,35,6,36,37,38,39,40,41,42,43,44,45,46,47,48,2,49,24]
 (sq (rg [xo 25 (bi .lss 24 23)])
 (sq (cD 25
 .skip
 (.exit 0))
 (sq (.block 1
 (sq (rg [mo 26 24,xo 27 (ia 2 22 24),xo 28 (lt 2 27),xo 4 (.alloc 69 [(.v (.int .u64 (0))),(.v (.slice none 0 0))]),mo 3 26,xn (st 2 4 28)])
 (sq (rg [fo 29 0 1,fo 30 2 29,lo 31 30,mo 32 3,xo 33 (ia 4 31 32),xo 34 (lt 4 33),xo 5 (.alloc 86 [(.v (.string ⟨#[]⟩)),(vi 0),(vi 0),(.v (.slice none 0 0))]),xn (st 4 5 34)])
 (sq (rg [xo 35 (.mkf (.func 45) [] [(.t 5)]),mo 6 35])
 (sq (rg [fo 36 1 4,lo 37 36,xo 38 (.len false (.t 37)),fo 39 3 5,lo 40 39,xo 41 (.len false (.t 40)),xo 42 (bi .neq 38 41),mo 43 42,xg 44 (fa 1 4) 43 false,xg 45 (lf 44) 43 false,xg 46 (mv 6) 43 false,xg 47 (.call 47 [(.t 45),(.t 46)]) 43 false,xo 48 (.pick (.t 43) (.b true) (.t 47))])
 (cD 48
 (sq (rg [xo 2 (.mov (.b false))])
 .ret)
 .skip))))))
 (rg [xo 49 (bc .add 24 1),mo 24 49])))))))
 (sq (rg [xo 2 (.mov (.b true))])
 .ret))))⟩
theorem qiG:trFn Try.prog 28 [] [[24]]=some qQH:=by kernel_rfl
abbrev qOM:Nat:=29
def qZM:FnI:=⟨20,[.tmp 2],
 (sq (rg [xo 1 (.box 81 (.t 0)),xo 2 (.mov (.b false))])
 (sq (rg [fo 3 0 1,lo 4 3,xo 5 (.call 48 [(.t 4)]),mo 6 5,xg 7 (fa 2 1) 6 true,xg 8 (lf 7) 6 true,xg 9 (bc .geq 8 0) 6 true,xo 10 (.pick (.t 6) (.t 9) (.b false)),mo 11 10,xg 12 (fa 1 1) 11 true,xg 13 (lf 12) 11 true,xg 14 (mv 13) 11 true,xg 15 (fa 3 1) 14 false,xg 16 (lf 15) 14 false,xg 17 (.not (.t 16)) 14 false,xg 18 (.pick (.t 14) (.b true) (.t 17)) 11 true,xo 19 (.pick (.t 11) (.t 18) (.b false)),mo 2 19])
 .ret))⟩
theorem quL:trFn Try.prog 29 [] []=some qZM:=by kernel_rfl
abbrev qmI:Nat:=30
def q0I:FnI:=⟨8,[.tmp 4],
 (sq (rg [xo 3 (.box 9 (.t 1)),xo 4 (.mov (ci 0))])
 (sq (rg [mo 5 0,xo 6 (.mkf (.func 50) [] [(.t 3)]),xo 7 (.call 49 [(.t 5),(.t 6)]),mo 4 7])
 .ret))⟩
theorem qTI:trFn Try.prog 30 [] []=some q0I:=by kernel_rfl
abbrev qwK:Nat:=31
def qCL:FnI:=⟨64,[.cell 6 8 true,.tmp 7],
 (sq (rg [xo 3 (.box 60 (.t 0)),xo 6 (.alloc 28 [(vi 0),(vi 0),(vi 0),(.v (.slice none 0 0)),(.v (.slice none 0 0)),(.v (.slice none 0 0)),(.v (.slice none 0 0)),(.v (.slice none 0 0))]),xo 7 (.mov (ci 0))])
 (sq (rg [xo 15 (lt 3 3),xo 16 (.call 40 [(.t 15)]),mo 14 16,xo 17 (.ext 0 (.t 14)),xo 18 (.ext 1 (.t 14)),xo 8 (.alloc 63 [(.v (.slice none 0 0)),(.v (.slice none 0 0)),(.v (.slice none 0 0)),(.v (.slice none 0 0)),(.v (.bool false))]),xn (st 5 8 17),mo 9 18])
 (sq (sq (rg [mo 19 9,xo 20 (bc .neq 19 0)])
 (cD 20
 (sq (rg [xo 21 (.build [(vi 0),(vi 0),(vi 0),(.v (.slice none 0 0)),(.v (.slice none 0 0)),(.v (.slice none 0 0)),(.v (.slice none 0 0)),(.v (.slice none 0 0))] []),mo 22 9,xn (st 8 6 21),mo 7 22])
 .ret)
 .skip))
 (sq (rg [mo 24 2,xo 25 (.call 51 [(.t 24)]),mo 23 25,xo 26 (.ext 0 (.t 23)),xo 27 (.ext 1 (.t 23)),mo 10 26,mo 9 27])
 (sq (sq (rg [mo 28 9,xo 29 (bc .neq 28 0)])
 (cD 29
 (sq (rg [xo 30 (.build [(vi 0),(vi 0),(vi 0),(.v (.slice none 0 0)),(.v (.slice none 0 0)),(.v (.slice none 0 0)),(.v (.slice none 0 0)),(.v (.slice none 0 0))] []),mo 31 9,xn (st 8 6 30),mo 7 31])
 .ret)
 .skip))
 (sq (rd [11] (ot 0 (xo 32 (lt 5 8))
 (of 2 (mo 34 2)
 (of 4 (mo 36 10)
 (.alt (of 1 (xo 33 (.bsl 63 5 1 [(.v (.slice none 0 0)),(.v (.slice none 0 0)),(.v (.slice none 0 0)),(.v (.slice none 0 0)),(.v (.bool false))] [(0,5,(.t 32))]))
 (of 3 (xo 35 (.msl 3 1 8 [(.int .i64 (0))] (.t 34) (.t 34)))
 (of 5 (xo 37 (.build [(vi 0),(vi 0),(vi 0),(.v (.slice none 0 0)),(.v (.slice none 0 0)),(.v (.slice none 0 0)),(.v (.slice none 0 0)),(.v (.slice none 0 0))] [(4,1,(.t 33)),(3,1,(.t 35)),(6,1,(.t 36))]))
 (.bring ⟨6,false,[],xo 11 (.alloc 28 [(vi 0),(vi 0),(vi 0),(.v (.slice none 0 0)),(.v (.slice none 0 0)),(.v (.slice none 0 0)),(.v (.slice none 0 0)),(.v (.slice none 0 0))])⟩
 (of 7 (xn (st 8 11 37))
 .nil)))))
 (of 3 (xo 35 (.msl 3 1 8 [(.int .i64 (0))] (.t 34) (.t 34)))
 (of 1 (xo 33 (.bsl 63 5 1 [(.v (.slice none 0 0)),(.v (.slice none 0 0)),(.v (.slice none 0 0)),(.v (.slice none 0 0)),(.v (.bool false))] [(0,5,(.t 32))]))
 (of 5 (xo 37 (.build [(vi 0),(vi 0),(vi 0),(.v (.slice none 0 0)),(.v (.slice none 0 0)),(.v (.slice none 0 0)),(.v (.slice none 0 0)),(.v (.slice none 0 0))] [(4,1,(.t 33)),(3,1,(.t 35)),(6,1,(.t 36))]))
 (.bring ⟨6,false,[],xo 11 (.alloc 28 [(vi 0),(vi 0),(vi 0),(.v (.slice none 0 0)),(.v (.slice none 0 0)),(.v (.slice none 0 0)),(.v (.slice none 0 0)),(.v (.slice none 0 0))])⟩
 (of 7 (xn (st 8 11 37))
 .nil))))))))))
 (sq (sq (rg [mo 38 1,xo 39 (.len false (.t 38)),xo 40 (.mov (ci 0))])
 (.block 0
 (.loop [40] [41,42,43,13,44,45,46,47,48,49,50,51,52,53,54,7,55,56,57,58,59,60,61,62,40]
 (sq (rg [xo 41 (bi .lss 40 39)])
 (sq (cD 41
 .skip
 (.exit 0))
 (sq (.block 1
 (sq (rg [xo 42 (ia 1 38 40),lo 43 42,mo 13 43])
 (sq (sq (rg [mo 44 13,xo 45 (.call 48 [(.t 44)]),xo 46 (.not (.t 45)),mo 47 46,xg 48 (fa 5 11) 47 false,xg 49 (lf 48) 47 false,xg 50 (mv 13) 47 false,xg 51 (.call 30 [(.t 49),(.t 50)]) 47 false,xg 52 (bc .geq 51 0) 47 false,xo 53 (.pick (.t 47) (.b true) (.t 52))])
 (cD 53
 (sq (rg [xo 54 (.build [(vi 0),(vi 0),(vi 0),(.v (.slice none 0 0)),(.v (.slice none 0 0)),(.v (.slice none 0 0)),(.v (.slice none 0 0)),(.v (.slice none 0 0))] []),xn (st 8 6 54),xo 7 (.mov (ci 1))])
 .ret)
 .skip))
 (rg [fo 55 5 11,lo 56 55,mo 57 13,xo 58 (.build [(.v (.string ⟨#[]⟩)),(.v (.bool false)),(vi 0),(.v (.bool false))] [(0,1,(.t 57))]),xo 59 (.bsl 81 4 1 [(.v (.string ⟨#[]⟩)),(.v (.bool false)),(vi 0),(.v (.bool false))] [(0,4,(.t 58))]),xo 60 (.app 81 4 40 (.t 56) (.t 59)),fo 61 5 11,xn (st 1 61 60)]))))
 (rg [xo 62 (bc .add 40 1),mo 40 62])))))))
 (sq (rg [xo 63 (lt 8 11),xn (st 8 6 63),xo 7 (.mov (ci 0))])
 .ret))))))))⟩
theorem qWK:trFn Try.prog 31 [([6],(fs [0,2,4] (.alt (.exec 1 (.exec 3 (.first 5 (.bring 6 (.exec 7 .nil))))) (.exec 3 (.exec 1 (.first 5 (.bring 6 (.exec 7 .nil))))))))] [[40]]=some qCL:=by kernel_rfl
abbrev qOD:Nat:=32
def qQD:FnI:=⟨8,[.tmp 2],
 (sq (rg [xo 2 (.mov (.c (.slice none 0 0)))])
 (sq (sq (rg [mo 3 0,xo 4 (.binn 0 false (.t 3))])
 (cD 4
 (sq (rg [xo 2 (.mov (.c (.slice none 0 0)))])
 .ret)
 .skip))
 (sq (rg [xo 5 (.bsl 3 1 0 [] []),mo 6 0,xo 7 (.app 3 1 8 (.t 5) (.t 6)),mo 2 7])
 .ret)))⟩
theorem qKD:trFn Try.prog 32 [] []=some qQD:=by kernel_rfl
abbrev qXB:Nat:=33
def qYB:FnI:=⟨29,[.tmp 6],
 (sq (rg [xo 5 (.box 97 (.t 2)),xo 6 (.mov (.c (.slice none 0 0)))])
 (sq (rg [mo 10 0,xo 11 (.len false (.t 10)),xo 12 (.msl 63 5 104 [(.slice none 0 0),(.slice none 0 0),(.slice none 0 0),(.slice none 0 0),(.bool false)] (.t 11) (.t 11)),mo 7 12])
 (sq (sq (rg [mo 13 0,xo 14 (.len false (.t 13)),xo 15 (.mov (ci 0))])
 (.block 0
 (.loop [15] [16,17,18,19,9,8,20,21,22,23,24,25,26,27,15]
 (sq (rg [xo 16 (bi .lss 15 14)])
 (sq (cD 16
 .skip
 (.exit 0))
 (sq (.block 1
 (sq (rg [mo 17 15,xo 18 (ia 5 13 15),xo 19 (lt 5 18),xo 9 (.alloc 63 [(.v (.slice none 0 0)),(.v (.slice none 0 0)),(.v (.slice none 0 0)),(.v (.slice none 0 0)),(.v (.bool false))]),mo 8 17,xn (st 5 9 19)])
 (rg [mo 20 7,mo 21 8,mo 22 1,xo 23 (lt 0 5),xo 24 (lt 5 9),xo 25 (.callv (.t 22) [(.t 23),(.t 24)]),xo 26 (ia 5 20 21),xn (st 5 26 25)])))
 (rg [xo 27 (bc .add 15 1),mo 15 27])))))))
 (sq (rg [mo 28 7,mo 6 28])
 .ret))))⟩
theorem qWB:trFn Try.prog 33 [] [[15]]=some qYB:=by kernel_rfl
abbrev q0A:Nat:=34
def qnD:FnI:=⟨11,[.cell 4 5 true],
 (sq (rg [xo 2 (.box 97 (.t 0)),xo 3 (.box 63 (.t 1)),xo 4 (.alloc 63 [(.v (.slice none 0 0)),(.v (.slice none 0 0)),(.v (.slice none 0 0)),(.v (.slice none 0 0)),(.v (.bool false))])])
 (sq (rg [fo 5 3 3,lo 6 5,xo 7 (lt 0 2),xo 8 (.call 52 [(.t 6),(.c (.func (.func 53) #[] #[])),(.t 7)]),fo 9 3 3,xn (st 1 9 8)])
 (sq (rg [xo 10 (lt 5 3),xn (st 5 4 10)])
 .ret)))⟩
theorem qWD:trFn Try.prog 34 [] []=some qnD:=by kernel_rfl
abbrev qQB:Nat:=35
def qRB:FnI:=⟨8,[.tmp 2],
 (sq (rg [xo 2 (.mov (.c (.slice none 0 0)))])
 (sq (sq (rg [mo 3 0,xo 4 (.binn 0 false (.t 3))])
 (cD 4
 (sq (rg [xo 2 (.mov (.c (.slice none 0 0)))])
 .ret)
 .skip))
 (sq (rg [xo 5 (.bsl 81 4 0 [] []),mo 6 0,xo 7 (.app 81 4 40 (.t 5) (.t 6)),mo 2 7])
 .ret)))⟩
theorem qMB:trFn Try.prog 35 [] []=some qRB:=by kernel_rfl
abbrev qwB:Nat:=36
def qxB:FnI:=⟨29,[.tmp 6],
 (sq (rg [xo 5 (.box 97 (.t 2)),xo 6 (.mov (.c (.slice none 0 0)))])
 (sq (rg [mo 10 0,xo 11 (.len false (.t 10)),xo 12 (.msl 46 1 24 [(.slice none 0 0)] (.t 11) (.t 11)),mo 7 12])
 (sq (sq (rg [mo 13 0,xo 14 (.len false (.t 13)),xo 15 (.mov (ci 0))])
 (.block 0
 (.loop [15] [16,17,18,19,8,9,20,21,22,23,24,25,26,27,15]
 (sq (rg [xo 16 (bi .lss 15 14)])
 (sq (cD 16
 .skip
 (.exit 0))
 (sq (.block 1
 (sq (rg [mo 17 15,xo 18 (ia 1 13 15),lo 19 18,mo 8 17,mo 9 19])
 (rg [mo 20 7,mo 21 8,mo 22 1,xo 23 (lt 0 5),mo 24 9,xo 25 (.callv (.t 22) [(.t 23),(.t 24)]),xo 26 (ia 1 20 21),xn (st 1 26 25)])))
 (rg [xo 27 (bc .add 15 1),mo 15 27])))))))
 (sq (rg [mo 28 7,mo 6 28])
 .ret))))⟩
theorem quB:trFn Try.prog 36 [] [[15]]=some qxB:=by kernel_rfl
abbrev qlB:Nat:=37
def qBF:FnI:=⟨7,[.tmp 4],
 (sq (rg [xo 2 (.box 97 (.t 0)),xo 4 (.mov (.c (.slice none 0 0)))])
 (sq (rg [mo 5 1,xo 6 (.call 54 [(.t 5)]),mo 4 6])
 .ret))⟩
theorem qvE:trFn Try.prog 37 [] []=some qBF:=by kernel_rfl
abbrev qCB:Nat:=38
def qDB:FnI:=⟨8,[.tmp 2],
 (sq (rg [xo 2 (.mov (.c (.slice none 0 0)))])
 (sq (sq (rg [mo 3 0,xo 4 (.binn 0 false (.t 3))])
 (cD 4
 (sq (rg [xo 2 (.mov (.c (.slice none 0 0)))])
 .ret)
 .skip))
 (sq (rg [xo 5 (.bsl 79 3 0 [] []),mo 6 0,xo 7 (.app 79 3 24 (.t 5) (.t 6)),mo 2 7])
 .ret)))⟩
theorem qBB:trFn Try.prog 38 [] []=some qDB:=by kernel_rfl
abbrev qgI:Nat:=40
def qxI:FnI:=⟨53,[.cell 2 5 true,.tmp 3],
 (sq (rg [xo 1 (.box 60 (.t 0)),xo 2 (.alloc 63 [(.v (.slice none 0 0)),(.v (.slice none 0 0)),(.v (.slice none 0 0)),(.v (.slice none 0 0)),(.v (.bool false))]),xo 3 (.mov (ci 0))])
 (sq (sq (rg [xo 10 (lt 3 1),xo 11 (.call 44 [(.t 10)]),xo 12 (.not (.t 11))])
 (cD 12
 (sq (rg [xo 13 (.build [(.v (.slice none 0 0)),(.v (.slice none 0 0)),(.v (.slice none 0 0)),(.v (.slice none 0 0)),(.v (.bool false))] []),xn (st 5 2 13),xo 3 (.mov (ci 1))])
 .ret)
 .skip))
 (sq (rg [xo 14 (lt 3 1),xo 15 (.build [(.v (.slice none 0 0)),(.v (.slice none 0 0)),(.v (.slice none 0 0)),(.v (.slice none 0 0)),(.v (.bool false))] [(0,3,(.t 14))]),xo 4 (.alloc 63 [(.v (.slice none 0 0)),(.v (.slice none 0 0)),(.v (.slice none 0 0)),(.v (.slice none 0 0)),(.v (.bool false))]),xn (st 5 4 15)])
 (sq (sq (rg [fo 16 2 1,lo 17 16,xo 18 (.len false (.t 17)),xo 19 (.mov (ci 0))])
 (.block 0
 (.loop [19] [20,21,22,6,7,23,24,25,26,27,29,30,31,28,32,33,8,9,34,35,36,37,3,38,39,40,41,42,43,44,45,46,47,48,49,50,51,19]
 (sq (rg [xo 20 (bi .lss 19 18)])
 (sq (cD 20
 .skip
 (.exit 0))
 (sq (.block 1
 (sq (rg [xo 21 (ia 4 17 19),xo 22 (lt 4 21),xo 6 (.alloc 86 [(.v (.string ⟨#[]⟩)),(vi 0),(vi 0),(.v (.slice none 0 0))]),xn (st 4 6 22)])
 (sq (rg [xo 7 (.alloc 69 [(.v (.int .u64 (0))),(.v (.slice none 0 0))])])
 (sq (sq (rg [fo 23 3 6,lo 24 23,xo 25 (.len false (.t 24)),xo 26 (.mov (ci 0))])
 (.block 2
 (.loop [26] [27,29,30,31,28,32,33,8,9,34,35,36,37,3,38,39,40,41,42,43,44,26]
 (sq (rg [xo 27 (bi .lss 26 25)])
 (sq (cD 27
 .skip
 (.exit 2))
 (sq (.block 3
 (sq (rg [fo 29 2 6,lo 30 29,xo 31 (.call 66 [(.t 30)]),mo 28 31,xo 32 (.ext 0 (.t 28)),xo 33 (.ext 1 (.t 28)),xo 8 (.alloc 72 [(.v (.int .u64 (0))),(.v (.slice none 0 0)),(vi 0)]),xn (st 3 8 32),mo 9 33])
 (sq (sq (rg [mo 34 9,xo 35 (bc .neq 34 0)])
 (cD 35
 (sq (rg [xo 36 (.build [(.v (.slice none 0 0)),(.v (.slice none 0 0)),(.v (.slice none 0 0)),(.v (.slice none 0 0)),(.v (.bool false))] []),mo 37 9,xn (st 5 2 36),mo 3 37])
 .ret)
 .skip))
 (rg [fo 38 1 7,lo 39 38,xo 40 (lt 3 8),xo 41 (.bsl 72 3 1 [(.v (.int .u64 (0))),(.v (.slice none 0 0)),(vi 0)] [(0,3,(.t 40))]),xo 42 (.app 72 3 40 (.t 39) (.t 41)),fo 43 1 7,xn (st 1 43 42)]))))
 (rg [xo 44 (bc .add 26 1),mo 26 44])))))))
 (rg [fo 45 3 4,lo 46 45,xo 47 (lt 2 7),xo 48 (.bsl 69 2 1 [(.v (.int .u64 (0))),(.v (.slice none 0 0))] [(0,2,(.t 47))]),xo 49 (.app 69 2 32 (.t 46) (.t 48)),fo 50 3 4,xn (st 1 50 49)])))))
 (rg [xo 51 (bc .add 19 1),mo 19 51])))))))
 (sq (rg [xo 52 (lt 5 4),xn (st 5 2 52),xo 3 (.mov (ci 0))])
 .ret)))))⟩
theorem qNI:trFn Try.prog 40 [] [[19],[26]]=some qxI:=by kernel_rfl
abbrev qIC:Nat:=41
def qpA:FnI:=⟨9,[.tmp 4],
 (sq (rg [xo 4 (.mov (.b false))])
 (sq (rg [mo 5 0,mo 6 1,xo 7 (.call 67 [(.t 5),(.t 6)]),xo 8 (bc .geq 7 0),mo 4 8])
 .ret))⟩
theorem qCC:trFn Try.prog 41 [] []=some qpA:=by kernel_rfl
abbrev qTG:Nat:=42
theorem qXG:FnOk Try.prog 42:=FnOk.of (by kernel_rfl)
def qtD:FnI:=⟨13,[.tmp 3],
 (sq (rg [xo 3 (.mov (.b false))])
 (sq (rg [mo 4 0,xo 5 (bc .lss 4 0),mo 6 5,xg 7 (mv 0) 6 false,xg 8 (fa 0 1) 6 false,xg 9 (lf 8) 6 false,xg 10 (bc .add 9 1) 6 false,xg 11 (bi .gtr 7 10) 6 false,xo 12 (.pick (.t 6) (.b true) (.t 11)),mo 3 12])
 .ret))⟩
theorem qRG:trFn Try.prog 42 [] []=some qtD:=by kernel_rfl
abbrev q3K:Nat:=43
def qJL:FnI:=⟨8,[.tmp 4],
 (sq (rg [xo 3 (.box 3 (.t 1)),xo 4 (.mov (.b false))])
 (sq (rg [mo 5 0,xo 6 (.mkf (.func 69) [] [(.t 3)]),xo 7 (.call 68 [(.t 5),(.t 6)]),mo 4 7])
 .ret))⟩
theorem qdK:trFn Try.prog 43 [] []=some qJL:=by kernel_rfl
abbrev qCN:Nat:=44
def qKN:FnI:=⟨13,[.tmp 2],
 (sq (rg [xo 1 (.box 60 (.t 0)),xo 2 (.mov (.b false))])
 (sq (rg [xo 6 (lt 3 1),xo 7 (.call 71 [(.t 6)]),xo 8 (.call 70 [(.t 7)]),mo 5 8,xo 9 (.ext 0 (.t 5)),xo 10 (.ext 1 (.t 5)),mo 3 9,mo 4 10])
 (sq (rg [mo 11 3,xo 12 (bc .eql 11 0),mo 2 12])
 .ret)))⟩
theorem qlM:trFn Try.prog 44 [] []=some qKN:=by kernel_rfl
abbrev q8F:Nat:=45
theorem q9F:FnOk Try.prog 45:=FnOk.of (by kernel_rfl)
def qPD:FnI:=⟨15,[.tmp 3],
 (sq (rg [xo 2 (.box 72 (.t 0)),xo 3 (.mov (.b false))])
 (sq (rg [xo 4 (lt 3 2),xo 5 (.call 46 [(.t 4)]),xo 6 (.not (.t 5)),mo 7 6,xg 8 (fa 1 2) 7 false,xg 9 (lf 8) 7 false,xg 10 (.len false (.t 9)) 7 false,xg 11 (fa 2 1) 7 false,xg 12 (lf 11) 7 false,xg 13 (bi .neq 10 12) 7 false,xo 14 (.pick (.t 7) (.b true) (.t 13)),mo 3 14])
 .ret))⟩
theorem qzF:trFn Try.prog 45 [] []=some qPD:=by kernel_rfl
abbrev qLM:Nat:=46
def qWM:FnI:=⟨29,[.tmp 2],
 (sq (rg [xo 1 (.box 72 (.t 0)),xo 2 (.mov (.b false))])
 (sq (rg [xo 6 (lt 3 1),xo 7 (.call 72 [(.t 6)]),mo 5 7,xo 8 (.ext 0 (.t 5)),xo 9 (.ext 1 (.t 5)),mo 3 8,mo 4 9])
 (sq (rg [mo 10 4,xo 11 (bc .eql 10 0),mo 12 11,xg 13 (fa 1 1) 12 true,xg 14 (lf 13) 12 true,xg 15 (.len false (.t 14)) 12 true,xg 16 (bc .geq 15 1) 12 true,xo 17 (.pick (.t 12) (.t 16) (.b false)),mo 18 17,xg 19 (fa 1 1) 18 true,xg 20 (lf 19) 18 true,xg 21 (.len false (.t 20)) 18 true,xg 22 (bc .leq 21 4) 18 true,xo 23 (.pick (.t 18) (.t 22) (.b false)),mo 24 23,xg 25 (fa 2 1) 24 true,xg 26 (lf 25) 24 true,xg 27 (bc .geq 26 0) 24 true,xo 28 (.pick (.t 24) (.t 27) (.b false)),mo 2 28])
 .ret)))⟩
theorem qrL:trFn Try.prog 46 [] []=some qWM:=by kernel_rfl
abbrev qKB:Nat:=47
def qUA:FnI:=⟨9,[.tmp 4],
 (sq (rg [xo 4 (.mov (.b false))])
 (sq (rg [mo 5 0,mo 6 1,xo 7 (.call 73 [(.t 5),(.t 6)]),xo 8 (bc .geq 7 0),mo 4 8])
 .ret))⟩
theorem qFB:trFn Try.prog 47 [] []=some qUA:=by kernel_rfl
abbrev qnJ:Nat:=48
def qCK:FnI:=⟨21,[.tmp 2],
 (sq (rg [xo 2 (.mov (.b false))])
 (sq (rg [mo 3 0,xo 4 (.len true (.t 3)),xo 5 (bc .gtr 4 0),mo 6 5,xg 7 (mv 0) 6 true,xg 8 (.len true (.t 7)) 6 true,xg 9 (bc .leq 8 16) 6 true,xo 10 (.pick (.t 6) (.t 9) (.b false)),mo 11 10,xg 12 (mv 0) 11 true,xg 13 (.idxs (.t 12) (ci 0)) 11 true,xg 14 (.call 74 [(.t 13)]) 11 true,xo 15 (.pick (.t 11) (.t 14) (.b false)),mo 16 15,xg 17 (.call 75 []) 16 true,xg 18 (mv 0) 16 true,xg 19 (.call 76 [(.t 17),(.t 18),(.c (.int .u8 (45)))]) 16 true,xo 20 (.pick (.t 16) (.t 19) (.b false)),mo 2 20])
 .ret))⟩
theorem qGJ:trFn Try.prog 48 [] []=some qCK:=by kernel_rfl
abbrev q5A:Nat:=49
def qPA:FnI:=⟨19,[.tmp 4],
 (sq (rg [xo 4 (.mov (ci 0))])
 (sq (sq (rg [mo 6 0,xo 7 (.len false (.t 6)),xo 8 (.mov (ci 0))])
 (.block 0
 (.loop [8] [9,10,5,11,12,13,14,15,16,17,4,18,8]
 (sq (rg [xo 9 (bi .lss 8 7)])
 (sq (cD 9
 .skip
 (.exit 0))
 (sq (.block 1
 (sq (rg [mo 10 8,mo 5 10])
 (sq (rg [mo 11 1,mo 12 0,mo 13 5,xo 14 (ia 4 12 13),xo 15 (lt 4 14),xo 16 (.callv (.t 11) [(.t 15)])])
 (cD 16
 (sq (rg [mo 17 5,mo 4 17])
 .ret)
 .skip))))
 (rg [xo 18 (bc .add 8 1),mo 8 18])))))))
 (sq (rg [xo 4 (.mov (ci (-1)))])
 .ret)))⟩
theorem q4A:trFn Try.prog 49 [] [[8]]=some qPA:=by kernel_rfl
abbrev qDH:Nat:=50
theorem qLH:FnOk Try.prog 50:=FnOk.of (by kernel_rfl)
def qQE:FnI:=⟨8,[.tmp 3],
 (sq (rg [xo 2 (.box 81 (.t 0)),xo 3 (.mov (.b false))])
 (sq (rg [fo 4 0 2,lo 5 4,lo 6 1,xo 7 (.bins .eql (.t 5) (.t 6)),mo 3 7])
 .ret))⟩
theorem qmG:trFn Try.prog 50 [] []=some qQE:=by kernel_rfl
abbrev qzK:Nat:=51
def qFL:FnI:=⟨25,[.tmp 2,.tmp 3],
 (sq (rg [xo 2 (.mov (.c (.slice none 0 0))),xo 3 (.mov (ci 0))])
 (sq (sq (rg [mo 6 0,xo 7 (bc .lss 6 1),mo 8 7,xg 9 (mv 0) 8 false,xg 10 (bc .gtr 9 8) 8 false,xo 11 (.pick (.t 8) (.b true) (.t 10))])
 (cD 11
 (sq (rg [xo 2 (.mov (.c (.slice none 0 0))),xo 3 (.mov (ci 1))])
 .ret)
 .skip))
 (sq (rg [mo 12 0,xo 13 (.msl 46 1 24 [(.slice none 0 0)] (.t 12) (.t 12)),mo 4 13])
 (sq (sq (rg [mo 14 4,xo 15 (.len false (.t 14)),xo 16 (.mov (ci 0))])
 (.block 0
 (.loop [16] [17,18,5,19,20,21,22,23,16]
 (sq (rg [xo 17 (bi .lss 16 15)])
 (sq (cD 17
 .skip
 (.exit 0))
 (sq (.block 1
 (sq (rg [mo 18 16,mo 5 18])
 (rg [mo 19 4,mo 20 5,xo 21 (.msl 37 1 8 [(.int .u64 (0))] (ci 6) (ci 6)),xo 22 (ia 1 19 20),xn (st 1 22 21)])))
 (rg [xo 23 (bc .add 16 1),mo 16 23])))))))
 (sq (rg [mo 24 4,mo 2 24,xo 3 (.mov (ci 0))])
 .ret)))))⟩
theorem qZK:trFn Try.prog 51 [] [[16]]=some qFL:=by kernel_rfl
abbrev qkB:Nat:=52
def qoB:FnI:=⟨29,[.tmp 6],
 (sq (rg [xo 5 (.box 97 (.t 2)),xo 6 (.mov (.c (.slice none 0 0)))])
 (sq (rg [mo 10 0,xo 11 (.len false (.t 10)),xo 12 (.msl 69 2 32 [(.int .u64 (0)),(.slice none 0 0)] (.t 11) (.t 11)),mo 7 12])
 (sq (sq (rg [mo 13 0,xo 14 (.len false (.t 13)),xo 15 (.mov (ci 0))])
 (.block 0
 (.loop [15] [16,17,18,19,9,8,20,21,22,23,24,25,26,27,15]
 (sq (rg [xo 16 (bi .lss 15 14)])
 (sq (cD 16
 .skip
 (.exit 0))
 (sq (.block 1
 (sq (rg [mo 17 15,xo 18 (ia 2 13 15),xo 19 (lt 2 18),xo 9 (.alloc 69 [(.v (.int .u64 (0))),(.v (.slice none 0 0))]),mo 8 17,xn (st 2 9 19)])
 (rg [mo 20 7,mo 21 8,mo 22 1,xo 23 (lt 0 5),xo 24 (lt 2 9),xo 25 (.callv (.t 22) [(.t 23),(.t 24)]),xo 26 (ia 2 20 21),xn (st 2 26 25)])))
 (rg [xo 27 (bc .add 15 1),mo 15 27])))))))
 (sq (rg [mo 28 7,mo 6 28])
 .ret))))⟩
theorem qhB:trFn Try.prog 52 [] [[15]]=some qoB:=by kernel_rfl
abbrev qJB:Nat:=53
def qNE:FnI:=⟨11,[.cell 4 2 true],
 (sq (rg [xo 2 (.box 97 (.t 0)),xo 3 (.box 69 (.t 1)),xo 4 (.alloc 69 [(.v (.int .u64 (0))),(.v (.slice none 0 0))])])
 (sq (rg [fo 5 1 3,lo 6 5,xo 7 (lt 0 2),xo 8 (.call 77 [(.t 6),(.c (.func (.func 78) #[] #[])),(.t 7)]),fo 9 1 3,xn (st 1 9 8)])
 (sq (rg [xo 10 (lt 2 3),xn (st 2 4 10)])
 .ret)))⟩
theorem q5D:trFn Try.prog 53 [] []=some qNE:=by kernel_rfl
abbrev qSC:Nat:=54
def qUC:FnI:=⟨8,[.tmp 2],
 (sq (rg [xo 2 (.mov (.c (.slice none 0 0)))])
 (sq (sq (rg [mo 3 0,xo 4 (.binn 0 false (.t 3))])
 (cD 4
 (sq (rg [xo 2 (.mov (.c (.slice none 0 0)))])
 .ret)
 .skip))
 (sq (rg [xo 5 (.bsl 37 1 0 [] []),mo 6 0,xo 7 (.app 37 1 8 (.t 5) (.t 6)),mo 2 7])
 .ret)))⟩
theorem qOC:trFn Try.prog 54 [] []=some qUC:=by kernel_rfl
abbrev qjI:Nat:=66
def qzI:FnI:=⟨40,[.cell 2 3 true,.tmp 3],
 (sq (rg [xo 2 (.alloc 72 [(.v (.int .u64 (0))),(.v (.slice none 0 0)),(vi 0)]),xo 3 (.mov (ci 0))])
 (sq (sq (rg [mo 6 0,xo 7 (bc .lss 6 1),mo 8 7,xg 9 (mv 0) 8 false,xg 10 (bc .gtr 9 4) 8 false,xo 11 (.pick (.t 8) (.b true) (.t 10))])
 (cD 11
 (sq (rg [xo 12 (.build [(.v (.int .u64 (0))),(.v (.slice none 0 0)),(vi 0)] []),xn (st 3 2 12),xo 3 (.mov (ci 1))])
 .ret)
 .skip))
 (sq (rg [mo 13 0,xo 14 (.msl 3 1 8 [(.int .i64 (0))] (.t 13) (.t 13)),xo 15 (.build [(.v (.int .u64 (0))),(.v (.slice none 0 0)),(vi 0)] [(1,1,(.t 14))]),xo 4 (.alloc 72 [(.v (.int .u64 (0))),(.v (.slice none 0 0)),(vi 0)]),xn (st 3 4 15)])
 (sq (sq (rg [fo 16 1 4,lo 17 16,xo 18 (.len false (.t 17)),xo 19 (.mov (ci 0))])
 (.block 0
 (.loop [19] [20,21,5,22,23,24,25,26,27,28,19]
 (sq (rg [xo 20 (bi .lss 19 18)])
 (sq (cD 20
 .skip
 (.exit 0))
 (sq (.block 1
 (sq (rg [mo 21 19,mo 5 21])
 (rg [fo 22 1 4,lo 23 22,mo 24 5,mo 25 5,xo 26 (bc .add 25 1),xo 27 (ia 1 23 24),xn (st 1 27 26)])))
 (rg [xo 28 (bc .add 19 1),mo 19 28])))))))
 (sq (rg [fo 29 1 4,lo 30 29,mo 31 0,xo 32 (bc .sub 31 1),xo 33 (ia 1 30 32),xn (.store 1 (.t 33) (ci (-1)))])
 (sq (rg [xo 35 (.call 83 [(.c (.int .u32 (0))),(ci 0)]),mo 34 35,xo 36 (.ext 0 (.t 34)),xo 37 (.ext 1 (.t 34)),fo 38 0 4,xn (st 1 38 36)])
 (sq (rg [xo 39 (lt 3 4),xn (st 3 2 39),xo 3 (.mov (ci 0))])
 .ret)))))))⟩
theorem qQI:trFn Try.prog 66 [] [[19]]=some qzI:=by kernel_rfl
abbrev qcC:Nat:=67
def qAB:FnI:=⟨19,[.tmp 4],
 (sq (rg [xo 4 (.mov (ci 0))])
 (sq (sq (rg [mo 6 0,xo 7 (.len false (.t 6)),xo 8 (.mov (ci 0))])
 (.block 0
 (.loop [8] [9,10,5,11,12,13,14,15,16,17,4,18,8]
 (sq (rg [xo 9 (bi .lss 8 7)])
 (sq (cD 9
 .skip
 (.exit 0))
 (sq (.block 1
 (sq (rg [mo 10 8,mo 5 10])
 (sq (rg [mo 11 1,mo 12 0,mo 13 5,xo 14 (ia 1 12 13),lo 15 14,xo 16 (.callv (.t 11) [(.t 15)])])
 (cD 16
 (sq (rg [mo 17 5,mo 4 17])
 .ret)
 .skip))))
 (rg [xo 18 (bc .add 8 1),mo 8 18])))))))
 (sq (rg [xo 4 (.mov (ci (-1)))])
 .ret)))⟩
theorem qZC:trFn Try.prog 67 [] [[8]]=some qAB:=by kernel_rfl
abbrev qjA:Nat:=68
def qKA:FnI:=⟨9,[.tmp 4],
 (sq (rg [xo 4 (.mov (.b false))])
 (sq (rg [mo 5 0,mo 6 1,xo 7 (.call 84 [(.t 5),(.t 6)]),xo 8 (bc .geq 7 0),mo 4 8])
 .ret))⟩
theorem qhA:trFn Try.prog 68 [] []=some qKA:=by kernel_rfl
abbrev qlI:Nat:=69
theorem qsI:FnOk Try.prog 69:=FnOk.of (by kernel_rfl)
def qnF:FnI:=⟨8,[.tmp 3],
 (sq (rg [xo 2 (.box 79 (.t 0)),xo 3 (.mov (.b false))])
 (sq (rg [fo 4 0 2,lo 5 4,lo 6 1,xo 7 (bi .eql 5 6),mo 3 7])
 .ret))⟩
theorem qSI:trFn Try.prog 69 [] []=some qnF:=by kernel_rfl
abbrev qnH:Nat:=70
def qrH:FnI:=⟨35,[.tmp 2,.tmp 3],
 (sq (rg [xo 1 (.box 34 (.t 0)),xo 2 (.mov (ci 0)),xo 3 (.mov (ci 0))])
 (sq (rg [xo 9 (lt 3 1),xo 10 (.build [(.v (.slice none 0 0)),(.v (.slice none 0 0)),(.v (.slice none 0 0))] [(0,3,(.t 9))]),xo 4 (.alloc 154 [(.v (.slice none 0 0)),(.v (.slice none 0 0)),(.v (.slice none 0 0))]),xn (st 3 4 10)])
 (sq (sq (rg [xo 11 (lt 3 4),xo 12 (.mkf (.func 85) [(.t 11)] []),xo 13 (lt 3 4),xo 14 (.mkf (.func 86) [(.t 13)] []),xo 15 (lt 3 4),xo 16 (.mkf (.func 87) [(.t 15)] []),xo 17 (lt 3 4),xo 18 (.mkf (.func 88) [(.t 17)] []),xo 19 (.bsl 155 1 4 [(.v .nilFunc),(.v .nilFunc),(.v .nilFunc),(.v .nilFunc)] [(0,1,(.t 12)),(1,1,(.t 14)),(2,1,(.t 16)),(3,1,(.t 18))]),xo 20 (.len false (.t 19)),xo 21 (.mov (ci 0))])
 (.block 0
 (.loop [21] [22,23,24,6,26,27,25,28,29,7,8,30,31,32,33,2,3,34,21]
 (sq (rg [xo 22 (bi .lss 21 20)])
 (sq (cD 22
 .skip
 (.exit 0))
 (sq (.block 1
 (sq (rg [xo 23 (ia 1 19 21),lo 24 23,mo 6 24])
 (sq (rg [mo 26 6,xo 27 (.callv (.t 26) []),mo 25 27,xo 28 (.ext 0 (.t 25)),xo 29 (.ext 1 (.t 25)),mo 7 28,mo 8 29])
 (sq (rg [mo 30 7,xo 31 (bc .neq 30 0)])
 (cD 31
 (sq (rg [mo 32 7,mo 33 8,mo 2 32,mo 3 33])
 .ret)
 .skip)))))
 (rg [xo 34 (bc .add 21 1),mo 21 34])))))))
 (sq (rg [xo 2 (.mov (ci 0)),xo 3 (.mov (ci 0))])
 .ret))))⟩
theorem qfH:trFn Try.prog 70 [] [[21]]=some qrH:=by kernel_rfl
abbrev qhI:Nat:=71
def qyI:FnI:=⟨69,[.cell 2 3 true],
 (sq (rg [xo 1 (.box 60 (.t 0)),xo 2 (.alloc 34 [(.v (.slice none 0 0)),(.v (.slice none 0 0)),(.v (.slice none 0 0))])])
 (sq (rg [fo 7 0 1,lo 8 7,fo 9 2 1,lo 10 9,xo 11 (.build [(.v (.slice none 0 0)),(.v (.slice none 0 0)),(.v (.slice none 0 0))] [(0,1,(.t 8)),(2,1,(.t 10))]),xo 3 (.alloc 34 [(.v (.slice none 0 0)),(.v (.slice none 0 0)),(.v (.slice none 0 0))]),xn (st 3 3 11)])
 (sq (sq (rg [fo 12 1 1,lo 13 12,xo 14 (.len false (.t 13)),xo 15 (.mov (ci 0))])
 (.block 0
 (.loop [15] [16,17,18,5,19,20,21,22,23,6,24,25,26,27,28,29,30,31,32,33,34,35,36,37,38,39,40,41,42,43,44,45,46,47,48,49,50,51,52,53,54,55,56,57,58,59,60,61,62,63,64,65,66,67,15]
 (sq (rg [xo 16 (bi .lss 15 14)])
 (sq (cD 16
 .skip
 (.exit 0))
 (sq (.block 1
 (sq (rg [xo 17 (ia 4 13 15),xo 18 (lt 4 17),xo 5 (.alloc 93 [(vi 0),(.v (.string ⟨#[]⟩)),(.v (.string ⟨#[]⟩)),(vi 0)]),xn (st 4 5 18)])
 (sq (rg [fo 19 1 5,lo 20 19,fo 21 2 5,lo 22 21,xo 23 (.build [(.v (.string ⟨#[]⟩)),(.v (.string ⟨#[]⟩)),(.v (.string ⟨#[]⟩)),(.v (.string ⟨#[]⟩))] [(1,1,(.t 20)),(2,1,(.t 22))]),xo 6 (.alloc 158 [(.v (.string ⟨#[]⟩)),(.v (.string ⟨#[]⟩)),(.v (.string ⟨#[]⟩)),(.v (.string ⟨#[]⟩))]),xn (st 4 6 23)])
 (sq (sq (rg [fo 24 0 5,lo 25 24,xo 26 (bc .geq 25 0),mo 27 26,xg 28 (fa 0 5) 27 true,xg 29 (lf 28) 27 true,xg 30 (fa 0 1) 27 true,xg 31 (lf 30) 27 true,xg 32 (.len false (.t 31)) 27 true,xg 33 (bi .lss 29 32) 27 true,xo 34 (.pick (.t 27) (.t 33) (.b false))])
 (cD 34
 (rg [fo 35 0 1,lo 36 35,fo 37 0 5,lo 38 37,xo 39 (ia 1 36 38),lo 40 39,fo 41 0 6,xn (st 1 41 40)])
 .skip))
 (sq (sq (rg [fo 42 3 5,lo 43 42,xo 44 (bc .geq 43 0),mo 45 44,xg 46 (fa 3 5) 45 true,xg 47 (lf 46) 45 true,xg 48 (fa 2 1) 45 true,xg 49 (lf 48) 45 true,xg 50 (.len false (.t 49)) 45 true,xg 51 (bi .lss 47 50) 45 true,xo 52 (.pick (.t 45) (.t 51) (.b false))])
 (cD 52
 (rg [fo 53 2 1,lo 54 53,fo 55 3 5,lo 56 55,xo 57 (ia 4 54 56),fo 58 0 57,lo 59 58,fo 60 3 6,xn (st 1 60 59)])
 .skip))
 (rg [fo 61 1 3,lo 62 61,xo 63 (lt 4 6),xo 64 (.bsl 158 4 1 [(.v (.string ⟨#[]⟩)),(.v (.string ⟨#[]⟩)),(.v (.string ⟨#[]⟩)),(.v (.string ⟨#[]⟩))] [(0,4,(.t 63))]),xo 65 (.app 158 4 64 (.t 62) (.t 64)),fo 66 1 3,xn (st 1 66 65)]))))))
 (rg [xo 67 (bc .add 15 1),mo 15 67])))))))
 (sq (rg [xo 68 (lt 3 3),xn (st 3 2 68)])
 .ret))))⟩
theorem qOI:trFn Try.prog 71 [] [[15]]=some qyI:=by kernel_rfl
abbrev qkJ:Nat:=72
def qAK:FnI:=⟨19,[.cell 2 1 false,.cell 3 1 false],
 (sq (rg [xo 1 (.box 72 (.t 0)),xo 2 (.alloc 22 [(.v (.slice none 0 0))]),xo 3 (.alloc 47 [(vi 0)])])
 (sq (rg [xo 4 (.alloc 22 [(.v (.slice none 0 0))])])
 (sq (sq (rg [xo 6 (lt 3 1),xo 7 (.call 89 [(.t 6)])])
 (.block 0
 (.rfun (.t 7) [8]
 (rg [mo 5 8])
 (.block 1
 (sq (rg [mo 9 5])
 (.block 2
 (sq (rg [xo 15 (.bini .eql (.t 9) (ci (-2))),mo 14 15])
 (cD 14
 (sq (rg [xn (.store 1 (.t 2) (.c (.slice none 0 0))),xn (.store 1 (.t 3) (ci 11))])
 .ret)
 (sq (rg [xo 17 (.bini .eql (.t 9) (ci (-1))),mo 16 17])
 (cD 16
 .skip
 (rg [lo 10 4,mo 11 5,xo 12 (.bsl 3 1 1 [(vi 0)] [(0,1,(.t 11))]),xo 13 (.app 3 1 8 (.t 10) (.t 12)),xn (st 1 4 13)])))))))))))
 (sq (rg [lo 18 4,xn (st 1 2 18),xn (.store 1 (.t 3) (ci 0))])
 .ret))))⟩
theorem qDJ:trFn Try.prog 72 [] []=some qAK:=by kernel_rfl
abbrev qcB:Nat:=73
def qZA:FnI:=⟨19,[.tmp 4],
 (sq (rg [xo 4 (.mov (ci 0))])
 (sq (sq (rg [mo 6 0,xo 7 (.len false (.t 6)),xo 8 (.mov (ci 0))])
 (.block 0
 (.loop [8] [9,10,5,11,12,13,14,15,16,17,4,18,8]
 (sq (rg [xo 9 (bi .lss 8 7)])
 (sq (cD 9
 .skip
 (.exit 0))
 (sq (.block 1
 (sq (rg [mo 10 8,mo 5 10])
 (sq (rg [mo 11 1,mo 12 0,mo 13 5,xo 14 (ia 3 12 13),xo 15 (lt 3 14),xo 16 (.callv (.t 11) [(.t 15)])])
 (cD 16
 (sq (rg [mo 17 5,mo 4 17])
 .ret)
 .skip))))
 (rg [xo 18 (bc .add 8 1),mo 8 18])))))))
 (sq (rg [xo 4 (.mov (ci (-1)))])
 .ret)))⟩
theorem qaB:trFn Try.prog 73 [] [[8]]=some qZA:=by kernel_rfl
abbrev q2K:Nat:=74
def qIL:FnI:=⟨9,[.tmp 2],
 (sq (rg [xo 2 (.mov (.b false))])
 (sq (rg [mo 3 0,xo 4 (.bini .geq (.t 3) (.c (.int .u8 (97)))),mo 5 4,xg 6 (mv 0) 5 true,xg 7 (.bini .leq (.t 6) (.c (.int .u8 (122)))) 5 true,xo 8 (.pick (.t 5) (.t 7) (.b false)),mo 2 8])
 .ret))⟩
theorem qcK:trFn Try.prog 74 [] []=some qIL:=by kernel_rfl
abbrev qlJ:Nat:=75
def qOG:FnI:=⟨2,[.cell 0 1 true],
 (sq (rg [xo 0 (.alloc 140 [(.v .nilFunc)])])
 (sq (rg [xo 1 (.build [(.v .nilFunc)] [(0,1,(.c (.func (.func 90) #[] #[])))]),xn (st 1 0 1)])
 .ret))⟩
theorem qEJ:trFn Try.prog 75 [] []=some qOG:=by kernel_rfl
abbrev qGE:Nat:=76
def qVC:FnI:=⟨28,[.tmp 6],
 (sq (rg [xo 3 (.box 140 (.t 0)),xo 6 (.mov (.b false))])
 (sq (sq (rg [mo 8 1,xo 9 (.len true (.t 8)),xo 10 (.mov (ci 0))])
 (.block 0
 (.loop [10] [11,12,7,13,14,15,16,17,18,19,20,21,22,23,24,25,26,6,27,10]
 (sq (rg [xo 11 (bi .lss 10 9)])
 (sq (cD 11
 .skip
 (.exit 0))
 (sq (.block 1
 (sq (rg [mo 12 10,mo 7 12])
 (sq (rd [] (of 0 (mo 13 1)
 (of 1 (mo 14 7)
 (of 2 (xo 15 (.idxs (.t 13) (.t 14)))
 (of 3 (mo 16 2)
 (of 4 (xo 17 (bi .neq 15 16))
 (of 5 (mo 18 17)
 (of 6 (xg 19 (fa 0 3) 18 true)
 (ot 7 (xg 20 (lf 19) 18 true)
 (of 8 (xg 21 (mv 1) 18 true)
 (of 9 (xg 22 (mv 7) 18 true)
 (of 10 (xg 23 (.idxs (.t 21) (.t 22)) 18 true)
 (of 11 (xg 24 (.callv (.t 20) [(.t 23)]) 18 true)
 (of 12 (xg 25 (.not (.t 24)) 18 true)
 (of 13 (xo 26 (.pick (.t 18) (.t 25) (.b false)))
 .nil)))))))))))))))
 (cD 26
 (sq (rg [xo 6 (.mov (.b false))])
 .ret)
 .skip))))
 (rg [xo 27 (bc .add 10 1),mo 10 27])))))))
 (sq (rg [xo 6 (.mov (.b true))])
 .ret)))⟩
theorem q6D:trFn Try.prog 76 [([],(fs [0,1,2,3,4,5,6,7,8,9,10] (.exec 11 (.first 12 (.first 13 .nil)))))] [[10]]=some qVC:=by kernel_rfl
abbrev q3B:Nat:=77
def q5B:FnI:=⟨29,[.tmp 6],
 (sq (rg [xo 5 (.box 97 (.t 2)),xo 6 (.mov (.c (.slice none 0 0)))])
 (sq (rg [mo 10 0,xo 11 (.len false (.t 10)),xo 12 (.msl 72 3 40 [(.int .u64 (0)),(.slice none 0 0),(.int .i64 (0))] (.t 11) (.t 11)),mo 7 12])
 (sq (sq (rg [mo 13 0,xo 14 (.len false (.t 13)),xo 15 (.mov (ci 0))])
 (.block 0
 (.loop [15] [16,17,18,19,9,8,20,21,22,23,24,25,26,27,15]
 (sq (rg [xo 16 (bi .lss 15 14)])
 (sq (cD 16
 .skip
 (.exit 0))
 (sq (.block 1
 (sq (rg [mo 17 15,xo 18 (ia 3 13 15),xo 19 (lt 3 18),xo 9 (.alloc 72 [(.v (.int .u64 (0))),(.v (.slice none 0 0)),(vi 0)]),mo 8 17,xn (st 3 9 19)])
 (rg [mo 20 7,mo 21 8,mo 22 1,xo 23 (lt 0 5),xo 24 (lt 3 9),xo 25 (.callv (.t 22) [(.t 23),(.t 24)]),xo 26 (ia 3 20 21),xn (st 3 26 25)])))
 (rg [xo 27 (bc .add 15 1),mo 15 27])))))))
 (sq (rg [mo 28 7,mo 6 28])
 .ret))))⟩
theorem q0B:trFn Try.prog 77 [] [[15]]=some q5B:=by kernel_rfl
abbrev qmB:Nat:=78
def qCF:FnI:=⟨10,[.cell 4 3 true],
 (sq (rg [xo 2 (.box 97 (.t 0)),xo 3 (.box 72 (.t 1)),xo 4 (.alloc 72 [(.v (.int .u64 (0))),(.v (.slice none 0 0)),(vi 0)])])
 (sq (rg [fo 5 1 3,lo 6 5,xo 7 (.call 32 [(.t 6)]),fo 8 1 3,xn (st 1 8 7)])
 (sq (rg [xo 9 (lt 3 3),xn (st 3 4 9)])
 .ret)))⟩
theorem qwE:trFn Try.prog 78 [] []=some qCF:=by kernel_rfl
abbrev qKM:Nat:=83
def qVM:FnI:=⟨19,[.tmp 4,.tmp 5],
 (sq (rg [xo 4 (.mov (.c (.int .u64 (0)))),xo 5 (.mov (ci 0))])
 (sq (sq (rg [mo 6 1,xo 7 (.bini .lss (.t 6) (ci (-1))),mo 8 7,xg 9 (mv 1) 8 false,xg 10 (bc .gtr 9 2147483646) 8 false,xo 11 (.pick (.t 8) (.b true) (.t 10))])
 (cD 11
 (sq (rg [xo 4 (.mov (.c (.int .u64 (0)))),xo 5 (.mov (ci 1))])
 .ret)
 .skip))
 (sq (rg [mo 12 0,xo 13 (.conv .u64 (.t 12)),xo 14 (.bini .shl (.t 13) (.c (.int .u64 (32)))),mo 15 1,xo 16 (.bini .sub (.t 15) (ci (-1))),xo 17 (.conv .u64 (.t 16)),xo 18 (bi .or 14 17),mo 4 18,xo 5 (.mov (ci 0))])
 .ret)))⟩
theorem qqL:trFn Try.prog 83 [] []=some qVM:=by kernel_rfl
abbrev quA:Nat:=84
def qMA:FnI:=⟨19,[.tmp 4],
 (sq (rg [xo 4 (.mov (ci 0))])
 (sq (sq (rg [mo 6 0,xo 7 (.len false (.t 6)),xo 8 (.mov (ci 0))])
 (.block 0
 (.loop [8] [9,10,5,11,12,13,14,15,16,17,4,18,8]
 (sq (rg [xo 9 (bi .lss 8 7)])
 (sq (cD 9
 .skip
 (.exit 0))
 (sq (.block 1
 (sq (rg [mo 10 8,mo 5 10])
 (sq (rg [mo 11 1,mo 12 0,mo 13 5,xo 14 (ia 3 12 13),xo 15 (lt 3 14),xo 16 (.callv (.t 11) [(.t 15)])])
 (cD 16
 (sq (rg [mo 17 5,mo 4 17])
 .ret)
 .skip))))
 (rg [xo 18 (bc .add 8 1),mo 8 18])))))))
 (sq (rg [xo 4 (.mov (ci (-1)))])
 .ret)))⟩
theorem qsA:trFn Try.prog 84 [] [[8]]=some qMA:=by kernel_rfl
abbrev q9B:Nat:=85
theorem qAC:FnOk Try.prog 85:=FnOk.of (by kernel_rfl)
def qzD:FnI:=⟨26,[.tmp 2,.tmp 3],
 (sq (rg [xo 1 (.box 154 (.t 0)),xo 2 (.mov (ci 0)),xo 3 (.mov (ci 0))])
 (sq (sq (rg [fo 4 0 1,fo 5 0 4,lo 6 5,xo 7 (.len false (.t 6)),xo 8 (.call 91 [(.t 7),(ci 1),(ci 4)]),xo 9 (.not (.t 8)),mo 10 9,xg 11 (fa 0 1) 10 false,xg 12 (fa 1 11) 10 false,xg 13 (lf 12) 10 false,xg 14 (.len false (.t 13)) 10 false,xg 15 (.call 91 [(.t 14),(ci 1),(ci 8)]) 10 false,xg 16 (.not (.t 15)) 10 false,xo 17 (.pick (.t 10) (.b true) (.t 16)),mo 18 17,xg 19 (fa 0 1) 18 false,xg 20 (fa 2 19) 18 false,xg 21 (lf 20) 18 false,xg 22 (.len false (.t 21)) 18 false,xg 23 (.call 91 [(.t 22),(ci 1),(ci 4)]) 18 false,xg 24 (.not (.t 23)) 18 false,xo 25 (.pick (.t 18) (.b true) (.t 24))])
 (cD 25
 (sq (rg [xo 2 (.mov (ci 6)),xo 3 (.mov (ci 0))])
 .ret)
 .skip))
 (sq (rg [xo 2 (.mov (ci 0)),xo 3 (.mov (ci 0))])
 .ret)))⟩
theorem qwD:trFn Try.prog 85 [] []=some qzD:=by kernel_rfl
abbrev qeB:Nat:=86
theorem qfB:FnOk Try.prog 86:=FnOk.of (by kernel_rfl)
def qDD:FnI:=⟨30,[.tmp 2,.tmp 3],
 (sq (rg [xo 1 (.box 154 (.t 0)),xo 2 (.mov (ci 0)),xo 3 (.mov (ci 0))])
 (sq (sq (rg [fo 6 0 1,fo 7 0 6,lo 8 7,xo 9 (.len false (.t 8)),xo 10 (.mov (ci 0))])
 (.block 0
 (.loop [10] [11,12,13,14,4,5,16,17,18,15,19,2,3,21,22,23,24,25,26,27,20,28,29,10]
 (sq (rg [xo 11 (bi .lss 10 9)])
 (sq (cD 11
 .skip
 (.exit 0))
 (sq (.block 1
 (sq (rg [mo 12 10,xo 13 (ia 1 8 10),lo 14 13,mo 4 12,mo 5 14])
 (.block 2
 (sq (rg [mo 16 5,xo 17 (.call 48 [(.t 16)]),xo 18 (.not (.t 17)),mo 15 18])
 (cD 15
 (sq (rg [mo 19 4,xo 2 (.mov (ci 3)),mo 3 19])
 .ret)
 (sq (rg [fo 21 0 1,fo 22 0 21,lo 23 22,mo 24 4,xo 25 (.slc 1 (.t 23) none (some (.t 24)) none),mo 26 5,xo 27 (.call 92 [(.t 25),(.t 26)]),mo 20 27])
 (cD 20
 (sq (rg [mo 28 4,xo 2 (.mov (ci 4)),mo 3 28])
 .ret)
 .skip)))))))
 (rg [xo 29 (bc .add 10 1),mo 10 29])))))))
 (sq (rg [xo 2 (.mov (ci 0)),xo 3 (.mov (ci 0))])
 .ret)))⟩
theorem qAD:trFn Try.prog 86 [] [[10]]=some qDD:=by kernel_rfl
abbrev qUB:Nat:=87
theorem qVB:FnOk Try.prog 87:=FnOk.of (by kernel_rfl)
def q1C:FnI:=⟨55,[.tmp 2,.tmp 3],
 (sq (rg [xo 1 (.box 154 (.t 0)),xo 2 (.mov (ci 0)),xo 3 (.mov (ci 0))])
 (sq (sq (rg [fo 6 0 1,fo 7 2 6,lo 8 7,xo 9 (.len false (.t 8)),xo 10 (.mov (ci 0))])
 (.block 0
 (.loop [10] [11,12,13,14,5,4,16,17,18,19,15,20,2,3,22,23,24,25,26,27,28,29,21,30,32,33,34,35,36,37,38,39,31,40,42,43,44,45,41,46,48,49,50,51,52,47,53,54,10]
 (sq (rg [xo 11 (bi .lss 10 9)])
 (sq (cD 11
 .skip
 (.exit 0))
 (sq (.block 1
 (sq (rg [mo 12 10,xo 13 (ia 4 8 10),xo 14 (lt 4 13),xo 5 (.alloc 86 [(.v (.string ⟨#[]⟩)),(vi 0),(vi 0),(.v (.slice none 0 0))]),mo 4 12,xn (st 4 5 14)])
 (.block 2
 (sq (rg [fo 16 0 5,lo 17 16,xo 18 (.call 48 [(.t 17)]),xo 19 (.not (.t 18)),mo 15 19])
 (cD 15
 (sq (rg [mo 20 4,xo 2 (.mov (ci 3)),mo 3 20])
 .ret)
 (sq (rd [] (of 0 (fo 22 0 1)
 (of 1 (fo 23 2 22)
 (ot 2 (lo 24 23)
 (of 3 (mo 25 4)
 (of 4 (xo 26 (.slc 4 (.t 24) none (some (.t 25)) none))
 (of 5 (fo 27 0 5)
 (ot 6 (lo 28 27)
 (of 7 (xo 29 (.call 93 [(.t 26),(.t 28)]))
 (of 8 (mo 21 29)
 .nil))))))))))
 (cD 21
 (sq (rg [mo 30 4,xo 2 (.mov (ci 4)),mo 3 30])
 .ret)
 (sq (rg [fo 32 1 5,lo 33 32,xo 34 (bc .neq 33 1),mo 35 34,xg 36 (fa 1 5) 35 true,xg 37 (lf 36) 35 true,xg 38 (bc .neq 37 2) 35 true,xo 39 (.pick (.t 35) (.t 38) (.b false)),mo 31 39])
 (cD 31
 (sq (rg [mo 40 4,xo 2 (.mov (ci 9)),mo 3 40])
 .ret)
 (sq (rg [fo 42 2 5,lo 43 42,xo 44 (.call 91 [(.t 43),(ci 1),(ci 4)]),xo 45 (.not (.t 44)),mo 41 45])
 (cD 41
 (sq (rg [mo 46 4,xo 2 (.mov (ci 10)),mo 3 46])
 .ret)
 (sq (rg [fo 48 3 5,lo 49 48,xo 50 (.len false (.t 49)),xo 51 (.call 91 [(.t 50),(ci 1),(ci 4)]),xo 52 (.not (.t 51)),mo 47 52])
 (cD 47
 (sq (rg [mo 53 4,xo 2 (.mov (ci 6)),mo 3 53])
 .ret)
 .skip)))))))))))))
 (rg [xo 54 (bc .add 10 1),mo 10 54])))))))
 (sq (rg [xo 2 (.mov (ci 0)),xo 3 (.mov (ci 0))])
 .ret)))⟩
theorem qzC:trFn Try.prog 87 [([],(fs [0,1,2,3,4,5,6] (.exec 7 (.first 8 .nil))))] [[10]]=some q1C:=by kernel_rfl
abbrev qsB:Nat:=88
theorem qtB:FnOk Try.prog 88:=FnOk.of (by kernel_rfl)
def qRD:FnI:=⟨65,[.tmp 2,.tmp 3],
 (sq (rg [xo 1 (.box 154 (.t 0)),xo 2 (.mov (ci 0)),xo 3 (.mov (ci 0))])
 (sq (sq (rg [fo 8 0 1,fo 9 1 8,lo 10 9,xo 11 (.len false (.t 10)),xo 12 (.mov (ci 0))])
 (.block 0
 (.loop [12] [13,14,15,16,5,4,18,19,20,21,22,23,24,17,25,2,3,27,28,29,30,26,31,33,34,35,36,32,37,39,40,41,42,43,44,45,38,46,47,48,49,50,51,52,53,54,55,56,57,7,58,59,60,61,62,63,64,12]
 (sq (rg [xo 13 (bi .lss 12 11)])
 (sq (cD 13
 .skip
 (.exit 0))
 (sq (.block 1
 (sq (rg [mo 14 12,xo 15 (ia 4 10 12),xo 16 (lt 4 15),xo 5 (.alloc 158 [(.v (.string ⟨#[]⟩)),(.v (.string ⟨#[]⟩)),(.v (.string ⟨#[]⟩)),(.v (.string ⟨#[]⟩))]),mo 4 14,xn (st 4 5 16)])
 (sq (.block 2
 (sq (rg [fo 18 0 1,fo 19 0 18,lo 20 19,fo 21 0 5,lo 22 21,xo 23 (.call 92 [(.t 20),(.t 22)]),xo 24 (.not (.t 23)),mo 17 24])
 (cD 17
 (sq (rg [mo 25 4,xo 2 (.mov (ci 5)),mo 3 25])
 .ret)
 (sq (rg [fo 27 1 5,lo 28 27,xo 29 (.call 94 [(.t 28)]),xo 30 (.not (.t 29)),mo 26 30])
 (cD 26
 (sq (rg [mo 31 4,xo 2 (.mov (ci 7)),mo 3 31])
 .ret)
 (sq (rg [fo 33 2 5,lo 34 33,xo 35 (.call 95 [(.t 34)]),xo 36 (.not (.t 35)),mo 32 36])
 (cD 32
 (sq (rg [mo 37 4,xo 2 (.mov (ci 8)),mo 3 37])
 .ret)
 (sq (rg [fo 39 0 1,fo 40 2 39,lo 41 40,fo 42 3 5,lo 43 42,xo 44 (.call 93 [(.t 41),(.t 43)]),xo 45 (.not (.t 44)),mo 38 45])
 (cD 38
 (sq (rg [mo 46 4,xo 2 (.mov (ci 5)),mo 3 46])
 .ret)
 .skip)))))))))
 (sq (rg [fo 47 3 5,xn (.store 1 (.t 47) (.c (.string ⟨#[]⟩)))])
 (sq (rg [fo 48 0 1,fo 49 1 48,lo 50 49,mo 51 4,xo 52 (.slc 4 (.t 50) none (some (.t 51)) none),xo 53 (.len false (.t 52)),xo 54 (.mov (ci 0))])
 (.block 3
 (.loop [54] [55,56,57,7,58,59,60,61,62,2,3,63,54]
 (sq (rg [xo 55 (bi .lss 54 53)])
 (sq (cD 55
 .skip
 (.exit 3))
 (sq (.block 4
 (sq (rg [xo 56 (ia 4 52 54),xo 57 (lt 4 56),xo 7 (.alloc 158 [(.v (.string ⟨#[]⟩)),(.v (.string ⟨#[]⟩)),(.v (.string ⟨#[]⟩)),(.v (.string ⟨#[]⟩))]),xn (st 4 7 57)])
 (sq (rg [fo 58 3 7,xn (.store 1 (.t 58) (.c (.string ⟨#[]⟩)))])
 (sq (rg [xo 59 (lt 4 7),xo 60 (lt 4 5),xo 61 (.binst false [1,1,1,1] (.t 59) (.t 60))])
 (cD 61
 (sq (rg [mo 62 4,xo 2 (.mov (ci 4)),mo 3 62])
 .ret)
 .skip)))))
 (rg [xo 63 (bc .add 54 1),mo 54 63])))))))))))
 (rg [xo 64 (bc .add 12 1),mo 12 64])))))))
 (sq (rg [xo 2 (.mov (ci 0)),xo 3 (.mov (ci 0))])
 .ret)))⟩
theorem qLD:trFn Try.prog 88 [] [[12],[54]]=some qRD:=by kernel_rfl
abbrev qiI:Nat:=89
def qlF:FnI:=⟨4,[.tmp 2],
 (sq (rg [xo 1 (.box 72 (.t 0)),xo 2 (.mov (.c .nilFunc))])
 (sq (rg [xo 3 (.mkf (.func 96) [] [(.t 1)]),mo 2 3])
 .ret))⟩
theorem qPI:trFn Try.prog 89 [] []=some qlF:=by kernel_rfl
abbrev qdB:Nat:=90
theorem qqE:FnOk Try.prog 90:=FnOk.of (by kernel_rfl)
def qpH:FnI:=⟨17,[.tmp 2],
 (sq (rg [xo 2 (.mov (.b false))])
 (sq (rg [mo 3 0,xo 4 (.call 74 [(.t 3)]),mo 5 4,xg 6 (mv 0) 5 false,xg 7 (.bini .geq (.t 6) (.c (.int .u8 (48)))) 5 false,xg 8 (mv 7) 5 false,xg 9 (mv 0) 8 true,xg 10 (.bini .leq (.t 9) (.c (.int .u8 (57)))) 8 true,xg 11 (.pick (.t 8) (.t 10) (.b false)) 5 false,xo 12 (.pick (.t 5) (.b true) (.t 11)),mo 13 12,xg 14 (mv 0) 13 false,xg 15 (.bini .eql (.t 14) (.c (.int .u8 (45)))) 13 false,xo 16 (.pick (.t 13) (.b true) (.t 15)),mo 2 16])
 .ret))⟩
theorem qdH:trFn Try.prog 90 [] []=some qpH:=by kernel_rfl
abbrev qEH:Nat:=91
def qSH:FnI:=⟨15,[.tmp 6],
 (sq (rg [xo 6 (.mov (.b false))])
 (sq (rg [mo 7 0,mo 8 1,xo 9 (bi .geq 7 8),mo 10 9,xg 11 (mv 0) 10 true,xg 12 (mv 2) 10 true,xg 13 (bi .leq 11 12) 10 true,xo 14 (.pick (.t 10) (.t 13) (.b false)),mo 6 14])
 .ret))⟩
theorem qnG:trFn Try.prog 91 [] []=some qSH:=by kernel_rfl
abbrev q4B:Nat:=92
def q6B:FnI:=⟨9,[.tmp 4],
 (sq (rg [xo 4 (.mov (.b false))])
 (sq (rg [mo 5 0,mo 6 1,xo 7 (.call 98 [(.t 5),(.t 6)]),xo 8 (bc .geq 7 0),mo 4 8])
 .ret))⟩
theorem q1B:trFn Try.prog 92 [] []=some q6B:=by kernel_rfl
abbrev qmH:Nat:=93
def qqH:FnI:=⟨8,[.tmp 4],
 (sq (rg [xo 3 (.box 9 (.t 1)),xo 4 (.mov (.b false))])
 (sq (rg [mo 5 0,xo 6 (.mkf (.func 100) [] [(.t 3)]),xo 7 (.call 99 [(.t 5),(.t 6)]),mo 4 7])
 .ret))⟩
theorem qeH:trFn Try.prog 93 [] []=some qqH:=by kernel_rfl
abbrev qCH:Nat:=94
def qRH:FnI:=⟨19,[.tmp 2],
 (sq (rg [xo 2 (.mov (.b false))])
 (sq (sq (rg [mo 6 0,xo 7 (.call 101 [(.t 6),(.c (.string ⟨#[42,46]⟩))]),mo 5 7,xo 8 (.ext 0 (.t 5)),xo 9 (.ext 1 (.t 5)),mo 3 8,mo 4 9])
 (sq (rg [mo 10 4])
 (cD 10
 (sq (rg [mo 11 3,xo 12 (.call 102 [(.t 11)]),mo 2 12])
 .ret)
 .skip)))
 (sq (rg [mo 13 0,xo 14 (.bins .eql (.t 13) (.c (.string ⟨#[42]⟩))),mo 15 14,xg 16 (mv 0) 15 false,xg 17 (.call 102 [(.t 16)]) 15 false,xo 18 (.pick (.t 15) (.b true) (.t 17)),mo 2 18])
 .ret)))⟩
theorem qlG:trFn Try.prog 94 [] []=some qRH:=by kernel_rfl
abbrev qmJ:Nat:=95
def qBK:FnI:=⟨21,[.tmp 2],
 (sq (rg [xo 2 (.mov (.b false))])
 (sq (rg [mo 3 0,xo 4 (.len true (.t 3)),xo 5 (bc .gtr 4 0),mo 6 5,xg 7 (mv 0) 6 true,xg 8 (.len true (.t 7)) 6 true,xg 9 (bc .leq 8 32) 6 true,xo 10 (.pick (.t 6) (.t 9) (.b false)),mo 11 10,xg 12 (mv 0) 11 true,xg 13 (.idxs (.t 12) (ci 0)) 11 true,xg 14 (.bini .eql (.t 13) (.c (.int .u8 (47)))) 11 true,xo 15 (.pick (.t 11) (.t 14) (.b false)),mo 16 15,xg 17 (.call 75 []) 16 true,xg 18 (mv 0) 16 true,xg 19 (.call 76 [(.t 17),(.t 18),(.c (.int .u8 (47)))]) 16 true,xo 20 (.pick (.t 16) (.t 19) (.b false)),mo 2 20])
 .ret))⟩
theorem qFJ:trFn Try.prog 95 [] []=some qBK:=by kernel_rfl
abbrev qAH:Nat:=96
theorem qJH:FnOk Try.prog 96:=FnOk.of (by kernel_rfl)
def qOE:FnI:=⟨44,[],
 (.scope
 (sq (rg [fo 5 1 1,lo 6 5,xo 7 (.len false (.t 6)),xo 8 (.msl 4 1 1 [(.bool false)] (.t 7) (.t 7)),mo 3 8])
 (sq (rg [fo 9 0 1,lo 10 9,xo 11 (.call 97 [(.t 10)]),mo 4 11])
 (sq (.label 0)
 (sq (.block 0
 (.loop [4] [12,13,14,15,16,17,18,19,20,21,22,23,24,25,26,27,28,4,29,30,31,32,33,34,35,36,37,38,39,40]
 (sq (sq (rg [mo 12 4,xo 13 (.bini .neq (.t 12) (ci (-1)))])
 (cD 13
 .skip
 (.exit 0)))
 (.block 1
 (sq (sq (rg [mo 14 4,xo 15 (bc .lss 14 0),mo 16 15,xg 17 (mv 4) 16 false,xg 18 (fa 1 1) 16 false,xg 19 (lf 18) 16 false,xg 20 (.len false (.t 19)) 16 false,xg 21 (bi .geq 17 20) 16 false,xo 22 (.pick (.t 16) (.b true) (.t 21)),mo 23 22,xg 24 (mv 3) 23 false,xg 25 (mv 4) 23 false,xg 26 (ia 1 24 25) 23 false,xg 27 (lf 26) 23 false,xo 28 (.pick (.t 23) (.b true) (.t 27))])
 (cD 28
 (sq (rg [xo 4 (.mov (ci (-2)))])
 (.exit 0))
 .skip))
 (sq (rg [mo 29 3,mo 30 4,xo 31 (ia 1 29 30),xn (.store 1 (.t 31) (.b true))])
 (sq (sq (rg [mo 32 0,mo 33 4,xo 34 (.callv (.t 32) [(.t 33)]),xo 35 (.not (.t 34))])
 (cD 35
 .ret
 .skip))
 (rg [fo 36 1 1,lo 37 36,mo 38 4,xo 39 (ia 1 37 38),lo 40 39,mo 4 40]))))))))
 (rg [mo 41 0,mo 42 4,xo 43 (.callv (.t 41) [(.t 42)])]))))))⟩
theorem qjG:trFn Try.prog 96 [] [[4]]=some qOE:=by kernel_rfl
abbrev qxK:Nat:=97
def qDL:FnI:=⟨7,[.tmp 2],
 (sq (rg [xo 2 (.mov (ci 0))])
 (sq (rg [mo 3 0,xo 4 (.conv .u32 (.t 3)),xo 5 (.conv .i64 (.t 4)),xo 6 (.bini .add (.t 5) (ci (-1))),mo 2 6])
 .ret))⟩
theorem qXK:trFn Try.prog 97 [] []=some qDL:=by kernel_rfl
abbrev qRC:Nat:=98
def qTC:FnI:=⟨19,[.tmp 4],
 (sq (rg [xo 4 (.mov (ci 0))])
 (sq (sq (rg [mo 6 0,xo 7 (.len false (.t 6)),xo 8 (.mov (ci 0))])
 (.block 0
 (.loop [8] [9,10,5,11,12,13,14,15,16,17,4,18,8]
 (sq (rg [xo 9 (bi .lss 8 7)])
 (sq (cD 9
 .skip
 (.exit 0))
 (sq (.block 1
 (sq (rg [mo 10 8,mo 5 10])
 (sq (rg [mo 11 1,mo 12 0,mo 13 5,xo 14 (ia 1 12 13),lo 15 14,xo 16 (.bins .eql (.t 11) (.t 15))])
 (cD 16
 (sq (rg [mo 17 5,mo 4 17])
 .ret)
 .skip))))
 (rg [xo 18 (bc .add 8 1),mo 8 18])))))))
 (sq (rg [xo 4 (.mov (ci (-1)))])
 .ret)))⟩
theorem qNC:trFn Try.prog 98 [] [[8]]=some qTC:=by kernel_rfl
abbrev qkA:Nat:=99
def qLA:FnI:=⟨9,[.tmp 4],
 (sq (rg [xo 4 (.mov (.b false))])
 (sq (rg [mo 5 0,mo 6 1,xo 7 (.call 103 [(.t 5),(.t 6)]),xo 8 (bc .geq 7 0),mo 4 8])
 .ret))⟩
theorem qiA:trFn Try.prog 99 [] []=some qLA:=by kernel_rfl
abbrev qUG:Nat:=100
theorem qYG:FnOk Try.prog 100:=FnOk.of (by kernel_rfl)
def quD:FnI:=⟨8,[.tmp 3],
 (sq (rg [xo 2 (.box 86 (.t 0)),xo 3 (.mov (.b false))])
 (sq (rg [fo 4 0 2,lo 5 4,lo 6 1,xo 7 (.bins .eql (.t 5) (.t 6)),mo 3 7])
 .ret))⟩
theorem qSG:trFn Try.prog 100 [] []=some quD:=by kernel_rfl
abbrev q5E:Nat:=101
def qEF:FnI:=⟨11,[.tmp 4,.tmp 5],
 (sq (rg [xo 4 (.mov (.c (.string ⟨#[]⟩))),xo 5 (.mov (.b false))])
 (sq (rg [mo 6 0,mo 7 1,xo 8 (.call 104 [(.t 6),(.t 7)]),xo 9 (.ext 0 (.t 8)),xo 10 (.ext 1 (.t 8)),mo 4 9,mo 5 10])
 .ret))⟩
theorem qyE:trFn Try.prog 101 [] []=some qEF:=by kernel_rfl
abbrev qoJ:Nat:=102
def qDK:FnI:=⟨13,[.cell 2 1 false],
 (sq (rg [xo 2 (.alloc 4 [(.v (.bool false))])])
 (sq (sq (rg [mo 4 0,xo 5 (.len true (.t 4)),xo 6 (bc .gtr 5 32)])
 (cD 6
 (sq (rg [xn (.store 1 (.t 2) (.b false))])
 .ret)
 .skip))
 (sq (sq (rg [mo 7 0,xo 8 (.call 105 [(.t 7),(.c (.int .u8 (46)))])])
 (.block 0
 (.rfun (.t 8) [9]
 (rg [mo 3 9])
 (.block 1
 (sq (rg [mo 10 3,xo 11 (.call 48 [(.t 10)]),xo 12 (.not (.t 11))])
 (cD 12
 (sq (rg [xn (.store 1 (.t 2) (.b false))])
 .ret)
 .skip))))))
 (sq (rg [xn (.store 1 (.t 2) (.b true))])
 .ret))))⟩
theorem qHJ:trFn Try.prog 102 [] []=some qDK:=by kernel_rfl
abbrev qvA:Nat:=103
def qNA:FnI:=⟨19,[.tmp 4],
 (sq (rg [xo 4 (.mov (ci 0))])
 (sq (sq (rg [mo 6 0,xo 7 (.len false (.t 6)),xo 8 (.mov (ci 0))])
 (.block 0
 (.loop [8] [9,10,5,11,12,13,14,15,16,17,4,18,8]
 (sq (rg [xo 9 (bi .lss 8 7)])
 (sq (cD 9
 .skip
 (.exit 0))
 (sq (.block 1
 (sq (rg [mo 10 8,mo 5 10])
 (sq (rg [mo 11 1,mo 12 0,mo 13 5,xo 14 (ia 4 12 13),xo 15 (lt 4 14),xo 16 (.callv (.t 11) [(.t 15)])])
 (cD 16
 (sq (rg [mo 17 5,mo 4 17])
 .ret)
 .skip))))
 (rg [xo 18 (bc .add 8 1),mo 8 18])))))))
 (sq (rg [xo 4 (.mov (ci (-1)))])
 .ret)))⟩
theorem qtA:trFn Try.prog 103 [] [[8]]=some qNA:=by kernel_rfl
abbrev qiD:Nat:=104
def qpD:FnI:=⟨15,[.tmp 4,.tmp 5],
 (sq (rg [xo 4 (.mov (.c (.string ⟨#[]⟩))),xo 5 (.mov (.b false))])
 (sq (sq (rg [mo 6 0,mo 7 1,xo 8 (.call 106 [(.t 6),(.t 7)]),xo 9 (.not (.t 8))])
 (cD 9
 (sq (rg [mo 10 0,mo 4 10,xo 5 (.mov (.b false))])
 .ret)
 .skip))
 (sq (rg [mo 11 0,mo 12 1,xo 13 (.len true (.t 12)),xo 14 (.slcs (.t 11) (some (.t 13)) none),mo 4 14,xo 5 (.mov (.b true))])
 .ret)))⟩
theorem qYD:trFn Try.prog 104 [] []=some qpD:=by kernel_rfl
abbrev qkI:Nat:=105
def qmF:FnI:=⟨6,[.tmp 4],
 (sq (rg [xo 2 (.box 9 (.t 0)),xo 3 (.box 5 (.t 1)),xo 4 (.mov (.c .nilFunc))])
 (sq (rg [xo 5 (.mkf (.func 107) [] [(.t 2),(.t 3)]),mo 4 5])
 .ret))⟩
theorem qRI:trFn Try.prog 105 [] []=some qmF:=by kernel_rfl
abbrev qhD:Nat:=106
def qoD:FnI:=⟨18,[.tmp 4],
 (sq (rg [xo 4 (.mov (.b false))])
 (sq (rg [mo 5 0,xo 6 (.len true (.t 5)),mo 7 1,xo 8 (.len true (.t 7)),xo 9 (bi .geq 6 8),mo 10 9,xg 11 (mv 0) 10 true,xg 12 (mv 1) 10 true,xg 13 (.len true (.t 12)) 10 true,xg 14 (.slcs (.t 11) none (some (.t 13))) 10 true,xg 15 (mv 1) 10 true,xg 16 (.bins .eql (.t 14) (.t 15)) 10 true,xo 17 (.pick (.t 10) (.t 16) (.b false)),mo 4 17])
 .ret))⟩
theorem qXD:trFn Try.prog 106 [] []=some qoD:=by kernel_rfl
abbrev qBH:Nat:=107
theorem qKH:FnOk Try.prog 107:=FnOk.of (by kernel_rfl)
def qPE:FnI:=⟨23,[],
 (.block 0
 (.loop [] [5,6,7,4,8,9,10,11,12,13,14,15,16,17,18,19,20,21,22]
 (.block 1
 (sq (rg [lo 5 1,lo 6 2,xo 7 (.call 108 [(.t 5),(.t 6)]),mo 4 7])
 (sq (sq (rg [mo 8 4,xo 9 (bc .lss 8 0)])
 (cD 9
 (sq (rg [mo 10 0,lo 11 1,xo 12 (.callv (.t 10) [(.t 11)])])
 .ret)
 .skip))
 (sq (sq (rg [mo 13 0,lo 14 1,mo 15 4,xo 16 (.slcs (.t 14) none (some (.t 15))),xo 17 (.callv (.t 13) [(.t 16)]),xo 18 (.not (.t 17))])
 (cD 18
 .ret
 .skip))
 (rg [lo 19 1,mo 20 4,xo 21 (bc .add 20 1),xo 22 (.slcs (.t 19) (some (.t 21)) none),xn (st 1 1 22)])))))))⟩
theorem qkG:trFn Try.prog 107 [] [[]]=some qPE:=by kernel_rfl
abbrev q4E:Nat:=108
def qDF:FnI:=⟨8,[.tmp 4],
 (sq (rg [xo 4 (.mov (ci 0))])
 (sq (rg [mo 5 0,mo 6 1,xo 7 (.call 109 [(.t 5),(.t 6)]),mo 4 7])
 .ret))⟩
theorem qxE:trFn Try.prog 108 [] []=some qDF:=by kernel_rfl
abbrev qgD:Nat:=109
end Go.Proofs.Ytkbbljngpglnkaa
