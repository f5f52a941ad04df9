/- The functions, as the evaluator reads them: each is what the given program's code says (checked by the kernel). -/
import Derived.Test.YtkbbljngpglnkaaGreatSxB
import Derived.Test.YtkbbljngpglnkaaGreatRows
set_option linter.unusedVariables false
set_option linter.unusedSimpArgs false
namespace Go.Proofs.YtkbbljngpglnkaaGreat
open Go.Proofs.YtkbbljngpglnkaaGreat.Sx
abbrev zl0:List SV:=[(.v (.int .i64 (0))),(.v (.string ⟨#[]⟩)),(.v (.string ⟨#[]⟩)),(.v (.string ⟨#[]⟩)),(.v (.int .i64 (0))),(.v (.int .i64 (0))),(.v (.int .i64 (0))),(.v (.slice none 0 0)),(.v (.slice none 0 0)),(.v (.slice none 0 0)),(.v (.int .i64 (0))),(.v (.int .i64 (0))),(.v (.int .i64 (0))),(.v (.int .i64 (0))),(.v (.int .i64 (0))),(.v (.int .i64 (0))),(.v (.int .i64 (0))),(.v (.int .i64 (0))),(.v (.int .i64 (0))),(.v (.int .u64 (0))),(.v (.int .i64 (0))),(.v (.int .i64 (0))),(.v (.int .i64 (0))),(.v (.int .i64 (0))),(.v (.bool false)),(.v (.int .i64 (0))),(.v (.int .i64 (0))),(.v (.int .i64 (0))),(.v (.int .i64 (0))),(.v (.int .i64 (0))),(.v (.int .i64 (0))),(.v (.int .i64 (0))),(.v (.int .u64 (0))),(.v (.int .u64 (0))),(.v (.int .u64 (0))),(.v (.int .u64 (0))),(.v (.int .u64 (0))),(.v (.int .u64 (0))),(.v (.int .u64 (0))),(.v (.int .u64 (0))),(.v (.int .u64 (0))),(.v (.int .u64 (0))),(.v (.int .u64 (0))),(.v (.int .u64 (0)))]
abbrev zl1:List SV:=[(.v (.int .i64 (0))),(.v (.int .i64 (0))),(.v (.int .i64 (0))),(.v (.int .i64 (0))),(.v (.int .i64 (0))),(.v (.bool false)),(.v (.int .i64 (0))),(.v (.bool false)),(.v (.bool false)),(.v (.bool false)),(.v (.int .i64 (0))),(.v (.int .i64 (0))),(.v (.int .i64 (0))),(.v (.int .i64 (0))),(.v (.int .i64 (0))),(.v (.int .i64 (0))),(.v (.int .i64 (0))),(.v (.int .u64 (0))),(.v (.int .u64 (0))),(.v (.int .u64 (0))),(.v (.int .u64 (0))),(.v (.int .u64 (0))),(.v (.int .u64 (0)))]
abbrev zl2:List SV:=[(.v (.int .i64 (0))),(.v (.int .i64 (0))),(.v (.int .i64 (0))),(.v (.int .i64 (0))),(.v (.int .i64 (0))),(.v (.int .i64 (0))),(.v (.int .i64 (0))),(.v (.int .u64 (0))),(.v (.int .u64 (0))),(.v (.int .u64 (0))),(.v (.int .u64 (0))),(.v (.int .u64 (0))),(.v (.int .u64 (0)))]
abbrev qzA:Nat:=3
abbrev q2H:Nat:=4
abbrev qJH:Nat:=9
abbrev qKE:Nat:=22
abbrev qLE:Nat:=23
abbrev qCF:Nat:=24
abbrev qPG:Nat:=25
abbrev qME:Nat:=26
abbrev qIA:Nat:=28
abbrev q0L:Nat:=29
abbrev q1H:Nat:=31
abbrev qLH:Nat:=33
abbrev qJE:Nat:=36
abbrev qoC:Nat:=41
abbrev quB:Nat:=56
abbrev qwJ:Nat:=58
abbrev qjA:Nat:=60
abbrev q1L:Nat:=61
abbrev qPF:Nat:=65
abbrev qCA:Nat:=67
abbrev qOA:Nat:=77
abbrev qKH:Nat:=83
abbrev qaA:Nat:=85
abbrev qyO:Nat:=86
abbrev qpC:Nat:=88
abbrev qNI:Nat:=90
abbrev qeA:Nat:=107
abbrev quI:Nat:=117
abbrev qOC:Nat:=132
abbrev qUB:Nat:=139
abbrev mv (n:Nat):SOp:=.mov (.t n)
abbrev lf (n:Nat):SOp:=.load false 1 (.t n)
abbrev lt (s n:Nat):SOp:=.load true s (.t n)
abbrev fa (k n:Nat):SOp:=.fadr k (.t n)
abbrev nk (n:Nat):SOp:=.nck (.t n)
abbrev ci (n:Int):Opd:=.c (.int .i64 n)
abbrev vi (n:Int):SV:=.v (.int .i64 n)
abbrev of (i:Nat) (o:SOper) (r:OT):OT:=.op ⟨i,false,[],o⟩ r
abbrev ot (i:Nat) (o:SOper) (r:OT):OT:=.op ⟨i,true,[],o⟩ r
abbrev mo (d n:Nat):SOper:=xo d (mv n)
abbrev lo (d n:Nat):SOper:=xo d (lf n)
abbrev fo (d k n:Nat):SOper:=xo d (fa k n)
abbrev sq (a b:SCode):SCode:=.seq a b
abbrev rg (l:List SOper):SCode:=.reg l
abbrev rd (l:List Nat) (t:OT):SCode:=.regD l t
abbrev bi (o:BinOp) (a b:Nat):SOp:=.bini o (.t a) (.t b)
abbrev bc (o:BinOp) (a:Nat) (n:Int):SOp:=.bini o (.t a) (ci n)
abbrev cD (a:Nat) (x y:SCode):SCode:=.cond (.t a) x y
abbrev ia (k a b:Nat):SOp:=.iadr k (.t a) (.t b)
abbrev st (k a b:Nat):SOp:=.store k (.t a) (.t b)
abbrev fs (l:List Nat) (r:OI):OI:=l.foldr .first r
abbrev qrD:Nat:=6
def quD:FnI:=⟨117,[.tmp 8],
 (sq (rg [xo 4 (.box 28 (.t 0)),xo 8 (.mov (.b false))])
 (sq (rg [xo 18 (.build [(vi 0),(.v (.string ⟨#[]⟩)),(.v (.string ⟨#[]⟩)),(.v (.string ⟨#[]⟩)),(vi 0),(vi 0),(vi 0),(.v (.slice none 0 0)),(.v (.slice none 0 0)),(.v (.slice none 0 0))] [(0,1,(ci 5))]),mo 19 1,xo 20 (.build zl0 [(0,10,(.t 18)),(10,1,(.t 19))]),xo 9 (.alloc 41 zl0),xn (st 44 9 20)])
 (sq (rg [xo 21 (.build [(vi 0),(.v (.string ⟨#[]⟩)),(.v (.string ⟨#[]⟩)),(.v (.string ⟨#[]⟩)),(vi 0),(vi 0),(vi 0),(.v (.slice none 0 0)),(.v (.slice none 0 0)),(.v (.slice none 0 0))] [(0,1,(ci 5))]),mo 22 2,xo 23 (.build zl0 [(0,10,(.t 21)),(10,1,(.t 22))]),xo 10 (.alloc 41 zl0),xn (st 44 10 23)])
 (sq (sq (rg [xo 24 (lt 8 4),xo 25 (.call 9 [(.t 24)]),mo 26 25,xg 27 (lt 8 4) 26 false,xg 28 (.call 22 [(.t 27)]) 26 false,xg 29 (.not (.t 28)) 26 false,xo 30 (.pick (.t 26) (.b true) (.t 29)),mo 31 30,xg 32 (mv 3) 31 false,xg 33 (bc .lss 32 1) 31 false,xo 34 (.pick (.t 31) (.b true) (.t 33)),mo 35 34,xg 36 (mv 3) 35 false,xg 37 (bc .gtr 36 200) 35 false,xo 38 (.pick (.t 35) (.b true) (.t 37)),mo 39 38,xg 40 (lt 8 4) 39 false,xg 41 (lt 44 9) 39 false,xg 42 (.call 16 [(.t 40),(.t 41)]) 39 false,xg 43 (.not (.t 42)) 39 false,xo 44 (.pick (.t 39) (.b true) (.t 43)),mo 45 44,xg 46 (lt 8 4) 45 false,xg 47 (lt 44 10) 45 false,xg 48 (.call 16 [(.t 46),(.t 47)]) 45 false,xg 49 (.not (.t 48)) 45 false,xo 50 (.pick (.t 45) (.b true) (.t 49)),mo 51 50,xg 52 (fa 2 4) 51 false,xg 53 (lf 52) 51 false,xg 54 (bc .eql 53 1) 51 false,xo 55 (.pick (.t 51) (.b true) (.t 54))])
 (cD 55
 (sq (rg [xo 56 (.call 23 []),mo 8 56])
 .ret)
 .skip))
 (sq (sq (rg [xo 11 (.mov (ci 0))])
 (.block 0
 (.loop [11] [57,58,59,60,61,62,63,64,68,69,70,67,71,72,73,12,13,14,74,75,65,66,11]
 (sq (sq (rg [mo 57 11,mo 58 3,xo 59 (bi .lss 57 58),mo 60 59,xg 61 (fa 24 9) 60 true,xg 62 (lf 61) 60 true,xg 63 (.not (.t 62)) 60 true,xo 64 (.pick (.t 60) (.t 63) (.b false))])
 (cD 64
 .skip
 (.exit 0)))
 (sq (.block 1
 (sq (rg [xo 68 (lt 8 4),xo 69 (lt 44 9),xo 70 (.call 24 [(.t 68),(.t 69)]),mo 67 70,xo 71 (.ext 0 (.t 67)),xo 72 (.ext 1 (.t 67)),xo 73 (.ext 2 (.t 67)),xo 12 (.alloc 28 [(vi 0),(vi 0),(vi 0),(.v (.slice none 0 0)),(.v (.slice none 0 0)),(.v (.slice none 0 0)),(.v (.slice none 0 0)),(.v (.slice none 0 0))]),xo 13 (.alloc 41 zl0),xo 14 (.alloc 45 zl1),xn (st 8 12 71),xn (st 44 13 72),xn (st 23 14 73)])
 (sq (rg [xo 74 (lt 8 12),xn (st 8 4 74)])
 (rg [xo 75 (lt 44 13),xn (st 44 9 75)]))))
 (rg [mo 65 11,xo 66 (bc .add 65 1),mo 11 66]))))))
 (sq (sq (rg [fo 76 24 9,lo 77 76])
 (cD 77
 (sq (rg [xo 78 (.call 23 []),mo 79 78,xg 80 (fa 2 4) 79 true,xg 81 (lf 80) 79 true,xg 82 (bc .eql 81 0) 79 true,xo 83 (.pick (.t 79) (.t 82) (.b false)),mo 8 83])
 .ret)
 .skip))
 (sq (rg [xo 85 (lt 8 4),xo 86 (lt 44 10),xo 87 (.call 24 [(.t 85),(.t 86)]),mo 84 87,xo 88 (.ext 0 (.t 84)),xo 89 (.ext 1 (.t 84)),xo 90 (.ext 2 (.t 84)),xo 15 (.alloc 28 [(vi 0),(vi 0),(vi 0),(.v (.slice none 0 0)),(.v (.slice none 0 0)),(.v (.slice none 0 0)),(.v (.slice none 0 0)),(.v (.slice none 0 0))]),xo 16 (.alloc 41 zl0),xo 17 (.alloc 45 zl1),xn (st 8 15 88),xn (st 44 16 89),xn (st 23 17 90)])
 (sq (rg [xo 91 (.call 23 []),mo 92 91,xg 93 (fa 2 4) 92 true,xg 94 (lf 93) 92 true,xg 95 (bc .eql 94 1) 92 true,xo 96 (.pick (.t 92) (.t 95) (.b false)),mo 97 96,xg 98 (lt 8 15) 97 true,xg 99 (lt 8 4) 97 true,xg 100 (.call 14 [(.t 98),(.t 99)]) 97 true,xo 101 (.pick (.t 97) (.t 100) (.b false)),mo 102 101,xg 103 (fa 24 16) 102 true,xg 104 (lf 103) 102 true,xo 105 (.pick (.t 102) (.t 104) (.b false)),mo 106 105,xg 107 (fa 25 16) 106 true,xg 108 (lt 13 107) 106 true,xg 109 (.build zl2 [(0,1,(ci 12))]) 106 true,xg 110 (.binst false [0,0,0,0,0,0,0,0,0,0,0,0,0] (.t 108) (.t 109)) 106 true,xo 111 (.pick (.t 106) (.t 110) (.b false)),mo 112 111,xg 113 (fa 2 17) 112 true,xg 114 (lf 113) 112 true,xg 115 (bc .eql 114 5) 112 true,xo 116 (.pick (.t 112) (.t 115) (.b false)),mo 8 116])
 .ret))))))))⟩
theorem qmD:trFn Tryz.prog 6 [] [[11]]=some quD:=by kernel_rfl
abbrev qJD:Nat:=7
def qLD:FnI:=⟨137,[.tmp 8],
 (sq (rg [xo 4 (.box 28 (.t 0)),xo 8 (.mov (.b false))])
 (sq (sq (rg [xo 16 (lt 8 4),xo 17 (.call 9 [(.t 16)]),mo 18 17,xg 19 (lt 8 4) 18 false,xg 20 (.call 22 [(.t 19)]) 18 false,xg 21 (.not (.t 20)) 18 false,xo 22 (.pick (.t 18) (.b true) (.t 21)),mo 23 22,xg 24 (mv 3) 23 false,xg 25 (bc .lss 24 0) 23 false,xo 26 (.pick (.t 23) (.b true) (.t 25)),mo 27 26,xg 28 (mv 3) 27 false,xg 29 (bc .gtr 28 6) 27 false,xo 30 (.pick (.t 27) (.b true) (.t 29)),mo 31 30,xg 32 (mv 2) 31 false,xg 33 (bc .lss 32 0) 31 false,xo 34 (.pick (.t 31) (.b true) (.t 33)),mo 35 34,xg 36 (mv 2) 35 false,xg 37 (fa 3 4) 35 false,xg 38 (lf 37) 35 false,xg 39 (.len false (.t 38)) 35 false,xg 40 (bi .geq 36 39) 35 false,xo 41 (.pick (.t 35) (.b true) (.t 40)),mo 42 41,xg 43 (lt 8 4) 42 false,xg 44 (mv 1) 42 false,xg 45 (.build zl0 [(10,1,(.t 44))]) 42 false,xg 46 (.call 16 [(.t 43),(.t 45)]) 42 false,xg 47 (.not (.t 46)) 42 false,xo 48 (.pick (.t 42) (.b true) (.t 47))])
 (cD 48
 (sq (rg [xo 49 (.call 23 []),mo 8 49])
 .ret)
 .skip))
 (sq (rg [xo 50 (lt 8 4),xo 51 (.call 25 [(.t 50)]),xo 9 (.alloc 28 [(vi 0),(vi 0),(vi 0),(.v (.slice none 0 0)),(.v (.slice none 0 0)),(.v (.slice none 0 0)),(.v (.slice none 0 0)),(.v (.slice none 0 0))]),xn (st 8 9 51)])
 (sq (sq (rg [fo 52 3 9,lo 53 52,xo 54 (.len false (.t 53)),fo 55 3 4,lo 56 55,xo 57 (.len false (.t 56)),xo 58 (bi .neq 54 57)])
 (cD 58
 (sq (rg [xo 8 (.mov (.b false))])
 .ret)
 .skip))
 (sq (rg [fo 59 3 9,lo 60 59,mo 61 2,fo 62 0 9,lo 63 62,xo 64 (bc .add 63 1),xo 65 (ia 1 60 61),xn (st 1 65 64)])
 (sq (rg [xo 66 (lt 8 9),xo 10 (.alloc 28 [(vi 0),(vi 0),(vi 0),(.v (.slice none 0 0)),(.v (.slice none 0 0)),(.v (.slice none 0 0)),(.v (.slice none 0 0)),(.v (.slice none 0 0))]),xn (st 8 10 66)])
 (sq (sq (rg [xo 11 (.mov (ci 0))])
 (.block 0
 (.loop [11] [67,68,69,73,74,75,76,77,72,78,79,80,12,13,14,81,70,71,11]
 (sq (sq (rg [mo 67 11,mo 68 3,xo 69 (bi .lss 67 68)])
 (cD 69
 .skip
 (.exit 0)))
 (sq (.block 1
 (sq (rg [xo 73 (lt 8 10),xo 74 (.build [(vi 0),(.v (.string ⟨#[]⟩)),(.v (.string ⟨#[]⟩)),(.v (.string ⟨#[]⟩)),(vi 0),(vi 0),(vi 0),(.v (.slice none 0 0)),(.v (.slice none 0 0)),(.v (.slice none 0 0))] [(0,1,(ci 5))]),mo 75 1,xo 76 (.build zl0 [(0,10,(.t 74)),(10,1,(.t 75))]),xo 77 (.call 26 [(.t 73),(.t 76)]),mo 72 77,xo 78 (.ext 0 (.t 72)),xo 79 (.ext 1 (.t 72)),xo 80 (.ext 2 (.t 72)),xo 12 (.alloc 28 [(vi 0),(vi 0),(vi 0),(.v (.slice none 0 0)),(.v (.slice none 0 0)),(.v (.slice none 0 0)),(.v (.slice none 0 0)),(.v (.slice none 0 0))]),xo 13 (.alloc 41 zl0),xn (st 8 12 78),xn (st 44 13 79),mo 14 80])
 (rg [xo 81 (lt 8 12),xn (st 8 10 81)])))
 (rg [mo 70 11,xo 71 (bc .add 70 1),mo 11 71]))))))
 (sq (sq (rg [fo 82 7 10,lo 83 82,xo 84 (.len false (.t 83)),fo 85 7 9,lo 86 85,xo 87 (.len false (.t 86)),xo 88 (bi .neq 84 87),mo 89 88,xg 90 (fa 0 10) 89 false,xg 91 (lf 90) 89 false,xg 92 (fa 0 9) 89 false,xg 93 (lf 92) 89 false,xg 94 (bc .add 93 1) 89 false,xg 95 (bi .gtr 91 94) 89 false,xo 96 (.pick (.t 89) (.b true) (.t 95))])
 (cD 96
 (sq (rg [xo 8 (.mov (.b false))])
 .ret)
 .skip))
 (sq (sq (rg [xo 15 (.mov (ci 0))])
 (.block 2
 (.loop [15] [97,98,99,100,101,104,105,106,107,108,109,110,111,112,113,114,115,116,117,118,119,120,121,122,123,124,125,126,127,128,129,130,131,8,102,103,15]
 (sq (sq (rg [mo 97 15,fo 98 7 9,lo 99 98,xo 100 (.len false (.t 99)),xo 101 (bi .lss 97 100)])
 (cD 101
 .skip
 (.exit 2)))
 (sq (.block 3
 (sq (rd [] (of 0 (fo 104 7 9)
 (ot 1 (lo 105 104)
 (of 2 (mo 106 15)
 (ot 3 (xo 107 (ia 3 105 106))
 (of 4 (fo 108 1 107)
 (ot 5 (lo 109 108)
 (of 6 (fo 110 3 9)
 (ot 7 (lo 111 110)
 (of 8 (mo 112 2)
 (ot 9 (xo 113 (ia 1 111 112))
 (ot 10 (lo 114 113)
 (of 11 (xo 115 (.bsl 3 1 1 [(vi 0)] [(0,1,(.t 114))]))
 (of 12 (xo 116 (.call 27 [(.t 109),(.t 115)]))
 (of 13 (mo 117 116)
 (of 14 (xg 118 (fa 7 10) 117 true)
 (ot 15 (xg 119 (lf 118) 117 true)
 (of 16 (xg 120 (mv 15) 117 true)
 (ot 17 (xg 121 (ia 3 119 120) 117 true)
 (of 18 (xg 122 (fa 2 121) 117 true)
 (ot 19 (xg 123 (lf 122) 117 true)
 (of 20 (xg 124 (fa 7 9) 117 true)
 (ot 21 (xg 125 (lf 124) 117 true)
 (of 22 (xg 126 (mv 15) 117 true)
 (ot 23 (xg 127 (ia 3 125 126) 117 true)
 (of 24 (xg 128 (fa 2 127) 117 true)
 (ot 25 (xg 129 (lf 128) 117 true)
 (of 26 (xg 130 (.binb true (.t 123) (.t 129)) 117 true)
 (of 27 (xo 131 (.pick (.t 117) (.t 130) (.b false)))
 .nil)))))))))))))))))))))))))))))
 (cD 131
 (sq (rg [xo 8 (.mov (.b false))])
 .ret)
 .skip)))
 (rg [mo 102 15,xo 103 (bc .add 102 1),mo 15 103]))))))
 (sq (rg [xo 132 (.call 23 []),mo 133 132,xg 134 (lt 8 10) 133 true,xg 135 (.call 18 [(.t 134)]) 133 true,xo 136 (.pick (.t 133) (.t 135) (.b false)),mo 8 136])
 .ret))))))))))⟩
theorem qED:trFn Tryz.prog 7 [([],(fs [0,1,2,3,4,5,6,7,8,9,10] (.exec 11 (.exec 12 (fs [13,14,15,16,17,18,19,20,21,22,23,24,25,26,27] .nil)))))] [[11],[15]]=some qLD:=by kernel_rfl
abbrev qbD:Nat:=8
def qfD:FnI:=⟨199,[.tmp 4],
 (sq (rg [xo 2 (.box 28 (.t 0)),xo 4 (.mov (.b false))])
 (sq (rg [xo 19 (.build [(vi 0),(.v (.string ⟨#[]⟩)),(.v (.string ⟨#[]⟩)),(.v (.string ⟨#[]⟩)),(vi 0),(vi 0),(vi 0),(.v (.slice none 0 0)),(.v (.slice none 0 0)),(.v (.slice none 0 0))] [(0,1,(ci 5))]),mo 20 1,xo 21 (.build zl0 [(0,10,(.t 19)),(10,1,(.t 20))]),xo 5 (.alloc 41 zl0),xn (st 44 5 21)])
 (sq (sq (rg [xo 22 (lt 8 2),xo 23 (.call 9 [(.t 22)]),mo 24 23,xg 25 (lt 8 2) 24 false,xg 26 (.call 22 [(.t 25)]) 24 false,xg 27 (.not (.t 26)) 24 false,xo 28 (.pick (.t 24) (.b true) (.t 27)),mo 29 28,xg 30 (lt 8 2) 29 false,xg 31 (lt 44 5) 29 false,xg 32 (.call 16 [(.t 30),(.t 31)]) 29 false,xg 33 (.not (.t 32)) 29 false,xo 34 (.pick (.t 29) (.b true) (.t 33))])
 (cD 34
 (sq (rg [xo 35 (.call 23 []),mo 4 35])
 .ret)
 .skip))
 (sq (rg [xo 37 (lt 8 2),xo 38 (lt 44 5),xo 39 (.call 26 [(.t 37),(.t 38)]),mo 36 39,xo 40 (.ext 0 (.t 36)),xo 41 (.ext 1 (.t 36)),xo 42 (.ext 2 (.t 36)),xo 6 (.alloc 28 [(vi 0),(vi 0),(vi 0),(.v (.slice none 0 0)),(.v (.slice none 0 0)),(.v (.slice none 0 0)),(.v (.slice none 0 0)),(.v (.slice none 0 0))]),xo 7 (.alloc 41 zl0),xn (st 8 6 40),xn (st 44 7 41),mo 8 42])
 (sq (sq (rg [fo 43 24 7,lo 44 43,xo 45 (.not (.t 44)),mo 46 45,xg 47 (lt 8 6) 46 false,xg 48 (.call 18 [(.t 47)]) 46 false,xg 49 (.not (.t 48)) 46 false,xo 50 (.pick (.t 46) (.b true) (.t 49)),mo 51 50,xg 52 (fa 7 6) 51 false,xg 53 (lf 52) 51 false,xg 54 (.len false (.t 53)) 51 false,xg 55 (fa 7 2) 51 false,xg 56 (lf 55) 51 false,xg 57 (.len false (.t 56)) 51 false,xg 58 (bi .neq 54 57) 51 false,xo 59 (.pick (.t 51) (.b true) (.t 58)),mo 60 59,xg 61 (fa 4 6) 60 false,xg 62 (lf 61) 60 false,xg 63 (.len false (.t 62)) 60 false,xg 64 (fa 4 2) 60 false,xg 65 (lf 64) 60 false,xg 66 (.len false (.t 65)) 60 false,xg 67 (bi .neq 63 66) 60 false,xo 68 (.pick (.t 60) (.b true) (.t 67)),mo 69 68,xg 70 (fa 5 6) 69 false,xg 71 (lf 70) 69 false,xg 72 (.len false (.t 71)) 69 false,xg 73 (fa 5 2) 69 false,xg 74 (lf 73) 69 false,xg 75 (.len false (.t 74)) 69 false,xg 76 (bi .neq 72 75) 69 false,xo 77 (.pick (.t 69) (.b true) (.t 76))])
 (cD 77
 (sq (rg [xo 4 (.mov (.b false))])
 .ret)
 .skip))
 (sq (sq (rg [fo 78 2 2,lo 79 78,xo 80 (bc .eql 79 1)])
 (cD 80
 (sq (rg [xo 81 (.call 23 []),mo 82 81,xg 83 (fa 25 7) 82 true,xg 84 (lt 13 83) 82 true,xg 85 (.build zl2 [(0,1,(ci 12))]) 82 true,xg 86 (.binst false [0,0,0,0,0,0,0,0,0,0,0,0,0] (.t 84) (.t 85)) 82 true,xo 87 (.pick (.t 82) (.t 86) (.b false)),mo 88 87,xg 89 (lt 8 2) 88 true,xg 90 (lt 8 6) 88 true,xg 91 (.call 14 [(.t 89),(.t 90)]) 88 true,xo 92 (.pick (.t 88) (.t 91) (.b false)),mo 4 92])
 .ret)
 .skip))
 (sq (rg [fo 93 0 2,lo 94 93,fo 95 3 2,lo 96 95,xo 97 (.call 28 [(.t 94),(.t 96)]),mo 9 97])
 (sq (rg [fo 98 7 2,lo 99 98,mo 100 9,xo 101 (.call 29 [(.t 99),(.t 100)]),mo 10 101])
 (sq (rg [xo 11 (.mov (ci 0))])
 (sq (sq (rg [xo 12 (.mov (ci 0))])
 (.block 0
 (.loop [11,12] [102,103,104,105,106,13,14,109,110,111,112,115,116,117,118,119,120,121,122,123,113,114,124,125,126,127,128,129,130,131,132,133,134,135,136,137,15,138,139,140,11,141,142,143,144,145,146,147,148,149,150,151,152,153,154,155,156,4,107,108,12]
 (sq (sq (rg [mo 102 12,fo 103 7 2,lo 104 103,xo 105 (.len false (.t 104)),xo 106 (bi .lss 102 105)])
 (cD 106
 .skip
 (.exit 0)))
 (sq (.block 1
 (sq (rg [xo 13 (.mov (.b false))])
 (sq (sq (rg [xo 14 (.mov (ci 0))])
 (.block 2
 (.loop [13,14] [109,110,111,112,115,116,117,118,119,120,121,122,123,13,113,114,14]
 (sq (sq (rg [mo 109 14,mo 110 10,xo 111 (.len false (.t 110)),xo 112 (bi .lss 109 111)])
 (cD 112
 .skip
 (.exit 2)))
 (sq (.block 3
 (rg [mo 115 13,mo 116 115,xg 117 (mv 10) 116 false,xg 118 (mv 14) 116 false,xg 119 (ia 1 117 118) 116 false,xg 120 (lf 119) 116 false,xg 121 (mv 12) 116 false,xg 122 (bi .eql 120 121) 116 false,xo 123 (.pick (.t 116) (.b true) (.t 122)),mo 13 123]))
 (rg [mo 113 14,xo 114 (bc .add 113 1),mo 14 114]))))))
 (sq (rd [] (of 0 (mo 124 13)
 (of 1 (mo 125 124)
 (of 2 (xg 126 (fa 4 2) 125 true)
 (ot 3 (xg 127 (lf 126) 125 true)
 (of 4 (xg 128 (fa 7 2) 125 true)
 (ot 5 (xg 129 (lf 128) 125 true)
 (of 6 (xg 130 (mv 12) 125 true)
 (ot 7 (xg 131 (ia 3 129 130) 125 true)
 (of 8 (xg 132 (fa 0 131) 125 true)
 (ot 9 (xg 133 (lf 132) 125 true)
 (ot 10 (xg 134 (ia 5 127 133) 125 true)
 (ot 11 (xg 135 (lt 5 134) 125 true)
 (of 12 (xg 136 (.call 30 [(.t 135)]) 125 true)
 (of 13 (xo 137 (.pick (.t 125) (.t 136) (.b false)))
 (of 14 (mo 15 137)
 .nil))))))))))))))))
 (sq (sq (rg [mo 138 15])
 (cD 138
 (rg [mo 139 11,xo 140 (bc .add 139 1),mo 11 140])
 .skip))
 (sq (rd [] (of 0 (fo 141 7 6)
 (ot 1 (lo 142 141)
 (of 2 (mo 143 12)
 (ot 3 (xo 144 (ia 3 142 143))
 (of 4 (fo 145 2 144)
 (ot 5 (lo 146 145)
 (of 6 (fo 147 7 2)
 (ot 7 (lo 148 147)
 (of 8 (mo 149 12)
 (ot 9 (xo 150 (ia 3 148 149))
 (of 10 (fo 151 2 150)
 (ot 11 (lo 152 151)
 (of 12 (mo 153 152)
 (of 13 (xg 154 (mv 15) 153 false)
 (of 14 (xo 155 (.pick (.t 153) (.b true) (.t 154)))
 (of 15 (xo 156 (.binb true (.t 146) (.t 155)))
 .nil)))))))))))))))))
 (cD 156
 (sq (rg [xo 4 (.mov (.b false))])
 .ret)
 .skip)))))))
 (rg [mo 107 12,xo 108 (bc .add 107 1),mo 12 108]))))))
 (sq (sq (rg [xo 16 (.mov (ci 0))])
 (.block 4
 (.loop [16] [157,158,159,160,161,165,166,167,168,169,170,164,171,172,17,18,173,174,175,176,177,178,179,4,162,163,16]
 (sq (sq (rg [mo 157 16,fo 158 5 2,lo 159 158,xo 160 (.len false (.t 159)),xo 161 (bi .lss 157 160)])
 (cD 161
 .skip
 (.exit 4)))
 (sq (.block 5
 (sq (rg [fo 165 5 2,lo 166 165,mo 167 16,xo 168 (ia 4 166 167),xo 169 (lt 4 168),xo 170 (.call 31 [(.t 169)]),mo 164 170,xo 171 (.ext 0 (.t 164)),xo 172 (.ext 1 (.t 164)),xo 17 (.alloc 77 [(.v (.string ⟨#[]⟩)),(.v (.bool false)),(vi 0),(.v (.bool false))]),xn (st 4 17 171),mo 18 172])
 (sq (rd [] (of 0 (fo 173 5 6)
 (ot 1 (lo 174 173)
 (of 2 (mo 175 16)
 (ot 3 (xo 176 (ia 4 174 175))
 (ot 4 (xo 177 (lt 4 176))
 (ot 5 (xo 178 (lt 4 17))
 (of 6 (xo 179 (.binst true [1,2,0,2] (.t 177) (.t 178)))
 .nil))))))))
 (cD 179
 (sq (rg [xo 4 (.mov (.b false))])
 .ret)
 .skip))))
 (rg [mo 162 16,xo 163 (bc .add 162 1),mo 16 163]))))))
 (sq (rg [xo 180 (.call 23 []),mo 181 180,xg 182 (fa 0 6) 181 true,xg 183 (lf 182) 181 true,xg 184 (mv 9) 181 true,xg 185 (bi .eql 183 184) 181 true,xo 186 (.pick (.t 181) (.t 185) (.b false)),mo 187 186,xg 188 (fa 2 6) 187 true,xg 189 (lf 188) 187 true,xg 190 (bc .eql 189 0) 187 true,xo 191 (.pick (.t 187) (.t 190) (.b false)),mo 192 191,xg 193 (fa 25 7) 192 true,xg 194 (lt 13 193) 192 true,xg 195 (mv 11) 192 true,xg 196 (.build zl2 [(0,1,(ci 11)),(6,1,(.t 195))]) 192 true,xg 197 (.binst false [0,0,0,0,0,0,0,0,0,0,0,0,0] (.t 194) (.t 196)) 192 true,xo 198 (.pick (.t 192) (.t 197) (.b false)),mo 4 198])
 .ret))))))))))))⟩
theorem qVD:trFn Tryz.prog 8 [([],(fs [0,1,2,3,4,5,6,7,8,9,10,11] (.exec 12 (.first 13 (.first 14 .nil))))),([],(fs [0,1,2,3,4,5,6,7,8,9,10,11,12,13,14,15] .nil)),([],(fs [0,1,2,3,4,5,6] .nil))] [[11,12],[13,14],[16]]=some qfD:=by kernel_rfl
abbrev qbH:Nat:=9
def qpH:FnI:=⟨69,[.tmp 2],
 (sq (rg [xo 1 (.box 28 (.t 0)),xo 2 (.mov (.b false))])
 (sq (sq (rg [fo 6 3 1,lo 7 6,xo 8 (.len false (.t 7)),xo 9 (bc .gtr 8 20),mo 10 9,xg 11 (fa 4 1) 10 false,xg 12 (lf 11) 10 false,xg 13 (.len false (.t 12)) 10 false,xg 14 (bc .gtr 13 40) 10 false,xo 15 (.pick (.t 10) (.b true) (.t 14)),mo 16 15,xg 17 (fa 5 1) 16 false,xg 18 (lf 17) 16 false,xg 19 (.len false (.t 18)) 16 false,xg 20 (bc .gtr 19 40) 16 false,xo 21 (.pick (.t 16) (.b true) (.t 20)),mo 22 21,xg 23 (fa 6 1) 22 false,xg 24 (lf 23) 22 false,xg 25 (.call 32 [(.t 24)]) 22 false,xo 26 (.pick (.t 22) (.b true) (.t 25)),mo 27 26,xg 28 (fa 7 1) 27 false,xg 29 (lf 28) 27 false,xg 30 (.len false (.t 29)) 27 false,xg 31 (bc .gtr 30 60) 27 false,xo 32 (.pick (.t 27) (.b true) (.t 31))])
 (cD 32
 (sq (rg [xo 2 (.mov (.b true))])
 .ret)
 .skip))
 (sq (sq (rg [xo 3 (.mov (ci 0))])
 (.block 0
 (.loop [3] [33,34,35,36,37,40,41,42,43,44,4,45,46,47,48,49,50,51,52,53,2,5,54,55,56,57,58,61,62,63,64,65,66,67,68,59,60,38,39,3]
 (sq (sq (rg [mo 33 3,fo 34 4 1,lo 35 34,xo 36 (.len false (.t 35)),xo 37 (bi .lss 33 36)])
 (cD 37
 .skip
 (.exit 0)))
 (sq (.block 1
 (sq (rg [fo 40 4 1,lo 41 40,mo 42 3,xo 43 (ia 5 41 42),xo 44 (lt 5 43),xo 4 (.alloc 67 [(.v (.slice none 0 0)),(.v (.slice none 0 0)),(.v (.slice none 0 0)),(.v (.slice none 0 0)),(.v (.bool false))]),xn (st 5 4 44)])
 (sq (sq (rg [fo 45 0 4,xo 46 (lt 3 45),xo 47 (.call 33 [(.t 46)]),mo 48 47,xg 49 (fa 3 4) 48 false,xg 50 (lf 49) 48 false,xg 51 (.len false (.t 50)) 48 false,xg 52 (bc .gtr 51 20) 48 false,xo 53 (.pick (.t 48) (.b true) (.t 52))])
 (cD 53
 (sq (rg [xo 2 (.mov (.b true))])
 .ret)
 .skip))
 (sq (rg [xo 5 (.mov (ci 0))])
 (.block 2
 (.loop [5] [54,55,56,57,58,61,62,63,64,65,66,67,68,2,59,60,5]
 (sq (sq (rg [mo 54 5,fo 55 3 4,lo 56 55,xo 57 (.len false (.t 56)),xo 58 (bi .lss 54 57)])
 (cD 58
 .skip
 (.exit 2)))
 (sq (.block 3
 (sq (rg [fo 61 3 4,lo 62 61,mo 63 5,xo 64 (ia 2 62 63),fo 65 1 64,lo 66 65,xo 67 (.len false (.t 66)),xo 68 (bc .gtr 67 20)])
 (cD 68
 (sq (rg [xo 2 (.mov (.b true))])
 .ret)
 .skip)))
 (rg [mo 59 5,xo 60 (bc .add 59 1),mo 5 60])))))))))
 (rg [mo 38 3,xo 39 (bc .add 38 1),mo 3 39]))))))
 (sq (rg [xo 2 (.mov (.b false))])
 .ret))))⟩
theorem qMH:trFn Tryz.prog 9 [] [[3],[5]]=some qpH:=by kernel_rfl
abbrev qsG:Nat:=14
def q7G:FnI:=⟨105,[.tmp 4],
 (sq (rg [xo 2 (.box 28 (.t 0)),xo 3 (.box 28 (.t 1)),xo 4 (.mov (.b false))])
 (sq (sq (rg [fo 7 0 2,lo 8 7,fo 9 0 3,lo 10 9,xo 11 (bi .neq 8 10),mo 12 11,xg 13 (fa 1 2) 12 false,xg 14 (lf 13) 12 false,xg 15 (fa 1 3) 12 false,xg 16 (lf 15) 12 false,xg 17 (bi .neq 14 16) 12 false,xo 18 (.pick (.t 12) (.b true) (.t 17)),mo 19 18,xg 20 (fa 2 2) 19 false,xg 21 (lf 20) 19 false,xg 22 (fa 2 3) 19 false,xg 23 (lf 22) 19 false,xg 24 (bi .neq 21 23) 19 false,xo 25 (.pick (.t 19) (.b true) (.t 24)),mo 26 25,xg 27 (fa 3 2) 26 false,xg 28 (lf 27) 26 false,xg 29 (fa 3 3) 26 false,xg 30 (lf 29) 26 false,xg 31 (.call 45 [(.t 28),(.t 30)]) 26 false,xg 32 (.not (.t 31)) 26 false,xo 33 (.pick (.t 26) (.b true) (.t 32)),mo 34 33,xg 35 (fa 4 2) 34 false,xg 36 (lf 35) 34 false,xg 37 (.len false (.t 36)) 34 false,xg 38 (fa 4 3) 34 false,xg 39 (lf 38) 34 false,xg 40 (.len false (.t 39)) 34 false,xg 41 (bi .neq 37 40) 34 false,xo 42 (.pick (.t 34) (.b true) (.t 41)),mo 43 42,xg 44 (fa 5 2) 43 false,xg 45 (lf 44) 43 false,xg 46 (.len false (.t 45)) 43 false,xg 47 (fa 5 3) 43 false,xg 48 (lf 47) 43 false,xg 49 (.len false (.t 48)) 43 false,xg 50 (bi .neq 46 49) 43 false,xo 51 (.pick (.t 43) (.b true) (.t 50)),mo 52 51,xg 53 (fa 6 2) 52 false,xg 54 (lf 53) 52 false,xg 55 (fa 6 3) 52 false,xg 56 (lf 55) 52 false,xg 57 (.call 46 [(.t 54),(.t 56)]) 52 false,xg 58 (.not (.t 57)) 52 false,xo 59 (.pick (.t 52) (.b true) (.t 58)),mo 60 59,xg 61 (fa 7 2) 60 false,xg 62 (lf 61) 60 false,xg 63 (fa 7 3) 60 false,xg 64 (lf 63) 60 false,xg 65 (.call 47 [(.t 62),(.t 64)]) 60 false,xg 66 (.not (.t 65)) 60 false,xo 67 (.pick (.t 60) (.b true) (.t 66))])
 (cD 67
 (sq (rg [xo 4 (.mov (.b false))])
 .ret)
 .skip))
 (sq (sq (rg [xo 5 (.mov (ci 0))])
 (.block 0
 (.loop [5] [68,69,70,71,72,75,76,77,78,79,80,81,82,83,84,85,86,4,73,74,5]
 (sq (sq (rg [mo 68 5,fo 69 4 2,lo 70 69,xo 71 (.len false (.t 70)),xo 72 (bi .lss 68 71)])
 (cD 72
 .skip
 (.exit 0)))
 (sq (.block 1
 (sq (rd [] (of 0 (fo 75 4 2)
 (ot 1 (lo 76 75)
 (of 2 (mo 77 5)
 (ot 3 (xo 78 (ia 5 76 77))
 (ot 4 (xo 79 (lt 5 78))
 (of 5 (fo 80 4 3)
 (ot 6 (lo 81 80)
 (of 7 (mo 82 5)
 (ot 8 (xo 83 (ia 5 81 82))
 (ot 9 (xo 84 (lt 5 83))
 (of 10 (xo 85 (.call 48 [(.t 79),(.t 84)]))
 (of 11 (xo 86 (.not (.t 85)))
 .nil)))))))))))))
 (cD 86
 (sq (rg [xo 4 (.mov (.b false))])
 .ret)
 .skip)))
 (rg [mo 73 5,xo 74 (bc .add 73 1),mo 5 74]))))))
 (sq (sq (rg [xo 6 (.mov (ci 0))])
 (.block 2
 (.loop [6] [87,88,89,90,91,94,95,96,97,98,99,100,101,102,103,104,4,92,93,6]
 (sq (sq (rg [mo 87 6,fo 88 5 2,lo 89 88,xo 90 (.len false (.t 89)),xo 91 (bi .lss 87 90)])
 (cD 91
 .skip
 (.exit 2)))
 (sq (.block 3
 (sq (rd [] (of 0 (fo 94 5 2)
 (ot 1 (lo 95 94)
 (of 2 (mo 96 6)
 (ot 3 (xo 97 (ia 4 95 96))
 (ot 4 (xo 98 (lt 4 97))
 (of 5 (fo 99 5 3)
 (ot 6 (lo 100 99)
 (of 7 (mo 101 6)
 (ot 8 (xo 102 (ia 4 100 101))
 (ot 9 (xo 103 (lt 4 102))
 (of 10 (xo 104 (.binst true [1,2,0,2] (.t 98) (.t 103)))
 .nil))))))))))))
 (cD 104
 (sq (rg [xo 4 (.mov (.b false))])
 .ret)
 .skip)))
 (rg [mo 92 6,xo 93 (bc .add 92 1),mo 6 93]))))))
 (sq (rg [xo 4 (.mov (.b true))])
 .ret)))))⟩
theorem qeG:trFn Tryz.prog 14 [([],(fs [0,1,2,3,4,5,6,7,8,9] (.exec 10 (.first 11 .nil)))),([],(fs [0,1,2,3,4,5,6,7,8,9,10] .nil))] [[5],[6]]=some q7G:=by kernel_rfl
abbrev qzN:Nat:=16
def qGO:FnI:=⟨96,[.tmp 4],
 (sq (rg [xo 2 (.box 28 (.t 0)),xo 3 (.box 41 (.t 1)),xo 4 (.mov (.b false))])
 (sq (sq (rg [xo 7 (lt 8 2),xo 8 (.call 18 [(.t 7)]),xo 9 (.not (.t 8)),mo 10 9,xg 11 (fa 10 3) 10 false,xg 12 (lf 11) 10 false,xg 13 (fa 3 2) 10 false,xg 14 (lf 13) 10 false,xg 15 (.len false (.t 14)) 10 false,xg 16 (.call 50 [(.t 12),(.t 15)]) 10 false,xg 17 (.not (.t 16)) 10 false,xo 18 (.pick (.t 10) (.b true) (.t 17)),mo 19 18,xg 20 (fa 24 3) 19 false,xg 21 (lf 20) 19 false,xo 22 (.pick (.t 19) (.b true) (.t 21)),mo 23 22,xg 24 (fa 13 3) 23 false,xg 25 (lf 24) 23 false,xg 26 (fa 4 2) 23 false,xg 27 (lf 26) 23 false,xg 28 (.len false (.t 27)) 23 false,xg 29 (.call 50 [(.t 25),(.t 28)]) 23 false,xg 30 (.not (.t 29)) 23 false,xo 31 (.pick (.t 23) (.b true) (.t 30))])
 (cD 31
 (sq (rg [xo 4 (.mov (.b false))])
 .ret)
 .skip))
 (sq (rg [fo 32 4 2,lo 33 32,fo 34 13 3,lo 35 34,xo 36 (ia 5 33 35),fo 37 3 36,lo 38 37,mo 5 38])
 (sq (sq (rg [fo 39 15 3,lo 40 39,mo 41 5,xo 42 (.len false (.t 41)),xo 43 (.call 50 [(.t 40),(.t 42)]),xo 44 (.not (.t 43))])
 (cD 44
 (sq (rg [xo 4 (.mov (.b false))])
 .ret)
 .skip))
 (sq (rg [mo 45 5,fo 46 15 3,lo 47 46,xo 48 (ia 2 45 47),fo 49 1 48,lo 50 49,mo 6 50])
 (sq (sq (rd [] (of 0 (fo 51 16 3)
 (ot 1 (lo 52 51)
 (of 2 (mo 53 6)
 (of 3 (xo 54 (.len false (.t 53)))
 (of 4 (xo 55 (.call 50 [(.t 52),(.t 54)]))
 (of 5 (xo 56 (.not (.t 55)))
 (of 6 (mo 57 56)
 (of 7 (xg 58 (fa 17 3) 57 false)
 (ot 8 (xg 59 (lf 58) 57 false)
 (of 9 (xg 60 (mv 6) 57 false)
 (of 10 (xg 61 (.len false (.t 60)) 57 false)
 (of 11 (xg 62 (.call 50 [(.t 59),(.t 61)]) 57 false)
 (of 12 (xg 63 (.not (.t 62)) 57 false)
 (of 13 (xo 64 (.pick (.t 57) (.b true) (.t 63)))
 (of 14 (mo 65 64)
 (of 15 (xg 66 (fa 18 3) 65 false)
 (ot 16 (xg 67 (lf 66) 65 false)
 (of 17 (xg 68 (mv 6) 65 false)
 (of 18 (xg 69 (fa 16 3) 65 false)
 (ot 19 (xg 70 (lf 69) 65 false)
 (ot 20 (xg 71 (ia 3 68 70) 65 false)
 (of 21 (xg 72 (fa 1 71) 65 false)
 (ot 22 (xg 73 (lf 72) 65 false)
 (of 23 (xg 74 (.len false (.t 73)) 65 false)
 (of 24 (xg 75 (.call 50 [(.t 67),(.t 74)]) 65 false)
 (of 25 (xg 76 (.not (.t 75)) 65 false)
 (of 26 (xo 77 (.pick (.t 65) (.b true) (.t 76)))
 .nil))))))))))))))))))))))))))))
 (cD 77
 (sq (rg [xo 4 (.mov (.b false))])
 .ret)
 .skip))
 (sq (rg [fo 78 14 3,lo 79 78,xo 80 (bc .add 79 1),fo 81 5 2,lo 82 81,xo 83 (.len false (.t 82)),xo 84 (bc .add 83 1),xo 85 (.call 50 [(.t 80),(.t 84)]),mo 86 85,xg 87 (fa 21 3) 86 true,xg 88 (lf 87) 86 true,xg 89 (bc .geq 88 0) 86 true,xo 90 (.pick (.t 86) (.t 89) (.b false)),mo 91 90,xg 92 (fa 22 3) 91 true,xg 93 (lf 92) 91 true,xg 94 (bc .geq 93 0) 91 true,xo 95 (.pick (.t 91) (.t 94) (.b false)),mo 4 95])
 .ret)))))))⟩
theorem qVN:trFn Tryz.prog 16 [([],(fs [0,1,2,3] (.exec 4 (fs [5,6,7,8,9,10] (.exec 11 (fs [12,13,14,15,16,17,18,19,20,21,22,23] (.exec 24 (.first 25 (.first 26 .nil)))))))))] []=some qGO:=by kernel_rfl
abbrev qYE:Nat:=18
def qbP:FnI:=⟨107,[.tmp 2],
 (sq (rg [xo 1 (.box 28 (.t 0)),xo 2 (.mov (.b false))])
 (sq (sq (rg [xo 10 (lt 8 1),xo 11 (.call 51 [(.t 10)]),xo 12 (.not (.t 11)),mo 13 12,xg 14 (fa 1 1) 13 false,xg 15 (lf 14) 13 false,xg 16 (bc .lss 15 0) 13 false,xo 17 (.pick (.t 13) (.b true) (.t 16)),mo 18 17,xg 19 (fa 1 1) 18 false,xg 20 (lf 19) 18 false,xg 21 (fa 4 1) 18 false,xg 22 (lf 21) 18 false,xg 23 (.len false (.t 22)) 18 false,xg 24 (bi .geq 20 23) 18 false,xo 25 (.pick (.t 18) (.b true) (.t 24)),mo 26 25,xg 27 (fa 7 1) 26 false,xg 28 (lf 27) 26 false,xg 29 (.call 52 [(.t 28)]) 26 false,xg 30 (.not (.t 29)) 26 false,xo 31 (.pick (.t 26) (.b true) (.t 30))])
 (cD 31
 (sq (rg [xo 2 (.mov (.b false))])
 .ret)
 .skip))
 (sq (rg [xo 32 (.mkm .i64),mo 3 32])
 (sq (sq (rg [fo 33 7 1,lo 34 33,xo 35 (.len false (.t 34)),xo 36 (.mov (ci 0))])
 (.block 0
 (.loop [36] [37,38,39,5,40,41,42,43,44,45,46,47,48,49,50,51,52,53,54,55,56,57,58,59,2,60,61,62,63,64,65,36]
 (sq (rg [xo 37 (bi .lss 36 35)])
 (sq (cD 37
 .skip
 (.exit 0))
 (sq (.block 1
 (sq (rg [xo 38 (ia 3 34 36),xo 39 (lt 3 38),xo 5 (.alloc 56 [(vi 0),(vi 0),(.v (.bool false))]),xn (st 3 5 39)])
 (sq (sq (rg [fo 40 0 5,lo 41 40,fo 42 4 1,lo 43 42,xo 44 (.len false (.t 43)),xo 45 (bi .geq 41 44),mo 46 45,xg 47 (fa 0 5) 46 false,xg 48 (lf 47) 46 false,xg 49 (fa 1 1) 46 false,xg 50 (lf 49) 46 false,xg 51 (bi .eql 48 50) 46 false,xo 52 (.pick (.t 46) (.b true) (.t 51)),mo 53 52,xg 54 (fa 1 5) 53 false,xg 55 (lf 54) 53 false,xg 56 (fa 0 1) 53 false,xg 57 (lf 56) 53 false,xg 58 (bi .gtr 55 57) 53 false,xo 59 (.pick (.t 53) (.b true) (.t 58))])
 (cD 59
 (sq (rg [xo 2 (.mov (.b false))])
 .ret)
 .skip))
 (rg [mo 60 3,fo 61 0 5,lo 62 61,fo 63 2 5,lo 64 63,xn (.mup .i64 (.t 60) (.t 62) (.t 64))]))))
 (rg [xo 65 (bc .add 36 1),mo 36 65])))))))
 (sq (sq (rg [fo 66 4 1,lo 67 66,xo 68 (.len false (.t 67)),xo 69 (.mov (ci 0))])
 (.block 2
 (.loop [69] [70,71,72,73,7,6,74,75,76,77,78,79,80,81,82,83,84,2,85,69]
 (sq (rg [xo 70 (bi .lss 69 68)])
 (sq (cD 70
 .skip
 (.exit 2))
 (sq (.block 3
 (sq (rg [mo 71 69,xo 72 (ia 5 67 69),xo 73 (lt 5 72),xo 7 (.alloc 67 [(.v (.slice none 0 0)),(.v (.slice none 0 0)),(.v (.slice none 0 0)),(.v (.slice none 0 0)),(.v (.bool false))]),mo 6 71,xn (st 5 7 73)])
 (sq (rg [xo 74 (lt 5 7),xo 75 (.call 53 [(.t 74)]),xo 76 (.not (.t 75)),mo 77 76,xg 78 (fa 4 7) 77 false,xg 79 (lf 78) 77 false,xg 80 (mv 3) 77 false,xg 81 (mv 6) 77 false,xg 82 (.look .i64 (.bool false) false (.t 80) (.t 81)) 77 false,xg 83 (.binb true (.t 79) (.t 82)) 77 false,xo 84 (.pick (.t 77) (.b true) (.t 83))])
 (cD 84
 (sq (rg [xo 2 (.mov (.b false))])
 .ret)
 .skip))))
 (rg [xo 85 (bc .add 69 1),mo 69 85])))))))
 (sq (sq (rg [fo 86 5 1,lo 87 86,xo 88 (.len false (.t 87)),xo 89 (.mov (ci 0))])
 (.block 4
 (.loop [89] [90,91,92,93,9,8,94,95,96,97,98,99,100,101,102,103,104,105,2,106,89]
 (sq (rg [xo 90 (bi .lss 89 88)])
 (sq (cD 90
 .skip
 (.exit 4))
 (sq (.block 5
 (sq (rg [mo 91 89,xo 92 (ia 4 87 89),xo 93 (lt 4 92),xo 9 (.alloc 77 [(.v (.string ⟨#[]⟩)),(.v (.bool false)),(vi 0),(.v (.bool false))]),mo 8 91,xn (st 4 9 93)])
 (sq (rg [xo 94 (lt 4 9),xo 95 (.call 54 [(.t 94)]),xo 96 (.not (.t 95)),mo 97 96,xg 98 (fa 5 1) 97 false,xg 99 (lf 98) 97 false,xg 100 (fa 0 9) 97 false,xg 101 (lf 100) 97 false,xg 102 (.call 55 [(.t 99),(.t 101)]) 97 false,xg 103 (mv 8) 97 false,xg 104 (bi .neq 102 103) 97 false,xo 105 (.pick (.t 97) (.b true) (.t 104))])
 (cD 105
 (sq (rg [xo 2 (.mov (.b false))])
 .ret)
 .skip))))
 (rg [xo 106 (bc .add 89 1),mo 89 106])))))))
 (sq (rg [xo 2 (.mov (.b true))])
 .ret)))))))⟩
theorem qzO:trFn Tryz.prog 18 [] [[36],[69],[89]]=some qbP:=by kernel_rfl
abbrev qxG:Nat:=20
def qCH:FnI:=⟨47,[.tmp 4],
 (sq (rg [xo 2 (.box 60 (.t 0)),xo 3 (.box 60 (.t 1)),xo 4 (.mov (.b false))])
 (sq (sq (rg [fo 6 0 2,lo 7 6,fo 8 0 3,lo 9 8,xo 10 (.call 59 [(.t 7),(.t 9)]),xo 11 (.not (.t 10)),mo 12 11,xg 13 (fa 2 2) 12 false,xg 14 (lf 13) 12 false,xg 15 (fa 2 3) 12 false,xg 16 (lf 15) 12 false,xg 17 (.call 60 [(.t 14),(.t 16)]) 12 false,xg 18 (.not (.t 17)) 12 false,xo 19 (.pick (.t 12) (.b true) (.t 18)),mo 20 19,xg 21 (fa 1 2) 20 false,xg 22 (lf 21) 20 false,xg 23 (.len false (.t 22)) 20 false,xg 24 (fa 1 3) 20 false,xg 25 (lf 24) 20 false,xg 26 (.len false (.t 25)) 20 false,xg 27 (bi .neq 23 26) 20 false,xo 28 (.pick (.t 20) (.b true) (.t 27))])
 (cD 28
 (sq (rg [xo 4 (.mov (.b false))])
 .ret)
 .skip))
 (sq (sq (rg [xo 5 (.mov (ci 0))])
 (.block 0
 (.loop [5] [29,30,31,32,33,36,37,38,39,40,41,42,43,44,45,46,4,34,35,5]
 (sq (sq (rg [mo 29 5,fo 30 1 2,lo 31 30,xo 32 (.len false (.t 31)),xo 33 (bi .lss 29 32)])
 (cD 33
 .skip
 (.exit 0)))
 (sq (.block 1
 (sq (rd [] (of 0 (fo 36 1 2)
 (ot 1 (lo 37 36)
 (of 2 (mo 38 5)
 (ot 3 (xo 39 (ia 4 37 38))
 (ot 4 (xo 40 (lt 4 39))
 (of 5 (fo 41 1 3)
 (ot 6 (lo 42 41)
 (of 7 (mo 43 5)
 (ot 8 (xo 44 (ia 4 42 43))
 (ot 9 (xo 45 (lt 4 44))
 (of 10 (xo 46 (.binst true [0,1,1,0] (.t 40) (.t 45)))
 .nil))))))))))))
 (cD 46
 (sq (rg [xo 4 (.mov (.b false))])
 .ret)
 .skip)))
 (rg [mo 34 5,xo 35 (bc .add 34 1),mo 5 35]))))))
 (sq (rg [xo 4 (.mov (.b true))])
 .ret))))⟩
theorem qjG:trFn Tryz.prog 20 [([],(fs [0,1,2,3,4,5,6,7,8,9,10] .nil))] [[5]]=some qCH:=by kernel_rfl
abbrev qtG:Nat:=22
def q8G:FnI:=⟨72,[.tmp 2],
 (sq (rg [xo 1 (.box 28 (.t 0)),xo 2 (.mov (.b false))])
 (sq (sq (rg [fo 7 0 1,lo 8 7,xo 9 (bc .gtr 8 1000000)])
 (cD 9
 (sq (rg [xo 2 (.mov (.b false))])
 .ret)
 .skip))
 (sq (sq (rg [xo 3 (.mov (ci 0))])
 (.block 0
 (.loop [3] [10,11,12,13,14,17,18,19,20,21,22,23,2,15,16,3]
 (sq (sq (rg [mo 10 3,fo 11 5 1,lo 12 11,xo 13 (.len false (.t 12)),xo 14 (bi .lss 10 13)])
 (cD 14
 .skip
 (.exit 0)))
 (sq (.block 1
 (sq (rg [fo 17 5 1,lo 18 17,mo 19 3,xo 20 (ia 4 18 19),fo 21 2 20,lo 22 21,xo 23 (bc .gtr 22 1000000)])
 (cD 23
 (sq (rg [xo 2 (.mov (.b false))])
 .ret)
 .skip)))
 (rg [mo 15 3,xo 16 (bc .add 15 1),mo 3 16]))))))
 (sq (sq (rg [xo 4 (.mov (ci 0))])
 (.block 2
 (.loop [4] [24,25,26,27,28,5,31,32,33,34,35,36,37,38,39,6,42,43,44,45,46,47,48,49,50,51,52,53,54,57,58,59,60,61,62,63,64,65,66,67,68,69,70,71,2,55,56,40,41,29,30,4]
 (sq (sq (rg [mo 24 4,fo 25 4 1,lo 26 25,xo 27 (.len false (.t 26)),xo 28 (bi .lss 24 27)])
 (cD 28
 .skip
 (.exit 2)))
 (sq (.block 3
 (sq (rg [xo 5 (.mov (ci 0))])
 (.block 4
 (.loop [5] [31,32,33,34,35,36,37,38,39,6,42,43,44,45,46,47,48,49,50,51,52,53,54,57,58,59,60,61,62,63,64,65,66,67,68,69,70,71,2,55,56,40,41,5]
 (sq (sq (rg [mo 31 5,fo 32 4 1,lo 33 32,mo 34 4,xo 35 (ia 5 33 34),fo 36 3 35,lo 37 36,xo 38 (.len false (.t 37)),xo 39 (bi .lss 31 38)])
 (cD 39
 .skip
 (.exit 4)))
 (sq (.block 5
 (sq (rg [xo 6 (.mov (ci 0))])
 (.block 6
 (.loop [6] [42,43,44,45,46,47,48,49,50,51,52,53,54,57,58,59,60,61,62,63,64,65,66,67,68,69,70,71,2,55,56,6]
 (sq (sq (rg [mo 42 6,fo 43 4 1,lo 44 43,mo 45 4,xo 46 (ia 5 44 45),fo 47 3 46,lo 48 47,mo 49 5,xo 50 (ia 2 48 49),fo 51 1 50,lo 52 51,xo 53 (.len false (.t 52)),xo 54 (bi .lss 42 53)])
 (cD 54
 .skip
 (.exit 6)))
 (sq (.block 7
 (sq (rg [fo 57 4 1,lo 58 57,mo 59 4,xo 60 (ia 5 58 59),fo 61 3 60,lo 62 61,mo 63 5,xo 64 (ia 2 62 63),fo 65 1 64,lo 66 65,mo 67 6,xo 68 (ia 3 66 67),fo 69 2 68,lo 70 69,xo 71 (bc .gtr 70 1000000)])
 (cD 71
 (sq (rg [xo 2 (.mov (.b false))])
 .ret)
 .skip)))
 (rg [mo 55 6,xo 56 (bc .add 55 1),mo 6 56])))))))
 (rg [mo 40 5,xo 41 (bc .add 40 1),mo 5 41])))))))
 (rg [mo 29 4,xo 30 (bc .add 29 1),mo 4 30]))))))
 (sq (rg [xo 2 (.mov (.b true))])
 .ret)))))⟩
theorem qfG:trFn Tryz.prog 22 [] [[3],[4],[5],[6]]=some q8G:=by kernel_rfl
abbrev qbE:Nat:=23
def qiE:FnI:=⟨102,[.tmp 0],
 (sq (rg [xo 0 (.mov (.b false))])
 (sq (rg [xo 9 (.call 63 []),xo 10 (.build [(vi 0),(.v (.string ⟨#[]⟩)),(.v (.string ⟨#[]⟩)),(.v (.string ⟨#[]⟩)),(vi 0),(vi 0),(vi 0),(.v (.slice none 0 0)),(.v (.slice none 0 0)),(.v (.slice none 0 0))] [(0,1,(ci 5))]),xo 11 (.build zl0 [(0,10,(.t 10))]),xo 12 (.call 26 [(.t 9),(.t 11)]),mo 8 12,xo 13 (.ext 0 (.t 8)),xo 14 (.ext 1 (.t 8)),xo 15 (.ext 2 (.t 8)),xo 1 (.alloc 28 [(vi 0),(vi 0),(vi 0),(.v (.slice none 0 0)),(.v (.slice none 0 0)),(.v (.slice none 0 0)),(.v (.slice none 0 0)),(.v (.slice none 0 0))]),xo 2 (.alloc 41 zl0),xn (st 8 1 13),xn (st 44 2 14),mo 3 15])
 (sq (rg [xo 16 (.call 63 []),xo 4 (.alloc 28 [(vi 0),(vi 0),(vi 0),(.v (.slice none 0 0)),(.v (.slice none 0 0)),(.v (.slice none 0 0)),(.v (.slice none 0 0)),(.v (.slice none 0 0))]),xn (st 8 4 16)])
 (sq (rg [fo 17 2 4,xn (.store 1 (.t 17) (ci 1))])
 (sq (rg [xo 19 (lt 8 4),xo 20 (.build zl0 []),xo 21 (.call 26 [(.t 19),(.t 20)]),mo 18 21,xo 22 (.ext 0 (.t 18)),xo 23 (.ext 1 (.t 18)),xo 24 (.ext 2 (.t 18)),xo 5 (.alloc 28 [(vi 0),(vi 0),(vi 0),(.v (.slice none 0 0)),(.v (.slice none 0 0)),(.v (.slice none 0 0)),(.v (.slice none 0 0)),(.v (.slice none 0 0))]),xo 6 (.alloc 41 zl0),xn (st 8 5 22),xn (st 44 6 23),mo 7 24])
 (sq (sq (rg [fo 25 4 1,lo 26 25,xo 27 (.len false (.t 26)),xo 28 (bc .neq 27 2),mo 29 28,xg 30 (fa 7 1) 29 false,xg 31 (lf 30) 29 false,xg 32 (.len false (.t 31)) 29 false,xg 33 (bc .neq 32 1) 29 false,xo 34 (.pick (.t 29) (.b true) (.t 33)),mo 35 34,xg 36 (fa 5 1) 35 false,xg 37 (lf 36) 35 false,xg 38 (.len false (.t 37)) 35 false,xg 39 (bc .neq 38 1) 35 false,xo 40 (.pick (.t 35) (.b true) (.t 39))])
 (cD 40
 (sq (rg [xo 0 (.mov (.b false))])
 .ret)
 .skip))
 (sq (rg [fo 41 25 2,xo 42 (lt 13 41),xo 43 (.build zl2 [(0,1,(ci 11)),(6,1,(ci 1))]),xo 44 (.binst false [0,0,0,0,0,0,0,0,0,0,0,0,0] (.t 42) (.t 43)),mo 45 44,xg 46 (mv 3) 45 true,xg 47 (bc .eql 46 12) 45 true,xo 48 (.pick (.t 45) (.t 47) (.b false)),mo 49 48,xg 50 (fa 0 1) 49 true,xg 51 (lf 50) 49 true,xg 52 (bc .eql 51 5) 49 true,xo 53 (.pick (.t 49) (.t 52) (.b false)),mo 54 53,xg 55 (fa 4 1) 54 true,xg 56 (lf 55) 54 true,xg 57 (.iadr 5 (.t 56) (ci 0)) 54 true,xg 58 (fa 4 57) 54 true,xg 59 (lf 58) 54 true,xo 60 (.pick (.t 54) (.t 59) (.b false)),mo 61 60,xg 62 (fa 7 1) 61 true,xg 63 (lf 62) 61 true,xg 64 (.iadr 3 (.t 63) (ci 0)) 61 true,xg 65 (fa 2 64) 61 true,xg 66 (lf 65) 61 true,xo 67 (.pick (.t 61) (.t 66) (.b false)),mo 68 67,xg 69 (fa 5 1) 68 true,xg 70 (lf 69) 68 true,xg 71 (.iadr 4 (.t 70) (ci 0)) 68 true,xg 72 (fa 3 71) 68 true,xg 73 (lf 72) 68 true,xo 74 (.pick (.t 68) (.t 73) (.b false)),mo 75 74,xg 76 (fa 2 1) 75 true,xg 77 (lf 76) 75 true,xg 78 (bc .eql 77 0) 75 true,xo 79 (.pick (.t 75) (.t 78) (.b false)),mo 80 79,xg 81 (fa 25 6) 80 true,xg 82 (lt 13 81) 80 true,xg 83 (.build zl2 [(0,1,(ci 12))]) 80 true,xg 84 (.binst false [0,0,0,0,0,0,0,0,0,0,0,0,0] (.t 82) (.t 83)) 80 true,xo 85 (.pick (.t 80) (.t 84) (.b false)),mo 86 85,xg 87 (mv 7) 86 true,xg 88 (bc .eql 87 1) 86 true,xo 89 (.pick (.t 86) (.t 88) (.b false)),mo 90 89,xg 91 (lt 8 1) 90 true,xg 92 (.call 18 [(.t 91)]) 90 true,xo 93 (.pick (.t 90) (.t 92) (.b false)),mo 94 93,xg 95 (fa 4 4) 94 true,xg 96 (lf 95) 94 true,xg 97 (.iadr 5 (.t 96) (ci 0)) 94 true,xg 98 (lt 5 97) 94 true,xg 99 (.call 64 [(.t 98)]) 94 true,xg 100 (bc .eql 99 2) 94 true,xo 101 (.pick (.t 94) (.t 100) (.b false)),mo 0 101])
 .ret)))))))⟩
theorem qPE:trFn Tryz.prog 23 [] []=some qiE:=by kernel_rfl
abbrev qNA:Nat:=24
def qJK:FnI:=⟨68,[.cell 4 8 true,.cell 5 44 true,.cell 6 23 true],
 (sq (rg [xo 2 (.box 28 (.t 0)),xo 3 (.box 41 (.t 1)),xo 4 (.alloc 28 [(vi 0),(vi 0),(vi 0),(.v (.slice none 0 0)),(.v (.slice none 0 0)),(.v (.slice none 0 0)),(.v (.slice none 0 0)),(.v (.slice none 0 0))]),xo 5 (.alloc 41 zl0),xo 6 (.alloc 45 zl1)])
 (sq (sq (rg [xo 13 (lt 8 2),xo 14 (lt 44 3),xo 15 (.call 16 [(.t 13),(.t 14)]),xo 16 (.not (.t 15)),mo 17 16,xg 18 (lt 8 2) 17 false,xg 19 (lt 44 3) 17 false,xg 20 (.call 65 [(.t 18),(.t 19)]) 17 false,xg 21 (.not (.t 20)) 17 false,xo 22 (.pick (.t 17) (.b true) (.t 21))])
 (cD 22
 (sq (rd [] (ot 0 (xo 23 (lt 8 2))
 (of 2 (xo 25 (.build zl1 []))
 (ot 1 (xo 24 (lt 44 3))
 (.op ⟨3,false,[1],xn (st 8 4 23)⟩
 (of 4 (xn (st 44 5 24))
 (of 5 (xn (st 23 6 25))
 .nil)))))))
 .ret)
 .skip))
 (sq (rd [7,8] (ot 0 (xo 26 (lt 8 2))
 (ot 2 (xo 28 (lt 44 3))
 (of 1 (xo 27 (.call 25 [(.t 26)]))
 (.bring ⟨3,false,[],xo 7 (.alloc 28 [(vi 0),(vi 0),(vi 0),(.v (.slice none 0 0)),(.v (.slice none 0 0)),(.v (.slice none 0 0)),(.v (.slice none 0 0)),(.v (.slice none 0 0))])⟩
 (.bring ⟨4,false,[],xo 8 (.alloc 41 zl0)⟩
 (.op ⟨5,false,[2],xn (st 8 7 27)⟩
 (of 6 (xn (st 44 8 28))
 .nil))))))))
 (sq (rg [xo 29 (.build [(.v (.pointer none)),(.v (.pointer none))] [(0,1,(.t 7)),(1,1,(.t 8))]),xo 9 (.alloc 127 [(.v (.pointer none)),(.v (.pointer none))]),xn (st 2 9 29)])
 (sq (rg [xo 31 (.mkm .i64),xo 32 (lt 2 9),xo 33 (.mkf (.func 66) [(.t 32)] []),xn (.mup .i64 (.t 31) (ci 0) (.t 33)),xo 34 (lt 2 9),xo 35 (.mkf (.func 67) [(.t 34)] []),xn (.mup .i64 (.t 31) (ci 1) (.t 35)),xo 36 (lt 2 9),xo 37 (.mkf (.func 68) [(.t 36)] []),xn (.mup .i64 (.t 31) (ci 2) (.t 37)),xo 38 (lt 2 9),xo 39 (.mkf (.func 69) [(.t 38)] []),xn (.mup .i64 (.t 31) (ci 3) (.t 39)),xo 40 (lt 2 9),xo 41 (.mkf (.func 70) [(.t 40)] []),xn (.mup .i64 (.t 31) (ci 4) (.t 41)),xo 42 (lt 2 9),xo 43 (.mkf (.func 71) [(.t 42)] []),xn (.mup .i64 (.t 31) (ci 5) (.t 43)),xo 44 (lt 2 9),xo 45 (.mkf (.func 72) [(.t 44)] []),xn (.mup .i64 (.t 31) (ci 6) (.t 45)),xo 46 (lt 2 9),xo 47 (.mkf (.func 73) [(.t 46)] []),xn (.mup .i64 (.t 31) (ci 8) (.t 47)),xo 48 (lt 2 9),xo 49 (.mkf (.func 74) [(.t 48)] []),xn (.mup .i64 (.t 31) (ci 9) (.t 49)),xo 50 (lt 2 9),xo 51 (.mkf (.func 75) [(.t 50)] []),xn (.mup .i64 (.t 31) (ci 10) (.t 51)),mo 52 31,fo 53 11 3,lo 54 53,xo 55 (.look .i64 .nilFunc true (.t 52) (.t 54)),mo 30 55,xo 56 (.ext 0 (.t 30)),xo 57 (.ext 1 (.t 30)),mo 10 56,mo 11 57])
 (sq (sq (rg [mo 58 11,xo 59 (.not (.t 58))])
 (cD 59
 (sq (rd [] (ot 0 (xo 60 (lt 8 2))
 (of 2 (xo 62 (.build zl1 []))
 (ot 1 (xo 61 (lt 44 3))
 (.op ⟨3,false,[1],xn (st 8 4 60)⟩
 (of 4 (xn (st 44 5 61))
 (of 5 (xn (st 23 6 62))
 .nil)))))))
 .ret)
 .skip))
 (sq (rg [mo 63 10,xo 64 (.callv (.t 63) []),xo 12 (.alloc 45 zl1),xn (st 23 12 64)])
 (sq (rd [] (ot 0 (xo 65 (lt 8 7))
 (ot 1 (xo 66 (lt 44 8))
 (ot 2 (xo 67 (lt 23 12))
 (.op ⟨3,false,[2,1],xn (st 8 4 65)⟩
 (.op ⟨4,false,[2],xn (st 44 5 66)⟩
 (of 5 (xn (st 23 6 67))
 .nil)))))))
 .ret))))))))⟩
theorem qQA:trFn Tryz.prog 24 [([],(fs [0,2,1] (.exec 3 (.exec 4 (.exec 5 .nil))))),([3,4],(.first 0 (.first 2 (.exec 1 (.bring 3 (.bring 4 (.exec 5 (.exec 6 .nil)))))))),([],(fs [0,2,1] (.exec 3 (.exec 4 (.exec 5 .nil))))),([],(fs [0,1,2] (.exec 3 (.exec 4 (.exec 5 .nil)))))] []=some qJK:=by kernel_rfl
abbrev qML:Nat:=25
def qhL:FnI:=⟨28,[.cell 2 8 true],
 (sq (rg [xo 1 (.box 28 (.t 0)),xo 2 (.alloc 28 [(vi 0),(vi 0),(vi 0),(.v (.slice none 0 0)),(.v (.slice none 0 0)),(.v (.slice none 0 0)),(.v (.slice none 0 0)),(.v (.slice none 0 0))])])
 (sq (rg [xo 4 (.build [] []),xo 3 (.alloc 132 []),xn (st 0 3 4)])
 (sq (rg [fo 5 3 1,lo 6 5,xo 7 (.call 76 [(.t 6)]),fo 8 3 1,xn (st 1 8 7)])
 (sq (rg [fo 9 4 1,lo 10 9,xo 11 (lt 0 3),xo 12 (.call 77 [(.t 10),(.c (.func (.func 78) #[] #[])),(.t 11)]),fo 13 4 1,xn (st 1 13 12)])
 (sq (rg [fo 14 5 1,lo 15 14,xo 16 (.call 79 [(.t 15)]),fo 17 5 1,xn (st 1 17 16)])
 (sq (rg [fo 18 6 1,lo 19 18,xo 20 (lt 0 3),xo 21 (.call 80 [(.t 19),(.c (.func (.func 81) #[] #[])),(.t 20)]),fo 22 6 1,xn (st 1 22 21)])
 (sq (rg [fo 23 7 1,lo 24 23,xo 25 (.call 82 [(.t 24)]),fo 26 7 1,xn (st 1 26 25)])
 (sq (rg [xo 27 (lt 8 1),xn (st 8 2 27)])
 .ret))))))))⟩
theorem qtK:trFn Tryz.prog 25 [] []=some qhL:=by kernel_rfl
abbrev qGG:Nat:=26
def qMG:FnI:=⟨38,[.cell 4 8 true,.cell 5 44 true,.tmp 6],
 (sq (rg [xo 2 (.box 28 (.t 0)),xo 3 (.box 41 (.t 1)),xo 4 (.alloc 28 [(vi 0),(vi 0),(vi 0),(.v (.slice none 0 0)),(.v (.slice none 0 0)),(.v (.slice none 0 0)),(.v (.slice none 0 0)),(.v (.slice none 0 0))]),xo 5 (.alloc 41 zl0),xo 6 (.mov (ci 0))])
 (sq (rg [xo 7 (.mov (ci 0))])
 (sq (.block 0
 (.loop [7] [11,12,13,14,15,16,17,19,20,21,18,22,23,24,8,9,10,25,26,27,28,30,29,6,31,32,33,34,7]
 (sq (sq (rg [mo 11 7,xo 12 (bc .lss 11 3000),mo 13 12,xg 14 (fa 24 3) 13 true,xg 15 (lf 14) 13 true,xg 16 (.not (.t 15)) 13 true,xo 17 (.pick (.t 13) (.t 16) (.b false))])
 (cD 17
 .skip
 (.exit 0)))
 (.block 1
 (sq (rg [xo 19 (lt 8 2),xo 20 (lt 44 3),xo 21 (.call 24 [(.t 19),(.t 20)]),mo 18 21,xo 22 (.ext 0 (.t 18)),xo 23 (.ext 1 (.t 18)),xo 24 (.ext 2 (.t 18)),xo 8 (.alloc 28 [(vi 0),(vi 0),(vi 0),(.v (.slice none 0 0)),(.v (.slice none 0 0)),(.v (.slice none 0 0)),(.v (.slice none 0 0)),(.v (.slice none 0 0))]),xo 9 (.alloc 41 zl0),xo 10 (.alloc 45 zl1),xn (st 8 8 22),xn (st 44 9 23),xn (st 23 10 24)])
 (sq (sq (rg [fo 25 2 10,lo 26 25,xo 27 (bc .eql 26 0)])
 (cD 27
 (sq (rd [] (ot 0 (xo 28 (lt 8 2))
 (of 2 (mo 30 7)
 (ot 1 (xo 29 (lt 44 3))
 (.op ⟨3,false,[1],xn (st 8 4 28)⟩
 (of 4 (xn (st 44 5 29))
 (of 5 (mo 6 30)
 .nil)))))))
 .ret)
 .skip))
 (sq (rg [xo 31 (lt 8 8),xn (st 8 2 31)])
 (sq (rg [xo 32 (lt 44 9),xn (st 44 3 32)])
 (rg [mo 33 7,xo 34 (bc .add 33 1),mo 7 34])))))))))
 (sq (rd [] (ot 0 (xo 35 (lt 8 2))
 (of 2 (mo 37 7)
 (ot 1 (xo 36 (lt 44 3))
 (.op ⟨3,false,[1],xn (st 8 4 35)⟩
 (of 4 (xn (st 44 5 36))
 (of 5 (mo 6 37)
 .nil)))))))
 .ret))))⟩
theorem qAG:trFn Tryz.prog 26 [([],(fs [0,2,1] (.exec 3 (.exec 4 (.first 5 .nil))))),([],(fs [0,2,1] (.exec 3 (.exec 4 (.first 5 .nil)))))] [[7]]=some qMG:=by kernel_rfl
abbrev qUL:Nat:=27
def qnL:FnI:=⟨9,[.tmp 4],
 (sq (rg [xo 2 (.box 3 (.t 0)),xo 4 (.mov (.b false))])
 (sq (rg [xo 5 (.mkf (.func 84) [] [(.t 2)]),mo 6 1,xo 7 (.call 83 [(.t 5),(.t 6)]),xo 8 (.not (.t 7)),mo 4 8])
 .ret))⟩
theorem q2K:trFn Tryz.prog 27 [] []=some qnL:=by kernel_rfl
abbrev qfM:Nat:=28
def q2M:FnI:=⟨15,[.tmp 4],
 (sq (rg [xo 4 (.mov (ci 0))])
 (sq (sq (rg [mo 5 0,xo 6 (bc .lss 5 9223372036854775807),mo 7 6,xg 8 (mv 0) 7 true,xg 9 (mv 1) 7 true,xg 10 (.call 85 [(.t 8),(.t 9)]) 7 true,xo 11 (.pick (.t 7) (.t 10) (.b false))])
 (cD 11
 (rg [mo 12 0,xo 13 (bc .add 12 1),mo 0 13])
 .skip))
 (sq (rg [mo 14 0,mo 4 14])
 .ret)))⟩
theorem q8L:trFn Tryz.prog 28 [] []=some q2M:=by kernel_rfl
abbrev q2N:Nat:=29
def qJO:FnI:=⟨30,[.tmp 4],
 (sq (rg [xo 4 (.mov (.c (.slice none 0 0)))])
 (sq (rg [xo 5 (.mov (.c (.slice none 0 0)))])
 (sq (sq (rg [mo 8 0,xo 9 (.len false (.t 8)),xo 10 (.mov (ci 0))])
 (.block 0
 (.loop [5,10] [11,12,13,14,7,6,15,16,17,18,19,20,21,22,23,24,25,26,27,5,28,10]
 (sq (rg [xo 11 (bi .lss 10 9)])
 (sq (cD 11
 .skip
 (.exit 0))
 (sq (.block 1
 (sq (rg [mo 12 10,xo 13 (ia 3 8 10),xo 14 (lt 3 13),xo 7 (.alloc 56 [(vi 0),(vi 0),(.v (.bool false))]),mo 6 12,xn (st 3 7 14)])
 (sq (rg [fo 15 2 7,lo 16 15,xo 17 (.not (.t 16)),mo 18 17,xg 19 (fa 1 7) 18 true,xg 20 (lf 19) 18 true,xg 21 (mv 1) 18 true,xg 22 (.call 86 [(.t 20),(.t 21)]) 18 true,xo 23 (.pick (.t 18) (.t 22) (.b false))])
 (cD 23
 (rg [mo 24 5,mo 25 6,xo 26 (.bsl 3 1 1 [(vi 0)] [(0,1,(.t 25))]),xo 27 (.app 3 1 8 (.t 24) (.t 26)),mo 5 27])
 .skip))))
 (rg [xo 28 (bc .add 10 1),mo 10 28])))))))
 (sq (rg [mo 29 5,mo 4 29])
 .ret))))⟩
theorem qYN:trFn Tryz.prog 29 [] [[5,10]]=some qJO:=by kernel_rfl
abbrev qGB:Nat:=30
def qDH:FnI:=⟨34,[.tmp 2],
 (sq (rg [xo 1 (.box 67 (.t 0)),xo 2 (.mov (.b false))])
 (sq (sq (rg [xo 3 (.mov (ci 0))])
 (.block 0
 (.loop [3] [5,6,7,8,9,4,12,13,14,15,16,17,18,19,20,23,24,25,26,27,28,29,30,31,32,33,2,21,22,10,11,3]
 (sq (sq (rg [mo 5 3,fo 6 3 1,lo 7 6,xo 8 (.len false (.t 7)),xo 9 (bi .lss 5 8)])
 (cD 9
 .skip
 (.exit 0)))
 (sq (.block 1
 (sq (rg [xo 4 (.mov (ci 0))])
 (.block 2
 (.loop [4] [12,13,14,15,16,17,18,19,20,23,24,25,26,27,28,29,30,31,32,33,2,21,22,4]
 (sq (sq (rg [mo 12 4,fo 13 3 1,lo 14 13,mo 15 3,xo 16 (ia 2 14 15),fo 17 1 16,lo 18 17,xo 19 (.len false (.t 18)),xo 20 (bi .lss 12 19)])
 (cD 20
 .skip
 (.exit 2)))
 (sq (.block 3
 (sq (rg [fo 23 3 1,lo 24 23,mo 25 3,xo 26 (ia 2 24 25),fo 27 1 26,lo 28 27,mo 29 4,xo 30 (ia 3 28 29),fo 31 2 30,lo 32 31,xo 33 (bc .neq 32 0)])
 (cD 33
 (sq (rg [xo 2 (.mov (.b false))])
 .ret)
 .skip)))
 (rg [mo 21 4,xo 22 (bc .add 21 1),mo 4 22])))))))
 (rg [mo 10 3,xo 11 (bc .add 10 1),mo 3 11]))))))
 (sq (rg [xo 2 (.mov (.b true))])
 .ret)))⟩
theorem qkG:trFn Tryz.prog 30 [] [[3],[4]]=some qDH:=by kernel_rfl
abbrev qfH:Nat:=31
def qmL:FnI:=⟨21,[.cell 2 4 true,.tmp 3],
 (sq (rg [xo 1 (.box 77 (.t 0)),xo 2 (.alloc 77 [(.v (.string ⟨#[]⟩)),(.v (.bool false)),(vi 0),(.v (.bool false))]),xo 3 (.mov (.b false))])
 (sq (rg [xo 6 (lt 4 1),xo 7 (.build [(.v (.string ⟨#[]⟩)),(.v (.bool false)),(vi 0),(.v (.bool false))] [(0,4,(.t 6))]),xo 4 (.alloc 146 [(.v (.string ⟨#[]⟩)),(.v (.bool false)),(vi 0),(.v (.bool false))]),xn (st 4 4 7)])
 (sq (rg [xo 8 (lt 4 4),xo 9 (.call 87 [(.t 8)]),mo 5 9])
 (sq (rg [fo 10 0 4,fo 11 3 10,lo 12 11,mo 13 12,xg 14 (mv 5) 13 false,xo 15 (.pick (.t 13) (.b true) (.t 14)),fo 16 0 4,fo 17 3 16,xn (st 1 17 15)])
 (sq (rg [fo 18 0 4,xo 19 (lt 4 18),mo 20 5,xn (st 4 2 19),mo 3 20])
 .ret)))))⟩
theorem q1K:trFn Tryz.prog 31 [] []=some qmL:=by kernel_rfl
abbrev qcH:Nat:=32
def qqH:FnI:=⟨24,[.tmp 2],
 (sq (rg [xo 2 (.mov (.b false))])
 (sq (sq (rg [xo 3 (.mov (ci 0))])
 (.block 0
 (.loop [3] [4,5,6,7,8,9,10,11,12,15,16,17,18,19,20,2,13,14,3]
 (sq (sq (rg [mo 4 3,mo 5 0,xo 6 (.len false (.t 5)),xo 7 (bi .lss 4 6),mo 8 7,xg 9 (mv 0) 8 true,xg 10 (.len false (.t 9)) 8 true,xg 11 (bc .leq 10 50) 8 true,xo 12 (.pick (.t 8) (.t 11) (.b false))])
 (cD 12
 .skip
 (.exit 0)))
 (sq (.block 1
 (sq (rg [mo 15 0,mo 16 3,xo 17 (ia 1 15 16),lo 18 17,xo 19 (.len false (.t 18)),xo 20 (bc .gtr 19 50)])
 (cD 20
 (sq (rg [xo 2 (.mov (.b true))])
 .ret)
 .skip)))
 (rg [mo 13 3,xo 14 (bc .add 13 1),mo 3 14]))))))
 (sq (rg [mo 21 0,xo 22 (.len false (.t 21)),xo 23 (bc .gtr 22 50),mo 2 23])
 .ret)))⟩
theorem qNH:trFn Tryz.prog 32 [] [[3]]=some qqH:=by kernel_rfl
abbrev qLF:Nat:=33
def qMF:FnI:=⟨44,[.tmp 2],
 (sq (rg [xo 1 (.box 60 (.t 0)),xo 2 (.mov (.b false))])
 (sq (sq (rg [fo 4 0 1,lo 5 4,xo 6 (.len false (.t 5)),xo 7 (bc .gtr 6 20),mo 8 7,xg 9 (fa 2 1) 8 false,xg 10 (lf 9) 8 false,xg 11 (.len false (.t 10)) 8 false,xg 12 (bc .gtr 11 20) 8 false,xo 13 (.pick (.t 8) (.b true) (.t 12)),mo 14 13,xg 15 (fa 1 1) 14 false,xg 16 (lf 15) 14 false,xg 17 (.call 88 [(.t 16)]) 14 false,xo 18 (.pick (.t 14) (.b true) (.t 17))])
 (cD 18
 (sq (rg [xo 2 (.mov (.b true))])
 .ret)
 .skip))
 (sq (sq (rg [xo 3 (.mov (ci 0))])
 (.block 0
 (.loop [3] [19,20,21,22,23,26,27,28,29,30,31,32,33,34,35,36,37,38,39,40,41,42,43,2,24,25,3]
 (sq (sq (rg [mo 19 3,fo 20 2 1,lo 21 20,xo 22 (.len false (.t 21)),xo 23 (bi .lss 19 22)])
 (cD 23
 .skip
 (.exit 0)))
 (sq (.block 1
 (sq (rg [fo 26 2 1,lo 27 26,mo 28 3,xo 29 (ia 4 27 28),fo 30 3 29,lo 31 30,xo 32 (.len false (.t 31)),xo 33 (bc .gtr 32 20),mo 34 33,xg 35 (fa 2 1) 34 false,xg 36 (lf 35) 34 false,xg 37 (mv 3) 34 false,xg 38 (ia 4 36 37) 34 false,xg 39 (fa 0 38) 34 false,xg 40 (lf 39) 34 false,xg 41 (.len true (.t 40)) 34 false,xg 42 (bc .gtr 41 100) 34 false,xo 43 (.pick (.t 34) (.b true) (.t 42))])
 (cD 43
 (sq (rg [xo 2 (.mov (.b true))])
 .ret)
 .skip)))
 (rg [mo 24 3,xo 25 (bc .add 24 1),mo 3 25]))))))
 (sq (rg [xo 2 (.mov (.b false))])
 .ret))))⟩
theorem qJF:trFn Tryz.prog 33 [] [[3]]=some qMF:=by kernel_rfl
abbrev q1E:Nat:=45
def qAF:FnI:=⟨26,[.tmp 4],
 (sq (rg [xo 4 (.mov (.b false))])
 (sq (sq (rg [mo 6 0,xo 7 (.len false (.t 6)),mo 8 1,xo 9 (.len false (.t 8)),xo 10 (bi .neq 7 9)])
 (cD 10
 (sq (rg [xo 4 (.mov (.b false))])
 .ret)
 .skip))
 (sq (sq (rg [xo 5 (.mov (ci 0))])
 (.block 0
 (.loop [5] [11,12,13,14,17,18,19,20,21,22,23,24,25,4,15,16,5]
 (sq (sq (rg [mo 11 5,mo 12 0,xo 13 (.len false (.t 12)),xo 14 (bi .lss 11 13)])
 (cD 14
 .skip
 (.exit 0)))
 (sq (.block 1
 (sq (rd [] (of 0 (mo 17 0)
 (of 1 (mo 18 5)
 (ot 2 (xo 19 (ia 1 17 18))
 (ot 3 (lo 20 19)
 (of 4 (mo 21 1)
 (of 5 (mo 22 5)
 (ot 6 (xo 23 (ia 1 21 22))
 (ot 7 (lo 24 23)
 (of 8 (xo 25 (bi .neq 20 24))
 .nil))))))))))
 (cD 25
 (sq (rg [xo 4 (.mov (.b false))])
 .ret)
 .skip)))
 (rg [mo 15 5,xo 16 (bc .add 15 1),mo 5 16]))))))
 (sq (rg [xo 4 (.mov (.b true))])
 .ret))))⟩
theorem qrE:trFn Tryz.prog 45 [([],(fs [0,1,2,3,4,5,6,7,8] .nil))] [[5]]=some qAF:=by kernel_rfl
abbrev qwG:Nat:=46
def qBH:FnI:=⟨53,[.tmp 4],
 (sq (rg [xo 4 (.mov (.b false))])
 (sq (sq (rg [mo 7 0,xo 8 (.len false (.t 7)),mo 9 1,xo 10 (.len false (.t 9)),xo 11 (bi .neq 8 10)])
 (cD 11
 (sq (rg [xo 4 (.mov (.b false))])
 .ret)
 .skip))
 (sq (sq (rg [xo 5 (.mov (ci 0))])
 (.block 0
 (.loop [5] [12,13,14,15,18,19,20,21,22,23,24,25,26,27,28,4,6,29,30,31,32,33,34,35,38,39,40,41,42,43,44,45,46,47,48,49,50,51,52,36,37,16,17,5]
 (sq (sq (rg [mo 12 5,mo 13 0,xo 14 (.len false (.t 13)),xo 15 (bi .lss 12 14)])
 (cD 15
 .skip
 (.exit 0)))
 (sq (.block 1
 (sq (sq (rd [] (of 0 (mo 18 0)
 (of 1 (mo 19 5)
 (ot 2 (xo 20 (ia 1 18 19))
 (ot 3 (lo 21 20)
 (of 4 (xo 22 (.len false (.t 21)))
 (of 5 (mo 23 1)
 (of 6 (mo 24 5)
 (ot 7 (xo 25 (ia 1 23 24))
 (ot 8 (lo 26 25)
 (of 9 (xo 27 (.len false (.t 26)))
 (of 10 (xo 28 (bi .neq 22 27))
 .nil))))))))))))
 (cD 28
 (sq (rg [xo 4 (.mov (.b false))])
 .ret)
 .skip))
 (sq (rg [xo 6 (.mov (ci 0))])
 (.block 2
 (.loop [6] [29,30,31,32,33,34,35,38,39,40,41,42,43,44,45,46,47,48,49,50,51,52,4,36,37,6]
 (sq (sq (rg [mo 29 6,mo 30 0,mo 31 5,xo 32 (ia 1 30 31),lo 33 32,xo 34 (.len false (.t 33)),xo 35 (bi .lss 29 34)])
 (cD 35
 .skip
 (.exit 2)))
 (sq (.block 3
 (sq (rd [] (of 0 (mo 38 0)
 (of 1 (mo 39 5)
 (ot 2 (xo 40 (ia 1 38 39))
 (ot 3 (lo 41 40)
 (of 4 (mo 42 6)
 (ot 5 (xo 43 (ia 1 41 42))
 (ot 6 (lo 44 43)
 (of 7 (mo 45 1)
 (of 8 (mo 46 5)
 (ot 9 (xo 47 (ia 1 45 46))
 (ot 10 (lo 48 47)
 (of 11 (mo 49 6)
 (ot 12 (xo 50 (ia 1 48 49))
 (ot 13 (lo 51 50)
 (of 14 (xo 52 (bi .neq 44 51))
 .nil))))))))))))))))
 (cD 52
 (sq (rg [xo 4 (.mov (.b false))])
 .ret)
 .skip)))
 (rg [mo 36 6,xo 37 (bc .add 36 1),mo 6 37]))))))))
 (rg [mo 16 5,xo 17 (bc .add 16 1),mo 5 17]))))))
 (sq (rg [xo 4 (.mov (.b true))])
 .ret))))⟩
theorem qiG:trFn Tryz.prog 46 [([],(fs [0,1,2,3,4,5,6,7,8,9,10] .nil)),([],(fs [0,1,2,3,4,5,6,7,8,9,10,11,12,13,14] .nil))] [[5],[6]]=some qBH:=by kernel_rfl
abbrev quG:Nat:=47
def q9G:FnI:=⟨26,[.tmp 4],
 (sq (rg [xo 4 (.mov (.b false))])
 (sq (sq (rg [mo 6 0,xo 7 (.len false (.t 6)),mo 8 1,xo 9 (.len false (.t 8)),xo 10 (bi .neq 7 9)])
 (cD 10
 (sq (rg [xo 4 (.mov (.b false))])
 .ret)
 .skip))
 (sq (sq (rg [xo 5 (.mov (ci 0))])
 (.block 0
 (.loop [5] [11,12,13,14,17,18,19,20,21,22,23,24,25,4,15,16,5]
 (sq (sq (rg [mo 11 5,mo 12 0,xo 13 (.len false (.t 12)),xo 14 (bi .lss 11 13)])
 (cD 14
 .skip
 (.exit 0)))
 (sq (.block 1
 (sq (rd [] (of 0 (mo 17 0)
 (of 1 (mo 18 5)
 (ot 2 (xo 19 (ia 3 17 18))
 (ot 3 (xo 20 (lt 3 19))
 (of 4 (mo 21 1)
 (of 5 (mo 22 5)
 (ot 6 (xo 23 (ia 3 21 22))
 (ot 7 (xo 24 (lt 3 23))
 (of 8 (xo 25 (.binst true [0,0,2] (.t 20) (.t 24)))
 .nil))))))))))
 (cD 25
 (sq (rg [xo 4 (.mov (.b false))])
 .ret)
 .skip)))
 (rg [mo 15 5,xo 16 (bc .add 15 1),mo 5 16]))))))
 (sq (rg [xo 4 (.mov (.b true))])
 .ret))))⟩
theorem qgG:trFn Tryz.prog 47 [([],(fs [0,1,2,3,4,5,6,7,8] .nil))] [[5]]=some q9G:=by kernel_rfl
abbrev qZD:Nat:=48
def qdD:FnI:=⟨97,[.tmp 4],
 (sq (rg [xo 2 (.box 67 (.t 0)),xo 3 (.box 67 (.t 1)),xo 4 (.mov (.b false))])
 (sq (sq (rg [fo 7 0 2,xo 8 (lt 3 7),fo 9 0 3,xo 10 (lt 3 9),xo 11 (.call 20 [(.t 8),(.t 10)]),xo 12 (.not (.t 11)),mo 13 12,xg 14 (fa 4 2) 13 false,xg 15 (lf 14) 13 false,xg 16 (fa 4 3) 13 false,xg 17 (lf 16) 13 false,xg 18 (.binb true (.t 15) (.t 17)) 13 false,xo 19 (.pick (.t 13) (.b true) (.t 18)),mo 20 19,xg 21 (fa 3 2) 20 false,xg 22 (lf 21) 20 false,xg 23 (.len false (.t 22)) 20 false,xg 24 (fa 3 3) 20 false,xg 25 (lf 24) 20 false,xg 26 (.len false (.t 25)) 20 false,xg 27 (bi .neq 23 26) 20 false,xo 28 (.pick (.t 20) (.b true) (.t 27))])
 (cD 28
 (sq (rg [xo 4 (.mov (.b false))])
 .ret)
 .skip))
 (sq (sq (rg [xo 5 (.mov (ci 0))])
 (.block 0
 (.loop [5] [29,30,31,32,33,36,37,38,39,40,41,42,43,44,45,46,47,48,49,50,51,52,53,54,55,56,57,58,59,60,61,62,63,64,65,4,6,66,67,68,69,70,71,72,73,74,77,78,79,80,81,82,83,84,85,86,87,88,89,90,91,92,93,94,95,96,75,76,34,35,5]
 (sq (sq (rg [mo 29 5,fo 30 3 2,lo 31 30,xo 32 (.len false (.t 31)),xo 33 (bi .lss 29 32)])
 (cD 33
 .skip
 (.exit 0)))
 (sq (.block 1
 (sq (sq (rd [] (of 0 (fo 36 3 2)
 (ot 1 (lo 37 36)
 (of 2 (mo 38 5)
 (ot 3 (xo 39 (ia 2 37 38))
 (of 4 (fo 40 0 39)
 (ot 5 (lo 41 40)
 (of 6 (fo 42 3 3)
 (ot 7 (lo 43 42)
 (of 8 (mo 44 5)
 (ot 9 (xo 45 (ia 2 43 44))
 (of 10 (fo 46 0 45)
 (ot 11 (lo 47 46)
 (of 12 (xo 48 (bi .neq 41 47))
 (of 13 (mo 49 48)
 (of 14 (xg 50 (fa 3 2) 49 false)
 (ot 15 (xg 51 (lf 50) 49 false)
 (of 16 (xg 52 (mv 5) 49 false)
 (ot 17 (xg 53 (ia 2 51 52) 49 false)
 (of 18 (xg 54 (fa 1 53) 49 false)
 (ot 19 (xg 55 (lf 54) 49 false)
 (of 20 (xg 56 (.len false (.t 55)) 49 false)
 (of 21 (xg 57 (fa 3 3) 49 false)
 (ot 22 (xg 58 (lf 57) 49 false)
 (of 23 (xg 59 (mv 5) 49 false)
 (ot 24 (xg 60 (ia 2 58 59) 49 false)
 (of 25 (xg 61 (fa 1 60) 49 false)
 (ot 26 (xg 62 (lf 61) 49 false)
 (of 27 (xg 63 (.len false (.t 62)) 49 false)
 (of 28 (xg 64 (bi .neq 56 63) 49 false)
 (of 29 (xo 65 (.pick (.t 49) (.b true) (.t 64)))
 .nil)))))))))))))))))))))))))))))))
 (cD 65
 (sq (rg [xo 4 (.mov (.b false))])
 .ret)
 .skip))
 (sq (rg [xo 6 (.mov (ci 0))])
 (.block 2
 (.loop [6] [66,67,68,69,70,71,72,73,74,77,78,79,80,81,82,83,84,85,86,87,88,89,90,91,92,93,94,95,96,4,75,76,6]
 (sq (sq (rg [mo 66 6,fo 67 3 2,lo 68 67,mo 69 5,xo 70 (ia 2 68 69),fo 71 1 70,lo 72 71,xo 73 (.len false (.t 72)),xo 74 (bi .lss 66 73)])
 (cD 74
 .skip
 (.exit 2)))
 (sq (.block 3
 (sq (rd [] (of 0 (fo 77 3 2)
 (ot 1 (lo 78 77)
 (of 2 (mo 79 5)
 (ot 3 (xo 80 (ia 2 78 79))
 (of 4 (fo 81 1 80)
 (ot 5 (lo 82 81)
 (of 6 (mo 83 6)
 (ot 7 (xo 84 (ia 3 82 83))
 (ot 8 (xo 85 (lt 3 84))
 (of 9 (fo 86 3 3)
 (ot 10 (lo 87 86)
 (of 11 (mo 88 5)
 (ot 12 (xo 89 (ia 2 87 88))
 (of 13 (fo 90 1 89)
 (ot 14 (lo 91 90)
 (of 15 (mo 92 6)
 (ot 16 (xo 93 (ia 3 91 92))
 (ot 17 (xo 94 (lt 3 93))
 (of 18 (xo 95 (.call 98 [(.t 85),(.t 94)]))
 (of 19 (xo 96 (.not (.t 95)))
 .nil)))))))))))))))))))))
 (cD 96
 (sq (rg [xo 4 (.mov (.b false))])
 .ret)
 .skip)))
 (rg [mo 75 6,xo 76 (bc .add 75 1),mo 6 76]))))))))
 (rg [mo 34 5,xo 35 (bc .add 34 1),mo 5 35]))))))
 (sq (rg [xo 4 (.mov (.b true))])
 .ret))))⟩
theorem qTD:trFn Tryz.prog 48 [([],(fs [0,1,2,3,4,5,6,7,8,9,10,11,12,13,14,15,16,17,18,19,20,21,22,23,24,25,26,27,28,29] .nil)),([],(fs [0,1,2,3,4,5,6,7,8,9,10,11,12,13,14,15,16,17] (.exec 18 (.first 19 .nil))))] [[5],[6]]=some qdD:=by kernel_rfl
abbrev qaR:Nat:=50
def qqR:FnI:=⟨12,[.tmp 4],
 (sq (rg [xo 4 (.mov (.b false))])
 (sq (rg [mo 5 0,xo 6 (bc .geq 5 0),mo 7 6,xg 8 (mv 0) 7 true,xg 9 (mv 1) 7 true,xg 10 (bi .lss 8 9) 7 true,xo 11 (.pick (.t 7) (.t 10) (.b false)),mo 4 11])
 .ret))⟩
theorem q9Q:trFn Tryz.prog 50 [] []=some qqR:=by kernel_rfl
abbrev qAK:Nat:=51
def qEK:FnI:=⟨51,[.tmp 2],
 (sq (rg [xo 1 (.box 28 (.t 0)),xo 2 (.mov (.b false))])
 (sq (rg [fo 4 3 1,lo 5 4,xo 6 (.len false (.t 5)),mo 3 6])
 (sq (sq (rg [mo 7 3,xo 8 (bc .lss 7 1),mo 9 8,xg 10 (mv 3) 9 false,xg 11 (bc .gtr 10 8) 9 false,xo 12 (.pick (.t 9) (.b true) (.t 11)),mo 13 12,xg 14 (fa 6 1) 13 false,xg 15 (lf 14) 13 false,xg 16 (.len false (.t 15)) 13 false,xg 17 (mv 3) 13 false,xg 18 (bi .neq 16 17) 13 false,xo 19 (.pick (.t 13) (.b true) (.t 18)),mo 20 19,xg 21 (fa 6 1) 20 false,xg 22 (lf 21) 20 false,xg 23 (.call 99 [(.t 22)]) 20 false,xg 24 (.not (.t 23)) 20 false,xo 25 (.pick (.t 20) (.b true) (.t 24)),mo 26 25,xg 27 (fa 0 1) 26 false,xg 28 (lf 27) 26 false,xg 29 (bc .lss 28 0) 26 false,xo 30 (.pick (.t 26) (.b true) (.t 29)),mo 31 30,xg 32 (fa 0 1) 31 false,xg 33 (lf 32) 31 false,xg 34 (bc .gtr 33 1000000000000) 31 false,xo 35 (.pick (.t 31) (.b true) (.t 34)),mo 36 35,xg 37 (fa 2 1) 36 false,xg 38 (lf 37) 36 false,xg 39 (bc .neq 38 0) 36 false,xg 40 (mv 39) 36 false,xg 41 (fa 2 1) 40 true,xg 42 (lf 41) 40 true,xg 43 (bc .neq 42 1) 40 true,xg 44 (.pick (.t 40) (.t 43) (.b false)) 36 false,xo 45 (.pick (.t 36) (.b true) (.t 44))])
 (cD 45
 (sq (rg [xo 2 (.mov (.b false))])
 .ret)
 .skip))
 (sq (rg [fo 46 3 1,lo 47 46,xo 48 (.mkf (.func 101) [] [(.t 1)]),xo 49 (.call 100 [(.t 47),(.t 48)]),xo 50 (.not (.t 49)),mo 2 50])
 .ret))))⟩
theorem qxJ:trFn Tryz.prog 51 [] []=some qEK:=by kernel_rfl
abbrev qUP:Nat:=52
def qfP:FnI:=⟨29,[.tmp 2],
 (sq (rg [xo 2 (.mov (.b false))])
 (sq (sq (rg [mo 5 0,xo 6 (.len false (.t 5)),xo 7 (.mov (ci 0))])
 (.block 0
 (.loop [7] [8,9,10,11,4,3,12,13,14,15,16,17,18,19,20,21,22,23,24,25,26,27,2,28,7]
 (sq (rg [xo 8 (bi .lss 7 6)])
 (sq (cD 8
 .skip
 (.exit 0))
 (sq (.block 1
 (sq (rg [mo 9 7,xo 10 (ia 3 5 7),xo 11 (lt 3 10),xo 4 (.alloc 56 [(vi 0),(vi 0),(.v (.bool false))]),mo 3 9,xn (st 3 4 11)])
 (sq (rd [] (of 0 (fo 12 0 4)
 (ot 1 (lo 13 12)
 (of 2 (xo 14 (bc .lss 13 0))
 (of 3 (mo 15 14)
 (of 4 (xg 16 (fa 1 4) 15 false)
 (ot 5 (xg 17 (lf 16) 15 false)
 (of 6 (xg 18 (bc .lss 17 0) 15 false)
 (of 7 (xo 19 (.pick (.t 15) (.b true) (.t 18)))
 (of 8 (mo 20 19)
 (of 9 (xg 21 (mv 0) 20 false)
 (of 10 (xg 22 (mv 3) 20 false)
 (of 11 (xg 23 (.slc 3 (.t 21) none (some (.t 22)) none) 20 false)
 (of 12 (xg 24 (fa 0 4) 20 false)
 (ot 13 (xg 25 (lf 24) 20 false)
 (of 14 (xg 26 (.call 102 [(.t 23),(.t 25)]) 20 false)
 (of 15 (xo 27 (.pick (.t 20) (.b true) (.t 26)))
 .nil)))))))))))))))))
 (cD 27
 (sq (rg [xo 2 (.mov (.b false))])
 .ret)
 .skip))))
 (rg [xo 28 (bc .add 7 1),mo 7 28])))))))
 (sq (rg [xo 2 (.mov (.b true))])
 .ret)))⟩
theorem q3O:trFn Tryz.prog 52 [([],(fs [0,1,2,3,4,5,6,7,8,9,10,11,12,13] (.exec 14 (.first 15 .nil))))] [[7]]=some qfP:=by kernel_rfl
abbrev qOJ:Nat:=53
def qlJ:FnI:=⟨50,[.tmp 2],
 (sq (rg [xo 1 (.box 67 (.t 0)),xo 2 (.mov (.b false))])
 (sq (sq (rg [fo 7 0 1,xo 8 (lt 3 7),xo 9 (.call 103 [(.t 8)]),xo 10 (.not (.t 9)),mo 11 10,xg 12 (fa 3 1) 11 false,xg 13 (lf 12) 11 false,xg 14 (.len false (.t 13)) 11 false,xg 15 (fa 0 1) 11 false,xg 16 (fa 2 15) 11 false,xg 17 (lf 16) 11 false,xg 18 (.len false (.t 17)) 11 false,xg 19 (bi .neq 14 18) 11 false,xo 20 (.pick (.t 11) (.b true) (.t 19))])
 (cD 20
 (sq (rg [xo 2 (.mov (.b false))])
 .ret)
 .skip))
 (sq (sq (rg [fo 21 3 1,lo 22 21,xo 23 (.len false (.t 22)),xo 24 (.mov (ci 0))])
 (.block 0
 (.loop [24] [25,26,27,28,4,3,29,30,31,32,33,34,5,35,6,36,37,38,39,40,41,42,43,44,45,46,47,48,2,49,24]
 (sq (rg [xo 25 (bi .lss 24 23)])
 (sq (cD 25
 .skip
 (.exit 0))
 (sq (.block 1
 (sq (rg [mo 26 24,xo 27 (ia 2 22 24),xo 28 (lt 2 27),xo 4 (.alloc 85 [(.v (.int .u64 (0))),(.v (.slice none 0 0))]),mo 3 26,xn (st 2 4 28)])
 (sq (rg [fo 29 0 1,fo 30 2 29,lo 31 30,mo 32 3,xo 33 (ia 4 31 32),xo 34 (lt 4 33),xo 5 (.alloc 88 [(.v (.string ⟨#[]⟩)),(vi 0),(vi 0),(.v (.slice none 0 0))]),xn (st 4 5 34)])
 (sq (rg [xo 35 (.mkf (.func 104) [] [(.t 5)]),mo 6 35])
 (sq (rg [fo 36 1 4,lo 37 36,xo 38 (.len false (.t 37)),fo 39 3 5,lo 40 39,xo 41 (.len false (.t 40)),xo 42 (bi .neq 38 41),mo 43 42,xg 44 (fa 1 4) 43 false,xg 45 (lf 44) 43 false,xg 46 (mv 6) 43 false,xg 47 (.call 105 [(.t 45),(.t 46)]) 43 false,xo 48 (.pick (.t 43) (.b true) (.t 47))])
 (cD 48
 (sq (rg [xo 2 (.mov (.b false))])
 .ret)
 .skip))))))
 (rg [xo 49 (bc .add 24 1),mo 24 49])))))))
 (sq (rg [xo 2 (.mov (.b true))])
 .ret))))⟩
theorem qxI:trFn Tryz.prog 53 [] [[24]]=some qlJ:=by kernel_rfl
abbrev qVP:Nat:=54
def qgP:FnI:=⟨20,[.tmp 2],
 (sq (rg [xo 1 (.box 77 (.t 0)),xo 2 (.mov (.b false))])
 (sq (rg [fo 3 0 1,lo 4 3,xo 5 (.call 106 [(.t 4)]),mo 6 5,xg 7 (fa 2 1) 6 true,xg 8 (lf 7) 6 true,xg 9 (bc .geq 8 0) 6 true,xo 10 (.pick (.t 6) (.t 9) (.b false)),mo 11 10,xg 12 (fa 1 1) 11 true,xg 13 (lf 12) 11 true,xg 14 (mv 13) 11 true,xg 15 (fa 3 1) 14 false,xg 16 (lf 15) 14 false,xg 17 (.not (.t 16)) 14 false,xg 18 (.pick (.t 14) (.b true) (.t 17)) 11 true,xo 19 (.pick (.t 11) (.t 18) (.b false)),mo 2 19])
 .ret))⟩
theorem q4O:trFn Tryz.prog 54 [] []=some qgP:=by kernel_rfl
abbrev qTL:Nat:=55
def qlL:FnI:=⟨8,[.tmp 4],
 (sq (rg [xo 3 (.box 9 (.t 1)),xo 4 (.mov (ci 0))])
 (sq (rg [mo 5 0,xo 6 (.mkf (.func 108) [] [(.t 3)]),xo 7 (.call 107 [(.t 5),(.t 6)]),mo 4 7])
 .ret))⟩
theorem q0K:trFn Tryz.prog 55 [] []=some qlL:=by kernel_rfl
abbrev qCK:Nat:=56
def qHK:FnI:=⟨35,[.tmp 2,.tmp 3],
 (sq (rg [xo 1 (.box 33 (.t 0)),xo 2 (.mov (ci 0)),xo 3 (.mov (ci 0))])
 (sq (rg [xo 9 (lt 3 1),xo 10 (.build [(.v (.slice none 0 0)),(.v (.slice none 0 0)),(.v (.slice none 0 0))] [(0,3,(.t 9))]),xo 4 (.alloc 162 [(.v (.slice none 0 0)),(.v (.slice none 0 0)),(.v (.slice none 0 0))]),xn (st 3 4 10)])
 (sq (sq (rg [xo 11 (lt 3 4),xo 12 (.mkf (.func 109) [(.t 11)] []),xo 13 (lt 3 4),xo 14 (.mkf (.func 110) [(.t 13)] []),xo 15 (lt 3 4),xo 16 (.mkf (.func 111) [(.t 15)] []),xo 17 (lt 3 4),xo 18 (.mkf (.func 112) [(.t 17)] []),xo 19 (.bsl 163 1 4 [(.v .nilFunc),(.v .nilFunc),(.v .nilFunc),(.v .nilFunc)] [(0,1,(.t 12)),(1,1,(.t 14)),(2,1,(.t 16)),(3,1,(.t 18))]),xo 20 (.len false (.t 19)),xo 21 (.mov (ci 0))])
 (.block 0
 (.loop [21] [22,23,24,6,26,27,25,28,29,7,8,30,31,32,33,2,3,34,21]
 (sq (rg [xo 22 (bi .lss 21 20)])
 (sq (cD 22
 .skip
 (.exit 0))
 (sq (.block 1
 (sq (rg [xo 23 (ia 1 19 21),lo 24 23,mo 6 24])
 (sq (rg [mo 26 6,xo 27 (.callv (.t 26) []),mo 25 27,xo 28 (.ext 0 (.t 25)),xo 29 (.ext 1 (.t 25)),mo 7 28,mo 8 29])
 (sq (rg [mo 30 7,xo 31 (bc .neq 30 0)])
 (cD 31
 (sq (rg [mo 32 7,mo 33 8,mo 2 32,mo 3 33])
 .ret)
 .skip)))))
 (rg [xo 34 (bc .add 21 1),mo 21 34])))))))
 (sq (rg [xo 2 (.mov (ci 0)),xo 3 (.mov (ci 0))])
 .ret))))⟩
theorem q0J:trFn Tryz.prog 56 [] [[21]]=some qHK:=by kernel_rfl
abbrev qaE:Nat:=59
def qhE:FnI:=⟨26,[.tmp 4],
 (sq (rg [xo 4 (.mov (.b false))])
 (sq (sq (rg [mo 6 0,xo 7 (.len false (.t 6)),mo 8 1,xo 9 (.len false (.t 8)),xo 10 (bi .neq 7 9)])
 (cD 10
 (sq (rg [xo 4 (.mov (.b false))])
 .ret)
 .skip))
 (sq (sq (rg [xo 5 (.mov (ci 0))])
 (.block 0
 (.loop [5] [11,12,13,14,17,18,19,20,21,22,23,24,25,4,15,16,5]
 (sq (sq (rg [mo 11 5,mo 12 0,xo 13 (.len false (.t 12)),xo 14 (bi .lss 11 13)])
 (cD 14
 .skip
 (.exit 0)))
 (sq (.block 1
 (sq (rd [] (of 0 (mo 17 0)
 (of 1 (mo 18 5)
 (ot 2 (xo 19 (ia 1 17 18))
 (ot 3 (lo 20 19)
 (of 4 (mo 21 1)
 (of 5 (mo 22 5)
 (ot 6 (xo 23 (ia 1 21 22))
 (ot 7 (lo 24 23)
 (of 8 (xo 25 (.bins .neq (.t 20) (.t 24)))
 .nil))))))))))
 (cD 25
 (sq (rg [xo 4 (.mov (.b false))])
 .ret)
 .skip)))
 (rg [mo 15 5,xo 16 (bc .add 15 1),mo 5 16]))))))
 (sq (rg [xo 4 (.mov (.b true))])
 .ret))))⟩
theorem qOE:trFn Tryz.prog 59 [([],(fs [0,1,2,3,4,5,6,7,8] .nil))] [[5]]=some qhE:=by kernel_rfl
abbrev qaD:Nat:=60
def qeD:FnI:=⟨97,[.tmp 4],
 (sq (rg [xo 4 (.mov (.b false))])
 (sq (sq (rg [mo 7 0,xo 8 (.len false (.t 7)),mo 9 1,xo 10 (.len false (.t 9)),xo 11 (bi .neq 8 10)])
 (cD 11
 (sq (rg [xo 4 (.mov (.b false))])
 .ret)
 .skip))
 (sq (sq (rg [xo 5 (.mov (ci 0))])
 (.block 0
 (.loop [5] [12,13,14,15,18,19,20,21,22,23,24,25,26,27,28,29,30,31,32,33,34,35,36,37,38,39,40,41,42,43,44,45,46,47,48,49,50,51,52,53,54,55,56,57,58,59,60,61,62,63,64,65,66,67,68,69,4,6,70,71,72,73,74,75,76,77,80,81,82,83,84,85,86,87,88,89,90,91,92,93,94,95,96,78,79,16,17,5]
 (sq (sq (rg [mo 12 5,mo 13 0,xo 14 (.len false (.t 13)),xo 15 (bi .lss 12 14)])
 (cD 15
 .skip
 (.exit 0)))
 (sq (.block 1
 (sq (sq (rd [] (of 0 (mo 18 0)
 (of 1 (mo 19 5)
 (ot 2 (xo 20 (ia 4 18 19))
 (of 3 (fo 21 0 20)
 (ot 4 (lo 22 21)
 (of 5 (mo 23 1)
 (of 6 (mo 24 5)
 (ot 7 (xo 25 (ia 4 23 24))
 (of 8 (fo 26 0 25)
 (ot 9 (lo 27 26)
 (of 10 (xo 28 (.bins .neq (.t 22) (.t 27)))
 (of 11 (mo 29 28)
 (of 12 (xg 30 (mv 0) 29 false)
 (of 13 (xg 31 (mv 5) 29 false)
 (ot 14 (xg 32 (ia 4 30 31) 29 false)
 (of 15 (xg 33 (fa 1 32) 29 false)
 (ot 16 (xg 34 (lf 33) 29 false)
 (of 17 (xg 35 (mv 1) 29 false)
 (of 18 (xg 36 (mv 5) 29 false)
 (ot 19 (xg 37 (ia 4 35 36) 29 false)
 (of 20 (xg 38 (fa 1 37) 29 false)
 (ot 21 (xg 39 (lf 38) 29 false)
 (of 22 (xg 40 (bi .neq 34 39) 29 false)
 (of 23 (xo 41 (.pick (.t 29) (.b true) (.t 40)))
 (of 24 (mo 42 41)
 (of 25 (xg 43 (mv 0) 42 false)
 (of 26 (xg 44 (mv 5) 42 false)
 (ot 27 (xg 45 (ia 4 43 44) 42 false)
 (of 28 (xg 46 (fa 2 45) 42 false)
 (ot 29 (xg 47 (lf 46) 42 false)
 (of 30 (xg 48 (mv 1) 42 false)
 (of 31 (xg 49 (mv 5) 42 false)
 (ot 32 (xg 50 (ia 4 48 49) 42 false)
 (of 33 (xg 51 (fa 2 50) 42 false)
 (ot 34 (xg 52 (lf 51) 42 false)
 (of 35 (xg 53 (bi .neq 47 52) 42 false)
 (of 36 (xo 54 (.pick (.t 42) (.b true) (.t 53)))
 (of 37 (mo 55 54)
 (of 38 (xg 56 (mv 0) 55 false)
 (of 39 (xg 57 (mv 5) 55 false)
 (ot 40 (xg 58 (ia 4 56 57) 55 false)
 (of 41 (xg 59 (fa 3 58) 55 false)
 (ot 42 (xg 60 (lf 59) 55 false)
 (of 43 (xg 61 (.len false (.t 60)) 55 false)
 (of 44 (xg 62 (mv 1) 55 false)
 (of 45 (xg 63 (mv 5) 55 false)
 (ot 46 (xg 64 (ia 4 62 63) 55 false)
 (of 47 (xg 65 (fa 3 64) 55 false)
 (ot 48 (xg 66 (lf 65) 55 false)
 (of 49 (xg 67 (.len false (.t 66)) 55 false)
 (of 50 (xg 68 (bi .neq 61 67) 55 false)
 (of 51 (xo 69 (.pick (.t 55) (.b true) (.t 68)))
 .nil)))))))))))))))))))))))))))))))))))))))))))))))))))))
 (cD 69
 (sq (rg [xo 4 (.mov (.b false))])
 .ret)
 .skip))
 (sq (rg [xo 6 (.mov (ci 0))])
 (.block 2
 (.loop [6] [70,71,72,73,74,75,76,77,80,81,82,83,84,85,86,87,88,89,90,91,92,93,94,95,96,4,78,79,6]
 (sq (sq (rg [mo 70 6,mo 71 0,mo 72 5,xo 73 (ia 4 71 72),fo 74 3 73,lo 75 74,xo 76 (.len false (.t 75)),xo 77 (bi .lss 70 76)])
 (cD 77
 .skip
 (.exit 2)))
 (sq (.block 3
 (sq (rd [] (of 0 (mo 80 0)
 (of 1 (mo 81 5)
 (ot 2 (xo 82 (ia 4 80 81))
 (of 3 (fo 83 3 82)
 (ot 4 (lo 84 83)
 (of 5 (mo 85 6)
 (ot 6 (xo 86 (ia 1 84 85))
 (ot 7 (lo 87 86)
 (of 8 (mo 88 1)
 (of 9 (mo 89 5)
 (ot 10 (xo 90 (ia 4 88 89))
 (of 11 (fo 91 3 90)
 (ot 12 (lo 92 91)
 (of 13 (mo 93 6)
 (ot 14 (xo 94 (ia 1 92 93))
 (ot 15 (lo 95 94)
 (of 16 (xo 96 (.binb true (.t 87) (.t 95)))
 .nil))))))))))))))))))
 (cD 96
 (sq (rg [xo 4 (.mov (.b false))])
 .ret)
 .skip)))
 (rg [mo 78 6,xo 79 (bc .add 78 1),mo 6 79]))))))))
 (rg [mo 16 5,xo 17 (bc .add 16 1),mo 5 17]))))))
 (sq (rg [xo 4 (.mov (.b true))])
 .ret))))⟩
theorem qUD:trFn Tryz.prog 60 [([],(fs [0,1,2,3,4,5,6,7,8,9,10,11,12,13,14,15,16,17,18,19,20,21,22,23,24,25,26,27,28,29,30,31,32,33,34,35,36,37,38,39,40,41,42,43,44,45,46,47,48,49,50,51] .nil)),([],(fs [0,1,2,3,4,5,6,7,8,9,10,11,12,13,14,15,16] .nil))] [[5],[6]]=some qeD:=by kernel_rfl
abbrev qZM:Nat:=61
def qxM:FnI:=⟨19,[.cell 2 1 false,.cell 3 1 false],
 (sq (rg [xo 1 (.box 107 (.t 0)),xo 2 (.alloc 22 [(.v (.slice none 0 0))]),xo 3 (.alloc 61 [(vi 0)])])
 (sq (rg [xo 4 (.alloc 22 [(.v (.slice none 0 0))])])
 (sq (sq (rg [xo 6 (lt 3 1),xo 7 (.call 117 [(.t 6)])])
 (.block 0
 (.rfun (.t 7) [8]
 (rg [mo 5 8])
 (.block 1
 (sq (rg [mo 9 5])
 (.block 2
 (sq (rg [xo 15 (.bini .eql (.t 9) (ci (-2))),mo 14 15])
 (cD 14
 (sq (rg [xn (.store 1 (.t 2) (.c (.slice none 0 0))),xn (.store 1 (.t 3) (ci 11))])
 .ret)
 (sq (rg [xo 17 (.bini .eql (.t 9) (ci (-1))),mo 16 17])
 (cD 16
 .skip
 (rg [lo 10 4,mo 11 5,xo 12 (.bsl 3 1 1 [(vi 0)] [(0,1,(.t 11))]),xo 13 (.app 3 1 8 (.t 10) (.t 12)),xn (st 1 4 13)])))))))))))
 (sq (rg [lo 18 4,xn (st 1 2 18),xn (.store 1 (.t 3) (ci 0))])
 .ret))))⟩
theorem q2L:trFn Tryz.prog 61 [] []=some qxM:=by kernel_rfl
abbrev qSP:Nat:=62
def qdP:FnI:=⟨29,[.tmp 2],
 (sq (rg [xo 1 (.box 107 (.t 0)),xo 2 (.mov (.b false))])
 (sq (rg [xo 6 (lt 3 1),xo 7 (.call 61 [(.t 6)]),mo 5 7,xo 8 (.ext 0 (.t 5)),xo 9 (.ext 1 (.t 5)),mo 3 8,mo 4 9])
 (sq (rg [mo 10 4,xo 11 (bc .eql 10 0),mo 12 11,xg 13 (fa 1 1) 12 true,xg 14 (lf 13) 12 true,xg 15 (.len false (.t 14)) 12 true,xg 16 (bc .geq 15 1) 12 true,xo 17 (.pick (.t 12) (.t 16) (.b false)),mo 18 17,xg 19 (fa 1 1) 18 true,xg 20 (lf 19) 18 true,xg 21 (.len false (.t 20)) 18 true,xg 22 (bc .leq 21 4) 18 true,xo 23 (.pick (.t 18) (.t 22) (.b false)),mo 24 23,xg 25 (fa 2 1) 24 true,xg 26 (lf 25) 24 true,xg 27 (bc .geq 26 0) 24 true,xo 28 (.pick (.t 24) (.t 27) (.b false)),mo 2 28])
 .ret)))⟩
theorem q1O:trFn Tryz.prog 62 [] []=some qdP:=by kernel_rfl
abbrev qFG:Nat:=63
def qLG:FnI:=⟨49,[.cell 0 8 true],
 (sq (rg [xo 0 (.alloc 28 [(vi 0),(vi 0),(vi 0),(.v (.slice none 0 0)),(.v (.slice none 0 0)),(.v (.slice none 0 0)),(.v (.slice none 0 0)),(.v (.slice none 0 0))])])
 (sq (rg [xo 7 (.bsl 9 1 1 [(.v (.string ⟨#[]⟩))] [(0,1,(.c (.string ⟨#[105,110]⟩)))]),xo 8 (.build [(vi 0),(.v (.string ⟨#[]⟩)),(.v (.string ⟨#[]⟩)),(vi 0)] [(1,1,(.c (.string ⟨#[42]⟩))),(2,1,(.c (.string ⟨#[47]⟩)))]),xo 9 (.bsl 117 4 1 [(vi 0),(.v (.string ⟨#[]⟩)),(.v (.string ⟨#[]⟩)),(vi 0)] [(0,4,(.t 8))]),xo 10 (.bsl 4 1 2 [(.v (.bool false)),(.v (.bool false))] [(0,1,(.b true)),(1,1,(.b true))]),xo 11 (.build [(.v (.string ⟨#[]⟩)),(vi 0),(vi 0),(.v (.slice none 0 0))] [(0,1,(.c (.string ⟨#[97]⟩))),(1,1,(ci 1)),(2,1,(ci 1)),(3,1,(.t 10))]),xo 12 (.bsl 88 4 1 [(.v (.string ⟨#[]⟩)),(vi 0),(vi 0),(.v (.slice none 0 0))] [(0,4,(.t 11))]),xo 13 (.build [(.v (.slice none 0 0)),(.v (.slice none 0 0)),(.v (.slice none 0 0))] [(0,1,(.t 7)),(1,1,(.t 9)),(2,1,(.t 12))]),xo 1 (.alloc 60 [(.v (.slice none 0 0)),(.v (.slice none 0 0)),(.v (.slice none 0 0))]),xn (st 3 1 13)])
 (sq (rg [xo 15 (lt 3 1),xo 16 (.bsl 9 1 1 [(.v (.string ⟨#[]⟩))] [(0,1,(.c (.string ⟨#[105,110]⟩)))]),xo 17 (.call 97 [(.t 15),(.t 16),(ci 1)]),mo 14 17,xo 18 (.ext 0 (.t 14)),xo 19 (.ext 1 (.t 14)),xo 2 (.alloc 28 [(vi 0),(vi 0),(vi 0),(.v (.slice none 0 0)),(.v (.slice none 0 0)),(.v (.slice none 0 0)),(.v (.slice none 0 0)),(.v (.slice none 0 0))]),xn (st 8 2 18),mo 3 19])
 (sq (rg [xo 21 (lt 3 1),xo 22 (.call 91 [(.t 21)]),mo 20 22,xo 23 (.ext 0 (.t 20)),xo 24 (.ext 1 (.t 20)),xo 4 (.alloc 67 [(.v (.slice none 0 0)),(.v (.slice none 0 0)),(.v (.slice none 0 0)),(.v (.slice none 0 0)),(.v (.bool false))]),xn (st 5 4 23),mo 5 24])
 (sq (rg [fo 25 4 2,lo 26 25,xo 27 (lt 5 4),xo 28 (.bsl 67 5 1 [(.v (.slice none 0 0)),(.v (.slice none 0 0)),(.v (.slice none 0 0)),(.v (.slice none 0 0)),(.v (.bool false))] [(0,5,(.t 27))]),xo 29 (.app 67 5 104 (.t 26) (.t 28)),fo 30 4 2,xn (st 1 30 29)])
 (sq (rg [fo 31 1 2,xn (.store 1 (.t 31) (ci 1))])
 (sq (rg [fo 32 0 2,xn (.store 1 (.t 32) (ci 4))])
 (sq (rg [xo 33 (.build [(vi 0),(vi 0),(.v (.bool false))] [(1,1,(ci 3))]),xo 34 (.bsl 56 3 1 [(vi 0),(vi 0),(.v (.bool false))] [(0,3,(.t 33))]),fo 35 7 2,xn (st 1 35 34)])
 (sq (sq (rg [xo 6 (.mov (ci 0))])
 (.block 0
 (.loop [6] [36,37,38,39,40,43,44,45,46,47,41,42,6]
 (sq (sq (rg [mo 36 6,fo 37 5 2,lo 38 37,xo 39 (.len false (.t 38)),xo 40 (bi .lss 36 39)])
 (cD 40
 .skip
 (.exit 0)))
 (sq (.block 1
 (rg [fo 43 5 2,lo 44 43,mo 45 6,xo 46 (ia 4 44 45),fo 47 1 46,xn (.store 1 (.t 47) (.b true))]))
 (rg [mo 41 6,xo 42 (bc .add 41 1),mo 6 42]))))))
 (sq (rg [xo 48 (lt 8 2),xn (st 8 0 48)])
 .ret))))))))))⟩
theorem q9F:trFn Tryz.prog 63 [] [[6]]=some qLG:=by kernel_rfl
abbrev qTG:Nat:=64
def qKK:FnI:=⟨6,[.tmp 2],
 (sq (rg [xo 1 (.box 67 (.t 0)),xo 2 (.mov (ci 0))])
 (sq (rg [xo 3 (lt 5 1),xo 4 (.call 118 [(.t 3)]),xo 5 (.len false (.t 4)),mo 2 5])
 .ret))⟩
theorem q2J:trFn Tryz.prog 64 [] []=some qKK:=by kernel_rfl
abbrev qWL:Nat:=65
def qoL:FnI:=⟨82,[.tmp 4],
 (sq (rg [xo 2 (.box 28 (.t 0)),xo 3 (.box 41 (.t 1)),xo 4 (.mov (.b false))])
 (sq (sq (rg [fo 5 11 3,lo 6 5])
 (.block 0
 (sq (rg [xo 8 (bc .eql 6 2),mo 7 8])
 (cD 7
 (sq (rg [fo 9 21 3,lo 10 9,fo 11 3 2,lo 12 11,xo 13 (.len false (.t 12)),xo 14 (bi .lss 10 13),mo 4 14])
 .ret)
 (sq (rg [xo 16 (bc .eql 6 5),mo 15 16])
 (cD 15
 (sq (rd [] (of 0 (fo 17 22 3)
 (ot 1 (lo 18 17)
 (of 2 (fo 19 4 2)
 (ot 3 (lo 20 19)
 (of 4 (fo 21 13 3)
 (ot 5 (lo 22 21)
 (ot 6 (xo 23 (ia 5 20 22))
 (ot 7 (xo 24 (lt 5 23))
 (of 8 (xo 25 (.call 64 [(.t 24)]))
 (of 9 (xo 26 (bi .lss 18 25))
 (of 10 (mo 4 26)
 .nil))))))))))))
 .ret)
 (sq (rg [xo 28 (bc .eql 6 6),mo 27 28])
 (cD 27
 (sq (rd [] (of 0 (fo 29 21 3)
 (ot 1 (lo 30 29)
 (of 2 (fo 31 7 2)
 (ot 3 (lo 32 31)
 (of 4 (xo 33 (.len false (.t 32)))
 (of 5 (xo 34 (bi .lss 30 33))
 (of 6 (mo 35 34)
 (of 7 (xg 36 (fa 7 2) 35 true)
 (ot 8 (xg 37 (lf 36) 35 true)
 (of 9 (xg 38 (fa 21 3) 35 true)
 (ot 10 (xg 39 (lf 38) 35 true)
 (ot 11 (xg 40 (ia 3 37 39) 35 true)
 (of 12 (xg 41 (fa 0 40) 35 true)
 (ot 13 (xg 42 (lf 41) 35 true)
 (of 14 (xg 43 (fa 13 3) 35 true)
 (ot 15 (xg 44 (lf 43) 35 true)
 (of 16 (xg 45 (bi .eql 42 44) 35 true)
 (of 17 (xo 46 (.pick (.t 35) (.t 45) (.b false)))
 (of 18 (mo 47 46)
 (of 19 (xg 48 (fa 7 2) 47 true)
 (ot 20 (xg 49 (lf 48) 47 true)
 (of 21 (xg 50 (fa 21 3) 47 true)
 (ot 22 (xg 51 (lf 50) 47 true)
 (ot 23 (xg 52 (ia 3 49 51) 47 true)
 (of 24 (xg 53 (fa 2 52) 47 true)
 (ot 25 (xg 54 (lf 53) 47 true)
 (of 26 (xg 55 (.not (.t 54)) 47 true)
 (of 27 (xo 56 (.pick (.t 47) (.t 55) (.b false)))
 (of 28 (mo 4 56)
 .nil))))))))))))))))))))))))))))))
 .ret)
 (sq (rg [xo 58 (bc .eql 6 9),mo 57 58])
 (cD 57
 (sq (rg [fo 59 21 3,lo 60 59,fo 61 5 2,lo 62 61,xo 63 (.len false (.t 62)),xo 64 (bi .lss 60 63),mo 4 64])
 .ret)
 (sq (rg [xo 66 (bc .eql 6 10),mo 65 66])
 (cD 65
 (sq (rg [fo 67 21 3,lo 68 67,fo 69 5 2,lo 70 69,xo 71 (.len false (.t 70)),xo 72 (bi .lss 68 71),mo 73 72,xg 74 (fa 5 2) 73 true,xg 75 (lf 74) 73 true,xg 76 (fa 21 3) 73 true,xg 77 (lf 76) 73 true,xg 78 (ia 4 75 77) 73 true,xg 79 (fa 1 78) 73 true,xg 80 (lf 79) 73 true,xo 81 (.pick (.t 73) (.t 80) (.b false)),mo 4 81])
 .ret)
 .skip))))))))))))
 (sq (rg [xo 4 (.mov (.b true))])
 .ret)))⟩
theorem q4K:trFn Tryz.prog 65 [([],(fs [0,1,2,3,4,5,6,7] (.exec 8 (.first 9 (.first 10 .nil))))),([],(fs [0,1,2,3,4,5,6,7,8,9,10,11,12,13,14,15,16,17,18,19,20,21,22,23,24,25,26,27,28] .nil))] []=some qoL:=by kernel_rfl
abbrev q6C:Nat:=66
theorem qJG:FnOk Tryz.prog 66:=FnOk.of (by kernel_rfl)
def q9C:FnI:=⟨24,[.cell 2 23 true],
 (sq (rg [xo 1 (.box 127 (.t 0)),xo 2 (.alloc 45 zl1)])
 (sq (sq (rg [fo 3 0 1,lo 4 3,xo 5 (nk 4),fo 6 2 5,lo 7 6,xo 8 (bc .neq 7 0)])
 (cD 8
 (sq (rd [] (ot 0 (xo 9 (lt 2 1))
 (ot 1 (xo 10 (lt 2 1))
 (of 3 (xo 12 (.build zl2 [(0,1,(ci 12))]))
 (of 2 (xo 11 (.call 120 [(.t 10),(ci 5),(ci 14),(ci 1)]))
 (of 4 (xo 13 (.callw 119 [(.t 9),(.t 11),(.t 12)]))
 (of 5 (xn (st 23 2 13))
 .nil)))))))
 .ret)
 .skip))
 (sq (rd [] (of 0 (fo 14 0 1)
 (ot 1 (lo 15 14)
 (of 4 (xo 18 (nk 15))
 (of 5 (fo 19 2 18)
 (of 2 (fo 16 1 1)
 (ot 3 (lo 17 16)
 (.op ⟨6,false,[3],xn (.store 1 (.t 19) (ci 1))⟩
 (of 7 (xo 20 (nk 17))
 (of 8 (fo 21 11 20)
 (of 9 (xn (.store 1 (.t 21) (ci 1)))
 .nil)))))))))))
 (sq (rg [xo 22 (lt 2 1),xo 23 (.call 120 [(.t 22),(ci 4),(ci 14),(ci 1)]),xn (st 23 2 23)])
 .ret))))⟩
theorem qCG:trFn Tryz.prog 66 [([],(fs [0,1,3] (.exec 2 (.exec 4 (.exec 5 .nil))))),([],(fs [0,1,4,5,2,3] (.exec 6 (.first 7 (.first 8 (.exec 9 .nil))))))] []=some q9C:=by kernel_rfl
abbrev q1B:Nat:=67
theorem qCE:FnOk Tryz.prog 67:=FnOk.of (by kernel_rfl)
def q5B:FnI:=⟨21,[.cell 2 23 true],
 (sq (rg [xo 1 (.box 127 (.t 0)),xo 2 (.alloc 45 zl1)])
 (sq (rd [] (of 0 (fo 3 1 1)
 (ot 1 (lo 4 3)
 (of 2 (fo 5 0 1)
 (ot 3 (lo 6 5)
 (of 4 (xo 7 (nk 6))
 (of 5 (fo 8 0 7)
 (ot 6 (lo 9 8)
 (of 7 (xo 10 (nk 4))
 (of 8 (fo 11 12 10)
 (of 9 (xn (st 1 11 9))
 .nil)))))))))))
 (sq (rg [xo 12 (lt 2 1),xo 13 (.callw 121 [(.t 12),(ci 2),(ci 0)])])
 (sq (rd [] (ot 0 (xo 14 (lt 2 1))
 (of 1 (fo 15 0 1)
 (ot 2 (lo 16 15)
 (of 3 (xo 17 (nk 16))
 (of 4 (fo 18 0 17)
 (ot 5 (lo 19 18)
 (of 6 (xo 20 (.call 120 [(.t 14),(ci 1),(ci 1),(.t 19)]))
 (of 7 (xn (st 23 2 20))
 .nil)))))))))
 .ret))))⟩
theorem q7D:trFn Tryz.prog 67 [([],(fs [0,1,2,3,4,5,6,7,8] (.exec 9 .nil))),([],(fs [0,1,2,3,4,5] (.exec 6 (.exec 7 .nil))))] []=some q5B:=by kernel_rfl
abbrev qVC:Nat:=68
theorem q4E:FnOk Tryz.prog 68:=FnOk.of (by kernel_rfl)
def qYC:FnI:=⟨64,[.cell 2 23 true],
 (sq (rg [xo 1 (.box 127 (.t 0)),xo 2 (.alloc 45 zl1)])
 (sq (rd [] (of 0 (fo 4 0 1)
 (ot 1 (lo 5 4)
 (of 2 (xo 6 (nk 5))
 (of 3 (fo 7 3 6)
 (ot 4 (lo 8 7)
 (of 5 (fo 9 1 1)
 (ot 6 (lo 10 9)
 (of 7 (xo 11 (nk 10))
 (of 8 (fo 12 21 11)
 (ot 9 (lo 13 12)
 (ot 10 (xo 14 (ia 1 8 13))
 (ot 11 (lo 15 14)
 (of 12 (mo 3 15)
 .nil))))))))))))))
 (sq (.block 0
 (sq (rg [mo 25 3,xo 26 (bc .neq 25 0),mo 27 26,xg 28 (mv 3) 27 true,xg 29 (fa 1 1) 27 true,xg 30 (lf 29) 27 true,xg 31 (nk 30) 27 true,xg 32 (fa 12 31) 27 true,xg 33 (lf 32) 27 true,xg 34 (bc .add 33 1) 27 true,xg 35 (bi .neq 28 34) 27 true,xo 36 (.pick (.t 27) (.t 35) (.b false)),mo 24 36])
 (cD 24
 (rg [xo 37 (lt 2 1),xo 38 (.callw 121 [(.t 37),(ci 4),(ci 0)])])
 (sq (rd [] (of 0 (fo 40 1 1)
 (ot 1 (lo 41 40)
 (of 2 (xo 42 (nk 41))
 (of 3 (fo 43 21 42)
 (ot 4 (lo 44 43)
 (of 5 (xo 45 (bc .add 44 1))
 (of 6 (fo 46 0 1)
 (ot 7 (lo 47 46)
 (of 8 (xo 48 (nk 47))
 (of 9 (fo 49 3 48)
 (ot 10 (lo 50 49)
 (of 11 (xo 51 (.len false (.t 50)))
 (of 12 (xo 52 (bi .lss 45 51))
 (of 13 (mo 39 52)
 .nil)))))))))))))))
 (cD 39
 (rg [fo 53 1 1,lo 54 53,xo 55 (nk 54),fo 56 21 55,lo 57 56,xo 58 (bc .add 57 1),xo 59 (nk 54),fo 60 21 59,xn (st 1 60 58)])
 (rd [] (ot 0 (xo 16 (lt 2 1))
 (of 1 (fo 17 1 1)
 (ot 2 (lo 18 17)
 (of 3 (xo 19 (nk 18))
 (of 4 (fo 20 21 19)
 (ot 5 (lo 21 20)
 (of 6 (xo 22 (bc .add 21 1))
 (of 7 (xo 23 (.callw 121 [(.t 16),(ci 3),(.t 22)]))
 .nil))))))))))))))
 (sq (rg [xo 61 (lt 2 1),mo 62 3,xo 63 (.call 120 [(.t 61),(ci 1),(ci 2),(.t 62)]),xn (st 23 2 63)])
 .ret))))⟩
theorem qsE:trFn Tryz.prog 68 [([],(fs [0,1,2,3,4,5,6,7,8,9,10,11,12] .nil)),([],(fs [0,1,2,3,4,5,6,7,8,9,10,11,12,13] .nil)),([],(fs [0,1,2,3,4,5,6] (.exec 7 .nil)))] []=some qYC:=by kernel_rfl
abbrev qGC:Nat:=69
theorem qeE:FnOk Tryz.prog 69:=FnOk.of (by kernel_rfl)
def qIC:FnI:=⟨50,[.cell 2 23 true],
 (sq (rg [xo 1 (.box 127 (.t 0)),xo 2 (.alloc 45 zl1)])
 (sq (rg [xo 3 (.mov (ci 5))])
 (sq (sq (rd [] (of 0 (fo 4 0 1)
 (ot 1 (lo 5 4)
 (of 2 (xo 6 (nk 5))
 (of 3 (fo 7 0 6)
 (ot 4 (lo 8 7)
 (of 5 (fo 9 1 1)
 (ot 6 (lo 10 9)
 (of 7 (xo 11 (nk 10))
 (of 8 (fo 12 12 11)
 (ot 9 (lo 13 12)
 (of 10 (xo 14 (bi .eql 8 13))
 (of 11 (mo 15 14)
 (of 12 (xg 16 (fa 0 1) 15 true)
 (ot 13 (xg 17 (lf 16) 15 true)
 (of 14 (xg 18 (nk 17) 15 true)
 (of 15 (xg 19 (fa 0 18) 15 true)
 (ot 16 (xg 20 (lf 19) 15 true)
 (of 17 (xg 21 (bc .lss 20 1000000000000) 15 true)
 (of 18 (xo 22 (.pick (.t 15) (.t 21) (.b false)))
 .nil))))))))))))))))))))
 (cD 22
 (sq (rg [xo 3 (.mov (ci 4))])
 (sq (rg [fo 23 0 1,lo 24 23,xo 25 (nk 24),fo 26 0 25,lo 27 26,xo 28 (bc .add 27 1),xo 29 (nk 24),fo 30 0 29,xn (st 1 30 28)])
 (rd [] (of 0 (fo 31 1 1)
 (ot 1 (lo 32 31)
 (of 2 (fo 33 0 1)
 (ot 3 (lo 34 33)
 (of 4 (xo 35 (nk 34))
 (of 5 (fo 36 0 35)
 (ot 6 (lo 37 36)
 (of 7 (xo 38 (nk 32))
 (of 8 (fo 39 12 38)
 (of 9 (xn (st 1 39 37))
 .nil)))))))))))))
 .skip))
 (sq (rg [xo 40 (lt 2 1),xo 41 (.callw 121 [(.t 40),(ci 4),(ci 0)])])
 (sq (rd [] (ot 0 (xo 42 (lt 2 1))
 (of 1 (mo 43 3)
 (of 2 (fo 44 0 1)
 (ot 3 (lo 45 44)
 (of 4 (xo 46 (nk 45))
 (of 5 (fo 47 0 46)
 (ot 6 (lo 48 47)
 (of 7 (xo 49 (.call 120 [(.t 42),(.t 43),(ci 1),(.t 48)]))
 (of 8 (xn (st 23 2 49))
 .nil))))))))))
 .ret)))))⟩
theorem qRE:trFn Tryz.prog 69 [([],(fs [0,1,2,3,4,5,6,7,8,9,10,11,12,13,14,15,16,17,18] .nil)),([],(fs [0,1,2,3,4,5,6,7,8] (.exec 9 .nil))),([],(fs [0,1,2,3,4,5,6] (.exec 7 (.exec 8 .nil))))] []=some qIC:=by kernel_rfl
abbrev q0B:Nat:=70
theorem qBE:FnOk Tryz.prog 70:=FnOk.of (by kernel_rfl)
def q4B:FnI:=⟨79,[.cell 2 23 true],
 (sq (rg [xo 1 (.box 127 (.t 0)),xo 2 (.alloc 45 zl1)])
 (sq (rg [fo 5 1 1,lo 6 5,mo 3 6])
 (sq (sq (rd [] (of 0 (mo 7 3)
 (of 1 (xo 8 (nk 7))
 (of 2 (fo 9 21 8)
 (ot 3 (lo 10 9)
 (of 4 (fo 11 0 1)
 (ot 5 (lo 12 11)
 (of 6 (xo 13 (nk 12))
 (of 7 (fo 14 7 13)
 (ot 8 (lo 15 14)
 (of 9 (xo 16 (.len false (.t 15)))
 (of 10 (xo 17 (bi .geq 10 16))
 .nil))))))))))))
 (cD 17
 (sq (rg [xo 18 (lt 2 1),xo 19 (.callw 121 [(.t 18),(ci 8),(ci 0)])])
 (sq (rg [xo 20 (lt 2 1),xo 21 (.call 73 [(.t 20)]),xn (st 23 2 21)])
 .ret))
 .skip))
 (sq (rd [4] (of 0 (fo 22 0 1)
 (ot 1 (lo 23 22)
 (of 2 (xo 24 (nk 23))
 (of 3 (fo 25 7 24)
 (ot 4 (lo 26 25)
 (of 5 (mo 27 3)
 (of 6 (xo 28 (nk 27))
 (of 7 (fo 29 21 28)
 (ot 8 (lo 30 29)
 (ot 9 (xo 31 (ia 3 26 30))
 (ot 10 (xo 32 (lt 3 31))
 (.bring ⟨11,false,[],xo 4 (.alloc 56 [(vi 0),(vi 0),(.v (.bool false))])⟩
 (of 12 (xn (st 3 4 32))
 .nil))))))))))))))
 (sq (sq (rd [] (of 0 (fo 33 2 4)
 (ot 1 (lo 34 33)
 (of 2 (mo 35 34)
 (of 3 (xg 36 (fa 1 4) 35 false)
 (ot 4 (xg 37 (lf 36) 35 false)
 (of 5 (xg 38 (mv 3) 35 false)
 (of 6 (xg 39 (nk 38) 35 false)
 (of 7 (xg 40 (fa 12 39) 35 false)
 (ot 8 (xg 41 (lf 40) 35 false)
 (of 9 (xg 42 (.call 86 [(.t 37),(.t 41)]) 35 false)
 (of 10 (xg 43 (.not (.t 42)) 35 false)
 (of 11 (xo 44 (.pick (.t 35) (.b true) (.t 43)))
 .nil)))))))))))))
 (cD 44
 (rg [mo 45 3,xo 46 (nk 45),fo 47 21 46,lo 48 47,xo 49 (bc .add 48 1),xo 50 (nk 45),fo 51 21 50,xn (st 1 51 49)])
 (rg [mo 52 3,mo 53 3,mo 54 3,mo 55 3,mo 56 3,mo 57 3,mo 58 3,fo 59 0 4,lo 60 59,xo 61 (nk 52),fo 62 13 61,xn (st 1 62 60),xo 63 (nk 53),fo 64 15 63,xn (.store 1 (.t 64) (ci 0)),xo 65 (nk 54),fo 66 16 65,xn (.store 1 (.t 66) (ci 0)),xo 67 (nk 55),fo 68 17 67,xn (.store 1 (.t 68) (ci 0)),xo 69 (nk 56),fo 70 18 69,xn (.store 1 (.t 70) (ci 0)),xo 71 (nk 57),fo 72 22 71,xn (.store 1 (.t 72) (ci 0)),xo 73 (nk 58),fo 74 11 73,xn (.store 1 (.t 74) (ci 5))])))
 (sq (rg [xo 75 (lt 2 1),fo 76 0 4,lo 77 76,xo 78 (.call 120 [(.t 75),(ci 1),(ci 11),(.t 77)]),xn (st 23 2 78)])
 .ret))))))⟩
theorem q6D:trFn Tryz.prog 70 [([],(fs [0,1,2,3,4,5,6,7,8,9,10] .nil)),([11],(fs [0,1,2,3,4,5,6,7,8,9,10] (.bring 11 (.exec 12 .nil)))),([],(fs [0,1,2,3,4,5,6,7,8] (.exec 9 (.first 10 (.first 11 .nil)))))] []=some q4B:=by kernel_rfl
abbrev qmB:Nat:=71
theorem qtD:FnOk Tryz.prog 71:=FnOk.of (by kernel_rfl)
def qpB:FnI:=⟨78,[.cell 2 23 true],
 (sq (rg [xo 1 (.box 127 (.t 0)),xo 2 (.alloc 45 zl1)])
 (sq (rg [fo 7 1 1,lo 8 7,mo 3 8])
 (sq (rd [4] (of 0 (fo 9 0 1)
 (ot 1 (lo 10 9)
 (of 2 (xo 11 (nk 10))
 (of 3 (fo 12 4 11)
 (ot 4 (lo 13 12)
 (of 5 (mo 14 3)
 (of 6 (xo 15 (nk 14))
 (of 7 (fo 16 13 15)
 (ot 8 (lo 17 16)
 (ot 9 (xo 18 (ia 5 13 17))
 (ot 10 (xo 19 (lt 5 18))
 (.bring ⟨11,false,[],xo 4 (.alloc 67 [(.v (.slice none 0 0)),(.v (.slice none 0 0)),(.v (.slice none 0 0)),(.v (.slice none 0 0)),(.v (.bool false))])⟩
 (of 12 (xn (st 5 4 19))
 .nil))))))))))))))
 (sq (rg [xo 20 (lt 5 4),xo 21 (.call 118 [(.t 20)]),mo 5 21])
 (sq (rd [6] (ot 0 (xo 22 (lt 2 1))
 (of 1 (mo 23 5)
 (of 2 (mo 24 3)
 (of 3 (xo 25 (nk 24))
 (of 4 (fo 26 22 25)
 (ot 5 (lo 27 26)
 (ot 6 (xo 28 (ia 3 23 27))
 (of 7 (fo 29 2 28)
 (ot 8 (lo 30 29)
 (of 9 (xo 31 (.call 120 [(.t 22),(ci 1),(ci 7),(.t 30)]))
 (.bring ⟨10,false,[],xo 6 (.alloc 45 zl1)⟩
 (of 11 (xn (st 23 6 31))
 .nil)))))))))))))
 (sq (rd [] (of 0 (mo 32 3)
 (of 1 (xo 33 (nk 32))
 (of 2 (fo 34 13 33)
 (ot 3 (lo 35 34)
 (of 6 (fo 38 4 6)
 (of 4 (fo 36 4 4)
 (ot 5 (lo 37 36)
 (.op ⟨7,false,[5],xn (st 1 38 35)⟩
 (of 8 (fo 39 5 6)
 (of 9 (xn (st 1 39 37))
 .nil)))))))))))
 (sq (.block 0
 (sq (rg [fo 51 6 6,lo 52 51,xo 53 (bc .neq 52 0),mo 50 53])
 (cD 50
 (rd [] (ot 0 (xo 54 (lt 2 1))
 (of 1 (mo 55 3)
 (of 2 (xo 56 (nk 55))
 (of 3 (fo 57 21 56)
 (ot 4 (lo 58 57)
 (of 5 (xo 59 (bc .add 58 1))
 (of 6 (xo 60 (.callw 121 [(.t 54),(ci 4),(.t 59)]))
 .nil))))))))
 (sq (rg [mo 62 3,xo 63 (nk 62),fo 64 22 63,lo 65 64,xo 66 (bc .add 65 1),mo 67 5,xo 68 (.len false (.t 67)),xo 69 (bi .lss 66 68),mo 61 69])
 (cD 61
 (rg [mo 70 3,xo 71 (nk 70),fo 72 22 71,lo 73 72,xo 74 (bc .add 73 1),xo 75 (nk 70),fo 76 22 75,xn (st 1 76 74)])
 (sq (rg [mo 40 3,xo 41 (nk 40),fo 42 22 41,lo 43 42,xo 44 (bc .add 43 1),xo 45 (nk 40),fo 46 22 45,xn (st 1 46 44)])
 (rg [mo 47 3,xo 48 (nk 47),fo 49 11 48,xn (.store 1 (.t 49) (ci 6))])))))))
 (sq (rg [xo 77 (lt 23 6),xn (st 23 2 77)])
 .ret))))))))⟩
theorem qpD:trFn Tryz.prog 71 [([11],(fs [0,1,2,3,4,5,6,7,8,9,10] (.bring 11 (.exec 12 .nil)))),([10],(fs [0,1,2,3,4,5,6,7,8] (.exec 9 (.bring 10 (.exec 11 .nil))))),([],(fs [0,1,2,3,6,4,5] (.exec 7 (.first 8 (.exec 9 .nil))))),([],(fs [0,1,2,3,4,5] (.exec 6 .nil)))] []=some qpB:=by kernel_rfl
abbrev q7C:Nat:=72
theorem qKG:FnOk Tryz.prog 72:=FnOk.of (by kernel_rfl)
def qAD:FnI:=⟨50,[.cell 2 23 true],
 (sq (rg [xo 1 (.box 127 (.t 0)),xo 2 (.alloc 45 zl1)])
 (sq (rg [fo 4 1 1,lo 5 4,mo 3 5])
 (sq (rd [] (of 0 (fo 6 0 1)
 (ot 1 (lo 7 6)
 (of 2 (xo 8 (nk 7))
 (of 3 (fo 9 4 8)
 (ot 4 (lo 10 9)
 (of 5 (mo 11 3)
 (of 6 (xo 12 (nk 11))
 (of 7 (fo 13 13 12)
 (ot 8 (lo 14 13)
 (of 9 (fo 15 0 1)
 (ot 10 (lo 16 15)
 (of 11 (xo 17 (nk 16))
 (of 12 (fo 18 7 17)
 (ot 13 (lo 19 18)
 (of 14 (mo 20 3)
 (of 15 (xo 21 (nk 20))
 (of 16 (fo 22 21 21)
 (ot 17 (lo 23 22)
 (ot 18 (xo 24 (ia 5 10 14))
 (of 19 (fo 25 4 24)
 (of 20 (xn (.store 1 (.t 25) (.b true)))
 (ot 21 (xo 26 (ia 3 19 23))
 (of 22 (fo 27 2 26)
 (of 23 (xn (.store 1 (.t 27) (.b true)))
 .nil)))))))))))))))))))))))))
 (sq (rg [mo 28 3,xo 29 (nk 28),fo 30 25 29,fo 31 6 30,lo 32 31,xo 33 (bc .add 32 1),xo 34 (nk 28),fo 35 25 34,fo 36 6 35,xn (st 1 36 33)])
 (sq (rd [] (ot 0 (xo 37 (lt 2 1))
 (of 1 (mo 38 3)
 (of 2 (xo 39 (nk 38))
 (of 3 (fo 40 21 39)
 (ot 4 (lo 41 40)
 (of 5 (xo 42 (bc .add 41 1))
 (of 6 (xo 43 (.callw 121 [(.t 37),(ci 4),(.t 42)]))
 .nil))))))))
 (sq (rd [] (ot 0 (xo 44 (lt 2 1))
 (of 1 (mo 45 3)
 (of 2 (xo 46 (nk 45))
 (of 3 (fo 47 13 46)
 (ot 4 (lo 48 47)
 (of 5 (xo 49 (.call 120 [(.t 44),(ci 2),(ci 12),(.t 48)]))
 (of 6 (xn (st 23 2 49))
 .nil))))))))
 .ret))))))⟩
theorem qDG:trFn Tryz.prog 72 [([],(fs [0,1,2,3,4,5,6,7,8,9,10,11,12,13,14,15,16,17,18,19] (.exec 20 (.first 21 (.first 22 (.exec 23 .nil)))))),([],(fs [0,1,2,3,4,5] (.exec 6 .nil))),([],(fs [0,1,2,3,4] (.exec 5 (.exec 6 .nil))))] []=some qAD:=by kernel_rfl
abbrev q2B:Nat:=73
theorem qDE:FnOk Tryz.prog 73:=FnOk.of (by kernel_rfl)
def q6B:FnI:=⟨67,[.cell 2 23 true],
 (sq (rg [xo 1 (.box 127 (.t 0)),xo 2 (.alloc 45 zl1)])
 (sq (rg [fo 6 1 1,lo 7 6,mo 3 7])
 (sq (sq (rd [] (of 0 (mo 8 3)
 (of 1 (xo 9 (nk 8))
 (of 2 (fo 10 21 9)
 (ot 3 (lo 11 10)
 (of 4 (fo 12 0 1)
 (ot 5 (lo 13 12)
 (of 6 (xo 14 (nk 13))
 (of 7 (fo 15 5 14)
 (ot 8 (lo 16 15)
 (of 9 (xo 17 (.len false (.t 16)))
 (of 10 (xo 18 (bi .geq 11 17))
 .nil))))))))))))
 (cD 18
 (sq (rg [fo 19 0 1,lo 20 19,xo 21 (nk 20),fo 22 2 21,xn (.store 1 (.t 22) (ci 0))])
 (sq (rd [] (ot 0 (xo 23 (lt 2 1))
 (ot 1 (xo 24 (lt 2 1))
 (of 3 (mo 26 3)
 (of 4 (xo 27 (nk 26))
 (of 5 (fo 28 25 27)
 (of 6 (fo 29 6 28)
 (ot 7 (lo 30 29)
 (of 8 (xo 31 (.build zl2 [(0,1,(ci 11)),(6,1,(.t 30))]))
 (of 2 (xo 25 (.call 120 [(.t 24),(ci 2),(ci 14),(ci 0)]))
 (of 9 (xo 32 (.callw 119 [(.t 23),(.t 25),(.t 31)]))
 (of 10 (xn (st 23 2 32))
 .nil))))))))))))
 .ret))
 .skip))
 (sq (rd [4] (of 0 (fo 33 0 1)
 (ot 1 (lo 34 33)
 (of 2 (xo 35 (nk 34))
 (of 3 (fo 36 5 35)
 (ot 4 (lo 37 36)
 (of 5 (mo 38 3)
 (of 6 (xo 39 (nk 38))
 (of 7 (fo 40 21 39)
 (ot 8 (lo 41 40)
 (ot 9 (xo 42 (ia 4 37 41))
 (ot 10 (xo 43 (lt 4 42))
 (.bring ⟨11,false,[],xo 4 (.alloc 77 [(.v (.string ⟨#[]⟩)),(.v (.bool false)),(vi 0),(.v (.bool false))])⟩
 (of 12 (xn (st 4 4 43))
 .nil))))))))))))))
 (sq (rg [xo 44 (lt 2 1),xo 45 (.call 120 [(.t 44),(ci 1),(ci 4),(ci 0)]),xo 5 (.alloc 45 zl1),xn (st 23 5 45)])
 (sq (sq (rg [fo 46 1 4,lo 47 46])
 (cD 47
 (rg [fo 48 6 5,xn (.store 1 (.t 48) (ci 1))])
 .skip))
 (sq (sq (rg [fo 49 1 4,lo 50 49,mo 51 50,xg 52 (fa 3 4) 51 true,xg 53 (lf 52) 51 true,xg 54 (.not (.t 53)) 51 true,xo 55 (.pick (.t 51) (.t 54) (.b false))])
 (cD 55
 (rg [mo 56 3,xo 57 (nk 56),fo 58 11 57,xn (.store 1 (.t 58) (ci 9))])
 (rg [mo 59 3,xo 60 (nk 59),fo 61 21 60,lo 62 61,xo 63 (bc .add 62 1),xo 64 (nk 59),fo 65 21 64,xn (st 1 65 63)])))
 (sq (rg [xo 66 (lt 23 5),xn (st 23 2 66)])
 .ret))))))))⟩
theorem q8D:trFn Tryz.prog 73 [([],(fs [0,1,2,3,4,5,6,7,8,9,10] .nil)),([],(fs [0,1,3,4,5,6,7,8] (.exec 2 (.exec 9 (.exec 10 .nil))))),([11],(fs [0,1,2,3,4,5,6,7,8,9,10] (.bring 11 (.exec 12 .nil))))] []=some q6B:=by kernel_rfl
abbrev qlB:Nat:=74
theorem qsD:FnOk Tryz.prog 74:=FnOk.of (by kernel_rfl)
def qoB:FnI:=⟨34,[.cell 2 23 true],
 (sq (rg [xo 1 (.box 127 (.t 0)),xo 2 (.alloc 45 zl1)])
 (sq (rd [] (of 0 (fo 4 0 1)
 (ot 1 (lo 5 4)
 (of 2 (xo 6 (nk 5))
 (of 3 (fo 7 5 6)
 (ot 4 (lo 8 7)
 (of 5 (fo 9 1 1)
 (ot 6 (lo 10 9)
 (of 7 (xo 11 (nk 10))
 (of 8 (fo 12 21 11)
 (ot 9 (lo 13 12)
 (ot 10 (xo 14 (ia 4 8 13))
 (of 11 (fo 15 2 14)
 (ot 12 (lo 16 15)
 (of 13 (mo 3 16)
 .nil)))))))))))))))
 (sq (sq (rg [mo 17 3,xo 18 (bc .eql 17 0)])
 (cD 18
 (rg [fo 19 1 1,lo 20 19,xo 21 (nk 20),fo 22 11 21,xn (.store 1 (.t 22) (ci 10))])
 (rd [] (ot 0 (xo 23 (lt 2 1))
 (of 1 (fo 24 1 1)
 (ot 2 (lo 25 24)
 (of 3 (xo 26 (nk 25))
 (of 4 (fo 27 21 26)
 (ot 5 (lo 28 27)
 (of 6 (xo 29 (bc .add 28 1))
 (of 7 (xo 30 (.callw 121 [(.t 23),(ci 8),(.t 29)]))
 .nil)))))))))))
 (sq (rg [xo 31 (lt 2 1),mo 32 3,xo 33 (.call 120 [(.t 31),(ci 1),(ci 5),(.t 32)]),xn (st 23 2 33)])
 .ret))))⟩
theorem qoD:trFn Tryz.prog 74 [([],(fs [0,1,2,3,4,5,6,7,8,9,10,11,12,13] .nil)),([],(fs [0,1,2,3,4,5,6] (.exec 7 .nil)))] []=some qoB:=by kernel_rfl
abbrev q5C:Nat:=75
theorem qIG:FnOk Tryz.prog 75:=FnOk.of (by kernel_rfl)
def q8C:FnI:=⟨25,[.cell 2 23 true],
 (sq (rg [xo 1 (.box 127 (.t 0)),xo 2 (.alloc 45 zl1)])
 (sq (rd [] (of 0 (fo 3 0 1)
 (ot 1 (lo 4 3)
 (of 2 (xo 5 (nk 4))
 (of 3 (fo 6 5 5)
 (ot 4 (lo 7 6)
 (of 5 (fo 8 1 1)
 (ot 6 (lo 9 8)
 (of 7 (xo 10 (nk 9))
 (of 8 (fo 11 21 10)
 (ot 9 (lo 12 11)
 (ot 10 (xo 13 (ia 4 7 12))
 (of 11 (fo 14 3 13)
 (of 12 (xn (.store 1 (.t 14) (.b true)))
 .nil))))))))))))))
 (sq (rd [] (ot 0 (xo 15 (lt 2 1))
 (of 1 (fo 16 1 1)
 (ot 2 (lo 17 16)
 (of 3 (xo 18 (nk 17))
 (of 4 (fo 19 21 18)
 (ot 5 (lo 20 19)
 (of 6 (xo 21 (bc .add 20 1))
 (of 7 (xo 22 (.callw 121 [(.t 15),(ci 8),(.t 21)]))
 .nil)))))))))
 (sq (rg [xo 23 (lt 2 1),xo 24 (.call 120 [(.t 23),(ci 2),(ci 13),(ci 1)]),xn (st 23 2 24)])
 .ret))))⟩
theorem qBG:trFn Tryz.prog 75 [([],(fs [0,1,2,3,4,5,6,7,8,9,10,11] (.exec 12 .nil))),([],(fs [0,1,2,3,4,5,6] (.exec 7 .nil)))] []=some q8C:=by kernel_rfl
abbrev qZE:Nat:=76
def qgE:FnI:=⟨8,[.tmp 2],
 (sq (rg [xo 2 (.mov (.c (.slice none 0 0)))])
 (sq (sq (rg [mo 3 0,xo 4 (.binn 0 false (.t 3))])
 (cD 4
 (sq (rg [xo 2 (.mov (.c (.slice none 0 0)))])
 .ret)
 .skip))
 (sq (rg [xo 5 (.bsl 3 1 0 [] []),mo 6 0,xo 7 (.app 3 1 8 (.t 5) (.t 6)),mo 2 7])
 .ret)))⟩
theorem qNE:trFn Tryz.prog 76 [] []=some qgE:=by kernel_rfl
abbrev qrB:Nat:=77
def qtB:FnI:=⟨29,[.tmp 6],
 (sq (rg [xo 5 (.box 132 (.t 2)),xo 6 (.mov (.c (.slice none 0 0)))])
 (sq (rg [mo 10 0,xo 11 (.len false (.t 10)),xo 12 (.msl 67 5 104 [(.slice none 0 0),(.slice none 0 0),(.slice none 0 0),(.slice none 0 0),(.bool false)] (.t 11) (.t 11)),mo 7 12])
 (sq (sq (rg [mo 13 0,xo 14 (.len false (.t 13)),xo 15 (.mov (ci 0))])
 (.block 0
 (.loop [15] [16,17,18,19,9,8,20,21,22,23,24,25,26,27,15]
 (sq (rg [xo 16 (bi .lss 15 14)])
 (sq (cD 16
 .skip
 (.exit 0))
 (sq (.block 1
 (sq (rg [mo 17 15,xo 18 (ia 5 13 15),xo 19 (lt 5 18),xo 9 (.alloc 67 [(.v (.slice none 0 0)),(.v (.slice none 0 0)),(.v (.slice none 0 0)),(.v (.slice none 0 0)),(.v (.bool false))]),mo 8 17,xn (st 5 9 19)])
 (rg [mo 20 7,mo 21 8,mo 22 1,xo 23 (lt 0 5),xo 24 (lt 5 9),xo 25 (.callv (.t 22) [(.t 23),(.t 24)]),xo 26 (ia 5 20 21),xn (st 5 26 25)])))
 (rg [xo 27 (bc .add 15 1),mo 15 27])))))))
 (sq (rg [mo 28 7,mo 6 28])
 .ret))))⟩
theorem qqB:trFn Tryz.prog 77 [] [[15]]=some qtB:=by kernel_rfl
abbrev qFB:Nat:=78
def q7E:FnI:=⟨11,[.cell 4 5 true],
 (sq (rg [xo 2 (.box 132 (.t 0)),xo 3 (.box 67 (.t 1)),xo 4 (.alloc 67 [(.v (.slice none 0 0)),(.v (.slice none 0 0)),(.v (.slice none 0 0)),(.v (.slice none 0 0)),(.v (.bool false))])])
 (sq (rg [fo 5 3 3,lo 6 5,xo 7 (lt 0 2),xo 8 (.call 122 [(.t 6),(.c (.func (.func 123) #[] #[])),(.t 7)]),fo 9 3 3,xn (st 1 9 8)])
 (sq (rg [xo 10 (lt 5 3),xn (st 5 4 10)])
 .ret)))⟩
theorem qoE:trFn Tryz.prog 78 [] []=some q7E:=by kernel_rfl
abbrev qfB:Nat:=79
def qgB:FnI:=⟨8,[.tmp 2],
 (sq (rg [xo 2 (.mov (.c (.slice none 0 0)))])
 (sq (sq (rg [mo 3 0,xo 4 (.binn 0 false (.t 3))])
 (cD 4
 (sq (rg [xo 2 (.mov (.c (.slice none 0 0)))])
 .ret)
 .skip))
 (sq (rg [xo 5 (.bsl 77 4 0 [] []),mo 6 0,xo 7 (.app 77 4 40 (.t 5) (.t 6)),mo 2 7])
 .ret)))⟩
theorem qeB:trFn Tryz.prog 79 [] []=some qgB:=by kernel_rfl
abbrev qLC:Nat:=80
def qMC:FnI:=⟨29,[.tmp 6],
 (sq (rg [xo 5 (.box 132 (.t 2)),xo 6 (.mov (.c (.slice none 0 0)))])
 (sq (rg [mo 10 0,xo 11 (.len false (.t 10)),xo 12 (.msl 139 1 24 [(.slice none 0 0)] (.t 11) (.t 11)),mo 7 12])
 (sq (sq (rg [mo 13 0,xo 14 (.len false (.t 13)),xo 15 (.mov (ci 0))])
 (.block 0
 (.loop [15] [16,17,18,19,8,9,20,21,22,23,24,25,26,27,15]
 (sq (rg [xo 16 (bi .lss 15 14)])
 (sq (cD 16
 .skip
 (.exit 0))
 (sq (.block 1
 (sq (rg [mo 17 15,xo 18 (ia 1 13 15),lo 19 18,mo 8 17,mo 9 19])
 (rg [mo 20 7,mo 21 8,mo 22 1,xo 23 (lt 0 5),mo 24 9,xo 25 (.callv (.t 22) [(.t 23),(.t 24)]),xo 26 (ia 1 20 21),xn (st 1 26 25)])))
 (rg [xo 27 (bc .add 15 1),mo 15 27])))))))
 (sq (rg [mo 28 7,mo 6 28])
 .ret))))⟩
theorem qJC:trFn Tryz.prog 80 [] [[15]]=some qMC:=by kernel_rfl
abbrev qBC:Nat:=81
def q2G:FnI:=⟨7,[.tmp 4],
 (sq (rg [xo 2 (.box 132 (.t 0)),xo 4 (.mov (.c (.slice none 0 0)))])
 (sq (rg [mo 5 1,xo 6 (.call 124 [(.t 5)]),mo 4 6])
 .ret))⟩
theorem qaG:trFn Tryz.prog 81 [] []=some q2G:=by kernel_rfl
abbrev qSB:Nat:=82
def qTB:FnI:=⟨8,[.tmp 2],
 (sq (rg [xo 2 (.mov (.c (.slice none 0 0)))])
 (sq (sq (rg [mo 3 0,xo 4 (.binn 0 false (.t 3))])
 (cD 4
 (sq (rg [xo 2 (.mov (.c (.slice none 0 0)))])
 .ret)
 .skip))
 (sq (rg [xo 5 (.bsl 56 3 0 [] []),mo 6 0,xo 7 (.app 56 3 24 (.t 5) (.t 6)),mo 2 7])
 .ret)))⟩
theorem qRB:trFn Tryz.prog 82 [] []=some qTB:=by kernel_rfl
abbrev qTJ:Nat:=83
def qEH:FnI:=⟨18,[.tmp 4],
 (sq (rg [xo 4 (.mov (.b false))])
 (sq (sq (rg [mo 7 1,xo 8 (.len false (.t 7)),xo 9 (.mov (ci 0))])
 (.block 0
 (.loop [9] [10,11,12,6,13,14,15,16,4,17,9]
 (sq (rg [xo 10 (bi .lss 9 8)])
 (sq (cD 10
 .skip
 (.exit 0))
 (sq (.block 1
 (sq (rg [xo 11 (ia 1 7 9),lo 12 11,mo 6 12])
 (sq (rg [mo 13 0,mo 14 6,xo 15 (.callv (.t 13) [(.t 14)]),xo 16 (.not (.t 15))])
 (cD 16
 (sq (rg [xo 4 (.mov (.b false))])
 .ret)
 .skip))))
 (rg [xo 17 (bc .add 9 1),mo 9 17])))))))
 (sq (rg [xo 4 (.mov (.b true))])
 .ret)))⟩
theorem q2I:trFn Tryz.prog 83 [] [[9]]=some qEH:=by kernel_rfl
abbrev qUJ:Nat:=84
theorem qfJ:FnOk Tryz.prog 84:=FnOk.of (by kernel_rfl)
def qtF:FnI:=⟨12,[.tmp 3],
 (sq (rg [xo 3 (.mov (.b false))])
 (sq (rg [mo 4 0,xo 5 (bc .lss 4 1),mo 6 5,xg 7 (mv 0) 6 false,xg 8 (bc .sub 7 1) 6 false,xg 9 (lf 1) 6 false,xg 10 (bi .gtr 8 9) 6 false,xo 11 (.pick (.t 6) (.b true) (.t 10)),mo 3 11])
 .ret))⟩
theorem q3I:trFn Tryz.prog 84 [] []=some qtF:=by kernel_rfl
abbrev q3N:Nat:=85
def qKO:FnI:=⟨8,[.tmp 4],
 (sq (rg [xo 2 (.box 3 (.t 0)),xo 4 (.mov (.b false))])
 (sq (rg [xo 5 (.mkf (.func 125) [] [(.t 2)]),mo 6 1,xo 7 (.call 83 [(.t 5),(.t 6)]),mo 4 7])
 .ret))⟩
theorem qZN:trFn Tryz.prog 85 [] []=some qKO:=by kernel_rfl
abbrev qeM:Nat:=86
def q1M:FnI:=⟨13,[.tmp 4],
 (sq (rg [xo 4 (.mov (.b false))])
 (sq (rg [mo 5 0,xo 6 (bc .leq 5 9223372036854775805),mo 7 6,xg 8 (mv 0) 7 true,xg 9 (bc .add 8 2) 7 true,xg 10 (mv 1) 7 true,xg 11 (bi .leq 9 10) 7 true,xo 12 (.pick (.t 7) (.t 11) (.b false)),mo 4 12])
 .ret))⟩
theorem q7L:trFn Tryz.prog 86 [] []=some q1M:=by kernel_rfl
abbrev qeH:Nat:=87
def qzD:FnI:=⟨18,[.tmp 2],
 (sq (rg [xo 1 (.box 146 (.t 0)),xo 2 (.mov (.b false))])
 (sq (rg [fo 3 0 1,fo 4 1 3,lo 5 4,mo 6 5,xg 7 (fa 0 1) 6 true,xg 8 (fa 2 7) 6 true,xg 9 (lf 8) 6 true,xg 10 (bc .eql 9 0) 6 true,xo 11 (.pick (.t 6) (.t 10) (.b false)),mo 12 11,xg 13 (fa 0 1) 12 true,xg 14 (fa 3 13) 12 true,xg 15 (lf 14) 12 true,xg 16 (.not (.t 15)) 12 true,xo 17 (.pick (.t 12) (.t 16) (.b false)),mo 2 17])
 .ret))⟩
theorem qPH:trFn Tryz.prog 87 [] []=some qzD:=by kernel_rfl
abbrev qdH:Nat:=88
def qrH:FnI:=⟨34,[.tmp 2],
 (sq (rg [xo 2 (.mov (.b false))])
 (sq (sq (rg [xo 3 (.mov (ci 0))])
 (.block 0
 (.loop [3] [4,5,6,7,8,9,10,11,12,15,16,17,18,19,20,21,22,23,24,25,26,27,28,29,30,2,13,14,3]
 (sq (sq (rg [mo 4 3,mo 5 0,xo 6 (.len false (.t 5)),xo 7 (bi .lss 4 6),mo 8 7,xg 9 (mv 0) 8 true,xg 10 (.len false (.t 9)) 8 true,xg 11 (bc .leq 10 50) 8 true,xo 12 (.pick (.t 8) (.t 11) (.b false))])
 (cD 12
 .skip
 (.exit 0)))
 (sq (.block 1
 (sq (rg [mo 15 0,mo 16 3,xo 17 (ia 4 15 16),fo 18 1 17,lo 19 18,xo 20 (.len true (.t 19)),xo 21 (bc .gtr 20 100),mo 22 21,xg 23 (mv 0) 22 false,xg 24 (mv 3) 22 false,xg 25 (ia 4 23 24) 22 false,xg 26 (fa 2 25) 22 false,xg 27 (lf 26) 22 false,xg 28 (.len true (.t 27)) 22 false,xg 29 (bc .gtr 28 100) 22 false,xo 30 (.pick (.t 22) (.b true) (.t 29))])
 (cD 30
 (sq (rg [xo 2 (.mov (.b true))])
 .ret)
 .skip)))
 (rg [mo 13 3,xo 14 (bc .add 13 1),mo 3 14]))))))
 (sq (rg [mo 31 0,xo 32 (.len false (.t 31)),xo 33 (bc .gtr 32 50),mo 2 33])
 .ret)))⟩
theorem qOH:trFn Tryz.prog 88 [] [[3]]=some qrH:=by kernel_rfl
abbrev qtA:Nat:=89
def qSA:FnI:=⟨9,[.tmp 4],
 (sq (rg [xo 4 (.mov (.b false))])
 (sq (rg [mo 5 0,mo 6 1,xo 7 (.call 126 [(.t 5),(.t 6)]),xo 8 (bc .geq 7 0),mo 4 8])
 .ret))⟩
theorem qrA:trFn Tryz.prog 89 [] []=some qSA:=by kernel_rfl
abbrev qNL:Nat:=91
def qiL:FnI:=⟨53,[.cell 2 5 true,.tmp 3],
 (sq (rg [xo 1 (.box 60 (.t 0)),xo 2 (.alloc 67 [(.v (.slice none 0 0)),(.v (.slice none 0 0)),(.v (.slice none 0 0)),(.v (.slice none 0 0)),(.v (.bool false))]),xo 3 (.mov (ci 0))])
 (sq (sq (rg [xo 10 (lt 3 1),xo 11 (.call 103 [(.t 10)]),xo 12 (.not (.t 11))])
 (cD 12
 (sq (rg [xo 13 (.build [(.v (.slice none 0 0)),(.v (.slice none 0 0)),(.v (.slice none 0 0)),(.v (.slice none 0 0)),(.v (.bool false))] []),xn (st 5 2 13),xo 3 (.mov (ci 1))])
 .ret)
 .skip))
 (sq (rg [xo 14 (lt 3 1),xo 15 (.build [(.v (.slice none 0 0)),(.v (.slice none 0 0)),(.v (.slice none 0 0)),(.v (.slice none 0 0)),(.v (.bool false))] [(0,3,(.t 14))]),xo 4 (.alloc 67 [(.v (.slice none 0 0)),(.v (.slice none 0 0)),(.v (.slice none 0 0)),(.v (.slice none 0 0)),(.v (.bool false))]),xn (st 5 4 15)])
 (sq (sq (rg [fo 16 2 1,lo 17 16,xo 18 (.len false (.t 17)),xo 19 (.mov (ci 0))])
 (.block 0
 (.loop [19] [20,21,22,6,7,23,24,25,26,27,29,30,31,28,32,33,8,9,34,35,36,37,3,38,39,40,41,42,43,44,45,46,47,48,49,50,51,19]
 (sq (rg [xo 20 (bi .lss 19 18)])
 (sq (cD 20
 .skip
 (.exit 0))
 (sq (.block 1
 (sq (rg [xo 21 (ia 4 17 19),xo 22 (lt 4 21),xo 6 (.alloc 88 [(.v (.string ⟨#[]⟩)),(vi 0),(vi 0),(.v (.slice none 0 0))]),xn (st 4 6 22)])
 (sq (rg [xo 7 (.alloc 85 [(.v (.int .u64 (0))),(.v (.slice none 0 0))])])
 (sq (sq (rg [fo 23 3 6,lo 24 23,xo 25 (.len false (.t 24)),xo 26 (.mov (ci 0))])
 (.block 2
 (.loop [26] [27,29,30,31,28,32,33,8,9,34,35,36,37,3,38,39,40,41,42,43,44,26]
 (sq (rg [xo 27 (bi .lss 26 25)])
 (sq (cD 27
 .skip
 (.exit 2))
 (sq (.block 3
 (sq (rg [fo 29 2 6,lo 30 29,xo 31 (.call 127 [(.t 30)]),mo 28 31,xo 32 (.ext 0 (.t 28)),xo 33 (.ext 1 (.t 28)),xo 8 (.alloc 107 [(.v (.int .u64 (0))),(.v (.slice none 0 0)),(vi 0)]),xn (st 3 8 32),mo 9 33])
 (sq (sq (rg [mo 34 9,xo 35 (bc .neq 34 0)])
 (cD 35
 (sq (rg [xo 36 (.build [(.v (.slice none 0 0)),(.v (.slice none 0 0)),(.v (.slice none 0 0)),(.v (.slice none 0 0)),(.v (.bool false))] []),mo 37 9,xn (st 5 2 36),mo 3 37])
 .ret)
 .skip))
 (rg [fo 38 1 7,lo 39 38,xo 40 (lt 3 8),xo 41 (.bsl 107 3 1 [(.v (.int .u64 (0))),(.v (.slice none 0 0)),(vi 0)] [(0,3,(.t 40))]),xo 42 (.app 107 3 40 (.t 39) (.t 41)),fo 43 1 7,xn (st 1 43 42)]))))
 (rg [xo 44 (bc .add 26 1),mo 26 44])))))))
 (rg [fo 45 3 4,lo 46 45,xo 47 (lt 2 7),xo 48 (.bsl 85 2 1 [(.v (.int .u64 (0))),(.v (.slice none 0 0))] [(0,2,(.t 47))]),xo 49 (.app 85 2 32 (.t 46) (.t 48)),fo 50 3 4,xn (st 1 50 49)])))))
 (rg [xo 51 (bc .add 19 1),mo 19 51])))))))
 (sq (rg [xo 52 (lt 5 4),xn (st 5 2 52),xo 3 (.mov (ci 0))])
 .ret)))))⟩
theorem quK:trFn Tryz.prog 91 [] [[19],[26]]=some qiL:=by kernel_rfl
abbrev qwN:Nat:=97
def qDO:FnI:=⟨64,[.cell 6 8 true,.tmp 7],
 (sq (rg [xo 3 (.box 60 (.t 0)),xo 6 (.alloc 28 [(vi 0),(vi 0),(vi 0),(.v (.slice none 0 0)),(.v (.slice none 0 0)),(.v (.slice none 0 0)),(.v (.slice none 0 0)),(.v (.slice none 0 0))]),xo 7 (.mov (ci 0))])
 (sq (rg [xo 15 (lt 3 3),xo 16 (.call 91 [(.t 15)]),mo 14 16,xo 17 (.ext 0 (.t 14)),xo 18 (.ext 1 (.t 14)),xo 8 (.alloc 67 [(.v (.slice none 0 0)),(.v (.slice none 0 0)),(.v (.slice none 0 0)),(.v (.slice none 0 0)),(.v (.bool false))]),xn (st 5 8 17),mo 9 18])
 (sq (sq (rg [mo 19 9,xo 20 (bc .neq 19 0)])
 (cD 20
 (sq (rg [xo 21 (.build [(vi 0),(vi 0),(vi 0),(.v (.slice none 0 0)),(.v (.slice none 0 0)),(.v (.slice none 0 0)),(.v (.slice none 0 0)),(.v (.slice none 0 0))] []),mo 22 9,xn (st 8 6 21),mo 7 22])
 .ret)
 .skip))
 (sq (rg [mo 24 2,xo 25 (.call 135 [(.t 24)]),mo 23 25,xo 26 (.ext 0 (.t 23)),xo 27 (.ext 1 (.t 23)),mo 10 26,mo 9 27])
 (sq (sq (rg [mo 28 9,xo 29 (bc .neq 28 0)])
 (cD 29
 (sq (rg [xo 30 (.build [(vi 0),(vi 0),(vi 0),(.v (.slice none 0 0)),(.v (.slice none 0 0)),(.v (.slice none 0 0)),(.v (.slice none 0 0)),(.v (.slice none 0 0))] []),mo 31 9,xn (st 8 6 30),mo 7 31])
 .ret)
 .skip))
 (sq (rd [11] (ot 0 (xo 32 (lt 5 8))
 (of 2 (mo 34 2)
 (of 4 (mo 36 10)
 (.alt (of 1 (xo 33 (.bsl 67 5 1 [(.v (.slice none 0 0)),(.v (.slice none 0 0)),(.v (.slice none 0 0)),(.v (.slice none 0 0)),(.v (.bool false))] [(0,5,(.t 32))]))
 (of 3 (xo 35 (.msl 3 1 8 [(.int .i64 (0))] (.t 34) (.t 34)))
 (of 5 (xo 37 (.build [(vi 0),(vi 0),(vi 0),(.v (.slice none 0 0)),(.v (.slice none 0 0)),(.v (.slice none 0 0)),(.v (.slice none 0 0)),(.v (.slice none 0 0))] [(4,1,(.t 33)),(3,1,(.t 35)),(6,1,(.t 36))]))
 (.bring ⟨6,false,[],xo 11 (.alloc 28 [(vi 0),(vi 0),(vi 0),(.v (.slice none 0 0)),(.v (.slice none 0 0)),(.v (.slice none 0 0)),(.v (.slice none 0 0)),(.v (.slice none 0 0))])⟩
 (of 7 (xn (st 8 11 37))
 .nil)))))
 (of 3 (xo 35 (.msl 3 1 8 [(.int .i64 (0))] (.t 34) (.t 34)))
 (of 1 (xo 33 (.bsl 67 5 1 [(.v (.slice none 0 0)),(.v (.slice none 0 0)),(.v (.slice none 0 0)),(.v (.slice none 0 0)),(.v (.bool false))] [(0,5,(.t 32))]))
 (of 5 (xo 37 (.build [(vi 0),(vi 0),(vi 0),(.v (.slice none 0 0)),(.v (.slice none 0 0)),(.v (.slice none 0 0)),(.v (.slice none 0 0)),(.v (.slice none 0 0))] [(4,1,(.t 33)),(3,1,(.t 35)),(6,1,(.t 36))]))
 (.bring ⟨6,false,[],xo 11 (.alloc 28 [(vi 0),(vi 0),(vi 0),(.v (.slice none 0 0)),(.v (.slice none 0 0)),(.v (.slice none 0 0)),(.v (.slice none 0 0)),(.v (.slice none 0 0))])⟩
 (of 7 (xn (st 8 11 37))
 .nil))))))))))
 (sq (sq (rg [mo 38 1,xo 39 (.len false (.t 38)),xo 40 (.mov (ci 0))])
 (.block 0
 (.loop [40] [41,42,43,13,44,45,46,47,48,49,50,51,52,53,54,7,55,56,57,58,59,60,61,62,40]
 (sq (rg [xo 41 (bi .lss 40 39)])
 (sq (cD 41
 .skip
 (.exit 0))
 (sq (.block 1
 (sq (rg [xo 42 (ia 1 38 40),lo 43 42,mo 13 43])
 (sq (sq (rg [mo 44 13,xo 45 (.call 106 [(.t 44)]),xo 46 (.not (.t 45)),mo 47 46,xg 48 (fa 5 11) 47 false,xg 49 (lf 48) 47 false,xg 50 (mv 13) 47 false,xg 51 (.call 55 [(.t 49),(.t 50)]) 47 false,xg 52 (bc .geq 51 0) 47 false,xo 53 (.pick (.t 47) (.b true) (.t 52))])
 (cD 53
 (sq (rg [xo 54 (.build [(vi 0),(vi 0),(vi 0),(.v (.slice none 0 0)),(.v (.slice none 0 0)),(.v (.slice none 0 0)),(.v (.slice none 0 0)),(.v (.slice none 0 0))] []),xn (st 8 6 54),xo 7 (.mov (ci 1))])
 .ret)
 .skip))
 (rg [fo 55 5 11,lo 56 55,mo 57 13,xo 58 (.build [(.v (.string ⟨#[]⟩)),(.v (.bool false)),(vi 0),(.v (.bool false))] [(0,1,(.t 57))]),xo 59 (.bsl 77 4 1 [(.v (.string ⟨#[]⟩)),(.v (.bool false)),(vi 0),(.v (.bool false))] [(0,4,(.t 58))]),xo 60 (.app 77 4 40 (.t 56) (.t 59)),fo 61 5 11,xn (st 1 61 60)]))))
 (rg [xo 62 (bc .add 40 1),mo 40 62])))))))
 (sq (rg [xo 63 (lt 8 11),xn (st 8 6 63),xo 7 (.mov (ci 0))])
 .ret))))))))⟩
theorem qSN:trFn Tryz.prog 97 [([6],(fs [0,2,4] (.alt (.exec 1 (.exec 3 (.first 5 (.bring 6 (.exec 7 .nil))))) (.exec 3 (.exec 1 (.first 5 (.bring 6 (.exec 7 .nil))))))))] [[40]]=some qDO:=by kernel_rfl
abbrev qvG:Nat:=98
def qAH:FnI:=⟨45,[.tmp 4],
 (sq (rg [xo 2 (.box 107 (.t 0)),xo 3 (.box 107 (.t 1)),xo 4 (.mov (.b false))])
 (sq (sq (rg [fo 6 0 2,lo 7 6,fo 8 0 3,lo 9 8,xo 10 (bi .neq 7 9),mo 11 10,xg 12 (fa 2 2) 11 false,xg 13 (lf 12) 11 false,xg 14 (fa 2 3) 11 false,xg 15 (lf 14) 11 false,xg 16 (bi .neq 13 15) 11 false,xo 17 (.pick (.t 11) (.b true) (.t 16)),mo 18 17,xg 19 (fa 1 2) 18 false,xg 20 (lf 19) 18 false,xg 21 (.len false (.t 20)) 18 false,xg 22 (fa 1 3) 18 false,xg 23 (lf 22) 18 false,xg 24 (.len false (.t 23)) 18 false,xg 25 (bi .neq 21 24) 18 false,xo 26 (.pick (.t 18) (.b true) (.t 25))])
 (cD 26
 (sq (rg [xo 4 (.mov (.b false))])
 .ret)
 .skip))
 (sq (sq (rg [xo 5 (.mov (ci 0))])
 (.block 0
 (.loop [5] [27,28,29,30,31,34,35,36,37,38,39,40,41,42,43,44,4,32,33,5]
 (sq (sq (rg [mo 27 5,fo 28 1 2,lo 29 28,xo 30 (.len false (.t 29)),xo 31 (bi .lss 27 30)])
 (cD 31
 .skip
 (.exit 0)))
 (sq (.block 1
 (sq (rd [] (of 0 (fo 34 1 2)
 (ot 1 (lo 35 34)
 (of 2 (mo 36 5)
 (ot 3 (xo 37 (ia 1 35 36))
 (ot 4 (lo 38 37)
 (of 5 (fo 39 1 3)
 (ot 6 (lo 40 39)
 (of 7 (mo 41 5)
 (ot 8 (xo 42 (ia 1 40 41))
 (ot 9 (lo 43 42)
 (of 10 (xo 44 (bi .neq 38 43))
 .nil))))))))))))
 (cD 44
 (sq (rg [xo 4 (.mov (.b false))])
 .ret)
 .skip)))
 (rg [mo 32 5,xo 33 (bc .add 32 1),mo 5 33]))))))
 (sq (rg [xo 4 (.mov (.b true))])
 .ret))))⟩
theorem qhG:trFn Tryz.prog 98 [([],(fs [0,1,2,3,4,5,6,7,8,9,10] .nil))] [[5]]=some qAH:=by kernel_rfl
abbrev qTP:Nat:=99
def qeP:FnI:=⟨23,[.tmp 2],
 (sq (rg [xo 2 (.mov (.b false))])
 (sq (sq (rg [mo 5 0,xo 6 (.len false (.t 5)),xo 7 (.mov (ci 0))])
 (.block 0
 (.loop [7] [8,9,10,4,11,12,13,2,14,7]
 (sq (rg [xo 8 (bi .lss 7 6)])
 (sq (cD 8
 .skip
 (.exit 0))
 (sq (.block 1
 (sq (rg [xo 9 (ia 1 5 7),lo 10 9,mo 4 10])
 (sq (rg [mo 11 4,xo 12 (.len false (.t 11)),xo 13 (bc .neq 12 6)])
 (cD 13
 (sq (rg [xo 2 (.mov (.b false))])
 .ret)
 .skip))))
 (rg [xo 14 (bc .add 7 1),mo 7 14])))))))
 (sq (rg [mo 15 0,xo 16 (.len false (.t 15)),xo 17 (bc .geq 16 1),mo 18 17,xg 19 (mv 0) 18 true,xg 20 (.len false (.t 19)) 18 true,xg 21 (bc .leq 20 8) 18 true,xo 22 (.pick (.t 18) (.t 21) (.b false)),mo 2 22])
 .ret)))⟩
theorem q2O:trFn Tryz.prog 99 [] [[7]]=some qeP:=by kernel_rfl
abbrev qlC:Nat:=100
def q2A:FnI:=⟨9,[.tmp 4],
 (sq (rg [xo 4 (.mov (.b false))])
 (sq (rg [mo 5 0,mo 6 1,xo 7 (.call 136 [(.t 5),(.t 6)]),xo 8 (bc .geq 7 0),mo 4 8])
 .ret))⟩
theorem qeC:trFn Tryz.prog 100 [] []=some q2A:=by kernel_rfl
abbrev qdI:Nat:=101
theorem qhI:FnOk Tryz.prog 101:=FnOk.of (by kernel_rfl)
def qHF:FnI:=⟨13,[.tmp 3],
 (sq (rg [xo 3 (.mov (.b false))])
 (sq (rg [mo 4 0,xo 5 (bc .lss 4 0),mo 6 5,xg 7 (mv 0) 6 false,xg 8 (fa 0 1) 6 false,xg 9 (lf 8) 6 false,xg 10 (bc .add 9 1) 6 false,xg 11 (bi .gtr 7 10) 6 false,xo 12 (.pick (.t 6) (.b true) (.t 11)),mo 3 12])
 .ret))⟩
theorem qaI:trFn Tryz.prog 101 [] []=some qHF:=by kernel_rfl
abbrev q1N:Nat:=102
def qIO:FnI:=⟨8,[.tmp 4],
 (sq (rg [xo 3 (.box 3 (.t 1)),xo 4 (.mov (.b false))])
 (sq (rg [mo 5 0,xo 6 (.mkf (.func 137) [] [(.t 3)]),xo 7 (.call 89 [(.t 5),(.t 6)]),mo 4 7])
 .ret))⟩
theorem qXN:trFn Tryz.prog 102 [] []=some qIO:=by kernel_rfl
abbrev qRQ:Nat:=103
def qfQ:FnI:=⟨13,[.tmp 2],
 (sq (rg [xo 1 (.box 60 (.t 0)),xo 2 (.mov (.b false))])
 (sq (rg [xo 6 (lt 3 1),xo 7 (.call 138 [(.t 6)]),xo 8 (.call 56 [(.t 7)]),mo 5 8,xo 9 (.ext 0 (.t 5)),xo 10 (.ext 1 (.t 5)),mo 3 9,mo 4 10])
 (sq (rg [mo 11 3,xo 12 (bc .eql 11 0),mo 2 12])
 .ret)))⟩
theorem qvP:trFn Tryz.prog 103 [] []=some qfQ:=by kernel_rfl
abbrev qDI:Nat:=104
theorem qFI:FnOk Tryz.prog 104:=FnOk.of (by kernel_rfl)
def qfE:FnI:=⟨15,[.tmp 3],
 (sq (rg [xo 2 (.box 107 (.t 0)),xo 3 (.mov (.b false))])
 (sq (rg [xo 4 (lt 3 2),xo 5 (.call 62 [(.t 4)]),xo 6 (.not (.t 5)),mo 7 6,xg 8 (fa 1 2) 7 false,xg 9 (lf 8) 7 false,xg 10 (.len false (.t 9)) 7 false,xg 11 (fa 2 1) 7 false,xg 12 (lf 11) 7 false,xg 13 (bi .neq 10 12) 7 false,xo 14 (.pick (.t 7) (.b true) (.t 13)),mo 3 14])
 .ret))⟩
theorem q3H:trFn Tryz.prog 104 [] []=some qfE:=by kernel_rfl
abbrev qbB:Nat:=105
def qcA:FnI:=⟨9,[.tmp 4],
 (sq (rg [xo 4 (.mov (.b false))])
 (sq (rg [mo 5 0,mo 6 1,xo 7 (.call 139 [(.t 5),(.t 6)]),xo 8 (bc .geq 7 0),mo 4 8])
 .ret))⟩
theorem qVB:trFn Tryz.prog 105 [] []=some qcA:=by kernel_rfl
abbrev qcM:Nat:=106
def qzM:FnI:=⟨21,[.tmp 2],
 (sq (rg [xo 2 (.mov (.b false))])
 (sq (rg [mo 3 0,xo 4 (.len true (.t 3)),xo 5 (bc .gtr 4 0),mo 6 5,xg 7 (mv 0) 6 true,xg 8 (.len true (.t 7)) 6 true,xg 9 (bc .leq 8 16) 6 true,xo 10 (.pick (.t 6) (.t 9) (.b false)),mo 11 10,xg 12 (mv 0) 11 true,xg 13 (.idxs (.t 12) (ci 0)) 11 true,xg 14 (.call 140 [(.t 13)]) 11 true,xo 15 (.pick (.t 11) (.t 14) (.b false)),mo 16 15,xg 17 (.call 141 []) 16 true,xg 18 (mv 0) 16 true,xg 19 (.call 142 [(.t 17),(.t 18),(.c (.int .u8 (45)))]) 16 true,xo 20 (.pick (.t 16) (.t 19) (.b false)),mo 2 20])
 .ret))⟩
theorem q5L:trFn Tryz.prog 106 [] []=some qzM:=by kernel_rfl
abbrev qLB:Nat:=107
def qXA:FnI:=⟨19,[.tmp 4],
 (sq (rg [xo 4 (.mov (ci 0))])
 (sq (sq (rg [mo 6 0,xo 7 (.len false (.t 6)),xo 8 (.mov (ci 0))])
 (.block 0
 (.loop [8] [9,10,5,11,12,13,14,15,16,17,4,18,8]
 (sq (rg [xo 9 (bi .lss 8 7)])
 (sq (cD 9
 .skip
 (.exit 0))
 (sq (.block 1
 (sq (rg [mo 10 8,mo 5 10])
 (sq (rg [mo 11 1,mo 12 0,mo 13 5,xo 14 (ia 4 12 13),xo 15 (lt 4 14),xo 16 (.callv (.t 11) [(.t 15)])])
 (cD 16
 (sq (rg [mo 17 5,mo 4 17])
 .ret)
 .skip))))
 (rg [xo 18 (bc .add 8 1),mo 8 18])))))))
 (sq (rg [xo 4 (.mov (ci (-1)))])
 .ret)))⟩
theorem qJB:trFn Tryz.prog 107 [] [[8]]=some qXA:=by kernel_rfl
abbrev qSJ:Nat:=108
theorem qeJ:FnOk Tryz.prog 108:=FnOk.of (by kernel_rfl)
def qsF:FnI:=⟨8,[.tmp 3],
 (sq (rg [xo 2 (.box 77 (.t 0)),xo 3 (.mov (.b false))])
 (sq (rg [fo 4 0 2,lo 5 4,lo 6 1,xo 7 (.bins .eql (.t 5) (.t 6)),mo 3 7])
 .ret))⟩
theorem q1I:trFn Tryz.prog 108 [] []=some qsF:=by kernel_rfl
abbrev qcC:Nat:=109
theorem qdC:FnOk Tryz.prog 109:=FnOk.of (by kernel_rfl)
def qNF:FnI:=⟨26,[.tmp 2,.tmp 3],
 (sq (rg [xo 1 (.box 162 (.t 0)),xo 2 (.mov (ci 0)),xo 3 (.mov (ci 0))])
 (sq (sq (rg [fo 4 0 1,fo 5 0 4,lo 6 5,xo 7 (.len false (.t 6)),xo 8 (.call 143 [(.t 7),(ci 1),(ci 4)]),xo 9 (.not (.t 8)),mo 10 9,xg 11 (fa 0 1) 10 false,xg 12 (fa 1 11) 10 false,xg 13 (lf 12) 10 false,xg 14 (.len false (.t 13)) 10 false,xg 15 (.call 143 [(.t 14),(ci 1),(ci 8)]) 10 false,xg 16 (.not (.t 15)) 10 false,xo 17 (.pick (.t 10) (.b true) (.t 16)),mo 18 17,xg 19 (fa 0 1) 18 false,xg 20 (fa 2 19) 18 false,xg 21 (lf 20) 18 false,xg 22 (.len false (.t 21)) 18 false,xg 23 (.call 143 [(.t 22),(ci 1),(ci 4)]) 18 false,xg 24 (.not (.t 23)) 18 false,xo 25 (.pick (.t 18) (.b true) (.t 24))])
 (cD 25
 (sq (rg [xo 2 (.mov (ci 6)),xo 3 (.mov (ci 0))])
 .ret)
 .skip))
 (sq (rg [xo 2 (.mov (ci 0)),xo 3 (.mov (ci 0))])
 .ret)))⟩
theorem qKF:trFn Tryz.prog 109 [] []=some qNF:=by kernel_rfl
abbrev qzB:Nat:=110
theorem q3B:FnOk Tryz.prog 110:=FnOk.of (by kernel_rfl)
def qFE:FnI:=⟨30,[.tmp 2,.tmp 3],
 (sq (rg [xo 1 (.box 162 (.t 0)),xo 2 (.mov (ci 0)),xo 3 (.mov (ci 0))])
 (sq (sq (rg [fo 6 0 1,fo 7 0 6,lo 8 7,xo 9 (.len false (.t 8)),xo 10 (.mov (ci 0))])
 (.block 0
 (.loop [10] [11,12,13,14,4,5,16,17,18,15,19,2,3,21,22,23,24,25,26,27,20,28,29,10]
 (sq (rg [xo 11 (bi .lss 10 9)])
 (sq (cD 11
 .skip
 (.exit 0))
 (sq (.block 1
 (sq (rg [mo 12 10,xo 13 (ia 1 8 10),lo 14 13,mo 4 12,mo 5 14])
 (.block 2
 (sq (rg [mo 16 5,xo 17 (.call 106 [(.t 16)]),xo 18 (.not (.t 17)),mo 15 18])
 (cD 15
 (sq (rg [mo 19 4,xo 2 (.mov (ci 3)),mo 3 19])
 .ret)
 (sq (rg [fo 21 0 1,fo 22 0 21,lo 23 22,mo 24 4,xo 25 (.slc 1 (.t 23) none (some (.t 24)) none),mo 26 5,xo 27 (.call 144 [(.t 25),(.t 26)]),mo 20 27])
 (cD 20
 (sq (rg [mo 28 4,xo 2 (.mov (ci 4)),mo 3 28])
 .ret)
 .skip)))))))
 (rg [xo 29 (bc .add 10 1),mo 10 29])))))))
 (sq (rg [xo 2 (.mov (ci 0)),xo 3 (.mov (ci 0))])
 .ret)))⟩
theorem q5D:trFn Tryz.prog 110 [] [[10]]=some qFE:=by kernel_rfl
abbrev qkB:Nat:=111
theorem qnB:FnOk Tryz.prog 111:=FnOk.of (by kernel_rfl)
def qvD:FnI:=⟨55,[.tmp 2,.tmp 3],
 (sq (rg [xo 1 (.box 162 (.t 0)),xo 2 (.mov (ci 0)),xo 3 (.mov (ci 0))])
 (sq (sq (rg [fo 6 0 1,fo 7 2 6,lo 8 7,xo 9 (.len false (.t 8)),xo 10 (.mov (ci 0))])
 (.block 0
 (.loop [10] [11,12,13,14,5,4,16,17,18,19,15,20,2,3,22,23,24,25,26,27,28,29,21,30,32,33,34,35,36,37,38,39,31,40,42,43,44,45,41,46,48,49,50,51,52,47,53,54,10]
 (sq (rg [xo 11 (bi .lss 10 9)])
 (sq (cD 11
 .skip
 (.exit 0))
 (sq (.block 1
 (sq (rg [mo 12 10,xo 13 (ia 4 8 10),xo 14 (lt 4 13),xo 5 (.alloc 88 [(.v (.string ⟨#[]⟩)),(vi 0),(vi 0),(.v (.slice none 0 0))]),mo 4 12,xn (st 4 5 14)])
 (.block 2
 (sq (rg [fo 16 0 5,lo 17 16,xo 18 (.call 106 [(.t 17)]),xo 19 (.not (.t 18)),mo 15 19])
 (cD 15
 (sq (rg [mo 20 4,xo 2 (.mov (ci 3)),mo 3 20])
 .ret)
 (sq (rd [] (of 0 (fo 22 0 1)
 (of 1 (fo 23 2 22)
 (ot 2 (lo 24 23)
 (of 3 (mo 25 4)
 (of 4 (xo 26 (.slc 4 (.t 24) none (some (.t 25)) none))
 (of 5 (fo 27 0 5)
 (ot 6 (lo 28 27)
 (of 7 (xo 29 (.call 145 [(.t 26),(.t 28)]))
 (of 8 (mo 21 29)
 .nil))))))))))
 (cD 21
 (sq (rg [mo 30 4,xo 2 (.mov (ci 4)),mo 3 30])
 .ret)
 (sq (rg [fo 32 1 5,lo 33 32,xo 34 (bc .neq 33 1),mo 35 34,xg 36 (fa 1 5) 35 true,xg 37 (lf 36) 35 true,xg 38 (bc .neq 37 2) 35 true,xo 39 (.pick (.t 35) (.t 38) (.b false)),mo 31 39])
 (cD 31
 (sq (rg [mo 40 4,xo 2 (.mov (ci 9)),mo 3 40])
 .ret)
 (sq (rg [fo 42 2 5,lo 43 42,xo 44 (.call 143 [(.t 43),(ci 1),(ci 4)]),xo 45 (.not (.t 44)),mo 41 45])
 (cD 41
 (sq (rg [mo 46 4,xo 2 (.mov (ci 10)),mo 3 46])
 .ret)
 (sq (rg [fo 48 3 5,lo 49 48,xo 50 (.len false (.t 49)),xo 51 (.call 143 [(.t 50),(ci 1),(ci 4)]),xo 52 (.not (.t 51)),mo 47 52])
 (cD 47
 (sq (rg [mo 53 4,xo 2 (.mov (ci 6)),mo 3 53])
 .ret)
 .skip)))))))))))))
 (rg [xo 54 (bc .add 10 1),mo 10 54])))))))
 (sq (rg [xo 2 (.mov (ci 0)),xo 3 (.mov (ci 0))])
 .ret)))⟩
theorem qnD:trFn Tryz.prog 111 [([],(fs [0,1,2,3,4,5,6] (.exec 7 (.first 8 .nil))))] [[10]]=some qvD:=by kernel_rfl
abbrev qFC:Nat:=112
theorem qHC:FnOk Tryz.prog 112:=FnOk.of (by kernel_rfl)
def qjE:FnI:=⟨65,[.tmp 2,.tmp 3],
 (sq (rg [xo 1 (.box 162 (.t 0)),xo 2 (.mov (ci 0)),xo 3 (.mov (ci 0))])
 (sq (sq (rg [fo 8 0 1,fo 9 1 8,lo 10 9,xo 11 (.len false (.t 10)),xo 12 (.mov (ci 0))])
 (.block 0
 (.loop [12] [13,14,15,16,5,4,18,19,20,21,22,23,24,17,25,2,3,27,28,29,30,26,31,33,34,35,36,32,37,39,40,41,42,43,44,45,38,46,47,48,49,50,51,52,53,54,55,56,57,7,58,59,60,61,62,63,64,12]
 (sq (rg [xo 13 (bi .lss 12 11)])
 (sq (cD 13
 .skip
 (.exit 0))
 (sq (.block 1
 (sq (rg [mo 14 12,xo 15 (ia 4 10 12),xo 16 (lt 4 15),xo 5 (.alloc 90 [(.v (.string ⟨#[]⟩)),(.v (.string ⟨#[]⟩)),(.v (.string ⟨#[]⟩)),(.v (.string ⟨#[]⟩))]),mo 4 14,xn (st 4 5 16)])
 (sq (.block 2
 (sq (rg [fo 18 0 1,fo 19 0 18,lo 20 19,fo 21 0 5,lo 22 21,xo 23 (.call 144 [(.t 20),(.t 22)]),xo 24 (.not (.t 23)),mo 17 24])
 (cD 17
 (sq (rg [mo 25 4,xo 2 (.mov (ci 5)),mo 3 25])
 .ret)
 (sq (rg [fo 27 1 5,lo 28 27,xo 29 (.call 146 [(.t 28)]),xo 30 (.not (.t 29)),mo 26 30])
 (cD 26
 (sq (rg [mo 31 4,xo 2 (.mov (ci 7)),mo 3 31])
 .ret)
 (sq (rg [fo 33 2 5,lo 34 33,xo 35 (.call 147 [(.t 34)]),xo 36 (.not (.t 35)),mo 32 36])
 (cD 32
 (sq (rg [mo 37 4,xo 2 (.mov (ci 8)),mo 3 37])
 .ret)
 (sq (rg [fo 39 0 1,fo 40 2 39,lo 41 40,fo 42 3 5,lo 43 42,xo 44 (.call 145 [(.t 41),(.t 43)]),xo 45 (.not (.t 44)),mo 38 45])
 (cD 38
 (sq (rg [mo 46 4,xo 2 (.mov (ci 5)),mo 3 46])
 .ret)
 .skip)))))))))
 (sq (rg [fo 47 3 5,xn (.store 1 (.t 47) (.c (.string ⟨#[]⟩)))])
 (sq (rg [fo 48 0 1,fo 49 1 48,lo 50 49,mo 51 4,xo 52 (.slc 4 (.t 50) none (some (.t 51)) none),xo 53 (.len false (.t 52)),xo 54 (.mov (ci 0))])
 (.block 3
 (.loop [54] [55,56,57,7,58,59,60,61,62,2,3,63,54]
 (sq (rg [xo 55 (bi .lss 54 53)])
 (sq (cD 55
 .skip
 (.exit 3))
 (sq (.block 4
 (sq (rg [xo 56 (ia 4 52 54),xo 57 (lt 4 56),xo 7 (.alloc 90 [(.v (.string ⟨#[]⟩)),(.v (.string ⟨#[]⟩)),(.v (.string ⟨#[]⟩)),(.v (.string ⟨#[]⟩))]),xn (st 4 7 57)])
 (sq (rg [fo 58 3 7,xn (.store 1 (.t 58) (.c (.string ⟨#[]⟩)))])
 (sq (rg [xo 59 (lt 4 7),xo 60 (lt 4 5),xo 61 (.binst false [1,1,1,1] (.t 59) (.t 60))])
 (cD 61
 (sq (rg [mo 62 4,xo 2 (.mov (ci 4)),mo 3 62])
 .ret)
 .skip)))))
 (rg [xo 63 (bc .add 54 1),mo 54 63])))))))))))
 (rg [xo 64 (bc .add 12 1),mo 12 64])))))))
 (sq (rg [xo 2 (.mov (ci 0)),xo 3 (.mov (ci 0))])
 .ret)))⟩
theorem qQE:trFn Tryz.prog 112 [] [[12],[54]]=some qjE:=by kernel_rfl
abbrev qrG:Nat:=113
def q6G:FnI:=⟨19,[.tmp 4],
 (sq (rg [xo 4 (.mov (ci 0))])
 (sq (sq (rg [mo 7 0,xo 8 (.len false (.t 7)),xo 9 (.mov (ci 0))])
 (.block 0
 (.loop [9] [10,11,12,13,5,6,14,15,16,17,4,18,9]
 (sq (rg [xo 10 (bi .lss 9 8)])
 (sq (cD 10
 .skip
 (.exit 0))
 (sq (.block 1
 (sq (rg [mo 11 9,xo 12 (ia 1 7 9),lo 13 12,mo 5 11,mo 6 13])
 (sq (rg [mo 14 1,mo 15 6,xo 16 (.callv (.t 14) [(.t 15)])])
 (cD 16
 (sq (rg [mo 17 5,mo 4 17])
 .ret)
 .skip))))
 (rg [xo 18 (bc .add 9 1),mo 9 18])))))))
 (sq (rg [xo 4 (.mov (ci (-1)))])
 .ret)))⟩
abbrev qEI:Nat:=114
def qII:FnI:=⟨7,[.tmp 3],
 (sq (rg [xo 3 (.mov (.b false))])
 (sq (rg [mo 4 0,lo 5 1,xo 6 (.bins .eql (.t 4) (.t 5)),mo 3 6])
 .ret))⟩
abbrev qPL:Nat:=117
def qmH:FnI:=⟨4,[.tmp 2],
 (sq (rg [xo 1 (.box 107 (.t 0)),xo 2 (.mov (.c .nilFunc))])
 (sq (rg [xo 3 (.mkf (.func 148) [] [(.t 1)]),mo 2 3])
 .ret))⟩
theorem qwK:trFn Tryz.prog 117 [] []=some qmH:=by kernel_rfl
abbrev qDK:Nat:=118
def qIK:FnI:=⟨19,[.tmp 2],
 (sq (rg [xo 1 (.box 67 (.t 0)),xo 2 (.mov (.c (.slice none 0 0)))])
 (sq (rg [xo 3 (.mov (.c (.slice none 0 0)))])
 (sq (sq (rg [fo 6 3 1,lo 7 6,xo 8 (.len false (.t 7)),xo 9 (.mov (ci 0))])
 (.block 0
 (.loop [3,9] [10,11,12,5,13,14,15,16,3,17,9]
 (sq (rg [xo 10 (bi .lss 9 8)])
 (sq (cD 10
 .skip
 (.exit 0))
 (sq (.block 1
 (sq (rg [xo 11 (ia 2 7 9),xo 12 (lt 2 11),xo 5 (.alloc 85 [(.v (.int .u64 (0))),(.v (.slice none 0 0))]),xn (st 2 5 12)])
 (rg [mo 13 3,fo 14 1 5,lo 15 14,xo 16 (.app 107 3 40 (.t 13) (.t 15)),mo 3 16])))
 (rg [xo 17 (bc .add 9 1),mo 9 17])))))))
 (sq (rg [mo 18 3,mo 2 18])
 .ret))))⟩
theorem q1J:trFn Tryz.prog 118 [] [[3,9]]=some qIK:=by kernel_rfl
abbrev qHG:Nat:=119
def qBD:FnI:=⟨20,[.cell 6 23 true],
 (sq (rg [xo 3 (.box 127 (.t 0)),xo 4 (.box 45 (.t 1)),xo 5 (.box 39 (.t 2)),xo 6 (.alloc 45 zl1)])
 (sq (rd [] (of 0 (fo 7 1 3)
 (ot 1 (lo 8 7)
 (of 5 (xo 12 (nk 8))
 (of 6 (fo 13 24 12)
 (of 2 (fo 9 1 3)
 (ot 3 (lo 10 9)
 (ot 4 (xo 11 (lt 13 5))
 (.op ⟨7,false,[4,3],xn (.store 1 (.t 13) (.b true))⟩
 (of 8 (xo 14 (nk 10))
 (of 9 (fo 15 25 14)
 (of 10 (xn (st 13 15 11))
 .nil))))))))))))
 (sq (rd [] (of 1 (fo 17 9 4)
 (ot 0 (xo 16 (lt 13 5))
 (.op ⟨2,false,[0],xn (.store 1 (.t 17) (.b true))⟩
 (of 3 (fo 18 10 4)
 (of 4 (xn (st 13 18 16))
 .nil))))))
 (sq (rg [xo 19 (lt 23 4),xn (st 23 6 19)])
 .ret))))⟩
theorem qEG:trFn Tryz.prog 119 [([],(fs [0,1,5,6,2,3,4] (.exec 7 (.first 8 (.first 9 (.exec 10 .nil)))))),([],(.first 1 (.first 0 (.exec 2 (.first 3 (.exec 4 .nil))))))] []=some qBD:=by kernel_rfl
abbrev qyC:Nat:=120
def q2C:FnI:=⟨18,[.cell 8 23 true],
 (sq (rg [xo 4 (.box 127 (.t 0)),xo 8 (.alloc 45 zl1)])
 (sq (rg [fo 9 1 4,lo 10 9,xo 11 (nk 10),fo 12 10 11,lo 13 12,mo 14 1,mo 15 2,mo 16 3,xo 17 (.build zl1 [(0,1,(.t 13)),(2,1,(.t 14)),(3,1,(.t 15)),(4,1,(ci (-1))),(6,1,(.t 16))]),xn (st 23 8 17)])
 .ret))⟩
theorem quC:trFn Tryz.prog 120 [] []=some q2C:=by kernel_rfl
abbrev qgH:Nat:=121
def q0D:FnI:=⟨16,[],
 (sq (rg [xo 3 (.box 127 (.t 0))])
 (rd [] (of 0 (fo 6 1 3)
 (ot 1 (lo 7 6)
 (of 4 (mo 10 1)
 (of 6 (xo 12 (nk 7))
 (of 7 (fo 13 11 12)
 (of 2 (fo 8 1 3)
 (of 5 (mo 11 2)
 (ot 3 (lo 9 8)
 (.op ⟨8,false,[3],xn (st 1 13 10)⟩
 (of 9 (xo 14 (nk 9))
 (of 10 (fo 15 21 14)
 (of 11 (xn (st 1 15 11))
 .nil))))))))))))))⟩
theorem qQH:trFn Tryz.prog 121 [([],(fs [0,1,4,6,7,2,5,3] (.exec 8 (.first 9 (.first 10 (.exec 11 .nil))))))] []=some q0D:=by kernel_rfl
abbrev qAC:Nat:=122
def qDC:FnI:=⟨29,[.tmp 6],
 (sq (rg [xo 5 (.box 132 (.t 2)),xo 6 (.mov (.c (.slice none 0 0)))])
 (sq (rg [mo 10 0,xo 11 (.len false (.t 10)),xo 12 (.msl 85 2 32 [(.int .u64 (0)),(.slice none 0 0)] (.t 11) (.t 11)),mo 7 12])
 (sq (sq (rg [mo 13 0,xo 14 (.len false (.t 13)),xo 15 (.mov (ci 0))])
 (.block 0
 (.loop [15] [16,17,18,19,9,8,20,21,22,23,24,25,26,27,15]
 (sq (rg [xo 16 (bi .lss 15 14)])
 (sq (cD 16
 .skip
 (.exit 0))
 (sq (.block 1
 (sq (rg [mo 17 15,xo 18 (ia 2 13 15),xo 19 (lt 2 18),xo 9 (.alloc 85 [(.v (.int .u64 (0))),(.v (.slice none 0 0))]),mo 8 17,xn (st 2 9 19)])
 (rg [mo 20 7,mo 21 8,mo 22 1,xo 23 (lt 0 5),xo 24 (lt 2 9),xo 25 (.callv (.t 22) [(.t 23),(.t 24)]),xo 26 (ia 2 20 21),xn (st 2 26 25)])))
 (rg [xo 27 (bc .add 15 1),mo 15 27])))))))
 (sq (rg [mo 28 7,mo 6 28])
 .ret))))⟩
theorem q9B:trFn Tryz.prog 122 [] [[15]]=some qDC:=by kernel_rfl
abbrev qaB:Nat:=123
def qpF:FnI:=⟨11,[.cell 4 2 true],
 (sq (rg [xo 2 (.box 132 (.t 0)),xo 3 (.box 85 (.t 1)),xo 4 (.alloc 85 [(.v (.int .u64 (0))),(.v (.slice none 0 0))])])
 (sq (rg [fo 5 1 3,lo 6 5,xo 7 (lt 0 2),xo 8 (.call 150 [(.t 6),(.c (.func (.func 151) #[] #[])),(.t 7)]),fo 9 1 3,xn (st 1 9 8)])
 (sq (rg [xo 10 (lt 2 3),xn (st 2 4 10)])
 .ret)))⟩
theorem qTF:trFn Tryz.prog 123 [] []=some qpF:=by kernel_rfl
abbrev qxC:Nat:=124
def q0C:FnI:=⟨8,[.tmp 2],
 (sq (rg [xo 2 (.mov (.c (.slice none 0 0)))])
 (sq (sq (rg [mo 3 0,xo 4 (.binn 0 false (.t 3))])
 (cD 4
 (sq (rg [xo 2 (.mov (.c (.slice none 0 0)))])
 .ret)
 .skip))
 (sq (rg [xo 5 (.bsl 36 1 0 [] []),mo 6 0,xo 7 (.app 36 1 8 (.t 5) (.t 6)),mo 2 7])
 .ret)))⟩
theorem qtC:trFn Tryz.prog 124 [] []=some q0C:=by kernel_rfl
abbrev qVL:Nat:=125
theorem qbL:FnOk Tryz.prog 125:=FnOk.of (by kernel_rfl)
def qsH:FnI:=⟨16,[.tmp 3],
 (sq (rg [xo 3 (.mov (.b false))])
 (sq (rg [mo 4 0,xo 5 (bc .eql 4 0),mo 6 5,xg 7 (lf 1) 6 false,xg 8 (bc .lss 7 9223372036854775807) 6 false,xg 9 (mv 8) 6 false,xg 10 (mv 0) 9 true,xg 11 (lf 1) 9 true,xg 12 (bc .add 11 1) 9 true,xg 13 (bi .eql 10 12) 9 true,xg 14 (.pick (.t 9) (.t 13) (.b false)) 6 false,xo 15 (.pick (.t 6) (.b true) (.t 14)),mo 3 15])
 .ret))⟩
theorem q3K:trFn Tryz.prog 125 [] []=some qsH:=by kernel_rfl
abbrev q8A:Nat:=126
def qVA:FnI:=⟨19,[.tmp 4],
 (sq (rg [xo 4 (.mov (ci 0))])
 (sq (sq (rg [mo 6 0,xo 7 (.len false (.t 6)),xo 8 (.mov (ci 0))])
 (.block 0
 (.loop [8] [9,10,5,11,12,13,14,15,16,17,4,18,8]
 (sq (rg [xo 9 (bi .lss 8 7)])
 (sq (cD 9
 .skip
 (.exit 0))
 (sq (.block 1
 (sq (rg [mo 10 8,mo 5 10])
 (sq (rg [mo 11 1,mo 12 0,mo 13 5,xo 14 (ia 3 12 13),xo 15 (lt 3 14),xo 16 (.callv (.t 11) [(.t 15)])])
 (cD 16
 (sq (rg [mo 17 5,mo 4 17])
 .ret)
 .skip))))
 (rg [xo 18 (bc .add 8 1),mo 8 18])))))))
 (sq (rg [xo 4 (.mov (ci (-1)))])
 .ret)))⟩
theorem q6A:trFn Tryz.prog 126 [] [[8]]=some qVA:=by kernel_rfl
abbrev qQL:Nat:=127
def qkL:FnI:=⟨40,[.cell 2 3 true,.tmp 3],
 (sq (rg [xo 2 (.alloc 107 [(.v (.int .u64 (0))),(.v (.slice none 0 0)),(vi 0)]),xo 3 (.mov (ci 0))])
 (sq (sq (rg [mo 6 0,xo 7 (bc .lss 6 1),mo 8 7,xg 9 (mv 0) 8 false,xg 10 (bc .gtr 9 4) 8 false,xo 11 (.pick (.t 8) (.b true) (.t 10))])
 (cD 11
 (sq (rg [xo 12 (.build [(.v (.int .u64 (0))),(.v (.slice none 0 0)),(vi 0)] []),xn (st 3 2 12),xo 3 (.mov (ci 1))])
 .ret)
 .skip))
 (sq (rg [mo 13 0,xo 14 (.msl 3 1 8 [(.int .i64 (0))] (.t 13) (.t 13)),xo 15 (.build [(.v (.int .u64 (0))),(.v (.slice none 0 0)),(vi 0)] [(1,1,(.t 14))]),xo 4 (.alloc 107 [(.v (.int .u64 (0))),(.v (.slice none 0 0)),(vi 0)]),xn (st 3 4 15)])
 (sq (sq (rg [fo 16 1 4,lo 17 16,xo 18 (.len false (.t 17)),xo 19 (.mov (ci 0))])
 (.block 0
 (.loop [19] [20,21,5,22,23,24,25,26,27,28,19]
 (sq (rg [xo 20 (bi .lss 19 18)])
 (sq (cD 20
 .skip
 (.exit 0))
 (sq (.block 1
 (sq (rg [mo 21 19,mo 5 21])
 (rg [fo 22 1 4,lo 23 22,mo 24 5,mo 25 5,xo 26 (bc .add 25 1),xo 27 (ia 1 23 24),xn (st 1 27 26)])))
 (rg [xo 28 (bc .add 19 1),mo 19 28])))))))
 (sq (rg [fo 29 1 4,lo 30 29,mo 31 0,xo 32 (bc .sub 31 1),xo 33 (ia 1 30 32),xn (.store 1 (.t 33) (ci (-1)))])
 (sq (rg [xo 35 (.call 152 [(.c (.int .u32 (0))),(ci 0)]),mo 34 35,xo 36 (.ext 0 (.t 34)),xo 37 (.ext 1 (.t 34)),fo 38 0 4,xn (st 1 38 36)])
 (sq (rg [xo 39 (lt 3 4),xn (st 3 2 39),xo 3 (.mov (ci 0))])
 .ret)))))))⟩
theorem qxK:trFn Tryz.prog 127 [] [[19]]=some qkL:=by kernel_rfl
abbrev qyN:Nat:=135
def qFO:FnI:=⟨25,[.tmp 2,.tmp 3],
 (sq (rg [xo 2 (.mov (.c (.slice none 0 0))),xo 3 (.mov (ci 0))])
 (sq (sq (rg [mo 6 0,xo 7 (bc .lss 6 1),mo 8 7,xg 9 (mv 0) 8 false,xg 10 (bc .gtr 9 8) 8 false,xo 11 (.pick (.t 8) (.b true) (.t 10))])
 (cD 11
 (sq (rg [xo 2 (.mov (.c (.slice none 0 0))),xo 3 (.mov (ci 1))])
 .ret)
 .skip))
 (sq (rg [mo 12 0,xo 13 (.msl 139 1 24 [(.slice none 0 0)] (.t 12) (.t 12)),mo 4 13])
 (sq (sq (rg [mo 14 4,xo 15 (.len false (.t 14)),xo 16 (.mov (ci 0))])
 (.block 0
 (.loop [16] [17,18,5,19,20,21,22,23,16]
 (sq (rg [xo 17 (bi .lss 16 15)])
 (sq (cD 17
 .skip
 (.exit 0))
 (sq (.block 1
 (sq (rg [mo 18 16,mo 5 18])
 (rg [mo 19 4,mo 20 5,xo 21 (.msl 36 1 8 [(.int .u64 (0))] (ci 6) (ci 6)),xo 22 (ia 1 19 20),xn (st 1 22 21)])))
 (rg [xo 23 (bc .add 16 1),mo 16 23])))))))
 (sq (rg [mo 24 4,mo 2 24,xo 3 (.mov (ci 0))])
 .ret)))))⟩
theorem qUN:trFn Tryz.prog 135 [] [[16]]=some qFO:=by kernel_rfl
abbrev qID:Nat:=136
def qQB:FnI:=⟨19,[.tmp 4],
 (sq (rg [xo 4 (.mov (ci 0))])
 (sq (sq (rg [mo 6 0,xo 7 (.len false (.t 6)),xo 8 (.mov (ci 0))])
 (.block 0
 (.loop [8] [9,10,5,11,12,13,14,15,16,17,4,18,8]
 (sq (rg [xo 9 (bi .lss 8 7)])
 (sq (cD 9
 .skip
 (.exit 0))
 (sq (.block 1
 (sq (rg [mo 10 8,mo 5 10])
 (sq (rg [mo 11 1,mo 12 0,mo 13 5,xo 14 (ia 1 12 13),lo 15 14,xo 16 (.callv (.t 11) [(.t 15)])])
 (cD 16
 (sq (rg [mo 17 5,mo 4 17])
 .ret)
 .skip))))
 (rg [xo 18 (bc .add 8 1),mo 8 18])))))))
 (sq (rg [xo 4 (.mov (ci (-1)))])
 .ret)))⟩
theorem qDD:trFn Tryz.prog 136 [] [[8]]=some qQB:=by kernel_rfl
abbrev qSL:Nat:=137
theorem qaL:FnOk Tryz.prog 137:=FnOk.of (by kernel_rfl)
def qoH:FnI:=⟨8,[.tmp 3],
 (sq (rg [xo 2 (.box 56 (.t 0)),xo 3 (.mov (.b false))])
 (sq (rg [fo 4 0 2,lo 5 4,lo 6 1,xo 7 (bi .eql 5 6),mo 3 7])
 .ret))⟩
theorem qzK:trFn Tryz.prog 137 [] []=some qoH:=by kernel_rfl
abbrev qOL:Nat:=138
def qjL:FnI:=⟨69,[.cell 2 3 true],
 (sq (rg [xo 1 (.box 60 (.t 0)),xo 2 (.alloc 33 [(.v (.slice none 0 0)),(.v (.slice none 0 0)),(.v (.slice none 0 0))])])
 (sq (rg [fo 7 0 1,lo 8 7,fo 9 2 1,lo 10 9,xo 11 (.build [(.v (.slice none 0 0)),(.v (.slice none 0 0)),(.v (.slice none 0 0))] [(0,1,(.t 8)),(2,1,(.t 10))]),xo 3 (.alloc 33 [(.v (.slice none 0 0)),(.v (.slice none 0 0)),(.v (.slice none 0 0))]),xn (st 3 3 11)])
 (sq (sq (rg [fo 12 1 1,lo 13 12,xo 14 (.len false (.t 13)),xo 15 (.mov (ci 0))])
 (.block 0
 (.loop [15] [16,17,18,5,19,20,21,22,23,6,24,25,26,27,28,29,30,31,32,33,34,35,36,37,38,39,40,41,42,43,44,45,46,47,48,49,50,51,52,53,54,55,56,57,58,59,60,61,62,63,64,65,66,67,15]
 (sq (rg [xo 16 (bi .lss 15 14)])
 (sq (cD 16
 .skip
 (.exit 0))
 (sq (.block 1
 (sq (rg [xo 17 (ia 4 13 15),xo 18 (lt 4 17),xo 5 (.alloc 117 [(vi 0),(.v (.string ⟨#[]⟩)),(.v (.string ⟨#[]⟩)),(vi 0)]),xn (st 4 5 18)])
 (sq (rg [fo 19 1 5,lo 20 19,fo 21 2 5,lo 22 21,xo 23 (.build [(.v (.string ⟨#[]⟩)),(.v (.string ⟨#[]⟩)),(.v (.string ⟨#[]⟩)),(.v (.string ⟨#[]⟩))] [(1,1,(.t 20)),(2,1,(.t 22))]),xo 6 (.alloc 90 [(.v (.string ⟨#[]⟩)),(.v (.string ⟨#[]⟩)),(.v (.string ⟨#[]⟩)),(.v (.string ⟨#[]⟩))]),xn (st 4 6 23)])
 (sq (sq (rg [fo 24 0 5,lo 25 24,xo 26 (bc .geq 25 0),mo 27 26,xg 28 (fa 0 5) 27 true,xg 29 (lf 28) 27 true,xg 30 (fa 0 1) 27 true,xg 31 (lf 30) 27 true,xg 32 (.len false (.t 31)) 27 true,xg 33 (bi .lss 29 32) 27 true,xo 34 (.pick (.t 27) (.t 33) (.b false))])
 (cD 34
 (rg [fo 35 0 1,lo 36 35,fo 37 0 5,lo 38 37,xo 39 (ia 1 36 38),lo 40 39,fo 41 0 6,xn (st 1 41 40)])
 .skip))
 (sq (sq (rg [fo 42 3 5,lo 43 42,xo 44 (bc .geq 43 0),mo 45 44,xg 46 (fa 3 5) 45 true,xg 47 (lf 46) 45 true,xg 48 (fa 2 1) 45 true,xg 49 (lf 48) 45 true,xg 50 (.len false (.t 49)) 45 true,xg 51 (bi .lss 47 50) 45 true,xo 52 (.pick (.t 45) (.t 51) (.b false))])
 (cD 52
 (rg [fo 53 2 1,lo 54 53,fo 55 3 5,lo 56 55,xo 57 (ia 4 54 56),fo 58 0 57,lo 59 58,fo 60 3 6,xn (st 1 60 59)])
 .skip))
 (rg [fo 61 1 3,lo 62 61,xo 63 (lt 4 6),xo 64 (.bsl 90 4 1 [(.v (.string ⟨#[]⟩)),(.v (.string ⟨#[]⟩)),(.v (.string ⟨#[]⟩)),(.v (.string ⟨#[]⟩))] [(0,4,(.t 63))]),xo 65 (.app 90 4 64 (.t 62) (.t 64)),fo 66 1 3,xn (st 1 66 65)]))))))
 (rg [xo 67 (bc .add 15 1),mo 15 67])))))))
 (sq (rg [xo 68 (lt 3 3),xn (st 3 2 68)])
 .ret))))⟩
theorem qvK:trFn Tryz.prog 138 [] [[15]]=some qjL:=by kernel_rfl
abbrev qxB:Nat:=139
def qhA:FnI:=⟨19,[.tmp 4],
 (sq (rg [xo 4 (.mov (ci 0))])
 (sq (sq (rg [mo 6 0,xo 7 (.len false (.t 6)),xo 8 (.mov (ci 0))])
 (.block 0
 (.loop [8] [9,10,5,11,12,13,14,15,16,17,4,18,8]
 (sq (rg [xo 9 (bi .lss 8 7)])
 (sq (cD 9
 .skip
 (.exit 0))
 (sq (.block 1
 (sq (rg [mo 10 8,mo 5 10])
 (sq (rg [mo 11 1,mo 12 0,mo 13 5,xo 14 (ia 3 12 13),xo 15 (lt 3 14),xo 16 (.callv (.t 11) [(.t 15)])])
 (cD 16
 (sq (rg [mo 17 5,mo 4 17])
 .ret)
 .skip))))
 (rg [xo 18 (bc .add 8 1),mo 8 18])))))))
 (sq (rg [xo 4 (.mov (ci (-1)))])
 .ret)))⟩
theorem qvB:trFn Tryz.prog 139 [] [[8]]=some qhA:=by kernel_rfl
abbrev q0N:Nat:=140
def qHO:FnI:=⟨9,[.tmp 2],
 (sq (rg [xo 2 (.mov (.b false))])
 (sq (rg [mo 3 0,xo 4 (.bini .geq (.t 3) (.c (.int .u8 (97)))),mo 5 4,xg 6 (mv 0) 5 true,xg 7 (.bini .leq (.t 6) (.c (.int .u8 (122)))) 5 true,xo 8 (.pick (.t 5) (.t 7) (.b false)),mo 2 8])
 .ret))⟩
theorem qWN:trFn Tryz.prog 140 [] []=some qHO:=by kernel_rfl
abbrev qaM:Nat:=141
def qWI:FnI:=⟨2,[.cell 0 1 true],
 (sq (rg [xo 0 (.alloc 188 [(.v .nilFunc)])])
 (sq (rg [xo 1 (.build [(.v .nilFunc)] [(0,1,(.c (.func (.func 162) #[] #[])))]),xn (st 1 0 1)])
 .ret))⟩
theorem q3L:trFn Tryz.prog 141 [] []=some qWI:=by kernel_rfl
abbrev qhF:Nat:=142
def q1C:FnI:=⟨28,[.tmp 6],
 (sq (rg [xo 3 (.box 188 (.t 0)),xo 6 (.mov (.b false))])
 (sq (sq (rg [mo 8 1,xo 9 (.len true (.t 8)),xo 10 (.mov (ci 0))])
 (.block 0
 (.loop [10] [11,12,7,13,14,15,16,17,18,19,20,21,22,23,24,25,26,6,27,10]
 (sq (rg [xo 11 (bi .lss 10 9)])
 (sq (cD 11
 .skip
 (.exit 0))
 (sq (.block 1
 (sq (rg [mo 12 10,mo 7 12])
 (sq (rd [] (of 0 (mo 13 1)
 (of 1 (mo 14 7)
 (of 2 (xo 15 (.idxs (.t 13) (.t 14)))
 (of 3 (mo 16 2)
 (of 4 (xo 17 (bi .neq 15 16))
 (of 5 (mo 18 17)
 (of 6 (xg 19 (fa 0 3) 18 true)
 (ot 7 (xg 20 (lf 19) 18 true)
 (of 8 (xg 21 (mv 1) 18 true)
 (of 9 (xg 22 (mv 7) 18 true)
 (of 10 (xg 23 (.idxs (.t 21) (.t 22)) 18 true)
 (of 11 (xg 24 (.callv (.t 20) [(.t 23)]) 18 true)
 (of 12 (xg 25 (.not (.t 24)) 18 true)
 (of 13 (xo 26 (.pick (.t 18) (.t 25) (.b false)))
 .nil)))))))))))))))
 (cD 26
 (sq (rg [xo 6 (.mov (.b false))])
 .ret)
 .skip))))
 (rg [xo 27 (bc .add 10 1),mo 10 27])))))))
 (sq (rg [xo 6 (.mov (.b true))])
 .ret)))⟩
theorem qUF:trFn Tryz.prog 142 [([],(fs [0,1,2,3,4,5,6,7,8,9,10] (.exec 11 (.first 12 (.first 13 .nil)))))] [[10]]=some q1C:=by kernel_rfl
abbrev qVJ:Nat:=143
def qnJ:FnI:=⟨15,[.tmp 6],
 (sq (rg [xo 6 (.mov (.b false))])
 (sq (rg [mo 7 0,mo 8 1,xo 9 (bi .geq 7 8),mo 10 9,xg 11 (mv 0) 10 true,xg 12 (mv 2) 10 true,xg 13 (bi .leq 11 12) 10 true,xo 14 (.pick (.t 10) (.t 13) (.b false)),mo 6 14])
 .ret))⟩
theorem q4I:trFn Tryz.prog 143 [] []=some qnJ:=by kernel_rfl
abbrev qUC:Nat:=144
def qXC:FnI:=⟨9,[.tmp 4],
 (sq (rg [xo 4 (.mov (.b false))])
 (sq (rg [mo 5 0,mo 6 1,xo 7 (.call 163 [(.t 5),(.t 6)]),xo 8 (bc .geq 7 0),mo 4 8])
 .ret))⟩
theorem qQC:trFn Tryz.prog 144 [] []=some qXC:=by kernel_rfl
abbrev qBK:Nat:=145
def qGK:FnI:=⟨8,[.tmp 4],
 (sq (rg [xo 3 (.box 9 (.t 1)),xo 4 (.mov (.b false))])
 (sq (rg [mo 5 0,xo 6 (.mkf (.func 165) [] [(.t 3)]),xo 7 (.call 164 [(.t 5),(.t 6)]),mo 4 7])
 .ret))⟩
theorem qzJ:trFn Tryz.prog 145 [] []=some qGK:=by kernel_rfl
abbrev qRJ:Nat:=146
def qmJ:FnI:=⟨19,[.tmp 2],
 (sq (rg [xo 2 (.mov (.b false))])
 (sq (sq (rg [mo 6 0,xo 7 (.call 166 [(.t 6),(.c (.string ⟨#[42,46]⟩))]),mo 5 7,xo 8 (.ext 0 (.t 5)),xo 9 (.ext 1 (.t 5)),mo 3 8,mo 4 9])
 (sq (rg [mo 10 4])
 (cD 10
 (sq (rg [mo 11 3,xo 12 (.call 167 [(.t 11)]),mo 2 12])
 .ret)
 .skip)))
 (sq (rg [mo 13 0,xo 14 (.bins .eql (.t 13) (.c (.string ⟨#[42]⟩))),mo 15 14,xg 16 (mv 0) 15 false,xg 17 (.call 167 [(.t 16)]) 15 false,xo 18 (.pick (.t 15) (.b true) (.t 17)),mo 2 18])
 .ret)))⟩
theorem q0I:trFn Tryz.prog 146 [] []=some qmJ:=by kernel_rfl
abbrev qbM:Nat:=147
def qyM:FnI:=⟨21,[.tmp 2],
 (sq (rg [xo 2 (.mov (.b false))])
 (sq (rg [mo 3 0,xo 4 (.len true (.t 3)),xo 5 (bc .gtr 4 0),mo 6 5,xg 7 (mv 0) 6 true,xg 8 (.len true (.t 7)) 6 true,xg 9 (bc .leq 8 32) 6 true,xo 10 (.pick (.t 6) (.t 9) (.b false)),mo 11 10,xg 12 (mv 0) 11 true,xg 13 (.idxs (.t 12) (ci 0)) 11 true,xg 14 (.bini .eql (.t 13) (.c (.int .u8 (47)))) 11 true,xo 15 (.pick (.t 11) (.t 14) (.b false)),mo 16 15,xg 17 (.call 141 []) 16 true,xg 18 (mv 0) 16 true,xg 19 (.call 142 [(.t 17),(.t 18),(.c (.int .u8 (47)))]) 16 true,xo 20 (.pick (.t 16) (.t 19) (.b false)),mo 2 20])
 .ret))⟩
theorem q4L:trFn Tryz.prog 147 [] []=some qyM:=by kernel_rfl
abbrev qPJ:Nat:=148
theorem qcJ:FnOk Tryz.prog 148:=FnOk.of (by kernel_rfl)
def qqF:FnI:=⟨44,[],
 (.scope
 (sq (rg [fo 5 1 1,lo 6 5,xo 7 (.len false (.t 6)),xo 8 (.msl 4 1 1 [(.bool false)] (.t 7) (.t 7)),mo 3 8])
 (sq (rg [fo 9 0 1,lo 10 9,xo 11 (.call 149 [(.t 10)]),mo 4 11])
 (sq (.label 0)
 (sq (.block 0
 (.loop [4] [12,13,14,15,16,17,18,19,20,21,22,23,24,25,26,27,28,4,29,30,31,32,33,34,35,36,37,38,39,40]
 (sq (sq (rg [mo 12 4,xo 13 (.bini .neq (.t 12) (ci (-1)))])
 (cD 13
 .skip
 (.exit 0)))
 (.block 1
 (sq (sq (rg [mo 14 4,xo 15 (bc .lss 14 0),mo 16 15,xg 17 (mv 4) 16 false,xg 18 (fa 1 1) 16 false,xg 19 (lf 18) 16 false,xg 20 (.len false (.t 19)) 16 false,xg 21 (bi .geq 17 20) 16 false,xo 22 (.pick (.t 16) (.b true) (.t 21)),mo 23 22,xg 24 (mv 3) 23 false,xg 25 (mv 4) 23 false,xg 26 (ia 1 24 25) 23 false,xg 27 (lf 26) 23 false,xo 28 (.pick (.t 23) (.b true) (.t 27))])
 (cD 28
 (sq (rg [xo 4 (.mov (ci (-2)))])
 (.exit 0))
 .skip))
 (sq (rg [mo 29 3,mo 30 4,xo 31 (ia 1 29 30),xn (.store 1 (.t 31) (.b true))])
 (sq (sq (rg [mo 32 0,mo 33 4,xo 34 (.callv (.t 32) [(.t 33)]),xo 35 (.not (.t 34))])
 (cD 35
 .ret
 .skip))
 (rg [fo 36 1 1,lo 37 36,mo 38 4,xo 39 (ia 1 37 38),lo 40 39,mo 4 40]))))))))
 (rg [mo 41 0,mo 42 4,xo 43 (.callv (.t 41) [(.t 42)])]))))))⟩
theorem qyI:trFn Tryz.prog 148 [] [[4]]=some qqF:=by kernel_rfl
abbrev qxN:Nat:=149
def qEO:FnI:=⟨7,[.tmp 2],
 (sq (rg [xo 2 (.mov (ci 0))])
 (sq (rg [mo 3 0,xo 4 (.conv .u32 (.t 3)),xo 5 (.conv .i64 (.t 4)),xo 6 (.bini .add (.t 5) (ci (-1))),mo 2 6])
 .ret))⟩
theorem qTN:trFn Tryz.prog 149 [] []=some qEO:=by kernel_rfl
abbrev qTC:Nat:=150
def qWC:FnI:=⟨29,[.tmp 6],
 (sq (rg [xo 5 (.box 132 (.t 2)),xo 6 (.mov (.c (.slice none 0 0)))])
 (sq (rg [mo 10 0,xo 11 (.len false (.t 10)),xo 12 (.msl 107 3 40 [(.int .u64 (0)),(.slice none 0 0),(.int .i64 (0))] (.t 11) (.t 11)),mo 7 12])
 (sq (sq (rg [mo 13 0,xo 14 (.len false (.t 13)),xo 15 (.mov (ci 0))])
 (.block 0
 (.loop [15] [16,17,18,19,9,8,20,21,22,23,24,25,26,27,15]
 (sq (rg [xo 16 (bi .lss 15 14)])
 (sq (cD 16
 .skip
 (.exit 0))
 (sq (.block 1
 (sq (rg [mo 17 15,xo 18 (ia 3 13 15),xo 19 (lt 3 18),xo 9 (.alloc 107 [(.v (.int .u64 (0))),(.v (.slice none 0 0)),(vi 0)]),mo 8 17,xn (st 3 9 19)])
 (rg [mo 20 7,mo 21 8,mo 22 1,xo 23 (lt 0 5),xo 24 (lt 3 9),xo 25 (.callv (.t 22) [(.t 23),(.t 24)]),xo 26 (ia 3 20 21),xn (st 3 26 25)])))
 (rg [xo 27 (bc .add 15 1),mo 15 27])))))))
 (sq (rg [mo 28 7,mo 6 28])
 .ret))))⟩
theorem qPC:trFn Tryz.prog 150 [] [[15]]=some qWC:=by kernel_rfl
abbrev qCC:Nat:=151
def q3G:FnI:=⟨10,[.cell 4 3 true],
 (sq (rg [xo 2 (.box 132 (.t 0)),xo 3 (.box 107 (.t 1)),xo 4 (.alloc 107 [(.v (.int .u64 (0))),(.v (.slice none 0 0)),(vi 0)])])
 (sq (rg [fo 5 1 3,lo 6 5,xo 7 (.call 76 [(.t 6)]),fo 8 1 3,xn (st 1 8 7)])
 (sq (rg [xo 9 (lt 3 3),xn (st 3 4 9)])
 .ret)))⟩
theorem qbG:trFn Tryz.prog 151 [] []=some q3G:=by kernel_rfl
abbrev qRP:Nat:=152
def qcP:FnI:=⟨19,[.tmp 4,.tmp 5],
 (sq (rg [xo 4 (.mov (.c (.int .u64 (0)))),xo 5 (.mov (ci 0))])
 (sq (sq (rg [mo 6 1,xo 7 (.bini .lss (.t 6) (ci (-1))),mo 8 7,xg 9 (mv 1) 8 false,xg 10 (bc .gtr 9 2147483646) 8 false,xo 11 (.pick (.t 8) (.b true) (.t 10))])
 (cD 11
 (sq (rg [xo 4 (.mov (.c (.int .u64 (0)))),xo 5 (.mov (ci 1))])
 .ret)
 .skip))
 (sq (rg [mo 12 0,xo 13 (.conv .u64 (.t 12)),xo 14 (.bini .shl (.t 13) (.c (.int .u64 (32)))),mo 15 1,xo 16 (.bini .sub (.t 15) (ci (-1))),xo 17 (.conv .u64 (.t 16)),xo 18 (bi .or 14 17),mo 4 18,xo 5 (.mov (ci 0))])
 .ret)))⟩
theorem q0O:trFn Tryz.prog 152 [] []=some qcP:=by kernel_rfl
abbrev qyB:Nat:=162
theorem qWG:FnOk Tryz.prog 162:=FnOk.of (by kernel_rfl)
def qFK:FnI:=⟨17,[.tmp 2],
 (sq (rg [xo 2 (.mov (.b false))])
 (sq (rg [mo 3 0,xo 4 (.call 140 [(.t 3)]),mo 5 4,xg 6 (mv 0) 5 false,xg 7 (.bini .geq (.t 6) (.c (.int .u8 (48)))) 5 false,xg 8 (mv 7) 5 false,xg 9 (mv 0) 8 true,xg 10 (.bini .leq (.t 9) (.c (.int .u8 (57)))) 8 true,xg 11 (.pick (.t 8) (.t 10) (.b false)) 5 false,xo 12 (.pick (.t 5) (.b true) (.t 11)),mo 13 12,xg 14 (mv 0) 13 false,xg 15 (.bini .eql (.t 14) (.c (.int .u8 (45)))) 13 false,xo 16 (.pick (.t 13) (.b true) (.t 15)),mo 2 16])
 .ret))⟩
theorem qyJ:trFn Tryz.prog 162 [] []=some qFK:=by kernel_rfl
abbrev qwC:Nat:=163
def qzC:FnI:=⟨19,[.tmp 4],
 (sq (rg [xo 4 (.mov (ci 0))])
 (sq (sq (rg [mo 6 0,xo 7 (.len false (.t 6)),xo 8 (.mov (ci 0))])
 (.block 0
 (.loop [8] [9,10,5,11,12,13,14,15,16,17,4,18,8]
 (sq (rg [xo 9 (bi .lss 8 7)])
 (sq (cD 9
 .skip
 (.exit 0))
 (sq (.block 1
 (sq (rg [mo 10 8,mo 5 10])
 (sq (rg [mo 11 1,mo 12 0,mo 13 5,xo 14 (ia 1 12 13),lo 15 14,xo 16 (.bins .eql (.t 11) (.t 15))])
 (cD 16
 (sq (rg [mo 17 5,mo 4 17])
 .ret)
 .skip))))
 (rg [xo 18 (bc .add 8 1),mo 8 18])))))))
 (sq (rg [xo 4 (.mov (ci (-1)))])
 .ret)))⟩
theorem qsC:trFn Tryz.prog 163 [] [[8]]=some qzC:=by kernel_rfl
abbrev quA:Nat:=164
def qTA:FnI:=⟨9,[.tmp 4],
 (sq (rg [xo 4 (.mov (.b false))])
 (sq (rg [mo 5 0,mo 6 1,xo 7 (.call 173 [(.t 5),(.t 6)]),xo 8 (bc .geq 7 0),mo 4 8])
 .ret))⟩
theorem qsA:trFn Tryz.prog 164 [] []=some qTA:=by kernel_rfl
abbrev qeI:Nat:=165
theorem qiI:FnOk Tryz.prog 165:=FnOk.of (by kernel_rfl)
def qIF:FnI:=⟨8,[.tmp 3],
 (sq (rg [xo 2 (.box 88 (.t 0)),xo 3 (.mov (.b false))])
 (sq (rg [fo 4 0 2,lo 5 4,lo 6 1,xo 7 (.bins .eql (.t 5) (.t 6)),mo 3 7])
 .ret))⟩
theorem qbI:trFn Tryz.prog 165 [] []=some qIF:=by kernel_rfl
abbrev qqG:Nat:=166
def q5G:FnI:=⟨11,[.tmp 4,.tmp 5],
 (sq (rg [xo 4 (.mov (.c (.string ⟨#[]⟩))),xo 5 (.mov (.b false))])
 (sq (rg [mo 6 0,mo 7 1,xo 8 (.call 174 [(.t 6),(.t 7)]),xo 9 (.ext 0 (.t 8)),xo 10 (.ext 1 (.t 8)),mo 4 9,mo 5 10])
 .ret))⟩
theorem qdG:trFn Tryz.prog 166 [] []=some q5G:=by kernel_rfl
abbrev qdM:Nat:=167
def q0M:FnI:=⟨13,[.cell 2 1 false],
 (sq (rg [xo 2 (.alloc 4 [(.v (.bool false))])])
 (sq (sq (rg [mo 4 0,xo 5 (.len true (.t 4)),xo 6 (bc .gtr 5 32)])
 (cD 6
 (sq (rg [xn (.store 1 (.t 2) (.b false))])
 .ret)
 .skip))
 (sq (sq (rg [mo 7 0,xo 8 (.call 175 [(.t 7),(.c (.int .u8 (46)))])])
 (.block 0
 (.rfun (.t 8) [9]
 (rg [mo 3 9])
 (.block 1
 (sq (rg [mo 10 3,xo 11 (.call 106 [(.t 10)]),xo 12 (.not (.t 11))])
 (cD 12
 (sq (rg [xn (.store 1 (.t 2) (.b false))])
 .ret)
 .skip))))))
 (sq (rg [xn (.store 1 (.t 2) (.b true))])
 .ret))))⟩
theorem q6L:trFn Tryz.prog 167 [] []=some q0M:=by kernel_rfl
abbrev q9A:Nat:=173
def qWA:FnI:=⟨19,[.tmp 4],
 (sq (rg [xo 4 (.mov (ci 0))])
 (sq (sq (rg [mo 6 0,xo 7 (.len false (.t 6)),xo 8 (.mov (ci 0))])
 (.block 0
 (.loop [8] [9,10,5,11,12,13,14,15,16,17,4,18,8]
 (sq (rg [xo 9 (bi .lss 8 7)])
 (sq (cD 9
 .skip
 (.exit 0))
 (sq (.block 1
 (sq (rg [mo 10 8,mo 5 10])
 (sq (rg [mo 11 1,mo 12 0,mo 13 5,xo 14 (ia 4 12 13),xo 15 (lt 4 14),xo 16 (.callv (.t 11) [(.t 15)])])
 (cD 16
 (sq (rg [mo 17 5,mo 4 17])
 .ret)
 .skip))))
 (rg [xo 18 (bc .add 8 1),mo 8 18])))))))
 (sq (rg [xo 4 (.mov (ci (-1)))])
 .ret)))⟩
theorem q7A:trFn Tryz.prog 173 [] [[8]]=some qWA:=by kernel_rfl
abbrev q0E:Nat:=174
def q9E:FnI:=⟨15,[.tmp 4,.tmp 5],
 (sq (rg [xo 4 (.mov (.c (.string ⟨#[]⟩))),xo 5 (.mov (.b false))])
 (sq (sq (rg [mo 6 0,mo 7 1,xo 8 (.call 180 [(.t 6),(.t 7)]),xo 9 (.not (.t 8))])
 (cD 9
 (sq (rg [mo 10 0,mo 4 10,xo 5 (.mov (.b false))])
 .ret)
 .skip))
 (sq (rg [mo 11 0,mo 12 1,xo 13 (.len true (.t 12)),xo 14 (.slcs (.t 11) (some (.t 13)) none),mo 4 14,xo 5 (.mov (.b true))])
 .ret)))⟩
theorem qqE:trFn Tryz.prog 174 [] []=some q9E:=by kernel_rfl
abbrev qRL:Nat:=175
def qnH:FnI:=⟨6,[.tmp 4],
 (sq (rg [xo 2 (.box 9 (.t 0)),xo 3 (.box 5 (.t 1)),xo 4 (.mov (.c .nilFunc))])
 (sq (rg [xo 5 (.mkf (.func 181) [] [(.t 2),(.t 3)]),mo 4 5])
 .ret))⟩
theorem qyK:trFn Tryz.prog 175 [] []=some qnH:=by kernel_rfl
abbrev qzE:Nat:=180
def q8E:FnI:=⟨18,[.tmp 4],
 (sq (rg [xo 4 (.mov (.b false))])
 (sq (rg [mo 5 0,xo 6 (.len true (.t 5)),mo 7 1,xo 8 (.len true (.t 7)),xo 9 (bi .geq 6 8),mo 10 9,xg 11 (mv 0) 10 true,xg 12 (mv 1) 10 true,xg 13 (.len true (.t 12)) 10 true,xg 14 (.slcs (.t 11) none (some (.t 13))) 10 true,xg 15 (mv 1) 10 true,xg 16 (.bins .eql (.t 14) (.t 15)) 10 true,xo 17 (.pick (.t 10) (.t 16) (.b false)),mo 4 17])
 .ret))⟩
theorem qpE:trFn Tryz.prog 180 [] []=some q8E:=by kernel_rfl
abbrev qQJ:Nat:=181
theorem qdJ:FnOk Tryz.prog 181:=FnOk.of (by kernel_rfl)
def qrF:FnI:=⟨23,[],
 (.block 0
 (.loop [] [5,6,7,4,8,9,10,11,12,13,14,15,16,17,18,19,20,21,22]
 (.block 1
 (sq (rg [lo 5 1,lo 6 2,xo 7 (.call 182 [(.t 5),(.t 6)]),mo 4 7])
 (sq (sq (rg [mo 8 4,xo 9 (bc .lss 8 0)])
 (cD 9
 (sq (rg [mo 10 0,lo 11 1,xo 12 (.callv (.t 10) [(.t 11)])])
 .ret)
 .skip))
 (sq (sq (rg [mo 13 0,lo 14 1,mo 15 4,xo 16 (.slcs (.t 14) none (some (.t 15))),xo 17 (.callv (.t 13) [(.t 16)]),xo 18 (.not (.t 17))])
 (cD 18
 .ret
 .skip))
 (rg [lo 19 1,mo 20 4,xo 21 (bc .add 20 1),xo 22 (.slcs (.t 19) (some (.t 21)) none),xn (st 1 1 22)])))))))⟩
theorem qzI:trFn Tryz.prog 181 [] [[]]=some qrF:=by kernel_rfl
abbrev qpG:Nat:=182
def q4G:FnI:=⟨8,[.tmp 4],
 (sq (rg [xo 4 (.mov (ci 0))])
 (sq (rg [mo 5 0,mo 6 1,xo 7 (.call 186 [(.t 5),(.t 6)]),mo 4 7])
 .ret))⟩
theorem qcG:trFn Tryz.prog 182 [] []=some q4G:=by kernel_rfl
abbrev qyE:Nat:=186
end Go.Proofs.YtkbbljngpglnkaaGreat
