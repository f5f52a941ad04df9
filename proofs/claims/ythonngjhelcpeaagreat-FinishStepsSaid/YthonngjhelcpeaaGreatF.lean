/- The functions, as the evaluator reads them: each is what the given program's code says (checked by the kernel). -/
import Derived.Test.YthonngjhelcpeaaGreatSxB
import Derived.Test.YthonngjhelcpeaaGreatRows
set_option linter.unusedVariables false
set_option linter.unusedSimpArgs false
namespace Go.Proofs.YthonngjhelcpeaaGreat
open Go.Proofs.YthonngjhelcpeaaGreat.Sx
abbrev zl0:List SV:=[(.v (.int .i64 (0))),(.v (.string ⟨#[]⟩)),(.v (.string ⟨#[]⟩)),(.v (.string ⟨#[]⟩)),(.v (.int .i64 (0))),(.v (.int .i64 (0))),(.v (.int .i64 (0))),(.v (.slice none 0 0)),(.v (.slice none 0 0)),(.v (.slice none 0 0)),(.v (.int .i64 (0))),(.v (.int .i64 (0))),(.v (.int .i64 (0))),(.v (.int .i64 (0))),(.v (.int .i64 (0))),(.v (.int .i64 (0))),(.v (.int .i64 (0))),(.v (.int .i64 (0))),(.v (.int .i64 (0))),(.v (.int .u64 (0))),(.v (.int .i64 (0))),(.v (.int .i64 (0))),(.v (.int .i64 (0))),(.v (.int .i64 (0))),(.v (.bool false)),(.v (.int .i64 (0))),(.v (.int .i64 (0))),(.v (.int .i64 (0))),(.v (.int .i64 (0))),(.v (.int .i64 (0))),(.v (.int .i64 (0))),(.v (.int .i64 (0))),(.v (.int .u64 (0))),(.v (.int .u64 (0))),(.v (.int .u64 (0))),(.v (.int .u64 (0))),(.v (.int .u64 (0))),(.v (.int .u64 (0))),(.v (.int .u64 (0))),(.v (.int .u64 (0))),(.v (.int .u64 (0))),(.v (.int .u64 (0))),(.v (.int .u64 (0))),(.v (.int .u64 (0)))]
abbrev zl1:List SV:=[(.v (.int .i64 (0))),(.v (.int .i64 (0))),(.v (.int .i64 (0))),(.v (.int .i64 (0))),(.v (.int .i64 (0))),(.v (.bool false)),(.v (.int .i64 (0))),(.v (.bool false)),(.v (.bool false)),(.v (.bool false)),(.v (.int .i64 (0))),(.v (.int .i64 (0))),(.v (.int .i64 (0))),(.v (.int .i64 (0))),(.v (.int .i64 (0))),(.v (.int .i64 (0))),(.v (.int .i64 (0))),(.v (.int .u64 (0))),(.v (.int .u64 (0))),(.v (.int .u64 (0))),(.v (.int .u64 (0))),(.v (.int .u64 (0))),(.v (.int .u64 (0)))]
abbrev zl2:List SV:=[(.v (.int .i64 (0))),(.v (.int .i64 (0))),(.v (.int .i64 (0))),(.v (.int .i64 (0))),(.v (.int .i64 (0))),(.v (.int .i64 (0))),(.v (.int .i64 (0))),(.v (.int .u64 (0))),(.v (.int .u64 (0))),(.v (.int .u64 (0))),(.v (.int .u64 (0))),(.v (.int .u64 (0))),(.v (.int .u64 (0)))]
abbrev qOA:Nat:=3
abbrev qpI:Nat:=4
abbrev qQC:Nat:=9
abbrev qJE:Nat:=22
abbrev qAF:Nat:=23
abbrev qLG:Nat:=24
abbrev qfI:Nat:=25
abbrev qBF:Nat:=26
abbrev qHA:Nat:=28
abbrev qwL:Nat:=29
abbrev qRM:Nat:=30
abbrev qCF:Nat:=31
abbrev q5B:Nat:=33
abbrev q2J:Nat:=35
abbrev qeD:Nat:=36
abbrev qsG:Nat:=37
abbrev qzC:Nat:=39
abbrev qbD:Nat:=41
abbrev qzP:Nat:=53
abbrev q4S:Nat:=58
abbrev qVN:Nat:=61
abbrev quA:Nat:=63
abbrev qrG:Nat:=64
abbrev qEA:Nat:=66
abbrev qzA:Nat:=70
abbrev q1J:Nat:=71
abbrev qXA:Nat:=73
abbrev qqA:Nat:=78
abbrev qcA:Nat:=80
abbrev qRC:Nat:=109
abbrev qeB:Nat:=113
abbrev qyC:Nat:=116
abbrev qSM:Nat:=129
abbrev qlC:Nat:=225
abbrev mv (n:Nat):SOp:=.mov (.t n)
abbrev lf (n:Nat):SOp:=.load false 1 (.t n)
abbrev lt (s n:Nat):SOp:=.load true s (.t n)
abbrev fa (k n:Nat):SOp:=.fadr k (.t n)
abbrev nk (n:Nat):SOp:=.nck (.t n)
abbrev ci (n:Int):Opd:=.c (.int .i64 n)
abbrev vi (n:Int):SV:=.v (.int .i64 n)
abbrev of (i:Nat) (o:SOper) (r:OT):OT:=.op ⟨i,false,[],o⟩ r
abbrev ot (i:Nat) (o:SOper) (r:OT):OT:=.op ⟨i,true,[],o⟩ r
abbrev mo (d n:Nat):SOper:=xo d (mv n)
abbrev lo (d n:Nat):SOper:=xo d (lf n)
abbrev fo (d k n:Nat):SOper:=xo d (fa k n)
abbrev sq (a b:SCode):SCode:=.seq a b
abbrev rg (l:List SOper):SCode:=.reg l
abbrev rd (l:List Nat) (t:OT):SCode:=.regD l t
abbrev bi (o:BinOp) (a b:Nat):SOp:=.bini o (.t a) (.t b)
abbrev bc (o:BinOp) (a:Nat) (n:Int):SOp:=.bini o (.t a) (ci n)
abbrev cD (a:Nat) (x y:SCode):SCode:=.cond (.t a) x y
abbrev ia (k a b:Nat):SOp:=.iadr k (.t a) (.t b)
abbrev st (k a b:Nat):SOp:=.store k (.t a) (.t b)
abbrev fs (l:List Nat) (r:OI):OI:=l.foldr .first r
abbrev qhE:Nat:=9
def qlE:FnI:=⟨43,[.tmp 4],
 (sq (rg [xo 2 (.box 28 (.t 0)),xo 3 (.box 41 (.t 1)),xo 4 (.mov (.b false))])
 (sq (sq (rg [xo 11 (lt 8 2),xo 12 (.call 14 [(.t 11)])])
 (cD 12
 (sq (rg [xo 4 (.mov (.b true))])
 .ret)
 .skip))
 (sq (rg [xo 14 (lt 8 2),xo 15 (lt 44 3),xo 16 (.call 31 [(.t 14),(.t 15)]),mo 13 16,xo 17 (.ext 0 (.t 13)),xo 18 (.ext 1 (.t 13)),xo 19 (.ext 2 (.t 13)),xo 5 (.alloc 28 [(vi 0),(vi 0),(vi 0),(.v (.slice none 0 0)),(.v (.slice none 0 0)),(.v (.slice none 0 0)),(.v (.slice none 0 0)),(.v (.slice none 0 0))]),xo 6 (.alloc 41 zl0),xo 7 (.alloc 44 zl1),xn (st 8 5 17),xn (st 44 6 18),xn (st 23 7 19)])
 (sq (rg [xo 21 (lt 8 2),xo 22 (lt 44 3),xo 23 (.call 32 [(.t 21),(.t 22)]),mo 20 23,xo 24 (.ext 0 (.t 20)),xo 25 (.ext 1 (.t 20)),xo 26 (.ext 2 (.t 20)),xo 8 (.alloc 28 [(vi 0),(vi 0),(vi 0),(.v (.slice none 0 0)),(.v (.slice none 0 0)),(.v (.slice none 0 0)),(.v (.slice none 0 0)),(.v (.slice none 0 0))]),xo 9 (.alloc 41 zl0),xo 10 (.alloc 44 zl1),xn (st 8 8 24),xn (st 44 9 25),xn (st 23 10 26)])
 (sq (rg [xo 27 (.call 33 []),mo 28 27,xg 29 (lt 8 5) 28 true,xg 30 (lt 8 8) 28 true,xg 31 (.call 18 [(.t 29),(.t 30)]) 28 true,xo 32 (.pick (.t 28) (.t 31) (.b false)),mo 33 32,xg 34 (lt 44 6) 33 true,xg 35 (lt 44 9) 33 true,xg 36 (.call 19 [(.t 34),(.t 35)]) 33 true,xo 37 (.pick (.t 33) (.t 36) (.b false)),mo 38 37,xg 39 (lt 23 7) 38 true,xg 40 (lt 23 10) 38 true,xg 41 (.binst false [0,0,0,0,0,2,0,2,2,2,0,0,0,0,0,0,0,0,0,0,0,0,0] (.t 39) (.t 40)) 38 true,xo 42 (.pick (.t 38) (.t 41) (.b false)),mo 4 42])
 .ret)))))⟩
theorem qcE:trFn Tryz.prog 9 [] []=some qlE:=by kernel_rfl
abbrev qTK:Nat:=14
def qqK:FnI:=⟨69,[.tmp 2],
 (sq (rg [xo 1 (.box 28 (.t 0)),xo 2 (.mov (.b false))])
 (sq (sq (rg [fo 6 3 1,lo 7 6,xo 8 (.len false (.t 7)),xo 9 (bc .gtr 8 20),mo 10 9,xg 11 (fa 4 1) 10 false,xg 12 (lf 11) 10 false,xg 13 (.len false (.t 12)) 10 false,xg 14 (bc .gtr 13 40) 10 false,xo 15 (.pick (.t 10) (.b true) (.t 14)),mo 16 15,xg 17 (fa 5 1) 16 false,xg 18 (lf 17) 16 false,xg 19 (.len false (.t 18)) 16 false,xg 20 (bc .gtr 19 40) 16 false,xo 21 (.pick (.t 16) (.b true) (.t 20)),mo 22 21,xg 23 (fa 6 1) 22 false,xg 24 (lf 23) 22 false,xg 25 (.call 39 [(.t 24)]) 22 false,xo 26 (.pick (.t 22) (.b true) (.t 25)),mo 27 26,xg 28 (fa 7 1) 27 false,xg 29 (lf 28) 27 false,xg 30 (.len false (.t 29)) 27 false,xg 31 (bc .gtr 30 60) 27 false,xo 32 (.pick (.t 27) (.b true) (.t 31))])
 (cD 32
 (sq (rg [xo 2 (.mov (.b true))])
 .ret)
 .skip))
 (sq (sq (rg [xo 3 (.mov (ci 0))])
 (.block 0
 (.loop [3] [33,34,35,36,37,40,41,42,43,44,4,45,46,47,48,49,50,51,52,53,2,5,54,55,56,57,58,61,62,63,64,65,66,67,68,59,60,38,39,3]
 (sq (sq (rg [mo 33 3,fo 34 4 1,lo 35 34,xo 36 (.len false (.t 35)),xo 37 (bi .lss 33 36)])
 (cD 37
 .skip
 (.exit 0)))
 (sq (.block 1
 (sq (rg [fo 40 4 1,lo 41 40,mo 42 3,xo 43 (ia 5 41 42),xo 44 (lt 5 43),xo 4 (.alloc 66 [(.v (.slice none 0 0)),(.v (.slice none 0 0)),(.v (.slice none 0 0)),(.v (.slice none 0 0)),(.v (.bool false))]),xn (st 5 4 44)])
 (sq (sq (rg [fo 45 0 4,xo 46 (lt 3 45),xo 47 (.call 40 [(.t 46)]),mo 48 47,xg 49 (fa 3 4) 48 false,xg 50 (lf 49) 48 false,xg 51 (.len false (.t 50)) 48 false,xg 52 (bc .gtr 51 20) 48 false,xo 53 (.pick (.t 48) (.b true) (.t 52))])
 (cD 53
 (sq (rg [xo 2 (.mov (.b true))])
 .ret)
 .skip))
 (sq (rg [xo 5 (.mov (ci 0))])
 (.block 2
 (.loop [5] [54,55,56,57,58,61,62,63,64,65,66,67,68,2,59,60,5]
 (sq (sq (rg [mo 54 5,fo 55 3 4,lo 56 55,xo 57 (.len false (.t 56)),xo 58 (bi .lss 54 57)])
 (cD 58
 .skip
 (.exit 2)))
 (sq (.block 3
 (sq (rg [fo 61 3 4,lo 62 61,mo 63 5,xo 64 (ia 2 62 63),fo 65 1 64,lo 66 65,xo 67 (.len false (.t 66)),xo 68 (bc .gtr 67 20)])
 (cD 68
 (sq (rg [xo 2 (.mov (.b true))])
 .ret)
 .skip)))
 (rg [mo 59 5,xo 60 (bc .add 59 1),mo 5 60])))))))))
 (rg [mo 38 3,xo 39 (bc .add 38 1),mo 3 39]))))))
 (sq (rg [xo 2 (.mov (.b false))])
 .ret))))⟩
theorem q5J:trFn Tryz.prog 14 [] [[3],[5]]=some qqK:=by kernel_rfl
abbrev qLA:Nat:=15
def qoP:FnI:=⟨80,[.cell 4 8 true,.cell 5 44 true,.cell 6 23 true],
 (sq (rg [xo 2 (.box 28 (.t 0)),xo 3 (.box 41 (.t 1)),xo 4 (.alloc 28 [(vi 0),(vi 0),(vi 0),(.v (.slice none 0 0)),(.v (.slice none 0 0)),(.v (.slice none 0 0)),(.v (.slice none 0 0)),(.v (.slice none 0 0))]),xo 5 (.alloc 41 zl0),xo 6 (.alloc 44 zl1)])
 (sq (sq (rg [fo 11 11 3,lo 12 11,xo 13 (bc .geq 12 0),mo 14 13,xg 15 (fa 11 3) 14 true,xg 16 (lf 15) 14 true,xg 17 (bc .lss 16 3) 14 true,xo 18 (.pick (.t 14) (.t 17) (.b false))])
 (cD 18
 (sq (rg [xo 19 (lt 8 2),xo 20 (lt 44 3),xo 21 (.call 41 [(.t 19),(.t 20)]),xo 22 (.ext 0 (.t 21)),xo 23 (.ext 1 (.t 21)),xo 24 (.ext 2 (.t 21)),xn (st 8 4 22),xn (st 44 5 23),xn (st 23 6 24)])
 .ret)
 .skip))
 (sq (sq (rg [fo 25 11 3,lo 26 25,xo 27 (bc .lss 26 0),mo 28 27,xg 29 (fa 11 3) 28 false,xg 30 (lf 29) 28 false,xg 31 (bc .geq 30 24) 28 false,xo 32 (.pick (.t 28) (.b true) (.t 31)),mo 33 32,xg 34 (lt 8 2) 33 false,xg 35 (lt 44 3) 33 false,xg 36 (.call 21 [(.t 34),(.t 35)]) 33 false,xg 37 (.not (.t 36)) 33 false,xo 38 (.pick (.t 33) (.b true) (.t 37)),mo 39 38,xg 40 (fa 14 3) 39 false,xg 41 (lf 40) 39 false,xg 42 (bc .lss 41 0) 39 false,xg 43 (mv 42) 39 false,xg 44 (fa 11 3) 43 true,xg 45 (lf 44) 43 true,xg 46 (bc .eql 45 4) 43 true,xg 47 (mv 46) 43 true,xg 48 (fa 11 3) 47 false,xg 49 (lf 48) 47 false,xg 50 (bc .eql 49 5) 47 false,xg 51 (.pick (.t 47) (.b true) (.t 50)) 43 true,xg 52 (mv 51) 43 true,xg 53 (fa 11 3) 52 false,xg 54 (lf 53) 52 false,xg 55 (bc .eql 54 22) 52 false,xg 56 (.pick (.t 52) (.b true) (.t 55)) 43 true,xg 57 (.pick (.t 43) (.t 56) (.b false)) 39 false,xo 58 (.pick (.t 39) (.b true) (.t 57))])
 (cD 58
 (sq (rd [] (ot 0 (xo 59 (lt 8 2))
 (of 2 (xo 61 (.build zl1 []))
 (ot 1 (xo 60 (lt 44 3))
 (.op ⟨3,false,[1],xn (st 8 4 59)⟩
 (of 4 (xn (st 44 5 60))
 (of 5 (xn (st 23 6 61))
 .nil)))))))
 .ret)
 .skip))
 (sq (rd [] (of 1 (fo 63 11 3)
 (ot 2 (lo 64 63)
 (of 0 (xo 62 (.call 42 []))
 (of 3 (xo 65 (.idxa 24 1 false (.t 62) (.t 64)))
 (of 4 (mo 7 65)
 .nil))))))
 (sq (sq (rg [mo 66 7,xo 67 (.binn 2 false (.t 66))])
 (cD 67
 (sq (rd [] (ot 0 (xo 68 (lt 8 2))
 (of 2 (xo 70 (.build zl1 []))
 (ot 1 (xo 69 (lt 44 3))
 (.op ⟨3,false,[1],xn (st 8 4 68)⟩
 (of 4 (xn (st 44 5 69))
 (of 5 (xn (st 23 6 70))
 .nil)))))))
 .ret)
 .skip))
 (sq (rg [xo 71 (lt 8 2),xo 72 (.call 26 [(.t 71)]),xo 8 (.alloc 28 [(vi 0),(vi 0),(vi 0),(.v (.slice none 0 0)),(.v (.slice none 0 0)),(.v (.slice none 0 0)),(.v (.slice none 0 0)),(.v (.slice none 0 0))]),xn (st 8 8 72)])
 (sq (rg [xo 73 (lt 44 3),xo 9 (.alloc 41 zl0),xn (st 44 9 73)])
 (sq (rg [mo 74 7,xo 75 (.build [(.v (.pointer none)),(.v (.pointer none))] [(0,1,(.t 8)),(1,1,(.t 9))]),xo 76 (.callv (.t 74) [(.t 75)]),xo 10 (.alloc 44 zl1),xn (st 23 10 76)])
 (sq (rd [] (ot 0 (xo 77 (lt 8 8))
 (ot 1 (xo 78 (lt 44 9))
 (ot 2 (xo 79 (lt 23 10))
 (.op ⟨3,false,[2,1],xn (st 8 4 77)⟩
 (.op ⟨4,false,[2],xn (st 44 5 78)⟩
 (of 5 (xn (st 23 6 79))
 .nil)))))))
 .ret)))))))))⟩
theorem qNA:trFn Tryz.prog 15 [([],(fs [0,2,1] (.exec 3 (.exec 4 (.exec 5 .nil))))),([],(.first 1 (.first 2 (.exec 0 (.first 3 (.first 4 .nil)))))),([],(fs [0,2,1] (.exec 3 (.exec 4 (.exec 5 .nil))))),([],(fs [0,1,2] (.exec 3 (.exec 4 (.exec 5 .nil)))))] []=some qoP:=by kernel_rfl
abbrev qOJ:Nat:=18
def qoJ:FnI:=⟨105,[.tmp 4],
 (sq (rg [xo 2 (.box 28 (.t 0)),xo 3 (.box 28 (.t 1)),xo 4 (.mov (.b false))])
 (sq (sq (rg [fo 7 0 2,lo 8 7,fo 9 0 3,lo 10 9,xo 11 (bi .neq 8 10),mo 12 11,xg 13 (fa 1 2) 12 false,xg 14 (lf 13) 12 false,xg 15 (fa 1 3) 12 false,xg 16 (lf 15) 12 false,xg 17 (bi .neq 14 16) 12 false,xo 18 (.pick (.t 12) (.b true) (.t 17)),mo 19 18,xg 20 (fa 2 2) 19 false,xg 21 (lf 20) 19 false,xg 22 (fa 2 3) 19 false,xg 23 (lf 22) 19 false,xg 24 (bi .neq 21 23) 19 false,xo 25 (.pick (.t 19) (.b true) (.t 24)),mo 26 25,xg 27 (fa 3 2) 26 false,xg 28 (lf 27) 26 false,xg 29 (fa 3 3) 26 false,xg 30 (lf 29) 26 false,xg 31 (.call 51 [(.t 28),(.t 30)]) 26 false,xg 32 (.not (.t 31)) 26 false,xo 33 (.pick (.t 26) (.b true) (.t 32)),mo 34 33,xg 35 (fa 4 2) 34 false,xg 36 (lf 35) 34 false,xg 37 (.len false (.t 36)) 34 false,xg 38 (fa 4 3) 34 false,xg 39 (lf 38) 34 false,xg 40 (.len false (.t 39)) 34 false,xg 41 (bi .neq 37 40) 34 false,xo 42 (.pick (.t 34) (.b true) (.t 41)),mo 43 42,xg 44 (fa 5 2) 43 false,xg 45 (lf 44) 43 false,xg 46 (.len false (.t 45)) 43 false,xg 47 (fa 5 3) 43 false,xg 48 (lf 47) 43 false,xg 49 (.len false (.t 48)) 43 false,xg 50 (bi .neq 46 49) 43 false,xo 51 (.pick (.t 43) (.b true) (.t 50)),mo 52 51,xg 53 (fa 6 2) 52 false,xg 54 (lf 53) 52 false,xg 55 (fa 6 3) 52 false,xg 56 (lf 55) 52 false,xg 57 (.call 52 [(.t 54),(.t 56)]) 52 false,xg 58 (.not (.t 57)) 52 false,xo 59 (.pick (.t 52) (.b true) (.t 58)),mo 60 59,xg 61 (fa 7 2) 60 false,xg 62 (lf 61) 60 false,xg 63 (fa 7 3) 60 false,xg 64 (lf 63) 60 false,xg 65 (.call 53 [(.t 62),(.t 64)]) 60 false,xg 66 (.not (.t 65)) 60 false,xo 67 (.pick (.t 60) (.b true) (.t 66))])
 (cD 67
 (sq (rg [xo 4 (.mov (.b false))])
 .ret)
 .skip))
 (sq (sq (rg [xo 5 (.mov (ci 0))])
 (.block 0
 (.loop [5] [68,69,70,71,72,75,76,77,78,79,80,81,82,83,84,85,86,4,73,74,5]
 (sq (sq (rg [mo 68 5,fo 69 4 2,lo 70 69,xo 71 (.len false (.t 70)),xo 72 (bi .lss 68 71)])
 (cD 72
 .skip
 (.exit 0)))
 (sq (.block 1
 (sq (rd [] (of 0 (fo 75 4 2)
 (ot 1 (lo 76 75)
 (of 2 (mo 77 5)
 (ot 3 (xo 78 (ia 5 76 77))
 (ot 4 (xo 79 (lt 5 78))
 (of 5 (fo 80 4 3)
 (ot 6 (lo 81 80)
 (of 7 (mo 82 5)
 (ot 8 (xo 83 (ia 5 81 82))
 (ot 9 (xo 84 (lt 5 83))
 (of 10 (xo 85 (.call 54 [(.t 79),(.t 84)]))
 (of 11 (xo 86 (.not (.t 85)))
 .nil)))))))))))))
 (cD 86
 (sq (rg [xo 4 (.mov (.b false))])
 .ret)
 .skip)))
 (rg [mo 73 5,xo 74 (bc .add 73 1),mo 5 74]))))))
 (sq (sq (rg [xo 6 (.mov (ci 0))])
 (.block 2
 (.loop [6] [87,88,89,90,91,94,95,96,97,98,99,100,101,102,103,104,4,92,93,6]
 (sq (sq (rg [mo 87 6,fo 88 5 2,lo 89 88,xo 90 (.len false (.t 89)),xo 91 (bi .lss 87 90)])
 (cD 91
 .skip
 (.exit 2)))
 (sq (.block 3
 (sq (rd [] (of 0 (fo 94 5 2)
 (ot 1 (lo 95 94)
 (of 2 (mo 96 6)
 (ot 3 (xo 97 (ia 4 95 96))
 (ot 4 (xo 98 (lt 4 97))
 (of 5 (fo 99 5 3)
 (ot 6 (lo 100 99)
 (of 7 (mo 101 6)
 (ot 8 (xo 102 (ia 4 100 101))
 (ot 9 (xo 103 (lt 4 102))
 (of 10 (xo 104 (.binst true [1,2,0,2] (.t 98) (.t 103)))
 .nil))))))))))))
 (cD 104
 (sq (rg [xo 4 (.mov (.b false))])
 .ret)
 .skip)))
 (rg [mo 92 6,xo 93 (bc .add 92 1),mo 6 93]))))))
 (sq (rg [xo 4 (.mov (.b true))])
 .ret)))))⟩
theorem qzI:trFn Tryz.prog 18 [([],(fs [0,1,2,3,4,5,6,7,8,9] (.exec 10 (.first 11 .nil)))),([],(fs [0,1,2,3,4,5,6,7,8,9,10] .nil))] [[5],[6]]=some qoJ:=by kernel_rfl
abbrev qMJ:Nat:=19
def qmJ:FnI:=⟨128,[.tmp 4],
 (sq (rg [xo 2 (.box 41 (.t 0)),xo 3 (.box 41 (.t 1)),xo 4 (.mov (.b false))])
 (sq (sq (rg [fo 5 0 2,xo 6 (lt 10 5),fo 7 0 3,xo 8 (lt 10 7),xo 9 (.call 55 [(.t 6),(.t 8)]),xo 10 (.not (.t 9))])
 (cD 10
 (sq (rg [xo 4 (.mov (.b false))])
 .ret)
 .skip))
 (sq (rg [fo 11 10 2,lo 12 11,fo 13 10 3,lo 14 13,xo 15 (bi .eql 12 14),mo 16 15,xg 17 (fa 11 2) 16 true,xg 18 (lf 17) 16 true,xg 19 (fa 11 3) 16 true,xg 20 (lf 19) 16 true,xg 21 (bi .eql 18 20) 16 true,xo 22 (.pick (.t 16) (.t 21) (.b false)),mo 23 22,xg 24 (fa 12 2) 23 true,xg 25 (lf 24) 23 true,xg 26 (fa 12 3) 23 true,xg 27 (lf 26) 23 true,xg 28 (bi .eql 25 27) 23 true,xo 29 (.pick (.t 23) (.t 28) (.b false)),mo 30 29,xg 31 (fa 13 2) 30 true,xg 32 (lf 31) 30 true,xg 33 (fa 13 3) 30 true,xg 34 (lf 33) 30 true,xg 35 (bi .eql 32 34) 30 true,xo 36 (.pick (.t 30) (.t 35) (.b false)),mo 37 36,xg 38 (fa 14 2) 37 true,xg 39 (lf 38) 37 true,xg 40 (fa 14 3) 37 true,xg 41 (lf 40) 37 true,xg 42 (bi .eql 39 41) 37 true,xo 43 (.pick (.t 37) (.t 42) (.b false)),mo 44 43,xg 45 (fa 15 2) 44 true,xg 46 (lf 45) 44 true,xg 47 (fa 15 3) 44 true,xg 48 (lf 47) 44 true,xg 49 (bi .eql 46 48) 44 true,xo 50 (.pick (.t 44) (.t 49) (.b false)),mo 51 50,xg 52 (fa 16 2) 51 true,xg 53 (lf 52) 51 true,xg 54 (fa 16 3) 51 true,xg 55 (lf 54) 51 true,xg 56 (bi .eql 53 55) 51 true,xo 57 (.pick (.t 51) (.t 56) (.b false)),mo 58 57,xg 59 (fa 17 2) 58 true,xg 60 (lf 59) 58 true,xg 61 (fa 17 3) 58 true,xg 62 (lf 61) 58 true,xg 63 (bi .eql 60 62) 58 true,xo 64 (.pick (.t 58) (.t 63) (.b false)),mo 65 64,xg 66 (fa 18 2) 65 true,xg 67 (lf 66) 65 true,xg 68 (fa 18 3) 65 true,xg 69 (lf 68) 65 true,xg 70 (bi .eql 67 69) 65 true,xo 71 (.pick (.t 65) (.t 70) (.b false)),mo 72 71,xg 73 (fa 19 2) 72 true,xg 74 (lf 73) 72 true,xg 75 (fa 19 3) 72 true,xg 76 (lf 75) 72 true,xg 77 (bi .eql 74 76) 72 true,xo 78 (.pick (.t 72) (.t 77) (.b false)),mo 79 78,xg 80 (fa 20 2) 79 true,xg 81 (lf 80) 79 true,xg 82 (fa 20 3) 79 true,xg 83 (lf 82) 79 true,xg 84 (bi .eql 81 83) 79 true,xo 85 (.pick (.t 79) (.t 84) (.b false)),mo 86 85,xg 87 (fa 21 2) 86 true,xg 88 (lf 87) 86 true,xg 89 (fa 21 3) 86 true,xg 90 (lf 89) 86 true,xg 91 (bi .eql 88 90) 86 true,xo 92 (.pick (.t 86) (.t 91) (.b false)),mo 93 92,xg 94 (fa 22 2) 93 true,xg 95 (lf 94) 93 true,xg 96 (fa 22 3) 93 true,xg 97 (lf 96) 93 true,xg 98 (bi .eql 95 97) 93 true,xo 99 (.pick (.t 93) (.t 98) (.b false)),mo 100 99,xg 101 (fa 23 2) 100 true,xg 102 (lf 101) 100 true,xg 103 (fa 23 3) 100 true,xg 104 (lf 103) 100 true,xg 105 (bi .eql 102 104) 100 true,xo 106 (.pick (.t 100) (.t 105) (.b false)),mo 107 106,xg 108 (fa 24 2) 107 true,xg 109 (lf 108) 107 true,xg 110 (fa 24 3) 107 true,xg 111 (lf 110) 107 true,xg 112 (.binb false (.t 109) (.t 111)) 107 true,xo 113 (.pick (.t 107) (.t 112) (.b false)),mo 114 113,xg 115 (fa 25 2) 114 true,xg 116 (lt 13 115) 114 true,xg 117 (fa 25 3) 114 true,xg 118 (lt 13 117) 114 true,xg 119 (.binst false [0,0,0,0,0,0,0,0,0,0,0,0,0] (.t 116) (.t 118)) 114 true,xo 120 (.pick (.t 114) (.t 119) (.b false)),mo 121 120,xg 122 (fa 38 2) 121 true,xg 123 (lt 6 122) 121 true,xg 124 (fa 38 3) 121 true,xg 125 (lt 6 124) 121 true,xg 126 (.binst false [0,0,0,0,0,0] (.t 123) (.t 125)) 121 true,xo 127 (.pick (.t 121) (.t 126) (.b false)),mo 4 127])
 .ret)))⟩
theorem qxI:trFn Tryz.prog 19 [] []=some qmJ:=by kernel_rfl
abbrev q4R:Nat:=21
def qKS:FnI:=⟨96,[.tmp 4],
 (sq (rg [xo 2 (.box 28 (.t 0)),xo 3 (.box 41 (.t 1)),xo 4 (.mov (.b false))])
 (sq (sq (rg [xo 7 (lt 8 2),xo 8 (.call 23 [(.t 7)]),xo 9 (.not (.t 8)),mo 10 9,xg 11 (fa 10 3) 10 false,xg 12 (lf 11) 10 false,xg 13 (fa 3 2) 10 false,xg 14 (lf 13) 10 false,xg 15 (.len false (.t 14)) 10 false,xg 16 (.call 56 [(.t 12),(.t 15)]) 10 false,xg 17 (.not (.t 16)) 10 false,xo 18 (.pick (.t 10) (.b true) (.t 17)),mo 19 18,xg 20 (fa 24 3) 19 false,xg 21 (lf 20) 19 false,xo 22 (.pick (.t 19) (.b true) (.t 21)),mo 23 22,xg 24 (fa 13 3) 23 false,xg 25 (lf 24) 23 false,xg 26 (fa 4 2) 23 false,xg 27 (lf 26) 23 false,xg 28 (.len false (.t 27)) 23 false,xg 29 (.call 56 [(.t 25),(.t 28)]) 23 false,xg 30 (.not (.t 29)) 23 false,xo 31 (.pick (.t 23) (.b true) (.t 30))])
 (cD 31
 (sq (rg [xo 4 (.mov (.b false))])
 .ret)
 .skip))
 (sq (rg [fo 32 4 2,lo 33 32,fo 34 13 3,lo 35 34,xo 36 (ia 5 33 35),fo 37 3 36,lo 38 37,mo 5 38])
 (sq (sq (rg [fo 39 15 3,lo 40 39,mo 41 5,xo 42 (.len false (.t 41)),xo 43 (.call 56 [(.t 40),(.t 42)]),xo 44 (.not (.t 43))])
 (cD 44
 (sq (rg [xo 4 (.mov (.b false))])
 .ret)
 .skip))
 (sq (rg [mo 45 5,fo 46 15 3,lo 47 46,xo 48 (ia 2 45 47),fo 49 1 48,lo 50 49,mo 6 50])
 (sq (sq (rd [] (of 0 (fo 51 16 3)
 (ot 1 (lo 52 51)
 (of 2 (mo 53 6)
 (of 3 (xo 54 (.len false (.t 53)))
 (of 4 (xo 55 (.call 56 [(.t 52),(.t 54)]))
 (of 5 (xo 56 (.not (.t 55)))
 (of 6 (mo 57 56)
 (of 7 (xg 58 (fa 17 3) 57 false)
 (ot 8 (xg 59 (lf 58) 57 false)
 (of 9 (xg 60 (mv 6) 57 false)
 (of 10 (xg 61 (.len false (.t 60)) 57 false)
 (of 11 (xg 62 (.call 56 [(.t 59),(.t 61)]) 57 false)
 (of 12 (xg 63 (.not (.t 62)) 57 false)
 (of 13 (xo 64 (.pick (.t 57) (.b true) (.t 63)))
 (of 14 (mo 65 64)
 (of 15 (xg 66 (fa 18 3) 65 false)
 (ot 16 (xg 67 (lf 66) 65 false)
 (of 17 (xg 68 (mv 6) 65 false)
 (of 18 (xg 69 (fa 16 3) 65 false)
 (ot 19 (xg 70 (lf 69) 65 false)
 (ot 20 (xg 71 (ia 3 68 70) 65 false)
 (of 21 (xg 72 (fa 1 71) 65 false)
 (ot 22 (xg 73 (lf 72) 65 false)
 (of 23 (xg 74 (.len false (.t 73)) 65 false)
 (of 24 (xg 75 (.call 56 [(.t 67),(.t 74)]) 65 false)
 (of 25 (xg 76 (.not (.t 75)) 65 false)
 (of 26 (xo 77 (.pick (.t 65) (.b true) (.t 76)))
 .nil))))))))))))))))))))))))))))
 (cD 77
 (sq (rg [xo 4 (.mov (.b false))])
 .ret)
 .skip))
 (sq (rg [fo 78 14 3,lo 79 78,xo 80 (bc .add 79 1),fo 81 5 2,lo 82 81,xo 83 (.len false (.t 82)),xo 84 (bc .add 83 1),xo 85 (.call 56 [(.t 80),(.t 84)]),mo 86 85,xg 87 (fa 21 3) 86 true,xg 88 (lf 87) 86 true,xg 89 (bc .geq 88 0) 86 true,xo 90 (.pick (.t 86) (.t 89) (.b false)),mo 91 90,xg 92 (fa 22 3) 91 true,xg 93 (lf 92) 91 true,xg 94 (bc .geq 93 0) 91 true,xo 95 (.pick (.t 91) (.t 94) (.b false)),mo 4 95])
 .ret)))))))⟩
theorem qWR:trFn Tryz.prog 21 [([],(fs [0,1,2,3] (.exec 4 (fs [5,6,7,8,9,10] (.exec 11 (fs [12,13,14,15,16,17,18,19,20,21,22,23] (.exec 24 (.first 25 (.first 26 .nil)))))))))] []=some qKS:=by kernel_rfl
abbrev qaT:Nat:=23
def qnT:FnI:=⟨107,[.tmp 2],
 (sq (rg [xo 1 (.box 28 (.t 0)),xo 2 (.mov (.b false))])
 (sq (sq (rg [xo 10 (lt 8 1),xo 11 (.call 57 [(.t 10)]),xo 12 (.not (.t 11)),mo 13 12,xg 14 (fa 1 1) 13 false,xg 15 (lf 14) 13 false,xg 16 (bc .lss 15 0) 13 false,xo 17 (.pick (.t 13) (.b true) (.t 16)),mo 18 17,xg 19 (fa 1 1) 18 false,xg 20 (lf 19) 18 false,xg 21 (fa 4 1) 18 false,xg 22 (lf 21) 18 false,xg 23 (.len false (.t 22)) 18 false,xg 24 (bi .geq 20 23) 18 false,xo 25 (.pick (.t 18) (.b true) (.t 24)),mo 26 25,xg 27 (fa 7 1) 26 false,xg 28 (lf 27) 26 false,xg 29 (.call 58 [(.t 28)]) 26 false,xg 30 (.not (.t 29)) 26 false,xo 31 (.pick (.t 26) (.b true) (.t 30))])
 (cD 31
 (sq (rg [xo 2 (.mov (.b false))])
 .ret)
 .skip))
 (sq (rg [xo 32 (.mkm .i64),mo 3 32])
 (sq (sq (rg [fo 33 7 1,lo 34 33,xo 35 (.len false (.t 34)),xo 36 (.mov (ci 0))])
 (.block 0
 (.loop [36] [37,38,39,5,40,41,42,43,44,45,46,47,48,49,50,51,52,53,54,55,56,57,58,59,2,60,61,62,63,64,65,36]
 (sq (rg [xo 37 (bi .lss 36 35)])
 (sq (cD 37
 .skip
 (.exit 0))
 (sq (.block 1
 (sq (rg [xo 38 (ia 3 34 36),xo 39 (lt 3 38),xo 5 (.alloc 109 [(vi 0),(vi 0),(.v (.bool false))]),xn (st 3 5 39)])
 (sq (sq (rg [fo 40 0 5,lo 41 40,fo 42 4 1,lo 43 42,xo 44 (.len false (.t 43)),xo 45 (bi .geq 41 44),mo 46 45,xg 47 (fa 0 5) 46 false,xg 48 (lf 47) 46 false,xg 49 (fa 1 1) 46 false,xg 50 (lf 49) 46 false,xg 51 (bi .eql 48 50) 46 false,xo 52 (.pick (.t 46) (.b true) (.t 51)),mo 53 52,xg 54 (fa 1 5) 53 false,xg 55 (lf 54) 53 false,xg 56 (fa 0 1) 53 false,xg 57 (lf 56) 53 false,xg 58 (bi .gtr 55 57) 53 false,xo 59 (.pick (.t 53) (.b true) (.t 58))])
 (cD 59
 (sq (rg [xo 2 (.mov (.b false))])
 .ret)
 .skip))
 (rg [mo 60 3,fo 61 0 5,lo 62 61,fo 63 2 5,lo 64 63,xn (.mup .i64 (.t 60) (.t 62) (.t 64))]))))
 (rg [xo 65 (bc .add 36 1),mo 36 65])))))))
 (sq (sq (rg [fo 66 4 1,lo 67 66,xo 68 (.len false (.t 67)),xo 69 (.mov (ci 0))])
 (.block 2
 (.loop [69] [70,71,72,73,7,6,74,75,76,77,78,79,80,81,82,83,84,2,85,69]
 (sq (rg [xo 70 (bi .lss 69 68)])
 (sq (cD 70
 .skip
 (.exit 2))
 (sq (.block 3
 (sq (rg [mo 71 69,xo 72 (ia 5 67 69),xo 73 (lt 5 72),xo 7 (.alloc 66 [(.v (.slice none 0 0)),(.v (.slice none 0 0)),(.v (.slice none 0 0)),(.v (.slice none 0 0)),(.v (.bool false))]),mo 6 71,xn (st 5 7 73)])
 (sq (rg [xo 74 (lt 5 7),xo 75 (.call 59 [(.t 74)]),xo 76 (.not (.t 75)),mo 77 76,xg 78 (fa 4 7) 77 false,xg 79 (lf 78) 77 false,xg 80 (mv 3) 77 false,xg 81 (mv 6) 77 false,xg 82 (.look .i64 (.bool false) false (.t 80) (.t 81)) 77 false,xg 83 (.binb true (.t 79) (.t 82)) 77 false,xo 84 (.pick (.t 77) (.b true) (.t 83))])
 (cD 84
 (sq (rg [xo 2 (.mov (.b false))])
 .ret)
 .skip))))
 (rg [xo 85 (bc .add 69 1),mo 69 85])))))))
 (sq (sq (rg [fo 86 5 1,lo 87 86,xo 88 (.len false (.t 87)),xo 89 (.mov (ci 0))])
 (.block 4
 (.loop [89] [90,91,92,93,9,8,94,95,96,97,98,99,100,101,102,103,104,105,2,106,89]
 (sq (rg [xo 90 (bi .lss 89 88)])
 (sq (cD 90
 .skip
 (.exit 4))
 (sq (.block 5
 (sq (rg [mo 91 89,xo 92 (ia 4 87 89),xo 93 (lt 4 92),xo 9 (.alloc 80 [(.v (.string ⟨#[]⟩)),(.v (.bool false)),(vi 0),(.v (.bool false))]),mo 8 91,xn (st 4 9 93)])
 (sq (rg [xo 94 (lt 4 9),xo 95 (.call 60 [(.t 94)]),xo 96 (.not (.t 95)),mo 97 96,xg 98 (fa 5 1) 97 false,xg 99 (lf 98) 97 false,xg 100 (fa 0 9) 97 false,xg 101 (lf 100) 97 false,xg 102 (.call 61 [(.t 99),(.t 101)]) 97 false,xg 103 (mv 8) 97 false,xg 104 (bi .neq 102 103) 97 false,xo 105 (.pick (.t 97) (.b true) (.t 104))])
 (cD 105
 (sq (rg [xo 2 (.mov (.b false))])
 .ret)
 .skip))))
 (rg [xo 106 (bc .add 89 1),mo 89 106])))))))
 (sq (rg [xo 2 (.mov (.b true))])
 .ret)))))))⟩
theorem q5S:trFn Tryz.prog 23 [] [[36],[69],[89]]=some qnT:=by kernel_rfl
abbrev qYQ:Nat:=25
def qzQ:FnI:=⟨52,[.tmp 2],
 (sq (rg [xo 1 (.box 28 (.t 0)),xo 2 (.mov (ci 0))])
 (sq (rg [xo 3 (.mov (ci 0))])
 (sq (sq (rg [fo 12 4 1,lo 13 12,xo 14 (.len false (.t 13)),xo 15 (.mov (ci 0))])
 (.block 0
 (.loop [3,15] [16,17,18,5,19,20,21,22,23,24,25,7,26,27,28,29,30,31,32,9,34,35,33,36,37,10,11,38,39,40,41,42,43,44,45,46,47,3,48,49,50,15]
 (sq (rg [xo 16 (bi .lss 15 14)])
 (sq (cD 16
 .skip
 (.exit 0))
 (sq (.block 1
 (sq (rg [xo 17 (ia 5 13 15),xo 18 (lt 5 17),xo 5 (.alloc 66 [(.v (.slice none 0 0)),(.v (.slice none 0 0)),(.v (.slice none 0 0)),(.v (.slice none 0 0)),(.v (.bool false))]),xn (st 5 5 18)])
 (sq (rg [fo 19 3 5,lo 20 19,xo 21 (.len false (.t 20)),xo 22 (.mov (ci 0))])
 (.block 2
 (.loop [3,22] [23,24,25,7,26,27,28,29,30,31,32,9,34,35,33,36,37,10,11,38,39,40,41,42,43,44,45,46,47,3,48,49,22]
 (sq (rg [xo 23 (bi .lss 22 21)])
 (sq (cD 23
 .skip
 (.exit 2))
 (sq (.block 3
 (sq (rg [xo 24 (ia 2 20 22),xo 25 (lt 2 24),xo 7 (.alloc 73 [(.v (.int .u64 (0))),(.v (.slice none 0 0))]),xn (st 2 7 25)])
 (sq (rg [fo 26 1 7,lo 27 26,xo 28 (.len false (.t 27)),xo 29 (.mov (ci 0))])
 (.block 4
 (.loop [3,29] [30,31,32,9,34,35,33,36,37,10,11,38,39,40,41,42,43,44,45,46,47,3,48,29]
 (sq (rg [xo 30 (bi .lss 29 28)])
 (sq (cD 30
 .skip
 (.exit 4))
 (sq (.block 5
 (sq (rg [xo 31 (ia 3 27 29),xo 32 (lt 3 31),xo 9 (.alloc 78 [(.v (.int .u64 (0))),(.v (.slice none 0 0)),(vi 0)]),xn (st 3 9 32)])
 (sq (rg [xo 34 (lt 3 9),xo 35 (.call 29 [(.t 34)]),mo 33 35,xo 36 (.ext 0 (.t 33)),xo 37 (.ext 1 (.t 33)),mo 10 36,mo 11 37])
 (sq (rg [xo 38 (lt 3 9),xo 39 (.call 63 [(.t 38)])])
 (cD 39
 (rg [mo 40 3,fo 41 1 9,lo 42 41,xo 43 (.len false (.t 42)),mo 44 10,xo 45 (.len false (.t 44)),xo 46 (bi .sub 43 45),xo 47 (bi .add 40 46),mo 3 47])
 .skip)))))
 (rg [xo 48 (bc .add 29 1),mo 29 48])))))))))
 (rg [xo 49 (bc .add 22 1),mo 22 49])))))))))
 (rg [xo 50 (bc .add 15 1),mo 15 50])))))))
 (sq (rg [mo 51 3,mo 2 51])
 .ret))))⟩
theorem q0P:trFn Tryz.prog 25 [] [[3,15],[3,22],[3,29]]=some qzQ:=by kernel_rfl
abbrev qDP:Nat:=26
def qgP:FnI:=⟨28,[.cell 2 8 true],
 (sq (rg [xo 1 (.box 28 (.t 0)),xo 2 (.alloc 28 [(vi 0),(vi 0),(vi 0),(.v (.slice none 0 0)),(.v (.slice none 0 0)),(.v (.slice none 0 0)),(.v (.slice none 0 0)),(.v (.slice none 0 0))])])
 (sq (rg [xo 4 (.build [] []),xo 3 (.alloc 116 []),xn (st 0 3 4)])
 (sq (rg [fo 5 3 1,lo 6 5,xo 7 (.call 64 [(.t 6)]),fo 8 3 1,xn (st 1 8 7)])
 (sq (rg [fo 9 4 1,lo 10 9,xo 11 (lt 0 3),xo 12 (.call 65 [(.t 10),(.c (.func (.func 66) #[] #[])),(.t 11)]),fo 13 4 1,xn (st 1 13 12)])
 (sq (rg [fo 14 5 1,lo 15 14,xo 16 (.call 67 [(.t 15)]),fo 17 5 1,xn (st 1 17 16)])
 (sq (rg [fo 18 6 1,lo 19 18,xo 20 (lt 0 3),xo 21 (.call 68 [(.t 19),(.c (.func (.func 69) #[] #[])),(.t 20)]),fo 22 6 1,xn (st 1 22 21)])
 (sq (rg [fo 23 7 1,lo 24 23,xo 25 (.call 70 [(.t 24)]),fo 26 7 1,xn (st 1 26 25)])
 (sq (rg [xo 27 (lt 8 1),xn (st 8 2 27)])
 .ret))))))))⟩
theorem qeO:trFn Tryz.prog 26 [] []=some qgP:=by kernel_rfl
abbrev q2R:Nat:=27
def qIS:FnI:=⟨37,[.tmp 8,.tmp 9],
 (sq (rg [xo 4 (.box 63 (.t 0)),xo 8 (.mov (ci 0)),xo 9 (.mov (ci 0))])
 (sq (rg [fo 13 0 4,lo 14 13,mo 15 1,xo 16 (.call 71 [(.t 14),(.t 15)]),mo 10 16])
 (sq (sq (rg [mo 17 10,xo 18 (bc .lss 17 0)])
 (cD 18
 (sq (rg [xo 8 (.mov (ci 0)),xo 9 (.mov (ci 3))])
 .ret)
 .skip))
 (sq (rg [fo 20 1 4,lo 21 20,mo 22 10,mo 23 2,mo 24 3,xo 25 (.call 72 [(.t 21),(.t 22),(.t 23),(.t 24)]),mo 19 25,xo 26 (.ext 0 (.t 19)),xo 27 (.ext 1 (.t 19)),mo 11 26,mo 12 27])
 (sq (sq (rg [mo 28 12,xo 29 (bc .neq 28 0)])
 (cD 29
 (sq (rg [mo 30 12,xo 8 (.mov (ci 0)),mo 9 30])
 .ret)
 .skip))
 (sq (rg [fo 31 1 4,lo 32 31,mo 33 11,xo 34 (ia 4 32 33),fo 35 3 34,lo 36 35,mo 8 36,xo 9 (.mov (ci 0))])
 .ret))))))⟩
theorem qUR:trFn Tryz.prog 27 [] []=some qIS:=by kernel_rfl
abbrev qZQ:Nat:=28
def q0Q:FnI:=⟨20,[.tmp 4,.tmp 5],
 (sq (rg [xo 2 (.box 70 (.t 0)),xo 4 (.mov (ci 0)),xo 5 (.mov (ci 0))])
 (sq (rg [xo 7 (lt 4 2),xo 8 (.call 73 [(.t 7)]),mo 6 8])
 (sq (sq (rg [mo 9 6,xo 10 (.len false (.t 9)),xo 11 (bc .eql 10 0)])
 (cD 11
 (sq (rg [xo 4 (.mov (ci 0)),xo 5 (.mov (ci 5))])
 .ret)
 .skip))
 (sq (rg [mo 12 6,mo 13 1,mo 14 6,xo 15 (.len false (.t 14)),xo 16 (.conv .u64 (.t 15)),xo 17 (bi .rem 13 16),xo 18 (ia 1 12 17),lo 19 18,mo 4 19,xo 5 (.mov (ci 0))])
 .ret))))⟩
theorem q1P:trFn Tryz.prog 28 [] []=some q0Q:=by kernel_rfl
abbrev qaQ:Nat:=29
def q1Q:FnI:=⟨19,[.cell 2 1 false,.cell 3 1 false],
 (sq (rg [xo 1 (.box 78 (.t 0)),xo 2 (.alloc 22 [(.v (.slice none 0 0))]),xo 3 (.alloc 53 [(vi 0)])])
 (sq (rg [xo 4 (.alloc 22 [(.v (.slice none 0 0))])])
 (sq (sq (rg [xo 6 (lt 3 1),xo 7 (.call 74 [(.t 6)])])
 (.block 0
 (.rfun (.t 7) [8]
 (rg [mo 5 8])
 (.block 1
 (sq (rg [mo 9 5])
 (.block 2
 (sq (rg [xo 15 (.bini .eql (.t 9) (ci (-2))),mo 14 15])
 (cD 14
 (sq (rg [xn (.store 1 (.t 2) (.c (.slice none 0 0))),xn (.store 1 (.t 3) (ci 11))])
 .ret)
 (sq (rg [xo 17 (.bini .eql (.t 9) (ci (-1))),mo 16 17])
 (cD 16
 .skip
 (rg [lo 10 4,mo 11 5,xo 12 (.bsl 3 1 1 [(vi 0)] [(0,1,(.t 11))]),xo 13 (.app 3 1 8 (.t 10) (.t 12)),xn (st 1 4 13)])))))))))))
 (sq (rg [lo 18 4,xn (st 1 2 18),xn (.store 1 (.t 3) (ci 0))])
 .ret))))⟩
theorem q2P:trFn Tryz.prog 29 [] []=some q1Q:=by kernel_rfl
abbrev qCB:Nat:=31
def qqP:FnI:=⟨188,[.cell 4 8 true,.cell 5 44 true,.cell 6 23 true],
 (sq (rg [xo 2 (.box 28 (.t 0)),xo 3 (.box 41 (.t 1)),xo 4 (.alloc 28 [(vi 0),(vi 0),(vi 0),(.v (.slice none 0 0)),(.v (.slice none 0 0)),(.v (.slice none 0 0)),(.v (.slice none 0 0)),(.v (.slice none 0 0))]),xo 5 (.alloc 41 zl0),xo 6 (.alloc 44 zl1)])
 (.scope
 (.jump 1
 (.jump 0
 (sq (sq (rg [fo 12 11 3,lo 13 12,xo 14 (bc .lss 13 0),mo 15 14,xg 16 (fa 11 3) 15 false,xg 17 (lf 16) 15 false,xg 18 (bc .gtr 17 4) 15 false,xg 19 (mv 18) 15 false,xg 20 (fa 11 3) 19 true,xg 21 (lf 20) 19 true,xg 22 (bc .neq 21 9) 19 true,xg 23 (.pick (.t 19) (.t 22) (.b false)) 15 false,xo 24 (.pick (.t 15) (.b true) (.t 23)),mo 25 24,xg 26 (lt 8 2) 25 false,xg 27 (lt 44 3) 25 false,xg 28 (.call 21 [(.t 26),(.t 27)]) 25 false,xg 29 (.not (.t 28)) 25 false,xo 30 (.pick (.t 25) (.b true) (.t 29)),mo 31 30,xg 32 (fa 11 3) 31 false,xg 33 (lf 32) 31 false,xg 34 (bc .eql 33 4) 31 false,xg 35 (mv 34) 31 false,xg 36 (fa 14 3) 35 true,xg 37 (lf 36) 35 true,xg 38 (bc .lss 37 0) 35 true,xg 39 (.pick (.t 35) (.t 38) (.b false)) 31 false,xo 40 (.pick (.t 31) (.b true) (.t 39))])
 (cD 40
 (sq (rd [] (ot 0 (xo 41 (lt 8 2))
 (of 2 (xo 43 (.build zl1 []))
 (ot 1 (xo 42 (lt 44 3))
 (.op ⟨3,false,[1],xn (st 8 4 41)⟩
 (of 4 (xn (st 44 5 42))
 (of 5 (xn (st 23 6 43))
 .nil)))))))
 .ret)
 .skip))
 (sq (rg [xo 44 (lt 8 2),xo 45 (.call 26 [(.t 44)]),xo 7 (.alloc 28 [(vi 0),(vi 0),(vi 0),(.v (.slice none 0 0)),(.v (.slice none 0 0)),(.v (.slice none 0 0)),(.v (.slice none 0 0)),(.v (.slice none 0 0))]),xn (st 8 7 45)])
 (sq (rd [] (of 0 (fo 46 4 7)
 (ot 1 (lo 47 46)
 (of 2 (fo 48 13 3)
 (ot 3 (lo 49 48)
 (ot 4 (xo 50 (ia 5 47 49))
 (of 5 (fo 51 3 50)
 (ot 6 (lo 52 51)
 (of 7 (fo 53 15 3)
 (ot 8 (lo 54 53)
 (ot 9 (xo 55 (ia 2 52 54))
 (of 10 (fo 56 1 55)
 (ot 11 (lo 57 56)
 (of 12 (fo 58 16 3)
 (ot 13 (lo 59 58)
 (ot 14 (xo 60 (ia 3 57 59))
 (of 15 (mo 8 60)
 .nil)))))))))))))))))
 (sq (rg [fo 61 19 3,lo 62 61,xo 63 (.call 77 [(.t 62)]),mo 9 63])
 (sq (rd [10] (ot 0 (xo 64 (lt 8 2))
 (ot 1 (xo 65 (lt 44 3))
 (of 2 (mo 66 8)
 (of 3 (xo 67 (nk 66))
 (of 4 (fo 68 0 67)
 (ot 5 (lo 69 68)
 (of 6 (xo 70 (.call 77 [(.t 69)]))
 (of 7 (xo 71 (.call 78 [(.t 64),(.t 65),(ci 1),(ci 8),(.t 70)]))
 (.bring ⟨8,false,[],xo 10 (.alloc 44 zl1)⟩
 (of 9 (xn (st 23 10 71))
 .nil)))))))))))
 (sq (sq (rg [fo 72 11 3,lo 73 72])
 (.block 0
 (sq (rg [xo 80 (bc .eql 73 0),mo 79 80])
 (cD 79
 (sq (rg [mo 81 8,xo 82 (nk 81),fo 83 0 82,lo 84 83,fo 85 19 3,xn (st 1 85 84)])
 (.goto 0))
 (sq (rg [xo 87 (bc .eql 73 1),mo 86 87])
 (cD 86
 (sq (rd [] (of 0 (mo 88 8)
 (of 1 (xo 89 (nk 88))
 (of 2 (fo 90 1 89)
 (ot 3 (lo 91 90)
 (of 4 (fo 92 18 3)
 (ot 5 (lo 93 92)
 (of 6 (mo 94 9)
 (ot 7 (xo 95 (ia 1 91 93))
 (of 8 (xn (st 1 95 94))
 .nil))))))))))
 (sq (rg [mo 96 9,fo 97 2 10,xn (.store 1 (.t 97) (ci 2)),fo 98 3 10,xn (.store 1 (.t 98) (ci 9)),fo 99 6 10,xn (st 1 99 96)])
 (.goto 0)))
 (sq (rg [xo 101 (bc .eql 73 2),mo 100 101])
 (cD 100
 (sq (sq (rd [] (of 0 (mo 102 8)
 (of 1 (xo 103 (nk 102))
 (of 2 (fo 104 0 103)
 (ot 3 (lo 105 104)
 (of 4 (fo 106 19 3)
 (ot 5 (lo 107 106)
 (of 6 (xo 108 (bi .neq 105 107))
 .nil))))))))
 (cD 108
 (sq (rg [fo 109 11 3,xn (.store 1 (.t 109) (ci 0)),fo 110 2 10,xn (.store 1 (.t 110) (ci 5))])
 (.goto 1))
 .skip))
 (sq (rg [mo 112 8,fo 113 19 3,lo 114 113,fo 115 18 3,lo 116 115,xo 117 (.call 79 [(.t 114),(.t 116)]),mo 111 117,xo 118 (.ext 0 (.t 111)),xo 119 (.ext 1 (.t 111)),xo 120 (nk 112),fo 121 0 120,xn (st 1 121 118)])
 (sq (rd [] (of 2 (fo 124 2 10)
 (of 0 (fo 122 18 3)
 (ot 1 (lo 123 122)
 (.op ⟨3,false,[1],xn (.store 1 (.t 124) (ci 4))⟩
 (of 4 (fo 125 6 10)
 (of 5 (xn (st 1 125 123))
 (of 6 (fo 126 8 10)
 (of 7 (xn (.store 1 (.t 126) (.b true)))
 .nil)))))))))
 (.goto 0))))
 (sq (rg [xo 128 (bc .eql 73 3),mo 127 128])
 (cD 127
 (sq (rg [mo 129 8,xo 130 (nk 129),fo 131 2 130,lo 132 131,xo 133 (bc .sub 132 1),xo 134 (nk 129),fo 135 2 134,xn (st 1 135 133)])
 (sq (rd [] (of 4 (fo 140 2 10)
 (of 0 (mo 136 8)
 (of 1 (xo 137 (nk 136))
 (of 2 (fo 138 2 137)
 (ot 3 (lo 139 138)
 (.op ⟨5,false,[3],xn (.store 1 (.t 140) (ci 3))⟩
 (of 6 (fo 141 3 10)
 (.op ⟨7,false,[3],xn (.store 1 (.t 141) (ci 7))⟩
 (of 8 (fo 142 6 10)
 (of 9 (xn (st 1 142 139))
 .nil)))))))))))
 (.goto 0)))
 (sq (rg [xo 144 (bc .eql 73 4),mo 143 144])
 (cD 143
 (sq (rg [fo 145 5 7,lo 146 145,fo 147 14 3,lo 148 147,xo 149 (ia 4 146 148),mo 11 149])
 (sq (rg [mo 150 11,xo 151 (nk 150),fo 152 2 151,lo 153 152,xo 154 (bc .sub 153 1),xo 155 (nk 150),fo 156 2 155,xn (st 1 156 154)])
 (sq (rg [fo 157 13 3,lo 158 157,fo 159 15 3,lo 160 159,fo 161 16 3,lo 162 161,fo 163 18 3,lo 164 163,fo 165 14 3,lo 166 165,xo 167 (.build zl2 [(0,1,(ci 6)),(1,1,(.t 158)),(2,1,(.t 160)),(3,1,(.t 162)),(4,1,(.t 164)),(5,1,(.t 166))]),fo 168 25 3,xn (st 13 168 167)])
 (rd [] (of 0 (fo 169 10 3)
 (ot 1 (lo 170 169)
 (of 2 (mo 171 11)
 (of 3 (xo 172 (nk 171))
 (of 4 (fo 173 2 172)
 (ot 5 (lo 174 173)
 (of 6 (xo 175 (.build zl1 [(0,1,(.t 170)),(2,1,(ci 3)),(3,1,(ci 5)),(4,1,(ci (-1))),(6,1,(.t 174))]))
 (of 7 (xn (st 23 10 175))
 .nil))))))))))))
 (sq (rg [xo 74 (.build zl2 [(0,1,(ci 7))]),fo 75 25 3,xn (st 13 75 74)])
 (rg [fo 76 10 3,lo 77 76,xo 78 (.build zl1 [(0,1,(.t 77)),(2,1,(ci 1)),(4,1,(ci (-1)))]),xn (st 23 10 78)]))))))))))))))
 (sq (rg [fo 176 25 3,xo 177 (lt 13 176),fo 178 24 3,xn (.store 1 (.t 178) (.b true)),fo 179 9 10,xn (.store 1 (.t 179) (.b true)),fo 180 10 10,xn (st 13 180 177)])
 (sq (.goto 1)
 (sq (.label 0)
 (sq (rg [fo 181 11 3,lo 182 181,xo 183 (bc .add 182 1),fo 184 11 3,xn (st 1 184 183)])
 (sq (.label 1)
 (sq (rd [] (ot 0 (xo 185 (lt 8 7))
 (ot 1 (xo 186 (lt 44 3))
 (ot 2 (xo 187 (lt 23 10))
 (.op ⟨3,false,[2,1],xn (st 8 4 185)⟩
 (.op ⟨4,false,[2],xn (st 44 5 186)⟩
 (of 5 (xn (st 23 6 187))
 .nil)))))))
 .ret))))))))))))
 (sq .skip
 (sq (rg [fo 181 11 3,lo 182 181,xo 183 (bc .add 182 1),fo 184 11 3,xn (st 1 184 183)])
 (sq (.label 1)
 (sq (rd [] (ot 0 (xo 185 (lt 8 7))
 (ot 1 (xo 186 (lt 44 3))
 (ot 2 (xo 187 (lt 23 10))
 (.op ⟨3,false,[2,1],xn (st 8 4 185)⟩
 (.op ⟨4,false,[2],xn (st 44 5 186)⟩
 (of 5 (xn (st 23 6 187))
 .nil)))))))
 .ret)))))
 (sq .skip
 (sq (rd [] (ot 0 (xo 185 (lt 8 7))
 (ot 1 (xo 186 (lt 44 3))
 (ot 2 (xo 187 (lt 23 10))
 (.op ⟨3,false,[2,1],xn (st 8 4 185)⟩
 (.op ⟨4,false,[2],xn (st 44 5 186)⟩
 (of 5 (xn (st 23 6 187))
 .nil)))))))
 .ret)))))⟩
theorem qhB:trFn Tryz.prog 31 [([],(fs [0,2,1] (.exec 3 (.exec 4 (.exec 5 .nil))))),([],(fs [0,1,2,3,4,5,6,7,8,9,10,11,12,13,14,15] .nil)),([8],(fs [0,1,2,3,4,5] (.exec 6 (.exec 7 (.bring 8 (.exec 9 .nil)))))),([],(fs [0,1,2,3,4,5,6,7] (.exec 8 .nil))),([],(fs [0,1,2,3,4,5,6] .nil)),([],(fs [2,0,1] (.exec 3 (.first 4 (.exec 5 (.first 6 (.exec 7 .nil))))))),([],(fs [4,0,1,2,3] (.exec 5 (.first 6 (.exec 7 (.first 8 (.exec 9 .nil))))))),([],(fs [0,1,2,3,4,5,6] (.exec 7 .nil))),([],(fs [0,1,2] (.exec 3 (.exec 4 (.exec 5 .nil)))))] []=some qqP:=by kernel_rfl
abbrev qVA:Nat:=32
def qlJ:FnI:=⟨218,[.cell 4 8 true,.cell 5 44 true,.cell 6 23 true],
 (sq (rg [xo 2 (.box 28 (.t 0)),xo 3 (.box 41 (.t 1)),xo 4 (.alloc 28 [(vi 0),(vi 0),(vi 0),(.v (.slice none 0 0)),(.v (.slice none 0 0)),(.v (.slice none 0 0)),(.v (.slice none 0 0)),(.v (.slice none 0 0))]),xo 5 (.alloc 41 zl0),xo 6 (.alloc 44 zl1)])
 (sq (sq (rg [xo 14 (lt 8 2),xo 15 (lt 44 3),xo 16 (.call 43 [(.t 14),(.t 15)]),xo 17 (.not (.t 16)),mo 18 17,xg 19 (fa 11 3) 18 false,xg 20 (lf 19) 18 false,xg 21 (bc .lss 20 0) 18 false,xo 22 (.pick (.t 18) (.b true) (.t 21)),mo 23 22,xg 24 (fa 11 3) 23 false,xg 25 (lf 24) 23 false,xg 26 (bc .gtr 25 4) 23 false,xg 27 (mv 26) 23 false,xg 28 (fa 11 3) 27 true,xg 29 (lf 28) 27 true,xg 30 (bc .neq 29 9) 27 true,xg 31 (.pick (.t 27) (.t 30) (.b false)) 23 false,xo 32 (.pick (.t 23) (.b true) (.t 31)),mo 33 32,xg 34 (fa 11 3) 33 false,xg 35 (lf 34) 33 false,xg 36 (bc .eql 35 4) 33 false,xg 37 (mv 36) 33 false,xg 38 (fa 14 3) 37 true,xg 39 (lf 38) 37 true,xg 40 (bc .lss 39 0) 37 true,xg 41 (.pick (.t 37) (.t 40) (.b false)) 33 false,xo 42 (.pick (.t 33) (.b true) (.t 41))])
 (cD 42
 (sq (rd [] (ot 0 (xo 43 (lt 8 2))
 (of 2 (xo 45 (.build zl1 []))
 (ot 1 (xo 44 (lt 44 3))
 (.op ⟨3,false,[1],xn (st 8 4 43)⟩
 (of 4 (xn (st 44 5 44))
 (of 5 (xn (st 23 6 45))
 .nil)))))))
 .ret)
 .skip))
 (sq (rg [xo 46 (lt 8 2),xo 47 (.call 45 [(.t 46)]),xo 7 (.alloc 28 [(vi 0),(vi 0),(vi 0),(.v (.slice none 0 0)),(.v (.slice none 0 0)),(.v (.slice none 0 0)),(.v (.slice none 0 0)),(.v (.slice none 0 0))]),xn (st 8 7 47)])
 (sq (rd [] (of 0 (fo 48 4 7)
 (ot 1 (lo 49 48)
 (of 2 (fo 50 13 3)
 (ot 3 (lo 51 50)
 (ot 4 (xo 52 (ia 5 49 51))
 (of 5 (fo 53 3 52)
 (ot 6 (lo 54 53)
 (of 7 (fo 55 15 3)
 (ot 8 (lo 56 55)
 (ot 9 (xo 57 (ia 2 54 56))
 (of 10 (fo 58 1 57)
 (ot 11 (lo 59 58)
 (of 12 (fo 60 16 3)
 (ot 13 (lo 61 60)
 (ot 14 (xo 62 (ia 3 59 61))
 (of 15 (mo 8 62)
 .nil)))))))))))))))))
 (sq (rg [fo 63 11 3,lo 64 63])
 (.block 0
 (sq (rg [xo 77 (bc .eql 64 0),mo 76 77])
 (cD 76
 (sq (rg [mo 78 8,xo 79 (nk 78),fo 80 0 79,lo 81 80,fo 82 19 3,xn (st 1 82 81)])
 (sq (rg [fo 83 11 3,xn (.store 1 (.t 83) (ci 1))])
 (sq (rd [] (ot 0 (xo 84 (lt 8 7))
 (ot 2 (xo 86 (lt 8 2))
 (ot 3 (xo 87 (lt 44 3))
 (of 4 (fo 88 19 3)
 (ot 5 (lo 89 88)
 (ot 1 (xo 85 (lt 44 3))
 (of 6 (xo 90 (.call 81 [(.t 89)]))
 (of 7 (xo 91 (.call 80 [(.t 86),(.t 87),(ci 1),(ci 8),(.t 90)]))
 (.op ⟨8,false,[1],xn (st 8 4 84)⟩
 (of 9 (xn (st 44 5 85))
 (of 10 (xn (st 23 6 91))
 .nil))))))))))))
 .ret)))
 (sq (rg [xo 93 (bc .eql 64 1),mo 92 93])
 (cD 92
 (sq (rd [] (of 0 (mo 94 8)
 (of 1 (xo 95 (nk 94))
 (of 2 (fo 96 1 95)
 (ot 3 (lo 97 96)
 (of 4 (fo 98 18 3)
 (ot 5 (lo 99 98)
 (of 6 (fo 100 19 3)
 (ot 7 (lo 101 100)
 (of 8 (xo 102 (.call 81 [(.t 101)]))
 (ot 9 (xo 103 (ia 1 97 99))
 (of 10 (xn (st 1 103 102))
 .nil))))))))))))
 (sq (rg [fo 104 11 3,xn (.store 1 (.t 104) (ci 2))])
 (sq (rd [] (ot 0 (xo 105 (lt 8 7))
 (ot 2 (xo 107 (lt 8 2))
 (ot 3 (xo 108 (lt 44 3))
 (of 4 (fo 109 19 3)
 (ot 5 (lo 110 109)
 (ot 1 (xo 106 (lt 44 3))
 (of 6 (xo 111 (.call 81 [(.t 110)]))
 (of 7 (xo 112 (.call 80 [(.t 107),(.t 108),(ci 2),(ci 9),(.t 111)]))
 (.op ⟨8,false,[1],xn (st 8 4 105)⟩
 (of 9 (xn (st 44 5 106))
 (of 10 (xn (st 23 6 112))
 .nil))))))))))))
 .ret)))
 (sq (rg [xo 114 (bc .eql 64 2),mo 113 114])
 (cD 113
 (sq (sq (rd [] (of 0 (mo 115 8)
 (of 1 (xo 116 (nk 115))
 (of 2 (fo 117 0 116)
 (ot 3 (lo 118 117)
 (of 4 (fo 119 19 3)
 (ot 5 (lo 120 119)
 (of 6 (xo 121 (bi .neq 118 120))
 .nil))))))))
 (cD 121
 (sq (rg [fo 122 11 3,xn (.store 1 (.t 122) (ci 0))])
 (sq (rd [] (ot 0 (xo 123 (lt 8 7))
 (ot 2 (xo 125 (lt 8 2))
 (ot 3 (xo 126 (lt 44 3))
 (of 4 (mo 127 8)
 (of 5 (xo 128 (nk 127))
 (of 6 (fo 129 0 128)
 (ot 7 (lo 130 129)
 (ot 1 (xo 124 (lt 44 3))
 (of 8 (xo 131 (.call 81 [(.t 130)]))
 (of 9 (xo 132 (.call 80 [(.t 125),(.t 126),(ci 5),(ci 8),(.t 131)]))
 (.op ⟨10,false,[1],xn (st 8 4 123)⟩
 (of 11 (xn (st 44 5 124))
 (of 12 (xn (st 23 6 132))
 .nil))))))))))))))
 .ret))
 .skip))
 (sq (rg [mo 134 8,fo 135 19 3,lo 136 135,fo 137 18 3,lo 138 137,xo 139 (.call 82 [(.t 136),(.t 138)]),mo 133 139,xo 140 (.ext 0 (.t 133)),xo 141 (.ext 1 (.t 133)),xo 142 (nk 134),fo 143 0 142,xn (st 1 143 140)])
 (sq (rg [fo 144 11 3,xn (.store 1 (.t 144) (ci 3))])
 (sq (rg [xo 145 (lt 8 2),xo 146 (lt 44 3),fo 147 18 3,lo 148 147,xo 149 (.call 80 [(.t 145),(.t 146),(ci 4),(ci 8),(.t 148)]),xo 9 (.alloc 44 zl1),xn (st 23 9 149)])
 (sq (rg [fo 150 8 9,xn (.store 1 (.t 150) (.b true))])
 (sq (rd [] (ot 0 (xo 151 (lt 8 7))
 (ot 1 (xo 152 (lt 44 3))
 (ot 2 (xo 153 (lt 23 9))
 (.op ⟨3,false,[2,1],xn (st 8 4 151)⟩
 (.op ⟨4,false,[2],xn (st 44 5 152)⟩
 (of 5 (xn (st 23 6 153))
 .nil)))))))
 .ret))))))
 (sq (rg [xo 155 (bc .eql 64 3),mo 154 155])
 (cD 154
 (sq (rg [mo 156 8,mo 157 8,xo 158 (nk 157),fo 159 2 158,lo 160 159,xo 161 (bc .sub 160 1),xo 162 (nk 156),fo 163 2 162,xn (st 1 163 161)])
 (sq (rg [fo 164 11 3,xn (.store 1 (.t 164) (ci 4))])
 (sq (rd [] (ot 0 (xo 165 (lt 8 7))
 (ot 2 (xo 167 (lt 8 2))
 (ot 3 (xo 168 (lt 44 3))
 (of 4 (mo 169 8)
 (of 5 (xo 170 (nk 169))
 (of 6 (fo 171 2 170)
 (ot 7 (lo 172 171)
 (ot 1 (xo 166 (lt 44 3))
 (of 8 (xo 173 (.call 80 [(.t 167),(.t 168),(ci 3),(ci 7),(.t 172)]))
 (.op ⟨9,false,[1],xn (st 8 4 165)⟩
 (of 10 (xn (st 44 5 166))
 (of 11 (xn (st 23 6 173))
 .nil)))))))))))))
 .ret)))
 (sq (rg [xo 175 (bc .eql 64 4),mo 174 175])
 (cD 174
 (sq (rd [] (of 0 (fo 176 5 7)
 (ot 1 (lo 177 176)
 (of 2 (fo 178 14 3)
 (ot 3 (lo 179 178)
 (of 4 (fo 180 5 7)
 (ot 5 (lo 181 180)
 (of 6 (fo 182 14 3)
 (ot 7 (lo 183 182)
 (ot 8 (xo 184 (ia 4 181 183))
 (of 9 (fo 185 2 184)
 (ot 10 (lo 186 185)
 (of 11 (xo 187 (bc .sub 186 1))
 (ot 12 (xo 188 (ia 4 177 179))
 (of 13 (fo 189 2 188)
 (of 14 (xn (st 1 189 187))
 .nil))))))))))))))))
 (sq (rd [10,11] (ot 0 (xo 191 (lt 44 3))
 (ot 1 (xo 192 (lt 44 3))
 (of 2 (fo 193 5 7)
 (ot 3 (lo 194 193)
 (of 4 (fo 195 14 3)
 (ot 5 (lo 196 195)
 (ot 6 (xo 197 (ia 4 194 196))
 (of 7 (fo 198 2 197)
 (ot 8 (lo 199 198)
 (of 10 (fo 201 13 3)
 (ot 11 (lo 202 201)
 (of 12 (fo 203 15 3)
 (ot 13 (lo 204 203)
 (of 14 (fo 205 16 3)
 (ot 15 (lo 206 205)
 (of 16 (fo 207 18 3)
 (ot 17 (lo 208 207)
 (of 18 (fo 209 14 3)
 (ot 19 (lo 210 209)
 (of 20 (xo 211 (.build zl2 [(0,1,(ci 6)),(1,1,(.t 202)),(2,1,(.t 204)),(3,1,(.t 206)),(4,1,(.t 208)),(5,1,(.t 210))]))
 (of 9 (xo 200 (.call 84 [(.t 192),(ci 3),(ci 5),(.t 199)]))
 (of 21 (xo 212 (.call 83 [(.t 191),(.t 200),(.t 211)]))
 (of 22 (mo 190 212)
 (of 23 (xo 213 (.ext 0 (.t 190)))
 (of 24 (xo 214 (.ext 1 (.t 190)))
 (.bring ⟨25,false,[],xo 10 (.alloc 41 zl0)⟩
 (.bring ⟨26,false,[],xo 11 (.alloc 44 zl1)⟩
 (of 27 (xn (st 44 10 213))
 (of 28 (xn (st 23 11 214))
 .nil))))))))))))))))))))))))))))))
 (sq (rd [] (ot 0 (xo 215 (lt 8 7))
 (ot 1 (xo 216 (lt 44 10))
 (ot 2 (xo 217 (lt 23 11))
 (.op ⟨3,false,[2,1],xn (st 8 4 215)⟩
 (.op ⟨4,false,[2],xn (st 44 5 216)⟩
 (of 5 (xn (st 23 6 217))
 .nil)))))))
 .ret)))
 (sq (rd [12,13] (ot 0 (xo 66 (lt 44 3))
 (ot 1 (xo 67 (lt 44 3))
 (of 3 (xo 69 (.build zl2 [(0,1,(ci 7))]))
 (of 2 (xo 68 (.call 84 [(.t 67),(ci 1),(ci 0),(ci 0)]))
 (of 4 (xo 70 (.call 83 [(.t 66),(.t 68),(.t 69)]))
 (of 5 (mo 65 70)
 (of 6 (xo 71 (.ext 0 (.t 65)))
 (of 7 (xo 72 (.ext 1 (.t 65)))
 (.bring ⟨8,false,[],xo 12 (.alloc 41 zl0)⟩
 (.bring ⟨9,false,[],xo 13 (.alloc 44 zl1)⟩
 (of 10 (xn (st 44 12 71))
 (of 11 (xn (st 23 13 72))
 .nil)))))))))))))
 (sq (rd [] (ot 0 (xo 73 (lt 8 7))
 (ot 1 (xo 74 (lt 44 12))
 (ot 2 (xo 75 (lt 23 13))
 (.op ⟨3,false,[2,1],xn (st 8 4 73)⟩
 (.op ⟨4,false,[2],xn (st 44 5 74)⟩
 (of 5 (xn (st 23 6 75))
 .nil)))))))
 .ret))))))))))))))))))⟩
theorem qdA:trFn Tryz.prog 32 [([],(fs [0,2,1] (.exec 3 (.exec 4 (.exec 5 .nil))))),([],(fs [0,1,2,3,4,5,6,7,8,9,10,11,12,13,14,15] .nil)),([],(fs [0,2,3,4,5,1] (.exec 6 (.exec 7 (.exec 8 (.exec 9 (.exec 10 .nil))))))),([],(fs [0,1,2,3,4,5,6,7] (.exec 8 (.first 9 (.exec 10 .nil))))),([],(fs [0,2,3,4,5,1] (.exec 6 (.exec 7 (.exec 8 (.exec 9 (.exec 10 .nil))))))),([],(fs [0,1,2,3,4,5,6] .nil)),([],(fs [0,2,3,4,5,6,7,1] (.exec 8 (.exec 9 (.exec 10 (.exec 11 (.exec 12 .nil))))))),([],(fs [0,1,2] (.exec 3 (.exec 4 (.exec 5 .nil))))),([],(fs [0,2,3,4,5,6,7,1] (.exec 8 (.exec 9 (.exec 10 (.exec 11 .nil)))))),([],(fs [0,1,2,3,4,5,6,7,8,9,10,11,12,13] (.exec 14 .nil))),([25,26],(fs [0,1,2,3,4,5,6,7,8,10,11,12,13,14,15,16,17,18,19,20] (.exec 9 (.exec 21 (fs [22,23,24] (.bring 25 (.bring 26 (.exec 27 (.exec 28 .nil))))))))),([],(fs [0,1,2] (.exec 3 (.exec 4 (.exec 5 .nil))))),([8,9],(fs [0,1,3] (.exec 2 (.exec 4 (fs [5,6,7] (.bring 8 (.bring 9 (.exec 10 (.exec 11 .nil))))))))),([],(fs [0,1,2] (.exec 3 (.exec 4 (.exec 5 .nil)))))] []=some qlJ:=by kernel_rfl
abbrev q3F:Nat:=33
def qHG:FnI:=⟨69,[.tmp 0],
 (sq (rg [xo 0 (.mov (.b false))])
 (sq (rg [xo 10 (.call 85 []),xo 11 (.build [(vi 0),(.v (.string ⟨#[]⟩)),(.v (.string ⟨#[]⟩)),(.v (.string ⟨#[]⟩)),(vi 0),(vi 0),(vi 0),(.v (.slice none 0 0)),(.v (.slice none 0 0)),(.v (.slice none 0 0))] [(0,1,(ci 1)),(1,1,(.c (.string ⟨#[105,110]⟩))),(2,1,(.c (.string ⟨#[120]⟩))),(3,1,(.c (.string ⟨#[47]⟩)))]),xo 12 (.call 36 [(.t 10),(ci 0),(.t 11)]),mo 9 12,xo 13 (.ext 0 (.t 9)),xo 14 (.ext 1 (.t 9)),xo 1 (.alloc 28 [(vi 0),(vi 0),(vi 0),(.v (.slice none 0 0)),(.v (.slice none 0 0)),(.v (.slice none 0 0)),(.v (.slice none 0 0)),(.v (.slice none 0 0))]),xo 2 (.alloc 39 zl2),xn (st 8 1 13),xn (st 13 2 14)])
 (sq (rd [3,4] (ot 0 (xo 16 (lt 8 1))
 (ot 1 (xo 17 (lt 13 2))
 (of 2 (xo 18 (.call 34 [(ci 0),(.t 17)]))
 (of 3 (xo 19 (.call 37 [(.t 16),(.t 18)]))
 (of 4 (mo 15 19)
 (of 5 (xo 20 (.ext 0 (.t 15)))
 (of 6 (xo 21 (.ext 1 (.t 15)))
 (of 7 (xo 22 (.ext 2 (.t 15)))
 (.bring ⟨8,false,[],xo 3 (.alloc 28 [(vi 0),(vi 0),(vi 0),(.v (.slice none 0 0)),(.v (.slice none 0 0)),(.v (.slice none 0 0)),(.v (.slice none 0 0)),(.v (.slice none 0 0))])⟩
 (.bring ⟨9,false,[],xo 4 (.alloc 39 zl2)⟩
 (of 10 (xn (st 8 3 20))
 (of 11 (xn (st 13 4 21))
 (of 12 (mo 5 22)
 .nil))))))))))))))
 (sq (rd [6,7] (ot 0 (xo 24 (lt 8 1))
 (of 1 (xo 25 (.build zl2 [(0,1,(ci 4))]))
 (of 2 (xo 26 (.call 34 [(ci 0),(.t 25)]))
 (of 3 (xo 27 (.call 37 [(.t 24),(.t 26)]))
 (of 4 (mo 23 27)
 (of 5 (xo 28 (.ext 0 (.t 23)))
 (of 6 (xo 29 (.ext 1 (.t 23)))
 (of 7 (xo 30 (.ext 2 (.t 23)))
 (.bring ⟨8,false,[],xo 6 (.alloc 28 [(vi 0),(vi 0),(vi 0),(.v (.slice none 0 0)),(.v (.slice none 0 0)),(.v (.slice none 0 0)),(.v (.slice none 0 0)),(.v (.slice none 0 0))])⟩
 (.bring ⟨9,false,[],xo 7 (.alloc 39 zl2)⟩
 (of 10 (xn (st 8 6 28))
 (of 11 (xn (st 13 7 29))
 (of 12 (mo 8 30)
 .nil))))))))))))))
 (sq (sq (rg [fo 31 5 3,lo 32 31,xo 33 (.len false (.t 32)),xo 34 (bc .neq 33 1)])
 (cD 34
 (sq (rg [xo 0 (.mov (.b false))])
 .ret)
 .skip))
 (sq (rg [xo 35 (lt 8 1),xo 36 (.call 25 [(.t 35)]),xo 37 (bc .eql 36 1),mo 38 37,xg 39 (lt 8 3) 38 true,xg 40 (.call 25 [(.t 39)]) 38 true,xg 41 (bc .eql 40 0) 38 true,xo 42 (.pick (.t 38) (.t 41) (.b false)),mo 43 42,xg 44 (fa 5 3) 43 true,xg 45 (lf 44) 43 true,xg 46 (.iadr 4 (.t 45) (ci 0)) 43 true,xg 47 (fa 2 46) 43 true,xg 48 (lf 47) 43 true,xg 49 (bc .eql 48 0) 43 true,xo 50 (.pick (.t 43) (.t 49) (.b false)),mo 51 50,xg 52 (lt 13 4) 51 true,xg 53 (.build zl2 [(0,1,(ci 6))]) 51 true,xg 54 (.binst false [0,0,0,0,0,0,0,0,0,0,0,0,0] (.t 52) (.t 53)) 51 true,xo 55 (.pick (.t 51) (.t 54) (.b false)),mo 56 55,xg 57 (mv 5) 56 true,xg 58 (bc .eql 57 5) 56 true,xo 59 (.pick (.t 56) (.t 58) (.b false)),mo 60 59,xg 61 (lt 13 7) 60 true,xg 62 (.build zl2 [(0,1,(ci 7))]) 60 true,xg 63 (.binst false [0,0,0,0,0,0,0,0,0,0,0,0,0] (.t 61) (.t 62)) 60 true,xo 64 (.pick (.t 60) (.t 63) (.b false)),mo 65 64,xg 66 (mv 8) 65 true,xg 67 (bc .eql 66 1) 65 true,xo 68 (.pick (.t 65) (.t 67) (.b false)),mo 0 68])
 .ret))))))⟩
theorem qmF:trFn Tryz.prog 33 [([8,9],(.first 0 (.first 1 (.exec 2 (.exec 3 (fs [4,5,6,7] (.bring 8 (.bring 9 (.exec 10 (.exec 11 (.first 12 .nil))))))))))),([8,9],(.first 0 (.first 1 (.exec 2 (.exec 3 (fs [4,5,6,7] (.bring 8 (.bring 9 (.exec 10 (.exec 11 (.first 12 .nil)))))))))))] []=some qHG:=by kernel_rfl
abbrev qnN:Nat:=34
def qxN:FnI:=⟨25,[.cell 4 44 true],
 (sq (rg [xo 3 (.box 39 (.t 1)),xo 4 (.alloc 41 zl0)])
 (sq (rg [xo 6 (.build [(vi 0),(.v (.string ⟨#[]⟩)),(.v (.string ⟨#[]⟩)),(.v (.string ⟨#[]⟩)),(vi 0),(vi 0),(vi 0),(.v (.slice none 0 0)),(.v (.slice none 0 0)),(.v (.slice none 0 0))] [(0,1,(ci 2))]),mo 7 0,fo 8 1 3,lo 9 8,fo 10 2 3,lo 11 10,fo 12 3 3,lo 13 12,fo 14 4 3,lo 15 14,fo 16 5 3,lo 17 16,xo 18 (.build zl0 [(0,10,(.t 6)),(10,1,(.t 7)),(13,1,(.t 9)),(15,1,(.t 11)),(16,1,(.t 13)),(18,1,(.t 15)),(14,1,(.t 17))]),xo 5 (.alloc 41 zl0),xn (st 44 5 18)])
 (sq (sq (rg [fo 19 0 3,lo 20 19,xo 21 (bc .neq 20 1)])
 (cD 21
 (rg [fo 22 11 5,xn (.store 1 (.t 22) (ci 9)),fo 23 14 5,xn (.store 1 (.t 23) (ci (-1)))])
 .skip))
 (sq (rg [xo 24 (lt 44 5),xn (st 44 4 24)])
 .ret))))⟩
theorem qbN:trFn Tryz.prog 34 [] []=some qxN:=by kernel_rfl
abbrev qIH:Nat:=36
def qZH:FnI:=⟨37,[.cell 6 8 true,.cell 7 13 true],
 (sq (rg [xo 3 (.box 28 (.t 0)),xo 5 (.box 35 (.t 2)),xo 6 (.alloc 28 [(vi 0),(vi 0),(vi 0),(.v (.slice none 0 0)),(.v (.slice none 0 0)),(.v (.slice none 0 0)),(.v (.slice none 0 0)),(.v (.slice none 0 0))]),xo 7 (.alloc 39 zl2)])
 (sq (rg [xo 13 (lt 10 5),mo 14 1,xo 15 (.build zl0 [(0,10,(.t 13)),(10,1,(.t 14))]),xo 8 (.alloc 41 zl0),xn (st 44 8 15)])
 (sq (sq (rg [xo 9 (.mov (ci 0))])
 (.block 0
 (.loop [9] [16,17,18,19,20,21,22,26,27,28,25,29,30,31,10,11,12,32,33,23,24,9]
 (sq (sq (rg [mo 16 9,xo 17 (bc .lss 16 40),mo 18 17,xg 19 (fa 24 8) 18 true,xg 20 (lf 19) 18 true,xg 21 (.not (.t 20)) 18 true,xo 22 (.pick (.t 18) (.t 21) (.b false))])
 (cD 22
 .skip
 (.exit 0)))
 (sq (.block 1
 (sq (rg [xo 26 (lt 8 3),xo 27 (lt 44 8),xo 28 (.call 15 [(.t 26),(.t 27)]),mo 25 28,xo 29 (.ext 0 (.t 25)),xo 30 (.ext 1 (.t 25)),xo 31 (.ext 2 (.t 25)),xo 10 (.alloc 28 [(vi 0),(vi 0),(vi 0),(.v (.slice none 0 0)),(.v (.slice none 0 0)),(.v (.slice none 0 0)),(.v (.slice none 0 0)),(.v (.slice none 0 0))]),xo 11 (.alloc 41 zl0),xo 12 (.alloc 44 zl1),xn (st 8 10 29),xn (st 44 11 30),xn (st 23 12 31)])
 (sq (rg [xo 32 (lt 8 10),xn (st 8 3 32)])
 (rg [xo 33 (lt 44 11),xn (st 44 8 33)]))))
 (rg [mo 23 9,xo 24 (bc .add 23 1),mo 9 24]))))))
 (sq (rd [] (ot 0 (xo 34 (lt 8 3))
 (of 1 (fo 35 25 8)
 (ot 2 (xo 36 (lt 13 35))
 (.op ⟨3,false,[2],xn (st 8 6 34)⟩
 (of 4 (xn (st 13 7 36))
 .nil))))))
 .ret))))⟩
theorem q1G:trFn Tryz.prog 36 [([],(fs [0,1,2] (.exec 3 (.exec 4 .nil))))] [[9]]=some qZH:=by kernel_rfl
abbrev qII:Nat:=37
def qbI:FnI:=⟨33,[.cell 4 8 true,.cell 5 13 true,.tmp 6],
 (sq (rg [xo 2 (.box 28 (.t 0)),xo 3 (.box 41 (.t 1)),xo 4 (.alloc 28 [(vi 0),(vi 0),(vi 0),(.v (.slice none 0 0)),(.v (.slice none 0 0)),(.v (.slice none 0 0)),(.v (.slice none 0 0)),(.v (.slice none 0 0))]),xo 5 (.alloc 39 zl2),xo 6 (.mov (ci 0))])
 (sq (rg [xo 7 (.mov (ci 0))])
 (sq (.block 0
 (.loop [7] [11,12,13,14,15,16,17,19,20,21,18,22,23,24,8,9,10,25,26,27,28,7]
 (sq (sq (rg [mo 11 7,xo 12 (bc .lss 11 40),mo 13 12,xg 14 (fa 24 3) 13 true,xg 15 (lf 14) 13 true,xg 16 (.not (.t 15)) 13 true,xo 17 (.pick (.t 13) (.t 16) (.b false))])
 (cD 17
 .skip
 (.exit 0)))
 (.block 1
 (sq (rg [xo 19 (lt 8 2),xo 20 (lt 44 3),xo 21 (.call 31 [(.t 19),(.t 20)]),mo 18 21,xo 22 (.ext 0 (.t 18)),xo 23 (.ext 1 (.t 18)),xo 24 (.ext 2 (.t 18)),xo 8 (.alloc 28 [(vi 0),(vi 0),(vi 0),(.v (.slice none 0 0)),(.v (.slice none 0 0)),(.v (.slice none 0 0)),(.v (.slice none 0 0)),(.v (.slice none 0 0))]),xo 9 (.alloc 41 zl0),xo 10 (.alloc 44 zl1),xn (st 8 8 22),xn (st 44 9 23),xn (st 23 10 24)])
 (sq (rg [xo 25 (lt 8 8),xn (st 8 2 25)])
 (sq (rg [xo 26 (lt 44 9),xn (st 44 3 26)])
 (rg [mo 27 7,xo 28 (bc .add 27 1),mo 7 28]))))))))
 (sq (rd [] (ot 0 (xo 29 (lt 8 2))
 (of 1 (fo 30 25 3)
 (of 3 (mo 32 7)
 (ot 2 (xo 31 (lt 13 30))
 (.op ⟨4,false,[2],xn (st 8 4 29)⟩
 (of 5 (xn (st 13 5 31))
 (of 6 (mo 6 32)
 .nil))))))))
 .ret))))⟩
theorem qyH:trFn Tryz.prog 37 [([],(fs [0,1,3,2] (.exec 4 (.exec 5 (.first 6 .nil)))))] [[7]]=some qbI:=by kernel_rfl
abbrev qVK:Nat:=39
def qrK:FnI:=⟨24,[.tmp 2],
 (sq (rg [xo 2 (.mov (.b false))])
 (sq (sq (rg [xo 3 (.mov (ci 0))])
 (.block 0
 (.loop [3] [4,5,6,7,8,9,10,11,12,15,16,17,18,19,20,2,13,14,3]
 (sq (sq (rg [mo 4 3,mo 5 0,xo 6 (.len false (.t 5)),xo 7 (bi .lss 4 6),mo 8 7,xg 9 (mv 0) 8 true,xg 10 (.len false (.t 9)) 8 true,xg 11 (bc .leq 10 50) 8 true,xo 12 (.pick (.t 8) (.t 11) (.b false))])
 (cD 12
 .skip
 (.exit 0)))
 (sq (.block 1
 (sq (rg [mo 15 0,mo 16 3,xo 17 (ia 1 15 16),lo 18 17,xo 19 (.len false (.t 18)),xo 20 (bc .gtr 19 50)])
 (cD 20
 (sq (rg [xo 2 (.mov (.b true))])
 .ret)
 .skip)))
 (rg [mo 13 3,xo 14 (bc .add 13 1),mo 3 14]))))))
 (sq (rg [mo 21 0,xo 22 (.len false (.t 21)),xo 23 (bc .gtr 22 50),mo 2 23])
 .ret)))⟩
theorem q7J:trFn Tryz.prog 39 [] [[3]]=some qrK:=by kernel_rfl
abbrev qcG:Nat:=40
def qkG:FnI:=⟨44,[.tmp 2],
 (sq (rg [xo 1 (.box 63 (.t 0)),xo 2 (.mov (.b false))])
 (sq (sq (rg [fo 4 0 1,lo 5 4,xo 6 (.len false (.t 5)),xo 7 (bc .gtr 6 20),mo 8 7,xg 9 (fa 2 1) 8 false,xg 10 (lf 9) 8 false,xg 11 (.len false (.t 10)) 8 false,xg 12 (bc .gtr 11 20) 8 false,xo 13 (.pick (.t 8) (.b true) (.t 12)),mo 14 13,xg 15 (fa 1 1) 14 false,xg 16 (lf 15) 14 false,xg 17 (.call 86 [(.t 16)]) 14 false,xo 18 (.pick (.t 14) (.b true) (.t 17))])
 (cD 18
 (sq (rg [xo 2 (.mov (.b true))])
 .ret)
 .skip))
 (sq (sq (rg [xo 3 (.mov (ci 0))])
 (.block 0
 (.loop [3] [19,20,21,22,23,26,27,28,29,30,31,32,33,34,35,36,37,38,39,40,41,42,43,2,24,25,3]
 (sq (sq (rg [mo 19 3,fo 20 2 1,lo 21 20,xo 22 (.len false (.t 21)),xo 23 (bi .lss 19 22)])
 (cD 23
 .skip
 (.exit 0)))
 (sq (.block 1
 (sq (rg [fo 26 2 1,lo 27 26,mo 28 3,xo 29 (ia 4 27 28),fo 30 3 29,lo 31 30,xo 32 (.len false (.t 31)),xo 33 (bc .gtr 32 20),mo 34 33,xg 35 (fa 2 1) 34 false,xg 36 (lf 35) 34 false,xg 37 (mv 3) 34 false,xg 38 (ia 4 36 37) 34 false,xg 39 (fa 0 38) 34 false,xg 40 (lf 39) 34 false,xg 41 (.len true (.t 40)) 34 false,xg 42 (bc .gtr 41 100) 34 false,xo 43 (.pick (.t 34) (.b true) (.t 42))])
 (cD 43
 (sq (rg [xo 2 (.mov (.b true))])
 .ret)
 .skip)))
 (rg [mo 24 3,xo 25 (bc .add 24 1),mo 3 25]))))))
 (sq (rg [xo 2 (.mov (.b false))])
 .ret))))⟩
theorem qTG:trFn Tryz.prog 40 [] [[3]]=some qkG:=by kernel_rfl
abbrev qNF:Nat:=41
def qsT:FnI:=⟨40,[.cell 4 8 true,.cell 5 44 true,.cell 6 23 true],
 (sq (rg [xo 2 (.box 28 (.t 0)),xo 3 (.box 41 (.t 1)),xo 4 (.alloc 28 [(vi 0),(vi 0),(vi 0),(.v (.slice none 0 0)),(.v (.slice none 0 0)),(.v (.slice none 0 0)),(.v (.slice none 0 0)),(.v (.slice none 0 0))]),xo 5 (.alloc 41 zl0),xo 6 (.alloc 44 zl1)])
 (sq (rd [7] (of 1 (fo 12 11 3)
 (ot 2 (lo 13 12)
 (of 0 (xo 11 (.call 87 []))
 (ot 3 (xo 14 (.look .i64 (.agg #[.nilFunc]) true (.t 11) (.t 13)))
 (of 4 (mo 10 14)
 (of 5 (xo 15 (.ext 0 (.t 10)))
 (of 6 (xo 16 (.ext 1 (.t 10)))
 (.bring ⟨7,false,[],xo 7 (.alloc 149 [(.v .nilFunc)])⟩
 (of 8 (xn (st 1 7 15))
 (of 9 (mo 8 16)
 .nil)))))))))))
 (sq (sq (rg [mo 17 8,xo 18 (.not (.t 17)),mo 19 18,xg 20 (lt 8 2) 19 false,xg 21 (lt 44 3) 19 false,xg 22 (.call 21 [(.t 20),(.t 21)]) 19 false,xg 23 (.not (.t 22)) 19 false,xo 24 (.pick (.t 19) (.b true) (.t 23))])
 (cD 24
 (sq (rd [] (ot 0 (xo 25 (lt 8 2))
 (of 2 (xo 27 (.build zl1 []))
 (ot 1 (xo 26 (lt 44 3))
 (.op ⟨3,false,[1],xn (st 8 4 25)⟩
 (of 4 (xn (st 44 5 26))
 (of 5 (xn (st 23 6 27))
 .nil)))))))
 .ret)
 .skip))
 (sq (rg [xo 28 (lt 8 2),xo 29 (.call 26 [(.t 28)]),xn (st 8 2 29)])
 (sq (rg [fo 30 0 7,lo 31 30,xo 32 (.callv (.t 31) [(.t 2),(.t 3)]),xo 9 (.alloc 44 zl1),xn (st 23 9 32)])
 (sq (rg [fo 33 10 3,lo 34 33,fo 35 0 9,xn (st 1 35 34),fo 36 4 9,xn (.store 1 (.t 36) (ci (-1)))])
 (sq (rd [] (ot 0 (xo 37 (lt 8 2))
 (ot 1 (xo 38 (lt 44 3))
 (ot 2 (xo 39 (lt 23 9))
 (.op ⟨3,false,[2,1],xn (st 8 4 37)⟩
 (.op ⟨4,false,[2],xn (st 44 5 38)⟩
 (of 5 (xn (st 23 6 39))
 .nil)))))))
 .ret)))))))⟩
theorem qeH:trFn Tryz.prog 41 [([7],(.first 1 (.first 2 (.exec 0 (fs [3,4,5,6] (.bring 7 (.exec 8 (.first 9 .nil)))))))),([],(fs [0,2,1] (.exec 3 (.exec 4 (.exec 5 .nil))))),([],(fs [0,1,2] (.exec 3 (.exec 4 (.exec 5 .nil)))))] []=some qsT:=by kernel_rfl
abbrev qmN:Nat:=42
def qwN:FnI:=⟨2,[.cell 0 24 true],
 (sq (rg [xo 0 (.alloc 93 [(.v .nilFunc),(.v .nilFunc),(.v .nilFunc),(.v .nilFunc),(.v .nilFunc),(.v .nilFunc),(.v .nilFunc),(.v .nilFunc),(.v .nilFunc),(.v .nilFunc),(.v .nilFunc),(.v .nilFunc),(.v .nilFunc),(.v .nilFunc),(.v .nilFunc),(.v .nilFunc),(.v .nilFunc),(.v .nilFunc),(.v .nilFunc),(.v .nilFunc),(.v .nilFunc),(.v .nilFunc),(.v .nilFunc),(.v .nilFunc)])])
 (sq (rg [xo 1 (.build [(.v .nilFunc),(.v .nilFunc),(.v .nilFunc),(.v .nilFunc),(.v .nilFunc),(.v .nilFunc),(.v .nilFunc),(.v .nilFunc),(.v .nilFunc),(.v .nilFunc),(.v .nilFunc),(.v .nilFunc),(.v .nilFunc),(.v .nilFunc),(.v .nilFunc),(.v .nilFunc),(.v .nilFunc),(.v .nilFunc),(.v .nilFunc),(.v .nilFunc),(.v .nilFunc),(.v .nilFunc),(.v .nilFunc),(.v .nilFunc)] [(3,1,(.c (.func (.func 88) #[] #[]))),(4,1,(.c (.func (.func 89) #[] #[]))),(5,1,(.c (.func (.func 90) #[] #[]))),(6,1,(.c (.func (.func 91) #[] #[]))),(7,1,(.c (.func (.func 92) #[] #[]))),(8,1,(.c (.func (.func 93) #[] #[]))),(9,1,(.c (.func (.func 94) #[] #[]))),(10,1,(.c (.func (.func 95) #[] #[]))),(11,1,(.c (.func (.func 96) #[] #[]))),(12,1,(.c (.func (.func 97) #[] #[]))),(20,1,(.c (.func (.func 98) #[] #[]))),(21,1,(.c (.func (.func 99) #[] #[]))),(22,1,(.c (.func (.func 100) #[] #[]))),(23,1,(.c (.func (.func 101) #[] #[])))]),xn (st 24 0 1)])
 .ret))⟩
theorem qaN:trFn Tryz.prog 42 [] []=some qwN:=by kernel_rfl
abbrev q8H:Nat:=43
def qRI:FnI:=⟨105,[.tmp 4],
 (sq (rg [xo 2 (.box 28 (.t 0)),xo 3 (.box 41 (.t 1)),xo 4 (.mov (.b false))])
 (sq (sq (rd [] (ot 0 (xo 6 (lt 8 2))
 (of 1 (xo 7 (.call 102 [(.t 6)]))
 (of 2 (xo 8 (.not (.t 7)))
 (of 3 (mo 9 8)
 (of 4 (xg 10 (fa 10 3) 9 false)
 (ot 5 (xg 11 (lf 10) 9 false)
 (of 6 (xg 12 (fa 3 2) 9 false)
 (ot 7 (xg 13 (lf 12) 9 false)
 (of 8 (xg 14 (.len false (.t 13)) 9 false)
 (of 9 (xg 15 (.call 103 [(.t 11),(.t 14)]) 9 false)
 (of 10 (xg 16 (.not (.t 15)) 9 false)
 (of 11 (xo 17 (.pick (.t 9) (.b true) (.t 16)))
 (of 12 (mo 18 17)
 (of 13 (xg 19 (fa 24 3) 18 false)
 (ot 14 (xg 20 (lf 19) 18 false)
 (of 15 (xo 21 (.pick (.t 18) (.b true) (.t 20)))
 (of 16 (mo 22 21)
 (of 17 (xg 23 (fa 13 3) 22 false)
 (ot 18 (xg 24 (lf 23) 22 false)
 (of 19 (xg 25 (fa 4 2) 22 false)
 (ot 20 (xg 26 (lf 25) 22 false)
 (of 21 (xg 27 (.len false (.t 26)) 22 false)
 (of 22 (xg 28 (.call 103 [(.t 24),(.t 27)]) 22 false)
 (of 23 (xg 29 (.not (.t 28)) 22 false)
 (of 24 (xo 30 (.pick (.t 22) (.b true) (.t 29)))
 (of 25 (mo 31 30)
 (of 26 (xg 32 (fa 15 3) 31 false)
 (ot 27 (xg 33 (lf 32) 31 false)
 (of 28 (xg 34 (fa 4 2) 31 false)
 (ot 29 (xg 35 (lf 34) 31 false)
 (of 30 (xg 36 (fa 13 3) 31 false)
 (ot 31 (xg 37 (lf 36) 31 false)
 (ot 32 (xg 38 (ia 5 35 37) 31 false)
 (of 33 (xg 39 (fa 3 38) 31 false)
 (ot 34 (xg 40 (lf 39) 31 false)
 (of 35 (xg 41 (.len false (.t 40)) 31 false)
 (of 36 (xg 42 (.call 103 [(.t 33),(.t 41)]) 31 false)
 (of 37 (xg 43 (.not (.t 42)) 31 false)
 (of 38 (xo 44 (.pick (.t 31) (.b true) (.t 43)))
 .nil))))))))))))))))))))))))))))))))))))))))
 (cD 44
 (sq (rg [xo 4 (.mov (.b false))])
 .ret)
 .skip))
 (sq (rd [] (of 0 (fo 45 4 2)
 (ot 1 (lo 46 45)
 (of 2 (fo 47 13 3)
 (ot 3 (lo 48 47)
 (ot 4 (xo 49 (ia 5 46 48))
 (of 5 (fo 50 3 49)
 (ot 6 (lo 51 50)
 (of 7 (fo 52 15 3)
 (ot 8 (lo 53 52)
 (ot 9 (xo 54 (ia 2 51 53))
 (of 10 (fo 55 1 54)
 (ot 11 (lo 56 55)
 (of 12 (mo 5 56)
 .nil))))))))))))))
 (sq (sq (rd [] (of 0 (fo 57 16 3)
 (ot 1 (lo 58 57)
 (of 2 (mo 59 5)
 (of 3 (xo 60 (.len false (.t 59)))
 (of 4 (xo 61 (.call 103 [(.t 58),(.t 60)]))
 (of 5 (xo 62 (.not (.t 61)))
 (of 6 (mo 63 62)
 (of 7 (xg 64 (fa 17 3) 63 false)
 (ot 8 (xg 65 (lf 64) 63 false)
 (of 9 (xg 66 (mv 5) 63 false)
 (of 10 (xg 67 (.len false (.t 66)) 63 false)
 (of 11 (xg 68 (.call 103 [(.t 65),(.t 67)]) 63 false)
 (of 12 (xg 69 (.not (.t 68)) 63 false)
 (of 13 (xo 70 (.pick (.t 63) (.b true) (.t 69)))
 (of 14 (mo 71 70)
 (of 15 (xg 72 (fa 18 3) 71 false)
 (ot 16 (xg 73 (lf 72) 71 false)
 (of 17 (xg 74 (mv 5) 71 false)
 (of 18 (xg 75 (fa 16 3) 71 false)
 (ot 19 (xg 76 (lf 75) 71 false)
 (ot 20 (xg 77 (ia 3 74 76) 71 false)
 (of 21 (xg 78 (fa 1 77) 71 false)
 (ot 22 (xg 79 (lf 78) 71 false)
 (of 23 (xg 80 (.len false (.t 79)) 71 false)
 (of 24 (xg 81 (.call 103 [(.t 73),(.t 80)]) 71 false)
 (of 25 (xg 82 (.not (.t 81)) 71 false)
 (of 26 (xo 83 (.pick (.t 71) (.b true) (.t 82)))
 .nil))))))))))))))))))))))))))))
 (cD 83
 (sq (rg [xo 4 (.mov (.b false))])
 .ret)
 .skip))
 (sq (rg [fo 84 14 3,lo 85 84,xo 86 (.bini .geq (.t 85) (ci (-1))),mo 87 86,xg 88 (fa 14 3) 87 true,xg 89 (lf 88) 87 true,xg 90 (fa 5 2) 87 true,xg 91 (lf 90) 87 true,xg 92 (.len false (.t 91)) 87 true,xg 93 (bi .lss 89 92) 87 true,xo 94 (.pick (.t 87) (.t 93) (.b false)),mo 95 94,xg 96 (fa 21 3) 95 true,xg 97 (lf 96) 95 true,xg 98 (bc .geq 97 0) 95 true,xo 99 (.pick (.t 95) (.t 98) (.b false)),mo 100 99,xg 101 (fa 22 3) 100 true,xg 102 (lf 101) 100 true,xg 103 (bc .geq 102 0) 100 true,xo 104 (.pick (.t 100) (.t 103) (.b false)),mo 4 104])
 .ret)))))⟩
theorem qoH:trFn Tryz.prog 43 [([],(.first 0 (.exec 1 (fs [2,3,4,5,6,7,8] (.exec 9 (fs [10,11,12,13,14,15,16,17,18,19,20,21] (.exec 22 (fs [23,24,25,26,27,28,29,30,31,32,33,34,35] (.exec 36 (.first 37 (.first 38 .nil))))))))))),([],(fs [0,1,2,3,4,5,6,7,8,9,10,11,12] .nil)),([],(fs [0,1,2,3] (.exec 4 (fs [5,6,7,8,9,10] (.exec 11 (fs [12,13,14,15,16,17,18,19,20,21,22,23] (.exec 24 (.first 25 (.first 26 .nil)))))))))] []=some qRI:=by kernel_rfl
abbrev qAI:Nat:=45
def qTI:FnI:=⟨151,[.cell 2 8 true],
 (sq (rg [xo 1 (.box 28 (.t 0)),xo 2 (.alloc 28 [(vi 0),(vi 0),(vi 0),(.v (.slice none 0 0)),(.v (.slice none 0 0)),(.v (.slice none 0 0)),(.v (.slice none 0 0)),(.v (.slice none 0 0))])])
 (sq (rg [xo 13 (lt 8 1),xo 3 (.alloc 28 [(vi 0),(vi 0),(vi 0),(.v (.slice none 0 0)),(.v (.slice none 0 0)),(.v (.slice none 0 0)),(.v (.slice none 0 0)),(.v (.slice none 0 0))]),xn (st 8 3 13)])
 (sq (rg [xo 14 (.bsl 3 1 0 [] []),fo 15 3 3,xn (st 1 15 14)])
 (sq (rg [fo 16 3 3,lo 17 16,fo 18 3 1,lo 19 18,xo 20 (.app 3 1 8 (.t 17) (.t 19)),fo 21 3 3,xn (st 1 21 20)])
 (sq (rg [xo 22 (.bsl 66 5 0 [] []),fo 23 4 3,xn (st 1 23 22)])
 (sq (sq (rg [xo 4 (.mov (ci 0))])
 (.block 0
 (.loop [4] [24,25,26,27,28,31,32,33,34,35,5,36,37,6,38,39,40,41,42,43,44,45,46,49,50,51,52,53,54,55,56,57,7,58,59,8,60,61,62,63,64,65,66,67,68,69,70,71,72,75,76,77,78,79,80,81,82,83,84,85,86,87,9,88,10,89,90,91,92,93,94,95,96,97,98,99,73,74,100,101,102,103,104,105,47,48,106,107,108,109,110,111,29,30,4]
 (sq (sq (rg [mo 24 4,fo 25 4 1,lo 26 25,xo 27 (.len false (.t 26)),xo 28 (bi .lss 24 27)])
 (cD 28
 .skip
 (.exit 0)))
 (sq (.block 1
 (sq (rg [fo 31 4 1,lo 32 31,mo 33 4,xo 34 (ia 5 32 33),xo 35 (lt 5 34),xo 5 (.alloc 66 [(.v (.slice none 0 0)),(.v (.slice none 0 0)),(.v (.slice none 0 0)),(.v (.slice none 0 0)),(.v (.bool false))]),xn (st 5 5 35)])
 (sq (rg [xo 36 (.bsl 73 2 0 [] []),fo 37 3 5,xn (st 1 37 36)])
 (sq (sq (rg [xo 6 (.mov (ci 0))])
 (.block 2
 (.loop [6] [38,39,40,41,42,43,44,45,46,49,50,51,52,53,54,55,56,57,7,58,59,8,60,61,62,63,64,65,66,67,68,69,70,71,72,75,76,77,78,79,80,81,82,83,84,85,86,87,9,88,10,89,90,91,92,93,94,95,96,97,98,99,73,74,100,101,102,103,104,105,47,48,6]
 (sq (sq (rg [mo 38 6,fo 39 4 1,lo 40 39,mo 41 4,xo 42 (ia 5 40 41),fo 43 3 42,lo 44 43,xo 45 (.len false (.t 44)),xo 46 (bi .lss 38 45)])
 (cD 46
 .skip
 (.exit 2)))
 (sq (.block 3
 (sq (rg [fo 49 4 1,lo 50 49,mo 51 4,xo 52 (ia 5 50 51),fo 53 3 52,lo 54 53,mo 55 6,xo 56 (ia 2 54 55),xo 57 (lt 2 56),xo 7 (.alloc 73 [(.v (.int .u64 (0))),(.v (.slice none 0 0))]),xn (st 2 7 57)])
 (sq (rg [xo 58 (.bsl 78 3 0 [] []),fo 59 1 7,xn (st 1 59 58)])
 (sq (sq (rg [xo 8 (.mov (ci 0))])
 (.block 4
 (.loop [8] [60,61,62,63,64,65,66,67,68,69,70,71,72,75,76,77,78,79,80,81,82,83,84,85,86,87,9,88,10,89,90,91,92,93,94,95,96,97,98,99,73,74,8]
 (sq (sq (rg [mo 60 8,fo 61 4 1,lo 62 61,mo 63 4,xo 64 (ia 5 62 63),fo 65 3 64,lo 66 65,mo 67 6,xo 68 (ia 2 66 67),fo 69 1 68,lo 70 69,xo 71 (.len false (.t 70)),xo 72 (bi .lss 60 71)])
 (cD 72
 .skip
 (.exit 4)))
 (sq (.block 5
 (sq (rg [fo 75 4 1,lo 76 75,mo 77 4,xo 78 (ia 5 76 77),fo 79 3 78,lo 80 79,mo 81 6,xo 82 (ia 2 80 81),fo 83 1 82,lo 84 83,mo 85 8,xo 86 (ia 3 84 85),xo 87 (lt 3 86),xo 9 (.alloc 78 [(.v (.int .u64 (0))),(.v (.slice none 0 0)),(vi 0)]),xn (st 3 9 87)])
 (sq (rg [xo 88 (.bsl 3 1 0 [] []),mo 10 88])
 (sq (rg [mo 89 10,fo 90 1 9,lo 91 90,xo 92 (.app 3 1 8 (.t 89) (.t 91)),fo 93 1 9,xn (st 1 93 92)])
 (rg [fo 94 1 7,lo 95 94,xo 96 (lt 3 9),xo 97 (.bsl 78 3 1 [(.v (.int .u64 (0))),(.v (.slice none 0 0)),(vi 0)] [(0,3,(.t 96))]),xo 98 (.app 78 3 40 (.t 95) (.t 97)),fo 99 1 7,xn (st 1 99 98)])))))
 (rg [mo 73 8,xo 74 (bc .add 73 1),mo 8 74]))))))
 (rg [fo 100 3 5,lo 101 100,xo 102 (lt 2 7),xo 103 (.bsl 73 2 1 [(.v (.int .u64 (0))),(.v (.slice none 0 0))] [(0,2,(.t 102))]),xo 104 (.app 73 2 32 (.t 101) (.t 103)),fo 105 3 5,xn (st 1 105 104)])))))
 (rg [mo 47 6,xo 48 (bc .add 47 1),mo 6 48]))))))
 (rg [fo 106 4 3,lo 107 106,xo 108 (lt 5 5),xo 109 (.bsl 66 5 1 [(.v (.slice none 0 0)),(.v (.slice none 0 0)),(.v (.slice none 0 0)),(.v (.slice none 0 0)),(.v (.bool false))] [(0,5,(.t 108))]),xo 110 (.app 66 5 104 (.t 107) (.t 109)),fo 111 4 3,xn (st 1 111 110)])))))
 (rg [mo 29 4,xo 30 (bc .add 29 1),mo 4 30]))))))
 (sq (rg [xo 112 (.bsl 80 4 0 [] []),fo 113 5 3,xn (st 1 113 112)])
 (sq (rg [fo 114 5 3,lo 115 114,fo 116 5 1,lo 117 116,xo 118 (.app 80 4 40 (.t 115) (.t 117)),fo 119 5 3,xn (st 1 119 118)])
 (sq (rg [xo 120 (.bsl 113 1 0 [] []),fo 121 6 3,xn (st 1 121 120)])
 (sq (sq (rg [xo 11 (.mov (ci 0))])
 (.block 6
 (.loop [11] [122,123,124,125,126,129,12,132,133,134,135,136,137,130,131,138,139,140,141,127,128,11]
 (sq (sq (rg [mo 122 11,fo 123 6 1,lo 124 123,xo 125 (.len false (.t 124)),xo 126 (bi .lss 122 125)])
 (cD 126
 .skip
 (.exit 6)))
 (sq (.block 7
 (sq (rg [xo 129 (.bsl 36 1 0 [] []),mo 12 129])
 (rd [] (of 2 (mo 132 12)
 (of 3 (fo 133 6 1)
 (ot 4 (lo 134 133)
 (of 5 (mo 135 11)
 (ot 6 (xo 136 (ia 1 134 135))
 (ot 7 (lo 137 136)
 (of 0 (fo 130 6 3)
 (ot 1 (lo 131 130)
 (.op ⟨8,false,[1],xo 138 (.app 36 1 8 (.t 132) (.t 137))⟩
 (of 9 (xo 139 (.bsl 113 1 1 [(.v (.slice none 0 0))] [(0,1,(.t 138))]))
 (of 10 (xo 140 (.app 113 1 24 (.t 131) (.t 139)))
 (of 11 (fo 141 6 3)
 (of 12 (xn (st 1 141 140))
 .nil))))))))))))))))
 (rg [mo 127 11,xo 128 (bc .add 127 1),mo 11 128]))))))
 (sq (rg [xo 142 (.bsl 109 3 0 [] []),fo 143 7 3,xn (st 1 143 142)])
 (sq (rg [fo 144 7 3,lo 145 144,fo 146 7 1,lo 147 146,xo 148 (.app 109 3 24 (.t 145) (.t 147)),fo 149 7 3,xn (st 1 149 148)])
 (sq (rg [xo 150 (lt 8 3),xn (st 8 2 150)])
 .ret)))))))))))))⟩
theorem qqH:trFn Tryz.prog 45 [([],(fs [2,3,4,5,6,7,0,1] (.exec 8 (.exec 9 (.exec 10 (.first 11 (.exec 12 .nil)))))))] [[4],[6],[8],[11]]=some qTI:=by kernel_rfl
abbrev q1F:Nat:=51
def qFG:FnI:=⟨26,[.tmp 4],
 (sq (rg [xo 4 (.mov (.b false))])
 (sq (sq (rg [mo 6 0,xo 7 (.len false (.t 6)),mo 8 1,xo 9 (.len false (.t 8)),xo 10 (bi .neq 7 9)])
 (cD 10
 (sq (rg [xo 4 (.mov (.b false))])
 .ret)
 .skip))
 (sq (sq (rg [xo 5 (.mov (ci 0))])
 (.block 0
 (.loop [5] [11,12,13,14,17,18,19,20,21,22,23,24,25,4,15,16,5]
 (sq (sq (rg [mo 11 5,mo 12 0,xo 13 (.len false (.t 12)),xo 14 (bi .lss 11 13)])
 (cD 14
 .skip
 (.exit 0)))
 (sq (.block 1
 (sq (rd [] (of 0 (mo 17 0)
 (of 1 (mo 18 5)
 (ot 2 (xo 19 (ia 1 17 18))
 (ot 3 (lo 20 19)
 (of 4 (mo 21 1)
 (of 5 (mo 22 5)
 (ot 6 (xo 23 (ia 1 21 22))
 (ot 7 (lo 24 23)
 (of 8 (xo 25 (bi .neq 20 24))
 .nil))))))))))
 (cD 25
 (sq (rg [xo 4 (.mov (.b false))])
 .ret)
 .skip)))
 (rg [mo 15 5,xo 16 (bc .add 15 1),mo 5 16]))))))
 (sq (rg [xo 4 (.mov (.b true))])
 .ret))))⟩
theorem qkF:trFn Tryz.prog 51 [([],(fs [0,1,2,3,4,5,6,7,8] .nil))] [[5]]=some qFG:=by kernel_rfl
abbrev qSJ:Nat:=52
def qsJ:FnI:=⟨53,[.tmp 4],
 (sq (rg [xo 4 (.mov (.b false))])
 (sq (sq (rg [mo 7 0,xo 8 (.len false (.t 7)),mo 9 1,xo 10 (.len false (.t 9)),xo 11 (bi .neq 8 10)])
 (cD 11
 (sq (rg [xo 4 (.mov (.b false))])
 .ret)
 .skip))
 (sq (sq (rg [xo 5 (.mov (ci 0))])
 (.block 0
 (.loop [5] [12,13,14,15,18,19,20,21,22,23,24,25,26,27,28,4,6,29,30,31,32,33,34,35,38,39,40,41,42,43,44,45,46,47,48,49,50,51,52,36,37,16,17,5]
 (sq (sq (rg [mo 12 5,mo 13 0,xo 14 (.len false (.t 13)),xo 15 (bi .lss 12 14)])
 (cD 15
 .skip
 (.exit 0)))
 (sq (.block 1
 (sq (sq (rd [] (of 0 (mo 18 0)
 (of 1 (mo 19 5)
 (ot 2 (xo 20 (ia 1 18 19))
 (ot 3 (lo 21 20)
 (of 4 (xo 22 (.len false (.t 21)))
 (of 5 (mo 23 1)
 (of 6 (mo 24 5)
 (ot 7 (xo 25 (ia 1 23 24))
 (ot 8 (lo 26 25)
 (of 9 (xo 27 (.len false (.t 26)))
 (of 10 (xo 28 (bi .neq 22 27))
 .nil))))))))))))
 (cD 28
 (sq (rg [xo 4 (.mov (.b false))])
 .ret)
 .skip))
 (sq (rg [xo 6 (.mov (ci 0))])
 (.block 2
 (.loop [6] [29,30,31,32,33,34,35,38,39,40,41,42,43,44,45,46,47,48,49,50,51,52,4,36,37,6]
 (sq (sq (rg [mo 29 6,mo 30 0,mo 31 5,xo 32 (ia 1 30 31),lo 33 32,xo 34 (.len false (.t 33)),xo 35 (bi .lss 29 34)])
 (cD 35
 .skip
 (.exit 2)))
 (sq (.block 3
 (sq (rd [] (of 0 (mo 38 0)
 (of 1 (mo 39 5)
 (ot 2 (xo 40 (ia 1 38 39))
 (ot 3 (lo 41 40)
 (of 4 (mo 42 6)
 (ot 5 (xo 43 (ia 1 41 42))
 (ot 6 (lo 44 43)
 (of 7 (mo 45 1)
 (of 8 (mo 46 5)
 (ot 9 (xo 47 (ia 1 45 46))
 (ot 10 (lo 48 47)
 (of 11 (mo 49 6)
 (ot 12 (xo 50 (ia 1 48 49))
 (ot 13 (lo 51 50)
 (of 14 (xo 52 (bi .neq 44 51))
 .nil))))))))))))))))
 (cD 52
 (sq (rg [xo 4 (.mov (.b false))])
 .ret)
 .skip)))
 (rg [mo 36 6,xo 37 (bc .add 36 1),mo 6 37]))))))))
 (rg [mo 16 5,xo 17 (bc .add 16 1),mo 5 17]))))))
 (sq (rg [xo 4 (.mov (.b true))])
 .ret))))⟩
theorem q3I:trFn Tryz.prog 52 [([],(fs [0,1,2,3,4,5,6,7,8,9,10] .nil)),([],(fs [0,1,2,3,4,5,6,7,8,9,10,11,12,13,14] .nil))] [[5],[6]]=some qsJ:=by kernel_rfl
abbrev qPJ:Nat:=53
def qpJ:FnI:=⟨26,[.tmp 4],
 (sq (rg [xo 4 (.mov (.b false))])
 (sq (sq (rg [mo 6 0,xo 7 (.len false (.t 6)),mo 8 1,xo 9 (.len false (.t 8)),xo 10 (bi .neq 7 9)])
 (cD 10
 (sq (rg [xo 4 (.mov (.b false))])
 .ret)
 .skip))
 (sq (sq (rg [xo 5 (.mov (ci 0))])
 (.block 0
 (.loop [5] [11,12,13,14,17,18,19,20,21,22,23,24,25,4,15,16,5]
 (sq (sq (rg [mo 11 5,mo 12 0,xo 13 (.len false (.t 12)),xo 14 (bi .lss 11 13)])
 (cD 14
 .skip
 (.exit 0)))
 (sq (.block 1
 (sq (rd [] (of 0 (mo 17 0)
 (of 1 (mo 18 5)
 (ot 2 (xo 19 (ia 3 17 18))
 (ot 3 (xo 20 (lt 3 19))
 (of 4 (mo 21 1)
 (of 5 (mo 22 5)
 (ot 6 (xo 23 (ia 3 21 22))
 (ot 7 (xo 24 (lt 3 23))
 (of 8 (xo 25 (.binst true [0,0,2] (.t 20) (.t 24)))
 .nil))))))))))
 (cD 25
 (sq (rg [xo 4 (.mov (.b false))])
 .ret)
 .skip)))
 (rg [mo 15 5,xo 16 (bc .add 15 1),mo 5 16]))))))
 (sq (rg [xo 4 (.mov (.b true))])
 .ret))))⟩
theorem q0I:trFn Tryz.prog 53 [([],(fs [0,1,2,3,4,5,6,7,8] .nil))] [[5]]=some qpJ:=by kernel_rfl
abbrev qRE:Nat:=54
def qVE:FnI:=⟨97,[.tmp 4],
 (sq (rg [xo 2 (.box 66 (.t 0)),xo 3 (.box 66 (.t 1)),xo 4 (.mov (.b false))])
 (sq (sq (rg [fo 7 0 2,xo 8 (lt 3 7),fo 9 0 3,xo 10 (lt 3 9),xo 11 (.call 114 [(.t 8),(.t 10)]),xo 12 (.not (.t 11)),mo 13 12,xg 14 (fa 4 2) 13 false,xg 15 (lf 14) 13 false,xg 16 (fa 4 3) 13 false,xg 17 (lf 16) 13 false,xg 18 (.binb true (.t 15) (.t 17)) 13 false,xo 19 (.pick (.t 13) (.b true) (.t 18)),mo 20 19,xg 21 (fa 3 2) 20 false,xg 22 (lf 21) 20 false,xg 23 (.len false (.t 22)) 20 false,xg 24 (fa 3 3) 20 false,xg 25 (lf 24) 20 false,xg 26 (.len false (.t 25)) 20 false,xg 27 (bi .neq 23 26) 20 false,xo 28 (.pick (.t 20) (.b true) (.t 27))])
 (cD 28
 (sq (rg [xo 4 (.mov (.b false))])
 .ret)
 .skip))
 (sq (sq (rg [xo 5 (.mov (ci 0))])
 (.block 0
 (.loop [5] [29,30,31,32,33,36,37,38,39,40,41,42,43,44,45,46,47,48,49,50,51,52,53,54,55,56,57,58,59,60,61,62,63,64,65,4,6,66,67,68,69,70,71,72,73,74,77,78,79,80,81,82,83,84,85,86,87,88,89,90,91,92,93,94,95,96,75,76,34,35,5]
 (sq (sq (rg [mo 29 5,fo 30 3 2,lo 31 30,xo 32 (.len false (.t 31)),xo 33 (bi .lss 29 32)])
 (cD 33
 .skip
 (.exit 0)))
 (sq (.block 1
 (sq (sq (rd [] (of 0 (fo 36 3 2)
 (ot 1 (lo 37 36)
 (of 2 (mo 38 5)
 (ot 3 (xo 39 (ia 2 37 38))
 (of 4 (fo 40 0 39)
 (ot 5 (lo 41 40)
 (of 6 (fo 42 3 3)
 (ot 7 (lo 43 42)
 (of 8 (mo 44 5)
 (ot 9 (xo 45 (ia 2 43 44))
 (of 10 (fo 46 0 45)
 (ot 11 (lo 47 46)
 (of 12 (xo 48 (bi .neq 41 47))
 (of 13 (mo 49 48)
 (of 14 (xg 50 (fa 3 2) 49 false)
 (ot 15 (xg 51 (lf 50) 49 false)
 (of 16 (xg 52 (mv 5) 49 false)
 (ot 17 (xg 53 (ia 2 51 52) 49 false)
 (of 18 (xg 54 (fa 1 53) 49 false)
 (ot 19 (xg 55 (lf 54) 49 false)
 (of 20 (xg 56 (.len false (.t 55)) 49 false)
 (of 21 (xg 57 (fa 3 3) 49 false)
 (ot 22 (xg 58 (lf 57) 49 false)
 (of 23 (xg 59 (mv 5) 49 false)
 (ot 24 (xg 60 (ia 2 58 59) 49 false)
 (of 25 (xg 61 (fa 1 60) 49 false)
 (ot 26 (xg 62 (lf 61) 49 false)
 (of 27 (xg 63 (.len false (.t 62)) 49 false)
 (of 28 (xg 64 (bi .neq 56 63) 49 false)
 (of 29 (xo 65 (.pick (.t 49) (.b true) (.t 64)))
 .nil)))))))))))))))))))))))))))))))
 (cD 65
 (sq (rg [xo 4 (.mov (.b false))])
 .ret)
 .skip))
 (sq (rg [xo 6 (.mov (ci 0))])
 (.block 2
 (.loop [6] [66,67,68,69,70,71,72,73,74,77,78,79,80,81,82,83,84,85,86,87,88,89,90,91,92,93,94,95,96,4,75,76,6]
 (sq (sq (rg [mo 66 6,fo 67 3 2,lo 68 67,mo 69 5,xo 70 (ia 2 68 69),fo 71 1 70,lo 72 71,xo 73 (.len false (.t 72)),xo 74 (bi .lss 66 73)])
 (cD 74
 .skip
 (.exit 2)))
 (sq (.block 3
 (sq (rd [] (of 0 (fo 77 3 2)
 (ot 1 (lo 78 77)
 (of 2 (mo 79 5)
 (ot 3 (xo 80 (ia 2 78 79))
 (of 4 (fo 81 1 80)
 (ot 5 (lo 82 81)
 (of 6 (mo 83 6)
 (ot 7 (xo 84 (ia 3 82 83))
 (ot 8 (xo 85 (lt 3 84))
 (of 9 (fo 86 3 3)
 (ot 10 (lo 87 86)
 (of 11 (mo 88 5)
 (ot 12 (xo 89 (ia 2 87 88))
 (of 13 (fo 90 1 89)
 (ot 14 (lo 91 90)
 (of 15 (mo 92 6)
 (ot 16 (xo 93 (ia 3 91 92))
 (ot 17 (xo 94 (lt 3 93))
 (of 18 (xo 95 (.call 115 [(.t 85),(.t 94)]))
 (of 19 (xo 96 (.not (.t 95)))
 .nil)))))))))))))))))))))
 (cD 96
 (sq (rg [xo 4 (.mov (.b false))])
 .ret)
 .skip)))
 (rg [mo 75 6,xo 76 (bc .add 75 1),mo 6 76]))))))))
 (rg [mo 34 5,xo 35 (bc .add 34 1),mo 5 35]))))))
 (sq (rg [xo 4 (.mov (.b true))])
 .ret))))⟩
theorem qKE:trFn Tryz.prog 54 [([],(fs [0,1,2,3,4,5,6,7,8,9,10,11,12,13,14,15,16,17,18,19,20,21,22,23,24,25,26,27,28,29] .nil)),([],(fs [0,1,2,3,4,5,6,7,8,9,10,11,12,13,14,15,16,17] (.exec 18 (.first 19 .nil))))] [[5],[6]]=some qVE:=by kernel_rfl
abbrev qaG:Nat:=55
def qiG:FnI:=⟨85,[.tmp 4],
 (sq (rg [xo 2 (.box 35 (.t 0)),xo 3 (.box 35 (.t 1)),xo 4 (.mov (.b false))])
 (sq (rg [fo 5 0 2,lo 6 5,fo 7 0 3,lo 8 7,xo 9 (bi .eql 6 8),mo 10 9,xg 11 (fa 1 2) 10 true,xg 12 (lf 11) 10 true,xg 13 (fa 1 3) 10 true,xg 14 (lf 13) 10 true,xg 15 (.bins .eql (.t 12) (.t 14)) 10 true,xo 16 (.pick (.t 10) (.t 15) (.b false)),mo 17 16,xg 18 (fa 2 2) 17 true,xg 19 (lf 18) 17 true,xg 20 (fa 2 3) 17 true,xg 21 (lf 20) 17 true,xg 22 (.bins .eql (.t 19) (.t 21)) 17 true,xo 23 (.pick (.t 17) (.t 22) (.b false)),mo 24 23,xg 25 (fa 3 2) 24 true,xg 26 (lf 25) 24 true,xg 27 (fa 3 3) 24 true,xg 28 (lf 27) 24 true,xg 29 (.bins .eql (.t 26) (.t 28)) 24 true,xo 30 (.pick (.t 24) (.t 29) (.b false)),mo 31 30,xg 32 (fa 4 2) 31 true,xg 33 (lf 32) 31 true,xg 34 (fa 4 3) 31 true,xg 35 (lf 34) 31 true,xg 36 (bi .eql 33 35) 31 true,xo 37 (.pick (.t 31) (.t 36) (.b false)),mo 38 37,xg 39 (fa 5 2) 38 true,xg 40 (lf 39) 38 true,xg 41 (fa 5 3) 38 true,xg 42 (lf 41) 38 true,xg 43 (bi .eql 40 42) 38 true,xo 44 (.pick (.t 38) (.t 43) (.b false)),mo 45 44,xg 46 (fa 6 2) 45 true,xg 47 (lf 46) 45 true,xg 48 (fa 6 3) 45 true,xg 49 (lf 48) 45 true,xg 50 (bi .eql 47 49) 45 true,xo 51 (.pick (.t 45) (.t 50) (.b false)),mo 52 51,xg 53 (fa 7 2) 52 true,xg 54 (fa 0 53) 52 true,xg 55 (lf 54) 52 true,xg 56 (.len false (.t 55)) 52 true,xg 57 (fa 7 3) 52 true,xg 58 (fa 0 57) 52 true,xg 59 (lf 58) 52 true,xg 60 (.len false (.t 59)) 52 true,xg 61 (bi .eql 56 60) 52 true,xo 62 (.pick (.t 52) (.t 61) (.b false)),mo 63 62,xg 64 (fa 7 2) 63 true,xg 65 (fa 1 64) 63 true,xg 66 (lf 65) 63 true,xg 67 (.len false (.t 66)) 63 true,xg 68 (fa 7 3) 63 true,xg 69 (fa 1 68) 63 true,xg 70 (lf 69) 63 true,xg 71 (.len false (.t 70)) 63 true,xg 72 (bi .eql 67 71) 63 true,xo 73 (.pick (.t 63) (.t 72) (.b false)),mo 74 73,xg 75 (fa 7 2) 74 true,xg 76 (fa 2 75) 74 true,xg 77 (lf 76) 74 true,xg 78 (.len false (.t 77)) 74 true,xg 79 (fa 7 3) 74 true,xg 80 (fa 2 79) 74 true,xg 81 (lf 80) 74 true,xg 82 (.len false (.t 81)) 74 true,xg 83 (bi .eql 78 82) 74 true,xo 84 (.pick (.t 74) (.t 83) (.b false)),mo 4 84])
 .ret))⟩
theorem qRG:trFn Tryz.prog 55 [] []=some qiG:=by kernel_rfl
abbrev q5V:Nat:=56
def qLW:FnI:=⟨12,[.tmp 4],
 (sq (rg [xo 4 (.mov (.b false))])
 (sq (rg [mo 5 0,xo 6 (bc .geq 5 0),mo 7 6,xg 8 (mv 0) 7 true,xg 9 (mv 1) 7 true,xg 10 (bi .lss 8 9) 7 true,xo 11 (.pick (.t 7) (.t 10) (.b false)),mo 4 11])
 .ret))⟩
theorem qSV:trFn Tryz.prog 56 [] []=some qLW:=by kernel_rfl
abbrev qjN:Nat:=57
def qsN:FnI:=⟨51,[.tmp 2],
 (sq (rg [xo 1 (.box 28 (.t 0)),xo 2 (.mov (.b false))])
 (sq (rg [fo 4 3 1,lo 5 4,xo 6 (.len false (.t 5)),mo 3 6])
 (sq (sq (rg [mo 7 3,xo 8 (bc .lss 7 1),mo 9 8,xg 10 (mv 3) 9 false,xg 11 (bc .gtr 10 8) 9 false,xo 12 (.pick (.t 9) (.b true) (.t 11)),mo 13 12,xg 14 (fa 6 1) 13 false,xg 15 (lf 14) 13 false,xg 16 (.len false (.t 15)) 13 false,xg 17 (mv 3) 13 false,xg 18 (bi .neq 16 17) 13 false,xo 19 (.pick (.t 13) (.b true) (.t 18)),mo 20 19,xg 21 (fa 6 1) 20 false,xg 22 (lf 21) 20 false,xg 23 (.call 62 [(.t 22)]) 20 false,xg 24 (.not (.t 23)) 20 false,xo 25 (.pick (.t 20) (.b true) (.t 24)),mo 26 25,xg 27 (fa 0 1) 26 false,xg 28 (lf 27) 26 false,xg 29 (bc .lss 28 0) 26 false,xo 30 (.pick (.t 26) (.b true) (.t 29)),mo 31 30,xg 32 (fa 0 1) 31 false,xg 33 (lf 32) 31 false,xg 34 (bc .gtr 33 1000000000000) 31 false,xo 35 (.pick (.t 31) (.b true) (.t 34)),mo 36 35,xg 37 (fa 2 1) 36 false,xg 38 (lf 37) 36 false,xg 39 (bc .neq 38 0) 36 false,xg 40 (mv 39) 36 false,xg 41 (fa 2 1) 40 true,xg 42 (lf 41) 40 true,xg 43 (bc .neq 42 1) 40 true,xg 44 (.pick (.t 40) (.t 43) (.b false)) 36 false,xo 45 (.pick (.t 36) (.b true) (.t 44))])
 (cD 45
 (sq (rg [xo 2 (.mov (.b false))])
 .ret)
 .skip))
 (sq (rg [fo 46 3 1,lo 47 46,xo 48 (.mkf (.func 117) [] [(.t 1)]),xo 49 (.call 116 [(.t 47),(.t 48)]),xo 50 (.not (.t 49)),mo 2 50])
 .ret))))⟩
theorem qWN:trFn Tryz.prog 57 [] []=some qsN:=by kernel_rfl
abbrev qfT:Nat:=58
def qtT:FnI:=⟨29,[.tmp 2],
 (sq (rg [xo 2 (.mov (.b false))])
 (sq (sq (rg [mo 5 0,xo 6 (.len false (.t 5)),xo 7 (.mov (ci 0))])
 (.block 0
 (.loop [7] [8,9,10,11,4,3,12,13,14,15,16,17,18,19,20,21,22,23,24,25,26,27,2,28,7]
 (sq (rg [xo 8 (bi .lss 7 6)])
 (sq (cD 8
 .skip
 (.exit 0))
 (sq (.block 1
 (sq (rg [mo 9 7,xo 10 (ia 3 5 7),xo 11 (lt 3 10),xo 4 (.alloc 109 [(vi 0),(vi 0),(.v (.bool false))]),mo 3 9,xn (st 3 4 11)])
 (sq (rd [] (of 0 (fo 12 0 4)
 (ot 1 (lo 13 12)
 (of 2 (xo 14 (bc .lss 13 0))
 (of 3 (mo 15 14)
 (of 4 (xg 16 (fa 1 4) 15 false)
 (ot 5 (xg 17 (lf 16) 15 false)
 (of 6 (xg 18 (bc .lss 17 0) 15 false)
 (of 7 (xo 19 (.pick (.t 15) (.b true) (.t 18)))
 (of 8 (mo 20 19)
 (of 9 (xg 21 (mv 0) 20 false)
 (of 10 (xg 22 (mv 3) 20 false)
 (of 11 (xg 23 (.slc 3 (.t 21) none (some (.t 22)) none) 20 false)
 (of 12 (xg 24 (fa 0 4) 20 false)
 (ot 13 (xg 25 (lf 24) 20 false)
 (of 14 (xg 26 (.call 118 [(.t 23),(.t 25)]) 20 false)
 (of 15 (xo 27 (.pick (.t 20) (.b true) (.t 26)))
 .nil)))))))))))))))))
 (cD 27
 (sq (rg [xo 2 (.mov (.b false))])
 .ret)
 .skip))))
 (rg [xo 28 (bc .add 7 1),mo 7 28])))))))
 (sq (rg [xo 2 (.mov (.b true))])
 .ret)))⟩
theorem qAT:trFn Tryz.prog 58 [([],(fs [0,1,2,3,4,5,6,7,8,9,10,11,12,13] (.exec 14 (.first 15 .nil))))] [[7]]=some qtT:=by kernel_rfl
abbrev qxM:Nat:=59
def qJN:FnI:=⟨50,[.tmp 2],
 (sq (rg [xo 1 (.box 66 (.t 0)),xo 2 (.mov (.b false))])
 (sq (sq (rg [fo 7 0 1,xo 8 (lt 3 7),xo 9 (.call 119 [(.t 8)]),xo 10 (.not (.t 9)),mo 11 10,xg 12 (fa 3 1) 11 false,xg 13 (lf 12) 11 false,xg 14 (.len false (.t 13)) 11 false,xg 15 (fa 0 1) 11 false,xg 16 (fa 2 15) 11 false,xg 17 (lf 16) 11 false,xg 18 (.len false (.t 17)) 11 false,xg 19 (bi .neq 14 18) 11 false,xo 20 (.pick (.t 11) (.b true) (.t 19))])
 (cD 20
 (sq (rg [xo 2 (.mov (.b false))])
 .ret)
 .skip))
 (sq (sq (rg [fo 21 3 1,lo 22 21,xo 23 (.len false (.t 22)),xo 24 (.mov (ci 0))])
 (.block 0
 (.loop [24] [25,26,27,28,4,3,29,30,31,32,33,34,5,35,6,36,37,38,39,40,41,42,43,44,45,46,47,48,2,49,24]
 (sq (rg [xo 25 (bi .lss 24 23)])
 (sq (cD 25
 .skip
 (.exit 0))
 (sq (.block 1
 (sq (rg [mo 26 24,xo 27 (ia 2 22 24),xo 28 (lt 2 27),xo 4 (.alloc 73 [(.v (.int .u64 (0))),(.v (.slice none 0 0))]),mo 3 26,xn (st 2 4 28)])
 (sq (rg [fo 29 0 1,fo 30 2 29,lo 31 30,mo 32 3,xo 33 (ia 4 31 32),xo 34 (lt 4 33),xo 5 (.alloc 70 [(.v (.string ⟨#[]⟩)),(vi 0),(vi 0),(.v (.slice none 0 0))]),xn (st 4 5 34)])
 (sq (rg [xo 35 (.mkf (.func 120) [] [(.t 5)]),mo 6 35])
 (sq (rg [fo 36 1 4,lo 37 36,xo 38 (.len false (.t 37)),fo 39 3 5,lo 40 39,xo 41 (.len false (.t 40)),xo 42 (bi .neq 38 41),mo 43 42,xg 44 (fa 1 4) 43 false,xg 45 (lf 44) 43 false,xg 46 (mv 6) 43 false,xg 47 (.call 121 [(.t 45),(.t 46)]) 43 false,xo 48 (.pick (.t 43) (.b true) (.t 47))])
 (cD 48
 (sq (rg [xo 2 (.mov (.b false))])
 .ret)
 .skip))))))
 (rg [xo 49 (bc .add 24 1),mo 24 49])))))))
 (sq (rg [xo 2 (.mov (.b true))])
 .ret))))⟩
theorem qUM:trFn Tryz.prog 59 [] [[24]]=some qJN:=by kernel_rfl
abbrev qgT:Nat:=60
def quT:FnI:=⟨20,[.tmp 2],
 (sq (rg [xo 1 (.box 80 (.t 0)),xo 2 (.mov (.b false))])
 (sq (rg [fo 3 0 1,lo 4 3,xo 5 (.call 122 [(.t 4)]),mo 6 5,xg 7 (fa 2 1) 6 true,xg 8 (lf 7) 6 true,xg 9 (bc .geq 8 0) 6 true,xo 10 (.pick (.t 6) (.t 9) (.b false)),mo 11 10,xg 12 (fa 1 1) 11 true,xg 13 (lf 12) 11 true,xg 14 (mv 13) 11 true,xg 15 (fa 3 1) 14 false,xg 16 (lf 15) 14 false,xg 17 (.not (.t 16)) 14 false,xg 18 (.pick (.t 14) (.b true) (.t 17)) 11 true,xo 19 (.pick (.t 11) (.t 18) (.b false)),mo 2 19])
 .ret))⟩
theorem qBT:trFn Tryz.prog 60 [] []=some quT:=by kernel_rfl
abbrev qOP:Nat:=61
def qpP:FnI:=⟨8,[.tmp 4],
 (sq (rg [xo 3 (.box 9 (.t 1)),xo 4 (.mov (ci 0))])
 (sq (rg [mo 5 0,xo 6 (.mkf (.func 124) [] [(.t 3)]),xo 7 (.call 123 [(.t 5),(.t 6)]),mo 4 7])
 .ret))⟩
theorem qsO:trFn Tryz.prog 61 [] []=some qpP:=by kernel_rfl
abbrev qdT:Nat:=62
def qrT:FnI:=⟨23,[.tmp 2],
 (sq (rg [xo 2 (.mov (.b false))])
 (sq (sq (rg [mo 5 0,xo 6 (.len false (.t 5)),xo 7 (.mov (ci 0))])
 (.block 0
 (.loop [7] [8,9,10,4,11,12,13,2,14,7]
 (sq (rg [xo 8 (bi .lss 7 6)])
 (sq (cD 8
 .skip
 (.exit 0))
 (sq (.block 1
 (sq (rg [xo 9 (ia 1 5 7),lo 10 9,mo 4 10])
 (sq (rg [mo 11 4,xo 12 (.len false (.t 11)),xo 13 (bc .neq 12 6)])
 (cD 13
 (sq (rg [xo 2 (.mov (.b false))])
 .ret)
 .skip))))
 (rg [xo 14 (bc .add 7 1),mo 7 14])))))))
 (sq (rg [mo 15 0,xo 16 (.len false (.t 15)),xo 17 (bc .geq 16 1),mo 18 17,xg 19 (mv 0) 18 true,xg 20 (.len false (.t 19)) 18 true,xg 21 (bc .leq 20 8) 18 true,xo 22 (.pick (.t 18) (.t 21) (.b false)),mo 2 22])
 .ret)))⟩
theorem q8S:trFn Tryz.prog 62 [] [[7]]=some qrT:=by kernel_rfl
abbrev qcT:Nat:=63
def qqT:FnI:=⟨29,[.tmp 2],
 (sq (rg [xo 1 (.box 78 (.t 0)),xo 2 (.mov (.b false))])
 (sq (rg [xo 6 (lt 3 1),xo 7 (.call 29 [(.t 6)]),mo 5 7,xo 8 (.ext 0 (.t 5)),xo 9 (.ext 1 (.t 5)),mo 3 8,mo 4 9])
 (sq (rg [mo 10 4,xo 11 (bc .eql 10 0),mo 12 11,xg 13 (fa 1 1) 12 true,xg 14 (lf 13) 12 true,xg 15 (.len false (.t 14)) 12 true,xg 16 (bc .geq 15 1) 12 true,xo 17 (.pick (.t 12) (.t 16) (.b false)),mo 18 17,xg 19 (fa 1 1) 18 true,xg 20 (lf 19) 18 true,xg 21 (.len false (.t 20)) 18 true,xg 22 (bc .leq 21 4) 18 true,xo 23 (.pick (.t 18) (.t 22) (.b false)),mo 24 23,xg 25 (fa 2 1) 24 true,xg 26 (lf 25) 24 true,xg 27 (bc .geq 26 0) 24 true,xo 28 (.pick (.t 24) (.t 27) (.b false)),mo 2 28])
 .ret)))⟩
theorem q7S:trFn Tryz.prog 63 [] []=some qqT:=by kernel_rfl
abbrev qMF:Nat:=64
def qXF:FnI:=⟨8,[.tmp 2],
 (sq (rg [xo 2 (.mov (.c (.slice none 0 0)))])
 (sq (sq (rg [mo 3 0,xo 4 (.binn 0 false (.t 3))])
 (cD 4
 (sq (rg [xo 2 (.mov (.c (.slice none 0 0)))])
 .ret)
 .skip))
 (sq (rg [xo 5 (.bsl 3 1 0 [] []),mo 6 0,xo 7 (.app 3 1 8 (.t 5) (.t 6)),mo 2 7])
 .ret)))⟩
theorem qDF:trFn Tryz.prog 64 [] []=some qXF:=by kernel_rfl
abbrev qOC:Nat:=65
def qPC:FnI:=⟨29,[.tmp 6],
 (sq (rg [xo 5 (.box 116 (.t 2)),xo 6 (.mov (.c (.slice none 0 0)))])
 (sq (rg [mo 10 0,xo 11 (.len false (.t 10)),xo 12 (.msl 66 5 104 [(.slice none 0 0),(.slice none 0 0),(.slice none 0 0),(.slice none 0 0),(.bool false)] (.t 11) (.t 11)),mo 7 12])
 (sq (sq (rg [mo 13 0,xo 14 (.len false (.t 13)),xo 15 (.mov (ci 0))])
 (.block 0
 (.loop [15] [16,17,18,19,9,8,20,21,22,23,24,25,26,27,15]
 (sq (rg [xo 16 (bi .lss 15 14)])
 (sq (cD 16
 .skip
 (.exit 0))
 (sq (.block 1
 (sq (rg [mo 17 15,xo 18 (ia 5 13 15),xo 19 (lt 5 18),xo 9 (.alloc 66 [(.v (.slice none 0 0)),(.v (.slice none 0 0)),(.v (.slice none 0 0)),(.v (.slice none 0 0)),(.v (.bool false))]),mo 8 17,xn (st 5 9 19)])
 (rg [mo 20 7,mo 21 8,mo 22 1,xo 23 (lt 0 5),xo 24 (lt 5 9),xo 25 (.callv (.t 22) [(.t 23),(.t 24)]),xo 26 (ia 5 20 21),xn (st 5 26 25)])))
 (rg [xo 27 (bc .add 15 1),mo 15 27])))))))
 (sq (rg [mo 28 7,mo 6 28])
 .ret))))⟩
theorem qMC:trFn Tryz.prog 65 [] [[15]]=some qPC:=by kernel_rfl
abbrev qjB:Nat:=66
def qBG:FnI:=⟨11,[.cell 4 5 true],
 (sq (rg [xo 2 (.box 116 (.t 0)),xo 3 (.box 66 (.t 1)),xo 4 (.alloc 66 [(.v (.slice none 0 0)),(.v (.slice none 0 0)),(.v (.slice none 0 0)),(.v (.slice none 0 0)),(.v (.bool false))])])
 (sq (rg [fo 5 3 3,lo 6 5,xo 7 (lt 0 2),xo 8 (.call 125 [(.t 6),(.c (.func (.func 126) #[] #[])),(.t 7)]),fo 9 3 3,xn (st 1 9 8)])
 (sq (rg [xo 10 (lt 5 3),xn (st 5 4 10)])
 .ret)))⟩
theorem qgF:trFn Tryz.prog 66 [] []=some qBG:=by kernel_rfl
abbrev q8B:Nat:=67
def qAC:FnI:=⟨8,[.tmp 2],
 (sq (rg [xo 2 (.mov (.c (.slice none 0 0)))])
 (sq (sq (rg [mo 3 0,xo 4 (.binn 0 false (.t 3))])
 (cD 4
 (sq (rg [xo 2 (.mov (.c (.slice none 0 0)))])
 .ret)
 .skip))
 (sq (rg [xo 5 (.bsl 80 4 0 [] []),mo 6 0,xo 7 (.app 80 4 40 (.t 5) (.t 6)),mo 2 7])
 .ret)))⟩
theorem q6B:trFn Tryz.prog 67 [] []=some qAC:=by kernel_rfl
abbrev qwC:Nat:=68
def qxC:FnI:=⟨29,[.tmp 6],
 (sq (rg [xo 5 (.box 116 (.t 2)),xo 6 (.mov (.c (.slice none 0 0)))])
 (sq (rg [mo 10 0,xo 11 (.len false (.t 10)),xo 12 (.msl 113 1 24 [(.slice none 0 0)] (.t 11) (.t 11)),mo 7 12])
 (sq (sq (rg [mo 13 0,xo 14 (.len false (.t 13)),xo 15 (.mov (ci 0))])
 (.block 0
 (.loop [15] [16,17,18,19,8,9,20,21,22,23,24,25,26,27,15]
 (sq (rg [xo 16 (bi .lss 15 14)])
 (sq (cD 16
 .skip
 (.exit 0))
 (sq (.block 1
 (sq (rg [mo 17 15,xo 18 (ia 1 13 15),lo 19 18,mo 8 17,mo 9 19])
 (rg [mo 20 7,mo 21 8,mo 22 1,xo 23 (lt 0 5),mo 24 9,xo 25 (.callv (.t 22) [(.t 23),(.t 24)]),xo 26 (ia 1 20 21),xn (st 1 26 25)])))
 (rg [xo 27 (bc .add 15 1),mo 15 27])))))))
 (sq (rg [mo 28 7,mo 6 28])
 .ret))))⟩
theorem qvC:trFn Tryz.prog 68 [] [[15]]=some qxC:=by kernel_rfl
abbrev qfC:Nat:=69
def qfJ:FnI:=⟨7,[.tmp 4],
 (sq (rg [xo 2 (.box 116 (.t 0)),xo 4 (.mov (.c (.slice none 0 0)))])
 (sq (rg [mo 5 1,xo 6 (.call 127 [(.t 5)]),mo 4 6])
 .ret))⟩
theorem qqI:trFn Tryz.prog 69 [] []=some qfJ:=by kernel_rfl
abbrev qwB:Nat:=70
def qxB:FnI:=⟨8,[.tmp 2],
 (sq (rg [xo 2 (.mov (.c (.slice none 0 0)))])
 (sq (sq (rg [mo 3 0,xo 4 (.binn 0 false (.t 3))])
 (cD 4
 (sq (rg [xo 2 (.mov (.c (.slice none 0 0)))])
 .ret)
 .skip))
 (sq (rg [xo 5 (.bsl 109 3 0 [] []),mo 6 0,xo 7 (.app 109 3 24 (.t 5) (.t 6)),mo 2 7])
 .ret)))⟩
theorem qvB:trFn Tryz.prog 70 [] []=some qxB:=by kernel_rfl
abbrev q0M:Nat:=71
def qLN:FnI:=⟨8,[.tmp 4],
 (sq (rg [xo 3 (.box 9 (.t 1)),xo 4 (.mov (ci 0))])
 (sq (rg [mo 5 0,xo 6 (.mkf (.func 129) [] [(.t 3)]),xo 7 (.call 128 [(.t 5),(.t 6)]),mo 4 7])
 .ret))⟩
theorem qXM:trFn Tryz.prog 71 [] []=some qLN:=by kernel_rfl
abbrev qJP:Nat:=72
def qlP:FnI:=⟨43,[.tmp 8,.tmp 9],
 (sq (rg [xo 4 (.box 61 (.t 0)),xo 8 (.mov (ci 0)),xo 9 (.mov (ci 0))])
 (sq (rg [xo 10 (.alloc 3 [(vi 0)]),xn (.store 1 (.t 10) (ci (-1)))])
 (sq (sq (rg [lo 13 4,mo 14 1,mo 15 2,mo 16 3,xo 17 (.call 130 [(.t 13),(.t 14),(.t 15),(.t 16)])])
 (.block 0
 (.rfun (.t 17) [18,19]
 (sq (rg [mo 11 18])
 (rg [xo 12 (.alloc 129 [(vi 0),(.v (.string ⟨#[]⟩)),(.v (.string ⟨#[]⟩)),(vi 0)]),xn (st 4 12 19)]))
 (.block 1
 (sq (rd [] (ot 0 (lo 20 10)
 (of 1 (xo 21 (bc .lss 20 0))
 (of 2 (mo 22 21)
 (of 3 (xg 23 (fa 1 12) 22 false)
 (ot 4 (xg 24 (lf 23) 22 false)
 (of 5 (xg 25 (fa 2 12) 22 false)
 (ot 6 (xg 26 (lf 25) 22 false)
 (ot 7 (xg 27 (lf 4) 22 false)
 (ot 8 (xg 28 (lf 10) 22 false)
 (ot 9 (xg 29 (ia 4 27 28) 22 false)
 (of 10 (xg 30 (fa 1 29) 22 false)
 (ot 11 (xg 31 (lf 30) 22 false)
 (ot 12 (xg 32 (lf 4) 22 false)
 (ot 13 (xg 33 (lf 10) 22 false)
 (ot 14 (xg 34 (ia 4 32 33) 22 false)
 (of 15 (xg 35 (fa 2 34) 22 false)
 (ot 16 (xg 36 (lf 35) 22 false)
 (of 17 (xg 37 (.call 131 [(.t 24),(.t 26),(.t 31),(.t 36)]) 22 false)
 (of 18 (xo 38 (.pick (.t 22) (.b true) (.t 37)))
 .nil))))))))))))))))))))
 (cD 38
 (rg [mo 39 11,xn (st 1 10 39)])
 .skip))))))
 (sq (sq (rg [lo 40 10,xo 41 (bc .lss 40 0)])
 (cD 41
 (sq (rg [xo 8 (.mov (ci 0)),xo 9 (.mov (ci 5))])
 .ret)
 .skip))
 (sq (rg [lo 42 10,mo 8 42,xo 9 (.mov (ci 0))])
 .ret)))))⟩
theorem qkO:trFn Tryz.prog 72 [([],(fs [0,1,2,3,4,5,6,7,8,9,10,11,12,13,14,15,16] (.exec 17 (.first 18 .nil))))] []=some qlP:=by kernel_rfl
abbrev qzM:Nat:=73
def qKN:FnI:=⟨13,[.tmp 2],
 (sq (rg [xo 1 (.box 70 (.t 0)),xo 2 (.mov (.c (.slice none 0 0)))])
 (sq (rg [xo 3 (.alloc 22 [(.v (.slice none 0 0))])])
 (sq (sq (rg [xo 5 (lt 4 1),xo 6 (.call 132 [(.t 5)])])
 (.block 0
 (.rfun (.t 6) [7]
 (rg [mo 4 7])
 (.block 1
 (rg [lo 8 3,mo 9 4,xo 10 (.bsl 3 1 1 [(vi 0)] [(0,1,(.t 9))]),xo 11 (.app 3 1 8 (.t 8) (.t 10)),xn (st 1 3 11)])))))
 (sq (rg [lo 12 3,mo 2 12])
 .ret))))⟩
theorem qWM:trFn Tryz.prog 73 [] []=some qKN:=by kernel_rfl
abbrev qGP:Nat:=74
def qjK:FnI:=⟨4,[.tmp 2],
 (sq (rg [xo 1 (.box 78 (.t 0)),xo 2 (.mov (.c .nilFunc))])
 (sq (rg [xo 3 (.mkf (.func 133) [] [(.t 1)]),mo 2 3])
 .ret))⟩
theorem qhO:trFn Tryz.prog 74 [] []=some qjK:=by kernel_rfl
abbrev qgQ:Nat:=75
def q6Q:FnI:=⟨44,[.tmp 6,.tmp 7,.tmp 8],
 (sq (rg [xo 3 (.box 70 (.t 0)),xo 6 (.mov (ci 0)),xo 7 (.mov (ci 0)),xo 8 (.mov (ci 0))])
 (sq (rg [xo 13 (lt 4 3),xo 14 (.call 73 [(.t 13)]),mo 9 14])
 (sq (rg [mo 15 9,xo 16 (.len false (.t 15)),mo 10 16])
 (sq (sq (rg [mo 17 10,xo 18 (bc .eql 17 0)])
 (cD 18
 (sq (rg [xo 6 (.mov (ci 0)),xo 7 (.mov (ci 0)),xo 8 (.mov (ci 5))])
 .ret)
 .skip))
 (sq (rg [mo 19 1,mo 20 2,xo 21 (.build [(vi 0),(vi 0)] [(0,1,(.t 19)),(1,1,(.t 20))]),xo 11 (.alloc 180 [(vi 0),(vi 0)]),xn (st 2 11 21)])
 (sq (sq (rg [xo 22 (.mov (ci 0))])
 (.block 0
 (.loop [22] [23,24,12,25,26,27,28,29,30,31,32,33,34,35,36,37,38,39,22]
 (sq (rg [xo 23 (bc .lss 22 2)])
 (sq (cD 23
 .skip
 (.exit 0))
 (sq (.block 1
 (sq (rg [mo 24 22,mo 12 24])
 (rg [mo 25 12,mo 26 9,mo 27 12,xo 28 (.iadra 2 1 (.t 11) (.t 27)),lo 29 28,mo 30 10,xo 31 (bi .rem 29 30),mo 32 10,xo 33 (bi .add 31 32),mo 34 10,xo 35 (bi .rem 33 34),xo 36 (ia 1 26 35),lo 37 36,xo 38 (.iadra 2 1 (.t 11) (.t 25)),xn (st 1 38 37)])))
 (rg [xo 39 (bc .add 22 1),mo 22 39])))))))
 (sq (rd [] (of 0 (xo 40 (.iadra 2 1 (.t 11) (ci 0)))
 (ot 1 (lo 41 40)
 (of 2 (xo 42 (.iadra 2 1 (.t 11) (ci 1)))
 (ot 3 (lo 43 42)
 (of 4 (mo 6 41)
 (of 5 (mo 7 43)
 (of 6 (xo 8 (.mov (ci 0)))
 .nil))))))))
 .ret)))))))⟩
theorem q8P:trFn Tryz.prog 75 [([],(fs [0,1,2,3,4,5,6] .nil))] [[22]]=some q6Q:=by kernel_rfl
abbrev qfQ:Nat:=76
def q5Q:FnI:=⟨14,[.tmp 8],
 (sq (rg [xo 8 (.mov (ci 0))])
 (sq (sq (rg [mo 9 3,mo 10 1,xo 11 (bi .lss 9 10)])
 (cD 11
 (sq (rg [mo 12 2,mo 8 12])
 .ret)
 .skip))
 (sq (rg [mo 13 0,mo 8 13])
 .ret)))⟩
theorem q7P:trFn Tryz.prog 76 [] []=some q5Q:=by kernel_rfl
abbrev q1R:Nat:=77
def qHS:FnI:=⟨7,[.tmp 2],
 (sq (rg [xo 2 (.mov (ci 0))])
 (sq (rg [mo 3 0,xo 4 (.conv .u32 (.t 3)),xo 5 (.conv .i64 (.t 4)),xo 6 (.bini .add (.t 5) (ci (-1))),mo 2 6])
 .ret))⟩
theorem qTR:trFn Tryz.prog 77 [] []=some qHS:=by kernel_rfl
abbrev qhQ:Nat:=78
def q7Q:FnI:=⟨26,[.cell 10 23 true],
 (sq (rg [xo 5 (.box 28 (.t 0)),xo 6 (.box 41 (.t 1)),xo 10 (.alloc 44 zl1)])
 (sq (rd [] (of 0 (fo 11 10 6)
 (ot 1 (lo 12 11)
 (of 2 (mo 13 2)
 (of 3 (mo 14 3)
 (of 4 (fo 15 13 6)
 (ot 5 (lo 16 15)
 (of 6 (fo 17 4 5)
 (ot 7 (lo 18 17)
 (of 8 (fo 19 13 6)
 (ot 9 (lo 20 19)
 (ot 10 (xo 21 (ia 5 18 20))
 (of 11 (fo 22 4 21)
 (ot 12 (lo 23 22)
 (of 13 (mo 24 4)
 (of 14 (xo 25 (.build zl1 [(0,1,(.t 12)),(2,1,(.t 13)),(3,1,(.t 14)),(4,1,(.t 16)),(5,1,(.t 23)),(6,1,(.t 24))]))
 (of 15 (xn (st 23 10 25))
 .nil)))))))))))))))))
 .ret))⟩
theorem q9P:trFn Tryz.prog 78 [([],(fs [0,1,2,3,4,5,6,7,8,9,10,11,12,13,14] (.exec 15 .nil)))] []=some q7Q:=by kernel_rfl
abbrev qJO:Nat:=79
def qoT:FnI:=⟨13,[.tmp 4,.tmp 5],
 (sq (rg [xo 4 (.mov (.c (.int .u64 (0)))),xo 5 (.mov (ci 0))])
 (sq (rg [mo 6 0,xo 7 (.call 135 [(.t 6)]),xo 8 (.bini .add (.t 7) (.c (.int .u32 (1)))),mo 9 1,xo 10 (.call 134 [(.t 8),(.t 9)]),xo 11 (.ext 0 (.t 10)),xo 12 (.ext 1 (.t 10)),mo 4 11,mo 5 12])
 .ret))⟩
theorem q7N:trFn Tryz.prog 79 [] []=some qoT:=by kernel_rfl
abbrev qSK:Nat:=80
def qpK:FnI:=⟨26,[.cell 10 23 true],
 (sq (rg [xo 5 (.box 28 (.t 0)),xo 6 (.box 41 (.t 1)),xo 10 (.alloc 44 zl1)])
 (sq (rd [] (of 0 (fo 11 10 6)
 (ot 1 (lo 12 11)
 (of 2 (mo 13 2)
 (of 3 (mo 14 3)
 (of 4 (fo 15 13 6)
 (ot 5 (lo 16 15)
 (of 6 (fo 17 4 5)
 (ot 7 (lo 18 17)
 (of 8 (fo 19 13 6)
 (ot 9 (lo 20 19)
 (ot 10 (xo 21 (ia 5 18 20))
 (of 11 (fo 22 4 21)
 (ot 12 (lo 23 22)
 (of 13 (mo 24 4)
 (of 14 (xo 25 (.build zl1 [(0,1,(.t 12)),(2,1,(.t 13)),(3,1,(.t 14)),(4,1,(.t 16)),(5,1,(.t 23)),(6,1,(.t 24))]))
 (of 15 (xn (st 23 10 25))
 .nil)))))))))))))))))
 .ret))⟩
theorem q4J:trFn Tryz.prog 80 [([],(fs [0,1,2,3,4,5,6,7,8,9,10,11,12,13,14] (.exec 15 .nil)))] []=some qpK:=by kernel_rfl
abbrev qGI:Nat:=81
def qZI:FnI:=⟨7,[.tmp 2],
 (sq (rg [xo 2 (.mov (ci 0))])
 (sq (rg [mo 3 0,xo 4 (.bini .rem (.t 3) (.c (.int .u64 (4294967296)))),xo 5 (.conv .i64 (.t 4)),xo 6 (bc .sub 5 1),mo 2 6])
 .ret))⟩
theorem qwH:trFn Tryz.prog 81 [] []=some qZI:=by kernel_rfl
abbrev qYJ:Nat:=82
def qyJ:FnI:=⟨23,[.tmp 4,.tmp 5],
 (sq (rg [xo 4 (.mov (.c (.int .u64 (0)))),xo 5 (.mov (ci 0))])
 (sq (rg [xo 6 (.mov (.c (.int .u32 (0))))])
 (sq (sq (rg [mo 9 0,xo 10 (.call 136 [(.t 9)]),xo 11 (.bini .lss (.t 10) (.c (.int .u32 (4294967295))))])
 (cD 11
 (rg [mo 12 0,xo 13 (.call 136 [(.t 12)]),xo 14 (.bini .add (.t 13) (.c (.int .u32 (1)))),mo 6 14])
 .skip))
 (sq (rg [mo 16 6,mo 17 1,xo 18 (.call 137 [(.t 16),(.t 17)]),mo 15 18,xo 19 (.ext 0 (.t 15)),xo 20 (.ext 1 (.t 15)),mo 7 19,mo 8 20])
 (sq (rg [mo 21 7,mo 22 8,mo 4 21,mo 5 22])
 .ret)))))⟩
theorem q9I:trFn Tryz.prog 82 [] []=some qyJ:=by kernel_rfl
abbrev qLJ:Nat:=83
def qkJ:FnI:=⟨16,[.cell 6 44 true,.cell 7 23 true],
 (sq (rg [xo 3 (.box 41 (.t 0)),xo 4 (.box 44 (.t 1)),xo 5 (.box 39 (.t 2)),xo 6 (.alloc 41 zl0),xo 7 (.alloc 44 zl1)])
 (sq (rg [fo 8 24 3,xn (.store 1 (.t 8) (.b true))])
 (sq (rg [xo 9 (lt 13 5),fo 10 25 3,xn (st 13 10 9)])
 (sq (rg [fo 11 9 4,xn (.store 1 (.t 11) (.b true))])
 (sq (rg [xo 12 (lt 13 5),fo 13 10 4,xn (st 13 13 12)])
 (sq (rd [] (ot 0 (xo 14 (lt 44 3))
 (ot 1 (xo 15 (lt 23 4))
 (.op ⟨2,false,[1],xn (st 44 6 14)⟩
 (of 3 (xn (st 23 7 15))
 .nil)))))
 .ret))))))⟩
theorem qwI:trFn Tryz.prog 83 [([],(.first 0 (.first 1 (.exec 2 (.exec 3 .nil)))))] []=some qkJ:=by kernel_rfl
abbrev q7H:Nat:=84
def qQI:FnI:=⟨15,[.cell 8 23 true],
 (sq (rg [xo 4 (.box 41 (.t 0)),xo 8 (.alloc 44 zl1)])
 (sq (rg [fo 9 10 4,lo 10 9,mo 11 1,mo 12 2,mo 13 3,xo 14 (.build zl1 [(0,1,(.t 10)),(2,1,(.t 11)),(3,1,(.t 12)),(4,1,(ci (-1))),(6,1,(.t 13))]),xn (st 23 8 14)])
 .ret))⟩
theorem qnH:trFn Tryz.prog 84 [] []=some qQI:=by kernel_rfl
abbrev qHI:Nat:=85
def qaI:FnI:=⟨18,[.cell 0 8 true],
 (sq (rg [xo 0 (.alloc 28 [(vi 0),(vi 0),(vi 0),(.v (.slice none 0 0)),(.v (.slice none 0 0)),(.v (.slice none 0 0)),(.v (.slice none 0 0)),(.v (.slice none 0 0))])])
 (sq (rg [xo 4 (.bsl 9 1 1 [(.v (.string ⟨#[]⟩))] [(0,1,(.c (.string ⟨#[105,110]⟩)))]),xo 5 (.build [(vi 0),(.v (.string ⟨#[]⟩)),(.v (.string ⟨#[]⟩)),(vi 0)] [(1,1,(.c (.string ⟨#[42]⟩))),(2,1,(.c (.string ⟨#[47]⟩)))]),xo 6 (.bsl 129 4 1 [(vi 0),(.v (.string ⟨#[]⟩)),(.v (.string ⟨#[]⟩)),(vi 0)] [(0,4,(.t 5))]),xo 7 (.bsl 4 1 1 [(.v (.bool false))] [(0,1,(.b true))]),xo 8 (.build [(.v (.string ⟨#[]⟩)),(vi 0),(vi 0),(.v (.slice none 0 0))] [(0,1,(.c (.string ⟨#[97]⟩))),(1,1,(ci 1)),(2,1,(ci 1)),(3,1,(.t 7))]),xo 9 (.bsl 70 4 1 [(.v (.string ⟨#[]⟩)),(vi 0),(vi 0),(.v (.slice none 0 0))] [(0,4,(.t 8))]),xo 10 (.build [(.v (.slice none 0 0)),(.v (.slice none 0 0)),(.v (.slice none 0 0))] [(0,1,(.t 4)),(1,1,(.t 6)),(2,1,(.t 9))]),xo 1 (.alloc 63 [(.v (.slice none 0 0)),(.v (.slice none 0 0)),(.v (.slice none 0 0))]),xn (st 3 1 10)])
 (sq (rg [xo 12 (lt 3 1),xo 13 (.bsl 9 1 1 [(.v (.string ⟨#[]⟩))] [(0,1,(.c (.string ⟨#[105,110]⟩)))]),xo 14 (.call 113 [(.t 12),(.t 13),(ci 1)]),mo 11 14,xo 15 (.ext 0 (.t 11)),xo 16 (.ext 1 (.t 11)),xo 2 (.alloc 28 [(vi 0),(vi 0),(vi 0),(.v (.slice none 0 0)),(.v (.slice none 0 0)),(.v (.slice none 0 0)),(.v (.slice none 0 0)),(.v (.slice none 0 0))]),xn (st 8 2 15),mo 3 16])
 (sq (rg [xo 17 (lt 8 2),xn (st 8 0 17)])
 .ret))))⟩
theorem qxH:trFn Tryz.prog 85 [] []=some qaI:=by kernel_rfl
abbrev qWK:Nat:=86
def qsK:FnI:=⟨34,[.tmp 2],
 (sq (rg [xo 2 (.mov (.b false))])
 (sq (sq (rg [xo 3 (.mov (ci 0))])
 (.block 0
 (.loop [3] [4,5,6,7,8,9,10,11,12,15,16,17,18,19,20,21,22,23,24,25,26,27,28,29,30,2,13,14,3]
 (sq (sq (rg [mo 4 3,mo 5 0,xo 6 (.len false (.t 5)),xo 7 (bi .lss 4 6),mo 8 7,xg 9 (mv 0) 8 true,xg 10 (.len false (.t 9)) 8 true,xg 11 (bc .leq 10 50) 8 true,xo 12 (.pick (.t 8) (.t 11) (.b false))])
 (cD 12
 .skip
 (.exit 0)))
 (sq (.block 1
 (sq (rg [mo 15 0,mo 16 3,xo 17 (ia 4 15 16),fo 18 1 17,lo 19 18,xo 20 (.len true (.t 19)),xo 21 (bc .gtr 20 100),mo 22 21,xg 23 (mv 0) 22 false,xg 24 (mv 3) 22 false,xg 25 (ia 4 23 24) 22 false,xg 26 (fa 2 25) 22 false,xg 27 (lf 26) 22 false,xg 28 (.len true (.t 27)) 22 false,xg 29 (bc .gtr 28 100) 22 false,xo 30 (.pick (.t 22) (.b true) (.t 29))])
 (cD 30
 (sq (rg [xo 2 (.mov (.b true))])
 .ret)
 .skip)))
 (rg [mo 13 3,xo 14 (bc .add 13 1),mo 3 14]))))))
 (sq (rg [mo 31 0,xo 32 (.len false (.t 31)),xo 33 (bc .gtr 32 50),mo 2 33])
 .ret)))⟩
theorem q8J:trFn Tryz.prog 86 [] [[3]]=some qsK:=by kernel_rfl
abbrev q2M:Nat:=87
def qMN:FnI:=⟨6,[.tmp 0],
 (sq (rg [xo 0 (.mov (.c (.map none)))])
 (sq (rg [xo 1 (.mkm .i64),xo 2 (.build [(.v .nilFunc)] [(0,1,(.c (.func (.func 138) #[] #[])))]),xn (.mup .i64 (.t 1) (ci 0) (.t 2)),xo 3 (.build [(.v .nilFunc)] [(0,1,(.c (.func (.func 140) #[] #[])))]),xn (.mup .i64 (.t 1) (ci 1) (.t 3)),xo 4 (.build [(.v .nilFunc)] [(0,1,(.c (.func (.func 141) #[] #[])))]),xn (.mup .i64 (.t 1) (ci 2) (.t 4)),mo 5 1,mo 0 5])
 .ret))⟩
theorem qZM:trFn Tryz.prog 87 [] []=some qMN:=by kernel_rfl
abbrev qFC:Nat:=88
theorem qjE:FnOk Tryz.prog 88:=FnOk.of (by kernel_rfl)
def qKC:FnI:=⟨60,[.cell 2 23 true],
 (sq (rg [xo 1 (.box 98 (.t 0)),xo 2 (.alloc 44 zl1)])
 (sq (rd [3] (ot 0 (xo 5 (lt 2 1))
 (of 1 (fo 6 0 1)
 (ot 2 (lo 7 6)
 (of 3 (xo 8 (nk 7))
 (of 4 (fo 9 1 8)
 (ot 5 (lo 10 9)
 (of 6 (xo 11 (.call 142 [(.t 5),(ci 1),(ci 3),(.t 10)]))
 (.bring ⟨7,false,[],xo 3 (.alloc 44 zl1)⟩
 (of 8 (xn (st 23 3 11))
 .nil))))))))))
 (sq (rg [fo 12 8 3,xn (.store 1 (.t 12) (.b true))])
 (sq (rg [fo 13 1 1,lo 14 13,mo 4 14])
 (sq (rg [mo 15 4,mo 16 4,mo 17 4,mo 18 4,mo 19 4,fo 20 0 1,lo 21 20,xo 22 (nk 21),fo 23 1 22,lo 24 23,xo 25 (nk 15),fo 26 13 25,xn (st 1 26 24),xo 27 (nk 16),fo 28 15 27,xn (.store 1 (.t 28) (ci 0)),xo 29 (nk 17),fo 30 16 29,xn (.store 1 (.t 30) (ci 0)),xo 31 (nk 18),fo 32 17 31,xn (.store 1 (.t 32) (ci 0)),xo 33 (nk 19),fo 34 18 33,xn (.store 1 (.t 34) (ci 0))])
 (sq (rd [] (of 0 (mo 35 4)
 (of 2 (fo 37 0 1)
 (ot 3 (lo 38 37)
 (of 4 (xo 39 (nk 38))
 (of 5 (fo 40 5 39)
 (ot 6 (lo 41 40)
 (of 7 (mo 42 4)
 (of 8 (xo 43 (nk 42))
 (of 9 (fo 44 0 43)
 (of 10 (fo 45 1 44)
 (ot 11 (lo 46 45)
 (of 1 (mo 36 4)
 (of 12 (xo 47 (.call 61 [(.t 41),(.t 46)]))
 (of 13 (xo 48 (nk 35))
 (of 14 (fo 49 14 48)
 (of 15 (xn (st 1 49 47))
 (of 16 (xo 50 (nk 36))
 (of 17 (fo 51 11 50)
 (of 18 (xn (.store 1 (.t 51) (ci 4)))
 .nil))))))))))))))))))))
 (sq (sq (rg [mo 52 4,xo 53 (nk 52),fo 54 14 53,lo 55 54,xo 56 (bc .lss 55 0)])
 (cD 56
 (rg [xo 57 (lt 2 1),xo 58 (.call 143 [(.t 57),(ci 2)])])
 .skip))
 (sq (rg [xo 59 (lt 23 3),xn (st 23 2 59)])
 .ret))))))))⟩
theorem qeE:trFn Tryz.prog 88 [([7],(fs [0,1,2,3,4,5] (.exec 6 (.bring 7 (.exec 8 .nil))))),([],(fs [0,2,3,4,5,6,7,8,9,10,11,1] (.exec 12 (.first 13 (.first 14 (.exec 15 (.first 16 (.first 17 (.exec 18 .nil)))))))))] []=some qKC:=by kernel_rfl
abbrev qyD:Nat:=89
theorem qPI:FnOk Tryz.prog 89:=FnOk.of (by kernel_rfl)
def q2D:FnI:=⟨32,[.cell 2 23 true],
 (sq (rg [xo 1 (.box 98 (.t 0)),xo 2 (.alloc 44 zl1)])
 (sq (rd [] (of 0 (fo 4 0 1)
 (ot 1 (lo 5 4)
 (of 2 (xo 6 (nk 5))
 (of 3 (fo 7 5 6)
 (ot 4 (lo 8 7)
 (of 5 (fo 9 1 1)
 (ot 6 (lo 10 9)
 (of 7 (xo 11 (nk 10))
 (of 8 (fo 12 14 11)
 (ot 9 (lo 13 12)
 (ot 10 (xo 14 (ia 4 8 13))
 (of 11 (mo 3 14)
 .nil)))))))))))))
 (sq (rg [mo 15 3,xo 16 (nk 15),fo 17 2 16,lo 18 17,xo 19 (bc .add 18 1),xo 20 (nk 15),fo 21 2 20,xn (st 1 21 19)])
 (sq (rg [fo 22 1 1,lo 23 22,xo 24 (nk 23),fo 25 11 24,xn (.store 1 (.t 25) (ci 5))])
 (sq (rd [] (ot 0 (xo 26 (lt 2 1))
 (of 1 (mo 27 3)
 (of 2 (xo 28 (nk 27))
 (of 3 (fo 29 2 28)
 (ot 4 (lo 30 29)
 (of 5 (xo 31 (.call 142 [(.t 26),(ci 3),(ci 5),(.t 30)]))
 (of 6 (xn (st 23 2 31))
 .nil))))))))
 .ret)))))⟩
theorem q4H:trFn Tryz.prog 89 [([],(fs [0,1,2,3,4,5,6,7,8,9,10,11] .nil)),([],(fs [0,1,2,3,4] (.exec 5 (.exec 6 .nil))))] []=some q2D:=by kernel_rfl
abbrev qpC:Nat:=90
theorem qPF:FnOk Tryz.prog 90:=FnOk.of (by kernel_rfl)
def qtC:FnI:=⟨27,[.cell 2 23 true],
 (sq (rg [xo 1 (.box 98 (.t 0)),xo 2 (.alloc 44 zl1)])
 (sq (sq (rd [] (of 0 (fo 4 0 1)
 (ot 1 (lo 5 4)
 (of 2 (xo 6 (nk 5))
 (of 3 (fo 7 5 6)
 (ot 4 (lo 8 7)
 (of 5 (fo 9 1 1)
 (ot 6 (lo 10 9)
 (of 7 (xo 11 (nk 10))
 (of 8 (fo 12 14 11)
 (ot 9 (lo 13 12)
 (ot 10 (xo 14 (ia 4 8 13))
 (of 11 (fo 15 1 14)
 (ot 12 (lo 16 15)
 .nil))))))))))))))
 (cD 16
 (sq (rg [xo 17 (lt 2 1),xo 18 (.call 142 [(.t 17),(ci 1),(ci 4),(ci 1)]),xo 3 (.alloc 44 zl1),xn (st 23 3 18)])
 (sq (rg [fo 19 8 3,xn (.store 1 (.t 19) (.b true))])
 (sq (rg [xo 20 (lt 2 1),xo 21 (.call 143 [(.t 20),(ci 5)])])
 (sq (rg [xo 22 (lt 23 3),xn (st 23 2 22)])
 .ret))))
 .skip))
 (sq (rg [xo 23 (lt 2 1),xo 24 (.call 144 [(.t 23)])])
 (sq (rg [xo 25 (lt 2 1),xo 26 (.call 142 [(.t 25),(ci 1),(ci 4),(ci 0)]),xn (st 23 2 26)])
 .ret))))⟩
theorem qFF:trFn Tryz.prog 90 [([],(fs [0,1,2,3,4,5,6,7,8,9,10,11,12] .nil))] []=some qtC:=by kernel_rfl
abbrev qlD:Nat:=91
theorem qLH:FnOk Tryz.prog 91:=FnOk.of (by kernel_rfl)
def qqD:FnI:=⟨36,[.cell 2 23 true],
 (sq (rg [xo 1 (.box 98 (.t 0)),xo 2 (.alloc 44 zl1)])
 (sq (rg [xo 4 (lt 2 1),xo 5 (.call 145 [(.t 4)]),xo 6 (nk 5),fo 7 0 6,lo 8 7,mo 3 8])
 (sq (rg [xo 9 (lt 2 1),xo 10 (.call 145 [(.t 9)]),xo 11 (nk 10),fo 12 0 11,lo 13 12,xo 14 (.bini .add (.t 13) (.c (.int .u64 (1)))),xo 15 (nk 10),fo 16 0 15,xn (st 1 16 14)])
 (sq (rd [] (of 0 (fo 18 1 1)
 (ot 1 (lo 19 18)
 (ot 2 (xo 20 (lt 2 1))
 (of 4 (mo 22 3)
 (of 3 (xo 21 (.call 146 [(.t 20)]))
 (of 5 (xo 23 (.call 28 [(.t 21),(.t 22)]))
 (of 6 (mo 17 23)
 (of 7 (xo 24 (.ext 0 (.t 17)))
 (of 9 (xo 26 (nk 19))
 (of 10 (fo 27 16 26)
 (of 8 (xo 25 (.ext 1 (.t 17)))
 (of 11 (xn (st 1 27 24))
 .nil)))))))))))))
 (sq (rg [fo 28 1 1,lo 29 28,xo 30 (nk 29),fo 31 11 30,xn (.store 1 (.t 31) (ci 9))])
 (sq (rg [xo 32 (lt 2 1),mo 33 3,xo 34 (.conv .i64 (.t 33)),xo 35 (.call 147 [(.t 32),(ci 3),(ci 6),(.t 34)]),xn (st 23 2 35)])
 .ret))))))⟩
theorem q2G:trFn Tryz.prog 91 [([],(fs [0,1,2,4] (.exec 3 (.exec 5 (fs [6,7,9,10,8] (.exec 11 .nil))))))] []=some qqD:=by kernel_rfl
abbrev qGC:Nat:=92
theorem qkE:FnOk Tryz.prog 92:=FnOk.of (by kernel_rfl)
def qLC:FnI:=⟨23,[.cell 2 23 true],
 (sq (rg [xo 1 (.box 98 (.t 0)),xo 2 (.alloc 44 zl1)])
 (sq (rd [] (of 0 (fo 3 1 1)
 (ot 1 (lo 4 3)
 (ot 4 (xo 7 (lt 2 1))
 (of 2 (fo 5 1 1)
 (ot 3 (lo 6 5)
 (of 5 (xo 8 (.call 148 [(.t 7)]))
 (of 6 (xo 9 (nk 8))
 (of 7 (fo 10 2 9)
 (ot 8 (lo 11 10)
 (of 9 (xo 12 (nk 4))
 (of 10 (fo 13 21 12)
 (.op ⟨11,false,[3],xn (st 1 13 11)⟩
 (of 12 (xo 14 (nk 6))
 (of 13 (fo 15 11 14)
 (of 14 (xn (.store 1 (.t 15) (ci 8)))
 .nil))))))))))))))))
 (sq (rd [] (ot 0 (xo 16 (lt 2 1))
 (of 1 (fo 17 1 1)
 (ot 2 (lo 18 17)
 (of 3 (xo 19 (nk 18))
 (of 4 (fo 20 21 19)
 (ot 5 (lo 21 20)
 (of 6 (xo 22 (.call 147 [(.t 16),(ci 1),(ci 7),(.t 21)]))
 (of 7 (xn (st 23 2 22))
 .nil)))))))))
 .ret)))⟩
theorem qfE:trFn Tryz.prog 92 [([],(fs [0,1,4,2,3] (.exec 5 (fs [6,7,8,9,10] (.exec 11 (.first 12 (.first 13 (.exec 14 .nil)))))))),([],(fs [0,1,2,3,4,5] (.exec 6 (.exec 7 .nil))))] []=some qLC:=by kernel_rfl
abbrev qEC:Nat:=93
theorem qiE:FnOk Tryz.prog 93:=FnOk.of (by kernel_rfl)
def qJC:FnI:=⟨42,[.cell 2 23 true],
 (sq (rg [xo 1 (.box 98 (.t 0)),xo 2 (.alloc 44 zl1)])
 (sq (rg [fo 5 1 1,lo 6 5,mo 3 6])
 (sq (rd [] (ot 0 (xo 7 (lt 2 1))
 (of 5 (mo 12 3)
 (of 6 (xo 13 (nk 12))
 (of 7 (fo 14 17 13)
 (ot 8 (lo 15 14)
 (of 1 (xo 8 (.call 145 [(.t 7)]))
 (of 2 (xo 9 (nk 8))
 (of 3 (fo 10 1 9)
 (ot 4 (lo 11 10)
 (ot 9 (xo 16 (ia 3 11 15))
 (of 10 (fo 17 2 16)
 (ot 11 (lo 18 17)
 (of 12 (mo 4 18)
 .nil))))))))))))))
 (sq (rd [] (of 0 (mo 19 3)
 (of 2 (mo 21 3)
 (of 3 (xo 22 (nk 21))
 (of 4 (fo 23 16 22)
 (ot 5 (lo 24 23)
 (of 6 (mo 25 3)
 (of 7 (xo 26 (nk 25))
 (of 8 (fo 27 21 26)
 (ot 9 (lo 28 27)
 (of 10 (mo 29 3)
 (of 11 (xo 30 (nk 29))
 (of 12 (fo 31 17 30)
 (ot 13 (lo 32 31)
 (of 14 (mo 33 4)
 (of 1 (mo 20 3)
 (of 15 (xo 34 (.call 76 [(.t 24),(.t 28),(.t 32),(.t 33)]))
 (of 16 (xo 35 (nk 19))
 (of 17 (fo 36 16 35)
 (of 18 (xn (st 1 36 34))
 (of 19 (xo 37 (nk 20))
 (of 20 (fo 38 11 37)
 (of 21 (xn (.store 1 (.t 38) (ci 9)))
 .nil)))))))))))))))))))))))
 (sq (rg [xo 39 (lt 2 1),mo 40 4,xo 41 (.call 147 [(.t 39),(ci 1),(ci 7),(.t 40)]),xn (st 23 2 41)])
 .ret)))))⟩
theorem qdE:trFn Tryz.prog 93 [([],(fs [0,5,6,7,8] (.exec 1 (fs [2,3,4,9,10,11,12] .nil)))),([],(fs [0,2,3,4,5,6,7,8,9,10,11,12,13,14,1] (.exec 15 (.first 16 (.first 17 (.exec 18 (.first 19 (.first 20 (.exec 21 .nil)))))))))] []=some qJC:=by kernel_rfl
abbrev q9C:Nat:=94
theorem q6F:FnOk Tryz.prog 94:=FnOk.of (by kernel_rfl)
def qGD:FnI:=⟨44,[.cell 2 23 true],
 (sq (rg [xo 1 (.box 98 (.t 0)),xo 2 (.alloc 44 zl1)])
 (sq (rg [fo 5 1 1,lo 6 5,mo 3 6])
 (sq (rg [mo 7 3,xo 8 (lt 2 1),xo 9 (.call 148 [(.t 8)]),xo 10 (nk 9),fo 11 0 10,lo 12 11,xo 13 (nk 7),fo 14 19 13,xn (st 1 14 12)])
 (sq (rg [mo 15 3,xo 16 (nk 15),fo 17 19 16,lo 18 17,xo 19 (.call 77 [(.t 18)]),mo 4 19])
 (sq (sq (rg [mo 20 4,xo 21 (bc .lss 20 0),mo 22 21,xg 23 (mv 4) 22 false,xg 24 (lt 2 1) 22 false,xg 25 (.call 148 [(.t 24)]) 22 false,xg 26 (nk 25) 22 false,xg 27 (fa 1 26) 22 false,xg 28 (lf 27) 22 false,xg 29 (.len false (.t 28)) 22 false,xg 30 (bi .geq 23 29) 22 false,xo 31 (.pick (.t 22) (.b true) (.t 30))])
 (cD 31
 (rg [xo 32 (lt 2 1),xo 33 (.call 143 [(.t 32),(ci 4)])])
 (rg [mo 34 3,mo 35 3,mo 36 4,xo 37 (nk 34),fo 38 18 37,xn (st 1 38 36),xo 39 (nk 35),fo 40 11 39,xn (.store 1 (.t 40) (ci 10))])))
 (sq (rg [xo 41 (lt 2 1),mo 42 4,xo 43 (.call 147 [(.t 41),(ci 1),(ci 8),(.t 42)]),xn (st 23 2 43)])
 .ret))))))⟩
theorem qoF:trFn Tryz.prog 94 [] []=some qGD:=by kernel_rfl
abbrev q8C:Nat:=95
theorem q5F:FnOk Tryz.prog 95:=FnOk.of (by kernel_rfl)
def qFD:FnI:=⟨30,[.cell 2 23 true],
 (sq (rg [xo 1 (.box 98 (.t 0)),xo 2 (.alloc 44 zl1)])
 (sq (rd [] (of 0 (fo 3 1 1)
 (ot 1 (lo 4 3)
 (ot 4 (xo 7 (lt 2 1))
 (of 9 (fo 12 1 1)
 (ot 10 (lo 13 12)
 (of 11 (xo 14 (nk 13))
 (of 12 (fo 15 18 14)
 (ot 13 (lo 16 15)
 (of 2 (fo 5 1 1)
 (ot 3 (lo 6 5)
 (of 5 (xo 8 (.call 148 [(.t 7)]))
 (of 6 (xo 9 (nk 8))
 (of 7 (fo 10 1 9)
 (ot 8 (lo 11 10)
 (ot 14 (xo 17 (ia 1 11 16))
 (ot 15 (lo 18 17)
 (of 16 (xo 19 (nk 4))
 (of 17 (fo 20 20 19)
 (.op ⟨18,false,[3],xn (st 1 20 18)⟩
 (of 19 (xo 21 (nk 6))
 (of 20 (fo 22 11 21)
 (of 21 (xn (.store 1 (.t 22) (ci 11)))
 .nil)))))))))))))))))))))))
 (sq (rd [] (ot 0 (xo 23 (lt 2 1))
 (of 1 (fo 24 1 1)
 (ot 2 (lo 25 24)
 (of 3 (xo 26 (nk 25))
 (of 4 (fo 27 20 26)
 (ot 5 (lo 28 27)
 (of 6 (xo 29 (.call 147 [(.t 23),(ci 1),(ci 9),(.t 28)]))
 (of 7 (xn (st 23 2 29))
 .nil)))))))))
 .ret)))⟩
theorem qnF:trFn Tryz.prog 95 [([],(fs [0,1,4,9,10,11,12,13,2,3] (.exec 5 (fs [6,7,8,14,15,16,17] (.exec 18 (.first 19 (.first 20 (.exec 21 .nil)))))))),([],(fs [0,1,2,3,4,5] (.exec 6 (.exec 7 .nil))))] []=some qFD:=by kernel_rfl
abbrev qLD:Nat:=96
theorem qND:FnOk Tryz.prog 96:=FnOk.of (by kernel_rfl)
def qQD:FnI:=⟨59,[.cell 2 23 true],
 (sq (rg [xo 1 (.box 98 (.t 0)),xo 2 (.alloc 44 zl1)])
 (sq (rg [fo 6 1 1,lo 7 6,mo 3 7])
 (sq (rd [] (of 0 (mo 9 3)
 (of 1 (xo 10 (nk 9))
 (of 2 (fo 11 19 10)
 (ot 3 (lo 12 11)
 (of 4 (mo 13 3)
 (of 5 (xo 14 (nk 13))
 (of 6 (fo 15 20 14)
 (ot 7 (lo 16 15)
 (of 8 (xo 17 (.call 79 [(.t 12),(.t 16)]))
 (of 9 (mo 8 17)
 (of 10 (xo 18 (.ext 0 (.t 8)))
 (of 11 (xo 19 (.ext 1 (.t 8)))
 (of 12 (mo 4 18)
 (of 13 (mo 5 19)
 .nil)))))))))))))))
 (sq (sq (rd [] (ot 0 (xo 20 (lt 2 1))
 (of 5 (mo 25 3)
 (of 6 (xo 26 (nk 25))
 (of 7 (fo 27 19 26)
 (ot 8 (lo 28 27)
 (of 1 (xo 21 (.call 148 [(.t 20)]))
 (of 2 (xo 22 (nk 21))
 (of 3 (fo 23 0 22)
 (ot 4 (lo 24 23)
 (of 9 (xo 29 (bi .neq 24 28))
 (of 10 (mo 30 29)
 (of 11 (xg 31 (mv 5) 30 false)
 (of 12 (xg 32 (bc .neq 31 0) 30 false)
 (of 13 (xo 33 (.pick (.t 30) (.b true) (.t 32)))
 .nil)))))))))))))))
 (cD 33
 (sq (rg [mo 34 3,xo 35 (nk 34),fo 36 11 35,xn (.store 1 (.t 36) (ci 9))])
 (sq (rd [] (ot 0 (xo 37 (lt 2 1))
 (ot 1 (xo 38 (lt 2 1))
 (of 2 (xo 39 (.call 148 [(.t 38)]))
 (of 3 (xo 40 (nk 39))
 (of 4 (fo 41 0 40)
 (ot 5 (lo 42 41)
 (of 6 (xo 43 (.call 77 [(.t 42)]))
 (of 7 (xo 44 (.call 147 [(.t 37),(ci 5),(ci 8),(.t 43)]))
 (of 8 (xn (st 23 2 44))
 .nil))))))))))
 .ret))
 .skip))
 (sq (rg [xo 45 (lt 2 1),xo 46 (.call 148 [(.t 45)]),mo 47 3,mo 48 4,xo 49 (nk 46),fo 50 0 49,xn (st 1 50 48),xo 51 (nk 47),fo 52 11 51,xn (.store 1 (.t 52) (ci 12))])
 (sq (rd [] (ot 0 (xo 53 (lt 2 1))
 (of 1 (mo 54 3)
 (of 2 (xo 55 (nk 54))
 (of 3 (fo 56 18 55)
 (ot 4 (lo 57 56)
 (of 5 (xo 58 (.call 147 [(.t 53),(ci 4),(ci 8),(.t 57)]))
 (of 6 (xn (st 23 2 58))
 .nil))))))))
 .ret))))))⟩
theorem qYG:trFn Tryz.prog 96 [([],(fs [0,1,2,3,4,5,6,7] (.exec 8 (fs [9,10,11,12,13] .nil)))),([],(fs [0,5,6,7,8] (.exec 1 (fs [2,3,4,9,10,11,12,13] .nil)))),([],(.first 0 (.first 1 (.exec 2 (fs [3,4,5] (.exec 6 (.exec 7 (.exec 8 .nil)))))))),([],(fs [0,1,2,3,4] (.exec 5 (.exec 6 .nil))))] []=some qQD:=by kernel_rfl
abbrev qmD:Nat:=97
theorem qMH:FnOk Tryz.prog 97:=FnOk.of (by kernel_rfl)
def qrD:FnI:=⟨48,[.cell 2 23 true],
 (sq (rg [xo 1 (.box 98 (.t 0)),xo 2 (.alloc 44 zl1)])
 (sq (rg [fo 4 1 1,lo 5 4,mo 3 5])
 (sq (rg [xo 6 (lt 2 1),xo 7 (.call 148 [(.t 6)]),xo 8 (nk 7),fo 9 2 8,lo 10 9,xo 11 (bc .add 10 1),xo 12 (nk 7),fo 13 2 12,xn (st 1 13 11)])
 (sq (rd [] (of 0 (mo 14 3)
 (of 1 (mo 15 3)
 (of 2 (xo 16 (nk 15))
 (of 3 (fo 17 13 16)
 (ot 4 (lo 18 17)
 (of 5 (mo 19 3)
 (of 6 (xo 20 (nk 19))
 (of 7 (fo 21 15 20)
 (ot 8 (lo 22 21)
 (of 9 (mo 23 3)
 (of 10 (xo 24 (nk 23))
 (of 11 (fo 25 16 24)
 (ot 12 (lo 26 25)
 (of 13 (mo 27 3)
 (of 14 (xo 28 (nk 27))
 (of 15 (fo 29 18 28)
 (ot 16 (lo 30 29)
 (of 17 (mo 31 3)
 (of 18 (xo 32 (nk 31))
 (of 19 (fo 33 14 32)
 (ot 20 (lo 34 33)
 (of 21 (xo 35 (.build zl2 [(0,1,(ci 1)),(1,1,(.t 18)),(2,1,(.t 22)),(3,1,(.t 26)),(4,1,(.t 30)),(5,1,(.t 34))]))
 (of 22 (xo 36 (nk 14))
 (of 23 (fo 37 25 36)
 (of 24 (xn (st 13 37 35))
 .nil))))))))))))))))))))))))))
 (sq (rg [mo 38 3,xo 39 (nk 38),fo 40 11 39,xn (.store 1 (.t 40) (ci 20))])
 (sq (rd [] (ot 0 (xo 41 (lt 2 1))
 (ot 1 (xo 42 (lt 2 1))
 (of 2 (xo 43 (.call 148 [(.t 42)]))
 (of 3 (xo 44 (nk 43))
 (of 4 (fo 45 2 44)
 (ot 5 (lo 46 45)
 (of 6 (xo 47 (.call 147 [(.t 41),(ci 3),(ci 7),(.t 46)]))
 (of 7 (xn (st 23 2 47))
 .nil)))))))))
 .ret))))))⟩
theorem q3G:trFn Tryz.prog 97 [([],(fs [0,1,2,3,4,5,6,7,8,9,10,11,12,13,14,15,16,17,18,19,20,21,22,23] (.exec 24 .nil))),([],(.first 0 (.first 1 (.exec 2 (fs [3,4,5] (.exec 6 (.exec 7 .nil)))))))] []=some qrD:=by kernel_rfl
abbrev qqC:Nat:=98
theorem qQF:FnOk Tryz.prog 98:=FnOk.of (by kernel_rfl)
def quC:FnI:=⟨40,[.cell 2 23 true],
 (sq (rg [xo 1 (.box 98 (.t 0)),xo 2 (.alloc 44 zl1)])
 (sq (rg [fo 4 1 1,lo 5 4,xo 6 (nk 5),fo 7 25 6,fo 8 0 7,lo 9 8,mo 3 9])
 (sq (sq (rg [mo 10 3,xo 11 (bc .lss 10 1),mo 12 11,xg 13 (mv 3) 12 false,xg 14 (bc .gtr 13 5) 12 false,xo 15 (.pick (.t 12) (.b true) (.t 14))])
 (cD 15
 (rg [xo 3 (.mov (ci 0))])
 .skip))
 (sq (rd [] (of 0 (fo 16 0 1)
 (ot 1 (lo 17 16)
 (of 2 (xo 18 (nk 17))
 (of 3 (fo 19 6 18)
 (ot 4 (lo 20 19)
 (of 5 (fo 21 1 1)
 (ot 6 (lo 22 21)
 (of 7 (xo 23 (nk 22))
 (of 8 (fo 24 10 23)
 (ot 9 (lo 25 24)
 (ot 10 (xo 26 (ia 1 20 25))
 (ot 11 (lo 27 26)
 (of 12 (mo 28 3)
 (ot 13 (xo 29 (ia 1 27 28))
 (ot 14 (lo 30 29)
 (of 15 (xo 31 (.bini .add (.t 30) (.c (.int .u64 (1)))))
 (ot 16 (xo 32 (ia 1 27 28))
 (of 17 (xn (st 1 32 31))
 .nil)))))))))))))))))))
 (sq (rg [fo 33 1 1,lo 34 33,xo 35 (nk 34),fo 36 11 35,xn (.store 1 (.t 36) (ci 21))])
 (sq (rg [xo 37 (lt 2 1),mo 38 3,xo 39 (.call 142 [(.t 37),(ci 3),(ci 10),(.t 38)]),xn (st 23 2 39)])
 .ret))))))⟩
theorem qGF:trFn Tryz.prog 98 [([],(fs [0,1,2,3,4,5,6,7,8,9,10,11,12,13,14,15,16] (.exec 17 .nil)))] []=some quC:=by kernel_rfl
abbrev qAD:Nat:=99
theorem q7F:FnOk Tryz.prog 99:=FnOk.of (by kernel_rfl)
def qHD:FnI:=⟨44,[.cell 2 23 true],
 (sq (rg [xo 1 (.box 98 (.t 0)),xo 2 (.alloc 44 zl1)])
 (sq (rd [] (of 0 (fo 3 0 1)
 (ot 1 (lo 4 3)
 (of 2 (xo 5 (nk 4))
 (of 3 (fo 6 6 5)
 (ot 4 (lo 7 6)
 (of 5 (fo 8 1 1)
 (ot 6 (lo 9 8)
 (of 7 (xo 10 (nk 9))
 (of 8 (fo 11 10 10)
 (ot 9 (lo 12 11)
 (ot 10 (xo 13 (ia 1 7 12))
 (ot 11 (lo 14 13)
 (ot 12 (xo 15 (.iadr 1 (.t 14) (ci 0)))
 (ot 13 (lo 16 15)
 (of 14 (xo 17 (.bini .add (.t 16) (.c (.int .u64 (1)))))
 (ot 15 (xo 18 (.iadr 1 (.t 14) (ci 0)))
 (of 16 (xn (st 1 18 17))
 .nil))))))))))))))))))
 (sq (rg [fo 19 1 1,lo 20 19,xo 21 (nk 20),fo 22 11 21,xn (.store 1 (.t 22) (ci 22))])
 (sq (sq (rg [fo 23 1 1,lo 24 23,xo 25 (nk 24),fo 26 25 25,fo 27 0 26,lo 28 27,xo 29 (bc .eql 28 1),mo 30 29,xg 31 (fa 1 1) 30 false,xg 32 (lf 31) 30 false,xg 33 (nk 32) 30 false,xg 34 (fa 14 33) 30 false,xg 35 (lf 34) 30 false,xg 36 (bc .lss 35 0) 30 false,xo 37 (.pick (.t 30) (.b true) (.t 36))])
 (cD 37
 (rg [fo 38 1 1,lo 39 38,xo 40 (nk 39),fo 41 11 40,xn (.store 1 (.t 41) (ci 23))])
 .skip))
 (sq (rg [xo 42 (lt 2 1),xo 43 (.call 142 [(.t 42),(ci 3),(ci 10),(ci 0)]),xn (st 23 2 43)])
 .ret)))))⟩
theorem qpF:trFn Tryz.prog 99 [([],(fs [0,1,2,3,4,5,6,7,8,9,10,11,12,13,14,15] (.exec 16 .nil)))] []=some qHD:=by kernel_rfl
abbrev qxD:Nat:=100
theorem qOI:FnOk Tryz.prog 100:=FnOk.of (by kernel_rfl)
def q1D:FnI:=⟨32,[.cell 2 23 true],
 (sq (rg [xo 1 (.box 98 (.t 0)),xo 2 (.alloc 44 zl1)])
 (sq (rd [] (of 0 (fo 4 0 1)
 (ot 1 (lo 5 4)
 (of 2 (xo 6 (nk 5))
 (of 3 (fo 7 5 6)
 (ot 4 (lo 8 7)
 (of 5 (fo 9 1 1)
 (ot 6 (lo 10 9)
 (of 7 (xo 11 (nk 10))
 (of 8 (fo 12 14 11)
 (ot 9 (lo 13 12)
 (ot 10 (xo 14 (ia 4 8 13))
 (of 11 (mo 3 14)
 .nil)))))))))))))
 (sq (rg [mo 15 3,xo 16 (nk 15),fo 17 2 16,lo 18 17,xo 19 (bc .sub 18 1),xo 20 (nk 15),fo 21 2 20,xn (st 1 21 19)])
 (sq (rg [fo 22 1 1,lo 23 22,xo 24 (nk 23),fo 25 11 24,xn (.store 1 (.t 25) (ci 23))])
 (sq (rd [] (ot 0 (xo 26 (lt 2 1))
 (of 1 (mo 27 3)
 (of 2 (xo 28 (nk 27))
 (of 3 (fo 29 2 28)
 (ot 4 (lo 30 29)
 (of 5 (xo 31 (.call 142 [(.t 26),(ci 3),(ci 5),(.t 30)]))
 (of 6 (xn (st 23 2 31))
 .nil))))))))
 .ret)))))⟩
theorem q2H:trFn Tryz.prog 100 [([],(fs [0,1,2,3,4,5,6,7,8,9,10,11] .nil)),([],(fs [0,1,2,3,4] (.exec 5 (.exec 6 .nil))))] []=some q1D:=by kernel_rfl
abbrev qwD:Nat:=101
theorem qNI:FnOk Tryz.prog 101:=FnOk.of (by kernel_rfl)
def qzD:FnI:=⟨33,[.cell 2 23 true],
 (sq (rg [xo 1 (.box 98 (.t 0)),xo 2 (.alloc 44 zl1)])
 (sq (rd [3,4] (of 0 (fo 6 0 1)
 (ot 1 (lo 7 6)
 (of 2 (xo 8 (nk 7))
 (ot 3 (xo 9 (lt 8 8))
 (of 4 (fo 10 1 1)
 (ot 5 (lo 11 10)
 (of 6 (xo 12 (nk 11))
 (ot 7 (xo 13 (lt 44 12))
 (of 8 (xo 14 (.call 149 [(.t 9),(.t 13)]))
 (of 9 (mo 5 14)
 (of 10 (xo 15 (.ext 0 (.t 5)))
 (of 11 (xo 16 (.ext 1 (.t 5)))
 (.bring ⟨12,false,[],xo 3 (.alloc 28 [(vi 0),(vi 0),(vi 0),(.v (.slice none 0 0)),(.v (.slice none 0 0)),(.v (.slice none 0 0)),(.v (.slice none 0 0)),(.v (.slice none 0 0))])⟩
 (.bring ⟨13,false,[],xo 4 (.alloc 44 zl1)⟩
 (of 14 (xn (st 8 3 15))
 (of 15 (xn (st 23 4 16))
 .nil)))))))))))))))))
 (sq (rg [fo 17 0 1,lo 18 17,xo 19 (lt 8 3),xo 20 (nk 18),xn (st 8 20 19)])
 (sq (rd [] (of 0 (fo 21 1 1)
 (ot 1 (lo 22 21)
 (of 2 (fo 23 1 1)
 (ot 3 (lo 24 23)
 (of 4 (xo 25 (nk 24))
 (of 5 (fo 26 25 25)
 (ot 6 (xo 27 (lt 13 26))
 (of 7 (xo 28 (nk 22))
 (of 8 (fo 29 24 28)
 (of 9 (xn (.store 1 (.t 29) (.b true)))
 (of 10 (fo 30 9 4)
 (of 11 (xn (.store 1 (.t 30) (.b true)))
 (of 12 (fo 31 10 4)
 (of 13 (xn (st 13 31 27))
 .nil)))))))))))))))
 (sq (rg [xo 32 (lt 23 4),xn (st 23 2 32)])
 .ret)))))⟩
theorem qzH:trFn Tryz.prog 101 [([12,13],(fs [0,1,2,3,4,5,6,7] (.exec 8 (fs [9,10,11] (.bring 12 (.bring 13 (.exec 14 (.exec 15 .nil)))))))),([],(fs [0,1,2,3,4,5,6,7,8] (.exec 9 (.first 10 (.exec 11 (.first 12 (.exec 13 .nil)))))))] []=some qzD:=by kernel_rfl
abbrev qWL:Nat:=102
def qhL:FnI:=⟨97,[.tmp 2],
 (sq (rg [xo 1 (.box 28 (.t 0)),xo 2 (.mov (.b false))])
 (sq (sq (rg [fo 4 3 1,lo 5 4,xo 6 (.len false (.t 5)),xo 7 (bc .lss 6 1),mo 8 7,xg 9 (fa 3 1) 8 false,xg 10 (lf 9) 8 false,xg 11 (.len false (.t 10)) 8 false,xg 12 (bc .gtr 11 8) 8 false,xo 13 (.pick (.t 8) (.b true) (.t 12)),mo 14 13,xg 15 (fa 6 1) 14 false,xg 16 (lf 15) 14 false,xg 17 (.len false (.t 16)) 14 false,xg 18 (fa 3 1) 14 false,xg 19 (lf 18) 14 false,xg 20 (.len false (.t 19)) 14 false,xg 21 (bi .neq 17 20) 14 false,xo 22 (.pick (.t 14) (.b true) (.t 21)),mo 23 22,xg 24 (fa 6 1) 23 false,xg 25 (lf 24) 23 false,xg 26 (.call 150 [(.t 25)]) 23 false,xg 27 (.not (.t 26)) 23 false,xo 28 (.pick (.t 23) (.b true) (.t 27)),mo 29 28,xg 30 (fa 0 1) 29 false,xg 31 (lf 30) 29 false,xg 32 (bc .lss 31 0) 29 false,xo 33 (.pick (.t 29) (.b true) (.t 32)),mo 34 33,xg 35 (fa 0 1) 34 false,xg 36 (lf 35) 34 false,xg 37 (bc .gtr 36 1000000000000) 34 false,xo 38 (.pick (.t 34) (.b true) (.t 37)),mo 39 38,xg 40 (fa 2 1) 39 false,xg 41 (lf 40) 39 false,xg 42 (bc .lss 41 0) 39 false,xo 43 (.pick (.t 39) (.b true) (.t 42)),mo 44 43,xg 45 (fa 2 1) 44 false,xg 46 (lf 45) 44 false,xg 47 (bc .gtr 46 1) 44 false,xo 48 (.pick (.t 44) (.b true) (.t 47))])
 (cD 48
 (sq (rg [xo 2 (.mov (.b false))])
 .ret)
 .skip))
 (sq (sq (rg [xo 3 (.mov (ci 0))])
 (.block 0
 (.loop [3] [49,50,51,52,53,56,57,58,59,60,61,62,63,64,65,66,67,68,69,70,71,72,2,54,55,3]
 (sq (sq (rg [mo 49 3,fo 50 3 1,lo 51 50,xo 52 (.len false (.t 51)),xo 53 (bi .lss 49 52)])
 (cD 53
 .skip
 (.exit 0)))
 (sq (.block 1
 (sq (rd [] (of 0 (fo 56 3 1)
 (ot 1 (lo 57 56)
 (of 2 (mo 58 3)
 (ot 3 (xo 59 (ia 1 57 58))
 (ot 4 (lo 60 59)
 (of 5 (xo 61 (bc .lss 60 0))
 (of 6 (mo 62 61)
 (of 7 (xg 63 (fa 3 1) 62 false)
 (ot 8 (xg 64 (lf 63) 62 false)
 (of 9 (xg 65 (mv 3) 62 false)
 (ot 10 (xg 66 (ia 1 64 65) 62 false)
 (ot 11 (xg 67 (lf 66) 62 false)
 (of 12 (xg 68 (fa 0 1) 62 false)
 (ot 13 (xg 69 (lf 68) 62 false)
 (of 14 (xg 70 (bc .add 69 1) 62 false)
 (of 15 (xg 71 (bi .gtr 67 70) 62 false)
 (of 16 (xo 72 (.pick (.t 62) (.b true) (.t 71)))
 .nil))))))))))))))))))
 (cD 72
 (sq (rg [xo 2 (.mov (.b false))])
 .ret)
 .skip)))
 (rg [mo 54 3,xo 55 (bc .add 54 1),mo 3 55]))))))
 (sq (sq (rg [fo 73 1 1,lo 74 73,xo 75 (bc .lss 74 0),mo 76 75,xg 77 (fa 1 1) 76 false,xg 78 (lf 77) 76 false,xg 79 (fa 4 1) 76 false,xg 80 (lf 79) 76 false,xg 81 (.len false (.t 80)) 76 false,xg 82 (bi .geq 78 81) 76 false,xo 83 (.pick (.t 76) (.b true) (.t 82)),mo 84 83,xg 85 (lt 8 1) 84 false,xg 86 (.call 151 [(.t 85)]) 84 false,xg 87 (.not (.t 86)) 84 false,xo 88 (.pick (.t 84) (.b true) (.t 87))])
 (cD 88
 (sq (rg [xo 2 (.mov (.b false))])
 .ret)
 .skip))
 (sq (rg [fo 89 4 1,lo 90 89,fo 91 1 1,lo 92 91,xo 93 (ia 5 90 92),fo 94 4 93,lo 95 94,xo 96 (.not (.t 95)),mo 2 96])
 .ret)))))⟩
theorem qBL:trFn Tryz.prog 102 [([],(fs [0,1,2,3,4,5,6,7,8,9,10,11,12,13,14,15,16] .nil))] [[3]]=some qhL:=by kernel_rfl
abbrev qVL:Nat:=103
def qgL:FnI:=⟨12,[.tmp 4],
 (sq (rg [xo 4 (.mov (.b false))])
 (sq (rg [mo 5 0,xo 6 (bc .geq 5 0),mo 7 6,xg 8 (mv 0) 7 true,xg 9 (mv 1) 7 true,xg 10 (bi .lss 8 9) 7 true,xo 11 (.pick (.t 7) (.t 10) (.b false)),mo 4 11])
 .ret))⟩
theorem qAL:trFn Tryz.prog 103 [] []=some qgL:=by kernel_rfl
abbrev qBI:Nat:=104
def qUI:FnI:=⟨20,[.tmp 4],
 (sq (rg [xo 4 (.mov (ci 0))])
 (sq (sq (rg [xo 5 (.mov (ci 0))])
 (.block 0
 (.loop [5] [6,7,8,9,12,13,14,15,16,17,18,19,4,10,11,5]
 (sq (sq (rg [mo 6 5,mo 7 0,xo 8 (.len false (.t 7)),xo 9 (bi .lss 6 8)])
 (cD 9
 .skip
 (.exit 0)))
 (sq (.block 1
 (sq (rg [mo 12 0,mo 13 5,xo 14 (ia 4 12 13),fo 15 0 14,lo 16 15,mo 17 1,xo 18 (.bins .eql (.t 16) (.t 17))])
 (cD 18
 (sq (rg [mo 19 5,mo 4 19])
 .ret)
 .skip)))
 (rg [mo 10 5,xo 11 (bc .add 10 1),mo 5 11]))))))
 (sq (rg [xo 4 (.mov (ci (-1)))])
 .ret)))⟩
theorem qrH:trFn Tryz.prog 104 [] [[5]]=some qUI:=by kernel_rfl
abbrev q0R:Nat:=113
def qGS:FnI:=⟨64,[.cell 6 8 true,.tmp 7],
 (sq (rg [xo 3 (.box 63 (.t 0)),xo 6 (.alloc 28 [(vi 0),(vi 0),(vi 0),(.v (.slice none 0 0)),(.v (.slice none 0 0)),(.v (.slice none 0 0)),(.v (.slice none 0 0)),(.v (.slice none 0 0))]),xo 7 (.mov (ci 0))])
 (sq (rg [xo 15 (lt 3 3),xo 16 (.call 155 [(.t 15)]),mo 14 16,xo 17 (.ext 0 (.t 14)),xo 18 (.ext 1 (.t 14)),xo 8 (.alloc 66 [(.v (.slice none 0 0)),(.v (.slice none 0 0)),(.v (.slice none 0 0)),(.v (.slice none 0 0)),(.v (.bool false))]),xn (st 5 8 17),mo 9 18])
 (sq (sq (rg [mo 19 9,xo 20 (bc .neq 19 0)])
 (cD 20
 (sq (rg [xo 21 (.build [(vi 0),(vi 0),(vi 0),(.v (.slice none 0 0)),(.v (.slice none 0 0)),(.v (.slice none 0 0)),(.v (.slice none 0 0)),(.v (.slice none 0 0))] []),mo 22 9,xn (st 8 6 21),mo 7 22])
 .ret)
 .skip))
 (sq (rg [mo 24 2,xo 25 (.call 156 [(.t 24)]),mo 23 25,xo 26 (.ext 0 (.t 23)),xo 27 (.ext 1 (.t 23)),mo 10 26,mo 9 27])
 (sq (sq (rg [mo 28 9,xo 29 (bc .neq 28 0)])
 (cD 29
 (sq (rg [xo 30 (.build [(vi 0),(vi 0),(vi 0),(.v (.slice none 0 0)),(.v (.slice none 0 0)),(.v (.slice none 0 0)),(.v (.slice none 0 0)),(.v (.slice none 0 0))] []),mo 31 9,xn (st 8 6 30),mo 7 31])
 .ret)
 .skip))
 (sq (rd [11] (ot 0 (xo 32 (lt 5 8))
 (of 2 (mo 34 2)
 (of 4 (mo 36 10)
 (.alt (of 1 (xo 33 (.bsl 66 5 1 [(.v (.slice none 0 0)),(.v (.slice none 0 0)),(.v (.slice none 0 0)),(.v (.slice none 0 0)),(.v (.bool false))] [(0,5,(.t 32))]))
 (of 3 (xo 35 (.msl 3 1 8 [(.int .i64 (0))] (.t 34) (.t 34)))
 (of 5 (xo 37 (.build [(vi 0),(vi 0),(vi 0),(.v (.slice none 0 0)),(.v (.slice none 0 0)),(.v (.slice none 0 0)),(.v (.slice none 0 0)),(.v (.slice none 0 0))] [(4,1,(.t 33)),(3,1,(.t 35)),(6,1,(.t 36))]))
 (.bring ⟨6,false,[],xo 11 (.alloc 28 [(vi 0),(vi 0),(vi 0),(.v (.slice none 0 0)),(.v (.slice none 0 0)),(.v (.slice none 0 0)),(.v (.slice none 0 0)),(.v (.slice none 0 0))])⟩
 (of 7 (xn (st 8 11 37))
 .nil)))))
 (of 3 (xo 35 (.msl 3 1 8 [(.int .i64 (0))] (.t 34) (.t 34)))
 (of 1 (xo 33 (.bsl 66 5 1 [(.v (.slice none 0 0)),(.v (.slice none 0 0)),(.v (.slice none 0 0)),(.v (.slice none 0 0)),(.v (.bool false))] [(0,5,(.t 32))]))
 (of 5 (xo 37 (.build [(vi 0),(vi 0),(vi 0),(.v (.slice none 0 0)),(.v (.slice none 0 0)),(.v (.slice none 0 0)),(.v (.slice none 0 0)),(.v (.slice none 0 0))] [(4,1,(.t 33)),(3,1,(.t 35)),(6,1,(.t 36))]))
 (.bring ⟨6,false,[],xo 11 (.alloc 28 [(vi 0),(vi 0),(vi 0),(.v (.slice none 0 0)),(.v (.slice none 0 0)),(.v (.slice none 0 0)),(.v (.slice none 0 0)),(.v (.slice none 0 0))])⟩
 (of 7 (xn (st 8 11 37))
 .nil))))))))))
 (sq (sq (rg [mo 38 1,xo 39 (.len false (.t 38)),xo 40 (.mov (ci 0))])
 (.block 0
 (.loop [40] [41,42,43,13,44,45,46,47,48,49,50,51,52,53,54,7,55,56,57,58,59,60,61,62,40]
 (sq (rg [xo 41 (bi .lss 40 39)])
 (sq (cD 41
 .skip
 (.exit 0))
 (sq (.block 1
 (sq (rg [xo 42 (ia 1 38 40),lo 43 42,mo 13 43])
 (sq (sq (rg [mo 44 13,xo 45 (.call 122 [(.t 44)]),xo 46 (.not (.t 45)),mo 47 46,xg 48 (fa 5 11) 47 false,xg 49 (lf 48) 47 false,xg 50 (mv 13) 47 false,xg 51 (.call 61 [(.t 49),(.t 50)]) 47 false,xg 52 (bc .geq 51 0) 47 false,xo 53 (.pick (.t 47) (.b true) (.t 52))])
 (cD 53
 (sq (rg [xo 54 (.build [(vi 0),(vi 0),(vi 0),(.v (.slice none 0 0)),(.v (.slice none 0 0)),(.v (.slice none 0 0)),(.v (.slice none 0 0)),(.v (.slice none 0 0))] []),xn (st 8 6 54),xo 7 (.mov (ci 1))])
 .ret)
 .skip))
 (rg [fo 55 5 11,lo 56 55,mo 57 13,xo 58 (.build [(.v (.string ⟨#[]⟩)),(.v (.bool false)),(vi 0),(.v (.bool false))] [(0,1,(.t 57))]),xo 59 (.bsl 80 4 1 [(.v (.string ⟨#[]⟩)),(.v (.bool false)),(vi 0),(.v (.bool false))] [(0,4,(.t 58))]),xo 60 (.app 80 4 40 (.t 56) (.t 59)),fo 61 5 11,xn (st 1 61 60)]))))
 (rg [xo 62 (bc .add 40 1),mo 40 62])))))))
 (sq (rg [xo 63 (lt 8 11),xn (st 8 6 63),xo 7 (.mov (ci 0))])
 .ret))))))))⟩
theorem qSR:trFn Tryz.prog 113 [([6],(fs [0,2,4] (.alt (.exec 1 (.exec 3 (.first 5 (.bring 6 (.exec 7 .nil))))) (.exec 3 (.exec 1 (.first 5 (.bring 6 (.exec 7 .nil))))))))] [[40]]=some qGS:=by kernel_rfl
abbrev qTJ:Nat:=114
def qtJ:FnI:=⟨47,[.tmp 4],
 (sq (rg [xo 2 (.box 63 (.t 0)),xo 3 (.box 63 (.t 1)),xo 4 (.mov (.b false))])
 (sq (sq (rg [fo 6 0 2,lo 7 6,fo 8 0 3,lo 9 8,xo 10 (.call 157 [(.t 7),(.t 9)]),xo 11 (.not (.t 10)),mo 12 11,xg 13 (fa 2 2) 12 false,xg 14 (lf 13) 12 false,xg 15 (fa 2 3) 12 false,xg 16 (lf 15) 12 false,xg 17 (.call 158 [(.t 14),(.t 16)]) 12 false,xg 18 (.not (.t 17)) 12 false,xo 19 (.pick (.t 12) (.b true) (.t 18)),mo 20 19,xg 21 (fa 1 2) 20 false,xg 22 (lf 21) 20 false,xg 23 (.len false (.t 22)) 20 false,xg 24 (fa 1 3) 20 false,xg 25 (lf 24) 20 false,xg 26 (.len false (.t 25)) 20 false,xg 27 (bi .neq 23 26) 20 false,xo 28 (.pick (.t 20) (.b true) (.t 27))])
 (cD 28
 (sq (rg [xo 4 (.mov (.b false))])
 .ret)
 .skip))
 (sq (sq (rg [xo 5 (.mov (ci 0))])
 (.block 0
 (.loop [5] [29,30,31,32,33,36,37,38,39,40,41,42,43,44,45,46,4,34,35,5]
 (sq (sq (rg [mo 29 5,fo 30 1 2,lo 31 30,xo 32 (.len false (.t 31)),xo 33 (bi .lss 29 32)])
 (cD 33
 .skip
 (.exit 0)))
 (sq (.block 1
 (sq (rd [] (of 0 (fo 36 1 2)
 (ot 1 (lo 37 36)
 (of 2 (mo 38 5)
 (ot 3 (xo 39 (ia 4 37 38))
 (ot 4 (xo 40 (lt 4 39))
 (of 5 (fo 41 1 3)
 (ot 6 (lo 42 41)
 (of 7 (mo 43 5)
 (ot 8 (xo 44 (ia 4 42 43))
 (ot 9 (xo 45 (lt 4 44))
 (of 10 (xo 46 (.binst true [0,1,1,0] (.t 40) (.t 45)))
 .nil))))))))))))
 (cD 46
 (sq (rg [xo 4 (.mov (.b false))])
 .ret)
 .skip)))
 (rg [mo 34 5,xo 35 (bc .add 34 1),mo 5 35]))))))
 (sq (rg [xo 4 (.mov (.b true))])
 .ret))))⟩
theorem q4I:trFn Tryz.prog 114 [([],(fs [0,1,2,3,4,5,6,7,8,9,10] .nil))] [[5]]=some qtJ:=by kernel_rfl
abbrev qQJ:Nat:=115
def qqJ:FnI:=⟨45,[.tmp 4],
 (sq (rg [xo 2 (.box 78 (.t 0)),xo 3 (.box 78 (.t 1)),xo 4 (.mov (.b false))])
 (sq (sq (rg [fo 6 0 2,lo 7 6,fo 8 0 3,lo 9 8,xo 10 (bi .neq 7 9),mo 11 10,xg 12 (fa 2 2) 11 false,xg 13 (lf 12) 11 false,xg 14 (fa 2 3) 11 false,xg 15 (lf 14) 11 false,xg 16 (bi .neq 13 15) 11 false,xo 17 (.pick (.t 11) (.b true) (.t 16)),mo 18 17,xg 19 (fa 1 2) 18 false,xg 20 (lf 19) 18 false,xg 21 (.len false (.t 20)) 18 false,xg 22 (fa 1 3) 18 false,xg 23 (lf 22) 18 false,xg 24 (.len false (.t 23)) 18 false,xg 25 (bi .neq 21 24) 18 false,xo 26 (.pick (.t 18) (.b true) (.t 25))])
 (cD 26
 (sq (rg [xo 4 (.mov (.b false))])
 .ret)
 .skip))
 (sq (sq (rg [xo 5 (.mov (ci 0))])
 (.block 0
 (.loop [5] [27,28,29,30,31,34,35,36,37,38,39,40,41,42,43,44,4,32,33,5]
 (sq (sq (rg [mo 27 5,fo 28 1 2,lo 29 28,xo 30 (.len false (.t 29)),xo 31 (bi .lss 27 30)])
 (cD 31
 .skip
 (.exit 0)))
 (sq (.block 1
 (sq (rd [] (of 0 (fo 34 1 2)
 (ot 1 (lo 35 34)
 (of 2 (mo 36 5)
 (ot 3 (xo 37 (ia 1 35 36))
 (ot 4 (lo 38 37)
 (of 5 (fo 39 1 3)
 (ot 6 (lo 40 39)
 (of 7 (mo 41 5)
 (ot 8 (xo 42 (ia 1 40 41))
 (ot 9 (lo 43 42)
 (of 10 (xo 44 (bi .neq 38 43))
 .nil))))))))))))
 (cD 44
 (sq (rg [xo 4 (.mov (.b false))])
 .ret)
 .skip)))
 (rg [mo 32 5,xo 33 (bc .add 32 1),mo 5 33]))))))
 (sq (rg [xo 4 (.mov (.b true))])
 .ret))))⟩
theorem q1I:trFn Tryz.prog 115 [([],(fs [0,1,2,3,4,5,6,7,8,9,10] .nil))] [[5]]=some qqJ:=by kernel_rfl
abbrev qXD:Nat:=116
def qVB:FnI:=⟨9,[.tmp 4],
 (sq (rg [xo 4 (.mov (.b false))])
 (sq (rg [mo 5 0,mo 6 1,xo 7 (.call 159 [(.t 5),(.t 6)]),xo 8 (bc .geq 7 0),mo 4 8])
 .ret))⟩
theorem qSD:trFn Tryz.prog 116 [] []=some qVB:=by kernel_rfl
abbrev qBM:Nat:=117
theorem qFM:FnOk Tryz.prog 117:=FnOk.of (by kernel_rfl)
def qOG:FnI:=⟨13,[.tmp 3],
 (sq (rg [xo 3 (.mov (.b false))])
 (sq (rg [mo 4 0,xo 5 (bc .lss 4 0),mo 6 5,xg 7 (mv 0) 6 false,xg 8 (fa 0 1) 6 false,xg 9 (lf 8) 6 false,xg 10 (bc .add 9 1) 6 false,xg 11 (bi .gtr 7 10) 6 false,xo 12 (.pick (.t 6) (.b true) (.t 11)),mo 3 12])
 .ret))⟩
theorem q7L:trFn Tryz.prog 117 [] []=some qOG:=by kernel_rfl
abbrev q6R:Nat:=118
def qMS:FnI:=⟨8,[.tmp 4],
 (sq (rg [xo 3 (.box 3 (.t 1)),xo 4 (.mov (.b false))])
 (sq (rg [mo 5 0,xo 6 (.mkf (.func 161) [] [(.t 3)]),xo 7 (.call 160 [(.t 5),(.t 6)]),mo 4 7])
 .ret))⟩
theorem qYR:trFn Tryz.prog 118 [] []=some qMS:=by kernel_rfl
abbrev qqU:Nat:=119
def q0U:FnI:=⟨13,[.tmp 2],
 (sq (rg [xo 1 (.box 63 (.t 0)),xo 2 (.mov (.b false))])
 (sq (rg [xo 6 (lt 3 1),xo 7 (.call 163 [(.t 6)]),xo 8 (.call 162 [(.t 7)]),mo 5 8,xo 9 (.ext 0 (.t 5)),xo 10 (.ext 1 (.t 5)),mo 3 9,mo 4 10])
 (sq (rg [mo 11 3,xo 12 (bc .eql 11 0),mo 2 12])
 .ret)))⟩
theorem q7T:trFn Tryz.prog 119 [] []=some q0U:=by kernel_rfl
abbrev qSL:Nat:=120
theorem qcL:FnOk Tryz.prog 120:=FnOk.of (by kernel_rfl)
def qUF:FnI:=⟨15,[.tmp 3],
 (sq (rg [xo 2 (.box 78 (.t 0)),xo 3 (.mov (.b false))])
 (sq (rg [xo 4 (lt 3 2),xo 5 (.call 63 [(.t 4)]),xo 6 (.not (.t 5)),mo 7 6,xg 8 (fa 1 2) 7 false,xg 9 (lf 8) 7 false,xg 10 (.len false (.t 9)) 7 false,xg 11 (fa 2 1) 7 false,xg 12 (lf 11) 7 false,xg 13 (bi .neq 10 12) 7 false,xo 14 (.pick (.t 7) (.b true) (.t 13)),mo 3 14])
 .ret))⟩
theorem q7K:trFn Tryz.prog 120 [] []=some qUF:=by kernel_rfl
abbrev q1B:Nat:=121
def qrA:FnI:=⟨9,[.tmp 4],
 (sq (rg [xo 4 (.mov (.b false))])
 (sq (rg [mo 5 0,mo 6 1,xo 7 (.call 164 [(.t 5),(.t 6)]),xo 8 (bc .geq 7 0),mo 4 8])
 .ret))⟩
theorem qyB:trFn Tryz.prog 121 [] []=some qrA:=by kernel_rfl
abbrev qdQ:Nat:=122
def q3Q:FnI:=⟨21,[.tmp 2],
 (sq (rg [xo 2 (.mov (.b false))])
 (sq (rg [mo 3 0,xo 4 (.len true (.t 3)),xo 5 (bc .gtr 4 0),mo 6 5,xg 7 (mv 0) 6 true,xg 8 (.len true (.t 7)) 6 true,xg 9 (bc .leq 8 16) 6 true,xo 10 (.pick (.t 6) (.t 9) (.b false)),mo 11 10,xg 12 (mv 0) 11 true,xg 13 (.idxs (.t 12) (ci 0)) 11 true,xg 14 (.call 165 [(.t 13)]) 11 true,xo 15 (.pick (.t 11) (.t 14) (.b false)),mo 16 15,xg 17 (.call 166 []) 16 true,xg 18 (mv 0) 16 true,xg 19 (.call 167 [(.t 17),(.t 18),(.c (.int .u8 (45)))]) 16 true,xo 20 (.pick (.t 16) (.t 19) (.b false)),mo 2 20])
 .ret))⟩
theorem q5P:trFn Tryz.prog 122 [] []=some q3Q:=by kernel_rfl
abbrev qnB:Nat:=123
def qjA:FnI:=⟨19,[.tmp 4],
 (sq (rg [xo 4 (.mov (ci 0))])
 (sq (sq (rg [mo 6 0,xo 7 (.len false (.t 6)),xo 8 (.mov (ci 0))])
 (.block 0
 (.loop [8] [9,10,5,11,12,13,14,15,16,17,4,18,8]
 (sq (rg [xo 9 (bi .lss 8 7)])
 (sq (cD 9
 .skip
 (.exit 0))
 (sq (.block 1
 (sq (rg [mo 10 8,mo 5 10])
 (sq (rg [mo 11 1,mo 12 0,mo 13 5,xo 14 (ia 4 12 13),xo 15 (lt 4 14),xo 16 (.callv (.t 11) [(.t 15)])])
 (cD 16
 (sq (rg [mo 17 5,mo 4 17])
 .ret)
 .skip))))
 (rg [xo 18 (bc .add 8 1),mo 8 18])))))))
 (sq (rg [xo 4 (.mov (ci (-1)))])
 .ret)))⟩
theorem qmB:trFn Tryz.prog 123 [] [[8]]=some qjA:=by kernel_rfl
abbrev q5M:Nat:=124
theorem qCN:FnOk Tryz.prog 124:=FnOk.of (by kernel_rfl)
def qaH:FnI:=⟨8,[.tmp 3],
 (sq (rg [xo 2 (.box 80 (.t 0)),xo 3 (.mov (.b false))])
 (sq (rg [fo 4 0 2,lo 5 4,lo 6 1,xo 7 (.bins .eql (.t 5) (.t 6)),mo 3 7])
 .ret))⟩
theorem qcM:trFn Tryz.prog 124 [] []=some qaH:=by kernel_rfl
abbrev qeC:Nat:=125
def qhC:FnI:=⟨29,[.tmp 6],
 (sq (rg [xo 5 (.box 116 (.t 2)),xo 6 (.mov (.c (.slice none 0 0)))])
 (sq (rg [mo 10 0,xo 11 (.len false (.t 10)),xo 12 (.msl 73 2 32 [(.int .u64 (0)),(.slice none 0 0)] (.t 11) (.t 11)),mo 7 12])
 (sq (sq (rg [mo 13 0,xo 14 (.len false (.t 13)),xo 15 (.mov (ci 0))])
 (.block 0
 (.loop [15] [16,17,18,19,9,8,20,21,22,23,24,25,26,27,15]
 (sq (rg [xo 16 (bi .lss 15 14)])
 (sq (cD 16
 .skip
 (.exit 0))
 (sq (.block 1
 (sq (rg [mo 17 15,xo 18 (ia 2 13 15),xo 19 (lt 2 18),xo 9 (.alloc 73 [(.v (.int .u64 (0))),(.v (.slice none 0 0))]),mo 8 17,xn (st 2 9 19)])
 (rg [mo 20 7,mo 21 8,mo 22 1,xo 23 (lt 0 5),xo 24 (lt 2 9),xo 25 (.callv (.t 22) [(.t 23),(.t 24)]),xo 26 (ia 2 20 21),xn (st 2 26 25)])))
 (rg [xo 27 (bc .add 15 1),mo 15 27])))))))
 (sq (rg [mo 28 7,mo 6 28])
 .ret))))⟩
theorem qaC:trFn Tryz.prog 125 [] [[15]]=some qhC:=by kernel_rfl
abbrev q0B:Nat:=126
def qSH:FnI:=⟨11,[.cell 4 2 true],
 (sq (rg [xo 2 (.box 116 (.t 0)),xo 3 (.box 73 (.t 1)),xo 4 (.alloc 73 [(.v (.int .u64 (0))),(.v (.slice none 0 0))])])
 (sq (rg [fo 5 1 3,lo 6 5,xo 7 (lt 0 2),xo 8 (.call 168 [(.t 6),(.c (.func (.func 169) #[] #[])),(.t 7)]),fo 9 1 3,xn (st 1 9 8)])
 (sq (rg [xo 10 (lt 2 3),xn (st 2 4 10)])
 .ret)))⟩
theorem qwG:trFn Tryz.prog 126 [] []=some qSH:=by kernel_rfl
abbrev qkD:Nat:=127
def qoD:FnI:=⟨8,[.tmp 2],
 (sq (rg [xo 2 (.mov (.c (.slice none 0 0)))])
 (sq (sq (rg [mo 3 0,xo 4 (.binn 0 false (.t 3))])
 (cD 4
 (sq (rg [xo 2 (.mov (.c (.slice none 0 0)))])
 .ret)
 .skip))
 (sq (rg [xo 5 (.bsl 36 1 0 [] []),mo 6 0,xo 7 (.app 36 1 8 (.t 5) (.t 6)),mo 2 7])
 .ret)))⟩
theorem qgD:trFn Tryz.prog 127 [] []=some qoD:=by kernel_rfl
abbrev qKJ:Nat:=128
def qUE:FnI:=⟨19,[.tmp 4],
 (sq (rg [xo 4 (.mov (ci 0))])
 (sq (sq (rg [mo 7 0,xo 8 (.len false (.t 7)),xo 9 (.mov (ci 0))])
 (.block 0
 (.loop [9] [10,11,12,13,5,6,14,15,16,17,4,18,9]
 (sq (rg [xo 10 (bi .lss 9 8)])
 (sq (cD 10
 .skip
 (.exit 0))
 (sq (.block 1
 (sq (rg [mo 11 9,xo 12 (ia 1 7 9),lo 13 12,mo 5 11,mo 6 13])
 (sq (rg [mo 14 1,mo 15 6,xo 16 (.callv (.t 14) [(.t 15)])])
 (cD 16
 (sq (rg [mo 17 5,mo 4 17])
 .ret)
 .skip))))
 (rg [xo 18 (bc .add 9 1),mo 9 18])))))))
 (sq (rg [xo 4 (.mov (ci (-1)))])
 .ret)))⟩
theorem qvI:trFn Tryz.prog 128 [] [[9]]=some qUE:=by kernel_rfl
abbrev qUL:Nat:=129
theorem qeL:FnOk Tryz.prog 129:=FnOk.of (by kernel_rfl)
def qWF:FnI:=⟨7,[.tmp 3],
 (sq (rg [xo 3 (.mov (.b false))])
 (sq (rg [mo 4 0,lo 5 1,xo 6 (.bins .eql (.t 4) (.t 5)),mo 3 6])
 .ret))⟩
theorem q9K:trFn Tryz.prog 129 [] []=some qWF:=by kernel_rfl
abbrev qCM:Nat:=130
def qPG:FnI:=⟨10,[.tmp 8],
 (sq (rg [xo 4 (.box 61 (.t 0)),xo 5 (.box 3 (.t 1)),xo 6 (.box 9 (.t 2)),xo 7 (.box 9 (.t 3)),xo 8 (.mov (.c .nilFunc))])
 (sq (rg [xo 9 (.mkf (.func 170) [] [(.t 4),(.t 5),(.t 6),(.t 7)]),mo 8 9])
 .ret))⟩
theorem q8L:trFn Tryz.prog 130 [] []=some qPG:=by kernel_rfl
abbrev qlN:Nat:=131
def qvN:FnI:=⟨26,[.tmp 8],
 (sq (rg [xo 8 (.mov (.b false))])
 (sq (sq (rg [mo 11 0,xo 12 (.call 172 [(.t 11)]),mo 13 2,xo 14 (.call 172 [(.t 13)]),mo 9 12,mo 10 14])
 (sq (rg [mo 15 9,mo 16 10,xo 17 (bi .neq 15 16)])
 (cD 17
 (sq (rg [mo 18 9,mo 19 10,xo 20 (bi .gtr 18 19),mo 8 20])
 .ret)
 .skip)))
 (sq (rg [mo 21 1,xo 22 (.len true (.t 21)),mo 23 3,xo 24 (.len true (.t 23)),xo 25 (bi .gtr 22 24),mo 8 25])
 .ret)))⟩
theorem qZN:trFn Tryz.prog 131 [] []=some qvN:=by kernel_rfl
abbrev qyM:Nat:=132
def qTH:FnI:=⟨4,[.tmp 2],
 (sq (rg [xo 1 (.box 70 (.t 0)),xo 2 (.mov (.c .nilFunc))])
 (sq (rg [xo 3 (.mkf (.func 173) [] [(.t 1)]),mo 2 3])
 .ret))⟩
theorem qVM:trFn Tryz.prog 132 [] []=some qTH:=by kernel_rfl
abbrev q1M:Nat:=133
theorem qAN:FnOk Tryz.prog 133:=FnOk.of (by kernel_rfl)
def qUH:FnI:=⟨44,[],
 (.scope
 (sq (rg [fo 5 1 1,lo 6 5,xo 7 (.len false (.t 6)),xo 8 (.msl 4 1 1 [(.bool false)] (.t 7) (.t 7)),mo 3 8])
 (sq (rg [fo 9 0 1,lo 10 9,xo 11 (.call 77 [(.t 10)]),mo 4 11])
 (sq (.label 0)
 (sq (.block 0
 (.loop [4] [12,13,14,15,16,17,18,19,20,21,22,23,24,25,26,27,28,4,29,30,31,32,33,34,35,36,37,38,39,40]
 (sq (sq (rg [mo 12 4,xo 13 (.bini .neq (.t 12) (ci (-1)))])
 (cD 13
 .skip
 (.exit 0)))
 (.block 1
 (sq (sq (rg [mo 14 4,xo 15 (bc .lss 14 0),mo 16 15,xg 17 (mv 4) 16 false,xg 18 (fa 1 1) 16 false,xg 19 (lf 18) 16 false,xg 20 (.len false (.t 19)) 16 false,xg 21 (bi .geq 17 20) 16 false,xo 22 (.pick (.t 16) (.b true) (.t 21)),mo 23 22,xg 24 (mv 3) 23 false,xg 25 (mv 4) 23 false,xg 26 (ia 1 24 25) 23 false,xg 27 (lf 26) 23 false,xo 28 (.pick (.t 23) (.b true) (.t 27))])
 (cD 28
 (sq (rg [xo 4 (.mov (ci (-2)))])
 (.exit 0))
 .skip))
 (sq (rg [mo 29 3,mo 30 4,xo 31 (ia 1 29 30),xn (.store 1 (.t 31) (.b true))])
 (sq (sq (rg [mo 32 0,mo 33 4,xo 34 (.callv (.t 32) [(.t 33)]),xo 35 (.not (.t 34))])
 (cD 35
 .ret
 .skip))
 (rg [fo 36 1 1,lo 37 36,mo 38 4,xo 39 (ia 1 37 38),lo 40 39,mo 4 40]))))))))
 (rg [mo 41 0,mo 42 4,xo 43 (.callv (.t 41) [(.t 42)])]))))))⟩
theorem qYM:trFn Tryz.prog 133 [] [[4]]=some qUH:=by kernel_rfl
abbrev qbT:Nat:=134
def qpT:FnI:=⟨19,[.tmp 4,.tmp 5],
 (sq (rg [xo 4 (.mov (.c (.int .u64 (0)))),xo 5 (.mov (ci 0))])
 (sq (sq (rg [mo 6 1,xo 7 (.bini .lss (.t 6) (ci (-1))),mo 8 7,xg 9 (mv 1) 8 false,xg 10 (bc .gtr 9 2147483646) 8 false,xo 11 (.pick (.t 8) (.b true) (.t 10))])
 (cD 11
 (sq (rg [xo 4 (.mov (.c (.int .u64 (0)))),xo 5 (.mov (ci 1))])
 .ret)
 .skip))
 (sq (rg [mo 12 0,xo 13 (.conv .u64 (.t 12)),xo 14 (.bini .shl (.t 13) (.c (.int .u64 (32)))),mo 15 1,xo 16 (.bini .sub (.t 15) (ci (-1))),xo 17 (.conv .u64 (.t 16)),xo 18 (bi .or 14 17),mo 4 18,xo 5 (.mov (ci 0))])
 .ret)))⟩
theorem q6S:trFn Tryz.prog 134 [] []=some qpT:=by kernel_rfl
abbrev qpU:Nat:=135
def qzU:FnI:=⟨6,[.tmp 2],
 (sq (rg [xo 2 (.mov (.c (.int .u32 (0))))])
 (sq (rg [mo 3 0,xo 4 (.bini .shr (.t 3) (.c (.int .u64 (32)))),xo 5 (.conv .u32 (.t 4)),mo 2 5])
 .ret))⟩
theorem q6T:trFn Tryz.prog 135 [] []=some qzU:=by kernel_rfl
abbrev qYK:Nat:=136
def quK:FnI:=⟨6,[.tmp 2],
 (sq (rg [xo 2 (.mov (.c (.int .u32 (0))))])
 (sq (rg [mo 3 0,xo 4 (.bini .quo (.t 3) (.c (.int .u64 (4294967296)))),xo 5 (.conv .u32 (.t 4)),mo 2 5])
 .ret))⟩
theorem qAK:trFn Tryz.prog 136 [] []=some quK:=by kernel_rfl
abbrev qZJ:Nat:=137
def qzJ:FnI:=⟨16,[.tmp 4,.tmp 5],
 (sq (rg [xo 4 (.mov (.c (.int .u64 (0)))),xo 5 (.mov (ci 0))])
 (sq (sq (rg [mo 6 1,xo 7 (.call 174 [(.t 6)]),xo 8 (.not (.t 7))])
 (cD 8
 (sq (rg [xo 4 (.mov (.c (.int .u64 (0)))),xo 5 (.mov (ci 1))])
 .ret)
 .skip))
 (sq (rg [mo 9 0,xo 10 (.conv .u64 (.t 9)),xo 11 (.bini .mul (.t 10) (.c (.int .u64 (4294967296)))),mo 12 1,xo 13 (bc .add 12 1),xo 14 (.conv .u64 (.t 13)),xo 15 (bi .add 11 14),mo 4 15,xo 5 (.mov (ci 0))])
 .ret)))⟩
theorem qAJ:trFn Tryz.prog 137 [] []=some qzJ:=by kernel_rfl
abbrev q0F:Nat:=138
theorem qVP:FnOk Tryz.prog 138:=FnOk.of (by kernel_rfl)
def qmK:FnI:=⟨17,[.cell 4 23 true],
 (sq (rg [xo 4 (.alloc 44 zl1)])
 (sq (rg [mo 5 1,mo 6 1,mo 7 0,xo 8 (nk 7),fo 9 0 8,lo 10 9,xo 11 (nk 5),fo 12 12 11,xn (st 1 12 10),xo 13 (nk 6),fo 14 11 13,xn (.store 1 (.t 14) (ci 1))])
 (sq (rg [mo 15 0,xo 16 (.call 139 [(.t 15)]),xn (st 23 4 16)])
 .ret)))⟩
theorem qnO:trFn Tryz.prog 138 [] []=some qmK:=by kernel_rfl
abbrev qeT:Nat:=139
def qWO:FnI:=⟨8,[.cell 2 23 true],
 (sq (rg [xo 2 (.alloc 44 zl1)])
 (sq (rg [mo 3 0,xo 4 (nk 3),fo 5 0 4,lo 6 5,xo 7 (.build zl1 [(2,1,(ci 1)),(3,1,(ci 1)),(6,1,(.t 6))]),xn (st 23 2 7)])
 .ret))⟩
theorem q9S:trFn Tryz.prog 139 [] []=some qWO:=by kernel_rfl
abbrev qzF:Nat:=140
theorem qUP:FnOk Tryz.prog 140:=FnOk.of (by kernel_rfl)
def qlK:FnI:=⟨28,[.cell 4 23 true],
 (sq (rg [xo 4 (.alloc 44 zl1)])
 (sq (rd [] (of 0 (mo 5 0)
 (of 1 (xo 6 (nk 5))
 (of 2 (fo 7 3 6)
 (ot 3 (lo 8 7)
 (of 4 (mo 9 1)
 (of 5 (xo 10 (nk 9))
 (of 6 (fo 11 10 10)
 (ot 7 (lo 12 11)
 (of 9 (mo 14 1)
 (of 10 (xo 15 (nk 14))
 (of 11 (fo 16 12 15)
 (ot 12 (lo 17 16)
 (of 13 (xo 18 (bc .add 17 1))
 (ot 14 (xo 19 (ia 1 8 12))
 (of 8 (mo 13 1)
 (of 15 (xn (st 1 19 18))
 (of 16 (xo 20 (nk 13))
 (of 17 (fo 21 11 20)
 (of 18 (xn (.store 1 (.t 21) (ci 2)))
 .nil))))))))))))))))))))
 (sq (rg [mo 22 1,xo 23 (nk 22),fo 24 12 23,lo 25 24,xo 26 (bc .add 25 1),xo 27 (.build zl1 [(2,1,(ci 2)),(3,1,(ci 2)),(6,1,(.t 26))]),xn (st 23 4 27)])
 .ret)))⟩
theorem qmO:trFn Tryz.prog 140 [([],(fs [0,1,2,3,4,5,6,7,9,10,11,12,13,14,8] (.exec 15 (.first 16 (.first 17 (.exec 18 .nil))))))] []=some qlK:=by kernel_rfl
abbrev qyF:Nat:=141
theorem qTP:FnOk Tryz.prog 141:=FnOk.of (by kernel_rfl)
def qkK:FnI:=⟨29,[.cell 4 23 true],
 (sq (rg [xo 4 (.alloc 44 zl1)])
 (sq (rg [mo 5 1,xo 6 (nk 5),fo 7 11 6,xn (.store 1 (.t 7) (ci 1))])
 (sq (sq (rd [] (of 0 (mo 8 0)
 (of 1 (xo 9 (nk 8))
 (of 2 (fo 10 0 9)
 (ot 3 (lo 11 10)
 (of 4 (mo 12 1)
 (of 5 (xo 13 (nk 12))
 (of 6 (fo 14 12 13)
 (ot 7 (lo 15 14)
 (of 8 (xo 16 (bi .eql 11 15))
 .nil))))))))))
 (cD 16
 (rg [mo 17 1,xo 18 (nk 17),fo 19 11 18,xn (.store 1 (.t 19) (ci 3))])
 .skip))
 (sq (rg [mo 20 1,mo 21 0,xo 22 (nk 21),fo 23 0 22,lo 24 23,xo 25 (nk 20),fo 26 12 25,xn (st 1 26 24)])
 (sq (rg [mo 27 0,xo 28 (.call 139 [(.t 27)]),xn (st 23 4 28)])
 .ret)))))⟩
theorem qlO:trFn Tryz.prog 141 [([],(fs [0,1,2,3,4,5,6,7,8] .nil))] []=some qkK:=by kernel_rfl
abbrev qKI:Nat:=142
def qcI:FnI:=⟨18,[.cell 8 23 true],
 (sq (rg [xo 4 (.box 98 (.t 0)),xo 8 (.alloc 44 zl1)])
 (sq (rg [fo 9 1 4,lo 10 9,xo 11 (nk 10),fo 12 10 11,lo 13 12,mo 14 1,mo 15 2,mo 16 3,xo 17 (.build zl1 [(0,1,(.t 13)),(2,1,(.t 14)),(3,1,(.t 15)),(4,1,(ci (-1))),(6,1,(.t 16))]),xn (st 23 8 17)])
 .ret))⟩
theorem q1H:trFn Tryz.prog 142 [] []=some qcI:=by kernel_rfl
abbrev qaJ:Nat:=143
def qXE:FnI:=⟨14,[],
 (sq (rg [xo 2 (.box 98 (.t 0))])
 (rd [] (of 0 (fo 4 1 2)
 (ot 1 (lo 5 4)
 (of 4 (mo 8 1)
 (of 5 (xo 9 (.build zl2 [(0,1,(.t 8))]))
 (of 6 (xo 10 (nk 5))
 (of 7 (fo 11 25 10)
 (of 2 (fo 6 1 2)
 (ot 3 (lo 7 6)
 (.op ⟨8,false,[3],xn (st 13 11 9)⟩
 (of 9 (xo 12 (nk 7))
 (of 10 (fo 13 11 12)
 (of 11 (xn (.store 1 (.t 13) (ci 20)))
 .nil))))))))))))))⟩
theorem qBJ:trFn Tryz.prog 143 [([],(fs [0,1,4,5,6,7,2,3] (.exec 8 (.first 9 (.first 10 (.exec 11 .nil))))))] []=some qXE:=by kernel_rfl
abbrev qJI:Nat:=144
def q0D:FnI:=⟨89,[],
 (sq (rg [xo 1 (.box 98 (.t 0))])
 (sq (rg [fo 7 1 1,lo 8 7,mo 2 8])
 (sq (rd [] (of 0 (fo 10 0 1)
 (ot 1 (lo 11 10)
 (of 2 (xo 12 (nk 11))
 (of 3 (fo 13 4 12)
 (ot 4 (lo 14 13)
 (of 5 (mo 15 2)
 (of 6 (xo 16 (nk 15))
 (of 7 (fo 17 13 16)
 (ot 8 (lo 18 17)
 (ot 9 (xo 19 (ia 5 14 18))
 (of 10 (fo 20 0 19)
 (ot 11 (xo 21 (lt 3 20))
 (of 12 (mo 22 2)
 (of 13 (xo 23 (nk 22))
 (of 14 (fo 24 0 23)
 (of 15 (fo 25 1 24)
 (ot 16 (lo 26 25)
 (of 17 (mo 27 2)
 (of 18 (xo 28 (nk 27))
 (of 19 (fo 29 0 28)
 (of 20 (fo 30 2 29)
 (ot 21 (lo 31 30)
 (of 22 (mo 32 2)
 (of 23 (xo 33 (nk 32))
 (of 24 (fo 34 0 33)
 (of 25 (fo 35 3 34)
 (ot 26 (lo 36 35)
 (of 27 (xo 37 (.call 27 [(.t 21),(.t 26),(.t 31),(.t 36)]))
 (of 28 (mo 9 37)
 (of 29 (xo 38 (.ext 0 (.t 9)))
 (of 30 (xo 39 (.ext 1 (.t 9)))
 (of 31 (mo 3 38)
 (of 32 (mo 4 39)
 .nil))))))))))))))))))))))))))))))))))
 (sq (sq (rg [mo 40 4,xo 41 (bc .neq 40 0)])
 (cD 41
 (sq (rg [xo 42 (lt 2 1),xo 43 (.call 143 [(.t 42),(ci 2)])])
 .ret)
 .skip))
 (sq (rg [mo 44 2,mo 45 3,xo 46 (nk 44),fo 47 15 46,xn (st 1 47 45)])
 (sq (rd [] (ot 0 (xo 49 (lt 2 1))
 (of 2 (mo 51 2)
 (of 3 (xo 52 (nk 51))
 (of 4 (fo 53 0 52)
 (of 5 (fo 54 4 53)
 (ot 6 (lo 55 54)
 (of 7 (mo 56 2)
 (of 8 (xo 57 (nk 56))
 (of 9 (fo 58 0 57)
 (of 10 (fo 59 5 58)
 (ot 11 (lo 60 59)
 (of 1 (xo 50 (.call 146 [(.t 49)]))
 (of 12 (xo 61 (.call 75 [(.t 50),(.t 55),(.t 60)]))
 (of 13 (mo 48 61)
 (of 14 (xo 62 (.ext 0 (.t 48)))
 (of 15 (xo 63 (.ext 1 (.t 48)))
 (of 16 (xo 64 (.ext 2 (.t 48)))
 (of 17 (mo 5 62)
 (of 18 (mo 6 63)
 (of 19 (mo 4 64)
 .nil)))))))))))))))))))))
 (.block 0
 (sq (rg [mo 77 4,xo 78 (bc .neq 77 0),mo 76 78])
 (cD 76
 (rg [xo 79 (lt 2 1),xo 80 (.call 143 [(.t 79),(ci 3)])])
 (sq (rg [xo 82 (lt 2 1),xo 83 (.call 146 [(.t 82)]),xo 84 (.fld 1 1 false (.t 83)),xo 85 (bc .eql 84 1),mo 81 85])
 (cD 81
 (rg [mo 86 2,xo 87 (nk 86),fo 88 11 87,xn (.store 1 (.t 88) (ci 6))])
 (rg [mo 65 2,mo 66 2,mo 67 2,mo 68 5,mo 69 6,xo 70 (nk 65),fo 71 16 70,xn (st 1 71 68),xo 72 (nk 66),fo 73 17 72,xn (st 1 73 69),xo 74 (nk 67),fo 75 11 74,xn (.store 1 (.t 75) (ci 7))]))))))))))))⟩
theorem q0H:trFn Tryz.prog 144 [([],(fs [0,1,2,3,4,5,6,7,8,9,10,11,12,13,14,15,16,17,18,19,20,21,22,23,24,25,26] (.exec 27 (fs [28,29,30,31,32] .nil)))),([],(fs [0,2,3,4,5,6,7,8,9,10,11] (.exec 1 (.exec 12 (fs [13,14,15,16,17,18,19] .nil)))))] []=some q0D:=by kernel_rfl
abbrev qLI:Nat:=145
def qdI:FnI:=⟨22,[.tmp 2],
 (sq (rg [xo 1 (.box 98 (.t 0)),xo 2 (.mov (.c (.pointer none)))])
 (sq (rd [] (of 0 (fo 3 0 1)
 (ot 1 (lo 4 3)
 (of 2 (xo 5 (nk 4))
 (of 3 (fo 6 4 5)
 (ot 4 (lo 7 6)
 (of 5 (fo 8 1 1)
 (ot 6 (lo 9 8)
 (of 7 (xo 10 (nk 9))
 (of 8 (fo 11 13 10)
 (ot 9 (lo 12 11)
 (ot 10 (xo 13 (ia 5 7 12))
 (of 11 (fo 14 3 13)
 (ot 12 (lo 15 14)
 (of 13 (fo 16 1 1)
 (ot 14 (lo 17 16)
 (of 15 (xo 18 (nk 17))
 (of 16 (fo 19 15 18)
 (ot 17 (lo 20 19)
 (ot 18 (xo 21 (ia 2 15 20))
 (of 19 (mo 2 21)
 .nil)))))))))))))))))))))
 .ret))⟩
theorem q3H:trFn Tryz.prog 145 [([],(fs [0,1,2,3,4,5,6,7,8,9,10,11,12,13,14,15,16,17,18,19] .nil))] []=some qdI:=by kernel_rfl
abbrev qgG:Nat:=146
def qoG:FnI:=⟨24,[.cell 2 4 true],
 (sq (rg [xo 1 (.box 98 (.t 0)),xo 2 (.alloc 70 [(.v (.string ⟨#[]⟩)),(vi 0),(vi 0),(.v (.slice none 0 0))])])
 (sq (rd [] (of 0 (fo 3 0 1)
 (ot 1 (lo 4 3)
 (of 2 (xo 5 (nk 4))
 (of 3 (fo 6 4 5)
 (ot 4 (lo 7 6)
 (of 5 (fo 8 1 1)
 (ot 6 (lo 9 8)
 (of 7 (xo 10 (nk 9))
 (of 8 (fo 11 13 10)
 (ot 9 (lo 12 11)
 (ot 10 (xo 13 (ia 5 7 12))
 (of 11 (fo 14 0 13)
 (of 12 (fo 15 2 14)
 (ot 13 (lo 16 15)
 (of 14 (fo 17 1 1)
 (ot 15 (lo 18 17)
 (of 16 (xo 19 (nk 18))
 (of 17 (fo 20 15 19)
 (ot 18 (lo 21 20)
 (ot 19 (xo 22 (ia 4 16 21))
 (ot 20 (xo 23 (lt 4 22))
 (of 21 (xn (st 4 2 23))
 .nil)))))))))))))))))))))))
 .ret))⟩
theorem qXG:trFn Tryz.prog 146 [([],(fs [0,1,2,3,4,5,6,7,8,9,10,11,12,13,14,15,16,17,18,19,20] (.exec 21 .nil)))] []=some qoG:=by kernel_rfl
abbrev qZK:Nat:=147
def qvK:FnI:=⟨36,[.cell 8 23 true],
 (sq (rg [xo 4 (.box 98 (.t 0)),xo 8 (.alloc 44 zl1)])
 (sq (rg [xo 10 (lt 2 4),mo 11 1,mo 12 2,mo 13 3,xo 14 (.call 142 [(.t 10),(.t 11),(.t 12),(.t 13)]),xo 9 (.alloc 44 zl1),xn (st 23 9 14)])
 (sq (rd [] (of 0 (fo 15 1 4)
 (ot 1 (lo 16 15)
 (of 2 (xo 17 (nk 16))
 (of 3 (fo 18 13 17)
 (ot 4 (lo 19 18)
 (of 18 (fo 33 4 9)
 (of 5 (fo 20 0 4)
 (of 10 (fo 25 1 4)
 (ot 6 (lo 21 20)
 (of 7 (xo 22 (nk 21))
 (of 8 (fo 23 4 22)
 (ot 9 (lo 24 23)
 (ot 11 (lo 26 25)
 (of 12 (xo 27 (nk 26))
 (of 13 (fo 28 13 27)
 (ot 14 (lo 29 28)
 (ot 15 (xo 30 (ia 5 24 29))
 (of 16 (fo 31 4 30)
 (ot 17 (lo 32 31)
 (.op ⟨19,false,[17,15,14,11,9,6],xn (st 1 33 19)⟩
 (of 20 (fo 34 5 9)
 (of 21 (xn (st 1 34 32))
 .nil)))))))))))))))))))))))
 (sq (rg [xo 35 (lt 23 9),xn (st 23 8 35)])
 .ret))))⟩
theorem qBK:trFn Tryz.prog 147 [([],(fs [0,1,2,3,4,18,5,10,6,7,8,9,11,12,13,14,15,16,17] (.exec 19 (.first 20 (.exec 21 .nil)))))] []=some qvK:=by kernel_rfl
abbrev qaK:Nat:=148
def qwK:FnI:=⟨14,[.tmp 2],
 (sq (rg [xo 1 (.box 98 (.t 0)),xo 2 (.mov (.c (.pointer none)))])
 (sq (rd [] (ot 0 (xo 3 (lt 2 1))
 (of 5 (fo 8 1 1)
 (ot 6 (lo 9 8)
 (of 7 (xo 10 (nk 9))
 (of 8 (fo 11 16 10)
 (ot 9 (lo 12 11)
 (of 1 (xo 4 (.call 145 [(.t 3)]))
 (of 2 (xo 5 (nk 4))
 (of 3 (fo 6 1 5)
 (ot 4 (lo 7 6)
 (ot 10 (xo 13 (ia 3 7 12))
 (of 11 (mo 2 13)
 .nil)))))))))))))
 .ret))⟩
theorem qCK:trFn Tryz.prog 148 [([],(fs [0,5,6,7,8,9] (.exec 1 (fs [2,3,4,10,11] .nil))))] []=some qwK:=by kernel_rfl
abbrev qrU:Nat:=149
def q1U:FnI:=⟨23,[.cell 4 8 true,.cell 5 23 true],
 (sq (rg [xo 2 (.box 28 (.t 0)),xo 3 (.box 41 (.t 1)),xo 4 (.alloc 28 [(vi 0),(vi 0),(vi 0),(.v (.slice none 0 0)),(.v (.slice none 0 0)),(.v (.slice none 0 0)),(.v (.slice none 0 0)),(.v (.slice none 0 0))]),xo 5 (.alloc 44 zl1)])
 (sq (sq (rg [xo 6 (lt 8 2),xo 7 (lt 44 3),xo 8 (.call 21 [(.t 6),(.t 7)]),xo 9 (.not (.t 8))])
 (cD 9
 (sq (rg [xo 10 (lt 8 2),xo 11 (.build zl1 []),xn (st 8 4 10),xn (st 23 5 11)])
 .ret)
 .skip))
 (sq (rg [xo 12 (lt 8 2),xo 13 (.call 26 [(.t 12)]),xn (st 8 2 13)])
 (sq (rg [fo 14 3 2,lo 15 14,fo 16 10 3,lo 17 16,xo 18 (ia 1 15 17),xn (.store 1 (.t 18) (ci 0))])
 (sq (rd [] (ot 0 (xo 19 (lt 8 2))
 (of 1 (fo 20 10 3)
 (ot 2 (lo 21 20)
 (of 3 (xo 22 (.build zl1 [(0,1,(.t 21)),(2,1,(ci 2)),(3,1,(ci 2)),(4,1,(ci (-1)))]))
 (.op ⟨4,false,[2],xn (st 8 4 19)⟩
 (of 5 (xn (st 23 5 22))
 .nil)))))))
 .ret)))))⟩
theorem q8T:trFn Tryz.prog 149 [([],(fs [0,1,2,3] (.exec 4 (.exec 5 .nil))))] []=some q1U:=by kernel_rfl
abbrev qaL:Nat:=150
def qlL:FnI:=⟨24,[.tmp 2],
 (sq (rg [xo 2 (.mov (.b false))])
 (sq (sq (rg [xo 3 (.mov (ci 0))])
 (.block 0
 (.loop [3] [4,5,6,7,10,11,12,13,14,15,2,8,9,3]
 (sq (sq (rg [mo 4 3,mo 5 0,xo 6 (.len false (.t 5)),xo 7 (bi .lss 4 6)])
 (cD 7
 .skip
 (.exit 0)))
 (sq (.block 1
 (sq (rg [mo 10 0,mo 11 3,xo 12 (ia 1 10 11),lo 13 12,xo 14 (.len false (.t 13)),xo 15 (bc .neq 14 6)])
 (cD 15
 (sq (rg [xo 2 (.mov (.b false))])
 .ret)
 .skip)))
 (rg [mo 8 3,xo 9 (bc .add 8 1),mo 3 9]))))))
 (sq (rg [mo 16 0,xo 17 (.len false (.t 16)),xo 18 (bc .geq 17 1),mo 19 18,xg 20 (mv 0) 19 true,xg 21 (.len false (.t 20)) 19 true,xg 22 (bc .leq 21 8) 19 true,xo 23 (.pick (.t 19) (.t 22) (.b false)),mo 2 23])
 .ret)))⟩
theorem qFL:trFn Tryz.prog 150 [] [[3]]=some qlL:=by kernel_rfl
abbrev q9H:Nat:=151
def qSI:FnI:=⟨101,[.tmp 2],
 (sq (rg [xo 1 (.box 28 (.t 0)),xo 2 (.mov (.b false))])
 (sq (sq (rg [xo 3 (.mov (ci 0))])
 (.block 0
 (.loop [3] [7,8,9,10,11,14,15,16,17,18,19,20,21,22,23,24,25,26,27,28,29,31,30,32,33,2,12,13,3]
 (sq (sq (rg [mo 7 3,fo 8 5 1,lo 9 8,xo 10 (.len false (.t 9)),xo 11 (bi .lss 7 10)])
 (cD 11
 .skip
 (.exit 0)))
 (sq (.block 1
 (sq (rd [] (of 0 (fo 14 5 1)
 (ot 1 (lo 15 14)
 (of 2 (mo 16 3)
 (ot 3 (xo 17 (ia 4 15 16))
 (ot 4 (xo 18 (lt 4 17))
 (of 5 (xo 19 (.call 175 [(.t 18)]))
 (of 6 (xo 20 (.not (.t 19)))
 (of 7 (mo 21 20)
 (of 8 (xg 22 (fa 5 1) 21 false)
 (ot 9 (xg 23 (lf 22) 21 false)
 (of 10 (xg 24 (fa 5 1) 21 false)
 (ot 11 (xg 25 (lf 24) 21 false)
 (of 12 (xg 26 (mv 3) 21 false)
 (ot 13 (xg 27 (ia 4 25 26) 21 false)
 (of 14 (xg 28 (fa 0 27) 21 false)
 (ot 15 (xg 29 (lf 28) 21 false)
 (of 17 (xg 31 (mv 3) 21 false)
 (of 16 (xg 30 (.call 104 [(.t 23),(.t 29)]) 21 false)
 (of 18 (xg 32 (bi .neq 30 31) 21 false)
 (of 19 (xo 33 (.pick (.t 21) (.b true) (.t 32)))
 .nil)))))))))))))))))))))
 (cD 33
 (sq (rg [xo 2 (.mov (.b false))])
 .ret)
 .skip)))
 (rg [mo 12 3,xo 13 (bc .add 12 1),mo 3 13]))))))
 (sq (sq (rg [xo 4 (.mov (ci 0))])
 (.block 2
 (.loop [4] [34,35,36,37,38,41,42,43,44,45,46,47,48,49,50,51,52,53,54,55,56,57,58,59,60,2,39,40,4]
 (sq (sq (rg [mo 34 4,fo 35 4 1,lo 36 35,xo 37 (.len false (.t 36)),xo 38 (bi .lss 34 37)])
 (cD 38
 .skip
 (.exit 2)))
 (sq (.block 3
 (sq (rd [] (of 0 (fo 41 4 1)
 (ot 1 (lo 42 41)
 (of 2 (mo 43 4)
 (ot 3 (xo 44 (ia 5 42 43))
 (ot 4 (xo 45 (lt 5 44))
 (of 5 (xo 46 (.call 176 [(.t 45)]))
 (of 6 (xo 47 (.not (.t 46)))
 (of 7 (mo 48 47)
 (of 8 (xg 49 (fa 4 1) 48 false)
 (ot 9 (xg 50 (lf 49) 48 false)
 (of 10 (xg 51 (mv 4) 48 false)
 (ot 11 (xg 52 (ia 5 50 51) 48 false)
 (of 12 (xg 53 (fa 4 52) 48 false)
 (ot 13 (xg 54 (lf 53) 48 false)
 (of 14 (xg 55 (fa 7 1) 48 false)
 (ot 15 (xg 56 (lf 55) 48 false)
 (of 16 (xg 57 (mv 4) 48 false)
 (of 17 (xg 58 (.call 177 [(.t 56),(.t 57)]) 48 false)
 (of 18 (xg 59 (.binb true (.t 54) (.t 58)) 48 false)
 (of 19 (xo 60 (.pick (.t 48) (.b true) (.t 59)))
 .nil)))))))))))))))))))))
 (cD 60
 (sq (rg [xo 2 (.mov (.b false))])
 .ret)
 .skip)))
 (rg [mo 39 4,xo 40 (bc .add 39 1),mo 4 40]))))))
 (sq (sq (rg [xo 5 (.mov (ci 0))])
 (.block 4
 (.loop [5] [61,62,63,64,65,68,69,70,71,72,6,73,74,75,76,77,78,79,80,81,82,83,84,85,86,87,88,89,90,91,92,93,94,95,96,97,2,66,67,5]
 (sq (sq (rg [mo 61 5,fo 62 7 1,lo 63 62,xo 64 (.len false (.t 63)),xo 65 (bi .lss 61 64)])
 (cD 65
 .skip
 (.exit 4)))
 (sq (.block 5
 (sq (rg [fo 68 7 1,lo 69 68,mo 70 5,xo 71 (ia 3 69 70),xo 72 (lt 3 71),xo 6 (.alloc 109 [(vi 0),(vi 0),(.v (.bool false))]),xn (st 3 6 72)])
 (sq (rg [fo 73 0 6,lo 74 73,xo 75 (bc .lss 74 0),mo 76 75,xg 77 (fa 0 6) 76 false,xg 78 (lf 77) 76 false,xg 79 (fa 4 1) 76 false,xg 80 (lf 79) 76 false,xg 81 (.len false (.t 80)) 76 false,xg 82 (bi .geq 78 81) 76 false,xo 83 (.pick (.t 76) (.b true) (.t 82)),mo 84 83,xg 85 (fa 0 6) 84 false,xg 86 (lf 85) 84 false,xg 87 (fa 1 1) 84 false,xg 88 (lf 87) 84 false,xg 89 (bi .eql 86 88) 84 false,xo 90 (.pick (.t 84) (.b true) (.t 89)),mo 91 90,xg 92 (fa 1 6) 91 false,xg 93 (lf 92) 91 false,xg 94 (fa 0 1) 91 false,xg 95 (lf 94) 91 false,xg 96 (bi .gtr 93 95) 91 false,xo 97 (.pick (.t 91) (.b true) (.t 96))])
 (cD 97
 (sq (rg [xo 2 (.mov (.b false))])
 .ret)
 .skip))))
 (rg [mo 66 5,xo 67 (bc .add 66 1),mo 5 67]))))))
 (sq (rg [fo 98 7 1,lo 99 98,xo 100 (.call 178 [(.t 99)]),mo 2 100])
 .ret)))))⟩
theorem qpH:trFn Tryz.prog 151 [([],(fs [0,1,2,3,4] (.exec 5 (fs [6,7,8,9,10,11,12,13,14,15,17] (.exec 16 (.first 18 (.first 19 .nil))))))),([],(fs [0,1,2,3,4] (.exec 5 (fs [6,7,8,9,10,11,12,13,14,15,16] (.exec 17 (.first 18 (.first 19 .nil)))))))] [[3],[4],[5]]=some qSI:=by kernel_rfl
abbrev qEP:Nat:=155
def qhP:FnI:=⟨53,[.cell 2 5 true,.tmp 3],
 (sq (rg [xo 1 (.box 63 (.t 0)),xo 2 (.alloc 66 [(.v (.slice none 0 0)),(.v (.slice none 0 0)),(.v (.slice none 0 0)),(.v (.slice none 0 0)),(.v (.bool false))]),xo 3 (.mov (ci 0))])
 (sq (sq (rg [xo 10 (lt 3 1),xo 11 (.call 119 [(.t 10)]),xo 12 (.not (.t 11))])
 (cD 12
 (sq (rg [xo 13 (.build [(.v (.slice none 0 0)),(.v (.slice none 0 0)),(.v (.slice none 0 0)),(.v (.slice none 0 0)),(.v (.bool false))] []),xn (st 5 2 13),xo 3 (.mov (ci 1))])
 .ret)
 .skip))
 (sq (rg [xo 14 (lt 3 1),xo 15 (.build [(.v (.slice none 0 0)),(.v (.slice none 0 0)),(.v (.slice none 0 0)),(.v (.slice none 0 0)),(.v (.bool false))] [(0,3,(.t 14))]),xo 4 (.alloc 66 [(.v (.slice none 0 0)),(.v (.slice none 0 0)),(.v (.slice none 0 0)),(.v (.slice none 0 0)),(.v (.bool false))]),xn (st 5 4 15)])
 (sq (sq (rg [fo 16 2 1,lo 17 16,xo 18 (.len false (.t 17)),xo 19 (.mov (ci 0))])
 (.block 0
 (.loop [19] [20,21,22,6,7,23,24,25,26,27,29,30,31,28,32,33,8,9,34,35,36,37,3,38,39,40,41,42,43,44,45,46,47,48,49,50,51,19]
 (sq (rg [xo 20 (bi .lss 19 18)])
 (sq (cD 20
 .skip
 (.exit 0))
 (sq (.block 1
 (sq (rg [xo 21 (ia 4 17 19),xo 22 (lt 4 21),xo 6 (.alloc 70 [(.v (.string ⟨#[]⟩)),(vi 0),(vi 0),(.v (.slice none 0 0))]),xn (st 4 6 22)])
 (sq (rg [xo 7 (.alloc 73 [(.v (.int .u64 (0))),(.v (.slice none 0 0))])])
 (sq (sq (rg [fo 23 3 6,lo 24 23,xo 25 (.len false (.t 24)),xo 26 (.mov (ci 0))])
 (.block 2
 (.loop [26] [27,29,30,31,28,32,33,8,9,34,35,36,37,3,38,39,40,41,42,43,44,26]
 (sq (rg [xo 27 (bi .lss 26 25)])
 (sq (cD 27
 .skip
 (.exit 2))
 (sq (.block 3
 (sq (rg [fo 29 2 6,lo 30 29,xo 31 (.call 182 [(.t 30)]),mo 28 31,xo 32 (.ext 0 (.t 28)),xo 33 (.ext 1 (.t 28)),xo 8 (.alloc 78 [(.v (.int .u64 (0))),(.v (.slice none 0 0)),(vi 0)]),xn (st 3 8 32),mo 9 33])
 (sq (sq (rg [mo 34 9,xo 35 (bc .neq 34 0)])
 (cD 35
 (sq (rg [xo 36 (.build [(.v (.slice none 0 0)),(.v (.slice none 0 0)),(.v (.slice none 0 0)),(.v (.slice none 0 0)),(.v (.bool false))] []),mo 37 9,xn (st 5 2 36),mo 3 37])
 .ret)
 .skip))
 (rg [fo 38 1 7,lo 39 38,xo 40 (lt 3 8),xo 41 (.bsl 78 3 1 [(.v (.int .u64 (0))),(.v (.slice none 0 0)),(vi 0)] [(0,3,(.t 40))]),xo 42 (.app 78 3 40 (.t 39) (.t 41)),fo 43 1 7,xn (st 1 43 42)]))))
 (rg [xo 44 (bc .add 26 1),mo 26 44])))))))
 (rg [fo 45 3 4,lo 46 45,xo 47 (lt 2 7),xo 48 (.bsl 73 2 1 [(.v (.int .u64 (0))),(.v (.slice none 0 0))] [(0,2,(.t 47))]),xo 49 (.app 73 2 32 (.t 46) (.t 48)),fo 50 3 4,xn (st 1 50 49)])))))
 (rg [xo 51 (bc .add 19 1),mo 19 51])))))))
 (sq (rg [xo 52 (lt 5 4),xn (st 5 2 52),xo 3 (.mov (ci 0))])
 .ret)))))⟩
theorem qfO:trFn Tryz.prog 155 [] [[19],[26]]=some qhP:=by kernel_rfl
abbrev q3R:Nat:=156
def qJS:FnI:=⟨25,[.tmp 2,.tmp 3],
 (sq (rg [xo 2 (.mov (.c (.slice none 0 0))),xo 3 (.mov (ci 0))])
 (sq (sq (rg [mo 6 0,xo 7 (bc .lss 6 1),mo 8 7,xg 9 (mv 0) 8 false,xg 10 (bc .gtr 9 8) 8 false,xo 11 (.pick (.t 8) (.b true) (.t 10))])
 (cD 11
 (sq (rg [xo 2 (.mov (.c (.slice none 0 0))),xo 3 (.mov (ci 1))])
 .ret)
 .skip))
 (sq (rg [mo 12 0,xo 13 (.msl 113 1 24 [(.slice none 0 0)] (.t 12) (.t 12)),mo 4 13])
 (sq (sq (rg [mo 14 4,xo 15 (.len false (.t 14)),xo 16 (.mov (ci 0))])
 (.block 0
 (.loop [16] [17,18,5,19,20,21,22,23,16]
 (sq (rg [xo 17 (bi .lss 16 15)])
 (sq (cD 17
 .skip
 (.exit 0))
 (sq (.block 1
 (sq (rg [mo 18 16,mo 5 18])
 (rg [mo 19 4,mo 20 5,xo 21 (.msl 36 1 8 [(.int .u64 (0))] (ci 6) (ci 6)),xo 22 (ia 1 19 20),xn (st 1 22 21)])))
 (rg [xo 23 (bc .add 16 1),mo 16 23])))))))
 (sq (rg [mo 24 4,mo 2 24,xo 3 (.mov (ci 0))])
 .ret)))))⟩
theorem qVR:trFn Tryz.prog 156 [] [[16]]=some qJS:=by kernel_rfl
abbrev qOF:Nat:=157
def qYF:FnI:=⟨26,[.tmp 4],
 (sq (rg [xo 4 (.mov (.b false))])
 (sq (sq (rg [mo 6 0,xo 7 (.len false (.t 6)),mo 8 1,xo 9 (.len false (.t 8)),xo 10 (bi .neq 7 9)])
 (cD 10
 (sq (rg [xo 4 (.mov (.b false))])
 .ret)
 .skip))
 (sq (sq (rg [xo 5 (.mov (ci 0))])
 (.block 0
 (.loop [5] [11,12,13,14,17,18,19,20,21,22,23,24,25,4,15,16,5]
 (sq (sq (rg [mo 11 5,mo 12 0,xo 13 (.len false (.t 12)),xo 14 (bi .lss 11 13)])
 (cD 14
 .skip
 (.exit 0)))
 (sq (.block 1
 (sq (rd [] (of 0 (mo 17 0)
 (of 1 (mo 18 5)
 (ot 2 (xo 19 (ia 1 17 18))
 (ot 3 (lo 20 19)
 (of 4 (mo 21 1)
 (of 5 (mo 22 5)
 (ot 6 (xo 23 (ia 1 21 22))
 (ot 7 (lo 24 23)
 (of 8 (xo 25 (.bins .neq (.t 20) (.t 24)))
 .nil))))))))))
 (cD 25
 (sq (rg [xo 4 (.mov (.b false))])
 .ret)
 .skip)))
 (rg [mo 15 5,xo 16 (bc .add 15 1),mo 5 16]))))))
 (sq (rg [xo 4 (.mov (.b true))])
 .ret))))⟩
theorem qEF:trFn Tryz.prog 157 [([],(fs [0,1,2,3,4,5,6,7,8] .nil))] [[5]]=some qYF:=by kernel_rfl
abbrev qSE:Nat:=158
def qWE:FnI:=⟨97,[.tmp 4],
 (sq (rg [xo 4 (.mov (.b false))])
 (sq (sq (rg [mo 7 0,xo 8 (.len false (.t 7)),mo 9 1,xo 10 (.len false (.t 9)),xo 11 (bi .neq 8 10)])
 (cD 11
 (sq (rg [xo 4 (.mov (.b false))])
 .ret)
 .skip))
 (sq (sq (rg [xo 5 (.mov (ci 0))])
 (.block 0
 (.loop [5] [12,13,14,15,18,19,20,21,22,23,24,25,26,27,28,29,30,31,32,33,34,35,36,37,38,39,40,41,42,43,44,45,46,47,48,49,50,51,52,53,54,55,56,57,58,59,60,61,62,63,64,65,66,67,68,69,4,6,70,71,72,73,74,75,76,77,80,81,82,83,84,85,86,87,88,89,90,91,92,93,94,95,96,78,79,16,17,5]
 (sq (sq (rg [mo 12 5,mo 13 0,xo 14 (.len false (.t 13)),xo 15 (bi .lss 12 14)])
 (cD 15
 .skip
 (.exit 0)))
 (sq (.block 1
 (sq (sq (rd [] (of 0 (mo 18 0)
 (of 1 (mo 19 5)
 (ot 2 (xo 20 (ia 4 18 19))
 (of 3 (fo 21 0 20)
 (ot 4 (lo 22 21)
 (of 5 (mo 23 1)
 (of 6 (mo 24 5)
 (ot 7 (xo 25 (ia 4 23 24))
 (of 8 (fo 26 0 25)
 (ot 9 (lo 27 26)
 (of 10 (xo 28 (.bins .neq (.t 22) (.t 27)))
 (of 11 (mo 29 28)
 (of 12 (xg 30 (mv 0) 29 false)
 (of 13 (xg 31 (mv 5) 29 false)
 (ot 14 (xg 32 (ia 4 30 31) 29 false)
 (of 15 (xg 33 (fa 1 32) 29 false)
 (ot 16 (xg 34 (lf 33) 29 false)
 (of 17 (xg 35 (mv 1) 29 false)
 (of 18 (xg 36 (mv 5) 29 false)
 (ot 19 (xg 37 (ia 4 35 36) 29 false)
 (of 20 (xg 38 (fa 1 37) 29 false)
 (ot 21 (xg 39 (lf 38) 29 false)
 (of 22 (xg 40 (bi .neq 34 39) 29 false)
 (of 23 (xo 41 (.pick (.t 29) (.b true) (.t 40)))
 (of 24 (mo 42 41)
 (of 25 (xg 43 (mv 0) 42 false)
 (of 26 (xg 44 (mv 5) 42 false)
 (ot 27 (xg 45 (ia 4 43 44) 42 false)
 (of 28 (xg 46 (fa 2 45) 42 false)
 (ot 29 (xg 47 (lf 46) 42 false)
 (of 30 (xg 48 (mv 1) 42 false)
 (of 31 (xg 49 (mv 5) 42 false)
 (ot 32 (xg 50 (ia 4 48 49) 42 false)
 (of 33 (xg 51 (fa 2 50) 42 false)
 (ot 34 (xg 52 (lf 51) 42 false)
 (of 35 (xg 53 (bi .neq 47 52) 42 false)
 (of 36 (xo 54 (.pick (.t 42) (.b true) (.t 53)))
 (of 37 (mo 55 54)
 (of 38 (xg 56 (mv 0) 55 false)
 (of 39 (xg 57 (mv 5) 55 false)
 (ot 40 (xg 58 (ia 4 56 57) 55 false)
 (of 41 (xg 59 (fa 3 58) 55 false)
 (ot 42 (xg 60 (lf 59) 55 false)
 (of 43 (xg 61 (.len false (.t 60)) 55 false)
 (of 44 (xg 62 (mv 1) 55 false)
 (of 45 (xg 63 (mv 5) 55 false)
 (ot 46 (xg 64 (ia 4 62 63) 55 false)
 (of 47 (xg 65 (fa 3 64) 55 false)
 (ot 48 (xg 66 (lf 65) 55 false)
 (of 49 (xg 67 (.len false (.t 66)) 55 false)
 (of 50 (xg 68 (bi .neq 61 67) 55 false)
 (of 51 (xo 69 (.pick (.t 55) (.b true) (.t 68)))
 .nil)))))))))))))))))))))))))))))))))))))))))))))))))))))
 (cD 69
 (sq (rg [xo 4 (.mov (.b false))])
 .ret)
 .skip))
 (sq (rg [xo 6 (.mov (ci 0))])
 (.block 2
 (.loop [6] [70,71,72,73,74,75,76,77,80,81,82,83,84,85,86,87,88,89,90,91,92,93,94,95,96,4,78,79,6]
 (sq (sq (rg [mo 70 6,mo 71 0,mo 72 5,xo 73 (ia 4 71 72),fo 74 3 73,lo 75 74,xo 76 (.len false (.t 75)),xo 77 (bi .lss 70 76)])
 (cD 77
 .skip
 (.exit 2)))
 (sq (.block 3
 (sq (rd [] (of 0 (mo 80 0)
 (of 1 (mo 81 5)
 (ot 2 (xo 82 (ia 4 80 81))
 (of 3 (fo 83 3 82)
 (ot 4 (lo 84 83)
 (of 5 (mo 85 6)
 (ot 6 (xo 86 (ia 1 84 85))
 (ot 7 (lo 87 86)
 (of 8 (mo 88 1)
 (of 9 (mo 89 5)
 (ot 10 (xo 90 (ia 4 88 89))
 (of 11 (fo 91 3 90)
 (ot 12 (lo 92 91)
 (of 13 (mo 93 6)
 (ot 14 (xo 94 (ia 1 92 93))
 (ot 15 (lo 95 94)
 (of 16 (xo 96 (.binb true (.t 87) (.t 95)))
 .nil))))))))))))))))))
 (cD 96
 (sq (rg [xo 4 (.mov (.b false))])
 .ret)
 .skip)))
 (rg [mo 78 6,xo 79 (bc .add 78 1),mo 6 79]))))))))
 (rg [mo 16 5,xo 17 (bc .add 16 1),mo 5 17]))))))
 (sq (rg [xo 4 (.mov (.b true))])
 .ret))))⟩
theorem qLE:trFn Tryz.prog 158 [([],(fs [0,1,2,3,4,5,6,7,8,9,10,11,12,13,14,15,16,17,18,19,20,21,22,23,24,25,26,27,28,29,30,31,32,33,34,35,36,37,38,39,40,41,42,43,44,45,46,47,48,49,50,51] .nil)),([],(fs [0,1,2,3,4,5,6,7,8,9,10,11,12,13,14,15,16] .nil))] [[5],[6]]=some qWE:=by kernel_rfl
abbrev q9D:Nat:=159
def quB:FnI:=⟨19,[.tmp 4],
 (sq (rg [xo 4 (.mov (ci 0))])
 (sq (sq (rg [mo 6 0,xo 7 (.len false (.t 6)),xo 8 (.mov (ci 0))])
 (.block 0
 (.loop [8] [9,10,5,11,12,13,14,15,16,17,4,18,8]
 (sq (rg [xo 9 (bi .lss 8 7)])
 (sq (cD 9
 .skip
 (.exit 0))
 (sq (.block 1
 (sq (rg [mo 10 8,mo 5 10])
 (sq (rg [mo 11 1,mo 12 0,mo 13 5,xo 14 (ia 1 12 13),lo 15 14,xo 16 (.callv (.t 11) [(.t 15)])])
 (cD 16
 (sq (rg [mo 17 5,mo 4 17])
 .ret)
 .skip))))
 (rg [xo 18 (bc .add 8 1),mo 8 18])))))))
 (sq (rg [xo 4 (.mov (ci (-1)))])
 .ret)))⟩
theorem q4D:trFn Tryz.prog 159 [] [[8]]=some quB:=by kernel_rfl
abbrev qIB:Nat:=160
def qaA:FnI:=⟨9,[.tmp 4],
 (sq (rg [xo 4 (.mov (.b false))])
 (sq (rg [mo 5 0,mo 6 1,xo 7 (.call 183 [(.t 5),(.t 6)]),xo 8 (bc .geq 7 0),mo 4 8])
 .ret))⟩
theorem qEB:trFn Tryz.prog 160 [] []=some qaA:=by kernel_rfl
abbrev qLP:Nat:=161
theorem qWP:FnOk Tryz.prog 161:=FnOk.of (by kernel_rfl)
def qoK:FnI:=⟨8,[.tmp 3],
 (sq (rg [xo 2 (.box 109 (.t 0)),xo 3 (.mov (.b false))])
 (sq (rg [fo 4 0 2,lo 5 4,lo 6 1,xo 7 (bi .eql 5 6),mo 3 7])
 .ret))⟩
theorem qpO:trFn Tryz.prog 161 [] []=some qoK:=by kernel_rfl
abbrev qpN:Nat:=162
def qzN:FnI:=⟨35,[.tmp 2,.tmp 3],
 (sq (rg [xo 1 (.box 33 (.t 0)),xo 2 (.mov (ci 0)),xo 3 (.mov (ci 0))])
 (sq (rg [xo 9 (lt 3 1),xo 10 (.build [(.v (.slice none 0 0)),(.v (.slice none 0 0)),(.v (.slice none 0 0))] [(0,3,(.t 9))]),xo 4 (.alloc 221 [(.v (.slice none 0 0)),(.v (.slice none 0 0)),(.v (.slice none 0 0))]),xn (st 3 4 10)])
 (sq (sq (rg [xo 11 (lt 3 4),xo 12 (.mkf (.func 184) [(.t 11)] []),xo 13 (lt 3 4),xo 14 (.mkf (.func 185) [(.t 13)] []),xo 15 (lt 3 4),xo 16 (.mkf (.func 186) [(.t 15)] []),xo 17 (lt 3 4),xo 18 (.mkf (.func 187) [(.t 17)] []),xo 19 (.bsl 222 1 4 [(.v .nilFunc),(.v .nilFunc),(.v .nilFunc),(.v .nilFunc)] [(0,1,(.t 12)),(1,1,(.t 14)),(2,1,(.t 16)),(3,1,(.t 18))]),xo 20 (.len false (.t 19)),xo 21 (.mov (ci 0))])
 (.block 0
 (.loop [21] [22,23,24,6,26,27,25,28,29,7,8,30,31,32,33,2,3,34,21]
 (sq (rg [xo 22 (bi .lss 21 20)])
 (sq (cD 22
 .skip
 (.exit 0))
 (sq (.block 1
 (sq (rg [xo 23 (ia 1 19 21),lo 24 23,mo 6 24])
 (sq (rg [mo 26 6,xo 27 (.callv (.t 26) []),mo 25 27,xo 28 (.ext 0 (.t 25)),xo 29 (.ext 1 (.t 25)),mo 7 28,mo 8 29])
 (sq (rg [mo 30 7,xo 31 (bc .neq 30 0)])
 (cD 31
 (sq (rg [mo 32 7,mo 33 8,mo 2 32,mo 3 33])
 .ret)
 .skip)))))
 (rg [xo 34 (bc .add 21 1),mo 21 34])))))))
 (sq (rg [xo 2 (.mov (ci 0)),xo 3 (.mov (ci 0))])
 .ret))))⟩
theorem qdN:trFn Tryz.prog 162 [] [[21]]=some qzN:=by kernel_rfl
abbrev qFP:Nat:=163
def qiP:FnI:=⟨69,[.cell 2 3 true],
 (sq (rg [xo 1 (.box 63 (.t 0)),xo 2 (.alloc 33 [(.v (.slice none 0 0)),(.v (.slice none 0 0)),(.v (.slice none 0 0))])])
 (sq (rg [fo 7 0 1,lo 8 7,fo 9 2 1,lo 10 9,xo 11 (.build [(.v (.slice none 0 0)),(.v (.slice none 0 0)),(.v (.slice none 0 0))] [(0,1,(.t 8)),(2,1,(.t 10))]),xo 3 (.alloc 33 [(.v (.slice none 0 0)),(.v (.slice none 0 0)),(.v (.slice none 0 0))]),xn (st 3 3 11)])
 (sq (sq (rg [fo 12 1 1,lo 13 12,xo 14 (.len false (.t 13)),xo 15 (.mov (ci 0))])
 (.block 0
 (.loop [15] [16,17,18,5,19,20,21,22,23,6,24,25,26,27,28,29,30,31,32,33,34,35,36,37,38,39,40,41,42,43,44,45,46,47,48,49,50,51,52,53,54,55,56,57,58,59,60,61,62,63,64,65,66,67,15]
 (sq (rg [xo 16 (bi .lss 15 14)])
 (sq (cD 16
 .skip
 (.exit 0))
 (sq (.block 1
 (sq (rg [xo 17 (ia 4 13 15),xo 18 (lt 4 17),xo 5 (.alloc 129 [(vi 0),(.v (.string ⟨#[]⟩)),(.v (.string ⟨#[]⟩)),(vi 0)]),xn (st 4 5 18)])
 (sq (rg [fo 19 1 5,lo 20 19,fo 21 2 5,lo 22 21,xo 23 (.build [(.v (.string ⟨#[]⟩)),(.v (.string ⟨#[]⟩)),(.v (.string ⟨#[]⟩)),(.v (.string ⟨#[]⟩))] [(1,1,(.t 20)),(2,1,(.t 22))]),xo 6 (.alloc 225 [(.v (.string ⟨#[]⟩)),(.v (.string ⟨#[]⟩)),(.v (.string ⟨#[]⟩)),(.v (.string ⟨#[]⟩))]),xn (st 4 6 23)])
 (sq (sq (rg [fo 24 0 5,lo 25 24,xo 26 (bc .geq 25 0),mo 27 26,xg 28 (fa 0 5) 27 true,xg 29 (lf 28) 27 true,xg 30 (fa 0 1) 27 true,xg 31 (lf 30) 27 true,xg 32 (.len false (.t 31)) 27 true,xg 33 (bi .lss 29 32) 27 true,xo 34 (.pick (.t 27) (.t 33) (.b false))])
 (cD 34
 (rg [fo 35 0 1,lo 36 35,fo 37 0 5,lo 38 37,xo 39 (ia 1 36 38),lo 40 39,fo 41 0 6,xn (st 1 41 40)])
 .skip))
 (sq (sq (rg [fo 42 3 5,lo 43 42,xo 44 (bc .geq 43 0),mo 45 44,xg 46 (fa 3 5) 45 true,xg 47 (lf 46) 45 true,xg 48 (fa 2 1) 45 true,xg 49 (lf 48) 45 true,xg 50 (.len false (.t 49)) 45 true,xg 51 (bi .lss 47 50) 45 true,xo 52 (.pick (.t 45) (.t 51) (.b false))])
 (cD 52
 (rg [fo 53 2 1,lo 54 53,fo 55 3 5,lo 56 55,xo 57 (ia 4 54 56),fo 58 0 57,lo 59 58,fo 60 3 6,xn (st 1 60 59)])
 .skip))
 (rg [fo 61 1 3,lo 62 61,xo 63 (lt 4 6),xo 64 (.bsl 225 4 1 [(.v (.string ⟨#[]⟩)),(.v (.string ⟨#[]⟩)),(.v (.string ⟨#[]⟩)),(.v (.string ⟨#[]⟩))] [(0,4,(.t 63))]),xo 65 (.app 225 4 64 (.t 62) (.t 64)),fo 66 1 3,xn (st 1 66 65)]))))))
 (rg [xo 67 (bc .add 15 1),mo 15 67])))))))
 (sq (rg [xo 68 (lt 3 3),xn (st 3 2 68)])
 .ret))))⟩
theorem qgO:trFn Tryz.prog 163 [] [[15]]=some qiP:=by kernel_rfl
abbrev qVC:Nat:=164
def q2A:FnI:=⟨19,[.tmp 4],
 (sq (rg [xo 4 (.mov (ci 0))])
 (sq (sq (rg [mo 6 0,xo 7 (.len false (.t 6)),xo 8 (.mov (ci 0))])
 (.block 0
 (.loop [8] [9,10,5,11,12,13,14,15,16,17,4,18,8]
 (sq (rg [xo 9 (bi .lss 8 7)])
 (sq (cD 9
 .skip
 (.exit 0))
 (sq (.block 1
 (sq (rg [mo 10 8,mo 5 10])
 (sq (rg [mo 11 1,mo 12 0,mo 13 5,xo 14 (ia 3 12 13),xo 15 (lt 3 14),xo 16 (.callv (.t 11) [(.t 15)])])
 (cD 16
 (sq (rg [mo 17 5,mo 4 17])
 .ret)
 .skip))))
 (rg [xo 18 (bc .add 8 1),mo 8 18])))))))
 (sq (rg [xo 4 (.mov (ci (-1)))])
 .ret)))⟩
theorem qSC:trFn Tryz.prog 164 [] [[8]]=some q2A:=by kernel_rfl
abbrev q5R:Nat:=165
def qLS:FnI:=⟨9,[.tmp 2],
 (sq (rg [xo 2 (.mov (.b false))])
 (sq (rg [mo 3 0,xo 4 (.bini .geq (.t 3) (.c (.int .u8 (97)))),mo 5 4,xg 6 (mv 0) 5 true,xg 7 (.bini .leq (.t 6) (.c (.int .u8 (122)))) 5 true,xo 8 (.pick (.t 5) (.t 7) (.b false)),mo 2 8])
 .ret))⟩
theorem qXR:trFn Tryz.prog 165 [] []=some qLS:=by kernel_rfl
abbrev qbQ:Nat:=166
def q6L:FnI:=⟨2,[.cell 0 1 true],
 (sq (rg [xo 0 (.alloc 206 [(.v .nilFunc)])])
 (sq (rg [xo 1 (.build [(.v .nilFunc)] [(0,1,(.c (.func (.func 188) #[] #[])))]),xn (st 1 0 1)])
 .ret))⟩
theorem q3P:trFn Tryz.prog 166 [] []=some q6L:=by kernel_rfl
abbrev qEH:Nat:=167
def qpD:FnI:=⟨28,[.tmp 6],
 (sq (rg [xo 3 (.box 206 (.t 0)),xo 6 (.mov (.b false))])
 (sq (sq (rg [mo 8 1,xo 9 (.len true (.t 8)),xo 10 (.mov (ci 0))])
 (.block 0
 (.loop [10] [11,12,7,13,14,15,16,17,18,19,20,21,22,23,24,25,26,6,27,10]
 (sq (rg [xo 11 (bi .lss 10 9)])
 (sq (cD 11
 .skip
 (.exit 0))
 (sq (.block 1
 (sq (rg [mo 12 10,mo 7 12])
 (sq (rd [] (of 0 (mo 13 1)
 (of 1 (mo 14 7)
 (of 2 (xo 15 (.idxs (.t 13) (.t 14)))
 (of 3 (mo 16 2)
 (of 4 (xo 17 (bi .neq 15 16))
 (of 5 (mo 18 17)
 (of 6 (xg 19 (fa 0 3) 18 true)
 (ot 7 (xg 20 (lf 19) 18 true)
 (of 8 (xg 21 (mv 1) 18 true)
 (of 9 (xg 22 (mv 7) 18 true)
 (of 10 (xg 23 (.idxs (.t 21) (.t 22)) 18 true)
 (of 11 (xg 24 (.callv (.t 20) [(.t 23)]) 18 true)
 (of 12 (xg 25 (.not (.t 24)) 18 true)
 (of 13 (xo 26 (.pick (.t 18) (.t 25) (.b false)))
 .nil)))))))))))))))
 (cD 26
 (sq (rg [xo 6 (.mov (.b false))])
 .ret)
 .skip))))
 (rg [xo 27 (bc .add 10 1),mo 10 27])))))))
 (sq (rg [xo 6 (.mov (.b true))])
 .ret)))⟩
theorem qxG:trFn Tryz.prog 167 [([],(fs [0,1,2,3,4,5,6,7,8,9,10] (.exec 11 (.first 12 (.first 13 .nil)))))] [[10]]=some qpD:=by kernel_rfl
abbrev q6C:Nat:=168
def qDD:FnI:=⟨29,[.tmp 6],
 (sq (rg [xo 5 (.box 116 (.t 2)),xo 6 (.mov (.c (.slice none 0 0)))])
 (sq (rg [mo 10 0,xo 11 (.len false (.t 10)),xo 12 (.msl 78 3 40 [(.int .u64 (0)),(.slice none 0 0),(.int .i64 (0))] (.t 11) (.t 11)),mo 7 12])
 (sq (sq (rg [mo 13 0,xo 14 (.len false (.t 13)),xo 15 (.mov (ci 0))])
 (.block 0
 (.loop [15] [16,17,18,19,9,8,20,21,22,23,24,25,26,27,15]
 (sq (rg [xo 16 (bi .lss 15 14)])
 (sq (cD 16
 .skip
 (.exit 0))
 (sq (.block 1
 (sq (rg [mo 17 15,xo 18 (ia 3 13 15),xo 19 (lt 3 18),xo 9 (.alloc 78 [(.v (.int .u64 (0))),(.v (.slice none 0 0)),(vi 0)]),mo 8 17,xn (st 3 9 19)])
 (rg [mo 20 7,mo 21 8,mo 22 1,xo 23 (lt 0 5),xo 24 (lt 3 9),xo 25 (.callv (.t 22) [(.t 23),(.t 24)]),xo 26 (ia 3 20 21),xn (st 3 26 25)])))
 (rg [xo 27 (bc .add 15 1),mo 15 27])))))))
 (sq (rg [mo 28 7,mo 6 28])
 .ret))))⟩
theorem q0C:trFn Tryz.prog 168 [] [[15]]=some qDD:=by kernel_rfl
abbrev qgC:Nat:=169
def qgJ:FnI:=⟨10,[.cell 4 3 true],
 (sq (rg [xo 2 (.box 116 (.t 0)),xo 3 (.box 78 (.t 1)),xo 4 (.alloc 78 [(.v (.int .u64 (0))),(.v (.slice none 0 0)),(vi 0)])])
 (sq (rg [fo 5 1 3,lo 6 5,xo 7 (.call 64 [(.t 6)]),fo 8 1 3,xn (st 1 8 7)])
 (sq (rg [xo 9 (lt 3 3),xn (st 3 4 9)])
 .ret)))⟩
theorem qrI:trFn Tryz.prog 169 [] []=some qgJ:=by kernel_rfl
abbrev qRK:Nat:=170
theorem qeK:FnOk Tryz.prog 170:=FnOk.of (by kernel_rfl)
def qvE:FnI:=⟨28,[],
 (sq (rg [lo 8 1,xo 9 (.len false (.t 8)),xo 10 (.mov (ci 0))])
 (.block 0
 (.loop [10] [11,12,13,14,7,6,15,16,17,18,19,20,21,22,23,24,25,26,27,10]
 (sq (rg [xo 11 (bi .lss 10 9)])
 (sq (cD 11
 .skip
 (.exit 0))
 (sq (.block 1
 (sq (rg [mo 12 10,xo 13 (ia 4 8 10),xo 14 (lt 4 13),xo 7 (.alloc 129 [(vi 0),(.v (.string ⟨#[]⟩)),(.v (.string ⟨#[]⟩)),(vi 0)]),mo 6 12,xn (st 4 7 14)])
 (sq (rg [xo 15 (lt 4 7),lo 16 2,lo 17 3,lo 18 4,xo 19 (.call 171 [(.t 15),(.t 16),(.t 17),(.t 18)]),mo 20 19,xg 21 (mv 0) 20 true,xg 22 (mv 6) 20 true,xg 23 (lt 4 7) 20 true,xg 24 (.callv (.t 21) [(.t 22),(.t 23)]) 20 true,xg 25 (.not (.t 24)) 20 true,xo 26 (.pick (.t 20) (.t 25) (.b false))])
 (cD 26
 .ret
 .skip))))
 (rg [xo 27 (bc .add 10 1),mo 10 27])))))))⟩
theorem q3J:trFn Tryz.prog 170 [] [[10]]=some qvE:=by kernel_rfl
abbrev qIP:Nat:=171
def qkP:FnI:=⟨25,[.tmp 8],
 (sq (rg [xo 4 (.box 129 (.t 0)),xo 8 (.mov (.b false))])
 (sq (rg [fo 9 0 4,lo 10 9,mo 11 1,xo 12 (bi .eql 10 11),mo 13 12,xg 14 (fa 1 4) 13 true,xg 15 (lf 14) 13 true,xg 16 (mv 2) 13 true,xg 17 (.call 189 [(.t 15),(.t 16)]) 13 true,xo 18 (.pick (.t 13) (.t 17) (.b false)),mo 19 18,xg 20 (mv 3) 19 true,xg 21 (fa 2 4) 19 true,xg 22 (lf 21) 19 true,xg 23 (.call 190 [(.t 20),(.t 22)]) 19 true,xo 24 (.pick (.t 19) (.t 23) (.b false)),mo 8 24])
 .ret))⟩
theorem qjO:trFn Tryz.prog 171 [] []=some qkP:=by kernel_rfl
abbrev qkN:Nat:=172
def quN:FnI:=⟨20,[.tmp 2],
 (sq (rg [xo 2 (.mov (ci 0))])
 (sq (sq (rg [mo 5 0,xo 6 (.call 191 [(.t 5)]),xo 7 (.not (.t 6))])
 (cD 7
 (sq (rg [xo 2 (.mov (ci 0))])
 .ret)
 .skip))
 (sq (rg [mo 9 0,xo 10 (.call 192 [(.t 9),(.c (.string ⟨#[42,46]⟩))]),mo 8 10,xo 11 (.ext 0 (.t 8)),xo 12 (.ext 1 (.t 8)),mo 3 11,mo 4 12])
 (sq (.block 0
 (sq (rg [mo 14 4,mo 13 14])
 (cD 13
 (sq (rg [mo 15 3,xo 16 (.len true (.t 15)),mo 2 16])
 .ret)
 (sq (rg [mo 18 0,xo 19 (.bins .eql (.t 18) (.c (.string ⟨#[42]⟩))),mo 17 19])
 (cD 17
 (sq (rg [xo 2 (.mov (ci 0))])
 .ret)
 .skip)))))
 (sq (rg [xo 2 (.mov (ci 100))])
 .ret)))))⟩
theorem qYN:trFn Tryz.prog 172 [] []=some quN:=by kernel_rfl
abbrev qTL:Nat:=173
theorem qdL:FnOk Tryz.prog 173:=FnOk.of (by kernel_rfl)
def qVF:FnI:=⟨21,[],
 (sq (rg [fo 5 3 1,lo 6 5,xo 7 (.len false (.t 6)),xo 8 (.mov (ci 0))])
 (.block 0
 (.loop [8] [9,10,11,12,3,4,13,14,15,16,17,18,19,20,8]
 (sq (rg [xo 9 (bi .lss 8 7)])
 (sq (cD 9
 .skip
 (.exit 0))
 (sq (.block 1
 (sq (rg [mo 10 8,xo 11 (ia 1 6 8),lo 12 11,mo 3 10,mo 4 12])
 (sq (rg [mo 13 4,mo 14 13,xg 15 (mv 0) 14 true,xg 16 (mv 3) 14 true,xg 17 (.callv (.t 15) [(.t 16)]) 14 true,xg 18 (.not (.t 17)) 14 true,xo 19 (.pick (.t 14) (.t 18) (.b false))])
 (cD 19
 .ret
 .skip))))
 (rg [xo 20 (bc .add 8 1),mo 8 20])))))))⟩
theorem q8K:trFn Tryz.prog 173 [] [[8]]=some qVF:=by kernel_rfl
abbrev qFI:Nat:=174
def qYI:FnI:=⟨9,[.tmp 2],
 (sq (rg [xo 2 (.mov (.b false))])
 (sq (rg [mo 3 0,xo 4 (.bini .geq (.t 3) (ci (-1))),mo 5 4,xg 6 (mv 0) 5 true,xg 7 (bc .leq 6 2147483646) 5 true,xo 8 (.pick (.t 5) (.t 7) (.b false)),mo 2 8])
 .ret))⟩
theorem qvH:trFn Tryz.prog 174 [] []=some qYI:=by kernel_rfl
abbrev qXL:Nat:=175
def qiL:FnI:=⟨20,[.tmp 2],
 (sq (rg [xo 1 (.box 80 (.t 0)),xo 2 (.mov (.b false))])
 (sq (rg [fo 3 0 1,lo 4 3,xo 5 (.call 193 [(.t 4)]),mo 6 5,xg 7 (fa 2 1) 6 true,xg 8 (lf 7) 6 true,xg 9 (bc .geq 8 0) 6 true,xo 10 (.pick (.t 6) (.t 9) (.b false)),mo 11 10,xg 12 (fa 1 1) 11 true,xg 13 (lf 12) 11 true,xg 14 (mv 13) 11 true,xg 15 (fa 3 1) 14 false,xg 16 (lf 15) 14 false,xg 17 (.not (.t 16)) 14 false,xg 18 (.pick (.t 14) (.b true) (.t 17)) 11 true,xo 19 (.pick (.t 11) (.t 18) (.b false)),mo 2 19])
 .ret))⟩
theorem qCL:trFn Tryz.prog 175 [] []=some qiL:=by kernel_rfl
abbrev qbG:Nat:=176
def qjG:FnI:=⟨79,[.tmp 2],
 (sq (rg [xo 1 (.box 66 (.t 0)),xo 2 (.mov (.b false))])
 (sq (sq (rg [fo 6 0 1,xo 7 (lt 3 6),xo 8 (.call 194 [(.t 7)]),xo 9 (.not (.t 8)),mo 10 9,xg 11 (fa 3 1) 10 false,xg 12 (lf 11) 10 false,xg 13 (.len false (.t 12)) 10 false,xg 14 (fa 0 1) 10 false,xg 15 (fa 2 14) 10 false,xg 16 (lf 15) 10 false,xg 17 (.len false (.t 16)) 10 false,xg 18 (bi .neq 13 17) 10 false,xo 19 (.pick (.t 10) (.b true) (.t 18))])
 (cD 19
 (sq (rg [xo 2 (.mov (.b false))])
 .ret)
 .skip))
 (sq (sq (rg [xo 3 (.mov (ci 0))])
 (.block 0
 (.loop [3] [20,21,22,23,24,27,28,29,30,31,32,33,34,35,36,37,38,39,40,41,42,2,4,43,44,45,46,47,48,49,50,51,54,55,56,57,58,59,60,61,62,5,63,64,65,66,67,68,69,70,71,72,73,74,75,76,77,78,52,53,25,26,3]
 (sq (sq (rg [mo 20 3,fo 21 3 1,lo 22 21,xo 23 (.len false (.t 22)),xo 24 (bi .lss 20 23)])
 (cD 24
 .skip
 (.exit 0)))
 (sq (.block 1
 (sq (sq (rd [] (of 0 (fo 27 3 1)
 (ot 1 (lo 28 27)
 (of 2 (mo 29 3)
 (ot 3 (xo 30 (ia 2 28 29))
 (of 4 (fo 31 1 30)
 (ot 5 (lo 32 31)
 (of 6 (xo 33 (.len false (.t 32)))
 (of 7 (fo 34 0 1)
 (of 8 (fo 35 2 34)
 (ot 9 (lo 36 35)
 (of 10 (mo 37 3)
 (ot 11 (xo 38 (ia 4 36 37))
 (of 12 (fo 39 3 38)
 (ot 13 (lo 40 39)
 (of 14 (xo 41 (.len false (.t 40)))
 (of 15 (xo 42 (bi .neq 33 41))
 .nil)))))))))))))))))
 (cD 42
 (sq (rg [xo 2 (.mov (.b false))])
 .ret)
 .skip))
 (sq (rg [xo 4 (.mov (ci 0))])
 (.block 2
 (.loop [4] [43,44,45,46,47,48,49,50,51,54,55,56,57,58,59,60,61,62,5,63,64,65,66,67,68,69,70,71,72,73,74,75,76,77,78,2,52,53,4]
 (sq (sq (rg [mo 43 4,fo 44 3 1,lo 45 44,mo 46 3,xo 47 (ia 2 45 46),fo 48 1 47,lo 49 48,xo 50 (.len false (.t 49)),xo 51 (bi .lss 43 50)])
 (cD 51
 .skip
 (.exit 2)))
 (sq (.block 3
 (sq (rg [fo 54 3 1,lo 55 54,mo 56 3,xo 57 (ia 2 55 56),fo 58 1 57,lo 59 58,mo 60 4,xo 61 (ia 3 59 60),xo 62 (lt 3 61),xo 5 (.alloc 78 [(.v (.int .u64 (0))),(.v (.slice none 0 0)),(vi 0)]),xn (st 3 5 62)])
 (sq (rd [] (ot 0 (xo 63 (lt 3 5))
 (of 1 (xo 64 (.call 195 [(.t 63)]))
 (of 2 (xo 65 (.not (.t 64)))
 (of 3 (mo 66 65)
 (of 4 (xg 67 (fa 1 5) 66 false)
 (ot 5 (xg 68 (lf 67) 66 false)
 (of 6 (xg 69 (.len false (.t 68)) 66 false)
 (of 7 (xg 70 (fa 0 1) 66 false)
 (of 8 (xg 71 (fa 2 70) 66 false)
 (ot 9 (xg 72 (lf 71) 66 false)
 (of 10 (xg 73 (mv 3) 66 false)
 (ot 11 (xg 74 (ia 4 72 73) 66 false)
 (of 12 (xg 75 (fa 2 74) 66 false)
 (ot 13 (xg 76 (lf 75) 66 false)
 (of 14 (xg 77 (bi .neq 69 76) 66 false)
 (of 15 (xo 78 (.pick (.t 66) (.b true) (.t 77)))
 .nil)))))))))))))))))
 (cD 78
 (sq (rg [xo 2 (.mov (.b false))])
 .ret)
 .skip))))
 (rg [mo 52 4,xo 53 (bc .add 52 1),mo 4 53]))))))))
 (rg [mo 25 3,xo 26 (bc .add 25 1),mo 3 26]))))))
 (sq (rg [xo 2 (.mov (.b true))])
 .ret))))⟩
theorem qSG:trFn Tryz.prog 176 [([],(fs [0,1,2,3,4,5,6,7,8,9,10,11,12,13,14,15] .nil)),([],(.first 0 (.exec 1 (fs [2,3,4,5,6,7,8,9,10,11,12,13,14,15] .nil))))] [[3],[4]]=some qjG:=by kernel_rfl
abbrev qNJ:Nat:=177
def qnJ:FnI:=⟨26,[.tmp 4],
 (sq (rg [xo 4 (.mov (.b false))])
 (sq (sq (rg [xo 5 (.mov (ci 0))])
 (.block 0
 (.loop [5] [6,7,8,9,12,13,14,15,16,17,18,19,20,21,22,23,24,25,4,10,11,5]
 (sq (sq (rg [mo 6 5,mo 7 0,xo 8 (.len false (.t 7)),xo 9 (bi .lss 6 8)])
 (cD 9
 .skip
 (.exit 0)))
 (sq (.block 1
 (sq (rg [mo 12 0,mo 13 5,xo 14 (ia 3 12 13),fo 15 0 14,lo 16 15,mo 17 1,xo 18 (bi .eql 16 17),mo 19 18,xg 20 (mv 0) 19 true,xg 21 (mv 5) 19 true,xg 22 (ia 3 20 21) 19 true,xg 23 (fa 2 22) 19 true,xg 24 (lf 23) 19 true,xo 25 (.pick (.t 19) (.t 24) (.b false))])
 (cD 25
 (sq (rg [xo 4 (.mov (.b true))])
 .ret)
 .skip)))
 (rg [mo 10 5,xo 11 (bc .add 10 1),mo 5 11]))))))
 (sq (rg [xo 4 (.mov (.b false))])
 .ret)))⟩
theorem qyI:trFn Tryz.prog 177 [] [[5]]=some qnJ:=by kernel_rfl
abbrev qYL:Nat:=178
def qjL:FnI:=⟨35,[.tmp 2],
 (sq (rg [xo 2 (.mov (.b false))])
 (sq (sq (rg [xo 3 (.mov (ci 0))])
 (.block 0
 (.loop [3] [4,5,6,7,10,11,12,13,14,15,16,17,18,19,20,21,22,23,24,25,26,27,28,29,30,31,32,33,34,2,8,9,3]
 (sq (sq (rg [mo 4 3,mo 5 0,xo 6 (.len false (.t 5)),xo 7 (bi .lss 4 6)])
 (cD 7
 .skip
 (.exit 0)))
 (sq (.block 1
 (sq (rg [mo 10 0,mo 11 3,xo 12 (ia 3 10 11),fo 13 0 12,lo 14 13,xo 15 (bc .lss 14 0),mo 16 15,xg 17 (mv 0) 16 false,xg 18 (mv 3) 16 false,xg 19 (ia 3 17 18) 16 false,xg 20 (fa 1 19) 16 false,xg 21 (lf 20) 16 false,xg 22 (bc .lss 21 0) 16 false,xo 23 (.pick (.t 16) (.b true) (.t 22)),mo 24 23,xg 25 (mv 0) 24 false,xg 26 (mv 0) 24 false,xg 27 (mv 3) 24 false,xg 28 (ia 3 26 27) 24 false,xg 29 (fa 0 28) 24 false,xg 30 (lf 29) 24 false,xg 31 (.call 196 [(.t 25),(.t 30)]) 24 false,xg 32 (mv 3) 24 false,xg 33 (bi .neq 31 32) 24 false,xo 34 (.pick (.t 24) (.b true) (.t 33))])
 (cD 34
 (sq (rg [xo 2 (.mov (.b false))])
 .ret)
 .skip)))
 (rg [mo 8 3,xo 9 (bc .add 8 1),mo 3 9]))))))
 (sq (rg [xo 2 (.mov (.b true))])
 .ret)))⟩
theorem qDL:trFn Tryz.prog 178 [] [[3]]=some qjL:=by kernel_rfl
abbrev qHH:Nat:=179
def qYH:FnI:=⟨19,[.tmp 4],
 (sq (rg [xo 4 (.mov (ci 0))])
 (sq (sq (rg [xo 5 (.mov (ci 0))])
 (.block 0
 (.loop [5] [6,7,8,9,12,13,14,15,16,17,18,4,10,11,5]
 (sq (sq (rg [mo 6 5,mo 7 0,xo 8 (.len false (.t 7)),xo 9 (bi .lss 6 8)])
 (cD 9
 .skip
 (.exit 0)))
 (sq (.block 1
 (sq (rg [mo 12 0,mo 13 5,xo 14 (ia 1 12 13),lo 15 14,mo 16 1,xo 17 (.bins .eql (.t 15) (.t 16))])
 (cD 17
 (sq (rg [mo 18 5,mo 4 18])
 .ret)
 .skip)))
 (rg [mo 10 5,xo 11 (bc .add 10 1),mo 5 11]))))))
 (sq (rg [xo 4 (.mov (ci (-1)))])
 .ret)))⟩
theorem q0G:trFn Tryz.prog 179 [] [[5]]=some qYH:=by kernel_rfl
abbrev qHP:Nat:=182
def qjP:FnI:=⟨40,[.cell 2 3 true,.tmp 3],
 (sq (rg [xo 2 (.alloc 78 [(.v (.int .u64 (0))),(.v (.slice none 0 0)),(vi 0)]),xo 3 (.mov (ci 0))])
 (sq (sq (rg [mo 6 0,xo 7 (bc .lss 6 1),mo 8 7,xg 9 (mv 0) 8 false,xg 10 (bc .gtr 9 4) 8 false,xo 11 (.pick (.t 8) (.b true) (.t 10))])
 (cD 11
 (sq (rg [xo 12 (.build [(.v (.int .u64 (0))),(.v (.slice none 0 0)),(vi 0)] []),xn (st 3 2 12),xo 3 (.mov (ci 1))])
 .ret)
 .skip))
 (sq (rg [mo 13 0,xo 14 (.msl 3 1 8 [(.int .i64 (0))] (.t 13) (.t 13)),xo 15 (.build [(.v (.int .u64 (0))),(.v (.slice none 0 0)),(vi 0)] [(1,1,(.t 14))]),xo 4 (.alloc 78 [(.v (.int .u64 (0))),(.v (.slice none 0 0)),(vi 0)]),xn (st 3 4 15)])
 (sq (sq (rg [fo 16 1 4,lo 17 16,xo 18 (.len false (.t 17)),xo 19 (.mov (ci 0))])
 (.block 0
 (.loop [19] [20,21,5,22,23,24,25,26,27,28,19]
 (sq (rg [xo 20 (bi .lss 19 18)])
 (sq (cD 20
 .skip
 (.exit 0))
 (sq (.block 1
 (sq (rg [mo 21 19,mo 5 21])
 (rg [fo 22 1 4,lo 23 22,mo 24 5,mo 25 5,xo 26 (bc .add 25 1),xo 27 (ia 1 23 24),xn (st 1 27 26)])))
 (rg [xo 28 (bc .add 19 1),mo 19 28])))))))
 (sq (rg [fo 29 1 4,lo 30 29,mo 31 0,xo 32 (bc .sub 31 1),xo 33 (ia 1 30 32),xn (.store 1 (.t 33) (ci (-1)))])
 (sq (rg [xo 35 (.call 134 [(.c (.int .u32 (0))),(ci 0)]),mo 34 35,xo 36 (.ext 0 (.t 34)),xo 37 (.ext 1 (.t 34)),fo 38 0 4,xn (st 1 38 36)])
 (sq (rg [xo 39 (lt 3 4),xn (st 3 2 39),xo 3 (.mov (ci 0))])
 .ret)))))))⟩
theorem qiO:trFn Tryz.prog 182 [] [[19]]=some qjP:=by kernel_rfl
abbrev qbB:Nat:=183
def qfA:FnI:=⟨19,[.tmp 4],
 (sq (rg [xo 4 (.mov (ci 0))])
 (sq (sq (rg [mo 6 0,xo 7 (.len false (.t 6)),xo 8 (.mov (ci 0))])
 (.block 0
 (.loop [8] [9,10,5,11,12,13,14,15,16,17,4,18,8]
 (sq (rg [xo 9 (bi .lss 8 7)])
 (sq (cD 9
 .skip
 (.exit 0))
 (sq (.block 1
 (sq (rg [mo 10 8,mo 5 10])
 (sq (rg [mo 11 1,mo 12 0,mo 13 5,xo 14 (ia 3 12 13),xo 15 (lt 3 14),xo 16 (.callv (.t 11) [(.t 15)])])
 (cD 16
 (sq (rg [mo 17 5,mo 4 17])
 .ret)
 .skip))))
 (rg [xo 18 (bc .add 8 1),mo 8 18])))))))
 (sq (rg [xo 4 (.mov (ci (-1)))])
 .ret)))⟩
theorem qZB:trFn Tryz.prog 183 [] [[8]]=some qfA:=by kernel_rfl
abbrev qMD:Nat:=184
theorem qOD:FnOk Tryz.prog 184:=FnOk.of (by kernel_rfl)
def qpG:FnI:=⟨26,[.tmp 2,.tmp 3],
 (sq (rg [xo 1 (.box 221 (.t 0)),xo 2 (.mov (ci 0)),xo 3 (.mov (ci 0))])
 (sq (sq (rg [fo 4 0 1,fo 5 0 4,lo 6 5,xo 7 (.len false (.t 6)),xo 8 (.call 199 [(.t 7),(ci 1),(ci 4)]),xo 9 (.not (.t 8)),mo 10 9,xg 11 (fa 0 1) 10 false,xg 12 (fa 1 11) 10 false,xg 13 (lf 12) 10 false,xg 14 (.len false (.t 13)) 10 false,xg 15 (.call 199 [(.t 14),(ci 1),(ci 8)]) 10 false,xg 16 (.not (.t 15)) 10 false,xo 17 (.pick (.t 10) (.b true) (.t 16)),mo 18 17,xg 19 (fa 0 1) 18 false,xg 20 (fa 2 19) 18 false,xg 21 (lf 20) 18 false,xg 22 (.len false (.t 21)) 18 false,xg 23 (.call 199 [(.t 22),(ci 1),(ci 4)]) 18 false,xg 24 (.not (.t 23)) 18 false,xo 25 (.pick (.t 18) (.b true) (.t 24))])
 (cD 25
 (sq (rg [xo 2 (.mov (ci 6)),xo 3 (.mov (ci 0))])
 .ret)
 .skip))
 (sq (rg [xo 2 (.mov (ci 0)),xo 3 (.mov (ci 0))])
 .ret)))⟩
theorem qZG:trFn Tryz.prog 184 [] []=some qpG:=by kernel_rfl
abbrev qXC:Nat:=185
theorem qYC:FnOk Tryz.prog 185:=FnOk.of (by kernel_rfl)
def q6E:FnI:=⟨30,[.tmp 2,.tmp 3],
 (sq (rg [xo 1 (.box 221 (.t 0)),xo 2 (.mov (ci 0)),xo 3 (.mov (ci 0))])
 (sq (sq (rg [fo 6 0 1,fo 7 0 6,lo 8 7,xo 9 (.len false (.t 8)),xo 10 (.mov (ci 0))])
 (.block 0
 (.loop [10] [11,12,13,14,4,5,16,17,18,15,19,2,3,21,22,23,24,25,26,27,20,28,29,10]
 (sq (rg [xo 11 (bi .lss 10 9)])
 (sq (cD 11
 .skip
 (.exit 0))
 (sq (.block 1
 (sq (rg [mo 12 10,xo 13 (ia 1 8 10),lo 14 13,mo 4 12,mo 5 14])
 (.block 2
 (sq (rg [mo 16 5,xo 17 (.call 122 [(.t 16)]),xo 18 (.not (.t 17)),mo 15 18])
 (cD 15
 (sq (rg [mo 19 4,xo 2 (.mov (ci 3)),mo 3 19])
 .ret)
 (sq (rg [fo 21 0 1,fo 22 0 21,lo 23 22,mo 24 4,xo 25 (.slc 1 (.t 23) none (some (.t 24)) none),mo 26 5,xo 27 (.call 200 [(.t 25),(.t 26)]),mo 20 27])
 (cD 20
 (sq (rg [mo 28 4,xo 2 (.mov (ci 4)),mo 3 28])
 .ret)
 .skip)))))))
 (rg [xo 29 (bc .add 10 1),mo 10 29])))))))
 (sq (rg [xo 2 (.mov (ci 0)),xo 3 (.mov (ci 0))])
 .ret)))⟩
theorem q1E:trFn Tryz.prog 185 [] [[10]]=some q6E:=by kernel_rfl
abbrev qHC:Nat:=186
theorem qIC:FnOk Tryz.prog 186:=FnOk.of (by kernel_rfl)
def qmE:FnI:=⟨55,[.tmp 2,.tmp 3],
 (sq (rg [xo 1 (.box 221 (.t 0)),xo 2 (.mov (ci 0)),xo 3 (.mov (ci 0))])
 (sq (sq (rg [fo 6 0 1,fo 7 2 6,lo 8 7,xo 9 (.len false (.t 8)),xo 10 (.mov (ci 0))])
 (.block 0
 (.loop [10] [11,12,13,14,5,4,16,17,18,19,15,20,2,3,22,23,24,25,26,27,28,29,21,30,32,33,34,35,36,37,38,39,31,40,42,43,44,45,41,46,48,49,50,51,52,47,53,54,10]
 (sq (rg [xo 11 (bi .lss 10 9)])
 (sq (cD 11
 .skip
 (.exit 0))
 (sq (.block 1
 (sq (rg [mo 12 10,xo 13 (ia 4 8 10),xo 14 (lt 4 13),xo 5 (.alloc 70 [(.v (.string ⟨#[]⟩)),(vi 0),(vi 0),(.v (.slice none 0 0))]),mo 4 12,xn (st 4 5 14)])
 (.block 2
 (sq (rg [fo 16 0 5,lo 17 16,xo 18 (.call 122 [(.t 17)]),xo 19 (.not (.t 18)),mo 15 19])
 (cD 15
 (sq (rg [mo 20 4,xo 2 (.mov (ci 3)),mo 3 20])
 .ret)
 (sq (rd [] (of 0 (fo 22 0 1)
 (of 1 (fo 23 2 22)
 (ot 2 (lo 24 23)
 (of 3 (mo 25 4)
 (of 4 (xo 26 (.slc 4 (.t 24) none (some (.t 25)) none))
 (of 5 (fo 27 0 5)
 (ot 6 (lo 28 27)
 (of 7 (xo 29 (.call 201 [(.t 26),(.t 28)]))
 (of 8 (mo 21 29)
 .nil))))))))))
 (cD 21
 (sq (rg [mo 30 4,xo 2 (.mov (ci 4)),mo 3 30])
 .ret)
 (sq (rg [fo 32 1 5,lo 33 32,xo 34 (bc .neq 33 1),mo 35 34,xg 36 (fa 1 5) 35 true,xg 37 (lf 36) 35 true,xg 38 (bc .neq 37 2) 35 true,xo 39 (.pick (.t 35) (.t 38) (.b false)),mo 31 39])
 (cD 31
 (sq (rg [mo 40 4,xo 2 (.mov (ci 9)),mo 3 40])
 .ret)
 (sq (rg [fo 42 2 5,lo 43 42,xo 44 (.call 199 [(.t 43),(ci 1),(ci 4)]),xo 45 (.not (.t 44)),mo 41 45])
 (cD 41
 (sq (rg [mo 46 4,xo 2 (.mov (ci 10)),mo 3 46])
 .ret)
 (sq (rg [fo 48 3 5,lo 49 48,xo 50 (.len false (.t 49)),xo 51 (.call 199 [(.t 50),(ci 1),(ci 4)]),xo 52 (.not (.t 51)),mo 47 52])
 (cD 47
 (sq (rg [mo 53 4,xo 2 (.mov (ci 6)),mo 3 53])
 .ret)
 .skip)))))))))))))
 (rg [xo 54 (bc .add 10 1),mo 10 54])))))))
 (sq (rg [xo 2 (.mov (ci 0)),xo 3 (.mov (ci 0))])
 .ret)))⟩
theorem qgE:trFn Tryz.prog 186 [([],(fs [0,1,2,3,4,5,6] (.exec 7 (.first 8 .nil))))] [[10]]=some qmE:=by kernel_rfl
abbrev qrC:Nat:=187
theorem qsC:FnOk Tryz.prog 187:=FnOk.of (by kernel_rfl)
def qZF:FnI:=⟨65,[.tmp 2,.tmp 3],
 (sq (rg [xo 1 (.box 221 (.t 0)),xo 2 (.mov (ci 0)),xo 3 (.mov (ci 0))])
 (sq (sq (rg [fo 8 0 1,fo 9 1 8,lo 10 9,xo 11 (.len false (.t 10)),xo 12 (.mov (ci 0))])
 (.block 0
 (.loop [12] [13,14,15,16,5,4,18,19,20,21,22,23,24,17,25,2,3,27,28,29,30,26,31,33,34,35,36,32,37,39,40,41,42,43,44,45,38,46,47,48,49,50,51,52,53,54,55,56,57,7,58,59,60,61,62,63,64,12]
 (sq (rg [xo 13 (bi .lss 12 11)])
 (sq (cD 13
 .skip
 (.exit 0))
 (sq (.block 1
 (sq (rg [mo 14 12,xo 15 (ia 4 10 12),xo 16 (lt 4 15),xo 5 (.alloc 225 [(.v (.string ⟨#[]⟩)),(.v (.string ⟨#[]⟩)),(.v (.string ⟨#[]⟩)),(.v (.string ⟨#[]⟩))]),mo 4 14,xn (st 4 5 16)])
 (sq (.block 2
 (sq (rg [fo 18 0 1,fo 19 0 18,lo 20 19,fo 21 0 5,lo 22 21,xo 23 (.call 200 [(.t 20),(.t 22)]),xo 24 (.not (.t 23)),mo 17 24])
 (cD 17
 (sq (rg [mo 25 4,xo 2 (.mov (ci 5)),mo 3 25])
 .ret)
 (sq (rg [fo 27 1 5,lo 28 27,xo 29 (.call 191 [(.t 28)]),xo 30 (.not (.t 29)),mo 26 30])
 (cD 26
 (sq (rg [mo 31 4,xo 2 (.mov (ci 7)),mo 3 31])
 .ret)
 (sq (rg [fo 33 2 5,lo 34 33,xo 35 (.call 202 [(.t 34)]),xo 36 (.not (.t 35)),mo 32 36])
 (cD 32
 (sq (rg [mo 37 4,xo 2 (.mov (ci 8)),mo 3 37])
 .ret)
 (sq (rg [fo 39 0 1,fo 40 2 39,lo 41 40,fo 42 3 5,lo 43 42,xo 44 (.call 201 [(.t 41),(.t 43)]),xo 45 (.not (.t 44)),mo 38 45])
 (cD 38
 (sq (rg [mo 46 4,xo 2 (.mov (ci 5)),mo 3 46])
 .ret)
 .skip)))))))))
 (sq (rg [fo 47 3 5,xn (.store 1 (.t 47) (.c (.string ⟨#[]⟩)))])
 (sq (rg [fo 48 0 1,fo 49 1 48,lo 50 49,mo 51 4,xo 52 (.slc 4 (.t 50) none (some (.t 51)) none),xo 53 (.len false (.t 52)),xo 54 (.mov (ci 0))])
 (.block 3
 (.loop [54] [55,56,57,7,58,59,60,61,62,2,3,63,54]
 (sq (rg [xo 55 (bi .lss 54 53)])
 (sq (cD 55
 .skip
 (.exit 3))
 (sq (.block 4
 (sq (rg [xo 56 (ia 4 52 54),xo 57 (lt 4 56),xo 7 (.alloc 225 [(.v (.string ⟨#[]⟩)),(.v (.string ⟨#[]⟩)),(.v (.string ⟨#[]⟩)),(.v (.string ⟨#[]⟩))]),xn (st 4 7 57)])
 (sq (rg [fo 58 3 7,xn (.store 1 (.t 58) (.c (.string ⟨#[]⟩)))])
 (sq (rg [xo 59 (lt 4 7),xo 60 (lt 4 5),xo 61 (.binst false [1,1,1,1] (.t 59) (.t 60))])
 (cD 61
 (sq (rg [mo 62 4,xo 2 (.mov (ci 4)),mo 3 62])
 .ret)
 .skip)))))
 (rg [xo 63 (bc .add 54 1),mo 54 63])))))))))))
 (rg [xo 64 (bc .add 12 1),mo 12 64])))))))
 (sq (rg [xo 2 (.mov (ci 0)),xo 3 (.mov (ci 0))])
 .ret)))⟩
theorem qHF:trFn Tryz.prog 187 [] [[12],[54]]=some qZF:=by kernel_rfl
abbrev qWC:Nat:=188
theorem qmI:FnOk Tryz.prog 188:=FnOk.of (by kernel_rfl)
def qtN:FnI:=⟨17,[.tmp 2],
 (sq (rg [xo 2 (.mov (.b false))])
 (sq (rg [mo 3 0,xo 4 (.call 165 [(.t 3)]),mo 5 4,xg 6 (mv 0) 5 false,xg 7 (.bini .geq (.t 6) (.c (.int .u8 (48)))) 5 false,xg 8 (mv 7) 5 false,xg 9 (mv 0) 8 true,xg 10 (.bini .leq (.t 9) (.c (.int .u8 (57)))) 8 true,xg 11 (.pick (.t 8) (.t 10) (.b false)) 5 false,xo 12 (.pick (.t 5) (.b true) (.t 11)),mo 13 12,xg 14 (mv 0) 13 false,xg 15 (.bini .eql (.t 14) (.c (.int .u8 (45)))) 13 false,xo 16 (.pick (.t 13) (.b true) (.t 15)),mo 2 16])
 .ret))⟩
theorem qXN:trFn Tryz.prog 188 [] []=some qtN:=by kernel_rfl
abbrev qNP:Nat:=189
def qnP:FnI:=⟨43,[.tmp 4],
 (sq (rg [xo 4 (.mov (.b false))])
 (sq (sq (rg [mo 7 0,xo 8 (.call 191 [(.t 7)]),xo 9 (.not (.t 8)),mo 10 9,xg 11 (mv 1) 10 false,xg 12 (.call 203 [(.t 11)]) 10 false,xg 13 (.not (.t 12)) 10 false,xo 14 (.pick (.t 10) (.b true) (.t 13))])
 (cD 14
 (sq (rg [xo 4 (.mov (.b false))])
 .ret)
 .skip))
 (sq (rg [mo 16 0,xo 17 (.call 192 [(.t 16),(.c (.string ⟨#[42]⟩))]),mo 15 17,xo 18 (.ext 0 (.t 15)),xo 19 (.ext 1 (.t 15)),mo 5 18,mo 6 19])
 (sq (.block 0
 (sq (.block 2
 (.block 1
 (sq (sq (sq (rg [mo 21 0,mo 22 1,xo 23 (.bins .eql (.t 21) (.t 22)),mo 20 23])
 (cD 20
 (.exit 1)
 .skip))
 (sq (rg [mo 25 6,mo 26 25,xg 27 (mv 5) 26 true,xg 28 (.bins .eql (.t 27) (.c (.string ⟨#[]⟩))) 26 true,xo 29 (.pick (.t 26) (.t 28) (.b false)),mo 24 29])
 (cD 24
 (.exit 2)
 .skip)))
 (.exit 0))))
 (sq (sq (rg [xo 4 (.mov (.b true))])
 .ret)
 (.exit 0))))
 (sq (rg [mo 30 6,mo 31 30,xg 32 (mv 1) 31 true,xg 33 (.len true (.t 32)) 31 true,xg 34 (mv 5) 31 true,xg 35 (.len true (.t 34)) 31 true,xg 36 (bi .gtr 33 35) 31 true,xo 37 (.pick (.t 31) (.t 36) (.b false)),mo 38 37,xg 39 (mv 1) 38 true,xg 40 (mv 5) 38 true,xg 41 (.call 204 [(.t 39),(.t 40)]) 38 true,xo 42 (.pick (.t 38) (.t 41) (.b false)),mo 4 42])
 .ret)))))⟩
theorem qrO:trFn Tryz.prog 189 [] []=some qnP:=by kernel_rfl
abbrev qMP:Nat:=190
def qmP:FnI:=⟨35,[.tmp 4],
 (sq (rg [xo 4 (.mov (.b false))])
 (sq (sq (rg [mo 7 0,xo 8 (.call 202 [(.t 7)]),xo 9 (.not (.t 8)),mo 10 9,xg 11 (mv 1) 10 false,xg 12 (.call 202 [(.t 11)]) 10 false,xg 13 (.not (.t 12)) 10 false,xo 14 (.pick (.t 10) (.b true) (.t 13))])
 (cD 14
 (sq (rg [xo 4 (.mov (.b false))])
 .ret)
 .skip))
 (sq (rg [mo 16 0,mo 17 1,xo 18 (.call 192 [(.t 16),(.t 17)]),mo 15 18,xo 19 (.ext 0 (.t 15)),xo 20 (.ext 1 (.t 15)),mo 5 19,mo 6 20])
 (sq (rg [mo 21 6,mo 22 21,xg 23 (mv 5) 22 true,xg 24 (.bins .eql (.t 23) (.c (.string ⟨#[]⟩))) 22 true,xg 25 (mv 24) 22 true,xg 26 (mv 1) 25 false,xg 27 (.call 204 [(.t 26),(.c (.string ⟨#[47]⟩))]) 25 false,xg 28 (.pick (.t 25) (.b true) (.t 27)) 22 true,xg 29 (mv 28) 22 true,xg 30 (mv 5) 29 false,xg 31 (.idxs (.t 30) (ci 0)) 29 false,xg 32 (.bini .eql (.t 31) (.c (.int .u8 (47)))) 29 false,xg 33 (.pick (.t 29) (.b true) (.t 32)) 22 true,xo 34 (.pick (.t 22) (.t 33) (.b false)),mo 4 34])
 .ret))))⟩
theorem qqO:trFn Tryz.prog 190 [] []=some qmP:=by kernel_rfl
abbrev q4M:Nat:=191
def qNN:FnI:=⟨19,[.tmp 2],
 (sq (rg [xo 2 (.mov (.b false))])
 (sq (sq (rg [mo 6 0,xo 7 (.call 192 [(.t 6),(.c (.string ⟨#[42,46]⟩))]),mo 5 7,xo 8 (.ext 0 (.t 5)),xo 9 (.ext 1 (.t 5)),mo 3 8,mo 4 9])
 (sq (rg [mo 10 4])
 (cD 10
 (sq (rg [mo 11 3,xo 12 (.call 203 [(.t 11)]),mo 2 12])
 .ret)
 .skip)))
 (sq (rg [mo 13 0,xo 14 (.bins .eql (.t 13) (.c (.string ⟨#[42]⟩))),mo 15 14,xg 16 (mv 0) 15 false,xg 17 (.call 203 [(.t 16)]) 15 false,xo 18 (.pick (.t 15) (.b true) (.t 17)),mo 2 18])
 .ret)))⟩
theorem qbM:trFn Tryz.prog 191 [] []=some qNN:=by kernel_rfl
abbrev qJJ:Nat:=192
def qjJ:FnI:=⟨11,[.tmp 4,.tmp 5],
 (sq (rg [xo 4 (.mov (.c (.string ⟨#[]⟩))),xo 5 (.mov (.b false))])
 (sq (rg [mo 6 0,mo 7 1,xo 8 (.call 205 [(.t 6),(.t 7)]),xo 9 (.ext 0 (.t 8)),xo 10 (.ext 1 (.t 8)),mo 4 9,mo 5 10])
 .ret))⟩
theorem quI:trFn Tryz.prog 192 [] []=some qjJ:=by kernel_rfl
abbrev qWJ:Nat:=193
def qwJ:FnI:=⟨29,[.tmp 2],
 (sq (rg [xo 2 (.mov (.b false))])
 (sq (sq (rg [mo 4 0,xo 5 (.len true (.t 4)),xo 6 (bc .lss 5 1),mo 7 6,xg 8 (mv 0) 7 false,xg 9 (.len true (.t 8)) 7 false,xg 10 (bc .gtr 9 16) 7 false,xo 11 (.pick (.t 7) (.b true) (.t 10)),mo 12 11,xg 13 (mv 0) 12 false,xg 14 (.idxs (.t 13) (ci 0)) 12 false,xg 15 (.call 206 [(.t 14)]) 12 false,xg 16 (.not (.t 15)) 12 false,xo 17 (.pick (.t 12) (.b true) (.t 16))])
 (cD 17
 (sq (rg [xo 2 (.mov (.b false))])
 .ret)
 .skip))
 (sq (sq (rg [xo 3 (.mov (ci 0))])
 (.block 0
 (.loop [3] [18,19,20,21,24,25,26,27,28,2,22,23,3]
 (sq (sq (rg [mo 18 3,mo 19 0,xo 20 (.len true (.t 19)),xo 21 (bi .lss 18 20)])
 (cD 21
 .skip
 (.exit 0)))
 (sq (.block 1
 (sq (rg [mo 24 0,mo 25 3,xo 26 (.idxs (.t 24) (.t 25)),xo 27 (.call 207 [(.t 26)]),xo 28 (.not (.t 27))])
 (cD 28
 (sq (rg [xo 2 (.mov (.b false))])
 .ret)
 .skip)))
 (rg [mo 22 3,xo 23 (bc .add 22 1),mo 3 23]))))))
 (sq (rg [xo 2 (.mov (.b true))])
 .ret))))⟩
theorem q7I:trFn Tryz.prog 193 [] [[3]]=some qwJ:=by kernel_rfl
abbrev qbL:Nat:=194
def qmL:FnI:=⟨13,[.tmp 2],
 (sq (rg [xo 1 (.box 63 (.t 0)),xo 2 (.mov (.b false))])
 (sq (rg [xo 6 (lt 3 1),xo 7 (.call 209 [(.t 6)]),xo 8 (.call 208 [(.t 7)]),mo 5 8,xo 9 (.ext 0 (.t 5)),xo 10 (.ext 1 (.t 5)),mo 3 9,mo 4 10])
 (sq (rg [mo 11 3,xo 12 (bc .eql 11 0),mo 2 12])
 .ret)))⟩
theorem qGL:trFn Tryz.prog 194 [] []=some qmL:=by kernel_rfl
abbrev qZL:Nat:=195
def qkL:FnI:=⟨29,[.tmp 2],
 (sq (rg [xo 1 (.box 78 (.t 0)),xo 2 (.mov (.b false))])
 (sq (rg [xo 6 (lt 3 1),xo 7 (.call 210 [(.t 6)]),mo 5 7,xo 8 (.ext 0 (.t 5)),xo 9 (.ext 1 (.t 5)),mo 3 8,mo 4 9])
 (sq (rg [mo 10 4,xo 11 (bc .eql 10 0),mo 12 11,xg 13 (fa 1 1) 12 true,xg 14 (lf 13) 12 true,xg 15 (.len false (.t 14)) 12 true,xg 16 (bc .geq 15 1) 12 true,xo 17 (.pick (.t 12) (.t 16) (.b false)),mo 18 17,xg 19 (fa 1 1) 18 true,xg 20 (lf 19) 18 true,xg 21 (.len false (.t 20)) 18 true,xg 22 (bc .leq 21 4) 18 true,xo 23 (.pick (.t 18) (.t 22) (.b false)),mo 24 23,xg 25 (fa 2 1) 24 true,xg 26 (lf 25) 24 true,xg 27 (bc .geq 26 0) 24 true,xo 28 (.pick (.t 24) (.t 27) (.b false)),mo 2 28])
 .ret)))⟩
theorem qEL:trFn Tryz.prog 195 [] []=some qkL:=by kernel_rfl
abbrev qCI:Nat:=196
def qVI:FnI:=⟨20,[.tmp 4],
 (sq (rg [xo 4 (.mov (ci 0))])
 (sq (sq (rg [xo 5 (.mov (ci 0))])
 (.block 0
 (.loop [5] [6,7,8,9,12,13,14,15,16,17,18,19,4,10,11,5]
 (sq (sq (rg [mo 6 5,mo 7 0,xo 8 (.len false (.t 7)),xo 9 (bi .lss 6 8)])
 (cD 9
 .skip
 (.exit 0)))
 (sq (.block 1
 (sq (rg [mo 12 0,mo 13 5,xo 14 (ia 3 12 13),fo 15 0 14,lo 16 15,mo 17 1,xo 18 (bi .eql 16 17)])
 (cD 18
 (sq (rg [mo 19 5,mo 4 19])
 .ret)
 .skip)))
 (rg [mo 10 5,xo 11 (bc .add 10 1),mo 5 11]))))))
 (sq (rg [xo 4 (.mov (ci (-1)))])
 .ret)))⟩
theorem qsH:trFn Tryz.prog 196 [] [[5]]=some qVI:=by kernel_rfl
abbrev q6M:Nat:=199
def qON:FnI:=⟨15,[.tmp 6],
 (sq (rg [xo 6 (.mov (.b false))])
 (sq (rg [mo 7 0,mo 8 1,xo 9 (bi .geq 7 8),mo 10 9,xg 11 (mv 0) 10 true,xg 12 (mv 2) 10 true,xg 13 (bi .leq 11 12) 10 true,xo 14 (.pick (.t 10) (.t 13) (.b false)),mo 6 14])
 .ret))⟩
theorem qdM:trFn Tryz.prog 199 [] []=some qON:=by kernel_rfl
abbrev q7C:Nat:=200
def qED:FnI:=⟨9,[.tmp 4],
 (sq (rg [xo 4 (.mov (.b false))])
 (sq (rg [mo 5 0,mo 6 1,xo 7 (.call 214 [(.t 5),(.t 6)]),xo 8 (bc .geq 7 0),mo 4 8])
 .ret))⟩
theorem q1C:trFn Tryz.prog 200 [] []=some qED:=by kernel_rfl
abbrev qoN:Nat:=201
def qyN:FnI:=⟨8,[.tmp 4],
 (sq (rg [xo 3 (.box 9 (.t 1)),xo 4 (.mov (.b false))])
 (sq (rg [mo 5 0,xo 6 (.mkf (.func 216) [] [(.t 3)]),xo 7 (.call 215 [(.t 5),(.t 6)]),mo 4 7])
 .ret))⟩
theorem qcN:trFn Tryz.prog 201 [] []=some qyN:=by kernel_rfl
abbrev qcQ:Nat:=202
def q2Q:FnI:=⟨21,[.tmp 2],
 (sq (rg [xo 2 (.mov (.b false))])
 (sq (rg [mo 3 0,xo 4 (.len true (.t 3)),xo 5 (bc .gtr 4 0),mo 6 5,xg 7 (mv 0) 6 true,xg 8 (.len true (.t 7)) 6 true,xg 9 (bc .leq 8 32) 6 true,xo 10 (.pick (.t 6) (.t 9) (.b false)),mo 11 10,xg 12 (mv 0) 11 true,xg 13 (.idxs (.t 12) (ci 0)) 11 true,xg 14 (.bini .eql (.t 13) (.c (.int .u8 (47)))) 11 true,xo 15 (.pick (.t 11) (.t 14) (.b false)),mo 16 15,xg 17 (.call 166 []) 16 true,xg 18 (mv 0) 16 true,xg 19 (.call 167 [(.t 17),(.t 18),(.c (.int .u8 (47)))]) 16 true,xo 20 (.pick (.t 16) (.t 19) (.b false)),mo 2 20])
 .ret))⟩
theorem q4P:trFn Tryz.prog 202 [] []=some q2Q:=by kernel_rfl
abbrev qeQ:Nat:=203
def q4Q:FnI:=⟨13,[.cell 2 1 false],
 (sq (rg [xo 2 (.alloc 4 [(.v (.bool false))])])
 (sq (sq (rg [mo 4 0,xo 5 (.len true (.t 4)),xo 6 (bc .gtr 5 32)])
 (cD 6
 (sq (rg [xn (.store 1 (.t 2) (.b false))])
 .ret)
 .skip))
 (sq (sq (rg [mo 7 0,xo 8 (.call 217 [(.t 7),(.c (.int .u8 (46)))])])
 (.block 0
 (.rfun (.t 8) [9]
 (rg [mo 3 9])
 (.block 1
 (sq (rg [mo 10 3,xo 11 (.call 122 [(.t 10)]),xo 12 (.not (.t 11))])
 (cD 12
 (sq (rg [xn (.store 1 (.t 2) (.b false))])
 .ret)
 .skip))))))
 (sq (rg [xn (.store 1 (.t 2) (.b true))])
 .ret))))⟩
theorem q6P:trFn Tryz.prog 203 [] []=some q4Q:=by kernel_rfl
abbrev qIJ:Nat:=204
def qiJ:FnI:=⟨8,[.tmp 4],
 (sq (rg [xo 4 (.mov (.b false))])
 (sq (rg [mo 5 0,mo 6 1,xo 7 (.call 218 [(.t 5),(.t 6)]),mo 4 7])
 .ret))⟩
theorem qtI:trFn Tryz.prog 204 [] []=some qiJ:=by kernel_rfl
abbrev qxF:Nat:=205
def qEG:FnI:=⟨15,[.tmp 4,.tmp 5],
 (sq (rg [xo 4 (.mov (.c (.string ⟨#[]⟩))),xo 5 (.mov (.b false))])
 (sq (sq (rg [mo 6 0,mo 7 1,xo 8 (.call 219 [(.t 6),(.t 7)]),xo 9 (.not (.t 8))])
 (cD 9
 (sq (rg [mo 10 0,mo 4 10,xo 5 (.mov (.b false))])
 .ret)
 .skip))
 (sq (rg [mo 11 0,mo 12 1,xo 13 (.len true (.t 12)),xo 14 (.slcs (.t 11) (some (.t 13)) none),mo 4 14,xo 5 (.mov (.b true))])
 .ret)))⟩
theorem qjF:trFn Tryz.prog 205 [] []=some qEG:=by kernel_rfl
abbrev qXK:Nat:=206
def qtK:FnI:=⟨9,[.tmp 2],
 (sq (rg [xo 2 (.mov (.b false))])
 (sq (rg [mo 3 0,xo 4 (.bini .geq (.t 3) (.c (.int .u8 (97)))),mo 5 4,xg 6 (mv 0) 5 true,xg 7 (.bini .leq (.t 6) (.c (.int .u8 (122)))) 5 true,xo 8 (.pick (.t 5) (.t 7) (.b false)),mo 2 8])
 .ret))⟩
theorem q9J:trFn Tryz.prog 206 [] []=some qtK:=by kernel_rfl
abbrev qUJ:Nat:=207
def quJ:FnI:=⟨17,[.tmp 2],
 (sq (rg [xo 2 (.mov (.b false))])
 (sq (rg [mo 3 0,xo 4 (.call 206 [(.t 3)]),mo 5 4,xg 6 (mv 0) 5 false,xg 7 (.bini .geq (.t 6) (.c (.int .u8 (48)))) 5 false,xg 8 (mv 7) 5 false,xg 9 (mv 0) 8 true,xg 10 (.bini .leq (.t 9) (.c (.int .u8 (57)))) 8 true,xg 11 (.pick (.t 8) (.t 10) (.b false)) 5 false,xo 12 (.pick (.t 5) (.b true) (.t 11)),mo 13 12,xg 14 (mv 0) 13 false,xg 15 (.bini .eql (.t 14) (.c (.int .u8 (45)))) 13 false,xo 16 (.pick (.t 13) (.b true) (.t 15)),mo 2 16])
 .ret))⟩
theorem q5I:trFn Tryz.prog 207 [] []=some quJ:=by kernel_rfl
abbrev qDI:Nat:=208
def qWI:FnI:=⟨69,[.tmp 2,.tmp 3],
 (sq (rg [xo 1 (.box 33 (.t 0)),xo 2 (.mov (ci 0)),xo 3 (.mov (ci 0))])
 (sq (sq (rg [fo 10 0 1,lo 11 10,xo 12 (.len false (.t 11)),xo 13 (bc .lss 12 1),mo 14 13,xg 15 (fa 0 1) 14 false,xg 16 (lf 15) 14 false,xg 17 (.len false (.t 16)) 14 false,xg 18 (bc .gtr 17 4) 14 false,xo 19 (.pick (.t 14) (.b true) (.t 18)),mo 20 19,xg 21 (fa 1 1) 20 false,xg 22 (lf 21) 20 false,xg 23 (.len false (.t 22)) 20 false,xg 24 (bc .lss 23 1) 20 false,xo 25 (.pick (.t 20) (.b true) (.t 24)),mo 26 25,xg 27 (fa 1 1) 26 false,xg 28 (lf 27) 26 false,xg 29 (.len false (.t 28)) 26 false,xg 30 (bc .gtr 29 8) 26 false,xo 31 (.pick (.t 26) (.b true) (.t 30)),mo 32 31,xg 33 (fa 2 1) 32 false,xg 34 (lf 33) 32 false,xg 35 (.len false (.t 34)) 32 false,xg 36 (bc .lss 35 1) 32 false,xo 37 (.pick (.t 32) (.b true) (.t 36)),mo 38 37,xg 39 (fa 2 1) 38 false,xg 40 (lf 39) 38 false,xg 41 (.len false (.t 40)) 38 false,xg 42 (bc .gtr 41 4) 38 false,xo 43 (.pick (.t 38) (.b true) (.t 42))])
 (cD 43
 (sq (rg [xo 2 (.mov (ci 6)),xo 3 (.mov (ci 0))])
 .ret)
 .skip))
 (sq (rg [xo 45 (lt 3 1),xo 46 (.call 220 [(.t 45)]),mo 44 46,xo 47 (.ext 0 (.t 44)),xo 48 (.ext 1 (.t 44)),mo 4 47,mo 5 48])
 (sq (sq (rg [mo 49 4,xo 50 (bc .neq 49 0)])
 (cD 50
 (sq (rg [mo 51 4,mo 52 5,mo 2 51,mo 3 52])
 .ret)
 .skip))
 (sq (rg [xo 54 (lt 3 1),xo 55 (.call 221 [(.t 54)]),mo 53 55,xo 56 (.ext 0 (.t 53)),xo 57 (.ext 1 (.t 53)),mo 6 56,mo 7 57])
 (sq (sq (rg [mo 58 6,xo 59 (bc .neq 58 0)])
 (cD 59
 (sq (rg [mo 60 6,mo 61 7,mo 2 60,mo 3 61])
 .ret)
 .skip))
 (sq (rg [xo 63 (lt 3 1),xo 64 (.call 222 [(.t 63)]),mo 62 64,xo 65 (.ext 0 (.t 62)),xo 66 (.ext 1 (.t 62)),mo 8 65,mo 9 66])
 (sq (rg [mo 67 8,mo 68 9,mo 2 67,mo 3 68])
 .ret))))))))⟩
theorem qtH:trFn Tryz.prog 208 [] []=some qWI:=by kernel_rfl
abbrev qFH:Nat:=209
def qWH:FnI:=⟨73,[.cell 2 3 true],
 (sq (rg [xo 1 (.box 63 (.t 0)),xo 2 (.alloc 33 [(.v (.slice none 0 0)),(.v (.slice none 0 0)),(.v (.slice none 0 0))])])
 (sq (rg [fo 7 0 1,lo 8 7,fo 9 2 1,lo 10 9,xo 11 (.build [(.v (.slice none 0 0)),(.v (.slice none 0 0)),(.v (.slice none 0 0))] [(0,1,(.t 8)),(2,1,(.t 10))]),xo 3 (.alloc 33 [(.v (.slice none 0 0)),(.v (.slice none 0 0)),(.v (.slice none 0 0))]),xn (st 3 3 11)])
 (sq (sq (rg [xo 4 (.mov (ci 0))])
 (.block 0
 (.loop [4] [12,13,14,15,16,19,20,21,22,23,5,24,25,26,27,28,6,29,30,31,32,33,34,35,36,37,38,39,40,41,42,43,44,45,46,47,48,49,50,51,52,53,54,55,56,57,58,59,60,61,62,63,64,65,66,67,68,69,70,71,17,18,4]
 (sq (sq (rg [mo 12 4,fo 13 1 1,lo 14 13,xo 15 (.len false (.t 14)),xo 16 (bi .lss 12 15)])
 (cD 16
 .skip
 (.exit 0)))
 (sq (.block 1
 (sq (rg [fo 19 1 1,lo 20 19,mo 21 4,xo 22 (ia 4 20 21),xo 23 (lt 4 22),xo 5 (.alloc 129 [(vi 0),(.v (.string ⟨#[]⟩)),(.v (.string ⟨#[]⟩)),(vi 0)]),xn (st 4 5 23)])
 (sq (rg [fo 24 1 5,lo 25 24,fo 26 2 5,lo 27 26,xo 28 (.build [(.v (.string ⟨#[]⟩)),(.v (.string ⟨#[]⟩)),(.v (.string ⟨#[]⟩)),(.v (.string ⟨#[]⟩))] [(1,1,(.t 25)),(2,1,(.t 27))]),xo 6 (.alloc 225 [(.v (.string ⟨#[]⟩)),(.v (.string ⟨#[]⟩)),(.v (.string ⟨#[]⟩)),(.v (.string ⟨#[]⟩))]),xn (st 4 6 28)])
 (sq (sq (rg [fo 29 0 5,lo 30 29,xo 31 (bc .geq 30 0),mo 32 31,xg 33 (fa 0 5) 32 true,xg 34 (lf 33) 32 true,xg 35 (fa 0 1) 32 true,xg 36 (lf 35) 32 true,xg 37 (.len false (.t 36)) 32 true,xg 38 (bi .lss 34 37) 32 true,xo 39 (.pick (.t 32) (.t 38) (.b false))])
 (cD 39
 (rg [fo 40 0 1,lo 41 40,fo 42 0 5,lo 43 42,xo 44 (ia 1 41 43),lo 45 44,fo 46 0 6,xn (st 1 46 45)])
 .skip))
 (sq (sq (rg [fo 47 3 5,lo 48 47,xo 49 (bc .geq 48 0),mo 50 49,xg 51 (fa 3 5) 50 true,xg 52 (lf 51) 50 true,xg 53 (fa 2 1) 50 true,xg 54 (lf 53) 50 true,xg 55 (.len false (.t 54)) 50 true,xg 56 (bi .lss 52 55) 50 true,xo 57 (.pick (.t 50) (.t 56) (.b false))])
 (cD 57
 (rg [fo 58 2 1,lo 59 58,fo 60 3 5,lo 61 60,xo 62 (ia 4 59 61),fo 63 0 62,lo 64 63,fo 65 3 6,xn (st 1 65 64)])
 .skip))
 (rg [fo 66 1 3,lo 67 66,xo 68 (lt 4 6),xo 69 (.bsl 225 4 1 [(.v (.string ⟨#[]⟩)),(.v (.string ⟨#[]⟩)),(.v (.string ⟨#[]⟩)),(.v (.string ⟨#[]⟩))] [(0,4,(.t 68))]),xo 70 (.app 225 4 64 (.t 67) (.t 69)),fo 71 1 3,xn (st 1 71 70)]))))))
 (rg [mo 17 4,xo 18 (bc .add 17 1),mo 4 18]))))))
 (sq (rg [xo 72 (lt 3 3),xn (st 3 2 72)])
 .ret))))⟩
theorem qyG:trFn Tryz.prog 209 [] [[4]]=some qWH:=by kernel_rfl
abbrev qRJ:Nat:=210
def qrJ:FnI:=⟨36,[.tmp 2,.tmp 3],
 (sq (rg [xo 1 (.box 78 (.t 0)),xo 2 (.mov (.c (.slice none 0 0))),xo 3 (.mov (ci 0))])
 (sq (rg [xo 6 (.bsl 3 1 0 [] []),mo 4 6])
 (sq (sq (rg [fo 7 0 1,lo 8 7,xo 9 (.call 81 [(.t 8)]),mo 5 9])
 (.block 0
 (.loop [4,5] [10,11,17,18,19,20,21,22,23,24,25,26,27,28,29,30,2,3,31,32,33,34,4,12,13,14,15,16,5]
 (sq (sq (rg [mo 10 5,xo 11 (.bini .neq (.t 10) (ci (-1)))])
 (cD 11
 .skip
 (.exit 0)))
 (sq (.block 1
 (sq (sq (rg [mo 17 5,xo 18 (bc .lss 17 0),mo 19 18,xg 20 (mv 5) 19 false,xg 21 (fa 1 1) 19 false,xg 22 (lf 21) 19 false,xg 23 (.len false (.t 22)) 19 false,xg 24 (bi .geq 20 23) 19 false,xo 25 (.pick (.t 19) (.b true) (.t 24)),mo 26 25,xg 27 (mv 4) 26 false,xg 28 (mv 5) 26 false,xg 29 (.call 223 [(.t 27),(.t 28)]) 26 false,xo 30 (.pick (.t 26) (.b true) (.t 29))])
 (cD 30
 (sq (rg [xo 2 (.mov (.c (.slice none 0 0))),xo 3 (.mov (ci 11))])
 .ret)
 .skip))
 (rg [mo 31 4,mo 32 5,xo 33 (.bsl 3 1 1 [(vi 0)] [(0,1,(.t 32))]),xo 34 (.app 3 1 8 (.t 31) (.t 33)),mo 4 34])))
 (rg [fo 12 1 1,lo 13 12,mo 14 5,xo 15 (ia 1 13 14),lo 16 15,mo 5 16]))))))
 (sq (rg [mo 35 4,mo 2 35,xo 3 (.mov (ci 0))])
 .ret))))⟩
theorem q2I:trFn Tryz.prog 210 [] [[4,5]]=some qrJ:=by kernel_rfl
abbrev qjD:Nat:=214
def qnD:FnI:=⟨19,[.tmp 4],
 (sq (rg [xo 4 (.mov (ci 0))])
 (sq (sq (rg [mo 6 0,xo 7 (.len false (.t 6)),xo 8 (.mov (ci 0))])
 (.block 0
 (.loop [8] [9,10,5,11,12,13,14,15,16,17,4,18,8]
 (sq (rg [xo 9 (bi .lss 8 7)])
 (sq (cD 9
 .skip
 (.exit 0))
 (sq (.block 1
 (sq (rg [mo 10 8,mo 5 10])
 (sq (rg [mo 11 1,mo 12 0,mo 13 5,xo 14 (ia 1 12 13),lo 15 14,xo 16 (.bins .eql (.t 11) (.t 15))])
 (cD 16
 (sq (rg [mo 17 5,mo 4 17])
 .ret)
 .skip))))
 (rg [xo 18 (bc .add 8 1),mo 8 18])))))))
 (sq (rg [xo 4 (.mov (ci (-1)))])
 .ret)))⟩
theorem qfD:trFn Tryz.prog 214 [] [[8]]=some qnD:=by kernel_rfl
abbrev qJB:Nat:=215
def qbA:FnI:=⟨9,[.tmp 4],
 (sq (rg [xo 4 (.mov (.b false))])
 (sq (rg [mo 5 0,mo 6 1,xo 7 (.call 228 [(.t 5),(.t 6)]),xo 8 (bc .geq 7 0),mo 4 8])
 .ret))⟩
theorem qFB:trFn Tryz.prog 215 [] []=some qbA:=by kernel_rfl
abbrev qDM:Nat:=216
theorem qGM:FnOk Tryz.prog 216:=FnOk.of (by kernel_rfl)
def qQG:FnI:=⟨8,[.tmp 3],
 (sq (rg [xo 2 (.box 70 (.t 0)),xo 3 (.mov (.b false))])
 (sq (rg [fo 4 0 2,lo 5 4,lo 6 1,xo 7 (.bins .eql (.t 5) (.t 6)),mo 3 7])
 .ret))⟩
theorem q9L:trFn Tryz.prog 216 [] []=some qQG:=by kernel_rfl
abbrev qKP:Nat:=217
def qnK:FnI:=⟨6,[.tmp 4],
 (sq (rg [xo 2 (.box 9 (.t 0)),xo 3 (.box 5 (.t 1)),xo 4 (.mov (.c .nilFunc))])
 (sq (rg [xo 5 (.mkf (.func 229) [] [(.t 2),(.t 3)]),mo 4 5])
 .ret))⟩
theorem qoO:trFn Tryz.prog 217 [] []=some qnK:=by kernel_rfl
abbrev qvF:Nat:=218
def qCG:FnI:=⟨21,[.tmp 4],
 (sq (rg [xo 4 (.mov (.b false))])
 (sq (rg [mo 5 0,xo 6 (.len true (.t 5)),mo 7 1,xo 8 (.len true (.t 7)),xo 9 (bi .geq 6 8),mo 10 9,xg 11 (mv 0) 10 true,xg 12 (mv 0) 10 true,xg 13 (.len true (.t 12)) 10 true,xg 14 (mv 1) 10 true,xg 15 (.len true (.t 14)) 10 true,xg 16 (bi .sub 13 15) 10 true,xg 17 (.slcs (.t 11) (some (.t 16)) none) 10 true,xg 18 (mv 1) 10 true,xg 19 (.bins .eql (.t 17) (.t 18)) 10 true,xo 20 (.pick (.t 10) (.t 19) (.b false)),mo 4 20])
 .ret))⟩
theorem qhF:trFn Tryz.prog 218 [] []=some qCG:=by kernel_rfl
abbrev qwF:Nat:=219
def qDG:FnI:=⟨18,[.tmp 4],
 (sq (rg [xo 4 (.mov (.b false))])
 (sq (rg [mo 5 0,xo 6 (.len true (.t 5)),mo 7 1,xo 8 (.len true (.t 7)),xo 9 (bi .geq 6 8),mo 10 9,xg 11 (mv 0) 10 true,xg 12 (mv 1) 10 true,xg 13 (.len true (.t 12)) 10 true,xg 14 (.slcs (.t 11) none (some (.t 13))) 10 true,xg 15 (mv 1) 10 true,xg 16 (.bins .eql (.t 14) (.t 15)) 10 true,xo 17 (.pick (.t 10) (.t 16) (.b false)),mo 4 17])
 .ret))⟩
theorem qiF:trFn Tryz.prog 219 [] []=some qDG:=by kernel_rfl
abbrev qdG:Nat:=220
def qlG:FnI:=⟨38,[.tmp 2,.tmp 3],
 (sq (rg [xo 1 (.box 33 (.t 0)),xo 2 (.mov (ci 0)),xo 3 (.mov (ci 0))])
 (sq (sq (rg [xo 4 (.mov (ci 0))])
 (.block 0
 (.loop [4] [6,7,8,9,10,13,14,15,16,17,18,19,20,2,3,5,21,22,23,26,27,28,29,30,31,32,33,34,35,36,37,24,25,11,12,4]
 (sq (sq (rg [mo 6 4,fo 7 0 1,lo 8 7,xo 9 (.len false (.t 8)),xo 10 (bi .lss 6 9)])
 (cD 10
 .skip
 (.exit 0)))
 (sq (.block 1
 (sq (sq (rg [fo 13 0 1,lo 14 13,mo 15 4,xo 16 (ia 1 14 15),lo 17 16,xo 18 (.call 193 [(.t 17)]),xo 19 (.not (.t 18))])
 (cD 19
 (sq (rg [mo 20 4,xo 2 (.mov (ci 3)),mo 3 20])
 .ret)
 .skip))
 (sq (rg [xo 5 (.mov (ci 0))])
 (.block 2
 (.loop [5] [21,22,23,26,27,28,29,30,31,32,33,34,35,36,37,2,3,24,25,5]
 (sq (sq (rg [mo 21 5,mo 22 4,xo 23 (bi .lss 21 22)])
 (cD 23
 .skip
 (.exit 2)))
 (sq (.block 3
 (sq (rd [] (of 0 (fo 26 0 1)
 (ot 1 (lo 27 26)
 (of 2 (mo 28 5)
 (ot 3 (xo 29 (ia 1 27 28))
 (ot 4 (lo 30 29)
 (of 5 (fo 31 0 1)
 (ot 6 (lo 32 31)
 (of 7 (mo 33 4)
 (ot 8 (xo 34 (ia 1 32 33))
 (ot 9 (lo 35 34)
 (of 10 (xo 36 (.bins .eql (.t 30) (.t 35)))
 .nil))))))))))))
 (cD 36
 (sq (rg [mo 37 4,xo 2 (.mov (ci 4)),mo 3 37])
 .ret)
 .skip)))
 (rg [mo 24 5,xo 25 (bc .add 24 1),mo 5 25]))))))))
 (rg [mo 11 4,xo 12 (bc .add 11 1),mo 4 12]))))))
 (sq (rg [xo 2 (.mov (ci 0)),xo 3 (.mov (ci 0))])
 .ret)))⟩
theorem qUG:trFn Tryz.prog 220 [([],(fs [0,1,2,3,4,5,6,7,8,9,10] .nil))] [[4],[5]]=some qlG:=by kernel_rfl
abbrev q2F:Nat:=221
def qGG:FnI:=⟨68,[.tmp 2,.tmp 3],
 (sq (rg [xo 1 (.box 33 (.t 0)),xo 2 (.mov (ci 0)),xo 3 (.mov (ci 0))])
 (sq (sq (rg [xo 4 (.mov (ci 0))])
 (.block 0
 (.loop [4] [7,8,9,10,11,14,15,16,17,18,5,19,20,21,22,23,2,3,6,24,25,26,29,30,31,32,33,34,35,36,37,38,27,28,39,40,41,42,43,44,45,46,47,48,49,50,51,52,53,54,55,56,57,58,59,60,61,62,63,64,65,66,67,12,13,4]
 (sq (sq (rg [mo 7 4,fo 8 2 1,lo 9 8,xo 10 (.len false (.t 9)),xo 11 (bi .lss 7 10)])
 (cD 11
 .skip
 (.exit 0)))
 (sq (.block 1
 (sq (rg [fo 14 2 1,lo 15 14,mo 16 4,xo 17 (ia 4 15 16),xo 18 (lt 4 17),xo 5 (.alloc 70 [(.v (.string ⟨#[]⟩)),(vi 0),(vi 0),(.v (.slice none 0 0))]),xn (st 4 5 18)])
 (sq (sq (rg [fo 19 0 5,lo 20 19,xo 21 (.call 193 [(.t 20)]),xo 22 (.not (.t 21))])
 (cD 22
 (sq (rg [mo 23 4,xo 2 (.mov (ci 3)),mo 3 23])
 .ret)
 .skip))
 (sq (sq (rg [xo 6 (.mov (ci 0))])
 (.block 2
 (.loop [6] [24,25,26,29,30,31,32,33,34,35,36,37,38,2,3,27,28,6]
 (sq (sq (rg [mo 24 6,mo 25 4,xo 26 (bi .lss 24 25)])
 (cD 26
 .skip
 (.exit 2)))
 (sq (.block 3
 (sq (rd [] (of 0 (fo 29 2 1)
 (ot 1 (lo 30 29)
 (of 2 (mo 31 6)
 (ot 3 (xo 32 (ia 4 30 31))
 (of 4 (fo 33 0 32)
 (ot 5 (lo 34 33)
 (of 6 (fo 35 0 5)
 (ot 7 (lo 36 35)
 (of 8 (xo 37 (.bins .eql (.t 34) (.t 36)))
 .nil))))))))))
 (cD 37
 (sq (rg [mo 38 4,xo 2 (.mov (ci 4)),mo 3 38])
 .ret)
 .skip)))
 (rg [mo 27 6,xo 28 (bc .add 27 1),mo 6 28]))))))
 (sq (sq (rg [fo 39 1 5,lo 40 39,xo 41 (bc .neq 40 1),mo 42 41,xg 43 (fa 1 5) 42 true,xg 44 (lf 43) 42 true,xg 45 (bc .neq 44 2) 42 true,xo 46 (.pick (.t 42) (.t 45) (.b false))])
 (cD 46
 (sq (rg [mo 47 4,xo 2 (.mov (ci 9)),mo 3 47])
 .ret)
 .skip))
 (sq (sq (rg [fo 48 2 5,lo 49 48,xo 50 (bc .lss 49 1),mo 51 50,xg 52 (fa 2 5) 51 false,xg 53 (lf 52) 51 false,xg 54 (bc .gtr 53 4) 51 false,xo 55 (.pick (.t 51) (.b true) (.t 54))])
 (cD 55
 (sq (rg [mo 56 4,xo 2 (.mov (ci 10)),mo 3 56])
 .ret)
 .skip))
 (sq (rg [fo 57 3 5,lo 58 57,xo 59 (.len false (.t 58)),xo 60 (bc .lss 59 1),mo 61 60,xg 62 (fa 3 5) 61 false,xg 63 (lf 62) 61 false,xg 64 (.len false (.t 63)) 61 false,xg 65 (bc .gtr 64 4) 61 false,xo 66 (.pick (.t 61) (.b true) (.t 65))])
 (cD 66
 (sq (rg [mo 67 4,xo 2 (.mov (ci 6)),mo 3 67])
 .ret)
 .skip))))))))
 (rg [mo 12 4,xo 13 (bc .add 12 1),mo 4 13]))))))
 (sq (rg [xo 2 (.mov (ci 0)),xo 3 (.mov (ci 0))])
 .ret)))⟩
theorem qlF:trFn Tryz.prog 221 [([],(fs [0,1,2,3,4,5,6,7,8] .nil))] [[4],[6]]=some qGG:=by kernel_rfl
abbrev qGH:Nat:=222
def qXH:FnI:=⟨74,[.tmp 2,.tmp 3],
 (sq (rg [xo 1 (.box 33 (.t 0)),xo 2 (.mov (ci 0)),xo 3 (.mov (ci 0))])
 (sq (sq (rg [xo 4 (.mov (ci 0))])
 (.block 0
 (.loop [4] [8,9,10,11,12,15,16,17,18,19,5,20,21,22,23,24,25,26,2,3,27,28,29,30,31,32,33,34,35,36,37,38,39,40,41,42,43,6,44,45,46,49,50,51,52,53,7,54,55,56,57,58,59,60,61,62,63,64,65,66,67,68,69,70,71,72,73,47,48,13,14,4]
 (sq (sq (rg [mo 8 4,fo 9 1 1,lo 10 9,xo 11 (.len false (.t 10)),xo 12 (bi .lss 8 11)])
 (cD 12
 .skip
 (.exit 0)))
 (sq (.block 1
 (sq (rg [fo 15 1 1,lo 16 15,mo 17 4,xo 18 (ia 4 16 17),xo 19 (lt 4 18),xo 5 (.alloc 225 [(.v (.string ⟨#[]⟩)),(.v (.string ⟨#[]⟩)),(.v (.string ⟨#[]⟩)),(.v (.string ⟨#[]⟩))]),xn (st 4 5 19)])
 (sq (sq (rg [fo 20 0 1,lo 21 20,fo 22 0 5,lo 23 22,xo 24 (.call 179 [(.t 21),(.t 23)]),xo 25 (bc .lss 24 0)])
 (cD 25
 (sq (rg [mo 26 4,xo 2 (.mov (ci 5)),mo 3 26])
 .ret)
 .skip))
 (sq (sq (rg [fo 27 1 5,lo 28 27,xo 29 (.call 224 [(.t 28)]),xo 30 (.not (.t 29))])
 (cD 30
 (sq (rg [mo 31 4,xo 2 (.mov (ci 7)),mo 3 31])
 .ret)
 .skip))
 (sq (sq (rg [fo 32 2 5,lo 33 32,xo 34 (.call 226 [(.t 33)]),xo 35 (.not (.t 34))])
 (cD 35
 (sq (rg [mo 36 4,xo 2 (.mov (ci 8)),mo 3 36])
 .ret)
 .skip))
 (sq (sq (rg [fo 37 2 1,lo 38 37,fo 39 3 5,lo 40 39,xo 41 (.call 231 [(.t 38),(.t 40)]),xo 42 (bc .lss 41 0)])
 (cD 42
 (sq (rg [mo 43 4,xo 2 (.mov (ci 5)),mo 3 43])
 .ret)
 .skip))
 (sq (rg [xo 6 (.mov (ci 0))])
 (.block 2
 (.loop [6] [44,45,46,49,50,51,52,53,7,54,55,56,57,58,59,60,61,62,63,64,65,66,67,68,69,70,71,72,73,2,3,47,48,6]
 (sq (sq (rg [mo 44 6,mo 45 4,xo 46 (bi .lss 44 45)])
 (cD 46
 .skip
 (.exit 2)))
 (sq (.block 3
 (sq (rg [fo 49 1 1,lo 50 49,mo 51 6,xo 52 (ia 4 50 51),xo 53 (lt 4 52),xo 7 (.alloc 225 [(.v (.string ⟨#[]⟩)),(.v (.string ⟨#[]⟩)),(.v (.string ⟨#[]⟩)),(.v (.string ⟨#[]⟩))]),xn (st 4 7 53)])
 (sq (rg [fo 54 0 7,lo 55 54,fo 56 0 5,lo 57 56,xo 58 (.bins .eql (.t 55) (.t 57)),mo 59 58,xg 60 (fa 1 7) 59 true,xg 61 (lf 60) 59 true,xg 62 (fa 1 5) 59 true,xg 63 (lf 62) 59 true,xg 64 (.bins .eql (.t 61) (.t 63)) 59 true,xo 65 (.pick (.t 59) (.t 64) (.b false)),mo 66 65,xg 67 (fa 2 7) 66 true,xg 68 (lf 67) 66 true,xg 69 (fa 2 5) 66 true,xg 70 (lf 69) 66 true,xg 71 (.bins .eql (.t 68) (.t 70)) 66 true,xo 72 (.pick (.t 66) (.t 71) (.b false))])
 (cD 72
 (sq (rg [mo 73 4,xo 2 (.mov (ci 4)),mo 3 73])
 .ret)
 .skip))))
 (rg [mo 47 6,xo 48 (bc .add 47 1),mo 6 48]))))))))))))
 (rg [mo 13 4,xo 14 (bc .add 13 1),mo 4 14]))))))
 (sq (rg [xo 2 (.mov (ci 0)),xo 3 (.mov (ci 0))])
 .ret)))⟩
theorem qzG:trFn Tryz.prog 222 [] [[4],[6]]=some qXH:=by kernel_rfl
abbrev qUK:Nat:=223
def qwE:FnI:=⟨18,[.tmp 4],
 (sq (rg [xo 4 (.mov (.b false))])
 (sq (sq (rg [xo 5 (.mov (ci 0))])
 (.block 0
 (.loop [5] [6,7,8,9,12,13,14,15,16,17,4,10,11,5]
 (sq (sq (rg [mo 6 5,mo 7 0,xo 8 (.len false (.t 7)),xo 9 (bi .lss 6 8)])
 (cD 9
 .skip
 (.exit 0)))
 (sq (.block 1
 (sq (rg [mo 12 0,mo 13 5,xo 14 (ia 1 12 13),lo 15 14,mo 16 1,xo 17 (bi .eql 15 16)])
 (cD 17
 (sq (rg [xo 4 (.mov (.b true))])
 .ret)
 .skip)))
 (rg [mo 10 5,xo 11 (bc .add 10 1),mo 5 11]))))))
 (sq (rg [xo 4 (.mov (.b false))])
 .ret)))⟩
theorem q6J:trFn Tryz.prog 223 [] [[5]]=some qwE:=by kernel_rfl
abbrev qfG:Nat:=224
def qnG:FnI:=⟨20,[.tmp 2],
 (sq (rg [xo 2 (.mov (.b false))])
 (sq (sq (rg [mo 3 0,xo 4 (.len true (.t 3)),xo 5 (bc .gtr 4 2),mo 6 5,xg 7 (mv 0) 6 true,xg 8 (.slcs (.t 7) none (some (ci 2))) 6 true,xg 9 (.bins .eql (.t 8) (.c (.string ⟨#[42,46]⟩))) 6 true,xo 10 (.pick (.t 6) (.t 9) (.b false))])
 (cD 10
 (sq (rg [mo 11 0,xo 12 (.slcs (.t 11) (some (ci 2)) none),xo 13 (.call 225 [(.t 12)]),mo 2 13])
 .ret)
 .skip))
 (sq (rg [mo 14 0,xo 15 (.bins .eql (.t 14) (.c (.string ⟨#[42]⟩))),mo 16 15,xg 17 (mv 0) 16 false,xg 18 (.call 225 [(.t 17)]) 16 false,xo 19 (.pick (.t 16) (.b true) (.t 18)),mo 2 19])
 .ret)))⟩
theorem qWG:trFn Tryz.prog 224 [] []=some qnG:=by kernel_rfl
abbrev qXJ:Nat:=225
def qxJ:FnI:=⟨22,[.tmp 2],
 (sq (rg [xo 2 (.mov (.b false))])
 (sq (rg [mo 5 0,xo 6 (.call 232 [(.t 5),(.c (.int .u8 (46)))]),mo 3 6])
 (sq (sq (rg [xo 4 (.mov (ci 0))])
 (.block 0
 (.loop [4] [7,8,9,10,13,14,15,16,17,18,2,11,12,4]
 (sq (sq (rg [mo 7 4,mo 8 3,xo 9 (.len false (.t 8)),xo 10 (bi .lss 7 9)])
 (cD 10
 .skip
 (.exit 0)))
 (sq (.block 1
 (sq (rg [mo 13 3,mo 14 4,xo 15 (ia 1 13 14),lo 16 15,xo 17 (.call 193 [(.t 16)]),xo 18 (.not (.t 17))])
 (cD 18
 (sq (rg [xo 2 (.mov (.b false))])
 .ret)
 .skip)))
 (rg [mo 11 4,xo 12 (bc .add 11 1),mo 4 12]))))))
 (sq (rg [mo 19 0,xo 20 (.len true (.t 19)),xo 21 (bc .leq 20 32),mo 2 21])
 .ret))))⟩
theorem q8I:trFn Tryz.prog 225 [] [[4]]=some qxJ:=by kernel_rfl
abbrev qVJ:Nat:=226
def qvJ:FnI:=⟨34,[.tmp 2],
 (sq (rg [xo 2 (.mov (.b false))])
 (sq (sq (rg [mo 4 0,xo 5 (.len true (.t 4)),xo 6 (bc .lss 5 1),mo 7 6,xg 8 (mv 0) 7 false,xg 9 (.len true (.t 8)) 7 false,xg 10 (bc .gtr 9 32) 7 false,xo 11 (.pick (.t 7) (.b true) (.t 10)),mo 12 11,xg 13 (mv 0) 12 false,xg 14 (.idxs (.t 13) (ci 0)) 12 false,xg 15 (.bini .neq (.t 14) (.c (.int .u8 (47)))) 12 false,xo 16 (.pick (.t 12) (.b true) (.t 15))])
 (cD 16
 (sq (rg [xo 2 (.mov (.b false))])
 .ret)
 .skip))
 (sq (sq (rg [xo 3 (.mov (ci 0))])
 (.block 0
 (.loop [3] [17,18,19,20,23,24,25,26,27,28,29,30,31,32,33,2,21,22,3]
 (sq (sq (rg [mo 17 3,mo 18 0,xo 19 (.len true (.t 18)),xo 20 (bi .lss 17 19)])
 (cD 20
 .skip
 (.exit 0)))
 (sq (.block 1
 (sq (rg [mo 23 0,mo 24 3,xo 25 (.idxs (.t 23) (.t 24)),xo 26 (.call 207 [(.t 25)]),xo 27 (.not (.t 26)),mo 28 27,xg 29 (mv 0) 28 true,xg 30 (mv 3) 28 true,xg 31 (.idxs (.t 29) (.t 30)) 28 true,xg 32 (.bini .neq (.t 31) (.c (.int .u8 (47)))) 28 true,xo 33 (.pick (.t 28) (.t 32) (.b false))])
 (cD 33
 (sq (rg [xo 2 (.mov (.b false))])
 .ret)
 .skip)))
 (rg [mo 21 3,xo 22 (bc .add 21 1),mo 3 22]))))))
 (sq (rg [xo 2 (.mov (.b true))])
 .ret))))⟩
theorem q6I:trFn Tryz.prog 226 [] [[3]]=some qvJ:=by kernel_rfl
abbrev qcB:Nat:=228
def qgA:FnI:=⟨19,[.tmp 4],
 (sq (rg [xo 4 (.mov (ci 0))])
 (sq (sq (rg [mo 6 0,xo 7 (.len false (.t 6)),xo 8 (.mov (ci 0))])
 (.block 0
 (.loop [8] [9,10,5,11,12,13,14,15,16,17,4,18,8]
 (sq (rg [xo 9 (bi .lss 8 7)])
 (sq (cD 9
 .skip
 (.exit 0))
 (sq (.block 1
 (sq (rg [mo 10 8,mo 5 10])
 (sq (rg [mo 11 1,mo 12 0,mo 13 5,xo 14 (ia 4 12 13),xo 15 (lt 4 14),xo 16 (.callv (.t 11) [(.t 15)])])
 (cD 16
 (sq (rg [mo 17 5,mo 4 17])
 .ret)
 .skip))))
 (rg [xo 18 (bc .add 8 1),mo 8 18])))))))
 (sq (rg [xo 4 (.mov (ci (-1)))])
 .ret)))⟩
theorem qaB:trFn Tryz.prog 228 [] [[8]]=some qgA:=by kernel_rfl
abbrev q3M:Nat:=229
theorem qBN:FnOk Tryz.prog 229:=FnOk.of (by kernel_rfl)
def qVH:FnI:=⟨23,[],
 (.block 0
 (.loop [] [5,6,7,4,8,9,10,11,12,13,14,15,16,17,18,19,20,21,22]
 (.block 1
 (sq (rg [lo 5 1,lo 6 2,xo 7 (.call 230 [(.t 5),(.t 6)]),mo 4 7])
 (sq (sq (rg [mo 8 4,xo 9 (bc .lss 8 0)])
 (cD 9
 (sq (rg [mo 10 0,lo 11 1,xo 12 (.callv (.t 10) [(.t 11)])])
 .ret)
 .skip))
 (sq (sq (rg [mo 13 0,lo 14 1,mo 15 4,xo 16 (.slcs (.t 14) none (some (.t 15))),xo 17 (.callv (.t 13) [(.t 16)]),xo 18 (.not (.t 17))])
 (cD 18
 .ret
 .skip))
 (rg [lo 19 1,mo 20 4,xo 21 (bc .add 20 1),xo 22 (.slcs (.t 19) (some (.t 21)) none),xn (st 1 1 22)])))))))⟩
theorem qaM:trFn Tryz.prog 229 [] [[]]=some qVH:=by kernel_rfl
abbrev qHJ:Nat:=230
def qhJ:FnI:=⟨8,[.tmp 4],
 (sq (rg [xo 4 (.mov (ci 0))])
 (sq (rg [mo 5 0,mo 6 1,xo 7 (.call 233 [(.t 5),(.t 6)]),mo 4 7])
 .ret))⟩
theorem qsI:trFn Tryz.prog 230 [] []=some qhJ:=by kernel_rfl
abbrev qeG:Nat:=231
def qmG:FnI:=⟨20,[.tmp 4],
 (sq (rg [xo 4 (.mov (ci 0))])
 (sq (sq (rg [xo 5 (.mov (ci 0))])
 (.block 0
 (.loop [5] [6,7,8,9,12,13,14,15,16,17,18,19,4,10,11,5]
 (sq (sq (rg [mo 6 5,mo 7 0,xo 8 (.len false (.t 7)),xo 9 (bi .lss 6 8)])
 (cD 9
 .skip
 (.exit 0)))
 (sq (.block 1
 (sq (rg [mo 12 0,mo 13 5,xo 14 (ia 4 12 13),fo 15 0 14,lo 16 15,mo 17 1,xo 18 (.bins .eql (.t 16) (.t 17))])
 (cD 18
 (sq (rg [mo 19 5,mo 4 19])
 .ret)
 .skip)))
 (rg [mo 10 5,xo 11 (bc .add 10 1),mo 5 11]))))))
 (sq (rg [xo 4 (.mov (ci (-1)))])
 .ret)))⟩
theorem qVG:trFn Tryz.prog 231 [] [[5]]=some qmG:=by kernel_rfl
abbrev qEI:Nat:=232
def qXI:FnI:=⟨35,[.tmp 4],
 (sq (rg [xo 4 (.mov (.c (.slice none 0 0)))])
 (sq (rg [xo 8 (.bsl 9 1 0 [] []),mo 5 8])
 (sq (rg [xo 6 (.mov (ci 0))])
 (sq (sq (rg [xo 7 (.mov (ci 0))])
 (.block 0
 (.loop [5,6,7] [9,10,11,12,15,16,17,18,19,20,21,22,23,24,25,26,5,27,28,6,13,14,7]
 (sq (sq (rg [mo 9 7,mo 10 0,xo 11 (.len true (.t 10)),xo 12 (bi .lss 9 11)])
 (cD 12
 .skip
 (.exit 0)))
 (sq (.block 1
 (sq (rg [mo 15 0,mo 16 7,xo 17 (.idxs (.t 15) (.t 16)),mo 18 1,xo 19 (bi .eql 17 18)])
 (cD 19
 (sq (rg [mo 20 5,mo 21 0,mo 22 6,mo 23 7,xo 24 (.slcs (.t 21) (some (.t 22)) (some (.t 23))),xo 25 (.bsl 9 1 1 [(.v (.string ⟨#[]⟩))] [(0,1,(.t 24))]),xo 26 (.app 9 1 16 (.t 20) (.t 25)),mo 5 26])
 (rg [mo 27 7,xo 28 (bc .add 27 1),mo 6 28]))
 .skip)))
 (rg [mo 13 7,xo 14 (bc .add 13 1),mo 7 14]))))))
 (sq (rg [mo 29 5,mo 30 0,mo 31 6,xo 32 (.slcs (.t 30) (some (.t 31)) none),xo 33 (.bsl 9 1 1 [(.v (.string ⟨#[]⟩))] [(0,1,(.t 32))]),xo 34 (.app 9 1 16 (.t 29) (.t 33)),mo 4 34])
 .ret)))))⟩
theorem quH:trFn Tryz.prog 232 [] [[5,6,7]]=some qXI:=by kernel_rfl
abbrev quF:Nat:=233
end Go.Proofs.YthonngjhelcpeaaGreat
