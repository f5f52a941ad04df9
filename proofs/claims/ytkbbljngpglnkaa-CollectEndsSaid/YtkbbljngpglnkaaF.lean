/- The functions, as the evaluator reads them: each is what the given program's code says (checked by the kernel). -/
import Derived.Test.YtkbbljngpglnkaaSxB
import Derived.Test.YtkbbljngpglnkaaRows
set_option linter.unusedVariables false
set_option linter.unusedSimpArgs false
namespace Go.Proofs.Ytkbbljngpglnkaa
open Go.Proofs.Ytkbbljngpglnkaa.Sx
abbrev zl0:List SV:=[(.v (.int .i64 (0))),(.v (.string ⟨#[]⟩)),(.v (.string ⟨#[]⟩)),(.v (.string ⟨#[]⟩)),(.v (.int .i64 (0))),(.v (.int .i64 (0))),(.v (.int .i64 (0))),(.v (.slice none 0 0)),(.v (.slice none 0 0)),(.v (.slice none 0 0)),(.v (.int .i64 (0))),(.v (.int .i64 (0))),(.v (.int .i64 (0))),(.v (.int .i64 (0))),(.v (.int .i64 (0))),(.v (.int .i64 (0))),(.v (.int .i64 (0))),(.v (.int .i64 (0))),(.v (.int .i64 (0))),(.v (.int .u64 (0))),(.v (.int .i64 (0))),(.v (.int .i64 (0))),(.v (.int .i64 (0))),(.v (.int .i64 (0))),(.v (.bool false)),(.v (.int .i64 (0))),(.v (.int .i64 (0))),(.v (.int .i64 (0))),(.v (.int .i64 (0))),(.v (.int .i64 (0))),(.v (.int .i64 (0))),(.v (.int .i64 (0))),(.v (.int .u64 (0))),(.v (.int .u64 (0))),(.v (.int .u64 (0))),(.v (.int .u64 (0))),(.v (.int .u64 (0))),(.v (.int .u64 (0))),(.v (.int .u64 (0))),(.v (.int .u64 (0))),(.v (.int .u64 (0))),(.v (.int .u64 (0))),(.v (.int .u64 (0))),(.v (.int .u64 (0)))]
abbrev zl1:List SV:=[(.v (.int .i64 (0))),(.v (.int .i64 (0))),(.v (.int .i64 (0))),(.v (.int .i64 (0))),(.v (.int .i64 (0))),(.v (.bool false)),(.v (.int .i64 (0))),(.v (.bool false)),(.v (.bool false)),(.v (.bool false)),(.v (.int .i64 (0))),(.v (.int .i64 (0))),(.v (.int .i64 (0))),(.v (.int .i64 (0))),(.v (.int .i64 (0))),(.v (.int .i64 (0))),(.v (.int .i64 (0))),(.v (.int .u64 (0))),(.v (.int .u64 (0))),(.v (.int .u64 (0))),(.v (.int .u64 (0))),(.v (.int .u64 (0))),(.v (.int .u64 (0)))]
abbrev zl2:List SV:=[(.v (.int .i64 (0))),(.v (.int .i64 (0))),(.v (.int .i64 (0))),(.v (.int .i64 (0))),(.v (.int .i64 (0))),(.v (.int .i64 (0))),(.v (.int .i64 (0))),(.v (.int .u64 (0))),(.v (.int .u64 (0))),(.v (.int .u64 (0))),(.v (.int .u64 (0))),(.v (.int .u64 (0))),(.v (.int .u64 (0)))]
abbrev q4A:Nat:=3
abbrev qzG:Nat:=4
abbrev qIG:Nat:=9
abbrev qyD:Nat:=22
abbrev qzD:Nat:=23
abbrev qhE:Nat:=24
abbrev qoF:Nat:=25
abbrev q0D:Nat:=26
abbrev qIA:Nat:=28
abbrev qIK:Nat:=30
abbrev qyG:Nat:=32
abbrev qKG:Nat:=34
abbrev qxD:Nat:=37
abbrev qpF:Nat:=42
abbrev qJB:Nat:=46
abbrev qJK:Nat:=47
abbrev qeI:Nat:=58
abbrev qdA:Nat:=60
abbrev qwE:Nat:=61
abbrev qBA:Nat:=63
abbrev qJG:Nat:=67
abbrev qWA:Nat:=69
abbrev qZA:Nat:=72
abbrev qkB:Nat:=79
abbrev qLA:Nat:=81
abbrev qrM:Nat:=84
abbrev qgC:Nat:=86
abbrev qiH:Nat:=93
abbrev qHC:Nat:=97
abbrev qIH:Nat:=158
abbrev mv (n:Nat):SOp:=.mov (.t n)
abbrev lf (n:Nat):SOp:=.load false 1 (.t n)
abbrev lt (s n:Nat):SOp:=.load true s (.t n)
abbrev fa (k n:Nat):SOp:=.fadr k (.t n)
abbrev nk (n:Nat):SOp:=.nck (.t n)
abbrev ci (n:Int):Opd:=.c (.int .i64 n)
abbrev vi (n:Int):SV:=.v (.int .i64 n)
abbrev of (i:Nat) (o:SOper) (r:OT):OT:=.op ⟨i,false,[],o⟩ r
abbrev ot (i:Nat) (o:SOper) (r:OT):OT:=.op ⟨i,true,[],o⟩ r
abbrev mo (d n:Nat):SOper:=xo d (mv n)
abbrev lo (d n:Nat):SOper:=xo d (lf n)
abbrev fo (d k n:Nat):SOper:=xo d (fa k n)
abbrev sq (a b:SCode):SCode:=.seq a b
abbrev rg (l:List SOper):SCode:=.reg l
abbrev rd (l:List Nat) (t:OT):SCode:=.regD l t
abbrev bi (o:BinOp) (a b:Nat):SOp:=.bini o (.t a) (.t b)
abbrev bc (o:BinOp) (a:Nat) (n:Int):SOp:=.bini o (.t a) (ci n)
abbrev cD (a:Nat) (x y:SCode):SCode:=.cond (.t a) x y
abbrev ia (k a b:Nat):SOp:=.iadr k (.t a) (.t b)
abbrev st (k a b:Nat):SOp:=.store k (.t a) (.t b)
abbrev fs (l:List Nat) (r:OI):OI:=l.foldr .first r
abbrev qWD:Nat:=4
def qZD:FnI:=⟨53,[.tmp 6],
 (sq (rg [xo 3 (.box 28 (.t 0)),xo 6 (.mov (.b false))])
 (sq (sq (rg [xo 7 (lt 8 3),xo 8 (.call 5 [(.t 7)]),mo 9 8,xg 10 (mv 2) 9 false,xg 11 (bc .lss 10 0) 9 false,xo 12 (.pick (.t 9) (.b true) (.t 11)),mo 13 12,xg 14 (mv 2) 13 false,xg 15 (fa 4 3) 13 false,xg 16 (lf 15) 13 false,xg 17 (.len false (.t 16)) 13 false,xg 18 (bi .geq 14 17) 13 false,xo 19 (.pick (.t 13) (.b true) (.t 18))])
 (cD 19
 (sq (rg [xo 20 (.call 11 []),mo 6 20])
 .ret)
 .skip))
 (sq (rd [] (of 0 (xo 21 (.call 11 []))
 (of 1 (mo 22 21)
 (of 2 (xg 23 (fa 4 3) 22 true)
 (ot 3 (xg 24 (lf 23) 22 true)
 (of 4 (xg 25 (mv 2) 22 true)
 (ot 5 (xg 26 (ia 5 24 25) 22 true)
 (ot 6 (xg 27 (lt 5 26) 22 true)
 (of 8 (xg 29 (fa 4 3) 22 true)
 (ot 9 (xg 30 (lf 29) 22 true)
 (of 10 (xg 31 (mv 2) 22 true)
 (ot 11 (xg 32 (ia 5 30 31) 22 true)
 (ot 12 (xg 33 (lt 5 32) 22 true)
 (of 7 (xg 28 (.call 12 [(.t 27)]) 22 true)
 (of 13 (xg 34 (.call 13 [(.t 33)]) 22 true)
 (of 14 (xg 35 (bi .eql 28 34) 22 true)
 (of 15 (xo 36 (.pick (.t 22) (.t 35) (.b false)))
 (of 16 (mo 37 36)
 (ot 17 (xg 38 (lt 8 3) 37 true)
 (of 18 (xg 39 (mv 1) 37 true)
 (of 19 (xg 40 (.build zl0 [(10,1,(.t 39))]) 37 true)
 (of 20 (xg 41 (.call 6 [(.t 38),(.t 40)]) 37 true)
 (of 21 (xg 42 (.not (.t 41)) 37 true)
 (of 22 (xg 43 (mv 42) 37 true)
 (of 23 (xg 44 (fa 4 3) 43 false)
 (ot 24 (xg 45 (lf 44) 43 false)
 (of 25 (xg 46 (mv 2) 43 false)
 (ot 26 (xg 47 (ia 5 45 46) 43 false)
 (ot 27 (xg 48 (lt 5 47) 43 false)
 (of 28 (xg 49 (.call 12 [(.t 48)]) 43 false)
 (of 29 (xg 50 (bc .geq 49 1) 43 false)
 (of 30 (xg 51 (.pick (.t 43) (.b true) (.t 50)) 37 true)
 (of 31 (xo 52 (.pick (.t 37) (.t 51) (.b false)))
 (of 32 (mo 6 52)
 .nil))))))))))))))))))))))))))))))))))
 .ret)))⟩
theorem qRD:trFn Try.prog 4 [([],(.exec 0 (fs [1,2,3,4,5,6,8,9,10,11,12] (.exec 7 (.exec 13 (fs [14,15,16,17,18,19] (.exec 20 (fs [21,22,23,24,25,26,27] (.exec 28 (fs [29,30,31,32] .nil))))))))))] []=some qZD:=by kernel_rfl
abbrev qaG:Nat:=5
def qnG:FnI:=⟨69,[.tmp 2],
 (sq (rg [xo 1 (.box 28 (.t 0)),xo 2 (.mov (.b false))])
 (sq (sq (rg [fo 6 3 1,lo 7 6,xo 8 (.len false (.t 7)),xo 9 (bc .gtr 8 20),mo 10 9,xg 11 (fa 4 1) 10 false,xg 12 (lf 11) 10 false,xg 13 (.len false (.t 12)) 10 false,xg 14 (bc .gtr 13 40) 10 false,xo 15 (.pick (.t 10) (.b true) (.t 14)),mo 16 15,xg 17 (fa 5 1) 16 false,xg 18 (lf 17) 16 false,xg 19 (.len false (.t 18)) 16 false,xg 20 (bc .gtr 19 40) 16 false,xo 21 (.pick (.t 16) (.b true) (.t 20)),mo 22 21,xg 23 (fa 6 1) 22 false,xg 24 (lf 23) 22 false,xg 25 (.call 14 [(.t 24)]) 22 false,xo 26 (.pick (.t 22) (.b true) (.t 25)),mo 27 26,xg 28 (fa 7 1) 27 false,xg 29 (lf 28) 27 false,xg 30 (.len false (.t 29)) 27 false,xg 31 (bc .gtr 30 60) 27 false,xo 32 (.pick (.t 27) (.b true) (.t 31))])
 (cD 32
 (sq (rg [xo 2 (.mov (.b true))])
 .ret)
 .skip))
 (sq (sq (rg [xo 3 (.mov (ci 0))])
 (.block 0
 (.loop [3] [33,34,35,36,37,40,41,42,43,44,4,45,46,47,48,49,50,51,52,53,2,5,54,55,56,57,58,61,62,63,64,65,66,67,68,59,60,38,39,3]
 (sq (sq (rg [mo 33 3,fo 34 4 1,lo 35 34,xo 36 (.len false (.t 35)),xo 37 (bi .lss 33 36)])
 (cD 37
 .skip
 (.exit 0)))
 (sq (.block 1
 (sq (rg [fo 40 4 1,lo 41 40,mo 42 3,xo 43 (ia 5 41 42),xo 44 (lt 5 43),xo 4 (.alloc 63 [(.v (.slice none 0 0)),(.v (.slice none 0 0)),(.v (.slice none 0 0)),(.v (.slice none 0 0)),(.v (.bool false))]),xn (st 5 4 44)])
 (sq (sq (rg [fo 45 0 4,xo 46 (lt 3 45),xo 47 (.call 15 [(.t 46)]),mo 48 47,xg 49 (fa 3 4) 48 false,xg 50 (lf 49) 48 false,xg 51 (.len false (.t 50)) 48 false,xg 52 (bc .gtr 51 20) 48 false,xo 53 (.pick (.t 48) (.b true) (.t 52))])
 (cD 53
 (sq (rg [xo 2 (.mov (.b true))])
 .ret)
 .skip))
 (sq (rg [xo 5 (.mov (ci 0))])
 (.block 2
 (.loop [5] [54,55,56,57,58,61,62,63,64,65,66,67,68,2,59,60,5]
 (sq (sq (rg [mo 54 5,fo 55 3 4,lo 56 55,xo 57 (.len false (.t 56)),xo 58 (bi .lss 54 57)])
 (cD 58
 .skip
 (.exit 2)))
 (sq (.block 3
 (sq (rg [fo 61 3 4,lo 62 61,mo 63 5,xo 64 (ia 2 62 63),fo 65 1 64,lo 66 65,xo 67 (.len false (.t 66)),xo 68 (bc .gtr 67 20)])
 (cD 68
 (sq (rg [xo 2 (.mov (.b true))])
 .ret)
 .skip)))
 (rg [mo 59 5,xo 60 (bc .add 59 1),mo 5 60])))))))))
 (rg [mo 38 3,xo 39 (bc .add 38 1),mo 3 39]))))))
 (sq (rg [xo 2 (.mov (.b false))])
 .ret))))⟩
theorem qMG:trFn Try.prog 5 [] [[3],[5]]=some qnG:=by kernel_rfl
abbrev q4L:Nat:=6
def qJM:FnI:=⟨96,[.tmp 4],
 (sq (rg [xo 2 (.box 28 (.t 0)),xo 3 (.box 42 (.t 1)),xo 4 (.mov (.b false))])
 (sq (sq (rg [xo 7 (lt 8 2),xo 8 (.call 16 [(.t 7)]),xo 9 (.not (.t 8)),mo 10 9,xg 11 (fa 10 3) 10 false,xg 12 (lf 11) 10 false,xg 13 (fa 3 2) 10 false,xg 14 (lf 13) 10 false,xg 15 (.len false (.t 14)) 10 false,xg 16 (.call 17 [(.t 12),(.t 15)]) 10 false,xg 17 (.not (.t 16)) 10 false,xo 18 (.pick (.t 10) (.b true) (.t 17)),mo 19 18,xg 20 (fa 24 3) 19 false,xg 21 (lf 20) 19 false,xo 22 (.pick (.t 19) (.b true) (.t 21)),mo 23 22,xg 24 (fa 13 3) 23 false,xg 25 (lf 24) 23 false,xg 26 (fa 4 2) 23 false,xg 27 (lf 26) 23 false,xg 28 (.len false (.t 27)) 23 false,xg 29 (.call 17 [(.t 25),(.t 28)]) 23 false,xg 30 (.not (.t 29)) 23 false,xo 31 (.pick (.t 23) (.b true) (.t 30))])
 (cD 31
 (sq (rg [xo 4 (.mov (.b false))])
 .ret)
 .skip))
 (sq (rg [fo 32 4 2,lo 33 32,fo 34 13 3,lo 35 34,xo 36 (ia 5 33 35),fo 37 3 36,lo 38 37,mo 5 38])
 (sq (sq (rg [fo 39 15 3,lo 40 39,mo 41 5,xo 42 (.len false (.t 41)),xo 43 (.call 17 [(.t 40),(.t 42)]),xo 44 (.not (.t 43))])
 (cD 44
 (sq (rg [xo 4 (.mov (.b false))])
 .ret)
 .skip))
 (sq (rg [mo 45 5,fo 46 15 3,lo 47 46,xo 48 (ia 2 45 47),fo 49 1 48,lo 50 49,mo 6 50])
 (sq (sq (rd [] (of 0 (fo 51 16 3)
 (ot 1 (lo 52 51)
 (of 2 (mo 53 6)
 (of 3 (xo 54 (.len false (.t 53)))
 (of 4 (xo 55 (.call 17 [(.t 52),(.t 54)]))
 (of 5 (xo 56 (.not (.t 55)))
 (of 6 (mo 57 56)
 (of 7 (xg 58 (fa 17 3) 57 false)
 (ot 8 (xg 59 (lf 58) 57 false)
 (of 9 (xg 60 (mv 6) 57 false)
 (of 10 (xg 61 (.len false (.t 60)) 57 false)
 (of 11 (xg 62 (.call 17 [(.t 59),(.t 61)]) 57 false)
 (of 12 (xg 63 (.not (.t 62)) 57 false)
 (of 13 (xo 64 (.pick (.t 57) (.b true) (.t 63)))
 (of 14 (mo 65 64)
 (of 15 (xg 66 (fa 18 3) 65 false)
 (ot 16 (xg 67 (lf 66) 65 false)
 (of 17 (xg 68 (mv 6) 65 false)
 (of 18 (xg 69 (fa 16 3) 65 false)
 (ot 19 (xg 70 (lf 69) 65 false)
 (ot 20 (xg 71 (ia 3 68 70) 65 false)
 (of 21 (xg 72 (fa 1 71) 65 false)
 (ot 22 (xg 73 (lf 72) 65 false)
 (of 23 (xg 74 (.len false (.t 73)) 65 false)
 (of 24 (xg 75 (.call 17 [(.t 67),(.t 74)]) 65 false)
 (of 25 (xg 76 (.not (.t 75)) 65 false)
 (of 26 (xo 77 (.pick (.t 65) (.b true) (.t 76)))
 .nil))))))))))))))))))))))))))))
 (cD 77
 (sq (rg [xo 4 (.mov (.b false))])
 .ret)
 .skip))
 (sq (rg [fo 78 14 3,lo 79 78,xo 80 (bc .add 79 1),fo 81 5 2,lo 82 81,xo 83 (.len false (.t 82)),xo 84 (bc .add 83 1),xo 85 (.call 17 [(.t 80),(.t 84)]),mo 86 85,xg 87 (fa 21 3) 86 true,xg 88 (lf 87) 86 true,xg 89 (bc .geq 88 0) 86 true,xo 90 (.pick (.t 86) (.t 89) (.b false)),mo 91 90,xg 92 (fa 22 3) 91 true,xg 93 (lf 92) 91 true,xg 94 (bc .geq 93 0) 91 true,xo 95 (.pick (.t 91) (.t 94) (.b false)),mo 4 95])
 .ret)))))))⟩
theorem qdL:trFn Try.prog 6 [([],(fs [0,1,2,3] (.exec 4 (fs [5,6,7,8,9,10] (.exec 11 (fs [12,13,14,15,16,17,18,19,20,21,22,23] (.exec 24 (.first 25 (.first 26 .nil)))))))))] []=some qJM:=by kernel_rfl
abbrev qCE:Nat:=11
def qHE:FnI:=⟨102,[.tmp 0],
 (sq (rg [xo 0 (.mov (.b false))])
 (sq (rg [xo 9 (.call 23 []),xo 10 (.build [(vi 0),(.v (.string ⟨#[]⟩)),(.v (.string ⟨#[]⟩)),(.v (.string ⟨#[]⟩)),(vi 0),(vi 0),(vi 0),(.v (.slice none 0 0)),(.v (.slice none 0 0)),(.v (.slice none 0 0))] [(0,1,(ci 5))]),xo 11 (.build zl0 [(0,10,(.t 10))]),xo 12 (.call 22 [(.t 9),(.t 11)]),mo 8 12,xo 13 (.ext 0 (.t 8)),xo 14 (.ext 1 (.t 8)),xo 15 (.ext 2 (.t 8)),xo 1 (.alloc 28 [(vi 0),(vi 0),(vi 0),(.v (.slice none 0 0)),(.v (.slice none 0 0)),(.v (.slice none 0 0)),(.v (.slice none 0 0)),(.v (.slice none 0 0))]),xo 2 (.alloc 42 zl0),xn (st 8 1 13),xn (st 44 2 14),mo 3 15])
 (sq (rg [xo 16 (.call 23 []),xo 4 (.alloc 28 [(vi 0),(vi 0),(vi 0),(.v (.slice none 0 0)),(.v (.slice none 0 0)),(.v (.slice none 0 0)),(.v (.slice none 0 0)),(.v (.slice none 0 0))]),xn (st 8 4 16)])
 (sq (rg [fo 17 2 4,xn (.store 1 (.t 17) (ci 1))])
 (sq (rg [xo 19 (lt 8 4),xo 20 (.build zl0 []),xo 21 (.call 22 [(.t 19),(.t 20)]),mo 18 21,xo 22 (.ext 0 (.t 18)),xo 23 (.ext 1 (.t 18)),xo 24 (.ext 2 (.t 18)),xo 5 (.alloc 28 [(vi 0),(vi 0),(vi 0),(.v (.slice none 0 0)),(.v (.slice none 0 0)),(.v (.slice none 0 0)),(.v (.slice none 0 0)),(.v (.slice none 0 0))]),xo 6 (.alloc 42 zl0),xn (st 8 5 22),xn (st 44 6 23),mo 7 24])
 (sq (sq (rg [fo 25 4 1,lo 26 25,xo 27 (.len false (.t 26)),xo 28 (bc .neq 27 2),mo 29 28,xg 30 (fa 7 1) 29 false,xg 31 (lf 30) 29 false,xg 32 (.len false (.t 31)) 29 false,xg 33 (bc .neq 32 1) 29 false,xo 34 (.pick (.t 29) (.b true) (.t 33)),mo 35 34,xg 36 (fa 5 1) 35 false,xg 37 (lf 36) 35 false,xg 38 (.len false (.t 37)) 35 false,xg 39 (bc .neq 38 1) 35 false,xo 40 (.pick (.t 35) (.b true) (.t 39))])
 (cD 40
 (sq (rg [xo 0 (.mov (.b false))])
 .ret)
 .skip))
 (sq (rg [fo 41 25 2,xo 42 (lt 13 41),xo 43 (.build zl2 [(0,1,(ci 11)),(6,1,(ci 1))]),xo 44 (.binst false [0,0,0,0,0,0,0,0,0,0,0,0,0] (.t 42) (.t 43)),mo 45 44,xg 46 (mv 3) 45 true,xg 47 (bc .eql 46 12) 45 true,xo 48 (.pick (.t 45) (.t 47) (.b false)),mo 49 48,xg 50 (fa 0 1) 49 true,xg 51 (lf 50) 49 true,xg 52 (bc .eql 51 5) 49 true,xo 53 (.pick (.t 49) (.t 52) (.b false)),mo 54 53,xg 55 (fa 4 1) 54 true,xg 56 (lf 55) 54 true,xg 57 (.iadr 5 (.t 56) (ci 0)) 54 true,xg 58 (fa 4 57) 54 true,xg 59 (lf 58) 54 true,xo 60 (.pick (.t 54) (.t 59) (.b false)),mo 61 60,xg 62 (fa 7 1) 61 true,xg 63 (lf 62) 61 true,xg 64 (.iadr 3 (.t 63) (ci 0)) 61 true,xg 65 (fa 2 64) 61 true,xg 66 (lf 65) 61 true,xo 67 (.pick (.t 61) (.t 66) (.b false)),mo 68 67,xg 69 (fa 5 1) 68 true,xg 70 (lf 69) 68 true,xg 71 (.iadr 4 (.t 70) (ci 0)) 68 true,xg 72 (fa 3 71) 68 true,xg 73 (lf 72) 68 true,xo 74 (.pick (.t 68) (.t 73) (.b false)),mo 75 74,xg 76 (fa 2 1) 75 true,xg 77 (lf 76) 75 true,xg 78 (bc .eql 77 0) 75 true,xo 79 (.pick (.t 75) (.t 78) (.b false)),mo 80 79,xg 81 (fa 25 6) 80 true,xg 82 (lt 13 81) 80 true,xg 83 (.build zl2 [(0,1,(ci 12))]) 80 true,xg 84 (.binst false [0,0,0,0,0,0,0,0,0,0,0,0,0] (.t 82) (.t 83)) 80 true,xo 85 (.pick (.t 80) (.t 84) (.b false)),mo 86 85,xg 87 (mv 7) 86 true,xg 88 (bc .eql 87 1) 86 true,xo 89 (.pick (.t 86) (.t 88) (.b false)),mo 90 89,xg 91 (lt 8 1) 90 true,xg 92 (.call 16 [(.t 91)]) 90 true,xo 93 (.pick (.t 90) (.t 92) (.b false)),mo 94 93,xg 95 (fa 4 4) 94 true,xg 96 (lf 95) 94 true,xg 97 (.iadr 5 (.t 96) (ci 0)) 94 true,xg 98 (lt 5 97) 94 true,xg 99 (.call 12 [(.t 98)]) 94 true,xg 100 (bc .eql 99 2) 94 true,xo 101 (.pick (.t 94) (.t 100) (.b false)),mo 0 101])
 .ret)))))))⟩
theorem q2D:trFn Try.prog 11 [] []=some qHE:=by kernel_rfl
abbrev qpD:Nat:=12
def q0I:FnI:=⟨6,[.tmp 2],
 (sq (rg [xo 1 (.box 63 (.t 0)),xo 2 (.mov (ci 0))])
 (sq (rg [xo 3 (lt 5 1),xo 4 (.call 24 [(.t 3)]),xo 5 (.len false (.t 4)),mo 2 5])
 .ret))⟩
theorem qkI:trFn Try.prog 12 [] []=some q0I:=by kernel_rfl
abbrev qKD:Nat:=13
def qFG:FnI:=⟨22,[.tmp 2],
 (sq (rg [xo 1 (.box 63 (.t 0)),xo 2 (.mov (ci 0))])
 (sq (rg [xo 3 (.mov (ci 0))])
 (sq (sq (rg [xo 4 (.mov (ci 0))])
 (.block 0
 (.loop [3,4] [5,6,7,8,9,12,13,14,15,16,17,18,19,20,3,10,11,4]
 (sq (sq (rg [mo 5 4,fo 6 3 1,lo 7 6,xo 8 (.len false (.t 7)),xo 9 (bi .lss 5 8)])
 (cD 9
 .skip
 (.exit 0)))
 (sq (.block 1
 (rg [mo 12 3,fo 13 3 1,lo 14 13,mo 15 4,xo 16 (ia 2 14 15),fo 17 1 16,lo 18 17,xo 19 (.len false (.t 18)),xo 20 (bi .add 12 19),mo 3 20]))
 (rg [mo 10 4,xo 11 (bc .add 10 1),mo 4 11]))))))
 (sq (rg [mo 21 3,mo 2 21])
 .ret))))⟩
theorem q1F:trFn Try.prog 13 [] [[3,4]]=some qFG:=by kernel_rfl
abbrev qbG:Nat:=14
def qoG:FnI:=⟨24,[.tmp 2],
 (sq (rg [xo 2 (.mov (.b false))])
 (sq (sq (rg [xo 3 (.mov (ci 0))])
 (.block 0
 (.loop [3] [4,5,6,7,8,9,10,11,12,15,16,17,18,19,20,2,13,14,3]
 (sq (sq (rg [mo 4 3,mo 5 0,xo 6 (.len false (.t 5)),xo 7 (bi .lss 4 6),mo 8 7,xg 9 (mv 0) 8 true,xg 10 (.len false (.t 9)) 8 true,xg 11 (bc .leq 10 50) 8 true,xo 12 (.pick (.t 8) (.t 11) (.b false))])
 (cD 12
 .skip
 (.exit 0)))
 (sq (.block 1
 (sq (rg [mo 15 0,mo 16 3,xo 17 (ia 1 15 16),lo 18 17,xo 19 (.len false (.t 18)),xo 20 (bc .gtr 19 50)])
 (cD 20
 (sq (rg [xo 2 (.mov (.b true))])
 .ret)
 .skip)))
 (rg [mo 13 3,xo 14 (bc .add 13 1),mo 3 14]))))))
 (sq (rg [mo 21 0,xo 22 (.len false (.t 21)),xo 23 (bc .gtr 22 50),mo 2 23])
 .ret)))⟩
theorem qNG:trFn Try.prog 14 [] [[3]]=some qoG:=by kernel_rfl
abbrev qrE:Nat:=15
def qsE:FnI:=⟨44,[.tmp 2],
 (sq (rg [xo 1 (.box 60 (.t 0)),xo 2 (.mov (.b false))])
 (sq (sq (rg [fo 4 0 1,lo 5 4,xo 6 (.len false (.t 5)),xo 7 (bc .gtr 6 20),mo 8 7,xg 9 (fa 2 1) 8 false,xg 10 (lf 9) 8 false,xg 11 (.len false (.t 10)) 8 false,xg 12 (bc .gtr 11 20) 8 false,xo 13 (.pick (.t 8) (.b true) (.t 12)),mo 14 13,xg 15 (fa 1 1) 14 false,xg 16 (lf 15) 14 false,xg 17 (.call 25 [(.t 16)]) 14 false,xo 18 (.pick (.t 14) (.b true) (.t 17))])
 (cD 18
 (sq (rg [xo 2 (.mov (.b true))])
 .ret)
 .skip))
 (sq (sq (rg [xo 3 (.mov (ci 0))])
 (.block 0
 (.loop [3] [19,20,21,22,23,26,27,28,29,30,31,32,33,34,35,36,37,38,39,40,41,42,43,2,24,25,3]
 (sq (sq (rg [mo 19 3,fo 20 2 1,lo 21 20,xo 22 (.len false (.t 21)),xo 23 (bi .lss 19 22)])
 (cD 23
 .skip
 (.exit 0)))
 (sq (.block 1
 (sq (rg [fo 26 2 1,lo 27 26,mo 28 3,xo 29 (ia 4 27 28),fo 30 3 29,lo 31 30,xo 32 (.len false (.t 31)),xo 33 (bc .gtr 32 20),mo 34 33,xg 35 (fa 2 1) 34 false,xg 36 (lf 35) 34 false,xg 37 (mv 3) 34 false,xg 38 (ia 4 36 37) 34 false,xg 39 (fa 0 38) 34 false,xg 40 (lf 39) 34 false,xg 41 (.len true (.t 40)) 34 false,xg 42 (bc .gtr 41 100) 34 false,xo 43 (.pick (.t 34) (.b true) (.t 42))])
 (cD 43
 (sq (rg [xo 2 (.mov (.b true))])
 .ret)
 .skip)))
 (rg [mo 24 3,xo 25 (bc .add 24 1),mo 3 25]))))))
 (sq (rg [xo 2 (.mov (.b false))])
 .ret))))⟩
theorem qpE:trFn Try.prog 15 [] [[3]]=some qsE:=by kernel_rfl
abbrev qBJ:Nat:=16
def qTN:FnI:=⟨107,[.tmp 2],
 (sq (rg [xo 1 (.box 28 (.t 0)),xo 2 (.mov (.b false))])
 (sq (sq (rg [xo 10 (lt 8 1),xo 11 (.call 26 [(.t 10)]),xo 12 (.not (.t 11)),mo 13 12,xg 14 (fa 1 1) 13 false,xg 15 (lf 14) 13 false,xg 16 (bc .lss 15 0) 13 false,xo 17 (.pick (.t 13) (.b true) (.t 16)),mo 18 17,xg 19 (fa 1 1) 18 false,xg 20 (lf 19) 18 false,xg 21 (fa 4 1) 18 false,xg 22 (lf 21) 18 false,xg 23 (.len false (.t 22)) 18 false,xg 24 (bi .geq 20 23) 18 false,xo 25 (.pick (.t 18) (.b true) (.t 24)),mo 26 25,xg 27 (fa 7 1) 26 false,xg 28 (lf 27) 26 false,xg 29 (.call 27 [(.t 28)]) 26 false,xg 30 (.not (.t 29)) 26 false,xo 31 (.pick (.t 26) (.b true) (.t 30))])
 (cD 31
 (sq (rg [xo 2 (.mov (.b false))])
 .ret)
 .skip))
 (sq (rg [xo 32 (.mkm .i64),mo 3 32])
 (sq (sq (rg [fo 33 7 1,lo 34 33,xo 35 (.len false (.t 34)),xo 36 (.mov (ci 0))])
 (.block 0
 (.loop [36] [37,38,39,5,40,41,42,43,44,45,46,47,48,49,50,51,52,53,54,55,56,57,58,59,2,60,61,62,63,64,65,36]
 (sq (rg [xo 37 (bi .lss 36 35)])
 (sq (cD 37
 .skip
 (.exit 0))
 (sq (.block 1
 (sq (rg [xo 38 (ia 3 34 36),xo 39 (lt 3 38),xo 5 (.alloc 79 [(vi 0),(vi 0),(.v (.bool false))]),xn (st 3 5 39)])
 (sq (sq (rg [fo 40 0 5,lo 41 40,fo 42 4 1,lo 43 42,xo 44 (.len false (.t 43)),xo 45 (bi .geq 41 44),mo 46 45,xg 47 (fa 0 5) 46 false,xg 48 (lf 47) 46 false,xg 49 (fa 1 1) 46 false,xg 50 (lf 49) 46 false,xg 51 (bi .eql 48 50) 46 false,xo 52 (.pick (.t 46) (.b true) (.t 51)),mo 53 52,xg 54 (fa 1 5) 53 false,xg 55 (lf 54) 53 false,xg 56 (fa 0 1) 53 false,xg 57 (lf 56) 53 false,xg 58 (bi .gtr 55 57) 53 false,xo 59 (.pick (.t 53) (.b true) (.t 58))])
 (cD 59
 (sq (rg [xo 2 (.mov (.b false))])
 .ret)
 .skip))
 (rg [mo 60 3,fo 61 0 5,lo 62 61,fo 63 2 5,lo 64 63,xn (.mup .i64 (.t 60) (.t 62) (.t 64))]))))
 (rg [xo 65 (bc .add 36 1),mo 36 65])))))))
 (sq (sq (rg [fo 66 4 1,lo 67 66,xo 68 (.len false (.t 67)),xo 69 (.mov (ci 0))])
 (.block 2
 (.loop [69] [70,71,72,73,7,6,74,75,76,77,78,79,80,81,82,83,84,2,85,69]
 (sq (rg [xo 70 (bi .lss 69 68)])
 (sq (cD 70
 .skip
 (.exit 2))
 (sq (.block 3
 (sq (rg [mo 71 69,xo 72 (ia 5 67 69),xo 73 (lt 5 72),xo 7 (.alloc 63 [(.v (.slice none 0 0)),(.v (.slice none 0 0)),(.v (.slice none 0 0)),(.v (.slice none 0 0)),(.v (.bool false))]),mo 6 71,xn (st 5 7 73)])
 (sq (rg [xo 74 (lt 5 7),xo 75 (.call 28 [(.t 74)]),xo 76 (.not (.t 75)),mo 77 76,xg 78 (fa 4 7) 77 false,xg 79 (lf 78) 77 false,xg 80 (mv 3) 77 false,xg 81 (mv 6) 77 false,xg 82 (.look .i64 (.bool false) false (.t 80) (.t 81)) 77 false,xg 83 (.binb true (.t 79) (.t 82)) 77 false,xo 84 (.pick (.t 77) (.b true) (.t 83))])
 (cD 84
 (sq (rg [xo 2 (.mov (.b false))])
 .ret)
 .skip))))
 (rg [xo 85 (bc .add 69 1),mo 69 85])))))))
 (sq (sq (rg [fo 86 5 1,lo 87 86,xo 88 (.len false (.t 87)),xo 89 (.mov (ci 0))])
 (.block 4
 (.loop [89] [90,91,92,93,9,8,94,95,96,97,98,99,100,101,102,103,104,105,2,106,89]
 (sq (rg [xo 90 (bi .lss 89 88)])
 (sq (cD 90
 .skip
 (.exit 4))
 (sq (.block 5
 (sq (rg [mo 91 89,xo 92 (ia 4 87 89),xo 93 (lt 4 92),xo 9 (.alloc 81 [(.v (.string ⟨#[]⟩)),(.v (.bool false)),(vi 0),(.v (.bool false))]),mo 8 91,xn (st 4 9 93)])
 (sq (rg [xo 94 (lt 4 9),xo 95 (.call 29 [(.t 94)]),xo 96 (.not (.t 95)),mo 97 96,xg 98 (fa 5 1) 97 false,xg 99 (lf 98) 97 false,xg 100 (fa 0 9) 97 false,xg 101 (lf 100) 97 false,xg 102 (.call 30 [(.t 99),(.t 101)]) 97 false,xg 103 (mv 8) 97 false,xg 104 (bi .neq 102 103) 97 false,xo 105 (.pick (.t 97) (.b true) (.t 104))])
 (cD 105
 (sq (rg [xo 2 (.mov (.b false))])
 .ret)
 .skip))))
 (rg [xo 106 (bc .add 89 1),mo 89 106])))))))
 (sq (rg [xo 2 (.mov (.b true))])
 .ret)))))))⟩
theorem qsM:trFn Try.prog 16 [] [[36],[69],[89]]=some qTN:=by kernel_rfl
abbrev qIP:Nat:=17
def qWP:FnI:=⟨12,[.tmp 4],
 (sq (rg [xo 4 (.mov (.b false))])
 (sq (rg [mo 5 0,xo 6 (bc .geq 5 0),mo 7 6,xg 8 (mv 0) 7 true,xg 9 (mv 1) 7 true,xg 10 (bi .lss 8 9) 7 true,xo 11 (.pick (.t 7) (.t 10) (.b false)),mo 4 11])
 .ret))⟩
theorem qtO:trFn Try.prog 17 [] []=some qWP:=by kernel_rfl
abbrev qMN:Nat:=19
def qWN:FnI:=⟨23,[.tmp 2],
 (sq (rg [xo 2 (.mov (.b false))])
 (sq (sq (rg [mo 5 0,xo 6 (.len false (.t 5)),xo 7 (.mov (ci 0))])
 (.block 0
 (.loop [7] [8,9,10,4,11,12,13,2,14,7]
 (sq (rg [xo 8 (bi .lss 7 6)])
 (sq (cD 8
 .skip
 (.exit 0))
 (sq (.block 1
 (sq (rg [xo 9 (ia 1 5 7),lo 10 9,mo 4 10])
 (sq (rg [mo 11 4,xo 12 (.len false (.t 11)),xo 13 (bc .neq 12 6)])
 (cD 13
 (sq (rg [xo 2 (.mov (.b false))])
 .ret)
 .skip))))
 (rg [xo 14 (bc .add 7 1),mo 7 14])))))))
 (sq (rg [mo 15 0,xo 16 (.len false (.t 15)),xo 17 (bc .geq 16 1),mo 18 17,xg 19 (mv 0) 18 true,xg 20 (.len false (.t 19)) 18 true,xg 21 (bc .leq 20 8) 18 true,xo 22 (.pick (.t 18) (.t 21) (.b false)),mo 2 22])
 .ret)))⟩
theorem qvM:trFn Try.prog 19 [] [[7]]=some qWN:=by kernel_rfl
abbrev qnJ:Nat:=21
def q5J:FnI:=⟨28,[.cell 2 8 true],
 (sq (rg [xo 1 (.box 28 (.t 0)),xo 2 (.alloc 28 [(vi 0),(vi 0),(vi 0),(.v (.slice none 0 0)),(.v (.slice none 0 0)),(.v (.slice none 0 0)),(.v (.slice none 0 0)),(.v (.slice none 0 0))])])
 (sq (rg [xo 4 (.build [] []),xo 3 (.alloc 97 []),xn (st 0 3 4)])
 (sq (rg [fo 5 3 1,lo 6 5,xo 7 (.call 32 [(.t 6)]),fo 8 3 1,xn (st 1 8 7)])
 (sq (rg [fo 9 4 1,lo 10 9,xo 11 (lt 0 3),xo 12 (.call 33 [(.t 10),(.c (.func (.func 34) #[] #[])),(.t 11)]),fo 13 4 1,xn (st 1 13 12)])
 (sq (rg [fo 14 5 1,lo 15 14,xo 16 (.call 35 [(.t 15)]),fo 17 5 1,xn (st 1 17 16)])
 (sq (rg [fo 18 6 1,lo 19 18,xo 20 (lt 0 3),xo 21 (.call 36 [(.t 19),(.c (.func (.func 37) #[] #[])),(.t 20)]),fo 22 6 1,xn (st 1 22 21)])
 (sq (rg [fo 23 7 1,lo 24 23,xo 25 (.call 38 [(.t 24)]),fo 26 7 1,xn (st 1 26 25)])
 (sq (rg [xo 27 (lt 8 1),xn (st 8 2 27)])
 .ret))))))))⟩
theorem qUJ:trFn Try.prog 21 [] []=some q5J:=by kernel_rfl
abbrev qgF:Nat:=22
def qmF:FnI:=⟨38,[.cell 4 8 true,.cell 5 44 true,.tmp 6],
 (sq (rg [xo 2 (.box 28 (.t 0)),xo 3 (.box 42 (.t 1)),xo 4 (.alloc 28 [(vi 0),(vi 0),(vi 0),(.v (.slice none 0 0)),(.v (.slice none 0 0)),(.v (.slice none 0 0)),(.v (.slice none 0 0)),(.v (.slice none 0 0))]),xo 5 (.alloc 42 zl0),xo 6 (.mov (ci 0))])
 (sq (rg [xo 7 (.mov (ci 0))])
 (sq (.block 0
 (.loop [7] [11,12,13,14,15,16,17,19,20,21,18,22,23,24,8,9,10,25,26,27,28,30,29,6,31,32,33,34,7]
 (sq (sq (rg [mo 11 7,xo 12 (bc .lss 11 3000),mo 13 12,xg 14 (fa 24 3) 13 true,xg 15 (lf 14) 13 true,xg 16 (.not (.t 15)) 13 true,xo 17 (.pick (.t 13) (.t 16) (.b false))])
 (cD 17
 .skip
 (.exit 0)))
 (.block 1
 (sq (rg [xo 19 (lt 8 2),xo 20 (lt 44 3),xo 21 (.call 39 [(.t 19),(.t 20)]),mo 18 21,xo 22 (.ext 0 (.t 18)),xo 23 (.ext 1 (.t 18)),xo 24 (.ext 2 (.t 18)),xo 8 (.alloc 28 [(vi 0),(vi 0),(vi 0),(.v (.slice none 0 0)),(.v (.slice none 0 0)),(.v (.slice none 0 0)),(.v (.slice none 0 0)),(.v (.slice none 0 0))]),xo 9 (.alloc 42 zl0),xo 10 (.alloc 53 zl1),xn (st 8 8 22),xn (st 44 9 23),xn (st 23 10 24)])
 (sq (sq (rg [fo 25 2 10,lo 26 25,xo 27 (bc .eql 26 0)])
 (cD 27
 (sq (rd [] (ot 0 (xo 28 (lt 8 2))
 (of 2 (mo 30 7)
 (ot 1 (xo 29 (lt 44 3))
 (.op ⟨3,false,[1],xn (st 8 4 28)⟩
 (of 4 (xn (st 44 5 29))
 (of 5 (mo 6 30)
 .nil)))))))
 .ret)
 .skip))
 (sq (rg [xo 31 (lt 8 8),xn (st 8 2 31)])
 (sq (rg [xo 32 (lt 44 9),xn (st 44 3 32)])
 (rg [mo 33 7,xo 34 (bc .add 33 1),mo 7 34])))))))))
 (sq (rd [] (ot 0 (xo 35 (lt 8 2))
 (of 2 (mo 37 7)
 (ot 1 (xo 36 (lt 44 3))
 (.op ⟨3,false,[1],xn (st 8 4 35)⟩
 (of 4 (xn (st 44 5 36))
 (of 5 (mo 6 37)
 .nil)))))))
 .ret))))⟩
theorem qaF:trFn Try.prog 22 [([],(fs [0,2,1] (.exec 3 (.exec 4 (.first 5 .nil))))),([],(fs [0,2,1] (.exec 3 (.exec 4 (.first 5 .nil)))))] [[7]]=some qmF:=by kernel_rfl
abbrev qfF:Nat:=23
def qlF:FnI:=⟨49,[.cell 0 8 true],
 (sq (rg [xo 0 (.alloc 28 [(vi 0),(vi 0),(vi 0),(.v (.slice none 0 0)),(.v (.slice none 0 0)),(.v (.slice none 0 0)),(.v (.slice none 0 0)),(.v (.slice none 0 0))])])
 (sq (rg [xo 7 (.bsl 9 1 1 [(.v (.string ⟨#[]⟩))] [(0,1,(.c (.string ⟨#[105,110]⟩)))]),xo 8 (.build [(vi 0),(.v (.string ⟨#[]⟩)),(.v (.string ⟨#[]⟩)),(vi 0)] [(1,1,(.c (.string ⟨#[42]⟩))),(2,1,(.c (.string ⟨#[47]⟩)))]),xo 9 (.bsl 93 4 1 [(vi 0),(.v (.string ⟨#[]⟩)),(.v (.string ⟨#[]⟩)),(vi 0)] [(0,4,(.t 8))]),xo 10 (.bsl 4 1 2 [(.v (.bool false)),(.v (.bool false))] [(0,1,(.b true)),(1,1,(.b true))]),xo 11 (.build [(.v (.string ⟨#[]⟩)),(vi 0),(vi 0),(.v (.slice none 0 0))] [(0,1,(.c (.string ⟨#[97]⟩))),(1,1,(ci 1)),(2,1,(ci 1)),(3,1,(.t 10))]),xo 12 (.bsl 86 4 1 [(.v (.string ⟨#[]⟩)),(vi 0),(vi 0),(.v (.slice none 0 0))] [(0,4,(.t 11))]),xo 13 (.build [(.v (.slice none 0 0)),(.v (.slice none 0 0)),(.v (.slice none 0 0))] [(0,1,(.t 7)),(1,1,(.t 9)),(2,1,(.t 12))]),xo 1 (.alloc 60 [(.v (.slice none 0 0)),(.v (.slice none 0 0)),(.v (.slice none 0 0))]),xn (st 3 1 13)])
 (sq (rg [xo 15 (lt 3 1),xo 16 (.bsl 9 1 1 [(.v (.string ⟨#[]⟩))] [(0,1,(.c (.string ⟨#[105,110]⟩)))]),xo 17 (.call 31 [(.t 15),(.t 16),(ci 1)]),mo 14 17,xo 18 (.ext 0 (.t 14)),xo 19 (.ext 1 (.t 14)),xo 2 (.alloc 28 [(vi 0),(vi 0),(vi 0),(.v (.slice none 0 0)),(.v (.slice none 0 0)),(.v (.slice none 0 0)),(.v (.slice none 0 0)),(.v (.slice none 0 0))]),xn (st 8 2 18),mo 3 19])
 (sq (rg [xo 21 (lt 3 1),xo 22 (.call 40 [(.t 21)]),mo 20 22,xo 23 (.ext 0 (.t 20)),xo 24 (.ext 1 (.t 20)),xo 4 (.alloc 63 [(.v (.slice none 0 0)),(.v (.slice none 0 0)),(.v (.slice none 0 0)),(.v (.slice none 0 0)),(.v (.bool false))]),xn (st 5 4 23),mo 5 24])
 (sq (rg [fo 25 4 2,lo 26 25,xo 27 (lt 5 4),xo 28 (.bsl 63 5 1 [(.v (.slice none 0 0)),(.v (.slice none 0 0)),(.v (.slice none 0 0)),(.v (.slice none 0 0)),(.v (.bool false))] [(0,5,(.t 27))]),xo 29 (.app 63 5 104 (.t 26) (.t 28)),fo 30 4 2,xn (st 1 30 29)])
 (sq (rg [fo 31 1 2,xn (.store 1 (.t 31) (ci 1))])
 (sq (rg [fo 32 0 2,xn (.store 1 (.t 32) (ci 4))])
 (sq (rg [xo 33 (.build [(vi 0),(vi 0),(.v (.bool false))] [(1,1,(ci 3))]),xo 34 (.bsl 79 3 1 [(vi 0),(vi 0),(.v (.bool false))] [(0,3,(.t 33))]),fo 35 7 2,xn (st 1 35 34)])
 (sq (sq (rg [xo 6 (.mov (ci 0))])
 (.block 0
 (.loop [6] [36,37,38,39,40,43,44,45,46,47,41,42,6]
 (sq (sq (rg [mo 36 6,fo 37 5 2,lo 38 37,xo 39 (.len false (.t 38)),xo 40 (bi .lss 36 39)])
 (cD 40
 .skip
 (.exit 0)))
 (sq (.block 1
 (rg [fo 43 5 2,lo 44 43,mo 45 6,xo 46 (ia 4 44 45),fo 47 1 46,xn (.store 1 (.t 47) (.b true))]))
 (rg [mo 41 6,xo 42 (bc .add 41 1),mo 6 42]))))))
 (sq (rg [xo 48 (lt 8 2),xn (st 8 0 48)])
 .ret))))))))))⟩
theorem qZF:trFn Try.prog 23 [] [[6]]=some qlF:=by kernel_rfl
abbrev qtI:Nat:=24
def qyI:FnI:=⟨19,[.tmp 2],
 (sq (rg [xo 1 (.box 63 (.t 0)),xo 2 (.mov (.c (.slice none 0 0)))])
 (sq (rg [xo 3 (.mov (.c (.slice none 0 0)))])
 (sq (sq (rg [fo 6 3 1,lo 7 6,xo 8 (.len false (.t 7)),xo 9 (.mov (ci 0))])
 (.block 0
 (.loop [3,9] [10,11,12,5,13,14,15,16,3,17,9]
 (sq (rg [xo 10 (bi .lss 9 8)])
 (sq (cD 10
 .skip
 (.exit 0))
 (sq (.block 1
 (sq (rg [xo 11 (ia 2 7 9),xo 12 (lt 2 11),xo 5 (.alloc 69 [(.v (.int .u64 (0))),(.v (.slice none 0 0))]),xn (st 2 5 12)])
 (rg [mo 13 3,fo 14 1 5,lo 15 14,xo 16 (.app 72 3 40 (.t 13) (.t 15)),mo 3 16])))
 (rg [xo 17 (bc .add 9 1),mo 9 17])))))))
 (sq (rg [mo 18 3,mo 2 18])
 .ret))))⟩
theorem qjI:trFn Try.prog 24 [] [[3,9]]=some qyI:=by kernel_rfl
abbrev qcG:Nat:=25
def qpG:FnI:=⟨34,[.tmp 2],
 (sq (rg [xo 2 (.mov (.b false))])
 (sq (sq (rg [xo 3 (.mov (ci 0))])
 (.block 0
 (.loop [3] [4,5,6,7,8,9,10,11,12,15,16,17,18,19,20,21,22,23,24,25,26,27,28,29,30,2,13,14,3]
 (sq (sq (rg [mo 4 3,mo 5 0,xo 6 (.len false (.t 5)),xo 7 (bi .lss 4 6),mo 8 7,xg 9 (mv 0) 8 true,xg 10 (.len false (.t 9)) 8 true,xg 11 (bc .leq 10 50) 8 true,xo 12 (.pick (.t 8) (.t 11) (.b false))])
 (cD 12
 .skip
 (.exit 0)))
 (sq (.block 1
 (sq (rg [mo 15 0,mo 16 3,xo 17 (ia 4 15 16),fo 18 1 17,lo 19 18,xo 20 (.len true (.t 19)),xo 21 (bc .gtr 20 100),mo 22 21,xg 23 (mv 0) 22 false,xg 24 (mv 3) 22 false,xg 25 (ia 4 23 24) 22 false,xg 26 (fa 2 25) 22 false,xg 27 (lf 26) 22 false,xg 28 (.len true (.t 27)) 22 false,xg 29 (bc .gtr 28 100) 22 false,xo 30 (.pick (.t 22) (.b true) (.t 29))])
 (cD 30
 (sq (rg [xo 2 (.mov (.b true))])
 .ret)
 .skip)))
 (rg [mo 13 3,xo 14 (bc .add 13 1),mo 3 14]))))))
 (sq (rg [mo 31 0,xo 32 (.len false (.t 31)),xo 33 (bc .gtr 32 50),mo 2 33])
 .ret)))⟩
theorem qOG:trFn Try.prog 25 [] [[3]]=some qpG:=by kernel_rfl
abbrev qqI:Nat:=26
def quI:FnI:=⟨51,[.tmp 2],
 (sq (rg [xo 1 (.box 28 (.t 0)),xo 2 (.mov (.b false))])
 (sq (rg [fo 4 3 1,lo 5 4,xo 6 (.len false (.t 5)),mo 3 6])
 (sq (sq (rg [mo 7 3,xo 8 (bc .lss 7 1),mo 9 8,xg 10 (mv 3) 9 false,xg 11 (bc .gtr 10 8) 9 false,xo 12 (.pick (.t 9) (.b true) (.t 11)),mo 13 12,xg 14 (fa 6 1) 13 false,xg 15 (lf 14) 13 false,xg 16 (.len false (.t 15)) 13 false,xg 17 (mv 3) 13 false,xg 18 (bi .neq 16 17) 13 false,xo 19 (.pick (.t 13) (.b true) (.t 18)),mo 20 19,xg 21 (fa 6 1) 20 false,xg 22 (lf 21) 20 false,xg 23 (.call 19 [(.t 22)]) 20 false,xg 24 (.not (.t 23)) 20 false,xo 25 (.pick (.t 20) (.b true) (.t 24)),mo 26 25,xg 27 (fa 0 1) 26 false,xg 28 (lf 27) 26 false,xg 29 (bc .lss 28 0) 26 false,xo 30 (.pick (.t 26) (.b true) (.t 29)),mo 31 30,xg 32 (fa 0 1) 31 false,xg 33 (lf 32) 31 false,xg 34 (bc .gtr 33 1000000000000) 31 false,xo 35 (.pick (.t 31) (.b true) (.t 34)),mo 36 35,xg 37 (fa 2 1) 36 false,xg 38 (lf 37) 36 false,xg 39 (bc .neq 38 0) 36 false,xg 40 (mv 39) 36 false,xg 41 (fa 2 1) 40 true,xg 42 (lf 41) 40 true,xg 43 (bc .neq 42 1) 40 true,xg 44 (.pick (.t 40) (.t 43) (.b false)) 36 false,xo 45 (.pick (.t 36) (.b true) (.t 44))])
 (cD 45
 (sq (rg [xo 2 (.mov (.b false))])
 .ret)
 .skip))
 (sq (rg [fo 46 3 1,lo 47 46,xo 48 (.mkf (.func 42) [] [(.t 1)]),xo 49 (.call 41 [(.t 47),(.t 48)]),xo 50 (.not (.t 49)),mo 2 50])
 .ret))))⟩
theorem qfI:trFn Try.prog 26 [] []=some quI:=by kernel_rfl
abbrev qNN:Nat:=27
def qXN:FnI:=⟨29,[.tmp 2],
 (sq (rg [xo 2 (.mov (.b false))])
 (sq (sq (rg [mo 5 0,xo 6 (.len false (.t 5)),xo 7 (.mov (ci 0))])
 (.block 0
 (.loop [7] [8,9,10,11,4,3,12,13,14,15,16,17,18,19,20,21,22,23,24,25,26,27,2,28,7]
 (sq (rg [xo 8 (bi .lss 7 6)])
 (sq (cD 8
 .skip
 (.exit 0))
 (sq (.block 1
 (sq (rg [mo 9 7,xo 10 (ia 3 5 7),xo 11 (lt 3 10),xo 4 (.alloc 79 [(vi 0),(vi 0),(.v (.bool false))]),mo 3 9,xn (st 3 4 11)])
 (sq (rd [] (of 0 (fo 12 0 4)
 (ot 1 (lo 13 12)
 (of 2 (xo 14 (bc .lss 13 0))
 (of 3 (mo 15 14)
 (of 4 (xg 16 (fa 1 4) 15 false)
 (ot 5 (xg 17 (lf 16) 15 false)
 (of 6 (xg 18 (bc .lss 17 0) 15 false)
 (of 7 (xo 19 (.pick (.t 15) (.b true) (.t 18)))
 (of 8 (mo 20 19)
 (of 9 (xg 21 (mv 0) 20 false)
 (of 10 (xg 22 (mv 3) 20 false)
 (of 11 (xg 23 (.slc 3 (.t 21) none (some (.t 22)) none) 20 false)
 (of 12 (xg 24 (fa 0 4) 20 false)
 (ot 13 (xg 25 (lf 24) 20 false)
 (of 14 (xg 26 (.call 43 [(.t 23),(.t 25)]) 20 false)
 (of 15 (xo 27 (.pick (.t 20) (.b true) (.t 26)))
 .nil)))))))))))))))))
 (cD 27
 (sq (rg [xo 2 (.mov (.b false))])
 .ret)
 .skip))))
 (rg [xo 28 (bc .add 7 1),mo 7 28])))))))
 (sq (rg [xo 2 (.mov (.b true))])
 .ret)))⟩
theorem qwM:trFn Try.prog 27 [([],(fs [0,1,2,3,4,5,6,7,8,9,10,11,12,13] (.exec 14 (.first 15 .nil))))] [[7]]=some qXN:=by kernel_rfl
abbrev qAI:Nat:=28
def qTI:FnI:=⟨50,[.tmp 2],
 (sq (rg [xo 1 (.box 63 (.t 0)),xo 2 (.mov (.b false))])
 (sq (sq (rg [fo 7 0 1,xo 8 (lt 3 7),xo 9 (.call 44 [(.t 8)]),xo 10 (.not (.t 9)),mo 11 10,xg 12 (fa 3 1) 11 false,xg 13 (lf 12) 11 false,xg 14 (.len false (.t 13)) 11 false,xg 15 (fa 0 1) 11 false,xg 16 (fa 2 15) 11 false,xg 17 (lf 16) 11 false,xg 18 (.len false (.t 17)) 11 false,xg 19 (bi .neq 14 18) 11 false,xo 20 (.pick (.t 11) (.b true) (.t 19))])
 (cD 20
 (sq (rg [xo 2 (.mov (.b false))])
 .ret)
 .skip))
 (sq (sq (rg [fo 21 3 1,lo 22 21,xo 23 (.len false (.t 22)),xo 24 (.mov (ci 0))])
 (.block 0
 (.loop [24] [25,26,27,28,4,3,29,30,31,32,33,34,5,35,6,36,37,38,39,40,41,42,43,44,45,46,47,48,2,49,24]
 (sq (rg [xo 25 (bi .lss 24 23)])
 (sq (cD 25
 .skip
 (.exit 0))
 (sq (.block 1
 (sq (rg [mo 26 24,xo 27 (ia 2 22 24),xo 28 (lt 2 27),xo 4 (.alloc 69 [(.v (.int .u64 (0))),(.v (.slice none 0 0))]),mo 3 26,xn (st 2 4 28)])
 (sq (rg [fo 29 0 1,fo 30 2 29,lo 31 30,mo 32 3,xo 33 (ia 4 31 32),xo 34 (lt 4 33),xo 5 (.alloc 86 [(.v (.string ⟨#[]⟩)),(vi 0),(vi 0),(.v (.slice none 0 0))]),xn (st 4 5 34)])
 (sq (rg [xo 35 (.mkf (.func 45) [] [(.t 5)]),mo 6 35])
 (sq (rg [fo 36 1 4,lo 37 36,xo 38 (.len false (.t 37)),fo 39 3 5,lo 40 39,xo 41 (.len false (.t 40)),xo 42 (bi .neq 38 41),mo 43 42,xg 44 (fa 1 4) 43 false,xg 45 (lf 44) 43 false,xg 46 (mv 6) 43 false,xg 47 (.call 47 [(.t 45),(.t 46)]) 43 false,xo 48 (.pick (.t 43) (.b true) (.t 47))])
 (cD 48
 (sq (rg [xo 2 (.mov (.b false))])
 .ret)
 .skip))))))
 (rg [xo 49 (bc .add 24 1),mo 24 49])))))))
 (sq (rg [xo 2 (.mov (.b true))])
 .ret))))⟩
theorem qlH:trFn Try.prog 28 [] [[24]]=some qTI:=by kernel_rfl
abbrev qON:Nat:=29
def qYN:FnI:=⟨20,[.tmp 2],
 (sq (rg [xo 1 (.box 81 (.t 0)),xo 2 (.mov (.b false))])
 (sq (rg [fo 3 0 1,lo 4 3,xo 5 (.call 48 [(.t 4)]),mo 6 5,xg 7 (fa 2 1) 6 true,xg 8 (lf 7) 6 true,xg 9 (bc .geq 8 0) 6 true,xo 10 (.pick (.t 6) (.t 9) (.b false)),mo 11 10,xg 12 (fa 1 1) 11 true,xg 13 (lf 12) 11 true,xg 14 (mv 13) 11 true,xg 15 (fa 3 1) 14 false,xg 16 (lf 15) 14 false,xg 17 (.not (.t 16)) 14 false,xg 18 (.pick (.t 14) (.b true) (.t 17)) 11 true,xo 19 (.pick (.t 11) (.t 18) (.b false)),mo 2 19])
 .ret))⟩
theorem qxM:trFn Try.prog 29 [] []=some qYN:=by kernel_rfl
abbrev quJ:Nat:=30
def q9J:FnI:=⟨8,[.tmp 4],
 (sq (rg [xo 3 (.box 9 (.t 1)),xo 4 (.mov (ci 0))])
 (sq (rg [mo 5 0,xo 6 (.mkf (.func 50) [] [(.t 3)]),xo 7 (.call 49 [(.t 5),(.t 6)]),mo 4 7])
 .ret))⟩
theorem qbJ:trFn Try.prog 30 [] []=some q9J:=by kernel_rfl
abbrev q1L:Nat:=31
def qGM:FnI:=⟨64,[.cell 6 8 true,.tmp 7],
 (sq (rg [xo 3 (.box 60 (.t 0)),xo 6 (.alloc 28 [(vi 0),(vi 0),(vi 0),(.v (.slice none 0 0)),(.v (.slice none 0 0)),(.v (.slice none 0 0)),(.v (.slice none 0 0)),(.v (.slice none 0 0))]),xo 7 (.mov (ci 0))])
 (sq (rg [xo 15 (lt 3 3),xo 16 (.call 40 [(.t 15)]),mo 14 16,xo 17 (.ext 0 (.t 14)),xo 18 (.ext 1 (.t 14)),xo 8 (.alloc 63 [(.v (.slice none 0 0)),(.v (.slice none 0 0)),(.v (.slice none 0 0)),(.v (.slice none 0 0)),(.v (.bool false))]),xn (st 5 8 17),mo 9 18])
 (sq (sq (rg [mo 19 9,xo 20 (bc .neq 19 0)])
 (cD 20
 (sq (rg [xo 21 (.build [(vi 0),(vi 0),(vi 0),(.v (.slice none 0 0)),(.v (.slice none 0 0)),(.v (.slice none 0 0)),(.v (.slice none 0 0)),(.v (.slice none 0 0))] []),mo 22 9,xn (st 8 6 21),mo 7 22])
 .ret)
 .skip))
 (sq (rg [mo 24 2,xo 25 (.call 51 [(.t 24)]),mo 23 25,xo 26 (.ext 0 (.t 23)),xo 27 (.ext 1 (.t 23)),mo 10 26,mo 9 27])
 (sq (sq (rg [mo 28 9,xo 29 (bc .neq 28 0)])
 (cD 29
 (sq (rg [xo 30 (.build [(vi 0),(vi 0),(vi 0),(.v (.slice none 0 0)),(.v (.slice none 0 0)),(.v (.slice none 0 0)),(.v (.slice none 0 0)),(.v (.slice none 0 0))] []),mo 31 9,xn (st 8 6 30),mo 7 31])
 .ret)
 .skip))
 (sq (rd [11] (ot 0 (xo 32 (lt 5 8))
 (of 2 (mo 34 2)
 (of 4 (mo 36 10)
 (.alt (of 1 (xo 33 (.bsl 63 5 1 [(.v (.slice none 0 0)),(.v (.slice none 0 0)),(.v (.slice none 0 0)),(.v (.slice none 0 0)),(.v (.bool false))] [(0,5,(.t 32))]))
 (of 3 (xo 35 (.msl 3 1 8 [(.int .i64 (0))] (.t 34) (.t 34)))
 (of 5 (xo 37 (.build [(vi 0),(vi 0),(vi 0),(.v (.slice none 0 0)),(.v (.slice none 0 0)),(.v (.slice none 0 0)),(.v (.slice none 0 0)),(.v (.slice none 0 0))] [(4,1,(.t 33)),(3,1,(.t 35)),(6,1,(.t 36))]))
 (.bring ⟨6,false,[],xo 11 (.alloc 28 [(vi 0),(vi 0),(vi 0),(.v (.slice none 0 0)),(.v (.slice none 0 0)),(.v (.slice none 0 0)),(.v (.slice none 0 0)),(.v (.slice none 0 0))])⟩
 (of 7 (xn (st 8 11 37))
 .nil)))))
 (of 3 (xo 35 (.msl 3 1 8 [(.int .i64 (0))] (.t 34) (.t 34)))
 (of 1 (xo 33 (.bsl 63 5 1 [(.v (.slice none 0 0)),(.v (.slice none 0 0)),(.v (.slice none 0 0)),(.v (.slice none 0 0)),(.v (.bool false))] [(0,5,(.t 32))]))
 (of 5 (xo 37 (.build [(vi 0),(vi 0),(vi 0),(.v (.slice none 0 0)),(.v (.slice none 0 0)),(.v (.slice none 0 0)),(.v (.slice none 0 0)),(.v (.slice none 0 0))] [(4,1,(.t 33)),(3,1,(.t 35)),(6,1,(.t 36))]))
 (.bring ⟨6,false,[],xo 11 (.alloc 28 [(vi 0),(vi 0),(vi 0),(.v (.slice none 0 0)),(.v (.slice none 0 0)),(.v (.slice none 0 0)),(.v (.slice none 0 0)),(.v (.slice none 0 0))])⟩
 (of 7 (xn (st 8 11 37))
 .nil))))))))))
 (sq (sq (rg [mo 38 1,xo 39 (.len false (.t 38)),xo 40 (.mov (ci 0))])
 (.block 0
 (.loop [40] [41,42,43,13,44,45,46,47,48,49,50,51,52,53,54,7,55,56,57,58,59,60,61,62,40]
 (sq (rg [xo 41 (bi .lss 40 39)])
 (sq (cD 41
 .skip
 (.exit 0))
 (sq (.block 1
 (sq (rg [xo 42 (ia 1 38 40),lo 43 42,mo 13 43])
 (sq (sq (rg [mo 44 13,xo 45 (.call 48 [(.t 44)]),xo 46 (.not (.t 45)),mo 47 46,xg 48 (fa 5 11) 47 false,xg 49 (lf 48) 47 false,xg 50 (mv 13) 47 false,xg 51 (.call 30 [(.t 49),(.t 50)]) 47 false,xg 52 (bc .geq 51 0) 47 false,xo 53 (.pick (.t 47) (.b true) (.t 52))])
 (cD 53
 (sq (rg [xo 54 (.build [(vi 0),(vi 0),(vi 0),(.v (.slice none 0 0)),(.v (.slice none 0 0)),(.v (.slice none 0 0)),(.v (.slice none 0 0)),(.v (.slice none 0 0))] []),xn (st 8 6 54),xo 7 (.mov (ci 1))])
 .ret)
 .skip))
 (rg [fo 55 5 11,lo 56 55,mo 57 13,xo 58 (.build [(.v (.string ⟨#[]⟩)),(.v (.bool false)),(vi 0),(.v (.bool false))] [(0,1,(.t 57))]),xo 59 (.bsl 81 4 1 [(.v (.string ⟨#[]⟩)),(.v (.bool false)),(vi 0),(.v (.bool false))] [(0,4,(.t 58))]),xo 60 (.app 81 4 40 (.t 56) (.t 59)),fo 61 5 11,xn (st 1 61 60)]))))
 (rg [xo 62 (bc .add 40 1),mo 40 62])))))))
 (sq (rg [xo 63 (lt 8 11),xn (st 8 6 63),xo 7 (.mov (ci 0))])
 .ret))))))))⟩
theorem qaL:trFn Try.prog 31 [([6],(fs [0,2,4] (.alt (.exec 1 (.exec 3 (.first 5 (.bring 6 (.exec 7 .nil))))) (.exec 3 (.exec 1 (.first 5 (.bring 6 (.exec 7 .nil))))))))] [[40]]=some qGM:=by kernel_rfl
abbrev qBE:Nat:=32
def qGE:FnI:=⟨8,[.tmp 2],
 (sq (rg [xo 2 (.mov (.c (.slice none 0 0)))])
 (sq (sq (rg [mo 3 0,xo 4 (.binn 0 false (.t 3))])
 (cD 4
 (sq (rg [xo 2 (.mov (.c (.slice none 0 0)))])
 .ret)
 .skip))
 (sq (rg [xo 5 (.bsl 3 1 0 [] []),mo 6 0,xo 7 (.app 3 1 8 (.t 5) (.t 6)),mo 2 7])
 .ret)))⟩
theorem q1D:trFn Try.prog 32 [] []=some qGE:=by kernel_rfl
abbrev qhB:Nat:=33
def qjB:FnI:=⟨29,[.tmp 6],
 (sq (rg [xo 5 (.box 97 (.t 2)),xo 6 (.mov (.c (.slice none 0 0)))])
 (sq (rg [mo 10 0,xo 11 (.len false (.t 10)),xo 12 (.msl 63 5 104 [(.slice none 0 0),(.slice none 0 0),(.slice none 0 0),(.slice none 0 0),(.bool false)] (.t 11) (.t 11)),mo 7 12])
 (sq (sq (rg [mo 13 0,xo 14 (.len false (.t 13)),xo 15 (.mov (ci 0))])
 (.block 0
 (.loop [15] [16,17,18,19,9,8,20,21,22,23,24,25,26,27,15]
 (sq (rg [xo 16 (bi .lss 15 14)])
 (sq (cD 16
 .skip
 (.exit 0))
 (sq (.block 1
 (sq (rg [mo 17 15,xo 18 (ia 5 13 15),xo 19 (lt 5 18),xo 9 (.alloc 63 [(.v (.slice none 0 0)),(.v (.slice none 0 0)),(.v (.slice none 0 0)),(.v (.slice none 0 0)),(.v (.bool false))]),mo 8 17,xn (st 5 9 19)])
 (rg [mo 20 7,mo 21 8,mo 22 1,xo 23 (lt 0 5),xo 24 (lt 5 9),xo 25 (.callv (.t 22) [(.t 23),(.t 24)]),xo 26 (ia 5 20 21),xn (st 5 26 25)])))
 (rg [xo 27 (bc .add 15 1),mo 15 27])))))))
 (sq (rg [mo 28 7,mo 6 28])
 .ret))))⟩
theorem qgB:trFn Try.prog 33 [] [[15]]=some qjB:=by kernel_rfl
abbrev q1A:Nat:=34
def qdE:FnI:=⟨11,[.cell 4 5 true],
 (sq (rg [xo 2 (.box 97 (.t 0)),xo 3 (.box 63 (.t 1)),xo 4 (.alloc 63 [(.v (.slice none 0 0)),(.v (.slice none 0 0)),(.v (.slice none 0 0)),(.v (.slice none 0 0)),(.v (.bool false))])])
 (sq (rg [fo 5 3 3,lo 6 5,xo 7 (lt 0 2),xo 8 (.call 52 [(.t 6),(.c (.func (.func 53) #[] #[])),(.t 7)]),fo 9 3 3,xn (st 1 9 8)])
 (sq (rg [xo 10 (lt 5 3),xn (st 5 4 10)])
 .ret)))⟩
theorem qNE:trFn Try.prog 34 [] []=some qdE:=by kernel_rfl
abbrev qWB:Nat:=35
def qXB:FnI:=⟨8,[.tmp 2],
 (sq (rg [xo 2 (.mov (.c (.slice none 0 0)))])
 (sq (sq (rg [mo 3 0,xo 4 (.binn 0 false (.t 3))])
 (cD 4
 (sq (rg [xo 2 (.mov (.c (.slice none 0 0)))])
 .ret)
 .skip))
 (sq (rg [xo 5 (.bsl 81 4 0 [] []),mo 6 0,xo 7 (.app 81 4 40 (.t 5) (.t 6)),mo 2 7])
 .ret)))⟩
theorem qTB:trFn Try.prog 35 [] []=some qXB:=by kernel_rfl
abbrev qEC:Nat:=36
def qFC:FnI:=⟨29,[.tmp 6],
 (sq (rg [xo 5 (.box 97 (.t 2)),xo 6 (.mov (.c (.slice none 0 0)))])
 (sq (rg [mo 10 0,xo 11 (.len false (.t 10)),xo 12 (.msl 46 1 24 [(.slice none 0 0)] (.t 11) (.t 11)),mo 7 12])
 (sq (sq (rg [mo 13 0,xo 14 (.len false (.t 13)),xo 15 (.mov (ci 0))])
 (.block 0
 (.loop [15] [16,17,18,19,8,9,20,21,22,23,24,25,26,27,15]
 (sq (rg [xo 16 (bi .lss 15 14)])
 (sq (cD 16
 .skip
 (.exit 0))
 (sq (.block 1
 (sq (rg [mo 17 15,xo 18 (ia 1 13 15),lo 19 18,mo 8 17,mo 9 19])
 (rg [mo 20 7,mo 21 8,mo 22 1,xo 23 (lt 0 5),mo 24 9,xo 25 (.callv (.t 22) [(.t 23),(.t 24)]),xo 26 (ia 1 20 21),xn (st 1 26 25)])))
 (rg [xo 27 (bc .add 15 1),mo 15 27])))))))
 (sq (rg [mo 28 7,mo 6 28])
 .ret))))⟩
theorem qCC:trFn Try.prog 36 [] [[15]]=some qFC:=by kernel_rfl
abbrev q3B:Nat:=37
def qBG:FnI:=⟨7,[.tmp 4],
 (sq (rg [xo 2 (.box 97 (.t 0)),xo 4 (.mov (.c (.slice none 0 0)))])
 (sq (rg [mo 5 1,xo 6 (.call 54 [(.t 5)]),mo 4 6])
 .ret))⟩
theorem qxF:trFn Try.prog 37 [] []=some qBG:=by kernel_rfl
abbrev qHB:Nat:=38
def qIB:FnI:=⟨8,[.tmp 2],
 (sq (rg [xo 2 (.mov (.c (.slice none 0 0)))])
 (sq (sq (rg [mo 3 0,xo 4 (.binn 0 false (.t 3))])
 (cD 4
 (sq (rg [xo 2 (.mov (.c (.slice none 0 0)))])
 .ret)
 .skip))
 (sq (rg [xo 5 (.bsl 79 3 0 [] []),mo 6 0,xo 7 (.app 79 3 24 (.t 5) (.t 6)),mo 2 7])
 .ret)))⟩
theorem qGB:trFn Try.prog 38 [] []=some qIB:=by kernel_rfl
abbrev qKA:Nat:=39
def qzI:FnI:=⟨68,[.cell 4 8 true,.cell 5 44 true,.cell 6 23 true],
 (sq (rg [xo 2 (.box 28 (.t 0)),xo 3 (.box 42 (.t 1)),xo 4 (.alloc 28 [(vi 0),(vi 0),(vi 0),(.v (.slice none 0 0)),(.v (.slice none 0 0)),(.v (.slice none 0 0)),(.v (.slice none 0 0)),(.v (.slice none 0 0))]),xo 5 (.alloc 42 zl0),xo 6 (.alloc 53 zl1)])
 (sq (sq (rg [xo 13 (lt 8 2),xo 14 (lt 44 3),xo 15 (.call 6 [(.t 13),(.t 14)]),xo 16 (.not (.t 15)),mo 17 16,xg 18 (lt 8 2) 17 false,xg 19 (lt 44 3) 17 false,xg 20 (.call 55 [(.t 18),(.t 19)]) 17 false,xg 21 (.not (.t 20)) 17 false,xo 22 (.pick (.t 17) (.b true) (.t 21))])
 (cD 22
 (sq (rd [] (ot 0 (xo 23 (lt 8 2))
 (of 2 (xo 25 (.build zl1 []))
 (ot 1 (xo 24 (lt 44 3))
 (.op ⟨3,false,[1],xn (st 8 4 23)⟩
 (of 4 (xn (st 44 5 24))
 (of 5 (xn (st 23 6 25))
 .nil)))))))
 .ret)
 .skip))
 (sq (rd [7,8] (ot 0 (xo 26 (lt 8 2))
 (ot 2 (xo 28 (lt 44 3))
 (of 1 (xo 27 (.call 21 [(.t 26)]))
 (.bring ⟨3,false,[],xo 7 (.alloc 28 [(vi 0),(vi 0),(vi 0),(.v (.slice none 0 0)),(.v (.slice none 0 0)),(.v (.slice none 0 0)),(.v (.slice none 0 0)),(.v (.slice none 0 0))])⟩
 (.bring ⟨4,false,[],xo 8 (.alloc 42 zl0)⟩
 (.op ⟨5,false,[2],xn (st 8 7 27)⟩
 (of 6 (xn (st 44 8 28))
 .nil))))))))
 (sq (rg [xo 29 (.build [(.v (.pointer none)),(.v (.pointer none))] [(0,1,(.t 7)),(1,1,(.t 8))]),xo 9 (.alloc 123 [(.v (.pointer none)),(.v (.pointer none))]),xn (st 2 9 29)])
 (sq (rg [xo 31 (.mkm .i64),xo 32 (lt 2 9),xo 33 (.mkf (.func 56) [(.t 32)] []),xn (.mup .i64 (.t 31) (ci 0) (.t 33)),xo 34 (lt 2 9),xo 35 (.mkf (.func 57) [(.t 34)] []),xn (.mup .i64 (.t 31) (ci 1) (.t 35)),xo 36 (lt 2 9),xo 37 (.mkf (.func 58) [(.t 36)] []),xn (.mup .i64 (.t 31) (ci 2) (.t 37)),xo 38 (lt 2 9),xo 39 (.mkf (.func 59) [(.t 38)] []),xn (.mup .i64 (.t 31) (ci 3) (.t 39)),xo 40 (lt 2 9),xo 41 (.mkf (.func 60) [(.t 40)] []),xn (.mup .i64 (.t 31) (ci 4) (.t 41)),xo 42 (lt 2 9),xo 43 (.mkf (.func 61) [(.t 42)] []),xn (.mup .i64 (.t 31) (ci 5) (.t 43)),xo 44 (lt 2 9),xo 45 (.mkf (.func 62) [(.t 44)] []),xn (.mup .i64 (.t 31) (ci 6) (.t 45)),xo 46 (lt 2 9),xo 47 (.mkf (.func 63) [(.t 46)] []),xn (.mup .i64 (.t 31) (ci 8) (.t 47)),xo 48 (lt 2 9),xo 49 (.mkf (.func 64) [(.t 48)] []),xn (.mup .i64 (.t 31) (ci 9) (.t 49)),xo 50 (lt 2 9),xo 51 (.mkf (.func 65) [(.t 50)] []),xn (.mup .i64 (.t 31) (ci 10) (.t 51)),mo 52 31,fo 53 11 3,lo 54 53,xo 55 (.look .i64 .nilFunc true (.t 52) (.t 54)),mo 30 55,xo 56 (.ext 0 (.t 30)),xo 57 (.ext 1 (.t 30)),mo 10 56,mo 11 57])
 (sq (sq (rg [mo 58 11,xo 59 (.not (.t 58))])
 (cD 59
 (sq (rd [] (ot 0 (xo 60 (lt 8 2))
 (of 2 (xo 62 (.build zl1 []))
 (ot 1 (xo 61 (lt 44 3))
 (.op ⟨3,false,[1],xn (st 8 4 60)⟩
 (of 4 (xn (st 44 5 61))
 (of 5 (xn (st 23 6 62))
 .nil)))))))
 .ret)
 .skip))
 (sq (rg [mo 63 10,xo 64 (.callv (.t 63) []),xo 12 (.alloc 53 zl1),xn (st 23 12 64)])
 (sq (rd [] (ot 0 (xo 65 (lt 8 7))
 (ot 1 (xo 66 (lt 44 8))
 (ot 2 (xo 67 (lt 23 12))
 (.op ⟨3,false,[2,1],xn (st 8 4 65)⟩
 (.op ⟨4,false,[2],xn (st 44 5 66)⟩
 (of 5 (xn (st 23 6 67))
 .nil)))))))
 .ret))))))))⟩
theorem qMA:trFn Try.prog 39 [([],(fs [0,2,1] (.exec 3 (.exec 4 (.exec 5 .nil))))),([3,4],(.first 0 (.first 2 (.exec 1 (.bring 3 (.bring 4 (.exec 5 (.exec 6 .nil)))))))),([],(fs [0,2,1] (.exec 3 (.exec 4 (.exec 5 .nil))))),([],(fs [0,1,2] (.exec 3 (.exec 4 (.exec 5 .nil)))))] []=some qzI:=by kernel_rfl
abbrev qoJ:Nat:=40
def q6J:FnI:=⟨53,[.cell 2 5 true,.tmp 3],
 (sq (rg [xo 1 (.box 60 (.t 0)),xo 2 (.alloc 63 [(.v (.slice none 0 0)),(.v (.slice none 0 0)),(.v (.slice none 0 0)),(.v (.slice none 0 0)),(.v (.bool false))]),xo 3 (.mov (ci 0))])
 (sq (sq (rg [xo 10 (lt 3 1),xo 11 (.call 44 [(.t 10)]),xo 12 (.not (.t 11))])
 (cD 12
 (sq (rg [xo 13 (.build [(.v (.slice none 0 0)),(.v (.slice none 0 0)),(.v (.slice none 0 0)),(.v (.slice none 0 0)),(.v (.bool false))] []),xn (st 5 2 13),xo 3 (.mov (ci 1))])
 .ret)
 .skip))
 (sq (rg [xo 14 (lt 3 1),xo 15 (.build [(.v (.slice none 0 0)),(.v (.slice none 0 0)),(.v (.slice none 0 0)),(.v (.slice none 0 0)),(.v (.bool false))] [(0,3,(.t 14))]),xo 4 (.alloc 63 [(.v (.slice none 0 0)),(.v (.slice none 0 0)),(.v (.slice none 0 0)),(.v (.slice none 0 0)),(.v (.bool false))]),xn (st 5 4 15)])
 (sq (sq (rg [fo 16 2 1,lo 17 16,xo 18 (.len false (.t 17)),xo 19 (.mov (ci 0))])
 (.block 0
 (.loop [19] [20,21,22,6,7,23,24,25,26,27,29,30,31,28,32,33,8,9,34,35,36,37,3,38,39,40,41,42,43,44,45,46,47,48,49,50,51,19]
 (sq (rg [xo 20 (bi .lss 19 18)])
 (sq (cD 20
 .skip
 (.exit 0))
 (sq (.block 1
 (sq (rg [xo 21 (ia 4 17 19),xo 22 (lt 4 21),xo 6 (.alloc 86 [(.v (.string ⟨#[]⟩)),(vi 0),(vi 0),(.v (.slice none 0 0))]),xn (st 4 6 22)])
 (sq (rg [xo 7 (.alloc 69 [(.v (.int .u64 (0))),(.v (.slice none 0 0))])])
 (sq (sq (rg [fo 23 3 6,lo 24 23,xo 25 (.len false (.t 24)),xo 26 (.mov (ci 0))])
 (.block 2
 (.loop [26] [27,29,30,31,28,32,33,8,9,34,35,36,37,3,38,39,40,41,42,43,44,26]
 (sq (rg [xo 27 (bi .lss 26 25)])
 (sq (cD 27
 .skip
 (.exit 2))
 (sq (.block 3
 (sq (rg [fo 29 2 6,lo 30 29,xo 31 (.call 66 [(.t 30)]),mo 28 31,xo 32 (.ext 0 (.t 28)),xo 33 (.ext 1 (.t 28)),xo 8 (.alloc 72 [(.v (.int .u64 (0))),(.v (.slice none 0 0)),(vi 0)]),xn (st 3 8 32),mo 9 33])
 (sq (sq (rg [mo 34 9,xo 35 (bc .neq 34 0)])
 (cD 35
 (sq (rg [xo 36 (.build [(.v (.slice none 0 0)),(.v (.slice none 0 0)),(.v (.slice none 0 0)),(.v (.slice none 0 0)),(.v (.bool false))] []),mo 37 9,xn (st 5 2 36),mo 3 37])
 .ret)
 .skip))
 (rg [fo 38 1 7,lo 39 38,xo 40 (lt 3 8),xo 41 (.bsl 72 3 1 [(.v (.int .u64 (0))),(.v (.slice none 0 0)),(vi 0)] [(0,3,(.t 40))]),xo 42 (.app 72 3 40 (.t 39) (.t 41)),fo 43 1 7,xn (st 1 43 42)]))))
 (rg [xo 44 (bc .add 26 1),mo 26 44])))))))
 (rg [fo 45 3 4,lo 46 45,xo 47 (lt 2 7),xo 48 (.bsl 69 2 1 [(.v (.int .u64 (0))),(.v (.slice none 0 0))] [(0,2,(.t 47))]),xo 49 (.app 69 2 32 (.t 46) (.t 48)),fo 50 3 4,xn (st 1 50 49)])))))
 (rg [xo 51 (bc .add 19 1),mo 19 51])))))))
 (sq (rg [xo 52 (lt 5 4),xn (st 5 2 52),xo 3 (.mov (ci 0))])
 .ret)))))⟩
theorem qVJ:trFn Try.prog 40 [] [[19],[26]]=some q6J:=by kernel_rfl
abbrev qcC:Nat:=41
def qrA:FnI:=⟨9,[.tmp 4],
 (sq (rg [xo 4 (.mov (.b false))])
 (sq (rg [mo 5 0,mo 6 1,xo 7 (.call 67 [(.t 5),(.t 6)]),xo 8 (bc .geq 7 0),mo 4 8])
 .ret))⟩
theorem qWC:trFn Try.prog 41 [] []=some qrA:=by kernel_rfl
abbrev qVH:Nat:=42
theorem qYH:FnOk Try.prog 42:=FnOk.of (by kernel_rfl)
def qnE:FnI:=⟨13,[.tmp 3],
 (sq (rg [xo 3 (.mov (.b false))])
 (sq (rg [mo 4 0,xo 5 (bc .lss 4 0),mo 6 5,xg 7 (mv 0) 6 false,xg 8 (fa 0 1) 6 false,xg 9 (lf 8) 6 false,xg 10 (bc .add 9 1) 6 false,xg 11 (bi .gtr 7 10) 6 false,xo 12 (.pick (.t 6) (.b true) (.t 11)),mo 3 12])
 .ret))⟩
theorem qTH:trFn Try.prog 42 [] []=some qnE:=by kernel_rfl
abbrev q6L:Nat:=43
def qLM:FnI:=⟨8,[.tmp 4],
 (sq (rg [xo 3 (.box 3 (.t 1)),xo 4 (.mov (.b false))])
 (sq (rg [mo 5 0,xo 6 (.mkf (.func 69) [] [(.t 3)]),xo 7 (.call 68 [(.t 5),(.t 6)]),mo 4 7])
 .ret))⟩
theorem qfL:trFn Try.prog 43 [] []=some qLM:=by kernel_rfl
abbrev qKO:Nat:=44
def qWO:FnI:=⟨13,[.tmp 2],
 (sq (rg [xo 1 (.box 60 (.t 0)),xo 2 (.mov (.b false))])
 (sq (rg [xo 6 (lt 3 1),xo 7 (.call 71 [(.t 6)]),xo 8 (.call 70 [(.t 7)]),mo 5 8,xo 9 (.ext 0 (.t 5)),xo 10 (.ext 1 (.t 5)),mo 3 9,mo 4 10])
 (sq (rg [mo 11 3,xo 12 (bc .eql 11 0),mo 2 12])
 .ret)))⟩
theorem qpN:trFn Try.prog 44 [] []=some qWO:=by kernel_rfl
abbrev qAH:Nat:=45
theorem qBH:FnOk Try.prog 45:=FnOk.of (by kernel_rfl)
def qFE:FnI:=⟨15,[.tmp 3],
 (sq (rg [xo 2 (.box 72 (.t 0)),xo 3 (.mov (.b false))])
 (sq (rg [xo 4 (lt 3 2),xo 5 (.call 46 [(.t 4)]),xo 6 (.not (.t 5)),mo 7 6,xg 8 (fa 1 2) 7 false,xg 9 (lf 8) 7 false,xg 10 (.len false (.t 9)) 7 false,xg 11 (fa 2 1) 7 false,xg 12 (lf 11) 7 false,xg 13 (bi .neq 10 12) 7 false,xo 14 (.pick (.t 7) (.b true) (.t 13)),mo 3 14])
 .ret))⟩
theorem q0G:trFn Try.prog 45 [] []=some qFE:=by kernel_rfl
abbrev qLN:Nat:=46
def qVN:FnI:=⟨29,[.tmp 2],
 (sq (rg [xo 1 (.box 72 (.t 0)),xo 2 (.mov (.b false))])
 (sq (rg [xo 6 (lt 3 1),xo 7 (.call 72 [(.t 6)]),mo 5 7,xo 8 (.ext 0 (.t 5)),xo 9 (.ext 1 (.t 5)),mo 3 8,mo 4 9])
 (sq (rg [mo 10 4,xo 11 (bc .eql 10 0),mo 12 11,xg 13 (fa 1 1) 12 true,xg 14 (lf 13) 12 true,xg 15 (.len false (.t 14)) 12 true,xg 16 (bc .geq 15 1) 12 true,xo 17 (.pick (.t 12) (.t 16) (.b false)),mo 18 17,xg 19 (fa 1 1) 18 true,xg 20 (lf 19) 18 true,xg 21 (.len false (.t 20)) 18 true,xg 22 (bc .leq 21 4) 18 true,xo 23 (.pick (.t 18) (.t 22) (.b false)),mo 24 23,xg 25 (fa 2 1) 24 true,xg 26 (lf 25) 24 true,xg 27 (bc .geq 26 0) 24 true,xo 28 (.pick (.t 24) (.t 27) (.b false)),mo 2 28])
 .ret)))⟩
theorem quM:trFn Try.prog 46 [] []=some qVN:=by kernel_rfl
abbrev qQB:Nat:=47
def qXA:FnI:=⟨9,[.tmp 4],
 (sq (rg [xo 4 (.mov (.b false))])
 (sq (rg [mo 5 0,mo 6 1,xo 7 (.call 73 [(.t 5),(.t 6)]),xo 8 (bc .geq 7 0),mo 4 8])
 .ret))⟩
theorem qKB:trFn Try.prog 47 [] []=some qXA:=by kernel_rfl
abbrev qtK:Nat:=48
def qDL:FnI:=⟨21,[.tmp 2],
 (sq (rg [xo 2 (.mov (.b false))])
 (sq (rg [mo 3 0,xo 4 (.len true (.t 3)),xo 5 (bc .gtr 4 0),mo 6 5,xg 7 (mv 0) 6 true,xg 8 (.len true (.t 7)) 6 true,xg 9 (bc .leq 8 16) 6 true,xo 10 (.pick (.t 6) (.t 9) (.b false)),mo 11 10,xg 12 (mv 0) 11 true,xg 13 (.idxs (.t 12) (ci 0)) 11 true,xg 14 (.call 74 [(.t 13)]) 11 true,xo 15 (.pick (.t 11) (.t 14) (.b false)),mo 16 15,xg 17 (.call 75 []) 16 true,xg 18 (mv 0) 16 true,xg 19 (.call 76 [(.t 17),(.t 18),(.c (.int .u8 (45)))]) 16 true,xo 20 (.pick (.t 16) (.t 19) (.b false)),mo 2 20])
 .ret))⟩
theorem qNK:trFn Try.prog 48 [] []=some qDL:=by kernel_rfl
abbrev q7A:Nat:=49
def qTA:FnI:=⟨19,[.tmp 4],
 (sq (rg [xo 4 (.mov (ci 0))])
 (sq (sq (rg [mo 6 0,xo 7 (.len false (.t 6)),xo 8 (.mov (ci 0))])
 (.block 0
 (.loop [8] [9,10,5,11,12,13,14,15,16,17,4,18,8]
 (sq (rg [xo 9 (bi .lss 8 7)])
 (sq (cD 9
 .skip
 (.exit 0))
 (sq (.block 1
 (sq (rg [mo 10 8,mo 5 10])
 (sq (rg [mo 11 1,mo 12 0,mo 13 5,xo 14 (ia 4 12 13),xo 15 (lt 4 14),xo 16 (.callv (.t 11) [(.t 15)])])
 (cD 16
 (sq (rg [mo 17 5,mo 4 17])
 .ret)
 .skip))))
 (rg [xo 18 (bc .add 8 1),mo 8 18])))))))
 (sq (rg [xo 4 (.mov (ci (-1)))])
 .ret)))⟩
theorem q5A:trFn Try.prog 49 [] [[8]]=some qTA:=by kernel_rfl
abbrev qEI:Nat:=50
theorem qOI:FnOk Try.prog 50:=FnOk.of (by kernel_rfl)
def qKF:FnI:=⟨8,[.tmp 3],
 (sq (rg [xo 2 (.box 81 (.t 0)),xo 3 (.mov (.b false))])
 (sq (rg [fo 4 0 2,lo 5 4,lo 6 1,xo 7 (.bins .eql (.t 5) (.t 6)),mo 3 7])
 .ret))⟩
theorem qpH:trFn Try.prog 50 [] []=some qKF:=by kernel_rfl
abbrev q3L:Nat:=51
def qIM:FnI:=⟨25,[.tmp 2,.tmp 3],
 (sq (rg [xo 2 (.mov (.c (.slice none 0 0))),xo 3 (.mov (ci 0))])
 (sq (sq (rg [mo 6 0,xo 7 (bc .lss 6 1),mo 8 7,xg 9 (mv 0) 8 false,xg 10 (bc .gtr 9 8) 8 false,xo 11 (.pick (.t 8) (.b true) (.t 10))])
 (cD 11
 (sq (rg [xo 2 (.mov (.c (.slice none 0 0))),xo 3 (.mov (ci 1))])
 .ret)
 .skip))
 (sq (rg [mo 12 0,xo 13 (.msl 46 1 24 [(.slice none 0 0)] (.t 12) (.t 12)),mo 4 13])
 (sq (sq (rg [mo 14 4,xo 15 (.len false (.t 14)),xo 16 (.mov (ci 0))])
 (.block 0
 (.loop [16] [17,18,5,19,20,21,22,23,16]
 (sq (rg [xo 17 (bi .lss 16 15)])
 (sq (cD 17
 .skip
 (.exit 0))
 (sq (.block 1
 (sq (rg [mo 18 16,mo 5 18])
 (rg [mo 19 4,mo 20 5,xo 21 (.msl 37 1 8 [(.int .u64 (0))] (ci 6) (ci 6)),xo 22 (ia 1 19 20),xn (st 1 22 21)])))
 (rg [xo 23 (bc .add 16 1),mo 16 23])))))))
 (sq (rg [mo 24 4,mo 2 24,xo 3 (.mov (ci 0))])
 .ret)))))⟩
theorem qcL:trFn Try.prog 51 [] [[16]]=some qIM:=by kernel_rfl
abbrev q2B:Nat:=52
def q5B:FnI:=⟨29,[.tmp 6],
 (sq (rg [xo 5 (.box 97 (.t 2)),xo 6 (.mov (.c (.slice none 0 0)))])
 (sq (rg [mo 10 0,xo 11 (.len false (.t 10)),xo 12 (.msl 69 2 32 [(.int .u64 (0)),(.slice none 0 0)] (.t 11) (.t 11)),mo 7 12])
 (sq (sq (rg [mo 13 0,xo 14 (.len false (.t 13)),xo 15 (.mov (ci 0))])
 (.block 0
 (.loop [15] [16,17,18,19,9,8,20,21,22,23,24,25,26,27,15]
 (sq (rg [xo 16 (bi .lss 15 14)])
 (sq (cD 16
 .skip
 (.exit 0))
 (sq (.block 1
 (sq (rg [mo 17 15,xo 18 (ia 2 13 15),xo 19 (lt 2 18),xo 9 (.alloc 69 [(.v (.int .u64 (0))),(.v (.slice none 0 0))]),mo 8 17,xn (st 2 9 19)])
 (rg [mo 20 7,mo 21 8,mo 22 1,xo 23 (lt 0 5),xo 24 (lt 2 9),xo 25 (.callv (.t 22) [(.t 23),(.t 24)]),xo 26 (ia 2 20 21),xn (st 2 26 25)])))
 (rg [xo 27 (bc .add 15 1),mo 15 27])))))))
 (sq (rg [mo 28 7,mo 6 28])
 .ret))))⟩
theorem q0B:trFn Try.prog 52 [] [[15]]=some q5B:=by kernel_rfl
abbrev qPB:Nat:=53
def qHF:FnI:=⟨11,[.cell 4 2 true],
 (sq (rg [xo 2 (.box 97 (.t 0)),xo 3 (.box 69 (.t 1)),xo 4 (.alloc 69 [(.v (.int .u64 (0))),(.v (.slice none 0 0))])])
 (sq (rg [fo 5 1 3,lo 6 5,xo 7 (lt 0 2),xo 8 (.call 77 [(.t 6),(.c (.func (.func 78) #[] #[])),(.t 7)]),fo 9 1 3,xn (st 1 9 8)])
 (sq (rg [xo 10 (lt 2 3),xn (st 2 4 10)])
 .ret)))⟩
theorem q0E:trFn Try.prog 53 [] []=some qHF:=by kernel_rfl
abbrev qqC:Nat:=54
def qtC:FnI:=⟨8,[.tmp 2],
 (sq (rg [xo 2 (.mov (.c (.slice none 0 0)))])
 (sq (sq (rg [mo 3 0,xo 4 (.binn 0 false (.t 3))])
 (cD 4
 (sq (rg [xo 2 (.mov (.c (.slice none 0 0)))])
 .ret)
 .skip))
 (sq (rg [xo 5 (.bsl 37 1 0 [] []),mo 6 0,xo 7 (.app 37 1 8 (.t 5) (.t 6)),mo 2 7])
 .ret)))⟩
theorem qlC:trFn Try.prog 54 [] []=some qtC:=by kernel_rfl
abbrev qvJ:Nat:=55
def qAK:FnI:=⟨82,[.tmp 4],
 (sq (rg [xo 2 (.box 28 (.t 0)),xo 3 (.box 42 (.t 1)),xo 4 (.mov (.b false))])
 (sq (sq (rg [fo 5 11 3,lo 6 5])
 (.block 0
 (sq (rg [xo 8 (bc .eql 6 2),mo 7 8])
 (cD 7
 (sq (rg [fo 9 21 3,lo 10 9,fo 11 3 2,lo 12 11,xo 13 (.len false (.t 12)),xo 14 (bi .lss 10 13),mo 4 14])
 .ret)
 (sq (rg [xo 16 (bc .eql 6 5),mo 15 16])
 (cD 15
 (sq (rd [] (of 0 (fo 17 22 3)
 (ot 1 (lo 18 17)
 (of 2 (fo 19 4 2)
 (ot 3 (lo 20 19)
 (of 4 (fo 21 13 3)
 (ot 5 (lo 22 21)
 (ot 6 (xo 23 (ia 5 20 22))
 (ot 7 (xo 24 (lt 5 23))
 (of 8 (xo 25 (.call 12 [(.t 24)]))
 (of 9 (xo 26 (bi .lss 18 25))
 (of 10 (mo 4 26)
 .nil))))))))))))
 .ret)
 (sq (rg [xo 28 (bc .eql 6 6),mo 27 28])
 (cD 27
 (sq (rd [] (of 0 (fo 29 21 3)
 (ot 1 (lo 30 29)
 (of 2 (fo 31 7 2)
 (ot 3 (lo 32 31)
 (of 4 (xo 33 (.len false (.t 32)))
 (of 5 (xo 34 (bi .lss 30 33))
 (of 6 (mo 35 34)
 (of 7 (xg 36 (fa 7 2) 35 true)
 (ot 8 (xg 37 (lf 36) 35 true)
 (of 9 (xg 38 (fa 21 3) 35 true)
 (ot 10 (xg 39 (lf 38) 35 true)
 (ot 11 (xg 40 (ia 3 37 39) 35 true)
 (of 12 (xg 41 (fa 0 40) 35 true)
 (ot 13 (xg 42 (lf 41) 35 true)
 (of 14 (xg 43 (fa 13 3) 35 true)
 (ot 15 (xg 44 (lf 43) 35 true)
 (of 16 (xg 45 (bi .eql 42 44) 35 true)
 (of 17 (xo 46 (.pick (.t 35) (.t 45) (.b false)))
 (of 18 (mo 47 46)
 (of 19 (xg 48 (fa 7 2) 47 true)
 (ot 20 (xg 49 (lf 48) 47 true)
 (of 21 (xg 50 (fa 21 3) 47 true)
 (ot 22 (xg 51 (lf 50) 47 true)
 (ot 23 (xg 52 (ia 3 49 51) 47 true)
 (of 24 (xg 53 (fa 2 52) 47 true)
 (ot 25 (xg 54 (lf 53) 47 true)
 (of 26 (xg 55 (.not (.t 54)) 47 true)
 (of 27 (xo 56 (.pick (.t 47) (.t 55) (.b false)))
 (of 28 (mo 4 56)
 .nil))))))))))))))))))))))))))))))
 .ret)
 (sq (rg [xo 58 (bc .eql 6 9),mo 57 58])
 (cD 57
 (sq (rg [fo 59 21 3,lo 60 59,fo 61 5 2,lo 62 61,xo 63 (.len false (.t 62)),xo 64 (bi .lss 60 63),mo 4 64])
 .ret)
 (sq (rg [xo 66 (bc .eql 6 10),mo 65 66])
 (cD 65
 (sq (rg [fo 67 21 3,lo 68 67,fo 69 5 2,lo 70 69,xo 71 (.len false (.t 70)),xo 72 (bi .lss 68 71),mo 73 72,xg 74 (fa 5 2) 73 true,xg 75 (lf 74) 73 true,xg 76 (fa 21 3) 73 true,xg 77 (lf 76) 73 true,xg 78 (ia 4 75 77) 73 true,xg 79 (fa 1 78) 73 true,xg 80 (lf 79) 73 true,xo 81 (.pick (.t 73) (.t 80) (.b false)),mo 4 81])
 .ret)
 .skip))))))))))))
 (sq (rg [xo 4 (.mov (.b true))])
 .ret)))⟩
theorem qcJ:trFn Try.prog 55 [([],(fs [0,1,2,3,4,5,6,7] (.exec 8 (.first 9 (.first 10 .nil))))),([],(fs [0,1,2,3,4,5,6,7,8,9,10,11,12,13,14,15,16,17,18,19,20,21,22,23,24,25,26,27,28] .nil))] []=some qAK:=by kernel_rfl
abbrev qzC:Nat:=56
theorem qjF:FnOk Try.prog 56:=FnOk.of (by kernel_rfl)
def q2C:FnI:=⟨24,[.cell 2 23 true],
 (sq (rg [xo 1 (.box 123 (.t 0)),xo 2 (.alloc 53 zl1)])
 (sq (sq (rg [fo 3 0 1,lo 4 3,xo 5 (nk 4),fo 6 2 5,lo 7 6,xo 8 (bc .neq 7 0)])
 (cD 8
 (sq (rd [] (ot 0 (xo 9 (lt 2 1))
 (ot 1 (xo 10 (lt 2 1))
 (of 3 (xo 12 (.build zl2 [(0,1,(ci 12))]))
 (of 2 (xo 11 (.call 80 [(.t 10),(ci 5),(ci 14),(ci 1)]))
 (of 4 (xo 13 (.callw 79 [(.t 9),(.t 11),(.t 12)]))
 (of 5 (xn (st 23 2 13))
 .nil)))))))
 .ret)
 .skip))
 (sq (rd [] (of 0 (fo 14 0 1)
 (ot 1 (lo 15 14)
 (of 4 (xo 18 (nk 15))
 (of 5 (fo 19 2 18)
 (of 2 (fo 16 1 1)
 (ot 3 (lo 17 16)
 (.op ⟨6,false,[3],xn (.store 1 (.t 19) (ci 1))⟩
 (of 7 (xo 20 (nk 17))
 (of 8 (fo 21 11 20)
 (of 9 (xn (.store 1 (.t 21) (ci 1)))
 .nil)))))))))))
 (sq (rg [xo 22 (lt 2 1),xo 23 (.call 80 [(.t 22),(ci 4),(ci 14),(ci 1)]),xn (st 23 2 23)])
 .ret))))⟩
theorem qcF:trFn Try.prog 56 [([],(fs [0,1,3] (.exec 2 (.exec 4 (.exec 5 .nil))))),([],(fs [0,1,4,5,2,3] (.exec 6 (.first 7 (.first 8 (.exec 9 .nil))))))] []=some q2C:=by kernel_rfl
abbrev qtB:Nat:=57
theorem qrD:FnOk Try.prog 57:=FnOk.of (by kernel_rfl)
def qxB:FnI:=⟨21,[.cell 2 23 true],
 (sq (rg [xo 1 (.box 123 (.t 0)),xo 2 (.alloc 53 zl1)])
 (sq (rd [] (of 0 (fo 3 1 1)
 (ot 1 (lo 4 3)
 (of 2 (fo 5 0 1)
 (ot 3 (lo 6 5)
 (of 4 (xo 7 (nk 6))
 (of 5 (fo 8 0 7)
 (ot 6 (lo 9 8)
 (of 7 (xo 10 (nk 4))
 (of 8 (fo 11 12 10)
 (of 9 (xn (st 1 11 9))
 .nil)))))))))))
 (sq (rg [xo 12 (lt 2 1),xo 13 (.callw 81 [(.t 12),(ci 2),(ci 0)])])
 (sq (rd [] (ot 0 (xo 14 (lt 2 1))
 (of 1 (fo 15 0 1)
 (ot 2 (lo 16 15)
 (of 3 (xo 17 (nk 16))
 (of 4 (fo 18 0 17)
 (ot 5 (lo 19 18)
 (of 6 (xo 20 (.call 80 [(.t 14),(ci 1),(ci 1),(.t 19)]))
 (of 7 (xn (st 23 2 20))
 .nil)))))))))
 .ret))))⟩
theorem qmD:trFn Try.prog 57 [([],(fs [0,1,2,3,4,5,6,7,8] (.exec 9 .nil))),([],(fs [0,1,2,3,4,5] (.exec 6 (.exec 7 .nil))))] []=some qxB:=by kernel_rfl
abbrev qOC:Nat:=58
theorem qZE:FnOk Try.prog 58:=FnOk.of (by kernel_rfl)
def qRC:FnI:=⟨64,[.cell 2 23 true],
 (sq (rg [xo 1 (.box 123 (.t 0)),xo 2 (.alloc 53 zl1)])
 (sq (rd [] (of 0 (fo 4 0 1)
 (ot 1 (lo 5 4)
 (of 2 (xo 6 (nk 5))
 (of 3 (fo 7 3 6)
 (ot 4 (lo 8 7)
 (of 5 (fo 9 1 1)
 (ot 6 (lo 10 9)
 (of 7 (xo 11 (nk 10))
 (of 8 (fo 12 21 11)
 (ot 9 (lo 13 12)
 (ot 10 (xo 14 (ia 1 8 13))
 (ot 11 (lo 15 14)
 (of 12 (mo 3 15)
 .nil))))))))))))))
 (sq (.block 0
 (sq (rg [mo 25 3,xo 26 (bc .neq 25 0),mo 27 26,xg 28 (mv 3) 27 true,xg 29 (fa 1 1) 27 true,xg 30 (lf 29) 27 true,xg 31 (nk 30) 27 true,xg 32 (fa 12 31) 27 true,xg 33 (lf 32) 27 true,xg 34 (bc .add 33 1) 27 true,xg 35 (bi .neq 28 34) 27 true,xo 36 (.pick (.t 27) (.t 35) (.b false)),mo 24 36])
 (cD 24
 (rg [xo 37 (lt 2 1),xo 38 (.callw 81 [(.t 37),(ci 4),(ci 0)])])
 (sq (rd [] (of 0 (fo 40 1 1)
 (ot 1 (lo 41 40)
 (of 2 (xo 42 (nk 41))
 (of 3 (fo 43 21 42)
 (ot 4 (lo 44 43)
 (of 5 (xo 45 (bc .add 44 1))
 (of 6 (fo 46 0 1)
 (ot 7 (lo 47 46)
 (of 8 (xo 48 (nk 47))
 (of 9 (fo 49 3 48)
 (ot 10 (lo 50 49)
 (of 11 (xo 51 (.len false (.t 50)))
 (of 12 (xo 52 (bi .lss 45 51))
 (of 13 (mo 39 52)
 .nil)))))))))))))))
 (cD 39
 (rg [fo 53 1 1,lo 54 53,xo 55 (nk 54),fo 56 21 55,lo 57 56,xo 58 (bc .add 57 1),xo 59 (nk 54),fo 60 21 59,xn (st 1 60 58)])
 (rd [] (ot 0 (xo 16 (lt 2 1))
 (of 1 (fo 17 1 1)
 (ot 2 (lo 18 17)
 (of 3 (xo 19 (nk 18))
 (of 4 (fo 20 21 19)
 (ot 5 (lo 21 20)
 (of 6 (xo 22 (bc .add 21 1))
 (of 7 (xo 23 (.callw 81 [(.t 16),(ci 3),(.t 22)]))
 .nil))))))))))))))
 (sq (rg [xo 61 (lt 2 1),mo 62 3,xo 63 (.call 80 [(.t 61),(ci 1),(ci 2),(.t 62)]),xn (st 23 2 63)])
 .ret))))⟩
theorem qQE:trFn Try.prog 58 [([],(fs [0,1,2,3,4,5,6,7,8,9,10,11,12] .nil)),([],(fs [0,1,2,3,4,5,6,7,8,9,10,11,12,13] .nil)),([],(fs [0,1,2,3,4,5,6] (.exec 7 .nil)))] []=some qRC:=by kernel_rfl
abbrev q9B:Nat:=59
theorem qEE:FnOk Try.prog 59:=FnOk.of (by kernel_rfl)
def qBC:FnI:=⟨50,[.cell 2 23 true],
 (sq (rg [xo 1 (.box 123 (.t 0)),xo 2 (.alloc 53 zl1)])
 (sq (rg [xo 3 (.mov (ci 5))])
 (sq (sq (rd [] (of 0 (fo 4 0 1)
 (ot 1 (lo 5 4)
 (of 2 (xo 6 (nk 5))
 (of 3 (fo 7 0 6)
 (ot 4 (lo 8 7)
 (of 5 (fo 9 1 1)
 (ot 6 (lo 10 9)
 (of 7 (xo 11 (nk 10))
 (of 8 (fo 12 12 11)
 (ot 9 (lo 13 12)
 (of 10 (xo 14 (bi .eql 8 13))
 (of 11 (mo 15 14)
 (of 12 (xg 16 (fa 0 1) 15 true)
 (ot 13 (xg 17 (lf 16) 15 true)
 (of 14 (xg 18 (nk 17) 15 true)
 (of 15 (xg 19 (fa 0 18) 15 true)
 (ot 16 (xg 20 (lf 19) 15 true)
 (of 17 (xg 21 (bc .lss 20 1000000000000) 15 true)
 (of 18 (xo 22 (.pick (.t 15) (.t 21) (.b false)))
 .nil))))))))))))))))))))
 (cD 22
 (sq (rg [xo 3 (.mov (ci 4))])
 (sq (rg [fo 23 0 1,lo 24 23,xo 25 (nk 24),fo 26 0 25,lo 27 26,xo 28 (bc .add 27 1),xo 29 (nk 24),fo 30 0 29,xn (st 1 30 28)])
 (rd [] (of 0 (fo 31 1 1)
 (ot 1 (lo 32 31)
 (of 2 (fo 33 0 1)
 (ot 3 (lo 34 33)
 (of 4 (xo 35 (nk 34))
 (of 5 (fo 36 0 35)
 (ot 6 (lo 37 36)
 (of 7 (xo 38 (nk 32))
 (of 8 (fo 39 12 38)
 (of 9 (xn (st 1 39 37))
 .nil)))))))))))))
 .skip))
 (sq (rg [xo 40 (lt 2 1),xo 41 (.callw 81 [(.t 40),(ci 4),(ci 0)])])
 (sq (rd [] (ot 0 (xo 42 (lt 2 1))
 (of 1 (mo 43 3)
 (of 2 (fo 44 0 1)
 (ot 3 (lo 45 44)
 (of 4 (xo 46 (nk 45))
 (of 5 (fo 47 0 46)
 (ot 6 (lo 48 47)
 (of 7 (xo 49 (.call 80 [(.t 42),(.t 43),(ci 1),(.t 48)]))
 (of 8 (xn (st 23 2 49))
 .nil))))))))))
 .ret)))))⟩
theorem q4D:trFn Try.prog 59 [([],(fs [0,1,2,3,4,5,6,7,8,9,10,11,12,13,14,15,16,17,18] .nil)),([],(fs [0,1,2,3,4,5,6,7,8] (.exec 9 .nil))),([],(fs [0,1,2,3,4,5,6] (.exec 7 (.exec 8 .nil))))] []=some qBC:=by kernel_rfl
abbrev qsB:Nat:=60
theorem qqD:FnOk Try.prog 60:=FnOk.of (by kernel_rfl)
def qwB:FnI:=⟨79,[.cell 2 23 true],
 (sq (rg [xo 1 (.box 123 (.t 0)),xo 2 (.alloc 53 zl1)])
 (sq (rg [fo 5 1 1,lo 6 5,mo 3 6])
 (sq (sq (rd [] (of 0 (mo 7 3)
 (of 1 (xo 8 (nk 7))
 (of 2 (fo 9 21 8)
 (ot 3 (lo 10 9)
 (of 4 (fo 11 0 1)
 (ot 5 (lo 12 11)
 (of 6 (xo 13 (nk 12))
 (of 7 (fo 14 7 13)
 (ot 8 (lo 15 14)
 (of 9 (xo 16 (.len false (.t 15)))
 (of 10 (xo 17 (bi .geq 10 16))
 .nil))))))))))))
 (cD 17
 (sq (rg [xo 18 (lt 2 1),xo 19 (.callw 81 [(.t 18),(ci 8),(ci 0)])])
 (sq (rg [xo 20 (lt 2 1),xo 21 (.call 63 [(.t 20)]),xn (st 23 2 21)])
 .ret))
 .skip))
 (sq (rd [4] (of 0 (fo 22 0 1)
 (ot 1 (lo 23 22)
 (of 2 (xo 24 (nk 23))
 (of 3 (fo 25 7 24)
 (ot 4 (lo 26 25)
 (of 5 (mo 27 3)
 (of 6 (xo 28 (nk 27))
 (of 7 (fo 29 21 28)
 (ot 8 (lo 30 29)
 (ot 9 (xo 31 (ia 3 26 30))
 (ot 10 (xo 32 (lt 3 31))
 (.bring ⟨11,false,[],xo 4 (.alloc 79 [(vi 0),(vi 0),(.v (.bool false))])⟩
 (of 12 (xn (st 3 4 32))
 .nil))))))))))))))
 (sq (sq (rd [] (of 0 (fo 33 2 4)
 (ot 1 (lo 34 33)
 (of 2 (mo 35 34)
 (of 3 (xg 36 (fa 1 4) 35 false)
 (ot 4 (xg 37 (lf 36) 35 false)
 (of 5 (xg 38 (mv 3) 35 false)
 (of 6 (xg 39 (nk 38) 35 false)
 (of 7 (xg 40 (fa 12 39) 35 false)
 (ot 8 (xg 41 (lf 40) 35 false)
 (of 9 (xg 42 (.call 82 [(.t 37),(.t 41)]) 35 false)
 (of 10 (xg 43 (.not (.t 42)) 35 false)
 (of 11 (xo 44 (.pick (.t 35) (.b true) (.t 43)))
 .nil)))))))))))))
 (cD 44
 (rg [mo 45 3,xo 46 (nk 45),fo 47 21 46,lo 48 47,xo 49 (bc .add 48 1),xo 50 (nk 45),fo 51 21 50,xn (st 1 51 49)])
 (rg [mo 52 3,mo 53 3,mo 54 3,mo 55 3,mo 56 3,mo 57 3,mo 58 3,fo 59 0 4,lo 60 59,xo 61 (nk 52),fo 62 13 61,xn (st 1 62 60),xo 63 (nk 53),fo 64 15 63,xn (.store 1 (.t 64) (ci 0)),xo 65 (nk 54),fo 66 16 65,xn (.store 1 (.t 66) (ci 0)),xo 67 (nk 55),fo 68 17 67,xn (.store 1 (.t 68) (ci 0)),xo 69 (nk 56),fo 70 18 69,xn (.store 1 (.t 70) (ci 0)),xo 71 (nk 57),fo 72 22 71,xn (.store 1 (.t 72) (ci 0)),xo 73 (nk 58),fo 74 11 73,xn (.store 1 (.t 74) (ci 5))])))
 (sq (rg [xo 75 (lt 2 1),fo 76 0 4,lo 77 76,xo 78 (.call 80 [(.t 75),(ci 1),(ci 11),(.t 77)]),xn (st 23 2 78)])
 .ret))))))⟩
theorem qlD:trFn Try.prog 60 [([],(fs [0,1,2,3,4,5,6,7,8,9,10] .nil)),([11],(fs [0,1,2,3,4,5,6,7,8,9,10] (.bring 11 (.exec 12 .nil)))),([],(fs [0,1,2,3,4,5,6,7,8] (.exec 9 (.first 10 (.first 11 .nil)))))] []=some qwB:=by kernel_rfl
abbrev qcB:Nat:=61
theorem qYD:FnOk Try.prog 61:=FnOk.of (by kernel_rfl)
def qfB:FnI:=⟨78,[.cell 2 23 true],
 (sq (rg [xo 1 (.box 123 (.t 0)),xo 2 (.alloc 53 zl1)])
 (sq (rg [fo 7 1 1,lo 8 7,mo 3 8])
 (sq (rd [4] (of 0 (fo 9 0 1)
 (ot 1 (lo 10 9)
 (of 2 (xo 11 (nk 10))
 (of 3 (fo 12 4 11)
 (ot 4 (lo 13 12)
 (of 5 (mo 14 3)
 (of 6 (xo 15 (nk 14))
 (of 7 (fo 16 13 15)
 (ot 8 (lo 17 16)
 (ot 9 (xo 18 (ia 5 13 17))
 (ot 10 (xo 19 (lt 5 18))
 (.bring ⟨11,false,[],xo 4 (.alloc 63 [(.v (.slice none 0 0)),(.v (.slice none 0 0)),(.v (.slice none 0 0)),(.v (.slice none 0 0)),(.v (.bool false))])⟩
 (of 12 (xn (st 5 4 19))
 .nil))))))))))))))
 (sq (rg [xo 20 (lt 5 4),xo 21 (.call 24 [(.t 20)]),mo 5 21])
 (sq (rd [6] (ot 0 (xo 22 (lt 2 1))
 (of 1 (mo 23 5)
 (of 2 (mo 24 3)
 (of 3 (xo 25 (nk 24))
 (of 4 (fo 26 22 25)
 (ot 5 (lo 27 26)
 (ot 6 (xo 28 (ia 3 23 27))
 (of 7 (fo 29 2 28)
 (ot 8 (lo 30 29)
 (of 9 (xo 31 (.call 80 [(.t 22),(ci 1),(ci 7),(.t 30)]))
 (.bring ⟨10,false,[],xo 6 (.alloc 53 zl1)⟩
 (of 11 (xn (st 23 6 31))
 .nil)))))))))))))
 (sq (rd [] (of 0 (mo 32 3)
 (of 1 (xo 33 (nk 32))
 (of 2 (fo 34 13 33)
 (ot 3 (lo 35 34)
 (of 6 (fo 38 4 6)
 (of 4 (fo 36 4 4)
 (ot 5 (lo 37 36)
 (.op ⟨7,false,[5],xn (st 1 38 35)⟩
 (of 8 (fo 39 5 6)
 (of 9 (xn (st 1 39 37))
 .nil)))))))))))
 (sq (.block 0
 (sq (rg [fo 51 6 6,lo 52 51,xo 53 (bc .neq 52 0),mo 50 53])
 (cD 50
 (rd [] (ot 0 (xo 54 (lt 2 1))
 (of 1 (mo 55 3)
 (of 2 (xo 56 (nk 55))
 (of 3 (fo 57 21 56)
 (ot 4 (lo 58 57)
 (of 5 (xo 59 (bc .add 58 1))
 (of 6 (xo 60 (.callw 81 [(.t 54),(ci 4),(.t 59)]))
 .nil))))))))
 (sq (rg [mo 62 3,xo 63 (nk 62),fo 64 22 63,lo 65 64,xo 66 (bc .add 65 1),mo 67 5,xo 68 (.len false (.t 67)),xo 69 (bi .lss 66 68),mo 61 69])
 (cD 61
 (rg [mo 70 3,xo 71 (nk 70),fo 72 22 71,lo 73 72,xo 74 (bc .add 73 1),xo 75 (nk 70),fo 76 22 75,xn (st 1 76 74)])
 (sq (rg [mo 40 3,xo 41 (nk 40),fo 42 22 41,lo 43 42,xo 44 (bc .add 43 1),xo 45 (nk 40),fo 46 22 45,xn (st 1 46 44)])
 (rg [mo 47 3,xo 48 (nk 47),fo 49 11 48,xn (.store 1 (.t 49) (ci 6))])))))))
 (sq (rg [xo 77 (lt 23 6),xn (st 23 2 77)])
 .ret))))))))⟩
theorem qUD:trFn Try.prog 61 [([11],(fs [0,1,2,3,4,5,6,7,8,9,10] (.bring 11 (.exec 12 .nil)))),([10],(fs [0,1,2,3,4,5,6,7,8] (.exec 9 (.bring 10 (.exec 11 .nil))))),([],(fs [0,1,2,3,6,4,5] (.exec 7 (.first 8 (.exec 9 .nil))))),([],(fs [0,1,2,3,4,5] (.exec 6 .nil)))] []=some qfB:=by kernel_rfl
abbrev q0C:Nat:=62
theorem qkF:FnOk Try.prog 62:=FnOk.of (by kernel_rfl)
def q3C:FnI:=⟨50,[.cell 2 23 true],
 (sq (rg [xo 1 (.box 123 (.t 0)),xo 2 (.alloc 53 zl1)])
 (sq (rg [fo 4 1 1,lo 5 4,mo 3 5])
 (sq (rd [] (of 0 (fo 6 0 1)
 (ot 1 (lo 7 6)
 (of 2 (xo 8 (nk 7))
 (of 3 (fo 9 4 8)
 (ot 4 (lo 10 9)
 (of 5 (mo 11 3)
 (of 6 (xo 12 (nk 11))
 (of 7 (fo 13 13 12)
 (ot 8 (lo 14 13)
 (of 9 (fo 15 0 1)
 (ot 10 (lo 16 15)
 (of 11 (xo 17 (nk 16))
 (of 12 (fo 18 7 17)
 (ot 13 (lo 19 18)
 (of 14 (mo 20 3)
 (of 15 (xo 21 (nk 20))
 (of 16 (fo 22 21 21)
 (ot 17 (lo 23 22)
 (ot 18 (xo 24 (ia 5 10 14))
 (of 19 (fo 25 4 24)
 (of 20 (xn (.store 1 (.t 25) (.b true)))
 (ot 21 (xo 26 (ia 3 19 23))
 (of 22 (fo 27 2 26)
 (of 23 (xn (.store 1 (.t 27) (.b true)))
 .nil)))))))))))))))))))))))))
 (sq (rg [mo 28 3,xo 29 (nk 28),fo 30 25 29,fo 31 6 30,lo 32 31,xo 33 (bc .add 32 1),xo 34 (nk 28),fo 35 25 34,fo 36 6 35,xn (st 1 36 33)])
 (sq (rd [] (ot 0 (xo 37 (lt 2 1))
 (of 1 (mo 38 3)
 (of 2 (xo 39 (nk 38))
 (of 3 (fo 40 21 39)
 (ot 4 (lo 41 40)
 (of 5 (xo 42 (bc .add 41 1))
 (of 6 (xo 43 (.callw 81 [(.t 37),(ci 4),(.t 42)]))
 .nil))))))))
 (sq (rd [] (ot 0 (xo 44 (lt 2 1))
 (of 1 (mo 45 3)
 (of 2 (xo 46 (nk 45))
 (of 3 (fo 47 13 46)
 (ot 4 (lo 48 47)
 (of 5 (xo 49 (.call 80 [(.t 44),(ci 2),(ci 12),(.t 48)]))
 (of 6 (xn (st 23 2 49))
 .nil))))))))
 .ret))))))⟩
theorem qdF:trFn Try.prog 62 [([],(fs [0,1,2,3,4,5,6,7,8,9,10,11,12,13,14,15,16,17,18,19] (.exec 20 (.first 21 (.first 22 (.exec 23 .nil)))))),([],(fs [0,1,2,3,4,5] (.exec 6 .nil))),([],(fs [0,1,2,3,4] (.exec 5 (.exec 6 .nil))))] []=some q3C:=by kernel_rfl
abbrev quB:Nat:=63
theorem qsD:FnOk Try.prog 63:=FnOk.of (by kernel_rfl)
def qyB:FnI:=⟨67,[.cell 2 23 true],
 (sq (rg [xo 1 (.box 123 (.t 0)),xo 2 (.alloc 53 zl1)])
 (sq (rg [fo 6 1 1,lo 7 6,mo 3 7])
 (sq (sq (rd [] (of 0 (mo 8 3)
 (of 1 (xo 9 (nk 8))
 (of 2 (fo 10 21 9)
 (ot 3 (lo 11 10)
 (of 4 (fo 12 0 1)
 (ot 5 (lo 13 12)
 (of 6 (xo 14 (nk 13))
 (of 7 (fo 15 5 14)
 (ot 8 (lo 16 15)
 (of 9 (xo 17 (.len false (.t 16)))
 (of 10 (xo 18 (bi .geq 11 17))
 .nil))))))))))))
 (cD 18
 (sq (rg [fo 19 0 1,lo 20 19,xo 21 (nk 20),fo 22 2 21,xn (.store 1 (.t 22) (ci 0))])
 (sq (rd [] (ot 0 (xo 23 (lt 2 1))
 (ot 1 (xo 24 (lt 2 1))
 (of 3 (mo 26 3)
 (of 4 (xo 27 (nk 26))
 (of 5 (fo 28 25 27)
 (of 6 (fo 29 6 28)
 (ot 7 (lo 30 29)
 (of 8 (xo 31 (.build zl2 [(0,1,(ci 11)),(6,1,(.t 30))]))
 (of 2 (xo 25 (.call 80 [(.t 24),(ci 2),(ci 14),(ci 0)]))
 (of 9 (xo 32 (.callw 79 [(.t 23),(.t 25),(.t 31)]))
 (of 10 (xn (st 23 2 32))
 .nil))))))))))))
 .ret))
 .skip))
 (sq (rd [4] (of 0 (fo 33 0 1)
 (ot 1 (lo 34 33)
 (of 2 (xo 35 (nk 34))
 (of 3 (fo 36 5 35)
 (ot 4 (lo 37 36)
 (of 5 (mo 38 3)
 (of 6 (xo 39 (nk 38))
 (of 7 (fo 40 21 39)
 (ot 8 (lo 41 40)
 (ot 9 (xo 42 (ia 4 37 41))
 (ot 10 (xo 43 (lt 4 42))
 (.bring ⟨11,false,[],xo 4 (.alloc 81 [(.v (.string ⟨#[]⟩)),(.v (.bool false)),(vi 0),(.v (.bool false))])⟩
 (of 12 (xn (st 4 4 43))
 .nil))))))))))))))
 (sq (rg [xo 44 (lt 2 1),xo 45 (.call 80 [(.t 44),(ci 1),(ci 4),(ci 0)]),xo 5 (.alloc 53 zl1),xn (st 23 5 45)])
 (sq (sq (rg [fo 46 1 4,lo 47 46])
 (cD 47
 (rg [fo 48 6 5,xn (.store 1 (.t 48) (ci 1))])
 .skip))
 (sq (sq (rg [fo 49 1 4,lo 50 49,mo 51 50,xg 52 (fa 3 4) 51 true,xg 53 (lf 52) 51 true,xg 54 (.not (.t 53)) 51 true,xo 55 (.pick (.t 51) (.t 54) (.b false))])
 (cD 55
 (rg [mo 56 3,xo 57 (nk 56),fo 58 11 57,xn (.store 1 (.t 58) (ci 9))])
 (rg [mo 59 3,xo 60 (nk 59),fo 61 21 60,lo 62 61,xo 63 (bc .add 62 1),xo 64 (nk 59),fo 65 21 64,xn (st 1 65 63)])))
 (sq (rg [xo 66 (lt 23 5),xn (st 23 2 66)])
 .ret))))))))⟩
theorem qnD:trFn Try.prog 63 [([],(fs [0,1,2,3,4,5,6,7,8,9,10] .nil)),([],(fs [0,1,3,4,5,6,7,8] (.exec 2 (.exec 9 (.exec 10 .nil))))),([11],(fs [0,1,2,3,4,5,6,7,8,9,10] (.bring 11 (.exec 12 .nil))))] []=some qyB:=by kernel_rfl
abbrev qbB:Nat:=64
theorem qXD:FnOk Try.prog 64:=FnOk.of (by kernel_rfl)
def qeB:FnI:=⟨34,[.cell 2 23 true],
 (sq (rg [xo 1 (.box 123 (.t 0)),xo 2 (.alloc 53 zl1)])
 (sq (rd [] (of 0 (fo 4 0 1)
 (ot 1 (lo 5 4)
 (of 2 (xo 6 (nk 5))
 (of 3 (fo 7 5 6)
 (ot 4 (lo 8 7)
 (of 5 (fo 9 1 1)
 (ot 6 (lo 10 9)
 (of 7 (xo 11 (nk 10))
 (of 8 (fo 12 21 11)
 (ot 9 (lo 13 12)
 (ot 10 (xo 14 (ia 4 8 13))
 (of 11 (fo 15 2 14)
 (ot 12 (lo 16 15)
 (of 13 (mo 3 16)
 .nil)))))))))))))))
 (sq (sq (rg [mo 17 3,xo 18 (bc .eql 17 0)])
 (cD 18
 (rg [fo 19 1 1,lo 20 19,xo 21 (nk 20),fo 22 11 21,xn (.store 1 (.t 22) (ci 10))])
 (rd [] (ot 0 (xo 23 (lt 2 1))
 (of 1 (fo 24 1 1)
 (ot 2 (lo 25 24)
 (of 3 (xo 26 (nk 25))
 (of 4 (fo 27 21 26)
 (ot 5 (lo 28 27)
 (of 6 (xo 29 (bc .add 28 1))
 (of 7 (xo 30 (.callw 81 [(.t 23),(ci 8),(.t 29)]))
 .nil)))))))))))
 (sq (rg [xo 31 (lt 2 1),mo 32 3,xo 33 (.call 80 [(.t 31),(ci 1),(ci 5),(.t 32)]),xn (st 23 2 33)])
 .ret))))⟩
theorem qTD:trFn Try.prog 64 [([],(fs [0,1,2,3,4,5,6,7,8,9,10,11,12,13] .nil)),([],(fs [0,1,2,3,4,5,6] (.exec 7 .nil)))] []=some qeB:=by kernel_rfl
abbrev qyC:Nat:=65
theorem qiF:FnOk Try.prog 65:=FnOk.of (by kernel_rfl)
def q1C:FnI:=⟨25,[.cell 2 23 true],
 (sq (rg [xo 1 (.box 123 (.t 0)),xo 2 (.alloc 53 zl1)])
 (sq (rd [] (of 0 (fo 3 0 1)
 (ot 1 (lo 4 3)
 (of 2 (xo 5 (nk 4))
 (of 3 (fo 6 5 5)
 (ot 4 (lo 7 6)
 (of 5 (fo 8 1 1)
 (ot 6 (lo 9 8)
 (of 7 (xo 10 (nk 9))
 (of 8 (fo 11 21 10)
 (ot 9 (lo 12 11)
 (ot 10 (xo 13 (ia 4 7 12))
 (of 11 (fo 14 3 13)
 (of 12 (xn (.store 1 (.t 14) (.b true)))
 .nil))))))))))))))
 (sq (rd [] (ot 0 (xo 15 (lt 2 1))
 (of 1 (fo 16 1 1)
 (ot 2 (lo 17 16)
 (of 3 (xo 18 (nk 17))
 (of 4 (fo 19 21 18)
 (ot 5 (lo 20 19)
 (of 6 (xo 21 (bc .add 20 1))
 (of 7 (xo 22 (.callw 81 [(.t 15),(ci 8),(.t 21)]))
 .nil)))))))))
 (sq (rg [xo 23 (lt 2 1),xo 24 (.call 80 [(.t 23),(ci 2),(ci 13),(ci 1)]),xn (st 23 2 24)])
 .ret))))⟩
theorem qbF:trFn Try.prog 65 [([],(fs [0,1,2,3,4,5,6,7,8,9,10,11] (.exec 12 .nil))),([],(fs [0,1,2,3,4,5,6] (.exec 7 .nil)))] []=some q1C:=by kernel_rfl
abbrev qrJ:Nat:=66
def q8J:FnI:=⟨40,[.cell 2 3 true,.tmp 3],
 (sq (rg [xo 2 (.alloc 72 [(.v (.int .u64 (0))),(.v (.slice none 0 0)),(vi 0)]),xo 3 (.mov (ci 0))])
 (sq (sq (rg [mo 6 0,xo 7 (bc .lss 6 1),mo 8 7,xg 9 (mv 0) 8 false,xg 10 (bc .gtr 9 4) 8 false,xo 11 (.pick (.t 8) (.b true) (.t 10))])
 (cD 11
 (sq (rg [xo 12 (.build [(.v (.int .u64 (0))),(.v (.slice none 0 0)),(vi 0)] []),xn (st 3 2 12),xo 3 (.mov (ci 1))])
 .ret)
 .skip))
 (sq (rg [mo 13 0,xo 14 (.msl 3 1 8 [(.int .i64 (0))] (.t 13) (.t 13)),xo 15 (.build [(.v (.int .u64 (0))),(.v (.slice none 0 0)),(vi 0)] [(1,1,(.t 14))]),xo 4 (.alloc 72 [(.v (.int .u64 (0))),(.v (.slice none 0 0)),(vi 0)]),xn (st 3 4 15)])
 (sq (sq (rg [fo 16 1 4,lo 17 16,xo 18 (.len false (.t 17)),xo 19 (.mov (ci 0))])
 (.block 0
 (.loop [19] [20,21,5,22,23,24,25,26,27,28,19]
 (sq (rg [xo 20 (bi .lss 19 18)])
 (sq (cD 20
 .skip
 (.exit 0))
 (sq (.block 1
 (sq (rg [mo 21 19,mo 5 21])
 (rg [fo 22 1 4,lo 23 22,mo 24 5,mo 25 5,xo 26 (bc .add 25 1),xo 27 (ia 1 23 24),xn (st 1 27 26)])))
 (rg [xo 28 (bc .add 19 1),mo 19 28])))))))
 (sq (rg [fo 29 1 4,lo 30 29,mo 31 0,xo 32 (bc .sub 31 1),xo 33 (ia 1 30 32),xn (.store 1 (.t 33) (ci (-1)))])
 (sq (rg [xo 35 (.call 83 [(.c (.int .u32 (0))),(ci 0)]),mo 34 35,xo 36 (.ext 0 (.t 34)),xo 37 (.ext 1 (.t 34)),fo 38 0 4,xn (st 1 38 36)])
 (sq (rg [xo 39 (lt 3 4),xn (st 3 2 39),xo 3 (.mov (ci 0))])
 .ret)))))))⟩
theorem qYJ:trFn Try.prog 66 [] [[19]]=some q8J:=by kernel_rfl
abbrev qBD:Nat:=67
def qFB:FnI:=⟨19,[.tmp 4],
 (sq (rg [xo 4 (.mov (ci 0))])
 (sq (sq (rg [mo 6 0,xo 7 (.len false (.t 6)),xo 8 (.mov (ci 0))])
 (.block 0
 (.loop [8] [9,10,5,11,12,13,14,15,16,17,4,18,8]
 (sq (rg [xo 9 (bi .lss 8 7)])
 (sq (cD 9
 .skip
 (.exit 0))
 (sq (.block 1
 (sq (rg [mo 10 8,mo 5 10])
 (sq (rg [mo 11 1,mo 12 0,mo 13 5,xo 14 (ia 1 12 13),lo 15 14,xo 16 (.callv (.t 11) [(.t 15)])])
 (cD 16
 (sq (rg [mo 17 5,mo 4 17])
 .ret)
 .skip))))
 (rg [xo 18 (bc .add 8 1),mo 8 18])))))))
 (sq (rg [xo 4 (.mov (ci (-1)))])
 .ret)))⟩
theorem q6C:trFn Try.prog 67 [] [[8]]=some qFB:=by kernel_rfl
abbrev qlA:Nat:=68
def qOA:FnI:=⟨9,[.tmp 4],
 (sq (rg [xo 4 (.mov (.b false))])
 (sq (rg [mo 5 0,mo 6 1,xo 7 (.call 84 [(.t 5),(.t 6)]),xo 8 (bc .geq 7 0),mo 4 8])
 .ret))⟩
theorem qjA:trFn Try.prog 68 [] []=some qOA:=by kernel_rfl
abbrev qtJ:Nat:=69
theorem qzJ:FnOk Try.prog 69:=FnOk.of (by kernel_rfl)
def qmG:FnI:=⟨8,[.tmp 3],
 (sq (rg [xo 2 (.box 79 (.t 0)),xo 3 (.mov (.b false))])
 (sq (rg [fo 4 0 2,lo 5 4,lo 6 1,xo 7 (bi .eql 5 6),mo 3 7])
 .ret))⟩
theorem qaJ:trFn Try.prog 69 [] []=some qmG:=by kernel_rfl
abbrev qsI:Nat:=70
def qxI:FnI:=⟨35,[.tmp 2,.tmp 3],
 (sq (rg [xo 1 (.box 34 (.t 0)),xo 2 (.mov (ci 0)),xo 3 (.mov (ci 0))])
 (sq (rg [xo 9 (lt 3 1),xo 10 (.build [(.v (.slice none 0 0)),(.v (.slice none 0 0)),(.v (.slice none 0 0))] [(0,3,(.t 9))]),xo 4 (.alloc 154 [(.v (.slice none 0 0)),(.v (.slice none 0 0)),(.v (.slice none 0 0))]),xn (st 3 4 10)])
 (sq (sq (rg [xo 11 (lt 3 4),xo 12 (.mkf (.func 85) [(.t 11)] []),xo 13 (lt 3 4),xo 14 (.mkf (.func 86) [(.t 13)] []),xo 15 (lt 3 4),xo 16 (.mkf (.func 87) [(.t 15)] []),xo 17 (lt 3 4),xo 18 (.mkf (.func 88) [(.t 17)] []),xo 19 (.bsl 155 1 4 [(.v .nilFunc),(.v .nilFunc),(.v .nilFunc),(.v .nilFunc)] [(0,1,(.t 12)),(1,1,(.t 14)),(2,1,(.t 16)),(3,1,(.t 18))]),xo 20 (.len false (.t 19)),xo 21 (.mov (ci 0))])
 (.block 0
 (.loop [21] [22,23,24,6,26,27,25,28,29,7,8,30,31,32,33,2,3,34,21]
 (sq (rg [xo 22 (bi .lss 21 20)])
 (sq (cD 22
 .skip
 (.exit 0))
 (sq (.block 1
 (sq (rg [xo 23 (ia 1 19 21),lo 24 23,mo 6 24])
 (sq (rg [mo 26 6,xo 27 (.callv (.t 26) []),mo 25 27,xo 28 (.ext 0 (.t 25)),xo 29 (.ext 1 (.t 25)),mo 7 28,mo 8 29])
 (sq (rg [mo 30 7,xo 31 (bc .neq 30 0)])
 (cD 31
 (sq (rg [mo 32 7,mo 33 8,mo 2 32,mo 3 33])
 .ret)
 .skip)))))
 (rg [xo 34 (bc .add 21 1),mo 21 34])))))))
 (sq (rg [xo 2 (.mov (ci 0)),xo 3 (.mov (ci 0))])
 .ret))))⟩
theorem qiI:trFn Try.prog 70 [] [[21]]=some qxI:=by kernel_rfl
abbrev qpJ:Nat:=71
def q7J:FnI:=⟨69,[.cell 2 3 true],
 (sq (rg [xo 1 (.box 60 (.t 0)),xo 2 (.alloc 34 [(.v (.slice none 0 0)),(.v (.slice none 0 0)),(.v (.slice none 0 0))])])
 (sq (rg [fo 7 0 1,lo 8 7,fo 9 2 1,lo 10 9,xo 11 (.build [(.v (.slice none 0 0)),(.v (.slice none 0 0)),(.v (.slice none 0 0))] [(0,1,(.t 8)),(2,1,(.t 10))]),xo 3 (.alloc 34 [(.v (.slice none 0 0)),(.v (.slice none 0 0)),(.v (.slice none 0 0))]),xn (st 3 3 11)])
 (sq (sq (rg [fo 12 1 1,lo 13 12,xo 14 (.len false (.t 13)),xo 15 (.mov (ci 0))])
 (.block 0
 (.loop [15] [16,17,18,5,19,20,21,22,23,6,24,25,26,27,28,29,30,31,32,33,34,35,36,37,38,39,40,41,42,43,44,45,46,47,48,49,50,51,52,53,54,55,56,57,58,59,60,61,62,63,64,65,66,67,15]
 (sq (rg [xo 16 (bi .lss 15 14)])
 (sq (cD 16
 .skip
 (.exit 0))
 (sq (.block 1
 (sq (rg [xo 17 (ia 4 13 15),xo 18 (lt 4 17),xo 5 (.alloc 93 [(vi 0),(.v (.string ⟨#[]⟩)),(.v (.string ⟨#[]⟩)),(vi 0)]),xn (st 4 5 18)])
 (sq (rg [fo 19 1 5,lo 20 19,fo 21 2 5,lo 22 21,xo 23 (.build [(.v (.string ⟨#[]⟩)),(.v (.string ⟨#[]⟩)),(.v (.string ⟨#[]⟩)),(.v (.string ⟨#[]⟩))] [(1,1,(.t 20)),(2,1,(.t 22))]),xo 6 (.alloc 158 [(.v (.string ⟨#[]⟩)),(.v (.string ⟨#[]⟩)),(.v (.string ⟨#[]⟩)),(.v (.string ⟨#[]⟩))]),xn (st 4 6 23)])
 (sq (sq (rg [fo 24 0 5,lo 25 24,xo 26 (bc .geq 25 0),mo 27 26,xg 28 (fa 0 5) 27 true,xg 29 (lf 28) 27 true,xg 30 (fa 0 1) 27 true,xg 31 (lf 30) 27 true,xg 32 (.len false (.t 31)) 27 true,xg 33 (bi .lss 29 32) 27 true,xo 34 (.pick (.t 27) (.t 33) (.b false))])
 (cD 34
 (rg [fo 35 0 1,lo 36 35,fo 37 0 5,lo 38 37,xo 39 (ia 1 36 38),lo 40 39,fo 41 0 6,xn (st 1 41 40)])
 .skip))
 (sq (sq (rg [fo 42 3 5,lo 43 42,xo 44 (bc .geq 43 0),mo 45 44,xg 46 (fa 3 5) 45 true,xg 47 (lf 46) 45 true,xg 48 (fa 2 1) 45 true,xg 49 (lf 48) 45 true,xg 50 (.len false (.t 49)) 45 true,xg 51 (bi .lss 47 50) 45 true,xo 52 (.pick (.t 45) (.t 51) (.b false))])
 (cD 52
 (rg [fo 53 2 1,lo 54 53,fo 55 3 5,lo 56 55,xo 57 (ia 4 54 56),fo 58 0 57,lo 59 58,fo 60 3 6,xn (st 1 60 59)])
 .skip))
 (rg [fo 61 1 3,lo 62 61,xo 63 (lt 4 6),xo 64 (.bsl 158 4 1 [(.v (.string ⟨#[]⟩)),(.v (.string ⟨#[]⟩)),(.v (.string ⟨#[]⟩)),(.v (.string ⟨#[]⟩))] [(0,4,(.t 63))]),xo 65 (.app 158 4 64 (.t 62) (.t 64)),fo 66 1 3,xn (st 1 66 65)]))))))
 (rg [xo 67 (bc .add 15 1),mo 15 67])))))))
 (sq (rg [xo 68 (lt 3 3),xn (st 3 2 68)])
 .ret))))⟩
theorem qWJ:trFn Try.prog 71 [] [[15]]=some q7J:=by kernel_rfl
abbrev qqK:Nat:=72
def qBL:FnI:=⟨19,[.cell 2 1 false,.cell 3 1 false],
 (sq (rg [xo 1 (.box 72 (.t 0)),xo 2 (.alloc 22 [(.v (.slice none 0 0))]),xo 3 (.alloc 47 [(vi 0)])])
 (sq (rg [xo 4 (.alloc 22 [(.v (.slice none 0 0))])])
 (sq (sq (rg [xo 6 (lt 3 1),xo 7 (.call 89 [(.t 6)])])
 (.block 0
 (.rfun (.t 7) [8]
 (rg [mo 5 8])
 (.block 1
 (sq (rg [mo 9 5])
 (.block 2
 (sq (rg [xo 15 (.bini .eql (.t 9) (ci (-2))),mo 14 15])
 (cD 14
 (sq (rg [xn (.store 1 (.t 2) (.c (.slice none 0 0))),xn (.store 1 (.t 3) (ci 11))])
 .ret)
 (sq (rg [xo 17 (.bini .eql (.t 9) (ci (-1))),mo 16 17])
 (cD 16
 .skip
 (rg [lo 10 4,mo 11 5,xo 12 (.bsl 3 1 1 [(vi 0)] [(0,1,(.t 11))]),xo 13 (.app 3 1 8 (.t 10) (.t 12)),xn (st 1 4 13)])))))))))))
 (sq (rg [lo 18 4,xn (st 1 2 18),xn (.store 1 (.t 3) (ci 0))])
 .ret))))⟩
theorem qKK:trFn Try.prog 72 [] []=some qBL:=by kernel_rfl
abbrev qpB:Nat:=73
def qbA:FnI:=⟨19,[.tmp 4],
 (sq (rg [xo 4 (.mov (ci 0))])
 (sq (sq (rg [mo 6 0,xo 7 (.len false (.t 6)),xo 8 (.mov (ci 0))])
 (.block 0
 (.loop [8] [9,10,5,11,12,13,14,15,16,17,4,18,8]
 (sq (rg [xo 9 (bi .lss 8 7)])
 (sq (cD 9
 .skip
 (.exit 0))
 (sq (.block 1
 (sq (rg [mo 10 8,mo 5 10])
 (sq (rg [mo 11 1,mo 12 0,mo 13 5,xo 14 (ia 3 12 13),xo 15 (lt 3 14),xo 16 (.callv (.t 11) [(.t 15)])])
 (cD 16
 (sq (rg [mo 17 5,mo 4 17])
 .ret)
 .skip))))
 (rg [xo 18 (bc .add 8 1),mo 8 18])))))))
 (sq (rg [xo 4 (.mov (ci (-1)))])
 .ret)))⟩
theorem qlB:trFn Try.prog 73 [] [[8]]=some qbA:=by kernel_rfl
abbrev q5L:Nat:=74
def qKM:FnI:=⟨9,[.tmp 2],
 (sq (rg [xo 2 (.mov (.b false))])
 (sq (rg [mo 3 0,xo 4 (.bini .geq (.t 3) (.c (.int .u8 (97)))),mo 5 4,xg 6 (mv 0) 5 true,xg 7 (.bini .leq (.t 6) (.c (.int .u8 (122)))) 5 true,xo 8 (.pick (.t 5) (.t 7) (.b false)),mo 2 8])
 .ret))⟩
theorem qeL:trFn Try.prog 74 [] []=some qKM:=by kernel_rfl
abbrev qrK:Nat:=75
def qQH:FnI:=⟨2,[.cell 0 1 true],
 (sq (rg [xo 0 (.alloc 140 [(.v .nilFunc)])])
 (sq (rg [xo 1 (.build [(.v .nilFunc)] [(0,1,(.c (.func (.func 90) #[] #[])))]),xn (st 1 0 1)])
 .ret))⟩
theorem qLK:trFn Try.prog 75 [] []=some qQH:=by kernel_rfl
abbrev qCF:Nat:=76
def quC:FnI:=⟨28,[.tmp 6],
 (sq (rg [xo 3 (.box 140 (.t 0)),xo 6 (.mov (.b false))])
 (sq (sq (rg [mo 8 1,xo 9 (.len true (.t 8)),xo 10 (.mov (ci 0))])
 (.block 0
 (.loop [10] [11,12,7,13,14,15,16,17,18,19,20,21,22,23,24,25,26,6,27,10]
 (sq (rg [xo 11 (bi .lss 10 9)])
 (sq (cD 11
 .skip
 (.exit 0))
 (sq (.block 1
 (sq (rg [mo 12 10,mo 7 12])
 (sq (rd [] (of 0 (mo 13 1)
 (of 1 (mo 14 7)
 (of 2 (xo 15 (.idxs (.t 13) (.t 14)))
 (of 3 (mo 16 2)
 (of 4 (xo 17 (bi .neq 15 16))
 (of 5 (mo 18 17)
 (of 6 (xg 19 (fa 0 3) 18 true)
 (ot 7 (xg 20 (lf 19) 18 true)
 (of 8 (xg 21 (mv 1) 18 true)
 (of 9 (xg 22 (mv 7) 18 true)
 (of 10 (xg 23 (.idxs (.t 21) (.t 22)) 18 true)
 (of 11 (xg 24 (.callv (.t 20) [(.t 23)]) 18 true)
 (of 12 (xg 25 (.not (.t 24)) 18 true)
 (of 13 (xo 26 (.pick (.t 18) (.t 25) (.b false)))
 .nil)))))))))))))))
 (cD 26
 (sq (rg [xo 6 (.mov (.b false))])
 .ret)
 .skip))))
 (rg [xo 27 (bc .add 10 1),mo 10 27])))))))
 (sq (rg [xo 6 (.mov (.b true))])
 .ret)))⟩
theorem q1E:trFn Try.prog 76 [([],(fs [0,1,2,3,4,5,6,7,8,9,10] (.exec 11 (.first 12 (.first 13 .nil)))))] [[10]]=some quC:=by kernel_rfl
abbrev qMC:Nat:=77
def qPC:FnI:=⟨29,[.tmp 6],
 (sq (rg [xo 5 (.box 97 (.t 2)),xo 6 (.mov (.c (.slice none 0 0)))])
 (sq (rg [mo 10 0,xo 11 (.len false (.t 10)),xo 12 (.msl 72 3 40 [(.int .u64 (0)),(.slice none 0 0),(.int .i64 (0))] (.t 11) (.t 11)),mo 7 12])
 (sq (sq (rg [mo 13 0,xo 14 (.len false (.t 13)),xo 15 (.mov (ci 0))])
 (.block 0
 (.loop [15] [16,17,18,19,9,8,20,21,22,23,24,25,26,27,15]
 (sq (rg [xo 16 (bi .lss 15 14)])
 (sq (cD 16
 .skip
 (.exit 0))
 (sq (.block 1
 (sq (rg [mo 17 15,xo 18 (ia 3 13 15),xo 19 (lt 3 18),xo 9 (.alloc 72 [(.v (.int .u64 (0))),(.v (.slice none 0 0)),(vi 0)]),mo 8 17,xn (st 3 9 19)])
 (rg [mo 20 7,mo 21 8,mo 22 1,xo 23 (lt 0 5),xo 24 (lt 3 9),xo 25 (.callv (.t 22) [(.t 23),(.t 24)]),xo 26 (ia 3 20 21),xn (st 3 26 25)])))
 (rg [xo 27 (bc .add 15 1),mo 15 27])))))))
 (sq (rg [mo 28 7,mo 6 28])
 .ret))))⟩
theorem qIC:trFn Try.prog 77 [] [[15]]=some qPC:=by kernel_rfl
abbrev q4B:Nat:=78
def qCG:FnI:=⟨10,[.cell 4 3 true],
 (sq (rg [xo 2 (.box 97 (.t 0)),xo 3 (.box 72 (.t 1)),xo 4 (.alloc 72 [(.v (.int .u64 (0))),(.v (.slice none 0 0)),(vi 0)])])
 (sq (rg [fo 5 1 3,lo 6 5,xo 7 (.call 32 [(.t 6)]),fo 8 1 3,xn (st 1 8 7)])
 (sq (rg [xo 9 (lt 3 3),xn (st 3 4 9)])
 .ret)))⟩
theorem qyF:trFn Try.prog 78 [] []=some qCG:=by kernel_rfl
abbrev qhF:Nat:=79
def q4C:FnI:=⟨20,[.cell 6 23 true],
 (sq (rg [xo 3 (.box 123 (.t 0)),xo 4 (.box 53 (.t 1)),xo 5 (.box 40 (.t 2)),xo 6 (.alloc 53 zl1)])
 (sq (rd [] (of 0 (fo 7 1 3)
 (ot 1 (lo 8 7)
 (of 5 (xo 12 (nk 8))
 (of 6 (fo 13 24 12)
 (of 2 (fo 9 1 3)
 (ot 3 (lo 10 9)
 (ot 4 (xo 11 (lt 13 5))
 (.op ⟨7,false,[4,3],xn (.store 1 (.t 13) (.b true))⟩
 (of 8 (xo 14 (nk 10))
 (of 9 (fo 15 25 14)
 (of 10 (xn (st 13 15 11))
 .nil))))))))))))
 (sq (rd [] (of 1 (fo 17 9 4)
 (ot 0 (xo 16 (lt 13 5))
 (.op ⟨2,false,[0],xn (.store 1 (.t 17) (.b true))⟩
 (of 3 (fo 18 10 4)
 (of 4 (xn (st 13 18 16))
 .nil))))))
 (sq (rg [xo 19 (lt 23 4),xn (st 23 6 19)])
 .ret))))⟩
theorem qeF:trFn Try.prog 79 [([],(fs [0,1,5,6,2,3,4] (.exec 7 (.first 8 (.first 9 (.exec 10 .nil)))))),([],(.first 1 (.first 0 (.exec 2 (.first 3 (.exec 4 .nil))))))] []=some q4C:=by kernel_rfl
abbrev qrC:Nat:=80
def qvC:FnI:=⟨18,[.cell 8 23 true],
 (sq (rg [xo 4 (.box 123 (.t 0)),xo 8 (.alloc 53 zl1)])
 (sq (rg [fo 9 1 4,lo 10 9,xo 11 (nk 10),fo 12 10 11,lo 13 12,mo 14 1,mo 15 2,mo 16 3,xo 17 (.build zl1 [(0,1,(.t 13)),(2,1,(.t 14)),(3,1,(.t 15)),(4,1,(ci (-1))),(6,1,(.t 16))]),xn (st 23 8 17)])
 .ret))⟩
theorem qmC:trFn Try.prog 80 [] []=some qvC:=by kernel_rfl
abbrev qdG:Nat:=81
def qfD:FnI:=⟨16,[],
 (sq (rg [xo 3 (.box 123 (.t 0))])
 (rd [] (of 0 (fo 6 1 3)
 (ot 1 (lo 7 6)
 (of 4 (mo 10 1)
 (of 6 (xo 12 (nk 7))
 (of 7 (fo 13 11 12)
 (of 2 (fo 8 1 3)
 (of 5 (mo 11 2)
 (ot 3 (lo 9 8)
 (.op ⟨8,false,[3],xn (st 1 13 10)⟩
 (of 9 (xo 14 (nk 9))
 (of 10 (fo 15 21 14)
 (of 11 (xn (st 1 15 11))
 .nil))))))))))))))⟩
theorem qPG:trFn Try.prog 81 [([],(fs [0,1,4,6,7,2,5,3] (.exec 8 (.first 9 (.first 10 (.exec 11 .nil))))))] []=some qfD:=by kernel_rfl
abbrev qvK:Nat:=82
def qFL:FnI:=⟨13,[.tmp 4],
 (sq (rg [xo 4 (.mov (.b false))])
 (sq (rg [mo 5 0,xo 6 (bc .leq 5 9223372036854775805),mo 7 6,xg 8 (mv 0) 7 true,xg 9 (bc .add 8 2) 7 true,xg 10 (mv 1) 7 true,xg 11 (bi .leq 9 10) 7 true,xo 12 (.pick (.t 7) (.t 11) (.b false)),mo 4 12])
 .ret))⟩
theorem qPK:trFn Try.prog 82 [] []=some qFL:=by kernel_rfl
abbrev qKN:Nat:=83
def qUN:FnI:=⟨19,[.tmp 4,.tmp 5],
 (sq (rg [xo 4 (.mov (.c (.int .u64 (0)))),xo 5 (.mov (ci 0))])
 (sq (sq (rg [mo 6 1,xo 7 (.bini .lss (.t 6) (ci (-1))),mo 8 7,xg 9 (mv 1) 8 false,xg 10 (bc .gtr 9 2147483646) 8 false,xo 11 (.pick (.t 8) (.b true) (.t 10))])
 (cD 11
 (sq (rg [xo 4 (.mov (.c (.int .u64 (0)))),xo 5 (.mov (ci 1))])
 .ret)
 .skip))
 (sq (rg [mo 12 0,xo 13 (.conv .u64 (.t 12)),xo 14 (.bini .shl (.t 13) (.c (.int .u64 (32)))),mo 15 1,xo 16 (.bini .sub (.t 15) (ci (-1))),xo 17 (.conv .u64 (.t 16)),xo 18 (bi .or 14 17),mo 4 18,xo 5 (.mov (ci 0))])
 .ret)))⟩
theorem qtM:trFn Try.prog 83 [] []=some qUN:=by kernel_rfl
abbrev qwA:Nat:=84
def qQA:FnI:=⟨19,[.tmp 4],
 (sq (rg [xo 4 (.mov (ci 0))])
 (sq (sq (rg [mo 6 0,xo 7 (.len false (.t 6)),xo 8 (.mov (ci 0))])
 (.block 0
 (.loop [8] [9,10,5,11,12,13,14,15,16,17,4,18,8]
 (sq (rg [xo 9 (bi .lss 8 7)])
 (sq (cD 9
 .skip
 (.exit 0))
 (sq (.block 1
 (sq (rg [mo 10 8,mo 5 10])
 (sq (rg [mo 11 1,mo 12 0,mo 13 5,xo 14 (ia 3 12 13),xo 15 (lt 3 14),xo 16 (.callv (.t 11) [(.t 15)])])
 (cD 16
 (sq (rg [mo 17 5,mo 4 17])
 .ret)
 .skip))))
 (rg [xo 18 (bc .add 8 1),mo 8 18])))))))
 (sq (rg [xo 4 (.mov (ci (-1)))])
 .ret)))⟩
theorem quA:trFn Try.prog 84 [] [[8]]=some qQA:=by kernel_rfl
abbrev qUC:Nat:=85
theorem qVC:FnOk Try.prog 85:=FnOk.of (by kernel_rfl)
def qtE:FnI:=⟨26,[.tmp 2,.tmp 3],
 (sq (rg [xo 1 (.box 154 (.t 0)),xo 2 (.mov (ci 0)),xo 3 (.mov (ci 0))])
 (sq (sq (rg [fo 4 0 1,fo 5 0 4,lo 6 5,xo 7 (.len false (.t 6)),xo 8 (.call 91 [(.t 7),(ci 1),(ci 4)]),xo 9 (.not (.t 8)),mo 10 9,xg 11 (fa 0 1) 10 false,xg 12 (fa 1 11) 10 false,xg 13 (lf 12) 10 false,xg 14 (.len false (.t 13)) 10 false,xg 15 (.call 91 [(.t 14),(ci 1),(ci 8)]) 10 false,xg 16 (.not (.t 15)) 10 false,xo 17 (.pick (.t 10) (.b true) (.t 16)),mo 18 17,xg 19 (fa 0 1) 18 false,xg 20 (fa 2 19) 18 false,xg 21 (lf 20) 18 false,xg 22 (.len false (.t 21)) 18 false,xg 23 (.call 91 [(.t 22),(ci 1),(ci 4)]) 18 false,xg 24 (.not (.t 23)) 18 false,xo 25 (.pick (.t 18) (.b true) (.t 24))])
 (cD 25
 (sq (rg [xo 2 (.mov (ci 6)),xo 3 (.mov (ci 0))])
 .ret)
 .skip))
 (sq (rg [xo 2 (.mov (ci 0)),xo 3 (.mov (ci 0))])
 .ret)))⟩
theorem qqE:trFn Try.prog 85 [] []=some qtE:=by kernel_rfl
abbrev qrB:Nat:=86
theorem qvB:FnOk Try.prog 86:=FnOk.of (by kernel_rfl)
def qtD:FnI:=⟨30,[.tmp 2,.tmp 3],
 (sq (rg [xo 1 (.box 154 (.t 0)),xo 2 (.mov (ci 0)),xo 3 (.mov (ci 0))])
 (sq (sq (rg [fo 6 0 1,fo 7 0 6,lo 8 7,xo 9 (.len false (.t 8)),xo 10 (.mov (ci 0))])
 (.block 0
 (.loop [10] [11,12,13,14,4,5,16,17,18,15,19,2,3,21,22,23,24,25,26,27,20,28,29,10]
 (sq (rg [xo 11 (bi .lss 10 9)])
 (sq (cD 11
 .skip
 (.exit 0))
 (sq (.block 1
 (sq (rg [mo 12 10,xo 13 (ia 1 8 10),lo 14 13,mo 4 12,mo 5 14])
 (.block 2
 (sq (rg [mo 16 5,xo 17 (.call 48 [(.t 16)]),xo 18 (.not (.t 17)),mo 15 18])
 (cD 15
 (sq (rg [mo 19 4,xo 2 (.mov (ci 3)),mo 3 19])
 .ret)
 (sq (rg [fo 21 0 1,fo 22 0 21,lo 23 22,mo 24 4,xo 25 (.slc 1 (.t 23) none (some (.t 24)) none),mo 26 5,xo 27 (.call 92 [(.t 25),(.t 26)]),mo 20 27])
 (cD 20
 (sq (rg [mo 28 4,xo 2 (.mov (ci 4)),mo 3 28])
 .ret)
 .skip)))))))
 (rg [xo 29 (bc .add 10 1),mo 10 29])))))))
 (sq (rg [xo 2 (.mov (ci 0)),xo 3 (.mov (ci 0))])
 .ret)))⟩
theorem qkD:trFn Try.prog 86 [] [[10]]=some qtD:=by kernel_rfl
abbrev qaB:Nat:=87
theorem qdB:FnOk Try.prog 87:=FnOk.of (by kernel_rfl)
def qaD:FnI:=⟨55,[.tmp 2,.tmp 3],
 (sq (rg [xo 1 (.box 154 (.t 0)),xo 2 (.mov (ci 0)),xo 3 (.mov (ci 0))])
 (sq (sq (rg [fo 6 0 1,fo 7 2 6,lo 8 7,xo 9 (.len false (.t 8)),xo 10 (.mov (ci 0))])
 (.block 0
 (.loop [10] [11,12,13,14,5,4,16,17,18,19,15,20,2,3,22,23,24,25,26,27,28,29,21,30,32,33,34,35,36,37,38,39,31,40,42,43,44,45,41,46,48,49,50,51,52,47,53,54,10]
 (sq (rg [xo 11 (bi .lss 10 9)])
 (sq (cD 11
 .skip
 (.exit 0))
 (sq (.block 1
 (sq (rg [mo 12 10,xo 13 (ia 4 8 10),xo 14 (lt 4 13),xo 5 (.alloc 86 [(.v (.string ⟨#[]⟩)),(vi 0),(vi 0),(.v (.slice none 0 0))]),mo 4 12,xn (st 4 5 14)])
 (.block 2
 (sq (rg [fo 16 0 5,lo 17 16,xo 18 (.call 48 [(.t 17)]),xo 19 (.not (.t 18)),mo 15 19])
 (cD 15
 (sq (rg [mo 20 4,xo 2 (.mov (ci 3)),mo 3 20])
 .ret)
 (sq (rd [] (of 0 (fo 22 0 1)
 (of 1 (fo 23 2 22)
 (ot 2 (lo 24 23)
 (of 3 (mo 25 4)
 (of 4 (xo 26 (.slc 4 (.t 24) none (some (.t 25)) none))
 (of 5 (fo 27 0 5)
 (ot 6 (lo 28 27)
 (of 7 (xo 29 (.call 93 [(.t 26),(.t 28)]))
 (of 8 (mo 21 29)
 .nil))))))))))
 (cD 21
 (sq (rg [mo 30 4,xo 2 (.mov (ci 4)),mo 3 30])
 .ret)
 (sq (rg [fo 32 1 5,lo 33 32,xo 34 (bc .neq 33 1),mo 35 34,xg 36 (fa 1 5) 35 true,xg 37 (lf 36) 35 true,xg 38 (bc .neq 37 2) 35 true,xo 39 (.pick (.t 35) (.t 38) (.b false)),mo 31 39])
 (cD 31
 (sq (rg [mo 40 4,xo 2 (.mov (ci 9)),mo 3 40])
 .ret)
 (sq (rg [fo 42 2 5,lo 43 42,xo 44 (.call 91 [(.t 43),(ci 1),(ci 4)]),xo 45 (.not (.t 44)),mo 41 45])
 (cD 41
 (sq (rg [mo 46 4,xo 2 (.mov (ci 10)),mo 3 46])
 .ret)
 (sq (rg [fo 48 3 5,lo 49 48,xo 50 (.len false (.t 49)),xo 51 (.call 91 [(.t 50),(ci 1),(ci 4)]),xo 52 (.not (.t 51)),mo 47 52])
 (cD 47
 (sq (rg [mo 53 4,xo 2 (.mov (ci 6)),mo 3 53])
 .ret)
 .skip)))))))))))))
 (rg [xo 54 (bc .add 10 1),mo 10 54])))))))
 (sq (rg [xo 2 (.mov (ci 0)),xo 3 (.mov (ci 0))])
 .ret)))⟩
theorem qSD:trFn Try.prog 87 [([],(fs [0,1,2,3,4,5,6] (.exec 7 (.first 8 .nil))))] [[10]]=some qaD:=by kernel_rfl
abbrev q8B:Nat:=88
theorem qAC:FnOk Try.prog 88:=FnOk.of (by kernel_rfl)
def qIE:FnI:=⟨65,[.tmp 2,.tmp 3],
 (sq (rg [xo 1 (.box 154 (.t 0)),xo 2 (.mov (ci 0)),xo 3 (.mov (ci 0))])
 (sq (sq (rg [fo 8 0 1,fo 9 1 8,lo 10 9,xo 11 (.len false (.t 10)),xo 12 (.mov (ci 0))])
 (.block 0
 (.loop [12] [13,14,15,16,5,4,18,19,20,21,22,23,24,17,25,2,3,27,28,29,30,26,31,33,34,35,36,32,37,39,40,41,42,43,44,45,38,46,47,48,49,50,51,52,53,54,55,56,57,7,58,59,60,61,62,63,64,12]
 (sq (rg [xo 13 (bi .lss 12 11)])
 (sq (cD 13
 .skip
 (.exit 0))
 (sq (.block 1
 (sq (rg [mo 14 12,xo 15 (ia 4 10 12),xo 16 (lt 4 15),xo 5 (.alloc 158 [(.v (.string ⟨#[]⟩)),(.v (.string ⟨#[]⟩)),(.v (.string ⟨#[]⟩)),(.v (.string ⟨#[]⟩))]),mo 4 14,xn (st 4 5 16)])
 (sq (.block 2
 (sq (rg [fo 18 0 1,fo 19 0 18,lo 20 19,fo 21 0 5,lo 22 21,xo 23 (.call 92 [(.t 20),(.t 22)]),xo 24 (.not (.t 23)),mo 17 24])
 (cD 17
 (sq (rg [mo 25 4,xo 2 (.mov (ci 5)),mo 3 25])
 .ret)
 (sq (rg [fo 27 1 5,lo 28 27,xo 29 (.call 94 [(.t 28)]),xo 30 (.not (.t 29)),mo 26 30])
 (cD 26
 (sq (rg [mo 31 4,xo 2 (.mov (ci 7)),mo 3 31])
 .ret)
 (sq (rg [fo 33 2 5,lo 34 33,xo 35 (.call 95 [(.t 34)]),xo 36 (.not (.t 35)),mo 32 36])
 (cD 32
 (sq (rg [mo 37 4,xo 2 (.mov (ci 8)),mo 3 37])
 .ret)
 (sq (rg [fo 39 0 1,fo 40 2 39,lo 41 40,fo 42 3 5,lo 43 42,xo 44 (.call 93 [(.t 41),(.t 43)]),xo 45 (.not (.t 44)),mo 38 45])
 (cD 38
 (sq (rg [mo 46 4,xo 2 (.mov (ci 5)),mo 3 46])
 .ret)
 .skip)))))))))
 (sq (rg [fo 47 3 5,xn (.store 1 (.t 47) (.c (.string ⟨#[]⟩)))])
 (sq (rg [fo 48 0 1,fo 49 1 48,lo 50 49,mo 51 4,xo 52 (.slc 4 (.t 50) none (some (.t 51)) none),xo 53 (.len false (.t 52)),xo 54 (.mov (ci 0))])
 (.block 3
 (.loop [54] [55,56,57,7,58,59,60,61,62,2,3,63,54]
 (sq (rg [xo 55 (bi .lss 54 53)])
 (sq (cD 55
 .skip
 (.exit 3))
 (sq (.block 4
 (sq (rg [xo 56 (ia 4 52 54),xo 57 (lt 4 56),xo 7 (.alloc 158 [(.v (.string ⟨#[]⟩)),(.v (.string ⟨#[]⟩)),(.v (.string ⟨#[]⟩)),(.v (.string ⟨#[]⟩))]),xn (st 4 7 57)])
 (sq (rg [fo 58 3 7,xn (.store 1 (.t 58) (.c (.string ⟨#[]⟩)))])
 (sq (rg [xo 59 (lt 4 7),xo 60 (lt 4 5),xo 61 (.binst false [1,1,1,1] (.t 59) (.t 60))])
 (cD 61
 (sq (rg [mo 62 4,xo 2 (.mov (ci 4)),mo 3 62])
 .ret)
 .skip)))))
 (rg [xo 63 (bc .add 54 1),mo 54 63])))))))))))
 (rg [xo 64 (bc .add 12 1),mo 12 64])))))))
 (sq (rg [xo 2 (.mov (ci 0)),xo 3 (.mov (ci 0))])
 .ret)))⟩
theorem q3D:trFn Try.prog 88 [] [[12],[54]]=some qIE:=by kernel_rfl
abbrev qqJ:Nat:=89
def qkG:FnI:=⟨4,[.tmp 2],
 (sq (rg [xo 1 (.box 72 (.t 0)),xo 2 (.mov (.c .nilFunc))])
 (sq (rg [xo 3 (.mkf (.func 96) [] [(.t 1)]),mo 2 3])
 .ret))⟩
theorem qXJ:trFn Try.prog 89 [] []=some qkG:=by kernel_rfl
abbrev qqB:Nat:=90
theorem qtF:FnOk Try.prog 90:=FnOk.of (by kernel_rfl)
def qvI:FnI:=⟨17,[.tmp 2],
 (sq (rg [xo 2 (.mov (.b false))])
 (sq (rg [mo 3 0,xo 4 (.call 74 [(.t 3)]),mo 5 4,xg 6 (mv 0) 5 false,xg 7 (.bini .geq (.t 6) (.c (.int .u8 (48)))) 5 false,xg 8 (mv 7) 5 false,xg 9 (mv 0) 8 true,xg 10 (.bini .leq (.t 9) (.c (.int .u8 (57)))) 8 true,xg 11 (.pick (.t 8) (.t 10) (.b false)) 5 false,xo 12 (.pick (.t 5) (.b true) (.t 11)),mo 13 12,xg 14 (mv 0) 13 false,xg 15 (.bini .eql (.t 14) (.c (.int .u8 (45)))) 13 false,xo 16 (.pick (.t 13) (.b true) (.t 15)),mo 2 16])
 .ret))⟩
theorem qgI:trFn Try.prog 90 [] []=some qvI:=by kernel_rfl
abbrev qFI:Nat:=91
def qVI:FnI:=⟨15,[.tmp 6],
 (sq (rg [xo 6 (.mov (.b false))])
 (sq (rg [mo 7 0,mo 8 1,xo 9 (bi .geq 7 8),mo 10 9,xg 11 (mv 0) 10 true,xg 12 (mv 2) 10 true,xg 13 (bi .leq 11 12) 10 true,xo 14 (.pick (.t 10) (.t 13) (.b false)),mo 6 14])
 .ret))⟩
theorem qqH:trFn Try.prog 91 [] []=some qVI:=by kernel_rfl
abbrev qNC:Nat:=92
def qQC:FnI:=⟨9,[.tmp 4],
 (sq (rg [xo 4 (.mov (.b false))])
 (sq (rg [mo 5 0,mo 6 1,xo 7 (.call 98 [(.t 5),(.t 6)]),xo 8 (bc .geq 7 0),mo 4 8])
 .ret))⟩
theorem qJC:trFn Try.prog 92 [] []=some qQC:=by kernel_rfl
abbrev qrI:Nat:=93
def qwI:FnI:=⟨8,[.tmp 4],
 (sq (rg [xo 3 (.box 9 (.t 1)),xo 4 (.mov (.b false))])
 (sq (rg [mo 5 0,xo 6 (.mkf (.func 100) [] [(.t 3)]),xo 7 (.call 99 [(.t 5),(.t 6)]),mo 4 7])
 .ret))⟩
theorem qhI:trFn Try.prog 93 [] []=some qwI:=by kernel_rfl
abbrev qDI:Nat:=94
def qUI:FnI:=⟨19,[.tmp 2],
 (sq (rg [xo 2 (.mov (.b false))])
 (sq (sq (rg [mo 6 0,xo 7 (.call 101 [(.t 6),(.c (.string ⟨#[42,46]⟩))]),mo 5 7,xo 8 (.ext 0 (.t 5)),xo 9 (.ext 1 (.t 5)),mo 3 8,mo 4 9])
 (sq (rg [mo 10 4])
 (cD 10
 (sq (rg [mo 11 3,xo 12 (.call 102 [(.t 11)]),mo 2 12])
 .ret)
 .skip)))
 (sq (rg [mo 13 0,xo 14 (.bins .eql (.t 13) (.c (.string ⟨#[42]⟩))),mo 15 14,xg 16 (mv 0) 15 false,xg 17 (.call 102 [(.t 16)]) 15 false,xo 18 (.pick (.t 15) (.b true) (.t 17)),mo 2 18])
 .ret)))⟩
theorem qoH:trFn Try.prog 94 [] []=some qUI:=by kernel_rfl
abbrev qsK:Nat:=95
def qCL:FnI:=⟨21,[.tmp 2],
 (sq (rg [xo 2 (.mov (.b false))])
 (sq (rg [mo 3 0,xo 4 (.len true (.t 3)),xo 5 (bc .gtr 4 0),mo 6 5,xg 7 (mv 0) 6 true,xg 8 (.len true (.t 7)) 6 true,xg 9 (bc .leq 8 32) 6 true,xo 10 (.pick (.t 6) (.t 9) (.b false)),mo 11 10,xg 12 (mv 0) 11 true,xg 13 (.idxs (.t 12) (ci 0)) 11 true,xg 14 (.bini .eql (.t 13) (.c (.int .u8 (47)))) 11 true,xo 15 (.pick (.t 11) (.t 14) (.b false)),mo 16 15,xg 17 (.call 75 []) 16 true,xg 18 (mv 0) 16 true,xg 19 (.call 76 [(.t 17),(.t 18),(.c (.int .u8 (47)))]) 16 true,xo 20 (.pick (.t 16) (.t 19) (.b false)),mo 2 20])
 .ret))⟩
theorem qMK:trFn Try.prog 95 [] []=some qCL:=by kernel_rfl
abbrev qBI:Nat:=96
theorem qMI:FnOk Try.prog 96:=FnOk.of (by kernel_rfl)
def qIF:FnI:=⟨44,[],
 (.scope
 (sq (rg [fo 5 1 1,lo 6 5,xo 7 (.len false (.t 6)),xo 8 (.msl 4 1 1 [(.bool false)] (.t 7) (.t 7)),mo 3 8])
 (sq (rg [fo 9 0 1,lo 10 9,xo 11 (.call 97 [(.t 10)]),mo 4 11])
 (sq (.label 0)
 (sq (.block 0
 (.loop [4] [12,13,14,15,16,17,18,19,20,21,22,23,24,25,26,27,28,4,29,30,31,32,33,34,35,36,37,38,39,40]
 (sq (sq (rg [mo 12 4,xo 13 (.bini .neq (.t 12) (ci (-1)))])
 (cD 13
 .skip
 (.exit 0)))
 (.block 1
 (sq (sq (rg [mo 14 4,xo 15 (bc .lss 14 0),mo 16 15,xg 17 (mv 4) 16 false,xg 18 (fa 1 1) 16 false,xg 19 (lf 18) 16 false,xg 20 (.len false (.t 19)) 16 false,xg 21 (bi .geq 17 20) 16 false,xo 22 (.pick (.t 16) (.b true) (.t 21)),mo 23 22,xg 24 (mv 3) 23 false,xg 25 (mv 4) 23 false,xg 26 (ia 1 24 25) 23 false,xg 27 (lf 26) 23 false,xo 28 (.pick (.t 23) (.b true) (.t 27))])
 (cD 28
 (sq (rg [xo 4 (.mov (ci (-2)))])
 (.exit 0))
 .skip))
 (sq (rg [mo 29 3,mo 30 4,xo 31 (ia 1 29 30),xn (.store 1 (.t 31) (.b true))])
 (sq (sq (rg [mo 32 0,mo 33 4,xo 34 (.callv (.t 32) [(.t 33)]),xo 35 (.not (.t 34))])
 (cD 35
 .ret
 .skip))
 (rg [fo 36 1 1,lo 37 36,mo 38 4,xo 39 (ia 1 37 38),lo 40 39,mo 4 40]))))))))
 (rg [mo 41 0,mo 42 4,xo 43 (.callv (.t 41) [(.t 42)])]))))))⟩
theorem qmH:trFn Try.prog 96 [] [[4]]=some qIF:=by kernel_rfl
abbrev q2L:Nat:=97
def qHM:FnI:=⟨7,[.tmp 2],
 (sq (rg [xo 2 (.mov (ci 0))])
 (sq (rg [mo 3 0,xo 4 (.conv .u32 (.t 3)),xo 5 (.conv .i64 (.t 4)),xo 6 (.bini .add (.t 5) (ci (-1))),mo 2 6])
 .ret))⟩
theorem qbL:trFn Try.prog 97 [] []=some qHM:=by kernel_rfl
abbrev qpC:Nat:=98
def qsC:FnI:=⟨19,[.tmp 4],
 (sq (rg [xo 4 (.mov (ci 0))])
 (sq (sq (rg [mo 6 0,xo 7 (.len false (.t 6)),xo 8 (.mov (ci 0))])
 (.block 0
 (.loop [8] [9,10,5,11,12,13,14,15,16,17,4,18,8]
 (sq (rg [xo 9 (bi .lss 8 7)])
 (sq (cD 9
 .skip
 (.exit 0))
 (sq (.block 1
 (sq (rg [mo 10 8,mo 5 10])
 (sq (rg [mo 11 1,mo 12 0,mo 13 5,xo 14 (ia 1 12 13),lo 15 14,xo 16 (.bins .eql (.t 11) (.t 15))])
 (cD 16
 (sq (rg [mo 17 5,mo 4 17])
 .ret)
 .skip))))
 (rg [xo 18 (bc .add 8 1),mo 8 18])))))))
 (sq (rg [xo 4 (.mov (ci (-1)))])
 .ret)))⟩
theorem qkC:trFn Try.prog 98 [] [[8]]=some qsC:=by kernel_rfl
abbrev qmA:Nat:=99
def qPA:FnI:=⟨9,[.tmp 4],
 (sq (rg [xo 4 (.mov (.b false))])
 (sq (rg [mo 5 0,mo 6 1,xo 7 (.call 103 [(.t 5),(.t 6)]),xo 8 (bc .geq 7 0),mo 4 8])
 .ret))⟩
theorem qkA:trFn Try.prog 99 [] []=some qPA:=by kernel_rfl
abbrev qWH:Nat:=100
theorem qZH:FnOk Try.prog 100:=FnOk.of (by kernel_rfl)
def qoE:FnI:=⟨8,[.tmp 3],
 (sq (rg [xo 2 (.box 86 (.t 0)),xo 3 (.mov (.b false))])
 (sq (rg [fo 4 0 2,lo 5 4,lo 6 1,xo 7 (.bins .eql (.t 5) (.t 6)),mo 3 7])
 .ret))⟩
theorem qUH:trFn Try.prog 100 [] []=some qoE:=by kernel_rfl
abbrev q6F:Nat:=101
def qEG:FnI:=⟨11,[.tmp 4,.tmp 5],
 (sq (rg [xo 4 (.mov (.c (.string ⟨#[]⟩))),xo 5 (.mov (.b false))])
 (sq (rg [mo 6 0,mo 7 1,xo 8 (.call 104 [(.t 6),(.t 7)]),xo 9 (.ext 0 (.t 8)),xo 10 (.ext 1 (.t 8)),mo 4 9,mo 5 10])
 .ret))⟩
theorem q0F:trFn Try.prog 101 [] []=some qEG:=by kernel_rfl
abbrev quK:Nat:=102
def qEL:FnI:=⟨13,[.cell 2 1 false],
 (sq (rg [xo 2 (.alloc 4 [(.v (.bool false))])])
 (sq (sq (rg [mo 4 0,xo 5 (.len true (.t 4)),xo 6 (bc .gtr 5 32)])
 (cD 6
 (sq (rg [xn (.store 1 (.t 2) (.b false))])
 .ret)
 .skip))
 (sq (sq (rg [mo 7 0,xo 8 (.call 105 [(.t 7),(.c (.int .u8 (46)))])])
 (.block 0
 (.rfun (.t 8) [9]
 (rg [mo 3 9])
 (.block 1
 (sq (rg [mo 10 3,xo 11 (.call 48 [(.t 10)]),xo 12 (.not (.t 11))])
 (cD 12
 (sq (rg [xn (.store 1 (.t 2) (.b false))])
 .ret)
 .skip))))))
 (sq (rg [xn (.store 1 (.t 2) (.b true))])
 .ret))))⟩
theorem qOK:trFn Try.prog 102 [] []=some qEL:=by kernel_rfl
abbrev qxA:Nat:=103
def qRA:FnI:=⟨19,[.tmp 4],
 (sq (rg [xo 4 (.mov (ci 0))])
 (sq (sq (rg [mo 6 0,xo 7 (.len false (.t 6)),xo 8 (.mov (ci 0))])
 (.block 0
 (.loop [8] [9,10,5,11,12,13,14,15,16,17,4,18,8]
 (sq (rg [xo 9 (bi .lss 8 7)])
 (sq (cD 9
 .skip
 (.exit 0))
 (sq (.block 1
 (sq (rg [mo 10 8,mo 5 10])
 (sq (rg [mo 11 1,mo 12 0,mo 13 5,xo 14 (ia 4 12 13),xo 15 (lt 4 14),xo 16 (.callv (.t 11) [(.t 15)])])
 (cD 16
 (sq (rg [mo 17 5,mo 4 17])
 .ret)
 .skip))))
 (rg [xo 18 (bc .add 8 1),mo 8 18])))))))
 (sq (rg [xo 4 (.mov (ci (-1)))])
 .ret)))⟩
theorem qvA:trFn Try.prog 103 [] [[8]]=some qRA:=by kernel_rfl
abbrev qWE:Nat:=104
def qfE:FnI:=⟨15,[.tmp 4,.tmp 5],
 (sq (rg [xo 4 (.mov (.c (.string ⟨#[]⟩))),xo 5 (.mov (.b false))])
 (sq (sq (rg [mo 6 0,mo 7 1,xo 8 (.call 106 [(.t 6),(.t 7)]),xo 9 (.not (.t 8))])
 (cD 9
 (sq (rg [mo 10 0,mo 4 10,xo 5 (.mov (.b false))])
 .ret)
 .skip))
 (sq (rg [mo 11 0,mo 12 1,xo 13 (.len true (.t 12)),xo 14 (.slcs (.t 11) (some (.t 13)) none),mo 4 14,xo 5 (.mov (.b true))])
 .ret)))⟩
theorem qPE:trFn Try.prog 104 [] []=some qfE:=by kernel_rfl
abbrev qsJ:Nat:=105
def qlG:FnI:=⟨6,[.tmp 4],
 (sq (rg [xo 2 (.box 9 (.t 0)),xo 3 (.box 5 (.t 1)),xo 4 (.mov (.c .nilFunc))])
 (sq (rg [xo 5 (.mkf (.func 107) [] [(.t 2),(.t 3)]),mo 4 5])
 .ret))⟩
theorem qZJ:trFn Try.prog 105 [] []=some qlG:=by kernel_rfl
abbrev qVE:Nat:=106
def qeE:FnI:=⟨18,[.tmp 4],
 (sq (rg [xo 4 (.mov (.b false))])
 (sq (rg [mo 5 0,xo 6 (.len true (.t 5)),mo 7 1,xo 8 (.len true (.t 7)),xo 9 (bi .geq 6 8),mo 10 9,xg 11 (mv 0) 10 true,xg 12 (mv 1) 10 true,xg 13 (.len true (.t 12)) 10 true,xg 14 (.slcs (.t 11) none (some (.t 13))) 10 true,xg 15 (mv 1) 10 true,xg 16 (.bins .eql (.t 14) (.t 15)) 10 true,xo 17 (.pick (.t 10) (.t 16) (.b false)),mo 4 17])
 .ret))⟩
theorem qOE:trFn Try.prog 106 [] []=some qeE:=by kernel_rfl
abbrev qCI:Nat:=107
theorem qNI:FnOk Try.prog 107:=FnOk.of (by kernel_rfl)
def qJF:FnI:=⟨23,[],
 (.block 0
 (.loop [] [5,6,7,4,8,9,10,11,12,13,14,15,16,17,18,19,20,21,22]
 (.block 1
 (sq (rg [lo 5 1,lo 6 2,xo 7 (.call 108 [(.t 5),(.t 6)]),mo 4 7])
 (sq (sq (rg [mo 8 4,xo 9 (bc .lss 8 0)])
 (cD 9
 (sq (rg [mo 10 0,lo 11 1,xo 12 (.callv (.t 10) [(.t 11)])])
 .ret)
 .skip))
 (sq (sq (rg [mo 13 0,lo 14 1,mo 15 4,xo 16 (.slcs (.t 14) none (some (.t 15))),xo 17 (.callv (.t 13) [(.t 16)]),xo 18 (.not (.t 17))])
 (cD 18
 .ret
 .skip))
 (rg [lo 19 1,mo 20 4,xo 21 (bc .add 20 1),xo 22 (.slcs (.t 19) (some (.t 21)) none),xn (st 1 1 22)])))))))⟩
theorem qnH:trFn Try.prog 107 [] [[]]=some qJF:=by kernel_rfl
abbrev q5F:Nat:=108
def qDG:FnI:=⟨8,[.tmp 4],
 (sq (rg [xo 4 (.mov (ci 0))])
 (sq (rg [mo 5 0,mo 6 1,xo 7 (.call 109 [(.t 5),(.t 6)]),mo 4 7])
 .ret))⟩
theorem qzF:trFn Try.prog 108 [] []=some qDG:=by kernel_rfl
abbrev qUE:Nat:=109
end Go.Proofs.Ytkbbljngpglnkaa
