import Derived.Test.YtlmhpamhhgogaaaGreatRows
import Derived.Test.YtlmhpamhhgogaaaGreatS1
set_option linter.all false
set_option maxHeartbeats 16000000
set_option maxRecDepth 100000
open Bool renaming false→zb,true→I
open Go renaming Program→zv,Oper→zDA,FuncId→zA5,Code→zDE
open List renaming range→zA8
open Option renaming some→O,none→zc
open _root_ renaming List→F,Nat→Z,Option→zy,Array→zS
namespace Go.Proofs.YtlmhpamhhgogaaaGreat
open Go.Proofs.YtlmhpamhhgogaaaGreat.Sx
def rO:Z->Z->Z->OI->OI
 |_,_,0,t=>t
 |k,a,m+1,t=>match k with
 |0=>.first a (rO k (a+1) m t)
 |1=>.exec a (rO k (a+1) m t)
 |_=>.EY a (rO k (a+1) m t)
def pO(l:F Z)(t:OI:=.nil):OI:=l.foldr (λn t=>match Nat.blt n 192 with|true=>rO (n%3) (n / 3) 1 t|false=>rO (n%3) (n / 3%64) (n / 192+1) t) t
def rOT(P:zv)(nt:Z)(ops:zS zDA):F Z->OI->zy OT
 |_,.nil=>O .nil
 |done,.first i t=>match ops[i]? with
  |none=>zc
  |some o=>match qFE P nt ops o with
   |none=>zc
   |some h=>if h.op.reads then match rOT P nt ops (if h.op.pure then done else i::done) t with
     |none=>zc
     |some r=>O (.op ⟨i,!h.op.pure,[],h⟩ r)
    else zc
 |done,.exec i t=>match ops[i]? with
  |none=>zc
  |some o=>match qFE P nt ops o with
   |none=>zc
   |some h=>match rOT P nt ops done t with
     |none=>zc
     |some r=>O (.op ⟨i,zb,match WW P ops i with|true=>done.filter (λj=>!G3 ops j i)|false=>[],h⟩ r)
 |done,.EY i t=>match ops[i]? with
  |none=>zc
  |some o=>match qFE P nt ops o with
   |none=>zc
   |some h=>match rOT P nt ops done t with
     |none=>zc
     |some r=>O (.EY ⟨i,zb,[],h⟩ r)
 |done,.alt a b=>match rOT P nt ops done a with
  |none=>zc
  |some q=>match rOT P nt ops done b with
   |none=>zc
   |some u=>O (.alt q u)
def rC(P:zv)(nt:Z):zDE->F (F Z×OI)×F (F Z)->zy (By×(F (F Z×OI)×F (F Z)))
 |.skip,s=>O (.skip,s)
 |.region _ u zb,s=>match qgJ P nt u (zA8 u.size)with
  |some l=>O (.reg l,s)
  |none=>zc
 |.region _ u I,((L,Q)::C,D)=>match rOT P nt u [] Q with
  |some l=>O (.Iz (DN u L) l,(C,D))
  |none=>zc
 |.seq a b,s=>match rC P nt a s with
  |some (A,q)=>match rC P nt b q with
   |some (h,B)=>O (.seq A h,B)
   |none=>zc
  |none=>zc
 |.cond c a b,s=>match rC P nt a s with
  |some (A,q)=>match rC P nt b q with
   |some (h,B)=>O (.cond (qJA c) A h,B)
   |none=>zc
  |none=>zc
 |.block id b,s=>match rC P nt b s with
  |some (h,q)=>O (.block id h,q)
  |none=>zc
 |.loop b,(C,E::D)=>match rC P nt b (C,D)with
  |some (h,q)=>if E.all (λn=>(Bu h).contains n)then O (.loop E (Bu h).eraseDups h,q)else zc
  |none=>zc
 |.rangeFunc g H R T,s=>match rC P nt R s with
  |some (A,q)=>match rC P nt T q with
   |some (h,B)=>if H.toList.all (λn=>decide (n<nt))then O (.KF (qJA g) H.toList A h,B)else zc
   |none=>zc
  |none=>zc
 |.exit id,s=>O (.exit id,s)
 |.ret,s=>O (.ret,s)
 |.label l,s=>O (.label l,s)
 |.goto l,s=>O (.goto l,s)
 |.scope b,s=>match rC P nt b s with
  |some (h,q)=>O (.scope (Gh h h ((qfH h).filter λl=>(q4F h).contains l)),q)
  |none=>zc
 |_,_=>zc
def rF(P:zv)(f:zA5)(h:F (F Z×OI))(q:F (F Z)):zy FnI:=match P.funcs[f]? with
 |some fn=>match fn.body with
  |some c=>match rC P fn.ntmps c (h,q),qfJ P fn.results.toList with
   |some (u,_),O A=>O ⟨fn.ntmps,A,u⟩
   |_,_=>zc
  |none=>zc
 |none=>zc
abbrev RdF(f:zA5)(o:F (F Z×OI))(l:F (F Z)):={c // FN Tryz.prog f o l=O c}
def rdF(f:zA5)(c:FnI)(o:F (F Z×OI):=[])(l:F (F Z):=[])(_:rF Tryz.prog f o l=O c:=by conv=>lhs;cbv)(h:FN Tryz.prog f o l=O c:=by kernel_rfl):RdF f o l:=⟨c,h⟩
def kF{f:zA5}(h:q2a Tryz.prog f=I:=by kernel_rfl):Gb Tryz.prog f:=Gb.of h
def MG:=rdF 3 _ [([9],pO [192,9,7,13,591,29,30,34,36]),([],pO [1536,28,30]),([],pO [1,195,204,10,402])] [[11]]
def NW:=rdF 5 _ [] [[30]]
def MO:=rdF 6 _ [([9],pO [195] (.alt (pO [1] (.alt (pO [202,15,211,24,29,31]) (pO [13,15] (.alt (pO [10,211,24,29,31]) (pO [19,10,22,24,29,31]))))) (pO [10,1,13,15,211,24,29,31]))),([11],pO [390] (.alt (pO [1] (.alt (pO [4,208,597,35,36,40,42]) (pO [16,4,19,597,35,36,40,42]))) (pO [] (.alt (pO [4] (.alt (pO [1,208,597,35,36,40,42]) (pO [16,1,19,597,35,36,40,42]))) (pO [16] (.alt (pO [193,19,597,35,36,40,42]) (pO [4,1,19,597,35,36,40,42])))))))] [[3]]
def Ds:=rdF 7 _
def Na:=rdF 9 _ [] [[13]]
def N6:=rdF 10 _ [] [[36],[69],[89]]
def BP:=rdF 11 _ [([],pO [960,19])]
def BV:=rdF 12 _
def Oa:=rdF 15 _ [([],pO [768,16,402,220]),([],pO [384,10,12])] [[34],[10,49]]
def NX:=rdF 16 _ [([],pO [969,384,412])] [[7,8,26],[11,60],[11,69]]
def Nb:=rdF 17 _ [] [[19]]
def Ob:=rdF 18 _
def M9:=rdF 20 _
def Bs:=rdF 21 _
def Fh:=rdF 22 _
def AG:=rdF 23 _
def Fg:=rdF 24 _
def MP:=rdF 25 _
def Nf:=rdF 26 _ [([10],pO [1728,32,34])] [[10,40]]
def NF:=rdF 27 _ [([],pO [960,1365,19,46,48,244,57,61])] [[28]]
def NQ:=rdF 28 _ [([6],pO [0,6,12] (.alt (pO [4,10,15,20,22]) (pO [10,4,15,20,22])))] [[40]]
def DW:=rdF 30 _
def Mo:=rdF 31 _
def M6:=rdF 32 _
def Oc:=rdF 33 _ [([],pO [2496,43,45])] [[7]]
def MW:=rdF 34 _ [] [[24]]
def Od:=rdF 35 _
def Nz:=rdF 36 _
def BB:=rdF 37 _ [([],pO [1152]),([10],pO [1728,32,34]),([],pO [4032,67,261])]
def BO:=rdF 38 _ [([],pO [2496]),([],pO [771,0,211,216,31])]
def NY:=rdF 39 _ [([],pO [192,393,7,19,213,28,30])]
def FH:=rdF 40 _
def MU:=rdF 41 _ [] [[7,23]]
def Dv:=rdF 42 _ [([],pO [0,3078,3,58,252,67,261,76]),([10,11],pO [768,16,594,224,421]),([],pO [963,0,214,219,34]),([],pO [192,199])]
def Oe:=rdF 43 _ [] [[14]]
def CD:=rdF 44 _
def NH:=rdF 45 _ [] [[3,9]]
def NZ:=rdF 46 _ [([],pO [192,199]),([],pO [192,201,6,208,21])] [[22]]
def Gc:=rdF 47 _
def Fi:=rdF 48 _
def FJ:=rdF 49 _ [] [[10],[17]]
def FK:=rdF 50 _
def FI:=rdF 51 _
def NG:=rdF 52 _
def N8:=rdF 53 _
def Nl:=rdF 54 _ [] [[21]]
def Bz:=rdF 55 _ [] [[8]]
def AD:=rdF 56 _ [] [[8]]
def Bj:=rdF 57 _
def DZ:=rdF 58 _
def DY:=rdF 59 _ [([],pO [5376])]
def NC:=rdF 60 _ [] [[3,8]]
def MY:=rdF 61 _
def M8:=rdF 62 _
def Nr:=rdF 63 _ [] [[19],[26]]
def NV:=rdF 64 _ [] [[16]]
def NJ:=rdF 65 _
def Du:=rdF 66 _ [] [[15],[21]]
def Mp:=rdF 67 _ [] [[8]]
def N9:=rdF 68 _ [] [[7]]
def DU:=rdF 69 _
def N5:=rdF 70 _
def Oh:=rdF 71 _
def DG:=rdF 72 _
def AK:=rdF 73 _
def AH:=rdF 74 _ [] [[8]]
def EC:=rdF 75 _
def NU:=rdF 76 _
def MX:=rdF 77 _
def Mr:=rdF 78 _
def EK:=rdF 79 _ [] [[6]]
def Cu:=rdF 80 _ [([],pO [1920])]
def FG:=rdF 81 _
def Nw:=rdF 82 _
def Dq:=rdF 84 _ [([],pO [1920]),([],pO [2112]),([],pO [1731,0,226,231,46]),([],pO [2496,237,42,52,54,250,63,67]),([],pO [2304]),([],pO [0,6,207,3,201,22,216,31]),([],pO [960,19])]
def B6:=rdF 85 _ [([],pO [2112,37,231])] [[1,2,3,8,9]]
end Go.Proofs.YtlmhpamhhgogaaaGreat
