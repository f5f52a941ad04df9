import Derived.Test.YtlmhpamhhgogaaaGreatRows
import Derived.Test.YtlmhpamhhgogaaaGreatS1
set_option linter.all false
set_option maxHeartbeats 16000000
set_option maxRecDepth 100000
open Bool renaming false→zb,true→I
open Go renaming Program→zt,Oper→zDO,FuncId→zBa,Code→zDT
open Go.Proofs.Tryz renaming prog→X0
open List renaming range→zBf
open Option renaming some→O,none→zc
open _root_ renaming List→F,Nat→Z,Option→zs,Array→zR
namespace Go.Proofs.YtlmhpamhhgogaaaGreat
open Go.Proofs.YtlmhpamhhgogaaaGreat.Sx
def rO:Z->Z->Z->OI->OI
 |_,_,0,t=>t
 |k,a,m+1,t=>match k with
 |0=>.first a (rO k (a+1) m t)
 |1=>.exec a (rO k (a+1) m t)
 |_=>.Fs a (rO k (a+1) m t)
def pO(l:F Z)(t:OI:=.nil):OI:=l.foldr (λn t=>match Nat.blt n 192 with|true=>rO (n%3) (n / 3) 1 t|false=>rO (n%3) (n / 3%64) (n / 192+1) t) t
def rOT(P:zt)(nt:Z)(ops:zR zDO):F Z->OI->zs OT
 |_,.nil=>O .nil
 |done,.first i t=>match ops[i]? with
  |none=>zc
  |some o=>match q0D P nt ops o with
   |none=>zc
   |some h=>if h.op.reads then match rOT P nt ops (if h.op.pure then done else i::done) t with
     |none=>zc
     |some r=>O (.op ⟨i,!h.op.pure,[],h⟩ r)
    else zc
 |done,.exec i t=>match ops[i]? with
  |none=>zc
  |some o=>match q0D P nt ops o with
   |none=>zc
   |some h=>match rOT P nt ops done t with
     |none=>zc
     |some r=>O (.op ⟨i,zb,match WW P ops i with|true=>done.filter (λj=>!Ix ops j i)|false=>[],h⟩ r)
 |done,.Fs i t=>match ops[i]? with
  |none=>zc
  |some o=>match q0D P nt ops o with
   |none=>zc
   |some h=>match rOT P nt ops done t with
     |none=>zc
     |some r=>O (.Fs ⟨i,zb,[],h⟩ r)
 |done,.alt a b=>match rOT P nt ops done a with
  |none=>zc
  |some q=>match rOT P nt ops done b with
   |none=>zc
   |some u=>O (.alt q u)
def rC(P:zt)(nt:Z):zDT->F (F Z×OI)×F (F Z)->zs (Bu×(F (F Z×OI)×F (F Z)))
 |.skip,s=>O (.skip,s)
 |.region _ u zb,s=>match qxI P nt u (zBf u.size)with
  |some l=>O (.reg l,s)
  |none=>zc
 |.region _ u I,((H,L)::B,C)=>match rOT P nt u [] L with
  |some l=>O (.Kp (DZ u H) l,(B,C))
  |none=>zc
 |.seq a b,s=>match rC P nt a s with
  |some (w,q)=>match rC P nt b q with
   |some (h,A)=>O (.seq w h,A)
   |none=>zc
  |none=>zc
 |.cond c a b,s=>match rC P nt a s with
  |some (w,q)=>match rC P nt b q with
   |some (h,A)=>O (.cond (qIA c) w h,A)
   |none=>zc
  |none=>zc
 |.block id b,s=>match rC P nt b s with
  |some (h,q)=>O (.block id h,q)
  |none=>zc
 |.loop b,(B,D::C)=>match rC P nt b (B,C)with
  |some (h,q)=>if D.all (λn=>(Bt h).contains n)then O (.loop D (Bt h).eraseDups h,q)else zc
  |none=>zc
 |.rangeFunc g E M Q,s=>match rC P nt M s with
  |some (w,q)=>match rC P nt Q q with
   |some (h,A)=>if E.toList.all (λn=>decide (n<nt))then O (.MF (qIA g) E.toList w h,A)else zc
   |none=>zc
  |none=>zc
 |.exit id,s=>O (.exit id,s)
 |.ret,s=>O (.ret,s)
 |.label l,s=>O (.label l,s)
 |.goto l,s=>O (.goto l,s)
 |.scope b,s=>match rC P nt b s with
  |some (h,q)=>O (.scope (GO h h ((q1G h).filter λl=>(qbF h).contains l)),q)
  |none=>zc
 |_,_=>zc
def rF(P:zt)(f:zBa)(h:F (F Z×OI))(q:F (F Z)):zs FnI:=match P.funcs[f]? with
 |some fn=>match fn.body with
  |some c=>match rC P fn.ntmps c (h,q),qwI P fn.results.toList with
   |some (u,_),O w=>O ⟨fn.ntmps,w,u⟩
   |_,_=>zc
  |none=>zc
 |none=>zc
abbrev RdF(f:zBa)(o:F (F Z×OI))(l:F (F Z)):={c // F1 X0 f o l=O c}
def rdF(f:zBa)(c:FnI)(o:F (F Z×OI):=[])(l:F (F Z):=[])(_:rF X0 f o l=O c:=by conv=>lhs;cbv)(h:F1 X0 f o l=O c:=by kernel_rfl):RdF f o l:=⟨c,h⟩
def kF{f:zBa}(h:qwZ X0 f=I:=by kernel_rfl):GB X0 f:=GB.of h
def Fc:=rdF 4 _ [([],pO [0,4,198,13,1935,49,243]),([],pO [2880])] [[3,4],[12]]
def IM:=rdF 5 _ [] [[30]]
def FE:=rdF 6 _ [([9],pO [195] (.alt (pO [1] (.alt (pO [202,15,211,24,29,31]) (pO [13,15] (.alt (pO [10,211,24,29,31]) (pO [19,10,22,24,29,31]))))) (pO [10,1,13,15,211,24,29,31]))),([11],pO [390] (.alt (pO [1] (.alt (pO [4,208,597,35,36,40,42]) (pO [16,4,19,597,35,36,40,42]))) (pO [] (.alt (pO [4] (.alt (pO [1,208,597,35,36,40,42]) (pO [16,1,19,597,35,36,40,42]))) (pO [16] (.alt (pO [193,19,597,35,36,40,42]) (pO [4,1,19,597,35,36,40,42])))))))] [[3]]
def Gh:=rdF 7 _
def G6:=rdF 9 _ [] [[13]]
def Jb:=rdF 10 _ [] [[36],[69],[89]]
def Dp:=rdF 11 _ [([],pO [960,19])]
def Gi:=rdF 13 _ [] [[3,4]]
def Ic:=rdF 14 _ [] [[3,9]]
def Jf:=rdF 15 _ [([],pO [768,16,402,220]),([],pO [384,10,12])] [[34],[10,49]]
def IN:=rdF 16 _ [([],pO [969,384,412])] [[7,8,26],[11,60],[11,69]]
def G7:=rdF 17 _ [] [[19]]
def Jg:=rdF 18 _
def H3:=rdF 19 _ [] [[3,15],[3,22],[3,29]]
def G5:=rdF 20 _
def Bq:=rdF 21 _
def FQ:=rdF 22 _
def AE:=rdF 23 _
def FP:=rdF 24 _
def FF:=rdF 25 _
def Ha:=rdF 26 _ [([10],pO [1728,32,34])] [[10,40]]
def H7:=rdF 27 _ [([],pO [960,1365,19,46,48,244,57,61])] [[28]]
def IG:=rdF 28 _ [([6],pO [0,6,12] (.alt (pO [4,10,15,20,22]) (pO [10,4,15,20,22])))] [[40]]
def Ek:=rdF 30 _
def CJ:=rdF 31 _
def G2:=rdF 32 _
def Jh:=rdF 33 _ [([],pO [2496,43,45])] [[7]]
def GF:=rdF 34 _ [] [[24]]
def Ji:=rdF 35 _
def HL:=rdF 36 _
def CU:=rdF 37 _ [([],pO [1152]),([10],pO [1728,32,34]),([],pO [4032,67,261])]
def Do:=rdF 38 _ [([],pO [2496]),([],pO [771,0,211,216,31])]
def IP:=rdF 39 _ [([],pO [192,393,7,19,213,28,30])]
def Ge:=rdF 40 _
def Gd:=rdF 41 _ [] [[7,23]]
def Dz:=rdF 42 _ [([],pO [0,3078,3,58,252,67,261,76]),([10,11],pO [768,16,594,224,421]),([],pO [963,0,214,219,34]),([],pO [192,199])]
def Jj:=rdF 43 _ [] [[14]]
def CC:=rdF 44 _
def Ie:=rdF 45 _ [] [[3,9]]
def IQ:=rdF 46 _ [([],pO [192,199]),([],pO [192,201,6,208,21])] [[22]]
def GC:=rdF 47 _
def HH:=rdF 48 _
def Ia:=rdF 49 _ [] [[10],[17]]
def Ib:=rdF 50 _
def H9:=rdF 51 _
def H8:=rdF 52 _
def Jd:=rdF 53 _
def Hg:=rdF 54 _ [] [[21]]
def Bw:=rdF 55 _ [] [[8]]
def AC:=rdF 56 _ [] [[8]]
def Bi:=rdF 57 _
def En:=rdF 58 _
def Em:=rdF 59 _ [([],pO [5376])]
def HO:=rdF 60 _ [] [[3,8]]
def GH:=rdF 61 _
def G4:=rdF 62 _
def HC:=rdF 63 _ [] [[19],[26]]
def IL:=rdF 64 _ [] [[16]]
def Ig:=rdF 65 _
def Dy:=rdF 66 _ [] [[15],[21]]
def CY:=rdF 67 _ [] [[8]]
def Je:=rdF 68 _ [] [[7]]
def Ee:=rdF 69 _
def IT:=rdF 70 _
def JR:=rdF 71 _
def DN:=rdF 72 _
def AI:=rdF 73 _
def AF:=rdF 74 _ [] [[8]]
def EW:=rdF 75 _
def IK:=rdF 76 _
def GG:=rdF 77 _
def Dt:=rdF 78 _
def E6:=rdF 79 _ [] [[6]]
def Cq:=rdF 80 _ [([],pO [1920])]
def Gc:=rdF 81 _
def HI:=rdF 82 _
def Dr:=rdF 84 _ [([],pO [1920]),([],pO [2112]),([],pO [1731,0,226,231,46]),([],pO [2496,237,42,52,54,250,63,67]),([],pO [2304]),([],pO [0,6,207,3,201,22,216,31]),([],pO [960,19])]
def BW:=rdF 85 _ [([],pO [2112,37,231])] [[1,2,3,8,9]]
end Go.Proofs.YtlmhpamhhgogaaaGreat
