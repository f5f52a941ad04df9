import Derived.Conc.SmallLaws
import Derived.Conc.AppendEvents3
import Derived.Test.YtlmhpamhhgogaaaGreatP1
import Derived.Test.YtlmhpamhhgogaaaGreatL0
set_option linter.all false
set_option maxHeartbeats 16000000
set_option maxRecDepth 100000
open And renaming intro→zG
open Array renaming replicate→zAP
open Bool renaming false→zb,true→I
open Classical renaming propDecidable→zBb
open Eq renaming refl→zAu
open Go renaming Value→zg,World→zp,Program→zv,execOp→zx,Goroutine→zE,run_underlying→zL,Frame→zAm,maxLen→zAp,TypeId→zAw,stepG→zAD,Addr→zAI,Act→zDz,Oper→zDA,undef→zAU,zeroValue→zAW,Code→zDE
open Go.Act renaming put→zBf
open Go.Conc renaming rcase→zAN,heap_setChan_ne→zDB,Sits→zDF
open Go.Deferred renaming ofValue→zBH
open Go.Frame renaming atR→zAM,enter→zAR,finish_atR→zBc
open Go.GStep renaming after→zBF
open Go.Instr renaming loadAt→zBq
open Go.IntKind renaming i64→zAj,wrap_i64→zBz,u64→zBP
open Go.Region renaming wanted→zAl,ready→zAB
open Go.Result renaming andThen→zAk,evThen→zBJ
open Go.Sem renaming run_bind→zZ,runT_eq→zBn
open Go.Value renaming int→zK,oneCell'→zAY,bool→zBt
open Go.Value.slice renaming injEq→zAg
open List renaming range→zA8
open Option renaming some→O,none→zc
open _root_ renaming List→F,Nat→Z,Int→zt,Option→zy,Bool→zO,Array→zS,False→zX
namespace Go.Proofs.YtlmhpamhhgogaaaGreat
open Go.Proofs.YtlmhpamhhgogaaaGreat.Sx Go.RowKit
def qGa(g){cs am}{w}{m:Ah}(aH:rWo g cs w)(hM:qdA g am m)(aI:SnW w)(an:BgW 1000000 w)(bw:SmO m)(ao:hGo w m)(Y:m.pc=11):Ok Tryz.prog 147 [.agg ⟨cs⟩,.agg ⟨am⟩] g (HaP w m):=by
 obtain⟨L,hM9,P⟩:=qmB ao sa;obtain⟨ap,aq,kE⟩:=HM Y;rw[ap]at L;rw[aq]at hM9;rw[kE]at P;clear ap aq kE;have hs:=ao.1;obtain⟨v,Q,C,B⟩:=id (Am.1 hs);obtain⟨aJ,aK,aL,aM,aN,aO,aP,aQ,aR,aT,aU,aW,aX,aY,aZ,a0,rfl,rfl,ar,a1,⟨bx,bz,bA⟩,bB,bC,bD,bE,bF,⟨bG,bH,bI,bJ⟩,⟨a2,a3,bK,bL⟩,⟨c1,c2,bM,bN⟩,⟨d1,d2,bO,bP⟩,⟨e1,e2,bQ,bR⟩,aa,ae,af⟩:=qhB aH hM
 exact Ok.Aq hm qVD 5 Me.2 (args:=[.v (.agg ⟨wQ w aJ aK aL aM aN aO aP aQ aR aT⟩),.v (.agg ⟨mQ m aU aW aX aY aZ a0⟩)]) (by
  refine zq ?_;intros;refine dT sa (zq ?_);intros;refine dF sa (zq ?_);intros;refine dF sa (zq ?_);intros;refine dF sa (zq ?_);intros;refine .inl ⟨_,qUA _ ar a1 aI an,zq ?_⟩;intros;refine⟨λA=>absurd (hs.symm.trans (nb1 A)) sb,λ_=>zq ?_⟩;intros;refine⟨λ_=>?_,λ_=>?_⟩
  case' refine_1=>
   refine zq ?_;intros;refine⟨λA=>absurd A (by simp[Y]),λ_=>zq ?_⟩;intros;refine⟨λA=>absurd A (by simp[Y]),λ_=>zq ?_⟩;intros;refine⟨λA=>absurd A (by simp[Y]),λ_=>?_⟩
  all_goals(
   refine zq ?_;intros;refine .inl ⟨_,qiB _,zq ?_⟩;intros;refine⟨11,⟨Y,sb⟩,zq ?_⟩;intros;refine⟨λag=>(nomatch ag),λ_=>zq ?_⟩;intros;refine .inr ((qSA _ ar an).mono λv g3 ah a4=>?_);obtain⟨cs,bT,rfl,au⟩:=a4;have ac:=qbA au;obtain⟨bU,bW,bX,bY,bZ,b0,b1,b2,b3,b4,rfl⟩:=qLA ac;obtain⟨a2,b5,a3,b6,b7,b8,b9,ca,cb,a5,E,W,cc,av,_,a6⟩:=qQF au B.ver.2 B.clu.2;cases a5;have ab:=(q3H ac B.ver.2 B.clu.2 B.Ak.2).1;obtain⟨D,R,T⟩:=B.idx;obtain⟨a7,a8,a9⟩:=B.at_;have aw:=aa.word;simp only[casB,a9,evV,Cm,a7,a8]at L hM9 P;by_cases U:(decide (C.head=m.word)&&q6C m.link)=I
   .rw[zk U]at L P;rw[U]at hM9;simp only[zl,zF]at U;obtain⟨ai,aj⟩:=U;have ax:-1<=m.link/\m.link<=2147483646:=by simpa[q6C]using aj
    obtain⟨ba,bb,bc,bd,ak,V,be,ay⟩:=qxC av B.Ak.2 (en':={C with head:=qxB m.word m.link}) (o:=0) (vs:=[.int .u64 (qxB m.word m.link)]) se (by simp[zAY]) (λn=>rfl) rfl ⟨qYQ ax,ab.2.1⟩;subst ak;obtain⟨bf,bh,bi,bj,⟨ad,bl,az,bm,aA⟩,_,bn⟩:=a6 _ _ _ ay;refine zq ?_;intros;refine⟨kF,?_⟩;simp only[zBA]at hM9;refine zq ?_;intros
    repeat'((first|refine .inl ⟨_,qpR _ aw ax,zq ?_⟩|refine⟨_,λu q h=>qdC u (h.cel (id:=6) rfl 13 rfl) (h.cel (id:=6) rfl 15 rfl) (h.cel (id:=6) rfl 16 rfl) (h.cel (id:=5) rfl 4 rfl) D (E.mono q) R (W.mono q) T,zq ?_⟩|refine⟨_,V 0 _ rfl,zq ?_⟩|rfl)<;>intros)
    refine zG (λA=>absurd A (by simp[ai])) (λ_=>zq ?_);intros
    repeat'((first|refine⟨_,λu q h=>qdC u (h.cel (id:=6) rfl 13 rfl) (h.cel (id:=6) rfl 15 rfl) (h.cel (id:=6) rfl 16 rfl) (h.cel (id:=5) rfl 4 rfl) D (E.mono q) R (W.mono q) T,zq ?_⟩|refine⟨_,V 0 _ rfl,zq ?_⟩|rfl)<;>intros)
    refine zG (λA=>absurd A sb) (λ_=>zq ?_);intros
    repeat'((first|refine⟨_,λu q h=>qdC u (h.cel (id:=6) rfl 13 rfl) (h.cel (id:=6) rfl 15 rfl) (h.cel (id:=6) rfl 16 rfl) (h.cel (id:=5) rfl 4 rfl) D (E.mono q) R (W.mono q) T,zq ?_⟩|refine⟨_,V 0 _ rfl,zq ?_⟩|rfl)<;>intros)
    refine⟨bf,bh,bi,bj,⟨by first|exact ad|(rw[<-ad];rfl)|(rw[<-ad,qoB]),bl,az,bm,aA⟩,zq ?_⟩;intros;refine λaB al=>?_;have aC:=qbA (bn aB al);have bo:g<=aB:=al.le ah (λag=>by have:=g.wf _ ag;omega);have bp:=al.rd az aA;rw[<-ad]at bp;have bq:=qpA (y:=({v with Aj:=v.Aj.set m.Af.toNat ({Q with ends:=Q.ends.set m.Ak.toNat ({C with head:=qxB m.word m.link}:Bw)}:Bi)}:AM)) B.ver.2;have aD:=qpA (y:=({Q with ends:=Q.ends.set m.Ak.toNat ({C with head:=qxB m.word m.link}:Bw)}:Bi)) B.clu.2;have br:=qZK aC;obtain⟨cd,ce,cf,cg,ch,ci,cj,ck,bt,cm,cn,aE⟩:=qzF br bq;obtain⟨co,rfl⟩:=qVA aE aD;obtain⟨cp,cq,cr,_,aF⟩:=qYI aE aD;have bu:0<=m.Ac/\m.Ac<w.Ab.length:=D;have ct:0<=m.Af/\m.Af<((v.Aj.set m.Af.toNat ({Q with ends:=Q.ends.set m.Ak.toNat ({C with head:=qxB m.word m.link}:Bw)}:Bi)).length:Z):=by simpa only[zAd]using R
    have aG:=qpA (y:=({C with head:=qxB m.word m.link}:Bw)) B.Ak.2;obtain⟨cu,rfl⟩:=qVA aF aG;obtain⟨cv,cw,cx,_,cy⟩:=qNH aF aG;have cz:0<=m.Ak/\m.Ak<((Q.ends.set m.Ak.toNat ({C with head:=qxB m.word m.link}:Bw)).length:Z):=by simpa only[zAd]using T
    refine zq ?_;intros
    repeat'((first|refine⟨_,λu q h=>qzD u (h.cel (id:=6) rfl 10 rfl) (h.cel (id:=6) rfl 13 rfl) (h.cel (id:=5) rfl 4 rfl) bu (bt.mono q),?_⟩|refine zG ?_ ?_|fail)<;>first|(refine zq ?_;intros)|rfl)
    all_goals(conv=>whnf)
    all_goals(first|exact zAu _|(
    intro g2 H;refine⟨_,_,by rw[P]<;>rfl,by rw[L];exact qBA _ _ _ _ H aC,?_⟩;rw[hM9]
    exact⟨_,_,_,rfl,{aa with pc:=show InR (12:zt) by decide},ae,qAA _ _ _ _ (GW.trans bo H) af⟩))
   .rw[zj U]at L P;rw[zj U]at hM9;obtain⟨ba,bb,bc,bd,ak,V,be,ay⟩:=qxC av B.Ak.2 (en':=C) (o:=0) (vs:=[.int .u64 C.head]) se (by simp[zAY]) (λn=>rfl) rfl ⟨ab.1,ab.2.1⟩;subst ak;refine zq ?_;intros;refine⟨kF,zq ?_⟩;intros
    repeat'((first|refine .inl ⟨_,q7U _ aw aa.link,zq ?_⟩|refine⟨_,λu q h=>qdC u (h.cel (id:=6) rfl 13 rfl) (h.cel (id:=6) rfl 15 rfl) (h.cel (id:=6) rfl 16 rfl) (h.cel (id:=5) rfl 4 rfl) D (E.mono q) R (W.mono q) T,zq ?_⟩|refine⟨_,V 0 _ rfl,zq ?_⟩|rfl)<;>intros)
    refine zG (λ_=>?_) (λz=>?_)
    .refine zq ?_;intros
     repeat'((first|refine⟨_,λu q h=>qdC u (h.cel (id:=6) rfl 13 rfl) (h.cel (id:=6) rfl 15 rfl) (h.cel (id:=6) rfl 16 rfl) (h.cel (id:=5) rfl 4 rfl) D (E.mono q) R (W.mono q) T,?_⟩|refine⟨_,V 0 _ rfl,?_⟩|refine .inl ⟨_,q4B _ ab.1,?_⟩|refine⟨_,λu q h=>qzD u (h.cel (id:=6) rfl 10 rfl) (h.cel (id:=6) rfl 13 rfl) (h.cel (id:=5) rfl 4 rfl) D (E.mono q),?_⟩|refine zG ?_ ?_|fail)<;>first|(refine zq ?_;intros)|rfl)
     all_goals(conv=>whnf)
     all_goals(first|exact zAu _|(
     intro g2 H;refine⟨_,_,by rw[P]<;>rfl,by rw[L];exact qBA _ _ _ _ H ac,?_⟩;rw[hM9]
     exact⟨_,_,_,rfl,{aa with pc:=show InR (9:zt) by decide},ae,qAA _ _ _ _ (GW.trans ah H) af⟩))
    .have ai:C.head=m.word:=by simpa using z
     have aj:q6C m.link=zb:=by
      cases bv:q6C m.link
      .rfl
      .exact absurd (by simp[ai,bv]) U
     refine zq ?_;intros;refine zG (λ_=>zq ?_) (λA=>absurd A (by simp[aj]));intros
     repeat'((first|refine⟨_,λu q h=>qdC u (h.cel (id:=6) rfl 13 rfl) (h.cel (id:=6) rfl 15 rfl) (h.cel (id:=6) rfl 16 rfl) (h.cel (id:=5) rfl 4 rfl) D (E.mono q) R (W.mono q) T,?_⟩|refine⟨_,V 0 _ rfl,?_⟩|refine .inl ⟨_,q4B _ ab.1,?_⟩|refine⟨_,λu q h=>qzD u (h.cel (id:=6) rfl 10 rfl) (h.cel (id:=6) rfl 13 rfl) (h.cel (id:=5) rfl 4 rfl) D (E.mono q),?_⟩|refine zG ?_ ?_|fail)<;>first|(refine zq ?_;intros)|rfl)
     all_goals(conv=>whnf)
     all_goals(first|exact zAu _|(
     intro g2 H;refine⟨_,_,by rw[P]<;>rfl,by rw[L];exact qBA _ _ _ _ H ac,?_⟩;rw[hM9]
     exact⟨_,_,_,rfl,{aa with pc:=show InR (9:zt) by decide},ae,qAA _ _ _ _ (GW.trans ah H) af⟩))))
def qFa(g){cs U}{w}{m:Ah}(av:rWo g cs w)(hM:qdA g U m)(aw:SnW w)(V:BgW 1000000 w)(bo:SmO m)(W:hGo w m)(E:m.pc=12):Ok Tryz.prog 147 [.agg ⟨cs⟩,.agg ⟨U⟩] g (HaP w m):=by
 obtain⟨L,hM9,P⟩:=qmB W sa;obtain⟨Y,aa,kE⟩:=HL E;rw[Y]at L;rw[aa]at hM9;rw[kE]at P;clear Y aa kE;have hs:=W.1;obtain⟨v,A,h,u⟩:=id (Am.1 hs);obtain⟨ax,ay,az,aA,aB,aC,aD,aE,aF,aG,aH,aI,aJ,aK,aL,aM,rfl,rfl,ab,aN,⟨bp,bq,br⟩,bt,bu,bv,bw,bx,⟨bz,bA,bB,bC⟩,⟨aO,aP,bD,bE⟩,⟨c1,c2,bF,bG⟩,⟨d1,d2,bH,bI⟩,⟨e1,e2,bJ,bK⟩,D,aQ,aR⟩:=qhB av hM
 exact Ok.Aq hm qVD 5 Me.2 (args:=[.v (.agg ⟨wQ w ax ay az aA aB aC aD aE aF aG⟩),.v (.agg ⟨mQ m aH aI aJ aK aL aM⟩)]) (by
  refine zq ?_;intros;refine dT sa (zq ?_);intros;refine dF sa (zq ?_);intros;refine dF sa (zq ?_);intros;refine dF sa (zq ?_);intros;refine .inl ⟨_,qUA _ ab aN aw V,zq ?_⟩;intros;refine⟨λB=>absurd (hs.symm.trans (nb1 B)) sb,λ_=>zq ?_⟩;intros;refine⟨λ_=>?_,λ_=>?_⟩
  case' refine_1=>
   refine zq ?_;intros;refine⟨λB=>absurd B (by simp[E]),λ_=>zq ?_⟩;intros;refine⟨λB=>absurd B (by simp[E]),λ_=>zq ?_⟩;intros;refine⟨λB=>absurd B (by simp[E]),λ_=>?_⟩
  all_goals(
   refine zq ?_;intros;refine .inl ⟨_,qiB _,zq ?_⟩;intros;refine⟨12,⟨E,sb⟩,zq ?_⟩;intros;refine⟨λR=>(nomatch R),λ_=>zq ?_⟩;intros;refine .inr ((qSA _ ab V).mono λv g3 aT aU=>?_);obtain⟨cs,bL,rfl,ac⟩:=aU;have ad:=qbA ac;obtain⟨bM,bN,bO,bP,bQ,bR,bT,bU,bW,bX,rfl⟩:=qLA ad;obtain⟨aO,bY,aP,bZ,b0,b1,b2,b3,b4,aW,aX,aY,b5,aZ,_,a0⟩:=qQF ac u.ver.2 u.clu.2;cases aW;have a1:=(q3H ad u.ver.2 u.clu.2 u.Ak.2).1;obtain⟨b6,b7,b8,b9,a2,a3,ca,a4⟩:=qxC aZ u.Ak.2 (en':={h with Ae:=wI (h.Ae+1)}) (o:=2) (vs:=[.int .i64 (wI (h.Ae+1))]) se (by simp[zAY]) (λn=>rfl) rfl ⟨a1.1,qDB _⟩;subst a2;obtain⟨a5,a6,a7,a8,⟨Q,a9,ae,ba,af⟩,_,bb⟩:=a0 _ _ _ a4;obtain⟨ag,ah,ai⟩:=u.idx;obtain⟨aj,bc,bd⟩:=u.at_;rw[bd]at L P;simp only[Cm,aj,bc]at L;simp only[evV,aj]at P;refine zq ?_;intros;refine⟨kF,zq ?_⟩;intros
   repeat'((first|refine⟨_,λH C q=>qdC H (q.cel (id:=6) rfl 13 rfl) (q.cel (id:=6) rfl 15 rfl) (q.cel (id:=6) rfl 16 rfl) (q.cel (id:=5) rfl 4 rfl) ag (aX.mono C) ah (aY.mono C) ai,zq ?_⟩|refine⟨_,a3 2 _ rfl,zq ?_⟩|rfl)<;>intros)
   refine⟨a5,a6,a7,a8,⟨by first|exact Q|(rw[<-Q];rfl)|(rw[<-Q,qoB]),a9,ae,ba,af⟩,zq ?_⟩;intros;refine λak T=>?_;have al:=qbA (bb ak T);have be:g<=ak:=T.le aT (λR=>by have:=g.wf _ R;omega);have bf:=T.rd ae af;rw[<-Q]at bf;have bh:=qpA (y:=({v with Aj:=v.Aj.set m.Af.toNat ({A with ends:=A.ends.set m.Ak.toNat ({h with Ae:=wI (h.Ae+1)}:Bw)}:Bi)}:AM)) u.ver.2;have am:=qpA (y:=({A with ends:=A.ends.set m.Ak.toNat ({h with Ae:=wI (h.Ae+1)}:Bw)}:Bi)) u.clu.2;have bi:=qZK al;obtain⟨cb,cc,cd,ce,cf,cg,ch,ci,an,cj,ck,ao⟩:=qzF bi bh;obtain⟨cm,rfl⟩:=qVA ao am;obtain⟨cn,co,bj,_,ap⟩:=qYI ao am;have aq:0<=m.Ac/\m.Ac<w.Ab.length:=ag;have bl:0<=m.Af/\m.Af<((v.Aj.set m.Af.toNat ({A with ends:=A.ends.set m.Ak.toNat ({h with Ae:=wI (h.Ae+1)}:Bw)}:Bi)).length:Z):=by simpa only[zAd]using ah
   have ar:=qpA (y:=({h with Ae:=wI (h.Ae+1)}:Bw)) u.Ak.2;obtain⟨cp,rfl⟩:=qVA ap ar;obtain⟨cq,cr,bm,_,ct⟩:=qNH ap ar;have bn:0<=m.Ak/\m.Ak<((A.ends.set m.Ak.toNat ({h with Ae:=wI (h.Ae+1)}:Bw)).length:Z):=by simpa only[zAd]using ai
   refine zq ?_;intros
   repeat'((first|refine⟨_,λH C q=>qdC H (q.cel (id:=6) rfl 13 rfl) (q.cel (id:=6) rfl 15 rfl) (q.cel (id:=6) rfl 16 rfl) (q.cel (id:=5) rfl 4 rfl) aq (an.mono C) bl (bj.mono C) bn,?_⟩|refine⟨_,bm 2 _ rfl,?_⟩|refine⟨_,λH C q=>qzD H (q.cel (id:=6) rfl 10 rfl) (q.cel (id:=6) rfl 13 rfl) (q.cel (id:=5) rfl 4 rfl) aq (an.mono C),?_⟩|refine zG ?_ ?_|fail)<;>first|(refine zq ?_;intros)|rfl)
   all_goals(conv=>whnf)
   all_goals(first|exact zAu _|(
   intro g2 au;refine⟨_,_,by rw[P]<;>rfl,by rw[L];exact qBA _ _ _ _ au al,?_⟩;rw[hM9]
   exact⟨_,_,_,rfl,{D with pc:=show InR (20:zt) by decide,answer:=⟨z1,D.Ac,D.Af,D.Ak,D.slot,D.listen,z0,qiG⟩},aQ,qAA _ _ _ _ (GW.trans be au) aR⟩))))
def qEa(g){cs aB}{w}{m:Ah}(aL:rWo g cs w)(hM:qdA g aB m)(aM:SnW w)(aC:BgW 1000000 w)(a8:SmO m)(aD:hGo w m)(T:m.pc=20):Ok Tryz.prog 147 [.agg ⟨cs⟩,.agg ⟨aB⟩] g (HaP w m):=by
 obtain⟨A,hM9,L⟩:=qmB aD sa;obtain⟨aE,aF,kE⟩:=HK T;rw[aE]at A;rw[aF]at hM9;rw[kE]at L;clear aE aF kE;have hs:=aD.1;obtain⟨v,a9,ba,R⟩:=id (Am.1 hs);obtain⟨aN,aO,aP,aQ,aR,aT,aU,aW,aX,aY,aZ,a0,a1,a2,a3,a4,rfl,rfl,aG,a5,⟨bb,bc,bd⟩,be,bf,bh,bi,bj,⟨bl,bm,bn,bo⟩,⟨av,aw,bp,bq⟩,⟨c1,c2,br,bt⟩,⟨d1,d2,bu,bv⟩,⟨e1,e2,bw,bx⟩,ax,ay,az⟩:=qhB aL hM
 exact Ok.Aq hm qVD 5 Me.2 (args:=[.v (.agg ⟨wQ w aN aO aP aQ aR aT aU aW aX aY⟩),.v (.agg ⟨mQ m aZ a0 a1 a2 a3 a4⟩)]) (by
  refine zq ?_;intros;refine dT sa (zq ?_);intros;refine dF sa (zq ?_);intros;refine dF sa (zq ?_);intros;refine dF sa (zq ?_);intros;refine .inl ⟨_,qUA _ aG a5 aM aC,zq ?_⟩;intros;refine⟨λP=>absurd (hs.symm.trans (nb1 P)) sb,λ_=>zq ?_⟩;intros;refine⟨λ_=>?_,λ_=>?_⟩
  case' refine_1=>
   refine zq ?_;intros;refine⟨λP=>absurd P (by simp[T]),λ_=>zq ?_⟩;intros;refine⟨λP=>absurd P (by simp[T]),λ_=>zq ?_⟩;intros;refine⟨λP=>absurd P (by simp[T]),λ_=>?_⟩
  all_goals(
   refine zq ?_;intros;refine .inl ⟨_,qiB _,zq ?_⟩;intros;refine⟨20,⟨T,sb⟩,zq ?_⟩;intros;refine⟨λQ=>(nomatch Q),λ_=>zq ?_⟩;intros;refine .inr ((qSA _ aG aC).mono λv g3 aA a6=>?_);obtain⟨cs,bz,rfl,au⟩:=a6;have a7:=qbA au;obtain⟨bA,bB,bC,bD,bE,bF,bG,bH,bI,bJ,rfl⟩:=qLA a7;refine zq ?_;intros;refine⟨kF,zq ?_⟩;intros;refine zG (λz=>?_) (λz=>?_)
   .have z:=zd z;have U:qEH m=0:=zj sa;obtain⟨row,h,aH⟩:=R.row;obtain⟨y,B⟩:=qEA (l:=row) (i:=(0:zt).toNat) sa;have V:cnt w m.Al (0:zt)=y:=by unfold cnt;rw[h,zAG,B];rfl
    have W:(w.counts[m.Al.toNat]?).getD []=row:=by rw[h];rfl
    rw[U]at A L;simp only[Bh,V,W]at A;obtain⟨av,aI,aw,aJ,Y,aa,ab,ac,ad,ae,af,⟨q,ag,C,ah,D⟩,_,ai⟩:=qKI au h B (q6T (y+1));cases Y;have aj:=R.Al;have ak:0<=m.Al/\m.Al<w.counts.length:=⟨aj.1,by have:=(ze.1 h).1;omega⟩;have al:0<=(0:zt)/\(0:zt)<(row.length:Z):=sa
    refine zq ?_;intros
    repeat'((first|refine⟨_,rfl,ak,?_⟩|refine⟨_,aa 0 _ rfl,?_⟩|refine⟨_,rfl,al,?_⟩|refine⟨_,ab 0 _ rfl,?_⟩|refine zG ?_ ?_|fail)<;>first|(refine zq ?_;intros)|rfl)
    refine⟨ac,ad,ae,af,⟨by first|exact q|(rw[<-q];rfl)|(rw[<-q,qoB]),ag,C,ah,D⟩,zq ?_⟩;intros;refine λE u=>?_;have am:=qbA (ai E u);have an:g<=E:=u.le aA (λQ=>by have:=g.wf _ Q;omega);have ao:=u.rd C D;rw[<-q]at ao;refine zq ?_;intros
    repeat'((first|refine⟨_,λap aK aq=>qQB ap (aq.cel (id:=6) rfl 10 rfl),?_⟩|refine zG ?_ ?_|fail)<;>first|(refine zq ?_;intros)|rfl)
    all_goals(conv=>whnf)
    all_goals(first|exact zAu _|(
    intro g2 H;refine⟨_,_,by rw[L]<;>rfl,by rw[A];exact qBA _ _ _ _ H am,?_⟩;rw[hM9]
    exact⟨_,_,_,rfl,{ax with pc:=show InR (21:zt) by decide},ay,qAA _ _ _ _ (GW.trans an H) az⟩))
   .have z:=zf z;refine zq ?_;intros;refine zG (λar=>?_) (λar=>?_)
    .have ar:=zd ar;have U:qEH m=0:=zj sa;obtain⟨row,h,aH⟩:=R.row;obtain⟨y,B⟩:=qEA (l:=row) (i:=(0:zt).toNat) sa;have V:cnt w m.Al (0:zt)=y:=by unfold cnt;rw[h,zAG,B];rfl
     have W:(w.counts[m.Al.toNat]?).getD []=row:=by rw[h];rfl
     rw[U]at A L;simp only[Bh,V,W]at A;obtain⟨av,aI,aw,aJ,Y,aa,ab,ac,ad,ae,af,⟨q,ag,C,ah,D⟩,_,ai⟩:=qKI au h B (q6T (y+1));cases Y;have aj:=R.Al;have ak:0<=m.Al/\m.Al<w.counts.length:=⟨aj.1,by have:=(ze.1 h).1;omega⟩;have al:0<=(0:zt)/\(0:zt)<(row.length:Z):=sa
     refine zq ?_;intros
     repeat'((first|refine⟨_,rfl,ak,?_⟩|refine⟨_,aa 0 _ rfl,?_⟩|refine⟨_,rfl,al,?_⟩|refine⟨_,ab 0 _ rfl,?_⟩|refine zG ?_ ?_|fail)<;>first|(refine zq ?_;intros)|rfl)
     refine⟨ac,ad,ae,af,⟨by first|exact q|(rw[<-q];rfl)|(rw[<-q,qoB]),ag,C,ah,D⟩,zq ?_⟩;intros;refine λE u=>?_;have am:=qbA (ai E u);have an:g<=E:=u.le aA (λQ=>by have:=g.wf _ Q;omega);have ao:=u.rd C D;rw[<-q]at ao;refine zq ?_;intros
     repeat'((first|refine⟨_,λap aK aq=>qQB ap (aq.cel (id:=6) rfl 10 rfl),?_⟩|refine zG ?_ ?_|fail)<;>first|(refine zq ?_;intros)|rfl)
     all_goals(conv=>whnf)
     all_goals(first|exact zAu _|(
     intro g2 H;refine⟨_,_,by rw[L]<;>rfl,by rw[A];exact qBA _ _ _ _ H am,?_⟩;rw[hM9]
     exact⟨_,_,_,rfl,{ax with pc:=show InR (21:zt) by decide},ay,qAA _ _ _ _ (GW.trans an H) az⟩))
    .have ar:=zf ar;have U:qEH m=m.answer.kind:=zk sa;obtain⟨row,h,aH⟩:=R.row;obtain⟨y,B⟩:=qEA (l:=row) (i:=(m.answer.kind).toNat) sa;have V:cnt w m.Al (m.answer.kind)=y:=by unfold cnt;rw[h,zAG,B];rfl
     have W:(w.counts[m.Al.toNat]?).getD []=row:=by rw[h];rfl
     rw[U]at A L;simp only[Bh,V,W]at A;obtain⟨av,aI,aw,aJ,Y,aa,ab,ac,ad,ae,af,⟨q,ag,C,ah,D⟩,_,ai⟩:=qKI au h B (q6T (y+1));cases Y;have aj:=R.Al;have ak:0<=m.Al/\m.Al<w.counts.length:=⟨aj.1,by have:=(ze.1 h).1;omega⟩;have al:0<=(m.answer.kind)/\(m.answer.kind)<(row.length:Z):=sa
     refine zq ?_;intros
     repeat'((first|refine⟨_,rfl,ak,?_⟩|refine⟨_,aa 0 _ rfl,?_⟩|refine⟨_,rfl,al,?_⟩|refine⟨_,ab 0 _ rfl,?_⟩|refine zG ?_ ?_|fail)<;>first|(refine zq ?_;intros)|rfl)
     refine⟨ac,ad,ae,af,⟨by first|exact q|(rw[<-q];rfl)|(rw[<-q,qoB]),ag,C,ah,D⟩,zq ?_⟩;intros;refine λE u=>?_;have am:=qbA (ai E u);have an:g<=E:=u.le aA (λQ=>by have:=g.wf _ Q;omega);have ao:=u.rd C D;rw[<-q]at ao;refine zq ?_;intros
     repeat'((first|refine⟨_,λap aK aq=>qQB ap (aq.cel (id:=6) rfl 10 rfl),?_⟩|refine zG ?_ ?_|fail)<;>first|(refine zq ?_;intros)|rfl)
     all_goals(conv=>whnf)
     all_goals(first|exact zAu _|(
     intro g2 H;refine⟨_,_,by rw[L]<;>rfl,by rw[A];exact qBA _ _ _ _ H am,?_⟩;rw[hM9]
     exact⟨_,_,_,rfl,{ax with pc:=show InR (21:zt) by decide},ay,qAA _ _ _ _ (GW.trans an H) az⟩))))
def qDa(g){cs Y}{w}{m:Ah}(am:rWo g cs w)(hM:qdA g Y m)(an:SnW w)(aa:BgW 1000000 w)(a4:SmO m)(ab:hGo w m)(A:m.pc=21):Ok Tryz.prog 147 [.agg ⟨cs⟩,.agg ⟨Y⟩] g (HaP w m):=by
 obtain⟨B,hM9,E⟩:=qmB ab sa;obtain⟨ac,ad,kE⟩:=HJ A;rw[ac]at B;rw[ad]at hM9;rw[kE]at E;clear ac ad kE;have hs:=ab.1;obtain⟨v,a5,a6,ae⟩:=id (Am.1 hs);obtain⟨ao,ap,aq,ar,au,av,aw,ax,ay,az,aA,aB,aC,aD,aE,aF,rfl,rfl,af,aG,⟨a7,a8,a9⟩,ba,bb,bc,bd,be,⟨bf,bh,bi,bj⟩,⟨aH,aI,bl,bm⟩,⟨c1,c2,bn,bo⟩,⟨d1,d2,bp,bq⟩,⟨e1,e2,br,bt⟩,P,Q,R⟩:=qhB am hM
 exact Ok.Aq hm qVD 5 Me.2 (args:=[.v (.agg ⟨wQ w ao ap aq ar au av aw ax ay az⟩),.v (.agg ⟨mQ m aA aB aC aD aE aF⟩)]) (by
  refine zq ?_;intros;refine dT sa (zq ?_);intros;refine dF sa (zq ?_);intros;refine dF sa (zq ?_);intros;refine dF sa (zq ?_);intros;refine .inl ⟨_,qUA _ af aG an aa,zq ?_⟩;intros;refine⟨λq=>absurd (hs.symm.trans (nb1 q)) sb,λ_=>zq ?_⟩;intros;refine⟨λ_=>?_,λ_=>?_⟩
  case' refine_1=>
   refine zq ?_;intros;refine⟨λq=>absurd q (by simp[A]),λ_=>zq ?_⟩;intros;refine⟨λq=>absurd q (by simp[A]),λ_=>zq ?_⟩;intros;refine⟨λq=>absurd q (by simp[A]),λ_=>?_⟩
  all_goals(
   refine zq ?_;intros;refine .inl ⟨_,qiB _,zq ?_⟩;intros;refine⟨21,⟨A,sb⟩,zq ?_⟩;intros;refine⟨λT=>(nomatch T),λ_=>zq ?_⟩;intros;refine .inr ((qSA _ af aa).mono λv g3 aJ aK=>?_);obtain⟨cs,bu,rfl,ag⟩:=aK;have aL:=qbA ag;obtain⟨bv,bw,bx,bz,bA,bB,bC,bD,bE,bF,rfl⟩:=qLA aL;obtain⟨row,H,bG⟩:=ae.row;obtain⟨y,ah⟩:=qEA (l:=row) (i:=(0:zt).toNat) sa;have aM:cnt w m.Al (0:zt)=y:=by unfold cnt;rw[H,zAG,ah];rfl
   have aN:(w.counts[m.Al.toNat]?).getD []=row:=by rw[H];rfl
   simp only[Bh,aM,aN]at B;obtain⟨aH,bH,aI,bI,aO,aP,aQ,aR,aT,aU,aW,⟨L,aX,ai,aY,aj⟩,_,aZ⟩:=qKI ag H ah (q6T (y+1));cases aO;have a0:=ae.Al;have a1:0<=m.Al/\m.Al<w.counts.length:=⟨a0.1,by have:=(ze.1 H).1;omega⟩;have a2:0<=(0:zt)/\(0:zt)<(row.length:Z):=sa
   refine zq ?_;intros;refine⟨kF,zq ?_⟩;intros
   repeat'((first|refine⟨_,rfl,a1,?_⟩|refine⟨_,aP 0 _ rfl,?_⟩|refine⟨_,rfl,a2,?_⟩|refine⟨_,aQ 0 _ rfl,?_⟩|refine zG ?_ ?_|fail)<;>first|(refine zq ?_;intros)|rfl)
   refine⟨aR,aT,aU,aW,⟨by first|exact L|(rw[<-L];rfl)|(rw[<-L,qoB]),aX,ai,aY,aj⟩,zq ?_⟩;intros;refine λak U=>?_;have V:=qbA (aZ ak U);have W:g<=ak:=U.le aJ (λT=>by have:=g.wf _ T;omega);have a3:=U.rd ai aj;rw[<-L]at a3;refine zq ?_;intros;refine zG (λz=>?_) (λz=>?_)
   .have z:=Cn z;rw[zk (.inl z)]at hM9;refine zq ?_;intros
    repeat'((first|refine⟨_,λC al D=>qQB C (D.cel (id:=6) rfl 10 rfl),?_⟩|refine zG ?_ ?_|fail)<;>first|(refine zq ?_;intros)|rfl)
    all_goals(conv=>whnf)
    all_goals(first|exact zAu _|(
    intro g2 h;refine⟨_,_,by rw[E]<;>rfl,by rw[B];exact qBA _ _ _ _ h V,?_⟩;rw[hM9]
    exact⟨_,_,_,rfl,{P with pc:=show InR (23:zt) by decide},Q,qAA _ _ _ _ (GW.trans W h) R⟩))
   .have z:=Ei z;refine zq ?_;intros;refine zG (λu=>?_) (λu=>?_)
    .have u:=zd u;rw[zk (.inr u)]at hM9;refine zq ?_;intros
     repeat'((first|refine⟨_,λC al D=>qQB C (D.cel (id:=6) rfl 10 rfl),?_⟩|refine zG ?_ ?_|fail)<;>first|(refine zq ?_;intros)|rfl)
     all_goals(conv=>whnf)
     all_goals(first|exact zAu _|(
     intro g2 h;refine⟨_,_,by rw[E]<;>rfl,by rw[B];exact qBA _ _ _ _ h V,?_⟩;rw[hM9]
     exact⟨_,_,_,rfl,{P with pc:=show InR (23:zt) by decide},Q,qAA _ _ _ _ (GW.trans W h) R⟩))
    .have u:=zf u;rw[zj sa]at hM9;refine zq ?_;intros
     repeat'((first|refine⟨_,λC al D=>qQB C (D.cel (id:=6) rfl 10 rfl),?_⟩|refine zG ?_ ?_|fail)<;>first|(refine zq ?_;intros)|rfl)
     all_goals(conv=>whnf)
     all_goals(first|exact zAu _|(
     intro g2 h;refine⟨_,_,by rw[E]<;>rfl,by rw[B];exact qBA _ _ _ _ h V,?_⟩;rw[hM9]
     exact⟨_,_,_,rfl,{P with pc:=show InR (22:zt) by decide},Q,qAA _ _ _ _ (GW.trans W h) R⟩))))
def qCa(g){cs C}{w}{m:Ah}(aa:rWo g cs w)(hM:qdA g C m)(ab:SnW w)(D:BgW 1000000 w)(aR:SmO m)(q:hGo w m)(E:m.pc=22):Ok Tryz.prog 147 [.agg ⟨cs⟩,.agg ⟨C⟩] g (HaP w m):=by
 obtain⟨u,hM9,A⟩:=qmB q sa;obtain⟨H,L,kE⟩:=HI E;rw[H]at u;rw[L]at hM9;rw[kE]at A;clear H L kE;have hs:=q.1;obtain⟨v,aT,aU,P⟩:=id (Am.1 hs);obtain⟨ac,ad,ae,af,ag,ah,ai,aj,ak,al,am,an,ao,ap,aq,ar,rfl,rfl,Q,au,⟨aW,aX,aY⟩,aZ,a0,a1,a2,a3,⟨a4,a5,a6,a7⟩,⟨a8,a9,ba,bb⟩,⟨c1,c2,bc,bd⟩,⟨d1,d2,be,bf⟩,⟨e1,e2,bh,bi⟩,av,aw,ax⟩:=qhB aa hM
 exact Ok.Aq hm qVD 5 Me.2 (args:=[.v (.agg ⟨wQ w ac ad ae af ag ah ai aj ak al⟩),.v (.agg ⟨mQ m am an ao ap aq ar⟩)]) (by
  refine zq ?_;intros;refine dT sa (zq ?_);intros;refine dF sa (zq ?_);intros;refine dF sa (zq ?_);intros;refine dF sa (zq ?_);intros;refine .inl ⟨_,qUA _ Q au ab D,zq ?_⟩;intros;refine⟨λh=>absurd (hs.symm.trans (nb1 h)) sb,λ_=>zq ?_⟩;intros;have bj:0<=m.listen:=by have:=q.2.2;omega
  refine zw ?_;refine dF sa (zq ?_);intros;refine zq ?_;intros;refine .inl ⟨_,qiB _,zq ?_⟩;intros;refine⟨22,⟨E,sb⟩,zq ?_⟩;intros;refine⟨λB=>(nomatch B),λ_=>zq ?_⟩;intros;refine .inr ((qSA _ Q D).mono λv g3 ay az=>?_);obtain⟨cs,bl,rfl,R⟩:=az;have T:=qbA R;obtain⟨bm,bn,bo,bp,bq,br,bt,bu,bv,bw,rfl⟩:=qLA T;obtain⟨x,h⟩:=qEA (l:=w.Aa) (i:=m.listen.toNat) (by have:=P.listen;omega);have aA:mL w m=x:=by unfold mL;rw[h];rfl
  rw[aA]at u A;have bx:=P.listen;obtain⟨bk,cap,aB,bz,aC,aD,aE,aF,⟨aG,aH,aI,aJ,aK⟩,_,aL⟩:=qmK R h (x':={x with Ae:=wI (x.Ae-1)}) (o:=2) (vs:=[.int .i64 (wI (x.Ae-1))]) se (by simp[zAY]) rfl (qDB _);cases aB;obtain⟨bA,aM⟩:=qKH (qzI T) h;refine zq ?_;intros;refine⟨kF,zq ?_⟩;intros;refine⟨_,rfl,⟨sa,sa⟩,zq ?_⟩;intros;refine⟨_,aM 2 _ rfl,zq ?_⟩;intros;refine⟨aC,aD,aE,aF,⟨aG,aH,aI,aJ,aK⟩,zq ?_⟩;intros;refine λU V=>?_;have W:=qbA (aL U V);have aN:g<=U:=V.le ay (λB=>by have:=g.wf _ B;omega);obtain⟨_,aO⟩:=qKH (qzI W) (i:=m.listen.toNat) (x:={x with Ae:=wI (x.Ae-1)}) (by simp only[zAE];simp;omega);refine zq ?_;intros;refine⟨_,aO 2 _ rfl,zq ?_⟩;intros;refine⟨_,λaP bB aQ=>qQB aP (aQ.2.2.1 10 _ rfl),zq ?_⟩;intros;intro g2 Y;refine⟨_,_,by rw[A];rfl,by rw[u];exact qBA _ _ _ _ Y W,?_⟩;rw[hM9]
  exact⟨_,_,_,rfl,{av with pc:=show InR (23:zt) by decide},aw,qAA _ _ _ _ (GW.trans aN Y) ax⟩)
def qBa(g){cs B}{w}{m:Ah}(W:rWo g cs w)(hM:qdA g B m)(C:SnW w)(A:BgW 1000000 w)(ax:SmO m)(D:hGo w m)(u:m.pc=23):Ok Tryz.prog 147 [.agg ⟨cs⟩,.agg ⟨B⟩] g (HaP w m):=by
 obtain⟨E,hM9,H⟩:=qmB D sa;obtain⟨L,P,kE⟩:=If u;rw[L]at E;rw[P]at hM9;rw[kE]at H;clear L P kE;have hs:=D.1;obtain⟨v,ay,az,aA⟩:=id (Am.1 hs);obtain⟨Y,aa,ab,ac,ad,ae,af,ag,ah,ai,aj,ak,al,am,an,ao,rfl,rfl,Q,R,⟨aB,aC,aD⟩,aE,aF,aG,aH,aI,⟨aJ,aK,aL,aM⟩,⟨aN,aO,aP,aQ⟩,⟨c1,c2,aR,aT⟩,⟨d1,d2,aU,aW⟩,⟨e1,e2,aX,aY⟩,ap,aq,ar⟩:=qhB W hM
 exact Ok.Aq hm qVD 5 Me.2 (args:=[.v (.agg ⟨wQ w Y aa ab ac ad ae af ag ah ai⟩),.v (.agg ⟨mQ m aj ak al am an ao⟩)]) (by
  refine zq ?_;intros;refine dT sa (zq ?_);intros;refine dF sa (zq ?_);intros;refine dF sa (zq ?_);intros;refine dF sa (zq ?_);intros;refine .inl ⟨_,qUA _ Q R C A,zq ?_⟩;intros;refine⟨λh=>absurd (hs.symm.trans (nb1 h)) sb,λ_=>zq ?_⟩;intros;refine⟨λ_=>?_,λ_=>?_⟩
  case' refine_1=>
   refine zq ?_;intros;refine⟨λh=>absurd h (by simp[u]),λ_=>zq ?_⟩;intros;refine⟨λh=>absurd h (by simp[u]),λ_=>zq ?_⟩;intros;refine⟨λh=>absurd h (by simp[u]),λ_=>?_⟩
  all_goals(
   refine zq ?_;intros;refine .inl ⟨_,qiB _,zq ?_⟩;intros;refine⟨23,⟨u,sb⟩,zq ?_⟩;intros;refine⟨λau=>(nomatch au),λ_=>zq ?_⟩;intros;refine .inr ((qSA _ Q A).mono λv g3 T q=>?_);obtain⟨cs,aZ,rfl,av⟩:=q;have U:=qbA av;obtain⟨a0,a1,a2,a3,a4,a5,a6,a7,a8,a9,rfl⟩:=qLA U;refine zq ?_;intros;refine⟨kF,zq ?_⟩;intros;refine .inr ((q8c _ U (qTA _ _ _ _ T R) C A).mono λba bb aw q=>?_);obtain⟨bc,rfl,q⟩:=q;obtain⟨_,_,_,_,_,_,_,_,_,_,rfl⟩:=qLA q;refine zq ?_;intros
   repeat'((first|refine zG ?_ ?_|fail)<;>first|(refine zq ?_;intros)|rfl)
   all_goals(conv=>whnf)
   all_goals(first|exact zAu _|(
   intro g2 V;refine⟨_,_,by rw[H]<;>rfl,by rw[E];exact qBA _ _ _ _ V q,?_⟩;rw[hM9]
   exact⟨_,_,_,rfl,{ap with},aq,qAA _ _ _ _ (GW.trans (GW.trans T aw) V) ar⟩))))



















def qva{m:Ah}(h:0<=m.pc/\m.pc<=23/\¬(12<m.pc/\m.pc<20))(q:¬m.pc<3):m.pc=3\/m.pc=4\/m.pc=5\/m.pc=6\/m.pc=7\/m.pc=8\/m.pc=9\/m.pc=10\/m.pc=11\/m.pc=12\/m.pc=20\/m.pc=21\/m.pc=22\/m.pc=23:=sa
def qfX(g){cs D}{w}{m:Ah}(u:rWo g cs w)(hM:qdA g D m)(A:SnW w)(B:BgW 1000000 w)(C:SmO m):Ok Tryz.prog 147 [.agg ⟨cs⟩,.agg ⟨D⟩] g (HaP w m):=by
 by_cases E:0<=m.pc/\m.pc<3
 .exact qbc g u hM A B E
 .by_cases q:hGo w m
  .rcases qva q.2.1 (by have:=q.2.1;omega)with h|h|h|h|h|h|h|h|h|h|h|h|h|h
   .exact qjc g u hM A B C q h
   .exact qic g u hM A B C q h
   .exact qhc g u hM A B C q h
   .exact qgc g u hM A B C q h
   .exact qfc g u hM A B C q h
   .exact qec g u hM A B C q h
   .exact qdc g u hM A B C q h
   .exact qHa g u hM A B C q h
   .exact qGa g u hM A B C q h
   .exact qFa g u hM A B C q h
   .exact qEa g u hM A B C q h
   .exact qDa g u hM A B C q h
   .exact qCa g u hM A B C q h
   .exact qBa g u hM A B C q h
  .exact qcc g u hM A B E q
def FiP(w:Wd)(m:Ah)(v:zg)(g':GW):Prop:=∃cs h,v=.tuple #[.agg ⟨cs⟩,.agg ⟨h⟩,.agg ⟨(fsE w m).cs⟩]/\rWo g' cs (fsW w m)/\qdA g' h (fsM w m)
def qsa{w}(_h:InU w):InR (AX w):=by
 unfold AX InR;omega
def qgH(g){cs q}{w}{m:Ah}{a c x}(u:rWo g cs w)(hM:qdA g q m)(B:0<=m.Ac/\m.Ac<w.Ab.length):OkV Tryz.prog 172 [.agg ⟨cs⟩,.agg ⟨q⟩,.int .i64 a,.int .i64 c,.int .i64 x] g (.agg ⟨(evV w m a c x).cs⟩):=by
 obtain⟨C,D,af,E,H,L,P,Q,R,T,rfl⟩:=qLA u;obtain⟨U,V,W,Y,aa,ab,rfl⟩:=q1B hM;obtain⟨v,h⟩:=qEA (l:=w.Ab) (i:=m.Ac.toNat) sa;have ac:mV w m=v:=by unfold mV;rw[h];rfl
 have A:=qZK u;obtain⟨ad,rfl⟩:=qVA A h;obtain⟨ag,ah,ai,aj,ak,al,am,an,ae,_,_,_⟩:=qzF A h;unfold evV;rw[ac]
 exact Ok.Aq hm noT 0 NN.2 (args:=[.v (.agg ⟨[.int .i64 w.Ai,.int .i64 w.current,.int .i64 w.AL,.slice C w.pins.length D,.slice (O ad) w.Ab.length E,.slice H w.Aa.length L,.slice P w.counts.length Q,.slice R w.An.length T]⟩),.v (.agg ⟨mQ m U V W Y aa ab⟩),.v (.int .i64 a),.v (.int .i64 c),.v (.int .i64 x)]) (by
  refine zq ?_;intros
  repeat'((first|refine⟨_,rfl,B,?_⟩|refine⟨_,ae 4 _ rfl,?_⟩|refine zG ?_ ?_|fail)<;>first|(refine zq ?_;intros)|rfl)
  all_goals(conv=>whnf)
  all_goals(first|exact zAu _|(intro g2 ao;rfl)))
def qsc(g){cs H}{w}{m:Ah}(ad:rWo g cs w)(hM:qdA g H m)(ae:SnW w)(L:BgW 1000000 w)(P:fGo w m)(A:m.pc=0):Ok Tryz.prog 148 [.agg ⟨cs⟩,.agg ⟨H⟩] g (FiP w m):=by
 obtain⟨Q,hM9,B⟩:=q9I P;obtain⟨R,T,kE⟩:=fa0 (w:=w) A;rw[R]at Q;rw[T]at hM9;rw[kE]at B;clear R T kE;have hs:=P.1;obtain⟨v,aN,U,h⟩:=id (Am.1 hs);obtain⟨af,ag,ah,ai,aj,ak,al,am,an,ao,ap,aq,ar,au,av,aw,rfl,rfl,C,V,⟨aO,aP,aQ⟩,aR,aT,aU,aW,aX,⟨aY,aZ,a0,a1⟩,⟨ax,ay,a2,a3⟩,⟨c1,c2,a4,a5⟩,⟨d1,d2,a6,a7⟩,⟨e1,e2,a8,a9⟩,W,az,aA⟩:=qhB ad hM
 exact Ok.Aq hm noT 0 Mg.2 (args:=[.v (.agg ⟨wQ w af ag ah ai aj ak al am an ao⟩),.v (.agg ⟨mQ m ap aq ar au av aw⟩)]) (by
  refine zq ?_;intros;refine dF sa (zq ?_);intros;refine dF sa (zq ?_);intros;refine .inl ⟨_,qUA _ C V ae L,zq ?_⟩;intros;refine⟨λq=>absurd (hs.symm.trans (nb1 q)) sb,λ_=>zq ?_⟩;intros;refine⟨λq=>absurd (Cn q) sa,λ_=>zq ?_⟩;intros;refine .inr ((qSA _ C L).mono λv g3 D aB=>?_);obtain⟨cs,ba,rfl,Y⟩:=aB;have E:=qbA Y;obtain⟨bb,bc,bd,be,bf,bh,bi,bj,bl,bm,rfl⟩:=qLA E;have aC:=W.word;have aD:=qBA _ _ _ _ D C;have hM3:=qTA _ _ _ _ D V;obtain⟨ax,bn,ay,bo,bp,bq,br,bt,bu,aE,aF,aG,bv,aH,_,bw⟩:=qQF Y h.ver.2 h.clu.2;cases aE;have u:=(q3H E h.ver.2 h.clu.2 h.Ak.2).1;obtain⟨aa,aI,aJ⟩:=h.idx;obtain⟨bx,bz,aK⟩:=h.at_;have aL:zAj.wrap (m.pc+1)=1:=by rw[A];rfl
  obtain⟨bA,bB,bC,bD,aM,ab,bE,bF⟩:=qxC aH h.Ak.2 (en':=U) (o:=0) (vs:=[.int .u64 U.head]) se (by simp[zAY]) (λn=>rfl) rfl ⟨u.1,u.2.1⟩;subst aM;rw[aK]at hM9 B;refine zq ?_;intros
  repeat'((first|refine⟨_,rfl,aa,zq ?_⟩|refine⟨_,aF 3 _ rfl,zq ?_⟩|refine⟨_,rfl,aI,zq ?_⟩|refine⟨_,aG 1 _ rfl,zq ?_⟩|refine⟨_,rfl,aJ,zq ?_⟩|refine .inl ⟨_,q4B _ aC,zq ?_⟩|refine .inl ⟨_,q4B _ u.1,zq ?_⟩|refine⟨_,ab 0 _ rfl,zq ?_⟩|refine .inl ⟨_,qgH _ aD hM3 aa,zq ?_⟩|rfl)<;>intros)
  refine⟨λ_=>zq ?_,λq=>absurd A (Ei q)⟩;intros
  repeat'((first|refine⟨_,ab 0 _ rfl,?_⟩|refine zG ?_ ?_|fail)<;>first|(refine zq ?_;intros)|rfl)
  all_goals(conv=>whnf)
  all_goals(first|exact zAu _|(
   intro g2 ac;refine⟨_,_,by rw[B]<;>rfl,by rw[Q];exact qBA _ _ _ _ ac E,?_⟩;rw[hM9,aL]
   exact⟨_,_,_,rfl,{W with pc:=show InR (1:zt) by decide,word:=u.1},az,qAA _ _ _ _ (GW.trans D ac) aA⟩)))
def qrc(g){cs H}{w}{m:Ah}(ah:rWo g cs w)(hM:qdA g H m)(ai:SnW w)(L:BgW 1000000 w)(P:fGo w m)(u:m.pc=1):Ok Tryz.prog 148 [.agg ⟨cs⟩,.agg ⟨H⟩] g (FiP w m):=by
 obtain⟨B,hM9,Q⟩:=q9I P;obtain⟨R,T,kE⟩:=fa1 (w:=w) u;rw[R]at B;rw[T]at hM9;rw[kE]at Q;clear R T kE;have hs:=P.1;obtain⟨v,bb,aj,h⟩:=id (Am.1 hs);obtain⟨ak,al,am,an,ao,ap,aq,ar,au,av,aw,ax,ay,az,aA,aB,rfl,rfl,C,U,⟨bc,bd,be⟩,bf,bh,bi,bj,bl,⟨bm,bn,bo,bp⟩,⟨aC,aD,bq,br⟩,⟨c1,c2,bt,bu⟩,⟨d1,d2,bv,bw⟩,⟨e1,e2,bx,bz⟩,V,aE,aF⟩:=qhB ah hM
 exact Ok.Aq hm noT 0 Mg.2 (args:=[.v (.agg ⟨wQ w ak al am an ao ap aq ar au av⟩),.v (.agg ⟨mQ m aw ax ay az aA aB⟩)]) (by
  refine zq ?_;intros;refine dF sa (zq ?_);intros;refine dF sa (zq ?_);intros;refine .inl ⟨_,qUA _ C U ai L,zq ?_⟩;intros;refine⟨λq=>absurd (hs.symm.trans (nb1 q)) sb,λ_=>zq ?_⟩;intros;refine⟨λq=>absurd (Cn q) sa,λ_=>zq ?_⟩;intros;refine .inr ((qSA _ C L).mono λv g3 D aG=>?_);obtain⟨cs,bA,rfl,W⟩:=aG;have Y:=qbA W;obtain⟨bB,bC,bD,bE,bF,bG,bH,bI,bJ,bK,rfl⟩:=qLA Y;have aa:=V.word;have aH:=qBA _ _ _ _ D C;have hM3:=qTA _ _ _ _ D U;obtain⟨aC,bL,aD,bM,bN,bO,bP,bQ,bR,aI,aJ,aK,bT,aL,_,aM⟩:=qQF W h.ver.2 h.clu.2;cases aI;have aN:=(q3H Y h.ver.2 h.clu.2 h.Ak.2).1;obtain⟨ab,aO,aP⟩:=h.idx;obtain⟨aQ,aR,aT⟩:=h.at_;have aU:zAj.wrap (m.pc+1)=2:=by rw[u];rfl
  have aW:=h.slot;obtain⟨y,aX⟩:=qEA (l:=aj.next) (i:=m.slot.toNat) sa;obtain⟨bU,bW,bX,bY,aY,ac,aZ⟩:=qET aL h.Ak.2 (s:=m.slot.toNat) aX (qsa aa);subst aY;obtain⟨a0,a1,a2,a3,⟨A,a4,ad,a5,ae⟩,_,a6⟩:=aM _ _ _ aZ;rw[aT,Cm,aQ,aR]at B;refine zq ?_;intros
  repeat'((first|refine⟨_,rfl,ab,zq ?_⟩|refine⟨_,aJ 3 _ rfl,zq ?_⟩|refine⟨_,rfl,aO,zq ?_⟩|refine⟨_,aK 1 _ rfl,zq ?_⟩|refine⟨_,rfl,aP,zq ?_⟩|refine .inl ⟨_,q4B _ aa,zq ?_⟩|refine .inl ⟨_,q4B _ aN.1,zq ?_⟩|refine⟨_,ac 0 _ rfl,zq ?_⟩|refine .inl ⟨_,qgH _ aH hM3 ab,zq ?_⟩|rfl)<;>intros)
  refine⟨λq=>absurd ((Cn q).symm.trans u) sb,λ_=>zq ?_⟩;intros;refine⟨λ_=>zq ?_,λq=>absurd u (Ei q)⟩;intros
  repeat'((first|refine⟨_,ac 1 _ rfl,zq ?_⟩|refine⟨_,rfl,aW,zq ?_⟩|rfl)<;>intros)
  refine⟨a0,a1,a2,a3,⟨by first|exact A|(rw[<-A];rfl)|(rw[<-A,qoB]),a4,ad,a5,ae⟩,zq ?_⟩;intros;refine λaf E=>?_;have a7:=qbA (a6 af E);have a8:g<=af:=E.le D (λa9=>by have:=g.wf _ a9;omega);have ba:=E.rd ad ae;rw[<-A]at ba;refine zq ?_;intros
  repeat'((first|refine zG ?_ ?_|fail)<;>first|(refine zq ?_;intros)|rfl)
  all_goals(conv=>whnf)
  all_goals(first|exact zAu _|(
   intro g2 ag;refine⟨_,_,by rw[Q]<;>rfl,by rw[B];exact qBA _ _ _ _ ag a7,?_⟩;rw[hM9,aU]
   exact⟨_,_,_,rfl,{V with pc:=show InR (2:zt) by decide},aE,qAA _ _ _ _ (GW.trans a8 ag) aF⟩)))
def qqc(g){cs ab}{w}{m:Ah}(ay:rWo g cs w)(hM:qdA g ab m)(az:SnW w)(ac:BgW 1000000 w)(ad:fGo w m)(u:m.pc=2):Ok Tryz.prog 148 [.agg ⟨cs⟩,.agg ⟨ab⟩] g (FiP w m):=by
 obtain⟨A,hM9,B⟩:=q9I ad;obtain⟨ae,af,kE⟩:=fa2 (w:=w) u;rw[ae]at A;rw[af]at hM9;rw[kE]at B;clear ae af kE;have hs:=ad.1;obtain⟨v,bh,C,q⟩:=id (Am.1 hs);obtain⟨aA,aB,aC,aD,aE,aF,aG,aH,aI,aJ,aK,aL,aM,aN,aO,aP,rfl,rfl,T,ag,⟨bi,bj,bl⟩,bm,bn,bo,bp,bq,⟨br,bt,bu,bv⟩,⟨aQ,aR,bw,bx⟩,⟨c1,c2,bz,bA⟩,⟨d1,d2,bB,bC⟩,⟨e1,e2,bD,bE⟩,U,ah,ai⟩:=qhB ay hM
 exact Ok.Aq hm noT 0 Mg.2 (args:=[.v (.agg ⟨wQ w aA aB aC aD aE aF aG aH aI aJ⟩),.v (.agg ⟨mQ m aK aL aM aN aO aP⟩)]) (by
  refine zq ?_;intros;refine dF sa (zq ?_);intros;refine dF sa (zq ?_);intros;refine .inl ⟨_,qUA _ T ag az ac,zq ?_⟩;intros;refine⟨λh=>absurd (hs.symm.trans (nb1 h)) sb,λ_=>zq ?_⟩;intros;refine⟨λh=>absurd (Cn h) sa,λ_=>zq ?_⟩;intros;refine .inr ((qSA _ T ac).mono λv g3 L aT=>?_);obtain⟨cs,bF,rfl,aj⟩:=aT;have V:=qbA aj;obtain⟨bG,bH,bI,bJ,bK,bL,bM,bN,bO,bP,rfl⟩:=qLA V;have W:=U.word;have ak:=qBA _ _ _ _ L T;have hM3:=qTA _ _ _ _ L ag;obtain⟨aQ,bQ,aR,bR,bT,bU,bW,bX,bY,aU,al,am,bZ,an,_,aW⟩:=qQF aj q.ver.2 q.clu.2;cases aU;have D:=(q3H V q.ver.2 q.clu.2 q.Ak.2).1;obtain⟨P,ao,ap⟩:=q.idx;obtain⟨aX,aY,aq⟩:=q.at_;have b0:=q.slot;obtain⟨y,b1⟩:=qEA (l:=C.next) (i:=m.slot.toNat) sa;have b2:=(qjB q.BH).2.2.1;have ar:-1<=m.slot/\m.slot<=2147483646:=sa
  rw[aq,Cm,aX,aY]at A;rw[aq]at hM9 B;by_cases Q:C.head=m.word
  .have aZ:zAj.wrap (m.pc+1)=3:=by rw[u];rfl
   rw[zk Q]at A hM9 B;obtain⟨a0,a1,a2,a3,Y,E,a4,au⟩:=qxC an q.Ak.2 (en':={C with head:=qxB m.word m.slot}) (o:=0) (vs:=[.int .u64 (qxB m.word m.slot)]) se (by simp[zAY]) (λn=>rfl) rfl ⟨qYQ ar,D.2.1⟩;subst Y;obtain⟨a5,a6,a7,a8,⟨R,a9,av,ba,aw⟩,_,bb⟩:=aW _ _ _ au;refine zq ?_;intros
   repeat'((first|refine⟨_,rfl,P,zq ?_⟩|refine⟨_,al 3 _ rfl,zq ?_⟩|refine⟨_,rfl,ao,zq ?_⟩|refine⟨_,am 1 _ rfl,zq ?_⟩|refine⟨_,rfl,ap,zq ?_⟩|refine .inl ⟨_,q4B _ W,zq ?_⟩|refine .inl ⟨_,q4B _ D.1,zq ?_⟩|refine⟨_,E 0 _ rfl,zq ?_⟩|refine .inl ⟨_,qgH _ ak hM3 P,zq ?_⟩|rfl)<;>intros)
   refine⟨λh=>absurd ((Cn h).symm.trans u) sb,λ_=>zq ?_⟩;intros;refine⟨λh=>absurd ((Cn h).symm.trans u) sb,λ_=>zq ?_⟩;intros;refine⟨λ_=>zq ?_,λh=>absurd u (Ei h)⟩;intros
   repeat'((first|refine⟨_,E 0 _ rfl,zq ?_⟩|rfl)<;>intros)
   refine⟨λh=>absurd Q (FB h),λ_=>zq ?_⟩;intros
   repeat'((first|refine .inl ⟨_,qpR _ W ar,zq ?_⟩|rfl)<;>intros)
   refine⟨a5,a6,a7,a8,⟨by first|exact R|(rw[<-R];rfl)|(rw[<-R,qoB]),a9,av,ba,aw⟩,zq ?_⟩;intros;refine λax aa=>?_;have bc:=qbA (bb ax aa);have bd:g<=ax:=aa.le L (λbe=>by have:=g.wf _ be;omega);have bf:=aa.rd av aw;rw[<-R]at bf;refine zq ?_;intros
   repeat'((first|refine zG ?_ ?_|fail)<;>first|(refine zq ?_;intros)|rfl)
   all_goals(conv=>whnf)
   all_goals(first|exact zAu _|(
    intro g2 H;refine⟨_,_,by rw[B]<;>rfl,by rw[A];exact qBA _ _ _ _ H bc,?_⟩;rw[hM9,aZ]
    exact⟨_,_,_,rfl,{U with pc:=show InR (3:zt) by decide},ah,qAA _ _ _ _ (GW.trans bd H) ai⟩))
  .rw[zj Q]at A hM9 B;obtain⟨a0,a1,a2,a3,Y,E,a4,au⟩:=qxC an q.Ak.2 (en':=C) (o:=0) (vs:=[.int .u64 C.head]) se (by simp[zAY]) (λn=>rfl) rfl ⟨D.1,D.2.1⟩;subst Y;refine zq ?_;intros
   repeat'((first|refine⟨_,rfl,P,zq ?_⟩|refine⟨_,al 3 _ rfl,zq ?_⟩|refine⟨_,rfl,ao,zq ?_⟩|refine⟨_,am 1 _ rfl,zq ?_⟩|refine⟨_,rfl,ap,zq ?_⟩|refine .inl ⟨_,q4B _ W,zq ?_⟩|refine .inl ⟨_,q4B _ D.1,zq ?_⟩|refine⟨_,E 0 _ rfl,zq ?_⟩|refine .inl ⟨_,qgH _ ak hM3 P,zq ?_⟩|rfl)<;>intros)
   refine⟨λh=>absurd ((Cn h).symm.trans u) sb,λ_=>zq ?_⟩;intros;refine⟨λh=>absurd ((Cn h).symm.trans u) sb,λ_=>zq ?_⟩;intros;refine⟨λ_=>zq ?_,λh=>absurd u (Ei h)⟩;intros
   repeat'((first|refine⟨_,E 0 _ rfl,zq ?_⟩|rfl)<;>intros)
   refine⟨λ_=>zq ?_,λh=>absurd (F1 h) Q⟩;intros
   repeat'((first|refine zG ?_ ?_|fail)<;>first|(refine zq ?_;intros)|rfl)
   all_goals(conv=>whnf)
   all_goals(first|exact zAu _|(
    intro g2 H;refine⟨_,_,by rw[B]<;>rfl,by rw[A];exact qBA _ _ _ _ H V,?_⟩;rw[hM9]
    exact⟨_,_,_,rfl,{U with pc:=show InR (0:zt) by decide},ah,qAA _ _ _ _ (GW.trans L H) ai⟩)))
def qpc(g){cs Q}{w}{m:Ah}(aj:rWo g cs w)(hM:qdA g Q m)(ak:SnW w)(R:BgW 1000000 w)(T:fGo w m)(u:m.pc=3):Ok Tryz.prog 148 [.agg ⟨cs⟩,.agg ⟨Q⟩] g (FiP w m):=by
 obtain⟨A,hM9,D⟩:=q9I T;obtain⟨U,V,kE⟩:=fa3 (w:=w) u;rw[U]at A;rw[V]at hM9;rw[kE]at D;clear U V kE;have hs:=T.1;obtain⟨v,bb,B,q⟩:=id (Am.1 hs);obtain⟨al,am,an,ao,ap,aq,ar,au,av,aw,ax,ay,az,aA,aB,aC,rfl,rfl,E,W,⟨bc,bd,be⟩,bf,bh,bi,bj,bl,⟨bm,bn,bo,bp⟩,⟨aD,aE,bq,br⟩,⟨c1,c2,bt,bu⟩,⟨d1,d2,bv,bw⟩,⟨e1,e2,bx,bz⟩,Y,aF,aG⟩:=qhB aj hM
 exact Ok.Aq hm noT 0 Mg.2 (args:=[.v (.agg ⟨wQ w al am an ao ap aq ar au av aw⟩),.v (.agg ⟨mQ m ax ay az aA aB aC⟩)]) (by
  refine zq ?_;intros;refine dF sa (zq ?_);intros;refine dF sa (zq ?_);intros;refine .inl ⟨_,qUA _ E W ak R,zq ?_⟩;intros;refine⟨λh=>absurd (hs.symm.trans (nb1 h)) sb,λ_=>zq ?_⟩;intros;refine⟨λh=>absurd (Cn h) sa,λ_=>zq ?_⟩;intros;refine .inr ((qSA _ E R).mono λv g3 H aH=>?_);obtain⟨cs,bA,rfl,aa⟩:=aH;have ab:=qbA aa;obtain⟨bB,bC,bD,bE,bF,bG,bH,bI,bJ,bK,rfl⟩:=qLA ab;have aI:=Y.word;have aJ:=qBA _ _ _ _ H E;have hM3:=qTA _ _ _ _ H W;obtain⟨aD,bL,aE,bM,bN,bO,bP,bQ,bR,aK,aL,aM,bT,aN,_,aO⟩:=qQF aa q.ver.2 q.clu.2;cases aK;have ac:=(q3H ab q.ver.2 q.clu.2 q.Ak.2).1;obtain⟨ad,aP,aQ⟩:=q.idx;obtain⟨aR,aT,aU⟩:=q.at_;have aW:zAj.wrap (m.pc+1)=4:=by rw[u];rfl
  obtain⟨aX,bU,bW,bX,aY,ae,bY,aZ⟩:=qxC aN q.Ak.2 (en':={B with Ae:=wI (B.Ae-1)}) (o:=2) (vs:=[.int .i64 (wI (B.Ae-1))]) se (by simp[zAY]) (λn=>rfl) rfl ⟨ac.1,qDB _⟩;subst aY;obtain⟨a0,a1,a2,a3,⟨C,a4,af,a5,ag⟩,_,a6⟩:=aO _ _ _ aZ;rw[aU]at A D;rw[Cm,aR,aT]at A;refine zq ?_;intros
  repeat'((first|refine⟨_,rfl,ad,zq ?_⟩|refine⟨_,aL 3 _ rfl,zq ?_⟩|refine⟨_,rfl,aP,zq ?_⟩|refine⟨_,aM 1 _ rfl,zq ?_⟩|refine⟨_,rfl,aQ,zq ?_⟩|refine .inl ⟨_,q4B _ aI,zq ?_⟩|refine .inl ⟨_,q4B _ ac.1,zq ?_⟩|refine⟨_,ae 0 _ rfl,zq ?_⟩|refine .inl ⟨_,qgH _ aJ hM3 ad,zq ?_⟩|rfl)<;>intros)
  refine⟨λh=>absurd ((Cn h).symm.trans u) sb,λ_=>zq ?_⟩;intros;refine⟨λh=>absurd ((Cn h).symm.trans u) sb,λ_=>zq ?_⟩;intros;refine⟨λh=>absurd ((Cn h).symm.trans u) sb,λ_=>zq ?_⟩;intros;refine⟨λ_=>zq ?_,λh=>absurd u (Ei h)⟩;intros
  repeat'((first|refine⟨_,ae 2 _ rfl,zq ?_⟩|rfl)<;>intros)
  refine⟨a0,a1,a2,a3,⟨by first|exact C|(rw[<-C];rfl)|(rw[<-C,qoB]),a4,af,a5,ag⟩,zq ?_⟩;intros;refine λL P=>?_;have a7:=qbA (a6 L P);have a8:g<=L:=P.le H (λa9=>by have:=g.wf _ a9;omega);have ah:=P.rd af ag;rw[<-C]at ah;have ba:Rc L (((⟨aX,0,zc⟩:zAI).add (m.Ak.toNat*3)).add 2) (.int .i64 (wI (B.Ae-1))):=ah 0 _ rfl;refine zq ?_;intros
  repeat'((first|refine⟨_,ba,?_⟩|refine zG ?_ ?_|fail)<;>first|(refine zq ?_;intros)|rfl)
  all_goals(conv=>whnf)
  all_goals(first|exact zAu _|(
   intro g2 ai;refine⟨_,_,by rw[D]<;>rfl,by rw[A];exact qBA _ _ _ _ ai a7,?_⟩;rw[hM9,aW]
   exact⟨_,_,_,rfl,{Y with pc:=show InR (4:zt) by decide},aF,qAA _ _ _ _ (GW.trans a8 ai) aG⟩)))
def qoc(g){cs R}{w}{m:Ah}(af:rWo g cs w)(hM:qdA g R m)(ag:SnW w)(T:BgW 1000000 w)(B:fGo w m)(u:m.pc=4):Ok Tryz.prog 148 [.agg ⟨cs⟩,.agg ⟨R⟩] g (FiP w m):=by
 obtain⟨C,hM9,D⟩:=q9I B;obtain⟨U,V,kE⟩:=fa4 (w:=w) u;rw[U]at C;rw[V]at hM9;rw[kE]at D;clear U V kE;have hs:=B.1;obtain⟨v,a6,W,q⟩:=id (Am.1 hs);obtain⟨ah,ai,aj,ak,al,am,an,ao,ap,aq,ar,au,av,aw,ax,ay,rfl,rfl,E,Y,⟨a7,a8,a9⟩,ba,bb,bc,bd,be,⟨bf,bh,bi,bj⟩,⟨az,aA,bl,bm⟩,⟨c1,c2,bn,bo⟩,⟨d1,d2,bp,bq⟩,⟨e1,e2,br,bt⟩,A,aB,aC⟩:=qhB af hM
 exact Ok.Aq hm noT 0 Mg.2 (args:=[.v (.agg ⟨wQ w ah ai aj ak al am an ao ap aq⟩),.v (.agg ⟨mQ m ar au av aw ax ay⟩)]) (by
  refine zq ?_;intros;refine dF sa (zq ?_);intros;refine dF sa (zq ?_);intros;refine .inl ⟨_,qUA _ E Y ag T,zq ?_⟩;intros;refine⟨λh=>absurd (hs.symm.trans (nb1 h)) sb,λ_=>zq ?_⟩;intros;have bu:0<=m.listen:=by have:=B.2.2;omega
  refine zw ?_;refine⟨λ_=>zq ?_,λh=>absurd u (Ei h)⟩;intros;refine dF sa (zq ?_);intros;refine .inr ((qSA _ E T).mono λv g3 H aD=>?_);obtain⟨cs,bv,rfl,L⟩:=aD;have P:=qbA L;obtain⟨bw,bx,bz,bA,bB,bC,bD,bE,bF,bG,rfl⟩:=qLA P;have aE:=A.word;have aF:=qBA _ _ _ _ H E;have hM3:=qTA _ _ _ _ H Y;obtain⟨az,bH,aA,bI,bJ,bK,bL,bM,bN,aG,aH,aI,bO,aJ,_,bP⟩:=qQF L q.ver.2 q.clu.2;cases aG;have Q:=(q3H P q.ver.2 q.clu.2 q.Ak.2).1;obtain⟨aa,aK,aL⟩:=q.idx;obtain⟨bQ,bR,bT⟩:=q.at_;obtain⟨bU,bW,bX,bY,aM,aN,bZ,b0⟩:=qxC aJ q.Ak.2 (en':=W) (o:=0) (vs:=[.int .u64 W.head]) se (by simp[zAY]) (λn=>rfl) rfl ⟨Q.1,Q.2.1⟩;subst aM;obtain⟨x,h⟩:=qEA (l:=w.Aa) (i:=m.listen.toNat) (by have:=q.listen;omega);have aO:mL w m=x:=by unfold mL;rw[h];rfl
  rw[aO]at C D;have b1:=q.listen;obtain⟨bk,cap,aP,b2,aQ,aR,aT,aU,⟨aW,aX,aY,aZ,a0⟩,_,a1⟩:=qmK L h (x':={x with Ae:=wI (x.Ae-1)}) (o:=2) (vs:=[.int .i64 (wI (x.Ae-1))]) se (by simp[zAY]) rfl (qDB _);cases aP;obtain⟨b3,a2⟩:=qKH (qzI P) h;refine zq ?_;intros
  repeat'((first|refine⟨_,rfl,aa,zq ?_⟩|refine⟨_,aH 3 _ rfl,zq ?_⟩|refine⟨_,rfl,aK,zq ?_⟩|refine⟨_,aI 1 _ rfl,zq ?_⟩|refine⟨_,rfl,aL,zq ?_⟩|refine .inl ⟨_,q4B _ aE,zq ?_⟩|refine .inl ⟨_,q4B _ Q.1,zq ?_⟩|refine⟨_,aN 0 _ rfl,zq ?_⟩|refine .inl ⟨_,qgH _ aF hM3 aa,zq ?_⟩|rfl)<;>intros)
  refine⟨λh=>absurd ((Cn h).symm.trans u) sb,λ_=>zq ?_⟩;intros;refine⟨λh=>absurd ((Cn h).symm.trans u) sb,λ_=>zq ?_⟩;intros;refine⟨λh=>absurd ((Cn h).symm.trans u) sb,λ_=>zq ?_⟩;intros;refine⟨λh=>absurd ((Cn h).symm.trans u) sb,λ_=>zq ?_⟩;intros;refine⟨λ_=>zq ?_,λh=>absurd u (Ei h)⟩;intros
  repeat'((first|refine⟨_,rfl,⟨sa,sa⟩,zq ?_⟩|refine⟨_,a2 2 _ rfl,zq ?_⟩|rfl)<;>intros)
  refine⟨aQ,aR,aT,aU,⟨aW,aX,aY,aZ,a0⟩,zq ?_⟩;intros;refine λab ac=>?_;have ad:=qbA (a1 ab ac);have a3:g<=ab:=ac.le H (λa4=>by have:=g.wf _ a4;omega);obtain⟨_,a5⟩:=qKH (qzI ad) (i:=m.listen.toNat) (x:={x with Ae:=wI (x.Ae-1)}) (by simp only[zAE];simp;omega);refine zq ?_;intros
  repeat'((first|refine⟨_,a5 2 _ rfl,?_⟩|refine zG ?_ ?_|fail)<;>first|(refine zq ?_;intros)|rfl)
  all_goals(conv=>whnf)
  all_goals(first|exact zAu _|(
   intro g2 ae;refine⟨_,_,by rw[D]<;>rfl,by rw[C];exact qBA _ _ _ _ ae ad,?_⟩;rw[hM9]
   exact⟨_,_,_,rfl,{A with answer:=⟨(by decide:InR 6),A.Ac,A.Af,A.Ak,A.slot,A.listen,z0,qiG⟩},aB,qAA _ _ _ _ (GW.trans a3 ae) aC⟩)))
def qnc(g){cs E}{w}{m:Ah}(ac:rWo g cs w)(hM:qdA g E m)(ad:SnW w)(H:BgW 1000000 w)(L:fGo w m)(u:m.pc=9):Ok Tryz.prog 148 [.agg ⟨cs⟩,.agg ⟨E⟩] g (FiP w m):=by
 obtain⟨P,hM9,Q⟩:=q9I L;obtain⟨R,T,kE⟩:=fa9 (w:=w) u;rw[R]at P;rw[T]at hM9;rw[kE]at Q;clear R T kE;have hs:=L.1;obtain⟨v,aL,U,q⟩:=id (Am.1 hs);obtain⟨ae,af,ag,ah,ai,aj,ak,al,am,an,ao,ap,aq,ar,au,av,rfl,rfl,A,V,⟨aM,aN,aO⟩,aP,aQ,aR,aT,aU,⟨aW,aX,aY,aZ⟩,⟨aw,ax,a0,a1⟩,⟨c1,c2,a2,a3⟩,⟨d1,d2,a4,a5⟩,⟨e1,e2,a6,a7⟩,W,ay,az⟩:=qhB ac hM
 exact Ok.Aq hm noT 0 Mg.2 (args:=[.v (.agg ⟨wQ w ae af ag ah ai aj ak al am an⟩),.v (.agg ⟨mQ m ao ap aq ar au av⟩)]) (by
  refine zq ?_;intros;refine dF sa (zq ?_);intros;refine dT sa (zq ?_);intros;refine⟨λh=>absurd u (FB h),λ_=>zq ?_⟩;intros;refine .inl ⟨_,qUA _ A V ad H,zq ?_⟩;intros;refine⟨λh=>absurd (hs.symm.trans (nb1 h)) sb,λ_=>zq ?_⟩;intros;refine⟨λh=>absurd (Cn h) sa,λ_=>zq ?_⟩;intros;refine .inr ((qSA _ A H).mono λv g3 B aA=>?_);obtain⟨cs,a8,rfl,Y⟩:=aA;have C:=qbA Y;obtain⟨a9,ba,bb,bc,bd,be,bf,bh,bi,bj,rfl⟩:=qLA C;have aB:=W.word;have aC:=qBA _ _ _ _ B A;have hM3:=qTA _ _ _ _ B V;obtain⟨aw,bl,ax,bm,bn,bo,bp,bq,br,aD,aE,aF,bt,aG,_,bu⟩:=qQF Y q.ver.2 q.clu.2;cases aD;have D:=(q3H C q.ver.2 q.clu.2 q.Ak.2).1;obtain⟨aa,aH,aI⟩:=q.idx;obtain⟨bv,bw,bx⟩:=q.at_;obtain⟨bz,bA,bB,bC,aJ,aK,bD,bE⟩:=qxC aG q.Ak.2 (en':=U) (o:=0) (vs:=[.int .u64 U.head]) se (by simp[zAY]) (λn=>rfl) rfl ⟨D.1,D.2.1⟩;subst aJ;refine zq ?_;intros
  repeat'((first|refine⟨_,rfl,aa,zq ?_⟩|refine⟨_,aE 3 _ rfl,zq ?_⟩|refine⟨_,rfl,aH,zq ?_⟩|refine⟨_,aF 1 _ rfl,zq ?_⟩|refine⟨_,rfl,aI,zq ?_⟩|refine .inl ⟨_,q4B _ aB,zq ?_⟩|refine .inl ⟨_,q4B _ D.1,zq ?_⟩|refine⟨_,aK 0 _ rfl,zq ?_⟩|refine .inl ⟨_,qgH _ aC hM3 aa,zq ?_⟩|rfl)<;>intros)
  refine⟨λh=>absurd ((Cn h).symm.trans u) sb,λ_=>zq ?_⟩;intros;refine⟨λh=>absurd ((Cn h).symm.trans u) sb,λ_=>zq ?_⟩;intros;refine⟨λh=>absurd ((Cn h).symm.trans u) sb,λ_=>zq ?_⟩;intros;refine⟨λh=>absurd ((Cn h).symm.trans u) sb,λ_=>zq ?_⟩;intros;refine⟨λh=>absurd ((Cn h).symm.trans u) sb,λ_=>zq ?_⟩;intros
  repeat'((first|refine zG ?_ ?_|fail)<;>first|(refine zq ?_;intros)|rfl)
  all_goals(conv=>whnf)
  all_goals(first|exact zAu _|(
   intro g2 ab;refine⟨_,_,by rw[Q]<;>rfl,by rw[P];exact qBA _ _ _ _ ab C,?_⟩;rw[hM9]
   exact⟨_,_,_,rfl,{W with answer:=⟨(by decide:InR 7),z0,z0,z0,z0,z0,z0,qiG⟩},ay,qAA _ _ _ _ (GW.trans B ab) az⟩)))
def qmc(g){cs C}{w}{m:Ah}(ak:rWo g cs w)(hM:qdA g C m)(al:SnW w)(am:BgW 1000000 w)(u:¬fGo w m):Ok Tryz.prog 148 [.agg ⟨cs⟩,.agg ⟨C⟩] g (FiP w m):=by
 obtain⟨D,E,H,L,P,Q,R,T,U,V,W,Y,aa,ab,ac,ad,rfl,rfl,ae,af,⟨aq,ar,au⟩,av,aw,ax,ay,az,⟨aA,aB,aC,aD⟩,⟨aE,aF,aG,aH⟩,⟨c1,c2,aI,aJ⟩,⟨d1,d2,aK,aL⟩,⟨e1,e2,aM,aN⟩,aO,aP,aQ⟩:=qhB ak hM
 exact Ok.Aq hm noT 0 Mg.2 (args:=[.v (.agg ⟨wQ w D E H L P Q R T U V⟩),.v (.agg ⟨mQ m W Y aa ab ac ad⟩)]) (by
  have fin:∀g2,g<=g2->FiP w m (.tuple #[.agg ⟨wQ w D E H L P Q R T U V⟩,.agg ⟨mQ m W Y aa ab ac ad⟩,.agg ⟨ev0.cs⟩]) g2:=by
   intro g2 ag;obtain⟨an,ao,ap⟩:=q1a u;exact⟨_,_,by rw[ap]<;>rfl,by rw[an];exact qBA _ _ _ _ ag ae,by rw[ao];exact qTA _ _ _ _ ag af⟩
  refine zq ?_;intros;refine zG (λz1=>?_) (λz1=>?_)
  .refine zq ?_;intros
   repeat'((first|refine zG ?_ ?_|fail)<;>first|(refine zq ?_;intros)|rfl)
   all_goals(conv=>whnf)
   all_goals(first|exact zAu _|exact fin)
  have z1:=zf z1;refine zq ?_;intros;refine zG (λh=>?_) (λh=>?_)
  case' refine_1=>
   have h:=zd h;refine zq ?_;intros;refine zG (λah=>?_) (λah=>?_)
   .refine zq ?_;intros
    repeat'((first|refine zG ?_ ?_|fail)<;>first|(refine zq ?_;intros)|rfl)
    all_goals(conv=>whnf)
    all_goals(first|exact zAu _|exact fin)
   have A:(0<=m.pc/\m.pc<=4)\/m.pc=9:=.inr (F1 ah)
  case' refine_2=>have A:(0<=m.pc/\m.pc<=4)\/m.pc=9:=.inl (by have:=zf h;omega)
  all_goals(
   refine zq ?_;intros;refine .inl ⟨_,qUA _ ae af al am,zq ?_⟩;intros;refine zG (λai=>?_) (λai=>?_)
   .refine zq ?_;intros
    repeat'((first|refine zG ?_ ?_|fail)<;>first|(refine zq ?_;intros)|rfl)
    all_goals(conv=>whnf)
    all_goals(first|exact zAu _|exact fin)
   have hs:=nb0 ai;refine zq ?_;intros;refine zG (λq=>?_) (λq=>?_)
   .have q:=Cn q;refine zq ?_;intros;refine zG (λaj=>?_) (λaj=>?_)
    .refine zq ?_;intros
     repeat'((first|refine zG ?_ ?_|fail)<;>first|(refine zq ?_;intros)|rfl)
     all_goals(conv=>whnf)
     all_goals(first|exact zAu _|exact fin)
    .exact absurd ⟨hs,A,λB=>absurd B.2 (by have:=zf aj;omega)⟩ u
   .exact absurd ⟨hs,A,λB=>absurd B.1 (Ei q)⟩ u))
def qgX(g){cs C}{w}{m:Ah}(u:rWo g cs w)(hM:qdA g C m)(A:SnW w)(B:BgW 1000000 w):Ok Tryz.prog 148 [.agg ⟨cs⟩,.agg ⟨C⟩] g (FiP w m):=by
 by_cases q:fGo w m
 .rcases(show m.pc=0\/m.pc=1\/m.pc=2\/m.pc=3\/m.pc=4\/m.pc=9 by have:=q.2.1;omega)with h|h|h|h|h|h
  .exact qsc g u hM A B q h
  .exact qrc g u hM A B q h
  .exact qqc g u hM A B q h
  .exact qpc g u hM A B q h
  .exact qoc g u hM A B q h
  .exact qnc g u hM A B q h
 .exact qmc g u hM A B q
def tLa:F (Z×FnI):=[(93,Au.1),(134,Ax.1),(223,Fc.1)]
def qrb:q6B Tryz.prog tLa:=by
 intro x h;simp only[tLa,zs,zC,zAt]at h;rcases h with rfl|rfl|rfl
 .exact⟨_,_,Au.2⟩
 .exact⟨_,_,Ax.2⟩
 .exact⟨_,_,Fc.2⟩
def q9Z(g){cs P}{w}{m:Ah}(A:rWo g cs w)(hM:qdA g P m):OkV Tryz.prog 174 [.agg ⟨cs⟩,.agg ⟨P⟩] g (.bool (qSN w m)):=by
 obtain⟨a,b,c,d,e,rfl,⟨ar,au,av⟩,Q,R,T,U,V⟩:=A;obtain⟨W,Y,rfl,aw,ax,ay,az⟩:=id Q;obtain⟨aa,ab,rfl,aA,aB,aC,aD⟩:=id R;obtain⟨ac,ad,rfl,c1,c2,aE,aF⟩:=id T;obtain⟨ae,af,rfl,d1,d2,aG,aH⟩:=id U;obtain⟨ag,ah,rfl,e1,e2,aI,ai⟩:=id V;obtain⟨aJ,aK,aL,rfl,aM,_,⟨_,_,_,h,⟨aj,ak,rfl,_⟩,⟨al,am,rfl,_⟩,⟨an,ao,rfl,_⟩⟩⟩:=hM;cases h
 exact Ok.Aq hm qrb 4 NS.2 (args:=[.v (.agg ⟨wQ w W Y aa ab ac ad ae af ag ah⟩),.v (.agg ⟨mQ m aj ak al am an ao⟩)]) (by
  refine zq ?_;intros;refine⟨Z,λk=>[.v (.int .i64 k)],λk=>⟨g,_,_,_⟩,λk=>k<=w.An.length/\(w.An.take k).any (λr=>r.Ac==m.Ac)=zb,λk=>w.An.length-k,qfA 0 rfl ⟨zJ _,rfl⟩ rfl,?_⟩;rintro k ⟨aN,B⟩;refine zq ?_;intros;refine⟨λC=>?_,λC=>?_⟩
  .have q:k<w.An.length:=by have:=zd C;omega
   obtain⟨x,D⟩:=qEA q;obtain⟨a,rfl,aO,aP,⟨rfl,aQ⟩,ap⟩:=ai k x D;refine zq ?_;intros;refine⟨a,rfl,⟨sa,sa⟩,zw ?_⟩;refine⟨_,⟨rfl,ap⟩,zq ?_⟩;intros;refine⟨kF,zq ?_⟩;intros;refine⟨λh=>?_,λh=>?_⟩
   .have E:qSN w m=I:=by
     unfold qSN;rw[zBY.2 ⟨x,zh D,by simpa using h⟩];rfl
    rw[E];refine zq ?_;intros;refine dT sa (zq ?_);intros;intro g2 H;rfl
   .refine zq ?_;intros;refine λaR w A=>⟨k+1,zI (λz=>[zK .i64 z]) (wr1 q e1 e2).symm,⟨q,qVS B D (by simpa using h)⟩,dec q,?_⟩;exact A.fit sc
  have aq:k=w.An.length:=by have:=zf C;omega
  rw[aq,zAX]at B;have E:qSN w m=((m.Ac==w.current)||decide (m.Ai<0)||decide (w.Ai<m.Ai)):=by unfold qSN;rw[B];simp
  rw[E];refine zq ?_;intros;refine dF sa (zq ?_);intros;refine⟨λu=>?_,λu=>?_⟩
  .refine zq ?_;intros;intro g2 H;rw[u];rfl
  refine zq ?_;intros;refine⟨λL=>?_,λL=>?_⟩
  .refine zq ?_;intros;intro g2 H;rw[u,L];rfl
  refine zq ?_;intros;intro g2 H
  rw[u,L];rfl)
def SwP(w:Wd)(m:Ah)(v:zg)(g':GW):Prop:=∃cs h,v=.tuple #[.agg ⟨cs⟩,.agg ⟨h⟩,.agg ⟨(swE w m).cs⟩]/\rWo g' cs (swW w m)/\qdA g' h (swM w m)
def tSw:F (Z×FnI):=[(176,Fe.1),(177,El.1)]
def qib:q6B Tryz.prog tSw:=by
 intro x h;simp only[tSw,zs,zC,zAt]at h;rcases h with rfl|rfl
 .exact⟨_,_,Fe.2⟩
 .exact⟨_,_,El.2⟩
def q4U(g){h}{t a c v}(q:Rc g ⟨h,10,zc⟩ (.int .i64 t)):OkV Tryz.prog 177 [.pointer (O ⟨h,0,zc⟩),.int .i64 a,.int .i64 c,.int .i64 v] g (.agg ⟨(⟨t,0,a,c,-1,zb,v,zb,zb,zb,BY⟩:Ev).cs⟩):=
 Ok.Aq hm noT 0 El.2 (args:=[.v (.pointer (O ⟨h,0,zc⟩)),.v (.int .i64 a),.v (.int .i64 c),.v (.int .i64 v)]) (by
  refine zq ?_;intros
  repeat'((first|refine⟨_,q,zq ?_⟩|rfl)<;>intros)
  intro g2 u
  rfl)
def qbX(g){cs aW}{w}{m:Ah}(be:rWo g cs w)(hM:qdA g aW m)(bf:SnW w)(ad:BgW 1000000 w):Ok Tryz.prog 149 [.agg ⟨cs⟩,.agg ⟨aW⟩] g (SwP w m):=by
 obtain⟨aX,aY,aZ,a0,a1,a2,a3,a4,a5,a6,ap,aq,ar,au,av,aw,rfl,rfl,ae,ax,⟨aj,ak,ay⟩,bR,bT,bU,al,bW,⟨bX,bY,bZ,b0⟩,⟨b1,b2,b3,b4⟩,⟨c1,c2,b5,b6⟩,⟨d1,d2,b7,b8⟩,⟨e1,e2,b9,ca⟩,B,af,R⟩:=qhB be hM
 have am:¬En w m->∀g2,g<=g2->SwP w m (.tuple #[.agg ⟨wQ w aX aY aZ a0 a1 a2 a3 a4 a5 a6⟩,.agg ⟨mQ m ap aq ar au av aw⟩,.agg ⟨ev0.cs⟩]) g2:=λh g2 q=>by
  obtain⟨C,D,hE⟩:=Kv (w:=w) (m:=m) h;exact⟨_,_,by rw[hE],by rw[C];exact qBA _ _ _ _ q ae,by rw[D];exact qTA _ _ _ _ q ax⟩
 exact Ok.JA hm qib 4 qwM NT.2 (args:=[.v (.agg ⟨wQ w aX aY aZ a0 a1 a2 a3 a4 a5 a6⟩),.v (.agg ⟨mQ m ap aq ar au av aw⟩)]) (by
  refine zq ?_;intros;refine⟨λz1=>?_,λz1=>?_⟩
  .have z1:m.pc<0:=zd z1;refine zq ?_;intros;intro g2 q;exact am (λh=>by have:=h.2.1;omega) _ q
  have z1:¬m.pc<0:=zf z1;refine zq ?_;intros;refine⟨λag=>?_,λag=>?_⟩
  .have ag:2<m.pc:=zd ag;refine zq ?_;intros;intro g2 q;exact am (λh=>by have:=h.2.1;omega) _ q
  have ag:¬2<m.pc:=zf ag;refine zq ?_;intros;refine .inl ⟨_,qUA _ ae ax bf ad,zq ?_⟩;intros;refine⟨λW=>?_,λW=>?_⟩
  .have W:=nb1 W;refine zq ?_;intros;intro g2 q;exact am (λh=>by rw[h.1]at W;cases W) _ q
  have hs:=nb0 W;refine zq ?_;intros;refine⟨λL=>?_,λL=>?_⟩
  .have L:m.pc=2:=zd L;refine zq ?_;intros;refine .inl ⟨_,q9Z _ ae ax,zq ?_⟩;intros;refine⟨λT=>?_,λT=>?_⟩
   .have T:qSN w m=I:=T;refine zq ?_;intros;intro g2 q;exact am (λh=>by have:=h.2.2 L;rw[T]at this;cases this) _ q
   have T:qSN w m=zb:=T;have ah:En w m:=⟨hs,.inr (.inr L),λ_=>T⟩;obtain⟨C,D,hE⟩:=sw2 ah L;refine zq ?_;intros;refine .inr ((qSA _ ae ad).mono λv g3 U az=>?_);obtain⟨cs,bh,rfl,Y⟩:=az;have P:=qbA Y;obtain⟨aA,aB,aC,aD,aE,aF,aG,aH,a7,bi,rfl⟩:=qLA P;refine zq ?_;intros;refine dF sa (zq ?_);intros;refine dF sa ?_;have cb:=ad.1.2.2.2.2;rcases qwX Y with⟨bj,cc,E⟩|⟨bk,cap,aI,aJ,E,u,aK⟩
   .simp only[zAg]at E;obtain⟨rfl,a8,rfl⟩:=E
    have bl:Fz 3 qFB g3 [] w.An/\rSl 1 BX g3 (.slice aA w.pins.length aB) w.pins/\rSl 5 rVe g3 (.slice aC w.Ab.length aD) w.Ab/\rSl 4 qeB g3 (.slice aE w.Aa.length aF) w.Aa/\rSl 1 Fy g3 (.slice aG w.counts.length aH) w.counts:=
     ⟨by rw[bj];exact qwJ _,qNc P,qZK P,qzI P,KI P⟩
    have a9:∀{v:zg}(H g2:GW),g3<=H->Br H g.w.heap.size 101 3 v 1 [.int .i64 m.Ac,.int .i64 m.Ai,.bool zb]->H<=g2->SwP w m (.tuple #[.agg ⟨[.int .i64 w.Ai,.int .i64 w.current,.int .i64 w.AL,.slice aA w.pins.length aB,.slice aC w.Ab.length aD,.slice aE w.Aa.length aF,.slice aG w.counts.length aH,v]⟩,.agg ⟨Ah.cs (.slice ap m.op.Ao.Aa.length aq) (.slice ar m.op.Ao.Ar.length au) (.slice av m.op.Ao.Ad.length aw) {m with done:=I,answer:=G4 8 m.i}⟩,.agg ⟨Ev.cs ⟨m.Al,0,2,11,-1,zb,m.Ac,zb,zb,I,G4 8 m.i⟩⟩]) g2:=λ{v}H g2 A Q q=>by
     refine⟨_,_,by rw[hE],by rw[C];exact qBA _ _ _ _ q (qaO (x:=⟨m.Ac,m.Ai,zb⟩) ⟨aj,ak,ay⟩ bl A (by rw[a8];exact Q) ⟨B.Ac,B.Ai⟩),?_⟩;rw[D];exact⟨_,_,_,rfl,{B with answer:=quN ⟨sb,B.i⟩},af,qAA _ _ _ _ (GW.trans U (GW.trans A q)) R⟩
    rw[a8];cases a7 with
    |none=>
     refine zq ?_;intros;refine⟨⟨by unfold zAp;omega,sa⟩,λaL an=>zq ?_⟩;intros;refine λH A aM Q=>zq ?_;intros;intro g2 q;exact a9 H _ A Q q
    |some bm=>
     refine zq ?_;intros;refine .inl ⟨[],⟨⟨rfl,O bm,0,rfl,zH _,zJ _,(λh=>nomatch h),λi bn aN=>by simp at aN⟩,λbn aN=>by cases aN⟩,λh=>absurd h sb,λ_=>⟨⟨sb,by unfold zAp;omega,sa⟩,λaL an=>zq ?_⟩⟩;intros;refine λH A aM Q=>zq ?_;intros;intro g2 q;exact a9 H _ A Q q
   .simp only[zAg,zBL]at E;obtain⟨rfl,rfl⟩:=E;refine zq ?_;intros;refine .inr (.inl ⟨bk,aI.flatten,aJ,⟨rfl,u.1,u.2.1,u.2.2.1,u.2.2.2.1,u.2.2.2.2.1,u.2.2.2.2.2.1,u.2.2.2.2.2.2.1,u.2.2.2.2.2.2.2,by unfold zAp;omega,sa⟩,λaO aa aL an=>zq ?_⟩);intros;refine λH A aM Q=>zq ?_;intros;intro g2 q;have aP:=aa.le U (λh=>by have:=g.wf _ h;omega);refine⟨_,_,by rw[hE]<;>rfl,by rw[C];exact qBA _ _ _ _ q (qaO (x:=⟨m.Ac,m.Ai,zb⟩) ⟨aj,ak,ay⟩ (aK aO aa) A Q ⟨B.Ac,B.Ai⟩),?_⟩;rw[D];exact⟨_,_,_,rfl,{B with answer:=quN ⟨sb,B.i⟩},af,qAA _ _ _ _ (GW.trans aP (GW.trans A q)) R⟩
  have L:¬m.pc=2:=zf L;have ah:En w m:=⟨hs,sa,λh=>absurd h L⟩;refine zq ?_;intros;refine .inr ((qSA _ ae ad).mono λv g3 U az=>?_);obtain⟨cs,bh,rfl,Y⟩:=az;have P:=qbA Y;obtain⟨aA,aB,aC,aD,aE,aF,aG,aH,a7,bi,rfl⟩:=qLA P;refine zq ?_;intros;refine⟨λV=>?_,λV=>?_⟩;rotate_left
  .have V:¬m.pc=0:=zf V;have bo:m.pc=1:=sa
   obtain⟨C,D,hE⟩:=sw1 ah bo;refine zq ?_;intros;refine dT sa (zq ?_);intros
   repeat'((first|refine⟨_,λbp cd bq=>q4U bp (bq.2.2.2.2.1 10 _ rfl),?_⟩|refine zG ?_ ?_|fail)<;>first|(refine zq ?_;intros)|rfl)
   all_goals(conv=>whnf)
   all_goals(first|exact zAu _|(
    intro g2 q;refine⟨_,_,by rw[hE]<;>rfl,by rw[C];exact qBA _ _ _ _ q P,?_⟩;rw[D]
    exact⟨_,_,_,rfl,{B with pc:=show InR (2:zt) by decide,Ai:=aj},af,qAA _ _ _ _ (GW.trans U q) R⟩))
  have V:m.pc=0:=zd V;refine zq ?_;intros;refine .inr ((Ok.sub U ((qME g R).mono λv br ba aQ=>(⟨ba,qoC R ba aQ⟩:g<=br/\_))).mono λv ce ai aQ=>?_);obtain⟨bt,bu,bv,cf,x,y,z,bw,cg,rfl,aR,aT,bx⟩:=aQ;rcases bx with⟨rfl,rfl,ab,rfl,rfl⟩|⟨bz,ab,rfl,rfl,rfl⟩
  .rw[show qLB m.op.Ao=qiA m.op.Ao by unfold qLB;rw[ab]]at aR;obtain⟨C,D,hE⟩:=qoY ah V ab;obtain⟨_,_,_,bA,⟨ch,ci,bB,_⟩,⟨cj,ck,rfl,_⟩,⟨cm,cn,bC,_⟩⟩:=id aR;cases bA;cases bB;cases bC;refine zq ?_;intros;refine⟨λ_=>zq ?_,λh=>nomatch h⟩;intros;refine .inr ((Ok.sub bu (qxR bt aR (by have:=(AZ.1 ab).size.2.1.2;simp[qiA];omega))).mono λv co bb al=>?_);obtain⟨bD,bE,bF,al⟩:=al;rcases al with⟨ac,cp,cq,cr,oV,nV,ct,rfl,bc⟩|⟨ac,rfl⟩
   rotate_left
   .exact absurd (qAL ab) ac
   obtain⟨_,_,_,_,ao,⟨_,_,_,bG,⟨cu,cv,rfl,_⟩,⟨cw,cx,rfl,_⟩,⟨cy,cz,rfl,_⟩⟩,⟨_,_,bH,_⟩⟩:=id bc;simp only[zAA,zA6]at ao;obtain⟨rfl,rfl,rfl,rfl,_⟩:=ao;cases bG;cases bH;have bI:=qAd (GW.trans ai bb) Y
   have bd:w.Ab≠[]:=λh=>by
    obtain⟨cA,cB,cC,bJ⟩:=Am.1 hs;have:=bJ.ver.2;rw[h]at this;simp at this
   have bK:=ad.1.2.1;obtain⟨bk,cap,aI,aJ,E,u,aK⟩:=qzR bI bd
   have cD:bk<g3.w.heap.size:=by
    obtain⟨cG,an,_,_,ao,bL,_⟩:=qzR Y bd;rw[ao]at E;simp only[zAg,zAh,Addr.mk.injEq]at E;have:=g3.wf _ bL.2.1;omega
   simp only[zAg,zBL]at E;obtain⟨rfl,rfl⟩:=E;refine zq ?_;intros;refine⟨λ_=>zq ?_,λh=>nomatch h⟩;intros;refine⟨kF,zq ?_⟩;intros;refine .inr (.inl ⟨bk,aI.flatten,aJ,⟨rfl,u.1,u.2.1,u.2.2.1,u.2.2.2.1,u.2.2.2.2.1,u.2.2.2.2.2.1,u.2.2.2.2.2.2.1,u.2.2.2.2.2.2.2,by unfold zAp;omega,sa⟩,λaO aa aL an=>zq ?_⟩);intros;refine λH A aM Q=>zq ?_;intros;intro g2 q
   have bM:¬bD.g bk:=λh=>by
    have cH:=u.1;rcases bF _ h with h|h
    .rcases bv _ h with h|h
     .have:=g.wf _ h;omega
     .omega
    .have:=ai.1;omega
   have aP:=aa.le (GW.trans U (GW.trans ai bb)) (λh=>by have:=g.wf _ h;omega);have bN:=aa.le bE bM;refine⟨_,_,by rw[hE]<;>rfl,by rw[C];exact qBA _ _ _ _ q (quZ (x:=qRA (qiA m.op.Ao)) ⟨aj,ak,ay⟩ bK (aK aO aa) A Q rfl (quC _ _ _ _ (GW.trans bN A) bc)),?_⟩;rw[D];exact⟨_,_,_,rfl,{B with Ac:=ak,Af:=z0,Ak:=z0,other:=z0,slot:=z0,i:=show InR (w.Ab.length:zt) by unfold InR;omega,pc:=show InR (1:zt) by decide},af,qAA _ _ _ _ (GW.trans aP (GW.trans A q)) R⟩
  .obtain⟨e2,aU,ac⟩:∃e2 aU,qOA m.op.Ao=O (e2,aU):=by
    cases bO:qOA m.op.Ao with
    |none=>exact absurd bO ab
    |some p=>exact⟨p.1,p.2,rfl⟩
   have bP:bw=e2:=by
    rw[ac]at aT;change Value.tuple #[.int .i64 e2,.int .i64 aU]=_ at aT;injection aT with h
    have:=zI (λa:zS zg=>a[0]?) h;simpa using this.symm
   subst bP;obtain⟨C,D,hE⟩:=qOU ah V ac;refine zq ?_;intros;refine⟨λbQ=>absurd (Cn bQ) bz,λ_=>zq ?_⟩;intros;refine⟨kF,zq ?_⟩;intros;intro g2 q;have cI:=q0C ac;refine⟨_,_,by rw[hE]<;>rfl,by rw[C];exact qBA _ _ _ _ (GW.trans ai q) P,?_⟩;rw[D]
   exact⟨_,_,_,rfl,{B with answer:=qUb ⟨sb,si⟩},af,qAA _ _ _ _ (GW.trans U (GW.trans ai q)) R⟩)
def DrP(w:Wd)(m:Ah)(v:zg)(g':GW):Prop:=∃cs h,v=.tuple #[.agg ⟨cs⟩,.agg ⟨h⟩,.agg ⟨(drE w m).cs⟩]/\rWo g' cs (drW w m)/\qdA g' h (drM w m)
def qDV(g)(x):OkV Tryz.prog 179 [.agg ⟨Ho x⟩] g (.agg ⟨Ho (drL x)⟩):=
 Ok.Aq hm noT 0 NA.2 (args:=[.v (.agg ⟨Ho x⟩)]) (by
  refine zq ?_;intros;intro g2 h
  rfl)
def tDr:F (Z×FnI):=[(178,Dx.1)]
def qub:q6B Tryz.prog tDr:=by
 intro x h;simp only[tDr,zs,zC,zAt]at h;rcases h with rfl
 exact⟨_,_,Dx.2⟩
def qhX(g){cs Q}{w}{m:Ah}(af:rWo g cs w)(hM:qdA g Q m)(ag:SnW w)(D:BgW 1000000 w):Ok Tryz.prog 150 [.agg ⟨cs⟩,.agg ⟨Q⟩] g (DrP w m):=by
 obtain⟨ah,ai,aj,ak,al,am,an,ao,ap,aq,ar,au,av,aw,ax,ay,rfl,rfl,B,E,⟨aT,aU,aW⟩,aX,aY,aZ,a0,a1,⟨a2,a3,a4,a5⟩,⟨a6,a7,a8,a9⟩,⟨c1,c2,ba,bb⟩,⟨d1,d2,bc,bd⟩,⟨e1,e2,be,bf⟩,R,T,U⟩:=qhB af hM
 exact Ok.Aq hm qub 2 NP.2 (args:=[.v (.agg ⟨wQ w ah ai aj ak al am an ao ap aq⟩),.v (.agg ⟨mQ m ar au av aw ax ay⟩)]) (by
  refine zq ?_;intros;refine⟨λz1=>?_,λz1=>?_⟩
  .refine zq ?_;intros;intro g2 h;obtain⟨q,u,hE⟩:=qcd (w:=w) (m:=m) (λA=>FB z1 A.2);exact⟨_,_,sk,by rw[q];exact qBA _ _ _ _ h B,by rw[u];exact qTA _ _ _ _ h E⟩
  refine zq ?_;intros;refine .inl ⟨_,qUA _ B E ag D,zq ?_⟩;intros;refine⟨λC=>?_,λC=>?_⟩
  .refine zq ?_;intros;intro g2 h;obtain⟨q,u,hE⟩:=qcd (w:=w) (m:=m) (λA=>by rw[A.1]at C;cases C);exact⟨_,_,sk,by rw[q];exact qBA _ _ _ _ h B,by rw[u];exact qTA _ _ _ _ h E⟩
  have hs:=nb0 C;have V:Gz w m:=⟨hs,F1 z1⟩;refine zq ?_;intros;refine .inr ((qSA _ B D).mono λv g3 W az=>?_);obtain⟨cs,bh,rfl,Y⟩:=az;have H:=qbA Y;obtain⟨bi,bj,bl,bm,bn,bo,bp,bq,br,bt,rfl⟩:=qLA H;obtain⟨_,_,_,_,_,aa,_,_,_,ab,_,_⟩:=id H;simp only[zAA,zA6]at aa;obtain⟨_,_,_,_,_,rfl,_⟩:=aa;refine zq ?_;intros;refine .inl ⟨_,qIG _ ab _,zq ?_⟩;intros;refine⟨λL=>?_,λL=>?_⟩
  .obtain⟨q,u,hE⟩:=q3V V (show drI w m<0 from zd L);refine zq ?_;intros;intro g2 h;refine⟨_,_,sk,by rw[q];exact qBA _ _ _ _ h H,?_⟩;rw[u];exact⟨_,_,_,rfl,{R with answer:=qjF sb},T,qAA _ _ _ _ (GW.trans W h) U⟩
  have ac:0<=drI w m:=by have bu:¬drI w m<0:=zf L;omega
  obtain⟨x,P,aA⟩:=qfR (show 0<=qlA w.Aa m.op.listen from ac);have bv:drI w m<w.Aa.length:=aA;have bw:=D.1.2.2.1;obtain⟨q,u,hE⟩:=q2V V ac P;obtain⟨_,_,aB,bx,bz,bA,aC⟩:=ab;cases aB;obtain⟨bB,rfl,bC,bD,⟨rfl,aD⟩,aE⟩:=aC _ x P;obtain⟨bk,cap,aF,bE,aG,aH,aI,aJ,⟨aK,aL,aM,aN,aO⟩,_,aP⟩:=qmK Y P (x':=drL x) (o:=0) (vs:=Ho (drL x)) se (by simp[zAY]) rfl aD;cases aF;refine zq ?_;intros;refine⟨_,rfl,⟨by show 0<=drI w m;omega,by show drI w m<w.Aa.length;omega⟩,zq ?_⟩;intros;refine⟨_,⟨rfl,aE⟩,zq ?_⟩;intros;refine .inl ⟨_,qDV _ x,zq ?_⟩;intros;refine⟨_,rfl,⟨by show 0<=drI w m;omega,by show drI w m<w.Aa.length;omega⟩,zq ?_⟩;intros;refine⟨aG,aH,aI,aJ,⟨by rw[<-aK];rfl,aL,aM,aN,aO⟩,zq ?_⟩;intros;refine λad ae=>?_;have aQ:=qbA (aP ad ae);have aR:g<=ad:=ae.le W (λA=>by have:=g.wf _ A;omega);refine zq ?_;intros;intro g2 h;refine⟨_,_,sk,by rw[q];exact qBA _ _ _ _ h aQ,?_⟩;rw[u]
  exact⟨_,_,_,rfl,{R with listen:=show InR (drI w m) by unfold InR;omega,answer:=qjF ⟨sb,si⟩},T,qAA _ _ _ _ (GW.trans aR h) U⟩)
def LD(v:AM)(x:zg)(g':GW):Prop:=∃h cap,x=.slice h (q5B v).length cap/\rSl 3 rEn g' (.slice h (q5B v).length cap) (q5B v)
def qGF(v:AM)(k:Z):F Bw:=(v.Aj.take k).flatMap λg=>g.ends
def qLK{v}(h:BgV 1000000 v):∀k,k<=v.Aj.length->(qGF v k).length<=k*1000000
 |0,_=>by simp[qGF]
 |k+1,u=>by
  obtain⟨x,q⟩:=qEA (l:=v.Aj) (i:=k) sa;have A:=qLK h k sa;have B:x.ends.length<=1000000:=h.2 x (zh q)
  have:qGF v (k+1)=qGF v k++x.ends:=by
   unfold qGF;rw[zC1,q];simp
  rw[this,zAx,zCp];omega
def q9P{v}{k}{x}(h:v.Aj[k]?=O x):qGF v (k+1)=qGF v k++x.ends:=by
 unfold qGF;rw[zC1,h];simp
def ecR(g:GW)(ecs:F (F zg))(l:F Bw):Prop:=ecs.length=l.length/\(∀e∈ecs,e.length=3)/\∀(i:Z)x h,l[i]?=O x->ecs[i]?=O h->rEn g h x
def ecR.app{g}{e1 e2}{l1 A}(D:ecR g e1 l1)(E:ecR g e2 A):ecR g (e1++e2) (l1++A):=by
 obtain⟨B,H,c1⟩:=D;obtain⟨L,P,c2⟩:=E;refine⟨by simp[B,L],λe Q=>(zN.1 Q).elim (H e) (P e),λi x C h q=>?_⟩;rcases zAJ i l1.length with u|u
 .rw[zAc u]at h;rw[zAc sa]at q;exact c1 i x C h q
 .rw[zBg u]at h;rw[zBg sa,B]at q;exact c2 _ x C h q
def ecR.one{g}{ecs}{l}(h:ecR g ecs l):∀u∈ecs.flatten,u.oneCell'=I:=λu B=>by
 obtain⟨e,C,q⟩:=zC8.1 B;obtain⟨i,A⟩:=zCo.1 C;have D:=(ze.1 A).1;obtain⟨x,E⟩:=qEA (l:=l) (i:=i) (by rw[<-h.1];exact D);obtain⟨⟨n,rfl,_,_,⟨_,_,rfl,_⟩⟩,_⟩:=h.2.2 i x e E A;simp only[zs,zC,zAt]at q;rcases q with rfl|rfl|rfl<;>rfl
def qtR(g){cs}{v}(ah:rVe g cs v)(D:BgV 1000000 v):Ok Tryz.prog 230 [.agg ⟨cs⟩] g (LD v):=by
 obtain⟨aC,aD,aE,aF,rfl,ai,aj⟩:=ah;obtain⟨R,T,rfl,ak,al,aG,am⟩:=id aj;obtain⟨_,_,_,an,⟨U,V,rfl,_⟩,⟨W,Y,rfl,_⟩,⟨aa,ab,rfl,_⟩⟩:=ai;cases an;have aH:=D.1
 exact Ok.Aq hm noT 0 Nm.2 (args:=[.v (.agg ⟨[.slice U v.Aw.Aa.length V,.slice W v.Aw.AE.length Y,.slice aa v.Aw.Ad.length ab,.slice R v.Aj.length T,.bool v.Ba]⟩)]) (by
  refine zq ?_;intros;rename_i ao;refine zw ?_;refine⟨Z×(zy zAI×Z×F (F zg)),λ(k,A,B,q)=>[.row 20 A (qGF v k).length B,.v (.int .i64 k)],λ(k,A,B,q)=>⟨g,.row 20 A (qGF v k).length B 141 3 q.flatten::.blk 0 ao 71 [.v (.slice U v.Aw.Aa.length V),.v (.slice W v.Aw.AE.length Y),.v (.slice aa v.Aw.Ad.length ab),.v (.slice R v.Aj.length T),.v (.bool v.Ba)]::[],40,g.w.heap.size⟩,λ(k,A,B,q)=>k<=v.Aj.length/\ecR g q (qGF v k),λ(k,_)=>v.Aj.length-k,?_,?_⟩
  .intro ap w E;exact⟨(0,zc,0,[]),rfl,⟨zJ _,rfl,se,λi x H h=>by simp[qGF]at h⟩,(E.DK (nx':=40) 20 141 3).fit (by simp[AB,Res.eqv,qCA,Ag,qGF])⟩
  rintro⟨k,A,B,q⟩ ⟨L,u⟩;have L:k<=v.Aj.length:=L;have u:ecR g q (qGF v k):=u;have aI:=qLK D k L;refine zw ?_;refine⟨λP=>?_,λP=>?_⟩
  .have C:k<v.Aj.length:=by have aq:(k:zt)<v.Aj.length:=zd P;omega
   obtain⟨x,h⟩:=qEA C;obtain⟨a,rfl,H,ac,⟨xn,rfl,aJ,hE⟩,ar⟩:=am k x h;have aK:x.ends.length<=1000000:=D.2 x (zh h);obtain⟨on,aL,rfl,aM,aN,aO,aP⟩:=id hE;obtain⟨Q,au,av,aw,ax⟩:=qlU hE;have ad:ecR g Q x.ends:=⟨av,aw,ax⟩;refine zq ?_;intros;refine⟨a,rfl,⟨by show(0:zt)<=k;omega,by show(k:zt)<v.Aj.length;omega⟩,zq ?_⟩;intros;refine⟨_,⟨rfl,ar⟩,zq ?_⟩;intros;rename_i aQ;refine zw ?_;refine⟨Q.flatten,⟨au,ad.one⟩,zq ?_⟩;intros;refine⟨⟨by unfold zAp;omega,sa⟩,λae af=>zq ?_⟩;intros;refine λap w E=>⟨(k+1,ae,af,q++Q),?_,⟨C,by rw[q9P h];exact u.app ad⟩,dec C,E.fit ?_⟩
   .simp only[q9P h,zAx];exact zI (λz=>[Value.slice ae ((qGF v k).length+x.ends.length) af,.int .i64 z]) (wr1 C ak al).symm
   .simp only[q9P h,zAx,List.flatten_append];simp[AB,Res.eqv,qCA,Ag]
  have ay:k=v.Aj.length:=by have aq:¬(k:zt)<v.Aj.length:=zf P;omega
  subst ay;have ag:qGF v v.Aj.length=q5B v:=by unfold qGF q5B;rw[zAX]
  rw[ag]at u;refine zq ?_;intros;refine λg1 az aR aA=>zw ?_;intro g2 aB;rw[ag]at*;refine⟨_,_,rfl,?_⟩
  exact(qbK aA.rd (q5B v) q rfl u.2.1 rfl u.1 λi x H h ac=>qMF _ _ _ _ az (u.2.2 i x H h ac)).mono qMF aB)
def qjX(g){cs}{v}(h:rVe g cs v)(q:BgV 1000000 v):OkV Tryz.prog 225 [.agg ⟨cs⟩] g (.int .i64 (q5B v).length):=by
 have u:=h;obtain⟨U,V,W,Y,rfl,A,B⟩:=h;obtain⟨C,D,rfl,aa,ab,ac,ad⟩:=id B;obtain⟨_,_,_,E,⟨H,L,rfl,_⟩,⟨P,Q,rfl,_⟩,⟨R,T,rfl,_⟩⟩:=A;cases E
 exact Ok.Aq hm noT 0 Nn.2 (args:=[.v (.agg ⟨[.slice H v.Aw.Aa.length L,.slice P v.Aw.AE.length Q,.slice R v.Aw.Ad.length T,.slice C v.Aj.length D,.bool v.Ba]⟩)]) (by
  refine zq ?_;intros;refine .inr ((qtR _ u q).mono λx g1 ae hE=>?_);obtain⟨af,ag,rfl,ah⟩:=hE;refine zq ?_;intros;intro g2 ai
  rfl)
noncomputable def IE(w:Wd)(m:Ah):zO:=@decide (Et w m) (zBb _)
def qwE{w}{m:Ah}(h:Et w m):IE w m=I:=@zR _ (zBb _) h
def q1R{w}{m:Ah}(h:¬Et w m):IE w m=zb:=@zT _ (zBb _) h
def qGd{w}{m:Ah}(h:IE w m=I):Et w m:=@zd _ (zBb _) h
def qrK{w}{m:Ah}{P:Prop}[Decidable P](h:Et w m<->P):IE w m=decide P:=by
 by_cases q:P
 .rw[qwE (h.2 q),zR q]
 .rw[q1R λk=>q (h.1 k),zT q]
def qqF(g){cs V}{w}{m:Ah}(Y:rWo g cs w)(hM:qdA g V m)(hs:qzA w m=I)(aa:BgW 1000000 w):OkV Tryz.prog 180 [.agg ⟨cs⟩,.agg ⟨V⟩] g (.bool (IE w m)):=by
 obtain⟨a,b,c,d,e,rfl,⟨aM,aN,aO⟩,ab,ac,ad,ae,af⟩:=Y;obtain⟨ag,ah,rfl,aP,aQ,aR,aT⟩:=id ab;obtain⟨ai,aj,rfl,aU,aW,aX,ak⟩:=id ac;obtain⟨al,am,rfl,c1,c2,aY,an⟩:=id ad;obtain⟨ao,ap,rfl,d1,d2,aZ,a0⟩:=id ae;obtain⟨aq,ar,rfl,e1,e2,a1,au⟩:=id af;obtain⟨a2,a3,a4,rfl,a5,_,⟨_,_,_,av,⟨aw,ax,rfl,_⟩,⟨ay,az,rfl,_⟩,⟨aA,aB,rfl,_⟩⟩⟩:=hM;cases av;obtain⟨v,a6,a7,u⟩:=Am.1 hs
 exact Ok.Aq hm noT 0 NB.2 (args:=[.v (.agg ⟨wQ w ag ah ai aj al am ao ap aq ar⟩),.v (.agg ⟨mQ m aw ax ay az aA aB⟩)]) (by
  refine zq ?_;intros;refine⟨λz1=>?_,λz1=>?_⟩
  .have z1:m.pc=2:=zd z1;refine zq ?_;intros;intro g2 A;rw[qrK (P:=m.i<w.pins.length) ⟨λh=>h.1 z1,λh=>⟨λ_=>h,sa,sa,sa,sa⟩⟩]
  have z1:¬m.pc=2:=zf z1;refine zq ?_;intros;refine⟨λE=>?_,λE=>?_⟩
  .have E:m.pc=5:=zd E;obtain⟨a8,rfl,a9,ba,W,aC⟩:=ak _ v u.ver.2;have aD:=W;have aE:=aa.2.2 v (zh u.ver.2);have bb:=(ze.1 u.ver.2).1;have bc:=u.ver.1;obtain⟨bd,be,bf,bh,rfl,aF,aG⟩:=W;obtain⟨bi,bj,rfl,_⟩:=id aG;obtain⟨_,_,_,aH,⟨bl,bm,rfl,_⟩,⟨bn,bo,rfl,_⟩,⟨bp,bq,rfl,_⟩⟩:=aF;cases aH;refine zq ?_;intros
   repeat'((first|refine⟨_,rfl,⟨sa,sa⟩,zq ?_⟩|refine⟨_,⟨rfl,aC⟩,zq ?_⟩|refine .inl ⟨_,qjX _ aD aE,zq ?_⟩|rfl)<;>intros)
   intro g2 A;rw[qrK (P:=m.k<(q5B v).length) ⟨λh=>by have:=h.2.1 E;rwa [u.at_.1]at this,λh=>⟨sa,λ_=>by rw[u.at_.1];exact h,sa,sa,sa⟩⟩]
  have E:¬m.pc=5:=zf E;refine zq ?_;intros;refine⟨λB=>?_,λB=>?_⟩
  .have B:m.pc=6:=zd B;have aI:=u.i;refine zq ?_;intros;refine⟨λQ=>?_,λQ=>?_⟩
   .have C:m.i<w.An.length:=zd Q;obtain⟨r,q⟩:=qEA (l:=w.An) (i:=m.i.toNat) sa;obtain⟨aJ,rfl,aK,aL,⟨rfl,_⟩,H⟩:=au _ r q;refine zq ?_;intros
    repeat'((first|refine⟨_,rfl,⟨sa,sa⟩,zq ?_⟩|refine⟨_,H 0 _ rfl,zq ?_⟩|refine⟨_,H 2 _ rfl,zq ?_⟩|rfl)<;>intros)
    refine⟨λR=>?_,λR=>?_⟩
    .have T:r.Ac=m.Ac:=zd R;refine zq ?_;intros
     repeat'((first|refine⟨_,rfl,⟨sa,sa⟩,zq ?_⟩|refine⟨_,H 0 _ rfl,zq ?_⟩|refine⟨_,H 2 _ rfl,zq ?_⟩|rfl)<;>intros)
     intro g2 A;rw[qrK (P:=r.gone=zb) ⟨λh=>by have:=(h.2.2.1 B).2.2;rwa [qLH q]at this,λh=>⟨sa,sa,λ_=>⟨C,by rw[qLH q];exact T,by rw[qLH q];exact h⟩,sa,sa⟩⟩];cases r.gone<;>rfl
    .have T:¬r.Ac=m.Ac:=zf R;refine zq ?_;intros
     intro g2 A;rw[q1R λh=>T (by have:=(h.2.2.1 B).2.1;rwa [qLH q]at this)]
   .have C:¬m.i<w.An.length:=zf Q;refine zq ?_;intros
    intro g2 A;rw[q1R λh=>C (h.2.2.1 B).1]
  have B:¬m.pc=6:=zf B;refine zq ?_;intros;refine⟨λL=>?_,λL=>?_⟩
  .have L:m.pc=9:=zd L;refine zq ?_;intros;intro g2 A;rw[qrK (P:=m.i<w.Aa.length) ⟨λh=>h.2.2.2.1 L,λh=>⟨sa,sa,sa,λ_=>h,sa⟩⟩]
  have L:¬m.pc=9:=zf L;refine zq ?_;intros;refine⟨λD=>?_,λD=>?_⟩
  .have D:m.pc=10:=zd D;refine zq ?_;intros;refine⟨λU=>?_,λU=>?_⟩
   .have C:m.i<w.Aa.length:=zd U;have aI:=u.i;obtain⟨r,q⟩:=qEA (l:=w.Aa) (i:=m.i.toNat) sa;obtain⟨aJ,rfl,aK,aL,⟨rfl,_⟩,H⟩:=an _ r q;refine zq ?_;intros;refine⟨_,rfl,⟨sa,sa⟩,zq ?_⟩;intros;refine⟨_,H 1 _ rfl,zq ?_⟩;intros;intro g2 A;rw[qrK (P:=r.drain=I) ⟨λh=>by have:=(h.2.2.2.2 D).2;rwa [qJH q]at this,λh=>⟨sa,sa,sa,sa,λ_=>⟨C,by rw[qJH q];exact h⟩⟩⟩];cases r.drain<;>rfl
   .have C:¬m.i<w.Aa.length:=zf U;refine zq ?_;intros;intro g2 A;rw[q1R λh=>C (h.2.2.2.2 D).1]
  have D:¬m.pc=10:=zf D;refine zq ?_;intros;intro g2 A
  rw[qwE ⟨sa,sa,sa,sa,sa⟩])
def CoP(w:Wd)(m:Ah)(v:zg)(g':GW):Prop:=∃cs h,v=.tuple #[.agg ⟨cs⟩,.agg ⟨h⟩,.agg ⟨(csE w m).cs⟩]/\rWo g' cs (csW w m)/\qdA g' h (csM w m)
def tCo:F (Z×FnI):=[(181,Dd.1),(182,Cp.1),(183,CH.1),(184,Cx.1),(185,Co.1),(186,Cf.1),(187,De.1),(188,Cq.1),(189,Ce.1),(190,Dc.1),(226,Df.1),(227,B4.1),(228,Dy.1)]
def qnF:q6B Tryz.prog tCo:=by
 intro x h;simp only[tCo,zs,zC,zAt]at h;rcases h with rfl|rfl|rfl|rfl|rfl|rfl|rfl|rfl|rfl|rfl|rfl|rfl|rfl
 .exact⟨_,_,Dd.2⟩
 .exact⟨_,_,Cp.2⟩
 .exact⟨_,_,CH.2⟩
 .exact⟨_,_,Cx.2⟩
 .exact⟨_,_,Co.2⟩
 .exact⟨_,_,Cf.2⟩
 .exact⟨_,_,De.2⟩
 .exact⟨_,_,Cq.2⟩
 .exact⟨_,_,Ce.2⟩
 .exact⟨_,_,Dc.2⟩
 .exact⟨_,_,Df.2⟩
 .exact⟨_,_,B4.2⟩
 .exact⟨_,_,Dy.2⟩
abbrev xC(h q:Z):zg:=.agg ⟨[.pointer (O ⟨h,0,zc⟩),.pointer (O ⟨q,0,zc⟩)]⟩
def qXA(g){q h}{t a c v}(u:Rc g ⟨h,10,zc⟩ (.int .i64 t)):OkV Tryz.prog 227 [xC q h,.int .i64 a,.int .i64 c,.int .i64 v] g (.agg ⟨(⟨t,0,a,c,-1,zb,v,zb,zb,zb,BY⟩:Ev).cs⟩):=
 Ok.Aq hm noT 0 B4.2 (args:=[.v (xC q h),.v (.int .i64 a),.v (.int .i64 c),.v (.int .i64 v)]) (by
  refine zq ?_;intros;refine⟨_,u,zq ?_⟩;intros;intro g2 A
  rfl)
def qja{g}{e0 e1 e2 a b c d e}{w}(h:rWo g [e0,e1,e2,a,b,c,d,e] w){i:Z}{x}(q:w.Aa[i]?=O x):InR x.Ae:=by
 obtain⟨_,_,B,_,_,_,u⟩:=qzI h;obtain⟨_,_,_,_,A,_⟩:=u i x q;exact A.2
def qKV(g){a n}(q:InR a):OkV Tryz.prog 229 [.int .i64 a,.int .i64 n] g (.bool (decide (qiJ a n))):=
 Ok.Aq hm noT 0 NO.2 (args:=[.v (.int .i64 a),.v (.int .i64 n)]) (by
  refine zq ?_;intros;refine⟨λz=>?_,λz=>?_⟩
  .have z:a<=9223372036854775805:=zd z;have u:zAj.wrap (a+2)=a+2:=by unfold InR at q;rw[zBz];omega
   refine zq ?_;intros;intro g2 A;have:qiJ a n<->a+2<=n:=⟨λh=>h.2,λh=>⟨z,h⟩⟩;show zBt (decide (zAj.wrap (a+2)<=n))=_;rw[u];simp only[this]
  .have z:¬a<=9223372036854775805:=zf z;refine zq ?_;intros;intro g2 A
   rw[zT λh:qiJ a n=>z h.1])
def qWW{m:Ah}(h:m.answer.ok):(JU m).ok:=⟨by show InR 11;decide,z0,z0,z0,z0,z0,h.n,qiG⟩
def qLc{g}{a}{n cap}{l}(h:rSl 3 qFB g (.slice (O a) n cap) l){i}{x}(q:l[i]?=O x):(InR x.Ac/\InR x.at_)/\Rcs g (a.add (i*3)) [.int .i64 x.Ac,.int .i64 x.at_,.bool x.gone]:=by
 obtain⟨B,_,⟨rfl,u⟩,A⟩:=qEI h q;exact⟨u,A⟩
def q4c(g){cs Q}{w}{m:Ah}(ar:rWo g cs w)(hM:qdA g Q m)(au:SnW w)(B:BgW 1000000 w)(C:cGo w m)(R:m.pc=0):Ok Tryz.prog 151 [.agg ⟨cs⟩,.agg ⟨Q⟩] g (CoP w m):=by
 obtain⟨h,hM9,q⟩:=qqH C;have hs:=C.1;have av:=qwE C.2.1;obtain⟨v,aR,aT,aU⟩:=id (Am.1 hs);obtain⟨aw,ax,ay,az,aA,aB,aC,aD,aE,aF,aG,aH,aI,aJ,aK,aL,rfl,rfl,D,T,⟨aW,aX,aY⟩,aZ,a0,a1,a2,a3,⟨a4,a5,a6,a7⟩,⟨a8,a9,ba,bb⟩,⟨c1,c2,bc,bd⟩,⟨d1,d2,be,bf⟩,⟨e1,e2,bh,bi⟩,U,V,W⟩:=qhB ar hM;obtain⟨u,Y,bj,aa,ab,ac,ad,men,ae,msl,af,ag,ah,mk,ai,aj,ak,al⟩:=m;simp only at R;subst R;obtain⟨am,an,kE⟩:=cb0 (w:=w) (m:=⟨u,Y,0,aa,ab,ac,ad,men,ae,msl,af,ag,ah,mk,ai,aj,ak,al⟩) rfl;rw[am]at h;rw[an]at hM9;rw[kE]at q;clear am an kE
 exact Ok.Aq hm qnF 5 Mf.2 (args:=[.v (.agg ⟨wQ w aw ax ay az aA aB aC aD aE aF⟩),.v (.agg ⟨Ah.cs (.slice aG u.Ao.Aa.length aH) (.slice aI u.Ao.Ar.length aJ) (.slice aK u.Ao.Ad.length aL) ⟨u,Y,0,aa,ab,ac,ad,men,ae,msl,af,ag,ah,mk,ai,aj,ak,al⟩⟩)]) (by
  refine zq ?_;intros;refine .inl ⟨_,qUA _ D T au B,zq ?_⟩;intros;refine⟨λE=>absurd (hs.symm.trans (nb1 E)) sb,λ_=>zq ?_⟩;intros;refine .inl ⟨_,qqF _ D T hs B,zq ?_⟩;intros;refine⟨λE=>absurd (av.symm.trans (nb1 E)) sb,λ_=>zq ?_⟩;intros;refine .inr ((qSA _ D B).mono λv g3 ao aM=>?_);obtain⟨cs,bl,rfl,aN⟩:=aM;have H:=qbA aN;obtain⟨bm,bn,bo,bp,bq,br,bt,bu,bv,bw,rfl⟩:=qLA H;refine zq ?_;intros;rename_i ap aq bx bz;refine zw ?_;refine⟨O (.func (.func 181) ⟨[xC ap aq]⟩ ⟨[]⟩),rfl,zw ?_⟩;refine⟨λaO=>(nomatch aO),λ_=>zq ?_⟩;intros;refine⟨kF,[.agg [.p 5 ap 0,.p 6 aq 0]],[],⟨rfl,rfl⟩,zq ?_⟩;intros;refine zG (λz=>?_) (λz=>?_)
  .have z:¬w.AL=0:=FB z;rw[zj z]at h hM9 q;refine zq ?_;intros
   repeat'((first|refine⟨_,λL aP P=>qXA L (P.cel (id:=6) rfl 10 rfl),?_⟩|refine zG ?_ ?_|fail)<;>first|(refine zq ?_;intros)|rfl)
   all_goals(conv=>whnf)
   all_goals(first|exact zAu _|(
    intro g2 A;refine⟨_,_,by rw[q]<;>rfl,by rw[h];exact qBA _ _ _ _ A H,?_⟩;rw[hM9]
    exact⟨_,_,_,rfl,{U with answer:=qjF sb},V,qAA _ _ _ _ (GW.trans ao A) W⟩))
  .have z:w.AL=0:=F1 z;rw[zk z]at h hM9 q;have aQ:=qFN H (x:=1) sb;refine zq ?_;intros
   repeat'((first|refine⟨_,λL aP P=>qXA L (P.cel (id:=6) rfl 10 rfl),?_⟩|refine zG ?_ ?_|fail)<;>first|(refine zq ?_;intros)|rfl)
   all_goals(conv=>whnf)
   all_goals(first|exact zAu _|(
    intro g2 A;refine⟨_,_,by rw[q]<;>rfl,by rw[h];exact qBA _ _ _ _ A aQ,?_⟩;rw[hM9]
    exact⟨_,_,_,rfl,{U with pc:=show InR (1:zt) by decide},V,qAA _ _ _ _ (GW.trans ao A) W⟩)))
def q3c(g){cs C}{w}{m:Ah}(ah:rWo g cs w)(hM:qdA g C m)(ai:SnW w)(q:BgW 1000000 w)(u:cGo w m)(D:m.pc=1):Ok Tryz.prog 151 [.agg ⟨cs⟩,.agg ⟨C⟩] g (CoP w m):=by
 obtain⟨aj,hM9,ak⟩:=qqH u;have hs:=u.1;have al:=qwE u.2.1;obtain⟨v,aQ,aR,aT⟩:=id (Am.1 hs);obtain⟨am,an,ao,ap,aq,ar,au,av,aw,ax,ay,az,aA,aB,aC,aD,rfl,rfl,A,E,⟨aE,aU,aW⟩,aX,aY,aZ,a0,a1,⟨a2,a3,a4,a5⟩,⟨a6,a7,a8,a9⟩,⟨c1,c2,ba,bb⟩,⟨d1,d2,bc,bd⟩,⟨e1,e2,be,bf⟩,aF,aG,aH⟩:=qhB ah hM;obtain⟨h,H,bh,L,P,Q,R,men,T,msl,U,V,W,mk,Y,aa,ab,ac⟩:=m;simp only at D;subst D
 exact Ok.Aq hm qnF 5 Mf.2 (args:=[.v (.agg ⟨wQ w am an ao ap aq ar au av aw ax⟩),.v (.agg ⟨Ah.cs (.slice ay h.Ao.Aa.length az) (.slice aA h.Ao.Ar.length aB) (.slice aC h.Ao.Ad.length aD) ⟨h,H,1,L,P,Q,R,men,T,msl,U,V,W,mk,Y,aa,ab,ac⟩⟩)]) (by
  refine zq ?_;intros;refine .inl ⟨_,qUA _ A E ai q,zq ?_⟩;intros;refine⟨λB=>absurd (hs.symm.trans (nb1 B)) sb,λ_=>zq ?_⟩;intros;refine .inl ⟨_,qqF _ A E hs q,zq ?_⟩;intros;refine⟨λB=>absurd (al.symm.trans (nb1 B)) sb,λ_=>zq ?_⟩;intros;refine .inr ((qSA _ A q).mono λv g3 aI aJ=>?_);obtain⟨cs,bi,rfl,aK⟩:=aJ;have ad:=qbA aK;obtain⟨bj,bl,bm,bn,bo,bp,bq,br,bt,bu,rfl⟩:=qLA ad;refine zq ?_;intros;rename_i ae af bv bw;refine zw ?_;refine⟨O (.func (.func 182) ⟨[xC ae af]⟩ ⟨[]⟩),rfl,zw ?_⟩;refine⟨λaL=>(nomatch aL),λ_=>zq ?_⟩;intros;refine⟨kF,[.agg [.p 5 ae 0,.p 6 af 0]],[],⟨rfl,rfl⟩,zq ?_⟩;intros
  repeat'((first|refine⟨_,λaM bx aN=>qXA aM (aN.cel (id:=6) rfl 10 rfl),?_⟩|refine zG ?_ ?_|fail)<;>first|(refine zq ?_;intros)|rfl)
  all_goals(conv=>whnf)
  all_goals(first|exact zAu _|(
   intro g2 ag;obtain⟨aO,aP,kE⟩:=cb1 (w:=w) (m:=⟨h,H,1,L,P,Q,R,men,T,msl,U,V,W,mk,Y,aa,ab,ac⟩) rfl;refine⟨_,_,by rw[ak,kE]<;>rfl,by rw[aj,aO];exact qBA _ _ _ _ ag ad,?_⟩;rw[hM9,aP]
   exact⟨_,_,_,rfl,{aF with Ai:=aE,pc:=show InR (2:zt) by decide,i:=z0},aG,qAA _ _ _ _ (GW.trans aI ag) aH⟩)))
def q2c(g){cs ag}{w}{m:Ah}(aB:rWo g cs w)(hM:qdA g ag m)(aC:SnW w)(W:BgW 1000000 w)(Y:cGo w m)(ah:m.pc=2):Ok Tryz.prog 151 [.agg ⟨cs⟩,.agg ⟨ag⟩] g (CoP w m):=by
 obtain⟨P,hM9,H⟩:=qqH Y;have hs:=Y.1;have aD:=qwE Y.2.1;obtain⟨v,a0,a1,aE⟩:=id (Am.1 hs);obtain⟨aF,aG,aH,aI,aJ,aK,aL,aM,aN,aO,aP,aQ,aR,aT,aU,aW,rfl,rfl,ad,ai,⟨a2,a3,a4⟩,a5,a6,a7,a8,a9,⟨ba,bb,bc,bd⟩,⟨be,bf,bh,bi⟩,⟨c1,c2,bj,bl⟩,⟨d1,d2,bm,bn⟩,⟨e1,e2,bo,bp⟩,Q,R,T⟩:=qhB aB hM;obtain⟨U,aj,bq,aa,ak,al,am,men,an,msl,ao,ap,u,mk,aq,ar,au,av⟩:=m;simp only at ah;subst ah;obtain⟨aw,ax,kE⟩:=cb2 (w:=w) (m:=⟨U,aj,2,aa,ak,al,am,men,an,msl,ao,ap,u,mk,aq,ar,au,av⟩) rfl;rw[aw]at P;rw[ax]at hM9;rw[kE]at H;clear aw ax kE
 exact Ok.Aq hm qnF 5 Mf.2 (args:=[.v (.agg ⟨wQ w aF aG aH aI aJ aK aL aM aN aO⟩),.v (.agg ⟨Ah.cs (.slice aP U.Ao.Aa.length aQ) (.slice aR U.Ao.Ar.length aT) (.slice aU U.Ao.Ad.length aW) ⟨U,aj,2,aa,ak,al,am,men,an,msl,ao,ap,u,mk,aq,ar,au,av⟩⟩)]) (by
  refine zq ?_;intros;refine .inl ⟨_,qUA _ ad ai aC W,zq ?_⟩;intros;refine⟨λae=>absurd (hs.symm.trans (nb1 ae)) sb,λ_=>zq ?_⟩;intros;refine .inl ⟨_,qqF _ ad ai hs W,zq ?_⟩;intros;refine⟨λae=>absurd (aD.symm.trans (nb1 ae)) sb,λ_=>zq ?_⟩;intros;refine .inr ((qSA _ ad W).mono λv g3 V aX=>?_);obtain⟨cs,br,rfl,aY⟩:=aX;have L:=qbA aY;obtain⟨bt,bu,bv,bw,bx,bz,bA,bB,bC,bD,rfl⟩:=qLA L;refine zq ?_;intros;rename_i ay az bE bF;refine zw ?_;refine⟨O (.func (.func 183) ⟨[xC ay az]⟩ ⟨[]⟩),rfl,zw ?_⟩;refine⟨λA=>(nomatch A),λ_=>zq ?_⟩;intros;refine⟨kF,[.agg [.p 5 ay 0,.p 6 az 0]],[],⟨rfl,rfl⟩,?_⟩;have bG:0<=u:=aE.i;have bH:u<w.pins.length:=Y.2.1.1 rfl;have bI:=W.1.1;obtain⟨ab,af⟩:=qEA (l:=w.pins) (i:=u.toNat) sa;rw[qwY af]at hM9 H;have aA:=qNc L;obtain⟨bJ,rfl⟩:=qVA aA af;obtain⟨bK,aZ⟩:=qMM aA af;have D:u+1=zAj.wrap (u+1):=by rw[zBz];omega
  refine zq ?_;intros
  repeat'((first|refine⟨_,rfl,⟨sa,sa⟩,zq ?_⟩|refine⟨_,aZ 0 _ rfl,zq ?_⟩|rfl)<;>intros)
  refine zG (λz1=>?_) (λz1=>?_)
  .have z1:ab≠0:=FB z1;refine zq ?_;intros;refine zG (λE=>?_) (λE=>?_)
   .have E:ab≠wI (aa+1):=FB E;rw[zk ⟨z1,E⟩]at hM9;refine zq ?_;intros
    repeat'((first|refine⟨_,λB ac C=>qXA B (C.cel (id:=6) rfl 10 rfl),?_⟩|refine zG ?_ ?_|fail)<;>first|(refine zq ?_;intros)|rfl)
    all_goals(conv=>whnf)
    all_goals(first|exact zAu _|(
     intro g2 q;refine⟨_,_,by rw[H]<;>rfl,by rw[P];exact qBA _ _ _ _ q L,?_⟩;rw[hM9]
     exact⟨_,_,_,rfl,{Q with pc:=show InR (4:zt) by decide,i:=z0},R,qAA _ _ _ _ (GW.trans V q) T⟩))
   .have E:ab=wI (aa+1):=F1 E;refine zq ?_;intros;refine zG (λh=>?_) (λh=>?_)
    .have h:u+1<w.pins.length:=by rw[D];exact zd h
     rw[zj (λA=>A.2 E),zk h]at hM9;simp only at hM9;rw[D]at hM9;refine zq ?_;intros
     repeat'((first|refine⟨_,λB ac C=>qXA B (C.cel (id:=6) rfl 10 rfl),?_⟩|refine zG ?_ ?_|fail)<;>first|(refine zq ?_;intros)|rfl)
     all_goals(conv=>whnf)
     all_goals(first|exact zAu _|(
      intro g2 q;refine⟨_,_,by rw[H]<;>rfl,by rw[P];exact qBA _ _ _ _ q L,?_⟩;rw[hM9]
      exact⟨_,_,_,rfl,{Q with i:=qDB _},R,qAA _ _ _ _ (GW.trans V q) T⟩))
    .have h:¬u+1<w.pins.length:=by rw[D];exact zf h
     rw[zj (λA=>A.2 E),zj h]at hM9;simp only at hM9;rw[D]at hM9;refine zq ?_;intros
     repeat'((first|refine⟨_,λB ac C=>qXA B (C.cel (id:=6) rfl 10 rfl),?_⟩|refine zG ?_ ?_|fail)<;>first|(refine zq ?_;intros)|rfl)
     all_goals(conv=>whnf)
     all_goals(first|exact zAu _|(
      intro g2 q;refine⟨_,_,by rw[H]<;>rfl,by rw[P];exact qBA _ _ _ _ q L,?_⟩;rw[hM9]
      exact⟨_,_,_,rfl,{Q with pc:=show InR (3:zt) by decide,i:=qDB _},R,qAA _ _ _ _ (GW.trans V q) T⟩))
  .have z1:ab=0:=F1 z1;refine zq ?_;intros;refine zG (λh=>?_) (λh=>?_)
   .have h:u+1<w.pins.length:=by rw[D];exact zd h
    rw[zj (λA=>A.1 z1),zk h]at hM9;simp only at hM9;rw[D]at hM9;refine zq ?_;intros
    repeat'((first|refine⟨_,λB ac C=>qXA B (C.cel (id:=6) rfl 10 rfl),?_⟩|refine zG ?_ ?_|fail)<;>first|(refine zq ?_;intros)|rfl)
    all_goals(conv=>whnf)
    all_goals(first|exact zAu _|(
     intro g2 q;refine⟨_,_,by rw[H]<;>rfl,by rw[P];exact qBA _ _ _ _ q L,?_⟩;rw[hM9]
     exact⟨_,_,_,rfl,{Q with i:=qDB _},R,qAA _ _ _ _ (GW.trans V q) T⟩))
   .have h:¬u+1<w.pins.length:=by rw[D];exact zf h
    rw[zj (λA=>A.1 z1),zj h]at hM9;simp only at hM9;rw[D]at hM9;refine zq ?_;intros
    repeat'((first|refine⟨_,λB ac C=>qXA B (C.cel (id:=6) rfl 10 rfl),?_⟩|refine zG ?_ ?_|fail)<;>first|(refine zq ?_;intros)|rfl)
    all_goals(conv=>whnf)
    all_goals(first|exact zAu _|(
     intro g2 q;refine⟨_,_,by rw[H]<;>rfl,by rw[P];exact qBA _ _ _ _ q L,?_⟩;rw[hM9]
     exact⟨_,_,_,rfl,{Q with pc:=show InR (3:zt) by decide,i:=qDB _},R,qAA _ _ _ _ (GW.trans V q) T⟩)))
def q1c(g){cs aa}{w}{m:Ah}(aw:rWo g cs w)(hM:qdA g aa m)(ax:SnW w)(P:BgW 1000000 w)(Q:cGo w m)(ab:m.pc=3):Ok Tryz.prog 151 [.agg ⟨cs⟩,.agg ⟨aa⟩] g (CoP w m):=by
 obtain⟨h,hM9,q⟩:=qqH Q;have hs:=Q.1;have ay:=qwE Q.2.1;obtain⟨v,aX,aY,az⟩:=id (Am.1 hs);obtain⟨aA,aB,aC,aD,aE,aF,aG,aH,aI,aJ,aK,aL,aM,aN,aO,aP,rfl,rfl,R,ac,⟨aQ,aZ,a0⟩,a1,a2,a3,a4,a5,⟨a6,a7,a8,a9⟩,⟨ba,bb,bc,bd⟩,⟨c1,c2,be,bf⟩,⟨d1,d2,bh,bi⟩,⟨e1,e2,bj,bl⟩,T,U,V⟩:=qhB aw hM;obtain⟨B,ad,bm,H,ae,af,ag,men,ah,msl,ai,aj,ak,mk,al,am,an,ao⟩:=m;simp only at ab;subst ab;obtain⟨ap,aq,kE⟩:=cb3 (w:=w) (m:=⟨B,ad,3,H,ae,af,ag,men,ah,msl,ai,aj,ak,mk,al,am,an,ao⟩) rfl;rw[ap]at h;rw[aq]at hM9;rw[kE]at q;clear ap aq kE
 exact Ok.Aq hm qnF 5 Mf.2 (args:=[.v (.agg ⟨wQ w aA aB aC aD aE aF aG aH aI aJ⟩),.v (.agg ⟨Ah.cs (.slice aK B.Ao.Aa.length aL) (.slice aM B.Ao.Ar.length aN) (.slice aO B.Ao.Ad.length aP) ⟨B,ad,3,H,ae,af,ag,men,ah,msl,ai,aj,ak,mk,al,am,an,ao⟩⟩)]) (by
  refine zq ?_;intros;refine .inl ⟨_,qUA _ R ac ax P,zq ?_⟩;intros;refine⟨λW=>absurd (hs.symm.trans (nb1 W)) sb,λ_=>zq ?_⟩;intros;refine .inl ⟨_,qqF _ R ac hs P,zq ?_⟩;intros;refine⟨λW=>absurd (ay.symm.trans (nb1 W)) sb,λ_=>zq ?_⟩;intros;refine .inr ((qSA _ R P).mono λv g3 Y aR=>?_);obtain⟨cs,bn,rfl,aT⟩:=aR;have L:=qbA aT;obtain⟨bo,bp,bq,br,bt,bu,bv,bw,bx,bz,rfl⟩:=qLA L;refine zq ?_;intros;rename_i ar au bA bB;refine zw ?_;refine⟨O (.func (.func 184) ⟨[xC ar au]⟩ ⟨[]⟩),rfl,zw ?_⟩;refine⟨λC=>(nomatch C),λ_=>zq ?_⟩;intros;refine⟨kF,[.agg [.p 5 ar 0,.p 6 au 0]],[],⟨rfl,rfl⟩,zq ?_⟩;intros;refine zG (λz1=>?_) (λz1=>?_)
  .have z1:w.Ai=H:=zd z1;refine zq ?_;intros;refine zG (λA=>?_) (λA=>?_)
   .have A:w.Ai<1000000000000:=zd A;rw[zk ⟨z1,A⟩]at h hM9 q;have bC:=az.right;have aU:w.Ai+1=zAj.wrap (w.Ai+1):=by unfold InR at aQ;rw[zBz];omega
    rw[aU]at h hM9 q;have aW:=qkU L (x:=zAj.wrap (w.Ai+1)) (qDB _);refine zq ?_;intros
    repeat'((first|refine⟨_,λD av E=>qXA D (E.cel (id:=6) rfl 10 rfl),?_⟩|refine zG ?_ ?_|fail)<;>first|(refine zq ?_;intros)|rfl)
    all_goals(conv=>whnf)
    all_goals(first|exact zAu _|(
     intro g2 u;refine⟨_,_,by rw[q]<;>rfl,by rw[h];exact qBA _ _ _ _ u aW,?_⟩;rw[hM9]
     exact⟨_,_,_,rfl,{T with Ai:=qDB _,pc:=show InR (4:zt) by decide,i:=z0},U,qAA _ _ _ _ (GW.trans Y u) V⟩))
   .have A:¬w.Ai<1000000000000:=zf A;rw[zj λC=>A C.2]at h hM9 q;refine zq ?_;intros
    repeat'((first|refine⟨_,λD av E=>qXA D (E.cel (id:=6) rfl 10 rfl),?_⟩|refine zG ?_ ?_|fail)<;>first|(refine zq ?_;intros)|rfl)
    all_goals(conv=>whnf)
    all_goals(first|exact zAu _|(
     intro g2 u;refine⟨_,_,by rw[q]<;>rfl,by rw[h];exact qBA _ _ _ _ u L,?_⟩;rw[hM9]
     exact⟨_,_,_,rfl,{T with pc:=show InR (4:zt) by decide,i:=z0},U,qAA _ _ _ _ (GW.trans Y u) V⟩))
  .have z1:¬w.Ai=H:=zf z1;rw[zj λC=>z1 C.1]at h hM9 q;refine zq ?_;intros
   repeat'((first|refine⟨_,λD av E=>qXA D (E.cel (id:=6) rfl 10 rfl),?_⟩|refine zG ?_ ?_|fail)<;>first|(refine zq ?_;intros)|rfl)
   all_goals(conv=>whnf)
   all_goals(first|exact zAu _|(
    intro g2 u;refine⟨_,_,by rw[q]<;>rfl,by rw[h];exact qBA _ _ _ _ u L,?_⟩;rw[hM9]
    exact⟨_,_,_,rfl,{T with pc:=show InR (4:zt) by decide,i:=z0},U,qAA _ _ _ _ (GW.trans Y u) V⟩)))
def q0c(g){cs ag}{w}{m:Ah}(aD:rWo g cs w)(hM:qdA g ag m)(aE:SnW w)(Y:BgW 1000000 w)(ac:cGo w m)(ah:m.pc=4):Ok Tryz.prog 151 [.agg ⟨cs⟩,.agg ⟨ag⟩] g (CoP w m):=by
 obtain⟨A,hM9,u⟩:=qqH ac;have hs:=ac.1;have aF:=qwE ac.2.1;obtain⟨v,a6,a7,aG⟩:=id (Am.1 hs);obtain⟨aH,aI,aJ,aK,aL,aM,aN,aO,aP,aQ,aR,aT,aU,aW,aX,aY,rfl,rfl,ad,ai,⟨a8,a9,ba⟩,bb,bc,bd,be,bf,⟨bh,bi,bj,bl⟩,⟨bm,bn,bo,bp⟩,⟨c1,c2,bq,br⟩,⟨d1,d2,bt,bu⟩,⟨e1,e2,bv,bw⟩,L,P,Q⟩:=qhB aD hM;obtain⟨aa,aj,bx,ae,ak,al,am,men,an,msl,ao,ap,H,mk,aq,ar,au,av⟩:=m;simp only at ah;subst ah;obtain⟨aw,ax,kE⟩:=cb4 (w:=w) (m:=⟨aa,aj,4,ae,ak,al,am,men,an,msl,ao,ap,H,mk,aq,ar,au,av⟩) rfl;rw[aw]at A;rw[ax]at hM9;rw[kE]at u;clear aw ax kE
 exact Ok.Aq hm qnF 5 Mf.2 (args:=[.v (.agg ⟨wQ w aH aI aJ aK aL aM aN aO aP aQ⟩),.v (.agg ⟨Ah.cs (.slice aR aa.Ao.Aa.length aT) (.slice aU aa.Ao.Ar.length aW) (.slice aX aa.Ao.Ad.length aY) ⟨aa,aj,4,ae,ak,al,am,men,an,msl,ao,ap,H,mk,aq,ar,au,av⟩⟩)]) (by
  refine zq ?_;intros;refine .inl ⟨_,qUA _ ad ai aE Y,zq ?_⟩;intros;refine⟨λD=>absurd (hs.symm.trans (nb1 D)) sb,λ_=>zq ?_⟩;intros;refine .inl ⟨_,qqF _ ad ai hs Y,zq ?_⟩;intros;refine⟨λD=>absurd (aF.symm.trans (nb1 D)) sb,λ_=>zq ?_⟩;intros;refine .inr ((qSA _ ad Y).mono λv g3 R aZ=>?_);obtain⟨cs,bz,rfl,a0⟩:=aZ;have E:=qbA a0;obtain⟨bA,bB,bC,bD,bE,bF,bG,bH,bI,bJ,rfl⟩:=qLA E;refine zq ?_;intros;rename_i ay az bK bL;refine zw ?_;refine⟨O (.func (.func 185) ⟨[xC ay az]⟩ ⟨[]⟩),rfl,zw ?_⟩;refine⟨λh=>(nomatch h),λ_=>zq ?_⟩;intros;refine⟨kF,[.agg [.p 5 ay 0,.p 6 az 0]],[],⟨rfl,rfl⟩,?_⟩;have bM:0<=H:=aG.i;have bN:=Y.1.2.2.1;have bO:=Y.1.2.2.2.2;refine zq ?_;intros;refine zG (λy=>?_) (λy=>?_)
  .have y:(w.An.length:zt)<=H:=zd y;rw[zk y]at A hM9 u;refine zq ?_;intros;refine zG (λz=>?_) (λz=>?_)
   .have z:(w.Aa.length:zt)<=0:=zd z;simp only[cdW,cdM,cdE]at A hM9 u;rw[zk z]at A hM9 u;have a1:=qFN E (x:=0) sb;refine zq ?_;intros
    repeat'((first|refine⟨_,λB V C=>qXA B (C.cel (id:=6) rfl 10 rfl),?_⟩|refine zG ?_ ?_|fail)<;>first|(refine zq ?_;intros)|rfl)
    all_goals(conv=>whnf)
    all_goals(first|exact zAu _|(
     intro g2 q;refine⟨_,_,by rw[u]<;>rfl,by rw[A];exact qBA _ _ _ _ q a1,?_⟩;rw[hM9]
     exact⟨_,_,_,rfl,{L with i:=z0,pc:=show InR (8:zt) by decide,answer:=qWW L.answer},P,qAA _ _ _ _ (GW.trans R q) Q⟩))
   .have z:¬(w.Aa.length:zt)<=0:=zf z;simp only[cdW,cdM,cdE]at A hM9 u;rw[zj z]at A hM9 u;obtain⟨x,D⟩:=qEA (l:=w.Aa) (i:=(0:zt).toNat) sa;rw[qJH D]at hM9 u;have aA:=qzI E;obtain⟨bP,rfl⟩:=qVA aA D;obtain⟨bQ,ab⟩:=qKH aA D;obtain⟨xn,a2,bR,a3⟩:=x;have W:(0:zt)+1=zAj.wrap (0+1):=by rw[zBz];omega
    have T:0<=(0:zt):=sa
    have U:(0:zt)<w.Aa.length:=sa
    cases a2<;>cases a3
    .simp only[zA2,reduceIte,zC2,zBL,zCO,zA6,reduceCtorEq]at A hM9 u;rw[W]at hM9;refine zq ?_;intros
     repeat'((first|refine⟨_,rfl,⟨T,U⟩,?_⟩|refine⟨_,⟨rfl,ab⟩,?_⟩|refine⟨_,λB V C=>qXA B (C.cel (id:=6) rfl 10 rfl),?_⟩|refine⟨λ_=>?_,λh=>absurd h.symm zAi⟩|refine⟨λh=>absurd h zAi,λ_=>?_⟩|refine zG ?_ ?_|fail)<;>first|(refine zq ?_;intros)|rfl)
     all_goals(conv=>whnf)
     all_goals(first|exact zAu _|(
      intro g2 q;refine⟨_,_,by rw[u]<;>rfl,by rw[A];exact qBA _ _ _ _ q E,?_⟩;rw[hM9]
      exact⟨_,_,_,rfl,{L with pc:=show InR (8:zt) by decide,i:=show InR (1:zt) by decide},P,qAA _ _ _ _ (GW.trans R q) Q⟩))
    .simp only[zA2,reduceIte,zC2,zBL,zCO,zA6,reduceCtorEq]at A hM9 u;rw[W]at hM9;refine zq ?_;intros
     repeat'((first|refine⟨_,rfl,⟨T,U⟩,?_⟩|refine⟨_,⟨rfl,ab⟩,?_⟩|refine⟨_,λB V C=>qXA B (C.cel (id:=6) rfl 10 rfl),?_⟩|refine⟨λ_=>?_,λh=>absurd h.symm zAi⟩|refine⟨λh=>absurd h zAi,λ_=>?_⟩|refine zG ?_ ?_|fail)<;>first|(refine zq ?_;intros)|rfl)
     all_goals(conv=>whnf)
     all_goals(first|exact zAu _|(
      intro g2 q;refine⟨_,_,by rw[u]<;>rfl,by rw[A];exact qBA _ _ _ _ q E,?_⟩;rw[hM9]
      exact⟨_,_,_,rfl,{L with pc:=show InR (8:zt) by decide,i:=show InR (1:zt) by decide},P,qAA _ _ _ _ (GW.trans R q) Q⟩))
    .simp only[zA2,reduceIte,zC2,zBL,zCO,zA6,reduceCtorEq]at A hM9 u;refine zq ?_;intros
     repeat'((first|refine⟨_,rfl,⟨T,U⟩,?_⟩|refine⟨_,⟨rfl,ab⟩,?_⟩|refine⟨_,λB V C=>qXA B (C.cel (id:=6) rfl 10 rfl),?_⟩|refine⟨λ_=>?_,λh=>absurd h.symm zAi⟩|refine⟨λh=>absurd h zAi,λ_=>?_⟩|refine zG ?_ ?_|fail)<;>first|(refine zq ?_;intros)|rfl)
     all_goals(conv=>whnf)
     all_goals(first|exact zAu _|(
      intro g2 q;refine⟨_,_,by rw[u]<;>rfl,by rw[A];exact qBA _ _ _ _ q E,?_⟩;rw[hM9]
      exact⟨_,_,_,rfl,{L with i:=z0,pc:=show InR (9:zt) by decide},P,qAA _ _ _ _ (GW.trans R q) Q⟩))
    .simp only[zA2,reduceIte,zC2,zBL,zCO,zA6,reduceCtorEq]at A hM9 u;rw[W]at hM9;refine zq ?_;intros
     repeat'((first|refine⟨_,rfl,⟨T,U⟩,?_⟩|refine⟨_,⟨rfl,ab⟩,?_⟩|refine⟨_,λB V C=>qXA B (C.cel (id:=6) rfl 10 rfl),?_⟩|refine⟨λ_=>?_,λh=>absurd h.symm zAi⟩|refine⟨λh=>absurd h zAi,λ_=>?_⟩|refine zG ?_ ?_|fail)<;>first|(refine zq ?_;intros)|rfl)
     all_goals(conv=>whnf)
     all_goals(first|exact zAu _|(
      intro g2 q;refine⟨_,_,by rw[u]<;>rfl,by rw[A];exact qBA _ _ _ _ q E,?_⟩;rw[hM9]
      exact⟨_,_,_,rfl,{L with pc:=show InR (8:zt) by decide,i:=show InR (1:zt) by decide},P,qAA _ _ _ _ (GW.trans R q) Q⟩))
  .have y:¬(w.An.length:zt)<=H:=zf y;rw[zj y]at A hM9 u;obtain⟨x,D⟩:=qEA (l:=w.An) (i:=H.toNat) sa;rw[qLH D]at hM9 u;have aB:=KH E;obtain⟨bT,rfl⟩:=qVA aB D;obtain⟨⟨a4,aC⟩,af⟩:=qLc aB D;obtain⟨bU,a5,xg⟩:=x;have T:0<=H:=sa
   have U:H<w.An.length:=sa
   have W:H+1=zAj.wrap (H+1):=by rw[zBz];omega
   cases xg
   .by_cases hs:qiJ a5 ae
    .rw[zj (λh=>h.elim (λh=>absurd h zAi) λh=>h hs)]at hM9;refine zq ?_;intros
     repeat'((first|refine⟨_,rfl,⟨T,U⟩,?_⟩|refine⟨_,⟨rfl,af⟩,?_⟩|refine .inl ⟨_,(qKV _ aC).to (zI zBt (zR hs)),?_⟩|refine⟨_,λB V C=>qXA B (C.cel (id:=6) rfl 10 rfl),?_⟩|refine⟨λ_=>?_,λh=>absurd h.symm zAi⟩|refine⟨λh=>absurd h zAi,λ_=>?_⟩|refine zG ?_ ?_|fail)<;>first|(refine zq ?_;intros)|rfl)
     all_goals(conv=>whnf)
     all_goals(first|exact zAu _|(
      intro g2 q;refine⟨_,_,by rw[u]<;>rfl,by rw[A];exact qBA _ _ _ _ q E,?_⟩;rw[hM9]
      exact⟨_,_,_,rfl,{L with Ac:=a4,Af:=z0,Ak:=z0,other:=z0,slot:=z0,k:=z0,pc:=show InR (5:zt) by decide},P,qAA _ _ _ _ (GW.trans R q) Q⟩))
    .rw[zk (.inr hs)]at hM9;simp only at hM9;rw[W]at hM9;refine zq ?_;intros
     repeat'((first|refine⟨_,rfl,⟨T,U⟩,?_⟩|refine⟨_,⟨rfl,af⟩,?_⟩|refine .inl ⟨_,(qKV _ aC).to (zI zBt (zT hs)),?_⟩|refine⟨_,λB V C=>qXA B (C.cel (id:=6) rfl 10 rfl),?_⟩|refine⟨λ_=>?_,λh=>absurd h.symm zAi⟩|refine⟨λh=>absurd h zAi,λ_=>?_⟩|refine zG ?_ ?_|fail)<;>first|(refine zq ?_;intros)|rfl)
     all_goals(conv=>whnf)
     all_goals(first|exact zAu _|(
      intro g2 q;refine⟨_,_,by rw[u]<;>rfl,by rw[A];exact qBA _ _ _ _ q E,?_⟩;rw[hM9]
      exact⟨_,_,_,rfl,{L with i:=qDB _},P,qAA _ _ _ _ (GW.trans R q) Q⟩))
   .rw[zk (.inl rfl)]at hM9;simp only at hM9;rw[W]at hM9;refine zq ?_;intros
    repeat'((first|refine⟨_,rfl,⟨T,U⟩,?_⟩|refine⟨_,⟨rfl,af⟩,?_⟩|refine⟨_,λB V C=>qXA B (C.cel (id:=6) rfl 10 rfl),?_⟩|refine⟨λ_=>?_,λh=>absurd h.symm zAi⟩|refine⟨λh=>absurd h zAi,λ_=>?_⟩|refine zG ?_ ?_|fail)<;>first|(refine zq ?_;intros)|rfl)
    all_goals(conv=>whnf)
    all_goals(first|exact zAu _|(
     intro g2 q;refine⟨_,_,by rw[u]<;>rfl,by rw[A];exact qBA _ _ _ _ q E,?_⟩;rw[hM9]
     exact⟨_,_,_,rfl,{L with i:=qDB _},P,qAA _ _ _ _ (GW.trans R q) Q⟩)))
def qyc(g){cs aw}{w}{m:Ah}(aF:rWo g cs w)(hM:qdA g aw m)(aG:SnW w)(Q:BgW 1000000 w)(R:cGo w m)(ax:m.pc=5):Ok Tryz.prog 151 [.agg ⟨cs⟩,.agg ⟨aw⟩] g (CoP w m):=by
 obtain⟨T,hM9,u⟩:=qqH R;have hs:=R.1;have aH:=qwE R.2.1;obtain⟨v,bc,bd,E⟩:=id (Am.1 hs);obtain⟨aI,aJ,aK,aL,aM,aN,aO,aP,aQ,aR,aT,aU,aW,aX,aY,aZ,rfl,rfl,aa,ay,⟨be,bf,bh⟩,bi,bj,bl,bm,bn,⟨bo,bp,bq,br⟩,⟨bt,bu,bv,bw⟩,⟨c1,c2,bx,bz⟩,⟨d1,d2,bA,bB⟩,⟨e1,e2,bC,bD⟩,ab,ac,ad⟩:=qhB aF hM;obtain⟨H,ae,bE,af,L,ag,ah,men,ai,msl,aj,ak,U,mk,al,am,an,ao⟩:=m;simp only at ax;subst ax;obtain⟨az,aA,kE⟩:=cb5 (w:=w) (m:=⟨H,ae,5,af,L,ag,ah,men,ai,msl,aj,ak,U,mk,al,am,an,ao⟩) rfl;rw[az]at T;rw[aA]at hM9;rw[kE]at u;clear az aA kE
 exact Ok.Aq hm qnF 5 Mf.2 (args:=[.v (.agg ⟨wQ w aI aJ aK aL aM aN aO aP aQ aR⟩),.v (.agg ⟨Ah.cs (.slice aT H.Ao.Aa.length aU) (.slice aW H.Ao.Ar.length aX) (.slice aY H.Ao.Ad.length aZ) ⟨H,ae,5,af,L,ag,ah,men,ai,msl,aj,ak,U,mk,al,am,an,ao⟩⟩)]) (by
  refine zq ?_;intros;refine .inl ⟨_,qUA _ aa ay aG Q,zq ?_⟩;intros;refine⟨λA=>absurd (hs.symm.trans (nb1 A)) sb,λ_=>zq ?_⟩;intros;refine .inl ⟨_,qqF _ aa ay hs Q,zq ?_⟩;intros;refine⟨λA=>absurd (aH.symm.trans (nb1 A)) sb,λ_=>zq ?_⟩;intros;refine .inr ((qSA _ aa Q).mono λv g3 ap a0=>?_);obtain⟨cs,bF,rfl,a1⟩:=a0;have aq:=qbA a1;obtain⟨bG,bH,bI,bJ,bK,bL,bM,bN,a2,a3,rfl⟩:=qLA aq;refine zq ?_;intros;rename_i aB aC bO bP;refine zw ?_;refine⟨O (.func (.func 186) ⟨[xC aB aC]⟩ ⟨[]⟩),rfl,zw ?_⟩;refine⟨λh=>(nomatch h),λ_=>zq ?_⟩;intros;refine⟨kF,[.agg [.p 5 aB 0,.p 6 aC 0]],[],⟨rfl,rfl⟩,?_⟩;have bQ:0<=U:=E.i;have a4:0<=mk:=E.k;have P:0<=L/\w.Ab[L.toNat]?=O v:=E.ver;have bR:=(ze.1 P.2).1;have a5:L<w.Ab.length:=sa
  have ar:=Q.2.2 v (zh P.2);have V:=R.2.1.2.1 rfl;rw[E.at_.1]at hM9 V;have V:mk<(q5B v).length:=V
  have bT:(q5B v).length<=1000000000000:=by
   have:=qLK ar v.Aj.length (zH _);have bU:=ar.1;have a6:qGF v v.Aj.length=q5B v:=by unfold qGF q5B;rw[zAX]
   rw[a6]at this;omega
  obtain⟨x,A⟩:=qEA (l:=q5B v) (i:=mk.toNat) sa;have a7:(q5B (mV w ⟨H,ae,5,af,L,ag,ah,men,ai,msl,aj,ak,U,mk,al,am,an,ao⟩))[mk.toNat]?=O x:=by rw[E.at_.1];exact A
  rw[qMd a7]at hM9 u;unfold evV at u;rw[E.at_.1]at u;have aD:=qZK aq;obtain⟨bW,rfl⟩:=qVA aD P.2;obtain⟨bX,bY,bZ,b0,b1,b2,b3,b4,a8,a9,_,ba⟩:=qzF aD P.2;refine zq ?_;intros
  repeat'((first|refine⟨_,rfl,⟨P.1,a5⟩,zq ?_⟩|refine⟨_,⟨rfl,a8⟩,zq ?_⟩|rfl)<;>intros)
  refine .inr ((qtR _ ⟨_,_,_,_,rfl,a9,ba⟩ ar).mono λy b5 W hE=>?_);obtain⟨a2,a3,rfl,aE⟩:=hE;obtain⟨b6,rfl⟩:=qVA aE A;obtain⟨b7,b8,bb,b9⟩:=qNH aE A;have au:=qBA _ _ _ _ W aq;have Y:mk+1=zAj.wrap (mk+1):=by rw[zBz];omega
  refine zq ?_;intros
  repeat'((first|refine⟨_,rfl,⟨a4,V⟩,zq ?_⟩|refine⟨_,bb 2 _ rfl,zq ?_⟩|refine⟨_,λB av C=>qXA B (C.cel (id:=6) rfl 10 rfl),zq ?_⟩|rfl)<;>intros)
  refine zG (λz=>?_) (λz=>?_)
  .have z:x.Ae≠0:=FB z;rw[zk z]at hM9;refine zq ?_;intros
   repeat'((first|refine⟨_,λB av C=>qXA B (C.cel (id:=6) rfl 10 rfl),?_⟩|refine⟨λ_=>?_,λh=>absurd h.symm zAi⟩|refine⟨λh=>absurd h zAi,λ_=>?_⟩|refine zG ?_ ?_|fail)<;>first|(refine zq ?_;intros)|rfl)
   all_goals(conv=>whnf)
   all_goals(first|exact zAu _|(
    intro g2 q;refine⟨_,_,by rw[u]<;>rfl,by rw[T];exact qBA _ _ _ _ q au,?_⟩;rw[hM9]
    exact⟨_,_,_,rfl,{ab with pc:=show InR (4:zt) by decide,i:=qDB _},ac,qAA _ _ _ _ (GW.trans (GW.trans ap W) q) ad⟩))
  .have z:x.Ae=0:=F1 z;rw[zj λh=>h z]at hM9;refine zq ?_;intros;refine zG (λD=>?_) (λD=>?_)
   .have D:mk+1<(q5B v).length:=by rw[Y];exact zd D
    rw[zk D]at hM9;simp only at hM9;rw[Y]at hM9;refine zq ?_;intros
    repeat'((first|refine⟨_,λB av C=>qXA B (C.cel (id:=6) rfl 10 rfl),?_⟩|refine⟨λ_=>?_,λh=>absurd h.symm zAi⟩|refine⟨λh=>absurd h zAi,λ_=>?_⟩|refine zG ?_ ?_|fail)<;>first|(refine zq ?_;intros)|rfl)
    all_goals(conv=>whnf)
    all_goals(first|exact zAu _|(
     intro g2 q;refine⟨_,_,by rw[u]<;>rfl,by rw[T];exact qBA _ _ _ _ q au,?_⟩;rw[hM9]
     exact⟨_,_,_,rfl,{ab with k:=qDB _},ac,qAA _ _ _ _ (GW.trans (GW.trans ap W) q) ad⟩))
   .have D:¬mk+1<(q5B v).length:=by rw[Y];exact zf D
    rw[zj D]at hM9;simp only at hM9;rw[Y]at hM9;refine zq ?_;intros
    repeat'((first|refine⟨_,λB av C=>qXA B (C.cel (id:=6) rfl 10 rfl),?_⟩|refine⟨λ_=>?_,λh=>absurd h.symm zAi⟩|refine⟨λh=>absurd h zAi,λ_=>?_⟩|refine zG ?_ ?_|fail)<;>first|(refine zq ?_;intros)|rfl)
    all_goals(conv=>whnf)
    all_goals(first|exact zAu _|(
     intro g2 q;refine⟨_,_,by rw[u]<;>rfl,by rw[T];exact qBA _ _ _ _ q au,?_⟩;rw[hM9]
     exact⟨_,_,_,rfl,{ab with k:=qDB _,pc:=show InR (6:zt) by decide},ac,qAA _ _ _ _ (GW.trans (GW.trans ap W) q) ad⟩)))
def qxc(g){cs R}{w}{m:Ah}(av:rWo g cs w)(hM:qdA g R m)(aw:SnW w)(C:BgW 1000000 w)(D:cGo w m)(T:m.pc=6):Ok Tryz.prog 151 [.agg ⟨cs⟩,.agg ⟨R⟩] g (CoP w m):=by
 obtain⟨E,hM9,U⟩:=qqH D;have hs:=D.1;have ax:=qwE D.2.1;obtain⟨v,br,bt,H⟩:=id (Am.1 hs);obtain⟨ay,az,aA,aB,aC,aD,aE,aF,aG,aH,aI,aJ,aK,aL,aM,aN,rfl,rfl,L,V,⟨bu,bv,bw⟩,bx,bz,bA,bB,bC,⟨bD,bE,bF,bG⟩,⟨bH,bI,bJ,bK⟩,⟨c1,c2,bL,bM⟩,⟨d1,d2,bN,bO⟩,⟨e1,e2,bP,bQ⟩,W,aO,aP⟩:=qhB av hM;obtain⟨u,Y,bR,aa,A,ab,ac,men,ad,msl,ae,af,h,mk,ag,ah,ai,aj⟩:=m;simp only at T;subst T;obtain⟨ak,al,kE⟩:=cb6 (w:=w) (m:=⟨u,Y,6,aa,A,ab,ac,men,ad,msl,ae,af,h,mk,ag,ah,ai,aj⟩) rfl;rw[ak]at E;rw[al]at hM9;rw[kE]at U;clear ak al kE
 exact Ok.Aq hm qnF 5 Mf.2 (args:=[.v (.agg ⟨wQ w ay az aA aB aC aD aE aF aG aH⟩),.v (.agg ⟨Ah.cs (.slice aI u.Ao.Aa.length aJ) (.slice aK u.Ao.Ar.length aL) (.slice aM u.Ao.Ad.length aN) ⟨u,Y,6,aa,A,ab,ac,men,ad,msl,ae,af,h,mk,ag,ah,ai,aj⟩⟩)]) (by
  refine zq ?_;intros;refine .inl ⟨_,qUA _ L V aw C,zq ?_⟩;intros;refine⟨λq=>absurd (hs.symm.trans (nb1 q)) sb,λ_=>zq ?_⟩;intros;refine .inl ⟨_,qqF _ L V hs C,zq ?_⟩;intros;refine⟨λq=>absurd (ax.symm.trans (nb1 q)) sb,λ_=>zq ?_⟩;intros;refine .inr ((qSA _ L C).mono λv g3 aQ aR=>?_);obtain⟨cs,bT,rfl,am⟩:=aR;have aT:=qbA am;obtain⟨bU,bW,bX,bY,bZ,b0,b1,b2,b3,b4,rfl⟩:=qLA aT;refine zq ?_;intros;rename_i an ao b5 b6;refine zw ?_;refine⟨O (.func (.func 187) ⟨[xC an ao]⟩ ⟨[]⟩),rfl,zw ?_⟩;refine⟨λB=>(nomatch B),λ_=>zq ?_⟩;intros;refine⟨kF,[.agg [.p 5 an 0,.p 6 ao 0]],[],⟨rfl,rfl⟩,?_⟩;have aU:0<=h:=H.i;have P:0<=A/\w.Ab[A.toNat]?=O v:=H.ver;have b7:=(ze.1 P.2).1;have aW:A<w.Ab.length:=sa
  have aX:h<w.An.length:=(D.2.1.2.2.1 rfl).1;have b8:=C.1.2.2.2.2;obtain⟨x,q⟩:=qEA (l:=w.An) (i:=h.toNat) sa;rw[qLH q,H.at_.1]at E;obtain⟨bk,cap,Q,aY,aZ,a0,a1,⟨a2,a3,a4,a5,a6⟩,_,a7⟩:=qVa am P.2 I;cases Q;have a8:h+1=zAj.wrap (h+1):=by rw[zBz];omega
  simp only at hM9;rw[a8]at hM9;refine zq ?_;intros
  repeat'((first|refine⟨_,rfl,⟨P.1,aW⟩,zq ?_⟩|rfl)<;>intros)
  refine⟨aY,aZ,a0,a1,⟨a2,a3,a4,a5,a6⟩,zq ?_⟩;intros;refine λap aq=>?_;have a9:=a7 ap aq;have ba:g<=ap:=aq.le aQ (λB=>by have:=g.wf _ B;omega);obtain⟨b9,ca,Q,_,bb,bc,bd,be,⟨bf,bh,bi,bj,bl⟩,_,bm⟩:=qUa a9 q I;cases Q;refine zq ?_;intros
  repeat'((first|refine⟨_,rfl,⟨aU,aX⟩,zq ?_⟩|rfl)<;>intros)
  refine⟨bb,bc,bd,be,⟨bf,bh,bi,bj,bl⟩,zq ?_⟩;intros;refine λar u8=>?_;have bn:=qbA (bm ar u8);have bo:g<=ar:=u8.le ba (λB=>by have:=g.wf _ B;omega);refine zq ?_;intros
  repeat'((first|refine⟨_,λbp cb bq=>qXA bp (bq.cel (id:=6) rfl 10 rfl),?_⟩|refine zG ?_ ?_|fail)<;>first|(refine zq ?_;intros)|rfl)
  all_goals(conv=>whnf)
  all_goals(first|exact zAu _|(
   intro g2 au;refine⟨_,_,by rw[U]<;>rfl,by rw[E];exact qBA _ _ _ _ au bn,?_⟩;rw[hM9]
   exact⟨_,_,_,rfl,{W with pc:=show InR (4:zt) by decide,i:=qDB _,answer:={W.answer with n:=qDB _}},aO,qAA _ _ _ _ (GW.trans bo au) aP⟩)))
def qwc(g){cs ae}{w}{m:Ah}(aA:rWo g cs w)(hM:qdA g ae m)(aB:SnW w)(U:BgW 1000000 w)(ab:cGo w m)(af:m.pc=8):Ok Tryz.prog 151 [.agg ⟨cs⟩,.agg ⟨ae⟩] g (CoP w m):=by
 obtain⟨u,hM9,q⟩:=qqH ab;have hs:=ab.1;have aC:=qwE ab.2.1;obtain⟨v,a1,a2,aD⟩:=id (Am.1 hs);obtain⟨aE,aF,aG,aH,aI,aJ,aK,aL,aM,aN,aO,aP,aQ,aR,aT,aU,rfl,rfl,ac,ag,⟨a3,a4,a5⟩,a6,a7,a8,a9,ba,⟨bb,bc,bd,be⟩,⟨bf,bh,bi,bj⟩,⟨c1,c2,bl,bm⟩,⟨d1,d2,bn,bo⟩,⟨e1,e2,bp,bq⟩,L,P,Q⟩:=qhB aA hM;obtain⟨R,ah,br,ai,aj,ak,al,men,am,msl,an,ao,B,mk,ap,aq,ar,au⟩:=m;simp only at af;subst af;obtain⟨av,aw,kE⟩:=cb8 (w:=w) (m:=⟨R,ah,8,ai,aj,ak,al,men,am,msl,an,ao,B,mk,ap,aq,ar,au⟩) rfl;rw[av]at u;rw[aw]at hM9;rw[kE]at q;clear av aw kE
 exact Ok.Aq hm qnF 5 Mf.2 (args:=[.v (.agg ⟨wQ w aE aF aG aH aI aJ aK aL aM aN⟩),.v (.agg ⟨Ah.cs (.slice aO R.Ao.Aa.length aP) (.slice aQ R.Ao.Ar.length aR) (.slice aT R.Ao.Ad.length aU) ⟨R,ah,8,ai,aj,ak,al,men,am,msl,an,ao,B,mk,ap,aq,ar,au⟩⟩)]) (by
  refine zq ?_;intros;refine .inl ⟨_,qUA _ ac ag aB U,zq ?_⟩;intros;refine⟨λE=>absurd (hs.symm.trans (nb1 E)) sb,λ_=>zq ?_⟩;intros;refine .inl ⟨_,qqF _ ac ag hs U,zq ?_⟩;intros;refine⟨λE=>absurd (aC.symm.trans (nb1 E)) sb,λ_=>zq ?_⟩;intros;refine .inr ((qSA _ ac U).mono λv g3 T aW=>?_);obtain⟨cs,bt,rfl,aX⟩:=aW;have H:=qbA aX;obtain⟨bu,bv,bw,bx,bz,bA,bB,bC,bD,bE,rfl⟩:=qLA H;refine zq ?_;intros;rename_i ax ay bF bG;refine zw ?_;refine⟨O (.func (.func 188) ⟨[xC ax ay]⟩ ⟨[]⟩),rfl,zw ?_⟩;refine⟨λh=>(nomatch h),λ_=>zq ?_⟩;intros;refine⟨kF,[.agg [.p 5 ax 0,.p 6 ay 0]],[],⟨rfl,rfl⟩,?_⟩;have bH:0<=B:=aD.i;have bI:=U.1.2.2.1;refine zq ?_;intros;refine zG (λz=>?_) (λz=>?_)
  .have z:(w.Aa.length:zt)<=B:=zd z;simp only[cdW,cdM,cdE]at u hM9 q;rw[zk z]at u hM9 q;have aY:=qFN H (x:=0) sb;refine zq ?_;intros
   repeat'((first|refine⟨_,λC V D=>qXA C (D.cel (id:=6) rfl 10 rfl),?_⟩|refine zG ?_ ?_|fail)<;>first|(refine zq ?_;intros)|rfl)
   all_goals(conv=>whnf)
   all_goals(first|exact zAu _|(
    intro g2 A;refine⟨_,_,by rw[q]<;>rfl,by rw[u];exact qBA _ _ _ _ A aY,?_⟩;rw[hM9]
    exact⟨_,_,_,rfl,{L with answer:=qWW L.answer},P,qAA _ _ _ _ (GW.trans T A) Q⟩))
  .have z:¬(w.Aa.length:zt)<=B:=zf z;simp only[cdW,cdM,cdE]at u hM9 q;rw[zj z]at u hM9 q;obtain⟨x,E⟩:=qEA (l:=w.Aa) (i:=(B:zt).toNat) sa;rw[qJH E]at hM9 q;have az:=qzI H;obtain⟨bJ,rfl⟩:=qVA az E;obtain⟨bK,W⟩:=qKH az E;obtain⟨xn,aZ,bL,a0⟩:=x;have ad:(B:zt)+1=zAj.wrap (B+1):=by rw[zBz];omega
   have Y:0<=(B:zt):=sa
   have aa:(B:zt)<w.Aa.length:=sa
   cases aZ<;>cases a0
   .simp only[zA2,reduceIte,zC2,zBL,zCO,zA6,reduceCtorEq]at u hM9 q;rw[ad]at hM9;refine zq ?_;intros
    repeat'((first|refine⟨_,rfl,⟨Y,aa⟩,?_⟩|refine⟨_,⟨rfl,W⟩,?_⟩|refine⟨_,λC V D=>qXA C (D.cel (id:=6) rfl 10 rfl),?_⟩|refine⟨λ_=>?_,λh=>absurd h.symm zAi⟩|refine⟨λh=>absurd h zAi,λ_=>?_⟩|refine zG ?_ ?_|fail)<;>first|(refine zq ?_;intros)|rfl)
    all_goals(conv=>whnf)
    all_goals(first|exact zAu _|(
     intro g2 A;refine⟨_,_,by rw[q]<;>rfl,by rw[u];exact qBA _ _ _ _ A H,?_⟩;rw[hM9]
     exact⟨_,_,_,rfl,{L with i:=qDB _},P,qAA _ _ _ _ (GW.trans T A) Q⟩))
   .simp only[zA2,reduceIte,zC2,zBL,zCO,zA6,reduceCtorEq]at u hM9 q;rw[ad]at hM9;refine zq ?_;intros
    repeat'((first|refine⟨_,rfl,⟨Y,aa⟩,?_⟩|refine⟨_,⟨rfl,W⟩,?_⟩|refine⟨_,λC V D=>qXA C (D.cel (id:=6) rfl 10 rfl),?_⟩|refine⟨λ_=>?_,λh=>absurd h.symm zAi⟩|refine⟨λh=>absurd h zAi,λ_=>?_⟩|refine zG ?_ ?_|fail)<;>first|(refine zq ?_;intros)|rfl)
    all_goals(conv=>whnf)
    all_goals(first|exact zAu _|(
     intro g2 A;refine⟨_,_,by rw[q]<;>rfl,by rw[u];exact qBA _ _ _ _ A H,?_⟩;rw[hM9]
     exact⟨_,_,_,rfl,{L with i:=qDB _},P,qAA _ _ _ _ (GW.trans T A) Q⟩))
   .simp only[zA2,reduceIte,zC2,zBL,zCO,zA6,reduceCtorEq]at u hM9 q;refine zq ?_;intros
    repeat'((first|refine⟨_,rfl,⟨Y,aa⟩,?_⟩|refine⟨_,⟨rfl,W⟩,?_⟩|refine⟨_,λC V D=>qXA C (D.cel (id:=6) rfl 10 rfl),?_⟩|refine⟨λ_=>?_,λh=>absurd h.symm zAi⟩|refine⟨λh=>absurd h zAi,λ_=>?_⟩|refine zG ?_ ?_|fail)<;>first|(refine zq ?_;intros)|rfl)
    all_goals(conv=>whnf)
    all_goals(first|exact zAu _|(
     intro g2 A;refine⟨_,_,by rw[q]<;>rfl,by rw[u];exact qBA _ _ _ _ A H,?_⟩;rw[hM9]
     exact⟨_,_,_,rfl,{L with pc:=show InR (9:zt) by decide},P,qAA _ _ _ _ (GW.trans T A) Q⟩))
   .simp only[zA2,reduceIte,zC2,zBL,zCO,zA6,reduceCtorEq]at u hM9 q;rw[ad]at hM9;refine zq ?_;intros
    repeat'((first|refine⟨_,rfl,⟨Y,aa⟩,?_⟩|refine⟨_,⟨rfl,W⟩,?_⟩|refine⟨_,λC V D=>qXA C (D.cel (id:=6) rfl 10 rfl),?_⟩|refine⟨λ_=>?_,λh=>absurd h.symm zAi⟩|refine⟨λh=>absurd h zAi,λ_=>?_⟩|refine zG ?_ ?_|fail)<;>first|(refine zq ?_;intros)|rfl)
    all_goals(conv=>whnf)
    all_goals(first|exact zAu _|(
     intro g2 A;refine⟨_,_,by rw[q]<;>rfl,by rw[u];exact qBA _ _ _ _ A H,?_⟩;rw[hM9]
     exact⟨_,_,_,rfl,{L with i:=qDB _},P,qAA _ _ _ _ (GW.trans T A) Q⟩)))
def qvc(g){cs R}{w}{m:Ah}(au:rWo g cs w)(hM:qdA g R m)(av:SnW w)(B:BgW 1000000 w)(C:cGo w m)(T:m.pc=9):Ok Tryz.prog 151 [.agg ⟨cs⟩,.agg ⟨R⟩] g (CoP w m):=by
 obtain⟨H,hM9,D⟩:=qqH C;have hs:=C.1;have aw:=qwE C.2.1;obtain⟨v,aW,aX,ax⟩:=id (Am.1 hs);obtain⟨ay,az,aA,aB,aC,aD,aE,aF,aG,aH,aI,aJ,aK,aL,aM,aN,rfl,rfl,L,U,⟨aY,aZ,a0⟩,a1,a2,a3,a4,a5,⟨a6,a7,a8,a9⟩,⟨ba,bb,bc,bd⟩,⟨c1,c2,be,bf⟩,⟨d1,d2,bh,bi⟩,⟨e1,e2,bj,bl⟩,V,W,Y⟩:=qhB au hM;obtain⟨u,aa,bm,ab,ac,ad,ae,men,af,msl,ag,ah,h,mk,ai,aj,ak,al⟩:=m;simp only at T;subst T;obtain⟨am,an,kE⟩:=cb9 (w:=w) (m:=⟨u,aa,9,ab,ac,ad,ae,men,af,msl,ag,ah,h,mk,ai,aj,ak,al⟩) rfl;rw[am]at H;rw[an]at hM9;rw[kE]at D;clear am an kE
 exact Ok.Aq hm qnF 5 Mf.2 (args:=[.v (.agg ⟨wQ w ay az aA aB aC aD aE aF aG aH⟩),.v (.agg ⟨Ah.cs (.slice aI u.Ao.Aa.length aJ) (.slice aK u.Ao.Ar.length aL) (.slice aM u.Ao.Ad.length aN) ⟨u,aa,9,ab,ac,ad,ae,men,af,msl,ag,ah,h,mk,ai,aj,ak,al⟩⟩)]) (by
  refine zq ?_;intros;refine .inl ⟨_,qUA _ L U av B,zq ?_⟩;intros;refine⟨λq=>absurd (hs.symm.trans (nb1 q)) sb,λ_=>zq ?_⟩;intros;refine .inl ⟨_,qqF _ L U hs B,zq ?_⟩;intros;refine⟨λq=>absurd (aw.symm.trans (nb1 q)) sb,λ_=>zq ?_⟩;intros;refine .inr ((qSA _ L B).mono λv g3 ao aO=>?_);obtain⟨cs,bn,rfl,aP⟩:=aO;have E:=qbA aP;obtain⟨bo,bp,bq,br,bt,bu,bv,bw,bx,bz,rfl⟩:=qLA E;refine zq ?_;intros;rename_i ap aq bA bB;refine zw ?_;refine⟨O (.func (.func 189) ⟨[xC ap aq]⟩ ⟨[]⟩),rfl,zw ?_⟩;refine⟨λaQ=>(nomatch aQ),λ_=>zq ?_⟩;intros;refine⟨kF,[.agg [.p 5 ap 0,.p 6 aq 0]],[],⟨rfl,rfl⟩,?_⟩;have bC:0<=h:=ax.i;have bD:h<w.Aa.length:=C.2.1.2.2.2.1 rfl;obtain⟨x,q⟩:=qEA (l:=w.Aa) (i:=h.toNat) sa;rw[qJH q]at hM9 D;have ar:=qzI E;obtain⟨bE,rfl⟩:=qVA ar q;obtain⟨bF,aR⟩:=qKH ar q;have bG:=B.1.2.2.1;refine zq ?_;intros
  repeat'((first|refine⟨_,rfl,⟨sa,sa⟩,zq ?_⟩|refine⟨_,aR 2 _ rfl,zq ?_⟩|rfl)<;>intros)
  refine zG (λz=>?_) (λz=>?_)
  .have z:x.Ae=0:=zd z;rw[zk z]at hM9;refine zq ?_;intros
   repeat'((first|refine⟨_,λP aT Q=>qXA P (Q.cel (id:=6) rfl 10 rfl),?_⟩|refine zG ?_ ?_|fail)<;>first|(refine zq ?_;intros)|rfl)
   all_goals(conv=>whnf)
   all_goals(first|exact zAu _|(
    intro g2 A;refine⟨_,_,by rw[D]<;>rfl,by rw[H];exact qBA _ _ _ _ A E,?_⟩;rw[hM9]
    exact⟨_,_,_,rfl,{V with pc:=show InR (10:zt) by decide},W,qAA _ _ _ _ (GW.trans ao A) Y⟩))
  .have z:¬x.Ae=0:=zf z;rw[zj z]at hM9;have aU:h+1=zAj.wrap (h+1):=by rw[zBz];omega
   simp only at hM9;rw[aU]at hM9;refine zq ?_;intros
   repeat'((first|refine⟨_,λP aT Q=>qXA P (Q.cel (id:=6) rfl 10 rfl),?_⟩|refine zG ?_ ?_|fail)<;>first|(refine zq ?_;intros)|rfl)
   all_goals(conv=>whnf)
   all_goals(first|exact zAu _|(
    intro g2 A;refine⟨_,_,by rw[D]<;>rfl,by rw[H];exact qBA _ _ _ _ A E,?_⟩;rw[hM9]
    exact⟨_,_,_,rfl,{V with pc:=show InR (8:zt) by decide,i:=qDB _},W,qAA _ _ _ _ (GW.trans ao A) Y⟩)))
def qKa(g){cs H}{w}{m:Ah}(ap:rWo g cs w)(hM:qdA g H m)(aq:SnW w)(A:BgW 1000000 w)(B:cGo w m)(L:m.pc=10):Ok Tryz.prog 151 [.agg ⟨cs⟩,.agg ⟨H⟩] g (CoP w m):=by
 obtain⟨C,hM9,P⟩:=qqH B;have hs:=B.1;have ar:=qwE B.2.1;obtain⟨v,a9,ba,au⟩:=id (Am.1 hs);obtain⟨av,aw,ax,ay,az,aA,aB,aC,aD,aE,aF,aG,aH,aI,aJ,aK,rfl,rfl,D,Q,⟨bb,bc,bd⟩,be,bf,bh,bi,bj,⟨bl,bm,bn,bo⟩,⟨bp,bq,br,bt⟩,⟨c1,c2,bu,bv⟩,⟨d1,d2,bw,bx⟩,⟨e1,e2,bz,bA⟩,aL,aM,aN⟩:=qhB ap hM;obtain⟨u,R,bB,T,U,V,W,men,Y,msl,aa,ab,h,mk,ac,ad,ae,af⟩:=m;simp only at L;subst L;obtain⟨ag,ah,kE⟩:=Im (w:=w) (m:=⟨u,R,10,T,U,V,W,men,Y,msl,aa,ab,h,mk,ac,ad,ae,af⟩) rfl;rw[ag]at C;rw[ah]at hM9;rw[kE]at P;clear ag ah kE
 exact Ok.Aq hm qnF 5 Mf.2 (args:=[.v (.agg ⟨wQ w av aw ax ay az aA aB aC aD aE⟩),.v (.agg ⟨Ah.cs (.slice aF u.Ao.Aa.length aG) (.slice aH u.Ao.Ar.length aI) (.slice aJ u.Ao.Ad.length aK) ⟨u,R,10,T,U,V,W,men,Y,msl,aa,ab,h,mk,ac,ad,ae,af⟩⟩)]) (by
  refine zq ?_;intros;refine .inl ⟨_,qUA _ D Q aq A,zq ?_⟩;intros;refine⟨λq=>absurd (hs.symm.trans (nb1 q)) sb,λ_=>zq ?_⟩;intros;refine .inl ⟨_,qqF _ D Q hs A,zq ?_⟩;intros;refine⟨λq=>absurd (ar.symm.trans (nb1 q)) sb,λ_=>zq ?_⟩;intros;refine .inr ((qSA _ D A).mono λv g3 aO aP=>?_);obtain⟨cs,bC,rfl,ai⟩:=aP;have aj:=qbA ai;obtain⟨bD,bE,bF,bG,bH,bI,bJ,bK,bL,bM,rfl⟩:=qLA aj;refine zq ?_;intros;rename_i ak al bN bO;refine zw ?_;refine⟨O (.func (.func 190) ⟨[xC ak al]⟩ ⟨[]⟩),rfl,zw ?_⟩;refine⟨λE=>(nomatch E),λ_=>zq ?_⟩;intros;refine⟨kF,[.agg [.p 5 ak 0,.p 6 al 0]],[],⟨rfl,rfl⟩,?_⟩;have bP:0<=h:=au.i;have bQ:h<w.Aa.length:=(B.2.1.2.2.2.2 rfl).1;obtain⟨x,q⟩:=qEA (l:=w.Aa) (i:=h.toNat) sa;rw[qJH q]at C;have aQ:=(qja aj q);obtain⟨bk,cap,aR,bR,aT,aU,aW,aX,⟨aY,aZ,a0,a1,a2⟩,_,a3⟩:=qmK ai q (x':={x with closed:=I}) (o:=3) (vs:=[.bool I]) se (by simp[zAY]) rfl aQ;cases aR;have bT:=A.1.2.2.1;have a4:h+1=zAj.wrap (h+1):=by rw[zBz];omega
  simp only at hM9;rw[a4]at hM9;refine zq ?_;intros
  repeat'((first|refine⟨_,rfl,⟨sa,sa⟩,zq ?_⟩|rfl)<;>intros)
  refine⟨aT,aU,aW,aX,⟨aY,aZ,a0,a1,a2⟩,zq ?_⟩;intros;refine λam an=>?_;have a5:=qbA (a3 am an);have a6:g<=am:=an.le aO (λE=>by have:=g.wf _ E;omega);refine zq ?_;intros
  repeat'((first|refine⟨_,λa7 bU a8=>qXA a7 (a8.cel (id:=6) rfl 10 rfl),?_⟩|refine zG ?_ ?_|fail)<;>first|(refine zq ?_;intros)|rfl)
  all_goals(conv=>whnf)
  all_goals(first|exact zAu _|(
   intro g2 ao;refine⟨_,_,by rw[P]<;>rfl,by rw[C];exact qBA _ _ _ _ ao a5,?_⟩;rw[hM9]
   exact⟨_,_,_,rfl,{aL with pc:=show InR (8:zt) by decide,i:=qDB _},aM,qAA _ _ _ _ (GW.trans a6 ao) aN⟩)))
def quc(g){cs H}{w}{m:Ah}(Q:rWo g cs w)(hM:qdA g H m)(R:SnW w)(B:BgW 1000000 w)(hs:qzA w m=I)(T:Et w m)(C:¬(0<=m.pc/\m.pc<=10/\m.pc≠7)):Ok Tryz.prog 151 [.agg ⟨cs⟩,.agg ⟨H⟩] g (CoP w m):=by
 obtain⟨U,hM9,V⟩:=qDb (w:=w) (m:=m) λh=>C h.2.2;have W:=qwE T;obtain⟨v,aH,aI,aJ⟩:=id (Am.1 hs);obtain⟨Y,aa,ab,ac,ad,ae,af,ag,ah,ai,aj,ak,al,am,an,ao,rfl,rfl,u,D,⟨aK,aL,aM⟩,aN,aO,aP,aQ,aR,⟨aT,aU,aW,aX⟩,⟨aY,aZ,a0,a1⟩,⟨c1,c2,a2,a3⟩,⟨d1,d2,a4,a5⟩,⟨e1,e2,a6,a7⟩,a8,a9,ba⟩:=qhB Q hM;obtain⟨A,ap,q,aq,ar,au,av,men,aw,msl,ax,ay,az,mk,aA,aB,aC,aD⟩:=m
 exact Ok.Aq hm qnF 5 Mf.2 (args:=[.v (.agg ⟨wQ w Y aa ab ac ad ae af ag ah ai⟩),.v (.agg ⟨Ah.cs (.slice aj A.Ao.Aa.length ak) (.slice al A.Ao.Ar.length am) (.slice an A.Ao.Ad.length ao) ⟨A,ap,q,aq,ar,au,av,men,aw,msl,ax,ay,az,mk,aA,aB,aC,aD⟩⟩)]) (by
  refine zq ?_;intros;refine .inl ⟨_,qUA _ u D R B,zq ?_⟩;intros;refine⟨λE=>absurd (hs.symm.trans (nb1 E)) sb,λ_=>zq ?_⟩;intros;refine .inl ⟨_,qqF _ u D hs B,zq ?_⟩;intros;refine⟨λE=>absurd (W.symm.trans (nb1 E)) sb,λ_=>zq ?_⟩;intros;refine .inr ((qSA _ u B).mono λv g3 L aE=>?_);obtain⟨cs,bb,rfl,aF⟩:=aE;have aG:=qbA aF;obtain⟨bc,bd,be,bf,bh,bi,bj,bl,bm,bn,rfl⟩:=qLA aG;refine zq ?_;intros;rename_i bo bp bq br;have C:¬(0<=q/\q<=10/\q≠7):=C;refine zw ?_;refine⟨zc,?_,?_⟩
  .show B5 (.i q) _=zc
   repeat rw[qsK,zj (λh=>absurd (Ky.i.inj (BQ.1 h)) sa)]
   rfl
  refine zq ?_;intros
  repeat'((first|refine⟨λ_=>?_,λh=>absurd h.symm zAi⟩|refine⟨λh=>absurd h zAi,λ_=>?_⟩|refine zG ?_ ?_|fail)<;>first|(refine zq ?_;intros)|rfl)
  all_goals(conv=>whnf)
  all_goals(first|exact zAu _|(
   intro g2 P
   exact⟨_,_,by rw[V]<;>rfl,by rw[U];exact qBA _ _ _ _ (GW.trans L P) u,by rw[hM9];exact qTA _ _ _ _ (GW.trans L P) D⟩)))
def qtc(g){cs u}{w}{m:Ah}(ah:rWo g cs w)(hM:qdA g u m)(ai:SnW w)(A:BgW 1000000 w)(B:¬(qzA w m=I/\Et w m)):Ok Tryz.prog 151 [.agg ⟨cs⟩,.agg ⟨u⟩] g (CoP w m):=by
 obtain⟨aj,hM9,ak⟩:=qDb (w:=w) (m:=m) λC=>B ⟨C.1,C.2.1⟩;obtain⟨D,E,H,L,P,Q,R,T,U,V,W,Y,aa,ab,ac,ad,rfl,rfl,h,q,⟨al,am,an⟩,ao,ap,aq,ar,au,⟨av,aw,ax,ay⟩,⟨az,aA,aB,aC⟩,⟨c1,c2,aD,aE⟩,⟨d1,d2,aF,aG⟩,⟨e1,e2,aH,aI⟩,aJ,aK,aL⟩:=qhB ah hM
 exact Ok.Aq hm qnF 5 Mf.2 (args:=[.v (.agg ⟨wQ w D E H L P Q R T U V⟩),.v (.agg ⟨mQ m W Y aa ab ac ad⟩)]) (by
  have fin:∀g2,g<=g2->CoP w m (.tuple #[.agg ⟨wQ w D E H L P Q R T U V⟩,.agg ⟨mQ m W Y aa ab ac ad⟩,.agg ⟨ev0.cs⟩]) g2:=by
   intro g2 ae;exact⟨_,_,by rw[ak]<;>rfl,by rw[aj];exact qBA _ _ _ _ ae h,by rw[hM9];exact qTA _ _ _ _ ae q⟩
  refine zq ?_;intros;refine .inl ⟨_,qUA _ h q ai A,zq ?_⟩;intros;refine zG (λaf=>?_) (λaf=>?_)
  .refine zq ?_;intros
   repeat'((first|refine zG ?_ ?_|fail)<;>first|(refine zq ?_;intros)|rfl)
   all_goals(conv=>whnf)
   all_goals(first|exact zAu _|exact fin)
  have hs:=nb0 af;refine zq ?_;intros;refine .inl ⟨_,qqF _ h q hs A,zq ?_⟩;intros;refine zG (λag=>?_) (λag=>?_)
  .refine zq ?_;intros
   repeat'((first|refine zG ?_ ?_|fail)<;>first|(refine zq ?_;intros)|rfl)
   all_goals(conv=>whnf)
   all_goals(first|exact zAu _|exact fin)
  exact absurd ⟨hs,qGd (nb0 ag)⟩ B)
def qiX(g){cs D}{w}{m:Ah}(q:rWo g cs w)(hM:qdA g D m)(u:SnW w)(A:BgW 1000000 w):Ok Tryz.prog 151 [.agg ⟨cs⟩,.agg ⟨D⟩] g (CoP w m):=by
 by_cases C:qzA w m=I/\Et w m
 .by_cases E:0<=m.pc/\m.pc<=10/\m.pc≠7
  .have B:cGo w m:=⟨C.1,C.2,E⟩;rcases(show m.pc=0\/m.pc=1\/m.pc=2\/m.pc=3\/m.pc=4\/m.pc=5\/m.pc=6\/m.pc=8\/m.pc=9\/m.pc=10 by omega)with h|h|h|h|h|h|h|h|h|h
   .exact q4c g q hM u A B h
   .exact q3c g q hM u A B h
   .exact q2c g q hM u A B h
   .exact q1c g q hM u A B h
   .exact q0c g q hM u A B h
   .exact qyc g q hM u A B h
   .exact qxc g q hM u A B h
   .exact qwc g q hM u A B h
   .exact qvc g q hM u A B h
   .exact qKa g q hM u A B h
  .exact quc g q hM u A C.1 C.2 E
 .exact qtc g q hM u A C
def k6{k:zt}(h:0<=k/\k<=5):k=0\/k=1\/k=2\/k=3\/k=4\/k=5:=sa
def q8Z(g)(c:C6){k}(n)(q:0<=k/\k<=5):OkV Tryz.prog 191 [.agg ⟨c.cs⟩,.int .i64 k,.int .u64 n] g (.agg ⟨(c.set (zBP.wrap (c.get k.toNat+n)) k.toNat).cs⟩):=by
 rcases k6 q with rfl|rfl|rfl|rfl|rfl|rfl
 .exact Ok.Aq hm noT 0 Mk.2 (args:=[.v (.agg ⟨c.cs⟩),.v (.int .i64 0),.v (.int .u64 n)]) (by
   refine zq ?_;intros;refine⟨0,⟨rfl,sb⟩,zq ?_⟩;intros;refine⟨0,⟨rfl,sb⟩,zq ?_⟩;intros;intro g2 h
   rfl)
 .exact Ok.Aq hm noT 0 Mk.2 (args:=[.v (.agg ⟨c.cs⟩),.v (.int .i64 1),.v (.int .u64 n)]) (by
   refine zq ?_;intros;refine⟨1,⟨rfl,sb⟩,zq ?_⟩;intros;refine⟨1,⟨rfl,sb⟩,zq ?_⟩;intros;intro g2 h
   rfl)
 .exact Ok.Aq hm noT 0 Mk.2 (args:=[.v (.agg ⟨c.cs⟩),.v (.int .i64 2),.v (.int .u64 n)]) (by
   refine zq ?_;intros;refine⟨2,⟨rfl,sb⟩,zq ?_⟩;intros;refine⟨2,⟨rfl,sb⟩,zq ?_⟩;intros;intro g2 h
   rfl)
 .exact Ok.Aq hm noT 0 Mk.2 (args:=[.v (.agg ⟨c.cs⟩),.v (.int .i64 3),.v (.int .u64 n)]) (by
   refine zq ?_;intros;refine⟨3,⟨rfl,sb⟩,zq ?_⟩;intros;refine⟨3,⟨rfl,sb⟩,zq ?_⟩;intros;intro g2 h
   rfl)
 .exact Ok.Aq hm noT 0 Mk.2 (args:=[.v (.agg ⟨c.cs⟩),.v (.int .i64 4),.v (.int .u64 n)]) (by
   refine zq ?_;intros;refine⟨4,⟨rfl,sb⟩,zq ?_⟩;intros;refine⟨4,⟨rfl,sb⟩,zq ?_⟩;intros;intro g2 h
   rfl)
 .exact Ok.Aq hm noT 0 Mk.2 (args:=[.v (.agg ⟨c.cs⟩),.v (.int .i64 5),.v (.int .u64 n)]) (by
   refine zq ?_;intros;refine⟨5,⟨rfl,sb⟩,zq ?_⟩;intros;refine⟨5,⟨rfl,sb⟩,zq ?_⟩;intros;intro g2 h
   rfl)
def Lx(w:Wd)(m:Ah)(v:zg)(g':GW):Prop:=∃cs h,v=.tuple #[.agg ⟨cs⟩,.agg ⟨h⟩,.agg ⟨(qSK w m).cs⟩]/\rWo g' cs w/\qdA g' h (qQK w m)
def qdX(g){cs ai}{w}{m:Ah}(al:rWo g cs w)(hM:qdA g ai m)(am:SnW w)(Q:BgW 1000000 w):Ok Tryz.prog 152 [.agg ⟨cs⟩,.agg ⟨ai⟩] g (Lx w m):=by
 obtain⟨an,ao,ap,aq,ar,au,av,aw,ax,ay,az,aA,aB,aC,aD,aE,rfl,rfl,C,R,⟨aP,aQ,aR⟩,aT,aU,aW,aX,aY,⟨aZ,a0,a1,a2⟩,⟨a3,a4,a5,a6⟩,⟨c1,c2,a7,a8⟩,⟨d1,d2,a9,aF⟩,⟨e1,e2,ba,bb⟩,A,V,W⟩:=qhB al hM
 exact Ok.Aq hm noT 0 NE.2 (args:=[.v (.agg ⟨wQ w an ao ap aq ar au av aw ax ay⟩),.v (.agg ⟨mQ m az aA aB aC aD aE⟩)]) (by
  refine zq ?_;intros;refine⟨λz1=>?_,λz1=>?_⟩
  .refine zq ?_;intros;intro g2 h;obtain⟨q,hE⟩:=q3M (w:=w) (m:=m) (λT=>FB z1 T.2.1);exact⟨_,_,sk,qBA _ _ _ _ h C,by rw[q];exact qTA _ _ _ _ h R⟩
  refine zq ?_;intros;refine⟨λad=>?_,λad=>?_⟩
  .refine zq ?_;intros;intro g2 h;obtain⟨q,hE⟩:=q3M (w:=w) (m:=m) (λT=>by have:=zd ad;omega);exact⟨_,_,sk,qBA _ _ _ _ h C,by rw[q];exact qTA _ _ _ _ h R⟩
  refine zq ?_;intros;refine⟨λae=>?_,λae=>?_⟩
  .refine zq ?_;intros;intro g2 h;obtain⟨q,hE⟩:=q3M (w:=w) (m:=m) (λT=>by have:=zd ae;omega);exact⟨_,_,sk,qBA _ _ _ _ h C,by rw[q];exact qTA _ _ _ _ h R⟩
  refine zq ?_;intros;refine .inl ⟨_,qUA _ C R am Q,zq ?_⟩;intros;refine⟨λY=>?_,λY=>?_⟩
  .refine zq ?_;intros;intro g2 h;obtain⟨q,hE⟩:=q3M (w:=w) (m:=m) (λT=>by rw[T.1]at Y;cases Y);exact⟨_,_,sk,qBA _ _ _ _ h C,by rw[q];exact qTA _ _ _ _ h R⟩
  have hs:=nb0 Y;have aG:=F1 z1;have bc:=zf ad;have bd:=zf ae;have aa:qRK w m:=⟨hs,aG,sa,sa⟩;obtain⟨_,_,_,af⟩:=Am.1 hs;have be:=af.i;have aH:=af.k;have aI:m.i.toNat<w.counts.length:=sa
  obtain⟨row,aj,bf,bh⟩:=q5W af.right aI;obtain⟨x,ak⟩:=qEA (l:=row) (i:=m.k.toNat) sa;have aJ:qTY w m=x:=by unfold qTY;rw[aj];show(row[m.k.toNat]?).getD 0=x;rw[ak];rfl
  obtain⟨bi,rfl,bj,bl,⟨bm,rfl,aK⟩,aL⟩:=aF m.i.toNat row aj;obtain⟨bn,bo,rfl,bp,bq,br,aM⟩:=id aK;obtain⟨bt,rfl,bu,bv,⟨rfl,bw⟩,aN⟩:=aM m.k.toNat x ak;refine zq ?_;intros;refine⟨_,rfl,⟨sa,sa⟩,zq ?_⟩;intros;refine⟨_,aL 0 _ rfl,zq ?_⟩;intros;refine⟨_,rfl,⟨sa,sa⟩,zq ?_⟩;intros;refine⟨_,aN 0 _ rfl,zq ?_⟩;intros;refine .inl ⟨_,q8Z _ m.counts x ⟨aH,sa⟩,zq ?_⟩;intros;have ab:zAj.wrap (m.k+1)=m.k+1:=wr si;have aO:qCH w m=m.counts.set (zBP.wrap (m.counts.get m.k.toNat+x)) m.k.toNat:=by unfold qCH;rw[aJ]
  rw[<-aO];refine zq ?_;intros;refine⟨λag=>?_,λag=>?_⟩
  .have U:m.k=5:=by have:=Cn ag;rw[ab]at this;omega
   have D:q5H m=0:=zk U;have u:qHF m=m.i+1:=zk U;have ac:zAj.wrap (m.i+1)=m.i+1:=wr si;refine zq ?_;intros;refine⟨λE=>?_,λE=>?_⟩
   .obtain⟨q,hE⟩:=qIO aa (by have:=Cn E;rw[ac]at this;rw[u];exact this);refine zq ?_;intros;refine .inr ((qSA _ C Q).mono λv g3 H L=>?_);obtain⟨cs,ah,rfl,P⟩:=L;have B:=qbA P;obtain⟨_,_,_,_,_,_,_,_,_,_,rfl⟩:=qLA B;refine zq ?_;intros;intro g2 h;refine⟨_,_,sk,qBA _ _ _ _ h B,?_⟩;rw[q];exact⟨_,_,_,by rw[ac,u,D]<;>rfl,{A with counts:=qpG A.counts,i:=show InR (qHF m)from by rw[u];unfold InR;omega,k:=show InR (q5H m)from by rw[D];exact z0,answer:=qWR (qpG A.counts)},V,qAA _ _ _ _ (GW.trans H h) W⟩
   .obtain⟨q,hE⟩:=qHO aa (by have:=Ei E;rw[ac]at this;rw[u];exact this);refine zq ?_;intros;refine .inr ((qSA _ C Q).mono λv g3 H L=>?_);obtain⟨cs,ah,rfl,P⟩:=L;have B:=qbA P;obtain⟨_,_,_,_,_,_,_,_,_,_,rfl⟩:=qLA B;refine zq ?_;intros;intro g2 h;refine⟨_,_,sk,qBA _ _ _ _ h B,?_⟩;rw[q];exact⟨_,_,_,by rw[ac,u,D]<;>rfl,{A with counts:=qpG A.counts,i:=show InR (qHF m)from by rw[u];unfold InR;omega,k:=show InR (q5H m)from by rw[D];exact z0},V,qAA _ _ _ _ (GW.trans H h) W⟩
  .have U:m.k≠5:=by have:=Ei ag;rw[ab]at this;omega
   have D:q5H m=m.k+1:=zj U;have u:qHF m=m.i:=zj U;refine zq ?_;intros;refine⟨λE=>?_,λE=>?_⟩
   .obtain⟨q,hE⟩:=qIO aa (by have:=Cn E;rw[u];exact this);refine zq ?_;intros;refine .inr ((qSA _ C Q).mono λv g3 H L=>?_);obtain⟨cs,ah,rfl,P⟩:=L;have B:=qbA P;obtain⟨_,_,_,_,_,_,_,_,_,_,rfl⟩:=qLA B;refine zq ?_;intros;intro g2 h;refine⟨_,_,sk,qBA _ _ _ _ h B,?_⟩;rw[q];exact⟨_,_,_,by rw[ab,u,D]<;>rfl,{A with counts:=qpG A.counts,i:=show InR (qHF m)from by rw[u];exact A.i,k:=show InR (q5H m)from by rw[D];unfold InR;omega,answer:=qWR (qpG A.counts)},V,qAA _ _ _ _ (GW.trans H h) W⟩
   .obtain⟨q,hE⟩:=qHO aa (by have:=Ei E;rw[u];exact this);refine zq ?_;intros;refine .inr ((qSA _ C Q).mono λv g3 H L=>?_);obtain⟨cs,ah,rfl,P⟩:=L;have B:=qbA P;obtain⟨_,_,_,_,_,_,_,_,_,_,rfl⟩:=qLA B;refine zq ?_;intros;intro g2 h;refine⟨_,_,sk,qBA _ _ _ _ h B,?_⟩;rw[q]
    exact⟨_,_,_,by rw[ab,u,D]<;>rfl,{A with counts:=qpG A.counts,i:=show InR (qHF m)from by rw[u];exact A.i,k:=show InR (q5H m)from by rw[D];unfold InR;omega},V,qAA _ _ _ _ (GW.trans H h) W⟩)
structure Jj where
 j:Z
 g:GW
 w:Wd
 oa:zy zAI
 ca:Z
 ob:zy zAI
 cb:Z
 oc:zy zAI
 cc:Z
 od:zy zAI
 cd:Z
 oe:zy zAI
 ce:Z
 m:Ah
 o1:zy zAI
 t1:Z
 o2:zy zAI
 t2:Z
 o3:zy zAI
 t3:Z
abbrev Jj.wc(x:Jj):F zg:=[.int .i64 x.w.Ai,.int .i64 x.w.current,.int .i64 x.w.AL,.slice x.oa x.w.pins.length x.ca,.slice x.ob x.w.Ab.length x.cb,.slice x.oc x.w.Aa.length x.cc,.slice x.od x.w.counts.length x.cd,.slice x.oe x.w.An.length x.ce]
abbrev Jj.mc(x:Jj):F zg:=x.m.cs (.slice x.o1 x.m.op.Ao.Aa.length x.t1) (.slice x.o2 x.m.op.Ao.Ar.length x.t2) (.slice x.o3 x.m.op.Ao.Ad.length x.t3)
def qJF{K}{w w'}(h:SnW w)(k:Bt K w w'):SnW w':=λv q=>by
 obtain⟨u,A,e⟩:=k.2 v q;rw[<-e];exact h u A
def B2.sn:∀{k:Z}{w:Wd}{m:Ah}{x:Wd}{m':Ah},B2 k w m x m'->SnW w->SnW x
 |0,_,_,_,_,⟨q,_⟩,h=>by rw[q];exact h
 |_+1,_,_,_,_,⟨_,u⟩,h=>B2.sn u (qJF (K:=0) h FV)



section
variable{g:GW}{cs ms:F zg}{e pc ep:zt}{p:F zt}(hw:rWo g cs (wP e p))(hM:qdA g ms (mP pc ep))(he:0<=e/\e<=100)(hl:p.length=2)(hp:∀x∈p,0<=x/\x<=e+1)
include hw hM he hl hp
end
def BgW.up{K K'}{w}(h:BgW K w)(k:K<=K'):BgW K' w:=by
 obtain⟨⟨D,E,H,L,P⟩,q,u⟩:=h;refine⟨⟨sa,sa,sa,sa,sa⟩,λr A=>by have:=q r A;omega,λv B=>?_⟩;obtain⟨a,b⟩:=u v B;exact⟨sa,λy C=>by have:=b y C;unfold BgG at this⊢;omega⟩

structure CalmP(w:Wd):Prop where
 ep:w.Ai<=1000000
 la:∀x∈w.Aa,x.Ae<=1000000
 ea:∀v∈w.Ab,∀g∈v.Aj,∀e∈g.ends,e.Ae<=1000000

def B2.go{k}{w}{m:Ah}{x}{n:Ah}(h:B2 (k+1) w m x n):m.done=zb:=by
 cases q:m.done with
 |false=>rfl
 |true=>exact absurd (qTM q) h.1
def qNN(g){t}{a:Ans}(q:InR t)(u:a.ok):OkV Tryz.prog 120 [.int .i64 t,.agg ⟨a.cs⟩] g (.agg ⟨(Ch t a).cs (.slice zc 0 0) (.slice zc 0 0) (.slice zc 0 0)⟩):=
 Ok.Aq hm noT 0 Nj.2 (args:=[.v (.int .i64 t),.v (.agg ⟨a.cs⟩)]) (by
  unfold Ch;refine zq ?_;intros;refine zG (λz=>?_) (λz=>?_)
  .have z:=FB z;rw[zj z,zj z];refine zq ?_;intros;intro g2 h;rfl
  .have z:=F1 z;rw[zk z,zk z];refine zq ?_;intros;intro g2 h
   rfl)




def qqR(g){cs}{c}(u:qBB g cs c):OkV Tryz.prog 20 [.agg ⟨cs⟩] g (.bool (eqB (qOA c) zc)):=by
 have A:=u;obtain⟨a,b,d,rfl,B,C,D⟩:=u;obtain⟨E,H,rfl,U,V,W,Y⟩:=id B;obtain⟨L,P,rfl,aa,ab,ac,ad⟩:=id C;obtain⟨Q,R,rfl,d1,d2,ae,af⟩:=id D
 exact Ok.Aq hm noT 0 M9.2 (args:=[.v (.agg ⟨[.slice E c.Aa.length H,.slice L c.Ar.length P,.slice Q c.Ad.length R]⟩)]) (by
  rcases q4K (qOA c)with⟨h,q⟩|⟨e,i,h,q⟩
  .refine zq ?_;intros;refine .inl ⟨_,(qzG _ A).to q,zw ?_⟩;intro g2 T;rw[qxV h];rfl
  .have ag:=q0C h;refine zq ?_;intros;refine .inl ⟨_,(qzG _ A).to q,zw ?_⟩;intro g2 T;rw[qad (by rw[h];simp)]
   exact zI zBt sf)
def qsF(o:OpD):zO:=decide (1<=o.kind)&&decide (o.kind<=6)
noncomputable def isB(s:F9):zO:=eqB (qOA s.first) zc&&decide (1<=s.Av.length)&&decide (s.Av.length<=8)&&decide (s.Bq.length<=4000)&&(s.Av.all λl=>decide (l.length<=16)&&l.all qsF)&&s.Bq.all λn=>decide (0<=n)
def tI:F (Z×FnI):=[(21,Bs.1),(55,Bz.1),(22,Fh.1),(23,AG.1),(56,AD.1),(24,Fg.1)]
def Kp:q6B Tryz.prog tI:=by
 intro x h;simp only[tI,zs,zC,zAt]at h;rcases h with rfl|rfl|rfl|rfl|rfl|rfl
 .exact⟨_,_,Bs.2⟩
 .exact⟨_,_,Bz.2⟩
 .exact⟨_,_,Fh.2⟩
 .exact⟨_,_,AG.2⟩
 .exact⟨_,_,AD.2⟩
 .exact⟨_,_,Fg.2⟩
def q9U(g){cs}{s}(hs:qAG g cs s):OkV Tryz.prog 5 [.agg ⟨cs⟩] g (.bool (isB s)):=by
 obtain⟨a,b,d,t,p,rfl,U,aw,ax⟩:=hs;have ay:=U;obtain⟨_,_,_,ag,⟨V,W,rfl,_⟩,⟨Y,aa,rfl,_⟩,ab,ac,rfl,_⟩:=U;cases ag;obtain⟨ah,ad,rfl,az,aA,aQ,aB⟩:=id aw;obtain⟨op,ae,rfl,aC,aD,aR,aE⟩:=id ax
 exact Ok.Aq hm Kp 3 NW.2 (args:=[.v (.agg ⟨[.slice V s.first.Aa.length W,.slice Y s.first.Ar.length aa,.slice ab s.first.Ad.length ac,.slice ah s.Av.length ad,.slice op s.Bq.length ae]⟩)]) (by
  refine zq ?_;intros;refine .inl ⟨_,qqR _ ay,zw ?_⟩;refine⟨λz1=>?_,λz1=>?_⟩
  .refine zw ?_;intro g2 u;rw[isB,nb1 z1];rfl
  have z1:=nb0 z1;refine zq ?_;intros;refine⟨λD=>?_,λD=>?_⟩
  .refine zw ?_;intro g2 u;rw[isB,zT (show ¬1<=s.Av.length by have:=zd D;omega)];simp
  have D:1<=s.Av.length:=by have:=zf D;omega
  refine zq ?_;intros;refine⟨λE=>?_,λE=>?_⟩
  .refine zw ?_;intro g2 u;rw[isB,zT (show ¬s.Av.length<=8 by have:=zd E;omega)];simp
  have E:s.Av.length<=8:=by have:=zf E;omega
  refine zq ?_;intros;refine⟨λH=>?_,λH=>?_⟩
  .refine zw ?_;intro g2 u;rw[isB,zT (show ¬s.Bq.length<=4000 by have:=zd H;omega)];simp
  have H:s.Bq.length<=4000:=by have:=zf H;omega
  have af:isB s=((s.Av.all λl=>decide (l.length<=16)&&l.all qsF)&&s.Bq.all λn=>decide (0<=n)):=by
   rw[isB,z1,zR D,zR E,zR H];simp
  refine zq ?_;intros;refine⟨Z,λk=>[.v (.int .i64 k)],λ_=>⟨g,[.blk 0 _ _ [.v (.slice V s.first.Aa.length W),.v (.slice Y s.first.Ar.length aa),.v (.slice ab s.first.Ad.length ac),.v (.slice ah s.Av.length ad),.v (.slice op s.Bq.length ae)]],_,_⟩,λk=>k<=s.Av.length/\(s.Av.take k).all (λl=>decide (l.length<=16)&&l.all qsF)=I,λk=>s.Av.length-k,qfA 0 rfl ⟨zJ _,rfl⟩ rfl,?_⟩;rintro k ⟨aT,an⟩;refine zw ?_;refine⟨λai=>?_,λai=>?_⟩
  .have B:k<s.Av.length:=by have:=zd ai;omega
   obtain⟨l,ao⟩:=qEA B;have ap:=(ze.1 ao).2;obtain⟨aq,rfl,aU,aW,⟨v,rfl,aF⟩,U⟩:=aB k l ao;obtain⟨aX,aY,rfl,aG,aH,aZ,aI⟩:=id aF
   have ar:(decide (l.length<=16)&&l.all qsF)=zb->isB s=zb:=λaj=>by
    rw[af,qyB B (by rw[ap];exact aj)];rfl
   refine zw ?_;refine⟨aq,rfl,⟨sa,sa⟩,zw ?_⟩;refine⟨_,U 0 _ rfl,zq ?_⟩;intros;refine⟨λL=>?_,λL=>?_⟩
   .refine zw ?_;intro g2 u;rw[ar (by rw[zT (show ¬l.length<=16 by have:=zd L;omega)];rfl)]
   have L:l.length<=16:=by have:=zf L;omega
   refine zq ?_;intros;refine⟨Z,λn=>[.v (.int .i64 n)],λ_=>⟨g,[.blk 0 _ _ [.v (.slice V s.first.Aa.length W),.v (.slice Y s.first.Ar.length aa),.v (.slice ab s.first.Ad.length ac),.v (.slice (O aq) s.Av.length ad),.v (.slice op s.Bq.length ae)]],_,_⟩,λn=>n<=l.length/\(l.take n).all qsF=I,λn=>l.length-n,qfA 0 rfl ⟨zJ _,rfl⟩ rfl,?_⟩;rintro n ⟨aJ,C⟩;refine zq ?_;intros;refine⟨λA=>?_,λA=>?_⟩
   .have h:n<l.length:=by have:=zd A;omega
    obtain⟨o,P⟩:=qEA h;have Q:=(ze.1 P).2;obtain⟨ak,rfl,aK,aL,⟨a0,a1,a2,rfl,_,aM⟩,al⟩:=aI n o P;obtain⟨_,_,_,ag,⟨a3,a4,rfl,_⟩,⟨a5,a6,rfl,_⟩,a7,a8,rfl,_⟩:=aM;cases ag;refine zw ?_;refine⟨ak,rfl,⟨sa,sa⟩,zw ?_⟩;refine⟨_,⟨rfl,al⟩,zq ?_⟩;intros;refine⟨kF,?_⟩;have au:qsF o=zb->isB s=zb:=λaj=>ar (by rw[qyB h (by rw[Q];exact aj),Bool.and_false]);refine zq ?_;intros;refine⟨λq=>?_,λq=>?_⟩
    .refine zq ?_;intros;refine⟨λ_=>zw ?_,λam=>absurd (((zR sa)).symm.trans am) sb⟩;intro g2 u;rw[au (by rw[qsF,zT (show ¬1<=o.kind by have:=zd q;omega)];rfl)]
    have q:1<=o.kind:=by have:=zf q;omega
    refine zq ?_;intros;refine⟨λR=>?_,λR=>?_⟩
    .refine zq ?_;intros;refine⟨λ_=>zw ?_,λam=>absurd (((zR sa)).symm.trans am) sb⟩;intro g2 u;rw[au (by rw[qsF,zT (show ¬o.kind<=6 by have:=zd R;omega),Bool.and_false])]
    have R:o.kind<=6:=by have:=zf R;omega
    refine zw ?_;refine λav w T=>⟨n+1,zI (λz=>[zK .i64 z]) (wr1 h aG aH).symm,⟨h,by rw[qnD h,C,Q,qsF,zR q,zR R];rfl⟩,dec h,?_⟩;exact T.fit sc
   have aN:l.all qsF=I:=by
    have:=zf A;rwa [zAz sa]at C
   refine zq ?_;intros;refine⟨λaO=>(nomatch aO),λ_=>zw ?_⟩;refine λav w T=>⟨k+1,zI (λz=>[zK .i64 z]) (wr1 B az aA).symm,⟨B,by rw[qnD B,an,ap,zR L,aN];rfl⟩,dec B,?_⟩;exact T.fit sc
  have aP:(s.Av.all λl=>decide (l.length<=16)&&l.all qsF)=I:=by
   have:=zf ai;rwa [zAz sa]at an
  rw[aP,zCP]at af;refine zq ?_;intros;refine⟨Z,λn=>[.v (.int .i64 n)],λ_=>⟨g,[.blk 0 _ _ [.v (.slice V s.first.Aa.length W),.v (.slice Y s.first.Ar.length aa),.v (.slice ab s.first.Ad.length ac),.v (.slice ah s.Av.length ad),.v (.slice op s.Bq.length ae)]],_,_⟩,λn=>n<=s.Bq.length/\(s.Bq.take n).all (λn=>decide (0<=n))=I,λn=>s.Bq.length-n,qfA 0 rfl ⟨zJ _,rfl⟩ rfl,?_⟩;rintro n ⟨aJ,C⟩;refine zq ?_;intros;refine⟨λA=>?_,λA=>?_⟩
  .have h:n<s.Bq.length:=by have:=zd A;omega
   obtain⟨o,P⟩:=qEA h;have Q:=(ze.1 P).2;obtain⟨ak,rfl,aK,aL,⟨rfl,_⟩,al⟩:=aE n o P;refine zw ?_;refine⟨ak,rfl,⟨sa,sa⟩,zw ?_⟩;refine⟨_,al 0 _ rfl,zq ?_⟩;intros;refine⟨kF,zq ?_⟩;intros;refine⟨λq=>?_,λq=>?_⟩
   .refine zq ?_;intros;intro g2 u;rw[af,qyB h (by rw[Q];exact zT (by have:=zd q;omega))];exact zI zBt se
   have q:0<=o:=by have:=zf q;omega
   refine zw ?_;refine λav w T=>⟨n+1,zI (λz=>[zK .i64 z]) (wr1 h aC aD).symm,⟨h,by rw[qnD h,C,Q,zR q];rfl⟩,dec h,?_⟩;exact T.fit sc
  refine zw ?_;intro g2 u;have:=zf A;rw[zAz sa]at C
  rw[af,C];rfl)

abbrev cS(l:F BA):F zg:=l.map Value.string
def tM:F (Z×FnI):=[(30,DW.1),(66,Du.1)]
def Km:q6B Tryz.prog tM:=by
 intro x h;simp only[tM,zs,zC,zAt]at h;rcases h with rfl|rfl
 .exact⟨_,_,DW.2⟩
 .exact⟨_,_,Du.2⟩
def SmS(s:F9):Prop:=s.first.Aa.length<=50/\s.Av.length<=20/\∀l∈s.Av,l.length<=40
def qEM(g){cs}{s}(hs:qAG g cs s)(br:SmS s):Ok Tryz.prog 9 [.agg ⟨cs⟩] g λv g'=>rSl 1 E8 g' v (quE s):=by
 obtain⟨a,b,d,t,p,rfl,bl,aO,bt⟩:=hs;have bZ:=bl;obtain⟨_,_,_,ae,⟨aa,D,rfl,aP,aQ,b0,bu⟩,⟨E,H,rfl,_⟩,L,P,rfl,_⟩:=bl;cases ae;obtain⟨ag,R,rfl,bv,bw,b1,bx⟩:=id aO;obtain⟨op,T,rfl,b2,b3,b4,b5⟩:=id bt;obtain⟨z1,b6,bm⟩:=br
 exact Ok.Aq hm Km 2 Na.2 (args:=[.v (.agg ⟨[.slice aa s.first.Aa.length D,.slice E s.first.Ar.length H,.slice L s.first.Ad.length P,.slice ag s.Av.length R,.slice op s.Bq.length T]⟩)]) (by
  refine zq ?_;intros;refine⟨kF,λlp ak=>zq ?_⟩;intros;rename_i al am an ap;refine zw ?_;refine⟨Z×zy zAI×Z×Z×GW,λ(U,_,_,_,_)=>[.v (.int .i64 U)],λ(U,u,h,A,g')=>⟨g',[.blk 4 ap 26 [.v (.slice aa s.first.Aa.length D),.v (.slice E s.first.Ar.length H),.v (.slice L s.first.Ad.length P)],.lp 3 lp ak .busy,.blk 2 an 31 [.v (.slice aa s.first.Aa.length D),.v (.slice E s.first.Ar.length H),.v (.slice L s.first.Ad.length P),.v (.slice ag s.Av.length R),.v (.slice op s.Bq.length T)],.blk 1 am 22 [.v (.slice u h A)],.blk 0 al 31 [.v (.slice aa s.first.Aa.length D),.v (.slice E s.first.Ar.length H),.v (.slice L s.first.Ad.length P),.v (.slice ag s.Av.length R),.v (.slice op s.Bq.length T)]],60,g.w.heap.size⟩,λ(U,u,h,A,g')=>U<=s.first.Aa.length/\g<=g'/\h=(Bv [] (s.first.Aa.take U)).length/\Br g' g.w.heap.size 9 1 (.slice u h A) h (cS (Bv [] (s.first.Aa.take U))),λ(U,_,_,_,_)=>s.first.Aa.length-U,λV w q=>⟨(0,zc,0,0,g),rfl,⟨zJ _,GW.refl _,rfl,rfl,.inl ⟨rfl,rfl⟩,λb7 bz=>by cases bz⟩,q.fit sc⟩,?_⟩;rintro⟨B,u,h,A,g'⟩ ⟨aR,ac,ad,ab⟩;refine zw ?_;refine⟨λah=>?_,λah=>?_⟩
  .have C:B<s.first.Aa.length:=by have:=zd ah;omega
   obtain⟨x,aC⟩:=qEA C;obtain⟨a,rfl,bA,bB,rfl,aq⟩:=bu B x aC;replace aq:=aq.mono ac;have Q:=qkP (out:=[]) aC;refine zw ?_;refine⟨a,rfl,⟨sa,sa⟩,zw ?_⟩;refine⟨_,aq 0 _ rfl,zq ?_⟩;intros;have aT:rSl 1 E8 g' (.slice u h A) (Bv [] (s.first.Aa.take B)):=qOC ab.rd _ .string rfl λ_ _=>rfl;refine zw ?_;refine .inl ⟨_,qPF _ aT _,zw ?_⟩;refine⟨λar=>?_,λar=>?_⟩
   .rw[zj (by rw[nb1 ar];simp)]at Q;have aD:=qqI (out:=[]) (l:=s.first.Aa.take B);rw[zBe]at aD
    try simp only[zCq]at aD
    rcases ab.2.1 with⟨ae,bC⟩|⟨bk,bD,aU,ae,au,aW,aX,aY,aZ⟩
    .cases ae;have a0:Bv [] (s.first.Aa.take B)=[]:=zA4.1 sa;rw[a0]at Q;refine zq ?_;intros;refine⟨⟨by unfold zAp;omega,sa⟩,λW Y=>zq ?_⟩;intros
     refine λV w q=>by
      have av:Ap V ⟨g',.row 70 W (1) Y 9 1 ([Value.string x])::[.blk 4 ap 26 [.v (.slice (O a) s.first.Aa.length D),.v (.slice E s.first.Ar.length H),.v (.slice L s.first.Ad.length P)],.lp 3 lp ak .busy,.blk 2 an 31 [.v (.slice (O a) s.first.Aa.length D),.v (.slice E s.first.Ar.length H),.v (.slice L s.first.Ad.length P),.v (.slice ag s.Av.length R),.v (.slice op s.Bq.length T)],.blk 1 am 22 [.v (.slice W (1) Y)],.blk 0 al 31 [.v (.slice (O a) s.first.Aa.length D),.v (.slice E s.first.Ar.length H),.v (.slice L s.first.Ad.length P),.v (.slice ag s.Av.length R),.v (.slice op s.Bq.length T)]],80,g.w.heap.size⟩ w:=q.fit sc;obtain⟨g2,aw,a1,ax,ay⟩:=av.BW;refine⟨(B+1,W,1,Y,g2),zI (λz=>[zK .i64 z]) (wr1 C aP aQ).symm,⟨C,?_,?_,?_⟩,dec C,ay.fit sc⟩
      .exact GW.trans ac aw
      .rw[Q];rfl
      .rw[Q];exact ax
    .cases ae;have a2:¬g.g bk:=λai=>by have:=g.wf _ ai;have:=au.1;omega
     refine zq ?_;intros;refine .inr (.inl ⟨bk,_,aU,⟨rfl,au.1,au.2,aW,by rw[zBa,ad];omega,ab.2.2,aX,aY,aZ,by unfold zAp;omega,sa⟩,λa3 a4 W Y=>zq ?_⟩);intros
     refine λV w q=>by
      have av:Ap V ⟨a3,.row 70 W (h+1) Y 9 1 (cS (Bv [] (s.first.Aa.take B))++[Value.string x])::[.blk 4 ap 26 [.v (.slice (O a) s.first.Aa.length D),.v (.slice E s.first.Ar.length H),.v (.slice L s.first.Ad.length P)],.lp 3 lp ak .busy,.blk 2 an 31 [.v (.slice (O a) s.first.Aa.length D),.v (.slice E s.first.Ar.length H),.v (.slice L s.first.Ad.length P),.v (.slice ag s.Av.length R),.v (.slice op s.Bq.length T)],.blk 1 am 22 [.v (.slice W (h+1) Y)],.blk 0 al 31 [.v (.slice (O a) s.first.Aa.length D),.v (.slice E s.first.Ar.length H),.v (.slice L s.first.Ad.length P),.v (.slice ag s.Av.length R),.v (.slice op s.Bq.length T)]],80,g.w.heap.size⟩ w:=q.fit sc;obtain⟨g2,aw,a1,ax,ay⟩:=av.BW;refine⟨(B+1,W,h+1,Y,g2),zI (λz=>[zK .i64 z]) (wr1 C aP aQ).symm,⟨C,?_,?_,?_⟩,dec C,ay.fit sc⟩
      .exact GW.trans (a4.le ac a2) aw
      .rw[Q,ad];simp
      .rw[Q];simpa using ax
   .rw[zk (nb0 ar)]at Q;refine zw ?_;refine λV w q=>⟨(B+1,u,h,A,g'),zI (λz=>[zK .i64 z]) (wr1 C aP aQ).symm,⟨C,ac,by rw[Q];exact ad,by rw[Q];exact ab⟩,dec C,?_⟩;exact q.fit sc
  have az:B=s.first.Aa.length:=by have:=zf ah;omega
  rw[az,zAX]at ad ab;clear ah aR az;refine zq ?_;intros;have bE:=qqI (out:=[]) (l:=s.first.Aa);simp only[zCq]at bE;refine zw ?_;refine⟨Z×zy zAI×Z×Z×GW,λ(k,_,_,_,_)=>[.v (.int .i64 k)],λ(k,u,h,A,g')=>⟨g',[.lp 3 lp ak .ready,.blk 2 an 31 [.v (.slice aa s.first.Aa.length D),.v (.slice E s.first.Ar.length H),.v (.slice L s.first.Ad.length P),.v (.slice ag s.Av.length R),.v (.slice op s.Bq.length T)],.blk 1 am 22 [.v (.slice u h A)],.blk 0 al 31 [.v (.slice aa s.first.Aa.length D),.v (.slice E s.first.Ar.length H),.v (.slice L s.first.Ad.length P),.v (.slice ag s.Av.length R),.v (.slice op s.Bq.length T)]],20,g.w.heap.size⟩,λ(k,u,h,A,g')=>k<=s.Av.length/\g<=g'/\h=(Em (Bv [] s.first.Aa) (s.Av.take k)).length/\Br g' g.w.heap.size 9 1 (.slice u h A) h (cS (Em (Bv [] s.first.Aa) (s.Av.take k))),λ(k,_,_,_,_)=>s.Av.length-k,λV w q=>⟨(0,u,h,A,g'),rfl,⟨zJ _,ac,ad,ab⟩,q.fit sc⟩,?_⟩;clear ad ab ac;rintro⟨k,bF,bG,bH,bI⟩ ⟨b8,a5,a6,aH⟩;refine zq ?_;intros;refine⟨λa7=>?_,λa7=>?_⟩
  .have aI:k<s.Av.length:=by have:=zd a7;omega
   obtain⟨l,a8⟩:=qEA aI;have bJ:=bm l (zh a8);obtain⟨aj,rfl,b9,ca,⟨v,rfl,bK⟩,bL⟩:=bx k l a8;obtain⟨cb,cc,rfl,a9,ba,cd,bM⟩:=id bK;have bn:Em (Bv [] s.first.Aa) (s.Av.take (k+1))=List.foldl opN (Em (Bv [] s.first.Aa) (s.Av.take k)) l:=qOM (f:=λout l=>List.foldl opN out l) a8;refine zw ?_;refine⟨aj,rfl,⟨sa,sa⟩,zw ?_⟩;refine⟨_,bL.mono a5 0 _ rfl,zq ?_⟩;intros;have bN:=qwW (out:=Bv [] s.first.Aa) (l:=s.Av.take k) λt aO=>bm t (zBZ aO);rw[zBe]at bN;refine zw ?_;refine⟨Z×zy zAI×Z×Z×GW,λ(k,_,_,_,_)=>[.v (.int .i64 k)],λ(k,u,h,A,g')=>⟨g',[.lp 3 lp ak .ready,.blk 2 an 31 [.v (.slice aa s.first.Aa.length D),.v (.slice E s.first.Ar.length H),.v (.slice L s.first.Ad.length P),.v (.slice (O aj) s.Av.length R),.v (.slice op s.Bq.length T)],.blk 1 am 22 [.v (.slice u h A)],.blk 0 al 31 [.v (.slice aa s.first.Aa.length D),.v (.slice E s.first.Ar.length H),.v (.slice L s.first.Ad.length P),.v (.slice (O aj) s.Av.length R),.v (.slice op s.Bq.length T)]],30,g.w.heap.size⟩,λ(n,u,h,A,g')=>n<=l.length/\g<=g'/\h=(List.foldl opN (Em (Bv [] s.first.Aa) (s.Av.take k)) (l.take n)).length/\Br g' g.w.heap.size 9 1 (.slice u h A) h (cS (List.foldl opN (Em (Bv [] s.first.Aa) (s.Av.take k)) (l.take n))),λ(n,_,_,_,_)=>l.length-n,λV w q=>⟨(0,bF,bG,bH,bI),rfl,⟨zJ _,a5,a6,aH⟩,q.fit sc⟩,?_⟩;clear a6 aH a5;rintro⟨n,aJ,aK,aL,aM⟩ ⟨ce,aA,aE,aF⟩;refine zq ?_;intros;refine⟨λbb=>?_,λbb=>?_⟩
   .have af:n<l.length:=by have:=zd bb;omega
    obtain⟨o,bo⟩:=qEA af;have bp:qOA o.Ao=zc->o.Ao.Aa.length<=4:=λai=>(AZ.1 ai).size.1.2;obtain⟨bO,rfl,cf,cg,⟨ch,ci,cj,rfl,ck,bq⟩,bP⟩:=bM n o bo;have bQ:=bq;obtain⟨_,_,_,ae,⟨bR,bc,rfl,bd,be,cm,bT⟩,⟨bf,bh,rfl,_⟩,bi,bj,rfl,_⟩:=bq;cases ae;have aB:=qOM (f:=opN) (b:=Em (Bv [] s.first.Aa) (s.Av.take k)) bo;have bU:=qIN (out:=Em (Bv [] s.first.Aa) (s.Av.take k)) (l:=l.take n);rw[zBe]at bU;have cn:=bJ;refine zw ?_;refine⟨bO,rfl,⟨sa,sa⟩,zw ?_⟩;refine⟨_,⟨rfl,bP.mono aA⟩,zq ?_⟩;intros;refine⟨λaN=>?_,λaN=>?_⟩
    .have bW:o.kind=3:=by simpa using aN
     refine zq ?_;intros;refine .inl ⟨_,qqR _ (qAA _ _ _ _ aA bQ),zq ?_⟩;intros;refine⟨λaG=>?_,λaG=>?_⟩
     .have bp:=bp (DL.1 aG);have ao:∀out,opN out o=Bv out o.Ao.Aa:=λout=>by rw[opN,zk ⟨bW,DL.1 aG⟩]
      refine zq ?_;intros;rename_i co ap;refine zw ?_;refine⟨Z×zy zAI×Z×Z×GW,λ(U,_,_,_,_)=>[.v (.int .i64 U)],λ(U,u,h,A,g')=>⟨g',[.blk 40 ap 26 [.v (.slice bR o.Ao.Aa.length bc),.v (.slice bf o.Ao.Ar.length bh),.v (.slice bi o.Ao.Ad.length bj)],.lp 3 lp ak .busy,.blk 2 an 31 [.v (.slice aa s.first.Aa.length D),.v (.slice E s.first.Ar.length H),.v (.slice L s.first.Ad.length P),.v (.slice (O aj) s.Av.length R),.v (.slice op s.Bq.length T)],.blk 1 am 22 [.v (.slice u h A)],.blk 0 al 31 [.v (.slice aa s.first.Aa.length D),.v (.slice E s.first.Ar.length H),.v (.slice L s.first.Ad.length P),.v (.slice (O aj) s.Av.length R),.v (.slice op s.Bq.length T)]],60,g.w.heap.size⟩,λ(U,u,h,A,g')=>U<=o.Ao.Aa.length/\g<=g'/\h=(Bv (List.foldl opN (Em (Bv [] s.first.Aa) (s.Av.take k)) (l.take n)) (o.Ao.Aa.take U)).length/\Br g' g.w.heap.size 9 1 (.slice u h A) h (cS (Bv (List.foldl opN (Em (Bv [] s.first.Aa) (s.Av.take k)) (l.take n)) (o.Ao.Aa.take U))),λ(U,_,_,_,_)=>o.Ao.Aa.length-U,λV w q=>⟨(0,aJ,aK,aL,aM),rfl,⟨zJ _,aA,aE,aF⟩,q.fit sc⟩,?_⟩;rintro⟨B,u,h,A,g'⟩ ⟨aR,ac,ad,ab⟩;refine zw ?_;refine⟨λah=>?_,λah=>?_⟩
      .have C:B<o.Ao.Aa.length:=by have:=zd ah;omega
       obtain⟨x,aC⟩:=qEA C;obtain⟨a,rfl,bA,bB,rfl,aq⟩:=bT B x aC;replace aq:=aq.mono ac;have Q:=qkP (out:=(List.foldl opN (Em (Bv [] s.first.Aa) (s.Av.take k)) (l.take n))) aC;refine zw ?_;refine⟨a,rfl,⟨sa,sa⟩,zw ?_⟩;refine⟨_,aq 0 _ rfl,zq ?_⟩;intros;have aT:rSl 1 E8 g' (.slice u h A) (Bv (List.foldl opN (Em (Bv [] s.first.Aa) (s.Av.take k)) (l.take n)) (o.Ao.Aa.take B)):=qOC ab.rd _ .string rfl λ_ _=>rfl;refine zw ?_;refine .inl ⟨_,qPF _ aT _,zw ?_⟩;refine⟨λar=>?_,λar=>?_⟩
       .rw[zj (by rw[nb1 ar];simp)]at Q;have aD:=qqI (out:=(List.foldl opN (Em (Bv [] s.first.Aa) (s.Av.take k)) (l.take n))) (l:=o.Ao.Aa.take B);rw[zBe]at aD
        try simp only[zCq]at aD
        rcases ab.2.1 with⟨ae,bC⟩|⟨bk,bD,aU,ae,au,aW,aX,aY,aZ⟩
        .cases ae;have a0:Bv (List.foldl opN (Em (Bv [] s.first.Aa) (s.Av.take k)) (l.take n)) (o.Ao.Aa.take B)=[]:=zA4.1 sa;rw[a0]at Q;refine zq ?_;intros;refine⟨⟨by unfold zAp;omega,sa⟩,λW Y=>zq ?_⟩;intros
         refine λV w q=>by
          have av:Ap V ⟨g',.row 70 W (1) Y 9 1 ([Value.string x])::[.blk 40 ap 26 [.v (.slice (O a) o.Ao.Aa.length bc),.v (.slice bf o.Ao.Ar.length bh),.v (.slice bi o.Ao.Ad.length bj)],.lp 3 lp ak .busy,.blk 2 an 31 [.v (.slice aa s.first.Aa.length D),.v (.slice E s.first.Ar.length H),.v (.slice L s.first.Ad.length P),.v (.slice (O aj) s.Av.length R),.v (.slice op s.Bq.length T)],.blk 1 am 22 [.v (.slice W (1) Y)],.blk 0 al 31 [.v (.slice aa s.first.Aa.length D),.v (.slice E s.first.Ar.length H),.v (.slice L s.first.Ad.length P),.v (.slice (O aj) s.Av.length R),.v (.slice op s.Bq.length T)]],80,g.w.heap.size⟩ w:=q.fit sc;obtain⟨g2,aw,a1,ax,ay⟩:=av.BW;refine⟨(B+1,W,1,Y,g2),zI (λz=>[zK .i64 z]) (wr1 C bd be).symm,⟨C,?_,?_,?_⟩,dec C,ay.fit sc⟩
          .exact GW.trans ac aw
          .rw[Q];rfl
          .rw[Q];exact ax
        .cases ae;have a2:¬g.g bk:=λai=>by have:=g.wf _ ai;have:=au.1;omega
         refine zq ?_;intros;refine .inr (.inl ⟨bk,_,aU,⟨rfl,au.1,au.2,aW,by rw[zBa,ad];omega,ab.2.2,aX,aY,aZ,by unfold zAp;omega,sa⟩,λa3 a4 W Y=>zq ?_⟩);intros
         refine λV w q=>by
          have av:Ap V ⟨a3,.row 70 W (h+1) Y 9 1 (cS (Bv (List.foldl opN (Em (Bv [] s.first.Aa) (s.Av.take k)) (l.take n)) (o.Ao.Aa.take B))++[Value.string x])::[.blk 40 ap 26 [.v (.slice (O a) o.Ao.Aa.length bc),.v (.slice bf o.Ao.Ar.length bh),.v (.slice bi o.Ao.Ad.length bj)],.lp 3 lp ak .busy,.blk 2 an 31 [.v (.slice aa s.first.Aa.length D),.v (.slice E s.first.Ar.length H),.v (.slice L s.first.Ad.length P),.v (.slice (O aj) s.Av.length R),.v (.slice op s.Bq.length T)],.blk 1 am 22 [.v (.slice W (h+1) Y)],.blk 0 al 31 [.v (.slice aa s.first.Aa.length D),.v (.slice E s.first.Ar.length H),.v (.slice L s.first.Ad.length P),.v (.slice (O aj) s.Av.length R),.v (.slice op s.Bq.length T)]],80,g.w.heap.size⟩ w:=q.fit sc;obtain⟨g2,aw,a1,ax,ay⟩:=av.BW;refine⟨(B+1,W,h+1,Y,g2),zI (λz=>[zK .i64 z]) (wr1 C bd be).symm,⟨C,?_,?_,?_⟩,dec C,ay.fit sc⟩
          .exact GW.trans (a4.le ac a2) aw
          .rw[Q,ad];simp
          .rw[Q];simpa using ax
       .rw[zk (nb0 ar)]at Q;refine zw ?_;refine λV w q=>⟨(B+1,u,h,A,g'),zI (λz=>[zK .i64 z]) (wr1 C bd be).symm,⟨C,ac,by rw[Q];exact ad,by rw[Q];exact ab⟩,dec C,?_⟩;exact q.fit sc
      have az:B=o.Ao.Aa.length:=by have:=zf ah;omega
      rw[az,zAX]at ad ab;clear ah aR az;refine zq ?_;intros;refine λV w q=>⟨(n+1,u,h,A,g'),zI (λz=>[zK .i64 z]) (wr1 af a9 ba).symm,⟨af,ac,by rw[aB,ao];exact ad,by rw[aB,ao];exact ab⟩,dec af,?_⟩;exact q.fit sc
     .have ao:∀out,opN out o=out:=λout=>by rw[opN,zj];rintro⟨_,ai⟩;rw[qxV ai]at aG;cases aG
      refine zq ?_;intros;refine λV w q=>⟨(n+1,aJ,aK,aL,aM),zI (λz=>[zK .i64 z]) (wr1 af a9 ba).symm,⟨af,aA,by rw[aB,ao];exact aE,by rw[aB,ao];exact aF⟩,dec af,?_⟩;exact q.fit sc
    .have ao:∀out,opN out o=out:=λout=>by rw[opN,zj];rintro⟨ai,_⟩;rw[ai]at aN;cases aN
     refine zq ?_;intros;refine λV w q=>⟨(n+1,aJ,aK,aL,aM),zI (λz=>[zK .i64 z]) (wr1 af a9 ba).symm,⟨af,aA,by rw[aB,ao];exact aE,by rw[aB,ao];exact aF⟩,dec af,?_⟩;exact q.fit sc
   have bX:n=l.length:=by have:=zf bb;omega
   rw[bX,zAX]at aE aF;refine zq ?_;intros;refine λV w q=>⟨(k+1,aJ,aK,aL,aM),zI (λz=>[zK .i64 z]) (wr1 aI bv bw).symm,⟨aI,aA,by rw[bn];exact aE,by rw[bn];exact aF⟩,dec aI,?_⟩;exact q.fit sc
  have az:k=s.Av.length:=by have:=zf a7;omega
  rw[az,zAX]at a6 aH;refine zq ?_;intros;intro g2 bY
  exact(qOC aH.rd _ .string rfl λ_ _=>rfl).mono qsE bY)
end Go.Proofs.YtlmhpamhhgogaaaGreat
namespace Go.Proofs.YtlmhpamhhgogaaaGreat
open Go.Conc (G)
open Go.Proofs.YtlmhpamhhgogaaaGreat.Sx Go.Duo Go.RowKit
def tlC:zDE->zDE
 |.seq _ y=>y
 |c=>c
noncomputable def qkN:zDE:=(Tryz.f8.body).getD .skip
noncomputable def qZJ:zDE:=tlC (tlC (tlC (tlC (tlC qkN))))
def KO{E:Env Tryz.prog}{fr:Fr}(hfE:fr.has E){a:zDz}{w:zp}{k:F Item}{cs:F zAm}{b:zAm}{g:GW}{x y z:zg}{c:Bn}{names:F BA}{vn vl:zg}{l:F OpD}{lo:Z}(hc:qBB g [x,y,z] c)(hok:qOA c=zc)(hn:rSl 1 E8 g vn names)(hno:qyH (qLB c) names 1)(hll:names.length<=1000000)(hlr:c.Ar.length<=1000000)(hl:rSl 10 rOp g vl l)(hl2:l.length<=200)(hK:∀g' cs7 v3 b3 b7 b9 b12 a' w' sl,g<=g'->rWo g' cs7 (CJ (qLB c) names 1)->AS sl 2=O (.v vl)->AS sl 7=O (.p 1 b7 0)->AS sl 12=O (.p 3 b12 0)->Stn 88 fr [] sl ⟨g',[.blk 3 b12 44 (cs7.map .v),.blk 2 b9 68 v3,.blk 1 b7 44 [.v (.int .i64 0),.v (.int .i64 0),.v (.int .i64 0),.v (.slice zc 0 0),.v (.slice zc 0 0),.v (.slice zc 0 0),.v (.slice zc 0 0),.v (.slice zc 0 0)],.blk 0 b3 26 [.v x,.v y,.v z]],4,lo⟩ a' w'->E.G (G (b.atR a' (.code qZJ::k)) cs) w')(hA:Stn 88 fr [] [(2,.v vl),(1,.v vn),(0,.v (.agg ⟨[x,y,z]⟩))] ⟨g,[],0,lo⟩ a w):E.G (G (b.atR a (.code qkN::k)) cs) w:=by
 have hc0:=hc;obtain⟨x',y',z',he,hx,hy,hz⟩:=hc;cases he;obtain⟨ox,cx,rfl,_⟩:=id hx;obtain⟨oy,cy,rfl,_⟩:=id hy;obtain⟨oz,cz,rfl,_⟩:=id hz;obtain⟨on,cn,rfl,_⟩:=id hn;obtain⟨ol,cl,rfl,_⟩:=id hl;unfold qkN Tryz.f8;simp only[zAG];refine q0A (qCC hfE ((qZA E).snd fr hfE) sj hA (zq ?_));intros;intro a1 w1 hA1;refine q0A (qCC hfE ((qZA E).snd fr hfE) sj hA1 (zq ?_));intros;refine .inr ((qME _ hc0).mono λv g1 hg1 hB=>?_);obtain⟨x,y,z,e,i,rfl,hs1,_,⟨rfl,rfl,_,rfl,rfl⟩|⟨_,hne,_⟩⟩:=qoC hc0 hg1 hB;rotate_left
 .exact absurd hok hne
 obtain⟨_,_,oy2,cy2,_,_,he2⟩:=qkC hs1;simp only[zAA,zA6]at he2;obtain⟨_,rfl,_⟩:=he2;refine zq ?_;intros;intro a2 w2 hA2;refine q0A (q0A (qCC hfE ((qZA E).snd fr hfE) sj hA2 (zq ?_)));intros;intro a3 w3 hA3;refine qxK zb rfl rfl hA3 (qwI ?_);refine q0A (qCC hfE ((qZA E).snd fr hfE) sj hA3 (zq ?_));intros;refine .inr ((q3Y _ hs1 (hn.mono qsE hg1) (by rw[qLB,hok];simpa[qiA]using hlr) hll).mono λv g2 hg2 hN=>?_);obtain⟨cs7,rfl,hW⟩:=q6Y hN hno;have hW0:=hW;obtain⟨_,_,_,_,_,rfl,_,hP,hV,hL,hC,hR⟩:=hW;obtain⟨_,_,rfl,_⟩:=id hP;obtain⟨_,_,rfl,_⟩:=id hV;obtain⟨_,_,rfl,_⟩:=id hL;obtain⟨_,_,rfl,_⟩:=id hC;obtain⟨_,_,rfl,_⟩:=id hR;refine zq ?_;intros;intro a4 w4 hA4;refine q0A (q5J (q0A (qCC hfE ((qZA E).snd fr hfE) sj hA4 (zq ?_))));intros;intro a5 w5 hA5;refine qxK zb rfl rfl hA5 ?_;refine q0A (qCC hfE ((qZA E).snd fr hfE) sj hA5 (zq ?_));intros;intro a6 w6 hA6;refine qxK zb rfl (by simp[Ag];omega) hA6 (qwI (qmS ?_));exact hK _ _ _ _ _ _ _ _ _ _ (GW.trans hg1 hg2) hW0 rfl rfl rfl hA6
def qUW{P:zv}{E:Env P}{r:zy Z}{ops:zS zDA}{K:zDz->zp->Prop}{fuel:Z}{listed:zS zO}{a:zDz}{w:zp}(l:F Z)(q:zAB .any ops listed=l)(u:l≠[])(h:∀i∈l,qMC E r ops i (q2H E r ops K fuel (listed.setIfInBounds i I)) a w):q2H E r ops K (fuel+1) listed a w:=
 ⟨λe=>absurd (q.symm.trans e) u,λi A=>h i (q▸A)⟩
def qzY{P:zv}{E:Env P}{r:zy Z}{ops:zS zDA}{K:zDz->zp->Prop}{i:Z}{o:zDA}{a:zDz}{w:zp}(q:ops[i]?=O o)(u:o.guard=zc)(h:∀d,o.atX E r a (w.at d) K):qMC E r ops i K a w:=by
 unfold qMC;simp only[q];rw[zk (by simp[zAl,u])];exact h
def qpN{P}(t)(v):(Instr.makeChan t v).Calm P:=by
 unfold Instr.makeChan;refine qDA (qFD _) λn=>qDA (qKA _) λd=>?_;split
 .refine qDA (qrA _) λi=>?_;split
  .exact qDA (qPA _) λ_=>qDA (qTB _) λ_=>qIA _
  .exact qDA (qTB _) λ_=>qIA _
 .exact qQA _
structure J9(fr:Fr)(hs:Hs)(n0:Z)(v2 v7 v12:zg)(o0 o1 o2:zy Z)(s0 s1 s2:zO)(a:zDz)(w:zp):Prop where
 size:a.tmps.size=88
 defers:a.defers=[]
 t2:a.tmps[2]?=O v2
 t7:a.tmps[7]?=O v7
 t12:a.tmps[12]?=O v12
 sim:Ap fr hs w
 hn:n0<=w.heap.size
 c0:∀c,o0=O c->a.tmps[46]?=O (.chan (O c))/\w.heap[c]?=O (.chan 0 #[] zb 0 0 zb)/\n0<=c
 c1:∀c,o1=O c->a.tmps[47]?=O (.chan (O c))/\w.heap[c]?=O (.chan 0 #[] zb 0 0 zb)/\n0<=c
 c2:∀c,o2=O c->a.tmps[48]?=O (.chan (O c))/\w.heap[c]?=O (.chan 1 #[] zb 0 0 zb)/\n0<=c
 d01:∀c c',o0=O c->o1=O c'->c≠c'
 d02:∀c c',o0=O c->o2=O c'->c≠c'
 d12:∀c c',o1=O c->o2=O c'->c≠c'
 a0:s0=I->∃c,o0=O c/\a.tmps[13]?=O (.chan (O c))
 a1:s1=I->∃c,o1=O c/\a.tmps[14]?=O (.chan (O c))
 a2:s2=I->∃c,o2=O c/\a.tmps[15]?=O (.chan (O c))
section
variable{fr:Fr}{hs:Hs}{n0:Z}{v2 v7 v12:zg}{o0 o1 o2:zy Z}{s0 s1 s2:zO}{a:zDz}{w:zp}
def J9.at(h:J9 fr hs n0 v2 v7 v12 o0 o1 o2 s0 s1 s2 a w)(d):J9 fr hs n0 v2 v7 v12 o0 o1 o2 s0 s1 s2 a (w.at d):=⟨h.1,h.2,h.3,h.4,h.5,h.6.at d,h.7,h.8,h.9,h.10,h.11,h.12,h.13,h.14,h.15,h.16⟩
def qHA{a:zDz}{d n:Z}{v:zg}(h:d≠n):(a.put (O d) v).tmps[n]?=a.tmps[n]?:=by simp[zBf,zM h]
def qKE{a:zDz}{d:Z}{v:zg}(h:d<a.tmps.size):(a.put (O d) v).tmps[d]?=O v:=by simp[zBf,h]
def qML(w:zp)(o:Obj):(w.alloc o).heap[w.heap.size]?=O o:=by
 show(w.heap.push o)[w.heap.size]?=_;simp
def qDM{o:zy Z}{w:zp}{x:Obj}{c:Z}(h:w.heap[c]?=O x):c≠w.heap.size:=by
 have:=(zAb.1 h).1;omega
def J9.mk0(h:J9 fr hs n0 v2 v7 v12 zc o1 o2 zb s1 s2 a w):J9 fr hs n0 v2 v7 v12 (O w.heap.size) o1 o2 zb s1 s2 (a.put (O 46) (.chan (O w.heap.size))) (w.alloc (.chan 0 #[] zb 0 0 zb)):=by
 refine⟨by simp[zBf,h.size],h.defers,?_,?_,?_,h.sim.agree (Below.AT _ _),by simp;have:=h.hn;omega,?_,?_,?_,?_,?_,h.d12,nofun,?_,?_⟩
 .rw[qHA sb];exact h.t2
 .rw[qHA sb];exact h.t7
 .rw[qHA sb];exact h.t12
 .rintro c ⟨⟩;exact⟨qKE (by rw[h.size];decide),qML _ _,h.hn⟩
 .intro c e;obtain⟨x,y,z⟩:=h.c1 c e;exact⟨by rw[qHA sb];exact x,(Go.Duo.heap_alloc_old y).trans y,z⟩
 .intro c e;obtain⟨x,y,z⟩:=h.c2 c e;exact⟨by rw[qHA sb];exact x,(Go.Duo.heap_alloc_old y).trans y,z⟩
 .rintro c q ⟨⟩ e;exact zBs (qDM (o:=zc) (h.c1 q e).2.1)
 .rintro c q ⟨⟩ e;exact zBs (qDM (o:=zc) (h.c2 q e).2.1)
 .intro e;obtain⟨c,x,y⟩:=h.a1 e;exact⟨c,x,by rw[qHA sb];exact y⟩
 .intro e;obtain⟨c,x,y⟩:=h.a2 e;exact⟨c,x,by rw[qHA sb];exact y⟩
def J9.mk1(h:J9 fr hs n0 v2 v7 v12 o0 zc o2 s0 zb s2 a w):J9 fr hs n0 v2 v7 v12 o0 (O w.heap.size) o2 s0 zb s2 (a.put (O 47) (.chan (O w.heap.size))) (w.alloc (.chan 0 #[] zb 0 0 zb)):=by
 refine⟨by simp[zBf,h.size],h.defers,?_,?_,?_,h.sim.agree (Below.AT _ _),by simp;have:=h.hn;omega,?_,?_,?_,?_,h.d02,?_,?_,nofun,?_⟩
 .rw[qHA sb];exact h.t2
 .rw[qHA sb];exact h.t7
 .rw[qHA sb];exact h.t12
 .intro c e;obtain⟨x,y,z⟩:=h.c0 c e;exact⟨by rw[qHA sb];exact x,(Go.Duo.heap_alloc_old y).trans y,z⟩
 .rintro c ⟨⟩;exact⟨qKE (by rw[h.size];decide),qML _ _,h.hn⟩
 .intro c e;obtain⟨x,y,z⟩:=h.c2 c e;exact⟨by rw[qHA sb];exact x,(Go.Duo.heap_alloc_old y).trans y,z⟩
 .rintro c q e ⟨⟩;exact qDM (o:=zc) (h.c0 c e).2.1
 .rintro c q ⟨⟩ e;exact zBs (qDM (o:=zc) (h.c2 q e).2.1)
 .intro e;obtain⟨c,x,y⟩:=h.a0 e;exact⟨c,x,by rw[qHA sb];exact y⟩
 .intro e;obtain⟨c,x,y⟩:=h.a2 e;exact⟨c,x,by rw[qHA sb];exact y⟩
def J9.mk2(h:J9 fr hs n0 v2 v7 v12 o0 o1 zc s0 s1 zb a w):J9 fr hs n0 v2 v7 v12 o0 o1 (O w.heap.size) s0 s1 zb (a.put (O 48) (.chan (O w.heap.size))) (w.alloc (.chan 1 #[] zb 0 0 zb)):=by
 refine⟨by simp[zBf,h.size],h.defers,?_,?_,?_,h.sim.agree (Below.AT _ _),by simp;have:=h.hn;omega,?_,?_,?_,h.d01,?_,?_,?_,?_,nofun⟩
 .rw[qHA sb];exact h.t2
 .rw[qHA sb];exact h.t7
 .rw[qHA sb];exact h.t12
 .intro c e;obtain⟨x,y,z⟩:=h.c0 c e;exact⟨by rw[qHA sb];exact x,(Go.Duo.heap_alloc_old y).trans y,z⟩
 .intro c e;obtain⟨x,y,z⟩:=h.c1 c e;exact⟨by rw[qHA sb];exact x,(Go.Duo.heap_alloc_old y).trans y,z⟩
 .rintro c ⟨⟩;exact⟨qKE (by rw[h.size];decide),qML _ _,h.hn⟩
 .rintro c q e ⟨⟩;exact qDM (o:=zc) (h.c0 c e).2.1
 .rintro c q e ⟨⟩;exact qDM (o:=zc) (h.c1 c e).2.1
 .intro e;obtain⟨c,x,y⟩:=h.a0 e;exact⟨c,x,by rw[qHA sb];exact y⟩
 .intro e;obtain⟨c,x,y⟩:=h.a1 e;exact⟨c,x,by rw[qHA sb];exact y⟩
def J9.as0{c0}(h:J9 fr hs n0 v2 v7 v12 (O c0) o1 o2 zb s1 s2 a w):J9 fr hs n0 v2 v7 v12 (O c0) o1 o2 I s1 s2 (a.put (O 13) (.chan (O c0))) w:=by
 refine⟨by simp[zBf,h.size],h.defers,?_,?_,?_,h.sim,h.hn,?_,?_,?_,h.d01,h.d02,h.d12,?_,?_,?_⟩
 .rw[qHA sb];exact h.t2
 .rw[qHA sb];exact h.t7
 .rw[qHA sb];exact h.t12
 .intro c e;rw[qHA sb];exact h.c0 c e
 .intro c e;rw[qHA sb];exact h.c1 c e
 .intro c e;rw[qHA sb];exact h.c2 c e
 .exact λ_=>⟨c0,rfl,qKE (by rw[h.size];decide)⟩
 .intro e;obtain⟨c,x,y⟩:=h.a1 e;exact⟨c,x,by rw[qHA sb];exact y⟩
 .intro e;obtain⟨c,x,y⟩:=h.a2 e;exact⟨c,x,by rw[qHA sb];exact y⟩
def J9.as1{c1}(h:J9 fr hs n0 v2 v7 v12 o0 (O c1) o2 s0 zb s2 a w):J9 fr hs n0 v2 v7 v12 o0 (O c1) o2 s0 I s2 (a.put (O 14) (.chan (O c1))) w:=by
 refine⟨by simp[zBf,h.size],h.defers,?_,?_,?_,h.sim,h.hn,?_,?_,?_,h.d01,h.d02,h.d12,?_,?_,?_⟩
 .rw[qHA sb];exact h.t2
 .rw[qHA sb];exact h.t7
 .rw[qHA sb];exact h.t12
 .intro c e;rw[qHA sb];exact h.c0 c e
 .intro c e;rw[qHA sb];exact h.c1 c e
 .intro c e;rw[qHA sb];exact h.c2 c e
 .intro e;obtain⟨c,x,y⟩:=h.a0 e;exact⟨c,x,by rw[qHA sb];exact y⟩
 .exact λ_=>⟨c1,rfl,qKE (by rw[h.size];decide)⟩
 .intro e;obtain⟨c,x,y⟩:=h.a2 e;exact⟨c,x,by rw[qHA sb];exact y⟩
def J9.as2{c2}(h:J9 fr hs n0 v2 v7 v12 o0 o1 (O c2) s0 s1 zb a w):J9 fr hs n0 v2 v7 v12 o0 o1 (O c2) s0 s1 I (a.put (O 15) (.chan (O c2))) w:=by
 refine⟨by simp[zBf,h.size],h.defers,?_,?_,?_,h.sim,h.hn,?_,?_,?_,h.d01,h.d02,h.d12,?_,?_,?_⟩
 .rw[qHA sb];exact h.t2
 .rw[qHA sb];exact h.t7
 .rw[qHA sb];exact h.t12
 .intro c e;rw[qHA sb];exact h.c0 c e
 .intro c e;rw[qHA sb];exact h.c1 c e
 .intro c e;rw[qHA sb];exact h.c2 c e
 .intro e;obtain⟨c,x,y⟩:=h.a0 e;exact⟨c,x,by rw[qHA sb];exact y⟩
 .intro e;obtain⟨c,x,y⟩:=h.a1 e;exact⟨c,x,by rw[qHA sb];exact y⟩
 .exact λ_=>⟨c2,rfl,qKE (by rw[h.size];decide)⟩
end
def qWV{P:zv}{E:Env P}{ops:zS zDA}{K:zDz->zp->Prop}{i d n:Z}{o:zDA}{a:zDz}{w:zp}{v:zg}(u:ops[i]?=O o)(A:o.guard=zc)(B:o.op=.assign (.tmp n))(hd:o.dst=O d)(C:a.tmps[n]?=O v)(h:∀e,K (a.put (O d) v) (w.at e)):qMC E zc ops i K a w:=by
 refine qzY u A λe=>?_;have q:Oper.semAt zc a.eval o=pure (.value v):=by simp[Oper.semAt,zx,B,qGA C]
 refine⟨by rw[q];exact qIA _,?_⟩;rw[q];exact⟨.refl _,by rw[hd];exact h e⟩
def qxQ{P:zv}{E:Env P}{ops:zS zDA}{K:zDz->zp->Prop}{i d t e cap:Z}{o:zDA}{a:zDz}{w:zp}{A:ChanDir}{q:TypeInfo}(B:ops[i]?=O o)(C:o.guard=zc)(D:o.op=.makeChan t (.const (.int .i64 cap)))(hd:o.dst=O d)(H:E.N<=w.heap.size)(L:P.underlying t=O (.chan A e))(Q:P.info? e=O q)(U:(cap:zt)<=1)(V:(q.bytes:zt)<=281474976710544)(h:∀x,K (a.put (O d) (.chan (O w.heap.size))) ((w.at x).alloc (.chan cap #[] zb 0 0 zb))):qMC E zc ops i K a w:=by
 refine qzY B C λx=>?_;have u:Oper.semAt zc a.eval o=(do pure (.value (<-Instr.makeChan t (.int .i64 cap)))):=by simp[Oper.semAt,zx,D,Act.eval]
 have R:=Go.Conc.run_makeChan (P:=P) (w:=w.at x) L Q .i64 cap sa (by
  have:(cap:zt)=0\/(cap:zt)=1:=sa
  rcases this with h|h<;>rw[h]<;>omega)
 refine⟨by rw[u];exact qDA (qpN _ _) λ_=>qIA _,?_⟩;rw[u,zZ,R];refine⟨λn T=>?_,by rw[hd];exact h x⟩;exact(Below.AT (w.at x) _).block n (zQ T H)
def F6:zDE->zS zDA
 |.region _ o _=>o
 |_=>#[]
def hdC:zDE->zDE
 |.seq x _=>x
 |c=>c
noncomputable def Hc:zS zDA:=F6 (hdC qZJ)
def Nd(E:Env Tryz.prog)(K:zDz->zp->Prop)(fr:Fr)(hs:Hs)(n0:Z)(v2 v7 v12:zg)(o0 o1 o2:zy Z)(s0 s1 s2:zO)(n:Z)(l:zS zO):Prop:=
 ∀a w,J9 fr hs n0 v2 v7 v12 o0 o1 o2 s0 s1 s2 a w->q2H E zc Hc K n l a w
section
variable{E:Env Tryz.prog}{K:zDz->zp->Prop}{fr:Fr}{hs:Hs}{n0:Z}{v2 v7 v12:zg}{o0 o1 o2:zy Z}{s0 s1 s2:zO}{n:Z}{l:zS zO}
def Op9(E:Env Tryz.prog)(K:zDz->zp->Prop)(fr:Fr)(hs:Hs)(n0:Z)(v2 v7 v12:zg)(o0 o1 o2:zy Z)(s0 s1 s2:zO)(n:Z)(l:zS zO)(i:Z):Prop:=
 ∀a w,J9 fr hs n0 v2 v7 v12 o0 o1 o2 s0 s1 s2 a w->qMC E zc Hc i (q2H E zc Hc K n l) a w
def L0{x}(h:zAB .any Hc l=[x])(u:Op9 E K fr hs n0 v2 v7 v12 o0 o1 o2 s0 s1 s2 n (l.setIfInBounds x I) x):Nd E K fr hs n0 v2 v7 v12 o0 o1 o2 s0 s1 s2 (n+1) l:=
 λa w A=>qUW _ h se λi q=>by simp at q;subst q;exact u a w A
def LZ{x y}(h:zAB .any Hc l=[x,y])(A:Op9 E K fr hs n0 v2 v7 v12 o0 o1 o2 s0 s1 s2 n (l.setIfInBounds x I) x)(B:Op9 E K fr hs n0 v2 v7 v12 o0 o1 o2 s0 s1 s2 n (l.setIfInBounds y I) y):Nd E K fr hs n0 v2 v7 v12 o0 o1 o2 s0 s1 s2 (n+1) l:=
 λa w q=>qUW _ h se λi u=>by simp at u;rcases u with rfl|rfl;exact A a w q;exact B a w q
def LY{x y z}(h:zAB .any Hc l=[x,y,z])(A:Op9 E K fr hs n0 v2 v7 v12 o0 o1 o2 s0 s1 s2 n (l.setIfInBounds x I) x)(B:Op9 E K fr hs n0 v2 v7 v12 o0 o1 o2 s0 s1 s2 n (l.setIfInBounds y I) y)(C:Op9 E K fr hs n0 v2 v7 v12 o0 o1 o2 s0 s1 s2 n (l.setIfInBounds z I) z):Nd E K fr hs n0 v2 v7 v12 o0 o1 o2 s0 s1 s2 (n+1) l:=
 λa w q=>qUW _ h se λi u=>by simp at u;rcases u with rfl|rfl|rfl;exact A a w q;exact B a w q;exact C a w q
def L1(h:zAB .any Hc l=[])(q:∀c0 c1 c2 a w,J9 fr hs n0 v2 v7 v12 (O c0) (O c1) (O c2) I I I a w->K a w){c0 c1 c2}:Nd E K fr hs n0 v2 v7 v12 (O c0) (O c1) (O c2) I I I 0 l:=
 λa w u=>⟨h,λd=>q _ _ _ _ _ (u.at d)⟩
def chT(t)(h:((Tryz.prog.underlying t).bind λd=>match d with
  |.chan _ e=>(Tryz.prog.info? e).map λi=>decide ((i.bytes:zt)<=281474976710544)
  |_=>zc)=O I):∃u e q,Tryz.prog.underlying t=O (.chan u e)/\Tryz.prog.info? e=O q/\(q.bytes:zt)<=281474976710544:=by
 simp only[zAC]at h;obtain⟨d,A,h⟩:=h;split at h
 .obtain⟨i,B,C⟩:=zD.1 h;exact⟨_,_,i,A,B,zd C⟩
 .cases h
def LV(u:E.N<=n0)(h:∀c,Nd E K fr hs n0 v2 v7 v12 (O c) o1 o2 zb s1 s2 n l):Op9 E K fr hs n0 v2 v7 v12 zc o1 o2 zb s1 s2 n l 0:=λa w q=>by
 obtain⟨D,e,H,A,B,C⟩:=chT 88 sd;exact qxQ (by rfl) (by rfl) (by rfl) (by rfl) (zY u q.hn) A B sb C λx=>h _ _ _ ((q.at x).mk0)
def LU(u:E.N<=n0)(h:∀c,Nd E K fr hs n0 v2 v7 v12 o0 (O c) o2 s0 zb s2 n l):Op9 E K fr hs n0 v2 v7 v12 o0 zc o2 s0 zb s2 n l 1:=λa w q=>by
 obtain⟨D,e,H,A,B,C⟩:=chT 89 sd;exact qxQ (by rfl) (by rfl) (by rfl) (by rfl) (zY u q.hn) A B sb C λx=>h _ _ _ ((q.at x).mk1)
def LS(u:E.N<=n0)(h:∀c,Nd E K fr hs n0 v2 v7 v12 o0 o1 (O c) s0 s1 zb n l):Op9 E K fr hs n0 v2 v7 v12 o0 o1 zc s0 s1 zb n l 2:=λa w q=>by
 obtain⟨D,e,H,A,B,C⟩:=chT 90 sd;exact qxQ (by rfl) (by rfl) (by rfl) (by rfl) (zY u q.hn) A B sb C λx=>h _ _ _ ((q.at x).mk2)
def LR{c}(h:Nd E K fr hs n0 v2 v7 v12 (O c) o1 o2 I s1 s2 n l):Op9 E K fr hs n0 v2 v7 v12 (O c) o1 o2 zb s1 s2 n l 3:=λa w q=>
 qWV (by rfl) (by rfl) (by rfl) (by rfl) (q.c0 c rfl).1 λe=>h _ _ (q.as0.at e)
def LQ{c}(h:Nd E K fr hs n0 v2 v7 v12 o0 (O c) o2 s0 I s2 n l):Op9 E K fr hs n0 v2 v7 v12 o0 (O c) o2 s0 zb s2 n l 4:=λa w q=>
 qWV (by rfl) (by rfl) (by rfl) (by rfl) (q.c1 c rfl).1 λe=>h _ _ (q.as1.at e)
def LP{c}(h:Nd E K fr hs n0 v2 v7 v12 o0 o1 (O c) s0 s1 I n l):Op9 E K fr hs n0 v2 v7 v12 o0 o1 (O c) s0 s1 zb n l 5:=λa w q=>
 qWV (by rfl) (by rfl) (by rfl) (by rfl) (q.c2 c rfl).1 λe=>h _ _ (q.as2.at e)
def KY(h:E.N<=n0)(q:∀c0 c1 c2 a w,J9 fr hs n0 v2 v7 v12 (O c0) (O c1) (O c2) I I I a w->K a w):Nd E K fr hs n0 v2 v7 v12 zc zc zc zb zb zb 6 #[zb,zb,zb,zb,zb,zb]:=by
 repeat' first
  |exact L1 sj q
  |refine L0 sj ?_
  |refine LZ sj ?_ ?_
  |refine LY sj ?_ ?_ ?_
  |refine LV h λ_=>?_
  |refine LU h λ_=>?_
  |refine LS h λ_=>?_
  |refine LR ?_
  |refine LQ ?_
  |refine LP ?_
end
noncomputable def qbE:zDE:=tlC qZJ
noncomputable def qwB:zDE:=tlC qbE
noncomputable def qmJ:zS zDA:=F6 (hdC qbE)
structure Jr(n0 c0 c1 c2:Z)(w:zp):Prop where
 h0:w.heap[c0]?=O (.chan 0 #[] zb 0 0 zb)
 h1:w.heap[c1]?=O (.chan 0 #[] zb 0 0 zb)
 h2:w.heap[c2]?=O (.chan 1 #[] zb 0 0 zb)
 d01:c0≠c1
 d02:c0≠c2
 d12:c1≠c2
 l0:n0<=c0
 l1:n0<=c1
 l2:n0<=c2
abbrev rsS(x y z:zg)(h:F zg)(v3:F SV)(q b7 u b12:Z):F Res:=
 [.blk 3 b12 44 (h.map .v),.blk 2 u 68 v3,.blk 1 b7 44 [.v (.int .i64 0),.v (.int .i64 0),.v (.int .i64 0),.v (.slice zc 0 0),.v (.slice zc 0 0),.v (.slice zc 0 0),.v (.slice zc 0 0),.v (.slice zc 0 0)],.blk 0 q 26 [.v x,.v y,.v z]]
def Fr.keep(fr:Fr)(w:zp)(q:fr.ok w)(S:F Z)(u:∀n∈S,n<w.heap.size):Fr:=⟨w,λn=>fr.pr n\/n∈S,fr.g0,λn h=>h.elim (λh=>zQ (fr.wf n h) q.size) (u n)⟩
def qoa{fr:Fr}{w}(q:fr.ok w){S}(A:∀n∈S,n<w.heap.size):fr.le (Fr.keep fr w q S A):=
 ⟨λB h=>⟨h.os.trans q.os,h.tape.trans q.tape,h.output.trans q.output,zY q.size h.size,λn u=>(h.block n (.inl u)).trans (q.block n u)⟩,λn h=>⟨.inl h,id⟩⟩
def qBY{fr:Fr}{hs}{w}(h:Ap fr hs w){S}(C:∀n∈S,n<w.heap.size)(A:∀n∈S,n∉hs.bks/\¬hs.g.g n):Ap (Fr.keep fr w h.frm S C) hs w:=
 ⟨h.AJ,⟨rfl,rfl,rfl,zH _,λ_ _=>rfl⟩,h.res,h.nod,λn B=>⟨(h.fre n B).1,λq=>q.elim (h.fre n B).2 λhm=>(A n hm).1 B⟩,λn q u=>q.elim (λq=>h.fz n q u) λhm=>absurd u (A n hm).2,
  λn D u q=>q.elim (h.own n D u) λhm=>(A n hm).2 u,h.low⟩
def qMW{rs:F Res}{w:zp}(q:∀r∈rs,r.holds w)(u:∀r∈rs,∃id b ty cs,r=.blk id b ty cs){c cap:Z}{A:zS zg}{cl B:zO}{s t:Z}(C:w.heap[c]?=O (.chan cap A cl s t B)):c∉rs.flatMap Res.bk:=λhm=>by
 obtain⟨r,h,hm⟩:=zBM.1 hm;obtain⟨id,b,ty,cs,rfl⟩:=u r h;simp[Res.bk]at hm;subst hm;have:=(q _ h).1;rw[C]at this;cases this
def Kd{E:Env Tryz.prog}{fr:Fr}(al:fr.has E){a:zDz}{w:zp}(am:E.N<=w.heap.size){k:F Item}{cs:F zAm}{b:zAm}(an:b.roundOf=zc){g':GW}{x y z H:zg}{ao:Wd}{q:F zg}{v3:F SV}{B b7 C b12 lo:Z}{sl:Sl}(hW:rWo g' q ao)(ap:AS sl 2=O (.v H))(aq:AS sl 7=O (.p 1 b7 0))(ar:AS sl 12=O (.p 3 b12 0))(A:Stn 88 fr [] sl ⟨g',rsS x y z q v3 B b7 C b12,4,lo⟩ a w)(au:∀c0 c1 c2 a' w' sl' D,fr.le D->D.pr c0->D.pr c1->D.pr c2->Jr w.heap.size c0 c1 c2 w'->AS sl' 2=O (.v H)->AS sl' 7=O (.p 1 b7 0)->AS sl' 12=O (.p 3 b12 0)->AS sl' 13=O (.v (.chan (O c0)))->AS sl' 14=O (.v (.chan (O c1)))->AS sl' 15=O (.v (.chan (O c2)))->(∃u,AS sl' 49=O u/\Ag u=.agg ⟨q⟩)->AS sl' 50=O (.v (.chan (O c0)))->AS sl' 51=O (.v (.chan (O c1)))->AS sl' 52=O (.v (.chan (O c2)))->Stn 88 D [] sl' ⟨g',rsS x y z q v3 B b7 C b12,4,lo⟩ a' w'->E.G (G (b.atR a' (.inRegion qmJ [4]::.code qwB::k)) cs) w'):E.G (G (b.atR a (.code qZJ::k)) cs) w:=by
 have av:J9 fr ⟨g',rsS x y z q v3 B b7 C b12,4,lo⟩ w.heap.size H (Ag (.p 1 b7 0)) (Ag (.p 3 b12 0)) zc zc zc zb zb zb a w:=
  ⟨A.size,A.defers,A.As 2 _ ap,A.As 7 _ aq,A.As 12 _ ar,A.sim,zH _,nofun,nofun,nofun,nofun,nofun,nofun,nofun,nofun,nofun⟩
 have aw:=KY (E:=E) (K:=λa' w'=>E.G (G (b.atR a' (.code qbE::k)) cs) w') am (λc0 c1 c2 a' w' J=>?_) a w av
 .refine q0A (x:=.region 9 Hc I) (y:=qbE) ?_
  refine qJD (Q:=λe a' w'=>match e with
   |.normal=>E.G (G (b.atR a' (.code qbE::k)) cs) w'
   |_=>zX) hm (E:=E) (r:=zc) aw b (.code qbE::k) cs an λe a' w' ac=>?_
  cases e with
  |normal=>exact ac
  |_=>exact ac.elim
 .obtain⟨_,ax,ay⟩:=J.a0 rfl;obtain⟨_,e1,az⟩:=J.a1 rfl;obtain⟨_,e2,aA⟩:=J.a2 rfl;cases ax;cases e1;cases e2;obtain⟨_,R,ad⟩:=J.c0 c0 rfl;obtain⟨_,T,ae⟩:=J.c1 c1 rfl;obtain⟨_,U,af⟩:=J.c2 c2 rfl;have V:∀{c:Z}{o:Obj},w'.heap[c]?=O o->c<w'.heap.size:=λW=>(zAb.1 W).1
  have L:∀n∈[c0,c1,c2],n<w'.heap.size:=by
   intro n h;simp only[zs,zC,zAt]at h;rcases h with rfl|rfl|rfl
   .exact V R
   .exact V T
   .exact V U
  have Y:∀r∈rsS x y z q v3 B b7 C b12,∃id b aB cs,r=.blk id b aB cs:=by
   intro r ag;simp only[rsS,zs,zC,zAt]at ag;rcases ag with rfl|rfl|rfl|rfl<;>exact⟨_,_,_,_,rfl⟩
  have aa:∀n,w.heap.size<=n->¬g'.g n:=λn h aC=>by have:=g'.wf n aC;have:=A.sim.AJ.1;simp only at this;omega
  have aD:=qBY J.sim L (by
   intro n h;simp only[zs,zC,zAt]at h;rcases h with rfl|rfl|rfl
   .exact⟨qMW J.sim.res Y R,aa _ ad⟩
   .exact⟨qMW J.sim.res Y T,aa _ ae⟩
   .exact⟨qMW J.sim.res Y U,aa _ af⟩)
  have ah:=qoa J.sim.frm L
  have aE:Stn 88 (Fr.keep fr w' J.sim.frm [c0,c1,c2] L) [] [(2,.v H),(7,.p 1 b7 0),(12,.p 3 b12 0),(13,.v (.chan (O c0))),(14,.v (.chan (O c1))),(15,.v (.chan (O c2)))] ⟨g',rsS x y z q v3 B b7 C b12,4,lo⟩ a' w':=by
   refine⟨J.size,J.defers,λn u P=>?_,aD⟩;simp only[AS]at P
   repeat' split at P
   all_goals first|(cases P;done)|skip
   all_goals(rename_i aF;obtain rfl:=zP aF;obtain rfl:=zn P)
   .exact J.t2
   .exact J.t7
   .exact J.t12
   .exact ay
   .exact az
   .exact aA
  obtain⟨_,_,_,_,_,rfl,_,aG,aH,aI,aJ,aK⟩:=hW;obtain⟨_,_,rfl,_⟩:=id aG;obtain⟨_,_,rfl,_⟩:=id aH;obtain⟨_,_,rfl,_⟩:=id aI;obtain⟨_,_,rfl,_⟩:=id aJ;obtain⟨_,_,rfl,_⟩:=id aK;have ai:=al.up ah;refine q0A (x:=.region 10 qmJ zb) (y:=qwB) (.quiet rfl (λ_=>qPC) ?_);refine qZB (τ:=[0,1,2,3]) (rest:=[4]) ai ((qZA E).snd _ ai) sj aE (K:=λsl' aL=>∀a' w',Stn 88 (Fr.keep fr _ J.sim.frm [c0,c1,c2] L) [] sl' aL a' w'->E.G (G (b.atR a' (.inRegion qmJ [4]::.code qwB::k)) cs) w') (zq ?_) (λ_ _ a' w' W aM=>W a' w' aM);intros;intro aN aj ak;have ab:∀n∈[c0,c1,c2],aj.heap[n]?=w'.heap[n]?:=λn h=>ak.sim.frm.block n (.inr h);exact au c0 c1 c2 aN aj _ _ ah (.inr se) (.inr se) (.inr se) ⟨(ab c0 se).trans R,(ab c1 se).trans T,(ab c2 se).trans U,J.d01 _ _ rfl rfl,J.d02 _ _ rfl rfl,J.d12 _ _ rfl rfl,ad,ae,af⟩ rfl rfl rfl rfl rfl rfl ⟨_,rfl,rfl⟩ rfl rfl rfl ak
end Go.Proofs.YtlmhpamhhgogaaaGreat
namespace Go.Proofs.YtlmhpamhhgogaaaGreat
open Go.Conc (G born parked)
open Go.Proofs.YtlmhpamhhgogaaaGreat.Sx Go.Duo Go.RowKit
def q7Q(h:zg)(c0 c1 c2:Z):Deferred:={target:=.fn (.func 29) #[],args:=#[h,.chan (O c0),.chan (O c1),.chan (O c2)]}
def qXU{a:zDz}{w:zp}{b:zAm}{k:F Item}{cs:F zAm}{vW:zg}{c0 c1 c2:Z}(hb:b.roundOf=zc)(hk:b.kind≠.early)(h49:a.tmps[49]?=O vW)(h50:a.tmps[50]?=O (.chan (O c0)))(h51:a.tmps[51]?=O (.chan (O c1)))(h52:a.tmps[52]?=O (.chan (O c2))):zAD Tryz.prog I (G (b.atR a (.inRegion qmJ [4]::k)) cs) w=.spawn (G (b.atR a (.inRegion qmJ []::k)) cs) (born Tryz.prog (q7Q vW c0 c1 c2)) w #[]:=by
 rw[Frame.atR_of_none hb,Frame.atR_of_none hb];have e49:=qGA h49;have e50:=qGA h50;have e51:=qGA h51;have e52:=qGA h52;obtain⟨o,ats,ho,hg,hd,hop⟩:∃o ats,qmJ[4]?=O o/\o.guard=zc/\o.dst=zc/\o.op=.go {callee:=.value (.func 29),args:=#[.tmp 49,.tmp 50,.tmp 51,.tmp 52],argTypes:=ats}:=⟨_,_,rfl,rfl,rfl,rfl⟩
 have hr:∀w,(zx a.eval o).run Tryz.prog w=.ok (.spawn (q7Q vW c0 c1 c2)) w/\(zx a.eval o).events Tryz.prog w #[]=#[]:=by
  intro w;unfold zx;simp only[hop];simp[go_sem,resolve,zBH,e49,e50,e51,e52,q7Q,Act.eval];simp only[Act.eval]at e49 e50 e51 e52;simp_all
 have:=Go.Conc.stepG_spawn (P:=Tryz.prog) (main:=I) (b:=b) (k:=k) (cs:=cs) (rest:=[]) ho (by simp[zAl,hg]) hk (hr w).1 rfl;rw[hd,Go.Conc.listed_none (hr w).2]at this;exact this
end Go.Proofs.YtlmhpamhhgogaaaGreat
namespace Go.Proofs.YtlmhpamhhgogaaaGreat
open Go.Conc (G born parked rcase AtIn Sits Seat)
open Go.Proofs.YtlmhpamhhgogaaaGreat.Sx Go.Duo Go.RowKit
noncomputable def qKP:zDE:=(Tryz.f29.body).getD .skip
def bV:zAm:={(default:zAm)with fn:=29,kind:=.deferred,roundOf:=zc}
noncomputable def BR:zAm:={(default:zAm)with fn:=Tryz.prog.funcs.size,defers:=[],mode:=.panicking [goexitEntry]}
def a0V(h:zg)(c0 c1 c2:Z):zDz:=⟨#[h,.chan (O c0),.chan (O c1),.chan (O c2)]++zAP 37 zAU,[]⟩
def qmd(vW)(c0 c1 c2)(w):zAD Tryz.prog zb (born Tryz.prog (q7Q vW c0 c1 c2)) w=.go (G (bV.atR (a0V vW c0 c1 c2) [.code qKP]) [BR]) w #[]:=by
 have he:zAR Tryz.prog 29 #[vW,.chan (O c0),.chan (O c1),.chan (O c2)] .deferred=bV.atR (a0V vW c0 c1 c2) [.code qKP]:=by
  simp[zAR,zAM,Tryz.func29,bV,a0V,qKP];rfl
 rw[<-he];have hnm:(Tryz.f29.name== "runtime.NumGoroutine")=zb:=sd
 have hbd:Tryz.f29.body.isNone=zb:=by rfl
 have hi:∀w,(callFunc 29 #[vW,.chan (O c0),.chan (O c1),.chan (O c2)]).run Tryz.prog w=.ok (.enter 29 #[vW,.chan (O c0),.chan (O c1),.chan (O c2)]) w/\(callFunc 29 #[vW,.chan (O c0),.chan (O c1),.chan (O c2)]).events Tryz.prog w #[]=#[]:=λw=>by
  unfold callFunc;simp[Tryz.func29,Sem.run,hnm,hbd,<-beq_iff_eq,-beq_iff_eq];have hbn:Tryz.f29.body≠zc:=λh=>by rw[h]at hbd;cases hbd
  exact⟨λh=>absurd h hbn,λh=>absurd h hbn⟩
 simp[born,q7Q,zAD,unwind,callDeferred,invoke,zBn,(hi w).1,(hi w).2,zBF,G,BR,seen]
noncomputable def Hb:zS zDA:=F6 (hdC qKP)
noncomputable def q8K:zDE:=tlC qKP
def qKb{P}(t)(v)(w):(Instr.box t v).run P w=.ok (.pointer (O ⟨w.heap.size,0,zc⟩)) (w.alloc (.cells v.cells t))/\(Instr.box t v).events P w #[]=#[]:=by
 constructor
 .simp[Instr.box,newVar,newRow]
 .simp[Instr.box,newVar,newRow]
def oV(h:zg):Obj:=.cells h.cells 44
def qVb(h)(c0 c1 c2):(a0V h c0 c1 c2).tmps[0]?=O h/\(a0V h c0 c1 c2).tmps[1]?=O (.chan (O c0))/\(a0V h c0 c1 c2).tmps[2]?=O (.chan (O c1))/\(a0V h c0 c1 c2).tmps[3]?=O (.chan (O c2)):=by simp[a0V]
def a1V(h:zg)(c0 c1 c2 N:Z):zDz:=(a0V h c0 c1 c2).put (O 4) (.pointer (O ⟨N,0,zc⟩))
def KN{S}{k'}(vW)(c0 c1 c2 N)(h:zDF Tryz.prog zb TrK NoS 0 S k' (G (bV.atR (a1V vW c0 c1 c2 N) [.inRegion Hb [],.code q8K]) [BR])):Pre Tryz.prog N (oV vW) S k' 3 (born Tryz.prog (q7Q vW c0 c1 c2)):=by
 refine⟨rfl,_,λw=>qmd vW c0 c1 c2 w,rfl,_,λw=>(qBC (x:=.region 0 Hb zb) (y:=q8K)).2 w,rfl,_,λw=>AR.2 w,?_⟩;refine⟨rfl,_,λw hw=>?_,h⟩;obtain⟨o,ho,hg,hd,hop⟩:∃o,Hb[0]?=O o/\o.guard=zc/\o.dst=O 4/\o.op=.box 44 (.tmp 0):=⟨_,rfl,rfl,rfl,rfl⟩
 have he:o.semAt bV.roundOf (a0V vW c0 c1 c2).eval=(do pure (.value (<-Instr.box 44 vW))):=by
  have:=qGA (qVb vW c0 c1 c2).1;simp[Oper.semAt,zx,hop,this,bV]
 have hr:(o.semAt bV.roundOf (a0V vW c0 c1 c2).eval).run Tryz.prog w=.ok (.value (.pointer (O ⟨N,0,zc⟩))) (w.alloc (oV vW)):=by
  rw[he,zZ,(qKb 44 vW w).1,hw];rfl
 have hev:(o.semAt bV.roundOf (a0V vW c0 c1 c2).eval).events Tryz.prog w #[]=#[]:=by
  rw[he];simp[Instr.box,newVar,newRow]
 have hrange:zA8 Hb.size=[0]:=rfl;rw[hrange,qzM ho (by simp[zAl,hg]),qHD hr,qdQ hev,zBc,ho];simp only[zCN,hd];rfl
structure GA(vg:zg)(c0 c1 c2 N:Z)(a:zDz):Prop where
 size:a.tmps.size=41
 t1:a.tmps[1]?=O (.chan (O c0))
 t2:a.tmps[2]?=O (.chan (O c1))
 t3:a.tmps[3]?=O (.chan (O c2))
 t4:a.tmps[4]?=O (.pointer (O ⟨N,0,zc⟩))
 t8:a.tmps[8]?=O vg
 t15:a.tmps[15]?=O (.chan (O c0))
 defers:∃d1 d2:Deferred,a.defers=[d1,d2]/\(∃ats t cs,d1.target=.builtin .close ats t cs)/\d1.args=#[.chan (O c1)]/\(∃ats t cs,d2.target=.builtin .close ats t cs)/\d2.args=#[.chan (O c2)]
noncomputable def q7K:zDE:=tlC (tlC (tlC q8K))
def Gk:zDE->zDE
 |.block _ c=>c
 |c=>c
def qQN:zDE->zDE
 |.loop c=>c
 |c=>c
noncomputable def qlN:zDE:=qQN (Gk (tlC (hdC q7K)))
noncomputable def GI:zS zDA:=F6 (hdC qlN)
noncomputable def qkL:F Item:=[.code (tlC qlN),.inLoop qlN,.inBlock 0,.code (tlC q7K)]
noncomputable def Fw(a:zDz):zE:=G (bV.atR a (.inRegion GI [0,1]::qkL)) [BR]
def qVN(h:zg)(c0 c1 c2 N:Z)(g:zE):Prop:=∃a,GA h c0 c1 c2 N a/\g=Fw a
def qIX{P}{ρ}{o}{t e n}{u:ChanDir}{c}{z}(A:o.op=.recv t (.tmp n) I)(B:ρ (.tmp n)=.chan (O c))(q:P.underlying t=O (.chan u e))(h:∀w,(zAW e).run P w=.ok z w/\(zAW e).events P w #[]=#[]):∀w,(zx ρ o).run P w=.ok (.comm #[zAN c z] I (.recv I)) w/\(zx ρ o).events P w #[]=#[]:=by
 intro w;unfold zx;simp only[A,B];constructor
 .simp[zZ,zL q,zAk,zAN,(h w).1]
 .simp[go_sem,zL q,zBJ,(h w).1,(h w).2]
def Lw{vg z}{c0 c1 c2 N}{a}(hA:GA vg c0 c1 c2 N a){e}{dir:ChanDir}(ht:Tryz.prog.underlying 167=O (.chan dir e))(hz:∀w,(zAW e).run Tryz.prog w=.ok z w/\(zAW e).events Tryz.prog w #[]=#[]):AtIn Tryz.prog zb TrK NoS 0 (Seat.one c0 z I (qVN vg c0 c1 c2 N)) (Fw a) (Fw a):=by
 obtain⟨o,ho,hg,hop⟩:∃o,GI[0]?=O o/\o.guard=zc/\o.op=.recv 167 (.tmp 15) I:=⟨_,rfl,rfl,rfl⟩;have hr:=qIX (P:=Tryz.prog) (ρ:=a.eval) hop (qGA hA.t15) ht hz;have e:Fw a=G (bV.at a (.inRegion GI (0::[1])::qkL)) [BR]:=by unfold Fw;rw[Frame.atR_of_none rfl]
 rw[e];exact Go.Conc.atIn_of (s:=Seat.one c0 z I (qVN vg c0 c1 c2 N)) ho (by simp[zAl,hg]) (by simp[bV]) (λw=>(hr w).1) (λw=>(hr w).2) ⟨a,hA,e.symm⟩
def qBc{z}(vW)(c0 c1 c2 N){e}{dir:ChanDir}(ht:Tryz.prog.underlying 167=O (.chan dir e))(hz:∀w,(zAW e).run Tryz.prog w=.ok z w/\(zAW e).events Tryz.prog w #[]=#[]):∃n,Quiet Tryz.prog (λg=>∃g₂,AtIn Tryz.prog zb TrK NoS 0 (Seat.one c0 z I (qVN (.slice zc 0 0) c0 c1 c2 N)) g g₂) n (G (bV.atR (a1V vW c0 c1 c2 N) [.inRegion Hb [],.code q8K]) [BR]):=by
 have e3:(a1V vW c0 c1 c2 N).eval (.tmp 3)=.chan (O c2):=qGA (by simp[a1V,a0V,zBf]);refine qwA qMA ?_;unfold q8K qKP Tryz.f29;simp only[zAG,tlC];refine qwA qBC (qwA AR ?_);refine qwA (qdH rfl (by rfl) rfl (.inl rfl) rfl e3) ?_;refine qwA (q7b rfl (by rfl) rfl rfl rfl rfl rfl (v:=.chan (O c2)) (qGA (by simp[a1V,a0V,zBf]))) ?_;refine qwA qMA ?_;refine qwA qBC (qwA AR ?_);refine qwA (qdH rfl (by rfl) rfl (.inl rfl) rfl (v:=.chan (O c1)) (qGA (by simp[a1V,a0V,zBf]))) ?_;refine qwA (q7b rfl (by rfl) rfl rfl rfl rfl rfl (v:=.chan (O c1)) (qGA (by simp[a1V,a0V,zBf]))) ?_;refine qwA qMA ?_;refine qwA qBC (qwA AR ?_);refine qwA (qdH rfl (by rfl) rfl (.inr rfl) rfl (v:=.slice zc 0 0) rfl) ?_;refine qwA qMA ?_;refine qwA qBC (qwA qBC (qwA AR ?_));refine qwA (qdH rfl (by rfl) rfl (.inl rfl) rfl (v:=.chan (O c0)) (qGA (by simp[a1V,a0V,zBf]))) ?_;refine qwA qMA ?_;refine qwA qIF (qwA qFQ (qwA qBC (qwA AR ?_)));refine⟨0,_,Lw (a:=_) ?_ ht hz⟩;refine⟨by simp[a1V,a0V,zBf],?_,?_,?_,?_,?_,?_,⟨_,_,rfl,⟨_,_,_,rfl⟩,rfl,⟨_,_,_,rfl⟩,rfl⟩⟩
 all_goals simp[a1V,a0V,zBf,zBm]
def qER{P}{t}{i:TypeInfo}{z}(h:P.info? t=O i)(q:i.zero=O z):∀w,(zAW t).run P w=.ok z w/\(zAW t).events P w #[]=#[]:=λw=>by
 constructor<;>simp[zAW,typeInfo,h,q,zAk,zBJ]
def chZ(t)(h:((Tryz.prog.underlying t).bind λd=>match d with
  |.chan _ e=>((Tryz.prog.info? e).bind λi=>i.zero).map λ_=>I
  |_=>zc)=O I):∃u e z,Tryz.prog.underlying t=O (.chan u e)/\∀w,(zAW e).run Tryz.prog w=.ok z w/\(zAW e).events Tryz.prog w #[]=#[]:=by
 simp only[zAC]at h;obtain⟨d,A,h⟩:=h;split at h
 .obtain⟨z,q,_⟩:=zD.1 h;obtain⟨i,B,q⟩:=zAC.1 q;exact⟨_,_,z,A,qER B q⟩
 .cases h
def qeV{P}{t size}{a}(hs:qYB P t=O size)(A:BT P t=O I){w}(B:∀j,j<size->(w.cell? (a.add j)).isSome):∀e∈(zBq t (.pointer (O a))).events P w #[],e.readsIn (·=a.block):=by
 intro e q
 have C:(isAgg t).events P w #[]=#[]:=by
  simp only[isAgg,underlying];cases u:P.underlying t with
  |none=>simp[u]
  |some d=>cases d<;>simp[u]
 have D:(sizeOf t).events P w #[]=#[]:=by simp[sizeOf,typeInfo];split<;>simp
 have:(zBq t (.pointer (O a))).events P w #[]=(loadCells a size).events P w #[]:=by
  simp[zBq,Instr.sureAddr,loadVar,Sem.events_bind,qDN A,C,q1A hs,D,zBJ]
 rw[this]at q;rcases events_loadCellsFrom_at a (·=a.block) rfl size 0 #[] w #[] (λj E=>by simpa using B j E) e q with h|h
 .simp at h
 .exact h
def qYT{b B}(u:b<B){e}(h:e.readsIn (·=b)):Go.Conc.EvHd NoS B e:=by
 obtain⟨C,q,_,rfl⟩:=h;obtain⟨D,wr,E⟩:=e;simp only at q;subst q;exact⟨λ_ _ A=>A.elim,se,se,u⟩
def qeQ{P}{ρ}{o}{n:Z}{t}{e}{oa}{k cap:Z}(u:o.op=.call {callee:=.builtin .len,args:=#[.tmp n],argTypes:=#[t]})(h:ρ (.tmp n)=.slice oa k cap)(q:P.underlying t=O (.slice e)):∀w,(zx ρ o).run P w=.ok (.value (.int .i64 k)) w/\(zx ρ o).events P w #[]=#[]:=by
 intro w;unfold zx;simp only[u];constructor
 .simp[go_sem,resolve,h,q]
 .simp[go_sem,resolve,h,q]
def qga{P:zv}{ρ:Operand->zg}{o:zDA}{n m:Z}{t:zAw}{x y:zt}{h k2:zAw}(q:o.op=.binOp .lss h (.tmp n) (.tmp m) k2)(u:ρ (.tmp n)=.int .i64 x)(A:ρ (.tmp m)=.int .i64 y):∀w,(zx ρ o).run P w=.ok (.value (.bool (decide (x<y)))) w/\(zx ρ o).events P w #[]=#[]:=by
 intro w;unfold zx;simp only[q,u,A];constructor
 .simp[go_sem]
 .simp[go_sem]
def qra{P}{ρ}{o}{n m}{t e}{al}{k cap i size}(u:o.op=.indexAddr t (.tmp n) (.tmp m))(A:ρ (.tmp n)=.slice (O al) k cap)(B:ρ (.tmp m)=.int .i64 i)(h:i<k)(q:P.underlying t=O (.slice e))(hs:qYB P e=O size):∀w,(zx ρ o).run P w=.ok (.value (.pointer (O (al.add (i*size))))) w/\(zx ρ o).events P w #[]=#[]:=by
 intro w;unfold zx;simp only[u,A,B];constructor
 .simp[go_sem,Instr.indexAt,h];simp[zL q,zAk,h,q1A hs]
 .have C:(sizeOf e).events P w #[]=#[]:=by simp[sizeOf,typeInfo];split<;>simp
  simp[go_sem,Instr.indexAt,h];simp[zL q,zAk,zBJ,h,q1A hs,C]
end Go.Proofs.YtlmhpamhhgogaaaGreat
namespace Go.Proofs.YtlmhpamhhgogaaaGreat
open Go.Conc (G born parked rcase scase AtIn Sits Seat)
open Go.Proofs.YtlmhpamhhgogaaaGreat.Sx Go.Duo Go.RowKit
structure BK(vl va:zg)(p7 p12:zAI)(c0 c1 c2:Z)(a:zDz):Prop where
 size:a.tmps.size=88
 t2:a.tmps[2]?=O vl
 t7:a.tmps[7]?=O (.pointer (O p7))
 t12:a.tmps[12]?=O (.pointer (O p12))
 t13:a.tmps[13]?=O (.chan (O c0))
 t14:a.tmps[14]?=O (.chan (O c1))
 t15:a.tmps[15]?=O (.chan (O c2))
 t16:a.tmps[16]?=O va
 defers:a.defers=[]
def BK.put{q u}{A B}{c0 c1 c2}{a}(h:BK q u A B c0 c1 c2 a){d}(hd:d≠2/\d≠7/\d≠12/\d≠13/\d≠14/\d≠15/\d≠16)(v):BK q u A B c0 c1 c2 (a.put (O d) v):=
 ⟨by simp[zBf,h.size],by rw[qHA hd.1];exact h.t2,by rw[qHA hd.2.1];exact h.t7,by rw[qHA hd.2.2.1];exact h.t12,by rw[qHA hd.2.2.2.1];exact h.t13,by rw[qHA hd.2.2.2.2.1];exact h.t14,by rw[qHA hd.2.2.2.2.2.1];exact h.t15,by rw[qHA hd.2.2.2.2.2.2];exact h.t16,h.defers⟩
noncomputable def qRI:zDE:=qQN (Gk (hdC (tlC qwB)))
noncomputable def qEC:zDE:=tlC (tlC qwB)
noncomputable def qmE(k:F Item):F Item:=.inLoop qRI::.inBlock 1::.code qEC::k
def qbb{B:Z}{K:zp->Prop}{Stop:zE->Prop}{a:zDz}{b:zAm}{k:F Item}{cs:F zAm}(hb:b.roundOf=zc){vl v16:zg}{p7 p12:zAI}{c0 c1 c2:Z}(h16:16<a.tmps.size)(hA:∀v,BK vl v p7 p12 c0 c1 c2 (a.put (O 16) v))(h:∀a',BK vl (.slice zc 0 0) p7 p12 c0 c1 c2 a'->∃n,Go.Duo.Way Tryz.prog B K Stop n (G (b.atR a' (.code qRI::qmE k)) cs)):∃n,Go.Duo.Way Tryz.prog B K Stop n (G (b.atR a (.inRegion qmJ []::.code qwB::k)) cs):=by
 refine qYA qMA (qYA (qBC (x:=hdC qwB) (y:=tlC qwB)) ?_);refine qYA (AR (id:=11) (ops:=F6 (hdC qwB))) ?_;refine qYA (qdH hb (o:={dst:=O 16,op:=Op.assign (.const (.slice zc 0 0)),type:=38,pos:= "serve.go:48",after:=#[],guard:=zc}) (by rfl) rfl (.inr rfl) rfl (v:=.slice zc 0 0) rfl) ?_;refine qYA qMA (qYA (qBC (x:=hdC (tlC qwB)) (y:=qEC)) ?_);refine qYA (qIF (id:=1) (c:=.loop qRI)) (qYA qFQ ?_);exact h _ (hA _)
def slT(t)(h:((Tryz.prog.underlying t).bind λd=>match d with
  |.slice _=>O I
  |_=>zc)=O I):∃e,Tryz.prog.underlying t=O (.slice e):=by
 obtain⟨d,q,h⟩:=zAC.1 h;split at h
 .exact⟨_,q⟩
 .cases h
noncomputable def qkI:zDE:=Gk (tlC qRI)
noncomputable def Gx:zS zDA:=F6 (hdC (hdC qRI))
noncomputable def CI:zS zDA:=F6 (hdC qkI)
def BK.get{q u}{A B}{c0 c1 c2}{a}(h:BK q u A B c0 c1 c2 a){d}(hd:d<88)(v):(a.put (O d) v).tmps[d]?=O v:=qKE (by rw[h.size];exact hd)
def q5T{B:Z}{K:zp->Prop}{Stop:zE->Prop}{a:zDz}{b:zAm}{k:F Item}{cs:F zAm}(hb:b.roundOf=zc){ol oa:zy zAI}{L i cl ca:Z}{p7 p12:zAI}{c0 c1 c2:Z}(hA:BK (.slice ol L cl) (.slice oa i ca) p7 p12 c0 c1 c2 a)(h:∀a',BK (.slice ol L cl) (.slice oa i ca) p7 p12 c0 c1 c2 a'->∃n,Go.Duo.Way Tryz.prog B K Stop n (G (b.atR a' (.code (if decide ((i:zt)<L)then .skip else .exit 1)::.code (tlC qRI)::qmE k)) cs)):∃n,Go.Duo.Way Tryz.prog B K Stop n (G (b.atR a (.code qRI::qmE k)) cs):=by
 refine qYA (qBC (x:=hdC qRI) (y:=tlC qRI)) (qYA (qBC (x:=hdC (hdC qRI)) (y:=tlC (hdC qRI))) (qYA (AR (id:=12) (ops:=Gx)) ?_));have hr:zA8 Gx.size=[0,1,2,3,4]:=rfl;rw[hr];obtain⟨o0,g0,n0,d0,p0⟩:∃o,Gx[0]?=O o/\o.guard=zc/\o.dst=O 53/\o.op=.move (.tmp 16):=⟨_,rfl,rfl,rfl,rfl⟩;obtain⟨o1,g1,n1,d1,p1⟩:∃o,Gx[1]?=O o/\o.guard=zc/\o.dst=O 54/\o.op=.call {callee:=.builtin .len,args:=#[.tmp 53],argTypes:=#[38]}:=⟨_,rfl,rfl,rfl,rfl⟩;obtain⟨o2,g2,n2,d2,p2⟩:∃o,Gx[2]?=O o/\o.guard=zc/\o.dst=O 55/\o.op=.move (.tmp 2):=⟨_,rfl,rfl,rfl,rfl⟩;obtain⟨o3,g3,n3,d3,p3⟩:∃o,Gx[3]?=O o/\o.guard=zc/\o.dst=O 56/\o.op=.call {callee:=.builtin .len,args:=#[.tmp 55],argTypes:=#[27]}:=⟨_,rfl,rfl,rfl,rfl⟩;obtain⟨o4,g4,n4,d4,p4⟩:∃o,Gx[4]?=O o/\o.guard=zc/\o.dst=O 57/\o.op=.binOp .lss 3 (.tmp 54) (.tmp 56) 3:=⟨_,rfl,rfl,rfl,rfl⟩;have h38:∃e,Tryz.prog.underlying 38=O (.slice e):=slT 38 sd;have h27:∃e,Tryz.prog.underlying 27=O (.slice e):=slT 27 sd;obtain⟨e38,h38⟩:=h38;obtain⟨e27,h27⟩:=h27;refine qYA (qdH hb g0 n0 (.inl p0) d0 (qGA hA.t16)) ?_;have A0:=hA.put (d:=53) sb (.slice oa i ca);refine qYA (qKO hb g1 n1 (qeQ p1 (qGA (hA.get sb _)) h38)) ?_;rw[d1];have A1:=A0.put (d:=54) sb (.int .i64 i);refine qYA (qdH hb g2 n2 (.inl p2) d2 (qGA A1.t2)) ?_;have A2:=A1.put (d:=55) sb (.slice ol L cl);refine qYA (qKO hb g3 n3 (qeQ p3 (qGA (A1.get sb _)) h27)) ?_;rw[d3];have A3:=A2.put (d:=56) sb (.int .i64 L);refine qYA (qKO hb g4 n4 (qga (t:=0) (x:=i) (y:=L) p4 (qGA (by rw[qHA sb,qHA sb];exact A0.get sb _)) (qGA (A2.get sb _)))) ?_;rw[d4];have A4:=A3.put (d:=57) sb (.bool (decide ((i:zt)<L)));refine qYA qMA (qYA (qeH (n:=57) (x:=.skip) (y:=.exit 1) (A3.get sb _)) ?_);exact h _ A4
def qBR(a:zAI)(n:Z):(a.add n).block=a.block:=by unfold Addr.add;split<;>rfl
def q6X{P}{ρ}{o}{n t size B}{a}{ec}{w}(D:o.op=.load t (.tmp n))(E:ρ (.tmp n)=.pointer (O a))(hs:qYB P t=O size)(h:BT P t=O I)(H:ec.length=size)(q:∀j u,ec[j]?=O u->w.cell? (a.add j)=O u)(L:a.block<B):(zx ρ o).run P w=.ok (.value (.agg ⟨ec⟩)) w/\∀e∈(zx ρ o).events P w #[],Go.Conc.EvHd NoS B e:=by
 have e:zx ρ o=(do pure (.value (<-zBq t (.pointer (O a))))):=by unfold zx;simp only[D,E]
 have A:(zBq t (.pointer (O a))).run P w=.ok (.agg ⟨ec⟩) w:=by
  simp[zBq,Instr.sureAddr,(quB hs h (w:=w) (a:=a)).2 ec rfl H q]
 rw[e];refine⟨by rw[zZ,A];rfl,λev C=>?_⟩
 have Q:(do pure (Next.value (<-zBq t (.pointer (O a)))):Sem Next).events P w #[]=(zBq t (.pointer (O a))).events P w #[]:=by
  simp[Sem.events_bind,A,zBJ]
 rw[Q]at C
 exact qYT L (qeV hs h (λj R=>by
  have:ec[j]?=O ec[j]:=zAa sa
  rw[q j _ this];rfl) ev C)
def qKR{B:Z}{K:zp->Prop}{Stop:zE->Prop}{a:zDz}{b:zAm}{k:F Item}{cs:F zAm}(hb:b.roundOf=zc){al:zAI}{oa:zy zAI}{L i cl ca:Z}{p7 p12:zAI}{c0 c1 c2:Z}(hi:i<L){ec:F zg}(hec:ec.length=10)(hB:al.block<B)(hrd:∀w,K w->∀j u,ec[j]?=O u->w.cell? ((al.add (i*10)).add j)=O u)(hs27:∃e,Tryz.prog.underlying 27=O (.slice e)/\qYB Tryz.prog e=O 10)(h51:qYB Tryz.prog 51=O 10/\BT Tryz.prog 51=O I)(hA:BK (.slice (O al) L cl) (.slice oa i ca) p7 p12 c0 c1 c2 a)(h:∀a',BK (.slice (O al) L cl) (.slice oa i ca) p7 p12 c0 c1 c2 a'->a'.tmps[58]?=O (.chan (O c0))->a'.tmps[63]?=O (.agg ⟨ec⟩)->Stop (G (b.atR a' (.inRegion CI [6]::.code (tlC qkI)::.inBlock 2::qmE k)) cs)):∃n,Go.Duo.Way Tryz.prog B K Stop n (G (b.atR a (.code qRI::qmE k)) cs):=by
 refine q5T hb hA λa hA=>?_;rw[show decide ((i:zt)<L)=I from zR sa];refine qYA qVU (qYA (qIF (id:=2) (c:=qkI)) (qYA (qBC (x:=hdC qkI) (y:=tlC qkI)) (qYA (AR (id:=13) (ops:=CI)) ?_)));have hr:zA8 CI.size=[0,1,2,3,4,5,6]:=rfl;rw[hr];obtain⟨o0,g0,n0,d0,p0⟩:∃o,CI[0]?=O o/\o.guard=zc/\o.dst=O 58/\o.op=.move (.tmp 13):=⟨_,rfl,rfl,rfl,rfl⟩;obtain⟨o1,g1,n1,d1,p1⟩:∃o,CI[1]?=O o/\o.guard=zc/\o.dst=O 59/\o.op=.move (.tmp 2):=⟨_,rfl,rfl,rfl,rfl⟩;obtain⟨o2,g2,n2,d2,p2⟩:∃o,CI[2]?=O o/\o.guard=zc/\o.dst=O 60/\o.op=.move (.tmp 16):=⟨_,rfl,rfl,rfl,rfl⟩;obtain⟨o3,g3,n3,d3,p3⟩:∃o,CI[3]?=O o/\o.guard=zc/\o.dst=O 61/\o.op=.call {callee:=.builtin .len,args:=#[.tmp 60],argTypes:=#[38]}:=⟨_,rfl,rfl,rfl,rfl⟩;obtain⟨o4,g4,n4,d4,p4⟩:∃o,CI[4]?=O o/\o.guard=zc/\o.dst=O 62/\o.op=.indexAddr 27 (.tmp 59) (.tmp 61):=⟨_,rfl,rfl,rfl,rfl⟩;obtain⟨o5,g5,n5,d5,p5⟩:∃o,CI[5]?=O o/\o.guard=zc/\o.dst=O 63/\o.op=.load 51 (.tmp 62):=⟨_,rfl,rfl,rfl,rfl⟩;obtain⟨e38,h38⟩:=slT 38 sd;obtain⟨e27,h27,hz27⟩:=hs27;refine qYA (qdH hb g0 n0 (.inl p0) d0 (qGA hA.t13)) ?_;have A0:=hA.put (d:=58) sb (.chan (O c0));refine qYA (qdH hb g1 n1 (.inl p1) d1 (qGA A0.t2)) ?_;have A1:=A0.put (d:=59) sb (.slice (O al) L cl);refine qYA (qdH hb g2 n2 (.inl p2) d2 (qGA A1.t16)) ?_;have A2:=A1.put (d:=60) sb (.slice oa i ca);refine qYA (qKO hb g3 n3 (qeQ p3 (qGA (A1.get sb _)) h38)) ?_;rw[d3];have A3:=A2.put (d:=61) sb (.int .i64 i);refine qYA (qKO hb g4 n4 (qra p4 (qGA (by rw[qHA sb,qHA sb];exact A0.get sb _)) (qGA (A2.get sb _)) hi h27 hz27)) ?_;rw[d4];have A4:=A3.put (d:=62) sb (.pointer (O (al.add (i*10))));refine qqW hb g5 n5 (v:=.agg ⟨ec⟩) (λw hw=>?_) ?_
 .exact q6X p5 (qGA (A3.get sb _)) h51.1 h51.2 hec (hrd w hw) (by rw[qBR];exact hB)
 rw[d5];have A5:=A4.put (d:=63) sb (.agg ⟨ec⟩);exact⟨0,h _ A5 (by rw[qHA sb,qHA sb,qHA sb,qHA sb,qHA sb];exact hA.get sb _) (A4.get sb _)⟩
noncomputable def K3:zS zDA:=F6 (hdC qEC)
def q4T{B:Z}{K:zp->Prop}{Stop:zE->Prop}{a:zDz}{b:zAm}{k:F Item}{cs:F zAm}(hb:b.roundOf=zc){ol oa:zy zAI}{L i cl ca:Z}{p7 p12:zAI}{c0 c1 c2:Z}(hi:L<=i)(hA:BK (.slice ol L cl) (.slice oa i ca) p7 p12 c0 c1 c2 a)(h:∀a',BK (.slice ol L cl) (.slice oa i ca) p7 p12 c0 c1 c2 a'->a'.tmps[69]?=O (.chan (O c0))->Stop (G (b.atR a' (.inRegion K3 [1]::.code (tlC qEC)::k)) cs)):∃n,Go.Duo.Way Tryz.prog B K Stop n (G (b.atR a (.code qRI::qmE k)) cs):=by
 refine q5T hb hA λa hA=>?_;rw[show decide ((i:zt)<L)=zb from zT sa];refine qYA (qjZ (id:=1) (k':=.code qEC::k) (by simp[exitTo,qmE])) ?_;refine qYA (qBC (x:=hdC qEC) (y:=tlC qEC)) (qYA (AR (id:=15) (ops:=K3)) ?_);have hr:zA8 K3.size=[0,1]:=rfl;rw[hr];obtain⟨o0,g0,n0,d0,p0⟩:∃o,K3[0]?=O o/\o.guard=zc/\o.dst=O 69/\o.op=.move (.tmp 13):=⟨_,rfl,rfl,rfl,rfl⟩;refine qYA (qdH hb g0 n0 (.inl p0) d0 (qGA hA.t13)) ?_;exact⟨0,h _ (hA.put (d:=69) sb (.chan (O c0))) (hA.get sb _)⟩
def qLS{a:zDz}{b:zAm}{k:F Item}{cs:F zAm}(hb:b.roundOf=zc)(hk:b.kind≠.early){c0:Z}{v:zg}(h58:a.tmps[58]?=O (.chan (O c0)))(h63:a.tmps[63]?=O v)(w:zp):zAD Tryz.prog I (G (b.atR a (.inRegion CI [6]::k)) cs) w=.comm (G (b.atR a (.inRegion CI [6]::k)) cs) #[scase c0 v (.tuple #[])] I .send w #[]/\Go.Conc.served (G (b.atR a (.inRegion CI [6]::k)) cs) zAU=G (b.atR a (.inRegion CI []::k)) cs:=by
 obtain⟨o,ho,hg,hd,hop⟩:∃o,CI[6]?=O o/\o.guard=zc/\o.dst=zc/\o.op=.send (.tmp 58) (.tmp 63):=⟨_,rfl,rfl,rfl,rfl⟩
 have hr:∀w,(zx a.eval o).run Tryz.prog w=.ok (.comm #[scase c0 v (.tuple #[])] I .send) w/\(zx a.eval o).events Tryz.prog w #[]=#[]:=λw=>by
  have e1:=qGA h58;have e2:=qGA h63;unfold zx;simp[hop,e1,e2,scase]
 constructor
 .rw[Frame.atR_of_none hb,Go.Conc.stepG_comm ho (by simp[zAl,hg]) hk (hr w).1,Go.Conc.listed_none (hr w).2]
 .have:=zBc b a CI 6 [] k zAU;rw[ho]at this;simp only[zCN,hd]at this;have e:(b.atR a (.inRegion CI [6]::k)).finish zAU=b.atR a (.inRegion CI []::k):=this;exact zI (λf=>G f cs) e
noncomputable def Dr:zS zDA:=F6 (tlC qkI)
def qwa(b:zAm)(k:F Item)(cs:F zAm)(q h:zg)(u A:zAI)(c0 c1 c2:Z)(g:zE):Prop:=
 ∃a,BK q h u A c0 c1 c2 a/\a.tmps[64]?=O h/\g=G (b.atR a (.inRegion Dr [2,3,4,5]::.inBlock 2::qmE k)) cs
def qiU{P}{ρ}{o}{t e n}{u:ChanDir}{c}{z}(A:o.op=.recv t (.tmp n) zb)(B:ρ (.tmp n)=.chan (O c))(q:P.underlying t=O (.chan u e))(h:∀w,(zAW e).run P w=.ok z w/\(zAW e).events P w #[]=#[]):∀w,(zx ρ o).run P w=.ok (.comm #[zAN c z] I (.recv zb)) w/\(zx ρ o).events P w #[]=#[]:=by
 intro w;unfold zx;simp only[A,B];constructor
 .simp[zZ,zL q,zAk,zAN,(h w).1]
 .simp[go_sem,zL q,zBJ,(h w).1,(h w).2]
def qsY{a}{b}{k}{cs}(hb:b.roundOf=zc)(hk:b.kind≠.early){vl va z}{p7 p12}{c0 c1 c2}(hA:BK vl va p7 p12 c0 c1 c2 a){t e}{dir:ChanDir}(hop:∃o,Dr[2]?=O o/\o.guard=zc/\o.op=.recv t (.tmp 65) zb)(ht:Tryz.prog.underlying t=O (.chan dir e))(hz:∀w,(zAW e).run Tryz.prog w=.ok z w/\(zAW e).events Tryz.prog w #[]=#[]):Cs Tryz.prog (λg=>∃g₂,AtIn Tryz.prog I TrK NoS 0 (Seat.one c1 z zb (qwa b k cs vl va p7 p12 c0 c1 c2)) g g₂) 4 (G (b.atR a (.inRegion CI []::.code (tlC qkI)::.inBlock 2::qmE k)) cs):=by
 obtain⟨o,ho,hg,hop⟩:=hop;refine Cs.step qMA (Cs.step (AR (id:=14) (ops:=Dr)) ?_);have hr:zA8 Dr.size=[0,1,2,3,4,5]:=rfl;rw[hr];obtain⟨o0,g0,n0,d0,p0⟩:∃o,Dr[0]?=O o/\o.guard=zc/\o.dst=O 64/\o.op=.move (.tmp 16):=⟨_,rfl,rfl,rfl,rfl⟩;obtain⟨o1,g1,n1,d1,p1⟩:∃o,Dr[1]?=O o/\o.guard=zc/\o.dst=O 65/\o.op=.move (.tmp 14):=⟨_,rfl,rfl,rfl,rfl⟩;refine Cs.step (qdH hb g0 n0 (.inl p0) d0 (qGA hA.t16)) ?_;have A0:=hA.put (d:=64) sb va;refine Cs.step (qdH hb g1 n1 (.inl p1) d1 (qGA A0.t14)) ?_;have A1:=A0.put (d:=65) sb (.chan (O c1));have hr:=qiU (P:=Tryz.prog) hop (qGA (A0.get (d:=65) sb (.chan (O c1)))) ht hz;show ∃g₂,_;rw[Frame.atR_of_none hb];exact⟨_,Go.Conc.atIn_of (s:=Seat.one c1 z zb (qwa b k cs vl va p7 p12 c0 c1 c2)) ho (by simp[zAl,hg]) hk (λw=>(hr w).1) (λw=>(hr w).2) ⟨_,A1,by rw[qHA sb];exact hA.get sb _,by rw[Frame.atR_of_none hb]⟩⟩
def qUK(z:zg)(b:zAm)(k:F Item)(cs:F zAm)(h q:zg)(u A:zAI)(c0 c1 c2:Z):Seat:=Seat.one c1 z zb (qwa b k cs h q u A c0 c1 c2)
def Kz{K}{a}{b}{k}{cs}(h:b.roundOf=zc)(q:b.kind≠.early){u A z v}{C D}{c0 c1 c2}(L:BK u A C D c0 c1 c2 a)(E:a.tmps[58]?=O (.chan (O c0)))(H:a.tmps[63]?=O v){t e}{P:ChanDir}(Q:∃o,Dr[2]?=O o/\o.guard=zc/\o.op=.recv t (.tmp 65) zb)(R:Tryz.prog.underlying t=O (.chan P e))(T:∀w,(zAW e).run Tryz.prog w=.ok z w/\(zAW e).events Tryz.prog w #[]=#[]){B}:qxH Tryz.prog K c0 v (λg=>zDF Tryz.prog I TrK NoS B (qUK z b k cs u A C D c0 c1 c2) 5 g) (G (b.atR a (.inRegion CI [6]::.code (tlC qkI)::.inBlock 2::qmE k)) cs):=
 ⟨rfl,_,_,λw _=>(qLS h q E H w).1,by rw[(qLS h q E H default).2];exact qQC (zJ _) (qYE (qsY h q L Q R T))⟩
def bS:zAm:={(default:zAm)with fn:=8,kind:=.normal,roundOf:=zc}
def aS(x y z h q:zg):zDz:=⟨#[.agg ⟨[x,y,z]⟩,h,q]++zAP 85 zAU,[]⟩
def q8a(x y z vn vl:zg):zAR Tryz.prog 8 #[.agg ⟨[x,y,z]⟩,vn,vl] .normal=bS.atR (aS x y z vn vl) [.code qkN]:=by
 simp[zAR,zAM,Tryz.func8,bS,aS,qkN];rfl
structure AtGo(w0:zp)(g:GW)(vl:zg)(W:Wd)(c0 c1 c2 b7 b12:Z)(g':GW)(cs7:F zg)(a:zDz)(w:zp):Prop where
 le:g<=g'
 old:∀n,n<w0.heap.size->g'.g n->g.g n
 wo:rWo g' cs7 W
 ch:Jr w0.heap.size c0 c1 c2 w
 below:Below w0.heap.size w0 w
 ng:¬g'.g c0/\¬g'.g c1/\¬g'.g c2/\¬g'.g b7/\¬g'.g b12
 sim:∃fr hs,Ap fr hs w/\hs.g=g'
 m7:w.heap[b7]?=O (.cells #[.int .i64 0,.int .i64 0,.int .i64 0,.slice zc 0 0,.slice zc 0 0,.slice zc 0 0,.slice zc 0 0,.slice zc 0 0] 44 (0,0))
 m12:w.heap[b12]?=O (.cells cs7.toArray 44 (0,0))/\∀c∈cs7,c.oneCell'=I
 l7:w0.heap.size<=b7
 l12:w0.heap.size<=b12
 d:b7≠b12
 size:a.tmps.size=88
 t2:a.tmps[2]?=O vl
 t7:a.tmps[7]?=O (.pointer (O ⟨b7,0,zc⟩))
 t12:a.tmps[12]?=O (.pointer (O ⟨b12,0,zc⟩))
 t13:a.tmps[13]?=O (.chan (O c0))
 t14:a.tmps[14]?=O (.chan (O c1))
 t15:a.tmps[15]?=O (.chan (O c2))
 t49:a.tmps[49]?=O (.agg ⟨cs7⟩)
 t50:a.tmps[50]?=O (.chan (O c0))
 t51:a.tmps[51]?=O (.chan (O c1))
 t52:a.tmps[52]?=O (.chan (O c2))
 defers:a.defers=[]
def q3G(l):qCA (l.map .v)=l:=by rw[qgA];simp[zCc,Ag]
def L8{E:Env Tryz.prog}{w0:zp}{g:GW}(ag:Go.Proofs.YtlmhpamhhgogaaaGreat.Sx.Good g w0)(hE:E.N<=w0.heap.size){x y z:zg}{c:Bn}{names:F BA}{L C:zg}{l:F OpD}{cs:F zAm}(U:qBB g [x,y,z] c)(ah:qOA c=zc)(u:rSl 1 E8 g L names)(ai:qyH (qLB c) names 1)(aj:names.length<=1000000)(ak:c.Ar.length<=1000000)(al:rSl 10 rOp g C l)(am:l.length<=200)(an:∀a w c0 c1 c2 b7 b12 g' P,AtGo w0 g C (CJ (qLB c) names 1) c0 c1 c2 b7 b12 g' P a w->E.G (G (bS.atR a (.inRegion qmJ [4]::.code qwB::[])) cs) w):E.G (G (zAR Tryz.prog 8 #[.agg ⟨[x,y,z]⟩,L,C] .normal) cs) w0:=by
 rw[q8a];have ac:(⟨w0,(·<w0.heap.size),g.g,λ_ D=>D⟩:Fr).has E:=λn u=>zQ u hE
 have ao:Stn 88 ⟨w0,(·<w0.heap.size),g.g,λ_ D=>D⟩ [] [(2,.v C),(1,.v L),(0,.v (.agg ⟨[x,y,z]⟩))] ⟨g,[],0,w0.heap.size⟩ (aS x y z L C) w0:=by
  refine⟨by simp[aS],rfl,λn V Q=>?_,⟨ag,⟨rfl,rfl,rfl,zH _,λ_ _=>rfl⟩,λr ap=>absurd ap zC,zBW,λb W=>by simp[Hs.bks]at W,λ_ _ H=>H,λn u _ aq=>by have:n<w0.heap.size:=aq;simp only at u;omega,zH _,λb W=>by simp[Hs.bks]at W⟩⟩;simp only[AS]at Q
  repeat' split at Q
  all_goals first|(cases Q;done)|skip
  all_goals(rename_i ar;obtain rfl:=zP ar;obtain rfl:=zn Q)
  .simp[aS,Ag]
  .simp[aS,Ag]
  .simp[aS,Ag]
 refine KO (g:=g) ac U ah u ai aj ak al am (λg' P v3 aN b7 aO b12 aP w1 sl au hW Y av aw R=>?_) ao;refine Kd ac (zY hE R.sim.frm.size) rfl hW Y av aw R λc0 c1 c2 ad ax ay aQ az aR aT aU h g2 aA aB aC aD aE aF aG aH aI A=>?_;have aa:=R.sim.frm.size;have ab:∀n,w1.heap.size<=n->¬g'.g n:=λn u H=>by have:=g'.wf n H;have:=R.sim.AJ.1;simp only at this;omega
 have B:=A.sim.EQ az;have q:∀{n V},AS ay n=O V->ad.tmps[n]?=O (Ag V):=λD=>A.As _ _ D;obtain⟨aW,aJ,aK⟩:=aF;have ae:=A.sim.res _ (show(Res.blk 3 b12 44 (P.map .v))∈_ by simp);have aL:=A.sim.res (.blk 1 b7 44 [.v (.int .i64 0),.v (.int .i64 0),.v (.int .i64 0),.v (.slice zc 0 0),.v (.slice zc 0 0),.v (.slice zc 0 0),.v (.slice zc 0 0),.v (.slice zc 0 0)]) se;have aM:=A.sim.nod;have T:=B.fre;refine an ad ax c0 c1 c2 b7 b12 g' P ⟨au,λn u H=>B.fz n u H,hW,⟨h.h0,h.h1,h.h2,h.d01,h.d02,h.d12,zY aa h.l0,zY aa h.l1,zY aa h.l2⟩,⟨B.frm.os,B.frm.tape,B.frm.output,B.frm.size,B.frm.block⟩,⟨ab _ h.l0,ab _ h.l1,ab _ h.l2,(T b7 (by simp[Hs.bks,Res.bk])).1,(T b12 (by simp[Hs.bks,Res.bk])).1⟩,⟨_,_,A.sim,rfl⟩,?_,?_,?_,?_,?_,A.size,q g2,q aA,q aB,q aC,q aD,q aE,(q aJ).trans (zI O aK),q aG,q aH,q aI,A.defers⟩
 .have:=aL.1;simpa[qCA,Ag]using this
 .have af:=ae.1;have Y:=ae.2
  rw[q3G]at af;exact⟨af,λc U=>Y (.v c) (zU.2 ⟨c,U,rfl⟩)⟩
 .have:=(T b7 (by simp[Hs.bks,Res.bk])).2;exact zDf.1 this
 .have:=(T b12 (by simp[Hs.bks,Res.bk])).2;exact zDf.1 this
 .simp[Hs.bks,Res.bk]at aM;omega
end Go.Proofs.YtlmhpamhhgogaaaGreat
namespace Go.Proofs.YtlmhpamhhgogaaaGreat
open Go.Conc (G born parked rcase scase AtIn Sits Seat heap_setChan_ne heap_setChan_self below_setChan)
open Go.Proofs.YtlmhpamhhgogaaaGreat.Sx Go.Duo Go.RowKit
def ZV(t:Z)(z:zg):Prop:=∃h e,Tryz.prog.underlying t=O (.chan h e)/\∀w,(zAW e).run Tryz.prog w=.ok z w/\(zAW e).events Tryz.prog w #[]=#[]
def qZb(t)(h:((Tryz.prog.underlying t).bind λd=>match d with
  |.chan _ e=>((Tryz.prog.info? e).bind λi=>i.zero).map λ_=>I
  |_=>zc)=O I):∃z,ZV t z:=by
 obtain⟨q,e,z,u,A⟩:=chZ t h;exact⟨z,q,e,u,A⟩
structure Plc(n0 N c0 c1 c2 b7 b12:Z):Prop where
 l0:n0<=c0/\c0<N
 l1:n0<=c1/\c1<N
 l2:n0<=c2/\c2<N
 l7:n0<=b7/\b7<N
 l12:n0<=b12/\b12<N
 d01:c0≠c1
 d02:c0≠c2
 d12:c1≠c2
 d:b7≠b12
abbrev zW:zS zg:=#[.int .i64 0,.int .i64 0,.int .i64 0,.slice zc 0 0,.slice zc 0 0,.slice zc 0 0,.slice zc 0 0,.slice zc 0 0]
structure JC(w0:zp)(N c0 c1 c2 b7 b12:Z)(cs7:F zg)(k0 k1:Z)(hs:Hs)(w:zp):Prop where
 mine:Ck N hs w
 below:Below w0.heap.size w0 w
 h0:w.heap[c0]?=O (.chan 0 #[] zb k0 k0 zb)
 h1:w.heap[c1]?=O (.chan 0 #[] zb k1 k1 zb)
 h2:w.heap[c2]?=O (.chan 1 #[] zb 0 0 zb)
 m7:w.heap[b7]?=O (.cells zW 44 (0,0))
 m12:w.heap[b12]?=O (.cells cs7.toArray 44 (0,0))
 ng:¬hs.g.g c0/\¬hs.g.g c1/\¬hs.g.g c2/\¬hs.g.g b7/\¬hs.g.g b12
section
variable{w0 w w':zp}{N c0 c1 c2 b7 b12 k0 k1:Z}{cs7:F zg}{hs hs':Hs}
def JC.at(h:JC w0 N c0 c1 c2 b7 b12 cs7 k0 k1 hs w)(d):JC w0 N c0 c1 c2 b7 b12 cs7 k0 k1 hs (w.at d):=
 ⟨h.mine.at d,⟨h.below.os,h.below.tape,h.below.output,h.below.size,h.below.block⟩,h.h0,h.h1,h.h2,h.m7,h.m12,h.ng⟩
def qSC{w:zp}{a b:Z}{x y:Obj}(u:w.heap[a]?=O x)(q:w.heap[b]?=O y)(h:x≠y):a≠b:=λe=>by subst e;rw[u]at q;exact h (zn q)
def JC.Jm(q:Plc w0.heap.size N c0 c1 c2 b7 b12)(h:JC w0 N c0 c1 c2 b7 b12 cs7 k0 k1 hs w)(k):JC w0 N c0 c1 c2 b7 b12 cs7 k k1 hs (w.setChan c0 0 #[] zb k k zb):=by
 have e:∀{n:Z}{x:Obj},w.heap[n]?=O x->c0≠n->(w.setChan c0 0 #[] zb k k zb).heap[n]?=O x:=λu A=>(zDB w 0 #[] zb k k zb A).trans u;exact⟨h.mine.chan q.l0.2 h.ng.1 ..,below_setChan h.below q.l0.1 ..,heap_setChan_self w h.h0 ..,e h.h1 q.d01,e h.h2 q.d02,e h.m7 (qSC h.h0 h.m7 se),e h.m12 (qSC h.h0 h.m12 se),h.ng⟩
def JC.Lh(q:Plc w0.heap.size N c0 c1 c2 b7 b12)(h:JC w0 N c0 c1 c2 b7 b12 cs7 k0 k1 hs w)(k):JC w0 N c0 c1 c2 b7 b12 cs7 k0 k hs (w.setChan c1 0 #[] zb k k zb):=by
 have e:∀{n:Z}{x:Obj},w.heap[n]?=O x->c1≠n->(w.setChan c1 0 #[] zb k k zb).heap[n]?=O x:=λu A=>(zDB w 0 #[] zb k k zb A).trans u;exact⟨h.mine.chan q.l1.2 h.ng.2.1 ..,below_setChan h.below q.l1.1 ..,e h.h0 q.d01.symm,heap_setChan_self w h.h1 ..,e h.h2 q.d12,e h.m7 (qSC h.h1 h.m7 se),e h.m12 (qSC h.h1 h.m12 se),h.ng⟩
def JC.next(q:Plc w0.heap.size N c0 c1 c2 b7 b12)(h:JC w0 N c0 c1 c2 b7 b12 cs7 k0 k1 hs w)(D:Ap (frB N w hs.g h.mine.size) hs' w')(E:N<=hs'.lo):JC w0 N c0 c1 c2 b7 b12 cs7 k0 k1 hs' w':=by
 obtain⟨H,A,B⟩:=Ck.next D E;have e:∀{n:Z}{x:Obj},w.heap[n]?=O x->n<N->w'.heap[n]?=O x:=λL C=>(A.block _ C).trans L;refine⟨H,⟨A.os.trans h.below.os,A.tape.trans h.below.tape,A.output.trans h.below.output,zY h.below.size A.size,λn C=>(A.block n ?_).trans (h.below.block n C)⟩,e h.h0 q.l0.2,e h.h1 q.l1.2,e h.h2 q.l2.2,e h.m7 q.l7.2,e h.m12 q.l12.2,λu=>h.ng.1 (B _ q.l0.2 u),λu=>h.ng.2.1 (B _ q.l1.2 u),λu=>h.ng.2.2.1 (B _ q.l2.2 u),λu=>h.ng.2.2.2.1 (B _ q.l7.2 u),λu=>h.ng.2.2.2.2 (B _ q.l12.2 u)⟩;have:=q.l0;omega
end
def q7a{B q}(u:B<=q){e}(h:Go.Conc.EvHd NoS B e):Go.Conc.EvHd NoS q e:=⟨h.1,h.2.1,h.2.2.1,MemAct.low_mono u h.2.2.2⟩
def q1T{P}{B q}{K}{Stop u}(A:B<=q)(C:∀g,Stop g->u g):∀{n:Z}{g:zE},Go.Duo.Way P B K Stop n g->Go.Duo.Way P q K u n g
 |0,_,h=>C _ h
 |n+1,_,⟨D,E,H,h⟩=>⟨D,E,λw L=>by
  obtain⟨es,Q,R⟩:=H w L
  exact⟨es,Q,λe T=>q7a A (R e T)⟩,q1T A C h⟩
def q8b{P}{K}{c n0}{v}{X}{B q}(u:B<=q){g}(h:qxH P K c v (λg=>zDF P I TrK NoS B X n0 g) g):qxH P K c v (λg=>zDF P I TrK NoS q X n0 g) g:=
 let⟨A,C,D,E,H⟩:=h
 ⟨A,C,D,E,qQC u H⟩
def qhd{P}{K}{c n0}{X}{B q}(u:B<=q){g}(h:qmF P K c (λg=>zDF P I TrK NoS B X n0 g) g):qmF P K c (λg=>zDF P I TrK NoS q X n0 g) g:=
 let⟨A,C,D,E,H,L⟩:=h
 ⟨A,C,D,E,H,qQC u L⟩
end Go.Proofs.YtlmhpamhhgogaaaGreat
