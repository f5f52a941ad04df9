import Derived.Conc.SmallLaws
import Derived.Conc.AppendEvents3
import Derived.Test.YtlmhpamhhgogaaaGreatP1
import Derived.Test.YtlmhpamhhgogaaaGreatL0
set_option linter.all false
set_option maxHeartbeats 16000000
set_option maxRecDepth 100000
open And renaming intro→zI
open Array renaming replicate→zAU
open Bool renaming false→zb,true→I
open Classical renaming propDecidable→zDR
open Eq renaming refl→zAx
open Go renaming Value→zg,World→zp,Program→zt,execOp→zy,Goroutine→zH,run_underlying→zN,maxLen→zAr,Frame→zAt,TypeId→zAy,stepG→zAE,Addr→zAH,Act→zDN,Oper→zDO,commResult→zAV,undef→zAX,zeroValue→zAZ,FuncId→zBa,Trace→zDQ,Code→zDT
open Go.Act renaming put→zBg
open Go.Conc renaming rcase→zAR,closeEvents→zA2,heap_setChan_ne→zDP,Sits→zDU
open Go.Deferred renaming ofValue→zBH
open Go.Frame renaming atR→zAQ,enter→zAW,finish_atR→zBe
open Go.GStep renaming after→zBF
open Go.Instr renaming loadAt→zBv
open Go.IntKind renaming i64→zAf,wrap_i64→zBB,u64→zBO
open Go.Proofs.Tryz renaming prog→X0
open Go.Region renaming wanted→zAs,ready→zAC
open Go.Result renaming andThen→zAo,andThen_ok→zAY,evThen→zBJ
open Go.Sem renaming run_bind→zAa,runT_eq→zBs
open Go.Value renaming int→zD,oneCell'→zA0,bool→zBm
open Go.Value.slice renaming injEq→zAp
open List renaming range→zBf
open Option renaming some→O,none→zc
open _root_ renaming List→F,Nat→Z,Int→zn,Option→zs,Bool→zM,Array→zR,False→zV
namespace Go.Proofs.YtlmhpamhhgogaaaGreat
open Go.Proofs.YtlmhpamhhgogaaaGreat.Sx Go.RowKit
def qsb(g){cs W}{w}{m:Aj}(aw:rWo g cs w)(hM:qeA g W m)(ax:SnW w)(hb:BgW 1000000 w)(M:cGo w m)(Y:m.pc=3):Ok X0 151 [.agg ⟨cs⟩,.agg ⟨W⟩] g (CoP w m):=by
 obtain⟨h,hM9,q⟩:=qjG M;have hs:=M.1;have ay:=qbE M.2.1;obtain⟨v,aW,aX,az⟩:=id (Ar.1 hs);obtain⟨aA,aB,aC,aD,aE,aF,aG,aH,aI,aJ,aK,aL,aM,aN,aO,aP,rfl,rfl,P,aa,⟨aQ,aY,aZ⟩,a0,a1,a2,a3,a4,⟨a5,a6,a7,a8⟩,⟨b1,a9,ba,bb⟩,⟨c1,c2,c0,bc⟩,⟨bd,be,bf,bg⟩,⟨bh,bi,bj,bl⟩,Q,R,T⟩:=qaB aw hM;obtain⟨B,ab,bm,H,ac,ad,ae,men,af,msl,ag,ah,ai,mk,aj,ak,al,an⟩:=m;simp only at Y;subst Y;obtain⟨ao,ap,kE⟩:=cb3 (w:=w) (m:=⟨B,ab,3,H,ac,ad,ae,men,af,msl,ag,ah,ai,mk,aj,ak,al,an⟩) rfl;rw[ao]at h;rw[ap]at hM9;rw[kE]at q;clear ao ap kE
 exact Ok.Ao hm qOF 5 AR.2 (args:=[.v (.agg ⟨wQ w aA aB aC aD aE aF aG aH aI aJ⟩),.v (.agg ⟨Aj.cs (.slice aK B.Ap.Aa.length aL) (.slice aM B.Ap.As.length aN) (.slice aO B.Ap.Ad.length aP) ⟨B,ab,3,H,ac,ad,ae,men,af,msl,ag,ah,ai,mk,aj,ak,al,an⟩⟩)]) (by
  refine zq ?_;intros;refine .inl ⟨_,qVA _ P aa ax hb,zq ?_⟩;intros;refine⟨λU=>absurd (hs.symm.trans (nb1 U)) sb,λ_=>zq ?_⟩;intros;refine .inl ⟨_,qQF _ P aa hs hb,zq ?_⟩;intros;refine⟨λU=>absurd (ay.symm.trans (nb1 U)) sb,λ_=>zq ?_⟩;intros;refine .inr ((qSA _ P hb).mono λv bn V aR=>?_);obtain⟨cs,bo,rfl,aT⟩:=aR;have L:=qcA aT;obtain⟨bp,bq,br,bt,bu,bv,bw,bx,bz,bA,rfl⟩:=qJA L;refine zq ?_;intros;rename_i aq ar bB bC;refine zw ?_;refine⟨O (.func (.func 184) ⟨[xC aq ar]⟩ ⟨[]⟩),rfl,zw ?_⟩;refine⟨λC=>(nomatch C),λ_=>zq ?_⟩;intros;refine⟨kF,[.agg [.p 5 aq 0,.p 6 ar 0]],[],⟨rfl,rfl⟩,zq ?_⟩;intros;refine zI (λz1=>?_) (λz1=>?_)
  .have z1:w.Al=H:=ze z1;refine zq ?_;intros;refine zI (λA=>?_) (λA=>?_)
   .have A:w.Al<1000000000000:=ze A;rw[zk ⟨z1,A⟩]at h hM9 q;have bD:=az.right;have aU:w.Al+1=zAf.wrap (w.Al+1):=by unfold InR at aQ;rw[zBB];omega
    rw[aU]at h hM9 q;have aV:=qUT L (x:=zAf.wrap (w.Al+1)) (q8A _);refine zq ?_;intros
    repeat'((first|refine⟨_,λD au E=>qXA D (E.cel (id:=6) rfl 10 rfl),?_⟩|refine zI ?_ ?_|fail)<;>first|(refine zq ?_;intros)|rfl)
    all_goals(conv=>whnf)
    all_goals(first|exact zAx _|(
     intro av u;refine⟨_,_,by rw[q]<;>rfl,by rw[h];exact qCA _ _ _ _ u aV,?_⟩;rw[hM9]
     exact⟨_,_,_,rfl,{Q with Al:=q8A _,pc:=show InR (4:zn) by decide,i:=z0},R,qAA _ _ _ _ (GW.trans V u) T⟩))
   .have A:¬w.Al<1000000000000:=zf A;rw[zh λC=>A C.2]at h hM9 q;refine zq ?_;intros
    repeat'((first|refine⟨_,λD au E=>qXA D (E.cel (id:=6) rfl 10 rfl),?_⟩|refine zI ?_ ?_|fail)<;>first|(refine zq ?_;intros)|rfl)
    all_goals(conv=>whnf)
    all_goals(first|exact zAx _|(
     intro av u;refine⟨_,_,by rw[q]<;>rfl,by rw[h];exact qCA _ _ _ _ u L,?_⟩;rw[hM9]
     exact⟨_,_,_,rfl,{Q with pc:=show InR (4:zn) by decide,i:=z0},R,qAA _ _ _ _ (GW.trans V u) T⟩))
  .have z1:¬w.Al=H:=zf z1;rw[zh λC=>z1 C.1]at h hM9 q;refine zq ?_;intros
   repeat'((first|refine⟨_,λD au E=>qXA D (E.cel (id:=6) rfl 10 rfl),?_⟩|refine zI ?_ ?_|fail)<;>first|(refine zq ?_;intros)|rfl)
   all_goals(conv=>whnf)
   all_goals(first|exact zAx _|(
    intro av u;refine⟨_,_,by rw[q]<;>rfl,by rw[h];exact qCA _ _ _ _ u L,?_⟩;rw[hM9]
    exact⟨_,_,_,rfl,{Q with pc:=show InR (4:zn) by decide,i:=z0},R,qAA _ _ _ _ (GW.trans V u) T⟩)))
def qrb(g){cs af}{w}{m:Aj}(aD:rWo g cs w)(hM:qeA g af m)(aE:SnW w)(hb:BgW 1000000 w)(ab:cGo w m)(ag:m.pc=4):Ok X0 151 [.agg ⟨cs⟩,.agg ⟨af⟩] g (CoP w m):=by
 obtain⟨A,hM9,u⟩:=qjG ab;have hs:=ab.1;have aF:=qbE ab.2.1;obtain⟨v,a5,a6,aG⟩:=id (Ar.1 hs);obtain⟨aH,aI,aJ,aK,aL,aM,aN,aO,aP,aQ,aR,aT,aU,aV,aW,aX,rfl,rfl,ac,ah,⟨a7,a8,a9⟩,ba,bb,bc,bd,be,⟨bf,bg,bh,bi⟩,⟨b1,bj,bl,bm⟩,⟨c1,c2,c0,bn⟩,⟨bo,bp,bq,br⟩,⟨bt,bu,bv,bw⟩,L,M,P⟩:=qaB aD hM;obtain⟨Y,ai,bx,ad,aj,ak,al,men,an,msl,ao,ap,H,mk,aq,ar,au,av⟩:=m;simp only at ag;subst ag;obtain⟨aw,ax,kE⟩:=cb4 (w:=w) (m:=⟨Y,ai,4,ad,aj,ak,al,men,an,msl,ao,ap,H,mk,aq,ar,au,av⟩) rfl;rw[aw]at A;rw[ax]at hM9;rw[kE]at u;clear aw ax kE
 exact Ok.Ao hm qOF 5 AR.2 (args:=[.v (.agg ⟨wQ w aH aI aJ aK aL aM aN aO aP aQ⟩),.v (.agg ⟨Aj.cs (.slice aR Y.Ap.Aa.length aT) (.slice aU Y.Ap.As.length aV) (.slice aW Y.Ap.Ad.length aX) ⟨Y,ai,4,ad,aj,ak,al,men,an,msl,ao,ap,H,mk,aq,ar,au,av⟩⟩)]) (by
  refine zq ?_;intros;refine .inl ⟨_,qVA _ ac ah aE hb,zq ?_⟩;intros;refine⟨λD=>absurd (hs.symm.trans (nb1 D)) sb,λ_=>zq ?_⟩;intros;refine .inl ⟨_,qQF _ ac ah hs hb,zq ?_⟩;intros;refine⟨λD=>absurd (aF.symm.trans (nb1 D)) sb,λ_=>zq ?_⟩;intros;refine .inr ((qSA _ ac hb).mono λv bz Q aY=>?_);obtain⟨cs,bA,rfl,aZ⟩:=aY;have E:=qcA aZ;obtain⟨bB,bC,bD,bE,bF,bG,bH,bI,bJ,bK,rfl⟩:=qJA E;refine zq ?_;intros;rename_i ay az bL bM;refine zw ?_;refine⟨O (.func (.func 185) ⟨[xC ay az]⟩ ⟨[]⟩),rfl,zw ?_⟩;refine⟨λh=>(nomatch h),λ_=>zq ?_⟩;intros;refine⟨kF,[.agg [.p 5 ay 0,.p 6 az 0]],[],⟨rfl,rfl⟩,?_⟩;have bN:0<=H:=aG.i;have bO:=hb.1.2.2.1;have bP:=hb.1.2.2.2.2;refine zq ?_;intros;refine zI (λy=>?_) (λy=>?_)
  .have y:(w.Ai.length:zn)<=H:=ze y;rw[zk y]at A hM9 u;refine zq ?_;intros;refine zI (λz=>?_) (λz=>?_)
   .have z:(w.Aa.length:zn)<=0:=ze z;simp only[cdW,cdM,cdE]at A hM9 u;rw[zk z]at A hM9 u;have a0:=q3L E (x:=0) sb;refine zq ?_;intros
    repeat'((first|refine⟨_,λB U C=>qXA B (C.cel (id:=6) rfl 10 rfl),?_⟩|refine zI ?_ ?_|fail)<;>first|(refine zq ?_;intros)|rfl)
    all_goals(conv=>whnf)
    all_goals(first|exact zAx _|(
     intro V q;refine⟨_,_,by rw[u]<;>rfl,by rw[A];exact qCA _ _ _ _ q a0,?_⟩;rw[hM9]
     exact⟨_,_,_,rfl,{L with i:=z0,pc:=show InR (8:zn) by decide,answer:=qUV L.answer},M,qAA _ _ _ _ (GW.trans Q q) P⟩))
   .have z:¬(w.Aa.length:zn)<=0:=zf z;simp only[cdW,cdM,cdE]at A hM9 u;rw[zh z]at A hM9 u;obtain⟨x,D⟩:=qBA (l:=w.Aa) (i:=(0:zn).toNat) sa;rw[qcE D]at hM9 u;have aA:=qDI E;obtain⟨bQ,rfl⟩:=qYA aA D;obtain⟨bR,aa⟩:=qnG aA D;obtain⟨xn,a1,bT,a2⟩:=x;have W:(0:zn)+1=zAf.wrap (0+1):=by rw[zBB];omega
    have R:0<=(0:zn):=sa
    have T:(0:zn)<w.Aa.length:=sa
    cases a1<;>cases a2
    .simp only[zAS,reduceIte,zCV,zBL,zCT,zA6,reduceCtorEq]at A hM9 u;rw[W]at hM9;refine zq ?_;intros
     repeat'((first|refine⟨_,rfl,⟨R,T⟩,?_⟩|refine⟨_,⟨rfl,aa⟩,?_⟩|refine⟨_,λB U C=>qXA B (C.cel (id:=6) rfl 10 rfl),?_⟩|refine⟨λ_=>?_,λh=>absurd h.symm zAi⟩|refine⟨λh=>absurd h zAi,λ_=>?_⟩|refine zI ?_ ?_|fail)<;>first|(refine zq ?_;intros)|rfl)
     all_goals(conv=>whnf)
     all_goals(first|exact zAx _|(
      intro V q;refine⟨_,_,by rw[u]<;>rfl,by rw[A];exact qCA _ _ _ _ q E,?_⟩;rw[hM9]
      exact⟨_,_,_,rfl,{L with pc:=show InR (8:zn) by decide,i:=show InR (1:zn) by decide},M,qAA _ _ _ _ (GW.trans Q q) P⟩))
    .simp only[zAS,reduceIte,zCV,zBL,zCT,zA6,reduceCtorEq]at A hM9 u;rw[W]at hM9;refine zq ?_;intros
     repeat'((first|refine⟨_,rfl,⟨R,T⟩,?_⟩|refine⟨_,⟨rfl,aa⟩,?_⟩|refine⟨_,λB U C=>qXA B (C.cel (id:=6) rfl 10 rfl),?_⟩|refine⟨λ_=>?_,λh=>absurd h.symm zAi⟩|refine⟨λh=>absurd h zAi,λ_=>?_⟩|refine zI ?_ ?_|fail)<;>first|(refine zq ?_;intros)|rfl)
     all_goals(conv=>whnf)
     all_goals(first|exact zAx _|(
      intro V q;refine⟨_,_,by rw[u]<;>rfl,by rw[A];exact qCA _ _ _ _ q E,?_⟩;rw[hM9]
      exact⟨_,_,_,rfl,{L with pc:=show InR (8:zn) by decide,i:=show InR (1:zn) by decide},M,qAA _ _ _ _ (GW.trans Q q) P⟩))
    .simp only[zAS,reduceIte,zCV,zBL,zCT,zA6,reduceCtorEq]at A hM9 u;refine zq ?_;intros
     repeat'((first|refine⟨_,rfl,⟨R,T⟩,?_⟩|refine⟨_,⟨rfl,aa⟩,?_⟩|refine⟨_,λB U C=>qXA B (C.cel (id:=6) rfl 10 rfl),?_⟩|refine⟨λ_=>?_,λh=>absurd h.symm zAi⟩|refine⟨λh=>absurd h zAi,λ_=>?_⟩|refine zI ?_ ?_|fail)<;>first|(refine zq ?_;intros)|rfl)
     all_goals(conv=>whnf)
     all_goals(first|exact zAx _|(
      intro V q;refine⟨_,_,by rw[u]<;>rfl,by rw[A];exact qCA _ _ _ _ q E,?_⟩;rw[hM9]
      exact⟨_,_,_,rfl,{L with i:=z0,pc:=show InR (9:zn) by decide},M,qAA _ _ _ _ (GW.trans Q q) P⟩))
    .simp only[zAS,reduceIte,zCV,zBL,zCT,zA6,reduceCtorEq]at A hM9 u;rw[W]at hM9;refine zq ?_;intros
     repeat'((first|refine⟨_,rfl,⟨R,T⟩,?_⟩|refine⟨_,⟨rfl,aa⟩,?_⟩|refine⟨_,λB U C=>qXA B (C.cel (id:=6) rfl 10 rfl),?_⟩|refine⟨λ_=>?_,λh=>absurd h.symm zAi⟩|refine⟨λh=>absurd h zAi,λ_=>?_⟩|refine zI ?_ ?_|fail)<;>first|(refine zq ?_;intros)|rfl)
     all_goals(conv=>whnf)
     all_goals(first|exact zAx _|(
      intro V q;refine⟨_,_,by rw[u]<;>rfl,by rw[A];exact qCA _ _ _ _ q E,?_⟩;rw[hM9]
      exact⟨_,_,_,rfl,{L with pc:=show InR (8:zn) by decide,i:=show InR (1:zn) by decide},M,qAA _ _ _ _ (GW.trans Q q) P⟩))
  .have y:¬(w.Ai.length:zn)<=H:=zf y;rw[zh y]at A hM9 u;obtain⟨x,D⟩:=qBA (l:=w.Ai) (i:=H.toNat) sa;rw[qnD D]at hM9 u;have aB:=MH E;obtain⟨bU,rfl⟩:=qYA aB D;obtain⟨⟨a3,aC⟩,ae⟩:=qBb aB D;obtain⟨bW,a4,xg⟩:=x;have R:0<=H:=sa
   have T:H<w.Ai.length:=sa
   have W:H+1=zAf.wrap (H+1):=by rw[zBB];omega
   cases xg
   .by_cases hs:qTH a4 ad
    .rw[zh (λh=>h.elim (λh=>absurd h zAi) λh=>h hs)]at hM9;refine zq ?_;intros
     repeat'((first|refine⟨_,rfl,⟨R,T⟩,?_⟩|refine⟨_,⟨rfl,ae⟩,?_⟩|refine .inl ⟨_,(q5T _ aC).to (zK zBm (zC hs)),?_⟩|refine⟨_,λB U C=>qXA B (C.cel (id:=6) rfl 10 rfl),?_⟩|refine⟨λ_=>?_,λh=>absurd h.symm zAi⟩|refine⟨λh=>absurd h zAi,λ_=>?_⟩|refine zI ?_ ?_|fail)<;>first|(refine zq ?_;intros)|rfl)
     all_goals(conv=>whnf)
     all_goals(first|exact zAx _|(
      intro V q;refine⟨_,_,by rw[u]<;>rfl,by rw[A];exact qCA _ _ _ _ q E,?_⟩;rw[hM9]
      exact⟨_,_,_,rfl,{L with Ac:=a3,Ak:=z0,An:=z0,other:=z0,slot:=z0,k:=z0,pc:=show InR (5:zn) by decide},M,qAA _ _ _ _ (GW.trans Q q) P⟩))
    .rw[zk (.inr hs)]at hM9;simp only at hM9;rw[W]at hM9;refine zq ?_;intros
     repeat'((first|refine⟨_,rfl,⟨R,T⟩,?_⟩|refine⟨_,⟨rfl,ae⟩,?_⟩|refine .inl ⟨_,(q5T _ aC).to (zK zBm (zE hs)),?_⟩|refine⟨_,λB U C=>qXA B (C.cel (id:=6) rfl 10 rfl),?_⟩|refine⟨λ_=>?_,λh=>absurd h.symm zAi⟩|refine⟨λh=>absurd h zAi,λ_=>?_⟩|refine zI ?_ ?_|fail)<;>first|(refine zq ?_;intros)|rfl)
     all_goals(conv=>whnf)
     all_goals(first|exact zAx _|(
      intro V q;refine⟨_,_,by rw[u]<;>rfl,by rw[A];exact qCA _ _ _ _ q E,?_⟩;rw[hM9]
      exact⟨_,_,_,rfl,{L with i:=q8A _},M,qAA _ _ _ _ (GW.trans Q q) P⟩))
   .rw[zk (.inl rfl)]at hM9;simp only at hM9;rw[W]at hM9;refine zq ?_;intros
    repeat'((first|refine⟨_,rfl,⟨R,T⟩,?_⟩|refine⟨_,⟨rfl,ae⟩,?_⟩|refine⟨_,λB U C=>qXA B (C.cel (id:=6) rfl 10 rfl),?_⟩|refine⟨λ_=>?_,λh=>absurd h.symm zAi⟩|refine⟨λh=>absurd h zAi,λ_=>?_⟩|refine zI ?_ ?_|fail)<;>first|(refine zq ?_;intros)|rfl)
    all_goals(conv=>whnf)
    all_goals(first|exact zAx _|(
     intro V q;refine⟨_,_,by rw[u]<;>rfl,by rw[A];exact qCA _ _ _ _ q E,?_⟩;rw[hM9]
     exact⟨_,_,_,rfl,{L with i:=q8A _},M,qAA _ _ _ _ (GW.trans Q q) P⟩)))
def qqb(g){cs av}{w}{m:Aj}(aF:rWo g cs w)(hM:qeA g av m)(aG:SnW w)(hb:BgW 1000000 w)(P:cGo w m)(aw:m.pc=5):Ok X0 151 [.agg ⟨cs⟩,.agg ⟨av⟩] g (CoP w m):=by
 obtain⟨Q,hM9,u⟩:=qjG P;have hs:=P.1;have aH:=qbE P.2.1;obtain⟨v,bb,bc,E⟩:=id (Ar.1 hs);obtain⟨aI,aJ,aK,aL,aM,aN,aO,aP,aQ,aR,aT,aU,aV,aW,aX,aY,rfl,rfl,W,ax,⟨bd,be,bf⟩,bg,bh,bi,bj,bl,⟨bm,bn,bo,bp⟩,⟨b1,bq,br,bt⟩,⟨c1,c2,c0,bu⟩,⟨bv,bw,bx,bz⟩,⟨bA,bB,bC,bD⟩,Y,aa,ab⟩:=qaB aF hM;obtain⟨H,ac,bE,ad,L,ae,af,men,ag,msl,ah,ai,R,mk,aj,ak,al,an⟩:=m;simp only at aw;subst aw;obtain⟨ay,az,kE⟩:=cb5 (w:=w) (m:=⟨H,ac,5,ad,L,ae,af,men,ag,msl,ah,ai,R,mk,aj,ak,al,an⟩) rfl;rw[ay]at Q;rw[az]at hM9;rw[kE]at u;clear ay az kE
 exact Ok.Ao hm qOF 5 AR.2 (args:=[.v (.agg ⟨wQ w aI aJ aK aL aM aN aO aP aQ aR⟩),.v (.agg ⟨Aj.cs (.slice aT H.Ap.Aa.length aU) (.slice aV H.Ap.As.length aW) (.slice aX H.Ap.Ad.length aY) ⟨H,ac,5,ad,L,ae,af,men,ag,msl,ah,ai,R,mk,aj,ak,al,an⟩⟩)]) (by
  refine zq ?_;intros;refine .inl ⟨_,qVA _ W ax aG hb,zq ?_⟩;intros;refine⟨λA=>absurd (hs.symm.trans (nb1 A)) sb,λ_=>zq ?_⟩;intros;refine .inl ⟨_,qQF _ W ax hs hb,zq ?_⟩;intros;refine⟨λA=>absurd (aH.symm.trans (nb1 A)) sb,λ_=>zq ?_⟩;intros;refine .inr ((qSA _ W hb).mono λv bF ao aZ=>?_);obtain⟨cs,bG,rfl,a0⟩:=aZ;have ap:=qcA a0;obtain⟨bH,bI,bJ,bK,bL,bM,bN,bO,a1,a2,rfl⟩:=qJA ap;refine zq ?_;intros;rename_i aA aB bP bQ;refine zw ?_;refine⟨O (.func (.func 186) ⟨[xC aA aB]⟩ ⟨[]⟩),rfl,zw ?_⟩;refine⟨λh=>(nomatch h),λ_=>zq ?_⟩;intros;refine⟨kF,[.agg [.p 5 aA 0,.p 6 aB 0]],[],⟨rfl,rfl⟩,?_⟩;have bR:0<=R:=E.i;have a3:0<=mk:=E.k;have M:0<=L/\w.Ab[L.toNat]?=O v:=E.ver;have bT:=(zd.1 M.2).1;have a4:L<w.Ab.length:=sa
  have aq:=hb.2.2 v (zl M.2);have T:=P.2.1.2.1 rfl;rw[E.at_.1]at hM9 T;have T:mk<(qOB v).length:=T
  have bU:(qOB v).length<=1000000000000:=by
   have:=qQJ aq v.Am.length (zG _);have bW:=aq.1;have a5:qvE v v.Am.length=qOB v:=by unfold qvE qOB;rw[zAB]
   rw[a5]at this;omega
  obtain⟨x,A⟩:=qBA (l:=qOB v) (i:=mk.toNat) sa;have a6:(qOB (mV w ⟨H,ac,5,ad,L,ae,af,men,ag,msl,ah,ai,R,mk,aj,ak,al,an⟩))[mk.toNat]?=O x:=by rw[E.at_.1];exact A
  rw[qCc a6]at hM9 u;unfold evV at u;rw[E.at_.1]at u;have aC:=qdJ ap;obtain⟨bX,rfl⟩:=qYA aC M.2;obtain⟨bY,bZ,b0,b2,b3,b4,b5,b6,a7,a8,_,a9⟩:=qWF aC M.2;refine zq ?_;intros
  repeat'((first|refine⟨_,rfl,⟨M.1,a4⟩,zq ?_⟩|refine⟨_,⟨rfl,a7⟩,zq ?_⟩|rfl)<;>intros)
  refine .inr ((qcQ _ ⟨_,_,_,_,rfl,a8,a9⟩ aq).mono λy b7 U hE=>?_);obtain⟨a1,a2,rfl,aD⟩:=hE;obtain⟨b8,rfl⟩:=qYA aD A;obtain⟨b9,ca,ba,cb⟩:=qpG aD A;have ar:=qCA _ _ _ _ U ap;have V:mk+1=zAf.wrap (mk+1):=by rw[zBB];omega
  refine zq ?_;intros
  repeat'((first|refine⟨_,rfl,⟨a3,T⟩,zq ?_⟩|refine⟨_,ba 2 _ rfl,zq ?_⟩|refine⟨_,λB au C=>qXA B (C.cel (id:=6) rfl 10 rfl),zq ?_⟩|rfl)<;>intros)
  refine zI (λz=>?_) (λz=>?_)
  .have z:x.Ah≠0:=E3 z;rw[zk z]at hM9;refine zq ?_;intros
   repeat'((first|refine⟨_,λB au C=>qXA B (C.cel (id:=6) rfl 10 rfl),?_⟩|refine⟨λ_=>?_,λh=>absurd h.symm zAi⟩|refine⟨λh=>absurd h zAi,λ_=>?_⟩|refine zI ?_ ?_|fail)<;>first|(refine zq ?_;intros)|rfl)
   all_goals(conv=>whnf)
   all_goals(first|exact zAx _|(
    intro aE q;refine⟨_,_,by rw[u]<;>rfl,by rw[Q];exact qCA _ _ _ _ q ar,?_⟩;rw[hM9]
    exact⟨_,_,_,rfl,{Y with pc:=show InR (4:zn) by decide,i:=q8A _},aa,qAA _ _ _ _ (GW.trans (GW.trans ao U) q) ab⟩))
  .have z:x.Ah=0:=Ft z;rw[zh λh=>h z]at hM9;refine zq ?_;intros;refine zI (λD=>?_) (λD=>?_)
   .have D:mk+1<(qOB v).length:=by rw[V];exact ze D
    rw[zk D]at hM9;simp only at hM9;rw[V]at hM9;refine zq ?_;intros
    repeat'((first|refine⟨_,λB au C=>qXA B (C.cel (id:=6) rfl 10 rfl),?_⟩|refine⟨λ_=>?_,λh=>absurd h.symm zAi⟩|refine⟨λh=>absurd h zAi,λ_=>?_⟩|refine zI ?_ ?_|fail)<;>first|(refine zq ?_;intros)|rfl)
    all_goals(conv=>whnf)
    all_goals(first|exact zAx _|(
     intro aE q;refine⟨_,_,by rw[u]<;>rfl,by rw[Q];exact qCA _ _ _ _ q ar,?_⟩;rw[hM9]
     exact⟨_,_,_,rfl,{Y with k:=q8A _},aa,qAA _ _ _ _ (GW.trans (GW.trans ao U) q) ab⟩))
   .have D:¬mk+1<(qOB v).length:=by rw[V];exact zf D
    rw[zh D]at hM9;simp only at hM9;rw[V]at hM9;refine zq ?_;intros
    repeat'((first|refine⟨_,λB au C=>qXA B (C.cel (id:=6) rfl 10 rfl),?_⟩|refine⟨λ_=>?_,λh=>absurd h.symm zAi⟩|refine⟨λh=>absurd h zAi,λ_=>?_⟩|refine zI ?_ ?_|fail)<;>first|(refine zq ?_;intros)|rfl)
    all_goals(conv=>whnf)
    all_goals(first|exact zAx _|(
     intro aE q;refine⟨_,_,by rw[u]<;>rfl,by rw[Q];exact qCA _ _ _ _ q ar,?_⟩;rw[hM9]
     exact⟨_,_,_,rfl,{Y with k:=q8A _,pc:=show InR (6:zn) by decide},aa,qAA _ _ _ _ (GW.trans (GW.trans ao U) q) ab⟩)))
def qpb(g){cs P}{w}{m:Aj}(au:rWo g cs w)(hM:qeA g P m)(av:SnW w)(hb:BgW 1000000 w)(C:cGo w m)(Q:m.pc=6):Ok X0 151 [.agg ⟨cs⟩,.agg ⟨P⟩] g (CoP w m):=by
 obtain⟨D,hM9,R⟩:=qjG C;have hs:=C.1;have aw:=qbE C.2.1;obtain⟨v,bo,bp,E⟩:=id (Ar.1 hs);obtain⟨ax,ay,az,aA,aB,aC,aD,aE,aF,aG,aH,aI,aJ,aK,aL,aM,rfl,rfl,H,T,⟨bq,br,bt⟩,bu,bv,bw,bx,bz,⟨bA,bB,bC,bD⟩,⟨b1,bE,bF,bG⟩,⟨c1,c2,c0,bH⟩,⟨bI,bJ,bK,bL⟩,⟨bM,bN,bO,bP⟩,U,aN,aO⟩:=qaB au hM;obtain⟨u,V,bQ,W,A,Y,aa,men,ab,msl,ac,ad,h,mk,ae,af,ag,ah⟩:=m;simp only at Q;subst Q;obtain⟨ai,aj,kE⟩:=cb6 (w:=w) (m:=⟨u,V,6,W,A,Y,aa,men,ab,msl,ac,ad,h,mk,ae,af,ag,ah⟩) rfl;rw[ai]at D;rw[aj]at hM9;rw[kE]at R;clear ai aj kE
 exact Ok.Ao hm qOF 5 AR.2 (args:=[.v (.agg ⟨wQ w ax ay az aA aB aC aD aE aF aG⟩),.v (.agg ⟨Aj.cs (.slice aH u.Ap.Aa.length aI) (.slice aJ u.Ap.As.length aK) (.slice aL u.Ap.Ad.length aM) ⟨u,V,6,W,A,Y,aa,men,ab,msl,ac,ad,h,mk,ae,af,ag,ah⟩⟩)]) (by
  refine zq ?_;intros;refine .inl ⟨_,qVA _ H T av hb,zq ?_⟩;intros;refine⟨λq=>absurd (hs.symm.trans (nb1 q)) sb,λ_=>zq ?_⟩;intros;refine .inl ⟨_,qQF _ H T hs hb,zq ?_⟩;intros;refine⟨λq=>absurd (aw.symm.trans (nb1 q)) sb,λ_=>zq ?_⟩;intros;refine .inr ((qSA _ H hb).mono λv bR aP aQ=>?_);obtain⟨cs,bT,rfl,ak⟩:=aQ;have aR:=qcA ak;obtain⟨bU,bW,bX,bY,bZ,b0,b2,b3,b4,b5,rfl⟩:=qJA aR;refine zq ?_;intros;rename_i al an b6 b7;refine zw ?_;refine⟨O (.func (.func 187) ⟨[xC al an]⟩ ⟨[]⟩),rfl,zw ?_⟩;refine⟨λB=>(nomatch B),λ_=>zq ?_⟩;intros;refine⟨kF,[.agg [.p 5 al 0,.p 6 an 0]],[],⟨rfl,rfl⟩,?_⟩;have aT:0<=h:=E.i;have L:0<=A/\w.Ab[A.toNat]?=O v:=E.ver;have b8:=(zd.1 L.2).1;have aU:A<w.Ab.length:=sa
  have aV:h<w.Ai.length:=(C.2.1.2.2.1 rfl).1;have b9:=hb.1.2.2.2.2;obtain⟨x,q⟩:=qBA (l:=w.Ai) (i:=h.toNat) sa;rw[qnD q,E.at_.1]at D;obtain⟨bk,cap,M,aW,aX,aY,aZ,⟨a0,a1,a2,a3,a4⟩,_,a5⟩:=qSZ ak L.2 I;cases M;have a6:h+1=zAf.wrap (h+1):=by rw[zBB];omega
  simp only at hM9;rw[a6]at hM9;refine zq ?_;intros
  repeat'((first|refine⟨_,rfl,⟨L.1,aU⟩,zq ?_⟩|rfl)<;>intros)
  refine⟨aW,aX,aY,aZ,⟨a0,a1,a2,a3,a4⟩,zq ?_⟩;intros;refine λao ap=>?_;have a7:=a5 ao ap;have a8:g<=ao:=ap.le aP (λB=>by have:=g.wf _ B;omega);obtain⟨ca,cb,M,_,a9,ba,bb,bc,⟨bd,be,bf,bg,bh⟩,_,bi⟩:=qRZ a7 q I;cases M;refine zq ?_;intros
  repeat'((first|refine⟨_,rfl,⟨aT,aV⟩,zq ?_⟩|rfl)<;>intros)
  refine⟨a9,ba,bb,bc,⟨bd,be,bf,bg,bh⟩,zq ?_⟩;intros;refine λaq u8=>?_;have bj:=qcA (bi aq u8);have bl:g<=aq:=u8.le a8 (λB=>by have:=g.wf _ B;omega);refine zq ?_;intros
  repeat'((first|refine⟨_,λbm cc bn=>qXA bm (bn.cel (id:=6) rfl 10 rfl),?_⟩|refine zI ?_ ?_|fail)<;>first|(refine zq ?_;intros)|rfl)
  all_goals(conv=>whnf)
  all_goals(first|exact zAx _|(
   intro cd ar;refine⟨_,_,by rw[R]<;>rfl,by rw[D];exact qCA _ _ _ _ ar bj,?_⟩;rw[hM9]
   exact⟨_,_,_,rfl,{U with pc:=show InR (4:zn) by decide,i:=q8A _,answer:={U.answer with n:=q8A _}},aN,qAA _ _ _ _ (GW.trans bl ar) aO⟩)))
def qob(g){cs ad}{w}{m:Aj}(aA:rWo g cs w)(hM:qeA g ad m)(aB:SnW w)(hb:BgW 1000000 w)(aa:cGo w m)(ae:m.pc=8):Ok X0 151 [.agg ⟨cs⟩,.agg ⟨ad⟩] g (CoP w m):=by
 obtain⟨u,hM9,q⟩:=qjG aa;have hs:=aa.1;have aC:=qbE aa.2.1;obtain⟨v,a0,a1,aD⟩:=id (Ar.1 hs);obtain⟨aE,aF,aG,aH,aI,aJ,aK,aL,aM,aN,aO,aP,aQ,aR,aT,aU,rfl,rfl,ab,af,⟨a2,a3,a4⟩,a5,a6,a7,a8,a9,⟨ba,bb,bc,bd⟩,⟨b1,be,bf,bg⟩,⟨c1,c2,c0,bh⟩,⟨bi,bj,bl,bm⟩,⟨bn,bo,bp,bq⟩,L,M,P⟩:=qaB aA hM;obtain⟨Q,ag,br,ah,ai,aj,ak,men,al,msl,an,ao,B,mk,ap,aq,ar,au⟩:=m;simp only at ae;subst ae;obtain⟨av,aw,kE⟩:=cb8 (w:=w) (m:=⟨Q,ag,8,ah,ai,aj,ak,men,al,msl,an,ao,B,mk,ap,aq,ar,au⟩) rfl;rw[av]at u;rw[aw]at hM9;rw[kE]at q;clear av aw kE
 exact Ok.Ao hm qOF 5 AR.2 (args:=[.v (.agg ⟨wQ w aE aF aG aH aI aJ aK aL aM aN⟩),.v (.agg ⟨Aj.cs (.slice aO Q.Ap.Aa.length aP) (.slice aQ Q.Ap.As.length aR) (.slice aT Q.Ap.Ad.length aU) ⟨Q,ag,8,ah,ai,aj,ak,men,al,msl,an,ao,B,mk,ap,aq,ar,au⟩⟩)]) (by
  refine zq ?_;intros;refine .inl ⟨_,qVA _ ab af aB hb,zq ?_⟩;intros;refine⟨λE=>absurd (hs.symm.trans (nb1 E)) sb,λ_=>zq ?_⟩;intros;refine .inl ⟨_,qQF _ ab af hs hb,zq ?_⟩;intros;refine⟨λE=>absurd (aC.symm.trans (nb1 E)) sb,λ_=>zq ?_⟩;intros;refine .inr ((qSA _ ab hb).mono λv bt R aV=>?_);obtain⟨cs,bu,rfl,aW⟩:=aV;have H:=qcA aW;obtain⟨bv,bw,bx,bz,bA,bB,bC,bD,bE,bF,rfl⟩:=qJA H;refine zq ?_;intros;rename_i ax ay bG bH;refine zw ?_;refine⟨O (.func (.func 188) ⟨[xC ax ay]⟩ ⟨[]⟩),rfl,zw ?_⟩;refine⟨λh=>(nomatch h),λ_=>zq ?_⟩;intros;refine⟨kF,[.agg [.p 5 ax 0,.p 6 ay 0]],[],⟨rfl,rfl⟩,?_⟩;have bI:0<=B:=aD.i;have bJ:=hb.1.2.2.1;refine zq ?_;intros;refine zI (λz=>?_) (λz=>?_)
  .have z:(w.Aa.length:zn)<=B:=ze z;simp only[cdW,cdM,cdE]at u hM9 q;rw[zk z]at u hM9 q;have aX:=q3L H (x:=0) sb;refine zq ?_;intros
   repeat'((first|refine⟨_,λC T D=>qXA C (D.cel (id:=6) rfl 10 rfl),?_⟩|refine zI ?_ ?_|fail)<;>first|(refine zq ?_;intros)|rfl)
   all_goals(conv=>whnf)
   all_goals(first|exact zAx _|(
    intro U A;refine⟨_,_,by rw[q]<;>rfl,by rw[u];exact qCA _ _ _ _ A aX,?_⟩;rw[hM9]
    exact⟨_,_,_,rfl,{L with answer:=qUV L.answer},M,qAA _ _ _ _ (GW.trans R A) P⟩))
  .have z:¬(w.Aa.length:zn)<=B:=zf z;simp only[cdW,cdM,cdE]at u hM9 q;rw[zh z]at u hM9 q;obtain⟨x,E⟩:=qBA (l:=w.Aa) (i:=(B:zn).toNat) sa;rw[qcE E]at hM9 q;have az:=qDI H;obtain⟨bK,rfl⟩:=qYA az E;obtain⟨bL,V⟩:=qnG az E;obtain⟨xn,aY,bM,aZ⟩:=x;have ac:(B:zn)+1=zAf.wrap (B+1):=by rw[zBB];omega
   have W:0<=(B:zn):=sa
   have Y:(B:zn)<w.Aa.length:=sa
   cases aY<;>cases aZ
   .simp only[zAS,reduceIte,zCV,zBL,zCT,zA6,reduceCtorEq]at u hM9 q;rw[ac]at hM9;refine zq ?_;intros
    repeat'((first|refine⟨_,rfl,⟨W,Y⟩,?_⟩|refine⟨_,⟨rfl,V⟩,?_⟩|refine⟨_,λC T D=>qXA C (D.cel (id:=6) rfl 10 rfl),?_⟩|refine⟨λ_=>?_,λh=>absurd h.symm zAi⟩|refine⟨λh=>absurd h zAi,λ_=>?_⟩|refine zI ?_ ?_|fail)<;>first|(refine zq ?_;intros)|rfl)
    all_goals(conv=>whnf)
    all_goals(first|exact zAx _|(
     intro U A;refine⟨_,_,by rw[q]<;>rfl,by rw[u];exact qCA _ _ _ _ A H,?_⟩;rw[hM9]
     exact⟨_,_,_,rfl,{L with i:=q8A _},M,qAA _ _ _ _ (GW.trans R A) P⟩))
   .simp only[zAS,reduceIte,zCV,zBL,zCT,zA6,reduceCtorEq]at u hM9 q;rw[ac]at hM9;refine zq ?_;intros
    repeat'((first|refine⟨_,rfl,⟨W,Y⟩,?_⟩|refine⟨_,⟨rfl,V⟩,?_⟩|refine⟨_,λC T D=>qXA C (D.cel (id:=6) rfl 10 rfl),?_⟩|refine⟨λ_=>?_,λh=>absurd h.symm zAi⟩|refine⟨λh=>absurd h zAi,λ_=>?_⟩|refine zI ?_ ?_|fail)<;>first|(refine zq ?_;intros)|rfl)
    all_goals(conv=>whnf)
    all_goals(first|exact zAx _|(
     intro U A;refine⟨_,_,by rw[q]<;>rfl,by rw[u];exact qCA _ _ _ _ A H,?_⟩;rw[hM9]
     exact⟨_,_,_,rfl,{L with i:=q8A _},M,qAA _ _ _ _ (GW.trans R A) P⟩))
   .simp only[zAS,reduceIte,zCV,zBL,zCT,zA6,reduceCtorEq]at u hM9 q;refine zq ?_;intros
    repeat'((first|refine⟨_,rfl,⟨W,Y⟩,?_⟩|refine⟨_,⟨rfl,V⟩,?_⟩|refine⟨_,λC T D=>qXA C (D.cel (id:=6) rfl 10 rfl),?_⟩|refine⟨λ_=>?_,λh=>absurd h.symm zAi⟩|refine⟨λh=>absurd h zAi,λ_=>?_⟩|refine zI ?_ ?_|fail)<;>first|(refine zq ?_;intros)|rfl)
    all_goals(conv=>whnf)
    all_goals(first|exact zAx _|(
     intro U A;refine⟨_,_,by rw[q]<;>rfl,by rw[u];exact qCA _ _ _ _ A H,?_⟩;rw[hM9]
     exact⟨_,_,_,rfl,{L with pc:=show InR (9:zn) by decide},M,qAA _ _ _ _ (GW.trans R A) P⟩))
   .simp only[zAS,reduceIte,zCV,zBL,zCT,zA6,reduceCtorEq]at u hM9 q;rw[ac]at hM9;refine zq ?_;intros
    repeat'((first|refine⟨_,rfl,⟨W,Y⟩,?_⟩|refine⟨_,⟨rfl,V⟩,?_⟩|refine⟨_,λC T D=>qXA C (D.cel (id:=6) rfl 10 rfl),?_⟩|refine⟨λ_=>?_,λh=>absurd h.symm zAi⟩|refine⟨λh=>absurd h zAi,λ_=>?_⟩|refine zI ?_ ?_|fail)<;>first|(refine zq ?_;intros)|rfl)
    all_goals(conv=>whnf)
    all_goals(first|exact zAx _|(
     intro U A;refine⟨_,_,by rw[q]<;>rfl,by rw[u];exact qCA _ _ _ _ A H,?_⟩;rw[hM9]
     exact⟨_,_,_,rfl,{L with i:=q8A _},M,qAA _ _ _ _ (GW.trans R A) P⟩)))
def qnb(g){cs P}{w}{m:Aj}(ar:rWo g cs w)(hM:qeA g P m)(au:SnW w)(hb:BgW 1000000 w)(B:cGo w m)(Q:m.pc=9):Ok X0 151 [.agg ⟨cs⟩,.agg ⟨P⟩] g (CoP w m):=by
 obtain⟨E,hM9,C⟩:=qjG B;have hs:=B.1;have av:=qbE B.2.1;obtain⟨v,aV,aW,aw⟩:=id (Ar.1 hs);obtain⟨ax,ay,az,aA,aB,aC,aD,aE,aF,aG,aH,aI,aJ,aK,aL,aM,rfl,rfl,H,R,⟨aX,aY,aZ⟩,a0,a1,a2,a3,a4,⟨a5,a6,a7,a8⟩,⟨b1,a9,ba,bb⟩,⟨c1,c2,c0,bc⟩,⟨bd,be,bf,bg⟩,⟨bh,bi,bj,bl⟩,T,U,V⟩:=qaB ar hM;obtain⟨u,W,bm,Y,aa,ab,ac,men,ad,msl,ae,af,h,mk,ag,ah,ai,aj⟩:=m;simp only at Q;subst Q;obtain⟨ak,al,kE⟩:=cb9 (w:=w) (m:=⟨u,W,9,Y,aa,ab,ac,men,ad,msl,ae,af,h,mk,ag,ah,ai,aj⟩) rfl;rw[ak]at E;rw[al]at hM9;rw[kE]at C;clear ak al kE
 exact Ok.Ao hm qOF 5 AR.2 (args:=[.v (.agg ⟨wQ w ax ay az aA aB aC aD aE aF aG⟩),.v (.agg ⟨Aj.cs (.slice aH u.Ap.Aa.length aI) (.slice aJ u.Ap.As.length aK) (.slice aL u.Ap.Ad.length aM) ⟨u,W,9,Y,aa,ab,ac,men,ad,msl,ae,af,h,mk,ag,ah,ai,aj⟩⟩)]) (by
  refine zq ?_;intros;refine .inl ⟨_,qVA _ H R au hb,zq ?_⟩;intros;refine⟨λq=>absurd (hs.symm.trans (nb1 q)) sb,λ_=>zq ?_⟩;intros;refine .inl ⟨_,qQF _ H R hs hb,zq ?_⟩;intros;refine⟨λq=>absurd (av.symm.trans (nb1 q)) sb,λ_=>zq ?_⟩;intros;refine .inr ((qSA _ H hb).mono λv bn an aN=>?_);obtain⟨cs,bo,rfl,aO⟩:=aN;have D:=qcA aO;obtain⟨bp,bq,br,bt,bu,bv,bw,bx,bz,bA,rfl⟩:=qJA D;refine zq ?_;intros;rename_i ao ap bB bC;refine zw ?_;refine⟨O (.func (.func 189) ⟨[xC ao ap]⟩ ⟨[]⟩),rfl,zw ?_⟩;refine⟨λaP=>(nomatch aP),λ_=>zq ?_⟩;intros;refine⟨kF,[.agg [.p 5 ao 0,.p 6 ap 0]],[],⟨rfl,rfl⟩,?_⟩;have bD:0<=h:=aw.i;have bE:h<w.Aa.length:=B.2.1.2.2.2.1 rfl;obtain⟨x,q⟩:=qBA (l:=w.Aa) (i:=h.toNat) sa;rw[qcE q]at hM9 C;have aq:=qDI D;obtain⟨bF,rfl⟩:=qYA aq q;obtain⟨bG,aQ⟩:=qnG aq q;have bH:=hb.1.2.2.1;refine zq ?_;intros
  repeat'((first|refine⟨_,rfl,⟨sa,sa⟩,zq ?_⟩|refine⟨_,aQ 2 _ rfl,zq ?_⟩|rfl)<;>intros)
  refine zI (λz=>?_) (λz=>?_)
  .have z:x.Ah=0:=ze z;rw[zk z]at hM9;refine zq ?_;intros
   repeat'((first|refine⟨_,λL aR M=>qXA L (M.cel (id:=6) rfl 10 rfl),?_⟩|refine zI ?_ ?_|fail)<;>first|(refine zq ?_;intros)|rfl)
   all_goals(conv=>whnf)
   all_goals(first|exact zAx _|(
    intro aT A;refine⟨_,_,by rw[C]<;>rfl,by rw[E];exact qCA _ _ _ _ A D,?_⟩;rw[hM9]
    exact⟨_,_,_,rfl,{T with pc:=show InR (10:zn) by decide},U,qAA _ _ _ _ (GW.trans an A) V⟩))
  .have z:¬x.Ah=0:=zf z;rw[zh z]at hM9;have aU:h+1=zAf.wrap (h+1):=by rw[zBB];omega
   simp only at hM9;rw[aU]at hM9;refine zq ?_;intros
   repeat'((first|refine⟨_,λL aR M=>qXA L (M.cel (id:=6) rfl 10 rfl),?_⟩|refine zI ?_ ?_|fail)<;>first|(refine zq ?_;intros)|rfl)
   all_goals(conv=>whnf)
   all_goals(first|exact zAx _|(
    intro aT A;refine⟨_,_,by rw[C]<;>rfl,by rw[E];exact qCA _ _ _ _ A D,?_⟩;rw[hM9]
    exact⟨_,_,_,rfl,{T with pc:=show InR (8:zn) by decide,i:=q8A _},U,qAA _ _ _ _ (GW.trans an A) V⟩)))
def qFZ(g){cs E}{w}{m:Aj}(ao:rWo g cs w)(hM:qeA g E m)(ap:SnW w)(hb:BgW 1000000 w)(A:cGo w m)(H:m.pc=10):Ok X0 151 [.agg ⟨cs⟩,.agg ⟨E⟩] g (CoP w m):=by
 obtain⟨B,hM9,L⟩:=qjG A;have hs:=A.1;have aq:=qbE A.2.1;obtain⟨v,a7,a8,ar⟩:=id (Ar.1 hs);obtain⟨au,av,aw,ax,ay,az,aA,aB,aC,aD,aE,aF,aG,aH,aI,aJ,rfl,rfl,C,M,⟨a9,ba,bb⟩,bc,bd,be,bf,bg,⟨bh,bi,bj,bl⟩,⟨b1,bm,bn,bo⟩,⟨c1,c2,c0,bp⟩,⟨bq,br,bt,bu⟩,⟨bv,bw,bx,bz⟩,aK,aL,aM⟩:=qaB ao hM;obtain⟨u,P,bA,Q,R,T,U,men,V,msl,W,Y,h,mk,aa,ab,ac,ad⟩:=m;simp only at H;subst H;obtain⟨ae,af,kE⟩:=I3 (w:=w) (m:=⟨u,P,10,Q,R,T,U,men,V,msl,W,Y,h,mk,aa,ab,ac,ad⟩) rfl;rw[ae]at B;rw[af]at hM9;rw[kE]at L;clear ae af kE
 exact Ok.Ao hm qOF 5 AR.2 (args:=[.v (.agg ⟨wQ w au av aw ax ay az aA aB aC aD⟩),.v (.agg ⟨Aj.cs (.slice aE u.Ap.Aa.length aF) (.slice aG u.Ap.As.length aH) (.slice aI u.Ap.Ad.length aJ) ⟨u,P,10,Q,R,T,U,men,V,msl,W,Y,h,mk,aa,ab,ac,ad⟩⟩)]) (by
  refine zq ?_;intros;refine .inl ⟨_,qVA _ C M ap hb,zq ?_⟩;intros;refine⟨λq=>absurd (hs.symm.trans (nb1 q)) sb,λ_=>zq ?_⟩;intros;refine .inl ⟨_,qQF _ C M hs hb,zq ?_⟩;intros;refine⟨λq=>absurd (aq.symm.trans (nb1 q)) sb,λ_=>zq ?_⟩;intros;refine .inr ((qSA _ C hb).mono λv bB aN aO=>?_);obtain⟨cs,bC,rfl,ag⟩:=aO;have ah:=qcA ag;obtain⟨bD,bE,bF,bG,bH,bI,bJ,bK,bL,bM,rfl⟩:=qJA ah;refine zq ?_;intros;rename_i ai aj bN bO;refine zw ?_;refine⟨O (.func (.func 190) ⟨[xC ai aj]⟩ ⟨[]⟩),rfl,zw ?_⟩;refine⟨λD=>(nomatch D),λ_=>zq ?_⟩;intros;refine⟨kF,[.agg [.p 5 ai 0,.p 6 aj 0]],[],⟨rfl,rfl⟩,?_⟩;have bP:0<=h:=ar.i;have bQ:h<w.Aa.length:=(A.2.1.2.2.2.2 rfl).1;obtain⟨x,q⟩:=qBA (l:=w.Aa) (i:=h.toNat) sa;rw[qcE q]at B;have aP:=(qdZ ah q);obtain⟨bk,cap,aQ,bR,aR,aT,aU,aV,⟨aW,aX,aY,aZ,a0⟩,_,a1⟩:=qqJ ag q (x':={x with closed:=I}) (o:=3) (vs:=[.bool I]) sd (by simp[zA0]) rfl aP;cases aQ;have bT:=hb.1.2.2.1;have a2:h+1=zAf.wrap (h+1):=by rw[zBB];omega
  simp only at hM9;rw[a2]at hM9;refine zq ?_;intros
  repeat'((first|refine⟨_,rfl,⟨sa,sa⟩,zq ?_⟩|rfl)<;>intros)
  refine⟨aR,aT,aU,aV,⟨aW,aX,aY,aZ,a0⟩,zq ?_⟩;intros;refine λak al=>?_;have a3:=qcA (a1 ak al);have a4:g<=ak:=al.le aN (λD=>by have:=g.wf _ D;omega);refine zq ?_;intros
  repeat'((first|refine⟨_,λa5 bU a6=>qXA a5 (a6.cel (id:=6) rfl 10 rfl),?_⟩|refine zI ?_ ?_|fail)<;>first|(refine zq ?_;intros)|rfl)
  all_goals(conv=>whnf)
  all_goals(first|exact zAx _|(
   intro bW an;refine⟨_,_,by rw[L]<;>rfl,by rw[B];exact qCA _ _ _ _ an a3,?_⟩;rw[hM9]
   exact⟨_,_,_,rfl,{aK with pc:=show InR (8:zn) by decide,i:=q8A _},aL,qAA _ _ _ _ (GW.trans a4 an) aM⟩)))
def qmb(g){cs E}{w}{m:Aj}(M:rWo g cs w)(hM:qeA g E m)(P:SnW w)(hb:BgW 1000000 w)(hs:qXB w m=I)(Q:Ez w m)(B:¬(0<=m.pc/\m.pc<=10/\m.pc≠7)):Ok X0 151 [.agg ⟨cs⟩,.agg ⟨E⟩] g (CoP w m):=by
 obtain⟨R,hM9,T⟩:=qSc (w:=w) (m:=m) λh=>B h.2.2;have U:=qbE Q;obtain⟨v,aG,aH,aI⟩:=id (Ar.1 hs);obtain⟨V,W,Y,aa,ab,ac,ad,ae,af,ag,ah,ai,aj,ak,al,an,rfl,rfl,u,C,⟨aJ,aK,aL⟩,aM,aN,aO,aP,aQ,⟨aR,aT,aU,aV⟩,⟨b1,aW,aX,aY⟩,⟨c1,c2,c0,aZ⟩,⟨a0,a1,a2,a3⟩,⟨a4,a5,a6,a7⟩,a8,a9,ba⟩:=qaB M hM;obtain⟨A,ao,q,ap,aq,ar,au,men,av,msl,aw,ax,ay,mk,az,aA,aB,aC⟩:=m
 exact Ok.Ao hm qOF 5 AR.2 (args:=[.v (.agg ⟨wQ w V W Y aa ab ac ad ae af ag⟩),.v (.agg ⟨Aj.cs (.slice ah A.Ap.Aa.length ai) (.slice aj A.Ap.As.length ak) (.slice al A.Ap.Ad.length an) ⟨A,ao,q,ap,aq,ar,au,men,av,msl,aw,ax,ay,mk,az,aA,aB,aC⟩⟩)]) (by
  refine zq ?_;intros;refine .inl ⟨_,qVA _ u C P hb,zq ?_⟩;intros;refine⟨λD=>absurd (hs.symm.trans (nb1 D)) sb,λ_=>zq ?_⟩;intros;refine .inl ⟨_,qQF _ u C hs hb,zq ?_⟩;intros;refine⟨λD=>absurd (U.symm.trans (nb1 D)) sb,λ_=>zq ?_⟩;intros;refine .inr ((qSA _ u hb).mono λv bb H aD=>?_);obtain⟨cs,bc,rfl,aE⟩:=aD;have aF:=qcA aE;obtain⟨bd,be,bf,bg,bh,bi,bj,bl,bm,bn,rfl⟩:=qJA aF;refine zq ?_;intros;rename_i bo bp bq br;have B:¬(0<=q/\q<=10/\q≠7):=B;refine zw ?_;refine⟨zc,?_,?_⟩
  .show Bs (.i q) _=zc
   repeat rw[qlD,zh (λh=>absurd (Ky.i.inj (Bx.1 h)) sa)]
   rfl
  refine zq ?_;intros
  repeat'((first|refine⟨λ_=>?_,λh=>absurd h.symm zAi⟩|refine⟨λh=>absurd h zAi,λ_=>?_⟩|refine zI ?_ ?_|fail)<;>first|(refine zq ?_;intros)|rfl)
  all_goals(conv=>whnf)
  all_goals(first|exact zAx _|(
   intro bt L
   exact⟨_,_,by rw[T]<;>rfl,by rw[R];exact qCA _ _ _ _ (GW.trans H L) u,by rw[hM9];exact qUA _ _ _ _ (GW.trans H L) C⟩)))
def qlb(g){cs A}{w}{m:Aj}(ah:rWo g cs w)(hM:qeA g A m)(ai:SnW w)(hb:BgW 1000000 w)(B:¬(qXB w m=I/\Ez w m)):Ok X0 151 [.agg ⟨cs⟩,.agg ⟨A⟩] g (CoP w m):=by
 obtain⟨aj,hM9,ak⟩:=qSc (w:=w) (m:=m) λC=>B ⟨C.1,C.2.1⟩;obtain⟨D,E,H,L,M,P,Q,R,T,U,V,W,Y,aa,ab,ac,rfl,rfl,h,q,⟨al,an,ao⟩,ap,aq,ar,au,av,⟨aw,ax,ay,az⟩,⟨b1,aA,aB,aC⟩,⟨c1,c2,c0,aD⟩,⟨aE,aF,aG,aH⟩,⟨aI,aJ,aK,aL⟩,aM,aN,aO⟩:=qaB ah hM
 exact Ok.Ao hm qOF 5 AR.2 (args:=[.v (.agg ⟨wQ w D E H L M P Q R T U⟩),.v (.agg ⟨mQ m V W Y aa ab ac⟩)]) (by
  have ad:∀u,g<=u->CoP w m (.tuple #[.agg ⟨wQ w D E H L M P Q R T U⟩,.agg ⟨mQ m V W Y aa ab ac⟩,.agg ⟨ev0.cs⟩]) u:=by
   intro u ae;exact⟨_,_,by rw[ak]<;>rfl,by rw[aj];exact qCA _ _ _ _ ae h,by rw[hM9];exact qUA _ _ _ _ ae q⟩
  refine zq ?_;intros;refine .inl ⟨_,qVA _ h q ai hb,zq ?_⟩;intros;refine zI (λaf=>?_) (λaf=>?_)
  .refine zq ?_;intros
   repeat'((first|refine zI ?_ ?_|fail)<;>first|(refine zq ?_;intros)|rfl)
   all_goals(conv=>whnf)
   all_goals(first|exact zAx _|exact ad)
  have hs:=nb0 af;refine zq ?_;intros;refine .inl ⟨_,qQF _ h q hs hb,zq ?_⟩;intros;refine zI (λag=>?_) (λag=>?_)
  .refine zq ?_;intros
   repeat'((first|refine zI ?_ ?_|fail)<;>first|(refine zq ?_;intros)|rfl)
   all_goals(conv=>whnf)
   all_goals(first|exact zAx _|exact ad)
  exact absurd ⟨hs,q8b (nb0 ag)⟩ B)
def qZW(g){cs C}{w}{m:Aj}(q:rWo g cs w)(hM:qeA g C m)(u:SnW w)(hb:BgW 1000000 w):Ok X0 151 [.agg ⟨cs⟩,.agg ⟨C⟩] g (CoP w m):=by
 by_cases B:qXB w m=I/\Ez w m
 .by_cases D:0<=m.pc/\m.pc<=10/\m.pc≠7
  .have A:cGo w m:=⟨B.1,B.2,D⟩;rcases(show m.pc=0\/m.pc=1\/m.pc=2\/m.pc=3\/m.pc=4\/m.pc=5\/m.pc=6\/m.pc=8\/m.pc=9\/m.pc=10 by omega)with h|h|h|h|h|h|h|h|h|h
   .exact qvb g q hM u hb A h
   .exact qub g q hM u hb A h
   .exact qtb g q hM u hb A h
   .exact qsb g q hM u hb A h
   .exact qrb g q hM u hb A h
   .exact qqb g q hM u hb A h
   .exact qpb g q hM u hb A h
   .exact qob g q hM u hb A h
   .exact qnb g q hM u hb A h
   .exact qFZ g q hM u hb A h
  .exact qmb g q hM u hb B.1 B.2 D
 .exact qlb g q hM u hb B
def k6{k:zn}(h:0<=k/\k<=5):k=0\/k=1\/k=2\/k=3\/k=4\/k=5:=sa
def q1Y(g)(c:C6){k}(n)(hk:0<=k/\k<=5):OkV X0 191 [.agg ⟨c.cs⟩,.int .i64 k,.int .u64 n] g (.agg ⟨(c.set (zBO.wrap (c.get k.toNat+n)) k.toNat).cs⟩):=by
 rcases k6 hk with rfl|rfl|rfl|rfl|rfl|rfl
 .exact Ok.Ao hm noT 0 Ce.2 (args:=[.v (.agg ⟨c.cs⟩),.v (.int .i64 0),.v (.int .u64 n)]) (by
   refine zq ?_;intros;refine⟨0,⟨rfl,sb⟩,zq ?_⟩;intros;refine⟨0,⟨rfl,sb⟩,zq ?_⟩;intros;intro h q
   rfl)
 .exact Ok.Ao hm noT 0 Ce.2 (args:=[.v (.agg ⟨c.cs⟩),.v (.int .i64 1),.v (.int .u64 n)]) (by
   refine zq ?_;intros;refine⟨1,⟨rfl,sb⟩,zq ?_⟩;intros;refine⟨1,⟨rfl,sb⟩,zq ?_⟩;intros;intro h q
   rfl)
 .exact Ok.Ao hm noT 0 Ce.2 (args:=[.v (.agg ⟨c.cs⟩),.v (.int .i64 2),.v (.int .u64 n)]) (by
   refine zq ?_;intros;refine⟨2,⟨rfl,sb⟩,zq ?_⟩;intros;refine⟨2,⟨rfl,sb⟩,zq ?_⟩;intros;intro h q
   rfl)
 .exact Ok.Ao hm noT 0 Ce.2 (args:=[.v (.agg ⟨c.cs⟩),.v (.int .i64 3),.v (.int .u64 n)]) (by
   refine zq ?_;intros;refine⟨3,⟨rfl,sb⟩,zq ?_⟩;intros;refine⟨3,⟨rfl,sb⟩,zq ?_⟩;intros;intro h q
   rfl)
 .exact Ok.Ao hm noT 0 Ce.2 (args:=[.v (.agg ⟨c.cs⟩),.v (.int .i64 4),.v (.int .u64 n)]) (by
   refine zq ?_;intros;refine⟨4,⟨rfl,sb⟩,zq ?_⟩;intros;refine⟨4,⟨rfl,sb⟩,zq ?_⟩;intros;intro h q
   rfl)
 .exact Ok.Ao hm noT 0 Ce.2 (args:=[.v (.agg ⟨c.cs⟩),.v (.int .i64 5),.v (.int .u64 n)]) (by
   refine zq ?_;intros;refine⟨5,⟨rfl,sb⟩,zq ?_⟩;intros;refine⟨5,⟨rfl,sb⟩,zq ?_⟩;intros;intro h q
   rfl)
def ND(w:Wd)(m:Aj)(v:zg)(g':GW):Prop:=∃cs h,v=.tuple #[.agg ⟨cs⟩,.agg ⟨h⟩,.agg ⟨(qrL w m).cs⟩]/\rWo g' cs w/\qeA g' h (qgK w m)
def qUW(g){cs ai}{w}{m:Aj}(al:rWo g cs w)(hM:qeA g ai m)(an:SnW w)(hb:BgW 1000000 w):Ok X0 152 [.agg ⟨cs⟩,.agg ⟨ai⟩] g (ND w m):=by
 obtain⟨ao,ap,aq,ar,au,av,aw,ax,ay,az,aA,aB,aC,aD,aE,aF,rfl,rfl,C,Q,⟨aQ,aR,aT⟩,aU,aV,aW,aX,aY,⟨aZ,a0,a1,a2⟩,⟨b1,a3,a4,a5⟩,⟨c1,c2,c0,a6⟩,⟨a7,a8,a9,aG⟩,⟨ba,bb,bc,bd⟩,A,U,V⟩:=qaB al hM
 exact Ok.Ao hm noT 0 H6.2 (args:=[.v (.agg ⟨wQ w ao ap aq ar au av aw ax ay az⟩),.v (.agg ⟨mQ m aA aB aC aD aE aF⟩)]) (by
  refine zq ?_;intros;refine⟨λz1=>?_,λz1=>?_⟩
  .refine zq ?_;intros;intro E h;obtain⟨q,hE⟩:=qqL (w:=w) (m:=m) (λR=>E3 z1 R.2.1);exact⟨_,_,sj,qCA _ _ _ _ h C,by rw[q];exact qUA _ _ _ _ h Q⟩
  refine zq ?_;intros;refine⟨λac=>?_,λac=>?_⟩
  .refine zq ?_;intros;intro E h;obtain⟨q,hE⟩:=qqL (w:=w) (m:=m) (λR=>by have:=ze ac;omega);exact⟨_,_,sj,qCA _ _ _ _ h C,by rw[q];exact qUA _ _ _ _ h Q⟩
  refine zq ?_;intros;refine⟨λad=>?_,λad=>?_⟩
  .refine zq ?_;intros;intro E h;obtain⟨q,hE⟩:=qqL (w:=w) (m:=m) (λR=>by have:=ze ad;omega);exact⟨_,_,sj,qCA _ _ _ _ h C,by rw[q];exact qUA _ _ _ _ h Q⟩
  refine zq ?_;intros;refine .inl ⟨_,qVA _ C Q an hb,zq ?_⟩;intros;refine⟨λW=>?_,λW=>?_⟩
  .refine zq ?_;intros;intro E h;obtain⟨q,hE⟩:=qqL (w:=w) (m:=m) (λR=>by rw[R.1]at W;cases W);exact⟨_,_,sj,qCA _ _ _ _ h C,by rw[q];exact qUA _ _ _ _ h Q⟩
  have hs:=nb0 W;have aH:=Ft z1;have be:=zf ac;have bf:=zf ad;have Y:qeI w m:=⟨hs,aH,sa,sa⟩;obtain⟨_,_,_,ae⟩:=Ar.1 hs;have bg:=ae.i;have aI:=ae.k;have aJ:m.i.toNat<w.counts.length:=sa
  obtain⟨row,aj,bh,bi⟩:=qzV ae.right aJ;obtain⟨x,ak⟩:=qBA (l:=row) (i:=m.k.toNat) sa;have aK:qCa w m=x:=by unfold qCa;rw[aj];show(row[m.k.toNat]?).getD 0=x;rw[ak];rfl
  obtain⟨bj,rfl,bl,bm,⟨bn,rfl,aL⟩,aM⟩:=aG m.i.toNat row aj;obtain⟨bo,bp,rfl,bq,br,bt,aN⟩:=id aL;obtain⟨bu,rfl,bv,bw,⟨rfl,bx⟩,aO⟩:=aN m.k.toNat x ak;refine zq ?_;intros;refine⟨_,rfl,⟨sa,sa⟩,zq ?_⟩;intros;refine⟨_,aM 0 _ rfl,zq ?_⟩;intros;refine⟨_,rfl,⟨sa,sa⟩,zq ?_⟩;intros;refine⟨_,aO 0 _ rfl,zq ?_⟩;intros;refine .inl ⟨_,q1Y _ m.counts x ⟨aI,sa⟩,zq ?_⟩;intros;have aa:zAf.wrap (m.k+1)=m.k+1:=wr sg;have aP:qWJ w m=m.counts.set (zBO.wrap (m.counts.get m.k.toNat+x)) m.k.toNat:=by unfold qWJ;rw[aK]
  rw[<-aP];refine zq ?_;intros;refine⟨λaf=>?_,λaf=>?_⟩
  .have T:m.k=5:=by have:=B9 af;rw[aa]at this;omega
   have D:qPH m=0:=zk T;have u:qSE m=m.i+1:=zk T;have ab:zAf.wrap (m.i+1)=m.i+1:=wr sg;refine zq ?_;intros;refine⟨λH=>?_,λH=>?_⟩
   .obtain⟨q,hE⟩:=qOH Y (by have:=B9 H;rw[ab]at this;rw[u];exact this);refine zq ?_;intros;refine .inr ((qSA _ C hb).mono λv ag L M=>?_);obtain⟨cs,ah,rfl,P⟩:=M;have B:=qcA P;obtain⟨_,_,_,_,_,_,_,_,_,_,rfl⟩:=qJA B;refine zq ?_;intros;intro E h;refine⟨_,_,sj,qCA _ _ _ _ h B,?_⟩;rw[q];exact⟨_,_,_,by rw[ab,u,D]<;>rfl,{A with counts:=qKG A.counts,i:=show InR (qSE m)from by rw[u];unfold InR;omega,k:=show InR (qPH m)from by rw[D];exact z0,answer:=q7P (qKG A.counts)},U,qAA _ _ _ _ (GW.trans L h) V⟩
   .obtain⟨q,hE⟩:=qNH Y (by have:=Ea H;rw[ab]at this;rw[u];exact this);refine zq ?_;intros;refine .inr ((qSA _ C hb).mono λv ag L M=>?_);obtain⟨cs,ah,rfl,P⟩:=M;have B:=qcA P;obtain⟨_,_,_,_,_,_,_,_,_,_,rfl⟩:=qJA B;refine zq ?_;intros;intro E h;refine⟨_,_,sj,qCA _ _ _ _ h B,?_⟩;rw[q];exact⟨_,_,_,by rw[ab,u,D]<;>rfl,{A with counts:=qKG A.counts,i:=show InR (qSE m)from by rw[u];unfold InR;omega,k:=show InR (qPH m)from by rw[D];exact z0},U,qAA _ _ _ _ (GW.trans L h) V⟩
  .have T:m.k≠5:=by have:=Ea af;rw[aa]at this;omega
   have D:qPH m=m.k+1:=zh T;have u:qSE m=m.i:=zh T;refine zq ?_;intros;refine⟨λH=>?_,λH=>?_⟩
   .obtain⟨q,hE⟩:=qOH Y (by have:=B9 H;rw[u];exact this);refine zq ?_;intros;refine .inr ((qSA _ C hb).mono λv ag L M=>?_);obtain⟨cs,ah,rfl,P⟩:=M;have B:=qcA P;obtain⟨_,_,_,_,_,_,_,_,_,_,rfl⟩:=qJA B;refine zq ?_;intros;intro E h;refine⟨_,_,sj,qCA _ _ _ _ h B,?_⟩;rw[q];exact⟨_,_,_,by rw[aa,u,D]<;>rfl,{A with counts:=qKG A.counts,i:=show InR (qSE m)from by rw[u];exact A.i,k:=show InR (qPH m)from by rw[D];unfold InR;omega,answer:=q7P (qKG A.counts)},U,qAA _ _ _ _ (GW.trans L h) V⟩
   .obtain⟨q,hE⟩:=qNH Y (by have:=Ea H;rw[u];exact this);refine zq ?_;intros;refine .inr ((qSA _ C hb).mono λv ag L M=>?_);obtain⟨cs,ah,rfl,P⟩:=M;have B:=qcA P;obtain⟨_,_,_,_,_,_,_,_,_,_,rfl⟩:=qJA B;refine zq ?_;intros;intro E h;refine⟨_,_,sj,qCA _ _ _ _ h B,?_⟩;rw[q]
    exact⟨_,_,_,by rw[aa,u,D]<;>rfl,{A with counts:=qKG A.counts,i:=show InR (qSE m)from by rw[u];exact A.i,k:=show InR (qPH m)from by rw[D];unfold InR;omega},U,qAA _ _ _ _ (GW.trans L h) V⟩)
structure HaSt where
 j:Z
 g:GW
 w:Wd
 oa:zs zAH
 ca:Z
 ob:zs zAH
 cb:Z
 oc:zs zAH
 cc:Z
 od:zs zAH
 cd:Z
 oe:zs zAH
 ce:Z
 m:Aj
 o1:zs zAH
 t1:Z
 o2:zs zAH
 t2:Z
 o3:zs zAH
 t3:Z
def q4V{K}{w w'}(h:SnW w)(k:EB K w w'):SnW w':=λv q=>by
 obtain⟨u,A,e⟩:=k.2 v q;rw[<-e];exact h u A



section
end


structure CalmP(w:Wd):Prop where
 ep:w.Al<=1000000
 la:∀x∈w.Aa,x.Ah<=1000000
 ea:∀v∈w.Ab,∀g∈v.Am,∀e∈g.ends,e.Ah<=1000000

def qBM(g){t}{a:Ans}(u:InR t)(ha:a.ok):OkV X0 120 [.int .i64 t,.agg ⟨a.cs⟩] g (.agg ⟨(HT t a).cs (.slice zc 0 0) (.slice zc 0 0) (.slice zc 0 0)⟩):=
 Ok.Ao hm noT 0 He.2 (args:=[.v (.int .i64 t),.v (.agg ⟨a.cs⟩)]) (by
  unfold HT;refine zq ?_;intros;refine zI (λz=>?_) (λz=>?_)
  .have z:=E3 z;rw[zh z,zh z];refine zq ?_;intros;intro h q;rfl
  .have z:=Ft z;rw[zk z,zk z];refine zq ?_;intros;intro h q
   rfl)




def qYQ(g){cs}{c}(hc:qHB g cs c):OkV X0 20 [.agg ⟨cs⟩] g (.bool (eqB (qTA c) zc)):=by
 have u:=hc;obtain⟨a,b,d,rfl,w,A,B⟩:=hc;obtain⟨C,D,rfl,R,T,U,V⟩:=id w;obtain⟨E,H,rfl,b1,W,Y,aa⟩:=id A;obtain⟨L,M,rfl,ab,ac,ad,ae⟩:=id B
 exact Ok.Ao hm noT 0 G5.2 (args:=[.v (.agg ⟨[.slice C c.Aa.length D,.slice E c.As.length H,.slice L c.Ad.length M]⟩)]) (by
  rcases qBK (qTA c)with⟨h,q⟩|⟨e,i,h,q⟩
  .refine zq ?_;intros;refine .inl ⟨_,(qSG _ u).to q,zw ?_⟩;intro P Q;rw[qnU h];rfl
  .have af:=qiC h;refine zq ?_;intros;refine .inl ⟨_,(qSG _ u).to q,zw ?_⟩;intro P Q;rw[qPc (by rw[h];simp)]
   exact zK zBm sf)
def qTF(o:OpD):zM:=decide (1<=o.kind)&&decide (o.kind<=6)
noncomputable def isB(s:CB):zM:=eqB (qTA s.first) zc&&decide (1<=s.Af.length)&&decide (s.Af.length<=8)&&decide (s.Ax.length<=4000)&&(s.Af.all λl=>decide (l.length<=16)&&l.all qTF)&&s.Ax.all λn=>decide (0<=n)
def tI:F (Z×FnI):=[(21,Bq.1),(55,Bw.1),(22,FQ.1),(23,AE.1),(56,AC.1),(24,FP.1)]
def Mr:qqB X0 tI:=qPA Bq.2 (qPA Bw.2 (qPA FQ.2 (qPA AE.2 (qPA AC.2 (qPA FP.2 noT)))))
def qvT(g){cs}{s}(hs:qrC g cs s):OkV X0 5 [.agg ⟨cs⟩] g (.bool (isB s)):=by
 obtain⟨a,b,d,t,p,rfl,T,ax,ay⟩:=hs;have az:=T;obtain⟨_,_,_,af,⟨U,V,rfl,_⟩,⟨W,Y,rfl,_⟩,aa,ab,rfl,_⟩:=T;cases af;obtain⟨ag,ac,rfl,aA,aB,aR,aC⟩:=id ax;obtain⟨op,ad,rfl,aD,aE,aT,aF⟩:=id ay
 exact Ok.Ao hm Mr 3 IM.2 (args:=[.v (.agg ⟨[.slice U s.first.Aa.length V,.slice W s.first.As.length Y,.slice aa s.first.Ad.length ab,.slice ag s.Af.length ac,.slice op s.Ax.length ad]⟩)]) (by
  refine zq ?_;intros;refine .inl ⟨_,qYQ _ az,zw ?_⟩;refine⟨λz1=>?_,λz1=>?_⟩
  .refine zw ?_;intro u w;rw[isB,nb1 z1];rfl
  have z1:=nb0 z1;refine zq ?_;intros;refine⟨λD=>?_,λD=>?_⟩
  .refine zw ?_;intro u w;rw[isB,zE (show ¬1<=s.Af.length by have:=ze D;omega)];simp
  have D:1<=s.Af.length:=by have:=zf D;omega
  refine zq ?_;intros;refine⟨λE=>?_,λE=>?_⟩
  .refine zw ?_;intro u w;rw[isB,zE (show ¬s.Af.length<=8 by have:=ze E;omega)];simp
  have E:s.Af.length<=8:=by have:=zf E;omega
  refine zq ?_;intros;refine⟨λH=>?_,λH=>?_⟩
  .refine zw ?_;intro u w;rw[isB,zE (show ¬s.Ax.length<=4000 by have:=ze H;omega)];simp
  have H:s.Ax.length<=4000:=by have:=zf H;omega
  have ae:isB s=((s.Af.all λl=>decide (l.length<=16)&&l.all qTF)&&s.Ax.all λn=>decide (0<=n)):=by
   rw[isB,z1,zC D,zC E,zC H];simp
  refine zq ?_;intros;refine⟨Z,λk=>[.v (.int .i64 k)],λ_=>⟨g,[.blk 0 _ _ [.v (.slice U s.first.Aa.length V),.v (.slice W s.first.As.length Y),.v (.slice aa s.first.Ad.length ab),.v (.slice ag s.Af.length ac),.v (.slice op s.Ax.length ad)]],_,_⟩,λk=>k<=s.Af.length/\(s.Af.take k).all (λl=>decide (l.length<=16)&&l.all qTF)=I,λk=>s.Af.length-k,qMA 0 rfl ⟨zF _,rfl⟩ rfl,?_⟩;rintro k ⟨aU,an⟩;refine zw ?_;refine⟨λah=>?_,λah=>?_⟩
  .have B:k<s.Af.length:=by have:=ze ah;omega
   obtain⟨l,ao⟩:=qBA B;have ap:=(zd.1 ao).2;obtain⟨aq,rfl,aV,aW,⟨v,rfl,aG⟩,T⟩:=aC k l ao;obtain⟨aX,aY,rfl,aH,aI,aZ,aJ⟩:=id aG
   have ar:(decide (l.length<=16)&&l.all qTF)=zb->isB s=zb:=λai=>by
    rw[ae,qtB B (by rw[ap];exact ai)];rfl
   refine zw ?_;refine⟨aq,rfl,⟨sa,sa⟩,zw ?_⟩;refine⟨_,T 0 _ rfl,zq ?_⟩;intros;refine⟨λL=>?_,λL=>?_⟩
   .refine zw ?_;intro u w;rw[ar (by rw[zE (show ¬l.length<=16 by have:=ze L;omega)];rfl)]
   have L:l.length<=16:=by have:=zf L;omega
   refine zq ?_;intros;refine⟨Z,λn=>[.v (.int .i64 n)],λ_=>⟨g,[.blk 0 _ _ [.v (.slice U s.first.Aa.length V),.v (.slice W s.first.As.length Y),.v (.slice aa s.first.Ad.length ab),.v (.slice (O aq) s.Af.length ac),.v (.slice op s.Ax.length ad)]],_,_⟩,λn=>n<=l.length/\(l.take n).all qTF=I,λn=>l.length-n,qMA 0 rfl ⟨zF _,rfl⟩ rfl,?_⟩;rintro n ⟨aK,C⟩;refine zq ?_;intros;refine⟨λA=>?_,λA=>?_⟩
   .have h:n<l.length:=by have:=ze A;omega
    obtain⟨o,M⟩:=qBA h;have P:=(zd.1 M).2;obtain⟨aj,rfl,aL,aM,⟨a0,a1,a2,rfl,_,aN⟩,ak⟩:=aJ n o M;obtain⟨_,_,_,af,⟨a3,a4,rfl,_⟩,⟨a5,a6,rfl,_⟩,a7,a8,rfl,_⟩:=aN;cases af;refine zw ?_;refine⟨aj,rfl,⟨sa,sa⟩,zw ?_⟩;refine⟨_,⟨rfl,ak⟩,zq ?_⟩;intros;refine⟨kF,?_⟩;have au:qTF o=zb->isB s=zb:=λai=>ar (by rw[qtB h (by rw[P];exact ai),Bool.and_false]);refine zq ?_;intros;refine⟨λq=>?_,λq=>?_⟩
    .refine zq ?_;intros;refine⟨λ_=>zw ?_,λal=>absurd (((zC sa)).symm.trans al) sb⟩;intro u w;rw[au (by rw[qTF,zE (show ¬1<=o.kind by have:=ze q;omega)];rfl)]
    have q:1<=o.kind:=by have:=zf q;omega
    refine zq ?_;intros;refine⟨λQ=>?_,λQ=>?_⟩
    .refine zq ?_;intros;refine⟨λ_=>zw ?_,λal=>absurd (((zC sa)).symm.trans al) sb⟩;intro u w;rw[au (by rw[qTF,zE (show ¬o.kind<=6 by have:=ze Q;omega),Bool.and_false])]
    have Q:o.kind<=6:=by have:=zf Q;omega
    refine zw ?_;refine λav aw R=>⟨n+1,zK (λz=>[zD .i64 z]) (wr1 h aH aI).symm,⟨h,by rw[qYD h,C,P,qTF,zC q,zC Q];rfl⟩,dec h,?_⟩;exact R.fit sc
   have aO:l.all qTF=I:=by
    have:=zf A;rwa [zAw sa]at C
   refine zq ?_;intros;refine⟨λaP=>(nomatch aP),λ_=>zw ?_⟩;refine λav aw R=>⟨k+1,zK (λz=>[zD .i64 z]) (wr1 B aA aB).symm,⟨B,by rw[qYD B,an,ap,zC L,aO];rfl⟩,dec B,?_⟩;exact R.fit sc
  have aQ:(s.Af.all λl=>decide (l.length<=16)&&l.all qTF)=I:=by
   have:=zf ah;rwa [zAw sa]at an
  rw[aQ,zCE]at ae;refine zq ?_;intros;refine⟨Z,λn=>[.v (.int .i64 n)],λ_=>⟨g,[.blk 0 _ _ [.v (.slice U s.first.Aa.length V),.v (.slice W s.first.As.length Y),.v (.slice aa s.first.Ad.length ab),.v (.slice ag s.Af.length ac),.v (.slice op s.Ax.length ad)]],_,_⟩,λn=>n<=s.Ax.length/\(s.Ax.take n).all (λn=>decide (0<=n))=I,λn=>s.Ax.length-n,qMA 0 rfl ⟨zF _,rfl⟩ rfl,?_⟩;rintro n ⟨aK,C⟩;refine zq ?_;intros;refine⟨λA=>?_,λA=>?_⟩
  .have h:n<s.Ax.length:=by have:=ze A;omega
   obtain⟨o,M⟩:=qBA h;have P:=(zd.1 M).2;obtain⟨aj,rfl,aL,aM,⟨rfl,_⟩,ak⟩:=aF n o M;refine zw ?_;refine⟨aj,rfl,⟨sa,sa⟩,zw ?_⟩;refine⟨_,ak 0 _ rfl,zq ?_⟩;intros;refine⟨kF,zq ?_⟩;intros;refine⟨λq=>?_,λq=>?_⟩
   .refine zq ?_;intros;intro u w;rw[ae,qtB h (by rw[P];exact zE (by have:=ze q;omega))];exact zK zBm sd
   have q:0<=o:=by have:=zf q;omega
   refine zw ?_;refine λav aw R=>⟨n+1,zK (λz=>[zD .i64 z]) (wr1 h aD aE).symm,⟨h,by rw[qYD h,C,P,zC q];rfl⟩,dec h,?_⟩;exact R.fit sc
  refine zw ?_;intro u w;have:=zf A;rw[zAw sa]at C
  rw[ae,C];rfl)

abbrev cS(l:F BA):F zg:=l.map Value.string
def tM:F (Z×FnI):=[(30,Ek.1),(66,Dy.1)]
def Mn:qqB X0 tM:=qPA Ek.2 (qPA Dy.2 noT)
def SmS(s:CB):Prop:=s.first.Aa.length<=50/\s.Af.length<=20/\∀l∈s.Af,l.length<=40
def quR(g){cs}{s}(hs:qrC g cs s)(bi:SmS s):Ok X0 9 [.agg ⟨cs⟩] g λv g'=>rSl 1 FJ g' v (qZC s):=by
 obtain⟨a,b,d,t,p,rfl,bb,aK,bj⟩:=hs;have bW:=bb;obtain⟨_,_,_,R,⟨aa,ab,rfl,aL,aM,bX,bl⟩,⟨ac,ad,rfl,_⟩,ae,af,rfl,_⟩:=bb;cases R;obtain⟨aN,ag,rfl,bm,bn,bY,bo⟩:=id aK;obtain⟨op,ah,rfl,bZ,b0,b2,b3⟩:=id bj;obtain⟨z1,b4,bc⟩:=bi
 exact Ok.Ao hm Mn 2 G6.2 (args:=[.v (.agg ⟨[.slice aa s.first.Aa.length ab,.slice ac s.first.As.length ad,.slice ae s.first.Ad.length af,.slice aN s.Af.length ag,.slice op s.Ax.length ah]⟩)]) (by
  refine zq ?_;intros;refine⟨kF,λlp aO=>zq ?_⟩;intros;rename_i aP aC aQ bd;refine zw ?_;refine⟨Z×zs zAH×Z×Z×GW,λ(E,_,_,_,_)=>[.v (.int .i64 E)],λ(E,u,h,A,g')=>⟨g',_::_::_::.blk 1 aC 22 [.v (.slice u h A)]::_,_,_⟩,λ(E,u,h,A,g')=>E<=s.first.Aa.length/\g<=g'/\h=(BC [] (s.first.Aa.take E)).length/\AX g' g.w.heap.size 9 1 (.slice u h A) h (cS (BC [] (s.first.Aa.take E))),λ(E,_,_,_,_)=>s.first.Aa.length-E,λL M q=>⟨(0,zc,0,0,g),rfl,⟨zF _,GW.refl _,rfl,rfl,.inl ⟨rfl,rfl⟩,λb5 bp=>by cases bp⟩,q⟩,?_⟩;rintro⟨C,u,h,A,g'⟩ ⟨aR,P,Q,H⟩;refine zw ?_;refine⟨λU=>?_,λU=>?_⟩
  .have B:C<s.first.Aa.length:=by have:=ze U;omega
   obtain⟨x,aw⟩:=qBA B;obtain⟨a,rfl,bq,br,rfl,ai⟩:=bl C x aw;replace ai:=ai.mono P;have D:=qFO (out:=[]) aw;refine zw ?_;refine⟨a,rfl,⟨sa,sa⟩,zw ?_⟩;refine⟨_,ai 0 _ rfl,zq ?_⟩;intros;have aT:rSl 1 FJ g' (.slice u h A) (BC [] (s.first.Aa.take C)):=qqC H.rd _ .string rfl λ_ _=>rfl;refine zw ?_;refine .inl ⟨_,q3E _ aT _,zw ?_⟩;refine⟨λaj=>?_,λaj=>?_⟩
   .rw[zh (by rw[nb1 aj];simp)]at D;have ax:=qeG (out:=[]) (l:=s.first.Aa.take C);rw[zAN]at ax
    try simp only[zCo]at ax
    rcases H.2.1 with⟨R,bt⟩|⟨bk,bu,rest,R,ak,aU,aV,aW,aX⟩
    .cases R;have aY:BC [] (s.first.Aa.take C)=[]:=zBd.1 sa;rw[aY]at D;refine zq ?_;intros;refine⟨⟨by unfold zAr;omega,sa⟩,λal an=>zq ?_⟩;intros
     refine λL M q=>by
      obtain⟨W,ao,aZ,ap,aq⟩:=q.Cw;refine⟨(C+1,al,1,an,W),zK (λz=>[zD .i64 z]) (wr1 B aL aM).symm,⟨B,?_,?_,?_⟩,dec B,aq.fit sc⟩
      .exact GW.trans P ao
      .rw[D];rfl
      .rw[D];exact ap
    .cases R;have a0:¬g.g bk:=λV=>by have:=g.wf _ V;have:=ak.1;omega
     refine zq ?_;intros;refine .inr (.inl ⟨bk,_,rest,⟨rfl,ak.1,ak.2,aU,by rw[zAA,Q];omega,H.2.2,aV,aW,aX,by unfold zAr;omega,sa⟩,λbv a1 al an=>zq ?_⟩);intros
     refine λL M q=>by
      obtain⟨W,ao,aZ,ap,aq⟩:=q.Cw;refine⟨(C+1,al,h+1,an,W),zK (λz=>[zD .i64 z]) (wr1 B aL aM).symm,⟨B,?_,?_,?_⟩,dec B,aq.fit sc⟩
      .exact GW.trans (a1.le P a0) ao
      .rw[D,Q];simp
      .rw[D];simpa using ap
   .rw[zk (nb0 aj)]at D;refine zw ?_;refine λL M q=>⟨(C+1,u,h,A,g'),zK (λz=>[zD .i64 z]) (wr1 B aL aM).symm,⟨B,P,by rw[D];exact Q,by rw[D];exact H⟩,dec B,?_⟩;exact q.fit sc
  have ar:C=s.first.Aa.length:=by have:=zf U;omega
  rw[ar,zAB]at Q H;clear U aR ar;refine zq ?_;intros;have bw:=qeG (out:=[]) (l:=s.first.Aa);simp only[zCo]at bw;refine zw ?_;refine⟨Z×zs zAH×Z×Z×GW,λ(k,_,_,_,_)=>[.v (.int .i64 k)],λ(k,u,h,A,g')=>⟨g',[.lp 3 lp aO .ready,.blk 2 aQ 31 [.v (.slice aa s.first.Aa.length ab),.v (.slice ac s.first.As.length ad),.v (.slice ae s.first.Ad.length af),.v (.slice aN s.Af.length ag),.v (.slice op s.Ax.length ah)],.blk 1 aC 22 [.v (.slice u h A)],.blk 0 aP 31 [.v (.slice aa s.first.Aa.length ab),.v (.slice ac s.first.As.length ad),.v (.slice ae s.first.Ad.length af),.v (.slice aN s.Af.length ag),.v (.slice op s.Ax.length ah)]],20,g.w.heap.size⟩,λ(k,u,h,A,g')=>k<=s.Af.length/\g<=g'/\h=(EZ (BC [] s.first.Aa) (s.Af.take k)).length/\AX g' g.w.heap.size 9 1 (.slice u h A) h (cS (EZ (BC [] s.first.Aa) (s.Af.take k))),λ(k,_,_,_,_)=>s.Af.length-k,λL M q=>⟨(0,u,h,A,g'),rfl,⟨zF _,P,Q,H⟩,q.fit sc⟩,?_⟩;clear Q H P;rintro⟨k,bx,bz,bA,bB⟩ ⟨b6,a2,a3,aD⟩;refine zq ?_;intros;refine⟨λa4=>?_,λa4=>?_⟩
  .have aE:k<s.Af.length:=by have:=ze a4;omega
   obtain⟨l,a5⟩:=qBA aE;have bC:=bc l (zl a5);obtain⟨ay,rfl,b7,b8,⟨v,rfl,bD⟩,bE⟩:=bo k l a5;obtain⟨b9,ca,rfl,a6,a7,cb,bF⟩:=id bD;have be:EZ (BC [] s.first.Aa) (s.Af.take (k+1))=List.foldl opN (EZ (BC [] s.first.Aa) (s.Af.take k)) l:=qML (f:=λout l=>List.foldl opN out l) a5;refine zw ?_;refine⟨ay,rfl,⟨sa,sa⟩,zw ?_⟩;refine⟨_,bE.mono a2 0 _ rfl,zq ?_⟩;intros;have bG:=qsV (out:=BC [] s.first.Aa) (l:=s.Af.take k) λt aK=>bc t (zBD aK);rw[zAN]at bG;refine zw ?_;refine⟨Z×zs zAH×Z×Z×GW,λ(k,_,_,_,_)=>[.v (.int .i64 k)],λ(k,u,h,A,g')=>⟨g',[.lp 3 lp aO .ready,.blk 2 aQ 31 [.v (.slice aa s.first.Aa.length ab),.v (.slice ac s.first.As.length ad),.v (.slice ae s.first.Ad.length af),.v (.slice (O ay) s.Af.length ag),.v (.slice op s.Ax.length ah)],.blk 1 aC 22 [.v (.slice u h A)],.blk 0 aP 31 [.v (.slice aa s.first.Aa.length ab),.v (.slice ac s.first.As.length ad),.v (.slice ae s.first.Ad.length af),.v (.slice (O ay) s.Af.length ag),.v (.slice op s.Ax.length ah)]],30,g.w.heap.size⟩,λ(n,u,h,A,g')=>n<=l.length/\g<=g'/\h=(List.foldl opN (EZ (BC [] s.first.Aa) (s.Af.take k)) (l.take n)).length/\AX g' g.w.heap.size 9 1 (.slice u h A) h (cS (List.foldl opN (EZ (BC [] s.first.Aa) (s.Af.take k)) (l.take n))),λ(n,_,_,_,_)=>l.length-n,λL M q=>⟨(0,bx,bz,bA,bB),rfl,⟨zF _,a2,a3,aD⟩,q.fit sc⟩,?_⟩;clear a3 aD a2;rintro⟨n,aF,aG,aH,aI⟩ ⟨cc,au,az,aA⟩;refine zq ?_;intros;refine⟨λa8=>?_,λa8=>?_⟩
   .have T:n<l.length:=by have:=ze a8;omega
    obtain⟨o,bf⟩:=qBA T;have bg:qTA o.Ap=zc->o.Ap.Aa.length<=4:=λV=>(Bh.1 V).size.1.2;obtain⟨bH,rfl,cd,ce,⟨cf,cg,ch,rfl,ci,bh⟩,bI⟩:=bF n o bf;have bJ:=bh;obtain⟨_,_,_,R,⟨bK,bL,rfl,a9,ba,cj,bM⟩,⟨bN,bO,rfl,_⟩,bP,cK,rfl,_⟩:=bh;cases R;have av:=qML (f:=opN) (b:=EZ (BC [] s.first.Aa) (s.Af.take k)) bf;have bQ:=qOQ (out:=EZ (BC [] s.first.Aa) (s.Af.take k)) (l:=l.take n);rw[zAN]at bQ;have ck:=bC;refine zw ?_;refine⟨bH,rfl,⟨sa,sa⟩,zw ?_⟩;refine⟨_,⟨rfl,bI.mono au⟩,zq ?_⟩;intros;refine⟨λaJ=>?_,λaJ=>?_⟩
    .have bR:o.kind=3:=by simpa using aJ
     refine zq ?_;intros;refine .inl ⟨_,qYQ _ (qAA _ _ _ _ au bJ),zq ?_⟩;intros;refine⟨λaB=>?_,λaB=>?_⟩
     .have bg:=bg (DU.1 aB);have Y:∀out,opN out o=BC out o.Ap.Aa:=λout=>by rw[opN,zk ⟨bR,DU.1 aB⟩]
      refine zq ?_;intros;rename_i cm bd;refine zw ?_;refine⟨Z×zs zAH×Z×Z×GW,λ(E,_,_,_,_)=>[.v (.int .i64 E)],λ(E,u,h,A,g')=>⟨g',[.blk 40 bd 26 [.v (.slice bK o.Ap.Aa.length bL),.v (.slice bN o.Ap.As.length bO),.v (.slice bP o.Ap.Ad.length cK)],.lp 3 lp aO .busy,.blk 2 aQ 31 [.v (.slice aa s.first.Aa.length ab),.v (.slice ac s.first.As.length ad),.v (.slice ae s.first.Ad.length af),.v (.slice (O ay) s.Af.length ag),.v (.slice op s.Ax.length ah)],.blk 1 aC 22 [.v (.slice u h A)],.blk 0 aP 31 [.v (.slice aa s.first.Aa.length ab),.v (.slice ac s.first.As.length ad),.v (.slice ae s.first.Ad.length af),.v (.slice (O ay) s.Af.length ag),.v (.slice op s.Ax.length ah)]],60,g.w.heap.size⟩,λ(E,u,h,A,g')=>E<=o.Ap.Aa.length/\g<=g'/\h=(BC (List.foldl opN (EZ (BC [] s.first.Aa) (s.Af.take k)) (l.take n)) (o.Ap.Aa.take E)).length/\AX g' g.w.heap.size 9 1 (.slice u h A) h (cS (BC (List.foldl opN (EZ (BC [] s.first.Aa) (s.Af.take k)) (l.take n)) (o.Ap.Aa.take E))),λ(E,_,_,_,_)=>o.Ap.Aa.length-E,λL M q=>⟨(0,aF,aG,aH,aI),rfl,⟨zF _,au,az,aA⟩,q.fit sc⟩,?_⟩;rintro⟨C,u,h,A,g'⟩ ⟨aR,P,Q,H⟩;refine zw ?_;refine⟨λU=>?_,λU=>?_⟩
      .have B:C<o.Ap.Aa.length:=by have:=ze U;omega
       obtain⟨x,aw⟩:=qBA B;obtain⟨a,rfl,bq,br,rfl,ai⟩:=bM C x aw;replace ai:=ai.mono P;have D:=qFO (out:=(List.foldl opN (EZ (BC [] s.first.Aa) (s.Af.take k)) (l.take n))) aw;refine zw ?_;refine⟨a,rfl,⟨sa,sa⟩,zw ?_⟩;refine⟨_,ai 0 _ rfl,zq ?_⟩;intros;have aT:rSl 1 FJ g' (.slice u h A) (BC (List.foldl opN (EZ (BC [] s.first.Aa) (s.Af.take k)) (l.take n)) (o.Ap.Aa.take C)):=qqC H.rd _ .string rfl λ_ _=>rfl;refine zw ?_;refine .inl ⟨_,q3E _ aT _,zw ?_⟩;refine⟨λaj=>?_,λaj=>?_⟩
       .rw[zh (by rw[nb1 aj];simp)]at D;have ax:=qeG (out:=(List.foldl opN (EZ (BC [] s.first.Aa) (s.Af.take k)) (l.take n))) (l:=o.Ap.Aa.take C);rw[zAN]at ax
        try simp only[zCo]at ax
        rcases H.2.1 with⟨R,bt⟩|⟨bk,bu,rest,R,ak,aU,aV,aW,aX⟩
        .cases R;have aY:BC (List.foldl opN (EZ (BC [] s.first.Aa) (s.Af.take k)) (l.take n)) (o.Ap.Aa.take C)=[]:=zBd.1 sa;rw[aY]at D;refine zq ?_;intros;refine⟨⟨by unfold zAr;omega,sa⟩,λal an=>zq ?_⟩;intros
         refine λL M q=>by
          obtain⟨W,ao,aZ,ap,aq⟩:=q.Cw;refine⟨(C+1,al,1,an,W),zK (λz=>[zD .i64 z]) (wr1 B a9 ba).symm,⟨B,?_,?_,?_⟩,dec B,aq.fit sc⟩
          .exact GW.trans P ao
          .rw[D];rfl
          .rw[D];exact ap
        .cases R;have a0:¬g.g bk:=λV=>by have:=g.wf _ V;have:=ak.1;omega
         refine zq ?_;intros;refine .inr (.inl ⟨bk,_,rest,⟨rfl,ak.1,ak.2,aU,by rw[zAA,Q];omega,H.2.2,aV,aW,aX,by unfold zAr;omega,sa⟩,λbv a1 al an=>zq ?_⟩);intros
         refine λL M q=>by
          obtain⟨W,ao,aZ,ap,aq⟩:=q.Cw;refine⟨(C+1,al,h+1,an,W),zK (λz=>[zD .i64 z]) (wr1 B a9 ba).symm,⟨B,?_,?_,?_⟩,dec B,aq.fit sc⟩
          .exact GW.trans (a1.le P a0) ao
          .rw[D,Q];simp
          .rw[D];simpa using ap
       .rw[zk (nb0 aj)]at D;refine zw ?_;refine λL M q=>⟨(C+1,u,h,A,g'),zK (λz=>[zD .i64 z]) (wr1 B a9 ba).symm,⟨B,P,by rw[D];exact Q,by rw[D];exact H⟩,dec B,?_⟩;exact q.fit sc
      have ar:C=o.Ap.Aa.length:=by have:=zf U;omega
      rw[ar,zAB]at Q H;clear U aR ar;refine zq ?_;intros;refine λL M q=>⟨(n+1,u,h,A,g'),zK (λz=>[zD .i64 z]) (wr1 T a6 a7).symm,⟨T,P,by rw[av,Y];exact Q,by rw[av,Y];exact H⟩,dec T,?_⟩;exact q.fit sc
     .have Y:∀out,opN out o=out:=λout=>by rw[opN,zh];rintro⟨_,V⟩;rw[qnU V]at aB;cases aB
      refine zq ?_;intros;refine λL M q=>⟨(n+1,aF,aG,aH,aI),zK (λz=>[zD .i64 z]) (wr1 T a6 a7).symm,⟨T,au,by rw[av,Y];exact az,by rw[av,Y];exact aA⟩,dec T,?_⟩;exact q.fit sc
    .have Y:∀out,opN out o=out:=λout=>by rw[opN,zh];rintro⟨V,_⟩;rw[V]at aJ;cases aJ
     refine zq ?_;intros;refine λL M q=>⟨(n+1,aF,aG,aH,aI),zK (λz=>[zD .i64 z]) (wr1 T a6 a7).symm,⟨T,au,by rw[av,Y];exact az,by rw[av,Y];exact aA⟩,dec T,?_⟩;exact q.fit sc
   have bT:n=l.length:=by have:=zf a8;omega
   rw[bT,zAB]at az aA;refine zq ?_;intros;refine λL M q=>⟨(k+1,aF,aG,aH,aI),zK (λz=>[zD .i64 z]) (wr1 aE bm bn).symm,⟨aE,au,by rw[be];exact az,by rw[be];exact aA⟩,dec aE,?_⟩;exact q.fit sc
  have ar:k=s.Af.length:=by have:=zf a4;omega
  rw[ar,zAB]at a3 aD;refine zq ?_;intros;intro W bU
  exact(qqC aD.rd _ .string rfl λ_ _=>rfl).mono qXE bU)
def AX.Lj{g g'}{lo}{ety}{size b w n cap}{cs}(h:AX g lo ety size (.slice (O ⟨b,0,zc⟩) n cap) n cs)(u:Hy g w g')(C:b≠w):AX g' lo ety size (.slice (O ⟨b,0,zc⟩) n cap) n cs:=by
 obtain⟨D,q,E⟩:=h;refine⟨D,?_,E⟩;rcases q with⟨q,_⟩|⟨M,P,rest,A,B,H,L⟩
 .cases q
 .simp only[zAp,zAk,Addr.mk.injEq]at A;obtain⟨⟨rfl,_⟩,_,rfl⟩:=A;exact .inr ⟨_,_,rest,rfl,⟨B.1,(u.dom _).2 ⟨B.2,C⟩⟩,(u.other _).trans H,L⟩
def AX.addr{g}{lo}{ety}{size n cap}{u}{cs}(h:AX g lo ety size (.slice (O u) n cap) n cs):∃b,u=⟨b,0,zc⟩:=by
 obtain⟨B,q,C⟩:=h;rcases q with⟨q,_⟩|⟨A,D,rest,w,_⟩
 .cases q
 .simp only[zAp,zAk]at w;exact⟨A,w.1⟩
end Go.Proofs.YtlmhpamhhgogaaaGreat
namespace Go.Proofs.YtlmhpamhhgogaaaGreat
open Go.Conc (G)
open Go.Proofs.YtlmhpamhhgogaaaGreat.Sx Go.Duo Go.RowKit
def tlC:zDT->zDT
 |.seq _ y=>y
 |c=>c
noncomputable def qUM:zDT:=(Tryz.f8.body).getD .skip
noncomputable def qqI:zDT:=tlC (tlC (tlC (tlC (tlC qUM))))
def MP{E:Env X0}{fr:Fr}(hfE:fr.has E){a:zDN}{w:zp}{k:F Item}{cs:F zAt}{b:zAt}{g:GW}{x y z:zg}{c:BB}{names:F BA}{vn vl:zg}{l:F OpD}{lo:Z}(hc:qHB g [x,y,z] c)(hok:qTA c=zc)(hn:rSl 1 FJ g vn names)(hno:qbI (qjB c) names 1)(hll:names.length<=1000000)(hlr:c.As.length<=1000000)(hl:rSl 10 rOp g vl l)(hl2:l.length<=200)(hK:∀g' cs7 v3 b3 b7 b9 b12 a' w' sl,g<=g'->rWo g' cs7 (EK (qjB c) names 1)->AS sl 2=O (.v vl)->AS sl 7=O (.p 1 b7 0)->AS sl 12=O (.p 3 b12 0)->Stn 88 fr [] sl ⟨g',[.blk 3 b12 44 (cs7.map .v),.blk 2 b9 68 v3,.blk 1 b7 44 [.v (.int .i64 0),.v (.int .i64 0),.v (.int .i64 0),.v (.slice zc 0 0),.v (.slice zc 0 0),.v (.slice zc 0 0),.v (.slice zc 0 0),.v (.slice zc 0 0)],.blk 0 b3 26 [.v x,.v y,.v z]],4,lo⟩ a' w'->E.G (G (b.atR a' (.code qqI::k)) cs) w')(hA:Stn 88 fr [] [(2,.v vl),(1,.v vn),(0,.v (.agg ⟨[x,y,z]⟩))] ⟨g,[],0,lo⟩ a w):E.G (G (b.atR a (.code qUM::k)) cs) w:=by
 have hc0:=hc;obtain⟨x',y',z',he,hx,hy,hz⟩:=hc;cases he;obtain⟨ox,cx,rfl,_⟩:=id hx;obtain⟨oy,cy,rfl,_⟩:=id hy;obtain⟨oz,cz,rfl,_⟩:=id hz;obtain⟨on,cn,rfl,_⟩:=id hn;obtain⟨ol,cl,rfl,_⟩:=id hl;unfold qUM Tryz.f8;simp only[zAM];refine qvA (q6B hfE ((qaA E).snd fr hfE) si hA (zq ?_));intros;intro a1 w1 hA1;refine qvA (q6B hfE ((qaA E).snd fr hfE) si hA1 (zq ?_));intros;refine .inr ((qdH _ hc0).mono λv g1 hg1 hB=>?_);obtain⟨x,y,z,e,i,rfl,hs1,_,⟨rfl,rfl,_,rfl,rfl⟩|⟨_,hne,_⟩⟩:=qpE hc0 hg1 hB;rotate_left
 .exact absurd hok hne
 obtain⟨_,_,oy2,cy2,_,_,he2⟩:=qQG hs1;simp only[zAJ,zA6]at he2;obtain⟨_,rfl,_⟩:=he2;refine zq ?_;intros;intro a2 w2 hA2;refine qvA (qvA (q6B hfE ((qaA E).snd fr hfE) si hA2 (zq ?_)));intros;intro a3 w3 hA3;refine q1J zb rfl rfl hA3 (qAI ?_);refine qvA (q6B hfE ((qaA E).snd fr hfE) si hA3 (zq ?_));intros;refine .inr ((qpX _ hs1 (hn.mono qXE hg1) (by rw[qjB,hok];simpa[qGC]using hlr) hll).mono λv g2 hg2 hN=>?_);obtain⟨cs7,rfl,hW⟩:=qsX hN hno;have hW0:=hW;obtain⟨_,_,_,_,_,rfl,_,hP,hV,hL,hC,hR⟩:=hW;obtain⟨_,_,rfl,_⟩:=id hP;obtain⟨_,_,rfl,_⟩:=id hV;obtain⟨_,_,rfl,_⟩:=id hL;obtain⟨_,_,rfl,_⟩:=id hC;obtain⟨_,_,rfl,_⟩:=id hR;refine zq ?_;intros;intro a4 w4 hA4;refine qvA (qLJ (qvA (q6B hfE ((qaA E).snd fr hfE) si hA4 (zq ?_))));intros;intro a5 w5 hA5;refine q1J zb rfl rfl hA5 ?_;refine qvA (q6B hfE ((qaA E).snd fr hfE) si hA5 (zq ?_));intros;intro a6 w6 hA6;refine q1J zb rfl (by simp[Ae];omega) hA6 (qAI (qVR ?_));exact hK _ _ _ _ _ _ _ _ _ _ (GW.trans hg1 hg2) hW0 rfl rfl rfl hA6
def qRV{P:zt}{E:Env P}{r:zs Z}{ops:zR zDO}{K:zDN->zp->Prop}{fuel:Z}{listed:zR zM}{a:zDN}{w:zp}(l:F Z)(hl:zAC .any ops listed=l)(q:l≠[])(h:∀i∈l,qHC E r ops i (qLH E r ops K fuel (listed.setIfInBounds i I)) a w):qLH E r ops K (fuel+1) listed a w:=
 ⟨λe=>absurd (hl.symm.trans e) q,λi u=>h i (hl▸u)⟩
def qjX{P:zt}{E:Env P}{r:zs Z}{ops:zR zDO}{K:zDN->zp->Prop}{i:Z}{o:zDO}{a:zDN}{w:zp}(q:ops[i]?=O o)(u:o.guard=zc)(h:∀d,o.atX E r a (w.at d) K):qHC E r ops i K a w:=by
 unfold qHC;simp only[q];rw[zk (by simp[zAs,u])];exact h
def qZM{P}(t)(v):(Instr.makeChan t v).Calm P:=by
 unfold Instr.makeChan;refine qEA (qyC _) λn=>qEA (qKA _) λd=>?_;split
 .refine qEA (qnA _) λi=>?_;split
  .exact qEA (qQA _) λ_=>qEA (qLB _) λ_=>qHA _
  .exact qEA (qLB _) λ_=>qHA _
 .exact qRA _
structure J9(fr:Fr)(hs:Hs)(n0:Z)(v2 v7 v12:zg)(o0 o1 o2:zs Z)(s0 s1 s2:zM)(a:zDN)(w:zp):Prop where
 size:a.tmps.size=88
 defers:a.defers=[]
 t2:a.tmps[2]?=O v2
 t7:a.tmps[7]?=O v7
 t12:a.tmps[12]?=O v12
 sim:Aq fr hs w
 hn:n0<=w.heap.size
 c0:∀c,o0=O c->a.tmps[46]?=O (.chan (O c))/\w.heap[c]?=O (.chan 0 #[] zb 0 0 zb)/\n0<=c
 c1:∀c,o1=O c->a.tmps[47]?=O (.chan (O c))/\w.heap[c]?=O (.chan 0 #[] zb 0 0 zb)/\n0<=c
 c2:∀c,o2=O c->a.tmps[48]?=O (.chan (O c))/\w.heap[c]?=O (.chan 1 #[] zb 0 0 zb)/\n0<=c
 d01:∀c c',o0=O c->o1=O c'->c≠c'
 d02:∀c c',o0=O c->o2=O c'->c≠c'
 d12:∀c c',o1=O c->o2=O c'->c≠c'
 a0:s0=I->∃c,o0=O c/\a.tmps[13]?=O (.chan (O c))
 a1:s1=I->∃c,o1=O c/\a.tmps[14]?=O (.chan (O c))
 a2:s2=I->∃c,o2=O c/\a.tmps[15]?=O (.chan (O c))
section
variable{fr:Fr}{hs:Hs}{n0:Z}{v2 v7 v12:zg}{o0 o1 o2:zs Z}{s0 s1 s2:zM}{a:zDN}{w:zp}
def J9.at(h:J9 fr hs n0 v2 v7 v12 o0 o1 o2 s0 s1 s2 a w)(d):J9 fr hs n0 v2 v7 v12 o0 o1 o2 s0 s1 s2 a (w.at d):=⟨h.1,h.2,h.3,h.4,h.5,h.6.at d,h.7,h.8,h.9,h.10,h.11,h.12,h.13,h.14,h.15,h.16⟩
def qGA{a:zDN}{d n:Z}{v:zg}(h:d≠n):(a.put (O d) v).tmps[n]?=a.tmps[n]?:=by simp[zBg,zO h]
def q4D{a:zDN}{d:Z}{v:zg}(h:d<a.tmps.size):(a.put (O d) v).tmps[d]?=O v:=by simp[zBg,h]
def qWK(w:zp)(o:Obj):(w.alloc o).heap[w.heap.size]?=O o:=by
 show(w.heap.push o)[w.heap.size]?=_;simp
def qBL{o:zs Z}{w:zp}{x:Obj}{c:Z}(h:w.heap[c]?=O x):c≠w.heap.size:=by
 have:=(zAg.1 h).1;omega
def J9.mk0(h:J9 fr hs n0 v2 v7 v12 zc o1 o2 zb s1 s2 a w):J9 fr hs n0 v2 v7 v12 (O w.heap.size) o1 o2 zb s1 s2 (a.put (O 46) (.chan (O w.heap.size))) (w.alloc (.chan 0 #[] zb 0 0 zb)):=by
 refine⟨by simp[zBg,h.size],h.defers,?_,?_,?_,h.sim.agree (Below.AU _ _),by simp;have:=h.hn;omega,?_,?_,?_,?_,?_,h.d12,nofun,?_,?_⟩
 .rw[qGA sb];exact h.t2
 .rw[qGA sb];exact h.t7
 .rw[qGA sb];exact h.t12
 .rintro c ⟨⟩;exact⟨q4D (by rw[h.size];decide),qWK _ _,h.hn⟩
 .intro c e;obtain⟨x,y,z⟩:=h.c1 c e;exact⟨by rw[qGA sb];exact x,(Go.Duo.heap_alloc_old y).trans y,z⟩
 .intro c e;obtain⟨x,y,z⟩:=h.c2 c e;exact⟨by rw[qGA sb];exact x,(Go.Duo.heap_alloc_old y).trans y,z⟩
 .rintro c q ⟨⟩ e;exact zBw (qBL (o:=zc) (h.c1 q e).2.1)
 .rintro c q ⟨⟩ e;exact zBw (qBL (o:=zc) (h.c2 q e).2.1)
 .intro e;obtain⟨c,x,y⟩:=h.a1 e;exact⟨c,x,by rw[qGA sb];exact y⟩
 .intro e;obtain⟨c,x,y⟩:=h.a2 e;exact⟨c,x,by rw[qGA sb];exact y⟩
def J9.mk1(h:J9 fr hs n0 v2 v7 v12 o0 zc o2 s0 zb s2 a w):J9 fr hs n0 v2 v7 v12 o0 (O w.heap.size) o2 s0 zb s2 (a.put (O 47) (.chan (O w.heap.size))) (w.alloc (.chan 0 #[] zb 0 0 zb)):=by
 refine⟨by simp[zBg,h.size],h.defers,?_,?_,?_,h.sim.agree (Below.AU _ _),by simp;have:=h.hn;omega,?_,?_,?_,?_,h.d02,?_,?_,nofun,?_⟩
 .rw[qGA sb];exact h.t2
 .rw[qGA sb];exact h.t7
 .rw[qGA sb];exact h.t12
 .intro c e;obtain⟨x,y,z⟩:=h.c0 c e;exact⟨by rw[qGA sb];exact x,(Go.Duo.heap_alloc_old y).trans y,z⟩
 .rintro c ⟨⟩;exact⟨q4D (by rw[h.size];decide),qWK _ _,h.hn⟩
 .intro c e;obtain⟨x,y,z⟩:=h.c2 c e;exact⟨by rw[qGA sb];exact x,(Go.Duo.heap_alloc_old y).trans y,z⟩
 .rintro c q e ⟨⟩;exact qBL (o:=zc) (h.c0 c e).2.1
 .rintro c q ⟨⟩ e;exact zBw (qBL (o:=zc) (h.c2 q e).2.1)
 .intro e;obtain⟨c,x,y⟩:=h.a0 e;exact⟨c,x,by rw[qGA sb];exact y⟩
 .intro e;obtain⟨c,x,y⟩:=h.a2 e;exact⟨c,x,by rw[qGA sb];exact y⟩
def J9.mk2(h:J9 fr hs n0 v2 v7 v12 o0 o1 zc s0 s1 zb a w):J9 fr hs n0 v2 v7 v12 o0 o1 (O w.heap.size) s0 s1 zb (a.put (O 48) (.chan (O w.heap.size))) (w.alloc (.chan 1 #[] zb 0 0 zb)):=by
 refine⟨by simp[zBg,h.size],h.defers,?_,?_,?_,h.sim.agree (Below.AU _ _),by simp;have:=h.hn;omega,?_,?_,?_,h.d01,?_,?_,?_,?_,nofun⟩
 .rw[qGA sb];exact h.t2
 .rw[qGA sb];exact h.t7
 .rw[qGA sb];exact h.t12
 .intro c e;obtain⟨x,y,z⟩:=h.c0 c e;exact⟨by rw[qGA sb];exact x,(Go.Duo.heap_alloc_old y).trans y,z⟩
 .intro c e;obtain⟨x,y,z⟩:=h.c1 c e;exact⟨by rw[qGA sb];exact x,(Go.Duo.heap_alloc_old y).trans y,z⟩
 .rintro c ⟨⟩;exact⟨q4D (by rw[h.size];decide),qWK _ _,h.hn⟩
 .rintro c q e ⟨⟩;exact qBL (o:=zc) (h.c0 c e).2.1
 .rintro c q e ⟨⟩;exact qBL (o:=zc) (h.c1 c e).2.1
 .intro e;obtain⟨c,x,y⟩:=h.a0 e;exact⟨c,x,by rw[qGA sb];exact y⟩
 .intro e;obtain⟨c,x,y⟩:=h.a1 e;exact⟨c,x,by rw[qGA sb];exact y⟩
def J9.as0{c0}(h:J9 fr hs n0 v2 v7 v12 (O c0) o1 o2 zb s1 s2 a w):J9 fr hs n0 v2 v7 v12 (O c0) o1 o2 I s1 s2 (a.put (O 13) (.chan (O c0))) w:=by
 refine⟨by simp[zBg,h.size],h.defers,?_,?_,?_,h.sim,h.hn,?_,?_,?_,h.d01,h.d02,h.d12,?_,?_,?_⟩
 .rw[qGA sb];exact h.t2
 .rw[qGA sb];exact h.t7
 .rw[qGA sb];exact h.t12
 .intro c e;rw[qGA sb];exact h.c0 c e
 .intro c e;rw[qGA sb];exact h.c1 c e
 .intro c e;rw[qGA sb];exact h.c2 c e
 .exact λ_=>⟨c0,rfl,q4D (by rw[h.size];decide)⟩
 .intro e;obtain⟨c,x,y⟩:=h.a1 e;exact⟨c,x,by rw[qGA sb];exact y⟩
 .intro e;obtain⟨c,x,y⟩:=h.a2 e;exact⟨c,x,by rw[qGA sb];exact y⟩
def J9.as1{c1}(h:J9 fr hs n0 v2 v7 v12 o0 (O c1) o2 s0 zb s2 a w):J9 fr hs n0 v2 v7 v12 o0 (O c1) o2 s0 I s2 (a.put (O 14) (.chan (O c1))) w:=by
 refine⟨by simp[zBg,h.size],h.defers,?_,?_,?_,h.sim,h.hn,?_,?_,?_,h.d01,h.d02,h.d12,?_,?_,?_⟩
 .rw[qGA sb];exact h.t2
 .rw[qGA sb];exact h.t7
 .rw[qGA sb];exact h.t12
 .intro c e;rw[qGA sb];exact h.c0 c e
 .intro c e;rw[qGA sb];exact h.c1 c e
 .intro c e;rw[qGA sb];exact h.c2 c e
 .intro e;obtain⟨c,x,y⟩:=h.a0 e;exact⟨c,x,by rw[qGA sb];exact y⟩
 .exact λ_=>⟨c1,rfl,q4D (by rw[h.size];decide)⟩
 .intro e;obtain⟨c,x,y⟩:=h.a2 e;exact⟨c,x,by rw[qGA sb];exact y⟩
def J9.as2{c2}(h:J9 fr hs n0 v2 v7 v12 o0 o1 (O c2) s0 s1 zb a w):J9 fr hs n0 v2 v7 v12 o0 o1 (O c2) s0 s1 I (a.put (O 15) (.chan (O c2))) w:=by
 refine⟨by simp[zBg,h.size],h.defers,?_,?_,?_,h.sim,h.hn,?_,?_,?_,h.d01,h.d02,h.d12,?_,?_,?_⟩
 .rw[qGA sb];exact h.t2
 .rw[qGA sb];exact h.t7
 .rw[qGA sb];exact h.t12
 .intro c e;rw[qGA sb];exact h.c0 c e
 .intro c e;rw[qGA sb];exact h.c1 c e
 .intro c e;rw[qGA sb];exact h.c2 c e
 .intro e;obtain⟨c,x,y⟩:=h.a0 e;exact⟨c,x,by rw[qGA sb];exact y⟩
 .intro e;obtain⟨c,x,y⟩:=h.a1 e;exact⟨c,x,by rw[qGA sb];exact y⟩
 .exact λ_=>⟨c2,rfl,q4D (by rw[h.size];decide)⟩
end
def qLU{P:zt}{E:Env P}{ops:zR zDO}{K:zDN->zp->Prop}{i d n:Z}{o:zDO}{a:zDN}{w:zp}{v:zg}(u:ops[i]?=O o)(A:o.guard=zc)(hop:o.op=.assign (.tmp n))(hd:o.dst=O d)(B:a.tmps[n]?=O v)(h:∀e,K (a.put (O d) v) (w.at e)):qHC E zc ops i K a w:=by
 refine qjX u A λe=>?_;have q:Oper.semAt zc a.eval o=pure (.value v):=by simp[Oper.semAt,zy,hop,qFA B]
 refine⟨by rw[q];exact qHA _,?_⟩;rw[q];exact⟨.refl _,by rw[hd];exact h e⟩
def qOP{P:zt}{E:Env P}{ops:zR zDO}{K:zDN->zp->Prop}{i d t e cap:Z}{o:zDO}{a:zDN}{w:zp}{A:ChanDir}{q:TypeInfo}(B:ops[i]?=O o)(C:o.guard=zc)(hop:o.op=.makeChan t (.const (.int .i64 cap)))(hd:o.dst=O d)(D:E.N<=w.heap.size)(H:P.underlying t=O (.chan A e))(L:P.info? e=O q)(hc:(cap:zn)<=1)(hb:(q.bytes:zn)<=281474976710544)(h:∀x,K (a.put (O d) (.chan (O w.heap.size))) ((w.at x).alloc (.chan cap #[] zb 0 0 zb))):qHC E zc ops i K a w:=by
 refine qjX B C λx=>?_;have u:Oper.semAt zc a.eval o=(do pure (.value (<-Instr.makeChan t (.int .i64 cap)))):=by simp[Oper.semAt,zy,hop,Act.eval]
 have M:=Go.Conc.run_makeChan (P:=P) (w:=w.at x) H L .i64 cap sa (by
  have:(cap:zn)=0\/(cap:zn)=1:=sa
  rcases this with h|h<;>rw[h]<;>omega)
 refine⟨by rw[u];exact qEA (qZM _ _) λ_=>qHA _,?_⟩;rw[u,zAa,M];refine⟨λn Q=>?_,by rw[hd];exact h x⟩;exact(Below.AU (w.at x) _).block n (zQ Q D)
def Gv:zDT->zR zDO
 |.region _ o _=>o
 |_=>#[]
def hdC:zDT->zDT
 |.seq x _=>x
 |c=>c
noncomputable def IX:zR zDO:=Gv (hdC qqI)
def Nd(E:Env X0)(K:zDN->zp->Prop)(fr:Fr)(hs:Hs)(n0:Z)(v2 v7 v12:zg)(o0 o1 o2:zs Z)(s0 s1 s2:zM)(n:Z)(l:zR zM):Prop:=
 ∀a w,J9 fr hs n0 v2 v7 v12 o0 o1 o2 s0 s1 s2 a w->qLH E zc IX K n l a w
section
variable{E:Env X0}{K:zDN->zp->Prop}{fr:Fr}{hs:Hs}{n0:Z}{v2 v7 v12:zg}{o0 o1 o2:zs Z}{s0 s1 s2:zM}{n:Z}{l:zR zM}
def Op9(E:Env X0)(K:zDN->zp->Prop)(fr:Fr)(hs:Hs)(n0:Z)(v2 v7 v12:zg)(o0 o1 o2:zs Z)(s0 s1 s2:zM)(n:Z)(l:zR zM)(i:Z):Prop:=
 ∀a w,J9 fr hs n0 v2 v7 v12 o0 o1 o2 s0 s1 s2 a w->qHC E zc IX i (qLH E zc IX K n l) a w
def Oe{x}(h:zAC .any IX l=[x])(u:Op9 E K fr hs n0 v2 v7 v12 o0 o1 o2 s0 s1 s2 n (l.setIfInBounds x I) x):Nd E K fr hs n0 v2 v7 v12 o0 o1 o2 s0 s1 s2 (n+1) l:=
 λa w A=>qRV _ h sd λi q=>by simp at q;subst q;exact u a w A
def Od{x y}(h:zAC .any IX l=[x,y])(A:Op9 E K fr hs n0 v2 v7 v12 o0 o1 o2 s0 s1 s2 n (l.setIfInBounds x I) x)(h2:Op9 E K fr hs n0 v2 v7 v12 o0 o1 o2 s0 s1 s2 n (l.setIfInBounds y I) y):Nd E K fr hs n0 v2 v7 v12 o0 o1 o2 s0 s1 s2 (n+1) l:=
 λa w q=>qRV _ h sd λi u=>by simp at u;rcases u with rfl|rfl;exact A a w q;exact h2 a w q
def Oc{x y z}(h:zAC .any IX l=[x,y,z])(A:Op9 E K fr hs n0 v2 v7 v12 o0 o1 o2 s0 s1 s2 n (l.setIfInBounds x I) x)(h2:Op9 E K fr hs n0 v2 v7 v12 o0 o1 o2 s0 s1 s2 n (l.setIfInBounds y I) y)(B:Op9 E K fr hs n0 v2 v7 v12 o0 o1 o2 s0 s1 s2 n (l.setIfInBounds z I) z):Nd E K fr hs n0 v2 v7 v12 o0 o1 o2 s0 s1 s2 (n+1) l:=
 λa w q=>qRV _ h sd λi u=>by simp at u;rcases u with rfl|rfl|rfl;exact A a w q;exact h2 a w q;exact B a w q
def Og(h:zAC .any IX l=[])(q:∀c0 c1 c2 a w,J9 fr hs n0 v2 v7 v12 (O c0) (O c1) (O c2) I I I a w->K a w){c0 c1 c2}:Nd E K fr hs n0 v2 v7 v12 (O c0) (O c1) (O c2) I I I 0 l:=
 λa w u=>⟨h,λd=>q _ _ _ _ _ (u.at d)⟩
def chT(t)(h:((X0.underlying t).bind λd=>match d with
  |.chan _ e=>(X0.info? e).map λi=>decide ((i.bytes:zn)<=281474976710544)
  |_=>zc)=O I):∃u e q,X0.underlying t=O (.chan u e)/\X0.info? e=O q/\(q.bytes:zn)<=281474976710544:=by
 simp only[zAD]at h;obtain⟨d,A,h⟩:=h;split at h
 .obtain⟨i,B,C⟩:=zU.1 h;exact⟨_,_,i,A,B,ze C⟩
 .cases h
def N9(u:E.N<=n0)(h:∀c,Nd E K fr hs n0 v2 v7 v12 (O c) o1 o2 zb s1 s2 n l):Op9 E K fr hs n0 v2 v7 v12 zc o1 o2 zb s1 s2 n l 0:=λa w q=>by
 obtain⟨D,e,H,A,B,C⟩:=chT 88 se;exact qOP sy sy sy sy (zZ u q.hn) A B sb C λx=>h _ _ _ ((q.at x).mk0)
def N8(u:E.N<=n0)(h:∀c,Nd E K fr hs n0 v2 v7 v12 o0 (O c) o2 s0 zb s2 n l):Op9 E K fr hs n0 v2 v7 v12 o0 zc o2 s0 zb s2 n l 1:=λa w q=>by
 obtain⟨D,e,H,A,B,C⟩:=chT 89 se;exact qOP sy sy sy sy (zZ u q.hn) A B sb C λx=>h _ _ _ ((q.at x).mk1)
def N7(u:E.N<=n0)(h:∀c,Nd E K fr hs n0 v2 v7 v12 o0 o1 (O c) s0 s1 zb n l):Op9 E K fr hs n0 v2 v7 v12 o0 o1 zc s0 s1 zb n l 2:=λa w q=>by
 obtain⟨D,e,H,A,B,C⟩:=chT 90 se;exact qOP sy sy sy sy (zZ u q.hn) A B sb C λx=>h _ _ _ ((q.at x).mk2)
def N6{c}(h:Nd E K fr hs n0 v2 v7 v12 (O c) o1 o2 I s1 s2 n l):Op9 E K fr hs n0 v2 v7 v12 (O c) o1 o2 zb s1 s2 n l 3:=λa w q=>
 qLU sy sy sy sy (q.c0 c rfl).1 λe=>h _ _ (q.as0.at e)
def N5{c}(h:Nd E K fr hs n0 v2 v7 v12 o0 (O c) o2 s0 I s2 n l):Op9 E K fr hs n0 v2 v7 v12 o0 (O c) o2 s0 zb s2 n l 4:=λa w q=>
 qLU sy sy sy sy (q.c1 c rfl).1 λe=>h _ _ (q.as1.at e)
def N4{c}(h:Nd E K fr hs n0 v2 v7 v12 o0 o1 (O c) s0 s1 I n l):Op9 E K fr hs n0 v2 v7 v12 o0 o1 (O c) s0 s1 zb n l 5:=λa w q=>
 qLU sy sy sy sy (q.c2 c rfl).1 λe=>h _ _ (q.as2.at e)
def M5(h:E.N<=n0)(q:∀c0 c1 c2 a w,J9 fr hs n0 v2 v7 v12 (O c0) (O c1) (O c2) I I I a w->K a w):Nd E K fr hs n0 v2 v7 v12 zc zc zc zb zb zb 6 #[zb,zb,zb,zb,zb,zb]:=by
 repeat' first
  |exact Og si q
  |refine Oe si ?_
  |refine Od si ?_ ?_
  |refine Oc si ?_ ?_ ?_
  |refine N9 h λ_=>?_
  |refine N8 h λ_=>?_
  |refine N7 h λ_=>?_
  |refine N6 ?_
  |refine N5 ?_
  |refine N4 ?_
end
noncomputable def qJE:zDT:=tlC qqI
noncomputable def qpB:zDT:=tlC qJE
noncomputable def q1I:zR zDO:=Gv (hdC qJE)
structure Lp(n0 c0 c1 c2:Z)(w:zp):Prop where
 h0:w.heap[c0]?=O (.chan 0 #[] zb 0 0 zb)
 h1:w.heap[c1]?=O (.chan 0 #[] zb 0 0 zb)
 h2:w.heap[c2]?=O (.chan 1 #[] zb 0 0 zb)
 d01:c0≠c1
 d02:c0≠c2
 d12:c1≠c2
 l0:n0<=c0
 l1:n0<=c1
 l2:n0<=c2
abbrev rsS(x y z:zg)(h:F zg)(q:F SV)(u b7 w b12:Z):F Res:=
 [.blk 3 b12 44 (h.map .v),.blk 2 w 68 q,.blk 1 b7 44 [.v (.int .i64 0),.v (.int .i64 0),.v (.int .i64 0),.v (.slice zc 0 0),.v (.slice zc 0 0),.v (.slice zc 0 0),.v (.slice zc 0 0),.v (.slice zc 0 0)],.blk 0 u 26 [.v x,.v y,.v z]]
def Fr.keep(fr:Fr)(w:zp)(hk:fr.ok w)(S:F Z)(q:∀n∈S,n<w.heap.size):Fr:=⟨w,λn=>fr.pr n\/n∈S,fr.g0,λn h=>h.elim (λh=>zQ (fr.wf n h) hk.size) (q n)⟩
def qiZ{fr:Fr}{w}(hk:fr.ok w){S}(u:∀n∈S,n<w.heap.size):fr.le (Fr.keep fr w hk S u):=
 ⟨λA h=>⟨h.os.trans hk.os,h.tape.trans hk.tape,h.output.trans hk.output,zZ hk.size h.size,λn q=>(h.block n (.inl q)).trans (hk.block n q)⟩,λn h=>⟨.inl h,id⟩⟩
def q2W{fr:Fr}{hs}{w}(h:Aq fr hs w){S}(B:∀n∈S,n<w.heap.size)(hb:∀n∈S,n∉hs.bks/\¬hs.g.g n):Aq (Fr.keep fr w h.frm S B) hs w:=
 ⟨h.AJ,⟨rfl,rfl,rfl,zG _,λ_ _=>rfl⟩,h.res,h.nod,λn A=>⟨(h.fre n A).1,λq=>q.elim (h.fre n A).2 λhm=>(hb n hm).1 A⟩,λn q u=>q.elim (λq=>h.fz n q u) λhm=>absurd u (hb n hm).2,
  λn C u q=>q.elim (h.own n C u) λhm=>(hb n hm).2 u,h.low⟩
def qGV{rs:F Res}{w:zp}(q:∀r∈rs,r.holds w)(hb:∀r∈rs,∃id b ty cs,r=.blk id b ty cs){c cap:Z}{u:zR zg}{cl A:zM}{s t:Z}(hc:w.heap[c]?=O (.chan cap u cl s t A)):c∉rs.flatMap Res.bk:=λhm=>by
 obtain⟨r,h,hm⟩:=zBA.1 hm;obtain⟨id,b,ty,cs,rfl⟩:=hb r h;simp[Res.bk]at hm;subst hm;have:=(q _ h).1;rw[hc]at this;cases this
def Mg{E:Env X0}{fr:Fr}(aj:fr.has E){a:zDN}{w:zp}(ak:E.N<=w.heap.size){k:F Item}{cs:F zAt}{b:zAt}(hb:b.roundOf=zc){g':GW}{x y z vl:zg}{al:Wd}{q:F zg}{A:F SV}{B b7 C b12 lo:Z}{sl:Sl}(hW:rWo g' q al)(h2:AS sl 2=O (.v vl))(an:AS sl 7=O (.p 1 b7 0))(ao:AS sl 12=O (.p 3 b12 0))(hA:Stn 88 fr [] sl ⟨g',rsS x y z q A B b7 C b12,4,lo⟩ a w)(ap:∀c0 c1 c2 a' w' sl' D,fr.le D->D.pr c0->D.pr c1->D.pr c2->Lp w.heap.size c0 c1 c2 w'->AS sl' 2=O (.v vl)->AS sl' 7=O (.p 1 b7 0)->AS sl' 12=O (.p 3 b12 0)->AS sl' 13=O (.v (.chan (O c0)))->AS sl' 14=O (.v (.chan (O c1)))->AS sl' 15=O (.v (.chan (O c2)))->(∃u,AS sl' 49=O u/\Ae u=.agg ⟨q⟩)->AS sl' 50=O (.v (.chan (O c0)))->AS sl' 51=O (.v (.chan (O c1)))->AS sl' 52=O (.v (.chan (O c2)))->Stn 88 D [] sl' ⟨g',rsS x y z q A B b7 C b12,4,lo⟩ a' w'->E.G (G (b.atR a' (.inRegion q1I [4]::.code qpB::k)) cs) w'):E.G (G (b.atR a (.code qqI::k)) cs) w:=by
 have aq:J9 fr ⟨g',rsS x y z q A B b7 C b12,4,lo⟩ w.heap.size vl (Ae (.p 1 b7 0)) (Ae (.p 3 b12 0)) zc zc zc zb zb zb a w:=
  ⟨hA.size,hA.defers,hA.Au 2 _ h2,hA.Au 7 _ an,hA.Au 12 _ ao,hA.sim,zG _,nofun,nofun,nofun,nofun,nofun,nofun,nofun,nofun,nofun⟩
 have ar:=M5 (E:=E) (K:=λa' w'=>E.G (G (b.atR a' (.code qJE::k)) cs) w') ak (λc0 c1 c2 a' w' J=>?_) a w aq
 .refine qvA (x:=.region 9 IX I) (y:=qJE) ?_
  refine q2C (Q:=λe a' w'=>match e with
   |.normal=>E.G (G (b.atR a' (.code qJE::k)) cs) w'
   |_=>zV) hm (E:=E) (r:=zc) ar b (.code qJE::k) cs hb λe a' w' aa=>?_
  cases e with
  |normal=>exact aa
  |_=>exact aa.elim
 .obtain⟨_,au,av⟩:=J.a0 rfl;obtain⟨_,aw,ax⟩:=J.a1 rfl;obtain⟨_,ay,az⟩:=J.a2 rfl;cases au;cases aw;cases ay;obtain⟨_,M,ab⟩:=J.c0 c0 rfl;obtain⟨_,P,ac⟩:=J.c1 c1 rfl;obtain⟨_,R,ad⟩:=J.c2 c2 rfl;have T:∀{c:Z}{o:Obj},w'.heap[c]?=O o->c<w'.heap.size:=λU=>(zAg.1 U).1
  have H:∀n∈[c0,c1,c2],n<w'.heap.size:=by
   intro n h;simp only[zJ,zAd,zBh]at h;rcases h with rfl|rfl|rfl
   .exact T M
   .exact T P
   .exact T R
  have V:∀r∈rsS x y z q A B b7 C b12,∃id b aA cs,r=.blk id b aA cs:=by
   intro r ae;simp only[rsS,zJ,zAd,zBh]at ae;rcases ae with rfl|rfl|rfl|rfl<;>exact⟨_,_,_,_,rfl⟩
  have W:∀n,w.heap.size<=n->¬g'.g n:=λn h aB=>by have:=g'.wf n aB;have:=hA.sim.AJ.1;simp only at this;omega
  have aC:=q2W J.sim H (by
   intro n h;simp only[zJ,zAd,zBh]at h;rcases h with rfl|rfl|rfl
   .exact⟨qGV J.sim.res V M,W _ ab⟩
   .exact⟨qGV J.sim.res V P,W _ ac⟩
   .exact⟨qGV J.sim.res V R,W _ ad⟩)
  have af:=qiZ J.sim.frm H
  have aD:Stn 88 (Fr.keep fr w' J.sim.frm [c0,c1,c2] H) [] [(2,.v vl),(7,.p 1 b7 0),(12,.p 3 b12 0),(13,.v (.chan (O c0))),(14,.v (.chan (O c1))),(15,.v (.chan (O c2)))] ⟨g',rsS x y z q A B b7 C b12,4,lo⟩ a' w':=by
   refine⟨J.size,J.defers,λn u L=>?_,aC⟩;simp only[AS]at L
   repeat' split at L
   all_goals first|(cases L;done)|skip
   all_goals(rename_i aE;obtain rfl:=zP aE;obtain rfl:=zv L)
   .exact J.t2
   .exact J.t7
   .exact J.t12
   .exact av
   .exact ax
   .exact az
  obtain⟨_,_,_,_,_,rfl,_,aF,aG,aH,aI,aJ⟩:=hW;obtain⟨_,_,rfl,_⟩:=id aF;obtain⟨_,_,rfl,_⟩:=id aG;obtain⟨_,_,rfl,_⟩:=id aH;obtain⟨_,_,rfl,_⟩:=id aI;obtain⟨_,_,rfl,_⟩:=id aJ;have ag:=aj.up af;refine qvA (x:=.region 10 q1I zb) (y:=qpB) (.quiet rfl (λ_=>qIC) ?_);refine qRB (τ:=[0,1,2,3]) (rest:=[4]) ag ((qaA E).snd _ ag) si aD (K:=λsl' aK=>∀a' w',Stn 88 (Fr.keep fr _ J.sim.frm [c0,c1,c2] H) [] sl' aK a' w'->E.G (G (b.atR a' (.inRegion q1I [4]::.code qpB::k)) cs) w') (zq ?_) (λ_ _ a' w' U aL=>U a' w' aL);intros;intro aM ah ai;have Y:∀n∈[c0,c1,c2],ah.heap[n]?=w'.heap[n]?:=λn h=>ai.sim.frm.block n (.inr h);exact ap c0 c1 c2 aM ah _ _ af (.inr sd) (.inr sd) (.inr sd) ⟨(Y c0 sd).trans M,(Y c1 sd).trans P,(Y c2 sd).trans R,J.d01 _ _ rfl rfl,J.d02 _ _ rfl rfl,J.d12 _ _ rfl rfl,ab,ac,ad⟩ rfl rfl rfl rfl rfl rfl ⟨_,rfl,rfl⟩ rfl rfl rfl ai
end Go.Proofs.YtlmhpamhhgogaaaGreat
namespace Go.Proofs.YtlmhpamhhgogaaaGreat
open Go.Conc (G born parked)
open Go.Proofs.YtlmhpamhhgogaaaGreat.Sx Go.Duo Go.RowKit
def qYP(h:zg)(c0 c1 c2:Z):Deferred:={target:=.fn (.func 29) #[],args:=#[h,.chan (O c0),.chan (O c1),.chan (O c2)]}
def qET{a:zDN}{w:zp}{b:zAt}{k:F Item}{cs:F zAt}{vW:zg}{c0 c1 c2:Z}(hb:b.roundOf=zc)(hk:b.kind≠.early)(h49:a.tmps[49]?=O vW)(h50:a.tmps[50]?=O (.chan (O c0)))(h51:a.tmps[51]?=O (.chan (O c1)))(h52:a.tmps[52]?=O (.chan (O c2))):zAE X0 I (G (b.atR a (.inRegion q1I [4]::k)) cs) w=.spawn (G (b.atR a (.inRegion q1I []::k)) cs) (born X0 (qYP vW c0 c1 c2)) w #[]:=by
 rw[Frame.atR_of_none hb,Frame.atR_of_none hb];have e49:=qFA h49;have e50:=qFA h50;have e51:=qFA h51;have e52:=qFA h52;obtain⟨o,ats,ho,hg,hd,hop⟩:∃o ats,q1I[4]?=O o/\o.guard=zc/\o.dst=zc/\o.op=.go {callee:=.value (.func 29),args:=#[.tmp 49,.tmp 50,.tmp 51,.tmp 52],argTypes:=ats}:=⟨_,_,rfl,rfl,rfl,rfl⟩
 have hr:∀w,(zy a.eval o).run X0 w=.ok (.spawn (qYP vW c0 c1 c2)) w/\(zy a.eval o).events X0 w #[]=#[]:=by
  intro w;unfold zy;simp only[hop];simp[go_sem,resolve,zBH,e49,e50,e51,e52,qYP,Act.eval];simp only[Act.eval]at e49 e50 e51 e52;simp_all
 have:=Go.Conc.stepG_spawn (P:=X0) (main:=I) (b:=b) (k:=k) (cs:=cs) (rest:=[]) ho (by simp[zAs,hg]) hk (hr w).1 rfl;rw[hd,Go.Conc.listed_none (hr w).2]at this;exact this
end Go.Proofs.YtlmhpamhhgogaaaGreat
namespace Go.Proofs.YtlmhpamhhgogaaaGreat
open Go.Conc (G born parked rcase AtIn Sits Seat)
open Go.Proofs.YtlmhpamhhgogaaaGreat.Sx Go.Duo Go.RowKit
noncomputable def qqN:zDT:=(Tryz.f29.body).getD .skip
def bV:zAt:={(default:zAt)with fn:=29,kind:=.deferred,roundOf:=zc}
noncomputable def BM:zAt:={(default:zAt)with fn:=X0.funcs.size,defers:=[],mode:=.panicking [goexitEntry]}
def a0V(h:zg)(c0 c1 c2:Z):zDN:=⟨#[h,.chan (O c0),.chan (O c1),.chan (O c2)]++zAU 37 zAX,[]⟩
def qdc(vW)(c0 c1 c2)(w):zAE X0 zb (born X0 (qYP vW c0 c1 c2)) w=.go (G (bV.atR (a0V vW c0 c1 c2) [.code qqN]) [BM]) w #[]:=by
 have he:zAW X0 29 #[vW,.chan (O c0),.chan (O c1),.chan (O c2)] .deferred=bV.atR (a0V vW c0 c1 c2) [.code qqN]:=by
  simp[zAW,zAQ,Tryz.func29,bV,a0V,qqN];rfl
 rw[<-he];have hnm:(Tryz.f29.name== "runtime.NumGoroutine")=zb:=se
 have hbd:Tryz.f29.body.isNone=zb:=sy
 have hi:∀w,(callFunc 29 #[vW,.chan (O c0),.chan (O c1),.chan (O c2)]).run X0 w=.ok (.enter 29 #[vW,.chan (O c0),.chan (O c1),.chan (O c2)]) w/\(callFunc 29 #[vW,.chan (O c0),.chan (O c1),.chan (O c2)]).events X0 w #[]=#[]:=λw=>by
  unfold callFunc;simp[Tryz.func29,Sem.run,hnm,hbd,<-beq_iff_eq,-beq_iff_eq];have hbn:Tryz.f29.body≠zc:=λh=>by rw[h]at hbd;cases hbd
  exact⟨λh=>absurd h hbn,λh=>absurd h hbn⟩
 simp[born,qYP,zAE,unwind,callDeferred,invoke,zBs,(hi w).1,(hi w).2,zBF,G,BM,seen]
noncomputable def IW:zR zDO:=Gv (hdC qqN)
noncomputable def qHK:zDT:=tlC qqN
def qIa{P}(t)(v)(w):(Instr.box t v).run P w=.ok (.pointer (O ⟨w.heap.size,0,zc⟩)) (w.alloc (.cells v.cells t))/\(Instr.box t v).events P w #[]=#[]:=by
 constructor
 .simp[Instr.box,newVar,newRow]
 .simp[Instr.box,newVar,newRow]
def oV(h:zg):Obj:=.cells h.cells 44
def qWa(h)(c0 c1 c2):(a0V h c0 c1 c2).tmps[0]?=O h/\(a0V h c0 c1 c2).tmps[1]?=O (.chan (O c0))/\(a0V h c0 c1 c2).tmps[2]?=O (.chan (O c1))/\(a0V h c0 c1 c2).tmps[3]?=O (.chan (O c2)):=by simp[a0V]
def a1V(h:zg)(c0 c1 c2 N:Z):zDN:=(a0V h c0 c1 c2).put (O 4) (.pointer (O ⟨N,0,zc⟩))
def MO{S}{k'}(vW)(c0 c1 c2 N)(h:zDU X0 zb TrK NoS 0 S k' (G (bV.atR (a1V vW c0 c1 c2 N) [.inRegion IW [],.code qHK]) [BM])):Pre X0 N (oV vW) S k' 3 (born X0 (qYP vW c0 c1 c2)):=by
 refine⟨rfl,_,λw=>qdc vW c0 c1 c2 w,rfl,_,λw=>(q5B (x:=.region 0 IW zb) (y:=qHK)).2 w,rfl,_,λw=>AP.2 w,?_⟩;refine⟨rfl,_,λw hw=>?_,h⟩;obtain⟨o,ho,hg,hd,hop⟩:∃o,IW[0]?=O o/\o.guard=zc/\o.dst=O 4/\o.op=.box 44 (.tmp 0):=⟨_,rfl,rfl,rfl,rfl⟩
 have he:o.semAt bV.roundOf (a0V vW c0 c1 c2).eval=(do pure (.value (<-Instr.box 44 vW))):=by
  have:=qFA (qWa vW c0 c1 c2).1;simp[Oper.semAt,zy,hop,this,bV]
 have hr:(o.semAt bV.roundOf (a0V vW c0 c1 c2).eval).run X0 w=.ok (.value (.pointer (O ⟨N,0,zc⟩))) (w.alloc (oV vW)):=by
  rw[he,zAa,(qIa 44 vW w).1,hw];rfl
 have hev:(o.semAt bV.roundOf (a0V vW c0 c1 c2).eval).events X0 w #[]=#[]:=by
  rw[he];simp[Instr.box,newVar,newRow]
 have hrange:zBf IW.size=[0]:=rfl;rw[hrange,qkL ho (by simp[zAs,hg]),q0C hr,qzO hev,zBe,ho];simp only[zCQ,hd];rfl
structure Hw(vg:zg)(c0 c1 c2 N:Z)(a:zDN):Prop where
 size:a.tmps.size=41
 t1:a.tmps[1]?=O (.chan (O c0))
 t2:a.tmps[2]?=O (.chan (O c1))
 t3:a.tmps[3]?=O (.chan (O c2))
 t4:a.tmps[4]?=O (.pointer (O ⟨N,0,zc⟩))
 t8:a.tmps[8]?=O vg
 t15:a.tmps[15]?=O (.chan (O c0))
 defers:∃d1 d2:Deferred,a.defers=[d1,d2]/\(∃ats t cs,d1.target=.builtin .close ats t cs)/\d1.args=#[.chan (O c1)]/\(∃ats t cs,d2.target=.builtin .close ats t cs)/\d2.args=#[.chan (O c2)]
noncomputable def qGK:zDT:=tlC (tlC (tlC qHK))
def GX:zDT->zDT
 |.block _ c=>c
 |c=>c
def qDM:zDT->zDT
 |.loop c=>c
 |c=>c
noncomputable def qVM:zDT:=qDM (GX (tlC (hdC qGK)))
noncomputable def HP:zR zDO:=Gv (hdC qVM)
noncomputable def qeK:F Item:=[.code (tlC qVM),.inLoop qVM,.inBlock 0,.code (tlC qGK)]
noncomputable def F3(a:zDN):zH:=G (bV.atR a (.inRegion HP [0,1]::qeK)) [BM]
def qHM(h:zg)(c0 c1 c2 N:Z)(g:zH):Prop:=∃a,Hw h c0 c1 c2 N a/\g=F3 a
def qDW{P}{ρ}{o}{t e n}{u:ChanDir}{c}{z}(hop:o.op=.recv t (.tmp n) I)(A:ρ (.tmp n)=.chan (O c))(q:P.underlying t=O (.chan u e))(h:∀w,(zAZ e).run P w=.ok z w/\(zAZ e).events P w #[]=#[]):∀w,(zy ρ o).run P w=.ok (.comm #[zAR c z] I (.recv I)) w/\(zy ρ o).events P w #[]=#[]:=by
 intro w;unfold zy;simp only[hop,A];constructor
 .simp[zAa,zN q,zAo,zAR,(h w).1]
 .simp[go_sem,zN q,zBJ,(h w).1,(h w).2]
def NC{vg z}{c0 c1 c2 N}{a}(hA:Hw vg c0 c1 c2 N a){e}{dir:ChanDir}(ht:X0.underlying 167=O (.chan dir e))(hz:∀w,(zAZ e).run X0 w=.ok z w/\(zAZ e).events X0 w #[]=#[]):AtIn X0 zb TrK NoS 0 (Seat.one c0 z I (qHM vg c0 c1 c2 N)) (F3 a) (F3 a):=by
 obtain⟨o,ho,hg,hop⟩:∃o,HP[0]?=O o/\o.guard=zc/\o.op=.recv 167 (.tmp 15) I:=⟨_,rfl,rfl,rfl⟩;have hr:=qDW (P:=X0) (ρ:=a.eval) hop (qFA hA.t15) ht hz;have e:F3 a=G (bV.at a (.inRegion HP (0::[1])::qeK)) [BM]:=by unfold F3;rw[Frame.atR_of_none rfl]
 rw[e];exact Go.Conc.atIn_of (s:=Seat.one c0 z I (qHM vg c0 c1 c2 N)) ho (by simp[zAs,hg]) (by simp[bV]) (λw=>(hr w).1) (λw=>(hr w).2) ⟨a,hA,e.symm⟩
def q5a{z}(vW)(c0 c1 c2 N){e}{dir:ChanDir}(ht:X0.underlying 167=O (.chan dir e))(hz:∀w,(zAZ e).run X0 w=.ok z w/\(zAZ e).events X0 w #[]=#[]):∃n,Quiet X0 (λg=>∃g₂,AtIn X0 zb TrK NoS 0 (Seat.one c0 z I (qHM (.slice zc 0 0) c0 c1 c2 N)) g g₂) n (G (bV.atR (a1V vW c0 c1 c2 N) [.inRegion IW [],.code qHK]) [BM]):=by
 have e3:(a1V vW c0 c1 c2 N).eval (.tmp 3)=.chan (O c2):=qFA (by simp[a1V,a0V,zBg]);refine qsA qNA ?_;unfold qHK qqN Tryz.f29;simp only[zAM,tlC];refine qsA q5B (qsA AP ?_);refine qsA (qzG rfl sy rfl (.inl rfl) rfl e3) ?_;refine qsA (qya rfl sy rfl rfl rfl rfl rfl (v:=.chan (O c2)) (qFA (by simp[a1V,a0V,zBg]))) ?_;refine qsA qNA ?_;refine qsA q5B (qsA AP ?_);refine qsA (qzG rfl sy rfl (.inl rfl) rfl (v:=.chan (O c1)) (qFA (by simp[a1V,a0V,zBg]))) ?_;refine qsA (qya rfl sy rfl rfl rfl rfl rfl (v:=.chan (O c1)) (qFA (by simp[a1V,a0V,zBg]))) ?_;refine qsA qNA ?_;refine qsA q5B (qsA AP ?_);refine qsA (qzG rfl sy rfl (.inr rfl) rfl (v:=.slice zc 0 0) rfl) ?_;refine qsA qNA ?_;refine qsA q5B (qsA q5B (qsA AP ?_));refine qsA (qzG rfl sy rfl (.inl rfl) rfl (v:=.chan (O c0)) (qFA (by simp[a1V,a0V,zBg]))) ?_;refine qsA qNA ?_;refine qsA qwE (qsA qXO (qsA q5B (qsA AP ?_)));refine⟨0,_,NC (a:=_) ?_ ht hz⟩;refine⟨by simp[a1V,a0V,zBg],?_,?_,?_,?_,?_,?_,⟨_,_,rfl,⟨_,_,_,rfl⟩,rfl,⟨_,_,_,rfl⟩,rfl⟩⟩
 all_goals simp[a1V,a0V,zBg,zBr]
def qjP{P}{t}{i:TypeInfo}{z}(h:P.info? t=O i)(q:i.zero=O z):∀w,(zAZ t).run P w=.ok z w/\(zAZ t).events P w #[]=#[]:=λw=>by
 constructor<;>simp[zAZ,typeInfo,h,q,zAo,zBJ]
def chZ(t)(h:((X0.underlying t).bind λd=>match d with
  |.chan _ e=>((X0.info? e).bind λi=>i.zero).map λ_=>I
  |_=>zc)=O I):∃u e z,X0.underlying t=O (.chan u e)/\∀w,(zAZ e).run X0 w=.ok z w/\(zAZ e).events X0 w #[]=#[]:=by
 simp only[zAD]at h;obtain⟨d,A,h⟩:=h;split at h
 .obtain⟨z,q,_⟩:=zU.1 h;obtain⟨i,B,q⟩:=zAD.1 q;exact⟨_,_,z,A,qjP B q⟩
 .cases h
def qRU{P}{t size}{a}(hs:qQB P t=O size)(ha:BP P t=O I){w}(hc:∀j,j<size->(w.cell? (a.add j)).isSome):∀e∈(zBv t (.pointer (O a))).events P w #[],e.readsIn (·=a.block):=by
 intro e q
 have A:(isAgg t).events P w #[]=#[]:=by
  simp only[isAgg,underlying];cases u:P.underlying t with
  |none=>simp[u]
  |some d=>cases d<;>simp[u]
 have B:(sizeOf t).events P w #[]=#[]:=by simp[sizeOf,typeInfo];split<;>simp
 have:(zBv t (.pointer (O a))).events P w #[]=(loadCells a size).events P w #[]:=by
  simp[zBv,Instr.sureAddr,loadVar,Sem.events_bind,q1L ha,A,qwA hs,B,zBJ]
 rw[this]at q;rcases events_loadCellsFrom_at a (·=a.block) rfl size 0 #[] w #[] (λj C=>by simpa using hc j C) e q with h|h
 .simp at h
 .exact h
def qIS{b B}(u:b<B){e}(h:e.readsIn (·=b)):Go.Conc.EvHd NoS B e:=by
 obtain⟨A,q,_,rfl⟩:=h;obtain⟨C,wr,D⟩:=e;simp only at q;subst q;exact⟨λ_ _ w=>w.elim,sd,sd,u⟩
def q1O{P}{ρ}{o}{n:Z}{t}{e}{oa}{k cap:Z}(hop:o.op=.call {callee:=.builtin .len,args:=#[.tmp n],argTypes:=#[t]})(h:ρ (.tmp n)=.slice oa k cap)(q:P.underlying t=O (.slice e)):∀w,(zy ρ o).run P w=.ok (.value (.int .i64 k)) w/\(zy ρ o).events P w #[]=#[]:=by
 intro w;unfold zy;simp only[hop];constructor
 .simp[go_sem,resolve,h,q]
 .simp[go_sem,resolve,h,q]
def qZZ{P:zt}{ρ:Operand->zg}{o:zDO}{n m:Z}{t:zAy}{x y:zn}{h k2:zAy}(hop:o.op=.binOp .lss h (.tmp n) (.tmp m) k2)(q:ρ (.tmp n)=.int .i64 x)(u:ρ (.tmp m)=.int .i64 y):∀w,(zy ρ o).run P w=.ok (.value (.bool (decide (x<y)))) w/\(zy ρ o).events P w #[]=#[]:=by
 intro w;unfold zy;simp only[hop,q,u];constructor
 .simp[go_sem]
 .simp[go_sem]
def qlZ{P}{ρ}{o}{n m}{t e}{al}{k cap i size}(hop:o.op=.indexAddr t (.tmp n) (.tmp m))(u:ρ (.tmp n)=.slice (O al) k cap)(A:ρ (.tmp m)=.int .i64 i)(h:i<k)(q:P.underlying t=O (.slice e))(hs:qQB P e=O size):∀w,(zy ρ o).run P w=.ok (.value (.pointer (O (al.add (i*size))))) w/\(zy ρ o).events P w #[]=#[]:=by
 intro w;unfold zy;simp only[hop,u,A];constructor
 .simp[go_sem,Instr.indexAt,h];simp[zN q,zAo,h,qwA hs]
 .have B:(sizeOf e).events P w #[]=#[]:=by simp[sizeOf,typeInfo];split<;>simp
  simp[go_sem,Instr.indexAt,h];simp[zN q,zAo,zBJ,h,qwA hs,B]
end Go.Proofs.YtlmhpamhhgogaaaGreat
namespace Go.Proofs.YtlmhpamhhgogaaaGreat
open Go.Conc (G born parked rcase scase AtIn Sits Seat)
open Go.Proofs.YtlmhpamhhgogaaaGreat.Sx Go.Duo Go.RowKit
structure BI(vl va:zg)(p7 p12:zAH)(c0 c1 c2:Z)(a:zDN):Prop where
 size:a.tmps.size=88
 t2:a.tmps[2]?=O vl
 t7:a.tmps[7]?=O (.pointer (O p7))
 t12:a.tmps[12]?=O (.pointer (O p12))
 t13:a.tmps[13]?=O (.chan (O c0))
 t14:a.tmps[14]?=O (.chan (O c1))
 t15:a.tmps[15]?=O (.chan (O c2))
 t16:a.tmps[16]?=O va
 defers:a.defers=[]
def BI.put{vl q}{u w}{c0 c1 c2}{a}(h:BI vl q u w c0 c1 c2 a){d}(hd:d≠2/\d≠7/\d≠12/\d≠13/\d≠14/\d≠15/\d≠16)(v):BI vl q u w c0 c1 c2 (a.put (O d) v):=
 ⟨by simp[zBg,h.size],by rw[qGA hd.1];exact h.t2,by rw[qGA hd.2.1];exact h.t7,by rw[qGA hd.2.2.1];exact h.t12,by rw[qGA hd.2.2.2.1];exact h.t13,by rw[qGA hd.2.2.2.2.1];exact h.t14,by rw[qGA hd.2.2.2.2.2.1];exact h.t15,by rw[qGA hd.2.2.2.2.2.2];exact h.t16,h.defers⟩
noncomputable def qlH:zDT:=qDM (GX (hdC (tlC qpB)))
noncomputable def q8B:zDT:=tlC (tlC qpB)
noncomputable def qRE(k:F Item):F Item:=.inLoop qlH::.inBlock 1::.code q8B::k
def qca{B:Z}{K:zp->Prop}{Stop:zH->Prop}{a:zDN}{b:zAt}{k:F Item}{cs:F zAt}(hb:b.roundOf=zc){vl v16:zg}{p7 p12:zAH}{c0 c1 c2:Z}(h16:16<a.tmps.size)(hA:∀v,BI vl v p7 p12 c0 c1 c2 (a.put (O 16) v))(h:∀a',BI vl (.slice zc 0 0) p7 p12 c0 c1 c2 a'->∃n,Go.Duo.Way X0 B K Stop n (G (b.atR a' (.code qlH::qRE k)) cs)):∃n,Go.Duo.Way X0 B K Stop n (G (b.atR a (.inRegion q1I []::.code qpB::k)) cs):=by
 refine qZA qNA (qZA (q5B (x:=hdC qpB) (y:=tlC qpB)) ?_);refine qZA (AP (id:=11) (ops:=Gv (hdC qpB))) ?_;refine qZA (qzG hb (o:={dst:=O 16,op:=Op.assign (.const (.slice zc 0 0)),type:=38,pos:= "serve.go:48",after:=#[],guard:=zc}) sy rfl (.inr rfl) rfl (v:=.slice zc 0 0) rfl) ?_;refine qZA qNA (qZA (q5B (x:=hdC (tlC qpB)) (y:=q8B)) ?_);refine qZA (qwE (id:=1) (c:=.loop qlH)) (qZA qXO ?_);exact h _ (hA _)
def slT(t)(h:((X0.underlying t).bind λd=>match d with
  |.slice _=>O I
  |_=>zc)=O I):∃e,X0.underlying t=O (.slice e):=by
 obtain⟨d,q,h⟩:=zAD.1 h;split at h
 .exact⟨_,q⟩
 .cases h
noncomputable def qzH:zDT:=GX (tlC qlH)
noncomputable def Hr:zR zDO:=Gv (hdC (hdC qlH))
noncomputable def CH:zR zDO:=Gv (hdC qzH)
def BI.get{vl q}{u w}{c0 c1 c2}{a}(h:BI vl q u w c0 c1 c2 a){d}(hd:d<88)(v):(a.put (O d) v).tmps[d]?=O v:=q4D (by rw[h.size];exact hd)
def qkS{B:Z}{K:zp->Prop}{Stop:zH->Prop}{a:zDN}{b:zAt}{k:F Item}{cs:F zAt}(hb:b.roundOf=zc){ol oa:zs zAH}{L i cl ca:Z}{p7 p12:zAH}{c0 c1 c2:Z}(hA:BI (.slice ol L cl) (.slice oa i ca) p7 p12 c0 c1 c2 a)(h:∀a',BI (.slice ol L cl) (.slice oa i ca) p7 p12 c0 c1 c2 a'->∃n,Go.Duo.Way X0 B K Stop n (G (b.atR a' (.code (if decide ((i:zn)<L)then .skip else .exit 1)::.code (tlC qlH)::qRE k)) cs)):∃n,Go.Duo.Way X0 B K Stop n (G (b.atR a (.code qlH::qRE k)) cs):=by
 refine qZA (q5B (x:=hdC qlH) (y:=tlC qlH)) (qZA (q5B (x:=hdC (hdC qlH)) (y:=tlC (hdC qlH))) (qZA (AP (id:=12) (ops:=Hr)) ?_));have hr:zBf Hr.size=[0,1,2,3,4]:=rfl;rw[hr];obtain⟨o0,g0,n0,d0,p0⟩:∃o,Hr[0]?=O o/\o.guard=zc/\o.dst=O 53/\o.op=.move (.tmp 16):=⟨_,rfl,rfl,rfl,rfl⟩;obtain⟨o1,g1,n1,d1,p1⟩:∃o,Hr[1]?=O o/\o.guard=zc/\o.dst=O 54/\o.op=.call {callee:=.builtin .len,args:=#[.tmp 53],argTypes:=#[38]}:=⟨_,rfl,rfl,rfl,rfl⟩;obtain⟨o2,g2,n2,d2,p2⟩:∃o,Hr[2]?=O o/\o.guard=zc/\o.dst=O 55/\o.op=.move (.tmp 2):=⟨_,rfl,rfl,rfl,rfl⟩;obtain⟨o3,g3,n3,d3,p3⟩:∃o,Hr[3]?=O o/\o.guard=zc/\o.dst=O 56/\o.op=.call {callee:=.builtin .len,args:=#[.tmp 55],argTypes:=#[27]}:=⟨_,rfl,rfl,rfl,rfl⟩;obtain⟨o4,g4,n4,d4,p4⟩:∃o,Hr[4]?=O o/\o.guard=zc/\o.dst=O 57/\o.op=.binOp .lss 3 (.tmp 54) (.tmp 56) 3:=⟨_,rfl,rfl,rfl,rfl⟩;have h38:∃e,X0.underlying 38=O (.slice e):=slT 38 se;have h27:∃e,X0.underlying 27=O (.slice e):=slT 27 se;obtain⟨e38,h38⟩:=h38;obtain⟨e27,h27⟩:=h27;refine qZA (qzG hb g0 n0 (.inl p0) d0 (qFA hA.t16)) ?_;have A0:=hA.put (d:=53) sb (.slice oa i ca);refine qZA (qpM hb g1 n1 (q1O p1 (qFA (hA.get sb _)) h38)) ?_;rw[d1];have A1:=A0.put (d:=54) sb (.int .i64 i);refine qZA (qzG hb g2 n2 (.inl p2) d2 (qFA A1.t2)) ?_;have A2:=A1.put (d:=55) sb (.slice ol L cl);refine qZA (qpM hb g3 n3 (q1O p3 (qFA (A1.get sb _)) h27)) ?_;rw[d3];have A3:=A2.put (d:=56) sb (.int .i64 L);refine qZA (qpM hb g4 n4 (qZZ (t:=0) (x:=i) (y:=L) p4 (qFA (by rw[qGA sb,qGA sb];exact A0.get sb _)) (qFA (A2.get sb _)))) ?_;rw[d4];have A4:=A3.put (d:=57) sb (.bool (decide ((i:zn)<L)));refine qZA qNA (qZA (q0G (n:=57) (x:=.skip) (y:=.exit 1) (A3.get sb _)) ?_);exact h _ A4
def qfP(a:zAH)(n:Z):(a.add n).block=a.block:=by unfold Addr.add;split<;>rfl
def qyW{P}{ρ}{o}{n t size B}{a}{ec}{w}(hop:o.op=.load t (.tmp n))(C:ρ (.tmp n)=.pointer (O a))(hs:qQB P t=O size)(ha:BP P t=O I)(hl:ec.length=size)(h:∀j u,ec[j]?=O u->w.cell? (a.add j)=O u)(D:a.block<B):(zy ρ o).run P w=.ok (.value (.agg ⟨ec⟩)) w/\∀e∈(zy ρ o).events P w #[],Go.Conc.EvHd NoS B e:=by
 have e:zy ρ o=(do pure (.value (<-zBv t (.pointer (O a))))):=by unfold zy;simp only[hop,C]
 have q:(zBv t (.pointer (O a))).run P w=.ok (.agg ⟨ec⟩) w:=by
  simp[zBv,Instr.sureAddr,(qnB hs ha (w:=w) (a:=a)).2 ec rfl hl h]
 rw[e];refine⟨by rw[zAa,q];rfl,λev A=>?_⟩
 have E:(do pure (Next.value (<-zBv t (.pointer (O a)))):Sem Next).events P w #[]=(zBv t (.pointer (O a))).events P w #[]:=by
  simp[Sem.events_bind,q,zBJ]
 rw[E]at A
 exact qIS D (qRU hs ha (λj H=>by
  have:ec[j]?=O ec[j]:=zAe sa
  rw[h j _ this];rfl) ev A)
def qpP{B:Z}{K:zp->Prop}{Stop:zH->Prop}{a:zDN}{b:zAt}{k:F Item}{cs:F zAt}(hb:b.roundOf=zc){al:zAH}{oa:zs zAH}{L i cl ca:Z}{p7 p12:zAH}{c0 c1 c2:Z}(hi:i<L){ec:F zg}(hec:ec.length=10)(hB:al.block<B)(hrd:∀w,K w->∀j u,ec[j]?=O u->w.cell? ((al.add (i*10)).add j)=O u)(hs27:∃e,X0.underlying 27=O (.slice e)/\qQB X0 e=O 10)(h51:qQB X0 51=O 10/\BP X0 51=O I)(hA:BI (.slice (O al) L cl) (.slice oa i ca) p7 p12 c0 c1 c2 a)(h:∀a',BI (.slice (O al) L cl) (.slice oa i ca) p7 p12 c0 c1 c2 a'->a'.tmps[58]?=O (.chan (O c0))->a'.tmps[63]?=O (.agg ⟨ec⟩)->Stop (G (b.atR a' (.inRegion CH [6]::.code (tlC qzH)::.inBlock 2::qRE k)) cs)):∃n,Go.Duo.Way X0 B K Stop n (G (b.atR a (.code qlH::qRE k)) cs):=by
 refine qkS hb hA λa hA=>?_;rw[show decide ((i:zn)<L)=I from zC sa];refine qZA qCT (qZA (qwE (id:=2) (c:=qzH)) (qZA (q5B (x:=hdC qzH) (y:=tlC qzH)) (qZA (AP (id:=13) (ops:=CH)) ?_)));have hr:zBf CH.size=[0,1,2,3,4,5,6]:=rfl;rw[hr];obtain⟨o0,g0,n0,d0,p0⟩:∃o,CH[0]?=O o/\o.guard=zc/\o.dst=O 58/\o.op=.move (.tmp 13):=⟨_,rfl,rfl,rfl,rfl⟩;obtain⟨o1,g1,n1,d1,p1⟩:∃o,CH[1]?=O o/\o.guard=zc/\o.dst=O 59/\o.op=.move (.tmp 2):=⟨_,rfl,rfl,rfl,rfl⟩;obtain⟨o2,g2,n2,d2,p2⟩:∃o,CH[2]?=O o/\o.guard=zc/\o.dst=O 60/\o.op=.move (.tmp 16):=⟨_,rfl,rfl,rfl,rfl⟩;obtain⟨o3,g3,n3,d3,p3⟩:∃o,CH[3]?=O o/\o.guard=zc/\o.dst=O 61/\o.op=.call {callee:=.builtin .len,args:=#[.tmp 60],argTypes:=#[38]}:=⟨_,rfl,rfl,rfl,rfl⟩;obtain⟨o4,g4,n4,d4,p4⟩:∃o,CH[4]?=O o/\o.guard=zc/\o.dst=O 62/\o.op=.indexAddr 27 (.tmp 59) (.tmp 61):=⟨_,rfl,rfl,rfl,rfl⟩;obtain⟨o5,g5,n5,d5,p5⟩:∃o,CH[5]?=O o/\o.guard=zc/\o.dst=O 63/\o.op=.load 51 (.tmp 62):=⟨_,rfl,rfl,rfl,rfl⟩;obtain⟨e38,h38⟩:=slT 38 se;obtain⟨e27,h27,hz27⟩:=hs27;refine qZA (qzG hb g0 n0 (.inl p0) d0 (qFA hA.t13)) ?_;have A0:=hA.put (d:=58) sb (.chan (O c0));refine qZA (qzG hb g1 n1 (.inl p1) d1 (qFA A0.t2)) ?_;have A1:=A0.put (d:=59) sb (.slice (O al) L cl);refine qZA (qzG hb g2 n2 (.inl p2) d2 (qFA A1.t16)) ?_;have A2:=A1.put (d:=60) sb (.slice oa i ca);refine qZA (qpM hb g3 n3 (q1O p3 (qFA (A1.get sb _)) h38)) ?_;rw[d3];have A3:=A2.put (d:=61) sb (.int .i64 i);refine qZA (qpM hb g4 n4 (qlZ p4 (qFA (by rw[qGA sb,qGA sb];exact A0.get sb _)) (qFA (A2.get sb _)) hi h27 hz27)) ?_;rw[d4];have A4:=A3.put (d:=62) sb (.pointer (O (al.add (i*10))));refine qoV hb g5 n5 (v:=.agg ⟨ec⟩) (λw hw=>?_) ?_
 .exact qyW p5 (qFA (A3.get sb _)) h51.1 h51.2 hec (hrd w hw) (by rw[qfP];exact hB)
 rw[d5];have A5:=A4.put (d:=63) sb (.agg ⟨ec⟩);exact⟨0,h _ A5 (by rw[qGA sb,qGA sb,qGA sb,qGA sb,qGA sb];exact hA.get sb _) (A4.get sb _)⟩
noncomputable def Gm:zR zDO:=Gv (hdC q8B)
def qjS{B:Z}{K:zp->Prop}{Stop:zH->Prop}{a:zDN}{b:zAt}{k:F Item}{cs:F zAt}(hb:b.roundOf=zc){ol oa:zs zAH}{L i cl ca:Z}{p7 p12:zAH}{c0 c1 c2:Z}(hi:L<=i)(hA:BI (.slice ol L cl) (.slice oa i ca) p7 p12 c0 c1 c2 a)(h:∀a',BI (.slice ol L cl) (.slice oa i ca) p7 p12 c0 c1 c2 a'->a'.tmps[69]?=O (.chan (O c0))->Stop (G (b.atR a' (.inRegion Gm [1]::.code (tlC q8B)::k)) cs)):∃n,Go.Duo.Way X0 B K Stop n (G (b.atR a (.code qlH::qRE k)) cs):=by
 refine qkS hb hA λa hA=>?_;rw[show decide ((i:zn)<L)=zb from zE sa];refine qZA (qZY (id:=1) (k':=.code q8B::k) (by simp[exitTo,qRE])) ?_;refine qZA (q5B (x:=hdC q8B) (y:=tlC q8B)) (qZA (AP (id:=15) (ops:=Gm)) ?_);have hr:zBf Gm.size=[0,1]:=rfl;rw[hr];obtain⟨o0,g0,n0,d0,p0⟩:∃o,Gm[0]?=O o/\o.guard=zc/\o.dst=O 69/\o.op=.move (.tmp 13):=⟨_,rfl,rfl,rfl,rfl⟩;refine qZA (qzG hb g0 n0 (.inl p0) d0 (qFA hA.t13)) ?_;exact⟨0,h _ (hA.put (d:=69) sb (.chan (O c0))) (hA.get sb _)⟩
def q9Q{a:zDN}{b:zAt}{k:F Item}{cs:F zAt}(hb:b.roundOf=zc)(hk:b.kind≠.early){c0:Z}{v:zg}(h58:a.tmps[58]?=O (.chan (O c0)))(h63:a.tmps[63]?=O v)(w:zp):zAE X0 I (G (b.atR a (.inRegion CH [6]::k)) cs) w=.comm (G (b.atR a (.inRegion CH [6]::k)) cs) #[scase c0 v (.tuple #[])] I .send w #[]/\Go.Conc.served (G (b.atR a (.inRegion CH [6]::k)) cs) zAX=G (b.atR a (.inRegion CH []::k)) cs:=by
 obtain⟨o,ho,hg,hd,hop⟩:∃o,CH[6]?=O o/\o.guard=zc/\o.dst=zc/\o.op=.send (.tmp 58) (.tmp 63):=⟨_,rfl,rfl,rfl,rfl⟩
 have hr:∀w,(zy a.eval o).run X0 w=.ok (.comm #[scase c0 v (.tuple #[])] I .send) w/\(zy a.eval o).events X0 w #[]=#[]:=λw=>by
  have e1:=qFA h58;have e2:=qFA h63;unfold zy;simp[hop,e1,e2,scase]
 constructor
 .rw[Frame.atR_of_none hb,Go.Conc.stepG_comm ho (by simp[zAs,hg]) hk (hr w).1,Go.Conc.listed_none (hr w).2]
 .have:=zBe b a CH 6 [] k zAX;rw[ho]at this;simp only[zCQ,hd]at this;have e:(b.atR a (.inRegion CH [6]::k)).finish zAX=b.atR a (.inRegion CH []::k):=this;exact zK (λf=>G f cs) e
noncomputable def Ds:zR zDO:=Gv (tlC qzH)
def qpZ(b:zAt)(k:F Item)(cs:F zAt)(vl h:zg)(q u:zAH)(c0 c1 c2:Z)(g:zH):Prop:=
 ∃a,BI vl h q u c0 c1 c2 a/\a.tmps[64]?=O h/\g=G (b.atR a (.inRegion Ds [2,3,4,5]::.inBlock 2::qRE k)) cs
def qTT{P}{ρ}{o}{t e n}{u:ChanDir}{c}{z}(hop:o.op=.recv t (.tmp n) zb)(A:ρ (.tmp n)=.chan (O c))(q:P.underlying t=O (.chan u e))(h:∀w,(zAZ e).run P w=.ok z w/\(zAZ e).events P w #[]=#[]):∀w,(zy ρ o).run P w=.ok (.comm #[zAR c z] I (.recv zb)) w/\(zy ρ o).events P w #[]=#[]:=by
 intro w;unfold zy;simp only[hop,A];constructor
 .simp[zAa,zN q,zAo,zAR,(h w).1]
 .simp[go_sem,zN q,zBJ,(h w).1,(h w).2]
def qeX{a}{b}{k}{cs}(hb:b.roundOf=zc)(hk:b.kind≠.early){vl va z}{p7 p12}{c0 c1 c2}(hA:BI vl va p7 p12 c0 c1 c2 a){t e}{dir:ChanDir}(hop:∃o,Ds[2]?=O o/\o.guard=zc/\o.op=.recv t (.tmp 65) zb)(ht:X0.underlying t=O (.chan dir e))(hz:∀w,(zAZ e).run X0 w=.ok z w/\(zAZ e).events X0 w #[]=#[]):Cm X0 (λg=>∃g₂,AtIn X0 I TrK NoS 0 (Seat.one c1 z zb (qpZ b k cs vl va p7 p12 c0 c1 c2)) g g₂) 4 (G (b.atR a (.inRegion CH []::.code (tlC qzH)::.inBlock 2::qRE k)) cs):=by
 obtain⟨o,ho,hg,hop⟩:=hop;refine Cm.step qNA (Cm.step (AP (id:=14) (ops:=Ds)) ?_);have hr:zBf Ds.size=[0,1,2,3,4,5]:=rfl;rw[hr];obtain⟨o0,g0,n0,d0,p0⟩:∃o,Ds[0]?=O o/\o.guard=zc/\o.dst=O 64/\o.op=.move (.tmp 16):=⟨_,rfl,rfl,rfl,rfl⟩;obtain⟨o1,g1,n1,d1,p1⟩:∃o,Ds[1]?=O o/\o.guard=zc/\o.dst=O 65/\o.op=.move (.tmp 14):=⟨_,rfl,rfl,rfl,rfl⟩;refine Cm.step (qzG hb g0 n0 (.inl p0) d0 (qFA hA.t16)) ?_;have A0:=hA.put (d:=64) sb va;refine Cm.step (qzG hb g1 n1 (.inl p1) d1 (qFA A0.t14)) ?_;have A1:=A0.put (d:=65) sb (.chan (O c1));have hr:=qTT (P:=X0) hop (qFA (A0.get (d:=65) sb (.chan (O c1)))) ht hz;show ∃g₂,_;rw[Frame.atR_of_none hb];exact⟨_,Go.Conc.atIn_of (s:=Seat.one c1 z zb (qpZ b k cs vl va p7 p12 c0 c1 c2)) ho (by simp[zAs,hg]) hk (λw=>(hr w).1) (λw=>(hr w).2) ⟨_,A1,by rw[qGA sb];exact hA.get sb _,by rw[Frame.atR_of_none hb]⟩⟩
def qYJ(z:zg)(b:zAt)(k:F Item)(cs:F zAt)(vl h:zg)(q u:zAH)(c0 c1 c2:Z):Seat:=Seat.one c1 z zb (qpZ b k cs vl h q u c0 c1 c2)
def MB{K}{a}{b}{k}{cs}(hb:b.roundOf=zc)(hk:b.kind≠.early){vl h z v}{q u}{c0 c1 c2}(hA:BI vl h q u c0 c1 c2 a)(A:a.tmps[58]?=O (.chan (O c0)))(C:a.tmps[63]?=O v){t e}{D:ChanDir}(hop:∃o,Ds[2]?=O o/\o.guard=zc/\o.op=.recv t (.tmp 65) zb)(E:X0.underlying t=O (.chan D e))(H:∀w,(zAZ e).run X0 w=.ok z w/\(zAZ e).events X0 w #[]=#[]){B}:qJH X0 K c0 v (λg=>zDU X0 I TrK NoS B (qYJ z b k cs vl h q u c0 c1 c2) 5 g) (G (b.atR a (.inRegion CH [6]::.code (tlC qzH)::.inBlock 2::qRE k)) cs):=
 ⟨rfl,_,_,λw _=>(q9Q hb hk A C w).1,by rw[(q9Q hb hk A C default).2];exact qJC (zF _) (qFE (qeX hb hk hA hop E H))⟩
def bS:zAt:={(default:zAt)with fn:=8,kind:=.normal,roundOf:=zc}
def aS(x y z h vl:zg):zDN:=⟨#[.agg ⟨[x,y,z]⟩,h,vl]++zAU 85 zAX,[]⟩
def qzZ(x y z vn vl:zg):zAW X0 8 #[.agg ⟨[x,y,z]⟩,vn,vl] .normal=bS.atR (aS x y z vn vl) [.code qUM]:=by
 simp[zAW,zAQ,Tryz.func8,bS,aS,qUM];rfl
structure AtGo(w0:zp)(g:GW)(vl:zg)(W:Wd)(c0 c1 c2 b7 b12:Z)(g':GW)(cs7:F zg)(a:zDN)(w:zp):Prop where
 le:g<=g'
 old:∀n,n<w0.heap.size->g'.g n->g.g n
 wo:rWo g' cs7 W
 ch:Lp w0.heap.size c0 c1 c2 w
 below:Below w0.heap.size w0 w
 ng:¬g'.g c0/\¬g'.g c1/\¬g'.g c2/\¬g'.g b7/\¬g'.g b12
 sim:∃fr hs,Aq fr hs w/\hs.g=g'
 m7:w.heap[b7]?=O (.cells #[.int .i64 0,.int .i64 0,.int .i64 0,.slice zc 0 0,.slice zc 0 0,.slice zc 0 0,.slice zc 0 0,.slice zc 0 0] 44 (0,0))
 m12:w.heap[b12]?=O (.cells cs7.toArray 44 (0,0))/\∀c∈cs7,c.oneCell'=I
 l7:w0.heap.size<=b7
 l12:w0.heap.size<=b12
 d:b7≠b12
 size:a.tmps.size=88
 t2:a.tmps[2]?=O vl
 t7:a.tmps[7]?=O (.pointer (O ⟨b7,0,zc⟩))
 t12:a.tmps[12]?=O (.pointer (O ⟨b12,0,zc⟩))
 t13:a.tmps[13]?=O (.chan (O c0))
 t14:a.tmps[14]?=O (.chan (O c1))
 t15:a.tmps[15]?=O (.chan (O c2))
 t49:a.tmps[49]?=O (.agg ⟨cs7⟩)
 t50:a.tmps[50]?=O (.chan (O c0))
 t51:a.tmps[51]?=O (.chan (O c1))
 t52:a.tmps[52]?=O (.chan (O c2))
 defers:a.defers=[]
def qWG(l):qDA (l.map .v)=l:=by rw[qiA];simp[zB8,Ae]
def On{E:Env X0}{w0:zp}{g:GW}(ad:Go.Proofs.YtlmhpamhhgogaaaGreat.Sx.Good g w0)(hE:E.N<=w0.heap.size){x y z:zg}{c:BB}{names:F BA}{H vl:zg}{l:F OpD}{cs:F zAt}(hc:qHB g [x,y,z] c)(ae:qTA c=zc)(u:rSl 1 FJ g H names)(af:qbI (qjB c) names 1)(ag:names.length<=1000000)(ah:c.As.length<=1000000)(hl:rSl 10 rOp g vl l)(ai:l.length<=200)(aj:∀a w c0 c1 c2 b7 b12 g' L,AtGo w0 g vl (EK (qjB c) names 1) c0 c1 c2 b7 b12 g' L a w->E.G (G (bS.atR a (.inRegion q1I [4]::.code qpB::[])) cs) w):E.G (G (zAW X0 8 #[.agg ⟨[x,y,z]⟩,H,vl] .normal) cs) w0:=by
 rw[qzZ];have Y:(⟨w0,(·<w0.heap.size),g.g,λ_ C=>C⟩:Fr).has E:=λn u=>zQ u hE
 have ak:Stn 88 ⟨w0,(·<w0.heap.size),g.g,λ_ C=>C⟩ [] [(2,.v vl),(1,.v H),(0,.v (.agg ⟨[x,y,z]⟩))] ⟨g,[],0,w0.heap.size⟩ (aS x y z H vl) w0:=by
  refine⟨by simp[aS],rfl,λn R M=>?_,⟨ad,⟨rfl,rfl,rfl,zG _,λ_ _=>rfl⟩,λr al=>absurd al zAd,zBR,λb T=>by simp[Hs.bks]at T,λ_ _ D=>D,λn u _ an=>by have:n<w0.heap.size:=an;simp only at u;omega,zG _,λb T=>by simp[Hs.bks]at T⟩⟩;simp only[AS]at M
  repeat' split at M
  all_goals first|(cases M;done)|skip
  all_goals(rename_i ao;obtain rfl:=zP ao;obtain rfl:=zv M)
  .simp[aS,Ae]
  .simp[aS,Ae]
  .simp[aS,Ae]
 refine MP (g:=g) Y hc ae u af ag ah hl ai (λg' L aM aN b7 aO b12 aP ap sl aq hW U ar au P=>?_) ak;refine Mg Y (zZ hE P.sim.frm.size) rfl hW U ar au P λc0 c1 c2 aa av aw aQ ax aR aT aU h ay az aA aB aC aD aE aF aG aH A=>?_;have V:=P.sim.frm.size;have W:∀n,ap.heap.size<=n->¬g'.g n:=λn u D=>by have:=g'.wf n D;have:=P.sim.AJ.1;simp only at this;omega
 have B:=A.sim.Fg ax;have q:∀{n R},AS aw n=O R->aa.tmps[n]?=O (Ae R):=λC=>A.Au _ _ C;obtain⟨aV,aI,aJ⟩:=aE;have ab:=A.sim.res _ (show(Res.blk 3 b12 44 (L.map .v))∈_ by simp);have aK:=A.sim.res (.blk 1 b7 44 [.v (.int .i64 0),.v (.int .i64 0),.v (.int .i64 0),.v (.slice zc 0 0),.v (.slice zc 0 0),.v (.slice zc 0 0),.v (.slice zc 0 0),.v (.slice zc 0 0)]) sd;have aL:=A.sim.nod;have Q:=B.fre;refine aj aa av c0 c1 c2 b7 b12 g' L ⟨aq,λn u D=>B.fz n u D,hW,⟨h.h0,h.h1,h.h2,h.d01,h.d02,h.d12,zZ V h.l0,zZ V h.l1,zZ V h.l2⟩,⟨B.frm.os,B.frm.tape,B.frm.output,B.frm.size,B.frm.block⟩,⟨W _ h.l0,W _ h.l1,W _ h.l2,(Q b7 (by simp[Hs.bks,Res.bk])).1,(Q b12 (by simp[Hs.bks,Res.bk])).1⟩,⟨_,_,A.sim,rfl⟩,?_,?_,?_,?_,?_,A.size,q ay,q az,q aA,q aB,q aC,q aD,(q aI).trans (zK O aJ),q aF,q aG,q aH,A.defers⟩
 .have:=aK.1;simpa[qDA,Ae]using this
 .have ac:=ab.1;have U:=ab.2
  rw[qWG]at ac;exact⟨ac,λc hc=>U (.v c) (zAb.2 ⟨c,hc,rfl⟩)⟩
 .have:=(Q b7 (by simp[Hs.bks,Res.bk])).2;exact zDD.1 this
 .have:=(Q b12 (by simp[Hs.bks,Res.bk])).2;exact zDD.1 this
 .simp[Hs.bks,Res.bk]at aL;omega
end Go.Proofs.YtlmhpamhhgogaaaGreat
namespace Go.Proofs.YtlmhpamhhgogaaaGreat
open Go.Conc (G born parked rcase scase AtIn Sits Seat heap_setChan_ne heap_setChan_self below_setChan)
open Go.Proofs.YtlmhpamhhgogaaaGreat.Sx Go.Duo Go.RowKit
def ZV(t:Z)(z:zg):Prop:=∃h e,X0.underlying t=O (.chan h e)/\∀w,(zAZ e).run X0 w=.ok z w/\(zAZ e).events X0 w #[]=#[]
def qaa(t)(h:((X0.underlying t).bind λd=>match d with
  |.chan _ e=>((X0.info? e).bind λi=>i.zero).map λ_=>I
  |_=>zc)=O I):∃z,ZV t z:=by
 obtain⟨q,e,z,u,A⟩:=chZ t h;exact⟨z,q,e,u,A⟩
structure Plc(n0 N c0 c1 c2 b7 b12:Z):Prop where
 l0:n0<=c0/\c0<N
 l1:n0<=c1/\c1<N
 l2:n0<=c2/\c2<N
 l7:n0<=b7/\b7<N
 l12:n0<=b12/\b12<N
 d01:c0≠c1
 d02:c0≠c2
 d12:c1≠c2
 d:b7≠b12
abbrev zW:zR zg:=#[.int .i64 0,.int .i64 0,.int .i64 0,.slice zc 0 0,.slice zc 0 0,.slice zc 0 0,.slice zc 0 0,.slice zc 0 0]
structure JC(w0:zp)(N c0 c1 c2 b7 b12:Z)(cs7:F zg)(k0 k1:Z)(hs:Hs)(w:zp):Prop where
 mine:Cb N hs w
 below:Below w0.heap.size w0 w
 h0:w.heap[c0]?=O (.chan 0 #[] zb k0 k0 zb)
 h1:w.heap[c1]?=O (.chan 0 #[] zb k1 k1 zb)
 h2:w.heap[c2]?=O (.chan 1 #[] zb 0 0 zb)
 m7:w.heap[b7]?=O (.cells zW 44 (0,0))
 m12:w.heap[b12]?=O (.cells cs7.toArray 44 (0,0))
 ng:¬hs.g.g c0/\¬hs.g.g c1/\¬hs.g.g c2/\¬hs.g.g b7/\¬hs.g.g b12
section
variable{w0 w w':zp}{N c0 c1 c2 b7 b12 k0 k1:Z}{cs7:F zg}{hs hs':Hs}
def JC.at(h:JC w0 N c0 c1 c2 b7 b12 cs7 k0 k1 hs w)(d):JC w0 N c0 c1 c2 b7 b12 cs7 k0 k1 hs (w.at d):=
 ⟨h.mine.at d,⟨h.below.os,h.below.tape,h.below.output,h.below.size,h.below.block⟩,h.h0,h.h1,h.h2,h.m7,h.m12,h.ng⟩
def qLC{w:zp}{a b:Z}{x y:Obj}(ha:w.heap[a]?=O x)(hb:w.heap[b]?=O y)(h:x≠y):a≠b:=λe=>by subst e;rw[ha]at hb;exact h (zv hb)
def JC.Ll(hp:Plc w0.heap.size N c0 c1 c2 b7 b12)(h:JC w0 N c0 c1 c2 b7 b12 cs7 k0 k1 hs w)(k):JC w0 N c0 c1 c2 b7 b12 cs7 k k1 hs (w.setChan c0 0 #[] zb k k zb):=by
 have e:∀{n:Z}{x:Obj},w.heap[n]?=O x->c0≠n->(w.setChan c0 0 #[] zb k k zb).heap[n]?=O x:=λq u=>(zDP w 0 #[] zb k k zb u).trans q;exact⟨h.mine.chan hp.l0.2 h.ng.1 ..,below_setChan h.below hp.l0.1 ..,heap_setChan_self w h.h0 ..,e h.h1 hp.d01,e h.h2 hp.d02,e h.m7 (qLC h.h0 h.m7 sd),e h.m12 (qLC h.h0 h.m12 sd),h.ng⟩
def JC.Nk(hp:Plc w0.heap.size N c0 c1 c2 b7 b12)(h:JC w0 N c0 c1 c2 b7 b12 cs7 k0 k1 hs w)(k):JC w0 N c0 c1 c2 b7 b12 cs7 k0 k hs (w.setChan c1 0 #[] zb k k zb):=by
 have e:∀{n:Z}{x:Obj},w.heap[n]?=O x->c1≠n->(w.setChan c1 0 #[] zb k k zb).heap[n]?=O x:=λq u=>(zDP w 0 #[] zb k k zb u).trans q;exact⟨h.mine.chan hp.l1.2 h.ng.2.1 ..,below_setChan h.below hp.l1.1 ..,e h.h0 hp.d01.symm,heap_setChan_self w h.h1 ..,e h.h2 hp.d12,e h.m7 (qLC h.h1 h.m7 sd),e h.m12 (qLC h.h1 h.m12 sd),h.ng⟩
def JC.next(hp:Plc w0.heap.size N c0 c1 c2 b7 b12)(h:JC w0 N c0 c1 c2 b7 b12 cs7 k0 k1 hs w)(C:Aq (frB N w hs.g h.mine.size) hs' w')(hl:N<=hs'.lo):JC w0 N c0 c1 c2 b7 b12 cs7 k0 k1 hs' w':=by
 obtain⟨D,u,A⟩:=Cb.next C hl;have e:∀{n:Z}{x:Obj},w.heap[n]?=O x->n<N->w'.heap[n]?=O x:=λE B=>(u.block _ B).trans E;refine⟨D,⟨u.os.trans h.below.os,u.tape.trans h.below.tape,u.output.trans h.below.output,zZ h.below.size u.size,λn B=>(u.block n ?_).trans (h.below.block n B)⟩,e h.h0 hp.l0.2,e h.h1 hp.l1.2,e h.h2 hp.l2.2,e h.m7 hp.l7.2,e h.m12 hp.l12.2,λq=>h.ng.1 (A _ hp.l0.2 q),λq=>h.ng.2.1 (A _ hp.l1.2 q),λq=>h.ng.2.2.1 (A _ hp.l2.2 q),λq=>h.ng.2.2.2.1 (A _ hp.l7.2 q),λq=>h.ng.2.2.2.2 (A _ hp.l12.2 q)⟩;have:=hp.l0;omega
end
def qyZ{B q}(u:B<=q){e}(h:Go.Conc.EvHd NoS B e):Go.Conc.EvHd NoS q e:=⟨h.1,h.2.1,h.2.2.1,MemAct.low_mono u h.2.2.2⟩
def qgS{P}{B q}{K}{Stop u}(A:B<=q)(C:∀g,Stop g->u g):∀{n:Z}{g:zH},Go.Duo.Way P B K Stop n g->Go.Duo.Way P q K u n g
 |0,_,h=>C _ h
 |n+1,_,⟨D,E,H,h⟩=>⟨D,E,λw L=>by
  obtain⟨es,M,Q⟩:=H w L
  exact⟨es,M,λe R=>qyZ A (Q e R)⟩,qgS A C h⟩
def q0a{P}{K}{c n0}{v}{X}{B q}(u:B<=q){g}(h:qJH P K c v (λg=>zDU P I TrK NoS B X n0 g) g):qJH P K c v (λg=>zDU P I TrK NoS q X n0 g) g:=
 let⟨A,C,D,E,H⟩:=h
 ⟨A,C,D,E,qJC u H⟩
def qXc{P}{K}{c n0}{X}{B q}(u:B<=q){g}(h:qNF P K c (λg=>zDU P I TrK NoS B X n0 g) g):qNF P K c (λg=>zDU P I TrK NoS q X n0 g) g:=
 let⟨A,C,D,E,H,L⟩:=h
 ⟨A,C,D,E,H,qJC u L⟩
def qGb{q}(u:ZV 167 q)(h)(c0 c1 c2 N):∃k',0<k'/\Pre X0 N (oV h) (Seat.one c0 q I (qHM (.slice zc 0 0) c0 c1 c2 N)) k' 3 (born X0 (qYP h c0 c1 c2)):=by
 obtain⟨D,e,A,B⟩:=u;obtain⟨n,C⟩:=q5a (z:=q) h c0 c1 c2 N A B;exact⟨n+1,sa,MO h c0 c1 c2 N (qQH C)⟩
section
variable{w0 w:zp}{g g':GW}{vl:zg}{W:Wd}{c0 c1 c2 b7 b12:Z}{cs7:F zg}{a:zDN}
def AtGo.lt(h:AtGo w0 g vl W c0 c1 c2 b7 b12 g' cs7 a w):Plc w0.heap.size w.heap.size c0 c1 c2 b7 b12:=by
 have lt:∀{n:Z}{x:Obj},w.heap[n]?=O x->n<w.heap.size:=λq=>(zAg.1 q).1;exact⟨⟨h.ch.l0,lt h.ch.h0⟩,⟨h.ch.l1,lt h.ch.h1⟩,⟨h.ch.l2,lt h.ch.h2⟩,⟨h.l7,lt h.m7⟩,⟨h.l12,lt h.m12.1⟩,h.ch.d01,h.ch.d02,h.ch.d12,h.d⟩
def AtGo.AJ(h:AtGo w0 g vl W c0 c1 c2 b7 b12 g' cs7 a w):Go.Proofs.YtlmhpamhhgogaaaGreat.Sx.Good g' w:=by
 obtain⟨_,_,hs,rfl⟩:=h.sim;exact hs.AJ
def qtZ{w w'}{o}{g}(h:Go.Proofs.YtlmhpamhhgogaaaGreat.Sx.Good g w)(hk:KA w o w'):Go.Proofs.YtlmhpamhhgogaaaGreat.Sx.Good g w':=by
 obtain⟨d,rfl|rfl⟩:=hk
 .exact⟨h.1,h.2⟩
 .refine⟨?_,λn q=>?_⟩
  .exact zZ h.1 (Below.AU w o).size
  .have u:=g.wf n q;exact((Below.AU w o).block n (by have:=h.1;omega)).trans (h.2 n q)
def AtGo.jc(h:AtGo w0 g vl W c0 c1 c2 b7 b12 g' cs7 a w)(d):JC w0 w.heap.size c0 c1 c2 b7 b12 cs7 0 0 ⟨g',[.blk 0 w.heap.size 44 (cs7.map .v)],1,w.heap.size⟩ ((w.alloc (oV (.agg ⟨cs7⟩))).at d):=by
 obtain⟨C,hs,u,rfl⟩:=h.sim
 have hm:=(Cb.start u).alloc 0 44 (cs7.map .v) (λc A=>by
  obtain⟨v,B,rfl⟩:=zAb.1 A
  exact h.m12.2 v B) 1
 rw[qWG]at hm;have e:∀{n:Z}{x:Obj},w.heap[n]?=O x->(w.alloc (oV (.agg ⟨cs7⟩))).heap[n]?=O x:=λq=>(Go.Duo.heap_alloc_old q).trans q;refine JC.at (w:=w.alloc (oV (.agg ⟨cs7⟩))) ⟨hm,h.below.alloc (zZ (zG _) h.below.size) _,e h.ch.h0,e h.ch.h1,e h.ch.h2,e h.m7,e h.m12.1,h.ng⟩ d
def BI.of(h:AtGo w0 g vl W c0 c1 c2 b7 b12 g' cs7 a w)(v):BI vl v ⟨b7,0,zc⟩ ⟨b12,0,zc⟩ c0 c1 c2 (a.put (O 16) v):=
 ⟨by simp[zBg,h.size],by rw[qGA sb];exact h.t2,by rw[qGA sb];exact h.t7,by rw[qGA sb];exact h.t12,by rw[qGA sb];exact h.t13,by rw[qGA sb];exact h.t14,by rw[qGA sb];exact h.t15,q4D (by rw[h.size];decide),h.defers⟩
def Md:∃e,X0.underlying 27=O (.slice e)/\qQB X0 e=O 10:=⟨51,se,se⟩
def Mc:qQB X0 51=O 10/\BP X0 51=O I:=⟨se,se⟩
def qJc:∃o,Ds[2]?=O o/\o.guard=zc/\o.op=.recv 89 (.tmp 65) zb:=⟨_,rfl,rfl,rfl⟩
def q5b{cs}{m}{T}{zi zo}(hzi:ZV 167 zi)(hzo:ZV 89 zo){l}{o}(hl:rSl 10 rOp g vl l)(hl0:l[0]?=O o)(h:AtGo w0 g vl W c0 c1 c2 b7 b12 g' cs7 a w)(hH:ER X0 (·=0) (λ_=>zc) 0 0 (G (bS.atR a (.inRegion q1I [4]::.code qpB::[])) cs) w m T):Go.Duo.Comes X0 m T λm' T'=>∃s a' w' ec,0<s/\Hw (.slice zc 0 0) c0 c1 c2 w.heap.size a'/\(ec.length=10/\rOp g ec o)/\JC w0 w.heap.size c0 c1 c2 b7 b12 cs7 1 0 ⟨g',[.blk 0 w.heap.size 44 (cs7.map .v)],1,w.heap.size⟩ w'/\Two X0 w.heap.size (qYJ zo bS [] cs vl (.slice zc 0 0) ⟨b7,0,zc⟩ ⟨b12,0,zc⟩ c0 c1 c2) (Seat.one c0 zi I (qHM (.slice zc 0 0) c0 c1 c2 w.heap.size)) s s (Go.Conc.served (F3 a') (zAV #[zAR c0 zi] (.recv I) 0 (.agg ⟨ec⟩) I)) w' m' T':=by
 have hp:=h.lt;obtain⟨ol,cl,rfl,hcap,hmax,hnone,hr⟩:=id hl;obtain⟨al,rfl,ec,hec,hop,hrd⟩:=hr 0 o hl0;have hlen:0<l.length:=(zd.1 hl0).1;obtain⟨k',hk',hP⟩:=qGb hzi (.agg ⟨cs7⟩) c0 c1 c2 w.heap.size;obtain⟨dir,e,ht,hz⟩:=hzo
 have hB:al.block<w.heap.size:=by
  have:ec[0]?=O ec[0]:=zAe sa;have h1:=(hrd 0 _ this).1;rw[qfP,qfP]at h1;have h2:=g.wf _ h1;have h3:=h.le.1;have h4:=h.AJ.1;omega
 obtain⟨j,hW⟩:=qca (B:=w.heap.size) (K:=KA w (oV (.agg ⟨cs7⟩))) (Stop:=qJH X0 (KA w (oV (.agg ⟨cs7⟩))) c0 (.agg ⟨ec⟩) λg=>zDU X0 I TrK NoS w.heap.size (qYJ zo bS [] cs (.slice (O al) l.length cl) (.slice zc 0 0) ⟨b7,0,zc⟩ ⟨b12,0,zc⟩ c0 c1 c2) 5 g)
  (v16:=zAX) (a:=a) (b:=bS) (k:=[]) (cs:=cs) rfl (by rw[h.size];decide) (BI.of h) λa' hA'=>
   qpP (al:=al) (oa:=zc) (L:=l.length) (i:=0) (cl:=cl) (ca:=0) rfl hlen hec hB (λw' hw' j u hu=>(hrd j u hu).at (Go.Proofs.YtlmhpamhhgogaaaGreat.Sx.Good.of_le h.le (qtZ h.AJ hw'))) Md Mc hA' λa'' hA'' h58 h63=>MB rfl (by simp[bS]) hA'' h58 h63 qJc ht hz
 refine(qZR (n:=0) (B0:=w.heap.size) (X:=qYJ zo bS [] cs (.slice (O al) l.length cl) (.slice zc 0 0) ⟨b7,0,zc⟩ ⟨b12,0,zc⟩ c0 c1 c2) (S:=λ_=>Seat.one c0 zi I (qHM (.slice zc 0 0) c0 c1 c2 w.heap.size)) (z:=zi) (c:=c0) (k:=0) rfl
  (λd=>qET rfl (by simp[bS]) h.t49 h.t50 h.t51 h.t52) (Seat.one_wf ..) (λc hc=>?_) (λc hc=>?_) (λc hc=>?_) h.ch.h0 hp.l0.2 hk' (λ_=>rfl) (λ_=>hP) (λB hB=>qgS hB (λg h=>q0a hB h) hW) hH).mono ?_
 .obtain rfl:=Seat.one_has.1 hc;exact⟨0,0,h.ch.h1⟩
 .obtain rfl:=Seat.one_has.1 hc;exact hp.l1.2
 .obtain rfl:=Seat.one_has.1 hc;exact hp.d01.symm
 .rintro m' T' ⟨s,g₂,d,hs,_,⟨a',hA',rfl⟩,h2⟩;exact⟨s,a',_,ec,hs,hA',⟨hec,hop⟩,(h.jc d).Ll hp 1,h2⟩
end
end Go.Proofs.YtlmhpamhhgogaaaGreat
namespace Go.Proofs.YtlmhpamhhgogaaaGreat
open Go.Conc (G born parked rcase scase AtIn Sits Seat)
open Go.Proofs.YtlmhpamhhgogaaaGreat.Sx Go.Duo Go.RowKit
def qcL(l:F OpD)(Inv:Z->Wd->F Ans->Prop):Prop:=
 ∀i u h o g cs w A,Inv i u h->l[i]?=O o->rWo g cs u->rOp g A o->rSl 13 F7 g w h->
  Ok X0 46 [.agg ⟨cs⟩,.int .i64 0,.agg ⟨A⟩,w] g λv D=>∃B q n C,v=.tuple #[.agg ⟨B⟩,.agg ⟨q.cs⟩,.int .i64 n]/\rWo D B C/\q.ok/\Inv (i+1) C (h++[q])
noncomputable def Nm:zDT:=tlC qVM
noncomputable def qWc:zDT:=GX (tlC Nm)
noncomputable def qPF:zR zDO:=Gv (tlC (tlC (tlC (tlC qWc))))
noncomputable def qyI:F Item:=[.inBlock 1,.inLoop qVM,.inBlock 0,.code (tlC qGK)]
def Dl.cut{g}{sz n cap}{oa}{cs}(h:Dl g sz (.slice oa n cap) n cs):Dl g sz (.slice oa n n) n cs:=by
 obtain⟨u,C,D,e,w,A,q,B⟩:=h;cases e;exact⟨u,_,_,rfl,zG _,zZ w A,λe=>⟨(q e).1,(q e).1⟩,B⟩
def qUa{l:F Ans}{u:zg}(h:u∈(l.map (·.cs)).flatten):u.oneCell'=I:=by
 obtain⟨c,w,q⟩:=zCP.1 h;obtain⟨A,_,rfl⟩:=zAb.1 w;simp only[zJ,zAd,zBh]at q;rcases q with rfl|rfl|rfl|rfl|rfl|rfl|rfl|rfl|rfl|rfl|rfl|rfl|rfl<;>rfl
def qGY{g}{v}{l}(h:rSl 13 F7 g v l):∀x∈l,x.ok:=by
 obtain⟨_,_,_,_,_,_,q⟩:=h;intro x u;obtain⟨i,w⟩:=zBE u;obtain⟨_,_,_,_,A,_⟩:=q i x w;exact A.2
def qOR{g g'}{lo}{v v'}{given}{A:Ans}(h:rSl 13 F7 g v given)(hA:A.ok){n}(u:n=given.length+1)(hp:AX g' lo 55 13 v' n ((given.map (·.cs)).flatten++A.cs)):rSl 13 F7 g' v' (given++[A]):=by
 refine qiD hp.rd (given++[A]) (·.cs) sd (by simp[u]) (λx _=>rfl) λx q=>⟨rfl,?_⟩;rcases zL.1 q with q|q
 .exact qGY h x q
 .obtain rfl:=zA9.1 q;exact hA
def qXY{nt}{fr:Fr}{q}{sl sl'}{hs}{a}{w}(h:Stn nt fr q sl hs a w)(A:∀n u,AS sl' n=O u->AS sl n=O u):Stn nt fr q sl' hs a w:=⟨h.size,h.defers,λn u B=>h.Au n u (A n u B),h.sim⟩
def q8P{E:Env X0}{N:Z}{w0:zp}{g0:GW}{C:N<=w0.heap.size}(hE:E.N<=N){q u:Deferred}{sl:Sl}{M:GW}{oa:zs zAH}{k cap V P W Y nx:Z}{cells:F zg}{aa ab ac:F SV}{A:Ans}{D:F zg}{rs:F Res}{a:zDN}{w:zp}{c0 c1 c2:Z}{ad:Wd}(ap:rWo M D ad)(hd:(∃Q t cs,q.target=.builtin .close Q t cs)/\q.args=#[.chan (O c1)]/\(∃Q t cs,u.target=.builtin .close Q t cs)/\u.args=#[.chan (O c2)])(hA:Stn 41 (frB N w0 g0 C) [q,u] sl ⟨M,.row 44 oa k cap 55 13 cells::.blk 43 V 55 aa::.blk 42 P 55 (A.cs.map .v)::.blk 41 W 44 ab::.blk 40 Y 51 ac::.blk 0 N 44 (D.map .v)::rs,nx,N⟩ a w)(aq:AS sl 1=O (.v (.chan (O c0))))(h2:AS sl 2=O (.v (.chan (O c1))))(ar:AS sl 3=O (.v (.chan (O c2))))(au:AS sl 15=O (.v (.chan (O c0))))(av:AS sl 4=O (.p 0 N 0))(aw:AS sl 8=O (.row 44 oa k cap))(ax:AS sl 11=O (.p 42 P 0))(ae:∀a' w' g' nx',Hw (.slice oa k cap) c0 c1 c2 N a'->a'.tmps[37]?=O (.chan (O c1))->a'.tmps[38]?=O (.agg ⟨A.cs⟩)->M<=g'->AX g' N 55 13 (.slice oa k cap) k cells->Aq (frB N w0 g0 C) ⟨g',.blk 0 N 44 (D.map .v)::rs,nx',N⟩ w'->E.G (G (bV.atR a' (.inRegion qPF [2]::qyI)) [BM]) w'):E.G (G (bV.atR a (.code (.region 10 qPF zb)::qyI)) [BM]) w:=by
 have T:(frB N w0 g0 C).has E:=q7J hE
 have af:=qXY (sl':=[(1,.v (.chan (O c0))),(2,.v (.chan (O c1))),(3,.v (.chan (O c2))),(15,.v (.chan (O c0))),(4,.p 0 N 0),(8,.row 44 oa k cap),(11,.p 42 P 0)]) hA λn B H=>by
  simp only[AS]at H
  repeat' split at H
  all_goals first|(cases H;done)|skip
  all_goals(rename_i ag;obtain rfl:=zP ag;obtain rfl:=zv H;assumption)
 refine .quiet rfl (λ_=>qIC) ?_;refine qRB (τ:=[0,1]) (rest:=[2]) T ((qaA E).snd _ T) si af (K:=λsl' ah=>∀a' w',Stn 41 (frB N w0 g0 C) [q,u] sl' ah a' w'->E.G (G (bV.atR a' (.inRegion qPF [2]::qyI)) [BM]) w') (zq ?_) (λ_ _ a' w' R ai=>R a' w' ai);intros;intro U aj L;have h:∀(n:Z){B:SV}{v:zg},AS _ n=O B->Ae B=v->U.tmps[n]?=O v:=λn{B v}R e=>e▸L.Au n B R
 have ak:=L.sim.sub (rs:=.row 44 oa k cap 55 13 cells::.blk 0 N 44 (D.map .v)::rs) (nx:=40) (by
  refine List.Sublist.cons_cons _ ?_
  exact List.Sublist.cons _ (List.Sublist.cons _ (List.Sublist.cons _ (List.Sublist.cons _ (zB6 _)))))
 obtain⟨g',al,_,an,ao⟩:=ak.Cw;refine ae U aj g' 40 ⟨L.size,h 1 rfl rfl,h 2 rfl rfl,h 3 rfl rfl,h 4 rfl rfl,h 8 rfl rfl,h 15 rfl rfl,⟨q,u,L.defers,hd⟩⟩ (h 37 rfl rfl) (h 38 rfl rfl) al an ao
def qDT{E:Env X0}{N:Z}{l:F OpD}{Inv:Z->Wd->F Ans->Prop}(aq:qcL l Inv){i:Z}{W:Wd}{given:F Ans}{o:OpD}{g:GW}{cs:F zg}{ec:F zg}{P:zg}{c0 c1 c2:Z}{a:zDN}{w:zp}{rs:F Res}{ai:zg}(hE:E.N<=N)(ar:Inv i W given)(au:l[i]?=O o)(hW:rWo g cs W)(hop:rOp g ec o)(u:rSl 13 F7 g P given)(aX:given.length<=1000)(hA:Hw P c0 c1 c2 N a)(hM:Cb N ⟨g,.blk 0 N 44 (cs.map .v)::rs,40,N⟩ w)(aj:∀a' w' g' Q ak B A nx,Hw ak c0 c1 c2 N a'->a'.tmps[37]?=O (.chan (O c1))->a'.tmps[38]?=O (.agg ⟨A.cs⟩)->g<=g'->rWo g' Q B->A.ok->Inv (i+1) B (given++[A])->rSl 13 F7 g' ak (given++[A])->Aq (frB N w g hM.size) ⟨g',.blk 0 N 44 (Q.map .v)::rs,nx,N⟩ w'->E.G (G (bV.atR a' (.inRegion qPF [2]::qyI)) [BM]) w'):E.G (Go.Conc.served (F3 a) (zAV #[zAR c0 ai] (.recv I) 0 (.agg ⟨ec⟩) I)) w:=by
 have h:(frB N w g hM.size).has E:=q7J hE;obtain⟨R,T,av,D⟩:=hA.defers
 have aw:Go.Conc.served (F3 a) (zAV #[zAR c0 ai] (.recv I) 0 (.agg ⟨ec⟩) I)=G (bV.atR (a.put (O 16) (.tuple #[.agg ⟨ec⟩,.bool I])) (.inRegion HP [1]::qeK)) [BM]:=by
  have:=zBe bV a HP 0 [1] qeK (.tuple #[.agg ⟨ec⟩,.bool I]);exact zK (λf=>G f [BM]) this
 rw[aw]
 have ax:Stn 41 (frB N w g hM.size) [R,T] [(16,.tup [.v (.agg ⟨ec⟩),.v (.bool I)]),(1,.v (.chan (O c0))),(2,.v (.chan (O c1))),(3,.v (.chan (O c2))),(15,.v (.chan (O c0))),(4,.p 0 N 0),(8,.v P)] ⟨g,.blk 0 N 44 (cs.map .v)::rs,40,N⟩ (a.put (O 16) (.tuple #[.agg ⟨ec⟩,.bool I])) w:=by
  refine hM.stn (by simp[zBg,hA.size]) av λn aY H=>?_;simp only[AS]at H
  repeat' split at H
  all_goals first|(cases H;done)|skip
  all_goals(rename_i ay;obtain rfl:=zP ay;obtain rfl:=zv H)
  .exact q4D (by rw[hA.size];decide)
  .rw[qGA sb];exact hA.t1
  .rw[qGA sb];exact hA.t2
  .rw[qGA sb];exact hA.t3
  .rw[qGA sb];exact hA.t15
  .rw[qGA sb];exact hA.t4
  .rw[qGA sb];exact hA.t8
 have az:=hW;have aA:=hop;obtain⟨_,_,_,_,_,rfl,_,aB,aC,aD,aE,aF⟩:=hW;obtain⟨_,_,rfl,_⟩:=id aB;obtain⟨_,_,rfl,_⟩:=id aC;obtain⟨_,_,rfl,_⟩:=id aD;obtain⟨_,_,rfl,_⟩:=id aE;obtain⟨_,_,rfl,_⟩:=id aF;obtain⟨_,_,_,rfl,_,aG⟩:=hop;obtain⟨_,_,_,aH,⟨aZ,a0,rfl,_⟩,⟨a1,a2,rfl,_⟩,⟨a3,a4,rfl,_⟩⟩:=id aG;cases aH;obtain⟨aI,a5,rfl,al⟩:=id u;refine qRB (τ:=[1]) (rest:=[]) h ((qaA E).snd _ h) si ax (K:=λU V=>∀a' w',Stn 41 (frB N w g hM.size) [R,T] U V a' w'->E.G (G (bV.atR a' (.inRegion HP []::qeK)) [BM]) w') (zq ?_) (λ_ _ a' w' q Y=>q a' w' Y);intros;intro a6 a7 an;refine .quiet rfl (λ_=>quA) ?_;unfold qeK qVM qGK qHK qqN Tryz.f29;simp only[zAM,tlC,qDM,GX,hdC];refine qvA (q1J I rfl rfl an (qAI (qLJ ?_)));refine qvA (q6B h ((qaA E).snd _ h) si an (zq ?_));intros;intro a8 a9 aJ;refine qvA (q6B h ((qaA E).snd _ h) si aJ (zq ?_));intros;refine .inr ((aq i W given o g _ _ _ ar au az aA u).mono λv ba aa aK=>?_);obtain⟨Q,A,bb,B,rfl,ao,L,ap⟩:=aK;have M:=ao;obtain⟨_,_,_,_,_,rfl,_,aL,aM,aN,aO,aP⟩:=ao;obtain⟨_,_,rfl,_⟩:=id aL;obtain⟨_,_,rfl,_⟩:=id aM;obtain⟨_,_,rfl,_⟩:=id aN;obtain⟨_,_,rfl,_⟩:=id aO;obtain⟨_,_,rfl,_⟩:=id aP;refine zq ?_;intros;intro bc bd aQ;refine qvA (q6B h ((qaA E).snd _ h) si aQ (zq ?_));intros;intro be bf aR;refine qvA (q2L hm h ((qaA E)) (λaT aU=>(qaA E).snd aT aU) rfl (oi:=.first 0 (.first 1 (.first 2 (.first 3 (.first 4 (.first 5 (.first 6 (.exec 7 (.exec 8 (.first 9 .nil)))))))))) se se si sb (λd D=>absurd D zAd) aR (K:=λU V=>∀a' w',Stn 41 (frB N w g hM.size) [R,T] U V a' w'->E.G (G (bV.atR a' (.code _::qyI)) [BM]) w') (zq ?_) (λ_ _ a' w' q Y=>q a' w' Y));intros;refine⟨⟨sa,sa,by have:=al.1;omega⟩,?_⟩;simp only[zBn];refine zq ?_;intros;cases aI with
 |none=>
  obtain rfl:given=[]:=zB9 (al.2.2.1 rfl).1;refine zw ?_;refine⟨⟨by unfold zAr;omega,sa⟩,zq ?_⟩;intros;intro aV aW ab;refine q8P (A:=A) (w0:=w) hE M D ab rfl rfl rfl rfl rfl rfl rfl λa' w' g' ac ad ae af C ag ah=>?_;exact aj a' w' g' _ _ B A ac ad ae af (GW.trans aa C) (qCA _ _ _ _ C M) L ap (qOR u L rfl ag) ah
 |some bg=>
  refine zw ?_;refine .inl ⟨_,⟨Dl.cut (q4M (u.mono qYE aa) (·.cs) (λ_ _ q=>q.1)),λ_=>qUa⟩,λq=>(nomatch q),λ_=>⟨⟨sa,by unfold zAr;omega,sa⟩,zq ?_⟩⟩;intros;intro aV aW ab;refine q8P (A:=A) (w0:=w) hE M D ab rfl rfl rfl rfl rfl rfl rfl λa' w' g' ac ad ae af C ag ah=>?_;exact aj a' w' g' _ _ B A ac ad ae af (GW.trans aa C) (qCA _ _ _ _ C M) L ap (qOR u L rfl ag) ah
def q4X{a}{c1}{v}(h37:a.tmps[37]?=O (.chan (O c1)))(h38:a.tmps[38]?=O v)(w):zAE X0 zb (G (bV.atR a (.inRegion qPF [2]::qyI)) [BM]) w=.comm (G (bV.atR a (.inRegion qPF [2]::qyI)) [BM]) #[scase c1 v (.tuple #[])] I .send w #[]/\Go.Conc.served (G (bV.atR a (.inRegion qPF [2]::qyI)) [BM]) zAX=G (bV.atR a (.inRegion qPF []::qyI)) [BM]:=by
 obtain⟨o,ho,hg,hd,hop⟩:∃o,qPF[2]?=O o/\o.guard=zc/\o.dst=zc/\o.op=.send (.tmp 37) (.tmp 38):=⟨_,rfl,rfl,rfl,rfl⟩
 have hr:∀w,(zy a.eval o).run X0 w=.ok (.comm #[scase c1 v (.tuple #[])] I .send) w/\(zy a.eval o).events X0 w #[]=#[]:=λw=>by
  have e1:=qFA h37;have e2:=qFA h38;unfold zy;simp[hop,e1,e2,scase]
 have hb:bV.roundOf=zc:=rfl;constructor
 .rw[Frame.atR_of_none hb,Go.Conc.stepG_comm ho (by simp[zAs,hg]) (by simp[bV]) (hr w).1,Go.Conc.listed_none (hr w).2]
 .have:=zBe bV a qPF 2 [] qyI zAX;rw[ho]at this;simp only[zCQ,hd]at this;exact zK (λf=>G f [BM]) this
def q4a{zi vg}{c0 c1 c2 N}{a}(hzi:ZV 167 zi)(hA:Hw vg c0 c1 c2 N a):zDU X0 zb TrK NoS 0 (Seat.one c0 zi I (qHM vg c0 c1 c2 N)) 6 (G (bV.atR a (.inRegion qPF []::qyI)) [BM]):=by
 obtain⟨dir,e,ht,hz⟩:=hzi;refine qQH (n:=5) (Quiet.step qNA (Quiet.step qTE (Quiet.step qXJ ?_)));exact Quiet.step (q5B (x:=hdC qVM) (y:=tlC qVM)) (Quiet.step (AP (id:=5) (ops:=HP)) ⟨F3 a,NC hA ht hz⟩)
def qiS{P:zt}{E:Env P}(hE:E.main=I){B:Z}{K:zp->Prop}{Stop:zH->Prop}(h:∀w d,K w->K (w.at d)):∀{n:Z}{g:zH}{w:zp},Go.Duo.Way P B K Stop n g->K w->(∀g',Stop g'->E.G g' w)->E.G g w
 |0,_,_,q,_,hs=>hs _ q
 |n+1,g,w,⟨D,g',H,q⟩,u,hs=>.one D λd=>by
  obtain⟨es,L,A⟩:=H _ (h w d u);exact⟨g',w.at d,es,by rw[hE];exact L,.refl _,λe C=>⟨(A e C).2.1,(A e C).2.2.1⟩,qiS hE h q (h w d u) λg' M=>(hs g' M).at d⟩
def q1R{E:Env X0}{N:Z}(hE:E.N<=N){vl zo:zg}{oa:zs zAH}{cap:Z}{p7 p12:zAH}{c0 c1 c2:Z}{a:zDN}{w:zp}{g:GW}{cs:F zg}{ans:F Ans}{A:Ans}{cs0:F zAt}(hA:BI vl (.slice oa ans.length cap) p7 p12 c0 c1 c2 a)(h64:a.tmps[64]?=O (.slice oa ans.length cap))(hl:ans.length<=1000)(hM:Cb N ⟨g,[.blk 0 N 44 (cs.map .v),.row 10 oa ans.length cap 55 13 (ans.map (·.cs)).flatten],40,N⟩ w)(hK:∀a' w' oa' cap',BI vl (.slice oa' (ans++[A]).length cap') p7 p12 c0 c1 c2 a'->Aq (frB N w g hM.size) ⟨g,[.blk 0 N 44 (cs.map .v),.row 10 oa' (ans++[A]).length cap' 55 13 ((ans++[A]).map (·.cs)).flatten],40,N⟩ w'->E.G (G (bS.atR a' (.inRegion Ds []::.inBlock 2::qRE [])) cs0) w'):E.G (Go.Conc.served (G (bS.atR a (.inRegion Ds [2,3,4,5]::.inBlock 2::qRE [])) cs0) (zAV #[zAR c1 zo] (.recv zb) 0 (.agg ⟨A.cs⟩) I)) w:=by
 have hfE:(frB N w g hM.size).has E:=q7J hE
 have hst:Go.Conc.served (G (bS.atR a (.inRegion Ds [2,3,4,5]::.inBlock 2::qRE [])) cs0) (zAV #[zAR c1 zo] (.recv zb) 0 (.agg ⟨A.cs⟩) I)=G (bS.atR (a.put (O 66) (.agg ⟨A.cs⟩)) (.inRegion Ds [3,4,5]::.inBlock 2::qRE [])) cs0:=by
  have:=zBe bS a Ds 2 [3,4,5] (.inBlock 2::qRE []) (.agg ⟨A.cs⟩);exact zK (λf=>G f cs0) this
 rw[hst]
 have hA0:Stn 88 (frB N w g hM.size) [] [(66,.v (.agg ⟨A.cs⟩)),(64,.row 10 oa ans.length cap),(2,.v vl),(7,.v (.pointer (O p7))),(12,.v (.pointer (O p12))),(13,.v (.chan (O c0))),(14,.v (.chan (O c1))),(15,.v (.chan (O c2)))] ⟨g,[.blk 0 N 44 (cs.map .v),.row 10 oa ans.length cap 55 13 (ans.map (·.cs)).flatten],40,N⟩ (a.put (O 66) (.agg ⟨A.cs⟩)) w:=by
  refine hM.stn (by simp[zBg,hA.size]) hA.defers λn u hu=>?_;simp only[AS]at hu
  repeat' split at hu
  all_goals first|(cases hu;done)|skip
  all_goals(rename_i hbq;obtain rfl:=zP hbq;obtain rfl:=zv hu)
  .exact q4D (by rw[hA.size];decide)
  .rw[qGA sb];exact h64
  .rw[qGA sb];exact hA.t2
  .rw[qGA sb];exact hA.t7
  .rw[qGA sb];exact hA.t12
  .rw[qGA sb];exact hA.t13
  .rw[qGA sb];exact hA.t14
  .rw[qGA sb];exact hA.t15
 refine qRB (τ:=[3,4,5]) (rest:=[]) hfE ((qaA E).snd _ hfE) si hA0 (K:=λsl' hs'=>∀a' w',Stn 88 (frB N w g hM.size) [] sl' hs' a' w'->E.G (G (bS.atR a' (.inRegion Ds []::.inBlock 2::qRE [])) cs0) w') (zq ?_) (λ_ _ a' w' h h'=>h a' w' h');intros;refine⟨⟨by unfold zAr;omega,sa⟩,zq ?_⟩;intros;intro a2 w2 hA2;have hS:∀(n:Z){u:SV}{v:zg},AS _ n=O u->Ae u=v->a2.tmps[n]?=O v:=λn{u v}h e=>e▸hA2.Au n u h;have hw:=hA2.sim.sub (rs:=_) (nx:=40) (zCe _ _);refine hK a2 w2 _ _ ⟨hA2.size,hS 2 rfl rfl,hS 7 rfl rfl,hS 12 rfl rfl,hS 13 rfl rfl,hS 14 rfl rfl,hS 15 rfl rfl,hS 16 rfl (by simp[Ae];exact⟨rfl,rfl⟩),hA2.defers⟩ (hw.fit ?_);simp[Az,Res.eqv,qDA,Ae]
structure SP where
 w0:zp
 N:Z
 c0:Z
 c1:Z
 c2:Z
 b7:Z
 b12:Z
 cs7:F zg
 g0:GW
 vl:zg
 l:F OpD
 Inv:Z->Wd->F Ans->Prop
 zi:zg
 zo:zg
 cs0:F zAt
structure SP.ok(p:SP):Prop where
 plc:Plc p.w0.heap.size p.N p.c0 p.c1 p.c2 p.b7 p.b12
 hzi:ZV 167 p.zi
 hzo:ZV 89 p.zo
 hl:rSl 10 rOp p.g0 p.vl p.l
 hl2:p.l.length<=200
 hsv:qcL p.l p.Inv
def SP.X(p:SP)(h:zg):Seat:=qYJ p.zo bS [] p.cs0 p.vl h ⟨p.b7,0,zc⟩ ⟨p.b12,0,zc⟩ p.c0 p.c1 p.c2
def SP.S(p:SP)(h:zg):Seat:=Seat.one p.c0 p.zi I (qHM h p.c0 p.c1 p.c2 p.N)
def SP.hs(p:SP)(g:GW)(cs:F zg)(oa:zs zAH)(cap:Z)(h:F Ans):Hs:=⟨g,[.blk 0 p.N 44 (cs.map .v),.row 10 oa h.length cap 55 13 (h.map (·.cs)).flatten],40,p.N⟩
def SP.J(p:SP)(h q:Z)(hs:Hs)(w:zp):Prop:=JC p.w0 p.N p.c0 p.c1 p.c2 p.b7 p.b12 p.cs7 h q hs w
structure SP.K(p:SP)(i:Z)(g:GW)(cs:F zg)(W:Wd)(given:F Ans)(vg:zg):Prop where
 le:p.g0<=g
 wo:rWo g cs W
 inv:p.Inv i W given
 len:given.length=i
 gv:rSl 13 F7 g vg given
 old:∀n,n<p.w0.heap.size->g.g n->p.g0.g n
def SP.G1(p:SP)(i:Z)(m:Machine)(B:zDQ):Prop:=
 ∃s a u h w o g cs C q A cap,0<s/\p.l[i]?=O o/\Hw h p.c0 p.c1 p.c2 p.N a/\p.J (i+1) i (p.hs g cs A cap q) u/\p.K i g cs C q h/\rOp g w o/\
  Two X0 p.N (p.X (.slice A q.length cap)) (p.S h) s s (Go.Conc.served (F3 a) (zAV #[zAR p.c0 p.zi] (.recv I) 0 (.agg ⟨w⟩) I)) u m B
def SP.I9(p:SP)(i:Z)(m:Machine)(B:zDQ):Prop:=
 ∃s a w A g cs C h u q cap,0<s/\BI p.vl (.slice q h.length cap) ⟨p.b7,0,zc⟩ ⟨p.b12,0,zc⟩ p.c0 p.c1 p.c2 a/\a.tmps[64]?=O (.slice q h.length cap)/\p.J (i+1) (i+1) (p.hs g cs q cap h) w/\u.ok/\p.K (i+1) g cs C (h++[u]) A/\
  Two X0 p.N (p.X (.slice q h.length cap)) (p.S A) s 0 (Go.Conc.served (G (bS.atR a (.inRegion Ds [2,3,4,5]::.inBlock 2::qRE [])) p.cs0) (zAV #[zAR p.c1 p.zo] (.recv zb) 0 (.agg ⟨u.cs⟩) I)) w m B
def SP.Lm(p:SP)(i D E:Z)(oa:zs zAH)(cap:Z)(u:F Ans)(g:zH)(w:zp):Prop:=
 ∃h A B C H q,g=G (bV.atR h (.inRegion qPF [2]::qyI)) [BM]/\Hw C p.c0 p.c1 p.c2 p.N h/\h.tmps[37]?=O (.chan (O p.c1))/\h.tmps[38]?=O (.agg ⟨q.cs⟩)/\q.ok/\p.K (i+1) A B H (u++[q]) C/\p.J D E (p.hs A B oa cap u) w
def q2V{p:SP}(hp:p.ok){i}{m}{T}(h:p.G1 i m T):Go.Duo.Comes X0 m T (p.I9 i):=by
 obtain⟨s,a,w,vg,ec,o,g,cs,W,ans,oa,cap,hs0,ho,hA,hJ,hK,hop,h2⟩:=h;have hi:i<p.l.length:=(zd.1 ho).1;have hXc:∀va c,(p.X va).has c->c=p.c1:=λva c hc=>Seat.one_has.1 hc;have hSc:∀vg c,(p.S vg).has c->c=p.c0:=λvg c hc=>Seat.one_has.1 hc
 have hG:(⟨p.N,zb,λ_ _ _ _=>zV,p.Lm i (i+1) i oa cap ans⟩:Env X0).G (Go.Conc.served (F3 a) (zAV #[zAR p.c0 p.zi] (.recv I) 0 (.agg ⟨ec⟩) I)) w:=by
  refine qDT (E:=⟨p.N,zb,λ_ _ _ _=>zV,p.Lm i (i+1) i oa cap ans⟩) (N:=p.N) hp.hsv (zG _) hK.inv ho hK.wo hop hK.gv (by have:=hK.len;have:=hp.hl2;omega) hA (rs:=[.row 10 oa ans.length cap 55 13 (ans.map λ(x:Ans)=>x.cs).flatten]) hJ.mine ?_;intro a' w' g' cs' vg' W' A nx e1 e2 e3 e4 e5 e6 e7 e8 e9;refine qpL λd=>⟨a',g',cs',vg',W',A,rfl,e1,e2,e3,e6,⟨GW.trans hK.le e4,e5,e7,by have:=hK.len;simp;omega,e8,λn hn hg=>hK.old n hn (e9.fz n (zQ hn (zZ hp.plc.l0.1 (zC1 hp.plc.l0.2))) hg)⟩,?_⟩;exact JC.at (JC.next hp.plc hJ (e9.fit (nx':=40) (by simp[Az,Res.eqv])) (zG _)) d
 refine(qrP sf (λc hc=>by rw[hXc _ _ hc];exact hp.plc.l1.2) (λc hc=>by rw[hSc _ _ hc];exact hp.plc.l0.2) (λ_ _ _ _ h=>h) hG h2).trans ?_;rintro m1 T1 ⟨g1,w1,⟨a',g',cs',vg',W',A,rfl,e1,e2,e3,e4,e5,e6⟩,h3⟩;have h4:=qtS hs0 (S':=p.S vg') (Seat.one_wf ..) (λc hc hc'=>hp.plc.d01 ((hSc _ _ hc').symm.trans (hXc _ _ hc))) (λc hc=>by rw[hSc _ _ hc];exact⟨0,_,e6.h0⟩) (λc hc=>by rw[hSc _ _ hc];exact hp.plc.l0.2) h3;refine(qrS hs0 (z:=p.zo) (v:=.agg ⟨A.cs⟩) (c:=p.c1) rfl rfl (λd=>(q4X e2 e3 _).1) (by rw[(q4X e2 e3 w1).2];exact q4a hp.hzi e1) h4).mono ?_;rintro m2 T2 ⟨g₂,d,k,cap',⟨a2,hM,h64,rfl⟩,hc,h5⟩;have hc':=e6.h1;rw[hc]at hc';simp only[zAk,Obj.chan.injEq]at hc';obtain⟨rfl,_,_,rfl,_⟩:=hc';exact⟨s,a2,_,vg',g',cs',W',ans,A,oa,cap,hs0,hM,h64,(e6.at d).Nk hp.plc (k+1),e4,e5,h5⟩
def SP.KQ(p:SP)(i:Z)(m:Machine)(A:zDQ):Prop:=
 ∃s a q u g cs B h w cap,0<s/\p.l.length=i/\BI p.vl (.slice w h.length cap) ⟨p.b7,0,zc⟩ ⟨p.b12,0,zc⟩ p.c0 p.c1 p.c2 a/\a.tmps[69]?=O (.chan (O p.c0))/\p.J i i (p.hs g cs w cap h) q/\p.K i g cs B h u/\
  ∃C,Two X0 p.N (p.X C) (p.S u) s 0 (G (bS.atR a (.inRegion Gm [1]::.code (tlC q8B)::[])) p.cs0) q m A
def SP.KN(p:SP)(i:Z)(g:GW)(cs:F zg)(q:F Ans)(gr:zH)(w:zp):Prop:=
 ∃h u A,BI p.vl (.slice u q.length A) ⟨p.b7,0,zc⟩ ⟨p.b12,0,zc⟩ p.c0 p.c1 p.c2 h/\p.J (i+1) (i+1) (p.hs g cs u A q) w/\
  ((∃o B,p.l[i+1]?=O o/\rOp g B o/\h.tmps[58]?=O (.chan (O p.c0))/\h.tmps[63]?=O (.agg ⟨B⟩)/\gr=G (bS.atR h (.inRegion CH [6]::.code (tlC qzH)::.inBlock 2::qRE [])) p.cs0)\/
   (p.l.length=i+1/\h.tmps[69]?=O (.chan (O p.c0))/\gr=G (bS.atR h (.inRegion Gm [1]::.code (tlC q8B)::[])) p.cs0))
def qsZ{g}{w}(h:Go.Proofs.YtlmhpamhhgogaaaGreat.Sx.Good g w)(d):Go.Proofs.YtlmhpamhhgogaaaGreat.Sx.Good g (w.at d):=⟨h.1,h.2⟩
def qrZ{p:SP}(hp:p.ok){i:Z}{g:GW}{cs:F zg}{q:F Ans}(P:p.g0<=g)(V:q.length=i+1)(ao:i+1<=p.l.length){a:zDN}{w:zp}{oa:zs zAH}{cap:Z}(hA:BI p.vl (.slice oa q.length cap) ⟨p.b7,0,zc⟩ ⟨p.b12,0,zc⟩ p.c0 p.c1 p.c2 a)(A:p.J (i+1) (i+1) (p.hs g cs oa cap q) w){E:Env X0}(hE:E.main=I)(Q:∀gr w,p.KN i g cs q gr w->E.Stop gr w):E.G (G (bS.atR a (.code qlH::qRE [])) p.cs0) w:=by
 have W:Go.Proofs.YtlmhpamhhgogaaaGreat.Sx.Good g w:=A.mine.AJ
 have R:∀(h:zp)(d:Z),(∃d,h=w.at d)->∃T,h.at d=w.at T:=by
  rintro _ d ⟨T,rfl⟩;exact⟨d,rfl⟩
 obtain⟨ol,cl,C,ap,aq,ar,Y⟩:=id hp.hl;rw[C]at hA;by_cases aa:i+1<p.l.length
 .obtain⟨o,U⟩:∃o,p.l[i+1]?=O o:=⟨_,zAe aa⟩;obtain⟨al,rfl,ab,ac,ad,ae⟩:=Y _ o U;have af:al.block<al.block+1:=sa
  obtain⟨n,hW⟩:=qpP (B:=al.block+1) (K:=λh=>∃d,h=w.at d) (Stop:=λgr=>∀h,(∃d,h=w.at d)->E.Stop gr h) (al:=al) (oa:=oa) (L:=p.l.length) (i:=q.length) (cl:=cl) (ca:=cap) (b:=bS) (k:=[]) (cs:=p.cs0) rfl sa ac af (λh⟨d,u⟩j ag ah=>by
   subst u;rw[V];exact(ae j ag ah).at (Go.Proofs.YtlmhpamhhgogaaaGreat.Sx.Good.of_le P (qsZ W d))) Md Mc hA λD H ai aj h⟨d,u⟩=>by
    subst u;exact Q _ _ ⟨D,oa,cap,by rw[C];exact H,JC.at A d,.inl ⟨o,ab,U,qzE _ _ _ _ P ad,ai,aj,rfl⟩⟩
  exact qiS hE R hW ⟨w.drawn,rfl⟩ λak M=>.stop λd=>M _ ⟨d,rfl⟩
 .obtain⟨n,hW⟩:=qjS (B:=0) (K:=λh=>∃d,h=w.at d) (Stop:=λgr=>∀h,(∃d,h=w.at d)->E.Stop gr h) (ol:=ol) (oa:=oa) (L:=p.l.length) (i:=q.length) (cl:=cl) (ca:=cap) (b:=bS) (k:=[]) (cs:=p.cs0) rfl sa hA λD H an h⟨d,u⟩=>by
    subst u;exact Q _ _ ⟨D,oa,cap,by rw[C];exact H,JC.at A d,.inr ⟨sa,an,rfl⟩⟩
  exact qiS hE R hW ⟨w.drawn,rfl⟩ λak M=>.stop λd=>M _ ⟨d,rfl⟩
def qQU{p:SP}(hp:p.ok){i}(hi:i<p.l.length){m}{T}(h:p.I9 i m T):Go.Duo.Comes X0 m T λm' T'=>p.G1 (i+1) m' T'\/p.KQ (i+1) m' T':=by
 obtain⟨s,a,w,vg,g,cs,W,ans,A,oa,cap,hs0,hA,h64,hJ,hok,hK,h2⟩:=h;have hXc:∀va c,(p.X va).has c->c=p.c1:=λva c hc=>Seat.one_has.1 hc;have hSc:∀vg c,(p.S vg).has c->c=p.c0:=λvg c hc=>Seat.one_has.1 hc;have hlen:=hK.len;have hl1:ans.length=i:=by simp at hlen;omega
 have hG:(⟨p.N,I,λ_ _ _ _=>zV,p.KN i g cs (ans++[A])⟩:Env X0).G (Go.Conc.served (G (bS.atR a (.inRegion Ds [2,3,4,5]::.inBlock 2::qRE [])) p.cs0) (zAV #[zAR p.c1 p.zo] (.recv zb) 0 (.agg ⟨A.cs⟩) I)) w:=by
  refine q1R (E:=⟨p.N,I,λ_ _ _ _=>zV,p.KN i g cs (ans++[A])⟩) (N:=p.N) (zG _) hA h64 (by have:=hp.hl2;omega) hJ.mine ?_;intro a' w' oa' cap' hA' hs';refine .quiet rfl (λ_=>quA) (.quiet rfl (λ_=>qIG) (.quiet rfl (λ_=>qRJ) ?_));exact qrZ hp hK.le hlen hi hA' (JC.next hp.plc hJ hs' (zG _)) rfl λ_ _ h=>h
 refine(qrP sd (λc hc=>by rw[hXc _ _ hc];exact hp.plc.l1.2) (λc hc=>by rw[hSc _ _ hc];exact hp.plc.l0.2) (λ_ _ _ _ h=>h) hG h2).trans ?_;rintro m1 T1 ⟨g1,w1,⟨a',oa',cap',hA',hJ',⟨o,ec,ho,hop,h58,h63,rfl⟩|⟨hl,h69,rfl⟩⟩,h3⟩
 .obtain⟨dir,e,ht,hz⟩:=hp.hzo;have h4:=qjM hs0 (X':=p.X (.slice oa' (ans++[A]).length cap')) (Seat.one_wf ..) (λc hc hc'=>hp.plc.d01 ((hSc _ _ hc).symm.trans (hXc _ _ hc'))) (λc hc=>by rw[hXc _ _ hc];exact⟨0,_,hJ'.h1⟩) (λc hc=>by rw[hXc _ _ hc];exact hp.plc.l1.2) h3;refine(qsS hs0 (z:=p.zi) (v:=.agg ⟨ec⟩) (c:=p.c0) rfl rfl (λd=>(q9Q rfl (by simp[bS]) h58 h63 _).1) (by rw[(q9Q rfl (by simp[bS]) h58 h63 w1).2];exact qFE (qeX rfl (by simp[bS]) hA' qJc ht hz)) h4).mono ?_;rintro m2 T2 ⟨g₂,d,k,cap2,⟨a2,hM,rfl⟩,hc,h5⟩;have hc':=hJ'.h0;rw[hc]at hc';simp only[zAk,Obj.chan.injEq]at hc';obtain⟨rfl,_,_,rfl,_⟩:=hc';exact .inl ⟨s,a2,_,vg,ec,o,g,cs,W,ans++[A],oa',cap',hs0,ho,hM,(hJ'.at d).Ll hp.plc _,hK,hop,h5⟩
 .exact .now (.inr ⟨s,a',w1,vg,g,cs,W,ans++[A],oa',cap',hs0,hl,hA',h69,hJ',hK,_,h3⟩)
def qEO{p:SP}(hp:p.ok):∀(n i:Z){m:Machine}{q:zDQ},i+n+1=p.l.length->p.G1 i m q->Go.Duo.Comes X0 m q (p.KQ p.l.length)
 |n,i,m,q,C,w=>by
  refine(q2V hp w).trans λD E A=>(qQU hp sa A).trans λH L h=>?_;rcases h with h|h
  .cases n with
   |zero=>
    obtain⟨_,_,_,_,_,o,_,_,_,_,_,_,_,B,_⟩:=h;have:=(zd.1 B).1;omega
   |succ n=>exact qEO hp n (i+1) sa h
  .have u:p.l.length=i+1:=by obtain⟨_,_,_,_,_,_,_,_,_,_,_,u,_⟩:=h;exact u
   rw[u];exact .now h
noncomputable def qEH:zDT:=qDM (GX (tlC q8B))
end Go.Proofs.YtlmhpamhhgogaaaGreat
namespace Go.Proofs.YtlmhpamhhgogaaaGreat
open Go.Conc (G born parked rcase rcaseNil scase AtIn Sits Seat)
open Go.Proofs.YtlmhpamhhgogaaaGreat.Sx Go.Duo Go.RowKit
structure MQ(va:zg)(b7 b12 c1 c2:Z)(live:zM)(a:zDN):Prop where
 size:a.tmps.size=88
 t7:a.tmps[7]?=O (.pointer (O ⟨b7,0,zc⟩))
 t12:a.tmps[12]?=O (.pointer (O ⟨b12,0,zc⟩))
 t14:a.tmps[14]?=O (.chan (if live then O c1 else zc))
 t15:a.tmps[15]?=O (.chan (O c2))
 t16:a.tmps[16]?=O va
 defers:a.defers=[]
section
variable{va:zg}{b7 b12 c1 c2:Z}{live:zM}{a:zDN}
def MQ.put(h:MQ va b7 b12 c1 c2 live a){d}(hd:d≠7/\d≠12/\d≠14/\d≠15/\d≠16)(v):MQ va b7 b12 c1 c2 live (a.put (O d) v):=
 ⟨by simp[zBg,h.size],by rw[qGA hd.1];exact h.t7,by rw[qGA hd.2.1];exact h.t12,by rw[qGA hd.2.2.1];exact h.t14,by rw[qGA hd.2.2.2.1];exact h.t15,by rw[qGA hd.2.2.2.2];exact h.t16,h.defers⟩
def MQ.get(h:MQ va b7 b12 c1 c2 live a){d}(hd:d<88)(v):(a.put (O d) v).tmps[d]?=O v:=q4D (by rw[h.size];exact hd)
end
noncomputable def qTL:zDT:=GX qEH
noncomputable def q0I:zR zDO:=Gv (hdC (tlC qTL))
noncomputable def qpN:zDT:=tlC (tlC qTL)
noncomputable def qPJ:F Item:=[.inLoop qEH,.inBlock 3]
noncomputable def Fj(cs0:F zAt)(a:zDN):zH:=G (bS.atR a (.inRegion q0I [0,1,2,3]::.code qpN::.inBlock 4::qPJ)) cs0
def ZT(t:Z)(z:zg):Prop:=∀h,(zAZ t).run X0 h=.ok z h/\(zAZ t).events X0 h #[]=#[]
abbrev zAn:zg:=.agg ⟨[.int .i64 0,.int .i64 0,.int .i64 0,.int .i64 0,.int .i64 0,.int .i64 0,.int .i64 0,.int .u64 0,.int .u64 0,.int .u64 0,.int .u64 0,.int .u64 0,.int .u64 0]⟩
def qhV{t}{z}(h:(X0.info? t).bind (·.zero)=O z):ZT t z:=by
 obtain⟨i,q,u⟩:=zAD.1 h;exact qjP q u
def L5:ZT 44 (.agg zW):=qhV se
def L4:ZT 55 zAn:=qhV se
def qdY{P}{ρ}{o}{x y}{e1 e2}{q u z1 z2}(hop:o.op=.select #[{chan:=x,send:=zc,elem:=e1},{chan:=y,send:=zc,elem:=e2}] I)(A:ρ x=q)(B:ρ y=u)(h:∀w,(zAZ e1).run P w=.ok z1 w/\(zAZ e1).events P w #[]=#[])(h2:∀w,(zAZ e2).run P w=.ok z2 w/\(zAZ e2).events P w #[]=#[])(w):(zy ρ o).run P w=.ok (.comm #[{chan:=q,send:=zc,zero:=z1},{chan:=u,send:=zc,zero:=z2}] I .select) w/\(zy ρ o).events P w #[]=#[]:=by
 unfold zy;simp only[hop];constructor
 .simp[go_sem,A,B,zAa,(h w).1,(h2 w).1,zAo]
 .simp[go_sem,A,B,zAa,(h w).1,(h2 w).1,(h w).2,(h2 w).2,zBJ,zAo]
def q3a{cs0}{va}{b7 b12 c1 c2}{live}{a}(h:MQ va b7 b12 c1 c2 live a)(h70:a.tmps[70]?=O (.chan (O c2)))(h71:a.tmps[71]?=O (.chan (if live then O c1 else zc))):Hx X0 c2 c1 (.agg zW) zAn live (Fj cs0 a) (Fj cs0 a):=by
 refine⟨rfl,rfl,rfl,rfl,λw=>?_⟩;obtain⟨o,ho,hg,hop⟩:∃o,q0I[0]?=O o/\o.guard=zc/\o.op=.select #[{chan:=.tmp 70,send:=zc,elem:=44},{chan:=.tmp 71,send:=zc,elem:=55}] I:=⟨_,rfl,rfl,rfl⟩;have hr:=λw=>qdY (P:=X0) (ρ:=a.eval) hop (qFA h70) (qFA h71) L5 L4 w;unfold Fj;rw[Frame.atR_of_none rfl,Go.Conc.stepG_comm ho (by simp[zAs,hg]) (by simp[bS]) (hr w).1,Go.Conc.listed_none (hr w).2];cases live<;>rfl
end Go.Proofs.YtlmhpamhhgogaaaGreat
namespace Go.Duo
open Go.Conc
open Go.Proofs.YtlmhpamhhgogaaaGreat.Sx
section
variable{P:zt}
inductive F9(P:zt)(main:zM):zH->zH->Prop
 |refl (g:zH):F9 P main g g
 |step {g g' g'':zH} (h:Still P main g g') (k:F9 P main g' g''):F9 P main g g''
def qXT{Q}{g g'}(h:F9 P I g g'):(∃n,Cm P Q n g')->∃n,Cm P Q n g:=by
 induction h with
 |refl=>exact id
 |step h _ q=>exact λk=>qYT h (q k)
section
variable{co cl:Z}{Wv zW zA:zg}{Fin:zH->zp->Prop}{got live:zM}
def REc(co cl:Z)(K:zp->Prop):Prop:=∀h q,RE co cl h q->K h->K q
def qWA{K}(u:REc co cl K){g g'}(h:Still P I g g')(k:∀w,K w->ME P co cl Wv zW zA Fin got live g' w):∀w,K w->ME P co cl Wv zW zA Fin got live g w:=λw A=>
 .step h.1 (λ_=>g') id (λ_=>#[]) (λq _=>⟨h.2 q,rfl,rfl,λe B=>by simp at B⟩) λq C=>k q (u w q C A)
def qPU{K}(q:REc co cl K){g g'}(h:F9 P I g g'):(∀w,K w->ME P co cl Wv zW zA Fin got live g' w)->∀w,K w->ME P co cl Wv zW zA Fin got live g w:=by
 induction h with
 |refl=>exact id
 |step h _ u=>exact λk=>qWA q h (u k)
def qvW{K K':zp->Prop}(C:REc co cl K){b:zAt}{a:zDN}{k:F Item}{cs:F zAt}{ops:zR zDO}{i:Z}{rest:F Z}{o:zDO}(hb:b.roundOf=zc)(A:ops[i]?=O o)(D:o.guard=zc){v:zg}{nx:Next}(Q:nx=.value v\/nx=.skip/\v=zAX)(R:∀w,K w->∃w',(zy a.eval o).run P w=.ok nx w'/\(∀e∈(zy a.eval o).events P w #[],∃x,e.loc=.cell x)/\w'.heap[co]?=w.heap[co]?/\w'.heap[cl]?=w.heap[cl]?/\K' w')(h:∀w,K' w->ME P co cl Wv zW zA Fin got live (G (b.atR (a.put o.dst v) (.inRegion ops rest::k)) cs) w):∀w,K w->ME P co cl Wv zW zA Fin got live (G (b.atR a (.inRegion ops (i::rest)::k)) cs) w:=by
 intro w E
 have T:∀q,∃w',K q->(zy a.eval o).run P q=.ok nx w'/\(∀e∈(zy a.eval o).events P q #[],∃x,e.loc=.cell x)/\w'.heap[co]?=q.heap[co]?/\w'.heap[cl]?=q.heap[cl]?/\K' w':=λq=>by
  by_cases H:K q
  .obtain⟨w',U⟩:=R q H;exact⟨w',λ_=>U⟩
  .exact⟨q,λh=>absurd h H⟩
 obtain⟨V,L⟩:=zCA T;refine .step rfl (λ_=>_) V (λq=>lst P (b.atR a (.inRegion ops (i::rest)::k)) (zy a.eval o) q) (λq B=>?_) λq B=>h _ (L q (C w q B E)).2.2.2.2;obtain⟨M,W,Y,aa,_⟩:=L q (C w q B E);refine⟨?_,Y,aa,λe u=>W e ?_⟩
 .have hs:o.semAt b.roundOf a.eval=zy a.eval o:=by rw[hb];rfl
  rcases Q with rfl|⟨rfl,rfl⟩
  .rw[qkL A (by simp[zAs,D]),hs,q0C M,zBe,A];rfl
  .rw[qkL A (by simp[zAs,D]),hs,qYI M,zBe,A];rfl
 .unfold lst at u;split at u
  .rw[seen_none]at u;simp at u
  .exact mem_seen u
end
end
end Go.Duo
namespace Go.Proofs.YtlmhpamhhgogaaaGreat.Sx
open Go.Duo
def Cb.off{B}{hs}{w w'}(S:Z->Prop)(h:Cb B hs w)(u:∀n,S n->n∉hs.bks/\¬hs.g.g n)(q:w'.heap.size=w.heap.size)(A:∀n,¬S n->w'.heap[n]?=w.heap[n]?):Cb B hs w':=
 ⟨by rw[q];exact h.size,⟨⟨by rw[q];exact h.sim.AJ.1,λn C=>(A n λhs=>(u n hs).2 C).trans (h.sim.AJ.2 n C)⟩,⟨rfl,rfl,rfl,zG _,λ_ _=>rfl⟩,
  λr D=>Res.holds_of (λb E=>A b λhs=>(u b hs).1 (zBA.2 ⟨r,D,E⟩)) (h.sim.res r D),h.sim.nod,h.sim.fre,λ_ _ H=>H,h.sim.own,by rw[q];exact h.sim.low.1,h.sim.low.2⟩,h.lo⟩
def Cb.low{B}{hs}{w}(h:Cb B hs w){n}(q:n<B):n∉hs.bks:=λu=>(h.sim.fre n u).2 q
end Go.Proofs.YtlmhpamhhgogaaaGreat.Sx
namespace Go.Proofs.YtlmhpamhhgogaaaGreat
open Go.Conc (G)
open Go.Proofs.YtlmhpamhhgogaaaGreat.Sx Go.Duo Go.RowKit
section
variable{P:zt}{ρ:Operand->zg}{o:zDO}
def qPI{n h}{vs}{v}(hop:o.op=.extract (.tmp n) h)(q:ρ (.tmp n)=.tuple vs)(u:vs[h]?=O v)(w):(zy ρ o).run P w=.ok (.value v) w/\(zy ρ o).events P w #[]=#[]:=by
 unfold zy;simp only[hop,q];constructor<;>simp[Instr.extract,u]
def qNM{n}{x y}{h k2}(hop:o.op=.binOp .eql h (.tmp n) (.const (.int .i64 y)) k2)(q:ρ (.tmp n)=.int .i64 x)(hc:ρ (.const (.int .i64 y))=.int .i64 y)(w):(zy ρ o).run P w=.ok (.value (.bool (x==y))) w/\(zy ρ o).events P w #[]=#[]:=by
 unfold zy;simp only[hop,q,hc];constructor<;>simp[go_sem]
def qHU{n}{k}{x}(hop:o.op=.unOp .not k (.tmp n))(h:ρ (.tmp n)=.bool x)(w):(zy ρ o).run P w=.ok (.value (.bool (!x))) w/\(zy ρ o).events P w #[]=#[]:=by
 unfold zy;simp only[hop,h];constructor<;>simp[go_sem,Op.unary]
def qTZ{t}{z}(hop:o.op=.alloc t)(h:∀w,(zAZ t).run P w=.ok z w/\(zAZ t).events P w #[]=#[])(w):(zy ρ o).run P w=.ok (.value (.pointer (O ⟨w.heap.size,0,zc⟩))) (w.alloc (.cells z.cells t))/\(zy ρ o).events P w #[]=#[]:=by
 unfold zy;simp only[hop];constructor
 .simp[Instr.alloc,zAa,(h w).1,newVar,newRow,zAo]
 .simp[Instr.alloc,zAa,(h w).1,(h w).2,newVar,newRow,zBJ,zAo]
def q8S{t}{n m b size}{ty}{cs}{vs}(hop:o.op=.store t (.tmp n) (.tmp m))(C:ρ (.tmp n)=.pointer (O ⟨b,0,zc⟩))(D:ρ (.tmp m)=.agg ⟨vs⟩)(hs:qQB P t=O size)(hl:vs.length=size)(hc:cs.length=size)(q:∀v∈vs,v.oneCell'=I){w}(hb:w.heap[b]?=O (.cells ⟨cs⟩ ty (0,0))):∃w',(zy ρ o).run P w=.ok .skip w'/\(∀e∈(zy ρ o).events P w #[],∃x,e.loc=.cell x)/\w'.heap[b]?=O (.cells ⟨vs⟩ ty (0,0))/\w'.heap.size=w.heap.size/\(∀k,k≠b->w'.heap[k]?=w.heap[k]?)/\w'.os=w.os/\w'.tape=w.tape/\w'.output=w.output:=by
 obtain⟨w',u,E,H,L,M,Q,R⟩:=quB (P:=P) vs 0 0 w cs hb sf q;have T:(Instr.storeAt t (.pointer (O ⟨b,0,zc⟩)) (.agg ⟨vs⟩)).run P w=.ok () w':=q2D hs (by simp[Value.cells,hl]) (by simpa[Value.cells]using u);have A:zy ρ o=(do Instr.storeAt t (.pointer (O ⟨b,0,zc⟩)) (.agg ⟨vs⟩);pure .skip):=by unfold zy;simp only[hop,C,D]
 refine⟨w',by rw[A,zAa,T];rfl,λe B=>?_,by rw[E];simp[hc,hl],H,L,M,Q,R⟩;have U:(sizeOf t).events P w #[]=#[]:=by simp[sizeOf,typeInfo];split<;>simp
 have V:(zy ρ o).events P w #[]=(storeCells ⟨b,0,zc⟩ vs 0).events P w #[]:=by
  rw[A];simp[Instr.storeAt,Instr.sureAddr,storeVar,Sem.events_bind,qwA hs,U,zBJ,Value.cells,hl,u]
 rw[V]at B;rcases events_storeCells_at (P:=P) b 0 ty vs 0 ⟨cs⟩ w #[] hb sf q e B with h|⟨x,h,_⟩
 .simp at h
 .exact⟨x,h⟩
def qcZ{n t size}{b}{ty}{ec}{w}(hop:o.op=.load t (.tmp n))(B:ρ (.tmp n)=.pointer (O ⟨b,0,zc⟩))(hs:qQB P t=O size)(ha:BP P t=O I)(hl:ec.length=size)(hb:w.heap[b]?=O (.cells ⟨ec⟩ ty (0,0))):(zy ρ o).run P w=.ok (.value (.agg ⟨ec⟩)) w/\∀e∈(zy ρ o).events P w #[],∃x,e.loc=.cell x:=by
 have q:∀j h,ec[j]?=O h->w.cell? ((⟨b,0,zc⟩:zAH).add j)=O h:=λj h C=>by
  rw[qlA,zAu,qCB hb];simpa using C
 have e:zy ρ o=(do pure (.value (<-zBv t (.pointer (O ⟨b,0,zc⟩))))):=by unfold zy;simp only[hop,B]
 have u:(zBv t (.pointer (O ⟨b,0,zc⟩))).run P w=.ok (.agg ⟨ec⟩) w:=by
  simp[zBv,Instr.sureAddr,(qnB hs ha (w:=w) (a:=⟨b,0,zc⟩)).2 ec rfl hl q]
 rw[e];refine⟨by rw[zAa,u];rfl,λev A=>?_⟩
 have D:(do pure (Next.value (<-zBv t (.pointer (O ⟨b,0,zc⟩)))):Sem Next).events P w #[]=(zBv t (.pointer (O ⟨b,0,zc⟩))).events P w #[]:=by
  simp[Sem.events_bind,u,zBJ]
 rw[D]at A
 obtain⟨E,H,_⟩:=qRU hs ha (λj L=>by
  have:ec[j]?=O ec[j]:=zAe sa
  rw[q j _ this];rfl) ev A
 exact⟨E,H⟩
end
end Go.Proofs.YtlmhpamhhgogaaaGreat
namespace Go.Proofs.YtlmhpamhhgogaaaGreat
open Go.Conc (G rcase rcaseNil)
open Go.Proofs.YtlmhpamhhgogaaaGreat.Sx Go.Duo Go.RowKit
structure Pl2(n0 N c1 c2 b7 b12:Z):Prop where
 l1:n0<=c1/\c1<N
 l2:n0<=c2/\c2<N
 l7:n0<=b7/\b7<N
 l12:n0<=b12/\b12<N
 d12:c1≠c2
 d:b7≠b12
 e1:b7≠c1
 e2:b7≠c2
 e3:b12≠c1
 e4:b12≠c2
structure JQ(w0:zp)(N c1 c2 b7 b12:Z)(x12:F zg)(hs:Hs)(w:zp):Prop where
 mine:Cb N hs w
 below:Below w0.heap.size w0 w
 m7:w.heap[b7]?=O (.cells zW 44 (0,0))
 m12:w.heap[b12]?=O (.cells ⟨x12⟩ 44 (0,0))
 ng:¬hs.g.g c1/\¬hs.g.g c2/\¬hs.g.g b7/\¬hs.g.g b12
section
variable{w0 w w':zp}{N c1 c2 b7 b12:Z}{x12 y12:F zg}{hs:Hs}
def JQ.off(S:Z->Prop)(h:JQ w0 N c1 c2 b7 b12 x12 hs w)(A:∀n,S n->w0.heap.size<=n/\n∉hs.bks/\¬hs.g.g n)(B:w'.heap.size=w.heap.size)(q:∀n,¬S n->w'.heap[n]?=w.heap[n]?)(C:w'.os=w.os)(h2:w'.tape=w.tape)(D:w'.output=w.output)(E:¬S b7)(H:w'.heap[b12]?=O (.cells ⟨y12⟩ 44 (0,0))):JQ w0 N c1 c2 b7 b12 y12 hs w':=
 ⟨h.mine.off S (λn u=>(A n u).2) B q,⟨C.trans h.below.os,h2.trans h.below.tape,D.trans h.below.output,by rw[B];exact h.below.size,λn u=>(q n λhs=>by have:=(A n hs).1;omega).trans (h.below.block n u)⟩,(q b7 E).trans h.m7,H,h.ng⟩
def JQ.re(hp:Pl2 w0.heap.size N c1 c2 b7 b12):REc c1 c2 (JQ w0 N c1 c2 b7 b12 x12 hs):=λw A h q=>
 q.off (λn=>n=c1\/n=c2) (λn u=>by
  rcases u with rfl|rfl
  .exact⟨hp.l1.1,q.mine.low hp.l1.2,q.ng.1⟩
  .exact⟨hp.l2.1,q.mine.low hp.l2.2,q.ng.2.1⟩) h.size (λn u=>h.heap n (λe=>u (.inl e)) (λe=>u (.inr e))) h.os h.tape h.output (λu=>u.elim hp.e1 hp.e2) ((h.heap _ hp.e3 hp.e4).trans q.m12)
def JQ.new(h:JQ w0 N c1 c2 b7 b12 x12 hs w)(o):JQ w0 N c1 c2 b7 b12 x12 hs (w.alloc o):=by
 have q:=Below.AU w o;exact⟨.of (h.mine.sim.agree q) (zZ h.mine.size q.size) h.mine.lo,h.below.alloc h.below.size o,(Go.Duo.heap_alloc_old h.m7).trans h.m7,(Go.Duo.heap_alloc_old h.m12).trans h.m12,h.ng⟩
structure JB(w0:zp)(N c1 c2 b7 b12:Z)(x12:F zg)(hs:Hs)(b:Z)(ty:zAy)(c:F zg)(w:zp):Prop where
 jq:JQ w0 N c1 c2 b7 b12 x12 hs w
 mb:w.heap[b]?=O (.cells ⟨c⟩ ty (0,0))
structure New(N:Z)(hs:Hs)(b:Z):Prop where
 le:N<=b
 nb:b∉hs.bks
 ng:¬hs.g.g b
variable{b:Z}{ty:zAy}{c c':F zg}
def JQ.fresh(h:JQ w0 N c1 c2 b7 b12 x12 hs w):New N hs w.heap.size:=
 ⟨h.mine.size,λq=>Nat.lt_irrefl _ (h.mine.sim.lt q),λu=>by have:=hs.g.wf _ u;have:=h.mine.sim.AJ.1;omega⟩
def JB.re(hp:Pl2 w0.heap.size N c1 c2 b7 b12)(h:New N hs b):REc c1 c2 (JB w0 N c1 c2 b7 b12 x12 hs b ty c):=λw A q u=>
 ⟨JQ.re hp w A q u.jq,(q.heap b (λe=>by have:=h.le;have:=hp.l1;omega) (λe=>by have:=h.le;have:=hp.l2;omega)).trans u.mb⟩
def JB.sto(hp:Pl2 w0.heap.size N c1 c2 b7 b12)(q:New N hs b)(h:JB w0 N c1 c2 b7 b12 x12 hs b ty c w)(A:w'.heap[b]?=O (.cells ⟨c'⟩ ty (0,0)))(h2:w'.heap.size=w.heap.size)(u:∀k,k≠b->w'.heap[k]?=w.heap[k]?)(B:w'.os=w.os)(C:w'.tape=w.tape)(D:w'.output=w.output):JB w0 N c1 c2 b7 b12 x12 hs b ty c' w':=
 ⟨h.jq.off (·=b) (λn e=>by subst e;exact⟨by have:=q.le;have:=hp.l1;omega,q.nb,q.ng⟩) h2 u B C D (λe=>by have:=q.le;have:=hp.l7;omega) ((u _ λe=>by have:=q.le;have:=hp.l12;omega).trans h.jq.m12),A⟩
def JB.MA(hp:Pl2 w0.heap.size N c1 c2 b7 b12)(h:JB w0 N c1 c2 b7 b12 x12 hs b ty c w)(q:w'.heap[b12]?=O (.cells ⟨y12⟩ 44 (0,0)))(h2:w'.heap.size=w.heap.size)(u:∀k,k≠b12->w'.heap[k]?=w.heap[k]?)(A:w'.os=w.os)(B:w'.tape=w.tape)(C:w'.output=w.output):JQ w0 N c1 c2 b7 b12 y12 hs w':=
 h.jq.off (·=b12) (λn e=>by subst e;exact⟨hp.l12.1,h.jq.mine.low hp.l12.2,h.jq.ng.2.2.2⟩) h2 u A B C hp.d q
end
section
variable{w0:zp}{N c1 c2 b7 b12:Z}{x12 csW:F zg}{hs:Hs}{va:zg}{live:zM}{a:zDN}{cs0:F zAt}{Fin:zH->zp->Prop}
def qzL(a)(v):Go.Conc.served (Fj cs0 a) v=G (bS.atR (a.put (O 72) v) (.inRegion q0I [1,2,3]::.code qpN::.inBlock 4::qPJ)) cs0:=by
 have:=zBe bS a q0I 0 [1,2,3] (.code qpN::.inBlock 4::qPJ) v;exact zK (λf=>G f cs0) this
def E1{co cl:Z}{Wv zw za:zg}{got live:zM}{K:zp->Prop}(q:REc co cl K){b:zAt}{a:zDN}{k:F Item}{cs:F zAt}{ops:zR zDO}{i:Z}{rest:F Z}{o:zDO}(hb:b.roundOf=zc){d:Z}{v:zg}(u:ops[i]?=O o)(A:o.guard=zc)(hd:o.dst=O d)(B:∀w,(zy a.eval o).run X0 w=.ok (.value v) w/\(zy a.eval o).events X0 w #[]=#[])(h:∀w,K w->ME X0 co cl Wv zw za Fin got live (G (b.atR (a.put (O d) v) (.inRegion ops rest::k)) cs) w):∀w,K w->ME X0 co cl Wv zw za Fin got live (G (b.atR a (.inRegion ops (i::rest)::k)) cs) w:=by
 refine qWA q (qpM hb u A B) ?_;rw[hd];exact h
def qKI{o}{ρ}{x}{v}(hop:o.op=.move x\/o.op=.assign x)(q:ρ x=v)(w):(zy ρ o).run X0 w=.ok (.value v) w/\(zy ρ o).events X0 w #[]=#[]:=by
 subst q;rcases hop with h|h<;>exact⟨by simp[zy,h],by simp[zy,h]⟩
def qlY(hp:Pl2 w0.heap.size N c1 c2 b7 b12)(n):REc c1 c2 (λw=>JQ w0 N c1 c2 b7 b12 x12 hs w/\w.heap.size=n):=λw u h q=>⟨JQ.re hp w u h q.1,h.size.trans q.2⟩
section
variable{got:zM}{Wv zw za:zg}{b:zAt}{k:F Item}{cs:F zAt}{ops:zR zDO}{i:Z}{rest:F Z}{o:zDO}
def quX(hp:Pl2 w0.heap.size N c1 c2 b7 b12)(hb:b.roundOf=zc){d t}{z}(E:ops[i]?=O o)(H:o.guard=zc)(hd:o.dst=O d)(hop:o.op=.alloc t)(L:ZT t (.agg ⟨z⟩))(h:∀x,New N hs x->∀w,JB w0 N c1 c2 b7 b12 x12 hs x t z w->ME X0 c1 c2 Wv zw za Fin got live (G (b.atR (a.put (O d) (.pointer (O ⟨x,0,zc⟩))) (.inRegion ops rest::k)) cs) w):∀w,JQ w0 N c1 c2 b7 b12 x12 hs w->ME X0 c1 c2 Wv zw za Fin got live (G (b.atR a (.inRegion ops (i::rest)::k)) cs) w:=by
 intro w B;refine qvW (K':=JB w0 N c1 c2 b7 b12 x12 hs w.heap.size t z) (qlY hp w.heap.size) hb E H (v:=.pointer (O ⟨w.heap.size,0,zc⟩)) (.inl rfl) (λu q=>?_) (by rw[hd];exact h _ B.fresh) w ⟨B,rfl⟩;have A:=qTZ (P:=X0) (ρ:=a.eval) hop L u;have C:=(Below.AU u (.cells (Value.agg ⟨z⟩).cells t)).block;rw[q.2]at A;have M:=q.2▸q.1.mine.size;have Q:=hp.l1;have R:=hp.l2;refine⟨_,A.1,λe D=>by rw[A.2]at D;simp at D,C _ sa,C _ sa,q.1.new _,?_⟩;rw[<-q.2];exact World.alloc_heap_new u _
def q7b(hp:Pl2 w0.heap.size N c1 c2 b7 b12)(hb:b.roundOf=zc){d t n x size}{ty}{c}(A:New N hs x)(B:ops[i]?=O o)(C:o.guard=zc)(hd:o.dst=O d)(hop:o.op=.load t (.tmp n))(D:a.tmps[n]?=O (.pointer (O ⟨x,0,zc⟩)))(q:qQB X0 t=O size/\BP X0 t=O I)(hl:c.length=size)(h:∀w,JB w0 N c1 c2 b7 b12 x12 hs x ty c w->ME X0 c1 c2 Wv zw za Fin got live (G (b.atR (a.put (O d) (.agg ⟨c⟩)) (.inRegion ops rest::k)) cs) w):∀w,JB w0 N c1 c2 b7 b12 x12 hs x ty c w->ME X0 c1 c2 Wv zw za Fin got live (G (b.atR a (.inRegion ops (i::rest)::k)) cs) w:=
 qvW (JB.re hp A) hb B C (v:=.agg ⟨c⟩) (.inl rfl) (λw u=>by
  obtain⟨E,H⟩:=qcZ (P:=X0) hop (qFA D) q.1 q.2 hl u.mb
  exact⟨w,E,H,rfl,rfl,u⟩) (by rw[hd];exact h)
def qtX(hp:Pl2 w0.heap.size N c1 c2 b7 b12)(hb:b.roundOf=zc){t n m x size}{ty}{c c'}(q:New N hs x)(B:ops[i]?=O o)(C:o.guard=zc)(hd:o.dst=zc)(hop:o.op=.store t (.tmp n) (.tmp m))(D:a.tmps[n]?=O (.pointer (O ⟨x,0,zc⟩)))(hm:a.tmps[m]?=O (.agg ⟨c'⟩))(E:qQB X0 t=O size)(hl:c'.length=size)(H:c.length=size)(L:∀v∈c',v.oneCell'=I)(h:∀w,JB w0 N c1 c2 b7 b12 x12 hs x ty c' w->ME X0 c1 c2 Wv zw za Fin got live (G (b.atR a (.inRegion ops rest::k)) cs) w):∀w,JB w0 N c1 c2 b7 b12 x12 hs x ty c w->ME X0 c1 c2 Wv zw za Fin got live (G (b.atR a (.inRegion ops (i::rest)::k)) cs) w:=
 qvW (K':=JB w0 N c1 c2 b7 b12 x12 hs x ty c') (JB.re hp q) hb B C (v:=zAX) (.inr ⟨rfl,rfl⟩) (λw A=>by
  obtain⟨M,Q,R,T,U,u,V,W,Y⟩:=q8S (P:=X0) hop (qFA D) (qFA hm) E hl H L A.mb;have:=q.le;have:=hp.l1;have:=hp.l2
  exact⟨M,Q,R,u _ sa,u _ sa,A.sto hp q T U u V W Y⟩) (by rw[hd];exact h)
def quW(hp:Pl2 w0.heap.size N c1 c2 b7 b12)(hb:b.roundOf=zc){t n m x size}{ty}{c q}(B:New N hs x)(C:ops[i]?=O o)(D:o.guard=zc)(hd:o.dst=zc)(hop:o.op=.store t (.tmp n) (.tmp m))(E:a.tmps[n]?=O (.pointer (O ⟨b12,0,zc⟩)))(hm:a.tmps[m]?=O (.agg ⟨q⟩))(H:qQB X0 t=O size)(hl:q.length=size)(L:x12.length=size)(M:∀v∈q,v.oneCell'=I)(h:∀w,JQ w0 N c1 c2 b7 b12 q hs w->ME X0 c1 c2 Wv zw za Fin got live (G (b.atR a (.inRegion ops rest::k)) cs) w):∀w,JB w0 N c1 c2 b7 b12 x12 hs x ty c w->ME X0 c1 c2 Wv zw za Fin got live (G (b.atR a (.inRegion ops (i::rest)::k)) cs) w:=
 qvW (K':=JQ w0 N c1 c2 b7 b12 q hs) (JB.re hp B) hb C D (v:=zAX) (.inr ⟨rfl,rfl⟩) (λw A=>by
  obtain⟨Q,R,T,U,V,u,W,Y,aa⟩:=q8S (P:=X0) hop (qFA E) (qFA hm) H hl L M A.jq.m12
  exact⟨Q,R,T,u _ hp.e3.symm,u _ hp.e4.symm,A.MA hp U V u W Y aa⟩) (by rw[hd];exact h)
end
def Kl:qQB X0 44=O 8/\BP X0 44=O I:=⟨se,se⟩
def qiX(hp:Pl2 w0.heap.size N c1 c2 b7 b12)(hA:MQ va b7 b12 c1 c2 live a)(H:csW.length=8)(ao:x12.length=8)(aa:∀v∈csW,v.oneCell'=I)(got)(h:∀a',MQ va b7 b12 c1 c2 live a'->∀w,JQ w0 N c1 c2 b7 b12 csW hs w->ME X0 c1 c2 (.agg ⟨csW⟩) (.agg zW) zAn Fin got live (G (bS.atR a' (.code qEH::qPJ)) cs0) w):∀w,JQ w0 N c1 c2 b7 b12 x12 hs w->ME X0 c1 c2 (.agg ⟨csW⟩) (.agg zW) zAn Fin got live (Go.Conc.served (Fj cs0 a) (.tuple #[.int .i64 0,.bool I,.agg ⟨csW⟩,zAn])) w:=by
 have A:=JQ.re (x12:=x12) (hs:=hs) hp;have q:bS.roundOf=zc:=rfl;rw[qzL];have D:=hA.put (d:=72) sb (.tuple #[.int .i64 0,.bool I,.agg ⟨csW⟩,zAn]);have L:=hA.get (d:=72) sb (.tuple #[.int .i64 0,.bool I,.agg ⟨csW⟩,zAn]);generalize a.put (O 72) (.tuple #[.int .i64 0,.bool I,.agg ⟨csW⟩,zAn])=ab at D L;have ac:=D.put (d:=73) sb (.int .i64 0);have ap:=ac.put (d:=74) sb (.bool I);have M:=ap.put (d:=75) sb (.bool zb);obtain⟨aG,aq,ar,au,av⟩:∃o,q0I[1]?=O o/\o.guard=zc/\o.dst=O 73/\o.op=.extract (.tmp 72) 0:=⟨_,rfl,rfl,rfl,rfl⟩;obtain⟨aH,aw,ax,ay,az⟩:∃o,q0I[2]?=O o/\o.guard=zc/\o.dst=O 74/\o.op=.binOp .eql 3 (.tmp 73) (.const (.int .i64 0)) 3:=⟨_,rfl,rfl,rfl,rfl⟩;obtain⟨aI,aA,aB,aC,aD⟩:∃o,q0I[3]?=O o/\o.guard=zc/\o.dst=O 75/\o.op=.binOp .eql 3 (.tmp 73) (.const (.int .i64 1)) 3:=⟨_,rfl,rfl,rfl,rfl⟩;refine E1 A q aq ar au (v:=.int .i64 0) (qPI av (qFA L) rfl) ?_;refine E1 A q aw ax ay (v:=.bool I) (qNM az (qFA (D.get sb _)) rfl) ?_;refine E1 A q aA aB aC (v:=.bool zb) (qNM (x:=0) aD (qFA (by rw[qGA sb];exact D.get sb _)) rfl) ?_;refine qWA A qNA ?_;unfold qpN qTL qEH q8B qpB qJE qqI qUM Tryz.f8;simp only[zAM,tlC,qDM,GX,hdC];refine qWA A qwE (qWA A (q0G (t:=I) (by rw[qGA sb];exact ac.get sb _)) ?_);have P:(((ab.put (O 73) (.int .i64 0)).put (O 74) (.bool I)).put (O 75) (.bool zb)).tmps[72]?=O (.tuple #[.int .i64 0,.bool I,.agg ⟨csW⟩,zAn]):=by rw[qGA sb,qGA sb,qGA sb];exact L
 generalize((ab.put (O 73) (.int .i64 0)).put (O 74) (.bool I)).put (O 75) (.bool zb)=ad at M P;refine qWA A q5B (qWA A AP ?_);refine E1 A q (d:=76) (v:=.agg ⟨csW⟩) sy rfl rfl (qPI rfl (qFA P) rfl) ?_;have ae:=M.put (d:=76) sb (.agg ⟨csW⟩);refine E1 A q (d:=77) (v:=.bool I) sy rfl rfl (qPI rfl (qFA (by rw[qGA sb];exact P)) rfl) ?_;have Q:=ae.put (d:=77) sb (.bool I);have af:((ad.put (O 76) (.agg ⟨csW⟩)).put (O 77) (.bool I)).tmps[76]?=O (.agg ⟨csW⟩):=by rw[qGA sb];exact M.get sb _
 have ag:=ae.get (d:=77) sb (.bool I);generalize(ad.put (O 76) (.agg ⟨csW⟩)).put (O 77) (.bool I)=R at Q af ag;refine quX hp q (d:=17) sy rfl rfl rfl L5 λC E=>?_;have T:=Q.put (d:=17) sb (.pointer (O ⟨C,0,zc⟩));have B:=λc=>JB.re (x12:=x12) (ty:=44) (c:=c) hp E;have U:=Q.get (d:=17) sb (.pointer (O ⟨C,0,zc⟩));have ah:(R.put (O 17) (.pointer (O ⟨C,0,zc⟩))).tmps[76]?=O (.agg ⟨csW⟩):=by rw[qGA sb];exact af
 have ai:(R.put (O 17) (.pointer (O ⟨C,0,zc⟩))).tmps[77]?=O (.bool I):=by rw[qGA sb];exact ag
 generalize R.put (O 17) (.pointer (O ⟨C,0,zc⟩))=aj at T U ah ai;refine qtX hp q E sy rfl rfl rfl U ah Kl.1 H rfl aa ?_;refine E1 (B csW) q (d:=18) (v:=.bool I) sy rfl rfl (qKI (.inr rfl) (qFA ai)) ?_;have V:=T.put (d:=18) sb (.bool I);have W:=T.get (d:=18) sb (.bool I);have ak:(aj.put (O 18) (.bool I)).tmps[17]?=O (.pointer (O ⟨C,0,zc⟩)):=by rw[qGA sb];exact U
 generalize aj.put (O 18) (.bool I)=aJ at V W ak;refine qWA (B csW) qNA (qWA (B csW) q5B (qWA (B csW) q5B (qWA (B csW) AP ?_)));refine E1 (B csW) q (d:=78) (v:=.bool I) sy rfl rfl (qKI (.inl rfl) (qFA W)) ?_;have al:=V.put (d:=78) sb (.bool I);have aE:=V.get (d:=78) sb (.bool I);refine qWA (B csW) qNA (qWA (B csW) (q0G (t:=I) aE) (qWA (B csW) AP ?_));refine q7b hp q E (d:=79) sy rfl rfl rfl (by rw[qGA sb];exact ak) Kl H ?_;have Y:=al.put (d:=79) sb (.agg ⟨csW⟩);refine quW hp q E sy rfl rfl rfl Y.t12 (al.get sb _) Kl.1 H ao aa ?_;have u:=JQ.re (x12:=csW) (hs:=hs) hp;refine qWA u qNA (qWA u q5B (qWA u AP ?_));refine E1 u q (d:=80) (v:=.bool I) sy rfl rfl (qKI (.inl rfl) (qFA (by rw[qGA sb,qGA sb];exact W))) ?_;have an:=Y.put (d:=80) sb (.bool I);refine E1 u q (d:=81) (v:=.bool zb) sy rfl rfl (qHU (x:=I) rfl (qFA (Y.get sb _))) ?_;have aF:=an.put (d:=81) sb (.bool zb);refine qWA u qNA (qWA u (q0G (t:=zb) (an.get sb _)) (qWA u qCT (qWA u qTE (qWA u qTE (qWA u qXJ ?_)))));exact h _ aF
end
section
variable{w0:zp}{N c1 c2 b7 b12:Z}{x12:F zg}{hs:Hs}{va Wv:zg}{live:zM}{a:zDN}{cs0:F zAt}{Fin:zH->zp->Prop}
def MQ.off(h:MQ va b7 b12 c1 c2 live a):MQ va b7 b12 c1 c2 zb (a.put (O 14) (.chan zc)):=
 ⟨by simp[zBg,h.size],by rw[qGA sb];exact h.t7,by rw[qGA sb];exact h.t12,q4D (by rw[h.size];decide),by rw[qGA sb];exact h.t15,by rw[qGA sb];exact h.t16,h.defers⟩
def NI:qQB X0 55=O 13/\BP X0 55=O I:=⟨se,se⟩
def qhX(hp:Pl2 w0.heap.size N c1 c2 b7 b12)(hA:MQ va b7 b12 c1 c2 live a)(got)(h:∀a',MQ va b7 b12 c1 c2 zb a'->∀w,JQ w0 N c1 c2 b7 b12 x12 hs w->ME X0 c1 c2 Wv (.agg zW) zAn Fin got zb (G (bS.atR a' (.code qEH::qPJ)) cs0) w):∀w,JQ w0 N c1 c2 b7 b12 x12 hs w->ME X0 c1 c2 Wv (.agg zW) zAn Fin got zb (Go.Conc.served (Fj cs0 a) (.tuple #[.int .i64 1,.bool zb,.agg zW,zAn])) w:=by
 have u:=JQ.re (x12:=x12) (hs:=hs) hp;have A:bS.roundOf=zc:=rfl;rw[qzL];have C:=hA.put (d:=72) sb (.tuple #[.int .i64 1,.bool zb,.agg zW,zAn]);have D:=hA.get (d:=72) sb (.tuple #[.int .i64 1,.bool zb,.agg zW,zAn]);generalize a.put (O 72) (.tuple #[.int .i64 1,.bool zb,.agg zW,zAn])=Q at C D;have R:=C.put (d:=73) sb (.int .i64 1);have T:=R.put (d:=74) sb (.bool zb);have E:=T.put (d:=75) sb (.bool I);obtain⟨ay,ag,ah,ai,aj⟩:∃o,q0I[1]?=O o/\o.guard=zc/\o.dst=O 73/\o.op=.extract (.tmp 72) 0:=⟨_,rfl,rfl,rfl,rfl⟩;obtain⟨az,ak,al,an,ao⟩:∃o,q0I[2]?=O o/\o.guard=zc/\o.dst=O 74/\o.op=.binOp .eql 3 (.tmp 73) (.const (.int .i64 0)) 3:=⟨_,rfl,rfl,rfl,rfl⟩;obtain⟨aA,ap,aq,ar,au⟩:∃o,q0I[3]?=O o/\o.guard=zc/\o.dst=O 75/\o.op=.binOp .eql 3 (.tmp 73) (.const (.int .i64 1)) 3:=⟨_,rfl,rfl,rfl,rfl⟩;refine E1 u A ag ah ai (v:=.int .i64 1) (qPI aj (qFA D) rfl) ?_;refine E1 u A ak al an (v:=.bool zb) (qNM (x:=1) ao (qFA (C.get sb _)) rfl) ?_;refine E1 u A ap aq ar (v:=.bool I) (qNM (x:=1) au (qFA (by rw[qGA sb];exact C.get sb _)) rfl) ?_;refine qWA u qNA ?_;unfold qpN qTL qEH q8B qpB qJE qqI qUM Tryz.f8;simp only[zAM,tlC,qDM,GX,hdC];refine qWA u qwE (qWA u (q0G (t:=zb) (by rw[qGA sb];exact R.get sb _)) (qWA u (q0G (t:=I) (T.get sb _)) ?_));have H:(((Q.put (O 73) (.int .i64 1)).put (O 74) (.bool zb)).put (O 75) (.bool I)).tmps[72]?=O (.tuple #[.int .i64 1,.bool zb,.agg zW,zAn]):=by rw[qGA sb,qGA sb,qGA sb];exact D
 generalize((Q.put (O 73) (.int .i64 1)).put (O 74) (.bool zb)).put (O 75) (.bool I)=U at E H;refine qWA u q5B (qWA u AP ?_);refine E1 u A (d:=84) (v:=zAn) sy rfl rfl (qPI rfl (qFA H) rfl) ?_;have V:=E.put (d:=84) sb zAn;refine E1 u A (d:=85) (v:=.bool zb) sy rfl rfl (qPI rfl (qFA (by rw[qGA sb];exact H)) rfl) ?_;have L:=V.put (d:=85) sb (.bool zb);have W:((U.put (O 84) zAn).put (O 85) (.bool zb)).tmps[84]?=O zAn:=by rw[qGA sb];exact E.get sb _
 have Y:=V.get (d:=85) sb (.bool zb);generalize(U.put (O 84) zAn).put (O 85) (.bool zb)=M at L W Y;refine quX hp A (d:=19) sy rfl rfl rfl L4 λB aa=>?_;have P:=L.put (d:=19) sb (.pointer (O ⟨B,0,zc⟩));have q:=λc=>JB.re (x12:=x12) (ty:=55) (c:=c) hp aa;have ab:=L.get (d:=19) sb (.pointer (O ⟨B,0,zc⟩));have ac:(M.put (O 19) (.pointer (O ⟨B,0,zc⟩))).tmps[84]?=O zAn:=by rw[qGA sb];exact W
 have ad:(M.put (O 19) (.pointer (O ⟨B,0,zc⟩))).tmps[85]?=O (.bool zb):=by rw[qGA sb];exact Y
 generalize M.put (O 19) (.pointer (O ⟨B,0,zc⟩))=aB at P ab ac ad;refine qtX hp A aa sy rfl rfl rfl ab ac NI.1 rfl rfl sb ?_;refine E1 (q _) A (d:=20) (v:=.bool zb) sy rfl rfl (qKI (.inr rfl) (qFA ad)) ?_;have ae:=P.put (d:=20) sb (.bool zb);have av:=P.get (d:=20) sb (.bool zb);refine qWA (q _) qNA (qWA (q _) q5B (qWA (q _) AP ?_));refine E1 (q _) A (d:=86) (v:=.bool zb) sy rfl rfl (qKI (.inl rfl) (qFA av)) ?_;have af:=ae.put (d:=86) sb (.bool zb);refine E1 (q _) A (d:=87) (v:=.bool I) sy rfl rfl (qHU (x:=zb) rfl (qFA (ae.get sb _))) ?_;have aw:=af.put (d:=87) sb (.bool I);refine qWA (q _) qNA (qWA (q _) (q0G (t:=I) (af.get sb _)) (qWA (q _) AP ?_));refine E1 (q _) A (d:=14) (v:=.chan zc) sy rfl rfl (qKI (.inr rfl) rfl) ?_;refine qWA (q _) qNA (qWA (q _) qTE (qWA (q _) qTE (qWA (q _) qXJ ?_)));exact λw ax=>h _ aw.off w ax.jq
end
end Go.Proofs.YtlmhpamhhgogaaaGreat
namespace Go.Proofs.YtlmhpamhhgogaaaGreat
open Go.Conc (G rcase rcaseNil AtIn Sits Seat closeEvents)
open Go.Proofs.YtlmhpamhhgogaaaGreat.Sx Go.Duo Go.RowKit
section
variable{w0:zp}{N c0 c1 c2 b7 b12:Z}{x12 csW:F zg}{hs:Hs}{va vl:zg}{live:zM}{a:zDN}{cs0:F zAt}
def qxX(hA:MQ va b7 b12 c1 c2 live a):∃a',MQ va b7 b12 c1 c2 live a'/\a'.tmps[70]?=O (.chan (O c2))/\a'.tmps[71]?=O (.chan (if live then O c1 else zc))/\F9 X0 I (G (bS.atR a (.code qEH::qPJ)) cs0) (Fj cs0 a'):=by
 have A0:=hA.put (d:=70) sb (.chan (O c2));have A1:=A0.put (d:=71) sb (.chan (if live then O c1 else zc));refine⟨_,A1,by rw[qGA sb];exact hA.get sb _,A0.get sb _,?_⟩;unfold Fj qpN q0I qTL qEH q8B qpB qJE qqI qUM Tryz.f8;simp only[zAM,tlC,qDM,GX,hdC,Gv];refine .step qwE (.step q5B (.step q5B (.step AP ?_)));refine .step (qzG rfl sy rfl (.inl rfl) rfl (qFA hA.t15)) (.step qNA (.step AP ?_));refine .step (qzG rfl sy rfl (.inl rfl) rfl (qFA A0.t14)) (.step qNA (.step q5B (.step AP ?_)));exact .refl _
def L3(w0:zp)(N c1 c2 b7 b12:Z)(csW:F zg)(hs:Hs)(va:zg)(cs0:F zAt)(gr:zH)(w:zp):Prop:=
 ∃a live,MQ va b7 b12 c1 c2 live a/\gr=Go.Conc.served (Fj cs0 a) (.tuple #[.int .i64 0,.bool zb,.agg zW,zAn])/\JQ w0 N c1 c2 b7 b12 csW hs w
def qjY(live)(v)(ok):zAV (Bj c2 c1 (.agg zW) zAn live) .select 0 v ok=.tuple #[.int .i64 0,.bool ok,v,zAn]:=by cases live<;>simp[zAV,Bj,zAR,rcaseNil,Array.zipIdx,goInt]
def qCb(live)(v)(ok):zAV (Bj c2 c1 (.agg zW) zAn live) .select 1 v ok=.tuple #[.int .i64 1,.bool ok,.agg zW,v]:=by cases live<;>simp[zAV,Bj,zAR,rcaseNil,Array.zipIdx,goInt]
abbrev MEq(w0:zp)(N c1 c2 b7 b12:Z)(csW:F zg)(hs:Hs)(va:zg)(cs0:F zAt)(got live:zM):zH->zp->Prop:=ME X0 c1 c2 (.agg ⟨csW⟩) (.agg zW) zAn (L3 w0 N c1 c2 b7 b12 csW hs va cs0) got live
def qxO{y}(hp:Pl2 w0.heap.size N c1 c2 b7 b12){got}(hA:MQ va b7 b12 c1 c2 live a)(E:got=zb->∀a,MQ va b7 b12 c1 c2 live a->∀w,JQ w0 N c1 c2 b7 b12 y hs w->MEq w0 N c1 c2 b7 b12 csW hs va cs0 I live (Go.Conc.served (Fj cs0 a) (.tuple #[.int .i64 0,.bool I,.agg ⟨csW⟩,zAn])) w)(h1:live=I->∀a,MQ va b7 b12 c1 c2 live a->∀w,JQ w0 N c1 c2 b7 b12 y hs w->MEq w0 N c1 c2 b7 b12 csW hs va cs0 got zb (Go.Conc.served (Fj cs0 a) (.tuple #[.int .i64 1,.bool zb,.agg zW,zAn])) w)(h2:got=I->y=csW):∀w,JQ w0 N c1 c2 b7 b12 y hs w->MEq w0 N c1 c2 b7 b12 csW hs va cs0 got live (G (bS.atR a (.code qEH::qPJ)) cs0) w:=by
 have u:=JQ.re (x12:=y) (hs:=hs) hp;obtain⟨B,A,H,L,M⟩:=qxX (cs0:=cs0) hA;refine qPU u M λw C=>.sel (q3a A H L) (λD h q=>?_) (λP h q=>?_) (λD h q=>?_)
 .rw[qjY];exact E D B A h (u w h q C)
 .rw[qCb];exact h1 P B A h (u w h q C)
 .rw[qjY];have:=u w h q C;rw[h2 D]at this;exact⟨B,live,A,rfl,this⟩
def q6b(hp:Pl2 w0.heap.size N c1 c2 b7 b12)(hA:MQ va b7 b12 c1 c2 zb a):∀w,JQ w0 N c1 c2 b7 b12 csW hs w->MEq w0 N c1 c2 b7 b12 csW hs va cs0 I zb (G (bS.atR a (.code qEH::qPJ)) cs0) w:=
 qxO hp hA (λh=>nomatch h) (λh=>nomatch h) λ_=>rfl
def M3(hp:Pl2 w0.heap.size N c1 c2 b7 b12)(hA:MQ va b7 b12 c1 c2 I a):∀w,JQ w0 N c1 c2 b7 b12 csW hs w->MEq w0 N c1 c2 b7 b12 csW hs va cs0 I I (G (bS.atR a (.code qEH::qPJ)) cs0) w:=
 qxO hp hA (λh=>nomatch h) (λ_ a hA=>qhX hp hA I λu q=>q6b hp q) λ_=>rfl
variable(h8:csW.length=8)(h12:x12.length=8)(h1:∀v∈csW,v.oneCell'=I)
include h8 h12 h1
def M4(hp:Pl2 w0.heap.size N c1 c2 b7 b12)(hA:MQ va b7 b12 c1 c2 zb a):∀w,JQ w0 N c1 c2 b7 b12 x12 hs w->MEq w0 N c1 c2 b7 b12 csW hs va cs0 zb zb (G (bS.atR a (.code qEH::qPJ)) cs0) w:=
 qxO hp hA (λ_ a hA=>qiX hp hA h8 h12 h1 I λu q=>q6b hp q) (λh=>nomatch h) λh=>nomatch h
def Oi(hp:Pl2 w0.heap.size N c1 c2 b7 b12)(hA:MQ va b7 b12 c1 c2 I a)(w)(q:JQ w0 N c1 c2 b7 b12 x12 hs w):MEq w0 N c1 c2 b7 b12 csW hs va cs0 I I (Go.Conc.served (Fj cs0 a) (zAV (Bj c2 c1 (.agg zW) zAn I) .select 0 (.agg ⟨csW⟩) I)) w/\MEq w0 N c1 c2 b7 b12 csW hs va cs0 zb zb (Go.Conc.served (Fj cs0 a) (zAV (Bj c2 c1 (.agg zW) zAn I) .select 1 zAn zb)) w:=by
 rw[qjY,qCb];exact⟨qiX hp hA h8 h12 h1 I (λu h=>M3 hp h) w q,qhX hp hA zb (λu h=>M4 h8 h12 h1 hp h) w q⟩
end
section
variable{N c0 c1 c2 b7 b12:Z}{va vl:zg}{a:zDN}{cs0:F zAt}
def qSH(va:zg)(b7 b12 c1 c2:Z)(cs0:F zAt):Seat:={cases:=Bj c2 c1 (.agg zW) zAn I,shape:=.select,home:=λg=>∃a,MQ va b7 b12 c1 c2 I a/\g=Fj cs0 a}
def qUE{c}(h:(qSH va b7 b12 c1 c2 cs0).has c):c=c2\/c=c1:=by
 obtain⟨k,z,q⟩:=h;rcases k with _|_|k<;>simp[qSH,Bj,zAR]at q<;>omega
def qBQ(h:c1≠c2):(qSH va b7 b12 c1 c2 cs0).Wf:=by
 refine⟨λu h=>?_,λk m c z w h1 q=>?_⟩
 .simp only[qSH,Bj,zBp,zAz,zJ,zAd,zBh]at h;rcases h with rfl|rfl<;>exact⟨_,_,rfl⟩
 .rcases k with _|_|k<;>rcases m with _|_|m<;>simp[qSH,Bj,zAR]at h1 q⊢<;>omega
def BI.mq{q u}(h:BI vl va q u c0 c1 c2 a)(w:q=⟨b7,0,zc⟩)(A:u=⟨b12,0,zc⟩):MQ va b7 b12 c1 c2 I a:=
 ⟨h.size,by rw[h.t7,w],by rw[h.t12,A],h.t14,h.t15,h.t16,h.defers⟩
noncomputable def q7V(cs0:F zAt)(a:zDN):zH:=G (bS.atR a (.inRegion Gm [1]::.code (tlC q8B)::[])) cs0
noncomputable def qsR(cs0:F zAt)(a:zDN):zH:=G (bS.atR a (.inRegion Gm []::.code (tlC q8B)::[])) cs0
def qAc:(X0.funcs[8]?).any (·.norace)=zb:=se
def q9b:(X0.funcs[29]?).any (·.norace)=zb:=se
def qBR(h69:a.tmps[69]?=O (.chan (O c0))){w}{cap k}(hc:w.heap[c0]?=O (.chan cap #[] zb k k zb)):zAE X0 I (q7V cs0 a) w=.go (qsR cs0 a) (w.setChan c0 cap #[] I k k zb) (zA2 c0):=by
 obtain⟨o,ats,ho,hg,hd,hop⟩:∃o ats,Gm[1]?=O o/\o.guard=zc/\o.dst=zc/\o.op=.call {callee:=.builtin .close,args:=#[.tmp 69],argTypes:=ats}:=⟨_,_,rfl,rfl,rfl,rfl⟩;have:=Go.Conc.stepG_close (P:=X0) (main:=I) (b:=bS) (a:=a) (kk:=.code (tlC q8B)::[]) (cs:=cs0) (rest:=[]) (w:=w) ho (by simp[zAs,hg]) (by simp[bS]) hop (qFA h69) hc qAc;unfold q7V qsR;rw[Frame.atR_of_none rfl,Frame.atR_of_none rfl,this,hd];rfl
def qAR(a):mayWake X0 (q7V cs0 a)=I:=by
 unfold q7V;rfl
def qCR(hA:MQ va b7 b12 c1 c2 I a):∃n,zDU X0 I Go.Duo.TrK Go.Duo.NoS 0 (qSH va b7 b12 c1 c2 cs0) n (qsR cs0 a):=by
 obtain⟨h,q,u,w,A⟩:=qxX (cs0:=cs0) hA
 obtain⟨n,B⟩:=qXT (F9.step (g:=qsR cs0 a) (P:=X0) qNA (.step (qwE (id:=3) (c:=.loop qEH)) (.step (qXO (c:=qEH)) A))) (Q:=λg=>∃C,AtIn X0 I Go.Duo.TrK Go.Duo.NoS 0 (qSH va b7 b12 c1 c2 cs0) g C)
  ⟨0,Fj cs0 h,rfl,rfl,rfl,rfl,⟨h,q,rfl⟩,#[],sd,λD _=>(q3a q u w).2.2.2.2 D⟩
 exact⟨n+1,qFE B⟩
end
end Go.Proofs.YtlmhpamhhgogaaaGreat
namespace Go.Proofs.YtlmhpamhhgogaaaGreat
open Go.Conc (G rcase rcaseNil scase AtIn Sits Seat closeEvents QuitsD)
open Go.Proofs.YtlmhpamhhgogaaaGreat.Sx Go.Duo Go.RowKit
noncomputable def qlF:zR zDO:=Gv (tlC qGK)
noncomputable def Jo(h:F Deferred)(a:zDN):zH:=G {bV.atR {a with defers:=h} []with mode:=.returning} [BM]
def qdX{u}{a}{d}{c}(hd:∃h t cs,d.target=.builtin .close h t cs)(ha:d.args=#[.chan (O c)]){Q}(B:Q (Jo u a)):qdV X0 c Q (Jo (d::u) a):=by
 obtain⟨h,t,cs,hd⟩:=hd;refine⟨rfl,rfl,Jo u a,rfl,λw cap C s r A=>?_,B⟩;obtain⟨H,L⟩:=d;simp only at hd ha;subst hd;subst ha;have D:=Go.Conc.seen_eq (P:=X0) (fn:=29) (es:=zA2 c) q9b (by intro e q f;simp only[zA2,zAz,zJ,zAd,zBh]at q;rcases q with rfl|rfl<;>simp)
 have E:(builtin .close h t cs #[.chan (O c)]).run X0 w=.ok (.value (.tuple #[])) (w.setChan c cap C I s r zb):=by
  simp[builtin,go_sem,run_close_open _ _ A,World.setChan]
 have q:(builtin .close h t cs #[.chan (O c)]).events X0 w #[]=zA2 c:=by
  simp[builtin,go_sem,events_close_open _ _ A,zA2]
 simp only[Jo,G,zAE,unwind,zAQ,callDeferred,invoke,zBs,E,q,zBF,bV];simp[D]
def qoY(a):QuitsD X0 2 0 (Jo [] a):=by
 have h:Tryz.f29.results=#[]:=rfl;have q:X0.funcs[29]?=O Tryz.f29:=Tryz.func29;have u:X0.funcs[X0.funcs.size]?=zc:=sd
 refine .ctl (g':=G BM [BM].tail) rfl (λw=>?_) (.ctl (g':={frame:=BM,callers:=[],status:=.finished,dying:=zc}) rfl (λw=>?_) ⟨rfl,rfl⟩)
 .have A:=results_none h a.tmps X0 w;have B:=Go.Conc.events_results_none (P:=X0) (w:=w) h a.tmps #[];simp[Jo,G,zAE,unwind,zAQ,bV,q,zBs,A,B,zBF,doReturn,BM,goexitEntry];exact Go.Conc.seen_none _ _
 .simp[G,zAE,unwind,BM,Frame.catches,u,goexitEntry];rfl
def NO{c1 c2}{a}{h q}(A:∃u t cs,h.target=.builtin .close u t cs)(B:h.args=#[.chan (O c1)])(h2:∃u t cs,q.target=.builtin .close u t cs)(C:q.args=#[.chan (O c2)])(hd:a.defers=[h,q]):SV X0 c1 c2 0 2 zb 2 (G (bV.atR a (.inRegion qlF []::[])) [BM]):=by
 refine Quiet.step (n:=1) qNA (Quiet.step (n:=0) (g':=Jo [h,q] a) ⟨rfl,λw=>?_⟩ ?_)
 .have:=q1P (P:=X0) (main:=zb) (a:=a) (cs:=[BM]) (w:=w) (show bV.roundOf=zc from rfl);rw[this];obtain⟨t,D⟩:=a;simp only at hd;subst hd;rfl
 .exact qdX A B (Q:=λg=>Quiet X0 (qdV X0 c2 (QuitsD X0 2 0)) 0 g) (qdX h2 C (qoY a))
end Go.Proofs.YtlmhpamhhgogaaaGreat
namespace Go.Proofs.YtlmhpamhhgogaaaGreat
open Go.Conc (G rcase rcaseNil scase AtIn Sits Seat)
open Go.Proofs.YtlmhpamhhgogaaaGreat.Sx Go.Duo Go.RowKit
def q3V{E:Env X0}{N:Z}(hE:E.N<=N){W:Wd}{g:GW}{cs:F zg}{vg zi:zg}{c0 c1 c2 nx:Z}{a:zDN}{w:zp}{rs:F Res}(hW:rWo g cs W)(hA:Hw vg c0 c1 c2 N a)(hM:Cb N ⟨g,.blk 0 N 44 (cs.map .v)::rs,nx,N⟩ w)(hK:∀a' w' nx',a'.defers=a.defers->a'.tmps[39]?=O (.chan (O c2))->a'.tmps[40]?=O (.agg ⟨cs⟩)->Aq (frB N w g hM.size) ⟨g,.blk 0 N 44 (cs.map .v)::rs,nx',N⟩ w'->E.G (G (bV.atR a' (.inRegion qlF [2]::[])) [BM]) w'):E.G (Go.Conc.served (F3 a) (.tuple #[zi,.bool zb])) w:=by
 have hfE:(frB N w g hM.size).has E:=q7J hE;obtain⟨d1,d2,hds,hd⟩:=hA.defers
 have hst:Go.Conc.served (F3 a) (.tuple #[zi,.bool zb])=G (bV.atR (a.put (O 16) (.tuple #[zi,.bool zb])) (.inRegion HP [1]::qeK)) [BM]:=by
  have:=zBe bV a HP 0 [1] qeK (.tuple #[zi,.bool zb]);exact zK (λf=>G f [BM]) this
 rw[hst]
 have hA0:Stn 41 (frB N w g hM.size) [d1,d2] [(16,.tup [.v zi,.v (.bool zb)]),(3,.v (.chan (O c2))),(4,.p 0 N 0)] ⟨g,.blk 0 N 44 (cs.map .v)::rs,nx,N⟩ (a.put (O 16) (.tuple #[zi,.bool zb])) w:=by
  refine hM.stn (by simp[zBg,hA.size]) hds λn u hu=>?_;simp only[AS]at hu
  repeat' split at hu
  all_goals first|(cases hu;done)|skip
  all_goals(rename_i hbq;obtain rfl:=zP hbq;obtain rfl:=zv hu)
  .exact q4D (by rw[hA.size];decide)
  .rw[qGA sb];exact hA.t3
  .rw[qGA sb];exact hA.t4
 obtain⟨_,_,_,_,_,rfl,_,hP,hV,hL,hC,hR⟩:=hW;obtain⟨_,_,rfl,_⟩:=id hP;obtain⟨_,_,rfl,_⟩:=id hV;obtain⟨_,_,rfl,_⟩:=id hL;obtain⟨_,_,rfl,_⟩:=id hC;obtain⟨_,_,rfl,_⟩:=id hR;refine qRB (τ:=[1]) (rest:=[]) hfE ((qaA E).snd _ hfE) si hA0 (K:=λsl' hs'=>∀a' w',Stn 41 (frB N w g hM.size) [d1,d2] sl' hs' a' w'->E.G (G (bV.atR a' (.inRegion HP []::qeK)) [BM]) w') (zq ?_) (λ_ _ a' w' h h'=>h a' w' h');intros;intro a1 w1 hA1;refine .quiet rfl (λ_=>quA) ?_;unfold qeK qVM qGK qHK qqN Tryz.f29;simp only[zAM,tlC,qDM,GX,hdC];refine qvA (q1J zb rfl rfl hA1 (.quiet rfl (λ_=>qSO (k':=.code (tlC qGK)::[]) (by simp[exitTo];rfl)) ?_));refine .quiet (g':=G (bV.atR a1 (.inRegion qlF [0,1,2]::[])) [BM]) rfl (λ_=>qIC) ?_;refine qRB (τ:=[0,1]) (rest:=[2]) hfE ((qaA E).snd _ hfE) si hA1 (K:=λsl' hs'=>∀a' w',Stn 41 (frB N w g hM.size) [d1,d2] sl' hs' a' w'->E.G (G (bV.atR a' (.inRegion qlF [2]::[])) [BM]) w') (zq ?_) (λ_ _ a' w' h h'=>h a' w' h');intros;intro a2 w2 hA2;have hS:∀(n:Z){u:SV}{v:zg},AS _ n=O u->Ae u=v->a2.tmps[n]?=O v:=λn{u v}h e=>e▸hA2.Au n u h;exact hK a2 w2 _ (hA2.defers.trans hds.symm) (hS 39 rfl rfl) (hS 40 rfl rfl) hA2.sim
def q5X{a}{c2}{v}(h39:a.tmps[39]?=O (.chan (O c2)))(h40:a.tmps[40]?=O v)(w):zAE X0 zb (G (bV.atR a (.inRegion qlF [2]::[])) [BM]) w=.comm (G (bV.atR a (.inRegion qlF [2]::[])) [BM]) #[scase c2 v (.tuple #[])] I .send w #[]/\Go.Conc.served (G (bV.atR a (.inRegion qlF [2]::[])) [BM]) zAX=G (bV.atR a (.inRegion qlF []::[])) [BM]:=by
 obtain⟨o,ho,hg,hd,hop⟩:∃o,qlF[2]?=O o/\o.guard=zc/\o.dst=zc/\o.op=.send (.tmp 39) (.tmp 40):=⟨_,rfl,rfl,rfl,rfl⟩
 have hr:∀w,(zy a.eval o).run X0 w=.ok (.comm #[scase c2 v (.tuple #[])] I .send) w/\(zy a.eval o).events X0 w #[]=#[]:=λw=>by
  have e1:=qFA h39;have e2:=qFA h40;unfold zy;simp[hop,e1,e2,scase]
 have hb:bV.roundOf=zc:=rfl;constructor
 .rw[Frame.atR_of_none hb,Go.Conc.stepG_comm ho (by simp[zAs,hg]) (by simp[bV]) (hr w).1,Go.Conc.listed_none (hr w).2]
 .have:=zBe bV a qlF 2 [] [] zAX;rw[ho]at this;simp only[zCQ,hd]at this;exact zK (λf=>G f [BM]) this
end Go.Proofs.YtlmhpamhhgogaaaGreat
namespace Go.Proofs.YtlmhpamhhgogaaaGreat
open Go.Conc (G rcase rcaseNil scase AtIn Sits Seat heap_setChan_ne heap_setChan_self below_setChan closeEvents)
open Go.Proofs.YtlmhpamhhgogaaaGreat.Sx Go.Duo Go.RowKit
structure JD(w0:zp)(N c1 c2 b7 b12:Z)(cs7:F zg)(k1:Z)(hs:Hs)(w:zp):Prop where
 mine:Cb N hs w
 below:Below w0.heap.size w0 w
 h1:w.heap[c1]?=O (.chan 0 #[] zb k1 k1 zb)
 h2:w.heap[c2]?=O (.chan 1 #[] zb 0 0 zb)
 m7:w.heap[b7]?=O (.cells zW 44 (0,0))
 m12:w.heap[b12]?=O (.cells cs7.toArray 44 (0,0))
 ng:¬hs.g.g c1/\¬hs.g.g c2/\¬hs.g.g b7/\¬hs.g.g b12
section
variable{w0 w w':zp}{N c0 c1 c2 b7 b12 k0 k1:Z}{cs7:F zg}{hs hs':Hs}
def JC.shut(hp:Plc w0.heap.size N c0 c1 c2 b7 b12)(h:JC w0 N c0 c1 c2 b7 b12 cs7 k0 k1 hs w)(k):JD w0 N c1 c2 b7 b12 cs7 k1 hs (w.setChan c0 0 #[] I k k zb):=by
 have e:∀{n:Z}{x:Obj},w.heap[n]?=O x->c0≠n->(w.setChan c0 0 #[] I k k zb).heap[n]?=O x:=λq u=>(zDP w 0 #[] I k k zb u).trans q;exact⟨h.mine.chan hp.l0.2 h.ng.1 ..,below_setChan h.below hp.l0.1 ..,e h.h1 hp.d01,e h.h2 hp.d02,e h.m7 (qLC h.h0 h.m7 sd),e h.m12 (qLC h.h0 h.m12 sd),h.ng.2⟩
def JD.at(h:JD w0 N c1 c2 b7 b12 cs7 k1 hs w)(d):JD w0 N c1 c2 b7 b12 cs7 k1 hs (w.at d):=
 ⟨h.mine.at d,⟨h.below.os,h.below.tape,h.below.output,h.below.size,h.below.block⟩,h.h1,h.h2,h.m7,h.m12,h.ng⟩
def JD.next(hp:Plc w0.heap.size N c0 c1 c2 b7 b12)(h:JD w0 N c1 c2 b7 b12 cs7 k1 hs w)(C:Aq (frB N w hs.g h.mine.size) hs' w')(hl:N<=hs'.lo):JD w0 N c1 c2 b7 b12 cs7 k1 hs' w':=by
 obtain⟨D,u,A⟩:=Cb.next C hl;have e:∀{n:Z}{x:Obj},w.heap[n]?=O x->n<N->w'.heap[n]?=O x:=λE B=>(u.block _ B).trans E;refine⟨D,⟨u.os.trans h.below.os,u.tape.trans h.below.tape,u.output.trans h.below.output,zZ h.below.size u.size,λn B=>(u.block n ?_).trans (h.below.block n B)⟩,e h.h1 hp.l1.2,e h.h2 hp.l2.2,e h.m7 hp.l7.2,e h.m12 hp.l12.2,λq=>h.ng.1 (A _ hp.l1.2 q),λq=>h.ng.2.1 (A _ hp.l2.2 q),λq=>h.ng.2.2.1 (A _ hp.l7.2 q),λq=>h.ng.2.2.2 (A _ hp.l12.2 q)⟩;have:=hp.l0;omega
def JD.jq(h:JD w0 N c1 c2 b7 b12 cs7 k1 hs w):JQ w0 N c1 c2 b7 b12 cs7 hs w:=⟨h.mine,h.below,h.m7,h.m12,h.ng⟩
def JD.pl(hp:Plc w0.heap.size N c0 c1 c2 b7 b12)(h:JD w0 N c1 c2 b7 b12 cs7 k1 hs w):Pl2 w0.heap.size N c1 c2 b7 b12:=
 ⟨hp.l1,hp.l2,hp.l7,hp.l12,hp.d12,hp.d,(qLC h.h1 h.m7 sd).symm,(qLC h.h2 h.m7 sd).symm,(qLC h.h1 h.m12 sd).symm,(qLC h.h2 h.m12 sd).symm⟩
end
def SP.Lq(p:SP)(m:Machine)(A:zDQ):Prop:=
 ∃s a w q g cs B h u cap k1,0<s/\Hw q p.c0 p.c1 p.c2 p.N a/\JD p.w0 p.N p.c1 p.c2 p.b7 p.b12 p.cs7 k1 (p.hs g cs u cap h) w/\p.K p.l.length g cs B h q/\
  One X0 p.N (qSH (.slice u h.length cap) p.b7 p.b12 p.c1 p.c2 p.cs0) s s (Go.Conc.served (F3 a) (.tuple #[p.zi,.bool zb])) w m A
def SP.Lr(p:SP)(m:Machine)(u:zDQ):Prop:=
 ∃s g cs A h q cap B,p.K p.l.length g cs A h B/\Pl2 p.w0.heap.size p.N p.c1 p.c2 p.b7 p.b12/\qrK X0 s (L3 p.w0 p.N p.c1 p.c2 p.b7 p.b12 cs (p.hs g cs q cap h) (.slice q h.length cap) p.cs0) m u
def qMT{q:zg}{b7 b12 c1 c2 c:Z}{cs0:F zAt}{N:Z}{w:zp}{k1:Z}(u:w.heap[c1]?=O (.chan 0 #[] zb k1 k1 zb))(h2:w.heap[c2]?=O (.chan 1 #[] zb 0 0 zb))(h:(qSH q b7 b12 c1 c2 cs0).has c):∃cap k,w.heap[c]?=O (.chan cap #[] zb k k zb):=by
 rcases qUE h with rfl|rfl
 .exact⟨_,_,h2⟩
 .exact⟨_,_,u⟩
def qIX{p:SP}(hp:p.ok){m}{D}(h:p.KQ p.l.length m D):Go.Duo.Comes X0 m D p.Lq:=by
 obtain⟨s,a,w,A,g,cs,M,E,H,cap,B,_,P,Q,u,R,ad,T⟩:=h;have U:∀A c,(p.S A).has c->c=p.c0:=λA c q=>Seat.one_has.1 q;have V:=P.mq (b7:=p.b7) (b12:=p.b12) rfl rfl;have L:p.c0≠p.c1/\p.c0≠p.c2:=⟨hp.plc.d01,hp.plc.d02⟩
 have W:=qjM B (X':=qSH (.slice H E.length cap) p.b7 p.b12 p.c1 p.c2 p.cs0) (qBQ hp.plc.d12) (λc q Y=>by
  have e:=U _ _ q;rcases qUE Y with C|C
  .exact L.2 (e.symm.trans C)
  .exact L.1 (e.symm.trans C)) (λc q=>qMT (N:=p.N) u.h1 u.h2 q) (λc q=>by
  rcases qUE q with rfl|rfl
  .exact hp.plc.l2.2
  .exact hp.plc.l1.2) T
 obtain⟨n,aa⟩:=qCR (cs0:=p.cs0) V;refine(qvS B (c:=p.c0) (z:=p.zi) (a':=qsR p.cs0 a) rfl rfl (qAR a) rfl u.h0 (λd=>qBR Q (w:=w.at d) u.h0) aa W).mono ?_;rintro ae af ⟨ag,d,⟨ab,hM,rfl⟩,ac⟩;exact⟨s,ab,_,A,g,cs,M,E,H,cap,_,B,hM,(u.at d).shut hp.plc _,R,ac⟩
def qUQ{p:SP}(hp:p.ok)(h12:p.cs7.length=8){m}{T}(h:p.Lq m T):Go.Duo.Comes X0 m T p.Lr:=by
 obtain⟨s,a,w,vg,g,cs,W,ans,oa,cap,k1,hs0,hA,hJ,hK,h2⟩:=h
 have hlt:∀c,(qSH (.slice oa ans.length cap) p.b7 p.b12 p.c1 p.c2 p.cs0).has c->c<p.N:=λc hc=>by
  rcases qUE hc with rfl|rfl
  .exact hp.plc.l2.2
  .exact hp.plc.l1.2
 obtain⟨d1,d2,hds,e1,e2,e3,e4⟩:=hA.defers;have hcs8:cs.length=8:=by obtain⟨_,_,_,_,_,rfl,_⟩:=hK.wo;rfl
 let St:zH->zp->Prop:=λgr w'=>∃a',gr=G (bV.atR a' (.inRegion qlF [2]::[])) [BM]/\a'.defers=[d1,d2]/\a'.tmps[39]?=O (.chan (O p.c2))/\a'.tmps[40]?=O (.agg ⟨cs⟩)/\JD p.w0 p.N p.c1 p.c2 p.b7 p.b12 p.cs7 k1 (p.hs g cs oa cap ans) w'
 have hG:(⟨p.N,zb,λ_ _ _ _=>zV,St⟩:Env X0).G (Go.Conc.served (F3 a) (.tuple #[p.zi,.bool zb])) w:=by
  refine q3V (E:=⟨p.N,zb,λ_ _ _ _=>zV,St⟩) (N:=p.N) (zG _) hK.wo hA (rs:=[.row 10 oa ans.length cap 55 13 (ans.map λ(x:Ans)=>x.cs).flatten]) hJ.mine ?_;intro a' w' nx' f1 f2 f3 f4;exact qpL λd=>⟨a',rfl,f1.trans hds,f2,f3,JD.at (JD.next hp.plc hJ (f4.fit (nx':=40) (by simp[Az,Res.eqv])) (zG _)) d⟩
 refine(qPW sf hlt (λ_ _ _ _ h=>h) hG h2).trans ?_;rintro m1 T1 ⟨g1,w1,⟨a',rfl,f1,f2,f3,f4⟩,h3⟩;have hpl:=f4.pl hp.plc
 have hone:∀v∈cs,v.oneCell'=I:=λv hv=>by
  have:=f4.mine.sim.res (.blk 0 p.N 44 (cs.map .v)) (by simp[SP.hs]);exact this.2 (.v v) (zAb.2 ⟨v,hv,rfl⟩)
 refine(qzY (co:=p.c1) (cl:=p.c2) (Wv:=.agg ⟨cs⟩) (zW:=.agg zW) (zA:=zAn) (Fin:=L3 p.w0 p.N p.c1 p.c2 p.b7 p.b12 cs (p.hs g cs oa cap ans) (.slice oa ans.length cap) p.cs0) hs0 hp.plc.d12 rfl rfl (λg₂ hg₂ w₁ h₁=>?_) rfl (λd=>(q5X f2 f3 _).1) (by rw[(q5X f2 f3 w1).2];exact NO e1 e2 e3 e4 f1) f4.h1 f4.h2 ⟨hp.plc.l1.2,hp.plc.l2.2⟩ h3).mono ?_
 .obtain⟨a2,hM,rfl⟩:=hg₂;exact Oi hcs8 h12 hone hpl hM w₁ (JQ.re hpl w1 w₁ h₁ f4.jq)
 .exact λm' T' h'=>⟨s,g,cs,W,ans,oa,cap,vg,hK,hpl,h'⟩
end Go.Proofs.YtlmhpamhhgogaaaGreat
namespace Go.Proofs.YtlmhpamhhgogaaaGreat
open Go.Conc (G rcase rcaseNil scase AtIn Sits Seat closeEvents)
open Go.Proofs.YtlmhpamhhgogaaaGreat.Sx Go.Duo Go.RowKit
section
variable{w0 w:zp}{N c0 c1 c2 b7 b12 k0 k1:Z}{cs7:F zg}{g:GW}{x:Res}{nx:Z}
def qtW{B lo}(h:Cb B ⟨g,[x],nx,lo⟩ w)(ty)(sz):Cb B ⟨g,[x,.row 10 zc 0 0 ty sz []],40,lo⟩ w:=by
 have q:Hs.bks ⟨g,[x,.row 10 zc 0 0 ty sz []],40,lo⟩=Hs.bks ⟨g,[x],nx,lo⟩:=by simp[Hs.bks,Res.bk]
 refine⟨h.size,⟨h.sim.AJ,h.sim.frm,λr u=>?_,by rw[q];exact h.sim.nod,λb hm=>h.sim.fre b (q▸hm),h.sim.fz,h.sim.own,h.sim.low.1,λb hm=>h.sim.low.2 b (q▸hm)⟩,h.lo⟩;rcases zJ.1 u with rfl|u
 .exact h.sim.res _ sd
 .obtain rfl:=zA9.1 u;exact⟨⟨sd,.inl ⟨rfl,rfl⟩⟩,λC A=>absurd A zAd⟩
def JC.nil{lo}(h:JC w0 N c0 c1 c2 b7 b12 cs7 k0 k1 ⟨g,[x],nx,lo⟩ w):JC w0 N c0 c1 c2 b7 b12 cs7 k0 k1 ⟨g,[x,.row 10 zc 0 0 55 13 []],40,lo⟩ w:=
 ⟨qtW h.mine 55 13,h.below,h.h0,h.h1,h.h2,h.m7,h.m12,h.ng⟩
end
section
variable{w0 w:zp}{g g':GW}{vl:zg}{W:Wd}{c0 c1 c2 b7 b12:Z}{cs7:F zg}{a:zDN}
def qqP{P}{B:Z}{K}{S:Z->zH->Prop}:∀{j:Z}{g:zH},Go.Duo.Way P B K (λg=>∃n,S n g) j g->∃n,Go.Duo.Way P B K (S n) j g
 |0,_,h=>h
 |_+1,_,⟨q,g',u,h⟩=>let⟨n,A⟩:=qqP h;⟨n,q,g',u,A⟩
def qQa{cs}{m}{T}{zi zo}(hzi:ZV 167 zi)(hzo:ZV 89 zo){l}{Inv}(hl:rSl 10 rOp g vl l)(hl2:l.length<=200)(hsv:qcL l Inv)(hI:Inv 0 W [])(h:AtGo w0 g vl W c0 c1 c2 b7 b12 g' cs7 a w)(hH:ER X0 (·=0) (λ_=>zc) 0 0 (G (bS.atR a (.inRegion q1I [4]::.code qpB::[])) cs) w m T):Go.Duo.Comes X0 m T (SP.Lr ⟨w0,w.heap.size,c0,c1,c2,b7,b12,cs7,g,vl,l,Inv,zi,zo,cs⟩):=by
 generalize hp0:(⟨w0,w.heap.size,c0,c1,c2,b7,b12,cs7,g,vl,l,Inv,zi,zo,cs⟩:SP)=p;have hp:p.ok:=by subst hp0;exact⟨h.lt,hzi,hzo,hl,hl2,hsv⟩
 have h12:p.cs7.length=8:=by
  subst hp0;obtain⟨_,_,_,_,_,rfl,_⟩:=h.wo;rfl
 have hK:p.K 0 g' cs7 W [] (.slice zc 0 0):=by
  subst hp0;exact⟨h.le,h.wo,hI,rfl,⟨zc,0,rfl,zG _,zF _,λ_=>⟨rfl,rfl⟩,λi x hx=>by simp at hx⟩,h.old⟩
 cases l with
 |cons o l'=>
  refine(q5b hzi hzo hl (o:=o) rfl h hH).trans ?_;rintro m1 T1 ⟨s,a',w',ec,hs,hA,hec,hJ,h2⟩
  have h3:p.G1 0 m1 T1:=by
   subst hp0;exact⟨s,a',w',_,ec,o,g',cs7,W,[],zc,0,hs,rfl,hA,hJ.nil,hK,qzE _ _ _ _ h.le hec.2,h2⟩
  exact(qEO hp l'.length 0 (by subst hp0;simp) h3).trans λm2 T2 h4=>(qIX hp h4).trans λm3 T3 h5=>qUQ hp h12 h5
 |nil=>
  have hpl:=h.lt;obtain⟨ol,cl,hvl,hcap,hmax,hnone,hr⟩:=id hl;obtain⟨k',hk',hP⟩:=qGb hzi (.agg ⟨cs7⟩) c0 c1 c2 w.heap.size
  have key:∃n0 j,Go.Duo.Way X0 w.heap.size (KA w (oV (.agg ⟨cs7⟩))) (qNF X0 (KA w (oV (.agg ⟨cs7⟩))) c0 λgr=>zDU X0 I Go.Duo.TrK Go.Duo.NoS w.heap.size (qSH (.slice zc 0 0) b7 b12 c1 c2 cs) n0 gr) j (G (bS.atR a (.inRegion q1I []::.code qpB::[])) cs):=by
   have hM:∀v,BI (.slice ol 0 cl) v ⟨b7,0,zc⟩ ⟨b12,0,zc⟩ c0 c1 c2 (a.put (O 16) v):=by rw[<-show vl=.slice ol 0 cl from hvl];exact BI.of h
   obtain⟨j,hW⟩:=qca (B:=w.heap.size) (K:=KA w (oV (.agg ⟨cs7⟩))) (Stop:=λgr=>∃n0,qNF X0 (KA w (oV (.agg ⟨cs7⟩))) c0 (λgr=>zDU X0 I Go.Duo.TrK Go.Duo.NoS w.heap.size (qSH (.slice zc 0 0) b7 b12 c1 c2 cs) n0 gr) gr)
    (v16:=zAX) (a:=a) (b:=bS) (k:=[]) (cs:=cs) rfl (by rw[h.size];decide) hM λa' hA'=>
     qjS (ol:=ol) (oa:=zc) (L:=0) (i:=0) (cl:=cl) (ca:=0) rfl (zG _) hA' λa'' hA'' h69=>by
      obtain⟨n,hn⟩:=qCR (cs0:=cs) (hA''.mq (b7:=b7) (b12:=b12) rfl rfl);exact⟨n,rfl,qAR a'',qsR cs a'',rfl,λw' _ cap k hc=>qBR h69 hc,qJC (zF _) hn⟩
   obtain⟨n,hn⟩:=qqP hW;exact⟨n,j,hn⟩
  obtain⟨n0,j,hW⟩:=key
  refine(qWO (n:=0) (B0:=w.heap.size) (X:=qSH (.slice zc 0 0) b7 b12 c1 c2 cs) (S:=λ_=>Seat.one c0 zi I (qHM (.slice zc 0 0) c0 c1 c2 w.heap.size)) (z:=zi) (c:=c0) (k:=0) rfl
   (λd=>qET rfl (by simp[bS]) h.t49 h.t50 h.t51 h.t52) (qBQ hpl.d12) (λc hc=>qMT (N:=0) h.ch.h1 h.ch.h2 hc) (λc hc=>?_) (λc hc=>?_) h.ch.h0 hpl.l0.2 hk' (λ_=>rfl) (λ_=>hP) (λB hB=>qgS hB (λg h=>qXc hB h) hW) hH).trans ?_
  .rcases qUE hc with rfl|rfl
   .exact hpl.l2.2
   .exact hpl.l1.2
  .rcases qUE hc with rfl|rfl
   .exact hpl.d02.symm
   .exact hpl.d01.symm
  .rintro m' T' ⟨s,g₂,d,hs,_,⟨a',hA',rfl⟩,h2⟩;refine qUQ hp h12 ?_;subst hp0;exact⟨s,a',_,_,g',cs7,W,[],zc,0,0,hs,hA',((h.jc d).nil.shut hpl 0),hK,h2⟩
end
abbrev zWl:F zg:=[.int .i64 0,.int .i64 0,.int .i64 0,.slice zc 0 0,.slice zc 0 0,.slice zc 0 0,.slice zc 0 0,.slice zc 0 0]
section
variable{w0 w:zp}{N c1 c2 b7 b12:Z}{x12:F zg}{hs:Hs}
def JQ.own(hp:Pl2 w0.heap.size N c1 c2 b7 b12)(h:JQ w0 N c1 c2 b7 b12 x12 hs w)(H:∀v∈x12,v.oneCell'=I)(nx):Aq (frB w0.heap.size w hs.g h.below.size) ⟨hs.g,.blk 7 b7 44 (zWl.map .v)::.blk 12 b12 44 (x12.map .v)::hs.rs,nx,w0.heap.size⟩ w:=by
 have A:=h.mine.sim;have D:Hs.bks ⟨hs.g,.blk 7 b7 44 (zWl.map .v)::.blk 12 b12 44 (x12.map .v)::hs.rs,nx,w0.heap.size⟩=b7::b12::hs.bks:=by simp[Hs.bks,Res.bk]
 refine⟨A.AJ,⟨rfl,rfl,rfl,zG _,λ_ _=>rfl⟩,λr B=>?_,?_,λb q=>?_,λ_ _ L=>L,λn M _ u=>?_,h.below.size,λb q=>?_⟩
 .rcases zJ.1 B with rfl|B
  .exact⟨by rw[qWG];exact h.m7,λc E=>by
    obtain⟨v,C,rfl⟩:=zAb.1 E;simp only[zWl,zJ,zAd,zBh]at C
    rcases C with rfl|rfl|rfl|rfl|rfl|rfl|rfl|rfl<;>rfl⟩
  .rcases zJ.1 B with rfl|B
   .exact⟨by rw[qWG];exact h.m12,λc E=>by
     obtain⟨v,C,rfl⟩:=zAb.1 E
     exact H v C⟩
   .exact A.res r B
 .rw[D];refine zBy.2 ⟨λhm=>?_,zBy.2 ⟨λhm=>h.mine.low hp.l12.2 hm,A.nod⟩⟩;rcases zJ.1 hm with e|hm
  .exact hp.d e
  .exact h.mine.low hp.l7.2 hm
 .rw[D]at q;rcases zJ.1 q with rfl|q
  .exact⟨h.ng.2.2.1,λu=>by have:=hp.l7.1;have:b<w0.heap.size:=u;omega⟩
  .rcases zJ.1 q with rfl|q
   .exact⟨h.ng.2.2.2,λu=>by have:=hp.l12.1;have:b<w0.heap.size:=u;omega⟩
   .exact⟨(A.fre b q).1,λu=>(A.fre b q).2 (by have:=hp.l7;have:b<w0.heap.size:=u;show b<N;omega)⟩
 .have:n<w0.heap.size:=u;simp only at M;omega
 .rw[D]at q;rcases zJ.1 q with rfl|q
  .exact hp.l7.1
  .rcases zJ.1 q with rfl|q
   .exact hp.l12.1
   .have:=A.low.2 b q;have:=h.mine.lo;have:=hp.l7;simp only;omega
end
def MG{tmps:zR zg}{x z:zg}{b:Z}{ec:F zg}{w:zp}(hb:w.heap[b]?=O (.cells ⟨ec⟩ 44 (0,0)))(q:tmps[6]?=O x)(u:tmps[7]?=O (.pointer (O ⟨b,0,zc⟩)))(A:tmps[8]?=O z)(hl:ec.length=8):(results Tryz.f8 tmps).run X0 w=.ok (.tuple #[x,.agg ⟨ec⟩,z]) w:=by
 have B:Tryz.f8.results.toList=[.tmp 6,.cell 7 44,.tmp 8]:=rfl
 have C:∀j h,ec[j]?=O h->w.cell? ((⟨b,0,zc⟩:zAH).add j)=O h:=λj h D=>by
  rw[qlA,zAu,qCB hb];simpa using D
 have E:=(qnB Kl.1 Kl.2 (w:=w) (a:=⟨b,0,zc⟩)).2 ec rfl hl C;refine qhD (vs:=[x,.agg ⟨ec⟩,z]) ?_;rw[B];simp[qkR,zAa,q,u,A,zAo,asAddr,E]
def Nh{E:Env X0}{w0 w:zp}{N c1 c2 b7 b12:Z}{g:GW}{cs:F zg}{W:Wd}{h:F Ans}{oa:zs zAH}{cap:Z}{ac:zM}{a:zDN}{c:zAt}{B:F zAt}(hE:E.N<=w0.heap.size)(hp:Pl2 w0.heap.size N c1 c2 b7 b12)(hW:rWo g cs W)(hl:h.length<=1000)(A:JQ w0 N c1 c2 b7 b12 cs ⟨g,[.blk 0 N 44 (cs.map .v),.row 10 oa h.length cap 55 13 (h.map (·.cs)).flatten],40,N⟩ w)(hA:MQ (.slice oa h.length cap) b7 b12 c1 c2 ac a)(ad:∀w' g',Aq (frB w0.heap.size w g A.below.size) ⟨g',[],0,w0.heap.size⟩ w'->g<=g'->AX g' w0.heap.size 55 13 (.slice oa h.length cap) h.length (h.map (·.cs)).flatten->E.G (G (c.finish (.tuple #[.slice oa h.length cap,.agg ⟨cs⟩,.int .i64 0])) B) w'):E.G (Go.Conc.served (Fj (c::B) a) (.tuple #[.int .i64 0,.bool zb,.agg zW,zAn])) w:=by
 have ae:∀v∈cs,v.oneCell'=I:=λv C=>by
  have:=A.mine.sim.res (.blk 0 N 44 (cs.map .v)) sd;exact this.2 (.v v) (zAb.2 ⟨v,C,rfl⟩)
 have af:=A.own hp ae 40;have q:(frB w0.heap.size w g A.below.size).has E:=q7J hE;rw[qzL]
 have ag:Stn 88 (frB w0.heap.size w g A.below.size) [] [(72,.tup [.v (.int .i64 0),.v (.bool zb),.v (.agg zW),.v zAn]),(7,.p 7 b7 0),(12,.p 12 b12 0),(16,.row 10 oa h.length cap)] ⟨g,.blk 7 b7 44 (zWl.map .v)::.blk 12 b12 44 (cs.map .v)::[.blk 0 N 44 (cs.map .v),.row 10 oa h.length cap 55 13 (h.map (·.cs)).flatten],40,w0.heap.size⟩ (a.put (O 72) (.tuple #[.int .i64 0,.bool zb,.agg zW,zAn])) w:=by
  refine⟨by simp[zBg,hA.size],hA.defers,λn D L=>?_,af⟩;simp only[AS]at L
  repeat' split at L
  all_goals first|(cases L;done)|skip
  all_goals(rename_i ah;obtain rfl:=zP ah;obtain rfl:=zv L)
  .exact q4D (by rw[hA.size];decide)
  .rw[qGA sb];exact hA.t7
  .rw[qGA sb];exact hA.t12
  .rw[qGA sb];exact hA.t16
 obtain⟨_,_,_,_,_,rfl,_,ai,aj,ak,al,an⟩:=hW;obtain⟨_,_,rfl,_⟩:=id ai;obtain⟨_,_,rfl,_⟩:=id aj;obtain⟨_,_,rfl,_⟩:=id ak;obtain⟨_,_,rfl,_⟩:=id al;obtain⟨_,_,rfl,_⟩:=id an;refine qRB (τ:=[1,2,3]) (rest:=[]) q ((qaA E).snd _ q) si ag (K:=λP Q=>∀u w',Stn 88 (frB w0.heap.size w g A.below.size) [] P Q u w'->E.G (G (bS.atR u (.inRegion q0I []::.code qpN::.inBlock 4::qPJ)) (c::B)) w') (zq ?_) (λ_ _ u w' H T=>H u w' T);intros;intro aB aC V;refine .quiet rfl (λ_=>quA) ?_;unfold qpN qTL qEH q8B qpB qJE qqI qUM Tryz.f8;simp only[zAM,tlC,qDM,GX,hdC];refine qLJ (q1J I rfl rfl V ?_);refine qvA (q6B q ((qaA E).snd _ q) si V (zq ?_));intros;intro aD aE ao;refine qvA (qvA (q6B q ((qaA E).snd _ q) si ao (zq ?_)));intros;intro aF aG Y;refine q1J zb rfl rfl Y (qAI ?_);refine qvA (q6B q ((qaA E).snd _ q) si Y (zq ?_));intros;intro aH aI aa;refine q1J I rfl rfl aa ?_;refine qvA (q2L hm q ((qaA E)) (λap aq=>(qaA E).snd ap aq) rfl (oi:=.first 0 (.first 1 (.first 2 (.exec 3 (.first 4 .nil))))) se se si sb (λd ar=>absurd ar zAd) aa (K:=λP Q=>∀u w',Stn 88 (frB w0.heap.size w g A.below.size) [] P Q u w'->E.G (G (bS.atR u (.code _::_)) (c::B)) w') (zq ?_) (λ_ _ u w' H T=>H u w' T));intros;intro au ab M;have U:∀(n:Z){D:SV}{v:zg},AS _ n=O D->Ae D=v->au.tmps[n]?=O v:=λn{D v}H e=>e▸M.Au n D H;have av:X0.funcs[8]?=O Tryz.f8:=Tryz.func8;refine .quiet rfl (λ_=>qvK rfl) ?_;refine q4G (R:=λe w'=>e=.returned (.tuple #[.slice oa h.length cap,.agg ⟨_⟩,.int .i64 0])/\Aq (frB w0.heap.size w g A.below.size) _ w') [] ab _ c B rfl M.defers av rfl (λd=>⟨_,MG (w:=ab.at d) (M.sim.res _ (zAl _ (zAm ..))).1 (U 6 rfl rfl) (U 7 rfl rfl) (U 8 rfl rfl) rfl,rfl,M.sim.at d⟩) λv w' C=>?_
 .obtain⟨C,aw⟩:=C;cases C;have ax:=aw.sub (rs:=[.row 10 oa h.length cap 55 13 (h.map λ(x:Ans)=>x.cs).flatten]) (nx:=0) (List.Sublist.cons _ (List.Sublist.cons _ (List.Sublist.cons _ (List.Sublist.cons _ (zB6 _)))));obtain⟨g',ay,_,az,aA⟩:=ax.Cw;exact ad w' g' aA ay az
end Go.Proofs.YtlmhpamhhgogaaaGreat
namespace Go.Duo
open Go.Proofs.YtlmhpamhhgogaaaGreat.Sx Go.RowKit
def qQR(P:zt)(f:zBa)(args:zR zg)(w:zp)(R:zg->zp->Prop):Prop:=
 ∀(c:zAt)(cs:F zAt)(m:Machine)(h:zDQ),ER P (·=0) (λ_=>zc) 0 0 (Go.Conc.G (zAW P f args .normal) (c::cs)) w m h->
  Comes P m h λu A=>∃v q,R v q/\ER P (·=0) (λ_=>zc) 0 0 (Go.Conc.G (c.finish v) cs) q u A
def qnc(P:zt)(f:zBa)(args:F zg)(g:GW)(Q:zg->GW->Prop):Prop:=
 ∀h,Go.Proofs.YtlmhpamhhgogaaaGreat.Sx.Good g h->qQR P f args.toArray h λv q=>Below h.heap.size h q/\Q v (g.next h q)
def ER.zero{P}{Mem}{q}{h n}{a}{w}{m}{u}(k:ER P Mem q h n a w m u):ER P Mem q h 0 a w m u:=by
 obtain⟨A,sl,B,C,D,_,E⟩:=k.of;exact⟨A,sl,B,C,D,zF _,E⟩
end Go.Duo
namespace Go.Proofs.YtlmhpamhhgogaaaGreat
open Go.Conc (G)
open Go.Proofs.YtlmhpamhhgogaaaGreat.Sx Go.Duo Go.RowKit
def AtGo.at{w0 w}{g g'}{vl}{W}{c0 c1 c2 b7 b12}{q}{a}(h:AtGo w0 g vl W c0 c1 c2 b7 b12 g' q a w)(d):AtGo w0 g vl W c0 c1 c2 b7 b12 g' q a (w.at d):=by
 obtain⟨u,hs,A,e⟩:=h.sim;exact⟨h.le,h.old,h.wo,⟨h.ch.h0,h.ch.h1,h.ch.h2,h.ch.d01,h.ch.d02,h.ch.d12,h.ch.l0,h.ch.l1,h.ch.l2⟩,⟨h.below.os,h.below.tape,h.below.output,h.below.size,h.below.block⟩,h.ng,⟨u,hs,A.at d,e⟩,h.m7,h.m12,h.l7,h.l12,h.d,h.size,h.t2,h.t7,h.t12,h.t13,h.t14,h.t15,h.t49,h.t50,h.t51,h.t52,h.defers⟩
def q5R{w0 w w':zp}{g0 g g':GW}{A:w0.heap.size<=w.heap.size}{rs:F Res}{nx lo:Z}(h:Aq (frB w0.heap.size w g A) ⟨g',rs,nx,lo⟩ w')(B:∀n,n<w0.heap.size->g.g n->g0.g n):g'<=g0.next w0 w':=
 ⟨h.AJ.1,λn q=>⟨⟨zQ (g'.wf n q) h.AJ.1,(zAL n w0.heap.size).imp (λu=>B n u (h.fz n u q)) id⟩,h.AJ.2 n q⟩⟩
def qgW{g:GW}{x y z:zg}{c:BB}{names:F BA}{P vl:zg}{l:F OpD}{Inv:Z->Wd->F Ans->Prop}(hc:qHB g [x,y,z] c)(ae:qTA c=zc)(af:rSl 1 FJ g P names)(ag:qbI (qjB c) names 1)(ah:names.length<=1000000)(ai:c.As.length<=1000000)(hl:rSl 10 rOp g vl l)(aa:l.length<=200)(aj:qcL l Inv)(ak:Inv 0 (EK (qjB c) names 1) []):qnc X0 8 [.agg ⟨[x,y,z]⟩,P,vl] g λv g'=>∃A csW W h,v=.tuple #[A,.agg ⟨csW⟩,.int .i64 0]/\rWo g' csW W/\rSl 13 F7 g' A h/\h.length=l.length/\Inv l.length W h:=by
 intro q al C cs m ab an;obtain⟨aL,ao⟩:=qaa 167 se;obtain⟨aM,ap⟩:=qaa 89 se;let Q:zH->zp->Prop:=λR D=>∃a c0 c1 c2 H L g' M,R=G (bS.atR a (.inRegion q1I [4]::.code qpB::[])) (C::cs)/\AtGo q g vl (EK (qjB c) names 1) c0 c1 c2 H L g' M a D
 have aq:(⟨0,I,λ_ _ _ _=>zV,Q⟩:Env X0).G (G (zAW X0 8 #[.agg ⟨[x,y,z]⟩,P,vl] .normal) (C::cs)) q:=
  On (E:=⟨0,I,λ_ _ _ _=>zV,Q⟩) al (zF _) hc ae af ag ah ai hl aa λa D c0 c1 c2 H L g' M T=>qpL λd=>⟨a,c0,c1,c2,H,L,g',M,rfl,T.at d⟩
 refine(qbJ (E:=⟨0,I,λ_ _ _ _=>zV,Q⟩) rfl (λi s c U=>by cases U) (λf args c cs D ar m ab V _=>(V 0).elim) aq an).trans ?_;rintro aN aO ⟨aP,aQ,⟨a,c0,c1,c2,H,L,g',M,rfl,T⟩,au⟩;refine(qQa ao ap hl aa aj ak T au).trans ?_;rintro aR aT ⟨s,aU,av,W,h,aV,cap,aW,u,aw,aX,ax,⟨ay,aY,az,rfl,ac⟩,aA⟩;have aB:h.length=l.length:=u.len;let Y:zH->zp->Prop:=λR B=>∃v,R=G (C.finish v) cs/\Below q.heap.size q B/\∃A csW W h,v=.tuple #[A,.agg ⟨csW⟩,.int .i64 0]/\rWo (g.next q B) csW W/\rSl 13 F7 (g.next q B) A h/\h.length=l.length/\Inv l.length W h
 have aC:(⟨0,I,λ_ _ _ _=>zV,Y⟩:Env X0).G (Go.Conc.served (Fj (C::cs) ay) (.tuple #[.int .i64 0,.bool zb,.agg zW,zAn])) ax:=by
  refine Nh (E:=⟨0,I,λ_ _ _ _=>zV,Y⟩) (zF _) aw u.wo sa ac az λB aZ w aD aE=>qpL λd=>?_;have ad:=q5R (g0:=g) (w.at d) u.old;have aF:Below q.heap.size q (B.at d):=ac.below.trans ⟨w.frm.os,w.frm.tape,w.frm.output,w.frm.size,w.frm.block⟩;refine⟨_,rfl,aF,_,av,W,h,rfl,qCA _ _ _ _ (GW.trans aD ad) u.wo,?_,aB,by have:=u.inv;exact this⟩;exact(qiD aE.rd h (·.cs) rfl rfl (λx _=>rfl) λx aG=>⟨rfl,qGY u.gv x aG⟩).mono qYE ad
 refine(qbJ (E:=⟨0,I,λ_ _ _ _=>zV,Y⟩) rfl (λi s c U=>by cases U) (λf args c cs D ar m ab V _=>(V 0).elim) aC aA.zero).mono ?_;rintro a0 a1 ⟨a2,aH,⟨v,rfl,aI,aJ⟩,aK⟩;exact⟨v,aH,⟨aI,aJ⟩,aK⟩
end Go.Proofs.YtlmhpamhhgogaaaGreat
namespace Go.Proofs.YtlmhpamhhgogaaaGreat.Sx
open Go.Duo
open Go.RowKit
def OkE{P:zt}(E:Env P)(f:zBa)(args:F zg)(g:GW)(Q:zg->GW->Prop):Prop:=
 ∀h,Good g h->E.N<=h.heap.size->BH E f args.toArray h λe q=>∃v,e=.returned v/\Below h.heap.size h q/\Q v (g.next h q)
def OkE.of{P:zt}{E:Env P}{f:zBa}{args:F zg}{g:GW}{Q:zg->GW->Prop}(h:Ok P f args g Q):OkE E f args g Q:=λq u hE=>h q u E hE
def OkE.mono{P:zt}{E:Env P}{f:zBa}{args:F zg}{g:GW}{Q q:zg->GW->Prop}(h:OkE E f args g Q)(A:∀v g',g<=g'->Q v g'->q v g'):OkE E f args g q:=
 λB u hE=>(h B u hE).mono λ_ _⟨v,C,w,D⟩=>⟨v,C,w,A v _ (GW.le_next u w) D⟩
def OkE.top{P:zt}{E:Env P}(C:∀f args w R,qQR P f args w R->E.Big f args w R){f:zBa}{args:F zg}{g:GW}{Q:zg->GW->Prop}(h:qnc P f args g Q):OkE E f args g Q:=by
 intro w B _ c cs D;refine .big (R:=λv u=>Below w.heap.size w u/\Q v (g.next w u)) (λd=>C _ _ _ _ ?_) λv u⟨q,A⟩=>D v u ⟨v,rfl,q,A⟩;intro H L m M T;refine(h (w.at d) ⟨B.1,B.2⟩ H L m M T).mono ?_;rintro V W ⟨v,u,⟨q,A⟩,U⟩;exact⟨v,u,⟨⟨q.os,q.tape,q.output,q.size,q.block⟩,A⟩,U⟩
def Mf{P:zt}(E:Env P)(f:zBa)(K:SV->Hs->Prop)(w:F SV)(C:Hs):Prop:=match C with
 |⟨h,q,A,B⟩=>match qTa w with
  |true=>qhC w λu=>∃v,OkW P f u h q v/\K (.v v) ⟨h,q,A,B⟩
  |false=>qhC w λu=>(∃v,OkV P f u h v/\K (.v v) ⟨h,q,A,B⟩)\/OkE E f u h λv D=>K (.v v) ⟨D,q,A,B⟩
def Ls{P:zt}(E:Env P):qOA:=λ_ f args hs K=>qpY args hs (Mf E f K)
def quP{P}(E:Env P):IB E (Ls E):=λR f args hs K u T D C L=>by
 obtain⟨U,M,u,Q,h⟩:=q6K args u L;rw[<-Q];obtain⟨V,W,Y,aa⟩:=M;unfold Mf at u;simp only at u;split at u
 .obtain⟨v,w,A⟩:=qJB _ u;refine(w.calls C h).mono ?_;rintro e H ⟨B,rfl,q,rfl⟩;exact⟨.v B,_,rfl,q,h.agree q,A⟩
 rcases qJB _ u with⟨v,w,A⟩|w
 .refine(w D h.AJ E (h.N C)).mono ?_;rintro e H ⟨B,rfl,q,rfl⟩;exact⟨.v B,_,rfl,q,h.agree q,A⟩
 .refine(w D h.AJ (h.N C)).mono ?_;rintro e H ⟨B,rfl,q,A⟩;exact⟨.v B,_,rfl,q,h.called q,A⟩
end Go.Proofs.YtlmhpamhhgogaaaGreat.Sx
namespace Go.Proofs.YtlmhpamhhgogaaaGreat.Sx
open Go.Conc (G)
open Go.Duo
open Go.RowKit
section
variable{P:zt}
def qYU{f}{fn}{c}{rs}(U:P.funcs[f]?=O fn)(hb:fn.body=O c)(H:qwI P fn.results.toList=O rs){args}{g}{Q}(hl:args.length<=fn.ntmps)(h:∀(E:Env P)(fr:Fr),fr.has E->∀(b:zAt)(cs:F zAt),b.roundOf=zc->b.kind≠.early->(∀sl hs a w k,Stn fn.ntmps fr [] sl hs a w->(Hn rs sl hs λv=>Hq v hs λv' B=>qSI v' λx=>∀C,B.g<=C->Q x C)->E.G (G (b.atR a (.code .ret::k)) cs) w)->∀a w,Stn fn.ntmps fr [] (qoH (args.map .v) 0) ⟨g,[],0,g.w.heap.size⟩ a w->E.G (G (b.atR a [.code c]) cs) w):Ok P f args g Q:=by
 intro w V E hE W cs u;have ab:Aq ⟨w,(·<w.heap.size),g.g,λ_ h=>h⟩ ⟨g,[],0,g.w.heap.size⟩ w:=⟨V,⟨rfl,rfl,rfl,zG _,λ_ _=>rfl⟩,(λr H=>by cases H),zBR,(λb hb=>by cases hb),(λn _ h=>h),(λn hl ac _=>by have:=g.wf n ac;exact absurd hl (zDE.2 this)),V.1,λb hb=>by cases hb⟩;let b:zAt:={(default:zAt)with fn:=f,kind:=.normal,roundOf:=zc}
 have ad:zAW P f args.toArray .normal=b.atR {tmps:=args.toArray++zAU (fn.ntmps-args.toArray.size) zAX,defers:=[]} [.code c]:=by
  simp[zAW,zAQ,U,hb,b]
 rw[ad];refine h E ⟨w,(·<w.heap.size),g.g,λ_ h=>h⟩ (λn A=>zQ A hE) b (W::cs) rfl (by simp[b]) (λsl hs a ae k D af=>?_) _ w ⟨sf,rfl,λn x ag=>?_,ab⟩
 .refine .quiet rfl (λ_=>qvK rfl) ?_;obtain⟨l,ah,ai⟩:=qbD H af
  have aj:∃v:SV,Ae v=qqT (qDA l)/\Hq v hs λv' B=>qSI v' λx=>∀C,B.g<=C->Q x C:=by
   match l,ah with
   |[],u=>exact⟨.tup [],rfl,u⟩
   |[x],u=>exact⟨x,rfl,u⟩
   |x::y::r,u=>exact⟨.tup (x::y::r),rfl,u⟩
  obtain⟨v,L,ak⟩:=aj;refine q4G (R:=λe Y=>e=.returned (Ae v)/\Aq ⟨w,(·<w.heap.size),g.g,λ_ h=>h⟩ hs Y) [] ae _ W cs rfl D.defers U rfl (λd=>⟨Ae v,?_,rfl,D.sim.at d⟩) λv' Y⟨e,al⟩=>?_
  .rw[L];exact qhD (ai a.tmps D.Au _ _ (D.sim.at d))
  .cases e;obtain⟨v',B,an,ao,q⟩:=qiF v ak al;have aa:=qvC v' an;rw[ao]at aa;refine u _ _ ⟨_,rfl,⟨q.frm.os,q.frm.tape,q.frm.output,q.frm.size,λn A=>q.frm.block n A⟩,aa _ ⟨q.AJ.1,λn A=>⟨⟨zQ (B.g.wf n A) q.AJ.1,?_⟩,q.AJ.2 n A⟩⟩⟩;rcases zAL n w.heap.size with M|ap
   .exact .inl (q.fz n M A)
   .exact .inr ap
 .obtain⟨i,rfl,T⟩:=qdE _ 0 n x ag;have M:i<args.length:=by have:=(zd.1 T).1;simpa using this
  rw[zAv]at T;obtain⟨v,L,rfl⟩:=zU.1 T;show(args.toArray++_)[0+i]?=_;rw[zAu,zCk (by simpa using M)];simp[L,Ae]
def Stn.put{nt}{fr:Fr}{A}{sl}{hs}{a}{w}(h:Stn nt fr A sl hs a w){d}(hd:d<nt){v}(x)(B:Ae x=v):Stn nt fr A ((d,x)::sl) hs (a.put (O d) v) w:=
 ⟨by simp[zBg,h.size],h.defers,λn C q=>by
  simp only[AS]at q;split at q
  .rename_i u;obtain rfl:=zP u;obtain rfl:=zv q;rw[B];simp[zBg,h.size,hd]
  .rename_i u;have D:d≠n:=zCf u;rw[show(a.put (O d) v).tmps[n]?=a.tmps[n]? by simp[zBg,zO D]]
   exact h.Au n C q,h.sim⟩
def qOb{E:Env P}{b:zAt}{a:zDN}{k:F Item}{cs:F zAt}{ops:zR zDO}{i:Z}{rest:F Z}{o:zDO}{w:zp}(hb:b.roundOf=zc)(q:ops[i]?=O o)(u:o.guard=zc){v:zg}(A:∀w,(zy a.eval o).run P w=.ok (.value v) w/\(zy a.eval o).events P w #[]=#[])(h:E.G (G (b.atR (a.put o.dst v) (.inRegion ops rest::k)) cs) w):E.G (G (b.atR a (.inRegion ops (i::rest)::k)) cs) w:=
 .quiet rfl (λw=>(qpM (P:=P) (main:=E.main) hb q u A).2 w) h
def qEa{E:Env P}{b:zAt}{a:zDN}{k:F Item}{cs:F zAt}{ops:zR zDO}{i:Z}{rest:F Z}{o:zDO}{w:zp}{f:zBa}{args:zR zg}(hb:b.roundOf=zc)(C:b.kind≠.early)(q:ops[i]?=O o)(A:o.guard=zc)(u:∀w,(zy a.eval o).run P w=.ok (.enter f args) w/\Ch ((zy a.eval o).events P w #[])){R:Ending->zp->Prop}(hc:BH E f args w R)(h:∀v w',R (.returned v) w'->E.G (G (b.atR (a.put o.dst v) (.inRegion ops rest::k)) cs) w'):E.G (G (b.atR a (.inRegion ops (i::rest)::k)) cs) w:=by
 have hs:o.semAt b.roundOf a.eval=zy a.eval o:=by rw[hb];rfl
 refine .one rfl λd=>⟨_,_,_,by rw[qkL q (by simp[zAs,A]),hs,qGH (λd r v k=>by simp[zAQ]) (u _).1],.refl _,?_,Env.G.at (hc _ _ λv w' B=>?_) d⟩
 .unfold lst;split
  .exact Ch.seen qQD
  .exact Ch.seen (u _).2
 .rw[zBe,q];exact h v w' B
end
end Go.Proofs.YtlmhpamhhgogaaaGreat.Sx
namespace Go.Proofs.YtlmhpamhhgogaaaGreat
open Go.Conc (G)
open Go.Proofs.YtlmhpamhhgogaaaGreat.Sx Go.Duo Go.RowKit
def qAT(k:zn):Z:=if k=1 then 147 else if k=2 then 148 else if k=3 then 149 else if k=4 then 150 else if k=5 then 151 else 152
abbrev qYR(k:zn):zg:=.func (.func (qAT k)) ⟨[]⟩ ⟨[]⟩
noncomputable def qVc:zDT:=(Tryz.f121.body).getD .skip
def qXZ{P}{ρ}{o}{t n}{d:TypeDesc}{v}(hop:o.op=.makeInterface t (.tmp n))(q:ρ (.tmp n)=v)(u:P.underlying t=O d)(hd:∀m,d≠.interface m)(w):(zy ρ o).run P w=.ok (.value (.iface t v)) w/\(zy ρ o).events P w #[]=#[]:=by
 unfold zy;simp only[hop,q];have h:(underlying t).run P w=.ok d w:=zN u w;constructor
 .simp[Instr.makeInterface,zAa,h,zAo]
 .simp[Instr.makeInterface,Sem.events_bind,h,zBJ]
def L8:∃d,X0.underlying 257=O d/\∀m,d≠.interface m:=by
 have h:((X0.underlying 257).map λd=>match d with
  |.interface _=>zb
  |_=>I)=O I:=se
 obtain⟨d,q,u⟩:=zU.1 h;refine⟨d,q,λm e=>?_⟩;subst e;cases u
def MW(g){k}(hk:1<=k/\k<=6):OkV X0 121 [.int .i64 k] g (.iface 257 (qYR k)):=by
 have P:k=1\/k=2\/k=3\/k=4\/k=5\/k=6:=sa
 refine qYU (c:=qVc) (rs:=[.tmp 2]) Tryz.func121 rfl rfl (zBG rfl) λw E h b cs Q ag R a ah T=>?_;obtain⟨K,H⟩:∃K,K=k:=⟨_,rfl⟩;rcases P with rfl|rfl|rfl|rfl|rfl|rfl
 all_goals
  unfold qVc Tryz.f121;simp only[zAM];refine qvA (q6B h ((qaA w).snd _ h) si T (zq ?_));intros;intro ai aj U;refine qvA (q6B h ((qaA w).snd _ h) si U (zq ?_));intros;intro ak al V;refine qvA (qvA (q6B h ((qaA w).snd _ h) si V (zq ?_)));intros;refine⟨λA=>(nomatch A),λ_=>zq ?_⟩;intros;intro an ao L;refine q1J zb rfl rfl L (qAI ?_);refine qvA (.quiet rfl (λ_=>qIC) ?_);refine qRB (τ:=[0,1,2,3]) (rest:=[4,5]) h ((qaA w).snd _ h) si L (K:=λB C=>∀q u,Stn Tryz.f121.ntmps E [] B C q u->w.G (G (b.atR q (.inRegion _ [4,5]::_)) cs) u) (zq ?_) (λ_ _ q u A D=>A q u D);intros;refine zw ?_
  first|refine⟨1,⟨rfl,sb⟩,?_⟩|refine⟨2,⟨rfl,sb⟩,?_⟩|refine⟨3,⟨rfl,sb⟩,?_⟩|refine⟨4,⟨rfl,sb⟩,?_⟩|refine⟨5,⟨rfl,sb⟩,?_⟩|refine⟨6,⟨rfl,sb⟩,?_⟩
  refine zq ?_;intros;intro W ap M;obtain⟨aq,Y,aa⟩:=L8;have ab:W.tmps[16]?=O (qYR K):=by rw[H];exact M.Au 16 _ rfl
  refine qOb Q sy rfl (qXZ rfl (qFA ab) Y aa) ?_;have ac:=M.put (d:=17) sb (.v (.iface 257 (qYR K))) rfl;refine qRB (τ:=[5]) (rest:=[]) h ((qaA w).snd _ h) si ac (K:=λB C=>∀q u,Stn Tryz.f121.ntmps E [] B C q u->w.G (G (b.atR q (.inRegion _ []::_)) cs) u) (zq ?_) (λ_ _ q u A D=>A q u D);intros;intro ad ae af;refine .quiet rfl (λ_=>quA) (R _ _ ad ae [] af (zw ?_));intro ar au;rw[H]
def PsP(w:Wd)(m:Aj)(v:zg)(g':GW):Prop:=∃cs h,v=.tuple #[.agg ⟨cs⟩,.agg ⟨h⟩,.agg ⟨(psE w m).cs⟩]/\rWo g' cs (psW w m)/\qeA g' h (psM w m)
def qTW(g){cs u}{w}{m:Aj}(D:rWo g cs w)(hM:qeA g u m)(E:SnW w)(hb:BgW 1000000 w)(L:SmO m)(hk:1<=m.op.kind/\m.op.kind<=6):Ok X0 (qAT m.op.kind) [.agg ⟨cs⟩,.agg ⟨u⟩] g (PsP w m):=by
 unfold qAT;by_cases h:m.op.kind=1
 .rw[zk h];exact(qWW g D hM E hb L).mono λv H _⟨cs,u,a,b,c⟩=>⟨cs,u,by simp only[psE,zk h];exact a,by simp only[psW,zk h];exact b,by simp only[psM,zk h];exact c⟩
 rw[zh h];by_cases q:m.op.kind=2
 .rw[zk q];exact(qXW g D hM E hb).mono λv H _⟨cs,u,a,b,c⟩=>⟨cs,u,by simp only[psE,zh h,zk q];exact a,by simp only[psW,zh h,zk q];exact b,by simp only[psM,zh h,zk q];exact c⟩
 rw[zh q];by_cases A:m.op.kind=3
 .rw[zk A];exact(qRW g D hM E hb).mono λv H _⟨cs,u,a,b,c⟩=>⟨cs,u,by simp only[psE,zh h,zh q,zk A];exact a,by simp only[psW,zh h,zh q,zk A];exact b,by simp only[psM,zh h,zh q,zk A];exact c⟩
 rw[zh A];by_cases B:m.op.kind=4
 .rw[zk B];exact(qYW g D hM E hb).mono λv H _⟨cs,u,a,b,c⟩=>⟨cs,u,by simp only[psE,zh h,zh q,zh A,zk B];exact a,by simp only[psW,zh h,zh q,zh A,zk B];exact b,by simp only[psM,zh h,zh q,zh A,zk B];exact c⟩
 rw[zh B];by_cases C:m.op.kind=5
 .rw[zk C];exact(qZW g D hM E hb).mono λv H _⟨cs,u,a,b,c⟩=>⟨cs,u,by simp only[psE,zh h,zh q,zh A,zh B,zk C];exact a,by simp only[psW,zh h,zh q,zh A,zh B,zk C];exact b,by simp only[psM,zh h,zh q,zh A,zh B,zk C];exact c⟩
 rw[zh C];exact(qUW g D hM E hb).mono λv H _⟨cs,u,a,b,c⟩=>⟨cs,u,by simp only[psE,zh h,zh q,zh A,zh B,zh C];exact a,by simp only[psW,zh h,zh q,zh A,zh B,zh C];exact b,by simp only[psM,zh h,zh q,zh A,zh B,zh C];exact c⟩
def qCS(k):GB X0 (qAT k):=by
 unfold qAT;split
 .exact kF
 split
 .exact kF
 split
 .exact kF
 split
 .exact kF
 split
 .exact kF
 .exact kF
section
variable{g:GW}{cs ms:F zg}{w:Wd}{m:Aj}
def qRb(q:rWo g cs w)(hM:qeA g ms m)(B:SnW w)(hb:BgW 1000000 w)(C:SmO m)(hk:1<=m.op.kind/\m.op.kind<=6):Ok X0 275 [qYR m.op.kind,.agg ⟨cs⟩,.agg ⟨ms⟩] g (PsP w m):=
 Ok.Ao hm noT 0 Gf.2 (args:=[.v (qYR m.op.kind),.v (.agg ⟨cs⟩),.v (.agg ⟨ms⟩)]) (by
  have D:=qTW g q hM B hb C hk;obtain⟨E,H,L,M,P,Q,R,T,U,V,rfl⟩:=qJA q;obtain⟨W,Y,aa,ab,ac,ad,rfl⟩:=qwB hM;refine zq ?_;intros;refine⟨qCS _,?_⟩;refine .inr (D.mono λv ah h ae=>?_);obtain⟨ai,aj,rfl,u,A⟩:=ae;have af:=u;have ag:=A;obtain⟨E,H,L,M,P,Q,R,T,U,V,rfl⟩:=qJA u;obtain⟨W,Y,aa,ab,ac,ad,rfl⟩:=qwB A;refine zq ?_;intros;intro ak h
  exact⟨_,_,rfl,qCA _ _ _ _ h af,qUA _ _ _ _ h ag⟩)
end
def qTR(v:zg)(w:zp):(Go.method (X0.types.size+Made.depth) 257 v "hydrant/plane.step").run X0 w=.ok (275,v) w:=se
def qhS(v)(w):(Go.method (X0.types.size+Made.depth) 257 v "hydrant/plane.step").events X0 w #[]=#[]:=se
def qQY{P}{ρ}{o}{n B t t'}{d:TypeDesc}{v z}(hop:o.op=.typeAssert (.tmp n) B t I)(C:ρ (.tmp n)=.iface t' v)(u:P.underlying t=O d)(hd:∀m,d≠.interface m)(A:t'≠t)(h:∀w,(zAZ t).run P w=.ok z w/\(zAZ t).events P w #[]=#[])(w):(zy ρ o).run P w=.ok (.value (.tuple #[z,.bool zb])) w/\(zy ρ o).events P w #[]=#[]:=by
 unfold zy;simp only[hop,C];have q:(underlying t).run P w=.ok d w:=zN u w
 have D:(underlying t).events P w #[]=#[]:=by
  simp only[underlying];simp[u]
 constructor
 .simp only[Instr.typeAssert,zAa,q,zAY];cases d<;>first|exact absurd rfl (hd _)|simp[A,zAa,(h w).1,zAo]
 .simp only[Instr.typeAssert,Sem.events_bind,zAa,q,D,Result.evThen_ok];cases d<;>first|exact absurd rfl (hd _)|simp[A,q,zAa,Sem.events_bind,(h w).1,(h w).2,zAo,zBJ]
def qkZ{ρ:Operand->zg}{o:zDO}{n x y:Z}{ats:zR zAy}{v a b:zg}(hop:o.op=.call {callee:=.invoke (.tmp n) "hydrant/plane.step",args:=#[.tmp x,.tmp y],argTypes:=ats})(hv:ρ (.tmp n)=.iface 257 v)(hx:ρ (.tmp x)=a)(hy:ρ (.tmp y)=b)(w:zp):(zy ρ o).run X0 w=.ok (.enter 275 #[v,a,b]) w/\Ch ((zy ρ o).events X0 w #[]):=by
 have hbn:Tryz.f275.body.isNone=zb:=sy
 have hnm:(Tryz.f275.name== "runtime.NumGoroutine")=zb:=se
 have hcf:∀args,(callFunc 275 args).run X0 w=.ok (.enter 275 args) w/\(callFunc 275 args).events X0 w #[]=#[]:=λargs=>by
  unfold callFunc;simp[Tryz.func275,Sem.run,hnm,hbn,<-beq_iff_eq,-beq_iff_eq];have hbn':Tryz.f275.body≠zc:=λh=>by rw[h]at hbn;cases hbn
  exact⟨λh=>absurd h hbn',λh=>absurd h hbn'⟩
 have hm:=qTR v w;have hq:=qhS v w;unfold zy;simp only[hop,resolve,hv]
 have e0:(callMethod (.iface 257 v) "hydrant/plane.step" #[a,b]).run X0 w=.ok (.enter 275 #[v,a,b]) w:=by
  simp only[callMethod,zAa,run_program,zAY,hm];exact(hcf _).1
 have e1:(callMethod (.iface 257 v) "hydrant/plane.step" #[a,b]).events X0 w #[]=#[]:=by
  simp only[callMethod,Sem.events_bind,run_program,Result.evThen_ok,hm,hq];simp only[Sem.events,program,hm,hq,Result.evThen_ok];exact(hcf _).2
 have e:(invoke (.fn (.method "hydrant/plane.step") #[]) #[.iface 257 v,a,b]).run X0 w=.ok (.enter 275 #[v,a,b]) w:=e0;have e2:(invoke (.fn (.method "hydrant/plane.step") #[]) #[.iface 257 v,a,b]).events X0 w #[]=#[]:=e1;constructor
 .simpa[zAa,hx,hy]using e
 .have:(pure {target:=Target.fn (.method "hydrant/plane.step") #[],args:=#[Value.iface 257 v]++#[Operand.tmp x,Operand.tmp y].map ρ}:Sem Deferred).events X0 w #[]=#[]:=sd
  simp[Sem.events_bind,hx,hy,e2,zBJ];exact qQD
noncomputable def qUc:zDT:=(Tryz.f83.body).getD .skip
def L6:ZT 230 (.agg ⟨[]⟩):=qhV se
def L9:∃d,X0.underlying 230=O d/\∀m,d≠.interface m:=by
 have h:((X0.underlying 230).map λd=>match d with
  |.interface _=>zb
  |_=>I)=O I:=se
 obtain⟨d,q,u⟩:=zU.1 h;refine⟨d,q,λm e=>?_⟩;subst e;cases u
section
variable{g:GW}{cs ms:F zg}{w:Wd}{m:Aj}
def qeQ(P:rWo g cs w)(hM:qeA g ms m)(ab:SnW w)(hb:BgW 1000000 w)(ac:SmO m)(hk:1<=m.op.kind/\m.op.kind<=6):Ok X0 83 [.agg ⟨cs⟩,.agg ⟨ms⟩] g (PsP w m):=by
 have ad:=P;have ae:=hM;obtain⟨af,ag,ah,ai,aj,ak,al,an,ao,ap,rfl⟩:=qJA P;obtain⟨aq,ar,au,av,aw,ax,rfl⟩:=qwB hM;refine qYU (c:=qUc) Tryz.func83 rfl si (zBG rfl) λA L u b M Q ay az a aA aB=>?_;unfold qUc Tryz.f83;simp only[zAM];refine qvA (q6B u ((qaA A).snd _ u) si aB (zq ?_));intros;intro aW aA aC;refine qvA (q6B u ((qaA A).snd _ u) si aC (zq ?_));intros;refine .inl ⟨_,MW _ hk,zq ?_⟩;intros;intro aX aY R;refine qLJ (qvA (.quiet rfl (λ_=>qIC) ?_));obtain⟨aZ,aD,aE⟩:=L9;refine qOb Q sy rfl (qQY rfl (qFA (R.Au 12 _ rfl)) aD aE sb L6) ?_;have aF:=R.put (d:=20) sb (v:=.tuple #[.agg ⟨[]⟩,.bool zb]) (.tup [.v (.agg ⟨[]⟩),.v (.bool zb)]) rfl;refine qRB (τ:=[1,2]) (rest:=[]) u ((qaA A).snd _ u) si aF (K:=λC D=>∀h q,Stn Tryz.f83.ntmps L [] C D h q->A.G (G (b.atR h (.inRegion _ []::_)) M) q) (zq ?_) (λ_ _ h q E H=>E h q H);intros;intro a0 a1 T;refine .quiet rfl (λ_=>quA) (q1J zb rfl rfl T ?_);refine qvA (q6B u ((qaA A).snd _ u) si T (zq ?_));intros;intro a2 a3 aG;refine qvA (.quiet rfl (λ_=>qIC) ?_);refine qRB (τ:=[0,1,2]) (rest:=[3,4,5,6,7,8,9]) u ((qaA A).snd _ u) si aG (K:=λC D=>∀h q,Stn Tryz.f83.ntmps L [] C D h q->A.G (G (b.atR h (.inRegion _ [3,4,5,6,7,8,9]::_)) M) q) (zq ?_) (λ_ _ h q E H=>E h q H);intros;intro aH aI B;have aJ:=(qRb ad ae ab hb ac hk) aI B.sim.AJ A (B.sim.N u);refine qEa Q ay sy rfl (qkZ (v:=qYR m.op.kind) rfl (qFA (B.Au 13 _ rfl)) (qFA (B.Au 14 _ rfl)) (qFA (B.Au 15 _ rfl))) aJ λv aK aL=>?_;obtain⟨a4,e,aM,U,V,rfl,W,Y⟩:=aL;cases e;have aN:=B.sim.called aM;have aO:Stn Tryz.f83.ntmps L [] _ _ aH aK:=⟨B.size,B.defers,B.Au,aN⟩;have aP:=aO.put (d:=16) sb (v:=.tuple #[.agg ⟨U⟩,.agg ⟨V⟩,.agg ⟨(psE w m).cs⟩]) (.tup [.v (.agg ⟨U⟩),.v (.agg ⟨V⟩),.v (.agg ⟨(psE w m).cs⟩)]) rfl;have aQ:=W;have aR:=Y;obtain⟨af,ag,ah,ai,aj,ak,al,an,ao,ap,rfl⟩:=qJA W;obtain⟨aq,ar,au,av,aw,ax,rfl⟩:=qwB Y;refine qRB (τ:=[4,5,6,7,8,9]) (rest:=[]) u ((qaA A).snd _ u) si aP (K:=λC D=>∀h q,Stn Tryz.f83.ntmps L [] C D h q->A.G (G (b.atR h (.inRegion _ []::_)) M) q) (zq ?_) (λ_ _ h q E H=>E h q H);intros;intro aT aU aV;refine .quiet rfl (λ_=>quA) (az _ _ aT aU _ aV (zq ?_));intros;intro a5 aa;exact⟨_,_,rfl,qCA _ _ _ _ aa aQ,qUA _ _ _ _ aa aR⟩
end
structure JI(w:Wd)(m:Aj):Prop where
 sn:SnW w
 bg:BgW 1000000 w
 sm:SmO m
 kind:1<=m.op.kind/\m.op.kind<=6
def IE:Z->Wd->Aj->Wd->Aj->Prop
 |0,_,_,_,_=>zV
 |k+1,h,m,x,n=>JI h m/\(psE h m).access≠0/\(((psM h m).done=I/\k=0/\x=psW h m/\n=psM h m)\/((psM h m).done=zb/\IE k (psW h m) (psM h m) x n))
structure Kg where
 j:Z
 g:GW
 w:Wd
 oa:zs zAH
 ca:Z
 ob:zs zAH
 cb:Z
 oc:zs zAH
 cc:Z
 od:zs zAH
 cd:Z
 oe:zs zAH
 ce:Z
 m:Aj
 o1:zs zAH
 t1:Z
 o2:zs zAH
 t2:Z
 o3:zs zAH
 t3:Z
abbrev Kg.wc(x:Kg):F zg:=[.int .i64 x.w.Al,.int .i64 x.w.current,.int .i64 x.w.AH,.slice x.oa x.w.pins.length x.ca,.slice x.ob x.w.Ab.length x.cb,.slice x.oc x.w.Aa.length x.cc,.slice x.od x.w.counts.length x.cd,.slice x.oe x.w.Ai.length x.ce]
abbrev Kg.mc(x:Kg):F zg:=x.m.cs (.slice x.o1 x.m.op.Ap.Aa.length x.t1) (.slice x.o2 x.m.op.Ap.As.length x.t2) (.slice x.o3 x.m.op.Ap.Ad.length x.t3)
def qgQ(g){cs ec}{w x}{m n:Aj}{o}{k}{A}{B C}(D:rWo g cs w)(hop:rOp g ec o)(ao:Ok X0 82 [.int .i64 0,.agg ⟨ec⟩,.slice A B C] g λv g'=>∃E,v=.agg ⟨E⟩/\qeA g' E m)(h:IE k w m x n)(hk:k<=9999):Ok X0 46 [.agg ⟨cs⟩,.int .i64 0,.agg ⟨ec⟩,.slice A B C] g λv g'=>∃R,v=.tuple #[.agg ⟨R⟩,.agg ⟨n.answer.cs⟩,.int .i64 k]/\rWo g' R x/\n.answer.ok:=by
 obtain⟨T,U,V,W,Y,aa,ab,ac,ad,ae,rfl⟩:=qJA D;obtain⟨a1,a2,a3,a4,a5,a6,rfl⟩:=qAJ hop
 exact Ok.Ao hm noT 0 IQ.2 (args:=[.v (.agg ⟨_⟩),.v (.int .i64 0),.v (.agg ⟨_⟩),.v (.slice A B C)]) (by
  refine zq ?_;intros;rename_i a7 b1 ap aq;refine .inr (ao.mono λv af ar hM=>?_);obtain⟨E,rfl,hM⟩:=hM;obtain⟨ag,ah,ai,aj,ak,al,rfl⟩:=qwB hM;refine zq ?_;intros;rename_i au av;refine zq ?_;intros;refine⟨Kg,λx=>[.v (.int .i64 x.j)],λy=>⟨y.g,[.blk 5 av 44 (y.wc.map SV.v),.blk 4 au 112 (y.mc.map SV.v),.blk 3 aq 55 zl4,.blk 2 ap 44 [.v (.int .i64 0),.v (.int .i64 0),.v (.int .i64 0),.v (.slice zc 0 0),.v (.slice zc 0 0),.v (.slice zc 0 0),.v (.slice zc 0 0),.v (.slice zc 0 0)],_,_],_,_⟩,λy=>y.j<k/\af<=y.g/\rWo y.g y.wc y.w/\qeA y.g y.mc y.m/\IE (k-y.j) y.w y.m x n,λy=>k-y.j,qMA (⟨0,af,w,T,U,V,W,Y,aa,ab,ac,ad,ae,m,ag,ah,ai,aj,ak,al⟩:Kg) rfl ⟨?_,GW.refl _,qCA _ _ _ _ ar D,hM,h⟩ rfl,?_⟩
  .show 0<k;cases k with
   |zero=>exact h.elim
   |succ k=>omega
  clear hM D h;intro y aw;obtain⟨j,a8,w,T,U,V,W,Y,aa,ab,ac,ad,ae,m,ag,ah,ai,aj,ak,al⟩:=y;obtain⟨an,ax,ay,az,h⟩:=aw;replace an:j<k:=an;replace h:IE (k-j) w m x n:=h;obtain⟨d,aA⟩:∃d,k-j=d+1:=⟨k-j-1,sa⟩;rw[aA]at h;obtain⟨u,aB,q⟩:=h;refine zq ?_;intros;refine⟨λ_=>zq ?_,λH=>absurd (zf H) (by show ¬¬((j:zn)<10000);omega)⟩;intros;refine .inr ((qeQ ay az u.sn u.bg u.sm u.kind).mono λv aC aD aE=>?_);obtain⟨a9,ba,rfl,L,M⟩:=aE;obtain⟨aF,aG,aH,aI,aJ,aK,aL,aM,aN,aO,rfl⟩:=qJA L;obtain⟨aP,aQ,aR,aT,aU,aV,rfl⟩:=qwB M;refine zq ?_;intros;refine⟨λH=>absurd (B9 H) aB,λ_=>zq ?_⟩;intros;refine⟨λP=>?_,λP=>?_⟩
  .rcases q with⟨_,aW,rfl,rfl⟩|⟨Q,_⟩
   rotate_left
   .exact absurd (P.symm.trans Q) sb
   obtain rfl:d=0:=aW;refine zq ?_;intros;intro bb aX;refine⟨_,zK (λz=>Value.tuple #[_,_,zD .i64 z]) (show zAf.wrap ((j:zn)+1)=(k:zn) by rw[wr (x:=(j:zn)+1) sg];omega),qCA _ _ _ _ aX L,?_⟩;obtain⟨_,_,_,_,aY,_⟩:=M;exact aY.answer
  .rcases q with⟨Q,_⟩|⟨_,q⟩
   .exact absurd (P.symm.trans Q) sb
   have aZ:j+1<k:=by
    cases d with
    |zero=>exact q.elim
    |succ d=>omega
   refine zq ?_;intros;refine λbc bd a0=>⟨⟨j+1,aC,psW w m,aF,aG,aH,aI,aJ,aK,aL,aM,aN,aO,psM w m,aP,aQ,aR,aT,aU,aV⟩,zK (λz=>[zD .i64 z]) (show((j+1:Z):zn)=zAf.wrap ((j:zn)+1) by rw[wr (x:=(j:zn)+1) sg];omega),⟨aZ,GW.trans ax aD,L,M,by show IE (k-(j+1)) _ _ _ _;rw[show k-(j+1)=d by omega];exact q⟩,by show k-(j+1)<k-j;omega,?_⟩
   exact a0.fit sc)
end Go.Proofs.YtlmhpamhhgogaaaGreat
namespace Go.Proofs.YtlmhpamhhgogaaaGreat.Sx
open Go.Conc (G)
open Go.Duo
open Go.RowKit
section
variable{P:zt}
def q9R{E:Env P}{f:zBa}{fn:Func}{c:zDT}{rs:F IC}(C:P.funcs[f]?=O fn)(hb:fn.body=O c)(L:qwI P fn.results.toList=O rs){args:F zg}{fr:Fr}{hs:Hs}{w:zp}(M:Aq fr hs w){K:SV->Hs->Prop}(hl:args.length<=fn.ntmps)(h:∀(b:zAt)(cs:F zAt),b.roundOf=zc->b.kind≠.early->(∀sl hs a w k,Stn fn.ntmps fr [] sl hs a w->(Hn rs sl hs λv=>K v hs)->E.G (G (b.atR a (.code .ret::k)) cs) w)->∀a,Stn fn.ntmps fr [] (qoH (args.map .v) 0) hs a w->E.G (G (b.atR a [.code c]) cs) w):BH E f args.toArray w λe w'=>∃v D,e=.returned (Ae v)/\Aq fr D w'/\K v D:=by
 intro H cs q;let b:zAt:={(default:zAt)with fn:=f,kind:=.normal,roundOf:=zc}
 have Q:zAW P f args.toArray .normal=b.atR {tmps:=args.toArray++zAU (fn.ntmps-args.toArray.size) zAX,defers:=[]} [.code c]:=by
  simp[zAW,zAQ,C,hb,b]
 rw[Q];refine h b (H::cs) rfl (by simp[b]) (λsl hs a T k u U=>?_) _ ⟨sf,rfl,λn x V=>?_,M⟩
 .refine .quiet rfl (λ_=>qvK rfl) ?_;obtain⟨l,W,Y⟩:=qbD L U
  have aa:∃v:SV,Ae v=qqT (qDA l)/\K v hs:=by
   match l,W with
   |[],q=>exact⟨.tup [],rfl,q⟩
   |[x],q=>exact⟨x,rfl,q⟩
   |x::y::r,q=>exact⟨.tup (x::y::r),rfl,q⟩
  obtain⟨v,A,ab⟩:=aa;refine q4G (R:=λe w'=>e=.returned (Ae v)/\Aq fr hs w') [] T _ H cs rfl u.defers C rfl (λd=>⟨Ae v,?_,rfl,u.sim.at d⟩) λae w'⟨e,ac⟩=>?_
  .rw[A];exact qhD (Y a.tmps u.Au _ _ (u.sim.at d))
  .cases e;exact q _ _ ⟨v,hs,rfl,ac,ab⟩
 .obtain⟨i,rfl,B⟩:=qdE _ 0 n x V;have ad:i<args.length:=by have:=(zd.1 B).1;simpa using this
  rw[zAv]at B;obtain⟨v,A,rfl⟩:=zU.1 B;show(args.toArray++_)[0+i]?=_;rw[zAu,zCk (by simpa using ad)];simp[A,Ae]
def qMb{E:Env P}{b:zAt}{a:zDN}{k:F Item}{cs:F zAt}{ops:zR zDO}{i:Z}{rest:F Z}{o:zDO}{w:zp}(hb:b.roundOf=zc)(h:ops[i]?=O o)(q:o.guard=zc){v:zg}(u:∀d,∃w',(zy a.eval o).run P (w.at d)=.ok (.value v) w'/\Ch ((zy a.eval o).events P (w.at d) #[])/\BY E.N (w.at d) w'/\E.G (G (b.atR (a.put o.dst v) (.inRegion ops rest::k)) cs) w'):E.G (G (b.atR a (.inRegion ops (i::rest)::k)) cs) w:=by
 refine .one rfl λd=>?_;obtain⟨w',A,B,C,D⟩:=u d;have hs:o.semAt b.roundOf a.eval=zy a.eval o:=by rw[hb];rfl
 refine⟨_,w',_,by rw[qkL h (by simp[zAs,q]),hs,q0C A,zBe,h];rfl,C,?_,D⟩;unfold lst;split
 .exact Ch.seen qQD
 .exact Ch.seen B
def qvY{E:Env P}{b:zAt}{a:zDN}{k:F Item}{cs:F zAt}{ops:zR zDO}{i:Z}{rest:F Z}{w:zp}(hb:b.roundOf=zc){dst:zs Z}{OP:Op}(h:∃o,ops[i]?=O o/\o.guard=zc/\o.dst=dst/\o.op=OP){v:zg}(q:∀(o:zDO)(d:Z),o.op=OP->∃w',(zy a.eval o).run P (w.at d)=.ok (.value v) w'/\Ch ((zy a.eval o).events P (w.at d) #[])/\BY E.N (w.at d) w'/\E.G (G (b.atR (a.put dst v) (.inRegion ops rest::k)) cs) w'):E.G (G (b.atR a (.inRegion ops (i::rest)::k)) cs) w:=by
 obtain⟨o,u,A,B,C⟩:=h;exact qMb hb u A λd=>by rw[B];exact q o d C
def Ok.Ly(hm:P.follows .mixedOrders=I){H}(V:∀(E:Env P)(fr:Fr),fr.has E->CA E fr H){f}{W}{Y}{L}(aa:F1 P f W Y=O L){args}{g}{Q}(h:fnS P H L noY args ⟨g,[],0,g.w.heap.size⟩ λv M=>Hq v M λv' B=>qSI v' λx=>∀R,B.g<=R->Q x R):Ok P f (qDA args) g Q:=by
 intro A T E hE;have ab:Aq ⟨A,(·<A.heap.size),g.g,λ_ h=>h⟩ ⟨g,[],0,g.w.heap.size⟩ A:=⟨T,⟨rfl,rfl,rfl,zG _,λ_ _=>rfl⟩,(λr ac=>by cases ac),zBR,(λb C=>by cases C),(λn _ h=>h),(λn ad ae _=>by have:=g.wf n ae;exact absurd ad (zDE.2 this)),T.1,λb C=>by cases C⟩;refine(qUG hm (λfr=>V E fr) aa (λn u=>zQ u hE) (qrF E _) h ab).mono ?_;rintro e aj ⟨v,M,rfl,af,D⟩;obtain⟨v',B,D,ag,q⟩:=qiF v D af;have U:=qvC v' D;rw[ag]at U;refine⟨_,rfl,⟨q.frm.os,q.frm.tape,q.frm.output,q.frm.size,λn u=>q.frm.block n u⟩,U _ ⟨q.AJ.1,λn u=>⟨⟨zQ (B.g.wf n u) q.AJ.1,?_⟩,q.AJ.2 n u⟩⟩⟩;rcases zAL n A.heap.size with ah|ai
 .exact .inl (q.fz n ah u)
 .exact .inr ai
def qWU(P:zt)(X:qOA)(h:F (Z×FnI)):Z->qOA
 |0=>X
 |d+1=>λq f args hs K=>match qQL f h with
  |some u=>fnS P (qWU P X h d) u q args hs K
  |none=>X q f args hs K
def qnH(E:Env P)(hm:P.follows .mixedOrders=I){X}(u:∀fr:Fr,fr.has E->CA E fr X){w}(A:qqB P w):∀(d:Z)(fr:Fr),fr.has E->CA E fr (qWU P X w d)
 |0,fr,h=>u fr h
 |d+1,fr,h=>λD B f args hs K q H C=>by
  simp only[qWU]at q;split at q
  .rename_i Q L;obtain⟨o,l,M⟩:=A _ (qOI L);exact qUG hm (λfr=>qnH E hm u A d fr) M h B q C
  .exact u fr h D B f args hs K q H C
end
end Go.Proofs.YtlmhpamhhgogaaaGreat.Sx
namespace Go.Proofs.YtlmhpamhhgogaaaGreat
open Go.Conc (G)
open Go.Proofs.YtlmhpamhhgogaaaGreat.Sx Go.Duo Go.RowKit
noncomputable def q6X:zDT:=(Tryz.f88.body).getD .skip
def qDa{P}{ρ}{o}{n t e b j cap}{ty}{pre post}{u}(hop:o.op=.call {callee:=.builtin .clear,args:=#[.tmp n],argTypes:=#[t]})(h:ρ (.tmp n)=.slice (O ⟨b,j,zc⟩) 1 cap)(B:P.underlying t=O (.slice e))(q:∀w,(zAZ e).run P w=.ok (.int .i64 0) w/\(zAZ e).events P w #[]=#[])(M:pre.length=j){w}(hb:w.heap[b]?=O (.cells ⟨pre++u::post⟩ ty (0,0))):∃w',(zy ρ o).run P w=.ok (.value (.tuple #[])) w'/\(∀e∈(zy ρ o).events P w #[],∃x,e.loc=.cell x)/\w'.heap[b]?=O (.cells ⟨pre++.int .i64 0::post⟩ ty (0,0))/\w'.heap.size=w.heap.size/\(∀k,k≠b->w'.heap[k]?=w.heap[k]?)/\w'.os=w.os/\w'.tape=w.tape/\w'.output=w.output:=by
 obtain⟨w',C,Q,R,T,U,V,W⟩:=quB (P:=P) [.int .i64 0] 0 j w (pre++u::post) hb sf (by intro v h;simp at h;subst h;rfl);have D:(Builtin.zeroCells #[zD .i64 0] 1).toList=[.int .i64 0]:=by simp[Builtin.zeroCells]
 have E:(underlying t).run P w=.ok (.slice e) w:=zN B w
 have Y:(underlying t).events P w #[]=#[]:=by
  simp only[underlying];simp[B]
 have H:(Builtin.clear_ #[t] o.type #[.slice (O ⟨b,j,zc⟩) 1 cap]).run P w=.ok (.tuple #[]) w':=by
  simp[Builtin.clear_,zAa,E,(q w).1,zAo,Value.cells,D,C]
 have aa:(Builtin.clear_ #[t] o.type #[.slice (O ⟨b,j,zc⟩) 1 cap]).events P w #[]=(storeCells ⟨b,j,zc⟩ [.int .i64 0] 0).events P w #[]:=by
  simp[Builtin.clear_,zAa,Sem.events_bind,E,Y,(q w).1,(q w).2,zAo,zBJ,Value.cells,D,C]
 refine⟨w',?_,?_,by rw[Q];subst M;simp,R,T,U,V,W⟩
 .unfold zy;simp only[hop];simp[resolve,h,invoke,builtin,zAa,H,zAo]
 .intro ev L
  have:(zy ρ o).events P w #[]=(storeCells ⟨b,j,zc⟩ [.int .i64 0] 0).events P w #[]:=by
   unfold zy;simp only[hop];simp[resolve,h,invoke,builtin,zAa,Sem.events_bind,H,aa,zAo,zBJ]
  rw[this]at L;rcases events_storeCells_at (P:=P) b j ty [.int .i64 0] 0 ⟨pre++u::post⟩ w #[] hb sf (by intro v h;simp at h;subst h;rfl) ev L with A|⟨x,A,_⟩
  .simp at A
  .exact⟨x,A⟩
def zt3:ZT 3 (.int .i64 0):=qhV se
def NH:X0.underlying 29=O (.slice 3):=se
def qoS{g q u}{b}{C w}(h:Upd g b C q)(h2:Upd q b w u):Upd g b w u:=
 ⟨λn=>(h2.dom n).trans (h.dom n),h2.obj,λn A B=>(h2.other n ((h.dom n).2 A) B).trans (h.other n A B),zZ h.size h2.size⟩
def q6Z{h}{b n cap k}{cs rest}(A:h.g b)(h2:h.w.heap[b]?=O (.cells ⟨cs++rest⟩ 3 (0,0)))(D:cs.length=n)(E:k<n)(B:n<=cap/\cap<=zAr):Dl h 1 (.slice (if cap=k+1 then O ⟨b,0,zc⟩else(O (⟨b,0,zc⟩:zAH)).map (·.add ((k+1)*1))) (n-(k+1)) (cap-(k+1))) (n-(k+1)) (cs.drop (k+1)):=by
 refine⟨sf,_,_,rfl,sa,by have:=B.2;omega,λu=>?_,λi H q=>?_⟩
 .split at u<;>cases u
 .rw[zCC]at q;have C:=(zd.1 q).1;rw[zh sa];refine⟨_,rfl,?_,?_⟩
  .show h.g (Addr.add (Addr.add ⟨b,0,zc⟩ ((k+1)*1)) i).block;rw[qlA,qlA];exact A
  .show h.w.cell? (Addr.add (Addr.add ⟨b,0,zc⟩ ((k+1)*1)) i)=_;rw[qlA,qlA,qCB h2];simp only[zAu,zCb];simp[zAc C,q]
def quU{E:Env X0}{fr:Fr}(h:fr.has E){D:GW}{W:F Res}{Y hl:Z}{w:zp}(ai:Aq fr ⟨D,W,Y,hl⟩ w){b n cap k:Z}{cs rest:F zg}(B:hl<=b/\D.g b)(h2:D.w.heap[b]?=O (.cells ⟨cs++rest⟩ 3 (0,0)))(aj:cs.length=n)(ak:k<n)(aa:n<=cap/\cap<=zAr)(al:∀u∈cs,u.oneCell'=I){K:SV->Hs->Prop}(hk:∀g',Upd D b (.cells ⟨cs.eraseIdx k++.int .i64 0::rest⟩ 3 (0,0)) g'->K (.v (.slice (O ⟨b,0,zc⟩) (n-1) cap)) ⟨g',W,Y,hl⟩):BH E 88 #[.slice (O ⟨b,0,zc⟩) n cap,.int .i64 k,.int .i64 ((k:zn)+1)] w λe w'=>∃v A,e=.returned (Ae v)/\Aq fr A w'/\K v A:=by
 have aW:cap<=9223372036854775807:=by have:=aa.2;unfold zAr at this;omega
 refine q9R (args:=[.slice (O ⟨b,0,zc⟩) n cap,.int .i64 k,.int .i64 ((k:zn)+1)]) (c:=q6X) Tryz.func88 rfl si ai (zBG rfl) λb1 M ab aX an a ao=>?_;unfold q6X Tryz.f88;simp only[zAM];refine qvA (q6B h ((qaA E).snd _ h) si ao (zq ?_));intros;intro aY aZ ap;refine qvA (q6B h ((qaA E).snd _ h) si ap (zq ?_));intros;refine⟨⟨sa,sa,sa,sa⟩,zq ?_⟩;intros;intro a0 a1 aq;refine qvA (qvA (q6B h ((qaA E).snd _ h) si aq (zq ?_)));intros;intro a2 a3 ac;refine q1J zb rfl (by simp[Ae];omega) ac (qAI ?_);refine qvA (q6B h ((qaA E).snd _ h) si ac (zq ?_));intros;intro a4 a5 ar;refine qvA (q2L hm h ((qaA E)) (λfr au=>(qaA E).snd fr au) ab (oi:=.first 0 (.first 1 (.first 2 (.first 3 (.first 4 (.first 5 (.exec 6 (.first 7 .nil)))))))) se se si sb (λd av=>absurd av zAd) ar (K:=λQ A=>∀q w',Stn Tryz.f88.ntmps fr [] Q A q w'->E.G (G (b1.atR q (.code _::_)) M) w') (zq ?_) (λ_ _ q w' R T=>R q w' T));intros;refine⟨⟨sa,sa⟩,zq ?_⟩;intros;refine⟨⟨sa,sa⟩,?_⟩;have aw:((k:zn)).toNat=k:=zBn k;have ax:((k:zn)+1).toNat=k+1:=sa
 simp only[aw,ax];refine zq ?_;intros;refine⟨cs.drop (k+1),⟨q6Z B.2 h2 aj ak aa,λu H=>al u (zCt H)⟩,zw ?_⟩;refine .inr (.inr ⟨b,cs.take k,cs.drop k++rest,⟨rfl,B.1,B.2,by rw[<-zBZ,zCF];exact h2,sf,sa,sf⟩,λay U=>zq ?_⟩);intros;intro a6 a7 az;refine qvA (.quiet rfl (λ_=>qIC) ?_);refine qRB (τ:=[0,1,2,3,4]) (rest:=[5]) h ((qaA E).snd _ h) si az (K:=λQ A=>∀q w',Stn Tryz.f88.ntmps fr [] Q A q w'->E.G (G (b1.atR q (.inRegion _ [5]::_)) M) w') (zq ?_) (λ_ _ q w' R T=>R q w' T);intros;refine⟨⟨sa,sa,sa⟩,zq ?_⟩;intros;intro L a8 C
 have aA:L.tmps[31]?=O (.slice (O ⟨b,n-1,zc⟩) 1 (cap-(n-1))):=by
  have:=C.Au 31 _ rfl;simp only[Ae,zBn]at this;rw[this,zh sa];simp only[zBx,qlA];rw[show k+(n-(k+1))=n-1 by omega,show n-(n-1)=1 by omega,show 0+(n-1)*1=n-1 by omega]
 have aB:cs.take k++cs.drop (k+1)=cs.eraseIdx k:=(List.eraseIdx_eq_take_drop_succ ..).symm;obtain⟨u,H⟩:∃u,cs[n-1]?=O u:=⟨_,zAe sa⟩
 have aC:(cs.drop k++rest).drop (cs.drop (k+1)).length=u::rest:=by
  rw[zB2,zCa sf,zCL,show k+(cs.length-(k+1))=n-1 by omega]
  have:cs.drop (n-1)=[u]:=by
   rw[zCR sa,show n-1+1=cs.length by omega,List.drop_length];rw[zAe sa]at H;rw[zv H]
  rw[this];rfl
 have ad:=U.obj;rw[aB,aC]at ad;refine qvY ab (OP:=.call {callee:=.builtin .clear,args:=#[.tmp 31],argTypes:=#[29]}) ⟨_,rfl,rfl,rfl,rfl⟩ (v:=.tuple #[]) λo d aD=>?_;have V:=C.sim.at d;have ae:ay.g b:=(U.dom b).2 B.2;have aE:=(V.AJ.2 b ae).trans ad;obtain⟨af,aF,aG,aH,aI,aJ,aK,aL,aM⟩:=qDa (P:=X0) (ρ:=L.eval) (b:=b) (j:=n-1) (cap:=cap-(n-1)) (pre:=cs.eraseIdx k) (post:=rest) (u:=u) (ty:=3) (n:=31) (t:=29) (e:=3) aD (qFA aA) NH zt3 (by rw[zCO];split<;>omega) aE;obtain⟨aN,aO,ag⟩:=V.J0 B.1 ae aK aL aM aI aH aJ;refine⟨af,aF,λe aP=>by obtain⟨x,aQ⟩:=aG e aP;rw[aQ];exact⟨sd,sd⟩,V.keep ag h,?_⟩;have aR:Stn Tryz.f88.ntmps fr [] _ _ L af:=⟨C.size,C.defers,C.Au,ag⟩;refine .quiet (g:=G (b1.atR L (.inRegion _ []::_)) M) rfl (λ_=>quA) ?_;refine qvA (q6B h ((qaA E).snd _ h) si aR (zq ?_));intros;intro aT aU aV;refine an _ _ aT aU _ aV (zw ?_);have ah:=hk aN (qoS U aO);rw[<-show k+(n-(k+1))=n-1 by omega]at ah;exact ah
def Ov(K:SV->Hs->Prop)(args:F SV)(hs:Hs):Prop:=match hs with
 |⟨h,A,B,q⟩=>∃(b n cap k:Z)(cs rest:F zg),args=[.v (.slice (O ⟨b,0,zc⟩) n cap),.v (.int .i64 k),.v (.int .i64 ((k:zn)+1))]/\((q<=b/\h.g b)/\h.w.heap[b]?=O (.cells ⟨cs++rest⟩ 3 (0,0))/\cs.length=n/\k<n/\(n<=cap/\cap<=zAr)/\∀C∈cs,C.oneCell'=I)/\
   ∀u,Upd h b (.cells ⟨cs.eraseIdx k++.int .i64 0::rest⟩ 3 (0,0)) u->K (.v (.slice (O ⟨b,0,zc⟩) (n-1) cap)) ⟨u,A,B,q⟩
def dlH:qOA:=λh f args hs K=>okH X0 h f args hs K\/(f=88/\Ov K args hs)
def q3Z(E:Env X0)(fr:Fr)(q:fr.has E):CA E fr dlH:=λw A f args hs K h B u=>by
 rcases h with h|⟨rfl,h⟩
 .exact(qaA E).snd fr q w A f args hs K h B u
 obtain⟨R,T,U,V⟩:=hs;obtain⟨b,n,cap,k,cs,rest,rfl,⟨C,D,H,L,M,P⟩,Q⟩:=h;exact quU q u C D H L M P Q
def tOp:F (Z×FnI):=[(56,AC.1),(87,Fa.1)]
def qla:qqB X0 tOp:=qPA AC.2 (qPA Fa.2 noT)
abbrev nV(l:F Z):F zg:=l.map λ(n:Z)=>zD .i64 (n:zn)
def qjQ{l}:∀u∈nV l,u.oneCell'=I:=λu h=>by
 obtain⟨n,_,rfl⟩:=zAb.1 h;rfl
def qsF{h q:Type}(f:h->q):∀(l:F h)(k:Z),(l.map f).eraseIdx k=(l.eraseIdx k).map f
 |[],_=>rfl
 |_::_,0=>rfl
 |x::l,k+1=>by simp[qsF f l k]
structure NE where
 i:Z
 out:F Z
 g:GW
 oa:zs zAH
 cap:Z
def q6T(g){V}{L}{given}(W:rSl 13 F7 g (.slice V given.length L) given)(hl:given.length<=100000):Ok X0 45 [.slice V given.length L] g λv g'=>∃oa cap out,v=.slice oa (List.length out) cap/\out=opL given given.length/\(∀n∈out,n<given.length)/\Dl g' 1 v out.length (nV out)/\g<=g':=by
 exact Ok.Ly hm (λaA B aK=>qnH aA hm (q3Z aA) qla 2 B aK) Ie.2 (args:=[.v (.slice V given.length L)]) (by
  refine zq ?_;intros;rename_i ah;refine zq ?_;intros;refine⟨NE,λy=>[.v (.slice y.oa y.out.length y.cap),.v (.int .i64 y.i)],λy=>⟨y.g,[.blk 0 ah 38 [.v (.slice V given.length L)]],_,_⟩,λy=>y.i<=given.length/\g<=y.g/\AX y.g g.w.heap.size 3 1 (.slice y.oa y.out.length y.cap) y.out.length (nV y.out)/\(y.out.length<=y.i/\y.out=opL given y.i/\∀n∈y.out,n<given.length),λy=>given.length-y.i,qMA (⟨0,[],g,zc,0⟩:NE) rfl ⟨zF _,GW.refl _,⟨rfl,.inl ⟨rfl,rfl⟩,qjQ⟩,zG _,rfl,λn h=>absurd h zAd⟩ rfl,?_⟩;intro y aL;obtain⟨i,out,Y,oa,cap⟩:=y;obtain⟨aB,A,C,aM,D,E⟩:=aL;replace aB:i<=given.length:=aB;dsimp only at A C aM D E⊢;refine zq ?_;intros;refine⟨λaN=>?_,λaO=>?_⟩;rotate_left
  .refine zq ?_;intros;intro a4 W;have aP:i=given.length:=by have:=zf aO;omega
   refine⟨oa,cap,out,rfl,aP▸D,E,C.rd.mono W,GW.trans A W⟩
  have M:i<given.length:=by have:=ze aN;omega
  obtain⟨H,P⟩:=qBA M;have R:zAf.wrap ((i:zn)+1)=((i+1:Z):zn):=by rw[wr (x:=(i:zn)+1) sg];omega
  obtain⟨a5,a6,aQ,a7,a8,a9,aC⟩:=id (W.mono qYE A);cases aQ;obtain⟨a,rfl,ba,bb,⟨rfl,bc⟩,aR⟩:=aC i H P;refine zq ?_;intros;refine⟨a,rfl,⟨sa,sa⟩,zw ?_⟩;refine⟨_,⟨rfl,aR⟩,zq ?_⟩;intros;refine⟨λai=>?_,λai=>?_⟩
  .have Q:H.kind=1:=B9 ai;rcases C with⟨aT,⟨u,aD⟩|⟨b,aU,rest,u,⟨aa,ab⟩,aj,ak,ac,al⟩,_⟩
   .simp only[zAp]at u;obtain⟨rfl,_,rfl⟩:=u;obtain rfl:out=[]:=zB9 aD;refine zq ?_;intros;refine⟨⟨by unfold zAr;omega,sa⟩,zq ?_⟩;intros;rename_i ad ae;refine zw ?_;refine λB T q=>?_;obtain⟨U,an,_,ao,ap⟩:=(q.fit (nx':=1) (rs':=[.row 3 ad 1 ae 3 1 [.int .i64 i],.blk 0 ah 38 [.v (.slice (O a) given.length L)]]) sc).Cw;exact⟨⟨i+1,[i],U,_,_⟩,zK (λz=>[_,zD .i64 z]) R.symm,⟨M,GW.trans A an,ao,sd,by rw[qND P,<-D];unfold Gw;rw[zk Q];rfl,λn h=>by simp at h;omega⟩,by show given.length-(i+1)<given.length-i;omega,ap⟩
   .simp only[zAp]at u;obtain⟨rfl,_,rfl⟩:=u;refine zq ?_;intros;refine .inr (.inl ⟨b,nV out,rest,⟨rfl,aa,ab,aj,sd,qjQ,ak,ac,al,by unfold zAr;omega,sa⟩,λbd aV ad ae=>zq ?_⟩);intros;refine λB T q=>?_;obtain⟨U,an,_,ao,ap⟩:=(q.fit (nx':=1) (rs':=[.row 3 ad (out.length+1) ae 3 1 (nV out++[.int .i64 i]),.blk 0 ah 38 [.v (.slice (O a) given.length L)]]) sc).Cw;have aq:¬g.g b:=λar=>by have:=g.wf _ ar;omega
    exact⟨⟨i+1,out++[i],U,ad,ae⟩,by rw[R];simp[qDA,Ae],⟨M,GW.trans (aV.le A aq) an,by simpa[nV]using ao,sf,by rw[qND P,<-D];unfold Gw;rw[zk Q],λn h=>by
     rcases zL.1 h with h|h
     .exact E n h
     .simp at h;omega⟩,by show given.length-(i+1)<given.length-i;omega,ap⟩
  have Q:H.kind≠1:=Ea ai;refine zq ?_;intros;refine⟨λau=>?_,λau=>?_⟩;rotate_left
  .refine zq ?_;intros;refine λB T q=>⟨⟨i+1,out,Y,oa,cap⟩,by rw[R],⟨M,A,C,by show out.length<=i+1;omega,by show out=_;rw[qND P,<-D];unfold Gw;rw[zh Q,zh (Ea au)],E⟩,by show given.length-(i+1)<given.length-i;omega,q.fit sc⟩
  have aE:H.kind=6:=B9 au;have av:=C.rd;obtain⟨_,_,_,aW,be,bf,bg,av⟩:=av;cases aW;refine zq ?_;intros;refine⟨Z,λk=>[.v (.int .i64 k)],λk=>⟨Y,_,_,_⟩,λk=>k<=out.length/\(out.take k).any (qPN given H)=zb,λk=>out.length-k,qMA 0 rfl ⟨zF _,rfl⟩ rfl,?_⟩;rintro k ⟨bh,af⟩;refine zq ?_;intros;refine⟨λaw=>?_,λaw=>?_⟩
  .have ag:k<out.length:=by have:=ze aw;omega
   obtain⟨n,h⟩:=qBA ag;obtain⟨aF,rfl,aX⟩:=av k (.int .i64 n) (by simp[nV,h]);have aY:n<given.length:=E n (zl h);obtain⟨aG,aH⟩:=qBA aY;obtain⟨bi,aZ,bj,bl,⟨rfl,bm⟩,a0⟩:=aC n aG aH;cases aZ;refine zq ?_;intros;have a1:Rc Y (aF.add (k*1)) (.int .i64 n):=by rw[zCb];exact aX
   refine zw ?_;refine⟨aF,rfl,⟨sa,sa⟩,zw ?_⟩;refine⟨_,a1,zq ?_⟩;intros;refine⟨kF,zq ?_⟩;intros;refine⟨a,rfl,⟨sa,sa⟩,zw ?_⟩;refine⟨_,⟨rfl,a0⟩,zq ?_⟩;intros;have aI:qPN given H n=q3G H aG:=by simp only[qPN,aH]
   refine zw ?_;refine⟨λax=>?_,λax=>?_⟩
   .have ay:=qzQ af h (by rw[aI];unfold q3G;simpa using ax);refine zq ?_;intros;refine dT sa (zq ?_);intros;rcases C with⟨aT,⟨u,aD⟩|⟨b,aU,rest,u,⟨aa,ab⟩,aj,ak,ac,al⟩,_⟩
    .cases u
    simp only[zAp,zAk]at u;obtain⟨rfl,_,rfl⟩:=u;have aq:¬g.g b:=λar=>by have:=g.wf _ ar;omega
    refine zq ?_;intros;refine .inr ⟨rfl,b,out.length,cap,k,nV out,rest,by rw[wr (x:=(k:zn)+1) sg],⟨⟨aa,ab⟩,aj,sd,ag,⟨ak,ac⟩,qjQ⟩,λU az=>zq ?_⟩;intros;refine λB T q=>⟨⟨i+1,out.eraseIdx k,U,O ⟨b,0,zc⟩,cap⟩,by rw[R];simp[qDA,Ae,zCO,ag],⟨M,az.le A aq,?_,by show(out.eraseIdx k).length<=i+1;rw[zCO];split<;>omega,by show out.eraseIdx k=_;rw[qND P,<-D,qOW Q aE ay],λn h=>E n (zCZ h)⟩,by show given.length-(i+1)<given.length-i;omega,q.fit sc⟩;have aJ:(out.eraseIdx k).length=out.length-1:=by rw[zCO];split<;>omega
    refine⟨sd,.inr ⟨b,cap,.int .i64 0::rest,by rw[aJ],⟨aa,(az.dom b).2 ab⟩,?_,by show(out.eraseIdx k).length<=cap;omega,ac,?_⟩,qjQ⟩
    .rw[az.obj];simp only[nV,qsF]
    .simp only[zAq,zAA,zBb]at al⊢;rw[aJ];omega
   .refine zq ?_;intros;refine λB T q=>⟨k+1,zK (λz=>[zD .i64 z]) (show((k+1:Z):zn)=zAf.wrap ((k:zn)+1) by rw[wr (x:=(k:zn)+1) sg];omega),⟨ag,qNR af h (by rw[aI];unfold q3G;simpa using ax)⟩,by show out.length-(k+1)<out.length-k;omega,?_⟩;exact q.fit sc
  have a2:k=out.length:=by have:=zf aw;omega
  rw[a2,zAB]at af;have ay:=qgU af;refine zq ?_;intros;refine⟨λa3=>absurd (ze a3) sb,λ_=>zq ?_⟩;intros
  refine λB T q=>⟨⟨i+1,out,Y,oa,cap⟩,by rw[R],⟨M,A,C,by show out.length<=i+1;omega,by show out=_;rw[qND P,<-D,qlT Q aE ay],E⟩,by show given.length-(i+1)<given.length-i;omega,q.fit sc⟩)
def qHW{g}{a b d}{o}{t}(q:InR t)(h:rOp g [.int .i64 o.kind,.string o.listen,.string o.Bp,.string o.path,.int .i64 o.d0,.int .i64 o.d1,.int .i64 o.n,a,b,d] o):qeA g ((mPl o t).cs a b d) (mPl o t):=by
 obtain⟨A,B,C,e,u,w⟩:=h;simp only[zAJ,zA6,zBL]at e;obtain⟨rfl,rfl,rfl⟩:=e;exact⟨_,_,_,rfl,⟨q,z0,z0,z0,(by unfold InR;decide:InR (-1)),z0,z0,z0,z0,zu,z0,z0,z0,z0,qHH,qEG⟩,u,w⟩
def qIW{g}{a b d}{o}{A:Ans}{t}(q:InR t)(hA:A.ok)(h:rOp g [.int .i64 o.kind,.string o.listen,.string o.Bp,.string o.path,.int .i64 o.d0,.int .i64 o.d1,.int .i64 o.n,a,b,d] o):qeA g (Aj.cs a b d {HT t A with op:=o}) {HT t A with op:=o}:=by
 obtain⟨B,C,D,e,u,w⟩:=h;simp only[zAJ,zA6,zBL]at e;obtain⟨rfl,rfl,rfl⟩:=e;refine⟨_,_,_,rfl,⟨q,?_,z0,hA.Ac,?_,hA.Ak,hA.An,z0,hA.slot,zu,z0,z0,z0,z0,qHH,qEG⟩,u,w⟩
 .unfold HT InR;simp only;split<;>decide
 .unfold HT;simp only;split
  .exact hA.listen
  .unfold InR;decide
def qZQ(g){E}{H}{given}{ec}{o}{t}(B:InR t)(aa:rSl 13 F7 g (.slice E given.length H) given)(hl:given.length<=1000)(hop:rOp g ec o):Ok X0 82 [.int .i64 t,.agg ⟨ec⟩,.slice E given.length H] g λv _=>∃ab,v=.agg ⟨ab⟩/\∀h,rOp h ec o->qeA h ab (qmB t given o):=by
 have al:=hop;obtain⟨ac,ad,ae,af,ag,ah,rfl⟩:=qAJ hop;obtain⟨_,_,_,an,aC,aD⟩:=id al;simp only[zAJ,zA6]at an
 exact Ok.Ao hm noT 0 HI.2 (args:=[.v (.int .i64 t),.v (.agg ⟨_⟩),.v (.slice E given.length H)]) (by
  refine zq ?_;intros;refine⟨λL=>?_,λL=>?_⟩
  .have M:o.kind≠2:=by simpa using L
   refine zq ?_;intros;intro u P;refine⟨_,rfl,λh w=>?_⟩;unfold qmB;rw[zh M];exact qHW B w
  have M:o.kind=2:=by simpa using L
  refine zq ?_;intros;refine .inr ((q6T g aa (zZ hl sb)).mono λv ao ap aq=>?_);obtain⟨aE,cap,out,rfl,Q,ar,R,_⟩:=aq;obtain⟨aF,aG,au,aH,aI,aJ,av⟩:=id (aa.mono qYE ap);cases au;obtain⟨_,aK,aL,aw,aM,aN,aO,R⟩:=R;cases aw
  have T:∀q,q.ok->Gy given o=q->∀u,rOp u [.int .i64 o.kind,.string o.listen,.string o.Bp,.string o.path,.int .i64 o.d0,.int .i64 o.d1,.int .i64 o.n,.slice ac o.Ap.Aa.length ad,.slice ae o.Ap.As.length af,.slice ag o.Ap.Ad.length ah] o->qeA u (Aj.cs (.slice ac o.Ap.Aa.length ad) (.slice ae o.Ap.As.length af) (.slice ag o.Ap.Ad.length ah) {HT t q with op:=o}) (qmB t given o):=λq D e u ax=>by
   unfold qmB;rw[zk M,e];exact qIW B D ax
  refine zq ?_;intros;refine⟨λU=>?_,λU=>?_⟩
  .refine zq ?_;intros;refine⟨λV=>?_,λV=>?_⟩
   .have ai:0<=o.n:=ze U;have A:o.n<out.length:=ze V;obtain⟨n,W⟩:=qBA (show o.n.toNat<out.length by omega);obtain⟨aj,rfl,ay⟩:=R o.n.toNat (.int .i64 n) (by simp[nV,W]);have az:n<given.length:=ar n (zl W);obtain⟨q,D⟩:=qBA az;obtain⟨a,rfl,aP,aQ,⟨rfl,ak⟩,aA⟩:=av n q D;have aB:Rc ao (aj.add (o.n.toNat*1)) (.int .i64 n):=by rw[zCb];exact ay
    have C:Gy given o=q:=by unfold Gy;rw[zk (by rw[<-Q];exact⟨ai,A⟩),<-Q,W];simp[D]
    refine zq ?_;intros;refine⟨aj,rfl,⟨ai,A⟩,zw ?_⟩;refine⟨_,aB,zq ?_⟩;intros;refine⟨a,rfl,⟨sa,sa⟩,zw ?_⟩;refine⟨_,⟨rfl,aA⟩,zq ?_⟩;intros;refine .inl ⟨_,qBM _ B ak,zq ?_⟩;intros;intro u P;exact⟨_,rfl,λh w=>T q ak C h w⟩
   .have A:¬o.n<out.length:=zf V;have C:Gy given o=BO:=by unfold Gy;rw[zh (by rw[<-Q];exact λY=>A Y.2)]
    refine zq ?_;intros;refine .inl ⟨_,qBM (a:=BO) _ B qHH,zq ?_⟩;intros;intro u P;exact⟨_,rfl,λh w=>T BO qHH C h w⟩
  .have A:¬0<=o.n:=zf U;have C:Gy given o=BO:=by unfold Gy;rw[zh (λY=>A Y.1)]
   refine zq ?_;intros;refine .inl ⟨_,qBM (a:=BO) _ B qHH,zq ?_⟩;intros;intro u P
   exact⟨_,rfl,λh w=>T BO qHH C h w⟩)
def qEN(g){q}{u}{given}{ec}{o}{t}(w:InR t)(A:rSl 13 F7 g (.slice q given.length u) given)(hl:given.length<=1000)(hop:rOp g ec o):Ok X0 82 [.int .i64 t,.agg ⟨ec⟩,.slice q given.length u] g λv g'=>∃h,v=.agg ⟨h⟩/\qeA g' h (qmB t given o):=by
 exact(qZQ g w A hl hop).mono λv g' B⟨h,e,C⟩=>⟨h,e,C g' (qzE _ _ _ _ B hop)⟩
def qIT{l}{Inv}(A:∀i W given,Inv i W given->given.length<=1000)(B:∀i W given o,Inv i W given->l[i]?=O o->∃k x n,IE k W (K7 given o) x n/\k<=9999/\(n.answer.ok->Inv (i+1) x (given++[n.answer]))):qcL l Inv:=by
 intro i W given o g cs P Q h C hW q u;obtain⟨k,x,n,D,E,H⟩:=B i W given o h C;obtain⟨R,T,rfl,_⟩:=id u;refine(qgQ g hW q (qEN g z0 u (A _ _ _ h) q) D E).mono λv U _⟨L,e,M,w⟩=>⟨L,n.answer,k,x,e,M,w,H w⟩
def quY{l}(h:qlB l=I):l.length<=100:=by
 have q:∀l,q3I l=I->l.length<=32:=λl h=>by
  unfold q3I at h;simp only[zj,zx]at h;exact h.1
 unfold qlB at h;split at h
 .have:=q _ h;rw[zB2]at this;omega
 .rw[zCX]at h;rcases h with h|h
  .rw[beq_iff_eq]at h;subst h;decide
  .have:=q _ h;omega
structure Ke(m:Aj)(k:zn):Prop where
 sm:SmO m
 kind:m.op.kind=k
def Ke.next{m m':Aj}{k}(h:Ke m k)(e:m'.op=m.op):Ke m' k:=⟨by unfold SmO;rw[e];exact h.sm,by rw[e];exact h.kind⟩
def Ke.LQ{m:Aj}{k}(h:Ke m k)(hk:1<=k/\k<=6){w}(hs:SnW w)(hb:BgW 1000000 w):JI w m:=⟨hs,hb,h.sm,by rw[h.kind];exact hk⟩
def q9a:∀{k:Z}{w:Wd}{m:Aj}{x:Wd}{n:Aj},EC (k+1) w m x n->n.done=I->Ke m 5->SnW w->BgW 1000000 w->IE (k+1) w m x n
 |k,w,m,x,n,⟨L,q,u⟩,B,A,hs,C=>by
  have h:m.op.kind=5:=A.kind;have D:psW w m=cW w m:=by unfold psW;rw[zh (by rw[h];decide),zh (by rw[h];decide),zh (by rw[h];decide),zh (by rw[h];decide),zk h];exact(qjG q).1
  have E:psM w m=cM w m:=by unfold psM;rw[zh (by rw[h];decide),zh (by rw[h];decide),zh (by rw[h];decide),zh (by rw[h];decide),zk h];exact(qjG q).2.1
  have H:psE w m=cE w m:=by unfold psE;rw[zh (by rw[h];decide),zh (by rw[h];decide),zh (by rw[h];decide),zh (by rw[h];decide),zk h];exact(qjG q).2.2
  refine⟨A.LQ ⟨sb,sb⟩ hs C,by rw[H];exact qbc q,?_⟩;rw[D,E];cases k with
  |zero=>obtain⟨rfl,rfl⟩:=u;exact .inl ⟨B,rfl,rfl,rfl⟩
  |succ k=>exact .inr ⟨u.1,q9a u B (A.next Nu) (q4V (K:=0) hs (qRK q).1) ((qRK q).1.1 C)⟩
section
end
section
variable{N:F BA}{M0:KP}{l:F OpD}{i:Z}{W:Wd}{given:F Ans}{o:OpD}
end
end Go.Proofs.YtlmhpamhhgogaaaGreat
namespace Go.Proofs.YtlmhpamhhgogaaaGreat.Sx
open Go.Conc (G)
open Go.Duo
open Go.RowKit
section
variable{P:zt}
section
variable{E:Env P}{tbl:F (Z×FnI)}{f:zBa}{ords:F (F Z×OI)}{lms:F (F Z)}{fi:FnI}{args:F SV}{g:GW}{Q:zg->GW->Prop}{w:zp}
def qwQ(u:Good g w):Aq ⟨w,(·<w.heap.size),g.g,λ_ h=>h⟩ ⟨g,[],0,g.w.heap.size⟩ w:=
 ⟨u,⟨rfl,rfl,rfl,zG _,λ_ _=>rfl⟩,(λr A=>by cases A),zBR,(λb q=>by cases q),(λn _ h=>h),(λn B C _=>by have:=g.wf n C;exact absurd B (zDE.2 this)),u.1,λb q=>by cases q⟩
def q1X{v}{B}{w'}(H:Aq ⟨w,(·<w.heap.size),g.g,λ_ h=>h⟩ B w')(hk:Hq v B λv' A=>qSI v' λx=>∀C,A.g<=C->Q x C):Below w.heap.size w w'/\Q (Ae v) (g.next w w'):=by
 obtain⟨v',A,hk,L,q⟩:=qiF v hk H;have D:=qvC v' hk;rw[L]at D;refine⟨⟨q.frm.os,q.frm.tape,q.frm.output,q.frm.size,λn u=>q.frm.block n u⟩,D _ ⟨q.AJ.1,λn u=>⟨⟨zQ (A.g.wf n u) q.AJ.1,?_⟩,q.AJ.2 n u⟩⟩⟩;rcases zAL n w.heap.size with M|R
 .exact .inl (q.fz n M u)
 .exact .inr R
def OkE.Ao(hm:P.follows .mixedOrders=I)(C:qqB P tbl)(d)(D:F1 P f ords lms=O fi)(h:fnS P (qWU P (Ls E) tbl d) fi noY args ⟨g,[],0,g.w.heap.size⟩ λv A=>Hq v A λv' H=>qSI v' λx=>∀B,H.g<=B->Q x B):OkE E f (qDA args) g Q:=λw L hE=>
 (qUG hm (λq u=>qnH E hm (λq u=>(quP E).snd q u) C d q u) D (λn M=>zQ M hE) (qrF E _) h (qwQ L)).mono λe V⟨v,A,R,T,U⟩=>⟨_,R,q1X T U⟩
def Li(E:Env P)(f:zBa)(args:F zg)(g:GW)(Q:zg->GW->Prop):Prop:=∀w,Good g w->E.N<=w.heap.size->Kc E f args.toArray w λv h=>Below w.heap.size w h/\Q v (g.next w h)
def Li.Ao(hm:P.follows .mixedOrders=I)(C:qqB P tbl)(d)(D:F1 P f ords lms=O fi)(h:fnS P (qWU P (Ls E) tbl d) fi noY args ⟨g,[],0,g.w.heap.size⟩ λv A=>Hq v A λv' H=>qSI v' λx=>∀B,H.g<=B->Q x B):Li E f (qDA args) g Q:=λw L hE=>by
 obtain⟨fn,c,M,R,T⟩:=q0X hm (λq u=>qnH E hm (λq u=>(quP E).snd q u) C d q u) D (λn U=>zQ U hE) (qrF E _) h (qwQ L);refine(qWR M R T).mono λv aa⟨v',A,V,W,Y⟩=>?_;cases V;exact q1X W Y
end
end
end Go.Proofs.YtlmhpamhhgogaaaGreat.Sx
namespace Go.Proofs.YtlmhpamhhgogaaaGreat
open Go.Proofs.YtlmhpamhhgogaaaGreat.Sx Go.Duo Go.RowKit
def q3Q{h:Type}{o:zs h}:eqB o zc=o.isNone:=by
 rw[zCn,DU,Option.isNone_iff_eq_none]
noncomputable def wdC:{f:Wd->zM // wdB=f}:=by
 refine⟨?f,?_⟩;rotate_left
 .funext h;unfold wdB;rw[show De h=λ(i:Z)(v:AL)=>((qTA (qRD v.AO)).isNone&&decide (v.Am.length=v.AO.Ad.length)&&allI (qwF v.AO.Ad) v.Am)&&(v.AV==qIE h.Ai i) by funext i v;unfold De qNB;rw[q3Q]]
noncomputable def qva(w:Wd)(m:Aj):zM:=wdC.1 w&&match w.Ab[m.Ac.toNat]? with
 |none=>zb
 |some v=>match v.Am[m.Ak.toNat]? with
  |none=>zb
  |some h=>match h.ends[m.An.toNat]? with
   |none=>zb
   |some q=>decide ((0<=m.Ag/\m.Ag<w.pins.length)/\m.done=zb/\0<=m.Ac/\0<=m.Ak/\0<=m.An/\(0<=m.other/\m.other<h.ends.length)/\(0<=m.slot/\m.slot<q.next.length)/\(-1<=m.listen/\m.listen<w.Aa.length)/\0<=m.i/\0<=m.k)
def qVO:qXB=qva:=by
 funext D m;rw[zCn,Ar];unfold qva;rw[<-wdC.2,zj];constructor
 .rintro⟨v,q,u,h⟩;rw[h.ver.2];dsimp only;rw[h.clu.2];dsimp only;rw[h.An.2];dsimp only;exact⟨h.right,zC ⟨h.Ag,h.done,h.ver.1,h.clu.1,h.An.1,h.other,h.slot,h.listen,h.i,h.k⟩⟩
 .rintro⟨w,h⟩;split at h
  .cases h
  rename_i v A;split at h
  .cases h
  rename_i q B;split at h
  .cases h
  rename_i u C;obtain⟨a,b,c,d,e,f,i,j,k,l⟩:=ze h;exact⟨v,q,u,w,a,b,⟨c,A⟩,⟨d,B⟩,⟨e,C⟩,f,i,j,k,l⟩
def quc{q:Type}{p:Prop}[h:Decidable p]{a b:q}:@ite q p (zDR p) a b=if p then a else b:=by congr
noncomputable def JZ(w:Wd)(m:Aj):{x // psW w m=x}:=by
 refine⟨?x,?_⟩;rotate_left
 .unfold psW hsW Du hW Jp fsW swW csW cGo drW hGo fGo FH GQ;simp only[qVO,quc];exact rfl
noncomputable def It(w:Wd)(m:Aj):{x // psM w m=x}:=by
 refine⟨?x,?_⟩;rotate_left
 .unfold psM hsM Dg fsM swM csM cGo drM qgK hGo fGo FH GQ;simp only[qVO,quc];exact rfl
noncomputable def K1(w:Wd)(m:Aj):{x // psE w m=x}:=by
 refine⟨?x,?_⟩;rotate_left
 .unfold psE hsE Dk hE Jr fsE swE csE cGo drE qrL hGo fGo FH GQ;simp only[qVO,quc];exact rfl
def qYK{q:Type}{f:q->zM}{l:F q}{k:Z}{x:q}(h:(l.take k).all f=I)(u:l[k]?=O x)(w:f x=I):(l.take (k+1)).all f=I:=by
 obtain⟨A,B⟩:=zd.1 u;rw[zY A,B,List.all_append,h];simpa using w
def qZK{h:Type}{f:h->zM}{l:F h}{k:Z}{x:h}(q:l[k]?=O x)(u:f x=zb):l.all f=zb:=by
 rw[zDx];exact⟨x,zl q,by rw[u];exact zAi⟩
def qaI{q:Type}{f:q->zM}{l:F q}{k:Z}(h:(l.take k).all f=I)(hk:l.length<=k):l.all f=I:=by rwa [zAw hk]at h
def tQu:F (Z×FnI):=[(91,EU.1),(92,E8.1),(94,E9.1),(96,E7.1),(23,AE.1),(56,AC.1),(73,AI.1),(115,AM.1),(93,Av.1),(134,Aw.1),(95,Be.1),(74,AF.1)]
def qzP:qqB X0 tQu:=qPA EU.2 (qPA E8.2 (qPA E9.2 (qPA E7.2 (qPA AE.2 (qPA AC.2 (qPA AI.2 (qPA AM.2 (qPA Av.2 (qPA Aw.2 (qPA Be.2 (qPA AF.2 noT)))))))))))
def q5K(w:Wd):zM:=decide (w.AH=0)&&w.pins.all λp=>decide (p=0)
def MM(e:Bz):zM:=decide (e.Ah=0)
def ML(g:Bm):zM:=g.ends.all MM
def KX(v:AL):zM:=v.Am.all ML
def GL(l:AY):zM:=decide (l.Ah=0)&&(!l.drain||l.closed)
def qFb(w):qIs w=((q5K w&&w.Ab.all KX)&&((w.Ai.all λr=>r.gone)&&w.Aa.all GL)):=rfl
def qVW(g){cs}{w}(A:rWo g cs w):OkV X0 48 [.agg ⟨cs⟩] g (.bool (q5K w)):=by
 obtain⟨a,b,c,d,e,rfl,_,L,⟨_,_,rfl,_⟩,⟨_,_,rfl,_⟩,⟨_,_,rfl,_⟩,⟨_,_,rfl,_⟩⟩:=A;obtain⟨T,U,rfl,M,P,_,Q⟩:=id L
 exact Ok.Ao hm qzP 3 HH.2 (args:=[.v (.agg ⟨_⟩)]) (by
  refine zq ?_;intros;refine⟨λh=>?_,λh=>?_⟩
  .have h:=B9 h;refine zq ?_;intros;refine⟨Z,λk=>[.v (.int .i64 k)],λk=>⟨g,_,_,_⟩,λk=>k<=w.pins.length/\(w.pins.take k).all (λp=>decide (p=0))=I,λk=>w.pins.length-k,qMA 0 rfl ⟨zF _,sd⟩ rfl,?_⟩;rintro k ⟨V,D⟩;refine zq ?_;intros;refine⟨λB=>?_,λB=>?_⟩
   .have u:k<w.pins.length:=by have:=ze B;omega
    obtain⟨x,C⟩:=qBA u;obtain⟨a,rfl,W,Y,⟨rfl,_⟩,R⟩:=Q k x C;refine zq ?_;intros;refine⟨a,rfl,⟨sa,sa⟩,zw ?_⟩;refine⟨_,R 0 _ rfl,zq ?_⟩;intros;refine⟨kF,zq ?_⟩;intros;refine⟨λq=>?_,λq=>?_⟩
    .have q:=E3 q;refine zq ?_;intros;intro E H;unfold q5K;rw[qZK C (zE q)];simp
    .have q:=Ft q;refine zq ?_;intros;refine λaa w A=>⟨k+1,zK (λz=>[zD .i64 z]) (wr1 u M P).symm,⟨u,qYK D C (zC q)⟩,dec u,?_⟩;exact A.fit sc
   .have ab:=zf B;refine zq ?_;intros;intro E H;unfold q5K;rw[qaI D sa,zC h];rfl
  .have h:=Ea h;refine zq ?_;intros;intro E H;unfold q5K
   rw[zE h];rfl)
def qCZ(g){cs}{w}(u:rWo g cs w):OkV X0 50 [.agg ⟨cs⟩] g (.bool (w.Ai.all λr=>r.gone)):=by
 obtain⟨a,b,c,d,e,rfl,_,⟨_,_,rfl,_⟩,⟨_,_,rfl,_⟩,⟨_,_,rfl,_⟩,⟨_,_,rfl,_⟩,D⟩:=u;obtain⟨R,T,rfl,E,H,_,L⟩:=id D
 exact Ok.Ao hm qzP 3 Ib.2 (args:=[.v (.agg ⟨_⟩)]) (by
  refine zq ?_;intros;refine⟨Z,λk=>[.v (.int .i64 k)],λk=>⟨g,_,_,_⟩,λk=>k<=w.Ai.length/\(w.Ai.take k).all (λr=>r.gone)=I,λk=>w.Ai.length-k,qMA 0 rfl ⟨zF _,sd⟩ rfl,?_⟩;rintro k ⟨U,C⟩;refine zq ?_;intros;refine⟨λA=>?_,λA=>?_⟩
  .have q:k<w.Ai.length:=by have:=ze A;omega
   obtain⟨x,B⟩:=qBA q;obtain⟨a,rfl,V,W,⟨rfl,_⟩,M⟩:=L k x B;refine zq ?_;intros;refine⟨a,rfl,⟨sa,sa⟩,zw ?_⟩;refine⟨_,⟨rfl,M⟩,zq ?_⟩;intros;refine⟨kF,zq ?_⟩;intros;refine⟨λh=>?_,λh=>?_⟩
   .have h:=nb1 h;refine zq ?_;intros;intro P Q;rw[qZK B h];simp
   .have h:=nb0 h;refine zq ?_;intros;refine λY w u=>⟨k+1,zK (λz=>[zD .i64 z]) (wr1 q E H).symm,⟨q,qYK C B h⟩,dec q,?_⟩;exact u.fit sc
  .have aa:=zf A;refine zq ?_;intros;intro P Q
   rw[qaI C sa];rfl)
def q0Y(g){cs}{w}(A:rWo g cs w):OkV X0 51 [.agg ⟨cs⟩] g (.bool (w.Aa.all GL)):=by
 obtain⟨a,b,c,d,e,rfl,_,⟨_,_,rfl,_⟩,⟨_,_,rfl,_⟩,Q,⟨_,_,rfl,_⟩,⟨_,_,rfl,_⟩⟩:=A;obtain⟨V,W,rfl,H,L,_,R⟩:=id Q
 exact Ok.Ao hm qzP 3 H9.2 (args:=[.v (.agg ⟨_⟩)]) (by
  refine zq ?_;intros;refine⟨Z,λk=>[.v (.int .i64 k)],λk=>⟨g,_,_,_⟩,λk=>k<=w.Aa.length/\(w.Aa.take k).all GL=I,λk=>w.Aa.length-k,qMA 0 rfl ⟨zF _,sd⟩ rfl,?_⟩;rintro k ⟨Y,C⟩;refine zq ?_;intros;refine⟨λD=>?_,λD=>?_⟩
  .have q:k<w.Aa.length:=by have:=ze D;omega
   obtain⟨x,B⟩:=qBA q;obtain⟨a,rfl,aa,ab,⟨rfl,_⟩,T⟩:=R k x B;refine zq ?_;intros;refine⟨a,rfl,⟨sa,sa⟩,zw ?_⟩;refine⟨_,⟨rfl,T⟩,zq ?_⟩;intros;refine⟨kF,zq ?_⟩;intros;refine⟨λh=>?_,λh=>?_⟩
   .have h:=E3 h;refine zq ?_;intros;intro M P;rw[qZK B (show GL x=zb by unfold GL;rw[zE h];rfl)];simp
   .have h:=Ft h;refine zq ?_;intros;refine⟨λE=>?_,λE=>?_⟩
    .refine zq ?_;intros;refine⟨λu=>?_,λu=>?_⟩
     .have u:=nb1 u;refine zq ?_;intros;intro M P;rw[qZK B (show GL x=zb by unfold GL;rw[E,u];simp)];simp
     .have u:=nb0 u;refine zq ?_;intros;refine λU w A=>⟨k+1,zK (λz=>[zD .i64 z]) (wr1 q H L).symm,⟨q,qYK C B (show GL x=I by unfold GL;rw[zC h,u];simp)⟩,dec q,?_⟩;exact A.fit sc
    .refine zq ?_;intros;refine λU w A=>⟨k+1,zK (λz=>[zD .i64 z]) (wr1 q H L).symm,⟨q,qYK C B (show GL x=I by unfold GL;rw[zC h,E];simp)⟩,dec q,?_⟩;exact A.fit sc
  .have ac:=zf D;refine zq ?_;intros;intro M P
   rw[qaI C sa];rfl)
def q4Y(g){cs}{w}(h:rWo g cs w):OkV X0 49 [.agg ⟨cs⟩] g (.bool (w.Ab.all KX)):=by
 obtain⟨a,b,c,d,e,rfl,_,⟨_,_,rfl,_⟩,V,⟨_,_,rfl,_⟩,⟨_,_,rfl,_⟩,⟨_,_,rfl,_⟩⟩:=h;obtain⟨ar,au,rfl,b1,W,_,Y⟩:=id V
 exact Ok.Ao hm qzP 3 Ia.2 (args:=[.v (.agg ⟨_⟩)]) (by
  refine zq ?_;intros;refine⟨Z,λk=>[.v (.int .i64 k)],λk=>⟨g,_,_,_⟩,λk=>k<=w.Ab.length/\(w.Ab.take k).all KX=I,λk=>w.Ab.length-k,qMA 0 rfl ⟨zF _,sd⟩ rfl,?_⟩;rintro i ⟨av,P⟩;refine zq ?_;intros;refine⟨λD=>?_,λD=>?_⟩
  .have A:i<w.Ab.length:=by have:=ze D;omega
   obtain⟨v,E⟩:=qBA A;obtain⟨aw,rfl,ax,ay,⟨az,aA,aB,aC,rfl,aa,ab⟩,ac⟩:=Y i v E;obtain⟨aD,aE,rfl,ad,ae,aF,af⟩:=id ab;obtain⟨_,_,_,ag,⟨aG,aH,rfl,_⟩,⟨aI,aJ,rfl,_⟩,⟨aK,aL,rfl,_⟩⟩:=aa;cases ag;refine zq ?_;intros;refine⟨_,rfl,⟨sa,sa⟩,zw ?_⟩;refine⟨_,⟨rfl,ac⟩,zq ?_⟩;intros;refine⟨Z,λk=>[.v (.int .i64 k)],λk=>⟨g,_,_,_⟩,λk=>k<=v.Am.length/\(v.Am.take k).all ML=I,λk=>v.Am.length-k,qMA 0 rfl ⟨zF _,sd⟩ rfl,?_⟩;rintro j ⟨aM,Q⟩;refine zq ?_;intros;refine⟨λH=>?_,λH=>?_⟩
   .have B:j<v.Am.length:=by have:=ze H;omega
    obtain⟨x,u⟩:=qBA B;obtain⟨aN,rfl,aO,aP,⟨xn,rfl,aQ,hE⟩,ah⟩:=af j x u;obtain⟨on,aR,rfl,ai,aj,aT,ak⟩:=id hE;refine zq ?_;intros;refine⟨_,rfl,⟨sa,sa⟩,zw ?_⟩;refine⟨_,⟨rfl,ah⟩,zq ?_⟩;intros;refine⟨Z,λk=>[.v (.int .i64 k)],λk=>⟨g,_,_,_⟩,λk=>k<=x.ends.length/\(x.ends.take k).all MM=I,λk=>x.ends.length-k,qMA 0 rfl ⟨zF _,sd⟩ rfl,?_⟩;rintro k ⟨aU,R⟩;refine zq ?_;intros;refine⟨λL=>?_,λL=>?_⟩
    .have C:k<x.ends.length:=by have:=ze L;omega
     obtain⟨al,M⟩:=qBA C;obtain⟨aV,rfl,aW,aX,⟨⟨n,rfl,aY,aZ,⟨a0,a1,rfl,_⟩⟩,a2⟩,an⟩:=ak k al M;refine zq ?_;intros;refine⟨_,rfl,⟨sa,sa⟩,zw ?_⟩;refine⟨_,⟨rfl,an⟩,zq ?_⟩;intros;refine⟨kF,zq ?_⟩;intros;refine⟨λq=>?_,λq=>?_⟩
     .have q:=E3 q;refine zq ?_;intros;refine⟨λ_=>zq ?_,λu=>absurd (((zC (show(0:zn)<=(k:zn) by omega))).symm.trans u) sb⟩;intros;intro ao ap;rw[qZK E (qZK u (qZK M (zE q)))]
     .have q:=Ft q;refine zq ?_;intros;refine λT w h=>⟨k+1,zK (λz=>[zD .i64 z]) (wr1 C ai aj).symm,⟨C,qYK R M (zC q)⟩,dec C,?_⟩;exact h.fit sc
    .have U:=zf L;refine zq ?_;intros;refine⟨λaq=>absurd aq sb,λ_=>zq ?_⟩;intros;refine λT w h=>⟨j+1,zK (λz=>[zD .i64 z]) (wr1 B ad ae).symm,⟨B,qYK Q u (qaI R sa)⟩,dec B,?_⟩;exact h.fit sc
   .have U:=zf H;refine zq ?_;intros;refine λT w h=>⟨i+1,zK (λz=>[zD .i64 z]) (wr1 A b1 W).symm,⟨A,qYK P E (qaI Q sa)⟩,dec A,?_⟩;exact h.fit sc
  .have U:=zf D;refine zq ?_;intros;intro ao ap
   rw[qaI P sa])
def tQa:F (Z×FnI):=[(47,GC.1),(90,FR.1),(89,Bc.1),(133,Bg.1)]
def qja:qqB X0 tQa:=qPA GC.2 (qPA FR.2 (qPA Bc.2 (qPA Bg.2 noT)))
def qDc{m:zn}{n:Z}{K:Z->Prop}(h:0<=m/\m<n)(k:K m.toNat):∃j:Z,(m=j/\j<n)/\K j:=⟨m.toNat,⟨sa,sa⟩,k⟩
def qoX(g){cs}{w}(q:rWo g cs w):OkV X0 18 [.agg ⟨cs⟩] g (.bool (qIs w)):=by
 have h:=q;obtain⟨_,_,_,_,_,_,_,_,_,_,rfl⟩:=qJA q
 exact Ok.Ao hm qja 5 Jg.2 (args:=[.v (.agg ⟨_⟩)]) (by
  refine zr ?_;intros
  repeat'((first|refine qzD 5 ?_|refine qEE ?_|refine qDc ⟨sb,sb⟩ ?_|refine cT sb ?_|refine cF sb ?_|refine⟨kF,?_⟩|refine⟨kF,?_⟩|refine⟨kF,?_⟩|refine⟨kF,?_⟩|refine⟨kF,?_⟩|refine .inl ⟨_,qVW _ h,?_⟩|refine .inl ⟨_,q4Y _ h,?_⟩|refine .inl ⟨_,qCZ _ h,?_⟩|refine .inl ⟨_,q0Y _ h,?_⟩|refine⟨λ_=>?_,λ_=>?_⟩|fail)<;>first|(refine zr ?_;intros)|rfl)
  all_goals
   refine zw ?_;intro u A;rw[qFb];generalize q5K w=a,w.Ab.all KX=b,(w.Ai.all λr=>r.gone)=c,w.Aa.all GL=d at*
   cases a<;>cases b<;>cases c<;>cases d<;>first|contradiction|rfl)
def rEv:RP Ev:=λ_ cs e=>cs=e.cs
def KW:RP BK:=λ_ cs c=>cs=c.cs
def q5M:C4 KW:=λ_ _ _ _ _ h=>h
def tOf:F (Z×FnI):=[(84,Dr.1)]
def qma:qqB X0 tOf:=qPA Dr.2 noT
def qkU{P:Prop}{id j}{es u}{L}{K}{q}(p:P)(e:DY j q es=u)(h:Hl id u L K):P/\qSI (.v q) λv=>Hl id (DY j v es) L K:=
 ⟨p,by show Hl id (DY j q es) L K;rw[e];exact h⟩
def qXN{k}(h:k<=1000000):zAf.wrap (((k+1:Z):zn)-1)=(k:zn):=by
 have q:zAf.wrap (((k+1:Z):zn)-1)=((k+1:Z):zn)-1:=qsE sa;omega
def q0b(g){v}{E}{ac}(hl:rSl 23 rEv g v E)(hE:E.length<=1000000)(ad:bkN E E.length=O ac):Ok X0 43 [v] g λv' g'=>∃aw,v'=.tuple #[aw,.int .i64 0]/\rSl 18 KW g' aw ac.l:=by
 obtain⟨aE,cap,rfl,aF,aG,aR,aH⟩:=id hl
 exact Ok.Ao hm qma 2 Jj.2 (args:=[.v (.slice aE E.length cap)]) (by
  refine zq ?_;intros;rename_i ae af aI;refine zw ?_;refine⟨Z×Bk×zs zAH×Z,λ(i,_,_,_)=>[.v (.int .i64 i)],λ(_,B,D,L)=>⟨g,[.row 10 D B.l.length L 129 18 (B.l.flatMap BK.cs),.blk 2 aI 187 [.row 10 D B.l.length L,.mp 0 ae,.mp 1 af],.mp 1 af (.int .i64) B.busy,.mp 0 ae .two B.of],20,g.w.heap.size⟩,λ(i,B,D,_)=>i<=E.length/\bkN E i=O B/\Dw D B.l.length,λ(i,_,_,_)=>E.length-i,λaJ aK ag=>⟨(0,⟨[],[],[]⟩,zc,0),rfl,⟨zF _,rfl,λu=>absurd u sb⟩,(ag.Cx (nx':=20) 10 129 18).fit sc⟩,?_⟩;rintro⟨i,B,D,L⟩ ⟨ax,H,ah⟩;replace ax:i<=E.length:=ax;replace H:bkN E i=O B:=H;replace ah:Dw D B.l.length:=ah;obtain⟨⟨M,P⟩,aT⟩:=qHV H;have aL:=qcP H;refine zq ?_;intros;refine⟨λai=>?_,λai=>?_⟩
  .have Q:i<E.length:=by have:=ze ai;omega
   obtain⟨e,ay⟩:=qBA Q;obtain⟨az,aM,aj⟩:=qLa ad H ay Q;obtain⟨a,rfl,aU,aV,rfl,aN⟩:=aH i e ay;refine zq ?_;intros;refine⟨a,rfl,⟨sa,sa⟩,zw ?_⟩;refine⟨_,⟨rfl,aN⟩,zq ?_⟩;intros;refine⟨kF,zq ?_⟩;intros;have q:=aM;unfold bkE bkA at q;cases ak:e.EP
   case' true=>
    rw[ak]at q;dsimp only at q;by_cases V:0<gI (.p e.Ag e.op) B.of
    .rw[zC V]at q;cases q
    by_cases al:0<gI (.i e.Ag) B.busy
    .rw[zC al,Bool.or_true]at q;cases q
    rw[zE V,zE al]at q;replace q:bkB _ i e=O az:=q;have aA:=aL.no V;have W:=(qKV (B:=B) (i:=i) (e:=e) ⟨M,P⟩ (by unfold bkA;rw[ak,zE V,zE al];rfl)).1;obtain⟨k,c,an,aB,A,rfl⟩:=qJR W q;have aO:k=B.l.length:=by rw[qoI,zk rfl]at an;omega
    subst aO;let k:=B.l.length;have aC:=M.g (.p e.Ag e.op);have aW:=P.g (.i e.Ag);refine zw ?_;refine qnQ M (show _=0 by omega) (zq ?_);intros;refine⟨λ_=>zq ?_,λu=>nomatch u⟩;intros;refine⟨λu=>(nomatch u),λ_=>zq ?_⟩;intros;refine qnQ P (show _=0 by omega) (zq ?_);intros;refine⟨λu=>(nomatch u),λ_=>zq ?_⟩;intros;refine⟨⟨by unfold zAr;omega,sa⟩,zw ?_⟩;refine Dw.get (zDM _) λao ap=>zq ?_;intros;refine⟨zc,aA,zq ?_⟩;intros;refine qkU ⟨rfl,rfl,Nat.blt_eq.mpr sd⟩ (qwO aA) (zq ?_);intros;rcases qmQ (k:=.i e.Ag) P with R|⟨R,_⟩
    all_goals
     refine zw ?_;refine⟨_,R,zq ?_⟩;intros;refine zw ?_
     first
      |refine qkU ⟨rfl,rfl,Nat.blt_eq.mpr (qvO (v:=.bool I) R).2⟩ (qvO R).1 ?_
      |refine qkU ⟨rfl,rfl,Nat.blt_eq.mpr sd⟩ (qwO R) ?_
     refine zq ?_;intros;obtain⟨h,C⟩:∃h,h=B.l++[Jz i e]:=⟨_,rfl⟩;have Y:B.l.flatMap BK.cs++(Jz i e).cs=(h.map BK.cs).flatten:=by subst C;simp[zDe]
     have aD:B.l.length+1=h.length:=by subst C;simp
     replace A:h[B.l.length]?=O c:=by subst C;exact A
   case' false=>
    rw[ak]at q;replace q:bkB B i e=O az:=q;have W:Ja B:=⟨M,P⟩;obtain⟨k,c,an,aB,A,rfl⟩:=qJR W q;obtain⟨ao,rfl⟩:=ah (by have:=(zd.1 A).1;omega);obtain⟨ap,rfl⟩:∃o,o=L:=⟨L,rfl⟩;refine zw ?_;refine qnQ M an (zq ?_);intros;refine⟨λu=>(nomatch u),λ_=>zq ?_⟩;intros;obtain⟨h,C⟩:∃h,h=B.l:=⟨_,rfl⟩;have Y:B.l.flatMap BK.cs=(h.map BK.cs).flatten:=by subst C;exact zDe ..
    have aD:B.l.length=h.length:=by subst C;rfl
    replace A:h[k]?=O c:=by subst C;exact A
   all_goals
    have aq:=(zd.1 A).1;refine zw ?_;refine⟨λu=>absurd (beq_iff_eq.1 u) sa,λ_=>zq ?_⟩;intros;refine qnQ W.busy aB (zq ?_);intros;refine⟨λu=>absurd u sd,λ_=>zq ?_⟩;intros;rw[qXN sa];refine zw ?_;refine⟨⟨sa,sa⟩,zq ?_⟩;intros;refine⟨λar=>?_,λar=>?_⟩
    case' refine_1=>
     refine zq ?_;intros;refine qpC sy (qZP (off:=3) (size:=1) (vs:=[.int .i64 i]) (c':=GU c i e.BL) Y A rfl sb (by rw[ar];rfl)) ⟨qbM (off:=4) Y aq sb,sb⟩ (zq ?_);intros;have T:((h.set k (GU c i e.BL)).map BK.cs).flatten=((h.set k (GU c i e.BL)).map BK.cs).flatten:=rfl
    case' refine_2=>
     refine zq ?_;intros;have T:=Y;rw[show h=h.set k (GU c i e.BL) by rw[ar];exact(qbY A).symm]at T
    all_goals
     have aP:(h.set k (GU c i e.BL))[k]?=O (GU c i e.BL):=zBu aq;have au:k<(h.set k (GU c i e.BL)).length:=by rw[zX];exact aq
     refine zw ?_;refine⟨λU=>?_,λU=>?_⟩
     case' refine_1=>
      have av:Dj c i e=⟨c.Ag,c.op,c.from_,(GU c i e.BL).BL,i,e.answer⟩:=by unfold Dj;rw[U];rfl
      refine zq ?_;intros;refine qpC sy (qZP (off:=4) (size:=1) (vs:=[.int .i64 i]) (c':=Np (GU c i e.BL) i) T aP rfl sb rfl) ⟨qbM (off:=5) T au sb,sb⟩ (zq ?_);intros;refine qpC sy (qZP (off:=5) (size:=13) (vs:=e.answer.cs) (c':=Dj c i e) rfl (zBu au) rfl sb (by rw[av];rfl)) ⟨qbM (off:=18) rfl (by rw[zX];exact au) sb,sb⟩ (zq ?_);intros;rw[U]at aj;have aa:((((h.set k (GU c i e.BL)).set k (Np (GU c i e.BL) i)).set k (Dj c i e)).map BK.cs).flatten=(h.set k (Dj c i e)).flatMap BK.cs:=by rw[qLD,qLD];exact(zDe ..).symm
     case' refine_2=>
      have av:Dj c i e=GU c i e.BL:=by unfold Dj;rw[U];rfl
      refine zq ?_;intros;rw[U]at aj;have aa:=T.trans (show _=(h.set k (Dj c i e)).flatMap BK.cs by rw[av];exact(zDe ..).symm)
     all_goals
      have ab:=aD.trans (show h.length=(h.set k (Dj c i e)).length by rw[zX]);replace aa:=aa.trans (zK (λl=>(l.set k (Dj c i e)).flatMap BK.cs) C);replace ab:=ab.trans (zK (λl=>(l.set k (Dj c i e)).length) C);refine zw ?_;intro aJ aK ag;refine⟨(i+1,_,O ao,ap),zK (λz=>[zD .i64 z]) (wr1 Q aF aG).symm,⟨Q,aj,λ_=>⟨_,rfl⟩⟩,dec Q,ag.fit ?_⟩
      repeat' first|exact trivial|refine .inl ⟨⟨rfl,ab,rfl,rfl,rfl,aa⟩,?_⟩|refine .inl ⟨⟨rfl,rfl,zK (λn=>[Value.slice (O ao) n ap,Value.map (O ae),Value.map (O af)]) ab⟩,?_⟩|refine .inl ⟨⟨rfl,rfl,rfl⟩,?_⟩|refine .inr ?_
  .obtain rfl:i=E.length:=by have:=zf ai;omega
   rw[H]at ad;cases ad;refine zq ?_;intros;intro aX aY _ aQ;refine zq ?_;intros;intro aZ aC
   exact⟨_,rfl,(qiD (l:=ac.l) aQ.rd BK.cs rfl rfl (λ_ _=>rfl) λ_ _=>rfl).mono q5M aC⟩)
def Iq(l:F (F OpD))(k:Z):Z:=((l.take k).map List.length).sum
def qzS{l}{k}{x}(h:l[k]?=O x):Iq l (k+1)=Iq l k+x.length:=by
 obtain⟨q,u⟩:=zd.1 h;unfold Iq;rw[zY q,u,zBo,List.sum_append];simp
def q0S{l}(h:∀x∈l,x.length<=40)(k):Iq l k<=40*k:=by
 unfold Iq
 have:∀(r:F (F OpD)),(∀x∈r,x.length<=40)->(r.map List.length).sum<=40*r.length:=by
  intro r
  induction r with
  |nil=>intro _;simp
  |cons x r u=>
   intro h;have q:=h x (zAm ..);have B:=u λy w=>h y (zAl _ w);simp only[zBP,zDz,zBb];omega
 have q:=this (l.take k) λx A=>h x (zBD A);rw[zAN]at q;omega
def qtP{s}{k}(h:s.Af.length<=k):Iq s.Af k=Cf s:=by unfold Iq Cf;rw[zAw h]
def q4b(s:CB):zn:=Cf s*(23*Cf s+6*s.Af.length+60)
def IU{x}(h:-1000000000000<=x/\x<=1000000000000):zAf.wrap x=x:=qsE sa
def qKU{a b:zn}(ha:0<=a/\a<=1000)(hb:0<=b/\b<=100000):0<=a*b/\a*b<=100000000:=⟨Int.mul_nonneg ha.1 hb.1,zDI (Int.mul_le_mul ha.2 hb.2 hb.1 sb) sb⟩
def quS{a b a' q}(h:a=a')(k:b=q):[zD .i64 a,zD .i64 b]=[zD .i64 a',zD .i64 q]:=by rw[h,k]
def qMZ(g){cs}{s}(hs:qrC g cs s)(D:SmS s):OkV X0 14 [.agg ⟨cs⟩] g (.int .i64 (q4b s)):=by
 obtain⟨a,b,d,t,p,rfl,E,q,H⟩:=hs;obtain⟨_,_,_,L,⟨V,W,rfl,_⟩,⟨Y,aa,rfl,_⟩,⟨ab,ac,rfl,_⟩⟩:=E;cases L;obtain⟨ad,ae,rfl,M,P,af,Q⟩:=id q;obtain⟨op,ag,rfl,_⟩:=id H;obtain⟨_,ah,A⟩:=D;have B:=q0S A
 exact Ok.Ao hm noT 0 Ic.2 (args:=[.v (.agg ⟨_⟩)]) (by
  refine zq ?_;intros;refine⟨Z,λk=>[.v (.int .i64 (Iq s.Af k)),.v (.int .i64 k)],λk=>⟨g,_,_,_⟩,λk=>k<=s.Af.length,λk=>s.Af.length-k,qMA 0 rfl (zF _) rfl,?_⟩;rintro k ai;refine zq ?_;intros;refine⟨λu=>?_,λu=>?_⟩
  .have h:k<s.Af.length:=by have:=ze u;omega
   obtain⟨l,w⟩:=qBA h;obtain⟨aj,rfl,ak,al,⟨v,rfl,R⟩,T⟩:=Q k l w;obtain⟨an,ao,rfl,_⟩:=id R;refine zq ?_;intros;refine⟨_,rfl,⟨sa,sa⟩,zw ?_⟩;refine⟨_,T 0 _ rfl,zq ?_⟩;intros;have C:=B k;have ap:=A l (zl w);refine zw ?_;refine λaq ar U=>⟨k+1,quS (by rw[qzS w,IU sa];omega) (wr1 h M P).symm,h,dec h,?_⟩;exact U.fit sc
  .have au:=zf u;have av:k=s.Af.length:=sa
   have q:=qtP (s:=s) (k:=k) sa;have C:=B k;refine zq ?_;intros;intro aw ax;rw[q]at C⊢;have ay:=qKU (a:=23) (b:=Cf s) sb sa;have az:=qKU (a:=6) (b:=s.Af.length) sb sa;have aA:=qKU (a:=Cf s) (b:=23*Cf s+6*s.Af.length+60) sa sa;rw[IU (x:=23*(Cf s:zn)) sa,IU (x:=6*(s.Af.length:zn)) sa,IU (x:=23*(Cf s:zn)+6*s.Af.length) sa,IU (x:=23*(Cf s:zn)+6*s.Af.length+60) sa,IU sa]
   rfl)
def qaY{s}(h:qTA (qRD s)=zc):SnS s:=by
 have u:=Bh.1 h;have w:=u.size.2.1.2;refine⟨by simp[qRD]at w;omega,λr A=>?_⟩;obtain⟨_,B,q,_⟩:=u.rt (q1B s r) (zAb.2 ⟨r,A,rfl⟩);unfold qhG at q;simp only[zj,zx]at q;have C:=quY B;have D:=q.1.1.2;show r.Bp.size<=100/\r.path.size<=100;have E:r.path.size<=32:=by simpa[q1B]using D
 exact⟨by simpa[q1B]using C,zZ E sb⟩
def quL{w}(h:wdB w=I):SnW w:=λv q=>by
 obtain⟨i,u⟩:=zT.1 q;exact qaY (qkB h u).AJ
def qcM{K w}(h:wdB w=I)(L:8<=K)(q:w.Ab.length<=K/\w.Aa.length<=K/\w.Ai.length<=K):BgW K w:=by
 obtain⟨M,u,P,Q⟩:=qBC h;refine⟨⟨sa,q.1,q.2.1,sa,q.2.2⟩,λr B=>?_,λv C=>?_⟩
 .unfold qgD at u;simp only[zj,zAh,zx]at u;have:=u.1.1 r B;omega
 .obtain⟨i,D⟩:=zT.1 C;have A:=qkB h D;refine⟨by have:=A.Am;omega,λy E=>?_⟩;obtain⟨j,H⟩:=zT.1 E;obtain⟨_,_,_,_,R,_⟩:=A.ends H;unfold BgG;omega
def qEQ{w u}(h:Rst w u):w.Ab.length<=61:=by
 have:=qeP (n:=w.Ab.length) (l:=w.current::w.Ai.map (·.Ac)) λk A=>by
  by_cases q:w.current=k
  .rw[<-q];exact zAm ..
  .obtain⟨r,B,C⟩:=h.vr k A q;exact zAl _ (zAb.2 ⟨r,B,C⟩)
 rw[zBb,zAA]at this;have:=h.ln.1;omega
def qkX(g):rOp g [.int .i64 5,.string ⟨#[]⟩,.string ⟨#[]⟩,.string ⟨#[]⟩,.int .i64 0,.int .i64 0,.int .i64 0,.slice zc 0 0,.slice zc 0 0,.slice zc 0 0] opC:=
 ⟨_,_,_,rfl,⟨sv,z0,z0,z0⟩,q1E g⟩
def q2T(g){cs}{w}{C}(h:Rst w C)(D:rWo g cs w):Ok X0 46 [.agg ⟨cs⟩,.int .i64 0,.agg ⟨[.int .i64 5,.string ⟨#[]⟩,.string ⟨#[]⟩,.string ⟨#[]⟩,.int .i64 0,.int .i64 0,.int .i64 0,.slice zc 0 0,.slice zc 0 0,.slice zc 0 0]⟩,.slice zc 0 0] g λv g'=>∃q E n,v=.tuple #[.agg ⟨q⟩,.agg ⟨E⟩,.int .i64 n]/\rWo g' q (BG w):=by
 obtain⟨K,L,M,B,u⟩:=h.way
 obtain⟨K,rfl⟩:∃k,K=k+1:=by
  cases K with
  |zero=>
   obtain⟨_,e⟩:=B;rw[e]at u;cases u
  |succ k=>exact⟨k,rfl⟩
 have H:=q9a B u ⟨⟨zF _,zF _⟩,rfl⟩ (quL h.right) (qcM h.right sb (by have:=qEQ h;have:=h.ln;omega));refine(qgQ g D (qkX g) (qEN (given:=[]) g z0 ⟨zc,0,rfl,zG _,zF _,λ_=>⟨rfl,rfl⟩,λi x A=>by simp at A⟩ sb (qkX g)) H sa).mono ?_;rintro v g' _ ⟨q,e,A,_⟩;exact⟨q,_,_,e,A⟩
def qGN(g){cs}{w}{L}(h:Rst w L)(R:w.Al<=1000000)(u:rWo g cs w):Ok X0 17 [.agg ⟨cs⟩,.int .i64 3] g λv g'=>∃A,v=.tuple #[.agg ⟨A⟩,.int .i64 0]/\rWo g' A (GS w):=by
 have B:=u;obtain⟨_,_,_,_,_,_,_,_,_,_,rfl⟩:=qJA u;have C:=h.col sa;have M:=C.col (by rw[(qcB w).1,h.now];omega)
 exact Ok.Ao hm noT 0 G7.2 (args:=[.v (.agg ⟨_⟩),.v (.int .i64 3)]) (by
  refine zq ?_;intros;refine .inl ⟨_,(qlX _ B (quL h.right)).to (zK zBm h.right),zr ?_⟩;intros
  repeat'((first|refine qzD 5 ?_|refine cT sb ?_|refine cF sb ?_|fail)<;>first|(refine zr ?_;intros)|rfl)
  refine .inr ((q2T _ h B).mono λv T U q=>?_);obtain⟨V,_,_,rfl,D⟩:=q;obtain⟨_,_,_,_,_,_,_,_,_,_,rfl⟩:=qJA D;refine zr ?_;intros
  repeat'((first|refine qEE ?_|refine cT sb ?_|refine cF sb ?_|fail)<;>first|(refine zr ?_;intros)|rfl)
  refine .inr ((q2T _ C D).mono λv P W q=>?_);obtain⟨Y,_,_,rfl,E⟩:=q;obtain⟨_,_,_,_,_,_,_,_,_,_,rfl⟩:=qJA E;refine zr ?_;intros
  repeat'((first|refine qEE ?_|refine cT sb ?_|refine cF sb ?_|fail)<;>first|(refine zr ?_;intros)|rfl)
  refine .inr ((q2T _ M E).mono λv aa ab q=>?_);obtain⟨ac,_,_,rfl,H⟩:=q;obtain⟨_,_,_,_,_,_,_,_,_,_,rfl⟩:=qJA H;refine zr ?_;intros
  repeat'((first|refine qEE ?_|refine cT sb ?_|refine cF sb ?_|fail)<;>first|(refine zr ?_;intros)|rfl)
  intro P Q
  exact⟨_,rfl,qCA _ _ _ _ Q H⟩)
def Mk:F (Z×FnI):=[(81,Gc.1),(119,E5.1)]
def qyP:qqB X0 Mk:=qPA Gc.2 (qPA E5.2 noT)
def qLZ(g){v}{l}{p x}(hl:rSl 1 BS g v l)(B:0<=p)(u:l[p.toNat%l.length]?=O x):OkV X0 41 [.int .i64 p,v] g (.tuple #[.int .i64 x,.int .i64 0]):=by
 obtain⟨ab,cap,rfl,R,T,ac,C⟩:=id hl;have w:0<l.length:=by rcases zDs l.length with h|h;rw[zBd.1 h]at u;simp at u;exact h
 have D:∀(z:zn)(n:Z),z=(n:zn)-1->n<l.length->(zAf.wrap (z+1)).tmod l.length=n:=by
  intro z n U q;subst U;have hM:zAr<=9223372036854775807:=sb
  rw[wr (x:=(n:zn)-1+1) sg,show(n:zn)-1+1=n by omega,zB1 sa,zCs sa sa]
 have ad:p.tmod l.length=(p.toNat%l.length:Z):=by rw[zB1 B,Int.natCast_emod,zAK B]
 have ae:=zDB p.toNat w;obtain⟨E,H⟩:=qBA w;obtain⟨L,rfl,af,ag,⟨rfl,_⟩,V⟩:=C 0 E H;have W:=V 0 _ rfl
 exact Ok.Ao hm qyP 2 Gd.2 (args:=[.v (.int .i64 p),.v (.slice _ l.length cap)]) (by
  refine zq ?_;intros;refine⟨λh=>absurd (ze h) sa,λ_=>zq ?_⟩;intros;refine⟨λh=>absurd (ze h) sa,λ_=>zq ?_⟩;intros;refine⟨kF,zq ?_⟩;intros;refine⟨sa,zq ?_⟩;intros;refine zw ?_;rw[D (-1) 0 sb w];refine zw ?_;refine⟨L,rfl,⟨zAI _,sa⟩,zw ?_⟩;refine⟨_,W,zq ?_⟩;intros;refine⟨sa,zq ?_⟩;intros;refine⟨Z×zn,λ(n,y)=>[.v (.int .i64 y),.v (.int .i64 n)],λ(n,y)=>⟨g,[.blk 1 _ _ [.v (.int .i64 n)],_],_,_⟩,λ(n,y)=>l[n]?=O y/\n<=p.toNat%l.length,λ(n,_)=>p.toNat%l.length-n,qMA (0,E) rfl ⟨H,zF _⟩ rfl,?_⟩;rintro⟨n,y⟩ ⟨M,ah⟩;refine zq ?_;intros;refine⟨λq=>?_,λq=>?_⟩
  .have A:n+1<l.length:=by have:=ze q;omega
   obtain⟨P,Q⟩:=qBA A;obtain⟨_,e,ai,aj,⟨rfl,_⟩,Y⟩:=C (n+1) P Q;cases e;refine zq ?_;intros;refine⟨kF,zq ?_⟩;intros;refine⟨sa,zq ?_⟩;intros;refine zw ?_;rw[D n (n+1) sa A];refine⟨L,rfl,⟨sa,sa⟩,zw ?_⟩;refine⟨_,Y 0 _ rfl,zq ?_⟩;intros;refine λak al aa=>⟨(n+1,P),zK (λz=>[_,zD .i64 z]) (wr1 (Nat.lt_of_succ_lt A) R T).symm,⟨Q,by have:=ze q;omega⟩,by have:=ze q;show _-(n+1)<_-n;omega,?_⟩;exact aa.fit sc
  .have:n=p.toNat%l.length:=by have:=zf q;omega
   subst this;rw[u]at M;cases M;refine zq ?_;intros;intro an ao
   rfl)
def qiW(g){p}(q:0<=p):OkV X0 41 [.int .i64 p,.slice zc 0 0] g (.tuple #[.int .i64 0,.int .i64 5]):=
 Ok.Ao hm qyP 2 Gd.2 (args:=[.v (.int .i64 p),.v (.slice zc 0 0)]) (by
  refine zq ?_;intros;refine⟨λh=>absurd (ze h) sa,λ_=>zq ?_⟩;intros;refine⟨λ_=>zq ?_,λh=>nomatch h⟩;intros;intro u w
  rfl)
def qwT(g){cs}{s}(hs:qrC g cs s)(h:isB s=I)(M:SmS s)(u:qTA s.first=zc)(P:qbI (qjB s.first) (qZC s) s.Af.length)(Q:(qZC s).length<=1000000)(R:s.first.As.length<=1000000):Ok X0 39 [.agg ⟨cs⟩] g λv g'=>∃w,v=.tuple #[.agg ⟨w⟩,.int .i64 0]/\rWo g' w (EK (qjB s.first) (qZC s) s.Af.length):=by
 have A:=hs;obtain⟨a,b,d,t,p,rfl,B,T,U⟩:=hs;have C:=B;obtain⟨_,_,_,V,⟨ad,ae,rfl,_⟩,⟨af,ag,rfl,_⟩,⟨ah,ai,rfl,_⟩⟩:=B;cases V;obtain⟨aj,ak,rfl,_⟩:=id T;obtain⟨op,al,rfl,_⟩:=id U
 exact Ok.Ao hm noT 0 IP.2 (args:=[.v (.agg ⟨_⟩)]) (by
  refine zq ?_;intros;refine .inl ⟨_,qvT _ A,?_⟩;rw[h];refine zq ?_;intros;refine⟨λq=>(nomatch q),λ_=>zq ?_⟩;intros;refine .inr ((qdH _ C).mono λv an D h=>?_);obtain⟨x,y,z,e,i,rfl,E,_,⟨rfl,rfl,_,rfl,rfl⟩|⟨_,W,_⟩⟩:=qpE C D h;rotate_left
  .exact absurd u W
  obtain⟨_,_,ao,ap,_,_,H⟩:=qQG E;simp only[zAJ,zA6]at H;obtain⟨_,rfl,_⟩:=H;refine zq ?_;intros;refine⟨λq=>(nomatch q),λ_=>zq ?_⟩;intros;refine .inr ((quR _ (qhI _ _ _ _ D A) M).mono λv Y aa L=>?_);obtain⟨on,aq,rfl,_⟩:=id L;refine zq ?_;intros;refine .inr ((qpX _ (qYC _ _ _ _ aa E) L (by rw[qjB,u];simpa[qGC]using R) Q).mono λv ar au ab=>?_);obtain⟨av,rfl,hW⟩:=qsX ab P;obtain⟨_,_,_,_,_,_,_,_,_,_,rfl⟩:=qJA hW;refine zq ?_;intros;intro Y ac
  exact⟨_,rfl,qCA _ _ _ _ ac hW⟩)
end Go.Proofs.YtlmhpamhhgogaaaGreat
namespace Go.Proofs.YtlmhpamhhgogaaaGreat
open Go.Proofs.YtlmhpamhhgogaaaGreat.Sx
section
variable{H:Type}{enc:zAy×zg->H}{W:zp}
def Ks:Rds enc X0 W 29 (MJ 1 BS):=qXH (e:=3) se se sa (qHQ se)
end
end Go.Proofs.YtlmhpamhhgogaaaGreat
namespace Go.Proofs.YtlmhpamhhgogaaaGreat
open Go.Proofs.YtlmhpamhhgogaaaGreat.Sx Go.RowKit
abbrev qqK(s:BA):Prop:=s.size<=reachBytes
section
variable{H:Type}{enc:zAy×zg->H}{W:zp}
def q8a{P}{t}(q:P.underlying t=O .string):ID enc P W t λ_ cs s=>cs=[.string s]/\qqK s:=by
 intro fuel cs x h hs;cases fuel with
 |zero=>simp[tr,DataW.trod]at h
 |succ n=>
  unfold tr DataW.trod at h;rw[q]at h;split at h<;>simp_all;obtain⟨_,rfl⟩:=h;have:=hs _ (zA9.2 rfl:_∈[_]);rwa [zDm]at this
def N0:RP OpD:=λg cs o=>rOp g cs o/\qqK o.Bp/\qqK o.path
def qNb:ID enc X0 W 51 N0:=by
 intro fuel cs x A hs;obtain⟨u,h⟩:=qfU (l:=[(0,1,3),(1,1,9),(2,1,9),(3,1,9),(4,1,3),(5,1,3),(6,1,3),(7,3,26)]) se A hs;have u:cs.length=10:=u.trans se
 match cs,u with
 |[aj,ak,al,an,ao,ap,aq,ar,au,av],_=>
  have q:∀{H:Type}{enc:zAy×zg->H}{W:zp},Rds enc X0 W 3 BS:=qHQ se;have w:∀{H:Type}{enc:zAy×zg->H}{W:zp},ID enc X0 W 9 λ_ cs s=>cs=[.string s]/\qqK s:=q8a se;obtain⟨B,C,D⟩:=q.fld (tr1 (h 0 _ _ _ rfl));obtain⟨E,L,_⟩:=w.fld (h 1 _ _ _ rfl);obtain⟨M,P,Q⟩:=w.fld (h 2 _ _ _ rfl);obtain⟨R,T,U⟩:=w.fld (h 3 _ _ _ rfl);obtain⟨V,Y,aa⟩:=q.fld (tr1 (h 4 _ _ _ rfl));obtain⟨ab,ac,ad⟩:=q.fld (tr1 (h 5 _ _ _ rfl));obtain⟨ae,af,ag⟩:=q.fld (tr1 (h 6 _ _ _ rfl));obtain⟨ah,ai⟩:=FX.fld (tr1 (h 7 _ _ _ rfl));cases C;cases L;cases P;cases T;cases Y;cases ac;cases af;exact⟨⟨B,E,M,R,V,ab,ae,ah⟩,⟨_,_,_,rfl,⟨D,aa,ad,ag⟩,ai⟩,Q,U⟩
def qwY:ID enc X0 W 27 λg cs(l:F OpD)=>∃v,cs=[v]/\rSl 10 rOp g v l/\∀o∈l,qqK o.Bp/\qqK o.path:=by
 intro fuel cs x C hs;obtain⟨l,v,e,⟨D,cap,E,L,M,P,q⟩,_⟩:=qDQ (e:=51) (sz:=10) se se qNb fuel cs x C hs;refine⟨l,v,e,⟨D,cap,E,L,M,P,λi x Q=>?_⟩,λo R=>?_⟩
 .obtain⟨a,u,w,A,h,B⟩:=q i x Q;exact⟨a,u,w,A,h.1,B⟩
 .obtain⟨i,T⟩:=zT.1 R;obtain⟨a,u,w,A,h,B⟩:=q i o T;exact h.2
end
section
variable{H:Type}{enc:zAy×zg->H}{W:zp}
def qtR:ID enc X0 W 31 λg cs s=>qrC g cs s/\∀l∈s.Af,∀o∈l,qqK o.Bp/\qqK o.path:=by
 intro fuel cs x L hs;obtain⟨h,u⟩:=qfU (l:=[(0,3,26),(3,1,28),(4,1,29)]) se L hs;have h:cs.length=5:=h.trans se
 match cs,h with
 |[af,ag,ah,ai,aj],_=>
  obtain⟨M,Q⟩:=FX.fld (tr1 (u 0 _ _ _ rfl));obtain⟨R,v,e,⟨T,cap,U,V,Y,aa,A⟩,_⟩:=(qDQ (enc:=enc) (P:=X0) (W:=W) (t:=28) (e:=27) (sz:=1) se se qwY).fld (u 1 _ _ _ rfl);obtain⟨ab,ak,ac,q⟩:=Ks.fld (tr1 (u 2 _ _ _ rfl));cases e;cases ac;refine⟨⟨M,R,ab⟩,⟨_,_,_,_,_,rfl,Q,⟨T,cap,U,V,Y,aa,λi x ad=>?_⟩,q⟩,λl h=>?_⟩
  .obtain⟨a,B,C,q,⟨v,D,w,_⟩,E⟩:=A i x ad;exact⟨a,B,C,q,⟨v,D,w⟩,E⟩
  .obtain⟨i,ae⟩:=zT.1 h;obtain⟨a,B,C,q,⟨v,D,_,w⟩,E⟩:=A i l ae;exact w
end
end Go.Proofs.YtlmhpamhhgogaaaGreat
