/- hydranttop.TopRest answers true for every script: when its play has come to an end, three collects leave the world at rest just where no answer is open (Rows.TopRestSaid). Conditions: none beyond the statement's own. -/
import Derived.ProofKit
import Derived.ShutString
import Derived.ChangeOld
import Derived.Carry
import Derived.Test.YtlmhpamhhgogaaaGreatV
set_option linter.all false
set_option maxHeartbeats 16000000
set_option maxRecDepth 100000
open And renaming intro→zI
open Bool renaming false→zb,true→I
open Go renaming Value→zg,maxLen→zAr,TypeId→zAy,Addr→zAH,undef→zAX
open Go.Frame renaming enter→zAW
open Go.IntKind renaming i64→zAf,u64→zBO
open Go.Proofs.Tryz renaming prog→X0
open Go.Value renaming int→zD,bool→zBm
open List renaming range→zBf
open Option renaming some→O,none→zc
open _root_ renaming List→F,Nat→Z,Int→zn,Option→zs,Bool→zM
namespace Go.Proofs.YtlmhpamhhgogaaaGreat
open Go.Proofs.YtlmhpamhhgogaaaGreat.Sx Go.Duo Go.RowKit
def Mo:F (Z×FnI):=[(158,EX.1)]
def qvV:qqB X0 Mo:=qPA EX.2 noT
def qvR(g)(x y):OkV X0 128 [.int .i64 x,.int .i64 y] g (.bool (decide (x<y))):=
 Ok.Ao hm qvV 1 Hj.2 (args:=[.v (.int .i64 x),.v (.int .i64 y)]) (by
  refine zq ?_;intros;refine cF sd (zq ?_);intros;intro h q
  rfl)
def NM:F (Z×FnI):=[(44,CC.1),(85,BW.1),(122,BD.1),(86,Hk.1),(132,Gj.1)]
def qSY:qqB X0 NM:=qPA CC.2 (qPA BW.2 (qPA BD.2 (qPA Hk.2 (qPA Gj.2 noT))))
structure JH(g1 g:GW)(lo:Z)(l:F BK)(es:F (Ky×zg))(ts:F zn):Prop where
 no:∀t,BZ t l=[]->Bs (.i t) es=zc
 yes:∀t,BZ t l≠[]->∃b cap,Bs (.i t) es=O (.slice (O ⟨b,0,zc⟩) (BZ t l).length cap)/\AX g lo 55 13 (.slice (O ⟨b,0,zc⟩) (BZ t l).length cap) (BZ t l).length ((BZ t l).flatMap Ans.cs)
 J7:∀(t u:zn)(b n c b' m d:Z),t≠u->Bs (.i t) es=O (.slice (O ⟨b,0,zc⟩) n c)->Bs (.i u) es=O (.slice (O ⟨b',0,zc⟩) m d)->b≠b'
 new:∀(t:zn)(b n c:Z),Bs (.i t) es=O (.slice (O ⟨b,0,zc⟩) n c)->¬g1.g b
 tm:∀t,t∈ts<->BZ t l≠[]
 nd:ts.Nodup
def JH.zero(q g lo):JH q g lo [] [] []:=
 ⟨λ_ _=>rfl,λ_ h=>absurd rfl h,(λ_ _ _ _ _ _ _ _ _ h=>by cases h),(λ_ _ _ _ h=>by cases h),λt=>⟨λh=>(by cases h),λh=>absurd rfl h⟩,zBR⟩
def JH.step{H g g'}{lo}{l}{es L}(h:JH H g lo l es L)(c){b n cap}(ab:¬H.g b)(U:n=(BZ c.Ag (l++[c])).length)(hp:AX g' lo 55 13 (.slice (O ⟨b,0,zc⟩) n cap) n ((BZ c.Ag (l++[c])).flatMap Ans.cs))(V:∀(t:zn)(A m d:Z),t≠c.Ag->Bs (.i t) es=O (.slice (O ⟨A,0,zc⟩) m d)->(∀cs,AX g lo 55 13 (.slice (O ⟨A,0,zc⟩) m d) m cs->AX g' lo 55 13 (.slice (O ⟨A,0,zc⟩) m d) m cs/\A≠b)):JH H g' lo (l++[c]) (BT (.i c.Ag) (.slice (O ⟨b,0,zc⟩) n cap) es) (if BZ c.Ag l=[]then L++[c.Ag]else L):=by
 have D:∀t:zn,Bs (.i t) (BT (.i c.Ag) (.slice (O ⟨b,0,zc⟩) n cap) es)=if t=c.Ag then O (.slice (O ⟨b,0,zc⟩) n cap)else Bs (.i t) es:=λt=>by
  rw[qlD];by_cases q:t=c.Ag
  .rw[zk q,zk (Bx.2 (by rw[q]))]
  .rw[zh q,zh λz=>q (by have:=Bx.1 z;injection this)]
 have M:∀t:zn,t≠c.Ag->BZ t (l++[c])=BZ t l:=λt w=>by rw[qdG,zh λq=>w q.symm]
 have W:BZ c.Ag (l++[c])≠[]:=by rw[qdG,zk rfl];simp
 have Y:∀(t:zn)(A m d:Z),t≠c.Ag->Bs (.i t) es=O (.slice (O ⟨A,0,zc⟩) m d)->A≠b:=λt A m d w hm=>by
  have u:BZ t l≠[]:=λq=>by rw[h.no t q]at hm;cases hm
  obtain⟨b1,c1,E,P⟩:=h.yes t u;rw[hm]at E;cases E;exact(V t _ _ _ w hm _ P).2
 refine⟨λt w=>?_,λt w=>?_,λt Q b1 ac c1 af ag c2 R u C=>?_,λt b1 ac c1 u=>?_,λt=>?_,?_⟩
 .by_cases q:t=c.Ag
  .subst q;exact absurd w W
  .rw[D,zh q];rw[M t q]at w;exact h.no t w
 .by_cases q:t=c.Ag
  .subst q;refine⟨b,cap,?_,?_⟩
   .rw[D,zk rfl,<-U]
   .rw[<-U];exact hp
  .rw[M t q]at w⊢;obtain⟨b1,c1,E,P⟩:=h.yes t w;exact⟨b1,c1,by rw[D,zh q];exact E,(V t _ _ _ q E _ P).1⟩
 .rw[D]at u C;by_cases B:t=c.Ag
  .rw[zk B]at u;cases u;rw[zh λq=>R (B.trans q.symm)]at C;exact λq=>Y Q _ _ _ (λq=>R (B.trans q.symm)) C q.symm
  .rw[zh B]at u;by_cases aa:Q=c.Ag
   .rw[zk aa]at C;cases C;exact Y t _ _ _ B u
   .rw[zh aa]at C;exact h.J7 t Q _ _ _ _ _ _ R u C
 .rw[D]at u;by_cases B:t=c.Ag
  .rw[zk B]at u;cases u;exact ab
  .rw[zh B]at u;exact h.new t _ _ _ u
 .by_cases q:t=c.Ag
  .subst q;refine⟨λ_=>W,λ_=>?_⟩;split
   .exact zL.2 (.inr (zA9.2 rfl))
   .rename_i T;exact(h.tm _).2 T
  .rw[M t q,<-h.tm t];split
   .rw[zL,zA9];exact⟨λz=>z.resolve_right q,.inl⟩
   .exact zD1
 .split
  .rename_i T;rw[zBk];refine⟨h.nd,sd,λa ad b ae=>?_⟩;rw[zA9.1 ae];exact λe=>(h.tm _).1 ad (by rw[e];exact T)
  .exact h.nd
def qNY{n:Z}(h:n<=1000):zBO.wrap (n:zn)=(n:zn):=by
 rw[IntKind.wrap_u64];omega
def u8_in(x):0<=IntKind.u8.wrap x/\(IntKind.u8.wrap x).toNat<256:=by
 have e:IntKind.u8.wrap x=x%256:=by simp[IntKind.wrap,IntKind.bits,IntKind.signed]
 rw[e];omega
def qwa{s:F UInt8}{m:zn}{K:UInt8->Prop}(h:0<=m/\m.toNat<256)(q:s.length=256)(hk:∀c,K c):∃c,(0<=m/\s[m.toNat]?=O c)/\K c:=
 ⟨_,⟨h.1,zAe sa⟩,hk _⟩
structure SOp where
 i:Z
 g:GW
 es:F (Ky×zg)
 ts:F zn
 oT:zs zAH
 kT:Z
structure SOq where
 j:Z
 n:Z
 g:GW
 oO:zs zAH
 cO:Z
 cs:F zg
structure OC(gx:GW)(L:F BK)(l:F zn)(z:SOq):Prop where
 j:z.j<=l.length
 g:gx<=z.g
 n:z.n<=z.j*10000
 e:z.n=0<->∀t∈l.take z.j,(opL (BZ t L) (BZ t L).length).length=0
structure OD(g1:GW)(lo:Z)(L:F BK)(z:SOp):Prop where
 i:z.i<=L.length
 g:g1<=z.g
 gv:JH g1 z.g lo (L.take z.i) z.es z.ts
 row:Dw z.oT z.ts.length
def qhW(g){v}{E}{h}(hl:rSl 23 rEv g v E)(hE:E.length<=10000)(aT:bkN E E.length=O h)(bb:∀c∈h.l,0<=c.to)(bc:∀c∈h.l,0<=c.Ag/\c.Ag<8)(bd:∀c∈h.l,c.answer.ok):Ok X0 16 [v] g λv' _=>∃be n co,v'=.tuple #[.slice be n co,.bool I]/\(n=0<->∀t:zn,opA ((fil t h.l).map (·.answer))=[]):=by
 have bf:=hl;obtain⟨bg,cap,rfl,_⟩:=hl;have bU:=(qHV aT).2
 exact Ok.Ao hm qSY 5 IN.2 (args:=[.v (.slice bg E.length cap)]) (by
  refine zq ?_;intros;refine .inr ((q0b _ bf sa aT).mono λv aU bW ay=>?_);obtain⟨bX,rfl,bh⟩:=ay;obtain⟨bY,bZ,rfl,c1,c2,c3,bi⟩:=id bh;refine zq ?_;intros;refine⟨λq=>(nomatch q),λ_=>zq ?_⟩;intros;rename_i ah;refine zw ?_;refine⟨SOp,λz=>[.row 20 z.oT z.ts.length z.kT,.v (.bool I),.v (.int .i64 z.i)],λz=>⟨z.g,[.row 20 z.oT z.ts.length z.kT 3 1 (z.ts.map (zD .i64)),.mp 0 ah (.int .i64) z.es],40,g.w.heap.size⟩,OD aU g.w.heap.size h.l,λz=>h.l.length-z.i,λP Q A=>⟨⟨0,aU,[],[],zc,0⟩,rfl,⟨zF _,GW.refl _,JH.zero _ _ _,λq=>absurd q (Nat.lt_irrefl 0)⟩,(A.Cx (nx':=40) 20 3 1).fit sc⟩,?_⟩;rintro⟨i,ai,es,u,ap,Y⟩ ⟨b0,aq,C,az⟩;dsimp only at*
  have b2:u.length<=8:=qKN C.nd λt D=>by
   obtain⟨c,R,rfl⟩:=qTX ((C.tm t).1 D);exact bc c (zBD R)
  refine zq ?_;intros;refine⟨λaA=>?_,λaA=>?_⟩
  .have T:i<h.l.length:=by have:=ze aA;omega
   obtain⟨c,R⟩:=qBA T;have ar:=zl R;obtain⟨a,rfl,b3,b4,rfl,bj⟩:=bi i c R
   have aV:h.l.take (i+1)=h.l.take i++[c]:=by
    obtain⟨aB,aC⟩:=zd.1 R;rw[zY aB,aC]
   refine zq ?_;intros;refine⟨a,rfl,⟨sa,sa⟩,zw ?_⟩;refine⟨_,⟨rfl,bj.mono aq⟩,zq ?_⟩;intros;refine⟨λq=>absurd (ze q) (by have:=bb c ar;omega),λ_=>zq ?_⟩;intros;by_cases H:BZ c.Ag (h.l.take i)=[]
   .have aW:=C.no _ H;refine zw ?_;refine⟨zc,aW,zq ?_⟩;intros;refine⟨λ_=>zq ?_,λq=>nomatch q⟩;intros;refine⟨⟨by unfold zAr;omega,sa⟩,zw ?_⟩;refine Dw.get (zDM _) λaa aX=>zq ?_;intros;refine⟨zc,aW,zq ?_⟩;intros;refine⟨⟨by unfold zAr;omega,sa⟩,zw ?_⟩;refine Dw.get (zDM _) λbl aj=>zq ?_;intros;intro P Q A;obtain⟨ab,ak,ac,al,aD⟩:=A.Cw;obtain⟨b,rfl⟩:=AX.addr al;have an:=C.step c (g':=ab) (b:=b) (n:=1) (cap:=aj) (λq=>ac _ rfl (aq.2 _ q).1) (by rw[qdG,zk rfl,H];rfl) (by rw[qdG,zk rfl,H];simpa using al) (λt bm m d _ _ cs au=>⟨AX.mono au ak,λe=>ac _ rfl (e▸AX.J6 au)⟩);rw[zk H]at an;refine⟨⟨i+1,ab,BT (.i c.Ag) (.slice (O ⟨b,0,zc⟩) 1 aj) es,u++[c.Ag],O aa,aX⟩,?_,⟨T,GW.trans aq ak,by rw[aV];exact an,λ_=>⟨_,rfl⟩⟩,dec T,aD.fit ?_⟩
    .show[Value.slice (O aa) (u++[c.Ag]).length aX,zBm I,zD .i64 ((i+1:Z):zn)]=_;rw[wr1 T c1 c2,zAq];rfl
    .have bn:u.length+1=(u++[c.Ag]).length:=sd
     have bo:u.map (zD .i64)++[.int .i64 c.Ag]=(u++[c.Ag]).map (zD .i64):=sd
     repeat' first|exact trivial|refine .inl ⟨⟨rfl,bn,rfl,rfl,rfl,bo⟩,?_⟩|refine .inl ⟨⟨rfl,rfl,rfl⟩,?_⟩|refine .inr ?_
   .obtain⟨b,b5,U,bp⟩:=C.yes _ H;have b6:=zCU.2 H;have aY:=qPR c.Ag (h.l.take i);rw[zAN]at aY;refine zw ?_;refine⟨_,U,zq ?_⟩;intros;refine⟨λq=>absurd (beq_iff_eq.1 q) sa,λ_=>zq ?_⟩;intros;refine⟨_,U,zq ?_⟩;intros;obtain⟨bq,⟨aE,_⟩|⟨aF,b7,rest,aE,⟨br,bt⟩,bu,bv,ar,bw⟩,bx⟩:=id bp
    .cases aE
    cases aE;refine zw ?_;refine .inr (.inl ⟨b,_,rest,⟨rfl,br,bt,bu,bq,bx,bv,ar,bw,by unfold zAr;omega,sa⟩,λb8 aZ=>zw ?_⟩);refine Dw.get (zDM _) λbl aj=>zq ?_;intros;intro P Q A;obtain⟨ab,ak,ac,al,aD⟩:=A.Cw;obtain⟨aF,rfl⟩:=AX.addr al;have a0:=aZ.le aq (C.new _ _ _ _ U)
    have an:=C.step c (g':=ab) (b:=aF) (n:=(BZ c.Ag (h.l.take i)).length+1) (cap:=aj) (λq=>ac _ rfl (a0.2 _ q).1) (by rw[qdG,zk rfl];simp) (by rw[qdG,zk rfl,zDo];simpa using al) (λt bm m d D hm cs au=>by
     have bz:=C.J7 t c.Ag _ _ _ _ _ _ D hm U;have a1:=AX.Lj au aZ bz
     exact⟨AX.mono a1 ak,λe=>ac _ rfl (e▸AX.J6 a1)⟩)
    rw[zh H]at an;refine⟨⟨i+1,ab,BT (.i c.Ag) (.slice (O ⟨aF,0,zc⟩) ((BZ c.Ag (h.l.take i)).length+1) aj) es,u,ap,Y⟩,?_,⟨T,GW.trans a0 ak,by rw[aV];exact an,az⟩,dec T,aD.fit ?_⟩
    .show[Value.slice ap u.length Y,zBm I,zD .i64 ((i+1:Z):zn)]=_;rw[wr1 T c1 c2];rfl
    .repeat' first|exact trivial|refine .inl ⟨⟨rfl,rfl,rfl,rfl,rfl,rfl⟩,?_⟩|refine .inl ⟨⟨rfl,rfl,rfl⟩,?_⟩|refine .inr ?_
  .have bA:i=h.l.length:=by have:=zf aA;omega
   rw[bA,zAB]at C;have aG:zBO.wrap (u.length:zn)=(u.length:zn):=qNY sa;refine zq ?_;intros;refine⟨λq=>absurd (ze q) (by rw[aG];omega),λ_=>zq ?_⟩;intros;refine⟨λq=>absurd (ze q) (by rw[aG];omega),λ_=>zq ?_⟩;intros;refine⟨λq=>absurd (ze q) (by rw[aG];omega),λ_=>zq ?_⟩;intros;refine qwa (u8_in _) sy λb9=>zq ?_;intros;refine qzD 2 (zq ?_);intros;refine cT (zC (by rw[IU sa];omega)) (zq ?_);intros;refine⟨Z×F zn,λ(k,_)=>[.v (.int .i64 k)],λ(_,l)=>⟨ai,[.row 20 ap u.length Y 3 1 (l.map (zD .i64)),.mp 0 ah (.int .i64) es],40,_⟩,λ(k,l)=>1<=k/\l.length=u.length/\∀x,x∈l<->x∈u,λ(k,_)=>u.length-k,qMA (1,u) rfl ⟨zG _,rfl,λ_=>zD1⟩ rfl,?_⟩;rintro⟨k,l⟩ ⟨V,M,L⟩;replace V:1<=k:=V;replace M:l.length=u.length:=M;replace L:∀x,x∈l<->x∈u:=L;refine zq ?_;intros;refine⟨λad=>?_,λad=>?_⟩
   .have a2:k<u.length:=by have:=ze ad;omega
    obtain⟨aa,rfl⟩:=az sa;refine zq ?_;intros;refine⟨Z×F zn,λ(j,_)=>[.v (.int .i64 j)],λ(_,l)=>⟨ai,[.row 20 (O aa) u.length Y 3 1 (l.map (zD .i64)),.mp 0 ah (.int .i64) es],40,_⟩,λ(j,l)=>j<=k/\l.length=u.length/\∀x,x∈l<->x∈u,λ(j,_)=>j,qMA (k,l) rfl ⟨zG _,M,L⟩ rfl,?_⟩;clear M L;rintro⟨j,l⟩ ⟨aH,M,L⟩;replace aH:j<=k:=aH;replace M:l.length=u.length:=M;replace L:∀x,x∈l<->x∈u:=L;refine zq ?_;intros;refine⟨λa3=>?_,λa3=>?_⟩
    .obtain⟨B,rfl⟩:∃B,j=B+1:=⟨j-1,by have:=ze a3;omega⟩;obtain⟨av,aI⟩:=qBA (show B<l.length by omega);obtain⟨aw,aJ⟩:=qBA (show B+1<l.length by omega);refine zq ?_;intros;refine⟨⟨sa,sa⟩,zq ?_⟩;intros;refine⟨.int .i64 aw,by simp[aJ],zq ?_⟩;intros;rw[qXN (k:=B) sa];refine zw ?_;refine⟨⟨sa,sa⟩,zq ?_⟩;intros;refine⟨.int .i64 av,by simp[aI],zq ?_⟩;intros;refine .inl ⟨_,qvR _ _ _,zq ?_⟩;intros;refine⟨λbB=>?_,λbB=>?_⟩
     .refine zq ?_;intros;rw[qXN (k:=B) sa];refine zw ?_;refine⟨⟨sa,sa⟩,zq ?_⟩;intros;refine⟨.int .i64 av,by simp[aI],zq ?_⟩;intros;refine⟨⟨sa,sa⟩,zq ?_⟩;intros;refine⟨.int .i64 aw,by simp[aJ],zq ?_⟩;intros;refine⟨⟨sa,sa⟩,zq ?_⟩;intros;refine qpC sy (qZT (j:=B+1) av sa) ⟨by rw[zAA];show(B+1)*1+1<=_;omega,sb⟩ (zq ?_);intros;rw[qXN (k:=B) sa];refine zw ?_;refine⟨⟨sa,sa⟩,zq ?_⟩;intros;refine qpC sy (qZT (j:=B) aw (by rw[zX];omega)) ⟨by rw[zAA,zX];show B*1+1<=_;omega,sb⟩ (zq ?_);intros;intro P Q A;exact⟨(B,swp l B av aw),zK (λz=>[zD .i64 z]) (qXN sa).symm,⟨sa,by rw[qWY];exact M,λx=>(qVY aI aJ x).trans (L x)⟩,zBI B,A⟩
     .refine zq ?_;intros;intro P Q A;refine⟨(k+1,l),zK (λz=>[zD .i64 z]) (wrN sa),⟨Nat.le_succ_of_le V,M,L⟩,dec a2,A⟩
    .refine zq ?_;intros;intro P Q A;refine⟨(k+1,l),zK (λz=>[zD .i64 z]) (wrN sa),⟨Nat.le_succ_of_le V,M,L⟩,dec a2,A⟩
   .have bC:∀t∈l,∃b cap,Bs (.i t) es=O (.slice (O ⟨b,0,zc⟩) (BZ t h.l).length cap)/\rSl 13 F7 ai (.slice (O ⟨b,0,zc⟩) (BZ t h.l).length cap) (BZ t h.l):=λt D=>by
     obtain⟨b,cap,aK,aL⟩:=C.yes t ((C.tm t).1 ((L t).1 D));refine⟨b,cap,aK,qiD (l:=BZ t h.l) aL.rd Ans.cs rfl rfl (λx _=>rfl) λx bD=>⟨rfl,?_⟩⟩;obtain⟨c,R,rfl⟩:=qUX bD;exact bd c R
    refine zq ?_;intros;refine⟨SOq,λz=>[.row 21 z.oO z.n z.cO,.v (.int .i64 z.j)],λz=>⟨z.g,[.row 21 z.oO z.n z.cO 55 13 z.cs,.row 20 ap u.length Y 3 1 (l.map (zD .i64)),.mp 0 ah (.int .i64) es],60,g.w.heap.size⟩,OC ai h.l l,λz=>l.length-z.j,λP Q A=>⟨⟨0,0,ai,zc,0,[]⟩,rfl,⟨zF _,GW.refl _,zG _,⟨λ_ t D=>(by cases D),λ_=>rfl⟩⟩,(A.Cx (nx':=60) 21 55 13).fit sc⟩,?_⟩;rintro⟨j,n,bE,bF,cO,cs⟩ ⟨aH,aM,ca,aN⟩;dsimp only at*;refine zq ?_;intros;refine⟨λaO=>?_,λaO=>?_⟩
    .have aP:j<l.length:=by have:=ze aO;omega
     obtain⟨t,D⟩:=qBA aP;have bG:=zl D;obtain⟨b,cap,U,a4⟩:=bC t bG;obtain⟨aa,rfl⟩:=az sa;have aY:=qPR t h.l;refine zq ?_;intros;refine⟨⟨sa,sa⟩,zq ?_⟩;intros;refine⟨.int .i64 t,by simp[D],zq ?_⟩;intros;refine⟨_,U,zq ?_⟩;intros;refine .inr ((q6T (given:=BZ t h.l) bE (a4.mono qYE aM) sa).mono λv aQ a5 ay=>?_);obtain⟨cb,cc,out,rfl,a6,bH,aR,_⟩:=ay;obtain⟨_,_,_,bI,ac,ar,cd,aR⟩:=aR;cases bI;obtain⟨_,_,bJ,ce,cf,_,bK⟩:=id (a4.mono qYE (GW.trans aM a5));cases bJ;have cg:out.length<=10000:=zZ (by rw[a6];exact qoT _ _) sa;refine zq ?_;intros;refine⟨Z×zs zAH×Z×F zg,λ(k,ae,af,_)=>[.row 22 ae (n+k) af,.v (.int .i64 k)],λ(k,ae,af,ax)=>⟨aQ,[.row 22 ae (n+k) af 55 13 ax,.row 20 (O aa) u.length Y 3 1 (l.map (zD .i64)),.mp 0 ah (.int .i64) es],80,g.w.heap.size⟩,λ(k,_,_,_)=>k<=out.length,λ(k,_,_,_)=>out.length-k,λP Q A=>⟨(0,bF,cO,cs),rfl,zF _,A.fit sc⟩,?_⟩;rintro⟨k,ae,af,ax⟩ V;replace V:k<=out.length:=V;refine zq ?_;intros;refine⟨λad=>?_,λad=>?_⟩
     .have ao:k<out.length:=by have:=ze ad;omega
      obtain⟨m,hm⟩:=qBA ao;have bL:=bH m (zl hm);obtain⟨a7,H⟩:=qBA bL;obtain⟨a8,rfl,bM⟩:=aR k (.int .i64 m) (by simp[nV,hm]);obtain⟨ch,bN,ci,cj,⟨rfl,_⟩,bO⟩:=bK m a7 H;cases bN;have bP:Rc aQ (a8.add (k*1)) (.int .i64 m):=by rw[zCb];exact bM
      refine zq ?_;intros;refine⟨a8,rfl,⟨sa,sa⟩,zw ?_⟩;refine⟨_,bP,zq ?_⟩;intros;refine⟨_,U,zq ?_⟩;intros;refine⟨_,rfl,⟨sa,sa⟩,zw ?_⟩;refine⟨_,⟨rfl,bO⟩,zq ?_⟩;intros;refine⟨⟨by unfold zAr;omega,sa⟩,zq ?_⟩;intros;rename_i a9 ba;refine zw ?_;intro P Q A;exact⟨(k+1,a9,ba,ax++a7.cs),zK (λz=>[Value.slice a9 (n+(k+1)) ba,zD .i64 z]) (wrN sa),ao,dec ao,A.fit (by simp[Az,Res.eqv,qDA,Ae,zCS])⟩
     .have ao:k=out.length:=by have:=zf ad;omega
      have bQ:l.take (j+1)=l.take j++[t]:=by
       obtain⟨aB,aC⟩:=zd.1 D;rw[zY aB,aC]
      have bR:n+k=0<->∀ag∈l.take (j+1),(opL (BZ ag h.l) (BZ ag h.l).length).length=0:=by
       rw[bQ,ao,a6,Nat.add_eq_zero_iff,aN];constructor
       .rintro⟨aK,aL⟩ ag W;rcases zL.1 W with W|W
        .exact aK ag W
        .rw[zA9.1 W];exact aL
       .exact λq=>⟨λag W=>q ag (zL.2 (.inl W)),q t (zL.2 (.inr (zA9.2 rfl)))⟩
      refine zq ?_;intros;intro P Q A;exact⟨⟨j+1,n+k,aQ,ae,af,ax⟩,zK (λz=>[Value.slice ae (n+k) af,zD .i64 z]) (wrN sa),⟨aP,GW.trans aM a5,by show n+k<=(j+1)*10000;omega,bR⟩,dec aP,A.fit sc⟩
    .have bT:j=l.length:=by have:=zf aO;omega
     rw[bT,zAB]at aN;refine zq ?_;intros;intro ck cm cn cp;refine zq ?_;intros;intro ab cq;refine⟨_,_,_,rfl,aN.trans ⟨λq t=>?_,λq t D=>JM.1 (q t)⟩⟩;show opA (BZ t h.l)=[];rw[JM];by_cases H:BZ t h.l=[]
     .rw[H];rfl
     .exact q t ((L t).2 ((C.tm t).2 H)))
structure Gz(s:CB):Prop where
 is:isB s=I
 z:qTA s.first=zc
 t:1<=s.Af.length/\s.Af.length<=8
 p:s.Ax.length<=4000/\∀p∈s.Ax,0<=p
 k:∀l∈s.Af,∀o∈l,1<=o.kind/\o.kind<=6
 n:Cf s<=8
 sm:∀l∈s.Af,∀o∈l,Sm o.Bp/\Sm o.path
def Gz.of{s}(h:isB s=I)(q:Cf s<=8)(hs:∀l∈s.Af,∀o∈l,Sm o.Bp/\Sm o.path):Gz s:=by
 have u:=h;unfold isB at h;simp only[zj,zAh,zx]at h;obtain⟨⟨⟨⟨⟨w,A⟩,B⟩,C⟩,D⟩,E⟩:=h
 exact⟨u,DU.1 w,⟨A,B⟩,⟨C,E⟩,λl H o L=>by
  have:=(D l H).2 o L;unfold qTF at this
  simpa using this,q,hs⟩
def Gz.sz{s}(h:Gz s):SmS s:=by
 have w:=(Bh.1 h.z).size.1.2;refine⟨by show s.first.Aa.length<=50;omega,by have:=h.t.2;omega,λl u=>?_⟩;have q:=h.is;unfold isB at q;simp only[zj,zAh,zx]at q;have:=(q.1.2 l u).1;omega
def Gz.LQ{s}(h:Gz s):∀(k:Z)p t,s.Ax[k]?=O p->plT (plX (plI s) (s.Ax.take k)).1.ths p=O t->JI (plX (plI s) (s.Ax.take k)).1.w (((plX (plI s) (s.Ax.take k)).1.th t).Br t):=λk p t H L=>by
 have T:=(zd.1 H).1;have U:=h.p.1;have q:=(qsY h.z h.t h.k).at (l:=s.Ax) (by have:=h.n;omega) sa (k:=k) sa;obtain⟨V,M⟩:=qJQ h.z h.t h.k h.n sa k sa;obtain⟨x,u,P⟩:=qaE L;have Q:(plX (plI s) (s.Ax.take k)).1.th t=x:=by unfold PlW.th;rw[u];rfl
 rw[Q];have A:x.ops∈s.Af:=by rw[<-M];exact zAb.2 ⟨x,zl u,rfl⟩
 obtain⟨o,B⟩:=qBA P;have C:x.op=o:=by unfold ThD.op;rw[B];rfl
 have D:=zl B
 have E:(x.Br t).op=o:=by
  unfold ThD.Br;cases R:x.on with
  |true=>exact((q.inv.thr t x u).on R).2.1.trans C
  |false=>
   show(qmB _ _ _).op=o;rw[qwW,C]
 refine⟨quL q.inv.right,qcM q.inv.right sb ⟨?_,?_,?_⟩,?_,?_⟩
 .have:=q.inv.bd.vl;omega
 .omega
 .have:=q.inv.bd.lb;omega
 .unfold SmO;rw[E];exact h.sm _ A o D
 .rw[E];exact h.k _ A o D
def qdQ(g){cs}{s}(h:Gz s)(hs:qrC g cs s):Ok X0 15 [.agg ⟨cs⟩] g λv g'=>∃q u,v=.tuple #[q,.agg ⟨u⟩,.int .i64 0]/\rWo g' u (plX (plI s) s.Ax).1.w/\rSl 23 rEv g' q (plX (plI s) s.Ax).2/\∀x∈(plX (plI s) s.Ax).1.ths,∀A∈x.given,A.ok:=
 (qKZ g hs h.sz h.is h.z (qLN h.z h.t) (by have:=(qtJ h.z).1;have:=h.n;omega) (by have:=(Bh.1 h.z).size.2.1.2;omega) (by have:=h.p.1;omega) h.p.2 h.LQ).mono λv g' E⟨q,u,B,C,D⟩=>⟨q,u,B,by rw[q6L];exact C,D⟩
def qHN(g){v}{s}{w C B}(h:Gz s)(q:PlZ s w (plX (plI s) s.Ax).2 C B)(D:∀x∈(plX (plI s) s.Ax).1.ths,∀A∈x.given,A.ok)(hl:rSl 23 rEv g v (plX (plI s) s.Ax).2):Ok X0 16 [v] g λv' _=>∃u n co,v'=.tuple #[.slice u n co,.bool I]/\(n=0<->C=[]):=
 (qhW g hl (by have:=qeT (plI s) s.Ax;have:=h.p.1;omega) q.bk q.to q.thr λc E=>by
  obtain⟨x,H,L⟩:=q.giv c E
  exact D x H _ L).mono λv Q _⟨u,n,co,M,P⟩=>⟨u,n,co,M,P.trans q.opn⟩
def Gz.z0{s}(h:Gz s)(q:CP (plX (plI s) s.Ax).1.ths=[]):∃u B,PlZ s (plX (plI s) s.Ax).1.w (plX (plI s) s.Ax).2 u B:=
 MR h.z h.t h.k h.n (by have:=h.p.1;omega) q
def HU:BB:=⟨[sIn],[⟨sIn,⟨#[42]⟩,sSl,⟨#[97]⟩⟩],[⟨⟨#[97]⟩,1,1,[I,I]⟩]⟩
def opH:OpD:={op0 with kind:=1,listen:=sIn,Bp:=sX,path:=sSl}
def opF:OpD:={op0 with kind:=2}
def opW:OpD:={op0 with kind:=3,Ap:=HU}
def FI:CB:=⟨HU,[[opH,opF],[opW]],(zBf 40).map Int.ofNat⟩
def qMc(w:Wd)(m:Aj):zM:=decide ((∀v∈w.Ab,v.AO.AN.length<=1000000/\∀r∈v.AO.AN,r.Bp.size<=100/\r.path.size<=100)/\
 ((w.pins.length<=1000000/\w.Ab.length<=1000000/\w.Aa.length<=1000000/\w.counts.length<=1000000/\w.Ai.length<=1000000)/\(∀r∈w.counts,r.length<=1000000)/\∀v∈w.Ab,v.Am.length<=1000000/\∀y∈v.Am,y.ends.length<=1000000)/\
 (m.op.Bp.size<=140737488355328/\m.op.path.size<=140737488355328)/\1<=m.op.kind/\m.op.kind<=6)
def qxZ{w}{m:Aj}(h:qMc w m=I):JI w m:=by
 obtain⟨a,b,c,d⟩:=ze h;exact⟨a,b,c,d⟩
def OA{n}{p}(h:(zBf n).all p=I){k}(hk:k<n):p k=I:=zAh.1 h k (zB4.2 hk)
def q6a:isB FI=I:=by
 unfold isB;rw[q3Q];kernel_rfl
abbrev eN(t o a c v x:zn)(b p:zM):Ev:=⟨t,o,a,c,v,zb,x,b,p,zb,BO⟩
abbrev eD(t o a c v x:zn)(A:Ans):Ev:=⟨t,o,a,c,v,zb,x,zb,zb,I,A⟩
abbrev an0:Ans:=⟨1,1,0,0,0,0,0,c60⟩
abbrev an1:Ans:=⟨8,1,0,0,0,0,0,c60⟩
abbrev an2:Ans:=⟨6,1,0,0,0,0,0,c60⟩
def evS:F Ev:=[eN 0 0 1 1 (-1) 0 I zb,eN 1 0 6 3 (-1) 1 I I,eN 0 0 2 2 (-1) 1 zb zb,eN 1 0 1 1 (-1) 0 zb zb,eN 0 0 1 1 (-1) 0 zb zb,eD 1 0 2 11 (-1) 0 an1,eN 0 0 1 3 (-1) 1 zb I,eN 0 0 3 5 (-1) 1 zb zb,eN 0 0 1 4 (-1) 0 zb zb,eN 0 0 3 6 1 0 zb zb,eN 0 0 1 8 1 0 zb zb,
 eN 0 0 1 9 1 (-1) zb zb,eN 0 0 4 8 1 0 zb zb,eN 0 0 3 7 1 1 zb zb,eN 0 0 3 10 (-1) 1 zb zb,eN 0 0 3 10 (-1) 0 zb zb,eD 0 0 2 2 (-1) 0 an0,eN 0 1 1 8 1 (-1) I zb,eN 0 1 2 9 1 (-1) zb zb,eN 0 1 4 8 1 0 zb I,eN 0 1 3 7 1 0 zb zb,eD 0 1 3 5 (-1) 0 an2]
def Iz:F BK:=[⟨0,0,0,6,16,an0⟩,⟨1,0,1,1,5,an1⟩,⟨0,1,17,19,21,an2⟩]
noncomputable def goC(s:PlW)(t:Z):PlW:=⟨(JZ s.w ((s.th t).Br t)).1,s.ths.set t ((s.th t).An (It s.w ((s.th t).Br t)).1)⟩
noncomputable def evC(s:PlW)(t:Z):Ev:={(K1 s.w ((s.th t).Br t)).1 with op:=(s.th t).done,EP:=!(s.th t).on}
noncomputable def plC(z:PlW×F Ev)(p:zn):PlW×F Ev:=match plT z.1.ths p with
 |some t=>(goC z.1 t,z.2++[evC z.1 t])
 |none=>z
def MT:plS=plC:=by
 funext z p
 have h:∀s t,PlW.go s t=goC s t:=λs t=>by
  unfold PlW.go goC;rw[<-(JZ _ _).2,<-(It _ _).2]
 have q:∀s t,PlW.ev s t=evC s t:=λs t=>by
  unfold PlW.ev evC;rw[<-(K1 _ _).2]
 unfold plS plC;cases plT z.1.ths p with
 |some t=>show(PlW.go _ _,_++[PlW.ev _ _])=_;rw[h,q]
 |none=>rfl
def Lx:(plX (plI FI) FI.Ax).2=evS/\CP (plX (plI FI) FI.Ax).1.ths=[]:=by
 unfold plX;rw[MT];exact⟨se,se⟩
def NA:∃bZ,bkN evS evS.length=O bZ/\bZ.l=Iz:=by
 have h:(bkN evS evS.length).map (·.l)=O Iz:=se
 obtain⟨bZ,h1,h2⟩:=zU.1 h;exact⟨bZ,h1,h2⟩
def Jn:Gz FI:=Gz.of q6a sb λl q o h=>by
 rcases(by simpa[FI]using q:l=[opH,opF]\/l=[opW])with rfl|rfl
 .rcases(by simpa using h:o=opH\/o=opF)with rfl|rfl<;>decide
 .obtain rfl:o=opW:=by simpa using h
  decide
def MV{w aO B}(h:PlZ FI w (plX (plI FI) FI.Ax).2 aO B):aO=[]:=by
 have hb:=h.bk;rw[Lx.1]at hb;obtain⟨bZ,h1,h2⟩:=NA;rw[h1]at hb;cases hb;refine h.opn.1 λt=>?_;rw[h2];by_cases h0:t=0
 .subst h0;kernel_rfl
 .by_cases h1:t=1
  .subst h1;kernel_rfl
  .rw[qjU λz hz q=>?_]
   .rfl
   .subst q;simp[Iz]at hz;rcases hz with rfl|rfl|rfl
    .exact h0 rfl
    .exact h1 rfl
    .exact h0 rfl
def qxT(q:GW){b:Z}{oa}{cap:Z}(hb:Rc q ⟨b,0,zc⟩ (.slice (O oa) 3 cap))(hl:∀(i:Z)c,Iz[i]?=O c->Rcs q (oa.add (i*18)) c.cs){i k:zn}{u w}(B:(0<=i/\i<(3:Z))/\Iz[i.toNat]?=O u)(hk:(0<=k/\k<(3:Z))/\Iz[k.toNat]?=O w):OkV X0 104 [.int .i64 i,.int .i64 k,.pointer (O ⟨b,0,zc⟩)] q (.int .i64 (if u.BL<w.BL then -1 else if w.BL<u.BL then 1 else 0)):=
 Ok.Ao hm noT 0 GK.2 (args:=[.v (.int .i64 i),.v (.int .i64 k),.v (.pointer (O ⟨b,0,zc⟩))]) (by
  refine zq ?_;intros;refine⟨_,hb,zq ?_⟩;intros;refine⟨oa,rfl,B.1,zq ?_⟩;intros;refine⟨_,hl _ _ B.2 3 _ rfl,zq ?_⟩;intros;refine⟨_,hb,zq ?_⟩;intros;refine⟨oa,rfl,hk.1,zq ?_⟩;intros;refine⟨_,hl _ _ hk.2 3 _ rfl,zq ?_⟩;intros;refine⟨λh=>?_,λh=>?_⟩
  .refine zq ?_;intros;intro C D;rw[zk (ze h)]
  .refine zq ?_;intros;refine⟨λA=>?_,λA=>?_⟩
   .refine zq ?_;intros;intro C D;rw[zh (zf h),zk (ze A)]
   .refine zq ?_;intros;intro C D
    rw[zh (zf h),zh (zf A)])
def NL:F (Z×FnI):=[(103,BF.1),(141,B2.1),(163,BE.1)]
def qRY:qqB X0 NL:=qPA BF.2 (qPA B2.2 (qPA BE.2 noT))
def q8U{g}{v}(hl:rSl 18 KW g v Iz):∃h cap,v=.slice (O h) 3 cap/\∀(i:Z)c,Iz[i]?=O c->Rcs g (h.add (i*18)) c.cs:=by
 obtain⟨_,cap,ev,B,C,D,q⟩:=id hl;obtain⟨h,rfl,_⟩:=q 0 _ rfl;refine⟨h,cap,ev,λi e u=>?_⟩;obtain⟨_,w,_,_,rfl,A⟩:=q i e u;cases w;exact A
def qjW(g){v}(hl:rSl 18 KW g v Iz):Ok X0 60 [v] g λv' g'=>rSl 1 BS g' v' [1,0,2]:=by
 obtain⟨w,cap,rfl,q⟩:=q8U hl
 exact Ok.Ao hm qRY 4 HO.2 (args:=[.v (.slice (O w) 3 cap)]) (by
  refine zq ?_;intros;refine zq ?_;intros
  repeat'((first|refine qzD 30 (zq ?_)|refine⟨_,⟨rfl,q _ _ rfl⟩,zq ?_⟩|refine⟨kF,zq ?_⟩|refine⟨_,λA B h=>qxT A (by repeat' first|exact h.1 0 _ rfl|replace h:=h.2) (λi c C=>(q i c C).mono B) ⟨⟨sb,sb⟩,rfl⟩ ⟨⟨sb,sb⟩,rfl⟩,zq ?_⟩|refine⟨_,rfl,zq ?_⟩|refine⟨⟨sb,sb⟩,zq ?_⟩|refine cT sb (zq ?_)|refine cF sb (zq ?_)|refine qEE (zq ?_)|rfl)<;>intros)
  intro H L M D;refine zq ?_;intros;intro P E
  exact(qqC (R:=BS) D.rd [1,0,2] (zD .i64) se λx u=>⟨rfl,by simp at u;rcases u with rfl|rfl|rfl<;>decide⟩).mono qxA E)
def q8T(g){v}{l}(hl:rSl 1 BS g v l)(s):OkV X0 118 [v,.int .i64 s] g (.int .i64 (CN (BN (λx=>s==x) l))):=
 Ok.Ao hm noT 0 DV.2 (args:=[.v v,.v (.int .i64 s)]) (by
  obtain⟨P,cap,rfl,B,C,Q,D⟩:=hl;refine zq ?_;intros;refine⟨Z,λk=>[.v (.int .i64 k)],λk=>⟨g,[],_,_⟩,λk=>k<=l.length/\Ca (Ey λx=>s==x) l k,λk=>l.length-k,qMA 0 rfl ⟨zF _,Ca.zero _ _⟩ rfl,?_⟩;rintro k ⟨R,q⟩;refine zw ?_;refine⟨λu=>?_,λu=>?_⟩
  .have h:k<l.length:=by have:=ze u;omega
   obtain⟨x,w⟩:=qBA h;obtain⟨a,rfl,T,U,⟨rfl,_⟩,E⟩:=D k x w;refine zw ?_;refine⟨a,rfl,⟨sa,sa⟩,zw ?_⟩;refine⟨_,E 0 _ rfl,zw ?_⟩;refine⟨λA=>?_,λA=>?_⟩
   .refine zw ?_;intro H L;rw[qTG q w A]
   .refine zw ?_;refine λV W M=>⟨k+1,zK (λz=>[zD .i64 z]) (wr1 h B C).symm,⟨h,q8E q w A⟩,dec h,M⟩
  .refine zw ?_;intro H L;have:=zf u
   rw[qoD q sa])
def qnW(g){v}{l}(hl:rSl 1 BS g v l)(s):OkV X0 78 [v,.int .i64 s] g (.bool (l.any λx=>s==x)):=
 Ok.Ao hm noT 0 Dt.2 (args:=[.v v,.v (.int .i64 s)]) (by
  refine zw ?_;refine .inl ⟨_,q8T _ hl _,zw ?_⟩;intro h q
  rw[qGM])
noncomputable def Jy:Z->Wd->Aj->zs (Z×Wd×Aj)
 |0,_,_=>zc
 |f+1,h,m=>match qMc h m&&!((K1 h m).1.access==0)with
  |true=>match(It h m).1.done with
   |true=>O (1,(JZ h m).1,(It h m).1)
   |false=>match Jy f (JZ h m).1 (It h m).1 with
    |some (k,x,n)=>O (k+1,x,n)
    |none=>zc
  |false=>zc
def q6Q:∀{f:Z}{w:Wd}{m:Aj}{k:Z}{x:Wd}{n:Aj},Jy f w m=O (k,x,n)->IE k w m x n/\k<=f
 |0,_,_,_,_,_,h=>by cases h
 |f+1,w,m,k,x,n,h=>by
  unfold Jy at h;split at h
  .rename_i q;rw[zj]at q;have A:=qxZ q.1;have B:(psE w m).access≠0:=by rw[(K1 w m).2];simpa using q.2
   split at h
   .rename_i u;cases h;exact⟨⟨A,B,.inl ⟨by rw[(It w m).2];exact u,rfl,(JZ w m).2.symm,(It w m).2.symm⟩⟩,Nat.succ_le_succ (zF _)⟩
   .rename_i u;split at h
    .rename_i H L M C;cases h;obtain⟨D,E⟩:=q6Q C;exact⟨⟨A,B,.inr ⟨by rw[(It w m).2];exact u,by rw[(JZ w m).2,(It w m).2];exact D⟩⟩,Nat.succ_le_succ E⟩
    .cases h
  .cases h
noncomputable def cWd(w:Wd)(m:Aj):Wd:=match Jy 100 w m with
 |some (_,x,_)=>x
 |none=>w
noncomputable def LX(w:Wd)(m:Aj):Ans:=match Jy 100 w m with
 |some (_,_,n)=>n.answer
 |none=>BO
def q8Z{w}{m:Aj}(h:(Jy 100 w m).isSome=I):∃k n,IE k w m (cWd w m) n/\k<=9999/\n.answer=LX w m:=by
 obtain⟨⟨k,x,n⟩,e⟩:=zCv.1 h;obtain⟨q,u⟩:=q6Q e;refine⟨k,n,?_,sa,?_⟩
 .unfold cWd;rw[e];exact q
 .unfold LX;rw[e]
noncomputable def sV:Z->Wd×F Ans
 |0=>(EK (qjB HU) [sIn] 1,[])
 |k+1=>(cWd (sV k).1 (K7 (sV k).2 opH),(sV k).2++[LX (sV k).1 (K7 (sV k).2 opH)])
def q7a:(zBf 3).all (λk=>(Jy 100 (sV k).1 (K7 (sV k).2 opH)).isSome)=I:=se
def qNT:∀k,(sV k).2.length=k
 |0=>rfl
 |k+1=>by show((sV k).2++[_]).length=_;rw[zAq,qNT k];rfl
def qfX:((sV 3).2[1]?.map λa=>a.An,(sV 3).2[2]?.map λa=>a.kind)=(O 1,O 4):=se
def q8V:qcL [opH,opH,opH] λi W given=>i<=3/\W=(sV i).1/\given=(sV i).2:=
 qIT (λi W given h=>by rw[h.2.2,qNT];omega) λi W given o h q=>by
  obtain⟨_,rfl,rfl⟩:=h;have u:=(zd.1 q).1;obtain rfl:o=opH:=by have:=zl q;simpa using this
  obtain⟨k,n,w,A,B⟩:=q8Z (OA q7a u);exact⟨k,_,n,w,A,λ_=>⟨u,rfl,by rw[B];rfl⟩⟩
def q1T(g):Ok X0 25 [] g λv g'=>∃x y z,v=.agg ⟨[x,y,z]⟩/\qHB g' [x,y,z] HU:=
 Ok.Ao hm noT 0 FF.2 (args:=[]) (by
  refine zq ?_;intros;refine⟨1,rfl,by unfold zAr;omega,λU V W B=>zq ?_⟩;intros;refine⟨4,rfl,by unfold zAr;omega,λC D Y E=>zq ?_⟩;intros;refine⟨1,rfl,by unfold zAr;omega,λaa H ab L=>zq ?_⟩;intros;refine⟨4,rfl,by unfold zAr;omega,λac M ad P=>zq ?_⟩;intros;intro C u;have w:=GW.trans M u;have A:=GW.trans H w;have Q:=GW.trans D A;have T:=qqC (R:=qJW) (L.mono w).rd [I,I] .bool rfl (λ_ _=>rfl)
  exact⟨_,_,_,rfl,_,_,_,rfl,qqC (R:=FJ) (B.mono Q).rd [sIn] .string rfl (λ_ _=>rfl),q2K (R:=q4K) (E.mono A).rd HU.As rfl sb (λi x h=>by
   match i,h with
   |0,q=>cases q;rfl),q2K (R:=qOC) (P.mono u).rd HU.Ad rfl sb (λi x h=>by
   match i,h with
   |0,q=>cases q;exact⟨_,rfl,sv,sv,T⟩)⟩)
def NN:F (Z×FnI):=[(7,Gh.1),(11,Dp.1),(37,CU.1),(38,Do.1),(59,Em.1),(58,En.1),(57,Bi.1),(102,Bn.1)]
def qTY:qqB X0 NN:=qPA Gh.2 (qPA Dp.2 (qPA CU.2 (qPA Do.2 (qPA Em.2 (qPA En.2 (qPA Bi.2 (qPA Bn.2 noT)))))))
def q2X{g}{v}(hl:rSl 23 rEv g v evS):∃h cap,v=.slice (O h) 22 cap/\∀(i:Z)(e:Ev),evS[i]?=O e->Rcs g (h.add (i*23)) e.cs:=by
 obtain⟨_,cap,ev,B,C,D,q⟩:=id hl;obtain⟨h,rfl,_⟩:=q 0 _ rfl;refine⟨h,cap,ev,λi e u=>?_⟩;obtain⟨_,w,_,_,rfl,A⟩:=q i e u;cases w;exact A
def q7T(g){v}{cs}(hs:qrC g cs FI)(hl:rSl 23 rEv g v evS):Ok X0 26 [.agg ⟨cs⟩,v] g λv' _=>v'=.tuple #[.int .i64 3,.bool I]:=by
 obtain⟨al,cap,rfl,aO⟩:=q2X hl;obtain⟨a,b,d,t,p,rfl,ab,an,ao⟩:=hs;have ac:=ab;obtain⟨_,_,_,ap,⟨aP,aQ,rfl,_⟩,⟨aR,aT,rfl,_⟩,⟨aU,aV,rfl,_⟩⟩:=ab;cases ap;obtain⟨aq,ar,R,aW,aX,aY,ad⟩:=id an;replace R:t=.slice aq 2 ar:=R;obtain⟨_,aZ,rfl,a0,a1,a2,a3⟩:=id ao;subst R;obtain⟨at_,rfl,a4,_,⟨a5,rfl,ae⟩,q⟩:=ad 0 _ rfl;obtain⟨_,e,a6,_,⟨a7,rfl,af⟩,A⟩:=ad 1 _ rfl;cases e;replace q:=q 0 _ rfl;replace A:=A 0 _ rfl;obtain⟨a8,a9,rfl,_⟩:=id ae;obtain⟨ba,bb,rfl,_⟩:=id af;obtain⟨_,_,au,_,_,_,ag⟩:=id ae;cases au;obtain⟨_,_,av,_,_,_,aw⟩:=id af;cases av;obtain⟨bc,e,bd,_,ax,E⟩:=ag 0 _ rfl;subst e;obtain⟨_,e,be,_,ay,B⟩:=ag 1 _ rfl;cases e;obtain⟨bf,e,bg,_,az,T⟩:=aw 0 _ rfl;subst e;obtain⟨_,_,_,_,_,_,rfl⟩:=qAJ ax;obtain⟨_,_,_,_,_,_,rfl⟩:=qAJ ay;obtain⟨_,_,_,rfl,_,U⟩:=id az;obtain⟨_,_,_,aA,⟨_,_,rfl,_⟩,⟨_,_,rfl,_⟩,⟨_,_,rfl,_⟩⟩:=id U;cases aA
 exact Ok.Ao hm qTY 5 Ha.2 (args:=[.v (.agg ⟨_⟩),.v (.slice (O al) 22 cap)]) (by
  refine zq ?_;intros;obtain⟨bh,aB,aC⟩:=NA;refine .inr ((q0b _ hl sb aB).mono λv bi H L=>?_);obtain⟨bj,rfl,V⟩:=L;rw[aC]at V;obtain⟨bl,bm,rfl,u⟩:=q8U V;refine zq ?_;intros;refine .inr ((qdH _ (qAA _ _ _ _ H ac)).mono λv aD C W=>?_);obtain⟨x,y,z,e,i,rfl,aE,_,⟨rfl,rfl,_,rfl,rfl⟩|⟨_,Y,_⟩⟩:=qpE (qAA _ _ _ _ H ac) C W;rotate_left
  .exact absurd se Y
  obtain⟨_,_,bn,bo,_,_,ah⟩:=qQG aE;simp only[zAJ,zA6]at ah;obtain⟨_,rfl,_⟩:=ah;replace q:=q.mono (GW.trans H C);replace A:=A.mono (GW.trans H C);replace u:=λi c h=>(u i c h).mono C;refine zr ?_;intros
  repeat'((first|refine qzD 30 ?_|refine⟨_,⟨rfl,u _ _ rfl⟩,?_⟩|refine⟨_,q,?_⟩|refine⟨_,A,?_⟩|refine⟨kF,?_⟩|refine⟨_,rfl,?_⟩|refine⟨⟨sb,sb⟩,?_⟩|refine cT sb ?_|refine cF sb ?_|refine qEE ?_|fail)<;>first|(refine zr ?_;intros)|rfl)
  refine .inr ((qjW _ (V.mono q5M C)).mono λv aF P L=>?_);obtain⟨_,c3,ev,_,_,_,w⟩:=id L;obtain⟨ai,rfl,_⟩:=w 0 _ rfl;replace ev:v=.slice (O ai) 3 c3:=ev;subst ev
  have w:∀(i:Z)(x:zn),[(1:zn),0,2][i]?=O x->Rc aF (ai.add (i*1)) (.int .i64 x):=λi x h=>by
   obtain⟨_,e,_,_,⟨rfl,_⟩,h⟩:=w i x h;cases e;exact h 0 _ rfl
  have M:=GW.trans (GW.trans H C) P;replace q:=q.mono P;replace A:=A.mono P;replace u:=λi c h=>(u i c h).mono P;replace E:=E.mono M;replace B:=B.mono M;replace T:=T.mono M;refine zr ?_;intros
  repeat'((first|refine qzD 30 ?_|refine⟨_,⟨rfl,u _ _ rfl⟩,?_⟩|refine⟨_,w _ _ rfl,?_⟩|refine⟨_,q,?_⟩|refine⟨_,A,?_⟩|refine⟨_,⟨rfl,T⟩,?_⟩|refine⟨_,rfl,?_⟩|refine⟨⟨sb,sb⟩,?_⟩|refine cT sb ?_|refine cF sb ?_|refine qEE ?_|fail)<;>first|(refine zr ?_;intros)|rfl)
  refine .inr ((qdH _ (qAA _ _ _ _ M U)).mono λv bp D W=>?_);obtain⟨x,y,z,e,i,rfl,aa,_,⟨rfl,rfl,_,rfl,rfl⟩|⟨_,Y,_⟩⟩:=qpE (qAA _ _ _ _ M U) D W;rotate_left
  .exact absurd se Y
  obtain⟨_,_,bq,br,_,_,aj⟩:=qQG aa;simp only[zAJ,zA6]at aj;obtain⟨_,rfl,_⟩:=aj;replace q:=q.mono D;replace u:=λi c h=>(u i c h).mono D;replace w:=λi c h=>(w i c h).mono D;replace E:=E.mono D;replace B:=B.mono D;refine zr ?_;intros
  repeat'((first|refine qzD 30 ?_|refine⟨_,⟨rfl,u _ _ rfl⟩,?_⟩|refine⟨_,w _ _ rfl,?_⟩|refine⟨_,q,?_⟩|refine⟨_,⟨rfl,E⟩,?_⟩|refine⟨⟨rfl,rfl,rfl,rfl,by unfold zAr;omega⟩,?_⟩|refine qDb rfl ?_|refine⟨_,rfl,?_⟩|refine⟨⟨sb,sb⟩,?_⟩|refine cT sb ?_|refine cF sb ?_|refine qEE ?_|fail)<;>first|(refine zr ?_;intros)|rfl)
  obtain⟨_,_,_,aG,_,_,aH⟩:=id aa;cases aG;obtain⟨_,_,aI,_,_,_,aJ⟩:=id aH;cases aI;obtain⟨bt,e,bu,_,ak,aK⟩:=aJ 0 _ rfl;subst e;have aL:=ak;obtain⟨_,rfl,_,_,aM⟩:=ak;obtain⟨_,_,rfl,_⟩:=id aM;refine .inl ⟨.tuple #[.int .i64 0,.int .i64 0],(q9T _ aa _ _ _ (by decide+kernel)).to se,zr ?_⟩;intros
  repeat'((first|refine⟨_,⟨rfl,aK⟩,?_⟩|refine⟨_,rfl,?_⟩|refine⟨⟨sb,sb⟩,?_⟩|refine cT sb ?_|refine cF sb ?_|fail)<;>first|(refine zr ?_;intros)|rfl)
  refine .inr ((qII _ aL (by decide+kernel)).mono λv bv Q L=>?_);obtain⟨bw,bx,rfl,aN⟩:=L;refine zr ?_;intros
  repeat'((first|refine⟨_,rfl,?_⟩|refine⟨⟨sb,sb⟩,?_⟩|refine cT sb ?_|refine cF sb ?_|fail)<;>first|(refine zr ?_;intros)|rfl)
  refine .inl ⟨.bool I,(qnW _ aN _).to se,?_⟩;replace q:=q.mono Q;replace u:=λi c h=>(u i c h).mono Q;replace w:=λi c h=>(w i c h).mono Q;replace B:=B.mono Q;refine zr ?_;intros
  repeat'((first|refine⟨_,⟨rfl,u _ _ rfl⟩,?_⟩|refine⟨_,w _ _ rfl,?_⟩|refine⟨_,q,?_⟩|refine⟨_,⟨rfl,B⟩,?_⟩|refine⟨_,rfl,?_⟩|refine⟨⟨sb,sb⟩,?_⟩|refine cT sb ?_|refine cF sb ?_|refine qEE ?_|fail)<;>first|(refine zr ?_;intros)|rfl)
  intro aD bz
  kernel_rfl)
def qSM{g}{K}(h:∀(q:zs zAH)(b1:Z)(u:zs zAH)(w:Z)(A:zs zAH)(B:Z)g',g<=g'->qHB g' [.slice q 1 b1,.slice u 1 w,.slice A 1 B] HU->K (.agg ⟨[.slice q 1 b1,.slice u 1 w,.slice A 1 B]⟩) g'):Ok X0 25 [] g K:=
 (q1T g).mono λv g' D E=>by
  obtain⟨x,y,z,rfl,C⟩:=E;have H:=C;obtain⟨_,_,_,L,⟨_,_,rfl,_⟩,⟨_,_,rfl,_⟩,⟨_,_,rfl,_⟩⟩:=C;cases L;exact h _ _ _ _ _ _ g' D H
def qSQ(g):rOp g [.int .i64 1,.string sIn,.string sX,.string sSl,.int .i64 0,.int .i64 0,.int .i64 0,.slice zc 0 0,.slice zc 0 0,.slice zc 0 0] opH:=
 ⟨_,_,_,rfl,⟨sv,z0,z0,z0⟩,q1E g⟩
def qQb(g):rOp g [.int .i64 2,.string ⟨#[]⟩,.string ⟨#[]⟩,.string ⟨#[]⟩,.int .i64 0,.int .i64 0,.int .i64 0,.slice zc 0 0,.slice zc 0 0,.slice zc 0 0] opF:=
 ⟨_,_,_,rfl,⟨sv,z0,z0,z0⟩,q1E g⟩
def qPb{g}{x y z}(h:qHB g [x,y,z] HU):rOp g [.int .i64 3,.string ⟨#[]⟩,.string ⟨#[]⟩,.string ⟨#[]⟩,.int .i64 0,.int .i64 0,.int .i64 0,x,y,z] opW:=
 ⟨_,_,_,rfl,⟨sv,z0,z0,z0⟩,h⟩
abbrev cOp(k:zn)(l h p:BA)(x y z:zg):F zg:=[.int .i64 k,.string l,.string h,.string p,.int .i64 0,.int .i64 0,.int .i64 0,x,y,z]
def qeY{g}{x y z u w A}(hc:qHB g [x,y,z] HU)(hA:Dl g 10 u 2 (cOp 1 sIn sX sSl (.slice zc 0 0) (.slice zc 0 0) (.slice zc 0 0)++cOp 2 ⟨#[]⟩ ⟨#[]⟩ ⟨#[]⟩ (.slice zc 0 0) (.slice zc 0 0) (.slice zc 0 0)))(C:Dl g 10 w 1 (cOp 3 ⟨#[]⟩ ⟨#[]⟩ ⟨#[]⟩ x y z))(D:Dl g 1 A 2 [u,w]):rSl 1 q4L g A FI.Af:=
 q2K (R:=q4L) D [[opH,opF],[opW]] rfl sb λi B q=>by
  match i,q with
  |0,h=>
   cases h
   exact⟨_,rfl,q2K (R:=rOp) hA [opH,opF] rfl sb λi B q=>by
    match i,q with
    |0,h=>cases h;exact qSQ g
    |1,h=>cases h;exact qQb g⟩
  |1,h=>
   cases h
   exact⟨_,rfl,q2K (R:=rOp) C [opW] rfl sb λi B q=>by
    match i,q with
    |0,h=>cases h;exact qPb hc⟩
def qIb{g}{v}{n}{cs}(h:Dl g 1 v n cs)(e:cs=FI.Ax.map (zD .i64)):rSl 1 BS g v FI.Ax:=
 qqC (R:=BS) h FI.Ax (zD .i64) e λx q=>⟨rfl,by
  obtain⟨k,u,rfl⟩:=zAb.1 q;have:=zB4.1 u;have e:Int.ofNat k=(k:zn):=rfl;unfold InR
  omega⟩
def Oj{l:F Ans}(h:l.length=3){x y:zn}(w:l[1]?.map (λa=>a.An)=O x)(h2:l[2]?.map (λa=>a.kind)=O y):∃A q u,l=[A,q,u]/\q.An=x/\u.kind=y:=by
 rcases l with _|⟨a,_|⟨b,_|⟨c,_|⟨d,l⟩⟩⟩⟩
 .cases h
 .cases h
 .cases h
 .exact⟨a,b,c,rfl,zv w,zv h2⟩
 .simp at h
def NW:∃u h q:Ans,(sV 3).2=[u,h,q]/\h.An=1/\q.kind=4:=Oj (qNT 3) (zK Prod.fst qfX) (zK Prod.snd qfX)
def quT{E:Env X0}(ak:∀f args w R,qQR X0 f args w R->E.Big f args w R)(g:GW):OkE E 6 [] g λv _=>v=.bool I:=
 OkE.Ao hm noT 0 FE.2 (args:=[]) (by
  refine zq ?_;intros;refine zq ?_;intros
  repeat'((first|refine zI ?_ ?_|fail)<;>first|(refine zq ?_;intros)|rfl)
  all_goals
   refine .inr (qSM λaM aN aO aP aQ aR aT aU B=>zq ?_);intros
   repeat'((first|refine zI ?_ ?_|fail)<;>first|(refine zq ?_;intros)|rfl)
  all_goals
   refine .inr (qSM λaV aW aX aY aZ a0 al an C=>zq ?_);intros
   repeat'((first|refine zI ?_ ?_|fail)<;>first|(refine zq ?_;intros)|rfl)
  all_goals
   refine zr ?_;intros
   repeat'((first|refine qzD 41 ?_|refine⟨⟨sb,sb⟩,?_⟩|refine cT sb ?_|refine cF sb ?_|refine qEE ?_|fail)<;>first|(refine zr ?_;intros)|rfl)
   refine⟨10,rfl,by unfold zAr;omega,λa1 ao a2 Q=>zq ?_⟩;intros;refine⟨10,rfl,by unfold zAr;omega,λa3 ap a4 T=>zq ?_⟩;intros;refine⟨1,rfl,by unfold zAr;omega,λa5 aq a6 U=>zq ?_⟩;intros;intro ar au a7 V;have W:=au;have Y:=GW.trans aq W;have aa:=GW.trans ap Y;have ab:=GW.trans ao aa;have D:qrC ar _ FI:=⟨_,_,_,_,_,rfl,qAA _ _ _ _ (GW.trans an ab) B,qeY (qAA _ _ _ _ ab C) (Q.mono aa).rd (T.mono Y).rd (U.mono W).rd,qIb V.rd se⟩;clear V Q T U;refine zq ?_;intros;refine .inr ((OkE.of (qdQ _ Jn D)).mono λv a8 av h=>?_);obtain⟨a9,ba,rfl,hW,H,ac⟩:=h;obtain⟨bb,bc,u⟩:=Jn.z0 Lx.2;obtain rfl:=MV u;have A:=H;rw[Lx.1]at A;obtain⟨bd,be,rfl,_⟩:=q2X A;obtain⟨_,_,_,_,_,_,_,_,_,_,rfl⟩:=qJA hW;refine zq ?_;intros;refine .inr ((OkE.of (q7T _ (qhI _ _ _ _ av D) A)).mono λv bf ad h=>?_);subst h;refine zq ?_;intros;refine .inr ((OkE.of (qHN _ Jn u ac (H.mono (λ_ _ _ _ _ q=>q) ad))).mono λv bg aw h=>?_);obtain⟨_,n,_,rfl,ax⟩:=h;obtain rfl:=ax.2 rfl;refine zq ?_;intros;refine .inr ((OkE.of (qGN _ u.rst u.ep (qCA _ _ _ _ (GW.trans ad aw) hW))).mono λv bh bi h=>?_);obtain⟨bj,rfl,ae⟩:=h;obtain⟨_,_,_,_,_,_,_,_,_,_,rfl⟩:=qJA ae;clear D A H ac hW;refine zq ?_;intros
   repeat'((first|refine zI ?_ ?_|fail)<;>first|(refine zq ?_;intros)|rfl)
   all_goals
    refine .inr (qSM λz1 bl bm bn bo bp bq ay az=>zq ?_);intros
    repeat'((first|refine zI ?_ ?_|fail)<;>first|(refine zq ?_;intros)|rfl)
    all_goals
     refine zw ?_;refine⟨1,rfl,by unfold zAr;omega,λbr af bt aA=>zq ?_⟩;intros;refine⟨10,rfl,by unfold zAr;omega,λbu L bv aB=>zq ?_⟩;intros
     refine .inr ((OkE.top ak (qgW (c:=HU) (names:=[sIn]) (l:=[opH,opH,opH]) (Inv:=λi ag aC=>i<=3/\ag=(sV i).1/\aC=(sV i).2) (qAA _ _ _ _ (GW.trans af L) az) se (qqC (R:=FJ) (aA.mono L).rd [sIn] .string rfl (λ_ _=>rfl)) ⟨se,sb,se⟩ sb sb (q2K (R:=rOp) aB.rd [opH,opH,opH] rfl sb (λi bw aD=>by
      match i,aD with
      |0,q=>cases q;exact qSQ _
      |1,q=>cases q;exact qSQ _
      |2,q=>cases q;exact qSQ _)) sb q8V ⟨sa,rfl,rfl⟩)).mono λv aE aF h=>?_)
     obtain⟨ah,csW,ag,bx,rfl,aG,M,_,_,_,rfl⟩:=h;obtain⟨_,_,_,_,_,_,_,_,_,_,rfl⟩:=qJA aG;obtain⟨aH,aI,aJ,aK,aL,ai⟩:=NW;replace M:rSl 13 F7 aE ah [aH,aI,aJ]:=by rw[<-aK];exact M
     obtain⟨_,cS,P,_,_,_,aj⟩:=M;obtain⟨aS,rfl,_,_,⟨rfl,_⟩,B⟩:=aj 1 _ rfl;obtain⟨_,e,_,_,⟨rfl,_⟩,C⟩:=aj 2 _ rfl;cases e;replace P:ah=.slice (O aS) 3 cS:=P;subst P;refine zr ?_;intros
     repeat'((first|refine⟨_,rfl,?_⟩|refine cT sb ?_|refine cF sb ?_|refine .inl ⟨_,(qoX _ (qCA _ _ _ _ (GW.trans ay (GW.trans af (GW.trans L aF))) ae)).to (zK zBm (u.rst.quiet u.ep)),?_⟩|refine⟨⟨sb,sb⟩,?_⟩|refine⟨_,B 3 _ rfl,?_⟩|refine⟨_,C 0 _ rfl,?_⟩|refine cT (beq_iff_eq.2 aL) ?_|refine cT (beq_iff_eq.2 ai) ?_|fail)<;>first|(refine zr ?_;intros)|rfl)
     intro al bz
     exact zK zBm (beq_iff_eq.2 ai))
end Go.Proofs.YtlmhpamhhgogaaaGreat
namespace Go.Proofs.YtlmhpamhhgogaaaGreat
open Go.Conc (G)
open Go.Proofs.YtlmhpamhhgogaaaGreat.Sx Go.Duo Go.RowKit
def IV(l:F (F OpD)):Z->zn
 |0=>0
 |k+1=>zAf.wrap (IV l k+((l[k]?).getD []).length)
def qNO{l}{k}{x}(h:l[k]?=O x):IV l (k+1)=zAf.wrap (IV l k+x.length):=by
 show zAf.wrap (_+((l[k]?).getD []).length)=_;rw[h];rfl
def qyS{l}(h:∀x∈l,x.length<=40):∀{k:Z},k<=l.length->k<=100->IV l k=Iq l k
 |0,_,_=>rfl
 |k+1,w,A=>by
  have u:=qyS h (k:=k) sa sa;obtain⟨x,q⟩:=qBA (show k<l.length by omega);have B:=h x (zl q);have C:=q0S h k;rw[qNO q,qzS q,u,IU sa];omega
def q4R(s:CB):zM:=decide (3000<(s.Ax.length:zn))||decide (8<(s.Af.length:zn))||decide (60<IV s.Af s.Af.length)
def qSW(g){cs}{s}(hs:qrC g cs s):OkV X0 13 [.agg ⟨cs⟩] g (.bool (q4R s)):=by
 obtain⟨a,b,d,t,p,rfl,C,D,E⟩:=hs;obtain⟨_,_,_,H,⟨V,W,rfl,_⟩,⟨Y,aa,rfl,_⟩,⟨ab,ac,rfl,_⟩⟩:=C;cases H;obtain⟨ad,ae,rfl,L,M,af,P⟩:=id D;obtain⟨op,ag,rfl,_⟩:=id E
 exact Ok.Ao hm noT 0 Gi.2 (args:=[.v (.agg ⟨_⟩)]) (by
  refine zq ?_;intros;refine⟨Z,λk=>[.v (.int .i64 (IV s.Af k)),.v (.int .i64 k)],λk=>⟨g,_,_,_⟩,λk=>k<=s.Af.length,λk=>s.Af.length-k,qMA 0 rfl (zF _) rfl,?_⟩;rintro k ah;refine zq ?_;intros;refine⟨λu=>?_,λu=>?_⟩
  .have q:k<s.Af.length:=by have:=ze u;omega
   obtain⟨l,w⟩:=qBA q;obtain⟨ai,rfl,aj,ak,⟨v,rfl,Q⟩,R⟩:=P k l w;obtain⟨al,an,rfl,_⟩:=id Q;refine zq ?_;intros;refine⟨_,rfl,⟨sa,sa⟩,zw ?_⟩;refine⟨_,R 0 _ rfl,zq ?_⟩;intros;refine λao ap T=>⟨k+1,quS (qNO w) (wr1 q L M).symm,q,dec q,?_⟩;exact T.fit sc
  .have aq:=zf u;have U:k=s.Af.length:=sa
   subst U;refine zq ?_;intros;refine⟨λz1=>?_,λz1=>?_⟩
   .refine zr ?_;intros
    repeat'((first|refine cT z1 ?_|refine cF z1 ?_|fail)<;>first|(refine zr ?_;intros)|rfl)
    intro A B;unfold q4R;rw[z1];rfl
   refine zq ?_;intros;refine⟨λh=>?_,λh=>?_⟩
   .refine zr ?_;intros
    repeat'((first|refine cT h ?_|refine cF h ?_|fail)<;>first|(refine zr ?_;intros)|rfl)
    intro A B;unfold q4R;rw[z1,h];rfl
   refine zq ?_;intros;intro A B
   unfold q4R;rw[z1,h];rfl)
def qbZ{s}(h:q4R s=zb):s.Ax.length<=3000/\s.Af.length<=8/\IV s.Af s.Af.length<=60:=by
 unfold q4R at h;simp only[zDf,zC2]at h;omega
def PlZ.NX{s w E u B}(h:PlZ s w E u B):Rst (GS w) u/\(u=[]->∀(i:Z)v,(GS w).Ab[i]?=O v->v.AV=decide ((GS w).current≠i))/\BgW 1000 (GS w):=by
 have M:=h.ep;have A:=h.rst.col sa;have C:(BG w).Al=w.Al+1:=by rw[(qcB w).1,h.rst.now]
 have D:=A.col sa;have P:(BG (BG w)).Al=w.Al+1+1:=by rw[(qcB (BG w)).1,A.now,C]
 have q:=D.col sa;refine⟨q,λH i v L=>?_,qcM q.right sb (by have:=qEQ q;have:=q.ln;show(BG (BG (BG w))).Ab.length<=1000/\(BG (BG (BG w))).Aa.length<=1000/\(BG (BG (BG w))).Ai.length<=1000;omega)⟩;subst H;exact h.rst.AV h.ep L
def qwR{E:Env X0}(L:∀g,OkE E 6 [] g λv _=>v=.bool I)(g:GW){cs}{s}(hs:qrC g cs s)(ar:∀l∈s.Af,∀o∈l,Sm o.Bp/\Sm o.path):Li E 4 [.agg ⟨cs⟩] g λv _=>v=.bool I:=by
 have T:=hs;obtain⟨a,b,d,t,p,rfl,au,av,D⟩:=hs;obtain⟨_,_,_,aw,⟨aW,aX,rfl,_⟩,⟨aY,aZ,rfl,_⟩,⟨a0,a1,rfl,_⟩⟩:=au;cases aw;obtain⟨a2,a3,rfl,ax,ay,a4,az⟩:=id av;obtain⟨op,a5,rfl,_⟩:=id D
 exact Li.Ao hm noT 0 Fc.2 (args:=[.v (.agg ⟨_⟩)]) (by
  refine zq ?_;intros;refine⟨Z,λk=>[.v (.int .i64 (IV s.Af k)),.v (.int .i64 k)],λk=>⟨g,_,_,_⟩,λk=>k<=s.Af.length,λk=>s.Af.length-k,qMA 0 rfl (zF _) rfl,?_⟩;rintro k aA;refine zq ?_;intros;refine⟨λac=>?_,λac=>?_⟩
  .have U:k<s.Af.length:=by have:=ze ac;omega
   obtain⟨l,V⟩:=qBA U;obtain⟨a6,rfl,a7,a8,⟨v,rfl,h⟩,aB⟩:=az k l V;obtain⟨aC,aD,rfl,_⟩:=id h;refine zq ?_;intros;refine⟨_,rfl,⟨sa,sa⟩,zw ?_⟩;refine⟨_,aB 0 _ rfl,zq ?_⟩;intros;refine λag ah M=>⟨k+1,quS (qNO V) (wr1 U ax ay).symm,U,dec U,?_⟩;exact M.fit sc
  .have P:=zf ac;have aE:k=s.Af.length:=sa
   subst aE;refine zq ?_;intros;refine .inl ⟨_,qSW _ T,zq ?_⟩;intros;refine⟨λz1=>?_,λz1=>?_⟩
   .refine zr ?_;intros
    repeat'((first|refine cT z1 ?_|refine cF z1 ?_|fail)<;>first|(refine zr ?_;intros)|rfl)
    refine .inr ((L _).mono λv W Y h=>?_);subst h;refine zq ?_;intros;intro H Q;rfl
   obtain⟨a9,ba,bb⟩:=qbZ z1;refine zq ?_;intros;refine .inl ⟨_,qvT _ T,zq ?_⟩;intros;refine⟨λaa=>?_,λaa=>?_⟩
   .refine zr ?_;intros
    repeat'((first|refine cT aa ?_|refine cF aa ?_|fail)<;>first|(refine zr ?_;intros)|rfl)
    refine .inr ((L _).mono λv W Y h=>?_);subst h;refine zq ?_;intros;intro H Q;rfl
   have ai:=nb0 aa;refine zq ?_;intros;refine⟨λR=>?_,λR=>?_⟩
   .refine zr ?_;intros
    repeat'((first|refine cT R ?_|refine cF R ?_|fail)<;>first|(refine zr ?_;intros)|rfl)
    refine .inr ((L _).mono λv W Y h=>?_);subst h;refine zq ?_;intros;intro H Q;rfl
   have aF:∀l∈s.Af,l.length<=40:=λl V=>by
    have ad:=ai;unfold isB at ad;simp only[zj,zAh,zx]at ad;have:=(ad.1.2 l V).1;omega
   have aG:Cf s<=8:=by
    rw[qyS aF (zG _) sa,qtP (zG _)]at R;have:=zf R;omega
   have A:=Gz.of ai aG ar;refine zq ?_;intros;refine .inl ⟨_,qMZ _ T A.sz,zq ?_⟩;intros;refine⟨λab=>?_,λab=>?_⟩
   .refine zr ?_;intros
    repeat'((first|refine cT ab ?_|refine cF ab ?_|fail)<;>first|(refine zr ?_;intros)|rfl)
    refine .inr ((L _).mono λv W Y h=>?_);subst h;refine zq ?_;intros;intro H Q;rfl
   obtain⟨aH,bc,B⟩:=plZ A.z A.t A.k A.n (by have:=zf ab;unfold q4b at this;omega) sa;refine zq ?_;intros;refine .inr ((OkE.of (qdQ _ A T)).mono λv W Y u=>?_);obtain⟨aI,bd,rfl,hW,ae,aj⟩:=u;obtain⟨_,_,_,_,_,_,_,_,_,_,rfl⟩:=qJA hW;obtain⟨be,bf,rfl,_⟩:=id ae;refine zq ?_;intros;refine .inr ((OkE.of (qHN _ A B aj ae)).mono λv H aJ u=>?_);obtain⟨aC,n,aD,rfl,P⟩:=u;refine zq ?_;intros;refine .inr ((OkE.of (qGN _ B.rst B.ep (qCA _ _ _ _ aJ hW))).mono λv aK bg u=>?_);obtain⟨bh,rfl,ak⟩:=u;have aL:=B.rst.quiet B.ep;obtain⟨aM,aN,aO⟩:=PlZ.NX B;clear B hW ae aj;generalize GS (plX (plI s) s.Ax).1.w=X at*;have al:=ak;obtain⟨_,_,_,_,_,rfl,⟨bi,bj,bl⟩,⟨_,_,rfl,_⟩,⟨bm,bn,rfl,an,ao,bo,aP⟩,⟨_,_,rfl,_⟩,⟨_,_,rfl,_⟩,⟨_,_,rfl,_⟩⟩:=ak
   have aQ:(qIs X !=((n:zn)==0))=zb:=by
    rw[aL];by_cases q:aH=[]
    .rw[zC q,P.2 q];rfl
    .have bp:n≠0:=λaf=>q (P.1 af);have aR:((n:zn)==0)=zb:=beq_eq_false_iff_ne.2 sa;rw[zE q,aR];rfl
   refine zr ?_;intros
   repeat'((first|refine cT sb ?_|refine cF sb ?_|refine .inl ⟨_,qoX _ al,?_⟩|refine cF aQ ?_|fail)<;>first|(refine zr ?_;intros)|rfl)
   refine⟨Z,λk=>[.v (.int .i64 k)],λ_=>⟨aK,_,_,_⟩,λk=>k<=X.Ab.length,λk=>X.Ab.length-k,qMA 0 rfl (zF _) rfl,?_⟩;rintro k aA;refine zq ?_;intros;refine⟨λap=>?_,λap=>?_⟩
   .have C:k<X.Ab.length:=by have:=ze ap;omega
    obtain⟨v,h⟩:=qBA C;obtain⟨bq,rfl,br,bt,⟨aI,bu,bv,bw,rfl,_⟩,aT⟩:=aP k v h;refine zq ?_;intros;refine⟨λaq=>?_,λaq=>?_⟩
    .have u:=P.1 (by have:=beq_iff_eq.1 aq;omega)
     have aU:(v.AV !=((k:zn) !=X.current))=zb:=by
      rw[aN u k v h];by_cases q:X.current=(k:zn)
      .rw[zE (by simpa using q),bne_eq_false_iff_eq.2 q.symm];rfl
      .rw[zC q,bne_iff_ne.2 (λaf=>q af.symm)];rfl
     refine zq ?_;intros;refine⟨_,rfl,⟨sa,sa⟩,zw ?_⟩;refine⟨_,aT 4 _ rfl,zq ?_⟩;intros;refine cF aU (zw ?_);refine λag ah M=>⟨k+1,zK (λz=>[zD .i64 z]) (wr1 C an ao).symm,C,dec C,?_⟩;exact M.fit sc
    .refine zq ?_;intros;refine λag ah M=>⟨k+1,zK (λz=>[zD .i64 z]) (wr1 C an ao).symm,C,dec C,?_⟩;exact M.fit sc
   .refine zq ?_;intros;refine .inr ((L _).mono λv bx aV h=>?_);subst h;refine zq ?_;intros;refine⟨λ_=>zq ?_,λq=>nomatch q⟩;intros;refine⟨λD=>?_,λD=>?_⟩
    .refine zr ?_;intros
     repeat'((first|refine cT D ?_|refine cF D ?_|fail)<;>first|(refine zr ?_;intros)|rfl)
     intro H Q;rfl
    .refine zq ?_;intros;have u:=P.1 (by have:=zf D;omega);subst u;refine .inr ((OkE.of (qOZ _ (qCA _ _ _ _ aV al) aO)).mono λv bz bA h=>?_);subst h;refine zq ?_;intros;intro H Q;rw[aM.held]
     rfl)
end Go.Proofs.YtlmhpamhhgogaaaGreat
namespace Go.Proofs.YtlmhpamhhgogaaaGreat
open Go.Conc (G solo)
open Go.Proofs.YtlmhpamhhgogaaaGreat.Sx Go.Duo Go.RowKit
def qHS:∀fn tmps w,X0.funcs[4]?=O fn->evs X0 4 (results fn tmps) w=#[]:=λfn tmps w h=>by
 have q:=(Tryz.func4).symm.trans h;cases q
 have e:results Tryz.f4 tmps=pure (tmps.getD 2 zAX):=by
  unfold results;rw[show Tryz.f4.results=#[.tmp 2] by kernel_rfl];simp[zCr]
 rw[e];rfl
def qaO{W}{cs}{s}(hs:qrC (Fv W) cs s)(w:∀l∈s.Af,∀o∈l,qqK o.Bp/\qqK o.path):∃A h o w' t',runNT X0 (A+1) (solo (G (zAW X0 4 #[.agg ⟨cs⟩] .normal) []) W) #[]=(.ended o w',t')/\runN X0 A (solo (G (zAW X0 4 #[.agg ⟨cs⟩] .normal) []) W)=.next h/\step X0 h=.ended o w'/\Conc.Good X0 (λv w'=>Below W.heap.size W w'/\v=.bool I) h o w' t':=by
 let E:Env X0:=⟨0,I,qQR X0,λg q=>∀d,qXX X0 4 (λv w'=>Below W.heap.size W w'/\v=.bool I) g (q.at d)⟩;have u:=qwR (E:=E) (λg=>quT (E:=E) (λ_ _ _ _ u=>u) g) (Fv W) hs (λl B o C=>⟨zZ (w l B o C).1 (zBG rfl),zZ (w l B o C).2 (zBG rfl)⟩) W (Good.refl _) (zF _);exact qOY (E:=E) rfl (λf args c cs q M m D H L=>H q.drawn c cs m D L) se qHS rfl u
end Go.Proofs.YtlmhpamhhgogaaaGreat
namespace Go.Proofs.YtlmhpamhhgogaaaGreat.topRest
open Go.ChangeShapes Go.WideShapes Go.ChangeAt Go.RowKit
open Go.Proofs.YtlmhpamhhgogaaaGreat.Sx
theorem own:ownKnob X0.godebug=zc:=se
theorem laidOut:laidOutB X0=I:=se
theorem lifted(os:Os)(started:os.Started)(H:Type)(enc:zAy×zg->H):ReturnsInLeavingWide {} Tryz.checked os 4 .any (Rows.topRestSpec.pre6 enc X0 Tryz.f4 Rows.topRestRow.domain zb) (Rows.topRestSpec.post enc X0 Tryz.f4 zb I zb zb):=by
 refine returnsInLeavingWide_of_change_sized (C:=Tryz.checked) own started Tryz.func4
  (ChangeSpec.witness6 (enc:=enc) (C:=Tryz.checked) zb ⟨#[],#[(.agg #[.slice zc 0 0,.slice zc 0 0,.slice zc 0 0,.slice zc 0 0,.slice zc 0 0])],[]⟩ 8 se se se se) ?_
 intro W base args ds gs before hval0 hW hcnd hsz0 _;have hval:∀(j:Z)t v,Tryz.f4.params[j]?=O t->args[j]?=O v->Value.okWide X0 W .any base t v:=hval0;have hW':=hW;obtain⟨p,q,hA0,hV,rfl,hfz,hnd⟩:=hW;have hA:DataW.TrodAll enc X0 W 0 (λ_=>I) I Tryz.f4.params.toList args.toList ds p:=hA0;rw[Tryz.params4]at hA hval;have hsz:=hsz0;rw[Tryz.params4]at hsz;obtain⟨v0,vs0,d0,ds0,p0,q0,hargs,rfl,rfl,h0,r0⟩:=trodAll_cons hA;obtain⟨rfl,rfl,rfl⟩:=trodAll_nil r0;obtain rfl:args=#[v0]:=by cases args;simp_all
 obtain⟨rfl,rfl⟩:=trodVars_none hV;have k0:=h0;have lt0:∀x∈p0,x.block<W.heap.size:=by obtain⟨m,hm⟩:=k0;exact DataW.trod_lt m _ _ _ hm
 obtain⟨⟨c0⟩,rfl,_⟩:=okWide_struct Tryz.underlying31 (hval 0 31 v0 rfl rfl);obtain⟨x0,e0,s0⟩:=(let⟨n,hn⟩:=k0;qtR (enc:=enc) (W:=W) n _ _ hn (q5V (j:=0) hsz rfl rfl));clear hA0 hval0;obtain⟨M,last,o,w',t',r1,r2,r3,r4⟩:=qaO e0 s0;refine⟨M,last,o,w',t',r1,r2,r3,r4.mono λv hp=>?_⟩;obtain⟨bel,rfl⟩:=hp;exact⟨_,_,_,[],_,[],hW',trodAll_mk1 (shut_bool Tryz.underlying4 _),(trodAll_cons_mk (Below.trod laidOut se (ze se) k0 bel lt0) trodAll_mk0),rfl,bel.frame _,λh=>by cases h⟩
theorem qXC{a b}(h:a=I)(k:b=I):(a&&b)=I:=by rw[h,k];rfl
theorem j9:(Rows.topRestRow.inPlace==Tryz.pinned.checked.prog.inPlace 4)=I:=se
theorem j10:(Rows.topRestRow.unfollowed==Tryz.pinned.checked.prog.unfollowed 4)=I:=se
theorem j11:(Rows.topRestRow.recurses==Tryz.pinned.checked.prog.recurses 4)=I:=se
theorem j12:(Rows.topRestRow.named==Tryz.pinned.checked.prog.varsNamed 4)=I:=se
theorem j25:(Tryz.pinned.checked.prog.mayEnter)=I:=se
theorem j26:(Rows.topRestRow.lifted==Tryz.pinned.checked.prog.liftsFinal)=I:=se
theorem j27:(Tryz.pinned.checked.prog.make==O Rows.topRestRow.make)=I:=se
theorem closed:joinedFacts Tryz.pinned.checked.prog 4 Tryz.f4 Rows.topRestSpec Rows.topRestRow=I:=by
 unfold joinedFacts;exact(qXC (qXC (qXC (qXC (qXC (qXC (qXC (qXC (qXC (qXC (qXC (qXC (qXC (qXC (qXC (qXC (qXC (qXC (qXC (qXC (qXC (qXC (qXC (qXC (qXC (qXC (qXC (qXC (qXC (qXC (qXC se laidOut) se) se) se) se) se) se) se) j9) j10) j11) j12) se) se) se) se) se) se) se) se) se) se) se) se) j25) j26) j27) se) se) se) se)
theorem over:Rows.topRestRow.holds Tryz.pinned (OpenSpec.ofChange Rows.topRestSpec):=
 OpenClaim.holds_of_wide_leaving 4 Tryz.f4 rfl rfl rfl rfl rfl rfl rfl ⟨rfl,rfl,rfl,rfl,rfl⟩ rfl rfl rfl rfl rfl se Tryz.func4 closed
  (ze se) (by unfold Func.isWrapper;first|(rw[zk (by decide+kernel)];kernel_rfl)|(rw[zh (by decide+kernel)];exact⟨rfl,rfl⟩))
  (λh q u w _=>lifted h q u w)
theorem proved:Rows.TopRestSaid:=over
end Go.Proofs.YtlmhpamhhgogaaaGreat.topRest
