import Derived.Test.YtlmhpamhhgogaaaGreatL2
set_option linter.all false
set_option maxHeartbeats 16000000
set_option maxRecDepth 100000
open Bool renaming false→zb,true→I
open Go renaming Value→zg,maxLen→zAp,Addr→zAI
open Go.IntKind renaming i64→zAj
open Go.Value renaming int→zK
open List renaming range→zA8
open Option renaming some→O,none→zc
open _root_ renaming List→F,Nat→Z,Int→zt,Option→zy
namespace Go.Proofs.YtlmhpamhhgogaaaGreat
open Go.Proofs.YtlmhpamhhgogaaaGreat.Sx Go.Duo Go.RowKit
def qkb:F (Z×FnI):=[(40,FH.1),(79,EK.1),(80,Cu.1),(42,Dv.1)]
def qzW:q6B Tryz.prog qkb:=by
 intro x h;simp only[qkb,zs,zC,zAt]at h;rcases h with rfl|rfl|rfl|rfl
 .exact⟨_,_,FH.2⟩
 .exact⟨_,_,EK.2⟩
 .exact⟨_,_,Cu.2⟩
 .exact⟨_,_,Dv.2⟩
def qCc:isB F5=I:=by
 unfold isB;rw[qFS];kernel_rfl
def qmZ:qyH (qLB F5.first) (quE F5) F5.Av.length:=⟨sd,sb,sd⟩
def q0Z{k:Z}(h:k<40):F5.Bq[k]?=O (k:zt):=by
 show((zA8 40).map Int.ofNat)[k]?=_;rw[zAy,zCg h];rfl
def qaN(k):evN (k+1)=evN k++[(plN k).ev k]:=by simp[evN,zDc]
abbrev thC(x:ThD)(h a b d q:zg):F zg:=h::.int .i64 x.done::.bool x.on::(x.m.cs a b d++[q])
structure MS where
 o1:zy zAI
 t1:Z
 o2:zy zAI
 t2:Z
 o3:zy zAI
 t3:Z
 og:zy zAI
 cg:Z
abbrev MS.c1(y:MS)(x:ThD):zg:=.slice y.o1 x.m.op.Ao.Aa.length y.t1
abbrev MS.c2(y:MS)(x:ThD):zg:=.slice y.o2 x.m.op.Ao.Ar.length y.t2
abbrev MS.c3(y:MS)(x:ThD):zg:=.slice y.o3 x.m.op.Ao.Ad.length y.t3
abbrev MS.gv(y:MS)(x:ThD):zg:=.slice y.og x.given.length y.cg
structure Ip(g gw:GW)(lo:Z)(y:MS)(x:ThD):Prop where
 m:qdA gw (x.m.cs (y.c1 x) (y.c2 x) (y.c3 x)) x.m
 gv:Br g lo 55 13 (y.gv x) x.given.length (x.given.flatMap Ans.cs)
 new:∀a,y.og=O a->¬gw.g a.block
 ok:∀A∈x.given,A.ok
 nil:x.given=[]->y.og=zc/\y.cg=0
 len:x.given.length=x.done
structure Ji where
 k:Z
 s:PlD
 g:GW
 gw:GW
 a1:zy zAI
 b1:Z
 a2:zy zAI
 b2:Z
 a3:zy zAI
 b3:Z
 a4:zy zAI
 b4:Z
 a5:zy zAI
 b5:Z
 x:MS
 y:MS
 oo:zy zAI
 co:Z
abbrev Ji.wc(z:Ji):F zg:=[.int .i64 z.s.w.Ai,.int .i64 z.s.w.current,.int .i64 z.s.w.AL,.slice z.a1 z.s.w.pins.length z.b1,.slice z.a2 z.s.w.Ab.length z.b2,.slice z.a3 z.s.w.Aa.length z.b3,.slice z.a4 z.s.w.counts.length z.b4,.slice z.a5 z.s.w.An.length z.b5]
structure PlJ(g1:GW)(lo:Z)(z:Ji):Prop where
 k:z.k<=22
 s:z.s=plN z.k
 gw:g1<=z.gw/\z.gw<=z.g
 w:rWo z.gw z.wc z.s.w
 a:z.s.a.ops=[opH,opF]/\(z.k<22->Ip z.g z.gw lo z.x z.s.a)
 b:z.s.b.ops=[opW]/\(z.k<22->Ip z.g z.gw lo z.y z.s.b)
def Br.Lg{g}{lo}{ety}{size n cap}{a}{cs}(h:Br g lo ety size (.slice (O a) n cap) n cs):g.g a.block:=by
 obtain⟨_,q,_⟩:=h;rcases q with⟨q,_⟩|⟨_,_,_,q,u,_⟩
 .cases q
 .cases q;exact u.2
def Ip.keep{g q g' u}{lo}{y}{x}(h:Ip g q lo y x)(A:g<=g')(B:q<=u)(C:∀n,g.g n->¬q.g n->¬u.g n):Ip g' u lo y x:=
 ⟨qTA _ _ _ _ B h.m,h.gv.mono A,λa e=>C _ (Br.Lg (by have:=h.gv;unfold MS.gv at this;rwa [e]at this)) (h.new a e),h.ok,h.nil,h.len⟩
def KZ(g):qdA g (mZ.cs (.slice zc 0 0) (.slice zc 0 0) (.slice zc 0 0)) mZ:=
 ⟨_,_,_,rfl,⟨z0,z0,z0,z0,z0,z0,z0,z0,z0,zu,z0,z0,z0,z0,qwH,qiG⟩,⟨z0,z0,z0,z0⟩,qNF g⟩
abbrev ms0:MS:=⟨zc,0,zc,0,zc,0,zc,0⟩
def qnY{g q}{lo}{x}(hm:x.m=mZ)(u:x.given=[])(hd:x.done=0):Ip g q lo ms0 x:=by
 obtain⟨_,_,_,m,gv⟩:=x;subst hm;subst u;subst hd;exact⟨KZ _,⟨rfl,.inl ⟨rfl,rfl⟩,λB A=>by cases A⟩,(λa h=>by cases h),(λC h=>by cases h),λ_=>⟨rfl,rfl⟩,rfl⟩
def qSc{d n:Z}(h:(!decide ((n:zt)<=d))=zb):¬d<n:=by
 simp at h;omega
def qjR{d n:Z}(h:(!decide ((n:zt)<=d))=I):d<n:=by
 simp at h;omega
def wrk{k}(h:k<100):((k+1:Z):zt)=zAj.wrap ((k:zt)+1):=by
 rw[wr (x:=(k:zt)+1) si];omega
def pk2{k j:Z}{x:zt}{al:F zt}(h:k%al.length=j)(q:al[j]?=O x):al[(k:zt).toNat%al.length]?=O x:=by
 rw[zBB,h];exact q
def qhb{g}{q}{n A d}{l}(h:rSl 10 rOp g (.slice q n A) l)(hd:d<l.length):∃o a ec,l[d]?=O o/\q=O a/\ec.length=10/\rOp g ec o/\Rcs g (a.add (d*10)) ec:=by
 obtain⟨o,u⟩:=qEA hd;obtain⟨_,_,e,_,_,_,B⟩:=h;cases e;obtain⟨a,rfl,ec,C,D,E⟩:=B d o u;exact⟨o,a,ec,u,rfl,C,D,E⟩
def qmU{g g2}{u}{m:Ah}(h:qdA g u m)(B:m.op.Ao=⟨[],[],[]⟩):qdA g2 u m:=by
 obtain⟨a,b,d,e,C,D,A⟩:=h;refine⟨a,b,d,e,C,D,?_⟩;rw[B]at A⊢;obtain⟨_,_,_,e3,⟨_,_,e4,E,H,L,_⟩,⟨_,_,P,Q,R,T,_⟩,⟨_,_,U,V,W,Y,_⟩⟩:=A;exact⟨_,_,_,e3,⟨_,_,e4,E,H,L,λi x q=>by simp at q⟩,⟨_,_,P,Q,R,T,λi x q=>by simp at q⟩,⟨_,_,U,V,W,Y,λi x q=>by simp at q⟩⟩
def q4X{t}{gv}{o}:(qtK t gv o).op=o:=by
 unfold qtK;split<;>rfl
def qmY{g g2 h B}{t}(Q:InR t){ec}{o}{C}{D}{gv}(R:g<=h)(E:h<=B)(A:B<=g2)(T:rOp g ec o)(U:rSl 13 E9 g2 (.slice C gv.length D) gv)(V:gv.length<=1000)(H:o.Ao=⟨[],[],[]⟩\/(gv=[]/\C=zc/\D=0)):Ok Tryz.prog 82 [.int .i64 t,.agg ⟨ec⟩,.slice C gv.length D] g2 λv g'=>∃q u,(h<=u/\u<=g'/\∀n,u.g n->h.g n\/B.w.heap.size<=n)/\v=.agg ⟨q⟩/\qdA u q (qtK t gv o):=by
 rcases H with H|⟨rfl,rfl,rfl⟩
 .exact(qJI g2 Q U V (qYD _ _ _ _ (GW.trans R (GW.trans E A)) T)).mono λv g' L⟨q,e,hm⟩=>⟨q,h,⟨GW.refl _,GW.trans E (GW.trans A L),λn P=>.inl P⟩,e,qmU hm (by rw[q4X];exact H)⟩
 .refine(Ok.sub (GW.trans E A) ((qJI (given:=[]) h Q ⟨zc,0,rfl,zH _,zJ _,λ_=>⟨rfl,rfl⟩,λi x W=>by simp at W⟩ sb (qYD _ _ _ _ R T)).mono λv g' L hm=>(⟨L,hm⟩:h<=g'/\_))).mono ?_;rintro v g' _ ⟨u,Y,aa,ab,q,e,hm⟩;exact⟨q,u,⟨ab,Y,λn ac=>(aa n ac).imp id λP=>zY A.1 P⟩,e,hm⟩
def qPa(g){cs}(hs:qAG g cs F5):Ok Tryz.prog 15 [.agg ⟨cs⟩] g λv g'=>∃bC a8,v=.tuple #[bC,.agg ⟨a8⟩,.int .i64 0]/\rSl 23 rEv g' bC (evN 22)/\rWo g' a8 (plN 22).w:=by
 have cg:=hs;obtain⟨a,b,d,t,p,rfl,ch,ci,cj⟩:=hs;obtain⟨_,_,_,ab,⟨c6,c7,rfl,_⟩,⟨c8,c9,rfl,_⟩,⟨da,db,rfl,_⟩⟩:=ch;cases ab;obtain⟨ck,cm,a9,dc,dd,de,bD⟩:=id ci;replace a9:t=.slice ck 2 cm:=a9;obtain⟨_,cn,ba,df,dg,dh,bE⟩:=id cj;obtain⟨op,rfl,_⟩:=bE 0 0 rfl;replace ba:p=.slice (O op) 40 cn:=ba;subst a9 ba;obtain⟨at_,rfl,di,_,⟨dj,rfl,bF⟩,bb⟩:=bD 0 _ rfl;obtain⟨_,e,e1,_,⟨dk,rfl,bG⟩,bc⟩:=bD 1 _ rfl;cases e;replace bb:=bb 0 _ rfl;replace bc:=bc 0 _ rfl;obtain⟨cp,cq,rfl,_⟩:=id bF;obtain⟨cr,ct,rfl,_⟩:=id bG
 exact Ok.Aq hm qzW 3 Oa.2 (args:=[.v (.agg ⟨_⟩)]) (by
  refine zq ?_;intros;rename_i dl aU;refine .inr ((qAV _ cg qCc (by unfold SmS;decide) sd qmZ sb sb).mono λv g1 ao hW=>?_);obtain⟨cu,rfl,hW⟩:=hW;replace hW:rWo g1 cu (plN 0).w:=hW;obtain⟨bH,bI,bJ,bK,bL,bM,bN,bO,bP,bQ,rfl⟩:=qLA hW;refine zq ?_;intros;rename_i bd;refine zw ?_;refine⟨λh=>(nomatch h),λ_=>zq ?_⟩;intros;refine⟨⟨sb,sb,sb,sb⟩,zq ?_⟩;intros;rename_i be;refine zw ?_;refine q8B 3 (zq ?_);intros;refine⟨λ_=>zq ?_,λh=>nomatch h⟩;intros;refine⟨at_,rfl,⟨sb,sb⟩,zw ?_⟩;refine⟨_,bb.mono ao,zq ?_⟩;intros;refine⟨⟨sb,sb⟩,zq ?_⟩;intros;refine qXE rfl (by(try simp only[thC,Ah.cs,zBu,zBV,zBK,zBx,zBi,zA9]);exact rfl) ⟨zAq rfl,sb⟩ (zq ?_);intros;refine qWB (zq ?_);intros;refine⟨λ_=>zq ?_,λh=>nomatch h⟩;intros;refine⟨at_,rfl,⟨sb,sb⟩,zw ?_⟩;refine⟨_,bc.mono ao,zq ?_⟩;intros;refine⟨⟨sb,sb⟩,zq ?_⟩;intros;refine qXE rfl (by(try simp only[thC,Ah.cs,zBu,zBV,zBK,zBx,zBi,zA9]);exact rfl) ⟨zAq rfl,sb⟩ (zq ?_);intros;refine qWB (zq ?_);intros;refine⟨λh=>(nomatch h),λ_=>zq ?_⟩;intros;refine⟨Ji,λz=>[.row 20 z.oo z.k z.co,.v (.int .i64 z.k)],λz=>⟨z.g,[.row 20 z.oo z.k z.co 121 23 ((evN z.k).flatMap Ev.cs),.row 3 (O ⟨be,0,zc⟩) 2 2 114 48 (thC z.s.a (.slice cp 2 cq) (z.x.c1 z.s.a) (z.x.c2 z.s.a) (z.x.c3 z.s.a) (z.x.gv z.s.a)++thC z.s.b (.slice cr 1 ct) (z.y.c1 z.s.b) (z.y.c2 z.s.b) (z.y.c3 z.s.b) (z.y.gv z.s.b)),.blk 2 bd 44 (z.wc.map .v),.blk 1 aU 44 [.v (.int .i64 0),.v (.int .i64 0),.v (.int .i64 0),.v (.slice zc 0 0),.v (.slice zc 0 0),.v (.slice zc 0 0),.v (.slice zc 0 0),.v (.slice zc 0 0)]],40,g.w.heap.size⟩,PlJ g1 g.w.heap.size,λz=>22-z.k,λbf w cv=>⟨⟨0,plN 0,g1,g1,bH,bI,bJ,bK,bL,bM,bN,bO,bP,bQ,ms0,ms0,zc,0⟩,rfl,⟨zJ _,rfl,⟨GW.refl _,GW.refl _⟩,hW,⟨rfl,λ_=>qnY rfl rfl rfl⟩,⟨rfl,λ_=>qnY rfl rfl rfl⟩⟩,?_⟩,?_⟩
  .exact(cv.DK (nx':=40) 20 121 23).fit (.inl ⟨⟨rfl,rfl,rfl,rfl,rfl,rfl⟩,.inl ⟨⟨rfl,rfl,rfl,rfl,rfl,rfl⟩,.inl ⟨⟨rfl,rfl,rfl⟩,.inl ⟨⟨rfl,rfl,rfl⟩,trivial⟩⟩⟩⟩)
  clear hW;rintro⟨k,s,aW,aX,bH,bI,bJ,bK,bL,bM,bN,bO,bP,bQ,⟨bR,bT,bU,bW,bX,bY,aY,aZ⟩,⟨bh,bi,bj,bl,bm,v3,ap,aq⟩,dm,dp⟩ ⟨aa,hs,⟨ac,ar⟩,hW,⟨bn,au⟩,⟨bo,av⟩⟩;replace aa:k<=22:=aa;obtain⟨w,⟨bZ,u,P,mA,q⟩,⟨b0,B,E,Q,D⟩⟩:=s;replace hs:(⟨w,⟨bZ,u,P,mA,q⟩,⟨b0,B,E,Q,D⟩⟩:PlD)=plN k:=hs;replace bn:bZ=[opH,opF]:=bn;replace bo:b0=[opW]:=bo;subst bn bo;dsimp only at*;refine zq ?_;intros;refine dT sa ?_;obtain⟨_,e,bp,_,⟨rfl,_⟩,cw⟩:=bE k k (q0Z sa);cases e;have b1:=GW.trans ao (GW.trans ac ar);refine zq ?_;intros;refine⟨op,rfl,⟨sa,sa⟩,zw ?_⟩;refine⟨_,(cw 0 _ rfl).mono b1,zq ?_⟩;intros;rename_i dq dr;refine zw ?_;refine⟨kF,λlp ds=>zq ?_⟩;intros;refine q8B 3 (zq ?_);intros
  have a0:k<22->Hv w ((plN k).BJ k)/\((plN k).a.alive||(plN k).b.alive)=I:=λh=>by
   have:=Jg qzZ h;rw[zl]at this;exact⟨by rw[<-hs]at this⊢;exact qrQ this.1,this.2⟩
  have bq:((plN k).a.alive||(plN k).b.alive)=I->k<22:=λh=>Nat.lt_of_le_of_ne aa λe=>by
   subst e;rw[qPc]at h;cases h
  rw[<-hs]at a0 bq;by_cases af:k<22;rotate_left
  .have T:¬u<2:=λh=>af (bq (by simp[ThD.alive,h]));have U:¬B<1:=λh=>af (bq (by simp[ThD.alive,h]));obtain rfl:k=22:=sa
   refine zw ?_;refine⟨λ_=>zq ?_,λh=>nomatch h⟩;intros;refine⟨⟨sb,sb⟩,zq ?_⟩;intros
   repeat'((first|refine⟨_,rfl,zq ?_⟩|rfl)<;>intros)
   refine⟨λA=>absurd (qjR A) T,λ_=>zq ?_⟩;intros;refine qWB (zq ?_);intros;refine⟨λ_=>zq ?_,λh=>nomatch h⟩;intros;refine⟨⟨sb,sb⟩,zq ?_⟩;intros
   repeat'((first|refine⟨_,rfl,zq ?_⟩|rfl)<;>intros)
   refine⟨λA=>absurd (qjR A) U,λ_=>zq ?_⟩;intros;refine qWB (zq ?_);intros;refine⟨λh=>(nomatch h),λ_=>zq ?_⟩;intros;refine .inl ⟨_,qqX _ sa,zq ?_⟩;intros;refine⟨λ_=>zq ?_,λh=>nomatch h⟩;intros;intro g3 aw _ cx;refine zq ?_;intros;intro g2 b2;refine⟨_,_,rfl,(q7C (l:=evN 22) cx.rd (·.cs) rfl (by simp[evN]) (λx _=>rfl) λx _=>rfl).mono (λ_ _ _ _ _ h=>h) b2,?_⟩;have:=qBA _ _ _ _ (GW.trans ar (GW.trans aw b2)) hW;rw[<-hs];exact this
  replace au:=au af;replace av:=av af;have cy:=(a0 af).2
  have cz:(u<2/\B<1/\k%2=0)\/(u<2/\B<1/\k%2=1)\/(u<2/\¬B<1/\k%1=0)\/(¬u<2/\B<1/\k%1=0):=by
   simp[ThD.alive]at cy;omega
  rcases cz with⟨T,U,ab⟩|⟨T,U,ab⟩|⟨T,U,ab⟩|⟨T,U,ab⟩
  all_goals
   refine zw ?_;refine⟨λ_=>zq ?_,λh=>nomatch h⟩;intros;refine⟨⟨sb,sb⟩,zq ?_⟩;intros
   repeat'((first|refine⟨_,rfl,zq ?_⟩|rfl)<;>intros)
   refine zw ?_
   first|refine⟨λ_=>?_,λA=>absurd T (qSc A)⟩|refine⟨λA=>absurd (qjR A) T,λ_=>?_⟩
   refine zq ?_;intros
   repeat'((first|refine⟨⟨sb,sb⟩,zq ?_⟩|rfl)<;>intros)
   refine qWB (zq ?_);intros;refine⟨λ_=>zq ?_,λh=>nomatch h⟩;intros;refine⟨⟨sb,sb⟩,zq ?_⟩;intros
   repeat'((first|refine⟨_,rfl,zq ?_⟩|rfl)<;>intros)
   refine zw ?_
   first|refine⟨λ_=>?_,λA=>absurd U (qSc A)⟩|refine⟨λA=>absurd (qjR A) U,λ_=>?_⟩
   refine zq ?_;intros
   repeat'((first|refine⟨⟨sb,sb⟩,zq ?_⟩|rfl)<;>intros)
   refine qWB (zq ?_);intros;refine⟨λh=>(nomatch h),λ_=>zq ?_⟩;intros;intro g2 ad cA a1;have a2:∀x:zt,0<=x/\x<=1->InR x:=λx h=>si
   first
    |have a3:=qOC (R:=BX) a1.rd [(0:zt),1] (zK .i64) rfl (λx A=>⟨rfl,a2 x (by simp at A;omega)⟩)
    |have a3:=qOC (R:=BX) a1.rd [(0:zt)] (zK .i64) rfl (λx A=>⟨rfl,a2 x (by simp at A;omega)⟩)
    |have a3:=qOC (R:=BX) a1.rd [(1:zt)] (zK .i64) rfl (λx A=>⟨rfl,a2 x (by simp at A;omega)⟩)
   refine zq ?_;intros;refine .inl ⟨_,qQa _ a3 sa (pk2 ab rfl),?_⟩;clear a3 a2 a1 cA
   first
    |have V:PlD.pick ⟨w,⟨[opH,opF],u,P,mA,q⟩,⟨[opW],B,E,Q,D⟩⟩ k=0:=by simp[PlD.pick,ThD.alive,T,U,ab]
     have C:=au;obtain⟨o,cB,bp,ax,rfl,b3,br,b4⟩:=qhb bF T;have ag:Hv w (ThD.BJ ⟨[opH,opF],u,P,mA,q⟩ 0):=by have:=(a0 af).1;unfold PlD.BJ at this;rw[V]at this;exact this
     have b5:=qmY (t:=0) z0 (GW.trans ao ac) ar ad br (q7C (l:=q) (C.gv.mono ad).rd Ans.cs rfl rfl (λx _=>rfl) λx A=>⟨rfl,C.ok x A⟩) (by show q.length<=1000;have:q.length=u:=C.len;omega) (.inl (by
      have:o=opH\/o=opF:=by have:=zh ax;simpa using this
      rcases this with rfl|rfl<;>rfl))
     have ah:(q=[]/\aY=zc/\aZ=0)\/q≠[]:=by
      by_cases h:q=[]
      .exact .inl ⟨h,C.nil h⟩
      .exact .inr h
     have b6:0<=(u:zt)/\(u:zt)<(2:Z):=⟨sa,sa⟩;have b7:P=zb->ThD.BJ ⟨[opH,opF],u,P,mA,q⟩ 0=qtK 0 q o:=λh=>by subst h;unfold ThD.BJ ThD.op;rw[ax];rfl
     have b8:P=I->ThD.BJ ⟨[opH,opF],u,P,mA,q⟩ 0=mA:=λh=>by subst h;rfl
     obtain⟨b9,bt⟩:∃b,P=b:=⟨_,rfl⟩
    |have V:PlD.pick ⟨w,⟨[opH,opF],u,P,mA,q⟩,⟨[opW],B,E,Q,D⟩⟩ k=1:=by simp[PlD.pick,ThD.alive,T,U,ab]
     have C:=av;obtain⟨o,cB,bp,ax,rfl,b3,br,b4⟩:=qhb bG U;have ag:Hv w (ThD.BJ ⟨[opW],B,E,Q,D⟩ 1):=by have:=(a0 af).1;unfold PlD.BJ at this;rw[V]at this;exact this
     have aj:D=[]:=zA4.1 (by have:D.length=B:=C.len;omega);have b5:=qmY (t:=1) sw (GW.trans ao ac) ar ad br (q7C (l:=D) (C.gv.mono ad).rd Ans.cs rfl rfl (λx _=>rfl) λx A=>⟨rfl,C.ok x A⟩) (by rw[aj];exact zJ _) (.inr ⟨aj,C.nil aj⟩);have ah:(D=[]/\ap=zc/\aq=0)\/D≠[]:=.inl ⟨aj,C.nil aj⟩;have b6:0<=(B:zt)/\(B:zt)<(1:Z):=⟨sa,sa⟩;have b7:E=zb->ThD.BJ ⟨[opW],B,E,Q,D⟩ 1=qtK 1 D o:=λh=>by subst h;unfold ThD.BJ ThD.op;rw[ax];rfl
     have b8:E=I->ThD.BJ ⟨[opW],B,E,Q,D⟩ 1=Q:=λh=>by subst h;rfl
     obtain⟨b9,bt⟩:∃b,E=b:=⟨_,rfl⟩
   unfold ThD.BJ ThD.op at ag;rw[ax]at ag;refine zq ?_;intros;refine⟨λh=>(nomatch h),λ_=>zq ?_⟩;intros;refine⟨⟨sb,sb⟩,zq ?_⟩;intros
   repeat'((first|refine⟨_,rfl,zq ?_⟩|rfl)<;>intros)
   cases b9
   case' false=>
    subst bt;refine zw ?_;refine⟨λ_=>zq ?_,λh=>nomatch h⟩;intros
    repeat'((first|refine⟨_,rfl,zq ?_⟩|rfl)<;>intros)
    refine⟨b6,zw ?_⟩;refine⟨bp,⟨b3,b4.mono (GW.trans b1 ad)⟩,zq ?_⟩;intros
    repeat'((first|refine⟨_,rfl,zq ?_⟩|rfl)<;>intros)
    refine .inr (b5.mono λv g3 aw ai=>?_);obtain⟨dt,du,⟨bu,ca,cb⟩,rfl,hM⟩:=ai;obtain⟨_,_,_,_,_,_,rfl⟩:=q1B hM;have ae:=b7 rfl;refine zq ?_;intros;refine qXE rfl (by(try simp only[thC,Ah.cs,zBu,zBV,zBK,zBx,zBi,zA9]);exact rfl) ⟨zAq rfl,sb⟩ (zq ?_);intros;refine qXE rfl (by(try simp only[thC,Ah.cs,zBu,zBV,zBK,zBx,zBi,zA9]);exact rfl) ⟨zAq rfl,sb⟩ ?_
   case' true=>
    subst bt;refine zw ?_;refine⟨λh=>(nomatch h),λ_=>?_⟩;have hM:=C.m;have bu:=GW.refl aX;have ca:=GW.trans ar ad;have cb:∀n,aX.g n->aX.g n\/aW.w.heap.size<=n:=λn h=>.inl h;have aw:=GW.refl g2;have ae:=b8 rfl
   all_goals
    refine zq ?_;intros;refine quY rfl (zq ?_);intros;refine .inr ((Ok.sub ca ((qvR (qBA _ _ _ _ bu hW) hM ag.sn ag.bg ag.sm ag.kind).mono λv g' cC ai=>(⟨cC,ai⟩:_/\_))).mono λv cc cD ai=>?_);obtain⟨ak,al,cG,cH,ai⟩:=ai;obtain⟨ay,W,eN,a8,dv,⟨bv,a4,bw⟩,rfl,am,a5⟩:=ai.named;obtain⟨az,aA,aB,aC,aD,aE,aF,aG,aH,aI,rfl⟩:=qLA am;obtain⟨aJ,aK,aL,aM,aN,aO,rfl⟩:=q1B a5;have Y:=GW.trans bu cH;have an:∀n,aW.g n->¬aX.g n->¬ak.g n:=λn aU bd be=>(cG n be).elim (λh=>(cb n h).elim bd λbx=>absurd (aW.wf n aU) (zDf.2 bx)) λbx=>absurd (aW.wf n aU) (zDf.2 (zY (zY ad.1 aw.1) bx));have aP:=GW.trans ad (GW.trans aw cD);refine zq ?_;intros;refine qXE rfl (by(try simp only[thC,Ah.cs,zBu,zBV,zBK,zBx,zBi,zA9]);exact rfl) ⟨zAq rfl,sb⟩ (zq ?_);intros
    repeat'((first|refine⟨_,rfl,zq ?_⟩|rfl)<;>intros)
    refine⟨λaQ=>?_,λaQ=>?_⟩
    .rcases ah with⟨rfl,rfl,rfl⟩|ah
     .refine zq ?_;intros
      repeat'((first|refine⟨_,rfl,zq ?_⟩|refine qXE rfl (by(try simp only[thC,Ah.cs,zBu,zBV,zBK,zBx,zBi,zA9]);exact rfl) ⟨zAq rfl,sb⟩ (zq ?_)|refine⟨⟨zAq rfl,sb⟩,zq ?_⟩|rfl)<;>intros)
      rename_i a6 a7;refine zw ?_;intro bz bA cI cJ;refine zq ?_;intros
      repeat'((first|refine⟨_,rfl,zq ?_⟩|refine qXE rfl (by(try simp only[thC,Ah.cs,zBu,zBV,zBK,zBx,zBi,zA9]);exact rfl) ⟨zAq rfl,sb⟩ (zq ?_)|refine⟨⟨zAq rfl,sb⟩,zq ?_⟩|rfl)<;>intros)
      refine⟨⟨by unfold zAp;omega,sa⟩,zq ?_⟩;intros;rename_i H L
      first|rw[<-wrk (k:=u) sa]|rw[<-wrk (k:=B) sa]
      refine zw ?_;intro bf cd aR;have ce:=GW.trans aP bA
      first
       |refine⟨⟨k+1,⟨ay,⟨[opH,opF],u+1,zb,W,[W.answer]⟩,⟨[opW],B,E,Q,D⟩⟩,bz,ak,az,aA,aB,aC,aD,aE,aF,aG,aH,aI,⟨aJ,aK,aL,aM,aN,aO,a6,a7⟩,⟨bh,bi,bj,bl,bm,v3,ap,aq⟩,H,L⟩,zI (λz=>[Value.slice H (k+1) L,zK .i64 z]) (wrk sa),⟨sr,?_,⟨GW.trans ac Y,GW.trans al bA⟩,am,⟨rfl,λ_=>?_⟩,⟨rfl,λ_=>av.keep ce Y an⟩⟩,sr,?_⟩
       |refine⟨⟨k+1,⟨ay,⟨[opH,opF],u,P,mA,q⟩,⟨[opW],B+1,zb,W,[W.answer]⟩⟩,bz,ak,az,aA,aB,aC,aD,aE,aF,aG,aH,aI,⟨bR,bT,bU,bW,bX,bY,aY,aZ⟩,⟨aJ,aK,aL,aM,aN,aO,a6,a7⟩,H,L⟩,zI (λz=>[Value.slice H (k+1) L,zK .i64 z]) (wrk sa),⟨sr,?_,⟨GW.trans ac Y,GW.trans al bA⟩,am,⟨rfl,λ_=>au.keep ce Y an⟩,⟨rfl,λ_=>?_⟩⟩,sr,?_⟩
      .show _=(plN k).next k;rw[<-hs,qXQ V ae bv a4];simp[PlD.put,PlD.th,ThD.Ak,aQ]
      .refine⟨a5,cJ,λa e cK=>cI a e (al.2 _ cK).1,λdw h=>?_,(λh=>by cases h),?_⟩
       .obtain rfl:=zA3.1 h;obtain⟨_,_,_,_,cL,_⟩:=a5;exact cL.answer
       .have:=C.len;exact zI (·+1) this
      .have aT:=(zI (λz=>(evN k).flatMap Ev.cs++Ev.cs z) (q6a V ae bw)).symm.trans (show _=(evN (k+1)).flatMap Ev.cs by rw[qaN,<-hs,zDj];simp);refine aR.fit ?_
       repeat' first|exact trivial|refine .inl ⟨⟨rfl,rfl,rfl,rfl,rfl,rfl⟩,?_⟩|refine .inl ⟨⟨rfl,rfl,rfl,rfl,rfl,aT⟩,?_⟩|refine .inl ⟨⟨rfl,rfl,rfl⟩,?_⟩|refine .inr ?_
     .first
      |exact absurd aj ah
      |have dx:=ah
       have dy:k=21:=by
        rcases zAJ k 21 with h|h
        .have:=Jg qyZ h;rw[<-hs]at this;unfold PlD.BJ at this;rw[V,<-(Gw _ _).2]at this;have e:psM w (ThD.BJ _ _)=W:=(zI (psM w) ae).trans a4;simp only[PlD.th,zk]at this;erw [e,aQ]at this;cases cf:q with
         |nil=>exact absurd cf ah
         |cons=>simp[cf]at this
        .omega
       obtain⟨cN,⟨_,bB⟩|⟨b,cap,cO,bB,⟨cP,cQ⟩,cR,cU,cV,cX⟩,cY⟩:=C.gv.mono aP
       .exact absurd (zA4.1 bB) ah
       cases bB;have cZ:=an b (Br.Lg C.gv) (C.new _ rfl);have dz:q.length=u:=C.len;refine zq ?_;intros
       repeat'((first|refine⟨_,rfl,zq ?_⟩|refine qXE rfl (by(try simp only[thC,Ah.cs,zBu,zBV,zBK,zBx,zBi,zA9]);exact rfl) ⟨zAq rfl,sb⟩ (zq ?_)|refine⟨⟨zAq rfl,sb⟩,zq ?_⟩|rfl)<;>intros)
       refine .inr (.inl ⟨b,_,cO,⟨rfl,cP,cQ,cR,cN,cY,cU,cV,cX,by show q.length+1<=zAp;unfold zAp;omega,by show(q.length+1)*104<=_;omega⟩,λbz c0=>zq ?_⟩);intros;rename_i a6 a7;refine zw ?_;intro c4 c5 dA dB;refine zq ?_;intros
       repeat'((first|refine⟨_,rfl,zq ?_⟩|refine qXE rfl (by(try simp only[thC,Ah.cs,zBu,zBV,zBK,zBx,zBi,zA9]);exact rfl) ⟨zAq rfl,sb⟩ (zq ?_)|refine⟨⟨zAq rfl,sb⟩,zq ?_⟩|rfl)<;>intros)
       refine⟨⟨by unfold zAp;omega,sa⟩,zq ?_⟩;intros;rename_i H L;rw[<-wrk (k:=u) sa,<-show(q++[W.answer]).length=q.length+1 by simp];refine zw ?_;intro bf cd aR;refine⟨⟨k+1,⟨ay,⟨[opH,opF],u+1,zb,W,q++[W.answer]⟩,⟨[opW],B,E,Q,D⟩⟩,c4,ak,az,aA,aB,aC,aD,aE,aF,aG,aH,aI,⟨aJ,aK,aL,aM,aN,aO,a6,a7⟩,⟨bh,bi,bj,bl,bm,v3,ap,aq⟩,H,L⟩,zI (λz=>[Value.slice H (k+1) L,zK .i64 z]) (wrk sa),⟨sr,?_,⟨GW.trans ac Y,GW.trans (c0.le al cZ) c5⟩,am,⟨rfl,λh=>absurd h sr⟩,⟨rfl,λh=>absurd h sr⟩⟩,sr,?_⟩
       .show _=(plN k).next k;rw[<-hs,qXQ V ae bv a4];simp[PlD.put,PlD.th,ThD.Ak,aQ]
       .have aT:=(zI (λz=>(evN k).flatMap Ev.cs++Ev.cs z) (q6a V ae bw)).symm.trans (show _=(evN (k+1)).flatMap Ev.cs by rw[qaN,<-hs,zDj];simp);refine aR.fit ?_
        repeat' first|exact trivial|refine .inl ⟨⟨rfl,rfl,rfl,rfl,rfl,rfl⟩,?_⟩|refine .inl ⟨⟨rfl,rfl,rfl,rfl,rfl,aT⟩,?_⟩|refine .inl ⟨⟨rfl,rfl,rfl⟩,?_⟩|refine .inr ?_
    .refine zq ?_;intros
     repeat'((first|refine⟨_,rfl,zq ?_⟩|refine qXE rfl (by(try simp only[thC,Ah.cs,zBu,zBV,zBK,zBx,zBi,zA9]);exact rfl) ⟨zAq rfl,sb⟩ (zq ?_)|refine⟨⟨zAq rfl,sb⟩,zq ?_⟩|rfl)<;>intros)
     refine⟨⟨by unfold zAp;omega,sa⟩,zq ?_⟩;intros;rename_i H L;refine zw ?_;intro bf cd aR
     first
      |refine⟨⟨k+1,⟨ay,⟨[opH,opF],u,I,W,q⟩,⟨[opW],B,E,Q,D⟩⟩,cc,ak,az,aA,aB,aC,aD,aE,aF,aG,aH,aI,⟨aJ,aK,aL,aM,aN,aO,aY,aZ⟩,⟨bh,bi,bj,bl,bm,v3,ap,aq⟩,H,L⟩,zI (λz=>[Value.slice H (k+1) L,zK .i64 z]) (wrk sa),⟨sr,?_,⟨GW.trans ac Y,al⟩,am,⟨rfl,λ_=>?_⟩,⟨rfl,λ_=>av.keep aP Y an⟩⟩,sr,?_⟩
      |refine⟨⟨k+1,⟨ay,⟨[opH,opF],u,P,mA,q⟩,⟨[opW],B,I,W,D⟩⟩,cc,ak,az,aA,aB,aC,aD,aE,aF,aG,aH,aI,⟨bR,bT,bU,bW,bX,bY,aY,aZ⟩,⟨aJ,aK,aL,aM,aN,aO,ap,aq⟩,H,L⟩,zI (λz=>[Value.slice H (k+1) L,zK .i64 z]) (wrk sa),⟨sr,?_,⟨GW.trans ac Y,al⟩,am,⟨rfl,λ_=>au.keep aP Y an⟩,⟨rfl,λ_=>?_⟩⟩,sr,?_⟩
     .show _=(plN k).next k;rw[<-hs,qXQ V ae bv a4];simp[PlD.put,PlD.th,ThD.Ak,aQ]
     .have aa:=C.keep aP Y an;exact⟨a5,aa.gv,aa.new,aa.ok,aa.nil,aa.len⟩
     .have aT:=(zI (λz=>(evN k).flatMap Ev.cs++Ev.cs z) (q6a V ae bw)).symm.trans (show _=(evN (k+1)).flatMap Ev.cs by rw[qaN,<-hs,zDj];simp);refine aR.fit ?_
      repeat' first|exact trivial|refine .inl ⟨⟨rfl,rfl,rfl,rfl,rfl,rfl⟩,?_⟩|refine .inl ⟨⟨rfl,rfl,rfl,rfl,rfl,aT⟩,?_⟩|refine .inl ⟨⟨rfl,rfl,rfl⟩,?_⟩|refine .inr ?_)
end Go.Proofs.YtlmhpamhhgogaaaGreat
