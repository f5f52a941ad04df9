import Derived.Test.YtlmhpamhhgogaaaGreatL1
set_option linter.all false
set_option maxHeartbeats 16000000
set_option maxRecDepth 100000
open Bool renaming false→zb,true→I
open Go renaming Value→zg,maxLen→zAr,Addr→zAH
open Go.IntKind renaming i64→zAf
open Go.Proofs.Tryz renaming prog→X0
open Go.Value renaming int→zD
open List renaming replicate→zA5
open Option renaming some→O,none→zc
open _root_ renaming List→F,Nat→Z,Int→zn,Option→zs
namespace Go.Proofs.YtlmhpamhhgogaaaGreat
open Go.Proofs.YtlmhpamhhgogaaaGreat.Sx Go.Duo Go.RowKit
def Mm:F (Z×FnI):=[(40,Ge.1),(79,E6.1),(80,Cq.1),(42,Dz.1)]
def quV:qqB X0 Mm:=qPA Ge.2 (qPA E6.2 (qPA Cq.2 (qPA Dz.2 noT)))
abbrev thC(x:ThD)(h a b d q:zg):F zg:=h::.int .i64 x.done::.bool x.on::(x.m.cs a b d++[q])
structure MS where
 o1:zs zAH
 t1:Z
 o2:zs zAH
 t2:Z
 o3:zs zAH
 t3:Z
 og:zs zAH
 cg:Z
 ov:zs zAH
 cv:Z
abbrev MS.c1(y:MS)(x:ThD):zg:=.slice y.o1 x.m.op.Ap.Aa.length y.t1
abbrev MS.c2(y:MS)(x:ThD):zg:=.slice y.o2 x.m.op.Ap.As.length y.t2
abbrev MS.c3(y:MS)(x:ThD):zg:=.slice y.o3 x.m.op.Ap.Ad.length y.t3
abbrev MS.gv(y:MS)(x:ThD):zg:=.slice y.og x.given.length y.cg
structure GY(g gw:GW)(lo:Z)(y:MS)(x:ThD):Prop where
 m:qeA gw (x.m.cs (y.c1 x) (y.c2 x) (y.c3 x)) x.m
 gv:AX g lo 55 13 (y.gv x) x.given.length (x.given.flatMap Ans.cs)
 new:∀a,y.og=O a->¬gw.g a.block
 ok:∀A∈x.given,A.ok
 nil:x.given=[]->y.og=zc/\y.cg=0
 len:x.given.length=x.done
def AX.J6{g}{lo}{ety}{size n cap}{a}{cs}(h:AX g lo ety size (.slice (O a) n cap) n cs):g.g a.block:=by
 obtain⟨_,q,_⟩:=h;rcases q with⟨q,_⟩|⟨_,_,_,q,u,_⟩
 .cases q
 .cases q;exact u.2
def GY.keep{g q g' u}{lo}{y}{x}(h:GY g q lo y x)(w:g<=g')(A:q<=u)(B:∀n,g.g n->¬q.g n->¬u.g n):GY g' u lo y x:=
 ⟨qUA _ _ _ _ A h.m,h.gv.mono w,λa e=>B _ (AX.J6 (by have:=h.gv;unfold MS.gv at this;rwa [e]at this)) (h.new a e),h.ok,h.nil,h.len⟩
def M6(g):qeA g (mZ.cs (.slice zc 0 0) (.slice zc 0 0) (.slice zc 0 0)) mZ:=
 ⟨_,_,_,rfl,⟨z0,z0,z0,z0,z0,z0,z0,z0,z0,zu,z0,z0,z0,z0,qHH,qEG⟩,⟨z0,z0,z0,z0⟩,q1E g⟩
abbrev ms0(h:zs zAH)(q:Z):MS:=⟨zc,0,zc,0,zc,0,zc,0,h,q⟩
def qha{g q}{lo}{u w}{x}(hm:x.m=mZ)(A:x.given=[])(hd:x.done=0):GY g q lo (ms0 u w) x:=by
 obtain⟨_,_,_,m,gv⟩:=x;subst hm;subst A;subst hd;exact⟨M6 _,⟨rfl,.inl ⟨rfl,rfl⟩,λC B=>by cases B⟩,(λa h=>by cases h),(λD h=>by cases h),λ_=>⟨rfl,rfl⟩,rfl⟩
def MU{d n:Z}(h:(!decide ((n:zn)<=d))=zb):¬d<n:=by
 simp at h;omega
def qKb{d n:Z}(h:(!decide ((n:zn)<=d))=I):d<n:=by
 simp at h;omega
def wrk{k}(h:k<100):((k+1:Z):zn)=zAf.wrap ((k:zn)+1):=by
 rw[wr (x:=(k:zn)+1) sg];omega
def Mh{g}{q}{n w d}{l}(h:rSl 10 rOp g (.slice q n w) l)(hd:d<l.length):∃o a ec,l[d]?=O o/\q=O a/\ec.length=10/\rOp g ec o/\Rcs g (a.add (d*10)) ec:=by
 obtain⟨o,u⟩:=qBA hd;obtain⟨_,_,e,_,_,_,A⟩:=h;cases e;obtain⟨a,rfl,ec,B,C,D⟩:=A d o u;exact⟨o,a,ec,u,rfl,B,C,D⟩
def qwW{t}{gv}{o}:(qmB t gv o).op=o:=by
 unfold qmB;split<;>rfl
def PsP.named{w}{m:Aj}{v}{g}(h:PsP w m v g):∃W u E cs q,(psW w m=W/\psM w m=u/\psE w m=E)/\v=.tuple #[.agg ⟨cs⟩,.agg ⟨q⟩,.agg ⟨E.cs⟩]/\rWo g cs W/\qeA g q u:=by
 obtain⟨cs,q,A,B,C⟩:=h;exact⟨_,_,_,cs,q,⟨rfl,rfl,rfl⟩,A,B,C⟩
def JY{C:F (F zg)}{t:Z}{c c':F zg}(h:∀c∈C,c.length=48)(u:C[t]?=O c)(hl:c'.length=48):(∀x∈C.set t c',x.length=48)/\(C.set t c')[t]?=O c':=
 ⟨λx q=>by
  rcases zBc q with q|rfl
  .exact h x q
  .exact hl,qhA u⟩
abbrev qKE(x:ThD)(y:MS):F zg:=thC x (.slice y.ov x.ops.length y.cv) (y.c1 x) (y.c2 x) (y.c3 x) (y.gv x)
structure KM(g1 g gw:GW)(lo:Z)(ths:F ThD)(C:F (F zg))(Y:Z->MS):Prop where
 len:C.length=ths.length
 sz:∀c∈C,c.length=48
 each:∀(t:Z)x,ths[t]?=O x->C[t]?=O (qKE x (Y t))/\rSl 10 rOp g1 (.slice (Y t).ov x.ops.length (Y t).cv) x.ops/\GY g gw lo (Y t) x
 J7:∀(t u:Z)a b,t≠u->t<ths.length->u<ths.length->(Y t).og=O a->(Y u).og=O b->a.block≠b.block
def qgZ{C:F (F zg)}{t:Z}{x:ThD}{y:MS}(hs:∀c∈C,c.length=48)(hc:C[t]?=O (qKE x y)):∀(i:Z)u,(x.m.cs (y.c1 x) (y.c2 x) (y.c3 x))[i]?=O u->C.flatten[t*48+3+i]?=O u:=λi u h=>by
 rw[zCS,zDH 3 i];refine qgC (off:=i+3) hs hc ?_;show(x.m.cs (y.c1 x) (y.c2 x) (y.c3 x)++[y.gv x])[i]?=O u;rw[zAc (zd.1 h).1];exact h
def KM.set{T g U g' H}{lo}{B}{C}{Y}(h:KM T g U lo B C Y){t}{x x'}{q}(L:B[t]?=O x)(aa:x'.ops=x.ops)(V:q.ov=(Y t).ov/\q.cv=(Y t).cv)(hk:GY g' H lo q x')(ab:∀(u:Z)z,u≠t->B[u]?=O z->GY g U lo (Y u) z->GY g' H lo (Y u) z)(hd:∀(u:Z)a b,u≠t->u<B.length->q.og=O a->(Y u).og=O b->a.block≠b.block):KM T g' H lo (B.set t x') (C.set t (qKE x' q)) (λu=>if u=t then q else Y u):=by
 have ah:=(zd.1 L).1;obtain⟨ac,ad,_⟩:=h.each t x L;have p:=JY (c':=qKE x' q) h.sz ac rfl;refine⟨by rw[zX,zX];exact h.len,p.1,λu z D=>?_,λu v a b M P Q w A=>?_⟩
 .rcases qNC L D with⟨rfl,rfl⟩|⟨R,D⟩
  .simp only[zk];exact⟨p.2,by rw[V.1,V.2,aa];exact ad,hk⟩
  .simp only[zh R];obtain⟨ae,af,ag⟩:=h.each u z D;exact⟨by rw[zBi (λe=>R e.symm)];exact ae,af,ab u z R D ag⟩
 .rw[zX]at P Q;by_cases E:u=t
  .subst E;simp only[zk,zh (λe:v=u=>M e.symm)]at w A;exact hd v a b (λe=>M e.symm) Q w A
  .by_cases W:v=t
   .subst W;simp only[zk,zh E]at w A;exact λe=>hd u b a E P A w e.symm
   .simp only[zh E,zh W]at w A;exact h.J7 u v a b M P Q w A
def fitZ{P:Prop}(h:P:=by repeat' first|exact trivial|refine .inl ⟨⟨rfl,rfl,rfl,rfl,rfl,rfl⟩,?_⟩|refine .inl ⟨⟨rfl,by assumption,rfl,rfl,rfl,by assumption⟩,?_⟩|refine .inl ⟨⟨rfl,rfl,rfl⟩,?_⟩|refine .inr ?_):P:=h
def wrN{k}(h:k<1000000):((k+1:Z):zn)=zAf.wrap ((k:zn)+1):=by
 rw[wr (x:=(k:zn)+1) sg];omega
def GY.less{g A g'}{lo b}{y}{x}(h:GY g A lo y x)(B:Hy g b g')(C:∀a,y.og=O a->a.block≠b):GY g' A lo y x:=by
 refine⟨h.m,?_,h.new,h.ok,h.nil,h.len⟩;have q:=h.gv;unfold MS.gv at q⊢;cases u:y.og with
 |none=>
  rw[u]at q;obtain⟨D,w,E⟩:=q;rcases w with w|⟨_,_,_,H,_⟩
  .exact⟨D,.inl w,E⟩
  .cases H
 |some a=>
  rw[u]at q;obtain⟨L,rfl⟩:=AX.addr q;exact AX.Lj q B (C _ u)
structure PSt where
 k:Z
 E:F Ev
 s:PlW
 g:GW
 gw:GW
 a1:zs zAH
 b1:Z
 a2:zs zAH
 b2:Z
 a3:zs zAH
 b3:Z
 a4:zs zAH
 b4:Z
 a5:zs zAH
 b5:Z
 C:F (F zg)
 Y:Z->MS
 oo:zs zAH
 co:Z
abbrev PSt.wc(z:PSt):F zg:=[.int .i64 z.s.w.Al,.int .i64 z.s.w.current,.int .i64 z.s.w.AH,.slice z.a1 z.s.w.pins.length z.b1,.slice z.a2 z.s.w.Ab.length z.b2,.slice z.a3 z.s.w.Aa.length z.b3,.slice z.a4 z.s.w.counts.length z.b4,.slice z.a5 z.s.w.Ai.length z.b5]
structure PJ(g1:GW)(lo:Z)(s:CB)(z:PSt):Prop where
 k:z.k<=s.Ax.length
 st:(z.s,z.E)=plX (plI s) (s.Ax.take z.k)
 gw:g1<=z.gw/\z.gw<=z.g
 w:rWo z.gw z.wc z.s.w
 ts:KM g1 z.g z.gw lo z.s.ths z.C z.Y
 n:z.s.ths.map ThD.ops=s.Af
abbrev sl0:zg:=.slice zc 0 0
abbrev thZ(l:F OpD):ThD:=⟨l,0,zb,mZ,[]⟩
def InC(g:GW)(s:CB)(k:Z)(C:F (F zg)):Prop:=C.length=s.Af.length/\(∀c∈C,c.length=48)/\∀(t:Z)l,s.Af[t]?=O l->∃h,C[t]?=O (thC (thZ l) h sl0 sl0 sl0 sl0)/\(t<k->rSl 10 rOp g h l)
def InC.zero(g s):InC g s 0 (zA5 s.Af.length (thC (thZ []) sl0 sl0 sl0 sl0 sl0)):=
 ⟨zDd ..,λc h=>by rw[zCY h];rfl,λt l q=>⟨sl0,by rw[List.getElem?_replicate,zk (zd.1 q).1],λu=>absurd u (Nat.not_lt_zero _)⟩⟩
def InC.next{g s k C}(h:InC g s k C){l}(hl:s.Af[k]?=O l){q}(D:rSl 10 rOp g q l):InC g s (k+1) (C.set k (thC (thZ l) q sl0 sl0 sl0 sl0)):=by
 obtain⟨A,E,H⟩:=h;refine⟨by rw[zX];exact A,λc u=>?_,λt L w=>?_⟩
 .rcases zBc u with u|rfl
  .exact E c u
  .rfl
 .have M:k<C.length:=by rw[A];exact(zd.1 hl).1
  by_cases B:k=t
  .subst B;rw[hl]at w;cases w;exact⟨q,by rw[zBu M],λ_=>D⟩
  .obtain⟨P,Q,R⟩:=H t L w;exact⟨P,by rw[zBi B];exact Q,λh=>R sa⟩
def InC.first{q s C}(h:InC q s s.Af.length C)(lo):∃Y,KM q q q lo (plI s).ths C Y:=by
 obtain⟨H,L,M⟩:=h
 have u:∀t:Z,∃y:MS,y.og=zc/\∀l,s.Af[t]?=O l->C[t]?=O (thC (thZ l) (.slice y.ov l.length y.cv) sl0 sl0 sl0 sl0)/\rSl 10 rOp q (.slice y.ov l.length y.cv) l/\y=ms0 y.ov y.cv:=λt=>by
  cases w:s.Af[t]? with
  |none=>exact⟨ms0 zc 0,rfl,λl h=>by cases h⟩
  |some l=>
   obtain⟨W,P,A⟩:=M t l w;have A:=A (zd.1 w).1;obtain⟨Q,R,rfl,_⟩:=id A;exact⟨ms0 Q R,rfl,λaa h=>by cases h;exact⟨P,A,rfl⟩⟩
 refine⟨λt=>Classical.choose (u t),by rw[H];exact(zAA _).symm,L,λt x B=>?_,λt ab a b _ _ _ D=>?_⟩
 .have B:(s.Af.map λl=>(⟨l,0,zb,mZ,[]⟩:ThD))[t]?=O x:=B;rw[zAv,zU]at B;obtain⟨l,w,rfl⟩:=B;obtain⟨_,T⟩:=zCl (u t);obtain⟨U,V,E⟩:=T l w;refine⟨?_,V,?_⟩
  .generalize Classical.choose (u t)=y at*;rw[U,E];rfl
  .show GY q q lo (Classical.choose (u t)) _;generalize Classical.choose (u t)=y at*;rw[E];exact qha rfl rfl rfl
 .have:=(zCl (u t)).1;have D:(Classical.choose (u t)).og=O a:=D;rw[this]at D;cases D
def qKZ(g){cs}{s}(hs:qrC g cs s)(ch:SmS s)(cJ:isB s=I)(bB:qTA s.first=zc)(cL:qbI (qjB s.first) (qZC s) s.Af.length)(cN:(qZC s).length<=1000000)(cP:s.first.As.length<=1000000)(bC:s.Ax.length<=100000)(cQ:∀p∈s.Ax,0<=p)(cR:∀k p t,s.Ax[k]?=O p->plT (plX (plI s) (s.Ax.take k)).1.ths p=O t->JI (plX (plI s) (s.Ax.take k)).1.w (((plX (plI s) (s.Ax.take k)).1.th t).Br t)):Ok X0 15 [.agg ⟨cs⟩] g λv g'=>∃ci bD,v=.tuple #[ci,.agg ⟨bD⟩,.int .i64 0]/\rWo g' bD (plN (plI s) s.Ax).w/\rSl 23 rEv g' ci (plX (plI s) s.Ax).2/\∀x∈(plX (plI s) s.Ax).1.ths,∀A∈x.given,A.ok:=by
 have cU:=hs;obtain⟨a,b,d,t,p,rfl,V,a4,cX⟩:=hs;obtain⟨_,_,_,cY,⟨dQ,dR,rfl,_⟩,⟨dS,dU,rfl,_⟩,⟨dV,dW,rfl,_⟩⟩:=V;cases cY;obtain⟨dX,dY,rfl,cZ,c4,dZ,c5⟩:=id a4;obtain⟨op,d0,rfl,bi,au,d1,c6⟩:=id cX;obtain⟨_,d2,c7⟩:=id ch
 exact Ok.Ao hm quV 3 Jf.2 (args:=[.v (.agg ⟨_⟩)]) (by
  refine zq ?_;intros;rename_i d3 bj;refine .inr ((qwT _ cU cJ ch bB cL cN cP).mono λv aJ bE hW=>?_);obtain⟨c8,rfl,hW⟩:=hW;replace hW:rWo aJ c8 (plI s).w:=hW;obtain⟨bF,b1,bG,bH,bI,bJ,bK,bL,bM,bN,rfl⟩:=qJA hW;refine zq ?_;intros;rename_i bl;refine zw ?_;refine⟨λh=>(nomatch h),λ_=>zq ?_⟩;intros;refine⟨⟨sa,sa,sa,sa⟩,zq ?_⟩;intros;rename_i aR;refine zw ?_;refine⟨Z×F (F zg),λ(k,_)=>[.v (.int .i64 k)],λ(_,L)=>⟨aJ,[.row 3 (O ⟨aR,0,zc⟩) s.Af.length s.Af.length 114 48 L.flatten,_,_,_],_,_⟩,λ(k,L)=>k<=s.Af.length/\InC aJ s k L,λ(k,_)=>s.Af.length-k,qMA (0,zA5 s.Af.length (thC (thZ []) sl0 sl0 sl0 sl0 sl0)) rfl ⟨zF _,InC.zero aJ s⟩ rfl,?_⟩;rintro⟨k,L⟩ ⟨av,aK⟩;refine zq ?_;intros;refine⟨λaw=>?_,λaw=>?_⟩
  .have aT:k<s.Af.length:=by have:=ze aw;omega
   obtain⟨l,bO⟩:=qBA aT;obtain⟨c9,rfl,d4,d5,⟨v,rfl,aU⟩,da⟩:=c5 k l bO;obtain⟨bm,bn,rfl,_⟩:=id aU;obtain⟨d6,db,_⟩:=aK.2.2 k l bO;refine zq ?_;intros;refine⟨c9,rfl,⟨sa,sa⟩,zw ?_⟩;refine⟨_,(da 0 _ rfl).mono bE,zq ?_⟩;intros;refine⟨⟨sa,sa⟩,zq ?_⟩;intros;refine qpC rfl (q5C (off:=0) aK.2.1 db rfl sb) ⟨by rw[q6C aK.2.1,aK.1];show k*48+0+1<=_;omega,sb⟩ (zq ?_);intros;refine λaL M ao=>⟨(k+1,L.set k (thC (thZ l) (.slice bm l.length bn) sl0 sl0 sl0 sl0)),zK (λz=>[zD .i64 z]) (wr1 aT cZ c4).symm,⟨aT,aK.next bO (aU.mono qzE bE)⟩,dec aT,ao⟩
  have al:=zf aw;have bP:k=s.Af.length:=sa
  subst bP;clear aw al av;obtain⟨cj,ck⟩:=aK.first g.w.heap.size;refine zq ?_;intros;refine⟨PSt,λz=>[.row 20 z.oo z.E.length z.co,.v (.int .i64 z.k)],λz=>⟨z.g,[.row 20 z.oo z.E.length z.co 121 23 (z.E.flatMap Ev.cs),.row 3 (O ⟨aR,0,zc⟩) s.Af.length s.Af.length 114 48 z.C.flatten,.blk 2 bl 44 (z.wc.map .v),.blk 1 bj 44 [.v (.int .i64 0),.v (.int .i64 0),.v (.int .i64 0),.v (.slice zc 0 0),.v (.slice zc 0 0),.v (.slice zc 0 0),.v (.slice zc 0 0),.v (.slice zc 0 0)]],40,g.w.heap.size⟩,PJ aJ g.w.heap.size s,λz=>s.Ax.length-z.k,λaL M ao=>⟨⟨0,[],plI s,aJ,aJ,bF,b1,bG,bH,bI,bJ,bK,bL,bM,bN,L,cj,zc,0⟩,rfl,⟨zF _,rfl,⟨GW.refl _,GW.refl _⟩,hW,ck,by unfold plI;rw[zCM];exact List.map_id _⟩,(ao.Cx (nx':=40) 20 121 23).fit (.inl ⟨⟨rfl,rfl,rfl,rfl,rfl,rfl⟩,.inl ⟨⟨rfl,rfl,rfl,rfl,rfl,rfl⟩,.inl ⟨⟨rfl,rfl,rfl⟩,.inl ⟨⟨rfl,rfl,rfl⟩,trivial⟩⟩⟩⟩)⟩,?_⟩;clear hW aK ck cj L;rintro⟨k,T,z,bo,a5,bF,b1,bG,bH,bI,bJ,bK,bL,bM,bN,L,aV,bm,bn⟩ ⟨av,hs,⟨aW,aX⟩,hW,D,bQ⟩;dsimp only at*;obtain⟨M,q⟩:=z;dsimp only at*;have al:q.length=s.Af.length:=by rw[<-bQ,zAA]
  refine zq ?_;intros;refine⟨λaw=>?_,λaw=>?_⟩
  .have aT:k<s.Ax.length:=by have:=ze aw;omega
   obtain⟨p,bp⟩:=qBA aT;obtain⟨dc,rfl,cm,_,⟨rfl,_⟩,dd⟩:=c6 k p bp;have de:=GW.trans bE (GW.trans aW aX);refine zq ?_;intros;refine⟨dc,rfl,⟨sa,sa⟩,zw ?_⟩;refine⟨_,(dd 0 _ rfl).mono de,zq ?_⟩;intros;rename_i df dg;refine zw ?_;refine⟨kF,λlp dh=>zq ?_⟩;intros;refine⟨Z×zs zAH×Z,λ(i,_,_)=>[.v (.int .i64 i)],λ(i,aY,aZ)=>⟨bo,[.row 50 aY (CP (q.take i)).length aZ 3 1 ((CP (q.take i)).map λ(t:Z)=>.int .i64 t),.lp 42 lp dh .ready,.blk 41 dg 108 [.row 3 (O ⟨aR,0,zc⟩) s.Af.length s.Af.length],.blk 40 df 29 [.row 50 aY (CP (q.take i)).length aZ],.row 20 bm T.length bn 121 23 (T.flatMap Ev.cs),.row 3 (O ⟨aR,0,zc⟩) s.Af.length s.Af.length 114 48 L.flatten,.blk 2 bl 44 ((PSt.wc ⟨k,T,⟨M,q⟩,bo,a5,bF,b1,bG,bH,bI,bJ,bK,bL,bM,bN,L,aV,bm,bn⟩).map .v),.blk 1 bj 44 [.v (.int .i64 0),.v (.int .i64 0),.v (.int .i64 0),.v (.slice zc 0 0),.v (.slice zc 0 0),.v (.slice zc 0 0),.v (.slice zc 0 0),.v (.slice zc 0 0)]],60,g.w.heap.size⟩,λ(i,aY,aZ)=>i<=q.length/\(CP (q.take i)=[]->aY=zc/\aZ=0),λ(i,_,_)=>q.length-i,λaL M ao=>⟨(0,zc,0),rfl,⟨zF _,λ_=>⟨rfl,rfl⟩⟩,(ao.Cx (nx':=60) 50 3 1).fit ?_⟩,?_⟩
   .simp[Az,Res.eqv,qDA,Ae,CP]
   rintro⟨i,aY,aZ⟩ ⟨bq,bR⟩;replace bq:i<=q.length:=bq;refine zq ?_;intros;refine⟨λbr=>?_,λbr=>?_⟩
   .have a6:i<q.length:=by have:=ze br;omega
    obtain⟨x,U⟩:=qBA a6;obtain⟨V,bt,aj⟩:=D.each i x U;refine zq ?_;intros;have an:=qkc U;refine zw ?_;refine⟨⟨sa,sa⟩,zq ?_⟩;intros;refine⟨_,qgC (off:=1) D.sz V rfl,zq ?_⟩;intros;refine⟨_,qgC (off:=0) D.sz V rfl,zq ?_⟩;intros;refine⟨λbT=>?_,λbT=>?_⟩
    .have aM:=qKb bT;rw[zk aM]at an;have cn:=qWV (q.take i);rw[zAN]at cn;refine zq ?_;intros;refine⟨⟨by unfold zAr;omega,sa⟩,zq ?_⟩;intros;rename_i di dj;refine zw ?_;refine λaL M ao=>⟨(i+1,di,dj),zK (λz=>[zD .i64 z]) (wrk sa),⟨a6,λh=>by rw[an]at h;simp at h⟩,dec a6,ao.fit (by simp[Az,Res.eqv,qDA,Ae,an])⟩
    .have aM:=MU bT;rw[zh aM]at an;refine zq ?_;intros;refine λaL M ao=>⟨(i+1,aY,aZ),zK (λz=>[zD .i64 z]) (wrk sa),⟨a6,by rw[an];exact bR⟩,dec a6,ao.fit (by simp[Az,Res.eqv,qDA,Ae,an])⟩
   have dk:i=q.length:=by have:=zf br;omega
   subst dk;clear bq br;rw[zAB]at bR;have cn:=qWV q
   have hE:T.length<=k:=by
    have:=qeT (plI s) (s.Ax.take k);rw[<-hs,zAN]at this;have:T.length<=min k s.Ax.length:=this;omega
   refine zq ?_;intros;rw[zAB];have cp:=cQ p (zl bp);cases a0:plT q p with
   |none=>
    have ai:=qKQ a0;obtain⟨rfl,rfl⟩:=bR ai;have aN:((⟨M,q⟩:PlW),T)=plX (plI s) s.Ax:=hs.trans (qrY (by rw[<-hs];exact ai));rw[ai];refine zq ?_;intros;intro a7 ax cq bU;refine zq ?_;intros;refine .inl ⟨_,qiW _ cp,zq ?_⟩;intros;refine⟨λ_=>zq ?_,λh=>nomatch h⟩;intros;intro cr a1 _ bW;refine zq ?_;intros;intro a7 a8;refine⟨_,_,rfl,?_,(qiD (l:=T) bW.rd Ev.cs rfl rfl (λx _=>rfl) λx _=>rfl).mono (λ_ _ _ _ _ h=>h) a8|>(zK Prod.snd aN▸·),?_⟩;rotate_left
    .intro x U A an;rw[<-aN]at U;obtain⟨t,a4⟩:=zT.1 U;exact(D.each t x a4).2.2.ok A an
    have:=qCA _ _ _ _ (GW.trans aX (GW.trans ax (GW.trans a1 a8))) hW;rw[<-q6L,<-aN];exact this
   |some t=>
    obtain⟨x,U,aM⟩:=qaE a0;obtain⟨V,bt,aj⟩:=D.each t x U;have ct:=(zd.1 U).1;refine zq ?_;intros;intro a7 ax cq bU;refine zq ?_;intros
    have bC:=qqC (R:=BS) bU.rd ((CP q).map λ(t:Z)=>(t:zn)) (zD .i64) (by rw[zCM];rfl) (λy ay=>⟨rfl,by
     obtain⟨B,W,rfl⟩:=zAb.1 ay;obtain⟨i,bq⟩:=zT.1 W;have:=(qlc (l:=q) W)
     unfold InR;omega⟩)
    refine .inl ⟨_,qLZ (x:=(t:zn)) _ bC cp (by
     unfold plT at a0
     rw[zAA,zAv,a0];rfl),?_⟩
    clear bC bU cq;refine zq ?_;intros;refine⟨λh=>(nomatch h),λ_=>zq ?_⟩;intros;refine⟨⟨sa,sa⟩,zq ?_⟩;intros;refine⟨_,qgC (off:=2) D.sz V rfl,?_⟩;obtain⟨H,d,on,ah,given⟩:=x;generalize az:aV t=y at V bt aj;obtain⟨aA,aB,aC,aD,aE,aF,Y,aa,d7,Q⟩:=y;dsimp only at V bt aj aM;obtain⟨o,P,cm,cu,rfl,dl,cv,dm⟩:=Mh bt aM;have cw:given.length=d:=aj.len;have d8:H.length<=40:=c7 H (by rw[<-bQ];exact zAb.2 ⟨_,zl U,rfl⟩);have bu:(⟨M,q⟩:PlW).th t=⟨H,d,on,ah,given⟩:=by unfold PlW.th;rw[U];rfl
    have ak:=cR k p t bp (by rw[<-hs];exact a0);rw[<-hs]at ak;dsimp only at ak;rw[bu]at ak;unfold ThD.Br ThD.op at ak;rw[cu]at ak;have cx:=GW.trans aW (GW.trans aX ax);cases on
    case' false=>
     refine zw ?_;refine⟨λ_=>zq ?_,λh=>nomatch h⟩;intros;refine⟨_,qgC (off:=0) D.sz V rfl,zq ?_⟩;intros;refine⟨_,qgC (off:=1) D.sz V rfl,zq ?_⟩;intros;refine⟨P,rfl,⟨zCi _,Int.ofNat_lt.2 aM⟩,zq ?_⟩;intros;refine⟨cm,⟨dl,dm.mono cx⟩,zq ?_⟩;intros;refine⟨_,qgC (off:=47) D.sz V rfl,zq ?_⟩;intros;refine .inr ((qZQ (given:=given) (t:=t) a7 sg (qiD (l:=given) (aj.gv.mono ax).rd Ans.cs rfl rfl (λx _=>rfl) λx U=>⟨rfl,aj.ok x U⟩) sa (qzE _ _ _ _ cx cv)).mono λv cr a1 aO=>?_);obtain⟨d9,rfl,hM⟩:=aO;have a9:=hM a5 (qzE _ _ _ _ aW cv);obtain⟨aA,aB,aC,aD,aE,aF,rfl⟩:=qwB a9;have cy:=GW.trans aX (GW.trans ax a1);have bv:ThD.Br ⟨H,d,zb,ah,given⟩ t=qmB t given o:=by unfold ThD.Br ThD.op;rw[cu];rfl
     have bX:=GW.trans ax a1;have bY:(⟨M,q⟩:PlW).ev t={psE M (qmB t given o)with op:=(d:zn),EP:=I}:=by unfold PlW.ev;dsimp only;rw[bu,bv];rfl
     have bi:=JY (c':=qKE ⟨H,d,zb,qmB t given o,given⟩ ⟨aA,aB,aC,aD,aE,aF,Y,aa,O P,Q⟩) D.sz V rfl;have au:=JY (c':=qKE ⟨H,d,I,qmB t given o,given⟩ ⟨aA,aB,aC,aD,aE,aF,Y,aa,O P,Q⟩) D.sz V rfl;refine zq ?_;intros;refine qpC rfl (show _=(L.set t (qKE ⟨H,d,zb,qmB t given o,given⟩ ⟨aA,aB,aC,aD,aE,aF,Y,aa,O P,Q⟩)).flatten from q5C (off:=3) D.sz V rfl sb) ⟨by rw[q6C D.sz,D.len];show t*48+3+44<=_;omega,sb⟩ (zq ?_);intros;refine qpC rfl (show _=(L.set t (qKE ⟨H,d,I,qmB t given o,given⟩ ⟨aA,aB,aC,aD,aE,aF,Y,aa,O P,Q⟩)).flatten from(q5C (off:=2) bi.1 bi.2 rfl sb).trans (by rw[qLD];rfl)) ⟨by rw[q6C bi.1,zX,D.len];show t*48+2+1<=_;omega,sb⟩ ?_;obtain⟨ap,a2⟩:∃ap,ap=L.set t (qKE ⟨H,d,I,qmB t given o,given⟩ ⟨aA,aB,aC,aD,aE,aF,Y,aa,O P,Q⟩):=⟨_,rfl⟩;have bZ:∀c,ap.set t c=L.set t c:=λc=>by rw[a2,qLD]
     rw[<-a2]at au⊢;replace ak:JI M (qmB t given o):=ak;generalize qmB (t:zn) given o=ah at*;refine zq ?_;intros
    case' true=>
     refine zw ?_;refine⟨λh=>(nomatch h),λ_=>zq ?_⟩;intros;replace ak:JI M ah:=ak;have a9:=aj.m;have a1:=GW.refl a7;have cy:=GW.trans aX ax;have bv:ThD.Br ⟨H,d,I,ah,given⟩ t=ah:=rfl;have bY:(⟨M,q⟩:PlW).ev t={psE M ah with op:=(d:zn),EP:=zb}:=by unfold PlW.ev;dsimp only;rw[bu,bv];rfl
     have bX:=ax;obtain⟨ap,a2⟩:∃ap,ap=L:=⟨_,rfl⟩;have au:(∀c∈ap,c.length=48)/\ap[t]?=O (qKE ⟨H,d,I,ah,given⟩ ⟨aA,aB,aC,aD,aE,aF,Y,aa,O P,Q⟩):=by rw[a2];exact⟨D.sz,V⟩
     have bZ:∀c,ap.set t c=L.set t c:=λc=>by rw[a2]
     rw[<-a2]
    all_goals
     replace a9:qeA a5 (ah.cs (.slice aA ah.op.Ap.Aa.length aB) (.slice aC ah.op.Ap.As.length aD) (.slice aE ah.op.Ap.Ad.length aF)) ah:=a9;refine zw ?_;refine⟨_,⟨rfl,qgZ au.1 au.2⟩,zq ?_⟩;intros;refine .inr ((Ok.sub cy ((qeQ hW a9 ak.sn ak.bg ak.sm ak.kind).mono λv g' dp aO=>(⟨dp,aO⟩:a5<=g'/\PsP M ah v g'))).mono λv dq dr aO=>?_);obtain⟨ba,bw,ds,aP,aO⟩:=aO;obtain⟨bx,u,eN,bD,ea,⟨dt,du,dv⟩,rfl,bz,a3⟩:=aO.named;obtain⟨b0,b2,b3,b4,b5,b6,b7,b8,b9,ca,rfl⟩:=qJA bz;obtain⟨ab,ac,ad,ae,af,ag,rfl⟩:=qwB a3;rw[dv]at bY;have eb:=(zK (λz=>T.flatMap Ev.cs++Ev.cs z) bY).symm.trans (show _=(T++[(⟨M,q⟩:PlW).ev t]).flatMap Ev.cs by rw[zDo];simp);have ec:T.length+1=(T++[(⟨M,q⟩:PlW).ev t]).length:=sd
     have aQ:=GW.trans bX dr;have bb:∀n,bo.g n->¬a5.g n->¬ba.g n:=λn bj bl aR=>(ds n aR).elim bl λdw=>absurd (bo.wf n bj) (zDD.2 (zZ bX.1 dw));have bc:=JY (c':=qKE ⟨H,d,I,u,given⟩ ⟨ab,ac,ad,ae,af,ag,Y,aa,O P,Q⟩) D.sz V rfl
     have bd:∀x:ThD,PlW.th ⟨M,q⟩ t=x->x.Br t=ah->plX (plI s) (s.Ax.take (k+1))=(⟨bx,q.set t (x.An u)⟩,T++[PlW.ev ⟨M,q⟩ t]):=λx dx dy=>by
      rw[qdT bp,<-hs];unfold plS;dsimp only;rw[a0];show(PlW.go ⟨M,q⟩ t,_)=_;unfold PlW.go;dsimp only;rw[dx,dy,dt,du]
     replace bd:=bd _ bu bv;have cb:∀z:ThD,z.ops=H->(q.set t z).map ThD.ops=s.Af:=λz e=>by rw[map_set λy ay=>by rw[U]at ay;cases ay;exact e];exact bQ
     have be:∀c,(L.set t c).length*48=q.length*48:=λc=>by rw[zX,D.len]
     refine zq ?_;intros;refine qpC rfl (show _=(L.set t (qKE ⟨H,d,I,u,given⟩ ⟨ab,ac,ad,ae,af,ag,Y,aa,O P,Q⟩)).flatten from(q5C (off:=3) (size:=44) au.1 au.2 rfl sb).trans (by rw[bZ];rfl)) ⟨by rw[q6C au.1,<-zX (i:=t) (a:=[]),bZ,be];show t*48+3+44<=_;omega,sb⟩ (zq ?_);intros;refine⟨_,qgC (off:=1) bc.1 bc.2 rfl,zq ?_⟩;intros;refine⟨λbA=>?_,λbA=>?_⟩
     .have bf:=JY (c':=qKE ⟨H,d,zb,u,given⟩ ⟨ab,ac,ad,ae,af,ag,Y,aa,O P,Q⟩) D.sz V rfl;have aG:=JY (c':=qKE ⟨H,d+1,zb,u,given⟩ ⟨ab,ac,ad,ae,af,ag,Y,aa,O P,Q⟩) D.sz V rfl;refine zq ?_;intros;refine qpC rfl (show _=(L.set t (qKE ⟨H,d,zb,u,given⟩ ⟨ab,ac,ad,ae,af,ag,Y,aa,O P,Q⟩)).flatten from(q5C (off:=2) bc.1 bc.2 rfl sb).trans (by rw[qLD];rfl)) ⟨by rw[q6C bc.1,be];show t*48+2+1<=_;omega,sb⟩ (zq ?_);intros;refine⟨_,qgC (off:=1) bf.1 bf.2 rfl,zq ?_⟩;intros
      refine qpC rfl (show _=(L.set t (qKE ⟨H,d+1,zb,u,given⟩ ⟨ab,ac,ad,ae,af,ag,Y,aa,O P,Q⟩)).flatten from(q5C (off:=1) (size:=1) bf.1 bf.2 rfl sb).trans (by
       rw[qLD];show(L.set t (Value.slice (O P) H.length Q::.int .i64 (zAf.wrap ((d:zn)+1))::.bool zb::(u.cs (.slice ab u.op.Ap.Aa.length ac) (.slice ad u.op.Ap.As.length ae) (.slice af u.op.Ap.Ad.length ag)++[.slice Y given.length aa]))).flatten=_
       rw[<-wrN (k:=d) sa])) ⟨by rw[q6C bf.1,be];show t*48+0+1+1<=_;omega,sb⟩ ?_
      refine zq ?_;intros;refine⟨_,qgC (off:=47) aG.1 aG.2 rfl,?_⟩
      have cc:(given=[]/\Y=zc/\aa=0)\/given≠[]:=by
       by_cases h:given=[]
       .exact .inl ⟨h,aj.nil h⟩
       .exact .inr h
      rcases cc with⟨rfl,rfl,rfl⟩|cc
      .refine zq ?_;intros;refine⟨⟨by unfold zAr;decide,sb⟩,zq ?_⟩;intros;rename_i aq ar;refine zw ?_;intro cd cz cA dz;refine zq ?_;intros;refine qpC rfl (show _=(L.set t (qKE ⟨H,d+1,zb,u,[u.answer]⟩ ⟨ab,ac,ad,ae,af,ag,aq,ar,O P,Q⟩)).flatten from(q5C (off:=47) (size:=1) aG.1 aG.2 rfl sb).trans (by rw[qLD];rfl)) ⟨by rw[q6C aG.1,be];show t*48+47+1<=_;omega,sb⟩ (zq ?_);intros;refine⟨⟨by unfold zAr;omega,sa⟩,zq ?_⟩;intros;rename_i aH aI;refine zw ?_;intro aL B W;have dA:=GW.trans aQ cz;refine⟨⟨k+1,T++[PlW.ev ⟨M,q⟩ t],⟨bx,q.set t ⟨H,d+1,zb,u,[u.answer]⟩⟩,cd,ba,b0,b2,b3,b4,b5,b6,b7,b8,b9,ca,L.set t (qKE ⟨H,d+1,zb,u,[u.answer]⟩ ⟨ab,ac,ad,ae,af,ag,aq,ar,O P,Q⟩),λB=>if B=t then⟨ab,ac,ad,ae,af,ag,aq,ar,O P,Q⟩else aV B,aH,aI⟩,?_,⟨by dsimp only;omega,?_,⟨GW.trans aW aP,GW.trans bw cz⟩,bz,?_,?_⟩,by dsimp only;omega,?_⟩
       .show[Value.slice aH (T++[_]).length aI,zD .i64 ((k+1:Z):zn)]=_;rw[wrN sa,zAq];rfl
       .rw[bd];unfold ThD.An;rw[bA];rfl
       .refine D.set U rfl ⟨by rw[az],by rw[az]⟩ ⟨a3,dz,λa e ay=>cA a e (bw.2 _ ay).1,λA h=>?_,(λh=>by cases h),zK (·+1) cw⟩ (λB z _ _ h=>h.keep dA aP bb) λB a b al W ai bh e=>cA a ai (e▸(aQ.2 _ (AX.J6 (by have:=(D.each B _ (zAe W)).2.2.gv;unfold MS.gv at this;rwa [bh]at this))).1);obtain rfl:=zA9.1 h;obtain⟨_,_,_,_,ce,_⟩:=a3;exact ce.answer
       .exact cb _ rfl
       .exact W.fit fitZ
      .obtain⟨dB,⟨_,aU⟩|⟨b,cap,rest,aU,⟨dC,dD⟩,dG,dH,dI,dJ⟩,dK⟩:=aj.gv.mono aQ
       .exact absurd (zBd.1 aU) cc
       cases aU;have dL:=bb b (AX.J6 aj.gv) (aj.new _ rfl);refine zq ?_;intros;refine .inr (.inl ⟨b,_,rest,⟨rfl,dC,dD,dG,dB,dK,dH,dI,dJ,by show given.length+1<=zAr;unfold zAr;omega,by show(given.length+1)*104<=_;omega⟩,λcd cf=>zq ?_⟩);intros;rename_i aq ar;refine zw ?_;intro cB cC cD dN;have cg:given.length+1=(given++[u.answer]).length:=sd
       refine zq ?_;intros
       refine qpC rfl (show _=(L.set t (qKE ⟨H,d+1,zb,u,given++[u.answer]⟩ ⟨ab,ac,ad,ae,af,ag,aq,ar,O P,Q⟩)).flatten from(q5C (off:=47) (size:=1) aG.1 aG.2 rfl sb).trans (by
        rw[qLD];show(L.set t (Value.slice (O P) H.length Q::.int .i64 ((d+1:Z):zn)::.bool zb::(u.cs (.slice ab u.op.Ap.Aa.length ac) (.slice ad u.op.Ap.As.length ae) (.slice af u.op.Ap.Ad.length ag)++[.slice aq (given.length+1) ar]))).flatten=_
        rw[cg])) ⟨by rw[q6C aG.1,be];show t*48+47+1<=_;omega,sb⟩ ?_
       refine zq ?_;intros;refine⟨⟨by unfold zAr;omega,sa⟩,zq ?_⟩;intros;rename_i aH aI;refine zw ?_;intro aL B W;have cG:=cf.le bw dL;refine⟨⟨k+1,T++[PlW.ev ⟨M,q⟩ t],⟨bx,q.set t ⟨H,d+1,zb,u,given++[u.answer]⟩⟩,cB,ba,b0,b2,b3,b4,b5,b6,b7,b8,b9,ca,L.set t (qKE ⟨H,d+1,zb,u,given++[u.answer]⟩ ⟨ab,ac,ad,ae,af,ag,aq,ar,O P,Q⟩),λB=>if B=t then⟨ab,ac,ad,ae,af,ag,aq,ar,O P,Q⟩else aV B,aH,aI⟩,?_,⟨by dsimp only;omega,?_,⟨GW.trans aW aP,GW.trans cG cC⟩,bz,?_,?_⟩,by dsimp only;omega,?_⟩
       .show[Value.slice aH (T++[_]).length aI,zD .i64 ((k+1:Z):zn)]=_;rw[wrN sa,zAq];rfl
       .rw[bd];unfold ThD.An;rw[bA];rfl
       .have cH:∀(B:Z)a,B≠t->B<q.length->(aV B).og=O a->a.block≠b/\cd.g a.block:=λB a al W ai=>by
         have cI:=D.J7 B t a ⟨b,0,zc⟩ al W ct ai (by rw[az]);have dO:=(aQ.2 _ (AX.J6 (by have:=(D.each B _ (zAe W)).2.2.gv;unfold MS.gv at this;rwa [ai]at this))).1;exact⟨cI,(cf.dom _).2 ⟨dO,cI⟩⟩
        refine D.set U rfl ⟨by rw[az],by rw[az]⟩ ⟨a3,?_,λa e ay=>cD a e (cG.2 _ ay).1,λA h=>?_,(λh=>by simp at h),?_⟩ (λB z al bB h=>((h.keep aQ aP bb).less cf λa ai=>(cH B a al (zd.1 bB).1 ai).1).keep cC (GW.refl ba) λ_ _ h=>h) λB a dP al W ai bh e=>cD a ai (e▸(cH B dP al W bh).2)
        .show AX cB _ 55 13 (.slice aq (given++[u.answer]).length ar) (given++[u.answer]).length ((given++[u.answer]).flatMap Ans.cs);rw[<-cg,zDo];exact dN
        .rcases zL.1 h with h|h
         .exact aj.ok A h
         .obtain rfl:=zA9.1 h;obtain⟨_,_,_,_,ce,_⟩:=a3;exact ce.answer
        .show(given++[u.answer]).length=d+1;rw[<-cg,cw]
       .exact cb _ rfl
       .exact W.fit fitZ
     .refine zq ?_;intros;refine⟨⟨by unfold zAr;omega,sa⟩,zq ?_⟩;intros;rename_i aH aI;refine zw ?_;intro aL B W;refine⟨⟨k+1,T++[PlW.ev ⟨M,q⟩ t],⟨bx,q.set t ⟨H,d,I,u,given⟩⟩,dq,ba,b0,b2,b3,b4,b5,b6,b7,b8,b9,ca,L.set t (qKE ⟨H,d,I,u,given⟩ ⟨ab,ac,ad,ae,af,ag,Y,aa,O P,Q⟩),λB=>if B=t then⟨ab,ac,ad,ae,af,ag,Y,aa,O P,Q⟩else aV B,aH,aI⟩,?_,⟨by dsimp only;omega,?_,⟨GW.trans aW aP,bw⟩,bz,?_,?_⟩,by dsimp only;omega,?_⟩
      .show[Value.slice aH (T++[_]).length aI,zD .i64 ((k+1:Z):zn)]=_;rw[wrN sa,zAq];rfl
      .rw[bd];unfold ThD.An;rw[bA];rfl
      .have av:=aj.keep aQ aP bb;exact D.set U rfl ⟨by rw[az],by rw[az]⟩ ⟨a3,av.gv,av.new,av.ok,av.nil,av.len⟩ (λB z _ _ h=>h.keep aQ aP bb) (λB a b al W ai bh=>D.J7 t B a b (λe=>al e.symm) ct W (by rw[az];exact ai) bh)
      .exact cb _ rfl
      .exact W.fit fitZ
  .have bP:k=s.Ax.length:=by have:=zf aw;omega
   refine zq ?_;intros;intro cr a1 _ bW;refine zq ?_;intros;intro a7 a8;have aN:((⟨M,q⟩:PlW),T)=plX (plI s) s.Ax:=by rw[hs,bP,zAB]
   refine⟨_,_,rfl,?_,(qiD (l:=T) bW.rd Ev.cs rfl rfl (λx _=>rfl) λx _=>rfl).mono (λ_ _ _ _ _ h=>h) a8|>(zK Prod.snd aN▸·),?_⟩;rotate_left
   .intro x U A an;rw[<-aN]at U;obtain⟨t,a4⟩:=zT.1 U;exact(D.each t x a4).2.2.ok A an
   have:=qCA _ _ _ _ (GW.trans aX (GW.trans sr a8)) hW;rw[<-q6L,<-aN]
   exact this)
end Go.Proofs.YtlmhpamhhgogaaaGreat
