import Derived.ChangeArms
import Derived.WideShapes
import Derived.Lib.Bytealg
import Derived.SizedLaws
import Derived.OpenShut
import Derived.Test.YtlmhpamhhgogaaaGreatS1
set_option linter.all false
set_option maxHeartbeats 16000000
set_option maxRecDepth 100000
open Bool renaming false→zb,true→I
open Classical renaming propDecidable→zDR
open Go renaming Value→zg,World→zp,Program→zt,maxLen→zAr,TypeId→zAy,Addr→zAH
open Go.IntKind renaming i64→zAf,wrap_i64→zBB,u64→zBO
open Go.Value renaming oneCell'→zA0,bool→zBm
open Go.Value.slice renaming injEq→zAp
open List renaming replicate→zA5,range→zBf
open Option renaming some→O,none→zc
open _root_ renaming List→F,Nat→Z,Int→zn,Option→zs,Bool→zM,False→zV
namespace Go.Proofs.YtlmhpamhhgogaaaGreat.Sx
open Go.RowKit
abbrev BA:=ByteArray
abbrev bs(s:BA):F UInt8:=s.data.toList
def qHR{a b}(h:bs a=bs b):a=b:=by
 cases a;cases b;simp only[bs]at h;rw[Array.toList_inj.1 h]
def qkA(s):s.size=(bs s).length:=by cases s;simp[bs,ByteArray.size]
def qeD(s)(l h):bs (s.extract l h)=((bs s).drop l).take (h-l):=by
 simp[bs,ByteArray.data_extract]
abbrev InR(x:zn):Prop:=-9223372036854775808<=x/\x<=9223372036854775807
abbrev InU(x:zn):Prop:=0<=x/\x<=18446744073709551615
def wr{x}(h:InR x):zAf.wrap x=x:=IntWalk.i64_in x h
def qEc{x}(h:(Lit.int .i64 x).wf=I):InR x:=by
 simpa[Lit.wf,IntKind.min,IntKind.max,IntKind.bits,IntKind.signed]using h
def nb1{b}(h:(!b)=I):b=zb:=by simpa using h
def nb0{b}(h:(!b)=zb):b=I:=by simpa using h
def OkV.to{P}{f}{args}{g}{v v'}(h:OkV P f args g v)(e:v=v'):OkV P f args g v':=e▸h
structure Gs where
 listen:BA
 Bp:BA
 path:BA
 Ak:BA
structure Bb where
 name:BA
 Bl:zn
 Au:zn
 AA:F zM
structure BB where
 Aa:F BA
 As:F Gs
 Ad:F Bb
structure Gb where
 listen:zn
 Bp:BA
 path:BA
 Ak:zn
structure FL where
 Aa:F BA
 AN:F Gb
 Ad:F Bb
structure Bz where
 head:zn
 next:F zn
 Ah:zn
structure Bm where
 AQ:zn
 ends:F Bz
structure AL where
 AO:FL
 Am:F Bm
 AV:zM
structure AY where
 name:BA
 drain:zM
 Ah:zn
 closed:zM
structure Ba where
 Ac:zn
 at_:zn
 gone:zM
structure Wd where
 Al:zn
 current:zn
 AH:zn
 pins:F zn
 Ab:F AL
 Aa:F AY
 counts:F (F zn)
 Ai:F Ba
abbrev RP(h:Type):=GW->F zg->h->Prop
def BS:RP zn:=λ_ cs x=>cs=[.int .i64 x]/\InR x
def Hp:RP zn:=λ_ cs x=>cs=[.int .u64 x]/\InU x
def FJ:RP BA:=λ_ cs s=>cs=[.string s]
def qJW:RP zM:=λ_ cs b=>cs=[.bool b]
def rSl{u:Type}(sz:Z)(R:RP u)(g:GW)(v:zg)(l:F u):Prop:=
 ∃h cap,v=.slice h l.length cap/\l.length<=cap/\cap<=zAr/\(h=zc->l.length=0/\cap=0)/\
  ∀(i:Z)x,l[i]?=O x->∃a,h=O a/\∃q,q.length=sz/\R g q x/\Rcs g (a.add (i*sz)) q
def C4{q:Type}(R:RP q):Prop:=∀g h cs x,g<=h->R g cs x->R h cs x
def Rcs.mono{g g'}{a}{xs}(h:Rcs g a xs)(k:g<=g'):Rcs g' a xs:=λi q u=>(h i q u).mono k
def rSl.mono{q:Type}{sz}{R:RP q}(u:C4 R){g g'}{v}{l}(h:rSl sz R g v l)(k:g<=g'):rSl sz R g' v l:=by
 obtain⟨w,cap,A,B,C,D,E⟩:=h;refine⟨w,cap,A,B,C,D,λi x H=>?_⟩;obtain⟨a,L,M,P,Q,T⟩:=E i x H;exact⟨a,L,M,P,u _ _ _ _ k Q,T.mono k⟩
def qxA:C4 BS:=λ_ _ _ _ _ h=>h
def qeJ:C4 Hp:=λ_ _ _ _ _ h=>h
def qXE:C4 FJ:=λ_ _ _ _ _ h=>h
def qoR:C4 qJW:=λ_ _ _ _ _ h=>h
def q4K:RP Gs:=λ_ cs r=>cs=[.string r.listen,.string r.Bp,.string r.path,.string r.Ak]
def qgJ:C4 q4K:=λ_ _ _ _ _ h=>h
def qOC:RP Bb:=λg cs c=>∃h,cs=[.string c.name,.int .i64 c.Bl,.int .i64 c.Au,h]/\InR c.Bl/\InR c.Au/\rSl 1 qJW g h c.AA
def qMD:C4 qOC:=λ_ _ _ _ k⟨h,e,a,b,c⟩=>⟨h,e,a,b,c.mono qoR k⟩
def qHB:RP BB:=λg cs c=>∃a b d,cs=[a,b,d]/\rSl 1 FJ g a c.Aa/\rSl 4 q4K g b c.As/\rSl 4 qOC g d c.Ad
def qAA:C4 qHB:=λ_ _ _ _ k⟨a,b,d,e,x,y,z⟩=>⟨a,b,d,e,x.mono qXE k,y.mono qgJ k,z.mono qMD k⟩
def qGW:RP Gb:=λ_ cs r=>cs=[.int .i64 r.listen,.string r.Bp,.string r.path,.int .i64 r.Ak]/\InR r.listen/\InR r.Ak
def q3K:C4 qGW:=λ_ _ _ _ _ h=>h
def qfJ:RP FL:=λg cs c=>∃a b d,cs=[a,b,d]/\rSl 1 FJ g a c.Aa/\rSl 4 qGW g b c.AN/\rSl 4 qOC g d c.Ad
def qYC:C4 qfJ:=λ_ _ _ _ k⟨a,b,d,e,x,y,z⟩=>⟨a,b,d,e,x.mono qXE k,y.mono q3K k,z.mono qMD k⟩
def MK:RP Bz:=λg cs e=>∃n,cs=[.int .u64 e.head,n,.int .i64 e.Ah]/\InU e.head/\InR e.Ah/\rSl 1 BS g n e.next
def qWT:C4 MK:=λ_ _ _ _ k⟨n,e,a,b,c⟩=>⟨n,e,a,b,c.mono qxA k⟩
def qeB:RP AY:=λ_ cs x=>cs=[.string x.name,.bool x.drain,.int .i64 x.Ah,.bool x.closed]/\InR x.Ah
def q3A:C4 qeB:=λ_ _ _ _ _ h=>h
def qAB:RP Ba:=λ_ cs x=>cs=[.int .i64 x.Ac,.int .i64 x.at_,.bool x.gone]/\InR x.Ac/\InR x.at_
def q9A:C4 qAB:=λ_ _ _ _ _ h=>h
def F5:RP (F zn):=λg cs x=>∃n,cs=[n]/\rSl 1 Hp g n x
def qSB:C4 F5:=λ_ _ _ _ k⟨n,e,x⟩=>⟨n,e,x.mono qeJ k⟩
def qMI{ecs:F (F zg)}{sz:Z}(h:∀e∈ecs,e.length=sz){i j:Z}{ec:F zg}(q:ecs[i]?=O ec){u:zg}(w:ec[j]?=O u):ecs.flatten[i*sz+j]?=O u:=by
 induction ecs generalizing i with
 |nil=>simp at q
 |cons e es B=>
  rw[zBC];have A:=h e sd;cases i with
  |zero=>
   simp at q;subst q;rw[zDj,zAu,zAc (zd.1 w).1];exact w
  |succ i=>
   rw[zA4 (by rw[A,zCm];omega),show(i+1)*sz+j-e.length=i*sz+j by rw[A,zCm];omega];exact B (λx C=>h x (by simp[C])) (by simpa using q)
def qtC{ecs:F (F zg)}{sz:Z}(h:∀e∈ecs,e.length=sz):ecs.flatten.length=ecs.length*sz:=by
 induction ecs with
 |nil=>simp
 |cons e es q=>rw[zBC,zAq,q λx u=>h x (by simp[u]),h e sd,zBb,zCm];omega
def q1K{w:Type}{sz}{R:RP w}{g}{v}{n}{cs}(h:Dl g sz v n cs)(l:F w)(ecs:F (F zg))(D:cs=ecs.flatten)(A:∀e∈ecs,e.length=sz)(hl:l.length=n)(W:ecs.length=l.length)(E:∀(i:Z)x ec,l[i]?=O x->ecs[i]?=O ec->R g ec x):rSl sz R g v l:=by
 subst D;subst hl;obtain⟨Y,q,cap,rfl,H,L,B,M⟩:=h;refine⟨q,cap,rfl,H,L,B,λi x C=>?_⟩;have aa:=(zd.1 C).1;obtain⟨ec,u⟩:∃ec,ecs[i]?=O ec:=⟨ecs[i]'sa,zAe sa⟩;have P:=A ec (zl u)
 have Q:∃a,q=O a:=by
  cases q with
  |some a=>exact⟨a,rfl⟩
  |none=>have:=(B rfl).1;omega
 obtain⟨a,rfl⟩:=Q;refine⟨a,rfl,ec,P,E i x ec C u,λj T U=>?_⟩;obtain⟨ab,V,ac⟩:=M (i*sz+j) T (qMI A u U);cases V;rwa [qIH]
def map_flatten(l:F zg):(l.map λx=>[x]).flatten=l:=by
 induction l with
 |nil=>rfl
 |cons x r h=>simp[h]
def qqC{w:Type}{R:RP w}{g}{v}{n}{cs}(h:Dl g 1 v n cs)(l)(f:w->zg)(q:cs=l.map f)(B:∀x∈l,R g [f x] x):rSl 1 R g v l:=by
 have C:l.length=n:=by have:=h.1;rw[q,zAA]at this;omega
 refine q1K h l (cs.map λx=>[x]) (map_flatten cs).symm (λe D=>?_) C (by rw[zAA,q,zAA]) λi x E A u=>?_
 .obtain⟨x,_,rfl⟩:=zAb.1 D;rfl
 .rw[q]at u;simp only[zAv,A,zBx]at u;cases u;exact B x (zl A)
def Ca{h q:Type}(f:Z->h->zs q)(l:F h)(i:Z):Prop:=∀j,j<i->∀x,l[j]?=O x->f j x=zc
def qiB{h q:Type}(f:Z->h->zs q):Z->F h->zs q
 |_,[]=>zc
 |i,x::r=>match f i x with
  |some b=>O b
  |none=>qiB f (i+1) r
def Ca.zero{h q:Type}(f:Z->h->zs q)(l:F h):Ca f l 0:=λj u=>sa
def Ca.succ{u w:Type}{f:Z->u->zs w}{l}{i:Z}(h:Ca f l i){x:u}(A:l[i]?=O x)(B:f i x=zc):Ca f l (i+1):=by
 intro j C y q;rcases zAL j i with k|k
 .exact h j k y q
 .obtain rfl:j=i:=sa
  rw[A]at q;cases q;exact B
def qPL{h w:Type}{f:Z->h->zs w}:∀{l:F h}{k:Z},(∀(j:Z)x,l[j]?=O x->f (k+j) x=zc)->qiB f k l=zc
 |[],_,_=>rfl
 |x::r,k,q=>by
  have u:=q 0 x rfl;simp only[zDJ]at u;simp only[qiB,u];exact qPL λj y A=>by have:=q (j+1) y (by simpa using A);rwa [show k+(j+1)=k+1+j by omega]at this
def Ca.done{u w:Type}{f:Z->u->zs w}{l}{i:Z}(h:Ca f l i)(A:l.length<=i):qiB f 0 l=zc:=
 qPL λj x q=>by
  rw[zAu];refine h j ?_ x q;have:=(zd.1 q).1;omega
def qOL{u B:Type}{f}{b:B}:∀{l:F u}{k i:Z}{x:u},(∀j,j<i->∀y,l[j]?=O y->f (k+j) y=zc)->l[i]?=O x->f (k+i) x=O b->qiB f k l=O b
 |[],_,_,_,_,h,_=>by simp at h
 |y::r,k,0,x,_,h,q=>by
  simp at h;subst h;simp only[zDJ]at q;simp only[qiB,q]
 |y::r,k,i+1,x,w,h,q=>by
  have A:=w 0 sa y rfl;simp only[zDJ]at A;simp only[qiB,A];refine qOL (i:=i) (x:=x) (λj D z C=>?_) (by simpa using h) (by rwa [show k+1+i=k+(i+1) by omega]);have:=w (j+1) sa z (by simpa using C);rwa [show k+(j+1)=k+1+j by omega]at this
def Ca.hit{q u:Type}{f}{l}{i}(h:Ca f l i){x:q}{b:u}(w:l[i]?=O x)(C:f i x=O b):qiB f 0 l=O b:=
 qOL (λj A y B=>by rw[zAu];exact h j A y B) w (by rwa [zAu])
def qBA{q:Type}{l:F q}{i:Z}(h:i<l.length):∃x,l[i]?=O x:=⟨l[i],zAe h⟩
def wr1{i n cap}(h:i<n)(q:n<=cap)(h2:cap<=zAr):zAf.wrap ((i:zn)+1)=((i+1:Z):zn):=by
 rw[wr]
 .simp
 .unfold zAr at h2;exact⟨sa,sa⟩
def dec{i n}(h:i<n):n-(i+1)<n-i:=sa
def qYD{q:Type}{f:q->zM}{l:F q}{i:Z}(h:i<l.length):(l.take (i+1)).all f=((l.take i).all f&&f l[i]):=by
 rw[zY h,List.all_append];simp only[List.all_cons,List.all_nil,Bool.and_true]
def qtB{q:Type}{f:q->zM}{l:F q}{i:Z}(h:i<l.length)(k:f l[i]=zb):l.all f=zb:=by
 rw[zDx];exact⟨l[i],zDb h,by simp[k]⟩
def Fv(w:zp):GW:=⟨w,(·<w.heap.size),λ_ h=>h⟩
def qVT{ab:Type}{sz}{R:RP ab}{g}{oa}{n cap}{l}(h:rSl sz R g (.slice oa n cap) l):∃ecs:F (F zg),Dl g sz (.slice oa n cap) l.length ecs.flatten/\ecs.length=l.length/\(∀e∈ecs,e.length=sz)/\∀(i:Z)x ec,l[i]?=O x->ecs[i]?=O ec->R g ec x:=by
 obtain⟨ai,aj,u,ac,ad,ae,af⟩:=h;simp only[zAp]at u;obtain⟨rfl,rfl,rfl⟩:=u
 have M:∀i:Fin l.length,∃ec:F zg,ec.length=sz/\R g ec l[i.1]/\∃a,oa=O a/\Rcs g (a.add (i.1*sz)) ec:=λi=>by
  obtain⟨a,B,ec,C,ag,D⟩:=af i.1 l[i.1] (zAe i.2);exact⟨ec,C,ag,a,B,D⟩
 let f:Fin l.length->F zg:=λi=>Classical.choose (M i);have E:∀i:Fin l.length,(f i).length=sz/\R g (f i) l[i.1]/\∃a,oa=O a/\Rcs g (a.add (i.1*sz)) (f i):=λi=>zCl (M i)
 have P:∀(i:Z)(q:i<l.length),(List.ofFn f)[i]?=O (f ⟨i,q⟩):=λi q=>by
  rw[zAe (by simpa using q)];simp
 have w:∀e∈List.ofFn f,e.length=sz:=λe u=>by
  obtain⟨i,q⟩:=List.mem_ofFn.1 u;rw[<-q];exact(E i).1
 refine⟨List.ofFn f,⟨?_,oa,cap,rfl,ac,ad,ae,λj Q T=>?_⟩,sd,w,λi x ec H U=>?_⟩
 .rw[qtC w];simp
 .have A:=(zd.1 T).1;rw[qtC w]at A;simp only[zDF]at A
  have V:0<sz:=by
   rcases zDs sz with L|L
   .rw[L]at A;omega
   .exact L
  have q:j / sz<l.length:=(Nat.div_lt_iff_lt_mul V).2 A;have hm:=zDB j V;obtain⟨C,_,a,B,D⟩:=E ⟨j / sz,q⟩;have W:j / sz*sz+j%sz=j:=by rw[Nat.mul_comm];exact Nat.div_add_mod j sz
  have ah:(f ⟨j / sz,q⟩)[j%sz]?=O Q:=by
   obtain⟨Y,aa⟩:∃Y,(f ⟨j / sz,q⟩)[j%sz]?=O Y:=⟨_,zAe (by rw[C];exact hm)⟩;have:=qMI w (P _ q) aa;rw[W,T]at this;rw[aa,this]
  refine⟨a,B,?_⟩;have:=D _ Q ah;rwa [show((a.add (j / sz*sz)).add (j%sz))=a.add j by rw[qIH,W]]at this
 .have q:=(zd.1 H).1;rw[P i q]at U;cases U;have:=(E ⟨i,q⟩).2.1;rw[zAe q]at H;cases H;exact this
def q4M{q:Type}{sz}{R:RP q}{g}{oa}{n cap}{l}(h:rSl sz R g (.slice oa n cap) l)(f:q->F zg)(C:∀cs x,R g cs x->cs=f x):Dl g sz (.slice oa n cap) l.length ((l.map f).flatten):=by
 obtain⟨u,D,L,M,E⟩:=qVT h
 have:u=l.map f:=by
  apply zBT;intro i;rw[zAv];rcases zAL i l.length with w|w
  .obtain⟨x,A⟩:=qBA w;obtain⟨H,B⟩:=qBA (show i<u.length by omega);rw[A,B,C _ _ (E i x H A B)];rfl
  .rw[zBQ sa,zBQ sa];rfl
 rw[<-this];exact D
def qiD{u:Type}{sz}{R:RP u}{g}{v}{n}{cs}(h:Dl g sz v n cs)(l)(f:u->F zg)(A:cs=(l.map f).flatten)(hl:l.length=n)(B:∀x∈l,(f x).length=sz)(C:∀x∈l,R g (f x) x):rSl sz R g v l:=by
 refine q1K h l (l.map f) A (λe D=>?_) hl sd λi x E q w=>?_
 .obtain⟨x,q,rfl⟩:=zAb.1 D;exact B x q
 .rw[zAv,q]at w;cases w;exact C x (zl q)
def rSl.take{A:Type}{sz}{R:RP A}{g}{oa}{n cap}{l}(h:rSl sz R g (.slice oa n cap) l){k}(hk:k<=l.length):rSl sz R g (.slice oa k cap) (l.take k):=by
 obtain⟨E,H,u,L,B,w,C⟩:=h;simp only[zAp]at u;obtain⟨rfl,rfl,rfl⟩:=u;have D:(l.take k).length=k:=sf
 refine⟨oa,cap,by rw[D],sa,B,λh=>⟨by have:=(w h).1;omega,(w h).2⟩,λi x q=>?_⟩;rw[zA7]at q;split at q
 .exact C i x q
 .cases q
def BN{h:Type}(f:h->zM)(l:F h):zs Z:=qiB (λi x=>if f x then O i else zc) 0 l
def CN:zs Z->zn
 |some i=>i
 |none=>-1
abbrev Ey{h:Type}(f:h->zM):Z->h->zs Z:=λi x=>if f x then O i else zc
def qTG{q:Type}{f:q->zM}{l}{i}(h:Ca (Ey f) l i){x:q}(u:l[i]?=O x)(w:f x=I):CN (BN f l)=i:=by
 have:=h.hit u (b:=i) (by simp[Ey,w]);rw[show BN f l=O i from this];rfl
def qoD{q:Type}{f:q->zM}{l}{i}(h:Ca (Ey f) l i)(u:l.length<=i):CN (BN f l)=-1:=by
 rw[show BN f l=zc from h.done u];rfl
def q8E{q:Type}{f:q->zM}{l}{i}(h:Ca (Ey f) l i){x:q}(u:l[i]?=O x)(w:f x=zb):Ca (Ey f) l (i+1):=h.succ u (by simp[Ey,w])
def qzF{q w:Type}{f}:∀{l:F q}{k:Z},qiB f k l=zc\/∃(i:Z)(x:q)(b:w),qiB f k l=O b/\l[i]?=O x/\f (k+i) x=O b/\∀j,j<i->∀y,l[j]?=O y->f (k+j) y=zc
 |[],_=>.inl rfl
 |x::r,k=>by
  simp only[qiB];cases u:f k x with
  |some b=>exact .inr ⟨0,x,b,rfl,rfl,u,λj A=>sa⟩
  |none=>
   rcases qzF (f:=f) (l:=r) (k:=k+1)with B|⟨i,y,b,C,D,H,E⟩
   .exact .inl B
   .refine .inr ⟨i+1,y,b,C,by simpa using D,by rwa [show k+(i+1)=k+1+i by omega],λj A z h=>?_⟩;cases j with
    |zero=>simp at h;subst h;exact u
    |succ j=>
     have:=E j sa z (by simpa using h);rwa [show k+(j+1)=k+1+j by omega]
def qeE{w:Type}{f:w->zM}{l}{i}(h:BN f l=O i):∃x,l[i]?=O x/\f x=I/\∀j,j<i->∀y,l[j]?=O y->f y=zb:=by
 rcases qzF (f:=Ey f) (l:=l) (k:=0)with u|⟨j,x,b,u,A,q,B⟩
 .rw[show BN f l=zc from u]at h;cases h
 .rw[show BN f l=O b from u]at h;cases h;simp only[Ey,zAu]at q;split at q
  .rename_i C;cases q;refine⟨x,A,C,λj D y E=>?_⟩;have:=B j D y E;simp only[Ey]at this;split at this
   .cases this
   .rename_i H;simpa using H
  .cases q
def Ew{B:Type}{f:B->zM}{l}:BN f l=zc<->l.any f=zb:=by
 constructor
 .intro w;rw[zBK];intro x h;obtain⟨i,M⟩:=zBE h;rcases qzF (f:=Ey f) (l:=l) (k:=0)with q|⟨j,y,b,q,_⟩
  .intro C
   have D:∀(l:F B)(k:Z),qiB (Ey f) k l=zc->∀x∈l,f x=zb:=by
    intro l
    induction l with
    |nil=>intro k _ x h;cases h
    |cons y r E=>
     intro k u x h;simp only[qiB,Ey]at u;cases A:f y with
     |true=>rw[A]at u;cases u
     |false=>
      rw[A]at u;rcases zJ.1 h with rfl|h
      .exact A
      .exact E _ u x h
   rw[D l 0 q x h]at C;cases C
  .rw[show BN f l=O b from q]at w;cases w
 .intro w;cases H:BN f l with
  |none=>rfl
  |some i=>
   obtain⟨x,q,L,_⟩:=qeE H;have:=zBK.1 w x (zl q);rw[L]at this;simp at this
def qGM{q:Type}(f:q->zM)(l):decide (0<=CN (BN f l))=l.any f:=by
 cases h:BN f l with
 |none=>rw[Ew.1 h];rfl
 |some i=>
  obtain⟨x,u,w,_⟩:=qeE h;rw[zBY.2 ⟨x,zl u,w⟩];simp[CN]
def qnZ{q:Type}{f:q->zM}{l}{i}(h:BN f l=O i):i<l.length:=by
 obtain⟨x,u,_⟩:=qeE h;exact(zd.1 u).1
def AX.keep{g g'}{lo}{ety}{size b q n cap}{cs}{o}(h:AX g lo ety size (.slice (O ⟨q,0,zc⟩) n cap) n cs)(u:Upd g b o g')(C:q≠b):AX g' lo ety size (.slice (O ⟨q,0,zc⟩) n cap) n cs:=by
 obtain⟨D,w,E⟩:=h;refine⟨D,?_,E⟩;rcases w with⟨w,_⟩|⟨q,M,rest,B,A,H,L⟩
 .cases w
 .simp only[zAp,zAk,Addr.mk.injEq]at B;obtain⟨⟨rfl,_⟩,_,rfl⟩:=B;exact .inr ⟨_,_,rest,rfl,⟨A.1,(u.dom _).2 A.2⟩,(u.other _ A.2 C).trans H,L⟩
def AX.J0{g}{lo}{ety}{size b n cap}{cs}(h:AX g lo ety size (.slice (O ⟨b,0,zc⟩) n cap) n cs):∃rest,(lo<=b/\g.g b/\g.w.heap[b]?=O (.cells ⟨cs++rest⟩ ety (0,0)))/\∀(j m:Z)(vs:F zg)g',j+m<=cs.length->m=vs.length->(∀u∈vs,u.oneCell'=I)->Upd g b (.cells ⟨(cs++rest).take j++vs++(cs++rest).drop (j+m)⟩ ety (0,0)) g'->AX g' lo ety size (.slice (O ⟨b,0,zc⟩) n cap) n (cs.take j++vs++cs.drop (j+m)):=by
 obtain⟨E,B,C⟩:=h;rcases B with⟨B,_⟩|⟨R,T,rest,D,A,H,L,M,P⟩
 .cases B
 .simp only[zAp,zAk,Addr.mk.injEq]at D;obtain⟨⟨rfl,_⟩,_,rfl⟩:=D;refine⟨rest,⟨A.1,A.2,H⟩,λj m vs g' U hm Q u=>?_⟩;subst hm
  have e:(cs++rest).take j++vs++(cs++rest).drop (j+vs.length)=(cs.take j++vs++cs.drop (j+vs.length))++rest:=by
   rw[zBV sa,zCa sa];simp
  rw[e]at u;refine⟨?_,.inr ⟨b,cap,rest,rfl,⟨A.1,(u.dom _).2 A.2⟩,u.obj,L,M,?_⟩,λx q=>?_⟩
  .rw[<-E];simp;omega
  .rw[<-P];simp;omega
  .rcases zL.1 q with q|q
   .rcases zL.1 q with q|q
    .exact C x (zBD q)
    .exact Q x q
   .exact C x (zCt q)
def Ob{w:Type}{l:F w}{f:w->F zg}(h:∀x∈l,(f x).all zA0=I):∀u∈(l.map f).flatten,u.oneCell'=I:=λu q=>by
 obtain⟨c,A,q⟩:=zCP.1 q;obtain⟨x,B,rfl⟩:=zAb.1 A;exact zAh.1 (h x B) u q
section
variable{H:Type}{enc:zAy×zg->H}{P:zt}{W:zp}
abbrev tr(enc:zAy×zg->H)(P:zt)(W:zp)(fuel:Z)(t:zAy)(cs:F zg):=DataW.trod enc P W 0 (λ_=>I) I fuel t cs
def Rds{h:Type}(enc:zAy×zg->H)(P:zt)(W:zp)(t:zAy)(R:RP h):Prop:=∀fuel cs x,tr enc P W fuel t cs=O x->∃a,R (Fv W) cs a
def qHQ{t}(q:P.underlying t=O (.int .i64)):Rds enc P W t BS:=by
 intro fuel cs x h;cases fuel with
 |zero=>simp[tr,DataW.trod]at h
 |succ n=>
  unfold tr DataW.trod at h;rw[q]at h;split at h<;>try(first|(cases h;done)|(simp_all;done))
  rename_i u;cases u;split at h
  .rename_i w;obtain⟨rfl,A⟩:=w;exact⟨_,rfl,qEc A⟩
  .cases h
def qmY{t}(q:P.underlying t=O .bool):Rds enc P W t qJW:=by
 intro fuel cs x h;cases fuel with
 |zero=>simp[tr,DataW.trod]at h
 |succ n=>
  unfold tr DataW.trod at h;rw[q]at h;split at h<;>try(first|cases h;done|simp_all;done)
  exact⟨_,rfl⟩
def q0K{t}(q:P.underlying t=O .string):Rds enc P W t FJ:=by
 intro fuel cs x h;cases fuel with
 |zero=>simp[tr,DataW.trod]at h
 |succ n=>
  unfold tr DataW.trod at h;rw[q]at h;split at h<;>simp_all;exact⟨_,rfl⟩
def MJ{h:Type}(sz:Z)(R:RP h):RP (F h):=λg cs l=>∃v,cs=[v]/\rSl sz R g v l
def qRN{q u:Type}{f:q->zs u}:∀{l:F q}{r:F u},l.mapM f=O r->∀(i:Z)x,l[i]?=O x->∃y,r[i]?=O y/\f x=O y:=by
 intro l
 induction l with
 |nil=>intro r _ i x h;simp at h
 |cons a l A=>
  intro r w i x h;simp only[zC5,Option.bind_eq_bind,zAD,Option.pure_def,zAk]at w;obtain⟨y,B,D,C,rfl⟩:=w;cases i with
  |zero=>simp at h;subst h;exact⟨y,rfl,B⟩
  |succ i=>simpa using A C i x (by simpa using h)
def qXH{B:Type}{t e}{sz}{R:RP B}(V:P.underlying t=O (.slice e))(hs:P.cellsOf e=sz)(_:0<sz)(Y:Rds enc P W e R):Rds enc P W t (MJ sz R):=by
 intro fuel cs x C;rcases DataW.trod_slice V C with⟨rfl,_⟩|⟨a,len,cap,ae,rest,n,_,rfl,_,_,aa,ab,af,D,_⟩
 .exact⟨[],_,rfl,zc,0,rfl,zG _,zF _,λ_=>⟨rfl,rfl⟩,λi x u=>by simp at u⟩
 .rw[hs]at D
  have E:∀i,i<len->∃(x:B)(h:F zg),h.length=sz/\R (Fv W) h x/\Rcs (Fv W) (a.add (i*sz)) h:=λi w=>by
   have L:=D i w;rw[zAe sa]at L;obtain⟨h,q,ac⟩:=zAD.1 L;obtain⟨x,u⟩:=Y n h _ ac;unfold World.cells? at q;rw[zk (zF _)]at q;have M:=mapM_some_length q;refine⟨x,h,by simpa using M,u,λj ag Q=>?_⟩;have ah:=(zd.1 Q).1;have ai:h.length=sz:=by simpa using M
   obtain⟨y,T,A⟩:=qRN q j j (zCy sa);rw[Q]at T;cases T;refine⟨?_,A⟩;show _<W.heap.size;unfold World.cell? at A;cases U:W.heap[((a.add (i*sz)).add j).block]? with
   |none=>rw[U]at A;cases A
   |some o=>exact(zAg.1 U).1
  let f:Fin len->B:=λi=>Classical.choose (E i.1 i.2);have ad:∀i:Fin len,∃(h:F zg),h.length=sz/\R (Fv W) h (f i)/\Rcs (Fv W) (a.add (i.1*sz)) h:=λi=>zCl (E i.1 i.2);refine⟨List.ofFn f,_,rfl,O a,cap,sd,by simpa using aa,ab,(λC=>by cases C),λi x u=>⟨a,rfl,?_⟩⟩;obtain⟨w,q⟩:=zd.1 u;simp only[List.getElem_ofFn]at q;simp only[zDF]at w;have:=ad ⟨i,w⟩;rw[<-q];exact this
def fieldsOf(P:zt)(t:zAy):zs (F (Z×Z×zAy)):=match P.underlying t with
 |some (.struct h)=>O (h.toList.map λf=>(f.offset,P.cellsOf f.type,f.type))
 |_=>zc
def qeU{t}{l}(q:fieldsOf P t=O l){fuel}{cs}{x:DataW H×F MemPlace}(h:tr enc P W fuel t cs=O x):cs.length=P.cellsOf t/\∀(i o s:Z)(u:zAy),l[i]?=O (o,s,u)->∃n y,tr enc P W n u ((cs.drop o).take s)=O y:=by
 unfold fieldsOf at q;split at q
 .rename_i L B;simp only[zAk]at q;subst q;obtain⟨C,n,rfl,_,D,M,E⟩:=DataW.trod_struct B h;refine⟨D,λi o s u w=>?_⟩;simp only[zAv,zU,zCj]at w;obtain⟨f,q,A⟩:=w;simp only[zCD]at A;obtain⟨rfl,rfl,rfl⟩:=A;have Q:=(zAg.1 q).1;exact⟨n,C[i]'sa,by rw[<-zAe];exact E i f q⟩
 .cases q
def Rds.fld{q:Type}{u}{R:RP q}(w:Rds enc P W u R){cs}(h:∃n y,tr enc P W n u cs=O y):∃a,R (Fv W) cs a:=let⟨n,y,A⟩:=h;w n cs y A
variable{tS tI tB:zAy}
def qFW{t}(w:fieldsOf P t=O [(0,1,tS),(1,1,tS),(2,1,tS),(3,1,tS)])(hc:P.cellsOf t=4)(h:P.underlying tS=O .string):Rds enc P W t q4K:=by
 intro fuel cs x A;obtain⟨u,q⟩:=qeU w A;rw[hc]at u
 match cs,u with
 |[a,b,c,d],_=>
  obtain⟨B,C⟩:=(q0K h).fld (q 0 _ _ _ rfl);obtain⟨D,E⟩:=(q0K h).fld (q 1 _ _ _ rfl);obtain⟨L,M⟩:=(q0K h).fld (q 2 _ _ _ rfl);obtain⟨Q,R⟩:=(q0K h).fld (q 3 _ _ _ rfl);cases C;cases E;cases M;cases R;exact⟨⟨B,D,L,Q⟩,rfl⟩
def qmR{t tL}(w:fieldsOf P t=O [(0,1,tS),(1,1,tI),(2,1,tI),(3,1,tL)])(hc:P.cellsOf t=4)(A:P.underlying tS=O .string)(q:P.underlying tI=O (.int .i64))(B:P.underlying tL=O (.slice tB))(C:P.underlying tB=O .bool)(D:P.cellsOf tB=1):Rds enc P W t qOC:=by
 intro fuel cs x E;obtain⟨u,h⟩:=qeU w E;rw[hc]at u
 match cs,u with
 |[a,b,c,d],_=>
  obtain⟨L,M⟩:=(q0K A).fld (h 0 _ _ _ rfl);obtain⟨Q,R,T⟩:=(qHQ q).fld (h 1 _ _ _ rfl);obtain⟨U,V,Y⟩:=(qHQ q).fld (h 2 _ _ _ rfl);obtain⟨aa,v,ab,ac⟩:=(qXH B D sa (qmY C)).fld (h 3 _ _ _ rfl);cases M;cases R;cases V;cases ab;exact⟨⟨L,Q,U,aa⟩,_,rfl,T,Y,ac⟩
def qEW{A B C:Type}{t t0 t1 t2 e0 e1 e2}{z0 z1 z2}{R0:RP A}{R1:RP B}{u:RP C}(D:fieldsOf P t=O [(0,1,t0),(1,1,t1),(2,1,t2)])(hc:P.cellsOf t=3)(E:P.underlying t0=O (.slice e0))(L:P.underlying t1=O (.slice e1))(h2:P.underlying t2=O (.slice e2))(c0:P.cellsOf e0=z0)(c1:P.cellsOf e1=z1)(c2:P.cellsOf e2=z2)(M:0<z0)(Q:0<z1)(R:0<z2)(T:Rds enc P W e0 R0)(r1:Rds enc P W e1 R1)(U:Rds enc P W e2 u){fuel}{cs}{x:DataW H×F MemPlace}(h:tr enc P W fuel t cs=O x):∃a b d,cs=[a,b,d]/\(∃l,rSl z0 R0 (Fv W) a l)/\(∃l,rSl z1 R1 (Fv W) b l)/\∃l,rSl z2 u (Fv W) d l:=by
 obtain⟨w,q⟩:=qeU D h;rw[hc]at w
 match cs,w with
 |[a,b,c],_=>
  obtain⟨V,ah,Y,aa⟩:=(qXH E c0 M T).fld (q 0 _ _ _ rfl);obtain⟨ab,ai,ac,ad⟩:=(qXH L c1 Q r1).fld (q 1 _ _ _ rfl);obtain⟨ae,aj,af,ag⟩:=(qXH h2 c2 R U).fld (q 2 _ _ _ rfl);cases Y;cases ac;cases af;exact⟨_,_,_,rfl,⟨V,aa⟩,⟨ab,ad⟩,ae,ag⟩
end
end Go.Proofs.YtlmhpamhhgogaaaGreat.Sx
namespace Go.Proofs.YtlmhpamhhgogaaaGreat.Sx
structure OpD where
 kind:zn
 listen:BA
 Bp:BA
 path:BA
 d0:zn
 d1:zn
 n:zn
 Ap:BB
structure CB where
 first:BB
 Af:F (F OpD)
 Ax:F zn
def rOp:RP OpD:=λg cs o=>∃a b d,cs=[.int .i64 o.kind,.string o.listen,.string o.Bp,.string o.path,.int .i64 o.d0,.int .i64 o.d1,.int .i64 o.n,a,b,d]/\(InR o.kind/\InR o.d0/\InR o.d1/\InR o.n)/\qHB g [a,b,d] o.Ap
def qzE:C4 rOp:=λ_ _ _ _ k⟨a,b,d,e,i,h⟩=>⟨a,b,d,e,i,qAA _ _ _ _ k h⟩
def q4L:RP (F OpD):=λg cs l=>∃v,cs=[v]/\rSl 10 rOp g v l
def q3M:C4 q4L:=λ_ _ _ _ k⟨v,e,h⟩=>⟨v,e,h.mono qzE k⟩
def qrC:RP CB:=λg cs s=>∃a b d t p,cs=[a,b,d,t,p]/\qHB g [a,b,d] s.first/\rSl 1 q4L g t s.Af/\rSl 1 BS g p s.Ax
def qhI:C4 qrC:=λ_ _ _ _ k⟨a,b,d,t,p,e,h,q,u⟩=>⟨a,b,d,t,p,e,qAA _ _ _ _ k h,q.mono q3M k,u.mono qxA k⟩
def q2K{B:Type}{sz}{R:RP B}{g}{v}{n}{cs}(h:Dl g sz v n cs)(l)(hl:l.length=n)(T:0<sz)(C:∀(i:Z)x,l[i]?=O x->R g ((cs.drop (i*sz)).take sz) x):rSl sz R g v l:=by
 subst hl;obtain⟨D,u,cap,rfl,E,H,w,L⟩:=h;refine⟨u,cap,rfl,E,H,w,λi x A=>?_⟩;have M:=(zd.1 A).1;have U:i*sz+sz<=cs.length:=by rw[D,<-zCm];exact zCu _ M
 obtain⟨a,rfl⟩:∃a,u=O a:=by
  cases u with
  |some a=>exact⟨a,rfl⟩
  |none=>have:=(w rfl).1;omega
 refine⟨a,rfl,_,sf,C i x A,λj P q=>?_⟩;rw[zA7]at q;split at q
 .rw[zCC]at q;obtain⟨V,Q,W⟩:=L _ P q;cases Q;rwa [qIH]
 .cases q
structure C6 where
 c0:zn
 c1:zn
 c2:zn
 c3:zn
 c4:zn
 c5:zn
abbrev C6.cs(c:C6):F zg:=[.int .u64 c.c0,.int .u64 c.c1,.int .u64 c.c2,.int .u64 c.c3,.int .u64 c.c4,.int .u64 c.c5]
def C6.get(c:C6):Z->zn
 |0=>c.c0
 |1=>c.c1
 |2=>c.c2
 |3=>c.c3
 |4=>c.c4
 |_=>c.c5
def C6.set(c:C6)(n:zn):Z->C6
 |0=>{c with c0:=n}
 |1=>{c with c1:=n}
 |2=>{c with c2:=n}
 |3=>{c with c3:=n}
 |4=>{c with c4:=n}
 |_=>{c with c5:=n}
structure C6.ok(c:C6):Prop where
 k0:InU c.c0
 k1:InU c.c1
 k2:InU c.c2
 k3:InU c.c3
 k4:InU c.c4
 k5:InU c.c5
def c60:C6:=⟨0,0,0,0,0,0⟩
structure Ans where
 kind:zn
 Ac:zn
 Ak:zn
 An:zn
 slot:zn
 listen:zn
 n:zn
 counts:C6
def BO:Ans:=⟨0,0,0,0,0,0,0,c60⟩
abbrev Ans.cs(a:Ans):F zg:=[.int .i64 a.kind,.int .i64 a.Ac,.int .i64 a.Ak,.int .i64 a.An,.int .i64 a.slot,.int .i64 a.listen,.int .i64 a.n,.int .u64 a.counts.c0,.int .u64 a.counts.c1,.int .u64 a.counts.c2,.int .u64 a.counts.c3,.int .u64 a.counts.c4,.int .u64 a.counts.c5]
structure Ans.ok(a:Ans):Prop where
 kind:InR a.kind
 Ac:InR a.Ac
 Ak:InR a.Ak
 An:InR a.An
 slot:InR a.slot
 listen:InR a.listen
 n:InR a.n
 counts:a.counts.ok
structure Ev where
 Ag:zn
 op:zn
 access:zn
 cell:zn
 Ac:zn
 AV:zM
 value:zn
 EP:zM
 BL:zM
 done:zM
 answer:Ans
def ev0:Ev:=⟨0,0,0,0,0,zb,0,zb,zb,zb,BO⟩
abbrev Ev.cs(e:Ev):F zg:=[.int .i64 e.Ag,.int .i64 e.op,.int .i64 e.access,.int .i64 e.cell,.int .i64 e.Ac,.bool e.AV,.int .i64 e.value,.bool e.EP,.bool e.BL,.bool e.done,
 .int .i64 e.answer.kind,.int .i64 e.answer.Ac,.int .i64 e.answer.Ak,.int .i64 e.answer.An,.int .i64 e.answer.slot,.int .i64 e.answer.listen,.int .i64 e.answer.n,.int .u64 e.answer.counts.c0,.int .u64 e.answer.counts.c1,.int .u64 e.answer.counts.c2,.int .u64 e.answer.counts.c3,.int .u64 e.answer.counts.c4,.int .u64 e.answer.counts.c5]
structure Aj where
 op:OpD
 Ag:zn
 pc:zn
 Al:zn
 Ac:zn
 listen:zn
 Ak:zn
 An:zn
 other:zn
 slot:zn
 word:zn
 link:zn
 i:zn
 k:zn
 sum:zn
 done:zM
 answer:Ans
 counts:C6
structure Aj.ok(m:Aj):Prop where
 Ag:InR m.Ag
 pc:InR m.pc
 Al:InR m.Al
 Ac:InR m.Ac
 listen:InR m.listen
 Ak:InR m.Ak
 An:InR m.An
 other:InR m.other
 slot:InR m.slot
 word:InU m.word
 link:InR m.link
 i:InR m.i
 k:InR m.k
 sum:InR m.sum
 answer:m.answer.ok
 counts:m.counts.ok
abbrev Aj.cs(a b d:zg)(m:Aj):F zg:=[.int .i64 m.op.kind,.string m.op.listen,.string m.op.Bp,.string m.op.path,.int .i64 m.op.d0,.int .i64 m.op.d1,.int .i64 m.op.n,a,b,d,
 .int .i64 m.Ag,.int .i64 m.pc,.int .i64 m.Al,.int .i64 m.Ac,.int .i64 m.listen,.int .i64 m.Ak,.int .i64 m.An,.int .i64 m.other,.int .i64 m.slot,.int .u64 m.word,.int .i64 m.link,.int .i64 m.i,.int .i64 m.k,.int .i64 m.sum,.bool m.done,
 .int .i64 m.answer.kind,.int .i64 m.answer.Ac,.int .i64 m.answer.Ak,.int .i64 m.answer.An,.int .i64 m.answer.slot,.int .i64 m.answer.listen,.int .i64 m.answer.n,.int .u64 m.answer.counts.c0,.int .u64 m.answer.counts.c1,.int .u64 m.answer.counts.c2,.int .u64 m.answer.counts.c3,.int .u64 m.answer.counts.c4,.int .u64 m.answer.counts.c5,
 .int .u64 m.counts.c0,.int .u64 m.counts.c1,.int .u64 m.counts.c2,.int .u64 m.counts.c3,.int .u64 m.counts.c4,.int .u64 m.counts.c5]
def qeA:RP Aj:=λg cs m=>∃a b d,cs=m.cs a b d/\m.ok/\(InR m.op.kind/\InR m.op.d0/\InR m.op.d1/\InR m.op.n)/\qHB g [a,b,d] m.op.Ap
def qUA:C4 qeA:=λ_ _ _ _ k⟨a,b,d,e,h,i,c⟩=>⟨a,b,d,e,h,i,qAA _ _ _ _ k c⟩
def F7:RP Ans:=λ_ cs a=>cs=a.cs/\a.ok
def qYE:C4 F7:=λ_ _ _ _ _ h=>h
end Go.Proofs.YtlmhpamhhgogaaaGreat.Sx
namespace Go
open Go.Lib
def q8C(b:UInt8):F UInt8->F (F UInt8)
 |[]=>[[]]
 |c::r=>if c==b then[]::q8C b r else match q8C b r with
  |p::h=>(c::p)::h
  |[]=>[[c]]
def qjF(b):∀L,(indexByte L b=-1/\q8C b L=[L])\/(∃i:Z,i<L.length/\indexByte L b=i/\q8C b L=L.take i::q8C b (L.drop (i+1)))
 |[]=>.inl ⟨rfl,rfl⟩
 |c::r=>by
  have u:q8C b (c::r)=if c==b then[]::q8C b r else match q8C b r with
   |p::w=>(c::p)::w
   |[]=>[[c]]:=rfl
  have A:indexByte (c::r) b=if c==b then 0 else if indexByte r b==-1 then -1 else indexByte r b+1:=rfl;rw[u,A];cases B:c==b with
  |true=>exact .inr ⟨0,by simp,by simp,by simp⟩
  |false=>
   rcases qjF b r with⟨h,q⟩|⟨i,C,h,q⟩
   .exact .inl ⟨by simp[h],by simp[q]⟩
   .refine .inr ⟨i+1,by simp;omega,?_,by rw[q];simp⟩;have:((i:zn)==-1)=zb:=by rw[beq_eq_false_iff_ne];omega
    simp[h,this]
end Go
namespace Go.Proofs.YtlmhpamhhgogaaaGreat.Sx
def J3(c:zn):zM:=decide (97<=c)&&decide (c<=122)
def qNJ(c:zn):zM:=J3 c||(decide (48<=c)&&decide (c<=57))||c==45
def qxD(l:F UInt8):zM:=decide (0<l.length)&&decide (l.length<=16)&&l.head?.any (λc=>J3 c.toNat)&&l.all λc=>qNJ c.toNat
def q3I(l:F UInt8):zM:=decide (l.length<=32)&&(q8C 46 l).all qxD
abbrev Eu(p s:F UInt8):zM:=p.isPrefixOf s
abbrev Jl(t s:F UInt8):zM:=t.isSuffixOf s
def qeO(p s):Eu p s=(decide (p.length<=s.length)&&s.take p.length==p):=by
 rw[zCn];simp only[zj,zx,beq_iff_eq];rw[List.isPrefixOf_iff_prefix,List.prefix_iff_eq_take];constructor
 .intro h;have:=zK List.length h;simp only[zAN]at this;exact⟨sa,h.symm⟩
 .exact λh=>h.2.symm
def q6S(t s):Jl t s=(decide (t.length<=s.length)&&s.drop (s.length-t.length)==t):=by
 rw[zCn];simp only[zj,zx,beq_iff_eq];rw[List.isSuffixOf_iff_suffix,List.suffix_iff_eq_drop];constructor
 .intro h;have:=zK List.length h;simp only[zB2]at this;exact⟨sa,h.symm⟩
 .exact λh=>h.2.symm
def qlB(l:F UInt8):zM:=if Eu [42,46] l then q3I (l.drop 2)else l==[42]||q3I l
def qhG(l:F UInt8):zM:=decide (0<l.length)&&decide (l.length<=32)&&l.head?.any (λc=>(c.toNat:zn)==47)&&l.all λc=>(c.toNat:zn)==47||qNJ c.toNat
def qtV(t h:F UInt8):zM:=t==[]||(decide (t.length<h.length)&&Jl t h)
def qiH(p h:F UInt8):zM:=qlB p&&q3I h&&(p==h||(Eu [42] p&&qtV (p.drop 1) h))
def qcI(a b:F UInt8):zM:=qhG a&&qhG b&&Eu b a&&(a.drop b.length==[]||Jl [47] b||(a.drop b.length).head?==O 47)
def qGB(p:F UInt8):zn:=if qlB p then(if Eu [42,46] p then((p.drop 2).length:zn)else if p==[42]then 0 else 100)else 0
def qVI(a p b q:F UInt8):zM:=if qGB a !=qGB b then decide (qGB b<qGB a)else decide (q.length<p.length)
def qWS(a p b q):qVI a p b q=(decide (qGB b<qGB a)||(qGB a==qGB b&&decide (q.length<p.length))):=by
 unfold qVI;by_cases h:qGB a=qGB b
 .simp[h]
 .simp[h]
def E2(l:F BA)(s:BA):zM:=l.any λx=>bs x==bs s
def Ht(l:F Bb)(s:BA):zM:=l.any λx=>bs x.name==bs s
def Iw(q r:Gs):zM:=bs q.listen==bs r.listen&&bs q.Bp==bs r.Bp&&bs q.path==bs r.path
abbrev EI:=zn×zn
def qhK(c:BB):zs EI:=if(1<=c.Aa.length/\c.Aa.length<=4)/\(1<=c.As.length/\c.As.length<=8)/\(1<=c.Ad.length/\c.Ad.length<=4)then zc else O (6,0)
def q6E(l:F BA)(i:Z)(s:BA):zs EI:=if qxD (bs s)then(if E2 (l.take i) s then O (4,i)else zc)else O (3,i)
def qPD(c:BB):zs EI:=qiB (q6E c.Aa) 0 c.Aa
def qVB(l:F Bb)(i:Z)(x:Bb):zs EI:=
 if qxD (bs x.name)then(if Ht (l.take i) x.name then O (4,i)else if x.Bl=1\/x.Bl=2 then(if 1<=x.Au/\x.Au<=4 then(if 1<=x.AA.length/\x.AA.length<=4 then zc else O (6,i))else O (10,i))else O (9,i))else O (3,i)
def qBD(c:BB):zs EI:=qiB (qVB c.Ad) 0 c.Ad
def qVE(c:BB)(i:Z)(r:Gs):zs EI:=
 if E2 c.Aa r.listen then(if qlB (bs r.Bp)then(if qhG (bs r.path)then(if Ht c.Ad r.Ak then(if(c.As.take i).any λh=>Iw h r then O (4,i)else zc)else O (5,i))else O (8,i))else O (7,i))else O (5,i)
def qeF(c:BB):zs EI:=qiB (qVE c) 0 c.As
def qTA(c:BB):zs EI:=match qhK c with
 |some e=>O e
 |none=>match qPD c with
  |some e=>O e
  |none=>match qBD c with
   |some e=>O e
   |none=>qeF c
def eiT:zs EI->zg
 |none=>.tuple #[.int .i64 0,.int .i64 0]
 |some (e,i)=>.tuple #[.int .i64 e,.int .i64 i]
def q9E{u w:Type}{f:Z->u->zs w}{l}:qiB f 0 l=zc<->∀(i:Z)x,l[i]?=O x->f i x=zc:=by
 constructor
 .intro h i
  induction i using Nat.strongRecOn with
  |ind i A=>
   intro x q;cases B:f i x with
   |none=>rfl
   |some b=>
    have:=Ca.hit (f:=f) (l:=l) (i:=i) (λj C y D=>A j C y D) q B;rw[this]at h;cases h
 .intro h;exact Ca.done (i:=l.length) (λj _ x q=>h j x q) (zG _)
def q9G{q A:Type}{f}{l}{b:A}(h:qiB f 0 l=O b):∃(i:Z)(x:q),l[i]?=O x/\f i x=O b:=by
 have B:∀{l:F q}{k:Z},qiB f k l=O b->∃(i:Z)(x:q),l[i]?=O x/\f (k+i) x=O b:=by
  intro l
  induction l with
  |nil=>intro k h;simp[qiB]at h
  |cons x r C=>
   intro k h;simp only[qiB]at h;split at h
   .rename_i c D;simp only[zAk]at h;subst h;exact⟨0,x,rfl,D⟩
   .obtain⟨i,y,u,w⟩:=C h;exact⟨i+1,y,by simpa using u,by rwa [show k+(i+1)=k+1+i by omega]⟩
 obtain⟨i,x,u,w⟩:=B h;exact⟨i,x,u,by rwa [zAu]at w⟩
def qiC{c}{e i}(h:qTA c=O (e,i)):3<=e/\e<=10/\0<=i:=by
 unfold qTA at h;split at h
 .rename_i x u;simp only[zAk]at h;subst h;unfold qhK at u;split at u
  .cases u
  .simp at u;omega
 .split at h
  .rename_i x u;simp only[zAk]at h;subst h;obtain⟨j,y,_,q⟩:=q9G u;unfold q6E at q
   (repeat'(split at q))<;>simp at q<;>omega
  .split at h
   .rename_i x u;simp only[zAk]at h;subst h;obtain⟨j,y,_,q⟩:=q9G u;unfold qVB at q
    (repeat'(split at q))<;>simp at q<;>omega
   .obtain⟨j,y,_,q⟩:=q9G h;unfold qVE at q
    (repeat'(split at q))<;>simp at q<;>omega
def JE{h:Type}(f:h->h->zM)(l:F h):Prop:=∀(i j:Z)x y,i<j->l[i]?=O x->l[j]?=O y->f x y=zb
def CO{w:Type}{f:w->zM}{l:F w}{i:Z}:(l.take i).any f=zb<->∀(j:Z)x,j<i->l[j]?=O x->f x=zb:=by
 rw[zBK];constructor
 .intro q j x h u;have:(l.take i)[j]?=O x:=by rw[zA7,zk h];exact u
  simpa using q x (zl this)
 .intro q x u;obtain⟨j,h⟩:=zBE u;rw[zA7]at h;split at h
  .rename_i A;simpa using q j x A h
  .cases h
structure Ln(c:BB):Prop where
 size:(1<=c.Aa.length/\c.Aa.length<=4)/\(1<=c.As.length/\c.As.length<=8)/\(1<=c.Ad.length/\c.Ad.length<=4)
 ln:∀s∈c.Aa,qxD (bs s)=I
 lu:JE (λx y=>bs x==bs y) c.Aa
 cl:∀x∈c.Ad,qxD (bs x.name)=I/\(x.Bl=1\/x.Bl=2)/\(1<=x.Au/\x.Au<=4)/\(1<=x.AA.length/\x.AA.length<=4)
 cu:JE (λ(x y:Bb)=>bs x.name==bs y.name) c.Ad
 rt:∀r∈c.As,E2 c.Aa r.listen=I/\qlB (bs r.Bp)=I/\qhG (bs r.path)=I/\Ht c.Ad r.Ak=I
 ru:JE Iw c.As
def FY{c}:qPD c=zc<->(∀s∈c.Aa,qxD (bs s)=I)/\JE (λx y=>bs x==bs y) c.Aa:=by
 unfold qPD;rw[q9E];constructor
 .intro u;refine⟨λs hs=>?_,λi j x y w h q=>?_⟩
  .obtain⟨i,A⟩:=zBE hs;have:=u i s A;unfold q6E at this;split at this
   .assumption
   .cases this
  .have:=u j y q;unfold q6E at this;split at this
   .split at this
    .cases this
    .rename_i B;exact CO.1 ((zBS _).mp B) i x w h
   .cases this
 .rintro⟨C,D⟩ i x h;unfold q6E;rw[zk (C x (zl h)),zh];have:E2 (c.Aa.take i) x=zb:=CO.2 λj y E q=>D j i y x E q h;rw[this];simp
def Fq{c}:qBD c=zc<->(∀x∈c.Ad,qxD (bs x.name)=I/\(x.Bl=1\/x.Bl=2)/\(1<=x.Au/\x.Au<=4)/\(1<=x.AA.length/\x.AA.length<=4))/\JE (λ(x y:Bb)=>bs x.name==bs y.name) c.Ad:=by
 unfold qBD;rw[q9E];constructor
 .intro u;refine⟨λs hs=>?_,λi j x y w h q=>?_⟩
  .obtain⟨i,A⟩:=zBE hs;have:=u i s A;unfold qVB at this
   (repeat'(split at this))<;>first|(cases this;done)|(exact⟨sr,sr,sr,sr⟩)
  .have:=u j y q;unfold qVB at this;split at this
   .split at this
    .cases this
    .rename_i B;exact CO.1 ((zBS _).mp B) i x w h
   .cases this
 .rintro⟨C,D⟩ i x h;obtain⟨E,H,L,M⟩:=C x (zl h);unfold qVB;have:Ht (c.Ad.take i) x.name=zb:=CO.2 λj y P q=>D j i y x P q h;rw[zk E,this,zh sd,zk H,zk L,zk M]
def Gk{c}:qeF c=zc<->(∀r∈c.As,E2 c.Aa r.listen=I/\qlB (bs r.Bp)=I/\qhG (bs r.path)=I/\Ht c.Ad r.Ak=I)/\JE Iw c.As:=by
 unfold qeF;rw[q9E];constructor
 .intro u;refine⟨λs hs=>?_,λi j x y w h q=>?_⟩
  .obtain⟨i,A⟩:=zBE hs;have:=u i s A;unfold qVE at this
   (repeat'(split at this))<;>first|(cases this;done)|(exact⟨sr,sr,sr,sr⟩)
  .have:=u j y q;unfold qVE at this
   (repeat'(split at this))<;>first|(cases this;done)|skip
   rename_i B;exact CO.1 (by simpa using B) i x w h
 .rintro⟨C,D⟩ i x h;obtain⟨E,H,L,M⟩:=C x (zl h);unfold qVE;have:(c.As.take i).any (λP=>Iw P x)=zb:=CO.2 λj y Q q=>D j i y x Q q h;rw[zk E,zk H,zk L,zk M,this,zh sd]
def Bh{c}:qTA c=zc<->Ln c:=by
 unfold qTA;constructor
 .intro h;split at h
  .cases h
  .rename_i q;split at h
   .cases h
   .rename_i u;split at h
    .cases h
    .rename_i w;obtain⟨A,B⟩:=FY.1 u;obtain⟨b1,C⟩:=Fq.1 w;obtain⟨c1,c2⟩:=Gk.1 h;refine⟨?_,A,B,b1,C,c1,c2⟩;unfold qhK at q;split at q
     .assumption
     .cases q
 .intro h;have q:qhK c=zc:=by unfold qhK;rw[zk h.size]
  rw[q,FY.2 ⟨h.ln,h.lu⟩,Fq.2 ⟨h.cl,h.cu⟩];exact Gk.2 ⟨h.rt,h.ru⟩
def qPV(a b:F UInt8):(a==b)=(b==a):=by rw[zCn];simp only[beq_iff_eq];exact⟨Eq.symm,Eq.symm⟩
noncomputable def eqB{h:Type}(a b:h):zM:=@decide (a=b) (zDR _)
def DU{h:Type}{a b:h}:eqB a b=I<->a=b:=@decide_eq_true_iff _ (zDR _)
def qnU{q:Type}{a b:q}(h:a=b):eqB a b=I:=DU.2 h
def qPc{q:Type}{a b:q}(h:a≠b):eqB a b=zb:=by
 cases e:eqB a b with
 |false=>rfl
 |true=>exact absurd (DU.1 e) h
def qOT{a b:Gs}(h:a.listen=b.listen)(h2:a.Bp=b.Bp)(q:a.path=b.path)(u:a.Ak=b.Ak):a=b:=by
 cases a;cases b;simp_all
def qwM(c:BB)(r:Gs):Gb:=⟨CN (BN (λx=>bs x==bs r.listen) c.Aa),r.Bp,r.path,CN (BN (λ(x:Bb)=>bs x.name==bs r.Ak) c.Ad)⟩
def qGC(c:BB):FL:=⟨c.Aa,c.As.map (qwM c),c.Ad⟩
def qjB(c:BB):FL:=match qTA c with
 |none=>qGC c
 |some _=>⟨[],[],[]⟩
def quJ(l:F BA)(i:zn):BA:=if 0<=i/\i<l.length then(l[i.toNat]?).getD ⟨#[]⟩else⟨#[]⟩
def qCD(l:F Bb)(i:zn):BA:=if 0<=i/\i<l.length then((l[i.toNat]?).map (·.name)).getD ⟨#[]⟩else⟨#[]⟩
def q1B(s:FL)(r:Gb):Gs:=⟨quJ s.Aa r.listen,r.Bp,r.path,qCD s.Ad r.Ak⟩
def qRD(s:FL):BB:=⟨s.Aa,s.AN.map (q1B s),s.Ad⟩
def qUZ{s}(h:qxD (bs s)=I):s≠⟨#[]⟩:=λe=>by
 subst e;exact absurd h sb
def q0R{l}{s}(h:E2 l s=I):quJ l (CN (BN (λx=>bs x==bs s) l))=s:=by
 cases q:BN (λx=>bs x==bs s) l with
 |none=>rw[Ew]at q;rw[E2]at h;rw[h]at q;cases q
 |some i=>
  obtain⟨x,u,w,_⟩:=qeE q;have:=(zd.1 u).1;unfold quJ CN;simp only;rw[zk ⟨sa,sa⟩];simp only[zBn,u,zAM];exact qHR (by simpa using w)
def qLS{l}{s}(h:Ht l s=I):qCD l (CN (BN (λ(x:Bb)=>bs x.name==bs s) l))=s:=by
 cases q:BN (λ(x:Bb)=>bs x.name==bs s) l with
 |none=>rw[Ew]at q;rw[Ht]at h;rw[h]at q;cases q
 |some i=>
  obtain⟨x,u,w,_⟩:=qeE q;have:=(zd.1 u).1;unfold qCD CN;simp only;rw[zk ⟨sa,sa⟩];simp only[zBn,u,zBx,zAM];exact qHR (by simpa using w)
def qRL{c}(h:Ln c):qRD (qGC c)=c:=by
 have:(c.As.map (qwM c)).map (q1B (qGC c))=c.As:=by
  rw[zCM]
  conv=>rhs;rw[<-List.map_id c.As]
  refine List.map_congr_left λr q=>?_;obtain⟨u,_,_,w⟩:=h.rt r q;have A:=q0R u;have B:=qLS w;exact qOT A rfl rfl B
 show(⟨c.Aa,(c.As.map (qwM c)).map (q1B (qGC c)),c.Ad⟩:BB)=c;rw[this]
def By(w:zn):zn:=w%4294967296-1
def BQ(w:zn):zn:=w / 4294967296
def qHD(w i:zn):zn:=(BQ w+1)%4294967296*4294967296+(i+1)
def qoC(i:zn):zM:=decide (-1<=i)&&decide (i<=2147483646)
def q2J{w i}(h:-1<=i/\i<=2147483646):By (qHD w i)=i:=by
 unfold By qHD;rw[Int.add_comm,Int.add_mul_emod_self_right,zCs sa sa];omega
def qrO{w i}(h:-1<=i/\i<=2147483646):InU (qHD w i):=by
 unfold qHD;have q:=zBW (BQ w+1) (show(4294967296:zn)≠0 by decide);have u:=zBN (BQ w+1) (show(0:zn)<4294967296 by decide);constructor<;>omega
def qpQ(w):-1<=By w/\By w<=4294967294:=by
 unfold By;have h:=zBW w (show(4294967296:zn)≠0 by decide);have q:=zBN w (show(0:zn)<4294967296 by decide);omega
def CM(next:F zn)(i:zn):zn:=(next[i.toNat]?).getD 0
def qHE(next:F zn):zn->F zn->Prop
 |i,[]=>i=-1
 |i,x::r=>i=x/\(0<=x/\x<next.length)/\qHE next (CM next x) r
def q6F(next:F zn):Z->F zn->zn->zs (F zn)
 |0,_,_=>zc
 |f+1,out,i=>if i=-1 then O out else if i<0\/(next.length:zn)<=i\/i∈out then zc else q6F next f (out++[i]) (CM next i)
def qMC(e:Bz):zs (F zn):=q6F e.next (e.next.length+1) [] (By e.head)
def qqF{l:F zn}{n:Z}(h:l.Nodup)(k:∀x∈l,0<=x/\x<n):l.length<=n:=by
 have w:(l.map Int.toNat).Nodup:=by
  refine List.Pairwise.map _ ?_ (List.Pairwise.and_mem.1 h);intro a b ⟨D,E,H⟩ M;have:=k a D;have:=k b E
  exact H sa
 have A:∀(n:Z)(l:F Z),l.Nodup->(∀x∈l,x<n)->l.length<=n:=by
  intro n
  induction n with
  |zero=>intro l _ u;cases l with
   |nil=>simp
   |cons x r=>have:=u x sd;omega
  |succ n C=>
   intro l B u;by_cases hm:n∈l
   .have:=C (l.erase n) (B.erase n) λx q=>by
     have w:=u x (List.mem_of_mem_erase q);have A:x≠n:=λe=>by rw[e]at q;exact B.not_mem_erase q
     omega
    rw[List.length_erase_of_mem hm]at this;omega
   .have:=C l B λx q=>by
     have w:=u x q;have A:x≠n:=λe=>hm (e▸q);omega
    omega
 have:=A n (l.map Int.toNat) w λx q=>by
  obtain⟨y,L,rfl⟩:=zAb.1 q;have:=k y L;omega
 simpa using this
def qJK{next}:∀{f:Z}{out:F zn}{i:zn}{l:F zn},q6F next f out i=O l->out.Nodup->∃r,l=out++r/\qHE next i r/\l.Nodup
 |0,_,_,_,h,_=>by cases h
 |f+1,out,i,l,h,u=>by
  simp only[q6F]at h;split at h
  .rename_i A;cases h;exact⟨[],sd,A,u⟩
  .split at h
   .cases h
   .rename_i M B;have q:0<=i/\i<next.length/\i∉out:=⟨sa,sa,λhm=>B (.inr (.inr hm))⟩;obtain⟨r,C,D,E⟩:=qJK h (zBk.2 ⟨u,sd,λa H b w L=>q.2.2 (by simp at w;rw[<-w,<-L];exact H)⟩);exact⟨i::r,by rw[C];simp,⟨rfl,⟨q.1,q.2.1⟩,D⟩,E⟩
def q6G{next}:∀{r:F zn}{i:zn},qHE next i r->∀x∈r,0<=x/\x<next.length
 |[],_,_,x,h=>by cases h
 |y::r,i,q,x,h=>by
  rcases zJ.1 h with rfl|h
  .exact q.2.1
  .exact q6G q.2.2 x h
def qrN{next}:∀{r:F zn}{f:Z}{out:F zn}{i:zn},qHE next i r->(out++r).Nodup->r.length<f->q6F next f out i=O (out++r)
 |[],f+1,out,i,h,q,u=>by
  have:i=-1:=h;simp[q6F,this]
 |x::r,f+1,out,i,h,q,u=>by
  obtain⟨rfl,⟨B,C⟩,w⟩:=h;have A:i∉out:=λhm=>(zBk.1 q).2.2 i hm i sd rfl;have:=qrN (f:=f) (out:=out++[i]) w (by simpa using q) (by simpa using u);simp only[q6F];rw[zh sa,zh (by rintro(h|h|h);omega;omega;exact A h),this];simp
def Cg{e}{l}:qMC e=O l<->qHE e.next (By e.head) l/\l.Nodup:=by
 constructor
 .intro u;obtain⟨r,rfl,h,q⟩:=qJK u sd;exact⟨h,q⟩
 .rintro⟨h,q⟩;have:=qrN (f:=e.next.length+1) (out:=[]) h (by simpa using q) (by have:=qqF q (q6G h);omega);simpa[qMC]using this
def Bv(e:Bz):zM:=(qMC e).isSome&&decide (1<=e.next.length)&&decide (e.next.length<=4)&&decide (0<=e.Ah)
def quQ{e}{x}{r}(h:qMC e=O (x::r)){w}(q:By w=CM e.next x)(a):qMC ⟨w,e.next,a⟩=O r:=by
 obtain⟨u,A⟩:=Cg.1 h;refine Cg.2 ⟨?_,(zBy.1 A).2⟩;show qHE e.next (By w) r;rw[q];exact u.2.2
def qiQ{next}{s}{v x}(hs:0<=s)(h:0<=x/\x<next.length)(q:x≠s):CM (next.set s.toNat v) x=CM next x:=by
 unfold CM;rw[zAF];rw[zh sa]
def q5G{next}{s v}(hs:0<=s):∀{r:F zn}{i:zn},qHE next i r->s∉r->qHE (next.set s.toNat v) i r
 |[],_,h,_=>h
 |x::r,i,h,q=>by
  obtain⟨rfl,u,w⟩:=h;have A:i≠s:=λe=>q (by simp[e]);exact⟨rfl,by simpa using u,by rw[qiQ hs u A];exact q5G hs w λhm=>q (zAl _ hm)⟩
def qZU{e}{l}(h:qMC e=O l){s:zn}(hs:0<=s/\s<e.next.length)(q:s∉l){w:zn}(u:By w=s)(a:zn):qMC ⟨w,e.next.set s.toNat (By e.head),a⟩=O (s::l):=by
 obtain⟨A,B⟩:=Cg.1 h;refine Cg.2 ⟨⟨u,by simpa using hs,?_⟩,zBy.2 ⟨q,B⟩⟩
 have:CM (e.next.set s.toNat (By e.head)) s=By e.head:=by
  unfold CM;rw[zBu sa];rfl
 show qHE (e.next.set s.toNat (By e.head)) _ l;rw[this];exact q5G hs.1 A q
def q6J{e}{l}(h:qMC e=O l):(l=[]/\By e.head=-1)\/∃x r,l=x::r/\By e.head=x/\(0<=x/\x<e.next.length)/\qHE e.next (CM e.next x) r/\x∉r/\r.Nodup:=by
 obtain⟨q,u⟩:=Cg.1 h;cases l with
 |nil=>exact .inl ⟨rfl,q⟩
 |cons x r=>
  obtain⟨w,A⟩:=zBy.1 u;exact .inr ⟨x,r,rfl,q.1,q.2.1,q.2.2,w,A⟩
def qaU{e}{x}{r}(h:qMC e=O (x::r)):-1<=CM e.next x/\CM e.next x<e.next.length:=by
 obtain⟨u,_⟩:=Cg.1 h;have q:=u.2.2;cases r with
 |nil=>have:CM e.next x=-1:=q;omega
 |cons y r=>have:=q.1;have:=q.2.1;omega
def qIJ{e}{l}(h:qMC e=O l):l.length<=e.next.length:=by
 obtain⟨q,u⟩:=Cg.1 h;exact qqF u (q6G q)
def qsB(n:Z):Bz:=⟨1,(zBf n).map λi=>if i+1=n then -1 else(i:zn)+1,0⟩
def allI{h:Type}(f:Z->h->zM)(l:F h):zM:=(qiB (λi x=>if f i x then(zc:zs Unit)else O ()) 0 l).isNone
def AK{u:Type}{f:Z->u->zM}{l}:allI f l=I<->∀(i:Z)x,l[i]?=O x->f i x=I:=by
 unfold allI;rw[Option.isNone_iff_eq_none,q9E];constructor
 .intro h i x q;have:=h i x q;split at this
  .assumption
  .cases this
 .intro h i x q;rw[zk (h i x q)]
def qzB{q:Type}{f}{l}{i}{x:q}(u:l[i]?=O x)(h:f i x=zb):allI f l=zb:=by
 rw[zCG];intro w;rw[AK.1 w i x u]at h;cases h
def E4{h:Type}(f:Z->h->zM)(l:F h)(k:Z):Prop:=∀i,i<k->∀x,l[i]?=O x->f i x=I
def E4.zero{h:Type}(f:Z->h->zM)(l:F h):E4 f l 0:=λi q=>sa
def E4.succ{u:Type}{f}{l}{k}(h:E4 f l k){x:u}(w:l[k]?=O x)(A:f k x=I):E4 f l (k+1):=λi C y q=>by
 rcases zAL i k with B|D
 .exact h i B y q
 .obtain rfl:i=k:=sa
  rw[w]at q;cases q;exact A
def E4.done{u:Type}{f:Z->u->zM}{l}{k:Z}(h:E4 f l k)(hk:l.length<=k):allI f l=I:=
 AK.2 λi x q=>h i (by have:=(zd.1 q).1;omega) x q
def F2(l:F Ba)(i:Z)(r:Ba):zM:=decide (0<=r.Ac)&&decide (0<=r.at_)&&!(l.take i).any λx=>x.Ac==r.Ac
def q7D(l:F Ba):zM:=allI (F2 l) l
def qIE(l:F Ba)(n:zn):zM:=l.any λr=>r.Ac==n&&r.gone
def q2I(l:F Ba):F (Ky×zg):=l.foldl (λes r=>BT (.i r.Ac) (.bool r.gone) es) []
def qlD(n m)(v):∀es:F (Ky×zg),Bs n (BT m v es)=if DL n m=I then O v else Bs n es
 |[]=>by
  simp only[BT,Bs];split<;>simp_all
 |(k,u)::r=>by
  simp only[BT];by_cases h:m=k
  .subst h;simp only[Bx.2 rfl,Bs];split<;>simp_all
  .rw[q3O h];simp only[Bs];by_cases q:n=k
   .subst q;rw[q3O (λe=>h e.symm),Bx.2 rfl];simp
   .rw[q3O q];exact qlD n m v r
def q2R(l)(r):q2I (l++[r])=BT (.i r.Ac) (.bool r.gone) (q2I l):=by
 unfold q2I;rw[zCH];rfl
def qFL{l:F Ba}{k:Z}{r:Ba}(h:l[k]?=O r):q2I (l.take (k+1))=BT (.i r.Ac) (.bool r.gone) (q2I (l.take k)):=by
 obtain⟨q,u⟩:=zd.1 h;rw[zY q,u,q2R]
def UqV(l:F Ba):Prop:=∀(i j:Z)x y,i<j->l[i]?=O x->l[j]?=O y->x.Ac≠y.Ac
def q0W{l}(h:q7D l=I):UqV l:=λi j x y q u w A=>by
 have:=AK.1 h j y w;simp only[F2,zj,zC6]at this;have B:=CO.1 this.2 i x q u;simp[A]at B
def qGL{n}:∀{k:Z}{l:F Ba},UqV l->k<=l.length->qUN zb (.bool zb) (Bs (.i n) (q2I (l.take k)))=.bool (qIE (l.take k) n)
 |0,l,_,_=>by simp[q2I,Bs,qUN,qIE]
 |k+1,l,u,L=>by
  obtain⟨r,q⟩:=qBA (show k<l.length by omega);have w:=qGL (n:=n) (k:=k) u sa;rw[qFL q,qlD]
  have A:l.take (k+1)=l.take k++[r]:=by
   obtain⟨B,C⟩:=zd.1 q;rw[zY B,C]
  rw[A];unfold qIE at w⊢;rw[zDZ];by_cases h:n=r.Ac
  .have:(l.take k).any (λr=>r.Ac==n&&r.gone)=zb:=by
    rw[CO];intro j x D E;have:=u j k x r D E q;simp[h,this]
   rw[zk (by rw[h];exact Bx.2 rfl),this];simp[qUN,h]
  .rw[zh (λH=>h (Ky.i.inj (Bx.1 H))),w];have:(r.Ac==n)=zb:=by simpa using λe=>h e.symm
   simp[this]
def q4I(x:AY):zM:=qxD (bs x.name)&&decide (0<=x.Ah)&&(x.drain||!x.closed)
def qrB(l:F AY)(s:BA):zn:=CN (BN (λx=>bs x.name==bs s) l)
def qoB(l:F AY)(i:Z)(x:AY):zM:=q4I x&&decide (qrB l x.name=i)
def qgD(c:F (F zn)):zM:=(c.all λr=>decide (r.length=6))&&decide (1<=c.length)&&decide (c.length<=8)
def q9J(c:Bb)(e:Bz):zM:=Bv e&&decide ((e.next.length:zn)=c.Au)
def qwF(cl:F Bb)(i:Z)(g:Bm):zM:=match cl[i]? with
 |some c=>decide (g.ends.length=c.AA.length)&&g.ends.all (q9J c)
 |none=>zb
noncomputable def qNB(v:AL):zM:=eqB (qTA (qRD v.AO)) zc&&decide (v.Am.length=v.AO.Ad.length)&&allI (qwF v.AO.Ad) v.Am
def q6A(w:Wd):zM:=decide (1<=w.pins.length)&&decide (w.pins.length<=8)&&decide (w.counts.length=w.pins.length)&&qgD w.counts&&decide (0<=w.Al)&&decide (w.Al<=1000000000000)&&decide (w.AH=0\/w.AH=1)&&w.pins.all λp=>decide (0<=p)&&decide (p<=w.Al+1)
def C2(w:Wd)(r:Ba):zM:=decide (r.Ac<w.Ab.length)&&decide (r.Ac≠w.current)&&decide (r.at_<=w.Al)
noncomputable def De(w:Wd)(i:Z)(v:AL):zM:=qNB v&&(v.AV==qIE w.Ai i)
noncomputable def wdB(w:Wd):zM:=q6A w&&decide (0<=w.current)&&decide (w.current<w.Ab.length)&&q7D w.Ai&&w.Ai.all (C2 w)&&allI (De w) w.Ab&&allI (qoB w.Aa) w.Aa
def Fu(a b:Gb):zM:=qVI (bs a.Bp) (bs a.path) (bs b.Bp) (bs b.path)
def EO(listen:zn)(Bp path:BA)(r:Gb):zM:=r.listen==listen&&qiH (bs r.Bp) (bs Bp)&&qcI (bs path) (bs r.path)
def qKR(a b):Fu a b=I<->qGB (bs b.Bp)<qGB (bs a.Bp)\/(qGB (bs a.Bp)=qGB (bs b.Bp)/\(bs b.path).length<(bs a.path).length):=by
 unfold Fu;rw[qWS];simp
def qWI(a b):Fu a b=zb<->¬(qGB (bs b.Bp)<qGB (bs a.Bp)\/(qGB (bs a.Bp)=qGB (bs b.Bp)/\(bs b.path).length<(bs a.path).length)):=by
 rw[<-qKR];simp
def qOV(a):Fu a a=zb:=by rw[qWI];omega
def qNV{a b c}(h:Fu a b=zb)(k:Fu b c=zb):Fu a c=zb:=by
 rw[qWI]at*;omega
def qPX{a b}(h:Fu a b=I):Fu b a=zb:=by
 rw[qKR]at h;rw[qWI];omega
section
variable(fit:Gb->zM)
def qIF(l:F Gb):Z->zs Z
 |0=>zc
 |n+1=>match l[n]? with
  |none=>qIF l n
  |some r=>if fit r then match qIF l n with
   |none=>O n
   |some j=>match l[j]? with
    |some h=>if Fu r h then O n else O j
    |none=>O n
   else qIF l n
def qdM(l:F Gb):zs Z:=qIF fit l l.length
def Hz(l:F Gb)(n i:Z):Prop:=∃r,l[i]?=O r/\i<n/\fit r=I/\(∀k h,k<n->l[k]?=O h->fit h=I->Fu h r=zb)/\∀k h,k<i->l[k]?=O h->fit h=I->Fu r h=I
variable{fit}
def Hz.unique{l}{n i j}(h:Hz fit l n i)(k:Hz fit l n j):i=j:=by
 obtain⟨r,u,D,w,E,H⟩:=h;obtain⟨A,B,L,C,M,P⟩:=k;rcases Nat.lt_trichotomy i j with q|q|q
 .have:=P i r q u w;rw[E j A L B C]at this;cases this
 .exact q
 .have:=H j A q B C;rw[M i r D u w]at this;cases this
def qXI(l):∀n,n<=l.length->(∀i,qIF fit l n=O i->Hz fit l n i)/\(qIF fit l n=zc->∀k q,k<n->l[k]?=O q->fit q=zb)
 |0,_=>⟨λi B=>by simp[qIF]at B,λ_ k q u=>sa⟩
 |n+1,aa=>by
  obtain⟨U,M⟩:=qXI l n sa;obtain⟨r,E⟩:=qBA (show n<l.length by omega);simp only[qIF,E]
  have C:∀{k:Z}{q:Gb},k<n+1->l[k]?=O q->k<n\/(k=n/\q=r):=λ{k q}u h=>by
   rcases zAL k n with B|B
   .exact .inl B
   .obtain rfl:k=n:=sa
    rw[E]at h;cases h;exact .inr ⟨rfl,rfl⟩
  cases H:fit r with
  |false=>
   simp only[zAS,zCd];refine⟨λi w=>?_,λw k q u h=>?_⟩
   .obtain⟨x,L,V,P,D,Q⟩:=U i w;refine⟨x,L,sa,P,λk q u h A=>?_,Q⟩;rcases C u h with B|⟨rfl,rfl⟩
    .exact D k q B h A
    .rw[H]at A;cases A
   .rcases C u h with B|⟨rfl,rfl⟩
    .exact M w k q B h
    .exact H
  |true=>
   simp only[zBp];cases R:qIF fit l n with
   |none=>
    simp only;refine⟨λi w=>?_,λw=>by cases w⟩;cases w;refine⟨r,E,sa,H,λk q u h A=>?_,λk q u h A=>?_⟩
    .rcases C u h with B|⟨rfl,rfl⟩
     .rw[M R k q B h]at A;cases A
     .exact qOV _
    .rw[M R k q u h]at A;cases A
   |some j=>
    obtain⟨x,L,V,P,D,Q⟩:=U j R;simp only[L];cases T:Fu r x with
    |true=>
     simp only[zBp];refine⟨λi w=>?_,λw=>by cases w⟩;cases w;refine⟨r,E,sa,H,λk q u h A=>?_,λk q u h A=>?_⟩
     .rcases C u h with B|⟨rfl,rfl⟩
      .exact qNV (D k q B h A) (qPX T)
      .exact qOV _
     .have W:=D k q u h A;cases Y:Fu r q with
      |true=>rfl
      |false=>
       have:=qNV Y W;rw[T]at this;cases this
    |false=>
     simp only[zAS,zCd];refine⟨λi w=>?_,λw=>by cases w⟩;cases w;refine⟨x,L,sa,P,λk q u h A=>?_,Q⟩;rcases C u h with B|⟨rfl,rfl⟩
     .exact D k q B h A
     .exact T
def F8{l}{i}:qdM fit l=O i<->Hz fit l l.length i:=by
 obtain⟨h,A⟩:=qXI (fit:=fit) l l.length (zG _);refine⟨h i,λq=>?_⟩;cases u:qdM fit l with
 |some j=>rw[q.unique (h j u)]
 |none=>
  obtain⟨r,B,C,w,_⟩:=q;rw[A u i r C B]at w;cases w
end
def BC(out:F BA)(l:F BA):F BA:=l.foldl (λout n=>if E2 out n then out else out++[n]) out
noncomputable def opN(out:F BA)(o:OpD):F BA:=if o.kind=3/\qTA o.Ap=zc then BC out o.Ap.Aa else out
noncomputable def qZC(s:CB):F BA:=s.Af.foldl (λout l=>l.foldl opN out) (BC [] s.first.Aa)
def qZV(out l)(n):BC out (l++[n])=if E2 (BC out l) n then BC out l else BC out l++[n]:=by
 unfold BC;rw[zCH];rfl
def qFO{out l:F BA}{k:Z}{n:BA}(h:l[k]?=O n):BC out (l.take (k+1))=if E2 (BC out (l.take k)) n then BC out (l.take k)else BC out (l.take k)++[n]:=by
 obtain⟨q,u⟩:=zd.1 h;rw[zY q,u];exact qZV _ _ _
def Uq(l:F BA):Prop:=JE (λx y=>bs x==bs y) l
def Uq.snoc{l}{n}(h:Uq l)(A:E2 l n=zb):Uq (l++[n]):=λi j x y B u q=>by
 rcases zAL j l.length with w|w
 .rw[zAc sa]at u;rw[zAc w]at q;exact h i j x y B u q
 .rw[zA4 w]at q
  have C:j-l.length=0:=by
   have:=(zd.1 q).1;simp at this;omega
  rw[C]at q;simp at q;subst q;rw[zAc sa]at u;have:=zBK.1 A x (zl u);simpa using this
def qYV{out l}(h:Uq out):Uq (BC out l):=by
 induction l generalizing out with
 |nil=>exact h
 |cons n r q=>
  show Uq (BC (if E2 out n then out else out++[n]) r);apply q;split
  .exact h
  .rename_i u;exact h.snoc (by simpa using u)
def qeG{out l}:(BC out l).length<=out.length+l.length:=by
 induction l generalizing out with
 |nil=>simp[BC]
 |cons n r q=>
  have:BC out (n::r)=BC (if E2 out n then out else out++[n]) r:=rfl;rw[this];have:=q (out:=if E2 out n then out else out++[n]);split at this
  .rename_i h;rw[zk h];simp;omega
  .rename_i h;rw[zh h];simp at this⊢;omega
def qyY{out}{o}:(opN out o).length<=out.length+4:=by
 unfold opN;split;rename_i h;have h:=(Bh.1 h.2).size.1.2
 .have:=qeG (out:=out) (l:=o.Ap.Aa);omega
 .omega
def qOQ{l:F OpD}{out:F BA}:(l.foldl opN out).length<=out.length+4*l.length:=by
 induction l generalizing out with
 |nil=>simp
 |cons o r h=>
  have q:=h (out:=opN out o);have u:=qyY (out:=out) (o:=o);simp only[zBU,zBb];omega
noncomputable abbrev EZ(out:F BA)(l:F (F OpD)):F BA:=l.foldl (λout l=>l.foldl opN out) out
def qsV{l}{out}(h:∀t∈l,t.length<=40):(EZ out l).length<=out.length+2000*l.length:=by
 induction l generalizing out with
 |nil=>simp[EZ]
 |cons t r q=>
  have w:=h t sd;have A:=q (out:=t.foldl opN out) λx u=>h x (zAl _ u);have B:=qOQ (out:=out) (l:=t);have:EZ out (t::r)=EZ (t.foldl opN out) r:=rfl;rw[this];simp only[zBb];omega
def qML{q u:Type}{f:u->q->u}{b:u}{l:F q}{k:Z}{x:q}(h:l[k]?=O x):(l.take (k+1)).foldl f b=f ((l.take k).foldl f b) x:=by
 obtain⟨w,A⟩:=zd.1 h;rw[zY w,A,zCH];rfl


end Go.Proofs.YtlmhpamhhgogaaaGreat.Sx
namespace Go.Proofs.YtlmhpamhhgogaaaGreat.Sx
open Go.RowKit
def rEn:RP Bz:=λg cs e=>MK g cs e/\e.next.length<=17592186044416
def q4C:C4 rEn:=λ_ _ _ _ k⟨a,b⟩=>⟨qWT _ _ _ _ k a,b⟩
def rGr:RP Bm:=λg cs x=>∃n,cs=[.int .u64 x.AQ,n]/\InU x.AQ/\rSl 3 rEn g n x.ends
def q0E:C4 rGr:=λ_ _ _ _ k⟨n,e,a,c⟩=>⟨n,e,a,c.mono q4C k⟩
def rVe:RP AL:=λg cs x=>∃a b d n,cs=[a,b,d,n,.bool x.AV]/\qfJ g [a,b,d] x.AO/\rSl 2 rGr g n x.Am
def q3C:C4 rVe:=λ_ _ _ _ k⟨a,b,d,n,e,x,y⟩=>⟨a,b,d,n,e,qYC _ _ _ _ k x,y.mono q0E k⟩
def rWo:RP Wd:=λg cs h=>∃a b c d e,cs=[.int .i64 h.Al,.int .i64 h.current,.int .i64 h.AH,a,b,c,d,e]/\(InR h.Al/\InR h.current/\InR h.AH)/\
 rSl 1 BS g a h.pins/\rSl 5 rVe g b h.Ab/\rSl 4 qeB g c h.Aa/\rSl 1 F5 g d h.counts/\rSl 3 qAB g e h.Ai
def qCA:C4 rWo:=λ_ _ _ _ k⟨a,b,c,d,e,h,i,j,l,m,n,o⟩=>⟨a,b,c,d,e,h,i,j.mono qxA k,l.mono q3C k,m.mono q3A k,n.mono qSB k,o.mono q9A k⟩
def E3{a b:zn}(h:(a !=b)=I):a≠b:=by simpa using h
def Ft{a b:zn}(h:(a !=b)=zb):a=b:=by simpa using h
def B9{a b:zn}(h:(a==b)=I):a=b:=by simpa using h
def Ea{a b:zn}(h:(a==b)=zb):a≠b:=by simpa using h
def LD{a b:Z}(h:((a:zn) !=b)=I):a≠b:=by have:=E3 h;omega
def LF{a b:Z}(h:((a:zn) !=b)=zb):a=b:=by have:=Ft h;omega
def qaF(n:Z)(out:F zn):F zg:=(zBf n).map λ(j:Z)=>zBm (out.contains (j:zn))
def qvM(n)(out):(qaF n out).length=n:=by simp[qaF]
def qKT(n):qaF n []=zA5 n (zBm zb):=by
 unfold qaF;apply List.ext_getElem<;>simp
def qLT{n:Z}{out}{i:zn}(h:0<=i/\i<n):(qaF n out)[i.toNat]?=O (.bool (out.contains i)):=by
 unfold qaF;rw[zAv,zCy sa];simp[zAK h.1]
def qJT{n:Z}{out}{i:zn}(h:0<=i/\i<n):(qaF n out).take i.toNat++[zBm I]++(qaF n out).drop (i.toNat+1)=qaF n (out++[i]):=by
 have w:=qvM n out
 have:(qaF n out).take i.toNat++[zBm I]++(qaF n out).drop (i.toNat+1)=(qaF n out).set i.toNat (.bool I):=by
  rw[zC7,zk sa];simp
 rw[this];apply zBT;intro j;rw[zAF];unfold qaF;rw[zAv,zAv];by_cases q:j<n
 .rw[zCy q];simp only[zBx,zAA,zDy];by_cases u:i.toNat=j
  .subst u;rw[zk rfl,zk sa];simp[zAK h.1]
  .rw[zh u];have:((j:zn)==i)=zb:=by simpa using(show(j:zn)≠i by omega)
   simp only[List.contains_append,List.contains_cons,List.contains_nil,this,Bool.or_false]
 .rw[zBQ (by simpa using q)];simp;omega
abbrev wQ(w:Wd)(oa:zs zAH)(ca:Z)(h:zs zAH)(q:Z)(u:zs zAH)(A:Z)(B:zs zAH)(C:Z)(D:zs zAH)(E:Z):F zg:=[.int .i64 w.Al,.int .i64 w.current,.int .i64 w.AH,.slice oa w.pins.length ca,.slice h w.Ab.length q,.slice u w.Aa.length A,.slice B w.counts.length C,.slice D w.Ai.length E]
abbrev mQ(m:Aj)(h:zs zAH)(t1:Z)(q:zs zAH)(t2:Z)(u:zs zAH)(w:Z):F zg:=m.cs (.slice h m.op.Ap.Aa.length t1) (.slice q m.op.Ap.As.length t2) (.slice u m.op.Ap.Ad.length w)
def qaB{g:GW}{cs Q:F zg}{w:Wd}{m:Aj}(R:rWo g cs w)(hM:qeA g Q m):∃oa ca B h C q D u E A H t1 L t2 M P,cs=[.int .i64 w.Al,.int .i64 w.current,.int .i64 w.AH,.slice oa w.pins.length ca,.slice B w.Ab.length h,.slice C w.Aa.length q,.slice D w.counts.length u,.slice E w.Ai.length A]/\Q=m.cs (.slice H m.op.Ap.Aa.length t1) (.slice L m.op.Ap.As.length t2) (.slice M m.op.Ap.Ad.length P)/\rWo g [.int .i64 w.Al,.int .i64 w.current,.int .i64 w.AH,.slice oa w.pins.length ca,.slice B w.Ab.length h,.slice C w.Aa.length q,.slice D w.counts.length u,.slice E w.Ai.length A] w/\qeA g (m.cs (.slice H m.op.Ap.Aa.length t1) (.slice L m.op.Ap.As.length t2) (.slice M m.op.Ap.Ad.length P)) m/\(InR w.Al/\InR w.current/\InR w.AH)/\rSl 1 BS g (.slice oa w.pins.length ca) w.pins/\rSl 5 rVe g (.slice B w.Ab.length h) w.Ab/\rSl 4 qeB g (.slice C w.Aa.length q) w.Aa/\rSl 1 F5 g (.slice D w.counts.length u) w.counts/\rSl 3 qAB g (.slice E w.Ai.length A) w.Ai/\(w.pins.length<=ca/\ca<=zAr/\(oa=zc->w.pins.length=0/\ca=0)/\∀(i:Z)x,w.pins[i]?=O x->∃a,oa=O a/\∃ec,ec.length=1/\BS g ec x/\Rcs g (a.add (i*1)) ec)/\(w.Ab.length<=h/\h<=zAr/\(B=zc->w.Ab.length=0/\h=0)/\∀(i:Z)x,w.Ab[i]?=O x->∃a,B=O a/\∃ec,ec.length=5/\rVe g ec x/\Rcs g (a.add (i*5)) ec)/\(w.Aa.length<=q/\q<=zAr/\(C=zc->w.Aa.length=0/\q=0)/\∀(i:Z)x,w.Aa[i]?=O x->∃a,C=O a/\∃ec,ec.length=4/\qeB g ec x/\Rcs g (a.add (i*4)) ec)/\(w.counts.length<=u/\u<=zAr/\(D=zc->w.counts.length=0/\u=0)/\∀(i:Z)x,w.counts[i]?=O x->∃a,D=O a/\∃ec,ec.length=1/\F5 g ec x/\Rcs g (a.add (i*1)) ec)/\(w.Ai.length<=A/\A<=zAr/\(E=zc->w.Ai.length=0/\A=0)/\∀(i:Z)x,w.Ai[i]?=O x->∃a,E=O a/\∃ec,ec.length=3/\qAB g ec x/\Rcs g (a.add (i*3)) ec)/\m.ok/\(InR m.op.kind/\InR m.op.d0/\InR m.op.d1/\InR m.op.n)/\qHB g [.slice H m.op.Ap.Aa.length t1,.slice L m.op.Ap.As.length t2,.slice M m.op.Ap.Ad.length P] m.op.Ap:=by
 have ab:=R;have ac:=hM;obtain⟨a,b,c,d,e,rfl,⟨ad,ae,af⟩,T,U,V,W,Y⟩:=R;obtain⟨oa,ca,rfl,ag,ah,ai,aj⟩:=id T;obtain⟨B,h,rfl,b1,ak,al,an⟩:=id U;obtain⟨C,q,rfl,c1,c2,c0,ao⟩:=id V;obtain⟨D,u,rfl,ap,aq,ar,au⟩:=id W;obtain⟨E,A,rfl,av,aw,ax,ay⟩:=id Y;obtain⟨aC,aD,aE,rfl,az,aA,aa⟩:=hM;obtain⟨_,_,_,aB,⟨H,t1,rfl,_⟩,⟨L,t2,rfl,_⟩,⟨M,P,rfl,_⟩⟩:=id aa;cases aB;exact⟨_,_,_,_,_,_,_,_,_,_,_,_,_,_,_,_,rfl,rfl,ab,ac,⟨ad,ae,af⟩,T,U,V,W,Y,⟨ag,ah,ai,aj⟩,⟨b1,ak,al,an⟩,⟨c1,c2,c0,ao⟩,⟨ap,aq,ar,au⟩,⟨av,aw,ax,ay⟩,az,aA,aa⟩
def dF{p:Prop}[Decidable p]{A B:Prop}(h:¬p)(k:B):(decide p=I->A)/\(decide p=zb->B):=⟨λx=>absurd (ze x) h,λ_=>k⟩
def dT{p:Prop}[Decidable p]{A B:Prop}(h:p)(k:A):(decide p=I->A)/\(decide p=zb->B):=⟨λ_=>k,λx=>absurd h (zf x)⟩
def GW.sub(g:GW)(S:Z->Prop):GW:=⟨g.w,λn=>g.g n/\S n,λn h=>g.wf n h.1⟩
def GW.vw(g:GW)(lo:Z)(S:Z->Prop):GW:=g.sub λn=>n<lo\/S n
def NoB:Z->Prop:=λ_=>zV
def GW.HX(g:GW)(lo:Z)(S:Z->Prop):g.vw lo S<=g:=⟨zG _,λ_ h=>⟨h.1,rfl⟩⟩
def GW.Io(g:GW){lo}{S q}(h:∀n,S n->q n):g.vw lo S<=g.vw lo q:=
 ⟨zG _,λ_ k=>⟨⟨k.1,k.2.imp id (h _)⟩,rfl⟩⟩
def GW.Ep{g g':GW}(h:g<=g')(lo:Z)(S:Z->Prop):g.vw lo S<=g'.vw lo S:=
 ⟨h.1,λn k=>⟨⟨(h.2 n k.1).1,k.2⟩,(h.2 n k.1).2⟩⟩
def GW.Na{g:GW}{g':GW}{lo:Z}{S:Z->Prop}(h:g<=g')(q:g.w.heap.size<=lo):g<=g'.vw lo S:=
 ⟨h.1,λn k=>⟨⟨(h.2 n k).1,.inl (zQ (g.wf n k) q)⟩,(h.2 n k).2⟩⟩
def GW.Kj{g g':GW}{lo:Z}{S u:Z->Prop}(h:g.vw lo S<=g'.vw lo S)(k:∀n,u n->S n):g.vw lo u<=g'.vw lo u:=
 ⟨h.1,λn q=>⟨⟨(h.2 n ⟨q.1,q.2.imp id (k n)⟩).1.1,q.2⟩,(h.2 n ⟨q.1,q.2.imp id (k n)⟩).2⟩⟩
def Upd.vw{g g'}{b}{o}(u:Upd g b o g'){lo}{S}(w:lo<=b)(q:¬S b):g.vw lo S<=g'.vw lo S:=
 ⟨u.size,λn k=>⟨⟨(u.dom n).2 k.1,k.2⟩,u.other n k.1 λe=>by subst e;rcases k.2 with h|h;omega;exact q h⟩⟩
def AX.vw{g}{lo lo'}{ety}{size b n cap}{cs}{S}(h:AX g lo ety size (.slice (O ⟨b,0,zc⟩) n cap) n cs)(A:S b):AX (g.vw lo' S) lo ety size (.slice (O ⟨b,0,zc⟩) n cap) n cs:=by
 obtain⟨B,q,C⟩:=h;refine⟨B,?_,C⟩;rcases q with q|⟨H,L,rest,w,u,D,E⟩
 .exact .inl q
 .have M:=u.2;simp only[zAp,zAk,Addr.mk.injEq]at w;obtain⟨⟨rfl,_⟩,_,rfl⟩:=w;exact .inr ⟨b,cap,rest,rfl,⟨u.1,⟨u.2,.inr A⟩⟩,D,E⟩
abbrev OwT(h:Type):=GW->Z->(Z->Prop)->F zg->h->Prop
def Fr0{u:Type}(R:OwT u):Prop:=∀g q h S cs x,g.vw h S<=q.vw h S->R g h S cs x->R q h S cs x
def Rd0{h:Type}(R:OwT h)(r:RP h):Prop:=∀g q S cs x,R g q S cs x->r (g.vw q S) cs x
def oLf{h:Type}(r:RP h):OwT h:=λg _ _ cs x=>r g cs x
def oSl{u:Type}(ety:zAy)(sz:Z)(R:OwT u)(g:GW)(lo:Z)(S:Z->Prop)(v:zg)(l:F u):Prop:=
 (l=[]/\∃A,v=.slice A 0 0)\/
 ∃(b cap:Z)(h:F (F zg))(q:Z->Z->Prop),v=.slice (O ⟨b,0,zc⟩) l.length cap/\S b/\AX g lo ety sz (.slice (O ⟨b,0,zc⟩) l.length cap) l.length h.flatten/\(h.length=l.length/\∀e∈h,e.length=sz)/\
  (∀i n,q i n->S n/\n≠b)/\(∀i j n,q i n->q j n->i=j)/\∀(i:Z)x w,l[i]?=O x->h[i]?=O w->R g lo (q i) w x
def q9C{u:Type}{ety}{sz}{R:OwT u}{r:RP u}(w:Rd0 R r)(hm:C4 r){g}{lo}{S}{v}{l}(h:oSl ety sz R g lo S v l):rSl sz r (g.vw lo S) v l:=by
 rcases h with⟨rfl,A,rfl⟩|⟨b,cap,B,U,rfl,C,D,⟨E,H⟩,L,V,M⟩
 .exact⟨A,0,rfl,zG _,zF _,λ_=>⟨rfl,rfl⟩,λi x q=>by simp at q⟩
 .exact q1K (D.vw C).rd l B rfl H rfl E λi x P q Q=>hm _ _ _ _ (g.Io λn T=>(L i n T).1) (w _ _ _ _ _ (M i x P q Q))
def qqA{B:Type}{ety}{sz}{R:OwT B}(C:Fr0 R){g g'}{lo}{S}{v}{l}(k:g.vw lo S<=g'.vw lo S)(h:oSl ety sz R g lo S v l):oSl ety sz R g' lo S v l:=by
 rcases h with h|⟨b,cap,D,E,rfl,u,H,L,w,M,P⟩
 .exact .inl h
 .refine .inr ⟨b,cap,D,E,rfl,u,?_,L,w,M,λi x Q T U=>C _ _ _ _ _ _ (GW.Kj k λn V=>(w i n V).1) (P i x Q T U)⟩;have W:=(H.vw (lo':=lo) u).mono k;obtain⟨Y,q,aa⟩:=W;refine⟨Y,?_,aa⟩;rcases q with q|⟨ab,ac,rest,ad,A,ae⟩
  .exact .inl q
  .exact .inr ⟨ab,ac,rest,ad,⟨A.1,A.2.1⟩,ae⟩
def PK(g:GW)(lo:Z)(S:Z->Prop)(a:zAH)(vs:F zg)(Q:GW->Prop):Prop:=
 ∃(b j:Z)(h:F zg)(q:zAy),(a=⟨b,j,zc⟩/\lo<=b/\g.g b/\g.w.heap[b]?=O (.cells ⟨h⟩ q (0,0))/\j+vs.length<=h.length)/\S b/\
  ∀u,Upd g b (.cells ⟨h.take j++vs++h.drop (j+vs.length)⟩ q (0,0)) u->Q u
def PK.imp{g}{lo}{S S'}{a}{vs}{Q u}(h:PK g lo S a vs Q)(C:∀n,S n->S' n)(k:∀g',(∀q:Z->Prop,(∀n,S n->¬q n)->g.vw lo q<=g'.vw lo q)->Q g'->u g'):PK g lo S' a vs u:=by
 obtain⟨b,j,D,E,w,A,H⟩:=h;exact⟨b,j,D,E,w,C b A,λg' B=>k g' (λq L=>B.vw w.2.1 (L b A)) (H g' B)⟩
def qxQ{sz}{o}{vs}:∀{ecs:F (F zg)}{i:Z}{ec:F zg},(∀e∈ecs,e.length=sz)->ecs[i]?=O ec->o+vs.length<=sz->(ecs.set i (ec.take o++vs++ec.drop (o+vs.length))).flatten=ecs.flatten.take (i*sz+o)++vs++ecs.flatten.drop (i*sz+o+vs.length)
 |[],i,ec,_,h,_=>by simp at h
 |e::es,0,ec,q,h,u=>by
  simp at h;subst h;have w:=q e sd;simp only[List.set_cons_zero,zBC,zDj,zAu];rw[zBV sa,zCa sa];simp
 |e::es,i+1,ec,q,h,u=>by
  have w:=q e sd;have A:=qxQ (ecs:=es) (i:=i) (λx B=>q x (by simp[B])) (by simpa using h) u;simp only[zB3,zBC,A];rw[zCm,show i*sz+sz+o=e.length+(i*sz+o) by omega,show e.length+(i*sz+o)+vs.length=e.length+(i*sz+o+vs.length) by omega,zDX,zDY];simp
def qxL{u:Type}{l:F u}{i j:Z}{x' y:u}(h:(l.set i x')[j]?=O y):(i=j/\y=x')\/(i≠j/\l[j]?=O y):=by
 rw[zAF]at h;split at h
 .rename_i q;split at h
  .cases h;exact .inl ⟨q,rfl⟩
  .cases h
 .rename_i q;exact .inr ⟨q,h⟩
def qeC{ac:Type}{ety}{sz}{R:OwT ac}(ad:Fr0 R){g}{lo}{S}{oa}{n cap}{l}(h:oSl ety sz R g lo S (.slice oa n cap) l){i}{x:ac}(M:l[i]?=O x):∃(b:Z)(q:Z->Prop)(ec:F zg),(oa=O ⟨b,0,zc⟩/\n=l.length)/\(ec.length=sz/\Rcs g ((⟨b,0,zc⟩:zAH).add (i*sz)) ec)/\R g lo q ec x/\(∀(o:Z)(vs:F zg)x',o+vs.length<=sz->(∀u∈vs,u.oneCell'=I)->(∀g',g.vw lo q<=g'.vw lo q->R g' lo q (ec.take o++vs++ec.drop (o+vs.length)) x')->PK g lo S (((⟨b,0,zc⟩:zAH).add (i*sz)).add o) vs λg'=>oSl ety sz R g' lo S (.slice oa n cap) (l.set i x'))/\∀(a:zAH)(vs:F zg)x',PK g lo q a vs (λg'=>R g' lo q ec x')->PK g lo S a vs λg'=>oSl ety sz R g' lo S (.slice oa n cap) (l.set i x'):=by
 rcases h with⟨rfl,_⟩|⟨b,aC,D,q,ae,P,Q,⟨T,B⟩,E,U,V⟩
 .simp at M
 simp only[zAp]at ae;obtain⟨rfl,rfl,rfl⟩:=ae;have ai:=(zd.1 M).1;obtain⟨ec,H⟩:=qBA (l:=D) (i:=i) sa;have aj:=B ec (zl H);have ak:=qtC B;have aD:i*sz+sz<=D.flatten.length:=by rw[ak,T,<-zCm];exact zCu _ ai
 refine⟨b,q i,ec,⟨rfl,rfl⟩,⟨aj,λj u al=>?_⟩,V i x ec M H,?_,?_⟩
 .obtain⟨_,aE,aF,C,_,_,_,an⟩:=Q.rd;obtain⟨aG,af,aH⟩:=an _ _ (qMI B H al);simp only[zAp]at C;rw[<-C.1]at af;cases af;rwa [qIH]
 .intro o vs x' ao ap aq;obtain⟨rest,⟨W,ar,au⟩,av⟩:=Q.J0;refine⟨b,i*sz+o,D.flatten++rest,ety,⟨by rw[qIH,qlA,zAu],W,ar,au,by simp only[zAq];omega⟩,P,λg' u=>?_⟩;refine .inr ⟨b,cap,D.set i (ec.take o++vs++ec.drop (o+vs.length)),q,sd,P,?_,⟨by simp[T],λe C=>?_⟩,E,U,λj y Y A w=>?_⟩
  .have:=av (i*sz+o) vs.length vs g' sa rfl ap u;rw[qxQ B H ao];simpa using this
  .rcases zBc C with C|rfl
   .exact B e C
   .simp;omega
  .have ag:∀j,¬q j b:=λj aw=>(E j b aw).2 rfl;rcases qxL A with⟨rfl,rfl⟩|⟨L,A⟩
   .rcases qxL w with⟨_,rfl⟩|⟨L,_⟩
    .exact aq g' (u.vw W (ag i))
    .exact absurd rfl L
   .rcases qxL w with⟨ax,_⟩|⟨_,w⟩
    .exact absurd ax L
    .exact ad _ _ _ _ _ _ (u.vw W (ag j)) (V j y Y A w)
 .rintro a vs x' ⟨aa,j,ay,az,ah,ab,aA⟩;refine⟨aa,j,ay,az,ah,(E i aa ab).1,λg' u=>?_⟩;have aB:=(E i aa ab).2;refine .inr ⟨b,cap,D,q,sd,P,?_,⟨by simp[T],B⟩,E,U,λm y Y A w=>?_⟩
  .have:=Q.keep u (zBw aB);simpa using this
  .rcases qxL A with⟨rfl,rfl⟩|⟨L,A⟩
   .rw[H]at w;cases w;exact aA g' u
   .exact ad _ _ _ _ _ _ (u.vw ah.2.1 λhm=>L (U _ _ _ ab hm)) (V m y Y A w)
def qqW{w:Type}{ety}{sz}{R:OwT w}{g}{lo}{S S'}{v}{l}(q:∀n,S n->S' n)(h:oSl ety sz R g lo S v l):oSl ety sz R g lo S' v l:=by
 rcases h with h|⟨b,cap,A,B,rfl,C,D,E,u,H,L⟩
 .exact .inl h
 .exact .inr ⟨b,cap,A,B,rfl,q b C,D,E,λi n h=>⟨q n (u i n h).1,(u i n h).2⟩,H,L⟩
structure WTy where
 Mq:zAy
 Jk:zAy
 tGr:zAy
 tVe:zAy
 tLi:zAy
 tU:zAy
 tRo:zAy
 tRe:zAy
def qzA{q:Type}{r:RP q}(h:∀g g' cs x,r g cs x->r g' cs x):Fr0 (oLf r):=λg g' _ _ cs x _ k=>h g g' cs x k
def qoF{q:Type}{r:RP q}(h:∀g g' cs x,r g cs x->r g' cs x):Rd0 (oLf r) r:=λg _ _ cs x k=>h g _ cs x k
def qTB:∀g g' cs x,BS g cs x->BS g' cs x:=λ_ _ _ _ h=>h
def qPG:∀g g' cs x,Hp g cs x->Hp g' cs x:=λ_ _ _ _ h=>h
def q2A:∀g g' cs x,qeB g cs x->qeB g' cs x:=λ_ _ _ _ h=>h
def qpA:∀g g' cs x,qAB g cs x->qAB g' cs x:=λ_ _ _ _ h=>h
section
variable(t:WTy)(f:zM)
def oNx(g:GW)(lo:Z)(S:Z->Prop)(v:zg)(l:F zn):Prop:=oSl t.Mq 1 (oLf BS) g lo S v l\/(f=zb/\rSl 1 BS (g.vw lo NoB) v l)
def oEn:OwT Bz:=λg h S cs e=>∃n,cs=[.int .u64 e.head,n,.int .i64 e.Ah]/\(InU e.head/\InR e.Ah/\e.next.length<=17592186044416)/\oNx t f g h S n e.next
def oGr:OwT Bm:=λg h S cs x=>∃n,cs=[.int .u64 x.AQ,n]/\InU x.AQ/\oSl t.Jk 3 (oEn t f) g h S n x.ends
def oVe:OwT AL:=λg h S cs x=>∃a b d n,cs=[a,b,d,n,.bool x.AV]/\qfJ (g.vw h NoB) [a,b,d] x.AO/\oSl t.tGr 2 (oGr t f) g h S n x.Am
def oRo:OwT (F zn):=λg h S cs x=>∃n,cs=[n]/\oSl t.tU 1 (oLf Hp) g h S n x
def oWo(g:GW)(lo:Z)(h:Z->Z->Prop)(cs:F zg)(w:Wd):Prop:=∃a b c d e,cs=[.int .i64 w.Al,.int .i64 w.current,.int .i64 w.AH,a,b,c,d,e]/\(InR w.Al/\InR w.current/\InR w.AH)/\(∀i j n,h i n->h j n->i=j)/\
 oSl t.Mq 1 (oLf BS) g lo (h 0) a w.pins/\oSl t.tVe 5 (oVe t f) g lo (h 1) b w.Ab/\oSl t.tLi 4 (oLf qeB) g lo (h 2) c w.Aa/\oSl t.tRo 1 (oRo t) g lo (h 3) d w.counts/\oSl t.tRe 3 (oLf qAB) g lo (h 4) e w.Ai
end
section
variable{t:WTy}{f:zM}
def KS{g g':GW}{lo:Z}{S:Z->Prop}(k:g.vw lo S<=g'.vw lo S):g.vw lo NoB<=g'.vw lo NoB:=GW.Kj k λ_ h=>h.elim
def qrX{g g'}{lo}{S}{v}{l}(k:g.vw lo S<=g'.vw lo S)(h:oNx t f g lo S v l):oNx t f g' lo S v l:=
 h.imp (qqA (qzA qTB) k) λ⟨q,u⟩=>⟨q,u.mono qxA (KS k)⟩
def qmI:Fr0 (oEn t f):=λ_ _ _ _ _ _ k⟨n,h,q,u⟩=>⟨n,h,q,qrX k u⟩
def qrJ:Fr0 (oGr t f):=λ_ _ _ _ _ _ k⟨n,h,q,u⟩=>⟨n,h,q,qqA qmI k u⟩
def qmF:Fr0 (oVe t f):=λ_ _ _ _ _ _ k⟨a,b,d,n,h,q,u⟩=>⟨a,b,d,n,h,qYC _ _ _ _ (KS k) q,qqA qrJ k u⟩
def qnF:Fr0 (oRo t):=λ_ _ _ _ _ _ k⟨n,h,q⟩=>⟨n,h,qqA (qzA qPG) k q⟩
def qqX{g}{lo}{S}{v}{l}(h:oNx t f g lo S v l):rSl 1 BS (g.vw lo S) v l:=by
 rcases h with h|⟨_,h⟩
 .exact q9C (qoF qTB) qxA h
 .exact h.mono qxA (g.Io λ_ h=>h.elim)
def q3b:Rd0 (oEn t f) rEn:=λg w S cs e⟨n,q,h,u⟩=>⟨⟨n,q,h.1,h.2.1,qqX u⟩,h.2.2⟩
def q2b:Rd0 (oGr t f) rGr:=λg w S cs x⟨n,h,q,u⟩=>⟨n,h,q,q9C q3b q4C u⟩
def qEU:Rd0 (oVe t f) rVe:=λg A S cs x⟨a,b,d,n,h,q,u⟩=>⟨a,b,d,n,h,qYC _ _ _ _ (g.Io λ_ w=>w.elim) q,q9C q2b q0E u⟩
def qGU:Rd0 (oRo t) F5:=λg u S cs x⟨n,h,q⟩=>⟨n,h,q9C (qoF qPG) qeJ q⟩
def qcA{g}{lo}{q}{cs}{w}(h:oWo t f g lo q cs w):rWo g cs w:=by
 obtain⟨a,b,c,d,e,u,A,_,B,C,D,E,H⟩:=h;exact⟨a,b,c,d,e,u,A,(q9C (qoF qTB) qxA B).mono qxA (g.HX _ _),(q9C qEU q3C C).mono q3C (g.HX _ _),(q9C (qoF q2A) q3A D).mono q3A (g.HX _ _),(q9C qGU qSB E).mono qSB (g.HX _ _),(q9C (qoF qpA) q9A H).mono q9A (g.HX _ _)⟩
def q1b{g g'}{lo}{q}{cs}{w}(k:g<=g')(h:oWo t f g lo q cs w):oWo t f g' lo q cs w:=by
 obtain⟨a,b,c,d,e,u,A,B,C,D,E,H,L⟩:=h;exact⟨a,b,c,d,e,u,A,B,qqA (qzA qTB) (GW.Ep k _ _) C,qqA qmF (GW.Ep k _ _) D,qqA (qzA q2A) (GW.Ep k _ _) E,qqA qnF (GW.Ep k _ _) H,qqA (qzA qpA) (GW.Ep k _ _) L⟩
def qtA{g g':GW}{lo:Z}{h:Z->Z->Prop}{i j:Z}(hd:∀i j n,h i n->h j n->i=j)(q:i≠j)(k:∀S:Z->Prop,(∀n,h i n->¬S n)->g.vw lo S<=g'.vw lo S):g.vw lo (h j)<=g'.vw lo (h j):=
 k _ λn u w=>q (hd _ _ _ u w)
def qDU{g}{lo}{u}{e0 e1 e2 a b c d e}{w}(h:oWo t f g lo u [e0,e1,e2,a,b,c,d,e] w){i}{x}(D:w.pins[i]?=O x){x'}(E:InR x'):∃(bk cap:Z),a=.slice (O ⟨bk,0,zc⟩) w.pins.length cap/\PK g lo (u 0) ⟨bk,i,zc⟩ [.int .i64 x'] λg'=>oWo t f g' lo u [e0,e1,e2,a,b,c,d,e] {w with pins:=w.pins.set i x'}:=by
 obtain⟨_,_,_,_,_,B,H,q,C,L,M,P,Q⟩:=h;simp only[zAJ,zA6]at B;obtain⟨rfl,rfl,rfl,rfl,rfl,rfl,rfl,rfl⟩:=B
 have R:∃A n cap,a=.slice A n cap:=by
  rcases C with⟨_,A,rfl⟩|⟨b,cap,_,_,rfl,_⟩
  .exact⟨_,_,_,rfl⟩
  .exact⟨_,_,_,rfl⟩
 obtain⟨A,n,cap,rfl⟩:=R;obtain⟨bk,V,W,⟨rfl,rfl⟩,_,⟨rfl,_⟩,T,_⟩:=qeC (qzA qTB) C D;refine⟨bk,cap,rfl,?_⟩;have:=T 0 [.int .i64 x'] x' sd (by simp[zA0]) λg' _=>⟨rfl,E⟩;rw[qlA,qlA,zAu,zCb,zDJ]at this;exact this.imp (λ_ h=>h) λg' k U=>⟨_,_,_,_,_,rfl,H,q,U,qqA qmF (qtA q sb k) L,qqA (qzA q2A) (qtA q sb k) M,qqA qnF (qtA q sb k) P,qqA (qzA qpA) (qtA q sb k) Q⟩
end
def NEW(g g':GW):Z->Prop:=λn=>g'.g n/\¬g.g n
def NEW.up{g g' q}(h:g'<=q){n}(k:NEW g g' n):NEW g q n:=⟨(h.2 n k.1).1,k.2⟩
def NEW.dn{g0 g g'}(h:g0<=g){n}(k:NEW g g' n):NEW g0 g' n:=⟨k.1,λq=>k.2 (h.2 n q).1⟩
def Iu{q:Type}(sz:Z)(R:OwT q)(g0 g:GW)(lo:Z)(ecs:F (F zg))(l:F q):Prop:=
 ∃h:Z->Z->Prop,(ecs.length=l.length/\∀e∈ecs,e.length=sz)/\(∀i n,h i n->NEW g0 g n)/\(∀i j n,h i n->h j n->i=j)/\∀(i:Z)x u,l[i]?=O x->ecs[i]?=O u->R g lo (h i) u x
def qFJ{q:Type}{sz}{R:OwT q}(g0 g)(lo):Iu sz R g0 g lo [] []:=
 ⟨λ_ _=>zV,⟨rfl,λ_ h=>by cases h⟩,λ_ _ h=>h.elim,λ_ _ _ h=>h.elim,λi x u h=>by simp at h⟩
def qfH{D:Type}{sz}{R:OwT D}(H:Fr0 R){g0 g g'}{lo}{ecs}{l}(L:g0<=g)(k:g<=g')(h:Iu sz R g0 g lo ecs l){ec}{x:D}(M:ec.length=sz)(P:R g' lo (NEW g g') ec x):Iu sz R g0 g' lo (ecs++[ec]) (l++[x]):=by
 obtain⟨w,⟨E,Q⟩,B,T,U⟩:=h;refine⟨λi n=>if i=l.length then NEW g g' n else i<l.length/\w i n,⟨by simp[E],λe q=>?_⟩,λi n u=>?_,λi j n p u=>?_,λi y e A q=>?_⟩
 .rcases zL.1 q with q|q
  .exact Q e q
  .simp at q;subst q;exact M
 .simp only at u;split at u
  .exact u.dn L
  .exact(B i n u.2).up k
 .simp only at p u;split at p<;>split at u
  .rename_i W Y;omega
  .exact absurd (B j n u.2).1 p.2
  .exact absurd (B i n p.2).1 u.2
  .exact T _ _ _ p.2 u.2
 .rcases zAL i l.length with C|C
  .rw[zAc C]at A;rw[zAc sa]at q;have:=H _ g' _ _ _ _ (GW.Ep k _ _) (U i y e A q);show R g' lo (λn=>if i=l.length then NEW g g' n else i<l.length/\w i n) e y;rw[show(λn=>if i=l.length then NEW g g' n else i<l.length/\w i n)=w i from by funext n;rw[zh sa];simp[C]];exact this
  .have V:i=l.length:=by have:=(zd.1 A).1;simp at this;omega
   subst V;simp at A;rw[<-E]at q;simp at q;subst A;subst q;show R g' lo (λn=>if l.length=l.length then NEW g g' n else l.length<l.length/\w l.length n) ec x;rw[show(λn=>if l.length=l.length then NEW g g' n else l.length<l.length/\w l.length n)=NEW g g' from by funext n;rw[zk rfl]];exact P
def qpF{B:Type}{ety}{sz}{R:OwT B}(C:Fr0 R){g0 g g'}{lo}{ecs}{l}{oa}{n cap}(h:Iu sz R g0 g lo ecs l)(D:g0<=g)(k:g<=g')(hp:AX g' lo ety sz (.slice oa n cap) n ecs.flatten)(E:n=l.length)(H:∀a,oa=O a->¬g.g a.block):oSl ety sz R g' lo (NEW g0 g') (.slice oa n cap) l:=by
 subst E;obtain⟨L,M,w,P,Q⟩:=h;have T:=hp;obtain⟨ac,U,ad⟩:=hp;rcases U with⟨q,V⟩|⟨b,ae,rest,q,W,_⟩
 .exact .inl ⟨zBd.1 V,zc,q⟩
 .simp only[zAp,zBL]at q;obtain⟨rfl,rfl⟩:=q;have A:=H _ rfl;exact .inr ⟨b,cap,ecs,L,rfl,⟨W.2,λu=>A (D.2 b u).1⟩,T,M,λi n u=>⟨(w i n u).up k,λe=>A (e▸(w i n u).1)⟩,P,λi x Y aa ab=>C _ _ _ _ _ _ (GW.Ep k _ _) (Q i x Y aa ab)⟩
def qgH{w:Type}{sz}{r:RP w}(g0 g)(lo)(f:w->F zg)(l)(A:∀x∈l,(f x).length=sz/\r g (f x) x):Iu sz (oLf r) g0 g lo (l.map f) l:=by
 refine⟨λ_ _=>zV,⟨sd,λe B=>?_⟩,λ_ _ q=>q.elim,λ_ _ _ q=>q.elim,λi x C h u=>?_⟩
 .obtain⟨x,h,rfl⟩:=zAb.1 B;exact(A x h).1
 .rw[zAv,h]at u;simp at u;subst u;exact(A x (zl h)).2
def AX.GD{g}{lo lo'}{ety}{size}{v}{n}{cs}(h:AX g lo ety size v n cs)(k:lo'<=lo):AX g lo' ety size v n cs:=by
 obtain⟨u,w,A⟩:=h;refine⟨u,w.imp id λ⟨b,cap,rest,B,q,C⟩=>⟨b,cap,rest,B,⟨zZ k q.1,q.2⟩,C⟩,A⟩
def qRF{u:Type}{ety}{sz}{R:OwT u}(w:Fr0 R){g g' q}{lo}{v}{l}(k:g'<=q)(h:oSl ety sz R g' lo (NEW g g') v l):oSl ety sz R q lo (NEW g q) v l:=
 qqW (λ_ A=>A.up k) (qqA w (GW.Ep k _ _) h)
def qmA{q:Type}{ety}{sz}{R:OwT q}{g}{lo}{S}{v}{l}(h:oSl ety sz R g lo S v l):∃oa cap,v=.slice oa l.length cap:=by
 rcases h with⟨rfl,oa,rfl⟩|⟨b,cap,_,_,rfl,_⟩
 .exact⟨oa,0,rfl⟩
 .exact⟨_,cap,rfl⟩
def Et(ecs:F (F zg))(z:F zg)(m:Z):F zg:=ecs.flatten++(zA5 m z).flatten
def qNG{sz}{ecs}{z}{m}(h:∀e∈ecs,e.length=sz)(q:z.length=sz):(Et ecs z m).length=(ecs.length+m)*sz:=by
 unfold Et;rw[zAq,qtC h,qtC (sz:=sz) (λe u=>by rw[zCY u];exact q),zDd,zBM]
def qMG{sz}{ecs}{z}{m}(h:∀e∈ecs,e.length=sz)(u:z.length=sz)(hm:0<m){ec}(A:ec.length=sz){k}(hk:k=ecs.length):(Et ecs z m).take (k*sz)++ec++(Et ecs z m).drop (k*sz+sz)=Et (ecs++[ec]) z (m-1):=by
 subst hk;obtain⟨m,rfl⟩:∃w,m=w+1:=⟨m-1,sa⟩;have q:=qtC h;unfold Et;rw[List.replicate_succ,zBC,<-zBZ,zBZ ecs.flatten];rw[List.take_left' q,<-zBZ ecs.flatten z,List.drop_left' (by simp[q,u])];simp
def qdF{ecs}{z}:Et ecs z 0=ecs.flatten:=by simp[Et]
def F6{h:Type}(sz:Z)(R:RP h)(g:GW)(ecs:F (F zg))(l:F h):Prop:=(ecs.length=l.length/\∀e∈ecs,e.length=sz)/\∀(i:Z)x q,l[i]?=O x->ecs[i]?=O q->R g q x
def qBJ{q:Type}{sz}{R:RP q}(g):F6 sz R g [] []:=⟨⟨rfl,λ_ h=>by cases h⟩,λi x u h=>by simp at h⟩
def qgF{q:Type}{sz}{R:RP q}(hm:C4 R){g g'}{ecs}{l}(k:g<=g')(h:F6 sz R g ecs l):F6 sz R g' ecs l:=⟨h.1,λi x u w A=>hm _ _ _ _ k (h.2 i x u w A)⟩
def qhF{w:Type}{sz}{R:RP w}{g}{ecs}{l}(h:F6 sz R g ecs l){ec}{x:w}(C:ec.length=sz)(D:R g ec x):F6 sz R g (ecs++[ec]) (l++[x]):=by
 obtain⟨⟨A,E⟩,H⟩:=h;refine⟨⟨by simp[A],λe q=>?_⟩,λi y e u q=>?_⟩
 .rcases zL.1 q with q|q
  .exact E e q
  .simp at q;subst q;exact C
 .rcases zAL i l.length with B|B
  .rw[zAc B]at u;rw[zAc sa]at q;exact H i y e u q
  .have L:i=l.length:=by have:=(zd.1 u).1;simp at this;omega
   subst L;simp at u;rw[<-A]at q;simp at q;subst u;subst q;exact D
def qhJ{q:Type}{ety}{sz lo}{R:RP q}{g}{v}{n}{ecs}{l}(h:F6 sz R g ecs l)(hp:AX g lo ety sz v n ecs.flatten)(u:l.length=n):rSl sz R g v l:=
 q1K hp.rd l ecs rfl h.1.2 u h.1.1 λi x w A B=>h.2 i x w A B
def BgG(K:Z)(x:Bm):Prop:=x.ends.length<=K
def BgV(K:Z)(x:AL):Prop:=x.Am.length<=K/\∀y∈x.Am,BgG K y
def BgW(K:Z)(w:Wd):Prop:=(w.pins.length<=K/\w.Ab.length<=K/\w.Aa.length<=K/\w.counts.length<=K/\w.Ai.length<=K)/\(∀r∈w.counts,r.length<=K)/\∀v∈w.Ab,BgV K v
section
variable{t:WTy}{f:zM}
def qKC{q:Type}{ety}{sz}{R:OwT q}{g}{lo}{S}{v}{l}(h:oSl ety sz R g lo S v l):∃oa n cap,v=.slice oa n cap:=by
 rcases h with⟨_,oa,rfl⟩|⟨b,cap,_,_,rfl,_⟩
 .exact⟨_,_,_,rfl⟩
 .exact⟨_,_,_,rfl⟩
end
abbrev I5(x:AY):F zg:=[.string x.name,.bool x.drain,.int .i64 x.Ah,.bool x.closed]
section
variable{t:WTy}{f:zM}
def qqJ{g}{lo}{A}{e0 e1 e2 a b c d e}{w}(h:oWo t f g lo A [e0,e1,e2,a,b,c,d,e] w){i}{x x'}(E:w.Aa[i]?=O x){o}{vs}(hl:o+vs.length<=4)(H:∀u∈vs,u.oneCell'=I)(L:(I5 x).take o++vs++(I5 x).drop (o+vs.length)=I5 x')(M:InR x'.Ah):∃(bk cap:Z),c=.slice (O ⟨bk,0,zc⟩) w.Aa.length cap/\Rcs g ((⟨bk,0,zc⟩:zAH).add (i*4)) (I5 x)/\PK g lo (A 2) (((⟨bk,0,zc⟩:zAH).add (i*4)).add o) vs λg'=>oWo t f g' lo A [e0,e1,e2,a,b,c,d,e] {w with Aa:=w.Aa.set i x'}:=by
 obtain⟨_,_,_,_,_,C,P,q,Q,R,D,T,U⟩:=h;simp only[zAJ,zA6]at C;obtain⟨rfl,rfl,rfl,rfl,rfl,rfl,rfl,rfl⟩:=C;obtain⟨Y,n,c1,rfl⟩:=qKC D;obtain⟨bk,aa,ab,⟨rfl,rfl⟩,⟨_,V⟩,⟨rfl,_⟩,W,_⟩:=qeC (qzA q2A) D E;refine⟨bk,c1,rfl,V,?_⟩;have B:=W o vs x' hl H λg' _=>⟨L,M⟩;exact B.imp (λ_ h=>h) λg' k B=>⟨_,_,_,_,_,rfl,P,q,qqA (qzA qTB) (qtA q sb k) Q,qqA qmF (qtA q sb k) R,B,qqA qnF (qtA q sb k) T,qqA (qzA qpA) (qtA q sb k) U⟩
end
section
variable{t:WTy}{f:zM}
def qgB(a:zAH):a.add 0=a:=by cases a;rfl
abbrev Gu(w:Wd)(i j:Z)(v:AL)(x':Bm):Wd:={w with Ab:=w.Ab.set i {v with Am:=v.Am.set j x'}}
def q4E{g}{lo}{A}{e0 e1 e2 a b c d e}{w}(h:oWo t f g lo A [e0,e1,e2,a,b,c,d,e] w){i j}{v}{x}(aa:w.Ab[i]?=O v)(ab:v.Am[j]?=O x):∃(b1 c1 B c2:Z)(E H L M:zg)(C:Z->Prop),b=.slice (O ⟨b1,0,zc⟩) w.Ab.length c1/\Rcs g ((⟨b1,0,zc⟩:zAH).add (i*5)) [E,H,L,.slice (O ⟨B,0,zc⟩) v.Am.length c2,.bool v.AV]/\Rcs g ((⟨B,0,zc⟩:zAH).add (j*2)) [.int .u64 x.AQ,M]/\InU x.AQ/\oSl t.Jk 3 (oEn t f) g lo C M x.ends/\(∀(k':zn),InU k'->PK g lo (A 1) ((⟨B,0,zc⟩:zAH).add (j*2)) [.int .u64 k'] λg'=>oWo t f g' lo A [e0,e1,e2,a,b,c,d,e] (Gu w i j v {x with AQ:=k'}))/\∀(u:zAH)(vs:F zg)(P:F Bz),PK g lo C u vs (λg'=>oSl t.Jk 3 (oEn t f) g' lo C M P)->PK g lo (A 1) u vs λg'=>oWo t f g' lo A [e0,e1,e2,a,b,c,d,e] (Gu w i j v {x with ends:=P}):=by
 obtain⟨_,_,_,_,_,T,ac,D,ad,U,ae,af,ag⟩:=h;simp only[zAJ,zA6]at T;obtain⟨rfl,rfl,rfl,rfl,rfl,rfl,rfl,rfl⟩:=T;obtain⟨ar,n,c1,rfl⟩:=qKC U;obtain⟨b1,V,au,⟨rfl,rfl⟩,⟨_,ah⟩,⟨E,H,L,M,rfl,ai,W⟩,_,aj⟩:=qeC qmF U aa;obtain⟨av,aw,c2,rfl⟩:=qKC W;obtain⟨B,C,ax,⟨rfl,rfl⟩,⟨_,ak⟩,⟨xn,rfl,Y,hE⟩,al,an⟩:=qeC qrJ W ab
 have up:∀(u:zAH)(vs:F zg)(Q:Bm),PK g lo V u vs (λg'=>oSl t.tGr 2 (oGr t f) g' lo V (.slice (O ⟨B,0,zc⟩) v.Am.length c2) (v.Am.set j Q))->
   PK g lo (A 1) u vs λg'=>oWo t f g' lo A [.int .i64 w.Al,.int .i64 w.current,.int .i64 w.AH,a,.slice (O ⟨b1,0,zc⟩) w.Ab.length c1,c,d,e] (Gu w i j v Q):=λu vs Q ao=>by
  have ap:=aj _ _ {v with Am:=v.Am.set j Q} (ao.imp (λ_ h=>h) λg' R q=>⟨E,H,L,_,sd,qYC _ _ _ _ (KS (R _ λ_ _=>id|>λ_=>sr)) ai,q⟩);exact ap.imp (λ_ h=>h) λg' k q=>⟨_,_,_,_,_,sd,ac,D,qqA (qzA qTB) (qtA D sb k) ad,q,qqA (qzA q2A) (qtA D sb k) ae,qqA qnF (qtA D sb k) af,qqA (qzA qpA) (qtA D sb k) ag⟩
 refine⟨b1,c1,B,c2,E,H,L,xn,C,rfl,ah,ak,Y,hE,λk' aq=>up _ _ _ ?_,λu vs P q=>up _ _ _ (an u vs {x with ends:=P} (q.imp (λ_ h=>h) λg' R q=>⟨_,rfl,Y,q⟩))⟩;have q:=al 0 [.int .u64 k'] {x with AQ:=k'} sd (by simp[zA0]) λg' R=>⟨_,rfl,aq,qqA qmI R hE⟩;rw[qgB]at q;exact q
def qfC{g}{lo}{S}{w}{l}(hE:oSl t.Jk 3 (oEn t f) g lo S w l){k}{en en'}(E:l[k]?=O en){o}{vs}(hl:o+vs.length<=3)(H:∀u∈vs,u.oneCell'=I)(L:∀n:zg,[.int .u64 en.head,n,.int .i64 en.Ah].take o++vs++[.int .u64 en.head,n,.int .i64 en.Ah].drop (o+vs.length)=[.int .u64 en'.head,n,.int .i64 en'.Ah])(B:en'.next=en.next)(C:InU en'.head/\InR en'.Ah):∃(q c3:Z)(h:zg)(A:Z->Prop),w=.slice (O ⟨q,0,zc⟩) l.length c3/\Rcs g ((⟨q,0,zc⟩:zAH).add (k*3)) [.int .u64 en.head,h,.int .i64 en.Ah]/\oNx t f g lo A h en.next/\PK g lo S (((⟨q,0,zc⟩:zAH).add (k*3)).add o) vs λg'=>oSl t.Jk 3 (oEn t f) g' lo S w (l.set k en'):=by
 obtain⟨T,U,c3,rfl⟩:=qKC hE;obtain⟨q,A,V,⟨rfl,rfl⟩,⟨W,M⟩,⟨h,rfl,P,D⟩,Q,_⟩:=qeC qmI hE E;refine⟨q,c3,h,A,rfl,M,D,?_⟩;exact Q o vs en' hl H λg' R=>⟨h,L h,⟨C.1,C.2,by rw[B];exact P.2.2⟩,by rw[B];exact qrX R D⟩
def qxR{g}{lo}{S}{A}{l}(hE:oSl t.Jk 3 (oEn t I) g lo S A l){k s}{en}{y h}(D:l[k]?=O en)(E:en.next[s]?=O y)(H:InR h):∃(u c3 w c4:Z),A=.slice (O ⟨u,0,zc⟩) l.length c3/\Rcs g ((⟨u,0,zc⟩:zAH).add (k*3)) [.int .u64 en.head,.slice (O ⟨w,0,zc⟩) en.next.length c4,.int .i64 en.Ah]/\PK g lo S ((⟨w,0,zc⟩:zAH).add (s*1)) [.int .i64 h] λg'=>oSl t.Jk 3 (oEn t I) g' lo S A (l.set k {en with next:=en.next.set s h}):=by
 obtain⟨T,U,c3,rfl⟩:=qKC hE;obtain⟨u,V,W,⟨rfl,rfl⟩,⟨Y,L⟩,⟨aa,rfl,B,q⟩,_,M⟩:=qeC qmI hE D;rcases q with q|⟨q,_⟩
 rotate_left
 .cases q
 obtain⟨ab,ac,c4,rfl⟩:=qKC q;obtain⟨w,ad,ae,⟨rfl,rfl⟩,_,⟨rfl,_⟩,P,_⟩:=qeC (qzA qTB) q E;refine⟨u,c3,w,c4,rfl,L,?_⟩;have C:=P 0 [.int .i64 h] h sd (by simp[zA0]) λg' _=>⟨rfl,H⟩;rw[qgB]at C;exact M _ _ {en with next:=en.next.set s h} (C.imp (λ_ Q=>Q) λg' af R=>⟨_,sd,⟨B.1,B.2.1,by rw[zX];exact B.2.2⟩,.inl R⟩)
def qeH{g}{lo}{B}{e0 e1 e2 a b c d e}{w}(h:oWo t f g lo B [e0,e1,e2,a,b,c,d,e] w){i k}{row}{y q}(M:w.counts[i]?=O row)(P:row[k]?=O y)(Q:InU q):∃(b1 c1 u c2:Z),d=.slice (O ⟨b1,0,zc⟩) w.counts.length c1/\Rcs g ((⟨b1,0,zc⟩:zAH).add (i*1)) [.slice (O ⟨u,0,zc⟩) row.length c2]/\Rcs g ((⟨u,0,zc⟩:zAH).add (k*1)) [.int .u64 y]/\PK g lo (B 3) ((⟨u,0,zc⟩:zAH).add (k*1)) [.int .u64 q] λg'=>oWo t f g' lo B [e0,e1,e2,a,b,c,d,e] {w with counts:=w.counts.set i (row.set k q)}:=by
 obtain⟨_,_,_,_,_,D,R,A,T,U,V,E,W⟩:=h;simp only[zAJ,zA6]at D;obtain⟨rfl,rfl,rfl,rfl,rfl,rfl,rfl,rfl⟩:=D;obtain⟨ae,n,c1,rfl⟩:=qKC E;obtain⟨b1,af,ag,⟨rfl,rfl⟩,⟨_,Y⟩,⟨ah,rfl,H⟩,_,aa⟩:=qeC qnF E M;obtain⟨ai,aj,c2,rfl⟩:=qKC H;obtain⟨u,ak,al,⟨rfl,rfl⟩,⟨_,ab⟩,⟨rfl,_⟩,ac,_⟩:=qeC (qzA qPG) H P;refine⟨b1,c1,u,c2,rfl,Y,ab,?_⟩;have L:=ac 0 [.int .u64 q] q sd (by simp[zA0]) λg' _=>⟨rfl,Q⟩;rw[qgB]at L;have ad:=aa _ _ (row.set k q) (L.imp (λ_ h=>h) λg' an C=>⟨_,sd,C⟩);exact ad.imp (λ_ h=>h) λg' k C=>⟨_,_,_,_,_,sd,R,A,qqA (qzA qTB) (qtA A sb k) T,qqA qmF (qtA A sb k) U,qqA (qzA q2A) (qtA A sb k) V,C,qqA (qzA qpA) (qtA A sb k) W⟩
end
def qgI{u:Type}{sz}{R:RP u}{g}{a}{n cap}{l}(h:rSl sz R g (.slice (O a) n cap) l){i}{x:u}(A:l[i]?=O x):∃ec,ec.length=sz/\R g ec x/\Rcs g (a.add (i*sz)) ec:=by
 obtain⟨M,c,B,_,_,_,C⟩:=h;obtain⟨P,D,ec,E,H,L⟩:=C i x A;subst D;injection B with q _ _
 injection q with q
 subst q;exact⟨ec,E,H,L⟩
section
variable{g:GW}{e0 e1 e2 a b c d e:zg}{w:Wd}(h:rWo g [e0,e1,e2,a,b,c,d,e] w)
include h
def qEb:rSl 1 BS g a w.pins:=by
 obtain⟨_,_,_,_,_,q,_,u,A,B,C,D⟩:=h;simp only[zAJ,zA6]at q;obtain⟨_,_,_,rfl,rfl,rfl,rfl,rfl⟩:=q;exact u
def qdJ:rSl 5 rVe g b w.Ab:=by
 obtain⟨_,_,_,_,_,q,_,A,u,B,C,D⟩:=h;simp only[zAJ,zA6]at q;obtain⟨_,_,_,rfl,rfl,rfl,rfl,rfl⟩:=q;exact u
def qDI:rSl 4 qeB g c w.Aa:=by
 obtain⟨_,_,_,_,_,q,_,A,B,u,C,D⟩:=h;simp only[zAJ,zA6]at q;obtain⟨_,_,_,rfl,rfl,rfl,rfl,rfl⟩:=q;exact u
def MI:rSl 1 F5 g d w.counts:=by
 obtain⟨_,_,_,_,_,q,_,A,B,C,u,D⟩:=h;simp only[zAJ,zA6]at q;obtain⟨_,_,_,rfl,rfl,rfl,rfl,rfl⟩:=q;exact u
def MH:rSl 3 qAB g e w.Ai:=by
 obtain⟨_,_,_,_,_,q,_,A,B,C,D,u⟩:=h;simp only[zAJ,zA6]at q;obtain⟨_,_,_,rfl,rfl,rfl,rfl,rfl⟩:=q;exact u
end
def qnG{g}{a}{n cap}{l}(h:rSl 4 qeB g (.slice (O a) n cap) l){i}{x}(q:l[i]?=O x):InR x.Ah/\Rcs g (a.add (i*4)) [.string x.name,.bool x.drain,.int .i64 x.Ah,.bool x.closed]:=by
 obtain⟨B,_,⟨rfl,u⟩,A⟩:=qgI h q;exact⟨u,A⟩
def qWF{g}{a}{n cap}{l}(h:rSl 5 rVe g (.slice (O a) n cap) l){i}{x}(Q:l[i]?=O x):∃A B C D q u E H,Rcs g (a.add (i*5)) [.slice A x.AO.Aa.length B,.slice C x.AO.AN.length D,.slice q x.AO.Ad.length u,.slice E x.Am.length H,.bool x.AV]/\qfJ g [.slice A x.AO.Aa.length B,.slice C x.AO.AN.length D,.slice q x.AO.Ad.length u] x.AO/\rSl 4 qOC g (.slice q x.AO.Ad.length u) x.AO.Ad/\rSl 2 rGr g (.slice E x.Am.length H) x.Am:=by
 obtain⟨V,_,⟨W,Y,aa,ab,rfl,hs,L⟩,R⟩:=qgI h Q;obtain⟨_,_,_,M,T,U,P⟩:=id hs;simp only[zAJ,zA6]at M;obtain⟨rfl,rfl,rfl⟩:=M;obtain⟨_,_,rfl,_⟩:=id T;obtain⟨_,_,rfl,_⟩:=id U;obtain⟨_,_,rfl,_⟩:=id P;obtain⟨_,_,rfl,_⟩:=id L;exact⟨_,_,_,_,_,_,_,_,R,hs,P,L⟩
def qqH{g}{a}{n cap}{l}(h:rSl 2 rGr g (.slice (O a) n cap) l){i}{x}(u:l[i]?=O x):∃q cE,Rcs g (a.add (i*2)) [.int .u64 x.AQ,.slice q x.ends.length cE]/\InU x.AQ/\rSl 3 rEn g (.slice q x.ends.length cE) x.ends:=by
 obtain⟨C,_,⟨D,rfl,A,hE⟩,B⟩:=qgI h u;obtain⟨_,_,rfl,_⟩:=id hE;exact⟨_,_,B,A,hE⟩
def qpG{g}{a}{n cap}{l}(h:rSl 3 rEn g (.slice (O a) n cap) l){i}{x}(B:l[i]?=O x):∃q u,Rcs g (a.add (i*3)) [.int .u64 x.head,.slice q x.next.length u,.int .i64 x.Ah]/\(InU x.head/\InR x.Ah/\x.next.length<=17592186044416)/\rSl 1 BS g (.slice q x.next.length u) x.next:=by
 obtain⟨L,_,⟨⟨M,rfl,C,D,A⟩,E⟩,H⟩:=qgI h B;obtain⟨_,_,rfl,_⟩:=id A;exact⟨_,_,H,⟨C,D,E⟩,A⟩
def qJL{g}{a}{n cap}{l}(h:rSl 1 BS g (.slice (O a) n cap) l){i}{x}(q:l[i]?=O x):InR x/\Rcs g (a.add (i*1)) [.int .i64 x]:=by
 obtain⟨B,_,⟨rfl,u⟩,A⟩:=qgI h q;exact⟨u,A⟩
def qYA{q:Type}{sz:Z}{R:RP q}{g}{oa}{n cap:Z}{l}(h:rSl sz R g (.slice oa n cap) l){i:Z}{x:q}(u:l[i]?=O x):∃a,oa=O a:=by
 obtain⟨o,c,A,_,_,_,B⟩:=h;obtain⟨C,D,_⟩:=B i x u;injection A with E _ _
 exact⟨C,E.trans D⟩
def qMH{g}{cs}{w}(h:rWo g cs w){i j k:Z}{v}{x}{e}(u:w.Ab[i]?=O v)(A:v.Am[j]?=O x)(B:x.ends[k]?=O e):(InU e.head/\InR e.Ah/\e.next.length<=17592186044416)/\InU x.AQ/\∀(n:Z)y,e.next[n]?=O y->InR y:=by
 obtain⟨_,_,_,_,_,rfl,_,_,q,_,_,_⟩:=h;obtain⟨_,_,rfl,_⟩:=id q;obtain⟨a,rfl⟩:=qYA q u;obtain⟨_,_,_,_,_,_,_,_,_,_,_,C⟩:=qWF q u;obtain⟨b,rfl⟩:=qYA C A;obtain⟨_,_,_,L,D⟩:=qqH C A;obtain⟨c,rfl⟩:=qYA D B;obtain⟨_,_,_,M,E⟩:=qpG D B;refine⟨M,L,λn y H=>?_⟩;obtain⟨d,rfl⟩:=qYA E H;exact(qJL E H).1
def Rcs.sub{g}{a}{cs}(h:Rcs g a cs)(o n):Rcs g (a.add o) ((cs.drop o).take n):=λj u q=>by
 rw[zA7]at q;split at q
 .rw[zCC]at q;have:=h _ u q;rwa [qIH]
 .cases q
def Upd.rd{g g':GW}{b j:Z}{q vs:F zg}{ty:zAy}(u:Upd g b (.cells ⟨q.take j++vs++q.drop (j+vs.length)⟩ ty (0,0)) g')(hb:g.g b)(hl:j+vs.length<=q.length):Rcs g' ⟨b,j,zc⟩ vs:=λi x A=>by
 have e:(⟨b,j,zc⟩:zAH).add i=⟨b,j+i,zc⟩:=by simp[qlA]
 rw[e];refine⟨(u.dom b).2 hb,?_⟩;have B:=(zd.1 A).1;show g'.w.cell? ⟨b,j+i,zc⟩=O x;unfold World.cell?;simp only[u.obj]
 have:(q.take j++vs++q.drop (j+vs.length))[j+i]?=O x:=by
  rw[zBZ,zA4 sf,zAc sf];simp only[zAN];rw[show j+i-min j q.length=i by omega];exact A
 simpa using this
abbrev LV(x:Ba):F zg:=[.int .i64 x.Ac,.int .i64 x.at_,.bool x.gone]
section
variable{t:WTy}{f:zM}
def qRZ{g}{lo}{u}{e0 e1 e2 a b c d e}{w}(h:oWo t f g lo u [e0,e1,e2,a,b,c,d,e] w){i}{x}(D:w.Ai[i]?=O x)(y):∃(bk cap:Z),e=.slice (O ⟨bk,0,zc⟩) w.Ai.length cap/\Rcs g ((⟨bk,0,zc⟩:zAH).add (i*3)) (LV x)/\PK g lo (u 4) (((⟨bk,0,zc⟩:zAH).add (i*3)).add 2) [.bool y] λg'=>oWo t f g' lo u [e0,e1,e2,a,b,c,d,e] {w with Ai:=w.Ai.set i {x with gone:=y}}:=by
 obtain⟨_,_,_,_,_,B,E,q,H,L,M,P,C⟩:=h;simp only[zAJ,zA6]at B;obtain⟨rfl,rfl,rfl,rfl,rfl,rfl,rfl,rfl⟩:=B;obtain⟨U,n,c1,rfl⟩:=qKC C;obtain⟨bk,V,W,⟨rfl,rfl⟩,⟨_,Q⟩,⟨rfl,R⟩,T,_⟩:=qeC (qzA qpA) C D;refine⟨bk,c1,rfl,Q,?_⟩;have A:=T 2 [.bool y] {x with gone:=y} sd (by simp[zA0]) λg' _=>⟨rfl,R⟩;exact A.imp (λ_ h=>h) λg' k A=>⟨_,_,_,_,_,rfl,E,q,qqA (qzA qTB) (qtA q sb k) H,qqA qmF (qtA q sb k) L,qqA (qzA q2A) (qtA q sb k) M,qqA qnF (qtA q sb k) P,A⟩
def qSZ{g}{lo}{u}{e0 e1 e2 a b c d e}{w}(h:oWo t f g lo u [e0,e1,e2,a,b,c,d,e] w){i}{x}(E:w.Ab[i]?=O x)(y):∃(bk cap:Z),b=.slice (O ⟨bk,0,zc⟩) w.Ab.length cap/\PK g lo (u 1) (((⟨bk,0,zc⟩:zAH).add (i*5)).add 4) [.bool y] λg'=>oWo t f g' lo u [e0,e1,e2,a,b,c,d,e] {w with Ab:=w.Ab.set i {x with AV:=y}}:=by
 obtain⟨_,_,_,_,_,B,H,q,L,C,M,P,Q⟩:=h;simp only[zAJ,zA6]at B;obtain⟨rfl,rfl,rfl,rfl,rfl,rfl,rfl,rfl⟩:=B;obtain⟨ab,n,c1,rfl⟩:=qKC C;obtain⟨bk,ac,ad,⟨rfl,rfl⟩,⟨_,ae⟩,⟨R,T,U,V,rfl,W,Y⟩,aa,_⟩:=qeC qmF C E;refine⟨bk,c1,rfl,?_⟩;have A:=aa 4 [.bool y] {x with AV:=y} sd (by simp[zA0]) λg' D=>⟨R,T,U,V,rfl,qYC _ _ _ _ (KS D) W,qqA qrJ D Y⟩;exact A.imp (λ_ h=>h) λg' k A=>⟨_,_,_,_,_,rfl,H,q,qqA (qzA qTB) (qtA q sb k) L,A,qqA (qzA q2A) (qtA q sb k) M,qqA qnF (qtA q sb k) P,qqA (qzA qpA) (qtA q sb k) Q⟩
end
section
variable{t:WTy}{f:zM}
def qtE{g h}{lo b}{S}(u:Hy g b h)(A:lo<=b)(w:¬S b):g.vw lo S<=h:=u.le (g.HX lo S) λk=>by
 rcases k.2 with q|q
 .omega
 .exact w q
def qFU{C:Type}{ety}{sz}{R:OwT C}{r:RP C}(E:Rd0 R r)(hm:C4 r){g}{lo}{S}{v}{l}(h:oSl ety sz R g lo S v l):(l=[]/\∃oa,v=.slice oa 0 0)\/∃(b cap:Z)(ecs:F (F zg))(rest:F zg),v=.slice (O ⟨b,0,zc⟩) l.length cap/\S b/\(lo<=b/\g.g b/\g.w.heap[b]?=O (.cells ⟨ecs.flatten++rest⟩ ety (0,0))/\ecs.flatten.length=l.length*sz/\(∀u∈ecs.flatten,u.oneCell'=I)/\l.length<=cap/\cap<=zAr/\(ecs.flatten++rest).length=cap*sz)/\∀q,Hy g b q->F6 sz r q ecs l:=by
 rcases h with h|⟨b,cap,ecs,ae,rfl,H,L,M,P,af,Q⟩
 .exact .inl h
 obtain⟨T,A,U⟩:=L;rcases A with⟨A,_⟩|⟨ag,ah,rest,D,B,V,W,Y,aa⟩
 .cases A
 simp only[zAp,zAk,Addr.mk.injEq]at D;obtain⟨⟨rfl,_⟩,_,rfl⟩:=D;refine .inr ⟨b,cap,ecs,rest,rfl,H,⟨B.1,B.2,V,T,U,W,Y,aa⟩,λq u=>⟨M,λi x ab ac ad=>?_⟩⟩;exact hm _ _ _ _ (qtE u B.1 λk=>(P i b k).2 rfl) (E _ _ _ _ _ (Q i x ab ac ad))
def qhQ{g}{lo}{B}{e0 e1 e2 a b c d e}{w}(h:oWo t f g lo B [e0,e1,e2,a,b,c,d,e] w)(D:w.Ab≠[]):∃(bk cap:Z)(ecs:F (F zg))(rest:F zg),b=.slice (O ⟨bk,0,zc⟩) w.Ab.length cap/\(lo<=bk/\g.g bk/\g.w.heap[bk]?=O (.cells ⟨ecs.flatten++rest⟩ t.tVe (0,0))/\ecs.flatten.length=w.Ab.length*5/\(∀u∈ecs.flatten,u.oneCell'=I)/\w.Ab.length<=cap/\cap<=zAr/\(ecs.flatten++rest).length=cap*5)/\∀q,Hy g bk q->F6 5 rVe q ecs w.Ab/\rSl 1 BS q a w.pins/\rSl 4 qeB q c w.Aa/\rSl 1 F5 q d w.counts/\rSl 3 qAB q e w.Ai:=by
 obtain⟨_,_,_,_,_,C,W,E,H,L,M,P,Q⟩:=h;simp only[zAJ,zA6]at C;obtain⟨rfl,rfl,rfl,rfl,rfl,rfl,rfl,rfl⟩:=C;rcases qFU qEU q3C L with⟨R,_⟩|⟨bk,cap,ecs,rest,rfl,T,A,U⟩
 .exact absurd R D
 refine⟨bk,cap,ecs,rest,rfl,A,λq u=>?_⟩;have no:∀j,j≠1->¬B j bk:=λj V k=>V (E j 1 bk k T);exact⟨U q u,(q9C (qoF qTB) qxA H).mono qxA (qtE u A.1 (no 0 sb)),(q9C (qoF q2A) q3A M).mono q3A (qtE u A.1 (no 2 sb)),(q9C qGU qSB P).mono qSB (qtE u A.1 (no 3 sb)),(q9C (qoF qpA) q9A Q).mono q9A (qtE u A.1 (no 4 sb))⟩
def qpW{g}{lo}{B}{e0 e1 e2 a b c d e}{w}(h:oWo t f g lo B [e0,e1,e2,a,b,c,d,e] w):(w.Ai=[]/\∃oa,e=.slice oa 0 0)\/∃(bk cap:Z)(ecs:F (F zg))(rest:F zg),e=.slice (O ⟨bk,0,zc⟩) w.Ai.length cap/\(lo<=bk/\g.g bk/\g.w.heap[bk]?=O (.cells ⟨ecs.flatten++rest⟩ t.tRe (0,0))/\ecs.flatten.length=w.Ai.length*3/\(∀u∈ecs.flatten,u.oneCell'=I)/\w.Ai.length<=cap/\cap<=zAr/\(ecs.flatten++rest).length=cap*3)/\∀q,Hy g bk q->F6 3 qAB q ecs w.Ai/\rSl 1 BS q a w.pins/\rSl 5 rVe q b w.Ab/\rSl 4 qeB q c w.Aa/\rSl 1 F5 q d w.counts:=by
 obtain⟨_,_,_,_,_,C,U,D,E,H,L,M,P⟩:=h;simp only[zAJ,zA6]at C;obtain⟨rfl,rfl,rfl,rfl,rfl,rfl,rfl,rfl⟩:=C;rcases qFU (qoF qpA) q9A P with h|⟨bk,cap,ecs,rest,rfl,Q,A,R⟩
 .exact .inl h
 refine .inr ⟨bk,cap,ecs,rest,rfl,A,λq u=>?_⟩;have no:∀j,j≠4->¬B j bk:=λj T k=>T (D j 4 bk k Q);exact⟨R q u,(q9C (qoF qTB) qxA E).mono qxA (qtE u A.1 (no 0 sb)),(q9C qEU q3C H).mono q3C (qtE u A.1 (no 1 sb)),(q9C (qoF q2A) q3A L).mono q3A (qtE u A.1 (no 2 sb)),(q9C qGU qSB M).mono qSB (qtE u A.1 (no 3 sb))⟩
end
def q2M{h q:GW}{lo:Z}{ety:zAy}{a b c d v:zg}{w:Wd}{ecs:F (F zg)}{x:Ba}(u:InR w.Al/\InR w.current/\InR w.AH)(hk:F6 3 qAB h ecs w.Ai/\rSl 1 BS h a w.pins/\rSl 5 rVe h b w.Ab/\rSl 4 qeB h c w.Aa/\rSl 1 F5 h d w.counts)(k:h<=q)(hp:AX q lo ety 3 v (w.Ai.length+1) (ecs.flatten++LV x))(A:InR x.Ac/\InR x.at_):rWo q [.int .i64 w.Al,.int .i64 w.current,.int .i64 w.AH,a,b,c,d,v] {w with Ai:=w.Ai++[x]}:=by
 obtain⟨B,C,D,E,H⟩:=hk;refine⟨_,_,_,_,_,rfl,u,C.mono qxA k,D.mono q3C k,E.mono q3A k,H.mono qSB k,?_⟩;refine qhJ (ecs:=ecs++[LV x]) (ety:=ety) (lo:=lo) (qhF (qgF q9A k B) rfl ⟨rfl,A⟩) (n:=w.Ai.length+1) (by simpa using hp) sd
def qnY{h q:GW}{lo:Z}{ety:zAy}{a c d e v:zg}{w:Wd}{ecs:F (F zg)}{x:AL}{u:F zg}(A:InR w.Al/\InR w.current/\InR w.AH)(M:w.Ab.length<=1000000)(hk:F6 5 rVe h ecs w.Ab/\rSl 1 BS h a w.pins/\rSl 4 qeB h c w.Aa/\rSl 1 F5 h d w.counts/\rSl 3 qAB h e w.Ai)(k:h<=q)(hp:AX q lo ety 5 v (w.Ab.length+1) (ecs.flatten++u))(hl:u.length=5)(B:rVe q u x):rWo q [.int .i64 w.Al,.int .i64 w.Ab.length,.int .i64 w.AH,a,v,c,d,e] {w with Ab:=w.Ab++[x],current:=w.Ab.length}:=by
 obtain⟨C,D,E,H,L⟩:=hk;refine⟨_,_,_,_,_,rfl,⟨A.1,by show InR (w.Ab.length:zn);unfold InR;omega,A.2.2⟩,D.mono qxA k,?_,E.mono q3A k,H.mono qSB k,L.mono q9A k⟩;refine qhJ (ecs:=ecs++[u]) (ety:=ety) (lo:=lo) (qhF (qgF q3C k C) hl B) (n:=w.Ab.length+1) (by simpa using hp) sd
section
variable{H:Type}{enc:zAy×zg->H}{P:zt}{W:zp}
def qgP(P:zt)(t:zAy)(d:DataW H):Prop:=∀n∈d.weights P t,n<=reachBytes
def q5V{q}{u}(h:(DataW.weightsEach P q u).all (·<=reachBytes)=I){j:Z}{t}{d:DataW H}(w:q[j]?=O t)(hd:u[j]?=O d):qgP P t d:=
 λn A=>by simpa using zAh.1 h n (DataW.weights_mem_each w hd n A)
def ID{h:Type}(enc:zAy×zg->H)(P:zt)(W:zp)(t:zAy)(R:RP h):Prop:=∀fuel cs x,tr enc P W fuel t cs=O x->qgP P t x.1->∃a,R (Fv W) cs a
def ID.fld{q:Type}{u}{R:RP q}(w:ID enc P W u R){cs}(h:∃n y,tr enc P W n u cs=O y/\qgP P u y.1):∃a,R (Fv W) cs a:=let⟨n,y,A,hs⟩:=h;w n cs y A hs
def tr1{cs}{u}(h:∃n y,tr enc P W n u cs=O y/\qgP P u y.1):∃n y,tr enc P W n u cs=O y:=let⟨n,y,q,_⟩:=h;⟨n,y,q⟩
def qlG{e}:∀{l:F (DataW H)}{d:DataW H},d∈l->∀n∈d.weights P e,n∈DataW.weightsAll P e l
 |a::r,d,h,n,q=>by
  simp only[DataW.weightsAll,zL];rcases zJ.1 h with rfl|h
  .exact .inl q
  .exact .inr (qlG h n q)
def qDQ{C:Type}{t e}{sz}{R:RP C}(D:P.underlying t=O (.slice e))(hs:P.cellsOf e=sz)(ab:ID enc P W e R):ID enc P W t λg cs l=>∃v,cs=[v]/\rSl sz R g v l/\l.length*P.bytesOf e<=reachBytes:=by
 intro fuel cs x E L;rcases DataW.trod_slice D E with⟨rfl,_⟩|⟨a,len,cap,A,rest,n,_,rfl,rfl,_,ac,ad,ae,M,_⟩
 .exact⟨[],_,rfl,⟨zc,0,rfl,zG _,zF _,λ_=>⟨rfl,rfl⟩,λi x w=>by simp at w⟩,sd⟩
 .rw[hs]at M
  have af:∀i(u:i<A.length),qgP P e (A[i]).1:=λi u k ag=>by
   refine L k ?_;simp only[DataW.weights,D,zJ,zL];exact .inr (.inl (qlG (zAb.2 ⟨A[i],zDb _,rfl⟩) k ag))
  have ah:len*P.bytesOf e<=reachBytes:=by
   have:=L ((A.length+rest.length)*P.bytesOf e) (by simp[DataW.weights,D]);subst ae;exact zZ (zCu _ sa) this
  have Q:∀i,i<len->∃(x:C)(h:F zg),h.length=sz/\R (Fv W) h x/\Rcs (Fv W) (a.add (i*sz)) h:=λi u=>by
   have T:=M i u;rw[zAe sa]at T;obtain⟨h,q,ai⟩:=zAD.1 T;obtain⟨x,w⟩:=ab n h _ ai (af i sa);unfold World.cells? at q;rw[zk (zF _)]at q;have U:=mapM_some_length q;refine⟨x,h,by simpa using U,w,λj ak V=>?_⟩;have al:=(zd.1 V).1;have an:h.length=sz:=by simpa using U
   obtain⟨y,Y,B⟩:=qRN q j j (zCy sa);rw[V]at Y;cases Y;refine⟨?_,B⟩;show _<W.heap.size;unfold World.cell? at B;cases aa:W.heap[((a.add (i*sz)).add j).block]? with
   |none=>rw[aa]at B;cases B
   |some o=>exact(zAg.1 aa).1
  let f:Fin len->C:=λi=>Classical.choose (Q i.1 i.2);have aj:∀i:Fin len,∃(h:F zg),h.length=sz/\R (Fv W) h (f i)/\Rcs (Fv W) (a.add (i.1*sz)) h:=λi=>zCl (Q i.1 i.2);refine⟨List.ofFn f,_,rfl,⟨O a,cap,sd,by simpa using ac,ad,(λE=>by cases E),λi x w=>⟨a,rfl,?_⟩⟩,by simpa using ah⟩;obtain⟨u,q⟩:=zd.1 w;simp only[List.getElem_ofFn]at q;simp only[zDF]at u;have:=aj ⟨i,u⟩;rw[<-q];exact this
def qfU{t}{l}(q:fieldsOf P t=O l){fuel}{cs}{x:DataW H×F MemPlace}(h:tr enc P W fuel t cs=O x)(hs:qgP P t x.1):cs.length=P.cellsOf t/\∀(i o s:Z)(u:zAy),l[i]?=O (o,s,u)->∃n y,tr enc P W n u ((cs.drop o).take s)=O y/\qgP P u y.1:=by
 unfold fieldsOf at q;split at q
 .rename_i M w;simp only[zAk]at q;subst q;obtain⟨A,n,rfl,rfl,D,Q,E⟩:=DataW.trod_struct w h;refine⟨D,λi o s u B=>?_⟩;simp only[zAv,zU,zCj]at B;obtain⟨f,q,C⟩:=B;simp only[zCD]at C;obtain⟨rfl,rfl,rfl⟩:=C;have R:=(zAg.1 q).1;refine⟨n,A[i]'sa,by rw[<-zAe];exact E i f q,λk L=>hs k ?_⟩;simp only[DataW.weights,w];refine DataW.weights_mem_each (j:=i) (t:=f.type) (d:=(A[i]'sa).1) ?_ ?_ k L
  .rw[zAv,zCj,q];rfl
  .rw[zAv,zAe sa];rfl
 .cases q
end
end Go.Proofs.YtlmhpamhhgogaaaGreat.Sx
namespace Go.Proofs.YtlmhpamhhgogaaaGreat.Sx
def qjC(s:FL):AL:=⟨s,s.Ad.map λc=>⟨0,c.AA.map λ_=>qsB c.Au.toNat⟩,zb⟩
def qrE(n:Z):F (F zn):=(zBf n).map λ_=>[0,0,0,0,0,0]
def EM(l:F BA):F AY:=l.map λn=>⟨n,zb,0,zb⟩
def EK(s:FL)(l:F BA)(t:Z):Wd:=⟨0,0,0,zA5 t 0,[qjC s],EM l,qrE t,[]⟩
def HR(l:F BA)(i:Z)(n:BA):zM:=qxD (bs n)&&decide (qrB (EM (l.take i)) n<0)
def qbI(s:FL)(l:F BA)(t:zn):Prop:=qTA (qRD s)=zc/\(1<=t/\t<=8)/\allI (HR l) l=I
def qSU{l:F BA}{k:Z}{n:BA}(h:l[k]?=O n):EM (l.take (k+1))=EM (l.take k)++[⟨n,zb,0,zb⟩]:=by
 obtain⟨q,u⟩:=zd.1 h;unfold EM;rw[zY q,u,zBo];rfl
def inB(i n:zn):zM:=decide (0<=i)&&decide (i<n)
def BX{i n}:inB i n=I<->0<=i/\i<n:=by simp[inB]
structure Ay(w:Wd)(m:Aj)(v:AL)(gr:Bm)(en:Bz):Prop where
 right:wdB w=I
 Ag:0<=m.Ag/\m.Ag<w.pins.length
 done:m.done=zb
 ver:0<=m.Ac/\w.Ab[m.Ac.toNat]?=O v
 clu:0<=m.Ak/\v.Am[m.Ak.toNat]?=O gr
 An:0<=m.An/\gr.ends[m.An.toNat]? =O en
 other:0<=m.other/\m.other<gr.ends.length
 slot:0<=m.slot/\m.slot<en.next.length
 listen:-1<=m.listen/\m.listen<w.Aa.length
 i:0<=m.i
 k:0<=m.k
def L2(w:Wd)(m:Aj):Prop:=∃v h q,Ay w m v h q
noncomputable def qXB(w:Wd)(m:Aj):zM:=@decide (L2 w m) (zDR _)
def Ar{w}{m:Aj}:qXB w m=I<->L2 w m:=@decide_eq_true_iff _ (zDR _)
def qfD{w}{m:Aj}(h:¬L2 w m):qXB w m=zb:=by rw[zCG];exact λk=>h (Ar.1 k)
noncomputable def Jp(w:Wd)(m:Aj):Wd:=if qXB w m then{w with pins:=w.pins.set m.Ag.toNat 0}else w
noncomputable def Jr(w:Wd)(m:Aj):Ev:=if qXB w m then⟨m.Ag,0,2,2,-1,zb,0,zb,zb,zb,BO⟩else ev0
def q8A(x):InR (zAf.wrap x):=by
 rw[zBB];unfold InR;omega
noncomputable def Du(w:Wd)(m:Aj):Wd:=if qXB w m=I/\m.pc=1 then{w with pins:=w.pins.set m.Ag.toNat (zAf.wrap (m.Al+1))}else w
noncomputable def Dg(w:Wd)(m:Aj):Aj:=if qXB w m=I then(if m.pc=0 then{m with Al:=w.Al,pc:=1}else if m.pc=1 then{m with pc:=2}else if m.pc=2 then{m with pc:=if w.Al=m.Al then 3 else 1,Al:=w.Al}else m)else m
noncomputable def Dk(w:Wd)(m:Aj):Ev:=if qXB w m=I then(if m.pc=1 then⟨m.Ag,0,2,2,-1,zb,zAf.wrap (m.Al+1),zb,zb,zb,BO⟩else if m.pc=0\/m.pc=2 then⟨m.Ag,0,1,1,-1,zb,w.Al,zb,zb,zb,BO⟩else ev0)else ev0
def qAS{n}(h:1<=n/\n<=4):Bv (qsB n)=I:=by
 obtain⟨q,u⟩:=h
 match n,q,u with
 |1,_,_=>decide
 |2,_,_=>decide
 |3,_,_=>decide
 |4,_,_=>decide
def qhN(n):(qsB n).next.length=n:=by simp[qsB]
def qKK{s}(h:qTA (qRD s)=zc):qNB (qjC s)=I:=by
 have w:=Bh.1 h;unfold qNB;simp only[zj,zx];refine⟨⟨qnU h,by simp[qjC]⟩,?_⟩;rw[AK];intro i x q;simp only[qjC,zAv,zU]at q;obtain⟨c,u,rfl⟩:=q;have hm:c∈(qRD s).Ad:=zl u;obtain⟨_,_,A,_⟩:=w.cl c hm;unfold qwF;rw[show(qjC s).AO.Ad[i]?=O c from u];simp only[zj,zx,zAA,zAh,zAb,zBL];rintro e ⟨_,_,rfl⟩;unfold q9J;rw[qAS sa,qhN];simp;omega
def qtO{s}{l}{t}(h:1<=t/\t<=8):q6A (EK s l t)=I:=by
 unfold q6A qgD;simp only[EK,qrE,zDd,zAA,zDy,zj,zx,zAh,zAb,List.mem_replicate];refine⟨⟨⟨⟨⟨⟨⟨h.1,h.2⟩,trivial⟩,⟨⟨?_,h.1⟩,h.2⟩⟩,rfl⟩,rfl⟩,.inl trivial⟩,?_⟩
 .rintro r ⟨_,_,rfl⟩;rfl
 .rintro p ⟨_,rfl⟩;exact⟨by first|rfl|exact zAI 0,by first|rfl|exact(by decide:(0:zn)<=0+1)⟩
def qsO{l}(h:allI (HR l) l=I):allI (qoB (EM l)) (EM l)=I:=by
 rw[AK]at h⊢;intro i x w;simp only[EM,zAv,zU]at w;obtain⟨n,A,rfl⟩:=w;have q:=h i n A;simp only[HR,zj,zx]at q;obtain⟨q,u⟩:=q;unfold qoB q4I;simp only[zj,zx,q];refine⟨⟨⟨trivial,sa⟩,sd⟩,?_⟩
 have D:BN (λ(x:AY)=>bs x.name==bs n) (EM (l.take i))=zc:=by
  unfold qrB at u;cases E:BN (λ(x:AY)=>bs x.name==bs n) (EM (l.take i))with
  |none=>rfl
  |some j=>rw[E]at u;simp only[CN]at u;omega
 have B:=Ew.1 D;unfold qrB;refine qTG (x:=⟨n,zb,0,zb⟩) (i:=i) ?_ (by simp[EM,A]) sd;intro j H y C;unfold Ey
 have:(bs y.name==bs n)=zb:=by
  rw[zBK]at B
  have hm:y∈EM (l.take i):=by
   simp only[EM,zAv,zU]at C;obtain⟨m,hm,rfl⟩:=C;refine zAb.2 ⟨m,?_,rfl⟩;refine zl (i:=j) ?_;rw[zA7,zk H];exact hm
  simpa using B y hm
 show(if(bs y.name==bs n)=I then O j else zc)=zc;rw[this];rfl
def qyR{s}{l}{t}(h:qbI s l t):wdB (EK s l t.toNat)=I:=by
 obtain⟨u,C,w⟩:=h;unfold wdB;rw[qtO (s:=s) (l:=l) (t:=t.toNat) sa]
 have A:allI (De (EK s l t.toNat)) (EK s l t.toNat).Ab=I:=by
  rw[AK];intro i x q
  have:i=0/\x=qjC s:=by
   simp only[EK]at q
   match i,q with
   |0,q=>simp at q;exact⟨rfl,q.symm⟩
   |i+1,q=>simp at q
  obtain⟨rfl,rfl⟩:=this;unfold De;rw[qKK u];rfl
 have B:allI (qoB (EK s l t.toNat).Aa) (EK s l t.toNat).Aa=I:=qsO w;rw[A,B];simp only[EK,zCE,Bool.and_true,zj,zx];refine⟨⟨⟨rfl,sd⟩,rfl⟩,rfl⟩
def q8H{w w'}(h:wdB w=I)(B:q6A w'=I)(e1:w'.current=w.current)(e2:w'.Ab=w.Ab)(q:w'.Ai=w.Ai)(C:w'.Aa=w.Aa)(Q:w.Al<=w'.Al):wdB w'=I:=by
 unfold wdB at h⊢;simp only[zj,zx]at h⊢;obtain⟨⟨⟨⟨⟨⟨R,D⟩,E⟩,H⟩,u⟩,A⟩,L⟩:=h;rw[e1,e2,q,C];refine⟨⟨⟨⟨⟨⟨B,D⟩,E⟩,H⟩,?_⟩,?_⟩,L⟩
 .rw[zAh]at u⊢;intro r M;have:=u r M;unfold C2 at this⊢;simp only[zj,zx]at this⊢;rw[e1,e2];exact⟨this.1,sa⟩
 .rw[AK]at A⊢;intro i x P;have:=A i x P;unfold De at this⊢;rw[q];exact this
def q4B{w}(h:wdB w=I):q6A w=I:=by
 unfold wdB at h;simp only[zj]at h;exact h.1.1.1.1.1.1
def qLY{w}(h:wdB w=I){i}{x}(A:0<=x/\x<=w.Al+1):wdB {w with pins:=w.pins.set i x}=I:=by
 refine q8H h ?_ rfl rfl rfl rfl (zAI _);have q:=q4B h;unfold q6A at q⊢;simp only[zj,zX,zAh,zx]at q⊢;refine⟨q.1,λp u=>?_⟩;rcases zBc u with u|rfl
 .exact q.2 p u
 .exact A
def qfS{w}(h:wdB w=I)(D:w.Al<1000000000000):wdB {w with Al:=w.Al+1}=I:=by
 refine q8H h ?_ rfl rfl rfl rfl (by show w.Al<=w.Al+1;omega);have q:=q4B h;unfold q6A at q⊢;simp only[zj,zAh,zx]at q⊢;obtain⟨⟨⟨⟨u,E⟩,H⟩,A⟩,B⟩:=q;exact⟨⟨⟨⟨u,sa⟩,sa⟩,A⟩,λp C=>by have:=B p C;omega⟩
end Go.Proofs.YtlmhpamhhgogaaaGreat.Sx
namespace Go.Proofs.YtlmhpamhhgogaaaGreat.Sx
open Go.RowKit
def op0:OpD:=⟨0,⟨#[]⟩,⟨#[]⟩,⟨#[]⟩,0,0,0,⟨[],[],[]⟩⟩
def qhO{w}{m:Aj}(hs:qXB w m=I):(m.pc=0\/m.pc=2->Dk w m=⟨m.Ag,0,1,1,-1,zb,w.Al,zb,zb,zb,BO⟩)/\(m.pc=1->Dk w m=⟨m.Ag,0,2,2,-1,zb,zAf.wrap (m.Al+1),zb,zb,zb,BO⟩)/\(m.pc=3->Dk w m=ev0):=by
 unfold Dk;rw[zk hs];refine⟨λh=>?_,λh=>?_,λh=>?_⟩
 .rw[zh sa,zk h]
 .rw[zk h]
 .rw[zh sa,zh sa]
def qgO{w}{m:Aj}(hs:qXB w m=I):(m.pc≠1->Du w m=w)/\(m.pc=1->Du w m={w with pins:=w.pins.set m.Ag.toNat (zAf.wrap (m.Al+1))}):=by
 unfold Du;exact⟨λh=>by rw[zh λk=>h k.2],λh=>by rw[zk ⟨hs,h⟩]⟩
def qFI{w}{m:Aj}(hs:qXB w m=I):(m.pc=0->Dg w m={m with Al:=w.Al,pc:=1})/\(m.pc=1->Dg w m={m with pc:=2})/\(m.pc=2->Dg w m={m with pc:=if w.Al=m.Al then 3 else 1,Al:=w.Al})/\(m.pc=3->Dg w m=m):=by
 unfold Dg;rw[zk hs];refine⟨λh=>?_,λh=>?_,λh=>?_,λh=>?_⟩
 .rw[zk h]
 .rw[zh sa,zk h]
 .rw[zh sa,zh sa,zk h]
 .rw[zh sa,zh sa,zh sa]
def qJA{g}{cs}{w}(h:rWo g cs w):∃oa ca q u A B C D E H,cs=[.int .i64 w.Al,.int .i64 w.current,.int .i64 w.AH,.slice oa w.pins.length ca,.slice q w.Ab.length u,.slice A w.Aa.length B,.slice C w.counts.length D,.slice E w.Ai.length H]:=by
 obtain⟨a,b,c,d,e,rfl,_,⟨oa,ca,rfl,_⟩,⟨q,u,rfl,_⟩,⟨A,B,rfl,_⟩,⟨C,D,rfl,_⟩,⟨E,H,rfl,_⟩⟩:=h;exact⟨oa,ca,q,u,A,B,C,D,E,H,rfl⟩
def qwB{g}{cs}{m:Aj}(h:qeA g cs m):∃q t1 u t2 w A,cs=m.cs (.slice q m.op.Ap.Aa.length t1) (.slice u m.op.Ap.As.length t2) (.slice w m.op.Ap.Ad.length A):=by
 obtain⟨C,D,E,rfl,_,_,⟨_,_,_,B,⟨q,t1,rfl,_⟩,⟨u,t2,rfl,_⟩,⟨w,A,rfl,_⟩⟩⟩:=h;cases B;exact⟨q,t1,u,t2,w,A,rfl⟩
def qUT{g}{e0 e1 e2 a b c d e}{w}(h:rWo g [e0,e1,e2,a,b,c,d,e] w){x}(u:InR x):rWo g [.int .i64 x,e1,e2,a,b,c,d,e] {w with Al:=x}:=by
 obtain⟨_,_,_,_,_,q,⟨_,A,B⟩,C⟩:=h;simp only[zAJ,zA6]at q;obtain⟨rfl,rfl,rfl,rfl,rfl,rfl,rfl,rfl⟩:=q;exact⟨_,_,_,_,_,rfl,⟨u,A,B⟩,C⟩
def qEG:c60.ok:=⟨sb,sb,sb,sb,sb,sb⟩
def qHH:BO.ok:=⟨sb,sb,sb,sb,sb,sb,sb,qEG⟩
def q1E(g):qHB g [.slice zc 0 0,.slice zc 0 0,.slice zc 0 0] ⟨[],[],[]⟩:=
 ⟨_,_,_,rfl,⟨zc,0,rfl,zG _,zF _,λ_=>⟨rfl,rfl⟩,λi x h=>by simp at h⟩,⟨zc,0,rfl,zG _,zF _,λ_=>⟨rfl,rfl⟩,λi x h=>by simp at h⟩,⟨zc,0,rfl,zG _,zF _,λ_=>⟨rfl,rfl⟩,λi x h=>by simp at h⟩⟩
def z0:InR 0:=sb
def z1:InR 1:=sb
def zu:InU 0:=sb
end Go.Proofs.YtlmhpamhhgogaaaGreat.Sx
namespace Go.Proofs.YtlmhpamhhgogaaaGreat.Sx
abbrev qYa(m m':Aj):Prop:=m'.Ag=m.Ag/\m'.done=m.done/\m'.Ac=m.Ac/\m'.Ak=m.Ak/\m'.An=m.An/\m'.other=m.other/\m'.slot=m.slot/\m'.listen=m.listen
def Ay.move{w w'}{m m':Aj}{v v'}{gr}{en}(h:Ay w m v gr en)(q:wdB w'=I)(u:w'.Ab[m.Ac.toNat]?=O v')(A:0<=m'.i)(B:0<=m'.k)(k:qYa m m':=by exact⟨rfl,rfl,rfl,rfl,rfl,rfl,rfl,rfl⟩)(C:v'.Am=v.Am:=by exact rfl)(hp:w'.pins.length=w.pins.length:=by first|rfl|simp)(hl:w'.Aa.length=w.Aa.length:=by first|rfl|simp):Ay w' m' v' gr en:=by
 obtain⟨D,E,H,L,M,k6,P,Q⟩:=k;exact⟨q,by rw[D,hp];exact h.Ag,by rw[E];exact h.done,by rw[H];exact⟨h.ver.1,u⟩,by rw[L,C];exact h.clu,by rw[M];exact h.An,by rw[k6];exact h.other,by rw[P];exact h.slot,by rw[Q,hl];exact h.listen,A,B⟩
def qxF{w}(h:wdB w=I):0<=w.Al/\w.Al<=1000000000000:=by
 have q:=q4B h;unfold q6A at q;simp only[zj,zx]at q;obtain⟨⟨⟨⟨u,A⟩,B⟩,C⟩,D⟩:=q;omega
def wrE{x}(h:0<=x/\x<=1000000000000):zAf.wrap (x+1)=x+1:=wr sg
def AD{h:Type}(f:h->zn)(l:F h):zn:=(l.map f).sum
def qTJ{q:Type}(f:q->zn){l:F q}{k:Z}{x:q}(h:l[k]?=O x):AD f (l.take (k+1))=AD f (l.take k)+f x:=by
 obtain⟨u,w⟩:=zd.1 h;unfold AD;rw[zY u,w,zBo,List.sum_append];simp
def qoL{h:Type}{f:h->zn}{c}:∀{l:F h},(∀x∈l,0<=f x/\f x<=c)->0<=AD f l/\AD f l<=c*l.length
 |[],_=>by simp[AD]
 |x::r,q=>by
  have B:=q x (zAm ..);have C:=qoL (l:=r) λy u=>q y (zAl _ u);have w:AD f (x::r)=f x+AD f r:=by simp[AD]
  have A:c*((x::r).length:zn)=c*r.length+c:=by
   simp only[zBb,zCp,zDh,Int.mul_add,Int.mul_one]
  rw[w,A];omega
def qJG{q:Type}(f:q->zn):∀{l:F q}{i:Z}{x y:q},l[i]?=O x->AD f (l.set i y)=AD f l-f x+f y
 |a::r,0,x,y,h=>by
  simp at h;subst h;simp[AD];omega
 |a::r,i+1,x,y,h=>by
  have:=qJG f (l:=r) (i:=i) (x:=x) (y:=y) (by simpa using h);unfold AD at this⊢;simp only[zB3,zBP,zDz,this];omega
 |[],i,x,y,h=>by simp at h
def qAD(e:Bz):zn:=if Bv e then e.next.length-(((qMC e).getD []).length:Z)else 0
def q7G(x:Bm):zn:=AD qAD x.ends
def qiG(v:AL):zn:=AD q7G v.Am
def qqZ(w:Wd):zn:=AD qiG w.Ab
def qIM(e):0<=qAD e/\qAD e<=4:=by
 unfold qAD;split
 .rename_i h;unfold Bv at h;simp only[zj,zx]at h;obtain⟨⟨⟨q,w⟩,A⟩,B⟩:=h;cases u:qMC e with
  |none=>rw[u]at q;cases q
  |some l=>
   have:=qIJ u;simp only[zAM];omega
 .omega
def qrQ{K}{x}(h:BgG K x):0<=q7G x/\q7G x<=4*K:=by
 have:=qoL (f:=qAD) (c:=4) (l:=x.ends) λe _=>qIM e;unfold BgG at h;unfold q7G;omega
def qVZ{a b c d:zn}(u:0<=a)(h2:a<=b)(h:0<=c)(q:c<=d):a*c<=b*d:=Int.mul_le_mul h2 q h sa
def q8W{K}{x}(h:BgV K x):0<=qiG x/\qiG x<=4*K*K:=by
 have:=qoL (f:=q7G) (c:=4*K) (l:=x.Am) λy q=>qrQ (h.2 y q);obtain⟨u,w⟩:=this;refine⟨u,zDI w ?_⟩;exact qVZ sa (zAI _) sa (by have:=h.1;omega)
def qYF{q:Type}{f:q->zn}{c:zn}{l:F q}(h:∀x∈l,0<=f x/\f x<=c)(k:Z):0<=AD f (l.take k)/\AD f (l.take k)<=c*(l.take k).length:=qoL λx u=>h x (zBD u)
def q3L{g}{e0 e1 e2 a b c d e}{w}(h:rWo g [e0,e1,e2,a,b,c,d,e] w){x}(u:InR x):rWo g [e0,e1,.int .i64 x,a,b,c,d,e] {w with AH:=x}:=by
 obtain⟨_,_,_,_,_,q,⟨A,B,_⟩,C⟩:=h;simp only[zAJ,zA6]at q;obtain⟨rfl,rfl,rfl,rfl,rfl,rfl,rfl,rfl⟩:=q;exact⟨_,_,_,_,_,rfl,⟨A,B,u⟩,C⟩
def GN(e:Bz):Bz:={e with head:=qHD e.head (CM e.next (By e.head))}
def qHb{e}(h:Bv e=I){x}{r}(q:qMC e=O (x::r)):Bv (GN e)=I/\qAD (GN e)=qAD e+1/\By e.head=x/\(0<=x/\x<e.next.length)/\(-1<=CM e.next x/\CM e.next x<=2147483646)/\InU (GN e).head:=by
 have C:=h;unfold Bv at h;simp only[zj,zx]at h;obtain⟨⟨⟨_,D⟩,E⟩,H⟩:=h;rcases q6J q with⟨h,_⟩|⟨Q,R,L,u,M,_⟩
 .cases h
 .cases L;have T:=qaU q;have w:-1<=CM e.next x/\CM e.next x<=2147483646:=sa
  have A:qMC (GN e)=O r:=by
   unfold GN;rw[u];exact quQ q (q2J w) e.Ah
  have B:Bv (GN e)=I:=by
   unfold Bv;rw[A];simp only[zj,zx,zCh,zBL];exact⟨⟨D,E⟩,H⟩
  refine⟨B,?_,u,M,w,by unfold GN;rw[u];exact qrO w⟩;have P:=qIJ q;unfold qAD;rw[B,C,A,q];simp only[zBp,zAM,zBb]at P⊢;show((e.next.length:Z):zn)-_=_;omega
def qMY{w}(h:wdB w=I){i j k}{v}{x}{en en'}(E:w.Ab[i]?=O v)(H:v.Am[j]?=O x)(M:x.ends[k]?=O en)(P:Bv en'=I)(h2:en'.next.length=en.next.length):wdB {w with Ab:=w.Ab.set i {v with Am:=v.Am.set j {x with ends:=x.ends.set k en'}}}=I:=by
 unfold wdB at h⊢;simp only[zj,zx]at h⊢;obtain⟨⟨⟨⟨⟨⟨Q,R⟩,T⟩,U⟩,L⟩,B⟩,V⟩:=h;refine⟨⟨⟨⟨⟨⟨Q,R⟩,by rw[zX];exact T⟩,U⟩,?_⟩,?_⟩,V⟩
 .rw[zAh]at L⊢;intro r W;have:=L r W;unfold C2 at this⊢;simpa only[zX]using this
 .rw[AK]at B⊢;intro p y q;rw[zAF]at q;split at q
  .rename_i Y;subst Y;have aa:=(zd.1 E).1;rw[zk aa]at q;cases q;have C:=B i v E;unfold De qNB at C⊢;simp only[zj,zx,zX]at C⊢;obtain⟨⟨⟨b1,ab⟩,D⟩,ac⟩:=C;refine⟨⟨⟨b1,ab⟩,?_⟩,ac⟩;rw[AK]at D⊢;intro ad z A;rw[zAF]at A;split at A
   .rename_i ae;subst ae;have af:=(zd.1 H).1;rw[zk af]at A;cases A;have u:=D j x H;unfold qwF at u⊢;split at u
    .rename_i c ag;simp only[zj,zx,zAh,zX]at u⊢;refine⟨u.1,λy q=>?_⟩;rcases zBc q with q|rfl
     .exact u.2 y q
     .have:=u.2 en (zl M);unfold q9J at this⊢;simp only[zj,zx]at this⊢;exact⟨P,by rw[h2];exact this.2⟩
    .cases u
   .exact D ad z A
  .exact B p y q
def q7C{h:Type}{f:h->zn}:∀{l:F h},(∀x∈l,f x=0)->AD f l=0
 |[],_=>rfl
 |x::r,q=>by
  have w:=q x (zAm ..);have u:=q7C (f:=f) (l:=r) λy A=>q y (zAl _ A);unfold AD at u⊢;simp only[zBP,zDz,w,u];rfl
def vZ:AL:=⟨⟨[],[],[]⟩,[],zb⟩
abbrev GQ(w:Wd)(m:Aj):Prop:=qXB w m=I/\m.pc=0
def drI(w:Wd)(m:Aj):zn:=qrB w.Aa m.op.listen
def drL(x:AY):AY:={x with drain:=I}
def EQ(k l:zn):Ans:=⟨k,0,0,0,0,l,0,c60⟩
noncomputable def drW(w:Wd)(m:Aj):Wd:=if GQ w m then(match w.Aa[(drI w m).toNat]? with|some x=>if 0<=drI w m then{w with Aa:=w.Aa.set (drI w m).toNat (drL x)}else w|none=>w)else w
noncomputable def drM(w:Wd)(m:Aj):Aj:=if GQ w m then(if drI w m<0 then{m with done:=I,answer:=EQ 7 0}else{m with listen:=drI w m,done:=I,answer:=EQ 10 (drI w m)})else m
noncomputable def drE(w:Wd)(m:Aj):Ev:=if GQ w m then(if drI w m<0 then⟨m.Ag,0,1,0,-1,zb,0,zb,zb,I,EQ 7 0⟩else⟨m.Ag,0,2,4,-1,zb,1,zb,I,I,EQ 10 (drI w m)⟩)else ev0
def qRc{w}{m:Aj}(h:¬GQ w m):drW w m=w/\drM w m=m/\drE w m=ev0:=by
 unfold drW drM drE;rw[zh h,zh h,zh h];exact⟨rfl,rfl,rfl⟩
def qLP{w}{m:Aj}(h:GQ w m)(q:drI w m<0):drW w m=w/\drM w m={m with done:=I,answer:=EQ 7 0}/\drE w m=⟨m.Ag,0,1,0,-1,zb,0,zb,zb,I,EQ 7 0⟩:=by
 unfold drW drM drE;rw[zk h,zk h,zk q,zk h,zk q];refine⟨?_,rfl,rfl⟩;split
 .rw[zh sa]
 .rfl
def qKP{w}{m:Aj}(h:GQ w m){x}(q:0<=drI w m)(u:w.Aa[(drI w m).toNat]?=O x):drW w m={w with Aa:=w.Aa.set (drI w m).toNat (drL x)}/\drM w m={m with listen:=drI w m,done:=I,answer:=EQ 10 (drI w m)}/\drE w m=⟨m.Ag,0,2,4,-1,zb,1,zb,I,I,EQ 10 (drI w m)⟩:=by
 unfold drW drM drE;rw[zk h,zk h,zh sa,zk h,zh sa,u];exact⟨by show(if 0<=drI w m then _ else w)=_;rw[zk q],rfl,rfl⟩
def qCJ{l}{s}(h:0<=qrB l s):∃x,l[(qrB l s).toNat]?=O x/\qrB l s<l.length:=by
 unfold qrB at h⊢;cases q:BN (λ(x:AY)=>bs x.name==bs s) l with
 |none=>rw[q]at h;simp[CN]at h
 |some i=>
  obtain⟨x,u,_⟩:=qeE q;have:=(zd.1 u).1;exact⟨x,by simpa[CN]using u,by simp[CN];exact this⟩
def qKF{k l}(h:InR k/\InR l):(EQ k l).ok:=⟨h.1,z0,z0,z0,z0,h.2,z0,qEG⟩
def qLA(c:Bb):F zn:=((zBf c.AA.length).filter λi=>(c.AA[i]?).getD zb).map λ(i:Z)=>(i:zn)
def qAP{c}{x}(h:x∈qLA c):0<=x/\x<c.AA.length:=by
 unfold qLA at h;simp only[zAb,zAG,zB4]at h;obtain⟨i,⟨q,_⟩,rfl⟩:=h;omega
def qBP(c):(qLA c).length<=c.AA.length:=by
 unfold qLA;rw[zAA];exact zZ (zCI _ _) sd
def qfG(c:Bb)(t:zn):zn:=((qLA c)[(t%(qLA c).length).toNat]?).getD 0
def q3F(c:Bb)(d:zn):zn:=((qLA c)[(d%(qLA c).length).toNat]?).getD 0
def qwS{c}{t}(h:qLA c≠[]):0<=qfG c t/\qfG c t<c.AA.length:=by
 have u:0<(qLA c).length:=zCU.2 h;have w:=zBW t (show((qLA c).length:zn)≠0 by omega);have A:=zBN t (show(0:zn)<(qLA c).length by omega);obtain⟨x,q⟩:=qBA (l:=qLA c) (i:=(t%(qLA c).length).toNat) sa;unfold qfG;rw[q];exact qAP (zl q)
def qiY{d n:zn}(h:0<n):(d.tmod n+n).tmod n=d%n:=by
 have u:=zBW d (show n≠0 by omega);have w:=zBN d h
 have q:d.tmod n=d%n\/d.tmod n=d%n-n:=by
  rw[Int.tmod_eq_emod];split
  .exact .inl sa
  .right;have:(n.natAbs:zn)=n:=sa
   omega
 rcases q with q|q
 .rw[q,zB1 sa,Int.add_emod_right,zCs u w]
 .rw[q,show d%n-n+n=d%n by omega,zB1 u,zCs u w]
def qjK(a x b y:zn):zn:=if y<x then b else a
def enD:Bz:=⟨0,[],0⟩
def mV(w:Wd)(m:Aj):AL:=(w.Ab[m.Ac.toNat]?).getD vZ
def mG(w:Wd)(m:Aj):Bm:=((mV w m).Am[m.Ak.toNat]?).getD ⟨0,[]⟩
def mE(w:Wd)(m:Aj)(k:zn):Bz:=((mG w m).ends[k.toNat]?).getD enD
def mC(w:Wd)(m:Aj):Bb:=((mV w m).AO.Ad[m.Ak.toNat]?).getD ⟨⟨#[]⟩,0,0,[]⟩
def mL(w:Wd)(m:Aj):AY:=(w.Aa[m.listen.toNat]?).getD ⟨⟨#[]⟩,zb,0,zb⟩
def Ay.at_{w}{m:Aj}{v}{gr}{en}(h:Ay w m v gr en):mV w m=v/\mG w m=gr/\mE w m m.An=en:=by
 have q:mV w m=v:=by unfold mV;rw[h.ver.2];rfl
 have u:mG w m=gr:=by unfold mG;rw[q,h.clu.2];rfl
 exact⟨q,u,by unfold mE;rw[u,h.An.2];rfl⟩
abbrev Es(w:Wd)(m:Aj)(h:Bz):Wd:=Gu w m.Ac.toNat m.Ak.toNat (mV w m) {mG w m with ends:=(mG w m).ends.set m.An.toNat h}
abbrev DI(w:Wd)(m:Aj)(x':AY):Wd:={w with Aa:=w.Aa.set m.listen.toNat x'}
def evO(m:Aj)(a c v:zn):Ev:=⟨m.Ag,0,a,c,-1,zb,v,zb,zb,zb,BO⟩
def evV(w:Wd)(m:Aj)(a c v:zn):Ev:=⟨m.Ag,0,a,c,m.Ac,(mV w m).AV,v,zb,zb,zb,BO⟩
def qyO(m:Aj)(k:zn):Aj:={m with answer:=EQ k 0,pc:=20}
abbrev hGo(w:Wd)(m:Aj):Prop:=qXB w m=I/\(0<=m.pc/\m.pc<=23/\¬(12<m.pc/\m.pc<20))/\¬(m.listen<0/\(m.pc=4\/m.pc=5\/m.pc=22))
abbrev wI(x:zn):zn:=zAf.wrap x
abbrev wU(x:zn):zn:=zBO.wrap x
def cnt(w:Wd)(i k:zn):zn:=(((w.counts[i.toNat]?).getD [])[k.toNat]?).getD 0
abbrev CQ(w:Wd)(i k:zn):Wd:={w with counts:=w.counts.set i.toNat (((w.counts[i.toNat]?).getD []).set k.toNat (wU (cnt w i k+1)))}
def qWN(m:Aj):zn:=if 1<=m.answer.kind/\m.answer.kind<=5 then m.answer.kind else 0
def Hv(w:Wd)(m:Aj):zM:=decide ((mE w m m.An).head=m.word)&&qoC m.link
def qFS(s:FL)(l h p:BA):zs zn:=
 if CN (BN (λx=>bs x==bs l) s.Aa)<0 then zc
 else(qdM (EO (CN (BN (λx=>bs x==bs l) s.Aa)) h p) s.AN).map λj=>((s.AN[j]?).map (·.Ak)).getD 0
def qFQ(w:Wd)(m:Aj):Aj:=match qFS (mV w m).AO m.op.listen m.op.Bp m.op.path with
 |none=>qyO m 2
 |some c=>
  if qLA (mC w {m with Ak:=c})=[]then qyO {m with Ak:=c} 3
  else if(mC w {m with Ak:=c}).Bl=1 then{m with Ak:=c,pc:=6}
  else{m with Ak:=c,An:=q3F (mC w {m with Ak:=c}) m.op.d0,other:=q3F (mC w {m with Ak:=c}) m.op.d1,pc:=7}
def hM5(w:Wd)(m:Aj):Aj:=if(mL w m).drain then qyO m 5 else qFQ w m
def hE5(w:Wd)(m:Aj):Ev:=if(mL w m).drain then{evO m 1 4 1 with BL:=I}else evO m 1 4 0
noncomputable def hW(w:Wd)(m:Aj):Wd:=
 if m.pc=4 then DI w m {mL w m with Ah:=wI ((mL w m).Ah+1)}
 else if m.pc=6 then Gu w m.Ac.toNat m.Ak.toNat (mV w m) {mG w m with AQ:=wU ((mG w m).AQ+1)}
 else if m.pc=11 then(if Hv w m then Es w m {mE w m m.An with head:=qHD m.word m.link}else w)
 else if m.pc=12 then Es w m {mE w m m.An with Ah:=wI ((mE w m m.An).Ah+1)}
 else if m.pc=20 then CQ w m.Ag (qWN m)
 else if m.pc=21 then CQ w m.Ag 0
 else if m.pc=22 then DI w m {mL w m with Ah:=wI ((mL w m).Ah-1)}
 else if m.pc=23 then Jp w m
 else w
def hM3(w:Wd)(m:Aj):Aj:=
 if qrB w.Aa m.op.listen<0 then qyO {m with Ac:=w.current,Ak:=0,An:=0,other:=0,slot:=0,listen:=qrB w.Aa m.op.listen} 2
 else{m with Ac:=w.current,Ak:=0,An:=0,other:=0,slot:=0,listen:=qrB w.Aa m.op.listen,pc:=4}
def hE3(w:Wd)(m:Aj):Ev:={evO m 1 3 w.current with BL:=I}
def hM9(w:Wd)(m:Aj):Aj:=
 if 0<=By (mE w m m.An).head/\By (mE w m m.An).head<(mE w m m.An).next.length then{m with word:=(mE w m m.An).head,slot:=By (mE w m m.An).head,pc:=10}
 else qyO {m with word:=(mE w m m.An).head} 4
def hM(w:Wd)(m:Aj):Aj:=
 if m.pc=3 then hM3 w m
 else if m.pc=4 then{m with pc:=5}
 else if m.pc=5 then hM5 w m
 else if m.pc=6 then{m with An:=qfG (mC w m) (mG w m).AQ,pc:=9}
 else if m.pc=7 then{m with i:=(mE w m m.An).Ah,pc:=8}
 else if m.pc=8 then{m with An:=qjK m.An m.i m.other (mE w m m.other).Ah,pc:=9}
 else if m.pc=9 then hM9 w m
 else if m.pc=10 then{m with link:=((mE w m m.An).next[m.slot.toNat]?).getD 0,pc:=11}
 else if m.pc=11 then{m with pc:=if Hv w m then 12 else 9}
 else if m.pc=12 then{m with answer:=⟨1,m.Ac,m.Ak,m.An,m.slot,m.listen,0,c60⟩,pc:=20}
 else if m.pc=20 then{m with pc:=21}
 else if m.pc=21 then{m with pc:=if m.answer.kind=1\/m.listen<0 then 23 else 22}
 else if m.pc=22 then{m with pc:=23}
 else if m.pc=23 then{m with done:=I}
 else m
noncomputable def hE(w:Wd)(m:Aj):Ev:=
 if m.pc=3 then hE3 w m
 else if m.pc=4 then evO m 3 5 (wI ((mL w m).Ah+1))
 else if m.pc=5 then hE5 w m
 else if m.pc=6 then evV w m 3 6 (wI (mG w m).AQ)
 else if m.pc=7 then evV w m 1 7 (mE w m m.An).Ah
 else if m.pc=8 then evV w m 1 7 (mE w m m.other).Ah
 else if m.pc=9 then evV w m 1 8 (By (mE w m m.An).head)
 else if m.pc=10 then evV w m 1 9 (((mE w m m.An).next[m.slot.toNat]?).getD 0)
 else if m.pc=11 then(if Hv w m then evV w m 4 8 m.slot else evV w m 5 8 (By (mE w m m.An).head))
 else if m.pc=12 then evV w m 3 7 (wI ((mE w m m.An).Ah+1))
 else if m.pc=20 then evO m 3 10 (qWN m)
 else if m.pc=21 then evO m 3 10 0
 else if m.pc=22 then evO m 3 5 (wI ((mL w m).Ah-1))
 else if m.pc=23 then{Jr w m with done:=I,answer:=m.answer}
 else ev0
abbrev fGo(w:Wd)(m:Aj):Prop:=qXB w m=I/\((0<=m.pc/\m.pc<=4)\/m.pc=9)/\¬(m.pc=4/\m.listen<0)
def KE(m:Aj):Ans:=if m.pc=4 then⟨6,m.Ac,m.Ak,m.An,m.slot,m.listen,0,c60⟩else EQ 7 0
def fW(w:Wd)(m:Aj):Wd:=
 if m.pc=1 then Es w m {mE w m m.An with next:=(mE w m m.An).next.set m.slot.toNat (By m.word)}
 else if m.pc=2 then(if(mE w m m.An).head=m.word then Es w m {mE w m m.An with head:=qHD m.word m.slot}else w)
 else if m.pc=3 then Es w m {mE w m m.An with Ah:=wI ((mE w m m.An).Ah-1)}
 else if m.pc=4 then DI w m {mL w m with Ah:=wI ((mL w m).Ah-1)}
 else w
def fM(w:Wd)(m:Aj):Aj:=
 if m.pc=0 then{m with word:=(mE w m m.An).head,pc:=1}
 else if m.pc=1 then{m with pc:=2}
 else if m.pc=2 then{m with pc:=if(mE w m m.An).head=m.word then 3 else 0}
 else if m.pc=3 then{m with pc:=4}
 else{m with done:=I,answer:=KE m}
def fE(w:Wd)(m:Aj):Ev:=
 if m.pc=0 then evV w m 1 8 (By (mE w m m.An).head)
 else if m.pc=1 then evV w m 2 9 (By m.word)
 else if m.pc=2 then(if(mE w m m.An).head=m.word then{evV w m 4 8 m.slot with BL:=I}else evV w m 5 8 (By (mE w m m.An).head))
 else if m.pc=3 then evV w m 3 7 (wI ((mE w m m.An).Ah-1))
 else if m.pc=4 then{evO m 3 5 (wI ((mL w m).Ah-1))with done:=I,answer:=KE m}
 else{evO m 1 0 0 with done:=I,answer:=KE m}
def q0Q{s}(B:qTA (qRD s)=zc){l h p}{c}(q:qFS s l h p=O c):0<=c/\c<s.Ad.length:=by
 unfold qFS at q;split at q
 .cases q
 obtain⟨j,C,rfl⟩:=zU.1 q;obtain⟨r,u,_⟩:=F8.1 C;rw[u];show 0<=r.Ak/\r.Ak<s.Ad.length;have G:=Bh.1 B;obtain⟨_,_,_,A⟩:=G.rt (q1B s r) (zAb.2 ⟨r,zl u,rfl⟩);apply zA3;intro D
 have:(q1B s r).Ak=⟨#[]⟩:=by
  show qCD s.Ad r.Ak=_;unfold qCD;rw[zh D]
 rw[this]at A;obtain⟨x,E,H⟩:=zBY.1 A;exact qUZ (G.cl x E).1 (qHR (by simpa using H))
noncomputable def hsW(w:Wd)(m:Aj):Wd:=if hGo w m then(if m.pc<3 then Du w m else hW w m)else w
noncomputable def hsM(w:Wd)(m:Aj):Aj:=if hGo w m then(if m.pc<3 then Dg w m else hM w m)else m
noncomputable def hsE(w:Wd)(m:Aj):Ev:=if hGo w m then(if m.pc<3 then Dk w m else hE w m)else ev0
def qIc{w}{m:Aj}(h:¬hGo w m):hsW w m=w/\hsM w m=m/\hsE w m=ev0:=by
 unfold hsW hsM hsE;rw[zh h,zh h,zh h];exact⟨rfl,rfl,rfl⟩
def qVF{w}{m:Aj}(h:hGo w m)(q:¬m.pc<3):hsW w m=hW w m/\hsM w m=hM w m/\hsE w m=hE w m:=by
 unfold hsW hsM hsE;rw[zk h,zk h,zk h,zh q,zh q,zh q];exact⟨rfl,rfl,rfl⟩
def qXU{w}{m:Aj}(h:0<=m.pc/\m.pc<3):hsW w m=Du w m/\hsM w m=Dg w m/\hsE w m=Dk w m:=by
 by_cases hs:qXB w m=I
 .have q:hGo w m:=⟨hs,sa,sa⟩;unfold hsW hsM hsE;rw[zk q,zk q,zk q,zk h.2,zk h.2,zk h.2];exact⟨rfl,rfl,rfl⟩
 .obtain⟨a,b,c⟩:=qIc (w:=w) (m:=m) (λk=>hs k.1);have hs:qXB w m=zb:=by simpa using hs
  rw[a,b,c];unfold Du Dg Dk;rw[hs];exact⟨rfl,rfl,rfl⟩
def q1W{a x b y}(h:InR a)(h2:InR b):InR (qjK a x b y):=by unfold qjK;split<;>assumption
def qlS(x):InU (wU x):=by show InU (zBO.wrap x);rw[IntKind.wrap_u64];unfold InU;omega
section
variable{w:Wd}{m:Aj}
def ha3(h:m.pc=3):hW w m=w/\hM w m=hM3 w m/\hE w m=hE3 w m:=by simp[hW,hM,hE,h]
def ha4(h:m.pc=4):hW w m=DI w m {mL w m with Ah:=wI ((mL w m).Ah+1)}/\hM w m={m with pc:=5}/\hE w m=evO m 3 5 (wI ((mL w m).Ah+1)):=by simp[hW,hM,hE,h]
def ha5(h:m.pc=5):hW w m=w/\hM w m=hM5 w m/\hE w m=hE5 w m:=by simp[hW,hM,hE,h]
def ha6(h:m.pc=6):hW w m=Gu w m.Ac.toNat m.Ak.toNat (mV w m) {mG w m with AQ:=wU ((mG w m).AQ+1)}/\hM w m={m with An:=qfG (mC w m) (mG w m).AQ,pc:=9}/\hE w m=evV w m 3 6 (wI (mG w m).AQ):=by simp[hW,hM,hE,h]
def ha7(h:m.pc=7):hW w m=w/\hM w m={m with i:=(mE w m m.An).Ah,pc:=8}/\hE w m=evV w m 1 7 (mE w m m.An).Ah:=by simp[hW,hM,hE,h]
def ha8(h:m.pc=8):hW w m=w/\hM w m={m with An:=qjK m.An m.i m.other (mE w m m.other).Ah,pc:=9}/\hE w m=evV w m 1 7 (mE w m m.other).Ah:=by simp[hW,hM,hE,h]
def ha9(h:m.pc=9):hW w m=w/\hM w m=hM9 w m/\hE w m=evV w m 1 8 (By (mE w m m.An).head):=by simp[hW,hM,hE,h]
def LO(h:m.pc=10):hW w m=w/\hM w m={m with link:=((mE w m m.An).next[m.slot.toNat]?).getD 0,pc:=11}/\hE w m=evV w m 1 9 (((mE w m m.An).next[m.slot.toNat]?).getD 0):=by simp[hW,hM,hE,h]
def LN(h:m.pc=11):hW w m=(if Hv w m then Es w m {mE w m m.An with head:=qHD m.word m.link}else w)/\hM w m={m with pc:=if Hv w m then 12 else 9}/\hE w m=(if Hv w m then evV w m 4 8 m.slot else evV w m 5 8 (By (mE w m m.An).head)):=by simp[hW,hM,hE,h]
def LM(h:m.pc=12):hW w m=Es w m {mE w m m.An with Ah:=wI ((mE w m m.An).Ah+1)}/\hM w m={m with answer:=⟨1,m.Ac,m.Ak,m.An,m.slot,m.listen,0,c60⟩,pc:=20}/\hE w m=evV w m 3 7 (wI ((mE w m m.An).Ah+1)):=by simp[hW,hM,hE,h]
def LL(h:m.pc=20):hW w m=CQ w m.Ag (qWN m)/\hM w m={m with pc:=21}/\hE w m=evO m 3 10 (qWN m):=by simp[hW,hM,hE,h]
def LK(h:m.pc=21):hW w m=CQ w m.Ag 0/\hM w m={m with pc:=if m.answer.kind=1\/m.listen<0 then 23 else 22}/\hE w m=evO m 3 10 0:=by simp[hW,hM,hE,h]
def LJ(h:m.pc=22):hW w m=DI w m {mL w m with Ah:=wI ((mL w m).Ah-1)}/\hM w m={m with pc:=23}/\hE w m=evO m 3 5 (wI ((mL w m).Ah-1)):=by simp[hW,hM,hE,h]
def LI(h:m.pc=23):hW w m=Jp w m/\hM w m={m with done:=I}/\hE w m={Jr w m with done:=I,answer:=m.answer}:=by simp[hW,hM,hE,h]
end
def qNL{q u w:Type}(h:q->u)(f:Z->u->zs w):∀(l:F q)(k:Z),qiB f k (l.map h)=qiB (λi x=>f i (h x)) k l
 |[],_=>rfl
 |x::r,k=>by
  simp only[zBP,qiB,qNL h f r (k+1)]
def q8M{l q}(h:q.map (·.name)=l.map (·.name))(s):qrB q s=qrB l s:=by
 have e:∀l:F AY,BN (λ(x:AY)=>bs x.name==bs s) l=BN (λn=>bs n==bs s) (l.map (·.name)):=λl=>by
  unfold BN;rw[qNL]
 unfold qrB;rw[e,e,h]
def qJU{l:F AY}{i:Z}{x x':AY}(h:l[i]?=O x)(q:x'.name=x.name):(l.set i x').map (·.name)=l.map (·.name):=by
 rw[zDL];apply zBT;intro j;rw[zAF];split
 .rename_i u;subst u;have:=(zd.1 h).1;rw[zk (by simpa using this),zAv,h,q];rfl
 .rfl
def q7H{w}(h:wdB w=I){i}{x x'}(u:w.Aa[i]?=O x)(B:x'.name=x.name)(C:q4I x'=I):wdB {w with Aa:=w.Aa.set i x'}=I:=by
 unfold wdB at h⊢;simp only[zj,zx]at h⊢;obtain⟨⟨⟨⟨⟨⟨D,E⟩,H⟩,L⟩,M⟩,P⟩,A⟩:=h;refine⟨⟨⟨⟨⟨⟨D,E⟩,H⟩,L⟩,M⟩,P⟩,?_⟩;rw[AK]at A⊢;intro j y q;unfold qoB;rw[q8M (qJU u B)];rw[zAF]at q;split at q
 .rename_i Q;subst Q;have R:=(zd.1 u).1;rw[zk R]at q;cases q;have:=A i x u;unfold qoB at this;simp only[zj]at this⊢;exact⟨C,by rw[B];exact this.2⟩
 .exact A j y q
def qEX{w}(h:wdB w=I){i:Z}{x}(q:w.Aa[i]?=O x):q4I (drL x)=I:=by
 unfold wdB at h;simp only[zj]at h;have:=AK.1 h.2 i x q;unfold qoB q4I at this;unfold q4I drL;simp only[zj,Bool.true_or]at this⊢;exact⟨this.1.1,trivial⟩
abbrev qeI(w:Wd)(m:Aj):Prop:=qXB w m=I/\m.pc=0/\m.k<=5/\m.i<w.counts.length
def qCa(w:Wd)(m:Aj):zn:=(((w.counts[m.i.toNat]?).getD [])[m.k.toNat]?).getD 0
def qWJ(w:Wd)(m:Aj):C6:=m.counts.set (zBO.wrap (m.counts.get m.k.toNat+qCa w m)) m.k.toNat
def qSE(m:Aj):zn:=if m.k=5 then m.i+1 else m.i
def qPH(m:Aj):zn:=if m.k=5 then 0 else m.k+1
def qBT(c:C6):Ans:=⟨13,0,0,0,0,0,0,c⟩
noncomputable def qgK(w:Wd)(m:Aj):Aj:=
 if qeI w m then(if qSE m=w.counts.length then{m with counts:=qWJ w m,i:=qSE m,k:=qPH m,done:=I,answer:=qBT (qWJ w m)}else{m with counts:=qWJ w m,i:=qSE m,k:=qPH m})else m
noncomputable def qrL(w:Wd)(m:Aj):Ev:=
 if qeI w m then(if qSE m=w.counts.length then⟨m.Ag,0,1,10,-1,zb,m.k,zb,zb,I,qBT (qWJ w m)⟩else⟨m.Ag,0,1,10,-1,zb,m.k,zb,zb,zb,BO⟩)else ev0
def qqL{w}{m:Aj}(h:¬qeI w m):qgK w m=m/\qrL w m=ev0:=by
 unfold qgK qrL;rw[zh h,zh h];exact⟨rfl,rfl⟩
def qOH{w}{m:Aj}(h:qeI w m)(q:qSE m=w.counts.length):qgK w m={m with counts:=qWJ w m,i:=qSE m,k:=qPH m,done:=I,answer:=qBT (qWJ w m)}/\qrL w m=⟨m.Ag,0,1,10,-1,zb,m.k,zb,zb,I,qBT (qWJ w m)⟩:=by
 unfold qgK qrL;rw[zk h,zk q,zk h,zk q];exact⟨rfl,rfl⟩
def qNH{w}{m:Aj}(h:qeI w m)(q:qSE m≠w.counts.length):qgK w m={m with counts:=qWJ w m,i:=qSE m,k:=qPH m}/\qrL w m=⟨m.Ag,0,1,10,-1,zb,m.k,zb,zb,zb,BO⟩:=by
 unfold qgK qrL;rw[zk h,zh q,zk h,zh q];exact⟨rfl,rfl⟩
def qzV{w}(h:wdB w=I){i}(B:i<w.counts.length):∃row,w.counts[i]?=O row/\row.length=6/\w.counts.length<=8:=by
 obtain⟨row,u⟩:=qBA B;refine⟨row,u,?_⟩;have q:=q4B h;unfold q6A qgD at q;simp only[zj,zAh,zx]at q;obtain⟨⟨⟨⟨⟨_,A⟩,_⟩,_⟩,_⟩,_⟩:=q;exact⟨A.1.1 row (zl u),A.2⟩
def qiV(x):InU (zBO.wrap x):=by
 rw[IntKind.wrap_u64];unfold InU;omega
def C6.Lu{c:C6}(h:c.ok){x}(q:InU x)(n):(c.set x n).ok:=by
 unfold C6.set;split<;>exact⟨by first|exact q|exact h.k0,by first|exact q|exact h.k1,by first|exact q|exact h.k2,by first|exact q|exact h.k3,by first|exact q|exact h.k4,by first|exact q|exact h.k5⟩
def qKG{w}{m:Aj}(h:m.counts.ok):(qWJ w m).ok:=C6.Lu h (qiV _) _
def q7P{c:C6}(h:c.ok):(qBT c).ok:=⟨(by decide:InR 13),z0,z0,z0,z0,z0,z0,h⟩
def Ok.sub{P}{f}{args}{g0 g}{Q}(k:g0<=g)(h:Ok P f args g0 Q):Ok P f args g λv g'=>∃D,D<=g'/\(∀n,D.g n->g0.g n\/g.w.heap.size<=n)/\Q v D:=
 λu C=>by
  have e:∀q,g0.next u q<=g.next u q:=λq=>⟨zG _,λn A=>⟨⟨A.1,A.2.imp (λB=>(k.2 n B).1) id⟩,rfl⟩⟩
  first
   |exact(h u (Good.of_le k C)).mono λ_ q⟨v,E,H,L⟩=>⟨v,E,H,g0.next u q,e q,λn A=>A.2.imp id λB=>zZ C.1 B,L⟩
   |exact λM hE=>(h u (Good.of_le k C) M hE).mono λ_ q⟨v,E,H,L⟩=>⟨v,E,H,g0.next u q,e q,λn A=>A.2.imp id λB=>zZ C.1 B,L⟩
def q7I{q:Type}:∀{l:F q}{i:Z}{x:q},l[i]?=O x->l.set i x=l
 |a::r,0,x,h=>by simp at h;subst h;rfl
 |a::r,i+1,x,h=>by rw[zB3,q7I (by simpa using h)]
 |[],i,x,h=>by simp at h
end Go.Proofs.YtlmhpamhhgogaaaGreat.Sx
namespace Go.Proofs.YtlmhpamhhgogaaaGreat.Sx
open Go.RowKit


end Go.Proofs.YtlmhpamhhgogaaaGreat.Sx
namespace Go.Proofs.YtlmhpamhhgogaaaGreat.Sx
def qBC{w}(h:wdB w=I):w.counts.length=w.pins.length/\qgD w.counts=I/\1<=w.counts.length/\w.counts.length<=8:=by
 have q:=q4B h;unfold q6A qgD at q;unfold qgD;simp only[zj,zx]at q⊢;obtain⟨⟨⟨⟨⟨⟨⟨B,C⟩,A⟩,u⟩,_⟩,_⟩,_⟩,_⟩:=q;exact⟨A,u,u.1.2,u.2⟩
def q0B{w}(h:wdB w=I):q6A w=I/\(0<=w.current/\w.current<w.Ab.length)/\q7D w.Ai=I/\w.Ai.all (C2 w)=I/\allI (De w) w.Ab=I/\allI (qoB w.Aa) w.Aa=I:=by
 unfold wdB at h;simp only[zj,zx]at h;obtain⟨⟨⟨⟨⟨⟨q,u⟩,A⟩,B⟩,C⟩,D⟩,E⟩:=h;exact⟨q,⟨u,A⟩,B,C,D,E⟩
def qoP{w}(h:q6A w=I/\(0<=w.current/\w.current<w.Ab.length)/\q7D w.Ai=I/\w.Ai.all (C2 w)=I/\allI (De w) w.Ab=I/\allI (qoB w.Aa) w.Aa=I):wdB w=I:=by
 unfold wdB;simp only[zj,zx];obtain⟨q,⟨u,A⟩,B,C,D,E⟩:=h;exact⟨⟨⟨⟨⟨⟨q,u⟩,A⟩,B⟩,C⟩,D⟩,E⟩
structure I7(w:Wd)(i:Z)(v:AL):Prop where
 AJ:qTA (qRD v.AO)=zc
 len:v.Am.length=v.AO.Ad.length
 AV:v.AV=qIE w.Ai i
 grp:∀(j:Z)gr,v.Am[j]?=O gr->∃c,v.AO.Ad[j]?=O c/\gr.ends.length=c.AA.length/\∀e∈gr.ends,Bv e=I/\(e.next.length:zn)=c.Au
def qkB{w}(h:wdB w=I){i}{v}(C:w.Ab[i]?=O v):I7 w i v:=by
 obtain⟨_,_,_,_,A,_⟩:=q0B h;rw[AK]at A;have u:=A i v C;unfold De qNB at u;simp only[zj,zx,beq_iff_eq]at u;obtain⟨⟨⟨u,D⟩,B⟩,E⟩:=u;rw[AK]at B;refine⟨DU.1 u,D,E,λj H L=>?_⟩;have q:=B j H L;unfold qwF at q;split at q
 .rename_i c M;simp only[zj,zx,zAh]at q;refine⟨c,M,q.1,λe P=>?_⟩;have:=q.2 e P;unfold q9J at this;simpa only[zj,zx]using this
 .cases q
def qCC{e}(h:Bv e=I):(∃l,qMC e=O l)/\1<=e.next.length/\e.next.length<=4/\0<=e.Ah:=by
 unfold Bv at h;simp only[zj,zx]at h;obtain⟨⟨⟨q,u⟩,w⟩,A⟩:=h;exact⟨zCv.1 q,u,w,A⟩
def I7.ends{w}{i:Z}{v}(h:I7 w i v){j:Z}{gr}(B:v.Am[j]?=O gr):∃c,v.AO.Ad[j]?=O c/\gr.ends.length=c.AA.length/\1<=gr.ends.length/\gr.ends.length<=4/\(c.Bl=1\/c.Bl=2)/\∀e∈gr.ends,Bv e=I/\1<=e.next.length:=by
 obtain⟨c,q,C,u⟩:=h.grp j gr B;have G:=Bh.1 h.AJ;have hm:c∈(qRD v.AO).Ad:=zl q;obtain⟨_,D,_,E⟩:=G.cl c hm;exact⟨c,q,C,sa,sa,D,λe A=>⟨(u e A).1,(qCC (u e A).1).2.1⟩⟩
def I7.Am{w}{i}{v}(h:I7 w i v):1<=v.Am.length/\v.Am.length<=4:=by
 have G:=Bh.1 h.AJ;have:=G.size.2.2;rw[h.len];exact this
def qJO{w}(h:wdB w=I):∃v,w.Ab[w.current.toNat]?=O v/\v.AV=zb/\0<=w.current/\w.current<w.Ab.length:=by
 obtain⟨_,q,_,A,_,_⟩:=q0B h;obtain⟨v,u⟩:=qBA (l:=w.Ab) (i:=w.current.toNat) sa;refine⟨v,u,?_,q⟩;rw[(qkB h u).AV];unfold qIE;rw[zBK];intro r B;have:=(zAh.1 A) r B;unfold C2 at this;simp only[zj,zx]at this
 have C:(r.Ac==(w.current.toNat:zn))=zb:=by
  rw[zAK q.1];simpa using this.1.2
 rw[C];exact zAi
def qmV{w}(h:wdB w=I){i j}{v}{x}(D:w.Ab[i]?=O v)(E:v.Am[j]?=O x)(t):wdB (Gu w i j v {x with AQ:=t})=I:=by
 obtain⟨P,H,Q,L,A,R⟩:=q0B h;refine qoP ⟨P,⟨H.1,by show w.current<((w.Ab.set i _).length:Z);rw[zX];exact H.2⟩,Q,?_,?_,R⟩
 .rw[zAh]at L⊢;intro r T;have:=L r T;unfold C2 at this⊢;simpa only[zX]using this
 .rw[AK]at A⊢;intro p y q;rw[zAF]at q;split at q
  .rename_i U;subst U;have V:=(zd.1 D).1;rw[zk V]at q;cases q;have B:=A i v D;unfold De qNB at B⊢;simp only[zj,zx,zX]at B⊢;obtain⟨⟨⟨b1,W⟩,C⟩,Y⟩:=B;refine⟨⟨⟨b1,W⟩,?_⟩,Y⟩;rw[AK]at C⊢;intro aa z u;rw[zAF]at u;split at u
   .rename_i ab;subst ab;have ac:=(zd.1 E).1;rw[zk ac]at u;cases u;have M:=C j x E;unfold qwF at M⊢;exact M
   .exact C aa z u
  .exact A p y q
def qSR{w}(h:wdB w=I){i}{row A}(T:w.counts[i]?=O row)(hl:A.length=6):wdB {w with counts:=w.counts.set i A}=I:=by
 refine q8H h ?_ rfl rfl rfl rfl (zAI _);have q:=q4B h;unfold q6A qgD at q⊢;simp only[zj,zX,zAh,zx]at q⊢;obtain⟨⟨⟨⟨⟨⟨⟨B,C⟩,D⟩,⟨⟨E,H⟩,L⟩⟩,M⟩,P⟩,Q⟩,R⟩:=q;refine⟨⟨⟨⟨⟨⟨⟨B,C⟩,D⟩,⟨⟨λr u=>?_,H⟩,L⟩⟩,M⟩,P⟩,Q⟩,R⟩;rcases zBc u with u|rfl
 .exact E r u
 .exact hl
def qhA{q:Type}{l:F q}{i:Z}{x y:q}(h:l[i]?=O x):(l.set i y)[i]?=O y:=by
 have:=(zd.1 h).1;rw[zBu sa]
def Ay.Hm{w}{m:Aj}{v}{gr}{en en'}(h:Ay w m v gr en)(q:wdB (Gu w m.Ac.toNat m.Ak.toNat v {gr with ends:=gr.ends.set m.An.toNat en'})=I)(hl:en'.next.length=en.next.length:=by first|rfl|simp):
  Ay (Gu w m.Ac.toNat m.Ak.toNat v {gr with ends:=gr.ends.set m.An.toNat en'}) m {v with Am:=v.Am.set m.Ak.toNat {gr with ends:=gr.ends.set m.An.toNat en'}} {gr with ends:=gr.ends.set m.An.toNat en'} en':=
 ⟨q,h.Ag,h.done,⟨h.ver.1,qhA h.ver.2⟩,⟨h.clu.1,qhA h.clu.2⟩,⟨h.An.1,qhA h.An.2⟩,⟨h.other.1,by show m.other<(((gr.ends.set _ _).length:Z):zn);rw[zX];exact h.other.2⟩,⟨h.slot.1,by rw[hl];exact h.slot.2⟩,h.listen,h.i,h.k⟩
def Ay.JL{w}{m:Aj}{v}{gr}{en}(h:Ay w m v gr en)(t):Ay (Gu w m.Ac.toNat m.Ak.toNat v {gr with AQ:=t}) m {v with Am:=v.Am.set m.Ak.toNat {gr with AQ:=t}} {gr with AQ:=t} en:=
 ⟨qmV h.right h.ver.2 h.clu.2 t,h.Ag,h.done,⟨h.ver.1,qhA h.ver.2⟩,⟨h.clu.1,qhA h.clu.2⟩,h.An,h.other,h.slot,h.listen,h.i,h.k⟩
def Ay.DI{w:Wd}{m:Aj}{v:AL}{gr:Bm}{en:Bz}(h:Ay w m v gr en){x:AY}(q:wdB (DI w m x)=I):Ay (DI w m x) m v gr en:=
 ⟨q,h.Ag,h.done,h.ver,h.clu,h.An,h.other,h.slot,⟨h.listen.1,by show m.listen<(((w.Aa.set _ _).length:Z):zn);rw[zX];exact h.listen.2⟩,h.i,h.k⟩
def Ay.JV{w}{m:Aj}{v}{gr}{en}(h:Ay w m v gr en){c}(q:wdB {w with counts:=c}=I):Ay {w with counts:=c} m v gr en:=
 ⟨q,h.Ag,h.done,h.ver,h.clu,h.An,h.other,h.slot,h.listen,h.i,h.k⟩
def Ay.Bv{w:Wd}{m:Aj}{v:AL}{gr:Bm}{en:Bz}(h:Ay w m v gr en):Bv en=I:=by
 obtain⟨c,_,_,q⟩:=(qkB h.right h.ver.2).grp _ _ h.clu.2;exact(q en (zl h.An.2)).1
def Ay.cl{w}{m:Aj}{v}{gr}{en}(h:Ay w m v gr en):v.AO.Ad[m.Ak.toNat]?=O (mC w m)/\gr.ends.length=(mC w m).AA.length:=by
 obtain⟨c,q,u,_⟩:=(qkB h.right h.ver.2).grp _ _ h.clu.2;have:mC w m=c:=by unfold mC;rw[h.at_.1,q];rfl
 rw[this];exact⟨q,u⟩
def Ay.row{w}{m:Aj}{v}{gr}{en}(h:Ay w m v gr en):∃row,w.counts[m.Ag.toNat]?=O row/\row.length=6:=by
 obtain⟨A,q,B,C⟩:=qBC h.right;obtain⟨row,u⟩:=qBA (l:=w.counts) (i:=m.Ag.toNat) (by have:=h.Ag;omega);unfold qgD at q;simp only[zj,zAh,zx]at q;exact⟨row,u,q.1.1 row (zl u)⟩
def Ay.lis{w}{m:Aj}{v}{gr}{en}(h:Ay w m v gr en)(hl:0<=m.listen):w.Aa[m.listen.toNat]?=O (mL w m)/\q4I (mL w m)=I:=by
 obtain⟨x,q⟩:=qBA (l:=w.Aa) (i:=m.listen.toNat) (by have:=h.listen;omega);have e:mL w m=x:=by unfold mL;rw[q];rfl
 rw[e];obtain⟨_,_,_,_,_,u⟩:=q0B h.right;rw[AK]at u;have:=u _ _ q;unfold qoB at this;simp only[zj]at this;exact⟨q,this.1⟩
def Ay.idx{w:Wd}{m:Aj}{v:AL}{gr:Bm}{en:Bz}(h:Ay w m v gr en):(0<=m.Ac/\m.Ac<w.Ab.length)/\(0<=m.Ak/\m.Ak<v.Am.length)/\0<=m.An/\m.An<gr.ends.length:=
 ⟨⟨h.ver.1,by have:=(zd.1 h.ver.2).1;omega⟩,⟨h.clu.1,by have:=(zd.1 h.clu.2).1;omega⟩,h.An.1,by have:=(zd.1 h.An.2).1;omega⟩
def Ay.AZ{w}{m:Aj}{v}{gr}{en}(h:Ay w m v gr en):qXB w m=I:=Ar.2 ⟨v,gr,en,h⟩
def Ay.mE{w:Wd}{m:Aj}{v:AL}{gr:Bm}{en:Bz}(h:Ay w m v gr en):mE w m m.An=en:=h.at_.2.2
def Ay.Br{w}{m m':Aj}{v}{gr}{en}(h:Ay w m v gr en)(q:0<=m.i->0<=m'.i:=by exact id)(u:m'.k=m.k:=by exact rfl)(k:qYa m m':=by exact⟨rfl,rfl,rfl,rfl,rfl,rfl,rfl,rfl⟩):Ay w m' v gr en:=
 h.move h.right h.ver.2 (q h.i) (by rw[u];exact h.k) k
section
variable{k n:zn}{w:Wd}{m:Aj}
end
def qpR(l)(s):-1<=qrB l s/\qrB l s<l.length:=by
 rcases zDK (qrB l s) 0 with h|h
 .refine⟨?_,sa⟩;unfold qrB at h⊢;cases q:BN (λ(x:AY)=>bs x.name==bs s) l with
  |none=>rw[q]at h;exact(by decide:(-1:zn)<= -1)
  |some j=>rw[q]at h;simp only[CN]at h;omega
 .obtain⟨_,_,u⟩:=qCJ h;omega
section
variable{n:zn}{w:Wd}{m:Aj}
def Hu{x}:q4I x=I<->qxD (bs x.name)=I/\0<=x.Ah/\(x.drain||!x.closed)=I:=by
 unfold q4I;simp only[zj,zx,and_assoc]
def M7{v}(q:mV w m=v){c}{h}(hc:v.AO.Ad[c.toNat]?=O h):mC w {m with Ak:=c}=h:=by
 unfold mC;rw[show mV w {m with Ak:=c}=v from q];show(v.AO.Ad[c.toNat]?).getD _=_;rw[hc];rfl
def qkM{c}(t)(h:1<=c.AA.length):0<=qfG c t/\qfG c t<c.AA.length:=by
 by_cases q:qLA c=[]
 .have:qfG c t=0:=by simp[qfG,q]
  omega
 .exact qwS q
def qUU{a x b y k}(h:0<=a/\a<k)(h2:0<=b/\b<k):0<=qjK a x b y/\qjK a x b y<k:=by unfold qjK;split<;>assumption
def qGO{en}(h:Bv en=I){a}(ha:0<=a):Bv {en with Ah:=a}=I/\qAD {en with Ah:=a}=qAD en:=by
 obtain⟨⟨l,u⟩,A,B,_⟩:=qCC h;have q:qMC {en with Ah:=a}=qMC en:=rfl
 have:Bv {en with Ah:=a}=I:=by
  unfold Bv;rw[q,u];simp only[zj,zx,zCh,zBL];exact⟨⟨A,B⟩,ha⟩
 refine⟨this,?_⟩;unfold qAD;rw[this,h,q]
def Ay.CQ{v:AL}{gr:Bm}{en:Bz}(h:Ay w m v gr en)(k:zn):wdB (CQ w m.Ag k)=I/\Ay (CQ w m.Ag k) m v gr en:=by
 obtain⟨row,q,A⟩:=h.row;have u:wdB (Go.Proofs.YtlmhpamhhgogaaaGreat.Sx.CQ w m.Ag k)=I:=qSR h.right q (by rw[q];simpa using A);exact⟨u,h.JV u⟩
end
section
variable{K:Z}{w:Wd}{m:Aj}
abbrev EB(K:Z)(w w':Wd):Prop:=(BgW K w->BgW K w')/\∀h∈w'.Ab,∃q∈w.Ab,q.AO=h.AO
def EB.refl(w):EB K w w:=⟨id,λh q=>⟨h,q,rfl⟩⟩
end
section
variable{n:zn}{w:Wd}{m:Aj}
def qLD{h:Type}(l:F h)(i:Z)(x y:h):(l.set i x).set i y=l.set i y:=List.set_set ..
end
section
variable{n:zn}{w:Wd}{m:Aj}
end
section
variable{n:zn}{w:Wd}{m:Aj}
end

def qAJ{g}{cs}{o}(h:rOp g cs o):∃q t1 u t2 w A,cs=[.int .i64 o.kind,.string o.listen,.string o.Bp,.string o.path,.int .i64 o.d0,.int .i64 o.d1,.int .i64 o.n,.slice q o.Ap.Aa.length t1,.slice u o.Ap.As.length t2,.slice w o.Ap.Ad.length A]:=by
 obtain⟨_,_,_,rfl,_,_,_,_,B,⟨q,t1,rfl,_⟩,⟨u,t2,rfl,_⟩,⟨w,A,rfl,_⟩⟩:=h;cases B;exact⟨_,_,_,_,_,_,rfl⟩


noncomputable def fsW(w:Wd)(m:Aj):Wd:=if fGo w m then fW w m else w
noncomputable def fsM(w:Wd)(m:Aj):Aj:=if fGo w m then fM w m else m
noncomputable def fsE(w:Wd)(m:Aj):Ev:=if fGo w m then fE w m else ev0
def Ng{w}{m:Aj}(h:¬fGo w m):fsW w m=w/\fsM w m=m/\fsE w m=ev0:=by
 unfold fsW fsM fsE;rw[zh h,zh h,zh h];exact⟨rfl,rfl,rfl⟩
def qfN{w}{m:Aj}(h:fGo w m):fsW w m=fW w m/\fsM w m=fM w m/\fsE w m=fE w m:=by
 unfold fsW fsM fsE;rw[zk h,zk h,zk h];exact⟨rfl,rfl,rfl⟩
section
variable{w:Wd}{m:Aj}
def fa0(h:m.pc=0):fW w m=w/\fM w m={m with word:=(mE w m m.An).head,pc:=1}/\fE w m=evV w m 1 8 (By (mE w m m.An).head):=by simp[fW,fM,fE,h]
def fa1(h:m.pc=1):fW w m=Es w m {mE w m m.An with next:=(mE w m m.An).next.set m.slot.toNat (By m.word)}/\fM w m={m with pc:=2}/\fE w m=evV w m 2 9 (By m.word):=by simp[fW,fM,fE,h]
def fa2(h:m.pc=2):fW w m=(if(mE w m m.An).head=m.word then Es w m {mE w m m.An with head:=qHD m.word m.slot}else w)/\fM w m={m with pc:=if(mE w m m.An).head=m.word then 3 else 0}/\fE w m=(if(mE w m m.An).head=m.word then{evV w m 4 8 m.slot with BL:=I}else evV w m 5 8 (By (mE w m m.An).head)):=by simp[fW,fM,fE,h]
def fa3(h:m.pc=3):fW w m=Es w m {mE w m m.An with Ah:=wI ((mE w m m.An).Ah-1)}/\fM w m={m with pc:=4}/\fE w m=evV w m 3 7 (wI ((mE w m m.An).Ah-1)):=by simp[fW,fM,fE,h]
def fa4(h:m.pc=4):fW w m=DI w m {mL w m with Ah:=wI ((mL w m).Ah-1)}/\fM w m={m with done:=I,answer:=⟨6,m.Ac,m.Ak,m.An,m.slot,m.listen,0,c60⟩}/\fE w m={evO m 3 5 (wI ((mL w m).Ah-1))with done:=I,answer:=⟨6,m.Ac,m.Ak,m.An,m.slot,m.listen,0,c60⟩}:=by simp[fW,fM,fE,KE,h]
def fa9(h:m.pc=9):fW w m=w/\fM w m={m with done:=I,answer:=EQ 7 0}/\fE w m={evO m 1 0 0 with done:=I,answer:=EQ 7 0}:=by simp[fW,fM,fE,KE,h]
end
section
variable{K:Z}{w:Wd}{m:Aj}
end
def HT(t:zn)(a:Ans):Aj:=⟨⟨2,⟨#[]⟩,⟨#[]⟩,⟨#[]⟩,0,0,0,⟨[],[],[]⟩⟩,t,if a.kind=1 then 0 else 9,0,a.Ac,if a.kind=1 then a.listen else -1,a.Ak,a.An,0,a.slot,0,0,0,0,0,zb,BO,c60⟩
def qeZ{e}(h:Bv e=I){l}(u:qMC e=O l){s}(hs:0<=s)(A:s∉l)(x):qMC {e with next:=e.next.set s.toNat x}=O l/\Bv {e with next:=e.next.set s.toNat x}=I:=by
 obtain⟨B,C⟩:=Cg.1 u;have q:qMC {e with next:=e.next.set s.toNat x}=O l:=Cg.2 ⟨q5G hs B A,C⟩;obtain⟨_,D,E,H⟩:=qCC h;refine⟨q,?_⟩;unfold Bv;rw[q];simp only[zj,zx,zCh,zBL,zX];exact⟨⟨D,E⟩,H⟩
def qOB(v:AL):F Bz:=v.Am.flatMap λg=>g.ends
def qTH(a now:zn):Prop:=a<=9223372036854775805/\a+2<=now
instance(a now:zn):Decidable (qTH a now):=by unfold qTH;infer_instance
def pnI(w:Wd)(m:Aj):zn:=(w.pins[m.i.toNat]?).getD 0
def lbR(w:Wd)(m:Aj):Ba:=(w.Ai[m.i.toNat]?).getD ⟨0,0,zb⟩
def lsL(w:Wd)(m:Aj):AY:=(w.Aa[m.i.toNat]?).getD ⟨⟨#[]⟩,zb,0,zb⟩
def kE(w:Wd)(m:Aj):Bz:=((qOB (mV w m))[m.k.toNat]?).getD enD
def Ez(w:Wd)(m:Aj):Prop:=
 (m.pc=2->m.i<w.pins.length)/\(m.pc=5->m.k<(qOB (mV w m)).length)/\
 (m.pc=6->m.i<w.Ai.length/\(lbR w m).Ac=m.Ac/\(lbR w m).gone=zb)/\
 (m.pc=9->m.i<w.Aa.length)/\(m.pc=10->m.i<w.Aa.length/\(lsL w m).drain=I)
abbrev cGo(w:Wd)(m:Aj):Prop:=qXB w m=I/\Ez w m/\(0<=m.pc/\m.pc<=10/\m.pc≠7)
abbrev upE(w:Wd)(m:Aj):Prop:=w.Al=m.Al/\w.Al<1000000000000
def cdW(w:Wd)(m:Aj):Wd:=if(w.Aa.length:zn)<=m.i then{w with AH:=0}else w
def LZ(m:Aj):Ans:=⟨11,0,0,0,0,0,m.answer.n,c60⟩
def cdM(w:Wd)(m:Aj):Aj:=
 if(w.Aa.length:zn)<=m.i then{m with done:=I,answer:=LZ m}
 else if(lsL w m).drain=I/\(lsL w m).closed=zb then{m with pc:=9}else{m with i:=m.i+1}
def cdE(w:Wd)(m:Aj):Ev:=
 if(w.Aa.length:zn)<=m.i then{evO m 2 14 0 with done:=I,answer:=LZ m}
 else evO m 1 4 (if(lsL w m).drain then 1 else 0)
def cW(w:Wd)(m:Aj):Wd:=
 if m.pc=0 then(if w.AH=0 then{w with AH:=1}else w)
 else if m.pc=3 then(if upE w m then{w with Al:=w.Al+1}else w)
 else if m.pc=4 then(if(w.Ai.length:zn)<=m.i then cdW w {m with i:=0,pc:=8}else w)
 else if m.pc=6 then{w with Ab:=w.Ab.set m.Ac.toNat {mV w m with AV:=I},Ai:=w.Ai.set m.i.toNat {lbR w m with gone:=I}}
 else if m.pc=8 then cdW w m
 else if m.pc=10 then{w with Aa:=w.Aa.set m.i.toNat {lsL w m with closed:=I}}
 else w
def cM(w:Wd)(m:Aj):Aj:=
 if m.pc=0 then(if w.AH=0 then{m with pc:=1}else{m with done:=I,answer:=EQ 12 0})
 else if m.pc=1 then{m with Al:=w.Al,pc:=2,i:=0}
 else if m.pc=2 then
  (if pnI w m≠0/\pnI w m≠wI (m.Al+1)then{m with pc:=4,i:=0}
   else if m.i+1<w.pins.length then{m with i:=m.i+1}else{m with pc:=3,i:=m.i+1})
 else if m.pc=3 then(if upE w m then{m with Al:=w.Al+1,pc:=4,i:=0}else{m with pc:=4,i:=0})
 else if m.pc=4 then
  (if(w.Ai.length:zn)<=m.i then cdM w {m with i:=0,pc:=8}
   else if(lbR w m).gone=I\/¬qTH (lbR w m).at_ m.Al then{m with i:=m.i+1}
   else{m with Ac:=(lbR w m).Ac,Ak:=0,An:=0,other:=0,slot:=0,k:=0,pc:=5})
 else if m.pc=5 then
  (if(kE w m).Ah≠0 then{m with pc:=4,i:=wI (m.i+1)}
   else if m.k+1<(qOB (mV w m)).length then{m with k:=m.k+1}else{m with k:=m.k+1,pc:=6})
 else if m.pc=6 then{m with answer:={m.answer with n:=wI (m.answer.n+1)},pc:=4,i:=m.i+1}
 else if m.pc=8 then cdM w m
 else if m.pc=9 then(if(lsL w m).Ah=0 then{m with pc:=10}else{m with pc:=8,i:=m.i+1})
 else{m with pc:=8,i:=m.i+1}
def cE(w:Wd)(m:Aj):Ev:=
 if m.pc=0 then(if w.AH=0 then evO m 4 14 1 else{evO m 5 14 1 with done:=I,answer:=EQ 12 0})
 else if m.pc=1 then evO m 1 1 w.Al
 else if m.pc=2 then evO m 1 2 (pnI w m)
 else if m.pc=3 then(if upE w m then evO m 4 1 (w.Al+1)else evO m 5 1 w.Al)
 else if m.pc=4 then(if(w.Ai.length:zn)<=m.i then cdE w {m with i:=0,pc:=8}else evO m 1 11 (lbR w m).Ac)
 else if m.pc=5 then evV w m 1 7 (kE w m).Ah
 else if m.pc=6 then evO m 2 12 m.Ac
 else if m.pc=8 then cdE w m
 else if m.pc=9 then evO m 1 5 (lsL w m).Ah
 else evO m 2 13 1
noncomputable def csW(w:Wd)(m:Aj):Wd:=@ite _ (cGo w m) (zDR _) (cW w m) w
noncomputable def csM(w:Wd)(m:Aj):Aj:=@ite _ (cGo w m) (zDR _) (cM w m) m
noncomputable def csE(w:Wd)(m:Aj):Ev:=@ite _ (cGo w m) (zDR _) (cE w m) ev0
def qSc{w}{m:Aj}(h:¬cGo w m):csW w m=w/\csM w m=m/\csE w m=ev0:=by
 unfold csW csM csE;rw[zh h,zh h,zh h];exact⟨rfl,rfl,rfl⟩
def qjG{w}{m:Aj}(h:cGo w m):csW w m=cW w m/\csM w m=cM w m/\csE w m=cE w m:=by
 unfold csW csM csE;rw[zk h,zk h,zk h];exact⟨rfl,rfl,rfl⟩
section
variable{w:Wd}{m:Aj}
def qnD{r}(h:w.Ai[m.i.toNat]?=O r):lbR w m=r:=by unfold lbR;rw[h];rfl
def qcE{r}(h:w.Aa[m.i.toNat]?=O r):lsL w m=r:=by unfold lsL;rw[h];rfl
def qgX{r}(h:w.pins[m.i.toNat]?=O r):pnI w m=r:=by unfold pnI;rw[h];rfl
def qCc{r}(h:(qOB (mV w m))[m.k.toNat]?=O r):kE w m=r:=by unfold kE;rw[h];rfl
def qeS(h:wdB w=I){x}(q:x=0\/x=1):wdB {w with AH:=x}=I:=by
 unfold wdB q6A C2 De at*;simp only[zj,zx]at*;obtain⟨⟨⟨⟨⟨⟨⟨⟨⟨⟨⟨⟨⟨u,A⟩,B⟩,C⟩,D⟩,E⟩,T⟩,H⟩,b1⟩,L⟩,M⟩,P⟩,Q⟩,R⟩:=h;exact⟨⟨⟨⟨⟨⟨⟨⟨⟨⟨⟨⟨⟨u,A⟩,B⟩,C⟩,D⟩,E⟩,q⟩,H⟩,b1⟩,L⟩,M⟩,P⟩,Q⟩,R⟩
end
section
variable{w:Wd}{m:Aj}
def cb0(h:m.pc=0):cW w m=(if w.AH=0 then{w with AH:=1}else w)/\cM w m=(if w.AH=0 then{m with pc:=1}else{m with done:=I,answer:=EQ 12 0})/\cE w m=(if w.AH=0 then evO m 4 14 1 else{evO m 5 14 1 with done:=I,answer:=EQ 12 0}):=by simp[cW,cM,cE,h]
def cb1(h:m.pc=1):cW w m=w/\cM w m={m with Al:=w.Al,pc:=2,i:=0}/\cE w m=evO m 1 1 w.Al:=by simp[cW,cM,cE,h]
def cb2(h:m.pc=2):cW w m=w/\cM w m=(if pnI w m≠0/\pnI w m≠wI (m.Al+1)then{m with pc:=4,i:=0}else if m.i+1<w.pins.length then{m with i:=m.i+1}else{m with pc:=3,i:=m.i+1})/\cE w m=evO m 1 2 (pnI w m):=by simp[cW,cM,cE,h]
def cb3(h:m.pc=3):cW w m=(if upE w m then{w with Al:=w.Al+1}else w)/\cM w m=(if upE w m then{m with Al:=w.Al+1,pc:=4,i:=0}else{m with pc:=4,i:=0})/\cE w m=(if upE w m then evO m 4 1 (w.Al+1)else evO m 5 1 w.Al):=by simp[cW,cM,cE,h]
def cb4(h:m.pc=4):cW w m=(if(w.Ai.length:zn)<=m.i then cdW w {m with i:=0,pc:=8}else w)/\cM w m=(if(w.Ai.length:zn)<=m.i then cdM w {m with i:=0,pc:=8}else if(lbR w m).gone=I\/¬qTH (lbR w m).at_ m.Al then{m with i:=m.i+1}else{m with Ac:=(lbR w m).Ac,Ak:=0,An:=0,other:=0,slot:=0,k:=0,pc:=5})/\cE w m=(if(w.Ai.length:zn)<=m.i then cdE w {m with i:=0,pc:=8}else evO m 1 11 (lbR w m).Ac):=by simp[cW,cM,cE,h]
def cb5(h:m.pc=5):cW w m=w/\cM w m=(if(kE w m).Ah≠0 then{m with pc:=4,i:=wI (m.i+1)}else if m.k+1<(qOB (mV w m)).length then{m with k:=m.k+1}else{m with k:=m.k+1,pc:=6})/\cE w m=evV w m 1 7 (kE w m).Ah:=by simp[cW,cM,cE,h]
def cb6(h:m.pc=6):cW w m={w with Ab:=w.Ab.set m.Ac.toNat {mV w m with AV:=I},Ai:=w.Ai.set m.i.toNat {lbR w m with gone:=I}}/\cM w m={m with answer:={m.answer with n:=wI (m.answer.n+1)},pc:=4,i:=m.i+1}/\cE w m=evO m 2 12 m.Ac:=by simp[cW,cM,cE,h]
def cb8(h:m.pc=8):cW w m=cdW w m/\cM w m=cdM w m/\cE w m=cdE w m:=by simp[cW,cM,cE,h]
def cb9(h:m.pc=9):cW w m=w/\cM w m=(if(lsL w m).Ah=0 then{m with pc:=10}else{m with pc:=8,i:=m.i+1})/\cE w m=evO m 1 5 (lsL w m).Ah:=by simp[cW,cM,cE,h]
def I3(h:m.pc=10):cW w m={w with Aa:=w.Aa.set m.i.toNat {lsL w m with closed:=I}}/\cM w m={m with pc:=8,i:=m.i+1}/\cE w m=evO m 2 13 1:=by simp[cW,cM,cE,h]
end
def Gx{l}{n}:qIE l n=I<->∃(j:Z)(x:Ba),l[j]?=O x/\x.Ac=n/\x.gone=I:=by
 unfold qIE;rw[zBY];constructor
 .rintro⟨x,u,h⟩;obtain⟨j,q⟩:=zT.1 u;simp only[zj,beq_iff_eq]at h;exact⟨j,x,q,h.1,h.2⟩
 .rintro⟨j,x,q,A,B⟩;exact⟨x,zl q,by simp[A,B]⟩
def q9W{l}{i}{r}(B:l[i]?=O r)(n)(E:r.gone=zb):qIE (l.set i {r with gone:=I}) n=if n=r.Ac then I else qIE l n:=by
 have D:=(zd.1 B).1;rw[zCn,Gx];constructor
 .rintro⟨j,x,h,u,A⟩;by_cases q:n=r.Ac
  .rw[zk q]
  .rw[zh q,Gx];rw[zAF]at h;split at h
   .cases h;exact absurd u.symm q
   .exact⟨j,x,h,u,A⟩
 .intro C;split at C
  .rename_i q;exact⟨i,{r with gone:=I},by rw[zAF];simp[D],q.symm,rfl⟩
  .rename_i q;obtain⟨j,x,h,u,A⟩:=Gx.1 C;refine⟨j,x,?_,u,A⟩;rw[zAF,zh ?_]
   .exact h
   .rintro rfl;rw[B]at h;cases h;exact q u.symm
def qTU{l}{i}{r}(h:q7D l=I)(u:l[i]?=O r):q7D (l.set i {r with gone:=I})=I:=by
 have hm:(l.set i {r with gone:=I}).map (·.Ac)=l.map (·.Ac):=by
  apply zBT;intro j;rw[zAv,zAv,zAF];split
  .rename_i A;subst A;have:=(zd.1 u).1;rw[zk this,u];rfl
  .rfl
 have B:∀(l:F Ba)(j:Z)(k:zn),((l.take j).any λx=>x.Ac==k)=((l.map (·.Ac)).take j).any (·==k):=λl j k=>by
  rw[<-List.map_take,List.any_map];rfl
 unfold q7D at*;rw[AK]at*;intro j x q
 have C:∀y,l[j]?=O y->x.Ac=y.Ac->x.at_=y.at_->F2 (l.set i {r with gone:=I}) j x=I:=λy D E H=>by
  have:=h j y D;unfold F2 at*;rw[B,hm,<-B,E,H];exact this
 rw[zAF]at q;split at q
 .rename_i A;subst A;split at q
  .cases q;exact C r u rfl rfl
  .cases q
 .exact C x q rfl rfl
def qnV{w}(h:wdB w=I){i}{r}{v}(u:w.Ai[i]?=O r)(H:r.gone=zb)(L:w.Ab[r.Ac.toNat]?=O v):wdB {w with Ab:=w.Ab.set r.Ac.toNat {v with AV:=I},Ai:=w.Ai.set i {r with gone:=I}}=I:=by
 obtain⟨M,B,C,P,D,Q⟩:=q0B h;have R:=zl u;have A:=C;unfold q7D at A;rw[AK]at A
 have Y:0<=r.Ac:=by
  have:=A i r u;unfold F2 at this;simp only[zj,zx]at this;exact this.1.1
 refine qoP ⟨M,⟨B.1,by show w.current<(w.Ab.set _ _).length;rw[zX];exact B.2⟩,qTU C u,?_,?_,Q⟩
 .rw[zAh]at*;intro x q
  have E:∀y∈w.Ai,x.Ac=y.Ac->x.at_=y.at_->C2 {w with Ab:=w.Ab.set r.Ac.toNat {v with AV:=I},Ai:=w.Ai.set i {r with gone:=I}} x=I:=λy T U V=>by
   have:=P y T;unfold C2 at*;rw[U,V];simpa only[zX]using this
  rcases zBc q with q|rfl
  .exact E x q rfl rfl
  .exact E r R rfl rfl
 .rw[AK]at*;intro j x q;show De _ j x=I;unfold De;show(qNB x&&(x.AV==qIE (w.Ai.set i {r with gone:=I}) j))=I;rw[q9W u _ H];rw[zAF]at q;split at q
  .rename_i W;split at q
   .cases q;have:=D _ v L;unfold De at this;simp only[zj]at this;rw[zk sa];simp only[zj];exact⟨this.1,rfl⟩
   .cases q
  .rename_i W;have:=D j x q;unfold De at this;rw[zh sa];exact this
def EC:Z->Wd->Aj->Wd->Aj->Prop
 |0,w,m,w',m'=>w'=w/\m'=m
 |n+1,w,m,w',m'=>m.done=zb/\cGo w m/\EC n (cW w m) (cM w m) w' m'
def EC.trans:∀{a b:Z}{w:Wd}{m:Aj}{h:Wd}{q:Aj}{u:Wd}{A:Aj},EC a w m h q->EC b h q u A->EC (a+b) w m u A
 |0,b,_,_,_,_,_,_,⟨B,C⟩,k=>by rw[zAu];subst B;subst C;exact k
 |a+1,b,_,_,_,_,_,_,⟨D,E,H⟩,k=>by rw[Nat.add_right_comm];exact⟨D,E,EC.trans H k⟩
section
variable{w w':Wd}{m m':Aj}{v v':AL}{gr:Bm}{en:Bz}
def Ay.DT(h:Ay w m v gr en)(q:0<=m'.i)(u:0<=m'.k)(k:qYa m m':=by exact⟨rfl,rfl,rfl,rfl,rfl,rfl,rfl,rfl⟩):Ay w m' v gr en:=
 h.move h.right h.ver.2 q u k
def I7.first{i}(h:I7 w i v):∃gr en,v.Am[0]?=O gr/\gr.ends[0]?=O en/\1<=en.next.length/\1<=gr.ends.length:=by
 obtain⟨gr,q⟩:=qBA (l:=v.Am) (i:=0) (by have:=h.Am.1;omega);obtain⟨_,_,_,A,_,_,B⟩:=h.ends q;obtain⟨en,u⟩:=qBA (l:=gr.ends) (i:=0) sa;exact⟨gr,en,q,u,(B en (zl u)).2,A⟩
def Ay.first(h:Ay w m v gr en){x}(B:0<=x){u}(A:w.Ab[x.toNat]?=O u)(C:0<=m'.i)(D:0<=m'.k)(q:m'.Ag=m.Ag/\m'.done=m.done/\m'.Ac=x/\m'.Ak=0/\m'.An=0/\m'.other=0/\m'.slot=0/\m'.listen=m.listen:=by exact⟨rfl,rfl,rfl,rfl,rfl,rfl,rfl,rfl⟩):qXB w m'=I:=by
 obtain⟨E,H,L,M,P,k6,Q,R⟩:=q;obtain⟨T,U,V,W,Y,aa⟩:=(qkB h.right A).first;exact Ar.2 ⟨u,T,U,h.right,by rw[E];exact h.Ag,by rw[H];exact h.done,by rw[L];exact⟨B,A⟩,by rw[M];exact⟨zAI _,V⟩,by rw[P];exact⟨zAI _,W⟩,by rw[k6];omega,by rw[Q];omega,by rw[R];exact h.listen,C,D⟩
end
section
variable{K:Z}{w:Wd}{m:Aj}
def q3U(q:wdB w=I):EB K w (cdW w m)/\wdB (cdW w m)=I:=by
 unfold cdW;split
 .exact⟨⟨λh=>h,λu h=>⟨u,h,rfl⟩⟩,qeS q (.inl rfl)⟩
 .exact⟨EB.refl w,q⟩
def qRK(E:cGo w m):EB K w (cW w m)/\wdB (cW w m)=I:=by
 obtain⟨v,ad,ae,C⟩:=Ar.1 E.1;have q:=C.right;have af:=E.2.2;have U:=E.2.1;have ag:=C.i;rcases(by omega:m.pc=0\/m.pc=1\/m.pc=2\/m.pc=3\/m.pc=4\/m.pc=5\/m.pc=6\/m.pc=8\/m.pc=9\/m.pc=10)with h|h|h|h|h|h|h|h|h|h
 .rw[(cb0 h).1];split
  .exact⟨⟨λh=>h,λu h=>⟨u,h,rfl⟩⟩,qeS q (.inr rfl)⟩
  .exact⟨EB.refl w,q⟩
 .rw[(cb1 h).1];exact⟨EB.refl w,q⟩
 .rw[(cb2 h).1];exact⟨EB.refl w,q⟩
 .rw[(cb3 h).1];split
  .rename_i ab;exact⟨⟨λh=>h,λu h=>⟨u,h,rfl⟩⟩,qfS q ab.2⟩
  .exact⟨EB.refl w,q⟩
 .rw[(cb4 h).1];split
  .exact q3U q
  .exact⟨EB.refl w,q⟩
 .rw[(cb5 h).1];exact⟨EB.refl w,q⟩
 .rw[(cb6 h).1];obtain⟨ac,B,V⟩:=U.2.2.1 h;obtain⟨r,W⟩:=qBA (l:=w.Ai) (i:=m.i.toNat) sa;rw[qnD W]at B V⊢;have H:w.Ab[r.Ac.toNat]?=O v:=by rw[B];exact C.ver.2
  rw[C.at_.1,<-B];refine⟨⟨λ⟨⟨L,M,P,Q,R⟩,k6,D⟩=>⟨⟨L,by show(w.Ab.set _ _).length<=K;rw[zX];exact M,P,Q,by show(w.Ai.set _ _).length<=K;rw[zX];exact R⟩,k6,λu A=>?_⟩,λu A=>?_⟩,qnV q W V H⟩
  .rcases zBc A with A|rfl
   .exact D u A
   .exact D v (zl H)
  .rcases zBc A with A|rfl
   .exact⟨u,A,rfl⟩
   .exact⟨v,zl H,rfl⟩
 .rw[(cb8 h).1];exact q3U q
 .rw[(cb9 h).1];exact⟨EB.refl w,q⟩
 .rw[(I3 h).1];obtain⟨ac,B⟩:=U.2.2.2.2 h;obtain⟨x,T⟩:=qBA (l:=w.Aa) (i:=m.i.toNat) sa;rw[qcE T]at B⊢;refine⟨⟨λ⟨⟨L,M,P,Q,R⟩,k6,D⟩=>⟨⟨L,M,by show(w.Aa.set _ _).length<=K;rw[zX];exact P,Q,R⟩,k6,D⟩,λu h=>⟨u,h,rfl⟩⟩,q7H q T rfl ?_⟩;have Y:=(q0B q).2.2.2.2.2;rw[AK]at Y;have:=Y _ x T;unfold qoB at this;simp only[zj]at this;have aa:=this.1;unfold q4I at*;simp only[B,Bool.true_or,Bool.and_true]at aa⊢;exact aa
end
def qzJ(w:Wd)(m:Aj):zM:=w.Ai.any (λr=>r.Ac==m.Ac)||(m.Ac==w.current)||decide (m.Al<0)||decide (w.Al<m.Al)
abbrev FH(w:Wd)(m:Aj):Prop:=qXB w m=I/\(m.pc=0\/m.pc=1\/m.pc=2)/\(m.pc=2->qzJ w m=zb)
def qxK(w:Wd)(c:BB):Wd:={w with Ab:=w.Ab++[qjC (qGC c)],current:=w.Ab.length}
def qoM(w:Wd)(m:Aj):Aj:={m with Ac:=w.current,Ak:=0,An:=0,other:=0,slot:=0,i:=w.Ab.length,pc:=1}
def KL(k n:zn):Ans:=⟨k,0,0,0,0,0,n,c60⟩
def JA(k n:zn):Ans:=⟨k,n,0,0,0,0,0,c60⟩
noncomputable def swW(w:Wd)(m:Aj):Wd:=if FH w m then(if m.pc=0 then(match qTA m.op.Ap with|none=>qxK w m.op.Ap|some _=>w)else if m.pc=1 then w else{w with Ai:=w.Ai++[⟨m.Ac,m.Al,zb⟩]})else w
noncomputable def swM(w:Wd)(m:Aj):Aj:=if FH w m then(if m.pc=0 then(match qTA m.op.Ap with|none=>qoM w m|some (e,_)=>{m with done:=I,answer:=KL 9 e})else if m.pc=1 then{m with Al:=w.Al,pc:=2}else{m with done:=I,answer:=JA 8 m.i})else m
noncomputable def swE(w:Wd)(m:Aj):Ev:=if FH w m then(if m.pc=0 then(match qTA m.op.Ap with|none=>⟨m.Ag,0,6,3,-1,zb,w.Ab.length,zb,I,zb,BO⟩|some (e,_)=>⟨m.Ag,0,1,3,-1,zb,w.current,zb,I,I,KL 9 e⟩)else if m.pc=1 then⟨m.Ag,0,1,1,-1,zb,w.Al,zb,zb,zb,BO⟩else⟨m.Ag,0,2,11,-1,zb,m.Ac,zb,zb,I,JA 8 m.i⟩)else ev0
def Mu{w}{m:Aj}(h:¬FH w m):swW w m=w/\swM w m=m/\swE w m=ev0:=by
 unfold swW swM swE;rw[zh h,zh h,zh h];exact⟨rfl,rfl,rfl⟩
def q4S{w}{m:Aj}(h:FH w m)(q:m.pc=0)(u:qTA m.op.Ap=zc):swW w m=qxK w m.op.Ap/\swM w m=qoM w m/\swE w m=⟨m.Ag,0,6,3,-1,zb,w.Ab.length,zb,I,zb,BO⟩:=by
 unfold swW swM swE;rw[zk h,zk h,zk h,zk q,zk q,zk q,u];exact⟨rfl,rfl,rfl⟩
def qUO{w}{m:Aj}(h:FH w m)(q:m.pc=0){e i}(u:qTA m.op.Ap=O (e,i)):swW w m=w/\swM w m={m with done:=I,answer:=KL 9 e}/\swE w m=⟨m.Ag,0,1,3,-1,zb,w.current,zb,I,I,KL 9 e⟩:=by
 unfold swW swM swE;rw[zk h,zk h,zk h,zk q,zk q,zk q,u];exact⟨rfl,rfl,rfl⟩
def sw1{w}{m:Aj}(h:FH w m)(q:m.pc=1):swW w m=w/\swM w m={m with Al:=w.Al,pc:=2}/\swE w m=⟨m.Ag,0,1,1,-1,zb,w.Al,zb,zb,zb,BO⟩:=by
 have u:¬m.pc=0:=sa
 unfold swW swM swE;rw[zk h,zk h,zk h,zh u,zh u,zh u,zk q,zk q,zk q];exact⟨rfl,rfl,rfl⟩
def sw2{w}{m:Aj}(h:FH w m)(A:m.pc=2):swW w m={w with Ai:=w.Ai++[⟨m.Ac,m.Al,zb⟩]}/\swM w m={m with done:=I,answer:=JA 8 m.i}/\swE w m=⟨m.Ag,0,2,11,-1,zb,m.Ac,zb,zb,I,JA 8 m.i⟩:=by
 have q:¬m.pc=0:=sa
 have u:¬m.pc=1:=sa
 unfold swW swM swE;rw[zk h,zk h,zk h,zh q,zh q,zh q,zh u,zh u,zh u];exact⟨rfl,rfl,rfl⟩
def qVa{k n}(h:InR k/\InR n):(KL k n).ok:=⟨h.1,z0,z0,z0,z0,z0,h.2,qEG⟩
def qTV{k n}(h:InR k/\InR n):(JA k n).ok:=⟨h.1,h.2,z0,z0,z0,z0,z0,qEG⟩
def qFH{c}(h:qTA c=zc):qTA (qRD (qGC c))=zc:=by rw[qRL (Bh.1 h)];exact h
section
variable{w:Wd}{m:Aj}
def q1U{v}{gr}{en}(h:Ay w m v gr en)(hd:(cdM w m).done=zb):cdW w m=w/\qXB w (cdM w m)=I:=by
 have A:=h.i;have q:=h.k;have B:=h.done;unfold cdM at*;unfold cdW;split at hd
 .cases hd
 .rename_i u;rw[zh u,zh u];refine⟨rfl,?_⟩;split
  .exact Ay.AZ (h.DT A q)
  .exact Ay.AZ (h.DT (by show 0<=m.i+1;omega) q)
def qDV(E:cGo w m)(U:m.pc=5->m.i<9223372036854775807)(hd:(cM w m).done=zb):qXB (cW w m) (cM w m)=I:=by
 obtain⟨v,ab,ac,h⟩:=Ar.1 E.1;have V:=h.right;have ad:=E.2.2;have ae:=E.2.1;have H:=h.i;have B:=h.k;have C:=(qRK (K:=0) E).2;rcases(by omega:m.pc=0\/m.pc=1\/m.pc=2\/m.pc=3\/m.pc=4\/m.pc=5\/m.pc=6\/m.pc=8\/m.pc=9\/m.pc=10)with q|q|q|q|q|q|q|q|q|q
 .obtain⟨u,A,_⟩:=cb0 (w:=w) q;rw[u]at C⊢;rw[A]at hd⊢;by_cases D:w.AH=0
  .rw[zk D]at C hd⊢;rw[zk D];exact Ay.AZ (h.move C h.ver.2 H B)
  .rw[zh D]at hd;cases hd
 .obtain⟨u,A,_⟩:=cb1 (w:=w) q;rw[u,A];exact Ay.AZ (h.DT (zAI _) B)
 .obtain⟨u,A,_⟩:=cb2 (w:=w) q;rw[u,A];split
  .exact Ay.AZ (h.DT (zAI _) B)
  .split<;>exact Ay.AZ (h.DT (by show 0<=m.i+1;omega) B)
 .obtain⟨u,A,_⟩:=cb3 (w:=w) q;rw[u]at C⊢;rw[A];by_cases D:upE w m
  .rw[zk D]at C⊢;rw[zk D];exact Ay.AZ (h.move C h.ver.2 (zAI _) B)
  .rw[zh D,zh D];exact Ay.AZ (h.DT (zAI _) B)
 .obtain⟨u,A,_⟩:=cb4 (w:=w) q;rw[u]at C⊢;rw[A]at hd⊢;by_cases D:(w.Ai.length:zn)<=m.i
  .rw[zk D]at C hd⊢;rw[zk D];obtain⟨L,M⟩:=q1U (h.DT (m':={m with i:=0,pc:=8}) (zAI _) B) hd;rw[L];exact M
  .rw[zh D,zh D];split
   .exact Ay.AZ (h.DT (by show 0<=m.i+1;omega) B)
   .obtain⟨r,P⟩:=qBA (l:=w.Ai) (i:=m.i.toNat) sa;rw[qnD P];obtain⟨_,_,Q,W,_⟩:=q0B V;unfold q7D at Q;rw[AK]at Q;have R:=Q _ r P;unfold F2 at R;simp only[zj,zx]at R;have T:=(zAh.1 W) r (zl P);unfold C2 at T;simp only[zj,zx]at T;obtain⟨af,Y⟩:=qBA (l:=w.Ab) (i:=r.Ac.toNat) sa;exact h.first R.1.1 Y H (zAI _)
 .obtain⟨u,A,_⟩:=cb5 (w:=w) q;rw[u,A];split
  .refine Ay.AZ (h.DT ?_ B);show 0<=wI (m.i+1);have:=U q;show 0<=zAf.wrap (m.i+1);rw[zBB];omega
  .split<;>exact Ay.AZ (h.DT H (by show 0<=m.k+1;omega))
 .obtain⟨u,A,_⟩:=cb6 (w:=w) q;rw[u]at C⊢;rw[A];rw[h.at_.1]at C⊢;have aa:=(zd.1 h.ver.2).1;exact Ay.AZ (h.move (v':={v with AV:=I}) C (by show(w.Ab.set _ _)[_]?=_;rw[zAF];simp[aa]) (by show 0<=m.i+1;omega) B)
 .obtain⟨u,A,_⟩:=cb8 (w:=w) q;rw[A]at hd⊢;obtain⟨L,M⟩:=q1U h hd;rw[u,L];exact M
 .obtain⟨u,A,_⟩:=cb9 (w:=w) q;rw[u,A];split
  .exact Ay.AZ (h.DT H B)
  .exact Ay.AZ (h.DT (by show 0<=m.i+1;omega) B)
 .obtain⟨u,A,_⟩:=I3 (w:=w) q;rw[u]at C⊢;rw[A];exact Ay.AZ (h.move C h.ver.2 (by show 0<=m.i+1;omega) B)
end

def AT(w:Wd)(i j k:Z):zs Bz:=(w.Ab[i]?).bind λv=>(v.Am[j]?).bind λg=>g.ends[k]?
def q2F{w}{i j k}{v}{gr}{en}(h:w.Ab[i]?=O v)(q:v.Am[j]?=O gr)(u:gr.ends[k]?=O en):AT w i j k=O en:=by
 unfold AT;rw[h];show(v.Am[j]?).bind _=_;rw[q];exact u
def q1F{w}{i j k}{en}(h:AT w i j k=O en):∃v gr,w.Ab[i]?=O v/\v.Am[j]?=O gr/\gr.ends[k]?=O en:=by
 unfold AT at h;obtain⟨v,q,h⟩:=zAD.1 h;obtain⟨gr,u,h⟩:=zAD.1 h;exact⟨v,gr,q,u,h⟩
def q4Q{w w'}{i j}{v}{gr g'}(B:w.Ab[i]?=O v)(C:v.Am[j]?=O gr)(D:w'.Ab=w.Ab.set i {v with Am:=v.Am.set j g'})(q j' k'):AT w' q j' k'=if q=i/\j'=j then g'.ends[k']? else AT w q j' k':=by
 unfold AT;rw[D];by_cases u:q=i
 .subst u;rw[qhA B,B];show((v.Am.set j g')[j']?).bind _=_;by_cases A:j'=j
  .subst A;rw[qhA C,zk ⟨rfl,rfl⟩];rfl
  .rw[zBi (λh=>A h.symm),zh (λh=>A h.2)];rfl
 .rw[zBi (λh=>u h.symm),zh (λh=>u h.1)]
def qoU{w w'}{i j}{v}{gr g'}(h:w.Ab[i]?=O v)(q:v.Am[j]?=O gr)(B:w'.Ab=w.Ab.set i {v with Am:=v.Am.set j g'})(C:g'.ends=gr.ends)(u j' k'):AT w' u j' k'=AT w u j' k':=by
 rw[q4Q h q B];split
 .rename_i A;rw[A.1,A.2,C];unfold AT;rw[h];show _=(v.Am[j]?).bind _;rw[q];rfl
 .rfl
def qDX{w w'}{i j k}{v}{gr g'}{en en'}(A:w.Ab[i]?=O v)(B:v.Am[j]?=O gr)(C:gr.ends[k]?=O en)(D:w'.Ab=w.Ab.set i {v with Am:=v.Am.set j g'})(E:g'.ends=gr.ends.set k en')(q j' k'):AT w' q j' k'=if q=i/\j'=j/\k'=k then O en' else AT w q j' k':=by
 rw[q4Q A B D];by_cases h:q=i/\j'=j
 .rw[zk h,E];by_cases u:k'=k
  .subst u;rw[zk ⟨h.1,h.2,rfl⟩,qhA C]
  .rw[zh (λx=>u x.2.2),zBi (λx=>u x.symm),h.1,h.2];unfold AT;rw[A];show _=(v.Am[j]?).bind _;rw[B];rfl
 .rw[zh h,zh (λx=>h ⟨x.1,x.2.1⟩)]

def qUJ{w}(h:wdB w=I){m:Aj}(C:0<=m.Ag/\m.Ag<w.pins.length)(hd:m.done=zb)(e1:m.Ac=0)(e2:m.Ak=0)(D:m.An=0)(E:m.other=0)(H:m.slot=0)(hl:-1<=m.listen/\m.listen<w.Aa.length)(L:0<=m.i)(hk:0<=m.k):qXB w m=I:=by
 obtain⟨_,_,_,P,Q⟩:=qJO h;obtain⟨v,q⟩:=qBA (l:=w.Ab) (i:=0) sa;have u:=qkB h q;obtain⟨gr,A⟩:=qBA (l:=v.Am) (i:=0) (by have:=u.Am;omega);obtain⟨c,_,_,R,_,_,M⟩:=u.ends A;obtain⟨en,B⟩:=qBA (l:=gr.ends) (i:=0) sa;have T:=(M en (zl B)).2;exact Ay.AZ (v:=v) (gr:=gr) (en:=en) ⟨h,C,hd,by rw[e1];exact⟨zAI _,q⟩,by rw[e2];exact⟨zAI _,A⟩,by rw[D];exact⟨zAI _,B⟩,by rw[E];omega,by rw[H];omega,hl,L,hk⟩

def map_set{q B:Type}{f:q->B}{l:F q}{i:Z}{x':q}(h:∀x,l[i]?=O x->f x'=f x):(l.set i x').map f=l.map f:=by
 rw[zDL];apply zBT;intro j;rw[zAF];split
 .rename_i C;subst C;rw[zAv];split
  .rename_i u;obtain⟨x,A⟩:=qBA (l:=l) (i:=i) (by simpa using u);rw[A,h x A];rfl
  .rename_i u;rw[zBQ (by simpa using u)];rfl
 .rfl
section
variable{w:Wd}{m:Aj}
end
def q3G(A B:Ans):zM:=1==B.kind&&(A.Ac==B.Ac&&(A.Ak==B.Ak&&(A.An==B.An&&(A.slot==B.slot&&A.listen==B.listen))))
abbrev qPN(given:F Ans)(A:Ans)(n:Z):zM:=match given[n]? with
 |some h=>q3G A h
 |none=>zb
def Gw(given:F Ans)(out:F Z)(i:Z)(A:Ans):F Z:=
 if A.kind=1 then out++[i]else if A.kind=6 then(match out.findIdx? (qPN given A)with
  |some k=>out.eraseIdx k
  |none=>out)else out
def opL(given:F Ans):Z->F Z
 |0=>[]
 |i+1=>match given[i]? with
  |some h=>Gw given (opL given i) i h
  |none=>opL given i
def qND{given}{i}{A:Ans}(h:given[i]?=O A):opL given (i+1)=Gw given (opL given i) i A:=by simp only[opL,h]
def HY{A B:Ans}:q3G A B=I<->B.kind=1/\A.Ac=B.Ac/\A.Ak=B.Ak/\A.An=B.An/\A.slot=B.slot/\A.listen=B.listen:=by
 unfold q3G;simp only[zj,beq_iff_eq];exact⟨λ⟨h,r⟩=>⟨h.symm,r⟩,λ⟨h,r⟩=>⟨h.symm,r⟩⟩
def qzQ{q:Type}{p:q->zM}:∀{l:F q}{k:Z}{x:q},(l.take k).any p=zb->l[k]?=O x->p x=I->l.findIdx? p=O k
 |[],k,x,_,h,_=>by simp at h
 |y::l,0,x,_,h,u=>by simp at h;subst h;simp[zCg,u]
 |y::l,k+1,x,w,h,u=>by
  simp only[List.take_succ_cons,List.any_cons,zDf]at w;rw[zCg,w.1];simp[qzQ w.2 (by simpa using h) u]
def qgU{q:Type}{p:q->zM}{l:F q}(h:l.any p=zb):l.findIdx? p=zc:=by
 rw[List.findIdx?_eq_none_iff];intro x u;have:=zBK.1 h x u;simpa using this
def qOW{given}{out}{i k}{A:Ans}(q:A.kind≠1)(u:A.kind=6)(h:out.findIdx? (qPN given A)=O k):Gw given out i A=out.eraseIdx k:=by
 unfold Gw;rw[zh q,zk u,h]
def qlT{given}{out}{i}{A:Ans}(q:A.kind≠1)(u:A.kind=6)(h:out.findIdx? (qPN given A)=zc):Gw given out i A=out:=by
 unfold Gw;rw[zh q,zk u,h]
end Go.Proofs.YtlmhpamhhgogaaaGreat.Sx
