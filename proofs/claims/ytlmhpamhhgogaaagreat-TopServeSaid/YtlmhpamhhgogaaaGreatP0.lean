import Derived.ChangeArms
import Derived.WideShapes
import Derived.Lib.Bytealg
import Derived.SizedLaws
import Derived.OpenShut
import Derived.Test.YtlmhpamhhgogaaaGreatS1
set_option linter.all false
set_option maxHeartbeats 16000000
set_option maxRecDepth 100000
open Bool renaming false→zb,true→I
open Classical renaming propDecidable→zBb
open Go renaming Value→zg,World→zp,Program→zv,maxLen→zAp,TypeId→zAw,Addr→zAI
open Go.IntKind renaming i64→zAj,wrap_i64→zBz,u64→zBP
open Go.Value renaming oneCell'→zAY,bool→zBt
open Go.Value.slice renaming injEq→zAg
open List renaming replicate→zAT,range→zA8
open Option renaming some→O,none→zc
open _root_ renaming List→F,Nat→Z,Int→zt,Option→zy,Bool→zO,False→zX
namespace Go.Proofs.YtlmhpamhhgogaaaGreat.Sx
open Go.RowKit
abbrev BA:=ByteArray
abbrev bs(s:BA):F UInt8:=s.data.toList
def qZM{a b}(h:bs a=bs b):a=b:=by
 cases a;cases b;simp only[bs]at h;rw[Array.toList_inj.1 h]
def qmA(s):s.size=(bs s).length:=by cases s;simp[bs,ByteArray.size]
def qtD(s)(l h):bs (s.extract l h)=((bs s).drop l).take (h-l):=by
 simp[bs,ByteArray.data_extract]
abbrev InR(x:zt):Prop:=-9223372036854775808<=x/\x<=9223372036854775807
abbrev InU(x:zt):Prop:=0<=x/\x<=18446744073709551615
def wr{x}(h:InR x):zAj.wrap x=x:=IntWalk.i64_in x h
def qOd{x}(h:(Lit.int .i64 x).wf=I):InR x:=by
 simpa[Lit.wf,IntKind.min,IntKind.max,IntKind.bits,IntKind.signed]using h
def nb1{b}(h:(!b)=I):b=zb:=by simpa using h
def nb0{b}(h:(!b)=zb):b=I:=by simpa using h
def OkV.to{P}{f}{args}{g}{v v'}(h:OkV P f args g v)(e:v=v'):OkV P f args g v':=e▸h
structure F2 where
 listen:BA
 Bb:BA
 path:BA
 Af:BA
structure AW where
 name:BA
 AY:zt
 As:zt
 Az:F zO
structure Bn where
 Aa:F BA
 Ar:F F2
 Ad:F AW
structure FE where
 listen:zt
 Bb:BA
 path:BA
 Af:zt
structure Ej where
 Aa:F BA
 AE:F FE
 Ad:F AW
structure Bw where
 head:zt
 next:F zt
 Ae:zt
structure Bi where
 AF:zt
 ends:F Bw
structure AM where
 Aw:Ej
 Aj:F Bi
 Ba:zO
structure AI where
 name:BA
 drain:zO
 Ae:zt
 closed:zO
structure Bo where
 Ac:zt
 at_:zt
 gone:zO
structure Wd where
 Ai:zt
 current:zt
 AL:zt
 pins:F zt
 Ab:F AM
 Aa:F AI
 counts:F (F zt)
 An:F Bo
abbrev RP(h:Type):=GW->F zg->h->Prop
def BX:RP zt:=λ_ cs x=>cs=[.int .i64 x]/\InR x
def Gu:RP zt:=λ_ cs x=>cs=[.int .u64 x]/\InU x
def E8:RP BA:=λ_ cs s=>cs=[.string s]
def qOX:RP zO:=λ_ cs b=>cs=[.bool b]
def rSl{u:Type}(sz:Z)(R:RP u)(g:GW)(v:zg)(l:F u):Prop:=
 ∃h cap,v=.slice h l.length cap/\l.length<=cap/\cap<=zAp/\(h=zc->l.length=0/\cap=0)/\
  ∀(i:Z)x,l[i]?=O x->∃a,h=O a/\∃q,q.length=sz/\R g q x/\Rcs g (a.add (i*sz)) q
def C7{q:Type}(R:RP q):Prop:=∀g h cs x,g<=h->R g cs x->R h cs x
def Rcs.mono{g g'}{a}{xs}(h:Rcs g a xs)(k:g<=g'):Rcs g' a xs:=λi q u=>(h i q u).mono k
def rSl.mono{q:Type}{sz}{R:RP q}(u:C7 R){g g'}{v}{l}(h:rSl sz R g v l)(k:g<=g'):rSl sz R g' v l:=by
 obtain⟨A,cap,B,C,D,E,H⟩:=h;refine⟨A,cap,B,C,D,E,λi x L=>?_⟩;obtain⟨a,P,Q,T,U,V⟩:=H i x L;exact⟨a,P,Q,T,u _ _ _ _ k U,V.mono k⟩
def quA:C7 BX:=λ_ _ _ _ _ h=>h
def qaK:C7 Gu:=λ_ _ _ _ _ h=>h
def qsE:C7 E8:=λ_ _ _ _ _ h=>h
def q7S:C7 qOX:=λ_ _ _ _ _ h=>h
def q6L:RP F2:=λ_ cs r=>cs=[.string r.listen,.string r.Bb,.string r.path,.string r.Af]
def qdK:C7 q6L:=λ_ _ _ _ _ h=>h
def qTC:RP AW:=λg cs c=>∃h,cs=[.string c.name,.int .i64 c.AY,.int .i64 c.As,h]/\InR c.AY/\InR c.As/\rSl 1 qOX g h c.Az
def qZD:C7 qTC:=λ_ _ _ _ k⟨h,e,a,b,c⟩=>⟨h,e,a,b,c.mono q7S k⟩
def qBB:RP Bn:=λg cs c=>∃a b d,cs=[a,b,d]/\rSl 1 E8 g a c.Aa/\rSl 4 q6L g b c.Ar/\rSl 4 qTC g d c.Ad
def qAA:C7 qBB:=λ_ _ _ _ k⟨a,b,d,e,x,y,z⟩=>⟨a,b,d,e,x.mono qsE k,y.mono qdK k,z.mono qZD k⟩
def qLX:RP FE:=λ_ cs r=>cs=[.int .i64 r.listen,.string r.Bb,.string r.path,.int .i64 r.Af]/\InR r.listen/\InR r.Af
def q5L:C7 qLX:=λ_ _ _ _ _ h=>h
def qDI:RP Ej:=λg cs c=>∃a b d,cs=[a,b,d]/\rSl 1 E8 g a c.Aa/\rSl 4 qLX g b c.AE/\rSl 4 qTC g d c.Ad
def qlB:C7 qDI:=λ_ _ _ _ k⟨a,b,d,e,x,y,z⟩=>⟨a,b,d,e,x.mono qsE k,y.mono q5L k,z.mono qZD k⟩
def KL:RP Bw:=λg cs e=>∃n,cs=[.int .u64 e.head,n,.int .i64 e.Ae]/\InU e.head/\InR e.Ae/\rSl 1 BX g n e.next
def qnU:C7 KL:=λ_ _ _ _ k⟨n,e,a,b,c⟩=>⟨n,e,a,b,c.mono quA k⟩
def qeB:RP AI:=λ_ cs x=>cs=[.string x.name,.bool x.drain,.int .i64 x.Ae,.bool x.closed]/\InR x.Ae
def q4A:C7 qeB:=λ_ _ _ _ _ h=>h
def qFB:RP Bo:=λ_ cs x=>cs=[.int .i64 x.Ac,.int .i64 x.at_,.bool x.gone]/\InR x.Ac/\InR x.at_
def qEB:C7 qFB:=λ_ _ _ _ _ h=>h
def Fy:RP (F zt):=λg cs x=>∃n,cs=[n]/\rSl 1 Gu g n x
def qPB:C7 Fy:=λ_ _ _ _ k⟨n,e,x⟩=>⟨n,e,x.mono qaK k⟩
def qyE{ecs:F (F zg)}{sz:Z}(h:∀e∈ecs,e.length=sz){i j:Z}{ec:F zg}(q:ecs[i]?=O ec){u:zg}(A:ec[j]?=O u):ecs.flatten[i*sz+j]?=O u:=by
 induction ecs generalizing i with
 |nil=>simp at q
 |cons e es C=>
  rw[zCt];have B:=h e se;cases i with
  |zero=>
   simp at q;subst q;rw[Nat.zero_mul,zAr,zAc (ze.1 A).1];exact A
  |succ i=>
   rw[zBg (by rw[B,zCp];omega),show(i+1)*sz+j-e.length=i*sz+j by rw[B,zCp];omega];exact C (λx D=>h x (by simp[D])) (by simpa using q)
def q9C{ecs:F (F zg)}{sz:Z}(h:∀e∈ecs,e.length=sz):ecs.flatten.length=ecs.length*sz:=by
 induction ecs with
 |nil=>simp
 |cons e es q=>rw[zCt,zAx,q λx u=>h x (by simp[u]),h e se,zBy,zCp];omega
def qbK{A:Type}{sz}{R:RP A}{g}{v}{n}{cs}(h:CQ g sz v n cs)(l:F A)(ecs:F (F zg))(E:cs=ecs.flatten)(B:∀e∈ecs,e.length=sz)(H:l.length=n)(ab:ecs.length=l.length)(L:∀(i:Z)x ec,l[i]?=O x->ecs[i]?=O ec->R g ec x):rSl sz R g v l:=by
 subst E;subst H;obtain⟨ac,q,cap,rfl,P,Q,C,T⟩:=h;refine⟨q,cap,rfl,P,Q,C,λi x D=>?_⟩;have ad:=(ze.1 D).1;obtain⟨ec,u⟩:∃ec,ecs[i]?=O ec:=⟨ecs[i]'sa,zAa sa⟩;have U:=B ec (zh u)
 have V:∃a,q=O a:=by
  cases q with
  |some a=>exact⟨a,rfl⟩
  |none=>have:=(C rfl).1;omega
 obtain⟨a,rfl⟩:=V;refine⟨a,rfl,ec,U,L i x ec D u,λj W Y=>?_⟩;obtain⟨ae,aa,af⟩:=T (i*sz+j) W (qyE B u Y);cases aa;rwa [qjG]
def map_flatten(l:F zg):(l.map λx=>[x]).flatten=l:=by
 induction l with
 |nil=>rfl
 |cons x r h=>simp[h]
def qOC{A:Type}{R:RP A}{g}{v}{n}{cs}(h:CQ g 1 v n cs)(l)(f:A->zg)(q:cs=l.map f)(C:∀x∈l,R g [f x] x):rSl 1 R g v l:=by
 have D:l.length=n:=by have:=h.1;rw[q,zBa]at this;omega
 refine qbK h l (cs.map λx=>[x]) (map_flatten cs).symm (λe E=>?_) D (by rw[zBa,q,zBa]) λi x H B u=>?_
 .obtain⟨x,_,rfl⟩:=zU.1 E;rfl
 .rw[q]at u;simp only[zAy,B,zBv]at u;cases u;exact C x (zh B)
def Cj{h q:Type}(f:Z->h->zy q)(l:F h)(i:Z):Prop:=∀j,j<i->∀x,l[j]?=O x->f j x=zc
def qqB{h q:Type}(f:Z->h->zy q):Z->F h->zy q
 |_,[]=>zc
 |i,x::r=>match f i x with
  |some b=>O b
  |none=>qqB f (i+1) r
def Cj.zero{h q:Type}(f:Z->h->zy q)(l:F h):Cj f l 0:=λj u=>sa
def Cj.succ{u A:Type}{f:Z->u->zy A}{l}{i:Z}(h:Cj f l i){x:u}(B:l[i]?=O x)(C:f i x=zc):Cj f l (i+1):=by
 intro j D y q;rcases zAJ j i with k|k
 .exact h j k y q
 .obtain rfl:j=i:=sa
  rw[B]at q;cases q;exact C
def qRM{h A:Type}{f:Z->h->zy A}:∀{l:F h}{k:Z},(∀(j:Z)x,l[j]?=O x->f (k+j) x=zc)->qqB f k l=zc
 |[],_,_=>rfl
 |x::r,k,q=>by
  have u:=q 0 x rfl;simp only[zDy]at u;simp only[qqB,u];exact qRM λj y B=>by have:=q (j+1) y (by simpa using B);rwa [show k+(j+1)=k+1+j by omega]at this
def Cj.done{u A:Type}{f:Z->u->zy A}{l}{i:Z}(h:Cj f l i)(B:l.length<=i):qqB f 0 l=zc:=
 qRM λj x q=>by
  rw[zAr];refine h j ?_ x q;have:=(ze.1 q).1;omega
def qQM{u C:Type}{f}{b:C}:∀{l:F u}{k i:Z}{x:u},(∀j,j<i->∀y,l[j]?=O y->f (k+j) y=zc)->l[i]?=O x->f (k+i) x=O b->qqB f k l=O b
 |[],_,_,_,_,h,_=>by simp at h
 |y::r,k,0,x,_,h,q=>by
  simp at h;subst h;simp only[zDy]at q;simp only[qqB,q]
 |y::r,k,i+1,x,A,h,q=>by
  have B:=A 0 sa y rfl;simp only[zDy]at B;simp only[qqB,B];refine qQM (i:=i) (x:=x) (λj E z D=>?_) (by simpa using h) (by rwa [show k+1+i=k+(i+1) by omega]);have:=A (j+1) sa z (by simpa using D);rwa [show k+(j+1)=k+1+j by omega]at this
def Cj.hit{q u:Type}{f}{l}{i}(h:Cj f l i){x:q}{b:u}(A:l[i]?=O x)(D:f i x=O b):qqB f 0 l=O b:=
 qQM (λj B y C=>by rw[zAr];exact h j B y C) A (by rwa [zAr])
def qEA{q:Type}{l:F q}{i:Z}(h:i<l.length):∃x,l[i]?=O x:=⟨l[i],zAa h⟩
def wr1{i n cap}(h:i<n)(u:n<=cap)(q:cap<=zAp):zAj.wrap ((i:zt)+1)=((i+1:Z):zt):=by
 rw[wr]
 .simp
 .unfold zAp at q;exact⟨sa,sa⟩
def dec{i n}(h:i<n):n-(i+1)<n-i:=sa
def qnD{q:Type}{f:q->zO}{l:F q}{i:Z}(h:i<l.length):(l.take (i+1)).all f=((l.take i).all f&&f l[i]):=by
 rw[zAo h,List.all_append];simp only[List.all_cons,List.all_nil,Bool.and_true]
def qyB{q:Type}{f:q->zO}{l:F q}{i:Z}(h:i<l.length)(k:f l[i]=zb):l.all f=zb:=by
 rw[List.all_eq_false];exact⟨l[i],zDt h,by simp[k]⟩
def EH(w:zp):GW:=⟨w,(·<w.heap.size),λ_ h=>h⟩
def qlU{ad:Type}{sz}{R:RP ad}{g}{oa}{n cap}{l}(h:rSl sz R g (.slice oa n cap) l):∃ecs:F (F zg),CQ g sz (.slice oa n cap) l.length ecs.flatten/\ecs.length=l.length/\(∀e∈ecs,e.length=sz)/\∀(i:Z)x ec,l[i]?=O x->ecs[i]?=O ec->R g ec x:=by
 obtain⟨ak,al,u,ae,af,ag,ah⟩:=h;simp only[zAg]at u;obtain⟨rfl,rfl,rfl⟩:=u
 have Q:∀i:Fin l.length,∃ec:F zg,ec.length=sz/\R g ec l[i.1]/\∃a,oa=O a/\Rcs g (a.add (i.1*sz)) ec:=λi=>by
  obtain⟨a,C,ec,D,ai,E⟩:=ah i.1 l[i.1] (zAa i.2);exact⟨ec,D,ai,a,C,E⟩
 let f:Fin l.length->F zg:=λi=>Classical.choose (Q i);have H:∀i:Fin l.length,(f i).length=sz/\R g (f i) l[i.1]/\∃a,oa=O a/\Rcs g (a.add (i.1*sz)) (f i):=λi=>zDa (Q i)
 have T:∀(i:Z)(q:i<l.length),(List.ofFn f)[i]?=O (f ⟨i,q⟩):=λi q=>by
  rw[zAa (by simpa using q)];simp
 have A:∀e∈List.ofFn f,e.length=sz:=λe u=>by
  obtain⟨i,q⟩:=List.mem_ofFn.1 u;rw[<-q];exact(H i).1
 refine⟨List.ofFn f,⟨?_,oa,cap,rfl,ae,af,ag,λj U V=>?_⟩,se,A,λi x ec L W=>?_⟩
 .rw[q9C A];simp
 .have B:=(ze.1 V).1;rw[q9C A]at B;simp only[zDv]at B
  have Y:0<sz:=by
   rcases zDn sz with P|P
   .rw[P]at B;omega
   .exact P
  have q:j / sz<l.length:=(Nat.div_lt_iff_lt_mul Y).2 B;have hm:=Nat.mod_lt j Y;obtain⟨D,_,a,C,E⟩:=H ⟨j / sz,q⟩;have aa:j / sz*sz+j%sz=j:=by rw[Nat.mul_comm];exact Nat.div_add_mod j sz
  have aj:(f ⟨j / sz,q⟩)[j%sz]?=O U:=by
   obtain⟨ab,ac⟩:∃ab,(f ⟨j / sz,q⟩)[j%sz]?=O ab:=⟨_,zAa (by rw[D];exact hm)⟩;have:=qyE A (T _ q) ac;rw[aa,V]at this;rw[ac,this]
  refine⟨a,C,?_⟩;have:=E _ U aj;rwa [show((a.add (j / sz*sz)).add (j%sz))=a.add j by rw[qjG,aa]]at this
 .have q:=(ze.1 L).1;rw[T i q]at W;cases W;have:=(H ⟨i,q⟩).2.1;rw[zAa q]at L;cases L;exact this
def qcO{q:Type}{sz}{R:RP q}{g}{oa}{n cap}{l}(h:rSl sz R g (.slice oa n cap) l)(f:q->F zg)(D:∀cs x,R g cs x->cs=f x):CQ g sz (.slice oa n cap) l.length ((l.map f).flatten):=by
 obtain⟨u,E,P,Q,H⟩:=qlU h
 have:u=l.map f:=by
  apply zBU;intro i;rw[zAy];rcases zAJ i l.length with A|A
  .obtain⟨x,B⟩:=qEA A;obtain⟨L,C⟩:=qEA (show i<u.length by omega);rw[B,C,D _ _ (H i x L B C)];rfl
  .rw[zBG sa,zBG sa];rfl
 rw[<-this];exact E
def q7C{u:Type}{sz}{R:RP u}{g}{v}{n}{cs}(h:CQ g sz v n cs)(l)(f:u->F zg)(B:cs=(l.map f).flatten)(C:l.length=n)(D:∀x∈l,(f x).length=sz)(E:∀x∈l,R g (f x) x):rSl sz R g v l:=by
 refine qbK h l (l.map f) B (λe H=>?_) C se λi x L q A=>?_
 .obtain⟨x,q,rfl⟩:=zU.1 H;exact D x q
 .rw[zAy,q]at A;cases A;exact E x (zh q)
def rSl.take{B:Type}{sz}{R:RP B}{g}{oa}{n cap}{l}(h:rSl sz R g (.slice oa n cap) l){k}(H:k<=l.length):rSl sz R g (.slice oa k cap) (l.take k):=by
 obtain⟨L,P,u,Q,C,A,D⟩:=h;simp only[zAg]at u;obtain⟨rfl,rfl,rfl⟩:=u;have E:(l.take k).length=k:=sf
 refine⟨oa,cap,by rw[E],sa,C,λh=>⟨by have:=(A h).1;omega,(A h).2⟩,λi x q=>?_⟩;rw[zBd]at q;split at q
 .exact D i x q
 .cases q
def rSl.drop{A:Type}{sz}{R:RP A}{g}{oa}{n cap}{l}(h:rSl sz R g (.slice oa n cap) l){k}(L:k<=l.length):rSl sz R g (.slice (if cap=k then oa else oa.map (·.add (k*sz))) (n-k) (cap-k)) (l.drop k):=by
 obtain⟨P,Q,u,T,U,B,C⟩:=h;simp only[zAg]at u;obtain⟨rfl,rfl,rfl⟩:=u;refine⟨_,cap-k,by rw[zBN],by rw[zBN];omega,sa,λh=>?_,λi x q=>?_⟩
 .have:oa=zc:=by
   split at h
   .exact h
   .cases oa with
    |none=>rfl
    |some a=>cases h
  have:=B this;rw[zBN];omega
 .rw[zCl]at q;obtain⟨a,rfl,D,E,H,V⟩:=C (k+i) x q;have W:=(ze.1 q).1;rw[zj sa];refine⟨_,rfl,D,E,H,?_⟩;rwa [qjG,show k*sz+i*sz=(k+i)*sz by rw[zB1]]
def CQ.take{g}{sz n k cap}{oa}{cs}(h:CQ g sz (.slice oa n cap) n cs)(B:k<=n):CQ g sz (.slice oa k cap) k (cs.take (k*sz)):=by
 obtain⟨H,L,P,u,Q,C,A,D⟩:=h;simp only[zAg,zBL]at u;obtain⟨rfl,rfl⟩:=u;have hm:k*sz<=n*sz:=zB8 _ B;refine⟨by rw[zBe];omega,oa,cap,rfl,sa,C,λh=>⟨by have:=(A h).1;omega,(A h).2⟩,λi E q=>?_⟩;rw[zBd]at q;split at q
 .exact D i E q
 .cases q
def BM{h:Type}(f:h->zO)(l:F h):zy Z:=qqB (λi x=>if f x then O i else zc) 0 l
def Cz:zy Z->zt
 |some i=>i
 |none=>-1
abbrev Eg{h:Type}(f:h->zO):Z->h->zy Z:=λi x=>if f x then O i else zc
def q0G{q:Type}{f:q->zO}{l}{i}(h:Cj (Eg f) l i){x:q}(u:l[i]?=O x)(A:f x=I):Cz (BM f l)=i:=by
 have:=h.hit u (b:=i) (by simp[Eg,A]);rw[show BM f l=O i from this];rfl
def q2D{q:Type}{f:q->zO}{l}{i}(h:Cj (Eg f) l i)(u:l.length<=i):Cz (BM f l)=-1:=by
 rw[show BM f l=zc from h.done u];rfl
def qVF{q:Type}{f:q->zO}{l}{i}(h:Cj (Eg f) l i){x:q}(u:l[i]?=O x)(A:f x=zb):Cj (Eg f) l (i+1):=h.succ u (by simp[Eg,A])
def qWG{q A:Type}{f}:∀{l:F q}{k:Z},qqB f k l=zc\/∃(i:Z)(x:q)(b:A),qqB f k l=O b/\l[i]?=O x/\f (k+i) x=O b/\∀j,j<i->∀y,l[j]?=O y->f (k+j) y=zc
 |[],_=>.inl rfl
 |x::r,k=>by
  simp only[qqB];cases u:f k x with
  |some b=>exact .inr ⟨0,x,b,rfl,rfl,u,λj B=>sa⟩
  |none=>
   rcases qWG (f:=f) (l:=r) (k:=k+1)with C|⟨i,y,b,D,E,L,H⟩
   .exact .inl C
   .refine .inr ⟨i+1,y,b,D,by simpa using E,by rwa [show k+(i+1)=k+1+i by omega],λj B z h=>?_⟩;cases j with
    |zero=>simp at h;subst h;exact u
    |succ j=>
     have:=H j sa z (by simpa using h);rwa [show k+(j+1)=k+1+j by omega]
def q1D{A:Type}{f:A->zO}{l}{i}(h:BM f l=O i):∃x,l[i]?=O x/\f x=I/\∀j,j<i->∀y,l[j]?=O y->f y=zb:=by
 rcases qWG (f:=Eg f) (l:=l) (k:=0)with u|⟨j,x,b,u,B,q,C⟩
 .rw[show BM f l=zc from u]at h;cases h
 .rw[show BM f l=O b from u]at h;cases h;simp only[Eg,zAr]at q;split at q
  .rename_i D;cases q;refine⟨x,B,D,λj E y H=>?_⟩;have:=C j E y H;simp only[Eg]at this;split at this
   .cases this
   .rename_i L;simpa using L
  .cases q
def C3{C:Type}{f:C->zO}{l}:BM f l=zc<->l.any f=zb:=by
 constructor
 .intro A;rw[zBr];intro x h;obtain⟨i,Q⟩:=zBC h;rcases qWG (f:=Eg f) (l:=l) (k:=0)with q|⟨j,y,b,q,_⟩
  .intro D
   have E:∀(l:F C)(k:Z),qqB (Eg f) k l=zc->∀x∈l,f x=zb:=by
    intro l
    induction l with
    |nil=>intro k _ x h;cases h
    |cons y r H=>
     intro k u x h;simp only[qqB,Eg]at u;cases B:f y with
     |true=>rw[B]at u;cases u
     |false=>
      rw[B]at u;rcases zs.1 h with rfl|h
      .exact B
      .exact H _ u x h
   rw[E l 0 q x h]at D;cases D
  .rw[show BM f l=O b from q]at A;cases A
 .intro A;cases L:BM f l with
  |none=>rfl
  |some i=>
   obtain⟨x,q,P,_⟩:=q1D L;have:=zBr.1 A x (zh q);rw[P]at this;simp at this
def qUN{q:Type}(f:q->zO)(l):decide (0<=Cz (BM f l))=l.any f:=by
 cases h:BM f l with
 |none=>rw[C3.1 h];rfl
 |some i=>
  obtain⟨x,u,A,_⟩:=q1D h;rw[zBY.2 ⟨x,zh u,A⟩];simp[Cz]
def qta{q:Type}{f:q->zO}{l}{i}(h:BM f l=O i):i<l.length:=by
 obtain⟨x,u,_⟩:=q1D h;exact(ze.1 u).1
def Br.dom{g}{lo}{ety}{size b n cap}{cs}(h:Br g lo ety size (.slice (O ⟨b,0,zc⟩) n cap) n cs):g.g b:=by
 obtain⟨_,q,_⟩:=h;rcases q with⟨q,_⟩|⟨B,C,D,u,A,_⟩
 .cases q
 .simp only[zAg,zAh,Addr.mk.injEq]at u;obtain⟨⟨rfl,_⟩,_⟩:=u;exact A.2
def Br.ne{g}{lo}{ety}{size b q n cap}{cs}(h:Br g lo ety size (.slice (O ⟨b,0,zc⟩) n cap) n cs)(u:¬g.g q):b≠q:=λe=>u (e▸h.dom)
def Br.keep{g g'}{lo}{ety}{size b q n cap}{cs}{o}(h:Br g lo ety size (.slice (O ⟨q,0,zc⟩) n cap) n cs)(u:Upd g b o g')(D:q≠b):Br g' lo ety size (.slice (O ⟨q,0,zc⟩) n cap) n cs:=by
 obtain⟨E,A,H⟩:=h;refine⟨E,?_,H⟩;rcases A with⟨A,_⟩|⟨q,R,L,C,B,P,Q⟩
 .cases A
 .simp only[zAg,zAh,Addr.mk.injEq]at C;obtain⟨⟨rfl,_⟩,_,rfl⟩:=C;exact .inr ⟨_,_,L,rfl,⟨B.1,(u.dom _).2 B.2⟩,(u.other _ B.2 D).trans P,Q⟩
def Br.H9{g}{lo}{ety}{size b n cap}{cs}(h:Br g lo ety size (.slice (O ⟨b,0,zc⟩) n cap) n cs):∃rest,(lo<=b/\g.g b/\g.w.heap[b]?=O (.cells ⟨cs++rest⟩ ety (0,0)))/\∀(j m:Z)(vs:F zg)g',j+m<=cs.length->m=vs.length->(∀u∈vs,u.oneCell'=I)->Upd g b (.cells ⟨(cs++rest).take j++vs++(cs++rest).drop (j+m)⟩ ety (0,0)) g'->Br g' lo ety size (.slice (O ⟨b,0,zc⟩) n cap) n (cs.take j++vs++cs.drop (j+m)):=by
 obtain⟨E,B,C⟩:=h;rcases B with⟨B,_⟩|⟨T,U,rest,D,A,H,L,P,Q⟩
 .cases B
 .simp only[zAg,zAh,Addr.mk.injEq]at D;obtain⟨⟨rfl,_⟩,_,rfl⟩:=D;refine⟨rest,⟨A.1,A.2,H⟩,λj m vs g' V hm R u=>?_⟩;subst hm
  have e:(cs++rest).take j++vs++(cs++rest).drop (j+vs.length)=(cs.take j++vs++cs.drop (j+vs.length))++rest:=by
   rw[zCe sa,zCF sa];simp
  rw[e]at u;refine⟨?_,.inr ⟨b,cap,rest,rfl,⟨A.1,(u.dom _).2 A.2⟩,u.obj,L,P,?_⟩,λx q=>?_⟩
  .rw[<-E];simp;omega
  .rw[<-Q];simp;omega
  .rcases zN.1 q with q|q
   .rcases zN.1 q with q|q
    .exact C x (zBZ q)
    .exact R x q
   .exact C x (zCu q)
def LX{A:Type}{l:F A}{f:A->F zg}(h:∀x∈l,(f x).all zAY=I):∀u∈(l.map f).flatten,u.oneCell'=I:=λu q=>by
 obtain⟨c,B,q⟩:=zC8.1 q;obtain⟨x,C,rfl⟩:=zU.1 B;exact zAs.1 (h x C) u q
section
variable{H:Type}{enc:zAw×zg->H}{P:zv}{W:zp}
abbrev tr(enc:zAw×zg->H)(P:zv)(W:zp)(fuel:Z)(t:zAw)(cs:F zg):=DataW.trod enc P W 0 (λ_=>I) I fuel t cs
def Rds{h:Type}(enc:zAw×zg->H)(P:zv)(W:zp)(t:zAw)(R:RP h):Prop:=∀fuel cs x,tr enc P W fuel t cs=O x->∃a,R (EH W) cs a
def qjU{t}(q:P.underlying t=O (.int .i64)):Rds enc P W t BX:=by
 intro fuel cs x h;cases fuel with
 |zero=>simp[tr,DataW.trod]at h
 |succ n=>
  unfold tr DataW.trod at h;rw[q]at h;split at h<;>try(first|(cases h;done)|(simp_all;done))
  rename_i u;cases u;split at h
  .rename_i A;obtain⟨rfl,B⟩:=A;exact⟨_,rfl,qOd B⟩
  .cases h
def qtZ{t}(q:P.underlying t=O .bool):Rds enc P W t qOX:=by
 intro fuel cs x h;cases fuel with
 |zero=>simp[tr,DataW.trod]at h
 |succ n=>
  unfold tr DataW.trod at h;rw[q]at h;split at h<;>try(first|cases h;done|simp_all;done)
  exact⟨_,rfl⟩
def q4L{t}(q:P.underlying t=O .string):Rds enc P W t E8:=by
 intro fuel cs x h;cases fuel with
 |zero=>simp[tr,DataW.trod]at h
 |succ n=>
  unfold tr DataW.trod at h;rw[q]at h;split at h<;>simp_all;exact⟨_,rfl⟩
def LN{h:Type}(sz:Z)(R:RP h):RP (F h):=λg cs l=>∃v,cs=[v]/\rSl sz R g v l
def qvO{q u:Type}{f:q->zy u}:∀{l:F q}{r:F u},l.mapM f=O r->∀(i:Z)x,l[i]?=O x->∃y,r[i]?=O y/\f x=O y:=by
 intro l
 induction l with
 |nil=>intro r _ i x h;simp at h
 |cons a l B=>
  intro r A i x h;simp only[zCY,Option.bind_eq_bind,zAC,Option.pure_def,zAh]at A;obtain⟨y,C,E,D,rfl⟩:=A;cases i with
  |zero=>simp at h;subst h;exact⟨y,rfl,C⟩
  |succ i=>simpa using B D i x (by simpa using h)
def qvJ{C:Type}{t e}{sz}{R:RP C}(aa:P.underlying t=O (.slice e))(hs:P.cellsOf e=sz)(_:0<sz)(ab:Rds enc P W e R):Rds enc P W t (LN sz R):=by
 intro fuel cs x D;rcases DataW.trod_slice aa D with⟨rfl,_⟩|⟨a,len,cap,ag,ah,n,_,rfl,_,_,ac,ad,ai,E,_⟩
 .exact⟨[],_,rfl,zc,0,rfl,zH _,zJ _,λ_=>⟨rfl,rfl⟩,λi x u=>by simp at u⟩
 .rw[hs]at E
  have L:∀i,i<len->∃(x:C)(h:F zg),h.length=sz/\R (EH W) h x/\Rcs (EH W) (a.add (i*sz)) h:=λi A=>by
   have Q:=E i A;rw[zAa sa]at Q;obtain⟨h,q,ae⟩:=zAC.1 Q;obtain⟨x,u⟩:=ab n h _ ae;unfold World.cells? at q;rw[zk (zJ _)]at q;have T:=mapM_some_length q;refine⟨x,h,by simpa using T,u,λj aj U=>?_⟩;have ak:=(ze.1 U).1;have al:h.length=sz:=by simpa using T
   obtain⟨y,V,B⟩:=qvO q j j (zCg sa);rw[U]at V;cases V;refine⟨?_,B⟩;show _<W.heap.size;unfold World.cell? at B;cases Y:W.heap[((a.add (i*sz)).add j).block]? with
   |none=>rw[Y]at B;cases B
   |some o=>exact(zAb.1 Y).1
  let f:Fin len->C:=λi=>Classical.choose (L i.1 i.2);have af:∀i:Fin len,∃(h:F zg),h.length=sz/\R (EH W) h (f i)/\Rcs (EH W) (a.add (i.1*sz)) h:=λi=>zDa (L i.1 i.2);refine⟨List.ofFn f,_,rfl,O a,cap,se,by simpa using ac,ad,(λD=>by cases D),λi x u=>⟨a,rfl,?_⟩⟩;obtain⟨A,q⟩:=ze.1 u;simp only[List.getElem_ofFn]at q;simp only[zDv]at A;have:=af ⟨i,A⟩;rw[<-q];exact this
def fieldsOf(P:zv)(t:zAw):zy (F (Z×Z×zAw)):=match P.underlying t with
 |some (.struct h)=>O (h.toList.map λf=>(f.offset,P.cellsOf f.type,f.type))
 |_=>zc
def qsV{t}{l}(q:fieldsOf P t=O l){fuel}{cs}{x:DataW H×F MemPlace}(h:tr enc P W fuel t cs=O x):cs.length=P.cellsOf t/\∀(i o s:Z)(u:zAw),l[i]?=O (o,s,u)->∃n y,tr enc P W n u ((cs.drop o).take s)=O y:=by
 unfold fieldsOf at q;split at q
 .rename_i Q C;simp only[zAh]at q;subst q;obtain⟨D,n,rfl,_,E,R,L⟩:=DataW.trod_struct C h;refine⟨E,λi o s u A=>?_⟩;simp only[zAy,zD,zCm]at A;obtain⟨f,q,B⟩:=A;simp only[zCE]at B;obtain⟨rfl,rfl,rfl⟩:=B;have T:=(zAb.1 q).1;exact⟨n,D[i]'sa,by rw[<-zAa];exact L i f q⟩
 .cases q
def Rds.fld{q:Type}{u}{R:RP q}(A:Rds enc P W u R){cs}(h:∃n y,tr enc P W n u cs=O y):∃a,R (EH W) cs a:=let⟨n,y,B⟩:=h;A n cs y B
variable{tS tI tB:zAw}
def qKX{t}(A:fieldsOf P t=O [(0,1,tS),(1,1,tS),(2,1,tS),(3,1,tS)])(B:P.cellsOf t=4)(h:P.underlying tS=O .string):Rds enc P W t q6L:=by
 intro fuel cs x C;obtain⟨u,q⟩:=qsV A C;rw[B]at u
 match cs,u with
 |[a,b,c,d],_=>
  obtain⟨D,E⟩:=(q4L h).fld (q 0 _ _ _ rfl);obtain⟨L,e1⟩:=(q4L h).fld (q 1 _ _ _ rfl);obtain⟨Q,e2⟩:=(q4L h).fld (q 2 _ _ _ rfl);obtain⟨s3,e3⟩:=(q4L h).fld (q 3 _ _ _ rfl);cases E;cases e1;cases e2;cases e3;exact⟨⟨D,L,Q,s3⟩,rfl⟩
def q5S{t tL}(A:fieldsOf P t=O [(0,1,tS),(1,1,tI),(2,1,tI),(3,1,tL)])(B:P.cellsOf t=4)(C:P.underlying tS=O .string)(q:P.underlying tI=O (.int .i64))(D:P.underlying tL=O (.slice tB))(E:P.underlying tB=O .bool)(L:P.cellsOf tB=1):Rds enc P W t qTC:=by
 intro fuel cs x Q;obtain⟨u,h⟩:=qsV A Q;rw[B]at u
 match cs,u with
 |[a,b,c,d],_=>
  obtain⟨R,T⟩:=(q4L C).fld (h 0 _ _ _ rfl);obtain⟨U,e1,w1⟩:=(qjU q).fld (h 1 _ _ _ rfl);obtain⟨V,e2,Y⟩:=(qjU q).fld (h 2 _ _ _ rfl);obtain⟨s3,v,e3,aa⟩:=(qvJ D L sa (qtZ E)).fld (h 3 _ _ _ rfl);cases T;cases e1;cases e2;cases e3;exact⟨⟨R,U,V,s3⟩,_,rfl,w1,Y,aa⟩
def qJX{B C D:Type}{t t0 t1 t2 e0 e1 e2}{z0 z1 z2}{R0:RP B}{R1:RP C}{u:RP D}(E:fieldsOf P t=O [(0,1,t0),(1,1,t1),(2,1,t2)])(L:P.cellsOf t=3)(Q:P.underlying t0=O (.slice e0))(R:P.underlying t1=O (.slice e1))(T:P.underlying t2=O (.slice e2))(c0:P.cellsOf e0=z0)(c1:P.cellsOf e1=z1)(c2:P.cellsOf e2=z2)(U:0<z0)(V:0<z1)(Y:0<z2)(aa:Rds enc P W e0 R0)(r1:Rds enc P W e1 R1)(ab:Rds enc P W e2 u){fuel}{cs}{x:DataW H×F MemPlace}(h:tr enc P W fuel t cs=O x):∃a b d,cs=[a,b,d]/\(∃l,rSl z0 R0 (EH W) a l)/\(∃l,rSl z1 R1 (EH W) b l)/\∃l,rSl z2 u (EH W) d l:=by
 obtain⟨A,q⟩:=qsV E h;rw[L]at A
 match cs,A with
 |[a,b,c],_=>
  obtain⟨ac,al,ad,ae⟩:=(qvJ Q c0 U aa).fld (q 0 _ _ _ rfl);obtain⟨af,am,ag,ah⟩:=(qvJ R c1 V r1).fld (q 1 _ _ _ rfl);obtain⟨ai,an,aj,ak⟩:=(qvJ T c2 Y ab).fld (q 2 _ _ _ rfl);cases ad;cases ag;cases aj;exact⟨_,_,_,rfl,⟨ac,ae⟩,⟨af,ah⟩,ai,ak⟩
end
def aV{h:Type}(R:RP h)(g:GW)(v:zg)(a:h):Prop:=∃cs,v=.agg ⟨cs⟩/\R g cs a
end Go.Proofs.YtlmhpamhhgogaaaGreat.Sx
namespace Go.Proofs.YtlmhpamhhgogaaaGreat.Sx
structure OpD where
 kind:zt
 listen:BA
 Bb:BA
 path:BA
 d0:zt
 d1:zt
 n:zt
 Ao:Bn
structure F9 where
 first:Bn
 Av:F (F OpD)
 Bq:F zt
def rOp:RP OpD:=λg cs o=>∃a b d,cs=[.int .i64 o.kind,.string o.listen,.string o.Bb,.string o.path,.int .i64 o.d0,.int .i64 o.d1,.int .i64 o.n,a,b,d]/\(InR o.kind/\InR o.d0/\InR o.d1/\InR o.n)/\qBB g [a,b,d] o.Ao
def qYD:C7 rOp:=λ_ _ _ _ k⟨a,b,d,e,i,h⟩=>⟨a,b,d,e,i,qAA _ _ _ _ k h⟩
def q0I:RP (F OpD):=λg cs l=>∃v,cs=[v]/\rSl 10 rOp g v l
def qbO:C7 q0I:=λ_ _ _ _ k⟨v,e,h⟩=>⟨v,e,h.mono qYD k⟩
def qAG:RP F9:=λg cs s=>∃a b d t p,cs=[a,b,d,t,p]/\qBB g [a,b,d] s.first/\rSl 1 q0I g t s.Av/\rSl 1 BX g p s.Bq
def q9F:C7 qAG:=λ_ _ _ _ k⟨a,b,d,t,p,e,h,q,u⟩=>⟨a,b,d,t,p,e,qAA _ _ _ _ k h,q.mono qbO k,u.mono quA k⟩
def qcK{C:Type}{sz}{R:RP C}{g}{v}{n}{cs}(h:CQ g sz v n cs)(l)(D:l.length=n)(W:0<sz)(E:∀(i:Z)x,l[i]?=O x->R g ((cs.drop (i*sz)).take sz) x):rSl sz R g v l:=by
 subst D;obtain⟨H,u,cap,rfl,L,P,A,Q⟩:=h;refine⟨u,cap,rfl,L,P,A,λi x B=>?_⟩;have T:=(ze.1 B).1;have Y:i*sz+sz<=cs.length:=by rw[H,<-zCp];exact zB8 _ T
 obtain⟨a,rfl⟩:∃a,u=O a:=by
  cases u with
  |some a=>exact⟨a,rfl⟩
  |none=>have:=(A rfl).1;omega
 refine⟨a,rfl,_,sf,E i x B,λj U q=>?_⟩;rw[zBd]at q;split at q
 .rw[zCl]at q;obtain⟨aa,V,ab⟩:=Q _ U q;cases V;rwa [qjG]
 .cases q
structure C6 where
 c0:zt
 c1:zt
 c2:zt
 c3:zt
 c4:zt
 c5:zt
abbrev C6.cs(c:C6):F zg:=[.int .u64 c.c0,.int .u64 c.c1,.int .u64 c.c2,.int .u64 c.c3,.int .u64 c.c4,.int .u64 c.c5]
def C6.get(c:C6):Z->zt
 |0=>c.c0
 |1=>c.c1
 |2=>c.c2
 |3=>c.c3
 |4=>c.c4
 |_=>c.c5
def C6.set(c:C6)(n:zt):Z->C6
 |0=>{c with c0:=n}
 |1=>{c with c1:=n}
 |2=>{c with c2:=n}
 |3=>{c with c3:=n}
 |4=>{c with c4:=n}
 |_=>{c with c5:=n}
structure C6.ok(c:C6):Prop where
 k0:InU c.c0
 k1:InU c.c1
 k2:InU c.c2
 k3:InU c.c3
 k4:InU c.c4
 k5:InU c.c5
def c60:C6:=⟨0,0,0,0,0,0⟩
structure Ans where
 kind:zt
 Ac:zt
 Af:zt
 Ak:zt
 slot:zt
 listen:zt
 n:zt
 counts:C6
def BY:Ans:=⟨0,0,0,0,0,0,0,c60⟩
abbrev Ans.cs(a:Ans):F zg:=[.int .i64 a.kind,.int .i64 a.Ac,.int .i64 a.Af,.int .i64 a.Ak,.int .i64 a.slot,.int .i64 a.listen,.int .i64 a.n,.int .u64 a.counts.c0,.int .u64 a.counts.c1,.int .u64 a.counts.c2,.int .u64 a.counts.c3,.int .u64 a.counts.c4,.int .u64 a.counts.c5]
structure Ans.ok(a:Ans):Prop where
 kind:InR a.kind
 Ac:InR a.Ac
 Af:InR a.Af
 Ak:InR a.Ak
 slot:InR a.slot
 listen:InR a.listen
 n:InR a.n
 counts:a.counts.ok
structure Ev where
 Al:zt
 op:zt
 access:zt
 cell:zt
 Ac:zt
 Ba:zO
 value:zt
 HP:zO
 EE:zO
 done:zO
 answer:Ans
def ev0:Ev:=⟨0,0,0,0,0,zb,0,zb,zb,zb,BY⟩
abbrev Ev.cs(e:Ev):F zg:=[.int .i64 e.Al,.int .i64 e.op,.int .i64 e.access,.int .i64 e.cell,.int .i64 e.Ac,.bool e.Ba,.int .i64 e.value,.bool e.HP,.bool e.EE,.bool e.done,
 .int .i64 e.answer.kind,.int .i64 e.answer.Ac,.int .i64 e.answer.Af,.int .i64 e.answer.Ak,.int .i64 e.answer.slot,.int .i64 e.answer.listen,.int .i64 e.answer.n,.int .u64 e.answer.counts.c0,.int .u64 e.answer.counts.c1,.int .u64 e.answer.counts.c2,.int .u64 e.answer.counts.c3,.int .u64 e.answer.counts.c4,.int .u64 e.answer.counts.c5]
structure Ah where
 op:OpD
 Al:zt
 pc:zt
 Ai:zt
 Ac:zt
 listen:zt
 Af:zt
 Ak:zt
 other:zt
 slot:zt
 word:zt
 link:zt
 i:zt
 k:zt
 sum:zt
 done:zO
 answer:Ans
 counts:C6
structure Ah.ok(m:Ah):Prop where
 Al:InR m.Al
 pc:InR m.pc
 Ai:InR m.Ai
 Ac:InR m.Ac
 listen:InR m.listen
 Af:InR m.Af
 Ak:InR m.Ak
 other:InR m.other
 slot:InR m.slot
 word:InU m.word
 link:InR m.link
 i:InR m.i
 k:InR m.k
 sum:InR m.sum
 answer:m.answer.ok
 counts:m.counts.ok
abbrev Ah.cs(a b d:zg)(m:Ah):F zg:=[.int .i64 m.op.kind,.string m.op.listen,.string m.op.Bb,.string m.op.path,.int .i64 m.op.d0,.int .i64 m.op.d1,.int .i64 m.op.n,a,b,d,
 .int .i64 m.Al,.int .i64 m.pc,.int .i64 m.Ai,.int .i64 m.Ac,.int .i64 m.listen,.int .i64 m.Af,.int .i64 m.Ak,.int .i64 m.other,.int .i64 m.slot,.int .u64 m.word,.int .i64 m.link,.int .i64 m.i,.int .i64 m.k,.int .i64 m.sum,.bool m.done,
 .int .i64 m.answer.kind,.int .i64 m.answer.Ac,.int .i64 m.answer.Af,.int .i64 m.answer.Ak,.int .i64 m.answer.slot,.int .i64 m.answer.listen,.int .i64 m.answer.n,.int .u64 m.answer.counts.c0,.int .u64 m.answer.counts.c1,.int .u64 m.answer.counts.c2,.int .u64 m.answer.counts.c3,.int .u64 m.answer.counts.c4,.int .u64 m.answer.counts.c5,
 .int .u64 m.counts.c0,.int .u64 m.counts.c1,.int .u64 m.counts.c2,.int .u64 m.counts.c3,.int .u64 m.counts.c4,.int .u64 m.counts.c5]
def qdA:RP Ah:=λg cs m=>∃a b d,cs=m.cs a b d/\m.ok/\(InR m.op.kind/\InR m.op.d0/\InR m.op.d1/\InR m.op.n)/\qBB g [a,b,d] m.op.Ao
def qTA:C7 qdA:=λ_ _ _ _ k⟨a,b,d,e,h,i,c⟩=>⟨a,b,d,e,h,i,qAA _ _ _ _ k c⟩
def E9:RP Ans:=λ_ cs a=>cs=a.cs/\a.ok
def qDG:C7 E9:=λ_ _ _ _ _ h=>h
end Go.Proofs.YtlmhpamhhgogaaaGreat.Sx
namespace Go
open Go.Lib
def qMD(b:UInt8):F UInt8->F (F UInt8)
 |[]=>[[]]
 |c::r=>if c==b then[]::qMD b r else match qMD b r with
  |p::h=>(c::p)::h
  |[]=>[[c]]
def qFG(b):∀L,(indexByte L b=-1/\qMD b L=[L])\/(∃i:Z,i<L.length/\indexByte L b=i/\qMD b L=L.take i::qMD b (L.drop (i+1)))
 |[]=>.inl ⟨rfl,rfl⟩
 |c::r=>by
  have e1:qMD b (c::r)=if c==b then[]::qMD b r else match qMD b r with
   |p::u=>(c::p)::u
   |[]=>[[c]]:=rfl
  have e2:indexByte (c::r) b=if c==b then 0 else if indexByte r b==-1 then -1 else indexByte r b+1:=rfl;rw[e1,e2];cases A:c==b with
  |true=>exact .inr ⟨0,by simp,by simp,by simp⟩
  |false=>
   rcases qFG b r with⟨h,q⟩|⟨i,B,h,q⟩
   .exact .inl ⟨by simp[h],by simp[q]⟩
   .refine .inr ⟨i+1,by simp;omega,?_,by rw[q];simp⟩;have:((i:zt)==-1)=zb:=by rw[beq_eq_false_iff_ne];omega
    simp[h,this]
end Go
namespace Go.Proofs.YtlmhpamhhgogaaaGreat.Sx
def Ic(c:zt):zO:=decide (97<=c)&&decide (c<=122)
def qDK(c:zt):zO:=Ic c||(decide (48<=c)&&decide (c<=57))||c==45
def qDE(l:F UInt8):zO:=decide (0<l.length)&&decide (l.length<=16)&&l.head?.any (λc=>Ic c.toNat)&&l.all λc=>qDK c.toNat
def qoJ(l:F UInt8):zO:=decide (l.length<=32)&&(qMD 46 l).all qDE
abbrev Ed(p s:F UInt8):zO:=p.isPrefixOf s
abbrev Hz(t s:F UInt8):zO:=t.isSuffixOf s
def qMQ(p s):Ed p s=(decide (p.length<=s.length)&&s.take p.length==p):=by
 rw[zCf];simp only[zl,zF,beq_iff_eq];rw[List.isPrefixOf_iff_prefix,List.prefix_iff_eq_take];constructor
 .intro h;have:=zI List.length h;simp only[zBe]at this;exact⟨sa,h.symm⟩
 .exact λh=>h.2.symm
def qQU(t s):Hz t s=(decide (t.length<=s.length)&&s.drop (s.length-t.length)==t):=by
 rw[zCf];simp only[zl,zF,beq_iff_eq];rw[List.isSuffixOf_iff_suffix,List.suffix_iff_eq_drop];constructor
 .intro h;have:=zI List.length h;simp only[zBN]at this;exact⟨sa,h.symm⟩
 .exact λh=>h.2.symm
def qtB(l:F UInt8):zO:=if Ed [42,46] l then qoJ (l.drop 2)else l==[42]||qoJ l
def qDH(l:F UInt8):zO:=decide (0<l.length)&&decide (l.length<=32)&&l.head?.any (λc=>(c.toNat:zt)==47)&&l.all λc=>(c.toNat:zt)==47||qDK c.toNat
def qyW(t h:F UInt8):zO:=t==[]||(decide (t.length<h.length)&&Hz t h)
def qOI(p h:F UInt8):zO:=qtB p&&qoJ h&&(p==h||(Ed [42] p&&qyW (p.drop 1) h))
def qOJ(a b:F UInt8):zO:=qDH a&&qDH b&&Ed b a&&(a.drop b.length==[]||Hz [47] b||(a.drop b.length).head?==O 47)
def qOB(p:F UInt8):zt:=if qtB p then(if Ed [42,46] p then((p.drop 2).length:zt)else if p==[42]then 0 else 100)else 0
def qIJ(a p b q:F UInt8):zO:=if qOB a !=qOB b then decide (qOB b<qOB a)else decide (q.length<p.length)
def qmT(a p b q):qIJ a p b q=(decide (qOB b<qOB a)||(qOB a==qOB b&&decide (q.length<p.length))):=by
 unfold qIJ;by_cases h:qOB a=qOB b
 .simp[h]
 .simp[h]
def Dk(l:F BA)(s:BA):zO:=l.any λx=>bs x==bs s
def Gy(l:F AW)(s:BA):zO:=l.any λx=>bs x.name==bs s
def G2(q r:F2):zO:=bs q.listen==bs r.listen&&bs q.Bb==bs r.Bb&&bs q.path==bs r.path
abbrev EI:=zt×zt
def qmL(c:Bn):zy EI:=if(1<=c.Aa.length/\c.Aa.length<=4)/\(1<=c.Ar.length/\c.Ar.length<=8)/\(1<=c.Ad.length/\c.Ad.length<=4)then zc else O (6,0)
def qSF(l:F BA)(i:Z)(s:BA):zy EI:=if qDE (bs s)then(if Dk (l.take i) s then O (4,i)else zc)else O (3,i)
def qcD(c:Bn):zy EI:=qqB (qSF c.Aa) 0 c.Aa
def qcB(l:F AW)(i:Z)(x:AW):zy EI:=
 if qDE (bs x.name)then(if Gy (l.take i) x.name then O (4,i)else if x.AY=1\/x.AY=2 then(if 1<=x.As/\x.As<=4 then(if 1<=x.Az.length/\x.Az.length<=4 then zc else O (6,i))else O (10,i))else O (9,i))else O (3,i)
def qOD(c:Bn):zy EI:=qqB (qcB c.Ad) 0 c.Ad
def qqE(c:Bn)(i:Z)(r:F2):zy EI:=
 if Dk c.Aa r.listen then(if qtB (bs r.Bb)then(if qDH (bs r.path)then(if Gy c.Ad r.Af then(if(c.Ar.take i).any λh=>G2 h r then O (4,i)else zc)else O (5,i))else O (8,i))else O (7,i))else O (5,i)
def q7F(c:Bn):zy EI:=qqB (qqE c) 0 c.Ar
def qOA(c:Bn):zy EI:=match qmL c with
 |some e=>O e
 |none=>match qcD c with
  |some e=>O e
  |none=>match qOD c with
   |some e=>O e
   |none=>q7F c
def eiT:zy EI->zg
 |none=>.tuple #[.int .i64 0,.int .i64 0]
 |some (e,i)=>.tuple #[.int .i64 e,.int .i64 i]
def qYF{u A:Type}{f:Z->u->zy A}{l}:qqB f 0 l=zc<->∀(i:Z)x,l[i]?=O x->f i x=zc:=by
 constructor
 .intro h i
  induction i using Nat.strongRecOn with
  |ind i B=>
   intro x q;cases C:f i x with
   |none=>rfl
   |some b=>
    have:=Cj.hit (f:=f) (l:=l) (i:=i) (λj D y E=>B j D y E) q C;rw[this]at h;cases h
 .intro h;exact Cj.done (i:=l.length) (λj _ x q=>h j x q) (zH _)
def qoH{q B:Type}{f}{l}{b:B}(h:qqB f 0 l=O b):∃(i:Z)(x:q),l[i]?=O x/\f i x=O b:=by
 have C:∀{l:F q}{k:Z},qqB f k l=O b->∃(i:Z)(x:q),l[i]?=O x/\f (k+i) x=O b:=by
  intro l
  induction l with
  |nil=>intro k h;simp[qqB]at h
  |cons x r D=>
   intro k h;simp only[qqB]at h;split at h
   .rename_i c E;simp only[zAh]at h;subst h;exact⟨0,x,rfl,E⟩
   .obtain⟨i,y,u,A⟩:=D h;exact⟨i+1,y,by simpa using u,by rwa [show k+(i+1)=k+1+i by omega]⟩
 obtain⟨i,x,u,A⟩:=C h;exact⟨i,x,u,by rwa [zAr]at A⟩
def q0C{c}{e i}(h:qOA c=O (e,i)):3<=e/\e<=10/\0<=i:=by
 unfold qOA at h;split at h
 .rename_i x u;simp only[zAh]at h;subst h;unfold qmL at u;split at u
  .cases u
  .simp at u;omega
 .split at h
  .rename_i x u;simp only[zAh]at h;subst h;obtain⟨j,y,_,q⟩:=qoH u;unfold qSF at q
   (repeat'(split at q))<;>simp at q<;>omega
  .split at h
   .rename_i x u;simp only[zAh]at h;subst h;obtain⟨j,y,_,q⟩:=qoH u;unfold qcB at q
    (repeat'(split at q))<;>simp at q<;>omega
   .obtain⟨j,y,_,q⟩:=qoH h;unfold qqE at q
    (repeat'(split at q))<;>simp at q<;>omega
def GN{h:Type}(f:h->h->zO)(l:F h):Prop:=∀(i j:Z)x y,i<j->l[i]?=O x->l[j]?=O y->f x y=zb
def CP{A:Type}{f:A->zO}{l:F A}{i:Z}:(l.take i).any f=zb<->∀(j:Z)x,j<i->l[j]?=O x->f x=zb:=by
 rw[zBr];constructor
 .intro q j x h u;have:(l.take i)[j]?=O x:=by rw[zBd,zk h];exact u
  simpa using q x (zh this)
 .intro q x u;obtain⟨j,h⟩:=zBC u;rw[zBd]at h;split at h
  .rename_i B;simpa using q j x B h
  .cases h
structure Jq(c:Bn):Prop where
 size:(1<=c.Aa.length/\c.Aa.length<=4)/\(1<=c.Ar.length/\c.Ar.length<=8)/\(1<=c.Ad.length/\c.Ad.length<=4)
 ln:∀s∈c.Aa,qDE (bs s)=I
 lu:GN (λx y=>bs x==bs y) c.Aa
 cl:∀x∈c.Ad,qDE (bs x.name)=I/\(x.AY=1\/x.AY=2)/\(1<=x.As/\x.As<=4)/\(1<=x.Az.length/\x.Az.length<=4)
 cu:GN (λ(x y:AW)=>bs x.name==bs y.name) c.Ad
 rt:∀r∈c.Ar,Dk c.Aa r.listen=I/\qtB (bs r.Bb)=I/\qDH (bs r.path)=I/\Gy c.Ad r.Af=I
 ru:GN G2 c.Ar
def Fu{c}:qcD c=zc<->(∀s∈c.Aa,qDE (bs s)=I)/\GN (λx y=>bs x==bs y) c.Aa:=by
 unfold qcD;rw[qYF];constructor
 .intro u;refine⟨λs hs=>?_,λi j x y A h q=>?_⟩
  .obtain⟨i,B⟩:=zBC hs;have:=u i s B;unfold qSF at this;split at this
   .assumption
   .cases this
  .have:=u j y q;unfold qSF at this;split at this
   .split at this
    .cases this
    .rename_i C;exact CP.1 ((zBT _).mp C) i x A h
   .cases this
 .rintro⟨D,E⟩ i x h;unfold qSF;rw[zk (D x (zh h)),zj];have:Dk (c.Aa.take i) x=zb:=CP.2 λj y H q=>E j i y x H q h;rw[this];simp
def EX{c}:qOD c=zc<->(∀x∈c.Ad,qDE (bs x.name)=I/\(x.AY=1\/x.AY=2)/\(1<=x.As/\x.As<=4)/\(1<=x.Az.length/\x.Az.length<=4))/\GN (λ(x y:AW)=>bs x.name==bs y.name) c.Ad:=by
 unfold qOD;rw[qYF];constructor
 .intro u;refine⟨λs hs=>?_,λi j x y A h q=>?_⟩
  .obtain⟨i,B⟩:=zBC hs;have:=u i s B;unfold qcB at this
   (repeat'(split at this))<;>first|(cases this;done)|(exact⟨sv,sv,sv,sv⟩)
  .have:=u j y q;unfold qcB at this;split at this
   .split at this
    .cases this
    .rename_i C;exact CP.1 ((zBT _).mp C) i x A h
   .cases this
 .rintro⟨D,E⟩ i x h;obtain⟨H,L,P,Q⟩:=D x (zh h);unfold qcB;have:Gy (c.Ad.take i) x.name=zb:=CP.2 λj y R q=>E j i y x R q h;rw[zk H,this,zj se,zk L,zk P,zk Q]
def FQ{c}:q7F c=zc<->(∀r∈c.Ar,Dk c.Aa r.listen=I/\qtB (bs r.Bb)=I/\qDH (bs r.path)=I/\Gy c.Ad r.Af=I)/\GN G2 c.Ar:=by
 unfold q7F;rw[qYF];constructor
 .intro u;refine⟨λs hs=>?_,λi j x y A h q=>?_⟩
  .obtain⟨i,B⟩:=zBC hs;have:=u i s B;unfold qqE at this
   (repeat'(split at this))<;>first|(cases this;done)|(exact⟨sv,sv,sv,sv⟩)
  .have:=u j y q;unfold qqE at this
   (repeat'(split at this))<;>first|(cases this;done)|skip
   rename_i C;exact CP.1 (by simpa using C) i x A h
 .rintro⟨D,E⟩ i x h;obtain⟨H,L,P,Q⟩:=D x (zh h);unfold qqE;have:(c.Ar.take i).any (λR=>G2 R x)=zb:=CP.2 λj y T q=>E j i y x T q h;rw[zk H,zk L,zk P,zk Q,this,zj se]
def AZ{c}:qOA c=zc<->Jq c:=by
 unfold qOA;constructor
 .intro h;split at h
  .cases h
  .rename_i q;split at h
   .cases h
   .rename_i u;split at h
    .cases h
    .rename_i A;obtain⟨B,C⟩:=Fu.1 u;obtain⟨D,E⟩:=EX.1 A;obtain⟨c1,c2⟩:=FQ.1 h;refine⟨?_,B,C,D,E,c1,c2⟩;unfold qmL at q;split at q
     .assumption
     .cases q
 .intro h;have q:qmL c=zc:=by unfold qmL;rw[zk h.size]
  rw[q,Fu.2 ⟨h.ln,h.lu⟩,EX.2 ⟨h.cl,h.cu⟩];exact FQ.2 ⟨h.rt,h.ru⟩
def GN.take{A:Type}{f:A->A->zO}{l}(h:GN f l)(k):GN f (l.take k):=λi j x y B q u=>by
 rw[zBd]at q u;split at q
 .split at u
  .exact h i j x y B q u
  .cases u
 .cases q
def qSW(a b:F UInt8):(a==b)=(b==a):=by rw[zCf];simp only[beq_iff_eq];exact⟨Eq.symm,Eq.symm⟩
noncomputable def eqB{h:Type}(a b:h):zO:=@decide (a=b) (zBb _)
def DL{h:Type}{a b:h}:eqB a b=I<->a=b:=@decide_eq_true_iff _ (zBb _)
def qxV{q:Type}{a b:q}(h:a=b):eqB a b=I:=DL.2 h
def qad{q:Type}{a b:q}(h:a≠b):eqB a b=zb:=by
 cases e:eqB a b with
 |false=>rfl
 |true=>exact absurd (DL.1 e) h
def qfU{a b:F2}(h:a.listen=b.listen)(q:a.Bb=b.Bb)(u:a.path=b.path)(A:a.Af=b.Af):a=b:=by
 cases a;cases b;simp_all
def qUO(c:Bn)(r:F2):FE:=⟨Cz (BM (λx=>bs x==bs r.listen) c.Aa),r.Bb,r.path,Cz (BM (λ(x:AW)=>bs x.name==bs r.Af) c.Ad)⟩
def qiA(c:Bn):Ej:=⟨c.Aa,c.Ar.map (qUO c),c.Ad⟩
def qLB(c:Bn):Ej:=match qOA c with
 |none=>qiA c
 |some _=>⟨[],[],[]⟩
def qpK(l:F BA)(i:zt):BA:=if 0<=i/\i<l.length then(l[i.toNat]?).getD ⟨#[]⟩else⟨#[]⟩
def qPD(l:F AW)(i:zt):BA:=if 0<=i/\i<l.length then((l[i.toNat]?).map (·.name)).getD ⟨#[]⟩else⟨#[]⟩
def qcC(s:Ej)(r:FE):F2:=⟨qpK s.Aa r.listen,r.Bb,r.path,qPD s.Ad r.Af⟩
def qfD(s:Ej):Bn:=⟨s.Aa,s.AE.map (qcC s),s.Ad⟩
def qYa{s}(h:qDE (bs s)=I):s≠⟨#[]⟩:=λe=>by
 subst e;exact absurd h sb
def qHT{l}{s}(h:Dk l s=I):qpK l (Cz (BM (λx=>bs x==bs s) l))=s:=by
 cases q:BM (λx=>bs x==bs s) l with
 |none=>rw[C3]at q;rw[Dk]at h;rw[h]at q;cases q
 |some i=>
  obtain⟨x,u,A,_⟩:=q1D q;have:=(ze.1 u).1;unfold qpK Cz;simp only;rw[zk ⟨sa,sa⟩];simp only[zBB,u,zAG];exact qZM (by simpa using A)
def qbT{l}{s}(h:Gy l s=I):qPD l (Cz (BM (λ(x:AW)=>bs x.name==bs s) l))=s:=by
 cases q:BM (λ(x:AW)=>bs x.name==bs s) l with
 |none=>rw[C3]at q;rw[Gy]at h;rw[h]at q;cases q
 |some i=>
  obtain⟨x,u,A,_⟩:=q1D q;have:=(ze.1 u).1;unfold qPD Cz;simp only;rw[zk ⟨sa,sa⟩];simp only[zBB,u,zBv,zAG];exact qZM (by simpa using A)
def qFJ{c}(h:Jq c):qfD (qiA c)=c:=by
 have:(c.Ar.map (qUO c)).map (qcC (qiA c))=c.Ar:=by
  rw[zCK]
  conv=>rhs;rw[<-List.map_id c.Ar]
  refine zDh λr q=>?_;obtain⟨u,_,_,A⟩:=h.rt r q;have e1:=qHT u;have e4:=qbT A;exact qfU e1 rfl rfl e4
 show(⟨c.Aa,(c.Ar.map (qUO c)).map (qcC (qiA c)),c.Ad⟩:Bn)=c;rw[this]
def AX(w:zt):zt:=w%4294967296-1
def FO(w:zt):zt:=w / 4294967296
def qxB(w i:zt):zt:=(FO w+1)%4294967296*4294967296+(i+1)
def q6C(i:zt):zO:=decide (-1<=i)&&decide (i<=2147483646)
def qWI{w i}(h:-1<=i/\i<=2147483646):AX (qxB w i)=i:=by
 unfold AX qxB;rw[Int.add_comm,Int.add_mul_emod_self_right,zCG sa sa];omega
def qYQ{w i}(h:-1<=i/\i<=2147483646):InU (qxB w i):=by
 unfold qxB;have q:=zBR (FO w+1) (show(4294967296:zt)≠0 by decide);have u:=zBD (FO w+1) (show(0:zt)<4294967296 by decide);constructor<;>omega
def q5R(w):-1<=AX w/\AX w<=4294967294:=by
 unfold AX;have h:=zBR w (show(4294967296:zt)≠0 by decide);have q:=zBD w (show(0:zt)<4294967296 by decide);omega
def DM(next:F zt)(i:zt):zt:=(next[i.toNat]?).getD 0
def qaE(next:F zt):zt->F zt->Prop
 |i,[]=>i=-1
 |i,x::r=>i=x/\(0<=x/\x<next.length)/\qaE next (DM next x) r
def qZG(next:F zt):Z->F zt->zt->zy (F zt)
 |0,_,_=>zc
 |f+1,out,i=>if i=-1 then O out else if i<0\/(next.length:zt)<=i\/i∈out then zc else qZG next f (out++[i]) (DM next i)
def qHB(e:Bw):zy (F zt):=qZG e.next (e.next.length+1) [] (AX e.head)
def qNG{l:F zt}{n:Z}(h:l.Nodup)(k:∀x∈l,0<=x/\x<n):l.length<=n:=by
 have A:(l.map Int.toNat).Nodup:=by
  refine List.Pairwise.map _ ?_ (List.Pairwise.and_mem.1 h);intro a b ⟨E,H,L⟩ Q;have:=k a E;have:=k b H
  exact L sa
 have B:∀(n:Z)(l:F Z),l.Nodup->(∀x∈l,x<n)->l.length<=n:=by
  intro n
  induction n with
  |zero=>intro l _ u;cases l with
   |nil=>simp
   |cons x r=>have:=u x se;omega
  |succ n D=>
   intro l C u;by_cases hm:n∈l
   .have:=D (l.erase n) (C.erase n) λx q=>by
     have A:=u x (List.mem_of_mem_erase q);have B:x≠n:=λe=>by rw[e]at q;exact C.not_mem_erase q
     omega
    rw[List.length_erase_of_mem hm]at this;omega
   .have:=D l C λx q=>by
     have A:=u x q;have B:x≠n:=λe=>hm (e▸q);omega
    omega
 have:=B n (l.map Int.toNat) A λx q=>by
  obtain⟨y,P,rfl⟩:=zU.1 q;have:=k y P;omega
 simpa using this
def qBL{next}:∀{f:Z}{out:F zt}{i:zt}{l:F zt},qZG next f out i=O l->out.Nodup->∃r,l=out++r/\qaE next i r/\l.Nodup
 |0,_,_,_,h,_=>by cases h
 |f+1,out,i,l,h,u=>by
  simp only[qZG]at h;split at h
  .rename_i B;cases h;exact⟨[],se,B,u⟩
  .split at h
   .cases h
   .rename_i H C;have q:0<=i/\i<next.length/\i∉out:=⟨sa,sa,λhm=>C (.inr (.inr hm))⟩;obtain⟨r,e1,e2,e3⟩:=qBL h (zBk.2 ⟨u,se,λa D b A E=>q.2.2 (by simp at A;rw[<-A,<-E];exact D)⟩);exact⟨i::r,by rw[e1];simp,⟨rfl,⟨q.1,q.2.1⟩,e2⟩,e3⟩
def qUF{next}:∀{r:F zt}{i:zt},qaE next i r->∀x∈r,0<=x/\x<next.length
 |[],_,_,x,h=>by cases h
 |y::r,i,q,x,h=>by
  rcases zs.1 h with rfl|h
  .exact q.2.1
  .exact qUF q.2.2 x h
def qLP{next}:∀{r:F zt}{f:Z}{out:F zt}{i:zt},qaE next i r->(out++r).Nodup->r.length<f->qZG next f out i=O (out++r)
 |[],f+1,out,i,h,q,u=>by
  have:i=-1:=h;simp[qZG,this]
 |x::r,f+1,out,i,h,q,u=>by
  obtain⟨rfl,⟨C,D⟩,A⟩:=h;have B:i∉out:=λhm=>(zBk.1 q).2.2 i hm i se rfl;have:=qLP (f:=f) (out:=out++[i]) A (by simpa using q) (by simpa using u);simp only[qZG];rw[zj sa,zj (by rintro(h|h|h);omega;omega;exact B h),this];simp
def B3{e}{l}:qHB e=O l<->qaE e.next (AX e.head) l/\l.Nodup:=by
 constructor
 .intro u;obtain⟨r,rfl,h,q⟩:=qBL u se;exact⟨h,q⟩
 .rintro⟨h,q⟩;have:=qLP (f:=e.next.length+1) (out:=[]) h (by simpa using q) (by have:=qNG q (qUF h);omega);simpa[qHB]using this
def BH(e:Bw):zO:=(qHB e).isSome&&decide (1<=e.next.length)&&decide (e.next.length<=4)&&decide (0<=e.Ae)
def q9R{e}{x}{r}(h:qHB e=O (x::r)){w}(q:AX w=DM e.next x)(a):qHB ⟨w,e.next,a⟩=O r:=by
 obtain⟨u,A⟩:=B3.1 h;refine B3.2 ⟨?_,(zBo.1 A).2⟩;show qaE e.next (AX w) r;rw[q];exact u.2.2
def qyX{next}{s}{v x}(hs:0<=s)(h:0<=x/\x<next.length)(q:x≠s):DM (next.set s.toNat v) x=DM next x:=by
 unfold DM;rw[zAE];rw[zj sa]
def qlH{next}{s v}(hs:0<=s):∀{r:F zt}{i:zt},qaE next i r->s∉r->qaE (next.set s.toNat v) i r
 |[],_,h,_=>h
 |x::r,i,h,q=>by
  obtain⟨rfl,u,A⟩:=h;have B:i≠s:=λe=>q (by simp[e]);exact⟨rfl,by simpa using u,by rw[qyX hs u B];exact qlH hs A λhm=>q (zAF _ hm)⟩
def qBP{e}{l}(h:qHB e=O l){s:zt}(hs:0<=s/\s<e.next.length)(q:s∉l){w:zt}(u:AX w=s)(a:zt):qHB ⟨w,e.next.set s.toNat (AX e.head),a⟩=O (s::l):=by
 obtain⟨A,B⟩:=B3.1 h;refine B3.2 ⟨⟨u,by simpa using hs,?_⟩,zBo.2 ⟨q,B⟩⟩
 have:DM (e.next.set s.toNat (AX e.head)) s=AX e.head:=by
  unfold DM;rw[zC3 sa];rfl
 show qaE (e.next.set s.toNat (AX e.head)) _ l;rw[this];exact qlH hs.1 A q
def qbI{e}{l}(h:qHB e=O l):(l=[]/\AX e.head=-1)\/∃x r,l=x::r/\AX e.head=x/\(0<=x/\x<e.next.length)/\qaE e.next (DM e.next x) r/\x∉r/\r.Nodup:=by
 obtain⟨q,u⟩:=B3.1 h;cases l with
 |nil=>exact .inl ⟨rfl,q⟩
 |cons x r=>
  obtain⟨A,B⟩:=zBo.1 u;exact .inr ⟨x,r,rfl,q.1,q.2.1,q.2.2,A,B⟩
def qCP{e}{x}{r}(h:qHB e=O (x::r)):-1<=DM e.next x/\DM e.next x<e.next.length:=by
 obtain⟨u,_⟩:=B3.1 h;have q:=u.2.2;cases r with
 |nil=>have:DM e.next x=-1:=q;omega
 |cons y r=>have:=q.1;have:=q.2.1;omega
def qKY{e}{l}(h:qHB e=O l):l.length<=e.next.length:=by
 obtain⟨q,u⟩:=B3.1 h;exact qNG u (qUF q)
def qlC(n:Z):Bw:=⟨1,(zA8 n).map λi=>if i+1=n then -1 else(i:zt)+1,0⟩
def allI{h:Type}(f:Z->h->zO)(l:F h):zO:=(qqB (λi x=>if f i x then(zc:zy Unit)else O ()) 0 l).isNone
def AO{u:Type}{f:Z->u->zO}{l}:allI f l=I<->∀(i:Z)x,l[i]?=O x->f i x=I:=by
 unfold allI;rw[Option.isNone_iff_eq_none,qYF];constructor
 .intro h i x q;have:=h i x q;split at this
  .assumption
  .cases this
 .intro h i x q;rw[zk (h i x q)]
def qnB{q:Type}{f}{l}{i}{x:q}(u:l[i]?=O x)(h:f i x=zb):allI f l=zb:=by
 rw[zCH];intro A;rw[AO.1 A i x u]at h;cases h
def Ek{h:Type}(f:Z->h->zO)(l:F h)(k:Z):Prop:=∀i,i<k->∀x,l[i]?=O x->f i x=I
def Ek.zero{h:Type}(f:Z->h->zO)(l:F h):Ek f l 0:=λi q=>sa
def Ek.succ{u:Type}{f}{l}{k}(h:Ek f l k){x:u}(A:l[k]?=O x)(B:f k x=I):Ek f l (k+1):=λi D y q=>by
 rcases zAJ i k with C|E
 .exact h i C y q
 .obtain rfl:i=k:=sa
  rw[A]at q;cases q;exact B
def Ek.done{u:Type}{f:Z->u->zO}{l}{k:Z}(h:Ek f l k)(A:l.length<=k):allI f l=I:=
 AO.2 λi x q=>h i (by have:=(ze.1 q).1;omega) x q
def FR(l:F Bo)(i:Z)(r:Bo):zO:=decide (0<=r.Ac)&&decide (0<=r.at_)&&!(l.take i).any λx=>x.Ac==r.Ac
def qOE(l:F Bo):zO:=allI (FR l) l
def qXF(l:F Bo)(n:zt):zO:=l.any λr=>r.Ac==n&&r.gone
def qnJ(l:F Bo):F (Ky×zg):=l.foldl (λes r=>CB (.i r.Ac) (.bool r.gone) es) []
def qsK(n m)(v):∀es:F (Ky×zg),B5 n (CB m v es)=if C2 n m=I then O v else B5 n es
 |[]=>by
  simp only[CB,B5];split<;>simp_all
 |(k,u)::r=>by
  simp only[CB];by_cases h:m=k
  .subst h;simp only[BQ.2 rfl,B5];split<;>simp_all
  .rw[qfQ h];simp only[B5];by_cases q:n=k
   .subst q;rw[qfQ (λe=>h e.symm),BQ.2 rfl];simp
   .rw[qfQ q];exact qsK n m v r
def qJT(l)(r):qnJ (l++[r])=CB (.i r.Ac) (.bool r.gone) (qnJ l):=by
 unfold qnJ;rw[zDr];rfl
def qIM{l:F Bo}{k:Z}{r:Bo}(h:l[k]?=O r):qnJ (l.take (k+1))=CB (.i r.Ac) (.bool r.gone) (qnJ (l.take k)):=by
 obtain⟨q,u⟩:=ze.1 h;rw[zAo q,u,qJT]
def UqV(l:F Bo):Prop:=∀(i j:Z)x y,i<j->l[i]?=O x->l[j]?=O y->x.Ac≠y.Ac
def q9X{l}(h:qOE l=I):UqV l:=λi j x y q u A B=>by
 have:=AO.1 h j y A;simp only[FR,zl,zC0]at this;have C:=CP.1 this.2 i x q u;simp[B]at C
def qJM{n}:∀{k:Z}{l:F Bo},UqV l->k<=l.length->q0O zb (.bool zb) (B5 (.i n) (qnJ (l.take k)))=.bool (qXF (l.take k) n)
 |0,l,_,_=>by simp[qnJ,B5,q0O,qXF]
 |k+1,l,u,P=>by
  obtain⟨r,q⟩:=qEA (show k<l.length by omega);have A:=qJM (n:=n) (k:=k) u sa;rw[qIM q,qsK]
  have B:l.take (k+1)=l.take k++[r]:=by
   obtain⟨C,D⟩:=ze.1 q;rw[zAo C,D]
  rw[B];unfold qXF at A⊢;rw[zDI];by_cases h:n=r.Ac
  .have:(l.take k).any (λr=>r.Ac==n&&r.gone)=zb:=by
    rw[CP];intro j x E H;have:=u j k x r E H q;simp[h,this]
   rw[zk (by rw[h];exact BQ.2 rfl),this];simp[q0O,h]
  .rw[zj (λL=>h (Ky.i.inj (BQ.1 L))),A];have:(r.Ac==n)=zb:=by simpa using λe=>h e.symm
   simp[this]
def qpJ(x:AI):zO:=qDE (bs x.name)&&decide (0<=x.Ae)&&(x.drain||!x.closed)
def qlA(l:F AI)(s:BA):zt:=Cz (BM (λx=>bs x.name==bs s) l)
def qvB(l:F AI)(i:Z)(x:AI):zO:=qpJ x&&decide (qlA l x.name=i)
def qHE(c:F (F zt)):zO:=(c.all λr=>decide (r.length=6))&&decide (1<=c.length)&&decide (c.length<=8)
def q3K(c:AW)(e:Bw):zO:=BH e&&decide ((e.next.length:zt)=c.As)
def qTG(cl:F AW)(i:Z)(g:Bi):zO:=match cl[i]? with
 |some c=>decide (g.ends.length=c.Az.length)&&g.ends.all (q3K c)
 |none=>zb
noncomputable def qVB(v:AM):zO:=eqB (qOA (qfD v.Aw)) zc&&decide (v.Aj.length=v.Aw.Ad.length)&&allI (qTG v.Aw.Ad) v.Aj
def qGB(w:Wd):zO:=decide (1<=w.pins.length)&&decide (w.pins.length<=8)&&decide (w.counts.length=w.pins.length)&&qHE w.counts&&decide (0<=w.Ai)&&decide (w.Ai<=1000000000000)&&decide (w.AL=0\/w.AL=1)&&w.pins.all λp=>decide (0<=p)&&decide (p<=w.Ai+1)
def Dj(w:Wd)(r:Bo):zO:=decide (r.Ac<w.Ab.length)&&decide (r.Ac≠w.current)&&decide (r.at_<=w.Ai)
noncomputable def Dg(w:Wd)(i:Z)(v:AM):zO:=qVB v&&(v.Ba==qXF w.An i)
noncomputable def wdB(w:Wd):zO:=qGB w&&decide (0<=w.current)&&decide (w.current<w.Ab.length)&&qOE w.An&&w.An.all (Dj w)&&allI (Dg w) w.Ab&&allI (qvB w.Aa) w.Aa
def EZ(a b:FE):zO:=qIJ (bs a.Bb) (bs a.path) (bs b.Bb) (bs b.path)
def Es(listen:zt)(Bb path:BA)(r:FE):zO:=r.listen==listen&&qOI (bs r.Bb) (bs Bb)&&qOJ (bs path) (bs r.path)
def qUS(a b):EZ a b=I<->qOB (bs b.Bb)<qOB (bs a.Bb)\/(qOB (bs a.Bb)=qOB (bs b.Bb)/\(bs b.path).length<(bs a.path).length):=by
 unfold EZ;rw[qmT];simp
def qJJ(a b):EZ a b=zb<->¬(qOB (bs b.Bb)<qOB (bs a.Bb)\/(qOB (bs a.Bb)=qOB (bs b.Bb)/\(bs b.path).length<(bs a.path).length)):=by
 rw[<-qUS];simp
def qRW(a):EZ a a=zb:=by rw[qJJ];omega
def qQW{a b c}(h:EZ a b=zb)(k:EZ b c=zb):EZ a c=zb:=by
 rw[qJJ]at*;omega
def qcY{a b}(h:EZ a b=I):EZ b a=zb:=by
 rw[qUS]at h;rw[qJJ];omega
section
variable(fit:FE->zO)
def qhF(l:F FE):Z->zy Z
 |0=>zc
 |n+1=>match l[n]? with
  |none=>qhF l n
  |some r=>if fit r then match qhF l n with
   |none=>O n
   |some j=>match l[j]? with
    |some h=>if EZ r h then O n else O j
    |none=>O n
   else qhF l n
def qrN(l:F FE):zy Z:=qhF fit l l.length
def GD(l:F FE)(n i:Z):Prop:=∃r,l[i]?=O r/\i<n/\fit r=I/\(∀k h,k<n->l[k]?=O h->fit h=I->EZ h r=zb)/\∀k h,k<i->l[k]?=O h->fit h=I->EZ r h=I
variable{fit}
def GD.unique{l}{n i j}(h:GD fit l n i)(k:GD fit l n j):i=j:=by
 obtain⟨r,u,E,A,H,L⟩:=h;obtain⟨B,C,P,D,Q,R⟩:=k;rcases Nat.lt_trichotomy i j with q|q|q
 .have:=R i r q u A;rw[H j B P C D]at this;cases this
 .exact q
 .have:=L j B q C D;rw[Q i r E u A]at this;cases this
def qKJ(l):∀n,n<=l.length->(∀i,qhF fit l n=O i->GD fit l n i)/\(qhF fit l n=zc->∀k q,k<n->l[k]?=O q->fit q=zb)
 |0,_=>⟨λi C=>by simp[qhF]at C,λ_ k q u=>sa⟩
 |n+1,ac=>by
  obtain⟨W,Q⟩:=qKJ l n sa;obtain⟨r,H⟩:=qEA (show n<l.length by omega);simp only[qhF,H]
  have D:∀{k:Z}{q:FE},k<n+1->l[k]?=O q->k<n\/(k=n/\q=r):=λ{k q}u h=>by
   rcases zAJ k n with C|C
   .exact .inl C
   .obtain rfl:k=n:=sa
    rw[H]at h;cases h;exact .inr ⟨rfl,rfl⟩
  cases L:fit r with
  |false=>
   simp only[zA2,zCD];refine⟨λi A=>?_,λA k q u h=>?_⟩
   .obtain⟨x,P,Y,R,E,T⟩:=W i A;refine⟨x,P,sa,R,λk q u h B=>?_,T⟩;rcases D u h with C|⟨rfl,rfl⟩
    .exact E k q C h B
    .rw[L]at B;cases B
   .rcases D u h with C|⟨rfl,rfl⟩
    .exact Q A k q C h
    .exact L
  |true=>
   simp only[zBA];cases U:qhF fit l n with
   |none=>
    simp only;refine⟨λi A=>?_,λA=>by cases A⟩;cases A;refine⟨r,H,sa,L,λk q u h B=>?_,λk q u h B=>?_⟩
    .rcases D u h with C|⟨rfl,rfl⟩
     .rw[Q U k q C h]at B;cases B
     .exact qRW _
    .rw[Q U k q u h]at B;cases B
   |some j=>
    obtain⟨x,P,Y,R,E,T⟩:=W j U;simp only[P];cases V:EZ r x with
    |true=>
     simp only[zBA];refine⟨λi A=>?_,λA=>by cases A⟩;cases A;refine⟨r,H,sa,L,λk q u h B=>?_,λk q u h B=>?_⟩
     .rcases D u h with C|⟨rfl,rfl⟩
      .exact qQW (E k q C h B) (qcY V)
      .exact qRW _
     .have aa:=E k q u h B;cases ab:EZ r q with
      |true=>rfl
      |false=>
       have:=qQW ab aa;rw[V]at this;cases this
    |false=>
     simp only[zA2,zCD];refine⟨λi A=>?_,λA=>by cases A⟩;cases A;refine⟨x,P,sa,R,λk q u h B=>?_,T⟩;rcases D u h with C|⟨rfl,rfl⟩
     .exact E k q C h B
     .exact V
def Eu{l}{i}:qrN fit l=O i<->GD fit l l.length i:=by
 obtain⟨h,B⟩:=qKJ (fit:=fit) l l.length (zH _);refine⟨h i,λq=>?_⟩;cases u:qrN fit l with
 |some j=>rw[q.unique (h j u)]
 |none=>
  obtain⟨r,C,D,A,_⟩:=q;rw[B u i r D C]at A;cases A
end
def Bv(out:F BA)(l:F BA):F BA:=l.foldl (λout n=>if Dk out n then out else out++[n]) out
noncomputable def opN(out:F BA)(o:OpD):F BA:=if o.kind=3/\qOA o.Ao=zc then Bv out o.Ao.Aa else out
noncomputable def quE(s:F9):F BA:=s.Av.foldl (λout l=>l.foldl opN out) (Bv [] s.first.Aa)
def qZW(out l)(n):Bv out (l++[n])=if Dk (Bv out l) n then Bv out l else Bv out l++[n]:=by
 unfold Bv;rw[zDr];rfl
def qkP{out l:F BA}{k:Z}{n:BA}(h:l[k]?=O n):Bv out (l.take (k+1))=if Dk (Bv out (l.take k)) n then Bv out (l.take k)else Bv out (l.take k)++[n]:=by
 obtain⟨q,u⟩:=ze.1 h;rw[zAo q,u];exact qZW _ _ _
def Uq(l:F BA):Prop:=GN (λx y=>bs x==bs y) l
def Uq.snoc{l}{n}(h:Uq l)(B:Dk l n=zb):Uq (l++[n]):=λi j x y C u q=>by
 rcases zAJ j l.length with A|A
 .rw[zAc sa]at u;rw[zAc A]at q;exact h i j x y C u q
 .rw[zBg A]at q
  have D:j-l.length=0:=by
   have:=(ze.1 q).1;simp at this;omega
  rw[D]at q;simp at q;subst q;rw[zAc sa]at u;have:=zBr.1 B x (zh u);simpa using this
def qYW{out l}(h:Uq out):Uq (Bv out l):=by
 induction l generalizing out with
 |nil=>exact h
 |cons n r q=>
  show Uq (Bv (if Dk out n then out else out++[n]) r);apply q;split
  .exact h
  .rename_i u;exact h.snoc (by simpa using u)
def qqI{out l}:(Bv out l).length<=out.length+l.length:=by
 induction l generalizing out with
 |nil=>simp[Bv]
 |cons n r q=>
  have:Bv out (n::r)=Bv (if Dk out n then out else out++[n]) r:=rfl;rw[this];have:=q (out:=if Dk out n then out else out++[n]);split at this
  .rename_i h;rw[zk h];simp;omega
  .rename_i h;rw[zj h];simp at this⊢;omega
def q4Z{out}{o}:(opN out o).length<=out.length+4:=by
 unfold opN;split;rename_i h;have h:=(AZ.1 h.2).size.1.2
 .have:=qqI (out:=out) (l:=o.Ao.Aa);omega
 .omega
def qIN{l:F OpD}{out:F BA}:(l.foldl opN out).length<=out.length+4*l.length:=by
 induction l generalizing out with
 |nil=>simp
 |cons o r h=>
  have q:=h (out:=opN out o);have u:=q4Z (out:=out) (o:=o);simp only[zCC,zBy];omega
noncomputable abbrev Em(out:F BA)(l:F (F OpD)):F BA:=l.foldl (λout l=>l.foldl opN out) out
def qwW{l}{out}(h:∀t∈l,t.length<=40):(Em out l).length<=out.length+2000*l.length:=by
 induction l generalizing out with
 |nil=>simp[Em]
 |cons t r q=>
  have A:=h t se;have B:=q (out:=t.foldl opN out) λx u=>h x (zAF _ u);have C:=qIN (out:=out) (l:=t);have:Em out (t::r)=Em (t.foldl opN out) r:=rfl;rw[this];simp only[zBy];omega
def qOM{q u:Type}{f:u->q->u}{b:u}{l:F q}{k:Z}{x:q}(h:l[k]?=O x):(l.take (k+1)).foldl f b=f ((l.take k).foldl f b) x:=by
 obtain⟨A,B⟩:=ze.1 h;rw[zAo A,B,zDr];rfl


end Go.Proofs.YtlmhpamhhgogaaaGreat.Sx
namespace Go.Proofs.YtlmhpamhhgogaaaGreat.Sx
open Go.RowKit
def rEn:RP Bw:=λg cs e=>KL g cs e/\e.next.length<=17592186044416
def qMF:C7 rEn:=λ_ _ _ _ k⟨a,b⟩=>⟨qnU _ _ _ _ k a,b⟩
def rGr:RP Bi:=λg cs x=>∃n,cs=[.int .u64 x.AF,n]/\InU x.AF/\rSl 3 rEn g n x.ends
def qLF:C7 rGr:=λ_ _ _ _ k⟨n,e,a,c⟩=>⟨n,e,a,c.mono qMF k⟩
def rVe:RP AM:=λg cs x=>∃a b d n,cs=[a,b,d,n,.bool x.Ba]/\qDI g [a,b,d] x.Aw/\rSl 2 rGr g n x.Aj
def quC:C7 rVe:=λ_ _ _ _ k⟨a,b,d,n,e,x,y⟩=>⟨a,b,d,n,e,qlB _ _ _ _ k x,y.mono qLF k⟩
def rWo:RP Wd:=λg cs w=>∃a b c d e,cs=[.int .i64 w.Ai,.int .i64 w.current,.int .i64 w.AL,a,b,c,d,e]/\(InR w.Ai/\InR w.current/\InR w.AL)/\
 rSl 1 BX g a w.pins/\rSl 5 rVe g b w.Ab/\rSl 4 qeB g c w.Aa/\rSl 1 Fy g d w.counts/\rSl 3 qFB g e w.An
def qBA:C7 rWo:=λ_ _ _ _ k⟨a,b,c,d,e,h,i,j,l,m,n,o⟩=>⟨a,b,c,d,e,h,i,j.mono quA k,l.mono quC k,m.mono q4A k,n.mono qPB k,o.mono qEB k⟩
def FB{a b:zt}(h:(a !=b)=I):a≠b:=by simpa using h
def F1{a b:zt}(h:(a !=b)=zb):a=b:=by simpa using h
def Cn{a b:zt}(h:(a==b)=I):a=b:=by simpa using h
def Ei{a b:zt}(h:(a==b)=zb):a≠b:=by simpa using h
def JH{a b:Z}(h:((a:zt) !=b)=I):a≠b:=by have:=FB h;omega
def JI{a b:Z}(h:((a:zt) !=b)=zb):a=b:=by have:=F1 h;omega
def q3F(n:Z)(out:F zt):F zg:=(zA8 n).map λ(j:Z)=>zBt (out.contains (j:zt))
def qRO(n)(out):(q3F n out).length=n:=by simp[q3F]
def qbU(n):q3F n []=zAT n (zBt zb):=by
 unfold q3F;apply List.ext_getElem<;>simp
def qcU{n:Z}{out}{i:zt}(h:0<=i/\i<n):(q3F n out)[i.toNat]?=O (.bool (out.contains i)):=by
 unfold q3F;rw[zAy,zCg sa];simp[zBO h.1]
def qaU{n:Z}{out}{i:zt}(h:0<=i/\i<n):(q3F n out).take i.toNat++[zBt I]++(q3F n out).drop (i.toNat+1)=q3F n (out++[i]):=by
 have A:=qRO n out
 have:(q3F n out).take i.toNat++[zBt I]++(q3F n out).drop (i.toNat+1)=(q3F n out).set i.toNat (.bool I):=by
  rw[List.set_eq_take_append_cons_drop,zk sa];simp
 rw[this];apply zBU;intro j;rw[zAE];unfold q3F;rw[zAy,zAy];by_cases q:j<n
 .rw[zCg q];simp only[zBv,zBa,List.length_range];by_cases u:i.toNat=j
  .subst u;rw[zk rfl,zk sa];simp[zBO h.1]
  .rw[zj u];have:((j:zt)==i)=zb:=by simpa using(show(j:zt)≠i by omega)
   simp only[List.contains_append,List.contains_cons,List.contains_nil,this,Bool.or_false]
 .rw[zBG (by simpa using q)];simp;omega
abbrev wQ(w:Wd)(oa:zy zAI)(ca:Z)(h:zy zAI)(q:Z)(u:zy zAI)(A:Z)(B:zy zAI)(C:Z)(D:zy zAI)(E:Z):F zg:=[.int .i64 w.Ai,.int .i64 w.current,.int .i64 w.AL,.slice oa w.pins.length ca,.slice h w.Ab.length q,.slice u w.Aa.length A,.slice B w.counts.length C,.slice D w.An.length E]
abbrev mQ(m:Ah)(h:zy zAI)(t1:Z)(q:zy zAI)(t2:Z)(u:zy zAI)(A:Z):F zg:=m.cs (.slice h m.op.Ao.Aa.length t1) (.slice q m.op.Ao.Ar.length t2) (.slice u m.op.Ao.Ad.length A)
def qhB{g:GW}{cs R:F zg}{w:Wd}{m:Ah}(T:rWo g cs w)(hM:qdA g R m):∃oa ca B h C q D u E A H t1 L t2 P Q,cs=[.int .i64 w.Ai,.int .i64 w.current,.int .i64 w.AL,.slice oa w.pins.length ca,.slice B w.Ab.length h,.slice C w.Aa.length q,.slice D w.counts.length u,.slice E w.An.length A]/\R=m.cs (.slice H m.op.Ao.Aa.length t1) (.slice L m.op.Ao.Ar.length t2) (.slice P m.op.Ao.Ad.length Q)/\rWo g [.int .i64 w.Ai,.int .i64 w.current,.int .i64 w.AL,.slice oa w.pins.length ca,.slice B w.Ab.length h,.slice C w.Aa.length q,.slice D w.counts.length u,.slice E w.An.length A] w/\qdA g (m.cs (.slice H m.op.Ao.Aa.length t1) (.slice L m.op.Ao.Ar.length t2) (.slice P m.op.Ao.Ad.length Q)) m/\(InR w.Ai/\InR w.current/\InR w.AL)/\rSl 1 BX g (.slice oa w.pins.length ca) w.pins/\rSl 5 rVe g (.slice B w.Ab.length h) w.Ab/\rSl 4 qeB g (.slice C w.Aa.length q) w.Aa/\rSl 1 Fy g (.slice D w.counts.length u) w.counts/\rSl 3 qFB g (.slice E w.An.length A) w.An/\(w.pins.length<=ca/\ca<=zAp/\(oa=zc->w.pins.length=0/\ca=0)/\∀(i:Z)x,w.pins[i]?=O x->∃a,oa=O a/\∃ec,ec.length=1/\BX g ec x/\Rcs g (a.add (i*1)) ec)/\(w.Ab.length<=h/\h<=zAp/\(B=zc->w.Ab.length=0/\h=0)/\∀(i:Z)x,w.Ab[i]?=O x->∃a,B=O a/\∃ec,ec.length=5/\rVe g ec x/\Rcs g (a.add (i*5)) ec)/\(w.Aa.length<=q/\q<=zAp/\(C=zc->w.Aa.length=0/\q=0)/\∀(i:Z)x,w.Aa[i]?=O x->∃a,C=O a/\∃ec,ec.length=4/\qeB g ec x/\Rcs g (a.add (i*4)) ec)/\(w.counts.length<=u/\u<=zAp/\(D=zc->w.counts.length=0/\u=0)/\∀(i:Z)x,w.counts[i]?=O x->∃a,D=O a/\∃ec,ec.length=1/\Fy g ec x/\Rcs g (a.add (i*1)) ec)/\(w.An.length<=A/\A<=zAp/\(E=zc->w.An.length=0/\A=0)/\∀(i:Z)x,w.An[i]?=O x->∃a,E=O a/\∃ec,ec.length=3/\qFB g ec x/\Rcs g (a.add (i*3)) ec)/\m.ok/\(InR m.op.kind/\InR m.op.d0/\InR m.op.d1/\InR m.op.n)/\qBB g [.slice H m.op.Ao.Aa.length t1,.slice L m.op.Ao.Ar.length t2,.slice P m.op.Ao.Ad.length Q] m.op.Ao:=by
 have ac:=T;have ad:=hM;obtain⟨a,b,c,d,e,rfl,⟨ae,af,ag⟩,U,V,W,Y,aa⟩:=T;obtain⟨oa,ca,rfl,ah,ai,aj,ak⟩:=id U;obtain⟨B,h,rfl,al,am,an,ao⟩:=id V;obtain⟨C,q,rfl,c1,c2,ap,aq⟩:=id W;obtain⟨D,u,rfl,d1,d2,ar,au⟩:=id Y;obtain⟨E,A,rfl,e1,e2,av,aw⟩:=id aa;obtain⟨aA,aB,aC,rfl,ax,ay,ab⟩:=hM;obtain⟨_,_,_,az,⟨H,t1,rfl,_⟩,⟨L,t2,rfl,_⟩,⟨P,Q,rfl,_⟩⟩:=id ab;cases az;exact⟨_,_,_,_,_,_,_,_,_,_,_,_,_,_,_,_,rfl,rfl,ac,ad,⟨ae,af,ag⟩,U,V,W,Y,aa,⟨ah,ai,aj,ak⟩,⟨al,am,an,ao⟩,⟨c1,c2,ap,aq⟩,⟨d1,d2,ar,au⟩,⟨e1,e2,av,aw⟩,ax,ay,ab⟩
def dF{p:Prop}[Decidable p]{A B:Prop}(h:¬p)(k:B):(decide p=I->A)/\(decide p=zb->B):=⟨λx=>absurd (zd x) h,λ_=>k⟩
def dT{p:Prop}[Decidable p]{A B:Prop}(h:p)(k:A):(decide p=I->A)/\(decide p=zb->B):=⟨λ_=>k,λx=>absurd h (zf x)⟩
def GW.sub(g:GW)(S:Z->Prop):GW:=⟨g.w,λn=>g.g n/\S n,λn h=>g.wf n h.1⟩
def GW.vw(g:GW)(lo:Z)(S:Z->Prop):GW:=g.sub λn=>n<lo\/S n
def NoB:Z->Prop:=λ_=>zX
def GW.GO(g:GW)(lo:Z)(S:Z->Prop):g.vw lo S<=g:=⟨zH _,λ_ h=>⟨h.1,rfl⟩⟩
def GW.GU(g:GW){lo}{S q}(h:∀n,S n->q n):g.vw lo S<=g.vw lo q:=
 ⟨zH _,λ_ k=>⟨⟨k.1,k.2.imp id (h _)⟩,rfl⟩⟩
def GW.D9{g g':GW}(h:g<=g')(lo:Z)(S:Z->Prop):g.vw lo S<=g'.vw lo S:=
 ⟨h.1,λn k=>⟨⟨(h.2 n k.1).1,k.2⟩,(h.2 n k.1).2⟩⟩
def GW.K6{g:GW}{g':GW}{lo:Z}{S:Z->Prop}(h:g<=g')(q:g.w.heap.size<=lo):g<=g'.vw lo S:=
 ⟨h.1,λn k=>⟨⟨(h.2 n k).1,.inl (zQ (g.wf n k) q)⟩,(h.2 n k).2⟩⟩
def GW.It{g g':GW}{lo:Z}{S u:Z->Prop}(h:g.vw lo S<=g'.vw lo S)(k:∀n,u n->S n):g.vw lo u<=g'.vw lo u:=
 ⟨h.1,λn q=>⟨⟨(h.2 n ⟨q.1,q.2.imp id (k n)⟩).1.1,q.2⟩,(h.2 n ⟨q.1,q.2.imp id (k n)⟩).2⟩⟩
def Upd.vw{g g'}{b}{o}(u:Upd g b o g'){lo}{S}(A:lo<=b)(q:¬S b):g.vw lo S<=g'.vw lo S:=
 ⟨u.size,λn k=>⟨⟨(u.dom n).2 k.1,k.2⟩,u.other n k.1 λe=>by subst e;rcases k.2 with h|h;omega;exact q h⟩⟩
def Br.vw{g}{lo lo'}{ety}{size b n cap}{cs}{S}(h:Br g lo ety size (.slice (O ⟨b,0,zc⟩) n cap) n cs)(B:S b):Br (g.vw lo' S) lo ety size (.slice (O ⟨b,0,zc⟩) n cap) n cs:=by
 obtain⟨C,q,D⟩:=h;refine⟨C,?_,D⟩;rcases q with q|⟨P,Q,E,A,u,H,L⟩
 .exact .inl q
 .have R:=u.2;simp only[zAg,zAh,Addr.mk.injEq]at A;obtain⟨⟨rfl,_⟩,_,rfl⟩:=A;exact .inr ⟨b,cap,E,rfl,⟨u.1,⟨u.2,.inr B⟩⟩,H,L⟩
abbrev OwT(h:Type):=GW->Z->(Z->Prop)->F zg->h->Prop
def Fr0{u:Type}(R:OwT u):Prop:=∀g q h S cs x,g.vw h S<=q.vw h S->R g h S cs x->R q h S cs x
def Rd0{h:Type}(R:OwT h)(r:RP h):Prop:=∀g q S cs x,R g q S cs x->r (g.vw q S) cs x
def oLf{h:Type}(r:RP h):OwT h:=λg _ _ cs x=>r g cs x
def oSl{u:Type}(ety:zAw)(sz:Z)(R:OwT u)(g:GW)(lo:Z)(S:Z->Prop)(v:zg)(l:F u):Prop:=
 (l=[]/\∃B,v=.slice B 0 0)\/
 ∃(b cap:Z)(h:F (F zg))(q:Z->Z->Prop),v=.slice (O ⟨b,0,zc⟩) l.length cap/\S b/\Br g lo ety sz (.slice (O ⟨b,0,zc⟩) l.length cap) l.length h.flatten/\(h.length=l.length/\∀e∈h,e.length=sz)/\
  (∀i n,q i n->S n/\n≠b)/\(∀i j n,q i n->q j n->i=j)/\∀(i:Z)x A,l[i]?=O x->h[i]?=O A->R g lo (q i) A x
def qND{u:Type}{ety}{sz}{R:OwT u}{r:RP u}(A:Rd0 R r)(hm:C7 r){g}{lo}{S}{v}{l}(h:oSl ety sz R g lo S v l):rSl sz r (g.vw lo S) v l:=by
 rcases h with⟨rfl,B,rfl⟩|⟨b,cap,C,W,rfl,D,E,⟨H,L⟩,P,Y,Q⟩
 .exact⟨B,0,rfl,zH _,zJ _,λ_=>⟨rfl,rfl⟩,λi x q=>by simp at q⟩
 .exact qbK (E.vw D).rd l C rfl L rfl H λi x T q U=>hm _ _ _ _ (g.GU λn V=>(P i n V).1) (A _ _ _ _ _ (Q i x T q U))
def qvA{C:Type}{ety}{sz}{R:OwT C}(D:Fr0 R){g g'}{lo}{S}{v}{l}(k:g.vw lo S<=g'.vw lo S)(h:oSl ety sz R g lo S v l):oSl ety sz R g' lo S v l:=by
 rcases h with h|⟨b,cap,E,H,rfl,u,L,P,A,Q,T⟩
 .exact .inl h
 .refine .inr ⟨b,cap,E,H,rfl,u,?_,P,A,Q,λi x U V W=>D _ _ _ _ _ _ (GW.It k λn Y=>(A i n Y).1) (T i x U V W)⟩;have aa:=(L.vw (lo':=lo) u).mono k;obtain⟨ab,q,ac⟩:=aa;refine⟨ab,?_,ac⟩;rcases q with q|⟨ad,ae,af,ag,B,ah⟩
  .exact .inl q
  .exact .inr ⟨ad,ae,af,ag,⟨B.1,B.2.1⟩,ah⟩
def PK(g:GW)(lo:Z)(S:Z->Prop)(a:zAI)(vs:F zg)(Q:GW->Prop):Prop:=
 ∃(b j:Z)(h:F zg)(q:zAw),(a=⟨b,j,zc⟩/\lo<=b/\g.g b/\g.w.heap[b]?=O (.cells ⟨h⟩ q (0,0))/\j+vs.length<=h.length)/\S b/\
  ∀u,Upd g b (.cells ⟨h.take j++vs++h.drop (j+vs.length)⟩ q (0,0)) u->Q u
def PK.imp{g}{lo}{S S'}{a}{vs}{Q u}(h:PK g lo S a vs Q)(D:∀n,S n->S' n)(k:∀g',(∀q:Z->Prop,(∀n,S n->¬q n)->g.vw lo q<=g'.vw lo q)->Q g'->u g'):PK g lo S' a vs u:=by
 obtain⟨b,j,E,H,A,B,L⟩:=h;exact⟨b,j,E,H,A,D b B,λg' C=>k g' (λq P=>C.vw A.2.1 (P b B)) (L g' C)⟩
def qBS{sz}{o}{vs}:∀{ecs:F (F zg)}{i:Z}{ec:F zg},(∀e∈ecs,e.length=sz)->ecs[i]?=O ec->o+vs.length<=sz->(ecs.set i (ec.take o++vs++ec.drop (o+vs.length))).flatten=ecs.flatten.take (i*sz+o)++vs++ecs.flatten.drop (i*sz+o+vs.length)
 |[],i,ec,_,h,_=>by simp at h
 |e::es,0,ec,q,h,u=>by
  simp at h;subst h;have A:=q e se;simp only[List.set_cons_zero,zCt,Nat.zero_mul,zAr];rw[zCe sa,zCF sa];simp
 |e::es,i+1,ec,q,h,u=>by
  have A:=q e se;have B:=qBS (ecs:=es) (i:=i) (λx C=>q x (by simp[C])) (by simpa using h) u;simp only[zCS,zCt,B];rw[zCp,show i*sz+sz+o=e.length+(i*sz+o) by omega,show e.length+(i*sz+o)+vs.length=e.length+(i*sz+o+vs.length) by omega,List.take_length_add_append,List.drop_length_add_append];simp
def q8M{u:Type}{l:F u}{i j:Z}{x' y:u}(h:(l.set i x')[j]?=O y):(i=j/\y=x')\/(i≠j/\l[j]?=O y):=by
 rw[zAE]at h;split at h
 .rename_i q;split at h
  .cases h;exact .inl ⟨q,rfl⟩
  .cases h
 .rename_i q;exact .inr ⟨q,h⟩
def qwC{ae:Type}{ety}{sz}{R:OwT ae}(af:Fr0 R){g}{lo}{S}{oa}{n cap}{l}(h:oSl ety sz R g lo S (.slice oa n cap) l){i}{x:ae}(Q:l[i]?=O x):∃(b:Z)(q:Z->Prop)(ec:F zg),(oa=O ⟨b,0,zc⟩/\n=l.length)/\(ec.length=sz/\Rcs g ((⟨b,0,zc⟩:zAI).add (i*sz)) ec)/\R g lo q ec x/\(∀(o:Z)(vs:F zg)x',o+vs.length<=sz->(∀u∈vs,u.oneCell'=I)->(∀g',g.vw lo q<=g'.vw lo q->R g' lo q (ec.take o++vs++ec.drop (o+vs.length)) x')->PK g lo S (((⟨b,0,zc⟩:zAI).add (i*sz)).add o) vs λg'=>oSl ety sz R g' lo S (.slice oa n cap) (l.set i x'))/\∀(a:zAI)(vs:F zg)x',PK g lo q a vs (λg'=>R g' lo q ec x')->PK g lo S a vs λg'=>oSl ety sz R g' lo S (.slice oa n cap) (l.set i x'):=by
 rcases h with⟨rfl,_⟩|⟨b,aE,E,q,ag,T,U,⟨V,C⟩,H,W,Y⟩
 .simp at Q
 simp only[zAg]at ag;obtain⟨rfl,rfl,rfl⟩:=ag;have ak:=(ze.1 Q).1;obtain⟨ec,L⟩:=qEA (l:=E) (i:=i) sa;have al:=C ec (zh L);have am:=q9C C;have aF:i*sz+sz<=E.flatten.length:=by rw[am,V,<-zCp];exact zB8 _ ak
 refine⟨b,q i,ec,⟨rfl,rfl⟩,⟨al,λj u an=>?_⟩,Y i x ec Q L,?_,?_⟩
 .obtain⟨_,aG,aH,D,_,_,_,ao⟩:=U.rd;obtain⟨aI,ah,aJ⟩:=ao _ _ (qyE C L an);simp only[zAg]at D;rw[<-D.1]at ah;cases ah;rwa [qjG]
 .intro o vs x' ap aq ar;obtain⟨au,⟨aa,av,aw⟩,ax⟩:=U.H9;refine⟨b,i*sz+o,E.flatten++au,ety,⟨by rw[qjG,qoA,zAr],aa,av,aw,by simp only[zAx];omega⟩,T,λg' u=>?_⟩;refine .inr ⟨b,cap,E.set i (ec.take o++vs++ec.drop (o+vs.length)),q,se,T,?_,⟨by simp[V],λe D=>?_⟩,H,W,λj y ab B A=>?_⟩
  .have:=ax (i*sz+o) vs.length vs g' sa rfl aq u;rw[qBS C L ap];simpa using this
  .rcases zAf D with D|rfl
   .exact C e D
   .simp;omega
  .have ai:∀j,¬q j b:=λj ay=>(H j b ay).2 rfl;rcases q8M B with⟨rfl,rfl⟩|⟨P,B⟩
   .rcases q8M A with⟨_,rfl⟩|⟨P,_⟩
    .exact ar g' (u.vw aa (ai i))
    .exact absurd rfl P
   .rcases q8M A with⟨az,_⟩|⟨_,A⟩
    .exact absurd az P
    .exact af _ _ _ _ _ _ (u.vw aa (ai j)) (Y j y ab B A)
 .rintro a vs x' ⟨ac,j,aA,aB,aj,ad,aC⟩;refine⟨ac,j,aA,aB,aj,(H i ac ad).1,λg' u=>?_⟩;have aD:=(H i ac ad).2;refine .inr ⟨b,cap,E,q,se,T,?_,⟨by simp[V],C⟩,H,W,λm y ab B A=>?_⟩
  .have:=U.keep u (zBs aD);simpa using this
  .rcases q8M B with⟨rfl,rfl⟩|⟨P,B⟩
   .rw[L]at A;cases A;exact aC g' u
   .exact af _ _ _ _ _ _ (u.vw aj.2.1 λhm=>P (W _ _ _ ad hm)) (Y m y ab B A)
def qxX{A:Type}{ety}{sz}{R:OwT A}{g}{lo}{S S'}{v}{l}(q:∀n,S n->S' n)(h:oSl ety sz R g lo S v l):oSl ety sz R g lo S' v l:=by
 rcases h with h|⟨b,cap,B,C,rfl,D,E,H,u,L,P⟩
 .exact .inl h
 .exact .inr ⟨b,cap,B,C,rfl,q b D,E,H,λi n h=>⟨q n (u i n h).1,(u i n h).2⟩,L,P⟩
structure WTy where
 Ko:zAw
 Hy:zAw
 tGr:zAw
 tVe:zAw
 tLi:zAw
 tU:zAw
 tRo:zAw
 tRe:zAw
def q5A{q:Type}{r:RP q}(h:∀g g' cs x,r g cs x->r g' cs x):Fr0 (oLf r):=λg g' _ _ cs x _ k=>h g g' cs x k
def qLG{q:Type}{r:RP q}(h:∀g g' cs x,r g cs x->r g' cs x):Rd0 (oLf r) r:=λg _ _ cs x k=>h g _ cs x k
def qaB:∀g g' cs x,BX g cs x->BX g' cs x:=λ_ _ _ _ h=>h
def qwG:∀g g' cs x,Gu g cs x->Gu g' cs x:=λ_ _ _ _ h=>h
def q8A:∀g g' cs x,qeB g cs x->qeB g' cs x:=λ_ _ _ _ h=>h
def qtA:∀g g' cs x,qFB g cs x->qFB g' cs x:=λ_ _ _ _ h=>h
section
variable(t:WTy)(f:zO)
def oNx(g:GW)(lo:Z)(S:Z->Prop)(v:zg)(l:F zt):Prop:=oSl t.Ko 1 (oLf BX) g lo S v l\/(f=zb/\rSl 1 BX (g.vw lo NoB) v l)
def oEn:OwT Bw:=λg h S cs e=>∃n,cs=[.int .u64 e.head,n,.int .i64 e.Ae]/\(InU e.head/\InR e.Ae/\e.next.length<=17592186044416)/\oNx t f g h S n e.next
def oGr:OwT Bi:=λg h S cs x=>∃n,cs=[.int .u64 x.AF,n]/\InU x.AF/\oSl t.Hy 3 (oEn t f) g h S n x.ends
def oVe:OwT AM:=λg h S cs x=>∃a b d n,cs=[a,b,d,n,.bool x.Ba]/\qDI (g.vw h NoB) [a,b,d] x.Aw/\oSl t.tGr 2 (oGr t f) g h S n x.Aj
def oRo:OwT (F zt):=λg h S cs x=>∃n,cs=[n]/\oSl t.tU 1 (oLf Gu) g h S n x
def oWo(g:GW)(lo:Z)(h:Z->Z->Prop)(cs:F zg)(w:Wd):Prop:=∃a b c d e,cs=[.int .i64 w.Ai,.int .i64 w.current,.int .i64 w.AL,a,b,c,d,e]/\(InR w.Ai/\InR w.current/\InR w.AL)/\(∀i j n,h i n->h j n->i=j)/\
 oSl t.Ko 1 (oLf BX) g lo (h 0) a w.pins/\oSl t.tVe 5 (oVe t f) g lo (h 1) b w.Ab/\oSl t.tLi 4 (oLf qeB) g lo (h 2) c w.Aa/\oSl t.tRo 1 (oRo t) g lo (h 3) d w.counts/\oSl t.tRe 3 (oLf qFB) g lo (h 4) e w.An
end
section
variable{t:WTy}{f:zO}
def IY{g g':GW}{lo:Z}{S:Z->Prop}(k:g.vw lo S<=g'.vw lo S):g.vw lo NoB<=g'.vw lo NoB:=GW.It k λ_ h=>h.elim
def q5Y{g g'}{lo}{S}{v}{l}(k:g.vw lo S<=g'.vw lo S)(h:oNx t f g lo S v l):oNx t f g' lo S v l:=
 h.imp (qvA (q5A qaB) k) λ⟨q,u⟩=>⟨q,u.mono quA (IY k)⟩
def qWJ:Fr0 (oEn t f):=λ_ _ _ _ _ _ k⟨n,h,q,u⟩=>⟨n,h,q,q5Y k u⟩
def qnK:Fr0 (oGr t f):=λ_ _ _ _ _ _ k⟨n,h,q,u⟩=>⟨n,h,q,qvA qWJ k u⟩
def qJG:Fr0 (oVe t f):=λ_ _ _ _ _ _ k⟨a,b,d,n,h,q,u⟩=>⟨a,b,d,n,h,qlB _ _ _ _ (IY k) q,qvA qnK k u⟩
def qKG:Fr0 (oRo t):=λ_ _ _ _ _ _ k⟨n,h,q⟩=>⟨n,h,qvA (q5A qwG) k q⟩
def q4Y{g}{lo}{S}{v}{l}(h:oNx t f g lo S v l):rSl 1 BX (g.vw lo S) v l:=by
 rcases h with h|⟨_,h⟩
 .exact qND (qLG qaB) quA h
 .exact h.mono quA (g.GU λ_ h=>h.elim)
def qCd:Rd0 (oEn t f) rEn:=λg A S cs e⟨n,q,h,u⟩=>⟨⟨n,q,h.1,h.2.1,q4Y u⟩,h.2.2⟩
def qBd:Rd0 (oGr t f) rGr:=λg A S cs x⟨n,h,q,u⟩=>⟨n,h,q,qND qCd qMF u⟩
def qRV:Rd0 (oVe t f) rVe:=λg B S cs x⟨a,b,d,n,h,q,u⟩=>⟨a,b,d,n,h,qlB _ _ _ _ (g.GU λ_ A=>A.elim) q,qND qBd qLF u⟩
def qTV:Rd0 (oRo t) Fy:=λg u S cs x⟨n,h,q⟩=>⟨n,h,qND (qLG qwG) qaK q⟩
def qbA{g}{lo}{q}{cs}{w}(h:oWo t f g lo q cs w):rWo g cs w:=by
 obtain⟨a,b,c,d,e,u,A,_,B,C,D,E,H⟩:=h;exact⟨a,b,c,d,e,u,A,(qND (qLG qaB) quA B).mono quA (g.GO _ _),(qND qRV quC C).mono quC (g.GO _ _),(qND (qLG q8A) q4A D).mono q4A (g.GO _ _),(qND qTV qPB E).mono qPB (g.GO _ _),(qND (qLG qtA) qEB H).mono qEB (g.GO _ _)⟩
def qAd{g g'}{lo}{q}{cs}{w}(k:g<=g')(h:oWo t f g lo q cs w):oWo t f g' lo q cs w:=by
 obtain⟨a,b,c,d,e,u,A,B,C,D,E,H,L⟩:=h;exact⟨a,b,c,d,e,u,A,B,qvA (q5A qaB) (GW.D9 k _ _) C,qvA qJG (GW.D9 k _ _) D,qvA (q5A q8A) (GW.D9 k _ _) E,qvA qKG (GW.D9 k _ _) H,qvA (q5A qtA) (GW.D9 k _ _) L⟩
def qxA{g g':GW}{lo:Z}{h:Z->Z->Prop}{i j:Z}(hd:∀i j n,h i n->h j n->i=j)(q:i≠j)(k:∀S:Z->Prop,(∀n,h i n->¬S n)->g.vw lo S<=g'.vw lo S):g.vw lo (h j)<=g'.vw lo (h j):=
 k _ λn u A=>q (hd _ _ _ u A)
def qQV{g}{lo}{u}{e0 e1 e2 a b c d e}{w}(h:oWo t f g lo u [e0,e1,e2,a,b,c,d,e] w){i}{x}(D:w.pins[i]?=O x){x'}(E:InR x'):∃(bk cap:Z),a=.slice (O ⟨bk,0,zc⟩) w.pins.length cap/\PK g lo (u 0) ⟨bk,i,zc⟩ [.int .i64 x'] λg'=>oWo t f g' lo u [e0,e1,e2,a,b,c,d,e] {w with pins:=w.pins.set i x'}:=by
 obtain⟨_,_,_,_,_,B,H,q,C,L,P,Q,R⟩:=h;simp only[zAA,zA6]at B;obtain⟨rfl,rfl,rfl,rfl,rfl,rfl,rfl,rfl⟩:=B
 have T:∃A n cap,a=.slice A n cap:=by
  rcases C with⟨_,A,rfl⟩|⟨b,cap,_,_,rfl,_⟩
  .exact⟨_,_,_,rfl⟩
  .exact⟨_,_,_,rfl⟩
 obtain⟨A,n,cap,rfl⟩:=T;obtain⟨bk,W,Y,⟨rfl,rfl⟩,_,⟨rfl,_⟩,U,_⟩:=qwC (q5A qaB) C D;refine⟨bk,cap,rfl,?_⟩;have:=U 0 [.int .i64 x'] x' se (by simp[zAY]) λg' _=>⟨rfl,E⟩;rw[qoA,qoA,zAr,zCx,zDy]at this;exact this.imp (λ_ h=>h) λg' k V=>⟨_,_,_,_,_,rfl,H,q,V,qvA qJG (qxA q sb k) L,qvA (q5A q8A) (qxA q sb k) P,qvA qKG (qxA q sb k) Q,qvA (q5A qtA) (qxA q sb k) R⟩
end
def NEW(g g':GW):Z->Prop:=λn=>g'.g n/\¬g.g n
def NEW.up{g g' g2}(h:g'<=g2){n}(k:NEW g g' n):NEW g g2 n:=⟨(h.2 n k.1).1,k.2⟩
def NEW.dn{g0 g g'}(h:g0<=g){n}(k:NEW g g' n):NEW g0 g' n:=⟨k.1,λq=>k.2 (h.2 n q).1⟩
def G0{q:Type}(sz:Z)(R:OwT q)(g0 g:GW)(lo:Z)(ecs:F (F zg))(l:F q):Prop:=
 ∃h:Z->Z->Prop,(ecs.length=l.length/\∀e∈ecs,e.length=sz)/\(∀i n,h i n->NEW g0 g n)/\(∀i j n,h i n->h j n->i=j)/\∀(i:Z)x u,l[i]?=O x->ecs[i]?=O u->R g lo (h i) u x
def qzJ{q:Type}{sz}{R:OwT q}(g0 g)(lo):G0 sz R g0 g lo [] []:=
 ⟨λ_ _=>zX,⟨rfl,λ_ h=>by cases h⟩,λ_ _ h=>h.elim,λ_ _ _ h=>h.elim,λi x u h=>by simp at h⟩
def qLI{E:Type}{sz}{R:OwT E}(L:Fr0 R){g0 g g'}{lo}{ecs}{l}(P:g0<=g)(k:g<=g')(h:G0 sz R g0 g lo ecs l){ec}{x:E}(Q:ec.length=sz)(T:R g' lo (NEW g g') ec x):G0 sz R g0 g' lo (ecs++[ec]) (l++[x]):=by
 obtain⟨A,⟨H,U⟩,C,V,W⟩:=h;refine⟨λi n=>if i=l.length then NEW g g' n else i<l.length/\A i n,⟨by simp[H],λe q=>?_⟩,λi n u=>?_,λi j n p u=>?_,λi y e B q=>?_⟩
 .rcases zN.1 q with q|q
  .exact U e q
  .simp at q;subst q;exact Q
 .simp only at u;split at u
  .exact u.dn P
  .exact(C i n u.2).up k
 .simp only at p u;split at p<;>split at u
  .rename_i aa ab;omega
  .exact absurd (C j n u.2).1 p.2
  .exact absurd (C i n p.2).1 u.2
  .exact V _ _ _ p.2 u.2
 .rcases zAJ i l.length with D|D
  .rw[zAc D]at B;rw[zAc sa]at q;have:=L _ g' _ _ _ _ (GW.D9 k _ _) (W i y e B q);show R g' lo (λn=>if i=l.length then NEW g g' n else i<l.length/\A i n) e y;rw[show(λn=>if i=l.length then NEW g g' n else i<l.length/\A i n)=A i from by funext n;rw[zj sa];simp[D]];exact this
  .have Y:i=l.length:=by have:=(ze.1 B).1;simp at this;omega
   subst Y;simp at B;rw[<-H]at q;simp at q;subst B;subst q;show R g' lo (λn=>if l.length=l.length then NEW g g' n else l.length<l.length/\A l.length n) ec x;rw[show(λn=>if l.length=l.length then NEW g g' n else l.length<l.length/\A l.length n)=NEW g g' from by funext n;rw[zk rfl]];exact T
def qMG{D:Type}{ety}{sz}{R:OwT D}(E:Fr0 R){g0 g g'}{lo}{ecs}{l}{oa}{n cap}(h:G0 sz R g0 g lo ecs l)(H:g0<=g)(k:g<=g')(A:Br g' lo ety sz (.slice oa n cap) n ecs.flatten)(L:n=l.length)(P:∀a,oa=O a->¬g.g a.block):oSl ety sz R g' lo (NEW g0 g') (.slice oa n cap) l:=by
 subst L;obtain⟨Q,T,B,U,V⟩:=h;have W:=A;obtain⟨af,Y,ag⟩:=A;rcases Y with⟨q,aa⟩|⟨b,ah,ai,q,ab,_⟩
 .exact .inl ⟨zA4.1 aa,zc,q⟩
 .simp only[zAg,zBL]at q;obtain⟨rfl,rfl⟩:=q;have C:=P _ rfl;exact .inr ⟨b,cap,ecs,Q,rfl,⟨ab.2,λu=>C (H.2 b u).1⟩,W,T,λi n u=>⟨(B i n u).up k,λe=>C (e▸(B i n u).1)⟩,U,λi x ac ad ae=>E _ _ _ _ _ _ (GW.D9 k _ _) (V i x ac ad ae)⟩
def qMI{A:Type}{sz}{r:RP A}(g0 g)(lo)(f:A->F zg)(l)(B:∀x∈l,(f x).length=sz/\r g (f x) x):G0 sz (oLf r) g0 g lo (l.map f) l:=by
 refine⟨λ_ _=>zX,⟨se,λe C=>?_⟩,λ_ _ q=>q.elim,λ_ _ _ q=>q.elim,λi x D h u=>?_⟩
 .obtain⟨x,h,rfl⟩:=zU.1 C;exact(B x h).1
 .rw[zAy,h]at u;simp at u;subst u;exact(B x (zh h)).2
def Br.Gd{g}{lo lo'}{ety}{size}{v}{n}{cs}(h:Br g lo ety size v n cs)(k:lo'<=lo):Br g lo' ety size v n cs:=by
 obtain⟨u,A,B⟩:=h;refine⟨u,A.imp id λ⟨b,cap,C,D,q,E⟩=>⟨b,cap,C,D,⟨zY k q.1,q.2⟩,E⟩,B⟩
def qrF{q:Type}{ety}{sz}{R:OwT q}(u:Fr0 R){g g' g2}{lo}{v}{l}(k:g'<=g2)(h:oSl ety sz R g' lo (NEW g g') v l):oSl ety sz R g2 lo (NEW g g2) v l:=
 qxX (λ_ A=>A.up k) (qvA u (GW.D9 k _ _) h)
def qqA{q:Type}{ety}{sz}{R:OwT q}{g}{lo}{S}{v}{l}(h:oSl ety sz R g lo S v l):∃oa cap,v=.slice oa l.length cap:=by
 rcases h with⟨rfl,oa,rfl⟩|⟨b,cap,_,_,rfl,_⟩
 .exact⟨oa,0,rfl⟩
 .exact⟨_,cap,rfl⟩
def Ec(ecs:F (F zg))(z:F zg)(m:Z):F zg:=ecs.flatten++(zAT m z).flatten
def quG{sz}{ecs}{z}{m}(h:∀e∈ecs,e.length=sz)(q:z.length=sz):(Ec ecs z m).length=(ecs.length+m)*sz:=by
 unfold Ec;rw[zAx,q9C h,q9C (sz:=sz) (λe u=>by rw[zCR u];exact q),List.length_replicate,zB1]
def qtG{sz}{ecs}{z}{m}(h:∀e∈ecs,e.length=sz)(u:z.length=sz)(hm:0<m){ec}(C:ec.length=sz){k}(A:k=ecs.length):(Ec ecs z m).take (k*sz)++ec++(Ec ecs z m).drop (k*sz+sz)=Ec (ecs++[ec]) z (m-1):=by
 subst A;obtain⟨m,rfl⟩:∃B,m=B+1:=⟨m-1,sa⟩;have q:=q9C h;unfold Ec;rw[List.replicate_succ,zCt,<-zB2,zB2 ecs.flatten];rw[List.take_left' q,<-zB2 ecs.flatten z,List.drop_left' (by simp[q,u])];simp
def q6F{ecs}{z}:Ec ecs z 0=ecs.flatten:=by simp[Ec]
def Br.new{g g'}{lo}{ety}{size}{oa}{n cap}{cs}(q:Br g' lo ety size (.slice oa n cap) n cs)(u:∀a,oa=O a->¬g.g a.block):∀a,oa=O a->NEW g g' a.block:=λa A=>by
 subst A;obtain⟨D,B,E⟩:=q;rcases B with⟨h,_⟩|⟨b,H,L,h,C,_⟩
 .cases h
 .simp only[zAg,zAh,zBL]at h;obtain⟨rfl,_⟩:=h;exact⟨C.2,u _ rfl⟩
def Fz{h:Type}(sz:Z)(R:RP h)(g:GW)(ecs:F (F zg))(l:F h):Prop:=(ecs.length=l.length/\∀e∈ecs,e.length=sz)/\∀(i:Z)x q,l[i]?=O x->ecs[i]?=O q->R g q x
def qwJ{q:Type}{sz}{R:RP q}(g):Fz sz R g [] []:=⟨⟨rfl,λ_ h=>by cases h⟩,λi x u h=>by simp at h⟩
def qBG{q:Type}{sz}{R:RP q}(hm:C7 R){g g'}{ecs}{l}(k:g<=g')(h:Fz sz R g ecs l):Fz sz R g' ecs l:=⟨h.1,λi x u A B=>hm _ _ _ _ k (h.2 i x u A B)⟩
def qCG{A:Type}{sz}{R:RP A}{g}{ecs}{l}(h:Fz sz R g ecs l){ec}{x:A}(D:ec.length=sz)(E:R g ec x):Fz sz R g (ecs++[ec]) (l++[x]):=by
 obtain⟨⟨B,H⟩,L⟩:=h;refine⟨⟨by simp[B],λe q=>?_⟩,λi y e u q=>?_⟩
 .rcases zN.1 q with q|q
  .exact H e q
  .simp at q;subst q;exact D
 .rcases zAJ i l.length with C|C
  .rw[zAc C]at u;rw[zAc sa]at q;exact L i y e u q
  .have P:i=l.length:=by have:=(ze.1 u).1;simp at this;omega
   subst P;simp at u;rw[<-B]at q;simp at q;subst u;subst q;exact E
def qeK{q:Type}{ety}{sz lo}{R:RP q}{g}{v}{n}{ecs}{l}(h:Fz sz R g ecs l)(u:Br g lo ety sz v n ecs.flatten)(A:l.length=n):rSl sz R g v l:=
 qbK u.rd l ecs rfl h.1.2 A h.1.1 λi x B C D=>h.2 i x B C D
def BgG(K:Z)(x:Bi):Prop:=x.ends.length<=K
def BgV(K:Z)(x:AM):Prop:=x.Aj.length<=K/\∀y∈x.Aj,BgG K y
def BgW(K:Z)(w:Wd):Prop:=(w.pins.length<=K/\w.Ab.length<=K/\w.Aa.length<=K/\w.counts.length<=K/\w.An.length<=K)/\(∀r∈w.counts,r.length<=K)/\∀v∈w.Ab,BgV K v
section
variable{t:WTy}{f:zO}
def qRC{q:Type}{ety}{sz}{R:OwT q}{g}{lo}{S}{v}{l}(h:oSl ety sz R g lo S v l):∃oa n cap,v=.slice oa n cap:=by
 rcases h with⟨_,oa,rfl⟩|⟨b,cap,_,_,rfl,_⟩
 .exact⟨_,_,_,rfl⟩
 .exact⟨_,_,_,rfl⟩
end
abbrev Ho(x:AI):F zg:=[.string x.name,.bool x.drain,.int .i64 x.Ae,.bool x.closed]
section
variable{t:WTy}{f:zO}
def qmK{g}{lo}{A}{e0 e1 e2 a b c d e}{w}(h:oWo t f g lo A [e0,e1,e2,a,b,c,d,e] w){i}{x x'}(E:w.Aa[i]?=O x){o}{vs}(H:o+vs.length<=4)(L:∀u∈vs,u.oneCell'=I)(P:(Ho x).take o++vs++(Ho x).drop (o+vs.length)=Ho x')(Q:InR x'.Ae):∃(bk cap:Z),c=.slice (O ⟨bk,0,zc⟩) w.Aa.length cap/\Rcs g ((⟨bk,0,zc⟩:zAI).add (i*4)) (Ho x)/\PK g lo (A 2) (((⟨bk,0,zc⟩:zAI).add (i*4)).add o) vs λg'=>oWo t f g' lo A [e0,e1,e2,a,b,c,d,e] {w with Aa:=w.Aa.set i x'}:=by
 obtain⟨_,_,_,_,_,C,R,q,T,U,D,V,W⟩:=h;simp only[zAA,zA6]at C;obtain⟨rfl,rfl,rfl,rfl,rfl,rfl,rfl,rfl⟩:=C;obtain⟨ab,n,c1,rfl⟩:=qRC D;obtain⟨bk,ac,ad,⟨rfl,rfl⟩,⟨_,Y⟩,⟨rfl,_⟩,aa,_⟩:=qwC (q5A q8A) D E;refine⟨bk,c1,rfl,Y,?_⟩;have B:=aa o vs x' H L λg' _=>⟨P,Q⟩;exact B.imp (λ_ h=>h) λg' k B=>⟨_,_,_,_,_,rfl,R,q,qvA (q5A qaB) (qxA q sb k) T,qvA qJG (qxA q sb k) U,B,qvA qKG (qxA q sb k) V,qvA (q5A qtA) (qxA q sb k) W⟩
end
section
variable{t:WTy}{f:zO}
def qoB(a:zAI):a.add 0=a:=by cases a;rfl
abbrev BN(w:Wd)(i j:Z)(v:AM)(x':Bi):Wd:={w with Ab:=w.Ab.set i {v with Aj:=v.Aj.set j x'}}
def qQF{g}{lo}{A}{e0 e1 e2 a b c d e}{w}(h:oWo t f g lo A [e0,e1,e2,a,b,c,d,e] w){i j}{v}{x}(ac:w.Ab[i]?=O v)(ad:v.Aj[j]?=O x):∃(C c1 B c2:Z)(H L P Q:zg)(D:Z->Prop),b=.slice (O ⟨C,0,zc⟩) w.Ab.length c1/\Rcs g ((⟨C,0,zc⟩:zAI).add (i*5)) [H,L,P,.slice (O ⟨B,0,zc⟩) v.Aj.length c2,.bool v.Ba]/\Rcs g ((⟨B,0,zc⟩:zAI).add (j*2)) [.int .u64 x.AF,Q]/\InU x.AF/\oSl t.Hy 3 (oEn t f) g lo D Q x.ends/\(∀(k':zt),InU k'->PK g lo (A 1) ((⟨B,0,zc⟩:zAI).add (j*2)) [.int .u64 k'] λg'=>oWo t f g' lo A [e0,e1,e2,a,b,c,d,e] (BN w i j v {x with AF:=k'}))/\∀(u:zAI)(vs:F zg)(R:F Bw),PK g lo D u vs (λg'=>oSl t.Hy 3 (oEn t f) g' lo D Q R)->PK g lo (A 1) u vs λg'=>oWo t f g' lo A [e0,e1,e2,a,b,c,d,e] (BN w i j v {x with ends:=R}):=by
 obtain⟨_,_,_,_,_,V,ae,E,af,W,ag,ah,ai⟩:=h;simp only[zAA,zA6]at V;obtain⟨rfl,rfl,rfl,rfl,rfl,rfl,rfl,rfl⟩:=V;obtain⟨au,n,c1,rfl⟩:=qRC W;obtain⟨C,Y,av,⟨rfl,rfl⟩,⟨_,aj⟩,⟨H,L,P,Q,rfl,ak,aa⟩,_,al⟩:=qwC qJG W ac;obtain⟨aw,ax,c2,rfl⟩:=qRC aa;obtain⟨B,D,ay,⟨rfl,rfl⟩,⟨_,am⟩,⟨xn,rfl,ab,hE⟩,an,ao⟩:=qwC qnK aa ad
 have up:∀(u:zAI)(vs:F zg)(T:Bi),PK g lo Y u vs (λg'=>oSl t.tGr 2 (oGr t f) g' lo Y (.slice (O ⟨B,0,zc⟩) v.Aj.length c2) (v.Aj.set j T))->
   PK g lo (A 1) u vs λg'=>oWo t f g' lo A [.int .i64 w.Ai,.int .i64 w.current,.int .i64 w.AL,a,.slice (O ⟨C,0,zc⟩) w.Ab.length c1,c,d,e] (BN w i j v T):=λu vs T ap=>by
  have aq:=al _ _ {v with Aj:=v.Aj.set j T} (ap.imp (λ_ h=>h) λg' U q=>⟨H,L,P,_,se,qlB _ _ _ _ (IY (U _ λ_ _=>id|>λ_=>sv)) ak,q⟩);exact aq.imp (λ_ h=>h) λg' k q=>⟨_,_,_,_,_,se,ae,E,qvA (q5A qaB) (qxA E sb k) af,q,qvA (q5A q8A) (qxA E sb k) ag,qvA qKG (qxA E sb k) ah,qvA (q5A qtA) (qxA E sb k) ai⟩
 refine⟨C,c1,B,c2,H,L,P,xn,D,rfl,aj,am,ab,hE,λk' ar=>up _ _ _ ?_,λu vs R q=>up _ _ _ (ao u vs {x with ends:=R} (q.imp (λ_ h=>h) λg' U q=>⟨_,rfl,ab,q⟩))⟩;have q:=an 0 [.int .u64 k'] {x with AF:=k'} se (by simp[zAY]) λg' U=>⟨_,rfl,ar,qvA qWJ U hE⟩;rw[qoB]at q;exact q
def qxC{g}{lo}{S}{A}{l}(hE:oSl t.Hy 3 (oEn t f) g lo S A l){k}{en en'}(H:l[k]?=O en){o}{vs}(L:o+vs.length<=3)(P:∀u∈vs,u.oneCell'=I)(Q:∀n:zg,[.int .u64 en.head,n,.int .i64 en.Ae].take o++vs++[.int .u64 en.head,n,.int .i64 en.Ae].drop (o+vs.length)=[.int .u64 en'.head,n,.int .i64 en'.Ae])(C:en'.next=en.next)(D:InU en'.head/\InR en'.Ae):∃(q c3:Z)(h:zg)(B:Z->Prop),A=.slice (O ⟨q,0,zc⟩) l.length c3/\Rcs g ((⟨q,0,zc⟩:zAI).add (k*3)) [.int .u64 en.head,h,.int .i64 en.Ae]/\oNx t f g lo B h en.next/\PK g lo S (((⟨q,0,zc⟩:zAI).add (k*3)).add o) vs λg'=>oSl t.Hy 3 (oEn t f) g' lo S A (l.set k en'):=by
 obtain⟨W,Y,c3,rfl⟩:=qRC hE;obtain⟨q,B,aa,⟨rfl,rfl⟩,⟨ab,R⟩,⟨h,rfl,T,E⟩,U,_⟩:=qwC qWJ hE H;refine⟨q,c3,h,B,rfl,R,E,?_⟩;exact U o vs en' L P λg' V=>⟨h,Q h,⟨D.1,D.2,by rw[C];exact T.2.2⟩,by rw[C];exact q5Y V E⟩
def qET{g}{lo}{S}{B}{l}(hE:oSl t.Hy 3 (oEn t I) g lo S B l){k s}{en}{y h}(E:l[k]?=O en)(H:en.next[s]?=O y)(L:InR h):∃(u c3 A c4:Z),B=.slice (O ⟨u,0,zc⟩) l.length c3/\Rcs g ((⟨u,0,zc⟩:zAI).add (k*3)) [.int .u64 en.head,.slice (O ⟨A,0,zc⟩) en.next.length c4,.int .i64 en.Ae]/\PK g lo S ((⟨A,0,zc⟩:zAI).add (s*1)) [.int .i64 h] λg'=>oSl t.Hy 3 (oEn t I) g' lo S B (l.set k {en with next:=en.next.set s h}):=by
 obtain⟨V,W,c3,rfl⟩:=qRC hE;obtain⟨u,Y,aa,⟨rfl,rfl⟩,⟨ab,P⟩,⟨ac,rfl,C,q⟩,_,Q⟩:=qwC qWJ hE E;rcases q with q|⟨q,_⟩
 rotate_left
 .cases q
 obtain⟨ad,ae,c4,rfl⟩:=qRC q;obtain⟨A,af,ag,⟨rfl,rfl⟩,_,⟨rfl,_⟩,R,_⟩:=qwC (q5A qaB) q H;refine⟨u,c3,A,c4,rfl,P,?_⟩;have D:=R 0 [.int .i64 h] h se (by simp[zAY]) λg' _=>⟨rfl,L⟩;rw[qoB]at D;exact Q _ _ {en with next:=en.next.set s h} (D.imp (λ_ T=>T) λg' ah U=>⟨_,se,⟨C.1,C.2.1,by rw[zAd];exact C.2.2⟩,.inl U⟩)
def qKI{g}{lo}{C}{e0 e1 e2 a b c d e}{w}(h:oWo t f g lo C [e0,e1,e2,a,b,c,d,e] w){i k}{row}{y q}(Q:w.counts[i]?=O row)(R:row[k]?=O y)(T:InU q):∃(B c1 u c2:Z),d=.slice (O ⟨B,0,zc⟩) w.counts.length c1/\Rcs g ((⟨B,0,zc⟩:zAI).add (i*1)) [.slice (O ⟨u,0,zc⟩) row.length c2]/\Rcs g ((⟨u,0,zc⟩:zAI).add (k*1)) [.int .u64 y]/\PK g lo (C 3) ((⟨u,0,zc⟩:zAI).add (k*1)) [.int .u64 q] λg'=>oWo t f g' lo C [e0,e1,e2,a,b,c,d,e] {w with counts:=w.counts.set i (row.set k q)}:=by
 obtain⟨_,_,_,_,_,E,U,A,V,W,Y,H,aa⟩:=h;simp only[zAA,zA6]at E;obtain⟨rfl,rfl,rfl,rfl,rfl,rfl,rfl,rfl⟩:=E;obtain⟨ag,n,c1,rfl⟩:=qRC H;obtain⟨B,ah,ai,⟨rfl,rfl⟩,⟨_,ab⟩,⟨aj,rfl,L⟩,_,ac⟩:=qwC qKG H Q;obtain⟨ak,al,c2,rfl⟩:=qRC L;obtain⟨u,am,an,⟨rfl,rfl⟩,⟨_,ad⟩,⟨rfl,_⟩,ae,_⟩:=qwC (q5A qwG) L R;refine⟨B,c1,u,c2,rfl,ab,ad,?_⟩;have P:=ae 0 [.int .u64 q] q se (by simp[zAY]) λg' _=>⟨rfl,T⟩;rw[qoB]at P;have af:=ac _ _ (row.set k q) (P.imp (λ_ h=>h) λg' ao D=>⟨_,se,D⟩);exact af.imp (λ_ h=>h) λg' k D=>⟨_,_,_,_,_,se,U,A,qvA (q5A qaB) (qxA A sb k) V,qvA qJG (qxA A sb k) W,qvA (q5A q8A) (qxA A sb k) Y,D,qvA (q5A qtA) (qxA A sb k) aa⟩
end
def qEI{u:Type}{sz}{R:RP u}{g}{a}{n cap}{l}(h:rSl sz R g (.slice (O a) n cap) l){i}{x:u}(A:l[i]?=O x):∃ec,ec.length=sz/\R g ec x/\Rcs g (a.add (i*sz)) ec:=by
 obtain⟨P,c,B,_,_,_,C⟩:=h;obtain⟨Q,D,ec,E,H,L⟩:=C i x A;subst D;injection B with q _ _
 injection q with q
 subst q;exact⟨ec,E,H,L⟩
section
variable{g:GW}{e0 e1 e2 a b c d e:zg}{w:Wd}(h:rWo g [e0,e1,e2,a,b,c,d,e] w)
include h
def qNc:rSl 1 BX g a w.pins:=by
 obtain⟨_,_,_,_,_,q,_,u,A,B,C,D⟩:=h;simp only[zAA,zA6]at q;obtain⟨_,_,_,rfl,rfl,rfl,rfl,rfl⟩:=q;exact u
def qZK:rSl 5 rVe g b w.Ab:=by
 obtain⟨_,_,_,_,_,q,_,A,u,B,C,D⟩:=h;simp only[zAA,zA6]at q;obtain⟨_,_,_,rfl,rfl,rfl,rfl,rfl⟩:=q;exact u
def qzI:rSl 4 qeB g c w.Aa:=by
 obtain⟨_,_,_,_,_,q,_,A,B,u,C,D⟩:=h;simp only[zAA,zA6]at q;obtain⟨_,_,_,rfl,rfl,rfl,rfl,rfl⟩:=q;exact u
def KI:rSl 1 Fy g d w.counts:=by
 obtain⟨_,_,_,_,_,q,_,A,B,C,u,D⟩:=h;simp only[zAA,zA6]at q;obtain⟨_,_,_,rfl,rfl,rfl,rfl,rfl⟩:=q;exact u
def KH:rSl 3 qFB g e w.An:=by
 obtain⟨_,_,_,_,_,q,_,A,B,C,D,u⟩:=h;simp only[zAA,zA6]at q;obtain⟨_,_,_,rfl,rfl,rfl,rfl,rfl⟩:=q;exact u
end
def qKH{g}{a}{n cap}{l}(h:rSl 4 qeB g (.slice (O a) n cap) l){i}{x}(q:l[i]?=O x):InR x.Ae/\Rcs g (a.add (i*4)) [.string x.name,.bool x.drain,.int .i64 x.Ae,.bool x.closed]:=by
 obtain⟨B,_,⟨rfl,u⟩,A⟩:=qEI h q;exact⟨u,A⟩
def qzF{g}{a}{n cap}{l}(h:rSl 5 rVe g (.slice (O a) n cap) l){i}{x}(P:l[i]?=O x):∃A cL B C q u D E,Rcs g (a.add (i*5)) [.slice A x.Aw.Aa.length cL,.slice B x.Aw.AE.length C,.slice q x.Aw.Ad.length u,.slice D x.Aj.length E,.bool x.Ba]/\qDI g [.slice A x.Aw.Aa.length cL,.slice B x.Aw.AE.length C,.slice q x.Aw.Ad.length u] x.Aw/\rSl 4 qTC g (.slice q x.Aw.Ad.length u) x.Aw.Ad/\rSl 2 rGr g (.slice D x.Aj.length E) x.Aj:=by
 obtain⟨U,_,⟨V,W,Y,aa,rfl,hs,H⟩,Q⟩:=qEI h P;obtain⟨_,_,_,L,R,T,s3⟩:=id hs;simp only[zAA,zA6]at L;obtain⟨rfl,rfl,rfl⟩:=L;obtain⟨_,_,rfl,_⟩:=id R;obtain⟨_,_,rfl,_⟩:=id T;obtain⟨_,_,rfl,_⟩:=id s3;obtain⟨_,_,rfl,_⟩:=id H;exact⟨_,_,_,_,_,_,_,_,Q,hs,s3,H⟩
def qYI{g}{a}{n cap}{l}(h:rSl 2 rGr g (.slice (O a) n cap) l){i}{x}(u:l[i]?=O x):∃q cE,Rcs g (a.add (i*2)) [.int .u64 x.AF,.slice q x.ends.length cE]/\InU x.AF/\rSl 3 rEn g (.slice q x.ends.length cE) x.ends:=by
 obtain⟨C,_,⟨D,rfl,A,hE⟩,B⟩:=qEI h u;obtain⟨_,_,rfl,_⟩:=id hE;exact⟨_,_,B,A,hE⟩
def qNH{g}{a}{n cap}{l}(h:rSl 3 rEn g (.slice (O a) n cap) l){i}{x}(B:l[i]?=O x):∃q u,Rcs g (a.add (i*3)) [.int .u64 x.head,.slice q x.next.length u,.int .i64 x.Ae]/\(InU x.head/\InR x.Ae/\x.next.length<=17592186044416)/\rSl 1 BX g (.slice q x.next.length u) x.next:=by
 obtain⟨L,_,⟨⟨P,rfl,C,D,A⟩,E⟩,H⟩:=qEI h B;obtain⟨_,_,rfl,_⟩:=id A;exact⟨_,_,H,⟨C,D,E⟩,A⟩
def qMM{g}{a}{n cap}{l}(h:rSl 1 BX g (.slice (O a) n cap) l){i}{x}(q:l[i]?=O x):InR x/\Rcs g (a.add (i*1)) [.int .i64 x]:=by
 obtain⟨B,_,⟨rfl,u⟩,A⟩:=qEI h q;exact⟨u,A⟩
def qVA{q:Type}{sz:Z}{R:RP q}{g}{oa}{n cap:Z}{l}(h:rSl sz R g (.slice oa n cap) l){i:Z}{x:q}(u:l[i]?=O x):∃a,oa=O a:=by
 obtain⟨o,c,A,_,_,_,B⟩:=h;obtain⟨C,D,_⟩:=B i x u;injection A with E _ _
 exact⟨C,E.trans D⟩
def q3H{g}{cs}{w}(h:rWo g cs w){i j k:Z}{v}{x}{e}(u:w.Ab[i]?=O v)(A:v.Aj[j]?=O x)(B:x.ends[k]?=O e):(InU e.head/\InR e.Ae/\e.next.length<=17592186044416)/\InU x.AF/\∀(n:Z)y,e.next[n]?=O y->InR y:=by
 obtain⟨_,_,_,_,_,rfl,_,_,q,_,_,_⟩:=h;obtain⟨_,_,rfl,_⟩:=id q;obtain⟨a,rfl⟩:=qVA q u;obtain⟨_,_,_,_,_,_,_,_,_,_,_,C⟩:=qzF q u;obtain⟨b,rfl⟩:=qVA C A;obtain⟨_,_,_,L,D⟩:=qYI C A;obtain⟨c,rfl⟩:=qVA D B;obtain⟨_,_,_,P,E⟩:=qNH D B;refine⟨P,L,λn y H=>?_⟩;obtain⟨d,rfl⟩:=qVA E H;exact(qMM E H).1
def Rcs.sub{g}{a}{cs}(h:Rcs g a cs)(o n):Rcs g (a.add o) ((cs.drop o).take n):=λj u q=>by
 rw[zBd]at q;split at q
 .rw[zCl]at q;have:=h _ u q;rwa [qjG]
 .cases q
def Upd.rd{g g':GW}{b j:Z}{q vs:F zg}{ty:zAw}(u:Upd g b (.cells ⟨q.take j++vs++q.drop (j+vs.length)⟩ ty (0,0)) g')(B:g.g b)(C:j+vs.length<=q.length):Rcs g' ⟨b,j,zc⟩ vs:=λi x A=>by
 have e:(⟨b,j,zc⟩:zAI).add i=⟨b,j+i,zc⟩:=by simp[qoA]
 rw[e];refine⟨(u.dom b).2 B,?_⟩;have D:=(ze.1 A).1;show g'.w.cell? ⟨b,j+i,zc⟩=O x;unfold World.cell?;simp only[u.obj]
 have:(q.take j++vs++q.drop (j+vs.length))[j+i]?=O x:=by
  rw[zB2,zBg sf,zAc sf];simp only[zBe];rw[show j+i-min j q.length=i by omega];exact A
 simpa using this
abbrev JO(x:Bo):F zg:=[.int .i64 x.Ac,.int .i64 x.at_,.bool x.gone]
section
variable{t:WTy}{f:zO}
def qUa{g}{lo}{u}{e0 e1 e2 a b c d e}{w}(h:oWo t f g lo u [e0,e1,e2,a,b,c,d,e] w){i}{x}(D:w.An[i]?=O x)(y):∃(bk cap:Z),e=.slice (O ⟨bk,0,zc⟩) w.An.length cap/\Rcs g ((⟨bk,0,zc⟩:zAI).add (i*3)) (JO x)/\PK g lo (u 4) (((⟨bk,0,zc⟩:zAI).add (i*3)).add 2) [.bool y] λg'=>oWo t f g' lo u [e0,e1,e2,a,b,c,d,e] {w with An:=w.An.set i {x with gone:=y}}:=by
 obtain⟨_,_,_,_,_,B,E,q,H,L,P,Q,C⟩:=h;simp only[zAA,zA6]at B;obtain⟨rfl,rfl,rfl,rfl,rfl,rfl,rfl,rfl⟩:=B;obtain⟨V,n,c1,rfl⟩:=qRC C;obtain⟨bk,W,Y,⟨rfl,rfl⟩,⟨_,R⟩,⟨rfl,T⟩,U,_⟩:=qwC (q5A qtA) C D;refine⟨bk,c1,rfl,R,?_⟩;have A:=U 2 [.bool y] {x with gone:=y} se (by simp[zAY]) λg' _=>⟨rfl,T⟩;exact A.imp (λ_ h=>h) λg' k A=>⟨_,_,_,_,_,rfl,E,q,qvA (q5A qaB) (qxA q sb k) H,qvA qJG (qxA q sb k) L,qvA (q5A q8A) (qxA q sb k) P,qvA qKG (qxA q sb k) Q,A⟩
def qVa{g}{lo}{u}{e0 e1 e2 a b c d e}{w}(h:oWo t f g lo u [e0,e1,e2,a,b,c,d,e] w){i}{x}(E:w.Ab[i]?=O x)(y):∃(bk cap:Z),b=.slice (O ⟨bk,0,zc⟩) w.Ab.length cap/\PK g lo (u 1) (((⟨bk,0,zc⟩:zAI).add (i*5)).add 4) [.bool y] λg'=>oWo t f g' lo u [e0,e1,e2,a,b,c,d,e] {w with Ab:=w.Ab.set i {x with Ba:=y}}:=by
 obtain⟨_,_,_,_,_,B,H,q,L,C,P,Q,R⟩:=h;simp only[zAA,zA6]at B;obtain⟨rfl,rfl,rfl,rfl,rfl,rfl,rfl,rfl⟩:=B;obtain⟨ac,n,c1,rfl⟩:=qRC C;obtain⟨bk,ad,ae,⟨rfl,rfl⟩,⟨_,af⟩,⟨T,U,V,W,rfl,Y,aa⟩,ab,_⟩:=qwC qJG C E;refine⟨bk,c1,rfl,?_⟩;have A:=ab 4 [.bool y] {x with Ba:=y} se (by simp[zAY]) λg' D=>⟨T,U,V,W,rfl,qlB _ _ _ _ (IY D) Y,qvA qnK D aa⟩;exact A.imp (λ_ h=>h) λg' k A=>⟨_,_,_,_,_,rfl,H,q,qvA (q5A qaB) (qxA q sb k) L,A,qvA (q5A q8A) (qxA q sb k) P,qvA qKG (qxA q sb k) Q,qvA (q5A qtA) (qxA q sb k) R⟩
end
section
variable{t:WTy}{f:zO}
def qEF{g h}{lo b}{S}(u:G9 g b h)(B:lo<=b)(A:¬S b):g.vw lo S<=h:=u.le (g.GO lo S) λk=>by
 rcases k.2 with q|q
 .omega
 .exact A q
def qSV{C:Type}{ety}{sz}{R:OwT C}{r:RP C}(E:Rd0 R r)(hm:C7 r){g}{lo}{S}{v}{l}(h:oSl ety sz R g lo S v l):(l=[]/\∃oa,v=.slice oa 0 0)\/∃(b cap:Z)(ecs:F (F zg))(rest:F zg),v=.slice (O ⟨b,0,zc⟩) l.length cap/\S b/\(lo<=b/\g.g b/\g.w.heap[b]?=O (.cells ⟨ecs.flatten++rest⟩ ety (0,0))/\ecs.flatten.length=l.length*sz/\(∀u∈ecs.flatten,u.oneCell'=I)/\l.length<=cap/\cap<=zAp/\(ecs.flatten++rest).length=cap*sz)/\∀q,G9 g b q->Fz sz r q ecs l:=by
 rcases h with h|⟨b,cap,ecs,af,rfl,H,L,P,Q,ag,T⟩
 .exact .inl h
 obtain⟨U,A,V⟩:=L;rcases A with⟨A,_⟩|⟨ah,ai,rest,D,B,W,Y,aa,ab⟩
 .cases A
 simp only[zAg,zAh,Addr.mk.injEq]at D;obtain⟨⟨rfl,_⟩,_,rfl⟩:=D;refine .inr ⟨b,cap,ecs,rest,rfl,H,⟨B.1,B.2,W,U,V,Y,aa,ab⟩,λq u=>⟨P,λi x ac ad ae=>?_⟩⟩;exact hm _ _ _ _ (qEF u B.1 λk=>(Q i b k).2 rfl) (E _ _ _ _ _ (T i x ac ad ae))
def qzR{g}{lo}{B}{e0 e1 e2 a b c d e}{w}(h:oWo t f g lo B [e0,e1,e2,a,b,c,d,e] w)(D:w.Ab≠[]):∃(bk cap:Z)(ecs:F (F zg))(rest:F zg),b=.slice (O ⟨bk,0,zc⟩) w.Ab.length cap/\(lo<=bk/\g.g bk/\g.w.heap[bk]?=O (.cells ⟨ecs.flatten++rest⟩ t.tVe (0,0))/\ecs.flatten.length=w.Ab.length*5/\(∀u∈ecs.flatten,u.oneCell'=I)/\w.Ab.length<=cap/\cap<=zAp/\(ecs.flatten++rest).length=cap*5)/\∀q,G9 g bk q->Fz 5 rVe q ecs w.Ab/\rSl 1 BX q a w.pins/\rSl 4 qeB q c w.Aa/\rSl 1 Fy q d w.counts/\rSl 3 qFB q e w.An:=by
 obtain⟨_,_,_,_,_,C,Y,E,H,L,P,Q,R⟩:=h;simp only[zAA,zA6]at C;obtain⟨rfl,rfl,rfl,rfl,rfl,rfl,rfl,rfl⟩:=C;rcases qSV qRV quC L with⟨T,_⟩|⟨bk,cap,ecs,rest,rfl,U,A,V⟩
 .exact absurd T D
 refine⟨bk,cap,ecs,rest,rfl,A,λq u=>?_⟩;have no:∀j,j≠1->¬B j bk:=λj W k=>W (E j 1 bk k U);exact⟨V q u,(qND (qLG qaB) quA H).mono quA (qEF u A.1 (no 0 sb)),(qND (qLG q8A) q4A P).mono q4A (qEF u A.1 (no 2 sb)),(qND qTV qPB Q).mono qPB (qEF u A.1 (no 3 sb)),(qND (qLG qtA) qEB R).mono qEB (qEF u A.1 (no 4 sb))⟩
def qwX{g}{lo}{B}{e0 e1 e2 a b c d e}{w}(h:oWo t f g lo B [e0,e1,e2,a,b,c,d,e] w):(w.An=[]/\∃oa,e=.slice oa 0 0)\/∃(bk cap:Z)(ecs:F (F zg))(rest:F zg),e=.slice (O ⟨bk,0,zc⟩) w.An.length cap/\(lo<=bk/\g.g bk/\g.w.heap[bk]?=O (.cells ⟨ecs.flatten++rest⟩ t.tRe (0,0))/\ecs.flatten.length=w.An.length*3/\(∀u∈ecs.flatten,u.oneCell'=I)/\w.An.length<=cap/\cap<=zAp/\(ecs.flatten++rest).length=cap*3)/\∀q,G9 g bk q->Fz 3 qFB q ecs w.An/\rSl 1 BX q a w.pins/\rSl 5 rVe q b w.Ab/\rSl 4 qeB q c w.Aa/\rSl 1 Fy q d w.counts:=by
 obtain⟨_,_,_,_,_,C,V,D,E,H,L,P,Q⟩:=h;simp only[zAA,zA6]at C;obtain⟨rfl,rfl,rfl,rfl,rfl,rfl,rfl,rfl⟩:=C;rcases qSV (qLG qtA) qEB Q with h|⟨bk,cap,ecs,rest,rfl,R,A,T⟩
 .exact .inl h
 refine .inr ⟨bk,cap,ecs,rest,rfl,A,λq u=>?_⟩;have no:∀j,j≠4->¬B j bk:=λj U k=>U (D j 4 bk k R);exact⟨T q u,(qND (qLG qaB) quA E).mono quA (qEF u A.1 (no 0 sb)),(qND qRV quC H).mono quC (qEF u A.1 (no 1 sb)),(qND (qLG q8A) q4A L).mono q4A (qEF u A.1 (no 2 sb)),(qND qTV qPB P).mono qPB (qEF u A.1 (no 3 sb))⟩
end
def qaO{h q:GW}{lo:Z}{ety:zAw}{a b c d v:zg}{w:Wd}{ecs:F (F zg)}{x:Bo}(u:InR w.Ai/\InR w.current/\InR w.AL)(A:Fz 3 qFB h ecs w.An/\rSl 1 BX h a w.pins/\rSl 5 rVe h b w.Ab/\rSl 4 qeB h c w.Aa/\rSl 1 Fy h d w.counts)(k:h<=q)(B:Br q lo ety 3 v (w.An.length+1) (ecs.flatten++JO x))(C:InR x.Ac/\InR x.at_):rWo q [.int .i64 w.Ai,.int .i64 w.current,.int .i64 w.AL,a,b,c,d,v] {w with An:=w.An++[x]}:=by
 obtain⟨D,E,H,L,P⟩:=A;refine⟨_,_,_,_,_,rfl,u,E.mono quA k,H.mono quC k,L.mono q4A k,P.mono qPB k,?_⟩;refine qeK (ecs:=ecs++[JO x]) (ety:=ety) (lo:=lo) (qCG (qBG qEB k D) rfl ⟨rfl,C⟩) (n:=w.An.length+1) (by simpa using B) se
def quZ{h q:GW}{lo:Z}{ety:zAw}{a c d e v:zg}{w:Wd}{ecs:F (F zg)}{x:AM}{u:F zg}(A:InR w.Ai/\InR w.current/\InR w.AL)(T:w.Ab.length<=1000000)(B:Fz 5 rVe h ecs w.Ab/\rSl 1 BX h a w.pins/\rSl 4 qeB h c w.Aa/\rSl 1 Fy h d w.counts/\rSl 3 qFB h e w.An)(k:h<=q)(C:Br q lo ety 5 v (w.Ab.length+1) (ecs.flatten++u))(D:u.length=5)(E:rVe q u x):rWo q [.int .i64 w.Ai,.int .i64 w.Ab.length,.int .i64 w.AL,a,v,c,d,e] {w with Ab:=w.Ab++[x],current:=w.Ab.length}:=by
 obtain⟨H,L,P,Q,R⟩:=B;refine⟨_,_,_,_,_,rfl,⟨A.1,by show InR (w.Ab.length:zt);unfold InR;omega,A.2.2⟩,L.mono quA k,?_,P.mono q4A k,Q.mono qPB k,R.mono qEB k⟩;refine qeK (ecs:=ecs++[u]) (ety:=ety) (lo:=lo) (qCG (qBG quC k H) D E) (n:=w.Ab.length+1) (by simpa using C) se
section
variable{H:Type}{enc:zAw×zg->H}{P:zv}{W:zp}
def qCR(P:zv)(t:zAw)(d:DataW H):Prop:=∀n∈d.weights P t,n<=reachBytes
def qAX{q}{u}(h:(DataW.weightsEach P q u).all (·<=reachBytes)=I){j:Z}{t}{d:DataW H}(A:q[j]?=O t)(hd:u[j]?=O d):qCR P t d:=
 λn B=>by simpa using zAs.1 h n (DataW.weights_mem_each A hd n B)
def G8{h:Type}(enc:zAw×zg->H)(P:zv)(W:zp)(t:zAw)(R:RP h):Prop:=∀fuel cs x,tr enc P W fuel t cs=O x->qCR P t x.1->∃a,R (EH W) cs a
def Rds.w{q:Type}{t}{R:RP q}(h:Rds enc P W t R):G8 enc P W t R:=λf cs x u _=>h f cs x u
def G8.fld{q:Type}{u}{R:RP q}(A:G8 enc P W u R){cs}(h:∃n y,tr enc P W n u cs=O y/\qCR P u y.1):∃a,R (EH W) cs a:=let⟨n,y,B,hs⟩:=h;A n cs y B hs
def tr1{cs}{u}(h:∃n y,tr enc P W n u cs=O y/\qCR P u y.1):∃n y,tr enc P W n u cs=O y:=let⟨n,y,q,_⟩:=h;⟨n,y,q⟩
def qHH{e}:∀{l:F (DataW H)}{d:DataW H},d∈l->∀n∈d.weights P e,n∈DataW.weightsAll P e l
 |a::r,d,h,n,q=>by
  simp only[DataW.weightsAll,zN];rcases zs.1 h with rfl|h
  .exact .inl q
  .exact .inr (qHH h n q)
def qEX{D:Type}{t e}{sz}{R:RP D}(E:P.underlying t=O (.slice e))(hs:P.cellsOf e=sz)(ad:G8 enc P W e R):G8 enc P W t λg cs l=>∃v,cs=[v]/\rSl sz R g v l/\l.length*P.bytesOf e<=reachBytes:=by
 intro fuel cs x L Q;rcases DataW.trod_slice E L with⟨rfl,_⟩|⟨a,len,cap,B,ae,n,_,rfl,rfl,_,af,ag,ah,T,_⟩
 .exact⟨[],_,rfl,⟨zc,0,rfl,zH _,zJ _,λ_=>⟨rfl,rfl⟩,λi x A=>by simp at A⟩,se⟩
 .rw[hs]at T
  have ai:∀i(u:i<B.length),qCR P e (B[i]).1:=λi u k aj=>by
   refine Q k ?_;simp only[DataW.weights,E,zs,zN];exact .inr (.inl (qHH (zU.2 ⟨B[i],zDt _,rfl⟩) k aj))
  have ak:len*P.bytesOf e<=reachBytes:=by
   have:=Q ((B.length+ae.length)*P.bytesOf e) (by simp[DataW.weights,E]);subst ah;exact zY (zB8 _ sa) this
  have U:∀i,i<len->∃(x:D)(h:F zg),h.length=sz/\R (EH W) h x/\Rcs (EH W) (a.add (i*sz)) h:=λi u=>by
   have V:=T i u;rw[zAa sa]at V;obtain⟨h,q,al⟩:=zAC.1 V;obtain⟨x,A⟩:=ad n h _ al (ai i sa);unfold World.cells? at q;rw[zk (zJ _)]at q;have Y:=mapM_some_length q;refine⟨x,h,by simpa using Y,A,λj an aa=>?_⟩;have ao:=(ze.1 aa).1;have ap:h.length=sz:=by simpa using Y
   obtain⟨y,ab,C⟩:=qvO q j j (zCg sa);rw[aa]at ab;cases ab;refine⟨?_,C⟩;show _<W.heap.size;unfold World.cell? at C;cases ac:W.heap[((a.add (i*sz)).add j).block]? with
   |none=>rw[ac]at C;cases C
   |some o=>exact(zAb.1 ac).1
  let f:Fin len->D:=λi=>Classical.choose (U i.1 i.2);have am:∀i:Fin len,∃(h:F zg),h.length=sz/\R (EH W) h (f i)/\Rcs (EH W) (a.add (i.1*sz)) h:=λi=>zDa (U i.1 i.2);refine⟨List.ofFn f,_,rfl,⟨O a,cap,se,by simpa using af,ag,(λL=>by cases L),λi x A=>⟨a,rfl,?_⟩⟩,by simpa using ak⟩;obtain⟨u,q⟩:=ze.1 A;simp only[List.getElem_ofFn]at q;simp only[zDv]at u;have:=am ⟨i,u⟩;rw[<-q];exact this
def q3a{t}{l}(q:fieldsOf P t=O l){fuel}{cs}{x:DataW H×F MemPlace}(h:tr enc P W fuel t cs=O x)(hs:qCR P t x.1):cs.length=P.cellsOf t/\∀(i o s:Z)(u:zAw),l[i]?=O (o,s,u)->∃n y,tr enc P W n u ((cs.drop o).take s)=O y/\qCR P u y.1:=by
 unfold fieldsOf at q;split at q
 .rename_i R A;simp only[zAh]at q;subst q;obtain⟨B,n,rfl,rfl,E,T,L⟩:=DataW.trod_struct A h;refine⟨E,λi o s u C=>?_⟩;simp only[zAy,zD,zCm]at C;obtain⟨f,q,D⟩:=C;simp only[zCE]at D;obtain⟨rfl,rfl,rfl⟩:=D;have U:=(zAb.1 q).1;refine⟨n,B[i]'sa,by rw[<-zAa];exact L i f q,λk Q=>hs k ?_⟩;simp only[DataW.weights,A];refine DataW.weights_mem_each (j:=i) (t:=f.type) (d:=(B[i]'sa).1) ?_ ?_ k Q
  .rw[zAy,zCm,q];rfl
  .rw[zAy,zAa sa];rfl
 .cases q
end
end Go.Proofs.YtlmhpamhhgogaaaGreat.Sx
namespace Go.Proofs.YtlmhpamhhgogaaaGreat.Sx
def qRA(s:Ej):AM:=⟨s,s.Ad.map λc=>⟨0,c.Az.map λ_=>qlC c.As.toNat⟩,zb⟩
def qTD(n:Z):F (F zt):=(zA8 n).map λ_=>[0,0,0,0,0,0]
def CK(l:F BA):F AI:=l.map λn=>⟨n,zb,0,zb⟩
def CJ(s:Ej)(l:F BA)(t:Z):Wd:=⟨0,0,0,zAT t 0,[qRA s],CK l,qTD t,[]⟩
def Fa(l:F BA)(i:Z)(n:BA):zO:=qDE (bs n)&&decide (qlA (CK (l.take i)) n<0)
def qyH(s:Ej)(l:F BA)(t:zt):Prop:=qOA (qfD s)=zc/\(1<=t/\t<=8)/\allI (Fa l) l=I
def q1O{l:F BA}{k:Z}{n:BA}(h:l[k]?=O n):CK (l.take (k+1))=CK (l.take k)++[⟨n,zb,0,zb⟩]:=by
 obtain⟨q,u⟩:=ze.1 h;unfold CK;rw[zAo q,u,zBE];rfl
def inB(i n:zt):zO:=decide (0<=i)&&decide (i<n)
def B7{i n}:inB i n=I<->0<=i/\i<n:=by simp[inB]
structure Ay(w:Wd)(m:Ah)(v:AM)(gr:Bi)(en:Bw):Prop where
 right:wdB w=I
 Al:0<=m.Al/\m.Al<w.pins.length
 done:m.done=zb
 ver:0<=m.Ac/\w.Ab[m.Ac.toNat]?=O v
 clu:0<=m.Af/\v.Aj[m.Af.toNat]?=O gr
 Ak:0<=m.Ak/\gr.ends[m.Ak.toNat]? =O en
 other:0<=m.other/\m.other<gr.ends.length
 slot:0<=m.slot/\m.slot<en.next.length
 listen:-1<=m.listen/\m.listen<w.Aa.length
 i:0<=m.i
 k:0<=m.k
def JX(w:Wd)(m:Ah):Prop:=∃v h q,Ay w m v h q
noncomputable def qzA(w:Wd)(m:Ah):zO:=@decide (JX w m) (zBb _)
def Am{w}{m:Ah}:qzA w m=I<->JX w m:=@decide_eq_true_iff _ (zBb _)
def qwD{w}{m:Ah}(h:¬JX w m):qzA w m=zb:=by rw[zCH];exact λk=>h (Am.1 k)
noncomputable def GZ(w:Wd)(m:Ah):Wd:=if qzA w m then{w with pins:=w.pins.set m.Al.toNat 0}else w
noncomputable def HC(w:Wd)(m:Ah):Ev:=if qzA w m then⟨m.Al,0,2,2,-1,zb,0,zb,zb,zb,BY⟩else ev0
def qDB(x):InR (zAj.wrap x):=by
 rw[zBz];unfold InR;omega
noncomputable def BL(w:Wd)(m:Ah):Wd:=if qzA w m=I/\m.pc=1 then{w with pins:=w.pins.set m.Al.toNat (zAj.wrap (m.Ai+1))}else w
noncomputable def BC(w:Wd)(m:Ah):Ah:=if qzA w m=I then(if m.pc=0 then{m with Ai:=w.Ai,pc:=1}else if m.pc=1 then{m with pc:=2}else if m.pc=2 then{m with pc:=if w.Ai=m.Ai then 3 else 1,Ai:=w.Ai}else m)else m
noncomputable def CO(w:Wd)(m:Ah):Ev:=if qzA w m=I then(if m.pc=1 then⟨m.Al,0,2,2,-1,zb,zAj.wrap (m.Ai+1),zb,zb,zb,BY⟩else if m.pc=0\/m.pc=2 then⟨m.Al,0,1,1,-1,zb,w.Ai,zb,zb,zb,BY⟩else ev0)else ev0
def qRT{n}(h:1<=n/\n<=4):BH (qlC n)=I:=by
 obtain⟨q,u⟩:=h
 match n,q,u with
 |1,_,_=>decide
 |2,_,_=>decide
 |3,_,_=>decide
 |4,_,_=>decide
def qoV(n):(qlC n).next.length=n:=by simp[qlC]
def qCL{s}(h:qOA (qfD s)=zc):qVB (qRA s)=I:=by
 have A:=AZ.1 h;unfold qVB;simp only[zl,zF];refine⟨⟨qxV h,by simp[qRA]⟩,?_⟩;rw[AO];intro i x q;simp only[qRA,zAy,zD]at q;obtain⟨c,u,rfl⟩:=q;have hm:c∈(qfD s).Ad:=zh u;obtain⟨_,_,B,_⟩:=A.cl c hm;unfold qTG;rw[show(qRA s).Aw.Ad[i]?=O c from u];simp only[zl,zF,zBa,zAs,zU,zBL];rintro e ⟨_,_,rfl⟩;unfold q3K;rw[qRT sa,qoV];simp;omega
def qaQ{s}{l}{t}(h:1<=t/\t<=8):qGB (CJ s l t)=I:=by
 unfold qGB qHE;simp only[CJ,qTD,List.length_replicate,zBa,List.length_range,zl,zF,zAs,zU,List.mem_replicate];refine⟨⟨⟨⟨⟨⟨⟨h.1,h.2⟩,trivial⟩,⟨⟨?_,h.1⟩,h.2⟩⟩,rfl⟩,rfl⟩,.inl trivial⟩,?_⟩
 .rintro r ⟨_,_,rfl⟩;rfl
 .rintro p ⟨_,rfl⟩;exact⟨by first|rfl|exact zAS 0,by first|rfl|exact(by decide:(0:zt)<=0+1)⟩
def qZQ{l}(h:allI (Fa l) l=I):allI (qvB (CK l)) (CK l)=I:=by
 rw[AO]at h⊢;intro i x A;simp only[CK,zAy,zD]at A;obtain⟨n,B,rfl⟩:=A;have q:=h i n B;simp only[Fa,zl,zF]at q;obtain⟨q,u⟩:=q;unfold qvB qpJ;simp only[zl,zF,q];refine⟨⟨⟨trivial,sa⟩,se⟩,?_⟩
 have E:BM (λ(x:AI)=>bs x.name==bs n) (CK (l.take i))=zc:=by
  unfold qlA at u;cases H:BM (λ(x:AI)=>bs x.name==bs n) (CK (l.take i))with
  |none=>rfl
  |some j=>rw[H]at u;simp only[Cz]at u;omega
 have C:=C3.1 E;unfold qlA;refine q0G (x:=⟨n,zb,0,zb⟩) (i:=i) ?_ (by simp[CK,B]) se;intro j L y D;unfold Eg
 have:(bs y.name==bs n)=zb:=by
  rw[zBr]at C
  have hm:y∈CK (l.take i):=by
   simp only[CK,zAy,zD]at D;obtain⟨m,hm,rfl⟩:=D;refine zU.2 ⟨m,?_,rfl⟩;refine zh (i:=j) ?_;rw[zBd,zk L];exact hm
  simpa using C y hm
 show(if(bs y.name==bs n)=I then O j else zc)=zc;rw[this];rfl
def qFT{s}{l}{t}(h:qyH s l t):wdB (CJ s l t.toNat)=I:=by
 obtain⟨u,D,A⟩:=h;unfold wdB;rw[qaQ (s:=s) (l:=l) (t:=t.toNat) sa]
 have B:allI (Dg (CJ s l t.toNat)) (CJ s l t.toNat).Ab=I:=by
  rw[AO];intro i x q
  have:i=0/\x=qRA s:=by
   simp only[CJ]at q
   match i,q with
   |0,q=>simp at q;exact⟨rfl,q.symm⟩
   |i+1,q=>simp at q
  obtain⟨rfl,rfl⟩:=this;unfold Dg;rw[qCL u];rfl
 have C:allI (qvB (CJ s l t.toNat).Aa) (CJ s l t.toNat).Aa=I:=qZQ A;rw[B,C];simp only[CJ,zCP,Bool.and_true,zl,zF];refine⟨⟨⟨rfl,se⟩,rfl⟩,rfl⟩
def quI{w w'}(h:wdB w=I)(A:qGB w'=I)(e1:w'.current=w.current)(e2:w'.Ab=w.Ab)(e3:w'.An=w.An)(e4:w'.Aa=w.Aa)(P:w.Ai<=w'.Ai):wdB w'=I:=by
 unfold wdB at h⊢;simp only[zl,zF]at h⊢;obtain⟨⟨⟨⟨⟨⟨Q,B⟩,C⟩,D⟩,q⟩,u⟩,E⟩:=h;rw[e1,e2,e3,e4];refine⟨⟨⟨⟨⟨⟨A,B⟩,C⟩,D⟩,?_⟩,?_⟩,E⟩
 .rw[zAs]at q⊢;intro r H;have:=q r H;unfold Dj at this⊢;simp only[zl,zF]at this⊢;rw[e1,e2];exact⟨this.1,sa⟩
 .rw[AO]at u⊢;intro i x L;have:=u i x L;unfold Dg at this⊢;rw[e3];exact this
def qbC{w}(h:wdB w=I):qGB w=I:=by
 unfold wdB at h;simp only[zl]at h;exact h.1.1.1.1.1.1
def q3P{w}(h:wdB w=I){i}{x}(A:0<=x/\x<=w.Ai+1):wdB {w with pins:=w.pins.set i x}=I:=by
 refine quI h ?_ rfl rfl rfl rfl (zAS _);have q:=qbC h;unfold qGB at q⊢;simp only[zl,zAd,zAs,zF]at q⊢;refine⟨q.1,λp u=>?_⟩;rcases zAf u with u|rfl
 .exact q.2 p u
 .exact A
def qGK{w}(h:wdB w=I)(D:w.Ai<1000000000000):wdB {w with Ai:=w.Ai+1}=I:=by
 refine quI h ?_ rfl rfl rfl rfl (by show w.Ai<=w.Ai+1;omega);have q:=qbC h;unfold qGB at q⊢;simp only[zl,zAs,zF]at q⊢;obtain⟨⟨⟨⟨u,E⟩,H⟩,A⟩,B⟩:=q;exact⟨⟨⟨⟨u,sa⟩,sa⟩,A⟩,λp C=>by have:=B p C;omega⟩
end Go.Proofs.YtlmhpamhhgogaaaGreat.Sx
namespace Go.Proofs.YtlmhpamhhgogaaaGreat.Sx
open Go.RowKit
abbrev Eb:BA:=⟨#[105,110]⟩
def qvS(n:zt)(h:F zO):Ej:=⟨[Eb],[⟨0,⟨#[42]⟩,⟨#[47]⟩,0⟩],[⟨⟨#[97]⟩,1,n,h⟩]⟩
def wP(e:zt)(p:F zt):Wd:={CJ (qvS 2 [I,zb]) [Eb] 2 with Ai:=e,pins:=p}
def op0:OpD:=⟨0,⟨#[]⟩,⟨#[]⟩,⟨#[]⟩,0,0,0,⟨[],[],[]⟩⟩
def mP(pc h:zt):Ah:=⟨op0,1,pc,h,0,0,0,0,0,0,0,0,0,0,0,zb,BY,c60⟩
def q3I{w}{m:Ah}(hs:qzA w m=I):(m.pc=0\/m.pc=2->CO w m=⟨m.Al,0,1,1,-1,zb,w.Ai,zb,zb,zb,BY⟩)/\(m.pc=1->CO w m=⟨m.Al,0,2,2,-1,zb,zAj.wrap (m.Ai+1),zb,zb,zb,BY⟩)/\(m.pc=3->CO w m=ev0):=by
 unfold CO;rw[zk hs];refine⟨λh=>?_,λh=>?_,λh=>?_⟩
 .rw[zj sa,zk h]
 .rw[zk h]
 .rw[zj sa,zj sa]
def q2I{w}{m:Ah}(hs:qzA w m=I):(m.pc≠1->BL w m=w)/\(m.pc=1->BL w m={w with pins:=w.pins.set m.Al.toNat (zAj.wrap (m.Ai+1))}):=by
 unfold BL;exact⟨λh=>by rw[zj λk=>h k.2],λh=>by rw[zk ⟨hs,h⟩]⟩
def qUD{w}{m:Ah}(hs:qzA w m=I):(m.pc=0->BC w m={m with Ai:=w.Ai,pc:=1})/\(m.pc=1->BC w m={m with pc:=2})/\(m.pc=2->BC w m={m with pc:=if w.Ai=m.Ai then 3 else 1,Ai:=w.Ai})/\(m.pc=3->BC w m=m):=by
 unfold BC;rw[zk hs];refine⟨λh=>?_,λh=>?_,λh=>?_,λh=>?_⟩
 .rw[zk h]
 .rw[zj sa,zk h]
 .rw[zj sa,zj sa,zk h]
 .rw[zj sa,zj sa,zj sa]
def qLA{g}{cs}{w}(h:rWo g cs w):∃oa ca q u A B C D E H,cs=[.int .i64 w.Ai,.int .i64 w.current,.int .i64 w.AL,.slice oa w.pins.length ca,.slice q w.Ab.length u,.slice A w.Aa.length B,.slice C w.counts.length D,.slice E w.An.length H]:=by
 obtain⟨a,b,c,d,e,rfl,_,⟨oa,ca,rfl,_⟩,⟨q,u,rfl,_⟩,⟨A,B,rfl,_⟩,⟨C,D,rfl,_⟩,⟨E,H,rfl,_⟩⟩:=h;exact⟨oa,ca,q,u,A,B,C,D,E,H,rfl⟩
def q1B{g}{cs}{m:Ah}(h:qdA g cs m):∃q t1 u t2 A B,cs=m.cs (.slice q m.op.Ao.Aa.length t1) (.slice u m.op.Ao.Ar.length t2) (.slice A m.op.Ao.Ad.length B):=by
 obtain⟨D,E,H,rfl,_,_,⟨_,_,_,C,⟨q,t1,rfl,_⟩,⟨u,t2,rfl,_⟩,⟨A,B,rfl,_⟩⟩⟩:=h;cases C;exact⟨q,t1,u,t2,A,B,rfl⟩
def qkU{g}{e0 e1 e2 a b c d e}{w}(h:rWo g [e0,e1,e2,a,b,c,d,e] w){x}(u:InR x):rWo g [.int .i64 x,e1,e2,a,b,c,d,e] {w with Ai:=x}:=by
 obtain⟨_,_,_,_,_,q,⟨_,A,B⟩,C⟩:=h;simp only[zAA,zA6]at q;obtain⟨rfl,rfl,rfl,rfl,rfl,rfl,rfl,rfl⟩:=q;exact⟨_,_,_,_,_,rfl,⟨u,A,B⟩,C⟩
def qiG:c60.ok:=⟨sb,sb,sb,sb,sb,sb⟩
def qwH:BY.ok:=⟨sb,sb,sb,sb,sb,sb,sb,qiG⟩
def qNF(g):qBB g [.slice zc 0 0,.slice zc 0 0,.slice zc 0 0] ⟨[],[],[]⟩:=
 ⟨_,_,_,rfl,⟨zc,0,rfl,zH _,zJ _,λ_=>⟨rfl,rfl⟩,λi x h=>by simp at h⟩,⟨zc,0,rfl,zH _,zJ _,λ_=>⟨rfl,rfl⟩,λi x h=>by simp at h⟩,⟨zc,0,rfl,zH _,zJ _,λ_=>⟨rfl,rfl⟩,λi x h=>by simp at h⟩⟩
def z0:InR 0:=sb
def z1:InR 1:=sb
def zu:InU 0:=sb
end Go.Proofs.YtlmhpamhhgogaaaGreat.Sx
namespace Go.Proofs.YtlmhpamhhgogaaaGreat.Sx
def Ay.keep{w w'}{m m':Ah}{v}{gr}{en}(h:Ay w m v gr en)(q:wdB w'=I)(e1:w'.pins.length=w.pins.length)(e2:w'.Ab=w.Ab)(e3:w'.Aa=w.Aa)(u:m'.Al=m.Al)(k2:m'.done=m.done)(k3:m'.Ac=m.Ac)(A:m'.Af=m.Af)(B:m'.Ak=m.Ak)(k6:m'.other=m.other)(C:m'.slot=m.slot)(D:m'.listen=m.listen)(E:m'.i=m.i)(H:m'.k=m.k):Ay w' m' v gr en:=
 ⟨q,by rw[u,e1];exact h.Al,by rw[k2];exact h.done,by rw[k3,e2];exact h.ver,by rw[A];exact h.clu,by rw[B];exact h.Ak,by rw[k6];exact h.other,by rw[C];exact h.slot,by rw[D,e3];exact h.listen,by rw[E];exact h.i,by rw[H];exact h.k⟩
def qUG{w}(h:wdB w=I):0<=w.Ai/\w.Ai<=1000000000000:=by
 have q:=qbC h;unfold qGB at q;simp only[zl,zF]at q;obtain⟨⟨⟨⟨u,A⟩,B⟩,C⟩,D⟩:=q;omega
structure FF(w:Wd)(m:Ah):Prop where
 AA:qzA w m=I
 pc:m.pc=0\/m.pc=1\/m.pc=2
 ep:m.pc≠0->0<=m.Ai/\m.Ai<=w.Ai
 at_:m.pc=2->w.pins[m.Al.toNat]?=O (m.Ai+1)
def wrE{x}(h:0<=x/\x<=1000000000000):zAj.wrap (x+1)=x+1:=wr si
def FF.step{w}{m:Ah}(h:FF w m):wdB (BL w m)=I/\(BL w m).Ai=w.Ai/\(BC w m).Al=m.Al/\(CO w m).access≠0/\(BL w m).pins.length=w.pins.length/\(BL w m).Ab=w.Ab/\(BL w m).Aa=w.Aa/\(BL w m).counts=w.counts/\(BL w m).An=w.An/\(FF (BL w m) (BC w m)\/((BC w m).pc=3/\(BC w m).Ai=w.Ai/\(BL w m).pins[m.Al.toNat]?=O (w.Ai+1))):=by
 obtain⟨v,B,C,A⟩:=Am.1 h.AA;have u:=A.right;obtain⟨H,Q⟩:=qUG u;rcases h.pc with q|q|q
 .rw[(q2I h.AA).1 sa,(qUD h.AA).1 q,(q3I h.AA).1 (.inl q)];refine⟨u,rfl,rfl,(by decide:(1:zt)≠0),rfl,rfl,rfl,rfl,rfl,.inl ⟨?_,.inr (.inl rfl),λ_=>⟨H,zAS _⟩,λh=>absurd h (by decide:¬(1:zt)=2)⟩⟩;exact Am.2 ⟨v,B,C,A.keep u rfl rfl rfl rfl rfl rfl rfl rfl rfl rfl rfl rfl rfl⟩
 .obtain⟨D,L⟩:=h.ep sa;rw[(q2I h.AA).2 q,(qUD h.AA).2.1 q,(q3I h.AA).2.1 q,wrE ⟨D,sa⟩];have P:=q3P u (i:=m.Al.toNat) (x:=m.Ai+1) sa;refine⟨P,rfl,rfl,(by decide:(2:zt)≠0),se,rfl,rfl,rfl,rfl,.inl ⟨?_,.inr (.inr rfl),λ_=>⟨D,L⟩,λ_=>?_⟩⟩
  .exact Am.2 ⟨v,B,C,A.keep P se rfl rfl rfl rfl rfl rfl rfl rfl rfl rfl rfl rfl⟩
  .have:=A.Al;show(w.pins.set m.Al.toNat (m.Ai+1))[m.Al.toNat]?=O (m.Ai+1);rw[zC3 sa]
 .obtain⟨D,L⟩:=h.ep sa;rw[(q2I h.AA).1 sa,(qUD h.AA).2.2.1 q,(q3I h.AA).1 (.inr q)];refine⟨u,rfl,rfl,(by decide:(1:zt)≠0),rfl,rfl,rfl,rfl,rfl,?_⟩;by_cases E:w.Ai=m.Ai
  .rw[zk E];exact .inr ⟨rfl,rfl,by rw[h.at_ q,E]⟩
  .rw[zj E];exact .inl ⟨Am.2 ⟨v,B,C,A.keep u rfl rfl rfl rfl rfl rfl rfl rfl rfl rfl rfl rfl rfl⟩,.inr (.inl rfl),λ_=>⟨H,zAS _⟩,λh=>absurd h (by decide:¬(1:zt)=2)⟩
def FF.on{w}{m:Ah}(h:FF w m)(u:w.Ai<1000000000000):FF {w with Ai:=w.Ai+1} m:=by
 obtain⟨v,A,B,q⟩:=Am.1 h.AA;refine⟨Am.2 ⟨v,A,B,q.keep (qGK q.right u) rfl rfl rfl rfl rfl rfl rfl rfl rfl rfl rfl rfl rfl⟩,h.pc,λk=>?_,h.at_⟩;obtain⟨C,D⟩:=h.ep k;exact⟨C,by show m.Ai<=w.Ai+1;omega⟩
def quU{w}{m:Ah}(hs:qzA w m=I)(E:m.pc=0):BL w m=w/\BC w m={m with Ai:=w.Ai,pc:=1}/\qzA w {m with Ai:=w.Ai,pc:=1}=I/\BL w {m with Ai:=w.Ai,pc:=1}={w with pins:=w.pins.set m.Al.toNat (w.Ai+1)}/\BC w {m with Ai:=w.Ai,pc:=1}={m with Ai:=w.Ai,pc:=2}/\qzA {w with pins:=w.pins.set m.Al.toNat (w.Ai+1)} {m with Ai:=w.Ai,pc:=2}=I/\BL {w with pins:=w.pins.set m.Al.toNat (w.Ai+1)} {m with Ai:=w.Ai,pc:=2}={w with pins:=w.pins.set m.Al.toNat (w.Ai+1)}/\BC {w with pins:=w.pins.set m.Al.toNat (w.Ai+1)} {m with Ai:=w.Ai,pc:=2}={m with Ai:=w.Ai,pc:=3}/\wdB {w with pins:=w.pins.set m.Al.toNat (w.Ai+1)}=I:=by
 obtain⟨v,B,C,h⟩:=Am.1 hs;have q:=h.right;obtain⟨H,L⟩:=qUG q;have u:qzA w {m with Ai:=w.Ai,pc:=1}=I:=Am.2 ⟨v,B,C,h.keep q rfl rfl rfl rfl rfl rfl rfl rfl rfl rfl rfl rfl rfl⟩;have D:=q3P q (i:=m.Al.toNat) (x:=w.Ai+1) sa;have A:qzA {w with pins:=w.pins.set m.Al.toNat (w.Ai+1)} {m with Ai:=w.Ai,pc:=2}=I:=Am.2 ⟨v,B,C,h.keep D se rfl rfl rfl rfl rfl rfl rfl rfl rfl rfl rfl rfl⟩;refine⟨(q2I hs).1 sa,(qUD hs).1 E,u,?_,(qUD u).2.1 rfl,A,(q2I A).1 (by show(2:zt)≠1;decide),?_,D⟩
 .rw[(q2I u).2 rfl];show({w with pins:=w.pins.set m.Al.toNat (zAj.wrap (w.Ai+1))}:Wd)=_;rw[wrE ⟨H,L⟩]
 .rw[(qUD A).2.2.1 rfl];show({m with Ai:=w.Ai,pc:=if w.Ai=w.Ai then 3 else 1}:Ah)=_;rw[zk rfl]
def Ge{h:Type}(f:h->zt)(l:F h):zt:=(l.map f).sum
def q4H{q:Type}(f:q->zt):∀{l:F q}{i:Z}{x y:q},l[i]?=O x->Ge f (l.set i y)=Ge f l-f x+f y
 |a::r,0,x,y,h=>by
  simp at h;subst h;simp[Ge];omega
 |a::r,i+1,x,y,h=>by
  have:=q4H f (l:=r) (i:=i) (x:=x) (y:=y) (by simpa using h);unfold Ge at this⊢;simp only[zCS,zB0,List.sum_cons,this];omega
 |[],i,x,y,h=>by simp at h
def qWF(e:Bw):zt:=if BH e then e.next.length-(((qHB e).getD []).length:Z)else 0
def qFH(x:Bi):zt:=Ge qWF x.ends
def qXI(v:AM):zt:=Ge qFH v.Aj
def qmH(w:Wd):zt:=Ge qXI w.Ab
abbrev KE:BA:=⟨#[119,101,98]⟩
def w3:Wd:=CJ (qvS 2 [I,zb]) [Eb,KE] 3
def v3:AM:=qRA (qvS 2 [I,zb])
def gr3:Bi:=⟨0,[qlC 2,qlC 2]⟩
def qFN{g}{e0 e1 e2 a b c d e}{w}(h:rWo g [e0,e1,e2,a,b,c,d,e] w){x}(u:InR x):rWo g [e0,e1,.int .i64 x,a,b,c,d,e] {w with AL:=x}:=by
 obtain⟨_,_,_,_,_,q,⟨A,B,_⟩,C⟩:=h;simp only[zAA,zA6]at q;obtain⟨rfl,rfl,rfl,rfl,rfl,rfl,rfl,rfl⟩:=q;exact⟨_,_,_,_,_,rfl,⟨A,B,u⟩,C⟩
def CN(e:Bw):Bw:={e with head:=qxB e.head (DM e.next (AX e.head))}
def qvY{e}(h:BH e=I){x}{r}(q:qHB e=O (x::r)):BH (CN e)=I/\qWF (CN e)=qWF e+1/\AX e.head=x/\(0<=x/\x<e.next.length)/\(-1<=DM e.next x/\DM e.next x<=2147483646)/\InU (CN e).head:=by
 have D:=h;unfold BH at h;simp only[zl,zF]at h;obtain⟨⟨⟨_,E⟩,H⟩,L⟩:=h;rcases qbI q with⟨h,_⟩|⟨T,U,P,u,Q,_⟩
 .cases h
 .cases P;have V:=qCP q;have A:-1<=DM e.next x/\DM e.next x<=2147483646:=sa
  have B:qHB (CN e)=O r:=by
   unfold CN;rw[u];exact q9R q (qWI A) e.Ae
  have C:BH (CN e)=I:=by
   unfold BH;rw[B];simp only[zl,zF,zB7,zBL];exact⟨⟨E,H⟩,L⟩
  refine⟨C,?_,u,Q,A,by unfold CN;rw[u];exact qYQ A⟩;have R:=qKY q;unfold qWF;rw[C,D,B,q];simp only[zBA,zAG,zBy]at R⊢;show((e.next.length:Z):zt)-_=_;omega
def qvI{w}(h:wdB w=I){i j k}{v}{x}{en en'}(E:w.Ab[i]?=O v)(H:v.Aj[j]?=O x)(P:x.ends[k]?=O en)(Q:BH en'=I)(R:en'.next.length=en.next.length):wdB {w with Ab:=w.Ab.set i {v with Aj:=v.Aj.set j {x with ends:=x.ends.set k en'}}}=I:=by
 unfold wdB at h⊢;simp only[zl,zF]at h⊢;obtain⟨⟨⟨⟨⟨⟨T,U⟩,V⟩,W⟩,L⟩,B⟩,Y⟩:=h;refine⟨⟨⟨⟨⟨⟨T,U⟩,by rw[zAd];exact V⟩,W⟩,?_⟩,?_⟩,Y⟩
 .rw[zAs]at L⊢;intro r aa;have:=L r aa;unfold Dj at this⊢;simpa only[zAd]using this
 .rw[AO]at B⊢;intro p y q;rw[zAE]at q;split at q
  .rename_i ab;subst ab;have ac:=(ze.1 E).1;rw[zk ac]at q;cases q;have C:=B i v E;unfold Dg qVB at C⊢;simp only[zl,zF,zAd]at C⊢;obtain⟨⟨⟨ad,ae⟩,D⟩,af⟩:=C;refine⟨⟨⟨ad,ae⟩,?_⟩,af⟩;rw[AO]at D⊢;intro ag z A;rw[zAE]at A;split at A
   .rename_i ah;subst ah;have ai:=(ze.1 H).1;rw[zk ai]at A;cases A;have u:=D j x H;unfold qTG at u⊢;split at u
    .rename_i c aj;simp only[zl,zF,zAs,zAd]at u⊢;refine⟨u.1,λy q=>?_⟩;rcases zAf q with q|rfl
     .exact u.2 y q
     .have:=u.2 en (zh P);unfold q3K at this⊢;simp only[zl,zF]at this⊢;exact⟨Q,by rw[R];exact this.2⟩
    .cases u
   .exact D ag z A
  .exact B p y q
def qHY{w}{i j k}{v}{x}{en en'}(h:w.Ab[i]?=O v)(q:v.Aj[j]?=O x)(u:x.ends[k]?=O en):qmH {w with Ab:=w.Ab.set i {v with Aj:=v.Aj.set j {x with ends:=x.ends.set k en'}}}=qmH w-qWF en+qWF en':=by
 have e1:qFH {x with ends:=x.ends.set k en'}=qFH x-qWF en+qWF en':=q4H qWF u;have e2:qXI {v with Aj:=v.Aj.set j {x with ends:=x.ends.set k en'}}=qXI v-qFH x+qFH {x with ends:=x.ends.set k en'}:=q4H qFH q;have e3:qmH {w with Ab:=w.Ab.set i {v with Aj:=v.Aj.set j {x with ends:=x.ends.set k en'}}}=qmH w-qXI v+qXI {v with Aj:=v.Aj.set j {x with ends:=x.ends.set k en'}}:=q4H qXI h;omega
def qXa{s}{l}{t}(h:qOA (qfD s)=zc)(E:t<=8)(H:l.length<=100):BgW 1000 (CJ s l t):=by
 have q:=AZ.1 h;refine⟨⟨by show(zAT t (0:zt)).length<=1000;simp;omega,by show 1<=1000;decide,by show(CK l).length<=1000;simp[CK];omega,by show(qTD t).length<=1000;simp[qTD];omega,by show 0<=1000;decide⟩,λr u=>?_,λv B=>?_⟩
 .simp only[CJ,qTD,zU]at u;obtain⟨_,_,rfl⟩:=u;decide
 .have:v=qRA s:=by simpa[CJ]using B
  subst this;have C:=q.size.2.2.2;refine⟨by show(s.Ad.map _).length<=1000;simp;exact zY C sb,λx A=>?_⟩;simp only[qRA,zU]at A;obtain⟨c,D,rfl⟩:=A;obtain⟨_,_,_,L⟩:=q.cl c D;show(c.Az.map _).length<=1000;simp;omega
def vZ:AM:=⟨⟨[],[],[]⟩,[],zb⟩
def I0{h:Type}(sz)(R:RP h)(g):rSl sz R g (.slice zc 0 0) []:=⟨zc,0,rfl,zH _,zJ _,λ_=>⟨rfl,rfl⟩,λi x q=>by simp at q⟩
abbrev Gz(w:Wd)(m:Ah):Prop:=qzA w m=I/\m.pc=0
def drI(w:Wd)(m:Ah):zt:=qlA w.Aa m.op.listen
def drL(x:AI):AI:={x with drain:=I}
def Dl(k l:zt):Ans:=⟨k,0,0,0,0,l,0,c60⟩
noncomputable def drW(w:Wd)(m:Ah):Wd:=if Gz w m then(match w.Aa[(drI w m).toNat]? with|some x=>if 0<=drI w m then{w with Aa:=w.Aa.set (drI w m).toNat (drL x)}else w|none=>w)else w
noncomputable def drM(w:Wd)(m:Ah):Ah:=if Gz w m then(if drI w m<0 then{m with done:=I,answer:=Dl 7 0}else{m with listen:=drI w m,done:=I,answer:=Dl 10 (drI w m)})else m
noncomputable def drE(w:Wd)(m:Ah):Ev:=if Gz w m then(if drI w m<0 then⟨m.Al,0,1,0,-1,zb,0,zb,zb,I,Dl 7 0⟩else⟨m.Al,0,2,4,-1,zb,1,zb,I,I,Dl 10 (drI w m)⟩)else ev0
def qcd{w}{m:Ah}(h:¬Gz w m):drW w m=w/\drM w m=m/\drE w m=ev0:=by
 unfold drW drM drE;rw[zj h,zj h,zj h];exact⟨rfl,rfl,rfl⟩
def q3V{w}{m:Ah}(h:Gz w m)(q:drI w m<0):drW w m=w/\drM w m={m with done:=I,answer:=Dl 7 0}/\drE w m=⟨m.Al,0,1,0,-1,zb,0,zb,zb,I,Dl 7 0⟩:=by
 unfold drW drM drE;rw[zk h,zk h,zk q,zk h,zk q];refine⟨?_,rfl,rfl⟩;split
 .rw[zj sa]
 .rfl
def q2V{w}{m:Ah}(h:Gz w m){x}(q:0<=drI w m)(u:w.Aa[(drI w m).toNat]?=O x):drW w m={w with Aa:=w.Aa.set (drI w m).toNat (drL x)}/\drM w m={m with listen:=drI w m,done:=I,answer:=Dl 10 (drI w m)}/\drE w m=⟨m.Al,0,2,4,-1,zb,1,zb,I,I,Dl 10 (drI w m)⟩:=by
 unfold drW drM drE;rw[zk h,zk h,zj sa,zk h,zj sa,u];exact⟨by show(if 0<=drI w m then _ else w)=_;rw[zk q],rfl,rfl⟩
def qfR{l}{s}(h:0<=qlA l s):∃x,l[(qlA l s).toNat]?=O x/\qlA l s<l.length:=by
 unfold qlA at h⊢;cases q:BM (λ(x:AI)=>bs x.name==bs s) l with
 |none=>rw[q]at h;simp[Cz]at h
 |some i=>
  obtain⟨x,u,_⟩:=q1D q;have:=(ze.1 u).1;exact⟨x,by simpa[Cz]using u,by simp[Cz];exact this⟩
def qjF{k l}(h:InR k/\InR l):(Dl k l).ok:=⟨h.1,z0,z0,z0,z0,h.2,z0,qiG⟩
def qFA(c:AW):F zt:=((zA8 c.Az.length).filter λi=>(c.Az[i]?).getD zb).map λ(i:Z)=>(i:zt)
def qlQ{c}{x}(h:x∈qFA c):0<=x/\x<c.Az.length:=by
 unfold qFA at h;simp only[zU,zAZ,zCZ]at h;obtain⟨i,⟨q,_⟩,rfl⟩:=h;omega
def qmQ(c):(qFA c).length<=c.Az.length:=by
 unfold qFA;rw[zBa];exact zY (List.length_filter_le _ _) se
def qvD(c:AW)(t:zt):zt:=((qFA c)[(t%(qFA c).length).toNat]?).getD 0
def qeC(c:AW)(d:zt):zt:=((qFA c)[(d%(qFA c).length).toNat]?).getD 0
def qIU{c}{t}(h:qFA c≠[]):0<=qvD c t/\qvD c t<c.Az.length:=by
 have u:0<(qFA c).length:=zDi.2 h;have A:=zBR t (show((qFA c).length:zt)≠0 by omega);have B:=zBD t (show(0:zt)<(qFA c).length by omega);obtain⟨x,q⟩:=qEA (l:=qFA c) (i:=(t%(qFA c).length).toNat) sa;unfold qvD;rw[q];exact qlQ (zh q)
def qpZ{d n:zt}(h:0<n):(d.tmod n+n).tmod n=d%n:=by
 have u:=zBR d (show n≠0 by omega);have A:=zBD d h
 have q:d.tmod n=d%n\/d.tmod n=d%n-n:=by
  rw[Int.tmod_eq_emod];split
  .exact .inl sa
  .right;have:(n.natAbs:zt)=n:=sa
   omega
 rcases q with q|q
 .rw[q,zB3 sa,Int.add_emod_right,zCG u A]
 .rw[q,show d%n-n+n=d%n by omega,zB3 u,zCG u A]
def qwF(a x b y:zt):zt:=if y<x then b else a
def enD:Bw:=⟨0,[],0⟩
def mV(w:Wd)(m:Ah):AM:=(w.Ab[m.Ac.toNat]?).getD vZ
def mG(w:Wd)(m:Ah):Bi:=((mV w m).Aj[m.Af.toNat]?).getD ⟨0,[]⟩
def mE(w:Wd)(m:Ah)(k:zt):Bw:=((mG w m).ends[k.toNat]?).getD enD
def mC(w:Wd)(m:Ah):AW:=((mV w m).Aw.Ad[m.Af.toNat]?).getD ⟨⟨#[]⟩,0,0,[]⟩
def mL(w:Wd)(m:Ah):AI:=(w.Aa[m.listen.toNat]?).getD ⟨⟨#[]⟩,zb,0,zb⟩
def Ay.at_{w}{m:Ah}{v}{gr}{en}(h:Ay w m v gr en):mV w m=v/\mG w m=gr/\mE w m m.Ak=en:=by
 have q:mV w m=v:=by unfold mV;rw[h.ver.2];rfl
 have u:mG w m=gr:=by unfold mG;rw[q,h.clu.2];rfl
 exact⟨q,u,by unfold mE;rw[u,h.Ak.2];rfl⟩
abbrev Cm(w:Wd)(m:Ah)(h:Bw):Wd:=BN w m.Ac.toNat m.Af.toNat (mV w m) {mG w m with ends:=(mG w m).ends.set m.Ak.toNat h}
abbrev BG(w:Wd)(m:Ah)(x':AI):Wd:={w with Aa:=w.Aa.set m.listen.toNat x'}
def evO(m:Ah)(a c v:zt):Ev:=⟨m.Al,0,a,c,-1,zb,v,zb,zb,zb,BY⟩
def evV(w:Wd)(m:Ah)(a c v:zt):Ev:=⟨m.Al,0,a,c,m.Ac,(mV w m).Ba,v,zb,zb,zb,BY⟩
def qjH(m:Ah)(k:zt):Ah:={m with answer:=Dl k 0,pc:=20}
abbrev hGo(w:Wd)(m:Ah):Prop:=qzA w m=I/\(0<=m.pc/\m.pc<=23/\¬(12<m.pc/\m.pc<20))/\¬(m.listen<0/\(m.pc=4\/m.pc=5\/m.pc=22))
abbrev wI(x:zt):zt:=zAj.wrap x
abbrev wU(x:zt):zt:=zBP.wrap x
def cnt(w:Wd)(i k:zt):zt:=(((w.counts[i.toNat]?).getD [])[k.toNat]?).getD 0
abbrev Bh(w:Wd)(i k:zt):Wd:={w with counts:=w.counts.set i.toNat (((w.counts[i.toNat]?).getD []).set k.toNat (wU (cnt w i k+1)))}
def qEH(m:Ah):zt:=if 1<=m.answer.kind/\m.answer.kind<=5 then m.answer.kind else 0
def casB(w:Wd)(m:Ah):zO:=decide ((mE w m m.Ak).head=m.word)&&q6C m.link
def q4D(s:Ej)(l h p:BA):zy zt:=
 if Cz (BM (λx=>bs x==bs l) s.Aa)<0 then zc
 else(qrN (Es (Cz (BM (λx=>bs x==bs l) s.Aa)) h p) s.AE).map λj=>((s.AE[j]?).map (·.Af)).getD 0
def Cr(w:Wd)(m:Ah):Ah:=match q4D (mV w m).Aw m.op.listen m.op.Bb m.op.path with
 |none=>qjH m 2
 |some c=>
  if qFA (mC w {m with Af:=c})=[]then qjH {m with Af:=c} 3
  else if(mC w {m with Af:=c}).AY=1 then{m with Af:=c,pc:=6}
  else{m with Af:=c,Ak:=qeC (mC w {m with Af:=c}) m.op.d0,other:=qeC (mC w {m with Af:=c}) m.op.d1,pc:=7}
def hM5(w:Wd)(m:Ah):Ah:=if(mL w m).drain then qjH m 5 else Cr w m
def hE5(w:Wd)(m:Ah):Ev:=if(mL w m).drain then{evO m 1 4 1 with EE:=I}else evO m 1 4 0
noncomputable def hW(w:Wd)(m:Ah):Wd:=
 if m.pc=4 then BG w m {mL w m with Ae:=wI ((mL w m).Ae+1)}
 else if m.pc=6 then BN w m.Ac.toNat m.Af.toNat (mV w m) {mG w m with AF:=wU ((mG w m).AF+1)}
 else if m.pc=11 then(if casB w m then Cm w m {mE w m m.Ak with head:=qxB m.word m.link}else w)
 else if m.pc=12 then Cm w m {mE w m m.Ak with Ae:=wI ((mE w m m.Ak).Ae+1)}
 else if m.pc=20 then Bh w m.Al (qEH m)
 else if m.pc=21 then Bh w m.Al 0
 else if m.pc=22 then BG w m {mL w m with Ae:=wI ((mL w m).Ae-1)}
 else if m.pc=23 then GZ w m
 else w
def hM3(w:Wd)(m:Ah):Ah:=
 if qlA w.Aa m.op.listen<0 then qjH {m with Ac:=w.current,Af:=0,Ak:=0,other:=0,slot:=0,listen:=qlA w.Aa m.op.listen} 2
 else{m with Ac:=w.current,Af:=0,Ak:=0,other:=0,slot:=0,listen:=qlA w.Aa m.op.listen,pc:=4}
def hE3(w:Wd)(m:Ah):Ev:={evO m 1 3 w.current with EE:=I}
def hM9(w:Wd)(m:Ah):Ah:=
 if 0<=AX (mE w m m.Ak).head/\AX (mE w m m.Ak).head<(mE w m m.Ak).next.length then{m with word:=(mE w m m.Ak).head,slot:=AX (mE w m m.Ak).head,pc:=10}
 else qjH {m with word:=(mE w m m.Ak).head} 4
def hM(w:Wd)(m:Ah):Ah:=
 if m.pc=3 then hM3 w m
 else if m.pc=4 then{m with pc:=5}
 else if m.pc=5 then hM5 w m
 else if m.pc=6 then{m with Ak:=qvD (mC w m) (mG w m).AF,pc:=9}
 else if m.pc=7 then{m with i:=(mE w m m.Ak).Ae,pc:=8}
 else if m.pc=8 then{m with Ak:=qwF m.Ak m.i m.other (mE w m m.other).Ae,pc:=9}
 else if m.pc=9 then hM9 w m
 else if m.pc=10 then{m with link:=((mE w m m.Ak).next[m.slot.toNat]?).getD 0,pc:=11}
 else if m.pc=11 then{m with pc:=if casB w m then 12 else 9}
 else if m.pc=12 then{m with answer:=⟨1,m.Ac,m.Af,m.Ak,m.slot,m.listen,0,c60⟩,pc:=20}
 else if m.pc=20 then{m with pc:=21}
 else if m.pc=21 then{m with pc:=if m.answer.kind=1\/m.listen<0 then 23 else 22}
 else if m.pc=22 then{m with pc:=23}
 else if m.pc=23 then{m with done:=I}
 else m
noncomputable def hE(w:Wd)(m:Ah):Ev:=
 if m.pc=3 then hE3 w m
 else if m.pc=4 then evO m 3 5 (wI ((mL w m).Ae+1))
 else if m.pc=5 then hE5 w m
 else if m.pc=6 then evV w m 3 6 (wI (mG w m).AF)
 else if m.pc=7 then evV w m 1 7 (mE w m m.Ak).Ae
 else if m.pc=8 then evV w m 1 7 (mE w m m.other).Ae
 else if m.pc=9 then evV w m 1 8 (AX (mE w m m.Ak).head)
 else if m.pc=10 then evV w m 1 9 (((mE w m m.Ak).next[m.slot.toNat]?).getD 0)
 else if m.pc=11 then(if casB w m then evV w m 4 8 m.slot else evV w m 5 8 (AX (mE w m m.Ak).head))
 else if m.pc=12 then evV w m 3 7 (wI ((mE w m m.Ak).Ae+1))
 else if m.pc=20 then evO m 3 10 (qEH m)
 else if m.pc=21 then evO m 3 10 0
 else if m.pc=22 then evO m 3 5 (wI ((mL w m).Ae-1))
 else if m.pc=23 then{HC w m with done:=I,answer:=m.answer}
 else ev0
abbrev fGo(w:Wd)(m:Ah):Prop:=qzA w m=I/\((0<=m.pc/\m.pc<=4)\/m.pc=9)/\¬(m.pc=4/\m.listen<0)
def Ih(m:Ah):Ans:=if m.pc=4 then⟨6,m.Ac,m.Af,m.Ak,m.slot,m.listen,0,c60⟩else Dl 7 0
def fW(w:Wd)(m:Ah):Wd:=
 if m.pc=1 then Cm w m {mE w m m.Ak with next:=(mE w m m.Ak).next.set m.slot.toNat (AX m.word)}
 else if m.pc=2 then(if(mE w m m.Ak).head=m.word then Cm w m {mE w m m.Ak with head:=qxB m.word m.slot}else w)
 else if m.pc=3 then Cm w m {mE w m m.Ak with Ae:=wI ((mE w m m.Ak).Ae-1)}
 else if m.pc=4 then BG w m {mL w m with Ae:=wI ((mL w m).Ae-1)}
 else w
def fM(w:Wd)(m:Ah):Ah:=
 if m.pc=0 then{m with word:=(mE w m m.Ak).head,pc:=1}
 else if m.pc=1 then{m with pc:=2}
 else if m.pc=2 then{m with pc:=if(mE w m m.Ak).head=m.word then 3 else 0}
 else if m.pc=3 then{m with pc:=4}
 else{m with done:=I,answer:=Ih m}
def fE(w:Wd)(m:Ah):Ev:=
 if m.pc=0 then evV w m 1 8 (AX (mE w m m.Ak).head)
 else if m.pc=1 then evV w m 2 9 (AX m.word)
 else if m.pc=2 then(if(mE w m m.Ak).head=m.word then{evV w m 4 8 m.slot with EE:=I}else evV w m 5 8 (AX (mE w m m.Ak).head))
 else if m.pc=3 then evV w m 3 7 (wI ((mE w m m.Ak).Ae-1))
 else if m.pc=4 then{evO m 3 5 (wI ((mL w m).Ae-1))with done:=I,answer:=Ih m}
 else{evO m 1 0 0 with done:=I,answer:=Ih m}
def q3J{s}(B:qOA (qfD s)=zc){l h p}{c}(q:q4D s l h p=O c):0<=c/\c<s.Ad.length:=by
 unfold q4D at q;split at q
 .cases q
 obtain⟨j,C,rfl⟩:=zD.1 q;obtain⟨r,u,_⟩:=Eu.1 C;rw[u];show 0<=r.Af/\r.Af<s.Ad.length;have G:=AZ.1 B;obtain⟨_,_,_,A⟩:=G.rt (qcC s r) (zU.2 ⟨r,zh u,rfl⟩);apply zB6;intro D
 have:(qcC s r).Af=⟨#[]⟩:=by
  show qPD s.Ad r.Af=_;unfold qPD;rw[zj D]
 rw[this]at A;obtain⟨x,E,H⟩:=zBY.1 A;exact qYa (G.cl x E).1 (qZM (by simpa using H))
noncomputable def hsW(w:Wd)(m:Ah):Wd:=if hGo w m then(if m.pc<3 then BL w m else hW w m)else w
noncomputable def hsM(w:Wd)(m:Ah):Ah:=if hGo w m then(if m.pc<3 then BC w m else hM w m)else m
noncomputable def hsE(w:Wd)(m:Ah):Ev:=if hGo w m then(if m.pc<3 then CO w m else hE w m)else ev0
def qua{w}{m:Ah}(h:¬hGo w m):hsW w m=w/\hsM w m=m/\hsE w m=ev0:=by
 unfold hsW hsM hsE;rw[zj h,zj h,zj h];exact⟨rfl,rfl,rfl⟩
def qmB{w}{m:Ah}(h:hGo w m)(q:¬m.pc<3):hsW w m=hW w m/\hsM w m=hM w m/\hsE w m=hE w m:=by
 unfold hsW hsM hsE;rw[zk h,zk h,zk h,zj q,zj q,zj q];exact⟨rfl,rfl,rfl⟩
def q6O{w}{m:Ah}(h:0<=m.pc/\m.pc<3):hsW w m=BL w m/\hsM w m=BC w m/\hsE w m=CO w m:=by
 by_cases hs:qzA w m=I
 .have q:hGo w m:=⟨hs,sa,sa⟩;unfold hsW hsM hsE;rw[zk q,zk q,zk q,zk h.2,zk h.2,zk h.2];exact⟨rfl,rfl,rfl⟩
 .obtain⟨a,b,c⟩:=qua (w:=w) (m:=m) (λk=>hs k.1);have hs:qzA w m=zb:=by simpa using hs
  rw[a,b,c];unfold BL BC CO;rw[hs];exact⟨rfl,rfl,rfl⟩
def qAY{a x b y}(h:InR a)(q:InR b):InR (qwF a x b y):=by unfold qwF;split<;>assumption
def q6T(x):InU (wU x):=by show InU (zBP.wrap x);rw[IntKind.wrap_u64];unfold InU;omega
section
variable{w:Wd}{m:Ah}
def ha3(h:m.pc=3):hW w m=w/\hM w m=hM3 w m/\hE w m=hE3 w m:=by simp[hW,hM,hE,h]
def ha4(h:m.pc=4):hW w m=BG w m {mL w m with Ae:=wI ((mL w m).Ae+1)}/\hM w m={m with pc:=5}/\hE w m=evO m 3 5 (wI ((mL w m).Ae+1)):=by simp[hW,hM,hE,h]
def ha5(h:m.pc=5):hW w m=w/\hM w m=hM5 w m/\hE w m=hE5 w m:=by simp[hW,hM,hE,h]
def ha6(h:m.pc=6):hW w m=BN w m.Ac.toNat m.Af.toNat (mV w m) {mG w m with AF:=wU ((mG w m).AF+1)}/\hM w m={m with Ak:=qvD (mC w m) (mG w m).AF,pc:=9}/\hE w m=evV w m 3 6 (wI (mG w m).AF):=by simp[hW,hM,hE,h]
def ha7(h:m.pc=7):hW w m=w/\hM w m={m with i:=(mE w m m.Ak).Ae,pc:=8}/\hE w m=evV w m 1 7 (mE w m m.Ak).Ae:=by simp[hW,hM,hE,h]
def ha8(h:m.pc=8):hW w m=w/\hM w m={m with Ak:=qwF m.Ak m.i m.other (mE w m m.other).Ae,pc:=9}/\hE w m=evV w m 1 7 (mE w m m.other).Ae:=by simp[hW,hM,hE,h]
def ha9(h:m.pc=9):hW w m=w/\hM w m=hM9 w m/\hE w m=evV w m 1 8 (AX (mE w m m.Ak).head):=by simp[hW,hM,hE,h]
def HN(h:m.pc=10):hW w m=w/\hM w m={m with link:=((mE w m m.Ak).next[m.slot.toNat]?).getD 0,pc:=11}/\hE w m=evV w m 1 9 (((mE w m m.Ak).next[m.slot.toNat]?).getD 0):=by simp[hW,hM,hE,h]
def HM(h:m.pc=11):hW w m=(if casB w m then Cm w m {mE w m m.Ak with head:=qxB m.word m.link}else w)/\hM w m={m with pc:=if casB w m then 12 else 9}/\hE w m=(if casB w m then evV w m 4 8 m.slot else evV w m 5 8 (AX (mE w m m.Ak).head)):=by simp[hW,hM,hE,h]
def HL(h:m.pc=12):hW w m=Cm w m {mE w m m.Ak with Ae:=wI ((mE w m m.Ak).Ae+1)}/\hM w m={m with answer:=⟨1,m.Ac,m.Af,m.Ak,m.slot,m.listen,0,c60⟩,pc:=20}/\hE w m=evV w m 3 7 (wI ((mE w m m.Ak).Ae+1)):=by simp[hW,hM,hE,h]
def HK(h:m.pc=20):hW w m=Bh w m.Al (qEH m)/\hM w m={m with pc:=21}/\hE w m=evO m 3 10 (qEH m):=by simp[hW,hM,hE,h]
def HJ(h:m.pc=21):hW w m=Bh w m.Al 0/\hM w m={m with pc:=if m.answer.kind=1\/m.listen<0 then 23 else 22}/\hE w m=evO m 3 10 0:=by simp[hW,hM,hE,h]
def HI(h:m.pc=22):hW w m=BG w m {mL w m with Ae:=wI ((mL w m).Ae-1)}/\hM w m={m with pc:=23}/\hE w m=evO m 3 5 (wI ((mL w m).Ae-1)):=by simp[hW,hM,hE,h]
def If(h:m.pc=23):hW w m=GZ w m/\hM w m={m with done:=I}/\hE w m={HC w m with done:=I,answer:=m.answer}:=by simp[hW,hM,hE,h]
end
def qPM{q u A:Type}(h:q->u)(f:Z->u->zy A):∀(l:F q)(k:Z),qqB f k (l.map h)=qqB (λi x=>f i (h x)) k l
 |[],_=>rfl
 |x::r,k=>by
  simp only[zB0,qqB,qPM h f r (k+1)]
def qgO{l q}(h:q.map (·.name)=l.map (·.name))(s):qlA q s=qlA l s:=by
 have e:∀l:F AI,BM (λ(x:AI)=>bs x.name==bs s) l=BM (λn=>bs n==bs s) (l.map (·.name)):=λl=>by
  unfold BM;rw[qPM]
 unfold qlA;rw[e,e,h]
def qpO{l:F AI}{i:Z}{x x':AI}(h:l[i]?=O x)(q:x'.name=x.name):(l.set i x').map (·.name)=l.map (·.name):=by
 rw[List.map_set];apply zBU;intro j;rw[zAE];split
 .rename_i u;subst u;have:=(ze.1 h).1;rw[zk (by simpa using this),zAy,h,q];rfl
 .rfl
def qiE{w}(h:wdB w=I){i}{x x'}(u:w.Aa[i]?=O x)(B:x'.name=x.name)(C:qpJ x'=I):wdB {w with Aa:=w.Aa.set i x'}=I:=by
 unfold wdB at h⊢;simp only[zl,zF]at h⊢;obtain⟨⟨⟨⟨⟨⟨D,E⟩,H⟩,L⟩,P⟩,Q⟩,A⟩:=h;refine⟨⟨⟨⟨⟨⟨D,E⟩,H⟩,L⟩,P⟩,Q⟩,?_⟩;rw[AO]at A⊢;intro j y q;unfold qvB;rw[qgO (qpO u B)];rw[zAE]at q;split at q
 .rename_i R;subst R;have T:=(ze.1 u).1;rw[zk T]at q;cases q;have:=A i x u;unfold qvB at this;simp only[zl]at this⊢;exact⟨C,by rw[B];exact this.2⟩
 .exact A j y q
def qRY{w}(h:wdB w=I){i:Z}{x}(q:w.Aa[i]?=O x):qpJ (drL x)=I:=by
 unfold wdB at h;simp only[zl]at h;have:=AO.1 h.2 i x q;unfold qvB qpJ at this;unfold qpJ drL;simp only[zl,Bool.true_or]at this⊢;exact⟨this.1.1,trivial⟩
abbrev qRK(w:Wd)(m:Ah):Prop:=qzA w m=I/\m.pc=0/\m.k<=5/\m.i<w.counts.length
def qTY(w:Wd)(m:Ah):zt:=(((w.counts[m.i.toNat]?).getD [])[m.k.toNat]?).getD 0
def qCH(w:Wd)(m:Ah):C6:=m.counts.set (zBP.wrap (m.counts.get m.k.toNat+qTY w m)) m.k.toNat
def qHF(m:Ah):zt:=if m.k=5 then m.i+1 else m.i
def q5H(m:Ah):zt:=if m.k=5 then 0 else m.k+1
def qJO(c:C6):Ans:=⟨13,0,0,0,0,0,0,c⟩
noncomputable def qQK(w:Wd)(m:Ah):Ah:=
 if qRK w m then(if qHF m=w.counts.length then{m with counts:=qCH w m,i:=qHF m,k:=q5H m,done:=I,answer:=qJO (qCH w m)}else{m with counts:=qCH w m,i:=qHF m,k:=q5H m})else m
noncomputable def qSK(w:Wd)(m:Ah):Ev:=
 if qRK w m then(if qHF m=w.counts.length then⟨m.Al,0,1,10,-1,zb,m.k,zb,zb,I,qJO (qCH w m)⟩else⟨m.Al,0,1,10,-1,zb,m.k,zb,zb,zb,BY⟩)else ev0
def q3M{w}{m:Ah}(h:¬qRK w m):qQK w m=m/\qSK w m=ev0:=by
 unfold qQK qSK;rw[zj h,zj h];exact⟨rfl,rfl⟩
def qIO{w}{m:Ah}(h:qRK w m)(q:qHF m=w.counts.length):qQK w m={m with counts:=qCH w m,i:=qHF m,k:=q5H m,done:=I,answer:=qJO (qCH w m)}/\qSK w m=⟨m.Al,0,1,10,-1,zb,m.k,zb,zb,I,qJO (qCH w m)⟩:=by
 unfold qQK qSK;rw[zk h,zk q,zk h,zk q];exact⟨rfl,rfl⟩
def qHO{w}{m:Ah}(h:qRK w m)(q:qHF m≠w.counts.length):qQK w m={m with counts:=qCH w m,i:=qHF m,k:=q5H m}/\qSK w m=⟨m.Al,0,1,10,-1,zb,m.k,zb,zb,zb,BY⟩:=by
 unfold qQK qSK;rw[zk h,zj q,zk h,zj q];exact⟨rfl,rfl⟩
def q5W{w}(h:wdB w=I){i}(B:i<w.counts.length):∃row,w.counts[i]?=O row/\row.length=6/\w.counts.length<=8:=by
 obtain⟨row,u⟩:=qEA B;refine⟨row,u,?_⟩;have q:=qbC h;unfold qGB qHE at q;simp only[zl,zAs,zF]at q;obtain⟨⟨⟨⟨⟨_,A⟩,_⟩,_⟩,_⟩,_⟩:=q;exact⟨A.1.1 row (zh u),A.2⟩
def qkW(x):InU (zBP.wrap x):=by
 rw[IntKind.wrap_u64];unfold InU;omega
def C6.Jw{c:C6}(h:c.ok){x}(q:InU x)(n):(c.set x n).ok:=by
 unfold C6.set;split<;>exact⟨by first|exact q|exact h.k0,by first|exact q|exact h.k1,by first|exact q|exact h.k2,by first|exact q|exact h.k3,by first|exact q|exact h.k4,by first|exact q|exact h.k5⟩
def qpG{w}{m:Ah}(h:m.counts.ok):(qCH w m).ok:=C6.Jw h (qkW _) _
def qWR{c:C6}(h:c.ok):(qJO c).ok:=⟨(by decide:InR 13),z0,z0,z0,z0,z0,z0,h⟩
def Ok.sub{P}{f}{args}{g0 g}{Q}(k:g0<=g)(h:Ok P f args g0 Q):Ok P f args g λv g'=>∃C,C<=g'/\(∀n,C.g n->g0.g n\/g.w.heap.size<=n)/\Q v C:=
 λw B=>by
  have e:∀q,g0.next w q<=g.next w q:=λq=>⟨zH _,λn u=>⟨⟨u.1,u.2.imp (λA=>(k.2 n A).1) id⟩,rfl⟩⟩
  first
   |exact(h w (Good.of_le k B)).mono λ_ q⟨v,D,E,H⟩=>⟨v,D,E,g0.next w q,e q,λn u=>u.2.imp id λA=>zY B.1 A,H⟩
   |exact λL hE=>(h w (Good.of_le k B) L hE).mono λ_ q⟨v,D,E,H⟩=>⟨v,D,E,g0.next w q,e q,λn u=>u.2.imp id λA=>zY B.1 A,H⟩
def Upd.sub{g g'}{b}{o}(u:Upd g b o g')(S):Upd (g.sub S) b o (g'.sub S):=
 ⟨λn=>⟨λh=>⟨(u.dom n).1 h.1,h.2⟩,λh=>⟨(u.dom n).2 h.1,h.2⟩⟩,u.obj,λn h=>u.other n h.1,u.size⟩
def qqG{q:Type}:∀{l:F q}{i:Z}{x:q},l[i]?=O x->l.set i x=l
 |a::r,0,x,h=>by simp at h;subst h;rfl
 |a::r,i+1,x,h=>by rw[zCS,qqG (by simpa using h)]
 |[],i,x,h=>by simp at h
end Go.Proofs.YtlmhpamhhgogaaaGreat.Sx
namespace Go.Proofs.YtlmhpamhhgogaaaGreat.Sx
open Go.RowKit
def q6b(w:Wd)(m:Ah):Ah:=
 if qHF m=w.counts.length then{m with counts:=qCH w m,i:=qHF m,k:=q5H m,done:=I,answer:=qJO (qCH w m)}else{m with counts:=qCH w m,i:=qHF m,k:=q5H m}
abbrev Jx:BA:=⟨#[110,111]⟩
def w1:Wd:=CJ (qvS 1 [I]) [Eb] 1
end Go.Proofs.YtlmhpamhhgogaaaGreat.Sx
namespace Go.Proofs.YtlmhpamhhgogaaaGreat.Sx
def qMP(h:F (F zt))(i k:Z):zt:=(((h[i]?).getD [])[k]?).getD 0
def qkJ(h:F (F zt)):Z->C6
 |0=>c60
 |n+1=>(qkJ h n).set (zBP.wrap ((qkJ h n).get (n%6)+qMP h (n / 6) (n%6))) (n%6)
def mA(h:F (F zt))(q:Ah)(n:Z):Ah:=
 if n=6*h.length then{q with counts:=qkJ h n,i:=h.length,k:=0,done:=I,answer:=qJO (qkJ h n)}else{q with counts:=qkJ h n,i:=((n / 6:Z):zt),k:=((n%6:Z):zt)}
def qzO{q}{u:Ah}{n}(h:n<6*q.length):mA q u n={u with counts:=qkJ q n,i:=((n / 6:Z):zt),k:=((n%6:Z):zt)}:=by
 unfold mA;rw[zj sa]
def qdV(h)(q:Ah):mA h q (6*h.length)={q with counts:=qkJ h (6*h.length),i:=h.length,k:=0,done:=I,answer:=qJO (qkJ h (6*h.length))}:=by
 unfold mA;rw[zk rfl]
def qca{w}{u:Ah}(hs:qzA w u=I){n}(h:n<6*w.counts.length):qzA w (mA w.counts u n)=I:=by
 obtain⟨v,A,B,q⟩:=Am.1 hs;rw[qzO h];exact Am.2 ⟨v,A,B,q.right,q.Al,q.done,q.ver,q.clu,q.Ak,q.other,q.slot,q.listen,zCV _,zCV _⟩
def qId{w}{q:Ah}(hs:qzA w q=I)(u:q.pc=0){n}(h:n<6*w.counts.length):qRK w (mA w.counts q n):=by
 refine⟨qca hs h,?_,?_,?_⟩
 .rw[qzO h];exact u
 .rw[qzO h];show((n%6:Z):zt)<=5;omega
 .rw[qzO h];show((n / 6:Z):zt)<w.counts.length;omega
def qda{w}{q:Ah}{n}(h:n<6*w.counts.length):q6b w (mA w.counts q n)=mA w.counts q (n+1):=by
 rw[qzO h]
 have B:qCH w {q with counts:=qkJ w.counts n,i:=((n / 6:Z):zt),k:=((n%6:Z):zt)}=qkJ w.counts (n+1):=by
  unfold qCH qTY;simp only[zBB];rfl
 have C:qHF {q with counts:=qkJ w.counts n,i:=((n / 6:Z):zt),k:=((n%6:Z):zt)}=(((n+1) / 6:Z):zt):=by
  unfold qHF;show(if((n%6:Z):zt)=5 then((n / 6:Z):zt)+1 else((n / 6:Z):zt))=_;split<;>omega
 have D:q5H {q with counts:=qkJ w.counts n,i:=((n / 6:Z):zt),k:=((n%6:Z):zt)}=(((n+1)%6:Z):zt):=by
  unfold q5H;show(if((n%6:Z):zt)=5 then 0 else((n%6:Z):zt)+1)=_;split<;>omega
 unfold q6b;rw[B,C,D];by_cases u:n+1=6*w.counts.length
 .have A:(n+1) / 6=w.counts.length:=sa
  have E:(n+1)%6=0:=sa
  rw[zk (by rw[A]),A,E,u,qdV,<-u];rfl
 .rw[zj sa,qzO sa]
def qea{w}{q:Ah}(hs:qzA w q=I)(u:q.pc=0){n}(h:n<6*w.counts.length):qQK w (mA w.counts q n)=mA w.counts q (n+1):=by
 unfold qQK;rw[zk (qId hs u h),<-qda h];rfl
def qfa{w:Wd}{q:Ah}(u:q.done=zb){n:Z}(h:n<6*w.counts.length):(mA w.counts q n).done=zb:=by
 rw[qzO h];exact u
def qZI{w}(h:wdB w=I):w.counts.length=w.pins.length/\qHE w.counts=I/\1<=w.counts.length/\w.counts.length<=8:=by
 have q:=qbC h;unfold qGB qHE at q;unfold qHE;simp only[zl,zF]at q⊢;obtain⟨⟨⟨⟨⟨⟨⟨B,C⟩,A⟩,u⟩,_⟩,_⟩,_⟩,_⟩:=q;exact⟨A,u,u.1.2,u.2⟩
def qNC{w}(h:wdB w=I):qGB w=I/\(0<=w.current/\w.current<w.Ab.length)/\qOE w.An=I/\w.An.all (Dj w)=I/\allI (Dg w) w.Ab=I/\allI (qvB w.Aa) w.Aa=I:=by
 unfold wdB at h;simp only[zl,zF]at h;obtain⟨⟨⟨⟨⟨⟨q,u⟩,A⟩,B⟩,C⟩,D⟩,E⟩:=h;exact⟨q,⟨u,A⟩,B,C,D,E⟩
def qJR{w}(h:qGB w=I/\(0<=w.current/\w.current<w.Ab.length)/\qOE w.An=I/\w.An.all (Dj w)=I/\allI (Dg w) w.Ab=I/\allI (qvB w.Aa) w.Aa=I):wdB w=I:=by
 unfold wdB;simp only[zl,zF];obtain⟨q,⟨u,A⟩,B,C,D,E⟩:=h;exact⟨⟨⟨⟨⟨⟨q,u⟩,A⟩,B⟩,C⟩,D⟩,E⟩
structure Hq(w:Wd)(i:Z)(v:AM):Prop where
 AJ:qOA (qfD v.Aw)=zc
 len:v.Aj.length=v.Aw.Ad.length
 Ba:v.Ba=qXF w.An i
 grp:∀(j:Z)gr,v.Aj[j]?=O gr->∃c,v.Aw.Ad[j]?=O c/\gr.ends.length=c.Az.length/\∀e∈gr.ends,BH e=I/\(e.next.length:zt)=c.As
def qaC{w}(h:wdB w=I){i}{v}(C:w.Ab[i]?=O v):Hq w i v:=by
 obtain⟨_,_,_,_,A,_⟩:=qNC h;rw[AO]at A;have u:=A i v C;unfold Dg qVB at u;simp only[zl,zF,beq_iff_eq]at u;obtain⟨⟨⟨u,D⟩,B⟩,E⟩:=u;rw[AO]at B;refine⟨DL.1 u,D,E,λj H L=>?_⟩;have q:=B j H L;unfold qTG at q;split at q
 .rename_i c P;simp only[zl,zF,zAs]at q;refine⟨c,P,q.1,λe Q=>?_⟩;have:=q.2 e Q;unfold q3K at this;simpa only[zl,zF]using this
 .cases q
def qjB{e}(h:BH e=I):(∃l,qHB e=O l)/\1<=e.next.length/\e.next.length<=4/\0<=e.Ae:=by
 unfold BH at h;simp only[zl,zF]at h;obtain⟨⟨⟨q,u⟩,A⟩,B⟩:=h;exact⟨zCv.1 q,u,A,B⟩
def Hq.ends{w}{i:Z}{v}(h:Hq w i v){j:Z}{gr}(B:v.Aj[j]?=O gr):∃c,v.Aw.Ad[j]?=O c/\gr.ends.length=c.Az.length/\1<=gr.ends.length/\gr.ends.length<=4/\(c.AY=1\/c.AY=2)/\∀e∈gr.ends,BH e=I/\1<=e.next.length:=by
 obtain⟨c,q,C,u⟩:=h.grp j gr B;have G:=AZ.1 h.AJ;have hm:c∈(qfD v.Aw).Ad:=zh q;obtain⟨_,D,_,E⟩:=G.cl c hm;exact⟨c,q,C,sa,sa,D,λe A=>⟨(u e A).1,(qjB (u e A).1).2.1⟩⟩
def Hq.Aj{w}{i}{v}(h:Hq w i v):1<=v.Aj.length/\v.Aj.length<=4:=by
 have G:=AZ.1 h.AJ;have:=G.size.2.2;rw[h.len];exact this
def qHK{w}(h:wdB w=I):∃v,w.Ab[w.current.toNat]?=O v/\v.Ba=zb/\0<=w.current/\w.current<w.Ab.length:=by
 obtain⟨_,q,_,A,_,_⟩:=qNC h;obtain⟨v,u⟩:=qEA (l:=w.Ab) (i:=w.current.toNat) sa;refine⟨v,u,?_,q⟩;rw[(qaC h u).Ba];unfold qXF;rw[zBr];intro r B;have:=(zAs.1 A) r B;unfold Dj at this;simp only[zl,zF]at this
 have C:(r.Ac==(w.current.toNat:zt))=zb:=by
  rw[zBO q.1];simpa using this.1.2
 rw[C];exact zAi
def qoW{w}(h:wdB w=I){i j}{v}{x}(D:w.Ab[i]?=O v)(E:v.Aj[j]?=O x)(t):wdB (BN w i j v {x with AF:=t})=I:=by
 obtain⟨Q,H,R,L,A,T⟩:=qNC h;refine qJR ⟨Q,⟨H.1,by show w.current<((w.Ab.set i _).length:Z);rw[zAd];exact H.2⟩,R,?_,?_,T⟩
 .rw[zAs]at L⊢;intro r U;have:=L r U;unfold Dj at this⊢;simpa only[zAd]using this
 .rw[AO]at A⊢;intro p y q;rw[zAE]at q;split at q
  .rename_i V;subst V;have W:=(ze.1 D).1;rw[zk W]at q;cases q;have B:=A i v D;unfold Dg qVB at B⊢;simp only[zl,zF,zAd]at B⊢;obtain⟨⟨⟨Y,aa⟩,C⟩,ab⟩:=B;refine⟨⟨⟨Y,aa⟩,?_⟩,ab⟩;rw[AO]at C⊢;intro ac z u;rw[zAE]at u;split at u
   .rename_i ad;subst ad;have ae:=(ze.1 E).1;rw[zk ae]at u;cases u;have P:=C j x E;unfold qTG at P⊢;exact P
   .exact C ac z u
  .exact A p y q
def qjS{w}(h:wdB w=I){i}{row A}(V:w.counts[i]?=O row)(B:A.length=6):wdB {w with counts:=w.counts.set i A}=I:=by
 refine quI h ?_ rfl rfl rfl rfl (zAS _);have q:=qbC h;unfold qGB qHE at q⊢;simp only[zl,zAd,zAs,zF]at q⊢;obtain⟨⟨⟨⟨⟨⟨⟨C,D⟩,E⟩,⟨⟨H,L⟩,P⟩⟩,Q⟩,R⟩,T⟩,U⟩:=q;refine⟨⟨⟨⟨⟨⟨⟨C,D⟩,E⟩,⟨⟨λr u=>?_,L⟩,P⟩⟩,Q⟩,R⟩,T⟩,U⟩;rcases zAf u with u|rfl
 .exact H r u
 .exact B
def qpA{q:Type}{l:F q}{i:Z}{x y:q}(h:l[i]?=O x):(l.set i y)[i]?=O y:=by
 have:=(ze.1 h).1;rw[zC3 sa]
def Ay.F4{w}{m:Ah}{v}{gr}{en en'}(h:Ay w m v gr en)(q:en'.next.length=en.next.length)(u:wdB (BN w m.Ac.toNat m.Af.toNat v {gr with ends:=gr.ends.set m.Ak.toNat en'})=I):Ay (BN w m.Ac.toNat m.Af.toNat v {gr with ends:=gr.ends.set m.Ak.toNat en'}) m {v with Aj:=v.Aj.set m.Af.toNat {gr with ends:=gr.ends.set m.Ak.toNat en'}} {gr with ends:=gr.ends.set m.Ak.toNat en'} en':=
 ⟨u,h.Al,h.done,⟨h.ver.1,qpA h.ver.2⟩,⟨h.clu.1,qpA h.clu.2⟩,⟨h.Ak.1,qpA h.Ak.2⟩,⟨h.other.1,by show m.other<(((gr.ends.set _ _).length:Z):zt);rw[zAd];exact h.other.2⟩,⟨h.slot.1,by rw[q];exact h.slot.2⟩,h.listen,h.i,h.k⟩
def Ay.HX{w}{m:Ah}{v}{gr}{en}(h:Ay w m v gr en)(t):Ay (BN w m.Ac.toNat m.Af.toNat v {gr with AF:=t}) m {v with Aj:=v.Aj.set m.Af.toNat {gr with AF:=t}} {gr with AF:=t} en:=
 ⟨qoW h.right h.ver.2 h.clu.2 t,h.Al,h.done,⟨h.ver.1,qpA h.ver.2⟩,⟨h.clu.1,qpA h.clu.2⟩,h.Ak,h.other,h.slot,h.listen,h.i,h.k⟩
def Ay.BG{w:Wd}{m:Ah}{v:AM}{gr:Bi}{en:Bw}(h:Ay w m v gr en){x:AI}(q:wdB (BG w m x)=I):Ay (BG w m x) m v gr en:=
 ⟨q,h.Al,h.done,h.ver,h.clu,h.Ak,h.other,h.slot,⟨h.listen.1,by show m.listen<(((w.Aa.set _ _).length:Z):zt);rw[zAd];exact h.listen.2⟩,h.i,h.k⟩
def Ay.H6{w}{m:Ah}{v}{gr}{en}(h:Ay w m v gr en){c}(q:wdB {w with counts:=c}=I):Ay {w with counts:=c} m v gr en:=
 ⟨q,h.Al,h.done,h.ver,h.clu,h.Ak,h.other,h.slot,h.listen,h.i,h.k⟩
def Ay.BH{w:Wd}{m:Ah}{v:AM}{gr:Bi}{en:Bw}(h:Ay w m v gr en):BH en=I:=by
 obtain⟨c,_,_,q⟩:=(qaC h.right h.ver.2).grp _ _ h.clu.2;exact(q en (zh h.Ak.2)).1
def Ay.cl{w}{m:Ah}{v}{gr}{en}(h:Ay w m v gr en):v.Aw.Ad[m.Af.toNat]?=O (mC w m)/\gr.ends.length=(mC w m).Az.length:=by
 obtain⟨c,q,u,_⟩:=(qaC h.right h.ver.2).grp _ _ h.clu.2;have:mC w m=c:=by unfold mC;rw[h.at_.1,q];rfl
 rw[this];exact⟨q,u⟩
def Ay.row{w}{m:Ah}{v}{gr}{en}(h:Ay w m v gr en):∃row,w.counts[m.Al.toNat]?=O row/\row.length=6:=by
 obtain⟨A,q,B,C⟩:=qZI h.right;obtain⟨row,u⟩:=qEA (l:=w.counts) (i:=m.Al.toNat) (by have:=h.Al;omega);unfold qHE at q;simp only[zl,zAs,zF]at q;exact⟨row,u,q.1.1 row (zh u)⟩
def Ay.lis{w}{m:Ah}{v}{gr}{en}(h:Ay w m v gr en)(A:0<=m.listen):w.Aa[m.listen.toNat]?=O (mL w m)/\qpJ (mL w m)=I:=by
 obtain⟨x,q⟩:=qEA (l:=w.Aa) (i:=m.listen.toNat) (by have:=h.listen;omega);have e:mL w m=x:=by unfold mL;rw[q];rfl
 rw[e];obtain⟨_,_,_,_,_,u⟩:=qNC h.right;rw[AO]at u;have:=u _ _ q;unfold qvB at this;simp only[zl]at this;exact⟨q,this.1⟩
def Ay.idx{w:Wd}{m:Ah}{v:AM}{gr:Bi}{en:Bw}(h:Ay w m v gr en):(0<=m.Ac/\m.Ac<w.Ab.length)/\(0<=m.Af/\m.Af<v.Aj.length)/\0<=m.Ak/\m.Ak<gr.ends.length:=
 ⟨⟨h.ver.1,by have:=(ze.1 h.ver.2).1;omega⟩,⟨h.clu.1,by have:=(ze.1 h.clu.2).1;omega⟩,h.Ak.1,by have:=(ze.1 h.Ak.2).1;omega⟩
end Go.Proofs.YtlmhpamhhgogaaaGreat.Sx
