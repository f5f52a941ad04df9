import Derived.Sort.LoopGhostIn
import Derived.DefersIn
import Derived.Conc.Token
import Derived.Conc.TokenAlone
import Derived.Conc.TokenWalk
import Derived.Conc.LoneSelect
import Derived.Conc.LeavingOf
import Derived.Test.YtlmhpamhhgogaaaGreatS0
set_option linter.all false
set_option maxHeartbeats 16000000
set_option maxRecDepth 100000
open Array renaming replicate→zAP
open Bool renaming false→zb,true→I
open Go renaming Value→zg,World→zp,Program→zv,execOp→zx,Goroutine→zE,Frame→zAm,maxLen→zAp,TypeId→zAw,stepG→zAD,Addr→zAI,Act→zDz,Oper→zDA,commResult→zAQ,undef→zAU,FuncId→zA5,Trace→zDC,findLabel→zDD,Code→zDE
open Go.Act renaming put→zBf
open Go.Conc renaming rcase→zAN,served→zA0,closeEvents→zA1,heap_setChan_ne→zDB,crowd→zA7,Sits→zDF
open Go.Deferred renaming ofValue→zBH
open Go.Frame renaming atR→zAM,enter→zAR,finish_atR→zBc
open Go.GStep renaming after→zBF
open Go.Instr renaming loadAt→zBq,endRound→zDG
open Go.MemOp renaming ofEvents→zAO
open Go.Region renaming wanted→zAl,ready→zAB
open Go.Result renaming andThen→zAk
open Go.Sem renaming run_bind→zZ,runT_eq→zBn
open Go.stepG renaming exec→zBj
open List renaming replicate→zAT,range→zA8
open Nat renaming beq→zAL
open Option renaming some→O,none→zc
open _root_ renaming List→F,Nat→Z,Option→zy,Bool→zO,Array→zS,False→zX
namespace Go.Proofs.YtlmhpamhhgogaaaGreat.Sx
open Go.RowKit
def isW(P:zv)(o:zDA):zO:=match o.op with
 |.store ..=>I
 |.insert ..=>I
 |.mapUpdate ..=>I
 |.mapEntry ..=>I
 |.entryStore ..=>I
 |.call c=>match c.callee with
  |.builtin .append=>I
  |.builtin .copy=>I
  |.value (.func f)=>match P.funcs[f]? with
   |some fn=>q1P fn
   |none=>zb
  |_=>zb
 |_=>zb
def WW(P:zv)(ops:zS zDA)(i:Z):zO:=match ops[i]? with
 |some o=>isW P o
 |none=>zb
def CS(ops:zS zDA):Z->Z->Z->zO
 |0,_,_=>zb
 |n+1,i,j=>match ops[j]? with
  |none=>zb
  |some o=>o.after.any λe=>Region.binds .any e&&(e.on==i||CS ops n i e.on)
def q5K{ops}{n i j}(h:CS ops (n+1) i j=I):∃o,ops[j]?=O o/\∃e∈o.after,Region.binds .any e=I/\(e.on=i\/CS ops n i e.on=I):=by
 simp only[CS]at h;split at h
 .cases h
 .rename_i o u;obtain⟨e,A,q⟩:=zDm.1 h;simp only[zl,zCQ,beq_iff_eq]at q;exact⟨o,u,e,A,q⟩
def frc{h:Type}(n:Z)(k:Z->h):h:=match n with|0=>k 0|m+1=>k (m+1)
def qWd{h:Type}(n:Z)(k:Z->h):frc n k=k n:=by cases n<;>rfl
def lkM:F (Z×Z)->Z->Z
 |[],_=>0
 |(k,v)::r,i=>match zAL k i with
  |true=>v
  |false=>lkM r i
def LW(h:F (Z×Z))(o:zDA):Z:=o.after.toList.foldl (λs e=>if Region.binds .any e then s|||2^e.on|||lkM h e.on else s) 0
def Jf:F zDA->Z->F (Z×Z)->F (Z×Z)
 |[],_,h=>h
 |o::r,j,h=>frc (LW h o) λv=>Jf r (j+1) ((j,v)::h)
def G3(ops:zS zDA)(i j:Z):zO:=Nat.testBit (lkM (Jf ops.toList 0 []) j) i
def q4V{ops}{i}:∀(n j:Z),CS ops n i j=I->CS ops (n+1) i j=I
 |0,j,q=>by simp[CS]at q
 |n+1,j,q=>by
  obtain⟨o,u,e,A,B,h⟩:=q5K q
  show(match ops[j]? with
   |none=>zb
   |some o=>o.after.any λe=>Region.binds .any e&&(e.on==i||CS ops (n+1) i e.on))=I
  rw[u];refine zDm.2 ⟨e,A,?_⟩;rw[B];rcases h with h|h
  .simp[h]
  .simp[q4V n _ h]
def q5V{ops}{i j n m}(h:CS ops n i j=I)(k:n<=m):CS ops m i j=I:=by
 induction k with
 |refl=>exact h
 |step _ q=>exact q4V _ _ q
def qDP{u}{i}:∀(l:F Edge)(s:Z),Nat.testBit (l.foldl (λs e=>if Region.binds .any e then s|||2^e.on|||lkM u e.on else s) s) i=I->Nat.testBit s i=I\/∃e∈l,Region.binds .any e=I/\(e.on=i\/Nat.testBit (lkM u e.on) i=I)
 |[],s,h=>.inl h
 |e::r,s,h=>by
  rw[zCC]at h;rcases qDP r _ h with h|⟨A,B,q,C⟩
  .split at h
   .rename_i q;rw[Nat.testBit_or,Nat.testBit_or,zCQ,zCQ]at h;rcases h with(h|h)|h
    .exact .inl h
    .rw[Nat.testBit_two_pow]at h;exact .inr ⟨e,se,q,.inl (by simpa using h)⟩
    .exact .inr ⟨e,se,q,.inr h⟩
   .exact .inl h
  .exact .inr ⟨A,by simp[B],q,C⟩
def qhP{ops}:∀(l:F zDA)(j:Z)(A:F (Z×Z)),ops.toList.drop j=l->(∀k i,Nat.testBit (lkM A k) i=I->k<j/\CS ops (k+1) i k=I)->∀k i,Nat.testBit (lkM (Jf l j A) k) i=I->k<ops.size/\CS ops (k+1) i k=I
 |[],j,A,B,C,k,i,L=>by
  have ae:ops.size<=j:=by have:=zI List.length B;simp at this;omega
  obtain⟨U,h⟩:=C k i L;refine⟨?_,h⟩;rcases zAJ k ops.size with R|R
  .exact R
  .simp[CS,zBp R]at h
 |o::r,j,A,B,C,k,i,L=>by
  rw[Jf,qWd]at L
  have W:ops.toList[j]?=O o:=by
   have:(ops.toList.drop j)[0]?=O o:=by rw[B];rfl
   simpa[zCl]using this
  have Y:ops[j]?=O o:=by simpa using W
  have aa:ops.toList.drop (j+1)=r:=by
   have:(ops.toList.drop j).drop 1=r:=by rw[B];rfl
   simpa[zCJ,Nat.add_comm]using this
  refine qhP r (j+1) _ aa (λk i q=>?_) k i L;simp only[lkM]at q;cases T:zAL j k with
  |false=>
   rw[T]at q;obtain⟨U,h⟩:=C k i q;exact⟨sa,h⟩
  |true=>
   rw[T]at q;obtain rfl:=zP T;refine⟨zBI _,?_⟩;rcases qDP _ _ q with ab|⟨e,ac,ad,u⟩
   .simp at ab
   .show(match ops[j]? with
     |none=>zb
     |some o=>o.after.any λe=>Region.binds .any e&&(e.on==i||CS ops j i e.on))=I
    rw[Y];refine zDm.2 ⟨e,by simpa using ac,?_⟩;rw[ad];rcases u with u|u
    .simp[u]
    .obtain⟨U,h⟩:=C e.on i u;simp[q5V h (show e.on+1<=j by omega)]
def qSY{ops}{i j}(h:G3 ops i j=I):CS ops ops.size i j=I:=by
 obtain⟨q,u⟩:=qhP ops.toList 0 [] rfl (λk i A=>by simp[lkM]at A) j i h;exact q5V u q
def qBb{ops}{i j}(h:CS ops ops.size i j=zb):G3 ops i j=zb:=by
 cases q:G3 ops i j with
 |false=>rfl
 |true=>rw[qSY q]at h;cases h
def DC(ops:zS zDA)(listed:zS zO):Prop:=∀k o,listed.getD k zb=I->ops[k]?=O o->∀e∈o.after,Region.binds .any e=I->listed.getD e.on zb=I
def DC.dep{ops}{listed}(h:DC ops listed){i}(A:listed.getD i zb=zb):∀(n k:Z),listed.getD k zb=I->CS ops n i k=zb
 |0,k,_=>rfl
 |n+1,k,B=>by
  cases C:CS ops (n+1) i k with
  |false=>rfl
  |true=>
   obtain⟨o,L,e,R,T,q⟩:=q5K C;have u:=h k o B L e R T;rcases q with rfl|q
   .rw[A]at u;cases u
   .rw[DC.dep h A n _ u]at q;cases q
def qoQ{listed:zS zO}{j:Z}(h:listed.getD j I=zb):listed.getD j zb=zb:=by
 rcases zAJ j listed.size with q|q
 .simp[q]at h⊢;exact h
 .simp[zBp q]at h
def DC.ready{ops}{listed}(h:DC ops listed){j}(L:j∈zAB .any ops listed):DC ops (listed.setIfInBounds j I):=by
 obtain⟨U,W,R,T⟩:=mem_ready.1 L;intro k o u q e A B;by_cases C:k=j
 .subst C;rw[R]at q;cases q;exact getD_set_true (T e A B)
 .rw[getD_set_ne zb (zBs C)]at u;exact getD_set_true (h k o u q e A B)
def DC.JE{ops}{listed}(h:DC ops listed){i j}(A:listed.getD i I=zb)(C:j∈zAB .any ops listed)(n):CS ops n i j=zb:=by
 cases n with
 |zero=>rfl
 |succ n=>
  cases L:CS ops (n+1) i j with
  |false=>rfl
  |true=>
   obtain⟨o,B,e,R,T,q⟩:=q5K L;obtain⟨Y,aa,U,W⟩:=mem_ready.1 C;rw[U]at B;cases B;have u:=W e R T;rcases q with rfl|q
   .rw[qoQ A]at u;cases u
   .rw[h.dep (qoQ A) n _ u]at q;cases q
def C5(S:zp->Prop):Prop:=∀w h,S w->Below w.heap.size w h->S h
def C5.at{S}(h:C5 S){w}(q:S w)(d):S (w.at d):=h _ _ q ⟨rfl,rfl,rfl,zH _,λ_ _=>rfl⟩
def qLM{N}{w w'}(h:N<=w.heap.size)(q:Below w.heap.size w w'):B8 N w w':=λn u=>q.block n (zQ u h)
def q4E{P:zv}{o:zDA}{h:SOp}{a:zDz}(u:Ea P o=O h)(q:h.reads=I):(zx a.eval o).Calm P:=qfG u λf A e=>by rw[e]at q;simp[SOp.reads]at q
def BZ(P:zv)(ops:zS zDA)(S:zp->Prop)(o:zDA)(v:zg)(a:zDz):Prop:=
 (zAl o (yielded ops a.tmps)=I/\(zx a.eval o).Calm P/\∀w,S w->(zx a.eval o).run P w=.ok (.value v) w)\/(zAl o (yielded ops a.tmps)=zb/\v=zAU)
def BZ.of_same{P}{ops}{S}{o}{v}{a a'}(h:BZ P ops S o v a)(q:zx a'.eval o=zx a.eval o)(u:zAl o (yielded ops a'.tmps)=zAl o (yielded ops a.tmps)):BZ P ops S o v a':=by
 unfold BZ at*;rw[q,u];exact h
section
variable{P:zv}{V:Env P}{ops:zS zDA}{r:zy Z}
structure Hr where
 i:Z
 o:zDA
 v:zg
 a:zDz
def qqT(ops:zS zDA)(o:zDA)(a a':zDz):Prop:=zx a'.eval o=zx a.eval o/\zAl o (yielded ops a'.tmps)=zAl o (yielded ops a.tmps)
def DO(V:Env P)(r:zy Z)(ops:zS zDA)(A:Z)(K:zDz->zp->Prop):Z->F Hr->(zp->Prop)->zS zO->zDz->zp->Prop
 |0,h,S,listed,a,w=>zAB .any ops listed=[]/\∀d,K a (w.at d)
 |fuel+1,h,S,listed,a,w=>
  (zAB .any ops listed=[]->∀d,K a (w.at d))/\
  ∀i∈zAB .any ops listed,qMC V r ops i (λB q=>
   (WW P ops i=zb/\S q/\DO V r ops A K fuel h S (listed.setIfInBounds i I) B q)\/
   (WW P ops i=I/\∃u,C5 u/\u q/\(∀p∈h,CS ops A p.i i=zb->BZ P ops u p.o p.v p.a)/\DO V r ops A K fuel h u (listed.setIfInBounds i I) B q)) a w
def qtN{C}{K}:∀(fuel:Z)(q:F Hr)(S:zp->Prop)(listed:zS zO)(a:zDz)(w:zp),DO V r ops C K fuel q S listed a w->q2H V r ops K fuel listed a w
 |0,_,_,_,_,_,u=>u
 |fuel+1,q,S,_,_,_,u=>⟨u.1,λi L=>qlG (λA B h=>by
   rcases h with⟨_,_,h⟩|⟨_,R,_,_,_,h⟩
   .exact qtN fuel q S _ A B h
   .exact qtN fuel q R _ A B h) (u.2 i L)⟩
def qVW{u}{K}{fuel}{A}{S}{listed}{a}{w}(h:DO V r ops u K fuel A S listed a w)(d):DO V r ops u K fuel A S listed a (w.at d):=by
 cases fuel with
 |zero=>exact⟨h.1,λq=>h.2 q⟩
 |succ fuel=>exact⟨λB q=>h.1 B q,λi C=>qmW (h.2 i C) d⟩
def q9E{C}{K}{L Φ'}(u:∀p∈L,p∈Φ'){S S'}(R:∀w,S' w->S w):∀(fuel:Z)(listed:zS zO)(a:zDz)(w:zp),DO V r ops C K fuel Φ' S' listed a w->DO V r ops C K fuel L S listed a w
 |0,_,_,_,h=>h
 |fuel+1,_,_,_,h=>⟨h.1,λi W=>qlG (λT U q=>by
   rcases q with⟨A,B,q⟩|⟨A,Y,aa,B,ab,q⟩
   .exact .inl ⟨A,R _ B,q9E u R fuel _ T U q⟩
   .exact .inr ⟨A,Y,aa,B,λp ac=>ab p (u p ac),q9E u (λ_ h=>h) fuel _ T U q⟩) (h.2 i W)⟩
def q3A(o:zDA):Prop:=(∀cs b,o.op≠.select cs b)/\∀c,o.op≠.defer c
def qXD{K}{S}(u:C5 S){i}{o}{v}{a}(A:ops[i]?=O o)(B:q3A o)(C:BZ P ops S o v a){w}(L:S w)(h:∀d,K (a.put o.dst v) (w.at d)):qMC V r ops i K a w:=by
 unfold qMC;simp only[A];rcases C with⟨q,R,T⟩|⟨q,rfl⟩
 .rw[zk q];exact λd=>qsA R B.2 (T _ (u.at L d)) (.refl _) (h d)
 .rw[q];exact h
def qjL{j}{oi u}{v}(Y:ops[j]?=O u)(aa:oi.apart ops u=I)(ab:q3A oi)(T:q3A u){K}{C a}{w}(A:qqT ops oi C a)(h:qMC V r ops j K (a.put oi.dst v) w):qMC V r ops j (λa' w'=>qqT ops oi C a'/\K (a'.put oi.dst v) w') a w:=by
 obtain⟨U,B,W⟩:=Oper.apart_spec aa
 have keep:∀(a:zDz),qqT ops oi C a->∀q,qqT ops oi C (a.put u.dst q):=λa A q=>
  ⟨(execOp_put oi ab.1 a u.dst q W).trans A.1,(wanted_put oi a u.dst q W).trans A.2⟩
 have ac:∀d,qqT ops oi C {a with defers:=d::a.defers}:=λd=>A;unfold qMC at*;simp only[Y]at*;rw[wanted_put u a oi.dst v U]at h;split
 .rename_i L;simp only[L,zBA]at h;intro d;have h:=h d;unfold Go.Oper.atX at h⊢;rw[Oper.semAt_eq _ _ _ T.2]at h⊢;rw[execOp_put u T.1 a oi.dst v U]at h;obtain⟨ad,h⟩:=h;refine⟨ad,?_⟩;generalize(zx a.eval u).run P (w.at d)=ae at h⊢;cases ae with
  |ok n w'=>
   cases n<;>simp only[Go.Oper.upX]at h⊢
   case value q=>exact⟨h.1,keep a A q,by rw[<-Act.put_comm a v q B];exact h.2⟩
   case skip=>exact⟨h.1,keep a A _,by rw[<-Act.put_comm a v zAU B];exact h.2⟩
   case defer d=>
    refine⟨h.1,keep _ (ac d) _,?_⟩;rw[<-Act.put_comm _ v zAU B,<-Act.put_defers];exact h.2
   case enter f args=>exact⟨h.1,h.2.val λq af R=>⟨keep a A q,by rw[<-Act.put_comm a v q B];exact R⟩⟩
   case round l f tmps ag ah=>exact⟨h.1,h.2.val λq af R=>⟨keep a A q,by rw[<-Act.put_comm a v q B];exact R⟩⟩
  |halt x w'=>exact h
 .rename_i L;simp only[L]at h;exact λd=>⟨keep a A _,by rw[<-Act.put_comm a v zAU B];exact h d⟩
def qMJ{T}{K}{i}{oi}{v}{ad}{ai Φ'}(U:ops[i]?=O oi)(aa:∀(j:Z)(o:zDA),ops[j]?=O o->q3A o)(aj:WW P ops i=zb)(ae:∀p∈ai,p∈Φ')(az:∀(S':zp->Prop)j,CS ops T i j=zb->(∀p∈Φ',CS ops T p.i j=zb->BZ P ops S' p.o p.v p.a)->BZ P ops S' oi v ad):∀(fuel:Z)(S:zp->Prop)(listed:zS zO)(a:zDz)(w:zp),C5 S->(∀j C,ops[j]?=O C->j≠i->listed.getD j I=zb->(∀e∈C.after,Region.binds .any e=I->e.on≠i)->oi.apart ops C=I)->DC ops listed->i∈zAB .any ops listed->qqT ops oi ad a->BZ P ops S oi v ad->S w->DO V r ops T K fuel Φ' S (listed.setIfInBounds i I) (a.put oi.dst v) w->DO V r ops T K (fuel+1) ai S listed a w:=by
 intro fuel
 induction fuel with
 |zero=>
  intro S listed a w L _ _ q R ab W H;refine⟨λu=>(by rw[u]at q;cases q),λj A=>?_⟩;by_cases h:j=i
  .subst h;exact qXD L U (aa _ _ U) (ab.of_same R.1 R.2) W λd=>.inl ⟨aj,L.at W d,qVW (q9E ae (λ_ u=>u) _ _ _ _ H) d⟩
  .have:=ready_mono A h;rw[H.1]at this;cases this
 |succ fuel ak=>
  intro S listed a w L am af q R ab W H;refine⟨λu=>(by rw[u]at q;cases q),λj A=>?_⟩;by_cases h:j=i
  .subst h;exact qXD L U (aa _ _ U) (ab.of_same R.1 R.2) W λd=>.inl ⟨aj,L.at W d,qVW (q9E ae (λ_ u=>u) _ _ _ _ H) d⟩
  .have ac:=H.2 j (ready_mono A h);obtain⟨an,C,ag,aA⟩:=mem_ready.1 A;have ao:=(mem_ready.1 q).1
   have aB:∀e∈C.after,Region.binds .any e=I->e.on≠i:=λe aC aD aE=>by
    have ac:=aA e aC aD;rw[aE,qoQ ao]at ac;cases ac
   have aF:=qjL ag (am j C ag h an aB) (aa _ _ U) (aa _ _ ag) R ac
   have ap:∀k ok,ops[k]?=O ok->k≠i->(listed.setIfInBounds j I).getD k I=zb->
     (∀e∈ok.after,Region.binds .any e=I->e.on≠i)->oi.apart ops ok=I:=λk ok aG aH aq aI=>by
    refine am k ok aG aH ?_ aI;by_cases ar:j=k
    .subst ar;exact an
    .rw[getD_set_ne I ar]at aq;exact aq
   refine qlG (λau av B=>?_) aF;obtain⟨aw,B⟩:=B;rcases B with⟨ah,Y,B⟩|⟨ah,S',ax,Y,ay,B⟩
   .refine .inl ⟨ah,Y,ak S (listed.setIfInBounds j I) au av L ap (af.ready A) (ready_mono q (zBs h)) aw ab Y ?_⟩;rw[Array.setIfInBounds_comm _ _ h];exact B
   .refine .inr ⟨ah,S',ax,Y,λp aJ=>ay p (ae p aJ),ak S' (listed.setIfInBounds j I) au av ax ap (af.ready A) (ready_mono q (zBs h)) aw (az S' j (af.JE ao A T) ay) Y ?_⟩;rw[Array.setIfInBounds_comm _ _ h];exact B
end
def qhK(ops:zS zDA):zO:=ops.all λo=>match o.op with
 |.select ..=>zb
 |.defer _=>zb
 |_=>I
def q8C{ops}(h:qhK ops=I)(j:Z)(o:zDA)(u:ops[j]?=O o):q3A o:=by
 have:=zC5.1 h o (Array.mem_of_getElem? u);refine⟨λcs b q=>?_,λc q=>?_⟩<;>simp[q]at this
def noY:qUB:=λ_ _ _ _=>zX
def qhO(o:SOp)(H HW:qNA):qNA:=match o with
 |.H3 ..=>HW
 |_=>H
def qvU{P:zv}{V:Env P}{fr:Fr}{H HW:qNA}(h:CC V fr H)(q:CC V fr HW)(o:SOp):CC V fr (qhO o H HW):=by
 cases o<;>first|exact h|exact q
def qDW{P:zv}{V:Env P}{fr:Fr}(ac:fr.has V){H HW:qNA}(aw:G6 V H){o:zDA}{ak:SOp}(q:Ea P o=O ak)(u:ak.reads=zb)(hW:isW P o=zb){sl:Sl}{a:zDz}(aa:qID sl a){hs:Hs}{K:SV->Hs->Prop}(h:chS P (qhO ak H HW) noY ak sl hs K){w:zp}(R:Ap fr hs w){next:zDz->zp->Prop}{r:zy Z}(ad:∀s Y w',K s Y->Below w.heap.size w w'->Ap fr Y w'->next (a.put o.dst (Ag s)) w'):o.atX V r a w next:=by
 obtain⟨ae,_⟩:=qGE q;have af:=λax=>qfG (a:=a) q ax
 have aq:∀(f:zA5)(args:F SV)(ar:zS zg),ar=(qCA args).toArray->(zx a.eval o).Calm P->(zx a.eval o).run P w=.ok (.enter f ar) w->H noY f args hs K->o.atX V r a w next:=λf args ar am ay T C=>by
  subst am;refine qxL ay ae T ((aw noY f args hs K C fr w ac R).mono ?_);rintro e aK ⟨v,Y,rfl,U,L,B⟩;exact⟨_,rfl,ad _ _ _ B U L⟩
 unfold Ea at q;split at q
 .simp at q;subst q;simp[SOp.reads]at u
 .simp at q;subst q;simp[SOp.reads]at u
 .simp at q;subst q;simp[SOp.reads]at u
 .exfalso;split at q<;>(try(split at q))<;>first|(cases q;done)|(simp at q;subst q;simp[SOp.reads]at u;done)|(obtain⟨ks,_,rfl⟩:=zD.1 q;simp[SOp.reads]at u)
 .simp at q;subst q;simp[SOp.reads]at u
 .exfalso;split at q<;>(try(split at q))<;>first|(cases q;done)|(simp at q;subst q;simp[SOp.reads]at u;done)|(obtain⟨ks,_,rfl⟩:=zD.1 q;simp[SOp.reads]at u)
 .exfalso;split at q<;>(try(split at q))<;>first|(cases q;done)|(simp at q;subst q;simp[SOp.reads]at u;done)|(obtain⟨ks,_,rfl⟩:=zD.1 q;simp[SOp.reads]at u)
 .exfalso;split at q<;>(try(split at q))<;>(try(split at q))<;>first|(cases q;done)|(simp at q;subst q;simp[SOp.reads]at u;done)|(obtain⟨ks,_,rfl⟩:=zD.1 q;simp[SOp.reads]at u)
 .exfalso;split at q<;>(try(split at q))<;>(try(split at q))<;>first|(cases q;done)|(simp at q;subst q;simp[SOp.reads]at u;done)|(obtain⟨ks,_,rfl⟩:=zD.1 q;simp[SOp.reads]at u)
 .exfalso;split at q<;>(try(split at q))<;>first|(cases q;done)|(simp at q;subst q;simp[SOp.reads]at u;done)|(obtain⟨ks,_,rfl⟩:=zD.1 q;simp[SOp.reads]at u)
 .exfalso;split at q<;>(try(split at q))<;>first|(cases q;done)|(simp at q;subst q;simp[SOp.reads]at u;done)|(obtain⟨ks,_,rfl⟩:=zD.1 q;simp[SOp.reads]at u)
 .simp at q;subst q;simp[SOp.reads]at u
 .simp at q;subst q;simp[SOp.reads]at u
 .simp at q;subst q;simp[SOp.reads]at u
 .exfalso;split at q<;>(try(split at q))<;>first|(cases q;done)|(simp at q;subst q;simp[SOp.reads]at u;done)|(obtain⟨ks,_,rfl⟩:=zD.1 q;simp[SOp.reads]at u)
 .exfalso;split at q<;>(try(split at q))<;>(try(split at q))<;>first|(cases q;done)|(simp at q;subst q;simp[SOp.reads]at u;done)|(obtain⟨ks,_,rfl⟩:=zD.1 q;simp[SOp.reads]at u)
 .exfalso;rename_i A;simp[isW,A]at hW
 .rename_i t A;split at q
  .rename_i z ag;simp at q;subst q;obtain⟨w',s,Y,T,U,L,B⟩:=qNL (show qcM t (z.map SV.v) hs K from h) ag R;exact qsA (af se) ae (by simp only[zx,A];exact q5C T) (R.keep L ac) (ad _ _ _ B U L)
  .cases q
 .rename_i t x A;simp at q;subst q;simp only[chS]at h;obtain⟨av,ah,e1⟩:=Opd.AC (k:=λx=>IP t x hs K) h aa;obtain⟨w',s,Y,T,U,L,B⟩:=qfP (P:=P) ah R;exact qsA (af se) ae (by simp only[zx,A,e1];exact q5C T) (R.keep L ac) (ad _ _ _ B U L)
 .rename_i t len parts A;split at q
  .rename_i e au;split at q
   .rename_i size z az ag;split at q
    .rename_i C;obtain⟨aA,aB,aC⟩:=C;simp at q;subst q;simp only[chS]at h;obtain⟨cells,B,an⟩:=q2G aa (λi=>O (i*size,size)) parts.toList _ _ se h
     obtain⟨w',s,Y,T,U,L,B⟩:=qeP (P:=P) (t:=t) (parts:=parts.map λ(i,x)=>(i,a.eval x)) B au az ag aC aB aA (by
      simp only[zDs];rw[<-an];congr 2
      rw[show(zAT len (List.map SV.v z)).flatten=((zAT len z).flatten).map SV.v by simp[List.map_flatten],qsH]) R
     exact qsA (af se) ae (by simp only[zx,A];exact q5C T) (R.keep L ac) (ad _ _ _ B U L)
    .cases q
   .cases q
  .cases q
 .rename_i t l c A;split at q
  .rename_i e au;split at q
   .rename_i i z aD ag;split at q
    .rename_i C;simp at q;subst q;simp only[chS]at h;obtain⟨av,ah,e1⟩:=Opd.AC (k:=λx=>Opd.k hs.rs sl (qJA c) λy=>HE e i.size i.bytes z x y hs K) h aa;obtain⟨aL,W,e2⟩:=Opd.AC (k:=λy=>HE e i.size i.bytes z av y hs K) ah aa;obtain⟨w',s,Y,T,U,L,B⟩:=qrO W au aD ag C.2 R;exact qsA (af se) ae (by simp only[zx,A,e1,e2];exact q5C T) (R.keep L ac) (ad _ _ _ B U L)
    .cases q
   .cases q
  .cases q
 .rename_i t x A;split at q
  .rename_i aE aM aF;split at q
   .rename_i aG;simp at q;subst q;obtain⟨w',s,Y,T,U,L,B⟩:=qsO (a:=a) (show I7 aE hs K from h) aF aG R;exact qsA (af se) ae (by simp only[zx,A];exact q5C T) (R.keep L ac) (ad _ _ _ B U L)
   .cases q
  .cases q
 .exfalso;rename_i A;simp[isW,A]at hW
 .exfalso;rename_i A;simp[isW,A]at hW
 .exfalso;rename_i A;simp[isW,A]at hW
 .exfalso;rename_i A;simp[isW,A]at hW
 .exfalso;split at q<;>(try(split at q))<;>first|(cases q;done)|(simp at q;subst q;simp[SOp.reads]at u;done)
 .rename_i c A;split at q
  .exfalso;split at q<;>(try(split at q))<;>first|(cases q;done)|(simp at q;subst q;simp[SOp.reads]at u;done)|(obtain⟨ks,_,rfl⟩:=zD.1 q;simp[SOp.reads]at u)
  .exfalso;split at q<;>first|(cases q;done)|(simp at q;subst q;simp[SOp.reads]at u;done)|(obtain⟨ks,_,rfl⟩:=zD.1 q;simp[SOp.reads]at u)
  .exfalso;rename_i C;simp[isW,A,C]at hW
  .exfalso;rename_i C;simp[isW,A,C]at hW
  .rename_i f C;split at q
   .rename_i fn an;split at q
    .rename_i ao;have aH:q1P fn=zb:=by simp only[isW,A,C,an]at hW;exact hW
     rw[aH]at q;simp at q;subst q;simp only[chS,qhO]at h;obtain⟨args,B,aI⟩:=Opd.Er aa c.args.toList h;have ab:Gb P f:=⟨fn,an,by simp at ao;simpa using ao.1,by simp at ao;simpa using ao.2⟩;refine aq f args (c.args.map a.eval) (by apply zBl;simp[aI]) (af se) ?_ B;have:=qpB ab (c.args.map a.eval) w;simp only[zx,A,resolve,C];simp[zBH,Act.eval,invoke]at this⊢;exact this
    .cases q
   .cases q
  .rename_i g _ C;simp at q;subst q;simp only[chS,qhO]at h;obtain⟨f,ah,e1⟩:=Opd.AC (k:=λf=>Opd.ks hs.rs sl (c.args.toList.map qJA) λargs=>qcP P H noY f args hs K) h aa;obtain⟨args,W,e2⟩:=Opd.Er aa c.args.toList ah;have am:c.args.map a.eval=(qCA args).toArray:=by apply zBl;simp[e2]
   unfold qcP at W;split at W
   .rename_i k first ap
    obtain⟨ab,B⟩:=W;refine aq k _ ((qCA first).toArray++(qCA args).toArray++(qCA ap).toArray) (by rw[qVE];simp) (q4J A C (by rw[e1];rfl) ab) ?_ B;have:=qpB ab ((qCA first).toArray++(qCA args).toArray++(qCA ap).toArray) w;simp only[zx,A,resolve,C,e1,am];simp[zBH,Ag,invoke]at this⊢;exact this
   .rename_i k first ap
    obtain⟨ab,B⟩:=W
    obtain⟨ai,aj,⟨rfl,rfl⟩,aJ⟩:∃ai aj,(qCA ai=first/\qCA aj=ap)/\H noY k (ai++args++aj) hs K:=by
     split at B
     .exact⟨[],[],⟨rfl,rfl⟩,by simpa using B⟩
     .exact B
    refine aq k _ ((qCA ai).toArray++(qCA args).toArray++(qCA aj).toArray) (by rw[qVE];simp) (q4J A C (by rw[e1];rfl) ab) ?_ aJ;have:=qpB ab ((qCA ai).toArray++(qCA args).toArray++(qCA aj).toArray) w;simp only[zx,A,resolve,C,e1,am];simp[zBH,Ag,invoke]at this⊢;exact this
   .exfalso;split at W
    .exact W.2
    .exact W
   .exact W.elim
  .cases q
 .cases q
def qOG{P}(V:Env P)(fr:Fr):FD V fr noY:=λ_ _ _ _ _ _ h=>h.elim
def Knows(hs:Hs)(w:zp):Prop:=∃fr,Ap fr hs w
def Knows.ES(hs):C5 (Knows hs):=λ_ _⟨fr,h⟩q=>⟨fr,h.agree q⟩
inductive OI where
 |nil
 |first(i:Z) (t:OI)
 |exec (i:Z) (t:OI)
 |EY (i:Z) (t:OI)
 |alt (a b:OI)
structure DOp where
 i:Z
 keep:zO
 chk:F Z
 o:CY
 deriving Inhabited
inductive OT where
 |nil
 |op (d:DOp) (t:OT)
 |EY (d:DOp) (t:OT)
 |alt (a b:OT)
 deriving Inhabited
def HF(n:Z):F Z->zO
 |[]=>zb
 |m::r=>match zAL m n with
  |true=>I
  |false=>HF n r
def E3{n}:∀{l:F Z},HF n l=I<->n∈l
 |[]=>by simp[HF]
 |m::r=>by
  simp only[HF];cases h:zAL m n with
  |true=>simp[zP h]
  |false=>
   simp only[zs];rw[E3];have:=zCi h;constructor
   .exact λh=>.inr h
   .rintro(h|h);exact absurd h.symm this;exact h
abbrev Pd:=F (Z×SOp×Sl×SV)
def FY(h:F Z)(hs:Hs)(k:Prop):Pd->Prop
 |[]=>k
 |(i,o,sl,x)::r=>match HF i h with
  |true=>rdS o sl hs (λy=>Ag y=Ag x)/\FY h hs k r
  |false=>FY h hs k r
def q6D{u}{hs}{k:Prop}:∀{L:Pd},FY u hs k L->k/\∀i o sl x,(i,o,sl,x)∈L->i∈u->rdS o sl hs (λy=>Ag y=Ag x)
 |[],h=>⟨h,λ_ _ _ _ h=>by cases h⟩
 |(j,o,sl,x)::r,h=>by
  simp only[FY]at h;split at h
  .obtain⟨T,U⟩:=h;obtain⟨A,B⟩:=q6D U;refine⟨A,λW Y aa ab hm q=>?_⟩;rcases zs.1 hm with C|hm
   .cases C;exact T
   .exact B _ _ _ _ hm q
  .rename_i R;obtain⟨A,B⟩:=q6D h;refine⟨A,λW Y aa ab hm q=>?_⟩;rcases zs.1 hm with C|hm
   .cases C;have:HF j u=I:=E3.2 q;rw[this]at R;cases R
   .exact B _ _ _ _ hm q
def JW(d:DOp)(sl:Sl)(x:SV)(h:Pd):Pd:=match d.keep with
 |true=>(d.i,d.o.op,sl,x)::h
 |false=>h
abbrev RT:=Pd->Sl->Hs->(Sl->Hs->Prop)->Prop
def rtN:RT:=λ_ sl hs K=>K sl hs
def rtO(P:zv)(H HW:qNA)(d:DOp)(ih:RT):RT:=λh sl hs K=>qSG sl d.o.g
  (λsl=>opS P (qhO d.o.op H HW) noY d.o.op sl hs λx u=>FY d.chk u (qkB d.o.dst sl x λq=>ih (JW d sl x h) q u K) h)
  (λsl=>FY d.chk hs (qkB d.o.dst sl (.v zAU) λq=>ih h q hs K) h)
def rtB(P:zv)(H HW:qNA)(lo:Z)(d:DOp)(ih:RT):RT:=λq sl hs K=>match hs with
 |⟨u,A,B,h⟩=>h=lo/\rtO P H HW d ih q sl ⟨u,A,B,h⟩ K
def qGX{P}{H HW}{lo}{d}{ih:RT}{q}{sl}{hs}{K}(h:rtB P H HW lo d ih q sl hs K):hs.lo=lo/\rtO P H HW d ih q sl hs K:=by
 cases hs;exact h
def rtA(a b:RT):RT:=λh sl hs K=>a h sl hs K/\b h sl hs K
def C0(P:zv)(H HW:qNA)(lo:Z)(t:OT):RT:=OT.rec (motive:=λ_=>RT) rtN (λd _ h=>rtO P H HW d h) (λd _ h=>rtB P H HW lo d h) (λ_ _ a b=>rtA a b) t
def qDC:OT->F Z
 |.nil=>[]
 |.op d t=>(match d.o.dst with
  |some n=>[n]
  |none=>[])++qDC t
 |.EY d t=>(match d.o.dst with
  |some n=>[n]
  |none=>[])++qDC t
 |.alt a b=>qDC a++qDC b
def ER(P:zv)(nt:Z)(ops:zS zDA):F Z->OI->zy OT
 |_,.nil=>O .nil
 |done,.first i t=>match ops[i]? with
  |none=>zc
  |some o=>match qFE P nt ops o with
   |none=>zc
   |some h=>if h.op.reads then match ER P nt ops (if h.op.pure then done else i::done) t with
     |none=>zc
     |some r=>O (.op ⟨i,!h.op.pure,[],h⟩ r)
    else zc
 |done,.exec i t=>match ops[i]? with
  |none=>zc
  |some o=>match qFE P nt ops o with
   |none=>zc
   |some h=>match ER P nt ops done t with
     |none=>zc
     |some r=>O (.op ⟨i,zb,if WW P ops i then done.filter (λj=>!G3 ops j i)else[],h⟩ r)
 |done,.EY i t=>match ops[i]? with
  |none=>zc
  |some o=>match qFE P nt ops o with
   |none=>zc
   |some h=>match ER P nt ops done t with
     |none=>zc
     |some r=>O (.EY ⟨i,zb,[],h⟩ r)
 |done,.alt a b=>match ER P nt ops done a with
  |none=>zc
  |some q=>match ER P nt ops done b with
   |none=>zc
   |some u=>O (.alt q u)
def qzK:OI->F Z
 |.exec i _=>[i]
 |.alt a b=>qzK a++qzK b
 |_=>[]
def IH(ops:zS zDA)(i:Z):zO:=match ops[i]? with
 |some o=>match o.op with
  |.alloc _=>match o.guard with
   |none=>match o.dst with
    |some d=>(zA8 ops.size).all λj=>j==i||(match ops[j]? with
     |some h=>h.dst !=O d
     |none=>I)
    |none=>zb
   |some _=>zb
  |_=>zb
 |none=>zb
def qRG{ops}{i}(h:IH ops i=I):∃o ty d,ops[i]?=O o/\o.op=.alloc ty/\o.guard=zc/\o.dst=O d/\∀j o',j≠i->ops[j]?=O o'->o'.dst≠O d:=by
 unfold IH at h;split at h
 .rename_i o u;split at h
  .rename_i ty A;split at h
   .rename_i B;split at h
    .rename_i d C;refine⟨o,ty,d,u,A,B,C,λj o' L q R=>?_⟩;have:=(zAs.1 h) j (zCZ.2 (zAb.1 q).1);simp[L,q,R]at this
    .cases h
   .cases h
  .cases h
 .cases h
def star(al:F Z)(x:Z)(listed:zS zO):zS zO:=al.foldl (λl k=>if k==x then l else l.setIfInBounds k I) listed
def q6W(al)(x):∀(listed:zS zO)(k:Z),(star al x listed)[k]?=if k∈al/\k≠x then(listed[k]?).map (λ_=>I)else listed[k]?:=by
 induction al with
 |nil=>intro listed k;simp[star]
 |cons y r u=>
  intro listed k;show(star r x (if y==x then listed else listed.setIfInBounds y I))[k]?=_;rw[u];by_cases q:y=x
  .subst q;simp only[beq_self_eq_true,zBA,zs];by_cases h:k=y
   .subst h;simp
   .simp[h]
  .simp only[beq_iff_eq,q,zCD,zs,zBm];by_cases h:y=k
   .subst h;by_cases hs:y<listed.size
    .simp[q,hs]
    .simp[q,hs]
   .have:¬k=y:=λe=>h e.symm;simp[h,this]
def Cy(P:zv)(ops:zS zDA)(al:F Z):zO->OI->zS zO->zO
 |false,.nil,listed=>(zAB .any ops listed).isEmpty&&al.all (λk=>listed.getD k zb)
 |false,.first i t,listed=>(zAB .any ops listed).contains i&&Region.free .any ops listed i&&!WW P ops i&&!al.contains i&&Cy P ops al zb t (listed.setIfInBounds i I)
 |false,.exec i t,listed=>(zAB .any ops (star al ops.size listed)==[i])&&(zAB .any ops listed).contains i&&!al.contains i&&Cy P ops al zb t (listed.setIfInBounds i I)
 |false,.EY i t,listed=>(zAB .any ops (star al i listed)==[i])&&(zAB .any ops listed).contains i&&al.contains i&&Cy P ops al zb t (listed.setIfInBounds i I)
 |false,.alt a b,listed=>(zAB .any ops (star al ops.size listed)).all (λi=>(qzK a++qzK b).contains i)&&Cy P ops al I a listed&&Cy P ops al I b listed
 |true,.exec i t,listed=>(zAB .any ops listed).contains i&&!al.contains i&&Cy P ops al zb t (listed.setIfInBounds i I)
 |true,.alt a b,listed=>Cy P ops al I a listed&&Cy P ops al I b listed
 |true,_,_=>zb
def unl(listed:zS zO):Z:=listed.toList.count zb
def q6P{listed}{j n}(h:unl listed<=n+1)(q:listed.getD j I=zb):unl (listed.setIfInBounds j I)<=n:=by
 have u:j<listed.size:=by
  rcases zAJ j listed.size with u|B
  .exact u
  .rw[zAe,zBp B]at q;cases q
 have A:listed.toList[j]=zb:=by
  rw[zAe,zAK u]at q;simpa using q
 unfold unl at*;rw[Array.toList_setIfInBounds,List.count_set (by simpa using u)];rw[A];simp only[beq_self_eq_true,zBA];rw[zj sb];have:=List.count_pos_iff.2 (show zb∈listed.toList from A▸zDt _);omega
def qtM{listed}{j}(h:listed.getD j I=zb):0<unl listed:=by
 have q:j<listed.size:=by
  rcases zAJ j listed.size with q|u
  .exact q
  .rw[zAe,zBp u]at h;cases h
 have A:listed[j]=zb:=by
  rw[zAe,zAK q]at h;simpa using h
 unfold unl;exact List.count_pos_iff.2 (by rw[<-A];simp)
def Kept(P:zv)(ops:zS zDA)(done:F Z)(h:Pd)(q:F Hr):Prop:=∀p∈q,
 (p.i∈done/\zAl p.o (yielded ops p.a.tmps)=I/\∃op sl x,(p.i,op,sl,x)∈h/\Ea P p.o=O op/\op.reads=I/\qID sl p.a/\p.v=Ag x)\/
 (zAl p.o (yielded ops p.a.tmps)=zb/\p.v=zAU)
def Kept.Ir{P}{ops}{done}{A}{B}(h:Kept P ops done A B){j}{hs}(R:∀i o sl x,(i,o,sl,x)∈A->i∈done.filter (λk=>!G3 ops k j)->rdS o sl hs (λy=>Ag y=Ag x)):∀p∈B,CS ops ops.size p.i j=zb->BZ P ops (Knows hs) p.o p.v p.a:=λp T U=>by
 rcases h p T with⟨W,q,op,sl,x,hm,C,L,Y,u⟩|⟨q,u⟩
 .obtain⟨s,aa,ab⟩:=quJ C L Y (R _ _ _ _ hm (zAZ.2 ⟨W,by simp[qBb U]⟩));refine .inl ⟨q,q4E C L,λw⟨fr,ac⟩=>?_⟩;rw[u,<-aa];exact ab fr w ac
 .exact .inr ⟨q,u⟩
structure GG where
 i:Z
 d:Z
 b:Z
 ty:zAw
 z:F zg
def NoM(L:F Z)(sl:Sl):Prop:=∀d∈L,AS sl d=zc
def NoM.cons{L}{sl}(h:NoM L sl){d}(hd:d∉L)(x):NoM L ((d,x)::sl):=λn q=>by
 simp only[AS];cases u:zAL d n with
 |true=>obtain rfl:=zP u;exact absurd q hd
 |false=>exact h n q
def NoM.not{L}{sl}(h:NoM L sl){d}{x}(hd:AS sl d=O x):d∉L:=λhm=>by rw[h d hm]at hd;cases hd
def qNM{L}{sl}(q:NoM L sl){g}{B C}(h:qSG sl g B C):qSG sl g (λs=>NoM L s/\B s) (λs=>NoM L s/\C s):=by
 cases g with
 |none=>exact⟨q,h⟩
 |some g=>
  obtain⟨d,u⟩:=g;simp only[qSG]at h⊢;split at h
  .cases u<;>exact⟨q,h⟩
  .cases u<;>exact⟨q,h⟩
  .rename_i c R;cases u<;>exact⟨λA=>⟨q.cons (q.not R) _,h.1 A⟩,λA=>⟨q.cons (q.not R) _,h.2 A⟩⟩
  .exact⟨q,h⟩
  .exact h.elim
def qbH{L}{sl}(q:NoM L sl){dst}(hd:∀d,dst=O d->d∉L){x}{k}(h:qkB dst sl x k):qkB dst sl x (λs=>NoM L s/\k s):=by
 cases dst with
 |none=>exact⟨q,h⟩
 |some d=>exact⟨q.cons (hd d rfl) _,h⟩
def DN(ops:zS zDA)(al:F Z):F Z:=al.filterMap λk=>(ops[k]?).bind (·.dst)
def EF(al:F Z)(listed:zS zO):F Z:=al.filter λk=>!listed.getD k I
def qxJ{al}{listed}{i}:∀k,k∈EF al (listed.setIfInBounds i I)->k∈EF al listed/\k≠i:=λk u=>by
 obtain⟨A,h⟩:=zAZ.1 u;by_cases q:i=k
 .subst q;simp only[zAe,zBm]at h;exfalso;by_cases hs:i<listed.size
  .simp[hs]at h
  .simp[hs]at h
 .refine⟨zAZ.2 ⟨A,?_⟩,λe=>q e.symm⟩;rwa [getD_set_ne I q]at h
def NoM.sub{L q}{sl}(h:NoM L sl)(k:∀d∈q,d∈L):NoM q sl:=λd u=>h d (k d u)
def qfN{ops}{l q}(h:∀k∈q,k∈l):∀d∈DN ops q,d∈DN ops l:=λd u=>by
 obtain⟨k,A,e⟩:=zBX.1 u;exact zBX.2 ⟨k,h k A,e⟩
def HU(P:zv)(nt:Z)(D:Pin)(ops:zS zDA)(al:F Z):Prop:=∀k∈al,IH ops k=I/\(∃o h,ops[k]?=O o/\qFE P nt ops o=O h)/\∀o d,ops[k]?=O o->o.dst=O d->d∈D.ds
structure EOk(P:zv)(ops:zS zDA)(al:F Z)(fr:Fr)(lo:Z)(a:zDz)(frE:Fr)(listed listedA:zS zO)(E:F GG):Prop where
 mem:∀e∈E,e.i∈EF al listed/\(∃o,ops[e.i]?=O o/\o.op=.alloc e.ty/\o.dst=O e.d)/\qrI P e.ty=O e.z
 tmp:∀e∈E,a.tmps[e.d]?=O (.pointer (O ⟨e.b,0,zc⟩))
 heap:∀e∈E,frE.w.heap[e.b]?=O (.cells e.z.toArray e.ty (0,0))/\lo<=e.b/\¬fr.pr e.b
 JF:(E.map (·.i)).Nodup
 JG:(E.map (·.b)).Nodup
 ok:fr.ok frE.w
 low:lo<=frE.w.heap.size
 pr:∀n,frE.pr n<->fr.pr n\/n∈E.map (·.b)
 g0:∀n,frE.g0 n<->fr.g0 n/\n∉E.map (·.b)
 lst:∀k:Z,listedA[k]?=if k∈E.map (·.i)then(listed[k]?).map (λ_=>I)else listed[k]?
section
variable{P:zv}{ops:zS zDA}{al:F Z}{fr frE:Fr}{lo:Z}{a:zDz}{listed listedA:zS zO}{E:F GG}
def EOk.le(h:EOk P ops al fr lo a frE listed listedA E):fr.le frE:=
 ⟨λw q=>⟨q.os.trans h.ok.os,q.tape.trans h.ok.tape,q.output.trans h.ok.output,zY h.ok.size q.size,λn u=>(q.block n ((h.pr n).2 (.inl u))).trans (h.ok.block n u)⟩,
  λn u=>⟨(h.pr n).2 (.inl u),λA=>((h.g0 n).1 A).1⟩⟩
def EOk.getD(h:EOk P ops al fr lo a frE listed listedA E){k}(q:k∉E.map (·.i))(b):listedA.getD k b=listed.getD k b:=by
 rw[zAe,zAe,h.lst k,zj q]
def EOk.HY(h:EOk P ops al fr lo a frE listed listedA E){k}{b}(q:listed.getD k b=I):listedA.getD k b=I:=by
 rw[zAe]at q⊢;rw[h.lst k];split
 .cases u:listed[k]? with
  |none=>rw[u]at q;simpa using q
  |some x=>simp
 .exact q
def EOk.set(h:EOk P ops al fr lo a frE listed listedA E){i}(U:i∉al){o}(W:ops[i]?=O o)(Y:∀k∈al,IH ops k=I)(v):EOk P ops al fr lo (a.put o.dst v) frE (listed.setIfInBounds i I) (listedA.setIfInBounds i I) E:=by
 have A:∀e∈E,e.i≠i:=λe q u=>U (u▸(zAZ.1 (h.mem e q).1).1);refine⟨λe q=>⟨?_,(h.mem e q).2⟩,λe q=>?_,h.heap,h.JF,h.JG,h.ok,h.low,h.pr,h.g0,λk=>?_⟩
 .obtain⟨aa,ab⟩:=zAZ.1 (h.mem e q).1;refine zAZ.2 ⟨aa,?_⟩;rw[getD_set_ne I (zBs (A e q))];exact ab
 .obtain⟨_,⟨ai,ac,_,ad⟩,_⟩:=h.mem e q;obtain⟨aj,ak,d,L,_,_,R,ae⟩:=qRG (Y e.i (zAZ.1 (h.mem e q).1).1);rw[ac]at L;cases L;rw[ad]at R;cases R;have:=ae i o (zBs (A e q)) W;cases af:o.dst with
  |none=>simpa[zBf]using h.tmp e q
  |some d=>simp only[zBf];rw[zM (λu=>this (by rw[af,u]))];exact h.tmp e q
 .rw[zBm,zBm,h.lst k]
  have ag:listedA.size=listed.size:=by
   apply Nat.le_antisymm
   .rcases zAJ listed.size listedA.size with B|C
    .have:=h.lst listed.size;rw[zAK B,zBp (zH _)]at this;simp at this
    .exact C
   .rcases zAJ listedA.size listed.size with B|C
    .have:=h.lst listedA.size;rw[zBp (zH _),zAK B]at this;split at this<;>simp at this
    .exact C
  rw[ag];by_cases T:i=k
  .subst T;have ah:i∉E.map (·.i):=λhm=>by obtain⟨e,q,u⟩:=zU.1 hm;exact A e q u
   simp[ah]
  .simp[T]
def EOk.Dh(h:EOk P ops al fr lo a frE listed listedA E){i}(q:i∈zAB .any ops listed)(hE:i∉E.map (·.i)):i∈zAB .any ops listedA:=by
 obtain⟨u,o,A,B⟩:=mem_ready.1 q;exact mem_ready.2 ⟨by rw[h.getD hE];exact u,o,A,λe C L=>h.HY (B e C L)⟩
def qAP{x k}{b}:(star al x listed).getD k b=(if k∈al/\k≠x/\k<listed.size then I else listed.getD k b):=by
 rw[zAe,zAe,q6W];rcases zAJ k listed.size with h|h
 .simp only[h,zA6,zAK h];split<;>simp
 .simp only[zDf.2 h,zCO,zCD,zBp h];split<;>simp
def EOk.Fx(h:EOk P ops al fr lo a frE listed listedA E){x j}(L:x∉E.map (·.i))(R:j∈zAB .any ops listedA)(B:j∉al):j∈zAB .any ops (star al x listed):=by
 obtain⟨T,o,U,W⟩:=mem_ready.1 R
 have Y:j∉E.map (·.i):=λhm=>by
  obtain⟨e,A,q⟩:=zU.1 hm;exact B (q▸(zAZ.1 (h.mem e A).1).1)
 refine mem_ready.2 ⟨?_,o,U,λe A aa=>?_⟩
 .rw[qAP,zj (λq=>B q.1),<-h.getD Y];exact T
 .have u:=W e A aa;rw[qAP];split
  .rfl
  .rename_i q;by_cases hE:e.on∈E.map (·.i)
   .exfalso;obtain⟨ab,ac,ad⟩:=zU.1 hE;refine q ⟨ad▸(zAZ.1 (h.mem ab ac).1).1,λae=>L (ae▸hE),?_⟩;rw[zAe,h.lst,zk hE]at u;cases C:listed[e.on]? with
    |none=>rw[C]at u;simp at u
    |some v=>exact(zAb.1 C).1
   .rw[<-h.getD hE];exact u
def EOk.make(h:EOk P ops al fr lo a frE listed listedA E){hs}{w}(u:Ap frE hs w){j}(am:j∈zAB .any ops listedA)(an:j∈al){o}{ty}{d}{z}(ao:ops[j]?=O o)(ap:o.op=.alloc ty)(hd:o.dst=O d)(aq:qrI P ty=O z)(ar:∀e∈E,e.d≠d)(au:d<a.tmps.size):∃af,EOk P ops al fr lo (a.put o.dst (.pointer (O ⟨w.heap.size,0,zc⟩))) af listed (listedA.setIfInBounds j I) (⟨j,d,w.heap.size,ty,z⟩::E)/\Ap af hs (w.alloc (.cells z.toArray ty)):=by
 have Y:Below w.heap.size w (w.alloc (.cells z.toArray ty)):=Below.AT w _;have C:=u.agree Y;have aa:∀n,hs.g.g n->n<w.heap.size:=λn B=>zQ (hs.g.wf n B) u.AJ.1;have av:=h.le;have ag:∀n,frE.pr n->n<w.heap.size:=λn B=>zQ (frE.wf n B) u.frm.size;have ah:∀e∈E,e.b<w.heap.size:=λe q=>ag _ ((h.pr _).2 (.inr (zU.2 ⟨e,q,rfl⟩)));have L:=(mem_ready.1 am).1
 have ab:j∉E.map (·.i):=λhm=>by
  rw[zAe,h.lst j,zk hm]at L;cases ai:listed[j]? with
  |none=>rw[ai]at L;simp at L
  |some v=>rw[ai]at L;simp at L
 have ac:listed.getD j I=zb:=by rw[<-h.getD ab];exact L
 have aj:j<listed.size:=by
  rcases zAJ j listed.size with aw|ax
  .exact aw
  .rw[zAe,zBp ax]at ac;cases ac
 refine⟨⟨w.alloc (.cells z.toArray ty),λn=>frE.pr n\/n=w.heap.size,λn=>frE.g0 n/\n≠w.heap.size,λn B=>?_⟩,⟨λe q=>?_,λe q=>?_,λe q=>?_,?_,?_,(av.1 _ C.frm),zY h.low (zY u.frm.size Y.size),λn=>?_,λn=>?_,λk=>?_⟩,?_⟩
 .have:=Y.size;rcases B with B|rfl
  .exact zQ (ag n B) this
  .have:(w.alloc (.cells z.toArray ty)).heap.size=w.heap.size+1:=by show(w.heap.push _).size=_;simp
   omega
 .rcases zs.1 q with rfl|q
  .exact⟨zAZ.2 ⟨an,by simp[ac]⟩,⟨o,ao,ap,hd⟩,aq⟩
  .exact h.mem e q
 .rcases zs.1 q with rfl|q
  .simp[zBf,hd,au]
  .simp only[zBf,hd];rw[zM (zBs (ar e q))];exact h.tmp e q
 .rcases zs.1 q with rfl|q
  .refine⟨World.alloc_heap_new w _,zY h.low u.frm.size,λA=>?_⟩;have ak:=fr.wf _ A;have aB:=h.ok.size;have aC:=u.frm.size;have ak:w.heap.size<fr.w.heap.size:=ak;omega
  .obtain⟨T,U,W⟩:=h.heap e q;exact⟨((Y.block e.b (ah e q)).trans (u.frm.block e.b ((h.pr _).2 (.inr (zU.2 ⟨e,q,rfl⟩))))).trans T,U,W⟩
 .exact zBo.2 ⟨ab,h.JF⟩
 .refine zBo.2 ⟨λhm=>?_,h.JG⟩;obtain⟨e,q,ay⟩:=zU.1 hm;have:=ah e q;simp at ay;omega
 .show(frE.pr n\/n=w.heap.size)<->_;rw[h.pr n];simp only[zB0,zs];constructor
  .rintro((h|h)|h);exact .inl h;exact .inr (.inr h);exact .inr (.inl h)
  .rintro(h|h|h);exact .inl (.inl h);exact .inr h;exact .inl (.inr h)
 .show(frE.g0 n/\n≠w.heap.size)<->_;rw[h.g0 n];simp only[zB0,zs,not_or];constructor
  .rintro⟨⟨T,U⟩,W⟩;exact⟨T,W,U⟩
  .rintro⟨T,W,U⟩;exact⟨⟨T,U⟩,W⟩
 .rw[zBm,h.lst k];simp only[zB0,zs];by_cases ad:j=k
  .subst ad
   have az:j<listedA.size:=by
    have:=h.lst j;rw[zj ab,zAK aj]at this;exact(zAb.1 this).1
   simp[az,zAK aj]
  .have:¬k=j:=λe=>ad e.symm;simp[ad,this]
 .refine⟨C.AJ,⟨rfl,rfl,rfl,zH _,λ_ _=>rfl⟩,C.res,C.nod,λb ae=>⟨(C.fre b ae).1,?_⟩,λn A R=>?_,λn aA R A=>?_,C.low⟩
  .rintro(A|rfl)
   .exact(u.fre b ae).2 A
   .have:=u.lt ae;omega
  .rcases A with A|rfl
   .exact⟨u.fz n A R,by have:=aa n R;omega⟩
   .have:=aa _ R;omega
  .rcases A with A|rfl
   .exact u.own n aA R A
   .have:=aa _ R;omega
def EOk.take(h:EOk P ops al fr lo a frE listed listedA E){hs}(am:hs.lo=lo){w}(q:Ap frE hs w){e}(ab:e∈E)(an:∀c∈e.z,c.oneCell'=I)(aF:al.Nodup)(id nx):∃ai aj,EOk P ops al fr lo a aj (listed.setIfInBounds e.i I) listedA ai/\ai.length+1=E.length/\Ap aj ⟨hs.g,.blk id e.b e.ty (e.z.map .v)::hs.rs,nx,hs.lo⟩ w:=by
 obtain⟨A,B,rfl⟩:=List.append_of_mem ab;have ac:=h.JF;have ad:=h.JG;simp only[zBE,zB0]at ac ad
 have ak:e.i∉(A++B).map (·.i):=λhm=>by
  rw[zBE]at hm;obtain⟨_,ae,d⟩:=zBk.1 ac;rcases zN.1 hm with hm|hm
  .exact d _ hm _ (zAH ..) rfl
  .exact(zBo.1 ae).1 hm
 have ao:e.b∉(A++B).map (·.b):=λhm=>by
  rw[zBE]at hm;obtain⟨_,ae,d⟩:=zBk.1 ad;rcases zN.1 hm with hm|hm
  .exact d _ hm _ (zAH ..) rfl
  .exact(zBo.1 ae).1 hm
 have sub:∀x∈A++B,x∈A++e::B:=λx u=>by
  rcases zN.1 u with u|u
  .exact zN.2 (.inl u)
  .exact zN.2 (.inr (zAF _ u))
 have U:∀n,n∈(A++e::B).map (·.b)<->n=e.b\/n∈(A++B).map (·.b):=λn=>by
  simp only[zBE,zB0,zN,zs];constructor
  .rintro(h|h|h);exact .inr (.inl h);exact .inl h;exact .inr (.inr h)
  .rintro(h|h|h);exact .inr (.inl h);exact .inl h;exact .inr (.inr h)
 have af:∀n,n∈(A++e::B).map (·.i)<->n=e.i\/n∈(A++B).map (·.i):=λn=>by
  simp only[zBE,zB0,zN,zs];constructor
  .rintro(h|h|h);exact .inr (.inl h);exact .inl h;exact .inr (.inr h)
  .rintro(h|h|h);exact .inr (.inl h);exact .inl h;exact .inr (.inr h)
 have ag:frE.pr e.b:=(h.pr _).2 (.inr ((U _).2 (.inl rfl)));have ap:¬frE.g0 e.b:=λR=>((h.g0 _).1 R).2 ((U _).2 (.inl rfl));obtain⟨aq,ar,au⟩:=h.heap e ab;refine⟨A++B,⟨frE.w,λn=>fr.pr n\/n∈(A++B).map (·.b),λn=>fr.g0 n/\n∉(A++B).map (·.b),λn L=>frE.wf n ((h.pr n).2 (L.imp (λh=>h) λL=>(U n).2 (.inr L)))⟩,⟨λx u=>⟨?_,(h.mem x (sub x u)).2⟩,λx u=>h.tmp x (sub x u),λx u=>h.heap x (sub x u),?_,?_,h.ok,h.low,λn=>Iff.rfl,λn=>Iff.rfl,λk=>?_⟩,sf,?_⟩
 .obtain⟨av,aw⟩:=zAZ.1 (h.mem x (sub x u)).1;refine zAZ.2 ⟨av,?_⟩;rw[getD_set_ne I (λW=>ak (zU.2 ⟨x,u,W.symm⟩))];exact aw
 .rw[zBE];exact ac.sublist (zCw (zCa _) (zCh ..))
 .rw[zBE];exact ad.sublist (zCw (zCa _) (zCh ..))
 .rw[zBm,h.lst k];by_cases Y:e.i=k
  .subst Y
   have ax:e.i<listed.size:=by
    have:=(zAZ.1 (h.mem e ab).1).2;rcases zAJ e.i listed.size with ay|az
    .exact ay
    .rw[zAe,zBp az]at this;simp at this
   rw[zk ((af _).2 (.inl rfl)),zj ak];simp[ax]
  .have aA:¬k=e.i:=λe=>Y e.symm;by_cases hm:k∈(A++B).map (·.i)
   .rw[zk ((af _).2 (.inr hm)),zk hm];simp[Y]
   .rw[zj (λW=>hm (((af _).1 W).resolve_left aA)),zj hm];simp[Y]
 .have aB:e.b∉hs.bks:=λhm=>(q.fre _ hm).2 ag;have aC:¬hs.g.g e.b:=λR=>ap (q.fz _ ag R);have ah:Hs.bks ⟨hs.g,.blk id e.b e.ty (e.z.map .v)::hs.rs,nx,hs.lo⟩=e.b::hs.bks:=by simp[Hs.bks,Res.bk]
  have aa:∀n,(fr.pr n\/n∈(A++B).map (·.b))->frE.pr n:=λn L=>(h.pr n).2 (L.imp (λh=>h) λL=>(U n).2 (.inr L));refine⟨q.AJ,⟨q.frm.os,q.frm.tape,q.frm.output,q.frm.size,λn L=>q.frm.block n (aa n L)⟩,λx u=>?_,?_,λb C=>?_,λn T R=>?_,λn aD R T=>q.own n aD R (aa n T),q.low.1,λb C=>?_⟩
  .rcases zs.1 u with rfl|u
   .refine⟨?_,λc W=>?_⟩
    .rw[qsH];exact(q.frm.block _ ag).trans aq
    .obtain⟨v,aE,rfl⟩:=zU.1 W;exact an v aE
   .exact q.res x u
  .rw[ah];exact zBo.2 ⟨aB,q.nod⟩
  .rw[ah]at C;rcases zs.1 C with rfl|C
   .exact⟨aC,λT=>T.elim au ao⟩
   .exact⟨(q.fre b C).1,λT=>(q.fre b C).2 (aa b T)⟩
  .have:=(h.g0 n).1 (q.fz n (aa n T) R);exact⟨this.1,λhm=>this.2 ((U n).2 (.inr hm))⟩
  .rw[ah]at C;rcases zs.1 C with rfl|C
   .rw[am];exact ar
   .exact q.low.2 b C
end
section
variable{P:zv}{V:Env P}{fr:Fr}{H HW:qNA}{nt:Z}{D:Pin}{ops:zS zDA}{al:F Z}{lo:Z}{r:zy Z}{K:Sl->Hs->Prop}{Q:zDz->zp->Prop}
structure At(P:zv)(fr:Fr)(nt:Z)(D:Pin)(ops:zS zDA)(al:F Z)(lo:Z)(done:F Z)(pd:Pd)(Φ:F Hr)(sl:Sl)(hs:Hs)(a:zDz)(w:zp)(S:zp->Prop)(frE:Fr)(listed listedA:zS zO)(E:F GG):Prop where
 dc:DC ops listedA
 eok:EOk P ops al fr lo a frE listed listedA E
 nom:NoM (DN ops (EF al listed)) sl
 sim:Sim nt D sl a
 hw:Ap frE hs w
 st:C5 S
 hS:S w
 kn:∀w,S w->Knows hs w
 kp:Kept P ops done pd Φ
def qgW{P:zv}(V:Env P)(fr:Fr)(H HW:qNA)(nt:Z)(D:Pin)(ops:zS zDA)(al:F Z)(lo:Z)(r:zy Z)(K:Sl->Hs->Prop)(Q:zDz->zp->Prop)(oi:OI):Prop:=
 ∀(E:F GG)(n:Z)(done:F Z)(t:OT)(listed listedA:zS zO)(h:Pd)(q:F Hr)(sl:Sl)(hs:Hs)(a:zDz)(w:zp)(S:zp->Prop)(frE:Fr),unl listedA<=n->Cy P ops al zb oi listed=I->ER P nt ops done oi=O t->(∀d∈qDC t,d∈D.ds)->
  At P fr nt D ops al lo done h q sl hs a w S frE listed listedA E->C0 P H HW lo t h sl hs K->DO V r ops ops.size Q n q S listedA a w
def qTX{k}{listed}{o}{d}(h:k∈EF al listed)(q:ops[k]?=O o)(hd:o.dst=O d):d∈DN ops (EF al listed):=zBX.2 ⟨k,h,by simp[q,hd]⟩
def qXO(am:fr.has V)(ax:G6 V H)(aK:∀fr:Fr,fr.has V->CC V fr HW)(ay:qhK ops=I)(az:HU P nt D ops al){i}{t0}(ih:qgW V fr H HW nt D ops al lo r K Q t0):∀(E:F GG)(n:Z)(done:F Z)(t:OT)(listed listedA:zS zO)(L:Pd)(R:F Hr)(sl:Sl)(hs:Hs)(a:zDz)(w:zp)(S:zp->Prop)(frE:Fr),unl listedA<=n+1->i∈zAB .any ops listed->i∉al->Cy P ops al zb t0 (listed.setIfInBounds i I)=I->ER P nt ops done (.exec i t0)=O t->(∀d∈qDC t,d∈D.ds)->At P fr nt D ops al lo done L R sl hs a w S frE listed listedA E->C0 P H HW lo t L sl hs K->qMC V r ops i (λa' w'=>(WW P ops i=zb/\S w'/\DO V r ops ops.size Q n R S (listedA.setIfInBounds i I) a' w')\/(WW P ops i=I/\∃S',C5 S'/\S' w'/\(∀p∈R,CS ops ops.size p.i i=zb->BZ P ops S' p.o p.v p.a)/\DO V r ops ops.size Q n R S' (listedA.setIfInBounds i I) a' w')) a w:=by
 intro E n done t listed listedA L R sl hs a w S frE hm aL aq aM U aA aN A;obtain⟨aO,ac,aP,aQ,ad,ae,ai,bj,ar⟩:=aN
 have aR:i∉E.map (·.i):=λhm=>by
  obtain⟨e,aT,af⟩:=zU.1 hm;exact aq (af▸(zAZ.1 (ac.mem e aT).1).1)
 have aB:=ac.Dh aL aR;simp only[ER]at U;split at U
 .cases U
 .rename_i o Y;split at U
  .cases U
  .rename_i W aC;split at U
   .cases U
   .rename_i ag aU;simp at U;subst U;obtain⟨an,au,aW⟩:=qkE aC;have aX:∀d∈qDC ag,d∈D.ds:=λd av=>aA d (by simp[qDC,av]);have aY:∀d,o.dst=O d->d<nt/\d∈D.ds:=λd A=>⟨aW d A,aA d (by simp[qDC,au.trans A])⟩;have aZ:=aO.ready aB
    have a0:∀d,W.dst=O d->d∉DN ops (EF al listed):=λd av a1=>by
     obtain⟨k,q,a2⟩:=zBX.1 a1;obtain⟨bl,a3,a4⟩:=zAC.1 a2;have aD:=(zAZ.1 q).1;obtain⟨bm,bn,d2,aE,_,_,aF,a5⟩:=qRG (az k aD).1;rw[a3]at aE;cases aE;rw[a4]at aF;cases aF;exact a5 i o (λe=>aq (e▸aD)) Y (au▸av)
    have next:∀u s h w'(S':zp->Prop),NoM (DN ops (EF al listed)) u->Sim nt D u a->(qkB W.dst u s λsl=>C0 P H HW lo ag L sl h K)->Ap frE h w'->C5 S'->S' w'->(∀w,S' w->Knows h w)->
      DO V r ops ops.size Q n R S' (listedA.setIfInBounds i I) (a.put o.dst (Ag s)) w':=λu s h w' S' T B q C a6 a7 a8=>by
     have q:=qbH T a0 q;rw[au]at q;obtain⟨a9,⟨ba,bb⟩,bc⟩:=B.H7 aY s (k:=λs=>NoM (DN ops (EF al listed)) s/\C0 P H HW lo ag L s h K) q;exact ih E n done ag _ _ L R a9 h _ w' S' frE (q6P hm (mem_ready.1 aB).1) aM aU aX ⟨aZ,ac.set aq Y (λk q=>(az k q).1) (Ag s),ba.sub (qfN λk q=>(qxJ k q).1),bc,C,a6,a7,a8,ar⟩ bb
    have aw:qSG sl W.g
      (λsl=>opS P (qhO W.op H HW) noY W.op sl hs λx h=>FY (if WW P ops i=I then List.filter (λj=>!G3 ops j i) done else[]) h (qkB W.dst sl x λaj=>C0 P H HW lo ag L aj h K) L)
      (λsl=>FY (if WW P ops i=I then List.filter (λj=>!G3 ops j i) done else[]) hs (qkB W.dst sl (.v zAU) λaj=>C0 P H HW lo ag L aj hs K) L):=A
    have aw:=qNM aP aw
    have fin:∀s h w' u,NoM (DN ops (EF al listed)) u->Sim nt D u a->Ap frE h w'->S w'->C5 S->(FY (if WW P ops i=I then List.filter (λj=>!G3 ops j i) done else[]) h (qkB W.dst u s λaj=>C0 P H HW lo ag L aj h K) L)->
      (WW P ops i=zb/\S w'/\DO V r ops ops.size Q n R S (listedA.setIfInBounds i I) (a.put o.dst (Ag s)) w')\/
      (WW P ops i=I/\∃S',C5 S'/\S' w'/\(∀p∈R,CS ops ops.size p.i i=zb->BZ P ops S' p.o p.v p.a)/\DO V r ops ops.size Q n R S' (listedA.setIfInBounds i I) (a.put o.dst (Ag s)) w'):=λs h w' u T B C aG bd q=>by
     obtain⟨q,af⟩:=q6D q;cases ak:WW P ops i with
     |false=>
      refine .inl ⟨rfl,aG,?_⟩;exact q9E (S':=λaH=>S aH/\Knows h aH) (λ_ A=>A) (λ_ A=>A.1) _ _ _ _ (next u s h w' _ T B q C (λw1 aI aJ ao=>⟨bd w1 aI aJ.1 ao,Knows.ES h w1 aI aJ.2 ao⟩) ⟨aG,frE,C⟩ λ_ A=>A.2)
     |true=>
      rw[ak]at af;refine .inr ⟨rfl,Knows h,Knows.ES h,⟨frE,C⟩,ar.Ir (j:=i) (by simpa using af),next u s h w' _ T B q C (Knows.ES h) ⟨frE,C⟩ λ_ A=>A⟩
    rcases qnH aC aQ aw with⟨ap,u,⟨T,aa⟩,B⟩|⟨ap,u,⟨T,aa⟩,B⟩
    .unfold opS at aa;cases ah:W.op.reads with
     |true=>
      simp only[ah]at aa;obtain⟨s,q,be⟩:=quJ an ah B.As aa;exact qXD (Knows.ES hs) Y (q8C ay _ _ Y) (S:=Knows hs) (.inl ⟨ap,q4E an ah,λw'⟨bf,bh⟩=>be bf w' bh⟩) ⟨frE,ad⟩ λab=>fin s hs _ u T B (ad.at ab) (ae.at ai ab) ae q
     |false=>
      simp only[ah]at aa;unfold qMC;simp only[Y];rw[zk ap];intro ab;have ad:=ad.at ab;have ai:=ae.at ai ab;cases ak:WW P ops i with
      |false=>
       have bi:isW P o=zb:=by simpa[WW,Y]using ak
       refine qDW (am.up ac.le) ax an ah bi B.As aa ad λs h w' q ao C=>?_;have:=fin s h w' u T B C (ae _ w' ai ao) ae q;rwa [ak]at this
      |true=>
       refine qPS (am.up ac.le) (qvU (ax.snd frE (am.up ac.le)) (aK frE (am.up ac.le)) _) (qOG V frE) an ah B.As aa ad λs h w' q C=>?_;obtain⟨q,af⟩:=q6D q;rw[ak]at af;exact .inr ⟨rfl,Knows h,Knows.ES h,⟨frE,C⟩,ar.Ir (j:=i) (by simpa using af),next u s h w' _ T B q C (Knows.ES h) ⟨frE,C⟩ λ_ A=>A⟩
    .exact qXD (λ_ _ _ _=>trivial) Y (q8C ay _ _ Y) (S:=λ_=>True) (.inr ⟨ap,rfl⟩) trivial λab=>fin (.v zAU) hs _ u T B (ad.at ab) (ae.at ai ab) ae aa
def At.early(aq:fr.has V)(ar:qhK ops=I)(au:HU P nt D ops al){E}{n}{done}{listed listedA}{ah}{C}{sl}{hs}{a}{w}{S}{frE:Fr}(av:At P fr nt D ops al lo done ah C sl hs a w S frE listed listedA E)(aw:unl listedA<=n+1){j}(aa:j∈zAB .any ops listedA)(ab:j∈al)(ax:∀ay ac a' w' ad,At P fr nt D ops al lo done ah C sl hs a' w' S ad listed ac ay->unl ac<=n->DO V r ops ops.size Q n C S ac a' w'):qMC V r ops j (λa' w'=>(WW P ops j=zb/\S w'/\DO V r ops ops.size Q n C S (listedA.setIfInBounds j I) a' w')\/(WW P ops j=I/\∃S',C5 S'/\S' w'/\(∀p∈C,CS ops ops.size p.i j=zb->BZ P ops S' p.o p.v p.a)/\DO V r ops ops.size Q n C S' (listedA.setIfInBounds j I) a' w')) a w:=by
 obtain⟨az,L,ai,R,T,Y,U,aA,aB⟩:=av;obtain⟨aC,⟨o,a0,u,aD⟩,aE⟩:=au j ab;obtain⟨a1,aj,d,ak,W,aF,h,aG⟩:=qRG aC;rw[u]at ak;cases ak;obtain⟨q,_,aH⟩:=qkE aD
 have A:∃z,qrI P aj=O z:=by
  unfold Ea at q;rw[W]at q;simp only at q;split at q
  .rename_i z A;exact⟨z,A⟩
  .cases q
 obtain⟨z,A⟩:=A;have B:=(mem_ready.1 aa).1
 have am:j∉E.map (·.i):=λhm=>by
  rw[zAe,L.lst j,zk hm]at B;cases an:listed[j]? with
  |none=>rw[an]at B;simp at B
  |some v=>rw[an]at B;simp at B
 have aI:j∈EF al listed:=zAZ.2 ⟨ab,by rw[<-L.getD am];simp[B]⟩
 have aJ:∀e∈E,e.d≠d:=λe ao aK=>by
  obtain⟨_,⟨aL,aM,_,aN⟩,_⟩:=L.mem e ao;exact aG e.i aL (λaO=>am (zU.2 ⟨e,ao,aO⟩)) aM (by rw[aN,aK])
 have aP:d<nt:=aH d h;unfold qMC;simp only[u];rw[zk (by simp[zAl,aF])];intro ae;have T:=T.at ae;have U:=Y.at U ae;generalize w.at ae=w at T U⊢;obtain⟨ad,aQ,aR⟩:=L.make T aa ab u W h A aJ (by rw[R.size];exact aP)
 have aT:(zx a.eval o).run P w=.ok (.value (.pointer (O ⟨w.heap.size,0,zc⟩))) (w.alloc (.cells z.toArray aj)):=by
  obtain⟨v,aU,aW,_⟩:=qoD A w;have aX:v.cells=z.toArray:=by apply zBl;simpa using aW
  simp only[zx,W];refine q5C ?_;simp[Instr.alloc,aU,newVar,newRow,aX]
 have aY:WW P ops j=zb:=by simp[WW,u,isW,W]
 refine qsA (qfG q (λf a2 e=>by simp only[Ea,W,A]at q;rw[<-zn q]at e;cases e)) (q8C ar _ _ u).2 aT (qLM (T.N (aq.up L.le)) (Below.AT w _)) (.inl ⟨aY,Y w _ U (Below.AT w _),?_⟩);refine ax _ _ _ _ ad ⟨az.ready aa,aQ,ai,?_,aR,Y,Y w _ U (Below.AT w _),aA,aB⟩ (q6P aw B);have aZ:AS sl d=zc:=ai d (qTX aI u h);refine⟨by simp[zBf,h,R.size],by simp[zBf,h,R.defers],λn y af=>?_,λn ap=>?_⟩
 .have ag:d≠n:=λe=>by rw[<-e,aZ]at af;cases af
  simp only[zBf,h];rw[zM ag];exact R.As n y af
 .have ag:d≠n:=λe=>ap (e▸aE o d u h);simp only[zBf,h];rw[zM ag];exact R.off n ap
def qTS(au:HU P nt D ops al)(av:al.Nodup){i}{t0}(ih:qgW V fr H HW nt D ops al lo r K Q t0):∀(E:F GG)(n:Z)(done:F Z)(t:OT)(listed listedA:zS zO)(q:Pd)(aa:F Hr)(sl:Sl)(hs:Hs)(a:zDz)(w:zp)(S:zp->Prop)(frE:Fr),unl listedA<=n->i∈al->i∈E.map (·.i)->Cy P ops al zb t0 (listed.setIfInBounds i I)=I->ER P nt ops done (.EY i t0)=O t->(∀d∈qDC t,d∈D.ds)->At P fr nt D ops al lo done q aa sl hs a w S frE listed listedA E->C0 P H HW lo t q sl hs K->DO V r ops ops.size Q n aa S listedA a w:=by
 intro E n done t listed listedA q aa sl hs a w S frE hm aw hE ax A ay az h;obtain⟨aA,ae,aB,ab,aC,aD,aE,a3,aF⟩:=az;obtain⟨e,af,rfl⟩:=zU.1 hE;obtain⟨a4,⟨o,ah,aG,ac⟩,aH⟩:=ae.mem e af;obtain⟨aI,_,a5⟩:=au e.i aw;obtain⟨a6,a7,a8,ai,a9,aJ,aj,aK⟩:=qRG aI;rw[ah]at ai;cases ai;simp only[ER]at A;split at A
 .cases A
 .rename_i ba ak;rw[ah]at ak;cases ak;split at A
  .cases A
  .rename_i u B;split at A
   .cases A
   .rename_i C aL;simp at A;subst A;obtain⟨U,aM,bb⟩:=qkE B;have aN:∀d∈qDC C,d∈D.ds:=λd ac=>ay d (by simp[qDC,ac]);obtain⟨aO,h⟩:=qGX (P:=P) (H:=H) (lo:=lo) (d:=⟨e.i,zb,[],u⟩) (ih:=C0 P H HW lo C) (show rtB P H HW lo ⟨e.i,zb,[],u⟩ (C0 P H HW lo C) q sl hs K from h)
    have aP:u.op=.alloc e.ty (e.z.map SV.v):=by
     unfold Ea at U;rw[aG]at U;simp only[aH]at U;simpa using U.symm
    have aQ:u.g=zc:=by
     unfold qFE at B;rw[U]at B;simp only[aJ]at B;split at B
     .simp at B;rw[<-B]
     .cases B
    have h:qcM e.ty (e.z.map SV.v) hs λx W=>FY [] W (qkB u.dst sl x λY=>C0 P H HW lo C q Y W K) q:=by
     have am:qSG sl u.g
      (λsl=>opS P (qhO u.op H HW) noY u.op sl hs λx W=>FY [] W (qkB u.dst sl x λY=>C0 P H HW lo C q Y W K) q)
      (λsl=>FY [] hs (qkB u.dst sl (.v zAU) λY=>C0 P H HW lo C q Y hs K) q):=h
     rw[aQ,aP]at am;exact am
    rw[qiP]at h;obtain⟨h,aR⟩:=qNE h;obtain⟨L,ad,h⟩:=qNB h;obtain⟨h,_⟩:=q6D (h e.b);obtain⟨aT,an,aU,_,ao⟩:=ae.take aO aC af (λc aW=>aR (.v c) (zU.2 ⟨c,aW,rfl⟩)) av L ad;rw[aM.trans ac]at h;have h:C0 P H HW lo C q ((e.d,.p L e.b 0)::sl) ⟨hs.g,.blk L e.b e.ty (e.z.map .v)::hs.rs,ad,hs.lo⟩ K:=h
    have aX:Sim nt D ((e.d,.p L e.b 0)::sl) a:=⟨ab.size,ab.defers,λn y R=>by
     simp only[AS]at R;cases T:zAL e.d n with
     |true=>
      rw[T]at R;obtain rfl:=zP T;simp at R;subst R;exact ae.tmp e af
     |false=>rw[T]at R;exact ab.As n y R,ab.off⟩
    have aY:NoM (DN ops (EF al (listed.setIfInBounds e.i I))) ((e.d,.p L e.b 0)::sl):=by
     refine(aB.sub (qfN λk ag=>(qxJ k ag).1)).cons (λaZ=>?_) _;obtain⟨k,ag,a0⟩:=zBX.1 aZ;obtain⟨ok,a1,a2⟩:=zAC.1 a0;rw[ac]at aj;cases aj;exact aK k ok (qxJ k ag).2 a1 a2
    have:=ih aT n done C _ listedA q aa _ ⟨hs.g,.blk L e.b e.ty (e.z.map .v)::hs.rs,ad,hs.lo⟩ a w (λap=>S ap/\Knows ⟨hs.g,.blk L e.b e.ty (e.z.map .v)::hs.rs,ad,hs.lo⟩ ap) an hm ax aL aN
     ⟨aA,aU,aY,aX,ao,λw1 aq ar T=>⟨aD w1 aq ar.1 T,Knows.ES _ w1 aq ar.2 T⟩,⟨aE,an,ao⟩,λ_ h=>h.2,aF⟩ h
    exact q9E (λ_ h=>h) (λ_ h=>h.1) _ _ _ _ this
def q2d{P:zv}(V:Env P)(fr:Fr)(H HW:qNA)(nt:Z)(D:Pin)(ops:zS zDA)(al:F Z)(lo:Z)(r:zy Z)(K:Sl->Hs->Prop)(Q:zDz->zp->Prop)(oi:OI):Prop:=
 ∀(E:F GG)(n:Z)(done:F Z)(t:OT)(listed listedA:zS zO)(A:Pd)(h:F Hr)(sl:Sl)(hs:Hs)(a:zDz)(w:zp)(S:zp->Prop)(frE:Fr),unl listedA<=n+1->Cy P ops al I oi listed=I->ER P nt ops done oi=O t->(∀d∈qDC t,d∈D.ds)->
  At P fr nt D ops al lo done A h sl hs a w S frE listed listedA E->C0 P H HW lo t A sl hs K->∀i∈qzK oi,qMC V r ops i (λB q=>
   (WW P ops i=zb/\S q/\DO V r ops ops.size Q n h S (listedA.setIfInBounds i I) B q)\/
   (WW P ops i=I/\∃u,C5 u/\u q/\(∀p∈h,CS ops ops.size p.i i=zb->BZ P ops u p.o p.v p.a)/\DO V r ops ops.size Q n h u (listedA.setIfInBounds i I) B q)) a w
def Kept.mono{done q}{u A}{B}(h:Kept P ops done u B)(C:∀i∈done,i∈q)(L:∀x∈u,x∈A):Kept P ops q A B:=λp R=>by
 rcases h p R with⟨a,b,op,sl,x,c,d⟩|h
 .exact .inl ⟨C _ a,b,op,sl,x,L _ c,d⟩
 .exact .inr h
def qXW(oi){listed}:Cy P ops al I oi listed=I->∃i∈qzK oi,i∈zAB .any ops listed/\i∉al:=by
 induction oi with
 |nil=>intro h;simp[Cy]at h
 |first _ _ _=>intro h;simp[Cy]at h
 |EY _ _ _=>intro h;simp[Cy]at h
 |exec i t _=>
  intro h;simp only[Cy,zl]at h;exact⟨i,by simp[qzK],by simpa using h.1.1,by simpa using h.1.2⟩
 |alt a b q _=>
  intro h;simp only[Cy,zl]at h;obtain⟨i,u,A⟩:=q h.1;exact⟨i,zN.2 (.inl u),A⟩
def EOk.HD{frE:Fr}{a}{listed listedA}{E}(h:EOk P ops al fr lo a frE listed listedA E){i}(q:i∉al):i∉E.map (·.i):=λhm=>by
 obtain⟨e,u,A⟩:=zU.1 hm;exact q (A▸(zAZ.1 (h.mem e u).1).1)
def qHX(aw:fr.has V)(a7:G6 V H)(a8:∀fr:Fr,fr.has V->CC V fr HW)(ai:qhK ops=I)(ad:HU P nt D ops al)(a9:al.Nodup)(ba:∀k∈al,k<ops.size)(bw:∀sl hs a w,K sl hs->Sim nt D sl a->Ap fr hs w->Q a w)(oi):qgW V fr H HW nt D ops al lo r K Q oi/\q2d V fr H HW nt D ops al lo r K Q oi:=by
 induction oi with
 |nil=>
  refine⟨?_,λE n done t listed listedA B T sl hs a w S frE _ h=>by simp[Cy]at h⟩;intro E n done t listed listedA B T sl hs a w S frE hm h u U q L;simp[ER]at u;subst u;simp only[Cy,zl]at h;obtain⟨h,bx⟩:=h
  have hE:E=[]:=by
   cases E with
   |nil=>rfl
   |cons e E=>
    exfalso;obtain⟨aT,an⟩:=zAZ.1 (q.eok.mem e (zAH ..)).1;have:=(zAs.1 bx) e.i aT;rw[zAe]at this an;cases aK:listed[e.i]? with
    |none=>rw[aK]at this;simp at this
    |some v=>rw[aK]at this an;simp at this an;rw[this]at an;cases an
  subst hE
  have bz:listedA=listed:=by
   apply zDl;intro k;simpa using q.eok.lst k
  subst bz;have aj:zAB .any ops listedA=[]:=by simpa using h
  have A:∀d,Q a (w.at d):=λd=>bw sl hs a _ L q.sim ((q.hw.EQ q.eok.le).at d);cases n with
  |zero=>exact⟨aj,A⟩
  |succ n=>exact⟨λ_=>A,λj R=>by rw[aj]at R;cases R⟩
 |exec i bb ae=>
  constructor
  .intro E n done t listed listedA B T sl hs a w S frE hm h u U q L;simp only[Cy,zl,beq_iff_eq]at h;obtain⟨⟨⟨aj,W⟩,C⟩,h⟩:=h;have W:i∈zAB .any ops listed:=by simpa using W
   have C:i∉al:=by simpa using C
   induction n generalizing E listedA a w frE with
   |zero=>
    have:=qtM (mem_ready.1 (q.eok.Dh W (q.eok.HD C))).1;omega
   |succ n ax=>
    have ak:=q.eok.Dh W (q.eok.HD C);refine⟨λay=>(by rw[ay]at ak;cases ak),λj R=>?_⟩;by_cases ab:j∈al
    .exact q.early aw ai ad hm R ab λaz aA aB ac aC aD af=>ax az aA aB ac aC af aD
    .have aU:ops.size∉E.map (·.i):=q.eok.HD λaW=>by have:=ba _ aW;omega
     have:=q.eok.Fx aU R ab;rw[aj]at this;obtain rfl:j=i:=by simpa using this
     exact qXO aw a7 a8 ai ad ae.1 E n done t listed listedA B T sl hs a w S frE hm W C h u U q L
  .intro E n done t listed listedA B T sl hs a w S frE hm h u U q L j R;simp only[Cy,zl]at h;obtain⟨⟨W,C⟩,h⟩:=h;obtain rfl:j=i:=by simpa[qzK]using R
   exact qXO aw a7 a8 ai ad ae.1 E n done t listed listedA B T sl hs a w S frE hm (by simpa using W) (by simpa using C) h u U q L
 |EY i bb ae=>
  refine⟨?_,λE n done t listed listedA B T sl hs a w S frE _ h=>by simp[Cy]at h⟩;intro E n done t listed listedA B T sl hs a w S frE hm h u U q L;simp only[Cy,zl,beq_iff_eq]at h;obtain⟨⟨⟨aj,W⟩,C⟩,h⟩:=h;have W:i∈zAB .any ops listed:=by simpa using W
  have C:i∈al:=by simpa using C
  induction n generalizing E listedA a w frE with
  |zero=>
   by_cases hE:i∈E.map (·.i)
   .exact qTS ad a9 ae.1 E 0 done t listed listedA B T sl hs a w S frE hm C hE h u U q L
   .have:=qtM (mem_ready.1 (q.eok.Dh W hE)).1;omega
  |succ n ax=>
   by_cases hE:i∈E.map (·.i)
   .exact qTS ad a9 ae.1 E (n+1) done t listed listedA B T sl hs a w S frE hm C hE h u U q L
   .have ak:=q.eok.Dh W hE;refine⟨λay=>(by rw[ay]at ak;cases ak),λj R=>?_⟩
    have ab:j∈al:=by
     by_cases ab:j∈al
     .exact ab
     .have:=q.eok.Fx hE R ab;rw[aj]at this;obtain rfl:j=i:=by simpa using this
      exact C
    exact q.early aw ai ad hm R ab λaz aA aB ac aC aD af=>ax az aA aB ac aC af aD
 |alt x y bA bB=>
  have bc:q2d V fr H HW nt D ops al lo r K Q (.alt x y):=by
   intro E n done t listed listedA B T sl hs a w S frE hm h u U q L j R;simp only[Cy,zl]at h;simp only[ER]at u;split at u
   .cases u
   .rename_i bd bC;split at u
    .cases u
    .rename_i be bD;simp at u;subst u;have bf:C0 P H HW lo bd B sl hs K/\C0 P H HW lo be B sl hs K:=L;rcases zN.1 (show j∈qzK x++qzK y from R)with R|R
     .exact bA.2 E n done bd listed listedA B T sl hs a w S frE hm h.1 bC (λd ag=>U d (by simp[qDC,ag])) q bf.1 j R
     .exact bB.2 E n done be listed listedA B T sl hs a w S frE hm h.2 bD (λd ag=>U d (by simp[qDC,ag])) q bf.2 j R
  refine⟨?_,bc⟩;intro E n done t listed listedA B T sl hs a w S frE hm h u U q L;simp only[Cy,zl]at h;obtain⟨⟨aj,bh⟩,bE⟩:=h;obtain⟨i,bX,W,C⟩:=qXW x bh
  induction n generalizing E listedA a w frE with
  |zero=>
   have:=qtM (mem_ready.1 (q.eok.Dh W (q.eok.HD C))).1;omega
  |succ n ax=>
   have ak:=q.eok.Dh W (q.eok.HD C);refine⟨λay=>(by rw[ay]at ak;cases ak),λj R=>?_⟩;by_cases ab:j∈al
   .exact q.early aw ai ad hm R ab λaz aA aB ac aC aD af=>ax az aA aB ac aC af aD
   .have aU:ops.size∉E.map (·.i):=q.eok.HD λaW=>by have:=ba _ aW;omega
    have:=(zAs.1 aj) j (q.eok.Fx aU R ab);exact bc E n done t listed listedA B T sl hs a w S frE hm (by simp[Cy,bh,bE]) u U q L j (by simpa[qzK]using this)
 |first i bb ae=>
  refine⟨?_,λE n done t listed listedA B T sl hs a w S frE _ h=>by simp[Cy]at h⟩;intro E n done t listed listedA B T sl hs a w S frE hm h u U q L;simp only[Cy,zl]at h;obtain⟨⟨⟨⟨aT,an⟩,bF⟩,C⟩,h⟩:=h;have bG:i∈zAB .any ops listed:=by simpa using aT
  have C:i∉al:=by simpa using C
  have ao:=q.eok.Dh bG (q.eok.HD C);cases n with
  |zero=>have:=qtM (mem_ready.1 ao).1;omega
  |succ n=>
   have af:=q6P hm (mem_ready.1 ao).1;obtain⟨aL,bi,bH,bI,aX,ap,aq,aM,aY⟩:=q;simp only[ER]at u;split at u
   .cases u
   .rename_i o ar;split at u
    .cases u
    .rename_i Y bj;split at u
     .rename_i aE;split at u
      .cases u
      .rename_i am aF;simp at u;subst u;obtain⟨aN,aO,bJ⟩:=qkE bj;have aZ:∀d∈qDC am,d∈D.ds:=λd ag=>U d (by simp[qDC,ag]);have bl:∀d,o.dst=O d->d<nt/\d∈D.ds:=λd L=>⟨bJ d L,U d (by simp[qDC,aO.trans L])⟩;have a0:=aL.ready ao;have hW:WW P ops i=zb:=by simpa using bF
       have a1:∀j aG,ops[j]?=O aG->j≠i->listedA.getD j I=zb->(∀e∈aG.after,Region.binds .any e=I->e.on≠i)->o.apart ops aG=I:=λj aG R bK bm bL=>by
        refine Region.free_spec ar an j aG R bK ?_ bL;cases aK:listed.getD j I with
        |false=>rfl
        |true=>rw[bi.HY aK]at bm;cases bm
       have a2:=λv=>bi.set C ar (λk A=>(ad k A).1) v
       have bn:∀d,Y.dst=O d->d∉DN ops (EF al listed):=λd ag bM=>by
        obtain⟨k,A,bN⟩:=zBX.1 bM;obtain⟨bY,bO,bP⟩:=zAC.1 bN;have bo:=(zAZ.1 A).1;obtain⟨bZ,b0,d2,bp,_,_,bq,bQ⟩:=qRG (ad k bo).1;rw[bO]at bp;cases bp;rw[bP]at bq;cases bq;exact bQ i o (λe=>C (e▸bo)) ar (aO▸ag)
       have a3:=λah(L:NoM (DN ops (EF al listed)) ah)=>L.sub (qfN (ops:=ops) λk A=>(qxJ (al:=al) (listed:=listed) (i:=i) k A).1);have sub:∀k∈done,k∈(if Y.op.pure=I then done else i::done):=λk A=>by split;exact A;exact zAF _ A
       have a4:qSG sl Y.g
         (λsl=>opS P (qhO Y.op H HW) noY Y.op sl hs λx br=>FY [] br (qkB Y.dst sl x λa5=>C0 P H HW lo am (JW ⟨i,!Y.op.pure,[],Y⟩ sl x B) a5 br K) B)
         (λsl=>FY [] hs (qkB Y.dst sl (.v zAU) λa5=>C0 P H HW lo am B a5 hs K) B):=L
       have a4:=qNM bH a4;rcases qnH bj bI a4 with⟨au,aP,⟨a6,aH⟩,aI⟩|⟨au,aP,⟨a6,aH⟩,aI⟩
       .unfold opS at aH;simp only[aE]at aH;obtain⟨s,A,bt⟩:=qZO aN aE aI.As aH;obtain⟨A,_⟩:=q6D A;have A:=qbH a6 bn A;rw[aO]at A;obtain⟨ah,⟨aQ,av⟩,aR⟩:=aI.H7 bl s (k:=λaJ=>NoM (DN ops (EF al listed)) aJ/\C0 P H HW lo am (JW ⟨i,!Y.op.pure,[],Y⟩ aP s B) aJ hs K) A;have bu:BZ P ops S o (Ag s) a:=.inl ⟨au,q4E aN aE,λac bR=>let⟨bT,bU⟩:=aM ac bR;bt bT ac (.inr bU)⟩;cases aa:Y.op.pure with
        |true=>
         rw[aa]at av aF;refine qMJ ar (q8C ai) hW (λp aa=>aa) (λbv j _ _=>.inl ⟨au,q4E aN aE,λac _=>bt fr ac (.inl aa)⟩) n S listedA a w ap a1 aL ao ⟨rfl,rfl⟩ bu aq ?_;exact ae.1 E n done am _ _ _ T ah hs _ w S frE af h (by simpa using aF) aZ ⟨a0,a2 _,a3 ah aQ,aR,aX,ap,aq,aM,aY⟩ av
        |false=>
         rw[aa]at av aF;refine qMJ (Φ':=⟨i,o,Ag s,a⟩::T) ar (q8C ai) hW (λp aa=>zAF _ aa) (λbv j ag bW=>bW _ (zAH ..) ag) n S listedA a w ap a1 aL ao ⟨rfl,rfl⟩ bu aq ?_;refine ae.1 E n (i::done) am _ _ ((i,Y.op,aP,s)::B) _ ah hs _ w S frE af h (by simpa using aF) aZ ⟨a0,a2 _,a3 ah aQ,aR,aX,ap,aq,aM,?_⟩ av;intro p aa;rcases zs.1 aa with rfl|aa
         .exact .inl ⟨zAH ..,au,Y.op,aP,s,zAH ..,aN,aE,aI.As,rfl⟩
         .exact aY.mono (λk A=>zAF _ A) (λk A=>zAF _ A) p aa
       .obtain⟨A,_⟩:=q6D aH;have A:=qbH a6 bn A;rw[aO]at A;obtain⟨ah,⟨aQ,av⟩,aR⟩:=aI.H7 bl (.v zAU) (k:=λaJ=>NoM (DN ops (EF al listed)) aJ/\C0 P H HW lo am B aJ hs K) A;refine qMJ ar (q8C ai) hW (λp aa=>aa) (λbv j _ _=>.inr ⟨au,rfl⟩) n S listedA a w ap a1 aL ao ⟨rfl,rfl⟩ (.inr ⟨au,rfl⟩) aq ?_;exact ae.1 E n _ am _ _ B T ah hs _ w S frE af h aF aZ ⟨a0,a2 _,a3 ah aQ,aR,aX,ap,aq,aM,aY.mono sub λ_ L=>L⟩ av
     .cases u
end
def qyI{P:zv}{V:Env P}{fr:Fr}{H HW:qNA}(R:fr.has V)(T:G6 V H)(U:∀fr:Fr,fr.has V->CC V fr HW){nt:Z}{D:Pin}{ops:zS zDA}{al:F Z}{r:zy Z}{K:Sl->Hs->Prop}{Q:zDz->zp->Prop}(hm:P.follows .mixedOrders=I)(W:qhK ops=I)(C:HU P nt D ops al)(Y:al.Nodup)(aa:∀sl hs a w,K sl hs->Sim nt D sl a->Ap fr hs w->Q a w){oi:OI}{t:OT}{sl:Sl}{hs:Hs}{a:zDz}{w:zp}(B:Cy P ops al zb oi (zAP ops.size zb)=I)(ab:ER P nt ops [] oi=O t)(ac:∀d∈qDC t,d∈D.ds)(ad:NoM (DN ops al) sl)(ae:Sim nt D sl a)(af:Ap fr hs w)(h:C0 P H HW hs.lo t [] sl hs K):q2H V r ops Q ops.size (zAP ops.size zb) a w:=by
 have q:Ap fr hs w:=af
 have ag:DC ops (zAP ops.size zb):=λk o u=>by
  rw[zAe,Array.getElem?_replicate]at u;split at u<;>simp at u
 have L:∀k∈al,k<ops.size:=λk u=>by
  obtain⟨_,⟨o,_,B,_⟩,_⟩:=C k u;exact(zAb.1 B).1
 have ah:EF al (zAP ops.size zb)=al:=by
  unfold EF;rw[List.filter_eq_self];intro k u;have:=L k u;simp[zAe,Array.getElem?_replicate,this]
 let frE:Fr:=⟨w,fr.pr,fr.g0,λn ai=>zQ (fr.wf n ai) q.frm.size⟩;have hE:Ap frE hs w:=⟨q.AJ,⟨rfl,rfl,rfl,zH _,λ_ _=>rfl⟩,q.res,q.nod,q.fre,q.fz,q.own,q.low⟩
 have:=(qHX (r:=r) (lo:=hs.lo) R T U W C Y L aa oi).1 [] ops.size [] t _ (zAP ops.size zb) [] [] sl hs a _ (Knows hs) frE (by unfold unl;exact zY List.count_le_length se) B ab ac
  ⟨ag,⟨(λe A=>nomatch A),(λe A=>nomatch A),(λe A=>nomatch A),zBW,zBW,q.frm,q.low.1,λn=>by simp[frE],λn=>by simp[frE],λk=>se⟩,by rw[ah];exact ad,ae,hE,Knows.ES hs,⟨fr,q⟩,λ_ h=>h,λp aj=>by cases aj⟩ h
 exact qtN _ _ _ _ _ _ this
inductive By where
 |skip
 |reg (ops:F CY)
 |Iz (scr:F Z) (t:OT)
 |seq (a b:By)
 |cond (c:Opd) (a b:By)
 |block (id:Z) (b:By)
 |loop (ms scr:F Z) (b:By)
 |KF (g:Opd) (ps:F Z) (asg body:By)
 |exit (id:Z)
 |ret
 |label (l:Z)
 |goto (l:Z)
 |jump (l:Z) (b r:By)
 |scope (b:By)
 deriving Inhabited
def Bu:By->F Z
 |.reg h=>qZE h
 |.Iz q t=>q++qDC t
 |.seq a b=>Bu a++Bu b
 |.cond _ a b=>Bu a++Bu b
 |.block _ b=>Bu b
 |.loop _ _ b=>Bu b
 |.jump _ b r=>Bu b++Bu r
 |.scope b=>Bu b
 |_=>[]
abbrev DT:=Ex->Sl->Hs->Prop
abbrev Run:=Sl->Hs->DT->Prop
def qEb(c:Opd)(A B:Run)(sl:Sl)(hs:Hs)(K:DT):Prop:=match c with
 |.t n=>match AS sl n with
  |some (.b I)=>A sl hs K
  |some (.b zb)=>B sl hs K
  |some (.v (.bool x))=>(x=I->A ((n,.b I)::sl) hs K)/\(x=zb->B ((n,.b zb)::sl) hs K)
  |_=>zX
 |.b I=>A sl hs K
 |.b zb=>B sl hs K
 |.c _=>zX
def LJ(B:Run)(K:DT):DT:=λe sl hs=>match e with
 |.normal=>B sl hs K
 |.exit n=>K (.exit n) sl hs
 |.ret=>K .ret sl hs
 |.goto n=>K (.goto n) sl hs
def qPZ(id:Z)(K:DT):DT:=λe sl hs=>match e with
 |.normal=>K .normal sl hs
 |.exit n=>match zAL n id with
  |true=>K .normal sl hs
  |false=>K (.exit n) sl hs
 |.ret=>K .ret sl hs
 |.goto n=>K (.goto n) sl hs
def Hg:F Z->Sl->(F SV->Prop)->Prop
 |[],_,k=>k []
 |n::r,sl,k=>match AS sl n with
  |some x=>Hg r sl λl=>k (x::l)
  |none=>zX
def qsQ(h:F Z):Sl->(Sl->Prop)->Prop
 |[],k=>k []
 |(n,x)::r,k=>match HF n h with
  |true=>qsQ h r k
  |false=>qsQ h r λl=>k ((n,x)::l)
def E6(ms:F Z)(vs:F SV)(sl:Sl):Sl:=IW ms vs sl
where
 IW:F Z->F SV->Sl->Sl
 |n::ns,x::xs,sl=>(n,x)::IW ns xs sl
 |_,_,sl=>sl
def Imp(vs:F SV)(hs:Hs)(q:F SV)(u:Hs):Prop:=qCA q=qCA vs/\∀h w,Ap h hs w->Ap h u w
def Imp.refl(vs)(hs):Imp vs hs vs hs:=⟨rfl,λ_ _ h=>h⟩
def Imp.eqv{vs q}(hs)(h:qCA q=qCA vs):Imp vs hs q hs:=⟨h,λ_ _ h=>h⟩
def qPN{h:Type}(A:F Z)(B:h->F SV)(W:h->Hs)(J:h->Prop)(q:h->Z)(x:h)(K:DT):DT:=λe sl hs=>match e with
 |.normal=>Hg A sl λC=>∀u w,Ap u hs w->∃y,qCA (B y)=qCA C/\J y/\q y<q x/\Ap u (W y) w
 |.exit n=>K (.exit n) sl hs
 |.ret=>K .ret sl hs
 |.goto n=>K (.goto n) sl hs
def K0(q C:F Z)(D:Run)(sl:Sl)(hs:Hs)(K:DT):Prop:=
 Hg q sl λE=>qsQ C sl λH=>∃(h:Type)(u:h->F SV)(A:h->Hs)(J:h->Prop)(L:h->Z),
  (∀B w,Ap B hs w->∃x,qCA (u x)=qCA E/\J x/\Ap B (A x) w)/\∀x,J x->D (E6 q (u x) H) (A x) (qPN q u A J L x K)
def q9M(id q:Z)(busy:zO)(new:LpS):F Res->(F Res->Prop)->Prop
 |[],_=>zX
 |.lp k l r j::h,K=>match zAL k id with
  |true=>l=q/\match busy with
   |true=>match j with
    |.busy=>K (.lp k l r new::h)
    |_=>zX
   |false=>match j with
    |.ready=>K (.lp k l r new::h)
    |_=>zX
  |false=>q9M id q busy new h λu=>K (.lp k l r j::u)
 |x::h,K=>q9M id q busy new h λu=>K (x::u)
def qZT(id q:Z):F Res->(LpS->F Res->Prop)->Prop
 |[],_=>zX
 |.lp k l r j::h,K=>match zAL k id with
  |true=>l=q/\K j h
  |false=>qZT id q h λu A=>K u (.lp k l r j::A)
 |x::h,K=>qZT id q h λu A=>K u (x::A)
def qGN:F Z->F SV->Sl->(Sl->Prop)->Prop
 |[],[],sl,k=>k sl
 |n::h,x::q,sl,k=>qGN h q ((n,x)::sl) k
 |_,_,_,_=>zX
def qKc(id l:Z)(K:SV->Hs->Prop):DT:=λe _ hs=>match hs with
 |⟨q,u,A,B⟩=>match e with
  |.normal=>q9M id l I .ready u λh=>K (.b I) ⟨q,h,A,B⟩
  |.exit n=>q9M id l I (.jump (.exit n)) u λh=>K (.b zb) ⟨q,h,A,B⟩
  |.ret=>q9M id l I (.jump .ret) u λh=>K (.b zb) ⟨q,h,A,B⟩
  |.goto n=>q9M id l I (.jump (.goto n)) u λh=>K (.b zb) ⟨q,h,A,B⟩
def qCY(id l:Z)(rr:Loop)(ps:F Z)(sl:Sl)(q u:Run)(Y:qUB):qUB:=λh args hs K=>match zAL h id with
 |true=>match qdI h hs.rs with
  |some (A,B,_)=>(A=l/\B=rr)/\qGN ps args sl λC=>q C hs λe D E=>match e with
   |.normal=>match E with
    |⟨H,L,P,Q⟩=>q9M h l zb .busy L λR=>u D ⟨H,R,P,Q⟩ (qKc h l K)
   |_=>zX
  |none=>zX
 |false=>Y h args hs K
def Lf(K:DT)(sl:Sl)(hs:Hs)(j:LpS)(rs':F Res):Prop:=match hs with
 |⟨h,_,q,u⟩=>match j with
  |.ready=>K .normal sl ⟨h,rs',q,u⟩
  |.jump (.exit n)=>K (.exit n) sl ⟨h,rs',q,u⟩
  |.jump .ret=>K .ret sl ⟨h,rs',q,u⟩
  |.jump (.goto n)=>K (.goto n) sl ⟨h,rs',q,u⟩
  |_=>zX
def qoZ(P:zv)(H:qNA)(g:SV)(ps:F Z)(u A:Run)(Y:qUB)(sl:Sl)(hs:Hs)(K:DT):Prop:=match g with
 |.fn (.func k) first B=>Gb P k/\match hs with
  |⟨C,D,E,L⟩=>qJC E λi Q=>∀(l:Z)(h:Loop),H (qCY i l h ps sl u A Y) k (first++[.yl i l]++B) ⟨C,.lp i l h .ready::D,Q,L⟩ λ_ q=>
   qZT i l q.rs λj R=>Lf K sl q j R
 |_=>zX
def qid:zO->qUB->Run:=λ_ _ sl hs K=>K .normal sl hs
def Mc(P:zv)(H:qNA)(ops:F CY):zO->qUB->Run:=λ_ h sl hs K=>Gt P H h ops sl hs λsl hs=>K .normal sl hs
def qLW(P:zv)(H:qNA)(B:F Z)(t:OT):zO->qUB->Run:=λ_ _ sl hs K=>match hs with
 |⟨q,u,A,h⟩=>match B with
  |[]=>C0 P (okH P) H h t [] sl ⟨q,u,A,h⟩ λsl hs=>K .normal sl hs
  |n::C=>qsQ (n::C) sl λsl=>C0 P (okH P) H h t [] sl ⟨q,u,A,h⟩ λsl hs=>K .normal sl hs
def Ma(a b:zO->qUB->Run):zO->qUB->Run:=λrd h sl hs K=>a rd h sl hs (LJ (b rd h) K)
def Lu(c:Opd)(a b:zO->qUB->Run):zO->qUB->Run:=λrd h sl hs K=>qEb c (a rd h) (b rd h) sl hs K
def qld(id:Z)(b:zO->qUB->Run):zO->qUB->Run:=λrd h sl hs K=>b rd h sl hs (qPZ id K)
def Lq(h q:F Z)(b:zO->qUB->Run):zO->qUB->Run:=λrd u sl hs K=>K0 h q (b rd u) sl hs K
def Ln(P:zv)(H:qNA)(g:Opd)(ps:F Z)(q u:zO->qUB->Run):zO->qUB->Run:=λrd h sl hs K=>match rd with
 |true=>zX
 |false=>g.k hs.rs sl λA=>qoZ P H A ps (q I h) (u I h) h sl hs K
def Lt(id:Z):zO->qUB->Run:=λ_ _ sl hs K=>K (.exit id) sl hs
def Mb:zO->qUB->Run:=λ_ _ sl hs K=>K .ret sl hs
def qpa(l:Z)(R:Run)(K:DT):DT:=λe sl hs=>match e with
 |.normal=>K .normal sl hs
 |.exit n=>K (.exit n) sl hs
 |.ret=>K .ret sl hs
 |.goto n=>match zAL n l with
  |true=>R sl hs K
  |false=>K (.goto n) sl hs
def qbR(K:DT):DT:=λe sl hs=>match e with
 |.normal=>K .normal sl hs
 |.exit n=>K (.exit n) sl hs
 |.ret=>K .ret sl hs
 |.goto _=>zX
def Ls(l:Z):zO->qUB->Run:=λ_ _ sl hs K=>K (.goto l) sl hs
def Lr(l:Z)(b r:zO->qUB->Run):zO->qUB->Run:=λrd h sl hs K=>b rd h sl hs (qpa l (r rd h) K)
def qjd(b:zO->qUB->Run):zO->qUB->Run:=λrd h sl hs K=>b rd h sl hs (qbR K)
def S(P:zv)(H:qNA)(c:By):zO->qUB->Run:=
 By.rec (motive:=λ_=>zO->qUB->Run) qid (λq=>Mc P H q) (λh t=>qLW P H h t) (λ_ _ a b=>Ma a b) (λc _ _ a b=>Lu c a b) (λid _ b=>qld id b)
  (λu h _ b=>Lq u h b) (λg A _ _ a b=>Ln P H g A a b) (λid=>Lt id) Mb (λ_=>qid) (λl=>Ls l) (λl _ _ b r=>Lr l b r) (λ_ b=>qjd b) c
def qfH:By->F Z
 |.seq a b=>qfH a++qfH b
 |.label l=>[l]
 |_=>[]
def q4F:By->F Z
 |.seq a b=>q4F a++q4F b
 |.cond _ a b=>q4F a++q4F b
 |.block _ b=>q4F b
 |.loop _ _ b=>q4F b
 |.goto l=>[l]
 |_=>[]
def q5F:By->Z->zy By
 |.seq a b,l=>match q5F a l with
  |some r=>O (.seq r b)
  |none=>q5F b l
 |.label m,l=>if m==l then O .skip else zc
 |_,_=>zc
def Gh(c0:By):By->F Z->By
 |b,[]=>b
 |b,l::h=>match q5F c0 l with
  |some r=>Gh c0 (.jump l b r) h
  |none=>Gh c0 b h
def JV(P:zv)(nt:Z)(ops:zS zDA)(al:F Z):zO:=al.all (λk=>IH ops k&&((ops[k]?).bind (qFE P nt ops)).isSome)&&decide al.Nodup
def trC(P:zv)(nt:Z):zDE->F (F Z×OI)×F (F Z)->zy (By×(F (F Z×OI)×F (F Z)))
 |.skip,s=>O (.skip,s)
 |.region _ u zb,s=>match qgJ P nt u (zA8 u.size)with
  |some l=>O (.reg l,s)
  |none=>zc
 |.region _ u I,((C,H)::D,E)=>match ER P nt u [] H with
  |some l=>if Cy P u C zb H (zAP u.size zb)&&JV P nt u C&&qhK u then O (.Iz (DN u C) l,(D,E))else zc
  |none=>zc
 |.seq a b,s=>match trC P nt a s with
  |some (A,q)=>match trC P nt b q with
   |some (h,B)=>O (.seq A h,B)
   |none=>zc
  |none=>zc
 |.cond c a b,s=>match trC P nt a s with
  |some (A,q)=>match trC P nt b q with
   |some (h,B)=>O (.cond (qJA c) A h,B)
   |none=>zc
  |none=>zc
 |.block id b,s=>match trC P nt b s with
  |some (h,q)=>O (.block id h,q)
  |none=>zc
 |.loop b,(D,L::E)=>match trC P nt b (D,E)with
  |some (h,q)=>if L.all (λn=>(Bu h).contains n)then O (.loop L (Bu h).eraseDups h,q)else zc
  |none=>zc
 |.rangeFunc g Q R T,s=>match trC P nt R s with
  |some (A,q)=>match trC P nt T q with
   |some (h,B)=>if Q.toList.all (λn=>decide (n<nt))then O (.KF (qJA g) Q.toList A h,B)else zc
   |none=>zc
  |none=>zc
 |.exit id,s=>O (.exit id,s)
 |.ret,s=>O (.ret,s)
 |.label l,s=>O (.label l,s)
 |.goto l,s=>O (.goto l,s)
 |.scope b,s=>match trC P nt b s with
  |some (h,q)=>O (.scope (Gh h h ((qfH h).filter λl=>(q4F h).contains l)),q)
  |none=>zc
 |_,_=>zc
def q0K:∀{u:F Z}{sl:Sl}{k:F SV->Prop},Hg u sl k->∃vs,k vs/\vs.length=u.length/\∀(i:Z)n,u[i]?=O n->∃x,vs[i]?=O x/\AS sl n=O x
 |[],_,_,h=>⟨[],h,rfl,λi n q=>by simp at q⟩
 |n::r,sl,k,h=>by
  simp only[Hg]at h;split at h
  .rename_i x A;obtain⟨vs,B,C,D⟩:=q0K h;refine⟨x::vs,B,by simp[C],λi m q=>?_⟩;cases i with
   |zero=>simp at q;subst q;exact⟨x,rfl,A⟩
   |succ i=>exact D i m (by simpa using q)
  .exact h.elim
def qzE{D}:∀{sl:Sl}{k:Sl->Prop},qsQ D sl k->∃u,k u/\∀n x,AS u n=O x->n∉D/\AS sl n=O x
 |[],k,q=>⟨[],q,λn x h=>by simp[AS]at h⟩
 |(m,y)::r,k,q=>by
  simp only[qsQ]at q;split at q
  .rename_i hm;obtain⟨u,B,C⟩:=qzE q;refine⟨u,B,λn x h=>?_⟩;obtain⟨E,H⟩:=C n x h;refine⟨E,?_⟩;simp only[AS];cases A:zAL m n with
   |true=>obtain rfl:=zP A;exact absurd (E3.1 hm) E
   |false=>exact H
  .rename_i hm;obtain⟨u,B,C⟩:=qzE q;refine⟨_,B,λn x h=>?_⟩;simp only[AS]at h⊢;cases A:zAL m n with
   |true=>
    rw[A]at h;obtain rfl:=zP A;exact⟨λL=>(by rw[E3.2 L]at hm;cases hm),h⟩
   |false=>rw[A]at h;exact C n x h
def q6J:∀(q:F Z)(vs:F SV)(sl:Sl)(n:Z)(x:SV),vs.length=q.length->AS (E6 q vs sl) n=O x->(∃i:Z,q[i]?=O n/\vs[i]?=O x)\/(n∉q/\AS sl n=O x)
 |[],_,sl,n,x,u,h=>.inr ⟨se,by simpa[E6,E6.IW]using h⟩
 |_::_,[],sl,n,x,u,h=>by simp at u
 |m::q,v::vs,sl,n,x,u,h=>by
  simp only[E6,E6.IW,AS]at h;cases A:zAL m n with
  |true=>rw[A]at h;obtain rfl:=zP A;exact .inl ⟨0,rfl,h⟩
  |false=>
   rw[A]at h;rcases q6J q vs sl n x (by simpa using u) h with⟨i,B,C⟩|⟨B,C⟩
   .exact .inl ⟨i+1,B,C⟩
   .exact .inr ⟨by simp[B,zBs (zCi A)],C⟩
def q0B{id L}{busy}{new}:∀{rs:F Res}{k:F Res->Prop},q9M id L busy new rs k->∃l1 q r,rs=l1++.lp id L r (if busy then .busy else .ready)::q/\k (l1++.lp id L r new::q)
 |[],_,h=>h.elim
 |.lp m l r j::rs,k,h=>by
  simp only[q9M]at h;cases P:zAL m id with
  |true=>
   rw[P]at h;obtain rfl:=zP P;obtain⟨rfl,h⟩:=h;cases busy with
   |true=>
    simp only at h;split at h
    .exact⟨[],rs,r,rfl,h⟩
    .exact h.elim
   |false=>
    simp only at h;split at h
    .exact⟨[],rs,r,rfl,h⟩
    .exact h.elim
  |false=>
   rw[P]at h;obtain⟨l1,q,u,e,A⟩:=q0B h;exact⟨.lp m l r j::l1,q,u,by rw[e];rfl,A⟩
 |.blk B D E H::rs,k,h=>by
  obtain⟨l1,q,u,e,A⟩:=q0B (k:=λC=>k (.blk B D E H::C)) h;exact⟨_::l1,q,u,by rw[e];rfl,A⟩
 |.row B D E H Q R T::rs,k,h=>by
  obtain⟨l1,q,u,e,A⟩:=q0B (k:=λC=>k (.row B D E H Q R T::C)) h;exact⟨_::l1,q,u,by rw[e];rfl,A⟩
 |.mk B::rs,k,h=>by
  obtain⟨l1,q,u,e,A⟩:=q0B (k:=λC=>k (.mk B::C)) h;exact⟨_::l1,q,u,by rw[e];rfl,A⟩
 |.mp B D E H::rs,k,h=>by
  obtain⟨l1,q,u,e,A⟩:=q0B (k:=λC=>k (.mp B D E H::C)) h;exact⟨_::l1,q,u,by rw[e];rfl,A⟩
def qrD{id Q}:∀{rs:F Res}{k:LpS->F Res->Prop},qZT id Q rs k->∃l1 q r j,rs=l1++.lp id Q r j::q/\k j (l1++q)
 |[],_,h=>h.elim
 |.lp m l r j::rs,k,h=>by
  simp only[qZT]at h;cases P:zAL m id with
  |true=>
   rw[P]at h;obtain rfl:=zP P;obtain⟨rfl,h⟩:=h;exact⟨[],rs,r,j,rfl,h⟩
  |false=>
   rw[P]at h;obtain⟨l1,q,u,A,e,B⟩:=qrD h;exact⟨.lp m l r j::l1,q,u,A,by rw[e];rfl,B⟩
 |.blk C E H L::rs,k,h=>by
  obtain⟨l1,q,u,A,e,B⟩:=qrD (k:=λj D=>k j (.blk C E H L::D)) h;exact⟨_::l1,q,u,A,by rw[e];rfl,B⟩
 |.row C E H L R T U::rs,k,h=>by
  obtain⟨l1,q,u,A,e,B⟩:=qrD (k:=λj D=>k j (.row C E H L R T U::D)) h;exact⟨_::l1,q,u,A,by rw[e];rfl,B⟩
 |.mk C::rs,k,h=>by
  obtain⟨l1,q,u,A,e,B⟩:=qrD (k:=λj D=>k j (.mk C::D)) h;exact⟨_::l1,q,u,A,by rw[e];rfl,B⟩
 |.mp C E H L::rs,k,h=>by
  obtain⟨l1,q,u,A,e,B⟩:=qrD (k:=λj D=>k j (.mp C E H L::D)) h;exact⟨_::l1,q,u,A,by rw[e];rfl,B⟩
def mkD(b:Z):Deferred:={target:=.collected b,args:=#[]}
def Mks(h fr:Fr)(D:F Deferred):Prop:=∃bs:F Z,D=bs.map mkD/\bs.Nodup/\∀b∈bs,¬h.pr b/\¬fr.g0 b/\fr.pr b/\fr.w.heap[b]?=O (.deferred (O []))
def R0(q:Fr)(nt:Z)(A:F Z)(t:zS zg)(sl:Sl)(hs:Hs)(a:zDz)(w:zp):Prop:=∃h u,q.le h/\Ap h hs w/\Sim nt ⟨u,A,t⟩ sl a/\Mks q h u
def Gm(A:Fr)(nt:Z)(B:F Z)(t:zS zg)(K:Ex->Sl->Hs->Prop):Exit->zDz->zp->Prop:=λe a w=>
 ∃h q u,h.to=e/\K h q u/\R0 A nt B t q u a w
def R0.out{A:Fr}{nt}{B u}{t t'}{sl}{hs}{a}{w}(h:R0 A nt B t sl hs a w)(k:∀n∈B,n∈u)(D:∀n,n∉u->t[n]?=t'[n]?):R0 A nt u t' sl hs a w:=by
 obtain⟨L,Q,R,T,q,U⟩:=h;exact⟨L,Q,R,T,⟨q.size,q.defers,q.As,λn C=>(q.off n λh=>C (k n h)).trans (D n C)⟩,U⟩
def R0.up{q u:Fr}{nt}{A}{t}{sl}{hs}{a}{w}(h:R0 u nt A t sl hs a w)(k:q.le u):R0 q nt A t sl hs a w:=by
 obtain⟨C,D,L,Q,R,T⟩:=h;obtain⟨bs,e1,e2,e3⟩:=T;exact⟨C,D,Fr.trans k L,Q,R,bs,e1,e2,λb B=>⟨λU=>(e3 b B).1 (k.2 b U).1,(e3 b B).2⟩⟩
def qUM{nt}{D}{sl}{a}{c}{A B}{u}{K}(h:qEb (qJA c) A B sl u K)(hs:Sim nt D sl a):(a.eval c=.bool I/\∃sl',A sl' u K/\Sim nt D sl' a)\/(a.eval c=.bool zb/\∃sl',B sl' u K/\Sim nt D sl' a):=by
 cases c with
 |tmp n=>
  simp only[qJA,qEb]at h;split at h
  .rename_i q;exact .inl ⟨qGA (hs.As n _ q),sl,h,hs⟩
  .rename_i q;exact .inr ⟨qGA (hs.As n _ q),sl,h,hs⟩
  .rename_i x q;have:=qGA (hs.As n _ q);cases x with
   |true=>exact .inl ⟨this,_,h.1 rfl,hs.same q rfl⟩
   |false=>exact .inr ⟨this,_,h.2 rfl,hs.same q rfl⟩
  .exact h.elim
 |const v=>
  simp only[qJA]at h;split at h
  .rename_i x;cases x with
   |true=>exact .inl ⟨rfl,sl,h,hs⟩
   |false=>exact .inr ⟨rfl,sl,h,hs⟩
  .exact h.elim
 |global g=>exact h.elim
 |func f=>exact h.elim
def qHP{l q}(h:qCA l=qCA q){i:Z}{x}(u:l[i]?=O x):∃y,q[i]?=O y/\Ag y=Ag x:=by
 rw[qgA,qgA]at h;have:(q.map Ag)[i]?=O (Ag x):=by rw[<-h];simp[u]
 simpa using this
def qSJ:∀{ps:F Z}{args:F SV}{sl:Sl}{k:Sl->Prop}{nt:Z}{D:Pin}{t:zS zg}{q:F Deferred},qGN ps args sl k->(∀n∈ps,n<nt)->(∀n∈ps,n∈D.ds)->Sim nt D sl ⟨t,q⟩->args.length=ps.length/\∃sl',k sl'/\Sim nt D sl' ⟨(ps.zip (qCA args)).foldl (λtmps(p,v)=>tmps.setIfInBounds p v) t,q⟩
 |[],[],sl,k,nt,D,t,q,h,u,A,hs=>⟨rfl,sl,h,hs⟩
 |n::Q,x::R,sl,k,nt,D,t,q,h,u,A,hs=>by
  simp only[qGN]at h;obtain⟨B,sl',C,L⟩:=qSJ (t:=t.setIfInBounds n (Ag x)) h (λm hm=>u m (by simp[hm])) (λm hm=>A m (by simp[hm])) (hs.put (u n se) (A n se) x);exact⟨by simp[B],sl',C,L⟩
 |[],_::_,sl,k,nt,D,t,q,h,u,A,hs=>h.elim
 |_::_,[],sl,k,nt,D,t,q,h,u,A,hs=>h.elim
def qEE{P:zv}(E:Env P)(H:qNA)(nt:Z)(c:zDE):Prop:=∀(h:Fr)(r:zy Z)(rd:zO)(A:qUB)(q:F Z)(t:zS zg)(u:By)(s B:F (F Z×OI)×F (F Z))(sl:Sl)(hs:Hs)(K:Ex->Sl->Hs->Prop)(a:zDz)(w:zp),h.has E->
 trC P nt c s=O (u,B)->(∀d∈Bu u,d∈q)->(rd=zb->r=zc)->FD E h A->R0 h nt q t sl hs a w->S P H u rd A sl hs K->c.wpX E r (Gm h nt q t K) a w
section
variable{P:zv}{E:Env P}{H:qNA}{nt:Z}
def qOO(hm:P.follows .mixedOrders=I)(ae:∀fr:Fr,fr.has E->CC E fr H)(id)(ops)(d):qEE E H nt (.region id ops d):=by
 intro T r rd al u t aE s aF sl hs K a w U h V aG am an q;obtain⟨fr,D,L,R,A,af⟩:=an;cases d with
 |false=>
  simp only[trC]at h;split at h
  .rename_i l W;simp at h;obtain⟨rfl,rfl⟩:=h;refine qgE (qvG (Q:=Gm T nt u t K .normal) (U.up L) (fr:=fr) (D:=⟨D,u,t⟩) (ae fr (U.up L)) (am.up L) (K:=λsl hs=>K .normal sl hs) ?_ _ l sl hs a w W V A R q);exact λsl hs a w B Y R=>⟨.normal,sl,hs,rfl,B,fr,D,L,R,Y,af⟩
  .cases h
 |true=>
  obtain⟨ag,aH⟩:=s;cases ag with
  |nil=>simp[trC]at h
  |cons ah ag=>
   obtain⟨aa,ah⟩:=ah;simp only[trC]at h;split at h
   .rename_i l W;split at h
    .rename_i ai;simp at h;obtain⟨rfl,rfl⟩:=h;simp only[zl]at ai;obtain⟨⟨ao,ab⟩,ap⟩:=ai;simp only[JV,zl,zF]at ab
     have aq:HU P nt ⟨D,u,t⟩ ops aa:=λk B=>by
      have:=(zAs.1 ab.1) k B;simp only[zl]at this;obtain⟨ar,ac⟩:=zCv.1 this.2;obtain⟨o,au,ac⟩:=zAC.1 ac;refine⟨this.1,⟨o,ar,au,ac⟩,λaI d av C=>V d (zN.2 (.inl (zBX.2 ⟨k,B,by simp[av,C]⟩)))⟩
     have aw:∀d∈qDC l,d∈u:=λd C=>V d (zN.2 (.inr C))
     have go:∀sl,NoM (DN ops aa) sl->Sim nt ⟨D,u,t⟩ sl a->C0 P (okH P) H hs.lo l [] sl hs (λsl hs=>K .normal sl hs)->(Code.region id ops I).wpX E r (Gm T nt u t K) a w:=λsl ax A q=>by
      refine qJD hm (qyI (r:=r) (fr:=fr) (D:=⟨D,u,t⟩) (U.up L) (qZA E) ae (K:=λsl hs=>K .normal sl hs) (Q:=Gm T nt u t K .normal) hm ap aq ab.2 ?_ ao W aw ax A R q);exact λsl hs a w B Y R=>⟨.normal,sl,hs,rfl,B,fr,D,L,R,Y,af⟩
     obtain⟨ay,az,aA,aB⟩:=hs;have q:qLW P H (DN ops aa) l rd al sl ⟨ay,az,aA,aB⟩ K:=q;unfold qLW at q;simp only at q;split at q
     .rename_i ad;exact go sl (by rw[ad];intro d C;cases C) A q
     .rename_i n aJ ad;obtain⟨aj,B,ak⟩:=qzE q
      refine go aj (by rw[ad];intro d C;cases aC:AS aj d with
       |none=>rfl
       |some x=>exact absurd C (ak d x aC).1) ⟨A.size,A.defers,λn x aD=>A.As n x (ak n x aD).2,A.off⟩ B
    .cases h
   .cases h
def qNO{x y}(W:qEE E H nt x)(Y:qEE E H nt y):qEE E H nt (.seq x y):=by
 intro D r rd L Q t ag s ah sl hs K a w R h T U V aa ab;simp only[trC]at h;split at h
 .rename_i ai aj ac;split at h
  .rename_i ak al ad;simp at h;obtain⟨rfl,rfl⟩:=h;refine qtI (q7B (W D r rd L Q t _ _ _ sl hs _ a w R ac (λd C=>T d (by simp[Bu,C])) U V aa ab) ?_);rintro e ae w1 ⟨af,q,u,rfl,A,B⟩;cases af with
   |normal=>exact Y D r rd L Q t _ _ _ q u K ae w1 R ad (λd C=>T d (by simp[Bu,C])) U V B A
   |exit n=>exact⟨.exit n,q,u,rfl,A,B⟩
   |ret=>exact⟨.ret,q,u,rfl,A,B⟩
   |goto n=>exact⟨.goto n,q,u,rfl,A,B⟩
  .cases h
 .cases h
def quS{c}{x y}(af:qEE E H nt x)(ag:qEE E H nt y):qEE E H nt (.cond c x y):=by
 intro R r rd q T t ao s ap sl hs K a w U h V W Y ah ai;simp only[trC]at h;split at h
 .rename_i aj aq ak;split at h
  .rename_i al ar am;simp at h;obtain⟨rfl,rfl⟩:=h;obtain⟨aa,ab,ac,ad,an,ae⟩:=ah;rcases qUM (A:=S P H aj rd q) (B:=S P H al rd q) ai an with⟨u,C,D,L⟩|⟨u,C,D,L⟩
   .exact q1H u (af R r rd q T t _ _ _ C hs K a w U ak (λd Q=>V d (by simp[Bu,Q])) W Y ⟨aa,ab,ac,ad,L,ae⟩ D)
   .exact qGH u (ag R r rd q T t _ _ _ C hs K a w U am (λd Q=>V d (by simp[Bu,Q])) W Y ⟨aa,ab,ac,ad,L,ae⟩ D)
  .cases h
 .cases h
def qHQ{id}{x}(D:qEE E H nt x):qEE E H nt (.block id x):=by
 intro L r rd Q R t ae s af sl hs K a w T q U V W Y aa;simp only[trC]at q;split at q
 .rename_i ag ah ab;simp at q;obtain⟨rfl,rfl⟩:=q;refine qxT (q7B (D L r rd Q R t _ _ _ sl hs _ a w T ab (λd ac=>U d (by simpa[Bu]using ac)) V W Y aa) ?_);rintro e ai w1 ⟨ad,u,A,rfl,h,B⟩;cases ad with
  |normal=>exact⟨.normal,u,A,rfl,h,B⟩
  |exit n=>
   simp only[qPZ]at h;simp only[Ex.to,Exit.inBlock];cases C:zAL n id with
   |true=>rw[C]at h;rw[zk (zP C)];exact⟨.normal,u,A,rfl,h,B⟩
   |false=>rw[C]at h;rw[zj (zCi C)];exact⟨.exit n,u,A,rfl,h,B⟩
  |ret=>exact⟨.ret,u,A,rfl,h,B⟩
  |goto n=>exact⟨.goto n,u,A,rfl,h,B⟩
 .cases q
def qsS{x}(ai:qEE E H nt x):qEE E H nt (.loop x):=by
 intro ae r rd az aA t bb s bc sl hs K a w aB u aC aD aE aF aG;obtain⟨bd,aq⟩:=s;cases aq with
 |nil=>simp[trC]at u
 |cons B aq=>
 simp only[trC]at u;split at u
 .rename_i Q be aH;split at u
  .rename_i aI;simp at u;obtain⟨rfl,rfl⟩:=u;have bf:∀n∈B,n∈Bu Q:=by simpa using aI
   obtain⟨V,aJ,aK,aL,W,aM⟩:=aF;obtain⟨aN,C,bh,aO⟩:=q0K (k:=λaN=>qsQ (Bu Q).eraseDups sl λY=>_) aG;obtain⟨Y,⟨bi,D,aj,J,aa,aP,aQ⟩,aR⟩:=qzE C;obtain⟨af,ar,ak,aT⟩:=aP V w aL
   have au:∀n x,AS Y n=O x->n∉Bu Q/\a.tmps[n]?=O (Ag x):=λn x ai=>by
    obtain⟨C,h⟩:=aR n x ai;exact⟨by simpa using C,W.As n x h⟩
   have al:(D af).length=B.length:=by
    have:=zI List.length ar;rw[qgA,qgA,zBa,zBa]at this;omega
   refine qiL (λm aU aW=>∃x,(D x).length=B.length/\J x/\aa x=m/\R0 ae nt (Bu Q) a.tmps (E6 B (D x) Y) (aj x) aU aW) (aa af) ⟨af,al,ak,rfl,V,aJ,aK,aT,⟨W.size,W.defers,λn x L=>?_,λn _=>rfl⟩,aM⟩ ?_
   .rcases q6J B (D af) Y n x al L with⟨i,C,h⟩|⟨_,h⟩
    .obtain⟨y,am,an⟩:=aO i n C;obtain⟨z,ab,ac⟩:=qHP ar h;rw[am]at ab;cases ab;rw[<-ac];exact W.As n y an
    .exact(au n x h).2
   .rintro m aX w1 ⟨ao,al,ak,rfl,aY⟩;refine q7B (ai ae r rd az (Bu Q) a.tmps _ _ _ _ (aj ao) _ aX w1 aB aH (λd aZ=>aZ) aD aE aY (aQ ao ak)) ?_
    have fin:∀{e ap ag}(R:Ex)(A:Sl)(q:Hs),R.to=e->R0 ae nt (Bu Q) a.tmps A q ap ag->K R A q->Gm ae nt aA t K e ap ag:=λR A q ac T U=>
     ⟨R,A,q,ac,U,T.out (λn L=>aC n (by simpa[Bu]using L)) λn L=>W.off n L⟩
    rintro e ap ag ⟨R,A,q,rfl,U,T⟩;cases R with
    |normal=>
     obtain⟨av,a0,bj,a1⟩:=q0K (k:=λav=>∀V w,Ap V q w->∃y,qCA (D y)=qCA av/\J y/\aa y<aa ao/\Ap V (aj y) w) U;obtain⟨aw,a2,a3,a4,ad,a5⟩:=T;obtain⟨ah,ax,a6,a7,a8⟩:=a0 aw ag a4
     have ay:(D ah).length=B.length:=by
      have:=zI List.length ax;rw[qgA,qgA,zBa,zBa]at this;omega
     refine⟨aa ah,a7,ah,ay,a6,rfl,aw,a2,a3,a8,⟨ad.size,ad.defers,λn x L=>?_,ad.off⟩,a5⟩;rcases q6J B (D ah) Y n x ay L with⟨i,C,h⟩|⟨_,h⟩
     .obtain⟨y,am,an⟩:=a1 i n C;obtain⟨z,ab,ac⟩:=qHP ax h;rw[am]at ab;cases ab;rw[<-ac];exact ad.As n y an
     .obtain⟨a9,ba⟩:=au n x h;rw[ad.off n a9];exact ba
    |exit n=>exact fin (.exit n) A q rfl T U
    |ret=>exact fin .ret A q rfl T U
    |goto n=>exact fin (.goto n) A q rfl T U
  .cases u
 .cases u
end
end Go.Proofs.YtlmhpamhhgogaaaGreat.Sx
namespace Go.Proofs.YtlmhpamhhgogaaaGreat.Sx
open Go.Conc (G)
section
variable{P:zv}{E:Env P}
def qTE(l):(Instr.getLoop l).Calm P:=by unfold Instr.getLoop;exact DF
def q3E(b):(Instr.takeDeferred b).Calm P:=by unfold Instr.takeDeferred;exact DF
def qHL(l):(Instr.beginRound l).Calm P:=by
 unfold Instr.beginRound;refine qDA (qTE _) λr=>qDA (qSB _ _) λ_=>?_;split<;>first|exact trivial|exact qPA _
def qiD(l)(j):(zDG l j).Calm P:=by
 unfold zDG;exact qDA (qTE _) λr=>qDA (qSB _ _) λ_=>trivial
def qVP(l):(Instr.endLoop l).Calm P:=by
 unfold Instr.endLoop;refine qDA (qTE _) λr=>?_;exact DF
def qrL(fn)(tmps)(ps)(assign h)(r):(Instr.enterLoop fn tmps ps assign h r).Calm P:=by
 unfold Instr.enterLoop;dsimp only;split
 .exact qDA (qTE _) λ_=>qDA trivial λ_=>qDA (qTB _) λ_=>trivial
 .exact qDA (qTB _) λ_=>qDA trivial λ_=>qDA (qTB _) λ_=>trivial
def qaJ(fn)(tmps):(results fn tmps).Calm P:=by
 unfold results;refine qDA (qQP (λx=>?_) _) λ_=>?_
 .cases x<;>exact DF
 .exact qIA _
def evs(P:zv)(fn:zA5){h:Type}(s:Sem h)(w:zp):zS Event:=Go.seen P fn (s.events P w #[])
def qVC{fn}{q:Type}{s:Sem q}(h:s.Calm P)(w):CA (evs P fn s w):=by
 have:=Calm.hear (P:=P) h w #[] qdD;rw[zBn]at this;exact this.seen
section
variable{b c:zAm}{a:zDz}{k:F Item}{cs:F zAm}{w w':zp}{main:zO}
def q1M{l}(h:b.roundOf=O l)(q:(Instr.beginRound l).run P w=.ok () w'):
  zAD P main (G (b.atR a (.beginRound::k)) cs) w=.go (G (b.atR a k) cs) w' (lst P (b.atR a (.beginRound::k)) (do Instr.beginRound l;pure .skip) w):=by
 have u:(do Instr.beginRound l;pure Next.skip:Sem Next).run P w=.ok .skip w':=by
  rw[zZ,q];rfl
 have:=qLJ (P:=P) (fr:=b.atR a (.beginRound::k)) (cs:=cs) (s:=(do Instr.beginRound l;pure Next.skip:Sem Next)) u
 have e:zAD P main (G (b.atR a (.beginRound::k)) cs) w=stepG.apply P I (b.atR a (.beginRound::k)) cs zc (do Instr.beginRound l;pure .skip) w:=by
  simp[G,zAD,zBj,zAM,h]
 rw[e,this];rfl
def qEO{l}{v}(h:b.roundOf=O l)(q:b.kind=.normal)(u:(zDG l zc).run P w=.ok v w'):zAD P main (G (b.atR a []) (c::cs)) w=.go (G (c.finish v) cs) w' (evs P b.fn (zDG l zc) w):=by
 simp[G,zAD,zBj,zAM,h,q,zBn,u,doReturn,zBF,evs]
def qDO{l}{v}(h:b.roundOf=O l)(q:b.kind=.normal)(u:(zDG l (O .ret)).run P w=.ok v w'):zAD P main (G (b.atR a (.code .ret::k)) (c::cs)) w=.go (G (c.finish v) cs) w' (evs P b.fn (zDG l (O .ret)) w):=by
 simp[G,zAD,zBj,zAM,h,q,zBn,u,doReturn,zBF,evs]
def qyM{l id}{v}(h:b.roundOf=O l)(q:b.kind=.normal)(u:exitTo id k=zc)(A:(zDG l (O (.exit id))).run P w=.ok v w'):zAD P main (G (b.atR a (.code (.exit id)::k)) (c::cs)) w=.go (G (c.finish v) cs) w' (evs P b.fn (zDG l (O (.exit id))) w):=by
 simp[G,zAD,zBj,zAM,h,q,u,zBn,A,doReturn,zBF,evs]
def qxM{l t}{v}(h:b.roundOf=O l)(q:b.kind=.normal)(u:gotoIn t k=zc)(A:(zDG l (O (.goto t))).run P w=.ok v w'):zAD P main (G (b.atR a (.code (.goto t)::k)) (c::cs)) w=.go (G (c.finish v) cs) w' (evs P b.fn (zDG l (O (.goto t))) w):=by
 simp[G,zAD,zBj,zAM,h,q,u,zBn,A,doReturn,zBF,evs]
def qNK{l}{jump}(h:(Instr.endLoop l).run P w=.ok jump w'):zAD P main (G (b.atR a (.endRangeFunc l::k)) cs) w=.go (G (b.atR a ((jump.map Item.code).toList++k)) cs) w' (evs P b.fn (Instr.endLoop l) w):=by
 simp[G,zAD,zBj,zAM,zBn,h,zBF,evs]
def qFO{g}{ps}{assign h}{l}{mark}{w₁ q}{f}{args}
  (A:(Instr.enterLoop b.fn a.tmps ps assign h b.roundOf).run P w=.ok (l,mark) w₁)
  (B:(do let d <-resolve a.eval (rangeCall g l) 0;invoke d.target d.args:Sem Next).run P w₁=.ok (.enter f args) q):
  zAD P main (G (b.atR a (.code (.rangeFunc g ps assign h)::k)) cs) w=.go (G (zAR P f args .normal) (b.atR {a with defers:=mark++a.defers} (.inRangeFunc l::k)::cs)) q
   (evs P b.fn (Instr.enterLoop b.fn a.tmps ps assign h b.roundOf) w++lst P (b.atR {a with defers:=mark++a.defers} (.inRangeFunc l::k)) (do let d <-resolve a.eval (rangeCall g l) 0;invoke d.target d.args) w₁):=by
 have u:=Frame.eval_atR b {a with defers:=mark++a.defers} (.inRangeFunc l::k);simp only[zAM]at u;have:=qvH (P:=P) (fr:=b.atR {a with defers:=mark++a.defers} (.inRangeFunc l::k)) (cs:=cs) (λ_ _ _ _ e=>by simp[zAM]at e) B;simp only[zAM]at this;simp only[G,zAD,zBj,zAM,zBn,A,u,evs];rw[show(({tmps:=a.tmps,defers:=mark++a.defers}:zDz).eval)=a.eval from by funext x;cases x<;>rfl];rw[this];rfl
def qPJ{fr}{r}{xs}{h calls}(hm:fr.mode=.returning)(hd:fr.defers={target:=.collected r,args:=xs}::h)(q:(Instr.takeDeferred r).run P w=.ok calls w'):zAD P main (G fr cs) w=.go (G {fr with defers:=calls++h} cs) w' (evs P fr.fn (Instr.takeDeferred r) w):=by
 simp[G,zAD,unwind,hm,hd,zBn,q,zBF,evs]
def q2W{fr}{fn}{v}(hm:fr.mode=.returning)(hd:fr.defers=[])(h:fr.kind=.normal)(q:P.funcs[fr.fn]?=O fn)(u:(results fn fr.tmps).run P w=.ok v w):zAD P main (G fr (c::cs)) w=.go (G (c.finish v) cs) w (evs P fr.fn (results fn fr.tmps) w):=by
 simp[G,zAD,unwind,doReturn,hm,hd,h,q,zBn,u,zBF,evs]
def qUR{fr}{k}{h xs}{q}{args}(hm:fr.mode=.returning)(hd:fr.defers={target:=.fn (.func k) h,args:=xs}::q)(u:(callFunc k (xs++h)).run P w=.ok (.enter k args) w):zAD P main (G fr cs) w=.go (G (zAR P k args .deferred) ({fr with defers:=q}::cs)) w (evs P fr.fn (callFunc k (xs++h)) w):=by
 simp[G,zAD,unwind,hm,hd,callDeferred,invoke,zBn,u,zBF,evs]
def qNU{fr}{fn}{v}(hm:fr.mode=.returning)(hd:fr.defers=[])(h:fr.kind=.deferred)(q:P.funcs[fr.fn]?=O fn)(u:(results fn fr.tmps).run P w=.ok v w)(A:c.mode=.returning):zAD P main (G fr (c::cs)) w=.go (G c cs) w (evs P fr.fn (results fn fr.tmps) w):=by
 simp[G,zAD,unwind,doReturn,hm,hd,h,q,zBn,u,zBF,evs,A]
end
def q1S(E:Env P)(l:Z)(R:Ending->zp->Prop):Exit->zDz->zp->Prop
 |.normal,_,w=>∀d,∃v w',(zDG l zc).run P (w.at d)=.ok v w'/\B8 E.N (w.at d) w'/\R (.returned v) w'
 |.ret,_,w=>∀d,∃v w',(zDG l (O .ret)).run P (w.at d)=.ok v w'/\B8 E.N (w.at d) w'/\R (.returned v) w'
 |.exit id,_,w=>∀d,∃v w',(zDG l (O (.exit id))).run P (w.at d)=.ok v w'/\B8 E.N (w.at d) w'/\R (.returned v) w'
 |.goto t,_,w=>∀d,∃v w',(zDG l (O (.goto t))).run P (w.at d)=.ok v w'/\B8 E.N (w.at d) w'/\R (.returned v) w'
 |_,_,_=>zX
def qVO{l}{f}{tmps}{assign C}{w}{R}(h:assign.wpX E (O l) (Exit.then (λQ w₁=>∀d,∃D,(Instr.beginRound l).run P (w₁.at d)=.ok () D/\B8 E.N (w₁.at d) D/\C.wpX E (O l) (q1S E l R) Q D) (λ_ _ _=>zX)) {tmps:=tmps,defers:=[]} w):DR E l f tmps assign C w R:=by
 intro c cs H;let b:zAm:={(default:zAm)with fn:=f,kind:=.normal,roundOf:=O l}
 have U:Frame.round l f tmps assign C .normal=b.atR {tmps:=tmps,defers:=[]} [.code assign,.beginRound,.code C]:=by
  simp[Frame.round,zAM,b]
 rw[U];refine h b [.beginRound,.code C] (c::cs) rfl λe Q w₁ q=>?_;cases e with
 |normal=>
  refine .one rfl λd=>?_;obtain⟨D,V,u,W⟩:=q d;refine⟨_,D,_,q1M rfl V,u,qRF (qDA (qHL _) λ_=>qIA _) _,W b [] (c::cs) rfl λe Y w' q=>?_⟩;cases e with
  |normal=>
   refine .one rfl λd=>?_;obtain⟨v,w3,A,u,B⟩:=q d;exact⟨_,w3,_,qEO rfl rfl A,u,qVC (qiD _ _) _,H v w3 B⟩
  |ret=>
   refine λT=>.one rfl λd=>?_;obtain⟨v,w3,A,u,B⟩:=q d;exact⟨_,w3,_,qDO rfl rfl A,u,qVC (qiD _ _) _,H v w3 B⟩
  |exit id=>
   refine λT L=>.one rfl λd=>?_;obtain⟨v,w3,A,u,B⟩:=q d;exact⟨_,w3,_,qyM rfl rfl L A,u,qVC (qiD _ _) _,H v w3 B⟩
  |goto t=>
   refine λT L=>.one rfl λd=>?_;obtain⟨v,w3,A,u,B⟩:=q d;exact⟨_,w3,_,qxM rfl rfl L A,u,qVC (qiD _ _) _,H v w3 B⟩
  |panic _=>trivial
  |outgrown=>trivial
 |exit id=>exact q.elim
 |goto t=>exact q.elim
 |ret=>exact q.elim
 |panic _=>trivial
 |outgrown=>trivial
def q6S(E:Env P)(r:zy Z)(l:Z)(Q:Exit->zDz->zp->Prop)(a':zDz):Ending->zp->Prop
 |.returned _,q=>∀d,∃jump h,(Instr.endLoop l).run P (q.at d)=.ok jump h/\B8 E.N (q.at d) h/\
   (match jump with
    |none=>Q .normal a' h
    |some c=>c.wpX E r Q a' h)
 |_,_=>True
def qrM{r}{g}{ps}{assign A}{Q}{a}{w}
  (h:∀fn d,∃(l:Z)(mark:F Deferred)(w₁:zp)(f:zA5)(args:zS zg)(q:zp),
   (Instr.enterLoop fn a.tmps ps assign A r).run P (w.at d)=.ok (l,mark) w₁/\
   (do let d <-resolve a.eval (rangeCall g l) 0;invoke d.target d.args:Sem Next).Calm P/\
   (do let d <-resolve a.eval (rangeCall g l) 0;invoke d.target d.args:Sem Next).run P w₁=.ok (.enter f args) q/\B8 E.N (w.at d) q/\
   BI E f args q (q6S E r l Q {a with defers:=mark++a.defers})):
  (Code.rangeFunc g ps assign A).wpX E r Q a w:=by
 intro b k cs D B;subst D;refine .one rfl λd=>?_;obtain⟨l,mark,w₁,f,args,q,H,L,R,u,T⟩:=h b.fn d;refine⟨_,q,_,qFO H R,u,(qVC (qrL ..) _).app (qRF L _),T _ cs λv w' U=>?_⟩;rw[finish_atR_inRangeFunc];refine .one rfl λd=>?_;obtain⟨jump,V,W,u,C⟩:=U d;refine⟨_,V,_,qNK W,u,qVC (qVP _) _,?_⟩;cases jump with
 |none=>exact B .normal _ _ C
 |some c=>exact C b k cs rfl B
def E5(E:Env P)(f:zA5)(args:zS zg)(w:zp)(R:zp->Prop):Prop:=
 ∀(c:zAm)(cs:F zAm),c.mode=.returning->(∀w',R w'->E.G (G c cs) w')->E.G (G (zAR P f args .deferred) (c::cs)) w
def E5.mono{f}{args}{w}{R q}(h:E5 E f args w R)(u:∀w',R w'->q w'):E5 E f args w q:=λc cs A k=>h c cs A λw' B=>k w' (u _ B)
def qkF(E:Env P)(fn:Func)(tmps:zS zg)(R:Ending->zp->Prop):F Deferred->zp->Prop
 |[],w=>∀d,∃v,(results fn tmps).run P (w.at d)=.ok v (w.at d)/\R (.returned v) (w.at d)
 |x::q,w=>(∀d,∃r w',x.target=.collected r/\(Instr.takeDeferred r).run P (w.at d)=.ok [] w'/\B8 E.N (w.at d) w'/\qkF E fn tmps R q w')\/
   ∃k h args,x.target=.fn (.func k) h/\(callFunc k (x.args++h)).Calm P/\(∀w,(callFunc k (x.args++h)).run P w=.ok (.enter k args) w)/\E5 E k args w λw'=>qkF E fn tmps R q w'
def qkH{fn}{R}:∀(h:F Deferred)(w:zp)(fr c:zAm)(cs:F zAm),fr.mode=.returning->fr.defers=h->P.funcs[fr.fn]?=O fn->fr.kind=.normal->qkF E fn fr.tmps R h w->(∀v w',R (.returned v) w'->E.G (G (c.finish v) cs) w')->E.G (G fr (c::cs)) w
 |[],w,fr,c,cs,hm,A,B,C,q,D=>.one rfl λd=>by
  obtain⟨v,H,L⟩:=q d;exact⟨_,_,_,q2W hm A C B H,.refl _,qVC (qaJ ..) _,D _ _ L⟩
 |x::h,w,fr,c,cs,hm,A,B,C,q,D=>.one rfl λd=>by
  obtain⟨t,aa⟩:=x;rcases q with q|⟨k,ab,args,u,Q,T,U⟩
  .obtain⟨r,w',u,H,V,W⟩:=q d;simp only at u;subst u;exact⟨_,_,_,qPJ hm A H,V,qVC (q3E _) _,qkH h w' {fr with defers:=[]++h} c cs hm rfl B C W D⟩
  .simp only at u;subst u;exact⟨_,_,_,qUR hm A (T _),.refl _,qVC Q _,Env.G.at (U {fr with defers:=h} (c::cs) hm λw' Y=>qkH h w' {fr with defers:=h} c cs hm rfl B C Y D) d⟩
def qqN{f}{fn}{c}{args}{w}{R}(B:P.funcs[f]?=O fn)(D:fn.body=O c)
  (h:c.wpX E zc (λe a w=>match e with
   |.normal=>a.defers=[]/\∀d,∃v,(results fn a.tmps).run P (w.at d)=.ok v (w.at d)/\R (w.at d)
   |.ret=>a.defers=[]/\∀d,∃v,(results fn a.tmps).run P (w.at d)=.ok v (w.at d)/\R (w.at d)
   |_=>zX) {tmps:=args++zAP (fn.ntmps-args.size) zAU,defers:=[]} w):E5 E f args w R:=by
 intro C cs H L;let b:zAm:={(default:zAm)with fn:=f,kind:=.deferred,roundOf:=zc}
 have Q:zAR P f args .deferred=b.atR {tmps:=args++zAP (fn.ntmps-args.size) zAU,defers:=[]} [.code c]:=by
  simp[zAR,zAM,B,D,b]
 rw[Q]
 have out:∀(q:zAm)(w:zp),q.mode=.returning->q.defers=[]->q.kind=.deferred->q.fn=f->(∀d,∃v,(results fn q.tmps).run P (w.at d)=.ok v (w.at d)/\R (w.at d))->E.G (G q (C::cs)) w:=λq w hm T U V A=>.one rfl λd=>by
  obtain⟨v,A,W⟩:=A d;exact⟨_,_,_,qNU hm T U (by rw[V];exact B) A H,.refl _,qVC (qaJ ..) _,L _ W⟩
 refine h b [] (C::cs) rfl λe Y w' u=>?_;cases e with
 |normal=>exact .quiet rfl (λ_=>qTR rfl) (out _ _ rfl u.1 rfl rfl u.2)
 |ret=>exact λaa=>.quiet rfl (λ_=>q0L rfl) (out _ _ rfl u.1 rfl rfl u.2)
 |exit id=>exact u.elim
 |goto l=>exact u.elim
 |panic _=>trivial
 |outgrown=>trivial
def qJL(E:Env P)(fn:Func)(R:Ending->zp->Prop):Exit->zDz->zp->Prop
 |.normal,a,w|.ret,a,w=>qkF E fn a.tmps R a.defers w
 |_,_,_=>zX
def qgG{f}{fn}{c}{args}{w}{R}(u:P.funcs[f]?=O fn)(B:fn.body=O c)(h:c.wpX E zc (qJL E fn R) {tmps:=args++zAP (fn.ntmps-args.size) zAU,defers:=[]} w):BI E f args w R:=by
 intro C cs A;let b:zAm:={(default:zAm)with fn:=f,kind:=.normal,roundOf:=zc}
 have D:zAR P f args .normal=b.atR {tmps:=args++zAP (fn.ntmps-args.size) zAU,defers:=[]} [.code c]:=by
  simp[zAR,zAM,u,B,b]
 rw[D];refine h b [] (C::cs) rfl λe H w' q=>?_;cases e with
 |normal=>exact .quiet rfl (λ_=>qTR rfl) (qkH _ _ _ _ _ rfl rfl u rfl q A)
 |ret=>exact λL=>.quiet rfl (λ_=>q0L rfl) (qkH _ _ _ _ _ rfl rfl u rfl q A)
 |exit id=>exact q.elim
 |goto l=>exact q.elim
 |panic _=>trivial
 |outgrown=>trivial
def ScX(E:Env P)(r:zy Z)(c:zDE)(Q:Exit->zDz->zp->Prop):Z->Z->zDz->zp->Prop
 |0,_,_,_=>zX
 |n+1,l,a,w=>∃h,zDD c l=O h/\h.wpX E r (λe a w=>match e with
  |.goto q=>ScX E r c Q n q a w
  |e=>Q e a w) a w
def ScQ(E:Env P)(r:zy Z)(c:zDE)(Q:Exit->zDz->zp->Prop)(n:Z):Exit->zDz->zp->Prop:=λe a w=>match e with
 |.goto l=>ScX E r c Q n l a w
 |e=>Q e a w
def qfW{r}{c}{Q}:∀{n l:Z}{a:zDz}{w:zp},ScX E r c Q n l a w->ScX E r c Q (n+1) l a w
 |0,_,_,_,h=>h.elim
 |n+1,l,a,w,⟨q,u,A⟩=>⟨q,u,q7B A λe a w h=>by
  cases e with
  |goto B=>exact qfW h
  |_=>exact h⟩
def q2P{r}{c}{Q}:∀(n:Z){x:zDE}{a:zDz}{w:zp},x.wpX E r (ScQ E r c Q n) a w->∀(b:zAm)(k:F Item)(cs:F zAm),b.roundOf=r->(∀e a' w',Q e a' w'->qwd E b k cs e a' w')->E.G (G (b.atR a (.code x::.inScope c::k)) cs) w:=by
 intro n
 induction n with
 |zero=>
  intro x a w B b k cs A q;refine B b (.inScope c::k) cs A λe C D h=>?_;cases e with
  |normal=>exact .quiet rfl (λ_=>q1L) (q .normal _ _ h)
  |exit id=>exact λu e=>q (.exit id) _ _ h u (by rw[e];rfl)
  |goto l=>exact h.elim
  |ret=>exact λu=>q .ret _ _ h u
  |panic H=>trivial
  |outgrown=>trivial
 |succ n L=>
  intro x a w B b k cs A q;refine B b (.inScope c::k) cs A λe C D h=>?_;cases e with
  |normal=>exact .quiet rfl (λ_=>q1L) (q .normal _ _ h)
  |exit id=>exact λu e=>q (.exit id) _ _ h u (by rw[e];rfl)
  |goto l=>
   obtain⟨R,T,U⟩:=h;have V:gotoIn l (.inScope c::k)=O (.code R::.inScope c::k):=by simp[gotoIn,T]
   exact λu e=>.quiet rfl (λ_=>qfZ (e.trans V)) (L U b k cs A q)
  |ret=>exact λu=>q .ret _ _ h u
  |panic H=>trivial
  |outgrown=>trivial
def qvT{r}{c}{Q}(n){a}{w}(h:c.wpX E r (ScQ E r c Q n) a w):(Code.scope c).wpX E r Q a w:=λb k cs q u=>
 .quiet rfl (λ_=>q1W) (q2P n h b k cs q u)
end
end Go.Proofs.YtlmhpamhhgogaaaGreat.Sx
namespace Go.Proofs.YtlmhpamhhgogaaaGreat.Sx
open Go.RowKit
section
variable{P:zv}{E:Env P}{H:qNA}{nt:Z}
def Ap.put{fr:Fr}{hs}{w}(h:Ap fr hs w){l1 q}{id l}{r}{j j'}{nx}(u:hs.rs=l1++.lp id l r j::q):Ap fr ⟨hs.g,l1++.lp id l r j'::q,nx,hs.lo⟩ (w.putObj l (.loop (qQI r j'))):=by
 have A:w.heap[l]?=O (.loop (qQI r j)):=h.res (.lp id l r j) (by rw[u];simp);have B:l<w.heap.size:=(zAb.1 A).1;refine h.upd u rfl rfl rfl se (λk _ C=>World.putObj_heap_other (by simpa[Res.bk]using C)) (World.putObj_heap_same B) (λb D=>.inl D) so
def Ap.HH{fr:Fr}{hs}{w}(h:Ap fr hs w){l1 q}{id l}{r}{j}(u:hs.rs=l1++.lp id l r j::q):w.heap[l]?=O (.loop (qQI r j)):=
 h.res (.lp id l r j) (by rw[u];simp)
def Ap.drop{fr:Fr}{hs}{w}(h:Ap fr hs w){l1 u}{id l}{r}{j}{nx}(B:hs.rs=l1++.lp id l r j::u)(o):Ap fr ⟨hs.g,l1++u,nx,hs.lo⟩ (w.putObj l (.loop o)):=by
 have T:=h.HH B;have ab:l<w.heap.size:=(zAb.1 T).1;have q:=h.sub (rs:=l1++u) (nx:=nx) (by rw[B];exact zCw (zCa _) (zCh _ _))
 have U:∀b∈Hs.bks ⟨hs.g,l1++u,nx,hs.lo⟩,b≠l:=λb C V=>by
  have L:=h.nod;have W:hs.bks=l1.flatMap Res.bk++([l]++u.flatMap Res.bk):=by simp[Hs.bks,B,Res.bk]
  rw[W]at L;obtain⟨ac,Y,d1⟩:=zBk.1 L;obtain⟨ad,ae,d2⟩:=zBk.1 Y;have aa:b∈l1.flatMap Res.bk++u.flatMap Res.bk:=by simpa[Hs.bks]using C
  subst V;rcases zN.1 aa with D|D
  .exact d1 b D b se rfl
  .exact d2 b se b D rfl
 have Q:l∈hs.bks:=zBM.2 ⟨.lp id l r j,by rw[B];simp,so⟩;refine⟨⟨zY h.AJ.1 se,λn A=>?_⟩,⟨h.frm.os,h.frm.tape,h.frm.output,zY h.frm.size se,λn A=>?_⟩,λx R=>?_,q.nod,q.fre,q.fz,q.own,zY q.low.1 se,q.low.2⟩
 .exact(World.putObj_heap_other (k:=n) (r:=l) λe=>(h.fre l Q).1 (e▸A)).trans (h.AJ.2 n A)
 .exact(World.putObj_heap_other (k:=n) (r:=l) λe=>(h.fre l Q).2 (e▸A)).trans (h.frm.block n A)
 .exact Res.holds_of (λb C=>World.putObj_heap_other (U b (zBM.2 ⟨x,R,C⟩))) (q.res x R)
def qtS{aa ab}(az:qEE E H nt aa)(ac:qEE E H nt ab){ad fr:Fr}(aA:ad.has E)(ai:ad.le fr){Y}(aj:FD E ad Y){a' L}{s T ak}(aB:trC P nt aa s=O (a',T))(aC:trC P nt ab T=O (L,ak)){ps}(aD:∀n∈ps.toList,n<nt){sl}{t}(aE:t.size=nt)(aF:∀n x,AS sl n=O x->t[n]?=O (Ag x)){rr}(aG:rr.tmps=t)(al:rr.params=ps)(aH:rr.assign=aa)(aI:rr.body=ab)(id l):FD E fr (qCY id l rr ps.toList sl (S P H a' I Y) (S P H L I Y) Y):=by
 intro Q am aJ args hs K B lp an j w ao ap;unfold qCY at B;split at B
 .split at B
  .rename_i a4 a5 j' aq;rw[ao]at aq;cases aq;obtain⟨⟨rfl,rfl⟩,B⟩:=B;have aK:Sim nt ⟨[],ps.toList++(Bu a'++Bu L),t⟩ sl ⟨t,[]⟩:=⟨aE,rfl,aF,λ_ _=>rfl⟩;obtain⟨aL,ar,aM,aN⟩:=qSJ B aD (λn aO=>by simp[aO]) aK;refine⟨by rw[aL,al];simp,?_⟩
   have aP:q8F an (qCA args).toArray=(ps.toList.zip (qCA args)).foldl (λtmps(p,v)=>tmps.setIfInBounds p v) t:=by
    unfold q8F;rw[al,aG,<-zDk];simp
   rw[aP,aH,aI];have au:=Fr.trans ai am;have av:=aj.up au;have aQ:R0 Q nt (ps.toList++(Bu a'++Bu L)) t ar hs ⟨(ps.toList.zip (qCA args)).foldl (λtmps(p,v)=>tmps.setIfInBounds p v) t,[]⟩ w:=⟨Q,[],Fr.refl _,ap,aN,[],rfl,.nil,λb ac=>by cases ac⟩;have C:=aA.up au;refine qVO ?_;refine q7B (az Q (O lp) I Y _ t a' s T ar hs _ _ w C aB (λd ae=>by simp[ae]) se av aQ aM) ?_;rintro e a6 a7 ⟨af,aR,aT,rfl,U,aU⟩;cases af with
   |normal=>
    obtain⟨a8,a9,ba,aw,aW⟩:=q0B U;obtain⟨aX,aY,ax,R,aZ,a0⟩:=aU;intro h;have R:=R.at h;have a1:=C.up ax;have ay:=R.put (j':=.busy) (nx:=aT.nx) aw;refine⟨_,run_beginRound (R.HH aw) rfl,R.keep ay a1,?_⟩;refine q7B (ac Q (O lp) I Y (ps.toList++(Bu a'++Bu L)) t L T ak aR _ _ _ _ C aC (λd ae=>by simp[ae]) se av ⟨aX,aY,ax,ay,aZ,a0⟩ aW) ?_;rintro e bb bc ⟨af,bd,V,rfl,W,a2⟩;obtain⟨be,bf,a3,q,bh,bi⟩:=a2;have q:=q.EQ a3;cases af with
    |normal=>
     obtain⟨ag,ah,A,u,D⟩:=q0B W;exact λh=>⟨_,_,run_endRound zc ((q.at h).HH u),(q.at h).keep ((q.at h).put (nx:=V.nx) (r:=A) (j:=.busy) (j':=.ready) u) C,.b I,_,rfl,(q.at h).put (r:=A) (j:=.busy) (j':=.ready) u,D⟩
    |exit n=>
     obtain⟨ag,ah,A,u,D⟩:=q0B W;exact λh=>⟨_,_,run_endRound _ ((q.at h).HH u),(q.at h).keep ((q.at h).put (nx:=V.nx) (r:=A) (j:=.busy) (j':=.jump (.exit n)) u) C,.b zb,_,rfl,(q.at h).put (r:=A) (j:=.busy) (j':=.jump (.exit n)) u,D⟩
    |ret=>
     obtain⟨ag,ah,A,u,D⟩:=q0B W;exact λh=>⟨_,_,run_endRound _ ((q.at h).HH u),(q.at h).keep ((q.at h).put (nx:=V.nx) (r:=A) (j:=.busy) (j':=.jump .ret) u) C,.b zb,_,rfl,(q.at h).put (r:=A) (j:=.busy) (j':=.jump .ret) u,D⟩
    |goto n=>
     obtain⟨ag,ah,A,u,D⟩:=q0B W;exact λh=>⟨_,_,run_endRound _ ((q.at h).HH u),(q.at h).keep ((q.at h).put (nx:=V.nx) (r:=A) (j:=.busy) (j':=.jump (.goto n)) u) C,.b zb,_,rfl,(q.at h).put (r:=A) (j:=.busy) (j':=.jump (.goto n)) u,D⟩
   |exit n=>exact U.elim
   |ret=>exact U.elim
   |goto n=>exact U.elim
  .exact B.elim
 .exact aj Q (Fr.trans ai am) aJ args hs K B lp an j w ao ap
def qrS(aB:∀fr:Fr,fr.has E->CC E fr H){g}{ps}{ah body}(aC:qEE E H nt ah)(h:qEE E H nt body):qEE E H nt (.rangeFunc g ps ah body):=by
 intro aD r rd aa aE t ba s bb sl hs K a w ai L bc aF aG ab Q;simp only[trC]at L;split at L
 .rename_i ao bd aH;split at L
  .rename_i ap be aI;split at L
   .rename_i aJ;simp at L;obtain⟨rfl,rfl⟩:=L;cases rd with
    |true=>exact Q.elim
    |false=>
    obtain rfl:=aF rfl;obtain⟨fr,aK,ac,q,U,aL⟩:=ab;obtain⟨aq,B,aM⟩:=Opd.AC (k:=λaq=>qoZ P H aq ps.toList (S P H ao I aa) (S P H ap I aa) aa sl hs K) Q U.As;unfold qoZ at B;split at B
    .rename_i k first ad
     obtain⟨ar,B⟩:=B
     have B:qJC hs.nx λi aN=>∀(l:Z)(rr:Loop),H (qCY i l rr ps.toList sl (S P H ao I aa) (S P H ap I aa) aa) k (first++[.yl i l]++ad) ⟨hs.g,.lp i l rr .ready::hs.rs,aN,hs.lo⟩ λ_ au=>
       qZT i l au.rs λj aO=>Lf K sl au j aO:=by cases hs;exact B
     obtain⟨R,aP,B⟩:=qNB B;refine qrM ?_;intro fn av;have q:=q.at av;have aQ:=q;generalize w.at av=w at q aQ⊢;obtain⟨rr,ae⟩:∃rr:Loop,rr={state:=.ready,pending:=zc,fn,tmps:=a.tmps,params:=ps,assign:=ah,body,defers:=w.heap.size}:=⟨_,rfl⟩;have aR:qQI rr .ready=rr:=by rw[ae];rfl
     obtain⟨w1,aj⟩:∃w1,w1=w.alloc (.deferred (O [])):=⟨_,rfl⟩;obtain⟨C,ak⟩:∃C,C=w1.alloc (.loop rr):=⟨_,rfl⟩;have aT:w1.heap.size=w.heap.size+1:=by rw[aj];simp
     have aw:Below w.heap.size w w1:=aj▸Below.AT w _;have aU:w1.heap[w.heap.size]?=O (.deferred (O [])):=aj▸World.alloc_heap_new w _
     have aW:∀n,(fr.pr n\/n=w.heap.size)->n<w1.heap.size:=λn D=>by
      rcases D with D|rfl
      .have:=fr.wf n D;have:=q.frm.size;omega
      .omega
     obtain⟨V,W⟩:∃V:Fr,V=Fr.mk w1 (λn=>fr.pr n\/n=w.heap.size) (λn=>fr.g0 n/\n≠w.heap.size) aW:=⟨_,rfl⟩;have u:=q.agree aw
     have al:fr.le V:=by
      refine⟨λbf hW=>?_,λn D=>by rw[W];exact⟨.inl D,λQ=>Q.1⟩⟩;subst W;refine⟨hW.os.trans u.frm.os,hW.tape.trans u.frm.tape,hW.output.trans u.frm.output,zY u.frm.size hW.size,λn D=>?_⟩;exact(hW.block n (.inl D)).trans (u.frm.block n D)
     have aX:Ap V hs w1:=by
      refine⟨u.AJ,?_,u.res,u.nod,λb h=>⟨(u.fre b h).1,?_⟩,λn A ag=>?_,λn aY ag=>?_,u.low⟩
      .rw[W];exact⟨rfl,rfl,rfl,zH _,λ_ _=>rfl⟩
      .rw[W];rintro(A|rfl)
       .exact(u.fre b h).2 A
       .exact Nat.lt_irrefl _ (q.lt h)
      .rw[W]at A⊢;rcases A with A|rfl
       .exact⟨q.fz n A ag,λe=>by have:=fr.wf n A;have:=q.frm.size;omega⟩
       .have:=hs.g.wf _ ag;have:=q.AJ.1;omega
      .rw[W];rintro(A|rfl)
       .exact q.own n aY ag A
       .have:=hs.g.wf _ ag;have:=q.AJ.1;omega
     have aZ:Ap V ⟨hs.g,.lp R w1.heap.size rr .ready::hs.rs,aP,hs.lo⟩ C:=by
      refine aX.Ep (ak▸Below.AT w1 _) (r:=.lp R w1.heap.size rr .ready) ?_ (λb h=>?_) so
      .show C.heap[w1.heap.size]?=O (.loop (qQI rr .ready));rw[aR,ak];exact World.alloc_heap_new w1 _
      .simp[Res.bk]at h;omega
     have a0:=qtS (P:=P) (E:=E) (H:=H) (nt:=nt) aC h ai (Fr.trans ac al) aG aH aI (ps:=ps) (λn D=>zd (zAs.1 aJ n D)) U.size U.As (rr:=rr) (by rw[ae]) (by rw[ae]) (by rw[ae]) (by rw[ae]) R w1.heap.size;have a1:=aB V (ai.up (Fr.trans ac al)) _ a0 _ _ _ _ (B w1.heap.size rr) C aZ
     have a2:(invoke (.fn (.func k) (qCA ad).toArray) (qCA (first++[.yl R w1.heap.size])).toArray).run P C=.ok (.enter k (qCA (first++[.yl R w1.heap.size]++ad)).toArray) C:=by
      simp only[invoke];have:=qpB ar ((qCA (first++[.yl R w1.heap.size])).toArray++(qCA ad).toArray) C;rw[this];simp[qgA]
     have ax:resolve a.eval (rangeCall g w1.heap.size) 0=pure {target:=.fn (.func k) (qCA ad).toArray,args:=(qCA (first++[.yl R w1.heap.size])).toArray}:=by
      simp only[resolve,aM];simp[Ag,qgA,zBH,Act.eval]
     obtain⟨bh,a3,a4,_⟩:=id ar;refine⟨w1.heap.size,[mkD w.heap.size],C,k,(qCA (first++[.yl R w1.heap.size]++ad)).toArray,C,?_,?_,?_,?_,?_⟩
     .have:=run_enterLoop_outer (P:=P) (w:=w) fn a.tmps ps ah body;rw[ak,ae,aT];rw[<-aj]at this;exact this
     .rw[ax];exact qkD a3 a4 _
     .rw[ax];exact a2
     .exact qLM (q.N (ai.up ac)) (aw.trans (ak▸(Below.AT w1 _).mono sa))
     .refine a1.mono ?_;rintro e w3 ⟨v,am,rfl,Y,T⟩ d3;have Y:=Y.at d3;generalize w3.at d3=w3 at Y⊢;obtain⟨a5,a6,bi,j,an,T⟩:=qrD T;have ay:=Y.HH an
      have ab:∀(o:Loop),R0 aD nt aE t sl ⟨am.g,a5++a6,am.nx,am.lo⟩ {a with defers:=[mkD w.heap.size]++a.defers} (w3.putObj w1.heap.size (.loop o)):=λo=>by
       refine⟨V,mkD w.heap.size::aK,Fr.trans ac al,Y.drop an o,⟨U.size,by simp[U.defers],U.As,U.off⟩,?_⟩;obtain⟨bs,a7,a8,af⟩:=aL;refine⟨w.heap.size::bs,by rw[a7];rfl,zBo.2 ⟨λa9=>?_,a8⟩,λb h=>?_⟩
       .have:=fr.wf _ (af _ a9).2.2.1;have:=q.frm.size;omega
       .rw[W];rcases zs.1 h with rfl|h
        .exact⟨λA=>by have:=fr.wf _ (ac.2 _ A).1;have:=q.frm.size;omega,λQ=>Q.2 rfl,.inr rfl,aU⟩
        .exact⟨(af b h).1,λQ=>(af b h).2.1 Q.1,.inl (af b h).2.2.1,(u.frm.block b (af b h).2.2.1).trans (af b h).2.2.2⟩
      have az:∀o:Loop,B8 E.N w3 (w3.putObj w1.heap.size (.loop o)):=λo=>Y.keep (Y.drop (nx:=am.nx) an o) (ai.up (Fr.trans ac al));cases j with
      |ready=>exact⟨zc,_,run_endLoop ay (by simp[qQI]),az _,.normal,sl,_,rfl,T,ab _⟩
      |busy=>exact T.elim
      |jump aA=>
       refine⟨O aA.code,_,run_endLoop ay (by simp[qQI]),az _,?_⟩;cases aA with
       |normal=>exact T.elim
       |exit n=>exact qHR ⟨.exit n,sl,_,rfl,T,ab _⟩
       |ret=>exact qqM ⟨.ret,sl,_,rfl,T,ab _⟩
       |goto n=>exact qGR ⟨.goto n,sl,_,rfl,T,ab _⟩
    .exact B.elim
   .cases L
  .cases L
 .cases L
end
def qzS{P}{nt}:∀{c:zDE}{s A:F (F Z×OI)×F (F Z)}{b:By}{l:Z},trC P nt c s=O (b,A)->(∀r,q5F b l=O r->∃rest t,zDD c l=O rest/\trC P nt rest t=O (r,A))/\(q5F b l=zc->zDD c l=zc):=by
 intro c
 induction c with
 |seq x y U V=>
  intro s A b l h;simp only[trC]at h;split at h
  .rename_i ah ai W;split at h
   .rename_i aj Y Q;simp at h;obtain⟨rfl,rfl⟩:=h;obtain⟨aa,R⟩:=U (l:=l) W;obtain⟨ab,ac⟩:=V (l:=l) Q;constructor
    .intro r q;simp only[q5F]at q;split at q
     .rename_i ad ae;cases q;obtain⟨rest,t,B,C⟩:=aa ad ae;exact⟨.seq rest y,t,by simp only[zDD,B],by simp only[trC,C,Q]⟩
     .rename_i u;obtain⟨rest,t,B,C⟩:=ab r q;exact⟨rest,t,by simp only[zDD,R u,B],C⟩
    .intro u;simp only[q5F]at u;split at u
     .cases u
     .rename_i af;simp only[zDD,R af,ac u]
   .cases h
  .cases h
 |label m=>
  intro s A b l h;simp[trC]at h;obtain⟨rfl,rfl⟩:=h;constructor
  .intro r q;simp only[q5F]at q;split at q
   .rename_i D;cases q;exact⟨.skip,s,by simp only[zDD,D,zBA],by simp[trC]⟩
   .cases q
  .intro u;simp only[q5F]at u;split at u
   .cases u
   .rename_i D;simp only[zDD,D];rfl
 |region id ak d=>
  intro s A b l h
  have ag:(∃o,b=.reg o)\/∃s o,b=.Iz s o:=by
   obtain⟨L,T⟩:=s;cases d with
   |false=>
    simp only[trC]at h;split at h
    .simp at h;exact .inl ⟨_,h.1.symm⟩
    .cases h
   |true=>
    cases L with
    |nil=>simp[trC]at h
    |cons al L=>
     simp only[trC]at h;split at h
     .split at h
      .simp at h;exact .inr ⟨_,_,h.1.symm⟩
      .cases h
     .cases h
  obtain⟨o,rfl⟩|⟨Y,o,rfl⟩:=ag<;>exact⟨λr q=>by simp[q5F]at q,λ_=>by simp[zDD]⟩
 |_=>
  intro s A b l h;refine⟨λr q=>?_,λ_=>by simp[zDD]⟩;exfalso;obtain⟨L,T⟩:=s;cases T<;>simp only[trC]at h<;>(repeat' split at h)<;>simp at h<;>(try(obtain⟨rfl,_⟩:=h))<;>simp[q5F]at q
def KJ(P:zv)(H:qNA)(c0:By)(rd:zO)(Y:qUB):F Z->DT->DT
 |[],K=>K
 |l::h,K=>match q5F c0 l with
  |some r=>qpa l (S P H r rd Y) (KJ P H c0 rd Y h K)
  |none=>KJ P H c0 rd Y h K
def qbQ{P}{H}{c0}{rd}{Y}{sl}{hs}{K}:∀(ls:F Z)(b:By),S P H (Gh c0 b ls) rd Y sl hs K=S P H b rd Y sl hs (KJ P H c0 rd Y ls K)
 |[],b=>rfl
 |l::ls,b=>by
  cases h:q5F c0 l with
  |some r=>simp only[Gh,KJ,h];rw[qbQ ls];rfl
  |none=>simp only[Gh,KJ,h];exact qbQ ls b
def qoK{c0}:∀(ls:F Z)(b:By),(∀d∈Bu b,d∈Bu (Gh c0 b ls))/\∀l∈ls,∀r,q5F c0 l=O r->∀d∈Bu r,d∈Bu (Gh c0 b ls)
 |[],b=>⟨λd C=>C,λl D=>by cases D⟩
 |l::ls,b=>by
  simp only[Gh];split
  .rename_i r L;obtain⟨u,A⟩:=qoK (c0:=c0) ls (.jump l b r);refine⟨λd q=>u d (by simp[Bu,q]),λm hm B h d q=>?_⟩;rcases zs.1 hm with rfl|hm
   .rw[L]at h;cases h;exact u d (by simp[Bu,q])
   .exact A m hm B h d q
  .rename_i Q;obtain⟨u,A⟩:=qoK (c0:=c0) ls b;refine⟨u,λm hm B h d q=>?_⟩;rcases zs.1 hm with rfl|hm
   .rw[Q]at h;cases h
   .exact A m hm B h d q
def qUZ{P:zv}(E:Env P)(H:qNA)(nt:Z)(c:zDE):Prop:=qEE E H nt c/\∀l h,zDD c l=O h->qEE E H nt h
def qRL{P}{H}{c0}{rd}{Y}{K}{e}{sl}{hs}(q:∀n,e≠.goto n):∀{ls:F Z},KJ P H c0 rd Y ls (qbR K) e sl hs->K e sl hs
 |[],h=>by cases e<;>first|exact h|exact absurd rfl (q _)
 |l::ls,h=>by
  cases u:q5F c0 l with
  |some r=>
   simp only[KJ,u]at h;refine qRL (P:=P) (H:=H) (c0:=c0) (rd:=rd) (Y:=Y) (ls:=ls) q ?_;cases e<;>first|exact h|exact absurd rfl (q _)
  |none=>
   simp only[KJ,u]at h;exact qRL q h
def qGQ{P:zv}{E:Env P}{H:qNA}{nt:Z}{c:zDE}(ad:qUZ E H nt c):qEE E H nt (.scope c):=by
 intro V r rd W C t au s av sl hs K a w ae Q Y af ag ak B;simp only[trC]at Q;split at Q
 .rename_i b aw ah;simp only[zAh,zCE]at Q;obtain⟨rfl,rfl⟩:=Q;have Y:∀d∈Bu (Gh b b ((qfH b).filter λl=>(q4F b).contains l)),d∈C:=Y
  have al:∀(D:F Z),(∀l∈D,∀r,q5F b l=O r->∀d∈Bu r,d∈C)->∀e a w,Gm V nt C t (KJ P H b rd W D (qbR K)) e a w->ScQ E r c (Gm V nt C t K) D.length e a w:=by
   intro D
   induction D with
   |nil=>
    rintro _ e a w ⟨aa,q,u,rfl,h,A⟩;cases aa with
    |goto n=>exact h.elim
    |normal=>exact⟨.normal,q,u,rfl,h,A⟩
    |exit n=>exact⟨.exit n,q,u,rfl,h,A⟩
    |ret=>exact⟨.ret,q,u,rfl,h,A⟩
   |cons l D am=>
    rintro R e a w ⟨aa,q,u,rfl,h,A⟩;have ab:=am λm hm=>R m (by simp[hm]);cases aa with
    |normal=>exact⟨.normal,q,u,rfl,qRL (λn B=>by cases B) h,A⟩
    |exit n=>exact⟨.exit n,q,u,rfl,qRL (λn B=>by cases B) h,A⟩
    |ret=>exact⟨.ret,q,u,rfl,qRL (λn B=>by cases B) h,A⟩
    |goto n=>
     cases L:q5F b l with
     |some T=>
      simp only[KJ,L,qpa]at h;cases ac:zAL n l with
      |true=>
       rw[ac]at h;obtain rfl:=zP ac;obtain⟨ai,an,aj,ao⟩:=(qzS (l:=n) ah).1 T L;refine⟨ai,aj,q7B (ad.2 n ai aj V r rd W C t T an _ q u _ a w ae ao (λd U=>R n se T L d U) af ag A h) λe a w ap=>?_⟩;exact ab e a w ap
      |false=>
       rw[ac]at h;exact qfW (ab (.goto n) a w ⟨.goto n,q,u,rfl,h,A⟩)
     |none=>
      simp only[KJ,L]at h;exact qfW (ab (.goto n) a w ⟨.goto n,q,u,rfl,h,A⟩)
  have R:=qoK (c0:=b) ((qfH b).filter λl=>(q4F b).contains l) b
  refine qvT _ (q7B (ad.1 V r rd W C t b _ _ sl hs _ a w ae ah (λd U=>Y d (R.1 d U)) af ag ak (by
   have aq:S P H (Gh b b ((qfH b).filter λl=>(q4F b).contains l)) rd W sl hs (qbR K):=B
   rwa [qbQ]at aq)) (al _ λl ar T L d U=>Y d (R.2 l ar T L d U)))
 .cases Q
section
variable{P:zv}{E:Env P}{H:qNA}{nt:Z}
def qfY(hm:P.follows .mixedOrders=I)(ab:∀fr:Fr,fr.has E->CC E fr H):∀c,qUZ E H nt c:=by
 intro c;have no:∀{c:zDE},(∀l,zDD c l=zc)->∀l C,zDD c l=O C->qEE E H nt C:=λu l C q=>by rw[u l]at q;cases q
 have ac:qEE E H nt .skip:=by
  intro D r rd L Q t R s T sl hs K a w U h W Y aa A u;simp[trC]at h;obtain⟨rfl,rfl⟩:=h;exact qFR ⟨.normal,sl,hs,rfl,u,A⟩
 induction c with
 |skip=>exact⟨ac,no λl=>by simp[zDD]⟩
 |region id ad d=>exact⟨qOO hm ab id ad d,no λl=>by simp[zDD]⟩
 |seq x y B V=>
  refine⟨qNO B.1 V.1,λl C q=>?_⟩;simp only[zDD]at q;split at q
  .rename_i ae af;cases q;exact qNO (B.2 l ae af) V.1
  .exact V.2 l C q
 |cond c x y B V=>exact⟨quS B.1 V.1,no λl=>by simp[zDD]⟩
 |block id x B=>exact⟨qHQ B.1,no λl=>by simp[zDD]⟩
 |loop x B=>exact⟨qsS B.1,no λl=>by simp[zDD]⟩
 |rangeFunc g ak al am ag ah=>exact⟨qrS ab ag.1 ah.1,no λl=>by simp[zDD]⟩
 |exit n=>
  refine⟨?_,no λl=>by simp[zDD]⟩;intro D r rd L Q t R s T sl hs K a w U h W Y aa A u;simp[trC]at h;obtain⟨rfl,rfl⟩:=h;exact qHR ⟨.exit n,sl,hs,rfl,u,A⟩
 |ret=>
  refine⟨?_,no λl=>by simp[zDD]⟩;intro D r rd L Q t R s T sl hs K a w U h W Y aa A u;simp[trC]at h;obtain⟨rfl,rfl⟩:=h;exact qqM ⟨.ret,sl,hs,rfl,u,A⟩
 |label m=>
  refine⟨?_,λl C q=>?_⟩
  .intro D r rd L Q t R s T sl hs K a w U h W Y aa A u;simp[trC]at h;obtain⟨rfl,rfl⟩:=h;exact qwT ⟨.normal,sl,hs,rfl,u,A⟩
  .simp only[zDD]at q;split at q
   .cases q;exact ac
   .cases q
 |goto ai=>
  refine⟨?_,no λl=>by simp[zDD]⟩;intro D r rd L Q t R s T sl hs K a w U h W Y aa A u;simp[trC]at h;obtain⟨rfl,rfl⟩:=h;exact qGR ⟨.goto ai,sl,hs,rfl,u,A⟩
 |scope c aj=>exact⟨qGQ aj,no λl=>by simp[zDD]⟩
 |refuse why=>
  refine⟨?_,no λl=>by simp[zDD]⟩;intro D r rd L Q t R s T sl hs K a w U h;simp[trC]at h
def qXb(hm:P.follows .mixedOrders=I)(h:∀fr:Fr,fr.has E->CC E fr H):∀c,qEE E H nt c:=λc=>(qfY hm h c).1
end
inductive G7 where
 |tmp (n:Z)
 |cell (n size:Z) (agg:zO)
 deriving Inhabited
structure FnI where
 nt:Z
 res:F G7
 code:By
 deriving Inhabited
def q2S:F G7->Sl->Hs->(F SV->Prop)->Prop
 |[],_,_,k=>k []
 |.tmp n::r,sl,hs,k=>match AS sl n with
  |some x=>qLY (norm hs.rs x) λx=>q2S r sl hs λl=>k (x::l)
  |none=>zX
 |.cell n size agg::r,sl,hs,k=>match AS sl n with
  |some x=>q7X agg size hs x λy=>q2S r sl hs λl=>k (y::l)
  |none=>zX
def Gs(rs:F G7)(sl:Sl)(hs:Hs)(K:SV->Prop):Prop:=q2S rs sl hs λl=>match l with
 |[x]=>K x
 |l=>K (.tup l)
def qUI:F SV->Z->Sl
 |[],_=>[]
 |x::r,n=>(n,x)::qUI r (n+1)
def fnE(h:F G7)(K:SV->Hs->Prop):DT:=λe sl hs=>match e with
 |.normal=>Gs h sl hs λv=>K v hs
 |.ret=>Gs h sl hs λv=>K v hs
 |_=>zX
def fnS(P:zv)(H:qNA)(h:FnI)(Y:qUB)(args:F SV)(hs:Hs)(K:SV->Hs->Prop):Prop:=match Nat.ble args.length h.nt with
 |true=>S P H h.code zb Y (qUI args 0) hs (fnE h.res K)
 |false=>zX
def qfJ(P:zv):F ResultVar->zy (F G7)
 |[]=>O []
 |.tmp n::r=>match qfJ P r with
  |some l=>O (.tmp n::l)
  |none=>zc
 |.cell n t::r=>match qYB P t,BT P t,qfJ P r with
  |some size,O agg,O l=>if 0<size then O (.cell n size agg::l)else zc
  |_,_,_=>zc
def FN(P:zv)(f:zA5)(h:F (F Z×OI))(q:F (F Z)):zy FnI:=match P.funcs[f]? with
 |some fn=>match fn.body with
  |some c=>match trC P fn.ntmps c (h,q),qfJ P fn.results.toList with
   |some (u,_),O A=>O ⟨fn.ntmps,A,u⟩
   |_,_=>zc
  |none=>zc
 |none=>zc
def q3U:F zg->zg
 |[x]=>x
 |l=>.tuple l.toArray
def q3S(tmps:zS zg):ResultVar->Sem zg
 |.tmp t=>pure (tmps.getD t zAU)
 |.cell a t=>do loadVar t (<-asAddr (tmps.getD a zAU))
def qxD{fn}{tmps}{P}{w}{vs}(h:(fn.results.toList.mapM (q3S tmps)).run P w=.ok vs w):(results fn tmps).run P w=.ok (q3U vs) w:=by
 have e:results fn tmps=(fn.results.mapM (q3S tmps)>>=λvs=>pure (if h:vs.size=1 then vs[0]else .tuple vs)):=rfl;rw[e,zCs];rw[map_eq_pure_bind,zZ,zZ];rw[h];simp only[zAk,Sem.run_pure]
 match vs with
 |[]=>rfl
 |[x]=>rfl
 |x::y::r=>simp[q3U]
def qqD{P}{hs}{sl}:∀{L:F ResultVar}{rs:F G7}{k:F SV->Prop},qfJ P L=O rs->q2S rs sl hs k->∃l,k l/\∀(tmps:zS zg),(∀n x,AS sl n=O x->tmps[n]?=O (Ag x))->∀fr w,Ap fr hs w->(L.mapM (q3S tmps)).run P w=.ok (qCA l) w
 |[],rs,k,h,q=>by
  simp[qfJ]at h;subst h;exact⟨[],q,λtmps ad fr w u=>by simp[Sem.run_pure,qCA]⟩
 |.tmp n::r,rs,k,h,q=>by
  simp only[qfJ]at h;split at h
  .rename_i l C;simp at h;subst h;simp only[q2S,qWN]at q;split at q
   .rename_i x D;obtain⟨Q,E,H⟩:=qqD C q;refine⟨_,E,λtmps A fr w u=>?_⟩;have:=A n x D;rw[zCY];simp only[q3S,zZ,Sem.run_pure,zAk,H tmps A fr w u,qCA,q5D];simp[zAe,this]
   .exact q.elim
  .cases h
 |.cell n t::r,rs,k,h,q=>by
  simp only[qfJ]at h;split at h
  .rename_i size agg l R T C;split at h
   .rename_i U;simp at h;subst h;simp only[q2S]at q;split at q
    .rename_i x D;obtain⟨y,V,W⟩:=qKM q R T (.inl U);obtain⟨Q,E,H⟩:=qqD C V;refine⟨_,E,λtmps A fr w u=>?_⟩;have Y:=A n x D;have B:=W fr w u;have aa:tmps.getD n zAU=Ag x:=by simp[zAe,Y]
     have ab:((asAddr (tmps.getD n zAU)).bind λa=>loadVar t a).run P w=.ok (Ag y) w:=by
      rw[aa];generalize Ag x=v at B;unfold zBq Instr.sureAddr at B;unfold asAddr;split at B
      .exact B
      .simp[zZ,zAk]at B
     rw[zCY];have ac:(asAddr (tmps.getD n zAU)>>=λa=>loadVar t a).run P w=.ok (Ag y) w:=ab;rw[show q3S tmps (.cell n t)=(asAddr (tmps.getD n zAU)>>=λa=>loadVar t a)from rfl,zZ,ac];simp only[zZ,Sem.run_pure,zAk,H tmps A fr w u,qCA]
    .exact q.elim
   .cases h
  .cases h
def Ap.shut{fr:Fr}{hs}{w}(h:Ap fr hs w){b}(A:¬fr.pr b)(B:¬hs.g.g b)(C:b∉hs.bks)(o):Ap fr hs (w.putObj b o):=by
 refine⟨⟨zY h.AJ.1 se,λn q=>?_⟩,⟨h.frm.os,h.frm.tape,h.frm.output,zY h.frm.size se,λn q=>?_⟩,λx u=>?_,h.nod,h.fre,h.fz,h.own,zY h.low.1 se,h.low.2⟩
 .exact(World.putObj_heap_other (k:=n) (r:=b) λe=>B (e▸q)).trans (h.AJ.2 n q)
 .exact(World.putObj_heap_other (k:=n) (r:=b) λe=>A (e▸q)).trans (h.frm.block n q)
 .exact Res.holds_of (λc D=>World.putObj_heap_other (k:=c) (r:=b) λe=>C (e▸zBM.2 ⟨x,u,D⟩)) (h.res x u)
def qXJ{P:zv}{E:Env P}{fn:Func}{tmps:zS zg}{R:Ending->zp->Prop}{fr:Fr}(q:fr.has E){hs:Hs}{v:zg}(u:∀w,Ap fr hs w->(results fn tmps).run P w=.ok v w/\R (.returned v) w):∀(bs:F Z)(w:zp),Ap fr hs w->bs.Nodup->(∀b∈bs,¬fr.pr b/\¬hs.g.g b/\b∉hs.bks/\w.heap[b]?=O (.deferred (O [])))->qkF E fn tmps R (bs.map mkD) w
 |[],w,h,_,_=>λd=>⟨v,u _ (h.at d)⟩
 |b::bs,w,h,A,B=>by
  obtain⟨H,L,Q,T⟩:=B b se;refine .inl λd=>?_;have C:=(h.at d).shut H L Q (.deferred zc);refine⟨b,_,rfl,run_takeDeferred T,(h.at d).keep C q,qXJ q u bs _ C (zBo.1 A).2 λc D=>?_⟩;obtain⟨U,V,W,Y⟩:=B c (by simp[D]);exact⟨U,V,W,(World.putObj_heap_other (k:=c) (r:=b) λe=>(zBo.1 A).1 (e▸D)).trans Y⟩
def qxE:∀(args:F SV)(m n:Z)(x:SV),AS (qUI args m) n=O x->∃i:Z,n=m+i/\args[i]?=O x
 |[],m,n,x,h=>by simp[qUI,AS]at h
 |y::r,m,n,x,h=>by
  simp only[qUI,AS]at h;cases q:zAL m n with
  |true=>rw[q]at h;obtain rfl:=zP q;simp at h;subst h;exact⟨0,rfl,rfl⟩
  |false=>
   rw[q]at h;obtain⟨i,A,u⟩:=qxE r (m+1) n x h;exact⟨i+1,sa,u⟩
def qFZ{P:zv}{E:Env P}{H:qNA}(hm:P.follows .mixedOrders=I)(W:∀fr:Fr,fr.has E->CC E fr H){f:zA5}{aa:F (F Z×OI)}{ab:F (F Z)}{R:FnI}(A:FN P f aa ab=O R){fr:Fr}(T:fr.has E){Y:qUB}(ac:FD E fr Y){args:F SV}{hs:Hs}{K:SV->Hs->Prop}(h:fnS P H R Y args hs K){w:zp}(ad:Ap fr hs w):∃fn c,P.funcs[f]?=O fn/\fn.body=O c/\c.wpX E zc (qJL E fn (λe w'=>∃v q,e=.returned (Ag v)/\Ap fr q w'/\K v q)) {tmps:=(qCA args).toArray++zAP (fn.ntmps-(qCA args).toArray.size) zAU,defers:=[]} w:=by
 unfold FN at A;split at A
 .rename_i fn ae;split at A
  .rename_i c af;split at A
   .rename_i D ag ah ai aj;simp at A;subst A;unfold fnS at h;split at h
    .rename_i ak;have aE:args.length<=fn.ntmps:=zAq ak;refine⟨fn,c,ae,af,?_⟩
     have al:((qCA args).toArray++zAP (fn.ntmps-(qCA args).toArray.size) zAU).size=fn.ntmps:=by
      simp[qnA];omega
     have am:Sim fn.ntmps ⟨[],Bu D,(qCA args).toArray++zAP (fn.ntmps-(qCA args).toArray.size) zAU⟩ (qUI args 0) {tmps:=(qCA args).toArray++zAP (fn.ntmps-(qCA args).toArray.size) zAU,defers:=[]}:=by
      refine⟨al,rfl,λn x an=>?_,λ_ _=>rfl⟩;obtain⟨i,rfl,U⟩:=qxE args 0 n x an;have aF:i<args.length:=(ze.1 U).1;show((qCA args).toArray++_)[0+i]?=_;rw[zCn (by simp[qnA];omega)];simp[qgA,U]
     refine q7B (qXb hm W c fr zc zb Y (Bu D) _ D _ ag (qUI args 0) hs _ _ w T ai (λd ao=>ao) (λ_=>rfl) ac ⟨fr,[],Fr.refl _,ad,am,[],rfl,.nil,λb L=>by cases L⟩ h) ?_;rintro e a w' ⟨ap,aq,q,rfl,u,aG,aH,ar,B,V,bs,au,av,aw⟩
     have fin:(Gs ah aq q λv=>K v q)->qkF E fn a.tmps (λe w'=>∃v q,e=.returned (Ag v)/\Ap fr q w'/\K v q) a.defers w':=λu=>by
      rw[V.defers];simp only[au]
      obtain⟨l,u,ax⟩:=qqD (k:=λl=>match l with
       |[x]=>K x q
       |l=>K (.tup l) q) aj u
      refine qXJ T (fr:=fr) (hs:=q) (v:=q3U (qCA l)) (λay C=>⟨qxD (ax a.tmps V.As fr ay C),?_⟩) bs w' (B.EQ ar) av λb L=>?_
      .match l,u with
       |[],u=>exact⟨.tup [],q,rfl,C,u⟩
       |[x],u=>exact⟨x,q,rfl,C,u⟩
       |x::y::r,u=>exact⟨.tup (x::y::r),q,rfl,C,u⟩
      .obtain⟨az,aA,Q,aB⟩:=aw b L;exact⟨az,λaC=>aA (B.fz b Q aC),λaD=>(B.fre b aD).2 Q,(B.frm.block b Q).trans aB⟩
     cases ap with
     |normal=>exact fin u
     |ret=>exact fin u
     |exit n=>exact u.elim
     |goto n=>exact u.elim
    .exact h.elim
   .cases A
  .cases A
 .cases A
def q1G{P:zv}{E:Env P}{H:qNA}(hm:P.follows .mixedOrders=I)(A:∀fr:Fr,fr.has E->CC E fr H){f:zA5}{B:F (F Z×OI)}{C:F (F Z)}{q:FnI}(D:FN P f B C=O q){fr:Fr}(L:fr.has E){Y:qUB}(Q:FD E fr Y){args:F SV}{hs:Hs}{K:SV->Hs->Prop}(h:fnS P H q Y args hs K){w:zp}(R:Ap fr hs w):BI E f (qCA args).toArray w λe w'=>∃v u,e=.returned (Ag v)/\Ap fr u w'/\K v u:=by
 obtain⟨fn,c,T,U,V⟩:=qFZ hm A D L Q h R;exact qgG T U V
def qSM(f:Z):F (Z×FnI)->zy FnI
 |[]=>zc
 |(g,h)::r=>match zAL g f with
  |true=>O h
  |false=>qSM f r
def II(P:zv)(h:F (Z×FnI)):Z->qNA
 |0=>okH P
 |d+1=>λq f args hs K=>match qSM f h with
  |some u=>fnS P (II P h d) u q args hs K
  |none=>okH P q f args hs K
def q6B(P:zv)(h:F (Z×FnI)):Prop:=∀x∈h,∃o l,FN P x.1 o l=O x.2
def qBJ{f}{u}:∀{A:F (Z×FnI)},qSM f A=O u->(f,u)∈A
 |[],h=>by simp[qSM]at h
 |(g,B)::r,h=>by
  simp only[qSM]at h;cases q:zAL g f with
  |true=>rw[q]at h;obtain rfl:=zP q;simp at h;subst h;simp
  |false=>rw[q]at h;exact zAF _ (qBJ h)
def qTN{P}(E:Env P)(hm:P.follows .mixedOrders=I){u}(A:q6B P u):∀(d:Z)(fr:Fr),fr.has E->CC E fr (II P u d)
 |0,fr,h=>(qZA E).snd fr h
 |d+1,fr,h=>λD B f args hs K q w C=>by
  simp only[II]at q;split at q
  .rename_i Q H;obtain⟨o,l,L⟩:=A _ (qBJ H);exact q1G hm (λfr=>qTN E hm A d fr) L h B q C
  .exact(qZA E).snd fr h D B f args hs K q w C
def q2a(P:zv)(f:zA5):zO:=match P.funcs[f]? with
 |some fn=>fn.body.isSome && !(fn.name== "runtime.NumGoroutine")
 |none=>zb
def Gb.of{P}{f}(h:q2a P f=I):Gb P f:=by
 unfold q2a at h;split at h
 .rename_i fn q;simp only[zl,zC0]at h;exact⟨fn,q,h.1,h.2⟩
 .cases h
def Ok.Aq{P}(hm:P.follows .mixedOrders=I){D}(U:q6B P D)(d){f}{V}{W}{E}(Y:FN P f V W=O E){args}{g}{Q}(h:fnS P (II P D d) E noY args ⟨g,[],0,g.w.heap.size⟩ λv H=>Gv v H λv' A=>qqJ v' λx=>∀g2,A.g<=g2->Q x g2):Ok P f (qCA args) g Q:=by
 intro w L R hE;have aa:Ap ⟨w,(·<w.heap.size),g.g,λ_ h=>h⟩ ⟨g,[],0,g.w.heap.size⟩ w:=⟨L,⟨rfl,rfl,rfl,zH _,λ_ _=>rfl⟩,(λr ab=>by cases ab),zBW,(λb B=>by cases B),(λn _ h=>h),(λn ac ad _=>by have:=g.wf n ad;exact absurd ac (zDu.2 this)),L.1,λb B=>by cases B⟩;refine(q1G hm (λae=>qTN R hm U d ae) Y (λn u=>zQ u hE) (qOG R _) h aa).mono ?_;rintro e aj ⟨v,H,rfl,af,C⟩;obtain⟨v',A,C,ag,q⟩:=qEG v C af;have T:=qBD v' C;rw[ag]at T;refine⟨_,rfl,⟨q.frm.os,q.frm.tape,q.frm.output,q.frm.size,λn u=>q.frm.block n u⟩,T _ ⟨q.AJ.1,λn u=>⟨⟨zQ (A.g.wf n u) q.AJ.1,?_⟩,q.AJ.2 n u⟩⟩⟩;rcases zAJ n w.heap.size with ah|ai
 .exact .inl (q.fz n ah u)
 .exact .inr ai
def Res.eqv:Res->Res->Prop
 |.blk _ b u cells,.blk _ h A B=>b=h/\u=A/\qCA cells=qCA B
 |.row _ C n cap D size cs,.row _ E H L P Q R=>C=E/\n=H/\cap=L/\D=P/\size=Q/\cs=R
 |.lp _ l r j,.lp _ T q U=>l=T/\r=q/\j=U
 |.mk b,.mk h=>b=h
 |.mp _ r V es,.mp _ q W Y=>r=q/\V=W/\es=Y
 |_,_=>zX
def I9:F Res->F Res->Prop
 |[],[]=>True
 |r::h,q::u=>r.eqv q/\I9 h u
 |_,_=>zX
def Res.IM{r q:Res}(h:r.eqv q):q.bk=r.bk/\∀w,r.holds w->q.holds w:=by
 unfold Res.eqv at h;split at h
 .rename_i cells _ _ _ u;obtain⟨rfl,rfl,h⟩:=h;refine⟨rfl,λw⟨A,B⟩=>⟨h▸A,λc C=>?_⟩⟩;have:Ag c∈qCA u:=by rw[qgA];exact zU.2 ⟨c,C,rfl⟩
  rw[<-h,qgA]at this;obtain⟨D,E,H⟩:=zU.1 this;rw[<-H];exact B D E
 .obtain⟨rfl,rfl,rfl,rfl,rfl,rfl⟩:=h;exact⟨rfl,λ_ h=>h⟩
 .obtain⟨rfl,rfl,rfl⟩:=h;exact⟨rfl,λ_ h=>h⟩
 .subst h;exact⟨rfl,λ_ h=>h⟩
 .obtain⟨rfl,rfl,rfl⟩:=h;exact⟨rfl,λ_ h=>h⟩
 .exact h.elim
def qEP:∀{rs rs':F Res},I9 rs rs'->rs'.flatMap Res.bk=rs.flatMap Res.bk/\∀w,(∀r∈rs,r.holds w)->∀r∈rs',r.holds w
 |[],[],_=>⟨rfl,λ_ h=>h⟩
 |r::rs,H::rs',h=>by
  obtain⟨A,B⟩:=Res.IM h.1;obtain⟨C,D⟩:=qEP h.2;refine⟨by rw[zCr,zCr,A,C],λw u x q=>?_⟩;rcases zs.1 q with rfl|q
  .exact B w (u r se)
  .exact D w (λy E=>u y (by simp[E])) x q
 |[],_::_,h=>h.elim
 |_::_,[],h=>h.elim
def Ap.ren{fr:Fr}{g}{rs rs'}{nx nx' lo}{w}(h:Ap fr ⟨g,rs,nx,lo⟩ w)(k:I9 rs rs'):Ap fr ⟨g,rs',nx',lo⟩ w:=by
 obtain⟨u,A⟩:=qEP k;have q:Hs.bks ⟨g,rs',nx',lo⟩=Hs.bks ⟨g,rs,nx,lo⟩:=u;exact⟨h.AJ,h.frm,A w h.res,q▸h.nod,λb hm=>h.fre b (q▸hm),h.fz,h.own,h.low.1,λb hm=>h.low.2 b (q▸hm)⟩
def AB:F Res->F Res->Prop
 |_,[]=>True
 |[],_::_=>zX
 |r::h,q::u=>(r.eqv q/\AB h u)\/AB h (q::u)
def q2K:∀{rs rs':F Res},AB rs rs'->∃l,l.Sublist rs/\I9 l rs'
 |_,[],_=>⟨[],List.nil_sublist _,trivial⟩
 |[],_::_,h=>by simp[AB]at h
 |r::rs,C::rs',h=>by
  unfold AB at h;rcases h with⟨A,B⟩|h
  .obtain⟨l,q,u⟩:=q2K B;exact⟨r::l,q.cons_cons r,A,u⟩
  .obtain⟨l,q,u⟩:=q2K h;exact⟨l,q.cons r,u⟩
def Ap.fit{fr:Fr}{g}{rs rs'}{nx nx' lo}{w}(h:Ap fr ⟨g,rs,nx,lo⟩ w)(k:AB rs rs'):Ap fr ⟨g,rs',nx',lo⟩ w:=by
 obtain⟨l,q,u⟩:=q2K k;exact(h.sub (nx:=nx) q).ren u
def Ap.Jb{fr:Fr}{g}{id id' b}{ety}{cells}{rs}{nx nx' lo}{w}(h:Ap fr ⟨g,.blk id b ety cells::rs,nx,lo⟩ w)(n size)(B:cells.length=n*size)(q:n<=zAp):Ap fr ⟨g,.row id' (O ⟨b,0,zc⟩) n n ety size (qCA cells)::rs,nx',lo⟩ w:=by
 have u:(qCA cells).length=n*size:=by rw[qnA];exact B
 obtain⟨C,D⟩:=h.res _ (zAH ..);refine h.upd (l1:=[]) (r1:=.row id' (O ⟨b,0,zc⟩) n n ety size (qCA cells)) (nx:=nx') rfl rfl rfl rfl (zH _) (λ_ _ _=>rfl) ⟨⟨u,.inr ⟨b,n,_,rfl,zJ _,C,zH _,q,by simpa using u,?_⟩⟩,λE A=>?_⟩ (λc q=>.inl (by simpa[Res.bk]using q)) so
 .rw[<-u];simp
 .rw[qgA]at A;obtain⟨c,q,rfl⟩:=zU.1 A;exact D c q
def Ap.DK{fr:Fr}{g}{rs}{nx nx' lo}{w}(h:Ap fr ⟨g,rs,nx,lo⟩ w)(id)(ety)(size):Ap fr ⟨g,.row id zc 0 0 ety size []::rs,nx',lo⟩ w:=
 h.Ep (Below.refl _ _) (r:=.row id zc 0 0 ety size []) ⟨World.ownsRow_nil w 0 ety size,λA q=>by cases q⟩ (λb u=>by simp[Res.bk]at u) so
def qfA{α:Type}{q:α->F SV}{W:α->Hs}{J:α->Prop}{u}{hs}(h:α)(A:qCA (q h)=qCA u)(B:J h)(hW:W h=hs):∀fr w,Ap fr hs w->∃x,qCA (q x)=qCA u/\J x/\Ap fr (W x) w:=
 λ_ _ C=>⟨h,A,B,hW▸C⟩
abbrev xo(d:Z)(p:SOp):CY:=⟨O d,p,zc⟩
abbrev xn(p:SOp):CY:=⟨zc,p,zc⟩
abbrev xg(d:Z)(p:SOp)(k:Z)(b:zO):CY:=⟨O d,p,O (k,b)⟩
section
variable{α β γ δ ε:Sort _}{a:α}{b:β}{c:γ}{d:δ}{e:ε}{p:Prop}
def qza(h:p):a=a/\p:=⟨rfl,h⟩
def qzb(h:p):(a=a/\b=b)/\p:=⟨⟨rfl,rfl⟩,h⟩
def qzc(h:p):(a=a/\b=b/\c=c)/\p:=⟨⟨rfl,rfl,rfl⟩,h⟩
def qzd(h:p):(a=a/\b=b/\c=c/\d=d)/\p:=⟨⟨rfl,rfl,rfl,rfl⟩,h⟩
def qze(h:p):(a=a/\b=b/\c=c/\d=d/\e=e)/\p:=⟨⟨rfl,rfl,rfl,rfl,rfl⟩,h⟩
end
abbrev Blk(P:Prop):Prop:=P
def zq{P Q:Prop}(k:Q)(h:Q->P:=by
 intro h
 repeat((conv=>whnf);first|apply qza|apply qzb|apply qzc|apply qzd|apply qze|intro(zz:Nat)|intro(zz:Option Addr) (zz:Nat)|refine E0.no ?_)
 try conv=>whnf
 change Blk _
 repeat revert zz
 exact h):P:=h k
def R1(q:Fr)(nt:Z)(D:Pin)(sl:Sl)(hs:Hs)(a:zDz)(w:zp):Prop:=∃h,q.le h/\Ap h hs w/\Sim nt D sl a
def qgY(A:Fr)(nt:Z)(D:Pin)(K:Ex->Sl->Hs->Prop):Exit->zDz->zp->Prop:=λe a w=>
 ∃h q u,h.to=e/\K h q u/\R1 A nt D q u a w
def qTZ{P:zv}(E:Env P)(H:qNA)(nt:Z)(c:zDE):Prop:=∀(h:Fr)(rd:zO)(A:qUB)(q:Pin)(u:By)(s B:F (F Z×OI)×F (F Z))(sl:Sl)(hs:Hs)(K:Ex->Sl->Hs->Prop)(a:zDz)(w:zp),h.has E->
 trC P nt c s=O (u,B)->(∀d∈Bu u,d∈q.ds)->FD E h A->R1 h nt q sl hs a w->S P H u rd A sl hs K->c.wpX E zc (qgY h nt q K) a w
def Eo:zDE->zO
 |.skip=>I
 |.region _ _ _=>I
 |.seq a b=>Eo a&&Eo b
 |.cond _ a b=>Eo a&&Eo b
 |.ret=>I
 |_=>zb
section
variable{P:zv}{E:Env P}{H:qNA}{nt:Z}
def q4M(hm:P.follows .mixedOrders=I)(ad:∀fr:Fr,fr.has E->CC E fr H)(id)(ops)(d):qTZ E H nt (.region id ops d):=by
 intro R rd aj D aC s aD sl hs K a w T h U ak al q;obtain⟨fr,C,L,u⟩:=al;cases d with
 |false=>
  simp only[trC]at h;split at h
  .rename_i l V;simp at h;obtain⟨rfl,rfl⟩:=h;refine qgE (qvG (Q:=qgY R nt D K .normal) (T.up C) (fr:=fr) (D:=D) (ad fr (T.up C)) (ak.up C) (K:=λsl hs=>K .normal sl hs) ?_ _ l sl hs a w V U u L q);exact λsl hs a w A W L=>⟨.normal,sl,hs,rfl,A,fr,C,L,W⟩
  .cases h
 |true=>
  obtain⟨ae,aE⟩:=s;cases ae with
  |nil=>simp[trC]at h
  |cons af ae=>
   obtain⟨Y,af⟩:=af;simp only[trC]at h;split at h
   .rename_i l V;split at h
    .rename_i ag;simp at h;obtain⟨rfl,rfl⟩:=h;simp only[zl]at ag;obtain⟨⟨am,aa⟩,an⟩:=ag;simp only[JV,zl,zF]at aa
     have ao:HU P nt D ops Y:=λk A=>by
      have:=(zAs.1 aa.1) k A;simp only[zl]at this;obtain⟨ap,ab⟩:=zCv.1 this.2;obtain⟨o,aq,ab⟩:=zAC.1 ab;refine⟨this.1,⟨o,ap,aq,ab⟩,λaF d ar B=>U d (zN.2 (.inl (zBX.2 ⟨k,A,by simp[ar,B]⟩)))⟩
     have au:∀d∈qDC l,d∈D.ds:=λd B=>U d (zN.2 (.inr B))
     have go:∀sl,NoM (DN ops Y) sl->Sim nt D sl a->C0 P (okH P) H hs.lo l [] sl hs (λsl hs=>K .normal sl hs)->(Code.region id ops I).wpX E zc (qgY R nt D K) a w:=λsl av u q=>by
      refine qJD hm (qyI (r:=zc) (fr:=fr) (D:=D) (T.up C) (qZA E) ad (K:=λsl hs=>K .normal sl hs) (Q:=qgY R nt D K .normal) hm an ao aa.2 ?_ am V au av u L q);exact λsl hs a w A W L=>⟨.normal,sl,hs,rfl,A,fr,C,L,W⟩
     obtain⟨aw,ax,ay,az⟩:=hs;have q:qLW P H (DN ops Y) l rd aj sl ⟨aw,ax,ay,az⟩ K:=q;unfold qLW at q;simp only at q;split at q
     .rename_i ac;exact go sl (by rw[ac];intro d B;cases B) u q
     .rename_i n aG ac;obtain⟨ah,A,ai⟩:=qzE q
      refine go ah (by rw[ac];intro d B;cases aA:AS ah d with
       |none=>rfl
       |some x=>exact absurd B (ai d x aA).1) ⟨u.size,u.defers,λn x aB=>u.As n x (ai n x aB).2,u.off⟩ A
    .cases h
   .cases h
def qYU(hm:P.follows .mixedOrders=I)(ap:∀fr:Fr,fr.has E->CC E fr H):∀c,Eo c=I->qTZ E H nt c:=by
 intro c
 induction c with
 |skip=>
  intro _ D rd u L ae s af sl hs K a w Q q R T U V;simp[trC]at q;obtain⟨rfl,rfl⟩:=q;exact qFR ⟨.normal,sl,hs,rfl,V,U⟩
 |region id aq d=>exact λ_=>q4M hm ap id aq d
 |seq x y Y ag=>
  intro h D rd u L ae s af sl hs K a w Q q R T U V;simp only[Eo,zl]at h;simp only[trC]at q;split at q
  .rename_i al ar ah;split at q
   .rename_i am au ai;simp at q;obtain⟨rfl,rfl⟩:=q;refine qtI (q7B (Y h.1 D rd u L _ _ _ sl hs _ a w Q ah (λd W=>R d (by simp[Bu,W])) T U V) ?_);rintro e av w1 ⟨aw,C,aa,rfl,ab,ac⟩;cases aw with
    |normal=>exact ag h.2 D rd u L _ _ _ C aa K av w1 Q ai (λd W=>R d (by simp[Bu,W])) T ac ab
    |exit n=>exact⟨.exit n,C,aa,rfl,ab,ac⟩
    |ret=>exact⟨.ret,C,aa,rfl,ab,ac⟩
    |goto n=>exact⟨.goto n,C,aa,rfl,ab,ac⟩
   .cases q
  .cases q
 |cond c x y Y ag=>
  intro h D rd u L ae s af sl hs K a w Q q R T U V;simp only[Eo,zl]at h;simp only[trC]at q;split at q
  .rename_i al ar ah;split at q
   .rename_i am au ai;simp at q;obtain⟨rfl,rfl⟩:=q;obtain⟨fr,an,ao,ax⟩:=U;rcases qUM (A:=S P H al rd u) (B:=S P H am rd u) V ax with⟨ad,C,aj,ak⟩|⟨ad,C,aj,ak⟩
    .exact q1H ad (Y h.1 D rd u L _ _ _ C hs K a w Q ah (λd W=>R d (by simp[Bu,W])) T ⟨fr,an,ao,ak⟩ aj)
    .exact qGH ad (ag h.2 D rd u L _ _ _ C hs K a w Q ai (λd W=>R d (by simp[Bu,W])) T ⟨fr,an,ao,ak⟩ aj)
   .cases q
  .cases q
 |ret=>
  intro _ D rd u L ae s af sl hs K a w Q q R T U V;simp[trC]at q;obtain⟨rfl,rfl⟩:=q;exact qqM ⟨.ret,sl,hs,rfl,V,U⟩
 |block id x Y=>intro h;simp[Eo]at h
 |loop x Y=>intro h;simp[Eo]at h
 |rangeFunc g ay az aA aB aC=>intro h;simp[Eo]at h
 |exit n=>intro h;simp[Eo]at h
 |label m=>intro h;simp[Eo]at h
 |goto aD=>intro h;simp[Eo]at h
 |scope c ad=>intro h;simp[Eo]at h
 |refuse why=>intro h;simp[Eo]at h
end
structure FnD where
 nt:Z
 res:F G7
 A:F By
 op:SOp
 dt:Z
 dk:Z
 B:By
 cl:FnI
 deriving Inhabited
def L5(ops:zS zDA):zO:=match ops.toList with
 |[_,o]=>match o.op with
  |.defer _=>I
  |_=>zb
 |_=>zb
def headD:zDE->zy (Z×zS zDA)
 |.region id h zb=>match L5 h with
  |true=>O (id,h)
  |false=>zc
 |_=>zc
def qMO:zDE->zy (F zDE×(Z×zS zDA)×zDE)
 |.seq x y=>match headD x with
  |some d=>O ([],d,y)
  |none=>match qMO y with
   |some (h,d,q)=>O (x::h,d,q)
   |none=>zc
 |_=>zc
def wpP{P:zv}(E:Env P)(Q:Exit->zDz->zp->Prop)(fin:zDz->zp->Prop):F zDE->zDz->zp->Prop
 |[],a,w=>fin a w
 |x::h,a,w=>x.wpX E zc (Exit.then (wpP E Q fin h) Q) a w
def qOT{x}{id}{ops}(h:headD x=O (id,ops)):x=.region id ops zb:=by
 unfold headD at h;split at h
 .split at h
  .cases h;rfl
  .cases h
 .cases h
def qlW{P:zv}{E:Env P}{Q:Exit->zDz->zp->Prop}{id:Z}{ops:zS zDA}{B:zDE}:∀{c:zDE}{ps:F zDE},qMO c=O (ps,(id,ops),B)->∀{a:zDz}{w:zp},wpP E Q (λa w=>(Code.region id ops zb).wpX E zc (Exit.then (B.wpX E zc Q) Q) a w) ps a w->c.wpX E zc Q a w:=by
 intro c
 induction c with
 |seq x y _ u=>
  intro ps hs a w h;simp only[qMO]at hs;split at hs
  .rename_i d A;simp only[zAh,zCE]at hs;obtain⟨rfl,rfl,rfl⟩:=hs;rw[qOT A];exact qtI h
  .split at hs
   .rename_i D d L C;simp only[zAh,zCE]at hs;obtain⟨rfl,rfl,rfl⟩:=hs;refine qtI (q7B h ?_);intro e R w1 q;cases e with
    |normal=>exact u C q
    |_=>exact q
   .cases hs
 |_=>intro ps hs;simp[qMO]at hs
def trL(P:zv)(nt:Z):F zDE->F (F Z×OI)×F (F Z)->zy (F By×(F (F Z×OI)×F (F Z)))
 |[],s=>O ([],s)
 |c::cs,s=>match trC P nt c s with
  |some (x,h)=>match trL P nt cs h with
   |some (q,u)=>O (x::q,u)
   |none=>zc
  |none=>zc
def qaT:F By->F Z
 |[]=>[]
 |x::h=>Bu x++qaT h
def SP(P:zv)(H:qNA)(Y:qUB):F By->Sl->Hs->(Ex->Sl->Hs->Prop)->Prop
 |[],sl,hs,K=>K .normal sl hs
 |x::h,sl,hs,K=>S P H x zb Y sl hs λe sl hs=>match e with
  |.normal=>SP P H Y h sl hs K
  |e=>K e sl hs
def IZ:F zDE->zO
 |[]=>I
 |c::cs=>Eo c&&IZ cs
section
variable{P:zv}{E:Env P}{H:qNA}{nt:Z}
def qpY(hm:P.follows .mixedOrders=I)(ag:∀fr:Fr,fr.has E->CC E fr H){Q}{fin}:∀(ps:F zDE),IZ ps=I->∀(q:Fr)(Y:qUB)(D:Pin)(A:F By)(s V:F (F Z×OI)×F (F Z))(sl:Sl)(hs:Hs)(K:Ex->Sl->Hs->Prop)(a:zDz)(w:zp),q.has E->trL P nt ps s=O (A,V)->(∀d∈qaT A,d∈D.ds)->FD E q Y->R1 q nt D sl hs a w->SP P H Y A sl hs K->(∀B sl hs a w,K B sl hs->R1 q nt D sl hs a w->Exit.then fin Q B.to a w)->wpP E Q fin ps a w
 |[],_,q,Y,D,A,s,V,sl,hs,K,a,w,W,h,aa,ab,ac,ad,u=>by
  simp[trL]at h;obtain⟨rfl,rfl⟩:=h;exact u .normal sl hs a w ad ac
 |c::cs,ae,q,Y,D,A,s,V,sl,hs,K,a,w,W,h,aa,ab,ac,ad,u=>by
  simp only[IZ,zl]at ae;simp only[trL]at h;split at h
  .rename_i x ah ai;split at h
   .rename_i aj al ak;simp at h;obtain⟨rfl,rfl⟩:=h;refine q7B (qYU hm ag c ae.1 q zb Y D _ _ _ sl hs _ a w W ai (λd af=>aa d (by simp[qaT,af])) ab ac ad) ?_;rintro e C w1 ⟨B,L,R,rfl,T,U⟩;cases B with
    |normal=>exact qpY hm ag cs ae.2 q Y D aj ah _ L R K C w1 W ak (λd af=>aa d (by simp[qaT,af])) ab U T u
    |exit n=>exact u (.exit n) L R C w1 T U
    |ret=>exact u .ret L R C w1 T U
    |goto n=>exact u (.goto n) L R C w1 T U
   .cases h
  .cases h
end
def qrZ(P:zv)(nt:Z)(ops:zS zDA):zy (SOp×Z×Z):=match ops.toList with
 |[h,q]=>match Ea P h,h.dst,h.guard,q.op,q.dst,q.guard with
  |some (.mkf (.func k) [] u),O t,zc,.defer c,zc,zc=>match c.callee with
   |.value (.tmp A)=>if A=t/\c.args.size=0/\t<nt then O (.mkf (.func k) [] u,t,k)else zc
   |_=>zc
  |_,_,_,_,_,_=>zc
 |_=>zc
def q9Q(P:zv)(k:zA5):zO:=match P.funcs[k]? with
 |some fn=>match fn.body with
  |some c=>Eo c
  |none=>zb
 |none=>zb
def qJU(P:zv)(f:zA5)(q:F (F Z×OI))(u:F (F Z))(A:F (F Z×OI))(B:F (F Z)):zy FnD:=match P.funcs[f]? with
 |some fn=>match fn.body with
  |some c=>match qMO c with
   |some (h,(_,C),b)=>match trL P fn.ntmps h (q,u)with
    |some (D,L)=>match qrZ P fn.ntmps C with
     |some (op,t,k)=>match trC P fn.ntmps b L,qfJ P fn.results.toList,FN P k A B with
      |some (Q,_),O R,O cl=>if(IZ h&&Eo b&&q9Q P k)=I then O ⟨fn.ntmps,R,D,op,t,k,Q,cl⟩else zc
      |_,_,_=>zc
     |none=>zc
    |none=>zc
   |none=>zc
  |none=>zc
 |none=>zc
def clE(P:zv)(H:qNA)(cl:FnI)(q:F SV)(hs:Hs)(K:Hs->Prop):Prop:=match Nat.ble q.length cl.nt with
 |true=>S P H cl.code zb noY (qUI q 0) hs λe u h=>match e with
  |.normal=>Gs cl.res u h λ_=>K h
  |.ret=>Gs cl.res u h λ_=>K h
  |_=>zX
 |false=>zX
def JN(P:zv)(H:qNA)(h:FnD)(u:F SV)(K:SV->Hs->Prop)(sl:Sl)(hs:Hs):Prop:=clE P H h.cl u hs λq=>Gs h.res sl q λv=>K v q
def dfS(P:zv)(H:qNA)(h:FnD)(Y:qUB)(x:SV)(sl:Sl)(hs:Hs)(K:SV->Hs->Prop):Prop:=match x with
 |.fn (.func k) [] q=>zAL k h.dk=I/\Gb P h.dk/\S P H h.B zb Y sl hs λe sl hs=>match e with
  |.normal=>JN P H h q K sl hs
  |.ret=>JN P H h q K sl hs
  |_=>zX
 |_=>zX
def JM(P:zv)(H:qNA)(h:FnD)(Y:qUB)(args:F SV)(hs:Hs)(K:SV->Hs->Prop):Prop:=match Nat.ble args.length h.nt with
 |true=>SP P H Y h.A (qUI args 0) hs λe sl hs=>match e with
  |.ret=>Gs h.res sl hs λv=>K v hs
  |.normal=>rdS h.op sl hs λx=>qkB (O h.dt) sl x λsl=>dfS P H h Y x sl hs K
  |_=>zX
 |false=>zX
def qYR{nt}{args}(A:args.length<=nt)(q):Sim nt ⟨[],q,(qCA args).toArray++zAP (nt-(qCA args).toArray.size) zAU⟩ (qUI args 0) {tmps:=(qCA args).toArray++zAP (nt-(qCA args).toArray.size) zAU,defers:=[]}:=by
 refine⟨by simp[qnA];omega,rfl,λn x u=>?_,λ_ _=>rfl⟩;obtain⟨i,rfl,h⟩:=qxE args 0 n x u;have B:i<args.length:=(ze.1 h).1;show((qCA args).toArray++_)[0+i]?=_;rw[zCn (by simp[qnA];omega)];simp[qgA,h]
def qKQ{P:zv}{fn:Func}{rs:F G7}(A:qfJ P fn.results.toList=O rs){sl:Sl}{hs:Hs}{k:SV->Prop}(h:Gs rs sl hs k){fr:Fr}{a:zDz}{w:zp}(B:Ap fr hs w)(C:∀n x,AS sl n=O x->a.tmps[n]?=O (Ag x)):∃v,(results fn a.tmps).run P w=.ok (Ag v) w/\k v:=by
 obtain⟨l,q,D⟩:=qqD (k:=λl=>match l with
  |[x]=>k x
  |l=>k (.tup l)) A h
 have u:=qxD (D a.tmps C fr w B)
 match l,q with
 |[],q=>exact⟨.tup [],u,q⟩
 |[x],q=>exact⟨x,u,q⟩
 |x::y::r,q=>exact⟨.tup (x::y::r),u,q⟩
def qCW{P:zv}{E:Env P}{H:qNA}(hm:P.follows .mixedOrders=I)(W:∀fr:Fr,fr.has E->CC E fr H){k:zA5}{o:F (F Z×OI)}{l:F (F Z)}{cl:FnI}(q:FN P k o l=O cl)(B:q9Q P k=I){fr:Fr}(Y:fr.has E){C:F SV}{hs:Hs}{K:Hs->Prop}(h:clE P H cl C hs K){w:zp}(aa:Ap fr hs w):E5 E k (qCA C).toArray w λw'=>∃u,Ap fr u w'/\K u:=by
 unfold FN at q;split at q
 .rename_i fn L;split at q
  .rename_i c Q;have ab:Eo c=I:=by unfold q9Q at B;rw[L]at B;simp only at B;rw[Q]at B;exact B
   split at q
   .rename_i ac an ad ae af;simp at q;subst q;unfold clE at h;split at h
    .rename_i ag;have ah:C.length<=fn.ntmps:=zAq ag;refine qqN (R:=λw'=>∃u,Ap fr u w'/\K u) L Q ?_;refine q7B (qYU hm W c ab fr zb noY ⟨[],Bu ac,_⟩ _ _ _ (qUI C 0) hs _ _ w Y ae (λd ai=>ai) (qOG E _) ⟨fr,Fr.refl _,aa,qYR ah _⟩ h) ?_;rintro e T w1 ⟨aj,ak,D,rfl,A,ao,al,U,V⟩
     have fin:Gs ad ak D (λ_=>K D)->T.defers=[]/\∀d,∃v,(results fn T.tmps).run P (w1.at d)=.ok v (w1.at d)/\∃u,Ap fr u (w1.at d)/\K u:=λA=>by
      refine⟨V.defers,λd=>?_⟩;obtain⟨v,am,A⟩:=qKQ af A (U.at d) V.As;exact⟨_,am,D,(U.at d).EQ al,A⟩
     cases aj with
     |normal=>exact fin A
     |ret=>exact fin A
     |exit n=>exact A.elim
     |goto n=>exact A.elim
    .exact h.elim
   .cases q
  .cases q
 .cases q
def q4S{P}{nt}{ops}{op}{t k}(h:qrZ P nt ops=O (op,t,k)):∃q u c,ops=#[q,u]/\Ea P q=O op/\op.reads=I/\q.dst=O t/\q.guard=zc/\u.op=.defer c/\u.dst=zc/\u.guard=zc/\c.callee=.value (.tmp t)/\c.args=#[]/\t<nt:=by
 unfold qrZ at h;split at h
 .rename_i q u A;split at h
  .rename_i Y aa ab c B C D L Q R;split at h
   .rename_i ac T;split at h
    .rename_i U;simp only[zAh,zCE]at h;obtain⟨rfl,rfl,rfl⟩:=h;obtain⟨rfl,V,W⟩:=U;exact⟨q,u,c,by rw[<-Array.toList_inj,A],B,rfl,C,D,L,Q,R,T,Array.size_eq_zero_iff.1 V,W⟩
    .cases h
   .cases h
  .cases h
 .cases h
def qrV{P:zv}{E:Env P}{H:qNA}(hm:P.follows .mixedOrders=I)(ad:∀fr:Fr,fr.has E->CC E fr H){f:zA5}{aD:F (F Z×OI)}{aE:F (F Z)}{aF:F (F Z×OI)}{aG:F (F Z)}{al:FnD}(q:qJU P f aD aE aF aG=O al){fr:Fr}(ae:fr.has E){Y:qUB}(am:FD E fr Y){args:F SV}{hs:Hs}{K:SV->Hs->Prop}(h:JM P H al Y args hs K){w:zp}(aH:Ap fr hs w):BI E f (qCA args).toArray w λe w'=>∃v Q,e=.returned (Ag v)/\Ap fr Q w'/\K v Q:=by
 unfold qJU at q;split at q
 case h_2=>cases q
 rename_i fn aI;split at q
 case h_2=>cases q
 rename_i c aJ;split at q
 case h_2=>cases q
 rename_i aK id bl b aL;split at q
 case h_2=>cases q
 rename_i aa bm aM;split at q
 case h_2=>cases q
 rename_i op t k aN;split at q
 case h_2=>cases q
 rename_i af bn aO cl aP an aQ;split at q
 case isFalse=>cases q
 rename_i ao;simp only[zAh]at q;subst q;simp only[zl]at ao;obtain⟨⟨aR,aT⟩,aU⟩:=ao;obtain⟨R,L,bo,rfl,ag,ap,aW,aX,aq,aY,aZ,ar,au,av⟩:=q4S aN;unfold JM at h;split at h
 case h_2=>exact h.elim
 rename_i a0;have a1:args.length<=fn.ntmps:=zAq a0;refine qgG aI aJ ?_;refine qlW aL (qpY hm ad aK aR fr Y ⟨[],qaT aa++t::Bu af,_⟩ aa _ _ (qUI args 0) hs _ _ w ae aM (λd U=>zN.2 (.inl U)) am ⟨fr,Fr.refl _,aH,qYR a1 _⟩ h ?_);intro ah a2 aw C w1 D a3;obtain⟨ai,V,u,W⟩:=a3;cases ah with
 |exit n=>exact D.elim
 |goto n=>exact D.elim
 |ret=>
  show qkF E fn C.tmps _ C.defers w1;rw[W.defers];intro d;obtain⟨v,aj,D⟩:=qKQ an D (u.at d) W.As;exact⟨_,aj,v,aw,rfl,(u.at d).EQ V,D⟩
 |normal=>
  obtain⟨x,D,a4⟩:=quJ ag ap W.As D;obtain⟨a5,T,ab⟩:=W.H7 (dst:=O t) (λd U=>by cases U;exact⟨av,zN.2 (.inr (zAH ..))⟩) x D;show(Code.region id #[R,L] zb).wpX E zc _ C w1;refine qgE ?_;show qMC E zc #[R,L] 0 (qMC E zc #[R,L] 1 _) C w1;unfold dfS at T;split at T
  case h_2=>exact T.elim
  rename_i B A;obtain⟨a6,ax,T⟩:=T;obtain rfl:B=k:=zP a6;have a7:zAl R (yielded #[R,L] C.tmps)=I:=by unfold zAl;rw[aX]
  unfold qMC;simp only[zC9,zCA];rw[zk a7];intro d1;have u:=u.at d1;generalize w1.at d1=w1 at u⊢;refine qsA (q4E ag ap) (qGE ag).1 (a4 ai w1 u) (.refl _) ?_;rw[aW]
  have ay:(C.put (O t) (Ag (.fn (.func B) [] A))).eval (.tmp t)=.func (.func B) #[] (qCA A).toArray:=by
   have:AS ((t,SV.fn (.func B) [] A)::a2) t=O (.fn (.func B) [] A):=by simp[AS]
   show(C.put (O t) (Ag (.fn (.func B) [] A))).tmps.getD t zAU=_;have a8:t<C.tmps.size:=by rw[W.size];exact av
   simp[zBf,zAe,a8,Ag,qCA]
  have a9:zAl L (yielded #[R,L] (C.put (O t) (Ag (.fn (.func B) [] A))).tmps)=I:=by unfold zAl;rw[aZ]
  simp only[List.getElem?_cons_succ,zCA];rw[zk a9];intro d2;have u:=u.at d2;generalize w1.at d2=w1 at u⊢
  have ba:(L.semAt zc (C.put (O t) (Ag (.fn (.func B) [] A))).eval).run P w1=.ok (.defer {target:=.fn (.func B) (qCA A).toArray,args:=#[]}) w1:=by
   show(zx _ L).run P w1=_;simp only[zx,aq,resolve,ar,au,ay];simp[zBH,zZ,Sem.run_pure,zAk]
  unfold Go.Oper.atX;rw[ba];refine⟨?_,.refl _,?_⟩
  .show(zx _ L).Calm P;simp only[zx,aq,resolve,ar,au,ay];exact qDA trivial λ_=>trivial
  rw[aY];intro d3;have u:=u.at d3;generalize w1.at d3=w1 at u⊢;refine q7B (qYU hm ad b aT ai zb Y ⟨[{target:=.fn (.func B) (qCA A).toArray,args:=#[]}],qaT aa++t::Bu af,_⟩ _ _ _ a5 aw _ _ w1 (ae.up V) aP (λd U=>zN.2 (.inr (zAF _ U))) (am.up V) ⟨ai,Fr.refl _,u,⟨ab.size,by show _::_=_;rw[ab.defers],ab.As,ab.off⟩⟩ T) ?_;rintro e az bb ⟨ah,bc,bd,rfl,ac,bp,aA,be,aB⟩
  have fin:JN P H ⟨fn.ntmps,aO,aa,op,t,B,af,cl⟩ A K bc bd->qkF E fn az.tmps (λe w'=>∃v Q,e=.returned (Ag v)/\Ap fr Q w'/\K v Q) az.defers bb:=λD=>by
   rw[aB.defers];have bf:=ax;obtain⟨bq,bh,bi,_⟩:=ax;refine .inr ⟨B,(qCA A).toArray,(qCA A).toArray,rfl,qkD bh bi _,λw=>?_,?_⟩
   .have:=qpB bf (qCA A).toArray w;simp at this⊢;exact this
   .refine(qCW hm ad aQ aU ((ae.up V).up aA) D be).mono ?_;rintro w' ⟨Q,aC,ak⟩ d;obtain⟨bj,aj,ak⟩:=qKQ an ak (aC.at d) aB.As;exact⟨_,aj,bj,Q,rfl,((aC.at d).EQ aA).EQ V,ak⟩
  cases ah with
  |normal=>exact fin ac
  |ret=>exact fin ac
  |exit n=>exact ac.elim
  |goto n=>exact ac.elim
def dfH(P:zv)(k:zA5)(q:FnD)(H:qNA):qNA:=λh f args hs K=>match zAL f k with
 |true=>JM P H q h args hs K
 |false=>H h f args hs K
def qAb{P:zv}{E:Env P}(hm:P.follows .mixedOrders=I){H:qNA}(q:∀fr:Fr,fr.has E->CC E fr H){k:zA5}{D:F (F Z×OI)}{L:F (F Z)}{Q:F (F Z×OI)}{R:F (F Z)}{u:FnD}(T:qJU P k D L Q R=O u):∀fr:Fr,fr.has E->CC E fr (dfH P k u H):=λfr A U B f args hs K h w C=>by
 unfold dfH at h;split at h
 .rename_i V;obtain rfl:=zP V;exact qrV hm q T A B h C
 .exact q fr A U B f args hs K h w C
def Ok.JA{P}(hm:P.follows .mixedOrders=I){D}(W:q6B P D)(d){k}{Y}{aa}{ab}{ac}{L}(ad:qJU P k Y aa ab ac=O L){f}{ae}{af}{R}(ag:FN P f ae af=O R){args}{g}{Q}(h:fnS P (dfH P k L (II P D d)) R noY args ⟨g,[],0,g.w.heap.size⟩ λv T=>Gv v T λv' A=>qqJ v' λx=>∀g2,A.g<=g2->Q x g2):Ok P f (qCA args) g Q:=by
 intro w U E hE;have ah:Ap ⟨w,(·<w.heap.size),g.g,λ_ h=>h⟩ ⟨g,[],0,g.w.heap.size⟩ w:=⟨U,⟨rfl,rfl,rfl,zH _,λ_ _=>rfl⟩,(λr ai=>by cases ai),zBW,(λb B=>by cases B),(λn _ h=>h),(λn aj ak _=>by have:=g.wf n ak;exact absurd aj (zDu.2 this)),U.1,λb B=>by cases B⟩;refine(q1G hm (qAb hm (λal=>qTN E hm W d al) ad) ag (λn u=>zQ u hE) (qOG E _) h ah).mono ?_;rintro e aq ⟨v,T,rfl,am,C⟩;obtain⟨v',A,C,an,q⟩:=qEG v C am;have V:=qBD v' C;rw[an]at V;refine⟨_,rfl,⟨q.frm.os,q.frm.tape,q.frm.output,q.frm.size,λn u=>q.frm.block n u⟩,V _ ⟨q.AJ.1,λn u=>⟨⟨zQ (A.g.wf n u) q.AJ.1,?_⟩,q.AJ.2 n u⟩⟩⟩;rcases zAJ n w.heap.size with ao|ap
 .exact .inl (q.fz n ao u)
 .exact .inr ap
end Go.Proofs.YtlmhpamhhgogaaaGreat.Sx
namespace Go.Duo
open Go.Conc
open Go.Proofs.YtlmhpamhhgogaaaGreat.Sx
section
abbrev NoS:Loc->Prop:=λ_=>zX
abbrev TrK:zp->Prop:=λ_=>True
def qlE:∀(w:zp)(d:Z),TrK w->TrK (w.at d):=λ_ _ h=>h
def qES{S}{B q}(u:B<=q){e}(h:EvC S B e):EvC S q e:=by
 obtain⟨a,rfl,hs,A⟩:=h;exact⟨a,rfl,hs,zQ A u⟩
def q7R{P}{main}{R}{D B}{S S'}(C:∀w w' es,D w w' es->B w w' es)(A:∀g w,S g w->S' g w):∀{n:Z}{g:zE}{w:zp},Goes P main R D S n g w->Goes P main R B S' n g w
 |0,_,_,h=>λq u=>A _ _ (h q u)
 |n+1,g,w,h=>by
  rcases h with h|⟨hs,h⟩
  .exact .inl λq u=>A _ _ (h q u)
  .refine .inr ⟨hs,λq u=>?_⟩;have:=h q u;revert this;cases zAD P main g q<;>simp only[GStep.goes,imp_self];exact λ⟨d,x⟩=>⟨C _ _ _ d,q7R C A x⟩
def qgP{P}{main}{K}{S}{B q}(A:B<=q){s}{g u}(h:AtIn P main K S B s g u):AtIn P main K S q s g u:=by
 obtain⟨C,D,E,H,L,es,Q,R⟩:=h;exact⟨C,D,E,H,L,es,λe T=>qES A (Q e T),R⟩
def qQC{P}{main}{K}{S}{B A}(q:B<=A){s}{n}{g}(h:zDF P main K S B s n g):zDF P main K S A s n g:=by
 rcases h with⟨k,w,rfl,h⟩|⟨rfl,D,u,rfl,h⟩
 .exact .inl ⟨k,w,rfl,q7R (λ_ _ _ C=>⟨C.1,λe E=>qES q (C.2 e E)⟩) (λ_ _⟨u,h⟩=>⟨u,qgP q h⟩) h⟩
 .exact .inr ⟨rfl,D,u,rfl,qgP q h⟩
def q5O{P}{K}{S}{B q}(A:B<=q){u}{i n}{g}{o}(h:Idle P K S B u i n g o):Idle P K S q u i n g o:=by
 cases o with
 |none=>exact h
 |some s=>exact qQC A h
def qYK{P}{K}{S}{B u}{Mem}{Inb}{h}{A}{D}{w}{q}(C:Ring P K S B Mem Inb h A D w q)(E:B<=u):Ring P K S u Mem Inb h A D w q:=
 C.mono E λi g H L=>q5O E (C.idle i g H L)
def qha(x:MemAct):∃B,x.low B:=by
 cases x with
 |access e=>
  obtain⟨l,wr,s⟩:=e;cases l with
  |cell a=>exact⟨a.block+1,zBI _⟩
  |obj r=>exact⟨r+1,zBI _⟩
  |_=>exact⟨0,trivial⟩
 |send c k=>exact⟨c+1,zBI _⟩
 |sendDone c k=>exact⟨c+1,zBI _⟩
 |recv c k cap=>exact⟨c+1,zBI _⟩
 |recvDone c k=>exact⟨c+1,zBI _⟩
 |close c=>exact⟨c+1,zBI _⟩
 |recvClosed c=>exact⟨c+1,zBI _⟩
 |mark m=>
  cases m<;>first|exact⟨0,trivial⟩|(rename_i a;exact⟨a.block+1,zBI _⟩)
 |_=>exact⟨0,trivial⟩
def qON(es:zS Event)(B0:Z):∃B,B0<=B/\∀e∈es,(MemAct.ofEvent e).low B:=by
 have:∀l:F Event,∃B,B0<=B/\∀e∈l,(MemAct.ofEvent e).low B:=by
  intro l
  induction l with
  |nil=>exact⟨B0,zH _,λe q=>by simp at q⟩
  |cons x l u=>
   obtain⟨B,H,h⟩:=u;obtain⟨A,C⟩:=qha (MemAct.ofEvent x);refine⟨max B A,sa,λe q=>?_⟩;rcases zs.1 q with rfl|q
   .exact MemAct.low_mono sa C
   .exact MemAct.low_mono sa (h e q)
 obtain⟨B,D,E⟩:=this es.toList;exact⟨B,D,λe q=>E e (Array.mem_toList_iff.2 q)⟩
variable{P:zv}{Mem:Z->Prop}{Inb:Z->zy Seat}{h:Z}
structure Ew(P:zv)(Mem:Z->Prop)(Inb:Z->zy Seat)(h n:Z)(a:zE)(w:zp)(m:Machine)(T:zDC):Prop where
 of:∃gs sl q B,m=zA7 gs w sl/\n<=gs.size/\gs[h]?=O a/\Ring P TrK NoS B Mem Inb h T gs w q
def Comes(P:zv)(m:Machine)(A:zDC)(Q:Machine->zDC->Prop):Prop:=∃N q u,runNT P N m A=(.next q,u)/\Q q u
def Comes.now{m}{q}{Q}(h:Q m q):Comes P m q Q:=⟨0,m,q,rfl,h⟩
def Comes.trans{m}{u}{Q A}(h:Comes P m u Q)(k:∀m' q,Q m' q->Comes P m' q A):Comes P m u A:=by
 obtain⟨N,m',q,B,C⟩:=h;obtain⟨D,E,H,L,R⟩:=k m' q C;exact⟨N+D,E,H,runNT_then B L,R⟩
def Comes.mono{m}{q}{Q u}(h:Comes P m q Q)(k:∀m' A,Q m' A->u m' A):Comes P m q u:=h.trans λ_ _ B=>.now (k _ _ B)
def qXK{E:Env P}(hE:E.main=(h==0))(Y:∀i s c,Inb i=O s->s.has c->c<E.N)(aa:∀f args c cs w R m u,(∀d,E.Big f args (w.at d) R)->Ew P Mem Inb h 0 (Conc.G (zAR P f args .normal) (c::cs)) w m u->Comes P m u λm' A=>∃v w',R v w'/\Ew P Mem Inb h 0 (Conc.G (c.finish v) cs) w' m' A):∀{a:zE}{w:zp},E.G a w->∀{m:Machine}{u:zDC},Ew P Mem Inb h 0 a w m u->Comes P m u λm' A=>∃a' w',E.Stop a' w'/\Ew P Mem Inb h 0 a' w' m' A:=by
 intro a w ab
 induction ab with
 |@stop a w hs=>exact λD=>.now ⟨a,w,by have:=hs w.drawn;exact this,D⟩
 |@step a w ac B C H ad _ L=>
  rintro m u ⟨aE,sl,aF,ae,rfl,_,af,ag⟩;obtain⟨N,ah,d,q,aG,T,ai,aH,aj,ak,aI,U,al⟩:=picked (sl:=sl) qlE af ac ag;obtain⟨V,am,W⟩:=ad q;obtain⟨an,ao,ap⟩:=qON (H q) ae;rw[hE]at V;have aq:DH TrK NoS an Inb (w.at q) (C q) (H q):=⟨λ_=>trivial,λi s c ar au=>am c (Y i s c ar au),λe Q=>⟨λ_ _ av=>av.elim,(W e Q).1,(W e Q).2,ap e Q⟩⟩;obtain⟨aw,ax⟩:=(qYK al ao).own (a':=B q) U aq;have ay:=runT_crowd_go (P:=P) (sl:=T) U V;have az:Ew P Mem Inb h 0 (B q) (C q) (zA7 ((ah.map (woken P a (B q) (C q))).setIfInBounds h (B q)) (C q) T) (ai++zAO h a.frame.fn a.frame.place (H q)):=⟨_,_,_,_,rfl,zJ _,ax,aw⟩;exact Comes.trans ⟨N+1,_,_,runNT_succ_of aj (ak.trans ay),az⟩ λm' A aA=>L q aA
 |@big f args c cs w R aB _ L=>
  intro m u D;exact(aa f args c cs w R m u aB D).trans λm' A⟨v,w',aC,aD⟩=>L v w' aC aD
end
end Go.Duo
namespace Go.Duo
open Go.Conc
open Go.ConcN (sumTo upd sumTo_upd upd_ne upd_same)
open Go.Proofs.YtlmhpamhhgogaaaGreat.Sx
abbrev qlF(P:zv)(St:Loc->Prop)(Lo:Z->Prop)(B:Z)(Kf:zDC->Z->Prop)(Mem:Z->Prop)(Inb:Z->zy Seat)(Sp:Z->Prop)(T:zDC)(gs:zS zE)(w:zp)(q:Z->Z):Prop:=
 TokCore P TrK St B Kf Mem Lo Inb Sp (λ_=>zX) T gs w q
abbrev Dt(P:zv)(B:Z)(Kf:zDC->Z->Prop)(Mem:Z->Prop)(Inb:Z->zy Seat)(Sp:Z->Prop)(T:zDC)(gs:zS zE)(w:zp)(q:Z->Z):Prop:=
 TokCore P TrK NoS B Kf Mem (λ_=>True) Inb Sp (λ_=>zX) T gs w q
def qiK{Mem L u}{B}{K}{t}(h:PastG NoS Mem L B K t):PastG NoS Mem u B K t:=
 ⟨h.clean,λi a A hm=>(h.known i a A hm).imp id λ⟨_,y,_⟩=>y.elim,h.wrote,h.hears,h.seen⟩
def qRc{Mem L}{B}{K K'}{t}(h:PastG NoS Mem L B K t)(A:∀i a,touchAt t i=O a->a.loc.isMemory=I->K i->K' i):PastG NoS Mem L B K' t:=
 ⟨h.clean,λi a u hm=>(h.known i a u hm).imp (A i a u hm) id,h.wrote,h.hears,h.seen⟩
def qiR{Mem u L}{B}{K}{t}(h:PastG NoS Mem L B K t)(hm:∀g,u g->Deaf t g=0):PastG NoS u L B K t:=
 ⟨h.clean,h.known,λ_ _ _ _ hs=>hs.elim,hm,h.seen⟩
section
variable{P:zv}{St:Loc->Prop}{Lo:Z->Prop}{B:Z}{Kf:zDC->Z->Prop}{Mem:Z->Prop}{Inb:Z->zy Seat}{Sp:Z->Prop}{T:zDC}{gs:zS zE}{w:zp}{q:Z->Z}{h:Z}
def qJE(C:Dt P B (λt=>Knows t h) Mem Inb (·=h) T gs w q):Ring P TrK NoS B Mem Inb h T gs w q:=
 ⟨C.idle,C.chans,C.wf,C.live,C.inj,C.above,C.mem,C.nomem,λi s u e=>⟨u,by rw[e];rfl⟩,qiK C.past,trivial⟩
def qiI{A}(C:qlF P St Lo B Kf Mem Inb Sp T gs w q)(u:B<=A):qlF P St Lo A Kf Mem Inb Sp T gs w q:=
 ⟨λi g D E=>q5O u (C.idle i g D E),C.chans,C.wf,C.live,C.inj,C.above,λi s e=>⟨(C.mem i s e).1,λc H=>zQ ((C.mem i s e).2 c H) u⟩,C.nomem,C.lo,PastG.mono C.past u,C.keep⟩
def qEJ(C:qlF P St Lo B Kf Mem Inb Sp T gs w q){w'}(A:∀i s c,Inb i=O s->s.has c->w'.heap[c]?=w.heap[c]?):qlF P St Lo B Kf Mem Inb Sp T gs w' q:=
 ⟨C.idle,λi s c D e u=>by rw[A i s c e u];exact C.chans i s c D e u,C.wf,C.live,C.inj,C.above,C.mem,C.nomem,C.lo,C.past,trivial⟩
def qrH(C:qlF P St Lo B Kf Mem Inb Sp T gs w q)(d):qlF P St Lo B Kf Mem Inb Sp T gs (w.at d) q:=qEJ C λ_ _ _ _ _=>rfl
def qhI(C:qlF P St Lo B Kf Mem Inb Sp T gs w q){i}(L:Sp i)(Y:i<gs.size){w'}(Q:∀i s c,Inb i=O s->s.has c->w'.heap[c]?=w.heap[c]?){ops}(E:∀op∈ops,op.g=i){D}(aa:D.size=gs.size)(R:∀x,¬Sp x->D[x]?=gs[x]?)(U:PastG St Mem Lo B (Kf (T++ops)) (T++ops)):qlF P St Lo B Kf Mem Inb Sp (T++ops) D w' q:=by
 have V:=qEJ C Q;refine⟨λx y u H=>?_,V.chans,C.wf,λ_ _ u=>u.elim,C.inj,λj ab=>?_,C.mem,C.nomem,C.lo,U,trivial⟩
 .have W:x≠i:=λe=>u (e▸L);rw[R x u]at H;have A:=C.idle x y u H;cases es:Inb x with
  |none=>rw[es]at A;exact⟨A.1,by rw[Deaf_other T (λz=>W z.symm) _ E];exact A.2⟩
  |some s=>rw[es]at A;exact A
 .rw[Deaf_other T (g':=i) sa _ E];exact C.above j sa
def qwQ(C:qlF P St Lo B Kf Mem Inb Sp T gs w q){i}(A:Sp i)(a g'){w'}(D:∀i s c,Inb i=O s->s.has c->w'.heap[c]?=w.heap[c]?):∀x,¬Sp x->((gs.map (woken P a g' w')).setIfInBounds i g')[x]?=gs[x]?:=by
 intro x u;have E:x≠i:=λe=>u (e▸A);rw[zM (λe=>E e.symm),zDo];cases e:gs[x]? with
 |none=>rfl
 |some y=>simp[woken_of_again ((qEJ C D).fixed u e)]
def qbB(C:qlF P St Lo B Kf Mem Inb Sp T gs w q){i}(u:Sp i){a a'}(E:gs[i]?=O a){w'}{es}(A:∀i s c,Inb i=O s->s.has c->w'.heap[c]?=w.heap[c]?)(H:PastG St Mem Lo B (Kf (T++zAO i a.frame.fn a.frame.place es)) (T++zAO i a.frame.fn a.frame.place es)):qlF P St Lo B Kf Mem Inb Sp (T++zAO i a.frame.fn a.frame.place es) ((gs.map (woken P a a' w')).setIfInBounds i a') w' q/\((gs.map (woken P a a' w')).setIfInBounds i a')[i]?=O a'/\∀x y,x≠i->gs[x]?=O y->((gs.map (woken P a a' w')).setIfInBounds i a')[x]?=O (woken P a a' w' y):=by
 have D:i<gs.size:=(zAb.1 E).1;have L:∀op∈zAO i a.frame.fn a.frame.place es,op.g=i:=λop Q=>by obtain⟨e,_,rfl⟩:=Go.Conc.mem_ofEvents Q;rfl
 refine⟨qhI C u D A L se (qwQ C u a a' A) H,zV (by simpa using D),λx y R U=>?_⟩;rw[zM (λe=>R e.symm),zDo,U];rfl
def qAD(C:qlF P St Lo B Kf Mem Inb Sp T gs w q)(D:∀i g,Sp i->gs[i]?=O g->awake g):∀g∈gs,awake g:=by
 intro g E;obtain⟨i,A,rfl⟩:=Array.mem_iff_getElem.1 E;by_cases e:Sp i
 .exact D i _ e (zAK A)
 .have u:=C.idle i _ e (zAK A);cases es:Inb i with
  |none=>rw[es]at u;exact awake_of (u.2.status.elim .inl λx=>.inr (.inr x))
  |some s=>rw[es]at u;exact awake_of ((Sits.status C.keep u).elim (λx=>.inl x.1) λx=>.inr (.inl x.1))
def qhN(H:∀t u i,Kf t i->Kf (t++u) i)(C:qlF P St Lo B Kf Mem Inb Sp T gs w q){i}{g}{sl}(L:gs[i]?=O g)(E:¬Sp i)(Q:g.status=.running)(R:∀x D,Sp x->gs[x]?=O D->D.again w=D)(U:∀x,¬Sp x->Inb x=zc):∃(A:zS zE)(ops:zS MemOp)(q':Z->Z),runT P (zA7 gs w sl) i=(.next (zA7 A w sl),ops)/\A.size=gs.size/\(∀x,Sp x->A[x]?=gs[x]?)/\qlF P St Lo B Kf Mem Inb Sp (T++ops) A w q'/\sumTo gs.size q'<sumTo gs.size q:=by
 obtain⟨A,ops,q',V,W,Y,_,_,aa,ab⟩:=TokCore.by_step (sl:=sl) H C L E Q R (λh=>h.elim) (λs ac e _=>by rw[U i E]at e;cases e);exact⟨A,ops,q',V,W,Y,aa,ab⟩
end
section
variable{P:zv}
def qhA(i)(fn)(pos:String):zAO i fn pos #[]=#[]:=by simp[zAO]
def qbN{B}:∀e∈(#[]:zS Event),EvHd NoS B e:=λe h=>by simp at h
def Pre(P:zv)(N:Z)(o:Obj)(S:Seat)(k':Z):Z->zE->Prop
 |0,g=>g.status=.running/\∃h,(∀w,w.heap.size=N->zAD P zb g w=.go h (w.alloc o) #[])/\zDF P zb TrK NoS 0 S k' h
 |n+1,g=>g.status=.running/\∃h,(∀w,zAD P zb g w=.go h w #[])/\Pre P N o S k' n h
def Pre.run{N}{o}{S}{k'}:∀{n:Z}{g:zE},Pre P N o S k' n g->g.status=.running
 |0,_,h=>h.1
 |_+1,_,h=>h.1
def Way(P:zv)(B:Z)(K:zp->Prop)(Stop:zE->Prop):Z->zE->Prop
 |0,g=>Stop g
 |n+1,g=>g.status=.running/\∃h,(∀w,K w->∃es,zAD P I g w=.go h w es/\∀e∈es,EvHd NoS B e)/\Way P B K Stop n h
def Way.goes{B:Z}{K:zp->Prop}{Stop:zE->Prop}{w:zp}(A:∀d,K (w.at d)):∀{n:Z}{g:zE}(e:Z),Way P B K Stop n g->Goes P I AtRel (DQ NoS B) (λg' w'=>Stop g'/\∃d,w'=w.at d) n g (w.at e)
 |0,g,e,h=>λC⟨d,u⟩=>⟨h,d,u⟩
 |n+1,g,e,⟨D,g',E,h⟩=>.inr ⟨D,λC⟨d,u⟩=>by
   subst u;obtain⟨es,H,L⟩:=E _ (A d);have Q:zAD P I g ((w.at e).at d)=.go g' (w.at d) es:=H;rw[Q,goes_go]
   exact⟨⟨rfl,L⟩,Way.goes A d h⟩⟩
def KA(W:zp)(o:Obj)(w:zp):Prop:=∃d,w=W.at d\/w=(W.alloc o).at d
def qxH(P:zv)(K:zp->Prop)(c:Z)(v:zg)(After:zE->Prop)(g:zE):Prop:=
 g.status=.running/\∃h z',(∀w,K w->zAD P I g w=.comm h #[scase c v z'] I .send w #[])/\After (zA0 h zAU)
def qmF(P:zv)(K:zp->Prop)(c:Z)(After:zE->Prop)(g:zE):Prop:=
 g.status=.running/\mayWake P g=I/\∃h,h.status=.running/\(∀w,K w->∀cap k,w.heap[c]?=O (.chan cap #[] zb k k zb)->zAD P I g w=.go h (w.setChan c cap #[] I k k zb) (zA1 c))/\After h
def qeA{m m'}{ops T}(h:stepT P m=(.next m',ops)):runNT P 1 m T=(.next m',T++ops):=by simp only[runNT,h]
section meet
variable{B:Z}{Mem:Z->Prop}{Inb:Z->zy Seat}{T:zDC}{gs:zS zE}{w:zp}{q:Z->Z}{s c k:Z}{S:Seat}{v z z':zg}{a₂:zE}{sl:zy (Z×Z)}
def qba(U:s≠0)(u:Inb s=O S)(ar:S.cases=#[zAN c z])(aH:∀i,i≠0->i≠s->Inb i=zc)(au:Mem 0){Inb'}(aI:∀x,x≠0->Inb' x=Inb x)(aJ:Inb' 0=Inb 0\/Inb' 0=zc){nh}(aK:∀V,Deaf V 0=0->Idle P TrK NoS B V 0 nh (zA0 a₂ zAU) (Inb' 0))(bf:∀ah C,Inb 0=O ah->ah.has C->C≠c):∀(ad:Z)(gs:zS zE)(d:Z)(sl:zy (Z×Z))(q:Z->Z)(T:zDC),s<gs.size->gs[0]?=O (parked a₂ #[scase c v z'] .send)->0<q s->Dt P B (λt=>Knows t 0) Mem Inb (·=0) T gs (w.at d) q->w.heap[c]?=O (.chan 0 #[] zb k k zb)->sumTo gs.size q=ad->Comes P (zA7 gs (w.at d) sl) T λm' V=>Given P TrK NoS B Mem Inb' s S c 0 gs.size w v m' V:=by
 intro ad
 induction ad using Nat.strongRecOn with
 |_ ad aL=>
 intro gs d sl q T aM D aN A ai bh;have aO:0<gs.size:=sa
 have av:S.cases[0]?=O (zAN c z):=by rw[ar];rfl
 have aw:S.has c:=⟨0,z,av⟩;obtain⟨H,ax⟩:∃H,gs[s]?=O H:=⟨gs[s],zAK aM⟩;have aP:zDF P (s==0) TrK NoS B S (q s) H:=by have:=A.idle s H U ax;rwa [u]at this
 have aQ:H.status=.running:=(Sits.status (w:=w) trivial aP).elim (·.1) (λz=>sa)
 obtain⟨i,g,L,Y,R,aa,aj⟩:=crowd_pick (P:=P) (w:=w.at d) (sl:=sl) (qAD A λi g R aa=>by
  subst R;rw[D]at aa;obtain rfl:=zn aa;exact awake_of (.inr (.inl rfl))) ⟨s,H,ax,aQ⟩
 rw[at_at']at aj;have ae:=qrH A L;rw[at_at']at ae;have ak:(w.at L).heap[c]?=O (.chan 0 #[] zb k k zb):=ai;by_cases e:i=0
 .subst e;rw[D]at R;obtain rfl:=zn R;cases aa
 by_cases al:i=s/\∃h,AtIn P (i==0) TrK NoS B S g h
 .obtain⟨rfl,h,ab⟩:=al;obtain⟨_,_,_,_,aR,am,aT,aU⟩:=ab;obtain⟨ay,aW,aX,az⟩:=evC_ops (i:=i) (fn:=g.frame.fn) (pos:=g.frame.place) aT
  have aY:partners (gs.setIfInBounds i ph) c I=[(0,0)]:=by
   rw[partners_one (stand_get (zBs U) D) λx y E aZ=>by
    rcases getElem?_stand gs i x y aZ with⟨_,rfl⟩|⟨_,a0⟩
    .exact offersAt_ph _ _
    .exact TokCore.noSend ae E a0 _]
   simp[offersAt_parked_send]
  have a1:∀(m:Z)(C:CommCase),m≠0->S.cases[m]?=O C->NoWays (w.at L) (gs.setIfInBounds i ph) C:=by
   intro m C hm an;rw[ar]at an;rcases m with _|m
   .exact absurd rfl hm
   .simp at an
  have a2:=crowd_sel_recv_meets (sl:=Y) R (aU _ trivial) av a1 ak (zBs U) D aY;have a3:PastH NoS Mem (λg=>g≠0/\(Inb g).isSome) B 0 (T++zAO i g.frame.fn g.frame.place am):=PastH.appRead (qiK A.past) (A.mem i S u).1 ⟨U,by rw[u];rfl⟩ ay aW (az T) aX;have aA:=a3.give au (A.mem i S u).1 a₂.frame.fn a₂.frame.place h.frame.fn h.frame.place k 0 ((A.mem i S u).2 c aw);rw[zCU]at aA
  have a4:∀x,Deaf (T++zAO i g.frame.fn g.frame.place am) x=Deaf T x:=λx=>by
   by_cases aB:x=i
   .subst aB;exact az T
   .exact Deaf_other T (λz=>aB z.symm) _ ay
  have aC:∀x,Deaf (T++(zAO i g.frame.fn g.frame.place am++met 0 i a₂.frame.fn a₂.frame.place h.frame.fn h.frame.place c k 0)) x=Deaf T x:=λx=>by rw[<-zCU,Deaf_quiet (met_quiet _ _ _ _ _ _ _ _ _ x),a4]
  refine⟨1,_,_,qeA (aj.trans a2),_,h,L,k,0,Y,upd q 0 nh,rfl,se,by rw[zV sf,finishComm_served],aR,ai,?_⟩
  exact Ring.pass (λ_ _ _ _ _ _ _ _ _ _ _ _ _=>trivial) (qJE ae) u aw ak se (λx E a5=>by rw[zM (λz=>a5 z.symm),zM (λz=>E z.symm)])
   (by rw[zM U,zV aO,finishComm_send]) aC aI aJ (aK _ (by rw[aC];exact A.past.hears 0 au)) aA
 .obtain⟨ao,aD,af,a6,aE,a7,a8,a9,ba,bi⟩:=TokCore.by_step (sl:=Y) (λt bb i=>Knows.app bb) ae R e aa
   (λx bc E ac=>by subst E;rw[D]at ac;obtain rfl:=zn ac;exact again_send_open ak) (λap=>ap.elim)
   (λah h ag ab=>⟨λap=>ap,λx bc C E ac an=>by
    subst E;rw[D]at ac;obtain rfl:=zn ac;rw[offersAt_parked_send,zj];intro bd;subst bd;by_cases aF:i=s
    .subst aF;rw[u]at ag;obtain rfl:=zn ag;exact al ⟨rfl,h,ab⟩
    .rw[aH i e aF]at ag;cases ag⟩)
  have be:0<af s:=by
   by_cases aG:s=i
   .subst aG;rcases zDn (af s)with aq|aq
    .obtain⟨h,ab⟩:=a9 S u aq;exact absurd ⟨rfl,h,ab⟩ al
    .exact aq
   .rw[a8 s aG];exact aN
  have:=aL (sumTo ao.size af) (by rw[aE];omega) ao L Y af (T++aD) sa (by rw[a7 0 rfl];exact D) be ba ai rfl;rw[aE]at this
  exact Comes.trans (Q:=λm t=>m=zA7 ao (w.at L) Y/\t=T++aD) ⟨1,_,_,qeA (aj.trans a6),rfl,rfl⟩ λm' V hm=>by
   obtain⟨rfl,rfl⟩:=hm;exact this
end meet
section pre
variable{B:Z}{Mem:Z->Prop}{Inb:Z->zy Seat}{W:zp}{o:Obj}{s c k k':Z}{S:Seat}{v:zg}{After:zE->Prop}
def MS(P:zv)(B:Z)(W:zp)(o:Obj)(c:Z)(v:zg)(After:zE->Prop)(j:Z)(a:zE):Prop:=
 (∃h,j=h+1/\Way P B (KA W o) (qxH P (KA W o) c v After) h a)\/(j=0/\∃u z',a=parked u #[scase c v z'] .send/\After (zA0 u zAU))
def Way.run{K}{Stop}(u:∀g,Stop g->g.status=.running):∀{n:Z}{g:zE},Way P B K Stop n g->g.status=.running
 |0,_,h=>u _ h
 |_+1,_,h=>h.1
def qsN(W:zp)(d:Z)(o:Obj):(W.at d).alloc o=(W.alloc o).at d:=rfl
def heap_alloc_old{W:zp}{c:Z}{x o:Obj}(h:W.heap[c]?=O x):(W.alloc o).heap[c]?=W.heap[c]?:=by
 have u:=(zAb.1 h).1;show(W.heap.push o)[c]?=_;rw[zCy,zj sa]
def qQX(a5:0<s)(ai:W.heap[c]?=O (.chan 0 #[] zb k k zb))(au:∀i,i≠0->Inb i=zc)(a6:∀X aj,Inb 0=O X->X.has aj->aj≠c):∀(ae:Z)(gs:zS zE)(d:Z)(sl:zy (Z×Z))(q:Z->Z)(T:zDC)(ks:Z)(b:zE)(j:Z)(a:zE),gs.size=s+1->gs[s]?=O b->Pre P W.heap.size o S k' ks b->gs[0]?=O a->MS P B W o c v After j a->Dt P B (λt=>Knows t 0) Mem Inb (λi=>i=0\/i=s) T gs (W.at d) q->ks+j+sumTo gs.size q=ae->Comes P (zA7 gs (W.at d) sl) T λm' ak=>∃u h sl' q' E j' a',m'=zA7 u ((W.alloc o).at h) sl'/\u.size=s+1/\u[s]?=O E/\zDF P zb TrK NoS 0 S k' E/\u[0]?=O a'/\MS P B W o c v After j' a'/\Dt P B (λt=>Knows t 0) Mem Inb (λi=>i=0\/i=s) ak u ((W.alloc o).at h) q':=by
 intro ae
 induction ae using Nat.strongRecOn with
 |_ ae aE=>
 intro gs d sl q T ks b j a af C V R hM av a7;have ag:=V.run;have al:s≠0:=sa
 have aw:a.status=.running\/∃Y z',a=parked Y #[scase c v z'] .send:=by
  rcases hM with⟨j',_,aa⟩|⟨_,Y,z',e,_⟩
  .exact .inl (Way.run (λg U=>U.1) aa)
  .exact .inr ⟨Y,z',e⟩
 have ao:∀h,a.again (W.at h)=a/\a.again ((W.alloc o).at h)=a:=λh=>by
  rcases aw with aa|⟨Y,z',rfl⟩
  .exact⟨again_of_running (.inl aa) _,again_of_running (.inl aa) _⟩
  .exact⟨again_send_open (w:=W.at h) ai,again_send_open (w:=(W.alloc o).at h) ((heap_alloc_old ai).trans ai)⟩
 have ax:(s==0)=zb:=sf
 obtain⟨i,g,h,sl',ab,U,ap⟩:=crowd_pick (P:=P) (w:=W.at d) (sl:=sl) (qAD av λi g ab U=>by
  rcases ab with rfl|rfl
  .rw[R]at U;obtain rfl:=zn U;rcases aw with aa|⟨Y,z',rfl⟩
   .exact awake_of (.inl aa)
   .exact awake_of (.inr (.inl rfl))
  .rw[C]at U;obtain rfl:=zn U;exact awake_of (.inl ag)) ⟨s,b,C,ag⟩
 rw[at_at']at ap;have D:Dt P B (λt=>Knows t 0) Mem Inb (λi=>i=0\/i=s) T gs (W.at h) q:=qrH av h
 have go:∀{u:zS zE}{q':Z->Z}{ops:zDC}{am:Z}{E:zE}{j':Z}{a':zE},runT P (zA7 gs (W.at h) sl') i=(.next (zA7 u (W.at h) sl'),ops)->u.size=s+1->u[s]?=O E->Pre P W.heap.size o S k' am E->u[0]?=O a'->MS P B W o c v After j' a'->
   Dt P B (λt=>Knows t 0) Mem Inb (λi=>i=0\/i=s) (T++ops) u (W.at h) q'->am+j'+sumTo u.size q'<ae->Comes P (zA7 gs (W.at d) sl) T λm' ak=>∃u h sl' q' E j' a',m'=zA7 u ((W.alloc o).at h) sl'/\u.size=s+1/\u[s]?=O E/\zDF P zb TrK NoS 0 S k' E/\u[0]?=O a'/\MS P B W o c v After j' a'/\
    Dt P B (λt=>Knows t 0) Mem Inb (λi=>i=0\/i=s) ak u ((W.alloc o).at h) q':=by
  intro u q' ops am E j' a' ah aF aG aH aI aJ aK aL
  exact Comes.trans (Q:=λm t=>m=zA7 u (W.at h) sl'/\t=T++ops) ⟨1,_,_,qeA (ap.trans ah),rfl,rfl⟩ λm' ak hm=>by
   obtain⟨rfl,rfl⟩:=hm;exact aE _ aL u h sl' q' _ am E j' a' aF aG aH aI aJ aK rfl
 by_cases aM:i=0
 .subst aM;rw[R]at ab;obtain rfl:=zn ab;rcases hM with⟨j',rfl,hW⟩|⟨_,Y,z',rfl,_⟩
  .cases j' with
   |zero=>
    obtain⟨ah,Y,z',aN,aO⟩:=hW
    have aP:partners (gs.setIfInBounds 0 ph) c zb=[]:=partners_nil λx y aQ=>by
     rcases getElem?_stand gs 0 x y aQ with⟨_,rfl⟩|⟨A,aq⟩
     .exact offersAt_ph _ _
     .by_cases aR:x=s
      .subst aR;rw[C]at aq;obtain rfl:=zn aq;exact offersAt_of_not_blocked (by rw[ag];simp) _ _
      .exact TokCore.noRecvAt D sa aq λay az _=>by rw[au x A]at az;cases az
    have aT:∀aA∈#[scase c v z'],NoWays (W.at h) (gs.setIfInBounds 0 ph) aA:=by
     intro aA aB;simp only[zAv,zs,zC,zAt]at aB;subst aB;exact ways_send_none (w₁:=W.at h) ai (zH _) aP
    have H:=crowd_waits (P:=P) (sl:=sl') R (aN _ ⟨h,.inl rfl⟩) aT;rw[qhA]at H;refine go (q':=q) (ops:=#[]) (j':=0) H (by simp[af]) (by rw[zM (λe=>al e.symm)];exact C) V (zV sa) (.inr ⟨rfl,Y,z',rfl,aO⟩) ?_ sf;exact qhI D (.inl rfl) sa (λ_ _ _ _ _=>rfl) se se (λx A=>zM (λe=>A (.inl e.symm))) (by simpa using D.past)
   |succ j'=>
    obtain⟨ah,ad,L,hW⟩:=hW;obtain⟨es,L,aU⟩:=L _ ⟨h,.inl rfl⟩;obtain⟨aW,hs,aX,aY⟩:=evHd_ops (i:=0) (fn:=a.frame.fn) (pos:=a.frame.place) aU;have H:=runT_crowd_go (P:=P) (sl:=sl') R L;obtain⟨ac,aZ,A⟩:=qbB D (.inl rfl) (a':=ad) R (w':=W.at h) (λ_ _ _ _ _=>rfl) (PastH.appH D.past aW hs (aY T) aX);refine go H (by simp[af]) (A s b al C) (by rw[woken_run ag];exact V) aZ (.inl ⟨j',rfl,hW⟩) ac sf
  .cases U
 by_cases es:i=s
 .subst es;rw[C]at ab;obtain rfl:=zn ab;cases ks with
  |zero=>
   obtain⟨ah,ad,L,a0⟩:=V;have L:=L (W.at h) rfl;rw[qsN]at L;have H:=runT_crowd_go (P:=P) (sl:=sl') C (by rw[ax];exact L)
   have a1:∀i s c,Inb i=O s->s.has c->((W.alloc o).at h).heap[c]?=(W.at h).heap[c]?:=λa2 ay aj e a3=>by
    obtain⟨cap,a8,aa⟩:=D.chans a2 ay aj (λz=>z) e a3;exact heap_alloc_old (W:=W) aa
   obtain⟨ac,ar,A⟩:=qbB D (.inr rfl) (a':=ad) C (es:=#[]) a1 (by rw[qhA];simpa using D.past);refine⟨1,_,_,qeA (ap.trans H),_,h,sl',q,ad,j,a,rfl,by simp[af],ar,a0,?_,hM,ac⟩;rw[A 0 a (zBs al) R,woken_of_again (ao h).2]
  |succ ks=>
   obtain⟨ah,ad,L,V⟩:=V;have H:=runT_crowd_go (P:=P) (sl:=sl') C (by rw[ax];exact L (W.at h));obtain⟨ac,ar,A⟩:=qbB D (.inr rfl) (a':=ad) C (w':=W.at h) (es:=#[]) (λ_ _ _ _ _=>rfl) (by rw[qhA];simpa using D.past);refine go H (by simp[af]) ar V ?_ hM ac sf;rw[A 0 a (zBs al) R,woken_of_again (ao h).1]
 .obtain⟨u,ops,q',H,aC,aD,ac,a9⟩:=qhN (sl:=sl') (λt a4 i=>Knows.app a4) D ab sa U (λx ba A an=>by
   rcases A with rfl|rfl
   .rw[R]at an;obtain rfl:=zn an;exact(ao h).1
   .rw[C]at an;obtain rfl:=zn an;exact again_of_running (.inl ag) _) (λx A=>au x λe=>A (.inl e))
  exact go H (aC.trans af) (by rw[aD s (.inr rfl)];exact C) V (by rw[aD 0 (.inl rfl)];exact R) hM ac (by rw[aC];omega)
def qGP{R}{T}{gs}{w}{q}(C:Dt P B R Mem Inb (λi=>i=0\/i=s) T gs w q)(ai:s≠0)(aj:Inb s=zc)(ab:Mem s){b}(ac:gs[s]?=O b)(ad:zDF P zb TrK NoS 0 S k' b)(ae:S.Wf)(af:∀c,S.has c->∃cap k,w.heap[c]?=O (.chan cap #[] zb k k zb))(ag:∀c,S.has c->c<B)(U:∀i X V,Inb i=O X->X.has V->¬S.has V):Dt P B R Mem (upd Inb s (O S)) (·=0) T gs w (upd q s k'):=by
 have u:∀x,x≠s->upd Inb s (O S) x=Inb x:=λx E=>upd_ne Inb _ E;have ah:(s==0)=zb:=sf
 refine⟨λx y E L=>?_,λi X c _ e Y=>?_,λi X e=>?_,λ_ _ E=>E.elim,λi H X aa c e D A Q=>?_,C.above,λi X e=>?_,λi hM=>?_,λ_ _ _ _=>trivial,C.past,trivial⟩
 .by_cases h:x=s
  .subst h;rw[ac]at L;obtain rfl:=zn L;rw[upd_same,upd_same];show zDF P (x==0) TrK NoS B S k' b;rw[ah];exact qQC (zJ _) ad
  .rw[upd_ne q k' h,u x h];exact C.idle x y (λA=>A.elim E h) L
 .by_cases h:i=s
  .subst h;rw[upd_same]at e;obtain rfl:=zn e;exact af c Y
  .rw[u i h]at e;exact C.chans i X c (λz=>z) e Y
 .by_cases h:i=s
  .subst h;rw[upd_same]at e;obtain rfl:=zn e;exact ae
  .rw[u i h]at e;exact C.wf i X e
 .by_cases e1:i=s<;>by_cases e2:H=s
  .rw[e1,e2]
  .subst e1;rw[upd_same]at e;obtain rfl:=zn e;rw[u H e2]at D;exact absurd A (U H aa c D Q)
  .subst e2;rw[upd_same]at D;obtain rfl:=zn D;rw[u i e1]at e;exact absurd Q (U i X c e A)
  .rw[u i e1]at e;rw[u H e2]at D;exact C.inj i H X aa c e D A Q
 .by_cases h:i=s
  .subst h;rw[upd_same]at e;obtain rfl:=zn e;exact⟨ab,ag⟩
  .rw[u i h]at e;exact C.mem i X e
 .by_cases h:i=s
  .subst h;exact .inl (by rw[upd_same];simp)
  .rw[u i h];exact(C.nomem i hM).imp id λA=>A.elim id λe=>absurd e h
def qUT{n0}{X}{z}{T}{gs}{q}{ks j d}{a b}{sl}(ap:0<s)(Q:W.heap[c]?=O (.chan 0 #[] zb k k zb))(H:∀i,i≠0->Inb i=zc)(ac:Inb 0=O X)(ad:∀h,X.has h->h≠c)(aq:0<k')(ae:Mem 0)(ar:Mem s)(A:S.cases=#[zAN c z])(au:c<B)(av:gs.size=s+1)(aw:gs[s]?=O b)(ax:Pre P W.heap.size o S k' ks b)(R:gs[0]?=O a)(hW:Way P B (KA W o) (qxH P (KA W o) c v λg=>zDF P I TrK NoS B X n0 g) j a)(C:Dt P B (λt=>Knows t 0) Mem Inb (λi=>i=0\/i=s) T gs (W.at d) q):Comes P (zA7 gs (W.at d) sl) T λm' L=>Given P TrK NoS B Mem (upd Inb s (O S)) s S c 0 (s+1) (W.alloc o) v m' L:=by
 have D:s≠0:=sa
 have ay:S.cases[0]?=O (zAN c z):=by rw[A];rfl
 have U:∀h,S.has h->h=c:=λh⟨m,z',u⟩=>by
  rw[A]at u;rcases m with _|m
  .simp only[zC9,zCA,zAh,zAN,CommCase.mk.injEq,Value.chan.injEq]at u;exact u.1.symm
  .simp at u
 have az:S.Wf:=⟨λaW u=>by rw[A]at u;simp only[zAv,zs,zC,zAt]at u;exact⟨c,z,u⟩,λk m _ _ _ V af=>by
  rw[A]at V af;rcases k with _|k<;>rcases m with _|m
  .rfl
  .simp at af
  .simp at V
  .simp at V⟩
 have ag:∀E h,Inb 0=O E->E.has h->h≠c:=λE h e u=>by rw[ac]at e;obtain rfl:=zn e;exact ad h u
 refine(qQX (After:=λg=>zDF P I TrK NoS B X n0 g) (S:=S) ap Q H ag _ gs d sl q T ks b (j+1) a av aw ax R (.inl ⟨j,rfl,hW⟩) C rfl).trans ?_;rintro m' L ⟨aA,Y,ah,aX,aY,aZ,a0,rfl,ai,aB,aC,aj,aD,aE⟩;have ak:((W.alloc o).at Y).heap[c]?=O (.chan 0 #[] zb k k zb):=(heap_alloc_old Q).trans Q
 have al:=qGP aE D (H s D) ar aB aC az (λh u=>by rw[U h u];exact⟨0,k,ak⟩) (λh u=>by rw[U h u];exact au) (λi E h e u aF=>by
  by_cases am:i=0
  .subst am;exact ag E h e u (U h aF)
  .rw[H i am]at e;cases e)
 have aa:upd Inb s (O S) 0=O X:=by rw[upd_ne _ _ (zBs D)];exact ac
 have an:upd Inb s (O S) s=O S:=upd_same _ _ _;rcases aD with⟨a1,rfl,aG⟩|⟨_,aH,z',rfl,ab⟩
 .have aI:=qJE al;obtain⟨N,a2,a₂,a3,aJ,a4,a5,aK,aL,aM,⟨⟨aN,aH,z',aO,ab⟩,e,rfl⟩,aP⟩:=hold_walk (sl:=ah) qlE (dq_dh _) aj aI (Way.goes (w:=W.alloc o) (λd=>⟨d,.inr rfl⟩) Y aG);obtain⟨aQ,aR,aT,aU,ao⟩:=give (w:=(W.alloc o).at e) (sl:=aJ) qlE (λ_ _ _ _ _ _ _ _ _ _ _ _ _=>trivial) D sa an ay ae aM aN (λd=>aO _ ⟨d,.inr rfl⟩) qbN aP (Inb':=upd Inb s (O S)) (λ_ _=>rfl) (.inl rfl) (nh:=n0) (λL _=>by rw[aa];exact ab);refine⟨N+aQ,aR,aT,runNT_then aK aU,?_⟩;rw[aL,ai]at ao;exact ao
 .have:=qba (B:=B) (v:=v) (z':=z') (nh:=n0) D an A (λi R hs=>by rw[upd_ne _ _ hs];exact H i R) ae (Inb':=upd Inb s (O S)) (λ_ _=>rfl) (.inl rfl) (λL _=>by rw[aa];exact ab) (λa6 h e u=>by rw[aa]at e;obtain rfl:=zn e;exact ad h u)
   _ aA Y ah _ _ sa aj (by rw[upd_same];exact aq) al ak rfl
  rw[ai]at this;exact this
def q7H{W:zp}{c:Z}(h:c<W.heap.size)(o:Obj)(cap:Z)(u:zS zg)(cl:zO)(a b:Z)(A:zO):(W.setChan c cap u cl a b A).alloc o=(W.alloc o).setChan c cap u cl a b A:=by
 have e:(W.heap.setIfInBounds c (.chan cap u cl a b A)).push o=(W.heap.push o).setIfInBounds c (.chan cap u cl a b A):=by
  apply zDl;intro i;simp only[zCy,zBm,Array.size_setIfInBounds,Array.size_push];by_cases C:c=i
  .subst C;simp[h,Nat.ne_of_lt h];omega
  .simp[C]
 simp only[World.setChan,World.alloc,e]
def size_setChan(W:zp)(c cap:Z)(h:zS zg)(cl:zO)(a b:Z)(u:zO):(W.setChan c cap h cl a b u).heap.size=W.heap.size:=by simp[World.setChan]
def qcT{X}{m}(aK:0<s)(an:c<W.heap.size)(aL:∀i,i≠0->Inb i=zc)(aM:Inb 0=O X)(aN:∀D,X.has D->D≠c):∀(V:Z)(gs:zS zE)(d:Z)(sl:zy (Z×Z))(q:Z->Z)(T:zDC)(ks:Z)(b:zE),gs.size=s+1->gs[s]?=O b->Pre P W.heap.size o S k' ks b->ClosedAt c m T->Dt P B (λt i=>Before t i m) Mem Inb (·=s) T gs ((W.setChan c 0 #[] I k k zb).at d) q->ks+sumTo gs.size q=V->Comes P (zA7 gs ((W.setChan c 0 #[] I k k zb).at d) sl) T λm' H=>∃h u sl' q' A,m'=zA7 h (((W.alloc o).setChan c 0 #[] I k k zb).at u) sl'/\h.size=s+1/\h[s]?=O A/\zDF P zb TrK NoS 0 S k' A/\ClosedAt c m H/\Dt P B (λt i=>Before t i m) Mem Inb (·=s) H h (((W.alloc o).setChan c 0 #[] I k k zb).at u) q':=by
 intro V
 induction V using Nat.strongRecOn with
 |_ V av=>
 intro gs d sl q T ks b ai C L ao ap aO;have ae:=L.run;have aq:(s==0)=zb:=sf
 obtain⟨i,g,u,sl',Y,af,aj⟩:=crowd_pick (P:=P) (w:=(W.setChan c 0 #[] I k k zb).at d) (sl:=sl) (qAD ap λi g Y af=>by
  subst Y;rw[C]at af;obtain rfl:=zn af;exact awake_of (.inl ae)) ⟨s,b,C,ae⟩
 rw[at_at']at aj;have E:=qrH ap u;rw[at_at']at E
 have go:∀{h:zS zE}{q':Z->Z}{R:zDC}{ag:Z}{A:zE},runT P (zA7 gs ((W.setChan c 0 #[] I k k zb).at u) sl') i=(.next (zA7 h ((W.setChan c 0 #[] I k k zb).at u) sl'),R)->h.size=s+1->h[s]?=O A->Pre P W.heap.size o S k' ag A->
   Dt P B (λt i=>Before t i m) Mem Inb (·=s) (T++R) h ((W.setChan c 0 #[] I k k zb).at u) q'->ag+sumTo h.size q'<V->Comes P (zA7 gs ((W.setChan c 0 #[] I k k zb).at d) sl) T λm' H=>∃h u sl' q' A,m'=zA7 h (((W.alloc o).setChan c 0 #[] I k k zb).at u) sl'/\h.size=s+1/\h[s]?=O A/\zDF P zb TrK NoS 0 S k' A/\ClosedAt c m H/\
    Dt P B (λt i=>Before t i m) Mem Inb (·=s) H h (((W.alloc o).setChan c 0 #[] I k k zb).at u) q':=by
  intro h q' R ag A ak aw ax ay az aA
  exact Comes.trans (Q:=λaB t=>aB=zA7 h ((W.setChan c 0 #[] I k k zb).at u) sl'/\t=T++R) ⟨1,_,_,qeA (aj.trans ak),rfl,rfl⟩ λm' H hm=>by
   obtain⟨rfl,rfl⟩:=hm;exact av _ aA h u sl' q' _ ag A aw ax ay (ao.app R) az rfl
 by_cases es:i=s
 .subst es;rw[C]at Y;obtain rfl:=zn Y;cases ks with
  |zero=>
   obtain⟨ak,ah,U,aC⟩:=L;have U:=U ((W.setChan c 0 #[] I k k zb).at u) (size_setChan ..);rw[qsN,q7H an]at U;have aa:=runT_crowd_go (P:=P) (sl:=sl') C (by rw[aq];exact U)
   have aD:∀i s D,Inb i=O s->s.has D->(((W.alloc o).setChan c 0 #[] I k k zb).at u).heap[D]?=((W.setChan c 0 #[] I k k zb).at u).heap[D]?:=λaE ar D e aF=>by
    obtain⟨cap,aP,aG⟩:=E.chans aE ar D (λz=>z) e aF;rw[<-q7H an];exact heap_alloc_old (W:=W.setChan c 0 #[] I k k zb) aG
   obtain⟨ab,al,ac⟩:=qbB E rfl (a':=ah) C (es:=#[]) aD (by rw[qhA];simpa using E.past);exact⟨1,_,_,qeA (aj.trans aa),_,u,sl',q,ah,rfl,by simp[ai],al,aC,ao.app _,ab⟩
  |succ ks=>
   obtain⟨ak,ah,U,L⟩:=L;have aa:=runT_crowd_go (P:=P) (sl:=sl') C (by rw[aq];exact U ((W.setChan c 0 #[] I k k zb).at u));obtain⟨ab,al,ac⟩:=qbB E rfl (a':=ah) C (w':=(W.setChan c 0 #[] I k k zb).at u) (es:=#[]) (λ_ _ _ _ _=>rfl) (by rw[qhA];simpa using E.past);exact go aa (by simp[ai]) al L ab sf
 .obtain⟨h,R,q',aa,au,aH,_,_,ab,aQ⟩:=TokCore.by_step (sl:=sl') (λt aI i=>Before.app aI) E Y es af
   (λx aJ ac ad=>by subst ac;rw[C]at ad;obtain rfl:=zn ad;exact again_of_running (.inl ae) _) (λam=>am.elim)
   (λar aR _ _=>⟨λam=>am,λx aJ D ac ad _=>by subst ac;rw[C]at ad;obtain rfl:=zn ad;exact offersAt_of_not_blocked (by rw[ae];simp) _ _⟩)
  exact go aa (au.trans ai) (by rw[aH s rfl];exact C) L ab (by rw[au];omega)
def qhW(P:zv)(B:Z)(Mem:Z->Prop)(Inb:Z->zy Seat)(W:zp)(o:Obj)(s c k k':Z)(S X:Seat)(n0:Z)(m':Machine)(C:zDC):Prop:=
 (∃h u D E A L H,m'=zA7 h ((W.alloc o).at u) D/\h.size=s+1/\h[s]?=O A/\zDF P zb TrK NoS 0 S k' A/\h[0]?=O H/\Way P B (KA W o) (qmF P (KA W o) c λg=>zDF P I TrK NoS B X n0 g) L H/\
  Dt P B (λt=>Knows t 0) Mem Inb (λi=>i=0\/i=s) C h ((W.alloc o).at u) E)\/
 (∃h u D E Q A m,m'=zA7 h ((W.setChan c 0 #[] I k k zb).at u) D/\h.size=s+1/\h[s]?=O A/\Pre P W.heap.size o S k' Q A/\ClosedAt c m C/\
  Dt P B (λt i=>Before t i m) Mem Inb (·=s) C h ((W.setChan c 0 #[] I k k zb).at u) E)
def qxZ{X}{n0}(a9:0<s)(aQ:W.heap[c]?=O (.chan 0 #[] zb k k zb))(aR:c<B)(aI:∀i,i≠0->Inb i=zc)(au:Inb 0=O X)(aT:∀L,X.has L->L≠c)(aU:Mem 0)(ba:Mem s):∀(ad:Z)(gs:zS zE)(d:Z)(sl:zy (Z×Z))(q:Z->Z)(T:zDC)(ks:Z)(b:zE)(j:Z)(a:zE),gs.size=s+1->gs[s]?=O b->Pre P W.heap.size o S k' ks b->gs[0]?=O a->Way P B (KA W o) (qmF P (KA W o) c λg=>zDF P I TrK NoS B X n0 g) j a->Dt P B (λt=>Knows t 0) Mem Inb (λi=>i=0\/i=s) T gs (W.at d) q->ks+j+sumTo gs.size q=ad->Comes P (zA7 gs (W.at d) sl) T (qhW P B Mem Inb W o s c k k' S X n0):=by
 intro ad
 induction ad using Nat.strongRecOn with
 |_ ad aW=>
 intro gs d sl q T ks b j a ae C aa R hW aJ bb;have af:=aa.run;have al:s≠0:=sa
 have am:a.status=.running:=Way.run (λg ab=>ab.1) hW;have aK:(s==0)=zb:=sf
 obtain⟨i,g,h,D,ac,ab,an⟩:=crowd_pick (P:=P) (w:=W.at d) (sl:=sl) (qAD aJ λi g ac ab=>by
  rcases ac with rfl|rfl
  .rw[R]at ab;obtain rfl:=zn ab;exact awake_of (.inl am)
  .rw[C]at ab;obtain rfl:=zn ab;exact awake_of (.inl af)) ⟨s,b,C,af⟩
 rw[at_at']at an;have E:Dt P B (λt=>Knows t 0) Mem Inb (λi=>i=0\/i=s) T gs (W.at h) q:=qrH aJ h
 have go:∀{U:zS zE}{ag:Z->Z}{ah:zDC}{ao:Z}{ap:zE}{ai:Z}{a':zE},runT P (zA7 gs (W.at h) D) i=(.next (zA7 U (W.at h) D),ah)->U.size=s+1->U[s]?=O ap->Pre P W.heap.size o S k' ao ap->U[0]?=O a'->
   Way P B (KA W o) (qmF P (KA W o) c λg=>zDF P I TrK NoS B X n0 g) ai a'->Dt P B (λt=>Knows t 0) Mem Inb (λi=>i=0\/i=s) (T++ah) U (W.at h) ag->ao+ai+sumTo U.size ag<ad->Comes P (zA7 gs (W.at d) sl) T (qhW P B Mem Inb W o s c k k' S X n0):=by
  intro U ag ah ao ap ai a' aj aX aY aZ a0 a1 a2 a3
  exact Comes.trans (Q:=λm t=>m=zA7 U (W.at h) D/\t=T++ah) ⟨1,_,_,qeA (an.trans aj),rfl,rfl⟩ λbc bd hm=>by
   obtain⟨rfl,rfl⟩:=hm;exact aW _ a3 U h D ag _ ao ap ai a' aX aY aZ a0 a1 a2 rfl
 by_cases a4:i=0
 .subst a4;rw[R]at ac;obtain rfl:=zn ac;cases j with
  |zero=>
   obtain⟨aj,be,V,bf,a5,av⟩:=hW;have A:zAD P I a (W.at h)=.go V ((W.setChan c 0 #[] I k k zb).at h) (zA1 c):=a5 _ ⟨h,.inl rfl⟩ 0 k aQ;have Y:=runT_crowd_go (P:=P) (sl:=D) R A;obtain⟨aw,ax,ay,az⟩:=evHd_ops (Still:=NoS) (B:=B) (i:=0) (fn:=a.frame.fn) (pos:=a.frame.place) (closeEvents_ok aR);have aL:PastH NoS Mem (λ_=>True) B 0 (T++zAO 0 a.frame.fn a.frame.place (zA1 c)):=PastH.appH E.past aw ax (az T) ay;have hm:(T++zAO 0 a.frame.fn a.frame.place (zA1 c))[T.size+1]?=O {g:=0,fn:=a.frame.fn,pos:=a.frame.place,act:=.close c}:=by rw[at_new,closeOps];rfl
   have aA:=aL.toC (c:=c) hm rfl rfl sx (by
    rw[deaf_quiet (λop aB bh=>by
     rw[closeOps]at aB;simp only[zAv,zs,zC,zAt]at aB
     rcases aB with rfl|rfl<;>rfl) 1 sx]
    exact E.past.hears 0 aU)
   have aC:∀i s L,Inb i=O s->s.has L->((W.setChan c 0 #[] I k k zb).at h).heap[L]?=(W.at h).heap[L]?:=λaq aM L e aD=>by
    by_cases aN:aq=0
    .subst aN;rw[au]at e;obtain rfl:=zn e;exact zDB _ _ _ _ _ _ _ (zBs (aT L aD))
    .rw[aI aq aN]at e;cases e
   obtain⟨u,aE,H⟩:=qbB E (.inl rfl) (a':=V) R aC aL;refine⟨1,_,_,qeA (an.trans Y),.inr ⟨_,h,D,upd q 0 n0,ks,b,_,rfl,by simp[ae],(H s b al C).trans (by rw[woken_run af]),aa,⟨aA.2.1,aA.2.2⟩,?_⟩⟩;refine⟨λx y a6 aF=>?_,u.chans,u.wf,λ_ _ z=>z.elim,u.inj,u.above,u.mem,λx hM=>?_,λ_ _ _ _=>trivial,aA.1,trivial⟩
   .by_cases aG:x=0
    .subst aG;rw[aE]at aF;obtain rfl:=zn aF;rw[upd_same,au];exact av
    .rw[upd_ne q n0 aG];exact u.idle x y (λak=>ak.elim aG a6) aF
   .exact(u.nomem x hM).elim .inl λak=>ak.elim (λe=>.inl (by rw[e,au];simp)) .inr
  |succ ai=>
   obtain⟨aj,V,A,hW⟩:=hW;obtain⟨es,A,a7⟩:=A _ ⟨h,.inl rfl⟩;obtain⟨aw,ax,ay,az⟩:=evHd_ops (i:=0) (fn:=a.frame.fn) (pos:=a.frame.place) a7;have Y:=runT_crowd_go (P:=P) (sl:=D) R A;obtain⟨u,aE,H⟩:=qbB E (.inl rfl) (a':=V) R (w':=W.at h) (λ_ _ _ _ _=>rfl) (PastH.appH E.past aw ax (az T) ay);exact go Y (by simp[ae]) (H s b al C) (by rw[woken_run af];exact aa) aE hW u sf
 by_cases es:i=s
 .subst es;rw[C]at ac;obtain rfl:=zn ac;cases ks with
  |zero=>
   obtain⟨aj,V,A,av⟩:=aa;have A:=A (W.at h) rfl;rw[qsN]at A;have Y:=runT_crowd_go (P:=P) (sl:=D) C (by rw[aK];exact A)
   have aC:∀i s c,Inb i=O s->s.has c->((W.alloc o).at h).heap[c]?=(W.at h).heap[c]?:=λaq aM L e aD=>by
    obtain⟨cap,bi,ak⟩:=E.chans aq aM L (λz=>z) e aD;exact heap_alloc_old (W:=W) ak
   obtain⟨u,aH,H⟩:=qbB E (.inr rfl) (a':=V) C (es:=#[]) aC (by rw[qhA];simpa using E.past);refine⟨1,_,_,qeA (an.trans Y),.inl ⟨_,h,D,q,V,j,a,rfl,by simp[ae],aH,av,?_,hW,u⟩⟩;rw[H 0 a (zBs al) R,woken_run am]
  |succ ks=>
   obtain⟨aj,V,A,aa⟩:=aa;have Y:=runT_crowd_go (P:=P) (sl:=D) C (by rw[aK];exact A (W.at h));obtain⟨u,aH,H⟩:=qbB E (.inr rfl) (a':=V) C (w':=W.at h) (es:=#[]) (λ_ _ _ _ _=>rfl) (by rw[qhA];simpa using E.past);refine go Y (by simp[ae]) aH aa ?_ hW u sf;rw[H 0 a (zBs al) R,woken_run am]
 .obtain⟨U,ah,ag,Y,aO,aP,u,bj⟩:=qhN (sl:=D) (λt a8 i=>Knows.app a8) E ac sa ab (λx bl H ar=>by
   rcases H with rfl|rfl
   .rw[R]at ar;obtain rfl:=zn ar;exact again_of_running (.inl am) _
   .rw[C]at ar;obtain rfl:=zn ar;exact again_of_running (.inl af) _) (λx H=>aI x λe=>H (.inl e))
  exact go Y (aO.trans ae) (by rw[aP s (.inr rfl)];exact C) aa (by rw[aP 0 (.inl rfl)];exact R) hW u (by rw[aO];omega)
def qDR(P:zv)(B:Z)(Mem:Z->Prop)(Inb:Z->zy Seat)(W:zp)(s c k:Z)(S:Seat)(z:zg)(m':Machine)(D:zDC):Prop:=
 ∃h A C E H u,m'=zA7 h ((W.setChan c 0 #[] I k k zb).at C) E/\h.size=s+1/\h[s]?=O (zA0 A (zAQ S.cases S.shape 0 z zb))/\S.home A/\u 0/\u s/\Ring P TrK NoS B u Inb s D h ((W.setChan c 0 #[] I k k zb).at C) H
def one_has{c}{z}(A:S.cases=#[zAN c z]):∀u,S.has u->u=c:=λu⟨m,z',h⟩=>by
 rw[A]at h;rcases m with _|m
 .simp only[zC9,zCA,zAh,zAN,CommCase.mk.injEq,Value.chan.injEq]at h;exact h.1.symm
 .simp at h
def one_wf{c}{z}(A:S.cases=#[zAN c z]):S.Wf:=⟨λD h=>by rw[A]at h;simp only[zAv,zs,zC,zAt]at h;exact⟨c,z,h⟩,λk m _ _ _ u C=>by
 rw[A]at u C;rcases k with _|k<;>rcases m with _|m
 .rfl
 .simp at C
 .simp at u
 .simp at u⟩
def qqQ{n0}{X}{z}{T}{gs}{q}{ks j d}{a b}{sl}(aD:0<s)(Q:W.heap[c]?=O (.chan 0 #[] zb k k zb))(R:∀i,i≠0->Inb i=zc)(L:Inb 0=O X)(ah:∀h,X.has h->h≠c)(bE:0<k')(af:Mem 0)(aa:Mem s)(ai:S.cases=#[zAN c z])(aj:c<B)(aW:gs.size=s+1)(aX:gs[s]?=O b)(aY:Pre P W.heap.size o S k' ks b)(aZ:gs[0]?=O a)(hW:Way P B (KA W o) (qmF P (KA W o) c λg=>zDF P I TrK NoS B X n0 g) j a)(C:Dt P B (λt=>Knows t 0) Mem Inb (λi=>i=0\/i=s) T gs (W.at d) q):Comes P (zA7 gs (W.at d) sl) T (qDR P B Mem Inb (W.alloc o) s c k S z):=by
 have U:s≠0:=sa
 have a0:c<W.heap.size:=(zAb.1 Q).1;have aE:S.cases[0]?=O (zAN c z):=by rw[ai];rfl
 have ab:=one_has ai;have aF:=one_wf ai;have a1:∀D h,Inb 0=O D->D.has h->h≠c:=λD h e u=>by rw[L]at e;obtain rfl:=zn e;exact ah h u
 have ak:∀i X h,Inb i=O X->X.has h->¬S.has h:=λi D h e u ac=>by
  by_cases aG:i=0
  .subst aG;exact a1 D h e u (ab h ac)
  .rw[R i aG]at e;cases e
 have a2:upd Inb s (O S) 0=O X:=by rw[upd_ne _ _ (zBs U)];exact L
 have aH:upd Inb s (O S) s=O S:=upd_same _ _ _;refine(qxZ (S:=S) (n0:=n0) aD Q aj R L ah af aa _ gs d sl q T ks b j a aW aX aY aZ hW C rfl).trans ?_;rintro bF aI (⟨aJ,ag,al,aK,aL,bG,bH,rfl,aM,am,a3,a4,a5,an⟩|⟨aJ,ag,al,aK,a6,aL,m,rfl,aM,am,a7,a8,an⟩)
 .have ao:((W.alloc o).at ag).heap[c]?=O (.chan 0 #[] zb k k zb):=(heap_alloc_old Q).trans Q;have a9:=qGP an U (R s U) aa am a3 aF (λh u=>by rw[ab h u];exact⟨0,k,ao⟩) (λh u=>by rw[ab h u];exact aj) ak;have ba:=qJE a9;obtain⟨N,aN,a₂,bI,ap,bJ,aq,bb,bc,bd,⟨⟨be,bf,bK,bh,bi,bj⟩,e,rfl⟩,bl⟩:=hold_walk (sl:=al) qlE (dq_dh _) a4 ba (Way.goes (w:=W.alloc o) (λd=>⟨d,.inr rfl⟩) ag a5)
  obtain⟨bm,ar,au,av,aw,ax,ay,az,bn,aA,aB,aC⟩:=give_close (w:=(W.alloc o).at e) (sl:=ap) qlE (λ_ _ _ _ _ _ _ _ _ _ _ _ _=>trivial) U sa aH aE af bd be bf bh ao (λd=>bi _ ⟨d,.inr rfl⟩ 0 k ao) bl
   (Inb':=Inb) (λx bL bo=>(upd_ne _ _ bo).symm) (.inl (by rw[a2,L])) (R s U) (nh:=n0) (λaI _=>by rw[L];exact bj)
  exact⟨N+bm,_,ax,runNT_then bb az,ar,au,av,aw,ay,_,rfl,sa,aA,aB,⟨af,.inl (by rw[L];simp)⟩,⟨aa,.inr rfl⟩,aC⟩
 .refine(qcT (X:=X) (S:=S) aD a0 R L ah _ aJ ag al aK aI a6 aL aM am a7 a8 an rfl).trans ?_;rintro bM bp ⟨aN,aO,ap,aq,aP,rfl,bc,aQ,aR,bq,H⟩;have br:(s==0)=zb:=sf
  have bt:(((W.alloc o).setChan c 0 #[] I k k zb).at aO).heap[c]?=O (.chan 0 #[] I k k zb):=heap_setChan_self (W.alloc o) (o:=.chan 0 #[] zb k k zb) ((heap_alloc_old Q).trans Q) ..;have E:∀x,x≠s->upd Inb s (O S) x=Inb x:=λx ad=>upd_ne Inb _ ad
  have bu:aP.status=.running:=by
   rcases aR with⟨bv,bw,_,bx⟩|⟨e,_⟩
   .exact(Sits.status (w:=W) trivial (.inl ⟨bv,bw,rfl,bx⟩)).elim (·.1) λz=>sa
   .omega
  have bz:Closing P TrK NoS B Mem (upd Inb s (O S)) s c m bp aN (((W.alloc o).setChan c 0 #[] I k k zb).at aO) (upd aq s k'):=by
   refine⟨⟨λx y _ V=>?_,λi D h bA e bB=>?_,λi D e=>?_,λx y ad V=>?_,λi ae aT aU h e Y u ac=>?_,H.above,λi D e=>?_,λi hM=>?_,λi D _ e=>by rw[e];rfl,qiK H.past,trivial⟩,bq⟩
   .by_cases A:x=s
    .subst A;rw[aQ]at V;obtain rfl:=zn V;rw[upd_same,upd_same];show zDF P (x==0) TrK NoS B S k' aP;rw[br];exact qQC (zJ _) aR
    .rw[upd_ne aq k' A,E x A];exact H.idle x y A V
   .rw[E i bA]at e;exact H.chans i D h (λz=>z) e bB
   .by_cases A:i=s
    .subst A;rw[upd_same]at e;obtain rfl:=zn e;exact aF
    .rw[E i A]at e;exact H.wf i D e
   .subst ad;rw[aQ]at V;obtain rfl:=zn V;exact bu
   .by_cases e1:i=s<;>by_cases e2:ae=s
    .rw[e1,e2]
    .subst e1;rw[upd_same]at e;obtain rfl:=zn e;rw[E ae e2]at Y;exact absurd u (ak ae aU h Y ac)
    .subst e2;rw[upd_same]at Y;obtain rfl:=zn Y;rw[E i e1]at e;exact absurd ac (ak i aT h e u)
    .rw[E i e1]at e;rw[E ae e2]at Y;exact H.inj i ae aT aU h e Y u ac
   .by_cases A:i=s
    .subst A;rw[upd_same]at e;obtain rfl:=zn e;exact⟨aa,λh u=>by rw[ab h u];exact aj⟩
    .rw[E i A]at e;exact H.mem i D e
   .by_cases A:i=s
    .subst A;exact .inl (by rw[upd_same];simp)
    .rw[E i A];exact .inl ((H.nomem i hM).elim id λe=>absurd e A)
  obtain⟨bC,ar,au,av,aw,ax,ay,az,bn,aA,aB,aC⟩:=close_run (sl:=ap) qlE aH aE sa bt (λh u bD=>absurd (ab h u) bD) bz (Inb':=Inb) (λx ad=>(E x ad).symm) (R s U);exact⟨bC,_,ax,az,ar,au,av,aw,ay,Mem,rfl,sa,aA,aB,af,aa,aC⟩
end pre
end
section
variable{P:zv}
def Bm(cl co:Z)(zW zA:zg)(live:zO):zS CommCase:=#[zAN cl zW,if live then zAN co zA else rcaseNil zA]
section
variable{gs:zS zE}{w:zp}{sl:zy (Z×Z)}{i cl co:Z}{g g₂:zE}{zW zA:zg}{live shut oc:zO}{s r s' r':Z}
def qBN(aa:gs[i]?=O g)(h:zAD P (i==0) g w=.comm g₂ (Bm cl co zW zA live) I .select w #[])(D:partners (gs.setIfInBounds i ph) cl I=[])(ae:partners (gs.setIfInBounds i ph) co I=[])(b)(A:w.heap[cl]?=O (.chan 1 b.toArray shut s r zb))(R:w.heap[co]?=O (.chan 0 #[] oc s' r' zb)):(b=zc/\shut=zb/\(live=I->oc=zb)/\runT P (zA7 gs w sl) i=(.next (zA7 (gs.setIfInBounds i (parked g₂ (Bm cl co zW zA live) .select)) w sl),#[]))\/∃d,(∃x,b=O x/\runT P (zA7 gs w sl) i=(.next (zA7 (gs.setIfInBounds i (zA0 g₂ (zAQ (Bm cl co zW zA live) .select 0 x I))) ((w.at d).setChan cl 1 #[] shut s (r+1) zb) sl),#[{g:=i,fn:=g₂.frame.fn,pos:=g₂.frame.place,act:=.recv cl r 1},{g:=i,fn:=g₂.frame.fn,pos:=g₂.frame.place,act:=.recvDone cl r}]))\/(b=zc/\shut=I/\runT P (zA7 gs w sl) i=(.next (zA7 (gs.setIfInBounds i (zA0 g₂ (zAQ (Bm cl co zW zA live) .select 0 zW zb))) (w.at d) sl),#[{g:=i,fn:=g₂.frame.fn,pos:=g₂.frame.place,act:=.recvClosed cl}]))\/(live=I/\oc=I/\runT P (zA7 gs w sl) i=(.next (zA7 (gs.setIfInBounds i (zA0 g₂ (zAQ (Bm cl co zW zA live) .select 1 zA zb))) (w.at d) sl),#[{g:=i,fn:=g₂.frame.fn,pos:=g₂.frame.place,act:=.recvClosed co}])):=by
 have V:=runT_crowd_comm (sl:=sl) aa h;rw[qhA]at V;have E:∀x,(gs.setIfInBounds i ph).setIfInBounds i x=gs.setIfInBounds i x:=set_stand gs i;have H:∀k v ok,Goroutine.finishComm P g₂ (Bm cl co zW zA live) .select k v ok=zA0 g₂ (zAQ (Bm cl co zW zA live) .select k v ok):=λ_ _ _=>rfl
 have B:∀x∈Bm cl co zW zA live,illMade w x=zb:=by
  intro x ab;cases live<;>simp[Bm]at ab<;>rcases ab with rfl|rfl<;>simp[illMade,zAN,rcaseNil,A,R]
 have ah:¬((Bm cl co zW zA live).any (illMade w))=I:=by rw[zBT];exact any_ill B
 have W:ways w (gs.setIfInBounds i ph) (zAN cl zW)=(if b.isSome then[.buffer]else if shut then[.closed]else[]):=by
  cases b<;>simp[ways,zAN,A,D]
 have e1:ways w (gs.setIfInBounds i ph) (zAN co zA)=(if oc then[.closed]else[]):=by
  simp[ways,zAN,R,ae]
 have e2:ways w (gs.setIfInBounds i ph) (rcaseNil zA)=[]:=rfl
 have T:(((Bm cl co zW zA live).zipIdx.toList.map λ(c,k)=>(k,c,ways w (gs.setIfInBounds i ph) c)).filter λ(_,_,q)=>!q.isEmpty)=
   (if b.isSome then[(0,zAN cl zW,[Go.Way.buffer])]else if shut then[(0,zAN cl zW,[Go.Way.closed])]else[])++(if live&&oc then[(1,zAN co zA,[Go.Way.closed])]else[]):=by
  cases live<;>cases b<;>cases shut<;>cases oc<;>simp[Bm,List.zipIdx,W,e1,e2]
 rw[V];by_cases af:b=zc/\shut=zb/\(live=I->oc=zb)
 .left;obtain⟨rfl,rfl,ac⟩:=af;refine⟨rfl,rfl,ac,?_⟩;rw[<-V]
  have:=crowd_waits (sl:=sl) aa h (λag Y=>⟨B ag Y,by
   cases live<;>simp[Bm]at Y<;>rcases Y with rfl|rfl
   .simp[W]
   .exact e2
   .simp[W]
   .simp[e1,ac]⟩)
  rw[this,qhA]
 .right;have U:w.drew.heap=w.heap:=rfl;have ad:∀n,n%2=0\/n%2=1:=λn=>sa
  have L:∀d,World.setChan (w.at d) cl 1 #[] shut s (r+1) zb={w.at d with heap:=w.heap.setIfInBounds cl (.chan 1 #[] shut s (r+1) zb)}:=λ_=>rfl;cases b with
  |some x=>
   cases C:(live&&oc)with
   |false=>
    refine⟨w.drawn,.inl ⟨x,rfl,?_⟩⟩;have u:(((Bm cl co zW zA live).zipIdx.toList.map λ(c,k)=>(k,c,ways w (gs.setIfInBounds i ph) c)).filter λ(_,_,q)=>!q.isEmpty)=[(0,zAN cl zW,[Go.Way.buffer])]:=by rw[T,C];rfl
    unfold communicate;simp only[u];rw[zj]
    .simp[choose,Sem.run,Question.forced,bind,Sem.bind,pure,zAN,A,D,E,H,zA7,L]<;>first|done|exact⟨rfl,rfl,rfl,rfl⟩|rfl
    .rw[zBT];exact any_ill B
   |true=>
    simp only[zl]at C;obtain⟨rfl,rfl⟩:=C;have u:(((Bm cl co zW zA I).zipIdx.toList.map λ(c,k)=>(k,c,ways w (gs.setIfInBounds i ph) c)).filter λ(_,_,q)=>!q.isEmpty)=[(0,zAN cl zW,[Go.Way.buffer]),(1,zAN co zA,[Go.Way.closed])]:=by rw[T];rfl
    refine⟨w.drawn+1,?_⟩;rcases ad (w.tape w.drawn (.select 2))with Q|Q
    .refine .inl ⟨x,rfl,?_⟩;unfold communicate;simp only[u];rw[zj]
     .simp[choose,Sem.run,Question.forced,Question.cut,bind,Sem.bind,pure,zAN,A,D,E,H,zA7,L,U,Q]<;>first|done|exact⟨rfl,rfl,rfl,rfl⟩|rfl
     .rw[zBT];exact any_ill B
    .refine .inr (.inr ⟨rfl,rfl,?_⟩);unfold communicate;simp only[u];rw[zj]
     .simp[choose,Sem.run,Question.forced,Question.cut,bind,Sem.bind,pure,zAN,A,R,D,E,H,zA7,L,U,Q]<;>first|done|exact⟨rfl,rfl,rfl,rfl⟩|rfl
     .rw[zBT];exact any_ill B
  |none=>
   cases shut with
   |true=>
    cases C:(live&&oc)with
    |false=>
     refine⟨w.drawn,.inr (.inl ⟨rfl,rfl,?_⟩)⟩;have u:(((Bm cl co zW zA live).zipIdx.toList.map λ(c,k)=>(k,c,ways w (gs.setIfInBounds i ph) c)).filter λ(_,_,q)=>!q.isEmpty)=[(0,zAN cl zW,[Go.Way.closed])]:=by rw[T,C];rfl
     unfold communicate;simp only[u];rw[zj]
     .simp[choose,Sem.run,Question.forced,bind,Sem.bind,pure,zAN,A,D,E,H,zA7,L]<;>first|done|exact⟨rfl,rfl,rfl,rfl⟩|rfl
     .rw[zBT];exact any_ill B
    |true=>
     simp only[zl]at C;obtain⟨rfl,rfl⟩:=C;have u:(((Bm cl co zW zA I).zipIdx.toList.map λ(c,k)=>(k,c,ways w (gs.setIfInBounds i ph) c)).filter λ(_,_,q)=>!q.isEmpty)=[(0,zAN cl zW,[Go.Way.closed]),(1,zAN co zA,[Go.Way.closed])]:=by rw[T];rfl
     refine⟨w.drawn+1,?_⟩;rcases ad (w.tape w.drawn (.select 2))with Q|Q
     .refine .inr (.inl ⟨rfl,rfl,?_⟩);unfold communicate;simp only[u];rw[zj]
      .simp[choose,Sem.run,Question.forced,Question.cut,bind,Sem.bind,pure,zAN,A,D,E,H,zA7,L,U,Q]<;>first|done|exact⟨rfl,rfl,rfl,rfl⟩|rfl
      .rw[zBT];exact any_ill B
     .refine .inr (.inr ⟨rfl,rfl,?_⟩);unfold communicate;simp only[u];rw[zj]
      .simp[choose,Sem.run,Question.forced,Question.cut,bind,Sem.bind,pure,zAN,A,R,D,E,H,zA7,L,U,Q]<;>first|done|exact⟨rfl,rfl,rfl,rfl⟩|rfl
      .rw[zBT];exact any_ill B
   |false=>
    have C:live=I/\oc=I:=by
     cases live<;>cases oc<;>simp_all
    obtain⟨rfl,rfl⟩:=C;refine⟨w.drawn,.inr (.inr ⟨rfl,rfl,?_⟩)⟩;have u:(((Bm cl co zW zA I).zipIdx.toList.map λ(c,k)=>(k,c,ways w (gs.setIfInBounds i ph) c)).filter λ(_,_,q)=>!q.isEmpty)=[(1,zAN co zA,[Go.Way.closed])]:=by rw[T];rfl
    unfold communicate;simp only[u];rw[zj]
    .simp[choose,Sem.run,Question.forced,bind,Sem.bind,pure,zAN,A,R,D,E,H,zA7,L]<;>first|done|exact⟨rfl,rfl,rfl,rfl⟩|rfl
    .rw[zBT];exact any_ill B
end
end
section
structure RE(co cl:Z)(w w₁:zp):Prop where
 size:w₁.heap.size=w.heap.size
 heap:∀k,k≠co->k≠cl->w₁.heap[k]?=w.heap[k]?
 os:w₁.os=w.os
 tape:w₁.tape=w.tape
 output:w₁.output=w.output
def RE.refl{co cl}(w):RE co cl w w:=⟨rfl,λ_ _ _=>rfl,rfl,rfl,rfl⟩
def RE.at{co cl}(w)(d):RE co cl w (w.at d):=⟨rfl,λ_ _ _=>rfl,rfl,rfl,rfl⟩
def RE.trans{co cl}{a b c}(h:RE co cl a b)(k:RE co cl b c):RE co cl a c:=
 ⟨k.size.trans h.size,λn q u=>(k.heap n q u).trans (h.heap n q u),k.os.trans h.os,k.tape.trans h.tape,k.output.trans h.output⟩
def RE.chan{co cl}(w){c}(h:c=co\/c=cl)(cap)(q)(x)(a b)(u):RE co cl w (w.setChan c cap q x a b u):=
 ⟨by simp[World.setChan],λk A B=>zDB _ _ _ _ _ _ _ (by rcases h with rfl|rfl<;>omega),rfl,rfl,rfl⟩
def GB(P:zv)(cl co:Z)(zW zA:zg)(q:zO)(g h:zE):Prop:=
 g.status=.running/\g.frame=h.frame/\g.callers=h.callers/\g.dying=h.dying/\∀w,zAD P I g w=.comm h (Bm cl co zW zA q) I .select w #[]
def GB.tries{P}{cl co}{zW zA}{u}{g q}(h:GB P cl co zW zA u g q)(cs)(A):GB P cl co zW zA u {parked q cs A with status:=.running} q:=by
 obtain⟨_,B,C,D,E⟩:=h;exact⟨rfl,rfl,rfl,rfl,λw=>by rw[<-E w];exact stepG_same B.symm C.symm D.symm w⟩
inductive ME(P:zv)(co cl:Z)(Wv zW zA:zg)(Fin:zE->zp->Prop):zO->zO->zE->zp->Prop
 |step {got live:zO} {g:zE} {w:zp} (hr:g.status=.running) (gx:zp->zE) (wx:zp->zp) (ex:zp->zS Event)
   (h:∀w₁,RE co cl w w₁->zAD P I g w₁=.go (gx w₁) (wx w₁) (ex w₁)/\(wx w₁).heap[co]?=w₁.heap[co]?/\(wx w₁).heap[cl]?=w₁.heap[cl]?/\∀e∈ex w₁,∃x,e.loc=.cell x)
   (k:∀w₁,RE co cl w w₁->ME P co cl Wv zW zA Fin got live (gx w₁) (wx w₁)):ME P co cl Wv zW zA Fin got live g w
 |sel {got live:zO} {g g₂:zE} {w:zp} (ha:GB P cl co zW zA live g g₂)
   (h0:got=zb->∀w₁,RE co cl w w₁->ME P co cl Wv zW zA Fin I live (zA0 g₂ (zAQ (Bm cl co zW zA live) .select 0 Wv I)) w₁)
   (h1:live=I->∀w₁,RE co cl w w₁->ME P co cl Wv zW zA Fin got zb (zA0 g₂ (zAQ (Bm cl co zW zA live) .select 1 zA zb)) w₁)
   (h2:got=I->∀w₁,RE co cl w w₁->Fin (zA0 g₂ (zAQ (Bm cl co zW zA live) .select 0 zW zb)) w₁):ME P co cl Wv zW zA Fin got live g w
variable{P:zv}
def Quiet(P:zv)(Q:zE->Prop):Z->zE->Prop
 |0,g=>Q g
 |n+1,g=>g.status=.running/\∃h,(∀w,zAD P zb g w=.go h w #[])/\Quiet P Q n h
def qeW(P:zv)(c:Z)(Q:zE->Prop)(g:zE):Prop:=
 g.status=.running/\mayWake P g=I/\∃h,h.status=.running/\(∀w cap q s r,w.heap[c]?=O (.chan cap q zb s r zb)->zAD P zb g w=.go h (w.setChan c cap q I s r zb) (zA1 c))/\Q h
def SV(P:zv)(co cl k2 k3:Z):zO->Z->zE->Prop
 |false,k,g=>Quiet P (qeW P co λg=>Quiet P (qeW P cl (QuitsD P k3 0)) k2 g) k g
 |true,k,g=>Quiet P (qeW P cl (QuitsD P k3 0)) k g
def msV(k2:Z):zO->Z->Z
 |false,k=>k+k2+2
 |true,k=>k+1
def Quiet.run{Q}(q:∀g,Q g->g.status=.running):∀{n:Z}{g:zE},Quiet P Q n g->g.status=.running
 |0,_,h=>q _ h
 |_+1,_,h=>h.1
def SV.run{co cl k2 k3}{q}{k}{g}(h:SV P co cl k2 k3 q k g):g.status=.running:=by
 cases q<;>exact Quiet.run (λ_ h=>h.1) h
structure Chs(co cl:Z)(Wv:zg)(st sh got:zO)(w:zp):Prop where
 out:∃s r,w.heap[co]?=O (.chan 0 #[] st s r zb)
 last:∃s r,w.heap[cl]?=O (.chan 1 (if got then zc else O Wv:zy zg).toArray sh s r zb)
def Chs.of{co cl}{Wv}{q u got}{w w'}(h:Chs co cl Wv q u got w)(A:w'.heap[co]?=w.heap[co]?)(B:w'.heap[cl]?=w.heap[cl]?):Chs co cl Wv q u got w':=
 ⟨by rw[A];exact h.out,by rw[B];exact h.last⟩
def HT(co cl:Z)(l:Loc):Prop:=l=.obj co\/l=.obj cl
def K2(m:Z)(t:zDC)(i:Z):Prop:=Knows t 0 i\/(Before t i m/\∃a,touchAt t i=O a/\∀x,a.loc≠.cell x)
def qFF{t u}{i}{a:Touch}(h:touchAt t i=O a):touchAt (t++u) i=O a:=by
 obtain⟨x,q,A⟩:=touch_of h;rw[touchAt_of (show(t++u)[i]?=O x by rw[getElem?_append_old (lt_size_of_getElem? q)];exact q)];exact A
def K2.app{m}{t}(u){i}(h:K2 m t i):K2 m (t++u) i:=
 h.imp (Knows.app u) λ⟨q,a,A,B⟩=>⟨q.app u,a,qFF A,B⟩
def qWM{e}(h:∃x,e.loc=.cell x){b:Touch}(q:(MemAct.ofEvent e).touch?=O b):∃x,b.loc=.cell x:=by
 obtain⟨u,wr,A⟩:=e;obtain⟨x,rfl⟩:=h;simp only[MemAct.ofEvent,MemAct.touch?,zAh]at q;subst q;exact⟨x,rfl⟩
def qlI{es}(h:∀e∈es,∃x,e.loc=.cell x):CA es:=λe q=>by obtain⟨x,u⟩:=h e q;rw[u];exact⟨se,se⟩
def qxU{Mem L}{B m}{t u}(H:PastG NoS Mem L B (K2 m t) t)(A:∀op∈u,op.g=0)(Q:∀op∈u,∀b,op.act.touch?=O b->∃x,b.loc=.cell x)(hd:Deaf (t++u) 0=Deaf t 0)(R:∀op∈u,op.act.low B):PastG NoS Mem L B (K2 m (t++u)) (t++u):=by
 refine⟨λT=>noRace_append (H.clean T) A λi a h op U b V D=>?_,λi a h hm=>?_,λi a _ _ C=>C.elim,H.old_hears A (λ_=>hd),seen_app H.seen R⟩
 .rcases H.known i a h D.2.1 with(W|⟨_,ad,E,q⟩)|⟨_,C,_⟩
  .exact W
  .rw[h]at E;obtain rfl:=zn E;obtain⟨x,Y⟩:=Q op U b V;exact absurd (D.1.trans Y) (q x)
  .exact C.elim
 .obtain⟨x,q,aa⟩:=touch_of h;rcases getElem?_append_cases q with⟨_,ab⟩|⟨_,ac⟩
  .exact H.old_known (λi=>K2.app u) ab aa hm
  .have:=knows_own q;rw[A x ac]at this;exact .inl (.inl this)
def qwU{Mem L}{B m c}{t}(H:PastG NoS Mem L B (K2 m t) t)(ca:ClosedAt c m t)(U:Mem 0)(A)(C:String)(V:c<B):PastH NoS Mem L B 0 (t++#[{g:=0,fn:=A,pos:=C,act:=.recvClosed c}]):=by
 generalize u:(#[{g:=0,fn:=A,pos:=C,act:=.recvClosed c}]:zDC)=q;obtain⟨z,W,_⟩:=zD.1 (show(t[m]?).map (·.act)=O (.close c)from ca.1);have ak:=lt_size_of_getElem? W
 have R:∀op∈q,op.act.touch?=zc:=by
  intro op h;subst u;simp only[zAv,zs,zC,zAt]at h;subst h;rfl
 have Y:∀g,∀op∈q,∀d,deafStep g d op=d:=by
  intro g op h d;subst u;simp only[zAv,zs,zC,zAt]at h;subst h;rfl
 have D:(t++q)[t.size]?=O {g:=0,fn:=A,pos:=C,act:=.recvClosed c}:=by subst u;simp
 have T:=ca.app q
 have aa:HappensBefore (t++q) m t.size:=
  Relation.TransGen.single (.inr ⟨.closed T.1 (act?_of D),T.2,⟨0,g?_of D,by rw[deaf_old (zH _)];exact H.hears 0 U⟩⟩)
 refine⟨λab=>noRace_appendMute (H.clean ab) R,λi a ac ad=>?_,λi a _ _ E=>E.elim,λg ae=>(Deaf_quiet (Y g)).trans (H.hears g ae),seen_app H.seen λop h=>?_⟩
 .obtain⟨x,af,Q⟩:=touch_of ac;rcases getElem?_append_cases af with⟨_,ag⟩|⟨_,ah⟩
  .rcases H.known i a (by rw[touchAt_of ag];exact Q) ad with(ai|⟨aj,_⟩)|⟨_,E,_⟩
   .exact .inl (ai.app q)
   .exact .inl ⟨t.size,_,D,rfl,.inr ((aj.app q).hb aa)⟩
   .exact E.elim
  .rw[R x ah]at Q;cases Q
 .subst u;simp only[zAv,zs,zC,zAt]at h;subst h;exact V
end
section
variable{P:zv}
section
variable{St:Loc->Prop}{Lo:Z->Prop}{B:Z}{Kf:zDC->Z->Prop}{Mem:Z->Prop}
def q6K(Y:∀t u i,Kf t i->Kf (t++u) i){a}(H:a.status=.running):∀(D:Z)(gs:zS zE)(w:zp)(sl:zy (Z×Z))(q:Z->Z)(T:zDC),gs[0]?=O a->qlF P St Lo B Kf Mem (λ_=>zc) (·=0) T gs w q->sumTo gs.size q=D->∃N h d A sl' aa u q',runNT P N (zA7 gs w sl) T=(.next (zA7 h (w.at d) sl'),T++u)/\stepT P (zA7 h (w.at d) sl')=runT P (zA7 h (w.at A) aa) 0/\h.size=gs.size/\h[0]?=O a/\qlF P St Lo B Kf Mem (λ_=>zc) (·=0) (T++u) h (w.at A) q':=by
 intro D
 induction D using Nat.strongRecOn with
 |_ D ab=>
 intro gs w sl q T C L ar
 obtain⟨i,g,A,sl',Q,E,R⟩:=crowd_pick (P:=P) (w:=w) (sl:=sl) (qAD L λi g Q E=>by
  subst Q;rw[C]at E;obtain rfl:=zn E;exact awake_of (.inl H)) ⟨0,a,C,H⟩
 by_cases e:i=0
 .subst e;exact⟨0,gs,w.drawn,A,sl,sl',#[],q,by simp only[runNT,Array.append_empty];rfl,R,rfl,C,by simpa using qrH L A⟩
 .obtain⟨h,U,q',ac,V,ad,ae,au⟩:=qhN (sl:=sl') Y (qrH L A) Q e E (λx av af W=>by
   subst af;rw[C]at W;obtain rfl:=zn W;exact again_of_running (.inl H) _) (λ_ _=>rfl)
  obtain⟨N,ag,ah,ai,aj,ak,u,al,am,an,ao,ap,aq⟩:=ab (sumTo h.size q') (by rw[V];omega) h (w.at A) sl' q' (T++U) (by rw[ad 0 rfl];exact C) ae rfl;refine⟨1+N,ag,ah,ai,aj,ak,U++u,al,?_,an,ao.trans V,ap,by rw[<-zCU];exact aq⟩;rw[<-zCU];exact runNT_then (qeA (R.trans ac)) am
end
def qvL(P:zv)(s:Z)(Fin:zE->zp->Prop)(m':Machine)(A:zDC):Prop:=∃h u,Fin h u/\Ew P (·=0) (λ_=>zc) 0 (s+1) h u m' A
section
variable{co cl:Z}{Wv zW zA:zg}{Fin:zE->zp->Prop}{s m B:Z}{got:zO}{T:zDC}{gs:zS zE}{w:zp}{q:Z->Z}
structure V2(P:zv)(co cl:Z)(Wv:zg)(s m B:Z)(got:zO)(T:zDC)(gs:zS zE)(w:zp)(q:Z->Z):Prop where
 size:gs.size=s+1
 core:Dt P B (K2 m) (·=0) (λ_=>zc) (·=0) T gs w q
 ca:ClosedAt cl m T
 chs:Chs co cl Wv I I got w
 low:co<B/\cl<B
def qbD{h}{u}(A:∀op∈u,op.g=h/\op.act.touch?=zc/\(∀g d,deafStep g d op=d)):(∀op∈u,op.g=h)/\(∀op∈u,op.act.touch?=zc)/\∀(t:zDC)g,Deaf (t++u) g=Deaf t g:=
 ⟨λop h=>(A op h).1,λop h=>(A op h).2.1,λt g=>Deaf_quiet λop h d=>(A op h).2.2 g d⟩
def qBO(a5:0<s)(aG:co≠cl){af}{a}(hM:ME P co cl Wv zW zA Fin got af a w):∀(gs:zS zE)(sl:zy (Z×Z))(q:Z->Z)(T:zDC)(B:Z),gs[0]?=O a->V2 P co cl Wv s m B got T gs w q->Comes P (zA7 gs w sl) T (qvL P s Fin):=by
 induction hM with
 |@step got af g w aH aI aJ ak aK _ aL=>
  intro gs sl q T B al h;obtain⟨N,R,d,A,aM,ag,D,am,U,V,Y,aa,L⟩:=q6K (λt D i=>K2.app D) aH _ gs w sl q T al h.core rfl;obtain⟨aN,ah,an,ao⟩:=aK _ (RE.at w A);obtain⟨aO,ai,aP⟩:=qON (ak (w.at A)) B;have aQ:∀e∈ak (w.at A),EvHd NoS aO e:=λe ab=>⟨λ_ _ aR=>aR.elim,(qlI ao e ab).1,(qlI ao e ab).2,aP e ab⟩;obtain⟨ap,_,aq,aT⟩:=evHd_ops (i:=0) (fn:=g.frame.fn) (pos:=g.frame.place) aQ;have aU:=runT_crowd_go (P:=P) (sl:=ag) (i:=0) aa aN
  obtain⟨aW,aX,_⟩:=qbB (qiI L ai) rfl (a':=aI (w.at A)) aa (w':=aJ (w.at A)) (es:=ak (w.at A)) (λ_ _ _ e=>by cases e)
   (qxU (qiI L ai).past ap (λop u b aB=>by obtain⟨e,ab,rfl⟩:=Go.Conc.mem_ofEvents u;exact qWM (ao e ab) aB) (aT _) aq)
  refine Comes.trans (Q:=λE H=>E=_/\H=_) ⟨N+1,_,_,runNT_succ_of U (V.trans aU),rfl,rfl⟩ λE H ac=>?_;obtain⟨rfl,rfl⟩:=ac;exact aL _ (RE.at w A) _ _ _ _ _ aX ⟨by simp[Y,h.size],aW,(h.ca.app D).app _,h.chs.of ah an,⟨zQ h.low.1 ai,zQ h.low.2 ai⟩⟩
 |@sel got af g ar w aC a6 a7 aY aZ a0=>
  intro gs sl q T B al h;obtain⟨N,R,d,A,aM,ag,D,am,U,V,Y,aa,L⟩:=q6K (λt D i=>K2.app D) aC.1 _ gs w sl q T al h.core rfl;have aj:0<R.size:=(zAb.1 aa).1
  have aD:∀c,partners (R.setIfInBounds 0 ph) c I=[]:=λc=>partners_nil λx y a1=>by
   rcases getElem?_stand R 0 x y a1 with⟨_,rfl⟩|⟨ad,a2⟩
   .exact offersAt_ph _ _
   .exact TokCore.noSend L ad a2 _
  obtain⟨aE,aF,au⟩:=h.chs.out;obtain⟨av,aw,ax⟩:=h.chs.last;have ay:=h.ca.app D
  have az:∀{g':zE}{W:zp}{ops:zDC},(∀op∈ops,op.g=0/\op.act.touch?=zc/\∀g d,deafStep g d op=d)->(∀op∈ops,op.act.low B)->Dt P B (K2 m) (·=0) (λ_=>zc) (·=0) ((T++D)++ops) (R.setIfInBounds 0 g') W am:=by
   intro g' W ops ap aq;obtain⟨ah,an,a3⟩:=qbD ap;exact qhI L rfl aj (λ_ _ _ e=>by cases e) ah se (λx ad=>zM (λe=>ad e.symm)) (PastG.appMute L.past (λi=>K2.app _) ah an (λ_=>a3 _ _) aq)
  rcases qBN (sl:=ag) (i:=0) aa (aC.2.2.2.2 _) (aD cl) (aD co) _ (w:=w.at A) ax au with⟨_,e,_⟩|⟨d2,⟨x,ad,ae⟩|⟨aB,_,ae⟩|⟨a4,_,ae⟩⟩
  .cases e
  .have aA:got=zb:=by cases got<;>simp_all
   subst aA;obtain rfl:Wv=x:=by simpa using ad
   refine Comes.trans (Q:=λE H=>E=_/\H=_) ⟨N+1,_,_,runNT_succ_of U (V.trans ae),rfl,rfl⟩ λE H ac=>?_;obtain⟨rfl,rfl⟩:=ac;refine aZ rfl _ ((RE.at w d2).trans (RE.chan _ (.inr rfl) ..)) _ _ _ _ B (zV aj) ⟨by simp[Y,h.size],az (λop u=>?_) (λop u=>?_),ay.app _,⟨⟨aE,aF,?_⟩,⟨av,aw+1,heap_setChan_self _ (o:=.chan 1 #[Wv] I av aw zb) ax ..⟩⟩,h.low⟩
   .simp only[zAv,zs,zC,zAt]at u;rcases u with rfl|rfl<;>exact⟨rfl,rfl,λ_ _=>rfl⟩
   .simp only[zAv,zs,zC,zAt]at u;rcases u with rfl|rfl<;>exact h.low.2
   .rw[zDB _ _ _ _ _ _ _ (zBs aG)];exact au
  .have aA:got=I:=by cases got<;>simp_all
   subst aA;refine⟨N+1,_,_,runNT_succ_of U (V.trans ae),_,_,aY rfl _ (RE.at w d2),_,ag,am,B,rfl,by simp[Y,h.size],zV aj,?_⟩
   have C:=az (g':=zA0 ar (zAQ (Bm cl co zW zA af) .select 0 zW zb)) (W:=(w.at A).at d2) (ops:=#[{g:=0,fn:=ar.frame.fn,pos:=ar.frame.place,act:=.recvClosed cl}]) (λop u=>by
    simp only[zAv,zs,zC,zAt]at u
    subst u;exact⟨rfl,rfl,λ_ _=>rfl⟩) (λop u=>by
    simp only[zAv,zs,zC,zAt]at u
    subst u;exact h.low.2)
   exact qJE ⟨C.idle,C.chans,C.wf,C.live,C.inj,C.above,C.mem,C.nomem,C.lo,qwU L.past ay rfl _ _ h.low.2,trivial⟩
  .subst a4;refine Comes.trans (Q:=λE H=>E=_/\H=_) ⟨N+1,_,_,runNT_succ_of U (V.trans ae),rfl,rfl⟩ λE H ac=>?_;obtain⟨rfl,rfl⟩:=ac;refine a0 rfl _ (RE.at w d2) _ _ _ _ B (zV aj) ⟨by simp[Y,h.size],az (λop u=>?_) (λop u=>?_),ay.app _,⟨⟨aE,aF,au⟩,⟨av,aw,ax⟩⟩,h.low⟩
   .simp only[zAv,zs,zC,zAt]at u;subst u;exact⟨rfl,rfl,λ_ _=>rfl⟩
   .simp only[zAv,zs,zC,zAt]at u;subst u;exact h.low.1
end
end
section
variable{P:zv}
section
variable{co cl k2 k3:Z}{Wv zW zA:zg}{Fin:zE->zp->Prop}{s B k:Z}{st got:zO}{T:zDC}{gs:zS zE}{w:zp}{q:Z->Z}
structure V1(P:zv)(co cl k2 k3:Z)(Wv:zg)(s B:Z)(got st:zO)(k:Z)(T:zDC)(gs:zS zE)(w:zp)(q:Z->Z):Prop where
 size:gs.size=s+1
 srv:∃b,gs[s]?=O b/\SV P co cl k2 k3 st k b
 core:qlF P (HT co cl) (·=s) B (λt i=>Knows t 0 i) (λg=>g=0\/g=s) (λ_=>zc) (λi=>i=0\/i=s) T gs w q
 chs:Chs co cl Wv st zb got w
 low:co<B/\cl<B
def V1.at(h:V1 P co cl k2 k3 Wv s B got st k T gs w q)(d):V1 P co cl k2 k3 Wv s B got st k T gs (w.at d) q:=⟨h.size,h.srv,qrH h.core d,h.chs.of rfl rfl,h.low⟩
def qaF{c}(A:c=co\/c=cl)(i)(fn)(pos:String):∀op∈zAO i fn pos (zA1 c),∀b,op.act.touch?=O b->b.write=zb/\HT co cl b.loc:=by
 intro op h b u;rw[closeOps]at h;simp only[zAv,zs,zC,zAt]at h;rcases h with rfl|rfl
 .simp only[MemAct.touch?,zAh]at u;subst u;exact⟨rfl,A.imp (λe=>by rw[e]) λe=>by rw[e]⟩
 .simp[MemAct.touch?]at u
def qkY(aD:0<s)(ax:co≠cl)(aE:V1 P co cl k2 k3 Wv s B got st k T gs w q){i}{g a}{sl}(ai:gs[i]?=O g)(aj:i≠0)(ak:g.status=.running)(ab:gs[0]?=O a)(af:a.again w=a):∃h w' ops,runT P (zA7 gs w sl) i=(.next (zA7 h w' sl),ops)/\RE co cl w w'/\h[0]?=O (a.again w')/\((∃D k' q',V1 P co cl k2 k3 Wv s B got D k' (T++ops) h w' q'/\msV k2 D k'+sumTo h.size q'<msV k2 st k+sumTo gs.size q/\(D=st/\w'=w\/st=zb/\D=I))\/∃m q',V2 P co cl Wv s m B got (T++ops) h w' q'):=by
 obtain⟨ag,⟨b,E,W⟩,H,Y,aa⟩:=aE;have al:(s==0)=zb:=sf
 have hs:s≠0:=sa
 by_cases e:i=s
 .subst e;rw[E]at ai;obtain rfl:=zn ai
  have quiet:∀{A:zE}{k':Z},(∀w,zAD P zb b w=.go A w #[])->SV P co cl k2 k3 st k' A->msV k2 st k'<msV k2 st k->
    ∃h w' ops,runT P (zA7 gs w sl) i=(.next (zA7 h w' sl),ops)/\RE co cl w w'/\h[0]?=O (a.again w')/\
   ((∃D k' q',V1 P co cl k2 k3 Wv i B got D k' (T++ops) h w' q'/\msV k2 D k'+sumTo h.size q'<msV k2 st k+sumTo gs.size q/\(D=st/\w'=w\/st=zb/\D=I))\/∃m q',V2 P co cl Wv i m B got (T++ops) h w' q'):=by
   intro A k' L aF aG;have Q:=runT_crowd_go (P:=P) (sl:=sl) E (by rw[al];exact L w);obtain⟨u,ac,C⟩:=qbB H (.inr rfl) (a':=A) E (w':=w) (es:=#[]) (λ_ _ _ _ _=>rfl) (by rw[qhA];simpa using H.past);rw[qhA]at Q u;refine⟨_,w,#[],Q,RE.refl w,?_,.inl ⟨st,k',q,⟨by simp[ag],⟨A,ac,aF⟩,u,Y,aa⟩,sf,.inl ⟨rfl,rfl⟩⟩⟩;rw[C 0 a (zBs aj) ab,woken_of_again af,af]
  have am:∀c x,Deaf (T++zAO i b.frame.fn b.frame.place (zA1 c)) x=Deaf T x:=λc x=>Deaf_quiet λop R d=>by
   rw[closeOps]at R;simp only[zAv,zs,zC,zAt]at R;rcases R with rfl|rfl<;>rfl
  cases st with
  |false=>
   cases k with
   |succ k=>
    obtain⟨_,A,L,U⟩:=W;exact quiet L U (by simp[msV])
   |zero=>
    obtain⟨aH,an,A,ao,L,U⟩:=W;obtain⟨sn,ad,ay⟩:=Y.out;have Q:=runT_crowd_go (P:=P) (sl:=sl) E (by rw[al];exact L w _ _ _ _ ay);obtain⟨ap,_,aq,_⟩:=evHd_ops (Still:=NoS) (B:=B) (i:=i) (fn:=b.frame.fn) (pos:=b.frame.place) (closeEvents_ok aa.1);obtain⟨u,ac,C⟩:=qbB H (.inr rfl) (a':=A) E (w':=w.setChan co 0 #[] I sn ad zb) (es:=zA1 co) (λ_ _ _ e=>by cases e) (PastG.appRead H.past (λi=>Knows.app _) (.inr rfl) rfl ap (qaF (.inl rfl) _ _ _) (am co i) aq);refine⟨_,_,_,Q,RE.chan w (.inl rfl) ..,?_,.inl ⟨I,k2,q,⟨by simp[ag],⟨A,ac,U⟩,u,⟨⟨sn,ad,heap_setChan_self w ay ..⟩,?_⟩,aa⟩,by simp[msV],.inr ⟨rfl,rfl⟩⟩⟩
    .rw[C 0 a (zBs aj) ab];simp[woken,an,ao]
    .obtain⟨a,b,V⟩:=Y.last;exact⟨a,b,by rw[zDB _ _ _ _ _ _ _ ax];exact V⟩
  |true=>
   cases k with
   |succ k=>
    obtain⟨_,A,L,U⟩:=W;exact quiet L U (by simp[msV])
   |zero=>
    obtain⟨aH,an,A,ao,L,U⟩:=W;obtain⟨sn,ad,az⟩:=Y.last;have Q:=runT_crowd_go (P:=P) (sl:=sl) E (by rw[al];exact L w _ _ _ _ az);obtain⟨ap,_,aq,_⟩:=evHd_ops (Still:=NoS) (B:=B) (i:=i) (fn:=b.frame.fn) (pos:=b.frame.place) (closeEvents_ok aa.2);obtain⟨u,ac,C⟩:=qbB H (.inr rfl) (a':=A) E (w':=w.setChan cl 1 (if got then zc else O Wv:zy zg).toArray I sn ad zb) (es:=zA1 cl) (λ_ _ _ e=>by cases e) (PastG.appRead H.past (λi=>Knows.app _) (.inr rfl) rfl ap (qaF (.inr rfl) _ _ _) (am cl i) aq);have hm:(T++zAO i b.frame.fn b.frame.place (zA1 cl))[T.size+1]?=O {g:=i,fn:=b.frame.fn,pos:=b.frame.place,act:=.close cl}:=by rw[at_new,closeOps];rfl
    have aP:(T++zAO i b.frame.fn b.frame.place (zA1 cl)).size=T.size+2:=sx
    refine⟨_,_,_,Q,RE.chan w (.inr rfl) ..,?_,.inr ⟨T.size+1,upd q i k3,⟨by simp[ag],?_,⟨by rw[act?_of hm],⟨i,by rw[g?_of hm],?_⟩⟩,⟨?_,⟨sn,ad,heap_setChan_self w az ..⟩⟩,aa⟩⟩⟩
    .rw[C 0 a (zBs aj) ab];simp[woken,an,ao]
    .refine⟨λx y aI ar=>?_,λ_ _ _ _ e=>(by cases e),λ_ _ e=>(by cases e),λ_ _ V=>V.elim,λ_ _ _ _ _ e=>(by cases e),u.above,λ_ _ e=>(by cases e),λi hM=>.inr hM,λ_ _ _ _=>trivial,?_,trivial⟩
     .by_cases au:x=i
      .subst au;rw[ac]at ar;obtain rfl:=zn ar;rw[upd_same];exact⟨aD,by rw[am,H.past.hears x (.inr rfl)];exact U⟩
      .rw[upd_ne q k3 au];exact u.idle x y (λV=>V.elim aI au) ar
     .refine⟨u.past.clean,λj t av aJ=>.inl ?_,λ_ _ _ _ aw=>aw.elim,λg ak=>u.past.hears g (.inl ak),u.past.seen⟩;rcases u.past.known j t av aJ with aK|⟨_,aw,g,aA,aL⟩
      .exact .inl aK
      .obtain⟨z,ae,aM⟩:=touch_of av;have aN:z.g=i:=by rw[g?_of ae]at aA;exact(zn aA).trans aL
       have aQ:=lt_size_of_getElem? ae;have aR:j≠T.size+1:=λe=>by subst e;rw[hm]at ae;obtain rfl:=zn ae;simp[MemAct.touch?]at aM
       refine .inr ⟨.inr (hb_po sa ae hm aN),t,av,λx C=>?_⟩;rcases aw with e|e<;>rw[e]at C<;>cases C
    .rw[deaf_quiet (λop R aT=>by
      rw[closeOps]at R;simp only[zAv,zs,zC,zAt]at R
      rcases R with rfl|rfl<;>rfl) 1 sx]
     exact H.past.hears i (.inr rfl)
    .obtain⟨a,b,V⟩:=Y.out;exact⟨a,b,by rw[zDB _ _ _ _ _ _ _ (zBs ax)];exact V⟩
 .obtain⟨h,ops,q',Q,aB,aC,u,aG⟩:=qhN (sl:=sl) (λt aO i=>Knows.app aO) H ai sa ak (λx aU C ah=>by
   rcases C with rfl|rfl
   .rw[ab]at ah;obtain rfl:=zn ah;exact af
   .rw[E]at ah;obtain rfl:=zn ah;exact again_of_running (.inl W.run) _) (λ_ _=>rfl)
  exact⟨h,w,ops,Q,RE.refl w,by rw[aC 0 (.inl rfl),af];exact ab,.inl ⟨st,k,q',⟨aB.trans ag,⟨b,by rw[aC s (.inr rfl)];exact E,W⟩,u,Y,aa⟩,by rw[aB];omega,.inl ⟨rfl,rfl⟩⟩⟩
def ME.rely{C}{g}{w w₁}(h:ME P co cl Wv zW zA Fin got C g w)(r:RE co cl w w₁):ME P co cl Wv zW zA Fin got C g w₁:=by
 cases h with
 |step D E H L h k=>exact .step D E H L (λu A=>h u (r.trans A)) λu A=>k u (r.trans A)
 |sel Q R U V=>exact .sel Q (λe u A=>R e u (r.trans A)) (λe u A=>U e u (r.trans A)) (λe u A=>V e u (r.trans A))
def qjO{h}{u}(A:Chs co cl Wv st zb got w)(D:h=I->st=zb):(parked u (Bm cl co zW zA h) .select).again w=parked u (Bm cl co zW zA h) .select:=by
 obtain⟨H,L,E⟩:=A.out;obtain⟨Q,R,C⟩:=A.last;cases h
 .simp[Goroutine.again,parked,Bm,zAN,rcaseNil,C]
 .obtain rfl:=D rfl;simp[Goroutine.again,parked,Bm,zAN,E,C]
def qTJ{A u}{C}(D:Chs co cl Wv st A got w)(h:A=I\/u=I/\st=I):(parked C (Bm cl co zW zA u) .select).again w={parked C (Bm cl co zW zA u) .select with status:=.running}:=by
 obtain⟨L,Q,E⟩:=D.out;obtain⟨R,U,H⟩:=D.last;rcases h with rfl|⟨rfl,rfl⟩
 .exact again_some_closed (k:=0) (c:=cl) (z:=zW) (by simp[Bm]) H
 .exact again_some_closed (k:=1) (c:=co) (z:=zA) (by simp[Bm]) E
def q8T(ay:0<s)(au:co≠cl){E}{a}(hM:ME P co cl Wv zW zA Fin got E a w):∀(gs:zS zE)(sl:zy (Z×Z))(q:Z->Z)(T:zDC)(B:Z)(st:zO)(k:Z),gs[0]?=O a->V1 P co cl k2 k3 Wv s B got st k T gs w q->(E=zb->st=I)->Comes P (zA7 gs w sl) T (qvL P s Fin):=by
 induction hM with
 |@step got E g w aH a1 a2 aI Y a8 a9=>
  have aN:∀(ah:Z)(gs:zS zE)(u:zp)(sl:zy (Z×Z))(q:Z->Z)(T:zDC)(B:Z)(st:zO)(k:Z),RE co cl w u->gs[0]?=O g->V1 P co cl k2 k3 Wv s B got st k T gs u q->(E=zb->st=I)->msV k2 st k+sumTo gs.size q=ah->Comes P (zA7 gs u sl) T (qvL P s Fin):=by
   intro ah
   induction ah using Nat.strongRecOn with
   |_ ah av=>
   intro gs u sl q T B st k r H h ae az;obtain⟨b,ai,af⟩:=h.srv
   obtain⟨i,x,L,aa,ac,aA,ao⟩:=crowd_pick (P:=P) (w:=u) (sl:=sl) (qAD h.core λi y ac R=>by
    rcases ac with rfl|rfl
    .rw[H]at R;obtain rfl:=zn R;exact awake_of (.inl aH)
    .rw[ai]at R;obtain rfl:=zn R;exact awake_of (.inl af.run)) ⟨0,g,H,aH⟩
   have U:=h.at L;by_cases e:i=0
   .subst e;rw[H]at ac;obtain rfl:=zn ac;have ap:=r.trans (RE.at u L);obtain⟨ba,e1,e2,aO⟩:=Y _ ap;obtain⟨bb,aJ,bc⟩:=qON (aI (u.at L)) B;have bd:∀e∈aI (u.at L),EvHd NoS bb e:=λe aB=>⟨λ_ _ be=>be.elim,(qlI aO e aB).1,(qlI aO e aB).2,bc e aB⟩;obtain⟨aP,_,aj,bf⟩:=evHd_ops (i:=0) (fn:=g.frame.fn) (pos:=g.frame.place) bd;have bh:=runT_crowd_go (P:=P) (sl:=aa) (i:=0) H ba
    obtain⟨bi,D,bj⟩:=qbB (qiI U.core aJ) (.inl rfl) (a':=a1 (u.at L)) H (w':=a2 (u.at L)) (es:=aI (u.at L)) (λ_ _ _ e=>by cases e)
     (PastH.appH (qiI U.core aJ).past aP (λop V b ai bl=>by
      obtain⟨e,aB,rfl⟩:=Go.Conc.mem_ofEvents V;obtain⟨x,aA⟩:=qWM (aO e aB) ai
      rcases bl with z|z<;>rw[aA]at z<;>cases z) (bf _) aj)
    refine Comes.trans (Q:=λA C=>A=_/\C=_) ⟨1,_,_,qeA (ao.trans bh),rfl,rfl⟩ λA C ad=>?_;obtain⟨rfl,rfl⟩:=ad;refine a9 _ ap _ _ _ _ _ st k D ⟨by simp[h.size],⟨b,?_,af⟩,bi,U.chs.of e1 e2,⟨zQ h.low.1 aJ,zQ h.low.2 aJ⟩⟩ ae;rw[bj s b sa ai,woken_run af.run]
   .have aC:∀w,g.again w=g:=again_of_running (.inl aH);obtain⟨am,w',ops,ak,aq,D,aQ⟩:=qkY (sl:=aa) ay au U ac e aA H (aC _);rw[aC]at D;have an:=(r.trans (RE.at u L)).trans aq;refine Comes.trans (Q:=λA C=>A=_/\C=_) ⟨1,_,_,qeA (ao.trans ak),rfl,rfl⟩ λA C ad=>?_;obtain⟨rfl,rfl⟩:=ad;rcases aQ with⟨aD,aE,ag,ab,aF,aK⟩|⟨m,ag,ab⟩
    .exact av _ sa am w' aa ag _ B aD aE an D ab (λaj=>by rcases aK with⟨e,_⟩|⟨_,e⟩;rw[e];exact ae aj;exact e) rfl
    .exact qBO ay au ((ME.step aH a1 a2 aI Y a8).rely an) am aa ag _ B D ab
  exact λgs sl q T B st k H h ae=>aN _ gs w sl q T B st k (RE.refl w) H h ae rfl
 |@sel got E g aL w aG bm bn bo bp bq=>
  have aN:∀(ah:Z)(gs:zS zE)(u:zp)(sl:zy (Z×Z))(q:Z->Z)(T:zDC)(B:Z)(st:zO)(k:Z)(al:zO)(x:zE),RE co cl w u->gs[0]?=O x->(al=zb->GB P cl co zW zA E x aL)->(al=I->x=parked aL (Bm cl co zW zA E) .select/\got=I/\(E=I->st=zb))->
    V1 P co cl k2 k3 Wv s B got st k T gs u q->(E=zb->st=I)->2*(msV k2 st k+sumTo gs.size q)+(if al then 0 else 1)=ah->Comes P (zA7 gs u sl) T (qvL P s Fin):=by
   intro ah
   induction ah using Nat.strongRecOn with
   |_ ah av=>
   intro gs u sl q T B st k al x r H ar aw h ae az;obtain⟨b,ai,af⟩:=h.srv;have aF:0<gs.size:=by have:=h.size;omega
   obtain⟨i,y,L,aa,ac,R,ao⟩:=crowd_pick (P:=P) (w:=u) (sl:=sl) (qAD h.core λi y ac R=>by
    rcases ac with rfl|rfl
    .rw[H]at R;obtain rfl:=zn R;cases al
     .exact awake_of (.inl (ar rfl).1)
     .rw[(aw rfl).1];exact awake_of (.inr (.inl rfl))
    .rw[ai]at R;obtain rfl:=zn R;exact awake_of (.inl af.run)) ⟨s,b,ai,af.run⟩
   have U:=h.at L;have ap:=r.trans (RE.at u L);by_cases e:i=0
   .subst e;rw[H]at ac;obtain rfl:=zn ac;cases al with
    |true=>rw[(aw rfl).1]at R;cases R
    |false=>
    have aG:=ar rfl
    have a3:∀c,partners (gs.setIfInBounds 0 ph) c I=[]:=λc=>partners_nil λj z aR=>by
     rcases getElem?_stand gs 0 j z aR with⟨_,rfl⟩|⟨bx,aT⟩
     .exact offersAt_ph _ _
     .by_cases br:j=s
      .subst br;rw[ai]at aT;obtain rfl:=zn aT;exact offersAt_of_not_blocked (by rw[af.run];simp) _ _
      .exact TokCore.noSend U.core sa aT _
    obtain⟨a4,a5,aU⟩:=U.chs.out;obtain⟨aW,aq,aX⟩:=U.chs.last
    have aY:∀{g':zE}{W:zp}{ops:zDC},(∀op∈ops,op.g=0/\op.act.touch?=zc/\∀g d,deafStep g d op=d)->(∀op∈ops,op.act.low B)->qlF P (HT co cl) (·=s) B (λt i=>Knows t 0 i) (λg=>g=0\/g=s) (λ_=>zc) (λi=>i=0\/i=s) (T++ops) (gs.setIfInBounds 0 g') W q:=by
     intro g' W ops aP aj;obtain⟨a6,k2,k3⟩:=qbD aP;exact qhI U.core (.inl rfl) aF (λ_ _ _ e=>by cases e) a6 se (λx aA=>zM (λe=>aA (.inl e.symm))) (PastG.appMute U.core.past (λi=>Knows.app _) a6 k2 (λ_=>k3 _ _) aj)
    have aZ:∀g',(gs.setIfInBounds 0 g')[s]?=O b:=λg'=>by rw[zM sa];exact ai
    rcases qBN (sl:=aa) (i:=0) H (aG.2.2.2.2 _) (a3 cl) (a3 co) _ (w:=u.at L) aX aU with⟨bz,_,aM,ak⟩|⟨d2,⟨bt,bu,ak⟩|⟨_,e,_⟩|⟨bv,bw,ak⟩⟩
    .have ax:got=I:=by cases got<;>simp_all
     refine Comes.trans (Q:=λA C=>A=_/\C=_) ⟨1,_,_,qeA (ao.trans ak),rfl,rfl⟩ λA C ad=>?_;obtain⟨rfl,rfl⟩:=ad;refine av (2*(msV k2 st k+sumTo gs.size q)) (by simp at az;omega) _ _ _ q _ B st k I _ ap (zV aF) (λY=>by cases Y) (λ_=>⟨rfl,ax,aM⟩) ⟨by simp[h.size],⟨b,aZ _,af⟩,by simpa using aY (g':=parked aL (Bm cl co zW zA E) .select) (W:=u.at L) (ops:=#[]) se se,U.chs,h.low⟩ ae se
    .have ax:got=zb:=by cases got<;>simp_all
     subst ax;obtain rfl:Wv=bt:=by simpa using bu
     refine Comes.trans (Q:=λA C=>A=_/\C=_) ⟨1,_,_,qeA (ao.trans ak),rfl,rfl⟩ λA C ad=>?_;obtain⟨rfl,rfl⟩:=ad;refine bp rfl _ ((ap.trans (RE.at _ d2)).trans (RE.chan _ (.inr rfl) ..)) _ _ q _ B st k (zV aF) ⟨by simp[h.size],⟨b,aZ _,af⟩,aY (λop V=>?_) (λop V=>?_),⟨⟨a4,a5,?_⟩,⟨aW,aq+1,heap_setChan_self _ (o:=.chan 1 #[Wv] zb aW aq zb) aX ..⟩⟩,h.low⟩ ae
     .simp only[zAv,zs,zC,zAt]at V;rcases V with rfl|rfl<;>exact⟨rfl,rfl,λ_ _=>rfl⟩
     .simp only[zAv,zs,zC,zAt]at V;rcases V with rfl|rfl<;>exact h.low.2
     .rw[zDB _ _ _ _ _ _ _ (zBs au)];exact aU
    .cases e
    .subst bv;refine Comes.trans (Q:=λA C=>A=_/\C=_) ⟨1,_,_,qeA (ao.trans ak),rfl,rfl⟩ λA C ad=>?_;obtain⟨rfl,rfl⟩:=ad;refine bq rfl _ (ap.trans (RE.at _ d2)) _ _ q _ B st k (zV aF) ⟨by simp[h.size],⟨b,aZ _,af⟩,aY (λop V=>?_) (λop V=>?_),⟨⟨a4,a5,aU⟩,⟨aW,aq,aX⟩⟩,h.low⟩ λ_=>bw
     .simp only[zAv,zs,zC,zAt]at V;subst V;exact⟨rfl,rfl,λ_ _=>rfl⟩
     .simp only[zAv,zs,zC,zAt]at V;subst V;exact h.low.1
   .have aC:x.again (u.at L)=x:=by
     cases al with
     |false=>exact again_of_running (.inl (ar rfl).1) _
     |true=>rw[(aw rfl).1];exact qjO U.chs (aw rfl).2.2
    obtain⟨am,w',ops,ak,aq,D,aQ⟩:=qkY (sl:=aa) ay au U ac e R H aC;have an:=ap.trans aq;refine Comes.trans (Q:=λA C=>A=_/\C=_) ⟨1,_,_,qeA (ao.trans ak),rfl,rfl⟩ λA C ad=>?_;obtain⟨rfl,rfl⟩:=ad;have a7:∀{z:zE},GB P cl co zW zA E z aL->ME P co cl Wv zW zA Fin got E z w:=λaR=>.sel aR bm bn bo;rcases aQ with⟨aD,aE,ag,ab,bE,aK⟩|⟨m,ag,ab⟩
    .have a0:E=zb->aD=I:=λaj=>by rcases aK with⟨e,_⟩|⟨_,e⟩;rw[e];exact ae aj;exact e
     cases al with
     |false=>
      rw[again_of_running (.inl (ar rfl).1)]at D;exact av _ (by simp at az⊢;omega) am w' aa ag _ B aD aE zb x an D (λ_=>ar rfl) (λY=>by cases Y) ab a0 rfl
     |true=>
      obtain⟨rfl,ax,aM⟩:=aw rfl;rcases aK with⟨rfl,rfl⟩|⟨e1,rfl⟩
      .rw[aC]at D;exact av _ (by simp at az⊢;omega) am _ aa ag _ B aD aE I _ an D (λY=>by cases Y) (λ_=>⟨rfl,ax,aM⟩) ab a0 rfl
      .have aj:E=I:=by cases E<;>simp_all
       rw[qTJ ab.chs (.inr ⟨aj,rfl⟩)]at D;exact av _ (by simp at az⊢;omega) am w' aa ag _ B I aE zb _ an D (λ_=>aG.tries _ _) (λY=>by cases Y) ab a0 rfl
    .cases al with
     |false=>
      rw[again_of_running (.inl (ar rfl).1)]at D;exact qBO ay au ((a7 (ar rfl)).rely an) am aa ag _ B D ab
     |true=>
      obtain⟨rfl,ax,aM⟩:=aw rfl;rw[qTJ ab.chs (.inl rfl)]at D;exact qBO ay au ((a7 (aG.tries _ _)).rely an) am aa ag _ B D ab
  exact λgs sl q T B st k H h ae=>aN _ gs w sl q T B st k zb g (RE.refl w) H (λ_=>aG) (λY=>by cases Y) h ae rfl
end
end
section
variable{P:zv}
def qDS{B}{es}(h:∀e∈es,EvC NoS B e):es=#[]:=by
 rcases es with⟨_|⟨e,l⟩⟩
 .rfl
 .obtain⟨_,_,hs,_⟩:=h e se;exact hs.elim
section trace
variable{t u:zDC}{m c k cap:Z}
def qLd{p q i}{z:MemOp}(e:HappensBefore (t++u) p q)(A:(t++u)[q]?=O z)(C:z.g=0)(h:Before t i p):Knows (t++u) 0 i:=⟨q,z,A,C,.inr ((h.app u).hb e)⟩
def qbW(h:t.act? m=O (.send c k))(u):(t++u).act? m=O (.send c k):=by
 obtain⟨z,q,_⟩:=zD.1 (show(t[m]?).map (·.act)=O (.send c k)from h);simpa[Trace.act?,getElem?_append_old (lt_size_of_getElem? q)]using h
def q7O(q:m<t.size)(h:t.heard m)(u):(t++u).heard m:=by
 obtain⟨A,C,D⟩:=h;exact⟨A,by rw[g?_old q];exact C,by rw[deaf_old (zCW q)];exact D⟩
def q0F(fn:zA5)(pos:String)(c k:Z):zDC:=#[{g:=0,fn:=fn,pos:=pos,act:=.recv c k 1},{g:=0,fn:=fn,pos:=pos,act:=.recvDone c k}]
def q2F(fn:zA5)(pos:String)(c:Z):zDC:=#[{g:=0,fn:=fn,pos:=pos,act:=.recvClosed c}]
def qJK(fn)(pos:String)(c k):∀op∈q0F fn pos c k,op.g=0/\op.act.touch?=zc/\∀g d,deafStep g d op=d:=λop h=>by
 simp only[q0F,zAv,zs,zC,zAt]at h;rcases h with rfl|rfl<;>exact⟨rfl,rfl,λ_ _=>rfl⟩
def qPO(fn)(pos:String)(c):∀op∈q2F fn pos c,op.g=0/\op.act.touch?=zc/\∀g d,deafStep g d op=d:=λop h=>by
 simp only[q2F,zAv,zs,zC,zAt]at h;subst h;exact⟨rfl,rfl,λ_ _=>rfl⟩
def qPR{B}{fn}{pos:String}{c k}(h:c<B):∀op∈q0F fn pos c k,op.act.low B:=λop q=>by
 simp only[q0F,zAv,zs,zC,zAt]at q;rcases q with rfl|rfl<;>exact h
def qZR{B}{fn}{pos:String}{c}(h:c<B):∀op∈q2F fn pos c,op.act.low B:=λop q=>by
 simp only[q2F,zAv,zs,zC,zAt]at q;subst q;exact h
def qyL{i}(q:t.act? m=O (.send c k))(A:t.heard m)(hd:Deaf t 0=0)(fn)(pos:String)(h:Before t i m):Knows (t++q0F fn pos c k) 0 i:=by
 obtain⟨z,C,_⟩:=zD.1 (show(t[m]?).map (·.act)=O (.send c k)from q);have e1:(t++q0F fn pos c k)[t.size+1]?=O {g:=0,fn:=fn,pos:=pos,act:=.recvDone c k}:=by simp[q0F]
 exact qLd (Relation.TransGen.single (.inr ⟨.handOver (qbW q _) (act?_of e1),q7O (lt_size_of_getElem? C) A _,⟨0,g?_of e1,by rw[deaf_quiet (λop D d=>(qJK _ _ _ _ op D).2.2 0 d) 1 (by simp[q0F])];exact hd⟩⟩)) e1 rfl h
def q2L{i}(ca:ClosedAt c m t)(hd:Deaf t 0=0)(fn)(pos:String)(h:Before t i m):Knows (t++q2F fn pos c) 0 i:=by
 have q:(t++q2F fn pos c)[t.size]?=O {g:=0,fn:=fn,pos:=pos,act:=.recvClosed c}:=by simp[q2F]
 have A:=ca.app (q2F fn pos c);exact qLd (Relation.TransGen.single (.inr ⟨.closed A.1 (act?_of q),A.2,⟨0,g?_of q,by rw[deaf_old (zH _)];exact hd⟩⟩)) q rfl h
end trace
def KU(co cl s m:Z)(t:zDC)(i:Z):Prop:=Before t i m\/(t.g? i=O s/\∃a,touchAt t i=O a/\a.write=zb/\HT co cl a.loc)
def KU2(m m3:Z)(t:zDC)(i:Z):Prop:=Before t i m\/(Before t i m3/\∃a,touchAt t i=O a/\∀x,a.loc≠.cell x)
def KU.app{co cl s m}{t}(u){i}(h:KU co cl s m t i):KU co cl s m (t++u) i:=by
 rcases h with h|⟨A,a,q,C⟩
 .exact .inl (h.app u)
 .obtain⟨x,D,_⟩:=touch_of q;exact .inr ⟨by rw[g?_old (lt_size_of_getElem? D)];exact A,a,qFF q,C⟩
def KU2.app{m m3}{t}(u){i}(h:KU2 m m3 t i):KU2 m m3 (t++u) i:=
 h.imp (·.app u) λ⟨q,a,A,C⟩=>⟨q.app u,a,qFF A,C⟩
section
variable{Mem L:Z->Prop}{B co cl s m m3:Z}{t u:zDC}
def qAT(H:PastG NoS Mem L B (KU co cl s m t) t)(hM:∀g,g=0\/g=s->Mem g)(ad:∀op∈u,op.g=0/\op.act.touch?=zc/\∀g d,deafStep g d op=d)(ae:∀op∈u,op.act.low B)(hs:t.g? m=O s)(W:∀i,Before t i m->Knows (t++u) 0 i):PastG (HT co cl) (λg=>g=0\/g=s) (·=s) B (Knows (t++u) 0) (t++u):=by
 obtain⟨am,E,af⟩:=qbD ad;obtain⟨z,Y,ag⟩:=zD.1 (show(t[m]?).map (·.g)=O s from hs);refine⟨λah=>noRace_appendMute (H.clean ah) E,λi a Q ai=>?_,λi a Q aj ak g R=>?_,λg R=>(af t g).trans (H.hears g (hM g R)),seen_app H.seen ae⟩
 .obtain⟨x,T,h⟩:=touch_of Q;rcases getElem?_append_cases T with⟨aa,q⟩|⟨_,U⟩
  .rcases H.known i a (by rw[touchAt_of q];exact h) ai with(C|⟨ab,al,A,D,ac⟩)|⟨_,V,_⟩
   .exact .inl (W i C)
   .rw[touchAt_of q,h]at A;obtain rfl:=zn A;exact .inr ⟨D,ac,s,by rw[g?_old aa];exact ab,rfl⟩
   .exact V.elim
  .rw[E x U]at h;cases h
 .obtain⟨x,T,h⟩:=touch_of Q;rcases getElem?_append_cases T with⟨aa,q⟩|⟨_,U⟩
  .rcases H.known i a (by rw[touchAt_of q];exact h) (by rcases ak with e|e<;>rw[e]<;>rfl)with(C|⟨ab,al,A,D,ac⟩)|⟨_,V,_⟩
   .rcases R with rfl|rfl
    .exact W i C
    .exact⟨m,z,by rw[getElem?_append_old (lt_size_of_getElem? Y)];exact Y,ag,C.app u⟩
   .rw[touchAt_of q,h]at A;obtain rfl:=zn A;rw[aj]at D;cases D
   .exact V.elim
  .rw[E x U]at h;cases h
def qNQ(H:PastG NoS Mem L B (KU2 m m3 t) t)(hM:Mem 0)(A:∀op∈u,op.g=0/\op.act.touch?=zc/\∀g d,deafStep g d op=d)(C:∀op∈u,op.act.low B)(D:∀i,Before t i m->Knows (t++u) 0 i):PastG NoS (·=0) (λ_=>True) B (K2 m3 (t++u)) (t++u):=by
 obtain⟨ah,q,E⟩:=qbD A;refine⟨λQ=>noRace_appendMute (H.clean Q) q,λi a R T=>?_,λi a _ _ U=>U.elim,λg V=>(E t g).trans (H.hears g (V▸hM)),seen_app H.seen C⟩;obtain⟨x,W,h⟩:=touch_of R;rcases getElem?_append_cases W with⟨ai,Y⟩|⟨_,aa⟩
 .rcases H.known i a (by rw[touchAt_of Y];exact h) T with(ab|⟨ac,ad,ae,af⟩)|⟨_,ag,_⟩
  .exact .inl (.inl (D i ab))
  .exact .inl (.inr ⟨ac.app u,ad,qFF ae,af⟩)
  .exact ag.elim
 .rw[q x aa]at h;cases h
def qAM(H:PastG NoS Mem L B (KU co cl s m t) t)(ad:Mem s)(A:∀op∈u,op.g=s)(Q:∀op∈u,∀b,op.act.touch?=O b->b.write=zb/\HT co cl b.loc)(hs:t.g? m=O s)(hd:Deaf (t++u) s=Deaf t s)(R:∀op∈u,op.act.low B):PastG NoS Mem L B (KU co cl s m (t++u)) (t++u):=by
 obtain⟨z,T,U⟩:=zD.1 (show(t[m]?).map (·.g)=O s from hs);refine⟨λV=>noRace_append (H.clean V) A λi a h op ae b af W=>?_,λi a h hm=>?_,λi a _ _ Y=>Y.elim,H.old_hears A (λ_=>hd),seen_app H.seen R⟩
 .rcases H.known i a h W.2.1 with(aa|⟨C,_⟩)|⟨_,ab,_⟩
  .exact⟨m,z,T,U,aa⟩
  .obtain⟨x,q,_⟩:=touch_of h;have:=knows_own q;rw[show x.g=s from by rw[g?_of q]at C;exact zn C]at this;exact this
  .exact ab.elim
 .obtain⟨x,q,D⟩:=touch_of h;rcases getElem?_append_cases q with⟨_,ac⟩|⟨_,E⟩
  .exact H.old_known (λi=>KU.app u) ac D hm
  .exact .inl (.inr ⟨by rw[g?_of q,A x E],a,h,Q x E a D⟩)
end
end
section
variable{P:zv}
def Dn(X:Seat):Z->zy Seat
 |0=>O X
 |_+1=>zc
def q6A{X}{i}(h:i≠0):Dn X i=zc:=by cases i with
 |zero=>exact absurd rfl h
 |succ n=>rfl
section
variable{X:Seat}{B:Z}{Kf:zDC->Z->Prop}{Mem Sp:Z->Prop}{T:zDC}{gs:zS zE}{w:zp}{q:Z->Z}
def J7(C:TokCore P TrK NoS B Kf Mem (λ_=>True) (Dn X) Sp (·=0) T gs w q)(d):TokCore P TrK NoS B Kf Mem (λ_=>True) (Dn X) Sp (·=0) T gs (w.at d) q:=TokCore.at qlE C d
def qCU(C:TokCore P TrK NoS B Kf Mem (λ_=>True) (Dn X) Sp (·=0) T gs w q){i}{a a'}(E:Sp i)(ae:i≠0)(V:¬Sp 0)(W:gs[i]?=O a){w'}{es}(Y:PastG NoS Mem (λ_=>True) B (Kf (T++zAO i a.frame.fn a.frame.place es)) (T++zAO i a.frame.fn a.frame.place es)):TokCore P TrK NoS B Kf Mem (λ_=>True) (Dn X) Sp (·=0) (T++zAO i a.frame.fn a.frame.place es) ((gs.map (woken P a a' w')).setIfInBounds i a') w' q/\((gs.map (woken P a a' w')).setIfInBounds i a')[i]?=O a':=by
 have aa:i<gs.size:=(zAb.1 W).1;have H:∀op∈zAO i a.frame.fn a.frame.place es,op.g=i:=λop ab=>by obtain⟨e,_,rfl⟩:=Go.Conc.mem_ofEvents ab;rfl
 have L:∀x,¬Sp x->((gs.map (woken P a a' w')).setIfInBounds i a')[x]?=gs[x]?:=λx h=>by
  have D:x≠i:=λe=>h (e▸E);rw[zM (λe=>D e.symm),zDo];cases e:gs[x]? with
  |none=>rfl
  |some y=>
   have ac:y.status=.running\/y.status=.finished:=by
    by_cases Q:x=0
    .exact .inl (C.live x y Q e)
    .have:=C.idle x y h e;rw[q6A Q]at this;exact this.2.status
   simp[woken_of_again (again_of_running ac w')]
 refine⟨⟨λx y h u=>?_,λj s c ad e af=>?_,C.wf,λx y h u=>?_,C.inj,λj R=>?_,C.mem,C.nomem,C.lo,Y,trivial⟩,zV (by simpa using aa)⟩
 .have D:x≠i:=λe=>h (e▸E);rw[L x h]at u;have A:=C.idle x y h u;cases U:Dn X x with
  |none=>rw[U]at A;exact⟨A.1,by rw[Deaf_other T (λz=>D z.symm) _ H];exact A.2⟩
  |some s=>rw[U]at A;exact A
 .rw[q6A ad]at e;cases e
 .subst h;rw[L 0 V]at u;exact C.live 0 y rfl u
 .simp only[Array.size_setIfInBounds,Array.size_map]at R;rw[Deaf_other T (g':=i) sa _ H];exact C.above j R
def qDU(C:TokCore P TrK NoS B Kf Mem (λ_=>True) (Dn X) Sp (·=0) T gs w q)(D:∀i g,Sp i->gs[i]?=O g->awake g):∀g∈gs,awake g:=by
 intro g E;obtain⟨i,h,rfl⟩:=Array.mem_iff_getElem.1 E;by_cases e:Sp i
 .exact D i _ e (zAK h)
 .by_cases u:i=0
  .exact awake_of (.inl (C.live i _ u (zAK h)))
  .have A:=C.idle i _ e (zAK h);rw[q6A u]at A;exact awake_of (A.2.status.elim .inl λx=>.inr (.inr x))
def J6(H:∀t u i,Kf t i->Kf (t++u) i)(C:TokCore P TrK NoS B Kf Mem (λ_=>True) (Dn X) Sp (·=0) T gs w q){i}{g}{sl}(L:gs[i]?=O g)(Q:¬Sp i)(R:g.status=.running)(U:∀x A,Sp x->gs[x]?=O A->A.status=.running)(V:¬(i=0/\∃D,AtIn P (i==0) TrK NoS B X g D)):∃h ops q',runT P (zA7 gs w sl) i=(.next (zA7 h w sl),ops)/\h.size=gs.size/\(∀x,Sp x->h[x]?=gs[x]?)/\TokCore P TrK NoS B Kf Mem (λ_=>True) (Dn X) Sp (·=0) (T++ops) h w q'/\sumTo gs.size q'<sumTo gs.size q:=by
 obtain⟨h,ops,q',W,Y,aa,_,_,ab,ac⟩:=TokCore.by_step (sl:=sl) H C L Q R (λx A ad ae=>again_of_running (.inl (U x A ad ae)) _) (λaf=>by subst af;simp[Dn]) (λs D e ag=>by
  by_cases E:i=0
  .subst E;obtain rfl:X=s:=by simpa[Dn]using e
   exact absurd ⟨rfl,D,ag⟩ V
  .rw[q6A E]at e;cases e)
 exact⟨h,ops,q',W,Y,aa,ab,ac⟩
end
section
variable{co cl k2 k3:Z}{Wv zW zA:zg}{Fin:zE->zp->Prop}{s m m3 ks B:Z}{X:Seat}{w₀:zp}
structure U2(P:zv)(co cl:Z)(Wv:zg)(s m m3 ks B:Z)(X:Seat)(T:zDC)(gs:zS zE)(w:zp)(q:Z->Z):Prop where
 size:gs.size=s+1
 core:TokCore P TrK NoS B (KU2 m m3) (·=0) (λ_=>True) (Dn X) (λ_=>zX) (·=0) T gs w q
 out:∃a b,w.heap[co]?=O (.chan 0 #[] I a b zb)
 last:∃a,w.heap[cl]?=O (.chan 1 #[Wv] I a ks zb)
 snd:T.act? m=O (.send cl ks)/\T.heard m
 shut:∃m2,ClosedAt co m2 T/\Before T m m2
 ca:ClosedAt cl m3 T
 low:co<B/\cl<B
def q5M{T}(h:T.act? m=O (.send cl ks)/\T.heard m)(u:zDC):(T++u).act? m=O (.send cl ks)/\(T++u).heard m:=by
 obtain⟨z,A,_⟩:=zD.1 (show(T[m]?).map (·.act)=O (.send cl ks)from h.1);exact⟨qbW h.1 u,q7O (lt_size_of_getElem? A) h.2 u⟩
def q7M{T}(h:∃A,ClosedAt co A T/\Before T m A)(u):∃A,ClosedAt co A (T++u)/\Before (T++u) m A:=h.imp λ_ h=>⟨h.1.app u,h.2.app u⟩
def qeb(ai:0<s)(aa:co≠cl)(az:X.cases=Bm cl co zW zA I)(aA:X.shape=.select)(aj:∀C,X.home C->∀w₁,RE co cl w₀ w₁->ME P co cl Wv zW zA Fin I I (zA0 C (zAQ (Bm cl co zW zA I) .select 0 Wv I)) w₁/\ME P co cl Wv zW zA Fin zb zb (zA0 C (zAQ (Bm cl co zW zA I) .select 1 zA zb)) w₁):∀(V:Z)(gs:zS zE)(w:zp)(sl:zy (Z×Z))(q:Z->Z)(T:zDC),RE co cl w₀ w->U2 P co cl Wv s m m3 ks B X T gs w q->sumTo gs.size q=V->Comes P (zA7 gs w sl) T (qvL P s Fin):=by
 intro V
 induction V using Nat.strongRecOn with
 |_ V aB=>
 intro gs w sl q T r h aN;have ab:0<gs.size:=by have:=h.size;omega
 obtain⟨W,ak⟩:∃W,gs[0]?=O W:=⟨gs[0],zAK ab⟩;obtain⟨i,g,H,ac,al,aC,ad⟩:=crowd_pick (P:=P) (w:=w) (sl:=sl) (qDU h.core λ_ _ u=>u.elim) ⟨0,W,ak,h.core.live 0 W rfl ak⟩;have am:=J7 h.core H;by_cases an:i=0/\∃C,AtIn P (i==0) TrK NoS B X g C
 .obtain⟨rfl,C,u⟩:=an;obtain⟨_,_,_,_,ao,es,aD,ap⟩:=u;obtain rfl:=qDS aD;rw[az,aA]at ap
  have aq:∀c,partners (gs.setIfInBounds 0 ph) c I=[]:=λc=>partners_nil λx y Y=>by
   rcases getElem?_stand gs 0 x y Y with⟨_,rfl⟩|⟨L,aE⟩
   .exact offersAt_ph _ _
   .exact TokCore.noSend am (λu=>u) aE _
  obtain⟨ar,au,ae⟩:=h.out;obtain⟨af,ag⟩:=h.last;have av:Deaf T 0=0:=h.core.past.hears 0 rfl
  have mk:∀{aw:zE}{ax:zp}{A:zDC},(∀op∈A,op.g=0/\op.act.touch?=zc/\∀g d,deafStep g d op=d)->(∀op∈A,op.act.low B)->(∀i,Before T i m->Knows (T++A) 0 i)->
    Dt P B (K2 m3) (·=0) (λ_=>zc) (·=0) (T++A) (gs.setIfInBounds 0 aw) ax q:=by
   intro aw ax A ah aF aG;refine⟨λx y L Y=>?_,λ_ _ _ _ e=>(by cases e),λ_ _ e=>(by cases e),λ_ _ u=>u.elim,λ_ _ _ _ _ e=>(by cases e),λj aH=>?_,λ_ _ e=>(by cases e),λi hM=>.inr hM,λ_ _ _ _=>trivial,qNQ h.core.past rfl ah aF aG,trivial⟩
   .rw[zM (λe=>L e.symm)]at Y;have:=h.core.idle x y (λu=>u) Y;rw[q6A L]at this;exact⟨this.1,by rw[(qbD ah).2.2];exact this.2⟩
   .rw[(qbD ah).2.2];exact h.core.above j (by simpa using aH)
  rcases qBN (sl:=ac) (i:=0) al (ap _ trivial) (aq cl) (aq co) (O Wv) (w:=w.at H) ag ae with⟨e,_⟩|⟨d2,⟨x,L,R⟩|⟨e,_⟩|⟨_,_,R⟩⟩
  .cases e
  .obtain rfl:=zn L;refine Comes.trans (Q:=λD E=>D=_/\E=_) ⟨1,_,_,qeA (ad.trans R),rfl,rfl⟩ λD E U=>?_;obtain⟨rfl,rfl⟩:=U;refine qBO ai aa (aj C ao _ (((r.trans (RE.at w H)).trans (RE.at _ d2)).trans (RE.chan _ (.inr rfl) ..))).1 _ _ q _ B (zV ab) ⟨by simp[h.size],mk (qJK _ _ _ _) (qPR h.low.2) (λi u=>qyL h.snd.1 h.snd.2 av _ _ u),h.ca.app _,⟨⟨ar,au,?_⟩,⟨af,ks+1,heap_setChan_self _ (o:=.chan 1 #[Wv] I af ks zb) ag ..⟩⟩,h.low⟩;rw[zDB _ _ _ _ _ _ _ (zBs aa)];exact ae
  .cases e
  .refine Comes.trans (Q:=λD E=>D=_/\E=_) ⟨1,_,_,qeA (ad.trans R),rfl,rfl⟩ λD E U=>?_;obtain⟨rfl,rfl⟩:=U;obtain⟨aO,c2,aI⟩:=h.shut;exact qBO ai aa (aj C ao _ ((r.trans (RE.at w H)).trans (RE.at _ d2))).2 _ _ q _ B (zV ab) ⟨by simp[h.size],mk (qPO _ _ _) (qZR h.low.1) (λi u=>q2L c2 av _ _ (u.trans aI)),h.ca.app _,⟨⟨ar,au,ae⟩,⟨af,ks,ag⟩⟩,h.low⟩
 .obtain⟨aJ,A,aK,R,ay,_,aL,aP⟩:=J6 (sl:=ac) (λt aM i=>KU2.app aM) am al (λu=>u) aC (λ_ _ u=>u.elim) an;refine Comes.trans (Q:=λD E=>D=_/\E=_) ⟨1,_,_,qeA (ad.trans R),rfl,rfl⟩ λD E U=>?_;obtain⟨rfl,rfl⟩:=U;exact aB _ (by rw[ay];omega) aJ (w.at H) ac aK _ (r.trans (RE.at w H)) ⟨ay.trans h.size,aL,h.out,h.last,q5M h.snd A,q7M h.shut A,h.ca.app A,h.low⟩ rfl
end
end
section
variable{P:zv}
section
variable{co cl k2 k3:Z}{Wv zW zA:zg}{Fin:zE->zp->Prop}{s m ks B:Z}{X:Seat}{w₀:zp}
structure U1(P:zv)(co cl k2 k3:Z)(Wv:zg)(s m ks B:Z)(X:Seat)(st:zO)(k:Z)(T:zDC)(gs:zS zE)(w:zp)(q:Z->Z):Prop where
 size:gs.size=s+1
 srv:∃b,gs[s]?=O b/\SV P co cl k2 k3 st k b
 core:TokCore P TrK NoS B (KU co cl s m) (λg=>g=0\/g=s) (λ_=>True) (Dn X) (·=s) (·=0) T gs w q
 out:∃a b,w.heap[co]?=O (.chan 0 #[] st a b zb)
 last:∃a,w.heap[cl]?=O (.chan 1 #[Wv] zb a ks zb)
 snd:(T.act? m=O (.send cl ks)/\T.heard m)/\T.g? m=O s
 shut:st=I->∃m2,ClosedAt co m2 T/\Before T m m2
 low:co<B/\cl<B
def qEZ{q}(h:q.g? m=O s)(u:zDC):(q++u).g? m=O s:=by
 obtain⟨z,A,_⟩:=zD.1 (show(q[m]?).map (·.g)=O s from h);rw[g?_old (lt_size_of_getElem? A)];exact h
def qfb(ax:0<s)(ak:co≠cl)(aK:X.cases=Bm cl co zW zA I)(aL:X.shape=.select)(aA:∀af,X.home af->∀w₁,RE co cl w₀ w₁->ME P co cl Wv zW zA Fin I I (zA0 af (zAQ (Bm cl co zW zA I) .select 0 Wv I)) w₁/\ME P co cl Wv zW zA Fin zb zb (zA0 af (zAQ (Bm cl co zW zA I) .select 1 zA zb)) w₁):∀(ay:Z)(ab:zS zE)(w:zp)(sl:zy (Z×Z))(q:Z->Z)(A:zDC)(V:zO)(k:Z),RE co cl w₀ w->U1 P co cl k2 k3 Wv s m ks B X V k A ab w q->msV k2 V k+sumTo ab.size q=ay->Comes P (zA7 ab w sl) A (qvL P s Fin):=by
 intro ay
 induction ay using Nat.strongRecOn with
 |_ ay aB=>
 intro ab w sl q A V k r h a7;have aM:0<ab.size:=by have:=h.size;omega
 have aC:(s==0)=zb:=sf
 have ag:s≠0:=sa
 obtain⟨b,R,W⟩:=h.srv
 obtain⟨i,g,T,ac,al,ar,am⟩:=crowd_pick (P:=P) (w:=w) (sl:=sl) (qDU h.core λi y al Y=>by
  subst al;rw[R]at Y;obtain rfl:=zn Y;exact awake_of (.inl W.run)) ⟨s,b,R,W.run⟩
 have ah:=J7 h.core T;have an:=r.trans (RE.at w T);by_cases es:i=s
 .subst es;rw[R]at al;obtain rfl:=zn al
  have quiet:∀{D:zE}{az:Z},(∀w,zAD P zb b w=.go D w #[])->SV P co cl k2 k3 V az D->msV k2 V az<msV k2 V k->Comes P (zA7 ab w sl) A (qvL P i Fin):=by
   intro D az ad a8 bw;have U:=runT_crowd_go (P:=P) (sl:=ac) R (by rw[aC];exact ad (w.at T));obtain⟨E,ai⟩:=qCU ah rfl ag (λu=>ag u.symm) R (a':=D) (w':=w.at T) (es:=#[]) (by rw[qhA];simpa using ah.past);rw[qhA]at U E;refine Comes.trans (Q:=λH L=>H=_/\L=_) ⟨1,_,_,qeA (am.trans U),rfl,rfl⟩ λH L C=>?_;obtain⟨rfl,rfl⟩:=C;exact aB _ sf _ _ ac q _ V az an ⟨by simp[h.size],⟨D,ai,a8⟩,E,h.out,h.last,by simpa using h.snd,by simpa using h.shut,h.low⟩ rfl
  have aD:∀c x,Deaf (A++zAO i b.frame.fn b.frame.place (zA1 c)) x=Deaf A x:=λc x=>Deaf_quiet λop aj d=>by
   rw[closeOps]at aj;simp only[zAv,zs,zC,zAt]at aj;rcases aj with rfl|rfl<;>rfl
  obtain⟨bx,aN,a9⟩:=zD.1 (show(A[m]?).map (·.g)=O i from h.snd.2);have ba:=lt_size_of_getElem? aN;have au:∀c,(A++zAO i b.frame.fn b.frame.place (zA1 c))[A.size+1]?=O {g:=i,fn:=b.frame.fn,pos:=b.frame.place,act:=.close c}:=λc=>by rw[at_new,closeOps];rfl
  have aO:∀c,ClosedAt c (A.size+1) (A++zAO i b.frame.fn b.frame.place (zA1 c)):=λc=>⟨by rw[act?_of (au c)],i,by rw[g?_of (au c)],by
   rw[deaf_quiet (λop aj bz=>by
    rw[closeOps]at aj;simp only[zAv,zs,zC,zAt]at aj
    rcases aj with rfl|rfl<;>rfl) 1 sx]
   exact h.core.past.hears i (.inr rfl)⟩
  have bb:∀c,Before (A++zAO i b.frame.fn b.frame.place (zA1 c)) m (A.size+1):=λc=>.inr (hb_po sa (by rw[getElem?_append_old ba];exact aN) (au c) a9);have bc:∀c,(A++zAO i b.frame.fn b.frame.place (zA1 c)).size=A.size+2:=λc=>sx
  cases V with
  |false=>
   cases k with
   |succ k=>
    obtain⟨_,D,ad,C⟩:=W;exact quiet ad C (by simp[msV])
   |zero=>
    obtain⟨bd,be,D,bf,ad,C⟩:=W;obtain⟨sn,aP,ao⟩:=h.out;have U:=runT_crowd_go (P:=P) (sl:=ac) R (by rw[aC];exact ad (w.at T) _ _ _ _ ao);obtain⟨aE,_,av,_⟩:=evHd_ops (Still:=NoS) (B:=B) (i:=i) (fn:=b.frame.fn) (pos:=b.frame.place) (closeEvents_ok h.low.1);obtain⟨E,ai⟩:=qCU ah rfl ag (λu=>ag u.symm) R (a':=D) (w':=(w.at T).setChan co 0 #[] I sn aP zb) (es:=zA1 co) (qAM ah.past (.inr rfl) aE (qaF (.inl rfl) _ _ _) h.snd.2 (aD co i) av);refine Comes.trans (Q:=λH L=>H=_/\L=_) ⟨1,_,_,qeA (am.trans U),rfl,rfl⟩ λH L C=>?_;obtain⟨rfl,rfl⟩:=C;refine aB _ ?_ _ _ ac q _ I k2 (an.trans (RE.chan _ (.inl rfl) ..)) ⟨by simp[h.size],⟨D,ai,C⟩,E,⟨sn,aP,heap_setChan_self (w.at T) ao ..⟩,?_,⟨q5M h.snd.1 _,qEZ h.snd.2 _⟩,λ_=>⟨A.size+1,aO co,bb co⟩,h.low⟩ rfl
    .simp[msV]at a7⊢;omega
    .obtain⟨a,u⟩:=h.last;exact⟨a,by rw[zDB _ _ _ _ _ _ _ ak];exact u⟩
  |true=>
   cases k with
   |succ k=>
    obtain⟨_,D,ad,C⟩:=W;exact quiet ad C (by simp[msV])
   |zero=>
    obtain⟨bd,be,D,bf,ad,C⟩:=W;obtain⟨sn,ap⟩:=h.last;have U:=runT_crowd_go (P:=P) (sl:=ac) R (by rw[aC];exact ad (w.at T) _ _ _ _ ap);obtain⟨aE,_,av,_⟩:=evHd_ops (Still:=NoS) (B:=B) (i:=i) (fn:=b.frame.fn) (pos:=b.frame.place) (closeEvents_ok h.low.2);obtain⟨E,ai⟩:=qCU ah rfl ag (λu=>ag u.symm) R (a':=D) (w':=(w.at T).setChan cl 1 #[Wv] I sn ks zb) (es:=zA1 cl) (qAM ah.past (.inr rfl) aE (qaF (.inr rfl) _ _ _) h.snd.2 (aD cl i) av);refine Comes.trans (Q:=λH L=>H=_/\L=_) ⟨1,_,_,qeA (am.trans U),rfl,rfl⟩ λH L C=>?_;obtain⟨rfl,rfl⟩:=C;refine qeb (m3:=A.size+1) (ks:=ks) (m:=m) ax ak aK aL aA _ _ _ ac (upd q i k3) _ (an.trans (RE.chan _ (.inr rfl) ..)) ⟨by simp[h.size],?_,?_,⟨sn,heap_setChan_self (w.at T) ap ..⟩,q5M h.snd.1 _,q7M (h.shut rfl) _,aO cl,h.low⟩ rfl
    .refine⟨λx y _ Y=>?_,E.chans,E.wf,E.live,E.inj,E.above,λj bh e=>?_,λj hM=>.inl (by rw[hM];simp[Dn]),λ_ _ _ _=>trivial,?_,trivial⟩
     .by_cases aF:x=i
      .subst aF;rw[ai]at Y;obtain rfl:=zn Y;rw[upd_same,q6A ag];exact⟨ax,by rw[aD,h.core.past.hears x (.inr rfl)];exact C⟩
      .rw[upd_ne q k3 aF];exact E.idle x y aF Y
     .by_cases aQ:j=0
      .exact⟨aQ,(E.mem j bh e).2⟩
      .rw[q6A aQ]at e;cases e
     .refine⟨E.past.clean,λj t aq bi=>.inl ?_,λ_ _ _ _ aG=>aG.elim,λg ar=>E.past.hears g (.inl ar),E.past.seen⟩;rcases E.past.known j t aq bi with(u|⟨aR,a',aT,_,aG⟩)|⟨_,bj,_⟩
      .exact .inl u
      .rw[aq]at aT;obtain rfl:=zn aT;obtain⟨z,aw,bl⟩:=touch_of aq;have bm:z.g=i:=by rw[g?_of aw]at aR;exact zn aR
       have bn:=lt_size_of_getElem? aw;rw[bc]at bn;have bA:j≠A.size+1:=λe=>by subst e;rw[au cl]at aw;obtain rfl:=zn aw;simp[MemAct.touch?]at bl
       exact .inr ⟨.inr (hb_po sa aw (au cl) bm),t,aq,λx aa=>by rcases aG with e|e<;>rw[e]at aa<;>cases aa⟩
      .exact bj.elim
    .obtain⟨a,b,u⟩:=h.out;exact⟨a,b,by rw[zDB _ _ _ _ _ _ _ (zBs ak)];exact u⟩
 by_cases aU:i=0/\∃af,AtIn P (i==0) TrK NoS B X g af
 .obtain⟨rfl,af,u⟩:=aU;obtain⟨_,_,_,_,aW,es,bo,aX⟩:=u;obtain rfl:=qDS bo;rw[aK,aL]at aX
  have aY:∀c,partners (ab.setIfInBounds 0 ph) c I=[]:=λc=>partners_nil λx y Y=>by
   rcases getElem?_stand ab 0 x y Y with⟨_,rfl⟩|⟨aa,aH⟩
   .exact offersAt_ph _ _
   .by_cases aZ:x=s
    .subst aZ;rw[R]at aH;obtain rfl:=zn aH;exact offersAt_of_not_blocked (by rw[W.run];simp) _ _
    .exact TokCore.noSend ah aZ aH _
  obtain⟨a0,a1,ao⟩:=h.out;obtain⟨aI,ap⟩:=h.last;have a2:Deaf A 0=0:=h.core.past.hears 0 (.inl rfl);have ai:∀D,(ab.setIfInBounds 0 D)[s]?=O b:=λD=>by rw[zM (λe=>ag e.symm)];exact R
  have mk:∀{D:zE}{a3:zp}{ae:zDC},(∀op∈ae,op.g=0/\op.act.touch?=zc/\∀g d,deafStep g d op=d)->(∀op∈ae,op.act.low B)->(∀i,Before A i m->Knows (A++ae) 0 i)->
    qlF P (HT co cl) (·=s) B (λt i=>Knows t 0 i) (λg=>g=0\/g=s) (λ_=>zc) (λi=>i=0\/i=s) (A++ae) (ab.setIfInBounds 0 D) a3 q:=by
   intro D a3 ae aJ av bp;refine⟨λx y aa Y=>?_,λ_ _ _ _ e=>(by cases e),λ_ _ e=>(by cases e),λ_ _ u=>u.elim,λ_ _ _ _ _ e=>(by cases e),λj aq=>?_,λ_ _ e=>(by cases e),λi hM=>.inr hM,λ_ _ _ e=>(by cases e),qAT h.core.past (λg ar=>ar) aJ av h.snd.2 bp,trivial⟩
   .rw[zM (λe=>aa (.inl e.symm))]at Y;have:=h.core.idle x y (λu=>aa (.inr u)) Y;rw[q6A (λu=>aa (.inl u))]at this;exact⟨this.1,by rw[(qbD aJ).2.2];exact this.2⟩
   .rw[(qbD aJ).2.2];exact h.core.above j (by simpa using aq)
  rcases qBN (sl:=ac) (i:=0) al (aX _ trivial) (aY cl) (aY co) (O Wv) (w:=w.at T) ap ao with⟨e,_⟩|⟨d2,⟨x,aa,U⟩|⟨e,_⟩|⟨_,a4,U⟩⟩
  .cases e
  .obtain rfl:=zn aa;refine Comes.trans (Q:=λH L=>H=_/\L=_) ⟨1,_,_,qeA (am.trans U),rfl,rfl⟩ λH L C=>?_;obtain⟨rfl,rfl⟩:=C;refine q8T (k2:=k2) (k3:=k3) ax ak (aA af aW _ ((an.trans (RE.at _ d2)).trans (RE.chan _ (.inr rfl) ..))).1 _ _ q _ B V k (zV aM) ⟨by simp[h.size],⟨b,ai _,W⟩,mk (qJK _ _ _ _) (qPR h.low.2) (λi u=>qyL h.snd.1.1 h.snd.1.2 a2 _ _ u),⟨⟨a0,a1,?_⟩,⟨aI,ks+1,heap_setChan_self _ (o:=.chan 1 #[Wv] zb aI ks zb) ap ..⟩⟩,h.low⟩ (λu=>by cases u);rw[zDB _ _ _ _ _ _ _ (zBs ak)];exact ao
  .cases e
  .refine Comes.trans (Q:=λH L=>H=_/\L=_) ⟨1,_,_,qeA (am.trans U),rfl,rfl⟩ λH L C=>?_;obtain⟨rfl,rfl⟩:=C;obtain⟨bB,c2,bq⟩:=h.shut a4;exact q8T (k2:=k2) (k3:=k3) ax ak (aA af aW _ (an.trans (RE.at _ d2))).2 _ _ q _ B V k (zV aM) ⟨by simp[h.size],⟨b,ai _,W⟩,mk (qPO _ _ _) (qZR h.low.1) (λi u=>q2L c2 a2 _ _ (u.trans bq)),⟨⟨a0,a1,ao⟩,⟨aI,ks,ap⟩⟩,h.low⟩ (λ_=>a4)
 .obtain⟨br,ae,bt,U,a5,bu,E,bC⟩:=J6 (sl:=ac) (λt bv i=>KU.app bv) ah al es ar (λx bD aa a6=>by subst aa;rw[R]at a6;obtain rfl:=zn a6;exact W.run) aU;refine Comes.trans (Q:=λH L=>H=_/\L=_) ⟨1,_,_,qeA (am.trans U),rfl,rfl⟩ λH L C=>?_;obtain⟨rfl,rfl⟩:=C;exact aB _ (by rw[a5];omega) br (w.at T) ac bt _ V k an ⟨a5.trans h.size,⟨b,by rw[bu s rfl];exact R,W⟩,E,h.out,h.last,⟨q5M h.snd.1 ae,qEZ h.snd.2 ae⟩,λu=>q7M (h.shut u) ae,h.low⟩ rfl
def qYZ{Mem}{aE}{aj}{w}{q}{k kk ko}{b C}{z'}{sl}(aF:0<s)(W:co≠cl)(ak:X.cases=Bm cl co zW zA I)(aG:X.shape=.select)(aH:∀D,X.home D->∀w₁,RE co cl w w₁->ME P co cl Wv zW zA Fin I I (zA0 D (zAQ (Bm cl co zW zA I) .select 0 Wv I)) w₁/\ME P co cl Wv zW zA Fin zb zb (zA0 D (zAQ (Bm cl co zW zA I) .select 1 zA zb)) w₁)(a0:aj.size=s+1)(aw:Mem 0)(al:Mem s)(a1:aj[s]?=O b)(a2:b.status=.running)(aI:∀d,zAD P zb b (w.at d)=.comm C #[scase cl Wv z'] I .send (w.at d) #[])(aJ:SV P co cl k2 k3 zb k (zA0 C zAU))(aK:w.heap[co]?=O (.chan 0 #[] zb ko ko zb))(am:w.heap[cl]?=O (.chan 1 #[] zb kk kk zb))(an:co<B/\cl<B)(R:Ring P TrK NoS B Mem (Dn X) s aE aj w q):Comes P (zA7 aj w sl) aE (qvL P s Fin):=by
 have aL:(s==0)=zb:=sf
 have U:s≠0:=sa
 obtain⟨N,L,d,T,bn,ao,ap,ax,aM,aN,a3,aO,E⟩:=picked (sl:=sl) qlE a1 a2 R;have aP:L.size=s+1:=a3.trans a0;have aQ:0<L.size:=sa
 obtain⟨Y,aa⟩:∃Y,L[0]?=O Y:=⟨L[0],zAK aQ⟩;have ay:zDF P I TrK NoS B X (ax 0) Y:=E.idle 0 Y (λh=>U h.symm) aa;have r:RE co cl w (w.at T):=RE.at w T;have aR:X.cases[0]?=O (zAN cl zW):=by rw[ak];rfl
 have a4:∀(m:Z)(az:CommCase),m≠0->X.cases[m]?=O az->az.chan≠.chan (O cl):=by
  intro m az hm aq aT;rw[ak]at aq;rcases m with _|_|m
  .exact hm rfl
  .simp[Bm]at aq;subst aq;simp[zAN]at aT;exact W aT
  .simp[Bm]at aq
 have aU:∀(x:Z)(y:zE),x≠0->(L.setIfInBounds s ph)[x]?=O y->offersAt y cl zb=[]:=by
  intro x y u A;rcases getElem?_stand L s x y A with⟨_,rfl⟩|⟨a5,a6⟩
  .exact offersAt_ph _ _
  .exact TokCore.noRecvAt E a5 a6 λar aW _=>by rw[q6A u]at aW;cases aW
 have aA:PastH NoS Mem (λg=>g≠s/\(Dn X g).isSome) B s ap:=E.past;rcases ay with⟨a7,a8,ab,a9⟩|⟨bo,bp,D,rfl,ba⟩
 .have aX:Y.status=.running:=(Sits.status (w:=w) trivial (.inl ⟨a7,a8,ab,a9⟩)).elim (·.1) (λz=>sa)
  have aB:partners (L.setIfInBounds s ph) cl zb=[]:=partners_nil λx y A=>by
   by_cases u:x=0
   .subst u;rw[stand_get (λh=>U h.symm) aa]at A;obtain rfl:=zn A;exact offersAt_of_not_blocked (by rw[aX];simp) _ _
   .exact aU x y u A
  have ac:=crowd_send_room (P:=P) (sl:=ao) aO (by rw[aL];exact aI T) (w₁:=w.at T) am se aB;rw[qhA,Array.empty_append]at ac;have ad:=aA.toS al C.frame.fn C.frame.place kk an.2
  have be:∀op∈(#[{g:=s,fn:=C.frame.fn,pos:=C.frame.place,act:=.send cl kk},{g:=s,fn:=C.frame.fn,pos:=C.frame.place,act:=.sendDone cl kk}]:zDC),op.g=s/\op.act.touch?=zc/\∀g d,deafStep g d op=d:=λop aY=>by
   simp only[zAv,zs,zC,zAt]at aY;rcases aY with rfl|rfl<;>exact⟨rfl,rfl,λ_ _=>rfl⟩
  have ae:=(qbD be).2.2;refine Comes.trans (Q:=λaf ag=>af=_/\ag=_) ⟨N+1,_,_,runNT_succ_of aM (aN.trans ac),rfl,rfl⟩ λaf ag ab=>?_;obtain⟨rfl,rfl⟩:=ab;refine qfb (k2:=k2) (k3:=k3) (m:=ap.size) (ks:=kk) (B:=B) aF W ak aG aH _ _ _ ao ax _ zb k (r.trans (RE.chan _ (.inr rfl) ..)) ⟨by simp[aP],⟨_,zV sa,aJ⟩,?_,⟨ko,ko,?_⟩,⟨kk+1,heap_setChan_self (w.at T) am ..⟩,⟨⟨ad.2.1,ad.2.2⟩,by simp[Trace.g?]⟩,λh=>(by cases h),an⟩ rfl
  .refine⟨λx y u A=>?_,λj ar c bf e _=>(by rw[q6A bf]at e;cases e),E.wf,λx y u A=>?_,E.inj,λj aC=>?_,λj ar e=>?_,λj hM=>hM.elim (λh=>.inl (by subst h;simp[Dn])) .inr,λ_ _ _ _=>trivial,?_,trivial⟩
   .rw[zM (λe=>u e.symm)]at A;have H:=E.idle x y u A;cases es:Dn X x with
    |none=>rw[es]at H;exact⟨H.1,by rw[ae];exact H.2⟩
    |some ar=>rw[es]at H;exact H
   .subst u;rw[zM U,aa]at A;obtain rfl:=zn A;exact aX
   .rw[ae];exact E.above j (by simpa using aC)
   .by_cases aZ:j=0
    .exact⟨.inl aZ,(E.mem j ar e).2⟩
    .rw[q6A aZ]at e;cases e
   .exact qRc (qiR (qiK ad.1) λg ah=>ah.elim (λe=>e▸ad.1.hears 0 aw) λe=>e▸ad.1.hears s al) λi a _ _ h=>.inl h
  .rw[zDB _ _ _ _ _ _ _ (zBs W)];exact aK
 .have bh:=ba.2.2.2.2.1
  have aB:partners (L.setIfInBounds s ph) cl zb=[(0,0)]:=by
   rw[partners_one (stand_get (λh=>U h.symm) aa) λx y u A=>aU x y u A,offersAt_parked_at aR a4];rfl
  have ac:=crowd_send_meets_sel (P:=P) (sl:=ao) aO (by rw[aL];exact aI T) (w₁:=w.at T) am (λh=>U h.symm) aa aR aB;rw[qhA,Array.empty_append]at ac;have V:=aA.give al aw C.frame.fn C.frame.place D.frame.fn D.frame.place kk 1 an.2;have bi:∀op∈met s 0 C.frame.fn C.frame.place D.frame.fn D.frame.place cl kk 1,op.act.touch?=zc:=met_mute _ _ _ _ _ _ _ _ _;have ae:∀x,Deaf (ap++met s 0 C.frame.fn C.frame.place D.frame.fn D.frame.place cl kk 1) x=Deaf ap x:=λx=>Deaf_quiet (met_quiet _ _ _ _ _ _ _ _ _ x);refine Comes.trans (Q:=λaf ag=>af=_/\ag=_) ⟨N+1,_,_,runNT_succ_of aM (aN.trans ac),rfl,rfl⟩ λaf ag ab=>?_;obtain⟨rfl,rfl⟩:=ab;have bj:=(aH D bh _ (r.trans (RE.chan _ (.inr rfl) 1 #[] zb (kk+1) (kk+1) zb))).1;refine q8T (k2:=k2) (k3:=k3) aF W bj _ ao ax _ B zb k (by rw[zM U,zV aQ,finishComm_served,ak,aG];rfl) ⟨by simp[aP],⟨_,zV sf,aJ⟩,?_,⟨⟨ko,ko,?_⟩,⟨kk+1,kk+1,heap_setChan_self (w.at T) am ..⟩⟩,an⟩ (λh=>by cases h)
  .refine⟨λx y u A=>?_,λ_ _ _ _ e=>(by cases e),λ_ _ e=>(by cases e),λ_ _ h=>h.elim,λ_ _ _ _ _ e=>(by cases e),λj aC=>?_,λ_ _ e=>(by cases e),λi hM=>.inr hM,λ_ _ _ e=>(by cases e),⟨V.clean,λi a au av=>?_,λi a au bx ay g ah=>?_,λg ah=>?_,V.seen⟩,trivial⟩
   .rw[zM (λe=>u (.inr e.symm)),zM (λe=>u (.inl e.symm))]at A;have H:=E.idle x y (λh=>u (.inr h)) A;rw[q6A (λh=>u (.inl h))]at H;exact⟨H.1,by have h:=H.2;rw[<-ae x]at h;exact h⟩
   .exact(ae j).trans (E.above j (by simpa using aC))
   .exact(V.known i a au av).imp id λ⟨_,ai,_⟩=>ai.elim
   .have av:a.loc.isMemory=I:=by rcases ay with e|e<;>rw[e]<;>rfl
    rcases ah with rfl|rfl
    .exact(V.known i a au av).elim id λ⟨_,ai,_⟩=>ai.elim
    .obtain⟨x,u,aD⟩:=touch_of au;rcases getElem?_append_cases u with⟨_,bl⟩|⟨_,bm⟩
     .exact((aA.known i a (by rw[touchAt_of bl];exact aD) av).elim id λ⟨_,ai,_⟩=>ai.elim).app _
     .rw[bi x bm]at aD;cases aD
   .rcases ah with rfl|rfl
    .exact V.hears 0 aw
    .exact V.hears g al
  .rw[zDB _ _ _ _ _ _ _ (zBs W)];exact aK
end
end
section
variable{P:zv}
def q3L{B0:Z}{Mem:Z->Prop}{C:Z->zy Seat}{h n:Z}{E:Env P}(hE:E.main=(h==0))(af:∀i s c,C i=O s->s.has c->c<E.N)(ag:∀f args w R,¬E.Big f args w R):∀{a:zE}{w:zp},E.G a w->∀{A:zS zE}{sl:zy (Z×Z)}{q:Z->Z}{B:Z}{T:zDC},A.size=n->A[h]?=O a->B0<=B->Ring P TrK NoS B Mem C h T A w q->Comes P (zA7 A w sl) T λm' D=>∃a' w' H sl' q' L,E.Stop a' w'/\m'=zA7 H w' sl'/\H.size=n/\H[h]?=O a'/\B0<=L/\Ring P TrK NoS L Mem C h D H w' q':=by
 intro a w ah
 induction ah with
 |@stop a w hs=>exact λV W U Y=>.now ⟨a,w,_,_,_,_,by have:=hs w.drawn;exact this,rfl,V,W,U,Y⟩
 |@step a w ai aj ak ab al _ am=>
  intro A sl q B T V W an Y;obtain⟨N,aG,d,u,aH,ao,aI,aJ,ap,aq,ar,ac,au⟩:=picked (sl:=sl) qlE W ai Y;obtain⟨ad,av,ae⟩:=al u;obtain⟨L,U,aw⟩:=qON (ab u) B;rw[hE]at ad;have ax:DH TrK NoS L C (w.at u) (ak u) (ab u):=⟨λ_=>trivial,λi s c ay az=>av c (af i s c ay az),λe aa=>⟨λ_ _ aA=>aA.elim,(ae e aa).1,(ae e aa).2,aw e aa⟩⟩;obtain⟨aB,aC⟩:=(qYK au U).own (a':=aj u) ac ax;have aD:=runT_crowd_go (P:=P) (sl:=ao) ac ad;refine Comes.trans (Q:=λm' D=>m'=_/\D=_) ⟨N+1,_,_,runNT_succ_of ap (aq.trans aD),rfl,rfl⟩ λm' D aE=>?_;obtain⟨rfl,rfl⟩:=aE;exact am u (by simp[ar,V]) aC (zY an U) aB
 |big aF _ _=>exact λ_ _ _ _=>absurd (aF 0) (ag _ _ _ _)
def In2(X S:Seat)(s:Z):Z->zy Seat
 |0=>O X
 |i+1=>if i+1=s then O S else zc
section
variable{X S:Seat}{s:Z}
def qiQ(h:0<s):In2 X S s s=O S:=by cases s with
 |zero=>omega
 |succ n=>simp[In2]
def qVI{i}(h:i≠0)(hs:i≠s):In2 X S s i=zc:=by cases i with
 |zero=>exact absurd rfl h
 |succ n=>simp[In2,hs]
def qjQ{i}{Y}(h:In2 X S s i=O Y):i=0/\Y=X\/i=s/\Y=S:=by
 by_cases q:i=0
 .subst q;exact .inl ⟨rfl,(zn h).symm⟩
 .by_cases hs:i=s
  .subst hs;rw[qiQ sa]at h;exact .inr ⟨rfl,(zn h).symm⟩
  .rw[qVI q hs]at h;cases h
end
def Two(P:zv)(B0:Z)(X S:Seat)(s h:Z)(a:zE)(w:zp)(m:Machine)(T:zDC):Prop:=
 ∃q sl A u Mem,m=zA7 q w sl/\q.size=s+1/\q[h]?=O a/\Mem 0/\Mem s/\B0<=u/\Ring P TrK NoS u Mem (In2 X S s) h T q w A
section
variable{B0:Z}{X S:Seat}{s:Z}{a:zE}{w:zp}{m:Machine}{T:zDC}
def qMR{h:Z}{E:Env P}(hE:E.main=(h==0))(A:∀c,X.has c->c<E.N)(B:∀c,S.has c->c<E.N)(C:∀f args w R,¬E.Big f args w R)(D:E.G a w)(H:Two P B0 X S s h a w m T):Comes P m T λm' q=>∃a' w',E.Stop a' w'/\Two P B0 X S s h a' w' m' q:=by
 obtain⟨aj,sl,ak,al,Mem,rfl,L,Q,U,V,W,Y⟩:=H;refine(q3L hE (λi am c e u=>?_) C D L Q W Y).mono ?_
 .rcases qjQ e with⟨_,rfl⟩|⟨_,rfl⟩
  .exact A c u
  .exact B c u
 .rintro m' q ⟨a',w',aa,ab,ac,ad,ae,rfl,af,ag,ah,ai⟩;exact⟨a',w',ae,aa,ab,ac,ad,Mem,rfl,af,ag,U,V,ah,ai⟩
def qFU(B:0<s){c n0}{v z z'}{u}(C:S.cases=#[zAN c z])(D:a.status=.running)(E:∀d,zAD P I a (w.at d)=.comm u #[scase c v z'] I .send (w.at d) #[])(H:zDF P I TrK NoS 0 X n0 (zA0 u zAU))(L:Two P B0 X S s 0 a w m T):Comes P m T λm' q=>∃h d k cap,S.home h/\w.heap[c]?=O (.chan cap #[] zb k k zb)/\Two P B0 X S s s (zA0 h (zAQ S.cases S.shape 0 v I)) ((w.at d).setChan c cap #[] zb (k+1) (k+1) zb) m' q:=by
 obtain⟨aj,sl,ak,Q,Mem,rfl,R,U,A,V,W,Y⟩:=L;obtain⟨N,m',q,aa,ab,h,d,k,cap,ac,ad,rfl,ae,af,ag,ah,ai⟩:=give (sl:=sl) qlE (λ_ _ _ _ _ _ _ _ _ _ _ _ _=>trivial) (show s≠0 by omega) sa (qiQ B) (kk:=0) (by rw[C];rfl) A U D E qbN Y (Inb':=In2 X S s) (λ_ _=>rfl) (.inl rfl) (nh:=n0) (λ_ _=>qQC (zJ _) H);exact⟨N,_,q,aa,h,d,k,cap,ag,ah,ab,ac,ad,Q,_,rfl,ae.trans R,af,⟨A,.inl (by simp[In2])⟩,⟨V,.inr rfl⟩,W,ai⟩
def qEU(u:0<s){c n0}{v z z'}{A}(D:X.cases=#[zAN c z])(E:a.status=.running)(H:∀d,zAD P zb a (w.at d)=.comm A #[scase c v z'] I .send (w.at d) #[])(L:zDF P zb TrK NoS 0 S n0 (zA0 A zAU))(Q:Two P B0 X S s s a w m T):Comes P m T λm' q=>∃h d k cap,X.home h/\w.heap[c]?=O (.chan cap #[] zb k k zb)/\Two P B0 X S s 0 (zA0 h (zAQ X.cases X.shape 0 v I)) ((w.at d).setChan c cap #[] zb (k+1) (k+1) zb) m' q:=by
 obtain⟨ak,sl,al,R,Mem,rfl,U,V,W,B,Y,aa⟩:=Q;have C:(s==0)=zb:=sf
 obtain⟨N,m',q,ab,ac,h,d,k,cap,ad,ae,rfl,af,ag,ah,ai,aj⟩:=give (sl:=sl) qlE (λ_ _ _ _ _ _ _ _ _ _ _ _ _=>trivial) (show 0≠s by omega) sa (show In2 X S s 0=O X from rfl) (kk:=0) (by rw[D];rfl) B V E (λd=>by rw[C];exact H d) qbN aa (Inb':=In2 X S s) (λ_ _=>rfl) (.inl rfl) (nh:=n0)
  (λ_ _=>by rw[qiQ u];show zDF P (s==0) _ _ _ _ _ _;rw[C];exact qQC (zJ _) L)
 exact⟨N,_,q,ab,h,d,k,cap,ah,ai,ac,ad,ae,R,_,rfl,af.trans U,ag,⟨W,.inr rfl⟩,⟨B,.inl (by rw[qiQ u];simp)⟩,Y,aj⟩
def qGY(X'):upd (In2 X S s) 0 (O X')=In2 X' S s:=by
 funext i;by_cases h:i=0
 .subst h;rw[upd_same];rfl
 .rw[upd_ne _ _ h];cases i with
  |zero=>exact absurd rfl h
  |succ n=>rfl
def qFY(u:0<s)(S'):upd (In2 X S s) s (O S')=In2 X S' s:=by
 funext i;by_cases h:i=s
 .subst h;rw[upd_same,qiQ u]
 .rw[upd_ne _ _ h];by_cases q:i=0
  .subst q;rfl
  .rw[qVI q h,qVI q h]
def qCO(ab:0<s){X'}(A:X'.Wf)(B:∀c,S.has c->¬X'.has c)(C:∀c,X'.has c->∃cap k,w.heap[c]?=O (.chan cap #[] zb k k zb))(D:∀c,X'.has c->c<B0)(E:Two P B0 X S s 0 a w m T):Two P B0 X' S s 0 a w m T:=by
 obtain⟨H,sl,L,Q,Mem,rfl,R,U,q,V,u,W⟩:=E;refine⟨H,sl,L,Q,Mem,rfl,R,U,q,V,u,?_⟩;rw[<-qGY (X:=X)];refine W.reseat q X' A (λi ac c Y e aa=>?_) C (λc h=>zQ (D c h) u);rcases qjQ e with⟨h,_⟩|⟨_,rfl⟩
 .exact absurd h Y
 .exact B c aa
def qGU(A:0<s){S'}(B:S'.Wf)(C:∀c,X.has c->¬S'.has c)(D:∀c,S'.has c->∃cap k,w.heap[c]?=O (.chan cap #[] zb k k zb))(E:∀c,S'.has c->c<B0)(H:Two P B0 X S s s a w m T):Two P B0 X S' s s a w m T:=by
 obtain⟨L,sl,Q,R,Mem,rfl,U,V,W,q,u,Y⟩:=H;refine⟨L,sl,Q,R,Mem,rfl,U,V,W,q,u,?_⟩;rw[<-qFY (S:=S) A];refine Y.reseat q S' B (λi ac c aa e ab=>?_) D (λc h=>zQ (E c h) u);rcases qjQ e with⟨_,rfl⟩|⟨h,_⟩
 .exact C c ab
 .exact absurd h aa
end
end
section
variable{P:zv}
def One(P:zv)(B0:Z)(X:Seat)(s h:Z)(a:zE)(w:zp)(m:Machine)(T:zDC):Prop:=
 ∃q sl A u Mem,m=zA7 q w sl/\q.size=s+1/\q[h]?=O a/\Mem 0/\Mem s/\B0<=u/\Ring P TrK NoS u Mem (Dn X) h T q w A
section
variable{B0:Z}{X S:Seat}{s:Z}{a:zE}{w:zp}{m:Machine}{T:zDC}
def q4R{i}{Y}(h:Dn X i=O Y):i=0/\Y=X:=by
 cases i with
 |zero=>exact⟨rfl,(zn h).symm⟩
 |succ n=>cases h
def qZX{h:Z}{E:Env P}(hE:E.main=(h==0))(u:∀c,X.has c->c<E.N)(A:∀f args w R,¬E.Big f args w R)(B:E.G a w)(C:One P B0 X s h a w m T):Comes P m T λm' q=>∃a' w',E.Stop a' w'/\One P B0 X s h a' w' m' q:=by
 obtain⟨ai,sl,aj,ak,Mem,rfl,D,H,L,Q,U,V⟩:=C;refine(q3L hE (λi al c e W=>?_) A B D H U V).mono ?_
 .obtain⟨_,rfl⟩:=q4R e;exact u c W
 .rintro m' q ⟨a',w',Y,aa,ab,ac,ad,rfl,ae,af,ag,ah⟩;exact⟨a',w',ad,Y,aa,ab,ac,Mem,rfl,ae,af,L,Q,ag,ah⟩
def qHU(B:0<s){c n0 cap k}{z}{a'}(C:S.cases=#[zAN c z])(D:a.status=.running)(E:mayWake P a=I)(H:a'.status=.running)(L:w.heap[c]?=O (.chan cap #[] zb k k zb))(Q:∀d,zAD P I a (w.at d)=.go a' ((w.at d).setChan c cap #[] I k k zb) (zA1 c))(R:zDF P I TrK NoS 0 X n0 a')(U:Two P B0 X S s 0 a w m T):Comes P m T λm' q=>∃h d,S.home h/\One P B0 X s s (zA0 h (zAQ S.cases S.shape 0 z zb)) ((w.at d).setChan c cap #[] I k k zb) m' q:=by
 obtain⟨am,sl,an,V,Mem,rfl,W,Y,u,aa,ab,ac⟩:=U
 obtain⟨N,ad,h,d,ae,q,af,ag,ah,ai,aj,ak⟩:=give_close (sl:=sl) qlE (λ_ _ _ _ _ _ _ _ _ _ _ _ _=>trivial) (show s≠0 by omega) sa (qiQ B) (kk:=0) (by rw[C];rfl) u Y D E H L Q ac
  (Inb':=Dn X) (λx A al=>by rw[qVI A al,q6A A]) (.inl rfl) (q6A sa) (nh:=n0) (λ_ _=>qQC (zJ _) R)
 exact⟨N,_,q,ag,h,d,aj,ad,ae,af,V,_,rfl,ah.trans W,ai,⟨u,.inl (by simp[Dn])⟩,⟨aa,.inr rfl⟩,ab,ak⟩
end
def qyd(P:zv)(B0 n:Z)(X:Seat)(a' u:zE)(w:zp)(m':Machine)(A:zDC):Prop:=
 ∃s h d sl B q,0<s/\n<=s/\m'=zA7 h (w.at d) sl/\h.size=s+1/\h[0]?=O a'/\h[s]?=O u/\B0<=q/\Dt P q (λt=>Knows t 0) (λg=>g=0\/g=s) (Dn X) (λi=>i=0\/i=s) A h (w.at d) B
def qXd{n B0}{X}{a a' A}{w}{m}{T}(ac:a.status=.running)(ad:∀d,zAD P I a (w.at d)=.spawn a' A (w.at d) #[])(ae:X.Wf)(af:∀c,X.has c->∃cap k,w.heap[c]?=O (.chan cap #[] zb k k zb))(ag:∀c,X.has c->c<B0)(ah:Ew P (·=0) (λ_=>zc) 0 n a w m T):Comes P m T (qyd P B0 n X a' A w):=by
 obtain⟨au,sl,av,C,rfl,aw,ai,aj⟩:=ah.of;obtain⟨N,h,d,H,ax,L,Q,ak,al,am,ay,R,an⟩:=picked (sl:=sl) qlE ai ac aj;have U:0<h.size:=(zAb.1 R).1;have u:=(qYK an (Nat.le_max_left C B0)).reseat rfl X ae (λi V c q e=>(by cases e)) af (λc q=>zQ (ag c q) (Nat.le_max_right C B0))
 have ao:upd (λ_=>zc) 0 (O X)=Dn X:=by
  funext i;cases i with
  |zero=>rw[upd_same];rfl
  |succ n=>rw[upd_ne _ _ sa];rfl
 rw[ao]at u;have W:=runT_crowd_spawn (P:=P) (sl:=L) R (ad H)
 have ap:((zAO 0 a.frame.fn a.frame.place #[]).push {g:=0,fn:=a.frame.fn,pos:=a.frame.place,act:=.go h.size}|>.push {g:=h.size,fn:=A.frame.fn,pos:=a.frame.place,act:=.start})=
   #[{g:=0,fn:=a.frame.fn,pos:=a.frame.place,act:=.go h.size},{g:=h.size,fn:=A.frame.fn,pos:=a.frame.place,act:=.start}]:=by
  rw[qhA];rfl
 rw[ap]at W;have Y:=PastH.hire (c:=h.size) u.past rfl (u.above _ (zH _)) a.frame.fn a.frame.place A.frame.fn
 have aa:∀x,Deaf (Q++#[{g:=0,fn:=a.frame.fn,pos:=a.frame.place,act:=.go h.size},{g:=h.size,fn:=A.frame.fn,pos:=a.frame.place,act:=.start}]) x=Deaf Q x:=λx=>Deaf_quiet (λop ab d=>by
  simp only[zAv,zs,zC,zAt]at ab
  rcases ab with rfl|rfl<;>rfl)
 refine⟨N+1,_,_,runNT_succ_of al (am.trans W),h.size,_,H,L,ak,max C B0,U,sa,rfl,se,?_,?_,Nat.le_max_right _ _,?_⟩
 .rw[zCy,zj sf];exact zV U
 .rw[zCy,zk se]
 refine⟨λx y B D=>?_,u.chans,u.wf,λ_ _ q=>q.elim,u.inj,λj aq=>?_,λi V e=>⟨.inl (q4R e).1,(u.mem i V e).2⟩,λi hM=>.inr hM,λ_ _ _ _=>trivial,qiK (qiR Y λg ar=>Y.hears g ar),trivial⟩
 .have az:x<h.size:=by
   have:=(zAb.1 D).1;simp at this;rcases zAJ x h.size with q|q
   .exact q
   .exact absurd (.inr sa) B
  rw[zCy,zj sf,zM (λe=>B (.inl e.symm))]at D;have E:=u.idle x y (λq=>B (.inl q)) D;rw[q6A (λq=>B (.inl q))]at E⊢;exact⟨E.1,by rw[aa];exact E.2⟩
 .rw[aa];exact u.above j (by simp at aq;omega)
def qEY{X S}{s}(u:0<s):upd (Dn X) s (O S)=In2 X S s:=by
 funext i;by_cases h:i=s
 .subst h;rw[upd_same,qiQ u]
 .rw[upd_ne _ _ h];by_cases q:i=0
  .subst q;rfl
  .rw[qVI q h,q6A q]
def qqS{n B0:Z}{X}{a a' D}{w}{o}{m}{T}{c k k' ks j n0:Z}{v z}{S:Z->Seat}(Q:a.status=.running)(R:∀d,zAD P I a (w.at d)=.spawn a' D (w.at d) #[])(U:X.Wf)(V:∀c,X.has c->∃cap k,w.heap[c]?=O (.chan cap #[] zb k k zb))(W:∀c,X.has c->c<B0)(Y:∀E,X.has E->E≠c)(q:w.heap[c]?=O (.chan 0 #[] zb k k zb))(aa:c<B0)(ab:0<k')(ac:∀s,(S s).cases=#[zAN c z])(ad:∀s,Pre P w.heap.size o (S s) k' ks D)(hW:∀B,B0<=B->Way P B (KA w o) (qxH P (KA w o) c v λg=>zDF P I TrK NoS B X n0 g) j a')(ae:Ew P (·=0) (λ_=>zc) 0 n a w m T):Comes P m T λm' H=>∃s h d,0<s/\n<=s/\(S s).home h/\Two P B0 X (S s) s s (zA0 h (zAQ (S s).cases (S s).shape 0 v I)) (((w.alloc o).at d).setChan c 0 #[] zb (k+1) (k+1) zb) m' H:=by
 refine(qXd Q R U V W ae).trans ?_;rintro m' H ⟨s,ar,d,sl,au,B,u,af,rfl,ag,ah,hs,A,ai⟩;refine(qUT (S:=S s) (sl:=sl) u q (λi aj=>q6A aj) rfl Y ab (.inl rfl) (.inr rfl) (ac s) (zQ aa A) ag hs (ad s) ah (hW B A) ai).mono ?_;rintro av aw ⟨ak,h,d2,ax,cap,al,am,rfl,an,ao,ap,C,L⟩;have aq:=(heap_alloc_old (o:=o) q).trans q;rw[aq]at C;simp only[zAh,Obj.chan.injEq]at C;obtain⟨rfl,_,_,rfl,_,_⟩:=C;rw[qEY u]at L;exact⟨s,h,d2,u,af,ap,ak,al,am,B,_,rfl,an,ao,⟨.inl rfl,.inl (by simp[In2])⟩,⟨.inr rfl,.inr rfl⟩,A,L⟩
def qEQ{n B0:Z}{X}{a a' u}{w}{o}{m}{T}{c k k' ks j n0:Z}{z}{S:Z->Seat}(E:a.status=.running)(H:∀d,zAD P I a (w.at d)=.spawn a' u (w.at d) #[])(L:X.Wf)(Q:∀c,X.has c->∃cap k,w.heap[c]?=O (.chan cap #[] zb k k zb))(R:∀c,X.has c->c<B0)(U:∀A,X.has A->A≠c)(V:w.heap[c]?=O (.chan 0 #[] zb k k zb))(W:c<B0)(Y:0<k')(aa:∀s,(S s).cases=#[zAN c z])(ab:∀s,Pre P w.heap.size o (S s) k' ks u)(hW:∀B,B0<=B->Way P B (KA w o) (qmF P (KA w o) c λg=>zDF P I TrK NoS B X n0 g) j a')(ac:Ew P (·=0) (λ_=>zc) 0 n a w m T):Comes P m T λm' C=>∃s h d,0<s/\n<=s/\(S s).home h/\One P B0 X s s (zA0 h (zAQ (S s).cases (S s).shape 0 z zb)) (((w.alloc o).setChan c 0 #[] I k k zb).at d) m' C:=by
 refine(qXd E H L Q R ac).trans ?_;rintro m' C ⟨s,au,d,sl,av,B,D,ad,rfl,ae,af,hs,q,ag⟩;refine(qqQ (S:=S s) (sl:=sl) D V (λi ah=>q6A ah) rfl U Y (.inl rfl) (.inr rfl) (aa s) (zQ W q) ae hs (ab s) af (hW B q) ag).mono ?_;rintro aw ax ⟨ai,h,d2,aj,ak,al,rfl,am,an,ao,ap,aq,ar⟩;exact⟨s,h,d2,D,ad,ao,ai,aj,ak,B,al,rfl,am,an,ap,aq,q,ar⟩
def q6Z{B0}{co cl k2 k3 k kk ko s}{Wv zW zA z'}{Fin}{X}{b q}{w}{m}{T}(B:0<s)(C:co≠cl)(D:X.cases=Bm cl co zW zA I)(E:X.shape=.select)(H:∀h,X.home h->∀w₁,RE co cl w w₁->ME P co cl Wv zW zA Fin I I (zA0 h (zAQ (Bm cl co zW zA I) .select 0 Wv I)) w₁/\ME P co cl Wv zW zA Fin zb zb (zA0 h (zAQ (Bm cl co zW zA I) .select 1 zA zb)) w₁)(L:b.status=.running)(Q:∀d,zAD P zb b (w.at d)=.comm q #[scase cl Wv z'] I .send (w.at d) #[])(R:SV P co cl k2 k3 zb k (zA0 q zAU))(U:w.heap[co]?=O (.chan 0 #[] zb ko ko zb))(V:w.heap[cl]?=O (.chan 1 #[] zb kk kk zb))(u:co<B0/\cl<B0)(W:One P B0 X s s b w m T):Comes P m T (qvL P s Fin):=by
 obtain⟨ae,sl,af,ag,Mem,rfl,Y,aa,ab,ac,A,ad⟩:=W;exact qYZ (k2:=k2) (k3:=k3) B C D E H Y ab ac aa L Q R U V ⟨zQ u.1 A,zQ u.2 A⟩ ad
end
end Go.Duo
namespace Go.Proofs.YtlmhpamhhgogaaaGreat.Sx
open Go.Conc (G)
open Go.Duo
open Go.RowKit
section
variable{P:zv}{E:Env P}
section
variable{b:zAm}{k:F Item}{cs:F zAm}{ops:zS zDA}
def qyU{K}{rest}(B:∀a' w',K a' w'->E.G (G (b.atR a' (.inRegion ops rest::k)) cs) w'):∀(l:F Z)(a:zDz)(w:zp),qhE E b.roundOf ops K l a w->E.G (G (b.atR a (.inRegion ops (l++rest)::k)) cs) w:=by
 intro l
 induction l with
 |nil=>exact λa w h=>B a w (h w.drawn)
 |cons i l A=>
  intro a w h;rw[zBi];simp only[qhE,qMC]at h;cases q:ops[i]? with
  |none=>
   simp only[q]at h;have:=A a w (h w.drawn);refine .quiet rfl (λw=>qnG (by simp[q])) ?_;simpa[q,zBf]using this
  |some o=>
   simp only[q]at h;by_cases u:zAl o (yielded ops a.tmps)=I
   .simp only[u,zBA]at h;exact qlR q u h A
   .simp only[u,zCD,zA2]at h;have:=A _ w (h w.drawn);refine .quiet rfl (λw=>qnG (by simp[q];simpa using u)) ?_;simpa[q]using this
end
def Ia(nt:Z)(a:zDz):Pin:=⟨a.defers,zA8 nt,#[]⟩
def qqY{nt}{sl}{a}(q:a.tmps.size=nt)(u:qID sl a):Sim nt (Ia nt a) sl a:=
 ⟨q,rfl,u,λn h=>by
  have:nt<=n:=by simp[Ia]at h;exact h
  rw[zBp sa];rfl⟩
def qvM{nt}{ops}:∀{τ:F Z}{u:F CY},qgJ P nt ops τ=O u->∀d∈qZE u,d<nt
 |[],u,h,d,q=>by simp[qgJ]at h;subst h;simp[qZE]at q
 |i::τ,u,h,d,q=>by
  simp only[qgJ]at h;split at h
  .cases h
  .split at h
   .cases h
   .rename_i H B;split at h
    .cases h
    .rename_i r A;simp at h;subst h;obtain⟨_,e,C⟩:=qkE B;simp only[qZE]at q;split at q
     .rename_i L D;rcases zs.1 q with rfl|q
      .exact C _ (by rw[<-e];exact D)
      .exact qvM A d q
     .exact qvM A d q
structure Stn(nt:Z)(fr:Fr)(ds:F Deferred)(sl:Sl)(hs:Hs)(a:zDz)(w:zp):Prop where
 size:a.tmps.size=nt
 defers:a.defers=ds
 As:qID sl a
 sim:Ap fr hs w
def Stn.at{nt}{fr:Fr}{q}{sl}{hs}{a}{w}(h:Stn nt fr q sl hs a w)(d):Stn nt fr q sl hs a (w.at d):=⟨h.1,h.2,h.3,h.4.at d⟩
def qZB{fr:Fr}(Q:fr.has E){H:qNA}(R:CC E fr H){nt:Z}{C:F Deferred}{b:zAm}{k:F Item}{cs:F zAm}{ops:zS zDA}{τ rest:F Z}{A:F CY}{sl:Sl}{hs:Hs}{a:zDz}{w:zp}{K:Sl->Hs->Prop}(L:qgJ P nt ops τ=O A)(q:Stn nt fr C sl hs a w)(h:Gt P H noY A sl hs K)(T:∀sl' u a' w',K sl' u->Stn nt fr C sl' u a' w'->E.G (G (b.atR a' (.inRegion ops rest::k)) cs) w'):E.G (G (b.atR a (.inRegion ops (τ++rest)::k)) cs) w:=by
 refine qyU (K:=λa' w'=>E.G (G (b.atR a' (.inRegion ops rest::k)) cs) w') (λ_ _ h=>h) τ a w ?_;have U:=qqY q.size q.As;exact qvG Q R (qOG E fr) (D:=Ia nt a) (λsl' u a' w' V B W=>T sl' u a' w' V ⟨B.size,B.defers.trans q.defers,B.As,W⟩) τ A sl hs a w L (λd Y=>by simp[Ia];exact qvM L d Y) U q.sim h
def qgU{fr:Fr}(B:fr.has E){H:qNA}(C:CC E fr H){nt id:Z}{u:F Deferred}{b:zAm}{k:F Item}{cs:F zAm}{ops:zS zDA}{A:F CY}{sl:Sl}{hs:Hs}{a:zDz}{w:zp}{K:Sl->Hs->Prop}(D:qgJ P nt ops (zA8 ops.size)=O A)(L:Stn nt fr u sl hs a w)(h:Gt P H noY A sl hs K)(Q:∀sl' q a' w',K sl' q->Stn nt fr u sl' q a' w'->E.G (G (b.atR a' k) cs) w'):E.G (G (b.atR a (.code (.region id ops zb)::k)) cs) w:=by
 refine .quiet rfl (λ_=>qPC) ?_;rw[<-List.append_nil (zA8 ops.size)];exact qZB B C D L h λsl' q a' w' R T=>.quiet rfl (λ_=>qyA) (Q sl' q a' w' R T)
def qEN(hm:P.follows .mixedOrders=I){fr:Fr}(T:fr.has E){H C:qNA}(U:G6 E H)(V:∀fr:Fr,fr.has E->CC E fr C){nt id:Z}{L:F Deferred}{b:zAm}(ag:b.roundOf=zc){k:F Item}{cs:F zAm}{ops:zS zDA}{oi:OI}{t:OT}{sl:Sl}{hs:Hs}{a:zDz}{w:zp}{K:Sl->Hs->Prop}(W:qhK ops=I)(Y:Cy P ops [] zb oi (zAP ops.size zb)=I)(aa:ER P nt ops [] oi=O t)(ab:∀d∈qDC t,d<nt)(ac:NoM (DN ops []) sl)(q:Stn nt fr L sl hs a w)(h:C0 P H C hs.lo t [] sl hs K)(A:∀sl' u a' w',K sl' u->Stn nt fr L sl' u a' w'->E.G (G (b.atR a' k) cs) w'):E.G (G (b.atR a (.code (.region id ops I)::k)) cs) w:=by
 have:=qyI (r:=b.roundOf) (D:=Ia nt a) (Q:=λa' w'=>E.G (G (b.atR a' k) cs) w') T U V hm W (λk A=>by cases A) zBW (λsl' u a' w' ad B ae=>A sl' u a' w' ad ⟨B.size,B.defers.trans q.defers,B.As,ae⟩) Y aa (λd af=>by simp[Ia];exact ab d af) ac (qqY q.size q.As) q.sim h
 refine(qJD (id:=id) (Q:=λe a' w'=>match e with
  |.normal=>E.G (G (b.atR a' k) cs) w'
  |_=>zX) hm this) b k cs rfl λe a' w' R=>?_
 cases e with
 |normal=>exact R
 |_=>exact R.elim
def qCC{fr:Fr}(A:fr.has E){H:qNA}(B:CC E fr H){nt id:Z}{q:F Deferred}{b:zAm}{k:F Item}{cs:F zAm}{ops:zS zDA}{u:F CY}{sl:Sl}{hs:Hs}{a:zDz}{w:zp}(C:qgJ P nt ops (zA8 ops.size)=O u)(D:Stn nt fr q sl hs a w)(h:Gt P H noY u sl hs λsl' L=>∀a' w',Stn nt fr q sl' L a' w'->E.G (G (b.atR a' k) cs) w'):E.G (G (b.atR a (.code (.region id ops zb)::k)) cs) w:=
 qgU A B C D h λ_ _ a' w' Q R=>Q a' w' R
def qxK{nt n:Z}{fr:Fr}{q:F Deferred}{b:zAm}{k:F Item}{cs:F zAm}{x y:zDE}{sl:Sl}{hs:Hs}{a:zDz}{w:zp}{v:SV}(t:zO)(u:AS sl n=O v)(A:Ag v=.bool t)(B:Stn nt fr q sl hs a w)(h:E.G (G (b.atR a (.code (if t then x else y)::k)) cs) w):E.G (G (b.atR a (.code (.cond (.tmp n) x y)::k)) cs) w:=
 .quiet rfl (λ_=>qCQ (by rw[qGA (B.As n v u),A])) h
def q0A{b:zAm}{a:zDz}{k:F Item}{cs:F zAm}{w:zp}{x y:zDE}(h:E.G (G (b.atR a (.code x::.code y::k)) cs) w):E.G (G (b.atR a (.code (.seq x y)::k)) cs) w:=.quiet rfl (λ_=>qLU) h
def qwI{b:zAm}{a:zDz}{k:F Item}{cs:F zAm}{w:zp}(h:E.G (G (b.atR a k) cs) w):E.G (G (b.atR a (.code .skip::k)) cs) w:=.quiet rfl (λ_=>qAQ) h
def q5J{b:zAm}{a:zDz}{k:F Item}{cs:F zAm}{w:zp}{id:Z}{c:zDE}(h:E.G (G (b.atR a (.code c::.inBlock id::k)) cs) w):E.G (G (b.atR a (.code (.block id c)::k)) cs) w:=.quiet rfl (λ_=>q0M) h
def qmS{b:zAm}{a:zDz}{k:F Item}{cs:F zAm}{w:zp}{id:Z}(h:E.G (G (b.atR a k) cs) w):E.G (G (b.atR a (.inBlock id::k)) cs) w:=.quiet rfl (λ_=>qoG) h
def q2M{g}{w}(h:∀d,E.Stop g (w.at d)):E.G g w:=.stop h
end
end Go.Proofs.YtlmhpamhhgogaaaGreat.Sx
namespace Go.Duo
open Go.Conc
open Go.Proofs.YtlmhpamhhgogaaaGreat.Sx
section
variable{P:zv}
def qaI{Q}(w):∀{n:Z}{g:zE},Quiet P Q n g->Goes P zb (RK TrK) (DS NoS 0) (λg _=>Q g) n g w
 |0,_,h=>λ_ _=>h
 |n+1,g,⟨u,B,A,h⟩=>.inr ⟨u,λq _=>by rw[A q,goes_go];exact⟨⟨rfl,se⟩,qaI q h⟩⟩
def q6H{S}{n}{g}(h:Quiet P (λg=>∃q,AtIn P zb TrK NoS 0 S g q) n g):zDF P zb TrK NoS 0 S (n+1) g:=.inl ⟨n,default,rfl,qaI _ h⟩
def Cs(P:zv)(Q:zE->Prop):Z->zE->Prop
 |0,g=>Q g
 |n+1,g=>g.status=.running/\∃h,(∀w,zAD P I g w=.go h w #[])/\Cs P Q n h
def qMH{Q}(w):∀{n:Z}{g:zE},Cs P Q n g->Goes P I (RK TrK) (DS NoS 0) (λg _=>Q g) n g w
 |0,_,h=>λ_ _=>h
 |n+1,g,⟨u,B,A,h⟩=>.inr ⟨u,λq _=>by rw[A q,goes_go];exact⟨⟨rfl,se⟩,qMH q h⟩⟩
def qYE{S}{n}{g}(h:Cs P (λg=>∃q,AtIn P I TrK NoS 0 S g q) n g):zDF P I TrK NoS 0 S (n+1) g:=.inl ⟨n,default,rfl,qMH _ h⟩
def Still(P:zv)(main:zO)(g g':zE):Prop:=g.status=.running/\∀w,zAD P main g w=.go g' w #[]
def Quiet.step{Q}{n}{g g'}(h:Still P zb g g')(k:Quiet P Q n g'):Quiet P Q (n+1) g:=⟨h.1,g',h.2,k⟩
def Cs.step{Q}{n}{g g'}(h:Still P I g g')(k:Cs P Q n g'):Cs P Q (n+1) g:=⟨h.1,g',h.2,k⟩
def qwA{Q}{g g'}(h:Still P zb g g')(k:∃n,Quiet P Q n g'):∃n,Quiet P Q n g:=k.imp' (·+1) λ_ q=>Quiet.step h q
def qpU{Q}{g g'}(h:Still P I g g')(k:∃n,Cs P Q n g'):∃n,Cs P Q n g:=k.imp' (·+1) λ_ q=>Cs.step h q
section
variable{main:zO}{b:zAm}{a:zDz}{k:F Item}{cs:F zAm}{ops:zS zDA}{i:Z}{rest:F Z}{o:zDA}
def qBC{x y}:Still P main (G (b.atR a (.code (.seq x y)::k)) cs) (G (b.atR a (.code x::.code y::k)) cs):=⟨rfl,λ_=>qLU⟩
def qVU:Still P main (G (b.atR a (.code .skip::k)) cs) (G (b.atR a k) cs):=⟨rfl,λ_=>qAQ⟩
def qIF{id}{c}:Still P main (G (b.atR a (.code (.block id c)::k)) cs) (G (b.atR a (.code c::.inBlock id::k)) cs):=⟨rfl,λ_=>q0M⟩
def qnE{id}:Still P main (G (b.atR a (.inBlock id::k)) cs) (G (b.atR a k) cs):=⟨rfl,λ_=>qoG⟩
def qFQ{c}:Still P main (G (b.atR a (.code (.loop c)::k)) cs) (G (b.atR a (.code c::.inLoop c::k)) cs):=⟨rfl,λ_=>qMU⟩
def qTK{c}:Still P main (G (b.atR a (.inLoop c::k)) cs) (G (b.atR a (.code c::.inLoop c::k)) cs):=⟨rfl,λ_=>qMK⟩
def AR{id}:Still P main (G (b.atR a (.code (.region id ops zb)::k)) cs) (G (b.atR a (.inRegion ops (zA8 ops.size)::k)) cs):=⟨rfl,λ_=>qPC⟩
def qMA:Still P main (G (b.atR a (.inRegion ops []::k)) cs) (G (b.atR a k) cs):=⟨rfl,λ_=>qyA⟩
def qeH{n}{x y}{t}(h:a.tmps[n]?=O (.bool t)):Still P main (G (b.atR a (.code (.cond (.tmp n) x y)::k)) cs) (G (b.atR a (.code (if t then x else y)::k)) cs):=⟨rfl,λ_=>qCQ (by rw[qGA h])⟩
def qjZ{id}{k'}(h:exitTo id k=O k'):Still P main (G (b.atR a (.code (.exit id)::k)) cs) (G (b.atR a k') cs):=⟨rfl,λ_=>qBQ h⟩
def qdQ{fr}{s:Sem Next}{w}(h:s.events P w #[]=#[]):lst P fr s w=#[]:=by unfold lst;rw[h];split<;>exact seen_none _ _
def qKO(u:b.roundOf=zc)(h:ops[i]?=O o)(A:o.guard=zc){v}(q:∀w,(zx a.eval o).run P w=.ok (.value v) w/\(zx a.eval o).events P w #[]=#[]):Still P main (G (b.atR a (.inRegion ops (i::rest)::k)) cs) (G (b.atR (a.put o.dst v) (.inRegion ops rest::k)) cs):=⟨rfl,λw=>by
 have hs:o.semAt b.roundOf a.eval=zx a.eval o:=by rw[u];rfl
 rw[qzM h (by simp[zAl,A]),hs,qHD (q w).1,qdQ (q w).2,zBc,h];rfl⟩
def q7W(u:b.roundOf=zc)(h:ops[i]?=O o)(A:o.guard=zc){d}(q:∀w,(zx a.eval o).run P w=.ok (.defer d) w/\(zx a.eval o).events P w #[]=#[]):Still P main (G (b.atR a (.inRegion ops (i::rest)::k)) cs) (G (b.atR ({a with defers:=d::a.defers}.put o.dst zAU) (.inRegion ops rest::k)) cs):=⟨rfl,λw=>by
 have hs:o.semAt b.roundOf a.eval=zx a.eval o:=by rw[u];rfl
 rw[qzM h (by simp[zAl,A]),hs,qLL (q w).1,qdQ (q w).2];have:=zBc b {a with defers:=d::a.defers} ops i rest k zAU;rw[h]at this
 exact zI (λf=>GStep.go (G f cs) w #[]) this⟩
def qiZ(q:b.roundOf=zc)(u:ops[i]?=O o)(A:o.guard=zc){x}(B:o.op=.move x\/o.op=.assign x):Still P main (G (b.atR a (.inRegion ops (i::rest)::k)) cs) (G (b.atR (a.put o.dst (a.eval x)) (.inRegion ops rest::k)) cs):=
 qKO q u A λw=>by rcases B with h|h<;>exact⟨by simp[zx,h],by simp[zx,h]⟩
def qdH(h:b.roundOf=zc)(q:ops[i]?=O o)(u:o.guard=zc){x}(A:o.op=.move x\/o.op=.assign x){d}(hd:o.dst=O d){v}(B:a.eval x=v):Still P main (G (b.atR a (.inRegion ops (i::rest)::k)) cs) (G (b.atR (a.put (O d) v) (.inRegion ops rest::k)) cs):=by
 have:=qiZ (P:=P) (main:=main) (k:=k) (cs:=cs) (a:=a) (rest:=rest) h q u A;rwa [hd,B]at this
def q7b(q:b.roundOf=zc)(u:ops[i]?=O o)(A:o.guard=zc){c:Call}{h:Builtin}{n}{v}(B:o.op=.defer c)(C:c.callee=.builtin h)(D:c.args=#[.tmp n])(hd:o.dst=zc)(E:a.eval (.tmp n)=v):Still P main (G (b.atR a (.inRegion ops (i::rest)::k)) cs) (G (b.atR {a with defers:={target:=.builtin h c.argTypes o.type #[zb],args:=#[v]}::a.defers} (.inRegion ops rest::k)) cs):=by
 have:=q7W (P:=P) (main:=main) (k:=k) (cs:=cs) (a:=a) (rest:=rest) (d:={target:=.builtin h c.argTypes o.type #[zb],args:=#[v]}) q u A λw=>by
  unfold zx;simp[B,resolve,C,D,E]
 rwa [hd]at this
end
def qYA{B}{K}{Stop}{g g'}(h:Still P I g g')(k:∃n,Way P B K Stop n g'):∃n,Way P B K Stop n g:=
 k.imp' (·+1) λ_ q=>⟨h.1,g',λw _=>⟨#[],h.2 w,λe u=>by simp at u⟩,q⟩
def qqW{B:Z}{K:zp->Prop}{Stop:zE->Prop}{b:zAm}{a:zDz}{k:F Item}{cs:F zAm}{ops:zS zDA}{i:Z}{rest:F Z}{o:zDA}(D:b.roundOf=zc)(u:ops[i]?=O o)(E:o.guard=zc){v:zg}(A:∀w,K w->(zx a.eval o).run P w=.ok (.value v) w/\∀e∈(zx a.eval o).events P w #[],EvHd NoS B e)(h:∃n,Way P B K Stop n (G (b.atR (a.put o.dst v) (.inRegion ops rest::k)) cs)):∃n,Way P B K Stop n (G (b.atR a (.inRegion ops (i::rest)::k)) cs):=by
 refine h.imp' (·+1) λn H=>⟨rfl,_,λw C=>⟨lst P (b.atR a (.inRegion ops (i::rest)::k)) (zx a.eval o) w,?_,?_⟩,H⟩
 .have hs:o.semAt b.roundOf a.eval=zx a.eval o:=by rw[D];rfl
  rw[qzM u (by simp[zAl,E]),hs,qHD (A w C).1,zBc,u];rfl
 .intro e q;refine(A w C).2 e ?_;unfold lst at q;split at q
  .rw[seen_none]at q;simp at q
  .exact mem_seen q
end
end Go.Duo
namespace Go.Proofs.YtlmhpamhhgogaaaGreat.Sx
open Go.Conc (heap_setChan_ne heap_setChan_self)
open Go.RowKit
def frB(B:Z)(w:zp)(g:GW)(h:B<=w.heap.size):Fr:=⟨w,(·<B),g.g,λ_ q=>zQ q h⟩
def q1K{P:zv}{E:Env P}{B:Z}{w:zp}{g:GW}{h:B<=w.heap.size}(hE:E.N<=B):(frB B w g h).has E:=λ_ q=>zQ q hE
structure Ck(B:Z)(hs:Hs)(w:zp):Prop where
 size:B<=w.heap.size
 sim:Ap (frB B w hs.g size) hs w
 lo:B<=hs.lo
section
variable{B:Z}{hs hs':Hs}{w w':zp}
def Ck.of{fr:Fr}(h:Ap fr hs w)(A:B<=w.heap.size)(C:B<=hs.lo):Ck B hs w:=
 ⟨A,⟨h.AJ,⟨rfl,rfl,rfl,zH _,λ_ _=>rfl⟩,h.res,h.nod,λb u=>⟨(h.fre b u).1,λq=>by have:=h.low.2 b u;have:b<B:=q;omega⟩,λ_ _ D=>D,λn E _ q=>by have:n<B:=q;omega,h.low⟩,C⟩
def Ck.at(h:Ck B hs w)(d):Ck B hs (w.at d):=.of (h.sim.at d) h.size h.lo
def Ck.start{fr:Fr}(h:Ap fr hs w):Ck w.heap.size ⟨hs.g,[],0,w.heap.size⟩ w:=
 ⟨zH _,⟨h.AJ,⟨rfl,rfl,rfl,zH _,λ_ _=>rfl⟩,λ_ u=>absurd u (zC),zBW,λ_ q=>by simp[Hs.bks]at q,λ_ _ A=>A,λn C _ D=>by have:n<w.heap.size:=D;simp only at C;omega,zH _,λb q=>by simp[Hs.bks]at q⟩,zH _⟩
def Ck.alloc(h:Ck B hs w)(id)(ty)(cells)(u:∀c∈cells,(Ag c).oneCell'=I)(nx):Ck B {hs with rs:=.blk id w.heap.size ty cells::hs.rs,nx:=nx} (w.alloc (.cells (qCA cells).toArray ty)):=by
 have q:=Below.AT w (.cells (qCA cells).toArray ty);have:=h.sim.Ep q (r:=.blk id w.heap.size ty cells) (nx:=nx) ⟨by show(w.heap.push _)[w.heap.size]?=_;simp,u⟩ (λb hm=>by simp[Res.bk]at hm;omega) so;exact .of this (zY h.size q.size) h.lo
def Ck.chan(h:Ck B hs w){c}(L:c<B)(C:¬hs.g.g c)(cap)(q)(cl)(s r)(u):Ck B hs (w.setChan c cap q cl s r u):=by
 have D:(w.setChan c cap q cl s r u).heap.size=w.heap.size:=Go.Duo.size_setChan ..;have E:∀n,n≠c->(w.setChan c cap q cl s r u).heap[n]?=w.heap[n]?:=λn A=>zDB w cap q cl s r u (zBs A);refine⟨by rw[D];exact h.size,⟨⟨by rw[D];exact h.sim.AJ.1,λn A=>(E n λe=>C (e▸A)).trans (h.sim.AJ.2 n A)⟩,⟨rfl,rfl,rfl,zH _,λ_ _=>rfl⟩,λr H=>?_,h.sim.nod,h.sim.fre,λ_ _ C=>C,h.sim.own,by rw[D];exact h.sim.low.1,h.sim.low.2⟩,h.lo⟩;refine Res.holds_of (λb P=>E b λe=>?_) (h.sim.res r H);exact(h.sim.fre b (zBM.2 ⟨r,H,P⟩)).2 (by subst e;exact L)
def Ck.next{g}{q:B<=w.heap.size}(h:Ap (frB B w g q) hs' w')(u:B<=hs'.lo):Ck B hs' w'/\Below B w w'/\∀n,n<B->hs'.g.g n->g.g n:=
 ⟨.of h (zY q h.frm.size) u,⟨h.frm.os,h.frm.tape,h.frm.output,h.frm.size,h.frm.block⟩,λn A C=>h.fz n A C⟩
def Ck.stn{nt}{q}{sl}{a}(h:Ck B hs w)(u:a.tmps.size=nt)(A:a.defers=q)(C:qID sl a):Stn nt (frB B w hs.g h.size) q sl hs a w:=⟨u,A,C,h.sim⟩
def Ck.AJ(h:Ck B hs w):Good hs.g w:=h.sim.AJ
end
end Go.Proofs.YtlmhpamhhgogaaaGreat.Sx
namespace Go.Proofs.YtlmhpamhhgogaaaGreat.Sx
open Go.Conc (G)
section
variable{P:zv}{E:Env P}
def qiY(P:zv)(f:zA5)(R:zg->zp->Prop)(g:zE)(w:zp):Prop:=
 ∃(h:zAm)(fn:Func)(v:zg),g=G h []/\h.fn=f/\h.mode=.returning/\h.defers=[]/\h.kind=.normal/\P.funcs[h.fn]?=O fn/\(results fn h.tmps).run P w=.ok v w/\R v w
def Io(E:Env P)(f:zA5)(args:zS zg)(w:zp)(R:zg->zp->Prop):Prop:=
 (∀g h,(∀d,qiY P f R g (h.at d))->E.Stop g h)->E.G (G (zAR P f args .normal) []) w
def Io.mono{f}{args}{w}{R q}(h:Io E f args w R)(k:∀v w',R v w'->q v w'):Io E f args w q:=λu=>h λg w' A=>u g w' λd=>by
 obtain⟨B,fn,v,C,D,H,L,Q,T,U,V⟩:=A d;exact⟨B,fn,v,C,D,H,L,Q,T,U,k _ _ V⟩
def qRN{f}{fn}{R}(H:∀g w',(∀d,qiY P f (λv w=>R (.returned v) w) g (w'.at d))->E.Stop g w'):∀(h:F Deferred)(w:zp)(fr:zAm),fr.fn=f->fr.mode=.returning->fr.defers=h->P.funcs[fr.fn]?=O fn->fr.kind=.normal->qkF E fn fr.tmps R h w->E.G (G fr []) w
 |[],w,fr,A,hm,B,C,D,q=>.stop λ_=>H _ _ λd=>by
  obtain⟨v,L,Q⟩:=q d;exact⟨fr,fn,v,rfl,A,hm,B,D,C,L,Q⟩
 |x::h,w,fr,A,hm,B,C,D,q=>.one rfl λd=>by
  obtain⟨t,ab⟩:=x;rcases q with q|⟨k,ac,args,u,T,U,V⟩
  .obtain⟨r,w',u,L,W,Y⟩:=q d;simp only at u;subst u;exact⟨_,_,_,qPJ hm B L,W,qVC (q3E _) _,qRN H h w' {fr with defers:=[]++h} A hm rfl C D Y⟩
  .simp only at u;subst u;exact⟨_,_,_,qUR hm B (U _),.refl _,qVC T _,Env.G.at (V {fr with defers:=h} [] hm λw' aa=>qRN H h w' {fr with defers:=h} A hm rfl C D aa) d⟩
def qnS{f}{fn}{c}{args}{w}{R}(u:P.funcs[f]?=O fn)(B:fn.body=O c)(h:c.wpX E zc (qJL E fn R) {tmps:=args++zAP (fn.ntmps-args.size) zAU,defers:=[]} w):Io E f args w λv w=>R (.returned v) w:=by
 intro A;let b:zAm:={(default:zAm)with fn:=f,kind:=.normal,roundOf:=zc}
 have C:zAR P f args .normal=b.atR {tmps:=args++zAP (fn.ntmps-args.size) zAU,defers:=[]} [.code c]:=by
  simp[zAR,zAM,u,B,b]
 rw[C];refine h b [] [] rfl λe D H q=>?_;cases e with
 |normal=>exact .quiet rfl (λ_=>qTR rfl) (qRN A _ _ _ rfl rfl rfl u rfl q)
 |ret=>exact λL=>.quiet rfl (λ_=>q0L rfl) (qRN A _ _ _ rfl rfl rfl u rfl q)
 |exit id=>exact q.elim
 |goto l=>exact q.elim
 |panic _=>trivial
 |outgrown=>trivial
def qwb{fr}{fn}{v}{w}(h:P.inits.idxOf? fr.fn=zc)(hm:fr.mode=.returning)(hd:fr.defers=[])(q:fr.kind=.normal)(u:P.funcs[fr.fn]?=O fn)(A:(results fn fr.tmps).run P w=.ok v w):zAD P I (G fr []) w=.ended (.done v) w (evs P fr.fn (results fn fr.tmps) w):=by
 simp[G,zAD,unwind,doReturn,hm,hd,q,u,h,zBn,A,zBF,evs]
end
end Go.Proofs.YtlmhpamhhgogaaaGreat.Sx
namespace Go.Duo
open Go.Proofs.YtlmhpamhhgogaaaGreat.Sx Go.Conc
section
variable{P:zv}
def qXZ{E:Env P}(hE:E.main=I)(H:∀f args c cs w R m u,(∀d,E.Big f args (w.at d) R)->Ew P (·=0) (λ_=>zc) 0 0 (Conc.G (zAR P f args .normal) (c::cs)) w m u->Comes P m u λm' L=>∃v w',R v w'/\Ew P (·=0) (λ_=>zc) 0 0 (Conc.G (c.finish v) cs) w' m' L){f:zA5}{args:zS zg}{W:zp}{Gm:zg->zp->Prop}(Q:P.inits.idxOf? f=zc)(T:∀fn tmps w,P.funcs[f]?=O fn->evs P f (results fn tmps) w=#[])(A:E.Stop=λg w=>∀d,qiY P f Gm g (w.at d))(h:Io E f args W Gm):∃M last o w' t',runNT P (M+1) (solo (Conc.G (zAR P f args .normal) []) W) #[]=(.ended o w',t')/\runN P M (solo (Conc.G (zAR P f args .normal) []) W)=.next last/\step P last=.ended o w'/\Conc.Good P Gm last o w' t':=by
 have U:Ew P (·=0) (λ_=>zc) 0 0 (Conc.G (zAR P f args .normal) []) W (solo (Conc.G (zAR P f args .normal) []) W) #[]:=
  ⟨#[Conc.G (zAR P f args .normal) []],zc,λ_=>0,0,solo_eq_crowd _ _,zJ _,rfl,ring_begin (λ_ z=>z.elim) (leavers_one P _) past_nil trivial⟩
 obtain⟨N,m,u,B,g,w,C,aj,sl,ak,V,rfl,_,Y,aa⟩:=qXK (h:=0) sk (λ_ _ _ e=>by cases e) H (h λg w k=>by rw[A];exact k) U;rw[A]at C;obtain⟨ab,ac⟩:=ring_end aa rfl λ_ _=>rfl
 have ad:Goes P I AtRel (λ_ _ es=>es=#[]) (AtEnd P (λ_=>zX) V Gm) 0 g w:=by
  rintro al ⟨d,rfl⟩;obtain⟨am,fn,v,rfl,ae,af,ag,ah,D,ai,k6⟩:=C d;subst ae;refine⟨rfl,v,_,qwb Q af ag ah D ai,?_,k6⟩;rw[T _ _ _ D];intro e q;simp at q
 obtain⟨M,last,o,w',t',e1,e2,e3,e4⟩:=beside_ends (sl:=sl) (λ_ _ _ h e q=>by rw[h]at q;simp at q) Y ab ac ad;refine⟨N+M,last,o,w',t',?_,?_,e3,e4⟩
 .rw[zDp,runNT_add,B];exact e1
 .rw[runN_add,<-runNT_fst P _ _ #[],B];exact e2
end
end Go.Duo
namespace Go.Proofs.YtlmhpamhhgogaaaGreat.Sx
abbrev UnA:=F SV×Hs×Z
def unJ(ms:F Z)(sl0:Sl)(body:Run)(K:DT)(x:UnA):Prop:=
 body (E6 ms x.1 sl0) x.2.1 λe sl hs=>match e with
  |.normal=>Hg ms sl λvs'=>∀h w,Ap h hs w->∃y:UnA,qCA y.1=qCA vs'/\(∃_:y.2.2<x.2.2,unJ ms sl0 body K y)/\y.2.2<x.2.2/\Ap h y.2.1 w
  |.exit n=>K (.exit n) sl hs
  |.ret=>K .ret sl hs
  |.goto n=>K (.goto n) sl hs
termination_by x.2.2
def qBU{ms}{sl0}{body}{K}(x:UnA):unJ ms sl0 body K x=body (E6 ms x.1 sl0) x.2.1 (qPN ms (λx:UnA=>x.1) (λx=>x.2.1) (unJ ms sl0 body K) (λx=>x.2.2) x K):=by
 rw[unJ];congr 1;funext e sl hs;cases e with
 |normal=>
  show Hg ms sl _=Hg ms sl _;congr 1;funext vs';refine propext ⟨λq u w A=>?_,λq u w A=>?_⟩
  .obtain⟨y,B,⟨_,C⟩,h,D⟩:=q u w A;exact⟨y,B,C,h,D⟩
  .obtain⟨y,B,C,h,D⟩:=q u w A;exact⟨y,B,⟨h,C⟩,h,D⟩
 |_=>rfl
section
variable{ms:F Z}{sl0:Sl}{body:Run}{K:DT}{vs vs':F SV}{hs hs':Hs}{n N:Z}
def quW(h:body (E6 ms vs sl0) hs (qPN ms (λx:UnA=>x.1) (λx=>x.2.1) (unJ ms sl0 body K) (λx=>x.2.2) (vs,hs,n) K)):unJ ms sl0 body K (vs,hs,n):=by
 rw[qBU];exact h
def q8B(n)(h:body (E6 ms vs sl0) hs (qPN ms (λx:UnA=>x.1) (λx=>x.2.1) (unJ ms sl0 body K) (λx=>x.2.2) (vs,hs,n) K)):∃(q:Type)(u:q->F SV)(W:q->Hs)(J:q->Prop)(B:q->Z),(∀fr w,Ap fr hs w->∃x,qCA (u x)=qCA vs/\J x/\Ap fr (W x) w)/\∀x,J x->body (E6 ms (u x) sl0) (W x) (qPN ms u W J B x K):=
 ⟨UnA,λx=>x.1,λx=>x.2.1,unJ ms sl0 body K,λx=>x.2.2,λ_ _ C=>⟨(vs,hs,n),rfl,quW h,C⟩,λx A=>by rw[qBU]at A;exact A⟩
def qWB(h:body (E6 ms vs' sl0) hs' (qPN ms (λx:UnA=>x.1) (λx=>x.2.1) (unJ ms sl0 body K) (λx=>x.2.2) (vs',hs',n) K)):∀fr w,Ap fr hs' w->∃y:UnA,qCA y.1=qCA vs'/\unJ ms sl0 body K y/\y.2.2<n+1/\Ap fr y.2.1 w:=
 λ_ _ q=>⟨(vs',hs',n),rfl,quW h,zBI n,q⟩
def qAU(n)(h:∀fr w,Ap fr hs w->∃hs',Ap fr hs' w/\body (E6 ms vs sl0) hs' (qPN ms (λx:UnA=>x.1) (λx=>x.2.1) (unJ ms sl0 body K) (λx=>x.2.2) (vs,hs',n) K)):∃(q:Type)(u:q->F SV)(W:q->Hs)(J:q->Prop)(B:q->Z),(∀fr w,Ap fr hs w->∃x,qCA (u x)=qCA vs/\J x/\Ap fr (W x) w)/\∀x,J x->body (E6 ms (u x) sl0) (W x) (qPN ms u W J B x K):=
 ⟨UnA,λx=>x.1,λx=>x.2.1,unJ ms sl0 body K,λx=>x.2.2,λfr w C=>by
  obtain⟨hs',D,E⟩:=h fr w C
  exact⟨(vs,hs',n),rfl,quW E,D⟩,λx A=>by rw[qBU]at A;exact A⟩
def qtW(h:∀fr w,Ap fr hs' w->∃q,Ap fr q w/\body (E6 ms vs' sl0) q (qPN ms (λx:UnA=>x.1) (λx=>x.2.1) (unJ ms sl0 body K) (λx=>x.2.2) (vs',q,n) K)):∀fr w,Ap fr hs' w->∃y:UnA,qCA y.1=qCA vs'/\unJ ms sl0 body K y/\y.2.2<n+1/\Ap fr y.2.1 w:=
 λfr w u=>by
  obtain⟨q,A,B⟩:=h fr w u;exact⟨(vs',q,n),rfl,quW B,zBI n,A⟩
end
def Ap.perm{fr:Fr}{g}{rs rs'}{nx lo}{w}(h:Ap fr ⟨g,rs,nx,lo⟩ w)(u:rs.Perm rs'):Ap fr ⟨g,rs',nx,lo⟩ w:=by
 have q:List.Perm (Hs.bks ⟨g,rs,nx,lo⟩) (Hs.bks ⟨g,rs',nx,lo⟩):=u.flatMap_right _;exact⟨h.AJ,h.frm,λr A=>h.res r (u.mem_iff.2 A),q.nodup_iff.1 h.nod,λb hm=>h.fre b (q.mem_iff.2 hm),h.fz,h.own,h.low.1,λb hm=>h.low.2 b (q.mem_iff.2 hm)⟩
def cT{b}{A B:Prop}(h:b=I)(k:A):(b=I->A)/\(b=zb->B):=⟨λ_=>k,λx=>absurd (h.symm.trans x) sb⟩
def cF{b}{A B:Prop}(h:b=zb)(k:B):(b=I->A)/\(b=zb->B):=⟨λx=>absurd (h.symm.trans x) sb,λ_=>k⟩
def E0.get{n:Z}{p:zy zAI->Z->Prop}(q:0<n)(h:∀a c,p (O a) c):∀oa cap,E0 oa n->p oa cap:=λ_ cap k=>by
 obtain⟨a,rfl⟩:=k q;exact h a cap
def quY{cs:F zg}{j size:Z}{K:F zg->Prop}(A:((cs.drop j).take size).length=size)(h:K ((cs.drop j).take size)):∃xs:F zg,(xs.length=size/\∀(i:Z)u,xs[i]?=O u->cs[j+i]?=O u)/\K xs:=
 ⟨_,⟨A,λi u q=>by
  rw[zBd]at q;split at q
  .rw[zCl]at q;exact q
  .cases q⟩,h⟩
def qXE{l:F SV}{id:Z}{oa:zy zAI}{n cap ety sz:Z}{cs:F zg}{j size:Z}{rs:F Res}{K:F Res->Prop}{vs q:F zg}(u:qOH l=O vs)(e:cs.take j++vs++cs.drop (j+size)=q)(A:j+size<=cs.length/\0<size)(h:E7 id (O (.row id oa n cap ety sz q)) rs K):(j+size<=cs.length/\0<size)/\qyC l λvs=>E7 id (O (.row id oa n cap ety sz (cs.take j++vs++cs.drop (j+size)))) rs K:=
 ⟨A,by unfold qyC;rw[u];subst e;exact h⟩
def zr{P Q:Prop}(k:Q)(h:Q->P:=by
 intro h
 repeat((conv=>whnf);first|(refine E0.get (by decide) ?_;intro(zz:Addr) (zz:Nat))|apply qza|apply qzb|apply qzc|apply qzd|apply qze|intro(zz:Nat)|intro(zz:Option Addr) (zz:Nat)|refine E0.no ?_)
 try conv=>whnf
 change Blk _
 repeat revert zz
 exact h):P:=h k
end Go.Proofs.YtlmhpamhhgogaaaGreat.Sx
