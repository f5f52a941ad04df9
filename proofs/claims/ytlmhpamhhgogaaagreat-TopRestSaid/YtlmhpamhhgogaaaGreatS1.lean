import Derived.Sort.LoopGhostIn
import Derived.DefersIn
import Derived.Conc.Token
import Derived.Conc.TokenAlone
import Derived.Conc.TokenWalk
import Derived.Conc.LoneSelect
import Derived.Conc.LeavingOf
import Derived.Test.YtlmhpamhhgogaaaGreatS0
set_option linter.all false
set_option maxHeartbeats 16000000
set_option maxRecDepth 100000
open Array renaming replicate→zAU
open Bool renaming false→zb,true→I
open Go renaming Value→zg,World→zp,Program→zt,execOp→zy,Goroutine→zH,Frame→zAt,TypeId→zAy,stepG→zAE,Addr→zAH,Act→zDN,Oper→zDO,commResult→zAV,undef→zAX,FuncId→zBa,Trace→zDQ,findLabel→zDS,Code→zDT
open Go.Act renaming put→zBg
open Go.Conc renaming rcase→zAR,served→zA1,closeEvents→zA2,heap_setChan_ne→zDP,crowd→zA8,Sits→zDU
open Go.Deferred renaming ofValue→zBH
open Go.Frame renaming atR→zAQ,enter→zAW,finish_atR→zBe
open Go.GStep renaming after→zBF
open Go.Instr renaming loadAt→zBv,endRound→zDV
open Go.MemOp renaming ofEvents→zAT
open Go.Region renaming wanted→zAs,ready→zAC
open Go.Result renaming andThen→zAo
open Go.Sem renaming run_bind→zAa,runT_eq→zBs
open Go.stepG renaming exec→zBl
open List renaming replicate→zA5,range→zBf
open Nat renaming beq→zAP
open Option renaming some→O,none→zc
open _root_ renaming List→F,Nat→Z,Option→zs,Bool→zM,Array→zR,False→zV
namespace Go.Proofs.YtlmhpamhhgogaaaGreat.Sx
open Go.RowKit
def isW(P:zt)(o:zDO):zM:=match o.op with
 |.store ..=>I
 |.insert ..=>I
 |.mapUpdate ..=>I
 |.mapEntry ..=>I
 |.entryStore ..=>I
 |.call c=>match c.callee with
  |.builtin .append=>I
  |.builtin .copy=>I
  |.value (.func f)=>match P.funcs[f]? with
   |some fn=>qHO fn
   |none=>zb
  |_=>zb
 |_=>zb
def WW(P:zt)(ops:zR zDO)(i:Z):zM:=match ops[i]? with
 |some o=>isW P o
 |none=>zb
def CR(ops:zR zDO):Z->Z->Z->zM
 |0,_,_=>zb
 |n+1,i,j=>match ops[j]? with
  |none=>zb
  |some o=>o.after.any λe=>Region.binds .any e&&(e.on==i||CR ops n i e.on)
def qCK{ops}{n i j}(h:CR ops (n+1) i j=I):∃o,ops[j]?=O o/\∃e∈o.after,Region.binds .any e=I/\(e.on=i\/CR ops n i e.on=I):=by
 simp only[CR]at h;split at h
 .cases h
 .rename_i o u;obtain⟨e,w,q⟩:=zDr.1 h;simp only[zj,zCX,beq_iff_eq]at q;exact⟨o,u,e,w,q⟩
def frc{h:Type}(n:Z)(k:Z->h):h:=match n with|0=>k 0|m+1=>k (m+1)
def qKc{h:Type}(n:Z)(k:Z->h):frc n k=k n:=by cases n<;>rfl
def lkM:F (Z×Z)->Z->Z
 |[],_=>0
 |(k,v)::r,i=>match zAP k i with
  |true=>v
  |false=>lkM r i
def Oa(h:F (Z×Z))(o:zDO):Z:=o.after.toList.foldl (λs e=>if Region.binds .any e then s|||2^e.on|||lkM h e.on else s) 0
def Lh:F zDO->Z->F (Z×Z)->F (Z×Z)
 |[],_,h=>h
 |o::r,j,h=>frc (Oa h o) λv=>Lh r (j+1) ((j,v)::h)
def Ix(ops:zR zDO)(i j:Z):zM:=Nat.testBit (lkM (Lh ops.toList 0 []) j) i
def qsU{ops}{i}:∀(n j:Z),CR ops n i j=I->CR ops (n+1) i j=I
 |0,j,q=>by simp[CR]at q
 |n+1,j,q=>by
  obtain⟨o,u,e,w,A,h⟩:=qCK q
  show(match ops[j]? with
   |none=>zb
   |some o=>o.after.any λe=>Region.binds .any e&&(e.on==i||CR ops (n+1) i e.on))=I
  rw[u];refine zDr.2 ⟨e,w,?_⟩;rw[A];rcases h with h|h
  .simp[h]
  .simp[qsU n _ h]
def qtU{ops}{i j n m}(h:CR ops n i j=I)(k:n<=m):CR ops m i j=I:=by
 induction k with
 |refl=>exact h
 |step _ q=>exact qsU _ _ q
def qiN{u}{i}:∀(l:F Edge)(s:Z),Nat.testBit (l.foldl (λs e=>if Region.binds .any e then s|||2^e.on|||lkM u e.on else s) s) i=I->Nat.testBit s i=I\/∃e∈l,Region.binds .any e=I/\(e.on=i\/Nat.testBit (lkM u e.on) i=I)
 |[],s,h=>.inl h
 |e::r,s,h=>by
  rw[zBU]at h;rcases qiN r _ h with h|⟨w,A,q,B⟩
  .split at h
   .rename_i q;rw[Nat.testBit_or,Nat.testBit_or,zCX,zCX]at h;rcases h with(h|h)|h
    .exact .inl h
    .rw[Nat.testBit_two_pow]at h;exact .inr ⟨e,sd,q,.inl (by simpa using h)⟩
    .exact .inr ⟨e,sd,q,.inr h⟩
   .exact .inl h
  .exact .inr ⟨w,by simp[A],q,B⟩
def qCO{ops}:∀(l:F zDO)(j:Z)(w:F (Z×Z)),ops.toList.drop j=l->(∀k i,Nat.testBit (lkM w k) i=I->k<j/\CR ops (k+1) i k=I)->∀k i,Nat.testBit (lkM (Lh l j w) k) i=I->k<ops.size/\CR ops (k+1) i k=I
 |[],j,w,A,B,k,i,C=>by
  have ac:ops.size<=j:=by have:=zK List.length A;simp at this;omega
  obtain⟨R,h⟩:=B k i C;refine⟨?_,h⟩;rcases zAL k ops.size with L|L
  .exact L
  .simp[CR,zBt L]at h
 |o::r,j,w,A,B,k,i,C=>by
  rw[Lh,qKc]at C
  have T:ops.toList[j]?=O o:=by
   have:(ops.toList.drop j)[0]?=O o:=by rw[A];rfl
   simpa[zCC]using this
  have U:ops[j]?=O o:=by simpa using T
  have W:ops.toList.drop (j+1)=r:=by
   have:(ops.toList.drop j).drop 1=r:=by rw[A];rfl
   simpa[zCL,zDH]using this
  refine qCO r (j+1) _ W (λk i q=>?_) k i C;simp only[lkM]at q;cases M:zAP j k with
  |false=>
   rw[M]at q;obtain⟨R,h⟩:=B k i q;exact⟨sa,h⟩
  |true=>
   rw[M]at q;obtain rfl:=zP M;refine⟨zBI _,?_⟩;rcases qiN _ _ q with Y|⟨e,aa,ab,u⟩
   .simp at Y
   .show(match ops[j]? with
     |none=>zb
     |some o=>o.after.any λe=>Region.binds .any e&&(e.on==i||CR ops j i e.on))=I
    rw[U];refine zDr.2 ⟨e,by simpa using aa,?_⟩;rw[ab];rcases u with u|u
    .simp[u]
    .obtain⟨R,h⟩:=B e.on i u;simp[qtU h (show e.on+1<=j by omega)]
def qFX{ops}{i j}(h:Ix ops i j=I):CR ops ops.size i j=I:=by
 obtain⟨q,u⟩:=qCO ops.toList 0 [] rfl (λk i w=>by simp[lkM]at w) j i h;exact qtU u q
def q5Z{ops}{i j}(h:CR ops ops.size i j=zb):Ix ops i j=zb:=by
 cases q:Ix ops i j with
 |false=>rfl
 |true=>rw[qFX q]at h;cases h
def DC(ops:zR zDO)(listed:zR zM):Prop:=∀k o,listed.getD k zb=I->ops[k]?=O o->∀e∈o.after,Region.binds .any e=I->listed.getD e.on zb=I
def DC.dep{ops}{listed}(h:DC ops listed){i}(w:listed.getD i zb=zb):∀(n k:Z),listed.getD k zb=I->CR ops n i k=zb
 |0,k,_=>rfl
 |n+1,k,A=>by
  cases B:CR ops (n+1) i k with
  |false=>rfl
  |true=>
   obtain⟨o,C,e,L,M,q⟩:=qCK B;have u:=h k o A C e L M;rcases q with rfl|q
   .rw[w]at u;cases u
   .rw[DC.dep h w n _ u]at q;cases q
def qDP{listed:zR zM}{j:Z}(h:listed.getD j I=zb):listed.getD j zb=zb:=by
 rcases zAL j listed.size with q|q
 .simp[q]at h⊢;exact h
 .simp[zBt q]at h
def DC.ready{ops}{listed}(h:DC ops listed){j}(C:j∈zAC .any ops listed):DC ops (listed.setIfInBounds j I):=by
 obtain⟨R,T,L,M⟩:=mem_ready.1 C;intro k o u q e w A;by_cases B:k=j
 .subst B;rw[L]at q;cases q;exact getD_set_true (M e w A)
 .rw[getD_set_ne zb (zBw B)]at u;exact getD_set_true (h k o u q e w A)
def DC.LA{ops}{listed}(h:DC ops listed){i j}(w:listed.getD i I=zb)(B:j∈zAC .any ops listed)(n):CR ops n i j=zb:=by
 cases n with
 |zero=>rfl
 |succ n=>
  cases C:CR ops (n+1) i j with
  |false=>rfl
  |true=>
   obtain⟨o,A,e,L,M,q⟩:=qCK C;obtain⟨U,W,R,T⟩:=mem_ready.1 B;rw[R]at A;cases A;have u:=T e L M;rcases q with rfl|q
   .rw[qDP w]at u;cases u
   .rw[h.dep (qDP w) n _ u]at q;cases q
def C3(S:zp->Prop):Prop:=∀h q,S h->Below h.heap.size h q->S q
def C3.at{S}(h:C3 S){w}(q:S w)(d):S (w.at d):=h _ _ q ⟨rfl,rfl,rfl,zG _,λ_ _=>rfl⟩
def qIL{N}{w w'}(h:N<=w.heap.size)(hb:Below w.heap.size w w'):BY N w w':=λn q=>hb.block n (zQ q h)
def qkE{P:zt}{o:zDO}{h:SOp}{a:zDN}(u:Er P o=O h)(q:h.reads=I):(zy a.eval o).Calm P:=qCG u λf w e=>by rw[e]at q;simp[SOp.reads]at q
def BR(P:zt)(ops:zR zDO)(S:zp->Prop)(o:zDO)(v:zg)(a:zDN):Prop:=
 (zAs o (yielded ops a.tmps)=I/\(zy a.eval o).Calm P/\∀h,S h->(zy a.eval o).run P h=.ok (.value v) h)\/(zAs o (yielded ops a.tmps)=zb/\v=zAX)
def BR.of_same{P}{ops}{S}{o}{v}{a a'}(h:BR P ops S o v a)(q:zy a'.eval o=zy a.eval o)(u:zAs o (yielded ops a'.tmps)=zAs o (yielded ops a.tmps)):BR P ops S o v a':=by
 unfold BR at*;rw[q,u];exact h
section
variable{P:zt}{V:Env P}{ops:zR zDO}{r:zs Z}
structure I8 where
 i:Z
 o:zDO
 v:zg
 a:zDN
def qaS(ops:zR zDO)(o:zDO)(a a':zDN):Prop:=zy a'.eval o=zy a.eval o/\zAs o (yielded ops a'.tmps)=zAs o (yielded ops a.tmps)
def Eb(V:Env P)(r:zs Z)(ops:zR zDO)(A:Z)(K:zDN->zp->Prop):Z->F I8->(zp->Prop)->zR zM->zDN->zp->Prop
 |0,h,S,listed,a,q=>zAC .any ops listed=[]/\∀d,K a (q.at d)
 |fuel+1,h,S,listed,a,q=>
  (zAC .any ops listed=[]->∀d,K a (q.at d))/\
  ∀i∈zAC .any ops listed,qHC V r ops i (λB u=>
   (WW P ops i=zb/\S u/\Eb V r ops A K fuel h S (listed.setIfInBounds i I) B u)\/
   (WW P ops i=I/\∃w,C3 w/\w u/\(∀p∈h,CR ops A p.i i=zb->BR P ops w p.o p.v p.a)/\Eb V r ops A K fuel h w (listed.setIfInBounds i I) B u)) a q
def qfM{C}{K}:∀(fuel:Z)(q:F I8)(S:zp->Prop)(listed:zR zM)(a:zDN)(w:zp),Eb V r ops C K fuel q S listed a w->qLH V r ops K fuel listed a w
 |0,_,_,_,_,_,u=>u
 |fuel+1,q,S,_,_,_,u=>⟨u.1,λi L=>qFG (λA B h=>by
   rcases h with⟨_,_,h⟩|⟨_,M,_,_,_,h⟩
   .exact qfM fuel q S _ A B h
   .exact qfM fuel q M _ A B h) (u.2 i L)⟩
def qSV{u}{K}{fuel}{A}{S}{listed}{a}{w}(h:Eb V r ops u K fuel A S listed a w)(d):Eb V r ops u K fuel A S listed a (w.at d):=by
 cases fuel with
 |zero=>exact⟨h.1,λq=>h.2 q⟩
 |succ fuel=>exact⟨λB q=>h.1 B q,λi C=>qkV (h.2 i C) d⟩
def qqE{C}{K}{L Φ'}(u:∀p∈L,p∈Φ'){S S'}(M:∀w,S' w->S w):∀(fuel:Z)(listed:zR zM)(a:zDN)(w:zp),Eb V r ops C K fuel Φ' S' listed a w->Eb V r ops C K fuel L S listed a w
 |0,_,_,_,h=>h
 |fuel+1,_,_,_,h=>⟨h.1,λi U=>qFG (λR T q=>by
   rcases q with⟨A,B,q⟩|⟨A,W,Y,B,aa,q⟩
   .exact .inl ⟨A,M _ B,qqE u M fuel _ R T q⟩
   .exact .inr ⟨A,W,Y,B,λp ab=>aa p (u p ab),qqE u (λ_ h=>h) fuel _ R T q⟩) (h.2 i U)⟩
def qdA(o:zDO):Prop:=(∀cs b,o.op≠.select cs b)/\∀c,o.op≠.defer c
def qKD{K}{S}(u:C3 S){i}{o}{v}{a}(A:ops[i]?=O o)(hp:qdA o)(B:BR P ops S o v a){w}(C:S w)(h:∀d,K (a.put o.dst v) (w.at d)):qHC V r ops i K a w:=by
 unfold qHC;simp only[A];rcases B with⟨q,L,M⟩|⟨q,rfl⟩
 .rw[zk q];exact λd=>qoA L hp.2 (M _ (u.at C d)) (.refl _) (h d)
 .rw[q];exact h
def qdK{j}{oi u}{v}(W:ops[j]?=O u)(Y:oi.apart ops u=I)(aa:qdA oi)(R:qdA u){K}{C a}{w}(A:qaS ops oi C a)(h:qHC V r ops j K (a.put oi.dst v) w):qHC V r ops j (λa' w'=>qaS ops oi C a'/\K (a'.put oi.dst v) w') a w:=by
 obtain⟨T,B,U⟩:=Oper.apart_spec Y
 have keep:∀(a:zDN),qaS ops oi C a->∀q,qaS ops oi C (a.put u.dst q):=λa A q=>
  ⟨(execOp_put oi aa.1 a u.dst q U).trans A.1,(wanted_put oi a u.dst q U).trans A.2⟩
 have ab:∀d,qaS ops oi C {a with defers:=d::a.defers}:=λd=>A;unfold qHC at*;simp only[W]at*;rw[wanted_put u a oi.dst v T]at h;split
 .rename_i L;simp only[L,zBp]at h;intro d;have h:=h d;unfold Go.Oper.atX at h⊢;rw[Oper.semAt_eq _ _ _ R.2]at h⊢;rw[execOp_put u R.1 a oi.dst v T]at h;obtain⟨ac,h⟩:=h;refine⟨ac,?_⟩;generalize(zy a.eval u).run P (w.at d)=ad at h⊢;cases ad with
  |ok n w'=>
   cases n<;>simp only[Go.Oper.upX]at h⊢
   case value q=>exact⟨h.1,keep a A q,by rw[<-Act.put_comm a v q B];exact h.2⟩
   case skip=>exact⟨h.1,keep a A _,by rw[<-Act.put_comm a v zAX B];exact h.2⟩
   case defer d=>
    refine⟨h.1,keep _ (ab d) _,?_⟩;rw[<-Act.put_comm _ v zAX B,<-Act.put_defers];exact h.2
   case enter f args=>exact⟨h.1,h.2.val λq ae M=>⟨keep a A q,by rw[<-Act.put_comm a v q B];exact M⟩⟩
   case round l f tmps af ag=>exact⟨h.1,h.2.val λq ae M=>⟨keep a A q,by rw[<-Act.put_comm a v q B];exact M⟩⟩
  |halt x w'=>exact h
 .rename_i L;simp only[L]at h;exact λd=>⟨keep a A _,by rw[<-Act.put_comm a v zAX B];exact h d⟩
def qZI{R}{K}{i}{oi}{v}{ac}{ah Φ'}(T:ops[i]?=O oi)(Y:∀(j:Z)(o:zDO),ops[j]?=O o->qdA o)(ai:WW P ops i=zb)(ad:∀p∈ah,p∈Φ')(az:∀(S':zp->Prop)j,CR ops R i j=zb->(∀p∈Φ',CR ops R p.i j=zb->BR P ops S' p.o p.v p.a)->BR P ops S' oi v ac):∀(fuel:Z)(S:zp->Prop)(listed:zR zM)(a:zDN)(w:zp),C3 S->(∀j C,ops[j]?=O C->j≠i->listed.getD j I=zb->(∀e∈C.after,Region.binds .any e=I->e.on≠i)->oi.apart ops C=I)->DC ops listed->i∈zAC .any ops listed->qaS ops oi ac a->BR P ops S oi v ac->S w->Eb V r ops R K fuel Φ' S (listed.setIfInBounds i I) (a.put oi.dst v) w->Eb V r ops R K (fuel+1) ah S listed a w:=by
 intro fuel
 induction fuel with
 |zero=>
  intro S listed a w L _ _ q M aa U H;refine⟨λu=>(by rw[u]at q;cases q),λj A=>?_⟩;by_cases h:j=i
  .subst h;exact qKD L T (Y _ _ T) (aa.of_same M.1 M.2) U λd=>.inl ⟨ai,L.at U d,qSV (qqE ad (λ_ u=>u) _ _ _ _ H) d⟩
  .have:=ready_mono A h;rw[H.1]at this;cases this
 |succ fuel aj=>
  intro S listed a w L ak ae q M aa U H;refine⟨λu=>(by rw[u]at q;cases q),λj A=>?_⟩;by_cases h:j=i
  .subst h;exact qKD L T (Y _ _ T) (aa.of_same M.1 M.2) U λd=>.inl ⟨ai,L.at U d,qSV (qqE ad (λ_ u=>u) _ _ _ _ H) d⟩
  .have ab:=H.2 j (ready_mono A h);obtain⟨an,C,af,aA⟩:=mem_ready.1 A;have ao:=(mem_ready.1 q).1
   have aB:∀e∈C.after,Region.binds .any e=I->e.on≠i:=λe aC aD aE=>by
    have ab:=aA e aC aD;rw[aE,qDP ao]at ab;cases ab
   have aF:=qdK af (ak j C af h an aB) (Y _ _ T) (Y _ _ af) M ab
   have ap:∀k ok,ops[k]?=O ok->k≠i->(listed.setIfInBounds j I).getD k I=zb->
     (∀e∈ok.after,Region.binds .any e=I->e.on≠i)->oi.apart ops ok=I:=λk ok aG aH aq aI=>by
    refine ak k ok aG aH ?_ aI;by_cases ar:j=k
    .subst ar;exact an
    .rw[getD_set_ne I ar]at aq;exact aq
   refine qFG (λau av B=>?_) aF;obtain⟨aw,B⟩:=B;rcases B with⟨ag,W,B⟩|⟨ag,S',ax,W,ay,B⟩
   .refine .inl ⟨ag,W,aj S (listed.setIfInBounds j I) au av L ap (ae.ready A) (ready_mono q (zBw h)) aw aa W ?_⟩;rw[Array.setIfInBounds_comm _ _ h];exact B
   .refine .inr ⟨ag,S',ax,W,λp aJ=>ay p (ad p aJ),aj S' (listed.setIfInBounds j I) au av ax ap (ae.ready A) (ready_mono q (zBw h)) aw (az S' j (ae.LA ao A R) ay) W ?_⟩;rw[Array.setIfInBounds_comm _ _ h];exact B
end
def qkJ(ops:zR zDO):zM:=ops.all λo=>match o.op with
 |.select ..=>zb
 |.defer _=>zb
 |_=>I
def qsC{ops}(h:qkJ ops=I)(j:Z)(o:zDO)(u:ops[j]?=O o):qdA o:=by
 have:=zDa.1 h o (Array.mem_of_getElem? u);refine⟨λcs b q=>?_,λc q=>?_⟩<;>simp[q]at this
def noY:qMB:=λ_ _ _ _=>zV
def q9M(o:SOp)(H HW:qOA):qOA:=match o with
 |.JO ..=>HW
 |_=>H
def qgT{P:zt}{V:Env P}{fr:Fr}{H HW:qOA}(h:CA V fr H)(q:CA V fr HW)(o:SOp):CA V fr (q9M o H HW):=by
 cases o<;>first|exact h|exact q
def q0U{P:zt}{V:Env P}{fr:Fr}(ab:fr.has V){H HW:qOA}(ay:IB V H){o:zDO}{aj:SOp}(q:Er P o=O aj)(ak:aj.reads=zb)(hW:isW P o=zb){sl:Sl}{a:zDN}(Y:q1C sl a){hs:Hs}{K:SV->Hs->Prop}(h:chS P (q9M aj H HW) noY aj sl hs K){w:zp}(L:Aq fr hs w){next:zDN->zp->Prop}{r:zs Z}(ac:∀s U w',K s U->Below w.heap.size w w'->Aq fr U w'->next (a.put o.dst (Ae s)) w'):o.atX V r a w next:=by
 obtain⟨ad,_⟩:=q1D q;have ae:=λaz=>qCG (a:=a) q az
 have ar:∀(f:zBa)(args:F SV)(au:zR zg),au=(qDA args).toArray->(zy a.eval o).Calm P->(zy a.eval o).run P w=.ok (.enter f au) w->H noY f args hs K->o.atX V r a w next:=λf args au an aA M B=>by
  subst an;refine qsK aA ad M ((ay noY f args hs K B fr w ab L).mono ?_);rintro e aM ⟨v,U,rfl,R,C,A⟩;exact⟨_,rfl,ac _ _ _ A R C⟩
 unfold Er at q;split at q
 iterate 16 exact rdz q ak
 .exfalso;rename_i u;simp[isW,u]at hW
 .rename_i t u;split at q
  .rename_i z af;cases q;obtain⟨w',s,U,M,R,C,A⟩:=qXK (show qbL t (z.map SV.v) hs K from h) af L;exact qoA (ae sd) ad (by simp only[zy,u];exact qnC M) (L.keep C ab) (ac _ _ _ A R C)
  .cases q
 .rename_i t x u;cases q;simp only[chS]at h;obtain⟨ax,ag,W⟩:=Opd.AB (k:=λx=>KH t x hs K) h Y;obtain⟨w',s,U,M,R,C,A⟩:=qAO (P:=P) ag L;exact qoA (ae sd) ad (by simp only[zy,u,W];exact qnC M) (L.keep C ab) (ac _ _ _ A R C)
 .rename_i t len parts u;split at q
  .rename_i e av;split at q
   .rename_i size z aB af;split at q
    .rename_i B;obtain⟨aC,aD,aE⟩:=B;cases q;simp only[chS]at h;obtain⟨cells,A,ao⟩:=qVG Y (λi=>O (i*size,size)) parts.toList _ _ sd h
     obtain⟨w',s,U,M,R,C,A⟩:=q9N (P:=P) (t:=t) (parts:=parts.map λ(i,x)=>(i,a.eval x)) A av aB af aE aD aC (by
      simp only[zDC];rw[<-ao];congr 2
      rw[show(zA5 len (List.map SV.v z)).flatten=((zA5 len z).flatten).map SV.v by simp[List.map_flatten],qCH]) L
     exact qoA (ae sd) ad (by simp only[zy,u];exact qnC M) (L.keep C ab) (ac _ _ _ A R C)
    .cases q
   .cases q
  .cases q
 .rename_i t l c u;split at q
  .rename_i e av;split at q
   .rename_i i z aF af;split at q
    .rename_i B;cases q;simp only[chS]at h;obtain⟨ax,ag,W⟩:=Opd.AB (k:=λx=>Opd.k hs.rs sl (qIA c) λy=>Ju e i.size i.bytes z x y hs K) h Y;obtain⟨aN,T,aw⟩:=Opd.AB (k:=λy=>Ju e i.size i.bytes z ax y hs K) ag Y;obtain⟨w',s,U,M,R,C,A⟩:=qNN T av aF af B.2 L;exact qoA (ae sd) ad (by simp only[zy,u,W,aw];exact qnC M) (L.keep C ab) (ac _ _ _ A R C)
    .cases q
   .cases q
  .cases q
 .rename_i t x u;split at q
  .rename_i aG aO aH;split at q
   .rename_i aI;cases q;obtain⟨w',s,U,M,R,C,A⟩:=qON (a:=a) (show K6 aG hs K from h) aH aI L;exact qoA (ae sd) ad (by simp only[zy,u];exact qnC M) (L.keep C ab) (ac _ _ _ A R C)
   .cases q
  .cases q
 .exfalso;rename_i u;simp[isW,u]at hW
 .exfalso;rename_i u;simp[isW,u]at hW
 .exfalso;rename_i u;simp[isW,u]at hW
 .exfalso;rename_i u;simp[isW,u]at hW
 .exact rdz q ak
 .rename_i c u;split at q
  .exact rdz q ak
  .exact rdz q ak
  .exfalso;rename_i B;simp[isW,u,B]at hW
  .exfalso;rename_i B;simp[isW,u,B]at hW
  .rename_i f B;split at q
   .rename_i fn ao;split at q
    .rename_i ap;have aJ:qHO fn=zb:=by simp only[isW,u,B,ao]at hW;exact hW
     rw[aJ]at q;cases q;simp only[chS,q9M]at h;obtain⟨args,A,aK⟩:=Opd.EN Y c.args.toList h;have aa:GB P f:=⟨fn,ao,by simp at ap;simpa using ap.1,by simp at ap;simpa using ap.2⟩;refine ar f args (c.args.map a.eval) (by apply zBq;simp[aK]) (ae sd) ?_ A;have:=qhB aa (c.args.map a.eval) w;simp only[zy,u,resolve,B];simp[zBH,Act.eval,invoke]at this⊢;exact this
    .cases q
   .cases q
  .rename_i g _ B;cases q;simp only[chS,q9M]at h;obtain⟨f,ag,W⟩:=Opd.AB (k:=λf=>Opd.ks hs.rs sl (c.args.toList.map qIA) λargs=>q7N P H noY f args hs K) h Y;obtain⟨args,T,aw⟩:=Opd.EN Y c.args.toList ag;have an:c.args.map a.eval=(qDA args).toArray:=by apply zBq;simp[aw]
   unfold q7N at T;split at T
   .rename_i k first aq
    obtain⟨aa,A⟩:=T;refine ar k _ ((qDA first).toArray++(qDA args).toArray++(qDA aq).toArray) (by rw[qDE];simp) (qKJ u B (by rw[W];rfl) aa) ?_ A;have:=qhB aa ((qDA first).toArray++(qDA args).toArray++(qDA aq).toArray) w;simp only[zy,u,resolve,B,W,an];simp[zBH,Ae,invoke]at this⊢;exact this
   .rename_i k first aq
    obtain⟨aa,A⟩:=T
    obtain⟨ah,ai,⟨rfl,rfl⟩,aL⟩:∃ah ai,(qDA ah=first/\qDA ai=aq)/\H noY k (ah++args++ai) hs K:=by
     split at A
     .exact⟨[],[],⟨rfl,rfl⟩,by simpa using A⟩
     .exact A
    refine ar k _ ((qDA ah).toArray++(qDA args).toArray++(qDA ai).toArray) (by rw[qDE];simp) (qKJ u B (by rw[W];rfl) aa) ?_ aL;have:=qhB aa ((qDA ah).toArray++(qDA args).toArray++(qDA ai).toArray) w;simp only[zy,u,resolve,B,W,an];simp[zBH,Ae,invoke]at this⊢;exact this
   .exfalso;split at T
    .exact T.2
    .exact T
   .exact T.elim
  .cases q
 .cases q
def qrF{P}(V:Env P)(fr:Fr):Ga V fr noY:=λ_ _ _ _ _ _ h=>h.elim
def Knows(hs:Hs)(w:zp):Prop:=∃fr,Aq fr hs w
def Knows.Fi(hs):C3 (Knows hs):=λ_ _⟨fr,h⟩q=>⟨fr,h.agree q⟩
inductive OI where
 |nil
 |first(i:Z) (t:OI)
 |exec (i:Z) (t:OI)
 |Fs (i:Z) (t:OI)
 |alt (a b:OI)
structure DOp where
 i:Z
 keep:zM
 chk:F Z
 o:CX
 deriving Inhabited
inductive OT where
 |nil
 |op (d:DOp) (t:OT)
 |Fs (d:DOp) (t:OT)
 |alt (a b:OT)
 deriving Inhabited
def Jv(n:Z):F Z->zM
 |[]=>zb
 |m::r=>match zAP m n with
  |true=>I
  |false=>Jv n r
def Fx{n}:∀{l:F Z},Jv n l=I<->n∈l
 |[]=>by simp[Jv]
 |m::r=>by
  simp only[Jv];cases h:zAP m n with
  |true=>simp[zP h]
  |false=>
   simp only[zJ];rw[Fx];have:=zCf h;constructor
   .exact λh=>.inr h
   .rintro(h|h);exact absurd h.symm this;exact h
abbrev Pd:=F (Z×SOp×Sl×SV)
def Gq(h:F Z)(hs:Hs)(k:Prop):Pd->Prop
 |[]=>k
 |(i,o,sl,x)::r=>match Jv i h with
  |true=>rdS o sl hs (λy=>Ae y=Ae x)/\Gq h hs k r
  |false=>Gq h hs k r
def qrD{u}{hs}{k:Prop}:∀{pd:Pd},Gq u hs k pd->k/\∀i o sl x,(i,o,sl,x)∈pd->i∈u->rdS o sl hs (λy=>Ae y=Ae x)
 |[],h=>⟨h,λ_ _ _ _ h=>by cases h⟩
 |(j,o,sl,x)::r,h=>by
  simp only[Gq]at h;split at h
  .obtain⟨L,M⟩:=h;obtain⟨w,A⟩:=qrD M;refine⟨w,λR T U W hm q=>?_⟩;rcases zJ.1 hm with B|hm
   .cases B;exact L
   .exact A _ _ _ _ hm q
  .rename_i C;obtain⟨w,A⟩:=qrD h;refine⟨w,λR T U W hm q=>?_⟩;rcases zJ.1 hm with B|hm
   .cases B;have:Jv j u=I:=Fx.2 q;rw[this]at C;cases C
   .exact A _ _ _ _ hm q
def L1(d:DOp)(sl:Sl)(x:SV)(pd:Pd):Pd:=match d.keep with
 |true=>(d.i,d.o.op,sl,x)::pd
 |false=>pd
abbrev RT:=Pd->Sl->Hs->(Sl->Hs->Prop)->Prop
def rtN:RT:=λ_ sl hs K=>K sl hs
def rtO(P:zt)(H HW:qOA)(d:DOp)(ih:RT):RT:=λh sl hs K=>qvF sl d.o.g
  (λsl=>opS P (q9M d.o.op H HW) noY d.o.op sl hs λx u=>Gq d.chk u (qdB d.o.dst sl x λq=>ih (L1 d sl x h) q u K) h)
  (λsl=>Gq d.chk hs (qdB d.o.dst sl (.v zAX) λq=>ih h q hs K) h)
def rtB(P:zt)(H HW:qOA)(lo:Z)(d:DOp)(ih:RT):RT:=λq sl hs K=>match hs with
 |⟨u,w,A,h⟩=>h=lo/\rtO P H HW d ih q sl ⟨u,w,A,h⟩ K
def qAW{P}{H HW}{lo}{d}{ih:RT}{pd}{sl}{hs}{K}(h:rtB P H HW lo d ih pd sl hs K):hs.lo=lo/\rtO P H HW d ih pd sl hs K:=by
 cases hs;exact h
def rtA(a b:RT):RT:=λh sl hs K=>a h sl hs K/\b h sl hs K
def C0(P:zt)(H HW:qOA)(lo:Z)(t:OT):RT:=OT.rec (motive:=λ_=>RT) rtN (λd _ h=>rtO P H HW d h) (λd _ h=>rtB P H HW lo d h) (λ_ _ a b=>rtA a b) t
def q7B:OT->F Z
 |.nil=>[]
 |.op d t=>(match d.o.dst with
  |some n=>[n]
  |none=>[])++q7B t
 |.Fs d t=>(match d.o.dst with
  |some n=>[n]
  |none=>[])++q7B t
 |.alt a b=>q7B a++q7B b
def Fh(P:zt)(nt:Z)(ops:zR zDO):F Z->OI->zs OT
 |_,.nil=>O .nil
 |done,.first i t=>match ops[i]? with
  |none=>zc
  |some o=>match q0D P nt ops o with
   |none=>zc
   |some h=>if h.op.reads then match Fh P nt ops (if h.op.pure then done else i::done) t with
     |none=>zc
     |some r=>O (.op ⟨i,!h.op.pure,[],h⟩ r)
    else zc
 |done,.exec i t=>match ops[i]? with
  |none=>zc
  |some o=>match q0D P nt ops o with
   |none=>zc
   |some h=>match Fh P nt ops done t with
     |none=>zc
     |some r=>O (.op ⟨i,zb,if WW P ops i then done.filter (λj=>!Ix ops j i)else[],h⟩ r)
 |done,.Fs i t=>match ops[i]? with
  |none=>zc
  |some o=>match q0D P nt ops o with
   |none=>zc
   |some h=>match Fh P nt ops done t with
     |none=>zc
     |some r=>O (.Fs ⟨i,zb,[],h⟩ r)
 |done,.alt a b=>match Fh P nt ops done a with
  |none=>zc
  |some q=>match Fh P nt ops done b with
   |none=>zc
   |some u=>O (.alt q u)
def q4J:OI->F Z
 |.exec i _=>[i]
 |.alt a b=>q4J a++q4J b
 |_=>[]
def KB(ops:zR zDO)(i:Z):zM:=match ops[i]? with
 |some o=>match o.op with
  |.alloc _=>match o.guard with
   |none=>match o.dst with
    |some d=>(zBf ops.size).all λj=>j==i||(match ops[j]? with
     |some h=>h.dst !=O d
     |none=>I)
    |none=>zb
   |some _=>zb
  |_=>zb
 |none=>zb
def quF{ops}{i}(h:KB ops i=I):∃o ty d,ops[i]?=O o/\o.op=.alloc ty/\o.guard=zc/\o.dst=O d/\∀j o',j≠i->ops[j]?=O o'->o'.dst≠O d:=by
 unfold KB at h;split at h
 .rename_i o u;split at h
  .rename_i ty w;split at h
   .rename_i A;split at h
    .rename_i d B;refine⟨o,ty,d,u,w,A,B,λj o' C q L=>?_⟩;have:=(zAh.1 h) j (zB4.2 (zAg.1 q).1);simp[C,q,L]at this
    .cases h
   .cases h
  .cases h
 .cases h
def star(al:F Z)(x:Z)(listed:zR zM):zR zM:=al.foldl (λl k=>if k==x then l else l.setIfInBounds k I) listed
def q0V(al)(x):∀(listed:zR zM)(k:Z),(star al x listed)[k]?=if k∈al/\k≠x then(listed[k]?).map (λ_=>I)else listed[k]?:=by
 induction al with
 |nil=>intro listed k;simp[star]
 |cons y r u=>
  intro listed k;show(star r x (if y==x then listed else listed.setIfInBounds y I))[k]?=_;rw[u];by_cases q:y=x
  .subst q;simp only[beq_self_eq_true,zBp,zJ];by_cases h:k=y
   .subst h;simp
   .simp[h]
  .simp only[beq_iff_eq,q,zCd,zJ,zBr];by_cases h:y=k
   .subst h;by_cases hs:y<listed.size
    .simp[q,hs]
    .simp[q,hs]
   .have:¬k=y:=λe=>h e.symm;simp[h,this]
def Cu(P:zt)(ops:zR zDO)(al:F Z):zM->OI->zR zM->zM
 |false,.nil,listed=>(zAC .any ops listed).isEmpty&&al.all (λk=>listed.getD k zb)
 |false,.first i t,listed=>(zAC .any ops listed).contains i&&Region.free .any ops listed i&&!WW P ops i&&!al.contains i&&Cu P ops al zb t (listed.setIfInBounds i I)
 |false,.exec i t,listed=>(zAC .any ops (star al ops.size listed)==[i])&&(zAC .any ops listed).contains i&&!al.contains i&&Cu P ops al zb t (listed.setIfInBounds i I)
 |false,.Fs i t,listed=>(zAC .any ops (star al i listed)==[i])&&(zAC .any ops listed).contains i&&al.contains i&&Cu P ops al zb t (listed.setIfInBounds i I)
 |false,.alt a b,listed=>(zAC .any ops (star al ops.size listed)).all (λi=>(q4J a++q4J b).contains i)&&Cu P ops al I a listed&&Cu P ops al I b listed
 |true,.exec i t,listed=>(zAC .any ops listed).contains i&&!al.contains i&&Cu P ops al zb t (listed.setIfInBounds i I)
 |true,.alt a b,listed=>Cu P ops al I a listed&&Cu P ops al I b listed
 |true,_,_=>zb
def unl(listed:zR zM):Z:=listed.toList.count zb
def qMO{listed}{j n}(h:unl listed<=n+1)(q:listed.getD j I=zb):unl (listed.setIfInBounds j I)<=n:=by
 have u:j<listed.size:=by
  rcases zAL j listed.size with u|A
  .exact u
  .rw[zAj,zBt A]at q;cases q
 have w:listed.toList[j]=zb:=by
  rw[zAj,zAO u]at q;simpa using q
 unfold unl at*;rw[Array.toList_setIfInBounds,List.count_set (by simpa using u)];rw[w];simp only[beq_self_eq_true,zBp];rw[zh sb];have:=List.count_pos_iff.2 (show zb∈listed.toList from w▸zDb _);omega
def qfL{listed}{j}(h:listed.getD j I=zb):0<unl listed:=by
 have q:j<listed.size:=by
  rcases zAL j listed.size with q|u
  .exact q
  .rw[zAj,zBt u]at h;cases h
 have w:listed[j]=zb:=by
  rw[zAj,zAO q]at h;simpa using h
 unfold unl;exact List.count_pos_iff.2 (by rw[<-w];simp)
def Kept(P:zt)(ops:zR zDO)(done:F Z)(pd:Pd)(h:F I8):Prop:=∀p∈h,
 (p.i∈done/\zAs p.o (yielded ops p.a.tmps)=I/\∃op sl x,(p.i,op,sl,x)∈pd/\Er P p.o=O op/\op.reads=I/\q1C sl p.a/\p.v=Ae x)\/
 (zAs p.o (yielded ops p.a.tmps)=zb/\p.v=zAX)
def Kept.Kh{P}{ops}{done}{pd}{w}(h:Kept P ops done pd w){j}{hs}(hc:∀i o sl x,(i,o,sl,x)∈pd->i∈done.filter (λk=>!Ix ops k j)->rdS o sl hs (λy=>Ae y=Ae x)):∀p∈w,CR ops ops.size p.i j=zb->BR P ops (Knows hs) p.o p.v p.a:=λp C L=>by
 rcases h p C with⟨M,q,op,sl,x,hm,A,B,R,u⟩|⟨q,u⟩
 .obtain⟨s,T,U⟩:=q9I A B R (hc _ _ _ _ hm (zAG.2 ⟨M,by simp[q5Z L]⟩));refine .inl ⟨q,qkE A B,λW⟨fr,Y⟩=>?_⟩;rw[u,<-T];exact U fr W Y
 .exact .inr ⟨q,u⟩
structure HA where
 i:Z
 d:Z
 b:Z
 ty:zAy
 z:F zg
def NoM(L:F Z)(sl:Sl):Prop:=∀d∈L,AS sl d=zc
def NoM.cons{L}{sl}(h:NoM L sl){d}(hd:d∉L)(x):NoM L ((d,x)::sl):=λn q=>by
 simp only[AS];cases u:zAP d n with
 |true=>obtain rfl:=zP u;exact absurd q hd
 |false=>exact h n q
def NoM.not{L}{sl}(h:NoM L sl){d}{x}(hd:AS sl d=O x):d∉L:=λhm=>by rw[h d hm]at hd;cases hd
def qKL{L}{sl}(q:NoM L sl){g}{A B}(h:qvF sl g A B):qvF sl g (λs=>NoM L s/\A s) (λs=>NoM L s/\B s):=by
 cases g with
 |none=>exact⟨q,h⟩
 |some g=>
  obtain⟨d,u⟩:=g;simp only[qvF]at h⊢;split at h
  .cases u<;>exact⟨q,h⟩
  .cases u<;>exact⟨q,h⟩
  .rename_i c C;cases u<;>exact⟨λw=>⟨q.cons (q.not C) _,h.1 w⟩,λw=>⟨q.cons (q.not C) _,h.2 w⟩⟩
  .exact⟨q,h⟩
  .exact h.elim
def qwG{L}{sl}(q:NoM L sl){dst}(hd:∀d,dst=O d->d∉L){x}{k}(h:qdB dst sl x k):qdB dst sl x (λs=>NoM L s/\k s):=by
 cases dst with
 |none=>exact⟨q,h⟩
 |some d=>exact⟨q.cons (hd d rfl) _,h⟩
def DZ(ops:zR zDO)(al:F Z):F Z:=al.filterMap λk=>(ops[k]?).bind (·.dst)
def E0(al:F Z)(listed:zR zM):F Z:=al.filter λk=>!listed.getD k I
def qDJ{al}{listed}{i}:∀k,k∈E0 al (listed.setIfInBounds i I)->k∈E0 al listed/\k≠i:=λk u=>by
 obtain⟨w,h⟩:=zAG.1 u;by_cases q:i=k
 .subst q;simp only[zAj,zBr]at h;exfalso;by_cases hs:i<listed.size
  .simp[hs]at h
  .simp[hs]at h
 .refine⟨zAG.2 ⟨w,?_⟩,λe=>q e.symm⟩;rwa [getD_set_ne I q]at h
def NoM.sub{L q}{sl}(h:NoM L sl)(k:∀d∈q,d∈L):NoM q sl:=λd u=>h d (k d u)
def qPM{ops}{l q}(h:∀k∈q,k∈l):∀d∈DZ ops q,d∈DZ ops l:=λd u=>by
 obtain⟨k,w,e⟩:=zBX.1 u;exact zBX.2 ⟨k,h k w,e⟩
def JJ(P:zt)(nt:Z)(D:Pin)(ops:zR zDO)(al:F Z):Prop:=∀k∈al,KB ops k=I/\(∃o h,ops[k]?=O o/\q0D P nt ops o=O h)/\∀o d,ops[k]?=O o->o.dst=O d->d∈D.ds
structure EOk(P:zt)(ops:zR zDO)(al:F Z)(fr:Fr)(lo:Z)(a:zDN)(frE:Fr)(listed listedA:zR zM)(E:F HA):Prop where
 mem:∀e∈E,e.i∈E0 al listed/\(∃o,ops[e.i]?=O o/\o.op=.alloc e.ty/\o.dst=O e.d)/\q5H P e.ty=O e.z
 tmp:∀e∈E,a.tmps[e.d]?=O (.pointer (O ⟨e.b,0,zc⟩))
 heap:∀e∈E,frE.w.heap[e.b]?=O (.cells e.z.toArray e.ty (0,0))/\lo<=e.b/\¬fr.pr e.b
 LB:(E.map (·.i)).Nodup
 LC:(E.map (·.b)).Nodup
 ok:fr.ok frE.w
 low:lo<=frE.w.heap.size
 pr:∀n,frE.pr n<->fr.pr n\/n∈E.map (·.b)
 g0:∀n,frE.g0 n<->fr.g0 n/\n∉E.map (·.b)
 lst:∀k:Z,listedA[k]?=if k∈E.map (·.i)then(listed[k]?).map (λ_=>I)else listed[k]?
section
variable{P:zt}{ops:zR zDO}{al:F Z}{fr frE:Fr}{lo:Z}{a:zDN}{listed listedA:zR zM}{E:F HA}
def EOk.le(h:EOk P ops al fr lo a frE listed listedA E):fr.le frE:=
 ⟨λA q=>⟨q.os.trans h.ok.os,q.tape.trans h.ok.tape,q.output.trans h.ok.output,zZ h.ok.size q.size,λn u=>(q.block n ((h.pr n).2 (.inl u))).trans (h.ok.block n u)⟩,
  λn u=>⟨(h.pr n).2 (.inl u),λw=>((h.g0 n).1 w).1⟩⟩
def EOk.getD(h:EOk P ops al fr lo a frE listed listedA E){k}(hk:k∉E.map (·.i))(b):listedA.getD k b=listed.getD k b:=by
 rw[zAj,zAj,h.lst k,zh hk]
def EOk.JN(h:EOk P ops al fr lo a frE listed listedA E){k}{b}(hk:listed.getD k b=I):listedA.getD k b=I:=by
 rw[zAj]at hk⊢;rw[h.lst k];split
 .cases q:listed[k]? with
  |none=>rw[q]at hk;simpa using hk
  |some x=>simp
 .exact hk
def EOk.set(h:EOk P ops al fr lo a frE listed listedA E){i}(R:i∉al){o}(T:ops[i]?=O o)(U:∀k∈al,KB ops k=I)(v):EOk P ops al fr lo (a.put o.dst v) frE (listed.setIfInBounds i I) (listedA.setIfInBounds i I) E:=by
 have w:∀e∈E,e.i≠i:=λe q u=>R (u▸(zAG.1 (h.mem e q).1).1);refine⟨λe q=>⟨?_,(h.mem e q).2⟩,λe q=>?_,h.heap,h.LB,h.LC,h.ok,h.low,h.pr,h.g0,λk=>?_⟩
 .obtain⟨W,Y⟩:=zAG.1 (h.mem e q).1;refine zAG.2 ⟨W,?_⟩;rw[getD_set_ne I (zBw (w e q))];exact Y
 .obtain⟨_,⟨ag,aa,_,ab⟩,_⟩:=h.mem e q;obtain⟨ah,ai,d,C,_,_,L,ac⟩:=quF (U e.i (zAG.1 (h.mem e q).1).1);rw[aa]at C;cases C;rw[ab]at L;cases L;have:=ac i o (zBw (w e q)) T;cases ad:o.dst with
  |none=>simpa[zBg]using h.tmp e q
  |some d=>simp only[zBg];rw[zO (λu=>this (by rw[ad,u]))];exact h.tmp e q
 .rw[zBr,zBr,h.lst k]
  have ae:listedA.size=listed.size:=by
   apply Nat.le_antisymm
   .rcases zAL listed.size listedA.size with A|B
    .have:=h.lst listed.size;rw[zAO A,zBt (zG _)]at this;simp at this
    .exact B
   .rcases zAL listedA.size listed.size with A|B
    .have:=h.lst listedA.size;rw[zBt (zG _),zAO A]at this;split at this<;>simp at this
    .exact B
  rw[ae];by_cases M:i=k
  .subst M;have af:i∉E.map (·.i):=λhm=>by obtain⟨e,q,u⟩:=zAb.1 hm;exact w e q u
   simp[af]
  .simp[M]
def EOk.Df(h:EOk P ops al fr lo a frE listed listedA E){i}(q:i∈zAC .any ops listed)(hE:i∉E.map (·.i)):i∈zAC .any ops listedA:=by
 obtain⟨u,o,w,A⟩:=mem_ready.1 q;exact mem_ready.2 ⟨by rw[h.getD hE];exact u,o,w,λe B C=>h.JN (A e B C)⟩
def qeN{x k}{b}:(star al x listed).getD k b=(if k∈al/\k≠x/\k<listed.size then I else listed.getD k b):=by
 rw[zAj,zAj,q0V];rcases zAL k listed.size with h|h
 .simp only[h,zA6,zAO h];split<;>simp
 .simp only[zDD.2 h,zCT,zCd,zBt h];split<;>simp
def EOk.F4(h:EOk P ops al fr lo a frE listed listedA E){x j}(C:x∉E.map (·.i))(L:j∈zAC .any ops listedA)(A:j∉al):j∈zAC .any ops (star al x listed):=by
 obtain⟨M,o,R,T⟩:=mem_ready.1 L
 have U:j∉E.map (·.i):=λhm=>by
  obtain⟨e,w,q⟩:=zAb.1 hm;exact A (q▸(zAG.1 (h.mem e w).1).1)
 refine mem_ready.2 ⟨?_,o,R,λe w W=>?_⟩
 .rw[qeN,zh (λq=>A q.1),<-h.getD U];exact M
 .have u:=T e w W;rw[qeN];split
  .rfl
  .rename_i q;by_cases hE:e.on∈E.map (·.i)
   .exfalso;obtain⟨Y,aa,ab⟩:=zAb.1 hE;refine q ⟨ab▸(zAG.1 (h.mem Y aa).1).1,λac=>C (ac▸hE),?_⟩;rw[zAj,h.lst,zk hE]at u;cases B:listed[e.on]? with
    |none=>rw[B]at u;simp at u
    |some v=>exact(zAg.1 B).1
   .rw[<-h.getD hE];exact u
def EOk.make(h:EOk P ops al fr lo a frE listed listedA E){hs}{w}(u:Aq frE hs w){j}(ak:j∈zAC .any ops listedA)(an:j∈al){o}{ty}{d}{z}(ao:ops[j]?=O o)(hop:o.op=.alloc ty)(hd:o.dst=O d)(ap:q5H P ty=O z)(aq:∀e∈E,e.d≠d)(ar:d<a.tmps.size):∃ae,EOk P ops al fr lo (a.put o.dst (.pointer (O ⟨w.heap.size,0,zc⟩))) ae listed (listedA.setIfInBounds j I) (⟨j,d,w.heap.size,ty,z⟩::E)/\Aq ae hs (w.alloc (.cells z.toArray ty)):=by
 have W:Below w.heap.size w (w.alloc (.cells z.toArray ty)):=Below.AU w _;have C:=u.agree W;have Y:∀n,hs.g.g n->n<w.heap.size:=λn B=>zQ (hs.g.wf n B) u.AJ.1;have au:=h.le;have af:∀n,frE.pr n->n<w.heap.size:=λn B=>zQ (frE.wf n B) u.frm.size;have ag:∀e∈E,e.b<w.heap.size:=λe q=>af _ ((h.pr _).2 (.inr (zAb.2 ⟨e,q,rfl⟩)));have L:=(mem_ready.1 ak).1
 have aa:j∉E.map (·.i):=λhm=>by
  rw[zAj,h.lst j,zk hm]at L;cases ah:listed[j]? with
  |none=>rw[ah]at L;simp at L
  |some v=>rw[ah]at L;simp at L
 have ab:listed.getD j I=zb:=by rw[<-h.getD aa];exact L
 have ai:j<listed.size:=by
  rcases zAL j listed.size with av|aw
  .exact av
  .rw[zAj,zBt aw]at ab;cases ab
 refine⟨⟨w.alloc (.cells z.toArray ty),λn=>frE.pr n\/n=w.heap.size,λn=>frE.g0 n/\n≠w.heap.size,λn B=>?_⟩,⟨λe q=>?_,λe q=>?_,λe q=>?_,?_,?_,(au.1 _ C.frm),zZ h.low (zZ u.frm.size W.size),λn=>?_,λn=>?_,λk=>?_⟩,?_⟩
 .have:=W.size;rcases B with B|rfl
  .exact zQ (af n B) this
  .have:(w.alloc (.cells z.toArray ty)).heap.size=w.heap.size+1:=by show(w.heap.push _).size=_;simp
   omega
 .rcases zJ.1 q with rfl|q
  .exact⟨zAG.2 ⟨an,by simp[ab]⟩,⟨o,ao,hop,hd⟩,ap⟩
  .exact h.mem e q
 .rcases zJ.1 q with rfl|q
  .simp[zBg,hd,ar]
  .simp only[zBg,hd];rw[zO (zBw (aq e q))];exact h.tmp e q
 .rcases zJ.1 q with rfl|q
  .refine⟨World.alloc_heap_new w _,zZ h.low u.frm.size,λA=>?_⟩;have aj:=fr.wf _ A;have aA:=h.ok.size;have aB:=u.frm.size;have aj:w.heap.size<fr.w.heap.size:=aj;omega
  .obtain⟨R,T,U⟩:=h.heap e q;exact⟨((W.block e.b (ag e q)).trans (u.frm.block e.b ((h.pr _).2 (.inr (zAb.2 ⟨e,q,rfl⟩))))).trans R,T,U⟩
 .exact zBy.2 ⟨aa,h.LB⟩
 .refine zBy.2 ⟨λhm=>?_,h.LC⟩;obtain⟨e,q,ax⟩:=zAb.1 hm;have:=ag e q;simp at ax;omega
 .show(frE.pr n\/n=w.heap.size)<->_;rw[h.pr n];simp only[zBP,zJ];constructor
  .rintro((h|h)|h);exact .inl h;exact .inr (.inr h);exact .inr (.inl h)
  .rintro(h|h|h);exact .inl (.inl h);exact .inr h;exact .inl (.inr h)
 .show(frE.g0 n/\n≠w.heap.size)<->_;rw[h.g0 n];simp only[zBP,zJ,not_or];constructor
  .rintro⟨⟨R,T⟩,U⟩;exact⟨R,U,T⟩
  .rintro⟨R,U,T⟩;exact⟨⟨R,T⟩,U⟩
 .rw[zBr,h.lst k];simp only[zBP,zJ];by_cases ac:j=k
  .subst ac
   have ay:j<listedA.size:=by
    have:=h.lst j;rw[zh aa,zAO ai]at this;exact(zAg.1 this).1
   simp[ay,zAO ai]
  .have:¬k=j:=λe=>ac e.symm;simp[ac,this]
 .refine⟨C.AJ,⟨rfl,rfl,rfl,zG _,λ_ _=>rfl⟩,C.res,C.nod,λb ad=>⟨(C.fre b ad).1,?_⟩,λn A M=>?_,λn az M A=>?_,C.low⟩
  .rintro(A|rfl)
   .exact(u.fre b ad).2 A
   .have:=u.lt ad;omega
  .rcases A with A|rfl
   .exact⟨u.fz n A M,by have:=Y n M;omega⟩
   .have:=Y _ M;omega
  .rcases A with A|rfl
   .exact u.own n az M A
   .have:=Y _ M;omega
def EOk.take(h:EOk P ops al fr lo a frE listed listedA E){hs}(ak:hs.lo=lo){w}(q:Aq frE hs w){e}(aa:e∈E)(an:∀c∈e.z,c.oneCell'=I)(aF:al.Nodup)(id nx):∃ah ai,EOk P ops al fr lo a ai (listed.setIfInBounds e.i I) listedA ah/\ah.length+1=E.length/\Aq ai ⟨hs.g,.blk id e.b e.ty (e.z.map .v)::hs.rs,nx,hs.lo⟩ w:=by
 obtain⟨A,B,rfl⟩:=List.append_of_mem aa;have ab:=h.LB;have ac:=h.LC;simp only[zBo,zBP]at ab ac
 have aj:e.i∉(A++B).map (·.i):=λhm=>by
  rw[zBo]at hm;obtain⟨_,ad,d⟩:=zBk.1 ab;rcases zL.1 hm with hm|hm
  .exact d _ hm _ (zAm ..) rfl
  .exact(zBy.1 ad).1 hm
 have ao:e.b∉(A++B).map (·.b):=λhm=>by
  rw[zBo]at hm;obtain⟨_,ad,d⟩:=zBk.1 ac;rcases zL.1 hm with hm|hm
  .exact d _ hm _ (zAm ..) rfl
  .exact(zBy.1 ad).1 hm
 have sub:∀x∈A++B,x∈A++e::B:=λx u=>by
  rcases zL.1 u with u|u
  .exact zL.2 (.inl u)
  .exact zL.2 (.inr (zAl _ u))
 have T:∀n,n∈(A++e::B).map (·.b)<->n=e.b\/n∈(A++B).map (·.b):=λn=>by
  simp only[zBo,zBP,zL,zJ];constructor
  .rintro(h|h|h);exact .inr (.inl h);exact .inl h;exact .inr (.inr h)
  .rintro(h|h|h);exact .inr (.inl h);exact .inl h;exact .inr (.inr h)
 have ae:∀n,n∈(A++e::B).map (·.i)<->n=e.i\/n∈(A++B).map (·.i):=λn=>by
  simp only[zBo,zBP,zL,zJ];constructor
  .rintro(h|h|h);exact .inr (.inl h);exact .inl h;exact .inr (.inr h)
  .rintro(h|h|h);exact .inr (.inl h);exact .inl h;exact .inr (.inr h)
 have af:frE.pr e.b:=(h.pr _).2 (.inr ((T _).2 (.inl rfl)));have ap:¬frE.g0 e.b:=λM=>((h.g0 _).1 M).2 ((T _).2 (.inl rfl));obtain⟨aq,ar,au⟩:=h.heap e aa;refine⟨A++B,⟨frE.w,λn=>fr.pr n\/n∈(A++B).map (·.b),λn=>fr.g0 n/\n∉(A++B).map (·.b),λn L=>frE.wf n ((h.pr n).2 (L.imp (λh=>h) λL=>(T n).2 (.inr L)))⟩,⟨λx u=>⟨?_,(h.mem x (sub x u)).2⟩,λx u=>h.tmp x (sub x u),λx u=>h.heap x (sub x u),?_,?_,h.ok,h.low,λn=>zD1,λn=>zD1,λk=>?_⟩,sf,?_⟩
 .obtain⟨av,aw⟩:=zAG.1 (h.mem x (sub x u)).1;refine zAG.2 ⟨av,?_⟩;rw[getD_set_ne I (λU=>aj (zAb.2 ⟨x,u,U.symm⟩))];exact aw
 .rw[zBo];exact ab.sublist (zCw (zB6 _) (zCe ..))
 .rw[zBo];exact ac.sublist (zCw (zB6 _) (zCe ..))
 .rw[zBr,h.lst k];by_cases W:e.i=k
  .subst W
   have ax:e.i<listed.size:=by
    have:=(zAG.1 (h.mem e aa).1).2;rcases zAL e.i listed.size with ay|az
    .exact ay
    .rw[zAj,zBt az]at this;simp at this
   rw[zk ((ae _).2 (.inl rfl)),zh aj];simp[ax]
  .have aA:¬k=e.i:=λe=>W e.symm;by_cases hm:k∈(A++B).map (·.i)
   .rw[zk ((ae _).2 (.inr hm)),zk hm];simp[W]
   .rw[zh (λU=>hm (((ae _).1 U).resolve_left aA)),zh hm];simp[W]
 .have aB:e.b∉hs.bks:=λhm=>(q.fre _ hm).2 af;have aC:¬hs.g.g e.b:=λM=>ap (q.fz _ af M);have ag:Hs.bks ⟨hs.g,.blk id e.b e.ty (e.z.map .v)::hs.rs,nx,hs.lo⟩=e.b::hs.bks:=by simp[Hs.bks,Res.bk]
  have Y:∀n,(fr.pr n\/n∈(A++B).map (·.b))->frE.pr n:=λn L=>(h.pr n).2 (L.imp (λh=>h) λL=>(T n).2 (.inr L));refine⟨q.AJ,⟨q.frm.os,q.frm.tape,q.frm.output,q.frm.size,λn L=>q.frm.block n (Y n L)⟩,λx u=>?_,?_,λb C=>?_,λn R M=>?_,λn aD M R=>q.own n aD M (Y n R),q.low.1,λb C=>?_⟩
  .rcases zJ.1 u with rfl|u
   .refine⟨?_,λc U=>?_⟩
    .rw[qCH];exact(q.frm.block _ af).trans aq
    .obtain⟨v,aE,rfl⟩:=zAb.1 U;exact an v aE
   .exact q.res x u
  .rw[ag];exact zBy.2 ⟨aB,q.nod⟩
  .rw[ag]at C;rcases zJ.1 C with rfl|C
   .exact⟨aC,λR=>R.elim au ao⟩
   .exact⟨(q.fre b C).1,λR=>(q.fre b C).2 (Y b R)⟩
  .have:=(h.g0 n).1 (q.fz n (Y n R) M);exact⟨this.1,λhm=>this.2 ((T n).2 (.inr hm))⟩
  .rw[ag]at C;rcases zJ.1 C with rfl|C
   .rw[ak];exact ar
   .exact q.low.2 b C
end
section
variable{P:zt}{V:Env P}{fr:Fr}{H HW:qOA}{nt:Z}{D:Pin}{ops:zR zDO}{al:F Z}{lo:Z}{r:zs Z}{K:Sl->Hs->Prop}{Q:zDN->zp->Prop}
structure At(P:zt)(fr:Fr)(nt:Z)(D:Pin)(ops:zR zDO)(al:F Z)(lo:Z)(done:F Z)(pd:Pd)(Φ:F I8)(sl:Sl)(hs:Hs)(a:zDN)(w:zp)(S:zp->Prop)(frE:Fr)(listed listedA:zR zM)(E:F HA):Prop where
 dc:DC ops listedA
 eok:EOk P ops al fr lo a frE listed listedA E
 nom:NoM (DZ ops (E0 al listed)) sl
 sim:Sim nt D sl a
 hw:Aq frE hs w
 st:C3 S
 hS:S w
 kn:∀w,S w->Knows hs w
 kp:Kept P ops done pd Φ
def qfV{P:zt}(V:Env P)(fr:Fr)(H HW:qOA)(nt:Z)(D:Pin)(ops:zR zDO)(al:F Z)(lo:Z)(r:zs Z)(K:Sl->Hs->Prop)(Q:zDN->zp->Prop)(oi:OI):Prop:=
 ∀(E:F HA)(n:Z)(done:F Z)(t:OT)(listed listedA:zR zM)(h:Pd)(q:F I8)(sl:Sl)(hs:Hs)(a:zDN)(u:zp)(S:zp->Prop)(frE:Fr),unl listedA<=n->Cu P ops al zb oi listed=I->Fh P nt ops done oi=O t->(∀d∈q7B t,d∈D.ds)->
  At P fr nt D ops al lo done h q sl hs a u S frE listed listedA E->C0 P H HW lo t h sl hs K->Eb V r ops ops.size Q n q S listedA a u
def qMW{k}{listed}{o}{d}(hk:k∈E0 al listed)(h:ops[k]?=O o)(hd:o.dst=O d):d∈DZ ops (E0 al listed):=zBX.2 ⟨k,hk,by simp[h,hd]⟩
def qzM(ai:fr.has V)(aw:IB V H)(aK:∀fr:Fr,fr.has V->CA V fr HW)(ax:qkJ ops=I)(ay:JJ P nt D ops al){i}{t0}(ih:qfV V fr H HW nt D ops al lo r K Q t0):∀(E:F HA)(n:Z)(done:F Z)(t:OT)(listed listedA:zR zM)(pd:Pd)(L:F I8)(sl:Sl)(hs:Hs)(a:zDN)(w:zp)(S:zp->Prop)(frE:Fr),unl listedA<=n+1->i∈zAC .any ops listed->i∉al->Cu P ops al zb t0 (listed.setIfInBounds i I)=I->Fh P nt ops done (.exec i t0)=O t->(∀d∈q7B t,d∈D.ds)->At P fr nt D ops al lo done pd L sl hs a w S frE listed listedA E->C0 P H HW lo t pd sl hs K->qHC V r ops i (λa' w'=>(WW P ops i=zb/\S w'/\Eb V r ops ops.size Q n L S (listedA.setIfInBounds i I) a' w')\/(WW P ops i=I/\∃S',C3 S'/\S' w'/\(∀p∈L,CR ops ops.size p.i i=zb->BR P ops S' p.o p.v p.a)/\Eb V r ops ops.size Q n L S' (listedA.setIfInBounds i I) a' w')) a w:=by
 intro E n done t listed listedA pd L sl hs a w S frE hm aL ao aM T az aN A;obtain⟨aO,aa,aP,aQ,ab,ac,af,bh,ap⟩:=aN
 have aR:i∉E.map (·.i):=λhm=>by
  obtain⟨e,aT,ad⟩:=zAb.1 hm;exact ao (ad▸(zAG.1 (aa.mem e aT).1).1)
 have aA:=aa.Df aL aR;simp only[Fh]at T;split at T
 .cases T
 .rename_i o U;split at T
  .cases T
  .rename_i R aB;split at T
   .cases T
   .rename_i rest aU;cases T;obtain⟨aj,aq,aV⟩:=qPE aB;have aW:∀d∈q7B rest,d∈D.ds:=λd ar=>az d (by simp[q7B,ar]);have aX:∀d,o.dst=O d->d<nt/\d∈D.ds:=λd A=>⟨aV d A,az d (by simp[q7B,aq.trans A])⟩;have aY:=aO.ready aA
    have aZ:∀d,R.dst=O d->d∉DZ ops (E0 al listed):=λd ar a0=>by
     obtain⟨k,q,a1⟩:=zBX.1 a0;obtain⟨bi,a2,a3⟩:=zAD.1 a1;have aC:=(zAG.1 q).1;obtain⟨bj,bl,bm,aD,_,_,aE,a4⟩:=quF (ay k aC).1;rw[a2]at aD;cases aD;rw[a3]at aE;cases aE;exact a4 i o (λe=>ao (e▸aC)) U (aq▸ar)
    have next:∀u s h w'(S':zp->Prop),NoM (DZ ops (E0 al listed)) u->Sim nt D u a->(qdB R.dst u s λsl=>C0 P H HW lo rest pd sl h K)->Aq frE h w'->C3 S'->S' w'->(∀w,S' w->Knows h w)->
      Eb V r ops ops.size Q n L S' (listedA.setIfInBounds i I) (a.put o.dst (Ae s)) w':=λu s h w' S' M B q C a5 a6 a7=>by
     have q:=qwG M aZ q;rw[aq]at q;obtain⟨a8,⟨a9,ba⟩,bb⟩:=B.JX aX s (k:=λs=>NoM (DZ ops (E0 al listed)) s/\C0 P H HW lo rest pd s h K) q;exact ih E n done rest _ _ pd L a8 h _ w' S' frE (qMO hm (mem_ready.1 aA).1) aM aU aW ⟨aY,aa.set ao U (λk q=>(ay k q).1) (Ae s),a9.sub (qPM λk q=>(qDJ k q).1),bb,C,a5,a6,a7,ap⟩ ba
    have au:qvF sl R.g
      (λsl=>opS P (q9M R.op H HW) noY R.op sl hs λx h=>Gq (if WW P ops i=I then List.filter (λj=>!Ix ops j i) done else[]) h (qdB R.dst sl x λag=>C0 P H HW lo rest pd ag h K) pd)
      (λsl=>Gq (if WW P ops i=I then List.filter (λj=>!Ix ops j i) done else[]) hs (qdB R.dst sl (.v zAX) λag=>C0 P H HW lo rest pd ag hs K) pd):=A
    have au:=qKL aP au
    have av:∀s h w' u,NoM (DZ ops (E0 al listed)) u->Sim nt D u a->Aq frE h w'->S w'->C3 S->(Gq (if WW P ops i=I then List.filter (λj=>!Ix ops j i) done else[]) h (qdB R.dst u s λag=>C0 P H HW lo rest pd ag h K) pd)->
      (WW P ops i=zb/\S w'/\Eb V r ops ops.size Q n L S (listedA.setIfInBounds i I) (a.put o.dst (Ae s)) w')\/
      (WW P ops i=I/\∃S',C3 S'/\S' w'/\(∀p∈L,CR ops ops.size p.i i=zb->BR P ops S' p.o p.v p.a)/\Eb V r ops ops.size Q n L S' (listedA.setIfInBounds i I) (a.put o.dst (Ae s)) w'):=λs h w' u M B C aF bc q=>by
     obtain⟨q,ad⟩:=qrD q;cases ah:WW P ops i with
     |false=>
      refine .inl ⟨rfl,aF,?_⟩;exact qqE (S':=λaG=>S aG/\Knows h aG) (λ_ A=>A) (λ_ A=>A.1) _ _ _ _ (next u s h w' _ M B q C (λaH aI aJ ak=>⟨bc aH aI aJ.1 ak,Knows.Fi h aH aI aJ.2 ak⟩) ⟨aF,frE,C⟩ λ_ A=>A.2)
     |true=>
      rw[ah]at ad;refine .inr ⟨rfl,Knows h,Knows.Fi h,⟨frE,C⟩,ap.Kh (j:=i) (by simpa using ad),next u s h w' _ M B q C (Knows.Fi h) ⟨frE,C⟩ λ_ A=>A⟩
    rcases q8G aB aQ au with⟨an,u,⟨M,W⟩,B⟩|⟨an,u,⟨M,W⟩,B⟩
    .unfold opS at W;cases ae:R.op.reads with
     |true=>
      simp only[ae]at W;obtain⟨s,q,bd⟩:=q9I aj ae B.Au W;exact qKD (Knows.Fi hs) U (qsC ax _ _ U) (S:=Knows hs) (.inl ⟨an,qkE aj ae,λw'⟨be,bf⟩=>bd be w' bf⟩) ⟨frE,ab⟩ λY=>av s hs _ u M B (ab.at Y) (ac.at af Y) ac q
     |false=>
      simp only[ae]at W;unfold qHC;simp only[U];rw[zk an];intro Y;have ab:=ab.at Y;have af:=ac.at af Y;cases ah:WW P ops i with
      |false=>
       have bg:isW P o=zb:=by simpa[WW,U]using ah
       refine q0U (ai.up aa.le) aw aj ae bg B.Au W ab λs h w' q ak C=>?_;have:=av s h w' u M B C (ac _ w' af ak) ac q;rwa [ah]at this
      |true=>
       refine qDR (ai.up aa.le) (qgT (aw.snd frE (ai.up aa.le)) (aK frE (ai.up aa.le)) _) (qrF V frE) aj ae B.Au W ab λs h w' q C=>?_;obtain⟨q,ad⟩:=qrD q;rw[ah]at ad;exact .inr ⟨rfl,Knows h,Knows.Fi h,⟨frE,C⟩,ap.Kh (j:=i) (by simpa using ad),next u s h w' _ M B q C (Knows.Fi h) ⟨frE,C⟩ λ_ A=>A⟩
    .exact qKD (λ_ _ _ _=>trivial) U (qsC ax _ _ U) (S:=λ_=>True) (.inr ⟨an,rfl⟩) trivial λY=>av (.v zAX) hs _ u M B (ab.at Y) (ac.at af Y) ac W
def At.early(ap:fr.has V)(aq:qkJ ops=I)(ar:JJ P nt D ops al){E}{n}{done}{listed listedA}{pd}{C}{sl}{hs}{a}{w}{S}{frE:Fr}(hA:At P fr nt D ops al lo done pd C sl hs a w S frE listed listedA E)(au:unl listedA<=n+1){j}(Y:j∈zAC .any ops listedA)(aa:j∈al)(av:∀aw ab a' w' ac,At P fr nt D ops al lo done pd C sl hs a' w' S ac listed ab aw->unl ab<=n->Eb V r ops ops.size Q n C S ab a' w'):qHC V r ops j (λa' w'=>(WW P ops j=zb/\S w'/\Eb V r ops ops.size Q n C S (listedA.setIfInBounds j I) a' w')\/(WW P ops j=I/\∃S',C3 S'/\S' w'/\(∀p∈C,CR ops ops.size p.i j=zb->BR P ops S' p.o p.v p.a)/\Eb V r ops ops.size Q n C S' (listedA.setIfInBounds j I) a' w')) a w:=by
 obtain⟨ax,L,ag,M,R,W,T,ay,az⟩:=hA;obtain⟨aA,⟨o,aX,u,aB⟩,aC⟩:=ar j aa;obtain⟨aY,ah,d,ai,U,aD,h,aE⟩:=quF aA;rw[u]at ai;cases ai;obtain⟨q,_,aF⟩:=qPE aB
 have A:∃z,q5H P ah=O z:=by
  unfold Er at q;rw[U]at q;simp only at q;split at q
  .rename_i z A;exact⟨z,A⟩
  .cases q
 obtain⟨z,A⟩:=A;have B:=(mem_ready.1 Y).1
 have aj:j∉E.map (·.i):=λhm=>by
  rw[zAj,L.lst j,zk hm]at B;cases ak:listed[j]? with
  |none=>rw[ak]at B;simp at B
  |some v=>rw[ak]at B;simp at B
 have aG:j∈E0 al listed:=zAG.2 ⟨aa,by rw[<-L.getD aj];simp[B]⟩
 have aH:∀e∈E,e.d≠d:=λe an aI=>by
  obtain⟨_,⟨aJ,aK,_,aL⟩,_⟩:=L.mem e an;exact aE e.i aJ (λaM=>aj (zAb.2 ⟨e,an,aM⟩)) aK (by rw[aL,aI])
 have aN:d<nt:=aF d h;unfold qHC;simp only[u];rw[zk (by simp[zAs,aD])];intro ad;have R:=R.at ad;have T:=W.at T ad;generalize w.at ad=w at R T⊢;obtain⟨ac,aO,aP⟩:=L.make R Y aa u U h A aH (by rw[M.size];exact aN)
 have aQ:(zy a.eval o).run P w=.ok (.value (.pointer (O ⟨w.heap.size,0,zc⟩))) (w.alloc (.cells z.toArray ah)):=by
  obtain⟨v,aR,aT,_⟩:=qZD A w;have aU:v.cells=z.toArray:=by apply zBq;simpa using aT
  simp only[zy,U];refine qnC ?_;simp[Instr.alloc,aR,newVar,newRow,aU]
 have aV:WW P ops j=zb:=by simp[WW,u,isW,U]
 refine qoA (qCG q (λf aZ e=>by simp only[Er,U,A]at q;rw[<-zv q]at e;cases e)) (qsC aq _ _ u).2 aQ (qIL (R.N (ap.up L.le)) (Below.AU w _)) (.inl ⟨aV,W w _ T (Below.AU w _),?_⟩);refine av _ _ _ _ ac ⟨ax.ready Y,aO,ag,?_,aP,W,W w _ T (Below.AU w _),ay,az⟩ (qMO au B);have aW:AS sl d=zc:=ag d (qMW aG u h);refine⟨by simp[zBg,h,M.size],by simp[zBg,h,M.defers],λn y ae=>?_,λn ao=>?_⟩
 .have af:d≠n:=λe=>by rw[<-e,aW]at ae;cases ae
  simp only[zBg,h];rw[zO af];exact M.Au n y ae
 .have af:d≠n:=λe=>ao (e▸aC o d u h);simp only[zBg,h];rw[zO af];exact M.off n ao
def qIR(ar:JJ P nt D ops al)(au:al.Nodup){i}{t0}(ih:qfV V fr H HW nt D ops al lo r K Q t0):∀(E:F HA)(n:Z)(done:F Z)(t:OT)(listed listedA:zR zM)(pd:Pd)(U:F I8)(sl:Sl)(hs:Hs)(a:zDN)(w:zp)(S:zp->Prop)(frE:Fr),unl listedA<=n->i∈al->i∈E.map (·.i)->Cu P ops al zb t0 (listed.setIfInBounds i I)=I->Fh P nt ops done (.Fs i t0)=O t->(∀d∈q7B t,d∈D.ds)->At P fr nt D ops al lo done pd U sl hs a w S frE listed listedA E->C0 P H HW lo t pd sl hs K->Eb V r ops ops.size Q n U S listedA a w:=by
 intro E n done t listed listedA pd U sl hs a w S frE hm av hE aw u ax ay h;obtain⟨az,ab,aA,W,aB,aC,aD,a1,aE⟩:=ay;obtain⟨e,ac,rfl⟩:=zAb.1 hE;obtain⟨a2,⟨o,ae,aF,Y⟩,aG⟩:=ab.mem e ac;obtain⟨aH,_,a3⟩:=ar e.i av;obtain⟨a4,a5,a6,af,a7,aI,ag,aJ⟩:=quF aH;rw[ae]at af;cases af;simp only[Fh]at u;split at u
 .cases u
 .rename_i a8 ah;rw[ae]at ah;cases ah;split at u
  .cases u
  .rename_i q A;split at u
   .cases u
   .rename_i rest aK;cases u;obtain⟨M,aL,a9⟩:=qPE A;have aM:∀d∈q7B rest,d∈D.ds:=λd Y=>ax d (by simp[q7B,Y]);obtain⟨aN,h⟩:=qAW (P:=P) (H:=H) (lo:=lo) (d:=⟨e.i,zb,[],q⟩) (ih:=C0 P H HW lo rest) (show rtB P H HW lo ⟨e.i,zb,[],q⟩ (C0 P H HW lo rest) pd sl hs K from h)
    have aO:q.op=.alloc e.ty (e.z.map SV.v):=by
     unfold Er at M;rw[aF]at M;simp only[aG]at M;simpa using M.symm
    have aP:q.g=zc:=by
     unfold q0D at A;rw[M]at A;simp only[aI]at A;split at A
     .simp at A;rw[<-A]
     .cases A
    have h:qbL e.ty (e.z.map SV.v) hs λx R=>Gq [] R (qdB q.dst sl x λT=>C0 P H HW lo rest pd T R K) pd:=by
     have ai:qvF sl q.g
      (λsl=>opS P (q9M q.op H HW) noY q.op sl hs λx R=>Gq [] R (qdB q.dst sl x λT=>C0 P H HW lo rest pd T R K) pd)
      (λsl=>Gq [] hs (qdB q.dst sl (.v zAX) λT=>C0 P H HW lo rest pd T hs K) pd):=h
     rw[aP,aO]at ai;exact ai
    rw[qDO]at h;obtain⟨h,aQ⟩:=q6D h;obtain⟨B,aa,h⟩:=qFB h;obtain⟨h,_⟩:=qrD (h e.b);obtain⟨aR,aj,aT,_,ak⟩:=ab.take aN aB ac (λc aU=>aQ (.v c) (zAb.2 ⟨c,aU,rfl⟩)) au B aa;rw[aL.trans Y]at h;have h:C0 P H HW lo rest pd ((e.d,.p B e.b 0)::sl) ⟨hs.g,.blk B e.b e.ty (e.z.map .v)::hs.rs,aa,hs.lo⟩ K:=h
    have aV:Sim nt D ((e.d,.p B e.b 0)::sl) a:=⟨W.size,W.defers,λn y C=>by
     simp only[AS]at C;cases L:zAP e.d n with
     |true=>
      rw[L]at C;obtain rfl:=zP L;simp at C;subst C;exact ab.tmp e ac
     |false=>rw[L]at C;exact W.Au n y C,W.off⟩
    have aW:NoM (DZ ops (E0 al (listed.setIfInBounds e.i I))) ((e.d,.p B e.b 0)::sl):=by
     refine(aA.sub (qPM λk ad=>(qDJ k ad).1)).cons (λaX=>?_) _;obtain⟨k,ad,aY⟩:=zBX.1 aX;obtain⟨ok,aZ,a0⟩:=zAD.1 aY;rw[Y]at ag;cases ag;exact aJ k ok (qDJ k ad).2 aZ a0
    have:=ih aR n done rest _ listedA pd U _ ⟨hs.g,.blk B e.b e.ty (e.z.map .v)::hs.rs,aa,hs.lo⟩ a w (λan=>S an/\Knows ⟨hs.g,.blk B e.b e.ty (e.z.map .v)::hs.rs,aa,hs.lo⟩ an) aj hm aw aK aM
     ⟨az,aT,aW,aV,ak,λao ap aq L=>⟨aC ao ap aq.1 L,Knows.Fi _ ao ap aq.2 L⟩,⟨aD,aj,ak⟩,λ_ h=>h.2,aE⟩ h
    exact qqE (λ_ h=>h) (λ_ h=>h.1) _ _ _ _ this
def qtc{P:zt}(V:Env P)(fr:Fr)(H HW:qOA)(nt:Z)(D:Pin)(ops:zR zDO)(al:F Z)(lo:Z)(r:zs Z)(K:Sl->Hs->Prop)(Q:zDN->zp->Prop)(oi:OI):Prop:=
 ∀(E:F HA)(n:Z)(done:F Z)(t:OT)(listed listedA:zR zM)(w:Pd)(h:F I8)(sl:Sl)(hs:Hs)(a:zDN)(A:zp)(S:zp->Prop)(frE:Fr),unl listedA<=n+1->Cu P ops al I oi listed=I->Fh P nt ops done oi=O t->(∀d∈q7B t,d∈D.ds)->
  At P fr nt D ops al lo done w h sl hs a A S frE listed listedA E->C0 P H HW lo t w sl hs K->∀i∈q4J oi,qHC V r ops i (λB q=>
   (WW P ops i=zb/\S q/\Eb V r ops ops.size Q n h S (listedA.setIfInBounds i I) B q)\/
   (WW P ops i=I/\∃u,C3 u/\u q/\(∀p∈h,CR ops ops.size p.i i=zb->BR P ops u p.o p.v p.a)/\Eb V r ops ops.size Q n h u (listedA.setIfInBounds i I) B q)) a A
def Kept.mono{done q}{pd u}{w}(h:Kept P ops done pd w)(A:∀i∈done,i∈q)(h2:∀x∈pd,x∈u):Kept P ops q u w:=λp B=>by
 rcases h p B with⟨a,b,op,sl,x,c,d⟩|h
 .exact .inl ⟨A _ a,b,op,sl,x,h2 _ c,d⟩
 .exact .inr h
def qXV(oi){listed}:Cu P ops al I oi listed=I->∃i∈q4J oi,i∈zAC .any ops listed/\i∉al:=by
 induction oi with
 |nil=>intro h;simp[Cu]at h
 |first _ _ _=>intro h;simp[Cu]at h
 |Fs _ _ _=>intro h;simp[Cu]at h
 |exec i t _=>
  intro h;simp only[Cu,zj]at h;exact⟨i,by simp[q4J],by simpa using h.1.1,by simpa using h.1.2⟩
 |alt a b q _=>
  intro h;simp only[Cu,zj]at h;obtain⟨i,u,w⟩:=q h.1;exact⟨i,zL.2 (.inl u),w⟩
def EOk.Js{frE:Fr}{a}{listed listedA}{E}(h:EOk P ops al fr lo a frE listed listedA E){i}(q:i∉al):i∉E.map (·.i):=λhm=>by
 obtain⟨e,u,w⟩:=zAb.1 hm;exact q (w▸(zAG.1 (h.mem e u).1).1)
def qCW(av:fr.has V)(a5:IB V H)(a6:∀fr:Fr,fr.has V->CA V fr HW)(ah:qkJ ops=I)(ac:JJ P nt D ops al)(a7:al.Nodup)(a8:∀k∈al,k<ops.size)(bt:∀sl hs a w,K sl hs->Sim nt D sl a->Aq fr hs w->Q a w)(oi):qfV V fr H HW nt D ops al lo r K Q oi/\qtc V fr H HW nt D ops al lo r K Q oi:=by
 induction oi with
 |nil=>
  refine⟨?_,λE n done t listed listedA B R sl hs a w S frE _ h=>by simp[Cu]at h⟩;intro E n done t listed listedA B R sl hs a w S frE hm h u T q L;simp[Fh]at u;subst u;simp only[Cu,zj]at h;obtain⟨h,bu⟩:=h
  have hE:E=[]:=by
   cases E with
   |nil=>rfl
   |cons e E=>
    exfalso;obtain⟨aR,ak⟩:=zAG.1 (q.eok.mem e (zAm ..)).1;have:=(zAh.1 bu) e.i aR;rw[zAj]at this ak;cases aJ:listed[e.i]? with
    |none=>rw[aJ]at this;simp at this
    |some v=>rw[aJ]at this ak;simp at this ak;rw[this]at ak;cases ak
  subst hE
  have bv:listedA=listed:=by
   apply zDq;intro k;simpa using q.eok.lst k
  subst bv;have ai:zAC .any ops listedA=[]:=by simpa using h
  have A:∀d,Q a (w.at d):=λd=>bt sl hs a _ L q.sim ((q.hw.Fg q.eok.le).at d);cases n with
  |zero=>exact⟨ai,A⟩
  |succ n=>exact⟨λ_=>A,λj M=>by rw[ai]at M;cases M⟩
 |exec i a9 ad=>
  constructor
  .intro E n done t listed listedA B R sl hs a w S frE hm h u T q L;simp only[Cu,zj,beq_iff_eq]at h;obtain⟨⟨⟨ai,U⟩,C⟩,h⟩:=h;have U:i∈zAC .any ops listed:=by simpa using U
   have C:i∉al:=by simpa using C
   induction n generalizing E listedA a w frE with
   |zero=>
    have:=qfL (mem_ready.1 (q.eok.Df U (q.eok.Js C))).1;omega
   |succ n aw=>
    have aj:=q.eok.Df U (q.eok.Js C);refine⟨λax=>(by rw[ax]at aj;cases aj),λj M=>?_⟩;by_cases aa:j∈al
    .exact q.early av ah ac hm M aa λay az aA ab aB aC ae=>aw ay az aA ab aB ae aC
    .have aT:ops.size∉E.map (·.i):=q.eok.Js λaU=>by have:=a8 _ aU;omega
     have:=q.eok.F4 aT M aa;rw[ai]at this;obtain rfl:j=i:=by simpa using this
     exact qzM av a5 a6 ah ac ad.1 E n done t listed listedA B R sl hs a w S frE hm U C h u T q L
  .intro E n done t listed listedA B R sl hs a w S frE hm h u T q L j M;simp only[Cu,zj]at h;obtain⟨⟨U,C⟩,h⟩:=h;obtain rfl:j=i:=by simpa[q4J]using M
   exact qzM av a5 a6 ah ac ad.1 E n done t listed listedA B R sl hs a w S frE hm (by simpa using U) (by simpa using C) h u T q L
 |Fs i a9 ad=>
  refine⟨?_,λE n done t listed listedA B R sl hs a w S frE _ h=>by simp[Cu]at h⟩;intro E n done t listed listedA B R sl hs a w S frE hm h u T q L;simp only[Cu,zj,beq_iff_eq]at h;obtain⟨⟨⟨ai,U⟩,C⟩,h⟩:=h;have U:i∈zAC .any ops listed:=by simpa using U
  have C:i∈al:=by simpa using C
  induction n generalizing E listedA a w frE with
  |zero=>
   by_cases hE:i∈E.map (·.i)
   .exact qIR ac a7 ad.1 E 0 done t listed listedA B R sl hs a w S frE hm C hE h u T q L
   .have:=qfL (mem_ready.1 (q.eok.Df U hE)).1;omega
  |succ n aw=>
   by_cases hE:i∈E.map (·.i)
   .exact qIR ac a7 ad.1 E (n+1) done t listed listedA B R sl hs a w S frE hm C hE h u T q L
   .have aj:=q.eok.Df U hE;refine⟨λax=>(by rw[ax]at aj;cases aj),λj M=>?_⟩
    have aa:j∈al:=by
     by_cases aa:j∈al
     .exact aa
     .have:=q.eok.F4 hE M aa;rw[ai]at this;obtain rfl:j=i:=by simpa using this
      exact C
    exact q.early av ah ac hm M aa λay az aA ab aB aC ae=>aw ay az aA ab aB ae aC
 |alt x y bw bx=>
  have ba:qtc V fr H HW nt D ops al lo r K Q (.alt x y):=by
   intro E n done t listed listedA B R sl hs a w S frE hm h u T q L j M;simp only[Cu,zj]at h;simp only[Fh]at u;split at u
   .cases u
   .rename_i bb bz;split at u
    .cases u
    .rename_i bc bA;cases u;have bd:C0 P H HW lo bb B sl hs K/\C0 P H HW lo bc B sl hs K:=L;rcases zL.1 (show j∈q4J x++q4J y from M)with M|M
     .exact bw.2 E n done bb listed listedA B R sl hs a w S frE hm h.1 bz (λd af=>T d (by simp[q7B,af])) q bd.1 j M
     .exact bx.2 E n done bc listed listedA B R sl hs a w S frE hm h.2 bA (λd af=>T d (by simp[q7B,af])) q bd.2 j M
  refine⟨?_,ba⟩;intro E n done t listed listedA B R sl hs a w S frE hm h u T q L;simp only[Cu,zj]at h;obtain⟨⟨ai,be⟩,bB⟩:=h;obtain⟨i,bT,U,C⟩:=qXV x be
  induction n generalizing E listedA a w frE with
  |zero=>
   have:=qfL (mem_ready.1 (q.eok.Df U (q.eok.Js C))).1;omega
  |succ n aw=>
   have aj:=q.eok.Df U (q.eok.Js C);refine⟨λax=>(by rw[ax]at aj;cases aj),λj M=>?_⟩;by_cases aa:j∈al
   .exact q.early av ah ac hm M aa λay az aA ab aB aC ae=>aw ay az aA ab aB ae aC
   .have aT:ops.size∉E.map (·.i):=q.eok.Js λaU=>by have:=a8 _ aU;omega
    have:=(zAh.1 ai) j (q.eok.F4 aT M aa);exact ba E n done t listed listedA B R sl hs a w S frE hm (by simp[Cu,be,bB]) u T q L j (by simpa[q4J]using this)
 |first i a9 ad=>
  refine⟨?_,λE n done t listed listedA B R sl hs a w S frE _ h=>by simp[Cu]at h⟩;intro E n done t listed listedA B R sl hs a w S frE hm h u T q L;simp only[Cu,zj]at h;obtain⟨⟨⟨⟨aR,ak⟩,bC⟩,C⟩,h⟩:=h;have bD:i∈zAC .any ops listed:=by simpa using aR
  have C:i∉al:=by simpa using C
  have an:=q.eok.Df bD (q.eok.Js C);cases n with
  |zero=>have:=qfL (mem_ready.1 an).1;omega
  |succ n=>
   have ae:=qMO hm (mem_ready.1 an).1;obtain⟨aK,bf,bE,bF,aV,ao,ap,aL,aW⟩:=q;simp only[Fh]at u;split at u
   .cases u
   .rename_i o aq;split at u
    .cases u
    .rename_i W bg;split at u
     .rename_i aD;split at u
      .cases u
      .rename_i rest aE;cases u;obtain⟨aM,aN,bG⟩:=qPE bg;have aX:∀d∈q7B rest,d∈D.ds:=λd af=>T d (by simp[q7B,af]);have bh:∀d,o.dst=O d->d<nt/\d∈D.ds:=λd L=>⟨bG d L,T d (by simp[q7B,aN.trans L])⟩;have aY:=aK.ready an;have hW:WW P ops i=zb:=by simpa using bC
       have aZ:∀j aF,ops[j]?=O aF->j≠i->listedA.getD j I=zb->(∀e∈aF.after,Region.binds .any e=I->e.on≠i)->o.apart ops aF=I:=λj aF M bH bi bI=>by
        refine Region.free_spec aq ak j aF M bH ?_ bI;cases aJ:listed.getD j I with
        |false=>rfl
        |true=>rw[bf.JN aJ]at bi;cases bi
       have a0:=λv=>bf.set C aq (λk A=>(ac k A).1) v
       have bj:∀d,W.dst=O d->d∉DZ ops (E0 al listed):=λd af bJ=>by
        obtain⟨k,A,bK⟩:=zBX.1 bJ;obtain⟨bU,bL,bM⟩:=zAD.1 bK;have bl:=(zAG.1 A).1;obtain⟨bW,bX,bY,bm,_,_,bn,bN⟩:=quF (ac k bl).1;rw[bL]at bm;cases bm;rw[bM]at bn;cases bn;exact bN i o (λe=>C (e▸bl)) aq (aN▸af)
       have a1:=λag(L:NoM (DZ ops (E0 al listed)) ag)=>L.sub (qPM (ops:=ops) λk A=>(qDJ (al:=al) (listed:=listed) (i:=i) k A).1);have sub:∀k∈done,k∈(if W.op.pure=I then done else i::done):=λk A=>by split;exact A;exact zAl _ A
       have a2:qvF sl W.g
         (λsl=>opS P (q9M W.op H HW) noY W.op sl hs λx bo=>Gq [] bo (qdB W.dst sl x λa3=>C0 P H HW lo rest (L1 ⟨i,!W.op.pure,[],W⟩ sl x B) a3 bo K) B)
         (λsl=>Gq [] hs (qdB W.dst sl (.v zAX) λa3=>C0 P H HW lo rest B a3 hs K) B):=L
       have a2:=qKL bE a2;rcases q8G bg bF a2 with⟨ar,aO,⟨a4,aG⟩,aH⟩|⟨ar,aO,⟨a4,aG⟩,aH⟩
       .unfold opS at aG;simp only[aD]at aG;obtain⟨s,A,bp⟩:=q1M aM aD aH.Au aG;obtain⟨A,_⟩:=qrD A;have A:=qwG a4 bj A;rw[aN]at A;obtain⟨ag,⟨aP,au⟩,aQ⟩:=aH.JX bh s (k:=λaI=>NoM (DZ ops (E0 al listed)) aI/\C0 P H HW lo rest (L1 ⟨i,!W.op.pure,[],W⟩ aO s B) aI hs K) A;have bq:BR P ops S o (Ae s) a:=.inl ⟨ar,qkE aM aD,λab bO=>let⟨bP,bQ⟩:=aL ab bO;bp bP ab (.inr bQ)⟩;cases Y:W.op.pure with
        |true=>
         rw[Y]at au aE;refine qZI aq (qsC ah) hW (λp Y=>Y) (λbr j _ _=>.inl ⟨ar,qkE aM aD,λab _=>bp fr ab (.inl Y)⟩) n S listedA a w ao aZ aK an ⟨rfl,rfl⟩ bq ap ?_;exact ad.1 E n done rest _ _ _ R ag hs _ w S frE ae h (by simpa using aE) aX ⟨aY,a0 _,a1 ag aP,aQ,aV,ao,ap,aL,aW⟩ au
        |false=>
         rw[Y]at au aE;refine qZI (Φ':=⟨i,o,Ae s,a⟩::R) aq (qsC ah) hW (λp Y=>zAl _ Y) (λbr j af bR=>bR _ (zAm ..) af) n S listedA a w ao aZ aK an ⟨rfl,rfl⟩ bq ap ?_;refine ad.1 E n (i::done) rest _ _ ((i,W.op,aO,s)::B) _ ag hs _ w S frE ae h (by simpa using aE) aX ⟨aY,a0 _,a1 ag aP,aQ,aV,ao,ap,aL,?_⟩ au;intro p Y;rcases zJ.1 Y with rfl|Y
         .exact .inl ⟨zAm ..,ar,W.op,aO,s,zAm ..,aM,aD,aH.Au,rfl⟩
         .exact aW.mono (λk A=>zAl _ A) (λk A=>zAl _ A) p Y
       .obtain⟨A,_⟩:=qrD aG;have A:=qwG a4 bj A;rw[aN]at A;obtain⟨ag,⟨aP,au⟩,aQ⟩:=aH.JX bh (.v zAX) (k:=λaI=>NoM (DZ ops (E0 al listed)) aI/\C0 P H HW lo rest B aI hs K) A;refine qZI aq (qsC ah) hW (λp Y=>Y) (λbr j _ _=>.inr ⟨ar,rfl⟩) n S listedA a w ao aZ aK an ⟨rfl,rfl⟩ (.inr ⟨ar,rfl⟩) ap ?_;exact ad.1 E n _ rest _ _ B R ag hs _ w S frE ae h aE aX ⟨aY,a0 _,a1 ag aP,aQ,aV,ao,ap,aL,aW.mono sub λ_ L=>L⟩ au
     .cases u
end
def qCI{P:zt}{V:Env P}{fr:Fr}{H HW:qOA}(M:fr.has V)(R:IB V H)(T:∀fr:Fr,fr.has V->CA V fr HW){nt:Z}{D:Pin}{ops:zR zDO}{al:F Z}{r:zs Z}{K:Sl->Hs->Prop}{Q:zDN->zp->Prop}(hm:P.follows .mixedOrders=I)(U:qkJ ops=I)(C:JJ P nt D ops al)(W:al.Nodup)(Y:∀sl hs a w,K sl hs->Sim nt D sl a->Aq fr hs w->Q a w){oi:OI}{t:OT}{sl:Sl}{hs:Hs}{a:zDN}{w:zp}(B:Cu P ops al zb oi (zAU ops.size zb)=I)(aa:Fh P nt ops [] oi=O t)(ab:∀d∈q7B t,d∈D.ds)(ac:NoM (DZ ops al) sl)(ad:Sim nt D sl a)(ae:Aq fr hs w)(h:C0 P H HW hs.lo t [] sl hs K):qLH V r ops Q ops.size (zAU ops.size zb) a w:=by
 have q:Aq fr hs w:=ae
 have af:DC ops (zAU ops.size zb):=λk o u=>by
  rw[zAj,Array.getElem?_replicate]at u;split at u<;>simp at u
 have L:∀k∈al,k<ops.size:=λk u=>by
  obtain⟨_,⟨o,_,B,_⟩,_⟩:=C k u;exact(zAg.1 B).1
 have ag:E0 al (zAU ops.size zb)=al:=by
  unfold E0;rw[List.filter_eq_self];intro k u;have:=L k u;simp[zAj,Array.getElem?_replicate,this]
 let frE:Fr:=⟨w,fr.pr,fr.g0,λn ah=>zQ (fr.wf n ah) q.frm.size⟩;have hE:Aq frE hs w:=⟨q.AJ,⟨rfl,rfl,rfl,zG _,λ_ _=>rfl⟩,q.res,q.nod,q.fre,q.fz,q.own,q.low⟩
 have:=(qCW (r:=r) (lo:=hs.lo) M R T U C W L Y oi).1 [] ops.size [] t _ (zAU ops.size zb) [] [] sl hs a _ (Knows hs) frE (by unfold unl;exact zZ List.count_le_length sd) B aa ab
  ⟨af,⟨(λe A=>nomatch A),(λe A=>nomatch A),(λe A=>nomatch A),zBR,zBR,q.frm,q.low.1,λn=>by simp[frE],λn=>by simp[frE],λk=>sd⟩,by rw[ag];exact ac,ad,hE,Knows.Fi hs,⟨fr,q⟩,λ_ h=>h,λp ai=>by cases ai⟩ h
 exact qfM _ _ _ _ _ _ this
inductive Bu where
 |skip
 |reg (ops:F CX)
 |Kp (scr:F Z) (t:OT)
 |seq (a b:Bu)
 |cond (c:Opd) (a b:Bu)
 |block (id:Z) (b:Bu)
 |loop (ms scr:F Z) (b:Bu)
 |MF (g:Opd) (ps:F Z) (asg body:Bu)
 |exit (id:Z)
 |ret
 |label (l:Z)
 |goto (l:Z)
 |jump (l:Z) (b r:Bu)
 |scope (b:Bu)
 deriving Inhabited
def Bt:Bu->F Z
 |.reg h=>qGE h
 |.Kp q t=>q++q7B t
 |.seq a b=>Bt a++Bt b
 |.cond _ a b=>Bt a++Bt b
 |.block _ b=>Bt b
 |.loop _ _ b=>Bt b
 |.jump _ b r=>Bt b++Bt r
 |.scope b=>Bt b
 |_=>[]
abbrev Ed:=Ex->Sl->Hs->Prop
abbrev Run:=Sl->Hs->Ed->Prop
def q9Z(c:Opd)(A B:Run)(sl:Sl)(hs:Hs)(K:Ed):Prop:=match c with
 |.t n=>match AS sl n with
  |some (.b I)=>A sl hs K
  |some (.b zb)=>B sl hs K
  |some (.v (.bool x))=>(x=I->A ((n,.b I)::sl) hs K)/\(x=zb->B ((n,.b zb)::sl) hs K)
  |_=>zV
 |.b I=>A sl hs K
 |.b zb=>B sl hs K
 |.c _=>zV
def NV(B:Run)(K:Ed):Ed:=λe sl hs=>match e with
 |.normal=>B sl hs K
 |.exit n=>K (.exit n) sl hs
 |.ret=>K .ret sl hs
 |.goto n=>K (.goto n) sl hs
def qCY(id:Z)(K:Ed):Ed:=λe sl hs=>match e with
 |.normal=>K .normal sl hs
 |.exit n=>match zAP n id with
  |true=>K .normal sl hs
  |false=>K (.exit n) sl hs
 |.ret=>K .ret sl hs
 |.goto n=>K (.goto n) sl hs
def I0:F Z->Sl->(F SV->Prop)->Prop
 |[],_,k=>k []
 |n::r,sl,k=>match AS sl n with
  |some x=>I0 r sl λl=>k (x::l)
  |none=>zV
def qGP(h:F Z):Sl->(Sl->Prop)->Prop
 |[],k=>k []
 |(n,x)::r,k=>match Jv n h with
  |true=>qGP h r k
  |false=>qGP h r λl=>k ((n,x)::l)
def Gt(ms:F Z)(vs:F SV)(sl:Sl):Sl:=KR ms vs sl
where
 KR:F Z->F SV->Sl->Sl
 |n::ns,x::xs,sl=>(n,x)::KR ns xs sl
 |_,_,sl=>sl
def q3R{h:Type}(A:F Z)(B:h->F SV)(W:h->Hs)(J:h->Prop)(q:h->Z)(x:h)(K:Ed):Ed:=λe sl hs=>match e with
 |.normal=>I0 A sl λC=>∀u w,Aq u hs w->∃y,qDA (B y)=qDA C/\J y/\q y<q x/\Aq u (W y) w
 |.exit n=>K (.exit n) sl hs
 |.ret=>K .ret sl hs
 |.goto n=>K (.goto n) sl hs
def M8(q C:F Z)(D:Run)(sl:Sl)(hs:Hs)(K:Ed):Prop:=
 I0 q sl λE=>qGP C sl λsl0=>∃(h:Type)(u:h->F SV)(w:h->Hs)(J:h->Prop)(H:h->Z),
  (∀A B,Aq A hs B->∃x,qDA (u x)=qDA E/\J x/\Aq A (w x) B)/\∀x,J x->D (Gt q (u x) sl0) (w x) (q3R q u w J H x K)
def qyL(id q:Z)(busy:zM)(new:LpS):F Res->(F Res->Prop)->Prop
 |[],_=>zV
 |.lp k l r j::h,K=>match zAP k id with
  |true=>l=q/\match busy with
   |true=>match j with
    |.busy=>K (.lp k l r new::h)
    |_=>zV
   |false=>match j with
    |.ready=>K (.lp k l r new::h)
    |_=>zV
  |false=>qyL id q busy new h λu=>K (.lp k l r j::u)
 |x::h,K=>qyL id q busy new h λu=>K (x::u)
def qJS(id q:Z):F Res->(LpS->F Res->Prop)->Prop
 |[],_=>zV
 |.lp k l r j::h,K=>match zAP k id with
  |true=>l=q/\K j h
  |false=>qJS id q h λu w=>K u (.lp k l r j::w)
 |x::h,K=>qJS id q h λu w=>K u (x::w)
def q5L:F Z->F SV->Sl->(Sl->Prop)->Prop
 |[],[],sl,k=>k sl
 |n::h,x::q,sl,k=>q5L h q ((n,x)::sl) k
 |_,_,_,_=>zV
def qAb(id l:Z)(K:SV->Hs->Prop):Ed:=λe _ hs=>match hs with
 |⟨q,u,w,A⟩=>match e with
  |.normal=>qyL id l I .ready u λh=>K (.b I) ⟨q,h,w,A⟩
  |.exit n=>qyL id l I (.jump (.exit n)) u λh=>K (.b zb) ⟨q,h,w,A⟩
  |.ret=>qyL id l I (.jump .ret) u λh=>K (.b zb) ⟨q,h,w,A⟩
  |.goto n=>qyL id l I (.jump (.goto n)) u λh=>K (.b zb) ⟨q,h,w,A⟩
def q3W(id l:Z)(rr:Loop)(ps:F Z)(sl:Sl)(q u:Run)(Y:qMB):qMB:=λh args hs K=>match zAP h id with
 |true=>match qsH h hs.rs with
  |some (w,A,_)=>(w=l/\A=rr)/\q5L ps args sl λB=>q B hs λe C D=>match e with
   |.normal=>match D with
    |⟨E,H,L,M⟩=>qyL h l zb .busy H λP=>u C ⟨E,P,L,M⟩ (qAb h l K)
   |_=>zV
  |none=>zV
 |false=>Y h args hs K
def Nj(K:Ed)(sl:Sl)(hs:Hs)(j:LpS)(rs':F Res):Prop:=match hs with
 |⟨h,_,q,u⟩=>match j with
  |.ready=>K .normal sl ⟨h,rs',q,u⟩
  |.jump (.exit n)=>K (.exit n) sl ⟨h,rs',q,u⟩
  |.jump .ret=>K .ret sl ⟨h,rs',q,u⟩
  |.jump (.goto n)=>K (.goto n) sl ⟨h,rs',q,u⟩
  |_=>zV
def qhY(P:zt)(H:qOA)(g:SV)(ps:F Z)(u w:Run)(Y:qMB)(sl:Sl)(hs:Hs)(K:Ed):Prop:=match g with
 |.fn (.func k) first A=>GB P k/\match hs with
  |⟨B,C,D,E⟩=>qEC D λi L=>∀(l:Z)(h:Loop),H (q3W i l h ps sl u w Y) k (first++[.yl i l]++A) ⟨B,.lp i l h .ready::C,L,E⟩ λ_ q=>
   qJS i l q.rs λj M=>Nj K sl q j M
 |_=>zV
def qZc:zM->qMB->Run:=λ_ _ sl hs K=>K .normal sl hs
def Oz(P:zt)(H:qOA)(ops:F CX):zM->qMB->Run:=λ_ h sl hs K=>Ho P H h ops sl hs λsl hs=>K .normal sl hs
def qCV(P:zt)(H:qOA)(A:F Z)(t:OT):zM->qMB->Run:=λ_ _ sl hs K=>match hs with
 |⟨q,u,w,h⟩=>match A with
  |[]=>C0 P (okH P) H h t [] sl ⟨q,u,w,h⟩ λsl hs=>K .normal sl hs
  |n::B=>qGP (n::B) sl λsl=>C0 P (okH P) H h t [] sl ⟨q,u,w,h⟩ λsl hs=>K .normal sl hs
def Ox(a b:zM->qMB->Run):zM->qMB->Run:=λrd h sl hs K=>a rd h sl hs (NV (b rd h) K)
def Nz(c:Opd)(a b:zM->qMB->Run):zM->qMB->Run:=λrd h sl hs K=>q9Z c (a rd h) (b rd h) sl hs K
def qcc(id:Z)(b:zM->qMB->Run):zM->qMB->Run:=λrd h sl hs K=>b rd h sl hs (qCY id K)
def Nv(h q:F Z)(b:zM->qMB->Run):zM->qMB->Run:=λrd u sl hs K=>M8 h q (b rd u) sl hs K
def Nt(P:zt)(H:qOA)(g:Opd)(ps:F Z)(q u:zM->qMB->Run):zM->qMB->Run:=λrd h sl hs K=>match rd with
 |true=>zV
 |false=>g.k hs.rs sl λw=>qhY P H w ps (q I h) (u I h) h sl hs K
def Ny(id:Z):zM->qMB->Run:=λ_ _ sl hs K=>K (.exit id) sl hs
def Oy:zM->qMB->Run:=λ_ _ sl hs K=>K .ret sl hs
def qjZ(l:Z)(R:Run)(K:Ed):Ed:=λe sl hs=>match e with
 |.normal=>K .normal sl hs
 |.exit n=>K (.exit n) sl hs
 |.ret=>K .ret sl hs
 |.goto n=>match zAP n l with
  |true=>R sl hs K
  |false=>K (.goto n) sl hs
def qCQ(K:Ed):Ed:=λe sl hs=>match e with
 |.normal=>K .normal sl hs
 |.exit n=>K (.exit n) sl hs
 |.ret=>K .ret sl hs
 |.goto _=>zV
def Nx(l:Z):zM->qMB->Run:=λ_ _ sl hs K=>K (.goto l) sl hs
def Nw(l:Z)(b r:zM->qMB->Run):zM->qMB->Run:=λrd h sl hs K=>b rd h sl hs (qjZ l (r rd h) K)
def qac(b:zM->qMB->Run):zM->qMB->Run:=λrd h sl hs K=>b rd h sl hs (qCQ K)
def S(P:zt)(H:qOA)(c:Bu):zM->qMB->Run:=
 Bu.rec (motive:=λ_=>zM->qMB->Run) qZc (λq=>Oz P H q) (λh t=>qCV P H h t) (λ_ _ a b=>Ox a b) (λc _ _ a b=>Nz c a b) (λid _ b=>qcc id b)
  (λu h _ b=>Nv u h b) (λg w _ _ a b=>Nt P H g w a b) (λid=>Ny id) Oy (λ_=>qZc) (λl=>Nx l) (λl _ _ b r=>Nw l b r) (λ_ b=>qac b) c
def q1G:Bu->F Z
 |.seq a b=>q1G a++q1G b
 |.label l=>[l]
 |_=>[]
def qbF:Bu->F Z
 |.seq a b=>qbF a++qbF b
 |.cond _ a b=>qbF a++qbF b
 |.block _ b=>qbF b
 |.loop _ _ b=>qbF b
 |.goto l=>[l]
 |_=>[]
def qcF:Bu->Z->zs Bu
 |.seq a b,l=>match qcF a l with
  |some r=>O (.seq r b)
  |none=>qcF b l
 |.label m,l=>if m==l then O .skip else zc
 |_,_=>zc
def GO(c0:Bu):Bu->F Z->Bu
 |b,[]=>b
 |b,l::h=>match qcF c0 l with
  |some r=>GO c0 (.jump l b r) h
  |none=>GO c0 b h
def L0(P:zt)(nt:Z)(ops:zR zDO)(al:F Z):zM:=al.all (λk=>KB ops k&&((ops[k]?).bind (q0D P nt ops)).isSome)&&decide al.Nodup
def trC(P:zt)(nt:Z):zDT->F (F Z×OI)×F (F Z)->zs (Bu×(F (F Z×OI)×F (F Z)))
 |.skip,s=>O (.skip,s)
 |.region _ u zb,s=>match qxI P nt u (zBf u.size)with
  |some l=>O (.reg l,s)
  |none=>zc
 |.region _ u I,((B,E)::C,D)=>match Fh P nt u [] E with
  |some l=>if Cu P u B zb E (zAU u.size zb)&&L0 P nt u B&&qkJ u then O (.Kp (DZ u B) l,(C,D))else zc
  |none=>zc
 |.seq a b,s=>match trC P nt a s with
  |some (w,q)=>match trC P nt b q with
   |some (h,A)=>O (.seq w h,A)
   |none=>zc
  |none=>zc
 |.cond c a b,s=>match trC P nt a s with
  |some (w,q)=>match trC P nt b q with
   |some (h,A)=>O (.cond (qIA c) w h,A)
   |none=>zc
  |none=>zc
 |.block id b,s=>match trC P nt b s with
  |some (h,q)=>O (.block id h,q)
  |none=>zc
 |.loop b,(C,H::D)=>match trC P nt b (C,D)with
  |some (h,q)=>if H.all (λn=>(Bt h).contains n)then O (.loop H (Bt h).eraseDups h,q)else zc
  |none=>zc
 |.rangeFunc g L M Q,s=>match trC P nt M s with
  |some (w,q)=>match trC P nt Q q with
   |some (h,A)=>if L.toList.all (λn=>decide (n<nt))then O (.MF (qIA g) L.toList w h,A)else zc
   |none=>zc
  |none=>zc
 |.exit id,s=>O (.exit id,s)
 |.ret,s=>O (.ret,s)
 |.label l,s=>O (.label l,s)
 |.goto l,s=>O (.goto l,s)
 |.scope b,s=>match trC P nt b s with
  |some (h,q)=>O (.scope (GO h h ((q1G h).filter λl=>(qbF h).contains l)),q)
  |none=>zc
 |_,_=>zc
def q5J:∀{u:F Z}{sl:Sl}{k:F SV->Prop},I0 u sl k->∃vs,k vs/\vs.length=u.length/\∀(i:Z)n,u[i]?=O n->∃x,vs[i]?=O x/\AS sl n=O x
 |[],_,_,h=>⟨[],h,rfl,λi n q=>by simp at q⟩
 |n::r,sl,k,h=>by
  simp only[I0]at h;split at h
  .rename_i x w;obtain⟨vs,A,B,C⟩:=q5J h;refine⟨x::vs,A,by simp[B],λi m q=>?_⟩;cases i with
   |zero=>simp at q;subst q;exact⟨x,rfl,w⟩
   |succ i=>exact C i m (by simpa using q)
  .exact h.elim
def qfE{B}:∀{sl:Sl}{k:Sl->Prop},qGP B sl k->∃sl0,k sl0/\∀n x,AS sl0 n=O x->n∉B/\AS sl n=O x
 |[],k,q=>⟨[],q,λn x h=>by simp[AS]at h⟩
 |(m,y)::r,k,q=>by
  simp only[qGP]at q;split at q
  .rename_i hm;obtain⟨sl0,w,A⟩:=qfE q;refine⟨sl0,w,λn x h=>?_⟩;obtain⟨C,D⟩:=A n x h;refine⟨C,?_⟩;simp only[AS];cases u:zAP m n with
   |true=>obtain rfl:=zP u;exact absurd (Fx.1 hm) C
   |false=>exact D
  .rename_i hm;obtain⟨sl0,w,A⟩:=qfE q;refine⟨_,w,λn x h=>?_⟩;simp only[AS]at h⊢;cases u:zAP m n with
   |true=>
    rw[u]at h;obtain rfl:=zP u;exact⟨λE=>(by rw[Fx.2 E]at hm;cases hm),h⟩
   |false=>rw[u]at h;exact A n x h
def qMJ:∀(q:F Z)(vs:F SV)(sl:Sl)(n:Z)(x:SV),vs.length=q.length->AS (Gt q vs sl) n=O x->(∃i:Z,q[i]?=O n/\vs[i]?=O x)\/(n∉q/\AS sl n=O x)
 |[],_,sl,n,x,u,h=>.inr ⟨sd,by simpa[Gt,Gt.KR]using h⟩
 |_::_,[],sl,n,x,u,h=>by simp at u
 |m::q,v::vs,sl,n,x,u,h=>by
  simp only[Gt,Gt.KR,AS]at h;cases w:zAP m n with
  |true=>rw[w]at h;obtain rfl:=zP w;exact .inl ⟨0,rfl,h⟩
  |false=>
   rw[w]at h;rcases qMJ q vs sl n x (by simpa using u) h with⟨i,A,B⟩|⟨A,B⟩
   .exact .inl ⟨i+1,A,B⟩
   .exact .inr ⟨by simp[A,zBw (zCf w)],B⟩
def qvB{id L}{busy}{new}:∀{rs:F Res}{k:F Res->Prop},qyL id L busy new rs k->∃q u r,rs=q++.lp id L r (if busy then .busy else .ready)::u/\k (q++.lp id L r new::u)
 |[],_,h=>h.elim
 |.lp m l r j::rs,k,h=>by
  simp only[qyL]at h;cases M:zAP m id with
  |true=>
   rw[M]at h;obtain rfl:=zP M;obtain⟨rfl,h⟩:=h;cases busy with
   |true=>
    simp only at h;split at h
    .exact⟨[],rs,r,rfl,h⟩
    .exact h.elim
   |false=>
    simp only at h;split at h
    .exact⟨[],rs,r,rfl,h⟩
    .exact h.elim
  |false=>
   rw[M]at h;obtain⟨q,u,w,e,A⟩:=qvB h;exact⟨.lp m l r j::q,u,w,by rw[e];rfl,A⟩
 |.blk B D E H::rs,k,h=>by
  obtain⟨q,u,w,e,A⟩:=qvB (k:=λC=>k (.blk B D E H::C)) h;exact⟨_::q,u,w,by rw[e];rfl,A⟩
 |.row B D E H P Q R::rs,k,h=>by
  obtain⟨q,u,w,e,A⟩:=qvB (k:=λC=>k (.row B D E H P Q R::C)) h;exact⟨_::q,u,w,by rw[e];rfl,A⟩
 |.mk B::rs,k,h=>by
  obtain⟨q,u,w,e,A⟩:=qvB (k:=λC=>k (.mk B::C)) h;exact⟨_::q,u,w,by rw[e];rfl,A⟩
 |.mp B D E H::rs,k,h=>by
  obtain⟨q,u,w,e,A⟩:=qvB (k:=λC=>k (.mp B D E H::C)) h;exact⟨_::q,u,w,by rw[e];rfl,A⟩
def qcD{id P}:∀{rs:F Res}{k:LpS->F Res->Prop},qJS id P rs k->∃q u r j,rs=q++.lp id P r j::u/\k j (q++u)
 |[],_,h=>h.elim
 |.lp m l r j::rs,k,h=>by
  simp only[qJS]at h;cases M:zAP m id with
  |true=>
   rw[M]at h;obtain rfl:=zP M;obtain⟨rfl,h⟩:=h;exact⟨[],rs,r,j,rfl,h⟩
  |false=>
   rw[M]at h;obtain⟨q,u,w,A,e,B⟩:=qcD h;exact⟨.lp m l r j::q,u,w,A,by rw[e];rfl,B⟩
 |.blk C E H L::rs,k,h=>by
  obtain⟨q,u,w,A,e,B⟩:=qcD (k:=λj D=>k j (.blk C E H L::D)) h;exact⟨_::q,u,w,A,by rw[e];rfl,B⟩
 |.row C E H L Q R T::rs,k,h=>by
  obtain⟨q,u,w,A,e,B⟩:=qcD (k:=λj D=>k j (.row C E H L Q R T::D)) h;exact⟨_::q,u,w,A,by rw[e];rfl,B⟩
 |.mk C::rs,k,h=>by
  obtain⟨q,u,w,A,e,B⟩:=qcD (k:=λj D=>k j (.mk C::D)) h;exact⟨_::q,u,w,A,by rw[e];rfl,B⟩
 |.mp C E H L::rs,k,h=>by
  obtain⟨q,u,w,A,e,B⟩:=qcD (k:=λj D=>k j (.mp C E H L::D)) h;exact⟨_::q,u,w,A,by rw[e];rfl,B⟩
def mkD(b:Z):Deferred:={target:=.collected b,args:=#[]}
def Mks(h fr:Fr)(D:F Deferred):Prop:=∃bs:F Z,D=bs.map mkD/\bs.Nodup/\∀b∈bs,¬h.pr b/\¬fr.g0 b/\fr.pr b/\fr.w.heap[b]?=O (.deferred (O []))
def R0(q:Fr)(nt:Z)(A:F Z)(t:zR zg)(sl:Sl)(hs:Hs)(a:zDN)(w:zp):Prop:=∃h u,q.le h/\Aq h hs w/\Sim nt ⟨u,A,t⟩ sl a/\Mks q h u
def GZ(w:Fr)(nt:Z)(A:F Z)(t:zR zg)(K:Ex->Sl->Hs->Prop):Exit->zDN->zp->Prop:=λe a B=>
 ∃h q u,h.to=e/\K h q u/\R0 w nt A t q u a B
def R0.out{A:Fr}{nt}{B u}{t t'}{sl}{hs}{a}{w}(h:R0 A nt B t sl hs a w)(k:∀n∈B,n∈u)(D:∀n,n∉u->t[n]?=t'[n]?):R0 A nt u t' sl hs a w:=by
 obtain⟨L,M,Q,R,q,T⟩:=h;exact⟨L,M,Q,R,⟨q.size,q.defers,q.Au,λn C=>(q.off n λh=>C (k n h)).trans (D n C)⟩,T⟩
def qSL{nt}{D}{sl}{a}{c}{A B}{u}{K}(h:q9Z (qIA c) A B sl u K)(hs:Sim nt D sl a):(a.eval c=.bool I/\∃sl',A sl' u K/\Sim nt D sl' a)\/(a.eval c=.bool zb/\∃sl',B sl' u K/\Sim nt D sl' a):=by
 cases c with
 |tmp n=>
  simp only[qIA,q9Z]at h;split at h
  .rename_i q;exact .inl ⟨qFA (hs.Au n _ q),sl,h,hs⟩
  .rename_i q;exact .inr ⟨qFA (hs.Au n _ q),sl,h,hs⟩
  .rename_i x q;have:=qFA (hs.Au n _ q);cases x with
   |true=>exact .inl ⟨this,_,h.1 rfl,hs.same q rfl⟩
   |false=>exact .inr ⟨this,_,h.2 rfl,hs.same q rfl⟩
  .exact h.elim
 |const v=>
  simp only[qIA]at h;split at h
  .rename_i x;cases x with
   |true=>exact .inl ⟨rfl,sl,h,hs⟩
   |false=>exact .inr ⟨rfl,sl,h,hs⟩
  .exact h.elim
 |global g=>exact h.elim
 |func f=>exact h.elim
def qnN{l q}(h:qDA l=qDA q){i:Z}{x}(u:l[i]?=O x):∃y,q[i]?=O y/\Ae y=Ae x:=by
 rw[qiA,qiA]at h;have:(q.map Ae)[i]?=O (Ae x):=by rw[<-h];simp[u]
 simpa using this
def qiI:∀{ps:F Z}{args:F SV}{sl:Sl}{k:Sl->Prop}{nt:Z}{D:Pin}{t:zR zg}{q:F Deferred},q5L ps args sl k->(∀n∈ps,n<nt)->(∀n∈ps,n∈D.ds)->Sim nt D sl ⟨t,q⟩->args.length=ps.length/\∃sl',k sl'/\Sim nt D sl' ⟨(ps.zip (qDA args)).foldl (λtmps(p,v)=>tmps.setIfInBounds p v) t,q⟩
 |[],[],sl,k,nt,D,t,q,h,u,w,hs=>⟨rfl,sl,h,hs⟩
 |n::L,x::M,sl,k,nt,D,t,q,h,u,w,hs=>by
  simp only[q5L]at h;obtain⟨A,sl',B,C⟩:=qiI (t:=t.setIfInBounds n (Ae x)) h (λm hm=>u m (by simp[hm])) (λm hm=>w m (by simp[hm])) (hs.put (u n sd) (w n sd) x);exact⟨by simp[A],sl',B,C⟩
 |[],_::_,sl,k,nt,D,t,q,h,u,w,hs=>h.elim
 |_::_,[],sl,k,nt,D,t,q,h,u,w,hs=>h.elim
def qyD{P:zt}(E:Env P)(H:qOA)(nt:Z)(c:zDT):Prop:=∀(h:Fr)(r:zs Z)(rd:zM)(w:qMB)(q:F Z)(t:zR zg)(u:Bu)(s B:F (F Z×OI)×F (F Z))(sl:Sl)(hs:Hs)(K:Ex->Sl->Hs->Prop)(a:zDN)(A:zp),h.has E->
 trC P nt c s=O (u,B)->(∀d∈Bt u,d∈q)->(rd=zb->r=zc)->Ga E h w->R0 h nt q t sl hs a A->S P H u rd w sl hs K->c.wpX E r (GZ h nt q t K) a A
section
variable{P:zt}{E:Env P}{H:qOA}{nt:Z}
def qtM(hm:P.follows .mixedOrders=I)(ad:∀fr:Fr,fr.has E->CA E fr H)(id)(ops)(d):qyD E H nt (.region id ops d):=by
 intro R r rd aj u t aD s aE sl hs K a M T h U aF ak al q;obtain⟨fr,D,C,L,w,ae⟩:=al;cases d with
 |false=>
  simp only[trC]at h;split at h
  .rename_i l V;simp at h;obtain⟨rfl,rfl⟩:=h;refine qME (qOG (Q:=GZ R nt u t K .normal) (T.up C) (fr:=fr) (D:=⟨D,u,t⟩) (ad fr (T.up C)) (ak.up C) (K:=λsl hs=>K .normal sl hs) ?_ _ l sl hs a M V U w L q);exact λsl hs a M A W L=>⟨.normal,sl,hs,rfl,A,fr,D,C,L,W,ae⟩
  .cases h
 |true=>
  obtain⟨af,aG⟩:=s;cases af with
  |nil=>simp[trC]at h
  |cons ag af=>
   obtain⟨Y,ag⟩:=ag;simp only[trC]at h;split at h
   .rename_i l V;split at h
    .rename_i ah;simp at h;obtain⟨rfl,rfl⟩:=h;simp only[zj]at ah;obtain⟨⟨an,aa⟩,ao⟩:=ah;simp only[L0,zj,zx]at aa
     have ap:JJ P nt ⟨D,u,t⟩ ops Y:=λk A=>by
      have:=(zAh.1 aa.1) k A;simp only[zj]at this;obtain⟨aq,ab⟩:=zCv.1 this.2;obtain⟨o,ar,ab⟩:=zAD.1 ab;refine⟨this.1,⟨o,aq,ar,ab⟩,λaH d au B=>U d (zL.2 (.inl (zBX.2 ⟨k,A,by simp[au,B]⟩)))⟩
     have av:∀d∈q7B l,d∈u:=λd B=>U d (zL.2 (.inr B))
     have go:∀sl,NoM (DZ ops Y) sl->Sim nt ⟨D,u,t⟩ sl a->C0 P (okH P) H hs.lo l [] sl hs (λsl hs=>K .normal sl hs)->(Code.region id ops I).wpX E r (GZ R nt u t K) a M:=λsl aw w q=>by
      refine q2C hm (qCI (r:=r) (fr:=fr) (D:=⟨D,u,t⟩) (T.up C) (qaA E) ad (K:=λsl hs=>K .normal sl hs) (Q:=GZ R nt u t K .normal) hm ao ap aa.2 ?_ an V av aw w L q);exact λsl hs a M A W L=>⟨.normal,sl,hs,rfl,A,fr,D,C,L,W,ae⟩
     obtain⟨ax,ay,az,aA⟩:=hs;have q:qCV P H (DZ ops Y) l rd aj sl ⟨ax,ay,az,aA⟩ K:=q;unfold qCV at q;simp only at q;split at q
     .rename_i ac;exact go sl (by rw[ac];intro d B;cases B) w q
     .rename_i n aI ac;obtain⟨sl0,A,ai⟩:=qfE q
      refine go sl0 (by rw[ac];intro d B;cases aB:AS sl0 d with
       |none=>rfl
       |some x=>exact absurd B (ai d x aB).1) ⟨w.size,w.defers,λn x aC=>w.Au n x (ai n x aC).2,w.off⟩ A
    .cases h
   .cases h
def qsM{x y}(U:qyD E H nt x)(V:qyD E H nt y):qyD E H nt (.seq x y):=by
 intro C r rd D L t ag s ah sl hs K a W M h Q R T Y aa;simp only[trC]at h;split at h
 .rename_i ai aj ab;split at h
  .rename_i ak al ac;simp at h;obtain⟨rfl,rfl⟩:=h;refine q6H (q3B (U C r rd D L t _ _ _ sl hs _ a W M ab (λd B=>Q d (by simp[Bt,B])) R T Y aa) ?_);rintro e ad ae ⟨af,q,u,rfl,w,A⟩;cases af with
   |normal=>exact V C r rd D L t _ _ _ q u K ad ae M ac (λd B=>Q d (by simp[Bt,B])) R T A w
   |exit n=>exact⟨.exit n,q,u,rfl,w,A⟩
   |ret=>exact⟨.ret,q,u,rfl,w,A⟩
   |goto n=>exact⟨.goto n,q,u,rfl,w,A⟩
  .cases h
 .cases h
def qdR{c}{x y}(ae:qyD E H nt x)(af:qyD E H nt y):qyD E H nt (.cond c x y):=by
 intro M r rd q Q t ao s ap sl hs K a R T h U V W ag ah;simp only[trC]at h;split at h
 .rename_i ai aq aj;split at h
  .rename_i ak ar al;simp at h;obtain⟨rfl,rfl⟩:=h;obtain⟨Y,aa,ab,ac,an,ad⟩:=ag;rcases qSL (A:=S P H ai rd q) (B:=S P H ak rd q) ah an with⟨u,w,C,D⟩|⟨u,w,C,D⟩
   .exact qKH u (ae M r rd q Q t _ _ _ w hs K a R T aj (λd L=>U d (by simp[Bt,L])) V W ⟨Y,aa,ab,ac,D,ad⟩ C)
   .exact qkG u (af M r rd q Q t _ _ _ w hs K a R T al (λd L=>U d (by simp[Bt,L])) V W ⟨Y,aa,ab,ac,D,ad⟩ C)
  .cases h
 .cases h
def qZO{id}{x}(C:qyD E H nt x):qyD E H nt (.block id x):=by
 intro D r rd L M t ad s ae sl hs K a Q R q T U V W Y;simp only[trC]at q;split at q
 .rename_i af ag aa;simp at q;obtain⟨rfl,rfl⟩:=q;refine qdS (q3B (C D r rd L M t _ _ _ sl hs _ a Q R aa (λd ab=>T d (by simpa[Bt]using ab)) U V W Y) ?_);rintro e ah ai ⟨ac,u,w,rfl,h,A⟩;cases ac with
  |normal=>exact⟨.normal,u,w,rfl,h,A⟩
  |exit n=>
   simp only[qCY]at h;simp only[Ex.to,Exit.inBlock];cases B:zAP n id with
   |true=>rw[B]at h;rw[zk (zP B)];exact⟨.normal,u,w,rfl,h,A⟩
   |false=>rw[B]at h;rw[zh (zCf B)];exact⟨.exit n,u,w,rfl,h,A⟩
  |ret=>exact⟨.ret,u,w,rfl,h,A⟩
  |goto n=>exact⟨.goto n,u,w,rfl,h,A⟩
 .cases q
def qbR{x}(ag:qyD E H nt x):qyD E H nt (.loop x):=by
 intro ab r rd az aA t bb s bc sl hs K a ac aB u aC aD aE aF aG;obtain⟨bd,aq⟩:=s;cases aq with
 |nil=>simp[trC]at u
 |cons A aq=>
 simp only[trC]at u;split at u
 .rename_i L be aH;split at u
  .rename_i aI;simp at u;obtain⟨rfl,rfl⟩:=u;have bf:∀n∈A,n∈Bt L:=by simpa using aI
   obtain⟨T,aJ,aK,aL,U,aM⟩:=aF;obtain⟨aN,B,bg,aO⟩:=q5J (k:=λaN=>qGP (Bt L).eraseDups sl λsl0=>_) aG;obtain⟨sl0,⟨bh,C,ah,J,V,aP,aQ⟩,aR⟩:=qfE B;obtain⟨ad,ar,ai,aT⟩:=aP T ac aL
   have au:∀n x,AS sl0 n=O x->n∉Bt L/\a.tmps[n]?=O (Ae x):=λn x ag=>by
    obtain⟨B,h⟩:=aR n x ag;exact⟨by simpa using B,U.Au n x h⟩
   have aj:(C ad).length=A.length:=by
    have:=zK List.length ar;rw[qiA,qiA,zAA,zAA]at this;omega
   refine qcK (λm aU aV=>∃x,(C x).length=A.length/\J x/\V x=m/\R0 ab nt (Bt L) a.tmps (Gt A (C x) sl0) (ah x) aU aV) (V ad) ⟨ad,aj,ai,rfl,T,aJ,aK,aT,⟨U.size,U.defers,λn x D=>?_,λn _=>rfl⟩,aM⟩ ?_
   .rcases qMJ A (C ad) sl0 n x aj D with⟨i,B,h⟩|⟨_,h⟩
    .obtain⟨y,ak,al⟩:=aO i n B;obtain⟨z,W,Y⟩:=qnN ar h;rw[ak]at W;cases W;rw[<-Y];exact U.Au n y al
    .exact(au n x h).2
   .rintro m aW aX ⟨an,aj,ai,rfl,aY⟩;refine q3B (ag ab r rd az (Bt L) a.tmps _ _ _ _ (ah an) _ aW aX aB aH (λd aZ=>aZ) aD aE aY (aQ an ai)) ?_
    have ao:∀{e ap ae}(M:Ex)(w:Sl)(q:Hs),M.to=e->R0 ab nt (Bt L) a.tmps w q ap ae->K M w q->GZ ab nt aA t K e ap ae:=λM w q Y Q R=>
     ⟨M,w,q,Y,R,Q.out (λn D=>aC n (by simpa[Bt]using D)) λn D=>U.off n D⟩
    rintro e ap ae ⟨M,w,q,rfl,R,Q⟩;cases M with
    |normal=>
     obtain⟨av,a0,bi,a1⟩:=q5J (k:=λav=>∀T ac,Aq T q ac->∃y,qDA (C y)=qDA av/\J y/\V y<V an/\Aq T (ah y) ac) R;obtain⟨aw,a2,a3,a4,aa,a5⟩:=Q;obtain⟨af,ax,a6,a7,a8⟩:=a0 aw ae a4
     have ay:(C af).length=A.length:=by
      have:=zK List.length ax;rw[qiA,qiA,zAA,zAA]at this;omega
     refine⟨V af,a7,af,ay,a6,rfl,aw,a2,a3,a8,⟨aa.size,aa.defers,λn x D=>?_,aa.off⟩,a5⟩;rcases qMJ A (C af) sl0 n x ay D with⟨i,B,h⟩|⟨_,h⟩
     .obtain⟨y,ak,al⟩:=a1 i n B;obtain⟨z,W,Y⟩:=qnN ax h;rw[ak]at W;cases W;rw[<-Y];exact aa.Au n y al
     .obtain⟨a9,ba⟩:=au n x h;rw[aa.off n a9];exact ba
    |exit n=>exact ao (.exit n) w q rfl Q R
    |ret=>exact ao .ret w q rfl Q R
    |goto n=>exact ao (.goto n) w q rfl Q R
  .cases u
 .cases u
end
end Go.Proofs.YtlmhpamhhgogaaaGreat.Sx
namespace Go.Proofs.YtlmhpamhhgogaaaGreat.Sx
open Go.Conc (G)
section
variable{P:zt}{E:Env P}
def qBE(l):(Instr.getLoop l).Calm P:=by unfold Instr.getLoop;exact DM
def qjE(b):(Instr.takeDeferred b).Calm P:=by unfold Instr.takeDeferred;exact DM
def qQK(l):(Instr.beginRound l).Calm P:=by
 unfold Instr.beginRound;refine qEA (qBE _) λr=>qEA (qKB _ _) λ_=>?_;split<;>first|exact trivial|exact qQA _
def qUD(l)(j):(zDV l j).Calm P:=by
 unfold zDV;exact qEA (qBE _) λr=>qEA (qKB _ _) λ_=>trivial
def q0N(l):(Instr.endLoop l).Calm P:=by
 unfold Instr.endLoop;refine qEA (qBE _) λr=>?_;exact DM
def qmK(fn)(tmps)(ps)(assign h)(r):(Instr.enterLoop fn tmps ps assign h r).Calm P:=by
 unfold Instr.enterLoop;dsimp only;split
 .exact qEA (qBE _) λ_=>qEA trivial λ_=>qEA (qLB _) λ_=>trivial
 .exact qEA (qLB _) λ_=>qEA trivial λ_=>qEA (qLB _) λ_=>trivial
def qrI(fn)(tmps):(results fn tmps).Calm P:=by
 unfold results;refine qEA (qvN (λx=>?_) _) λ_=>?_
 .cases x<;>exact DM
 .exact qHA _
def evs(P:zt)(fn:zBa){h:Type}(s:Sem h)(w:zp):zR Event:=Go.seen P fn (s.events P w #[])
def qQC{fn}{q:Type}{s:Sem q}(h:s.Calm P)(w):Ch (evs P fn s w):=by
 have:=Calm.hear (P:=P) h w #[] qQD;rw[zBs]at this;exact this.seen
section
variable{b c:zAt}{a:zDN}{k:F Item}{cs:F zAt}{w w':zp}{main:zM}
def qmL{l}(hb:b.roundOf=O l)(h:(Instr.beginRound l).run P w=.ok () w'):
  zAE P main (G (b.atR a (.beginRound::k)) cs) w=.go (G (b.atR a k) cs) w' (lst P (b.atR a (.beginRound::k)) (do Instr.beginRound l;pure .skip) w):=by
 have q:(do Instr.beginRound l;pure Next.skip:Sem Next).run P w=.ok .skip w':=by
  rw[zAa,h];rfl
 have:=qYI (P:=P) (fr:=b.atR a (.beginRound::k)) (cs:=cs) (s:=(do Instr.beginRound l;pure Next.skip:Sem Next)) q
 have e:zAE P main (G (b.atR a (.beginRound::k)) cs) w=stepG.apply P I (b.atR a (.beginRound::k)) cs zc (do Instr.beginRound l;pure .skip) w:=by
  simp[G,zAE,zBl,zAQ,hb]
 rw[e,this];rfl
def qmM{l}{v}(hb:b.roundOf=O l)(hk:b.kind=.normal)(h:(zDV l zc).run P w=.ok v w'):zAE P main (G (b.atR a []) (c::cs)) w=.go (G (c.finish v) cs) w' (evs P b.fn (zDV l zc) w):=by
 simp[G,zAE,zBl,zAQ,hb,hk,zBs,h,doReturn,zBF,evs]
def qlM{l}{v}(hb:b.roundOf=O l)(hk:b.kind=.normal)(h:(zDV l (O .ret)).run P w=.ok v w'):zAE P main (G (b.atR a (.code .ret::k)) (c::cs)) w=.go (G (c.finish v) cs) w' (evs P b.fn (zDV l (O .ret)) w):=by
 simp[G,zAE,zBl,zAQ,hb,hk,zBs,h,doReturn,zBF,evs]
def qjL{l id}{v}(hb:b.roundOf=O l)(hk:b.kind=.normal)(h:exitTo id k=zc)(q:(zDV l (O (.exit id))).run P w=.ok v w'):zAE P main (G (b.atR a (.code (.exit id)::k)) (c::cs)) w=.go (G (c.finish v) cs) w' (evs P b.fn (zDV l (O (.exit id))) w):=by
 simp[G,zAE,zBl,zAQ,hb,hk,h,zBs,q,doReturn,zBF,evs]
def qiL{l t}{v}(hb:b.roundOf=O l)(hk:b.kind=.normal)(h:gotoIn t k=zc)(q:(zDV l (O (.goto t))).run P w=.ok v w'):zAE P main (G (b.atR a (.code (.goto t)::k)) (c::cs)) w=.go (G (c.finish v) cs) w' (evs P b.fn (zDV l (O (.goto t))) w):=by
 simp[G,zAE,zBl,zAQ,hb,hk,h,zBs,q,doReturn,zBF,evs]
def qSJ{l}{jump}(h:(Instr.endLoop l).run P w=.ok jump w'):zAE P main (G (b.atR a (.endRangeFunc l::k)) cs) w=.go (G (b.atR a ((jump.map Item.code).toList++k)) cs) w' (evs P b.fn (Instr.endLoop l) w):=by
 simp[G,zAE,zBl,zAQ,zBs,h,zBF,evs]
def qnM{g}{ps}{assign h}{l}{mark}{w₁ q}{f}{args}
  (A:(Instr.enterLoop b.fn a.tmps ps assign h b.roundOf).run P w=.ok (l,mark) w₁)
  (hc:(do let d <-resolve a.eval (rangeCall g l) 0;invoke d.target d.args:Sem Next).run P w₁=.ok (.enter f args) q):
  zAE P main (G (b.atR a (.code (.rangeFunc g ps assign h)::k)) cs) w=.go (G (zAW P f args .normal) (b.atR {a with defers:=mark++a.defers} (.inRangeFunc l::k)::cs)) q
   (evs P b.fn (Instr.enterLoop b.fn a.tmps ps assign h b.roundOf) w++lst P (b.atR {a with defers:=mark++a.defers} (.inRangeFunc l::k)) (do let d <-resolve a.eval (rangeCall g l) 0;invoke d.target d.args) w₁):=by
 have u:=Frame.eval_atR b {a with defers:=mark++a.defers} (.inRangeFunc l::k);simp only[zAQ]at u;have:=qGH (P:=P) (fr:=b.atR {a with defers:=mark++a.defers} (.inRangeFunc l::k)) (cs:=cs) (λ_ _ _ _ e=>by simp[zAQ]at e) hc;simp only[zAQ]at this;simp only[G,zAE,zBl,zAQ,zBs,A,u,evs];rw[show(({tmps:=a.tmps,defers:=mark++a.defers}:zDN).eval)=a.eval from by funext x;cases x<;>rfl];rw[this];rfl
def qdI{fr}{r}{xs}{h calls}(hm:fr.mode=.returning)(hd:fr.defers={target:=.collected r,args:=xs}::h)(hk:(Instr.takeDeferred r).run P w=.ok calls w'):zAE P main (G fr cs) w=.go (G {fr with defers:=calls++h} cs) w' (evs P fr.fn (Instr.takeDeferred r) w):=by
 simp[G,zAE,unwind,hm,hd,zBs,hk,zBF,evs]
def qxV{fr}{fn}{v}(hm:fr.mode=.returning)(hd:fr.defers=[])(hk:fr.kind=.normal)(h:P.funcs[fr.fn]?=O fn)(q:(results fn fr.tmps).run P w=.ok v w):zAE P main (G fr (c::cs)) w=.go (G (c.finish v) cs) w (evs P fr.fn (results fn fr.tmps) w):=by
 simp[G,zAE,unwind,doReturn,hm,hd,hk,h,zBs,q,zBF,evs]
def q2P{fr}{k}{h xs}{q}{args}(hm:fr.mode=.returning)(hd:fr.defers={target:=.fn (.func k) h,args:=xs}::q)(u:(callFunc k (xs++h)).run P w=.ok (.enter k args) w):zAE P main (G fr cs) w=.go (G (zAW P k args .deferred) ({fr with defers:=q}::cs)) w (evs P fr.fn (callFunc k (xs++h)) w):=by
 simp[G,zAE,unwind,hm,hd,callDeferred,invoke,zBs,u,zBF,evs]
def q3S{fr}{fn}{v}(hm:fr.mode=.returning)(hd:fr.defers=[])(hk:fr.kind=.deferred)(h:P.funcs[fr.fn]?=O fn)(q:(results fn fr.tmps).run P w=.ok v w)(hc:c.mode=.returning):zAE P main (G fr (c::cs)) w=.go (G c cs) w (evs P fr.fn (results fn fr.tmps) w):=by
 simp[G,zAE,unwind,doReturn,hm,hd,hk,h,zBs,q,zBF,evs,hc]
end
def qiR(E:Env P)(l:Z)(R:Ending->zp->Prop):Exit->zDN->zp->Prop
 |.normal,_,w=>∀d,∃v w',(zDV l zc).run P (w.at d)=.ok v w'/\BY E.N (w.at d) w'/\R (.returned v) w'
 |.ret,_,w=>∀d,∃v w',(zDV l (O .ret)).run P (w.at d)=.ok v w'/\BY E.N (w.at d) w'/\R (.returned v) w'
 |.exit id,_,w=>∀d,∃v w',(zDV l (O (.exit id))).run P (w.at d)=.ok v w'/\BY E.N (w.at d) w'/\R (.returned v) w'
 |.goto t,_,w=>∀d,∃v w',(zDV l (O (.goto t))).run P (w.at d)=.ok v w'/\BY E.N (w.at d) w'/\R (.returned v) w'
 |_,_,_=>zV
def qxM{l}{f}{tmps}{assign D}{w}{R}(h:assign.wpX E (O l) (Exit.then (λQ w₁=>∀d,∃H,(Instr.beginRound l).run P (w₁.at d)=.ok () H/\BY E.N (w₁.at d) H/\D.wpX E (O l) (qiR E l R) Q H) (λ_ _ _=>zV)) {tmps:=tmps,defers:=[]} w):Ec E l f tmps assign D w R:=by
 intro c cs L;let b:zAt:={(default:zAt)with fn:=f,kind:=.normal,roundOf:=O l}
 have U:Frame.round l f tmps assign D .normal=b.atR {tmps:=tmps,defers:=[]} [.code assign,.beginRound,.code D]:=by
  simp[Frame.round,zAQ,b]
 rw[U];refine h b [.beginRound,.code D] (c::cs) rfl λe Q w₁ u=>?_;cases e with
 |normal=>
  refine .one rfl λd=>?_;obtain⟨H,V,A,W⟩:=u d;refine⟨_,H,_,qmL rfl V,A,q5E (qEA (qQK _) λ_=>qHA _) _,W b [] (c::cs) rfl λe Y w' u=>?_⟩;cases e with
  |normal=>
   refine .one rfl λd=>?_;obtain⟨v,q,B,A,C⟩:=u d;exact⟨_,q,_,qmM rfl rfl B,A,qQC (qUD _ _) _,L v q C⟩
  |ret=>
   refine λT=>.one rfl λd=>?_;obtain⟨v,q,B,A,C⟩:=u d;exact⟨_,q,_,qlM rfl rfl B,A,qQC (qUD _ _) _,L v q C⟩
  |exit id=>
   refine λT M=>.one rfl λd=>?_;obtain⟨v,q,B,A,C⟩:=u d;exact⟨_,q,_,qjL rfl rfl M B,A,qQC (qUD _ _) _,L v q C⟩
  |goto t=>
   refine λT M=>.one rfl λd=>?_;obtain⟨v,q,B,A,C⟩:=u d;exact⟨_,q,_,qiL rfl rfl M B,A,qQC (qUD _ _) _,L v q C⟩
  |panic _=>trivial
  |outgrown=>trivial
 |exit id=>exact u.elim
 |goto t=>exact u.elim
 |ret=>exact u.elim
 |panic _=>trivial
 |outgrown=>trivial
def qnR(E:Env P)(r:zs Z)(l:Z)(Q:Exit->zDN->zp->Prop)(a':zDN):Ending->zp->Prop
 |.returned _,q=>∀d,∃jump h,(Instr.endLoop l).run P (q.at d)=.ok jump h/\BY E.N (q.at d) h/\
   (match jump with
    |none=>Q .normal a' h
    |some c=>c.wpX E r Q a' h)
 |_,_=>True
def qeL{r}{g}{ps}{assign A}{Q}{a}{w}
  (h:∀fn d,∃(l:Z)(mark:F Deferred)(w₁:zp)(f:zBa)(args:zR zg)(q:zp),
   (Instr.enterLoop fn a.tmps ps assign A r).run P (w.at d)=.ok (l,mark) w₁/\
   (do let d <-resolve a.eval (rangeCall g l) 0;invoke d.target d.args:Sem Next).Calm P/\
   (do let d <-resolve a.eval (rangeCall g l) 0;invoke d.target d.args:Sem Next).run P w₁=.ok (.enter f args) q/\BY E.N (w.at d) q/\
   BH E f args q (qnR E r l Q {a with defers:=mark++a.defers})):
  (Code.rangeFunc g ps assign A).wpX E r Q a w:=by
 intro b k cs D B;subst D;refine .one rfl λd=>?_;obtain⟨l,mark,w₁,f,args,q,H,L,M,u,R⟩:=h b.fn d;refine⟨_,q,_,qnM H M,u,(qQC (qmK ..) _).app (q5E L _),R _ cs λv w' T=>?_⟩;rw[finish_atR_inRangeFunc];refine .one rfl λd=>?_;obtain⟨jump,U,V,u,C⟩:=T d;refine⟨_,U,_,qSJ V,u,qQC (q0N _) _,?_⟩;cases jump with
 |none=>exact B .normal _ _ C
 |some c=>exact C b k cs rfl B
def Fy(E:Env P)(f:zBa)(args:zR zg)(w:zp)(R:zp->Prop):Prop:=
 ∀(c:zAt)(cs:F zAt),c.mode=.returning->(∀w',R w'->E.G (G c cs) w')->E.G (G (zAW P f args .deferred) (c::cs)) w
def Fy.mono{f}{args}{w}{R q}(h:Fy E f args w R)(u:∀w',R w'->q w'):Fy E f args w q:=λc cs A k=>h c cs A λw' B=>k w' (u _ B)
def qLF(E:Env P)(fn:Func)(tmps:zR zg)(R:Ending->zp->Prop):F Deferred->zp->Prop
 |[],w=>∀d,∃v,(results fn tmps).run P (w.at d)=.ok v (w.at d)/\R (.returned v) (w.at d)
 |x::q,w=>(∀d,∃r w',x.target=.collected r/\(Instr.takeDeferred r).run P (w.at d)=.ok [] w'/\BY E.N (w.at d) w'/\qLF E fn tmps R q w')\/
   ∃k h args,x.target=.fn (.func k) h/\(callFunc k (x.args++h)).Calm P/\(∀w,(callFunc k (x.args++h)).run P w=.ok (.enter k args) w)/\Fy E k args w λw'=>qLF E fn tmps R q w'
def q4G{fn}{R}:∀(h:F Deferred)(w:zp)(fr c:zAt)(cs:F zAt),fr.mode=.returning->fr.defers=h->P.funcs[fr.fn]?=O fn->fr.kind=.normal->qLF E fn fr.tmps R h w->(∀v w',R (.returned v) w'->E.G (G (c.finish v) cs) w')->E.G (G fr (c::cs)) w
 |[],w,fr,c,cs,hm,A,B,C,q,D=>.one rfl λd=>by
  obtain⟨v,H,L⟩:=q d;exact⟨_,_,_,qxV hm A C B H,.refl _,qQC (qrI ..) _,D _ _ L⟩
 |x::h,w,fr,c,cs,hm,A,B,C,q,D=>.one rfl λd=>by
  obtain⟨t,Y⟩:=x;rcases q with q|⟨k,aa,args,u,M,Q,T⟩
  .obtain⟨r,w',u,H,U,V⟩:=q d;simp only at u;subst u;exact⟨_,_,_,qdI hm A H,U,qQC (qjE _) _,q4G h w' {fr with defers:=[]++h} c cs hm rfl B C V D⟩
  .simp only at u;subst u;exact⟨_,_,_,q2P hm A (Q _),.refl _,qQC M _,Env.G.at (T {fr with defers:=h} (c::cs) hm λw' W=>q4G h w' {fr with defers:=h} c cs hm rfl B C W D) d⟩
def qaM{f}{fn}{c}{args}{w}{R}(B:P.funcs[f]?=O fn)(hb:fn.body=O c)
  (h:c.wpX E zc (λe a w=>match e with
   |.normal=>a.defers=[]/\∀d,∃v,(results fn a.tmps).run P (w.at d)=.ok v (w.at d)/\R (w.at d)
   |.ret=>a.defers=[]/\∀d,∃v,(results fn a.tmps).run P (w.at d)=.ok v (w.at d)/\R (w.at d)
   |_=>zV) {tmps:=args++zAU (fn.ntmps-args.size) zAX,defers:=[]} w):Fy E f args w R:=by
 intro C cs D H;let b:zAt:={(default:zAt)with fn:=f,kind:=.deferred,roundOf:=zc}
 have L:zAW P f args .deferred=b.atR {tmps:=args++zAU (fn.ntmps-args.size) zAX,defers:=[]} [.code c]:=by
  simp[zAW,zAQ,B,hb,b]
 rw[L]
 have out:∀(q:zAt)(w:zp),q.mode=.returning->q.defers=[]->q.kind=.deferred->q.fn=f->(∀d,∃v,(results fn q.tmps).run P (w.at d)=.ok v (w.at d)/\R (w.at d))->E.G (G q (C::cs)) w:=λq w hm M Q T A=>.one rfl λd=>by
  obtain⟨v,A,U⟩:=A d;exact⟨_,_,_,q3S hm M Q (by rw[T];exact B) A D,.refl _,qQC (qrI ..) _,H _ U⟩
 refine h b [] (C::cs) rfl λe V w' u=>?_;cases e with
 |normal=>exact .quiet rfl (λ_=>q1P rfl) (out _ _ rfl u.1 rfl rfl u.2)
 |ret=>exact λW=>.quiet rfl (λ_=>qvK rfl) (out _ _ rfl u.1 rfl rfl u.2)
 |exit id=>exact u.elim
 |goto l=>exact u.elim
 |panic _=>trivial
 |outgrown=>trivial
def qTK(E:Env P)(fn:Func)(R:Ending->zp->Prop):Exit->zDN->zp->Prop
 |.normal,a,w|.ret,a,w=>qLF E fn a.tmps R a.defers w
 |_,_,_=>zV
def qDG{f}{fn}{c}{args}{w}{R}(u:P.funcs[f]?=O fn)(hb:fn.body=O c)(h:c.wpX E zc (qTK E fn R) {tmps:=args++zAU (fn.ntmps-args.size) zAX,defers:=[]} w):BH E f args w R:=by
 intro B cs A;let b:zAt:={(default:zAt)with fn:=f,kind:=.normal,roundOf:=zc}
 have C:zAW P f args .normal=b.atR {tmps:=args++zAU (fn.ntmps-args.size) zAX,defers:=[]} [.code c]:=by
  simp[zAW,zAQ,u,hb,b]
 rw[C];refine h b [] (B::cs) rfl λe D w' q=>?_;cases e with
 |normal=>exact .quiet rfl (λ_=>q1P rfl) (q4G _ _ _ _ _ rfl rfl u rfl q A)
 |ret=>exact λH=>.quiet rfl (λ_=>qvK rfl) (q4G _ _ _ _ _ rfl rfl u rfl q A)
 |exit id=>exact q.elim
 |goto l=>exact q.elim
 |panic _=>trivial
 |outgrown=>trivial
def ScX(E:Env P)(r:zs Z)(c:zDT)(Q:Exit->zDN->zp->Prop):Z->Z->zDN->zp->Prop
 |0,_,_,_=>zV
 |n+1,l,a,w=>∃rest,zDS c l=O rest/\rest.wpX E r (λe a w=>match e with
  |.goto h=>ScX E r c Q n h a w
  |e=>Q e a w) a w
def ScQ(E:Env P)(r:zs Z)(c:zDT)(Q:Exit->zDN->zp->Prop)(n:Z):Exit->zDN->zp->Prop:=λe a w=>match e with
 |.goto l=>ScX E r c Q n l a w
 |e=>Q e a w
def qeV{r}{c}{Q}:∀{n l:Z}{a:zDN}{w:zp},ScX E r c Q n l a w->ScX E r c Q (n+1) l a w
 |0,_,_,_,h=>h.elim
 |n+1,l,a,w,⟨rest,q,u⟩=>⟨rest,q,q3B u λe a w h=>by
  cases e with
  |goto A=>exact qeV h
  |_=>exact h⟩
def qIO{r}{c}{Q}:∀(n:Z){x:zDT}{a:zDN}{w:zp},x.wpX E r (ScQ E r c Q n) a w->∀(b:zAt)(k:F Item)(cs:F zAt),b.roundOf=r->(∀e a' w',Q e a' w'->qoc E b k cs e a' w')->E.G (G (b.atR a (.code x::.inScope c::k)) cs) w:=by
 intro n
 induction n with
 |zero=>
  intro x a w B b k cs A q;refine B b (.inScope c::k) cs A λe C D h=>?_;cases e with
  |normal=>exact .quiet rfl (λ_=>qwK) (q .normal _ _ h)
  |exit id=>exact λu e=>q (.exit id) _ _ h u (by rw[e];rfl)
  |goto l=>exact h.elim
  |ret=>exact λu=>q .ret _ _ h u
  |panic H=>trivial
  |outgrown=>trivial
 |succ n L=>
  intro x a w B b k cs A q;refine B b (.inScope c::k) cs A λe C D h=>?_;cases e with
  |normal=>exact .quiet rfl (λ_=>qwK) (q .normal _ _ h)
  |exit id=>exact λu e=>q (.exit id) _ _ h u (by rw[e];rfl)
  |goto l=>
   obtain⟨rest,M,R⟩:=h;have T:gotoIn l (.inScope c::k)=O (.code rest::.inScope c::k):=by simp[gotoIn,M]
   exact λu e=>.quiet rfl (λ_=>qUY (e.trans T)) (L R b k cs A q)
  |ret=>exact λu=>q .ret _ _ h u
  |panic H=>trivial
  |outgrown=>trivial
def qbS{r}{c}{Q}(n){a}{w}(h:c.wpX E r (ScQ E r c Q n) a w):(Code.scope c).wpX E r Q a w:=λb k cs q u=>
 .quiet rfl (λ_=>qwV) (qIO n h b k cs q u)
end
end Go.Proofs.YtlmhpamhhgogaaaGreat.Sx
namespace Go.Proofs.YtlmhpamhhgogaaaGreat.Sx
open Go.RowKit
section
variable{P:zt}{E:Env P}{H:qOA}{nt:Z}
def Aq.put{fr:Fr}{hs}{w}(h:Aq fr hs w){q u}{id l}{r}{j j'}{nx}(hl:hs.rs=q++.lp id l r j::u):Aq fr ⟨hs.g,q++.lp id l r j'::u,nx,hs.lo⟩ (w.putObj l (.loop (qkH r j'))):=by
 have A:w.heap[l]?=O (.loop (qkH r j)):=h.res (.lp id l r j) (by rw[hl];simp);have B:l<w.heap.size:=(zAg.1 A).1;refine h.upd hl rfl rfl rfl sd (λk _ C=>World.putObj_heap_other (by simpa[Res.bk]using C)) (World.putObj_heap_same B) (λb D=>.inl D) sk
def Aq.Jw{fr:Fr}{hs}{w}(h:Aq fr hs w){q u}{id l}{r}{j}(hl:hs.rs=q++.lp id l r j::u):w.heap[l]?=O (.loop (qkH r j)):=
 h.res (.lp id l r j) (by rw[hl];simp)
def Aq.drop{fr:Fr}{hs}{w}(h:Aq fr hs w){u A}{id l}{r}{j}{nx}(hl:hs.rs=u++.lp id l r j::A)(o):Aq fr ⟨hs.g,u++A,nx,hs.lo⟩ (w.putObj l (.loop o)):=by
 have R:=h.Jw hl;have ac:l<w.heap.size:=(zAg.1 R).1;have q:=h.sub (rs:=u++A) (nx:=nx) (by rw[hl];exact zCw (zB6 _) (zCe _ _))
 have T:∀b∈Hs.bks ⟨hs.g,u++A,nx,hs.lo⟩,b≠l:=λb C U=>by
  have L:=h.nod;have V:hs.bks=u.flatMap Res.bk++([l]++A.flatMap Res.bk):=by simp[Hs.bks,hl,Res.bk]
  rw[V]at L;obtain⟨ad,W,Y⟩:=zBk.1 L;obtain⟨ae,af,aa⟩:=zBk.1 W;have ab:b∈u.flatMap Res.bk++A.flatMap Res.bk:=by simpa[Hs.bks]using C
  subst U;rcases zL.1 ab with D|D
  .exact Y b D b sd rfl
  .exact aa b sd b D rfl
 have M:l∈hs.bks:=zBA.2 ⟨.lp id l r j,by rw[hl];simp,sk⟩;refine⟨⟨zZ h.AJ.1 sd,λn B=>?_⟩,⟨h.frm.os,h.frm.tape,h.frm.output,zZ h.frm.size sd,λn B=>?_⟩,λx Q=>?_,q.nod,q.fre,q.fz,q.own,zZ q.low.1 sd,q.low.2⟩
 .exact(World.putObj_heap_other (k:=n) (r:=l) λe=>(h.fre l M).1 (e▸B)).trans (h.AJ.2 n B)
 .exact(World.putObj_heap_other (k:=n) (r:=l) λe=>(h.fre l M).2 (e▸B)).trans (h.frm.block n B)
 .exact Res.holds_of (λb C=>World.putObj_heap_other (T b (zBA.2 ⟨x,Q,C⟩))) (q.res x Q)
def qcR{V W}(ha:qyD E H nt V)(hb:qyD E H nt W){aa fr:Fr}(ay:aa.has E)(ag:aa.le fr){Y}(ah:Ga E aa Y){a' D}{s Q ai}(az:trC P nt V s=O (a',Q))(aA:trC P nt W Q=O (D,ai)){ps}(aB:∀n∈ps.toList,n<nt){sl}{t}(aC:t.size=nt)(aD:∀n x,AS sl n=O x->t[n]?=O (Ae x)){rr}(aE:rr.tmps=t)(aj:rr.params=ps)(aF:rr.assign=V)(aG:rr.body=W)(id l):Ga E fr (q3W id l rr ps.toList sl (S P H a' I Y) (S P H D I Y) Y):=by
 intro L ak aH args hs K A lp al j ab an ao;unfold q3W at A;split at A
 .split at A
  .rename_i a1 a2 j' ap;rw[an]at ap;cases ap;obtain⟨⟨rfl,rfl⟩,A⟩:=A;have aI:Sim nt ⟨[],ps.toList++(Bt a'++Bt D),t⟩ sl ⟨t,[]⟩:=⟨aC,rfl,aD,λ_ _=>rfl⟩;obtain⟨aJ,aq,aK,aL⟩:=qiI A aB (λn aM=>by simp[aM]) aI;refine⟨by rw[aJ,aj];simp,?_⟩
   have aN:qfF al (qDA args).toArray=(ps.toList.zip (qDA args)).foldl (λtmps(p,v)=>tmps.setIfInBounds p v) t:=by
    unfold qfF;rw[aj,aE,<-zDp];simp
   rw[aN,aF,aG];have ar:=Fr.trans ag ak;have au:=ah.up ar;have aO:R0 L nt (ps.toList++(Bt a'++Bt D)) t aq hs ⟨(ps.toList.zip (qDA args)).foldl (λtmps(p,v)=>tmps.setIfInBounds p v) t,[]⟩ ab:=⟨L,[],Fr.refl _,ao,aL,[],rfl,.nil,λb hb=>by cases hb⟩;have B:=ay.up ar;refine qxM ?_;refine q3B (ha L (O lp) I Y _ t a' s Q aq hs _ _ ab B az (λd ac=>by simp[ac]) sd au aO aK) ?_;rintro e a3 a4 ⟨ad,aP,aQ,rfl,R,aR⟩;cases ad with
   |normal=>
    obtain⟨a5,a6,a7,av,aT⟩:=qvB R;obtain⟨aU,aV,aw,M,aW,aX⟩:=aR;intro h;have M:=M.at h;have aY:=B.up aw;have ax:=M.put (j':=.busy) (nx:=aQ.nx) av;refine⟨_,run_beginRound (M.Jw av) rfl,M.keep ax aY,?_⟩;refine q3B (hb L (O lp) I Y (ps.toList++(Bt a'++Bt D)) t D Q ai aP _ _ _ _ B aA (λd ac=>by simp[ac]) sd au ⟨aU,aV,aw,ax,aW,aX⟩ aT) ?_;rintro e a8 a9 ⟨ad,ba,T,rfl,U,aZ⟩;obtain⟨bb,bc,a0,q,bd,be⟩:=aZ;have q:=q.Fg a0;cases ad with
    |normal=>
     obtain⟨ae,af,w,u,C⟩:=qvB U;exact λh=>⟨_,_,run_endRound zc ((q.at h).Jw u),(q.at h).keep ((q.at h).put (nx:=T.nx) (r:=w) (j:=.busy) (j':=.ready) u) B,.b I,_,rfl,(q.at h).put (r:=w) (j:=.busy) (j':=.ready) u,C⟩
    |exit n=>
     obtain⟨ae,af,w,u,C⟩:=qvB U;exact λh=>⟨_,_,run_endRound _ ((q.at h).Jw u),(q.at h).keep ((q.at h).put (nx:=T.nx) (r:=w) (j:=.busy) (j':=.jump (.exit n)) u) B,.b zb,_,rfl,(q.at h).put (r:=w) (j:=.busy) (j':=.jump (.exit n)) u,C⟩
    |ret=>
     obtain⟨ae,af,w,u,C⟩:=qvB U;exact λh=>⟨_,_,run_endRound _ ((q.at h).Jw u),(q.at h).keep ((q.at h).put (nx:=T.nx) (r:=w) (j:=.busy) (j':=.jump .ret) u) B,.b zb,_,rfl,(q.at h).put (r:=w) (j:=.busy) (j':=.jump .ret) u,C⟩
    |goto n=>
     obtain⟨ae,af,w,u,C⟩:=qvB U;exact λh=>⟨_,_,run_endRound _ ((q.at h).Jw u),(q.at h).keep ((q.at h).put (nx:=T.nx) (r:=w) (j:=.busy) (j':=.jump (.goto n)) u) B,.b zb,_,rfl,(q.at h).put (r:=w) (j:=.busy) (j':=.jump (.goto n)) u,C⟩
   |exit n=>exact R.elim
   |ret=>exact R.elim
   |goto n=>exact R.elim
  .exact A.elim
 .exact ah L (Fr.trans ag ak) aH args hs K A lp al j ab an ao
def qaR(aD:∀fr:Fr,fr.has E->CA E fr H){g}{ps}{ah body}(ha:qyD E H nt ah)(hb:qyD E H nt body):qyD E H nt (.rangeFunc g ps ah body):=by
 intro aE r rd Y aF t ba s bb sl hs K a w ai L bc aG aH aa M;simp only[trC]at L;split at L
 .rename_i ap bd aI;split at L
  .rename_i aq be aJ;split at L
   .rename_i aK;simp at L;obtain⟨rfl,rfl⟩:=L;cases rd with
    |true=>exact M.elim
    |false=>
    obtain rfl:=aG rfl;obtain⟨fr,aL,ab,q,T,aM⟩:=aa;obtain⟨ar,B,aN⟩:=Opd.AB (k:=λar=>qhY P H ar ps.toList (S P H ap I Y) (S P H aq I Y) Y sl hs K) M T.Au;unfold qhY at B;split at B
    .rename_i k first ac
     obtain⟨au,B⟩:=B
     have B:qEC hs.nx λi aO=>∀(l:Z)(rr:Loop),H (q3W i l rr ps.toList sl (S P H ap I Y) (S P H aq I Y) Y) k (first++[.yl i l]++ac) ⟨hs.g,.lp i l rr .ready::hs.rs,aO,hs.lo⟩ λ_ av=>
       qJS i l av.rs λj aP=>Nj K sl av j aP:=by cases hs;exact B
     obtain⟨Q,aQ,B⟩:=qFB B;refine qeL ?_;intro fn aw;have q:=q.at aw;have aR:=q;generalize w.at aw=w at q aR⊢;obtain⟨rr,ad⟩:∃rr:Loop,rr={state:=.ready,pending:=zc,fn,tmps:=a.tmps,params:=ps,assign:=ah,body,defers:=w.heap.size}:=⟨_,rfl⟩;have aT:qkH rr .ready=rr:=sA
     obtain⟨h,aj⟩:∃h,h=w.alloc (.deferred (O [])):=⟨_,rfl⟩;obtain⟨C,ak⟩:∃C,C=h.alloc (.loop rr):=⟨_,rfl⟩;have aU:h.heap.size=w.heap.size+1:=by rw[aj];simp
     have ax:Below w.heap.size w h:=aj▸Below.AU w _;have aV:h.heap[w.heap.size]?=O (.deferred (O [])):=aj▸World.alloc_heap_new w _
     have aW:∀n,(fr.pr n\/n=w.heap.size)->n<h.heap.size:=λn D=>by
      rcases D with D|rfl
      .have:=fr.wf n D;have:=q.frm.size;omega
      .omega
     obtain⟨U,V⟩:∃U:Fr,U=Fr.mk h (λn=>fr.pr n\/n=w.heap.size) (λn=>fr.g0 n/\n≠w.heap.size) aW:=⟨_,rfl⟩;have u:=q.agree ax
     have al:fr.le U:=by
      refine⟨λbf hW=>?_,λn D=>by rw[V];exact⟨.inl D,λM=>M.1⟩⟩;subst V;refine⟨hW.os.trans u.frm.os,hW.tape.trans u.frm.tape,hW.output.trans u.frm.output,zZ u.frm.size hW.size,λn D=>?_⟩;exact(hW.block n (.inl D)).trans (u.frm.block n D)
     have aX:Aq U hs h:=by
      refine⟨u.AJ,?_,u.res,u.nod,λb hb=>⟨(u.fre b hb).1,?_⟩,λn A af=>?_,λn aY af=>?_,u.low⟩
      .rw[V];exact⟨rfl,rfl,rfl,zG _,λ_ _=>rfl⟩
      .rw[V];rintro(A|rfl)
       .exact(u.fre b hb).2 A
       .exact Nat.lt_irrefl _ (q.lt hb)
      .rw[V]at A⊢;rcases A with A|rfl
       .exact⟨q.fz n A af,λe=>by have:=fr.wf n A;have:=q.frm.size;omega⟩
       .have:=hs.g.wf _ af;have:=q.AJ.1;omega
      .rw[V];rintro(A|rfl)
       .exact q.own n aY af A
       .have:=hs.g.wf _ af;have:=q.AJ.1;omega
     have aZ:Aq U ⟨hs.g,.lp Q h.heap.size rr .ready::hs.rs,aQ,hs.lo⟩ C:=by
      refine aX.EL (ak▸Below.AU h _) (r:=.lp Q h.heap.size rr .ready) ?_ (λb hb=>?_) sk
      .show C.heap[h.heap.size]?=O (.loop (qkH rr .ready));rw[aT,ak];exact World.alloc_heap_new h _
      .simp[Res.bk]at hb;omega
     have a0:=qcR (P:=P) (E:=E) (H:=H) (nt:=nt) ha hb ai (Fr.trans ab al) aH aI aJ (ps:=ps) (λn D=>ze (zAh.1 aK n D)) T.size T.Au (rr:=rr) (by rw[ad]) (by rw[ad]) (by rw[ad]) (by rw[ad]) Q h.heap.size;have a1:=aD U (ai.up (Fr.trans ab al)) _ a0 _ _ _ _ (B h.heap.size rr) C aZ
     have a2:(invoke (.fn (.func k) (qDA ac).toArray) (qDA (first++[.yl Q h.heap.size])).toArray).run P C=.ok (.enter k (qDA (first++[.yl Q h.heap.size]++ac)).toArray) C:=by
      simp only[invoke];have:=qhB au ((qDA (first++[.yl Q h.heap.size])).toArray++(qDA ac).toArray) C;rw[this];simp[qiA]
     have ay:resolve a.eval (rangeCall g h.heap.size) 0=pure {target:=.fn (.func k) (qDA ac).toArray,args:=(qDA (first++[.yl Q h.heap.size])).toArray}:=by
      simp only[resolve,aN];simp[Ae,qiA,zBH,Act.eval]
     obtain⟨bg,a3,a4,_⟩:=id au;refine⟨h.heap.size,[mkD w.heap.size],C,k,(qDA (first++[.yl Q h.heap.size]++ac)).toArray,C,?_,?_,?_,?_,?_⟩
     .have:=run_enterLoop_outer (P:=P) (w:=w) fn a.tmps ps ah body;rw[ak,ad,aU];rw[<-aj]at this;exact this
     .rw[ay];exact qWD a3 a4 _
     .rw[ay];exact a2
     .exact qIL (q.N (ai.up ab)) (ax.trans (ak▸(Below.AU h _).mono sa))
     .refine a1.mono ?_;rintro e ag ⟨v,an,rfl,W,R⟩ az;have W:=W.at az;generalize ag.at az=ag at W⊢;obtain⟨a5,a6,bh,j,ao,R⟩:=qcD R;have aA:=W.Jw ao
      have aa:∀(o:Loop),R0 aE nt aF t sl ⟨an.g,a5++a6,an.nx,an.lo⟩ {a with defers:=[mkD w.heap.size]++a.defers} (ag.putObj h.heap.size (.loop o)):=λo=>by
       refine⟨U,mkD w.heap.size::aL,Fr.trans ab al,W.drop ao o,⟨T.size,by simp[T.defers],T.Au,T.off⟩,?_⟩;obtain⟨bs,a7,a8,ae⟩:=aM;refine⟨w.heap.size::bs,by rw[a7];rfl,zBy.2 ⟨λa9=>?_,a8⟩,λb hb=>?_⟩
       .have:=fr.wf _ (ae _ a9).2.2.1;have:=q.frm.size;omega
       .rw[V];rcases zJ.1 hb with rfl|hb
        .exact⟨λA=>by have:=fr.wf _ (ab.2 _ A).1;have:=q.frm.size;omega,λM=>M.2 rfl,.inr rfl,aV⟩
        .exact⟨(ae b hb).1,λM=>(ae b hb).2.1 M.1,.inl (ae b hb).2.2.1,(u.frm.block b (ae b hb).2.2.1).trans (ae b hb).2.2.2⟩
      have aB:∀o:Loop,BY E.N ag (ag.putObj h.heap.size (.loop o)):=λo=>W.keep (W.drop (nx:=an.nx) ao o) (ai.up (Fr.trans ab al));cases j with
      |ready=>exact⟨zc,_,run_endLoop aA (by simp[qkH]),aB _,.normal,sl,_,rfl,R,aa _⟩
      |busy=>exact R.elim
      |jump aC=>
       refine⟨O aC.code,_,run_endLoop aA (by simp[qkH]),aB _,?_⟩;cases aC with
       |normal=>exact R.elim
       |exit n=>exact qmP ⟨.exit n,sl,_,rfl,R,aa _⟩
       |ret=>exact qdL ⟨.ret,sl,_,rfl,R,aa _⟩
       |goto n=>exact qlP ⟨.goto n,sl,_,rfl,R,aa _⟩
    .exact B.elim
   .cases L
  .cases L
 .cases L
end
def qgR{P}{nt}:∀{c:zDT}{s w:F (F Z×OI)×F (F Z)}{b:Bu}{l:Z},trC P nt c s=O (b,w)->(∀r,qcF b l=O r->∃rest t,zDS c l=O rest/\trC P nt rest t=O (r,w))/\(qcF b l=zc->zDS c l=zc):=by
 intro c
 induction c with
 |seq x y R T=>
  intro s w b l h;simp only[trC]at h;split at h
  .rename_i af ag U;split at h
   .rename_i ah V L;simp at h;obtain⟨rfl,rfl⟩:=h;obtain⟨W,M⟩:=R (l:=l) U;obtain⟨Y,aa⟩:=T (l:=l) L;constructor
    .intro r q;simp only[qcF]at q;split at q
     .rename_i ab ac;cases q;obtain⟨rest,t,A,B⟩:=W ab ac;exact⟨.seq rest y,t,by simp only[zDS,A],by simp only[trC,B,L]⟩
     .rename_i u;obtain⟨rest,t,A,B⟩:=Y r q;exact⟨rest,t,by simp only[zDS,M u,A],B⟩
    .intro u;simp only[qcF]at u;split at u
     .cases u
     .rename_i ad;simp only[zDS,M ad,aa u]
   .cases h
  .cases h
 |label m=>
  intro s w b l h;simp[trC]at h;obtain⟨rfl,rfl⟩:=h;constructor
  .intro r q;simp only[qcF]at q;split at q
   .rename_i C;cases q;exact⟨.skip,s,by simp only[zDS,C,zBp],by simp[trC]⟩
   .cases q
  .intro u;simp only[qcF]at u;split at u
   .cases u
   .rename_i C;simp only[zDS,C];rfl
 |region id ai d=>
  intro s w b l h
  have ae:(∃o,b=.reg o)\/∃s o,b=.Kp s o:=by
   obtain⟨D,Q⟩:=s;cases d with
   |false=>
    simp only[trC]at h;split at h
    .simp at h;exact .inl ⟨_,h.1.symm⟩
    .cases h
   |true=>
    cases D with
    |nil=>simp[trC]at h
    |cons aj D=>
     simp only[trC]at h;split at h
     .split at h
      .simp at h;exact .inr ⟨_,_,h.1.symm⟩
      .cases h
     .cases h
  obtain⟨o,rfl⟩|⟨V,o,rfl⟩:=ae<;>exact⟨λr q=>by simp[qcF]at q,λ_=>by simp[zDS]⟩
 |_=>
  intro s w b l h;refine⟨λr q=>?_,λ_=>by simp[zDS]⟩;exfalso;obtain⟨D,Q⟩:=s;cases Q<;>simp only[trC]at h<;>(repeat' split at h)<;>simp at h<;>(try(obtain⟨rfl,_⟩:=h))<;>simp[qcF]at q
def KJ(P:zt)(H:qOA)(c0:Bu)(rd:zM)(Y:qMB):F Z->Ed->Ed
 |[],K=>K
 |l::h,K=>match qcF c0 l with
  |some r=>qjZ l (S P H r rd Y) (KJ P H c0 rd Y h K)
  |none=>KJ P H c0 rd Y h K
def quO{P}{H}{c0}{rd}{Y}{sl}{hs}{K}:∀(ls:F Z)(b:Bu),S P H (GO c0 b ls) rd Y sl hs K=S P H b rd Y sl hs (KJ P H c0 rd Y ls K)
 |[],b=>rfl
 |l::ls,b=>by
  cases h:qcF c0 l with
  |some r=>simp only[GO,KJ,h];rw[quO ls];rfl
  |none=>simp only[GO,KJ,h];exact quO ls b
def qsJ{c0}:∀(ls:F Z)(b:Bu),(∀d∈Bt b,d∈Bt (GO c0 b ls))/\∀l∈ls,∀r,qcF c0 l=O r->∀d∈Bt r,d∈Bt (GO c0 b ls)
 |[],b=>⟨λd B=>B,λl C=>by cases C⟩
 |l::ls,b=>by
  simp only[GO];split
  .rename_i r D;obtain⟨u,w⟩:=qsJ (c0:=c0) ls (.jump l b r);refine⟨λd q=>u d (by simp[Bt,q]),λm hm A h d q=>?_⟩;rcases zJ.1 hm with rfl|hm
   .rw[D]at h;cases h;exact u d (by simp[Bt,q])
   .exact w m hm A h d q
  .rename_i L;obtain⟨u,w⟩:=qsJ (c0:=c0) ls b;refine⟨u,λm hm A h d q=>?_⟩;rcases zJ.1 hm with rfl|hm
   .rw[L]at h;cases h
   .exact w m hm A h d q
def qIY{P:zt}(E:Env P)(H:qOA)(nt:Z)(c:zDT):Prop:=qyD E H nt c/\∀l rest,zDS c l=O rest->qyD E H nt rest
def qbK{P}{H}{c0}{rd}{Y}{K}{e}{sl}{hs}(q:∀n,e≠.goto n):∀{ls:F Z},KJ P H c0 rd Y ls (qCQ K) e sl hs->K e sl hs
 |[],h=>by cases e<;>first|exact h|exact absurd rfl (q _)
 |l::ls,h=>by
  cases u:qcF c0 l with
  |some r=>
   simp only[KJ,u]at h;refine qbK (P:=P) (H:=H) (c0:=c0) (rd:=rd) (Y:=Y) (ls:=ls) q ?_;cases e<;>first|exact h|exact absurd rfl (q _)
  |none=>
   simp only[KJ,u]at h;exact qbK q h
def qYO{P:zt}{E:Env P}{H:qOA}{nt:Z}{c:zDT}(hc:qIY E H nt c):qyD E H nt (.scope c):=by
 intro U r rd V C t aq s ar sl hs K a q ac M W ad ae ah B;simp only[trC]at M;split at M
 .rename_i b au af;simp only[zAk,zCD]at M;obtain⟨rfl,rfl⟩:=M;have W:∀d∈Bt (GO b b ((q1G b).filter λl=>(qbF b).contains l)),d∈C:=W
  have ai:∀(D:F Z),(∀l∈D,∀r,qcF b l=O r->∀d∈Bt r,d∈C)->∀e a q,GZ U nt C t (KJ P H b rd V D (qCQ K)) e a q->ScQ E r c (GZ U nt C t K) D.length e a q:=by
   intro D
   induction D with
   |nil=>
    rintro _ e a q ⟨Y,u,w,rfl,h,A⟩;cases Y with
    |goto n=>exact h.elim
    |normal=>exact⟨.normal,u,w,rfl,h,A⟩
    |exit n=>exact⟨.exit n,u,w,rfl,h,A⟩
    |ret=>exact⟨.ret,u,w,rfl,h,A⟩
   |cons l D aj=>
    rintro Q e a q ⟨Y,u,w,rfl,h,A⟩;have aa:=aj λm hm=>Q m (by simp[hm]);cases Y with
    |normal=>exact⟨.normal,u,w,rfl,qbK (λn B=>by cases B) h,A⟩
    |exit n=>exact⟨.exit n,u,w,rfl,qbK (λn B=>by cases B) h,A⟩
    |ret=>exact⟨.ret,u,w,rfl,qbK (λn B=>by cases B) h,A⟩
    |goto n=>
     cases L:qcF b l with
     |some R=>
      simp only[KJ,L,qjZ]at h;cases ab:zAP n l with
      |true=>
       rw[ab]at h;obtain rfl:=zP ab;obtain⟨rest,ak,ag,al⟩:=(qgR (l:=n) af).1 R L;refine⟨rest,ag,q3B (hc.2 n rest ag U r rd V C t R ak _ u w _ a q ac al (λd T=>Q n sd R L d T) ad ae A h) λe a q an=>?_⟩;exact aa e a q an
      |false=>
       rw[ab]at h;exact qeV (aa (.goto n) a q ⟨.goto n,u,w,rfl,h,A⟩)
     |none=>
      simp only[KJ,L]at h;exact qeV (aa (.goto n) a q ⟨.goto n,u,w,rfl,h,A⟩)
  have Q:=qsJ (c0:=b) ((q1G b).filter λl=>(qbF b).contains l) b
  refine qbS _ (q3B (hc.1 U r rd V C t b _ _ sl hs _ a q ac af (λd T=>W d (Q.1 d T)) ad ae ah (by
   have ao:S P H (GO b b ((q1G b).filter λl=>(qbF b).contains l)) rd V sl hs (qCQ K):=B
   rwa [quO]at ao)) (ai _ λl ap R L d T=>W d (Q.2 l ap R L d T)))
 .cases M
section
variable{P:zt}{E:Env P}{H:qOA}{nt:Z}
def qVX(hm:P.follows .mixedOrders=I)(Y:∀fr:Fr,fr.has E->CA E fr H):∀c,qIY E H nt c:=by
 intro c;have no:∀{c:zDT},(∀l,zDS c l=zc)->∀l rest,zDS c l=O rest->qyD E H nt rest:=λu l rest q=>by rw[u l]at q;cases q
 have aa:qyD E H nt .skip:=by
  intro B r rd C D t L s M sl hs K a Q R h U V W w u;simp[trC]at h;obtain⟨rfl,rfl⟩:=h;exact qkP ⟨.normal,sl,hs,rfl,u,w⟩
 induction c with
 |skip=>exact⟨aa,no λl=>by simp[zDS]⟩
 |region id ab d=>exact⟨qtM hm Y id ab d,no λl=>by simp[zDS]⟩
 |seq x y A T=>
  refine⟨qsM A.1 T.1,λl rest q=>?_⟩;simp only[zDS]at q;split at q
  .rename_i ac ad;cases q;exact qsM (A.2 l ac ad) T.1
  .exact T.2 l rest q
 |cond c x y A T=>exact⟨qdR A.1 T.1,no λl=>by simp[zDS]⟩
 |block id x A=>exact⟨qZO A.1,no λl=>by simp[zDS]⟩
 |loop x A=>exact⟨qbR A.1,no λl=>by simp[zDS]⟩
 |rangeFunc g ai aj ak ae af=>exact⟨qaR Y ae.1 af.1,no λl=>by simp[zDS]⟩
 |exit n=>
  refine⟨?_,no λl=>by simp[zDS]⟩;intro B r rd C D t L s M sl hs K a Q R h U V W w u;simp[trC]at h;obtain⟨rfl,rfl⟩:=h;exact qmP ⟨.exit n,sl,hs,rfl,u,w⟩
 |ret=>
  refine⟨?_,no λl=>by simp[zDS]⟩;intro B r rd C D t L s M sl hs K a Q R h U V W w u;simp[trC]at h;obtain⟨rfl,rfl⟩:=h;exact qdL ⟨.ret,sl,hs,rfl,u,w⟩
 |label m=>
  refine⟨?_,λl rest q=>?_⟩
  .intro B r rd C D t L s M sl hs K a Q R h U V W w u;simp[trC]at h;obtain⟨rfl,rfl⟩:=h;exact qcS ⟨.normal,sl,hs,rfl,u,w⟩
  .simp only[zDS]at q;split at q
   .cases q;exact aa
   .cases q
 |goto ag=>
  refine⟨?_,no λl=>by simp[zDS]⟩;intro B r rd C D t L s M sl hs K a Q R h U V W w u;simp[trC]at h;obtain⟨rfl,rfl⟩:=h;exact qlP ⟨.goto ag,sl,hs,rfl,u,w⟩
 |scope c ah=>exact⟨qYO ah,no λl=>by simp[zDS]⟩
 |refuse al=>
  refine⟨?_,no λl=>by simp[zDS]⟩;intro B r rd C D t L s M sl hs K a Q R h;simp[trC]at h
def qZa(hm:P.follows .mixedOrders=I)(h:∀fr:Fr,fr.has E->CA E fr H):∀c,qyD E H nt c:=λc=>(qVX hm h c).1
end
inductive IC where
 |tmp (n:Z)
 |cell (n size:Z) (agg:zM)
 deriving Inhabited
structure FnI where
 nt:Z
 res:F IC
 code:Bu
 deriving Inhabited
def qjR:F IC->Sl->Hs->(F SV->Prop)->Prop
 |[],_,_,k=>k []
 |.tmp n::r,sl,hs,k=>match AS sl n with
  |some x=>qBX (norm hs.rs x) λx=>qjR r sl hs λl=>k (x::l)
  |none=>zV
 |.cell n size agg::r,sl,hs,k=>match AS sl n with
  |some x=>qzW agg size hs x λy=>qjR r sl hs λl=>k (y::l)
  |none=>zV
def Hn(rs:F IC)(sl:Sl)(hs:Hs)(K:SV->Prop):Prop:=qjR rs sl hs λl=>match l with
 |[x]=>K x
 |l=>K (.tup l)
def qoH:F SV->Z->Sl
 |[],_=>[]
 |x::r,n=>(n,x)::qoH r (n+1)
def fnE(h:F IC)(K:SV->Hs->Prop):Ed:=λe sl hs=>match e with
 |.normal=>Hn h sl hs λv=>K v hs
 |.ret=>Hn h sl hs λv=>K v hs
 |_=>zV
def fnS(P:zt)(H:qOA)(h:FnI)(Y:qMB)(args:F SV)(hs:Hs)(K:SV->Hs->Prop):Prop:=match Nat.ble args.length h.nt with
 |true=>S P H h.code zb Y (qoH args 0) hs (fnE h.res K)
 |false=>zV
def qwI(P:zt):F ResultVar->zs (F IC)
 |[]=>O []
 |.tmp n::r=>match qwI P r with
  |some l=>O (.tmp n::l)
  |none=>zc
 |.cell n t::r=>match qQB P t,BP P t,qwI P r with
  |some size,O agg,O l=>if 0<size then O (.cell n size agg::l)else zc
  |_,_,_=>zc
def F1(P:zt)(f:zBa)(h:F (F Z×OI))(q:F (F Z)):zs FnI:=match P.funcs[f]? with
 |some fn=>match fn.body with
  |some c=>match trC P fn.ntmps c (h,q),qwI P fn.results.toList with
   |some (u,_),O w=>O ⟨fn.ntmps,w,u⟩
   |_,_=>zc
  |none=>zc
 |none=>zc
def qqT:F zg->zg
 |[x]=>x
 |l=>.tuple l.toArray
def qkR(tmps:zR zg):ResultVar->Sem zg
 |.tmp t=>pure (tmps.getD t zAX)
 |.cell a t=>do loadVar t (<-asAddr (tmps.getD a zAX))
def qhD{fn}{tmps}{P}{w}{vs}(h:(fn.results.toList.mapM (qkR tmps)).run P w=.ok vs w):(results fn tmps).run P w=.ok (qqT vs) w:=by
 have e:results fn tmps=(fn.results.mapM (qkR tmps)>>=λvs=>pure (if h:vs.size=1 then vs[0]else .tuple vs)):=rfl;rw[e,zCr];rw[map_eq_pure_bind,zAa,zAa];rw[h];simp only[zAo,Sem.run_pure]
 match vs with
 |[]=>rfl
 |[x]=>rfl
 |x::y::r=>simp[qqT]
def qbD{P}{hs}{sl}:∀{L:F ResultVar}{rs:F IC}{k:F SV->Prop},qwI P L=O rs->qjR rs sl hs k->∃l,k l/\∀(tmps:zR zg),(∀n x,AS sl n=O x->tmps[n]?=O (Ae x))->∀fr w,Aq fr hs w->(L.mapM (qkR tmps)).run P w=.ok (qDA l) w
 |[],rs,k,h,q=>by
  simp[qwI]at h;subst h;exact⟨[],q,λtmps ac fr w u=>by simp[Sem.run_pure,qDA]⟩
 |.tmp n::r,rs,k,h,q=>by
  simp only[qwI]at h;split at h
  .rename_i l C;cases h;simp only[qjR,qJM]at q;split at q
   .rename_i x D;obtain⟨M,E,H⟩:=qbD C q;refine⟨_,E,λtmps A fr w u=>?_⟩;have:=A n x D;rw[zC5];simp only[qkR,zAa,Sem.run_pure,zAo,H tmps A fr w u,qDA,qqD];simp[zAj,this]
   .exact q.elim
  .cases h
 |.cell n t::r,rs,k,h,q=>by
  simp only[qwI]at h;split at h
  .rename_i size agg l Q R C;split at h
   .rename_i T;cases h;simp only[qjR]at q;split at q
    .rename_i x D;obtain⟨y,U,V⟩:=qHL q Q R (.inl T);obtain⟨M,E,H⟩:=qbD C U;refine⟨_,E,λtmps A fr w u=>?_⟩;have W:=A n x D;have B:=V fr w u;have Y:tmps.getD n zAX=Ae x:=by simp[zAj,W]
     have aa:((asAddr (tmps.getD n zAX)).bind λa=>loadVar t a).run P w=.ok (Ae y) w:=by
      rw[Y];generalize Ae x=v at B;unfold zBv Instr.sureAddr at B;unfold asAddr;split at B
      .exact B
      .simp[zAa,zAo]at B
     rw[zC5];have ab:(asAddr (tmps.getD n zAX)>>=λa=>loadVar t a).run P w=.ok (Ae y) w:=aa;rw[show qkR tmps (.cell n t)=(asAddr (tmps.getD n zAX)>>=λa=>loadVar t a)from rfl,zAa,ab];simp only[zAa,Sem.run_pure,zAo,H tmps A fr w u,qDA]
    .exact q.elim
   .cases h
  .cases h
def Aq.shut{fr:Fr}{hs}{w}(h:Aq fr hs w){b}(hp:¬fr.pr b)(A:¬hs.g.g b)(hb:b∉hs.bks)(o):Aq fr hs (w.putObj b o):=by
 refine⟨⟨zZ h.AJ.1 sd,λn q=>?_⟩,⟨h.frm.os,h.frm.tape,h.frm.output,zZ h.frm.size sd,λn q=>?_⟩,λx u=>?_,h.nod,h.fre,h.fz,h.own,zZ h.low.1 sd,h.low.2⟩
 .exact(World.putObj_heap_other (k:=n) (r:=b) λe=>A (e▸q)).trans (h.AJ.2 n q)
 .exact(World.putObj_heap_other (k:=n) (r:=b) λe=>hp (e▸q)).trans (h.frm.block n q)
 .exact Res.holds_of (λc B=>World.putObj_heap_other (k:=c) (r:=b) λe=>hb (e▸zBA.2 ⟨x,u,B⟩)) (h.res x u)
def qnI{P:zt}{E:Env P}{fn:Func}{tmps:zR zg}{R:Ending->zp->Prop}{fr:Fr}(q:fr.has E){hs:Hs}{v:zg}(u:∀w,Aq fr hs w->(results fn tmps).run P w=.ok v w/\R (.returned v) w):∀(bs:F Z)(w:zp),Aq fr hs w->bs.Nodup->(∀b∈bs,¬fr.pr b/\¬hs.g.g b/\b∉hs.bks/\w.heap[b]?=O (.deferred (O [])))->qLF E fn tmps R (bs.map mkD) w
 |[],w,h,_,_=>λd=>⟨v,u _ (h.at d)⟩
 |b::bs,w,h,A,B=>by
  obtain⟨H,L,M,Q⟩:=B b sd;refine .inl λd=>?_;have C:=(h.at d).shut H L M (.deferred zc);refine⟨b,_,rfl,run_takeDeferred Q,(h.at d).keep C q,qnI q u bs _ C (zBy.1 A).2 λc D=>?_⟩;obtain⟨T,U,V,W⟩:=B c (by simp[D]);exact⟨T,U,V,(World.putObj_heap_other (k:=c) (r:=b) λe=>(zBy.1 A).1 (e▸D)).trans W⟩
def qdE:∀(args:F SV)(m n:Z)(x:SV),AS (qoH args m) n=O x->∃i:Z,n=m+i/\args[i]?=O x
 |[],m,n,x,h=>by simp[qoH,AS]at h
 |y::r,m,n,x,h=>by
  simp only[qoH,AS]at h;cases q:zAP m n with
  |true=>rw[q]at h;obtain rfl:=zP q;simp at h;subst h;exact⟨0,rfl,rfl⟩
  |false=>
   rw[q]at h;obtain⟨i,w,u⟩:=qdE r (m+1) n x h;exact⟨i+1,sa,u⟩
def q0X{P:zt}{E:Env P}{H:qOA}(hm:P.follows .mixedOrders=I)(W:∀fr:Fr,fr.has E->CA E fr H){f:zBa}{aa:F (F Z×OI)}{ab:F (F Z)}{Q:FnI}(A:F1 P f aa ab=O Q){fr:Fr}(R:fr.has E){Y:qMB}(ac:Ga E fr Y){args:F SV}{hs:Hs}{K:SV->Hs->Prop}(h:fnS P H Q Y args hs K){w:zp}(ad:Aq fr hs w):∃fn c,P.funcs[f]?=O fn/\fn.body=O c/\c.wpX E zc (qTK E fn (λe w'=>∃v q,e=.returned (Ae v)/\Aq fr q w'/\K v q)) {tmps:=(qDA args).toArray++zAU (fn.ntmps-(qDA args).toArray.size) zAX,defers:=[]} w:=by
 unfold F1 at A;split at A
 .rename_i fn ae;split at A
  .rename_i c af;split at A
   .rename_i D ag ah ai aj;cases A;unfold fnS at h;split at h
    .rename_i ak;have aF:args.length<=fn.ntmps:=zBG ak;refine⟨fn,c,ae,af,?_⟩
     have al:((qDA args).toArray++zAU (fn.ntmps-(qDA args).toArray.size) zAX).size=fn.ntmps:=by
      simp[qrA];omega
     have an:Sim fn.ntmps ⟨[],Bt D,(qDA args).toArray++zAU (fn.ntmps-(qDA args).toArray.size) zAX⟩ (qoH args 0) {tmps:=(qDA args).toArray++zAU (fn.ntmps-(qDA args).toArray.size) zAX,defers:=[]}:=by
      refine⟨al,rfl,λn x ao=>?_,λ_ _=>rfl⟩;obtain⟨i,rfl,T⟩:=qdE args 0 n x ao;have aG:i<args.length:=(zd.1 T).1;show((qDA args).toArray++_)[0+i]?=_;rw[zCk (by simp[qrA];omega)];simp[qiA,T]
     refine q3B (qZa hm W c fr zc zb Y (Bt D) _ D _ ag (qoH args 0) hs _ _ w R ai (λd ap=>ap) (λ_=>rfl) ac ⟨fr,[],Fr.refl _,ad,an,[],rfl,.nil,λb L=>by cases L⟩ h) ?_;rintro e a w' ⟨aq,ar,q,rfl,u,aH,aI,au,B,U,bs,av,aw,ax⟩
     have V:(Hn ah ar q λv=>K v q)->qLF E fn a.tmps (λe w'=>∃v q,e=.returned (Ae v)/\Aq fr q w'/\K v q) a.defers w':=λu=>by
      rw[U.defers];simp only[av]
      obtain⟨l,u,ay⟩:=qbD (k:=λl=>match l with
       |[x]=>K x q
       |l=>K (.tup l) q) aj u
      refine qnI R (fr:=fr) (hs:=q) (v:=qqT (qDA l)) (λaz C=>⟨qhD (ay a.tmps U.Au fr az C),?_⟩) bs w' (B.Fg au) aw λb L=>?_
      .match l,u with
       |[],u=>exact⟨.tup [],q,rfl,C,u⟩
       |[x],u=>exact⟨x,q,rfl,C,u⟩
       |x::y::r,u=>exact⟨.tup (x::y::r),q,rfl,C,u⟩
      .obtain⟨aA,aB,M,aC⟩:=ax b L;exact⟨aA,λaD=>aB (B.fz b M aD),λaE=>(B.fre b aE).2 M,(B.frm.block b M).trans aC⟩
     cases aq with
     |normal=>exact V u
     |ret=>exact V u
     |exit n=>exact u.elim
     |goto n=>exact u.elim
    .exact h.elim
   .cases A
  .cases A
 .cases A
def qUG{P:zt}{E:Env P}{H:qOA}(hm:P.follows .mixedOrders=I)(A:∀fr:Fr,fr.has E->CA E fr H){f:zBa}{B:F (F Z×OI)}{C:F (F Z)}{q:FnI}(D:F1 P f B C=O q){fr:Fr}(L:fr.has E){Y:qMB}(M:Ga E fr Y){args:F SV}{hs:Hs}{K:SV->Hs->Prop}(h:fnS P H q Y args hs K){w:zp}(Q:Aq fr hs w):BH E f (qDA args).toArray w λe w'=>∃v u,e=.returned (Ae v)/\Aq fr u w'/\K v u:=by
 obtain⟨fn,c,R,T,U⟩:=q0X hm A D L M h Q;exact qDG R T U
def qQL(f:Z):F (Z×FnI)->zs FnI
 |[]=>zc
 |(g,h)::r=>match zAP g f with
  |true=>O h
  |false=>qQL f r
def KC(P:zt)(h:F (Z×FnI)):Z->qOA
 |0=>okH P
 |d+1=>λq f args hs K=>match qQL f h with
  |some u=>fnS P (KC P h d) u q args hs K
  |none=>okH P q f args hs K
def qqB(P:zt)(h:F (Z×FnI)):Prop:=∀x∈h,∃o l,F1 P x.1 o l=O x.2
def qOI{f}{u}:∀{w:F (Z×FnI)},qQL f w=O u->(f,u)∈w
 |[],h=>by simp[qQL]at h
 |(g,A)::r,h=>by
  simp only[qQL]at h;cases q:zAP g f with
  |true=>rw[q]at h;obtain rfl:=zP q;simp at h;subst h;simp
  |false=>rw[q]at h;exact zAl _ (qOI h)
def qFM{P}(E:Env P)(hm:P.follows .mixedOrders=I){u}(w:qqB P u):∀(d:Z)(fr:Fr),fr.has E->CA E fr (KC P u d)
 |0,fr,h=>(qaA E).snd fr h
 |d+1,fr,h=>λC A f args hs K q D B=>by
  simp only[KC]at q;split at q
  .rename_i M H;obtain⟨o,l,L⟩:=w _ (qOI H);exact qUG hm (λfr=>qFM E hm w d fr) L h A q B
  .exact(qaA E).snd fr h C A f args hs K q D B
def qwZ(P:zt)(f:zBa):zM:=match P.funcs[f]? with
 |some fn=>fn.body.isSome && !(fn.name== "runtime.NumGoroutine")
 |none=>zb
def GB.of{P}{f}(h:qwZ P f=I):GB P f:=by
 unfold qwZ at h;split at h
 .rename_i fn q;simp only[zj,zC6]at h;exact⟨fn,q,h.1,h.2⟩
 .cases h
def Ok.Ao{P}(hm:P.follows .mixedOrders=I){E}(V:qqB P E)(d){f}{W}{Y}{H}(aa:F1 P f W Y=O H){args}{g}{Q}(h:fnS P (KC P E d) H noY args ⟨g,[],0,g.w.heap.size⟩ λv L=>Hq v L λv' B=>qSI v' λx=>∀M,B.g<=M->Q x M):Ok P f (qDA args) g Q:=by
 intro A R T hE;have ab:Aq ⟨A,(·<A.heap.size),g.g,λ_ h=>h⟩ ⟨g,[],0,g.w.heap.size⟩ A:=⟨R,⟨rfl,rfl,rfl,zG _,λ_ _=>rfl⟩,(λr ac=>by cases ac),zBR,(λb C=>by cases C),(λn _ h=>h),(λn ad ae _=>by have:=g.wf n ae;exact absurd ad (zDE.2 this)),R.1,λb C=>by cases C⟩;refine(qUG hm (λaf=>qFM T hm V d af) aa (λn u=>zQ u hE) (qrF T _) h ab).mono ?_;rintro e ak ⟨v,L,rfl,ag,D⟩;obtain⟨v',B,D,ah,q⟩:=qiF v D ag;have U:=qvC v' D;rw[ah]at U;refine⟨_,rfl,⟨q.frm.os,q.frm.tape,q.frm.output,q.frm.size,λn u=>q.frm.block n u⟩,U _ ⟨q.AJ.1,λn u=>⟨⟨zQ (B.g.wf n u) q.AJ.1,?_⟩,q.AJ.2 n u⟩⟩⟩;rcases zAL n A.heap.size with ai|aj
 .exact .inl (q.fz n ai u)
 .exact .inr aj
def Res.eqv:Res->Res->Prop
 |.blk _ b u cells,.blk _ h w A=>b=h/\u=w/\qDA cells=qDA A
 |.row _ B n cap C size cs,.row _ D E H L M P=>B=D/\n=E/\cap=H/\C=L/\size=M/\cs=P
 |.lp _ l r j,.lp _ Q q R=>l=Q/\r=q/\j=R
 |.mk b,.mk h=>b=h
 |.mp _ r T es,.mp _ q U V=>r=q/\T=U/\es=V
 |_,_=>zV
def La:F Res->F Res->Prop
 |[],[]=>True
 |r::h,q::u=>r.eqv q/\La h u
 |_,_=>zV
def Res.KF{r q:Res}(h:r.eqv q):q.bk=r.bk/\∀w,r.holds w->q.holds w:=by
 unfold Res.eqv at h;split at h
 .rename_i cells _ _ _ u;obtain⟨rfl,rfl,h⟩:=h;refine⟨rfl,λw⟨A,B⟩=>⟨h▸A,λc C=>?_⟩⟩;have:Ae c∈qDA u:=by rw[qiA];exact zAb.2 ⟨c,C,rfl⟩
  rw[<-h,qiA]at this;obtain⟨D,E,H⟩:=zAb.1 this;rw[<-H];exact B D E
 .obtain⟨rfl,rfl,rfl,rfl,rfl,rfl⟩:=h;exact⟨rfl,λ_ h=>h⟩
 .obtain⟨rfl,rfl,rfl⟩:=h;exact⟨rfl,λ_ h=>h⟩
 .subst h;exact⟨rfl,λ_ h=>h⟩
 .obtain⟨rfl,rfl,rfl⟩:=h;exact⟨rfl,λ_ h=>h⟩
 .exact h.elim
def qjN:∀{rs rs':F Res},La rs rs'->rs'.flatMap Res.bk=rs.flatMap Res.bk/\∀w,(∀r∈rs,r.holds w)->∀r∈rs',r.holds w
 |[],[],_=>⟨rfl,λ_ h=>h⟩
 |r::rs,H::rs',h=>by
  obtain⟨A,B⟩:=Res.KF h.1;obtain⟨C,D⟩:=qjN h.2;refine⟨by rw[zB5,zB5,A,C],λw u x q=>?_⟩;rcases zJ.1 q with rfl|q
  .exact B w (u r sd)
  .exact D w (λy E=>u y (by simp[E])) x q
 |[],_::_,h=>h.elim
 |_::_,[],h=>h.elim
def Aq.ren{fr:Fr}{g}{rs rs'}{nx nx' lo}{w}(h:Aq fr ⟨g,rs,nx,lo⟩ w)(k:La rs rs'):Aq fr ⟨g,rs',nx',lo⟩ w:=by
 obtain⟨u,A⟩:=qjN k;have q:Hs.bks ⟨g,rs',nx',lo⟩=Hs.bks ⟨g,rs,nx,lo⟩:=u;exact⟨h.AJ,h.frm,A w h.res,q▸h.nod,λb hm=>h.fre b (q▸hm),h.fz,h.own,h.low.1,λb hm=>h.low.2 b (q▸hm)⟩
def Az:F Res->F Res->Prop
 |_,[]=>True
 |[],_::_=>zV
 |r::h,q::u=>(r.eqv q/\Az h u)\/Az h (q::u)
def q8J:∀{rs rs':F Res},Az rs rs'->∃l,l.Sublist rs/\La l rs'
 |_,[],_=>⟨[],List.nil_sublist _,trivial⟩
 |[],_::_,h=>by simp[Az]at h
 |r::rs,B::rs',h=>by
  unfold Az at h;rcases h with⟨w,A⟩|h
  .obtain⟨l,q,u⟩:=q8J A;exact⟨r::l,q.cons_cons r,w,u⟩
  .obtain⟨l,q,u⟩:=q8J h;exact⟨l,q.cons r,u⟩
def Aq.fit{fr:Fr}{g}{rs rs'}{nx nx' lo}{w}(h:Aq fr ⟨g,rs,nx,lo⟩ w)(k:Az rs rs'):Aq fr ⟨g,rs',nx',lo⟩ w:=by
 obtain⟨l,q,u⟩:=q8J k;exact(h.sub (nx:=nx) q).ren u
def Aq.Cx{fr:Fr}{g}{rs}{nx nx' lo}{w}(h:Aq fr ⟨g,rs,nx,lo⟩ w)(id)(ety)(size):Aq fr ⟨g,.row id zc 0 0 ety size []::rs,nx',lo⟩ w:=
 h.EL (Below.refl _ _) (r:=.row id zc 0 0 ety size []) ⟨World.ownsRow_nil w 0 ety size,λA q=>by cases q⟩ (λb u=>by simp[Res.bk]at u) sk
def qMA{α:Type}{q:α->F SV}{W:α->Hs}{J:α->Prop}{u}{hs}(h:α)(A:qDA (q h)=qDA u)(B:J h)(hW:W h=hs):∀fr w,Aq fr hs w->∃x,qDA (q x)=qDA u/\J x/\Aq fr (W x) w:=
 λ_ _ C=>⟨h,A,B,hW▸C⟩
abbrev xo(d:Z)(p:SOp):CX:=⟨O d,p,zc⟩
abbrev xn(p:SOp):CX:=⟨zc,p,zc⟩
abbrev xg(d:Z)(p:SOp)(k:Z)(b:zM):CX:=⟨O d,p,O (k,b)⟩
section
variable{α β γ δ ε:Sort _}{a:α}{b:β}{c:γ}{d:δ}{e:ε}{p:Prop}
def qza(h:p):a=a/\p:=⟨rfl,h⟩
def qzb(h:p):(a=a/\b=b)/\p:=⟨⟨rfl,rfl⟩,h⟩
def qzc(h:p):(a=a/\b=b/\c=c)/\p:=⟨⟨rfl,rfl,rfl⟩,h⟩
def qzd(h:p):(a=a/\b=b/\c=c/\d=d)/\p:=⟨⟨rfl,rfl,rfl,rfl⟩,h⟩
def qze(h:p):(a=a/\b=b/\c=c/\d=d/\e=e)/\p:=⟨⟨rfl,rfl,rfl,rfl,rfl⟩,h⟩
end
abbrev Blk(P:Prop):Prop:=P
def zq{P Q:Prop}(k:Q)(h:Q->P:=by
 intro h
 repeat((conv=>whnf);first|apply qza|apply qzb|apply qzc|apply qzd|apply qze|intro(zz:Nat)|intro(zz:Option Addr) (zz:Nat)|refine Dw.no ?_)
 try conv=>whnf
 change Blk _
 repeat revert zz
 exact h):P:=h k
def R1(q:Fr)(nt:Z)(D:Pin)(sl:Sl)(hs:Hs)(a:zDN)(w:zp):Prop:=∃h,q.le h/\Aq h hs w/\Sim nt D sl a
def qWX(w:Fr)(nt:Z)(D:Pin)(K:Ex->Sl->Hs->Prop):Exit->zDN->zp->Prop:=λe a A=>
 ∃h q u,h.to=e/\K h q u/\R1 w nt D q u a A
def qHY{P:zt}(E:Env P)(H:qOA)(nt:Z)(c:zDT):Prop:=∀(h:Fr)(rd:zM)(w:qMB)(q:Pin)(u:Bu)(s B:F (F Z×OI)×F (F Z))(sl:Sl)(hs:Hs)(K:Ex->Sl->Hs->Prop)(a:zDN)(A:zp),h.has E->
 trC P nt c s=O (u,B)->(∀d∈Bt u,d∈q.ds)->Ga E h w->R1 h nt q sl hs a A->S P H u rd w sl hs K->c.wpX E zc (qWX h nt q K) a A
def EH:zDT->zM
 |.skip=>I
 |.region _ _ _=>I
 |.seq a b=>EH a&&EH b
 |.cond _ a b=>EH a&&EH b
 |.ret=>I
 |_=>zb
section
variable{P:zt}{E:Env P}{H:qOA}{nt:Z}
def qsL(hm:P.follows .mixedOrders=I)(ac:∀fr:Fr,fr.has E->CA E fr H)(id)(ops)(d):qHY E H nt (.region id ops d):=by
 intro M rd ah D aB s aC sl hs K a L R h T ai aj q;obtain⟨fr,B,C,u⟩:=aj;cases d with
 |false=>
  simp only[trC]at h;split at h
  .rename_i l U;simp at h;obtain⟨rfl,rfl⟩:=h;refine qME (qOG (Q:=qWX M nt D K .normal) (R.up B) (fr:=fr) (D:=D) (ac fr (R.up B)) (ai.up B) (K:=λsl hs=>K .normal sl hs) ?_ _ l sl hs a L U T u C q);exact λsl hs a L w V C=>⟨.normal,sl,hs,rfl,w,fr,B,C,V⟩
  .cases h
 |true=>
  obtain⟨ad,aD⟩:=s;cases ad with
  |nil=>simp[trC]at h
  |cons ae ad=>
   obtain⟨W,ae⟩:=ae;simp only[trC]at h;split at h
   .rename_i l U;split at h
    .rename_i af;simp at h;obtain⟨rfl,rfl⟩:=h;simp only[zj]at af;obtain⟨⟨ak,Y⟩,al⟩:=af;simp only[L0,zj,zx]at Y
     have an:JJ P nt D ops W:=λk w=>by
      have:=(zAh.1 Y.1) k w;simp only[zj]at this;obtain⟨ao,aa⟩:=zCv.1 this.2;obtain⟨o,ap,aa⟩:=zAD.1 aa;refine⟨this.1,⟨o,ao,ap,aa⟩,λaE d aq A=>T d (zL.2 (.inl (zBX.2 ⟨k,w,by simp[aq,A]⟩)))⟩
     have ar:∀d∈q7B l,d∈D.ds:=λd A=>T d (zL.2 (.inr A))
     have go:∀sl,NoM (DZ ops W) sl->Sim nt D sl a->C0 P (okH P) H hs.lo l [] sl hs (λsl hs=>K .normal sl hs)->(Code.region id ops I).wpX E zc (qWX M nt D K) a L:=λsl au u q=>by
      refine q2C hm (qCI (r:=zc) (fr:=fr) (D:=D) (R.up B) (qaA E) ac (K:=λsl hs=>K .normal sl hs) (Q:=qWX M nt D K .normal) hm al an Y.2 ?_ ak U ar au u C q);exact λsl hs a L w V C=>⟨.normal,sl,hs,rfl,w,fr,B,C,V⟩
     obtain⟨av,aw,ax,ay⟩:=hs;have q:qCV P H (DZ ops W) l rd ah sl ⟨av,aw,ax,ay⟩ K:=q;unfold qCV at q;simp only at q;split at q
     .rename_i ab;exact go sl (by rw[ab];intro d A;cases A) u q
     .rename_i n aF ab;obtain⟨sl0,w,ag⟩:=qfE q
      refine go sl0 (by rw[ab];intro d A;cases az:AS sl0 d with
       |none=>rfl
       |some x=>exact absurd A (ag d x az).1) ⟨u.size,u.defers,λn x aA=>u.Au n x (ag n x aA).2,u.off⟩ w
    .cases h
   .cases h
def qFT(hm:P.follows .mixedOrders=I)(ap:∀fr:Fr,fr.has E->CA E fr H):∀c,EH c=I->qHY E H nt c:=by
 intro c
 induction c with
 |skip=>
  intro _ C rd u D ad s ae sl hs K a V L q M Q R T;simp[trC]at q;obtain⟨rfl,rfl⟩:=q;exact qkP ⟨.normal,sl,hs,rfl,T,R⟩
 |region id aq d=>exact λ_=>qsL hm ap id aq d
 |seq x y W af=>
  intro h C rd u D ad s ae sl hs K a V L q M Q R T;simp only[EH,zj]at h;simp only[trC]at q;split at q
  .rename_i ak ar ag;split at q
   .rename_i al au ah;simp at q;obtain⟨rfl,rfl⟩:=q;refine q6H (q3B (W h.1 C rd u D _ _ _ sl hs _ a V L ag (λd U=>M d (by simp[Bt,U])) Q R T) ?_);rintro e av aw ⟨ax,w,Y,rfl,aa,ab⟩;cases ax with
    |normal=>exact af h.2 C rd u D _ _ _ w Y K av aw L ah (λd U=>M d (by simp[Bt,U])) Q ab aa
    |exit n=>exact⟨.exit n,w,Y,rfl,aa,ab⟩
    |ret=>exact⟨.ret,w,Y,rfl,aa,ab⟩
    |goto n=>exact⟨.goto n,w,Y,rfl,aa,ab⟩
   .cases q
  .cases q
 |cond c x y W af=>
  intro h C rd u D ad s ae sl hs K a V L q M Q R T;simp only[EH,zj]at h;simp only[trC]at q;split at q
  .rename_i ak ar ag;split at q
   .rename_i al au ah;simp at q;obtain⟨rfl,rfl⟩:=q;obtain⟨fr,an,ao,ay⟩:=R;rcases qSL (A:=S P H ak rd u) (B:=S P H al rd u) T ay with⟨ac,w,ai,aj⟩|⟨ac,w,ai,aj⟩
    .exact qKH ac (W h.1 C rd u D _ _ _ w hs K a V L ag (λd U=>M d (by simp[Bt,U])) Q ⟨fr,an,ao,aj⟩ ai)
    .exact qkG ac (af h.2 C rd u D _ _ _ w hs K a V L ah (λd U=>M d (by simp[Bt,U])) Q ⟨fr,an,ao,aj⟩ ai)
   .cases q
  .cases q
 |ret=>
  intro _ C rd u D ad s ae sl hs K a V L q M Q R T;simp[trC]at q;obtain⟨rfl,rfl⟩:=q;exact qdL ⟨.ret,sl,hs,rfl,T,R⟩
 |block id x W=>intro h;simp[EH]at h
 |loop x W=>intro h;simp[EH]at h
 |rangeFunc g az aA aB aC aD=>intro h;simp[EH]at h
 |exit n=>intro h;simp[EH]at h
 |label m=>intro h;simp[EH]at h
 |goto aE=>intro h;simp[EH]at h
 |scope c ac=>intro h;simp[EH]at h
 |refuse aF=>intro h;simp[EH]at h
end
structure FnD where
 nt:Z
 res:F IC
 A:F Bu
 op:SOp
 dt:Z
 dk:Z
 B:Bu
 cl:FnI
 deriving Inhabited
def Om(ops:zR zDO):zM:=match ops.toList with
 |[_,o]=>match o.op with
  |.defer _=>I
  |_=>zb
 |_=>zb
def headD:zDT->zs (Z×zR zDO)
 |.region id h zb=>match Om h with
  |true=>O (id,h)
  |false=>zc
 |_=>zc
def qrM:zDT->zs (F zDT×(Z×zR zDO)×zDT)
 |.seq x y=>match headD x with
  |some d=>O ([],d,y)
  |none=>match qrM y with
   |some (h,d,q)=>O (x::h,d,q)
   |none=>zc
 |_=>zc
def wpP{P:zt}(E:Env P)(Q:Exit->zDN->zp->Prop)(q:zDN->zp->Prop):F zDT->zDN->zp->Prop
 |[],a,h=>q a h
 |x::u,a,h=>x.wpX E zc (Exit.then (wpP E Q q u) Q) a h
def q8R{x}{id}{ops}(h:headD x=O (id,ops)):x=.region id ops zb:=by
 unfold headD at h;split at h
 .split at h
  .cases h;rfl
  .cases h
 .cases h
def qjV{P:zt}{E:Env P}{Q:Exit->zDN->zp->Prop}{id:Z}{ops:zR zDO}{B:zDT}:∀{c:zDT}{ps:F zDT},qrM c=O (ps,(id,ops),B)->∀{a:zDN}{w:zp},wpP E Q (λa w=>(Code.region id ops zb).wpX E zc (Exit.then (B.wpX E zc Q) Q) a w) ps a w->c.wpX E zc Q a w:=by
 intro c
 induction c with
 |seq x y _ u=>
  intro ps hs a w h;simp only[qrM]at hs;split at hs
  .rename_i d A;simp only[zAk,zCD]at hs;obtain⟨rfl,rfl,rfl⟩:=hs;rw[q8R A];exact q6H h
  .split at hs
   .rename_i D d L C;simp only[zAk,zCD]at hs;obtain⟨rfl,rfl,rfl⟩:=hs;refine q6H (q3B h ?_);intro e M R q;cases e with
    |normal=>exact u C q
    |_=>exact q
   .cases hs
 |_=>intro ps hs;simp[qrM]at hs
def trL(P:zt)(nt:Z):F zDT->F (F Z×OI)×F (F Z)->zs (F Bu×(F (F Z×OI)×F (F Z)))
 |[],s=>O ([],s)
 |c::cs,s=>match trC P nt c s with
  |some (x,h)=>match trL P nt cs h with
   |some (q,u)=>O (x::q,u)
   |none=>zc
  |none=>zc
def qKS:F Bu->F Z
 |[]=>[]
 |x::h=>Bt x++qKS h
def SP(P:zt)(H:qOA)(Y:qMB):F Bu->Sl->Hs->(Ex->Sl->Hs->Prop)->Prop
 |[],sl,hs,K=>K .normal sl hs
 |x::h,sl,hs,K=>S P H x zb Y sl hs λe sl hs=>match e with
  |.normal=>SP P H Y h sl hs K
  |e=>K e sl hs
def KV:F zDT->zM
 |[]=>I
 |c::cs=>EH c&&KV cs
section
variable{P:zt}{E:Env P}{H:qOA}{nt:Z}
def qbX(hm:P.follows .mixedOrders=I)(ag:∀fr:Fr,fr.has E->CA E fr H){Q}{ah}:∀(ps:F zDT),KV ps=I->∀(q:Fr)(Y:qMB)(D:Pin)(A:F Bu)(s V:F (F Z×OI)×F (F Z))(sl:Sl)(hs:Hs)(K:Ex->Sl->Hs->Prop)(a:zDN)(w:zp),q.has E->trL P nt ps s=O (A,V)->(∀d∈qKS A,d∈D.ds)->Ga E q Y->R1 q nt D sl hs a w->SP P H Y A sl hs K->(∀B sl hs a w,K B sl hs->R1 q nt D sl hs a w->Exit.then ah Q B.to a w)->wpP E Q ah ps a w
 |[],_,q,Y,D,A,s,V,sl,hs,K,a,w,W,h,aa,ab,ac,ad,u=>by
  simp[trL]at h;obtain⟨rfl,rfl⟩:=h;exact u .normal sl hs a w ad ac
 |c::cs,ae,q,Y,D,A,s,V,sl,hs,K,a,w,W,h,aa,ab,ac,ad,u=>by
  simp only[KV,zj]at ae;simp only[trL]at h;split at h
  .rename_i x ai aj;split at h
   .rename_i ak an al;simp at h;obtain⟨rfl,rfl⟩:=h;refine q3B (qFT hm ag c ae.1 q zb Y D _ _ _ sl hs _ a w W aj (λd af=>aa d (by simp[qKS,af])) ab ac ad) ?_;rintro e C L ⟨B,M,R,rfl,T,U⟩;cases B with
    |normal=>exact qbX hm ag cs ae.2 q Y D ak ai _ M R K C L W al (λd af=>aa d (by simp[qKS,af])) ab U T u
    |exit n=>exact u (.exit n) M R C L T U
    |ret=>exact u .ret M R C L T U
    |goto n=>exact u (.goto n) M R C L T U
   .cases h
  .cases h
end
def qkY(P:zt)(nt:Z)(ops:zR zDO):zs (SOp×Z×Z):=match ops.toList with
 |[h,q]=>match Er P h,h.dst,h.guard,q.op,q.dst,q.guard with
  |some (.mkf (.func k) [] u),O t,zc,.defer c,zc,zc=>match c.callee with
   |.value (.tmp w)=>if w=t/\c.args.size=0/\t<nt then O (.mkf (.func k) [] u,t,k)else zc
   |_=>zc
  |_,_,_,_,_,_=>zc
 |_=>zc
def qbP(P:zt)(k:zBa):zM:=match P.funcs[k]? with
 |some fn=>match fn.body with
  |some c=>EH c
  |none=>zb
 |none=>zb
def qxS(P:zt)(f:zBa)(q:F (F Z×OI))(u:F (F Z))(w:F (F Z×OI))(A:F (F Z)):zs FnD:=match P.funcs[f]? with
 |some fn=>match fn.body with
  |some c=>match qrM c with
   |some (h,(_,B),b)=>match trL P fn.ntmps h (q,u)with
    |some (C,D)=>match qkY P fn.ntmps B with
     |some (op,t,k)=>match trC P fn.ntmps b D,qwI P fn.results.toList,F1 P k w A with
      |some (L,_),O M,O cl=>if(KV h&&EH b&&qbP P k)=I then O ⟨fn.ntmps,M,C,op,t,k,L,cl⟩else zc
      |_,_,_=>zc
     |none=>zc
    |none=>zc
   |none=>zc
  |none=>zc
 |none=>zc
def clE(P:zt)(H:qOA)(cl:FnI)(q:F SV)(hs:Hs)(K:Hs->Prop):Prop:=match Nat.ble q.length cl.nt with
 |true=>S P H cl.code zb noY (qoH q 0) hs λe u h=>match e with
  |.normal=>Hn cl.res u h λ_=>K h
  |.ret=>Hn cl.res u h λ_=>K h
  |_=>zV
 |false=>zV
def LU(P:zt)(H:qOA)(h:FnD)(u:F SV)(K:SV->Hs->Prop)(sl:Sl)(hs:Hs):Prop:=clE P H h.cl u hs λq=>Hn h.res sl q λv=>K v q
def dfS(P:zt)(H:qOA)(h:FnD)(Y:qMB)(x:SV)(sl:Sl)(hs:Hs)(K:SV->Hs->Prop):Prop:=match x with
 |.fn (.func k) [] q=>zAP k h.dk=I/\GB P h.dk/\S P H h.B zb Y sl hs λe sl hs=>match e with
  |.normal=>LU P H h q K sl hs
  |.ret=>LU P H h q K sl hs
  |_=>zV
 |_=>zV
def LP(P:zt)(H:qOA)(h:FnD)(Y:qMB)(args:F SV)(hs:Hs)(K:SV->Hs->Prop):Prop:=match Nat.ble args.length h.nt with
 |true=>SP P H Y h.A (qoH args 0) hs λe sl hs=>match e with
  |.ret=>Hn h.res sl hs λv=>K v hs
  |.normal=>rdS h.op sl hs λx=>qdB (O h.dt) sl x λsl=>dfS P H h Y x sl hs K
  |_=>zV
 |false=>zV
def q9P{nt}{args}(w:args.length<=nt)(q):Sim nt ⟨[],q,(qDA args).toArray++zAU (nt-(qDA args).toArray.size) zAX⟩ (qoH args 0) {tmps:=(qDA args).toArray++zAU (nt-(qDA args).toArray.size) zAX,defers:=[]}:=by
 refine⟨by simp[qrA];omega,rfl,λn x u=>?_,λ_ _=>rfl⟩;obtain⟨i,rfl,h⟩:=qdE args 0 n x u;have A:i<args.length:=(zd.1 h).1;show((qDA args).toArray++_)[0+i]?=_;rw[zCk (by simp[qrA];omega)];simp[qiA,h]
def qcO{P:zt}{fn:Func}{rs:F IC}(A:qwI P fn.results.toList=O rs){sl:Sl}{hs:Hs}{k:SV->Prop}(h:Hn rs sl hs k){fr:Fr}{a:zDN}{w:zp}(B:Aq fr hs w)(C:∀n x,AS sl n=O x->a.tmps[n]?=O (Ae x)):∃v,(results fn a.tmps).run P w=.ok (Ae v) w/\k v:=by
 obtain⟨l,q,D⟩:=qbD (k:=λl=>match l with
  |[x]=>k x
  |l=>k (.tup l)) A h
 have u:=qhD (D a.tmps C fr w B)
 match l,q with
 |[],q=>exact⟨.tup [],u,q⟩
 |[x],q=>exact⟨x,u,q⟩
 |x::y::r,q=>exact⟨.tup (x::y::r),u,q⟩
def qzU{P:zt}{E:Env P}{H:qOA}(hm:P.follows .mixedOrders=I)(Y:∀fr:Fr,fr.has E->CA E fr H){k:zBa}{o:F (F Z×OI)}{l:F (F Z)}{cl:FnI}(q:F1 P k o l=O cl)(B:qbP P k=I){fr:Fr}(aa:fr.has E){C:F SV}{hs:Hs}{K:Hs->Prop}(h:clE P H cl C hs K){w:zp}(ab:Aq fr hs w):Fy E k (qDA C).toArray w λw'=>∃u,Aq fr u w'/\K u:=by
 unfold F1 at q;split at q
 .rename_i fn M;split at q
  .rename_i c Q;have ac:EH c=I:=by unfold qbP at B;rw[M]at B;simp only at B;rw[Q]at B;exact B
   split at q
   .rename_i ad ap ae af ag;simp at q;subst q;unfold clE at h;split at h
    .rename_i ah;have ai:C.length<=fn.ntmps:=zBG ah;refine qaM (R:=λw'=>∃u,Aq fr u w'/\K u) M Q ?_;refine q3B (qFT hm Y c ac fr zb noY ⟨[],Bt ad,_⟩ _ _ _ (qoH C 0) hs _ _ w aa af (λd aj=>aj) (qrF E _) ⟨fr,Fr.refl _,ab,q9P ai _⟩ h) ?_;rintro e T D ⟨ak,al,L,rfl,A,aq,an,U,V⟩
     have W:Hn ae al L (λ_=>K L)->T.defers=[]/\∀d,∃v,(results fn T.tmps).run P (D.at d)=.ok v (D.at d)/\∃u,Aq fr u (D.at d)/\K u:=λA=>by
      refine⟨V.defers,λd=>?_⟩;obtain⟨v,ao,A⟩:=qcO ag A (U.at d) V.Au;exact⟨_,ao,L,(U.at d).Fg an,A⟩
     cases ak with
     |normal=>exact W A
     |ret=>exact W A
     |exit n=>exact A.elim
     |goto n=>exact A.elim
    .exact h.elim
   .cases q
  .cases q
 .cases q
def qlR{P}{nt}{ops}{op}{t k}(h:qkY P nt ops=O (op,t,k)):∃q u c,ops=#[q,u]/\Er P q=O op/\op.reads=I/\q.dst=O t/\q.guard=zc/\u.op=.defer c/\u.dst=zc/\u.guard=zc/\c.callee=.value (.tmp t)/\c.args=#[]/\t<nt:=by
 unfold qkY at h;split at h
 .rename_i q u w;split at h
  .rename_i V W Y c A B C D L M;split at h
   .rename_i aa Q;split at h
    .rename_i R;simp only[zAk,zCD]at h;obtain⟨rfl,rfl,rfl⟩:=h;obtain⟨rfl,T,U⟩:=R;exact⟨q,u,c,by rw[<-Array.toList_inj,w],A,rfl,B,C,D,L,M,Q,Array.size_eq_zero_iff.1 T,U⟩
    .cases h
   .cases h
  .cases h
 .cases h
def qdU{P:zt}{E:Env P}{H:qOA}(hm:P.follows .mixedOrders=I)(ad:∀fr:Fr,fr.has E->CA E fr H){f:zBa}{aI:F (F Z×OI)}{aJ:F (F Z)}{aK:F (F Z×OI)}{aL:F (F Z)}{al:FnD}(q:qxS P f aI aJ aK aL=O al){fr:Fr}(ae:fr.has E){Y:qMB}(an:Ga E fr Y){args:F SV}{hs:Hs}{K:SV->Hs->Prop}(h:LP P H al Y args hs K){w:zp}(aM:Aq fr hs w):BH E f (qDA args).toArray w λe w'=>∃v Q,e=.returned (Ae v)/\Aq fr Q w'/\K v Q:=by
 unfold qxS at q;split at q
 case h_2=>cases q
 rename_i fn aN;split at q
 case h_2=>cases q
 rename_i c aO;split at q
 case h_2=>cases q
 rename_i aP id bo b aQ;split at q
 case h_2=>cases q
 rename_i aa bp aR;split at q
 case h_2=>cases q
 rename_i op t k aT;split at q
 case h_2=>cases q
 rename_i af bq aU cl aV ao aW;split at q
 case isFalse=>cases q
 rename_i ap;simp only[zAk]at q;subst q;simp only[zj]at ap;obtain⟨⟨aX,aY⟩,aZ⟩:=ap;obtain⟨R,M,br,rfl,ag,aq,a0,a1,ar,a2,a3,au,av,aw⟩:=qlR aT;unfold LP at h;split at h
 case h_2=>exact h.elim
 rename_i a4;have a5:args.length<=fn.ntmps:=zBG a4;refine qDG aN aO ?_;refine qjV aQ (qbX hm ad aP aX fr Y ⟨[],qKS aa++t::Bt af,_⟩ aa _ _ (qoH args 0) hs _ _ w ae aR (λd U=>zL.2 (.inl U)) an ⟨fr,Fr.refl _,aM,q9P a5 _⟩ h ?_);intro ah a6 ax D u L a7;obtain⟨ai,V,A,W⟩:=a7;cases ah with
 |exit n=>exact L.elim
 |goto n=>exact L.elim
 |ret=>
  show qLF E fn D.tmps _ D.defers u;rw[W.defers];intro d;obtain⟨v,aj,L⟩:=qcO ao L (A.at d) W.Au;exact⟨_,aj,v,ax,rfl,(A.at d).Fg V,L⟩
 |normal=>
  obtain⟨x,L,a8⟩:=q9I ag aq W.Au L;obtain⟨a9,T,ab⟩:=W.JX (dst:=O t) (λd U=>by cases U;exact⟨aw,zL.2 (.inr (zAm ..))⟩) x L;show(Code.region id #[R,M] zb).wpX E zc _ D u;refine qME ?_;show qHC E zc #[R,M] 0 (qHC E zc #[R,M] 1 _) D u;unfold dfS at T;split at T
  case h_2=>exact T.elim
  rename_i C B;obtain⟨ba,ay,T⟩:=T;obtain rfl:C=k:=zP ba;have bb:zAs R (yielded #[R,M] D.tmps)=I:=by unfold zAs;rw[a1]
  unfold qHC;simp only[zDc,zCB];rw[zk bb];intro az;have A:=A.at az;generalize u.at az=u at A⊢;refine qoA (qkE ag aq) (q1D ag).1 (a8 ai u A) (.refl _) ?_;rw[a0]
  have aA:(D.put (O t) (Ae (.fn (.func C) [] B))).eval (.tmp t)=.func (.func C) #[] (qDA B).toArray:=by
   have:AS ((t,SV.fn (.func C) [] B)::a6) t=O (.fn (.func C) [] B):=by simp[AS]
   show(D.put (O t) (Ae (.fn (.func C) [] B))).tmps.getD t zAX=_;have bc:t<D.tmps.size:=by rw[W.size];exact aw
   simp[zBg,zAj,bc,Ae,qDA]
  have bd:zAs M (yielded #[R,M] (D.put (O t) (Ae (.fn (.func C) [] B))).tmps)=I:=by unfold zAs;rw[a3]
  simp only[List.getElem?_cons_succ,zCB];rw[zk bd];intro aB;have A:=A.at aB;generalize u.at aB=u at A⊢
  have be:(M.semAt zc (D.put (O t) (Ae (.fn (.func C) [] B))).eval).run P u=.ok (.defer {target:=.fn (.func C) (qDA B).toArray,args:=#[]}) u:=by
   show(zy _ M).run P u=_;simp only[zy,ar,resolve,au,av,aA];simp[zBH,zAa,Sem.run_pure,zAo]
  unfold Go.Oper.atX;rw[be];refine⟨?_,.refl _,?_⟩
  .show(zy _ M).Calm P;simp only[zy,ar,resolve,au,av,aA];exact qEA trivial λ_=>trivial
  rw[a2];intro aC;have A:=A.at aC;generalize u.at aC=u at A⊢;refine q3B (qFT hm ad b aY ai zb Y ⟨[{target:=.fn (.func C) (qDA B).toArray,args:=#[]}],qKS aa++t::Bt af,_⟩ _ _ _ a9 ax _ _ u (ae.up V) aV (λd U=>zL.2 (.inr (zAl _ U))) (an.up V) ⟨ai,Fr.refl _,A,⟨ab.size,by show _::_=_;rw[ab.defers],ab.Au,ab.off⟩⟩ T) ?_;rintro e aD bf ⟨ah,bg,bh,rfl,ac,bt,aE,bi,aF⟩
  have aG:LU P H ⟨fn.ntmps,aU,aa,op,t,C,af,cl⟩ B K bg bh->qLF E fn aD.tmps (λe w'=>∃v Q,e=.returned (Ae v)/\Aq fr Q w'/\K v Q) aD.defers bf:=λL=>by
   rw[aF.defers];have bj:=ay;obtain⟨bu,bl,bm,_⟩:=ay;refine .inr ⟨C,(qDA B).toArray,(qDA B).toArray,rfl,qWD bl bm _,λw=>?_,?_⟩
   .have:=qhB bj (qDA B).toArray w;simp at this⊢;exact this
   .refine(qzU hm ad aW aZ ((ae.up V).up aE) L bi).mono ?_;rintro w' ⟨Q,aH,ak⟩ d;obtain⟨bn,aj,ak⟩:=qcO ao ak (aH.at d) aF.Au;exact⟨_,aj,bn,Q,rfl,((aH.at d).Fg aE).Fg V,ak⟩
  cases ah with
  |normal=>exact aG ac
  |ret=>exact aG ac
  |exit n=>exact ac.elim
  |goto n=>exact ac.elim
def dfH(P:zt)(k:zBa)(q:FnD)(H:qOA):qOA:=λh f args hs K=>match zAP f k with
 |true=>LP P H q h args hs K
 |false=>H h f args hs K
def q4Z{P:zt}{E:Env P}(hm:P.follows .mixedOrders=I){H:qOA}(q:∀fr:Fr,fr.has E->CA E fr H){k:zBa}{C:F (F Z×OI)}{D:F (F Z)}{L:F (F Z×OI)}{M:F (F Z)}{u:FnD}(Q:qxS P k C D L M=O u):∀fr:Fr,fr.has E->CA E fr (dfH P k u H):=λfr w R A f args hs K h T B=>by
 unfold dfH at h;split at h
 .rename_i U;obtain rfl:=zP U;exact qdU hm q Q w A h B
 .exact q fr w R A f args hs K h T B
def Ok.Lz{P}(hm:P.follows .mixedOrders=I){L}(Y:qqB P L)(d){k}{aa}{ab}{ac}{ad}{M}(ae:qxS P k aa ab ac ad=O M){f}{af}{ag}{R}(ah:F1 P f af ag=O R){args}{g}{Q}(h:fnS P (dfH P k M (KC P L d)) R noY args ⟨g,[],0,g.w.heap.size⟩ λv T=>Hq v T λv' B=>qSI v' λx=>∀U,B.g<=U->Q x U):Ok P f (qDA args) g Q:=by
 intro A V E hE;have ai:Aq ⟨A,(·<A.heap.size),g.g,λ_ h=>h⟩ ⟨g,[],0,g.w.heap.size⟩ A:=⟨V,⟨rfl,rfl,rfl,zG _,λ_ _=>rfl⟩,(λr aj=>by cases aj),zBR,(λb C=>by cases C),(λn _ h=>h),(λn ak al _=>by have:=g.wf n al;exact absurd ak (zDE.2 this)),V.1,λb C=>by cases C⟩;refine(qUG hm (q4Z hm (λan=>qFM E hm Y d an) ae) ah (λn u=>zQ u hE) (qrF E _) h ai).mono ?_;rintro e au ⟨v,T,rfl,ao,D⟩;obtain⟨v',B,D,ap,q⟩:=qiF v D ao;have W:=qvC v' D;rw[ap]at W;refine⟨_,rfl,⟨q.frm.os,q.frm.tape,q.frm.output,q.frm.size,λn u=>q.frm.block n u⟩,W _ ⟨q.AJ.1,λn u=>⟨⟨zQ (B.g.wf n u) q.AJ.1,?_⟩,q.AJ.2 n u⟩⟩⟩;rcases zAL n A.heap.size with aq|ar
 .exact .inl (q.fz n aq u)
 .exact .inr ar
end Go.Proofs.YtlmhpamhhgogaaaGreat.Sx
namespace Go.Duo
open Go.Conc
open Go.Proofs.YtlmhpamhhgogaaaGreat.Sx
section
abbrev NoS:Loc->Prop:=λ_=>zV
abbrev TrK:zp->Prop:=λ_=>True
def qQE:∀(w:zp)(d:Z),TrK w->TrK (w.at d):=λ_ _ h=>h
def q2Q{S}{B q}(u:B<=q){e}(h:EvC S B e):EvC S q e:=by
 obtain⟨a,rfl,hs,w⟩:=h;exact⟨a,rfl,hs,zQ w u⟩
def qsQ{P}{main}{R}{D B}{S S'}(C:∀w w' es,D w w' es->B w w' es)(A:∀g w,S g w->S' g w):∀{n:Z}{g:zH}{w:zp},Goes P main R D S n g w->Goes P main R B S' n g w
 |0,_,_,h=>λq u=>A _ _ (h q u)
 |n+1,g,w,h=>by
  rcases h with h|⟨hs,h⟩
  .exact .inl λq u=>A _ _ (h q u)
  .refine .inr ⟨hs,λq u=>?_⟩;have:=h q u;revert this;cases zAE P main g q<;>simp only[GStep.goes,imp_self];exact λ⟨d,x⟩=>⟨C _ _ _ d,qsQ C A x⟩
def qBO{P}{main}{K}{S}{B q}(w:B<=q){s}{g u}(h:AtIn P main K S B s g u):AtIn P main K S q s g u:=by
 obtain⟨A,C,D,E,H,es,L,M⟩:=h;exact⟨A,C,D,E,H,es,λe Q=>q2Q w (L e Q),M⟩
def qJC{P}{main}{K}{S}{B w}(q:B<=w){s}{n}{g}(h:zDU P main K S B s n g):zDU P main K S w s n g:=by
 rcases h with⟨k,C,rfl,h⟩|⟨rfl,D,u,rfl,h⟩
 .exact .inl ⟨k,C,rfl,qsQ (λ_ _ _ A=>⟨A.1,λe E=>q2Q q (A.2 e E)⟩) (λ_ _⟨u,h⟩=>⟨u,qBO q h⟩) h⟩
 .exact .inr ⟨rfl,D,u,rfl,qBO q h⟩
def qZN{P}{K}{S}{B q}(w:B<=q){u}{i n}{g}{o}(h:Idle P K S B u i n g o):Idle P K S q u i n g o:=by
 cases o with
 |none=>exact h
 |some s=>exact qJC w h
def qcJ{P}{K}{S}{B u}{Mem}{Inb}{h}{A}{D}{w}{q}(C:Ring P K S B Mem Inb h A D w q)(E:B<=u):Ring P K S u Mem Inb h A D w q:=
 C.mono E λi g H L=>qZN E (C.idle i g H L)
def qaZ(x:MemAct):∃B,x.low B:=by
 cases x with
 |access e=>
  obtain⟨l,wr,s⟩:=e;cases l with
  |cell a=>exact⟨a.block+1,zBI _⟩
  |obj r=>exact⟨r+1,zBI _⟩
  |_=>exact⟨0,trivial⟩
 |send c k=>exact⟨c+1,zBI _⟩
 |sendDone c k=>exact⟨c+1,zBI _⟩
 |recv c k cap=>exact⟨c+1,zBI _⟩
 |recvDone c k=>exact⟨c+1,zBI _⟩
 |close c=>exact⟨c+1,zBI _⟩
 |recvClosed c=>exact⟨c+1,zBI _⟩
 |mark m=>
  cases m<;>first|exact⟨0,trivial⟩|(rename_i a;exact⟨a.block+1,zBI _⟩)
 |_=>exact⟨0,trivial⟩
def qCM(es:zR Event)(B0:Z):∃B,B0<=B/\∀e∈es,(MemAct.ofEvent e).low B:=by
 have:∀l:F Event,∃B,B0<=B/\∀e∈l,(MemAct.ofEvent e).low B:=by
  intro l
  induction l with
  |nil=>exact⟨B0,zG _,λe q=>by simp at q⟩
  |cons x l u=>
   obtain⟨B,E,h⟩:=u;obtain⟨w,A⟩:=qaZ (MemAct.ofEvent x);refine⟨max B w,sa,λe q=>?_⟩;rcases zJ.1 q with rfl|q
   .exact MemAct.low_mono sa A
   .exact MemAct.low_mono sa (h e q)
 obtain⟨B,C,D⟩:=this es.toList;exact⟨B,C,λe q=>D e (Array.mem_toList_iff.2 q)⟩
variable{P:zt}{Mem:Z->Prop}{Inb:Z->zs Seat}{h:Z}
structure ER(P:zt)(Mem:Z->Prop)(Inb:Z->zs Seat)(h n:Z)(a:zH)(w:zp)(m:Machine)(T:zDQ):Prop where
 of:∃gs sl q B,m=zA8 gs w sl/\n<=gs.size/\gs[h]?=O a/\Ring P TrK NoS B Mem Inb h T gs w q
def Comes(P:zt)(m:Machine)(w:zDQ)(Q:Machine->zDQ->Prop):Prop:=∃N q u,runNT P N m w=(.next q,u)/\Q q u
def Comes.now{m}{q}{Q}(h:Q m q):Comes P m q Q:=⟨0,m,q,rfl,h⟩
def Comes.trans{m}{u}{Q w}(h:Comes P m u Q)(k:∀m' q,Q m' q->Comes P m' q w):Comes P m u w:=by
 obtain⟨N,m',q,A,B⟩:=h;obtain⟨C,D,E,H,L⟩:=k m' q B;exact⟨N+C,D,E,runNT_then A H,L⟩
def Comes.mono{m}{q}{Q u}(h:Comes P m q Q)(k:∀m' w,Q m' w->u m' w):Comes P m q u:=h.trans λ_ _ A=>.now (k _ _ A)
def qbJ{E:Env P}(hE:E.main=(h==0))(W:∀i s c,Inb i=O s->s.has c->c<E.N)(Y:∀f args c cs w R m u,(∀d,E.Big f args (w.at d) R)->ER P Mem Inb h 0 (Conc.G (zAW P f args .normal) (c::cs)) w m u->Comes P m u λm' A=>∃v w',R v w'/\ER P Mem Inb h 0 (Conc.G (c.finish v) cs) w' m' A):∀{a:zH}{w:zp},E.G a w->∀{m:Machine}{u:zDQ},ER P Mem Inb h 0 a w m u->Comes P m u λm' A=>∃a' w',E.Stop a' w'/\ER P Mem Inb h 0 a' w' m' A:=by
 intro a w aa
 induction aa with
 |@stop a w hs=>exact λD=>.now ⟨a,w,by have:=hs w.drawn;exact this,D⟩
 |@step a w ab B C H ac _ L=>
  rintro m u ⟨aE,sl,aF,ad,rfl,_,ae,af⟩;obtain⟨N,ag,d,q,aG,Q,ah,aH,ai,aj,aI,T,ak⟩:=picked (sl:=sl) qQE ae ab af;obtain⟨U,al,V⟩:=ac q;obtain⟨an,ao,ap⟩:=qCM (H q) ad;rw[hE]at U;have aq:DH TrK NoS an Inb (w.at q) (C q) (H q):=⟨λ_=>trivial,λi s c ar au=>al c (W i s c ar au),λe M=>⟨λ_ _ av=>av.elim,(V e M).1,(V e M).2,ap e M⟩⟩;obtain⟨aw,ax⟩:=(qcJ ak ao).own (a':=B q) T aq;have ay:=runT_crowd_go (P:=P) (sl:=Q) T U;have az:ER P Mem Inb h 0 (B q) (C q) (zA8 ((ag.map (woken P a (B q) (C q))).setIfInBounds h (B q)) (C q) Q) (ah++zAT h a.frame.fn a.frame.place (H q)):=⟨_,_,_,_,rfl,zF _,ax,aw⟩;exact Comes.trans ⟨N+1,_,_,runNT_succ_of ai (aj.trans ay),az⟩ λm' A aA=>L q aA
 |@big f args c cs w R aB _ L=>
  intro m u D;exact(Y f args c cs w R m u aB D).trans λm' A⟨v,w',aC,aD⟩=>L v w' aC aD
end
end Go.Duo
namespace Go.Duo
open Go.Conc
open Go.ConcN (sumTo upd sumTo_upd upd_ne upd_same)
open Go.Proofs.YtlmhpamhhgogaaaGreat.Sx
abbrev qMF(P:zt)(St:Loc->Prop)(Lo:Z->Prop)(B:Z)(Kf:zDQ->Z->Prop)(Mem:Z->Prop)(Inb:Z->zs Seat)(Sp:Z->Prop)(T:zDQ)(gs:zR zH)(w:zp)(q:Z->Z):Prop:=
 TokCore P TrK St B Kf Mem Lo Inb Sp (λ_=>zV) T gs w q
abbrev Dx(P:zt)(B:Z)(Kf:zDQ->Z->Prop)(Mem:Z->Prop)(Inb:Z->zs Seat)(Sp:Z->Prop)(T:zDQ)(gs:zR zH)(w:zp)(q:Z->Z):Prop:=
 TokCore P TrK NoS B Kf Mem (λ_=>True) Inb Sp (λ_=>zV) T gs w q
def qlJ{Mem L u}{B}{K}{t}(h:PastG NoS Mem L B K t):PastG NoS Mem u B K t:=
 ⟨h.clean,λi a A hm=>(h.known i a A hm).imp id λ⟨_,y,_⟩=>y.elim,h.wrote,h.hears,h.seen⟩
def qJb{Mem L}{B}{K K'}{t}(h:PastG NoS Mem L B K t)(hk:∀i a,touchAt t i=O a->a.loc.isMemory=I->K i->K' i):PastG NoS Mem L B K' t:=
 ⟨h.clean,λi a u hm=>(h.known i a u hm).imp (hk i a u hm) id,h.wrote,h.hears,h.seen⟩
def qMQ{Mem u L}{B}{K}{t}(h:PastG NoS Mem L B K t)(hm:∀g,u g->Deaf t g=0):PastG NoS u L B K t:=
 ⟨h.clean,h.known,λ_ _ _ _ hs=>hs.elim,hm,h.seen⟩
section
variable{P:zt}{St:Loc->Prop}{Lo:Z->Prop}{B:Z}{Kf:zDQ->Z->Prop}{Mem:Z->Prop}{Inb:Z->zs Seat}{Sp:Z->Prop}{T:zDQ}{gs:zR zH}{w:zp}{q:Z->Z}{h:Z}
def q3D(C:Dx P B (λt=>Knows t h) Mem Inb (·=h) T gs w q):Ring P TrK NoS B Mem Inb h T gs w q:=
 ⟨C.idle,C.chans,C.wf,C.live,C.inj,C.above,C.mem,C.nomem,λi s u e=>⟨u,by rw[e];rfl⟩,qlJ C.past,trivial⟩
def qxH{A}(C:qMF P St Lo B Kf Mem Inb Sp T gs w q)(u:B<=A):qMF P St Lo A Kf Mem Inb Sp T gs w q:=
 ⟨λi g D E=>qZN u (C.idle i g D E),C.chans,C.wf,C.live,C.inj,C.above,λi s e=>⟨(C.mem i s e).1,λc H=>zQ ((C.mem i s e).2 c H) u⟩,C.nomem,C.lo,PastG.mono C.past u,C.keep⟩
def qRI(C:qMF P St Lo B Kf Mem Inb Sp T gs w q){w'}(hc:∀i s c,Inb i=O s->s.has c->w'.heap[c]?=w.heap[c]?):qMF P St Lo B Kf Mem Inb Sp T gs w' q:=
 ⟨C.idle,λi s c A e u=>by rw[hc i s c e u];exact C.chans i s c A e u,C.wf,C.live,C.inj,C.above,C.mem,C.nomem,C.lo,C.past,trivial⟩
def qBH(C:qMF P St Lo B Kf Mem Inb Sp T gs w q)(d):qMF P St Lo B Kf Mem Inb Sp T gs (w.at d) q:=qRI C λ_ _ _ _ _=>rfl
def qwH(C:qMF P St Lo B Kf Mem Inb Sp T gs w q){i}(L:Sp i)(V:i<gs.size){w'}(hc:∀i s c,Inb i=O s->s.has c->w'.heap[c]?=w.heap[c]?){ops}(E:∀op∈ops,op.g=i){D}(W:D.size=gs.size)(M:∀x,¬Sp x->D[x]?=gs[x]?)(Q:PastG St Mem Lo B (Kf (T++ops)) (T++ops)):qMF P St Lo B Kf Mem Inb Sp (T++ops) D w' q:=by
 have R:=qRI C hc;refine⟨λx y u H=>?_,R.chans,C.wf,λ_ _ u=>u.elim,C.inj,λj Y=>?_,C.mem,C.nomem,C.lo,Q,trivial⟩
 .have U:x≠i:=λe=>u (e▸L);rw[M x u]at H;have A:=C.idle x y u H;cases es:Inb x with
  |none=>rw[es]at A;exact⟨A.1,by rw[Deaf_other T (λz=>U z.symm) _ E];exact A.2⟩
  |some s=>rw[es]at A;exact A
 .rw[Deaf_other T (g':=i) sa _ E];exact C.above j sa
def qNP(C:qMF P St Lo B Kf Mem Inb Sp T gs w q){i}(A:Sp i)(a g'){w'}(hc:∀i s c,Inb i=O s->s.has c->w'.heap[c]?=w.heap[c]?):∀x,¬Sp x->((gs.map (woken P a g' w')).setIfInBounds i g')[x]?=gs[x]?:=by
 intro x u;have D:x≠i:=λe=>u (e▸A);rw[zO (λe=>D e.symm),zDt];cases e:gs[x]? with
 |none=>rfl
 |some y=>simp[woken_of_again ((qRI C hc).fixed u e)]
def qUB(C:qMF P St Lo B Kf Mem Inb Sp T gs w q){i}(u:Sp i){a a'}(ha:gs[i]?=O a){w'}{es}(hc:∀i s c,Inb i=O s->s.has c->w'.heap[c]?=w.heap[c]?)(D:PastG St Mem Lo B (Kf (T++zAT i a.frame.fn a.frame.place es)) (T++zAT i a.frame.fn a.frame.place es)):qMF P St Lo B Kf Mem Inb Sp (T++zAT i a.frame.fn a.frame.place es) ((gs.map (woken P a a' w')).setIfInBounds i a') w' q/\((gs.map (woken P a a' w')).setIfInBounds i a')[i]?=O a'/\∀x y,x≠i->gs[x]?=O y->((gs.map (woken P a a' w')).setIfInBounds i a')[x]?=O (woken P a a' w' y):=by
 have A:i<gs.size:=(zAg.1 ha).1;have E:∀op∈zAT i a.frame.fn a.frame.place es,op.g=i:=λop H=>by obtain⟨e,_,rfl⟩:=Go.Conc.mem_ofEvents H;rfl
 refine⟨qwH C u A hc E sd (qNP C u a a' hc) D,zS (by simpa using A),λx y L M=>?_⟩;rw[zO (λe=>L e.symm),zDt,M];rfl
def quC(C:qMF P St Lo B Kf Mem Inb Sp T gs w q)(D:∀i g,Sp i->gs[i]?=O g->awake g):∀g∈gs,awake g:=by
 intro g E;obtain⟨i,A,rfl⟩:=Array.mem_iff_getElem.1 E;by_cases e:Sp i
 .exact D i _ e (zAO A)
 .have u:=C.idle i _ e (zAO A);cases es:Inb i with
  |none=>rw[es]at u;exact awake_of (u.2.status.elim .inl λx=>.inr (.inr x))
  |some s=>rw[es]at u;exact awake_of ((Sits.status C.keep u).elim (λx=>.inl x.1) λx=>.inr (.inl x.1))
def qRM(H:∀t u i,Kf t i->Kf (t++u) i)(C:qMF P St Lo B Kf Mem Inb Sp T gs w q){i}{g}{sl}(L:gs[i]?=O g)(E:¬Sp i)(M:g.status=.running)(Q:∀x D,Sp x->gs[x]?=O D->D.again w=D)(R:∀x,¬Sp x->Inb x=zc):∃(A:zR zH)(ops:zR MemOp)(q':Z->Z),runT P (zA8 gs w sl) i=(.next (zA8 A w sl),ops)/\A.size=gs.size/\(∀x,Sp x->A[x]?=gs[x]?)/\qMF P St Lo B Kf Mem Inb Sp (T++ops) A w q'/\sumTo gs.size q'<sumTo gs.size q:=by
 obtain⟨A,ops,q',U,V,W,_,_,Y,aa⟩:=TokCore.by_step (sl:=sl) H C L E M Q (λh=>h.elim) (λs ab e _=>by rw[R i E]at e;cases e);exact⟨A,ops,q',U,V,W,Y,aa⟩
end
section
variable{P:zt}
def qgA(i)(fn)(pos:String):zAT i fn pos #[]=#[]:=by simp[zAT]
def qMM{B}:∀e∈(#[]:zR Event),EvHd NoS B e:=λe h=>by simp at h
def Pre(P:zt)(N:Z)(o:Obj)(S:Seat)(k':Z):Z->zH->Prop
 |0,g=>g.status=.running/\∃h,(∀w,w.heap.size=N->zAE P zb g w=.go h (w.alloc o) #[])/\zDU P zb TrK NoS 0 S k' h
 |n+1,g=>g.status=.running/\∃h,(∀w,zAE P zb g w=.go h w #[])/\Pre P N o S k' n h
def Pre.run{N}{o}{S}{k'}:∀{n:Z}{g:zH},Pre P N o S k' n g->g.status=.running
 |0,_,h=>h.1
 |_+1,_,h=>h.1
def Way(P:zt)(B:Z)(K:zp->Prop)(Stop:zH->Prop):Z->zH->Prop
 |0,g=>Stop g
 |n+1,g=>g.status=.running/\∃h,(∀w,K w->∃es,zAE P I g w=.go h w es/\∀e∈es,EvHd NoS B e)/\Way P B K Stop n h
def Way.goes{B:Z}{K:zp->Prop}{Stop:zH->Prop}{w:zp}(A:∀d,K (w.at d)):∀{n:Z}{g:zH}(e:Z),Way P B K Stop n g->Goes P I AtRel (DQ NoS B) (λg' w'=>Stop g'/\∃d,w'=w.at d) n g (w.at e)
 |0,g,e,h=>λC⟨d,u⟩=>⟨h,d,u⟩
 |n+1,g,e,⟨D,g',E,h⟩=>.inr ⟨D,λC⟨d,u⟩=>by
   subst u;obtain⟨es,H,L⟩:=E _ (A d);have M:zAE P I g ((w.at e).at d)=.go g' (w.at d) es:=H;rw[M,goes_go]
   exact⟨⟨rfl,L⟩,Way.goes A d h⟩⟩
def KA(W:zp)(o:Obj)(w:zp):Prop:=∃d,w=W.at d\/w=(W.alloc o).at d
def qJH(P:zt)(K:zp->Prop)(c:Z)(v:zg)(After:zH->Prop)(g:zH):Prop:=
 g.status=.running/\∃h z',(∀w,K w->zAE P I g w=.comm h #[scase c v z'] I .send w #[])/\After (zA1 h zAX)
def qNF(P:zt)(K:zp->Prop)(c:Z)(After:zH->Prop)(g:zH):Prop:=
 g.status=.running/\mayWake P g=I/\∃h,h.status=.running/\(∀w,K w->∀cap k,w.heap[c]?=O (.chan cap #[] zb k k zb)->zAE P I g w=.go h (w.setChan c cap #[] I k k zb) (zA2 c))/\After h
def qfA{m m'}{ops T}(h:stepT P m=(.next m',ops)):runNT P 1 m T=(.next m',T++ops):=by simp only[runNT,h]
section meet
variable{B:Z}{Mem:Z->Prop}{Inb:Z->zs Seat}{T:zDQ}{gs:zR zH}{w:zp}{q:Z->Z}{s c k:Z}{S:Seat}{v z z':zg}{a₂:zH}{sl:zs (Z×Z)}
def qYZ(M:s≠0)(u:Inb s=O S)(hk:S.cases=#[zAR c z])(aF:∀i,i≠0->i≠s->Inb i=zc)(aq:Mem 0){Inb'}(aG:∀x,x≠0->Inb' x=Inb x)(aH:Inb' 0=Inb 0\/Inb' 0=zc){nh}(aI:∀R,Deaf R 0=0->Idle P TrK NoS B R 0 nh (zA1 a₂ zAX) (Inb' 0))(bc:∀af c',Inb 0=O af->af.has c'->c'≠c):∀(ab:Z)(gs:zR zH)(d:Z)(sl:zs (Z×Z))(q:Z->Z)(T:zDQ),s<gs.size->gs[0]?=O (parked a₂ #[scase c v z'] .send)->0<q s->Dx P B (λt=>Knows t 0) Mem Inb (·=0) T gs (w.at d) q->w.heap[c]?=O (.chan 0 #[] zb k k zb)->sumTo gs.size q=ab->Comes P (zA8 gs (w.at d) sl) T λm' R=>Given P TrK NoS B Mem Inb' s S c 0 gs.size w v m' R:=by
 intro ab
 induction ab using Nat.strongRecOn with
 |_ ab aJ=>
 intro gs d sl q T aK C aL A ag bd;have aM:0<gs.size:=sa
 have ar:S.cases[0]?=O (zAR c z):=by rw[hk];rfl
 have au:S.has c:=⟨0,z,ar⟩;obtain⟨E,av⟩:∃E,gs[s]?=O E:=⟨gs[s],zAO aK⟩;have aN:zDU P (s==0) TrK NoS B S (q s) E:=by have:=A.idle s E M av;rwa [u]at this
 have aO:E.status=.running:=(Sits.status (w:=w) trivial aN).elim (·.1) (λz=>sa)
 obtain⟨i,g,H,U,L,V,ah⟩:=crowd_pick (P:=P) (w:=w.at d) (sl:=sl) (quC A λi g L V=>by
  subst L;rw[C]at V;obtain rfl:=zv V;exact awake_of (.inr (.inl rfl))) ⟨s,E,av,aO⟩
 rw[at_at']at ah;have ac:=qBH A H;rw[at_at']at ac;have ai:(w.at H).heap[c]?=O (.chan 0 #[] zb k k zb):=ag;by_cases e:i=0
 .subst e;rw[C]at L;obtain rfl:=zv L;cases V
 by_cases aj:i=s/\∃h,AtIn P (i==0) TrK NoS B S g h
 .obtain⟨rfl,h,Y⟩:=aj;obtain⟨_,_,_,_,aP,ak,aQ,aR⟩:=Y;obtain⟨aw,aT,aU,ax⟩:=evC_ops (i:=i) (fn:=g.frame.fn) (pos:=g.frame.place) aQ
  have aV:partners (gs.setIfInBounds i ph) c I=[(0,0)]:=by
   rw[partners_one (stand_get (zBw M) C) λx y D aW=>by
    rcases getElem?_stand gs i x y aW with⟨_,rfl⟩|⟨_,aX⟩
    .exact offersAt_ph _ _
    .exact TokCore.noSend ac D aX _]
   simp[offersAt_parked_send]
  have aY:∀(m:Z)(c':CommCase),m≠0->S.cases[m]?=O c'->NoWays (w.at H) (gs.setIfInBounds i ph) c':=by
   intro m c' hm al;rw[hk]at al;rcases m with _|m
   .exact absurd rfl hm
   .simp at al
  have aZ:=crowd_sel_recv_meets (sl:=U) L (aR _ trivial) ar aY ai (zBw M) C aV;have a0:PastH NoS Mem (λg=>g≠0/\(Inb g).isSome) B 0 (T++zAT i g.frame.fn g.frame.place ak):=PastH.appRead (qlJ A.past) (A.mem i S u).1 ⟨M,by rw[u];rfl⟩ aw aT (ax T) aU;have ay:=a0.give aq (A.mem i S u).1 a₂.frame.fn a₂.frame.place h.frame.fn h.frame.place k 0 ((A.mem i S u).2 c au);rw[zC0]at ay
  have a1:∀x,Deaf (T++zAT i g.frame.fn g.frame.place ak) x=Deaf T x:=λx=>by
   by_cases az:x=i
   .subst az;exact ax T
   .exact Deaf_other T (λz=>az z.symm) _ aw
  have aA:∀x,Deaf (T++(zAT i g.frame.fn g.frame.place ak++met 0 i a₂.frame.fn a₂.frame.place h.frame.fn h.frame.place c k 0)) x=Deaf T x:=λx=>by rw[<-zC0,Deaf_quiet (met_quiet _ _ _ _ _ _ _ _ _ x),a1]
  refine⟨1,_,_,qfA (ah.trans aZ),_,h,H,k,0,U,upd q 0 nh,rfl,sd,by rw[zS sf,finishComm_served],aP,ag,?_⟩
  exact Ring.pass (λ_ _ _ _ _ _ _ _ _ _ _ _ _=>trivial) (q3D ac) u au ai sd (λx D a2=>by rw[zO (λz=>a2 z.symm),zO (λz=>D z.symm)])
   (by rw[zO M,zS aM,finishComm_send]) aA aG aH (aI _ (by rw[aA];exact A.past.hears 0 aq)) ay
 .obtain⟨an,aB,ad,a3,aC,a4,a5,a6,a7,be⟩:=TokCore.by_step (sl:=U) (λt a8 i=>Knows.app a8) ac L e V
   (λx a9 D aa=>by subst D;rw[C]at aa;obtain rfl:=zv aa;exact again_send_open ai) (λao=>ao.elim)
   (λaf h ae Y=>⟨λao=>ao,λx a9 c' D aa al=>by
    subst D;rw[C]at aa;obtain rfl:=zv aa;rw[offersAt_parked_send,zh];intro ba;subst ba;by_cases aD:i=s
    .subst aD;rw[u]at ae;obtain rfl:=zv ae;exact aj ⟨rfl,h,Y⟩
    .rw[aF i e aD]at ae;cases ae⟩)
  have bb:0<ad s:=by
   by_cases aE:s=i
   .subst aE;rcases zDs (ad s)with ap|ap
    .obtain⟨h,Y⟩:=a6 S u ap;exact absurd ⟨rfl,h,Y⟩ aj
    .exact ap
   .rw[a5 s aE];exact aL
  have:=aJ (sumTo an.size ad) (by rw[aC];omega) an H U ad (T++aB) sa (by rw[a4 0 rfl];exact C) bb a7 ag rfl;rw[aC]at this
  exact Comes.trans (Q:=λm t=>m=zA8 an (w.at H) U/\t=T++aB) ⟨1,_,_,qfA (ah.trans a3),rfl,rfl⟩ λm' R hm=>by
   obtain⟨rfl,rfl⟩:=hm;exact this
end meet
section pre
variable{B:Z}{Mem:Z->Prop}{Inb:Z->zs Seat}{W:zp}{o:Obj}{s c k k':Z}{S:Seat}{v:zg}{After:zH->Prop}
def MS(P:zt)(B:Z)(W:zp)(o:Obj)(c:Z)(v:zg)(After:zH->Prop)(j:Z)(a:zH):Prop:=
 (∃h,j=h+1/\Way P B (KA W o) (qJH P (KA W o) c v After) h a)\/(j=0/\∃u z',a=parked u #[scase c v z'] .send/\After (zA1 u zAX))
def Way.run{K}{Stop}(u:∀g,Stop g->g.status=.running):∀{n:Z}{g:zH},Way P B K Stop n g->g.status=.running
 |0,_,h=>u _ h
 |_+1,_,h=>h.1
def qeM(W:zp)(d:Z)(o:Obj):(W.at d).alloc o=(W.alloc o).at d:=rfl
def heap_alloc_old{W:zp}{c:Z}{x o:Obj}(h:W.heap[c]?=O x):(W.alloc o).heap[c]?=W.heap[c]?:=by
 have u:=(zAg.1 h).1;show(W.heap.push o)[c]?=_;rw[zCz,zh sa]
def qLW(a2:0<s)(hc:W.heap[c]?=O (.chan 0 #[] zb k k zb))(aq:∀i,i≠0->Inb i=zc)(a3:∀X c',Inb 0=O X->X.has c'->c'≠c):∀(ad:Z)(gs:zR zH)(d:Z)(sl:zs (Z×Z))(q:Z->Z)(T:zDQ)(ks:Z)(b:zH)(j:Z)(a:zH),gs.size=s+1->gs[s]?=O b->Pre P W.heap.size o S k' ks b->gs[0]?=O a->MS P B W o c v After j a->Dx P B (λt=>Knows t 0) Mem Inb (λi=>i=0\/i=s) T gs (W.at d) q->ks+j+sumTo gs.size q=ad->Comes P (zA8 gs (W.at d) sl) T λm' ah=>∃u h sl' q' E j' a',m'=zA8 u ((W.alloc o).at h) sl'/\u.size=s+1/\u[s]?=O E/\zDU P zb TrK NoS 0 S k' E/\u[0]?=O a'/\MS P B W o c v After j' a'/\Dx P B (λt=>Knows t 0) Mem Inb (λi=>i=0\/i=s) ah u ((W.alloc o).at h) q':=by
 intro ad
 induction ad using Nat.strongRecOn with
 |_ ad aC=>
 intro gs d sl q T ks b j a ae C U M hM ar a4;have af:=U.run;have ai:s≠0:=sa
 have au:a.status=.running\/∃V z',a=parked V #[scase c v z'] .send:=by
  rcases hM with⟨j',_,Y⟩|⟨_,V,z',e,_⟩
  .exact .inl (Way.run (λg R=>R.1) Y)
  .exact .inr ⟨V,z',e⟩
 have al:∀h,a.again (W.at h)=a/\a.again ((W.alloc o).at h)=a:=λh=>by
  rcases au with Y|⟨V,z',rfl⟩
  .exact⟨again_of_running (.inl Y) _,again_of_running (.inl Y) _⟩
  .exact⟨again_send_open (w:=W.at h) hc,again_send_open (w:=(W.alloc o).at h) ((heap_alloc_old hc).trans hc)⟩
 have av:(s==0)=zb:=sf
 obtain⟨i,g,h,sl',aa,R,an⟩:=crowd_pick (P:=P) (w:=W.at d) (sl:=sl) (quC ar λi g aa R=>by
  rcases aa with rfl|rfl
  .rw[M]at R;obtain rfl:=zv R;rcases au with Y|⟨V,z',rfl⟩
   .exact awake_of (.inl Y)
   .exact awake_of (.inr (.inl rfl))
  .rw[C]at R;obtain rfl:=zv R;exact awake_of (.inl af)) ⟨s,b,C,af⟩
 rw[at_at']at an;have D:Dx P B (λt=>Knows t 0) Mem Inb (λi=>i=0\/i=s) T gs (W.at h) q:=qBH ar h
 have go:∀{u:zR zH}{q':Z->Z}{ops:zDQ}{aj:Z}{E:zH}{j':Z}{a':zH},runT P (zA8 gs (W.at h) sl') i=(.next (zA8 u (W.at h) sl'),ops)->u.size=s+1->u[s]?=O E->Pre P W.heap.size o S k' aj E->u[0]?=O a'->MS P B W o c v After j' a'->
   Dx P B (λt=>Knows t 0) Mem Inb (λi=>i=0\/i=s) (T++ops) u (W.at h) q'->aj+j'+sumTo u.size q'<ad->Comes P (zA8 gs (W.at d) sl) T λm' ah=>∃u h sl' q' E j' a',m'=zA8 u ((W.alloc o).at h) sl'/\u.size=s+1/\u[s]?=O E/\zDU P zb TrK NoS 0 S k' E/\u[0]?=O a'/\MS P B W o c v After j' a'/\
    Dx P B (λt=>Knows t 0) Mem Inb (λi=>i=0\/i=s) ah u ((W.alloc o).at h) q':=by
  intro u q' ops aj E j' a' ag aD aE aF aG aH aI aJ
  exact Comes.trans (Q:=λm t=>m=zA8 u (W.at h) sl'/\t=T++ops) ⟨1,_,_,qfA (an.trans ag),rfl,rfl⟩ λm' ah hm=>by
   obtain⟨rfl,rfl⟩:=hm;exact aC _ aJ u h sl' q' _ aj E j' a' aD aE aF aG aH aI rfl
 by_cases aK:i=0
 .subst aK;rw[M]at aa;obtain rfl:=zv aa;rcases hM with⟨j',rfl,hW⟩|⟨_,V,z',rfl,_⟩
  .cases j' with
   |zero=>
    obtain⟨ag,V,z',aL,aM⟩:=hW
    have aN:partners (gs.setIfInBounds 0 ph) c zb=[]:=partners_nil λx y aO=>by
     rcases getElem?_stand gs 0 x y aO with⟨_,rfl⟩|⟨A,ao⟩
     .exact offersAt_ph _ _
     .by_cases aP:x=s
      .subst aP;rw[C]at ao;obtain rfl:=zv ao;exact offersAt_of_not_blocked (by rw[af];simp) _ _
      .exact TokCore.noRecvAt D sa ao λaw ax _=>by rw[aq x A]at ax;cases ax
    have aQ:∀ay∈#[scase c v z'],NoWays (W.at h) (gs.setIfInBounds 0 ph) ay:=by
     intro ay az;simp only[zAz,zJ,zAd,zBh]at az;subst az;exact ways_send_none (w₁:=W.at h) hc (zG _) aN
    have H:=crowd_waits (P:=P) (sl:=sl') M (aL _ ⟨h,.inl rfl⟩) aQ;rw[qgA]at H;refine go (q':=q) (ops:=#[]) (j':=0) H (by simp[ae]) (by rw[zO (λe=>ai e.symm)];exact C) U (zS sa) (.inr ⟨rfl,V,z',rfl,aM⟩) ?_ sf;exact qwH D (.inl rfl) sa (λ_ _ _ _ _=>rfl) sd sd (λx A=>zO (λe=>A (.inl e.symm))) (by simpa using D.past)
   |succ j'=>
    obtain⟨ag,ac,L,hW⟩:=hW;obtain⟨es,L,aR⟩:=L _ ⟨h,.inl rfl⟩;obtain⟨aT,hs,aU,aV⟩:=evHd_ops (i:=0) (fn:=a.frame.fn) (pos:=a.frame.place) aR;have H:=runT_crowd_go (P:=P) (sl:=sl') M L;obtain⟨ab,aW,A⟩:=qUB D (.inl rfl) (a':=ac) M (w':=W.at h) (λ_ _ _ _ _=>rfl) (PastH.appH D.past aT hs (aV T) aU);refine go H (by simp[ae]) (A s b ai C) (by rw[woken_run af];exact U) aW (.inl ⟨j',rfl,hW⟩) ab sf
  .cases R
 by_cases es:i=s
 .subst es;rw[C]at aa;obtain rfl:=zv aa;cases ks with
  |zero=>
   obtain⟨ag,ac,L,aX⟩:=U;have L:=L (W.at h) rfl;rw[qeM]at L;have H:=runT_crowd_go (P:=P) (sl:=sl') C (by rw[av];exact L)
   have aY:∀i s c,Inb i=O s->s.has c->((W.alloc o).at h).heap[c]?=(W.at h).heap[c]?:=λaZ aw c' e a0=>by
    obtain⟨cap,a5,Y⟩:=D.chans aZ aw c' (λz=>z) e a0;exact heap_alloc_old (W:=W) Y
   obtain⟨ab,ap,A⟩:=qUB D (.inr rfl) (a':=ac) C (es:=#[]) aY (by rw[qgA];simpa using D.past);refine⟨1,_,_,qfA (an.trans H),_,h,sl',q,ac,j,a,rfl,by simp[ae],ap,aX,?_,hM,ab⟩;rw[A 0 a (zBw ai) M,woken_of_again (al h).2]
  |succ ks=>
   obtain⟨ag,ac,L,U⟩:=U;have H:=runT_crowd_go (P:=P) (sl:=sl') C (by rw[av];exact L (W.at h));obtain⟨ab,ap,A⟩:=qUB D (.inr rfl) (a':=ac) C (w':=W.at h) (es:=#[]) (λ_ _ _ _ _=>rfl) (by rw[qgA];simpa using D.past);refine go H (by simp[ae]) ap U ?_ hM ab sf;rw[A 0 a (zBw ai) M,woken_of_again (al h).1]
 .obtain⟨u,ops,q',H,aA,aB,ab,a6⟩:=qRM (sl:=sl') (λt a1 i=>Knows.app a1) D aa sa R (λx a7 A ak=>by
   rcases A with rfl|rfl
   .rw[M]at ak;obtain rfl:=zv ak;exact(al h).1
   .rw[C]at ak;obtain rfl:=zv ak;exact again_of_running (.inl af) _) (λx A=>aq x λe=>A (.inl e))
  exact go H (aA.trans ae) (by rw[aB s (.inr rfl)];exact C) U (by rw[aB 0 (.inl rfl)];exact M) hM ab (by rw[aA];omega)
def qmN{U}{T}{gs}{w}{q}(C:Dx P B U Mem Inb (λi=>i=0\/i=s) T gs w q)(ah:s≠0)(ai:Inb s=zc)(ab:Mem s){b}(hb:gs[s]?=O b)(ac:zDU P zb TrK NoS 0 S k' b)(ad:S.Wf)(ae:∀c,S.has c->∃cap k,w.heap[c]?=O (.chan cap #[] zb k k zb))(af:∀c,S.has c->c<B)(V:∀i X c',Inb i=O X->X.has c'->¬S.has c'):Dx P B U Mem (upd Inb s (O S)) (·=0) T gs w (upd q s k'):=by
 have u:∀x,x≠s->upd Inb s (O S) x=Inb x:=λx E=>upd_ne Inb _ E;have ag:(s==0)=zb:=sf
 refine⟨λx y E Q=>?_,λi X c _ e Y=>?_,λi X e=>?_,λ_ _ E=>E.elim,λi H X aa c e D A R=>?_,C.above,λi X e=>?_,λi hM=>?_,λ_ _ _ _=>trivial,C.past,trivial⟩
 .by_cases h:x=s
  .subst h;rw[hb]at Q;obtain rfl:=zv Q;rw[upd_same,upd_same];show zDU P (x==0) TrK NoS B S k' b;rw[ag];exact qJC (zF _) ac
  .rw[upd_ne q k' h,u x h];exact C.idle x y (λA=>A.elim E h) Q
 .by_cases h:i=s
  .subst h;rw[upd_same]at e;obtain rfl:=zv e;exact ae c Y
  .rw[u i h]at e;exact C.chans i X c (λz=>z) e Y
 .by_cases h:i=s
  .subst h;rw[upd_same]at e;obtain rfl:=zv e;exact ad
  .rw[u i h]at e;exact C.wf i X e
 .by_cases L:i=s<;>by_cases M:H=s
  .rw[L,M]
  .subst L;rw[upd_same]at e;obtain rfl:=zv e;rw[u H M]at D;exact absurd A (V H aa c D R)
  .subst M;rw[upd_same]at D;obtain rfl:=zv D;rw[u i L]at e;exact absurd R (V i X c e A)
  .rw[u i L]at e;rw[u H M]at D;exact C.inj i H X aa c e D A R
 .by_cases h:i=s
  .subst h;rw[upd_same]at e;obtain rfl:=zv e;exact⟨ab,af⟩
  .rw[u i h]at e;exact C.mem i X e
 .by_cases h:i=s
  .subst h;exact .inl (by rw[upd_same];simp)
  .rw[u i h];exact(C.nomem i hM).imp id λA=>A.elim id λe=>absurd e h
def qDS{n0}{X}{z}{T}{gs}{q}{ks j d}{a b}{sl}(an:0<s)(hc:W.heap[c]?=O (.chan 0 #[] zb k k zb))(E:∀i,i≠0->Inb i=zc)(Y:Inb 0=O X)(aa:∀c',X.has c'->c'≠c)(ao:0<k')(ab:Mem 0)(ap:Mem s)(u:S.cases=#[zAR c z])(aq:c<B)(ar:gs.size=s+1)(hb:gs[s]?=O b)(au:Pre P W.heap.size o S k' ks b)(L:gs[0]?=O a)(hW:Way P B (KA W o) (qJH P (KA W o) c v λg=>zDU P I TrK NoS B X n0 g) j a)(C:Dx P B (λt=>Knows t 0) Mem Inb (λi=>i=0\/i=s) T gs (W.at d) q):Comes P (zA8 gs (W.at d) sl) T λm' H=>Given P TrK NoS B Mem (upd Inb s (O S)) s S c 0 (s+1) (W.alloc o) v m' H:=by
 have A:s≠0:=sa
 have av:S.cases[0]?=O (zAR c z):=by rw[u];rfl
 have M:∀c',S.has c'->c'=c:=λc'⟨m,z',h⟩=>by
  rw[u]at h;rcases m with _|m
  .simp only[zDc,zCB,zAk,zAR,CommCase.mk.injEq,Value.chan.injEq]at h;exact h.1.symm
  .simp at h
 have aw:S.Wf:=⟨λaR h=>by rw[u]at h;simp only[zAz,zJ,zAd,zBh]at h;exact⟨c,z,h⟩,λk m _ _ _ Q ac=>by
  rw[u]at Q ac;rcases k with _|k<;>rcases m with _|m
  .rfl
  .simp at ac
  .simp at Q
  .simp at Q⟩
 have ad:∀D c',Inb 0=O D->D.has c'->c'≠c:=λD c' e h=>by rw[Y]at e;obtain rfl:=zv e;exact aa c' h
 refine(qLW (After:=λg=>zDU P I TrK NoS B X n0 g) (S:=S) an hc E ad _ gs d sl q T ks b (j+1) a ar hb au L (.inl ⟨j,rfl,hW⟩) C rfl).trans ?_;rintro m' H ⟨ax,R,ae,aT,aU,aV,aW,rfl,af,ay,az,ag,aA,aB⟩;have ah:((W.alloc o).at R).heap[c]?=O (.chan 0 #[] zb k k zb):=(heap_alloc_old hc).trans hc
 have ai:=qmN aB A (E s A) ap ay az aw (λc' h=>by rw[M c' h];exact⟨0,k,ah⟩) (λc' h=>by rw[M c' h];exact aq) (λi D c' e h aC=>by
  by_cases aj:i=0
  .subst aj;exact ad D c' e h (M c' aC)
  .rw[E i aj]at e;cases e)
 have U:upd Inb s (O S) 0=O X:=by rw[upd_ne _ _ (zBw A)];exact Y
 have ak:upd Inb s (O S) s=O S:=upd_same _ _ _;rcases aA with⟨aX,rfl,aD⟩|⟨_,aE,z',rfl,V⟩
 .have aF:=q3D ai;obtain⟨N,aY,a₂,aZ,aG,a0,a1,aH,aI,aJ,⟨⟨aK,aE,z',aL,V⟩,e,rfl⟩,aM⟩:=hold_walk (sl:=ae) qQE (dq_dh _) ag aF (Way.goes (w:=W.alloc o) (λd=>⟨d,.inr rfl⟩) R aD);obtain⟨aN,aO,aP,aQ,al⟩:=give (w:=(W.alloc o).at e) (sl:=aG) qQE (λ_ _ _ _ _ _ _ _ _ _ _ _ _=>trivial) A sa ak av ab aJ aK (λd=>aL _ ⟨d,.inr rfl⟩) qMM aM (Inb':=upd Inb s (O S)) (λ_ _=>rfl) (.inl rfl) (nh:=n0) (λH _=>by rw[U];exact V);refine⟨N+aN,aO,aP,runNT_then aH aQ,?_⟩;rw[aI,af]at al;exact al
 .have:=qYZ (B:=B) (v:=v) (z':=z') (nh:=n0) A ak u (λi L hs=>by rw[upd_ne _ _ hs];exact E i L) ab (Inb':=upd Inb s (O S)) (λ_ _=>rfl) (.inl rfl) (λH _=>by rw[U];exact V) (λa2 c' e h=>by rw[U]at e;obtain rfl:=zv e;exact aa c' h)
   _ ax R ae _ _ sa ag (by rw[upd_same];exact ao) ai ah rfl
  rw[af]at this;exact this
def qRH{W:zp}{c:Z}(h:c<W.heap.size)(o:Obj)(cap:Z)(u:zR zg)(cl:zM)(a b:Z)(A:zM):(W.setChan c cap u cl a b A).alloc o=(W.alloc o).setChan c cap u cl a b A:=by
 have e:(W.heap.setIfInBounds c (.chan cap u cl a b A)).push o=(W.heap.push o).setIfInBounds c (.chan cap u cl a b A):=by
  apply zDq;intro i;simp only[zCz,zBr,Array.size_setIfInBounds,Array.size_push];by_cases C:c=i
  .subst C;simp[h,Nat.ne_of_lt h];omega
  .simp[C]
 simp only[World.setChan,World.alloc,e]
def size_setChan(W:zp)(c cap:Z)(h:zR zg)(cl:zM)(a b:Z)(u:zM):(W.setChan c cap h cl a b u).heap.size=W.heap.size:=by simp[World.setChan]
def qMS{X}{m}(aJ:0<s)(al:c<W.heap.size)(aK:∀i,i≠0->Inb i=zc)(aL:Inb 0=O X)(aM:∀c',X.has c'->c'≠c):∀(R:Z)(gs:zR zH)(d:Z)(sl:zs (Z×Z))(q:Z->Z)(T:zDQ)(ks:Z)(b:zH),gs.size=s+1->gs[s]?=O b->Pre P W.heap.size o S k' ks b->ClosedAt c m T->Dx P B (λt i=>Before t i m) Mem Inb (·=s) T gs ((W.setChan c 0 #[] I k k zb).at d) q->ks+sumTo gs.size q=R->Comes P (zA8 gs ((W.setChan c 0 #[] I k k zb).at d) sl) T λm' E=>∃h u sl' q' A,m'=zA8 h (((W.alloc o).setChan c 0 #[] I k k zb).at u) sl'/\h.size=s+1/\h[s]?=O A/\zDU P zb TrK NoS 0 S k' A/\ClosedAt c m E/\Dx P B (λt i=>Before t i m) Mem Inb (·=s) E h (((W.alloc o).setChan c 0 #[] I k k zb).at u) q':=by
 intro R
 induction R using Nat.strongRecOn with
 |_ R au=>
 intro gs d sl q T ks b ag C H an ao aN;have ac:=H.run;have ap:(s==0)=zb:=sf
 obtain⟨i,g,u,sl',U,ad,ah⟩:=crowd_pick (P:=P) (w:=(W.setChan c 0 #[] I k k zb).at d) (sl:=sl) (quC ao λi g U ad=>by
  subst U;rw[C]at ad;obtain rfl:=zv ad;exact awake_of (.inl ac)) ⟨s,b,C,ac⟩
 rw[at_at']at ah;have D:=qBH ao u;rw[at_at']at D
 have go:∀{h:zR zH}{q':Z->Z}{L:zDQ}{ae:Z}{A:zH},runT P (zA8 gs ((W.setChan c 0 #[] I k k zb).at u) sl') i=(.next (zA8 h ((W.setChan c 0 #[] I k k zb).at u) sl'),L)->h.size=s+1->h[s]?=O A->Pre P W.heap.size o S k' ae A->
   Dx P B (λt i=>Before t i m) Mem Inb (·=s) (T++L) h ((W.setChan c 0 #[] I k k zb).at u) q'->ae+sumTo h.size q'<R->Comes P (zA8 gs ((W.setChan c 0 #[] I k k zb).at d) sl) T λm' E=>∃h u sl' q' A,m'=zA8 h (((W.alloc o).setChan c 0 #[] I k k zb).at u) sl'/\h.size=s+1/\h[s]?=O A/\zDU P zb TrK NoS 0 S k' A/\ClosedAt c m E/\
    Dx P B (λt i=>Before t i m) Mem Inb (·=s) E h (((W.alloc o).setChan c 0 #[] I k k zb).at u) q':=by
  intro h q' L ae A ai av aw ax ay az
  exact Comes.trans (Q:=λaA t=>aA=zA8 h ((W.setChan c 0 #[] I k k zb).at u) sl'/\t=T++L) ⟨1,_,_,qfA (ah.trans ai),rfl,rfl⟩ λm' E hm=>by
   obtain⟨rfl,rfl⟩:=hm;exact au _ az h u sl' q' _ ae A av aw ax (an.app L) ay rfl
 by_cases es:i=s
 .subst es;rw[C]at U;obtain rfl:=zv U;cases ks with
  |zero=>
   obtain⟨ai,af,M,aB⟩:=H;have M:=M ((W.setChan c 0 #[] I k k zb).at u) (size_setChan ..);rw[qeM,qRH al]at M;have V:=runT_crowd_go (P:=P) (sl:=sl') C (by rw[ap];exact M)
   have aC:∀i s c',Inb i=O s->s.has c'->(((W.alloc o).setChan c 0 #[] I k k zb).at u).heap[c']?=((W.setChan c 0 #[] I k k zb).at u).heap[c']?:=λaD aq c' e aE=>by
    obtain⟨cap,aO,aF⟩:=D.chans aD aq c' (λz=>z) e aE;rw[<-qRH al];exact heap_alloc_old (W:=W.setChan c 0 #[] I k k zb) aF
   obtain⟨Y,aj,aa⟩:=qUB D rfl (a':=af) C (es:=#[]) aC (by rw[qgA];simpa using D.past);exact⟨1,_,_,qfA (ah.trans V),_,u,sl',q,af,rfl,by simp[ag],aj,aB,an.app _,Y⟩
  |succ ks=>
   obtain⟨ai,af,M,H⟩:=H;have V:=runT_crowd_go (P:=P) (sl:=sl') C (by rw[ap];exact M ((W.setChan c 0 #[] I k k zb).at u));obtain⟨Y,aj,aa⟩:=qUB D rfl (a':=af) C (w':=(W.setChan c 0 #[] I k k zb).at u) (es:=#[]) (λ_ _ _ _ _=>rfl) (by rw[qgA];simpa using D.past);exact go V (by simp[ag]) aj H Y sf
 .obtain⟨h,L,q',V,ar,aG,_,_,Y,aP⟩:=TokCore.by_step (sl:=sl') (λt aH i=>Before.app aH) D U es ad
   (λx aI aa ab=>by subst aa;rw[C]at ab;obtain rfl:=zv ab;exact again_of_running (.inl ac) _) (λak=>ak.elim)
   (λaq aQ _ _=>⟨λak=>ak,λx aI c' aa ab _=>by subst aa;rw[C]at ab;obtain rfl:=zv ab;exact offersAt_of_not_blocked (by rw[ac];simp) _ _⟩)
  exact go V (ar.trans ag) (by rw[aG s rfl];exact C) H Y (by rw[ar];omega)
def qgV(P:zt)(B:Z)(Mem:Z->Prop)(Inb:Z->zs Seat)(W:zp)(o:Obj)(s c k k':Z)(S X:Seat)(n0:Z)(m':Machine)(C:zDQ):Prop:=
 (∃h u D E A L H,m'=zA8 h ((W.alloc o).at u) D/\h.size=s+1/\h[s]?=O A/\zDU P zb TrK NoS 0 S k' A/\h[0]?=O H/\Way P B (KA W o) (qNF P (KA W o) c λg=>zDU P I TrK NoS B X n0 g) L H/\
  Dx P B (λt=>Knows t 0) Mem Inb (λi=>i=0\/i=s) C h ((W.alloc o).at u) E)\/
 (∃h u D E M A m,m'=zA8 h ((W.setChan c 0 #[] I k k zb).at u) D/\h.size=s+1/\h[s]?=O A/\Pre P W.heap.size o S k' M A/\ClosedAt c m C/\
  Dx P B (λt i=>Before t i m) Mem Inb (·=s) C h ((W.setChan c 0 #[] I k k zb).at u) E)
def qqY{X}{n0}(a6:0<s)(hc:W.heap[c]?=O (.chan 0 #[] zb k k zb))(aP:c<B)(aH:∀i,i≠0->Inb i=zc)(ar:Inb 0=O X)(aQ:∀c',X.has c'->c'≠c)(aR:Mem 0)(a7:Mem s):∀(ab:Z)(gs:zR zH)(d:Z)(sl:zs (Z×Z))(q:Z->Z)(T:zDQ)(ks:Z)(b:zH)(j:Z)(a:zH),gs.size=s+1->gs[s]?=O b->Pre P W.heap.size o S k' ks b->gs[0]?=O a->Way P B (KA W o) (qNF P (KA W o) c λg=>zDU P I TrK NoS B X n0 g) j a->Dx P B (λt=>Knows t 0) Mem Inb (λi=>i=0\/i=s) T gs (W.at d) q->ks+j+sumTo gs.size q=ab->Comes P (zA8 gs (W.at d) sl) T (qgV P B Mem Inb W o s c k k' S X n0):=by
 intro ab
 induction ab using Nat.strongRecOn with
 |_ ab aT=>
 intro gs d sl q T ks b j a ac C V L hW aI a8;have ad:=V.run;have aj:s≠0:=sa
 have ak:a.status=.running:=Way.run (λg Y=>Y.1) hW;have aJ:(s==0)=zb:=sf
 obtain⟨i,g,h,D,aa,Y,al⟩:=crowd_pick (P:=P) (w:=W.at d) (sl:=sl) (quC aI λi g aa Y=>by
  rcases aa with rfl|rfl
  .rw[L]at Y;obtain rfl:=zv Y;exact awake_of (.inl ak)
  .rw[C]at Y;obtain rfl:=zv Y;exact awake_of (.inl ad)) ⟨s,b,C,ad⟩
 rw[at_at']at al;have E:Dx P B (λt=>Knows t 0) Mem Inb (λi=>i=0\/i=s) T gs (W.at h) q:=qBH aI h
 have go:∀{M:zR zH}{ae:Z->Z}{af:zDQ}{an:Z}{ao:zH}{ag:Z}{a':zH},runT P (zA8 gs (W.at h) D) i=(.next (zA8 M (W.at h) D),af)->M.size=s+1->M[s]?=O ao->Pre P W.heap.size o S k' an ao->M[0]?=O a'->
   Way P B (KA W o) (qNF P (KA W o) c λg=>zDU P I TrK NoS B X n0 g) ag a'->Dx P B (λt=>Knows t 0) Mem Inb (λi=>i=0\/i=s) (T++af) M (W.at h) ae->an+ag+sumTo M.size ae<ab->Comes P (zA8 gs (W.at d) sl) T (qgV P B Mem Inb W o s c k k' S X n0):=by
  intro M ae af an ao ag a' ah aU aV aW aX aY aZ a0
  exact Comes.trans (Q:=λm t=>m=zA8 M (W.at h) D/\t=T++af) ⟨1,_,_,qfA (al.trans ah),rfl,rfl⟩ λa9 ba hm=>by
   obtain⟨rfl,rfl⟩:=hm;exact aT _ a0 M h D ae _ an ao ag a' aU aV aW aX aY aZ rfl
 by_cases a1:i=0
 .subst a1;rw[L]at aa;obtain rfl:=zv aa;cases j with
  |zero=>
   obtain⟨ah,bb,R,bc,a2,au⟩:=hW;have A:zAE P I a (W.at h)=.go R ((W.setChan c 0 #[] I k k zb).at h) (zA2 c):=a2 _ ⟨h,.inl rfl⟩ 0 k hc;have U:=runT_crowd_go (P:=P) (sl:=D) L A;obtain⟨av,aw,ax,ay⟩:=evHd_ops (Still:=NoS) (B:=B) (i:=0) (fn:=a.frame.fn) (pos:=a.frame.place) (closeEvents_ok aP);have aK:PastH NoS Mem (λ_=>True) B 0 (T++zAT 0 a.frame.fn a.frame.place (zA2 c)):=PastH.appH E.past av aw (ay T) ax;have hm:(T++zAT 0 a.frame.fn a.frame.place (zA2 c))[T.size+1]?=O {g:=0,fn:=a.frame.fn,pos:=a.frame.place,act:=.close c}:=by rw[at_new,closeOps];rfl
   have az:=aK.toC (c:=c) hm rfl rfl sx (by
    rw[deaf_quiet (λop aA bd=>by
     rw[closeOps]at aA;simp only[zAz,zJ,zAd,zBh]at aA
     rcases aA with rfl|rfl<;>rfl) 1 sx]
    exact E.past.hears 0 aR)
   have aB:∀i s c',Inb i=O s->s.has c'->((W.setChan c 0 #[] I k k zb).at h).heap[c']?=(W.at h).heap[c']?:=λap aL c' e aC=>by
    by_cases aM:ap=0
    .subst aM;rw[ar]at e;obtain rfl:=zv e;exact zDP _ _ _ _ _ _ _ (zBw (aQ c' aC))
    .rw[aH ap aM]at e;cases e
   obtain⟨u,aD,H⟩:=qUB E (.inl rfl) (a':=R) L aB aK;refine⟨1,_,_,qfA (al.trans U),.inr ⟨_,h,D,upd q 0 n0,ks,b,_,rfl,by simp[ac],(H s b aj C).trans (by rw[woken_run ad]),V,⟨az.2.1,az.2.2⟩,?_⟩⟩;refine⟨λx y a3 aE=>?_,u.chans,u.wf,λ_ _ z=>z.elim,u.inj,u.above,u.mem,λx hM=>?_,λ_ _ _ _=>trivial,az.1,trivial⟩
   .by_cases aF:x=0
    .subst aF;rw[aD]at aE;obtain rfl:=zv aE;rw[upd_same,ar];exact au
    .rw[upd_ne q n0 aF];exact u.idle x y (λai=>ai.elim aF a3) aE
   .exact(u.nomem x hM).elim .inl λai=>ai.elim (λe=>.inl (by rw[e,ar];simp)) .inr
  |succ ag=>
   obtain⟨ah,R,A,hW⟩:=hW;obtain⟨es,A,a4⟩:=A _ ⟨h,.inl rfl⟩;obtain⟨av,aw,ax,ay⟩:=evHd_ops (i:=0) (fn:=a.frame.fn) (pos:=a.frame.place) a4;have U:=runT_crowd_go (P:=P) (sl:=D) L A;obtain⟨u,aD,H⟩:=qUB E (.inl rfl) (a':=R) L (w':=W.at h) (λ_ _ _ _ _=>rfl) (PastH.appH E.past av aw (ay T) ax);exact go U (by simp[ac]) (H s b aj C) (by rw[woken_run ad];exact V) aD hW u sf
 by_cases es:i=s
 .subst es;rw[C]at aa;obtain rfl:=zv aa;cases ks with
  |zero=>
   obtain⟨ah,R,A,au⟩:=V;have A:=A (W.at h) rfl;rw[qeM]at A;have U:=runT_crowd_go (P:=P) (sl:=D) C (by rw[aJ];exact A)
   have aB:∀i s c,Inb i=O s->s.has c->((W.alloc o).at h).heap[c]?=(W.at h).heap[c]?:=λap aL c' e aC=>by
    obtain⟨cap,be,ai⟩:=E.chans ap aL c' (λz=>z) e aC;exact heap_alloc_old (W:=W) ai
   obtain⟨u,aG,H⟩:=qUB E (.inr rfl) (a':=R) C (es:=#[]) aB (by rw[qgA];simpa using E.past);refine⟨1,_,_,qfA (al.trans U),.inl ⟨_,h,D,q,R,j,a,rfl,by simp[ac],aG,au,?_,hW,u⟩⟩;rw[H 0 a (zBw aj) L,woken_run ak]
  |succ ks=>
   obtain⟨ah,R,A,V⟩:=V;have U:=runT_crowd_go (P:=P) (sl:=D) C (by rw[aJ];exact A (W.at h));obtain⟨u,aG,H⟩:=qUB E (.inr rfl) (a':=R) C (w':=W.at h) (es:=#[]) (λ_ _ _ _ _=>rfl) (by rw[qgA];simpa using E.past);refine go U (by simp[ac]) aG V ?_ hW u sf;rw[H 0 a (zBw aj) L,woken_run ak]
 .obtain⟨M,af,ae,U,aN,aO,u,bf⟩:=qRM (sl:=D) (λt a5 i=>Knows.app a5) E aa sa Y (λx bg H aq=>by
   rcases H with rfl|rfl
   .rw[L]at aq;obtain rfl:=zv aq;exact again_of_running (.inl ak) _
   .rw[C]at aq;obtain rfl:=zv aq;exact again_of_running (.inl ad) _) (λx H=>aH x λe=>H (.inl e))
  exact go U (aN.trans ac) (by rw[aO s (.inr rfl)];exact C) V (by rw[aO 0 (.inl rfl)];exact L) hW u (by rw[aN];omega)
def qiP(P:zt)(B:Z)(Mem:Z->Prop)(Inb:Z->zs Seat)(W:zp)(s c k:Z)(S:Seat)(z:zg)(m':Machine)(D:zDQ):Prop:=
 ∃h A C E H u,m'=zA8 h ((W.setChan c 0 #[] I k k zb).at C) E/\h.size=s+1/\h[s]?=O (zA1 A (zAV S.cases S.shape 0 z zb))/\S.home A/\u 0/\u s/\Ring P TrK NoS B u Inb s D h ((W.setChan c 0 #[] I k k zb).at C) H
def one_has{c}{z}(u:S.cases=#[zAR c z]):∀c',S.has c'->c'=c:=λc'⟨m,z',h⟩=>by
 rw[u]at h;rcases m with _|m
 .simp only[zDc,zCB,zAk,zAR,CommCase.mk.injEq,Value.chan.injEq]at h;exact h.1.symm
 .simp at h
def one_wf{c}{z}(A:S.cases=#[zAR c z]):S.Wf:=⟨λD h=>by rw[A]at h;simp only[zAz,zJ,zAd,zBh]at h;exact⟨c,z,h⟩,λk m _ _ _ u C=>by
 rw[A]at u C;rcases k with _|k<;>rcases m with _|m
 .rfl
 .simp at C
 .simp at u
 .simp at u⟩
def qFP{n0}{X}{z}{T}{gs}{q}{ks j d}{a b}{sl}(aD:0<s)(hc:W.heap[c]?=O (.chan 0 #[] zb k k zb))(L:∀i,i≠0->Inb i=zc)(H:Inb 0=O X)(ag:∀c',X.has c'->c'≠c)(bB:0<k')(ac:Mem 0)(U:Mem s)(ah:S.cases=#[zAR c z])(ai:c<B)(aV:gs.size=s+1)(hb:gs[s]?=O b)(aW:Pre P W.heap.size o S k' ks b)(aX:gs[0]?=O a)(hW:Way P B (KA W o) (qNF P (KA W o) c λg=>zDU P I TrK NoS B X n0 g) j a)(C:Dx P B (λt=>Knows t 0) Mem Inb (λi=>i=0\/i=s) T gs (W.at d) q):Comes P (zA8 gs (W.at d) sl) T (qiP P B Mem Inb (W.alloc o) s c k S z):=by
 have M:s≠0:=sa
 have aY:c<W.heap.size:=(zAg.1 hc).1;have aE:S.cases[0]?=O (zAR c z):=by rw[ah];rfl
 have V:=one_has ah;have aF:=one_wf ah;have aZ:∀A c',Inb 0=O A->A.has c'->c'≠c:=λA c' e h=>by rw[H]at e;obtain rfl:=zv e;exact ag c' h
 have aj:∀i X c',Inb i=O X->X.has c'->¬S.has c':=λi A c' e h Y=>by
  by_cases aG:i=0
  .subst aG;exact aZ A c' e h (V c' Y)
  .rw[L i aG]at e;cases e
 have a0:upd Inb s (O S) 0=O X:=by rw[upd_ne _ _ (zBw M)];exact H
 have aH:upd Inb s (O S) s=O S:=upd_same _ _ _;refine(qqY (S:=S) (n0:=n0) aD hc ai L H ag ac U _ gs d sl q T ks b j a aV hb aW aX hW C rfl).trans ?_;rintro bC aI (⟨aJ,ad,ak,aK,aL,bD,bE,rfl,aM,al,a1,a2,a3,an⟩|⟨aJ,ad,ak,aK,a4,aL,m,rfl,aM,al,a5,a6,an⟩)
 .have ao:((W.alloc o).at ad).heap[c]?=O (.chan 0 #[] zb k k zb):=(heap_alloc_old hc).trans hc;have a7:=qmN an M (L s M) U al a1 aF (λc' h=>by rw[V c' h];exact⟨0,k,ao⟩) (λc' h=>by rw[V c' h];exact ai) aj;have a8:=q3D a7;obtain⟨N,aN,a₂,bF,ap,bG,aq,a9,ba,bb,⟨⟨bc,bd,bH,be,bf,bg⟩,e,rfl⟩,bh⟩:=hold_walk (sl:=ak) qQE (dq_dh _) a2 a8 (Way.goes (w:=W.alloc o) (λd=>⟨d,.inr rfl⟩) ad a3)
  obtain⟨bi,ar,au,av,aw,ax,ay,az,bj,aA,aB,aC⟩:=give_close (w:=(W.alloc o).at e) (sl:=ap) qQE (λ_ _ _ _ _ _ _ _ _ _ _ _ _=>trivial) M sa aH aE ac bb bc bd be ao (λd=>bf _ ⟨d,.inr rfl⟩ 0 k ao) bh
   (Inb':=Inb) (λx bI bl=>(upd_ne _ _ bl).symm) (.inl (by rw[a0,H])) (L s M) (nh:=n0) (λaI _=>by rw[H];exact bg)
  exact⟨N+bi,_,ax,runNT_then a9 az,ar,au,av,aw,ay,_,rfl,sa,aA,aB,⟨ac,.inl (by rw[H];simp)⟩,⟨U,.inr rfl⟩,aC⟩
 .refine(qMS (X:=X) (S:=S) aD aY L H ag _ aJ ad ak aK aI a4 aL aM al a5 a6 an rfl).trans ?_;rintro bJ bm ⟨aN,aO,ap,aq,aP,rfl,ba,aQ,aR,bn,E⟩;have bo:(s==0)=zb:=sf
  have bp:(((W.alloc o).setChan c 0 #[] I k k zb).at aO).heap[c]?=O (.chan 0 #[] I k k zb):=heap_setChan_self (W.alloc o) (o:=.chan 0 #[] zb k k zb) ((heap_alloc_old hc).trans hc) ..;have D:∀x,x≠s->upd Inb s (O S) x=Inb x:=λx aa=>upd_ne Inb _ aa
  have bq:aP.status=.running:=by
   rcases aR with⟨br,bt,_,bu⟩|⟨e,_⟩
   .exact(Sits.status (w:=W) trivial (.inl ⟨br,bt,rfl,bu⟩)).elim (·.1) λz=>sa
   .omega
  have bv:Closing P TrK NoS B Mem (upd Inb s (O S)) s c m bm aN (((W.alloc o).setChan c 0 #[] I k k zb).at aO) (upd aq s k'):=by
   refine⟨⟨λx y _ Q=>?_,λi A c' bw e bx=>?_,λi A e=>?_,λx y aa Q=>?_,λi ab aT aU c' e R h Y=>?_,E.above,λi A e=>?_,λi hM=>?_,λi A _ e=>by rw[e];rfl,qlJ E.past,trivial⟩,bn⟩
   .by_cases u:x=s
    .subst u;rw[aQ]at Q;obtain rfl:=zv Q;rw[upd_same,upd_same];show zDU P (x==0) TrK NoS B S k' aP;rw[bo];exact qJC (zF _) aR
    .rw[upd_ne aq k' u,D x u];exact E.idle x y u Q
   .rw[D i bw]at e;exact E.chans i A c' (λz=>z) e bx
   .by_cases u:i=s
    .subst u;rw[upd_same]at e;obtain rfl:=zv e;exact aF
    .rw[D i u]at e;exact E.wf i A e
   .subst aa;rw[aQ]at Q;obtain rfl:=zv Q;exact bq
   .by_cases ae:i=s<;>by_cases af:ab=s
    .rw[ae,af]
    .subst ae;rw[upd_same]at e;obtain rfl:=zv e;rw[D ab af]at R;exact absurd h (aj ab aU c' R Y)
    .subst af;rw[upd_same]at R;obtain rfl:=zv R;rw[D i ae]at e;exact absurd Y (aj i aT c' e h)
    .rw[D i ae]at e;rw[D ab af]at R;exact E.inj i ab aT aU c' e R h Y
   .by_cases u:i=s
    .subst u;rw[upd_same]at e;obtain rfl:=zv e;exact⟨U,λc' h=>by rw[V c' h];exact ai⟩
    .rw[D i u]at e;exact E.mem i A e
   .by_cases u:i=s
    .subst u;exact .inl (by rw[upd_same];simp)
    .rw[D i u];exact .inl ((E.nomem i hM).elim id λe=>absurd e u)
  obtain⟨bz,ar,au,av,aw,ax,ay,az,bj,aA,aB,aC⟩:=close_run (sl:=ap) qQE aH aE sa bp (λc' h bA=>absurd (V c' h) bA) bv (Inb':=Inb) (λx aa=>(D x aa).symm) (L s M);exact⟨bz,_,ax,az,ar,au,av,aw,ay,Mem,rfl,sa,aA,aB,ac,U,aC⟩
end pre
end
section
variable{P:zt}
def Bj(cl co:Z)(zW zA:zg)(live:zM):zR CommCase:=#[zAR cl zW,if live then zAR co zA else rcaseNil zA]
section
variable{gs:zR zH}{w:zp}{sl:zs (Z×Z)}{i cl co:Z}{g g₂:zH}{zW zA:zg}{live shut oc:zM}{s r s' r':Z}
def q0L(Y:gs[i]?=O g)(h:zAE P (i==0) g w=.comm g₂ (Bj cl co zW zA live) I .select w #[])(D:partners (gs.setIfInBounds i ph) cl I=[])(af:partners (gs.setIfInBounds i ph) co I=[])(b)(A:w.heap[cl]?=O (.chan 1 b.toArray shut s r zb))(Q:w.heap[co]?=O (.chan 0 #[] oc s' r' zb)):(b=zc/\shut=zb/\(live=I->oc=zb)/\runT P (zA8 gs w sl) i=(.next (zA8 (gs.setIfInBounds i (parked g₂ (Bj cl co zW zA live) .select)) w sl),#[]))\/∃d,(∃x,b=O x/\runT P (zA8 gs w sl) i=(.next (zA8 (gs.setIfInBounds i (zA1 g₂ (zAV (Bj cl co zW zA live) .select 0 x I))) ((w.at d).setChan cl 1 #[] shut s (r+1) zb) sl),#[{g:=i,fn:=g₂.frame.fn,pos:=g₂.frame.place,act:=.recv cl r 1},{g:=i,fn:=g₂.frame.fn,pos:=g₂.frame.place,act:=.recvDone cl r}]))\/(b=zc/\shut=I/\runT P (zA8 gs w sl) i=(.next (zA8 (gs.setIfInBounds i (zA1 g₂ (zAV (Bj cl co zW zA live) .select 0 zW zb))) (w.at d) sl),#[{g:=i,fn:=g₂.frame.fn,pos:=g₂.frame.place,act:=.recvClosed cl}]))\/(live=I/\oc=I/\runT P (zA8 gs w sl) i=(.next (zA8 (gs.setIfInBounds i (zA1 g₂ (zAV (Bj cl co zW zA live) .select 1 zA zb))) (w.at d) sl),#[{g:=i,fn:=g₂.frame.fn,pos:=g₂.frame.place,act:=.recvClosed co}])):=by
 have U:=runT_crowd_comm (sl:=sl) Y h;rw[qgA]at U;have E:∀x,(gs.setIfInBounds i ph).setIfInBounds i x=gs.setIfInBounds i x:=set_stand gs i;have H:∀k v ok,Goroutine.finishComm P g₂ (Bj cl co zW zA live) .select k v ok=zA1 g₂ (zAV (Bj cl co zW zA live) .select k v ok):=λ_ _ _=>rfl
 have B:∀x∈Bj cl co zW zA live,illMade w x=zb:=by
  intro x aa;cases live<;>simp[Bj]at aa<;>rcases aa with rfl|rfl<;>simp[illMade,zAR,rcaseNil,A,Q]
 have ai:¬((Bj cl co zW zA live).any (illMade w))=I:=by rw[zBS];exact any_ill B
 have V:ways w (gs.setIfInBounds i ph) (zAR cl zW)=(if b.isSome then[.buffer]else if shut then[.closed]else[]):=by
  cases b<;>simp[ways,zAR,A,D]
 have ab:ways w (gs.setIfInBounds i ph) (zAR co zA)=(if oc then[.closed]else[]):=by
  simp[ways,zAR,Q,af]
 have ac:ways w (gs.setIfInBounds i ph) (rcaseNil zA)=[]:=rfl
 have R:(((Bj cl co zW zA live).zipIdx.toList.map λ(c,k)=>(k,c,ways w (gs.setIfInBounds i ph) c)).filter λ(_,_,q)=>!q.isEmpty)=
   (if b.isSome then[(0,zAR cl zW,[Go.Way.buffer])]else if shut then[(0,zAR cl zW,[Go.Way.closed])]else[])++(if live&&oc then[(1,zAR co zA,[Go.Way.closed])]else[]):=by
  cases live<;>cases b<;>cases shut<;>cases oc<;>simp[Bj,List.zipIdx,V,ab,ac]
 rw[U];by_cases ag:b=zc/\shut=zb/\(live=I->oc=zb)
 .left;obtain⟨rfl,rfl,ad⟩:=ag;refine⟨rfl,rfl,ad,?_⟩;rw[<-U]
  have:=crowd_waits (sl:=sl) Y h (λah W=>⟨B ah W,by
   cases live<;>simp[Bj]at W<;>rcases W with rfl|rfl
   .simp[V]
   .exact ac
   .simp[V]
   .simp[ab,ad]⟩)
  rw[this,qgA]
 .right;have T:w.drew.heap=w.heap:=rfl;have ae:∀n,n%2=0\/n%2=1:=λn=>sa
  have L:∀d,World.setChan (w.at d) cl 1 #[] shut s (r+1) zb={w.at d with heap:=w.heap.setIfInBounds cl (.chan 1 #[] shut s (r+1) zb)}:=λ_=>rfl;cases b with
  |some x=>
   cases C:(live&&oc)with
   |false=>
    refine⟨w.drawn,.inl ⟨x,rfl,?_⟩⟩;have u:(((Bj cl co zW zA live).zipIdx.toList.map λ(c,k)=>(k,c,ways w (gs.setIfInBounds i ph) c)).filter λ(_,_,q)=>!q.isEmpty)=[(0,zAR cl zW,[Go.Way.buffer])]:=by rw[R,C];rfl
    unfold communicate;simp only[u];rw[zh]
    .simp[choose,Sem.run,Question.forced,bind,Sem.bind,pure,zAR,A,D,E,H,zA8,L]<;>first|done|exact⟨rfl,rfl,rfl,rfl⟩|rfl
    .rw[zBS];exact any_ill B
   |true=>
    simp only[zj]at C;obtain⟨rfl,rfl⟩:=C;have u:(((Bj cl co zW zA I).zipIdx.toList.map λ(c,k)=>(k,c,ways w (gs.setIfInBounds i ph) c)).filter λ(_,_,q)=>!q.isEmpty)=[(0,zAR cl zW,[Go.Way.buffer]),(1,zAR co zA,[Go.Way.closed])]:=by rw[R];rfl
    refine⟨w.drawn+1,?_⟩;rcases ae (w.tape w.drawn (.select 2))with M|M
    .refine .inl ⟨x,rfl,?_⟩;unfold communicate;simp only[u];rw[zh]
     .simp[choose,Sem.run,Question.forced,Question.cut,bind,Sem.bind,pure,zAR,A,D,E,H,zA8,L,T,M]<;>first|done|exact⟨rfl,rfl,rfl,rfl⟩|rfl
     .rw[zBS];exact any_ill B
    .refine .inr (.inr ⟨rfl,rfl,?_⟩);unfold communicate;simp only[u];rw[zh]
     .simp[choose,Sem.run,Question.forced,Question.cut,bind,Sem.bind,pure,zAR,A,Q,D,E,H,zA8,L,T,M]<;>first|done|exact⟨rfl,rfl,rfl,rfl⟩|rfl
     .rw[zBS];exact any_ill B
  |none=>
   cases shut with
   |true=>
    cases C:(live&&oc)with
    |false=>
     refine⟨w.drawn,.inr (.inl ⟨rfl,rfl,?_⟩)⟩;have u:(((Bj cl co zW zA live).zipIdx.toList.map λ(c,k)=>(k,c,ways w (gs.setIfInBounds i ph) c)).filter λ(_,_,q)=>!q.isEmpty)=[(0,zAR cl zW,[Go.Way.closed])]:=by rw[R,C];rfl
     unfold communicate;simp only[u];rw[zh]
     .simp[choose,Sem.run,Question.forced,bind,Sem.bind,pure,zAR,A,D,E,H,zA8,L]<;>first|done|exact⟨rfl,rfl,rfl,rfl⟩|rfl
     .rw[zBS];exact any_ill B
    |true=>
     simp only[zj]at C;obtain⟨rfl,rfl⟩:=C;have u:(((Bj cl co zW zA I).zipIdx.toList.map λ(c,k)=>(k,c,ways w (gs.setIfInBounds i ph) c)).filter λ(_,_,q)=>!q.isEmpty)=[(0,zAR cl zW,[Go.Way.closed]),(1,zAR co zA,[Go.Way.closed])]:=by rw[R];rfl
     refine⟨w.drawn+1,?_⟩;rcases ae (w.tape w.drawn (.select 2))with M|M
     .refine .inr (.inl ⟨rfl,rfl,?_⟩);unfold communicate;simp only[u];rw[zh]
      .simp[choose,Sem.run,Question.forced,Question.cut,bind,Sem.bind,pure,zAR,A,D,E,H,zA8,L,T,M]<;>first|done|exact⟨rfl,rfl,rfl,rfl⟩|rfl
      .rw[zBS];exact any_ill B
     .refine .inr (.inr ⟨rfl,rfl,?_⟩);unfold communicate;simp only[u];rw[zh]
      .simp[choose,Sem.run,Question.forced,Question.cut,bind,Sem.bind,pure,zAR,A,Q,D,E,H,zA8,L,T,M]<;>first|done|exact⟨rfl,rfl,rfl,rfl⟩|rfl
      .rw[zBS];exact any_ill B
   |false=>
    have C:live=I/\oc=I:=by
     cases live<;>cases oc<;>simp_all
    obtain⟨rfl,rfl⟩:=C;refine⟨w.drawn,.inr (.inr ⟨rfl,rfl,?_⟩)⟩;have u:(((Bj cl co zW zA I).zipIdx.toList.map λ(c,k)=>(k,c,ways w (gs.setIfInBounds i ph) c)).filter λ(_,_,q)=>!q.isEmpty)=[(1,zAR co zA,[Go.Way.closed])]:=by rw[R];rfl
    unfold communicate;simp only[u];rw[zh]
    .simp[choose,Sem.run,Question.forced,bind,Sem.bind,pure,zAR,A,Q,D,E,H,zA8,L]<;>first|done|exact⟨rfl,rfl,rfl,rfl⟩|rfl
    .rw[zBS];exact any_ill B
end
end
section
structure RE(co cl:Z)(w w₁:zp):Prop where
 size:w₁.heap.size=w.heap.size
 heap:∀k,k≠co->k≠cl->w₁.heap[k]?=w.heap[k]?
 os:w₁.os=w.os
 tape:w₁.tape=w.tape
 output:w₁.output=w.output
def RE.refl{co cl}(w):RE co cl w w:=⟨rfl,λ_ _ _=>rfl,rfl,rfl,rfl⟩
def RE.at{co cl}(w)(d):RE co cl w (w.at d):=⟨rfl,λ_ _ _=>rfl,rfl,rfl,rfl⟩
def RE.trans{co cl}{a b c}(h:RE co cl a b)(k:RE co cl b c):RE co cl a c:=
 ⟨k.size.trans h.size,λn q u=>(k.heap n q u).trans (h.heap n q u),k.os.trans h.os,k.tape.trans h.tape,k.output.trans h.output⟩
def RE.chan{co cl}(w){c}(hc:c=co\/c=cl)(cap)(h)(x)(a b)(q):RE co cl w (w.setChan c cap h x a b q):=
 ⟨by simp[World.setChan],λk u A=>zDP _ _ _ _ _ _ _ (by rcases hc with rfl|rfl<;>omega),rfl,rfl,rfl⟩
def Hx(P:zt)(cl co:Z)(zW zA:zg)(u:zM)(g h:zH):Prop:=
 g.status=.running/\g.frame=h.frame/\g.callers=h.callers/\g.dying=h.dying/\∀q,zAE P I g q=.comm h (Bj cl co zW zA u) I .select q #[]
def Hx.tries{P}{cl co}{zW zA}{u}{g q}(h:Hx P cl co zW zA u g q)(cs)(A):Hx P cl co zW zA u {parked q cs A with status:=.running} q:=by
 obtain⟨_,B,C,D,E⟩:=h;exact⟨rfl,rfl,rfl,rfl,λw=>by rw[<-E w];exact stepG_same B.symm C.symm D.symm w⟩
inductive ME(P:zt)(co cl:Z)(Wv zW zA:zg)(Fin:zH->zp->Prop):zM->zM->zH->zp->Prop
 |step {got live:zM} {g:zH} {w:zp} (hr:g.status=.running) (gx:zp->zH) (wx:zp->zp) (ex:zp->zR Event)
   (h:∀w₁,RE co cl w w₁->zAE P I g w₁=.go (gx w₁) (wx w₁) (ex w₁)/\(wx w₁).heap[co]?=w₁.heap[co]?/\(wx w₁).heap[cl]?=w₁.heap[cl]?/\∀e∈ex w₁,∃x,e.loc=.cell x)
   (k:∀w₁,RE co cl w w₁->ME P co cl Wv zW zA Fin got live (gx w₁) (wx w₁)):ME P co cl Wv zW zA Fin got live g w
 |sel {got live:zM} {g g₂:zH} {w:zp} (ha:Hx P cl co zW zA live g g₂)
   (h0:got=zb->∀w₁,RE co cl w w₁->ME P co cl Wv zW zA Fin I live (zA1 g₂ (zAV (Bj cl co zW zA live) .select 0 Wv I)) w₁)
   (h1:live=I->∀w₁,RE co cl w w₁->ME P co cl Wv zW zA Fin got zb (zA1 g₂ (zAV (Bj cl co zW zA live) .select 1 zA zb)) w₁)
   (h2:got=I->∀w₁,RE co cl w w₁->Fin (zA1 g₂ (zAV (Bj cl co zW zA live) .select 0 zW zb)) w₁):ME P co cl Wv zW zA Fin got live g w
variable{P:zt}
def Quiet(P:zt)(Q:zH->Prop):Z->zH->Prop
 |0,g=>Q g
 |n+1,g=>g.status=.running/\∃h,(∀q,zAE P zb g q=.go h q #[])/\Quiet P Q n h
def qdV(P:zt)(c:Z)(Q:zH->Prop)(g:zH):Prop:=
 g.status=.running/\mayWake P g=I/\∃h,h.status=.running/\(∀q cap u s r,q.heap[c]?=O (.chan cap u zb s r zb)->zAE P zb g q=.go h (q.setChan c cap u I s r zb) (zA2 c))/\Q h
def SV(P:zt)(co cl k2 k3:Z):zM->Z->zH->Prop
 |false,k,g=>Quiet P (qdV P co λg=>Quiet P (qdV P cl (QuitsD P k3 0)) k2 g) k g
 |true,k,g=>Quiet P (qdV P cl (QuitsD P k3 0)) k g
def msV(k2:Z):zM->Z->Z
 |false,k=>k+k2+2
 |true,k=>k+1
def Quiet.run{Q}(q:∀g,Q g->g.status=.running):∀{n:Z}{g:zH},Quiet P Q n g->g.status=.running
 |0,_,h=>q _ h
 |_+1,_,h=>h.1
def SV.run{co cl k2 k3}{q}{k}{g}(h:SV P co cl k2 k3 q k g):g.status=.running:=by
 cases q<;>exact Quiet.run (λ_ h=>h.1) h
structure Chs(co cl:Z)(Wv:zg)(st sh got:zM)(w:zp):Prop where
 out:∃s r,w.heap[co]?=O (.chan 0 #[] st s r zb)
 last:∃s r,w.heap[cl]?=O (.chan 1 (if got then zc else O Wv:zs zg).toArray sh s r zb)
def Chs.of{co cl}{Wv}{q u got}{w w'}(h:Chs co cl Wv q u got w)(A:w'.heap[co]?=w.heap[co]?)(h2:w'.heap[cl]?=w.heap[cl]?):Chs co cl Wv q u got w':=
 ⟨by rw[A];exact h.out,by rw[h2];exact h.last⟩
def JG(co cl:Z)(l:Loc):Prop:=l=.obj co\/l=.obj cl
def K2(m:Z)(t:zDQ)(i:Z):Prop:=Knows t 0 i\/(Before t i m/\∃a,touchAt t i=O a/\∀x,a.loc≠.cell x)
def quE{t u}{i}{a:Touch}(h:touchAt t i=O a):touchAt (t++u) i=O a:=by
 obtain⟨x,q,w⟩:=touch_of h;rw[touchAt_of (show(t++u)[i]?=O x by rw[getElem?_append_old (lt_size_of_getElem? q)];exact q)];exact w
def K2.app{m}{t}(u){i}(h:K2 m t i):K2 m (t++u) i:=
 h.imp (Knows.app u) λ⟨q,a,w,A⟩=>⟨q.app u,a,quE w,A⟩
def qVL{e}(h:∃x,e.loc=.cell x){b:Touch}(hb:(MemAct.ofEvent e).touch?=O b):∃x,b.loc=.cell x:=by
 obtain⟨q,wr,u⟩:=e;obtain⟨x,rfl⟩:=h;simp only[MemAct.ofEvent,MemAct.touch?,zAk]at hb;subst hb;exact⟨x,rfl⟩
def q0H{es}(h:∀e∈es,∃x,e.loc=.cell x):Ch es:=λe q=>by obtain⟨x,u⟩:=h e q;rw[u];exact⟨sd,sd⟩
def qiT{Mem L}{B m}{t u}(H:PastG NoS Mem L B (K2 m t) t)(w:∀op∈u,op.g=0)(E:∀op∈u,∀b,op.act.touch?=O b->∃x,b.loc=.cell x)(hd:Deaf (t++u) 0=Deaf t 0)(hl:∀op∈u,op.act.low B):PastG NoS Mem L B (K2 m (t++u)) (t++u):=by
 refine⟨λM=>noRace_append (H.clean M) w λi a h op Q b R C=>?_,λi a h hm=>?_,λi a _ _ A=>A.elim,H.old_hears w (λ_=>hd),seen_app H.seen hl⟩
 .rcases H.known i a h C.2.1 with(T|⟨_,aa,D,q⟩)|⟨_,A,_⟩
  .exact T
  .rw[h]at D;obtain rfl:=zv D;obtain⟨x,U⟩:=E op Q b R;exact absurd (C.1.trans U) (q x)
  .exact A.elim
 .obtain⟨x,q,V⟩:=touch_of h;rcases getElem?_append_cases q with⟨_,W⟩|⟨_,Y⟩
  .exact H.old_known (λi=>K2.app u) W V hm
  .have:=knows_own q;rw[w x Y]at this;exact .inl (.inl this)
def qhT{Mem L}{B m c}{t}(H:PastG NoS Mem L B (K2 m t) t)(ca:ClosedAt c m t)(R:Mem 0)(w)(A:String)(hc:c<B):PastH NoS Mem L B 0 (t++#[{g:=0,fn:=w,pos:=A,act:=.recvClosed c}]):=by
 generalize u:(#[{g:=0,fn:=w,pos:=A,act:=.recvClosed c}]:zDQ)=q;obtain⟨z,T,_⟩:=zU.1 (show(t[m]?).map (·.act)=O (.close c)from ca.1);have ah:=lt_size_of_getElem? T
 have M:∀op∈q,op.act.touch?=zc:=by
  intro op h;subst u;simp only[zAz,zJ,zAd,zBh]at h;subst h;rfl
 have U:∀g,∀op∈q,∀d,deafStep g d op=d:=by
  intro g op h d;subst u;simp only[zAz,zJ,zAd,zBh]at h;subst h;rfl
 have C:(t++q)[t.size]?=O {g:=0,fn:=w,pos:=A,act:=.recvClosed c}:=by subst u;simp
 have Q:=ca.app q
 have V:HappensBefore (t++q) m t.size:=
  Relation.TransGen.single (.inr ⟨.closed Q.1 (act?_of C),Q.2,⟨0,g?_of C,by rw[deaf_old (zG _)];exact H.hears 0 R⟩⟩)
 refine⟨λW=>noRace_appendMute (H.clean W) M,λi a Y aa=>?_,λi a _ _ D=>D.elim,λg ab=>(Deaf_quiet (U g)).trans (H.hears g ab),seen_app H.seen λop h=>?_⟩
 .obtain⟨x,ac,E⟩:=touch_of Y;rcases getElem?_append_cases ac with⟨_,ad⟩|⟨_,ae⟩
  .rcases H.known i a (by rw[touchAt_of ad];exact E) aa with(af|⟨ag,_⟩)|⟨_,D,_⟩
   .exact .inl (af.app q)
   .exact .inl ⟨t.size,_,C,rfl,.inr ((ag.app q).hb V)⟩
   .exact D.elim
  .rw[M x ae]at E;cases E
 .subst u;simp only[zAz,zJ,zAd,zBh]at h;subst h;exact hc
end
section
variable{P:zt}
section
variable{St:Loc->Prop}{Lo:Z->Prop}{B:Z}{Kf:zDQ->Z->Prop}{Mem:Z->Prop}
def qDK(W:∀t u i,Kf t i->Kf (t++u) i){a}(H:a.status=.running):∀(D:Z)(gs:zR zH)(w:zp)(sl:zs (Z×Z))(q:Z->Z)(T:zDQ),gs[0]?=O a->qMF P St Lo B Kf Mem (λ_=>zc) (·=0) T gs w q->sumTo gs.size q=D->∃N h d A sl' Y u q',runNT P N (zA8 gs w sl) T=(.next (zA8 h (w.at d) sl'),T++u)/\stepT P (zA8 h (w.at d) sl')=runT P (zA8 h (w.at A) Y) 0/\h.size=gs.size/\h[0]?=O a/\qMF P St Lo B Kf Mem (λ_=>zc) (·=0) (T++u) h (w.at A) q':=by
 intro D
 induction D using Nat.strongRecOn with
 |_ D aa=>
 intro gs w sl q T C L ar
 obtain⟨i,g,A,sl',M,E,Q⟩:=crowd_pick (P:=P) (w:=w) (sl:=sl) (quC L λi g M E=>by
  subst M;rw[C]at E;obtain rfl:=zv E;exact awake_of (.inl H)) ⟨0,a,C,H⟩
 by_cases e:i=0
 .subst e;exact⟨0,gs,w.drawn,A,sl,sl',#[],q,by simp only[runNT,Array.append_empty];rfl,Q,rfl,C,by simpa using qBH L A⟩
 .obtain⟨h,R,q',ab,U,ac,ad,au⟩:=qRM (sl:=sl') W (qBH L A) M e E (λx av ae V=>by
   subst ae;rw[C]at V;obtain rfl:=zv V;exact again_of_running (.inl H) _) (λ_ _=>rfl)
  obtain⟨N,af,ag,ah,ai,aj,u,ak,al,an,ao,ap,aq⟩:=aa (sumTo h.size q') (by rw[U];omega) h (w.at A) sl' q' (T++R) (by rw[ac 0 rfl];exact C) ad rfl;refine⟨1+N,af,ag,ah,ai,aj,R++u,ak,?_,an,ao.trans U,ap,by rw[<-zC0];exact aq⟩;rw[<-zC0];exact runNT_then (qfA (Q.trans ab)) al
end
def qrK(P:zt)(s:Z)(Fin:zH->zp->Prop)(m':Machine)(A:zDQ):Prop:=∃h u,Fin h u/\ER P (·=0) (λ_=>zc) 0 (s+1) h u m' A
section
variable{co cl:Z}{Wv zW zA:zg}{Fin:zH->zp->Prop}{s m B:Z}{got:zM}{T:zDQ}{gs:zR zH}{w:zp}{q:Z->Z}
structure V2(P:zt)(co cl:Z)(Wv:zg)(s m B:Z)(got:zM)(T:zDQ)(gs:zR zH)(w:zp)(q:Z->Z):Prop where
 size:gs.size=s+1
 core:Dx P B (K2 m) (·=0) (λ_=>zc) (·=0) T gs w q
 ca:ClosedAt cl m T
 chs:Chs co cl Wv I I got w
 low:co<B/\cl<B
def qOD{h}{u}(A:∀op∈u,op.g=h/\op.act.touch?=zc/\(∀g d,deafStep g d op=d)):(∀op∈u,op.g=h)/\(∀op∈u,op.act.touch?=zc)/\∀(t:zDQ)g,Deaf (t++u) g=Deaf t g:=
 ⟨λop h=>(A op h).1,λop h=>(A op h).2.1,λt g=>Deaf_quiet λop h d=>(A op h).2.2 g d⟩
def qiM(a5:0<s)(aH:co≠cl){ae}{a}(hM:ME P co cl Wv zW zA Fin got ae a w):∀(gs:zR zH)(sl:zs (Z×Z))(q:Z->Z)(T:zDQ)(B:Z),gs[0]?=O a->V2 P co cl Wv s m B got T gs w q->Comes P (zA8 gs w sl) T (qrK P s Fin):=by
 induction hM with
 |@step got ae g w aI aJ aK ak aL _ aM=>
  intro gs sl q T B al h;obtain⟨N,M,d,A,aN,af,D,an,R,U,V,Y,L⟩:=qDK (λt D i=>K2.app D) aI _ gs w sl q T al h.core rfl;obtain⟨aO,ag,ao,ap⟩:=aL _ (RE.at w A);obtain⟨aP,ah,aQ⟩:=qCM (ak (w.at A)) B;have aR:∀e∈ak (w.at A),EvHd NoS aP e:=λe aa=>⟨λ_ _ aT=>aT.elim,(q0H ap e aa).1,(q0H ap e aa).2,aQ e aa⟩;obtain⟨aq,_,ar,aU⟩:=evHd_ops (i:=0) (fn:=g.frame.fn) (pos:=g.frame.place) aR;have aV:=runT_crowd_go (P:=P) (sl:=af) (i:=0) Y aO
  obtain⟨aW,aX,_⟩:=qUB (qxH L ah) rfl (a':=aJ (w.at A)) Y (w':=aK (w.at A)) (es:=ak (w.at A)) (λ_ _ _ e=>by cases e)
   (qiT (qxH L ah).past aq (λop u b aC=>by obtain⟨e,aa,rfl⟩:=Go.Conc.mem_ofEvents u;exact qVL (ap e aa) aC) (aU _) ar)
  refine Comes.trans (Q:=λE H=>E=_/\H=_) ⟨N+1,_,_,runNT_succ_of R (U.trans aV),rfl,rfl⟩ λE H ab=>?_;obtain⟨rfl,rfl⟩:=ab;exact aM _ (RE.at w A) _ _ _ _ _ aX ⟨by simp[V,h.size],aW,(h.ca.app D).app _,h.chs.of ag ao,⟨zQ h.low.1 ah,zQ h.low.2 ah⟩⟩
 |@sel got ae g au w aD a6 a7 aY aZ a0=>
  intro gs sl q T B al h;obtain⟨N,M,d,A,aN,af,D,an,R,U,V,Y,L⟩:=qDK (λt D i=>K2.app D) aD.1 _ gs w sl q T al h.core rfl;have ai:0<M.size:=(zAg.1 Y).1
  have aE:∀c,partners (M.setIfInBounds 0 ph) c I=[]:=λc=>partners_nil λx y a1=>by
   rcases getElem?_stand M 0 x y a1 with⟨_,rfl⟩|⟨ac,a2⟩
   .exact offersAt_ph _ _
   .exact TokCore.noSend L ac a2 _
  obtain⟨aF,aG,av⟩:=h.chs.out;obtain⟨aw,ax,ay⟩:=h.chs.last;have az:=h.ca.app D
  have aA:∀{g':zH}{W:zp}{ops:zDQ},(∀op∈ops,op.g=0/\op.act.touch?=zc/\∀g d,deafStep g d op=d)->(∀op∈ops,op.act.low B)->Dx P B (K2 m) (·=0) (λ_=>zc) (·=0) ((T++D)++ops) (M.setIfInBounds 0 g') W an:=by
   intro g' W ops aq ar;obtain⟨ag,ao,a3⟩:=qOD aq;exact qwH L rfl ai (λ_ _ _ e=>by cases e) ag sd (λx ac=>zO (λe=>ac e.symm)) (PastG.appMute L.past (λi=>K2.app _) ag ao (λ_=>a3 _ _) ar)
  rcases q0L (sl:=af) (i:=0) Y (aD.2.2.2.2 _) (aE cl) (aE co) _ (w:=w.at A) ay av with⟨_,e,_⟩|⟨aj,⟨x,ac,ad⟩|⟨aC,_,ad⟩|⟨a4,_,ad⟩⟩
  .cases e
  .have aB:got=zb:=by cases got<;>simp_all
   subst aB;obtain rfl:Wv=x:=by simpa using ac
   refine Comes.trans (Q:=λE H=>E=_/\H=_) ⟨N+1,_,_,runNT_succ_of R (U.trans ad),rfl,rfl⟩ λE H ab=>?_;obtain⟨rfl,rfl⟩:=ab;refine aZ rfl _ ((RE.at w aj).trans (RE.chan _ (.inr rfl) ..)) _ _ _ _ B (zS ai) ⟨by simp[V,h.size],aA (λop u=>?_) (λop u=>?_),az.app _,⟨⟨aF,aG,?_⟩,⟨aw,ax+1,heap_setChan_self _ (o:=.chan 1 #[Wv] I aw ax zb) ay ..⟩⟩,h.low⟩
   .simp only[zAz,zJ,zAd,zBh]at u;rcases u with rfl|rfl<;>exact⟨rfl,rfl,λ_ _=>rfl⟩
   .simp only[zAz,zJ,zAd,zBh]at u;rcases u with rfl|rfl<;>exact h.low.2
   .rw[zDP _ _ _ _ _ _ _ (zBw aH)];exact av
  .have aB:got=I:=by cases got<;>simp_all
   subst aB;refine⟨N+1,_,_,runNT_succ_of R (U.trans ad),_,_,aY rfl _ (RE.at w aj),_,af,an,B,rfl,by simp[V,h.size],zS ai,?_⟩
   have C:=aA (g':=zA1 au (zAV (Bj cl co zW zA ae) .select 0 zW zb)) (W:=(w.at A).at aj) (ops:=#[{g:=0,fn:=au.frame.fn,pos:=au.frame.place,act:=.recvClosed cl}]) (λop u=>by
    simp only[zAz,zJ,zAd,zBh]at u
    subst u;exact⟨rfl,rfl,λ_ _=>rfl⟩) (λop u=>by
    simp only[zAz,zJ,zAd,zBh]at u
    subst u;exact h.low.2)
   exact q3D ⟨C.idle,C.chans,C.wf,C.live,C.inj,C.above,C.mem,C.nomem,C.lo,qhT L.past az rfl _ _ h.low.2,trivial⟩
  .subst a4;refine Comes.trans (Q:=λE H=>E=_/\H=_) ⟨N+1,_,_,runNT_succ_of R (U.trans ad),rfl,rfl⟩ λE H ab=>?_;obtain⟨rfl,rfl⟩:=ab;refine a0 rfl _ (RE.at w aj) _ _ _ _ B (zS ai) ⟨by simp[V,h.size],aA (λop u=>?_) (λop u=>?_),az.app _,⟨⟨aF,aG,av⟩,⟨aw,ax,ay⟩⟩,h.low⟩
   .simp only[zAz,zJ,zAd,zBh]at u;subst u;exact⟨rfl,rfl,λ_ _=>rfl⟩
   .simp only[zAz,zJ,zAd,zBh]at u;subst u;exact h.low.1
end
end
section
variable{P:zt}
section
variable{co cl k2 k3:Z}{Wv zW zA:zg}{Fin:zH->zp->Prop}{s B k:Z}{st got:zM}{T:zDQ}{gs:zR zH}{w:zp}{q:Z->Z}
structure V1(P:zt)(co cl k2 k3:Z)(Wv:zg)(s B:Z)(got st:zM)(k:Z)(T:zDQ)(gs:zR zH)(w:zp)(q:Z->Z):Prop where
 size:gs.size=s+1
 srv:∃b,gs[s]?=O b/\SV P co cl k2 k3 st k b
 core:qMF P (JG co cl) (·=s) B (λt i=>Knows t 0 i) (λg=>g=0\/g=s) (λ_=>zc) (λi=>i=0\/i=s) T gs w q
 chs:Chs co cl Wv st zb got w
 low:co<B/\cl<B
def V1.at(h:V1 P co cl k2 k3 Wv s B got st k T gs w q)(d):V1 P co cl k2 k3 Wv s B got st k T gs (w.at d) q:=⟨h.size,h.srv,qBH h.core d,h.chs.of rfl rfl,h.low⟩
def qBF{c}(hc:c=co\/c=cl)(i)(fn)(pos:String):∀op∈zAT i fn pos (zA2 c),∀b,op.act.touch?=O b->b.write=zb/\JG co cl b.loc:=by
 intro op h b u;rw[closeOps]at h;simp only[zAz,zJ,zAd,zBh]at h;rcases h with rfl|rfl
 .simp only[MemAct.touch?,zAk]at u;subst u;exact⟨rfl,hc.imp (λe=>by rw[e]) λe=>by rw[e]⟩
 .simp[MemAct.touch?]at u
def qYX(aE:0<s)(ay:co≠cl)(aF:V1 P co cl k2 k3 Wv s B got st k T gs w q){i}{g a}{sl}(ai:gs[i]?=O g)(aj:i≠0)(ak:g.status=.running)(aa:gs[0]?=O a)(af:a.again w=a):∃h w' ops,runT P (zA8 gs w sl) i=(.next (zA8 h w' sl),ops)/\RE co cl w w'/\h[0]?=O (a.again w')/\((∃D k' q',V1 P co cl k2 k3 Wv s B got D k' (T++ops) h w' q'/\msV k2 D k'+sumTo h.size q'<msV k2 st k+sumTo gs.size q/\(D=st/\w'=w\/st=zb/\D=I))\/∃m q',V2 P co cl Wv s m B got (T++ops) h w' q'):=by
 obtain⟨ag,⟨b,E,V⟩,H,W,Y⟩:=aF;have al:(s==0)=zb:=sf
 have hs:s≠0:=sa
 by_cases e:i=s
 .subst e;rw[E]at ai;obtain rfl:=zv ai
  have quiet:∀{A:zH}{k':Z},(∀w,zAE P zb b w=.go A w #[])->SV P co cl k2 k3 st k' A->msV k2 st k'<msV k2 st k->
    ∃h w' ops,runT P (zA8 gs w sl) i=(.next (zA8 h w' sl),ops)/\RE co cl w w'/\h[0]?=O (a.again w')/\
   ((∃D k' q',V1 P co cl k2 k3 Wv i B got D k' (T++ops) h w' q'/\msV k2 D k'+sumTo h.size q'<msV k2 st k+sumTo gs.size q/\(D=st/\w'=w\/st=zb/\D=I))\/∃m q',V2 P co cl Wv i m B got (T++ops) h w' q'):=by
   intro A k' L aG aH;have M:=runT_crowd_go (P:=P) (sl:=sl) E (by rw[al];exact L w);obtain⟨u,ab,C⟩:=qUB H (.inr rfl) (a':=A) E (w':=w) (es:=#[]) (λ_ _ _ _ _=>rfl) (by rw[qgA];simpa using H.past);rw[qgA]at M u;refine⟨_,w,#[],M,RE.refl w,?_,.inl ⟨st,k',q,⟨by simp[ag],⟨A,ab,aG⟩,u,W,Y⟩,sf,.inl ⟨rfl,rfl⟩⟩⟩;rw[C 0 a (zBw aj) aa,woken_of_again af,af]
  have an:∀c x,Deaf (T++zAT i b.frame.fn b.frame.place (zA2 c)) x=Deaf T x:=λc x=>Deaf_quiet λop Q d=>by
   rw[closeOps]at Q;simp only[zAz,zJ,zAd,zBh]at Q;rcases Q with rfl|rfl<;>rfl
  cases st with
  |false=>
   cases k with
   |succ k=>
    obtain⟨_,A,L,R⟩:=V;exact quiet L R (by simp[msV])
   |zero=>
    obtain⟨aI,ao,A,ap,L,R⟩:=V;obtain⟨ac,ad,az⟩:=W.out;have M:=runT_crowd_go (P:=P) (sl:=sl) E (by rw[al];exact L w _ _ _ _ az);obtain⟨aq,_,ar,_⟩:=evHd_ops (Still:=NoS) (B:=B) (i:=i) (fn:=b.frame.fn) (pos:=b.frame.place) (closeEvents_ok Y.1);obtain⟨u,ab,C⟩:=qUB H (.inr rfl) (a':=A) E (w':=w.setChan co 0 #[] I ac ad zb) (es:=zA2 co) (λ_ _ _ e=>by cases e) (PastG.appRead H.past (λi=>Knows.app _) (.inr rfl) rfl aq (qBF (.inl rfl) _ _ _) (an co i) ar);refine⟨_,_,_,M,RE.chan w (.inl rfl) ..,?_,.inl ⟨I,k2,q,⟨by simp[ag],⟨A,ab,R⟩,u,⟨⟨ac,ad,heap_setChan_self w az ..⟩,?_⟩,Y⟩,by simp[msV],.inr ⟨rfl,rfl⟩⟩⟩
    .rw[C 0 a (zBw aj) aa];simp[woken,ao,ap]
    .obtain⟨a,b,U⟩:=W.last;exact⟨a,b,by rw[zDP _ _ _ _ _ _ _ ay];exact U⟩
  |true=>
   cases k with
   |succ k=>
    obtain⟨_,A,L,R⟩:=V;exact quiet L R (by simp[msV])
   |zero=>
    obtain⟨aI,ao,A,ap,L,R⟩:=V;obtain⟨ac,ad,aA⟩:=W.last;have M:=runT_crowd_go (P:=P) (sl:=sl) E (by rw[al];exact L w _ _ _ _ aA);obtain⟨aq,_,ar,_⟩:=evHd_ops (Still:=NoS) (B:=B) (i:=i) (fn:=b.frame.fn) (pos:=b.frame.place) (closeEvents_ok Y.2);obtain⟨u,ab,C⟩:=qUB H (.inr rfl) (a':=A) E (w':=w.setChan cl 1 (if got then zc else O Wv:zs zg).toArray I ac ad zb) (es:=zA2 cl) (λ_ _ _ e=>by cases e) (PastG.appRead H.past (λi=>Knows.app _) (.inr rfl) rfl aq (qBF (.inr rfl) _ _ _) (an cl i) ar);have hm:(T++zAT i b.frame.fn b.frame.place (zA2 cl))[T.size+1]?=O {g:=i,fn:=b.frame.fn,pos:=b.frame.place,act:=.close cl}:=by rw[at_new,closeOps];rfl
    have aQ:(T++zAT i b.frame.fn b.frame.place (zA2 cl)).size=T.size+2:=sx
    refine⟨_,_,_,M,RE.chan w (.inr rfl) ..,?_,.inr ⟨T.size+1,upd q i k3,⟨by simp[ag],?_,⟨by rw[act?_of hm],⟨i,by rw[g?_of hm],?_⟩⟩,⟨?_,⟨ac,ad,heap_setChan_self w aA ..⟩⟩,Y⟩⟩⟩
    .rw[C 0 a (zBw aj) aa];simp[woken,ao,ap]
    .refine⟨λx y aJ au=>?_,λ_ _ _ _ e=>(by cases e),λ_ _ e=>(by cases e),λ_ _ U=>U.elim,λ_ _ _ _ _ e=>(by cases e),u.above,λ_ _ e=>(by cases e),λi hM=>.inr hM,λ_ _ _ _=>trivial,?_,trivial⟩
     .by_cases av:x=i
      .subst av;rw[ab]at au;obtain rfl:=zv au;rw[upd_same];exact⟨aE,by rw[an,H.past.hears x (.inr rfl)];exact R⟩
      .rw[upd_ne q k3 av];exact u.idle x y (λU=>U.elim aJ av) au
     .refine⟨u.past.clean,λj t aw aK=>.inl ?_,λ_ _ _ _ ax=>ax.elim,λg ak=>u.past.hears g (.inl ak),u.past.seen⟩;rcases u.past.known j t aw aK with aL|⟨_,ax,g,aB,aM⟩
      .exact .inl aL
      .obtain⟨z,ae,aN⟩:=touch_of aw;have aO:z.g=i:=by rw[g?_of ae]at aB;exact(zv aB).trans aM
       have aR:=lt_size_of_getElem? ae;have aT:j≠T.size+1:=λe=>by subst e;rw[hm]at ae;obtain rfl:=zv ae;simp[MemAct.touch?]at aN
       refine .inr ⟨.inr (hb_po sa ae hm aO),t,aw,λx C=>?_⟩;rcases ax with e|e<;>rw[e]at C<;>cases C
    .rw[deaf_quiet (λop Q aU=>by
      rw[closeOps]at Q;simp only[zAz,zJ,zAd,zBh]at Q
      rcases Q with rfl|rfl<;>rfl) 1 sx]
     exact H.past.hears i (.inr rfl)
    .obtain⟨a,b,U⟩:=W.out;exact⟨a,b,by rw[zDP _ _ _ _ _ _ _ (zBw ay)];exact U⟩
 .obtain⟨h,ops,q',M,aC,aD,u,aH⟩:=qRM (sl:=sl) (λt aP i=>Knows.app aP) H ai sa ak (λx aV C ah=>by
   rcases C with rfl|rfl
   .rw[aa]at ah;obtain rfl:=zv ah;exact af
   .rw[E]at ah;obtain rfl:=zv ah;exact again_of_running (.inl V.run) _) (λ_ _=>rfl)
  exact⟨h,w,ops,M,RE.refl w,by rw[aD 0 (.inl rfl),af];exact aa,.inl ⟨st,k,q',⟨aC.trans ag,⟨b,by rw[aD s (.inr rfl)];exact E,V⟩,u,W,Y⟩,by rw[aC];omega,.inl ⟨rfl,rfl⟩⟩⟩
def ME.rely{C}{g}{w w₁}(h:ME P co cl Wv zW zA Fin got C g w)(r:RE co cl w w₁):ME P co cl Wv zW zA Fin got C g w₁:=by
 cases h with
 |step D E H L h k=>exact .step D E H L (λu A=>h u (r.trans A)) λu A=>k u (r.trans A)
 |sel M Q R U=>exact .sel M (λe u A=>Q e u (r.trans A)) (λe u A=>R e u (r.trans A)) (λe u A=>U e u (r.trans A))
def qBN{h}{u}(A:Chs co cl Wv st zb got w)(hl:h=I->st=zb):(parked u (Bj cl co zW zA h) .select).again w=parked u (Bj cl co zW zA h) .select:=by
 obtain⟨E,H,D⟩:=A.out;obtain⟨L,M,C⟩:=A.last;cases h
 .simp[Goroutine.again,parked,Bj,zAR,rcaseNil,C]
 .obtain rfl:=hl rfl;simp[Goroutine.again,parked,Bj,zAR,D,C]
def qjI{A u}{C}(D:Chs co cl Wv st A got w)(h:A=I\/u=I/\st=I):(parked C (Bj cl co zW zA u) .select).again w={parked C (Bj cl co zW zA u) .select with status:=.running}:=by
 obtain⟨L,M,E⟩:=D.out;obtain⟨Q,R,H⟩:=D.last;rcases h with rfl|⟨rfl,rfl⟩
 .exact again_some_closed (k:=0) (c:=cl) (z:=zW) (by simp[Bj]) H
 .exact again_some_closed (k:=1) (c:=co) (z:=zA) (by simp[Bj]) E
def qnS(ay:0<s)(au:co≠cl){E}{a}(hM:ME P co cl Wv zW zA Fin got E a w):∀(gs:zR zH)(sl:zs (Z×Z))(q:Z->Z)(T:zDQ)(B:Z)(st:zM)(k:Z),gs[0]?=O a->V1 P co cl k2 k3 Wv s B got st k T gs w q->(E=zb->st=I)->Comes P (zA8 gs w sl) T (qrK P s Fin):=by
 induction hM with
 |@step got E g w aH a0 a1 aI V a9 ba=>
  have aN:∀(ag:Z)(gs:zR zH)(u:zp)(sl:zs (Z×Z))(q:Z->Z)(T:zDQ)(B:Z)(st:zM)(k:Z),RE co cl w u->gs[0]?=O g->V1 P co cl k2 k3 Wv s B got st k T gs u q->(E=zb->st=I)->msV k2 st k+sumTo gs.size q=ag->Comes P (zA8 gs u sl) T (qrK P s Fin):=by
   intro ag
   induction ag using Nat.strongRecOn with
   |_ ag av=>
   intro gs u sl q T B st k r H h ad az;obtain⟨b,ah,ae⟩:=h.srv
   obtain⟨i,x,L,Y,ab,aA,ao⟩:=crowd_pick (P:=P) (w:=u) (sl:=sl) (quC h.core λi y ab M=>by
    rcases ab with rfl|rfl
    .rw[H]at M;obtain rfl:=zv M;exact awake_of (.inl aH)
    .rw[ah]at M;obtain rfl:=zv M;exact awake_of (.inl ae.run)) ⟨0,g,H,aH⟩
   have R:=h.at L;by_cases e:i=0
   .subst e;rw[H]at ab;obtain rfl:=zv ab;have ap:=r.trans (RE.at u L);obtain⟨bb,a2,bc,aO⟩:=V _ ap;obtain⟨bd,aJ,be⟩:=qCM (aI (u.at L)) B;have bf:∀e∈aI (u.at L),EvHd NoS bd e:=λe aB=>⟨λ_ _ bg=>bg.elim,(q0H aO e aB).1,(q0H aO e aB).2,be e aB⟩;obtain⟨aP,_,ai,bh⟩:=evHd_ops (i:=0) (fn:=g.frame.fn) (pos:=g.frame.place) bf;have bi:=runT_crowd_go (P:=P) (sl:=Y) (i:=0) H bb
    obtain⟨bj,D,bl⟩:=qUB (qxH R.core aJ) (.inl rfl) (a':=a0 (u.at L)) H (w':=a1 (u.at L)) (es:=aI (u.at L)) (λ_ _ _ e=>by cases e)
     (PastH.appH (qxH R.core aJ).past aP (λop U b ah bm=>by
      obtain⟨e,aB,rfl⟩:=Go.Conc.mem_ofEvents U;obtain⟨x,aA⟩:=qVL (aO e aB) ah
      rcases bm with z|z<;>rw[aA]at z<;>cases z) (bh _) ai)
    refine Comes.trans (Q:=λA C=>A=_/\C=_) ⟨1,_,_,qfA (ao.trans bi),rfl,rfl⟩ λA C ac=>?_;obtain⟨rfl,rfl⟩:=ac;refine ba _ ap _ _ _ _ _ st k D ⟨by simp[h.size],⟨b,?_,ae⟩,bj,R.chs.of a2 bc,⟨zQ h.low.1 aJ,zQ h.low.2 aJ⟩⟩ ad;rw[bl s b sa ah,woken_run ae.run]
   .have aC:∀w,g.again w=g:=again_of_running (.inl aH);obtain⟨al,w',ops,aj,aq,D,aQ⟩:=qYX (sl:=Y) ay au R ab e aA H (aC _);rw[aC]at D;have an:=(r.trans (RE.at u L)).trans aq;refine Comes.trans (Q:=λA C=>A=_/\C=_) ⟨1,_,_,qfA (ao.trans aj),rfl,rfl⟩ λA C ac=>?_;obtain⟨rfl,rfl⟩:=ac;rcases aQ with⟨aD,aE,af,aa,aF,aK⟩|⟨m,af,aa⟩
    .exact av _ sa al w' Y af _ B aD aE an D aa (λai=>by rcases aK with⟨e,_⟩|⟨_,e⟩;rw[e];exact ad ai;exact e) rfl
    .exact qiM ay au ((ME.step aH a0 a1 aI V a9).rely an) al Y af _ B D aa
  exact λgs sl q T B st k H h ad=>aN _ gs w sl q T B st k (RE.refl w) H h ad rfl
 |@sel got E g aL w aG bn bo bp bq br=>
  have aN:∀(ag:Z)(gs:zR zH)(u:zp)(sl:zs (Z×Z))(q:Z->Z)(T:zDQ)(B:Z)(st:zM)(k:Z)(ak:zM)(x:zH),RE co cl w u->gs[0]?=O x->(ak=zb->Hx P cl co zW zA E x aL)->(ak=I->x=parked aL (Bj cl co zW zA E) .select/\got=I/\(E=I->st=zb))->
    V1 P co cl k2 k3 Wv s B got st k T gs u q->(E=zb->st=I)->2*(msV k2 st k+sumTo gs.size q)+(if ak then 0 else 1)=ag->Comes P (zA8 gs u sl) T (qrK P s Fin):=by
   intro ag
   induction ag using Nat.strongRecOn with
   |_ ag av=>
   intro gs u sl q T B st k ak x r H ar aw h ad az;obtain⟨b,ah,ae⟩:=h.srv;have aF:0<gs.size:=by have:=h.size;omega
   obtain⟨i,y,L,Y,ab,M,ao⟩:=crowd_pick (P:=P) (w:=u) (sl:=sl) (quC h.core λi y ab M=>by
    rcases ab with rfl|rfl
    .rw[H]at M;obtain rfl:=zv M;cases ak
     .exact awake_of (.inl (ar rfl).1)
     .rw[(aw rfl).1];exact awake_of (.inr (.inl rfl))
    .rw[ah]at M;obtain rfl:=zv M;exact awake_of (.inl ae.run)) ⟨s,b,ah,ae.run⟩
   have R:=h.at L;have ap:=r.trans (RE.at u L);by_cases e:i=0
   .subst e;rw[H]at ab;obtain rfl:=zv ab;cases ak with
    |true=>rw[(aw rfl).1]at M;cases M
    |false=>
    have aG:=ar rfl
    have a3:∀c,partners (gs.setIfInBounds 0 ph) c I=[]:=λc=>partners_nil λj z aR=>by
     rcases getElem?_stand gs 0 j z aR with⟨_,rfl⟩|⟨bz,aT⟩
     .exact offersAt_ph _ _
     .by_cases bt:j=s
      .subst bt;rw[ah]at aT;obtain rfl:=zv aT;exact offersAt_of_not_blocked (by rw[ae.run];simp) _ _
      .exact TokCore.noSend R.core sa aT _
    obtain⟨a4,a5,aU⟩:=R.chs.out;obtain⟨aV,aq,aW⟩:=R.chs.last
    have aX:∀{g':zH}{W:zp}{ops:zDQ},(∀op∈ops,op.g=0/\op.act.touch?=zc/\∀g d,deafStep g d op=d)->(∀op∈ops,op.act.low B)->qMF P (JG co cl) (·=s) B (λt i=>Knows t 0 i) (λg=>g=0\/g=s) (λ_=>zc) (λi=>i=0\/i=s) (T++ops) (gs.setIfInBounds 0 g') W q:=by
     intro g' W ops aP ai;obtain⟨a6,k2,k3⟩:=qOD aP;exact qwH R.core (.inl rfl) aF (λ_ _ _ e=>by cases e) a6 sd (λx aA=>zO (λe=>aA (.inl e.symm))) (PastG.appMute R.core.past (λi=>Knows.app _) a6 k2 (λ_=>k3 _ _) ai)
    have aY:∀g',(gs.setIfInBounds 0 g')[s]?=O b:=λg'=>by rw[zO sa];exact ah
    rcases q0L (sl:=Y) (i:=0) H (aG.2.2.2.2 _) (a3 cl) (a3 co) _ (w:=u.at L) aW aU with⟨bA,_,aM,aj⟩|⟨a7,⟨bu,bv,aj⟩|⟨_,e,_⟩|⟨bw,bx,aj⟩⟩
    .have ax:got=I:=by cases got<;>simp_all
     refine Comes.trans (Q:=λA C=>A=_/\C=_) ⟨1,_,_,qfA (ao.trans aj),rfl,rfl⟩ λA C ac=>?_;obtain⟨rfl,rfl⟩:=ac;refine av (2*(msV k2 st k+sumTo gs.size q)) (by simp at az;omega) _ _ _ q _ B st k I _ ap (zS aF) (λV=>by cases V) (λ_=>⟨rfl,ax,aM⟩) ⟨by simp[h.size],⟨b,aY _,ae⟩,by simpa using aX (g':=parked aL (Bj cl co zW zA E) .select) (W:=u.at L) (ops:=#[]) sd sd,R.chs,h.low⟩ ad sd
    .have ax:got=zb:=by cases got<;>simp_all
     subst ax;obtain rfl:Wv=bu:=by simpa using bv
     refine Comes.trans (Q:=λA C=>A=_/\C=_) ⟨1,_,_,qfA (ao.trans aj),rfl,rfl⟩ λA C ac=>?_;obtain⟨rfl,rfl⟩:=ac;refine bq rfl _ ((ap.trans (RE.at _ a7)).trans (RE.chan _ (.inr rfl) ..)) _ _ q _ B st k (zS aF) ⟨by simp[h.size],⟨b,aY _,ae⟩,aX (λop U=>?_) (λop U=>?_),⟨⟨a4,a5,?_⟩,⟨aV,aq+1,heap_setChan_self _ (o:=.chan 1 #[Wv] zb aV aq zb) aW ..⟩⟩,h.low⟩ ad
     .simp only[zAz,zJ,zAd,zBh]at U;rcases U with rfl|rfl<;>exact⟨rfl,rfl,λ_ _=>rfl⟩
     .simp only[zAz,zJ,zAd,zBh]at U;rcases U with rfl|rfl<;>exact h.low.2
     .rw[zDP _ _ _ _ _ _ _ (zBw au)];exact aU
    .cases e
    .subst bw;refine Comes.trans (Q:=λA C=>A=_/\C=_) ⟨1,_,_,qfA (ao.trans aj),rfl,rfl⟩ λA C ac=>?_;obtain⟨rfl,rfl⟩:=ac;refine br rfl _ (ap.trans (RE.at _ a7)) _ _ q _ B st k (zS aF) ⟨by simp[h.size],⟨b,aY _,ae⟩,aX (λop U=>?_) (λop U=>?_),⟨⟨a4,a5,aU⟩,⟨aV,aq,aW⟩⟩,h.low⟩ λ_=>bx
     .simp only[zAz,zJ,zAd,zBh]at U;subst U;exact⟨rfl,rfl,λ_ _=>rfl⟩
     .simp only[zAz,zJ,zAd,zBh]at U;subst U;exact h.low.1
   .have aC:x.again (u.at L)=x:=by
     cases ak with
     |false=>exact again_of_running (.inl (ar rfl).1) _
     |true=>rw[(aw rfl).1];exact qBN R.chs (aw rfl).2.2
    obtain⟨al,w',ops,aj,aq,D,aQ⟩:=qYX (sl:=Y) ay au R ab e M H aC;have an:=ap.trans aq;refine Comes.trans (Q:=λA C=>A=_/\C=_) ⟨1,_,_,qfA (ao.trans aj),rfl,rfl⟩ λA C ac=>?_;obtain⟨rfl,rfl⟩:=ac;have a8:∀{z:zH},Hx P cl co zW zA E z aL->ME P co cl Wv zW zA Fin got E z w:=λaR=>.sel aR bn bo bp;rcases aQ with⟨aD,aE,af,aa,bF,aK⟩|⟨m,af,aa⟩
    .have aZ:E=zb->aD=I:=λai=>by rcases aK with⟨e,_⟩|⟨_,e⟩;rw[e];exact ad ai;exact e
     cases ak with
     |false=>
      rw[again_of_running (.inl (ar rfl).1)]at D;exact av _ (by simp at az⊢;omega) al w' Y af _ B aD aE zb x an D (λ_=>ar rfl) (λV=>by cases V) aa aZ rfl
     |true=>
      obtain⟨rfl,ax,aM⟩:=aw rfl;rcases aK with⟨rfl,rfl⟩|⟨a2,rfl⟩
      .rw[aC]at D;exact av _ (by simp at az⊢;omega) al _ Y af _ B aD aE I _ an D (λV=>by cases V) (λ_=>⟨rfl,ax,aM⟩) aa aZ rfl
      .have ai:E=I:=by cases E<;>simp_all
       rw[qjI aa.chs (.inr ⟨ai,rfl⟩)]at D;exact av _ (by simp at az⊢;omega) al w' Y af _ B I aE zb _ an D (λ_=>aG.tries _ _) (λV=>by cases V) aa aZ rfl
    .cases ak with
     |false=>
      rw[again_of_running (.inl (ar rfl).1)]at D;exact qiM ay au ((a8 (ar rfl)).rely an) al Y af _ B D aa
     |true=>
      obtain⟨rfl,ax,aM⟩:=aw rfl;rw[qjI aa.chs (.inl rfl)]at D;exact qiM ay au ((a8 (aG.tries _ _)).rely an) al Y af _ B D aa
  exact λgs sl q T B st k H h ad=>aN _ gs w sl q T B st k zb g (RE.refl w) H (λ_=>aG) (λV=>by cases V) h ad rfl
end
end
section
variable{P:zt}
def q1Q{B}{es}(h:∀e∈es,EvC NoS B e):es=#[]:=by
 rcases es with⟨_|⟨e,l⟩⟩
 .rfl
 .obtain⟨_,_,hs,_⟩:=h e sd;exact hs.elim
section trace
variable{t u:zDQ}{m c k cap:Z}
def qBc{p q i}{z:MemOp}(e:HappensBefore (t++u) p q)(w:(t++u)[q]?=O z)(A:z.g=0)(h:Before t i p):Knows (t++u) 0 i:=⟨q,z,w,A,.inr ((h.app u).hb e)⟩
def qbV(h:t.act? m=O (.send c k))(u):(t++u).act? m=O (.send c k):=by
 obtain⟨z,q,_⟩:=zU.1 (show(t[m]?).map (·.act)=O (.send c k)from h);simpa[Trace.act?,getElem?_append_old (lt_size_of_getElem? q)]using h
def qaN(q:m<t.size)(h:t.heard m)(u):(t++u).heard m:=by
 obtain⟨w,A,C⟩:=h;exact⟨w,by rw[g?_old q];exact A,by rw[deaf_old (zC1 q)];exact C⟩
def qXF(fn:zBa)(pos:String)(c k:Z):zDQ:=#[{g:=0,fn:=fn,pos:=pos,act:=.recv c k 1},{g:=0,fn:=fn,pos:=pos,act:=.recvDone c k}]
def qZF(fn:zBa)(pos:String)(c:Z):zDQ:=#[{g:=0,fn:=fn,pos:=pos,act:=.recvClosed c}]
def qOJ(fn)(pos:String)(c k):∀op∈qXF fn pos c k,op.g=0/\op.act.touch?=zc/\∀g d,deafStep g d op=d:=λop h=>by
 simp only[qXF,zAz,zJ,zAd,zBh]at h;rcases h with rfl|rfl<;>exact⟨rfl,rfl,λ_ _=>rfl⟩
def quM(fn)(pos:String)(c):∀op∈qZF fn pos c,op.g=0/\op.act.touch?=zc/\∀g d,deafStep g d op=d:=λop h=>by
 simp only[qZF,zAz,zJ,zAd,zBh]at h;subst h;exact⟨rfl,rfl,λ_ _=>rfl⟩
def qvP{B}{fn}{pos:String}{c k}(h:c<B):∀op∈qXF fn pos c k,op.act.low B:=λop q=>by
 simp only[qXF,zAz,zJ,zAd,zBh]at q;rcases q with rfl|rfl<;>exact h
def qAQ{B}{fn}{pos:String}{c}(h:c<B):∀op∈qZF fn pos c,op.act.low B:=λop q=>by
 simp only[qZF,zAz,zJ,zAd,zBh]at q;subst q;exact h
def qtK{i}(ha:t.act? m=O (.send c k))(w:t.heard m)(hd:Deaf t 0=0)(fn)(pos:String)(h:Before t i m):Knows (t++qXF fn pos c k) 0 i:=by
 obtain⟨z,A,_⟩:=zU.1 (show(t[m]?).map (·.act)=O (.send c k)from ha);have q:(t++qXF fn pos c k)[t.size+1]?=O {g:=0,fn:=fn,pos:=pos,act:=.recvDone c k}:=by simp[qXF]
 exact qBc (Relation.TransGen.single (.inr ⟨.handOver (qbV ha _) (act?_of q),qaN (lt_size_of_getElem? A) w _,⟨0,g?_of q,by rw[deaf_quiet (λop C d=>(qOJ _ _ _ _ op C).2.2 0 d) 1 (by simp[qXF])];exact hd⟩⟩)) q rfl h
def qyK{i}(ca:ClosedAt c m t)(hd:Deaf t 0=0)(fn)(pos:String)(h:Before t i m):Knows (t++qZF fn pos c) 0 i:=by
 have q:(t++qZF fn pos c)[t.size]?=O {g:=0,fn:=fn,pos:=pos,act:=.recvClosed c}:=by simp[qZF]
 have w:=ca.app (qZF fn pos c);exact qBc (Relation.TransGen.single (.inr ⟨.closed w.1 (act?_of q),w.2,⟨0,g?_of q,by rw[deaf_old (zG _)];exact hd⟩⟩)) q rfl h
end trace
def KU(co cl s m:Z)(t:zDQ)(i:Z):Prop:=Before t i m\/(t.g? i=O s/\∃a,touchAt t i=O a/\a.write=zb/\JG co cl a.loc)
def KU2(m m3:Z)(t:zDQ)(i:Z):Prop:=Before t i m\/(Before t i m3/\∃a,touchAt t i=O a/\∀x,a.loc≠.cell x)
def KU.app{co cl s m}{t}(u){i}(h:KU co cl s m t i):KU co cl s m (t++u) i:=by
 rcases h with h|⟨w,a,q,A⟩
 .exact .inl (h.app u)
 .obtain⟨x,C,_⟩:=touch_of q;exact .inr ⟨by rw[g?_old (lt_size_of_getElem? C)];exact w,a,quE q,A⟩
def KU2.app{m m3}{t}(u){i}(h:KU2 m m3 t i):KU2 m m3 (t++u) i:=
 h.imp (·.app u) λ⟨q,a,w,A⟩=>⟨q.app u,a,quE w,A⟩
section
variable{Mem L:Z->Prop}{B co cl s m m3:Z}{t u:zDQ}
def qrR(H:PastG NoS Mem L B (KU co cl s m t) t)(hM:∀g,g=0\/g=s->Mem g)(aa:∀op∈u,op.g=0/\op.act.touch?=zc/\∀g d,deafStep g d op=d)(hl:∀op∈u,op.act.low B)(hs:t.g? m=O s)(hk:∀i,Before t i m->Knows (t++u) 0 i):PastG (JG co cl) (λg=>g=0\/g=s) (·=s) B (Knows (t++u) 0) (t++u):=by
 obtain⟨ai,D,ab⟩:=qOD aa;obtain⟨z,U,ac⟩:=zU.1 (show(t[m]?).map (·.g)=O s from hs);refine⟨λad=>noRace_appendMute (H.clean ad) D,λi a E ae=>?_,λi a E af ag g M=>?_,λg M=>(ab t g).trans (H.hears g (hM g M)),seen_app H.seen hl⟩
 .obtain⟨x,Q,h⟩:=touch_of E;rcases getElem?_append_cases Q with⟨V,q⟩|⟨_,R⟩
  .rcases H.known i a (by rw[touchAt_of q];exact h) ae with(A|⟨W,ah,w,C,Y⟩)|⟨_,T,_⟩
   .exact .inl (hk i A)
   .rw[touchAt_of q,h]at w;obtain rfl:=zv w;exact .inr ⟨C,Y,s,by rw[g?_old V];exact W,rfl⟩
   .exact T.elim
  .rw[D x R]at h;cases h
 .obtain⟨x,Q,h⟩:=touch_of E;rcases getElem?_append_cases Q with⟨V,q⟩|⟨_,R⟩
  .rcases H.known i a (by rw[touchAt_of q];exact h) (by rcases ag with e|e<;>rw[e]<;>rfl)with(A|⟨W,ah,w,C,Y⟩)|⟨_,T,_⟩
   .rcases M with rfl|rfl
    .exact hk i A
    .exact⟨m,z,by rw[getElem?_append_old (lt_size_of_getElem? U)];exact U,ac,A.app u⟩
   .rw[touchAt_of q,h]at w;obtain rfl:=zv w;rw[af]at C;cases C
   .exact T.elim
  .rw[D x R]at h;cases h
def qiO(H:PastG NoS Mem L B (KU2 m m3 t) t)(hM:Mem 0)(w:∀op∈u,op.g=0/\op.act.touch?=zc/\∀g d,deafStep g d op=d)(hl:∀op∈u,op.act.low B)(hk:∀i,Before t i m->Knows (t++u) 0 i):PastG NoS (·=0) (λ_=>True) B (K2 m3 (t++u)) (t++u):=by
 obtain⟨ad,q,A⟩:=qOD w;refine⟨λC=>noRace_appendMute (H.clean C) q,λi a D E=>?_,λi a _ _ M=>M.elim,λg Q=>(A t g).trans (H.hears g (Q▸hM)),seen_app H.seen hl⟩;obtain⟨x,R,h⟩:=touch_of D;rcases getElem?_append_cases R with⟨ae,T⟩|⟨_,U⟩
 .rcases H.known i a (by rw[touchAt_of T];exact h) E with(V|⟨W,Y,aa,ab⟩)|⟨_,ac,_⟩
  .exact .inl (.inl (hk i V))
  .exact .inl (.inr ⟨W.app u,Y,quE aa,ab⟩)
  .exact ac.elim
 .rw[q x U]at h;cases h
def q9K(H:PastG NoS Mem L B (KU co cl s m t) t)(aa:Mem s)(w:∀op∈u,op.g=s)(E:∀op∈u,∀b,op.act.touch?=O b->b.write=zb/\JG co cl b.loc)(hs:t.g? m=O s)(hd:Deaf (t++u) s=Deaf t s)(hl:∀op∈u,op.act.low B):PastG NoS Mem L B (KU co cl s m (t++u)) (t++u):=by
 obtain⟨z,M,Q⟩:=zU.1 (show(t[m]?).map (·.g)=O s from hs);refine⟨λR=>noRace_append (H.clean R) w λi a h op ab b ac T=>?_,λi a h hm=>?_,λi a _ _ U=>U.elim,H.old_hears w (λ_=>hd),seen_app H.seen hl⟩
 .rcases H.known i a h T.2.1 with(V|⟨A,_⟩)|⟨_,W,_⟩
  .exact⟨m,z,M,Q,V⟩
  .obtain⟨x,q,_⟩:=touch_of h;have:=knows_own q;rw[show x.g=s from by rw[g?_of q]at A;exact zv A]at this;exact this
  .exact W.elim
 .obtain⟨x,q,C⟩:=touch_of h;rcases getElem?_append_cases q with⟨_,Y⟩|⟨_,D⟩
  .exact H.old_known (λi=>KU.app u) Y C hm
  .exact .inl (.inr ⟨by rw[g?_of q,w x D],a,h,E x D a C⟩)
end
end
section
variable{P:zt}
def Dm(X:Seat):Z->zs Seat
 |0=>O X
 |_+1=>zc
def q0A{X}{i}(h:i≠0):Dm X i=zc:=by cases i with
 |zero=>exact absurd rfl h
 |succ n=>rfl
section
variable{X:Seat}{B:Z}{Kf:zDQ->Z->Prop}{Mem Sp:Z->Prop}{T:zDQ}{gs:zR zH}{w:zp}{q:Z->Z}
def Mb(C:TokCore P TrK NoS B Kf Mem (λ_=>True) (Dm X) Sp (·=0) T gs w q)(d):TokCore P TrK NoS B Kf Mem (λ_=>True) (Dm X) Sp (·=0) T gs (w.at d) q:=TokCore.at qQE C d
def qpS(C:TokCore P TrK NoS B Kf Mem (λ_=>True) (Dm X) Sp (·=0) T gs w q){i}{a a'}(E:Sp i)(ac:i≠0)(U:¬Sp 0)(ha:gs[i]?=O a){w'}{es}(V:PastG NoS Mem (λ_=>True) B (Kf (T++zAT i a.frame.fn a.frame.place es)) (T++zAT i a.frame.fn a.frame.place es)):TokCore P TrK NoS B Kf Mem (λ_=>True) (Dm X) Sp (·=0) (T++zAT i a.frame.fn a.frame.place es) ((gs.map (woken P a a' w')).setIfInBounds i a') w' q/\((gs.map (woken P a a' w')).setIfInBounds i a')[i]?=O a':=by
 have W:i<gs.size:=(zAg.1 ha).1;have H:∀op∈zAT i a.frame.fn a.frame.place es,op.g=i:=λop Y=>by obtain⟨e,_,rfl⟩:=Go.Conc.mem_ofEvents Y;rfl
 have L:∀x,¬Sp x->((gs.map (woken P a a' w')).setIfInBounds i a')[x]?=gs[x]?:=λx h=>by
  have D:x≠i:=λe=>h (e▸E);rw[zO (λe=>D e.symm),zDt];cases e:gs[x]? with
  |none=>rfl
  |some y=>
   have aa:y.status=.running\/y.status=.finished:=by
    by_cases M:x=0
    .exact .inl (C.live x y M e)
    .have:=C.idle x y h e;rw[q0A M]at this;exact this.2.status
   simp[woken_of_again (again_of_running aa w')]
 refine⟨⟨λx y h u=>?_,λj s c ab e ad=>?_,C.wf,λx y h u=>?_,C.inj,λj Q=>?_,C.mem,C.nomem,C.lo,V,trivial⟩,zS (by simpa using W)⟩
 .have D:x≠i:=λe=>h (e▸E);rw[L x h]at u;have A:=C.idle x y h u;cases R:Dm X x with
  |none=>rw[R]at A;exact⟨A.1,by rw[Deaf_other T (λz=>D z.symm) _ H];exact A.2⟩
  |some s=>rw[R]at A;exact A
 .rw[q0A ab]at e;cases e
 .subst h;rw[L 0 U]at u;exact C.live 0 y rfl u
 .simp only[Array.size_setIfInBounds,Array.size_map]at Q;rw[Deaf_other T (g':=i) sa _ H];exact C.above j Q
def qqS(C:TokCore P TrK NoS B Kf Mem (λ_=>True) (Dm X) Sp (·=0) T gs w q)(D:∀i g,Sp i->gs[i]?=O g->awake g):∀g∈gs,awake g:=by
 intro g E;obtain⟨i,h,rfl⟩:=Array.mem_iff_getElem.1 E;by_cases e:Sp i
 .exact D i _ e (zAO h)
 .by_cases u:i=0
  .exact awake_of (.inl (C.live i _ u (zAO h)))
  .have A:=C.idle i _ e (zAO h);rw[q0A u]at A;exact awake_of (A.2.status.elim .inl λx=>.inr (.inr x))
def Ma(H:∀t u i,Kf t i->Kf (t++u) i)(C:TokCore P TrK NoS B Kf Mem (λ_=>True) (Dm X) Sp (·=0) T gs w q){i}{g}{sl}(L:gs[i]?=O g)(M:¬Sp i)(Q:g.status=.running)(R:∀x A,Sp x->gs[x]?=O A->A.status=.running)(U:¬(i=0/\∃D,AtIn P (i==0) TrK NoS B X g D)):∃h ops q',runT P (zA8 gs w sl) i=(.next (zA8 h w sl),ops)/\h.size=gs.size/\(∀x,Sp x->h[x]?=gs[x]?)/\TokCore P TrK NoS B Kf Mem (λ_=>True) (Dm X) Sp (·=0) (T++ops) h w q'/\sumTo gs.size q'<sumTo gs.size q:=by
 obtain⟨h,ops,q',V,W,Y,_,_,aa,ab⟩:=TokCore.by_step (sl:=sl) H C L M Q (λx A ac ad=>again_of_running (.inl (R x A ac ad)) _) (λae=>by subst ae;simp[Dm]) (λs D e af=>by
  by_cases E:i=0
  .subst E;obtain rfl:X=s:=by simpa[Dm]using e
   exact absurd ⟨rfl,D,af⟩ U
  .rw[q0A E]at e;cases e)
 exact⟨h,ops,q',V,W,Y,aa,ab⟩
end
section
variable{co cl k2 k3:Z}{Wv zW zA:zg}{Fin:zH->zp->Prop}{s m m3 ks B:Z}{X:Seat}{w₀:zp}
structure U2(P:zt)(co cl:Z)(Wv:zg)(s m m3 ks B:Z)(X:Seat)(T:zDQ)(gs:zR zH)(w:zp)(q:Z->Z):Prop where
 size:gs.size=s+1
 core:TokCore P TrK NoS B (KU2 m m3) (·=0) (λ_=>True) (Dm X) (λ_=>zV) (·=0) T gs w q
 out:∃a b,w.heap[co]?=O (.chan 0 #[] I a b zb)
 last:∃a,w.heap[cl]?=O (.chan 1 #[Wv] I a ks zb)
 snd:T.act? m=O (.send cl ks)/\T.heard m
 shut:∃m2,ClosedAt co m2 T/\Before T m m2
 ca:ClosedAt cl m3 T
 low:co<B/\cl<B
def qtL{T}(h:T.act? m=O (.send cl ks)/\T.heard m)(u:zDQ):(T++u).act? m=O (.send cl ks)/\(T++u).heard m:=by
 obtain⟨z,A,_⟩:=zU.1 (show(T[m]?).map (·.act)=O (.send cl ks)from h.1);exact⟨qbV h.1 u,qaN (lt_size_of_getElem? A) h.2 u⟩
def qvL{T}(h:∃A,ClosedAt co A T/\Before T m A)(u):∃A,ClosedAt co A (T++u)/\Before (T++u) m A:=h.imp λ_ h=>⟨h.1.app u,h.2.app u⟩
def qea(ah:0<s)(Y:co≠cl)(az:X.cases=Bj cl co zW zA I)(aA:X.shape=.select)(ai:∀C,X.home C->∀w₁,RE co cl w₀ w₁->ME P co cl Wv zW zA Fin I I (zA1 C (zAV (Bj cl co zW zA I) .select 0 Wv I)) w₁/\ME P co cl Wv zW zA Fin zb zb (zA1 C (zAV (Bj cl co zW zA I) .select 1 zA zb)) w₁):∀(U:Z)(gs:zR zH)(w:zp)(sl:zs (Z×Z))(q:Z->Z)(T:zDQ),RE co cl w₀ w->U2 P co cl Wv s m m3 ks B X T gs w q->sumTo gs.size q=U->Comes P (zA8 gs w sl) T (qrK P s Fin):=by
 intro U
 induction U using Nat.strongRecOn with
 |_ U aB=>
 intro gs w sl q T r h aN;have aa:0<gs.size:=by have:=h.size;omega
 obtain⟨V,aj⟩:∃V,gs[0]?=O V:=⟨gs[0],zAO aa⟩;obtain⟨i,g,H,ab,ak,aC,ac⟩:=crowd_pick (P:=P) (w:=w) (sl:=sl) (qqS h.core λ_ _ u=>u.elim) ⟨0,V,aj,h.core.live 0 V rfl aj⟩;have al:=Mb h.core H;by_cases an:i=0/\∃C,AtIn P (i==0) TrK NoS B X g C
 .obtain⟨rfl,C,u⟩:=an;obtain⟨_,_,_,_,ao,es,aD,ap⟩:=u;obtain rfl:=q1Q aD;rw[az,aA]at ap
  have aq:∀c,partners (gs.setIfInBounds 0 ph) c I=[]:=λc=>partners_nil λx y W=>by
   rcases getElem?_stand gs 0 x y W with⟨_,rfl⟩|⟨L,aE⟩
   .exact offersAt_ph _ _
   .exact TokCore.noSend al (λu=>u) aE _
  obtain⟨ar,b1,ad⟩:=h.out;obtain⟨ae,af⟩:=h.last;have au:Deaf T 0=0:=h.core.past.hears 0 rfl
  have mk:∀{av:zH}{aw:zp}{A:zDQ},(∀op∈A,op.g=0/\op.act.touch?=zc/\∀g d,deafStep g d op=d)->(∀op∈A,op.act.low B)->(∀i,Before T i m->Knows (T++A) 0 i)->
    Dx P B (K2 m3) (·=0) (λ_=>zc) (·=0) (T++A) (gs.setIfInBounds 0 av) aw q:=by
   intro av aw A ag aF aG;refine⟨λx y L W=>?_,λ_ _ _ _ e=>(by cases e),λ_ _ e=>(by cases e),λ_ _ u=>u.elim,λ_ _ _ _ _ e=>(by cases e),λj aH=>?_,λ_ _ e=>(by cases e),λi hM=>.inr hM,λ_ _ _ _=>trivial,qiO h.core.past rfl ag aF aG,trivial⟩
   .rw[zO (λe=>L e.symm)]at W;have:=h.core.idle x y (λu=>u) W;rw[q0A L]at this;exact⟨this.1,by rw[(qOD ag).2.2];exact this.2⟩
   .rw[(qOD ag).2.2];exact h.core.above j (by simpa using aH)
  rcases q0L (sl:=ab) (i:=0) ak (ap _ trivial) (aq cl) (aq co) (O Wv) (w:=w.at H) af ad with⟨e,_⟩|⟨ax,⟨x,L,M⟩|⟨e,_⟩|⟨_,_,M⟩⟩
  .cases e
  .obtain rfl:=zv L;refine Comes.trans (Q:=λD E=>D=_/\E=_) ⟨1,_,_,qfA (ac.trans M),rfl,rfl⟩ λD E R=>?_;obtain⟨rfl,rfl⟩:=R;refine qiM ah Y (ai C ao _ (((r.trans (RE.at w H)).trans (RE.at _ ax)).trans (RE.chan _ (.inr rfl) ..))).1 _ _ q _ B (zS aa) ⟨by simp[h.size],mk (qOJ _ _ _ _) (qvP h.low.2) (λi u=>qtK h.snd.1 h.snd.2 au _ _ u),h.ca.app _,⟨⟨ar,b1,?_⟩,⟨ae,ks+1,heap_setChan_self _ (o:=.chan 1 #[Wv] I ae ks zb) af ..⟩⟩,h.low⟩;rw[zDP _ _ _ _ _ _ _ (zBw Y)];exact ad
  .cases e
  .refine Comes.trans (Q:=λD E=>D=_/\E=_) ⟨1,_,_,qfA (ac.trans M),rfl,rfl⟩ λD E R=>?_;obtain⟨rfl,rfl⟩:=R;obtain⟨aO,c2,aI⟩:=h.shut;exact qiM ah Y (ai C ao _ ((r.trans (RE.at w H)).trans (RE.at _ ax))).2 _ _ q _ B (zS aa) ⟨by simp[h.size],mk (quM _ _ _) (qAQ h.low.1) (λi u=>qyK c2 au _ _ (u.trans aI)),h.ca.app _,⟨⟨ar,b1,ad⟩,⟨ae,ks,af⟩⟩,h.low⟩
 .obtain⟨aJ,A,aK,M,ay,_,aL,aP⟩:=Ma (sl:=ab) (λt aM i=>KU2.app aM) al ak (λu=>u) aC (λ_ _ u=>u.elim) an;refine Comes.trans (Q:=λD E=>D=_/\E=_) ⟨1,_,_,qfA (ac.trans M),rfl,rfl⟩ λD E R=>?_;obtain⟨rfl,rfl⟩:=R;exact aB _ (by rw[ay];omega) aJ (w.at H) ab aK _ (r.trans (RE.at w H)) ⟨ay.trans h.size,aL,h.out,h.last,qtL h.snd A,qvL h.shut A,h.ca.app A,h.low⟩ rfl
end
end
section
variable{P:zt}
section
variable{co cl k2 k3:Z}{Wv zW zA:zg}{Fin:zH->zp->Prop}{s m ks B:Z}{X:Seat}{w₀:zp}
structure U1(P:zt)(co cl k2 k3:Z)(Wv:zg)(s m ks B:Z)(X:Seat)(st:zM)(k:Z)(T:zDQ)(gs:zR zH)(w:zp)(q:Z->Z):Prop where
 size:gs.size=s+1
 srv:∃b,gs[s]?=O b/\SV P co cl k2 k3 st k b
 core:TokCore P TrK NoS B (KU co cl s m) (λg=>g=0\/g=s) (λ_=>True) (Dm X) (·=s) (·=0) T gs w q
 out:∃a b,w.heap[co]?=O (.chan 0 #[] st a b zb)
 last:∃a,w.heap[cl]?=O (.chan 1 #[Wv] zb a ks zb)
 snd:(T.act? m=O (.send cl ks)/\T.heard m)/\T.g? m=O s
 shut:st=I->∃m2,ClosedAt co m2 T/\Before T m m2
 low:co<B/\cl<B
def qyX{q}(h:q.g? m=O s)(u:zDQ):(q++u).g? m=O s:=by
 obtain⟨z,w,_⟩:=zU.1 (show(q[m]?).map (·.g)=O s from h);rw[g?_old (lt_size_of_getElem? w)];exact h
def qfa(ay:0<s)(aj:co≠cl)(aL:X.cases=Bj cl co zW zA I)(aM:X.shape=.select)(aB:∀ae,X.home ae->∀w₁,RE co cl w₀ w₁->ME P co cl Wv zW zA Fin I I (zA1 ae (zAV (Bj cl co zW zA I) .select 0 Wv I)) w₁/\ME P co cl Wv zW zA Fin zb zb (zA1 ae (zAV (Bj cl co zW zA I) .select 1 zA zb)) w₁):∀(az:Z)(aa:zR zH)(w:zp)(sl:zs (Z×Z))(q:Z->Z)(A:zDQ)(U:zM)(k:Z),RE co cl w₀ w->U1 P co cl k2 k3 Wv s m ks B X U k A aa w q->msV k2 U k+sumTo aa.size q=az->Comes P (zA8 aa w sl) A (qrK P s Fin):=by
 intro az
 induction az using Nat.strongRecOn with
 |_ az aC=>
 intro aa w sl q A U k r h a7;have aN:0<aa.size:=by have:=h.size;omega
 have aD:(s==0)=zb:=sf
 have af:s≠0:=sa
 obtain⟨b,M,V⟩:=h.srv
 obtain⟨i,g,R,ab,ak,ar,al⟩:=crowd_pick (P:=P) (w:=w) (sl:=sl) (qqS h.core λi y ak W=>by
  subst ak;rw[M]at W;obtain rfl:=zv W;exact awake_of (.inl V.run)) ⟨s,b,M,V.run⟩
 have ag:=Mb h.core R;have an:=r.trans (RE.at w R);by_cases es:i=s
 .subst es;rw[M]at ak;obtain rfl:=zv ak
  have quiet:∀{D:zH}{aA:Z},(∀w,zAE P zb b w=.go D w #[])->SV P co cl k2 k3 U aA D->msV k2 U aA<msV k2 U k->Comes P (zA8 aa w sl) A (qrK P i Fin):=by
   intro D aA ac a8 bv;have T:=runT_crowd_go (P:=P) (sl:=ab) M (by rw[aD];exact ac (w.at R));obtain⟨E,ah⟩:=qpS ag rfl af (λu=>af u.symm) M (a':=D) (w':=w.at R) (es:=#[]) (by rw[qgA];simpa using ag.past);rw[qgA]at T E;refine Comes.trans (Q:=λH L=>H=_/\L=_) ⟨1,_,_,qfA (al.trans T),rfl,rfl⟩ λH L C=>?_;obtain⟨rfl,rfl⟩:=C;exact aC _ sf _ _ ab q _ U aA an ⟨by simp[h.size],⟨D,ah,a8⟩,E,h.out,h.last,by simpa using h.snd,by simpa using h.shut,h.low⟩ rfl
  have aE:∀c x,Deaf (A++zAT i b.frame.fn b.frame.place (zA2 c)) x=Deaf A x:=λc x=>Deaf_quiet λop ai d=>by
   rw[closeOps]at ai;simp only[zAz,zJ,zAd,zBh]at ai;rcases ai with rfl|rfl<;>rfl
  obtain⟨bw,aO,a9⟩:=zU.1 (show(A[m]?).map (·.g)=O i from h.snd.2);have ba:=lt_size_of_getElem? aO;have au:∀c,(A++zAT i b.frame.fn b.frame.place (zA2 c))[A.size+1]?=O {g:=i,fn:=b.frame.fn,pos:=b.frame.place,act:=.close c}:=λc=>by rw[at_new,closeOps];rfl
  have aP:∀c,ClosedAt c (A.size+1) (A++zAT i b.frame.fn b.frame.place (zA2 c)):=λc=>⟨by rw[act?_of (au c)],i,by rw[g?_of (au c)],by
   rw[deaf_quiet (λop ai bx=>by
    rw[closeOps]at ai;simp only[zAz,zJ,zAd,zBh]at ai
    rcases ai with rfl|rfl<;>rfl) 1 sx]
   exact h.core.past.hears i (.inr rfl)⟩
  have bb:∀c,Before (A++zAT i b.frame.fn b.frame.place (zA2 c)) m (A.size+1):=λc=>.inr (hb_po sa (by rw[getElem?_append_old ba];exact aO) (au c) a9);have bc:∀c,(A++zAT i b.frame.fn b.frame.place (zA2 c)).size=A.size+2:=λc=>sx
  cases U with
  |false=>
   cases k with
   |succ k=>
    obtain⟨_,D,ac,C⟩:=V;exact quiet ac C (by simp[msV])
   |zero=>
    obtain⟨bd,be,D,bf,ac,C⟩:=V;obtain⟨av,aQ,ao⟩:=h.out;have T:=runT_crowd_go (P:=P) (sl:=ab) M (by rw[aD];exact ac (w.at R) _ _ _ _ ao);obtain⟨aF,_,aw,_⟩:=evHd_ops (Still:=NoS) (B:=B) (i:=i) (fn:=b.frame.fn) (pos:=b.frame.place) (closeEvents_ok h.low.1);obtain⟨E,ah⟩:=qpS ag rfl af (λu=>af u.symm) M (a':=D) (w':=(w.at R).setChan co 0 #[] I av aQ zb) (es:=zA2 co) (q9K ag.past (.inr rfl) aF (qBF (.inl rfl) _ _ _) h.snd.2 (aE co i) aw);refine Comes.trans (Q:=λH L=>H=_/\L=_) ⟨1,_,_,qfA (al.trans T),rfl,rfl⟩ λH L C=>?_;obtain⟨rfl,rfl⟩:=C;refine aC _ ?_ _ _ ab q _ I k2 (an.trans (RE.chan _ (.inl rfl) ..)) ⟨by simp[h.size],⟨D,ah,C⟩,E,⟨av,aQ,heap_setChan_self (w.at R) ao ..⟩,?_,⟨qtL h.snd.1 _,qyX h.snd.2 _⟩,λ_=>⟨A.size+1,aP co,bb co⟩,h.low⟩ rfl
    .simp[msV]at a7⊢;omega
    .obtain⟨a,u⟩:=h.last;exact⟨a,by rw[zDP _ _ _ _ _ _ _ aj];exact u⟩
  |true=>
   cases k with
   |succ k=>
    obtain⟨_,D,ac,C⟩:=V;exact quiet ac C (by simp[msV])
   |zero=>
    obtain⟨bd,be,D,bf,ac,C⟩:=V;obtain⟨av,ap⟩:=h.last;have T:=runT_crowd_go (P:=P) (sl:=ab) M (by rw[aD];exact ac (w.at R) _ _ _ _ ap);obtain⟨aF,_,aw,_⟩:=evHd_ops (Still:=NoS) (B:=B) (i:=i) (fn:=b.frame.fn) (pos:=b.frame.place) (closeEvents_ok h.low.2);obtain⟨E,ah⟩:=qpS ag rfl af (λu=>af u.symm) M (a':=D) (w':=(w.at R).setChan cl 1 #[Wv] I av ks zb) (es:=zA2 cl) (q9K ag.past (.inr rfl) aF (qBF (.inr rfl) _ _ _) h.snd.2 (aE cl i) aw);refine Comes.trans (Q:=λH L=>H=_/\L=_) ⟨1,_,_,qfA (al.trans T),rfl,rfl⟩ λH L C=>?_;obtain⟨rfl,rfl⟩:=C;refine qea (m3:=A.size+1) (ks:=ks) (m:=m) ay aj aL aM aB _ _ _ ab (upd q i k3) _ (an.trans (RE.chan _ (.inr rfl) ..)) ⟨by simp[h.size],?_,?_,⟨av,heap_setChan_self (w.at R) ap ..⟩,qtL h.snd.1 _,qvL (h.shut rfl) _,aP cl,h.low⟩ rfl
    .refine⟨λx y _ W=>?_,E.chans,E.wf,E.live,E.inj,E.above,λj bg e=>?_,λj hM=>.inl (by rw[hM];simp[Dm]),λ_ _ _ _=>trivial,?_,trivial⟩
     .by_cases aG:x=i
      .subst aG;rw[ah]at W;obtain rfl:=zv W;rw[upd_same,q0A af];exact⟨ay,by rw[aE,h.core.past.hears x (.inr rfl)];exact C⟩
      .rw[upd_ne q k3 aG];exact E.idle x y aG W
     .by_cases aR:j=0
      .exact⟨aR,(E.mem j bg e).2⟩
      .rw[q0A aR]at e;cases e
     .refine⟨E.past.clean,λj t aq bh=>.inl ?_,λ_ _ _ _ aH=>aH.elim,λg ar=>E.past.hears g (.inl ar),E.past.seen⟩;rcases E.past.known j t aq bh with(u|⟨aT,a',aU,_,aH⟩)|⟨_,bi,_⟩
      .exact .inl u
      .rw[aq]at aU;obtain rfl:=zv aU;obtain⟨z,ax,bj⟩:=touch_of aq;have bl:z.g=i:=by rw[g?_of ax]at aT;exact zv aT
       have bm:=lt_size_of_getElem? ax;rw[bc]at bm;have bz:j≠A.size+1:=λe=>by subst e;rw[au cl]at ax;obtain rfl:=zv ax;simp[MemAct.touch?]at bj
       exact .inr ⟨.inr (hb_po sa ax (au cl) bl),t,aq,λx Y=>by rcases aH with e|e<;>rw[e]at Y<;>cases Y⟩
      .exact bi.elim
    .obtain⟨a,b,u⟩:=h.out;exact⟨a,b,by rw[zDP _ _ _ _ _ _ _ (zBw aj)];exact u⟩
 by_cases aV:i=0/\∃ae,AtIn P (i==0) TrK NoS B X g ae
 .obtain⟨rfl,ae,u⟩:=aV;obtain⟨_,_,_,_,aW,es,bn,aX⟩:=u;obtain rfl:=q1Q bn;rw[aL,aM]at aX
  have aY:∀c,partners (aa.setIfInBounds 0 ph) c I=[]:=λc=>partners_nil λx y W=>by
   rcases getElem?_stand aa 0 x y W with⟨_,rfl⟩|⟨Y,aI⟩
   .exact offersAt_ph _ _
   .by_cases aZ:x=s
    .subst aZ;rw[M]at aI;obtain rfl:=zv aI;exact offersAt_of_not_blocked (by rw[V.run];simp) _ _
    .exact TokCore.noSend ag aZ aI _
  obtain⟨a0,b1,ao⟩:=h.out;obtain⟨aJ,ap⟩:=h.last;have a1:Deaf A 0=0:=h.core.past.hears 0 (.inl rfl);have ah:∀D,(aa.setIfInBounds 0 D)[s]?=O b:=λD=>by rw[zO (λe=>af e.symm)];exact M
  have mk:∀{D:zH}{a2:zp}{ad:zDQ},(∀op∈ad,op.g=0/\op.act.touch?=zc/\∀g d,deafStep g d op=d)->(∀op∈ad,op.act.low B)->(∀i,Before A i m->Knows (A++ad) 0 i)->
    qMF P (JG co cl) (·=s) B (λt i=>Knows t 0 i) (λg=>g=0\/g=s) (λ_=>zc) (λi=>i=0\/i=s) (A++ad) (aa.setIfInBounds 0 D) a2 q:=by
   intro D a2 ad aK aw bo;refine⟨λx y Y W=>?_,λ_ _ _ _ e=>(by cases e),λ_ _ e=>(by cases e),λ_ _ u=>u.elim,λ_ _ _ _ _ e=>(by cases e),λj aq=>?_,λ_ _ e=>(by cases e),λi hM=>.inr hM,λ_ _ _ e=>(by cases e),qrR h.core.past (λg ar=>ar) aK aw h.snd.2 bo,trivial⟩
   .rw[zO (λe=>Y (.inl e.symm))]at W;have:=h.core.idle x y (λu=>Y (.inr u)) W;rw[q0A (λu=>Y (.inl u))]at this;exact⟨this.1,by rw[(qOD aK).2.2];exact this.2⟩
   .rw[(qOD aK).2.2];exact h.core.above j (by simpa using aq)
  rcases q0L (sl:=ab) (i:=0) ak (aX _ trivial) (aY cl) (aY co) (O Wv) (w:=w.at R) ap ao with⟨e,_⟩|⟨a3,⟨x,Y,T⟩|⟨e,_⟩|⟨_,a4,T⟩⟩
  .cases e
  .obtain rfl:=zv Y;refine Comes.trans (Q:=λH L=>H=_/\L=_) ⟨1,_,_,qfA (al.trans T),rfl,rfl⟩ λH L C=>?_;obtain⟨rfl,rfl⟩:=C;refine qnS (k2:=k2) (k3:=k3) ay aj (aB ae aW _ ((an.trans (RE.at _ a3)).trans (RE.chan _ (.inr rfl) ..))).1 _ _ q _ B U k (zS aN) ⟨by simp[h.size],⟨b,ah _,V⟩,mk (qOJ _ _ _ _) (qvP h.low.2) (λi u=>qtK h.snd.1.1 h.snd.1.2 a1 _ _ u),⟨⟨a0,b1,?_⟩,⟨aJ,ks+1,heap_setChan_self _ (o:=.chan 1 #[Wv] zb aJ ks zb) ap ..⟩⟩,h.low⟩ (λu=>by cases u);rw[zDP _ _ _ _ _ _ _ (zBw aj)];exact ao
  .cases e
  .refine Comes.trans (Q:=λH L=>H=_/\L=_) ⟨1,_,_,qfA (al.trans T),rfl,rfl⟩ λH L C=>?_;obtain⟨rfl,rfl⟩:=C;obtain⟨bA,c2,bp⟩:=h.shut a4;exact qnS (k2:=k2) (k3:=k3) ay aj (aB ae aW _ (an.trans (RE.at _ a3))).2 _ _ q _ B U k (zS aN) ⟨by simp[h.size],⟨b,ah _,V⟩,mk (quM _ _ _) (qAQ h.low.1) (λi u=>qyK c2 a1 _ _ (u.trans bp)),⟨⟨a0,b1,ao⟩,⟨aJ,ks,ap⟩⟩,h.low⟩ (λ_=>a4)
 .obtain⟨bq,ad,br,T,a5,bt,E,bB⟩:=Ma (sl:=ab) (λt bu i=>KU.app bu) ag ak es ar (λx bC Y a6=>by subst Y;rw[M]at a6;obtain rfl:=zv a6;exact V.run) aV;refine Comes.trans (Q:=λH L=>H=_/\L=_) ⟨1,_,_,qfA (al.trans T),rfl,rfl⟩ λH L C=>?_;obtain⟨rfl,rfl⟩:=C;exact aC _ (by rw[a5];omega) bq (w.at R) ab br _ U k an ⟨a5.trans h.size,⟨b,by rw[bt s rfl];exact M,V⟩,E,h.out,h.last,⟨qtL h.snd.1 ad,qyX h.snd.2 ad⟩,λu=>qvL (h.shut u) ad,h.low⟩ rfl
def qPY{Mem}{aE}{ai}{w}{q}{k kk ko}{b C}{z'}{sl}(aF:0<s)(V:co≠cl)(aj:X.cases=Bj cl co zW zA I)(aG:X.shape=.select)(aH:∀D,X.home D->∀w₁,RE co cl w w₁->ME P co cl Wv zW zA Fin I I (zA1 D (zAV (Bj cl co zW zA I) .select 0 Wv I)) w₁/\ME P co cl Wv zW zA Fin zb zb (zA1 D (zAV (Bj cl co zW zA I) .select 1 zA zb)) w₁)(aZ:ai.size=s+1)(aw:Mem 0)(ak:Mem s)(hb:ai[s]?=O b)(a0:b.status=.running)(aI:∀d,zAE P zb b (w.at d)=.comm C #[scase cl Wv z'] I .send (w.at d) #[])(aJ:SV P co cl k2 k3 zb k (zA1 C zAX))(aK:w.heap[co]?=O (.chan 0 #[] zb ko ko zb))(al:w.heap[cl]?=O (.chan 1 #[] zb kk kk zb))(an:co<B/\cl<B)(R:Ring P TrK NoS B Mem (Dm X) s aE ai w q):Comes P (zA8 ai w sl) aE (qrK P s Fin):=by
 have aL:(s==0)=zb:=sf
 have T:s≠0:=sa
 obtain⟨N,L,d,M,bj,ao,ap,ax,aM,aN,a1,aO,E⟩:=picked (sl:=sl) qQE hb a0 R;have aP:L.size=s+1:=a1.trans aZ;have aQ:0<L.size:=sa
 obtain⟨W,Y⟩:∃W,L[0]?=O W:=⟨L[0],zAO aQ⟩;have ay:zDU P I TrK NoS B X (ax 0) W:=E.idle 0 W (λh=>T h.symm) Y;have r:RE co cl w (w.at M):=RE.at w M;have aR:X.cases[0]?=O (zAR cl zW):=by rw[aj];rfl
 have a2:∀(m:Z)(az:CommCase),m≠0->X.cases[m]?=O az->az.chan≠.chan (O cl):=by
  intro m az hm aq aT;rw[aj]at aq;rcases m with _|_|m
  .exact hm rfl
  .simp[Bj]at aq;subst aq;simp[zAR]at aT;exact V aT
  .simp[Bj]at aq
 have aU:∀(x:Z)(y:zH),x≠0->(L.setIfInBounds s ph)[x]?=O y->offersAt y cl zb=[]:=by
  intro x y u A;rcases getElem?_stand L s x y A with⟨_,rfl⟩|⟨a3,a4⟩
  .exact offersAt_ph _ _
  .exact TokCore.noRecvAt E a3 a4 λar aV _=>by rw[q0A u]at aV;cases aV
 have aA:PastH NoS Mem (λg=>g≠s/\(Dm X g).isSome) B s ap:=E.past;rcases ay with⟨a5,a6,aa,a7⟩|⟨bl,bm,D,rfl,a8⟩
 .have aW:W.status=.running:=(Sits.status (w:=w) trivial (.inl ⟨a5,a6,aa,a7⟩)).elim (·.1) (λz=>sa)
  have aB:partners (L.setIfInBounds s ph) cl zb=[]:=partners_nil λx y A=>by
   by_cases u:x=0
   .subst u;rw[stand_get (λh=>T h.symm) Y]at A;obtain rfl:=zv A;exact offersAt_of_not_blocked (by rw[aW];simp) _ _
   .exact aU x y u A
  have ab:=crowd_send_room (P:=P) (sl:=ao) aO (by rw[aL];exact aI M) (w₁:=w.at M) al sd aB;rw[qgA,Array.empty_append]at ab;have ac:=aA.toS ak C.frame.fn C.frame.place kk an.2
  have bc:∀op∈(#[{g:=s,fn:=C.frame.fn,pos:=C.frame.place,act:=.send cl kk},{g:=s,fn:=C.frame.fn,pos:=C.frame.place,act:=.sendDone cl kk}]:zDQ),op.g=s/\op.act.touch?=zc/\∀g d,deafStep g d op=d:=λop aX=>by
   simp only[zAz,zJ,zAd,zBh]at aX;rcases aX with rfl|rfl<;>exact⟨rfl,rfl,λ_ _=>rfl⟩
  have ad:=(qOD bc).2.2;refine Comes.trans (Q:=λae af=>ae=_/\af=_) ⟨N+1,_,_,runNT_succ_of aM (aN.trans ab),rfl,rfl⟩ λae af aa=>?_;obtain⟨rfl,rfl⟩:=aa;refine qfa (k2:=k2) (k3:=k3) (m:=ap.size) (ks:=kk) (B:=B) aF V aj aG aH _ _ _ ao ax _ zb k (r.trans (RE.chan _ (.inr rfl) ..)) ⟨by simp[aP],⟨_,zS sa,aJ⟩,?_,⟨ko,ko,?_⟩,⟨kk+1,heap_setChan_self (w.at M) al ..⟩,⟨⟨ac.2.1,ac.2.2⟩,by simp[Trace.g?]⟩,λh=>(by cases h),an⟩ rfl
  .refine⟨λx y u A=>?_,λj ar c bd e _=>(by rw[q0A bd]at e;cases e),E.wf,λx y u A=>?_,E.inj,λj aC=>?_,λj ar e=>?_,λj hM=>hM.elim (λh=>.inl (by subst h;simp[Dm])) .inr,λ_ _ _ _=>trivial,?_,trivial⟩
   .rw[zO (λe=>u e.symm)]at A;have H:=E.idle x y u A;cases es:Dm X x with
    |none=>rw[es]at H;exact⟨H.1,by rw[ad];exact H.2⟩
    |some ar=>rw[es]at H;exact H
   .subst u;rw[zO T,Y]at A;obtain rfl:=zv A;exact aW
   .rw[ad];exact E.above j (by simpa using aC)
   .by_cases aY:j=0
    .exact⟨.inl aY,(E.mem j ar e).2⟩
    .rw[q0A aY]at e;cases e
   .exact qJb (qMQ (qlJ ac.1) λg ag=>ag.elim (λe=>e▸ac.1.hears 0 aw) λe=>e▸ac.1.hears s ak) λi a _ _ h=>.inl h
  .rw[zDP _ _ _ _ _ _ _ (zBw V)];exact aK
 .have be:=a8.2.2.2.2.1
  have aB:partners (L.setIfInBounds s ph) cl zb=[(0,0)]:=by
   rw[partners_one (stand_get (λh=>T h.symm) Y) λx y u A=>aU x y u A,offersAt_parked_at aR a2];rfl
  have ab:=crowd_send_meets_sel (P:=P) (sl:=ao) aO (by rw[aL];exact aI M) (w₁:=w.at M) al (λh=>T h.symm) Y aR aB;rw[qgA,Array.empty_append]at ab;have U:=aA.give ak aw C.frame.fn C.frame.place D.frame.fn D.frame.place kk 1 an.2;have bf:∀op∈met s 0 C.frame.fn C.frame.place D.frame.fn D.frame.place cl kk 1,op.act.touch?=zc:=met_mute _ _ _ _ _ _ _ _ _;have ad:∀x,Deaf (ap++met s 0 C.frame.fn C.frame.place D.frame.fn D.frame.place cl kk 1) x=Deaf ap x:=λx=>Deaf_quiet (met_quiet _ _ _ _ _ _ _ _ _ x);refine Comes.trans (Q:=λae af=>ae=_/\af=_) ⟨N+1,_,_,runNT_succ_of aM (aN.trans ab),rfl,rfl⟩ λae af aa=>?_;obtain⟨rfl,rfl⟩:=aa;have bg:=(aH D be _ (r.trans (RE.chan _ (.inr rfl) 1 #[] zb (kk+1) (kk+1) zb))).1;refine qnS (k2:=k2) (k3:=k3) aF V bg _ ao ax _ B zb k (by rw[zO T,zS aQ,finishComm_served,aj,aG];rfl) ⟨by simp[aP],⟨_,zS sf,aJ⟩,?_,⟨⟨ko,ko,?_⟩,⟨kk+1,kk+1,heap_setChan_self (w.at M) al ..⟩⟩,an⟩ (λh=>by cases h)
  .refine⟨λx y u A=>?_,λ_ _ _ _ e=>(by cases e),λ_ _ e=>(by cases e),λ_ _ h=>h.elim,λ_ _ _ _ _ e=>(by cases e),λj aC=>?_,λ_ _ e=>(by cases e),λi hM=>.inr hM,λ_ _ _ e=>(by cases e),⟨U.clean,λi a au av=>?_,λi a au bt ay g ag=>?_,λg ag=>?_,U.seen⟩,trivial⟩
   .rw[zO (λe=>u (.inr e.symm)),zO (λe=>u (.inl e.symm))]at A;have H:=E.idle x y (λh=>u (.inr h)) A;rw[q0A (λh=>u (.inl h))]at H;exact⟨H.1,by have h:=H.2;rw[<-ad x]at h;exact h⟩
   .exact(ad j).trans (E.above j (by simpa using aC))
   .exact(U.known i a au av).imp id λ⟨_,ah,_⟩=>ah.elim
   .have av:a.loc.isMemory=I:=by rcases ay with e|e<;>rw[e]<;>rfl
    rcases ag with rfl|rfl
    .exact(U.known i a au av).elim id λ⟨_,ah,_⟩=>ah.elim
    .obtain⟨x,u,aD⟩:=touch_of au;rcases getElem?_append_cases u with⟨_,bh⟩|⟨_,bi⟩
     .exact((aA.known i a (by rw[touchAt_of bh];exact aD) av).elim id λ⟨_,ah,_⟩=>ah.elim).app _
     .rw[bf x bi]at aD;cases aD
   .rcases ag with rfl|rfl
    .exact U.hears 0 aw
    .exact U.hears g ak
  .rw[zDP _ _ _ _ _ _ _ (zBw V)];exact aK
end
end
section
variable{P:zt}
def qzK{B0:Z}{Mem:Z->Prop}{C:Z->zs Seat}{h n:Z}{E:Env P}(hE:E.main=(h==0))(ae:∀i s c,C i=O s->s.has c->c<E.N)(af:∀f args w R,¬E.Big f args w R):∀{a:zH}{w:zp},E.G a w->∀{A:zR zH}{sl:zs (Z×Z)}{q:Z->Z}{B:Z}{T:zDQ},A.size=n->A[h]?=O a->B0<=B->Ring P TrK NoS B Mem C h T A w q->Comes P (zA8 A w sl) T λm' D=>∃a' w' H sl' q' L,E.Stop a' w'/\m'=zA8 H w' sl'/\H.size=n/\H[h]?=O a'/\B0<=L/\Ring P TrK NoS L Mem C h D H w' q':=by
 intro a w ag
 induction ag with
 |@stop a w hs=>exact λU V M W=>.now ⟨a,w,_,_,_,_,by have:=hs w.drawn;exact this,rfl,U,V,M,W⟩
 |@step a w ah ai aj aa ak _ al=>
  intro A sl q B T U V an W;obtain⟨N,aG,d,u,aH,ao,aI,aJ,ap,aq,ar,ab,au⟩:=picked (sl:=sl) qQE V ah W;obtain⟨ac,av,ad⟩:=ak u;obtain⟨L,M,aw⟩:=qCM (aa u) B;rw[hE]at ac;have ax:DH TrK NoS L C (w.at u) (aj u) (aa u):=⟨λ_=>trivial,λi s c ay az=>av c (ae i s c ay az),λe Y=>⟨λ_ _ aA=>aA.elim,(ad e Y).1,(ad e Y).2,aw e Y⟩⟩;obtain⟨aB,aC⟩:=(qcJ au M).own (a':=ai u) ab ax;have aD:=runT_crowd_go (P:=P) (sl:=ao) ab ac;refine Comes.trans (Q:=λm' D=>m'=_/\D=_) ⟨N+1,_,_,runNT_succ_of ap (aq.trans aD),rfl,rfl⟩ λm' D aE=>?_;obtain⟨rfl,rfl⟩:=aE;exact al u (by simp[ar,U]) aC (zZ an M) aB
 |big aF _ _=>exact λ_ _ _ _=>absurd (aF 0) (af _ _ _ _)
def In2(X S:Seat)(s:Z):Z->zs Seat
 |0=>O X
 |i+1=>if i+1=s then O S else zc
section
variable{X S:Seat}{s:Z}
def q6O(h:0<s):In2 X S s s=O S:=by cases s with
 |zero=>omega
 |succ n=>simp[In2]
def qpH{i}(h:i≠0)(hs:i≠s):In2 X S s i=zc:=by cases i with
 |zero=>exact absurd rfl h
 |succ n=>simp[In2,hs]
def q7O{i}{Y}(h:In2 X S s i=O Y):i=0/\Y=X\/i=s/\Y=S:=by
 by_cases q:i=0
 .subst q;exact .inl ⟨rfl,(zv h).symm⟩
 .by_cases hs:i=s
  .subst hs;rw[q6O sa]at h;exact .inr ⟨rfl,(zv h).symm⟩
  .rw[qpH q hs]at h;cases h
end
def Two(P:zt)(B0:Z)(X S:Seat)(s h:Z)(a:zH)(w:zp)(m:Machine)(T:zDQ):Prop:=
 ∃q sl A u Mem,m=zA8 q w sl/\q.size=s+1/\q[h]?=O a/\Mem 0/\Mem s/\B0<=u/\Ring P TrK NoS u Mem (In2 X S s) h T q w A
section
variable{B0:Z}{X S:Seat}{s:Z}{a:zH}{w:zp}{m:Machine}{T:zDQ}
def qrP{h:Z}{E:Env P}(hE:E.main=(h==0))(A:∀c,X.has c->c<E.N)(B:∀c,S.has c->c<E.N)(C:∀f args w R,¬E.Big f args w R)(D:E.G a w)(H:Two P B0 X S s h a w m T):Comes P m T λm' q=>∃a' w',E.Stop a' w'/\Two P B0 X S s h a' w' m' q:=by
 obtain⟨ai,sl,aj,ak,Mem,rfl,L,M,Q,U,V,W⟩:=H;refine(qzK hE (λi al c e u=>?_) C D L M V W).mono ?_
 .rcases q7O e with⟨_,rfl⟩|⟨_,rfl⟩
  .exact A c u
  .exact B c u
 .rintro m' q ⟨a',w',Y,aa,ab,ac,ad,rfl,ae,af,ag,ah⟩;exact⟨a',w',ad,Y,aa,ab,ac,Mem,rfl,ae,af,Q,U,ag,ah⟩
def qsS(B:0<s){c n0}{v z z'}{u}(C:S.cases=#[zAR c z])(D:a.status=.running)(E:∀d,zAE P I a (w.at d)=.comm u #[scase c v z'] I .send (w.at d) #[])(H:zDU P I TrK NoS 0 X n0 (zA1 u zAX))(L:Two P B0 X S s 0 a w m T):Comes P m T λm' q=>∃h d k cap,S.home h/\w.heap[c]?=O (.chan cap #[] zb k k zb)/\Two P B0 X S s s (zA1 h (zAV S.cases S.shape 0 v I)) ((w.at d).setChan c cap #[] zb (k+1) (k+1) zb) m' q:=by
 obtain⟨ai,sl,aj,M,Mem,rfl,Q,R,A,U,V,W⟩:=L;obtain⟨N,m',q,Y,aa,h,d,k,cap,ab,ac,rfl,ad,ae,af,ag,ah⟩:=give (sl:=sl) qQE (λ_ _ _ _ _ _ _ _ _ _ _ _ _=>trivial) (show s≠0 by omega) sa (q6O B) (kk:=0) (by rw[C];rfl) A R D E qMM W (Inb':=In2 X S s) (λ_ _=>rfl) (.inl rfl) (nh:=n0) (λ_ _=>qJC (zF _) H);exact⟨N,_,q,Y,h,d,k,cap,af,ag,aa,ab,ac,M,_,rfl,ad.trans Q,ae,⟨A,.inl (by simp[In2])⟩,⟨U,.inr rfl⟩,V,ah⟩
def qrS(u:0<s){c n0}{v z z'}{A}(D:X.cases=#[zAR c z])(E:a.status=.running)(H:∀d,zAE P zb a (w.at d)=.comm A #[scase c v z'] I .send (w.at d) #[])(L:zDU P zb TrK NoS 0 S n0 (zA1 A zAX))(M:Two P B0 X S s s a w m T):Comes P m T λm' q=>∃h d k cap,X.home h/\w.heap[c]?=O (.chan cap #[] zb k k zb)/\Two P B0 X S s 0 (zA1 h (zAV X.cases X.shape 0 v I)) ((w.at d).setChan c cap #[] zb (k+1) (k+1) zb) m' q:=by
 obtain⟨aj,sl,ak,Q,Mem,rfl,R,U,V,B,W,Y⟩:=M;have C:(s==0)=zb:=sf
 obtain⟨N,m',q,aa,ab,h,d,k,cap,ac,ad,rfl,ae,af,ag,ah,ai⟩:=give (sl:=sl) qQE (λ_ _ _ _ _ _ _ _ _ _ _ _ _=>trivial) (show 0≠s by omega) sa (show In2 X S s 0=O X from rfl) (kk:=0) (by rw[D];rfl) B U E (λd=>by rw[C];exact H d) qMM Y (Inb':=In2 X S s) (λ_ _=>rfl) (.inl rfl) (nh:=n0)
  (λ_ _=>by rw[q6O u];show zDU P (s==0) _ _ _ _ _ _;rw[C];exact qJC (zF _) L)
 exact⟨N,_,q,aa,h,d,k,cap,ag,ah,ab,ac,ad,Q,_,rfl,ae.trans R,af,⟨V,.inr rfl⟩,⟨B,.inl (by rw[q6O u];simp)⟩,W,ai⟩
def q7W(X'):upd (In2 X S s) 0 (O X')=In2 X' S s:=by
 funext i;by_cases h:i=0
 .subst h;rw[upd_same];rfl
 .rw[upd_ne _ _ h];cases i with
  |zero=>exact absurd rfl h
  |succ n=>rfl
def q6W(u:0<s)(S'):upd (In2 X S s) s (O S')=In2 X S' s:=by
 funext i;by_cases h:i=s
 .subst h;rw[upd_same,q6O u]
 .rw[upd_ne _ _ h];by_cases q:i=0
  .subst q;rfl
  .rw[qpH q h,qpH q h]
def qjM(Y:0<s){X'}(A:X'.Wf)(B:∀c,S.has c->¬X'.has c)(hc:∀c,X'.has c->∃cap k,w.heap[c]?=O (.chan cap #[] zb k k zb))(C:∀c,X'.has c->c<B0)(D:Two P B0 X S s 0 a w m T):Two P B0 X' S s 0 a w m T:=by
 obtain⟨E,sl,H,L,Mem,rfl,M,Q,q,R,u,U⟩:=D;refine⟨E,sl,H,L,Mem,rfl,M,Q,q,R,u,?_⟩;rw[<-q7W (X:=X)];refine U.reseat q X' A (λi aa c V e W=>?_) hc (λc h=>zQ (C c h) u);rcases q7O e with⟨h,_⟩|⟨_,rfl⟩
 .exact absurd h V
 .exact B c W
def qtS(A:0<s){S'}(B:S'.Wf)(C:∀c,X.has c->¬S'.has c)(hc:∀c,S'.has c->∃cap k,w.heap[c]?=O (.chan cap #[] zb k k zb))(D:∀c,S'.has c->c<B0)(E:Two P B0 X S s s a w m T):Two P B0 X S' s s a w m T:=by
 obtain⟨H,sl,L,M,Mem,rfl,Q,R,U,q,u,V⟩:=E;refine⟨H,sl,L,M,Mem,rfl,Q,R,U,q,u,?_⟩;rw[<-q6W (S:=S) A];refine V.reseat q S' B (λi aa c W e Y=>?_) hc (λc h=>zQ (D c h) u);rcases q7O e with⟨_,rfl⟩|⟨h,_⟩
 .exact C c Y
 .exact absurd h W
end
end
section
variable{P:zt}
def One(P:zt)(B0:Z)(X:Seat)(s h:Z)(a:zH)(w:zp)(m:Machine)(T:zDQ):Prop:=
 ∃q sl A u Mem,m=zA8 q w sl/\q.size=s+1/\q[h]?=O a/\Mem 0/\Mem s/\B0<=u/\Ring P TrK NoS u Mem (Dm X) h T q w A
section
variable{B0:Z}{X S:Seat}{s:Z}{a:zH}{w:zp}{m:Machine}{T:zDQ}
def qoQ{i}{Y}(h:Dm X i=O Y):i=0/\Y=X:=by
 cases i with
 |zero=>exact⟨rfl,(zv h).symm⟩
 |succ n=>cases h
def qPW{h:Z}{E:Env P}(hE:E.main=(h==0))(u:∀c,X.has c->c<E.N)(A:∀f args w R,¬E.Big f args w R)(B:E.G a w)(C:One P B0 X s h a w m T):Comes P m T λm' q=>∃a' w',E.Stop a' w'/\One P B0 X s h a' w' m' q:=by
 obtain⟨ah,sl,ai,aj,Mem,rfl,D,H,L,M,Q,U⟩:=C;refine(qzK hE (λi ak c e V=>?_) A B D H Q U).mono ?_
 .obtain⟨_,rfl⟩:=qoQ e;exact u c V
 .rintro m' q ⟨a',w',W,Y,aa,ab,ac,rfl,ad,ae,af,ag⟩;exact⟨a',w',ac,W,Y,aa,ab,Mem,rfl,ad,ae,L,M,af,ag⟩
def qvS(B:0<s){c n0 cap k}{z}{a'}(C:S.cases=#[zAR c z])(D:a.status=.running)(E:mayWake P a=I)(H:a'.status=.running)(hc:w.heap[c]?=O (.chan cap #[] zb k k zb))(L:∀d,zAE P I a (w.at d)=.go a' ((w.at d).setChan c cap #[] I k k zb) (zA2 c))(M:zDU P I TrK NoS 0 X n0 a')(Q:Two P B0 X S s 0 a w m T):Comes P m T λm' q=>∃h d,S.home h/\One P B0 X s s (zA1 h (zAV S.cases S.shape 0 z zb)) ((w.at d).setChan c cap #[] I k k zb) m' q:=by
 obtain⟨ak,sl,al,R,Mem,rfl,U,V,u,W,Y,aa⟩:=Q
 obtain⟨N,ab,h,d,ac,q,ad,ae,af,ag,ah,ai⟩:=give_close (sl:=sl) qQE (λ_ _ _ _ _ _ _ _ _ _ _ _ _=>trivial) (show s≠0 by omega) sa (q6O B) (kk:=0) (by rw[C];rfl) u V D E H hc L aa
  (Inb':=Dm X) (λx A aj=>by rw[qpH A aj,q0A A]) (.inl rfl) (q0A sa) (nh:=n0) (λ_ _=>qJC (zF _) M)
 exact⟨N,_,q,ae,h,d,ah,ab,ac,ad,R,_,rfl,af.trans U,ag,⟨u,.inl (by simp[Dm])⟩,⟨W,.inr rfl⟩,Y,ai⟩
end
def qqc(P:zt)(B0 n:Z)(X:Seat)(a' u:zH)(w:zp)(m':Machine)(A:zDQ):Prop:=
 ∃s h d sl B q,0<s/\n<=s/\m'=zA8 h (w.at d) sl/\h.size=s+1/\h[0]?=O a'/\h[s]?=O u/\B0<=q/\Dx P q (λt=>Knows t 0) (λg=>g=0\/g=s) (Dm X) (λi=>i=0\/i=s) A h (w.at d) B
def qLc{n B0}{X}{a a' A}{w}{m}{T}(ab:a.status=.running)(ac:∀d,zAE P I a (w.at d)=.spawn a' A (w.at d) #[])(ad:X.Wf)(hc:∀c,X.has c->∃cap k,w.heap[c]?=O (.chan cap #[] zb k k zb))(ae:∀c,X.has c->c<B0)(af:ER P (·=0) (λ_=>zc) 0 n a w m T):Comes P m T (qqc P B0 n X a' A w):=by
 obtain⟨ar,sl,au,C,rfl,av,ag,ah⟩:=af.of;obtain⟨N,h,d,H,aw,L,M,ai,aj,ak,ax,Q,al⟩:=picked (sl:=sl) qQE ag ab ah;have R:0<h.size:=(zAg.1 Q).1;have u:=(qcJ al (Nat.le_max_left C B0)).reseat rfl X ad (λi U c q e=>(by cases e)) hc (λc q=>zQ (ae c q) (Nat.le_max_right C B0))
 have an:upd (λ_=>zc) 0 (O X)=Dm X:=by
  funext i;cases i with
  |zero=>rw[upd_same];rfl
  |succ n=>rw[upd_ne _ _ sa];rfl
 rw[an]at u;have V:=runT_crowd_spawn (P:=P) (sl:=L) Q (ac H)
 have ao:((zAT 0 a.frame.fn a.frame.place #[]).push {g:=0,fn:=a.frame.fn,pos:=a.frame.place,act:=.go h.size}|>.push {g:=h.size,fn:=A.frame.fn,pos:=a.frame.place,act:=.start})=
   #[{g:=0,fn:=a.frame.fn,pos:=a.frame.place,act:=.go h.size},{g:=h.size,fn:=A.frame.fn,pos:=a.frame.place,act:=.start}]:=by
  rw[qgA];rfl
 rw[ao]at V;have W:=PastH.hire (c:=h.size) u.past rfl (u.above _ (zG _)) a.frame.fn a.frame.place A.frame.fn
 have Y:∀x,Deaf (M++#[{g:=0,fn:=a.frame.fn,pos:=a.frame.place,act:=.go h.size},{g:=h.size,fn:=A.frame.fn,pos:=a.frame.place,act:=.start}]) x=Deaf M x:=λx=>Deaf_quiet (λop aa d=>by
  simp only[zAz,zJ,zAd,zBh]at aa
  rcases aa with rfl|rfl<;>rfl)
 refine⟨N+1,_,_,runNT_succ_of aj (ak.trans V),h.size,_,H,L,ai,max C B0,R,sa,rfl,sd,?_,?_,Nat.le_max_right _ _,?_⟩
 .rw[zCz,zh sf];exact zS R
 .rw[zCz,zk sd]
 refine⟨λx y B D=>?_,u.chans,u.wf,λ_ _ q=>q.elim,u.inj,λj ap=>?_,λi U e=>⟨.inl (qoQ e).1,(u.mem i U e).2⟩,λi hM=>.inr hM,λ_ _ _ _=>trivial,qlJ (qMQ W λg aq=>W.hears g aq),trivial⟩
 .have ay:x<h.size:=by
   have:=(zAg.1 D).1;simp at this;rcases zAL x h.size with q|q
   .exact q
   .exact absurd (.inr sa) B
  rw[zCz,zh sf,zO (λe=>B (.inl e.symm))]at D;have E:=u.idle x y (λq=>B (.inl q)) D;rw[q0A (λq=>B (.inl q))]at E⊢;exact⟨E.1,by rw[Y];exact E.2⟩
 .rw[Y];exact u.above j (by simp at ap;omega)
def q5W{X S}{s}(u:0<s):upd (Dm X) s (O S)=In2 X S s:=by
 funext i;by_cases h:i=s
 .subst h;rw[upd_same,q6O u]
 .rw[upd_ne _ _ h];by_cases q:i=0
  .subst q;rfl
  .rw[qpH q h,q0A q]
def qZR{n B0:Z}{X}{a a' C}{w}{o}{m}{T}{c k k' ks j n0:Z}{v z}{S:Z->Seat}(H:a.status=.running)(L:∀d,zAE P I a (w.at d)=.spawn a' C (w.at d) #[])(M:X.Wf)(Q:∀c,X.has c->∃cap k,w.heap[c]?=O (.chan cap #[] zb k k zb))(R:∀c,X.has c->c<B0)(U:∀c',X.has c'->c'≠c)(hc:w.heap[c]?=O (.chan 0 #[] zb k k zb))(V:c<B0)(W:0<k')(Y:∀s,(S s).cases=#[zAR c z])(aa:∀s,Pre P w.heap.size o (S s) k' ks C)(hW:∀B,B0<=B->Way P B (KA w o) (qJH P (KA w o) c v λg=>zDU P I TrK NoS B X n0 g) j a')(ab:ER P (·=0) (λ_=>zc) 0 n a w m T):Comes P m T λm' D=>∃s h d,0<s/\n<=s/\(S s).home h/\Two P B0 X (S s) s s (zA1 h (zAV (S s).cases (S s).shape 0 v I)) (((w.alloc o).at d).setChan c 0 #[] zb (k+1) (k+1) zb) m' D:=by
 refine(qLc H L M Q R ab).trans ?_;rintro m' D ⟨s,aq,d,sl,ar,B,q,ac,rfl,ad,ae,hs,u,af⟩;refine(qDS (S:=S s) (sl:=sl) q hc (λi ag=>q0A ag) rfl U W (.inl rfl) (.inr rfl) (Y s) (zQ V u) ad hs (aa s) ae (hW B u) af).mono ?_;rintro au av ⟨ah,h,ai,aw,cap,aj,ak,rfl,al,an,ao,A,E⟩;have ap:=(heap_alloc_old (o:=o) hc).trans hc;rw[ap]at A;simp only[zAk,Obj.chan.injEq]at A;obtain⟨rfl,_,_,rfl,_,_⟩:=A;rw[q5W q]at E;exact⟨s,h,ai,q,ac,ao,ah,aj,ak,B,_,rfl,al,an,⟨.inl rfl,.inl (by simp[In2])⟩,⟨.inr rfl,.inr rfl⟩,u,E⟩
def qWO{n B0:Z}{X}{a a' u}{w}{o}{m}{T}{c k k' ks j n0:Z}{z}{S:Z->Seat}(D:a.status=.running)(E:∀d,zAE P I a (w.at d)=.spawn a' u (w.at d) #[])(H:X.Wf)(L:∀c,X.has c->∃cap k,w.heap[c]?=O (.chan cap #[] zb k k zb))(M:∀c,X.has c->c<B0)(Q:∀c',X.has c'->c'≠c)(hc:w.heap[c]?=O (.chan 0 #[] zb k k zb))(R:c<B0)(U:0<k')(V:∀s,(S s).cases=#[zAR c z])(W:∀s,Pre P w.heap.size o (S s) k' ks u)(hW:∀B,B0<=B->Way P B (KA w o) (qNF P (KA w o) c λg=>zDU P I TrK NoS B X n0 g) j a')(Y:ER P (·=0) (λ_=>zc) 0 n a w m T):Comes P m T λm' A=>∃s h d,0<s/\n<=s/\(S s).home h/\One P B0 X s s (zA1 h (zAV (S s).cases (S s).shape 0 z zb)) (((w.alloc o).setChan c 0 #[] I k k zb).at d) m' A:=by
 refine(qLc D E H L M Y).trans ?_;rintro m' A ⟨s,ar,d,sl,au,B,C,aa,rfl,ab,ac,hs,q,ad⟩;refine(qFP (S:=S s) (sl:=sl) C hc (λi ae=>q0A ae) rfl Q U (.inl rfl) (.inr rfl) (V s) (zQ R q) ab hs (W s) ac (hW B q) ad).mono ?_;rintro av aw ⟨af,h,ag,ah,ai,aj,rfl,ak,al,an,ao,ap,aq⟩;exact⟨s,h,ag,C,aa,an,af,ah,ai,B,aj,rfl,ak,al,ao,ap,q,aq⟩
def qzY{B0}{co cl k2 k3 k kk ko s}{Wv zW zA z'}{Fin}{X}{b q}{w}{m}{T}(B:0<s)(C:co≠cl)(D:X.cases=Bj cl co zW zA I)(E:X.shape=.select)(H:∀h,X.home h->∀w₁,RE co cl w w₁->ME P co cl Wv zW zA Fin I I (zA1 h (zAV (Bj cl co zW zA I) .select 0 Wv I)) w₁/\ME P co cl Wv zW zA Fin zb zb (zA1 h (zAV (Bj cl co zW zA I) .select 1 zA zb)) w₁)(L:b.status=.running)(M:∀d,zAE P zb b (w.at d)=.comm q #[scase cl Wv z'] I .send (w.at d) #[])(Q:SV P co cl k2 k3 zb k (zA1 q zAX))(R:w.heap[co]?=O (.chan 0 #[] zb ko ko zb))(U:w.heap[cl]?=O (.chan 1 #[] zb kk kk zb))(u:co<B0/\cl<B0)(V:One P B0 X s s b w m T):Comes P m T (qrK P s Fin):=by
 obtain⟨ad,sl,ae,af,Mem,rfl,W,Y,aa,ab,A,ac⟩:=V;exact qPY (k2:=k2) (k3:=k3) B C D E H W aa ab Y L M Q R U ⟨zQ u.1 A,zQ u.2 A⟩ ac
end
end Go.Duo
namespace Go.Proofs.YtlmhpamhhgogaaaGreat.Sx
open Go.Conc (G)
open Go.Duo
open Go.RowKit
section
variable{P:zt}{E:Env P}
section
variable{b:zAt}{k:F Item}{cs:F zAt}{ops:zR zDO}
def qjT{K}{rest}(B:∀a' w',K a' w'->E.G (G (b.atR a' (.inRegion ops rest::k)) cs) w'):∀(l:F Z)(a:zDN)(w:zp),qNE E b.roundOf ops K l a w->E.G (G (b.atR a (.inRegion ops (l++rest)::k)) cs) w:=by
 intro l
 induction l with
 |nil=>exact λa w h=>B a w (h w.drawn)
 |cons i l A=>
  intro a w h;rw[zCx];simp only[qNE,qHC]at h;cases q:ops[i]? with
  |none=>
   simp only[q]at h;have:=A a w (h w.drawn);refine .quiet rfl (λw=>qHG (by simp[q])) ?_;simpa[q,zBg]using this
  |some o=>
   simp only[q]at h;by_cases u:zAs o (yielded ops a.tmps)=I
   .simp only[u,zBp]at h;exact qQQ q u h A
   .simp only[u,zCd,zAS]at h;have:=A _ w (h w.drawn);refine .quiet rfl (λw=>qHG (by simp[q];simpa using u)) ?_;simpa[q]using this
end
def J1(nt:Z)(a:zDN):Pin:=⟨a.defers,zBf nt,#[]⟩
def qcX{nt}{sl}{a}(q:a.tmps.size=nt)(h2:q1C sl a):Sim nt (J1 nt a) sl a:=
 ⟨q,rfl,h2,λn h=>by
  have:nt<=n:=by simp[J1]at h;exact h
  rw[zBt sa];rfl⟩
def qgL{nt}{ops}:∀{τ:F Z}{u:F CX},qxI P nt ops τ=O u->∀d∈qGE u,d<nt
 |[],u,h,d,q=>by simp[qxI]at h;subst h;simp[qGE]at q
 |i::τ,u,h,d,q=>by
  simp only[qxI]at h;split at h
  .cases h
  .split at h
   .cases h
   .rename_i D A;split at h
    .cases h
    .rename_i r w;simp at h;subst h;obtain⟨_,e,B⟩:=qPE A;simp only[qGE]at q;split at q
     .rename_i H C;rcases zJ.1 q with rfl|q
      .exact B _ (by rw[<-e];exact C)
      .exact qgL w d q
     .exact qgL w d q
structure Stn(nt:Z)(fr:Fr)(ds:F Deferred)(sl:Sl)(hs:Hs)(a:zDN)(w:zp):Prop where
 size:a.tmps.size=nt
 defers:a.defers=ds
 Au:q1C sl a
 sim:Aq fr hs w
def qRB{fr:Fr}(L:fr.has E){H:qOA}(M:CA E fr H){nt:Z}{B:F Deferred}{b:zAt}{k:F Item}{cs:F zAt}{ops:zR zDO}{τ rest:F Z}{u:F CX}{sl:Sl}{hs:Hs}{a:zDN}{w:zp}{K:Sl->Hs->Prop}(C:qxI P nt ops τ=O u)(hA:Stn nt fr B sl hs a w)(h:Ho P H noY u sl hs K)(hk:∀sl' q a' w',K sl' q->Stn nt fr B sl' q a' w'->E.G (G (b.atR a' (.inRegion ops rest::k)) cs) w'):E.G (G (b.atR a (.inRegion ops (τ++rest)::k)) cs) w:=by
 refine qjT (K:=λa' w'=>E.G (G (b.atR a' (.inRegion ops rest::k)) cs) w') (λ_ _ h=>h) τ a w ?_;have Q:=qcX hA.size hA.Au;exact qOG L M (qrF E fr) (D:=J1 nt a) (λsl' q a' w' R A T=>hk sl' q a' w' R ⟨A.size,A.defers.trans hA.defers,A.Au,T⟩) τ u sl hs a w C (λd U=>by simp[J1];exact qgL C d U) Q hA.sim h
def qRT{fr:Fr}(B:fr.has E){H:qOA}(C:CA E fr H){nt id:Z}{u:F Deferred}{b:zAt}{k:F Item}{cs:F zAt}{ops:zR zDO}{A:F CX}{sl:Sl}{hs:Hs}{a:zDN}{w:zp}{K:Sl->Hs->Prop}(D:qxI P nt ops (zBf ops.size)=O A)(hA:Stn nt fr u sl hs a w)(h:Ho P H noY A sl hs K)(hk:∀sl' q a' w',K sl' q->Stn nt fr u sl' q a' w'->E.G (G (b.atR a' k) cs) w'):E.G (G (b.atR a (.code (.region id ops zb)::k)) cs) w:=by
 refine .quiet rfl (λ_=>qIC) ?_;rw[<-zDi (zBf ops.size)];exact qRB B C D hA h λsl' q a' w' L M=>.quiet rfl (λ_=>quA) (hk sl' q a' w' L M)
def q2L(hm:P.follows .mixedOrders=I){fr:Fr}(L:fr.has E){H A:qOA}(M:IB E H)(R:∀fr:Fr,fr.has E->CA E fr A){nt id:Z}{B:F Deferred}{b:zAt}(hb:b.roundOf=zc){k:F Item}{cs:F zAt}{ops:zR zDO}{oi:OI}{t:OT}{sl:Sl}{hs:Hs}{a:zDN}{w:zp}{K:Sl->Hs->Prop}(T:qkJ ops=I)(U:Cu P ops [] zb oi (zAU ops.size zb)=I)(V:Fh P nt ops [] oi=O t)(W:∀d∈q7B t,d<nt)(Y:NoM (DZ ops []) sl)(hA:Stn nt fr B sl hs a w)(h:C0 P H A hs.lo t [] sl hs K)(hk:∀sl' q a' w',K sl' q->Stn nt fr B sl' q a' w'->E.G (G (b.atR a' k) cs) w'):E.G (G (b.atR a (.code (.region id ops I)::k)) cs) w:=by
 have:=qCI (r:=b.roundOf) (D:=J1 nt a) (Q:=λa' w'=>E.G (G (b.atR a' k) cs) w') L M R hm T (λk hk=>by cases hk) zBR (λsl' q a' w' aa u ab=>hk sl' q a' w' aa ⟨u.size,u.defers.trans hA.defers,u.Au,ab⟩) U V (λd ac=>by simp[J1];exact W d ac) Y (qcX hA.size hA.Au) hA.sim h
 refine(q2C (id:=id) (Q:=λe a' w'=>match e with
  |.normal=>E.G (G (b.atR a' k) cs) w'
  |_=>zV) hm this) b k cs rfl λe a' w' C=>?_
 cases e with
 |normal=>exact C
 |_=>exact C.elim
def q6B{fr:Fr}(A:fr.has E){H:qOA}(B:CA E fr H){nt id:Z}{q:F Deferred}{b:zAt}{k:F Item}{cs:F zAt}{ops:zR zDO}{u:F CX}{sl:Sl}{hs:Hs}{a:zDN}{w:zp}(C:qxI P nt ops (zBf ops.size)=O u)(hA:Stn nt fr q sl hs a w)(h:Ho P H noY u sl hs λsl' D=>∀a' w',Stn nt fr q sl' D a' w'->E.G (G (b.atR a' k) cs) w'):E.G (G (b.atR a (.code (.region id ops zb)::k)) cs) w:=
 qRT A B C hA h λ_ _ a' w' L M=>L a' w' M
def q1J{nt n:Z}{fr:Fr}{q:F Deferred}{b:zAt}{k:F Item}{cs:F zAt}{x y:zDT}{sl:Sl}{hs:Hs}{a:zDN}{w:zp}{v:SV}(t:zM)(u:AS sl n=O v)(A:Ae v=.bool t)(hA:Stn nt fr q sl hs a w)(h:E.G (G (b.atR a (.code (if t then x else y)::k)) cs) w):E.G (G (b.atR a (.code (.cond (.tmp n) x y)::k)) cs) w:=
 .quiet rfl (λ_=>qTO (by rw[qFA (hA.Au n v u),A])) h
def qvA{b:zAt}{a:zDN}{k:F Item}{cs:F zAt}{w:zp}{x y:zDT}(h:E.G (G (b.atR a (.code x::.code y::k)) cs) w):E.G (G (b.atR a (.code (.seq x y)::k)) cs) w:=.quiet rfl (λ_=>q1S) h
def qAI{b:zAt}{a:zDN}{k:F Item}{cs:F zAt}{w:zp}(h:E.G (G (b.atR a k) cs) w):E.G (G (b.atR a (.code .skip::k)) cs) w:=.quiet rfl (λ_=>qRO) h
def qLJ{b:zAt}{a:zDN}{k:F Item}{cs:F zAt}{w:zp}{id:Z}{c:zDT}(h:E.G (G (b.atR a (.code c::.inBlock id::k)) cs) w):E.G (G (b.atR a (.code (.block id c)::k)) cs) w:=.quiet rfl (λ_=>qlL) h
def qVR{b:zAt}{a:zDN}{k:F Item}{cs:F zAt}{w:zp}{id:Z}(h:E.G (G (b.atR a k) cs) w):E.G (G (b.atR a (.inBlock id::k)) cs) w:=.quiet rfl (λ_=>qIG) h
def qpL{g}{w}(h:∀d,E.Stop g (w.at d)):E.G g w:=.stop h
end
end Go.Proofs.YtlmhpamhhgogaaaGreat.Sx
namespace Go.Duo
open Go.Conc
open Go.Proofs.YtlmhpamhhgogaaaGreat.Sx
section
variable{P:zt}
def qrH{Q}(w):∀{n:Z}{g:zH},Quiet P Q n g->Goes P zb (RK TrK) (DS NoS 0) (λg _=>Q g) n g w
 |0,_,h=>λ_ _=>h
 |n+1,g,⟨u,B,A,h⟩=>.inr ⟨u,λq _=>by rw[A q,goes_go];exact⟨⟨rfl,sd⟩,qrH q h⟩⟩
def qQH{S}{n}{g}(h:Quiet P (λg=>∃q,AtIn P zb TrK NoS 0 S g q) n g):zDU P zb TrK NoS 0 S (n+1) g:=.inl ⟨n,default,rfl,qrH _ h⟩
def Cm(P:zt)(Q:zH->Prop):Z->zH->Prop
 |0,g=>Q g
 |n+1,g=>g.status=.running/\∃h,(∀q,zAE P I g q=.go h q #[])/\Cm P Q n h
def qoG{Q}(w):∀{n:Z}{g:zH},Cm P Q n g->Goes P I (RK TrK) (DS NoS 0) (λg _=>Q g) n g w
 |0,_,h=>λ_ _=>h
 |n+1,g,⟨u,B,A,h⟩=>.inr ⟨u,λq _=>by rw[A q,goes_go];exact⟨⟨rfl,sd⟩,qoG q h⟩⟩
def qFE{S}{n}{g}(h:Cm P (λg=>∃q,AtIn P I TrK NoS 0 S g q) n g):zDU P I TrK NoS 0 S (n+1) g:=.inl ⟨n,default,rfl,qoG _ h⟩
def Still(P:zt)(main:zM)(g g':zH):Prop:=g.status=.running/\∀h,zAE P main g h=.go g' h #[]
def Quiet.step{Q}{n}{g g'}(h:Still P zb g g')(k:Quiet P Q n g'):Quiet P Q (n+1) g:=⟨h.1,g',h.2,k⟩
def Cm.step{Q}{n}{g g'}(h:Still P I g g')(k:Cm P Q n g'):Cm P Q (n+1) g:=⟨h.1,g',h.2,k⟩
def qsA{Q}{g g'}(h:Still P zb g g')(k:∃n,Quiet P Q n g'):∃n,Quiet P Q n g:=k.imp' (·+1) λ_ q=>Quiet.step h q
def qYT{Q}{g g'}(h:Still P I g g')(k:∃n,Cm P Q n g'):∃n,Cm P Q n g:=k.imp' (·+1) λ_ q=>Cm.step h q
section
variable{main:zM}{b:zAt}{a:zDN}{k:F Item}{cs:F zAt}{ops:zR zDO}{i:Z}{rest:F Z}{o:zDO}
def q5B{x y}:Still P main (G (b.atR a (.code (.seq x y)::k)) cs) (G (b.atR a (.code x::.code y::k)) cs):=⟨rfl,λ_=>q1S⟩
def qCT:Still P main (G (b.atR a (.code .skip::k)) cs) (G (b.atR a k) cs):=⟨rfl,λ_=>qRO⟩
def qwE{id}{c}:Still P main (G (b.atR a (.code (.block id c)::k)) cs) (G (b.atR a (.code c::.inBlock id::k)) cs):=⟨rfl,λ_=>qlL⟩
def qTE{id}:Still P main (G (b.atR a (.inBlock id::k)) cs) (G (b.atR a k) cs):=⟨rfl,λ_=>qIG⟩
def qXO{c}:Still P main (G (b.atR a (.code (.loop c)::k)) cs) (G (b.atR a (.code c::.inLoop c::k)) cs):=⟨rfl,λ_=>q2S⟩
def qXJ{c}:Still P main (G (b.atR a (.inLoop c::k)) cs) (G (b.atR a (.code c::.inLoop c::k)) cs):=⟨rfl,λ_=>qRJ⟩
def AP{id}:Still P main (G (b.atR a (.code (.region id ops zb)::k)) cs) (G (b.atR a (.inRegion ops (zBf ops.size)::k)) cs):=⟨rfl,λ_=>qIC⟩
def qNA:Still P main (G (b.atR a (.inRegion ops []::k)) cs) (G (b.atR a k) cs):=⟨rfl,λ_=>quA⟩
def q0G{n}{x y}{t}(h:a.tmps[n]?=O (.bool t)):Still P main (G (b.atR a (.code (.cond (.tmp n) x y)::k)) cs) (G (b.atR a (.code (if t then x else y)::k)) cs):=⟨rfl,λ_=>qTO (by rw[qFA h])⟩
def qZY{id}{k'}(h:exitTo id k=O k'):Still P main (G (b.atR a (.code (.exit id)::k)) cs) (G (b.atR a k') cs):=⟨rfl,λ_=>qSO h⟩
def qzO{fr}{s:Sem Next}{w}(h:s.events P w #[]=#[]):lst P fr s w=#[]:=by unfold lst;rw[h];split<;>exact seen_none _ _
def qpM(hb:b.roundOf=zc)(h:ops[i]?=O o)(u:o.guard=zc){v}(q:∀w,(zy a.eval o).run P w=.ok (.value v) w/\(zy a.eval o).events P w #[]=#[]):Still P main (G (b.atR a (.inRegion ops (i::rest)::k)) cs) (G (b.atR (a.put o.dst v) (.inRegion ops rest::k)) cs):=⟨rfl,λw=>by
 have hs:o.semAt b.roundOf a.eval=zy a.eval o:=by rw[hb];rfl
 rw[qkL h (by simp[zAs,u]),hs,q0C (q w).1,qzO (q w).2,zBe,h];rfl⟩
def q1V(hb:b.roundOf=zc)(h:ops[i]?=O o)(u:o.guard=zc){d}(q:∀w,(zy a.eval o).run P w=.ok (.defer d) w/\(zy a.eval o).events P w #[]=#[]):Still P main (G (b.atR a (.inRegion ops (i::rest)::k)) cs) (G (b.atR ({a with defers:=d::a.defers}.put o.dst zAX) (.inRegion ops rest::k)) cs):=⟨rfl,λw=>by
 have hs:o.semAt b.roundOf a.eval=zy a.eval o:=by rw[hb];rfl
 rw[qkL h (by simp[zAs,u]),hs,qVK (q w).1,qzO (q w).2];have:=zBe b {a with defers:=d::a.defers} ops i rest k zAX;rw[h]at this
 exact zK (λf=>GStep.go (G f cs) w #[]) this⟩
def qYY(hb:b.roundOf=zc)(q:ops[i]?=O o)(u:o.guard=zc){x}(hop:o.op=.move x\/o.op=.assign x):Still P main (G (b.atR a (.inRegion ops (i::rest)::k)) cs) (G (b.atR (a.put o.dst (a.eval x)) (.inRegion ops rest::k)) cs):=
 qpM hb q u λw=>by rcases hop with h|h<;>exact⟨by simp[zy,h],by simp[zy,h]⟩
def qzG(hb:b.roundOf=zc)(h:ops[i]?=O o)(q:o.guard=zc){x}(hop:o.op=.move x\/o.op=.assign x){d}(hd:o.dst=O d){v}(u:a.eval x=v):Still P main (G (b.atR a (.inRegion ops (i::rest)::k)) cs) (G (b.atR (a.put (O d) v) (.inRegion ops rest::k)) cs):=by
 have:=qYY (P:=P) (main:=main) (k:=k) (cs:=cs) (a:=a) (rest:=rest) hb h q hop;rwa [hd,u]at this
def qya(hb:b.roundOf=zc)(q:ops[i]?=O o)(u:o.guard=zc){c:Call}{h:Builtin}{n}{v}(hop:o.op=.defer c)(hc:c.callee=.builtin h)(ha:c.args=#[.tmp n])(hd:o.dst=zc)(w:a.eval (.tmp n)=v):Still P main (G (b.atR a (.inRegion ops (i::rest)::k)) cs) (G (b.atR {a with defers:={target:=.builtin h c.argTypes o.type #[zb],args:=#[v]}::a.defers} (.inRegion ops rest::k)) cs):=by
 have:=q1V (P:=P) (main:=main) (k:=k) (cs:=cs) (a:=a) (rest:=rest) (d:={target:=.builtin h c.argTypes o.type #[zb],args:=#[v]}) hb q u λA=>by
  unfold zy;simp[hop,resolve,hc,ha,w]
 rwa [hd]at this
end
def qZA{B}{K}{Stop}{g g'}(h:Still P I g g')(k:∃n,Way P B K Stop n g'):∃n,Way P B K Stop n g:=
 k.imp' (·+1) λ_ q=>⟨h.1,g',λu _=>⟨#[],h.2 u,λe w=>by simp at w⟩,q⟩
def qoV{B:Z}{K:zp->Prop}{Stop:zH->Prop}{b:zAt}{a:zDN}{k:F Item}{cs:F zAt}{ops:zR zDO}{i:Z}{rest:F Z}{o:zDO}(hb:b.roundOf=zc)(u:ops[i]?=O o)(D:o.guard=zc){v:zg}(A:∀w,K w->(zy a.eval o).run P w=.ok (.value v) w/\∀e∈(zy a.eval o).events P w #[],EvHd NoS B e)(h:∃n,Way P B K Stop n (G (b.atR (a.put o.dst v) (.inRegion ops rest::k)) cs)):∃n,Way P B K Stop n (G (b.atR a (.inRegion ops (i::rest)::k)) cs):=by
 refine h.imp' (·+1) λn E=>⟨rfl,_,λw C=>⟨lst P (b.atR a (.inRegion ops (i::rest)::k)) (zy a.eval o) w,?_,?_⟩,E⟩
 .have hs:o.semAt b.roundOf a.eval=zy a.eval o:=by rw[hb];rfl
  rw[qkL u (by simp[zAs,D]),hs,q0C (A w C).1,zBe,u];rfl
 .intro e q;refine(A w C).2 e ?_;unfold lst at q;split at q
  .rw[seen_none]at q;simp at q
  .exact mem_seen q
end
end Go.Duo
namespace Go.Proofs.YtlmhpamhhgogaaaGreat.Sx
open Go.Conc (heap_setChan_ne heap_setChan_self)
open Go.RowKit
def frB(B:Z)(w:zp)(g:GW)(h:B<=w.heap.size):Fr:=⟨w,(·<B),g.g,λ_ q=>zQ q h⟩
def q7J{P:zt}{E:Env P}{B:Z}{w:zp}{g:GW}{h:B<=w.heap.size}(hE:E.N<=B):(frB B w g h).has E:=λ_ q=>zQ q hE
structure Cb(B:Z)(hs:Hs)(w:zp):Prop where
 size:B<=w.heap.size
 sim:Aq (frB B w hs.g size) hs w
 lo:B<=hs.lo
section
variable{B:Z}{hs hs':Hs}{w w':zp}
def Cb.of{fr:Fr}(h:Aq fr hs w)(A:B<=w.heap.size)(hl:B<=hs.lo):Cb B hs w:=
 ⟨A,⟨h.AJ,⟨rfl,rfl,rfl,zG _,λ_ _=>rfl⟩,h.res,h.nod,λb u=>⟨(h.fre b u).1,λq=>by have:=h.low.2 b u;have:b<B:=q;omega⟩,λ_ _ C=>C,λn D _ q=>by have:n<B:=q;omega,h.low⟩,hl⟩
def Cb.at(h:Cb B hs w)(d):Cb B hs (w.at d):=.of (h.sim.at d) h.size h.lo
def Cb.start{fr:Fr}(h:Aq fr hs w):Cb w.heap.size ⟨hs.g,[],0,w.heap.size⟩ w:=
 ⟨zG _,⟨h.AJ,⟨rfl,rfl,rfl,zG _,λ_ _=>rfl⟩,λ_ u=>absurd u (zAd),zBR,λ_ q=>by simp[Hs.bks]at q,λ_ _ A=>A,λn C _ D=>by have:n<w.heap.size:=D;simp only at C;omega,zG _,λb q=>by simp[Hs.bks]at q⟩,zG _⟩
def Cb.alloc(h:Cb B hs w)(id)(ty)(cells)(u:∀c∈cells,(Ae c).oneCell'=I)(nx):Cb B {hs with rs:=.blk id w.heap.size ty cells::hs.rs,nx:=nx} (w.alloc (.cells (qDA cells).toArray ty)):=by
 have q:=Below.AU w (.cells (qDA cells).toArray ty);have:=h.sim.EL q (r:=.blk id w.heap.size ty cells) (nx:=nx) ⟨by show(w.heap.push _)[w.heap.size]?=_;simp,u⟩ (λb hm=>by simp[Res.bk]at hm;omega) sk;exact .of this (zZ h.size q.size) h.lo
def Cb.chan(h:Cb B hs w){c}(hc:c<B)(C:¬hs.g.g c)(cap)(q)(cl)(s r)(u):Cb B hs (w.setChan c cap q cl s r u):=by
 have D:(w.setChan c cap q cl s r u).heap.size=w.heap.size:=Go.Duo.size_setChan ..;have E:∀n,n≠c->(w.setChan c cap q cl s r u).heap[n]?=w.heap[n]?:=λn A=>zDP w cap q cl s r u (zBw A);refine⟨by rw[D];exact h.size,⟨⟨by rw[D];exact h.sim.AJ.1,λn A=>(E n λe=>C (e▸A)).trans (h.sim.AJ.2 n A)⟩,⟨rfl,rfl,rfl,zG _,λ_ _=>rfl⟩,λr H=>?_,h.sim.nod,h.sim.fre,λ_ _ C=>C,h.sim.own,by rw[D];exact h.sim.low.1,h.sim.low.2⟩,h.lo⟩;refine Res.holds_of (λb L=>E b λe=>?_) (h.sim.res r H);exact(h.sim.fre b (zBA.2 ⟨r,H,L⟩)).2 (by subst e;exact hc)
def Cb.next{g}{q:B<=w.heap.size}(h:Aq (frB B w g q) hs' w')(hl:B<=hs'.lo):Cb B hs' w'/\Below B w w'/\∀n,n<B->hs'.g.g n->g.g n:=
 ⟨.of h (zZ q h.frm.size) hl,⟨h.frm.os,h.frm.tape,h.frm.output,h.frm.size,h.frm.block⟩,λn u A=>h.fz n u A⟩
def Cb.stn{nt}{q}{sl}{a}(h:Cb B hs w)(u:a.tmps.size=nt)(h2:a.defers=q)(A:q1C sl a):Stn nt (frB B w hs.g h.size) q sl hs a w:=⟨u,h2,A,h.sim⟩
def Cb.AJ(h:Cb B hs w):Good hs.g w:=h.sim.AJ
end
end Go.Proofs.YtlmhpamhhgogaaaGreat.Sx
namespace Go.Proofs.YtlmhpamhhgogaaaGreat.Sx
open Go.Conc (G)
section
variable{P:zt}{E:Env P}
def qXX(P:zt)(f:zBa)(R:zg->zp->Prop)(g:zH)(w:zp):Prop:=
 ∃(h:zAt)(fn:Func)(v:zg),g=G h []/\h.fn=f/\h.mode=.returning/\h.defers=[]/\h.kind=.normal/\P.funcs[h.fn]?=O fn/\(results fn h.tmps).run P w=.ok v w/\R v w
def Kc(E:Env P)(f:zBa)(args:zR zg)(w:zp)(R:zg->zp->Prop):Prop:=
 (∀g h,(∀d,qXX P f R g (h.at d))->E.Stop g h)->E.G (G (zAW P f args .normal) []) w
def Kc.mono{f}{args}{w}{R q}(h:Kc E f args w R)(k:∀v w',R v w'->q v w'):Kc E f args w q:=λu=>h λg w' A=>u g w' λd=>by
 obtain⟨B,fn,v,C,D,H,L,M,Q,T,U⟩:=A d;exact⟨B,fn,v,C,D,H,L,M,Q,T,k _ _ U⟩
def qEM{f}{fn}{R}(H:∀g w',(∀d,qXX P f (λv w=>R (.returned v) w) g (w'.at d))->E.Stop g w'):∀(h:F Deferred)(w:zp)(fr:zAt),fr.fn=f->fr.mode=.returning->fr.defers=h->P.funcs[fr.fn]?=O fn->fr.kind=.normal->qLF E fn fr.tmps R h w->E.G (G fr []) w
 |[],w,fr,A,hm,B,C,D,q=>.stop λ_=>H _ _ λd=>by
  obtain⟨v,L,M⟩:=q d;exact⟨fr,fn,v,rfl,A,hm,B,D,C,L,M⟩
 |x::h,w,fr,A,hm,B,C,D,q=>.one rfl λd=>by
  obtain⟨t,aa⟩:=x;rcases q with q|⟨k,ab,args,u,Q,T,U⟩
  .obtain⟨r,w',u,L,V,W⟩:=q d;simp only at u;subst u;exact⟨_,_,_,qdI hm B L,V,qQC (qjE _) _,qEM H h w' {fr with defers:=[]++h} A hm rfl C D W⟩
  .simp only at u;subst u;exact⟨_,_,_,q2P hm B (T _),.refl _,qQC Q _,Env.G.at (U {fr with defers:=h} [] hm λw' Y=>qEM H h w' {fr with defers:=h} A hm rfl C D Y) d⟩
def qWR{f}{fn}{c}{args}{w}{R}(u:P.funcs[f]?=O fn)(hb:fn.body=O c)(h:c.wpX E zc (qTK E fn R) {tmps:=args++zAU (fn.ntmps-args.size) zAX,defers:=[]} w):Kc E f args w λv w=>R (.returned v) w:=by
 intro A;let b:zAt:={(default:zAt)with fn:=f,kind:=.normal,roundOf:=zc}
 have B:zAW P f args .normal=b.atR {tmps:=args++zAU (fn.ntmps-args.size) zAX,defers:=[]} [.code c]:=by
  simp[zAW,zAQ,u,hb,b]
 rw[B];refine h b [] [] rfl λe C D q=>?_;cases e with
 |normal=>exact .quiet rfl (λ_=>q1P rfl) (qEM A _ _ _ rfl rfl rfl u rfl q)
 |ret=>exact λH=>.quiet rfl (λ_=>qvK rfl) (qEM A _ _ _ rfl rfl rfl u rfl q)
 |exit id=>exact q.elim
 |goto l=>exact q.elim
 |panic _=>trivial
 |outgrown=>trivial
def qua{fr}{fn}{v}{w}(h:P.inits.idxOf? fr.fn=zc)(hm:fr.mode=.returning)(hd:fr.defers=[])(hk:fr.kind=.normal)(q:P.funcs[fr.fn]?=O fn)(u:(results fn fr.tmps).run P w=.ok v w):zAE P I (G fr []) w=.ended (.done v) w (evs P fr.fn (results fn fr.tmps) w):=by
 simp[G,zAE,unwind,doReturn,hm,hd,hk,q,h,zBs,u,zBF,evs]
end
end Go.Proofs.YtlmhpamhhgogaaaGreat.Sx
namespace Go.Duo
open Go.Proofs.YtlmhpamhhgogaaaGreat.Sx Go.Conc
section
variable{P:zt}
def qOY{E:Env P}(hE:E.main=I)(M:∀f args c cs w R m B,(∀d,E.Big f args (w.at d) R)->ER P (·=0) (λ_=>zc) 0 0 (Conc.G (zAW P f args .normal) (c::cs)) w m B->Comes P m B λm' Q=>∃v w',R v w'/\ER P (·=0) (λ_=>zc) 0 0 (Conc.G (c.finish v) cs) w' m' Q){f:zBa}{args:zR zg}{W:zp}{GZ:zg->zp->Prop}(T:P.inits.idxOf? f=zc)(U:∀fn tmps w,P.funcs[f]?=O fn->evs P f (results fn tmps) w=#[])(C:E.Stop=λg w=>∀d,qXX P f GZ g (w.at d))(h:Kc E f args W GZ):∃u q o w' t',runNT P (u+1) (solo (Conc.G (zAW P f args .normal) []) W) #[]=(.ended o w',t')/\runN P u (solo (Conc.G (zAW P f args .normal) []) W)=.next q/\step P q=.ended o w'/\Conc.Good P GZ q o w' t':=by
 have V:ER P (·=0) (λ_=>zc) 0 0 (Conc.G (zAW P f args .normal) []) W (solo (Conc.G (zAW P f args .normal) []) W) #[]:=
  ⟨#[Conc.G (zAW P f args .normal) []],zc,λ_=>0,0,solo_eq_crowd _ _,zF _,rfl,ring_begin (λ_ z=>z.elim) (leavers_one P _) past_nil trivial⟩
 obtain⟨N,m,B,D,g,w,H,ap,sl,aq,Y,rfl,_,aa,ab⟩:=qbJ (h:=0) sj (λ_ _ _ e=>by cases e) M (h λg w k=>by rw[C];exact k) V;rw[C]at H;obtain⟨ac,ad⟩:=ring_end ab rfl λ_ _=>rfl
 have ae:Goes P I AtRel (λ_ _ es=>es=#[]) (AtEnd P (λ_=>zV) Y GZ) 0 g w:=by
  rintro ar ⟨d,rfl⟩;obtain⟨au,fn,v,rfl,af,ag,ah,ai,L,aj,k6⟩:=H d;subst af;refine⟨rfl,v,_,qua T ag ah ai L aj,?_,k6⟩;rw[U _ _ _ L];intro e A;simp at A
 obtain⟨u,q,o,w',t',ak,al,an,ao⟩:=beside_ends (sl:=sl) (λ_ _ _ h e A=>by rw[h]at A;simp at A) aa ac ad ae;refine⟨N+u,q,o,w',t',?_,?_,an,ao⟩
 .rw[zCS,runNT_add,D];exact ak
 .rw[runN_add,<-runNT_fst P _ _ #[],D];exact al
end
end Go.Duo
namespace Go.Proofs.YtlmhpamhhgogaaaGreat.Sx
abbrev UnA:=F SV×Hs×Z
def unJ(ms:F Z)(sl0:Sl)(body:Run)(K:Ed)(x:UnA):Prop:=
 body (Gt ms x.1 sl0) x.2.1 λe sl hs=>match e with
  |.normal=>I0 ms sl λvs'=>∀h q,Aq h hs q->∃y:UnA,qDA y.1=qDA vs'/\(∃_:y.2.2<x.2.2,unJ ms sl0 body K y)/\y.2.2<x.2.2/\Aq h y.2.1 q
  |.exit n=>K (.exit n) sl hs
  |.ret=>K .ret sl hs
  |.goto n=>K (.goto n) sl hs
termination_by x.2.2
def qaX{ms}{sl0}{body}{K}(x:UnA):unJ ms sl0 body K x=body (Gt ms x.1 sl0) x.2.1 (q3R ms (λx:UnA=>x.1) (λx=>x.2.1) (unJ ms sl0 body K) (λx=>x.2.2) x K):=by
 rw[unJ];congr 1;funext e sl hs;cases e with
 |normal=>
  show I0 ms sl _=I0 ms sl _;congr 1;funext vs';refine propext ⟨λq u w A=>?_,λq u w A=>?_⟩
  .obtain⟨y,B,⟨_,C⟩,h,D⟩:=q u w A;exact⟨y,B,C,h,D⟩
  .obtain⟨y,B,C,h,D⟩:=q u w A;exact⟨y,B,⟨h,C⟩,h,D⟩
 |_=>rfl
section
variable{ms:F Z}{sl0:Sl}{body:Run}{K:Ed}{vs vs':F SV}{hs hs':Hs}{n N:Z}
def qda(h:body (Gt ms vs sl0) hs (q3R ms (λx:UnA=>x.1) (λx=>x.2.1) (unJ ms sl0 body K) (λx=>x.2.2) (vs,hs,n) K)):unJ ms sl0 body K (vs,hs,n):=by
 rw[qaX];exact h
def qzD(n)(h:body (Gt ms vs sl0) hs (q3R ms (λx:UnA=>x.1) (λx=>x.2.1) (unJ ms sl0 body K) (λx=>x.2.2) (vs,hs,n) K)):∃(q:Type)(u:q->F SV)(W:q->Hs)(J:q->Prop)(B:q->Z),(∀fr w,Aq fr hs w->∃x,qDA (u x)=qDA vs/\J x/\Aq fr (W x) w)/\∀x,J x->body (Gt ms (u x) sl0) (W x) (q3R ms u W J B x K):=
 ⟨UnA,λx=>x.1,λx=>x.2.1,unJ ms sl0 body K,λx=>x.2.2,λ_ _ C=>⟨(vs,hs,n),rfl,qda h,C⟩,λx A=>by rw[qaX]at A;exact A⟩
def qEE(h:body (Gt ms vs' sl0) hs' (q3R ms (λx:UnA=>x.1) (λx=>x.2.1) (unJ ms sl0 body K) (λx=>x.2.2) (vs',hs',n) K)):∀fr w,Aq fr hs' w->∃y:UnA,qDA y.1=qDA vs'/\unJ ms sl0 body K y/\y.2.2<n+1/\Aq fr y.2.1 w:=
 λ_ _ q=>⟨(vs',hs',n),rfl,qda h,zBI n,q⟩
end
def cT{b}{A B:Prop}(h:b=I)(k:A):(b=I->A)/\(b=zb->B):=⟨λ_=>k,λx=>absurd (h.symm.trans x) sb⟩
def cF{b}{A B:Prop}(h:b=zb)(k:B):(b=I->A)/\(b=zb->B):=⟨λx=>absurd (h.symm.trans x) sb,λ_=>k⟩
def Dw.get{n:Z}{p:zs zAH->Z->Prop}(q:0<n)(h:∀a c,p (O a) c):∀oa cap,Dw oa n->p oa cap:=λ_ cap k=>by
 obtain⟨a,rfl⟩:=k q;exact h a cap
def qDb{cs:F zg}{j size:Z}{K:F zg->Prop}(hl:((cs.drop j).take size).length=size)(h:K ((cs.drop j).take size)):∃xs:F zg,(xs.length=size/\∀(i:Z)u,xs[i]?=O u->cs[j+i]?=O u)/\K xs:=
 ⟨_,⟨hl,λi u q=>by
  rw[zA7]at q;split at q
  .rw[zCC]at q;exact q
  .cases q⟩,h⟩
def qpC{l:F SV}{id:Z}{oa:zs zAH}{n cap ety sz:Z}{cs:F zg}{j size:Z}{rs:F Res}{K:F Res->Prop}{vs q:F zg}(hc:qqG l=O vs)(e:cs.take j++vs++cs.drop (j+size)=q)(hb:j+size<=cs.length/\0<size)(h:FG id (O (.row id oa n cap ety sz q)) rs K):(j+size<=cs.length/\0<size)/\qhC l λvs=>FG id (O (.row id oa n cap ety sz (cs.take j++vs++cs.drop (j+size)))) rs K:=
 ⟨hb,by unfold qhC;rw[hc];subst e;exact h⟩
def zr{P Q:Prop}(k:Q)(h:Q->P:=by
 intro h
 repeat((conv=>whnf);first|(refine Dw.get (by decide) ?_;intro(zz:Addr) (zz:Nat))|apply qza|apply qzb|apply qzc|apply qzd|apply qze|intro(zz:Nat)|intro(zz:Option Addr) (zz:Nat)|refine Dw.no ?_)
 try conv=>whnf
 change Blk _
 repeat revert zz
 exact h):P:=h k
end Go.Proofs.YtlmhpamhhgogaaaGreat.Sx
