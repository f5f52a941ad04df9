/- qXB data of the given program (configurations, snapshots, worlds, machines), and how they lie in frozen memory. -/
import Derived.Test.YtkogfpniapaigaaGreatSxB
import Derived.Lib.Bytealg
import Derived.Test.YtkogfpniapaigaaGreatSxA
import Derived.ChangeArms
import Derived.WideShapes
import Derived.SizedLaws
import Derived.OpenShut
set_option linter.unusedVariables false
set_option linter.unusedSimpArgs false
namespace Go.Proofs.YtkogfpniapaigaaGreat.Sx
open Go.RowKit
abbrev BA:=ByteArray
abbrev bs (s:BA):List UInt8:=s.data.toList
theorem qSL {a b:BA} (h:bs a=bs b):a=b:=by
 cases a;cases b;simp only [bs] at h;rw [Array.toList_inj.1 h]
theorem qdA (s:BA):s.size=(bs s).length:=by cases s;simp [bs,ByteArray.size]
theorem qqB (s:BA) (l h:Nat):bs (s.extract l h)=((bs s).drop l).take (h-l):=by
 simp [bs,ByteArray.data_extract]
abbrev InR (x:Int):Prop:=-9223372036854775808≤x∧x≤9223372036854775807
abbrev InU (x:Int):Prop:=0≤x∧x≤18446744073709551615
theorem wr {x:Int} (h:InR x):IntKind.i64.wrap x=x:=IntWalk.i64_in x h
theorem qOS {x:Int} (h:(Lit.int .i64 x).wf=true):InR x:=by
 simpa [Lit.wf,IntKind.min,IntKind.max,IntKind.bits,IntKind.signed] using h
theorem qfV {x:Int} (h:(Lit.int .u64 x).wf=true):InU x:=by
 simpa [Lit.wf,IntKind.min,IntKind.max,IntKind.bits,IntKind.signed] using h
theorem nb1 {b:Bool} (h:(!b)=true):b=false:=by simpa using h
theorem nb0 {b:Bool} (h:(!b)=false):b=true:=by simpa using h
theorem OkV.to {P:Program} {f:FuncId} {args:List Value} {g:GW} {v v':Value} (h:OkV P f args g v) (e:v=v'):OkV P f args g v':=e▸h
structure Route where
 listen:BA
 host:BA
 path:BA
 cluster:BA
structure Cluster where
 name:BA
 policy:Int
 slots:Int
 health:List Bool
structure Config where
 listens:List BA
 routes:List Route
 clusters:List Cluster
structure Rule where
 listen:Int
 host:BA
 path:BA
 cluster:Int
structure Snap where
 listens:List BA
 rules:List Rule
 clusters:List Cluster
structure EndC where
 head:Int
 next:List Int
 active:Int
structure Group where
 ticket:Int
 ends:List EndC
structure Version where
 snap:Snap
 groups:List Group
 freed:Bool
structure Listen where
 name:BA
 drain:Bool
 active:Int
 closed:Bool
structure Retired where
 version:Int
 at_:Int
 gone:Bool
structure Wd where
 epoch:Int
 current:Int
 lock:Int
 pins:List Int
 versions:List Version
 listens:List Listen
 counts:List (List Int)
 limbo:List Retired
abbrev RP (α:Type):=GW→List Value→α→Prop
def rInt:RP Int:=fun _ cs x=>cs=[.int .i64 x]∧InR x
def rU64:RP Int:=fun _ cs x=>cs=[.int .u64 x]∧InU x
def rStr:RP BA:=fun _ cs s=>cs=[.string s]
def q8S:RP Bool:=fun _ cs b=>cs=[.bool b]
def rSl {α:Type} (sz:Nat) (R:RP α) (g:GW) (v:Value) (l:List α):Prop :=
 ∃ oa cap,v=.slice oa l.length cap∧l.length≤cap∧cap≤maxLen∧(oa=none→l.length=0∧cap=0) ∧
  ∀ (i:Nat) x,l[i]?=some x→∃ a,oa=some a∧∃ ec,ec.length=sz∧R g ec x∧Rcs g (a.add (i*sz)) ec
def Mono {α:Type} (R:RP α):Prop:=∀ g g' cs x,g≤g'→R g cs x→R g' cs x
theorem Rcs.mono {g g':GW} {a:Addr} {xs:List Value} (h:Rcs g a xs) (k:g≤g'):Rcs g' a xs:=fun i u hu=>(h i u hu).mono k
theorem rSl.mono {α:Type} {sz:Nat} {R:RP α} (hR:Mono R) {g g':GW} {v:Value} {l:List α} (h:rSl sz R g v l) (k:g≤g'):rSl sz R g' v l:=by
 obtain⟨oa,cap,h1,h2,h3,h4,h5⟩:=h
 refine⟨oa,cap,h1,h2,h3,h4,fun i x hx=>?_⟩
 obtain⟨a,ha,ec,he,hr,hc⟩:=h5 i x hx
 exact⟨a,ha,ec,he,hR _ _ _ _ k hr,hc.mono k⟩
theorem qhA:Mono rInt:=fun _ _ _ _ _ h=>h
theorem qqK:Mono rU64:=fun _ _ _ _ _ h=>h
theorem qBE:Mono rStr:=fun _ _ _ _ _ h=>h
theorem qnQ:Mono q8S:=fun _ _ _ _ _ h=>h
def qrK:RP Route:=fun _ cs r=>cs=[.string r.listen,.string r.host,.string r.path,.string r.cluster]
theorem qeH:Mono qrK:=fun _ _ _ _ _ h=>h
def qAC:RP Cluster:=fun g cs c=>∃ h,cs=[.string c.name,.int .i64 c.policy,.int .i64 c.slots,h]∧InR c.policy∧InR c.slots∧rSl 1 q8S g h c.health
theorem qWC:Mono qAC:=fun _ _ _ _ k ⟨h,e,a,b,c⟩=>⟨h,e,a,b,c.mono qnQ k⟩
def qcA:RP Config:=fun g cs c=>∃ a b d,cs=[a,b,d]∧rSl 1 rStr g a c.listens∧rSl 4 qrK g b c.routes∧rSl 4 qAC g d c.clusters
theorem qMA:Mono qcA:=fun _ _ _ _ k ⟨a,b,d,e,x,y,z⟩=>⟨a,b,d,e,x.mono qBE k,y.mono qeH k,z.mono qWC k⟩
def qmQ:RP Rule:=fun _ cs r=>cs=[.int .i64 r.listen,.string r.host,.string r.path,.int .i64 r.cluster]∧InR r.listen∧InR r.cluster
theorem qOJ:Mono qmQ:=fun _ _ _ _ _ h=>h
def qnF:RP Snap:=fun g cs c=>∃ a b d,cs=[a,b,d]∧rSl 1 rStr g a c.listens∧rSl 4 qmQ g b c.rules∧rSl 4 qAC g d c.clusters
theorem qkB:Mono qnF:=fun _ _ _ _ k ⟨a,b,d,e,x,y,z⟩=>⟨a,b,d,e,x.mono qBE k,y.mono qOJ k,z.mono qWC k⟩
def rEnd:RP EndC:=fun g cs e=>∃ n,cs=[.int .u64 e.head,n,.int .i64 e.active]∧InU e.head∧InR e.active∧rSl 1 rInt g n e.next
theorem qpR:Mono rEnd:=fun _ _ _ _ k ⟨n,e,a,b,c⟩=>⟨n,e,a,b,c.mono qhA k⟩
def qpA:RP Listen:=fun _ cs x=>cs=[.string x.name,.bool x.drain,.int .i64 x.active,.bool x.closed]∧InR x.active
theorem qjA:Mono qpA:=fun _ _ _ _ _ h=>h
def qUA:RP Retired:=fun _ cs x=>cs=[.int .i64 x.version,.int .i64 x.at_,.bool x.gone]∧InR x.version∧InR x.at_
theorem qvA:Mono qUA:=fun _ _ _ _ _ h=>h
def rRow:RP (List Int):=fun g cs x=>∃ n,cs=[n]∧rSl 1 rU64 g n x
theorem q1A:Mono rRow:=fun _ _ _ _ k ⟨n,e,x⟩=>⟨n,e,x.mono qqK k⟩
theorem qGM {ecs:List (List Value)} {sz:Nat} (h:∀ e∈ecs,e.length=sz) {i j:Nat} {ec:List Value} (hi:ecs[i]?=some ec) {u:Value} (hj:ec[j]?=some u):ecs.flatten[i*sz+j]?=some u:=by
 induction ecs generalizing i with
 | nil=>simp at hi
 | cons e es ih =>
  rw [List.flatten_cons]
  have he:=h e (by simp)
  cases i with
  | zero =>
   simp at hi;subst hi
   rw [Nat.zero_mul,Nat.zero_add,List.getElem?_append_left (List.getElem?_eq_some_iff.1 hj).1];exact hj
  | succ i =>
   rw [List.getElem?_append_right (by rw [he,Nat.succ_mul];omega),show(i+1)*sz+j-e.length=i*sz+j by rw [he,Nat.succ_mul];omega]
   exact ih (fun x hx=>h x (by simp [hx])) (by simpa using hi)
theorem qZD {ecs:List (List Value)} {sz:Nat} (h:∀ e∈ecs,e.length=sz):ecs.flatten.length=ecs.length*sz:=by
 induction ecs with
 | nil=>simp
 | cons e es ih=>rw [List.flatten_cons,List.length_append,ih fun x hx=>h x (by simp [hx]),h e (by simp),List.length_cons,Nat.succ_mul];omega
theorem qzJ {α:Type} {sz:Nat} {R:RP α} {g:GW} {v:Value} {n:Nat} {cs:List Value} (h:RdSl g sz v n cs) (l:List α) (ecs:List (List Value)) (hcs:cs=ecs.flatten) (hsz:∀ e∈ecs,e.length=sz) (hl:l.length=n) (hel:ecs.length=l.length)
  (hR:∀ (i:Nat) x ec,l[i]?=some x→ecs[i]?=some ec→R g ec x):rSl sz R g v l:=by
 subst hcs;subst hl
 obtain⟨h1,oa,cap,rfl,h2,h3,h4,h5⟩:=h
 refine⟨oa,cap,rfl,h2,h3,h4,fun i x hx=>?_⟩
 have hi:=(List.getElem?_eq_some_iff.1 hx).1
 obtain⟨ec,hec⟩:∃ ec,ecs[i]?=some ec:=⟨ecs[i]'(by omega),List.getElem?_eq_getElem (by omega)⟩
 have hlen:=hsz ec (List.mem_of_getElem? hec)
 have ha:∃ a,oa=some a:=by
  cases oa with
  | some a=>exact⟨a,rfl⟩
  | none=>have:=(h4 rfl).1;omega
 obtain⟨a,rfl⟩:=ha
 refine⟨a,rfl,ec,hlen,hR i x ec hx hec,fun j u hu=>?_⟩
 obtain⟨a',ha',hr⟩:=h5 (i*sz+j) u (qGM hsz hec hu)
 cases ha'
 rwa [qWL]
theorem map_flatten (l:List Value):(l.map fun x=>[x]).flatten=l:=by
 induction l with
 | nil=>rfl
 | cons x r ih=>simp [ih]
theorem qPD {α:Type} {R:RP α} {g:GW} {v:Value} {n:Nat} {cs:List Value} (h:RdSl g 1 v n cs) (l:List α) (f:α→Value) (hcs:cs=l.map f) (hR:∀ x∈l,R g [f x] x):rSl 1 R g v l:=by
 have hn:l.length=n:=by have:=h.1;rw [hcs,List.length_map] at this;omega
 refine qzJ h l (cs.map fun x=>[x]) (map_flatten cs).symm (fun e he=>?_) hn (by rw [List.length_map,hcs,List.length_map]) fun i x ec hx hec=>?_
 ·obtain⟨x,_,rfl⟩:=List.mem_map.1 he;rfl
 ·rw [hcs] at hec
  simp only [List.getElem?_map,hx,Option.map_some] at hec
  cases hec
  exact hR x (List.mem_of_getElem? hx)
def Pass {α β:Type} (f:Nat→α→Option β) (l:List α) (i:Nat):Prop:=∀ j,j<i→∀ x,l[j]?=some x→f j x=none
def qOB {α β:Type} (f:Nat→α→Option β):Nat→List α→Option β
 | _,[]=>none
 | i,x :: r=>match f i x with
  | some b=>some b
  | none=>qOB f (i+1) r
theorem Pass.zero {α β:Type} (f:Nat→α→Option β) (l:List α):Pass f l 0:=fun j h=>by omega
theorem Pass.succ {α β:Type} {f:Nat→α→Option β} {l:List α} {i:Nat} (h:Pass f l i) {x:α} (hx:l[i]?=some x) (hf:f i x=none):Pass f l (i+1):=by
 intro j hj y hy
 rcases Nat.lt_or_ge j i with k|k
 ·exact h j k y hy
 ·obtain rfl:j=i:=by omega
  rw [hx] at hy;cases hy;exact hf
theorem qJM {α β:Type} {f:Nat→α→Option β}:∀ {l:List α} {k:Nat},(∀ (j:Nat) x,l[j]?=some x→f (k+j) x=none)→qOB f k l=none
 | [],_,_=>rfl
 | x :: r,k,h=>by
  have h0:=h 0 x rfl
  simp only [Nat.add_zero] at h0
  simp only [qOB,h0]
  exact qJM fun j y hy=>by have:=h (j+1) y (by simpa using hy);rwa [show k+(j+1)=k+1+j by omega] at this
theorem Pass.done {α β:Type} {f:Nat→α→Option β} {l:List α} {i:Nat} (h:Pass f l i) (hi:l.length≤i):qOB f 0 l=none :=
 qJM fun j x hx=>by
  rw [Nat.zero_add]
  refine h j ?_ x hx
  have:=(List.getElem?_eq_some_iff.1 hx).1;omega
theorem qIM {α β:Type} {f:Nat→α→Option β} {b:β}:∀ {l:List α} {k i:Nat} {x:α},(∀ j,j<i→∀ y,l[j]?=some y→f (k+j) y=none)→l[i]?=some x→f (k+i) x=some b→qOB f k l=some b
 | [],_,_,_,_,hx,_=>by simp at hx
 | y :: r,k,0,x,_,hx,hf=>by
  simp at hx;subst hx
  simp only [Nat.add_zero] at hf
  simp only [qOB,hf]
 | y :: r,k,i+1,x,h,hx,hf=>by
  have h0:=h 0 (by omega) y rfl
  simp only [Nat.add_zero] at h0
  simp only [qOB,h0]
  refine qIM (i:=i) (x:=x) (fun j hj z hz=>?_) (by simpa using hx) (by rwa [show k+1+i=k+(i+1) by omega])
  have:=h (j+1) (by omega) z (by simpa using hz)
  rwa [show k+(j+1)=k+1+j by omega] at this
theorem Pass.hit {α β:Type} {f:Nat→α→Option β} {l:List α} {i:Nat} (h:Pass f l i) {x:α} {b:β} (hx:l[i]?=some x) (hf:f i x=some b):qOB f 0 l=some b :=
 qIM (fun j hj y hy=>by rw [Nat.zero_add];exact h j hj y hy) hx (by rwa [Nat.zero_add])
theorem qBA {α:Type} {l:List α} {i:Nat} (h:i<l.length):∃ x,l[i]?=some x:=⟨l[i],List.getElem?_eq_getElem h⟩
theorem wr1 {i n cap:Nat} (h:i<n) (h1:n≤cap) (h2:cap≤maxLen):IntKind.i64.wrap ((i:Int)+1)=((i+1:Nat):Int):=by
 rw [wr]
 ·simp
 ·unfold maxLen at h2;exact⟨by omega,by omega⟩
theorem dec {i n:Nat} (h:i<n):n-(i+1)<n-i:=by omega
theorem qrB {α:Type} {f:α→Bool} {l:List α} {i:Nat} (h:i<l.length):(l.take (i+1)).all f=((l.take i).all f&&f l[i]):=by
 rw [List.take_succ_eq_append_getElem h,List.all_append];simp only [List.all_cons,List.all_nil,Bool.and_true]
theorem qnA {α:Type} {f:α→Bool} {l:List α} {i:Nat} (h:i<l.length) (k:f l[i]=false):l.all f=false:=by
 rw [List.all_eq_false];exact⟨l[i],List.getElem_mem h,by simp [k]⟩
def allG (w:World):GW:=⟨w,(·<w.heap.size),fun _ h=>h⟩
end Go.Proofs.YtkogfpniapaigaaGreat.Sx
namespace Go
open Go.Lib
def qFB (b:UInt8):List UInt8→List (List UInt8)
 | []=>[[]]
 | c :: r=>if c==b then [] :: qFB b r else match qFB b r with
  | p :: ps=>(c :: p) :: ps
  | []=>[[c]]
theorem qpF (b:UInt8):∀ L,(indexByte L b=-1∧qFB b L=[L])∨(∃ i:Nat,i<L.length∧indexByte L b=i∧qFB b L=L.take i :: qFB b (L.drop (i+1)))
 | []=>.inl ⟨rfl,rfl⟩
 | c :: r=>by
  have e1:qFB b (c :: r)=if c==b then [] :: qFB b r else match qFB b r with
   | p :: ps=>(c :: p) :: ps
   | []=>[[c]]:=rfl
  have e2:indexByte (c :: r) b=if c==b then 0 else if indexByte r b==-1 then -1 else indexByte r b+1:=rfl
  rw [e1,e2]
  cases h:c==b with
  | true=>exact .inr ⟨0,by simp,by simp,by simp⟩
  | false =>
   rcases qpF b r with ⟨h1,h2⟩|⟨i,hi,h1,h2⟩
   ·exact .inl ⟨by simp [h1],by simp [h2]⟩
   ·refine .inr ⟨i+1,by simp;omega,?_,by rw [h2];simp⟩
    have:((i:Int)==-1)=false:=by rw [beq_eq_false_iff_ne];omega
    simp [h1,this]
end Go
/- Names,hosts,patterns,paths: plain words on rows of bytes,and what follows of them. -/
namespace Go.Proofs.YtkogfpniapaigaaGreat.Sx
theorem qSJ (b c:UInt8) (z:List UInt8):qFB b (c :: z)=if c==b then [] :: qFB b z else match qFB b z with
  | p :: ps=>(c :: p) :: ps
  | []=>[[c]]:=rfl
theorem q5L {b:UInt8}:∀ {l:List UInt8},(∀ j:Nat,l[j]?≠some b)→qFB b l=[l]
 | [],_=>rfl
 | c :: l,h=>by
  have hc:(c==b)=false:=by simpa using fun e=>h 0 (by simp [e])
  rw [qSJ,hc,q5L (l:=l) fun j hj=>h (j+1) (by simpa using hj)];rfl
theorem q7P {b:UInt8}:∀ {l:List UInt8} {k:Nat},(∀ j:Nat,j<k→l[j]?≠some b)→l[k]?=some b→qFB b l=l.take k :: qFB b (l.drop (k+1))
 | [],_,_,h=>by simp at h
 | c :: l,0,_,h=>by
  simp at h;subst h
  rw [qSJ];simp
 | c :: l,k+1,h,hk=>by
  have hc:(c==b)=false:=by simpa using fun e=>h 0 (by omega) (by simp [e])
  rw [qSJ,hc,q7P (l:=l) (k:=k) (fun j hj=>by simpa using h (j+1) (by omega)) (by simpa using hk)];rfl
def lowB (c:Int):Bool:=decide (97≤c)&&decide (c≤122)
def qYE (c:Int):Bool:=lowB c||(decide (48≤c)&&decide (c≤57))||c==45
def qxB (l:List UInt8):Bool:=decide (0<l.length)&&decide (l.length≤16)&&l.head?.any (fun c=>lowB c.toNat)&&l.all fun c=>qYE c.toNat
def qgJ (l:List UInt8):Bool:=decide (l.length≤32)&&(qFB 46 l).all qxB
abbrev preL (p s:List UInt8):Bool:=p.isPrefixOf s
abbrev sufL (t s:List UInt8):Bool:=t.isSuffixOf s
theorem qlM (p s:List UInt8):preL p s=(decide (p.length≤s.length)&&s.take p.length==p):=by
 rw [Bool.eq_iff_iff]
 simp only [Bool.and_eq_true,decide_eq_true_eq,beq_iff_eq]
 rw [List.isPrefixOf_iff_prefix,List.prefix_iff_eq_take]
 constructor
 ·intro h
  have:=congrArg List.length h
  simp only [List.length_take] at this
  exact⟨by omega,h.symm⟩
 ·exact fun h=>h.2.symm
def qBC (l:List UInt8):Bool:=if preL [42,46] l then qgJ (l.drop 2) else l==[42]||qgJ l
def qoF (l:List UInt8):Bool:=decide (0<l.length)&&decide (l.length≤32)&&l.head?.any (fun c=>(c.toNat:Int)==47)&&l.all fun c=>(c.toNat:Int)==47||qYE c.toNat
def tailB (t h:List UInt8):Bool:=t==[]||(decide (t.length<h.length)&&sufL t h)
def qdV (p h:List UInt8):Bool:=qBC p&&qgJ h&&(p==h||(preL [42] p&&tailB (p.drop 1) h))
def qBV (a b:List UInt8):Bool:=qoF a&&qoF b&&preL b a&&(a.drop b.length==[]||sufL [47] b||(a.drop b.length).head?==some 47)
def qWB (p:List UInt8):Int:=if qBC p then (if preL [42,46] p then ((p.drop 2).length:Int) else if p==[42] then 0 else 100) else 0
def qyP (a p b q:List UInt8):Bool:=if qWB a != qWB b then decide (qWB b<qWB a) else decide (q.length<p.length)
theorem qRD (l:List UInt8):qBC l=if decide (2<l.length)&&l.take 2==[42,46] then qgJ (l.drop 2) else l==[42]||qgJ l:=by
 unfold qBC
 rw [qlM]
 by_cases h:l.take 2==[42,46]
 ·have h':(l.take [(42:UInt8),46].length==[42,46])=true:=h
  have hl:2≤l.length:=by
   have:=congrArg List.length (beq_iff_eq.1 h)
   simp at this;omega
  rw [h',h,decide_eq_true (show [(42:UInt8),46].length≤l.length from hl)]
  by_cases h2:2<l.length
  ·rw [decide_eq_true h2]
  ·have h3:l.length=2:=by omega
   have:l=[42,46]:=by
    have:=beq_iff_eq.1 h
    rwa [List.take_of_length_le (by omega)] at this
   subst this;decide
 ·have h':(l.take [(42:UInt8),46].length==[42,46])=false:=by simpa using h
  have h'':(l.take 2==[42,46])=false:=by simpa using h
  rw [h',h''];simp
theorem qLR (a p b q:List UInt8):qyP a p b q=(decide (qWB b<qWB a)||(qWB a==qWB b&&decide (q.length<p.length))):=by
 unfold qyP
 by_cases h:qWB a=qWB b
 ·simp [h]
 ·simp [h]
/- Slices of data: parts of them,their cells,and what is made of them. -/
open Go.RowKit
theorem qMU {α:Type} {sz:Nat} {R:RP α} {g:GW} {oa:Option Addr} {n cap:Nat} {l:List α} (h:rSl sz R g (.slice oa n cap) l) :
  ∃ ecs:List (List Value),RdSl g sz (.slice oa n cap) l.length ecs.flatten∧ecs.length=l.length∧(∀ e∈ecs,e.length=sz)∧∀ (i:Nat) x ec,l[i]?=some x→ecs[i]?=some ec→R g ec x:=by
 obtain⟨oa',cap',he,h2,h3,h4,h5⟩:=h
 simp only [Value.slice.injEq] at he
 obtain⟨rfl,rfl,rfl⟩:=he
 have h6:∀ i:Fin l.length,∃ ec:List Value,ec.length=sz∧R g ec l[i.1]∧∃ a,oa=some a∧Rcs g (a.add (i.1*sz)) ec:=fun i=>by
  obtain⟨a,ha,ec,k1,k2,k3⟩:=h5 i.1 l[i.1] (List.getElem?_eq_getElem i.2)
  exact⟨ec,k1,k2,a,ha,k3⟩
 let f:Fin l.length→List Value:=fun i=>Classical.choose (h6 i)
 have hf:∀ i:Fin l.length,(f i).length=sz∧R g (f i) l[i.1]∧∃ a,oa=some a∧Rcs g (a.add (i.1*sz)) (f i):=fun i=>Classical.choose_spec (h6 i)
 have hget:∀ (i:Nat) (hi:i<l.length),(List.ofFn f)[i]?=some (f ⟨i,hi⟩):=fun i hi=>by
  rw [List.getElem?_eq_getElem (by simpa using hi)];simp
 have hsz:∀ e∈List.ofFn f,e.length=sz:=fun e he=>by
  obtain⟨i,hi⟩:=List.mem_ofFn.1 he
  rw [← hi];exact(hf i).1
 refine⟨List.ofFn f,⟨?_,oa,cap,rfl,h2,h3,h4,fun j u hu=>?_⟩,by simp,hsz,fun i x ec hx hec=>?_⟩
 ·rw [qZD hsz];simp
 ·have hlt:=(List.getElem?_eq_some_iff.1 hu).1
  rw [qZD hsz] at hlt
  simp only [List.length_ofFn] at hlt
  have hpos:0<sz:=by
   rcases Nat.eq_zero_or_pos sz with h0|h0
   ·rw [h0] at hlt;omega
   ·exact h0
  have hi:j / sz<l.length:=(Nat.div_lt_iff_lt_mul hpos).2 hlt
  have hm:=Nat.mod_lt j hpos
  obtain⟨k1,_,a,ha,k3⟩:=hf ⟨j / sz,hi⟩
  have hj:j / sz*sz+j % sz=j:=by rw [Nat.mul_comm];exact Nat.div_add_mod j sz
  have h7:(f ⟨j / sz,hi⟩)[j % sz]?=some u:=by
   obtain⟨u',hu'⟩:∃ u',(f ⟨j / sz,hi⟩)[j % sz]?=some u':=⟨_,List.getElem?_eq_getElem (by rw [k1];exact hm)⟩
   have:=qGM hsz (hget _ hi) hu'
   rw [hj,hu] at this
   rw [hu',this]
  refine⟨a,ha,?_⟩
  have:=k3 _ u h7
  rwa [show((a.add (j / sz*sz)).add (j % sz))=a.add j by rw [qWL,hj]] at this
 ·have hi:=(List.getElem?_eq_some_iff.1 hx).1
  rw [hget i hi] at hec
  cases hec
  have:=(hf ⟨i,hi⟩).2.1
  rw [List.getElem?_eq_getElem hi] at hx
  cases hx
  exact this
theorem qZI {α:Type} {sz:Nat} {R:RP α} {g:GW} {oa:Option Addr} {n cap:Nat} {l:List α} (h:rSl sz R g (.slice oa n cap) l) (f:α→List Value) (hf:∀ cs x,R g cs x→cs=f x):RdSl g sz (.slice oa n cap) l.length ((l.map f).flatten):=by
 obtain⟨ecs,h1,h2,h3,h4⟩:=qMU h
 have:ecs=l.map f:=by
  apply List.ext_getElem?
  intro i
  rw [List.getElem?_map]
  rcases Nat.lt_or_ge i l.length with hi|hi
  ·obtain⟨x,hx⟩:=qBA hi
   obtain⟨ec,hec⟩:=qBA (show i<ecs.length by omega)
   rw [hx,hec,hf _ _ (h4 i x ec hx hec)];rfl
  ·rw [List.getElem?_eq_none (by omega),List.getElem?_eq_none (by omega)];rfl
 rw [← this];exact h1
theorem qNJ {α:Type} {sz:Nat} {R:RP α} {g:GW} {v:Value} {n:Nat} {cs:List Value} (h:RdSl g sz v n cs) (l:List α) (f:α→List Value) (hcs:cs=(l.map f).flatten) (hl:l.length=n) (hsz:∀ x∈l,(f x).length=sz) (hR:∀ x∈l,R g (f x) x):rSl sz R g v l:=by
 refine qzJ h l (l.map f) hcs (fun e he=>?_) hl (by simp) fun i x ec hx hec=>?_
 ·obtain⟨x,hx,rfl⟩:=List.mem_map.1 he;exact hsz x hx
 ·rw [List.getElem?_map,hx] at hec
  cases hec
  exact hR x (List.mem_of_getElem? hx)
theorem rSl.take {α:Type} {sz:Nat} {R:RP α} {g:GW} {oa:Option Addr} {n cap:Nat} {l:List α} (h:rSl sz R g (.slice oa n cap) l) {k:Nat} (hk:k≤l.length):rSl sz R g (.slice oa k cap) (l.take k):=by
 obtain⟨oa',cap',he,h2,h3,h4,h5⟩:=h
 simp only [Value.slice.injEq] at he
 obtain⟨rfl,rfl,rfl⟩:=he
 have hl:(l.take k).length=k:=by simp;omega
 refine⟨oa,cap,by rw [hl],by omega,h3,fun h=>⟨by have:=(h4 h).1;omega,(h4 h).2⟩,fun i x hx=>?_⟩
 rw [List.getElem?_take] at hx
 split at hx
 ·exact h5 i x hx
 ·cases hx
theorem rSl.drop {α:Type} {sz:Nat} {R:RP α} {g:GW} {oa:Option Addr} {n cap:Nat} {l:List α} (h:rSl sz R g (.slice oa n cap) l) {k:Nat} (hk:k≤l.length) :
  rSl sz R g (.slice (if cap=k then oa else oa.map (·.add (k*sz))) (n-k) (cap-k)) (l.drop k):=by
 obtain⟨oa',cap',he,h2,h3,h4,h5⟩:=h
 simp only [Value.slice.injEq] at he
 obtain⟨rfl,rfl,rfl⟩:=he
 refine⟨_,cap-k,by rw [List.length_drop],by rw [List.length_drop];omega,by omega,fun h=>?_,fun i x hx=>?_⟩
 ·have:oa=none:=by
   split at h
   ·exact h
   ·cases oa with
    | none=>rfl
    | some a=>cases h
  have:=h4 this
  rw [List.length_drop];omega
 ·rw [List.getElem?_drop] at hx
  obtain⟨a,rfl,ec,k1,k2,k3⟩:=h5 (k+i) x hx
  have hi:=(List.getElem?_eq_some_iff.1 hx).1
  rw [if_neg (by omega)]
  refine⟨_,rfl,ec,k1,k2,?_⟩
  rwa [qWL,show k*sz+i*sz=(k+i)*sz by rw [Nat.add_mul]]
theorem RdSl.take {g:GW} {sz n k cap:Nat} {oa:Option Addr} {cs:List Value} (h:RdSl g sz (.slice oa n cap) n cs) (hk:k≤n):RdSl g sz (.slice oa k cap) k (cs.take (k*sz)):=by
 obtain⟨h1,oa',cap',he,h2,h3,h4,h5⟩:=h
 simp only [Value.slice.injEq,true_and] at he
 obtain⟨rfl,rfl⟩:=he
 have hm:k*sz≤n*sz:=Nat.mul_le_mul_right _ hk
 refine⟨by rw [List.length_take];omega,oa,cap,rfl,by omega,h3,fun h=>⟨by have:=(h4 h).1;omega,(h4 h).2⟩,fun i u hu=>?_⟩
 rw [List.getElem?_take] at hu
 split at hu
 ·exact h5 i u hu
 ·cases hu
def idxO {α:Type} (f:α→Bool) (l:List α):Option Nat:=qOB (fun i x=>if f x then some i else none) 0 l
def idxI:Option Nat→Int
 | some i=>i
 | none=>-1
abbrev idxF {α:Type} (f:α→Bool):Nat→α→Option Nat:=fun i x=>if f x then some i else none
theorem qzC {α:Type} {f:α→Bool} {l:List α} {i:Nat} (h:Pass (idxF f) l i) {x:α} (hx:l[i]?=some x) (hf:f x=true):idxI (idxO f l)=i:=by
 have:=h.hit hx (b:=i) (by simp [idxF,hf])
 rw [show idxO f l=some i from this];rfl
theorem q8B {α:Type} {f:α→Bool} {l:List α} {i:Nat} (h:Pass (idxF f) l i) (hi:l.length≤i):idxI (idxO f l)=-1:=by
 rw [show idxO f l=none from h.done hi];rfl
theorem qyC {α:Type} {f:α→Bool} {l:List α} {i:Nat} (h:Pass (idxF f) l i) {x:α} (hx:l[i]?=some x) (hf:f x=false):Pass (idxF f) l (i+1):=h.succ hx (by simp [idxF,hf])
theorem q2F {α β:Type} {f:Nat→α→Option β}:∀ {l:List α} {k:Nat},qOB f k l=none∨∃ (i:Nat) (x:α) (b:β),qOB f k l=some b∧l[i]?=some x∧f (k+i) x=some b∧∀ j,j<i→∀ y,l[j]?=some y→f (k+j) y=none
 | [],_=>.inl rfl
 | x :: r,k=>by
  simp only [qOB]
  cases hf:f k x with
  | some b=>exact .inr ⟨0,x,b,rfl,rfl,hf,fun j hj=>by omega⟩
  | none =>
   rcases q2F (f:=f) (l:=r) (k:=k+1) with h|⟨i,y,b,h1,h2,h3,h4⟩
   ·exact .inl h
   ·refine .inr ⟨i+1,y,b,h1,by simpa using h2,by rwa [show k+(i+1)=k+1+i by omega],fun j hj z hz=>?_⟩
    cases j with
    | zero=>simp at hz;subst hz;exact hf
    | succ j =>
     have:=h4 j (by omega) z (by simpa using hz)
     rwa [show k+(j+1)=k+1+j by omega]
theorem qXD {α:Type} {f:α→Bool} {l:List α} {i:Nat} (h:idxO f l=some i):∃ x,l[i]?=some x∧f x=true∧∀ j,j<i→∀ y,l[j]?=some y→f y=false:=by
 rcases q2F (f:=idxF f) (l:=l) (k:=0) with h1|⟨j,x,b,h1,h2,h3,h4⟩
 ·rw [show idxO f l=none from h1] at h;cases h
 ·rw [show idxO f l=some b from h1] at h
  cases h
  simp only [idxF,Nat.zero_add] at h3
  split at h3
  ·rename_i hf
   cases h3
   refine⟨x,h2,hf,fun j hj y hy=>?_⟩
   have:=h4 j hj y hy
   simp only [idxF] at this
   split at this
   ·cases this
   ·rename_i hn;simpa using hn
  ·cases h3
theorem idxO_none {α:Type} {f:α→Bool} {l:List α}:idxO f l=none↔l.any f=false:=by
 constructor
 ·intro h
  rw [List.any_eq_false]
  intro x hx
  obtain⟨i,hi⟩:=List.getElem?_of_mem hx
  rcases q2F (f:=idxF f) (l:=l) (k:=0) with h1|⟨j,y,b,h1,_⟩
  ·intro hf
   have gen:∀ (l:List α) (k:Nat),qOB (idxF f) k l=none→∀ x∈l,f x=false:=by
    intro l
    induction l with
    | nil=>intro k _ x hx;cases hx
    | cons y r ih =>
     intro k hk x hx
     simp only [qOB,idxF] at hk
     cases hfy:f y with
     | true=>rw [hfy] at hk;cases hk
     | false =>
      rw [hfy] at hk
      rcases List.mem_cons.1 hx with rfl|hx
      ·exact hfy
      ·exact ih _ hk x hx
   rw [gen l 0 h1 x hx] at hf;cases hf
  ·rw [show idxO f l=some b from h1] at h;cases h
 ·intro h
  cases hh:idxO f l with
  | none=>rfl
  | some i =>
   obtain⟨x,h1,h2,_⟩:=qXD hh
   have:=List.any_eq_false.1 h x (List.mem_of_getElem? h1)
   rw [h2] at this;simp at this
theorem qHN {α:Type} (f:α→Bool) (l:List α):decide (0≤idxI (idxO f l))=l.any f:=by
 cases h:idxO f l with
 | none=>rw [idxO_none.1 h];rfl
 | some i =>
  obtain⟨x,h1,h2,_⟩:=qXD h
  rw [List.any_eq_true.2 ⟨x,List.mem_of_getElem? h1,h2⟩]
  simp [idxI]
theorem qjU {α:Type} {f:α→Bool} {l:List α} {i:Nat} (h:idxO f l=some i):i<l.length:=by
 obtain⟨x,h1,_⟩:=qXD h
 exact(List.getElem?_eq_some_iff.1 h1).1
/- Whether a configuration may be: plain words,and what follows. -/
def hasS (l:List BA) (s:BA):Bool:=l.any fun x=>bs x==bs s
def hasC (l:List Cluster) (s:BA):Bool:=l.any fun x=>bs x.name==bs s
def eqRt (q r:Route):Bool:=bs q.listen==bs r.listen&&bs q.host==bs r.host&&bs q.path==bs r.path
abbrev EI:=Int×Int
def qFK (c:Config):Option EI:=if (1≤c.listens.length∧c.listens.length≤4)∧(1≤c.routes.length∧c.routes.length≤8)∧(1≤c.clusters.length∧c.clusters.length≤4) then none else some (6,0)
def qaC (l:List BA) (i:Nat) (s:BA):Option EI:=if qxB (bs s) then (if hasS (l.take i) s then some (4,i) else none) else some (3,i)
def qnB (c:Config):Option EI:=qOB (qaC c.listens) 0 c.listens
def qRA (l:List Cluster) (i:Nat) (x:Cluster):Option EI :=
 if qxB (bs x.name) then (if hasC (l.take i) x.name then some (4,i) else if x.policy=1∨x.policy=2 then (if 1≤x.slots∧x.slots≤4 then (if 1≤x.health.length∧x.health.length≤4 then none else some (6,i)) else some (10,i)) else some (9,i)) else some (3,i)
def qUB (c:Config):Option EI:=qOB (qRA c.clusters) 0 c.clusters
def q3B (c:Config) (i:Nat) (r:Route):Option EI :=
 if hasS c.listens r.listen then (if qBC (bs r.host) then (if qoF (bs r.path) then (if hasC c.clusters r.cluster then (if (c.routes.take i).any fun q=>eqRt q r then some (4,i) else none) else some (5,i)) else some (8,i)) else some (7,i)) else some (5,i)
def qoC (c:Config):Option EI:=qOB (q3B c) 0 c.routes
def qHA (c:Config):Option EI:=match qFK c with
 | some e=>some e
 | none=>match qnB c with
  | some e=>some e
  | none=>match qUB c with
   | some e=>some e
   | none=>qoC c
def eiT:Option EI→Value
 | none=>.tuple #[.int .i64 0,.int .i64 0]
 | some (e,i)=>.tuple #[.int .i64 e,.int .i64 i]
theorem qtE {α β:Type} {f:Nat→α→Option β} {l:List α}:qOB f 0 l=none↔∀ (i:Nat) x,l[i]?=some x→f i x=none:=by
 constructor
 ·intro h i
  induction i using Nat.strongRecOn with
  | ind i ih =>
   intro x hx
   cases hf:f i x with
   | none=>rfl
   | some b =>
    have:=Pass.hit (f:=f) (l:=l) (i:=i) (fun j hj y hy=>ih j hj y hy) hx hf
    rw [this] at h;cases h
 ·intro h
  exact Pass.done (i:=l.length) (fun j _ x hx=>h j x hx) (Nat.le_refl _)
theorem q1H {α β:Type} {f:Nat→α→Option β} {l:List α} {b:β} (h:qOB f 0 l=some b):∃ (i:Nat) (x:α),l[i]?=some x∧f i x=some b:=by
 have gen:∀ {l:List α} {k:Nat},qOB f k l=some b→∃ (i:Nat) (x:α),l[i]?=some x∧f (k+i) x=some b:=by
  intro l
  induction l with
  | nil=>intro k h;simp [qOB] at h
  | cons x r ih =>
   intro k h
   simp only [qOB] at h
   split at h
   ·rename_i c hc
    simp only [Option.some.injEq] at h
    subst h
    exact⟨0,x,rfl,hc⟩
   ·obtain⟨i,y,h1,h2⟩:=ih h
    exact⟨i+1,y,by simpa using h1,by rwa [show k+(i+1)=k+1+i by omega]⟩
 obtain⟨i,x,h1,h2⟩:=gen h
 exact⟨i,x,h1,by rwa [Nat.zero_add] at h2⟩
theorem q8A {c:Config} {e i:Int} (h:qHA c=some (e,i)):3≤e∧e≤10∧0≤i:=by
 unfold qHA at h
 split at h
 ·rename_i x hx
  simp only [Option.some.injEq] at h;subst h
  unfold qFK at hx
  split at hx
  ·cases hx
  ·simp at hx;omega
 ·split at h
  ·rename_i x hx
   simp only [Option.some.injEq] at h;subst h
   obtain⟨j,y,_,hy⟩:=q1H hx
   unfold qaC at hy
   (repeat' (split at hy))<;>simp at hy<;>omega
  ·split at h
   ·rename_i x hx
    simp only [Option.some.injEq] at h;subst h
    obtain⟨j,y,_,hy⟩:=q1H hx
    unfold qRA at hy
    (repeat' (split at hy))<;>simp at hy<;>omega
   ·obtain⟨j,y,_,hy⟩:=q1H h
    unfold q3B at hy
    (repeat' (split at hy))<;>simp at hy<;>omega
def Uniq {α:Type} (f:α→α→Bool) (l:List α):Prop:=∀ (i j:Nat) x y,i<j→l[i]?=some x→l[j]?=some y→f x y=false
theorem any_take {α:Type} {f:α→Bool} {l:List α} {i:Nat}:(l.take i).any f=false↔∀ (j:Nat) x,j<i→l[j]?=some x→f x=false:=by
 rw [List.any_eq_false]
 constructor
 ·intro h j x hj hx
  have:(l.take i)[j]?=some x:=by rw [List.getElem?_take,if_pos hj];exact hx
  simpa using h x (List.mem_of_getElem? this)
 ·intro h x hx
  obtain⟨j,hj⟩:=List.getElem?_of_mem hx
  rw [List.getElem?_take] at hj
  split at hj
  ·rename_i hlt;simpa using h j x hlt hj
  ·cases hj
structure GoodC (c:Config):Prop where
 size:(1≤c.listens.length∧c.listens.length≤4)∧(1≤c.routes.length∧c.routes.length≤8)∧(1≤c.clusters.length∧c.clusters.length≤4)
 ln:∀ s∈c.listens,qxB (bs s)=true
 lu:Uniq (fun x y=>bs x==bs y) c.listens
 cl:∀ x∈c.clusters,qxB (bs x.name)=true∧(x.policy=1∨x.policy=2)∧(1≤x.slots∧x.slots≤4)∧(1≤x.health.length∧x.health.length≤4)
 cu:Uniq (fun (x y:Cluster)=>bs x.name==bs y.name) c.clusters
 rt:∀ r∈c.routes,hasS c.listens r.listen=true∧qBC (bs r.host)=true∧qoF (bs r.path)=true∧hasC c.clusters r.cluster=true
 ru:Uniq eqRt c.routes
theorem listensE_none {c:Config}:qnB c=none↔(∀ s∈c.listens,qxB (bs s)=true)∧Uniq (fun x y=>bs x==bs y) c.listens:=by
 unfold qnB
 rw [qtE]
 constructor
 ·intro h
  refine⟨fun s hs=>?_,fun i j x y hij hx hy=>?_⟩
  ·obtain⟨i,hi⟩:=List.getElem?_of_mem hs
   have:=h i s hi
   unfold qaC at this
   split at this
   ·assumption
   ·cases this
  ·have:=h j y hy
   unfold qaC at this
   split at this
   ·split at this
    ·cases this
    ·rename_i hn
     exact any_take.1 ((Bool.not_eq_true _).mp hn) i x hij hx
   ·cases this
 ·rintro⟨h1,h2⟩ i x hx
  unfold qaC
  rw [if_pos (h1 x (List.mem_of_getElem? hx)),if_neg]
  have:hasS (c.listens.take i) x=false:=any_take.2 fun j y hj hy=>h2 j i y x hj hy hx
  rw [this];simp
theorem clustersE_none {c:Config}:qUB c=none↔(∀ x∈c.clusters,qxB (bs x.name)=true∧(x.policy=1∨x.policy=2)∧(1≤x.slots∧x.slots≤4)∧(1≤x.health.length∧x.health.length≤4))∧Uniq (fun (x y:Cluster)=>bs x.name==bs y.name) c.clusters:=by
 unfold qUB
 rw [qtE]
 constructor
 ·intro h
  refine⟨fun s hs=>?_,fun i j x y hij hx hy=>?_⟩
  ·obtain⟨i,hi⟩:=List.getElem?_of_mem hs
   have:=h i s hi
   unfold qRA at this
   (repeat' (split at this))<;>first|(cases this;done)|(exact⟨by assumption,by assumption,by assumption,by assumption⟩)
  ·have:=h j y hy
   unfold qRA at this
   split at this
   ·split at this
    ·cases this
    ·rename_i hn
     exact any_take.1 ((Bool.not_eq_true _).mp hn) i x hij hx
   ·cases this
 ·rintro⟨h1,h2⟩ i x hx
  obtain⟨k1,k2,k3,k4⟩:=h1 x (List.mem_of_getElem? hx)
  unfold qRA
  have:hasC (c.clusters.take i) x.name=false:=any_take.2 fun j y hj hy=>h2 j i y x hj hy hx
  rw [if_pos k1,this,if_neg (by simp),if_pos k2,if_pos k3,if_pos k4]
theorem routesE_none {c:Config}:qoC c=none↔(∀ r∈c.routes,hasS c.listens r.listen=true∧qBC (bs r.host)=true∧qoF (bs r.path)=true∧hasC c.clusters r.cluster=true)∧Uniq eqRt c.routes:=by
 unfold qoC
 rw [qtE]
 constructor
 ·intro h
  refine⟨fun s hs=>?_,fun i j x y hij hx hy=>?_⟩
  ·obtain⟨i,hi⟩:=List.getElem?_of_mem hs
   have:=h i s hi
   unfold q3B at this
   (repeat' (split at this))<;>first|(cases this;done)|(exact⟨by assumption,by assumption,by assumption,by assumption⟩)
  ·have:=h j y hy
   unfold q3B at this
   (repeat' (split at this))<;>first|(cases this;done)|skip
   rename_i hn
   exact any_take.1 (by simpa using hn) i x hij hx
 ·rintro⟨h1,h2⟩ i x hx
  obtain⟨k1,k2,k3,k4⟩:=h1 x (List.mem_of_getElem? hx)
  unfold q3B
  have:(c.routes.take i).any (fun q=>eqRt q x)=false:=any_take.2 fun j y hj hy=>h2 j i y x hj hy hx
  rw [if_pos k1,if_pos k2,if_pos k3,if_pos k4,this,if_neg (by simp)]
theorem good_iff {c:Config}:qHA c=none↔GoodC c:=by
 unfold qHA
 constructor
 ·intro h
  split at h
  ·cases h
  ·rename_i h1
   split at h
   ·cases h
   ·rename_i h2
    split at h
    ·cases h
    ·rename_i h3
     obtain⟨a1,a2⟩:=listensE_none.1 h2
     obtain⟨b1,b2⟩:=clustersE_none.1 h3
     obtain⟨c1,c2⟩:=routesE_none.1 h
     refine⟨?_,a1,a2,b1,b2,c1,c2⟩
     unfold qFK at h1
     split at h1
     ·assumption
     ·cases h1
 ·intro h
  have h1:qFK c=none:=by unfold qFK;rw [if_pos h.size]
  rw [h1,listensE_none.2 ⟨h.ln,h.lu⟩,clustersE_none.2 ⟨h.cl,h.cu⟩]
  exact routesE_none.2 ⟨h.rt,h.ru⟩
theorem Uniq.take {α:Type} {f:α→α→Bool} {l:List α} (h:Uniq f l) (k:Nat):Uniq f (l.take k):=fun i j x y hij hx hy=>by
 rw [List.getElem?_take] at hx hy
 split at hx
 ·split at hy
  ·exact h i j x y hij hx hy
  ·cases hy
 ·cases hx
theorem qmS (a b:List UInt8):(a==b)=(b==a):=by rw [Bool.eq_iff_iff];simp only [beq_iff_eq];exact⟨Eq.symm,Eq.symm⟩
/- Which rule a request goes by: plain words on rows of rules,and what follows. -/
def betR (a b:Rule):Bool:=qyP (bs a.host) (bs a.path) (bs b.host) (bs b.path)
def fitR (listen:Int) (host path:BA) (r:Rule):Bool:=r.listen==listen&&qdV (bs r.host) (bs host)&&qBV (bs path) (bs r.path)
theorem qOQ (a b:Rule):betR a b=true↔qWB (bs b.host)<qWB (bs a.host)∨(qWB (bs a.host)=qWB (bs b.host)∧(bs b.path).length<(bs a.path).length):=by
 unfold betR
 rw [qLR]
 simp
theorem qtJ (a b:Rule):betR a b=false↔¬ (qWB (bs b.host)<qWB (bs a.host)∨(qWB (bs a.host)=qWB (bs b.host)∧(bs b.path).length<(bs a.path).length)):=by
 rw [← qOQ];simp
theorem qlS (a:Rule):betR a a=false:=by rw [qtJ];omega
theorem qkS {a b c:Rule} (h:betR a b=false) (k:betR b c=false):betR a c=false:=by
 rw [qtJ] at *;omega
theorem qhT {a b:Rule} (h:betR a b=true):betR b a=false:=by
 rw [qOQ] at h;rw [qtJ];omega
section
variable (fit:Rule→Bool)
def qWN (l:List Rule):Nat→Option Nat
 | 0=>none
 | n+1=>match l[n]? with
  | none=>qWN l n
  | some r=>if fit r then match qWN l n with
   | none=>some n
   | some j=>match l[j]? with
    | some q=>if betR r q then some n else some j
    | none=>some n
   else qWN l n
def qwU (l:List Rule):Option Nat:=qWN fit l l.length
def IsBest (l:List Rule) (n i:Nat):Prop:=∃ r,l[i]?=some r∧i<n∧fit r=true∧(∀ k q,k<n→l[k]?=some q→fit q=true→betR q r=false)∧∀ k q,k<i→l[k]?=some q→fit q=true→betR r q=true
variable {fit}
theorem IsBest.unique {l:List Rule} {n i j:Nat} (h:IsBest fit l n i) (k:IsBest fit l n j):i=j:=by
 obtain⟨r,h1,h2,h3,h4,h5⟩:=h
 obtain⟨q,k1,k2,k3,k4,k5⟩:=k
 rcases Nat.lt_trichotomy i j with hij|hij|hij
 ·have:=k5 i r hij h1 h3
  rw [h4 j q k2 k1 k3] at this;cases this
 ·exact hij
 ·have:=h5 j q hij k1 k3
  rw [k4 i r h2 h1 h3] at this;cases this
theorem qNM (l:List Rule):∀ n,n≤l.length→(∀ i,qWN fit l n=some i→IsBest fit l n i)∧(qWN fit l n=none→∀ k q,k<n→l[k]?=some q→fit q=false)
 | 0,_=>⟨fun i h=>by simp [qWN] at h,fun _ k q hk=>by omega⟩
 | n+1,hn=>by
  obtain⟨ih1,ih2⟩:=qNM l n (by omega)
  obtain⟨r,hr⟩:=qBA (show n<l.length by omega)
  simp only [qWN,hr]
  have old:∀ {k:Nat} {q:Rule},k<n+1→l[k]?=some q→k<n∨(k=n∧q=r):=fun {k q} hk hq=>by
   rcases Nat.lt_or_ge k n with h|h
   ·exact .inl h
   ·obtain rfl:k=n:=by omega
    rw [hr] at hq;cases hq;exact .inr ⟨rfl,rfl⟩
  cases hf:fit r with
  | false =>
   simp only [Bool.false_eq_true,if_false]
   refine⟨fun i hi=>?_,fun hi k q hk hq=>?_⟩
   ·obtain⟨x,h1,h2,h3,h4,h5⟩:=ih1 i hi
    refine⟨x,h1,by omega,h3,fun k q hk hq hfq=>?_,h5⟩
    rcases old hk hq with h|⟨rfl,rfl⟩
    ·exact h4 k q h hq hfq
    ·rw [hf] at hfq;cases hfq
   ·rcases old hk hq with h|⟨rfl,rfl⟩
    ·exact ih2 hi k q h hq
    ·exact hf
  | true =>
   simp only [if_true]
   cases hb:qWN fit l n with
   | none =>
    simp only
    refine⟨fun i hi=>?_,fun hi=>by cases hi⟩
    cases hi
    refine⟨r,hr,by omega,hf,fun k q hk hq hfq=>?_,fun k q hk hq hfq=>?_⟩
    ·rcases old hk hq with h|⟨rfl,rfl⟩
     ·rw [ih2 hb k q h hq] at hfq;cases hfq
     ·exact qlS _
    ·rw [ih2 hb k q hk hq] at hfq;cases hfq
   | some j =>
    obtain⟨x,h1,h2,h3,h4,h5⟩:=ih1 j hb
    simp only [h1]
    cases hbt:betR r x with
    | true =>
     simp only [if_true]
     refine⟨fun i hi=>?_,fun hi=>by cases hi⟩
     cases hi
     refine⟨r,hr,by omega,hf,fun k q hk hq hfq=>?_,fun k q hk hq hfq=>?_⟩
     ·rcases old hk hq with h|⟨rfl,rfl⟩
      ·exact qkS (h4 k q h hq hfq) (qhT hbt)
      ·exact qlS _
     ·have h4':=h4 k q hk hq hfq
      cases hrq:betR r q with
      | true=>rfl
      | false =>
       have:=qkS hrq h4'
       rw [hbt] at this;cases this
    | false =>
     simp only [Bool.false_eq_true,if_false]
     refine⟨fun i hi=>?_,fun hi=>by cases hi⟩
     cases hi
     refine⟨x,h1,by omega,h3,fun k q hk hq hfq=>?_,h5⟩
     rcases old hk hq with h|⟨rfl,rfl⟩
     ·exact h4 k q h hq hfq
     ·exact hbt
theorem bestO_some {l:List Rule} {i:Nat}:qwU fit l=some i↔IsBest fit l l.length i:=by
 obtain⟨h1,h2⟩:=qNM (fit:=fit) l l.length (Nat.le_refl _)
 refine⟨h1 i,fun h=>?_⟩
 cases hb:qwU fit l with
 | some j=>rw [h.unique (h1 j hb)]
 | none =>
  obtain⟨r,k1,k2,k3,_⟩:=h
  rw [h2 hb i r k2 k1] at k3;cases k3
end
/- Frozen memory that the call made: it is written,and what is told of it. -/
open Go.RowKit
theorem PbSl.dom {g:GW} {lo:Nat} {ety:TypeId} {size b n cap:Nat} {cs:List Value} (h:PbSl g lo ety size (.slice (some ⟨b,0,none⟩) n cap) n cs):g.g b:=by
 obtain⟨_,h2,_⟩:=h
 rcases h2 with ⟨h2,_⟩|⟨b',cap',rest,hv,hb,_⟩
 ·cases h2
 ·simp only [Value.slice.injEq,Option.some.injEq,Addr.mk.injEq] at hv
  obtain⟨⟨rfl,_⟩,_⟩:=hv
  exact hb.2
theorem PbSl.ne {g:GW} {lo:Nat} {ety:TypeId} {size b b' n cap:Nat} {cs:List Value} (h:PbSl g lo ety size (.slice (some ⟨b,0,none⟩) n cap) n cs) (hn:¬ g.g b'):b≠b':=fun e=>hn (e▸h.dom)
theorem PbSl.keep {g g':GW} {lo:Nat} {ety:TypeId} {size b b' n cap:Nat} {cs:List Value} {o:Obj} (h:PbSl g lo ety size (.slice (some ⟨b',0,none⟩) n cap) n cs) (u:Upd g b o g') (hne:b'≠b):PbSl g' lo ety size (.slice (some ⟨b',0,none⟩) n cap) n cs:=by
 obtain⟨h1,h2,h3⟩:=h
 refine⟨h1,?_,h3⟩
 rcases h2 with ⟨h2,_⟩|⟨b',cap',rest,hv,hb,ho,hr⟩
 ·cases h2
 ·simp only [Value.slice.injEq,Option.some.injEq,Addr.mk.injEq] at hv
  obtain⟨⟨rfl,_⟩,_,rfl⟩:=hv
  exact .inr ⟨_,_,rest,rfl,⟨hb.1,(u.dom _).2 hb.2⟩,(u.other _ hb.2 hne).trans ho,hr⟩
theorem PbSl.poke {g:GW} {lo:Nat} {ety:TypeId} {size b n cap:Nat} {cs:List Value} (h:PbSl g lo ety size (.slice (some ⟨b,0,none⟩) n cap) n cs) :
  ∃ rest,(lo≤b∧g.g b∧g.w.heap[b]?=some (.cells ⟨cs++rest⟩ ety (0,0)))∧∀ (j m:Nat) (vs:List Value) g',j+m≤cs.length→m=vs.length→(∀ u∈vs,u.oneCell'=true) →
   Upd g b (.cells ⟨(cs++rest).take j++vs++(cs++rest).drop (j+m)⟩ ety (0,0)) g'→PbSl g' lo ety size (.slice (some ⟨b,0,none⟩) n cap) n (cs.take j++vs++cs.drop (j+m)):=by
 obtain⟨h1,h2,h3⟩:=h
 rcases h2 with ⟨h2,_⟩|⟨b',cap',rest,hv,hb,ho,hnc,hcm,hr⟩
 ·cases h2
 ·simp only [Value.slice.injEq,Option.some.injEq,Addr.mk.injEq] at hv
  obtain⟨⟨rfl,_⟩,_,rfl⟩:=hv
  refine⟨rest,⟨hb.1,hb.2,ho⟩,fun j m vs g' hj hm hone u=>?_⟩
  subst hm
  have e:(cs++rest).take j++vs++(cs++rest).drop (j+vs.length)=(cs.take j++vs++cs.drop (j+vs.length))++rest:=by
   rw [List.take_append_of_le_length (by omega),List.drop_append_of_le_length (by omega)];simp
  rw [e] at u
  refine⟨?_,.inr ⟨b,cap,rest,rfl,⟨hb.1,(u.dom _).2 hb.2⟩,u.obj,hnc,hcm,?_⟩,fun x hx=>?_⟩
  ·rw [← h1];simp;omega
  ·rw [← hr];simp;omega
  ·rcases List.mem_append.1 hx with hx|hx
   ·rcases List.mem_append.1 hx with hx|hx
    ·exact h3 x (List.mem_of_mem_take hx)
    ·exact hone x hx
   ·exact h3 x (List.mem_of_mem_drop hx)
theorem oneF {α:Type} {l:List α} {f:α→List Value} (h:∀ x∈l,(f x).all Value.oneCell'=true):∀ u∈(l.map f).flatten,u.oneCell'=true:=fun u hu=>by
 obtain⟨c,hc,hu⟩:=List.mem_flatten.1 hu
 obtain⟨x,hx,rfl⟩:=List.mem_map.1 hc
 exact List.all_eq_true.1 (h x hx) u hu
/- Snapshots: what is built of a configuration,and the configuration of a snapshot. -/
noncomputable def eqB {α:Type} (a b:α):Bool:=@decide (a=b) (Classical.propDecidable _)
theorem eqB_iff {α:Type} {a b:α}:eqB a b=true↔a=b:=@decide_eq_true_iff _ (Classical.propDecidable _)
theorem qOK {α:Type} {a b:α} (h:a=b):eqB a b=true:=eqB_iff.2 h
theorem quL {α:Type} {a b:α} (h:a≠b):eqB a b=false:=by
 cases e:eqB a b with
 | false=>rfl
 | true=>exact absurd (eqB_iff.1 e) h
theorem qjR {a b:Route} (h1:a.listen=b.listen) (h2:a.host=b.host) (h3:a.path=b.path) (h4:a.cluster=b.cluster):a=b:=by
 cases a;cases b;simp_all
theorem q4S {a b:Rule} (h1:a.listen=b.listen) (h2:a.host=b.host) (h3:a.path=b.path) (h4:a.cluster=b.cluster):a=b:=by
 cases a;cases b;simp_all
theorem qvP {a b:Cluster} (h1:a.name=b.name) (h2:a.policy=b.policy) (h3:a.slots=b.slots) (h4:a.health=b.health):a=b:=by
 cases a;cases b;simp_all
def q1L (c:Config) (r:Route):Rule:=⟨idxI (idxO (fun x=>bs x==bs r.listen) c.listens),r.host,r.path,idxI (idxO (fun (x:Cluster)=>bs x.name==bs r.cluster) c.clusters)⟩
def qaA (c:Config):Snap:=⟨c.listens,c.routes.map (q1L c),c.clusters⟩
def q6I (c:Config):Snap:=match qHA c with
 | none=>qaA c
 | some _=>⟨[],[],[]⟩
def qsF (l:List BA) (i:Int):BA:=if 0≤i∧i<l.length then (l[i.toNat]?).getD ⟨#[]⟩ else ⟨#[]⟩
def q7A (l:List Cluster) (i:Int):BA:=if 0≤i∧i<l.length then ((l[i.toNat]?).map (·.name)).getD ⟨#[]⟩ else ⟨#[]⟩
def quA (s:Snap) (r:Rule):Route:=⟨qsF s.listens r.listen,r.host,r.path,q7A s.clusters r.cluster⟩
def qIC (s:Snap):Config:=⟨s.listens,s.rules.map (quA s),s.clusters⟩
theorem qfU {s:BA} (h:qxB (bs s)=true):s≠⟨#[]⟩:=fun e=>by
 subst e
 exact absurd h (by decide)
theorem qwQ {l:List BA} {s:BA} (h:hasS l s=true):qsF l (idxI (idxO (fun x=>bs x==bs s) l))=s:=by
 cases hi:idxO (fun x=>bs x==bs s) l with
 | none=>rw [idxO_none] at hi;rw [hasS] at h;rw [h] at hi;cases hi
 | some i =>
  obtain⟨x,h1,h2,_⟩:=qXD hi
  have:=(List.getElem?_eq_some_iff.1 h1).1
  unfold qsF idxI
  simp only
  rw [if_pos ⟨by omega,by omega⟩]
  simp only [Int.toNat_natCast,h1,Option.getD_some]
  exact qSL (by simpa using h2)
theorem qHR {l:List Cluster} {s:BA} (h:hasC l s=true):q7A l (idxI (idxO (fun (x:Cluster)=>bs x.name==bs s) l))=s:=by
 cases hi:idxO (fun (x:Cluster)=>bs x.name==bs s) l with
 | none=>rw [idxO_none] at hi;rw [hasC] at h;rw [h] at hi;cases hi
 | some i =>
  obtain⟨x,h1,h2,_⟩:=qXD hi
  have:=(List.getElem?_eq_some_iff.1 h1).1
  unfold q7A idxI
  simp only
  rw [if_pos ⟨by omega,by omega⟩]
  simp only [Int.toNat_natCast,h1,Option.map_some,Option.getD_some]
  exact qSL (by simpa using h2)
theorem qGR {c:Config} (h:GoodC c):qIC (qaA c)=c:=by
 have:(c.routes.map (q1L c)).map (quA (qaA c))=c.routes:=by
  rw [List.map_map]
  conv=>rhs;rw [← List.map_id c.routes]
  refine List.map_congr_left fun r hr=>?_
  obtain⟨h1,_,_,h4⟩:=h.rt r hr
  have e1:=qwQ h1
  have e4:=qHR h4
  exact qjR e1 rfl rfl e4
 show(⟨c.listens,(c.routes.map (q1L c)).map (quA (qaA c)),c.clusters⟩:Config)=c
 rw [this]
/- qXB data: operations and scripts,and how they lie in frozen memory. -/
structure OpD where
 kind:Int
 listen:BA
 host:BA
 path:BA
 d0:Int
 d1:Int
 n:Int
 config:Config
structure Script where
 first:Config
 threads:List (List OpD)
 picks:List Int
/- qXB data: answers,events,machines,and how they lie in frozen memory. -/
structure C6 where
 c0:Int
 c1:Int
 c2:Int
 c3:Int
 c4:Int
 c5:Int
abbrev C6.cs (c:C6):List Value:=[.int .u64 c.c0,.int .u64 c.c1,.int .u64 c.c2,.int .u64 c.c3,.int .u64 c.c4,.int .u64 c.c5]
def C6.get (c:C6):Nat→Int
 | 0=>c.c0
 | 1=>c.c1
 | 2=>c.c2
 | 3=>c.c3
 | 4=>c.c4
 | _=>c.c5
def C6.set (c:C6) (n:Int):Nat→C6
 | 0=>{c with c0:=n}
 | 1=>{c with c1:=n}
 | 2=>{c with c2:=n}
 | 3=>{c with c3:=n}
 | 4=>{c with c4:=n}
 | _=>{c with c5:=n}
structure C6.ok (c:C6):Prop where
 k0:InU c.c0
 k1:InU c.c1
 k2:InU c.c2
 k3:InU c.c3
 k4:InU c.c4
 k5:InU c.c5
def c60:C6:=⟨0,0,0,0,0,0⟩
structure Ans where
 kind:Int
 version:Int
 cluster:Int
 end_:Int
 slot:Int
 listen:Int
 n:Int
 counts:C6
def ans0:Ans:=⟨0,0,0,0,0,0,0,c60⟩
abbrev Ans.cs (a:Ans):List Value:=[.int .i64 a.kind,.int .i64 a.version,.int .i64 a.cluster,.int .i64 a.end_,.int .i64 a.slot,.int .i64 a.listen,.int .i64 a.n,.int .u64 a.counts.c0,.int .u64 a.counts.c1,.int .u64 a.counts.c2,.int .u64 a.counts.c3,.int .u64 a.counts.c4,.int .u64 a.counts.c5]
structure Ans.ok (a:Ans):Prop where
 kind:InR a.kind
 version:InR a.version
 cluster:InR a.cluster
 end_:InR a.end_
 slot:InR a.slot
 listen:InR a.listen
 n:InR a.n
 counts:a.counts.ok
structure Ev where
 thread:Int
 op:Int
 access:Int
 cell:Int
 version:Int
 freed:Bool
 value:Int
 begin_:Bool
 point:Bool
 done:Bool
 answer:Ans
def ev0:Ev:=⟨0,0,0,0,0,false,0,false,false,false,ans0⟩
abbrev Ev.cs (e:Ev):List Value:=[.int .i64 e.thread,.int .i64 e.op,.int .i64 e.access,.int .i64 e.cell,.int .i64 e.version,.bool e.freed,.int .i64 e.value,.bool e.begin_,.bool e.point,.bool e.done,
 .int .i64 e.answer.kind,.int .i64 e.answer.version,.int .i64 e.answer.cluster,.int .i64 e.answer.end_,.int .i64 e.answer.slot,.int .i64 e.answer.listen,.int .i64 e.answer.n,.int .u64 e.answer.counts.c0,.int .u64 e.answer.counts.c1,.int .u64 e.answer.counts.c2,.int .u64 e.answer.counts.c3,.int .u64 e.answer.counts.c4,.int .u64 e.answer.counts.c5]
structure Mach where
 op:OpD
 thread:Int
 pc:Int
 epoch:Int
 version:Int
 listen:Int
 cluster:Int
 end_:Int
 other:Int
 slot:Int
 word:Int
 link:Int
 i:Int
 k:Int
 sum:Int
 done:Bool
 answer:Ans
 counts:C6
structure Mach.ok (m:Mach):Prop where
 thread:InR m.thread
 pc:InR m.pc
 epoch:InR m.epoch
 version:InR m.version
 listen:InR m.listen
 cluster:InR m.cluster
 end_:InR m.end_
 other:InR m.other
 slot:InR m.slot
 word:InU m.word
 link:InR m.link
 i:InR m.i
 k:InR m.k
 sum:InR m.sum
 answer:m.answer.ok
 counts:m.counts.ok
abbrev Mach.cs (a b d:Value) (m:Mach):List Value:=[.int .i64 m.op.kind,.string m.op.listen,.string m.op.host,.string m.op.path,.int .i64 m.op.d0,.int .i64 m.op.d1,.int .i64 m.op.n,a,b,d,
 .int .i64 m.thread,.int .i64 m.pc,.int .i64 m.epoch,.int .i64 m.version,.int .i64 m.listen,.int .i64 m.cluster,.int .i64 m.end_,.int .i64 m.other,.int .i64 m.slot,.int .u64 m.word,.int .i64 m.link,.int .i64 m.i,.int .i64 m.k,.int .i64 m.sum,.bool m.done,
 .int .i64 m.answer.kind,.int .i64 m.answer.version,.int .i64 m.answer.cluster,.int .i64 m.answer.end_,.int .i64 m.answer.slot,.int .i64 m.answer.listen,.int .i64 m.answer.n,.int .u64 m.answer.counts.c0,.int .u64 m.answer.counts.c1,.int .u64 m.answer.counts.c2,.int .u64 m.answer.counts.c3,.int .u64 m.answer.counts.c4,.int .u64 m.answer.counts.c5,
 .int .u64 m.counts.c0,.int .u64 m.counts.c1,.int .u64 m.counts.c2,.int .u64 m.counts.c3,.int .u64 m.counts.c4,.int .u64 m.counts.c5]
def qiD:RP Mach:=fun g cs m=>∃ a b d,cs=m.cs a b d∧m.ok∧(InR m.op.kind∧InR m.op.d0∧InR m.op.d1∧InR m.op.n)∧qcA g [a,b,d] m.op.config
theorem qpC:Mono qiD:=fun _ _ _ _ k ⟨a,b,d,e,h,i,c⟩=>⟨a,b,d,e,h,i,qMA _ _ _ _ k c⟩
def rAns:RP Ans:=fun _ cs a=>cs=a.cs∧a.ok
/- qXB data of worlds: slots that are free;tags. -/
def idxT (w:Int):Int:=w % 4294967296-1
def tagT (w:Int):Int:=w / 4294967296
def qDO (w i:Int):Int:=(tagT w+1) % 4294967296*4294967296+(i+1)
def qCH (i:Int):Bool:=decide (-1≤i)&&decide (i≤2147483646)
theorem qPS {w i:Int} (h:-1≤i∧i≤2147483646):idxT (qDO w i)=i:=by
 unfold idxT qDO
 rw [Int.add_comm,Int.add_mul_emod_self_right,Int.emod_eq_of_lt (by omega) (by omega)];omega
theorem qdU {w i:Int} (h:-1≤i∧i≤2147483646):InU (qDO w i):=by
 unfold qDO
 have h1:=Int.emod_nonneg (tagT w+1) (show(4294967296:Int)≠0 by decide)
 have h2:=Int.emod_lt_of_pos (tagT w+1) (show(0:Int)<4294967296 by decide)
 constructor<;>omega
theorem qHQ (w:Int):-1≤idxT w∧idxT w≤4294967294:=by
 unfold idxT
 have h1:=Int.emod_nonneg w (show(4294967296:Int)≠0 by decide)
 have h2:=Int.emod_lt_of_pos w (show(0:Int)<4294967296 by decide)
 omega
def nxtL (next:List Int) (i:Int):Int:=(next[i.toNat]?).getD 0
def qyH (next:List Int):Int→List Int→Prop
 | i,[]=>i=-1
 | i,x :: r=>i=x∧(0≤x∧x<next.length)∧qyH next (nxtL next x) r
def qfD (next:List Int):Nat→List Int→Int→Option (List Int)
 | 0,_,_=>none
 | f+1,out,i=>if i=-1 then some out else if i<0∨(next.length:Int)≤i∨i∈out then none else qfD next f (out++[i]) (nxtL next i)
def qID (e:EndC):Option (List Int):=qfD e.next (e.next.length+1) [] (idxT e.head)
theorem qTD {l:List Int} {n:Nat} (h:l.Nodup) (k:∀ x∈l,0≤x∧x<n):l.length≤n:=by
 have h1:(l.map Int.toNat).Nodup:=by
  refine List.Pairwise.map _ ?_ (List.Pairwise.and_mem.1 h)
  intro a b ⟨ha,hb,hab⟩ he
  have:=k a ha;have:=k b hb
  exact hab (by omega)
 have h2:∀ (n:Nat) (l:List Nat),l.Nodup→(∀ x∈l,x<n)→l.length≤n:=by
  intro n
  induction n with
  | zero=>intro l _ hl;cases l with
   | nil=>simp
   | cons x r=>have:=hl x (by simp);omega
  | succ n ih =>
   intro l hn hl
   by_cases hm:n∈l
   ·have:=ih (l.erase n) (hn.erase n) fun x hx=>by
     have h1:=hl x (List.mem_of_mem_erase hx)
     have h2:x≠n:=fun e=>by rw [e] at hx;exact hn.not_mem_erase hx
     omega
    rw [List.length_erase_of_mem hm] at this
    omega
   ·have:=ih l hn fun x hx=>by
     have h1:=hl x hx
     have h2:x≠n:=fun e=>hm (e▸hx)
     omega
    omega
 have:=h2 n (l.map Int.toNat) h1 fun x hx=>by
  obtain⟨y,hy,rfl⟩:=List.mem_map.1 hx
  have:=k y hy
  omega
 simpa using this
theorem qPL {next:List Int}:∀ {f:Nat} {out:List Int} {i:Int} {l:List Int},qfD next f out i=some l→out.Nodup→∃ r,l=out++r∧qyH next i r∧l.Nodup
 | 0,_,_,_,h,_=>by cases h
 | f+1,out,i,l,h,hn=>by
  simp only [qfD] at h
  split at h
  ·rename_i hi
   cases h
   exact⟨[],by simp,hi,hn⟩
  ·split at h
   ·cases h
   ·rename_i h1 h2
    have h3:0≤i∧i<next.length∧i ∉ out:=⟨by omega,by omega,fun hm=>h2 (.inr (.inr hm))⟩
    obtain⟨r,e1,e2,e3⟩:=qPL h (List.nodup_append.2 ⟨hn,by simp,fun a ha b hb hab=>h3.2.2 (by simp at hb;rw [← hb,← hab];exact ha)⟩)
    exact⟨i :: r,by rw [e1];simp,⟨rfl,⟨h3.1,h3.2.1⟩,e2⟩,e3⟩
theorem qxH {next:List Int}:∀ {r:List Int} {i:Int},qyH next i r→∀ x∈r,0≤x∧x<next.length
 | [],_,_,x,hx=>by cases hx
 | y :: r,i,h,x,hx=>by
  rcases List.mem_cons.1 hx with rfl|hx
  ·exact h.2.1
  ·exact qxH h.2.2 x hx
theorem qhO {next:List Int}:∀ {r:List Int} {f:Nat} {out:List Int} {i:Int},qyH next i r→(out++r).Nodup→r.length<f→qfD next f out i=some (out++r)
 | [],f+1,out,i,h,hn,hf=>by
  have:i=-1:=h
  simp [qfD,this]
 | x :: r,f+1,out,i,h,hn,hf=>by
  obtain⟨rfl,⟨h1,h2⟩,h3⟩:=h
  have hx:i ∉ out:=fun hm=>(List.nodup_append.1 hn).2.2 i hm i (by simp) rfl
  have:=qhO (f:=f) (out:=out++[i]) h3 (by simpa using hn) (by simpa using hf)
  simp only [qfD]
  rw [if_neg (by omega),if_neg (by rintro(h|h|h);omega;omega;exact hx h),this]
  simp
theorem freeL_iff {e:EndC} {l:List Int}:qID e=some l↔qyH e.next (idxT e.head) l∧l.Nodup:=by
 constructor
 ·intro h
  obtain⟨r,rfl,h1,h2⟩:=qPL h (by simp)
  exact⟨h1,h2⟩
 ·rintro⟨h1,h2⟩
  have:=qhO (f:=e.next.length+1) (out:=[]) h1 (by simpa using h2) (by have:=qTD h2 (qxH h1);omega)
  simpa [qID] using this
def endB (e:EndC):Bool:=(qID e).isSome&&decide (1≤e.next.length)&&decide (e.next.length≤4)&&decide (0≤e.active)
theorem qZT {e:EndC} {x:Int} {r:List Int} (h:qID e=some (x :: r)) {w:Int} (hw:idxT w=nxtL e.next x) (a:Int):qID ⟨w,e.next,a⟩=some r:=by
 obtain⟨h1,h2⟩:=freeL_iff.1 h
 refine freeL_iff.2 ⟨?_,(List.nodup_cons.1 h2).2⟩
 show qyH e.next (idxT w) r
 rw [hw];exact h1.2.2
theorem qVO {e:EndC} {l:List Int} (h:qID e=some l):(l=[]∧idxT e.head=-1)∨∃ x r,l=x :: r∧idxT e.head=x∧(0≤x∧x<e.next.length)∧qyH e.next (nxtL e.next x) r∧x ∉ r∧r.Nodup:=by
 obtain⟨h1,h2⟩:=freeL_iff.1 h
 cases l with
 | nil=>exact .inl ⟨rfl,h1⟩
 | cons x r =>
  obtain⟨k1,k2⟩:=List.nodup_cons.1 h2
  exact .inr ⟨x,r,rfl,h1.1,h1.2.1,h1.2.2,k1,k2⟩
theorem qSS {e:EndC} {x:Int} {r:List Int} (h:qID e=some (x :: r)):-1≤nxtL e.next x∧nxtL e.next x<e.next.length:=by
 obtain⟨h1,_⟩:=freeL_iff.1 h
 have h2:=h1.2.2
 cases r with
 | nil=>have:nxtL e.next x=-1:=h2;omega
 | cons y r=>have:=h2.1;have:=h2.2.1;omega
theorem qKN {e:EndC} {l:List Int} (h:qID e=some l):l.length≤e.next.length:=by
 obtain⟨h1,h2⟩:=freeL_iff.1 h
 exact qTD h2 (qxH h1)
def q6A (n:Nat):EndC:=⟨1,(List.range n).map fun i=>if i+1=n then -1 else (i:Int)+1,0⟩
/- qXB laws of worlds: what is right. -/
def allI {α:Type} (f:Nat→α→Bool) (l:List α):Bool:=(qOB (fun i x=>if f i x then (none:Option Unit) else some ()) 0 l).isNone
theorem allI_iff {α:Type} {f:Nat→α→Bool} {l:List α}:allI f l=true↔∀ (i:Nat) x,l[i]?=some x→f i x=true:=by
 unfold allI
 rw [Option.isNone_iff_eq_none,qtE]
 constructor
 ·intro h i x hx
  have:=h i x hx
  split at this
  ·assumption
  ·cases this
 ·intro h i x hx
  rw [if_pos (h i x hx)]
theorem qVA {α:Type} {f:Nat→α→Bool} {l:List α} {i:Nat} {x:α} (hx:l[i]?=some x) (h:f i x=false):allI f l=false:=by
 rw [Bool.eq_false_iff]
 intro hh
 rw [allI_iff.1 hh i x hx] at h;cases h
def AllK {α:Type} (f:Nat→α→Bool) (l:List α) (k:Nat):Prop:=∀ i,i<k→∀ x,l[i]?=some x→f i x=true
theorem AllK.zero {α:Type} (f:Nat→α→Bool) (l:List α):AllK f l 0:=fun i h=>by omega
theorem AllK.succ {α:Type} {f:Nat→α→Bool} {l:List α} {k:Nat} (h:AllK f l k) {x:α} (hx:l[k]?=some x) (hf:f k x=true):AllK f l (k+1):=fun i hi y hy=>by
 rcases Nat.lt_or_ge i k with hlt|hge
 ·exact h i hlt y hy
 ·obtain rfl:i=k:=by omega
  rw [hx] at hy;cases hy;exact hf
theorem AllK.done {α:Type} {f:Nat→α→Bool} {l:List α} {k:Nat} (h:AllK f l k) (hk:l.length≤k):allI f l=true :=
 allI_iff.2 fun i x hx=>h i (by have:=(List.getElem?_eq_some_iff.1 hx).1;omega) x hx
def retB (l:List Retired) (i:Nat) (r:Retired):Bool:=decide (0≤r.version)&&decide (0≤r.at_)&&!(l.take i).any fun x=>x.version==r.version
def qLE (l:List Retired):Bool:=allI (retB l) l
def q1F (l:List Retired) (n:Int):Bool:=l.any fun r=>r.version==n&&r.gone
def qJK (l:List Retired):List (Int×Value):=l.foldl (fun es r=>mSet r.version (.bool r.gone) es) []
theorem qPO (n m:Int) (v:Value):∀ es:List (Int×Value),mGet n (mSet m v es)=if n=m then some v else mGet n es
 | []=>by
  simp only [mSet,mGet]
  by_cases h:n=m
  ·simp [h]
  ·rw [if_neg h,show(n==m)=false by simpa using h]
 | (k,u) :: r=>by
  simp only [mSet]
  by_cases hmk:m=k
  ·subst hmk
   simp only [beq_self_eq_true,mGet]
   by_cases h:n=m
   ·simp [h]
   ·rw [if_neg h,show(n==m)=false by simpa using h]
  ·rw [show(m==k)=false by simpa using hmk]
   simp only [mGet]
   by_cases hnk:n=k
   ·subst hnk
    rw [if_neg (fun e=>hmk e.symm)];simp
   ·rw [show(n==k)=false by simpa using hnk]
    exact qPO n m v r
theorem q2Q (l:List Retired) (r:Retired):qJK (l++[r])=mSet r.version (.bool r.gone) (qJK l):=by
 unfold qJK;rw [List.foldl_append];rfl
theorem qBM {l:List Retired} {k:Nat} {r:Retired} (h:l[k]?=some r):qJK (l.take (k+1))=mSet r.version (.bool r.gone) (qJK (l.take k)):=by
 obtain⟨h1,h2⟩:=List.getElem?_eq_some_iff.1 h
 rw [List.take_succ_eq_append_getElem h1,h2,q2Q]
def UqV (l:List Retired):Prop:=∀ (i j:Nat) x y,i<j→l[i]?=some x→l[j]?=some y→x.version≠y.version
theorem qVT {l:List Retired} (h:qLE l=true):UqV l:=fun i j x y hij hx hy he=>by
 have:=allI_iff.1 h j y hy
 simp only [retB,Bool.and_eq_true,Bool.not_eq_true'] at this
 have h2:=any_take.1 this.2 i x hij hx
 simp [he] at h2
theorem qCM {n:Int}:∀ {k:Nat} {l:List Retired},UqV l→k≤l.length→qQO false (.bool false) (mGet n (qJK (l.take k)))=.bool (q1F (l.take k) n)
 | 0,l,_,_=>by simp [qJK,mGet,qQO,q1F]
 | k+1,l,hu,hk=>by
  obtain⟨r,hr⟩:=qBA (show k<l.length by omega)
  have ih:=qCM (n:=n) (k:=k) hu (by omega)
  rw [qBM hr,qPO]
  have ht:l.take (k+1)=l.take k++[r]:=by
   obtain⟨h1,h2⟩:=List.getElem?_eq_some_iff.1 hr
   rw [List.take_succ_eq_append_getElem h1,h2]
  rw [ht]
  unfold q1F at ih ⊢
  rw [List.any_append]
  by_cases hn:n=r.version
  ·have:(l.take k).any (fun r=>r.version==n&&r.gone)=false:=by
    rw [any_take]
    intro j x hj hx
    have:=hu j k x r hj hx hr
    simp [hn,this]
   rw [if_pos hn,this]
   simp [qQO,hn]
  ·rw [if_neg hn,ih]
   have:(r.version==n)=false:=by simpa using fun e=>hn e.symm
   simp [this]
def qoL (x:Listen):Bool:=qxB (bs x.name)&&decide (0≤x.active)&&(x.drain||!x.closed)
def qMB (l:List Listen) (s:BA):Int:=idxI (idxO (fun x=>bs x.name==bs s) l)
def q2A (l:List Listen) (i:Nat) (x:Listen):Bool:=qoL x&&decide (qMB l x.name=i)
def qED (c:List (List Int)):Bool:=(c.all fun r=>decide (r.length=6))&&decide (1≤c.length)&&decide (c.length≤8)
def q1I (c:Cluster) (e:EndC):Bool:=endB e&&decide ((e.next.length:Int)=c.slots)
def qME (cl:List Cluster) (i:Nat) (g:Group):Bool:=match cl[i]? with
 | some c=>decide (g.ends.length=c.health.length)&&g.ends.all (q1I c)
 | none=>false
noncomputable def q4A (v:Version):Bool:=eqB (qHA (qIC v.snap)) none&&decide (v.groups.length=v.snap.clusters.length)&&allI (qME v.snap.clusters) v.groups
def qCB (w:Wd):Bool:=decide (1≤w.pins.length)&&decide (w.pins.length≤8)&&decide (w.counts.length=w.pins.length)&&qED w.counts&&decide (0≤w.epoch)&&decide (w.epoch≤1000000000000)&&decide (w.lock=0∨w.lock=1)&&w.pins.all fun p=>decide (0≤p)&&decide (p≤w.epoch+1)
def limB (w:Wd) (r:Retired):Bool:=decide (r.version<w.versions.length)&&decide (r.version≠w.current)&&decide (r.at_≤w.epoch)
noncomputable def verB (w:Wd) (i:Nat) (v:Version):Bool:=q4A v&&(v.freed==q1F w.limbo i)
noncomputable def wdB (w:Wd):Bool:=qCB w&&decide (0≤w.current)&&decide (w.current<w.versions.length)&&qLE w.limbo&&w.limbo.all (limB w)&&allI (verB w) w.versions&&allI (q2A w.listens) w.listens
/- Worlds in frozen memory,with a bound for the slots that an endpoint may have. -/
open Go.RowKit
def rEn:RP EndC:=fun g cs e=>rEnd g cs e∧e.next.length≤17592186044416
theorem qxC:Mono rEn:=fun _ _ _ _ k ⟨a,b⟩=>⟨qpR _ _ _ _ k a,b⟩
def rGr:RP Group:=fun g cs x=>∃ n,cs=[.int .u64 x.ticket,n]∧InU x.ticket∧rSl 3 rEn g n x.ends
theorem qwC:Mono rGr:=fun _ _ _ _ k ⟨n,e,a,c⟩=>⟨n,e,a,c.mono qxC k⟩
def rVe:RP Version:=fun g cs x=>∃ a b d n,cs=[a,b,d,n,.bool x.freed]∧qnF g [a,b,d] x.snap∧rSl 2 rGr g n x.groups
theorem q9B:Mono rVe:=fun _ _ _ _ k ⟨a,b,d,n,e,x,y⟩=>⟨a,b,d,n,e,qkB _ _ _ _ k x,y.mono qwC k⟩
def rWo:RP Wd:=fun g cs w=>∃ a b c d e,cs=[.int .i64 w.epoch,.int .i64 w.current,.int .i64 w.lock,a,b,c,d,e]∧(InR w.epoch∧InR w.current∧InR w.lock) ∧
 rSl 1 rInt g a w.pins∧rSl 5 rVe g b w.versions∧rSl 4 qpA g c w.listens∧rSl 1 rRow g d w.counts∧rSl 3 qUA g e w.limbo
theorem qTA:Mono rWo:=fun _ _ _ _ k ⟨a,b,c,d,e,h,i,j,l,m,n,o⟩=>⟨a,b,c,d,e,h,i,j.mono qhA k,l.mono q9B k,m.mono qjA k,n.mono q1A k,o.mono qvA k⟩
theorem bneT {a b:Int} (h:(a != b)=true):a≠b:=by simpa using h
theorem bneF {a b:Int} (h:(a != b)=false):a=b:=by simpa using h
theorem beqT {a b:Int} (h:(a==b)=true):a=b:=by simpa using h
theorem beqF {a b:Int} (h:(a==b)=false):a≠b:=by simpa using h
theorem nneT {a b:Nat} (h:((a:Int) != b)=true):a≠b:=by have:=bneT h;omega
theorem nneF {a b:Nat} (h:((a:Int) != b)=false):a=b:=by have:=bneF h;omega
def qiF (n:Nat) (out:List Int):List Value:=(List.range n).map fun (j:Nat)=>Value.bool (out.contains (j:Int))
theorem qpN (n:Nat) (out:List Int):(qiF n out).length=n:=by simp [qiF]
theorem qhR (n:Nat):qiF n []=List.replicate n (Value.bool false):=by
 unfold qiF
 apply List.ext_getElem<;>simp
theorem qiR {n:Nat} {out:List Int} {i:Int} (h:0≤i∧i<n):(qiF n out)[i.toNat]?=some (.bool (out.contains i)):=by
 unfold qiF
 rw [List.getElem?_map,List.getElem?_range (by omega)]
 simp [Int.toNat_of_nonneg h.1]
theorem qgR {n:Nat} {out:List Int} {i:Int} (h:0≤i∧i<n):(qiF n out).take i.toNat++[Value.bool true]++(qiF n out).drop (i.toNat+1)=qiF n (out++[i]):=by
 have hl:=qpN n out
 have:(qiF n out).take i.toNat++[Value.bool true]++(qiF n out).drop (i.toNat+1)=(qiF n out).set i.toNat (.bool true):=by
  rw [List.set_eq_take_append_cons_drop,if_pos (by omega)];simp
 rw [this]
 apply List.ext_getElem?
 intro j
 rw [List.getElem?_set]
 unfold qiF
 rw [List.getElem?_map,List.getElem?_map]
 by_cases hj:j<n
 ·rw [List.getElem?_range hj]
  simp only [Option.map_some,List.length_map,List.length_range]
  by_cases hij:i.toNat=j
  ·subst hij
   rw [if_pos rfl,if_pos (by omega)]
   simp [Int.toNat_of_nonneg h.1]
  ·rw [if_neg hij]
   have:((j:Int)==i)=false:=by simpa using (show(j:Int)≠i by omega)
   simp only [List.contains_append,List.contains_cons,List.contains_nil,this,Bool.or_false]
 ·rw [List.getElem?_eq_none (by simpa using hj)]
  simp
  omega
abbrev wQ (w:Wd) (oa:Option Addr) (ca:Nat) (ob:Option Addr) (cb:Nat) (oc:Option Addr) (cc:Nat) (od:Option Addr) (cd:Nat) (oe:Option Addr) (ce:Nat):List Value:=[.int .i64 w.epoch,.int .i64 w.current,.int .i64 w.lock,.slice oa w.pins.length ca,.slice ob w.versions.length cb,.slice oc w.listens.length cc,.slice od w.counts.length cd,.slice oe w.limbo.length ce]
abbrev mQ (m:Mach) (o1:Option Addr) (t1:Nat) (o2:Option Addr) (t2:Nat) (o3:Option Addr) (t3:Nat):List Value:=m.cs (.slice o1 m.op.config.listens.length t1) (.slice o2 m.op.config.routes.length t2) (.slice o3 m.op.config.clusters.length t3)
theorem q6T {g:GW} {cs ms:List Value} {w:Wd} {m:Mach} (hw:rWo g cs w) (hM:qiD g ms m):∃ oa ca ob cb oc cc od cd oe ce o1 t1 o2 t2 o3 t3,cs=[.int .i64 w.epoch,.int .i64 w.current,.int .i64 w.lock,.slice oa w.pins.length ca,.slice ob w.versions.length cb,.slice oc w.listens.length cc,.slice od w.counts.length cd,.slice oe w.limbo.length ce]∧ms=m.cs (.slice o1 m.op.config.listens.length t1) (.slice o2 m.op.config.routes.length t2) (.slice o3 m.op.config.clusters.length t3)∧rWo g [.int .i64 w.epoch,.int .i64 w.current,.int .i64 w.lock,.slice oa w.pins.length ca,.slice ob w.versions.length cb,.slice oc w.listens.length cc,.slice od w.counts.length cd,.slice oe w.limbo.length ce] w∧qiD g (m.cs (.slice o1 m.op.config.listens.length t1) (.slice o2 m.op.config.routes.length t2) (.slice o3 m.op.config.clusters.length t3)) m∧(InR w.epoch∧InR w.current∧InR w.lock) ∧
  rSl 1 rInt g (.slice oa w.pins.length ca) w.pins∧rSl 5 rVe g (.slice ob w.versions.length cb) w.versions∧rSl 4 qpA g (.slice oc w.listens.length cc) w.listens∧rSl 1 rRow g (.slice od w.counts.length cd) w.counts∧rSl 3 qUA g (.slice oe w.limbo.length ce) w.limbo ∧
  (w.pins.length≤ca∧ca≤maxLen∧(oa=none→w.pins.length=0∧ca=0)∧∀ (i:Nat) x,w.pins[i]?=some x→∃ a,oa=some a∧∃ ec,ec.length=1∧rInt g ec x∧Rcs g (a.add (i*1)) ec)∧(w.versions.length≤cb∧cb≤maxLen∧(ob=none→w.versions.length=0∧cb=0)∧∀ (i:Nat) x,w.versions[i]?=some x→∃ a,ob=some a∧∃ ec,ec.length=5∧rVe g ec x∧Rcs g (a.add (i*5)) ec)∧(w.listens.length≤cc∧cc≤maxLen∧(oc=none→w.listens.length=0∧cc=0)∧∀ (i:Nat) x,w.listens[i]?=some x→∃ a,oc=some a∧∃ ec,ec.length=4∧qpA g ec x∧Rcs g (a.add (i*4)) ec)∧(w.counts.length≤cd∧cd≤maxLen∧(od=none→w.counts.length=0∧cd=0)∧∀ (i:Nat) x,w.counts[i]?=some x→∃ a,od=some a∧∃ ec,ec.length=1∧rRow g ec x∧Rcs g (a.add (i*1)) ec)∧(w.limbo.length≤ce∧ce≤maxLen∧(oe=none→w.limbo.length=0∧ce=0)∧∀ (i:Nat) x,w.limbo[i]?=some x→∃ a,oe=some a∧∃ ec,ec.length=3∧qUA g ec x∧Rcs g (a.add (i*3)) ec)∧m.ok∧(InR m.op.kind∧InR m.op.d0∧InR m.op.d1∧InR m.op.n)∧qcA g [.slice o1 m.op.config.listens.length t1,.slice o2 m.op.config.routes.length t2,.slice o3 m.op.config.clusters.length t3] m.op.config:=by
 have hw0:=hw
 have hM0:=hM
 obtain⟨a,b,c,d,e,rfl,⟨i1,i2,i3⟩,hP,hV,hL,hC,hR⟩:=hw
 obtain⟨oa,ca,rfl,a1,a2,a0,hP1⟩:=id hP
 obtain⟨ob,cb,rfl,b1,b2,b0,hV1⟩:=id hV
 obtain⟨oc,cc,rfl,c1,c2,c0,hL1⟩:=id hL
 obtain⟨od,cd,rfl,d1,d2,d0,hC1⟩:=id hC
 obtain⟨oe,ce,rfl,e1,e2,e0,hR1⟩:=id hR
 obtain⟨ma,mb,md,rfl,hok,hop,hcf⟩:=hM
 obtain⟨_,_,_,he,⟨o1,t1,rfl,_⟩,⟨o2,t2,rfl,_⟩,⟨o3,t3,rfl,_⟩⟩:=id hcf
 cases he
 exact⟨_,_,_,_,_,_,_,_,_,_,_,_,_,_,_,_,rfl,rfl,hw0,hM0,⟨i1,i2,i3⟩,hP,hV,hL,hC,hR,⟨a1,a2,a0,hP1⟩,⟨b1,b2,b0,hV1⟩,⟨c1,c2,c0,hL1⟩,⟨d1,d2,d0,hC1⟩,⟨e1,e2,e0,hR1⟩,hok,hop,hcf⟩
theorem dF {p:Prop} [Decidable p] {A B:Prop} (h:¬ p) (k:B):(decide p=true→A)∧(decide p=false→B):=⟨fun x=>absurd (of_decide_eq_true x) h,fun _=>k⟩
theorem dT {p:Prop} [Decidable p] {A B:Prop} (h:p) (k:A):(decide p=true→A)∧(decide p=false→B):=⟨fun _=>k,fun x=>absurd h (of_decide_eq_false x)⟩
/- Own trees: slices that the call made,whose elements lie in parts of their own;what is written into one of them leaves all others as they are. -/
open Go.RowKit
def GW.sub (g:GW) (S:Nat→Prop):GW:=⟨g.w,fun n=>g.g n∧S n,fun n h=>g.wf n h.1⟩
def GW.vw (g:GW) (lo:Nat) (S:Nat→Prop):GW:=g.sub fun n=>n<lo∨S n
def NoB:Nat→Prop:=fun _=>False
theorem GW.vw_le (g:GW) (lo:Nat) (S:Nat→Prop):g.vw lo S≤g:=⟨Nat.le_refl _,fun _ h=>⟨h.1,rfl⟩⟩
theorem GW.vw_mono (g:GW) {lo:Nat} {S T:Nat→Prop} (h:∀ n,S n→T n):g.vw lo S≤g.vw lo T :=
 ⟨Nat.le_refl _,fun _ k=>⟨⟨k.1,k.2.imp id (h _)⟩,rfl⟩⟩
theorem GW.vw_up {g g':GW} (h:g≤g') (lo:Nat) (S:Nat→Prop):g.vw lo S≤g'.vw lo S :=
 ⟨h.1,fun n k=>⟨⟨(h.2 n k.1).1,k.2⟩,(h.2 n k.1).2⟩⟩
theorem GW.le_vw {g:GW} {g':GW} {lo:Nat} {S:Nat→Prop} (h:g≤g') (hlo:g.w.heap.size≤lo):g≤g'.vw lo S :=
 ⟨h.1,fun n k=>⟨⟨(h.2 n k).1,.inl (Nat.lt_of_lt_of_le (g.wf n k) hlo)⟩,(h.2 n k).2⟩⟩
theorem GW.vw_res {g g':GW} {lo:Nat} {S T:Nat→Prop} (h:g.vw lo S≤g'.vw lo S) (k:∀ n,T n→S n):g.vw lo T≤g'.vw lo T :=
 ⟨h.1,fun n q=>⟨⟨(h.2 n ⟨q.1,q.2.imp id (k n)⟩).1.1,q.2⟩,(h.2 n ⟨q.1,q.2.imp id (k n)⟩).2⟩⟩
theorem Upd.vw {g g':GW} {b:Nat} {o:Obj} (u:Upd g b o g') {lo:Nat} {S:Nat→Prop} (hlo:lo≤b) (hS:¬ S b):g.vw lo S≤g'.vw lo S :=
 ⟨u.size,fun n k=>⟨⟨(u.dom n).2 k.1,k.2⟩,u.other n k.1 fun e=>by subst e;rcases k.2 with h|h;omega;exact hS h⟩⟩
theorem PbSl.vw {g:GW} {lo lo':Nat} {ety:TypeId} {size b n cap:Nat} {cs:List Value} {S:Nat→Prop} (h:PbSl g lo ety size (.slice (some ⟨b,0,none⟩) n cap) n cs) (hS:S b):PbSl (g.vw lo' S) lo ety size (.slice (some ⟨b,0,none⟩) n cap) n cs:=by
 obtain⟨h1,h2,h3⟩:=h
 refine⟨h1,?_,h3⟩
 rcases h2 with h2|⟨b',cap',rest,hv,hb,ho,hr⟩
 ·exact .inl h2
 ·have hb2:=hb.2
  simp only [Value.slice.injEq,Option.some.injEq,Addr.mk.injEq] at hv
  obtain⟨⟨rfl,_⟩,_,rfl⟩:=hv
  exact .inr ⟨b,cap,rest,rfl,⟨hb.1,⟨hb.2,.inr hS⟩⟩,ho,hr⟩
abbrev OwT (α:Type):=GW→Nat→(Nat→Prop)→List Value→α→Prop
def Fr0 {α:Type} (R:OwT α):Prop:=∀ g g' lo S cs x,g.vw lo S≤g'.vw lo S→R g lo S cs x→R g' lo S cs x
def Rd0 {α:Type} (R:OwT α) (r:RP α):Prop:=∀ g lo S cs x,R g lo S cs x→r (g.vw lo S) cs x
def oLf {α:Type} (r:RP α):OwT α:=fun g _ _ cs x=>r g cs x
def oSl {α:Type} (ety:TypeId) (sz:Nat) (R:OwT α) (g:GW) (lo:Nat) (S:Nat→Prop) (v:Value) (l:List α):Prop :=
 (l=[]∧∃ oa,v=.slice oa 0 0) ∨
 ∃ (b cap:Nat) (ecs:List (List Value)) (T:Nat→Nat→Prop),v=.slice (some ⟨b,0,none⟩) l.length cap∧S b∧PbSl g lo ety sz (.slice (some ⟨b,0,none⟩) l.length cap) l.length ecs.flatten∧(ecs.length=l.length∧∀ e∈ecs,e.length=sz) ∧
  (∀ i n,T i n→S n∧n≠b)∧(∀ i j n,T i n→T j n→i=j)∧∀ (i:Nat) x ec,l[i]?=some x→ecs[i]?=some ec→R g lo (T i) ec x
theorem q3C {α:Type} {ety:TypeId} {sz:Nat} {R:OwT α} {r:RP α} (hr:Rd0 R r) (hm:Mono r) {g:GW} {lo:Nat} {S:Nat→Prop} {v:Value} {l:List α} (h:oSl ety sz R g lo S v l):rSl sz r (g.vw lo S) v l:=by
 rcases h with ⟨rfl,oa,rfl⟩|⟨b,cap,ecs,T,rfl,hS,hp,⟨hl,hsz⟩,hT,hd,hel⟩
 ·exact⟨oa,0,rfl,Nat.le_refl _,Nat.zero_le _,fun _=>⟨rfl,rfl⟩,fun i x hx=>by simp at hx⟩
 ·exact qzJ (hp.vw hS).rd l ecs rfl hsz rfl hl fun i x ec hx hec=>hm _ _ _ _ (g.vw_mono fun n hn=>(hT i n hn).1) (hr _ _ _ _ _ (hel i x ec hx hec))
theorem qKC {α:Type} {ety:TypeId} {sz:Nat} {R:OwT α} (hf:Fr0 R) {g g':GW} {lo:Nat} {S:Nat→Prop} {v:Value} {l:List α} (k:g.vw lo S≤g'.vw lo S) (h:oSl ety sz R g lo S v l):oSl ety sz R g' lo S v l:=by
 rcases h with h|⟨b,cap,ecs,T,rfl,hS,hp,hl,hT,hd,hel⟩
 ·exact .inl h
 ·refine .inr ⟨b,cap,ecs,T,rfl,hS,?_,hl,hT,hd,fun i x ec hx hec=>hf _ _ _ _ _ _ (GW.vw_res k fun n hn=>(hT i n hn).1) (hel i x ec hx hec)⟩
  have h1:=(hp.vw (lo':=lo) hS).mono k
  obtain⟨q1,q2,q3⟩:=h1
  refine⟨q1,?_,q3⟩
  rcases q2 with q2|⟨b',cap',rest,hv,hb,ho⟩
  ·exact .inl q2
  ·exact .inr ⟨b',cap',rest,hv,⟨hb.1,hb.2.1⟩,ho⟩
def PK (g:GW) (lo:Nat) (S:Nat→Prop) (a:Addr) (vs:List Value) (Q:GW→Prop):Prop :=
 ∃ (b j:Nat) (bc:List Value) (ty:TypeId),(a=⟨b,j,none⟩∧lo≤b∧g.g b∧g.w.heap[b]?=some (.cells ⟨bc⟩ ty (0,0))∧j+vs.length≤bc.length)∧S b ∧
  ∀ g',Upd g b (.cells ⟨bc.take j++vs++bc.drop (j+vs.length)⟩ ty (0,0)) g'→Q g'
theorem PK.imp {g:GW} {lo:Nat} {S S':Nat→Prop} {a:Addr} {vs:List Value} {Q Q':GW→Prop} (h:PK g lo S a vs Q) (hS:∀ n,S n→S' n) (k:∀ g',(∀ T:Nat→Prop,(∀ n,S n→¬ T n)→g.vw lo T≤g'.vw lo T)→Q g'→Q' g'):PK g lo S' a vs Q':=by
 obtain⟨b,j,bc,ty,hf,hb,hk⟩:=h
 exact⟨b,j,bc,ty,hf,hS b hb,fun g' u=>k g' (fun T hT=>u.vw hf.2.1 (hT b hb)) (hk g' u)⟩
theorem qPT {α:Type} {ety:TypeId} {sz:Nat} {R:OwT α} {g:GW} {lo:Nat} {S S':Nat→Prop} {v:Value} {l:List α} (hS:∀ n,S n→S' n) (h:oSl ety sz R g lo S v l):oSl ety sz R g lo S' v l:=by
 rcases h with h|⟨b,cap,ecs,T,rfl,hb,hp,hl,hT,hd,hel⟩
 ·exact .inl h
 ·exact .inr ⟨b,cap,ecs,T,rfl,hS b hb,hp,hl,fun i n h=>⟨hS n (hT i n h).1,(hT i n h).2⟩,hd,hel⟩
/- Worlds that the call made: own trees. -/
open Go.RowKit
structure WTy where
 tInt:TypeId
 tEnd:TypeId
 tGr:TypeId
 tVe:TypeId
 tLi:TypeId
 tU:TypeId
 tRo:TypeId
 tRe:TypeId
theorem qNB {α:Type} {r:RP α} (h:∀ g g' cs x,r g cs x→r g' cs x):Fr0 (oLf r):=fun g g' _ _ cs x _ k=>h g g' cs x k
theorem qrF {α:Type} {r:RP α} (h:∀ g g' cs x,r g cs x→r g' cs x):Rd0 (oLf r) r:=fun g _ _ cs x k=>h g _ cs x k
theorem qlB:∀ g g' cs x,rInt g cs x→rInt g' cs x:=fun _ _ _ _ h=>h
theorem qHG:∀ g g' cs x,rU64 g cs x→rU64 g' cs x:=fun _ _ _ _ h=>h
theorem qPB:∀ g g' cs x,qpA g cs x→qpA g' cs x:=fun _ _ _ _ h=>h
theorem q5A:∀ g g' cs x,qUA g cs x→qUA g' cs x:=fun _ _ _ _ h=>h
section
variable (t:WTy) (f:Bool)
def oNx (g:GW) (lo:Nat) (S:Nat→Prop) (v:Value) (l:List Int):Prop:=oSl t.tInt 1 (oLf rInt) g lo S v l∨(f=false∧rSl 1 rInt (g.vw lo NoB) v l)
def oEn:OwT EndC:=fun g lo S cs e=>∃ n,cs=[.int .u64 e.head,n,.int .i64 e.active]∧(InU e.head∧InR e.active∧e.next.length≤17592186044416)∧oNx t f g lo S n e.next
def oGr:OwT Group:=fun g lo S cs x=>∃ n,cs=[.int .u64 x.ticket,n]∧InU x.ticket∧oSl t.tEnd 3 (oEn t f) g lo S n x.ends
def oVe:OwT Version:=fun g lo S cs x=>∃ a b d n,cs=[a,b,d,n,.bool x.freed]∧qnF (g.vw lo NoB) [a,b,d] x.snap∧oSl t.tGr 2 (oGr t f) g lo S n x.groups
def oRo:OwT (List Int):=fun g lo S cs x=>∃ n,cs=[n]∧oSl t.tU 1 (oLf rU64) g lo S n x
def oWo (g:GW) (lo:Nat) (T:Nat→Nat→Prop) (cs:List Value) (w:Wd):Prop:=∃ a b c d e,cs=[.int .i64 w.epoch,.int .i64 w.current,.int .i64 w.lock,a,b,c,d,e]∧(InR w.epoch∧InR w.current∧InR w.lock)∧(∀ i j n,T i n→T j n→i=j) ∧
 oSl t.tInt 1 (oLf rInt) g lo (T 0) a w.pins∧oSl t.tVe 5 (oVe t f) g lo (T 1) b w.versions∧oSl t.tLi 4 (oLf qpA) g lo (T 2) c w.listens∧oSl t.tRo 1 (oRo t) g lo (T 3) d w.counts∧oSl t.tRe 3 (oLf qUA) g lo (T 4) e w.limbo
end
section
variable {t:WTy} {f:Bool}
theorem vwNo {g g':GW} {lo:Nat} {S:Nat→Prop} (k:g.vw lo S≤g'.vw lo S):g.vw lo NoB≤g'.vw lo NoB:=GW.vw_res k fun _ h=>h.elim
theorem qaV {g g':GW} {lo:Nat} {S:Nat→Prop} {v:Value} {l:List Int} (k:g.vw lo S≤g'.vw lo S) (h:oNx t f g lo S v l):oNx t f g' lo S v l :=
 h.imp (qKC (qNB qlB) k) fun ⟨h1,h2⟩=>⟨h1,h2.mono qhA (vwNo k)⟩
theorem q2K:Fr0 (oEn t f):=fun _ _ _ _ _ _ k ⟨n,h1,h2,h3⟩=>⟨n,h1,h2,qaV k h3⟩
theorem q1K:Fr0 (oGr t f):=fun _ _ _ _ _ _ k ⟨n,h1,h2,h3⟩=>⟨n,h1,h2,qKC q2K k h3⟩
theorem q3J:Fr0 (oVe t f):=fun _ _ _ _ _ _ k ⟨a,b,d,n,h1,h2,h3⟩=>⟨a,b,d,n,h1,qkB _ _ _ _ (vwNo k) h2,qKC q1K k h3⟩
theorem q4J:Fr0 (oRo t):=fun _ _ _ _ _ _ k ⟨n,h1,h3⟩=>⟨n,h1,qKC (qNB qHG) k h3⟩
theorem qvT {g:GW} {lo:Nat} {S:Nat→Prop} {v:Value} {l:List Int} (h:oNx t f g lo S v l):rSl 1 rInt (g.vw lo S) v l:=by
 rcases h with h|⟨_,h⟩
 ·exact q3C (qrF qlB) qhA h
 ·exact h.mono qhA (g.vw_mono fun _ h=>h.elim)
theorem qcV:Rd0 (oEn t f) rEn:=fun g lo S cs e ⟨n,h1,h2,h3⟩=>⟨⟨n,h1,h2.1,h2.2.1,qvT h3⟩,h2.2.2⟩
theorem qbV:Rd0 (oGr t f) rGr:=fun g lo S cs x ⟨n,h1,h2,h3⟩=>⟨n,h1,h2,q3C qcV qxC h3⟩
theorem qES:Rd0 (oVe t f) rVe:=fun g lo S cs x ⟨a,b,d,n,h1,h2,h3⟩=>⟨a,b,d,n,h1,qkB _ _ _ _ (g.vw_mono fun _ h=>h.elim) h2,q3C qbV qwC h3⟩
theorem qGS:Rd0 (oRo t) rRow:=fun g lo S cs x ⟨n,h1,h3⟩=>⟨n,h1,q3C (qrF qHG) qqK h3⟩
theorem qCO {g:GW} {lo:Nat} {T:Nat→Nat→Prop} {cs:List Value} {w:Wd} (h:oWo t f g lo T cs w):rWo g cs w:=by
 obtain⟨a,b,c,d,e,h1,h2,_,k0,k1,k2,k3,k4⟩:=h
 exact⟨a,b,c,d,e,h1,h2,(q3C (qrF qlB) qhA k0).mono qhA (g.vw_le _ _),(q3C qES q9B k1).mono q9B (g.vw_le _ _),(q3C (qrF qPB) qjA k2).mono qjA (g.vw_le _ _),(q3C qGS q1A k3).mono q1A (g.vw_le _ _),(q3C (qrF q5A) qvA k4).mono qvA (g.vw_le _ _)⟩
theorem quT {g g':GW} {lo:Nat} {T:Nat→Nat→Prop} {cs:List Value} {w:Wd} (k:g≤g') (h:oWo t f g lo T cs w):oWo t f g' lo T cs w:=by
 obtain⟨a,b,c,d,e,h1,h2,h3,k0,k1,k2,k3,k4⟩:=h
 exact⟨a,b,c,d,e,h1,h2,h3,qKC (qNB qlB) (GW.vw_up k _ _) k0,qKC q3J (GW.vw_up k _ _) k1,qKC (qNB qPB) (GW.vw_up k _ _) k2,qKC q4J (GW.vw_up k _ _) k3,qKC (qNB q5A) (GW.vw_up k _ _) k4⟩
end
/- Own trees: how they are made,element for element. -/
open Go.RowKit
def NEW (g g':GW):Nat→Prop:=fun n=>g'.g n∧¬ g.g n
theorem NEW.up {g g' g2:GW} (h:g'≤g2) {n:Nat} (k:NEW g g' n):NEW g g2 n:=⟨(h.2 n k.1).1,k.2⟩
theorem NEW.dn {g0 g g':GW} (h:g0≤g) {n:Nat} (k:NEW g g' n):NEW g0 g' n:=⟨k.1,fun q=>k.2 (h.2 n q).1⟩
def oEls {α:Type} (sz:Nat) (R:OwT α) (g0 g:GW) (lo:Nat) (ecs:List (List Value)) (l:List α):Prop :=
 ∃ T:Nat→Nat→Prop,(ecs.length=l.length∧∀ e∈ecs,e.length=sz)∧(∀ i n,T i n→NEW g0 g n)∧(∀ i j n,T i n→T j n→i=j)∧∀ (i:Nat) x ec,l[i]?=some x→ecs[i]?=some ec→R g lo (T i) ec x
theorem qmD {α:Type} {sz:Nat} {R:OwT α} (g0 g:GW) (lo:Nat):oEls sz R g0 g lo [] [] :=
 ⟨fun _ _=>False,⟨rfl,fun _ h=>by cases h⟩,fun _ _ h=>h.elim,fun _ _ _ h=>h.elim,fun i x ec h=>by simp at h⟩
theorem q4C {α:Type} {sz:Nat} {R:OwT α} (hf:Fr0 R) {g0 g g':GW} {lo:Nat} {ecs:List (List Value)} {l:List α} (h0:g0≤g) (k:g≤g') (h:oEls sz R g0 g lo ecs l) {ec:List Value} {x:α} (hec:ec.length=sz) (hR:R g' lo (NEW g g') ec x):oEls sz R g0 g' lo (ecs++[ec]) (l++[x]):=by
 obtain⟨T,⟨hl,hsz⟩,hT,hd,hel⟩:=h
 refine⟨fun i n=>if i=l.length then NEW g g' n else i<l.length∧T i n,⟨by simp [hl],fun e he=>?_⟩,fun i n q=>?_,fun i j n p q=>?_,fun i y e hy he=>?_⟩
 ·rcases List.mem_append.1 he with he|he
  ·exact hsz e he
  ·simp at he;subst he;exact hec
 ·simp only at q
  split at q
  ·exact q.dn h0
  ·exact(hT i n q.2).up k
 ·simp only at p q
  split at p<;>split at q
  ·rename_i h1 h2;omega
  ·exact absurd (hT j n q.2).1 p.2
  ·exact absurd (hT i n p.2).1 q.2
  ·exact hd _ _ _ p.2 q.2
 ·rcases Nat.lt_or_ge i l.length with hi|hi
  ·rw [List.getElem?_append_left hi] at hy
   rw [List.getElem?_append_left (by omega)] at he
   have:=hf _ g' _ _ _ _ (GW.vw_up k _ _) (hel i y e hy he)
   show R g' lo (fun n=>if i=l.length then NEW g g' n else i<l.length∧T i n) e y
   rw [show(fun n=>if i=l.length then NEW g g' n else i<l.length∧T i n)=T i from by funext n;rw [if_neg (by omega)];simp [hi]]
   exact this
  ·have hi2:i=l.length:=by have:=(List.getElem?_eq_some_iff.1 hy).1;simp at this;omega
   subst hi2
   simp at hy
   rw [← hl] at he
   simp at he
   subst hy;subst he
   show R g' lo (fun n=>if l.length=l.length then NEW g g' n else l.length<l.length∧T l.length n) ec x
   rw [show(fun n=>if l.length=l.length then NEW g g' n else l.length<l.length∧T l.length n)=NEW g g' from by funext n;rw [if_pos rfl]]
   exact hR
theorem qDD {α:Type} {ety:TypeId} {sz:Nat} {R:OwT α} (hf:Fr0 R) {g0 g g':GW} {lo:Nat} {ecs:List (List Value)} {l:List α} {oa:Option Addr} {n cap:Nat} (h:oEls sz R g0 g lo ecs l) (h0:g0≤g) (k:g≤g') (hp:PbSl g' lo ety sz (.slice oa n cap) n ecs.flatten) (hn:n=l.length) (hnew:∀ a,oa=some a→¬ g.g a.block):oSl ety sz R g' lo (NEW g0 g') (.slice oa n cap) l:=by
 subst hn
 obtain⟨T,hl,hT,hd,hel⟩:=h
 have hp0:=hp
 obtain⟨h1,h2,h3⟩:=hp
 rcases h2 with ⟨hv,hz⟩|⟨b,cap',rest,hv,hb,_⟩
 ·exact .inl ⟨List.length_eq_zero_iff.1 hz,none,hv⟩
 ·simp only [Value.slice.injEq,true_and] at hv
  obtain⟨rfl,rfl⟩:=hv
  have hbn:=hnew _ rfl
  exact .inr ⟨b,cap,ecs,T,rfl,⟨hb.2,fun q=>hbn (h0.2 b q).1⟩,hp0,hl,fun i n q=>⟨(hT i n q).up k,fun e=>hbn (e▸(hT i n q).1)⟩,hd,fun i x ec hx hec=>hf _ _ _ _ _ _ (GW.vw_up k _ _) (hel i x ec hx hec)⟩
theorem qXC {α:Type} {sz:Nat} {r:RP α} (g0 g:GW) (lo:Nat) (f:α→List Value) (l:List α) (hf:∀ x∈l,(f x).length=sz∧r g (f x) x):oEls sz (oLf r) g0 g lo (l.map f) l:=by
 refine⟨fun _ _=>False,⟨by simp,fun e he=>?_⟩,fun _ _ h=>h.elim,fun _ _ _ h=>h.elim,fun i x ec hx hec=>?_⟩
 ·obtain⟨x,hx,rfl⟩:=List.mem_map.1 he;exact(hf x hx).1
 ·rw [List.getElem?_map,hx] at hec
  simp at hec;subst hec
  exact(hf x (List.mem_of_getElem? hx)).2
theorem PbSl.lo_le {g:GW} {lo lo':Nat} {ety:TypeId} {size:Nat} {v:Value} {n:Nat} {cs:List Value} (h:PbSl g lo ety size v n cs) (k:lo'≤lo):PbSl g lo' ety size v n cs:=by
 obtain⟨h1,h2,h3⟩:=h
 refine⟨h1,h2.imp id fun ⟨b,cap,rest,hv,hb,ho⟩=>⟨b,cap,rest,hv,⟨Nat.le_trans k hb.1,hb.2⟩,ho⟩,h3⟩
theorem q4E {α:Type} {ety:TypeId} {sz:Nat} {R:OwT α} (hf:Fr0 R) {g g' g2:GW} {lo:Nat} {v:Value} {l:List α} (k:g'≤g2) (h:oSl ety sz R g' lo (NEW g g') v l):oSl ety sz R g2 lo (NEW g g2) v l :=
 qPT (fun _ q=>q.up k) (qKC hf (GW.vw_up k _ _) h)
theorem qCD {α:Type} {ety:TypeId} {sz:Nat} {R:OwT α} {g:GW} {lo:Nat} {S:Nat→Prop} {v:Value} {l:List α} (h:oSl ety sz R g lo S v l):∃ oa cap,v=.slice oa l.length cap:=by
 rcases h with ⟨rfl,oa,rfl⟩|⟨b,cap,_,_,rfl,_⟩
 ·exact⟨oa,0,rfl⟩
 ·exact⟨_,cap,rfl⟩
def rowK (ecs:List (List Value)) (z:List Value) (m:Nat):List Value:=ecs.flatten++(List.replicate m z).flatten
theorem qFG {sz:Nat} {ecs:List (List Value)} {z:List Value} {m:Nat} (h:∀ e∈ecs,e.length=sz) (hz:z.length=sz):(rowK ecs z m).length=(ecs.length+m)*sz:=by
 unfold rowK
 rw [List.length_append,qZD h,qZD (sz:=sz) (fun e he=>by rw [List.eq_of_mem_replicate he];exact hz),List.length_replicate,Nat.add_mul]
theorem qEG {sz:Nat} {ecs:List (List Value)} {z:List Value} {m:Nat} (h:∀ e∈ecs,e.length=sz) (hz:z.length=sz) (hm:0<m) {ec:List Value} (hec:ec.length=sz) {k:Nat} (hk:k=ecs.length) :
  (rowK ecs z m).take (k*sz)++ec++(rowK ecs z m).drop (k*sz+sz)=rowK (ecs++[ec]) z (m-1):=by
 subst hk
 obtain⟨m,rfl⟩:∃ m',m=m'+1:=⟨m-1,by omega⟩
 have hf:=qZD h
 unfold rowK
 rw [List.replicate_succ,List.flatten_cons,← List.append_assoc,List.append_assoc ecs.flatten]
 rw [List.take_left' hf,← List.append_assoc ecs.flatten z,List.drop_left' (by simp [hf,hz])]
 simp
theorem qlF {ecs:List (List Value)} {z:List Value}:rowK ecs z 0=ecs.flatten:=by simp [rowK]
theorem qeI {α:Type} {ety:TypeId} {sz:Nat} {R:OwT α} (hf:Fr0 R) {g0 g g':GW} {lo:Nat} {ecs:List (List Value)} {l:List α} {oa:Option Addr} {n cap:Nat} (h:oEls sz R g0 g lo ecs l) (k:g≤g') (hp:PbSl g' lo ety sz (.slice oa n cap) n ecs.flatten) (hn:n=l.length) (hnew:∀ a,oa=some a→¬ g.g a.block) {S:Nat→Prop} (hS1:∀ n,NEW g0 g n→S n) (hS2:∀ a,oa=some a→S a.block):oSl ety sz R g' lo S (.slice oa n cap) l:=by
 subst hn
 obtain⟨T,hl,hT,hd,hel⟩:=h
 have hp0:=hp
 obtain⟨h1,h2,h3⟩:=hp
 rcases h2 with ⟨hv,hz⟩|⟨b,cap',rest,hv,hb,_⟩
 ·exact .inl ⟨List.length_eq_zero_iff.1 hz,none,hv⟩
 ·simp only [Value.slice.injEq,true_and] at hv
  obtain⟨rfl,rfl⟩:=hv
  have hbn:=hnew _ rfl
  exact .inr ⟨b,cap,ecs,T,rfl,hS2 _ rfl,hp0,hl,fun i n q=>⟨hS1 n (hT i n q),fun e=>hbn (e▸(hT i n q).1)⟩,hd,fun i x ec hx hec=>hf _ _ _ _ _ _ (GW.vw_up k _ _) (hel i x ec hx hec)⟩
theorem PbSl.new {g g':GW} {lo:Nat} {ety:TypeId} {size:Nat} {oa:Option Addr} {n cap:Nat} {cs:List Value} (hp:PbSl g' lo ety size (.slice oa n cap) n cs) (hnew:∀ a,oa=some a→¬ g.g a.block):∀ a,oa=some a→NEW g g' a.block:=fun a ha=>by
 subst ha
 obtain⟨h1,h2,h3⟩:=hp
 rcases h2 with ⟨hv,_⟩|⟨b,cap',rest,hv,hb,_⟩
 ·cases hv
 ·simp only [Value.slice.injEq,Option.some.injEq,true_and] at hv
  obtain⟨rfl,_⟩:=hv
  exact⟨hb.2,hnew _ rfl⟩
def Ch (G:Nat→GW) (lab:Nat→Nat) (m:Nat):Nat→Nat→Prop:=fun i n=>∃ a,a<m∧lab a=i∧NEW (G a) (G (a+1)) n
theorem q3U {G:Nat→GW} {lab:Nat→Nat} {m:Nat} (h:∀ a,a<m→G a≤G (a+1)) (i j n:Nat) (p:Ch G lab m i n) (q:Ch G lab m j n):i=j:=by
 obtain⟨a,ha,rfl,p1⟩:=p
 obtain⟨b,hb,rfl,q1⟩:=q
 have le:∀ d a,a+d≤m→G a≤G (a+d):=by
  intro d
  induction d with
  | zero=>intro a _;exact GW.refl _
  | succ d ih=>intro a hd;exact GW.trans (ih a (by omega)) (h (a+d) (by omega))
 have key:∀ a b,a<b→b<m→NEW (G a) (G (a+1)) n→NEW (G b) (G (b+1)) n→False:=fun a b hab hb p q=>by
  have:=le (b-(a+1)) (a+1) (by omega)
  rw [show a+1+(b-(a+1))=b by omega] at this
  exact q.2 (this.2 n p.1).1
 rcases Nat.lt_trichotomy a b with h1|h1|h1
 ·exact(key a b h1 hb p1 q1).elim
 ·rw [h1]
 ·exact(key b a h1 ha q1 p1).elim
def rEls {α:Type} (sz:Nat) (R:RP α) (g:GW) (ecs:List (List Value)) (l:List α):Prop:=(ecs.length=l.length∧∀ e∈ecs,e.length=sz)∧∀ (i:Nat) x ec,l[i]?=some x→ecs[i]?=some ec→R g ec x
theorem qiE {α:Type} {sz:Nat} {R:RP α} (g:GW):rEls sz R g [] []:=⟨⟨rfl,fun _ h=>by cases h⟩,fun i x ec h=>by simp at h⟩
theorem qBD {α:Type} {sz:Nat} {R:RP α} (hm:Mono R) {g g':GW} {ecs:List (List Value)} {l:List α} (k:g≤g') (h:rEls sz R g ecs l):rEls sz R g' ecs l:=⟨h.1,fun i x ec hx hec=>hm _ _ _ _ k (h.2 i x ec hx hec)⟩
theorem qQD {α:Type} {sz:Nat} {R:RP α} {g:GW} {ecs:List (List Value)} {l:List α} (h:rEls sz R g ecs l) {ec:List Value} {x:α} (hec:ec.length=sz) (hR:R g ec x):rEls sz R g (ecs++[ec]) (l++[x]):=by
 obtain⟨⟨hl,hsz⟩,hel⟩:=h
 refine⟨⟨by simp [hl],fun e he=>?_⟩,fun i y e hy he=>?_⟩
 ·rcases List.mem_append.1 he with he|he
  ·exact hsz e he
  ·simp at he;subst he;exact hec
 ·rcases Nat.lt_or_ge i l.length with hi|hi
  ·rw [List.getElem?_append_left hi] at hy
   rw [List.getElem?_append_left (by omega)] at he
   exact hel i y e hy he
  ·have hi2:i=l.length:=by have:=(List.getElem?_eq_some_iff.1 hy).1;simp at this;omega
   subst hi2
   simp at hy
   rw [← hl] at he
   simp at he
   subst hy;subst he
   exact hR
theorem qfH {α:Type} {ety:TypeId} {sz lo:Nat} {R:RP α} {g:GW} {v:Value} {n:Nat} {ecs:List (List Value)} {l:List α} (h:rEls sz R g ecs l) (hp:PbSl g lo ety sz v n ecs.flatten) (hn:l.length=n):rSl sz R g v l :=
 qzJ hp.rd l ecs rfl h.1.2 hn h.1.1 fun i x ec hx hec=>h.2 i x ec hx hec
def BgG (K:Nat) (x:Group):Prop:=x.ends.length≤K
def BgV (K:Nat) (x:Version):Prop:=x.groups.length≤K∧∀ y∈x.groups,BgG K y
def BgW (K:Nat) (w:Wd):Prop:=(w.pins.length≤K∧w.versions.length≤K∧w.listens.length≤K∧w.counts.length≤K∧w.limbo.length≤K)∧(∀ r∈w.counts,r.length≤K)∧∀ v∈w.versions,BgV K v
/- qXB laws of machines: which ones suit a world. -/
def qGA (s:Snap):Version:=⟨s,s.clusters.map fun c=>⟨0,c.health.map fun _=>q6A c.slots.toNat⟩,false⟩
def qAD (n:Nat):List (List Int):=(List.range n).map fun _=>[0,0,0,0,0,0]
def lisL (l:List BA):List Listen:=l.map fun n=>⟨n,false,0,false⟩
def newW (s:Snap) (l:List BA) (t:Nat):Wd:=⟨0,0,0,List.replicate t 0,[qGA s],lisL l,qAD t,[]⟩
def namF (l:List BA) (i:Nat) (n:BA):Bool:=qxB (bs n)&&decide (qMB (lisL (l.take i)) n<0)
def qrO (s:Snap) (l:List BA) (t:Int):Prop:=qHA (qIC s)=none∧(1≤t∧t≤8)∧allI (namF l) l=true
theorem qRO {l:List BA} {k:Nat} {n:BA} (h:l[k]?=some n):lisL (l.take (k+1))=lisL (l.take k)++[⟨n,false,0,false⟩]:=by
 obtain⟨h1,h2⟩:=List.getElem?_eq_some_iff.1 h
 unfold lisL
 rw [List.take_succ_eq_append_getElem h1,h2,List.map_append];rfl
def inB (i n:Int):Bool:=decide (0≤i)&&decide (i<n)
theorem inB_iff {i n:Int}:inB i n=true↔0≤i∧i<n:=by simp [inB]
structure SuitP (w:Wd) (m:Mach) (v:Version) (gr:Group) (en:EndC):Prop where
 right:wdB w=true
 thread:0≤m.thread∧m.thread<w.pins.length
 done:m.done=false
 ver:0≤m.version∧w.versions[m.version.toNat]?=some v
 clu:0≤m.cluster∧v.groups[m.cluster.toNat]?=some gr
 end_:0≤m.end_∧gr.ends[m.end_.toNat]? = some en
 other:0≤m.other∧m.other<gr.ends.length
 slot:0≤m.slot∧m.slot<en.next.length
 listen:-1≤m.listen∧m.listen<w.listens.length
 i:0≤m.i
 k:0≤m.k
def Suit (w:Wd) (m:Mach):Prop:=∃ v gr en,SuitP w m v gr en
noncomputable def qfB (w:Wd) (m:Mach):Bool:=@decide (Suit w m) (Classical.propDecidable _)
theorem suitB_iff {w:Wd} {m:Mach}:qfB w m=true↔Suit w m:=@decide_eq_true_iff _ (Classical.propDecidable _)
theorem qzA {w:Wd} {m:Mach} (h:¬ Suit w m):qfB w m=false:=by rw [Bool.eq_false_iff];exact fun k=>h (suitB_iff.1 k)
noncomputable def offW (w:Wd) (m:Mach):Wd:=if qfB w m then {w with pins:=w.pins.set m.thread.toNat 0} else w
noncomputable def offE (w:Wd) (m:Mach):Ev:=if qfB w m then ⟨m.thread,0,2,2,-1,false,0,false,false,false,ans0⟩ else ev0
noncomputable def pinW (w:Wd) (m:Mach):Wd:=if qfB w m=true∧m.pc=1 then {w with pins:=w.pins.set m.thread.toNat (IntKind.i64.wrap (m.epoch+1))} else w
noncomputable def pinM (w:Wd) (m:Mach):Mach:=if qfB w m=true then (if m.pc=0 then {m with epoch:=w.epoch,pc:=1} else if m.pc=1 then {m with pc:=2} else if m.pc=2 then {m with pc:=if w.epoch=m.epoch then 3 else 1,epoch:=w.epoch} else m) else m
noncomputable def pinE (w:Wd) (m:Mach):Ev:=if qfB w m=true then (if m.pc=1 then ⟨m.thread,0,2,2,-1,false,IntKind.i64.wrap (m.epoch+1),false,false,false,ans0⟩ else if m.pc=0∨m.pc=2 then ⟨m.thread,0,1,1,-1,false,w.epoch,false,false,false,ans0⟩ else ev0) else ev0
/- qXB laws of worlds: a new one is right;what keeps a world right. -/
theorem q5Q {n:Nat} (h:1≤n∧n≤4):endB (q6A n)=true:=by
 obtain⟨h1,h2⟩:=h
 match n,h1,h2 with
 | 1,_,_=>decide
 | 2,_,_=>decide
 | 3,_,_=>decide
 | 4,_,_=>decide
theorem qRS (n:Nat):(q6A n).next.length=n:=by simp [q6A]
theorem qRL {s:Snap} (h:qHA (qIC s)=none):q4A (qGA s)=true:=by
 have hg:=good_iff.1 h
 unfold q4A
 simp only [Bool.and_eq_true,decide_eq_true_eq]
 refine⟨⟨qOK h,by simp [qGA]⟩,?_⟩
 rw [allI_iff]
 intro i x hx
 simp only [qGA,List.getElem?_map,Option.map_eq_some_iff] at hx
 obtain⟨c,hc,rfl⟩:=hx
 have hm:c∈(qIC s).clusters:=List.mem_of_getElem? hc
 obtain⟨_,_,hsl,_⟩:=hg.cl c hm
 unfold qME
 rw [show(qGA s).snap.clusters[i]?=some c from hc]
 simp only [Bool.and_eq_true,decide_eq_true_eq,List.length_map,List.all_eq_true,List.mem_map,true_and]
 rintro e ⟨_,_,rfl⟩
 unfold q1I
 rw [q5Q (by omega),qRS]
 simp;omega
theorem qVP {s:Snap} {l:List BA} {t:Nat} (h:1≤t∧t≤8):qCB (newW s l t)=true:=by
 unfold qCB qED
 simp only [newW,qAD,List.length_replicate,List.length_map,List.length_range,Bool.and_eq_true,decide_eq_true_eq,List.all_eq_true,List.mem_map,List.mem_replicate]
 refine⟨⟨⟨⟨⟨⟨⟨h.1,h.2⟩,trivial⟩,⟨⟨?_,h.1⟩,h.2⟩⟩,rfl⟩,rfl⟩,.inl trivial⟩,?_⟩
 ·rintro r ⟨_,_,rfl⟩;rfl
 ·rintro p ⟨_,rfl⟩;exact⟨by first|rfl|exact Int.le_refl 0,by first|rfl|exact(by decide:(0:Int)≤0+1)⟩
theorem qUP {l:List BA} (h:allI (namF l) l=true):allI (q2A (lisL l)) (lisL l)=true:=by
 rw [allI_iff] at h ⊢
 intro i x hx
 simp only [lisL,List.getElem?_map,Option.map_eq_some_iff] at hx
 obtain⟨n,hn,rfl⟩:=hx
 have h1:=h i n hn
 simp only [namF,Bool.and_eq_true,decide_eq_true_eq] at h1
 obtain⟨h1,h2⟩:=h1
 unfold q2A qoL
 simp only [Bool.and_eq_true,decide_eq_true_eq,h1]
 refine⟨⟨⟨trivial,by omega⟩,by simp⟩,?_⟩
 have hnone:idxO (fun (x:Listen)=>bs x.name==bs n) (lisL (l.take i))=none:=by
  unfold qMB at h2
  cases hh:idxO (fun (x:Listen)=>bs x.name==bs n) (lisL (l.take i)) with
  | none=>rfl
  | some j=>rw [hh] at h2;simp only [idxI] at h2;omega
 have hany:=idxO_none.1 hnone
 unfold qMB
 refine qzC (x:=⟨n,false,0,false⟩) (i:=i) ?_ (by simp [lisL,hn]) (by simp)
 intro j hj y hy
 unfold idxF
 have:(bs y.name==bs n)=false:=by
  rw [List.any_eq_false] at hany
  have hm:y∈lisL (l.take i):=by
   simp only [lisL,List.getElem?_map,Option.map_eq_some_iff] at hy
   obtain⟨m,hm,rfl⟩:=hy
   refine List.mem_map.2 ⟨m,?_,rfl⟩
   refine List.mem_of_getElem? (i:=j) ?_
   rw [List.getElem?_take,if_pos hj];exact hm
  simpa using hany y hm
 show(if (bs y.name==bs n)=true then some j else none)=none
 rw [this];rfl
theorem qvQ {s:Snap} {l:List BA} {t:Int} (h:qrO s l t):wdB (newW s l t.toNat)=true:=by
 obtain⟨h1,h2,h3⟩:=h
 unfold wdB
 rw [qVP (s:=s) (l:=l) (t:=t.toNat) (by omega)]
 have hv:allI (verB (newW s l t.toNat)) (newW s l t.toNat).versions=true:=by
  rw [allI_iff]
  intro i x hx
  have:i=0∧x=qGA s:=by
   simp only [newW] at hx
   match i,hx with
   | 0,hx=>simp at hx;exact⟨rfl,hx.symm⟩
   | i+1,hx=>simp at hx
  obtain⟨rfl,rfl⟩:=this
  unfold verB
  rw [qRL h1];rfl
 have hl:allI (q2A (newW s l t.toNat).listens) (newW s l t.toNat).listens=true:=qUP h3
 rw [hv,hl]
 simp only [newW,Bool.true_and,Bool.and_true,Bool.and_eq_true,decide_eq_true_eq]
 refine⟨⟨⟨rfl,by simp⟩,rfl⟩,rfl⟩
theorem q9I {w w':Wd} (h:wdB w=true) (hg:qCB w'=true) (e1:w'.current=w.current) (e2:w'.versions=w.versions) (e3:w'.limbo=w.limbo) (e4:w'.listens=w.listens) (e5:w.epoch≤w'.epoch):wdB w'=true:=by
 unfold wdB at h ⊢
 simp only [Bool.and_eq_true,decide_eq_true_eq] at h ⊢
 obtain⟨⟨⟨⟨⟨⟨h1,h2⟩,h3⟩,h4⟩,h5⟩,h6⟩,h7⟩:=h
 rw [e1,e2,e3,e4]
 refine⟨⟨⟨⟨⟨⟨hg,h2⟩,h3⟩,h4⟩,?_⟩,?_⟩,h7⟩
 ·rw [List.all_eq_true] at h5 ⊢
  intro r hr
  have:=h5 r hr
  unfold limB at this ⊢
  simp only [Bool.and_eq_true,decide_eq_true_eq] at this ⊢
  rw [e1,e2]
  exact⟨this.1,by omega⟩
 ·rw [allI_iff] at h6 ⊢
  intro i x hx
  have:=h6 i x hx
  unfold verB at this ⊢
  rw [e3];exact this
theorem qiC {w:Wd} (h:wdB w=true):qCB w=true:=by
 unfold wdB at h
 simp only [Bool.and_eq_true] at h
 exact h.1.1.1.1.1.1
theorem qQR {w:Wd} (h:wdB w=true) {i:Nat} {x:Int} (hx:0≤x∧x≤w.epoch+1):wdB {w with pins:=w.pins.set i x}=true:=by
 refine q9I h ?_ rfl rfl rfl rfl (Int.le_refl _)
 have hg:=qiC h
 unfold qCB at hg ⊢
 simp only [Bool.and_eq_true,List.length_set,List.all_eq_true,decide_eq_true_eq] at hg ⊢
 refine⟨hg.1,fun p hp=>?_⟩
 rcases List.mem_or_eq_of_mem_set hp with hp|rfl
 ·exact hg.2 p hp
 ·exact hx
theorem qSR {w:Wd} (h:wdB w=true) (he:w.epoch<1000000000000):wdB {w with epoch:=w.epoch+1}=true:=by
 refine q9I h ?_ rfl rfl rfl rfl (by show w.epoch≤w.epoch+1;omega)
 have hg:=qiC h
 unfold qCB at hg ⊢
 simp only [Bool.and_eq_true,List.all_eq_true,decide_eq_true_eq] at hg ⊢
 obtain⟨⟨⟨⟨h1,h2⟩,h3⟩,h4⟩,h5⟩:=hg
 exact⟨⟨⟨⟨h1,by omega⟩,by omega⟩,h4⟩,fun p hp=>by have:=h5 p hp;omega⟩
/- The laws' own examples of worlds. -/
open Go.RowKit
abbrev sInW:BA:=⟨#[105,110]⟩
def qbH (n:Int) (h:List Bool):Snap:=⟨[sInW],[⟨0,⟨#[42]⟩,⟨#[47]⟩,0⟩],[⟨⟨#[97]⟩,1,n,h⟩]⟩
def wP (e:Int) (p:List Int):Wd:={newW (qbH 2 [true,false]) [sInW] 2 with epoch:=e,pins:=p}
def op0:OpD:=⟨0,⟨#[]⟩,⟨#[]⟩,⟨#[]⟩,0,0,0,⟨[],[],[]⟩⟩
def mP (pc ep:Int):Mach:=⟨op0,1,pc,ep,0,0,0,0,0,0,0,0,0,0,0,false,ans0,c60⟩
theorem qRJ {w:Wd} {m:Mach} (hs:qfB w m=true):(m.pc=0∨m.pc=2→pinE w m=⟨m.thread,0,1,1,-1,false,w.epoch,false,false,false,ans0⟩)∧(m.pc=1→pinE w m=⟨m.thread,0,2,2,-1,false,IntKind.i64.wrap (m.epoch+1),false,false,false,ans0⟩)∧(m.pc=3→pinE w m=ev0):=by
 unfold pinE
 rw [if_pos hs]
 refine⟨fun h=>?_,fun h=>?_,fun h=>?_⟩
 ·rw [if_neg (by omega),if_pos h]
 ·rw [if_pos h]
 ·rw [if_neg (by omega),if_neg (by omega)]
theorem qCP {w:Wd} {m:Mach} (hs:qfB w m=true):(m.pc≠1→pinW w m=w)∧(m.pc=1→pinW w m={w with pins:=w.pins.set m.thread.toNat (IntKind.i64.wrap (m.epoch+1))}):=by
 unfold pinW
 exact⟨fun h=>by rw [if_neg fun k=>h k.2],fun h=>by rw [if_pos ⟨hs,h⟩]⟩
theorem qQJ {w:Wd} {m:Mach} (hs:qfB w m=true):(m.pc=0→pinM w m={m with epoch:=w.epoch,pc:=1})∧(m.pc=1→pinM w m={m with pc:=2})∧(m.pc=2→pinM w m={m with pc:=if w.epoch=m.epoch then 3 else 1,epoch:=w.epoch})∧(m.pc=3→pinM w m=m):=by
 unfold pinM
 rw [if_pos hs]
 refine⟨fun h=>?_,fun h=>?_,fun h=>?_,fun h=>?_⟩
 ·rw [if_pos h]
 ·rw [if_neg (by omega),if_pos h]
 ·rw [if_neg (by omega),if_neg (by omega),if_pos h]
 ·rw [if_neg (by omega),if_neg (by omega),if_neg (by omega)]
theorem qoA {g:GW} {cs:List Value} {w:Wd} (h:rWo g cs w):∃ oa ca ob cb oc cc od cd oe ce,cs=[.int .i64 w.epoch,.int .i64 w.current,.int .i64 w.lock,.slice oa w.pins.length ca,.slice ob w.versions.length cb,.slice oc w.listens.length cc,.slice od w.counts.length cd,.slice oe w.limbo.length ce]:=by
 obtain⟨a,b,c,d,e,rfl,_,⟨oa,ca,rfl,_⟩,⟨ob,cb,rfl,_⟩,⟨oc,cc,rfl,_⟩,⟨od,cd,rfl,_⟩,⟨oe,ce,rfl,_⟩⟩:=h
 exact⟨oa,ca,ob,cb,oc,cc,od,cd,oe,ce,rfl⟩
theorem qrA {g:GW} {cs:List Value} {m:Mach} (h:qiD g cs m):∃ o1 t1 o2 t2 o3 t3,cs=m.cs (.slice o1 m.op.config.listens.length t1) (.slice o2 m.op.config.routes.length t2) (.slice o3 m.op.config.clusters.length t3):=by
 obtain⟨ma,mb,md,rfl,_,_,⟨_,_,_,he,⟨o1,t1,rfl,_⟩,⟨o2,t2,rfl,_⟩,⟨o3,t3,rfl,_⟩⟩⟩:=h
 cases he
 exact⟨o1,t1,o2,t2,o3,t3,rfl⟩
theorem qkO:c60.ok:=⟨by decide,by decide,by decide,by decide,by decide,by decide⟩
theorem qpS:ans0.ok:=⟨by decide,by decide,by decide,by decide,by decide,by decide,by decide,qkO⟩
theorem qAP (g:GW):qcA g [.slice none 0 0,.slice none 0 0,.slice none 0 0] ⟨[],[],[]⟩ :=
 ⟨_,_,_,rfl,⟨none,0,rfl,Nat.le_refl _,Nat.zero_le _,fun _=>⟨rfl,rfl⟩,fun i x hx=>by simp at hx⟩,⟨none,0,rfl,Nat.le_refl _,Nat.zero_le _,fun _=>⟨rfl,rfl⟩,fun i x hx=>by simp at hx⟩,⟨none,0,rfl,Nat.le_refl _,Nat.zero_le _,fun _=>⟨rfl,rfl⟩,fun i x hx=>by simp at hx⟩⟩
theorem z0:InR 0:=by decide
theorem z1:InR 1:=by decide
theorem zu:InU 0:=by decide
/- qXB laws of pinning: whole ways. -/
theorem SuitP.keep {w w':Wd} {m m':Mach} {v:Version} {gr:Group} {en:EndC} (h:SuitP w m v gr en) (hr:wdB w'=true) (e1:w'.pins.length=w.pins.length) (e2:w'.versions=w.versions) (e3:w'.listens=w.listens)
  (k1:m'.thread=m.thread) (k2:m'.done=m.done) (k3:m'.version=m.version) (k4:m'.cluster=m.cluster) (k5:m'.end_=m.end_) (k6:m'.other=m.other) (k7:m'.slot=m.slot) (k8:m'.listen=m.listen) (k9:m'.i=m.i) (k10:m'.k=m.k):SuitP w' m' v gr en :=
 ⟨hr,by rw [k1,e1];exact h.thread,by rw [k2];exact h.done,by rw [k3,e2];exact h.ver,by rw [k4];exact h.clu,by rw [k5];exact h.end_,by rw [k6];exact h.other,by rw [k7];exact h.slot,by rw [k8,e3];exact h.listen,by rw [k9];exact h.i,by rw [k10];exact h.k⟩
theorem q7J {w:Wd} (h:wdB w=true):0≤w.epoch∧w.epoch≤1000000000000:=by
 have hg:=qiC h
 unfold qCB at hg
 simp only [Bool.and_eq_true,decide_eq_true_eq] at hg
 obtain⟨⟨⟨⟨h1,h2⟩,h3⟩,h4⟩,h5⟩:=hg
 omega
structure PinInv (w:Wd) (m:Mach):Prop where
 suit:qfB w m=true
 pc:m.pc=0∨m.pc=1∨m.pc=2
 ep:m.pc≠0→0≤m.epoch∧m.epoch≤w.epoch
 at_:m.pc=2→w.pins[m.thread.toNat]?=some (m.epoch+1)
theorem wrE {x:Int} (h:0≤x∧x≤1000000000000):IntKind.i64.wrap (x+1)=x+1:=wr (by unfold InR;omega)
theorem PinInv.step {w:Wd} {m:Mach} (h:PinInv w m):wdB (pinW w m)=true∧(pinW w m).epoch=w.epoch∧(pinM w m).thread=m.thread∧(pinE w m).access≠0∧(pinW w m).pins.length=w.pins.length∧(pinW w m).versions=w.versions∧(pinW w m).listens=w.listens∧(pinW w m).counts=w.counts∧(pinW w m).limbo=w.limbo ∧
  (PinInv (pinW w m) (pinM w m)∨((pinM w m).pc=3∧(pinM w m).epoch=w.epoch∧(pinW w m).pins[m.thread.toNat]?=some (w.epoch+1))):=by
 obtain⟨v,gr,en,hS⟩:=suitB_iff.1 h.suit
 have hr:=hS.right
 obtain⟨he0,he1⟩:=q7J hr
 rcases h.pc with h0|h0|h0
 ·rw [(qCP h.suit).1 (by omega),(qQJ h.suit).1 h0,(qRJ h.suit).1 (.inl h0)]
  refine⟨hr,rfl,rfl,(by decide:(1:Int)≠0),rfl,rfl,rfl,rfl,rfl,.inl ⟨?_,.inr (.inl rfl),fun _=>⟨he0,Int.le_refl _⟩,fun h=>absurd h (by decide:¬ (1:Int)=2)⟩⟩
  exact suitB_iff.2 ⟨v,gr,en,hS.keep hr rfl rfl rfl rfl rfl rfl rfl rfl rfl rfl rfl rfl rfl⟩
 ·obtain⟨k1,k2⟩:=h.ep (by omega)
  rw [(qCP h.suit).2 h0,(qQJ h.suit).2.1 h0,(qRJ h.suit).2.1 h0,wrE ⟨k1,by omega⟩]
  have hr':=qQR hr (i:=m.thread.toNat) (x:=m.epoch+1) (by omega)
  refine⟨hr',rfl,rfl,(by decide:(2:Int)≠0),by simp,rfl,rfl,rfl,rfl,.inl ⟨?_,.inr (.inr rfl),fun _=>⟨k1,k2⟩,fun _=>?_⟩⟩
  ·exact suitB_iff.2 ⟨v,gr,en,hS.keep hr' (by simp) rfl rfl rfl rfl rfl rfl rfl rfl rfl rfl rfl rfl⟩
  ·have:=hS.thread
   show(w.pins.set m.thread.toNat (m.epoch+1))[m.thread.toNat]?=some (m.epoch+1)
   rw [List.getElem?_set_self (by omega)]
 ·obtain⟨k1,k2⟩:=h.ep (by omega)
  rw [(qCP h.suit).1 (by omega),(qQJ h.suit).2.2.1 h0,(qRJ h.suit).1 (.inr h0)]
  refine⟨hr,rfl,rfl,(by decide:(1:Int)≠0),rfl,rfl,rfl,rfl,rfl,?_⟩
  by_cases he:w.epoch=m.epoch
  ·rw [if_pos he]
   exact .inr ⟨rfl,rfl,by rw [h.at_ h0,he]⟩
  ·rw [if_neg he]
   exact .inl ⟨suitB_iff.2 ⟨v,gr,en,hS.keep hr rfl rfl rfl rfl rfl rfl rfl rfl rfl rfl rfl rfl rfl⟩,.inr (.inl rfl),fun _=>⟨he0,Int.le_refl _⟩,fun h=>absurd h (by decide:¬ (1:Int)=2)⟩
theorem PinInv.on {w:Wd} {m:Mach} (h:PinInv w m) (he:w.epoch<1000000000000):PinInv {w with epoch:=w.epoch+1} m:=by
 obtain⟨v,gr,en,hS⟩:=suitB_iff.1 h.suit
 refine⟨suitB_iff.2 ⟨v,gr,en,hS.keep (qSR hS.right he) rfl rfl rfl rfl rfl rfl rfl rfl rfl rfl rfl rfl rfl⟩,h.pc,fun k=>?_,h.at_⟩
 obtain⟨h1,h2⟩:=h.ep k
 exact⟨h1,by show m.epoch≤w.epoch+1;omega⟩
/- qXB laws of drains: one step. -/
def ansK (k l:Int):Ans:=⟨k,0,0,0,0,l,0,c60⟩
theorem qAT {l:List Listen} {s:BA} (h:0≤qMB l s):∃ x,l[(qMB l s).toNat]?=some x∧qMB l s<l.length:=by
 unfold qMB at h ⊢
 cases hh:idxO (fun (x:Listen)=>bs x.name==bs s) l with
 | none=>rw [hh] at h;simp [idxI] at h
 | some i =>
  obtain⟨x,hx,_⟩:=qXD hh
  have:=(List.getElem?_eq_some_iff.1 hx).1
  exact⟨x,by simpa [idxI] using hx,by simp [idxI];exact this⟩
/- qXB laws of slots that are held. -/
def sumI {α:Type} (f:α→Int) (l:List α):Int:=(l.map f).sum
theorem qmK {α:Type} (f:α→Int) {l:List α} {k:Nat} {x:α} (h:l[k]?=some x):sumI f (l.take (k+1))=sumI f (l.take k)+f x:=by
 obtain⟨h1,h2⟩:=List.getElem?_eq_some_iff.1 h
 unfold sumI
 rw [List.take_succ_eq_append_getElem h1,h2,List.map_append,List.sum_append]
 simp
theorem qeM {α:Type} {f:α→Int} {c:Int}:∀ {l:List α},(∀ x∈l,0≤f x∧f x≤c)→0≤sumI f l∧sumI f l≤c*l.length
 | [],_=>by simp [sumI]
 | x :: r,h=>by
  have h1:=h x (List.mem_cons_self ..)
  have h2:=qeM (l:=r) fun y hy=>h y (List.mem_cons_of_mem _ hy)
  have e1:sumI f (x :: r)=f x+sumI f r:=by simp [sumI]
  have e2:c*((x :: r).length:Int)=c*r.length+c:=by
   simp only [List.length_cons,Int.natCast_add,Int.natCast_one,Int.mul_add,Int.mul_one]
  rw [e1,e2]
  omega
def qfC (e:EndC):Int:=if endB e then e.next.length-(((qID e).getD []).length:Nat) else 0
def qzH (x:Group):Int:=sumI qfC x.ends
def qsE (v:Version):Int:=sumI qzH v.groups
def qQS (w:Wd):Int:=sumI qsE w.versions
theorem qIN (e:EndC):0≤qfC e∧qfC e≤4:=by
 unfold qfC
 split
 ·rename_i h
  unfold endB at h
  simp only [Bool.and_eq_true,decide_eq_true_eq] at h
  obtain⟨⟨⟨h1,h2⟩,h3⟩,h4⟩:=h
  cases hf:qID e with
  | none=>rw [hf] at h1;cases h1
  | some l =>
   have:=qKN hf
   simp only [Option.getD_some]
   omega
 ·omega
theorem qJQ {K:Nat} {x:Group} (h:BgG K x):0≤qzH x∧qzH x≤4*K:=by
 have:=qeM (f:=qfC) (c:=4) (l:=x.ends) fun e _=>qIN e
 unfold BgG at h
 unfold qzH
 omega
theorem qgU {a b c d:Int} (h1:0≤a) (h2:a≤b) (h3:0≤c) (h4:c≤d):a*c≤b*d:=Int.mul_le_mul h2 h4 h3 (by omega)
theorem qYT {K:Nat} {x:Version} (h:BgV K x):0≤qsE x∧qsE x≤4*K*K:=by
 have:=qeM (f:=qzH) (c:=4*K) (l:=x.groups) fun y hy=>qJQ (h.2 y hy)
 obtain⟨h1,h2⟩:=this
 refine⟨h1,Int.le_trans h2 ?_⟩
 exact qgU (by omega) (Int.le_refl _) (by omega) (by have:=h.1;omega)
theorem qhF {α:Type} {f:α→Int} {c:Int} {l:List α} (h:∀ x∈l,0≤f x∧f x≤c) (k:Nat):0≤sumI f (l.take k)∧sumI f (l.take k)≤c*(l.take k).length:=qeM fun x hx=>h x (List.mem_of_mem_take hx)
/- Worlds that the call made: a head is written. -/
open Go.RowKit
section
variable {t:WTy} {f:Bool}
end
/- Law 18's example. -/
abbrev sWebW:BA:=⟨#[119,101,98]⟩
def w3:Wd:=newW (qbH 2 [true,false]) [sInW,sWebW] 3
def v3:Version:=qGA (qbH 2 [true,false])
/- qXB laws of new worlds: nothing is held. -/
theorem qTS {n:Nat} (h:1≤n∧n≤4):qfC (q6A n)=0:=by
 obtain⟨h1,h2⟩:=h
 match n,h1,h2 with
 | 1,_,_=>decide
 | 2,_,_=>decide
 | 3,_,_=>decide
 | 4,_,_=>decide
theorem qUI {α:Type} {f:α→Int}:∀ {l:List α},(∀ x∈l,f x=0)→sumI f l=0
 | [],_=>rfl
 | x :: r,h=>by
  have h1:=h x (List.mem_cons_self ..)
  have h2:=qUI (f:=f) (l:=r) fun y hy=>h y (List.mem_cons_of_mem _ hy)
  unfold sumI at h2 ⊢
  simp only [List.map_cons,List.sum_cons,h1,h2];rfl
theorem qHS {s:Snap} {l:List BA} {t:Nat} (h:qHA (qIC s)=none):qQS (newW s l t)=0:=by
 have hg:=good_iff.1 h
 refine qUI fun v hv=>qUI fun x hx=>qUI fun e he=>?_
 have:v=qGA s:=by simpa [newW] using hv
 subst this
 simp only [qGA,List.mem_map] at hx
 obtain⟨c,hc,rfl⟩:=hx
 simp only [List.mem_map] at he
 obtain⟨_,_,rfl⟩:=he
 obtain⟨_,_,hs,_⟩:=hg.cl c hc
 exact qTS (by omega)
theorem qeU {s:Snap} {l:List BA} {t:Nat} (h:qHA (qIC s)=none) (ht:t≤8) (hl:l.length≤100):BgW 1000 (newW s l t):=by
 have hg:=good_iff.1 h
 refine⟨⟨by show(List.replicate t (0:Int)).length≤1000;simp;omega,by show 1≤1000;decide,by show(lisL l).length≤1000;simp [lisL];omega,by show(qAD t).length≤1000;simp [qAD];omega,by show 0≤1000;decide⟩,fun r hr=>?_,fun v hv=>?_⟩
 ·simp only [newW,qAD,List.mem_map] at hr
  obtain⟨_,_,rfl⟩:=hr
  decide
 ·have:v=qGA s:=by simpa [newW] using hv
  subst this
  have hsz:=hg.size.2.2.2
  refine⟨by show(s.clusters.map _).length≤1000;simp;exact Nat.le_trans hsz (by decide),fun x hx=>?_⟩
  simp only [qGA,List.mem_map] at hx
  obtain⟨c,hc,rfl⟩:=hx
  obtain⟨_,_,_,hh⟩:=hg.cl c hc
  show(c.health.map _).length≤1000
  simp;omega
def vZ:Version:=⟨⟨[],[],[]⟩,[],false⟩
theorem rNil {α:Type} (sz:Nat) (R:RP α) (g:GW):rSl sz R g (.slice none 0 0) []:=⟨none,0,rfl,Nat.le_refl _,Nat.zero_le _,fun _=>⟨rfl,rfl⟩,fun i x hx=>by simp at hx⟩
/- Worlds that the call made: a listener is written. -/
open Go.RowKit
section
variable {t:WTy} {f:Bool}
end
/- Worlds that the call made: single cells of endpoints,groups,slots and counts are written. -/
open Go.RowKit
section
variable {t:WTy} {f:Bool}
abbrev setG (w:Wd) (i j:Nat) (v:Version) (x':Group):Wd:={w with versions:=w.versions.set i {v with groups:=v.groups.set j x'}}
end
/- qXB laws of requests: turns,draws,and what each place of a request does (begun;no walk uses it yet). -/
def qYB (c:Cluster):List Int:=((List.range c.health.length).filter fun i=>(c.health[i]?).getD false).map fun (i:Nat)=>(i:Int)
theorem qkP {c:Cluster} {x:Int} (h:x∈qYB c):0≤x∧x<c.health.length:=by
 unfold qYB at h
 simp only [List.mem_map,List.mem_filter,List.mem_range] at h
 obtain⟨i,⟨hi,_⟩,rfl⟩:=h
 omega
def qeK (c:Cluster) (t:Int):Int:=((qYB c)[(t % (qYB c).length).toNat]?).getD 0
def qFR (c:Cluster) (d:Int):Int:=((qYB c)[(d % (qYB c).length).toNat]?).getD 0
theorem qBU {c:Cluster} {t:Int} (h:qYB c≠[]):0≤qeK c t∧qeK c t<c.health.length:=by
 have hl:0<(qYB c).length:=List.length_pos_iff.2 h
 have h1:=Int.emod_nonneg t (show((qYB c).length:Int)≠0 by omega)
 have h2:=Int.emod_lt_of_pos t (show(0:Int)<(qYB c).length by omega)
 obtain⟨x,hx⟩:=qBA (l:=qYB c) (i:=(t % (qYB c).length).toNat) (by omega)
 unfold qeK
 rw [hx]
 exact qkP (List.mem_of_getElem? hx)
def qhP (a x b y:Int):Int:=if y<x then b else a
def enD:EndC:=⟨0,[],0⟩
def mV (w:Wd) (m:Mach):Version:=(w.versions[m.version.toNat]?).getD vZ
def mG (w:Wd) (m:Mach):Group:=((mV w m).groups[m.cluster.toNat]?).getD ⟨0,[]⟩
def mE (w:Wd) (m:Mach) (k:Int):EndC:=((mG w m).ends[k.toNat]?).getD enD
def mC (w:Wd) (m:Mach):Cluster:=((mV w m).snap.clusters[m.cluster.toNat]?).getD ⟨⟨#[]⟩,0,0,[]⟩
def mL (w:Wd) (m:Mach):Listen:=(w.listens[m.listen.toNat]?).getD ⟨⟨#[]⟩,false,0,false⟩
theorem SuitP.at_ {w:Wd} {m:Mach} {v:Version} {gr:Group} {en:EndC} (h:SuitP w m v gr en):mV w m=v∧mG w m=gr∧mE w m m.end_=en:=by
 have h1:mV w m=v:=by unfold mV;rw [h.ver.2];rfl
 have h2:mG w m=gr:=by unfold mG;rw [h1,h.clu.2];rfl
 exact⟨h1,h2,by unfold mE;rw [h2,h.end_.2];rfl⟩
abbrev setE (w:Wd) (m:Mach) (e':EndC):Wd:=setG w m.version.toNat m.cluster.toNat (mV w m) {mG w m with ends:=(mG w m).ends.set m.end_.toNat e'}
abbrev setLis (w:Wd) (m:Mach) (x':Listen):Wd:={w with listens:=w.listens.set m.listen.toNat x'}
def evO (m:Mach) (a c v:Int):Ev:=⟨m.thread,0,a,c,-1,false,v,false,false,false,ans0⟩
def evV (w:Wd) (m:Mach) (a c v:Int):Ev:=⟨m.thread,0,a,c,m.version,(mV w m).freed,v,false,false,false,ans0⟩
def q9M (m:Mach) (k:Int):Mach:={m with answer:=ansK k 0,pc:=20}
abbrev hGo (w:Wd) (m:Mach):Prop:=qfB w m=true∧(0≤m.pc∧m.pc≤23∧¬ (12<m.pc∧m.pc<20))∧¬ (m.listen<0∧(m.pc=4∨m.pc=5∨m.pc=22))
/- qXB laws of requests: what each place of a request does. -/
abbrev wI (x:Int):Int:=IntKind.i64.wrap x
abbrev wU (x:Int):Int:=IntKind.u64.wrap x
def cnt (w:Wd) (i k:Int):Int:=(((w.counts[i.toNat]?).getD [])[k.toNat]?).getD 0
abbrev addCnt (w:Wd) (i k:Int):Wd:={w with counts:=w.counts.set i.toNat (((w.counts[i.toNat]?).getD []).set k.toNat (wU (cnt w i k+1)))}
def qNS (m:Mach):Int:=if 1≤m.answer.kind∧m.answer.kind≤5 then m.answer.kind else 0
def casB (w:Wd) (m:Mach):Bool:=decide ((mE w m m.end_).head=m.word)&&qCH m.link
def qkU (s:Snap) (l h p:BA):Option Int :=
 if idxI (idxO (fun x=>bs x==bs l) s.listens)<0 then none
 else (qwU (fitR (idxI (idxO (fun x=>bs x==bs l) s.listens)) h p) s.rules).map fun j=>((s.rules[j]?).map (·.cluster)).getD 0
def qrT (w:Wd) (m:Mach):Mach:=match qkU (mV w m).snap m.op.listen m.op.host m.op.path with
 | none=>q9M m 2
 | some c =>
  if qYB (mC w {m with cluster:=c})=[] then q9M {m with cluster:=c} 3
  else if (mC w {m with cluster:=c}).policy=1 then {m with cluster:=c,pc:=6}
  else {m with cluster:=c,end_:=qFR (mC w {m with cluster:=c}) m.op.d0,other:=qFR (mC w {m with cluster:=c}) m.op.d1,pc:=7}
def hM5 (w:Wd) (m:Mach):Mach:=if (mL w m).drain then q9M m 5 else qrT w m
def hE5 (w:Wd) (m:Mach):Ev:=if (mL w m).drain then {evO m 1 4 1 with point:=true} else evO m 1 4 0
noncomputable def hW (w:Wd) (m:Mach):Wd :=
 if m.pc=4 then setLis w m {mL w m with active:=wI ((mL w m).active+1)}
 else if m.pc=6 then setG w m.version.toNat m.cluster.toNat (mV w m) {mG w m with ticket:=wU ((mG w m).ticket+1)}
 else if m.pc=11 then (if casB w m then setE w m {mE w m m.end_ with head:=qDO m.word m.link} else w)
 else if m.pc=12 then setE w m {mE w m m.end_ with active:=wI ((mE w m m.end_).active+1)}
 else if m.pc=20 then addCnt w m.thread (qNS m)
 else if m.pc=21 then addCnt w m.thread 0
 else if m.pc=22 then setLis w m {mL w m with active:=wI ((mL w m).active-1)}
 else if m.pc=23 then offW w m
 else w
def hM3 (w:Wd) (m:Mach):Mach :=
 if qMB w.listens m.op.listen<0 then q9M {m with version:=w.current,cluster:=0,end_:=0,other:=0,slot:=0,listen:=qMB w.listens m.op.listen} 2
 else {m with version:=w.current,cluster:=0,end_:=0,other:=0,slot:=0,listen:=qMB w.listens m.op.listen,pc:=4}
def hE3 (w:Wd) (m:Mach):Ev:={evO m 1 3 w.current with point:=true}
def hM9 (w:Wd) (m:Mach):Mach :=
 if 0≤idxT (mE w m m.end_).head∧idxT (mE w m m.end_).head<(mE w m m.end_).next.length then {m with word:=(mE w m m.end_).head,slot:=idxT (mE w m m.end_).head,pc:=10}
 else q9M {m with word:=(mE w m m.end_).head} 4
def hM (w:Wd) (m:Mach):Mach :=
 if m.pc=3 then hM3 w m
 else if m.pc=4 then {m with pc:=5}
 else if m.pc=5 then hM5 w m
 else if m.pc=6 then {m with end_:=qeK (mC w m) (mG w m).ticket,pc:=9}
 else if m.pc=7 then {m with i:=(mE w m m.end_).active,pc:=8}
 else if m.pc=8 then {m with end_:=qhP m.end_ m.i m.other (mE w m m.other).active,pc:=9}
 else if m.pc=9 then hM9 w m
 else if m.pc=10 then {m with link:=((mE w m m.end_).next[m.slot.toNat]?).getD 0,pc:=11}
 else if m.pc=11 then {m with pc:=if casB w m then 12 else 9}
 else if m.pc=12 then {m with answer:=⟨1,m.version,m.cluster,m.end_,m.slot,m.listen,0,c60⟩,pc:=20}
 else if m.pc=20 then {m with pc:=21}
 else if m.pc=21 then {m with pc:=if m.answer.kind=1∨m.listen<0 then 23 else 22}
 else if m.pc=22 then {m with pc:=23}
 else if m.pc=23 then {m with done:=true}
 else m
noncomputable def hE (w:Wd) (m:Mach):Ev :=
 if m.pc=3 then hE3 w m
 else if m.pc=4 then evO m 3 5 (wI ((mL w m).active+1))
 else if m.pc=5 then hE5 w m
 else if m.pc=6 then evV w m 3 6 (wI (mG w m).ticket)
 else if m.pc=7 then evV w m 1 7 (mE w m m.end_).active
 else if m.pc=8 then evV w m 1 7 (mE w m m.other).active
 else if m.pc=9 then evV w m 1 8 (idxT (mE w m m.end_).head)
 else if m.pc=10 then evV w m 1 9 (((mE w m m.end_).next[m.slot.toNat]?).getD 0)
 else if m.pc=11 then (if casB w m then evV w m 4 8 m.slot else evV w m 5 8 (idxT (mE w m m.end_).head))
 else if m.pc=12 then evV w m 3 7 (wI ((mE w m m.end_).active+1))
 else if m.pc=20 then evO m 3 10 (qNS m)
 else if m.pc=21 then evO m 3 10 0
 else if m.pc=22 then evO m 3 5 (wI ((mL w m).active-1))
 else if m.pc=23 then {offE w m with done:=true,answer:=m.answer}
 else ev0
/- qXB laws of ends of requests: what each place does (begun;no walk has checked these yet). -/
/- qXB laws of requests: a whole step,place for place. -/
theorem qbT {s:Snap} (hz:qHA (qIC s)=none) {l h p:BA} {c:Int} (hf:qkU s l h p=some c):0≤c∧c<s.clusters.length:=by
 unfold qkU at hf
 split at hf
 ·cases hf
 obtain⟨j,hj,rfl⟩:=Option.map_eq_some_iff.1 hf
 obtain⟨r,q1,_⟩:=bestO_some.1 hj
 rw [q1]
 show 0≤r.cluster∧r.cluster<s.clusters.length
 have G:=good_iff.1 hz
 obtain⟨_,_,_,h4⟩:=G.rt (quA s r) (List.mem_map.2 ⟨r,List.mem_of_getElem? q1,rfl⟩)
 apply Classical.byContradiction
 intro hn
 have:(quA s r).cluster=⟨#[]⟩:=by
  show q7A s.clusters r.cluster=_
  unfold q7A;rw [if_neg hn]
 rw [this] at h4
 obtain⟨x,hx,hx2⟩:=List.any_eq_true.1 h4
 exact qfU (G.cl x hx).1 (qSL (by simpa using hx2))
noncomputable def hsW (w:Wd) (m:Mach):Wd:=if hGo w m then (if m.pc<3 then pinW w m else hW w m) else w
noncomputable def hsM (w:Wd) (m:Mach):Mach:=if hGo w m then (if m.pc<3 then pinM w m else hM w m) else m
noncomputable def hsE (w:Wd) (m:Mach):Ev:=if hGo w m then (if m.pc<3 then pinE w m else hE w m) else ev0
theorem hs_no {w:Wd} {m:Mach} (h:¬ hGo w m):hsW w m=w∧hsM w m=m∧hsE w m=ev0:=by
 unfold hsW hsM hsE
 rw [if_neg h,if_neg h,if_neg h];exact⟨rfl,rfl,rfl⟩
theorem qmI {w:Wd} {m:Mach} (h:hGo w m) (h3:¬ m.pc<3):hsW w m=hW w m∧hsM w m=hM w m∧hsE w m=hE w m:=by
 unfold hsW hsM hsE
 rw [if_pos h,if_pos h,if_pos h,if_neg h3,if_neg h3,if_neg h3];exact⟨rfl,rfl,rfl⟩
theorem qjV {w:Wd} {m:Mach} (h:0≤m.pc∧m.pc<3):hsW w m=pinW w m∧hsM w m=pinM w m∧hsE w m=pinE w m:=by
 by_cases hs:qfB w m=true
 ·have hg:hGo w m:=⟨hs,by omega,by omega⟩
  unfold hsW hsM hsE
  rw [if_pos hg,if_pos hg,if_pos hg,if_pos h.2,if_pos h.2,if_pos h.2];exact⟨rfl,rfl,rfl⟩
 ·obtain⟨a,b,c⟩:=hs_no (w:=w) (m:=m) (fun k=>hs k.1)
  have hs:qfB w m=false:=by simpa using hs
  rw [a,b,c]
  unfold pinW pinM pinE
  rw [hs]
  exact⟨rfl,rfl,rfl⟩
section
variable {w:Wd} {m:Mach}
theorem ha3 (h:m.pc=3):hW w m=w∧hM w m=hM3 w m∧hE w m=hE3 w m:=by simp [hW,hM,hE,h]
theorem ha4 (h:m.pc=4):hW w m=setLis w m {mL w m with active:=wI ((mL w m).active+1)}∧hM w m={m with pc:=5}∧hE w m=evO m 3 5 (wI ((mL w m).active+1)):=by simp [hW,hM,hE,h]
theorem ha5 (h:m.pc=5):hW w m=w∧hM w m=hM5 w m∧hE w m=hE5 w m:=by simp [hW,hM,hE,h]
theorem ha6 (h:m.pc=6):hW w m=setG w m.version.toNat m.cluster.toNat (mV w m) {mG w m with ticket:=wU ((mG w m).ticket+1)}∧hM w m={m with end_:=qeK (mC w m) (mG w m).ticket,pc:=9}∧hE w m=evV w m 3 6 (wI (mG w m).ticket):=by simp [hW,hM,hE,h]
theorem ha7 (h:m.pc=7):hW w m=w∧hM w m={m with i:=(mE w m m.end_).active,pc:=8}∧hE w m=evV w m 1 7 (mE w m m.end_).active:=by simp [hW,hM,hE,h]
theorem ha8 (h:m.pc=8):hW w m=w∧hM w m={m with end_:=qhP m.end_ m.i m.other (mE w m m.other).active,pc:=9}∧hE w m=evV w m 1 7 (mE w m m.other).active:=by simp [hW,hM,hE,h]
theorem ha9 (h:m.pc=9):hW w m=w∧hM w m=hM9 w m∧hE w m=evV w m 1 8 (idxT (mE w m m.end_).head):=by simp [hW,hM,hE,h]
theorem ha10 (h:m.pc=10):hW w m=w∧hM w m={m with link:=((mE w m m.end_).next[m.slot.toNat]?).getD 0,pc:=11}∧hE w m=evV w m 1 9 (((mE w m m.end_).next[m.slot.toNat]?).getD 0):=by simp [hW,hM,hE,h]
theorem ha11 (h:m.pc=11):hW w m=(if casB w m then setE w m {mE w m m.end_ with head:=qDO m.word m.link} else w)∧hM w m={m with pc:=if casB w m then 12 else 9}∧hE w m=(if casB w m then evV w m 4 8 m.slot else evV w m 5 8 (idxT (mE w m m.end_).head)):=by simp [hW,hM,hE,h]
theorem ha12 (h:m.pc=12):hW w m=setE w m {mE w m m.end_ with active:=wI ((mE w m m.end_).active+1)}∧hM w m={m with answer:=⟨1,m.version,m.cluster,m.end_,m.slot,m.listen,0,c60⟩,pc:=20}∧hE w m=evV w m 3 7 (wI ((mE w m m.end_).active+1)):=by simp [hW,hM,hE,h]
theorem ha20 (h:m.pc=20):hW w m=addCnt w m.thread (qNS m)∧hM w m={m with pc:=21}∧hE w m=evO m 3 10 (qNS m):=by simp [hW,hM,hE,h]
theorem ha21 (h:m.pc=21):hW w m=addCnt w m.thread 0∧hM w m={m with pc:=if m.answer.kind=1∨m.listen<0 then 23 else 22}∧hE w m=evO m 3 10 0:=by simp [hW,hM,hE,h]
theorem ha22 (h:m.pc=22):hW w m=setLis w m {mL w m with active:=wI ((mL w m).active-1)}∧hM w m={m with pc:=23}∧hE w m=evO m 3 5 (wI ((mL w m).active-1)):=by simp [hW,hM,hE,h]
theorem ha23 (h:m.pc=23):hW w m=offW w m∧hM w m={m with done:=true}∧hE w m={offE w m with done:=true,answer:=m.answer}:=by simp [hW,hM,hE,h]
end
/- qXB laws of drains: who is drained twice. -/
theorem qHM {α β γ:Type} (h:α→β) (f:Nat→β→Option γ):∀ (l:List α) (k:Nat),qOB f k (l.map h)=qOB (fun i x=>f i (h x)) k l
 | [],_=>rfl
 | x :: r,k=>by
  simp only [List.map_cons,qOB,qHM h f r (k+1)]
theorem qxN {l l':List Listen} (h:l'.map (·.name)=l.map (·.name)) (s:BA):qMB l' s=qMB l s:=by
 have e:∀ l:List Listen,idxO (fun (x:Listen)=>bs x.name==bs s) l=idxO (fun n=>bs n==bs s) (l.map (·.name)):=fun l=>by
  unfold idxO
  rw [qHM]
 unfold qMB
 rw [e,e,h]
theorem qJS {l:List Listen} {i:Nat} {x x':Listen} (hx:l[i]?=some x) (hn:x'.name=x.name):(l.set i x').map (·.name)=l.map (·.name):=by
 rw [List.map_set]
 apply List.ext_getElem?
 intro j
 rw [List.getElem?_set]
 split
 ·rename_i hij
  subst hij
  have:=(List.getElem?_eq_some_iff.1 hx).1
  rw [if_pos (by simpa using this),List.getElem?_map,hx,hn];rfl
 ·rfl
theorem qxL {w:Wd} (h:wdB w=true) {i:Nat} {x x':Listen} (hx:w.listens[i]?=some x) (hn:x'.name=x.name) (hg:qoL x'=true):wdB {w with listens:=w.listens.set i x'}=true:=by
 unfold wdB at h ⊢
 simp only [Bool.and_eq_true,decide_eq_true_eq] at h ⊢
 obtain⟨⟨⟨⟨⟨⟨h1,h2⟩,h3⟩,h4⟩,h5⟩,h6⟩,h7⟩:=h
 refine⟨⟨⟨⟨⟨⟨h1,h2⟩,h3⟩,h4⟩,h5⟩,h6⟩,?_⟩
 rw [allI_iff] at h7 ⊢
 intro j y hy
 unfold q2A
 rw [qxN (qJS hx hn)]
 rw [List.getElem?_set] at hy
 split at hy
 ·rename_i hij
  subst hij
  have hl:=(List.getElem?_eq_some_iff.1 hx).1
  rw [if_pos hl] at hy
  cases hy
  have:=h7 i x hx
  unfold q2A at this
  simp only [Bool.and_eq_true] at this ⊢
  exact⟨hg,by rw [hn];exact this.2⟩
 ·exact h7 j y hy
/- qXB laws of slots: one that is taken. -/
def popE (e:EndC):EndC:={e with head:=qDO e.head (nxtL e.next (idxT e.head))}
theorem qQV {e:EndC} (h:endB e=true) {x:Int} {r:List Int} (hf:qID e=some (x :: r)):endB (popE e)=true∧qfC (popE e)=qfC e+1∧idxT e.head=x∧(0≤x∧x<e.next.length)∧(-1≤nxtL e.next x∧nxtL e.next x≤2147483646)∧InU (popE e).head:=by
 have hb:=h
 unfold endB at h
 simp only [Bool.and_eq_true,decide_eq_true_eq] at h
 obtain⟨⟨⟨_,h2⟩,h3⟩,h4⟩:=h
 rcases qVO hf with ⟨h,_⟩|⟨x',r',hq,hx,hrg,_⟩
 ·cases h
 ·cases hq
  have hn:=qSS hf
  have hn2:-1≤nxtL e.next x∧nxtL e.next x≤2147483646:=by omega
  have hpop:qID (popE e)=some r:=by
   unfold popE
   rw [hx]
   exact qZT hf (qPS hn2) e.active
  have he:endB (popE e)=true:=by
   unfold endB
   rw [hpop]
   simp only [Bool.and_eq_true,decide_eq_true_eq,Option.isSome_some,true_and]
   exact⟨⟨h2,h3⟩,h4⟩
  refine⟨he,?_,hx,hrg,hn2,by unfold popE;rw [hx];exact qdU hn2⟩
  have hl:=qKN hf
  unfold qfC
  rw [he,hb,hpop,hf]
  simp only [if_true,Option.getD_some,List.length_cons] at hl ⊢
  show((e.next.length:Nat):Int)-_=_
  omega
theorem qTR {w:Wd} (h:wdB w=true) {i j k:Nat} {v:Version} {x:Group} {en en':EndC} (hv:w.versions[i]?=some v) (hx:v.groups[j]?=some x) (he:x.ends[k]?=some en) (h1:endB en'=true) (h2:en'.next.length=en.next.length) :
  wdB {w with versions:=w.versions.set i {v with groups:=v.groups.set j {x with ends:=x.ends.set k en'}}}=true:=by
 unfold wdB at h ⊢
 simp only [Bool.and_eq_true,decide_eq_true_eq] at h ⊢
 obtain⟨⟨⟨⟨⟨⟨a1,a2⟩,a3⟩,a4⟩,a5⟩,a6⟩,a7⟩:=h
 refine⟨⟨⟨⟨⟨⟨a1,a2⟩,by rw [List.length_set];exact a3⟩,a4⟩,?_⟩,?_⟩,a7⟩
 ·rw [List.all_eq_true] at a5 ⊢
  intro r hr
  have:=a5 r hr
  unfold limB at this ⊢
  simpa only [List.length_set] using this
 ·rw [allI_iff] at a6 ⊢
  intro p y hy
  rw [List.getElem?_set] at hy
  split at hy
  ·rename_i hip
   subst hip
   have hlt:=(List.getElem?_eq_some_iff.1 hv).1
   rw [if_pos hlt] at hy
   cases hy
   have hv6:=a6 i v hv
   unfold verB q4A at hv6 ⊢
   simp only [Bool.and_eq_true,decide_eq_true_eq,List.length_set] at hv6 ⊢
   obtain⟨⟨⟨b1,b2⟩,b3⟩,b4⟩:=hv6
   refine⟨⟨⟨b1,b2⟩,?_⟩,b4⟩
   rw [allI_iff] at b3 ⊢
   intro q z hz
   rw [List.getElem?_set] at hz
   split at hz
   ·rename_i hjq
    subst hjq
    have hlt2:=(List.getElem?_eq_some_iff.1 hx).1
    rw [if_pos hlt2] at hz
    cases hz
    have hg:=b3 j x hx
    unfold qME at hg ⊢
    split at hg
    ·rename_i c hc
     simp only [Bool.and_eq_true,decide_eq_true_eq,List.all_eq_true,List.length_set] at hg ⊢
     refine⟨hg.1,fun y hy=>?_⟩
     rcases List.mem_or_eq_of_mem_set hy with hy|rfl
     ·exact hg.2 y hy
     ·have:=hg.2 en (List.mem_of_getElem? he)
      unfold q1I at this ⊢
      simp only [Bool.and_eq_true,decide_eq_true_eq] at this ⊢
      exact⟨h1,by rw [h2];exact this.2⟩
    ·cases hg
   ·exact b3 q z hz
  ·exact a6 p y hy
/- qXB laws of counts that are read: one step. -/
def statA (c:C6):Ans:=⟨13,0,0,0,0,0,0,c⟩
/- Law 25's example: counts that are read. -/
open Go.RowKit
/- qXB laws of counts that are read: the whole way,and the sum. -/
def qiO (rows:List (List Int)) (i k:Nat):Int:=(((rows[i]?).getD [])[k]?).getD 0
def quR (rows:List (List Int)):Nat→C6
 | 0=>c60
 | n+1=>(quR rows n).set (IntKind.u64.wrap ((quR rows n).get (n % 6)+qiO rows (n / 6) (n % 6))) (n % 6)
def mA (rows:List (List Int)) (m0:Mach) (n:Nat):Mach :=
 if n=6*rows.length then {m0 with counts:=quR rows n,i:=rows.length,k:=0,done:=true,answer:=statA (quR rows n)} else {m0 with counts:=quR rows n,i:=((n / 6:Nat):Int),k:=((n % 6:Nat):Int)}
theorem qJN {w:Wd} (h:wdB w=true):w.counts.length=w.pins.length∧qED w.counts=true∧1≤w.counts.length∧w.counts.length≤8:=by
 have hg:=qiC h
 unfold qCB qED at hg
 unfold qED
 simp only [Bool.and_eq_true,decide_eq_true_eq] at hg ⊢
 obtain⟨⟨⟨⟨⟨⟨⟨h1,h2⟩,h3⟩,h4⟩,_⟩,_⟩,_⟩,_⟩:=hg
 exact⟨h3,h4,h4.1.2,h4.2⟩
/- qXB laws of right worlds: what their versions are;a request's cells. -/
theorem qtD {w:Wd} (h:wdB w=true):qCB w=true∧(0≤w.current∧w.current<w.versions.length)∧qLE w.limbo=true∧w.limbo.all (limB w)=true∧allI (verB w) w.versions=true∧allI (q2A w.listens) w.listens=true:=by
 unfold wdB at h
 simp only [Bool.and_eq_true,decide_eq_true_eq] at h
 obtain⟨⟨⟨⟨⟨⟨h1,h2⟩,h3⟩,h4⟩,h5⟩,h6⟩,h7⟩:=h
 exact⟨h1,⟨h2,h3⟩,h4,h5,h6,h7⟩
theorem qRR {w:Wd} (h:qCB w=true∧(0≤w.current∧w.current<w.versions.length)∧qLE w.limbo=true∧w.limbo.all (limB w)=true∧allI (verB w) w.versions=true∧allI (q2A w.listens) w.listens=true):wdB w=true:=by
 unfold wdB
 simp only [Bool.and_eq_true,decide_eq_true_eq]
 obtain⟨h1,⟨h2,h3⟩,h4,h5,h6,h7⟩:=h
 exact⟨⟨⟨⟨⟨⟨h1,h2⟩,h3⟩,h4⟩,h5⟩,h6⟩,h7⟩
structure VerP (w:Wd) (i:Nat) (v:Version):Prop where
 good:qHA (qIC v.snap)=none
 len:v.groups.length=v.snap.clusters.length
 freed:v.freed=q1F w.limbo i
 grp:∀ (j:Nat) gr,v.groups[j]?=some gr→∃ c,v.snap.clusters[j]?=some c∧gr.ends.length=c.health.length∧∀ e∈gr.ends,endB e=true∧(e.next.length:Int)=c.slots
theorem qZE {w:Wd} (h:wdB w=true) {i:Nat} {v:Version} (hv:w.versions[i]?=some v):VerP w i v:=by
 obtain⟨_,_,_,_,h6,_⟩:=qtD h
 rw [allI_iff] at h6
 have h1:=h6 i v hv
 unfold verB q4A at h1
 simp only [Bool.and_eq_true,decide_eq_true_eq,beq_iff_eq] at h1
 obtain⟨⟨⟨h1,h2⟩,h3⟩,h4⟩:=h1
 rw [allI_iff] at h3
 refine⟨eqB_iff.1 h1,h2,h4,fun j gr hg=>?_⟩
 have h5:=h3 j gr hg
 unfold qME at h5
 split at h5
 ·rename_i c hc
  simp only [Bool.and_eq_true,decide_eq_true_eq,List.all_eq_true] at h5
  refine⟨c,hc,h5.1,fun e he=>?_⟩
  have:=h5.2 e he
  unfold q1I at this
  simpa only [Bool.and_eq_true,decide_eq_true_eq] using this
 ·cases h5
theorem q2I {e:EndC} (h:endB e=true):(∃ l,qID e=some l)∧1≤e.next.length∧e.next.length≤4∧0≤e.active:=by
 unfold endB at h
 simp only [Bool.and_eq_true,decide_eq_true_eq] at h
 obtain⟨⟨⟨h1,h2⟩,h3⟩,h4⟩:=h
 exact⟨Option.isSome_iff_exists.1 h1,h2,h3,h4⟩
theorem VerP.ends {w:Wd} {i:Nat} {v:Version} (h:VerP w i v) {j:Nat} {gr:Group} (hg:v.groups[j]?=some gr):∃ c,v.snap.clusters[j]?=some c∧gr.ends.length=c.health.length∧1≤gr.ends.length∧gr.ends.length≤4∧(c.policy=1∨c.policy=2)∧∀ e∈gr.ends,endB e=true∧1≤e.next.length:=by
 obtain⟨c,hc,h1,h2⟩:=h.grp j gr hg
 have G:=good_iff.1 h.good
 have hm:c∈(qIC v.snap).clusters:=List.mem_of_getElem? hc
 obtain⟨_,hp,_,hh⟩:=G.cl c hm
 exact⟨c,hc,h1,by omega,by omega,hp,fun e he=>⟨(h2 e he).1,(q2I (h2 e he).1).2.1⟩⟩
theorem VerP.groups {w:Wd} {i:Nat} {v:Version} (h:VerP w i v):1≤v.groups.length∧v.groups.length≤4:=by
 have G:=good_iff.1 h.good
 have:=G.size.2.2
 rw [h.len]
 exact this
theorem qUR {w:Wd} (h:wdB w=true):∃ v,w.versions[w.current.toNat]?=some v∧v.freed=false∧0≤w.current∧w.current<w.versions.length:=by
 obtain⟨_,h2,_,h4,_,_⟩:=qtD h
 obtain⟨v,hv⟩:=qBA (l:=w.versions) (i:=w.current.toNat) (by omega)
 refine⟨v,hv,?_,h2⟩
 rw [(qZE h hv).freed]
 unfold q1F
 rw [List.any_eq_false]
 intro r hr
 have:=(List.all_eq_true.1 h4) r hr
 unfold limB at this
 simp only [Bool.and_eq_true,decide_eq_true_eq] at this
 have h5:(r.version==(w.current.toNat:Int))=false:=by
  rw [Int.toNat_of_nonneg h2.1]
  simpa using this.1.2
 rw [h5]
 exact Bool.false_ne_true
theorem qxS {w:Wd} (h:wdB w=true) {i j:Nat} {v:Version} {x:Group} (hv:w.versions[i]?=some v) (hx:v.groups[j]?=some x) (t:Int):wdB (setG w i j v {x with ticket:=t})=true:=by
 obtain⟨a1,a2,a4,a5,a6,a7⟩:=qtD h
 refine qRR ⟨a1,⟨a2.1,by show w.current<((w.versions.set i _).length:Nat);rw [List.length_set];exact a2.2⟩,a4,?_,?_,a7⟩
 ·rw [List.all_eq_true] at a5 ⊢
  intro r hr
  have:=a5 r hr
  unfold limB at this ⊢
  simpa only [List.length_set] using this
 ·rw [allI_iff] at a6 ⊢
  intro p y hy
  rw [List.getElem?_set] at hy
  split at hy
  ·rename_i hip
   subst hip
   have hlt:=(List.getElem?_eq_some_iff.1 hv).1
   rw [if_pos hlt] at hy
   cases hy
   have hv6:=a6 i v hv
   unfold verB q4A at hv6 ⊢
   simp only [Bool.and_eq_true,decide_eq_true_eq,List.length_set] at hv6 ⊢
   obtain⟨⟨⟨b1,b2⟩,b3⟩,b4⟩:=hv6
   refine⟨⟨⟨b1,b2⟩,?_⟩,b4⟩
   rw [allI_iff] at b3 ⊢
   intro q z hz
   rw [List.getElem?_set] at hz
   split at hz
   ·rename_i hjq
    subst hjq
    have hlt2:=(List.getElem?_eq_some_iff.1 hx).1
    rw [if_pos hlt2] at hz
    cases hz
    have hg:=b3 j x hx
    unfold qME at hg ⊢
    exact hg
   ·exact b3 q z hz
  ·exact a6 p y hy
theorem qSQ {w:Wd} (h:wdB w=true) {i:Nat} {row row':List Int} (hr:w.counts[i]?=some row) (hl:row'.length=6):wdB {w with counts:=w.counts.set i row'}=true:=by
 refine q9I h ?_ rfl rfl rfl rfl (Int.le_refl _)
 have hg:=qiC h
 unfold qCB qED at hg ⊢
 simp only [Bool.and_eq_true,List.length_set,List.all_eq_true,decide_eq_true_eq] at hg ⊢
 obtain⟨⟨⟨⟨⟨⟨⟨h1,h2⟩,h3⟩,⟨⟨h4,h5⟩,h6⟩⟩,h7⟩,h8⟩,h9⟩,h10⟩:=hg
 refine⟨⟨⟨⟨⟨⟨⟨h1,h2⟩,h3⟩,⟨⟨fun r hr'=>?_,h5⟩,h6⟩⟩,h7⟩,h8⟩,h9⟩,h10⟩
 rcases List.mem_or_eq_of_mem_set hr' with hr' | rfl
 ·exact h4 r hr'
 ·exact hl
theorem q9D {α:Type} {l:List α} {i:Nat} {x y:α} (h:l[i]?=some x):(l.set i y)[i]?=some y:=by
 have:=(List.getElem?_eq_some_iff.1 h).1
 rw [List.getElem?_set_self (by omega)]
theorem SuitP.setEnd {w:Wd} {m:Mach} {v:Version} {gr:Group} {en en':EndC} (h:SuitP w m v gr en) (hl:en'.next.length=en.next.length) (hr:wdB (setG w m.version.toNat m.cluster.toNat v {gr with ends:=gr.ends.set m.end_.toNat en'})=true) :
  SuitP (setG w m.version.toNat m.cluster.toNat v {gr with ends:=gr.ends.set m.end_.toNat en'}) m {v with groups:=v.groups.set m.cluster.toNat {gr with ends:=gr.ends.set m.end_.toNat en'}} {gr with ends:=gr.ends.set m.end_.toNat en'} en' :=
 ⟨hr,h.thread,h.done,⟨h.ver.1,q9D h.ver.2⟩,⟨h.clu.1,q9D h.clu.2⟩,⟨h.end_.1,q9D h.end_.2⟩,⟨h.other.1,by show m.other<(((gr.ends.set _ _).length:Nat):Int);rw [List.length_set];exact h.other.2⟩,⟨h.slot.1,by rw [hl];exact h.slot.2⟩,h.listen,h.i,h.k⟩
theorem SuitP.setTick {w:Wd} {m:Mach} {v:Version} {gr:Group} {en:EndC} (h:SuitP w m v gr en) (t:Int) :
  SuitP (setG w m.version.toNat m.cluster.toNat v {gr with ticket:=t}) m {v with groups:=v.groups.set m.cluster.toNat {gr with ticket:=t}} {gr with ticket:=t} en :=
 ⟨qxS h.right h.ver.2 h.clu.2 t,h.thread,h.done,⟨h.ver.1,q9D h.ver.2⟩,⟨h.clu.1,q9D h.clu.2⟩,h.end_,h.other,h.slot,h.listen,h.i,h.k⟩
theorem SuitP.setLis {w:Wd} {m:Mach} {v:Version} {gr:Group} {en:EndC} (h:SuitP w m v gr en) {x:Listen} (hr:wdB (setLis w m x)=true):SuitP (setLis w m x) m v gr en :=
 ⟨hr,h.thread,h.done,h.ver,h.clu,h.end_,h.other,h.slot,⟨h.listen.1,by show m.listen<(((w.listens.set _ _).length:Nat):Int);rw [List.length_set];exact h.listen.2⟩,h.i,h.k⟩
theorem SuitP.setCounts {w:Wd} {m:Mach} {v:Version} {gr:Group} {en:EndC} (h:SuitP w m v gr en) {c:List (List Int)} (hr:wdB {w with counts:=c}=true):SuitP {w with counts:=c} m v gr en :=
 ⟨hr,h.thread,h.done,h.ver,h.clu,h.end_,h.other,h.slot,h.listen,h.i,h.k⟩
theorem SuitP.endB {w:Wd} {m:Mach} {v:Version} {gr:Group} {en:EndC} (h:SuitP w m v gr en):endB en=true:=by
 obtain⟨c,_,_,h3⟩:=(qZE h.right h.ver.2).grp _ _ h.clu.2
 exact(h3 en (List.mem_of_getElem? h.end_.2)).1
theorem SuitP.cl {w:Wd} {m:Mach} {v:Version} {gr:Group} {en:EndC} (h:SuitP w m v gr en):v.snap.clusters[m.cluster.toNat]?=some (mC w m)∧gr.ends.length=(mC w m).health.length:=by
 obtain⟨c,hc,h2,_⟩:=(qZE h.right h.ver.2).grp _ _ h.clu.2
 have:mC w m=c:=by unfold mC;rw [h.at_.1,hc];rfl
 rw [this];exact⟨hc,h2⟩
theorem SuitP.row {w:Wd} {m:Mach} {v:Version} {gr:Group} {en:EndC} (h:SuitP w m v gr en):∃ row,w.counts[m.thread.toNat]?=some row∧row.length=6:=by
 obtain⟨h1,h2,h3,h4⟩:=qJN h.right
 obtain⟨row,hr⟩:=qBA (l:=w.counts) (i:=m.thread.toNat) (by have:=h.thread;omega)
 unfold qED at h2
 simp only [Bool.and_eq_true,List.all_eq_true,decide_eq_true_eq] at h2
 exact⟨row,hr,h2.1.1 row (List.mem_of_getElem? hr)⟩
theorem SuitP.lis {w:Wd} {m:Mach} {v:Version} {gr:Group} {en:EndC} (h:SuitP w m v gr en) (hl:0≤m.listen):w.listens[m.listen.toNat]?=some (mL w m)∧qoL (mL w m)=true:=by
 obtain⟨x,hx⟩:=qBA (l:=w.listens) (i:=m.listen.toNat) (by have:=h.listen;omega)
 have e:mL w m=x:=by unfold mL;rw [hx];rfl
 rw [e]
 obtain⟨_,_,_,_,_,h7⟩:=qtD h.right
 rw [allI_iff] at h7
 have:=h7 _ _ hx
 unfold q2A at this
 simp only [Bool.and_eq_true] at this
 exact⟨hx,this.1⟩
theorem SuitP.idx {w:Wd} {m:Mach} {v:Version} {gr:Group} {en:EndC} (hS:SuitP w m v gr en):(0≤m.version∧m.version<w.versions.length)∧(0≤m.cluster∧m.cluster<v.groups.length)∧0≤m.end_∧m.end_<gr.ends.length :=
 ⟨⟨hS.ver.1,by have:=(List.getElem?_eq_some_iff.1 hS.ver.2).1;omega⟩,⟨hS.clu.1,by have:=(List.getElem?_eq_some_iff.1 hS.clu.2).1;omega⟩,hS.end_.1,by have:=(List.getElem?_eq_some_iff.1 hS.end_.2).1;omega⟩
/- qXB laws of requests: what keeps on along a request's way. -/
structure HInv (k:Int) (w:Wd) (m:Mach) (n:Int):Prop where
 suit:qfB w m=true
 pc:m.pc=k
 la:∀ x∈w.listens,x.active≤n+1∧(k≤4→x.active≤n)
 ea:∀ v∈w.versions,∀ g∈v.groups,∀ e∈g.ends,e.active≤n+1∧(k≤12→e.active≤n)
 range:0≤k∧k≤23∧¬ (12<k∧k<20):=by omega
 lst:k=4∨k=5∨k=22→0≤m.listen:=by intros;omega
 pin:k<3→PinInv w m:=by intros;omega
 ver:4≤k→m.version=w.current:=by intros;omega
 nul:4≤k→k≤8→m.slot=0:=by intros;omega
 nu2:4≤k→k≤5→m.end_=0∧m.other=0:=by intros;omega
 lis:5≤k→k≤22→0≤m.listen→1≤(mL w m).active:=by intros;omega
 hd:10≤k→k≤11→m.word=(mE w m m.end_).head∧m.slot=idxT m.word:=by intros;omega
 lk:k=11→m.link=nxtL (mE w m m.end_).next m.slot:=by intros;omega
 kd:20≤k→1≤m.answer.kind∧m.answer.kind≤5:=by intros;omega
theorem HInv.go {k:Int} {w:Wd} {m:Mach} {n:Int} (h:HInv k w m n):hGo w m :=
 ⟨h.suit,by rw [h.pc];exact h.range,by rw [h.pc];intro hx;have:=h.lst hx.2;omega⟩
structure HTold (w:Wd) (m:Mach) (w':Wd) (m':Mach) (e:Ev):Prop where
 acc:e.access≠0
 thr:e.thread=m.thread
 right:wdB w'=true
 cur:w'.current=w.current
 ep:w'.epoch=w.epoch
 thr':m'.thread=m.thread
 op:m'.op=m.op
 ver:0≤e.version→e.version=w.current∧e.freed=false
 done:e.done=m'.done
 ans:e.done=true→e.answer=m'.answer
theorem SuitP.suit {w:Wd} {m:Mach} {v:Version} {gr:Group} {en:EndC} (h:SuitP w m v gr en):qfB w m=true:=suitB_iff.2 ⟨v,gr,en,h⟩
theorem SuitP.mE {w:Wd} {m:Mach} {v:Version} {gr:Group} {en:EndC} (h:SuitP w m v gr en):mE w m m.end_=en:=h.at_.2.2
theorem SuitP.mach {w:Wd} {m m':Mach} {v:Version} {gr:Group} {en:EndC} (h:SuitP w m v gr en) (k1:m'.thread=m.thread) (k2:m'.done=m.done) (k3:m'.version=m.version) (k4:m'.cluster=m.cluster) (k5:m'.end_=m.end_) (k6:m'.other=m.other) (k7:m'.slot=m.slot) (k8:m'.listen=m.listen) (k9:0≤m'.i) (k10:m'.k=m.k):SuitP w m' v gr en :=
 ⟨h.right,by rw [k1];exact h.thread,by rw [k2];exact h.done,by rw [k3];exact h.ver,by rw [k4];exact h.clu,by rw [k5];exact h.end_,by rw [k6];exact h.other,by rw [k7];exact h.slot,by rw [k8];exact h.listen,k9,by rw [k10];exact h.k⟩
section
variable {k n:Int} {w:Wd} {m:Mach}
theorem HInv.freed (h:HInv k w m n) (h4:4≤k):m.version=w.current∧(mV w m).freed=false:=by
 obtain⟨v,gr,en,hS⟩:=suitB_iff.1 h.suit
 obtain⟨v',hv,hf,_⟩:=qUR hS.right
 have hm:=h.ver h4
 refine⟨hm,?_⟩
 rw [hS.at_.1]
 have:=hS.ver.2
 rw [hm,hv] at this
 cases this
 exact hf
theorem qqD (h:HInv k w m n) (h4:4≤k) {a c x:Int} (ha:a≠0) {w':Wd} {m':Mach} (hr:wdB w'=true) (hc:w'.current=w.current) (he:w'.epoch=w.epoch) (ht:m'.thread=m.thread) (ho:m'.op=m.op) (hd:m'.done=false):HTold w m w' m' (evV w m a c x):=by
 obtain⟨k1,k2⟩:=h.freed h4
 exact⟨ha,rfl,hr,hc,he,ht,ho,fun _=>⟨k1,k2⟩,hd.symm,fun hx=>by cases hx⟩
theorem qJD {a c x:Int} (ha:a≠0) {w':Wd} {m':Mach} (hr:wdB w'=true) (hc:w'.current=w.current) (he:w'.epoch=w.epoch) (ht:m'.thread=m.thread) (ho:m'.op=m.op) (hd:m'.done=false):HTold w m w' m' (evO m a c x) :=
 ⟨ha,rfl,hr,hc,he,ht,ho,fun hx=>by have:(-1:Int) ≥ 0:=hx;omega,hd.symm,fun hx=>by cases hx⟩
theorem qUN {a c x:Int} (ha:a≠0) {w':Wd} {m':Mach} (hr:wdB w'=true) (hc:w'.current=w.current) (he:w'.epoch=w.epoch) (ht:m'.thread=m.thread) (ho:m'.op=m.op) (hd:m'.done=false):HTold w m w' m' {evO m a c x with point:=true} :=
 ⟨ha,rfl,hr,hc,he,ht,ho,fun hx=>by have:(-1:Int) ≥ 0:=hx;omega,hd.symm,fun hx=>by cases hx⟩
end
abbrev qeC (w:Wd) (m:Mach) (n:Int):Prop:=HTold w m (hsW w m) (hsM w m) (hsE w m)∧∃ k,HInv k (hsW w m) (hsM w m) n
theorem SuitP.zero {w:Wd} {m:Mach} {v:Version} {gr:Group} {en:EndC} (hS:SuitP w m v gr en) {i j:Int} {v':Version} {gr':Group} (hv:0≤i∧w.versions[i.toNat]?=some v') (hg:0≤j∧v'.groups[j.toNat]?=some gr') {k o:Int} (hk:0≤k∧k<gr'.ends.length) (ho:0≤o∧o<gr'.ends.length) (m':Mach) (k1:m'.thread=m.thread) (k2:m'.done=m.done) (k3:m'.version=i) (k4:m'.cluster=j) (k5:m'.end_=k) (k6:m'.other=o) (k7:m'.slot=0) (k8:-1≤m'.listen∧m'.listen<w.listens.length) (k9:m'.i=m.i) (k10:m'.k=m.k):qfB w m'=true:=by
 have hV:=qZE hS.right hv.2
 obtain⟨c,_,_,_,_,_,hall⟩:=hV.ends hg.2
 obtain⟨en',hen⟩:=qBA (l:=gr'.ends) (i:=k.toNat) (by omega)
 have hnx:=(hall en' (List.mem_of_getElem? hen)).2
 exact SuitP.suit (v:=v') (gr:=gr') (en:=en') ⟨hS.right,by rw [k1];exact hS.thread,by rw [k2];exact hS.done,by rw [k3];exact hv,by rw [k4];exact hg,by rw [k5];exact⟨hk.1,hen⟩,by rw [k6];exact ho,by rw [k7];omega,k8,by rw [k9];exact hS.i,by rw [k10];exact hS.k⟩
theorem qpQ (l:List Listen) (s:BA):-1≤qMB l s∧qMB l s<l.length:=by
 rcases Int.lt_or_le (qMB l s) 0 with hl|hl
 ·refine⟨?_,by omega⟩
  unfold qMB at hl ⊢
  cases hh:idxO (fun (x:Listen)=>bs x.name==bs s) l with
  | none=>rw [hh] at hl;exact(by decide:(-1:Int)≤-1)
  | some j=>rw [hh] at hl;simp only [idxI] at hl;omega
 ·obtain⟨_,_,hlt⟩:=qAT hl
  omega
section
variable {n:Int} {w:Wd} {m:Mach}
theorem HInv.s3 (h:HInv 3 w m n):qeC w m n:=by
 obtain⟨eW,eM,eE⟩:=qmI h.go (by rw [h.pc];decide)
 obtain⟨kW,kM,kE⟩:=ha3 h.pc
 unfold qeC
 rw [eW,eM,eE,kW,kM,kE]
 obtain⟨v,gr,en,hS⟩:=suitB_iff.1 h.suit
 obtain⟨v',hv,_,hc0,hc1⟩:=qUR hS.right
 have hV:=qZE hS.right hv
 obtain⟨gr',hg⟩:=qBA (l:=v'.groups) (i:=0) (by have:=hV.groups;omega)
 obtain⟨c,_,_,hge,_,_,hall⟩:=hV.ends hg
 have hpl:=qpQ w.listens m.op.listen
 have S:=hS.zero (i:=w.current) (j:=0) ⟨hc0,hv⟩ ⟨Int.le_refl _,hg⟩ (k:=0) (o:=0) (by omega) (by omega)
 unfold hM3
 split
 ·exact⟨qUN (by decide) hS.right rfl rfl rfl rfl hS.done,20,{suit:=S _ rfl rfl rfl rfl rfl rfl rfl hpl rfl rfl,pc:=rfl,la:=fun x hx=>⟨(h.la x hx).1,by intros;omega⟩,ea:=fun v hv g hg e he=>⟨(h.ea v hv g hg e he).1,by intros;omega⟩,ver:=fun _=>rfl,lis:=fun _ _ (hx:0≤qMB w.listens m.op.listen)=>by omega,kd:=fun _=>show(1:Int)≤2∧(2:Int)≤5 by decide}⟩
 ·rename_i hl
  exact⟨qUN (by decide) hS.right rfl rfl rfl rfl hS.done,4,{suit:=S _ rfl rfl rfl rfl rfl rfl rfl hpl rfl rfl,pc:=rfl,la:=fun x hx=>⟨(h.la x hx).1,fun _=>(h.la x hx).2 (by decide)⟩,ea:=fun v hv g hg e he=>⟨(h.ea v hv g hg e he).1,fun _=>(h.ea v hv g hg e he).2 (by decide)⟩,lst:=fun _=>by show 0≤qMB w.listens m.op.listen;omega,ver:=fun _=>rfl,nul:=fun _ _=>rfl,nu2:=fun _ _=>⟨rfl,rfl⟩}⟩
theorem qeV {x x':Listen} (hx:w.listens[m.listen.toNat]?=some x):mL (setLis w m x') m=x':=by
 unfold mL
 show((w.listens.set m.listen.toNat x')[m.listen.toNat]?).getD _=_
 rw [q9D hx];rfl
theorem gate_all {x:Listen}:qoL x=true↔qxB (bs x.name)=true∧0≤x.active∧(x.drain||!x.closed)=true:=by
 unfold qoL
 simp only [Bool.and_eq_true,decide_eq_true_eq,and_assoc]
theorem qAU {x:Int} (h:InR x):wI x=x:=wr h
theorem HInv.s4 (h:HInv 4 w m n) (hn:0≤n∧n≤2000000):qeC w m n:=by
 obtain⟨eW,eM,eE⟩:=qmI h.go (by rw [h.pc];decide)
 obtain⟨kW,kM,kE⟩:=ha4 h.pc
 unfold qeC
 rw [eW,eM,eE,kW,kM,kE]
 obtain⟨v,gr,en,hS⟩:=suitB_iff.1 h.suit
 have hli:=h.lst (.inl rfl)
 obtain⟨hx,hg⟩:=hS.lis hli
 have hle:=(h.la _ (List.mem_of_getElem? hx)).2 (by decide)
 obtain⟨g1,g2,g3⟩:=gate_all.1 hg
 have hw:wI ((mL w m).active+1)=(mL w m).active+1:=qAU (by unfold InR;omega)
 rw [hw]
 have hr:=qxL hS.right hx (x':={mL w m with active:=(mL w m).active+1}) rfl (gate_all.2 ⟨g1,by show 0≤(mL w m).active+1;omega,g3⟩)
 refine⟨qJD (by decide) hr rfl rfl rfl rfl hS.done,5,{suit:=((hS.setLis hr).mach (m':={m with pc:=5}) rfl rfl rfl rfl rfl rfl rfl rfl hS.i rfl).suit,pc:=rfl,la:=fun y hy=>⟨?_,by intros;omega⟩,ea:=fun v hv g hg e he=>⟨(h.ea v hv g hg e he).1,fun _=>(h.ea v hv g hg e he).2 (by decide)⟩,lst:=fun _=>hli,ver:=fun _=>h.ver (by decide),nul:=fun _ _=>h.nul (by decide) (by decide),nu2:=fun _ _=>h.nu2 (by decide) (by decide),lis:=fun _ _ _=>?_}⟩
 ·rcases List.mem_or_eq_of_mem_set hy with hy|rfl
  ·exact(h.la y hy).1
  ·show(mL w m).active+1≤n+1;omega
 ·rw [show mL (setLis w m {mL w m with active:=(mL w m).active+1}) {m with pc:=5}={mL w m with active:=(mL w m).active+1} from qeV (w:=w) (m:=m) hx]
  show 1≤(mL w m).active+1;omega
theorem mC_at {v:Version} (hv:mV w m=v) {c:Int} {ck:Cluster} (hc:v.snap.clusters[c.toNat]?=some ck):mC w {m with cluster:=c}=ck:=by
 unfold mC
 rw [show mV w {m with cluster:=c}=v from hv]
 show(v.snap.clusters[c.toNat]?).getD _=_
 rw [hc];rfl
theorem qdK {c:Cluster} (t:Int) (h:1≤c.health.length):0≤qeK c t∧qeK c t<c.health.length:=by
 by_cases hn:qYB c=[]
 ·have:qeK c t=0:=by simp [qeK,hn]
  omega
 ·exact qBU hn
theorem HInv.s5 (h:HInv 5 w m n):qeC w m n:=by
 obtain⟨eW,eM,eE⟩:=qmI h.go (by rw [h.pc];decide)
 obtain⟨kW,kM,kE⟩:=ha5 h.pc
 unfold qeC
 rw [eW,eM,eE,kW,kM,kE]
 obtain⟨v,gr,en,hS⟩:=suitB_iff.1 h.suit
 have hla:∀ x∈w.listens,x.active≤n+1:=fun x hx=>(h.la x hx).1
 have hea:∀ v∈w.versions,∀ g∈v.groups,∀ e∈g.ends,e.active≤n+1:=fun v hv g hg e he=>(h.ea v hv g hg e he).1
 have hea2:∀ v∈w.versions,∀ g∈v.groups,∀ e∈g.ends,e.active≤n:=fun v hv g hg e he=>(h.ea v hv g hg e he).2 (by decide)
 have hver:=h.ver (by decide)
 have hlis:=h.lis (by decide) (by decide)
 have hnul:=h.nul (by decide) (by decide)
 obtain⟨hn1,hn2⟩:=h.nu2 (by decide) (by decide)
 unfold hM5 hE5
 split
 ·exact⟨qUN (by decide) hS.right rfl rfl rfl rfl hS.done,20,{suit:=(hS.mach (m':=q9M m 5) rfl rfl rfl rfl rfl rfl rfl rfl hS.i rfl).suit,pc:=rfl,la:=fun x hx=>⟨hla x hx,by intros;omega⟩,ea:=fun v hv g hg e he=>⟨hea v hv g hg e he,by intros;omega⟩,ver:=fun _=>hver,lis:=fun _ _=>hlis,kd:=fun _=>show(1:Int)≤5∧(5:Int)≤5 by decide}⟩
 ·unfold qrT
  rw [hS.at_.1]
  split
  ·exact⟨qJD (by decide) hS.right rfl rfl rfl rfl hS.done,20,{suit:=(hS.mach (m':=q9M m 2) rfl rfl rfl rfl rfl rfl rfl rfl hS.i rfl).suit,pc:=rfl,la:=fun x hx=>⟨hla x hx,by intros;omega⟩,ea:=fun v hv g hg e he=>⟨hea v hv g hg e he,by intros;omega⟩,ver:=fun _=>hver,lis:=fun _ _=>hlis,kd:=fun _=>show(1:Int)≤2∧(2:Int)≤5 by decide}⟩
  ·rename_i c hf
   have hVP:=qZE hS.right hS.ver.2
   have hfr:=qbT hVP.good hf
   obtain⟨gk,hgk⟩:=qBA (l:=v.groups) (i:=c.toNat) (by have:=hVP.len;omega)
   obtain⟨ck,hck,he2,he1,he4,_,_⟩:=hVP.ends hgk
   rw [mC_at hS.at_.1 hck]
   have S:=fun (k o:Int) (hk:0≤k∧k<gk.ends.length) (ho:0≤o∧o<gk.ends.length)=>hS.zero (i:=m.version) (j:=c) hS.ver ⟨hfr.1,hgk⟩ hk ho
   split
   ·exact⟨qJD (by decide) hS.right rfl rfl rfl rfl hS.done,20,{suit:=S 0 0 (by omega) (by omega) (q9M {m with cluster:=c} 3) rfl rfl rfl rfl hn1 hn2 hnul hS.listen rfl rfl,pc:=rfl,la:=fun x hx=>⟨hla x hx,by intros;omega⟩,ea:=fun v hv g hg e he=>⟨hea v hv g hg e he,by intros;omega⟩,ver:=fun _=>hver,lis:=fun _ _=>hlis,kd:=fun _=>show(1:Int)≤3∧(3:Int)≤5 by decide}⟩
   ·split
    ·exact⟨qJD (by decide) hS.right rfl rfl rfl rfl hS.done,6,{suit:=S 0 0 (by omega) (by omega) {m with cluster:=c,pc:=6} rfl rfl rfl rfl hn1 hn2 hnul hS.listen rfl rfl,pc:=rfl,la:=fun x hx=>⟨hla x hx,by intros;omega⟩,ea:=fun v hv g hg e he=>⟨hea v hv g hg e he,fun _=>hea2 v hv g hg e he⟩,ver:=fun _=>hver,nul:=fun _ _=>hnul,lis:=fun _ _=>hlis}⟩
    ·have hd0:=qdK (c:=ck) m.op.d0 (by omega)
     have hd1:=qdK (c:=ck) m.op.d1 (by omega)
     exact⟨qJD (by decide) hS.right rfl rfl rfl rfl hS.done,7,{suit:=S (qFR ck m.op.d0) (qFR ck m.op.d1) (by rw [he2];exact hd0) (by rw [he2];exact hd1) {m with cluster:=c,end_:=qFR ck m.op.d0,other:=qFR ck m.op.d1,pc:=7} rfl rfl rfl rfl rfl rfl hnul hS.listen rfl rfl,pc:=rfl,la:=fun x hx=>⟨hla x hx,by intros;omega⟩,ea:=fun v hv g hg e he=>⟨hea v hv g hg e he,fun _=>hea2 v hv g hg e he⟩,ver:=fun _=>hver,nul:=fun _ _=>hnul,lis:=fun _ _=>hlis}⟩
theorem HInv.s6 (h:HInv 6 w m n):qeC w m n:=by
 obtain⟨eW,eM,eE⟩:=qmI h.go (by rw [h.pc];decide)
 obtain⟨kW,kM,kE⟩:=ha6 h.pc
 unfold qeC
 rw [eW,eM,eE,kW,kM,kE]
 obtain⟨v,gr,en,hS⟩:=suitB_iff.1 h.suit
 obtain⟨hmV,hmG,hmE⟩:=hS.at_
 rw [hmV,hmG]
 have hT:=hS.setTick (wU (gr.ticket+1))
 have hcl:=hS.cl
 obtain⟨_,_,_,he1,he4,_,_⟩:=(qZE hS.right hS.ver.2).ends hS.clu.2
 have ht:=qdK (c:=mC w m) gr.ticket (by omega)
 refine⟨qqD h (by decide) (by decide) hT.right rfl rfl rfl rfl hS.done,9,{suit:=hT.zero hT.ver hT.clu (k:=qeK (mC w m) gr.ticket) (o:=m.other) (by show 0≤_∧_<((gr.ends.length:Nat):Int);omega) hS.other {m with end_:=qeK (mC w m) gr.ticket,pc:=9} rfl rfl rfl rfl rfl rfl (h.nul (by decide) (by decide)) hS.listen rfl rfl,pc:=rfl,la:=fun x hx=>⟨(h.la x hx).1,by intros;omega⟩,ea:=fun v' hv g hg e he=>?_,ver:=fun _=>h.ver (by decide),lis:=fun _ _=>h.lis (by decide) (by decide)}⟩
 rcases List.mem_or_eq_of_mem_set hv with hv|rfl
 ·exact⟨(h.ea v' hv g hg e he).1,fun _=>(h.ea v' hv g hg e he).2 (by decide)⟩
 ·have hvm:=List.mem_of_getElem? hS.ver.2
  rcases List.mem_or_eq_of_mem_set hg with hg|rfl
  ·exact⟨(h.ea v hvm g hg e he).1,fun _=>(h.ea v hvm g hg e he).2 (by decide)⟩
  ·have hgm:=List.mem_of_getElem? hS.clu.2
   exact⟨(h.ea v hvm gr hgm e he).1,fun _=>(h.ea v hvm gr hgm e he).2 (by decide)⟩
theorem HInv.s7 (h:HInv 7 w m n):qeC w m n:=by
 obtain⟨eW,eM,eE⟩:=qmI h.go (by rw [h.pc];decide)
 obtain⟨kW,kM,kE⟩:=ha7 h.pc
 unfold qeC
 rw [eW,eM,eE,kW,kM,kE]
 obtain⟨v,gr,en,hS⟩:=suitB_iff.1 h.suit
 rw [hS.mE]
 exact⟨qqD h (by decide) (by decide) hS.right rfl rfl rfl rfl hS.done,8,{suit:=(hS.mach (m':={m with i:=en.active,pc:=8}) rfl rfl rfl rfl rfl rfl rfl rfl (q2I hS.endB).2.2.2 rfl).suit,pc:=rfl,la:=fun x hx=>⟨(h.la x hx).1,by intros;omega⟩,ea:=fun v' hv g hg e he=>⟨(h.ea v' hv g hg e he).1,fun _=>(h.ea v' hv g hg e he).2 (by decide)⟩,ver:=fun _=>h.ver (by decide),nul:=fun _ _=>h.nul (by decide) (by decide),lis:=fun _ _=>h.lis (by decide) (by decide)}⟩
theorem qMS {a x b y k:Int} (h1:0≤a∧a<k) (h2:0≤b∧b<k):0≤qhP a x b y∧qhP a x b y<k:=by unfold qhP;split<;>assumption
theorem HInv.s8 (h:HInv 8 w m n):qeC w m n:=by
 obtain⟨eW,eM,eE⟩:=qmI h.go (by rw [h.pc];decide)
 obtain⟨kW,kM,kE⟩:=ha8 h.pc
 unfold qeC
 rw [eW,eM,eE,kW,kM,kE]
 obtain⟨v,gr,en,hS⟩:=suitB_iff.1 h.suit
 have hlt:=(List.getElem?_eq_some_iff.1 hS.end_.2).1
 have hle:=qMS (x:=m.i) (y:=(mE w m m.other).active) (k:=gr.ends.length) ⟨hS.end_.1,by omega⟩ hS.other
 exact⟨qqD h (by decide) (by decide) hS.right rfl rfl rfl rfl hS.done,9,{suit:=hS.zero hS.ver hS.clu (k:=qhP m.end_ m.i m.other (mE w m m.other).active) (o:=m.other) hle hS.other {m with end_:=qhP m.end_ m.i m.other (mE w m m.other).active,pc:=9} rfl rfl rfl rfl rfl rfl (h.nul (by decide) (by decide)) hS.listen rfl rfl,pc:=rfl,la:=fun x hx=>⟨(h.la x hx).1,by intros;omega⟩,ea:=fun v' hv g hg e he=>⟨(h.ea v' hv g hg e he).1,fun _=>(h.ea v' hv g hg e he).2 (by decide)⟩,ver:=fun _=>h.ver (by decide),lis:=fun _ _=>h.lis (by decide) (by decide)}⟩
theorem HInv.s9 (h:HInv 9 w m n):qeC w m n:=by
 obtain⟨eW,eM,eE⟩:=qmI h.go (by rw [h.pc];decide)
 obtain⟨kW,kM,kE⟩:=ha9 h.pc
 unfold qeC
 rw [eW,eM,eE,kW,kM,kE]
 obtain⟨v,gr,en,hS⟩:=suitB_iff.1 h.suit
 have hme:=hS.mE
 unfold hM9
 rw [hme]
 split
 ·rename_i hi
  have hS':SuitP w {m with word:=en.head,slot:=idxT en.head,pc:=10} v gr en:=⟨hS.right,hS.thread,hS.done,hS.ver,hS.clu,hS.end_,hS.other,hi,hS.listen,hS.i,hS.k⟩
  exact⟨qqD h (by decide) (by decide) hS.right rfl rfl rfl rfl hS.done,10,{suit:=hS'.suit,pc:=rfl,la:=fun x hx=>⟨(h.la x hx).1,by intros;omega⟩,ea:=fun v' hv g hg e he=>⟨(h.ea v' hv g hg e he).1,fun _=>(h.ea v' hv g hg e he).2 (by decide)⟩,ver:=fun _=>h.ver (by decide),lis:=fun _ _=>h.lis (by decide) (by decide),hd:=fun _ _=>⟨by rw [hS'.mE],rfl⟩}⟩
 ·exact⟨qqD h (by decide) (by decide) hS.right rfl rfl rfl rfl hS.done,20,{suit:=(hS.mach (m':=q9M {m with word:=en.head} 4) rfl rfl rfl rfl rfl rfl rfl rfl hS.i rfl).suit,pc:=rfl,la:=fun x hx=>⟨(h.la x hx).1,by intros;omega⟩,ea:=fun v' hv g hg e he=>⟨(h.ea v' hv g hg e he).1,by intros;omega⟩,ver:=fun _=>h.ver (by decide),lis:=fun _ _=>h.lis (by decide) (by decide),kd:=fun _=>show(1:Int)≤4∧(4:Int)≤5 by decide}⟩
theorem HInv.s10 (h:HInv 10 w m n):qeC w m n:=by
 obtain⟨eW,eM,eE⟩:=qmI h.go (by rw [h.pc];decide)
 obtain⟨kW,kM,kE⟩:=ha10 h.pc
 unfold qeC
 rw [eW,eM,eE,kW,kM,kE]
 obtain⟨v,gr,en,hS⟩:=suitB_iff.1 h.suit
 exact⟨qqD h (by decide) (by decide) hS.right rfl rfl rfl rfl hS.done,11,{suit:=(hS.mach (m':={m with link:=((mE w m m.end_).next[m.slot.toNat]?).getD 0,pc:=11}) rfl rfl rfl rfl rfl rfl rfl rfl hS.i rfl).suit,pc:=rfl,la:=fun x hx=>⟨(h.la x hx).1,by intros;omega⟩,ea:=fun v' hv g hg e he=>⟨(h.ea v' hv g hg e he).1,fun _=>(h.ea v' hv g hg e he).2 (by decide)⟩,ver:=fun _=>h.ver (by decide),lis:=fun _ _=>h.lis (by decide) (by decide),hd:=fun _ _=>h.hd (by decide) (by decide),lk:=fun _=>rfl}⟩
theorem HInv.pop (h:HInv 11 w m n) {v:Version} {gr:Group} {en:EndC} (hS:SuitP w m v gr en):∃ r,qID en=some (m.slot :: r)∧casB w m=true∧{en with head:=qDO m.word m.link}=popE en∧endB (popE en)=true∧qfC (popE en)=qfC en+1:=by
 obtain⟨h1,h2⟩:=h.hd (by decide) (by decide)
 have h3:=h.lk rfl
 rw [hS.mE] at h1 h3
 obtain⟨l,hl⟩:=(q2I hS.endB).1
 rw [h1] at h2
 rcases qVO hl with ⟨_,hm1⟩|⟨x,r,rfl,hx,_⟩
 ·have:=hS.slot
  omega
 ·obtain⟨p1,p2,p3,p4,p5,_⟩:=qQV hS.endB hl
  have hsx:m.slot=x:=by rw [h2,hx]
  refine⟨r,by rw [hsx];exact hl,?_,?_,p1,p2⟩
  ·unfold casB qCH
   rw [hS.mE,h1,h3,hsx]
   simp only [Bool.and_eq_true,decide_eq_true_eq,true_and]
   exact p5
  ·unfold popE
   rw [h1,h3,hsx,hx]
theorem qxT {P:EndC→Prop} {v:Version} {gr:Group} {en en':EndC} (hS:SuitP w m v gr en) (h:∀ v∈w.versions,∀ g∈v.groups,∀ e∈g.ends,P e) (h':P en'):∀ v'∈(setG w m.version.toNat m.cluster.toNat v {gr with ends:=gr.ends.set m.end_.toNat en'}).versions,∀ g∈v'.groups,∀ e∈g.ends,P e:=by
 intro v' hv g hg e he
 rcases List.mem_or_eq_of_mem_set hv with hv|rfl
 ·exact h v' hv g hg e he
 ·have hvm:=List.mem_of_getElem? hS.ver.2
  rcases List.mem_or_eq_of_mem_set hg with hg|rfl
  ·exact h v hvm g hg e he
  ·rcases List.mem_or_eq_of_mem_set he with he|rfl
   ·exact h v hvm gr (List.mem_of_getElem? hS.clu.2) e he
   ·exact h'
theorem HInv.s11 (h:HInv 11 w m n):qeC w m n:=by
 obtain⟨eW,eM,eE⟩:=qmI h.go (by rw [h.pc];decide)
 obtain⟨kW,kM,kE⟩:=ha11 h.pc
 unfold qeC
 rw [eW,eM,eE,kW,kM,kE]
 obtain⟨v,gr,en,hS⟩:=suitB_iff.1 h.suit
 obtain⟨r,hf,hc,hp,he,_⟩:=h.pop hS
 obtain⟨hmV,hmG,hmE⟩:=hS.at_
 simp only [hc,if_true,setE,hmV,hmG,hmE,hp]
 have hr:=qTR hS.right hS.ver.2 hS.clu.2 hS.end_.2 he rfl
 have hS':=hS.setEnd (en':=popE en) rfl hr
 have hold:=h.ea v (List.mem_of_getElem? hS.ver.2) gr (List.mem_of_getElem? hS.clu.2) en (List.mem_of_getElem? hS.end_.2)
 exact⟨qqD h (by decide) (by decide) hr rfl rfl rfl rfl hS.done,12,{suit:=(hS'.mach (m':={m with pc:=12}) rfl rfl rfl rfl rfl rfl rfl rfl hS.i rfl).suit,pc:=rfl,la:=fun x hx=>⟨(h.la x hx).1,by intros;omega⟩,ea:=qxT (P:=fun e=>e.active≤n+1∧((12:Int)≤12→e.active≤n)) hS (fun v' hv g hg e he=>⟨(h.ea v' hv g hg e he).1,fun _=>(h.ea v' hv g hg e he).2 (by decide)⟩) ⟨hold.1,fun _=>hold.2 (by decide)⟩,ver:=fun _=>h.ver (by decide),lis:=fun _ _=>h.lis (by decide) (by decide)}⟩
theorem qrS {en:EndC} (h:endB en=true) {a:Int} (ha:0≤a):endB {en with active:=a}=true∧qfC {en with active:=a}=qfC en:=by
 obtain⟨⟨l,hl⟩,h2,h3,_⟩:=q2I h
 have hf:qID {en with active:=a}=qID en:=rfl
 have:endB {en with active:=a}=true:=by
  unfold endB
  rw [hf,hl]
  simp only [Bool.and_eq_true,decide_eq_true_eq,Option.isSome_some,true_and]
  exact⟨⟨h2,h3⟩,ha⟩
 refine⟨this,?_⟩
 unfold qfC
 rw [this,h,hf]
theorem HInv.s12 (h:HInv 12 w m n) (hn:0≤n∧n≤2000000):qeC w m n:=by
 obtain⟨eW,eM,eE⟩:=qmI h.go (by rw [h.pc];decide)
 obtain⟨kW,kM,kE⟩:=ha12 h.pc
 unfold qeC
 rw [eW,eM,eE,kW,kM,kE]
 obtain⟨v,gr,en,hS⟩:=suitB_iff.1 h.suit
 obtain⟨hmV,hmG,hmE⟩:=hS.at_
 have hold:=h.ea v (List.mem_of_getElem? hS.ver.2) gr (List.mem_of_getElem? hS.clu.2) en (List.mem_of_getElem? hS.end_.2)
 have ha:=(q2I hS.endB).2.2.2
 have hle:=hold.2 (by decide)
 have hw:wI (en.active+1)=en.active+1:=qAU (by unfold InR;omega)
 simp only [setE,hmV,hmG,hmE,hw]
 obtain⟨he,_⟩:=qrS hS.endB (a:=en.active+1) (by omega)
 have hr:=qTR hS.right hS.ver.2 hS.clu.2 hS.end_.2 he rfl
 have hS':=hS.setEnd (en':={en with active:=en.active+1}) rfl hr
 exact⟨qqD h (by decide) (by decide) hr rfl rfl rfl rfl hS.done,20,{suit:=(hS'.mach (m':={m with answer:=⟨1,m.version,m.cluster,m.end_,m.slot,m.listen,0,c60⟩,pc:=20}) rfl rfl rfl rfl rfl rfl rfl rfl hS.i rfl).suit,pc:=rfl,la:=fun x hx=>⟨(h.la x hx).1,by intros;omega⟩,ea:=qxT (P:=fun e=>e.active≤n+1∧((20:Int)≤12→e.active≤n)) hS (fun v' hv g hg e he=>⟨(h.ea v' hv g hg e he).1,by intros;omega⟩) ⟨by show en.active+1≤n+1;omega,by intros;omega⟩,ver:=fun _=>h.ver (by decide),lis:=fun _ _=>h.lis (by decide) (by decide),kd:=fun _=>show(1:Int)≤1∧(1:Int)≤5 by decide}⟩
theorem SuitP.addCnt {v:Version} {gr:Group} {en:EndC} (hS:SuitP w m v gr en) (k:Int):wdB (addCnt w m.thread k)=true∧SuitP (addCnt w m.thread k) m v gr en:=by
 obtain⟨row,hrow,hl⟩:=hS.row
 have hr:wdB (Go.Proofs.YtkogfpniapaigaaGreat.Sx.addCnt w m.thread k)=true:=qSQ hS.right hrow (by rw [hrow];simpa using hl)
 exact⟨hr,hS.setCounts hr⟩
theorem HInv.s20 (h:HInv 20 w m n):qeC w m n:=by
 obtain⟨eW,eM,eE⟩:=qmI h.go (by rw [h.pc];decide)
 obtain⟨kW,kM,kE⟩:=ha20 h.pc
 unfold qeC
 rw [eW,eM,eE,kW,kM,kE]
 obtain⟨v,gr,en,hS⟩:=suitB_iff.1 h.suit
 obtain⟨hr,hS'⟩:=hS.addCnt (qNS m)
 exact⟨qJD (by decide) hr rfl rfl rfl rfl hS.done,21,{suit:=(hS'.mach (m':={m with pc:=21}) rfl rfl rfl rfl rfl rfl rfl rfl hS.i rfl).suit,pc:=rfl,la:=fun x hx=>⟨(h.la x hx).1,by intros;omega⟩,ea:=fun v' hv g hg e he=>⟨(h.ea v' hv g hg e he).1,by intros;omega⟩,ver:=fun _=>h.ver (by decide),lis:=fun _ _=>h.lis (by decide) (by decide),kd:=fun _=>h.kd (by decide)}⟩
theorem HInv.s21 (h:HInv 21 w m n):qeC w m n:=by
 obtain⟨eW,eM,eE⟩:=qmI h.go (by rw [h.pc];decide)
 obtain⟨kW,kM,kE⟩:=ha21 h.pc
 unfold qeC
 rw [eW,eM,eE,kW,kM,kE]
 obtain⟨v,gr,en,hS⟩:=suitB_iff.1 h.suit
 obtain⟨hr,hS'⟩:=hS.addCnt 0
 by_cases hc:m.answer.kind=1∨m.listen<0
 ·rw [if_pos hc]
  exact⟨qJD (by decide) hr rfl rfl rfl rfl hS.done,23,{suit:=(hS'.mach (m':={m with pc:=23}) rfl rfl rfl rfl rfl rfl rfl rfl hS.i rfl).suit,pc:=rfl,la:=fun x hx=>⟨(h.la x hx).1,by intros;omega⟩,ea:=fun v' hv g hg e he=>⟨(h.ea v' hv g hg e he).1,by intros;omega⟩,ver:=fun _=>h.ver (by decide),kd:=fun _=>h.kd (by decide)}⟩
 ·rw [if_neg hc]
  exact⟨qJD (by decide) hr rfl rfl rfl rfl hS.done,22,{suit:=(hS'.mach (m':={m with pc:=22}) rfl rfl rfl rfl rfl rfl rfl rfl hS.i rfl).suit,pc:=rfl,la:=fun x hx=>⟨(h.la x hx).1,by intros;omega⟩,ea:=fun v' hv g hg e he=>⟨(h.ea v' hv g hg e he).1,by intros;omega⟩,lst:=fun _=>by show 0≤m.listen;omega,ver:=fun _=>h.ver (by decide),lis:=fun _ _=>h.lis (by decide) (by decide),kd:=fun _=>h.kd (by decide)}⟩
theorem HInv.s22 (h:HInv 22 w m n) (hn:0≤n∧n≤2000000):qeC w m n:=by
 obtain⟨eW,eM,eE⟩:=qmI h.go (by rw [h.pc];decide)
 obtain⟨kW,kM,kE⟩:=ha22 h.pc
 unfold qeC
 rw [eW,eM,eE,kW,kM,kE]
 obtain⟨v,gr,en,hS⟩:=suitB_iff.1 h.suit
 have hli:=h.lst (.inr (.inr rfl))
 obtain⟨hx,hg⟩:=hS.lis hli
 have hle:=(h.la _ (List.mem_of_getElem? hx)).1
 have hge:=h.lis (by decide) (by decide) hli
 obtain⟨g1,g2,g3⟩:=gate_all.1 hg
 have hw:wI ((mL w m).active-1)=(mL w m).active-1:=qAU (by unfold InR;omega)
 rw [hw]
 have hr:=qxL hS.right hx (x':={mL w m with active:=(mL w m).active-1}) rfl (gate_all.2 ⟨g1,by show 0≤(mL w m).active-1;omega,g3⟩)
 refine⟨qJD (by decide) hr rfl rfl rfl rfl hS.done,23,{suit:=((hS.setLis hr).mach (m':={m with pc:=23}) rfl rfl rfl rfl rfl rfl rfl rfl hS.i rfl).suit,pc:=rfl,la:=fun y hy=>⟨?_,by intros;omega⟩,ea:=fun v hv g hg e he=>⟨(h.ea v hv g hg e he).1,by intros;omega⟩,ver:=fun _=>h.ver (by decide),kd:=fun _=>h.kd (by decide)}⟩
 rcases List.mem_or_eq_of_mem_set hy with hy|rfl
 ·exact(h.la y hy).1
 ·show(mL w m).active-1≤n+1;omega
theorem HInv.s23 (h:HInv 23 w m n):HTold w m (hsW w m) (hsM w m) (hsE w m)∧(hsM w m)={m with done:=true}∧hsW w m={w with pins:=w.pins.set m.thread.toNat 0}:=by
 obtain⟨eW,eM,eE⟩:=qmI h.go (by rw [h.pc];decide)
 obtain⟨kW,kM,kE⟩:=ha23 h.pc
 rw [eW,eM,eE,kW,kM,kE]
 obtain⟨v,gr,en,hS⟩:=suitB_iff.1 h.suit
 unfold offW offE
 rw [h.suit]
 have he:=q7J hS.right
 rw [if_pos rfl,if_pos rfl]
 exact⟨⟨show(2:Int)≠0 by decide,rfl,qQR hS.right (x:=0) (by omega),rfl,rfl,rfl,rfl,fun hx=>by have:(-1:Int) ≥ 0:=hx;omega,rfl,fun _=>rfl⟩,rfl,rfl⟩
theorem HInv.sp {k:Int} (h:HInv k w m n) (hk:k<3):qeC w m n:=by
 have hp:=h.pin hk
 have hr:=h.range
 obtain⟨eW,eM,eE⟩:=qjV (w:=w) (m:=m) (by rw [h.pc];omega)
 unfold qeC
 rw [eW,eM,eE]
 obtain⟨v,gr,en,hS⟩:=suitB_iff.1 h.suit
 obtain⟨a1,a2,a3,a4,a5,a6,a7,a8,a9,a10⟩:=hp.step
 have hev:(pinE w m).thread=m.thread∧(pinE w m).version=-1∧(pinE w m).done=false:=by
  rcases hp.pc with h0|h0|h0
  ·rw [(qRJ h.suit).1 (.inl h0)];exact⟨rfl,rfl,rfl⟩
  ·rw [(qRJ h.suit).2.1 h0];exact⟨rfl,rfl,rfl⟩
  ·rw [(qRJ h.suit).1 (.inr h0)];exact⟨rfl,rfl,rfl⟩
 have hma:(pinM w m).op=m.op∧(pinM w m).done=m.done∧(pinM w m).version=m.version∧(pinM w m).cluster=m.cluster∧(pinM w m).end_=m.end_∧(pinM w m).other=m.other∧(pinM w m).slot=m.slot∧(pinM w m).listen=m.listen∧(pinM w m).i=m.i∧(pinM w m).k=m.k:=by
  rcases hp.pc with h0|h0|h0
  ·rw [(qQJ h.suit).1 h0];exact⟨rfl,rfl,rfl,rfl,rfl,rfl,rfl,rfl,rfl,rfl⟩
  ·rw [(qQJ h.suit).2.1 h0];exact⟨rfl,rfl,rfl,rfl,rfl,rfl,rfl,rfl,rfl,rfl⟩
  ·rw [(qQJ h.suit).2.2.1 h0];exact⟨rfl,rfl,rfl,rfl,rfl,rfl,rfl,rfl,rfl,rfl⟩
 have hcu:(pinW w m).current=w.current:=by unfold pinW;split<;>rfl
 obtain⟨b1,b2,b3,b4,b5,b6,b7,b8,b9,b10⟩:=hma
 have hS':SuitP (pinW w m) (pinM w m) v gr en:=⟨a1,by rw [a3,a5];exact hS.thread,by rw [b2];exact hS.done,by rw [b3,a6];exact hS.ver,by rw [b4];exact hS.clu,by rw [b5];exact hS.end_,by rw [b6];exact hS.other,by rw [b7];exact hS.slot,by rw [b8,a7];exact hS.listen,by rw [b9];exact hS.i,by rw [b10];exact hS.k⟩
 refine⟨⟨a4,hev.1,a1,hcu,a2,a3,b1,fun hx=>by rw [hev.2.1] at hx;omega,by rw [hev.2.2,b2,hS.done],fun hx=>by rw [hev.2.2] at hx;cases hx⟩,?_⟩
 have hla:∀ x∈(pinW w m).listens,x.active≤n+1∧x.active≤n:=fun x hx=>by rw [a7] at hx;exact⟨(h.la x hx).1,(h.la x hx).2 (by omega)⟩
 have hea:∀ v∈(pinW w m).versions,∀ g∈v.groups,∀ e∈g.ends,e.active≤n+1∧e.active≤n:=fun v hv g hg e he=>by rw [a6] at hv;exact⟨(h.ea v hv g hg e he).1,(h.ea v hv g hg e he).2 (by omega)⟩
 rcases a10 with hi|⟨h3,_⟩
 ·have hpc:=hi.pc
  exact⟨(pinM w m).pc,{suit:=hi.suit,pc:=rfl,la:=fun x hx=>⟨(hla x hx).1,fun _=>(hla x hx).2⟩,ea:=fun v hv g hg e he=>⟨(hea v hv g hg e he).1,fun _=>(hea v hv g hg e he).2⟩,range:=by omega,pin:=fun _=>hi}⟩
 ·exact⟨3,{suit:=hS'.suit,pc:=h3,la:=fun x hx=>⟨(hla x hx).1,fun _=>(hla x hx).2⟩,ea:=fun v hv g hg e he=>⟨(hea v hv g hg e he).1,fun _=>(hea v hv g hg e he).2⟩}⟩
end
theorem HInv.step {k n:Int} {w:Wd} {m:Mach} (h:HInv k w m n) (hn:0≤n∧n≤2000000):HTold w m (hsW w m) (hsM w m) (hsE w m)∧(((hsM w m).done=false∧∃ k,HInv k (hsW w m) (hsM w m) n)∨(hsM w m).done=true):=by
 have key:qeC w m n→HTold w m (hsW w m) (hsM w m) (hsE w m)∧(((hsM w m).done=false∧∃ k,HInv k (hsW w m) (hsM w m) n)∨(hsM w m).done=true):=fun ⟨h1,k',h2⟩=>by
  obtain⟨_,_,_,hS⟩:=suitB_iff.1 h2.suit
  exact⟨h1,.inl ⟨hS.done,k',h2⟩⟩
 have hr:=h.range
 by_cases h3:k<3
 ·exact key (h.sp h3)
 ·rcases(by omega:k=3∨k=4∨k=5∨k=6∨k=7∨k=8∨k=9∨k=10∨k=11∨k=12∨k=20∨k=21∨k=22∨k=23) with rfl|rfl|rfl|rfl|rfl|rfl|rfl|rfl|rfl|rfl|rfl|rfl|rfl|rfl
  ·exact key h.s3
  ·exact key (h.s4 hn)
  ·exact key h.s5
  ·exact key h.s6
  ·exact key h.s7
  ·exact key h.s8
  ·exact key h.s9
  ·exact key h.s10
  ·exact key h.s11
  ·exact key (h.s12 hn)
  ·exact key h.s20
  ·exact key h.s21
  ·exact key (h.s22 hn)
  ·obtain⟨h1,h2,_⟩:=h.s23
   exact⟨h1,.inr (by rw [h2])⟩
/- qXB laws of collectors: what each place does. -/
def qlU (v:Version):List EndC:=v.groups.flatMap fun g=>g.ends
def qEU (a now:Int):Prop:=a≤9223372036854775805∧a+2≤now
instance (a now:Int):Decidable (qEU a now):=by unfold qEU;infer_instance
def pnI (w:Wd) (m:Mach):Int:=(w.pins[m.i.toNat]?).getD 0
def lbR (w:Wd) (m:Mach):Retired:=(w.limbo[m.i.toNat]?).getD ⟨0,0,false⟩
def lsL (w:Wd) (m:Mach):Listen:=(w.listens[m.i.toNat]?).getD ⟨⟨#[]⟩,false,0,false⟩
def kE (w:Wd) (m:Mach):EndC:=((qlU (mV w m))[m.k.toNat]?).getD enD
def cMay (w:Wd) (m:Mach):Prop :=
 (m.pc=2→m.i<w.pins.length)∧(m.pc=5→m.k<(qlU (mV w m)).length) ∧
 (m.pc=6→m.i<w.limbo.length∧(lbR w m).version=m.version∧(lbR w m).gone=false) ∧
 (m.pc=9→m.i<w.listens.length)∧(m.pc=10→m.i<w.listens.length∧(lsL w m).drain=true)
abbrev cGo (w:Wd) (m:Mach):Prop:=qfB w m=true∧cMay w m∧(0≤m.pc∧m.pc≤10∧m.pc≠7)
abbrev upE (w:Wd) (m:Mach):Prop:=w.epoch=m.epoch∧w.epoch<1000000000000
def cdW (w:Wd) (m:Mach):Wd:=if (w.listens.length:Int)≤m.i then {w with lock:=0} else w
def ansC (m:Mach):Ans:=⟨11,0,0,0,0,0,m.answer.n,c60⟩
def cdM (w:Wd) (m:Mach):Mach :=
 if (w.listens.length:Int)≤m.i then {m with done:=true,answer:=ansC m}
 else if (lsL w m).drain=true∧(lsL w m).closed=false then {m with pc:=9} else {m with i:=m.i+1}
def cdE (w:Wd) (m:Mach):Ev :=
 if (w.listens.length:Int)≤m.i then {evO m 2 14 0 with done:=true,answer:=ansC m}
 else evO m 1 4 (if (lsL w m).drain then 1 else 0)
def cW (w:Wd) (m:Mach):Wd :=
 if m.pc=0 then (if w.lock=0 then {w with lock:=1} else w)
 else if m.pc=3 then (if upE w m then {w with epoch:=w.epoch+1} else w)
 else if m.pc=4 then (if (w.limbo.length:Int)≤m.i then cdW w {m with i:=0,pc:=8} else w)
 else if m.pc=6 then {w with versions:=w.versions.set m.version.toNat {mV w m with freed:=true},limbo:=w.limbo.set m.i.toNat {lbR w m with gone:=true}}
 else if m.pc=8 then cdW w m
 else if m.pc=10 then {w with listens:=w.listens.set m.i.toNat {lsL w m with closed:=true}}
 else w
def cM (w:Wd) (m:Mach):Mach :=
 if m.pc=0 then (if w.lock=0 then {m with pc:=1} else {m with done:=true,answer:=ansK 12 0})
 else if m.pc=1 then {m with epoch:=w.epoch,pc:=2,i:=0}
 else if m.pc=2 then
  (if pnI w m≠0∧pnI w m≠wI (m.epoch+1) then {m with pc:=4,i:=0}
   else if m.i+1<w.pins.length then {m with i:=m.i+1} else {m with pc:=3,i:=m.i+1})
 else if m.pc=3 then (if upE w m then {m with epoch:=w.epoch+1,pc:=4,i:=0} else {m with pc:=4,i:=0})
 else if m.pc=4 then
  (if (w.limbo.length:Int)≤m.i then cdM w {m with i:=0,pc:=8}
   else if (lbR w m).gone=true∨¬ qEU (lbR w m).at_ m.epoch then {m with i:=m.i+1}
   else {m with version:=(lbR w m).version,cluster:=0,end_:=0,other:=0,slot:=0,k:=0,pc:=5})
 else if m.pc=5 then
  (if (kE w m).active≠0 then {m with pc:=4,i:=wI (m.i+1)}
   else if m.k+1<(qlU (mV w m)).length then {m with k:=m.k+1} else {m with k:=m.k+1,pc:=6})
 else if m.pc=6 then {m with answer:={m.answer with n:=wI (m.answer.n+1)},pc:=4,i:=m.i+1}
 else if m.pc=8 then cdM w m
 else if m.pc=9 then (if (lsL w m).active=0 then {m with pc:=10} else {m with pc:=8,i:=m.i+1})
 else {m with pc:=8,i:=m.i+1}
def cE (w:Wd) (m:Mach):Ev :=
 if m.pc=0 then (if w.lock=0 then evO m 4 14 1 else {evO m 5 14 1 with done:=true,answer:=ansK 12 0})
 else if m.pc=1 then evO m 1 1 w.epoch
 else if m.pc=2 then evO m 1 2 (pnI w m)
 else if m.pc=3 then (if upE w m then evO m 4 1 (w.epoch+1) else evO m 5 1 w.epoch)
 else if m.pc=4 then (if (w.limbo.length:Int)≤m.i then cdE w {m with i:=0,pc:=8} else evO m 1 11 (lbR w m).version)
 else if m.pc=5 then evV w m 1 7 (kE w m).active
 else if m.pc=6 then evO m 2 12 m.version
 else if m.pc=8 then cdE w m
 else if m.pc=9 then evO m 1 5 (lsL w m).active
 else evO m 2 13 1
section
variable {w:Wd} {m:Mach}
end
/- qXB laws of collectors: place for place;a version that is freed. -/
section
variable {w:Wd} {m:Mach}
theorem cb2 (h:m.pc=2):cW w m=w∧cM w m=(if pnI w m≠0∧pnI w m≠wI (m.epoch+1) then {m with pc:=4,i:=0} else if m.i+1<w.pins.length then {m with i:=m.i+1} else {m with pc:=3,i:=m.i+1})∧cE w m=evO m 1 2 (pnI w m):=by simp [cW,cM,cE,h]
end
/- qXB laws of collectors: ways;machines keep suiting. -/
def CWay:Nat→Wd→Mach→Wd→Mach→Prop
 | 0,w,m,w',m'=>w'=w∧m'=m
 | n+1,w,m,w',m'=>m.done=false∧cGo w m∧CWay n (cW w m) (cM w m) w' m'
theorem CWay.one {w:Wd} {m:Mach} {w':Wd} {m':Mach} (hg:cGo w m) (hd:m.done=false) (e1:cW w m=w') (e2:cM w m=m'):CWay 1 w m w' m':=⟨hd,hg,e1.symm,e2.symm⟩
theorem CWay.trans:∀ {a b:Nat} {w:Wd} {m:Mach} {w1:Wd} {m1:Mach} {w2:Wd} {m2:Mach},CWay a w m w1 m1→CWay b w1 m1 w2 m2→CWay (a+b) w m w2 m2
 | 0,b,_,_,_,_,_,_,⟨h1,h2⟩,k=>by rw [Nat.zero_add];subst h1;subst h2;exact k
 | a+1,b,_,_,_,_,_,_,⟨hd,hg,h⟩,k=>by rw [Nat.add_right_comm];exact⟨hd,hg,CWay.trans h k⟩
section
variable {w w':Wd} {m m':Mach} {v v':Version} {gr:Group} {en:EndC}
theorem SuitP.move (h:SuitP w m v gr en) (hr:wdB w'=true) (hp:w'.pins=w.pins) (hv:w'.versions[m.version.toNat]?=some v') (hg:v'.groups=v.groups) (hl:w'.listens.length=w.listens.length) (k1:m'.thread=m.thread) (k2:m'.done=m.done) (k3:m'.version=m.version) (k4:m'.cluster=m.cluster) (k5:m'.end_=m.end_) (k6:m'.other=m.other) (k7:m'.slot=m.slot) (k8:m'.listen=m.listen) (k9:0≤m'.i) (k10:0≤m'.k):SuitP w' m' v' gr en :=
 ⟨hr,by rw [k1,hp];exact h.thread,by rw [k2];exact h.done,by rw [k3];exact⟨h.ver.1,hv⟩,by rw [k4,hg];exact h.clu,by rw [k5];exact h.end_,by rw [k6];exact h.other,by rw [k7];exact h.slot,by rw [k8,hl];exact h.listen,k9,k10⟩
theorem VerP.first {i:Nat} (h:VerP w i v):∃ gr en,v.groups[0]?=some gr∧gr.ends[0]?=some en∧1≤en.next.length∧1≤gr.ends.length:=by
 obtain⟨gr,hg⟩:=qBA (l:=v.groups) (i:=0) (by have:=h.groups.1;omega)
 obtain⟨_,_,_,h1,_,_,h2⟩:=h.ends hg
 obtain⟨en,he⟩:=qBA (l:=gr.ends) (i:=0) (by omega)
 exact⟨gr,en,hg,he,(h2 en (List.mem_of_getElem? he)).2,h1⟩
theorem SuitP.first (h:SuitP w m v gr en) {x:Int} (hx:0≤x) {u:Version} (hu:w.versions[x.toNat]?=some u) (k1:m'.thread=m.thread) (k2:m'.done=m.done) (k3:m'.version=x) (k4:m'.cluster=0) (k5:m'.end_=0) (k6:m'.other=0) (k7:m'.slot=0) (k8:m'.listen=m.listen) (k9:0≤m'.i) (k10:0≤m'.k):qfB w m'=true:=by
 obtain⟨g0,e0,hg,he,h1,h2⟩:=(qZE h.right hu).first
 exact suitB_iff.2 ⟨u,g0,e0,h.right,by rw [k1];exact h.thread,by rw [k2];exact h.done,by rw [k3];exact⟨hx,hu⟩,by rw [k4];exact⟨Int.le_refl _,hg⟩,by rw [k5];exact⟨Int.le_refl _,he⟩,by rw [k6];omega,by rw [k7];omega,by rw [k8];exact h.listen,k9,k10⟩
end
/- qXB laws of requests: how much there is stays bounded;whole ways. -/
section
variable {K:Nat} {w:Wd} {m:Mach}
abbrev KeptW (K:Nat) (w w':Wd):Prop:=(BgW K w→BgW K w')∧∀ v'∈w'.versions,∃ u∈w.versions,u.snap=v'.snap
theorem KeptW.refl (w:Wd):KeptW K w w:=⟨id,fun v' h=>⟨v',h,rfl⟩⟩
end
def HWay:Nat→Wd→Mach→Wd→Mach→Prop
 | 0,w,m,w',m'=>w'=w∧m'=m
 | n+1,w,m,w',m'=>(hsE w m).access≠0∧HWay n (hsW w m) (hsM w m) w' m'
theorem HWay.trans {b:Nat} {w1 w2:Wd} {m1 m2:Mach}:∀ {a:Nat} {w:Wd} {m:Mach},HWay a w m w1 m1→HWay b w1 m1 w2 m2→HWay (a+b) w m w2 m2
 | 0,w,m,⟨h1,h2⟩,k=>by subst h1;subst h2;rw [Nat.zero_add];exact k
 | a+1,w,m,⟨h1,h2⟩,k=>by rw [Nat.add_right_comm];exact⟨h1,h2.trans k⟩
theorem HWay.one {w w':Wd} {m m':Mach} (h:(hsE w m).access≠0) (h1:hsW w m=w') (h2:hsM w m=m'):HWay 1 w m w' m':=⟨h,h1.symm,h2.symm⟩
/- qXB laws of collectors: each step leaves a right world. -/
section
variable {K:Nat} {w:Wd} {m:Mach}
end
/- qXB laws of swaps: one step. -/
def qsG (w:Wd) (m:Mach):Bool:=w.limbo.any (fun r=>r.version==m.version)||(m.version==w.current)||decide (m.epoch<0)||decide (w.epoch<m.epoch)
abbrev swGo (w:Wd) (m:Mach):Prop:=qfB w m=true∧(m.pc=0∨m.pc=1∨m.pc=2)∧(m.pc=2→qsG w m=false)
def q3E (w:Wd) (c:Config):Wd:={w with versions:=w.versions++[qGA (qaA c)],current:=w.versions.length}
def qTI (w:Wd) (m:Mach):Mach:={m with version:=w.current,cluster:=0,end_:=0,other:=0,slot:=0,i:=w.versions.length,pc:=1}
def ansN (k n:Int):Ans:=⟨k,0,0,0,0,0,n,c60⟩
def ansV (k n:Int):Ans:=⟨k,n,0,0,0,0,0,c60⟩
noncomputable def swW (w:Wd) (m:Mach):Wd:=if swGo w m then (if m.pc=0 then (match qHA m.op.config with|none=>q3E w m.op.config|some _=>w) else if m.pc=1 then w else {w with limbo:=w.limbo++[⟨m.version,m.epoch,false⟩]}) else w
noncomputable def swM (w:Wd) (m:Mach):Mach:=if swGo w m then (if m.pc=0 then (match qHA m.op.config with|none=>qTI w m|some (e,_)=>{m with done:=true,answer:=ansN 9 e}) else if m.pc=1 then {m with epoch:=w.epoch,pc:=2} else {m with done:=true,answer:=ansV 8 m.i}) else m
noncomputable def swE (w:Wd) (m:Mach):Ev:=if swGo w m then (if m.pc=0 then (match qHA m.op.config with|none=>⟨m.thread,0,6,3,-1,false,w.versions.length,false,true,false,ans0⟩|some (e,_)=>⟨m.thread,0,1,3,-1,false,w.current,false,true,true,ansN 9 e⟩) else if m.pc=1 then ⟨m.thread,0,1,1,-1,false,w.epoch,false,false,false,ans0⟩ else ⟨m.thread,0,2,11,-1,false,m.version,false,false,true,ansV 8 m.i⟩) else ev0
theorem qJV {w:Wd} {m:Mach} (h:¬ swGo w m):swW w m=w∧swM w m=m∧swE w m=ev0:=by
 unfold swW swM swE;rw [if_neg h,if_neg h,if_neg h];exact⟨rfl,rfl,rfl⟩
theorem qaR {w:Wd} {m:Mach} (h:swGo w m) (h0:m.pc=0) (hz:qHA m.op.config=none):swW w m=q3E w m.op.config∧swM w m=qTI w m∧swE w m=⟨m.thread,0,6,3,-1,false,w.versions.length,false,true,false,ans0⟩:=by
 unfold swW swM swE;rw [if_pos h,if_pos h,if_pos h,if_pos h0,if_pos h0,if_pos h0,hz];exact⟨rfl,rfl,rfl⟩
theorem q5O {w:Wd} {m:Mach} (h:swGo w m) (h0:m.pc=0) {e i:Int} (hz:qHA m.op.config=some (e,i)):swW w m=w∧swM w m={m with done:=true,answer:=ansN 9 e}∧swE w m=⟨m.thread,0,1,3,-1,false,w.current,false,true,true,ansN 9 e⟩:=by
 unfold swW swM swE;rw [if_pos h,if_pos h,if_pos h,if_pos h0,if_pos h0,if_pos h0,hz];exact⟨rfl,rfl,rfl⟩
theorem sw1 {w:Wd} {m:Mach} (h:swGo w m) (h0:m.pc=1):swW w m=w∧swM w m={m with epoch:=w.epoch,pc:=2}∧swE w m=⟨m.thread,0,1,1,-1,false,w.epoch,false,false,false,ans0⟩:=by
 have hn:¬ m.pc=0:=by omega
 unfold swW swM swE;rw [if_pos h,if_pos h,if_pos h,if_neg hn,if_neg hn,if_neg hn,if_pos h0,if_pos h0,if_pos h0];exact⟨rfl,rfl,rfl⟩
theorem sw2 {w:Wd} {m:Mach} (h:swGo w m) (h0:m.pc=2):swW w m={w with limbo:=w.limbo++[⟨m.version,m.epoch,false⟩]}∧swM w m={m with done:=true,answer:=ansV 8 m.i}∧swE w m=⟨m.thread,0,2,11,-1,false,m.version,false,false,true,ansV 8 m.i⟩:=by
 have hn:¬ m.pc=0:=by omega
 have hn1:¬ m.pc=1:=by omega
 unfold swW swM swE;rw [if_pos h,if_pos h,if_pos h,if_neg hn,if_neg hn,if_neg hn,if_neg hn1,if_neg hn1,if_neg hn1];exact⟨rfl,rfl,rfl⟩
theorem qoS {k n:Int} (h:InR k∧InR n):(ansN k n).ok:=⟨h.1,z0,z0,z0,z0,z0,h.2,qkO⟩
theorem qYN {k n:Int} (h:InR k∧InR n):(ansV k n).ok:=⟨h.1,h.2,z0,z0,z0,z0,z0,qkO⟩
theorem q0E {c:Config} (h:qHA c=none):qHA (qIC (qaA c))=none:=by rw [qGR (good_iff.1 h)];exact h
/- Worlds that the call made: a version is freed,a retired one goes. -/
open Go.RowKit
abbrev cRtd (x:Retired):List Value:=[.int .i64 x.version,.int .i64 x.at_,.bool x.gone]
section
variable {t:WTy} {f:Bool}
end
/- Worlds that the call made: a version more,a retired one more. -/
open Go.RowKit
section
variable {t:WTy} {f:Bool}
theorem qaE {g gL:GW} {lo b:Nat} {S:Nat→Prop} (u:Less g b gL) (hlo:lo≤b) (hS:¬ S b):g.vw lo S≤gL:=u.le (g.vw_le lo S) fun k=>by
 rcases k.2 with h|h
 ·omega
 ·exact hS h
theorem qFS {α:Type} {ety:TypeId} {sz:Nat} {R:OwT α} {r:RP α} (hr:Rd0 R r) (hm:Mono r) {g:GW} {lo:Nat} {S:Nat→Prop} {v:Value} {l:List α} (h:oSl ety sz R g lo S v l):(l=[]∧∃ oa,v=.slice oa 0 0) ∨
  ∃ (b cap:Nat) (ecs:List (List Value)) (rest:List Value),v=.slice (some ⟨b,0,none⟩) l.length cap∧S b∧(lo≤b∧g.g b∧g.w.heap[b]?=some (.cells ⟨ecs.flatten++rest⟩ ety (0,0))∧ecs.flatten.length=l.length*sz∧(∀ u∈ecs.flatten,u.oneCell'=true)∧l.length≤cap∧cap≤maxLen∧(ecs.flatten++rest).length=cap*sz) ∧
   ∀ gL,Less g b gL→rEls sz r gL ecs l:=by
 rcases h with h|⟨b,cap,ecs,T,rfl,hS,hp,hl,hT,hd,hel⟩
 ·exact .inl h
 obtain⟨h1,h2,h3⟩:=hp
 rcases h2 with ⟨h2,_⟩|⟨b2,cap',rest,hv,hb,ho,hr1,hr2,hr3⟩
 ·cases h2
 simp only [Value.slice.injEq,Option.some.injEq,Addr.mk.injEq] at hv
 obtain⟨⟨rfl,_⟩,_,rfl⟩:=hv
 refine .inr ⟨b,cap,ecs,rest,rfl,hS,⟨hb.1,hb.2,ho,h1,h3,hr1,hr2,hr3⟩,fun gL u=>⟨hl,fun i x ec hx hec=>?_⟩⟩
 exact hm _ _ _ _ (qaE u hb.1 fun k=>(hT i b k).2 rfl) (hr _ _ _ _ _ (hel i x ec hx hec))
theorem qVK {g:GW} {lo:Nat} {T:Nat→Nat→Prop} {e0 e1 e2 a b c d e:Value} {w:Wd} (h:oWo t f g lo T [e0,e1,e2,a,b,c,d,e] w) (hne:w.versions≠[]) :
  ∃ (bk cap:Nat) (ecs:List (List Value)) (rest:List Value),b=.slice (some ⟨bk,0,none⟩) w.versions.length cap∧(lo≤bk∧g.g bk∧g.w.heap[bk]?=some (.cells ⟨ecs.flatten++rest⟩ t.tVe (0,0))∧ecs.flatten.length=w.versions.length*5∧(∀ u∈ecs.flatten,u.oneCell'=true)∧w.versions.length≤cap∧cap≤maxLen∧(ecs.flatten++rest).length=cap*5) ∧
   ∀ gL,Less g bk gL→rEls 5 rVe gL ecs w.versions∧rSl 1 rInt gL a w.pins∧rSl 4 qpA gL c w.listens∧rSl 1 rRow gL d w.counts∧rSl 3 qUA gL e w.limbo:=by
 obtain⟨_,_,_,_,_,hq,h2,h3,k0,k1,k2,k3,k4⟩:=h
 simp only [List.cons.injEq,and_true] at hq
 obtain⟨rfl,rfl,rfl,rfl,rfl,rfl,rfl,rfl⟩:=hq
 rcases qFS qES q9B k1 with ⟨hn,_⟩|⟨bk,cap,ecs,rest,rfl,hS,hF,hk⟩
 ·exact absurd hn hne
 refine⟨bk,cap,ecs,rest,rfl,hF,fun gL u=>?_⟩
 have no:∀ j,j≠1→¬ T j bk:=fun j hj k=>hj (h3 j 1 bk k hS)
 exact⟨hk gL u,(q3C (qrF qlB) qhA k0).mono qhA (qaE u hF.1 (no 0 (by decide))),(q3C (qrF qPB) qjA k2).mono qjA (qaE u hF.1 (no 2 (by decide))),(q3C qGS q1A k3).mono q1A (qaE u hF.1 (no 3 (by decide))),(q3C (qrF q5A) qvA k4).mono qvA (qaE u hF.1 (no 4 (by decide)))⟩
theorem qGQ {g:GW} {lo:Nat} {T:Nat→Nat→Prop} {e0 e1 e2 a b c d e:Value} {w:Wd} (h:oWo t f g lo T [e0,e1,e2,a,b,c,d,e] w):(w.limbo=[]∧∃ oa,e=.slice oa 0 0) ∨
  ∃ (bk cap:Nat) (ecs:List (List Value)) (rest:List Value),e=.slice (some ⟨bk,0,none⟩) w.limbo.length cap∧(lo≤bk∧g.g bk∧g.w.heap[bk]?=some (.cells ⟨ecs.flatten++rest⟩ t.tRe (0,0))∧ecs.flatten.length=w.limbo.length*3∧(∀ u∈ecs.flatten,u.oneCell'=true)∧w.limbo.length≤cap∧cap≤maxLen∧(ecs.flatten++rest).length=cap*3) ∧
   ∀ gL,Less g bk gL→rEls 3 qUA gL ecs w.limbo∧rSl 1 rInt gL a w.pins∧rSl 5 rVe gL b w.versions∧rSl 4 qpA gL c w.listens∧rSl 1 rRow gL d w.counts:=by
 obtain⟨_,_,_,_,_,hq,h2,h3,k0,k1,k2,k3,k4⟩:=h
 simp only [List.cons.injEq,and_true] at hq
 obtain⟨rfl,rfl,rfl,rfl,rfl,rfl,rfl,rfl⟩:=hq
 rcases qFS (qrF q5A) qvA k4 with h|⟨bk,cap,ecs,rest,rfl,hS,hF,hk⟩
 ·exact .inl h
 refine .inr ⟨bk,cap,ecs,rest,rfl,hF,fun gL u=>?_⟩
 have no:∀ j,j≠4→¬ T j bk:=fun j hj k=>hj (h3 j 4 bk k hS)
 exact⟨hk gL u,(q3C (qrF qlB) qhA k0).mono qhA (qaE u hF.1 (no 0 (by decide))),(q3C qES q9B k1).mono q9B (qaE u hF.1 (no 1 (by decide))),(q3C (qrF qPB) qjA k2).mono qjA (qaE u hF.1 (no 2 (by decide))),(q3C qGS q1A k3).mono q1A (qaE u hF.1 (no 3 (by decide)))⟩
end
theorem qYI {gL gA:GW} {lo:Nat} {ety:TypeId} {a b c d v:Value} {w:Wd} {ecs:List (List Value)} {x:Retired} (hi:InR w.epoch∧InR w.current∧InR w.lock) (hk:rEls 3 qUA gL ecs w.limbo∧rSl 1 rInt gL a w.pins∧rSl 5 rVe gL b w.versions∧rSl 4 qpA gL c w.listens∧rSl 1 rRow gL d w.counts)
  (k:gL≤gA) (hp:PbSl gA lo ety 3 v (w.limbo.length+1) (ecs.flatten++cRtd x)) (hx:InR x.version∧InR x.at_):rWo gA [.int .i64 w.epoch,.int .i64 w.current,.int .i64 w.lock,a,b,c,d,v] {w with limbo:=w.limbo++[x]}:=by
 obtain⟨h1,h2,h3,h4,h5⟩:=hk
 refine⟨_,_,_,_,_,rfl,hi,h2.mono qhA k,h3.mono q9B k,h4.mono qjA k,h5.mono q1A k,?_⟩
 refine qfH (ecs:=ecs++[cRtd x]) (ety:=ety) (lo:=lo) (qQD (qBD qvA k h1) rfl ⟨rfl,hx⟩) (n:=w.limbo.length+1) (by simpa using hp) (by simp)
theorem qmR {gL gA:GW} {lo:Nat} {ety:TypeId} {a c d e v:Value} {w:Wd} {ecs:List (List Value)} {x:Version} {vc:List Value} (hi:InR w.epoch∧InR w.current∧InR w.lock) (hlen:w.versions.length≤1000000) (hk:rEls 5 rVe gL ecs w.versions∧rSl 1 rInt gL a w.pins∧rSl 4 qpA gL c w.listens∧rSl 1 rRow gL d w.counts∧rSl 3 qUA gL e w.limbo)
  (k:gL≤gA) (hp:PbSl gA lo ety 5 v (w.versions.length+1) (ecs.flatten++vc)) (hl:vc.length=5) (hx:rVe gA vc x):rWo gA [.int .i64 w.epoch,.int .i64 w.versions.length,.int .i64 w.lock,a,v,c,d,e] {w with versions:=w.versions++[x],current:=w.versions.length}:=by
 obtain⟨h1,h2,h3,h4,h5⟩:=hk
 refine⟨_,_,_,_,_,rfl,⟨hi.1,by show InR (w.versions.length:Int);unfold InR;omega,hi.2.2⟩,h2.mono qhA k,?_,h3.mono qjA k,h4.mono q1A k,h5.mono qvA k⟩
 refine qfH (ecs:=ecs++[vc]) (ety:=ety) (lo:=lo) (qQD (qBD q9B k h1) hl hx) (n:=w.versions.length+1) (by simpa using hp) (by simp)
/- Worlds in frozen memory: their parts,element for element. -/
open Go.RowKit
theorem qoR {α:Type} {sz:Nat} {R:RP α} {g:GW} {a:Addr} {n cap:Nat} {l:List α} (h:rSl sz R g (.slice (some a) n cap) l) {i:Nat} {x:α} (hx:l[i]?=some x):∃ ec,ec.length=sz∧R g ec x∧Rcs g (a.add (i*sz)) ec:=by
 obtain⟨oa,c,he,_,_,_,hr⟩:=h
 obtain⟨a',ha,ec,h1,h2,h3⟩:=hr i x hx
 subst ha
 injection he with q1 _ _
 injection q1 with q1
 subst q1
 exact⟨ec,h1,h2,h3⟩
section
variable {g:GW} {e0 e1 e2 a b c d e:Value} {w:Wd} (h:rWo g [e0,e1,e2,a,b,c,d,e] w)
include h
theorem qMV:rSl 1 rInt g a w.pins:=by
 obtain⟨_,_,_,_,_,hq,_,h1,h2,h3,h4,h5⟩:=h
 simp only [List.cons.injEq,and_true] at hq
 obtain⟨_,_,_,rfl,rfl,rfl,rfl,rfl⟩:=hq
 exact h1
theorem qLU:rSl 5 rVe g b w.versions:=by
 obtain⟨_,_,_,_,_,hq,_,h1,h2,h3,h4,h5⟩:=h
 simp only [List.cons.injEq,and_true] at hq
 obtain⟨_,_,_,rfl,rfl,rfl,rfl,rfl⟩:=hq
 exact h2
theorem qNV:rSl 4 qpA g c w.listens:=by
 obtain⟨_,_,_,_,_,hq,_,h1,h2,h3,h4,h5⟩:=h
 simp only [List.cons.injEq,and_true] at hq
 obtain⟨_,_,_,rfl,rfl,rfl,rfl,rfl⟩:=hq
 exact h3
theorem qOV:rSl 1 rRow g d w.counts:=by
 obtain⟨_,_,_,_,_,hq,_,h1,h2,h3,h4,h5⟩:=h
 simp only [List.cons.injEq,and_true] at hq
 obtain⟨_,_,_,rfl,rfl,rfl,rfl,rfl⟩:=hq
 exact h4
theorem qnR:rSl 3 qUA g e w.limbo:=by
 obtain⟨_,_,_,_,_,hq,_,h1,h2,h3,h4,h5⟩:=h
 simp only [List.cons.injEq,and_true] at hq
 obtain⟨_,_,_,rfl,rfl,rfl,rfl,rfl⟩:=hq
 exact h5
end
theorem qAV {g:GW} {a:Addr} {n cap:Nat} {l:List Version} (h:rSl 5 rVe g (.slice (some a) n cap) l) {i:Nat} {x:Version} (hx:l[i]?=some x):∃ oL cL oR cR oC cC oG cG,Rcs g (a.add (i*5)) [.slice oL x.snap.listens.length cL,.slice oR x.snap.rules.length cR,.slice oC x.snap.clusters.length cC,.slice oG x.groups.length cG,.bool x.freed]∧qnF g [.slice oL x.snap.listens.length cL,.slice oR x.snap.rules.length cR,.slice oC x.snap.clusters.length cC] x.snap∧rSl 4 qAC g (.slice oC x.snap.clusters.length cC) x.snap.clusters∧rSl 2 rGr g (.slice oG x.groups.length cG) x.groups:=by
 obtain⟨ec,_,⟨va,vb,vd,vn,rfl,hs,hG⟩,h3⟩:=qoR h hx
 obtain⟨_,_,_,hq,s1,s2,s3⟩:=id hs
 simp only [List.cons.injEq,and_true] at hq
 obtain⟨rfl,rfl,rfl⟩:=hq
 obtain⟨_,_,rfl,_⟩:=id s1
 obtain⟨_,_,rfl,_⟩:=id s2
 obtain⟨_,_,rfl,_⟩:=id s3
 obtain⟨_,_,rfl,_⟩:=id hG
 exact⟨_,_,_,_,_,_,_,_,h3,hs,s3,hG⟩
theorem qiM {α:Type} {sz:Nat} {R:RP α} {g:GW} {oa:Option Addr} {n cap:Nat} {l:List α} (h:rSl sz R g (.slice oa n cap) l) {i:Nat} {x:α} (hx:l[i]?=some x):∃ a,oa=some a:=by
 obtain⟨o,c,he,_,_,_,hr⟩:=h
 obtain⟨a',ha,_⟩:=hr i x hx
 injection he with q1 _ _
 exact⟨a',q1.trans ha⟩
theorem Rcs.sub {g:GW} {a:Addr} {cs:List Value} (h:Rcs g a cs) (o n:Nat):Rcs g (a.add o) ((cs.drop o).take n):=fun j u hu=>by
 rw [List.getElem?_take] at hu
 split at hu
 ·rw [List.getElem?_drop] at hu
  have:=h _ u hu
  rwa [qWL]
 ·cases hu
theorem Upd.rd {g g':GW} {b j:Nat} {bc vs:List Value} {ty:TypeId} (u:Upd g b (.cells ⟨bc.take j++vs++bc.drop (j+vs.length)⟩ ty (0,0)) g') (hb:g.g b) (hl:j+vs.length≤bc.length):Rcs g' ⟨b,j,none⟩ vs:=fun i x hx=>by
 have e:(⟨b,j,none⟩:Addr).add i=⟨b,j+i,none⟩:=by simp [qaB]
 rw [e]
 refine⟨(u.dom b).2 hb,?_⟩
 have hlt:=(List.getElem?_eq_some_iff.1 hx).1
 show g'.w.cell? ⟨b,j+i,none⟩=some x
 unfold World.cell?
 simp only [u.obj]
 have:(bc.take j++vs++bc.drop (j+vs.length))[j+i]?=some x:=by
  rw [List.append_assoc,List.getElem?_append_right (by simp;omega),List.getElem?_append_left (by simp;omega)]
  simp only [List.length_take]
  rw [show j+i-min j bc.length=i by omega]
  exact hx
 simpa using this
/- A call's memory,told from what was there earlier;parts of frozen memory that are written. -/
theorem Ok.sub {P:Program} {f:FuncId} {args:List Value} {g0 g:GW} {Q:Value→GW→Prop} (k:g0≤g) (h:Ok P f args g0 Q):Ok P f args g fun v g'=>∃ g0',g0'≤g'∧(∀ n,g0'.g n→g0.g n∨g.w.heap.size≤n)∧Q v g0' :=
 fun w hw=>(h w (Good.of_le k hw)).mono fun _ w' ⟨v,he,hb,hv⟩=>⟨v,he,hb,g0.next w w',
  ⟨Nat.le_refl _,fun n hn=>⟨⟨hn.1,hn.2.imp (fun q=>(k.2 n q).1) id⟩,rfl⟩⟩,fun n hn=>hn.2.imp id fun q=>Nat.le_trans hw.1 q,hv⟩
theorem Upd.sub {g g':GW} {b:Nat} {o:Obj} (u:Upd g b o g') (S:Nat→Prop):Upd (g.sub S) b o (g'.sub S) :=
 ⟨fun n=>⟨fun h=>⟨(u.dom n).1 h.1,h.2⟩,fun h=>⟨(u.dom n).2 h.1,h.2⟩⟩,u.obj,fun n h=>u.other n h.1,u.size⟩
/- qXB laws of collectors: a machine that is not done suits behind its step. -/
section
variable {w:Wd} {m:Mach}
end
/- qXB laws of swaps: a whole way. -/
theorem q7T {w:Wd} (h:wdB w=true) {c:Config} (hz:qHA c=none):wdB (q3E w c)=true:=by
 obtain⟨h1,⟨h2,h3⟩,h4,h5,h6,h7⟩:=qtD h
 rw [List.all_eq_true] at h5
 refine qRR ⟨h1,⟨by show(0:Int)≤(w.versions.length:Int);omega,by show(w.versions.length:Int)<((w.versions++[qGA (qaA c)]).length:Int);simp;omega⟩,h4,?_,?_,h7⟩
 ·rw [List.all_eq_true]
  intro r hr
  have:=h5 r hr
  unfold limB at this ⊢
  simp only [Bool.and_eq_true,decide_eq_true_eq] at this ⊢
  refine⟨⟨by show r.version<((w.versions++[qGA (qaA c)]).length:Int);simp;omega,by show r.version≠(w.versions.length:Int);omega⟩,this.2⟩
 ·rw [allI_iff] at h6 ⊢
  intro i x hx
  have hx:(w.versions++[qGA (qaA c)])[i]?=some x:=hx
  rcases Nat.lt_or_ge i w.versions.length with hi|hi
  ·rw [List.getElem?_append_left hi] at hx
   exact h6 i x hx
  ·rw [List.getElem?_append_right hi] at hx
   have hi':i=w.versions.length:=by
    rcases Nat.lt_or_ge (i-w.versions.length) 1 with h|h
    ·omega
    ·rw [List.getElem?_eq_none (by simpa using h)] at hx;cases hx
   subst hi'
   simp at hx
   subst hx
   unfold verB
   rw [qRL (q0E hz)]
   have:q1F w.limbo (w.versions.length:Int)=false:=by
    unfold q1F
    rw [List.any_eq_false]
    intro r hr
    have:=h5 r hr
    unfold limB at this
    simp only [Bool.and_eq_true,decide_eq_true_eq] at this
    have:(r.version==(w.versions.length:Int))=false:=by simpa using (show r.version≠(w.versions.length:Int) by omega)
    rw [this];simp
   show(true&&((qGA (qaA c)).freed==q1F w.limbo (w.versions.length:Int)))=true
   rw [this];rfl
theorem qwS {w:Wd} (h:wdB w=true) {v e:Int} (hv:0≤v∧v<w.versions.length) (hc:v≠w.current) (he:0≤e∧e≤w.epoch) (hn:w.limbo.any (fun r=>r.version==v)=false):wdB {w with limbo:=w.limbo++[⟨v,e,false⟩]}=true:=by
 obtain⟨h1,⟨h2,h3⟩,h4,h5,h6,h7⟩:=qtD h
 rw [List.all_eq_true] at h5
 refine qRR ⟨h1,⟨h2,h3⟩,?_,?_,?_,h7⟩
 ·unfold qLE at h4 ⊢
  rw [allI_iff] at h4 ⊢
  intro i x hx
  have hx:(w.limbo++[⟨v,e,false⟩])[i]?=some x:=hx
  rcases Nat.lt_or_ge i w.limbo.length with hi|hi
  ·rw [List.getElem?_append_left hi] at hx
   have:=h4 i x hx
   unfold retB at this ⊢
   rw [List.take_append_of_le_length (by omega)]
   exact this
  ·rw [List.getElem?_append_right hi] at hx
   have hi':i=w.limbo.length:=by
    rcases Nat.lt_or_ge (i-w.limbo.length) 1 with h|h
    ·omega
    ·rw [List.getElem?_eq_none (by simpa using h)] at hx;cases hx
   subst hi'
   simp at hx
   subst hx
   unfold retB
   rw [show(w.limbo++[(⟨v,e,false⟩:Retired)]).take w.limbo.length=w.limbo by simp]
   simp only [Bool.and_eq_true,decide_eq_true_eq,Bool.not_eq_true']
   exact⟨⟨hv.1,he.1⟩,hn⟩
 ·rw [List.all_eq_true]
  intro r hr
  have hr:r∈w.limbo++[⟨v,e,false⟩]:=hr
  rw [List.mem_append] at hr
  rcases hr with hr|hr
  ·exact h5 r hr
  ·simp at hr
   subst hr
   unfold limB
   simp only [Bool.and_eq_true,decide_eq_true_eq]
   exact⟨⟨hv.2,hc⟩,he.2⟩
 ·rw [allI_iff] at h6 ⊢
  intro i x hx
  have:=h6 i x hx
  unfold verB at this ⊢
  have hg:q1F (w.limbo++[⟨v,e,false⟩]) i=q1F w.limbo i:=by
   unfold q1F;rw [List.any_append];simp
  show(q4A x&&(x.freed==q1F (w.limbo++[⟨v,e,false⟩]) i))=true
  rw [hg];exact this
def swEW (w:Wd) (c:Config):Wd:=match qHA c with
 | none=>{w with versions:=w.versions++[qGA (qaA c)],current:=w.versions.length,limbo:=w.limbo++[⟨w.current,w.epoch,false⟩]}
 | some _=>w
def swEA (w:Wd) (c:Config):Ans:=match qHA c with
 | none=>ansV 8 w.versions.length
 | some (e,_)=>ansN 9 e
def swEK (c:Config):Nat:=match qHA c with
 | none=>3
 | some _=>1
def SWay:Nat→Wd→Mach→Wd→Mach→Prop
 | 0,w,m,w',m'=>w'=w∧m'=m
 | n+1,w,m,w',m'=>m.done=false∧swGo w m∧SWay n (swW w m) (swM w m) w' m'
theorem qgP {w:Wd} (h:wdB w=true):w.limbo.any (fun r=>r.version==w.current)=false:=by
 obtain⟨_,_,_,h5,_,_⟩:=qtD h
 rw [List.all_eq_true] at h5
 rw [List.any_eq_false]
 intro r hr
 have:=h5 r hr
 unfold limB at this
 simp only [Bool.and_eq_true,decide_eq_true_eq] at this
 simpa using this.1.2
theorem qPR {w:Wd} (h:wdB w=true):0≤w.epoch:=by
 have hg:=qiC h
 unfold qCB at hg
 simp only [Bool.and_eq_true,decide_eq_true_eq] at hg
 omega
theorem qjN {w:Wd} {m:Mach} (hs:qfB w m=true) (h0:m.pc=0):wdB (swEW w m.op.config)=true∧∃ n,SWay (swEK m.op.config) w m (swEW w m.op.config) n∧n.done=true∧n.answer=swEA w m.op.config:=by
 obtain⟨v,gr,en,hS⟩:=suitB_iff.1 hs
 have hgo:swGo w m:=⟨hs,.inl h0,fun h=>by omega⟩
 unfold swEW swEA swEK
 cases hz:qHA m.op.config with
 | some p =>
  obtain⟨e,i⟩:=p
  obtain⟨hW,hM,_⟩:=q5O hgo h0 hz
  exact⟨hS.right,{m with done:=true,answer:=ansN 9 e},⟨hS.done,hgo,hW.symm,hM.symm⟩,rfl,rfl⟩
 | none =>
  obtain⟨hW,hM,_⟩:=qaR hgo h0 hz
  have hr1:=q7T hS.right hz
  obtain⟨hg1,⟨hc1,hc2⟩,_⟩:=qtD hS.right
  obtain⟨u,hu⟩:=qBA (l:=w.versions) (i:=w.current.toNat) (by omega)
  have hu1:(q3E w m.op.config).versions[w.current.toNat]?=some u:=by
   show(w.versions++_)[w.current.toNat]?=some u
   rw [List.getElem?_append_left (by omega)];exact hu
  have hS1:SuitP (q3E w m.op.config) m v gr en:=hS.move hr1 rfl (by show(w.versions++_)[m.version.toNat]?=some v;rw [List.getElem?_append_left (List.getElem?_eq_some_iff.1 hS.ver.2).1];exact hS.ver.2) rfl rfl rfl rfl rfl rfl rfl rfl rfl rfl hS.i hS.k
  have hs1:qfB (q3E w m.op.config) (qTI w m)=true:=hS1.first hc1 hu1 rfl rfl rfl rfl rfl rfl rfl rfl (by show(0:Int)≤(w.versions.length:Int);omega) hS.k
  have hgo1:swGo (q3E w m.op.config) (qTI w m):=⟨hs1,.inr (.inl rfl),fun h=>by cases h⟩
  obtain⟨hW1,hM1,_⟩:=sw1 hgo1 rfl
  have hs2:qfB (q3E w m.op.config) {qTI w m with epoch:=w.epoch,pc:=2}=true:=hS1.first hc1 hu1 rfl rfl rfl rfl rfl rfl rfl rfl (by show(0:Int)≤(w.versions.length:Int);omega) hS.k
  have hl0:=qgP hS.right
  have he0:=qPR hS.right
  have hne:w.current≠(w.versions.length:Int):=by omega
  have hlate:qsG (q3E w m.op.config) {qTI w m with epoch:=w.epoch,pc:=2}=false:=by
   show(w.limbo.any (fun r=>r.version==w.current)||(w.current==(w.versions.length:Int))||decide (w.epoch<0)||decide (w.epoch<w.epoch))=false
   rw [hl0,show(w.current==(w.versions.length:Int))=false by simpa using hne,decide_eq_false (by omega),decide_eq_false (by omega)];rfl
  have hgo2:swGo (q3E w m.op.config) {qTI w m with epoch:=w.epoch,pc:=2}:=⟨hs2,.inr (.inr rfl),fun _=>hlate⟩
  obtain⟨hW2,hM2,_⟩:=sw2 hgo2 rfl
  refine⟨?_,{qTI w m with epoch:=w.epoch,pc:=2,done:=true,answer:=ansV 8 w.versions.length},⟨hS.done,hgo,?_⟩,rfl,rfl⟩
  ·exact qwS (w:=q3E w m.op.config) hr1 (v:=w.current) (e:=w.epoch) ⟨hc1,by show w.current<((w.versions++[qGA (qaA m.op.config)]).length:Int);simp;omega⟩ hne ⟨he0,Int.le_refl _⟩ hl0
  ·rw [hW,hM]
   refine⟨hS.done,hgo1,?_⟩
   rw [hW1,hM1]
   refine⟨hS.done,hgo2,?_⟩
   exact⟨hW2.symm,hM2.symm⟩
theorem qDU (w:Wd) (m:Mach):(swM w m).op=m.op:=by
 unfold swM
 split
 ·split
  ·split<;>rfl
  ·split<;>rfl
 ·rfl
theorem qfT {K:Nat} (hK:4≤K) {c:Config} (hz:qHA c=none):BgV K (qGA (qaA c)):=by
 have hg:=good_iff.1 hz
 have hsz:=hg.size.2.2.2
 refine⟨by show(c.clusters.map _).length≤K;simp;omega,fun x hx=>?_⟩
 simp only [qGA,qaA,List.mem_map] at hx
 obtain⟨k,hc,rfl⟩:=hx
 obtain⟨_,_,_,hh⟩:=hg.cl k hc
 show(k.health.map _).length≤K
 simp;omega
theorem BgV.up {K K':Nat} {v:Version} (h:BgV K v) (k:K≤K'):BgV K' v:=⟨Nat.le_trans h.1 k,fun y hy=>Nat.le_trans (h.2 y hy) k⟩
theorem qvV {K:Nat} (hK:4≤K) {w:Wd} {c:Config} (hz:qHA c=none) (h:BgW K w):BgW (K+1) (q3E w c):=by
 obtain⟨⟨h1,h2,h3,h4,h5⟩,h6,h7⟩:=h
 refine⟨⟨by show w.pins.length≤K+1;omega,by show(w.versions++_).length≤K+1;simp;omega,by show w.listens.length≤K+1;omega,by show w.counts.length≤K+1;omega,by show w.limbo.length≤K+1;omega⟩,fun r hr=>Nat.le_succ_of_le (h6 r hr),fun v hv=>?_⟩
 have hv:v∈w.versions++[qGA (qaA c)]:=hv
 rw [List.mem_append] at hv
 rcases hv with hv|hv
 ·exact(h7 v hv).up (Nat.le_succ _)
 ·simp at hv;subst hv;exact qfT (by omega) hz
theorem qwV {K:Nat} {w:Wd} {r:Retired} (h:BgW K w):BgW (K+1) {w with limbo:=w.limbo++[r]}:=by
 obtain⟨⟨h1,h2,h3,h4,h5⟩,h6,h7⟩:=h
 exact⟨⟨by show w.pins.length≤K+1;omega,by show w.versions.length≤K+1;omega,by show w.listens.length≤K+1;omega,by show w.counts.length≤K+1;omega,by show(w.limbo++[r]).length≤K+1;simp;omega⟩,fun r hr=>Nat.le_succ_of_le (h6 r hr),fun v hv=>(h7 v hv).up (Nat.le_succ _)⟩
theorem quV {K:Nat} (hK:4≤K) {w:Wd} {m:Mach} (h:BgW K w):BgW (K+1) (swW w m):=by
 have hup:BgW (K+1) w:=⟨⟨Nat.le_succ_of_le h.1.1,Nat.le_succ_of_le h.1.2.1,Nat.le_succ_of_le h.1.2.2.1,Nat.le_succ_of_le h.1.2.2.2.1,Nat.le_succ_of_le h.1.2.2.2.2⟩,fun r hr=>Nat.le_succ_of_le (h.2.1 r hr),fun v hv=>(h.2.2 v hv).up (Nat.le_succ _)⟩
 unfold swW
 split
 ·split
  ·split
   ·rename_i hz
    exact qvV hK hz h
   ·exact hup
  ·split
   ·exact hup
   ·exact qwV h
 ·exact hup
theorem q9U {w:Wd} {m:Mach} {v:Version} (hv:v∈(swW w m).versions):v∈w.versions∨(qHA m.op.config=none∧v=qGA (qaA m.op.config)):=by
 unfold swW at hv
 split at hv
 ·split at hv
  ·split at hv
   ·rename_i hz
    have hv:v∈w.versions++[qGA (qaA m.op.config)]:=hv
    rw [List.mem_append] at hv
    rcases hv with hv|hv
    ·exact .inl hv
    ·simp at hv;exact .inr ⟨hz,hv⟩
   ·exact .inl hv
  ·split at hv<;>exact .inl hv
 ·exact .inl hv
/- Law 23's example. -/
open Go.RowKit
def w1:Wd:=newW (qbH 1 [true]) [sInW] 1
/- Law 22's example. -/
abbrev cfgS:Config:=⟨[sInW],[⟨sInW,⟨#[42]⟩,⟨#[47]⟩,⟨#[97]⟩⟩],[⟨⟨#[97]⟩,1,1,[true]⟩]⟩
abbrev qQL:Config:=⟨[sInW],[],[⟨⟨#[97]⟩,1,1,[true]⟩]⟩
def wS:Wd:=newW (qbH 1 [true]) [sInW] 1
def wS2:Wd:={wS with versions:=[qGA (qbH 1 [true]),qGA (qbH 1 [true])],current:=1,limbo:=[⟨0,0,false⟩]}
def mS (c:Config) (t:Int):Mach:={mP 0 0 with thread:=t,op:={op0 with kind:=3,config:=c}}
theorem q6U:qrO (qbH 1 [true]) [sInW] 1:=⟨by decide,by decide,by decide⟩
theorem qwP:qHA cfgS=none:=by decide
theorem qfS:qHA qQL=some (6,0):=by decide
theorem qIR:qaA cfgS=qbH 1 [true]:=rfl
theorem qyS:wdB wS=true:=qvQ (t:=1) q6U
theorem qmT:swEW wS cfgS=wS2:=by unfold swEW;rw [qwP];rfl
theorem qhJ {w:Wd} {m:Mach} (hr:wdB w=true) (ht:0≤m.thread∧m.thread<w.pins.length) (hl:0<w.listens.length) (k2:m.done=false) (k3:m.version=0) (k4:m.cluster=0) (k5:m.end_=0) (k6:m.other=0) (k7:m.slot=0) (k8:m.listen=0) (k9:m.i=0) (k10:m.k=0):qfB w m=true:=by
 obtain⟨_,⟨hc1,hc2⟩,_⟩:=qtD hr
 obtain⟨u,hu⟩:=qBA (l:=w.versions) (i:=0) (by omega)
 obtain⟨g0,e0,hg,he,h1,h2⟩:=(qZE hr hu).first
 exact suitB_iff.2 ⟨u,g0,e0,hr,ht,k2,by rw [k3];exact⟨Int.le_refl _,hu⟩,by rw [k4];exact⟨Int.le_refl _,hg⟩,by rw [k5];exact⟨Int.le_refl _,he⟩,by rw [k6];omega,by rw [k7];omega,by rw [k8];omega,by omega,by omega⟩
theorem qWR:qfB wS (mS cfgS 0)=true:=qhJ qyS ⟨by decide,by decide⟩ (by decide) rfl rfl rfl rfl rfl rfl rfl rfl rfl
theorem qaN:wdB wS2=true:=by rw [← qmT];exact(qjN qWR rfl).1
theorem qzS:qfB wS2 (mS qQL 0)=true:=qhJ qaN ⟨by decide,by decide⟩ (by decide) rfl rfl rfl rfl rfl rfl rfl rfl rfl
theorem q5U:∃ n,SWay 3 wS (mS cfgS 0) wS2 n∧n.done=true∧n.answer=ansV 8 1:=by
 obtain⟨_,n,h1,h2,h3⟩:=qjN qWR rfl
 have h1:SWay (swEK cfgS) wS (mS cfgS 0) (swEW wS cfgS) n:=h1
 have h3:n.answer=swEA wS cfgS:=h3
 rw [qmT] at h1
 unfold swEK at h1
 unfold swEA at h3
 rw [qwP] at h1 h3
 exact⟨n,h1,h2,h3⟩
theorem q9T:∃ n,SWay 1 wS2 (mS qQL 0) wS2 n∧n.done=true∧n.answer=ansN 9 6:=by
 obtain⟨_,n,h1,h2,h3⟩:=qjN qzS rfl
 have h1:SWay (swEK qQL) wS2 (mS qQL 0) (swEW wS2 qQL) n:=h1
 have h3:n.answer=swEA wS2 qQL:=h3
 unfold swEK swEW at h1
 unfold swEA at h3
 rw [qfS] at h1 h3
 exact⟨n,h1,h2,h3⟩
theorem q8T {w:Wd} {m:Mach} (hs:qfB w m=true):wdB w=true:=by
 obtain⟨_,_,_,hS⟩:=suitB_iff.1 hs
 exact hS.right
def endW (w:Wd) (c:Config):Wd:={w with versions:=w.versions++[qGA (qaA c)],current:=w.versions.length,limbo:=w.limbo++[⟨w.current,w.epoch,false⟩]}
theorem qlT {w:Wd} {c:Config} {t:Int} (hs:qfB w (mS c t)=true) (hz:qHA c=none):wdB (endW w c)=true∧∃ n,SWay 3 w (mS c t) (endW w c) n∧n.done=true∧n.answer=ansV 8 w.versions.length:=by
 obtain⟨hr,n,h1,h2,h3⟩:=qjN hs rfl
 have hr:wdB (swEW w c)=true:=hr
 have h1:SWay (swEK c) w (mS c t) (swEW w c) n:=h1
 have h3:n.answer=swEA w c:=h3
 unfold swEW at hr
 unfold swEK swEW at h1
 unfold swEA at h3
 rw [hz] at hr h1 h3
 exact⟨hr,n,h1,h2,h3⟩
theorem qVR {w:Wd} {c:Config} {t:Int} (hs:qfB w (mS c t)=true) {e i:Int} (hz:qHA c=some (e,i)):∃ n,SWay 1 w (mS c t) w n∧n.done=true∧n.answer=ansN 9 e:=by
 obtain⟨hr,n,h1,h2,h3⟩:=qjN hs rfl
 have h1:SWay (swEK c) w (mS c t) (swEW w c) n:=h1
 have h3:n.answer=swEA w c:=h3
 unfold swEK swEW at h1
 unfold swEA at h3
 rw [hz] at h1 h3
 exact⟨n,h1,h2,h3⟩
theorem SWay.bg {K:Nat} (hK:4≤K):∀ {k:Nat} {w:Wd} {m:Mach} {x:Wd} {n:Mach},SWay k w m x n→BgW K w→BgW (K+k) x
 | 0,_,_,_,_,⟨h1,_⟩,hb=>by subst h1;exact hb
 | k+1,w,m,x,n,⟨_,_,h⟩,hb=>by
  have:=SWay.bg (K:=K+1) (by omega) h (quV hK hb)
  rwa [show K+1+k=K+(k+1) by omega] at this
theorem qJR {c:Config} (hz:qHA c=none):qsE (qGA (qaA c))=0:=by
 have h:=qHS (s:=qaA c) (l:=[]) (t:=0) (q0E hz)
 unfold qQS at h
 simpa [newW,sumI] using h
theorem qdT {w:Wd} {c:Config} (hz:qHA c=none):qQS (endW w c)=qQS w:=by
 show sumI qsE (w.versions++[qGA (qaA c)])=sumI qsE w.versions
 unfold sumI
 rw [List.map_append,List.sum_append]
 simp [qJR hz]
/- What came in,read as data,is plain data in frozen memory: by the types' shapes. -/
open Go.RowKit
section
variable {H:Type} {enc:TypeId×Value→H} {P:Program} {W:World}
abbrev tr (enc:TypeId×Value→H) (P:Program) (W:World) (fuel:Nat) (t:TypeId) (cs:List Value):=DataW.trod enc P W 0 (fun _=>true) true fuel t cs
def Rds {α:Type} (enc:TypeId×Value→H) (P:Program) (W:World) (t:TypeId) (R:RP α):Prop:=∀ fuel cs x,tr enc P W fuel t cs=some x→∃ a,R (allG W) cs a
theorem qlA {t:TypeId} (ht:P.underlying t=some (.int .i64)):Rds enc P W t rInt:=by
 intro fuel cs x h
 cases fuel with
 | zero=>simp [tr,DataW.trod] at h
 | succ n =>
  unfold tr DataW.trod at h
  rw [ht] at h
  split at h<;>try (first|(cases h;done)|(simp_all;done))
  rename_i heq
  cases heq
  split at h
  ·rename_i hc
   obtain⟨rfl,hw⟩:=hc
   exact⟨_,rfl,qOS hw⟩
  ·cases h
theorem qBH {t:TypeId} (ht:P.underlying t=some (.int .u64)):Rds enc P W t rU64:=by
 intro fuel cs x h
 cases fuel with
 | zero=>simp [tr,DataW.trod] at h
 | succ n =>
  unfold tr DataW.trod at h
  rw [ht] at h
  split at h<;>try (first|(cases h;done)|(simp_all;done))
  rename_i heq
  cases heq
  split at h
  ·rename_i hc
   obtain⟨rfl,hw⟩:=hc
   exact⟨_,rfl,qfV hw⟩
  ·cases h
theorem qMJ {t:TypeId} (ht:P.underlying t=some .bool):Rds enc P W t q8S:=by
 intro fuel cs x h
 cases fuel with
 | zero=>simp [tr,DataW.trod] at h
 | succ n =>
  unfold tr DataW.trod at h
  rw [ht] at h
  split at h<;>try (first|cases h;done|simp_all;done)
  exact⟨_,rfl⟩
theorem qAE {t:TypeId} (ht:P.underlying t=some .string):Rds enc P W t rStr:=by
 intro fuel cs x h
 cases fuel with
 | zero=>simp [tr,DataW.trod] at h
 | succ n =>
  unfold tr DataW.trod at h
  rw [ht] at h
  split at h<;>simp_all
  exact⟨_,rfl⟩
def rSlc {α:Type} (sz:Nat) (R:RP α):RP (List α):=fun g cs l=>∃ v,cs=[v]∧rSl sz R g v l
theorem qOO {α β:Type} {f:α→Option β}:∀ {l:List α} {r:List β},l.mapM f=some r→∀ (i:Nat) x,l[i]?=some x→∃ y,r[i]?=some y∧f x=some y:=by
 intro l
 induction l with
 | nil=>intro r _ i x hx;simp at hx
 | cons a l ih =>
  intro r h i x hx
  simp only [List.mapM_cons,Option.bind_eq_bind,Option.bind_eq_some_iff,Option.pure_def,Option.some.injEq] at h
  obtain⟨y,hy,ys,hys,rfl⟩:=h
  cases i with
  | zero=>simp at hx;subst hx;exact⟨y,rfl,hy⟩
  | succ i=>simpa using ih hys i x (by simpa using hx)
theorem qvC {α:Type} {t e:TypeId} {sz:Nat} {R:RP α} (ht:P.underlying t=some (.slice e)) (hs:P.cellsOf e=sz) (_:0<sz) (hR:Rds enc P W e R):Rds enc P W t (rSlc sz R):=by
 intro fuel cs x h
 rcases DataW.trod_slice ht h with ⟨rfl,_⟩|⟨a,len,cap,elems,rest,n,_,rfl,_,_,hl,hc,hel,hget,_⟩
 ·exact⟨[],_,rfl,none,0,rfl,Nat.le_refl _,Nat.zero_le _,fun _=>⟨rfl,rfl⟩,fun i x hx=>by simp at hx⟩
 ·rw [hs] at hget
  have hel':∀ i,i<len→∃ (x:α) (ec:List Value),ec.length=sz∧R (allG W) ec x∧Rcs (allG W) (a.add (i*sz)) ec:=fun i hi=>by
   have h1:=hget i hi
   rw [List.getElem?_eq_getElem (by omega)] at h1
   obtain⟨ec,he,hr⟩:=Option.bind_eq_some_iff.1 h1
   obtain⟨x,hx⟩:=hR n ec _ hr
   unfold World.cells? at he
   rw [if_pos (Nat.zero_le _)] at he
   have hlen:=mapM_some_length he
   refine⟨x,ec,by simpa using hlen,hx,fun j u hu=>?_⟩
   have hj:=(List.getElem?_eq_some_iff.1 hu).1
   have hsz:ec.length=sz:=by simpa using hlen
   obtain⟨y,hy1,hy2⟩:=qOO he j j (List.getElem?_range (by omega))
   rw [hu] at hy1;cases hy1
   refine⟨?_,hy2⟩
   show _<W.heap.size
   unfold World.cell? at hy2
   cases hh:W.heap[((a.add (i*sz)).add j).block]? with
   | none=>rw [hh] at hy2;cases hy2
   | some o=>exact(Array.getElem?_eq_some_iff.1 hh).1
  let f:Fin len→α:=fun i=>Classical.choose (hel' i.1 i.2)
  have hf:∀ i:Fin len,∃ (ec:List Value),ec.length=sz∧R (allG W) ec (f i)∧Rcs (allG W) (a.add (i.1*sz)) ec:=fun i=>Classical.choose_spec (hel' i.1 i.2)
  refine⟨List.ofFn f,_,rfl,some a,cap,by simp,by simpa using hl,hc,(fun h=>by cases h),fun i x hx=>⟨a,rfl,?_⟩⟩
  obtain⟨hi,he⟩:=List.getElem?_eq_some_iff.1 hx
  simp only [List.getElem_ofFn] at he
  simp only [List.length_ofFn] at hi
  have:=hf ⟨i,hi⟩
  rw [← he];exact this
def fieldsOf (P:Program) (t:TypeId):Option (List (Nat×Nat×TypeId)):=match P.underlying t with
 | some (.struct fs)=>some (fs.toList.map fun f=>(f.offset,P.cellsOf f.type,f.type))
 | _=>none
theorem qnI {t:TypeId} {l:List (Nat×Nat×TypeId)} (hf:fieldsOf P t=some l) {fuel:Nat} {cs:List Value} {x:DataW H×List MemPlace} (h:tr enc P W fuel t cs=some x) :
  cs.length=P.cellsOf t∧∀ (i o s:Nat) (u:TypeId),l[i]?=some (o,s,u)→∃ n y,tr enc P W n u ((cs.drop o).take s)=some y:=by
 unfold fieldsOf at hf
 split at hf
 ·rename_i fs ht
  simp only [Option.some.injEq] at hf
  subst hf
  obtain⟨xs,n,rfl,_,hl,hxs,hget⟩:=DataW.trod_struct ht h
  refine⟨hl,fun i o s u hi=>?_⟩
  simp only [List.getElem?_map,Option.map_eq_some_iff,Array.getElem?_toList] at hi
  obtain⟨f,hf,he⟩:=hi
  simp only [Prod.mk.injEq] at he
  obtain⟨rfl,rfl,rfl⟩:=he
  have hlt:=(Array.getElem?_eq_some_iff.1 hf).1
  exact⟨n,xs[i]'(by omega),by rw [← List.getElem?_eq_getElem];exact hget i f hf⟩
 ·cases hf
theorem Rds.fld {α:Type} {u:TypeId} {R:RP α} (hR:Rds enc P W u R) {cs:List Value} (h:∃ n y,tr enc P W n u cs=some y):∃ a,R (allG W) cs a:=let ⟨n,y,hy⟩:=h;hR n cs y hy
variable {tS tI tB:TypeId}
theorem q7S {t:TypeId} (hf:fieldsOf P t=some [(0,1,tS),(1,1,tS),(2,1,tS),(3,1,tS)]) (hc:P.cellsOf t=4) (hS:P.underlying tS=some .string):Rds enc P W t qrK:=by
 intro fuel cs x h
 obtain⟨hl,hg⟩:=qnI hf h
 rw [hc] at hl
 match cs,hl with
 | [a,b,c,d],_ =>
  obtain⟨s0,e0⟩:=(qAE hS).fld (hg 0 _ _ _ rfl)
  obtain⟨s1,e1⟩:=(qAE hS).fld (hg 1 _ _ _ rfl)
  obtain⟨s2,e2⟩:=(qAE hS).fld (hg 2 _ _ _ rfl)
  obtain⟨s3,e3⟩:=(qAE hS).fld (hg 3 _ _ _ rfl)
  cases e0;cases e1;cases e2;cases e3
  exact⟨⟨s0,s1,s2,s3⟩,rfl⟩
theorem qKU {t:TypeId} (hf:fieldsOf P t=some [(0,1,tI),(1,1,tS),(2,1,tS),(3,1,tI)]) (hc:P.cellsOf t=4) (hS:P.underlying tS=some .string) (hI:P.underlying tI=some (.int .i64)):Rds enc P W t qmQ:=by
 intro fuel cs x h
 obtain⟨hl,hg⟩:=qnI hf h
 rw [hc] at hl
 match cs,hl with
 | [a,b,c,d],_ =>
  obtain⟨s0,e0,w0⟩:=(qlA hI).fld (hg 0 _ _ _ rfl)
  obtain⟨s1,e1⟩:=(qAE hS).fld (hg 1 _ _ _ rfl)
  obtain⟨s2,e2⟩:=(qAE hS).fld (hg 2 _ _ _ rfl)
  obtain⟨s3,e3,w3⟩:=(qlA hI).fld (hg 3 _ _ _ rfl)
  cases e0;cases e1;cases e2;cases e3
  exact⟨⟨s0,s1,s2,s3⟩,rfl,w0,w3⟩
theorem qlQ {t tL:TypeId} (hf:fieldsOf P t=some [(0,1,tS),(1,1,tI),(2,1,tI),(3,1,tL)]) (hc:P.cellsOf t=4) (hS:P.underlying tS=some .string) (hI:P.underlying tI=some (.int .i64)) (hL:P.underlying tL=some (.slice tB)) (hB:P.underlying tB=some .bool) (hcB:P.cellsOf tB=1):Rds enc P W t qAC:=by
 intro fuel cs x h
 obtain⟨hl,hg⟩:=qnI hf h
 rw [hc] at hl
 match cs,hl with
 | [a,b,c,d],_ =>
  obtain⟨s0,e0⟩:=(qAE hS).fld (hg 0 _ _ _ rfl)
  obtain⟨s1,e1,w1⟩:=(qlA hI).fld (hg 1 _ _ _ rfl)
  obtain⟨s2,e2,w2⟩:=(qlA hI).fld (hg 2 _ _ _ rfl)
  obtain⟨s3,v,e3,h3⟩:=(qvC hL hcB (by omega) (qMJ hB)).fld (hg 3 _ _ _ rfl)
  cases e0;cases e1;cases e2;cases e3
  exact⟨⟨s0,s1,s2,s3⟩,_,rfl,w1,w2,h3⟩
theorem q5P {α β γ:Type} {t t0 t1 t2 e0 e1 e2:TypeId} {z0 z1 z2:Nat} {R0:RP α} {R1:RP β} {R2:RP γ} (hf:fieldsOf P t=some [(0,1,t0),(1,1,t1),(2,1,t2)]) (hc:P.cellsOf t=3)
  (h0:P.underlying t0=some (.slice e0)) (h1:P.underlying t1=some (.slice e1)) (h2:P.underlying t2=some (.slice e2)) (c0:P.cellsOf e0=z0) (c1:P.cellsOf e1=z1) (c2:P.cellsOf e2=z2) (p0:0<z0) (p1:0<z1) (p2:0<z2)
  (r0:Rds enc P W e0 R0) (r1:Rds enc P W e1 R1) (r2:Rds enc P W e2 R2) {fuel:Nat} {cs:List Value} {x:DataW H×List MemPlace} (h:tr enc P W fuel t cs=some x) :
  ∃ a b d,cs=[a,b,d]∧(∃ l,rSl z0 R0 (allG W) a l)∧(∃ l,rSl z1 R1 (allG W) b l)∧∃ l,rSl z2 R2 (allG W) d l:=by
 obtain⟨hl,hg⟩:=qnI hf h
 rw [hc] at hl
 match cs,hl with
 | [a,b,c],_ =>
  obtain⟨s0,v0,q0,k0⟩:=(qvC h0 c0 p0 r0).fld (hg 0 _ _ _ rfl)
  obtain⟨s1,v1,q1,k1⟩:=(qvC h1 c1 p1 r1).fld (hg 1 _ _ _ rfl)
  obtain⟨s2,v2,q2,k2⟩:=(qvC h2 c2 p2 r2).fld (hg 2 _ _ _ rfl)
  cases q0;cases q1;cases q2
  exact⟨_,_,_,rfl,⟨s0,k0⟩,⟨s1,k1⟩,s2,k2⟩
end
def aV {α:Type} (R:RP α) (g:GW) (v:Value) (a:α):Prop:=∃ cs,v=.agg ⟨cs⟩∧R g cs a
/- What came in,read as data,is plain data: with the bound that what was handed takes no more bytes than the reach. -/
open Go.RowKit
section
variable {H:Type} {enc:TypeId×Value→H} {P:Program} {W:World}
def qvL (P:Program) (t:TypeId) (d:DataW H):Prop:=∀ n∈d.weights P t,n≤reachBytes
theorem qgM {ts:List TypeId} {ds:List (DataW H)} (h:(DataW.weightsEach P ts ds).all (·≤reachBytes)=true) {j:Nat} {t:TypeId} {d:DataW H} (ht:ts[j]?=some t) (hd:ds[j]?=some d):qvL P t d :=
 fun n hn=>by simpa using List.all_eq_true.1 h n (DataW.weights_mem_each ht hd n hn)
def RdsW {α:Type} (enc:TypeId×Value→H) (P:Program) (W:World) (t:TypeId) (R:RP α):Prop:=∀ fuel cs x,tr enc P W fuel t cs=some x→qvL P t x.1→∃ a,R (allG W) cs a
theorem Rds.w {α:Type} {t:TypeId} {R:RP α} (h:Rds enc P W t R):RdsW enc P W t R:=fun f cs x hx _=>h f cs x hx
theorem RdsW.fld {α:Type} {u:TypeId} {R:RP α} (hR:RdsW enc P W u R) {cs:List Value} (h:∃ n y,tr enc P W n u cs=some y∧qvL P u y.1):∃ a,R (allG W) cs a:=let ⟨n,y,hy,hs⟩:=h;hR n cs y hy hs
theorem tr1 {cs:List Value} {u:TypeId} (h:∃ n y,tr enc P W n u cs=some y∧qvL P u y.1):∃ n y,tr enc P W n u cs=some y:=let ⟨n,y,hy,_⟩:=h;⟨n,y,hy⟩
theorem q7G {e:TypeId}:∀ {l:List (DataW H)} {d:DataW H},d∈l→∀ n∈d.weights P e,n∈DataW.weightsAll P e l
 | a :: r,d,h,n,hn=>by
  simp only [DataW.weightsAll,List.mem_append]
  rcases List.mem_cons.1 h with rfl|h
  ·exact .inl hn
  ·exact .inr (q7G h n hn)
theorem q3P {α:Type} {t e:TypeId} {sz:Nat} {R:RP α} (ht:P.underlying t=some (.slice e)) (hs:P.cellsOf e=sz) (hR:RdsW enc P W e R):RdsW enc P W t fun g cs l=>∃ v,cs=[v]∧rSl sz R g v l∧l.length*P.bytesOf e≤reachBytes:=by
 intro fuel cs x h hsm
 rcases DataW.trod_slice ht h with ⟨rfl,_⟩|⟨a,len,cap,elems,rest,n,_,rfl,rfl,_,hl,hc,hel,hget,_⟩
 ·exact⟨[],_,rfl,⟨none,0,rfl,Nat.le_refl _,Nat.zero_le _,fun _=>⟨rfl,rfl⟩,fun i x hx=>by simp at hx⟩,by simp⟩
 ·rw [hs] at hget
  have hw:∀ i (hi:i<elems.length),qvL P e (elems[i]).1:=fun i hi k hk=>by
   refine hsm k ?_
   simp only [DataW.weights,ht,List.mem_cons,List.mem_append]
   exact .inr (.inl (q7G (List.mem_map.2 ⟨elems[i],List.getElem_mem _,rfl⟩) k hk))
  have hlen0:len*P.bytesOf e≤reachBytes:=by
   have:=hsm ((elems.length+rest.length)*P.bytesOf e) (by simp [DataW.weights,ht])
   subst hel
   exact Nat.le_trans (Nat.mul_le_mul_right _ (by omega)) this
  have hel':∀ i,i<len→∃ (x:α) (ec:List Value),ec.length=sz∧R (allG W) ec x∧Rcs (allG W) (a.add (i*sz)) ec:=fun i hi=>by
   have h1:=hget i hi
   rw [List.getElem?_eq_getElem (by omega)] at h1
   obtain⟨ec,he,hr⟩:=Option.bind_eq_some_iff.1 h1
   obtain⟨x,hx⟩:=hR n ec _ hr (hw i (by omega))
   unfold World.cells? at he
   rw [if_pos (Nat.zero_le _)] at he
   have hlen:=mapM_some_length he
   refine⟨x,ec,by simpa using hlen,hx,fun j u hu=>?_⟩
   have hj:=(List.getElem?_eq_some_iff.1 hu).1
   have hsz:ec.length=sz:=by simpa using hlen
   obtain⟨y,hy1,hy2⟩:=qOO he j j (List.getElem?_range (by omega))
   rw [hu] at hy1;cases hy1
   refine⟨?_,hy2⟩
   show _<W.heap.size
   unfold World.cell? at hy2
   cases hh:W.heap[((a.add (i*sz)).add j).block]? with
   | none=>rw [hh] at hy2;cases hy2
   | some o=>exact(Array.getElem?_eq_some_iff.1 hh).1
  let f:Fin len→α:=fun i=>Classical.choose (hel' i.1 i.2)
  have hf:∀ i:Fin len,∃ (ec:List Value),ec.length=sz∧R (allG W) ec (f i)∧Rcs (allG W) (a.add (i.1*sz)) ec:=fun i=>Classical.choose_spec (hel' i.1 i.2)
  refine⟨List.ofFn f,_,rfl,⟨some a,cap,by simp,by simpa using hl,hc,(fun h=>by cases h),fun i x hx=>⟨a,rfl,?_⟩⟩,by simpa using hlen0⟩
  obtain⟨hi,he⟩:=List.getElem?_eq_some_iff.1 hx
  simp only [List.getElem_ofFn] at he
  simp only [List.length_ofFn] at hi
  have:=hf ⟨i,hi⟩
  rw [← he];exact this
theorem qFU {α:Type} {t e:TypeId} {sz:Nat} {R:RP α} (ht:P.underlying t=some (.slice e)) (hs:P.cellsOf e=sz) (hR:RdsW enc P W e R):RdsW enc P W t (rSlc sz R):=fun f cs x hx hs'=>by
 obtain⟨l,v,h1,h2,_⟩:=q3P ht hs hR f cs x hx hs'
 exact⟨l,v,h1,h2⟩
theorem qNN {t:TypeId} {l:List (Nat×Nat×TypeId)} (hf:fieldsOf P t=some l) {fuel:Nat} {cs:List Value} {x:DataW H×List MemPlace} (h:tr enc P W fuel t cs=some x) (hs:qvL P t x.1) :
  cs.length=P.cellsOf t∧∀ (i o s:Nat) (u:TypeId),l[i]?=some (o,s,u)→∃ n y,tr enc P W n u ((cs.drop o).take s)=some y∧qvL P u y.1:=by
 unfold fieldsOf at hf
 split at hf
 ·rename_i fs ht
  simp only [Option.some.injEq] at hf
  subst hf
  obtain⟨xs,n,rfl,rfl,hl,hxs,hget⟩:=DataW.trod_struct ht h
  refine⟨hl,fun i o s u hi=>?_⟩
  simp only [List.getElem?_map,Option.map_eq_some_iff,Array.getElem?_toList] at hi
  obtain⟨f,hf,he⟩:=hi
  simp only [Prod.mk.injEq] at he
  obtain⟨rfl,rfl,rfl⟩:=he
  have hlt:=(Array.getElem?_eq_some_iff.1 hf).1
  refine⟨n,xs[i]'(by omega),by rw [← List.getElem?_eq_getElem];exact hget i f hf,fun k hk=>hs k ?_⟩
  simp only [DataW.weights,ht]
  refine DataW.weights_mem_each (j:=i) (t:=f.type) (d:=(xs[i]'(by omega)).1) ?_ ?_ k hk
  ·rw [List.getElem?_map,Array.getElem?_toList,hf];rfl
  ·rw [List.getElem?_map,List.getElem?_eq_getElem (by omega)];rfl
 ·cases hf
theorem rd_c6 {t e:TypeId} (ht:P.underlying t=some (.array 6 e)) (he:P.underlying e=some (.int .u64)) (hc:P.cellsOf e=1) (hc6:P.cellsOf t=6):Rds enc P W t fun _ cs (c:C6)=>cs=c.cs∧c.ok:=by
 intro fuel cs x h
 obtain⟨xs,m,_,_,hl,hxs,hget⟩:=DataW.trod_array ht h
 rw [hc6] at hl
 have hg:∀ i,i<6→∃ n y,tr enc P W n e ((cs.drop i).take 1)=some y:=fun i hi=>by
  have:=hget i hi
  rw [hc,Nat.mul_one,List.getElem?_eq_getElem (by omega)] at this
  exact⟨m,_,this⟩
 match cs,hl with
 | [a,b,c,d,e',f],_ =>
  obtain⟨s0,e0,w0⟩:=(qBH he).fld (hg 0 (by omega))
  obtain⟨s1,e1,w1⟩:=(qBH he).fld (hg 1 (by omega))
  obtain⟨s2,e2,w2⟩:=(qBH he).fld (hg 2 (by omega))
  obtain⟨s3,e3,w3⟩:=(qBH he).fld (hg 3 (by omega))
  obtain⟨s4,e4,w4⟩:=(qBH he).fld (hg 4 (by omega))
  obtain⟨s5,e5,w5⟩:=(qBH he).fld (hg 5 (by omega))
  cases e0;cases e1;cases e2;cases e3;cases e4;cases e5
  exact⟨⟨s0,s1,s2,s3,s4,s5⟩,rfl,⟨w0,w1,w2,w3,w4,w5⟩⟩
end
end Go.Proofs.YtkogfpniapaigaaGreat.Sx
