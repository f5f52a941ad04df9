/- A symbolic evaluator over the model's code, part 1: its values, what it knows of memory, and how that stands to a world. -/
import Derived.RangeFuncRecord
import Derived.Below
import Derived.Laws.OwnMore
import Derived.WalkKit
import Derived.Laws.StructEq
import Derived.ChangeKeysEq
import Derived.MapKept
import Derived.Laws.BytesString
import Derived.Laws.CopyRow
set_option linter.unusedVariables false
set_option linter.unusedSimpArgs false
namespace Go.Proofs.YtkogfpniapaigaaGreat.Sx
open Go.RowKit
inductive SV where
 | v (x:Value)
 | b (x:Bool)
 | p (id b off:Nat)
 | sl (id b off len cap:Nat)
 | row (id:Nat) (oa:Option Addr) (n cap:Nat)
 | re (id:Nat) (oa:Option Addr) (n cap:Nat) (j:Nat)
 | fn (f:Fn) (first caps:List SV)
 | yl (id l:Nat)
 | mp (id r:Nat)
 | agg (l:List SV)
 | tup (l:List SV)
mutual
def conc:SV→Value
 | .v x=>x
 | .b x=>.bool x
 | .p _ b o=>.pointer (some ⟨b,o,none⟩)
 | .sl _ b o n c=>.slice (some ⟨b,o,none⟩) n c
 | .row _ oa n cap=>.slice oa n cap
 | .re _ oa _ _ j=>.pointer (oa.map (·.add j))
 | .fn f a c=>.func f (qAA a).toArray (qAA c).toArray
 | .yl _ l=>.func (.yield l) #[] #[]
 | .mp _ r=>.map (some r)
 | .agg l=>.agg (qAA l).toArray
 | .tup l=>.tuple (qAA l).toArray
def qAA:List SV→List Value
 | []=>[]
 | x :: r=>conc x :: qAA r
end
theorem qQA (l:List SV):qAA l=l.map conc:=by
 induction l with
 | nil=>rfl
 | cons x r ih=>simp [qAA,ih]
abbrev Sl:=List (Nat×SV)
def getS:Sl→Nat→Option SV
 | [],_=>none
 | (k,x) :: r,n=>match Nat.beq k n with
  | true=>some x
  | false=>getS r n
structure GW where
 w:World
 g:Nat→Prop
 wf:∀ n,g n→n<w.heap.size
def GW.le (a b:GW):Prop:=a.w.heap.size≤b.w.heap.size∧∀ n,a.g n→b.g n∧b.w.heap[n]?=a.w.heap[n]?
instance:LE GW:=⟨GW.le⟩
theorem GW.refl (a:GW):a≤a:=⟨Nat.le_refl _,fun _ h=>⟨h,rfl⟩⟩
theorem GW.trans {a b c:GW} (h:a≤b) (k:b≤c):a≤c :=
 ⟨Nat.le_trans h.1 k.1,fun n hn=>⟨(k.2 n (h.2 n hn).1).1,(k.2 n (h.2 n hn).1).2.trans (h.2 n hn).2⟩⟩
def Good (g:GW) (w:World):Prop:=g.w.heap.size≤w.heap.size∧∀ n,g.g n→w.heap[n]?=g.w.heap[n]?
theorem Good.refl (g:GW):Good g g.w:=⟨Nat.le_refl _,fun _ _=>rfl⟩
theorem Good.of_le {a b:GW} {w:World} (h:a≤b) (k:Good b w):Good a w :=
 ⟨Nat.le_trans h.1 k.1,fun n hn=>(k.2 n (h.2 n hn).1).trans (h.2 n hn).2⟩
def GW.next (g:GW) (w w':World):GW :=
 ⟨w',fun n=>n<w'.heap.size∧(g.g n∨w.heap.size≤n),fun _ h=>h.1⟩
theorem GW.le_next {g:GW} {w w':World} (h:Good g w) (hb:Below w.heap.size w w'):g≤g.next w w':=by
 refine⟨Nat.le_trans h.1 hb.size,fun n hn=>?_⟩
 have hlt:n<w.heap.size:=Nat.lt_of_lt_of_le (g.wf n hn) h.1
 exact⟨⟨Nat.lt_of_lt_of_le hlt hb.size,.inl hn⟩,(hb.block n hlt).trans (h.2 n hn)⟩
def GW.more (g:GW) (w:World) (bs:List Nat):GW :=
 ⟨w,fun n=>n<w.heap.size∧(g.g n∨n∈bs),fun _ h=>h.1⟩
theorem GW.le_more {g:GW} {w:World} (h:Good g w) (bs:List Nat):g≤g.more w bs :=
 ⟨h.1,fun n hn=>⟨⟨Nat.lt_of_lt_of_le (g.wf n hn) h.1,.inl hn⟩,h.2 n hn⟩⟩
def Rc (g:GW) (a:Addr) (x:Value):Prop:=g.g a.block∧g.w.cell? a=some x
theorem Rc.mono {g g':GW} {a:Addr} {x:Value} (h:Rc g a x) (k:g≤g'):Rc g' a x :=
 ⟨(k.2 _ h.1).1,by rw [World.cell?_of_block (k.2 _ h.1).2];exact h.2⟩
theorem Rc.at {g:GW} {a:Addr} {x:Value} (h:Rc g a x) {w:World} (k:Good g w):w.cell? a=some x:=by
 rw [World.cell?_of_block (k.2 _ h.1)];exact h.2
def RdSl (g:GW) (size:Nat) (x:Value) (n:Nat) (cs:List Value):Prop :=
 cs.length=n*size∧∃ oa cap,x=.slice oa n cap∧n≤cap∧cap≤maxLen∧(oa=none→n=0∧cap=0)∧∀ i u,cs[i]?=some u→∃ a,oa=some a∧Rc g (a.add i) u
theorem RdSl.mono {g g':GW} {size:Nat} {x:Value} {n:Nat} {cs:List Value} (h:RdSl g size x n cs) (k:g≤g'):RdSl g' size x n cs:=by
 obtain⟨h1,oa,cap,h2,h3,h4,h6,h5⟩:=h
 exact⟨h1,oa,cap,h2,h3,h4,h6,fun i u hu=>let ⟨a,ha,hr⟩:=h5 i u hu;⟨a,ha,hr.mono k⟩⟩
def Ok (P:Program) (f:FuncId) (args:List Value) (g:GW) (Q:Value→GW→Prop):Prop :=
 ∀ w,Good g w→Calls P f args.toArray w fun e w'=>∃ v,e=.returned v∧Below w.heap.size w w'∧Q v (g.next w w')
def OkV (P:Program) (f:FuncId) (args:List Value) (g:GW) (v:Value):Prop:=Ok P f args g fun v' _=>v'=v
theorem Ok.mono {P:Program} {f:FuncId} {args:List Value} {g:GW} {Q Q':Value→GW→Prop} (h:Ok P f args g Q) (hq:∀ v g',g≤g'→Q v g'→Q' v g'):Ok P f args g Q' :=
 fun w hw=>(h w hw).mono fun _ _ ⟨v,he,hb,hv⟩=>⟨v,he,hb,hq v _ (GW.le_next hw hb) hv⟩
theorem Ok.of_same {P:Program} {f:FuncId} {args:List Value} {g:GW} {v:Value} (h:∀ w,Calls P f args.toArray w fun e w'=>e=.returned v∧w=w'):OkV P f args g v :=
 fun w _=>(h w).mono fun _ _ ⟨he,hw⟩=>⟨v,he,hw▸Below.refl _ _,rfl⟩
inductive Ex where
 | normal
 | exit (n:Nat)
 | ret
 | goto (n:Nat)
def Ex.to:Ex→Exit
 | .normal=>.normal
 | .exit n=>.exit n
 | .ret=>.ret
 | .goto n=>.goto n
def Ex.code:Ex→Code
 | .normal=>.skip
 | .exit n=>.exit n
 | .ret=>.ret
 | .goto n=>.goto n
inductive LpS where
 | ready
 | busy
 | jump (e:Ex)
def qlI (r:Loop):LpS→Loop
 | .ready=>{r with state:=.ready,pending:=none}
 | .busy=>{r with state:=.busy,pending:=none}
 | .jump e=>{r with state:=.done,pending:=some e.code}
def mkE (ik:IntKind):Nat→List (Int×Value)→List MapEntry
 | _,[]=>[]
 | b,(n,v) :: r=>{key:=.int ik n,val:=v,born:=b} :: mkE ik (b+1) r
inductive Res where
 | blk (id b:Nat) (ty:TypeId) (cells:List SV)
 | row (id:Nat) (oa:Option Addr) (n cap:Nat) (ety:TypeId) (size:Nat) (cs:List Value)
 | lp (id l:Nat) (r:Loop) (j:LpS)
 | mk (b:Nat)
 | mp (id r:Nat) (ik:IntKind) (es:List (Int×Value))
def Res.bk:Res→List Nat
 | .blk _ b _ _=>[b]
 | .row _ oa _ _ _ _ _=>match oa with
  | some a=>[a.block]
  | none=>[]
 | .lp _ l _ _=>[l]
 | .mk b=>[b]
 | .mp _ r _ _=>[r]
def Res.holds:Res→World→Prop
 | .blk _ b ty cells,w=>w.heap[b]?=some (.cells (qAA cells).toArray ty (0,0))∧∀ c∈cells,(conc c).oneCell'=true
 | .row _ oa n cap ety size cs,w=>w.ownsRow 0 ety size (.slice oa n cap) n cs∧∀ u∈cs,u.oneCell'=true
 | .lp _ l r j,w=>w.heap[l]?=some (.loop (qlI r j))
 | .mk b,w=>w.heap[b]?=some (.deferred (some []))
 | .mp _ r ik es,w=>w.heap[r]?=some (.map ⟨mkE ik 0 es⟩ es.length)
theorem Res.holds_of {r:Res} {w w':World} (h:∀ b∈r.bk,w'.heap[b]?=w.heap[b]?) (k:r.holds w):r.holds w':=by
 cases r with
 | blk id b ty cells=>exact⟨(h b (by simp [Res.bk])).trans k.1,k.2⟩
 | lp id l r j=>exact(h l (by simp [Res.bk])).trans k
 | mk b=>exact(h b (by simp [Res.bk])).trans k
 | mp id r ik es=>exact(h r (by simp [Res.bk])).trans k
 | row id oa n cap ety size cs =>
  obtain⟨⟨h1,h2⟩,h3⟩:=k
  refine⟨⟨h1,?_⟩,h3⟩
  rcases h2 with h2|⟨g,cap',cur,he,hg,hh,r⟩
  ·exact .inl h2
  ·simp only [Value.slice.injEq] at he
   obtain⟨rfl,_,rfl⟩:=he
   exact .inr ⟨g,cap,cur,rfl,hg,(h g (by simp [Res.bk])).trans hh,r⟩
theorem Res.holds_lt {r:Res} {w:World} (k:r.holds w) {b:Nat} (hb:b∈r.bk):b<w.heap.size:=by
 have aux:∀ {n:Nat} {o:Obj},w.heap[n]?=some o→n<w.heap.size:=fun h=>(Array.getElem?_eq_some_iff.1 h).1
 cases r with
 | blk id b ty cells=>simp [Res.bk] at hb;subst hb;exact aux k.1
 | lp id l r j=>simp [Res.bk] at hb;subst hb;exact aux k
 | mk b=>simp [Res.bk] at hb;subst hb;exact aux k
 | mp id r ik es=>simp [Res.bk] at hb;subst hb;exact aux k
 | row id oa n cap ety size cs =>
  obtain⟨⟨h1,h2⟩,h3⟩:=k
  rcases h2 with ⟨he,_⟩|⟨g,cap',cur,he,hg,hh,r⟩
  ·simp only [Value.slice.injEq] at he
   obtain⟨rfl,_,rfl⟩:=he
   simp [Res.bk] at hb
  ·simp only [Value.slice.injEq] at he
   obtain⟨rfl,_,rfl⟩:=he
   simp [Res.bk] at hb;subst hb;exact aux hh
structure Hs where
 g:GW
 rs:List Res
 nx:Nat
 lo:Nat
def Hs.bks (hs:Hs):List Nat:=hs.rs.flatMap Res.bk
structure Fr where
 w:World
 pr:Nat→Prop
 g0:Nat→Prop
 wf:∀ n,pr n→n<w.heap.size
structure Fr.ok (fr:Fr) (w:World):Prop where
 os:w.os=fr.w.os
 tape:w.tape=fr.w.tape
 output:w.output=fr.w.output
 size:fr.w.heap.size≤w.heap.size
 block:∀ n,fr.pr n→w.heap[n]?=fr.w.heap[n]?
structure HSim (fr:Fr) (hs:Hs) (w:World):Prop where
 good:Good hs.g w
 frm:fr.ok w
 res:∀ r∈hs.rs,r.holds w
 nod:hs.bks.Nodup
 fre:∀ b∈hs.bks,¬ hs.g.g b∧¬ fr.pr b
 fz:∀ n,fr.pr n→hs.g.g n→fr.g0 n
 own:∀ n,hs.lo≤n→hs.g.g n→¬ fr.pr n
 low:hs.lo≤w.heap.size∧∀ b∈hs.bks,hs.lo≤b
theorem HSim.lt {fr:Fr} {hs:Hs} {w:World} (h:HSim fr hs w) {b:Nat} (hb:b∈hs.bks):b<w.heap.size:=by
 obtain⟨r,hr,hbr⟩:=List.mem_flatMap.1 hb
 exact Res.holds_lt (h.res r hr) hbr
theorem HSim.agree {fr:Fr} {hs:Hs} {w w':World} (h:HSim fr hs w) (hb:Below w.heap.size w w'):HSim fr hs w':=by
 refine⟨⟨Nat.le_trans h.good.1 hb.size,fun n hn=>?_⟩,⟨hb.os.trans h.frm.os,hb.tape.trans h.frm.tape,hb.output.trans h.frm.output,Nat.le_trans h.frm.size hb.size,fun n hn=>?_⟩,fun r hr=>?_,h.nod,h.fre,h.fz,h.own,Nat.le_trans h.low.1 hb.size,h.low.2⟩
 ·exact(hb.block n (Nat.lt_of_lt_of_le (hs.g.wf n hn) h.good.1)).trans (h.good.2 n hn)
 ·exact(hb.block n (Nat.lt_of_lt_of_le (fr.wf n hn) h.frm.size)).trans (h.frm.block n hn)
 ·exact Res.holds_of (fun b hbr=>hb.block b (Res.holds_lt (h.res r hr) hbr)) (h.res r hr)
theorem HSim.called {fr:Fr} {hs:Hs} {w w':World} (h:HSim fr hs w) (hb:Below w.heap.size w w'):HSim fr {hs with g:=hs.g.next w w'} w':=by
 have h':=h.agree hb
 refine⟨Good.refl _,h'.frm,h'.res,h.nod,fun b hbr=>⟨fun hg=>?_,(h.fre b hbr).2⟩,fun n hp hg=>?_,fun n hl hg hp=>?_,h'.low⟩
 ·have hlt:=h.lt hbr
  rcases hg.2 with hg|hg
  ·exact(h.fre b hbr).1 hg
  ·omega
 ·rcases hg.2 with hg|hg
  ·exact h.fz n hp hg
  ·have:=fr.wf n hp;have:=h.frm.size;omega
 ·rcases hg.2 with hg|hg
  ·exact h.own n hl hg hp
  ·have:=fr.wf n hp;have:=h.frm.size;omega
theorem Below.of_drew (w:World) (n:Nat):Below w.heap.size w {w with drawn:=n}:=⟨rfl,rfl,rfl,Nat.le_refl _,fun _ _=>rfl⟩
theorem Below.of_alloc (w:World) (o:Obj):Below w.heap.size w (w.alloc o):=(Below.refl _ _).alloc (Nat.le_refl _) o
theorem HSim.newRes {fr:Fr} {hs:Hs} {w w':World} (h:HSim fr hs w) (hb:Below w.heap.size w w') {r:Res} {nx:Nat} (hr:r.holds w') (hk:∀ b∈r.bk,w.heap.size≤b) (hn:r.bk.Nodup) :
  HSim fr {hs with rs:=r :: hs.rs,nx:=nx} w':=by
 have h':=h.agree hb
 refine⟨h'.good,h'.frm,fun x hx=>?_,?_,fun b hbr=>?_,h.fz,h.own,h'.low.1,fun b hbr=>?_⟩
 ·rcases List.mem_cons.1 hx with rfl|hx
  ·exact hr
  ·exact h'.res x hx
 ·show(r.bk++hs.bks).Nodup
  refine List.nodup_append.2 ⟨hn,h.nod,fun a ha b hb' hab=>?_⟩
  subst hab
  have:=hk a ha;have:=h.lt hb';omega
 ·rcases List.mem_append.1 (show b∈r.bk++hs.bks from hbr) with hb' | hb'
  ·have:=hk b hb'
   exact⟨fun hg=>by have:=hs.g.wf b hg;have:=h.good.1;omega,fun hp=>by have:=fr.wf b hp;have:=h.frm.size;omega⟩
  ·exact h.fre b hb'
 ·rcases List.mem_append.1 (show b∈r.bk++hs.bks from hbr) with hb' | hb'
  ·exact Nat.le_trans h.low.1 (hk b hb')
  ·exact h.low.2 b hb'
theorem HSim.sub {fr:Fr} {hs:Hs} {w:World} (h:HSim fr hs w) {rs:List Res} {nx:Nat} (hsub:rs.Sublist hs.rs):HSim fr {hs with rs:=rs,nx:=nx} w:=by
 have hb:(rs.flatMap Res.bk).Sublist hs.bks:=by
  unfold Hs.bks
  generalize hs.rs=l at hsub
  induction hsub with
  | slnil=>exact .slnil
  | cons a _ ih=>rw [List.flatMap_cons];exact ih.trans (List.sublist_append_right _ _)
  | cons_cons a _ ih=>rw [List.flatMap_cons,List.flatMap_cons];exact List.Sublist.append (List.Sublist.refl _) ih
 exact⟨h.good,h.frm,fun r hr=>h.res r (hsub.subset hr),h.nod.sublist hb,fun b hb'=>h.fre b (hb.subset hb'),h.fz,h.own,h.low.1,fun b hb'=>h.low.2 b (hb.subset hb')⟩
theorem HSim.upd {fr:Fr} {hs:Hs} {w w':World} (h:HSim fr hs w) {l1 l2:List Res} {r0 r1:Res} {nx:Nat} (hl:hs.rs=l1++r0 :: l2)
  (hos:w'.os=w.os) (htape:w'.tape=w.tape) (hout:w'.output=w.output) (hsz:w.heap.size≤w'.heap.size)
  (hblk:∀ k,k<w.heap.size→k ∉ r0.bk→w'.heap[k]?=w.heap[k]?) (hr:r1.holds w') (hk:∀ b∈r1.bk,b∈r0.bk∨w.heap.size≤b) (hn:r1.bk.Nodup) :
  HSim fr {hs with rs:=l1++r1 :: l2,nx:=nx} w':=by
 have hbk:hs.bks=l1.flatMap Res.bk++(r0.bk++l2.flatMap Res.bk):=by simp [Hs.bks,hl]
 have hnod:=h.nod
 rw [hbk] at hnod
 obtain⟨n1,n23,d1⟩:=List.nodup_append.1 hnod
 obtain⟨n2,n3,d2⟩:=List.nodup_append.1 n23
 have out1:∀ b∈l1.flatMap Res.bk,b ∉ r0.bk:=fun b hb hb'=>d1 b hb b (List.mem_append.2 (.inl hb')) rfl
 have out2:∀ b∈l2.flatMap Res.bk,b ∉ r0.bk:=fun b hb hb'=>d2 b hb' b hb rfl
 have mem0:∀ b∈r0.bk,b∈hs.bks:=fun b hb=>by rw [hbk];simp [hb]
 have mem1:∀ b∈l1.flatMap Res.bk,b∈hs.bks:=fun b hb=>by rw [hbk];exact List.mem_append.2 (.inl hb)
 have mem2:∀ b∈l2.flatMap Res.bk,b∈hs.bks:=fun b hb=>by rw [hbk];exact List.mem_append.2 (.inr (List.mem_append.2 (.inr hb)))
 have new1:∀ b∈r1.bk,b ∉ l1.flatMap Res.bk∧b ∉ l2.flatMap Res.bk:=fun b hb=>by
  rcases hk b hb with h0|h0
  ·exact⟨fun h1=>out1 b h1 h0,fun h2=>out2 b h2 h0⟩
  ·exact⟨fun h1=>by have:=h.lt (mem1 b h1);omega,fun h2=>by have:=h.lt (mem2 b h2);omega⟩
 have hbk':Hs.bks {hs with rs:=l1++r1 :: l2,nx:=nx}=l1.flatMap Res.bk++(r1.bk++l2.flatMap Res.bk):=by simp [Hs.bks]
 refine⟨⟨Nat.le_trans h.good.1 hsz,fun n hn'=>?_⟩,⟨hos.trans h.frm.os,htape.trans h.frm.tape,hout.trans h.frm.output,Nat.le_trans h.frm.size hsz,fun n hn'=>?_⟩,fun r hr'=>?_,?_,fun b hb=>?_,h.fz,h.own,Nat.le_trans h.low.1 hsz,fun b hb=>?_⟩
 ·refine(hblk n (Nat.lt_of_lt_of_le (hs.g.wf n hn') h.good.1) fun h0=>?_).trans (h.good.2 n hn')
  exact(h.fre n (mem0 n h0)).1 hn'
 ·refine(hblk n (Nat.lt_of_lt_of_le (fr.wf n hn') h.frm.size) fun h0=>?_).trans (h.frm.block n hn')
  exact(h.fre n (mem0 n h0)).2 hn'
 ·rcases List.mem_append.1 hr' with h1|h1
  ·have hh:=h.res r (by rw [hl];exact List.mem_append.2 (.inl h1))
   exact Res.holds_of (fun b hb=>hblk b (Res.holds_lt hh hb) (out1 b (List.mem_flatMap.2 ⟨r,h1,hb⟩))) hh
  ·rcases List.mem_cons.1 h1 with rfl|h1
   ·exact hr
   ·have hh:=h.res r (by rw [hl];exact List.mem_append.2 (.inr (List.mem_cons.2 (.inr h1))))
    exact Res.holds_of (fun b hb=>hblk b (Res.holds_lt hh hb) (out2 b (List.mem_flatMap.2 ⟨r,h1,hb⟩))) hh
 ·rw [hbk']
  refine List.nodup_append.2 ⟨n1,List.nodup_append.2 ⟨hn,n3,fun a ha b hb hab=>(new1 a ha).2 (hab▸hb)⟩,fun a ha b hb hab=>?_⟩
  subst hab
  rcases List.mem_append.1 hb with hb|hb
  ·exact(new1 a hb).1 ha
  ·exact d1 a ha a (List.mem_append.2 (.inr hb)) rfl
 ·rw [hbk'] at hb
  rcases List.mem_append.1 hb with hb|hb
  ·exact h.fre b (mem1 b hb)
  ·rcases List.mem_append.1 hb with hb|hb
   ·rcases hk b hb with h0|h0
    ·exact h.fre b (mem0 b h0)
    ·exact⟨fun hg=>by have:=hs.g.wf b hg;have:=h.good.1;omega,fun hp=>by have:=fr.wf b hp;have:=h.frm.size;omega⟩
   ·exact h.fre b (mem2 b hb)
 ·rw [hbk'] at hb
  rcases List.mem_append.1 hb with hb|hb
  ·exact h.low.2 b (mem1 b hb)
  ·rcases List.mem_append.1 hb with hb|hb
   ·rcases hk b hb with h0|h0
    ·exact h.low.2 b (mem0 b h0)
    ·exact Nat.le_trans h.low.1 h0
   ·exact h.low.2 b (mem2 b hb)
theorem HSim.freeze {fr:Fr} {hs:Hs} {w:World} (h:HSim fr hs w) {l1 l2:List Res} {r0:Res} {nx:Nat} (hl:hs.rs=l1++r0 :: l2) :
  HSim fr {g:=hs.g.more w r0.bk,rs:=l1++l2,nx:=nx,lo:=hs.lo} w:=by
 have hbk:hs.bks=l1.flatMap Res.bk++(r0.bk++l2.flatMap Res.bk):=by simp [Hs.bks,hl]
 have hnod:=h.nod
 rw [hbk] at hnod
 obtain⟨n1,n23,d1⟩:=List.nodup_append.1 hnod
 obtain⟨n2,n3,d2⟩:=List.nodup_append.1 n23
 have hs2:=h.sub (rs:=l1++l2) (nx:=nx) (by rw [hl];exact List.Sublist.append (List.Sublist.refl _) (List.sublist_cons_self _ _))
 refine⟨Good.refl _,h.frm,hs2.res,hs2.nod,fun b hb=>⟨fun hg=>?_,(hs2.fre b hb).2⟩,fun n hp hg=>?_,fun n hl hg hp=>?_,hs2.low⟩
 ·rcases hg.2 with hg|hg
  ·exact(hs2.fre b hb).1 hg
  ·have hb':b∈l1.flatMap Res.bk++l2.flatMap Res.bk:=by simpa [Hs.bks] using hb
   rcases List.mem_append.1 hb' with h1|h1
   ·exact d1 b h1 b (List.mem_append.2 (.inl hg)) rfl
   ·exact d2 b hg b h1 rfl
 ·rcases hg.2 with hg|hg
  ·exact h.fz n hp hg
  ·exact absurd hp (h.fre n (by rw [hbk];simp [hg])).2
 ·rcases hg.2 with hg|hg
  ·exact h.own n hl hg hp
  ·exact absurd hp (h.fre n (by rw [hbk];simp [hg])).2
def Fr.le (a b:Fr):Prop:=(∀ w,b.ok w→a.ok w)∧(∀ n,a.pr n→b.pr n∧(b.g0 n→a.g0 n))
theorem Fr.refl (a:Fr):a.le a:=⟨fun _ h=>h,fun _ h=>⟨h,fun h=>h⟩⟩
theorem Fr.trans {a b c:Fr} (h:a.le b) (k:b.le c):a.le c:=⟨fun w hw=>h.1 w (k.1 w hw),fun n hn=>⟨(k.2 n (h.2 n hn).1).1,fun hg=>(h.2 n hn).2 ((k.2 n (h.2 n hn).1).2 hg)⟩⟩
theorem HSim.weaken {a b:Fr} {hs:Hs} {w:World} (h:HSim b hs w) (k:a.le b):HSim a hs w :=
 ⟨h.good,k.1 w h.frm,h.res,h.nod,fun n hn=>⟨(h.fre n hn).1,fun hp=>(h.fre n hn).2 (k.2 n hp).1⟩,fun n hp hg=>(k.2 n hp).2 (h.fz n (k.2 n hp).1 hg),fun n hl hg hp=>h.own n hl hg (k.2 n hp).1,h.low⟩
structure Upd (g:GW) (b:Nat) (o:Obj) (g':GW):Prop where
 dom:∀ n,g'.g n↔g.g n
 obj:g'.w.heap[b]?=some o
 other:∀ n,g.g n→n≠b→g'.w.heap[n]?=g.w.heap[n]?
 size:g.w.heap.size≤g'.w.heap.size
theorem Upd.le {g g' g0:GW} {b:Nat} {o:Obj} (h:Upd g b o g') (k:g0≤g) (hb:¬ g0.g b):g0≤g' :=
 ⟨Nat.le_trans k.1 h.size,fun n hn=>⟨(h.dom n).2 (k.2 n hn).1,(h.other n (k.2 n hn).1 fun e=>hb (e▸hn)).trans (k.2 n hn).2⟩⟩
structure Less (g:GW) (b:Nat) (g':GW):Prop where
 dom:∀ n,g'.g n↔g.g n∧n≠b
 other:∀ n:Nat,g'.w.heap[n]?=g.w.heap[n]?
 size:g.w.heap.size=g'.w.heap.size
theorem Less.le {g g' g0:GW} {b:Nat} (h:Less g b g') (k:g0≤g) (hb:¬ g0.g b):g0≤g' :=
 ⟨h.size▸k.1,fun n hn=>⟨(h.dom n).2 ⟨(k.2 n hn).1,fun e=>hb (e▸hn)⟩,(h.other n).trans (k.2 n hn).2⟩⟩
def GW.less (g:GW) (b:Nat):GW:=⟨g.w,fun n=>g.g n∧n≠b,fun n h=>g.wf n h.1⟩
theorem GW.less_spec (g:GW) (b:Nat):Less g b (g.less b):=⟨fun _=>Iff.rfl,fun _=>rfl,rfl⟩
theorem HSim.poke {fr:Fr} {hs:Hs} {w w':World} (h:HSim fr hs w) {b:Nat} {o:Obj} (hlo:hs.lo≤b) (hg:hs.g.g b) (hos:w'.os=w.os) (htape:w'.tape=w.tape) (hout:w'.output=w.output) (hsz:w'.heap.size=w.heap.size)
  (hb:w'.heap[b]?=some o) (hblk:∀ k,k≠b→w'.heap[k]?=w.heap[k]?):∃ g',Upd hs.g b o g'∧HSim fr ⟨g',hs.rs,hs.nx,hs.lo⟩ w':=by
 have hnb:b ∉ hs.bks:=fun hm=>(h.fre b hm).1 hg
 refine⟨⟨w',hs.g.g,fun n hn=>by have:=hs.g.wf n hn;have:=h.good.1;omega⟩,⟨fun _=>Iff.rfl,hb,fun n hn hne=>(hblk n hne).trans (h.good.2 n hn),by rw [hsz];exact h.good.1⟩,?_⟩
 refine⟨Good.refl _,⟨hos.trans h.frm.os,htape.trans h.frm.tape,hout.trans h.frm.output,by rw [hsz];exact h.frm.size,fun n hn=>?_⟩,fun r hr=>?_,h.nod,h.fre,h.fz,h.own,by show hs.lo≤w'.heap.size;rw [hsz];exact h.low.1,h.low.2⟩
 ·exact(hblk n fun e=>h.own b hlo hg (e▸hn)).trans (h.frm.block n hn)
 ·exact Res.holds_of (fun k hk=>hblk k fun e=>hnb (e▸List.mem_flatMap.2 ⟨r,hr,hk⟩)) (h.res r hr)
theorem HSim.thaw {fr:Fr} {hs:Hs} {w:World} (h:HSim fr hs w) {r:Res} {b nx:Nat} (hbk:r.bk=[b]) (hlo:hs.lo≤b) (hg:hs.g.g b) (hr:r.holds w):HSim fr ⟨hs.g.less b,r :: hs.rs,nx,hs.lo⟩ w:=by
 have hnb:b ∉ hs.bks:=fun hm=>(h.fre b hm).1 hg
 have hb':Hs.bks ⟨hs.g.less b,r :: hs.rs,nx,hs.lo⟩=b :: hs.bks:=by simp [Hs.bks,hbk]
 refine⟨⟨h.good.1,fun n hn=>h.good.2 n hn.1⟩,h.frm,fun x hx=>?_,?_,fun c hc=>?_,fun n hp hg'=>h.fz n hp hg'.1,fun n hl hg'=>h.own n hl hg'.1,h.low.1,fun c hc=>?_⟩
 ·rcases List.mem_cons.1 hx with rfl|hx
  ·exact hr
  ·exact h.res x hx
 ·rw [hb'];exact List.nodup_cons.2 ⟨hnb,h.nod⟩
 ·rw [hb'] at hc
  rcases List.mem_cons.1 hc with rfl|hc
  ·exact⟨fun hh=>hh.2 rfl,h.own _ hlo hg⟩
  ·exact⟨fun hh=>(h.fre c hc).1 hh.1,(h.fre c hc).2⟩
 ·rw [hb'] at hc
  rcases List.mem_cons.1 hc with rfl|hc
  ·exact hlo
  ·exact h.low.2 c hc
def PbSl (g:GW) (lo:Nat) (ety:TypeId) (size:Nat) (v:Value) (n:Nat) (cs:List Value):Prop :=
 cs.length=n*size∧((v=.slice none 0 0∧n=0)∨∃ b cap rest,v=.slice (some ⟨b,0,none⟩) n cap∧(lo≤b∧g.g b)∧g.w.heap[b]?=some (.cells ⟨cs++rest⟩ ety (0,0))∧n≤cap∧cap≤maxLen∧(cs++rest).length=cap*size)∧∀ u∈cs,u.oneCell'=true
theorem PbSl.mono {g g':GW} {lo:Nat} {ety:TypeId} {size:Nat} {v:Value} {n:Nat} {cs:List Value} (h:PbSl g lo ety size v n cs) (k:g≤g'):PbSl g' lo ety size v n cs:=by
 obtain⟨h1,h2,h3⟩:=h
 refine⟨h1,?_,h3⟩
 rcases h2 with h2|⟨b,cap,rest,hv,hb,ho,hr⟩
 ·exact .inl h2
 ·exact .inr ⟨b,cap,rest,hv,⟨hb.1,(k.2 b hb.2).1⟩,(k.2 b hb.2).2.trans ho,hr⟩
/- A symbolic evaluator over the model's code,part 2: operations,how they are read off the model's,and those that only read. -/
open Go.RowKit
inductive Opd where
 | t (n:Nat)
 | c (v:Value)
 | b (x:Bool)
 deriving Inhabited
inductive SOp where
 | mov (x:Opd)
 | pick (c a b:Opd)
 | bini (op:BinOp) (x y:Opd)
 | bins (op:BinOp) (x y:Opd)
 | binb (neg:Bool) (x y:Opd)
 | binn (kind:Nat) (neg:Bool) (x:Opd)
 | binst (neg:Bool) (ks:List Nat) (x y:Opd)
 | not (x:Opd)
 | conv (k:IntKind) (x:Opd)
 | len (str:Bool) (x:Opd)
 | idxs (x i:Opd)
 | idxa (n size:Nat) (agg:Bool) (x i:Opd)
 | fadr (off:Nat) (x:Opd)
 | fld (off size:Nat) (agg:Bool) (x:Opd)
 | iadra (n size:Nat) (x i:Opd)
 | iadr (size:Nat) (x i:Opd)
 | load (agg:Bool) (size:Nat) (x:Opd)
 | nck (x:Opd)
 | ext (i:Nat) (x:Opd)
 | mkf (f:Fn) (first caps:List Opd)
 | build (zero:List SV) (parts:List (Nat×Nat×Opd))
 | slcs (x:Opd) (lo hi:Option Opd)
 | slc (size:Nat) (x:Opd) (lo hi mx:Option Opd)
 | mini (x y:Opd)
 | tos (x:Opd)
 | look (ik:IntKind) (z:Value) (ok:Bool) (x k:Opd)
 | store (size:Nat) (x y:Opd)
 | alloc (ty:TypeId) (zero:List SV)
 | box (ty:TypeId) (x:Opd)
 | bsl (ety:TypeId) (size len:Nat) (zero:List SV) (parts:List (Nat×Nat×Opd))
 | app (ety:TypeId) (size bytes:Nat) (s x:Opd)
 | msl (ety:TypeId) (size bytes:Nat) (zero:List Value) (len cap:Opd)
 | cpy (d s:Opd)
 | mkm (ik:IntKind)
 | mup (ik:IntKind) (m k v:Opd)
 | call (f:FuncId) (args:List Opd)
 | callw (f:FuncId) (args:List Opd)
 | callv (f:Opd) (args:List Opd)
 deriving Inhabited
def qFA:Operand→Opd
 | .tmp t=>.t t
 | .const v=>match v with
  | .bool x=>.b x
  | v=>.c v
 | .global g=>.c (.pointer (some ⟨g,0,none⟩))
 | .func f=>.c (.func (.func f) #[] #[])
def qPC (P:Program) (t:TypeId):Option Nat:=(P.info? t).map (·.size)
def aggT (P:Program) (t:TypeId):Option Bool:=match P.underlying t with
 | some (.struct _)=>some true
 | some (.array ..)=>some true
 | some _=>some false
 | none=>none
def q7I (P:Program) (t:TypeId):Option (List Value):=match (P.info? t).bind (·.zero) with
 | some z=>if z.cells.all (·.oneCell') then some z.cells.toList else none
 | none=>none
def qCL (P:Program) (r:TypeId→Option (List Nat)):List Field→Nat→Option (List Nat)
 | [],_=>some []
 | f :: fs,o=>match r f.type,qPC P f.type,aggT P f.type with
  | some ks, some size, some _ => if f.offset = o ∧ f.name ≠ "_" ∧ size = ks.length then match qCL P r fs (o + ks.length) with
   | some l=>some (ks++l)
   | none=>none
   else none
  | _,_,_=>none
def qyF (ks:List Nat):Nat→List Nat
 | 0=>[]
 | n+1=>ks++qyF ks n
def qqE (P:Program):Nat→TypeId→Option (List Nat)
 | 0,_=>none
 | d+1,t=>match P.underlying t with
  | some (.int _)=>some [0]
  | some .string=>some [1]
  | some .bool=>some [2]
  | some (.struct fs)=>if P.stoodInHeld t then none else qCL P (qqE P d) fs.toList 0
  | some (.array n e)=>match qqE P d e,P.info? e,aggT P e with
   | some ks,some i,some _=>if i.size=ks.length then some (qyF ks n) else none
   | _,_,_=>none
  | _=>none
def eqT (P:Program) (t:TypeId):Option (List Nat):=match qqE P 8 t with
 | some ks=>if P.eqGuardType P.depth t then none else some ks
 | none=>none
def qIQ:Option Operand→Bool
 | none=>true
 | some (.const (.int ..))=>true
 | _=>false
def mapT (P:Program) (t:TypeId):Option (IntKind×TypeId):=match P.underlying t with
 | some (.map kt et)=>match P.underlying kt with
  | some (.int ik)=>some (ik,et)
  | _=>none
 | _=>none
theorem qBL {P:Program} {t:TypeId} {ik:IntKind} {et:TypeId} (h:mapT P t=some (ik,et)):∃ kt,P.underlying t=some (.map kt et)∧P.underlying kt=some (.int ik):=by
 unfold mapT at h
 split at h
 ·rename_i kt et' hu
  split at h
  ·rename_i ik' hk
   simp at h;obtain⟨rfl,rfl⟩:=h
   exact⟨kt,hu,hk⟩
  ·cases h
 ·cases h
def qsO (fn : Func) : Bool := fn.results.isEmpty || fn.name == "(hydrant/collect.work).done"
def trOp (P:Program) (o:Oper):Option SOp :=
 match o.op with
 | .move x=>some (.mov (qFA x))
 | .assign x=>some (.mov (qFA x))
 | .pick c a b=>some (.pick (qFA c) (qFA a) (qFA b))
 | .binOp op t x y _=>match P.underlying t,op with
  | some (.int _),op=>some (.bini op (qFA x) (qFA y))
  | some .string,op=>some (.bins op (qFA x) (qFA y))
  | some .bool,.eql=>some (.binb false (qFA x) (qFA y))
  | some .bool,.neq=>some (.binb true (qFA x) (qFA y))
  | some (.slice _),.eql=>match y with
   | .const (.slice none 0 0)=>some (.binn 0 false (qFA x))
   | _=>none
  | some (.slice _),.neq=>match y with
   | .const (.slice none 0 0)=>some (.binn 0 true (qFA x))
   | _=>none
  | some (.pointer _),.eql=>match y with
   | .const (.pointer none)=>some (.binn 1 false (qFA x))
   | _=>none
  | some (.pointer _),.neq=>match y with
   | .const (.pointer none)=>some (.binn 1 true (qFA x))
   | _=>none
  | some (.func ..),.eql=>match y with
   | .const .nilFunc=>some (.binn 2 false (qFA x))
   | _=>none
  | some (.func ..),.neq=>match y with
   | .const .nilFunc=>some (.binn 2 true (qFA x))
   | _=>none
  | some (.struct _),.eql=>(eqT P t).map fun ks=>.binst false ks (qFA x) (qFA y)
  | some (.struct _),.neq=>(eqT P t).map fun ks=>.binst true ks (qFA x) (qFA y)
  | some (.array ..),.eql=>(eqT P t).map fun ks=>.binst false ks (qFA x) (qFA y)
  | some (.array ..),.neq=>(eqT P t).map fun ks=>.binst true ks (qFA x) (qFA y)
  | _,_=>none
 | .unOp .not _ x=>some (.not (qFA x))
 | .convert s d x=>match P.underlying s,P.underlying d with
  | some (.int _),some (.int k)=>some (.conv k (qFA x))
  | some (.slice e),some .string=>match P.underlying e with
   | some (.int .u8)=>some (.tos (qFA x))
   | _=>none
  | _,_=>none
 | .index t x i=>match P.underlying t with
  | some .string=>some (.idxs (qFA x) (qFA i))
  | some (.array n e)=>match qPC P e,aggT P e with
   | some size,some agg=>some (.idxa n size agg (qFA x) (qFA i))
   | _,_=>none
  | _=>none
 | .fieldAddr t x f=>match P.underlying t with
  | some (.struct fs)=>match fs[f]? with
   | some fd=>match qPC P fd.type with
    | some (_+1)=>some (.fadr fd.offset (qFA x))
    | _=>none
   | none=>none
  | _=>none
 | .field t x f=>match P.underlying t with
  | some (.struct fs)=>match fs[f]? with
   | some fd=>match qPC P fd.type,aggT P fd.type with
    | some size,some agg=>some (.fld fd.offset size agg (qFA x))
    | _,_=>none
   | none=>none
  | _=>none
 | .indexAddr t x i=>match P.underlying t with
  | some (.slice e)=>match qPC P e with
   | some size=>some (.iadr size (qFA x) (qFA i))
   | none=>none
  | some (.array n e)=>match qPC P e with
   | some size=>some (.iadra n size (qFA x) (qFA i))
   | none=>none
  | _=>none
 | .load t x=>match qPC P t,aggT P t with
  | some size,some agg=>if 0<size∨agg=true then some (.load agg size (qFA x)) else none
  | _,_=>none
 | .nilCheck x=>some (.nck (qFA x))
 | .extract x i=>some (.ext i (qFA x))
 | .makeFunc f first caps=>some (.mkf f (first.toList.map qFA) (caps.toList.map qFA))
 | .slice t x lo hi mx=>match P.underlying t with
  | some .string=>match mx with
   | none=>some (.slcs (qFA x) (lo.map qFA) (hi.map qFA))
   | some _=>none
  | some (.slice e)=>match qPC P e,hi,mx with
   | some _,none,some _=>none
   | some size,_,_=>some (.slc size (qFA x) (lo.map qFA) (hi.map qFA) (mx.map qFA))
   | none,_,_=>none
  | _=>none
 | .build t parts=>match q7I P t,P.underlying t with
  | some z,some (.struct fs)=>match fs.toList.mapM (fun f=>(P.info? f.type).map fun i=>(f.offset,i.size)) with
   | some places=>match parts.toList.mapM (fun (i,x)=>(places[i]?).map fun (o,s)=>(o,s,qFA x)) with
    | some ps=>some (.build (z.map SV.v) ps)
    | none=>none
   | none=>none
  | some z,some (.array _ e)=>match qPC P e with
   | some size=>some (.build (z.map SV.v) (parts.toList.map fun (i,x)=>(i*size,size,qFA x)))
   | none=>none
  | _,_=>none
 | .store t x y=>match qPC P t with
  | some size=>some (.store size (qFA x) (qFA y))
  | none=>none
 | .alloc t=>match q7I P t with
  | some z=>some (.alloc t (z.map SV.v))
  | none=>none
 | .box t x=>some (.box t (qFA x))
 | .buildSlice t len parts=>match P.underlying t with
  | some (.slice e)=>match qPC P e,q7I P e with
   | some size,some z=>if len*size≤2 ^ 24∧0<size∧z.length=size then some (.bsl e size len ((List.replicate len (z.map SV.v)).flatten) (parts.toList.map fun (i,x)=>(i*size,size,qFA x))) else none
   | _,_=>none
  | _=>none
 | .makeSlice t l c=>match P.underlying t with
  | some (.slice e)=>match P.info? e,q7I P e with
   | some i,some z=>if 0<i.size∧z.length=i.size then some (.msl e i.size i.bytes z (qFA l) (qFA c)) else none
   | _,_=>none
  | _=>none
 | .makeMap t r=>match mapT P t with
  | some (ik,_)=>if qIQ r then some (.mkm ik) else none
  | none=>none
 | .insert t m k v=>match mapT P t with
  | some (ik,_)=>some (.mup ik (qFA m) (qFA k) (qFA v))
  | none=>none
 | .mapUpdate t m k v=>match mapT P t with
  | some (ik,_)=>some (.mup ik (qFA m) (qFA k) (qFA v))
  | none=>none
 | .lookup t m k ok=>match mapT P t with
  | some (ik,et)=>match (P.info? et).bind (·.zero) with
   | some z=>some (.look ik z ok (qFA m) (qFA k))
   | none=>none
  | none=>none
 | .call c=>match c.callee with
  | .builtin .len=>match c.args.toList,c.argTypes.toList with
   | [x],[t]=>match P.underlying t with
    | some .string=>some (.len true (qFA x))
    | some (.slice _)=>some (.len false (qFA x))
    | _=>none
   | _,_=>none
  | .builtin .min=>match c.args.toList with
   | [x,y]=>some (.mini (qFA x) (qFA y))
   | _=>none
  | .builtin .append=>match c.args.toList,c.argTypes.toList with
   | [s,x],[t,t']=>match P.underlying t with
    | some (.slice e)=>match P.info? e with
     | some i=>if t=t'∧0<i.size∧(i.zero.any fun z=>z.cells.size==i.size) then some (.app e i.size i.bytes (qFA s) (qFA x)) else none
     | none=>none
    | _=>none
   | _,_=>none
  | .builtin .copy=>match c.args.toList,c.argTypes.toList with
   | [d,s],[t,_]=>match P.underlying t with
    | some (.slice e)=>if qPC P e=some 1 then some (.cpy (qFA d) (qFA s)) else none
    | _=>none
   | _,_=>none
  | .value (.func f)=>match P.funcs[f]? with
   | some fn => if fn.body.isSome && fn.name != "runtime.NumGoroutine" then (match qsO fn with
    | true=>some (.callw f (c.args.toList.map qFA))
    | false=>some (.call f (c.args.toList.map qFA))) else none
   | none=>none
  | .value g=>some (.callv (qFA g) (c.args.toList.map qFA))
  | _=>none
 | _=>none
def qwA (id:Nat):List Res→Option (Nat×TypeId×List SV)
 | []=>none
 | .blk k b ty cells :: r=>match Nat.beq k id with
  | true=>some (b,ty,cells)
  | false=>qwA id r
 | _ :: r=>qwA id r
def q3A (id:Nat):List Res→Option (Option Addr×Nat×Nat×TypeId×Nat×List Value)
 | []=>none
 | .row k oa n cap ety size cs :: r=>match Nat.beq k id with
  | true=>some (oa,n,cap,ety,size,cs)
  | false=>q3A id r
 | _ :: r=>q3A id r
def qoD (id:Nat):List Res→Option (Nat×IntKind×List (Int×Value))
 | []=>none
 | .mp k r ik es :: rs=>match Nat.beq k id with
  | true=>some (r,ik,es)
  | false=>qoD id rs
 | _ :: r=>qoD id r
theorem q8J {id:Nat} {rs:List Res} {r:Nat} {ik:IntKind} {es:List (Int×Value)} (h:qoD id rs=some (r,ik,es)):∃ l1 l2,rs=l1++.mp id r ik es :: l2:=by
 induction rs with
 | nil=>simp [qoD] at h
 | cons x rs ih =>
  have go:qoD id rs=some (r,ik,es)→∃ l1 l2,x :: rs=l1++.mp id r ik es :: l2:=fun h'=>by
   obtain⟨l1,l2,e⟩:=ih h'
   exact⟨x :: l1,l2,by simp [e]⟩
  cases x with
  | mp k r' ik' es' =>
   simp only [qoD] at h
   cases hk:Nat.beq k id with
   | true=>rw [hk] at h;simp at h;obtain⟨rfl,rfl,rfl⟩:=h;obtain rfl:=Nat.eq_of_beq_eq_true hk;exact⟨[],rs,rfl⟩
   | false=>rw [hk] at h;exact go h
  | row _ _ _ _ _ _ _=>exact go h
  | blk _ _ _ _=>exact go h
  | lp _ _ _ _=>exact go h
  | mk _=>exact go h
def qpI (id:Nat):List Res→Option (Nat×Loop×LpS)
 | []=>none
 | .lp k l r j :: rs=>match Nat.beq k id with
  | true=>some (l,r,j)
  | false=>qpI id rs
 | _ :: r=>qpI id r
theorem qqI {id:Nat} {rs:List Res} {b:Nat} {ty:TypeId} {cells:List SV} (h:qwA id rs=some (b,ty,cells)) :
  ∃ l1 l2,rs=l1++.blk id b ty cells :: l2:=by
 induction rs with
 | nil=>simp [qwA] at h
 | cons r rs ih =>
  have go:qwA id rs=some (b,ty,cells)→∃ l1 l2,r :: rs=l1++.blk id b ty cells :: l2:=fun h'=>by
   obtain⟨l1,l2,e⟩:=ih h'
   exact⟨r :: l1,l2,by simp [e]⟩
  cases r with
  | blk k b' ty' cells' =>
   simp only [qwA] at h
   cases hk:Nat.beq k id with
   | true=>rw [hk] at h;simp at h;obtain⟨rfl,rfl,rfl⟩:=h;obtain rfl:=Nat.eq_of_beq_eq_true hk;exact⟨[],rs,rfl⟩
   | false=>rw [hk] at h;exact go h
  | row _ _ _ _ _ _ _=>exact go h
  | lp _ _ _ _=>exact go h
  | mk _=>exact go h
  | mp _ _ _ _=>exact go h
theorem qoI {id:Nat} {rs:List Res} {oa:Option Addr} {n cap:Nat} {ety:TypeId} {size:Nat} {cs:List Value} (h:q3A id rs=some (oa,n,cap,ety,size,cs)) :
  ∃ l1 l2,rs=l1++.row id oa n cap ety size cs :: l2:=by
 induction rs with
 | nil=>simp [q3A] at h
 | cons r rs ih =>
  have go:q3A id rs=some (oa,n,cap,ety,size,cs)→∃ l1 l2,r :: rs=l1++.row id oa n cap ety size cs :: l2:=fun h'=>by
   obtain⟨l1,l2,e⟩:=ih h'
   exact⟨r :: l1,l2,by simp [e]⟩
  cases r with
  | row k oa' n' cap' ety' size' cs' =>
   simp only [q3A] at h
   cases hk:Nat.beq k id with
   | true=>rw [hk] at h;simp at h;obtain⟨rfl,rfl,rfl,rfl,rfl,rfl⟩:=h;obtain rfl:=Nat.eq_of_beq_eq_true hk;exact⟨[],rs,rfl⟩
   | false=>rw [hk] at h;exact go h
  | blk _ _ _ _=>exact go h
  | lp _ _ _ _=>exact go h
  | mk _=>exact go h
  | mp _ _ _ _=>exact go h
def norm (rs:List Res) (x:SV):SV:=match x with
 | .row id oa n cap=>match q3A id rs with
  | some _=>.row id oa n cap
  | none=>.v (.slice oa n cap)
 | .p id b o=>match qwA id rs with
  | some _=>.p id b o
  | none=>.v (.pointer (some ⟨b,o,none⟩))
 | .sl id b o n c=>match qwA id rs with
  | some _=>.sl id b o n c
  | none=>.v (.slice (some ⟨b,o,none⟩) n c)
 | x=>x
theorem qdC (rs:List Res) (x:SV):conc (norm rs x)=conc x:=by
 cases x<;>simp only [norm]<;>first|rfl|(split<;>rfl)
def qaT (x:SV) (k:SV→Prop):Prop:=match x with
 | .v y=>k (.v y)
 | .b x=>k (.b x)
 | .p i b o=>k (.p i b o)
 | .sl i b o n c=>k (.sl i b o n c)
 | .row i a n c=>k (.row i a n c)
 | .re i a n c j=>k (.re i a n c j)
 | .fn f a c=>k (.fn f a c)
 | .yl i l=>k (.yl i l)
 | .mp i l=>k (.mp i l)
 | .agg l=>k (.agg l)
 | .tup l=>k (.tup l)
theorem qLN (x:SV) (k:SV→Prop):qaT x k=k x:=by cases x<;>rfl
def Opd.k (rs:List Res) (sl:Sl) (x:Opd) (k:SV→Prop):Prop:=match x with
 | .t n=>match getS sl n with
  | some s=>qaT (norm rs s) k
  | none=>False
 | .c v=>k (.v v)
 | .b x=>k (.b x)
def qwD (sl:Sl) (a:Act):Prop:=∀ n x,getS sl n=some x→a.tmps[n]?=some (conc x)
theorem qWK {a:Act} {n:Nat} {v:Value} (h:a.tmps[n]?=some v):a.eval (.tmp n)=v:=by
 simp [Act.eval,Array.getD_eq_getD_getElem?,h]
theorem Opd.k_spec {rs:List Res} {sl:Sl} {a:Act} {o:Operand} {k:SV→Prop} (h:(qFA o).k rs sl k) (hs:qwD sl a):∃ s,k s∧a.eval o=conc s:=by
 cases o with
 | tmp n =>
  simp only [qFA,Opd.k,qLN] at h
  split at h
  ·rename_i s he;exact⟨_,h,by rw [qdC];exact qWK (hs n s he)⟩
  ·exact h.elim
 | const v =>
  simp only [qFA] at h
  split at h
  ·exact⟨_,h,rfl⟩
  ·exact⟨_,h,rfl⟩
 | global g=>exact⟨_,h,rfl⟩
 | func f=>exact⟨_,h,rfl⟩
def Opd.ks (rs:List Res) (sl:Sl):List Opd→(List SV→Prop)→Prop
 | [],k=>k []
 | x :: r,k=>x.k rs sl fun s=>Opd.ks rs sl r fun l=>k (s :: l)
theorem Opd.ks_spec {rs:List Res} {sl:Sl} {a:Act} (hs:qwD sl a):∀ (l:List Operand) {k:List SV→Prop},Opd.ks rs sl (l.map qFA) k→∃ s,k s∧l.map a.eval=qAA s
 | [],_,h=>⟨[],h,rfl⟩
 | o :: r,k,h=>by
  obtain⟨s,h1,e1⟩:=Opd.k_spec (k:=fun s=>Opd.ks rs sl (r.map qFA) fun l=>k (s :: l)) h hs
  obtain⟨l,h2,e2⟩:=Opd.ks_spec hs r h1
  exact⟨s :: l,h2,by simp [qAA,e1,e2]⟩
def kEq:IntKind→IntKind→Bool
 | .i8,.i8 | .i16,.i16 | .i32,.i32 | .i64,.i64 | .u8,.u8 | .u16,.u16 | .u32,.u32 | .u64,.u64=>true
 | _,_=>false
theorem qrE {k k':IntKind} (h:kEq k k'=true):k=k':=by cases k<;>cases k'<;>first|rfl|(simp [kEq] at h)
def qKR (op:BinOp) (k:IntKind) (x y:Int):Int :=
 let a:=BitVec.ofInt k.bits x
 let b:=BitVec.ofInt k.bits y
 match op with
 | .and=>k.wrap (a &&& b).toNat
 | .or=>k.wrap (a ||| b).toNat
 | .xor=>k.wrap (a ^^^ b).toNat
 | _=>k.wrap (a &&& ~~~b).toNat
def quU (op:BinOp) (x y:SV) (K:SV→Prop):Prop:=match x,y with
 | .v (.int k a),.v (.int k' b)=>match op with
  | .shl=>0≤b∧K (.v (.int k (k.wrap (a*2 ^ (min b.toNat k.bits)))))
  | .shr=>0≤b∧K (.v (.int k (a.fdiv (2 ^ (min b.toNat k.bits)))))
  | op=>match kEq k k' with
   | false=>False
   | true=>match op with
    | .add=>K (.v (.int k (k.wrap (a+b))))
    | .sub=>K (.v (.int k (k.wrap (a-b))))
    | .mul=>K (.v (.int k (k.wrap (a*b))))
    | .quo=>b≠0∧K (.v (.int k (k.wrap (a.tdiv b))))
    | .rem=>b≠0∧K (.v (.int k (a.tmod b)))
    | .and=>K (.v (.int k (qKR .and k a b)))
    | .or=>K (.v (.int k (qKR .or k a b)))
    | .xor=>K (.v (.int k (qKR .xor k a b)))
    | .andNot=>K (.v (.int k (qKR .andNot k a b)))
    | .eql=>K (.v (.bool (a==b)))
    | .neq=>K (.v (.bool (a != b)))
    | .lss=>K (.v (.bool (decide (a<b))))
    | .leq=>K (.v (.bool (decide (a≤b))))
    | .gtr=>K (.v (.bool (decide (b<a))))
    | .geq=>K (.v (.bool (decide (b≤a))))
    | _=>False
 | _,_=>False
theorem qjS {op:BinOp} {x y:SV} {K:SV→Prop} (h:quU op x y K) :
  ∃ s,K s∧∀ (P:Program) (t:TypeId) (w:World),(binOp op t (conc x) (conc y)).run P w=.ok (conc s) w∧∀ X Y,(eqGuard op t X Y (conc x) (conc y)).run P w=.ok () w:=by
 unfold quU at h
 split at h
 ·rename_i k a k' b
  have hg:∀ (P:Program) (t:TypeId) (w:World) X Y,(eqGuard op t X Y (conc (.v (.int k a))) (conc (.v (.int k' b)))).run P w=.ok () w:=fun P t w X Y=>by
   simp only [eqGuard,conc];split<;>rfl
  split at h
  ·obtain⟨h1,h2⟩:=h
   exact⟨_,h2,fun P t w=>⟨by simp [binOp,conc,Op.shift,show ¬ b<0 by omega,pure],hg P t w⟩⟩
  ·obtain⟨h1,h2⟩:=h
   exact⟨_,h2,fun P t w=>⟨by simp [binOp,conc,Op.shift,show ¬ b<0 by omega,pure],hg P t w⟩⟩
  ·rename_i hnl hnr
   split at h
   ·exact h.elim
   ·rename_i hk
    obtain rfl:=qrE hk
    split at h<;>first
     | exact h.elim
     | (obtain⟨h1,h2⟩:=h;exact⟨_,h2,fun P t w=>⟨by simp [binOp,conc,Op.intDiv,h1,pure],hg P t w⟩⟩)
     | exact⟨_,h,fun P t w=>⟨by simp [binOp,conc,Op.intArith,Op.intBits,Op.intCmp,qKR,pure],hg P t w⟩⟩
 ·exact h.elim
def qtU (op:BinOp) (x y:SV) (K:SV→Prop):Prop:=match x,y with
 | .v (.string a),.v (.string b)=>match op with
  | .add=>a.size+b.size≤9223372036854775807∧K (.v (.string (a++b)))
  | .eql=>K (.v (.bool (a.data.toList==b.data.toList)))
  | .neq=>K (.v (.bool (!(a.data.toList==b.data.toList))))
  | _=>False
 | _,_=>False
theorem qiS {op:BinOp} {x y:SV} {K:SV→Prop} (h:qtU op x y K) :
  ∃ s,K s∧∀ (P:Program) (t:TypeId) (w:World),(binOp op t (conc x) (conc y)).run P w=.ok (conc s) w∧∀ X Y,(eqGuard op t X Y (conc x) (conc y)).run P w=.ok () w:=by
 unfold qtU at h
 split at h
 ·rename_i a b
  have hg:∀ (P:Program) (t:TypeId) (w:World) X Y,(eqGuard op t X Y (conc (.v (.string a))) (conc (.v (.string b)))).run P w=.ok () w:=fun P t w X Y=>by
   simp only [eqGuard,conc];split<;>rfl
  split at h
  ·obtain⟨h1,h2⟩:=h
   refine⟨_,h2,fun P t w=>⟨?_,hg P t w⟩⟩
   have h3:¬ (((a.size+b.size:Nat):Int) > IntKind.i64.max):=by show ¬ (_ > (9223372036854775807:Int));omega
   simp only [binOp,conc,Op.stringOp]
   rw [if_neg h3];rfl
  ·exact⟨_,h,fun P t w=>⟨by simp [binOp,conc,Op.stringOp,ByteArray.toList_eq,pure],hg P t w⟩⟩
  ·exact⟨_,h,fun P t w=>⟨by simp [binOp,conc,Op.stringOp,ByteArray.toList_eq,pure],hg P t w⟩⟩
  ·exact h.elim
 ·exact h.elim
def qMM:SV→Option Bool
 | .b x=>some x
 | .v (.bool x)=>some x
 | _=>none
theorem qTL {x:SV} {b:Bool} (h:qMM x=some b):conc x=.bool b:=by
 unfold qMM at h
 split at h<;>simp at h<;>subst h<;>rfl
def qjP (kind:Nat) (x:SV):Option Bool:=match kind with
 | 0=>match x with
  | .v (.slice oa _ _)=>some oa.isNone
  | .sl ..=>some false
  | .row _ oa _ _=>some oa.isNone
  | _=>none
 | 1=>match x with
  | .v (.pointer p)=>some p.isNone
  | .p ..=>some false
  | _=>none
 | _=>match x with
  | .v .nilFunc=>some true
  | .v (.func ..)=>some false
  | .fn ..=>some false
  | .yl ..=>some false
  | _=>none
def nilV:Nat→Value
 | 0=>.slice none 0 0
 | 1=>.pointer none
 | _=>.nilFunc
def nilT (kind:Nat) (d:TypeDesc):Prop:=match kind with
 | 0=>∃ e,d=.slice e
 | 1=>∃ e,d=.pointer e
 | _=>∃ p q r,d=.func p q r
theorem qXT {kind:Nat} {x:SV} {b:Bool} (h:qjP kind x=some b) {P:Program} {t:TypeId} {d:TypeDesc} (hu:P.underlying t=some d) (hd:nilT kind d) (w:World) (n:Nat) :
  (Op.equalIn (n+1) t (conc x) (nilV kind)).run P w=.ok b w:=by
 unfold qjP at h
 split at h
 ·obtain⟨e,rfl⟩:=hd
  split at h
  ·rename_i oa _ c
   simp at h;subst h
   cases oa<;>simp [conc,nilV,Op.equalIn,run_underlying hu]
  ·simp at h;subst h
   simp [conc,nilV,Op.equalIn,run_underlying hu]
  ·rename_i id oa _ c
   simp at h;subst h
   cases oa<;>simp [conc,nilV,Op.equalIn,run_underlying hu]
  ·cases h
 ·obtain⟨e,rfl⟩:=hd
  split at h
  ·rename_i oa
   simp at h;subst h
   cases oa<;>simp [conc,nilV,Op.equalIn,run_underlying hu]
  ·simp at h;subst h
   simp [conc,nilV,Op.equalIn,run_underlying hu]
  ·cases h
 ·rename_i k h0 h1
  have hk:nilV kind=.nilFunc:=by unfold nilV;split<;>simp_all
  have hd':∃ p q r,d=.func p q r:=by unfold nilT at hd;split at hd<;>simp_all
  obtain⟨p,q,r,rfl⟩:=hd'
  rw [hk]
  split at h
  ·simp at h;subst h
   simp [conc,Op.equalIn,run_underlying hu]
  ·simp at h;subst h
   simp [conc,Op.equalIn,run_underlying hu]
  ·simp at h;subst h
   simp [conc,Op.equalIn,run_underlying hu]
  ·simp at h;subst h
   simp [conc,Op.equalIn,run_underlying hu]
  ·cases h
theorem qiP {kind:Nat} {x:SV} {b:Bool} (h:qjP kind x=some b):(∃ oa n c,conc x=.slice oa n c)∨(∃ p,conc x=.pointer p∧nilV kind=.pointer none)∨conc x=.nilFunc∨∃ f a c,conc x=.func f a c:=by
 unfold qjP at h
 split at h
 ·split at h<;>simp_all [conc]
 ·split at h<;>simp_all [conc,nilV]
 ·split at h<;>simp_all [conc]
theorem q3Q {kind:Nat} {x:SV} {b:Bool} (h:qjP kind x=some b) {P:Program} {t:TypeId} {d:TypeDesc} (hu:P.underlying t=some d) (hd:nilT kind d) (w:World) (X Y:Operand) :
  (do eqGuard .eql t X Y (conc x) (nilV kind);binOp .eql t (conc x) (nilV kind):Sem Value).run P w=.ok (.bool b) w ∧
  (do eqGuard .neq t X Y (conc x) (nilV kind);binOp .neq t (conc x) (nilV kind):Sem Value).run P w=.ok (.bool (!b)) w:=by
 have key:(Op.equal t (conc x) (nilV kind)).run P w=.ok b w:=qXT h hu hd w 9999
 rcases qiP h with ⟨oa,n,c,e⟩|⟨p,e,e2⟩|e|⟨f,a,c,e⟩
 ·rw [e] at key ⊢;simp [eqGuard,binOp,key]
 ·rw [e,e2] at key ⊢;simp [eqGuard,binOp,key]
 ·rw [e] at key ⊢;simp [eqGuard,binOp,key]
 ·rw [e] at key ⊢;simp [eqGuard,binOp,key]
def qwO {α:Type}:List α→Nat→Option (List α)
 | _,0=>some []
 | [],_+1=>none
 | x :: r,n+1=>match qwO r n with
  | some l=>some (x :: l)
  | none=>none
def cutL {α:Type}:List α→Nat→Nat→Option (List α)
 | l,0,n=>qwO l n
 | [],_+1,_=>none
 | _ :: r,o+1,n=>cutL r o n
def nthL {α:Type}:List α→Nat→Option α
 | [],_=>none
 | x :: _,0=>some x
 | _ :: r,n+1=>nthL r n
theorem qTJ {α:Type}:∀ (l:List α) (n:Nat),nthL l n=l[n]?
 | [],_=>by simp [nthL]
 | x :: _,0=>by simp [nthL]
 | _ :: r,n+1=>by simp [nthL,qTJ r n]
theorem qzL {α:Type}:∀ {l:List α} {n:Nat} {r:List α},qwO l n=some r→n≤l.length∧l.take n=r
 | _,0,_,h=>by simp [qwO] at h;simp [h]
 | [],n+1,_,h=>by simp [qwO] at h
 | x :: l,n+1,_,h=>by
  simp only [qwO] at h
  split at h
  ·rename_i r' he
   simp at h;subst h
   obtain⟨h1,h2⟩:=qzL he
   exact⟨by simp;omega,by simp [h2]⟩
  ·cases h
theorem q3I {α:Type}:∀ {l:List α} {o n:Nat} {r:List α},cutL l o n=some r→o+n≤l.length∧(l.drop o).take n=r
 | l,0,n,r,h=>by obtain⟨h1,h2⟩:=qzL (show qwO l n=some r by cases l<;>exact h);exact⟨by omega,by simpa using h2⟩
 | [],o+1,_,_,h=>by simp [cutL] at h
 | _ :: l,o+1,n,r,h=>by
  obtain⟨h1,h2⟩:=q3I (show cutL l o n=some r from h)
  exact⟨by simp;omega,by simpa using h2⟩
theorem qLG (l:List SV) (n:Nat):qAA (l.take n)=(qAA l).take n:=by simp [qQA]
theorem qMG (l:List SV) (n:Nat):qAA (l.drop n)=(qAA l).drop n:=by simp [qQA]
theorem qWA (l:List SV):(qAA l).length=l.length:=by simp [qQA]
theorem qBG (l r:List SV):qAA (l++r)=qAA l++qAA r:=by simp [qQA]
theorem concL_getElem? (l:List SV) (n:Nat):(qAA l)[n]?=(l[n]?).map conc:=by simp [qQA]
def qCT (agg:Bool) (off size:Nat) (x:SV) (K:SV→Prop):Prop:=match x with
 | .agg l=>match agg with
  | true=>match cutL l off size with
   | some r=>K (.agg r)
   | none=>False
  | false=>match nthL l off with
   | some s=>K s
   | none=>False
 | .v (.agg ⟨l⟩)=>match agg with
  | true=>match cutL l off size with
   | some r=>K (.v (.agg ⟨r⟩))
   | none=>False
  | false=>match nthL l off with
   | some s=>K (.v s)
   | none=>False
 | _=>False
theorem extract_toArray {α:Type} (l:List α) (o n:Nat):(l.toArray).extract o (o+n)=((l.drop o).take n).toArray:=by
 simp [List.extract_toArray]
theorem qzN {agg:Bool} {off size:Nat} {x:SV} {K:SV→Prop} (h:qCT agg off size x K) {P:Program} {t:TypeId} (hs:qPC P t=some size) (ha:aggT P t=some agg) :
  ∃ s,K s∧∀ w,∃ cs,conc x=.agg cs∧(part t cs off).run P w=.ok (conc s) w:=by
 have hsz:∀ w,(sizeOf t).run P w=.ok size w:=fun w=>by
  simp only [qPC,Option.map_eq_some_iff] at hs
  obtain⟨i,hi,rfl⟩:=hs
  simp [sizeOf,typeInfo,Sem.run_bind,hi,Result.andThen]
 have hag:∀ w,(isAgg t).run P w=.ok agg w:=fun w=>by
  unfold aggT at ha
  simp only [isAgg,underlying,Sem.run_bind,run_program,Result.andThen]
  split at ha<;>rename_i hu<;>simp at ha<;>subst ha<;>simp [hu]
 have key:∀ (l:List Value) (v:Value),(match agg with|true=>v=.agg ((l.drop off).take size).toArray|false=>l[off]?=some v)→∀ w,(part t l.toArray off).run P w=.ok v w:=by
  intro l v hv w
  simp only [part,Sem.run_bind,hag,Result.andThen]
  cases agg with
  | true =>
   simp only [if_true,Sem.run_bind,hsz,Result.andThen]
   rw [extract_toArray]
   simp at hv;subst hv;rfl
  | false =>
   simp at hv
   simp [hv]
 unfold qCT at h
 split at h
 ·rename_i l
  cases agg with
  | true =>
   simp only at h
   split at h
   ·rename_i r hr
    obtain⟨h1,h2⟩:=q3I hr
    exact⟨_,h,fun w=>⟨_,rfl,key _ _ (by simp [conc,← h2,qLG,qMG]) w⟩⟩
   ·exact h.elim
  | false =>
   simp only at h
   split at h
   ·rename_i s hr
    rw [qTJ] at hr
    exact⟨_,h,fun w=>⟨_,rfl,key _ _ (by simp [concL_getElem?,hr]) w⟩⟩
   ·exact h.elim
 ·rename_i l
  cases agg with
  | true =>
   simp only at h
   split at h
   ·rename_i r hr
    obtain⟨h1,h2⟩:=q3I hr
    exact⟨_,h,fun w=>⟨_,rfl,key l _ (by simp [conc,← h2]) w⟩⟩
   ·exact h.elim
  | false =>
   simp only at h
   split at h
   ·rename_i s hr
    rw [qTJ] at hr
    exact⟨_,h,fun w=>⟨_,rfl,key l _ (by simp [conc,hr]) w⟩⟩
   ·exact h.elim
 ·exact h.elim
/- A symbolic evaluator over the model's code,part 2e: structs and arrays of plain cells,compared. -/
open Go.RowKit
def eqV1 (k:Nat) (x y:Value):Option Bool:=match k,x,y with
 | 0,.int a m,.int b n=>match kEq a b with
  | true=>some (m==n)
  | false=>none
 | 1,.string a,.string b=>some (a.data.toList==b.data.toList)
 | 2,.bool a,.bool b=>some (a==b)
 | _,_,_=>none
def eqV:List Nat→List Value→List Value→Option Bool
 | [],[],[]=>some true
 | k :: ks,x :: xs,y :: ys=>match eqV1 k x y with
  | some a=>match eqV ks xs ys with
   | some b=>some (a&&b)
   | none=>none
  | none=>none
 | _,_,_=>none
theorem qYS:∀ {ks:List Nat} {xs ys:List Value} {b:Bool},eqV ks xs ys=some b→xs.length=ks.length∧ys.length=ks.length
 | [],[],[],_,_=>⟨rfl,rfl⟩
 | k :: ks,x :: xs,y :: ys,b,h=>by
  simp only [eqV] at h
  split at h
  ·split at h
   ·rename_i hb
    obtain⟨h1,h2⟩:=qYS hb
    simp [h1,h2]
   ·cases h
  ·cases h
 | [],_ :: _,_,_,h=>by simp [eqV] at h
 | [],[],_ :: _,_,h=>by simp [eqV] at h
 | _ :: _,[],_,_,h=>by simp [eqV] at h
 | _ :: _,_ :: _,[],_,h=>by simp [eqV] at h
theorem qpJ:∀ {ks kt:List Nat} {xs ys:List Value} {b:Bool},eqV (ks++kt) xs ys=some b →
  ∃ b1 b2,b=(b1&&b2)∧eqV ks (xs.take ks.length) (ys.take ks.length)=some b1∧eqV kt (xs.drop ks.length) (ys.drop ks.length)=some b2
 | [],kt,xs,ys,b,h=>⟨true,b,by simp,by simp [eqV],by simpa using h⟩
 | k :: ks,kt,x :: xs,y :: ys,b,h=>by
  simp only [List.cons_append,eqV] at h
  split at h
  ·rename_i a ha
   split at h
   ·rename_i c hc
    obtain⟨b1,b2,rfl,h1,h2⟩:=qpJ hc
    simp only [Option.some.injEq] at h
    refine⟨a&&b1,b2,by rw [← h,Bool.and_assoc],?_,by simpa using h2⟩
    simp [eqV,ha,h1]
   ·cases h
  ·cases h
 | k :: ks,kt,[],_,b,h=>by simp [eqV] at h
 | k :: ks,kt,_ :: _,[],b,h=>by simp [eqV] at h
def valC (agg:Bool) (xs:List Value):Value:=match agg with
 | true=>.agg ⟨xs⟩
 | false=>xs.headD undef
theorem qhQ {P:Program} {t:TypeId} {agg:Bool} (ha:aggT P t=some agg) (w:World):(isAgg t).run P w=.ok agg w:=by
 unfold aggT at ha
 split at ha<;>simp at ha<;>subst ha<;>rename_i hu
 ·simp [isAgg,run_underlying hu]
 ·simp [isAgg,run_underlying hu]
 ·rename_i h1 h2
  simp only [isAgg,Sem.run_bind,run_underlying hu,Result.andThen_ok]
  rfl
theorem qWI {P:Program} {t:TypeId} {agg:Bool} {size:Nat} (ha:aggT P t=some agg) (hs:qPC P t=some size) (hp:agg=false→size=1) {cs:List Value} {o:Nat} (hl:o+size≤cs.length) (w:World) :
  (part t ⟨cs⟩ o).run P w=.ok (valC agg ((cs.drop o).take size)) w:=by
 have hsz:(sizeOf t).run P w=.ok size w:=by
  unfold qPC at hs
  cases hi:P.info? t with
  | none=>simp [hi] at hs
  | some i=>simp [hi] at hs;simp [sizeOf,typeInfo,hi,hs]
 unfold part
 simp only [Sem.run_bind,qhQ ha,Result.andThen_ok]
 cases agg with
 | true =>
  simp only [if_true,Sem.run_bind,hsz,Result.andThen_ok,Sem.run_pure]
  congr 2
  simp
 | false =>
  have h1:=hp rfl
  subst h1
  have hlt:o<cs.length:=by omega
  have:(cs.drop o).take 1=[cs[o]]:=by rw [List.drop_eq_getElem_cons hlt];rfl
  simp only [Bool.false_eq_true,if_false]
  rw [show(⟨cs⟩:Array Value)[o]?=cs[o]? from by simp,List.getElem?_eq_getElem hlt]
  simp [this,valC]
theorem qVL {P:Program} {d:Nat} {t:TypeId} {ks:List Nat} (h:qqE P d t=some ks) {agg:Bool} (ha:aggT P t=some agg):agg=false→ks.length=1:=by
 intro hag
 subst hag
 cases d with
 | zero=>cases h
 | succ d =>
  unfold qqE at h
  unfold aggT at ha
  split at h
  ·simp at h;simp [← h]
  ·simp at h;simp [← h]
  ·simp at h;simp [← h]
  ·rename_i hu;rw [hu] at ha;simp at ha
  ·rename_i hu;rw [hu] at ha;simp at ha
  ·cases h
theorem qyJ {P:Program} {d D:Nat} (ih:∀ t ks,qqE P d t=some ks→∀ agg,aggT P t=some agg→∀ xs ys b,eqV ks xs ys=some b→∀ w,(Op.equalIn D t (valC agg xs) (valC agg ys)).run P w=.ok b w) :
  ∀ (fs:List Field) (o:Nat) (ks:List Nat),qCL P (qqE P d) fs o=some ks→∀ (xs ys:List Value) (b:Bool),o+ks.length≤xs.length→o+ks.length≤ys.length→eqV ks ((xs.drop o).take ks.length) ((ys.drop o).take ks.length)=some b→∀ w,
   (Op.eqFields D ⟨xs⟩ ⟨ys⟩ fs).run P w=.ok b w
 | [],o,ks,h,xs,ys,b,_,_,he,w=>by
  simp [qCL] at h;subst h
  simp [eqV] at he;subst he
  simp [Op.eqFields]
 | f :: fs,o,ks,h,xs,ys,b,hx,hy,he,w=>by
  simp only [qCL] at h
  split at h
  ·rename_i kt size agg h1 h2 h3
   split at h
   ·rename_i hc
    obtain⟨rfl,hn,rfl⟩:=hc
    split at h
    ·rename_i l hl
     simp only [Option.some.injEq] at h
     subst h
     obtain⟨b1,b2,rfl,e1,e2⟩:=qpJ he
     simp only [List.length_append] at hx hy
     have p1:=qWI (P:=P) h3 h2 (qVL h1 h3) (cs:=xs) (o:=f.offset) (by omega) w
     have p2:=qWI (P:=P) h3 h2 (qVL h1 h3) (cs:=ys) (o:=f.offset) (by omega) w
     rw [List.take_take,List.take_take,List.length_append,Nat.min_eq_left (by omega)] at e1
     have q1:=ih _ _ h1 _ h3 _ _ _ e1 w
     rw [List.drop_take,List.drop_take,List.length_append,Nat.add_sub_cancel_left,List.drop_drop,List.drop_drop] at e2
     have q2:=qyJ ih fs (f.offset+kt.length) l hl xs ys b2 (by omega) (by omega) e2 w
     simp only [Op.eqFields,if_pos hn,Sem.run_bind,p1,p2,Result.andThen_ok,q1]
     cases b1 with
     | false=>simp
     | true=>simpa using q2
    ·cases h
   ·cases h
  ·cases h
theorem qpK {P:Program} {D:Nat} {e:TypeId} {ks:List Nat} {agg:Bool} {i:TypeInfo} (hi:P.info? e=some i) (hsz:i.size=ks.length) (ha:aggT P e=some agg) (hp:agg=false→ks.length=1)
  (ih:∀ xs ys b,eqV ks xs ys=some b→∀ w,(Op.equalIn D e (valC agg xs) (valC agg ys)).run P w=.ok b w) :
  ∀ (n j:Nat) (xs ys:List Value) (b:Bool),(j+n)*ks.length≤xs.length→(j+n)*ks.length≤ys.length→eqV (qyF ks n) ((xs.drop (j*ks.length)).take (n*ks.length)) ((ys.drop (j*ks.length)).take (n*ks.length))=some b→∀ w,
   (Op.eqItems D e (P.cellsOf e) ⟨xs⟩ ⟨ys⟩ (List.range' j n)).run P w=.ok b w
 | 0,j,xs,ys,b,_,_,he,w=>by
  simp [qyF,eqV] at he;subst he
  simp [Op.eqItems]
 | n+1,j,xs,ys,b,hx,hy,he,w=>by
  have hc:P.cellsOf e=ks.length:=by simp [Program.cellsOf,hi,hsz]
  have hs:qPC P e=some ks.length:=by simp [qPC,hi,hsz]
  have hl:(j+(n+1))*ks.length=j*ks.length+ks.length+n*ks.length:=by rw [Nat.add_mul,Nat.add_mul];omega
  have hl2:(j+1+n)*ks.length=j*ks.length+ks.length+n*ks.length:=by rw [Nat.add_mul,Nat.add_mul];omega
  have hl3:(n+1)*ks.length=ks.length+n*ks.length:=by rw [Nat.add_mul];omega
  have hj:(j+1)*ks.length=j*ks.length+ks.length:=by rw [Nat.add_mul];omega
  rw [qyF] at he
  obtain⟨b1,b2,rfl,e1,e2⟩:=qpJ he
  rw [List.take_take,List.take_take,Nat.min_eq_left (by rw [hl3];omega)] at e1
  rw [List.drop_take,List.drop_take,hl3,Nat.add_sub_cancel_left,List.drop_drop,List.drop_drop,← hj] at e2
  have p1:=qWI (P:=P) ha hs hp (cs:=xs) (o:=j*ks.length) (by omega) w
  have p2:=qWI (P:=P) ha hs hp (cs:=ys) (o:=j*ks.length) (by omega) w
  have q1:=ih _ _ _ e1 w
  have q2:=qpK hi hsz ha hp ih n (j+1) xs ys b2 (by rw [hl2];omega) (by rw [hl2];omega) e2 w
  rw [List.range'_succ]
  simp only [Op.eqItems,Sem.run_bind,hc,p1,p2,Result.andThen_ok,q1]
  cases b1 with
  | false=>simp
  | true=>rw [hc] at q2;simpa using q2
theorem qDL (ks:List Nat):∀ n,(qyF ks n).length=n*ks.length
 | 0=>by simp [qyF]
 | n+1=>by rw [qyF,List.length_append,qDL ks n,Nat.add_mul];omega
theorem qcH {P:Program}:∀ (d D:Nat),d≤D→∀ (t:TypeId) (ks:List Nat),qqE P d t=some ks→∀ agg,aggT P t=some agg→∀ (xs ys:List Value) (b:Bool),eqV ks xs ys=some b→∀ w,(Op.equalIn D t (valC agg xs) (valC agg ys)).run P w=.ok b w
 | 0,_,_,_,_,h,_,_,_,_,_,_,_=>by cases h
 | d+1,0,hd,_,_,_,_,_,_,_,_,_,_=>by omega
 | d+1,D+1,hd,t,ks,h,agg,ha,xs,ys,b,he,w=>by
  obtain⟨hx,hy⟩:=qYS he
  have h0:=h
  unfold qqE at h
  split at h
  ·rename_i k hu
   simp at h;subst h
   have:agg=false:=by unfold aggT at ha;rw [hu] at ha;simpa using ha.symm
   subst this
   match xs,ys,hx,hy with
   | [x],[y],_,_ =>
    simp only [eqV] at he
    split at he
    ·rename_i c hc
     simp at he;subst he
     unfold eqV1 at hc
     split at hc
     ·split at hc
      ·rename_i hk
       obtain rfl:=qrE hk
       simp at hc;subst hc
       exact run_equalIn_int w D t _ k _ _ hu
      ·cases hc
     ·simp_all
     ·simp_all
     ·cases hc
    ·cases he
  ·rename_i hu
   simp at h;subst h
   have:agg=false:=by unfold aggT at ha;rw [hu] at ha;simpa using ha.symm
   subst this
   match xs,ys,hx,hy with
   | [x],[y],_,_ =>
    simp only [eqV] at he
    split at he
    ·rename_i c hc
     simp at he;subst he
     unfold eqV1 at hc
     split at hc<;>simp_all
     subst hc
     simp [valC,Op.equalIn,run_underlying hu,beq_toListBytes,ByteArray.toList_eq]
    ·cases he
  ·rename_i hu
   simp at h;subst h
   have:agg=false:=by unfold aggT at ha;rw [hu] at ha;simpa using ha.symm
   subst this
   match xs,ys,hx,hy with
   | [x],[y],_,_ =>
    simp only [eqV] at he
    split at he
    ·rename_i c hc
     simp at he;subst he
     unfold eqV1 at hc
     split at hc<;>simp_all
     subst hc
     exact run_equalIn_bool w D t _ _ hu
    ·cases he
  ·rename_i fs hu
   have:agg=true:=by unfold aggT at ha;rw [hu] at ha;simpa using ha.symm
   subst this
   split at h
   ·cases h
   ·rename_i hsi
    have hf:P.underlying t=some (.struct (P.fieldsOf t)):=by simp [Program.fieldsOf,hu]
    have hff:(P.fieldsOf t).toList=fs.toList:=by simp [Program.fieldsOf,hu]
    show(Op.equalIn (D+1) t (.agg ⟨xs⟩) (.agg ⟨ys⟩)).run P w=_
    rw [run_equalIn_struct w D t _ _ hf (by simpa using hsi),hff]
    refine qyJ (d:=d) (fun t' ks' h' agg' ha' xs' ys' b' he' w'=>qcH d D (by omega) t' ks' h' agg' ha' xs' ys' b' he' w') fs.toList 0 ks h xs ys b (by omega) (by omega) ?_ w
    rw [List.drop_zero,List.drop_zero,List.take_of_length_le (by omega),List.take_of_length_le (by omega)];exact he
  ·rename_i n e hu
   have:agg=true:=by unfold aggT at ha;rw [hu] at ha;simpa using ha.symm
   subst this
   split at h
   ·rename_i ks1 i agg1 h1 h2 h3
    split at h
    ·rename_i hsz
     simp at h;subst h
     show(Op.equalIn (D+1) t (.agg ⟨xs⟩) (.agg ⟨ys⟩)).run P w=_
     rw [run_equalIn_array (w:=w) D _ _ hu h2,List.range_eq_range']
     have hln:=qDL ks1 n
     refine qpK h2 hsz h3 (qVL h1 h3) (fun xs' ys' b' he' w'=>qcH d D (by omega) e ks1 h1 agg1 h3 xs' ys' b' he' w') n 0 xs ys b (by rw [Nat.zero_add];omega) (by rw [Nat.zero_add];omega) ?_ w
     rw [Nat.zero_mul,List.drop_zero,List.drop_zero,List.take_of_length_le (by omega),List.take_of_length_le (by omega)];exact he
    ·cases h
   ·cases h
  ·cases h
/- A symbolic evaluator over the model's code,part 5a: values in passing style. -/
open Go.RowKit
mutual
def q4I (x:SV):Option Value:=match x with
 | .v x=>some x
 | .b x=>some (.bool x)
 | .p _ b o=>some (.pointer (some ⟨b,o,none⟩))
 | .sl _ b o n c=>some (.slice (some ⟨b,o,none⟩) n c)
 | .row _ oa n cap=>some (.slice oa n cap)
 | .re _ oa _ _ j=>some (.pointer (oa.map (·.add j)))
 | .fn f a c=>match q5I a with
  | some a'=>match q5I c with
   | some c'=>some (.func f ⟨a'⟩ ⟨c'⟩)
   | none=>none
  | none=>none
 | .yl _ l=>some (.func (.yield l) #[] #[])
 | .mp _ r=>some (.map (some r))
 | .agg l=>match q5I l with
  | some l'=>some (.agg ⟨l'⟩)
  | none=>none
 | .tup l=>match q5I l with
  | some l'=>some (.tuple ⟨l'⟩)
  | none=>none
def q5I (l:List SV):Option (List Value):=match l with
 | []=>some []
 | x :: r=>match q4I x with
  | some v=>match q5I r with
   | some vs=>some (v :: vs)
   | none=>none
  | none=>none
end
mutual
theorem qLQ:∀ (x:SV),q4I x=some (conc x)
 | .v _=>by simp only [q4I,conc]
 | .b _=>by simp only [q4I,conc]
 | .p _ _ _=>by simp only [q4I,conc]
 | .sl _ _ _ _ _=>by simp only [q4I,conc]
 | .row _ _ _ _=>by simp only [q4I,conc]
 | .re _ _ _ _ _=>by simp only [q4I,conc]
 | .yl _ _=>by simp only [q4I,conc]
 | .mp _ _=>by simp only [q4I,conc]
 | .fn f a c=>by simp only [q4I,conc,qXE a,qXE c]
 | .agg l=>by simp only [q4I,conc,qXE l]
 | .tup l=>by simp only [q4I,conc,qXE l]
theorem qXE:∀ (l:List SV),q5I l=some (qAA l)
 | []=>by simp only [q5I,qAA]
 | x :: r=>by simp only [q5I,qAA,qLQ x,qXE r]
end
def qcS (x:SV) (k:Value→Prop):Prop:=match q4I x with
 | some v=>k v
 | none=>False
def qdD (l:List SV) (k:List Value→Prop):Prop:=match q5I l with
 | some vs=>k vs
 | none=>False
theorem qrJ (x:SV) {k:Value→Prop} (h:qcS x k):k (conc x):=by
 unfold qcS at h
 rwa [qLQ] at h
theorem qRB (l:List SV) {k:List Value→Prop} (h:qdD l k):k (qAA l):=by
 unfold qdD at h
 rwa [qXE] at h
/- A symbolic evaluator over the model's code,part 2m: maps whose keys are integers. -/
open Go.RowKit Go.MapKept
def mGet (n:Int):List (Int×Value)→Option Value
 | []=>none
 | (m,v) :: r=>match n==m with
  | true=>some v
  | false=>mGet n r
def mSet (n:Int) (v:Value):List (Int×Value)→List (Int×Value)
 | []=>[(n,v)]
 | (m,u) :: r=>match n==m with
  | true=>(n,v) :: r
  | false=>(m,u) :: mSet n v r
def FzM (g:GW) (r:Nat) (ik:IntKind) (es:List (Int×Value)):Prop:=g.g r∧g.w.heap[r]?=some (.map ⟨mkE ik 0 es⟩ es.length)
theorem FzM.mono {g g':GW} {r:Nat} {ik:IntKind} {es:List (Int×Value)} (h:FzM g r ik es) (k:g≤g'):FzM g' r ik es:=⟨(k.2 r h.1).1,(k.2 r h.1).2.trans h.2⟩
def qQO (ok:Bool) (z:Value) (o:Option Value):Value:=match ok,o with
 | true,some v=>.tuple #[v,.bool true]
 | true,none=>.tuple #[z,.bool false]
 | false,some v=>v
 | false,none=>z
theorem q8M (ik:IntKind) (n:Int) (v:Value):∀ (es:List (Int×Value)) (b i:Nat),
  (mGet n es=none∧Instr.findNow (.int ik) (.int ik n) (mkE ik b es) i=some none∧mSet n v es=es++[(n,v)]) ∨
  ∃ j u,mGet n es=some u∧Instr.findNow (.int ik) (.int ik n) (mkE ik b es) i=some (some (i+j,u))∧es[j]?=some (n,u)∧mSet n v es=es.set j (n,v)
 | [],b,i=>.inl ⟨rfl,rfl,rfl⟩
 | (m,u) :: r,b,i=>by
  simp only [mkE,mGet,mSet,Instr.findNow,Instr.sameNow,if_true]
  cases h:n==m with
  | true =>
   have hnm:n=m:=by simpa using h
   subst hnm
   exact .inr ⟨0,u,rfl,by simp,by simp,by simp⟩
  | false =>
   rcases q8M ik n v r (b+1) (i+1) with ⟨h1,h2,h3⟩|⟨j,w,h1,h2,h3,h4⟩
   ·exact .inl ⟨h1,by simpa using h2,by simp [h3]⟩
   ·exact .inr ⟨j+1,w,h1,by rw [show i+(j+1)=i+1+j by omega];simpa using h2,by simpa using h3,by simp [h4]⟩
theorem qAM (ik:IntKind) (n:Int) (v:Value):∀ (es:List (Int×Value)) (b:Nat),mkE ik b (es++[(n,v)])=mkE ik b es++[{key:=.int ik n,val:=v,born:=b+es.length}]
 | [],b=>rfl
 | (m,u) :: r,b=>by
  simp only [List.cons_append,mkE,qAM ik n v r (b+1),List.length_cons]
  rw [show b+1+r.length=b+(r.length+1) by omega]
theorem qfP (ik:IntKind):∀ (es:List (Int×Value)) (b j:Nat) (n:Int) (u:Value),es[j]?=some (n,u)→(mkE ik b es)[j]?=some {key:=.int ik n,val:=u,born:=b+j}
 | [],b,j,n,u,h=>by simp at h
 | (m,w) :: r,b,0,n,u,h=>by simp at h;obtain⟨rfl,rfl⟩:=h;rfl
 | (m,w) :: r,b,j+1,n,u,h=>by
  have:=qfP ik r (b+1) j n u (by simpa using h)
  simp only [mkE,List.getElem?_cons_succ,this]
  rw [show b+1+j=b+(j+1) by omega]
theorem qLS (ik:IntKind) (v:Value):∀ (es:List (Int×Value)) (b j:Nat) (n:Int) (u:Value),es[j]?=some (n,u)→mkE ik b (es.set j (n,v))=(mkE ik b es).set j {key:=.int ik n,val:=v,born:=b+j}
 | [],b,j,n,u,h=>by simp at h
 | (m,w) :: r,b,0,n,u,h=>by simp [mkE]
 | (m,w) :: r,b,j+1,n,u,h=>by
  have:=qLS ik v r (b+1) j n u (by simpa using h)
  simp only [List.set_cons_succ,mkE,this]
  rw [show b+1+j=b+(j+1) by omega]
section
variable {P:Program} {w:World} {t kt et:TypeId} {ik:IntKind} {r:Nat} {es:List (Int×Value)}
theorem qKJ (hu:P.underlying t=some (.map kt et)) (hk:P.underlying kt=some (.int ik)) (hb:w.heap[r]?=some (.map ⟨mkE ik 0 es⟩ es.length)) (n:Int) (v:Value) :
  (Instr.mapUpdate t (.map (some r)) (.int ik n) v).run P w=.ok () {w with heap:=w.heap.setIfInBounds r (.map ⟨mkE ik 0 (mSet n v es)⟩ (mSet n v es).length)}:=by
 have hck:=run_checkKey (P:=P) (w:=w) (k:=.int ik n) hk (by simp [IsKey]) false 9999
 have hg:=Go.MapKept.run_getObj_map (P:=P) hb
 rcases q8M ik n v es 0 0 with ⟨h1,h2,h3⟩|⟨j,u,h1,h2,h3,h4⟩
 ·have hf:=run_findKey (P:=P) (w:=w) hk h2
  simp only [Instr.mapUpdate,Sem.run_bind,run_underlying hu,Result.andThen_ok,hg,hck,hf,Go.MapKept.run_setObj_map _ hb]
  rw [h3,qAM]
  simp
 ·have hf:=run_findKey (P:=P) (w:=w) hk h2
  have hget:(⟨mkE ik 0 es⟩:Array MapEntry)[0+j]?=some {key:=.int ik n,val:=u,born:=0+j}:=by
   rw [Nat.zero_add]
   have:=qfP ik es 0 j n u h3
   simpa using this
  have hkey:(Instr.keyThatStays (.int ik n) (.int ik n)).run P w=.ok (.int ik n) w:=by
   simp [Instr.keyThatStays,Instr.sameBits]
  simp only [Instr.mapUpdate,Sem.run_bind,run_underlying hu,Result.andThen_ok,hg,hck,hf,hget,Option.map_some,Option.getD_some,hkey,Go.MapKept.run_setObj_map _ hb]
  have hm:(⟨mkE ik 0 es⟩:Array MapEntry).modify (0+j) (fun e=>{e with key:=.int ik n,val:=v})=⟨mkE ik 0 (mSet n v es)⟩:=by
   apply Array.ext'
   rw [h4,qLS ik v es 0 j n u h3,Array.toList_modify]
   rw [Nat.zero_add] at hget ⊢
   have hg':(mkE ik 0 es)[j]?=some {key:=.int ik n,val:=u,born:=0+j}:=qfP ik es 0 j n u h3
   apply List.ext_getElem?
   intro i
   rw [List.getElem?_modify,List.getElem?_set]
   by_cases hij:j=i
   ·subst hij
    obtain⟨hlt,he⟩:=List.getElem?_eq_some_iff.1 hg'
    simp [hlt,he]
   ·simp [hij]
  rw [hm,h4,List.length_set]
theorem qAH (hu:P.underlying t=some (.map kt et)) (hk:P.underlying kt=some (.int ik)) (hb:w.heap[r]?=some (.map ⟨mkE ik 0 es⟩ es.length)) (n:Int) {z:Value} (hz:(P.info? et).bind (·.zero)=some z) (ok:Bool) :
  (Instr.lookup t (.map (some r)) (.int ik n) ok).run P w=.ok (qQO ok z (mGet n es)) w:=by
 have hck:=fun e=>run_checkKey (P:=P) (w:=w) (k:=.int ik n) hk (by simp [IsKey]) e 9999
 have hg:=Go.MapKept.run_getObj_map (P:=P) hb
 have hzv:(zeroValue et).run P w=.ok z w:=by
  obtain⟨i,hi,hz⟩:=Option.bind_eq_some_iff.1 hz
  simp [zeroValue,typeInfo,hi,hz]
 rcases q8M ik n .nilFunc es 0 0 with ⟨h1,h2,_⟩|⟨j,u,h1,h2,_,_⟩
 ·have hf:=run_findKey (P:=P) (w:=w) hk h2
  simp only [Instr.lookup,Sem.run_bind,run_underlying hu,Result.andThen_ok,hg,hck,hf,hzv,Sem.run_pure,h1]
  cases ok<;>rfl
 ·have hf:=run_findKey (P:=P) (w:=w) hk h2
  simp only [Instr.lookup,Sem.run_bind,run_underlying hu,Result.andThen_ok,hg,hck,hf,Sem.run_pure,h1]
  cases ok<;>rfl
end
/- A symbolic evaluator over the model's code,part 3: the operations that only read. -/
open Go.RowKit
def Rcs (g:GW) (a:Addr) (xs:List Value):Prop:=∀ i u,xs[i]?=some u→Rc g (a.add i) u
def qUT (agg:Bool) (size:Nat) (hs:Hs) (x:SV) (K:SV→Prop):Prop:=match x with
 | .p id b o=>match qwA id hs.rs with
  | some (b',_,cells)=>b=b'∧match agg with
   | true=>match cutL cells o size with
    | some r=>K (.agg r)
    | none=>False
   | false=>match nthL cells o with
    | some s=>qaT (norm hs.rs s) K
    | none=>False
  | none=>False
 | .re id oa n cap j=>match q3A id hs.rs with
  | some (oa',n',cap',_,_,cs)=>(oa=oa'∧n=n'∧cap=cap')∧match agg with
   | true=>match Nat.ble 1 size with
    | true=>∃ xs:List Value,(xs.length=size∧∀ i u,xs[i]?=some u→cs[j+i]?=some u)∧K (.v (.agg ⟨xs⟩))
    | false=>False
   | false=>∃ u,cs[j]?=some u∧K (.v u)
  | none=>False
 | .v (.pointer (some a))=>match agg with
  | true=>∃ xs:List Value,(xs.length=size∧Rcs hs.g a xs)∧K (.v (.agg ⟨xs⟩))
  | false=>∃ u,Rc hs.g a u∧K (.v u)
 | _=>False
def slcS (size:Nat) (x:SV) (lo hi mx:Option SV) (K:SV→Prop):Prop:=match x with
 | .v (.slice oa n cap)=>
  match lo,hi,mx with
  | none,none,none=>K (.v (.slice oa n cap))
  | some (.v (.int _ l)),none,none=>(0≤l∧l≤n)∧K (.v (.slice (if cap=l.toNat then oa else oa.map (·.add (l.toNat*size))) (n-l.toNat) (cap-l.toNat)))
  | none,some (.v (.int _ h)),none=>(0≤h∧h≤cap)∧K (.v (.slice oa h.toNat cap))
  | some (.v (.int _ l)),some (.v (.int _ h)),none=>(0≤l∧l≤h∧h≤cap)∧K (.v (.slice (if cap=l.toNat then oa else oa.map (·.add (l.toNat*size))) (h.toNat-l.toNat) (cap-l.toNat)))
  | none,some (.v (.int _ h)),some (.v (.int _ m))=>(0≤h∧h≤m∧m≤cap)∧K (.v (.slice oa h.toNat m.toNat))
  | some (.v (.int _ l)),some (.v (.int _ h)),some (.v (.int _ m))=>(0≤l∧l≤h∧h≤m∧m≤cap)∧K (.v (.slice (if m=l then oa else oa.map (·.add (l.toNat*size))) (h.toNat-l.toNat) (m.toNat-l.toNat)))
  | _,_,_=>False
 | _=>False
def qfQ (x:SV) (lo hi:Option SV) (K:SV→Prop):Prop:=match x with
 | .v (.string s)=>match lo,hi with
  | none,none=>K (.v (.string (s.extract 0 s.size)))
  | some (.v (.int _ l)),none=>(0≤l∧l≤s.size)∧K (.v (.string (s.extract l.toNat s.size)))
  | none,some (.v (.int _ h))=>(0≤h∧h≤s.size)∧K (.v (.string (s.extract 0 h.toNat)))
  | some (.v (.int _ l)),some (.v (.int _ h))=>(0≤l∧l≤h∧h≤s.size)∧K (.v (.string (s.extract l.toNat h.toNat)))
  | _,_=>False
 | _=>False
def Opd.ko (rs:List Res) (sl:Sl) (x:Option Opd) (k:Option SV→Prop):Prop:=match x with
 | none=>k none
 | some x=>x.k rs sl fun s=>k (some s)
def qmA (x:SV):List SV:=match x with
 | .agg l=>l
 | .v (.agg ⟨l⟩)=>l.map .v
 | x=>[x]
theorem qDB (x:SV):qAA (qmA x)=(conc x).cells.toList:=by
 cases x with
 | v y=>
  cases y with
  | agg cs=>cases cs;rename_i l;simp [qmA,conc,Value.cells,qQA,Function.comp_def]
  | _=>simp [qmA,conc,Value.cells,qAA]
 | agg l=>simp [qmA,conc,Value.cells]
 | _=>simp [qmA,conc,Value.cells,qAA]
theorem qpB (x:SV):(qmA x).length=(conc x).cells.size:=by
 have:=congrArg List.length (qDB x)
 rw [qWA] at this
 simpa using this
def putL {α:Type}:List α→Nat→List α→Option (List α)
 | l,0,[]=>some l
 | [],0,_ :: _=>none
 | _ :: l,0,c :: cs=>match putL l 0 cs with
  | some r=>some (c :: r)
  | none=>none
 | [],_+1,_=>none
 | x :: l,o+1,cs=>match putL l o cs with
  | some r=>some (x :: r)
  | none=>none
theorem qaI {α:Type}:∀ {l:List α} {o:Nat} {cs r:List α},putL l o cs=some r→o+cs.length≤l.length∧r=l.take o++cs++l.drop (o+cs.length)
 | l,0,[],r,h=>by simp [putL] at h;simp [h]
 | [],0,_ :: _,r,h=>by simp [putL] at h
 | x :: l,0,c :: cs,r,h=>by
  simp only [putL] at h
  split at h
  ·rename_i r' he
   simp at h;subst h
   obtain⟨h1,h2⟩:=qaI he
   exact⟨by simp at *;omega,by simp [h2]⟩
  ·cases h
 | [],o+1,cs,r,h=>by simp [putL] at h
 | x :: l,o+1,cs,r,h=>by
  simp only [putL] at h
  split at h
  ·rename_i r' he
   simp at h;subst h
   obtain⟨h1,h2⟩:=qaI he
   exact⟨by simp at *;omega,by simp [h2,Nat.add_right_comm o 1]⟩
  ·cases h
theorem qUS (vs:List Value):∀ (o j:Nat) (A:Array Value),o+j+vs.length≤A.size →
  ((vs.zipIdx j).foldl (fun cs (c,k)=>cs.setIfInBounds (o+k) c) A).toList=A.toList.take (o+j)++vs++A.toList.drop (o+j+vs.length):=by
 induction vs with
 | nil=>intro o j A h;simp
 | cons v vs ih =>
  intro o j A h
  simp only [List.zipIdx_cons,List.foldl_cons]
  rw [ih o (j+1) _ (by simp at *;omega)]
  have hlt:o+j<A.toList.length:=by simp at *;omega
  simp only [Array.toList_setIfInBounds]
  rw [← Nat.add_assoc o j 1,List.take_succ_eq_append_getElem (by simpa using hlt),List.take_set,List.set_eq_of_length_le (by simp;omega),List.getElem_set_self,List.drop_set_of_lt (by omega)]
  simp only [List.append_assoc,List.cons_append,List.nil_append,List.length_cons]
  rw [show o+j+1+vs.length=o+j+(vs.length+1) by omega]
def qWS (rs:List Res) (sl:Sl):List SV→List (Nat×Nat×Opd)→(List SV→Prop)→Prop
 | cells,[],K=>K cells
 | cells,(off,size,x) :: r,K=>x.k rs sl fun s=>match Nat.beq (qmA s).length size with
  | true=>match putL cells off (qmA s) with
   | some cells'=>qWS rs sl cells' r K
   | none=>False
  | false=>False
theorem qKG {rs:List Res} {sl:Sl} {a:Act} (hs:qwD sl a) (place:Nat→Option (Nat×Nat)) :
  ∀ (parts:List (Nat×Operand)) (ps:List (Nat×Nat×Opd)) (cells:List SV) {K:List SV→Prop},
   (parts.map fun (i,x)=>(place i).map fun (o,s)=>(o,s,qFA x))=ps.map some→qWS rs sl cells ps K →
   ∃ cells',K cells'∧Instr.fill place (qAA cells).toArray (parts.map fun (i,x)=>(i,a.eval x))=some (qAA cells').toArray
 | [],ps,cells,K,hp,h=>by
  simp at hp;subst hp
  exact⟨cells,h,rfl⟩
 | (i,x) :: parts,[],cells,K,hp,h=>by simp at hp
 | (i,x) :: parts,(off,size,y) :: ps,cells,K,hp,h=>by
  simp only [List.map_cons,List.cons.injEq,Option.map_eq_some_iff,Prod.exists,Prod.mk.injEq] at hp
  obtain⟨⟨o,s,hpl,rfl,rfl,rfl⟩,hp⟩:=hp
  obtain⟨v,hk,hev⟩:=Opd.k_spec (k:=fun s'=>match Nat.beq (qmA s').length s with
   | true=>match putL cells o (qmA s') with
    | some cells'=>qWS rs sl cells' ps K
    | none=>False
   | false=>False) h hs
  split at hk
  ·rename_i hlen
   have hlen:=Nat.eq_of_beq_eq_true hlen
   split at hk
   ·rename_i cells' hput
    obtain⟨h1,h2⟩:=qaI hput
    obtain⟨cells'',hK,hfill⟩:=qKG hs place parts ps cells' hp hk
    refine⟨cells'',hK,?_⟩
    rw [qpB] at hlen h1
    simp only [List.map_cons,Instr.fill,hpl,hev]
    rw [if_neg (by simp [hlen,qWA];omega)]
    rw [← hfill]
    congr 1
    have key:=qUS (conc v).cells.toList o 0 (qAA cells).toArray (by simp [qWA];omega)
    have e1:(conc v).cells.zipIdx.foldl (fun cs (c,j)=>cs.setIfInBounds (o+j) c) (qAA cells).toArray=((conc v).cells.toList.zipIdx 0).foldl (fun cs (c,j)=>cs.setIfInBounds (o+j) c) (qAA cells).toArray:=by
     rw [← Array.toList_zipIdx,Array.foldl_toList]
    rw [e1]
    apply Array.ext'
    rw [key,h2]
    simp only [qBG,qLG,qMG,qDB,qpB]
    simp
   ·exact hk.elim
  ·exact hk.elim
def qtV (neg:Bool) (x y:SV) (K:SV→Prop):Prop:=match qMM x with
 | none=>False
 | some a=>match qMM y with
  | none=>False
  | some b=>match neg with
   | false=>K (.v (.bool (a==b)))
   | true=>K (.v (.bool (!(a==b))))
def qsV (kind:Nat) (neg:Bool) (x:SV) (K:SV→Prop):Prop:=match qjP kind x with
 | none=>False
 | some a=>match neg with
  | false=>K (.v (.bool a))
  | true=>K (.v (.bool (!a)))
def qSO:SV→Bool
 | .agg _=>true
 | .v (.agg _)=>true
 | _=>false
def qzT (neg:Bool) (ks:List Nat) (x y:SV) (K:SV→Prop):Prop:=match qSO x,qSO y with
 | true,true=>qdD (qmA x) fun xs=>qdD (qmA y) fun ys=>match eqV ks xs ys with
  | some b=>match neg with
   | false=>K (.v (.bool b))
   | true=>K (.v (.bool (!b)))
  | none=>False
 | _,_=>False
def notS (x:SV) (K:SV→Prop):Prop:=match x with
 | .b true=>K (.b false)
 | .b false=>K (.b true)
 | .v (.bool x)=>K (.v (.bool (!x)))
 | _=>False
def qnV (k:IntKind) (x:SV) (K:SV→Prop):Prop:=match x with
 | .v (.int _ n)=>K (.v (.int k (k.wrap n)))
 | _=>False
def qST (x y:SV) (K:SV→Prop):Prop:=match x,y with
 | .v (.int k a),.v (.int _ b)=>K (.v (.int k (if b<a then b else a)))
 | _,_=>False
def strB (ns:List Int):ByteArray:=ns.foldl (fun r n=>r.push (UInt8.ofNat n.toNat)) ByteArray.empty
def tosS (hs:Hs) (x:SV) (K:SV→Prop):Prop:=match x with
 | .v (.slice oa n cap)=>∃ ns:List Int,RdSl hs.g 1 (.slice oa n cap) n (ns.map (Value.int .u8))∧K (.v (.string (strB ns)))
 | _=>False
def qTT (hs:Hs) (ik:IntKind) (z:Value) (ok:Bool) (x k:SV) (K:SV→Prop):Prop:=match x with
 | .mp id r=>match k with
  | .v (.int ik' n)=>match qoD id hs.rs with
   | some (r',ik2,es)=>(r=r'∧kEq ik' ik=true∧kEq ik2 ik=true)∧∃ o,mGet n es=o∧match o with
    | some v=>match ok with
     | true=>K (.v (.tuple ⟨[v,.bool true]⟩))
     | false=>K (.v v)
    | none=>match ok with
     | true=>K (.v (.tuple ⟨[z,.bool false]⟩))
     | false=>K (.v z)
   | none=>False
  | _=>False
 | .v (.map (some r))=>match k with
  | .v (.int ik' n)=>∃ es,(kEq ik' ik=true∧FzM hs.g r ik es)∧∃ o,mGet n es=o∧match o with
    | some v=>match ok with
     | true=>K (.v (.tuple ⟨[v,.bool true]⟩))
     | false=>K (.v v)
    | none=>match ok with
     | true=>K (.v (.tuple ⟨[z,.bool false]⟩))
     | false=>K (.v z)
  | _=>False
 | _=>False
def lenS (str:Bool) (x:SV) (K:SV→Prop):Prop:=match str with
 | true=>match x with
  | .v (.string s)=>K (.v (.int .i64 s.size))
  | _=>False
 | false=>match x with
  | .v (.slice _ n _)=>K (.v (.int .i64 n))
  | .sl _ _ _ n _=>K (.v (.int .i64 n))
  | .row _ _ n _=>K (.v (.int .i64 n))
  | _=>False
def qgV (x i:SV) (K:SV→Prop):Prop:=match x,i with
 | .v (.string s),.v (.int _ n)=>∃ c:UInt8,(0≤n∧s.data.toList[n.toNat]?=some c)∧K (.v (.int .u8 c.toNat))
 | _,_=>False
def qhV (n size:Nat) (agg:Bool) (x i:SV) (K:SV→Prop):Prop:=match i with
 | .v (.int _ m)=>∃ j:Nat,(m=j∧j<n)∧qCT agg (j*size) size x K
 | _=>False
def qmV (off:Nat) (x:SV) (K:SV→Prop):Prop:=match x with
 | .p id b o=>K (.p id b (o+off))
 | .re id (some oa) n cap j=>K (.re id (some oa) n cap (j+off))
 | .v (.pointer (some a))=>K (.v (.pointer (some (a.add off))))
 | _=>False
def qwT (n size:Nat) (x i:SV) (K:SV→Prop):Prop:=match i with
 | .v (.int _ m)=>match x with
  | .p id b o=>∃ j:Nat,(m=j∧j<n)∧K (.p id b (o+j*size))
  | .v (.pointer (some a))=>(0≤m∧m<n)∧K (.v (.pointer (some (a.add (m.toNat*size)))))
  | _=>False
 | _=>False
def qiV (rs:List Res) (size:Nat) (x i:SV) (K:SV→Prop):Prop:=match i with
 | .v (.int _ m)=>match x with
  | .v (.slice oa n _)=>∃ a,oa=some a∧(0≤m∧m<n)∧K (.v (.pointer (some (a.add (m.toNat*size)))))
  | .sl id b o n _=>∃ j:Nat,(m=j∧j<n)∧K (.p id b (o+j*size))
  | .row id oa n cap=>match q3A id rs with
   | some (oa',n',cap',_,size',_)=>(oa=oa'∧n=n'∧cap=cap'∧size'=size)∧(0≤m∧m<n)∧K (.re id oa n cap (m.toNat*size))
   | none=>False
  | _=>False
 | _=>False
def nckS (x:SV) (K:SV→Prop):Prop:=match x with
 | .p id b o=>K (.p id b o)
 | .v (.pointer (some a))=>K (.v (.pointer (some a)))
 | .v (.func (.func f) a b)=>K (.v (.func (.func f) a b))
 | .fn (.func f) a b=>K (.fn (.func f) a b)
 | .yl id l=>K (.yl id l)
 | _=>False
def extS (i:Nat) (x:SV) (K:SV→Prop):Prop:=match x with
 | .tup l=>match nthL l i with
  | some s=>K s
  | none=>False
 | .v (.tuple ⟨l⟩)=>match nthL l i with
  | some s=>K (.v s)
  | none=>False
 | _=>False
def rdS (o:SOp) (sl:Sl) (hs:Hs) (K:SV→Prop):Prop:=match o with
 | .mov x=>x.k hs.rs sl K
 | .pick c a b=>c.k hs.rs sl fun c=>match c with
  | .b true=>a.k hs.rs sl K
  | .b false=>b.k hs.rs sl K
  | .v (.bool x)=>(x=true→a.k hs.rs sl K)∧(x=false→b.k hs.rs sl K)
  | _=>False
 | .bini op x y=>x.k hs.rs sl fun x=>y.k hs.rs sl fun y=>quU op x y K
 | .bins op x y=>x.k hs.rs sl fun x=>y.k hs.rs sl fun y=>qtU op x y K
 | .binb neg x y=>x.k hs.rs sl fun x=>y.k hs.rs sl fun y=>qtV neg x y K
 | .binn kind neg x=>x.k hs.rs sl fun x=>qsV kind neg x K
 | .binst neg ks x y=>x.k hs.rs sl fun x=>y.k hs.rs sl fun y=>qzT neg ks x y K
 | .not x=>x.k hs.rs sl fun x=>notS x K
 | .conv k x=>x.k hs.rs sl fun x=>qnV k x K
 | .len str x=>x.k hs.rs sl fun x=>lenS str x K
 | .idxs x i=>x.k hs.rs sl fun x=>i.k hs.rs sl fun i=>qgV x i K
 | .idxa n size agg x i=>x.k hs.rs sl fun x=>i.k hs.rs sl fun i=>qhV n size agg x i K
 | .fadr off x=>x.k hs.rs sl fun x=>qmV off x K
 | .fld off size agg x=>x.k hs.rs sl fun x=>qCT agg off size x K
 | .iadra n size x i=>x.k hs.rs sl fun x=>i.k hs.rs sl fun i=>qwT n size x i K
 | .iadr size x i=>x.k hs.rs sl fun x=>i.k hs.rs sl fun i=>qiV hs.rs size x i K
 | .load agg size x=>x.k hs.rs sl fun x=>qUT agg size hs x K
 | .nck x=>x.k hs.rs sl fun x=>nckS x K
 | .ext i x=>x.k hs.rs sl fun x=>extS i x K
 | .mkf f first caps=>Opd.ks hs.rs sl first fun a=>Opd.ks hs.rs sl caps fun c=>K (.fn f a c)
 | .build zero parts=>qWS hs.rs sl zero parts fun cells=>K (.agg cells)
 | .slcs x lo hi=>x.k hs.rs sl fun x=>Opd.ko hs.rs sl lo fun lo=>Opd.ko hs.rs sl hi fun hi=>qfQ x lo hi K
 | .slc size x lo hi mx=>x.k hs.rs sl fun x=>Opd.ko hs.rs sl lo fun lo=>Opd.ko hs.rs sl hi fun hi=>Opd.ko hs.rs sl mx fun mx=>slcS size x lo hi mx K
 | .mini x y=>x.k hs.rs sl fun x=>y.k hs.rs sl fun y=>qST x y K
 | .tos x=>x.k hs.rs sl fun x=>tosS hs x K
 | .look ik z ok x k=>x.k hs.rs sl fun x=>k.k hs.rs sl fun k=>qTT hs ik z ok x k K
 | _=>False
def SOp.reads:SOp→Bool
 | .store .. | .alloc .. | .box .. | .bsl .. | .app .. | .msl .. | .cpy .. | .call .. | .callw .. | .callv .. | .mkm .. | .mup ..=>false
 | _=>true
def SOp.pure:SOp→Bool
 | .load .. | .tos .. | .iadr .. | .look ..=>false
 | o=>o.reads
/- A symbolic evaluator over the model's code,part 4: the operations that only read do what the evaluator says. -/
open Go.RowKit
theorem qmC {P:Program} {w w':World} {s:Sem Value} {x:Value} (h:s.run P w=.ok x w'):(do pure (Next.value (← s)):Sem Next).run P w=.ok (.value x) w':=by
 simp [h,Result.andThen]
theorem qGU {P:Program} {w w':World} {s:Sem Unit} (h:s.run P w=.ok () w'):(do s;pure Next.skip:Sem Next).run P w=.ok .skip w':=by
 simp [h,Result.andThen]
theorem q0A {P:Program} {t:TypeId} {size:Nat} (hs:qPC P t=some size) (w:World):(sizeOf t).run P w=.ok size w:=by
 simp only [qPC,Option.map_eq_some_iff] at hs
 obtain⟨i,hi,rfl⟩:=hs
 simp [sizeOf,typeInfo,Sem.run_bind,hi,Result.andThen]
theorem q4P {P:Program} {t:TypeId} {agg:Bool} (ha:aggT P t=some agg) (w:World):(isAgg t).run P w=.ok agg w:=by
 unfold aggT at ha
 simp only [isAgg,underlying,Sem.run_bind,run_program,Result.andThen]
 split at ha<;>rename_i hu<;>simp at ha<;>subst ha<;>simp [hu]
theorem HSim.blk_cell {fr:Fr} {hs:Hs} {w:World} (h:HSim fr hs w) {id b:Nat} {ty:TypeId} {cells:List SV} (hf:qwA id hs.rs=some (b,ty,cells)) :
  w.heap[b]?=some (.cells (qAA cells).toArray ty (0,0))∧∀ c∈cells,(conc c).oneCell'=true:=by
 obtain⟨l1,l2,e⟩:=qqI hf
 exact h.res (.blk id b ty cells) (by rw [e];simp)
theorem HSim.row_own {fr:Fr} {hs:Hs} {w:World} (h:HSim fr hs w) {id:Nat} {oa:Option Addr} {n cap:Nat} {ety:TypeId} {size:Nat} {cs:List Value} (hf:q3A id hs.rs=some (oa,n,cap,ety,size,cs)) :
  w.ownsRow 0 ety size (.slice oa n cap) n cs∧∀ u∈cs,u.oneCell'=true:=by
 obtain⟨l1,l2,e⟩:=qoI hf
 exact h.res (.row id oa n cap ety size cs) (by rw [e];simp)
theorem qiB {w:World} {b:Nat} {cs:Array Value} {ty:TypeId} {fr:Nat×Nat} (h:w.heap[b]?=some (.cells cs ty fr)) (o:Nat):w.cell? ⟨b,o,none⟩=cs[o]?:=by
 simp [World.cell?,h]
theorem qaB (b o n:Nat):(⟨b,o,none⟩:Addr).add n=⟨b,o+n,none⟩:=by
 unfold Addr.add;split
 ·rename_i h;subst h;rfl
 ·rfl
theorem qWL (a:Addr) (i j:Nat):(a.add i).add j=a.add (i+j):=by
 unfold Addr.add
 split<;>split<;>split<;>first|omega|(simp_all;done)|(simp;omega)
theorem qsC {P:Program} {t:TypeId} {size:Nat} {agg:Bool} (hs:qPC P t=some size) (ha:aggT P t=some agg) {w:World} {a:Addr} :
  (∀ x,agg=false→w.cell? a=some x→(loadVar t a).run P w=.ok x w) ∧
  (∀ xs:List Value,agg=true→xs.length=size→(∀ i u,xs[i]?=some u→w.cell? (a.add i)=some u)→(loadVar t a).run P w=.ok (.agg ⟨xs⟩) w):=by
 refine⟨fun x he hx=>?_,fun xs he hl hx=>?_⟩
 ·subst he
  simp [loadVar,Sem.run_bind,q4P ha,Result.andThen,hx]
 ·subst he
  have h1:=run_loadCells_list (P:=P) (w:=w) a xs (fun j v hv=>hx j v hv)
  rw [hl] at h1
  simp [loadVar,Sem.run_bind,q4P ha,q0A hs,Result.andThen,h1]
theorem qDM {agg:Bool} {size:Nat} {hs:Hs} {x:SV} {K:SV→Prop} (h:qUT agg size hs x K) {P:Program} {t:TypeId} (hsz:qPC P t=some size) (ha:aggT P t=some agg) (hps:0<size∨agg=true) :
  ∃ s,K s∧∀ fr w,HSim fr hs w→(Instr.loadAt t (conc x)).run P w=.ok (conc s) w:=by
 have go:∀ {a:Addr} {w:World} {v:Value},(loadVar t a).run P w=.ok v w→(Instr.loadAt t (.pointer (some a))).run P w=.ok v w:=fun h=>by
  simp [Instr.loadAt,Instr.sureAddr,h]
 unfold qUT at h
 split at h
 ·rename_i id b o
  split at h
  ·rename_i b' ty cells hf
   obtain⟨rfl,h⟩:=h
   cases agg with
   | true =>
    simp only at h
    split at h
    ·rename_i r hr
     obtain⟨h1,h2⟩:=q3I hr
     refine⟨_,h,fun fr w hw=>go ?_⟩
     have hb:=hw.blk_cell hf
     refine(qsC hsz ha (w:=w)).2 (qAA r) rfl (by rw [qWA,← h2];simp;omega) fun i u hu=>?_
     rw [qaB,qiB hb.1]
     rw [← h2,qLG,qMG,List.getElem?_take] at hu
     split at hu
     ·simpa using hu
     ·cases hu
    ·exact h.elim
   | false =>
    simp only at h
    split at h
    ·rename_i s hr
     rw [qLN] at h
     rw [qTJ] at hr
     refine⟨_,h,fun fr w hw=>go ?_⟩
     have hb:=hw.blk_cell hf
     rw [qdC]
     exact(qsC hsz ha (w:=w)).1 _ rfl (by rw [qiB hb.1];simp [concL_getElem?,hr])
    ·exact h.elim
  ·exact h.elim
 ·rename_i id oa n cap j
  split at h
  ·rename_i oa' n' cap' ety sz cs hf
   obtain⟨⟨rfl,rfl,rfl⟩,h⟩:=h
   have qiO:∀ fr w,HSim fr hs w→∀ i u,cs[i]?=some u→∃ g,oa=some ⟨g,0,none⟩∧w.cell? ⟨g,i,none⟩=some u:=fun fr w hw i u hu=>by
    obtain⟨⟨h1,h2⟩,_⟩:=hw.row_own hf
    rcases h2 with ⟨_,rfl⟩|⟨g,cap',cur,he,_,hh,_,_,_,htk⟩
    ·simp at h1;subst h1;simp at hu
    ·simp only [Value.slice.injEq] at he
     obtain⟨rfl,_,rfl⟩:=he
     refine⟨g,rfl,?_⟩
     rw [qiB hh,← Array.getElem?_toList]
     rw [← htk,List.getElem?_take] at hu
     split at hu
     ·exact hu
     ·cases hu
   cases agg with
   | true =>
    simp only at h
    split at h
    case h_2=>exact h.elim
    rename_i hps
    have hps:0<size:=Nat.le_of_ble_eq_true hps
    obtain⟨xs,⟨hl,hx⟩,h⟩:=h
    refine⟨_,h,fun fr w hw=>?_⟩
    have hpos:∃ g,oa=some ⟨g,0,none⟩∨xs=[]:=by
     cases xs with
     | nil=>exact⟨0,.inr rfl⟩
     | cons y ys=>obtain⟨g,hg,_⟩:=qiO fr w hw (j+0) y (hx 0 y rfl);exact⟨g,.inl hg⟩
    obtain⟨g,hg|hg⟩:=hpos
    ·subst hg
     simp only [conc,Option.map_some]
     refine go ((qsC hsz ha (w:=w)).2 xs rfl hl fun i u hu=>?_)
     obtain⟨g',hg',hc⟩:=qiO fr w hw _ _ (hx i u hu)
     simp only [Option.some.injEq,Addr.mk.injEq,and_true] at hg'
     subst hg'
     rw [qaB,qaB,Nat.zero_add];exact hc
    ·subst hg
     simp at hl;omega
   | false =>
    obtain⟨u,hu,h⟩:=h
    refine⟨_,h,fun fr w hw=>?_⟩
    obtain⟨g,rfl,hc⟩:=qiO fr w hw _ _ hu
    simp only [conc,Option.map_some]
    exact go ((qsC hsz ha (w:=w)).1 _ rfl (by rw [qaB,Nat.zero_add];exact hc))
  ·exact h.elim
 ·rename_i a
  cases agg with
  | true =>
   obtain⟨xs,⟨hl,hx⟩,h⟩:=h
   exact⟨_,h,fun fr w hw=>go ((qsC hsz ha (w:=w)).2 xs rfl hl fun i u hu=>(hx i u hu).at hw.good)⟩
  | false =>
   obtain⟨u,hu,h⟩:=h
   exact⟨_,h,fun fr w hw=>go ((qsC hsz ha (w:=w)).1 _ rfl (hu.at hw.good))⟩
 ·exact h.elim
theorem Opd.ko_spec {rs:List Res} {sl:Sl} {a:Act} {o:Option Operand} {k:Option SV→Prop} (h:Opd.ko rs sl (o.map qFA) k) (hs:qwD sl a):∃ s,k s∧o.map a.eval=s.map conc:=by
 cases o with
 | none=>exact⟨none,h,rfl⟩
 | some x=>obtain⟨s,h1,h2⟩:=Opd.k_spec (k:=fun s=>k (some s)) h hs;exact⟨some s,h1,by simp [h2]⟩
theorem q3S {size:Nat} {x:SV} {lo hi mx:Option SV} {K:SV→Prop} (h:slcS size x lo hi mx K) {P:Program} {t e:TypeId} (hu:P.underlying t=some (.slice e)) (hsz:qPC P e=some size) :
  ∃ s,K s∧∀ w,(Instr.sliceAt t (conc x) (lo.map conc) (hi.map conc) (mx.map conc)).run P w=.ok (conc s) w:=by
 have h0:∀ (y:Value) (lo hi mx:Option Value) w,(Instr.sliceAt t y lo hi mx).run P w=(Instr.slice t y lo hi mx).run P w:=fun y lo hi mx w=>by
  simp [Instr.sliceAt,run_underlying hu]
 have ez:∀ (oa:Option Addr),Option.map (fun x:Addr=>x.add 0) oa=oa:=fun oa=>by cases oa<;>simp [Addr.add]
 unfold slcS at h
 split at h
 ·rename_i oa n cap
  split at h
  ·exact⟨_,h,fun w=>by rw [h0];simp [conc,Instr.slice,run_underlying hu,Instr.sliceBounds,q0A hsz,ez]⟩
  ·rename_i kl l
   obtain⟨⟨a1,a2⟩,h⟩:=h
   exact⟨_,h,fun w=>by rw [h0];simp [conc,Instr.slice,run_underlying hu,Instr.sliceBounds,Instr.sliceBound,asIntOf,q0A hsz,a1,a2]⟩
  ·rename_i kh hh
   obtain⟨⟨a1,a2⟩,h⟩:=h
   exact⟨_,h,fun w=>by rw [h0];simp [conc,Instr.slice,run_underlying hu,Instr.sliceBounds,Instr.sliceBound,asIntOf,q0A hsz,ez,a1,a2]⟩
  ·rename_i kl l kh hh
   obtain⟨⟨a1,a2,a3⟩,h⟩:=h
   have e1:(0:Int)≤hh:=by omega
   exact⟨_,h,fun w=>by rw [h0];simp [conc,Instr.slice,run_underlying hu,Instr.sliceBounds,Instr.sliceBound,asIntOf,q0A hsz,a1,a2,a3,e1,Int.toNat_of_nonneg e1]⟩
  ·rename_i kh hh km m
   obtain⟨⟨a1,a2,a3⟩,h⟩:=h
   have e1:(0:Int)≤m:=by omega
   exact⟨_,h,fun w=>by rw [h0];simp [conc,Instr.slice,run_underlying hu,Instr.sliceBounds,Instr.sliceBound,asIntOf,q0A hsz,ez,a1,a2,a3,e1,Int.toNat_of_nonneg e1]⟩
  ·rename_i kl l kh hh km m
   obtain⟨⟨a1,a2,a3,a4⟩,h⟩:=h
   have e1:(0:Int)≤m:=by omega
   have e2:(0:Int)≤hh:=by omega
   have e3:(m.toNat=l.toNat)↔m=l:=by omega
   exact⟨_,h,fun w=>by rw [h0];simp [conc,Instr.slice,run_underlying hu,Instr.sliceBounds,Instr.sliceBound,asIntOf,q0A hsz,a1,a2,a3,a4,e1,e2,e3,Int.toNat_of_nonneg e1,Int.toNat_of_nonneg e2]⟩
  ·exact h.elim
 ·exact h.elim
theorem qfR {x:SV} {lo hi:Option SV} {K:SV→Prop} (h:qfQ x lo hi K) {P:Program} {t:TypeId} (hu:P.underlying t=some .string) :
  ∃ s,K s∧∀ w,(Instr.sliceAt t (conc x) (lo.map conc) (hi.map conc) none).run P w=.ok (conc s) w:=by
 have h0:∀ (y:Value) (lo hi mx:Option Value) w,(Instr.sliceAt t y lo hi mx).run P w=(Instr.slice t y lo hi mx).run P w:=fun y lo hi mx w=>by
  simp [Instr.sliceAt,run_underlying hu]
 unfold qfQ at h
 split at h
 ·rename_i s
  split at h
  ·exact⟨_,h,fun w=>by rw [h0];simp [conc,Instr.slice,run_underlying hu,Instr.sliceBounds]⟩
  ·rename_i kl l
   obtain⟨⟨a1,a2⟩,h⟩:=h
   exact⟨_,h,fun w=>by rw [h0];simp [conc,Instr.slice,run_underlying hu,Instr.sliceBounds,Instr.sliceBound,asIntOf,a1,a2]⟩
  ·rename_i kh hh
   obtain⟨⟨a1,a2⟩,h⟩:=h
   exact⟨_,h,fun w=>by rw [h0];simp [conc,Instr.slice,run_underlying hu,Instr.sliceBounds,Instr.sliceBound,asIntOf,a1,a2]⟩
  ·rename_i kl l kh hh
   obtain⟨⟨a1,a2,a3⟩,h⟩:=h
   have e1:(0:Int)≤hh:=by omega
   exact⟨_,h,fun w=>by rw [h0];simp [conc,Instr.slice,run_underlying hu,Instr.sliceBounds,Instr.sliceBound,asIntOf,a1,a2,a3,e1,Int.toNat_of_nonneg e1]⟩
  ·exact h.elim
 ·exact h.elim
theorem qNO {α β:Type} (f:α→Option β):∀ (l:List α) {r:List β},l.mapM f=some r→l.map f=r.map some
 | [],r,h=>by simp at h;subst h;rfl
 | x :: l,r,h=>by
  simp only [List.mapM_cons,Option.bind_eq_bind,Option.bind_eq_some_iff] at h
  obtain⟨y,hy,l',hl,hr⟩:=h
  simp at hr;subst hr
  simp [hy,qNO f l hl]
theorem qKD {P:Program} {t:TypeId} {z:List Value} (h:q7I P t=some z) (w:World):∃ v,(zeroValue t).run P w=.ok v w∧v.cells.toList=z∧∀ c∈z,c.oneCell'=true:=by
 unfold q7I at h
 split at h
 ·rename_i v hv
  split at h
  ·rename_i hall
   simp at h;subst h
   simp only [Option.bind_eq_some_iff] at hv
   obtain⟨i,hi,hz⟩:=hv
   refine⟨v,by simp [zeroValue,typeInfo,hi,hz],rfl,fun c hc=>?_⟩
   exact Array.all_eq_true_iff_forall_mem.1 hall c (by simpa using hc)
  ·cases h
 ·cases h
theorem qHU {P:Program} {w:World} {s d e:TypeId} {oa:Option Addr} {n cap:Nat} {ns:List Int} {g:GW} (h1:P.underlying s=some (.slice e)) (h3:P.underlying e=some (.int .u8)) (h2:P.underlying d=some .string)
  (hr:RdSl g 1 (.slice oa n cap) n (ns.map (Value.int .u8))) (hw:Good g w):(convert s d (.slice oa n cap)).run P w=.ok (.string (strB ns)) w:=by
 rw [run_convert_bytes_string w s d e oa n cap h1 h3 h2]
 obtain⟨hl,oa',cap',he,hnc,hcm,hnil,hc⟩:=hr
 simp only [Value.slice.injEq,true_and] at he
 obtain⟨rfl,rfl⟩:=he
 cases oa with
 | none =>
  have:ns=[]:=by
   have:=(hnil rfl).1
   simp at hl;apply List.eq_nil_of_length_eq_zero;omega
  subst this
  rfl
 | some a =>
  refine run_bytesToString w a n cap ns ?_
  have:=run_loadCells_list (P:=P) w a (ns.map (Value.int .u8)) fun j v hv=>by
   obtain⟨a',ha',hh⟩:=hc j v hv
   cases ha'
   exact hh.at hw
  rwa [show(ns.map (Value.int .u8)).length=n by simp at hl;simp;omega] at this
theorem qtN {P:Program} {o:Oper} {so:SOp} (ht:trOp P o=some so) (hrd:so.reads=true) {sl:Sl} {a:Act} (hsl:qwD sl a) {hs:Hs} {K:SV→Prop} (h:rdS so sl hs K) :
  ∃ s,K s∧∀ fr w,(so.pure=true∨HSim fr hs w)→(execOp a.eval o).run P w=.ok (.value (conc s)) w:=by
 unfold trOp at ht
 split at ht
 ·-- move
  rename_i x ho
  simp at ht;subst ht
  obtain⟨s,hk,he⟩:=Opd.k_spec h hsl
  exact⟨s,hk,fun fr w hw=>by simp [execOp,ho,he]⟩
 ·rename_i x ho
  simp at ht;subst ht
  obtain⟨s,hk,he⟩:=Opd.k_spec h hsl
  exact⟨s,hk,fun fr w hw=>by simp [execOp,ho,he]⟩
 ·-- pick
  rename_i c x y ho
  simp at ht;subst ht
  simp only [rdS] at h
  obtain⟨c',hk,he⟩:=Opd.k_spec h hsl
  have fin:∀ {q:Fr→World→Prop} (b:Bool),conc c'=.bool b→(∃ s,K s∧(if b then a.eval x else a.eval y)=conc s)→∃ s,K s∧∀ fr w,q fr w→(execOp a.eval o).run P w=.ok (.value (conc s)) w:=by
   rintro q b hb ⟨s,hs',hv⟩
   exact⟨s,hs',fun fr w hw=>by simp [execOp,ho,he,hb,asBool,hv]⟩
  split at hk
  ·obtain⟨s,h1,h2⟩:=Opd.k_spec hk hsl;exact fin true rfl ⟨s,h1,by simpa using h2⟩
  ·obtain⟨s,h1,h2⟩:=Opd.k_spec hk hsl;exact fin false rfl ⟨s,h1,by simpa using h2⟩
  ·rename_i b
   cases hb:b with
   | true=>obtain⟨s,h1,h2⟩:=Opd.k_spec (hk.1 hb) hsl;exact fin true (by rw [hb];rfl) ⟨s,h1,by simpa using h2⟩
   | false=>obtain⟨s,h1,h2⟩:=Opd.k_spec (hk.2 hb) hsl;exact fin false (by rw [hb];rfl) ⟨s,h1,by simpa using h2⟩
  ·exact hk.elim
 ·-- binOp
  rename_i op t x y yt ho
  have two:∀ {k:SV→SV→Prop},(Opd.k hs.rs sl (qFA x) fun x=>Opd.k hs.rs sl (qFA y) fun y=>k x y)→∃ x' y',k x' y'∧a.eval x=conc x'∧a.eval y=conc y':=fun {k} hh=>by
   obtain⟨x',h1,e1⟩:=Opd.k_spec (k:=fun x=>Opd.k hs.rs sl (qFA y) fun y=>k x y) hh hsl
   obtain⟨y',h2,e2⟩:=Opd.k_spec (k:=fun y=>k x' y) h1 hsl
   exact⟨x',y',h2,e1,e2⟩
  have fin:∀ {q:Fr→World→Prop} (s:SV),K s→(∀ w,(do eqGuard op t x y (a.eval x) (a.eval y);binOp op t (a.eval x) (a.eval y):Sem Value).run P w=.ok (conc s) w)→∃ s,K s∧∀ fr w,q fr w→(execOp a.eval o).run P w=.ok (.value (conc s)) w :=
   fun s hs' hr=>⟨s,hs',fun fr w hw=>by simp only [execOp,ho];exact qmC (hr w)⟩
  have seq:∀ {s:SV} {w:World},(binOp op t (a.eval x) (a.eval y)).run P w=.ok (conc s) w→(eqGuard op t x y (a.eval x) (a.eval y)).run P w=.ok () w→(do eqGuard op t x y (a.eval x) (a.eval y);binOp op t (a.eval x) (a.eval y):Sem Value).run P w=.ok (conc s) w:=fun h1 h2=>by
   simp [h1,h2,Result.andThen]
  have bl:∀ (x' y':SV) (b1 b2:Bool),P.underlying t=some .bool→qMM x'=some b1→qMM y'=some b2→a.eval x=conc x'→a.eval y=conc y'→∀ w,
    ((op=.eql→(do eqGuard op t x y (a.eval x) (a.eval y);binOp op t (a.eval x) (a.eval y):Sem Value).run P w=.ok (.bool (b1==b2)) w) ∧
     (op=.neq→(do eqGuard op t x y (a.eval x) (a.eval y);binOp op t (a.eval x) (a.eval y):Sem Value).run P w=.ok (.bool (!(b1==b2))) w)):=fun x' y' b1 b2 hu e1 e2 e3 e4 w=>by
   rw [e3,e4,qTL e1,qTL e2]
   refine⟨fun ho=>?_,fun ho=>?_⟩<;>subst ho<;>simp [eqGuard,binOp,run_equal_bool w t b1 b2 hu]
  have nl:∀ (kind:Nat) (x':SV) (b1:Bool) (d:TypeDesc),P.underlying t=some d→nilT kind d→qjP kind x'=some b1→a.eval x=conc x'→a.eval y=nilV kind→∀ w,
    ((op=.eql→(do eqGuard op t x y (a.eval x) (a.eval y);binOp op t (a.eval x) (a.eval y):Sem Value).run P w=.ok (.bool b1) w) ∧
     (op=.neq→(do eqGuard op t x y (a.eval x) (a.eval y);binOp op t (a.eval x) (a.eval y):Sem Value).run P w=.ok (.bool (!b1)) w)):=fun kind x' b1 d hu hd hn e1 e2 w=>by
   rw [e1,e2]
   obtain⟨h1,h2⟩:=q3Q hn hu hd w x y
   exact⟨fun ho=>by rw [ho];exact h1,fun ho=>by rw [ho];exact h2⟩
  have bool2:∀ {q:Fr→World→Prop} (neg:Bool),P.underlying t=some .bool→op=(if neg then .neq else .eql)→rdS (.binb neg (qFA x) (qFA y)) sl hs K→∃ s,K s∧∀ fr w,q fr w→(execOp a.eval o).run P w=.ok (.value (conc s)) w:=fun neg hu hop h=>by
   simp only [rdS] at h
   obtain⟨x',y',hk,e1,e2⟩:=two h
   unfold qtV at hk
   split at hk
   ·exact hk.elim
   ·rename_i b1 hb1
    split at hk
    ·exact hk.elim
    ·rename_i b2 hb2
     cases neg
     ·exact fin _ hk fun w=>(bl x' y' b1 b2 hu hb1 hb2 e1 e2 w).1 (by simpa using hop)
     ·exact fin _ hk fun w=>(bl x' y' b1 b2 hu hb1 hb2 e1 e2 w).2 (by simpa using hop)
  have st2:∀ {q:Fr→World→Prop} (neg:Bool) (ks:List Nat),aggT P t=some true→eqT P t=some ks→op=(if neg then .neq else .eql)→rdS (.binst neg ks (qFA x) (qFA y)) sl hs K→∃ s,K s∧∀ fr w,q fr w→(execOp a.eval o).run P w=.ok (.value (conc s)) w:=fun neg ks hat hks hop h=>by
   simp only [rdS] at h
   obtain⟨x',y',hk,e1,e2⟩:=two h
   unfold eqT at hks
   split at hks
   ·rename_i ks' hlv
    split at hks
    ·cases hks
    ·rename_i hgt
     simp only [Option.some.injEq] at hks
     subst hks
     unfold qzT at hk
     split at hk
     ·rename_i hx hy
      have hk:=qRB _ (qRB _ hk)
      have hagg:∀ {z:SV},qSO z=true→conc z=.agg ⟨qAA (qmA z)⟩:=fun {z} hz=>by
       have hcs:=qDB z
       cases z with
       | agg l=>rfl
       | v u=>cases u<;>simp [qSO] at hz;rw [hcs];rfl
       | _=>simp [qSO] at hz
      have hxa:=hagg hx
      have hya:=hagg hy
      split at hk
      ·rename_i b hb
       have hrun:∀ w,(Op.equal t (conc x') (conc y')).run P w=.ok b w:=fun w=>by
        rw [hxa,hya]
        exact qcH 8 10000 (by omega) t ks' hlv true hat _ _ b hb w
       have hgd:∀ w,(eqGuard op t x y (conc x') (conc y')).run P w=.ok () w:=fun w=>by
        rw [hxa,hya]
        cases neg<;>simp at hop<;>subst hop<;>simp [eqGuard,hgt]
       cases neg
       ·refine fin _ hk fun w=>seq ?_ (by rw [e1,e2];exact hgd w)
        simp only [Bool.false_eq_true,if_false] at hop
        subst hop
        rw [e1,e2]
        have:=hrun w
        rw [hxa,hya] at this ⊢
        simp [binOp,this,conc]
       ·refine fin _ hk fun w=>seq ?_ (by rw [e1,e2];exact hgd w)
        simp only [if_true] at hop
        subst hop
        rw [e1,e2]
        have:=hrun w
        rw [hxa,hya] at this ⊢
        simp [binOp,this,conc]
      ·exact hk.elim
     ·exact hk.elim
   ·cases hks
  have nil2:∀ {q:Fr→World→Prop} (kind:Nat) (neg:Bool) (d:TypeDesc),P.underlying t=some d→nilT kind d→a.eval y=nilV kind→op=(if neg then .neq else .eql)→rdS (.binn kind neg (qFA x)) sl hs K→∃ s,K s∧∀ fr w,q fr w→(execOp a.eval o).run P w=.ok (.value (conc s)) w:=fun kind neg d hu hd hy hop h=>by
   simp only [rdS] at h
   obtain⟨x',hk,e1⟩:=Opd.k_spec h hsl
   unfold qsV at hk
   split at hk
   ·exact hk.elim
   ·rename_i b1 hb1
    cases neg
    ·exact fin _ hk fun w=>(nl kind x' b1 d hu hd hb1 e1 hy w).1 (by simpa using hop)
    ·exact fin _ hk fun w=>(nl kind x' b1 d hu hd hb1 e1 hy w).2 (by simpa using hop)
  split at ht
  ·simp at ht;subst ht
   simp only [rdS] at h
   obtain⟨x',y',hk,e1,e2⟩:=two h
   obtain⟨s,h1,h2⟩:=qjS hk
   exact fin s h1 fun w=>seq (by rw [e1,e2];exact(h2 P t w).1) (by rw [e1,e2];exact(h2 P t w).2 _ _)
  ·simp at ht;subst ht
   simp only [rdS] at h
   obtain⟨x',y',hk,e1,e2⟩:=two h
   obtain⟨s,h1,h2⟩:=qiS hk
   exact fin s h1 fun w=>seq (by rw [e1,e2];exact(h2 P t w).1) (by rw [e1,e2];exact(h2 P t w).2 _ _)
  ·rename_i hu;simp at ht;subst ht;exact bool2 false hu rfl h
  ·rename_i hu;simp at ht;subst ht;exact bool2 true hu rfl h
  ·rename_i hu;split at ht<;>simp at ht;subst ht;exact nil2 0 false _ hu ⟨_,rfl⟩ rfl rfl h
  ·rename_i hu;split at ht<;>simp at ht;subst ht;exact nil2 0 true _ hu ⟨_,rfl⟩ rfl rfl h
  ·rename_i hu;split at ht<;>simp at ht;subst ht;exact nil2 1 false _ hu ⟨_,rfl⟩ rfl rfl h
  ·rename_i hu;split at ht<;>simp at ht;subst ht;exact nil2 1 true _ hu ⟨_,rfl⟩ rfl rfl h
  ·rename_i hu;split at ht<;>simp at ht;subst ht;exact nil2 2 false _ hu ⟨_,_,_,rfl⟩ rfl rfl h
  ·rename_i hu;split at ht<;>simp at ht;subst ht;exact nil2 2 true _ hu ⟨_,_,_,rfl⟩ rfl rfl h
  ·rename_i hu;obtain⟨ks,hk,rfl⟩:=Option.map_eq_some_iff.1 ht;exact st2 false ks (by simp [aggT,hu]) hk rfl h
  ·rename_i hu;obtain⟨ks,hk,rfl⟩:=Option.map_eq_some_iff.1 ht;exact st2 true ks (by simp [aggT,hu]) hk rfl h
  ·rename_i hu;obtain⟨ks,hk,rfl⟩:=Option.map_eq_some_iff.1 ht;exact st2 false ks (by simp [aggT,hu]) hk rfl h
  ·rename_i hu;obtain⟨ks,hk,rfl⟩:=Option.map_eq_some_iff.1 ht;exact st2 true ks (by simp [aggT,hu]) hk rfl h
  ·cases ht
 ·-- not
  rename_i t x ho
  simp at ht;subst ht
  simp only [rdS] at h
  obtain⟨x',hk,e⟩:=Opd.k_spec h hsl
  unfold notS at hk
  split at hk
  ·exact⟨_,hk,fun fr w hw=>by simp [execOp,ho,e,conc,Op.unary]⟩
  ·exact⟨_,hk,fun fr w hw=>by simp [execOp,ho,e,conc,Op.unary]⟩
  ·exact⟨_,hk,fun fr w hw=>by simp [execOp,ho,e,conc,Op.unary]⟩
  ·exact hk.elim
 ·-- convert
  rename_i s d x ho
  split at ht
  ·rename_i k1 k2 h1 h2
   simp at ht;subst ht
   simp only [rdS] at h
   obtain⟨x',hk,e⟩:=Opd.k_spec h hsl
   unfold qnV at hk
   split at hk
   ·exact⟨_,hk,fun fr w hw=>by simp [execOp,ho,e,conc,convert,run_underlying h1,run_underlying h2,Conv.intToInt]⟩
   ·exact hk.elim
  ·rename_i e' h1 h2
   split at ht
   ·rename_i h3
    simp at ht;subst ht
    simp only [rdS] at h
    obtain⟨x',hk,e⟩:=Opd.k_spec h hsl
    unfold tosS at hk
    split at hk
    ·rename_i oa n cap
     obtain⟨ns,hr,hk⟩:=hk
     exact⟨_,hk,fun fr w hw=>by
      have:=qHU (P:=P) (w:=w) h1 h3 h2 hr (hw.resolve_left (by simp [SOp.pure])).good
      simp [execOp,ho,e,conc,this,Result.andThen]⟩
    ·exact hk.elim
   ·cases ht
  ·cases ht
 ·-- index
  rename_i t x i ho
  have two:∀ {k:SV→SV→Prop},(Opd.k hs.rs sl (qFA x) fun x=>Opd.k hs.rs sl (qFA i) fun y=>k x y)→∃ x' y',k x' y'∧a.eval x=conc x'∧a.eval i=conc y':=fun {k} hh=>by
   obtain⟨x',h1,e1⟩:=Opd.k_spec (k:=fun x=>Opd.k hs.rs sl (qFA i) fun y=>k x y) hh hsl
   obtain⟨y',h2,e2⟩:=Opd.k_spec (k:=fun y=>k x' y) h1 hsl
   exact⟨x',y',h2,e1,e2⟩
  split at ht
  ·rename_i hu
   simp at ht;subst ht
   simp only [rdS] at h
   obtain⟨x',i',hk,e1,e2⟩:=two h
   unfold qgV at hk
   split at hk
   ·rename_i s k n
    obtain⟨c,⟨h0,hc⟩,hk⟩:=hk
    refine⟨_,hk,fun fr w hw=>?_⟩
    have hlt:n.toNat<s.size:=by
     have:=(List.getElem?_eq_some_iff.1 hc).1
     simpa using this
    have hr:=run_index_string w t s k n hu
    rw [dif_pos ⟨h0,by omega⟩] at hr
    simp only [execOp,ho,e1,e2,conc]
    refine qmC (hr.trans ?_)
    have:s[n.toNat]=c:=by
     have:=(List.getElem?_eq_some_iff.1 hc).2
     show s.data[n.toNat]=c
     simpa using this
    rw [this]
   ·exact hk.elim
  ·rename_i n e hu
   split at ht
   ·rename_i size agg hsz hag
    simp at ht;subst ht
    simp only [rdS] at h
    obtain⟨x',i',hk,e1,e2⟩:=two h
    unfold qhV at hk
    split at hk
    ·rename_i k m
     obtain⟨j,⟨rfl,hj⟩,hk⟩:=hk
     obtain⟨s,hs',hall⟩:=qzN hk hsz hag
     refine⟨s,hs',fun fr w hw=>?_⟩
     obtain⟨cs,hc,hp⟩:=hall w
     simp only [execOp,ho,e1,e2,hc]
     refine qmC ?_
     simp [Instr.index,conc,asIntOf,run_underlying hu,q0A hsz,hj,hp]
    ·exact hk.elim
   ·cases ht
  ·cases ht
 ·-- fieldAddr
  rename_i t x f ho
  split at ht
  ·rename_i fs hu
   split at ht
   ·rename_i fd hfd
    split at ht
    ·rename_i n hsz
     simp at ht;subst ht
     simp only [rdS] at h
     obtain⟨x',hk,e⟩:=Opd.k_spec h hsl
     have go:∀ (b:Addr) w,conc x'=.pointer (some b)→(execOp a.eval o).run P w=.ok (.value (.pointer (some (b.add fd.offset)))) w:=fun b w hb=>by
      simp only [execOp,ho,e,hb]
      refine qmC ?_
      simp [Instr.fieldAt,run_underlying hu,hfd,Instr.sureAddr,fieldPlace,q0A hsz]
     unfold qmV at hk
     split at hk
     ·refine⟨_,hk,fun fr w hw=>?_⟩
      rw [go _ w rfl,qaB];rfl
     ·rename_i id oa n cap j
      refine⟨_,hk,fun fr w hw=>?_⟩
      rw [go (oa.add j) w rfl,qWL];rfl
     ·exact⟨_,hk,fun fr w hw=>go _ w rfl⟩
     ·exact hk.elim
    ·cases ht
   ·cases ht
  ·cases ht
 ·-- field
  rename_i t x f ho
  split at ht
  ·rename_i fs hu
   split at ht
   ·rename_i fd hfd
    split at ht
    ·rename_i size agg hsz hag
     simp at ht;subst ht
     simp only [rdS] at h
     obtain⟨x',hk,e⟩:=Opd.k_spec h hsl
     obtain⟨s,hs',hall⟩:=qzN hk hsz hag
     refine⟨s,hs',fun fr w hw=>?_⟩
     obtain⟨cs,hc,hp⟩:=hall w
     simp only [execOp,ho,e,hc]
     refine qmC ?_
     simp [Instr.field,run_underlying hu,hfd,asAgg,hp]
    ·cases ht
   ·cases ht
  ·cases ht
 ·-- indexAddr
  rename_i t x i ho
  have two:∀ {k:SV→SV→Prop},(Opd.k hs.rs sl (qFA x) fun x=>Opd.k hs.rs sl (qFA i) fun y=>k x y)→∃ x' y',k x' y'∧a.eval x=conc x'∧a.eval i=conc y':=fun {k} hh=>by
   obtain⟨x',h1,e1⟩:=Opd.k_spec (k:=fun x=>Opd.k hs.rs sl (qFA i) fun y=>k x y) hh hsl
   obtain⟨y',h2,e2⟩:=Opd.k_spec (k:=fun y=>k x' y) h1 hsl
   exact⟨x',y',h2,e1,e2⟩
  split at ht
  ·rename_i e hu
   split at ht
   ·rename_i size hsz
    simp at ht;subst ht
    simp only [rdS] at h
    obtain⟨x',i',hk,e1,e2⟩:=two h
    unfold qiV at hk
    split at hk
    ·rename_i k m
     have go:∀ (b:Addr) (n cap:Nat) w,conc x'=.slice (some b) n cap→0≤m→m<n→(execOp a.eval o).run P w=.ok (.value (.pointer (some (b.add (m.toNat*size))))) w:=fun b n cap w hx h0 h1=>by
      simp only [execOp,ho,e1,e2,hx]
      refine qmC ?_
      simp [Instr.indexAt,conc,asIntOf,run_underlying hu,q0A hsz,h0,h1]
     split at hk
     ·rename_i oa n cap
      obtain⟨b,rfl,⟨h0,h1⟩,hk⟩:=hk
      exact⟨_,hk,fun fr w hw=>go _ _ _ w rfl h0 h1⟩
     ·rename_i id b o' n cap
      obtain⟨j,⟨rfl,hj⟩,hk⟩:=hk
      refine⟨_,hk,fun fr w hw=>?_⟩
      rw [go _ _ _ w rfl (by omega) (by omega),qaB];simp [conc]
     ·rename_i id oa n cap
      split at hk
      ·rename_i oa' n' cap' ety size' cs hf
       obtain⟨⟨rfl,rfl,rfl,rfl⟩,⟨h0,h1⟩,hk⟩:=hk
       refine⟨_,hk,fun fr w hw=>?_⟩
       cases oa with
       | none =>
        exfalso
        obtain⟨⟨g1,g2⟩,_⟩:=(hw.resolve_left (by simp [SOp.pure])).row_own hf
        rcases g2 with ⟨_,rfl⟩|⟨g,cap',cur,he,_⟩
        ·omega
        ·simp at he
       | some b=>exact go b n cap w rfl h0 h1
      ·exact hk.elim
     ·exact hk.elim
    ·exact hk.elim
   ·cases ht
  ·rename_i n e hu
   split at ht
   ·rename_i size hsz
    simp at ht;subst ht
    simp only [rdS] at h
    obtain⟨x',i',hk,e1,e2⟩:=two h
    unfold qwT at hk
    split at hk
    ·rename_i k m
     have go:∀ (b:Addr) w,conc x'=.pointer (some b)→0≤m→m<n→(execOp a.eval o).run P w=.ok (.value (.pointer (some (b.add (m.toNat*size))))) w:=fun b w hx h0 h1=>by
      simp only [execOp,ho,e1,e2,hx]
      refine qmC ?_
      simp [Instr.indexAt,conc,asIntOf,run_underlying hu,q0A hsz,h0,h1,Instr.sureAddr]
     split at hk
     ·obtain⟨j,⟨rfl,hj⟩,hk⟩:=hk
      refine⟨_,hk,fun fr w hw=>?_⟩
      rw [go _ w rfl (by omega) (by omega),qaB];simp [conc]
     ·obtain⟨⟨h0,h1⟩,hk⟩:=hk
      exact⟨_,hk,fun fr w hw=>go _ w rfl h0 h1⟩
     ·exact hk.elim
    ·exact hk.elim
   ·cases ht
  ·cases ht
 ·-- load
  rename_i t x ho
  split at ht
  ·rename_i size agg hsz hag
   split at ht
   ·rename_i hpos
    simp at ht;subst ht
    simp only [rdS] at h
    obtain⟨x',hk,e⟩:=Opd.k_spec h hsl
    obtain⟨s,hs',hall⟩:=qDM hk hsz hag hpos
    exact⟨s,hs',fun fr w hw=>by simp only [execOp,ho,e];exact qmC (hall fr w (hw.resolve_left (by simp [SOp.pure])))⟩
   ·cases ht
  ·cases ht
 ·-- nilCheck
  rename_i x ho
  simp at ht;subst ht
  simp only [rdS] at h
  obtain⟨x',hk,e⟩:=Opd.k_spec h hsl
  unfold nckS at hk
  split at hk
  ·exact⟨_,hk,fun fr w hw=>by simp [execOp,ho,e,conc]⟩
  ·exact⟨_,hk,fun fr w hw=>by simp [execOp,ho,e,conc]⟩
  ·exact⟨_,hk,fun fr w hw=>by simp [execOp,ho,e,conc]⟩
  ·exact⟨_,hk,fun fr w hw=>by simp [execOp,ho,e,conc]⟩
  ·exact⟨_,hk,fun fr w hw=>by simp [execOp,ho,e,conc]⟩
  ·exact hk.elim
 ·-- extract
  rename_i x i ho
  simp at ht;subst ht
  simp only [rdS] at h
  obtain⟨x',hk,e⟩:=Opd.k_spec h hsl
  unfold extS at hk
  split at hk
  ·split at hk
   ·rename_i l s hn
    rw [qTJ] at hn
    exact⟨_,hk,fun fr w hw=>by simp only [execOp,ho,e];exact qmC (by simp [conc,Instr.extract,concL_getElem?,hn])⟩
   ·exact hk.elim
  ·split at hk
   ·rename_i l s hn
    rw [qTJ] at hn
    exact⟨_,hk,fun fr w hw=>by simp only [execOp,ho,e];exact qmC (by simp [conc,Instr.extract,hn])⟩
   ·exact hk.elim
  ·exact hk.elim
 ·-- makeFunc
  rename_i f first caps ho
  simp at ht;subst ht
  simp only [rdS] at h
  obtain⟨fs,h1,e1⟩:=Opd.ks_spec hsl first.toList (k:=fun a'=>Opd.ks hs.rs sl (caps.toList.map qFA) fun c=>K (.fn f a' c)) h
  obtain⟨cs,h2,e2⟩:=Opd.ks_spec hsl caps.toList h1
  refine⟨_,h2,fun fr w hw=>?_⟩
  simp only [execOp,ho]
  refine qmC ?_
  have g1:first.map a.eval=(qAA fs).toArray:=by apply Array.ext';simp [e1]
  have g2:caps.map a.eval=(qAA cs).toArray:=by apply Array.ext';simp [e2]
  simp [Instr.makeFunc,conc,g1,g2]
 ·-- slice
  rename_i t x lo hi mx ho
  split at ht
  ·rename_i hu
   split at ht
   ·simp at ht;subst ht
    simp only [rdS] at h
    obtain⟨x',h1,e1⟩:=Opd.k_spec (k:=fun x=>Opd.ko hs.rs sl (lo.map qFA) fun lo=>Opd.ko hs.rs sl (hi.map qFA) fun hi=>qfQ x lo hi K) h hsl
    obtain⟨lo',h2,e2⟩:=Opd.ko_spec (k:=fun lo=>Opd.ko hs.rs sl (hi.map qFA) fun hi=>qfQ x' lo hi K) h1 hsl
    obtain⟨hi',h3,e3⟩:=Opd.ko_spec (k:=fun hi=>qfQ x' lo' hi K) h2 hsl
    obtain⟨s,hs',hr⟩:=qfR h3 hu
    exact⟨s,hs',fun fr w hw=>by simp only [execOp,ho,e1,e2,e3];exact qmC (hr w)⟩
   ·cases ht
  ·rename_i e hu
   have fin:∀ {q:Fr→World→Prop} size,qPC P e=some size→rdS (.slc size (qFA x) (lo.map qFA) (hi.map qFA) (mx.map qFA)) sl hs K→∃ s,K s∧∀ fr w,q fr w→(execOp a.eval o).run P w=.ok (.value (conc s)) w:=fun size hsz h=>by
    simp only [rdS] at h
    obtain⟨x',h1,e1⟩:=Opd.k_spec (k:=fun x=>Opd.ko hs.rs sl (lo.map qFA) fun lo=>Opd.ko hs.rs sl (hi.map qFA) fun hi=>Opd.ko hs.rs sl (mx.map qFA) fun mx=>slcS size x lo hi mx K) h hsl
    obtain⟨lo',h2,e2⟩:=Opd.ko_spec (k:=fun lo=>Opd.ko hs.rs sl (hi.map qFA) fun hi=>Opd.ko hs.rs sl (mx.map qFA) fun mx=>slcS size x' lo hi mx K) h1 hsl
    obtain⟨hi',h3,e3⟩:=Opd.ko_spec (k:=fun hi=>Opd.ko hs.rs sl (mx.map qFA) fun mx=>slcS size x' lo' hi mx K) h2 hsl
    obtain⟨mx',h4,e4⟩:=Opd.ko_spec (k:=fun mx=>slcS size x' lo' hi' mx K) h3 hsl
    obtain⟨s,hs',hr⟩:=q3S h4 hu hsz
    exact⟨s,hs',fun fr w hw=>by simp only [execOp,ho,e1,e2,e3,e4];exact qmC (hr w)⟩
   split at ht
   ·cases ht
   ·rename_i size hsz _
    simp at ht;subst ht;exact fin size hsz h
   ·cases ht
  ·cases ht
 ·-- build
  rename_i t parts ho
  have fin:∀ {q:Fr→World→Prop} (ps:List (Nat×Nat×Opd)) (z:List Value) (place:Nat→Option (Nat×Nat)),q7I P t=some z →
    (parts.toList.map fun (i,x)=>(place i).map fun (o,s)=>(o,s,qFA x))=ps.map some→rdS (.build (z.map SV.v) ps) sl hs K→
    (∀ w cells',Instr.fill place z.toArray (parts.toList.map fun (i,x)=>(i,a.eval x))=some cells'→(Instr.build t (parts.map fun (i,x)=>(i,a.eval x))).run P w=.ok (.agg cells') w) →
    ∃ s,K s∧∀ fr w,q fr w→(execOp a.eval o).run P w=.ok (.value (conc s)) w:=fun ps z place hz hps h hrun=>by
   simp only [rdS] at h
   obtain⟨cells',hk,hf⟩:=qKG hsl place parts.toList ps (z.map SV.v) hps h
   refine⟨_,hk,fun fr w hw=>?_⟩
   simp only [execOp,ho]
   refine qmC (hrun w _ ?_)
   rw [← hf]
   congr 2
   simp [qQA,Function.comp_def,conc]
  split at ht
  ·rename_i z fs hz hu
   split at ht
   ·rename_i places hpl
    split at ht
    ·rename_i ps hps
     simp at ht;subst ht
     refine fin _ z (fun i=>places[i]?) hz (qNO _ _ hps) h fun w cells' hf=>?_
     obtain⟨v,hv,rfl,_⟩:=qKD hz w
     simp [Instr.build,hv,run_underlying hu,Array.mapM_eq_mapM_toList,run_places w _ _ hpl] at *
     simp [hf]
    ·cases ht
   ·cases ht
  ·rename_i z n e hz hu
   split at ht
   ·rename_i size hsz
    simp at ht;subst ht
    refine fin _ z (fun i=>some (i*size,size)) hz (by simp) h fun w cells' hf=>?_
    obtain⟨v,hv,rfl,_⟩:=qKD hz w
    simp [Instr.build,hv,run_underlying hu,q0A hsz,hf]
   ·cases ht
  ·cases ht
 ·split at ht<;>simp at ht
  subst ht;simp [SOp.reads] at hrd
 ·split at ht<;>simp at ht
  subst ht;simp [SOp.reads] at hrd
 ·simp at ht
  subst ht;simp [SOp.reads] at hrd
 ·split at ht<;>try (simp at ht;done)
  split at ht<;>try (simp at ht;done)
  split at ht<;>simp at ht
  subst ht;simp [SOp.reads] at hrd
 ·split at ht<;>try (simp at ht;done)
  split at ht<;>try (simp at ht;done)
  split at ht<;>simp at ht
  subst ht;simp [SOp.reads] at hrd
 ·split at ht<;>try (simp at ht;done)
  split at ht<;>simp at ht
  subst ht;simp [SOp.reads] at hrd
 ·split at ht<;>simp at ht
  subst ht;simp [SOp.reads] at hrd
 ·split at ht<;>simp at ht
  subst ht;simp [SOp.reads] at hrd
 ·-- lookup
  rename_i t x k ok ho
  split at ht
  ·rename_i ik et hmt
   obtain⟨kt,hu,hk'⟩:=qBL hmt
   split at ht
   ·rename_i z hz
    simp at ht;subst ht
    simp only [rdS] at h
    obtain⟨x',h1,e1⟩:=Opd.k_spec (k:=fun x=>Opd.k hs.rs sl (qFA k) fun y=>qTT hs ik z ok x y K) h hsl
    obtain⟨y',h2,e2⟩:=Opd.k_spec (k:=fun y=>qTT hs ik z ok x' y K) h1 hsl
    unfold qTT at h2
    split at h2
    ·rename_i id r
     split at h2
     ·rename_i ik' n
      split at h2
      ·rename_i r' ik2 es hf
       obtain⟨⟨rfl,hk1,hk2⟩,o',ho',hK⟩:=h2
       obtain rfl:=qrE hk1
       obtain rfl:=qrE hk2
       have key:∀ v,qQO ok z (mGet n es)=v→∀ fr w,((SOp.look ik2 z ok (qFA x) (qFA k)).pure=true∨HSim fr hs w)→(execOp a.eval o).run P w=.ok (.value v) w:=fun v hv fr w hw=>by
        have hw:HSim fr hs w:=hw.resolve_left (by simp [SOp.pure])
        obtain⟨l1,l2,e⟩:=q8J hf
        have hb:=hw.res (.mp id r ik2 es) (by rw [e];simp)
        have:=qAH (P:=P) hu hk' hb n hz ok
        rw [hv] at this
        simp only [execOp,ho,e1,e2,conc]
        exact qmC this
       subst ho'
       cases hg:mGet n es with
       | some v =>
        rw [hg] at hK
        cases ok with
        | true=>exact⟨_,hK,fun fr w hw=>key _ (by rw [hg];rfl) fr w hw⟩
        | false=>exact⟨_,hK,fun fr w hw=>key _ (by rw [hg];rfl) fr w hw⟩
       | none =>
        rw [hg] at hK
        cases ok with
        | true=>exact⟨_,hK,fun fr w hw=>key _ (by rw [hg];rfl) fr w hw⟩
        | false=>exact⟨_,hK,fun fr w hw=>key _ (by rw [hg];rfl) fr w hw⟩
      ·exact h2.elim
     ·exact h2.elim
    ·rename_i r
     split at h2
     ·rename_i ik' n
      obtain⟨es,⟨hk1,hfz⟩,o',ho',hK⟩:=h2
      obtain rfl:=qrE hk1
      have key:∀ v,qQO ok z (mGet n es)=v→∀ fr w,((SOp.look ik' z ok (qFA x) (qFA k)).pure=true∨HSim fr hs w)→(execOp a.eval o).run P w=.ok (.value v) w:=fun v hv fr w hw=>by
       have hw:HSim fr hs w:=hw.resolve_left (by simp [SOp.pure])
       have hb:=(hw.good.2 r hfz.1).trans hfz.2
       have:=qAH (P:=P) hu hk' hb n hz ok
       rw [hv] at this
       simp only [execOp,ho,e1,e2,conc]
       exact qmC this
      subst ho'
      cases hg:mGet n es with
      | some v =>
       rw [hg] at hK
       cases ok with
       | true=>exact⟨_,hK,fun fr w hw=>key _ (by rw [hg];rfl) fr w hw⟩
       | false=>exact⟨_,hK,fun fr w hw=>key _ (by rw [hg];rfl) fr w hw⟩
      | none =>
       rw [hg] at hK
       cases ok with
       | true=>exact⟨_,hK,fun fr w hw=>key _ (by rw [hg];rfl) fr w hw⟩
       | false=>exact⟨_,hK,fun fr w hw=>key _ (by rw [hg];rfl) fr w hw⟩
     ·exact h2.elim
    ·exact h2.elim
   ·cases ht
  ·cases ht
 ·-- call
  rename_i c ho
  split at ht
  ·-- len
   rename_i hc
   split at ht
   ·rename_i x t hargs htys
    have hres:∀ v w,a.eval x=v→(Builtin.len_ c.argTypes o.type #[v]).run P w=(Builtin.len_ #[t] o.type #[v]).run P w:=fun v w _=>by
     have:c.argTypes=#[t]:=by apply Array.ext';simpa using htys
     rw [this]
    have hxs:c.args=#[x]:=by apply Array.ext';simpa using hargs
    have go:∀ v n w,a.eval x=v→(Builtin.len_ #[t] o.type #[v]).run P w=.ok (.int .i64 n) w→(execOp a.eval o).run P w=.ok (.value (.int .i64 n)) w:=fun v n w hv hr=>by
     simp only [execOp,ho,resolve,hc,hxs]
     simp [invoke,builtin,hv,hres v w hv,hr,Result.andThen]
    split at ht
    ·rename_i hu
     simp at ht;subst ht
     simp only [rdS] at h
     obtain⟨x',hk,e⟩:=Opd.k_spec h hsl
     simp only [lenS] at hk
     split at hk
     ·exact⟨_,hk,fun fr w hw=>go _ _ w e (by simp [conc,Builtin.len_,run_underlying hu,goInt])⟩
     ·exact hk.elim
    ·rename_i e' hu
     simp at ht;subst ht
     simp only [rdS] at h
     obtain⟨x',hk,e⟩:=Opd.k_spec h hsl
     simp only [lenS] at hk
     split at hk
     ·exact⟨_,hk,fun fr w hw=>go _ _ w e (by simp [conc,Builtin.len_,run_underlying hu,goInt])⟩
     ·exact⟨_,hk,fun fr w hw=>go _ _ w e (by simp [conc,Builtin.len_,run_underlying hu,goInt])⟩
     ·exact⟨_,hk,fun fr w hw=>go _ _ w e (by simp [conc,Builtin.len_,run_underlying hu,goInt])⟩
     ·exact hk.elim
    ·cases ht
   ·cases ht
  ·-- min
   rename_i hc
   split at ht
   ·rename_i x y hargs
    simp at ht;subst ht
    have hxs:c.args=#[x,y]:=by apply Array.ext';simpa using hargs
    simp only [rdS] at h
    obtain⟨x',h1,e1⟩:=Opd.k_spec (k:=fun x=>Opd.k hs.rs sl (qFA y) fun y=>qST x y _) h hsl
    obtain⟨y',hk,e2⟩:=Opd.k_spec (k:=fun y=>qST x' y _) h1 hsl
    unfold qST at hk
    split at hk
    ·exact⟨_,hk,fun fr w hw=>by
      simp only [execOp,ho,resolve,hc,hxs]
      simp [invoke,builtin,e1,e2,conc,Builtin.min_,Builtin.min2]⟩
    ·exact hk.elim
   ·cases ht
  ·split at ht<;>try (simp at ht;done)
   split at ht<;>try (simp at ht;done)
   split at ht<;>try (simp at ht;done)
   split at ht<;>simp at ht
   subst ht;simp [SOp.reads] at hrd
  ·split at ht<;>try (simp at ht;done)
   split at ht<;>try (simp at ht;done)
   split at ht<;>simp at ht
   subst ht;simp [SOp.reads] at hrd
  ·split at ht<;>try (simp at ht;done)
   split at ht<;>try (simp at ht;done)
   split at ht<;>(simp at ht;subst ht;simp [SOp.reads] at hrd)
  ·simp at ht
   subst ht;simp [SOp.reads] at hrd
  ·cases ht
 ·cases ht
theorem qQK {P:Program} {o:Oper} {so:SOp} (ht:trOp P o=some so) (hrd:so.reads=true) {sl:Sl} {a:Act} (hsl:qwD sl a) {hs:Hs} {K:SV→Prop} (h:rdS so sl hs K) :
  ∃ s,K s∧∀ fr w,HSim fr hs w→(execOp a.eval o).run P w=.ok (.value (conc s)) w :=
 let ⟨s,h1,h2⟩:=qtN ht hrd hsl h
 ⟨s,h1,fun fr w hw=>h2 fr w (.inr hw)⟩
/- A symbolic evaluator over the model's code,part 5: the operations that do something. -/
open Go.RowKit
def FW (r:Option Nat):Fence:={fn:=fun _=>True,depth:=none,alive:=false,round:=r}
theorem q2U (r:Option Nat) (n:Nat):(FW r).room n:=fun _ h=>by simp [FW] at h
theorem qNG {P:Program} {f:FuncId} {args:Array Value} {w:World} {R:Ending→World→Prop} (r:Option Nat) (n:Nat):CallsIn (FW r) n P f args w R↔Calls P f args w R:=by
 have:CallsIn (FW r) n P f args w R↔CallsIn Fence.wide n P f args w R:=Iff.rfl
 rw [this];exact callsIn_wide
abbrev qsA:=Nat→List SV→Hs→(SV→Hs→Prop)→Prop
abbrev qIA:=qsA→FuncId→List SV→Hs→(SV→Hs→Prop)→Prop
def qmF (r:Loop) (args:Array Value):Array Value:=(r.params.zip args).foldl (fun tmps (t,a)=>tmps.setIfInBounds t a) r.tmps
theorem q6Q {id:Nat} {rs:List Res} {l:Nat} {r:Loop} {j:LpS} (h:qpI id rs=some (l,r,j)):∃ l1 l2,rs=l1++.lp id l r j :: l2:=by
 induction rs with
 | nil=>simp [qpI] at h
 | cons x rs ih =>
  have go:qpI id rs=some (l,r,j)→∃ l1 l2,x :: rs=l1++.lp id l r j :: l2:=fun h'=>by
   obtain⟨l1,l2,e⟩:=ih h'
   exact⟨x :: l1,l2,by simp [e]⟩
  cases x with
  | lp k l' r' j' =>
   simp only [qpI] at h
   cases hk:Nat.beq k id with
   | true=>rw [hk] at h;simp at h;obtain⟨rfl,rfl,rfl⟩:=h;obtain rfl:=Nat.eq_of_beq_eq_true hk;exact⟨[],rs,rfl⟩
   | false=>rw [hk] at h;exact go h
  | blk _ _ _ _=>exact go h
  | row _ _ _ _ _ _ _=>exact go h
  | mk _=>exact go h
  | mp _ _ _ _=>exact go h
def SndY (P:Program) (fr0:Fr) (Y:qsA):Prop:=∀ fr,fr0.le fr→∀ id args hs K,Y id args hs K→∀ l r j w,qpI id hs.rs=some (l,r,j)→HSim fr hs w →
 args.length=r.params.size∧RoundIn (FW none) 0 P l r.fn (qmF r (qAA args).toArray) r.assign r.body w fun e w'=>∃ v hs',e=.returned (conc v)∧HSim fr hs' w'∧K v hs'
theorem SndY.up {P:Program} {a b:Fr} {Y:qsA} (h:SndY P a Y) (k:a.le b):SndY P b Y:=fun fr hfr=>h fr (Fr.trans k hfr)
def SndH (P:Program) (fr:Fr) (H:qIA):Prop:=∀ Y,SndY P fr Y→∀ f args hs K,H Y f args hs K→∀ w,HSim fr hs w →
 Calls P f (qAA args).toArray w fun e w'=>∃ v hs',e=.returned (conc v)∧HSim fr hs' w'∧K v hs'
def FnOk (P : Program) (f : FuncId) : Prop := ∃ fn, P.funcs[f]? = some fn ∧ fn.body.isSome = true ∧ (fn.name == "runtime.NumGoroutine") = false
def oc1 (x:SV) (k:Prop):Prop:=match x with
 | .v y=>match y with
  | .agg _=>False
  | .tuple _=>False
  | _=>k
 | .agg _=>False
 | .tup _=>False
 | _=>k
theorem qOT {x:SV} {k:Prop} (h:oc1 x k):k∧(conc x).oneCell'=true:=by
 unfold oc1 at h
 split at h
 ·split at h<;>first|exact h.elim|(refine⟨h,?_⟩;simp only [conc];rename_i y _ _ ;cases y<;>simp_all [Value.oneCell'])
 ·exact h.elim
 ·exact h.elim
 ·refine⟨h,?_⟩
  cases x<;>simp_all [conc,Value.oneCell']
def ocS:List SV→Prop→Prop
 | [],k=>k
 | x :: r,k=>oc1 x (ocS r k)
theorem qlD:∀ {l:List SV} {k:Prop},ocS l k→k∧∀ c∈l,(conc c).oneCell'=true
 | [],k,h=>⟨h,fun c hc=>by cases hc⟩
 | x :: r,k,h=>by
  obtain⟨h1,h2⟩:=qOT h
  obtain⟨h3,h4⟩:=qlD h1
  exact⟨h3,fun c hc=>by rcases List.mem_cons.1 hc with rfl|hc;exact h2;exact h4 c hc⟩
def updK (id:Nat) (cells':List SV):List Res→(List Res→Prop)→Prop
 | [],_=>False
 | .blk j b ty cells :: r,k=>match Nat.beq j id with
  | true=>k (.blk j b ty cells' :: r)
  | false=>updK id cells' r fun r'=>k (.blk j b ty cells :: r')
 | x :: r,k=>updK id cells' r fun r'=>k (x :: r')
theorem qyD {id:Nat} {cells':List SV}:∀ {rs:List Res} {k:List Res→Prop} {b:Nat} {ty:TypeId} {cells:List SV},updK id cells' rs k→qwA id rs=some (b,ty,cells) →
  ∃ l1 l2,rs=l1++.blk id b ty cells :: l2∧k (l1++.blk id b ty cells' :: l2)
 | [],k,b,ty,cells,h,hf=>h.elim
 | .blk j b' ty' c' :: r,k,b,ty,cells,h,hf=>by
  simp only [updK] at h
  simp only [qwA] at hf
  cases hj:Nat.beq j id with
  | true =>
   rw [hj] at h hf
   simp at hf
   obtain⟨rfl,rfl,rfl⟩:=hf
   obtain rfl:=Nat.eq_of_beq_eq_true hj
   exact⟨[],r,rfl,h⟩
  | false =>
   rw [hj] at h hf
   obtain⟨l1,l2,e,hk⟩:=qyD h hf
   exact⟨.blk j b' ty' c' :: l1,l2,by simp [e],hk⟩
 | .row a1 a2 a3 a4 a5 a6 a7 :: r,k,b,ty,cells,h,hf=>by
  obtain⟨l1,l2,e,hk⟩:=qyD (k:=fun r'=>k (.row a1 a2 a3 a4 a5 a6 a7 :: r')) h hf
  exact⟨_ :: l1,l2,by rw [e];rfl,hk⟩
 | .lp a1 a2 a3 a4 :: r,k,b,ty,cells,h,hf=>by
  obtain⟨l1,l2,e,hk⟩:=qyD (k:=fun r'=>k (.lp a1 a2 a3 a4 :: r')) h hf
  exact⟨_ :: l1,l2,by rw [e];rfl,hk⟩
 | .mk a1 :: r,k,b,ty,cells,h,hf=>by
  obtain⟨l1,l2,e,hk⟩:=qyD (k:=fun r'=>k (.mk a1 :: r')) h hf
  exact⟨_ :: l1,l2,by rw [e];rfl,hk⟩
 | .mp a1 a2 a3 a4 :: r,k,b,ty,cells,h,hf=>by
  obtain⟨l1,l2,e,hk⟩:=qyD (k:=fun r'=>k (.mp a1 a2 a3 a4 :: r')) h hf
  exact⟨_ :: l1,l2,by rw [e];rfl,hk⟩
def updR (id:Nat) (new:Option Res):List Res→(List Res→Prop)→Prop
 | [],_=>False
 | .row j oa n cap ety size cs :: r,k=>match Nat.beq j id with
  | true=>match new with
   | some x=>k (x :: r)
   | none=>k r
  | false=>updR id new r fun r'=>k (.row j oa n cap ety size cs :: r')
 | x :: r,k=>updR id new r fun r'=>k (x :: r')
theorem qSC {id:Nat} {new:Option Res}:∀ {rs:List Res} {k:List Res→Prop} {oa:Option Addr} {n cap:Nat} {ety:TypeId} {size:Nat} {cs:List Value},updR id new rs k→q3A id rs=some (oa,n,cap,ety,size,cs) →
  ∃ l1 l2,rs=l1++.row id oa n cap ety size cs :: l2∧k (l1++(new.toList++l2))
 | [],k,oa,n,cap,ety,size,cs,h,hf=>h.elim
 | .row j a2 a3 a4 a5 a6 a7 :: r,k,oa,n,cap,ety,size,cs,h,hf=>by
  simp only [updR] at h
  simp only [q3A] at hf
  cases hj:Nat.beq j id with
  | true =>
   rw [hj] at h hf
   simp at hf
   obtain⟨rfl,rfl,rfl,rfl,rfl,rfl⟩:=hf
   obtain rfl:=Nat.eq_of_beq_eq_true hj
   refine⟨[],r,rfl,?_⟩
   cases new<;>exact h
  | false =>
   rw [hj] at h hf
   obtain⟨l1,l2,e,hk⟩:=qSC h hf
   exact⟨_ :: l1,l2,by rw [e];rfl,hk⟩
 | .blk a1 a2 a3 a4 :: r,k,oa,n,cap,ety,size,cs,h,hf=>by
  obtain⟨l1,l2,e,hk⟩:=qSC (k:=fun r'=>k (.blk a1 a2 a3 a4 :: r')) h hf
  exact⟨_ :: l1,l2,by rw [e];rfl,hk⟩
 | .lp a1 a2 a3 a4 :: r,k,oa,n,cap,ety,size,cs,h,hf=>by
  obtain⟨l1,l2,e,hk⟩:=qSC (k:=fun r'=>k (.lp a1 a2 a3 a4 :: r')) h hf
  exact⟨_ :: l1,l2,by rw [e];rfl,hk⟩
 | .mk a1 :: r,k,oa,n,cap,ety,size,cs,h,hf=>by
  obtain⟨l1,l2,e,hk⟩:=qSC (k:=fun r'=>k (.mk a1 :: r')) h hf
  exact⟨_ :: l1,l2,by rw [e];rfl,hk⟩
 | .mp a1 a2 a3 a4 :: r,k,oa,n,cap,ety,size,cs,h,hf=>by
  obtain⟨l1,l2,e,hk⟩:=qSC (k:=fun r'=>k (.mp a1 a2 a3 a4 :: r')) h hf
  exact⟨_ :: l1,l2,by rw [e];rfl,hk⟩
def qQT:List SV→(List SV→Prop)→Prop
 | [],k=>k []
 | x :: r,k=>qQT r fun r'=>k (x :: r')
theorem q9L:∀ (l:List SV) {k:List SV→Prop},qQT l k→k l
 | [],_,h=>h
 | x :: r,k,h=>q9L r (k:=fun r'=>k (x :: r')) h
/- A symbolic evaluator over the model's code,part 5b: what is the call's own is given away. -/
open Go.RowKit
theorem PbSl.rd {g:GW} {lo:Nat} {ety:TypeId} {size:Nat} {v:Value} {n:Nat} {cs:List Value} (h:PbSl g lo ety size v n cs):RdSl g size v n cs:=by
 obtain⟨h1,h2,_⟩:=h
 refine⟨h1,?_⟩
 rcases h2 with ⟨rfl,rfl⟩|⟨b,cap,rest,rfl,hb,ho,hn,hc,hr⟩
 ·exact⟨none,0,rfl,Nat.le_refl _,Nat.zero_le _,fun _=>⟨rfl,rfl⟩,fun i u hu=>by simp at h1;subst h1;simp at hu⟩
 ·refine⟨some ⟨b,0,none⟩,cap,rfl,hn,hc,(fun h=>by cases h),fun i u hu=>⟨_,rfl,⟨?_,?_⟩⟩⟩
  ·rw [qaB];exact hb.2
  ·rw [qaB,Nat.zero_add,qiB ho]
   have:=(List.getElem?_eq_some_iff.1 hu).1
   simp [List.getElem?_append_left this,hu]
def delB (id:Nat):List Res→(List Res→Prop)→Prop
 | [],_=>False
 | .blk j b ty cells :: r,k=>match Nat.beq j id with
  | true=>k r
  | false=>delB id r fun r'=>k (.blk j b ty cells :: r')
 | x :: r,k=>delB id r fun r'=>k (x :: r')
def delM (id:Nat):List Res→(List Res→Prop)→Prop
 | [],_=>False
 | .mp j a ik es :: r,k=>match Nat.beq j id with
  | true=>k r
  | false=>delM id r fun r'=>k (.mp j a ik es :: r')
 | x :: r,k=>delM id r fun r'=>k (x :: r')
def pub1 (x:SV) (hs:Hs) (K:SV→Hs→Prop):Prop:=match hs with
 | ⟨hg,hr,hn,hl⟩=>match norm hr x with
 | .row id oa n cap=>match q3A id hr with
  | some (oa',n',cap',ety,size,cs)=>(oa=oa'∧n=n'∧cap=cap')∧∀ g',hg≤g'→(∀ a,oa=some a→¬ hg.g a.block)→PbSl g' hl ety size (.slice oa n cap) n cs→updR id none hr fun rs'=>K (.v (.slice oa n cap)) ⟨g',rs',hn,hl⟩
  | none=>False
 | .sl id b o n cap=>match qwA id hr with
  | some (b',ety,cells)=>(b=b'∧o=0∧n=cap)∧qdD cells fun cs=>∃ size,cs.length=n*size∧cap≤maxLen∧∀ g',hg≤g'→¬ hg.g b→PbSl g' hl ety size (.slice (some ⟨b,o,none⟩) n cap) n cs→delB id hr fun rs'=>K (.v (.slice (some ⟨b,o,none⟩) n cap)) ⟨g',rs',hn,hl⟩
  | none=>False
 | .mp id r=>match qoD id hr with
  | some (r',ik,es)=>r=r'∧∀ g',hg≤g'→FzM g' r ik es→delM id hr fun rs'=>K (.v (.map (some r))) ⟨g',rs',hn,hl⟩
  | none=>False
 | x=>K x hs
theorem qsR (x:SV) (hs:Hs) (K:SV→Hs→Prop):pub1 x hs K=(match norm hs.rs x with
 | .row id oa n cap=>match q3A id hs.rs with
  | some (oa',n',cap',ety,size,cs)=>(oa=oa'∧n=n'∧cap=cap')∧∀ g',hs.g≤g'→(∀ a,oa=some a→¬ hs.g.g a.block)→PbSl g' hs.lo ety size (.slice oa n cap) n cs→updR id none hs.rs fun rs'=>K (.v (.slice oa n cap)) ⟨g',rs',hs.nx,hs.lo⟩
  | none=>False
 | .sl id b o n cap=>match qwA id hs.rs with
  | some (b',ety,cells)=>(b=b'∧o=0∧n=cap)∧qdD cells fun cs=>∃ size,cs.length=n*size∧cap≤maxLen∧∀ g',hs.g≤g'→¬ hs.g.g b→PbSl g' hs.lo ety size (.slice (some ⟨b,o,none⟩) n cap) n cs→delB id hs.rs fun rs'=>K (.v (.slice (some ⟨b,o,none⟩) n cap)) ⟨g',rs',hs.nx,hs.lo⟩
  | none=>False
 | .mp id r=>match qoD id hs.rs with
  | some (r',ik,es)=>r=r'∧∀ g',hs.g≤g'→FzM g' r ik es→delM id hs.rs fun rs'=>K (.v (.map (some r))) ⟨g',rs',hs.nx,hs.lo⟩
  | none=>False
 | x=>K x hs):=by
 cases hs;rfl
theorem qVE {id:Nat}:∀ {rs:List Res} {k:List Res→Prop} {r:Nat} {ik:IntKind} {es:List (Int×Value)},delM id rs k→qoD id rs=some (r,ik,es) →
  ∃ l1 l2,rs=l1++.mp id r ik es :: l2∧k (l1++l2)
 | [],k,r,ik,es,h,hf=>h.elim
 | .mp j r' ik' es' :: q,k,r,ik,es,h,hf=>by
  simp only [delM] at h
  simp only [qoD] at hf
  cases hj:Nat.beq j id with
  | true =>
   rw [hj] at h hf
   simp at hf
   obtain⟨rfl,rfl,rfl⟩:=hf
   obtain rfl:=Nat.eq_of_beq_eq_true hj
   exact⟨[],q,rfl,h⟩
  | false =>
   rw [hj] at h hf
   obtain⟨l1,l2,e,hk⟩:=qVE h hf
   exact⟨.mp j r' ik' es' :: l1,l2,by simp [e],hk⟩
 | .row a1 a2 a3 a4 a5 a6 a7 :: q,k,r,ik,es,h,hf=>by
  obtain⟨l1,l2,e,hk⟩:=qVE (k:=fun r'=>k (.row a1 a2 a3 a4 a5 a6 a7 :: r')) h hf
  exact⟨_ :: l1,l2,by rw [e];rfl,hk⟩
 | .lp a1 a2 a3 a4 :: q,k,r,ik,es,h,hf=>by
  obtain⟨l1,l2,e,hk⟩:=qVE (k:=fun r'=>k (.lp a1 a2 a3 a4 :: r')) h hf
  exact⟨_ :: l1,l2,by rw [e];rfl,hk⟩
 | .mk a1 :: q,k,r,ik,es,h,hf=>by
  obtain⟨l1,l2,e,hk⟩:=qVE (k:=fun r'=>k (.mk a1 :: r')) h hf
  exact⟨_ :: l1,l2,by rw [e];rfl,hk⟩
 | .blk a1 a2 a3 a4 :: q,k,r,ik,es,h,hf=>by
  obtain⟨l1,l2,e,hk⟩:=qVE (k:=fun r'=>k (.blk a1 a2 a3 a4 :: r')) h hf
  exact⟨_ :: l1,l2,by rw [e];rfl,hk⟩
theorem qWE {id:Nat}:∀ {rs:List Res} {k:List Res→Prop} {b:Nat} {ty:TypeId} {cells:List SV},delB id rs k→qwA id rs=some (b,ty,cells) →
  ∃ l1 l2,rs=l1++.blk id b ty cells :: l2∧k (l1++l2)
 | [],k,b,ty,cells,h,hf=>h.elim
 | .blk j b' ty' c' :: r,k,b,ty,cells,h,hf=>by
  simp only [delB] at h
  simp only [qwA] at hf
  cases hj:Nat.beq j id with
  | true =>
   rw [hj] at h hf
   simp at hf
   obtain⟨rfl,rfl,rfl⟩:=hf
   obtain rfl:=Nat.eq_of_beq_eq_true hj
   exact⟨[],r,rfl,h⟩
  | false =>
   rw [hj] at h hf
   obtain⟨l1,l2,e,hk⟩:=qWE h hf
   exact⟨.blk j b' ty' c' :: l1,l2,by simp [e],hk⟩
 | .row a1 a2 a3 a4 a5 a6 a7 :: r,k,b,ty,cells,h,hf=>by
  obtain⟨l1,l2,e,hk⟩:=qWE (k:=fun r'=>k (.row a1 a2 a3 a4 a5 a6 a7 :: r')) h hf
  exact⟨_ :: l1,l2,by rw [e];rfl,hk⟩
 | .lp a1 a2 a3 a4 :: r,k,b,ty,cells,h,hf=>by
  obtain⟨l1,l2,e,hk⟩:=qWE (k:=fun r'=>k (.lp a1 a2 a3 a4 :: r')) h hf
  exact⟨_ :: l1,l2,by rw [e];rfl,hk⟩
 | .mk a1 :: r,k,b,ty,cells,h,hf=>by
  obtain⟨l1,l2,e,hk⟩:=qWE (k:=fun r'=>k (.mk a1 :: r')) h hf
  exact⟨_ :: l1,l2,by rw [e];rfl,hk⟩
 | .mp a1 a2 a3 a4 :: r,k,b,ty,cells,h,hf=>by
  obtain⟨l1,l2,e,hk⟩:=qWE (k:=fun r'=>k (.mp a1 a2 a3 a4 :: r')) h hf
  exact⟨_ :: l1,l2,by rw [e];rfl,hk⟩
theorem qcI {x:SV} {hs:Hs} {K:SV→Hs→Prop} (h:pub1 x hs K) {fr:Fr} {w:World} (hw:HSim fr hs w):∃ s hs',K s hs'∧conc s=conc x∧HSim fr hs' w:=by
 rw [qsR] at h
 split at h
 ·rename_i id oa n cap hx
  have hcx:conc x=.slice oa n cap:=by rw [← qdC hs.rs x,hx];rfl
  split at h
  ·rename_i oa' n' cap' ety size cs hf
   obtain⟨⟨rfl,rfl,rfl⟩,h⟩:=h
   obtain⟨l1,l2,hrs⟩:=qoI hf
   obtain⟨⟨g1,g2⟩,hone⟩:=hw.row_own hf
   have hsim:=hw.freeze (nx:=hs.nx) hrs
   have hmem:∀ a,oa=some a→a.block∈hs.bks:=fun a ha=>by
    subst ha;rw [Hs.bks,hrs];simp [Res.bk]
   have hnew:∀ a,oa=some a→¬ hs.g.g a.block:=fun a ha=>(hw.fre _ (hmem a ha)).1
   have hrd:PbSl (hs.g.more w (Res.bk (.row id oa n cap ety size cs))) hs.lo ety size (.slice oa n cap) n cs:=by
    refine⟨g1,?_,hone⟩
    rcases g2 with ⟨he,rfl⟩|⟨g,cap',cur,he,hg0,hh,hnc,hcm,hcs,htk⟩
    ·exact .inl ⟨he,rfl⟩
    ·simp only [Value.slice.injEq] at he
     obtain⟨rfl,_,rfl⟩:=he
     refine .inr ⟨g,cap,cur.toList.drop (n*size),rfl,⟨hw.low.2 _ (hmem _ rfl),(Array.getElem?_eq_some_iff.1 hh).1,.inr (by simp [Res.bk])⟩,?_,hnc,hcm,?_⟩
     ·show w.heap[g]?=_
      rw [hh,← htk,List.take_append_drop]
     ·rw [← htk,List.take_append_drop];simpa using hcs
   obtain⟨l1',l2',hrs',hk⟩:=qSC (h _ (GW.le_more hw.good _) hnew hrd) hf
   exact⟨_,_,hk,hcx.symm,hw.freeze (nx:=hs.nx) hrs'⟩
  ·exact h.elim
 ·rename_i id b o n cap hx
  have hcx:conc x=.slice (some ⟨b,o,none⟩) n cap:=by rw [← qdC hs.rs x,hx];rfl
  split at h
  ·rename_i b' ty cells hf
   obtain⟨⟨rfl,rfl,rfl⟩,h⟩:=h
   obtain⟨size,hl,hcm,h⟩:=qRB _ h
   obtain⟨l1,l2,hrs⟩:=qqI hf
   obtain⟨hb,hone⟩:=hw.blk_cell hf
   have hmem:b∈hs.bks:=by rw [Hs.bks,hrs];simp [Res.bk]
   have hrd:PbSl (hs.g.more w (Res.bk (.blk id b ty cells))) hs.lo ty size (.slice (some ⟨b,0,none⟩) n n) n (qAA cells):=by
    refine⟨hl,.inr ⟨b,n,[],rfl,⟨hw.low.2 _ hmem,(Array.getElem?_eq_some_iff.1 hb).1,.inr (by simp [Res.bk])⟩,?_,Nat.le_refl _,hcm,by simpa using hl⟩,fun u hu=>?_⟩
    ·show w.heap[b]?=_
     rw [hb];simp
    ·rw [qQA] at hu
     obtain⟨c,hc,rfl⟩:=List.mem_map.1 hu
     exact hone c hc
   obtain⟨l1',l2',hrs',hk⟩:=qWE (h _ (GW.le_more hw.good _) (hw.fre _ hmem).1 hrd) hf
   exact⟨_,_,hk,hcx.symm,hw.freeze (nx:=hs.nx) hrs'⟩
  ·exact h.elim
 ·rename_i id r hx
  have hcx:conc x=.map (some r):=by rw [← qdC hs.rs x,hx];rfl
  split at h
  ·rename_i r' ik es hf
   obtain⟨rfl,h⟩:=h
   obtain⟨l1,l2,hrs⟩:=q8J hf
   have hb:w.heap[r]?=some (.map ⟨mkE ik 0 es⟩ es.length):=hw.res (.mp id r ik es) (by rw [hrs];simp)
   have hfz:FzM (hs.g.more w (Res.bk (.mp id r ik es))) r ik es:=⟨⟨(Array.getElem?_eq_some_iff.1 hb).1,.inr (by simp [Res.bk])⟩,hb⟩
   obtain⟨l1',l2',hrs',hk⟩:=qVE (h _ (GW.le_more hw.good _) hfz) hf
   exact⟨_,_,hk,hcx.symm,hw.freeze (nx:=hs.nx) hrs'⟩
  ·exact h.elim
 ·exact⟨_,_,h,qdC hs.rs x,hw⟩
def qBP (f:SV→Hs→(Hs→Prop)→Prop):List SV→Hs→(Hs→Prop)→Prop
 | [],hs,K=>K hs
 | c :: r,hs,K=>match c with
  | .sl a b o n m=>f (.sl a b o n m) hs fun hs'=>qBP f r hs' K
  | .row a b n m=>f (.row a b n m) hs fun hs'=>qBP f r hs' K
  | _=>qBP f r hs K
def PubF (f:SV→Hs→(Hs→Prop)→Prop):Prop:=∀ x hs K fr w,f x hs K→HSim fr hs w→∃ hs',K hs'∧HSim fr hs' w
theorem qCE {f:SV→Hs→(Hs→Prop)→Prop} (hf:PubF f):∀ (l:List SV) {hs:Hs} {K:Hs→Prop} {fr:Fr} {w:World},qBP f l hs K→HSim fr hs w→∃ hs',K hs'∧HSim fr hs' w
 | [],hs,K,fr,w,h,hw=>⟨hs,h,hw⟩
 | c :: r,hs,K,fr,w,h,hw=>by
  simp only [qBP] at h
  split at h
  ·obtain⟨h1,h2,hw1⟩:=hf _ _ _ _ _ h hw
   exact qCE hf r h2 hw1
  ·obtain⟨h1,h2,hw1⟩:=hf _ _ _ _ _ h hw
   exact qCE hf r h2 hw1
  ·exact qCE hf r h hw
def q9S (f:SV→Hs→(Hs→Prop)→Prop) (x:SV) (hs:Hs) (K:Hs→Prop):Prop:=match x with
 | .sl id _ _ _ _=>match hs with
  | ⟨hg,hr,hn,hl⟩=>match qwA id hr with
   | some (_,_,cells)=>qBP f cells ⟨hg,hr,hn,hl⟩ K
   | none=>K ⟨hg,hr,hn,hl⟩
 | _=>K hs
theorem q3L {f:SV→Hs→(Hs→Prop)→Prop} (hf:PubF f):PubF (q9S f):=by
 intro x hs K fr w h hw
 unfold q9S at h
 split at h
 ·obtain⟨hg,hr,hn,hl⟩:=hs
  simp only at h
  split at h
  ·exact qCE hf _ h hw
  ·exact⟨_,h,hw⟩
 ·exact⟨_,h,hw⟩
def pubS (x:SV) (hs:Hs) (K:Hs→Prop):Prop:=pub1 x hs fun _ hs'=>K hs'
theorem qsK:PubF pubS:=by
 intro x hs K fr w h hw
 obtain⟨_,hs',h1,_,h2⟩:=qcI h hw
 exact⟨hs',h1,h2⟩
def pubT (f:SV→Hs→(Hs→Prop)→Prop) (x:SV) (hs:Hs) (K:Hs→Prop):Prop:=q9S f x hs fun hs'=>pubS x hs' K
theorem qbI {f:SV→Hs→(Hs→Prop)→Prop} (hf:PubF f):PubF (pubT f):=by
 intro x hs K fr w h hw
 obtain⟨hs',h1,h2⟩:=q3L hf _ _ _ _ _ h hw
 exact qsK _ _ _ _ _ h1 h2
def pubD (x:SV) (hs:Hs) (K:Hs→Prop):Prop:=q9S (pubT (pubT pubS)) x hs K
theorem qtK:PubF pubD:=q3L (qbI (qbI qsK))
def pubL (l:List SV) (hs:Hs) (K:Hs→Prop):Prop:=qBP (pubT (pubT pubS)) l hs K
theorem qqR {l:List SV} {hs:Hs} {K:Hs→Prop} {fr:Fr} {w:World} (h:pubL l hs K) (hw:HSim fr hs w):∃ hs',K hs'∧HSim fr hs' w:=qCE (qbI (qbI qsK)) l h hw
/- A symbolic evaluator over the model's code,part 6: stores,new memory,append,calls. -/
open Go.RowKit
def qsB (n:Nat) (k:Nat→Nat→Prop):Prop:=match n with
 | 0=>k 0 1
 | 1=>k 1 2
 | 2=>k 2 3
 | 3=>k 3 4
 | 4=>k 4 5
 | 5=>k 5 6
 | 6=>k 6 7
 | 7=>k 7 8
 | 8=>k 8 9
 | 9=>k 9 10
 | 10=>k 10 11
 | 11=>k 11 12
 | 12=>k 12 13
 | 13=>k 13 14
 | 14=>k 14 15
 | 15=>k 15 16
 | 16=>k 16 17
 | 17=>k 17 18
 | 18=>k 18 19
 | 19=>k 19 20
 | 20=>k 20 21
 | 21=>k 21 22
 | 22=>k 22 23
 | 23=>k 23 24
 | 24=>k 24 25
 | 25=>k 25 26
 | 26=>k 26 27
 | 27=>k 27 28
 | 28=>k 28 29
 | 29=>k 29 30
 | 30=>k 30 31
 | 31=>k 31 32
 | 32=>k 32 33
 | 33=>k 33 34
 | 34=>k 34 35
 | 35=>k 35 36
 | 36=>k 36 37
 | 37=>k 37 38
 | 38=>k 38 39
 | 39=>k 39 40
 | 40=>k 40 41
 | 41=>k 41 42
 | 42=>k 42 43
 | 43=>k 43 44
 | 44=>k 44 45
 | 45=>k 45 46
 | 46=>k 46 47
 | 47=>k 47 48
 | 48=>k 48 49
 | 49=>k 49 50
 | 50=>k 50 51
 | 51=>k 51 52
 | 52=>k 52 53
 | 53=>k 53 54
 | 54=>k 54 55
 | 55=>k 55 56
 | 56=>k 56 57
 | 57=>k 57 58
 | 58=>k 58 59
 | 59=>k 59 60
 | 60=>k 60 61
 | 61=>k 61 62
 | 62=>k 62 63
 | 63=>k 63 64
 | 64=>k 64 65
 | 65=>k 65 66
 | 66=>k 66 67
 | 67=>k 67 68
 | 68=>k 68 69
 | 69=>k 69 70
 | 70=>k 70 71
 | 71=>k 71 72
 | 72=>k 72 73
 | 73=>k 73 74
 | 74=>k 74 75
 | 75=>k 75 76
 | 76=>k 76 77
 | 77=>k 77 78
 | 78=>k 78 79
 | 79=>k 79 80
 | n=>k n (n+1)
theorem qyA {n:Nat} {k:Nat→Nat→Prop} (h:qsB n k):∃ i j,k i j:=by
 unfold qsB at h
 split at h<;>exact⟨_,_,h⟩
def q0P (size:Nat) (x y:SV) (hs:Hs) (K:SV→Hs→Prop):Prop:=match hs with
 | ⟨hg,hr,hn,hl⟩=>match x with
 | .p id b o=>match qwA id hr with
  | some (b',_,cells)=>b=b'∧ocS (qmA y) (match Nat.beq (qmA y).length size with
   | true=>match putL cells o (qmA y) with
    | some cells'=>updK id cells' hr fun rs'=>K (.v undef) ⟨hg,rs',hn,hl⟩
    | none=>False
   | false=>False)
  | none=>False
 | .re id oa n cap j=>match q3A id hr with
  | some (oa',n',cap',ety,sz,cs)=>(oa=oa'∧n=n'∧cap=cap')∧ocS (qmA y) (match Nat.beq (qmA y).length size with
   | true=>(j+size≤cs.length∧0<size)∧qdD (qmA y) fun vs=>updR id (some (.row id oa n cap ety sz (cs.take j++vs++cs.drop (j+size)))) hr fun rs'=>K (.v undef) ⟨hg,rs',hn,hl⟩
   | false=>False)
  | none=>False
 | .v (.pointer (some a))=>∃ (b j:Nat) (cs:List Value) (ty:TypeId),(a=⟨b,j,none⟩∧hl≤b∧hg.g b∧hg.w.heap[b]?=some (.cells ⟨cs⟩ ty (0,0))∧j+size≤cs.length)∧ocS (qmA y) (match Nat.beq (qmA y).length size with
   | true=>qdD (qmA y) fun vs=>∀ g',Upd hg b (.cells ⟨cs.take j++vs++cs.drop (j+size)⟩ ty (0,0)) g'→K (.v undef) ⟨g',hr,hn,hl⟩
   | false=>False)
 | _=>False
theorem qbR (size:Nat) (x y:SV) (hs:Hs) (K:SV→Hs→Prop):q0P size  x y  hs  K =(match x with
 | .p id b o=>match qwA id hs.rs with
  | some (b',_,cells)=>b=b'∧ocS (qmA y) (match Nat.beq (qmA y).length size with
   | true=>match putL cells o (qmA y) with
    | some cells'=>updK id cells' hs.rs fun rs'=>K (.v undef) ⟨hs.g,rs',hs.nx,hs.lo⟩
    | none=>False
   | false=>False)
  | none=>False
 | .re id oa n cap j=>match q3A id hs.rs with
  | some (oa',n',cap',ety,sz,cs)=>(oa=oa'∧n=n'∧cap=cap')∧ocS (qmA y) (match Nat.beq (qmA y).length size with
   | true=>(j+size≤cs.length∧0<size)∧qdD (qmA y) fun vs=>updR id (some (.row id oa n cap ety sz (cs.take j++vs++cs.drop (j+size)))) hs.rs fun rs'=>K (.v undef) ⟨hs.g,rs',hs.nx,hs.lo⟩
   | false=>False)
  | none=>False
 | .v (.pointer (some a))=>∃ (b j:Nat) (cs:List Value) (ty:TypeId),(a=⟨b,j,none⟩∧hs.lo≤b∧hs.g.g b∧hs.g.w.heap[b]?=some (.cells ⟨cs⟩ ty (0,0))∧j+size≤cs.length)∧ocS (qmA y) (match Nat.beq (qmA y).length size with
   | true=>qdD (qmA y) fun vs=>∀ g',Upd hs.g b (.cells ⟨cs.take j++vs++cs.drop (j+size)⟩ ty (0,0)) g'→K (.v undef) ⟨g',hs.rs,hs.nx,hs.lo⟩
   | false=>False)
 | _=>False):=by
 cases hs;rfl
def qPM (ty:TypeId) (zero:List SV) (hs:Hs) (K:SV→Hs→Prop):Prop:=match hs with
 | ⟨hg,hr,hn,hl⟩=>ocS zero (qsB hn fun i j=>∀ b,K (.p i b 0) ⟨hg,.blk i b ty zero :: hr,j,hl⟩)
theorem qqO (ty:TypeId) (zero:List SV) (hs:Hs) (K:SV→Hs→Prop):qPM ty  zero  hs  K =(ocS zero (qsB hs.nx fun i j=>∀ b,K (.p i b 0) ⟨hs.g,.blk i b ty zero :: hs.rs,j,hs.lo⟩)):=by
 cases hs;rfl
def boxS (ty:TypeId) (x:SV) (hs:Hs) (K:SV→Hs→Prop):Prop:=match hs with
 | ⟨hg,hr,hn,hl⟩=>qQT (qmA x) fun cs=>ocS cs (qsB hn fun i j=>∀ b,K (.p i b 0) ⟨hg,.blk i b ty cs :: hr,j,hl⟩)
theorem qsU (ty:TypeId) (x:SV) (hs:Hs) (K:SV→Hs→Prop):boxS ty  x  hs  K =(qQT (qmA x) fun cs=>ocS cs (qsB hs.nx fun i j=>∀ b,K (.p i b 0) ⟨hs.g,.blk i b ty cs :: hs.rs,j,hs.lo⟩)):=by
 cases hs;rfl
def bslS (ety:TypeId) (len:Nat) (cells:List SV) (hs:Hs) (K:SV→Hs→Prop):Prop:=match hs with
 | ⟨hg,hr,hn,hl⟩=>ocS cells (qsB hn fun i j=>∀ b,K (.sl i b 0 len len) ⟨hg,.blk i b ety cells :: hr,j,hl⟩)
theorem qrU (ety:TypeId) (len:Nat) (cells:List SV) (hs:Hs) (K:SV→Hs→Prop):bslS ety  len  cells  hs  K =(ocS cells (qsB hs.nx fun i j=>∀ b,K (.sl i b 0 len len) ⟨hs.g,.blk i b ety cells :: hs.rs,j,hs.lo⟩)):=by
 cases hs;rfl
def mslS (ety:TypeId) (size bytes:Nat) (zero:List Value) (l c:SV) (hs:Hs) (K:SV→Hs→Prop):Prop:=match hs with
 | ⟨hg,hr,hn,hl⟩=>match l,c with
 | .v (.int .i64 l),.v (.int .i64 c)=>(0≤l∧l≤c∧bytes*c≤281474976710656∧c≤9223372036854775807) ∧
  qsB hn fun i j=>∀ b,K (.row i (some ⟨b,0,none⟩) l.toNat c.toNat) ⟨hg,.row i (some ⟨b,0,none⟩) l.toNat c.toNat ety size ((List.replicate l.toNat zero).flatten) :: hr,j,hl⟩
 | _,_=>False
theorem qhU (ety:TypeId) (size bytes:Nat) (zero:List Value) (l c:SV) (hs:Hs) (K:SV→Hs→Prop):mslS ety  size bytes  zero  l c  hs  K =(match l,c with
 | .v (.int .i64 l),.v (.int .i64 c)=>(0≤l∧l≤c∧bytes*c≤281474976710656∧c≤9223372036854775807) ∧
  qsB hs.nx fun i j=>∀ b,K (.row i (some ⟨b,0,none⟩) l.toNat c.toNat) ⟨hs.g,.row i (some ⟨b,0,none⟩) l.toNat c.toNat ety size ((List.replicate l.toNat zero).flatten) :: hs.rs,j,hs.lo⟩
 | _,_=>False):=by
 cases hs;rfl
def srcS (size:Nat) (x:SV) (hs:Hs) (K:Nat→List Value→Prop):Prop:=match x with
 | .sl id b o m _=>match qwA id hs.rs with
  | some (b',_,cells)=>(b=b'∧o=0)∧match Nat.beq cells.length (m*size) with
   | true=>qdD cells fun vs=>K m vs
   | false=>False
  | none=>False
 | .v (.slice oa m cap)=>∃ vs,(RdSl hs.g size (.slice oa m cap) m vs∧∀ u∈vs,u.oneCell'=true)∧K m vs
 | _=>False
def qaQ (id:Nat) (new:Res):List Res→(List Res→Prop)→Prop
 | [],_=>False
 | .blk j b ty cells :: r,k=>match Nat.beq j id with
  | true=>k (new :: r)
  | false=>qaQ id new r fun r'=>k (.blk j b ty cells :: r')
 | x :: r,k=>qaQ id new r fun r'=>k (x :: r')
def qxU (ety:TypeId) (size:Nat) (s:SV) (hs:Hs) (K:SV→Hs→Prop):Prop:=match hs with
 | ⟨hg,hr,hn,hl⟩=>match s with
 | .sl id b o n cap=>match qwA id hr with
  | some (b',ty',cells)=>(b=b'∧o=0∧n=cap∧ty'=ety∧cap≤maxLen)∧match Nat.beq cells.length (n*size) with
   | true=>qdD cells fun cs=>qaQ id (.row id (some ⟨b,0,none⟩) n cap ety size cs) hr fun rs1=>K (.row id (some ⟨b,0,none⟩) n cap) ⟨hg,rs1,hn,hl⟩
   | false=>False
  | none=>False
 | s=>K s hs
theorem qiT (ety:TypeId) (size:Nat) (s:SV) (hs:Hs) (K:SV→Hs→Prop):qxU ety  size  s  hs  K =(match s with
 | .sl id b o n cap=>match qwA id hs.rs with
  | some (b',ty',cells)=>(b=b'∧o=0∧n=cap∧ty'=ety∧cap≤maxLen)∧match Nat.beq cells.length (n*size) with
   | true=>qdD cells fun cs=>qaQ id (.row id (some ⟨b,0,none⟩) n cap ety size cs) hs.rs fun rs1=>K (.row id (some ⟨b,0,none⟩) n cap) ⟨hs.g,rs1,hs.nx,hs.lo⟩
   | false=>False
  | none=>False
 | s=>K s hs):=by
 cases hs;rfl
def qyU (ety:TypeId) (size bytes:Nat) (s x:SV) (hs:Hs) (K:SV→Hs→Prop):Prop:=match hs with
 | ⟨hg,hr,hn,hl⟩=>srcS size x hs fun m vs=>match s with
 | .v (.slice none 0 0)=>(m≤maxLen∧m*bytes≤140737488355328)∧qsB hn fun i j=>∀ oa cap,K (.row i oa m cap) ⟨hg,.row i oa m cap ety size vs :: hr,j,hl⟩
 | .row id oa n cap=>match q3A id hr with
  | some (oa',n',cap',ety',size',cs)=>(oa=oa'∧n=n'∧cap=cap'∧ety'=ety∧size'=size)∧(n+m≤maxLen∧(n+m)*bytes≤140737488355328) ∧
   qsB hn fun i j=>∀ oa2 cap2,updR id (some (.row i oa2 (n+m) cap2 ety size (cs++vs))) hr fun rs'=>K (.row i oa2 (n+m) cap2) ⟨hg,rs',j,hl⟩
  | none=>False
 | .v (.slice oa n cap)=>(∃ cs,(RdSl hg size (.slice oa n cap) n cs∧∀ u∈cs,u.oneCell'=true)∧(m=0→K (.v (.slice oa n cap)) hs) ∧
  (0<m→(cap<n+m∧n+m≤maxLen∧(n+m)*bytes≤140737488355328)∧qsB hn fun i j=>∀ oa2 cap2,K (.row i oa2 (n+m) cap2) ⟨hg,.row i oa2 (n+m) cap2 ety size (cs++vs) :: hr,j,hl⟩)) ∨
  ∃ (b:Nat) (cs rest:List Value),(oa=some ⟨b,0,none⟩∧hl≤b∧hg.g b∧hg.w.heap[b]?=some (.cells ⟨cs++rest⟩ ety (0,0))∧cs.length=n*size∧(∀ u∈cs,u.oneCell'=true)∧n≤cap∧cap≤maxLen∧(cs++rest).length=cap*size ∧
   n+m≤maxLen∧(n+m)*bytes≤140737488355328)∧∀ g',Less hg b g'→qsB hn fun i j=>∀ oa2 cap2,K (.row i oa2 (n+m) cap2) ⟨g',.row i oa2 (n+m) cap2 ety size (cs++vs) :: hr,j,hl⟩
 | _=>False
theorem qjT (ety:TypeId) (size bytes:Nat) (s x:SV) (hs:Hs) (K:SV→Hs→Prop):qyU ety  size bytes  s x  hs  K =(srcS size x hs fun m vs=>match s with
 | .v (.slice none 0 0)=>(m≤maxLen∧m*bytes≤140737488355328)∧qsB hs.nx fun i j=>∀ oa cap,K (.row i oa m cap) ⟨hs.g,.row i oa m cap ety size vs :: hs.rs,j,hs.lo⟩
 | .row id oa n cap=>match q3A id hs.rs with
  | some (oa',n',cap',ety',size',cs)=>(oa=oa'∧n=n'∧cap=cap'∧ety'=ety∧size'=size)∧(n+m≤maxLen∧(n+m)*bytes≤140737488355328) ∧
   qsB hs.nx fun i j=>∀ oa2 cap2,updR id (some (.row i oa2 (n+m) cap2 ety size (cs++vs))) hs.rs fun rs'=>K (.row i oa2 (n+m) cap2) ⟨hs.g,rs',j,hs.lo⟩
  | none=>False
 | .v (.slice oa n cap)=>(∃ cs,(RdSl hs.g size (.slice oa n cap) n cs∧∀ u∈cs,u.oneCell'=true)∧(m=0→K (.v (.slice oa n cap)) hs) ∧
  (0<m→(cap<n+m∧n+m≤maxLen∧(n+m)*bytes≤140737488355328)∧qsB hs.nx fun i j=>∀ oa2 cap2,K (.row i oa2 (n+m) cap2) ⟨hs.g,.row i oa2 (n+m) cap2 ety size (cs++vs) :: hs.rs,j,hs.lo⟩)) ∨
  ∃ (b:Nat) (cs rest:List Value),(oa=some ⟨b,0,none⟩∧hs.lo≤b∧hs.g.g b∧hs.g.w.heap[b]?=some (.cells ⟨cs++rest⟩ ety (0,0))∧cs.length=n*size∧(∀ u∈cs,u.oneCell'=true)∧n≤cap∧cap≤maxLen∧(cs++rest).length=cap*size ∧
   n+m≤maxLen∧(n+m)*bytes≤140737488355328)∧∀ g',Less hs.g b g'→qsB hs.nx fun i j=>∀ oa2 cap2,K (.row i oa2 (n+m) cap2) ⟨g',.row i oa2 (n+m) cap2 ety size (cs++vs) :: hs.rs,j,hs.lo⟩
 | _=>False):=by
 cases hs;rfl
def appS (ety:TypeId) (size bytes:Nat) (s x:SV) (hs:Hs) (K:SV→Hs→Prop):Prop:=pubD x hs fun hs=>pubD s hs fun hs=>qxU ety size s hs fun s' hs'=>qyU ety size bytes s' x hs' K
def cpyS (d s:SV) (hs:Hs) (K:SV→Hs→Prop):Prop:=srcS 1 s hs fun m vs=>match d with
 | .row id (some a0) n cap=>match q3A id hs.rs with
  | some (oa',n',cap',ety,sz,cs)=>(oa'=some a0∧n=n'∧cap=cap'∧sz=1∧0<m∧0<n) ∧
   updR id (some (.row id (some a0) n cap ety 1 (vs.take (min m n)++cs.drop (min m n)))) hs.rs fun rs'=>K (.v (.int .i64 ((min m n:Nat):Int))) ⟨hs.g,rs',hs.nx,hs.lo⟩
  | none=>False
 | .v (.slice (some a) n _)=>∃ (b:Nat) (cs:List Value) (ty:TypeId),(a=⟨b,0,none⟩∧hs.lo≤b∧hs.g.g b∧hs.g.w.heap[b]?=some (.cells ⟨cs⟩ ty (0,0))∧min m n≤cs.length∧0<m) ∧
   ∀ g',Upd hs.g b (.cells ⟨vs.take (min m n)++cs.drop (min m n)⟩ ty (0,0)) g'→K (.v (.int .i64 ((min m n:Nat):Int))) ⟨g',hs.rs,hs.nx,hs.lo⟩
 | _=>False
def stoS (size:Nat) (x y:SV) (hs:Hs) (K:SV→Hs→Prop):Prop:=match x with
 | .p id b o=>q0P size (.p id b o) y hs K
 | x=>pubL (qmA y) hs fun hs=>q0P size x y hs K
def qjO (P:Program) (H:qIA) (Y:qsA) (f:SV) (args:List SV) (hs:Hs) (K:SV→Hs→Prop):Prop:=match f with
 | .fn (.func k) first caps=>FnOk P k∧H Y k (first++args++caps) hs K
 | .v (.func (.func k) ⟨first⟩ ⟨caps⟩)=>FnOk P k∧match first,caps with
  | [],[]=>H Y k args hs K
  | first,caps=>∃ first' caps',(qAA first'=first∧qAA caps'=caps)∧H Y k (first'++args++caps') hs K
 | .yl id l=>match qpI id hs.rs with
  | some (l',_,_)=>l=l'∧Y id args hs K
  | none=>False
 | _=>False
def mkmS (ik:IntKind) (hs:Hs) (K:SV→Hs→Prop):Prop:=match hs with
 | ⟨hg,hr,hn,hl⟩=>qsB hn fun i j=>∀ r,K (.mp i r) ⟨hg,.mp i r ik [] :: hr,j,hl⟩
def updM (id:Nat) (new:List (Int×Value)):List Res→(List Res→Prop)→Prop
 | [],_=>False
 | .mp j a ik es :: r,k=>match Nat.beq j id with
  | true=>k (.mp j a ik new :: r)
  | false=>updM id new r fun r'=>k (.mp j a ik es :: r')
 | x :: r,k=>updM id new r fun r'=>k (x :: r')
theorem qxD {id:Nat} {new:List (Int×Value)}:∀ {rs:List Res} {k:List Res→Prop} {r:Nat} {ik:IntKind} {es:List (Int×Value)},updM id new rs k→qoD id rs=some (r,ik,es) →
  ∃ l1 l2,rs=l1++.mp id r ik es :: l2∧k (l1++.mp id r ik new :: l2)
 | [],k,r,ik,es,h,hf=>h.elim
 | .mp j a ik' es' :: rs,k,r,ik,es,h,hf=>by
  simp only [updM] at h
  simp only [qoD] at hf
  cases hj:Nat.beq j id with
  | true =>
   rw [hj] at h hf
   simp at hf
   obtain⟨rfl,rfl,rfl⟩:=hf
   obtain rfl:=Nat.eq_of_beq_eq_true hj
   exact⟨[],rs,rfl,h⟩
  | false =>
   rw [hj] at h hf
   obtain⟨l1,l2,e,hk⟩:=qxD h hf
   exact⟨_ :: l1,l2,by rw [e];rfl,hk⟩
 | .blk a1 a2 a3 a4 :: rs,k,r,ik,es,h,hf=>by
  obtain⟨l1,l2,e,hk⟩:=qxD (k:=fun r'=>k (.blk a1 a2 a3 a4 :: r')) h hf
  exact⟨_ :: l1,l2,by rw [e];rfl,hk⟩
 | .row a1 a2 a3 a4 a5 a6 a7 :: rs,k,r,ik,es,h,hf=>by
  obtain⟨l1,l2,e,hk⟩:=qxD (k:=fun r'=>k (.row a1 a2 a3 a4 a5 a6 a7 :: r')) h hf
  exact⟨_ :: l1,l2,by rw [e];rfl,hk⟩
 | .lp a1 a2 a3 a4 :: rs,k,r,ik,es,h,hf=>by
  obtain⟨l1,l2,e,hk⟩:=qxD (k:=fun r'=>k (.lp a1 a2 a3 a4 :: r')) h hf
  exact⟨_ :: l1,l2,by rw [e];rfl,hk⟩
 | .mk a1 :: rs,k,r,ik,es,h,hf=>by
  obtain⟨l1,l2,e,hk⟩:=qxD (k:=fun r'=>k (.mk a1 :: r')) h hf
  exact⟨_ :: l1,l2,by rw [e];rfl,hk⟩
def mupS (ik:IntKind) (x k v:SV) (hs:Hs) (K:SV→Hs→Prop):Prop:=match hs with
 | ⟨hg,hr,hn,hl⟩=>match x with
  | .mp id r=>match k with
   | .v (.int ik' n)=>match qoD id hr with
    | some (r',ik2,es)=>(r=r'∧kEq ik' ik=true∧kEq ik2 ik=true)∧qcS v fun v=>updM id (mSet n v es) hr fun rs'=>K (.v undef) ⟨hg,rs',hn,hl⟩
    | none=>False
   | _=>False
  | _=>False
def chS (P:Program) (H:qIA) (Y:qsA) (o:SOp) (sl:Sl) (hs:Hs) (K:SV→Hs→Prop):Prop:=match o with
 | .store size x y=>x.k hs.rs sl fun x=>y.k hs.rs sl fun y=>stoS size x y hs K
 | .alloc ty zero=>qPM ty zero hs K
 | .box ty x=>x.k hs.rs sl fun x=>boxS ty x hs K
 | .bsl ety _ len zero parts=>qWS hs.rs sl zero parts fun cells=>bslS ety len cells hs K
 | .app ety size bytes s x=>s.k hs.rs sl fun s=>x.k hs.rs sl fun x=>appS ety size bytes s x hs K
 | .msl ety size bytes zero l c=>l.k hs.rs sl fun l=>c.k hs.rs sl fun c=>mslS ety size bytes zero l c hs K
 | .mkm ik=>mkmS ik hs K
 | .cpy d s=>d.k hs.rs sl fun d=>s.k hs.rs sl fun s=>cpyS d s hs K
 | .mup ik x k v=>x.k hs.rs sl fun x=>k.k hs.rs sl fun k=>v.k hs.rs sl fun v=>mupS ik x k v hs K
 | .call f args=>Opd.ks hs.rs sl args fun args=>H Y f args hs K
 | .callw f args=>Opd.ks hs.rs sl args fun args=>H Y f args hs K
 | .callv f args=>f.k hs.rs sl fun f=>Opd.ks hs.rs sl args fun args=>qjO P H Y f args hs K
 | _=>False
theorem quC {P:Program} {b:Nat} {ty:TypeId}:∀ (vs:List Value) (i:Nat) (o:Nat) (w:World) (cs:List Value),w.heap[b]?=some (.cells ⟨cs⟩ ty (0,0))→o+i+vs.length≤cs.length→(∀ v∈vs,v.oneCell'=true) →
  ∃ w',(storeCells ⟨b,o,none⟩ vs i).run P w=.ok () w'∧w'.heap[b]?=some (.cells ⟨cs.take (o+i)++vs++cs.drop (o+i+vs.length)⟩ ty (0,0)) ∧
   w'.heap.size=w.heap.size∧(∀ k,k≠b→w'.heap[k]?=w.heap[k]?)∧w'.os=w.os∧w'.tape=w.tape∧w'.output=w.output
 | [],i,o,w,cs,hb,hl,h1=>⟨w,by simp [storeCells],by simpa using hb,rfl,fun _ _=>rfl,rfl,rfl,rfl⟩
 | v :: vs,i,o,w,cs,hb,hl,h1=>by
  have hlt:o+i<cs.length:=by simp at hl;omega
  have hcell:w.cell? ⟨b,o+i,none⟩=some cs[o+i]:=by rw [qiB hb];simp [hlt]
  have hfr:w.frozen? ⟨b,o+i,none⟩=false:=by simp [World.frozen?,hb]
  have hset:(w.setCell ⟨b,o+i,none⟩ v).heap[b]?=some (.cells ⟨cs.set (o+i) v⟩ ty (0,0)):=by
   rw [heap_setCell_same w b (o+i) ⟨cs⟩ ty v hb];simp
  obtain⟨w',hr,hb',hs',ho',h4,h5,h6⟩:=quC (P:=P) vs (i+1) o (w.setCell ⟨b,o+i,none⟩ v) (cs.set (o+i) v) hset (by simp at hl ⊢;omega) (fun u hu=>h1 u (List.mem_cons_of_mem _ hu))
  refine⟨w',?_,?_,?_,?_,?_,?_,?_⟩
  ·have hst:(store ⟨b,o+i,none⟩ v).run P w=.ok () (w.setCell ⟨b,o+i,none⟩ v):=by
    rw [run_store P w _ v _ (h1 v (List.mem_cons_self ..)),hcell]
    simp [hfr]
   simp only [storeCells,qaB,Sem.run_bind,hst,Result.andThen];exact hr
  ·rw [hb']
   congr 2
   simp only [List.take_set,List.length_cons,List.drop_set_of_lt (show o+i<o+(i+1)+vs.length by omega),Array.mk.injEq]
   rw [← Nat.add_assoc o i 1,List.take_succ_eq_append_getElem hlt,List.set_append_right _ _ (by simp;omega)]
   simp [List.length_take,Nat.min_eq_left (Nat.le_of_lt hlt),Nat.add_assoc,Nat.add_comm 1]
  ·rw [hs'];simp [World.setCell]
  ·intro k hk;rw [ho' k hk];exact heap_setCell_other w _ k v hk
  ·rw [h4];rfl
  ·rw [h5];rfl
  ·rw [h6];rfl
theorem qvO {α:Type} (l ys:List α) (j m:Nat) (h:j+ys.length≤m) (hm:m≤l.length) :
  (l.take j++ys++l.drop (j+ys.length)).take m=(l.take m).take j++ys++(l.take m).drop (j+ys.length):=by
 have h1:(l.take j).length=j:=by simp;omega
 have h2:(l.take j++ys).length=j+ys.length:=by simp;omega
 rw [List.take_append,List.take_of_length_le (by omega),h2,List.take_take,Nat.min_eq_left (by omega),List.drop_take]
theorem qkF {P:Program} {t:TypeId} {size:Nat} (hs:qPC P t=some size) {w w':World} {a:Addr} {v:Value} (hl:v.cells.size=size) (h:(storeCells a v.cells.toList).run P w=.ok () w') :
  (Instr.storeAt t (.pointer (some a)) v).run P w=.ok () w':=by
 simp [Instr.storeAt,Instr.sureAddr,storeVar,q0A hs,hl,h]
theorem qnK {size:Nat} {x y:SV} {hs:Hs} {K:SV→Hs→Prop} (h:q0P size x y hs K) {P:Program} {t:TypeId} (hsz:qPC P t=some size) {fr:Fr} {w:World} (hw:HSim fr hs w) :
  ∃ w' hs',(Instr.storeAt t (conc x) (conc y)).run P w=.ok () w'∧HSim fr hs' w'∧K (.v undef) hs':=by
 rw [qbR] at h
 split at h
 ·rename_i id b o
  split at h
  ·rename_i b' ty cells hf
   obtain⟨rfl,h⟩:=h
   obtain⟨h,hoc⟩:=qlD h
   split at h
   ·rename_i hlen
    have hlen:=Nat.eq_of_beq_eq_true hlen
    split at h
    ·rename_i cells' hput
     obtain⟨h1,h2⟩:=qaI hput
     obtain⟨l1,l2,hrs,hk⟩:=qyD h hf
     obtain⟨hb,hb1⟩:=hw.blk_cell hf
     have hy:∀ v∈(conc y).cells.toList,v.oneCell'=true:=fun v hv=>by
      rw [← qDB,qQA] at hv
      obtain⟨c,hc,rfl⟩:=List.mem_map.1 hv
      exact hoc c hc
     have hly:(conc y).cells.size=size:=by rw [← qpB];exact hlen
     obtain⟨w',hr,hb',hs',ho',h4,h5,h6⟩:=quC (P:=P) (conc y).cells.toList 0 o w (qAA cells) hb (by simp [qWA,hly];omega) hy
     refine⟨w',_,qkF hsz hly hr,?_,hk⟩
     refine hw.upd hrs h4 h5 h6 (by omega) (fun k _ hkb=>ho' k (by simpa [Res.bk] using hkb)) ⟨?_,fun c hc=>?_⟩ (fun b hb=>.inl (by simpa [Res.bk] using hb)) (by simp [Res.bk])
     ·rw [hb',h2]
      congr 2
      simp [qBG,qLG,qMG,qDB,qpB]
     ·rw [h2] at hc
      rcases List.mem_append.1 hc with hc|hc
      ·rcases List.mem_append.1 hc with hc|hc
       ·exact hb1 c (List.mem_of_mem_take hc)
       ·exact hoc c hc
      ·exact hb1 c (List.mem_of_mem_drop hc)
    ·exact h.elim
   ·exact h.elim
  ·exact h.elim
 ·rename_i id oa n cap j
  split at h
  ·rename_i oa' n' cap' ety sz cs hf
   obtain⟨⟨rfl,rfl,rfl⟩,h⟩:=h
   obtain⟨h,hoc⟩:=qlD h
   split at h
   ·rename_i hlen
    have hlen:=Nat.eq_of_beq_eq_true hlen
    obtain⟨⟨hle,hpos⟩,h⟩:=h
    have h:=qRB _ h
    obtain⟨l1,l2,hrs,hk⟩:=qSC h hf
    obtain⟨⟨g1,g2⟩,hb1⟩:=hw.row_own hf
    have hy:∀ v∈(conc y).cells.toList,v.oneCell'=true:=fun v hv=>by
     rw [← qDB,qQA] at hv
     obtain⟨c,hc,rfl⟩:=List.mem_map.1 hv
     exact hoc c hc
    have hly:(conc y).cells.size=size:=by rw [← qpB];exact hlen
    rcases g2 with ⟨he,rfl⟩|⟨g,cap',cur,he,hg0,hh,hnc,hcm,hcs,htk⟩
    ·simp at g1;subst g1;simp at hle;omega
    ·simp only [Value.slice.injEq] at he
     obtain⟨rfl,_,rfl⟩:=he
     have hcl:cs.length≤cur.size:=by
      rw [← htk,List.length_take];simp;omega
     obtain⟨w',hr,hb',hs',ho',h4,h5,h6⟩:=quC (P:=P) (conc y).cells.toList 0 j w cur.toList hh (by simp [hly];omega) hy
     refine⟨w',_,?_,?_,hk⟩
     ·simp only [conc,Option.map_some,qaB,Nat.zero_add]
      exact qkF hsz hly hr
     ·have hcells:(qAA (qmA y)).length=size:=by rw [qWA];exact hlen
      have hcsl:cs.length=n*sz:=g1
      refine hw.upd (r1:=.row id (some ⟨g,0,none⟩) n cap ety sz (cs.take j++qAA (qmA y)++cs.drop (j+size))) hrs h4 h5 h6 (by omega) (fun k _ hkb=>ho' k (by simpa [Res.bk] using hkb)) ⟨⟨?_,.inr ⟨g,cap,_,rfl,hg0,hb',hnc,hcm,?_,?_⟩⟩,fun c hc=>?_⟩ (fun b hb=>.inl (by simpa [Res.bk] using hb)) (by simp [Res.bk])
      ·simp [hcells];omega
      ·simp [hly];rw [← hcs];omega
      ·rw [← htk,qDB]
       have hln:(conc y).cells.toList.length=size:=by simpa using hly
       have:=qvO cur.toList (conc y).cells.toList j (n*sz) (by rw [hln,← hcsl];exact hle) (by have:=Nat.mul_le_mul_right sz hnc;simp;omega)
       rw [hln] at this
       simpa [hln] using this
      ·rcases List.mem_append.1 hc with hc|hc
       ·rcases List.mem_append.1 hc with hc|hc
        ·exact hb1 c (List.mem_of_mem_take hc)
        ·rw [qQA] at hc
         obtain⟨c',hc',rfl⟩:=List.mem_map.1 hc
         exact hoc c' hc'
       ·exact hb1 c (List.mem_of_mem_drop hc)
   ·exact h.elim
  ·exact h.elim
 ·rename_i a
  obtain⟨b,j,cs,ty,⟨rfl,hlo,hg,hb,hle⟩,h⟩:=h
  obtain⟨h,hoc⟩:=qlD h
  split at h
  ·rename_i hlen
   have hlen:=Nat.eq_of_beq_eq_true hlen
   have h:=qRB _ h
   have hy:∀ v∈(conc y).cells.toList,v.oneCell'=true:=fun v hv=>by
    rw [← qDB,qQA] at hv
    obtain⟨c,hc,rfl⟩:=List.mem_map.1 hv
    exact hoc c hc
   have hly:(conc y).cells.size=size:=by rw [← qpB];exact hlen
   obtain⟨w',hr,hb',hs',ho',h4,h5,h6⟩:=quC (P:=P) (conc y).cells.toList 0 j w cs ((hw.good.2 b hg).trans hb) (by simp [hly];omega) hy
   obtain⟨g',hu,hsim⟩:=hw.poke (w':=w') hlo hg h4 h5 h6 hs' hb' ho'
   refine⟨w',_,qkF hsz hly hr,hsim,h g' ?_⟩
   simpa [qDB,hly] using hu
  ·exact h.elim
 ·exact h.elim
theorem qIS {fr:Fr} {hs:Hs} {w:World} (hw:HSim fr hs w) (id nx:Nat) (ty:TypeId) (cells:List SV) (h1:∀ c∈cells,(conc c).oneCell'=true) :
  HSim fr ⟨hs.g,.blk id w.heap.size ty cells :: hs.rs,nx,hs.lo⟩ (w.alloc (.cells (qAA cells).toArray ty)) :=
 hw.newRes (Below.of_alloc w _) (r:=.blk id w.heap.size ty cells) ⟨World.alloc_heap_new w _,h1⟩ (fun b hb=>by simp [Res.bk] at hb;omega) (by simp [Res.bk])
theorem qUL {ty:TypeId} {z:List Value} {hs:Hs} {K:SV→Hs→Prop} (h:qPM ty (z.map SV.v) hs K) {P:Program} (hz:q7I P ty=some z) {fr:Fr} {w:World} (hw:HSim fr hs w) :
  ∃ w' s hs',(Instr.alloc ty true (.tuple #[])).run P w=.ok (conc s) w'∧Below w.heap.size w w'∧HSim fr hs' w'∧K s hs':=by
 rw [qqO] at h
 obtain⟨h,h1⟩:=qlD h
 obtain⟨i,j,h⟩:=qyA h
 obtain⟨v,hv,hvz,_⟩:=qKD hz w
 refine⟨_,_,_,?_,Below.of_alloc w _,qIS hw i j ty _ h1,h w.heap.size⟩
 have:(qAA (z.map SV.v)).toArray=v.cells:=by apply Array.ext';simp [qQA,Function.comp_def,conc,hvz]
 rw [this]
 simp [Instr.alloc,hv,newVar,newRow,conc]
theorem qmO {ty:TypeId} {x:SV} {hs:Hs} {K:SV→Hs→Prop} (h:boxS ty x hs K) {P:Program} {fr:Fr} {w:World} (hw:HSim fr hs w) :
  ∃ w' s hs',(Instr.box ty (conc x)).run P w=.ok (conc s) w'∧Below w.heap.size w w'∧HSim fr hs' w'∧K s hs':=by
 rw [qsU] at h
 obtain⟨h,h1⟩:=qlD (q9L _ h)
 obtain⟨i,j,h⟩:=qyA h
 refine⟨_,_,_,?_,Below.of_alloc w _,qIS hw i j ty _ h1,h w.heap.size⟩
 have:(qAA (qmA x)).toArray=(conc x).cells:=by apply Array.ext';simp [qDB]
 rw [this]
 simp [Instr.box,newVar,newRow,conc]
theorem qXI (z:List Value) (n:Nat):((Array.range (n*z.length)).map (fun i=>z.toArray[i % z.toArray.size]!)).toList=(List.replicate n z).flatten:=by
 apply List.ext_getElem?
 intro i
 by_cases hz:z.length=0
 ·have:z=[]:=List.eq_nil_of_length_eq_zero hz
  subst this
  simp
 ·have hpos:0<z.length:=Nat.pos_of_ne_zero hz
  have key:∀ (n i:Nat),((List.replicate n z).flatten)[i]?=if i<n*z.length then z[i % z.length]? else none:=by
   intro n
   induction n with
   | zero=>intro i;simp
   | succ n ih =>
    intro i
    rw [List.replicate_succ,List.flatten_cons,List.getElem?_append]
    split
    ·rename_i h
     rw [if_pos (by rw [Nat.succ_mul];omega),Nat.mod_eq_of_lt h]
    ·rename_i h
     rw [ih,Nat.succ_mul]
     by_cases h2:i<n*z.length+z.length
     ·rw [if_pos h2,if_pos (by omega),show(i-z.length) % z.length=i % z.length from(Nat.mod_eq_sub_mod (by omega)).symm]
     ·rw [if_neg h2,if_neg (by omega)]
  rw [key]
  simp only [Array.toList_map,Array.toList_range,List.getElem?_map]
  split
  ·rename_i h
   rw [List.getElem?_range h]
   have hm:=Nat.mod_lt i hpos
   simp [hm]
  ·rename_i h
   rw [List.getElem?_eq_none (by simpa using h)];rfl
theorem qlO {P:Program} {t e:TypeId} {size len:Nat} {z:List Value} {cells:List SV} {hs:Hs} {K:SV→Hs→Prop} (h:bslS e len cells hs K) (hu:P.underlying t=some (.slice e)) (hsz:qPC P e=some size)
  (hz:q7I P e=some z) (hzl:z.length=size) (hpos:0<size) (hle:len*size≤2 ^ 24) {parts:Array (Nat×Value)}
  (hf:Instr.fill (fun i=>some (i*size,size)) ((List.replicate len z).flatten).toArray parts.toList=some (qAA cells).toArray) {fr:Fr} {w:World} (hw:HSim fr hs w) :
  ∃ w' s hs',(Instr.buildSlice t len parts).run P w=.ok (conc s) w'∧Below w.heap.size w w'∧HSim fr hs' w'∧K s hs':=by
 rw [qrU] at h
 obtain⟨h,h1⟩:=qlD h
 obtain⟨i,j,h⟩:=qyA h
 obtain⟨v,hv,hvz,_⟩:=qKD hz w
 refine⟨_,_,_,?_,Below.of_alloc w _,qIS hw i j e _ h1,h w.heap.size⟩
 have hva:v.cells=z.toArray:=by apply Array.ext';simpa using hvz
 have hrow:(Array.range (len*size)).map (fun i=>v.cells[i % v.cells.size]!)=((List.replicate len z).flatten).toArray:=by
  apply Array.ext'
  rw [hva,← hzl,qXI]
 have hlen0:len*size=0→len=0:=fun h0=>by
  rcases Nat.mul_eq_zero.1 h0 with h0|h0
  ·exact h0
  ·omega
 by_cases h0:len*size=0
 ·have:=hlen0 h0
  subst this
  simp at hf
  simp [Instr.buildSlice,run_underlying hu,q0A hsz,newRow,conc,Array.range_zero',hf]
 ·simp [Instr.buildSlice,run_underlying hu,q0A hsz,newRow,conc,hv,hrow,hf,Nat.not_lt.2 hle]
  exact fun h=>absurd h h0
theorem qLO {P:Program} {t e:TypeId} {i:TypeInfo} {z:List Value} {l c:SV} {hs:Hs} {K:SV→Hs→Prop} (h:mslS e i.size i.bytes z l c hs K) (hu:P.underlying t=some (.slice e)) (hi:P.info? e=some i)
  (hz:q7I P e=some z) (hzl:z.length=i.size) {fr:Fr} {w:World} (hw:HSim fr hs w) :
  ∃ w' s hs',(Instr.makeSlice t (conc l) (conc c)).run P w=.ok (conc s) w'∧Below w.heap.size w w'∧HSim fr hs' w'∧K s hs':=by
 rw [qhU] at h
 split at h
 ·rename_i l c
  obtain⟨⟨h0,h1,h2,h3⟩,h⟩:=h
  obtain⟨id1,id2,h⟩:=qyA h
  obtain⟨v,hv,hvz,hone⟩:=qKD hz w
  have hva:v.cells=z.toArray:=by apply Array.ext';simpa using hvz
  have hzero:i.zero=some v:=by
   have:=hv
   simp only [zeroValue,typeInfo,Sem.run_bind,run_program,hi,Result.andThen,Sem.run_pure] at this
   cases hh:i.zero with
   | none=>simp [hh] at this
   | some v'=>simp [hh] at this;rw [this]
  obtain⟨l,rfl⟩:=Int.eq_ofNat_of_zero_le h0
  obtain⟨c,rfl⟩:=Int.eq_ofNat_of_zero_le (Int.le_trans h0 h1)
  have hr:=run_make (P:=P) w t e i v hu hi hzero .i64 .i64 l c h0 h1 (by simpa using h2) (by simpa using h3)
  simp only [Int.toNat_natCast] at hr
  refine⟨_,_,_,by simp only [conc,Int.toNat_natCast];exact hr,Below.of_alloc w _,?_,h w.heap.size⟩
  have hm:(madeCells v.cells (c*i.size)).toList=(List.replicate c z).flatten:=by
   unfold madeCells;rw [hva,← hzl];exact qXI z c
  have hfl:∀ n,((List.replicate n z).flatten).length=n*z.length:=fun n=>by simp
  refine hw.newRes (Below.of_alloc w _) (r:=.row id1 (some ⟨w.heap.size,0,none⟩) l c e i.size _) ⟨⟨?_,.inr ⟨w.heap.size,c,_,rfl,Nat.zero_le _,World.alloc_heap_new w _,by omega,?_,?_,?_⟩⟩,fun u hu=>?_⟩ (fun b hb=>by simp [Res.bk] at hb;omega) (by simp [Res.bk])
  ·simp [hzl]
  ·simp only [maxLen];omega
  ·rw [← Array.length_toList,hm,hfl,hzl]
  ·rw [hm,← hzl]
   have hlc:l≤c:=by omega
   obtain⟨d,rfl⟩:=Nat.exists_eq_add_of_le hlc
   rw [← List.replicate_append_replicate,List.flatten_append,List.take_append_of_le_length (by rw [hfl];exact Nat.le_refl _),List.take_of_length_le (by rw [hfl];exact Nat.le_refl _)]
   simp
  ·simp only [Int.toNat_natCast] at hu
   obtain⟨x,hx,hux⟩:=List.mem_flatten.1 hu
   obtain⟨_,rfl⟩:=List.mem_replicate.1 hx
   exact hone u hux
 ·exact h.elim
theorem qnC {P:Program} {t e ty:TypeId} {i:TypeInfo} (hu:P.underlying t=some (.slice e)) (hi:P.info? e=some i) (oa:Option Addr) (n cap cap2:Nat) (hn:n≤cap) (w:World) :
  (Builtin.append_ #[t,t] ty #[.slice oa n cap,.slice none 0 cap2]).run P w=.ok (.slice oa n cap) w:=by
 simp [Builtin.append_,run_underlying hu,sizeOf,typeInfo,hi,Builtin.lenOf,Builtin.firstCells,hn]
 cases oa<;>simp [storeCells]
theorem qkN {size:Nat} {x:SV} {hs:Hs} {K:Nat→List Value→Prop} (h:srcS size x hs K) {fr:Fr} {w:World} (hw:HSim fr hs w) :
  ∃ m vs,K m vs∧vs.length=m*size∧(∀ u∈vs,u.oneCell'=true) ∧
   ((∃ a c,conc x=.slice (some a) m c∧∀ j u,vs[j]?=some u→w.cell? (a.add j)=some u)∨(∃ c,conc x=.slice none m c∧m=0)):=by
 unfold srcS at h
 split at h
 ·rename_i id b o m c
  split at h
  ·rename_i b' ty cells hf
   obtain⟨⟨rfl,rfl⟩,h⟩:=h
   split at h
   ·rename_i hlen
    have hlen:=Nat.eq_of_beq_eq_true hlen
    have h:=qRB _ h
    obtain⟨hb,h1⟩:=hw.blk_cell hf
    refine⟨m,_,h,by rw [qWA];exact hlen,fun u hu=>?_,.inl ⟨_,_,rfl,fun j u hu=>?_⟩⟩
    ·rw [qQA] at hu
     obtain⟨c,hc,rfl⟩:=List.mem_map.1 hu
     exact h1 c hc
    ·rw [qaB,qiB hb];simpa using hu
   ·exact h.elim
  ·exact h.elim
 ·rename_i oa m cap
  obtain⟨vs,⟨⟨hl,oa',cap',he,_,_,hnil,hc⟩,h1⟩,h⟩:=h
  simp only [Value.slice.injEq,true_and] at he
  obtain⟨rfl,rfl⟩:=he
  refine⟨m,vs,h,hl,h1,?_⟩
  cases oa with
  | none=>exact .inr ⟨_,rfl,(hnil rfl).1⟩
  | some a=>exact .inl ⟨_,_,rfl,fun j u hu=>by obtain⟨a',ha,hr⟩:=hc j u hu;cases ha;exact hr.at hw.good⟩
 ·exact h.elim
theorem qrD {e:TypeId} {i:TypeInfo} {z:Value} (hzs:z.cells.size=i.size) {w:World} {xs news:List Value} {n m cap:Nat} (hl:(xs++news).length=(n+m)*i.size) (h63:n+m≤maxLen) :
  (w.drew.alloc (.cells (xs.toArray++news.toArray++Builtin.zeroCells z.cells (grownCap w (n+m) cap e-(n+m))) e)).ownsRow 0 e i.size (.slice (some ⟨w.heap.size,0,none⟩) (n+m) (grownCap w (n+m) cap e)) (n+m) (xs++news):=by
 have hge:=grownCap_ge w (n+m) cap e
 refine⟨hl,.inr ⟨w.heap.size,_,_,rfl,Nat.zero_le _,heap_alloc_new w.drew _,hge,grownCap_le_maxLen w (n+m) cap e h63,?_,?_⟩⟩
 ·have:=hl
  simp only [List.length_append] at this
  simp only [Array.size_append,List.size_toArray,size_zeroCells,hzs]
  rw [this,← Nat.add_mul]
  congr 1
  omega
 ·simp only [Array.toList_append,List.append_assoc]
  rw [← List.append_assoc,← hl]
  exact List.take_left
theorem q1E (w:World) (o:Obj):Below w.heap.size w (w.drew.alloc o):=((Below.refl _ w).drew).alloc (Nat.le_refl _) o
theorem qLD {id:Nat} {new:Res}:∀ {rs:List Res} {k:List Res→Prop} {b:Nat} {ty:TypeId} {cells:List SV},qaQ id new rs k→qwA id rs=some (b,ty,cells) →
  ∃ l1 l2,rs=l1++.blk id b ty cells :: l2∧k (l1++new :: l2)
 | [],k,b,ty,cells,h,hf=>h.elim
 | .blk j b' ty' c' :: r,k,b,ty,cells,h,hf=>by
  simp only [qaQ] at h
  simp only [qwA] at hf
  cases hj:Nat.beq j id with
  | true =>
   rw [hj] at h hf
   simp at hf
   obtain⟨rfl,rfl,rfl⟩:=hf
   obtain rfl:=Nat.eq_of_beq_eq_true hj
   exact⟨[],r,rfl,h⟩
  | false =>
   rw [hj] at h hf
   obtain⟨l1,l2,e,hk⟩:=qLD h hf
   exact⟨.blk j b' ty' c' :: l1,l2,by simp [e],hk⟩
 | .row a1 a2 a3 a4 a5 a6 a7 :: r,k,b,ty,cells,h,hf=>by
  obtain⟨l1,l2,e,hk⟩:=qLD (k:=fun r'=>k (.row a1 a2 a3 a4 a5 a6 a7 :: r')) h hf
  exact⟨_ :: l1,l2,by rw [e];rfl,hk⟩
 | .lp a1 a2 a3 a4 :: r,k,b,ty,cells,h,hf=>by
  obtain⟨l1,l2,e,hk⟩:=qLD (k:=fun r'=>k (.lp a1 a2 a3 a4 :: r')) h hf
  exact⟨_ :: l1,l2,by rw [e];rfl,hk⟩
 | .mk a1 :: r,k,b,ty,cells,h,hf=>by
  obtain⟨l1,l2,e,hk⟩:=qLD (k:=fun r'=>k (.mk a1 :: r')) h hf
  exact⟨_ :: l1,l2,by rw [e];rfl,hk⟩
 | .mp a1 a2 a3 a4 :: r,k,b,ty,cells,h,hf=>by
  obtain⟨l1,l2,e,hk⟩:=qLD (k:=fun r'=>k (.mp a1 a2 a3 a4 :: r')) h hf
  exact⟨_ :: l1,l2,by rw [e];rfl,hk⟩
theorem qMR {ety:TypeId} {size:Nat} {s:SV} {hs:Hs} {K:SV→Hs→Prop} (h:qxU ety size s hs K) {fr:Fr} {w:World} (hw:HSim fr hs w):∃ s' hs',K s' hs'∧conc s'=conc s∧HSim fr hs' w:=by
 rw [qiT] at h
 split at h
 ·rename_i id b o n cap
  split at h
  ·rename_i b' ty' cells hf
   obtain⟨⟨rfl,rfl,rfl,rfl,hcm⟩,h⟩:=h
   split at h
   ·rename_i hl
    obtain⟨l1,l2,hrs,hk⟩:=qLD (qRB _ h) hf
    obtain⟨hb,hone⟩:=hw.blk_cell hf
    have hl':(qAA cells).length=n*size:=by rw [qWA];exact Nat.eq_of_beq_eq_true hl
    refine⟨_,_,hk,rfl,hw.upd (r1:=.row id (some ⟨b,0,none⟩) n n ty' size (qAA cells)) (nx:=hs.nx) hrs rfl rfl rfl (Nat.le_refl _) (fun _ _ _=>rfl) ⟨⟨hl',.inr ⟨b,n,_,rfl,Nat.zero_le _,hb,Nat.le_refl _,hcm,by simpa using hl',?_⟩⟩,fun u hu=>?_⟩ (fun c hc=>.inl (by simpa [Res.bk] using hc)) (by simp [Res.bk])⟩
    ·rw [← hl'];simp
    ·rw [qQA] at hu
     obtain⟨c,hc,rfl⟩:=List.mem_map.1 hu
     exact hone c hc
   ·exact h.elim
  ·exact h.elim
 ·exact⟨_,_,h,rfl,hw⟩
section
variable {P:Program} {t e ty:TypeId} {i:TypeInfo} {z:Value} (hu:P.underlying t=some (.slice e)) (hi:P.info? e=some i) (hz:i.zero=some z) (hzs:z.cells.size=i.size)
include hu hi hz hzs
theorem qOM {fr:Fr} {hs:Hs} {w:World} (hw:HSim fr hs w) {oa:Option Addr} {n cap m:Nat} {cs vs:List Value} (x:Value) (hcs:cs.length=n*i.size) (hold:∀ j u,cs[j]?=some u→∃ a,oa=some a∧w.cell? (a.add j)=some u)
  (h1:∀ u∈cs++vs,u.oneCell'=true) (hl:vs.length=m*i.size) (hx:∃ a c,x=.slice (some a) m c∧∀ j u,vs[j]?=some u→w.cell? (a.add j)=some u) (hm:0<m) (hcap:cap<n+m)
  (hoa:oa=none→n=0∧cap=0) (h63:n+m≤maxLen) (hby:(n+m)*i.bytes≤140737488355328) (id nx:Nat) :
  ∃ oa' cap' w',(Builtin.append_ #[t,t] ty #[.slice oa n cap,x]).run P w=.ok (.slice oa' (n+m) cap') w'∧HSim fr ⟨hs.g,.row id oa' (n+m) cap' e i.size (cs++vs) :: hs.rs,nx,hs.lo⟩ w':=by
 obtain⟨a,c,rfl,hcell⟩:=hx
 have hlen:(cs++vs).length=(n+m)*i.size:=by rw [List.length_append,hcs,hl,Nat.add_mul]
 have h63':n+m≤9223372036854775807:=by simp only [maxLen] at h63;omega
 cases oa with
 | none =>
  obtain⟨rfl,rfl⟩:=hoa rfl
  have:cs=[]:=by simpa using hcs
  subst this
  have hr:=run_append_nil (P:=P) w t ty e i z hu hi hz a m c vs hl hcell hm (by omega) (by simp only [Nat.zero_add] at hby;omega)
  simp only [Nat.zero_add,List.nil_append] at *
  refine⟨_,_,_,hr,hw.newRes (q1E w _) (r:=.row id (some ⟨w.heap.size,0,none⟩) m _ e i.size vs) ⟨?_,h1⟩ (fun b hb=>by simp [Res.bk] at hb;omega) (by simp [Res.bk])⟩
  have:=qrD (e:=e) hzs (w:=w) (xs:=[]) (news:=vs) (n:=0) (m:=m) (cap:=0) (by simpa using hlen) (by simpa using h63)
  simpa using this
 | some b =>
  have hr:=run_append_grow (P:=P) w t ty e i z hu hi hz b n cap cs hcs (fun j u hj=>by obtain⟨a',ha,hc⟩:=hold j u hj;cases ha;exact hc) a m c vs hl hcell hcap (by omega) (growslice_fits hcap hby)
  exact⟨_,_,_,hr,hw.newRes (q1E w _) (r:=.row id (some ⟨w.heap.size,0,none⟩) (n+m) _ e i.size (cs++vs)) ⟨qrD hzs hlen h63,h1⟩ (fun b hb=>by simp [Res.bk] at hb;omega) (by simp [Res.bk])⟩
theorem q0T {fr:Fr} {hs:Hs} {w:World} {K:SV→Hs→Prop} {x:SV} {id:Nat} {oa:Option Addr} {n cap m:Nat} {ety':TypeId} {size':Nat} {cs vs:List Value} (hw:HSim fr hs w) (hety:ety'=e) (hsize:size'=i.size) (hl:vs.length=m*i.size) (h1:∀ u∈vs,u.oneCell'=true)
  (hsrc:(∃ a c,conc x=.slice (some a) m c∧∀ j u,vs[j]?=some u→w.cell? (a.add j)=some u)∨(∃ c,conc x=.slice none m c∧m=0)) (h63:n+m≤maxLen) (hby:(n+m)*i.bytes≤140737488355328)
  (hf:q3A id hs.rs=some (oa,n,cap,ety',size',cs)) {id1 id2:Nat} (h:∀ oa2 cap2,updR id (some (.row id1 oa2 (n+m) cap2 ety' size' (cs++vs))) hs.rs fun rs'=>K (.row id1 oa2 (n+m) cap2) ⟨hs.g,rs',id2,hs.lo⟩) :
  ∃ w' s' hs',(Builtin.append_ #[t,t] ty #[conc (.row id oa n cap),conc x]).run P w=.ok (conc s') w'∧HSim fr hs' w'∧K s' hs':=by
 subst hety;subst hsize
 have hvs0:m=0→vs=[]:=fun h0=>by subst h0;simpa using hl
 obtain⟨⟨g1,g2⟩,hone⟩:=hw.row_own hf
 have hone':∀ u∈cs++vs,u.oneCell'=true:=fun u hu=>by
  rcases List.mem_append.1 hu with hu|hu
  ·exact hone u hu
  ·exact h1 u hu
 have hlen:(cs++vs).length=(n+m)*i.size:=by rw [List.length_append,g1,hl,Nat.add_mul]
 have fin:∀ oa2 cap2 w',(Builtin.append_ #[t,t] ty #[.slice oa n cap,conc x]).run P w=.ok (.slice oa2 (n+m) cap2) w' →
   (∀ l1 l2,hs.rs=l1++.row id oa n cap ety' i.size cs :: l2→HSim fr ⟨hs.g,l1++.row id1 oa2 (n+m) cap2 ety' i.size (cs++vs) :: l2,id2,hs.lo⟩ w') →
   ∃ w' s' hs',(Builtin.append_ #[t,t] ty #[conc (.row id oa n cap),conc x]).run P w=.ok (conc s') w'∧HSim fr hs' w'∧K s' hs':=fun oa2 cap2 w' hr hsim=>by
  obtain⟨l1,l2,hrs,hk⟩:=qSC (h oa2 cap2) hf
  exact⟨w',.row id1 oa2 (n+m) cap2,_,hr,hsim l1 l2 hrs,hk⟩
 by_cases hm:m=0
 ·have hvs:=hvs0 hm
  subst hm;subst hvs
  have hnc:n≤cap:=by
   rcases g2 with ⟨he,rfl⟩|⟨g,cap',cur,he,_,_,hnc,_⟩
   ·exact Nat.zero_le _
   ·simp only [Value.slice.injEq] at he;omega
  refine fin oa cap w ?_ fun l1 l2 hrs=>?_
  ·rcases hsrc with ⟨a,c,hc,hcell⟩|⟨c,hc,_⟩
   ·rw [hc];simp [Builtin.append_,run_underlying hu,sizeOf,typeInfo,hi,Builtin.lenOf,Builtin.firstCells,loadCells,loadCellsFrom,hnc]
    cases oa<;>simp [storeCells]
   ·rw [hc];simpa using qnC hu hi oa n cap c hnc w
  ·have:=hw.upd (r1:=.row id1 oa (n+0) cap ety' i.size (cs++[])) (nx:=id2) hrs rfl rfl rfl (Nat.le_refl _) (fun _ _ _=>rfl) ⟨by simpa using ⟨g1,g2⟩,by simpa using hone⟩ (fun b hb=>.inl hb) (by cases oa<;>simp [Res.bk])
   exact this
 ·rcases hsrc with ⟨a,c,hc,hcell⟩|⟨c,hc,h0⟩
  ·rcases g2 with ⟨he,rfl⟩|⟨g,cap',cur,he,hg0,hh,hnc,hcm,hcs,htk⟩
   ·simp only [Value.slice.injEq] at he
    obtain⟨rfl,_,rfl⟩:=he
    have:cs=[]:=by simpa using g1
    subst this
    have hr:=run_append_nil (P:=P) w t ty ety' i z hu hi hz a m c vs hl hcell (by omega) (by simp only [maxLen] at h63;omega) (by simp only [Nat.zero_add] at hby;omega)
    refine fin (some ⟨w.heap.size,0,none⟩) _ _ (by rw [hc,Nat.zero_add];exact hr) fun l1 l2 hrs=>?_
    have hb:=q1E w (.cells (vs.toArray++Builtin.zeroCells z.cells (grownCap w m 0 ety'-m)) ety')
    have hrow:=qrD (e:=ety') hzs (w:=w) (xs:=[]) (news:=vs) (n:=0) (m:=m) (cap:=0) (by simpa using hlen) h63
    refine hw.upd hrs hb.os hb.tape hb.output hb.size (fun k hk _=>hb.block k hk) ⟨by simpa using hrow,hone'⟩ (fun b hb=>by simp [Res.bk] at hb;omega) (by simp [Res.bk])
   ·simp only [Value.slice.injEq] at he
    obtain⟨rfl,_,rfl⟩:=he
    by_cases hroom:n+m≤cap
    ·have hfit:n*i.size+vs.length≤cur.size:=by rw [hl,hcs,← Nat.add_mul];exact Nat.mul_le_mul_right _ hroom
     have hr:=run_append_room (P:=P) w t ty ety' i hu hi g n cap cur hh a m c vs hl hcell h1 hroom hfit
     refine fin _ _ _ (by rw [hc];exact hr) fun l1 l2 hrs=>?_
     refine hw.upd hrs rfl rfl rfl (by simp) (fun k _ hk=>setRow_other w g k _ (by simpa [Res.bk] using hk)) ⟨⟨hlen,.inr ⟨g,cap,_,rfl,hg0,setRow_heap w g cur _ ety' _ hh,hroom,hcm,?_,?_⟩⟩,hone'⟩ (fun b hb=>.inl (by simpa [Res.bk] using hb)) (by simp [Res.bk])
     ·simp only [List.size_toArray,List.length_append,List.length_take,List.length_drop,Array.length_toList]
      omega
     ·rw [htk,← hlen]
      exact List.take_left
    ·have hcap:cap<n+m:=by omega
     have hold:∀ j u,cs[j]?=some u→w.cell? ((⟨g,0,none⟩:Addr).add j)=some u:=fun j u hj=>by
      rw [qaB,Nat.zero_add,qiB hh,← Array.getElem?_toList]
      rw [← htk,List.getElem?_take] at hj
      split at hj
      ·exact hj
      ·cases hj
     have hr:=run_append_grow (P:=P) w t ty ety' i z hu hi hz ⟨g,0,none⟩ n cap cs g1 hold a m c vs hl hcell hcap (by simp only [maxLen] at h63;omega) (growslice_fits hcap hby)
     refine fin _ _ _ (by rw [hc];exact hr) fun l1 l2 hrs=>?_
     have hb:=q1E w (.cells (cs.toArray++vs.toArray++Builtin.zeroCells z.cells (grownCap w (n+m) cap ety'-(n+m))) ety')
     exact hw.upd hrs hb.os hb.tape hb.output hb.size (fun k hk _=>hb.block k hk) ⟨qrD hzs hlen h63,hone'⟩ (fun b hb=>by simp [Res.bk] at hb;omega) (by simp [Res.bk])
  ·exact absurd h0 hm
theorem qNR {s x:SV} {hs:Hs} {K:SV→Hs→Prop} (h:qyU e i.size i.bytes s x hs K) {fr:Fr} {w:World} (hw:HSim fr hs w) :
  ∃ w' s' hs',(Builtin.append_ #[t,t] ty #[conc s,conc x]).run P w=.ok (conc s') w'∧HSim fr hs' w'∧K s' hs':=by
 rw [qjT] at h
 obtain⟨m,vs,h,hl,h1,hsrc⟩:=qkN h hw
 have hvs0:m=0→vs=[]:=fun h0=>by subst h0;simpa using hl
 split at h
 ·-- nil
  obtain⟨⟨h63,hby⟩,h⟩:=h
  obtain⟨id1,id2,h⟩:=qyA h
  by_cases hm:m=0
  ·have hvs:=hvs0 hm
   subst hm;subst hvs
   refine⟨w,_,_,?_,hw.newRes (Below.refl _ _) (r:=.row id1 none 0 0 e i.size []) ⟨World.ownsRow_nil w 0 e i.size,fun u hu=>by cases hu⟩ (fun b hb=>by simp [Res.bk] at hb) (by simp [Res.bk]),h none 0⟩
   rcases hsrc with ⟨a,c,hc,hcell⟩|⟨c,hc,_⟩
   ·rw [hc];simp [conc,Builtin.append_,run_underlying hu,sizeOf,typeInfo,hi,Builtin.lenOf,Builtin.firstCells,loadCells,loadCellsFrom]
   ·rw [hc];exact qnC hu hi none 0 0 c (Nat.le_refl _) w
  ·rcases hsrc with ⟨a,c,hc,hcell⟩|⟨c,hc,h0⟩
   ·obtain⟨oa',cap',w',hr,hsim⟩:=qOM hu hi hz hzs (ty:=ty) hw (oa:=none) (n:=0) (cap:=0) (cs:=[]) (conc x) (by simp) (fun j u hj=>by simp at hj) (by simpa using h1) hl ⟨a,c,hc,hcell⟩ (by omega) (by omega) (fun _=>⟨rfl,rfl⟩) (by simpa using h63) (by simpa using hby) id1 id2
    simp only [Nat.zero_add,List.nil_append] at hr hsim
    exact⟨w',.row id1 oa' m cap',_,hr,hsim,h oa' cap'⟩
   ·exact absurd h0 hm
 ·-- a row
  rename_i id oa n cap _
  split at h
  ·rename_i oa' n' cap' ety' size' cs hf
   obtain⟨⟨rfl,rfl,rfl,rfl,rfl⟩,⟨h63,hby⟩,h⟩:=h
   obtain⟨id1,id2,h⟩:=qyA h
   exact q0T hu hi hz hzs (K:=K) (x:=x) hw rfl rfl hl h1 hsrc h63 hby hf h
  ·exact h.elim
 ·-- frozen
  rename_i oa n cap _ _
  rcases h with h|⟨b,cs,rest,⟨rfl,hlo,hgb,hob,hcl,hone0,hnc0,hcm0,hrl,hnm,hby0⟩,hkk⟩
  case inr =>
   obtain⟨id1,id2,hkk⟩:=qyA (hkk _ (GW.less_spec _ _))
   have hcap:w.heap[b]?=some (.cells ⟨cs++rest⟩ e (0,0)):=(hw.good.2 b hgb).trans hob
   have hth:HSim fr ⟨hs.g.less b,.row hs.nx (some ⟨b,0,none⟩) n cap e i.size cs :: hs.rs,hs.nx,hs.lo⟩ w :=
    hw.thaw (r:=.row hs.nx (some ⟨b,0,none⟩) n cap e i.size cs) rfl hlo hgb ⟨⟨hcl,.inr ⟨b,cap,_,rfl,Nat.zero_le _,hcap,hnc0,hcm0,by simpa using hrl,by simp [← hcl]⟩⟩,hone0⟩
   exact q0T hu hi hz hzs (id:=hs.nx) (hs:=⟨hs.g.less b,.row hs.nx (some ⟨b,0,none⟩) n cap e i.size cs :: hs.rs,hs.nx,hs.lo⟩) (K:=K) (x:=x) (id1:=id1) (id2:=id2) hth rfl rfl hl h1 hsrc hnm hby0 (by simp only [q3A,Nat.beq_refl];rfl) (fun oa2 cap2=>by
    simp only [updR,Nat.beq_refl]
    exact hkk oa2 cap2)
  obtain⟨cs,⟨⟨g1,oa',cap',he,hnc,hcm,hnil,hc⟩,hone⟩,hk0,hk1⟩:=h
  simp only [Value.slice.injEq,true_and] at he
  obtain⟨rfl,rfl⟩:=he
  by_cases hm:m=0
  ·have hvs:=hvs0 hm
   subst hm;subst hvs
   refine⟨w,_,_,?_,hw,hk0 rfl⟩
   rcases hsrc with ⟨a,c,hc,hcell⟩|⟨c,hc,_⟩
   ·rw [hc];simp [conc,Builtin.append_,run_underlying hu,sizeOf,typeInfo,hi,Builtin.lenOf,Builtin.firstCells,loadCells,loadCellsFrom,hnc]
    cases oa<;>simp [storeCells]
   ·rw [hc];exact qnC hu hi oa n cap c hnc w
  ·obtain⟨⟨hcap,h63,hby⟩,h⟩:=hk1 (by omega)
   obtain⟨id1,id2,h⟩:=qyA h
   rcases hsrc with ⟨a,c,hcx,hcell⟩|⟨c,hc,h0⟩
   ·have hone':∀ u∈cs++vs,u.oneCell'=true:=fun u hu=>by
     rcases List.mem_append.1 hu with hu|hu
     ·exact hone u hu
     ·exact h1 u hu
    obtain⟨oa',cap',w',hr,hsim⟩:=qOM hu hi hz hzs (ty:=ty) hw (conc x) g1 (fun j u hj=>by obtain⟨a',ha,hr⟩:=hc j u hj;exact⟨a',ha,hr.at hw.good⟩) hone' hl ⟨a,c,hcx,hcell⟩ (by omega) hcap hnil h63 hby id1 id2
    exact⟨w',.row id1 oa' (n+m) cap',_,hr,hsim,h oa' cap'⟩
   ·exact absurd h0 hm
 ·exact h.elim
theorem qnS {s x:SV} {hs:Hs} {K:SV→Hs→Prop} (h:appS e i.size i.bytes s x hs K) {fr:Fr} {w:World} (hw:HSim fr hs w) :
  ∃ w' s' hs',(Builtin.append_ #[t,t] ty #[conc s,conc x]).run P w=.ok (conc s') w'∧HSim fr hs' w'∧K s' hs':=by
 obtain⟨hs2,h,hw⟩:=qtK _ _ _ _ _ h hw
 obtain⟨hs3,h,hw⟩:=qtK _ _ _ _ _ h hw
 obtain⟨s1,hs1,hk,hc,hw1⟩:=qMR h hw
 rw [← hc]
 exact qNR hu hi hz hzs hk hw1
end
theorem qbS {d s:SV} {hs:Hs} {K:SV→Hs→Prop} (h:cpyS d s hs K) {P:Program} {t t' ty e:TypeId} (hu:P.underlying t=some (.slice e)) (hsz:qPC P e=some 1) {fr:Fr} {w:World} (hw:HSim fr hs w) :
  ∃ w' s' hs',(Builtin.copy_ #[t,t'] ty #[conc d,conc s]).run P w=.ok (conc s') w'∧HSim fr hs' w'∧K s' hs':=by
 obtain⟨m,vs,h2,hvl,h1,hsrc⟩:=qkN h hw
 clear h
 revert h2
 intro h
 rw [Nat.mul_one] at hvl
 have hsz':(P.info? e).map (·.size)=some 1:=hsz
 split at h
 ·rename_i id a0 n cap
  split at h
  ·rename_i oa' n' cap' ety sz cs hf
   obtain⟨⟨rfl,rfl,rfl,rfl,hm,hn⟩,h⟩:=h
   obtain⟨l1,l2,hrs,hk⟩:=qSC h hf
   obtain⟨⟨g1,g2⟩,hone⟩:=hw.row_own hf
   rw [Nat.mul_one] at g1
   rcases g2 with ⟨he,rfl⟩|⟨g,cap2,cur,he,hg0,hh,hnc,hcm,hcs,htk⟩
   ·simp at g1;omega
   ·simp only [Value.slice.injEq,Option.some.injEq] at he
    obtain⟨rfl,_,rfl⟩:=he
    rcases hsrc with ⟨a,c,hc,hcell⟩|⟨c,_,h0⟩
    rotate_left
    ·omega
    rw [Nat.mul_one] at hcs
    have hkl:(vs.take (min m n)).length=min m n:=by rw [List.length_take,hvl];omega
    have hfit:min m n≤cur.size:=by omega
    have hr:=run_copy_row (P:=P) w t t' ty e g 0 n cap a m c cur ety (vs.take (min m n)) hu hsz' hh hkl (fun j u hj=>by
     rw [List.getElem?_take] at hj
     split at hj
     ·exact hcell j u hj
     ·cases hj) (by rw [hkl];omega) (fun u hu'=>h1 u (List.mem_of_mem_take hu'))
    rw [hkl] at hr
    refine⟨_,.v (.int .i64 ((min m n:Nat):Int)),_,by rw [hc];exact hr,?_,hk⟩
    have htk':cur.toList.take n=cs:=by rw [← htk,Nat.mul_one]
    refine hw.upd hrs rfl rfl rfl (by simp) (fun k _ hk=>setRow_other w g k _ (by simpa [Res.bk] using hk)) ⟨⟨?_,.inr ⟨g,cap,_,rfl,hg0,setRow_heap w g cur _ ety _ hh,hnc,hcm,?_,?_⟩⟩,fun u hu'=>?_⟩ (fun b hb=>.inl (by simpa [Res.bk] using hb)) (by simp [Res.bk])
    ·rw [List.length_append,hkl,List.length_drop];omega
    ·simp [hkl];omega
    ·have hl:(vs.take (min m n)++cs.drop (min m n)).length=n:=by rw [List.length_append,hkl,List.length_drop];omega
     simp only [List.take_zero,List.nil_append,Nat.zero_add,Nat.mul_one]
     rw [List.take_append,hkl,← htk',List.drop_take,List.take_of_length_le (by rw [hkl];omega)]
    ·rcases List.mem_append.1 hu' with hu' | hu'
     ·exact h1 u (List.mem_of_mem_take hu')
     ·exact hone u (List.mem_of_mem_drop hu')
  ·exact h.elim
 ·rename_i a n cap
  obtain⟨b,cs,ty',⟨rfl,hlo,hg,hb,hle,hm⟩,h⟩:=h
  rcases hsrc with ⟨a,c,hc,hcell⟩|⟨c,_,h0⟩
  rotate_left
  ·omega
  have hkl:(vs.take (min m n)).length=min m n:=by rw [List.length_take,hvl];omega
  have hh:=(hw.good.2 b hg).trans hb
  have hr:=run_copy_row (P:=P) w t t' ty e b 0 n cap a m c ⟨cs⟩ ty' (vs.take (min m n)) hu hsz' hh hkl (fun j u hj=>by
   rw [List.getElem?_take] at hj
   split at hj
   ·exact hcell j u hj
   ·cases hj) (by rw [hkl];simpa using hle) (fun u hu'=>h1 u (List.mem_of_mem_take hu'))
  rw [hkl] at hr
  obtain⟨g',hup,hsim⟩:=hw.poke (w':=w.setRow b ((⟨cs⟩:Array Value).toList.take 0++vs.take (min m n)++(⟨cs⟩:Array Value).toList.drop (0+min m n)).toArray) hlo hg rfl rfl rfl (by simp) (setRow_heap w b ⟨cs⟩ _ ty' _ hh) (fun k hk=>setRow_other w b k _ hk)
  refine⟨_,.v (.int .i64 ((min m n:Nat):Int)),_,by rw [hc];exact hr,hsim,h g' ?_⟩
  simpa using hup
 ·exact h.elim
theorem qcR {size:Nat} {x y:SV} {hs:Hs} {K:SV→Hs→Prop} (h:stoS size x y hs K) {P:Program} {t:TypeId} (hsz:qPC P t=some size) {fr:Fr} {w:World} (hw:HSim fr hs w) :
  ∃ w' hs',(Instr.storeAt t (conc x) (conc y)).run P w=.ok () w'∧HSim fr hs' w'∧K (.v undef) hs':=by
 unfold stoS at h
 split at h
 ·exact qnK h hsz hw
 ·obtain⟨hs1,h1,hw1⟩:=qqR h hw
  exact qnK h1 hsz hw1
theorem qMO {ik:IntKind} {hs:Hs} {K:SV→Hs→Prop} (h:mkmS ik hs K) {P:Program} {t et:TypeId} (ht:mapT P t=some (ik,et)) {a:Act} {r:Option Operand} (hr:qIQ r=true) {fr:Fr} {w:World} (hw:HSim fr hs w) :
  ∃ w' s hs',(Instr.makeMap t (r.map a.eval)).run P w=.ok (conc s) w'∧Below w.heap.size w w'∧HSim fr hs' w'∧K s hs':=by
 obtain⟨kt,hu,hk⟩:=qBL ht
 obtain⟨hg,hrs,hn,hl⟩:=hs
 obtain⟨i,j,h⟩:=qyA (show qsB hn fun i j=>∀ r,K (.mp i r) ⟨hg,.mp i r ik [] :: hrs,j,hl⟩ from h)
 refine⟨_,.mp i w.heap.size,_,?_,Below.of_alloc w (.map #[] 0),hw.newRes (Below.of_alloc w (.map #[] 0)) (r:=.mp i w.heap.size ik []) (World.alloc_heap_new w _) (fun b hb=>by simp [Res.bk] at hb;omega) (by simp [Res.bk]),h w.heap.size⟩
 cases r with
 | none=>rfl
 | some x =>
  cases x with
  | const v =>
   cases v with
   | int k n=>simp [Instr.makeMap,Act.eval,run_underlying hu,asInt,asIntOf,newObj,conc];rfl
   | _=>simp [qIQ] at hr
  | _=>simp [qIQ] at hr
theorem qKO {ik:IntKind} {x k v:SV} {hs:Hs} {K:SV→Hs→Prop} (h:mupS ik x k v hs K) {P:Program} {t et:TypeId} (ht:mapT P t=some (ik,et)) {fr:Fr} {w:World} (hw:HSim fr hs w) :
  ∃ w' hs',(Instr.mapUpdate t (conc x) (conc k) (conc v)).run P w=.ok () w'∧HSim fr hs' w'∧K (.v undef) hs':=by
 obtain⟨kt,hu,hk⟩:=qBL ht
 obtain⟨hg,hrs,hn,hl⟩:=hs
 unfold mupS at h
 simp only at h
 split at h
 ·rename_i id r
  split at h
  ·rename_i ik' n
   split at h
   ·rename_i r' ik2 es hf
    obtain⟨⟨rfl,hk1,hk2⟩,h⟩:=h
    obtain rfl:=qrE hk1
    obtain rfl:=qrE hk2
    have h:=qrJ _ h
    obtain⟨l1,l2,hl,hK⟩:=qxD h hf
    have hb:w.heap[r]?=some (.map ⟨mkE ik2 0 es⟩ es.length):=hw.res (.mp id r ik2 es) (by show _∈hrs;rw [hl];simp)
    obtain⟨e1,e2⟩:=Go.MapKept.heap_set (o':=.map ⟨mkE ik2 0 (mSet n (conc v) es)⟩ (mSet n (conc v) es).length) hb
    refine⟨_,_,qKJ hu hk hb n (conc v),?_,hK⟩
    exact hw.upd (hs:=⟨hg,hrs,hn,_⟩) (r1:=.mp id r ik2 (mSet n (conc v) es)) (nx:=hn) hl rfl rfl rfl (by simp) (fun k _ hk=>e2 k (by simpa [Res.bk] using hk)) e1 (fun b hb=>.inl (by simpa [Res.bk] using hb)) (by simp [Res.bk])
   ·exact h.elim
  ·exact h.elim
 ·exact h.elim
end Go.Proofs.YtkogfpniapaigaaGreat.Sx
