import Derived.RangeFuncRecord
import Derived.WalkKit
import Derived.OrdersIn
import Derived.OrdersHeld
import Derived.Conc.Own
import Derived.Conc.Machine
import Derived.Below
import Derived.Laws.OwnMore
import Derived.Laws.StructEq
import Derived.ChangeKeysEq
import Derived.MapKept
import Derived.Laws.BytesString
import Derived.Laws.CopyRow
import Derived.Laws.Sem
set_option linter.all false
set_option maxHeartbeats 16000000
set_option maxRecDepth 100000
open Array renaming replicate→zAU
open Bool renaming false→zb,true→I
open Go renaming Value→zg,World→zp,Program→zt,execOp→zy,Goroutine→zH,run_underlying→zN,maxLen→zAr,Frame→zAt,TypeId→zAy,stepG→zAE,Addr→zAH,Act→zDN,Oper→zDO,undef→zAX,zeroValue→zAZ,FuncId→zBa,Code→zDT
open Go.Act renaming put→zBg
open Go.Builtin renaming append_→zBz
open Go.Deferred renaming ofValue→zBH
open Go.Frame renaming atR→zAQ,enter→zAW,finish_atR→zBe
open Go.GStep renaming after→zBF
open Go.Instr renaming loadAt→zBv
open Go.IntKind renaming i64→zAf
open Go.Op renaming equalIn→zDW
open Go.Region renaming wanted→zAs,ready→zAC
open Go.Result renaming andThen→zAo,andThen_ok→zAY
open Go.Sem renaming run_bind→zAa,runT_eq→zBs
open Go.Value renaming int→zD,oneCell'→zA0
open Go.Value.slice renaming injEq→zAp
open Go.stepG renaming exec→zBl
open List renaming replicate→zA5,range→zBf
open Nat renaming beq→zAP
open Option renaming some→O,none→zc
open _root_ renaming List→F,Nat→Z,Int→zn,Option→zs,Bool→zM,Array→zR,False→zV
namespace Go.Proofs.YtlmhpamhhgogaaaGreat.Sx
open Go.Conc (G)
section
def sa{P:Prop}(h:P:=by omega):P:=h
def sb{P:Prop}(h:P:=by decide):P:=h
def sc{P:Prop}(h:P:=by simp[Az,Res.eqv,qDA,Ae]):P:=h
def sd{P:Prop}(h:P:=by simp):P:=h
def se{P:Prop}(h:P:=by kernel_rfl):P:=h
def sf{P:Prop}(h:P:=by simp;omega):P:=h
def sg{P:Prop}(h:P:=by unfold InR;omega):P:=h
def si{P:Prop}(h:P:=by(conv=>lhs;cbv)):P:=h
def sj{P:Prop}(h:P:=by rw[hE];rfl):P:=h
def sk{P:Prop}(h:P:=by simp[Res.bk]):P:=h
def so{P:Prop}(h:P:=by simp[findLabel]):P:=h
def sq{P:Prop}(h:P:=by first|rfl|simp):P:=h
def sr{P:Prop}(h:P:=by assumption):P:=h
def ss{P:Prop}(h:P:=by simp[Az,Res.eqv,qDA,Ae,Et]):P:=h
def su{P:Prop}(h:P:=by simp only[qpK];omega):P:=h
def sv{P:Prop}(h:P:=by unfold InR;decide):P:=h
def sx{P:Prop}(h:P:=by rw[closeOps];simp):P:=h
def sy{P:Prop}(h:P:=by rfl):P:=h
def sA{P:Prop}(h:P:=by rw[ad];rfl):P:=h
def zO:=@Array.getElem?_setIfInBounds_ne
def zS:=@Array.getElem?_setIfInBounds_self_of_lt
def zAg:=@Array.getElem?_eq_some_iff
def zAj:=@Array.getD_eq_getD_getElem?
def zAO:=@Array.getElem?_eq_getElem
def zBq:=@Array.ext'
def zBr:=@Array.getElem?_setIfInBounds
def zBt:=@Array.getElem?_eq_none
def zCj:=@Array.getElem?_toList
def zCk:=@Array.getElem?_append_left
def zCr:=@Array.mapM_eq_mapM_toList
def zCz:=@Array.getElem?_push
def zC0:=@Array.append_assoc
def zDa:=@Array.all_eq_true_iff_forall_mem
def zDk:=@Array.toList_modify
def zDm:=@Array.length_toList
def zDp:=@Array.foldl_toList
def zDq:=@Array.ext_getElem?
def zDr:=@Array.any_eq_true'
def zDt:=@Array.getElem?_map
def zDC:=@Array.toList_map
def zj:=@Bool.and_eq_true
def zAi:=@Bool.false_ne_true
def zAS:=@Bool.false_eq_true
def zBS:=@Bool.not_eq_true
def zCn:=@Bool.eq_iff_iff
def zCE:=@Bool.true_and
def zCG:=@Bool.eq_false_iff
def zCX:=@Bool.or_eq_true
def zC6:=@Bool.not_eq_true'
def zDf:=@Bool.or_eq_false_iff
def zA3:=@Classical.byContradiction
def zCl:=@Classical.choose_spec
def zCA:=@Classical.axiomOfChoice
def zB8:=@Function.comp_def
def zD1:=@Iff.rfl
def zAK:=@Int.toNat_of_nonneg
def zAI:=@Int.le_refl
def zBj:=@Int.eq_ofNat_of_zero_le
def zBn:=@Int.toNat_natCast
def zBN:=@Int.emod_lt_of_pos
def zBW:=@Int.emod_nonneg
def zB1:=@Int.tmod_eq_emod_of_nonneg
def zCi:=@Int.natCast_nonneg
def zCp:=@Int.natCast_add
def zCs:=@Int.emod_eq_of_lt
def zCN:=@Int.add_zero
def zDh:=@Int.natCast_one
def zDI:=@Int.le_trans
def zDK:=@Int.lt_or_le
def zd:=@List.getElem?_eq_some_iff
def zl:=@List.mem_of_getElem?
def zJ:=@List.mem_cons
def zL:=@List.mem_append
def zT:=@List.mem_iff_getElem?
def zX:=@List.length_set
def zY:=@List.take_succ_eq_append_getElem
def zAb:=@List.mem_map
def zAc:=@List.getElem?_append_left
def zAd:=@List.not_mem_nil
def zAe:=@List.getElem?_eq_getElem
def zAh:=@List.all_eq_true
def zAl:=@List.mem_cons_of_mem
def zAm:=@List.mem_cons_self
def zAq:=@List.length_append
def zAv:=@List.getElem?_map
def zAw:=@List.take_of_length_le
def zAz:=@List.mem_toArray
def zAA:=@List.length_map
def zAB:=@List.take_length
def zAF:=@List.getElem?_set
def zAG:=@List.mem_filter
def zAN:=@List.length_take
def zA4:=@List.getElem?_append_right
def zA7:=@List.getElem?_take
def zA9:=@List.mem_singleton
def zBb:=@List.length_cons
def zBc:=@List.mem_or_eq_of_mem_set
def zBd:=@List.length_eq_zero_iff
def zBi:=@List.getElem?_set_ne
def zBk:=@List.nodup_append
def zBo:=@List.map_append
def zBu:=@List.getElem?_set_self
def zBy:=@List.nodup_cons
def zBA:=@List.mem_flatMap
def zBC:=@List.flatten_cons
def zBD:=@List.mem_of_mem_take
def zBE:=@List.getElem?_of_mem
def zBK:=@List.any_eq_false
def zBP:=@List.map_cons
def zBQ:=@List.getElem?_eq_none
def zBR:=@List.nodup_nil
def zBT:=@List.ext_getElem?
def zBU:=@List.foldl_cons
def zBV:=@List.take_append_of_le_length
def zBX:=@List.mem_filterMap
def zBY:=@List.any_eq_true
def zBZ:=@List.append_assoc
def zB0:=@List.nil_append
def zB2:=@List.length_drop
def zB3:=@List.set_cons_succ
def zB4:=@List.mem_range
def zB5:=@List.flatMap_cons
def zB9:=@List.eq_nil_of_length_eq_zero
def zCa:=@List.drop_append_of_le_length
def zCe:=@List.sublist_cons_self
def zCg:=@List.findIdx?_cons
def zCo:=@List.length_nil
def zCq:=@List.getElem?_eq_none_iff
def zCt:=@List.mem_of_mem_drop
def zCx:=@List.cons_append
def zCy:=@List.getElem?_range
def zCB:=@List.getElem?_cons_zero
def zCC:=@List.getElem?_drop
def zCF:=@List.take_append_drop
def zCH:=@List.foldl_append
def zCI:=@List.length_filter_le
def zCJ:=@List.length_singleton
def zCK:=@List.drop_take
def zCL:=@List.drop_drop
def zCM:=@List.map_map
def zCO:=@List.length_eraseIdx
def zCP:=@List.mem_flatten
def zCR:=@List.drop_eq_getElem_cons
def zCU:=@List.length_pos_iff
def zCW:=@List.exists_mem_of_ne_nil
def zCY:=@List.eq_of_mem_replicate
def zCZ:=@List.mem_of_mem_eraseIdx
def zC3:=@List.take_take
def zC4:=@List.drop_zero
def zC5:=@List.mapM_cons
def zC7:=@List.set_eq_take_append_cons_drop
def zC8:=@List.head?_eq_getElem?
def zC9:=@List.drop_eq_nil_of_le
def zDb:=@List.getElem_mem
def zDc:=@List.getElem?_toArray
def zDd:=@List.length_replicate
def zDe:=@List.flatMap_def
def zDg:=@List.range_succ
def zDi:=@List.append_nil
def zDl:=@List.drop_set_of_lt
def zDn:=@List.countP_eq_zero
def zDo:=@List.flatMap_append
def zDX:=@List.take_length_add_append
def zDY:=@List.drop_length_add_append
def zDu:=@List.filter_append
def zDv:=@List.countP_append
def zDw:=@List.size_toArray
def zDx:=@List.all_eq_false
def zDy:=@List.length_range
def zDz:=@List.sum_cons
def zDA:=@List.take_add_one
def zDF:=@List.length_ofFn
def zDG:=@List.filter_cons
def zDL:=@List.map_set
def zDZ:=@List.any_append
def zB6:=@List.Sublist.refl
def zCw:=@List.Sublist.append
def zAJ:=@List.cons.injEq
def zF:=@Nat.zero_le
def zG:=@Nat.le_refl
def zP:=@Nat.eq_of_beq_eq_true
def zQ:=@Nat.lt_of_lt_of_le
def zZ:=@Nat.le_trans
def zAu:=@Nat.zero_add
def zAL:=@Nat.lt_or_ge
def zBG:=@Nat.le_of_ble_eq_true
def zBI:=@Nat.lt_succ_self
def zBM:=@Nat.add_mul
def zB7:=@Nat.min_eq_left
def zCb:=@Nat.mul_one
def zCc:=@Nat.sub_self
def zCf:=@Nat.ne_of_beq_eq_false
def zCm:=@Nat.succ_mul
def zCu:=@Nat.mul_le_mul_right
def zCS:=@Nat.add_assoc
def zC1:=@Nat.le_of_lt
def zDj:=@Nat.zero_mul
def zDs:=@Nat.eq_zero_or_pos
def zDB:=@Nat.mod_lt
def zDD:=@Nat.not_lt
def zDE:=@Nat.not_le
def zDH:=@Nat.add_comm
def zDJ:=@Nat.add_zero
def zDM:=@Nat.succ_pos
def zD0:=@Nat.le_succ
def zBw:=@Ne.symm
def zU:=@Option.map_eq_some_iff
def zAD:=@Option.bind_eq_some_iff
def zAM:=@Option.getD_some
def zBx:=@Option.map_some
def zCh:=@Option.isSome_some
def zCv:=@Option.isSome_iff_exists
def zCQ:=@Option.bind_some
def zv:=@Option.some.inj
def zAk:=@Option.some.injEq
def zCD:=@Prod.mk.injEq
def ze:=@of_decide_eq_true
def zf:=@of_decide_eq_false
def zh:=@if_neg
def zk:=@if_pos
def zx:=@decide_eq_true_eq
def zC:=@decide_eq_true
def zE:=@decide_eq_false
def zK:=@congrArg
def zA6:=@and_true
def zBh:=@or_false
def zBp:=@if_true
def zBL:=@true_and
def zCd:=@if_false
def zCT:=@and_false
def zCV:=@false_and
def zC2:=@decide_eq_false_iff_not
def zw{P Q:Prop}(k:Q)(h:Q->P:=by(intro h;(conv=>whnf);exact h)):P:=h k
def Ch(es:zR Event):Prop:=∀e∈es,e.loc≠.mark .disable/\e.loc≠.mark .enable
def qQD:Ch #[]:=λ_ h=>by simp at h
def Ch.app{a b}(h:Ch a)(k:Ch b):Ch (a++b):=λe q=>(Array.mem_append.1 q).elim (h e) (k e)
def Ch.push{a}(h:Ch a){e}(k:e.loc≠.mark .disable/\e.loc≠.mark .enable):Ch (a.push e):=λx q=>by
 rcases Array.mem_push.1 q with q|rfl
 .exact h x q
 .exact k
def qbN{f:zM×zR Event->Event->zM×zR Event}(q:∀x e,(e.loc≠.mark .disable/\e.loc≠.mark .enable)->Ch x.2->Ch (f x e).2):∀(l:F Event)x,(∀e∈l,e.loc≠.mark .disable/\e.loc≠.mark .enable)->Ch x.2->Ch (l.foldl f x).2
 |[],_,_,h=>h
 |e::l,x,u,h=>qbN q l (f x e) (λA B=>u A (zAl _ B)) (q x e (u e (zAm ..)) h)
def Ch.seen{P:zt}{fn:zBa}{es:zR Event}(h:Ch es):Ch (seen P fn es):=by
 dsimp only[Go.seen];rw[<-zDp];refine qbN (λx e q u=>?_) _ _ (λe q=>h e (Array.mem_toList_iff.1 q)) qQD;split
 .exact u
 .dsimp only;split
  .exact u
  .exact u.push q
def _root_.Go.Sem.Calm(P:zt){h:Type}:Sem h->Prop
 |.pure _=>True
 |.load _ _ k=>∀v,(k v).Calm P
 |.store _ _ _ k=>k.Calm P
 |.new _ k=>∀r,(k r).Calm P
 |.shape _ k=>∀s,(k s).Calm P
 |.freeze _ _ k=>k.Calm P
 |.frozen _ k=>∀b,(k b).Calm P
 |.getObj _ k=>∀o,(k o).Calm P
 |.setObj _ _ k=>k.Calm P
 |.choose _ k=>∀n,(k n).Calm P
 |.sys _ k=>∀r,(k r).Calm P
 |.program k=>(k P).Calm P
 |.mark m k=>m≠.disable/\m≠.enable/\k.Calm P
 |.halt _=>True
def Calm.bind{P}{u A:Type}{s:Sem u}{f:u->Sem A}(h:s.Calm P)(k:∀a,(f a).Calm P):(s.bind f).Calm P:=by
 induction s with
 |pure a=>exact k a
 |halt _=>trivial
 |mark m s q=>exact⟨h.1,h.2.1,q h.2.2⟩
 |store _ _ _ s q=>exact q h
 |freeze _ _ s q=>exact q h
 |setObj _ _ s q=>exact q h
 |load _ _ s q=>exact λv=>q v (h v)
 |new _ s q=>exact λv=>q v (h v)
 |shape _ s q=>exact λv=>q v (h v)
 |frozen _ s q=>exact λv=>q v (h v)
 |getObj _ s q=>exact λv=>q v (h v)
 |choose _ s q=>exact λv=>q v (h v)
 |sys _ s q=>exact λv=>q v (h v)
 |program s q=>exact q _ h
def Calm.hear{B:Type}{P}{s:Sem B}(h:s.Calm P):∀(w:zp)(es:zR Event),Ch es->Ch (s.runT P w es).2:=by
 have A:∀(l:zR zAH)(f:zAH->Event),(∀a,(f a).loc=.cell a)->Ch (l.map f):=λl f C e q=>by
  obtain⟨a,_,rfl⟩:=Array.mem_map.1 q;rw[C];exact⟨sd,sd⟩
 induction s with
 |pure a=>exact λw es q=>q
 |halt _=>exact λw es q=>q
 |mark m s u=>exact λw es q=>u h.2.2 _ _ (q.push ⟨λe=>h.1 (by simpa using e),λe=>h.2.1 (by simpa using e)⟩)
 |store m a v s u=>
  intro w es q
  have D:Ch ((match w.cell? a with
   |some _=>if w.frozen? a then(.halt (.unsupported (.unsafePointer "a write to bytes that a string shares")) w,es)else s.runT P (w.setCell a v) (es.push ⟨.cell a,I,m==.atomic⟩)
   |none=>match w.farStore P a v (m==.atomic)with
    |.ok (w,H)=>s.runT P w (es++H.toArray.map (⟨.cell ·,I,m==.atomic⟩))
    |.error h=>(.halt h w,es):Result _×zR Event)).2:=by
   split
   .split
    .exact q
    .exact u h _ _ (q.push ⟨sd,sd⟩)
   .split
    .exact u h _ _ (q.app (A _ _ λ_=>rfl))
    .exact q
  cases v<;>first|exact D|exact q
 |freeze _ _ s u=>exact λw es q=>u h _ _ q
 |setObj r o s u=>
  intro w es q;simp only[Sem.runT];split
  .exact q
  .exact u h _ _ (q.push ⟨sd,sd⟩)
  .exact q
 |load m a s u=>
  intro w es q;simp only[Sem.runT];split
  .exact u _ (h _) _ _ (q.push ⟨sd,sd⟩)
  .split
   .exact u _ (h _) _ _ (q.app (A _ _ λ_=>rfl))
   .exact q
 |new _ s u=>exact λw es q=>u _ (h _) _ _ q
 |shape _ s u=>exact λw es q=>u _ (h _) _ _ q
 |frozen _ s u=>exact λw es q=>u _ (h _) _ _ q
 |getObj r s u=>
  intro w es q;simp only[Sem.runT];split
  .exact q
  .exact u _ (h _) _ _ (q.push ⟨sd,sd⟩)
  .exact q
 |choose L s u=>
  intro w es q;simp only[Sem.runT];split
  .exact u _ (h _) _ _ q
  .exact u _ (h _) _ _ q
 |sys _ s u=>exact λw es q=>u _ (h _) _ _ (q.push ⟨sd,sd⟩)
 |program s u=>exact λw es q=>u _ h _ _ q
def BY(N:Z)(w w':zp):Prop:=∀n,n<N->w'.heap[n]?=w.heap[n]?
def BY.refl{N}(w):BY N w w:=λ_ _=>rfl
structure Env(P:zt)where
 N:Z
 main:zM
 Big:zBa->zR zg->zp->(zg->zp->Prop)->Prop
 Stop:zH->zp->Prop
variable{P:zt}
inductive Env.G(E:Env P):zH->zp->Prop
 |stop {g:zH} {w:zp} (h:∀d,E.Stop g (w.at d)):Env.G E g w
 |step {g:zH} {w:zp} (hr:g.status=.running) (gx:Z->zH) (wx:Z->zp) (ex:Z->zR Event)
   (h:∀d,zAE P E.main g (w.at d)=.go (gx d) (wx d) (ex d)/\BY E.N (w.at d) (wx d)/\Ch (ex d)) (k:∀d,Env.G E (gx d) (wx d)):Env.G E g w
 |big {f:zBa} {args:zR zg} {c:zAt} {cs:F zAt} {w:zp} {R:zg->zp->Prop} (h:∀d,E.Big f args (w.at d) R)
   (k:∀v w',R v w'->Env.G E (Conc.G (c.finish v) cs) w'):Env.G E (Conc.G (zAW P f args .normal) (c::cs)) w
variable{E:Env P}
def Env.G.at{g}{w}(h:E.G g w)(d):E.G g (w.at d):=by
 cases h with
 |stop h=>exact .stop λq=>h q
 |step u A B C h k=>exact .step u A B C (λq=>h q) k
 |big h k=>exact .big (λq=>h q) k
def Env.G.one{g}{w}(u:g.status=.running)(h:∀d,∃g' w' es,zAE P E.main g (w.at d)=.go g' w' es/\BY E.N (w.at d) w'/\Ch es/\E.G g' w'):E.G g w:=by
 obtain⟨A,h⟩:=zCA h;obtain⟨B,h⟩:=zCA h;obtain⟨C,q⟩:=zCA h;exact .step u A B C (λd=>⟨(q d).1,(q d).2.1,(q d).2.2.1⟩) λd=>(q d).2.2.2
def Env.G.quiet{g g'}{w}(q:g.status=.running)(h:∀w,zAE P E.main g w=.go g' w #[])(k:E.G g' w):E.G g w:=
 .one q λd=>⟨g',w.at d,#[],h _,.refl _,qQD,k.at d⟩
section
variable{b:zAt}{a:zDN}{k:F Item}{cs:F zAt}{w:zp}{main:zM}
def qRO:zAE P main (G (b.atR a (.code .skip::k)) cs) w=.go (G (b.atR a k) cs) w #[]:=by simp[G,zAE,zBl,zAQ]
def qyV{l}:zAE P main (G (b.atR a (.code (.label l)::k)) cs) w=.go (G (b.atR a k) cs) w #[]:=by simp[G,zAE,zBl,zAQ]
def qIG{id}:zAE P main (G (b.atR a (.inBlock id::k)) cs) w=.go (G (b.atR a k) cs) w #[]:=by simp[G,zAE,zBl,zAQ]
def qwK{c}:zAE P main (G (b.atR a (.inScope c::k)) cs) w=.go (G (b.atR a k) cs) w #[]:=by simp[G,zAE,zBl,zAQ]
def qwV{c}:zAE P main (G (b.atR a (.code (.scope c)::k)) cs) w=.go (G (b.atR a (.code c::.inScope c::k)) cs) w #[]:=by simp[G,zAE,zBl,zAQ]
def q1S{x y}:zAE P main (G (b.atR a (.code (.seq x y)::k)) cs) w=.go (G (b.atR a (.code x::.code y::k)) cs) w #[]:=by simp[G,zAE,zBl,zAQ]
def qTO{c}{x y}{t}(h:a.eval c=.bool t):zAE P main (G (b.atR a (.code (.cond c x y)::k)) cs) w=.go (G (b.atR a (.code (if t then x else y)::k)) cs) w #[]:=by
 have:=congrFun (Frame.eval_atR b a (.code (.cond c x y)::k)) c;simp only[zAQ]at this;simp[G,zAE,zBl,zAQ,this,h]
def qlL{id}{c}:zAE P main (G (b.atR a (.code (.block id c)::k)) cs) w=.go (G (b.atR a (.code c::.inBlock id::k)) cs) w #[]:=by simp[G,zAE,zBl,zAQ]
def q2S{c}:zAE P main (G (b.atR a (.code (.loop c)::k)) cs) w=.go (G (b.atR a (.code c::.inLoop c::k)) cs) w #[]:=by simp[G,zAE,zBl,zAQ]
def qRJ{c}:zAE P main (G (b.atR a (.inLoop c::k)) cs) w=.go (G (b.atR a (.code c::.inLoop c::k)) cs) w #[]:=by simp[G,zAE,zBl,zAQ]
def qSO{id}{k'}(h:exitTo id k=O k'):zAE P main (G (b.atR a (.code (.exit id)::k)) cs) w=.go (G (b.atR a k') cs) w #[]:=by simp[G,zAE,zBl,zAQ,h]
def qUY{l}{k'}(h:gotoIn l k=O k'):zAE P main (G (b.atR a (.code (.goto l)::k)) cs) w=.go (G (b.atR a k') cs) w #[]:=by simp[G,zAE,zBl,zAQ,h]
def qvK(hb:b.roundOf=zc):zAE P main (G (b.atR a (.code .ret::k)) cs) w=.go (G {b.atR a (.code .ret::k)with mode:=.returning} cs) w #[]:=by simp[G,zAE,zBl,zAQ,hb]
def q1P(hb:b.roundOf=zc):zAE P main (G (b.atR a []) cs) w=.go (G {b.atR a []with mode:=.returning} cs) w #[]:=by simp[G,zAE,zBl,zAQ,hb]
variable{ops:zR zDO}
def qIC{id}:zAE P main (G (b.atR a (.code (.region id ops zb)::k)) cs) w=.go (G (b.atR a (.inRegion ops (zBf ops.size)::k)) cs) w #[]:=by simp[G,zAE,zBl,zAQ]
def qfK{id}:zAE P main (G (b.atR a (.code (.region id ops I)::k)) cs) w=.go (G (b.atR a (.inRegion ops (Region.schedule (P.follows .mixedOrders) ops (w.tape w.drawn (.order b.fn id)))::k)) cs) {w with drawn:=w.drawn+1} #[]:=by
 simp[G,zAE,zBl,zAQ,choose,Sem.run,Question.forced,Question.cut]
def quA:zAE P main (G (b.atR a (.inRegion ops []::k)) cs) w=.go (G (b.atR a k) cs) w #[]:=by simp[G,zAE,zBl,zAQ]
def qHG{i}{rest}(h:((ops[i]?).map (zAs · (yielded ops a.tmps))).getD zb=zb):zAE P main (G (b.atR a (.inRegion ops (i::rest)::k)) cs) w=.go (G (b.atR (a.put ((ops[i]?).bind (·.dst)) zAX) (.inRegion ops rest::k)) cs) w #[]:=by
 rw[<-zBe];have q:=h;simp only[zAQ]at*;simp[G,zAE,zBl,q]
def qkL{i}{rest}{o}(q:ops[i]?=O o)(u:zAs o (yielded ops a.tmps)=I):zAE P main (G (b.atR a (.inRegion ops (i::rest)::k)) cs) w=stepG.apply P I (b.atR a (.inRegion ops (i::rest)::k)) cs zc (o.semAt b.roundOf a.eval) w:=by
 have h:=Frame.eval_atR b a (.inRegion ops (i::rest)::k);simp only[zAQ]at h;simp only[G,zAE,zBl,stepG.oper,Frame.oper?,zAQ,q,u,h,zBx,zAM,zBp,Oper.semAt];cases b.roundOf<;>cases o.op<;>rfl
end
end
section
variable{P:zt}
def qoc(E:Env P)(b:zAt)(k:F Item)(cs:F zAt):Exit->zDN->zp->Prop
 |.normal,a,w=>E.G (G (b.atR a k) cs) w
 |.exit id,a,w=>∀h,exitTo id h=exitTo id k->E.G (G (b.atR a (.code (.exit id)::h)) cs) w
 |.goto l,a,w=>∀h,gotoIn l h=gotoIn l k->E.G (G (b.atR a (.code (.goto l)::h)) cs) w
 |.ret,a,w=>∀h,E.G (G (b.atR a (.code .ret::h)) cs) w
 |.panic _,_,_=>True
 |.outgrown,_,_=>True
def _root_.Go.Code.wpX(c:zDT)(E:Env P)(r:zs Z)(Q:Exit->zDN->zp->Prop)(a:zDN)(w:zp):Prop:=
 ∀(b:zAt)(k:F Item)(cs:F zAt),b.roundOf=r->(∀e h w',Q e h w'->qoc E b k cs e h w')->E.G (G (b.atR a (.code c::k)) cs) w
def BH(E:Env P)(f:zBa)(args:zR zg)(w:zp)(R:Ending->zp->Prop):Prop:=
 ∀(c:zAt)(cs:F zAt),(∀v w',R (.returned v) w'->E.G (G (c.finish v) cs) w')->E.G (G (zAW P f args .normal) (c::cs)) w
def Ec(E:Env P)(l:Z)(f:zBa)(tmps:zR zg)(assign h:zDT)(w:zp)(R:Ending->zp->Prop):Prop:=
 ∀(c:zAt)(cs:F zAt),(∀v w',R (.returned v) w'->E.G (G (c.finish v) cs) w')->E.G (G (Frame.round l f tmps assign h .normal) (c::cs)) w
variable{E:Env P}
def BH.mono{f}{args}{w}{R q}(h:BH E f args w R)(u:∀e w',R e w'->q e w'):BH E f args w q:=
 λc cs k=>h c cs λv w' A=>k v w' (u _ _ A)
def Ec.mono{l}{f}{tmps}{assign q}{w}{R u}(h:Ec E l f tmps assign q w R)(A:∀e w',R e w'->u e w'):Ec E l f tmps assign q w u:=
 λc cs k=>h c cs λv w' B=>k v w' (A _ _ B)
section AN
variable{r:zs Z}{Q:Exit->zDN->zp->Prop}{a:zDN}{w:zp}
def q3B{c:zDT}{q:Exit->zDN->zp->Prop}(h:c.wpX E r Q a w)(u:∀e a w,Q e a w->q e a w):c.wpX E r q a w:=
 λb k cs A B=>h b k cs A λe C w' D=>B e C w' (u _ _ _ D)
def qkP(h:Q .normal a w):Code.skip.wpX E r Q a w:=λ_ _ _ _ q=>.quiet rfl (λ_=>qRO) (q _ _ _ h)
def qcS{l}(h:Q .normal a w):(Code.label l).wpX E r Q a w:=λ_ _ _ _ q=>.quiet rfl (λ_=>qyV) (q _ _ _ h)
def qmP{id}(h:Q (.exit id) a w):(Code.exit id).wpX E r Q a w:=λ_ k _ _ q=>q _ _ _ h k rfl
def qlP{l}(h:Q (.goto l) a w):(Code.goto l).wpX E r Q a w:=λ_ k _ _ q=>q _ _ _ h k rfl
def qdL(h:Q .ret a w):Code.ret.wpX E r Q a w:=λ_ k _ _ q=>q _ _ _ h k
def q6H{x y}(h:x.wpX E r (Exit.then (y.wpX E r Q) Q) a w):(Code.seq x y).wpX E r Q a w:=λb k cs B u=>
 .quiet rfl (λ_=>q1S) (h b (.code y::k) cs B λe C w' A=>by
  cases e with
  |normal=>exact A b k cs B u
  |exit id=>exact λq e=>u _ _ _ A q (by rw[e];rfl)
  |goto l=>exact λq e=>u _ _ _ A q (by rw[e];rfl)
  |ret=>exact λq=>u _ _ _ A q
  |panic D=>trivial
  |outgrown=>trivial)
def qnP{c}{x y}{t}(hc:a.eval c=.bool t)(h:(if t then x else y).wpX E r Q a w):(Code.cond c x y).wpX E r Q a w:=λb k cs q u=>
 .quiet rfl (λ_=>qTO hc) (h b k cs q u)
def qKH{c}{x y}(hc:a.eval c=.bool I)(h:x.wpX E r Q a w):(Code.cond c x y).wpX E r Q a w:=qnP hc h
def qkG{c}{x y}(hc:a.eval c=.bool zb)(h:y.wpX E r Q a w):(Code.cond c x y).wpX E r Q a w:=qnP hc h
def qdS{id}{c}(h:c.wpX E r (Exit.inBlock id Q) a w):(Code.block id c).wpX E r Q a w:=λb k cs D A=>
 .quiet rfl (λ_=>qlL) (h b (.inBlock id::k) cs D λe H w' q=>by
  cases e with
  |normal=>exact .quiet rfl (λ_=>qIG) (A _ _ _ q)
  |exit C=>
   by_cases B:C=id
   .simp only[Exit.inBlock,B,zBp]at q;subst B;exact λu e=>.quiet rfl (λ_=>qSO (k':=k) (by rw[e];simp[exitTo])) (A _ _ _ q)
   .simp only[Exit.inBlock,B,zCd]at q;have this:(id==C)=zb:=by simp;exact λh=>B h.symm
    exact λu e=>A _ _ _ q u (by rw[e];simp[exitTo,this])
  |goto l=>exact λu e=>A _ _ _ q u (by rw[e];simp[gotoIn])
  |ret=>exact λu=>A _ _ _ q u
  |panic L=>trivial
  |outgrown=>trivial)
def qcK{c}(I:Z->zDN->zp->Prop)(m:Z)(A:I m a w)(round:∀m a w,I m a w->c.wpX E r (Exit.then (λa' w'=>∃m',m'<m/\I m' a' w') Q) a w):(Code.loop c).wpX E r Q a w:=by
 intro b k cs B u
 have C:∀m a w,I m a w->E.G (G (b.atR a (.code c::.inLoop c::k)) cs) w:=by
  intro m
  induction m using Nat.strongRecOn with
  |_ m D=>
   intro a w H;refine round m a w H b (.inLoop c::k) cs B λe a' w' q=>?_;cases e with
   |normal=>
    obtain⟨m',L,M⟩:=q;exact .quiet rfl (λ_=>qRJ) (D m' L _ _ M)
   |exit id=>exact λh e=>u _ _ _ q h (by rw[e];rfl)
   |goto l=>exact λh e=>u _ _ _ q h (by rw[e];rfl)
   |ret=>exact λh=>u _ _ _ q h
   |panic R=>trivial
   |outgrown=>trivial
 exact .quiet rfl (λ_=>q2S) (C m a w A)
end AN
def _root_.Go.Oper.upX(E:Env P)(o:zDO)(a:zDN)(w:zp)(next:zDN->zp->Prop):Result Next->Prop
 |.ok (.value v) w'=>BY E.N w w'/\next (a.put o.dst v) w'
 |.ok .skip w'=>BY E.N w w'/\next (a.put o.dst zAX) w'
 |.ok (.defer d) w'=>BY E.N w w'/\next ({a with defers:=d::a.defers}.put o.dst zAX) w'
 |.ok (.enter f args) w'=>BY E.N w w'/\BH E f args w' λ
   |.returned v,h=>next (a.put o.dst v) h
   |_,_=>True
 |.ok (.round l f tmps assign q) w'=>BY E.N w w'/\Ec E l f tmps assign q w' λ
   |.returned v,h=>next (a.put o.dst v) h
   |_,_=>True
 |_=>zV
def _root_.Go.Oper.atX(E:Env P)(r:zs Z)(o:zDO)(a:zDN)(w:zp)(next:zDN->zp->Prop):Prop:=
 (o.semAt r a.eval).Calm P/\o.upX E a w next ((o.semAt r a.eval).run P w)
def BH.val{f:zBa}{args:zR zg}{w:zp}{next u:zg->zp->Prop}(h:BH E f args w λ|.returned v,q=>next v q|_,_=>True)(k:∀v w,next v w->u v w):BH E f args w λ|.returned v,q=>u v q|_,_=>True:=
 λc cs A=>h c cs λv w' B=>A v w' (k _ _ B)
def Ec.val{l:Z}{f:zBa}{tmps:zR zg}{assign u:zDT}{w:zp}{next A:zg->zp->Prop}(h:Ec E l f tmps assign u w λ|.returned v,q=>next v q|_,_=>True)(k:∀v w,next v w->A v w):Ec E l f tmps assign u w λ|.returned v,q=>A v q|_,_=>True:=
 λc cs B=>h c cs λv w' C=>B v w' (k _ _ C)
def Oper.Kk{o:zDO}{a:zDN}{w:zp}{K K':zDN->zp->Prop}(h:∀a w,K a w->K' a w){x:Result Next}(q:o.upX E a w K x):o.upX E a w K' x:=by
 cases x with
 |ok x w'=>
  cases x<;>simp only[Go.Oper.upX]at q⊢<;>
   first
    |exact⟨q.1,h _ _ q.2⟩
    |exact⟨q.1,q.2.val λ_ _=>h _ _⟩
    |exact q
 |halt x w'=>exact q
def Oper.KI{r:zs Z}{o:zDO}{a:zDN}{w:zp}{K K':zDN->zp->Prop}(h:∀a w,K a w->K' a w)(q:o.atX E r a w K):o.atX E r a w K':=⟨q.1,Oper.Kk h q.2⟩
def qHC(E:Env P)(r:zs Z)(ops:zR zDO)(i:Z)(K:zDN->zp->Prop)(a:zDN)(w:zp):Prop:=
 match ops[i]? with
 |none=>∀d,K a (w.at d)
 |some o=>if zAs o (yielded ops a.tmps)then ∀d,o.atX E r a (w.at d) K else ∀d,K (a.put o.dst zAX) (w.at d)
def qkV{r}{ops}{i}{a}{w}{K}(h:qHC E r ops i K a w)(d):qHC E r ops i K a (w.at d):=by
 unfold qHC at*;split
 .rename_i u;simp only[u]at h;exact λq=>h q
 .rename_i o u;simp only[u]at h;split
  .rename_i A;simp only[A,zBp]at h;exact λq=>h q
  .rename_i A;simp only[A]at h;exact λq=>h q
def qFG{r}{ops}{i}{a}{w}{K K'}(h:∀a w,K a w->K' a w)(q:qHC E r ops i K a w):qHC E r ops i K' a w:=by
 unfold qHC at*;split
 .rename_i u;simp only[u]at q;exact λd=>h _ _ (q d)
 .rename_i o u;simp only[u]at q;split
  .rename_i A;simp only[A,zBp]at q;exact λd=>Oper.KI h (q d)
  .rename_i A;simp only[A]at q;exact λd=>h _ _ (q d)
def qNE(E:Env P)(r:zs Z)(ops:zR zDO)(K:zDN->zp->Prop):F Z->zDN->zp->Prop
 |[],a,w=>∀d,K a (w.at d)
 |i::rest,a,w=>qHC E r ops i (qNE E r ops K rest) a w
section
variable{b:zAt}{a:zDN}{k:F Item}{cs:F zAt}{w:zp}{ops:zR zDO}{i:Z}{rest:F Z}{o:zDO}
def lst(P:zt)(fr:zAt)(s:Sem Next)(w:zp):zR Event:=Go.seen P fr.fn (if fr.kind==CallKind.early then #[]else s.events P w #[])
def q5E{fr}{s:Sem Next}(h:s.Calm P)(w):Ch (lst P fr s w):=by
 have:=Calm.hear (P:=P) h w #[] qQD;rw[zBs]at this;unfold lst;split
 .exact Ch.seen qQD
 .exact Ch.seen this
section
variable{fr:zAt}{s:Sem Next}{w':zp}
def q0C{v}(h:s.run P w=.ok (.value v) w'):stepG.apply P I fr cs zc s w=.go (G (fr.finish v) cs) w' (lst P fr s w):=by
 simp[stepG.apply,zBs,h,zBF,lst,G]
def qYI(h:s.run P w=.ok .skip w'):stepG.apply P I fr cs zc s w=.go (G (fr.finish zAX) cs) w' (lst P fr s w):=by
 simp[stepG.apply,zBs,h,zBF,lst,G]
def qVK{d}(h:s.run P w=.ok (.defer d) w'):stepG.apply P I fr cs zc s w=.go (G ({fr with defers:=d::fr.defers}.finish zAX) cs) w' (lst P fr s w):=by
 simp[stepG.apply,zBs,h,zBF,lst,G]
def qGH{f}{args}(q:∀d r v k,fr.todo≠.call d I r v::k)(h:s.run P w=.ok (.enter f args) w'):stepG.apply P I fr cs zc s w=.go (G (zAW P f args .normal) (fr::cs)) w' (lst P fr s w):=by
 have:(match fr.todo with|.call _ I _ _::_=>CallKind.wrapped|_=>.normal)=CallKind.normal:=by
  split
  .exact absurd ‹_› (q _ _ _ _)
  .rfl
 simp only[stepG.apply,zBs,h,zBF,lst,G,this,zBp,Array.append_empty]
def qdP{l}{f}{tmps}{assign q}(h:s.run P w=.ok (.round l f tmps assign q) w'):stepG.apply P I fr cs zc s w=.go (G (Frame.round l f tmps assign q .normal) (fr::cs)) w' (lst P fr s w):=by
 simp[stepG.apply,zBs,h,zBF,lst,G]
end
def qQQ(D:ops[i]?=O o)(L:zAs o (yielded ops a.tmps)=I){K}(h:∀d,o.atX E b.roundOf a (w.at d) K)(q:∀a' w',K a' w'->E.G (G (b.atR a' (.inRegion ops rest::k)) cs) w'):E.G (G (b.atR a (.inRegion ops (i::rest)::k)) cs) w:=by
 refine .one rfl λd=>?_;obtain⟨u,h⟩:=h d
 have A:∀(a:zDN)v,(b.atR a (.inRegion ops (i::rest)::k)).finish v=b.atR (a.put o.dst v) (.inRegion ops rest::k):=by
  intro a v;rw[zBe,D];rfl
 rw[qkL D L];generalize B:(o.semAt b.roundOf a.eval).run P (w.at d)=M at h
 match M,h with
 |.ok (.value v) w',h=>exact⟨_,_,_,q0C B,h.1,q5E u _,by rw[A];exact q _ _ h.2⟩
 |.ok .skip w',h=>exact⟨_,_,_,qYI B,h.1,q5E u _,by rw[A];exact q _ _ h.2⟩
 |.ok (.defer H) w',h=>exact⟨_,_,_,qVK B,h.1,q5E u _,by
   have:=A {a with defers:=H::a.defers} zAX
   exact(show E.G (G ((b.atR {a with defers:=H::a.defers} (.inRegion ops (i::rest)::k)).finish zAX) cs) w' from by rw[this];exact q _ _ h.2)⟩
 |.ok (.enter f args) w',h=>exact⟨_,_,_,qGH (λ_ _ _ _ e=>by simp[zAQ]at e) B,h.1,q5E u _,h.2 _ cs λv R C=>by rw[A];exact q _ _ C⟩
 |.ok (.round l f tmps assign T) w',h=>exact⟨_,_,_,qdP B,h.1,q5E u _,h.2 _ cs λv R C=>by rw[A];exact q _ _ C⟩
def qAL{K}(B:∀a' w',K a' w'->E.G (G (b.atR a' k) cs) w'):∀(l:F Z)(a:zDN)(w:zp),qNE E b.roundOf ops K l a w->E.G (G (b.atR a (.inRegion ops l::k)) cs) w:=by
 intro l
 induction l with
 |nil=>exact λa w h=>.quiet rfl (λ_=>quA) (B _ _ (h w.drawn))
 |cons i rest A=>
  intro a w h;simp only[qNE,qHC]at h;cases q:ops[i]? with
  |none=>
   simp only[q]at h;have:=A a w (h w.drawn);refine .quiet rfl (λw=>qHG (by simp[q])) ?_;simpa[q,zBg]using this
  |some o=>
   simp only[q]at h;by_cases u:zAs o (yielded ops a.tmps)=I
   .simp only[u,zBp]at h;exact qQQ q u h A
   .simp only[u,zCd,zAS]at h;have:=A _ w (h w.drawn);refine .quiet rfl (λw=>qHG (by simp[q];simpa using u)) ?_;simpa[q]using this
end
section
variable{r:zs Z}{Q:Exit->zDN->zp->Prop}{a:zDN}{w:zp}{ops:zR zDO}
def qME{id}(h:qNE E r ops (Q .normal) (zBf ops.size) a w):(Code.region id ops zb).wpX E r Q a w:=λb k cs q u=>by
 subst q;exact .quiet rfl (λ_=>qIC) (qAL (λA w' B=>u .normal A w' B) _ _ _ h)
def qLH(E:Env P)(r:zs Z)(ops:zR zDO)(K:zDN->zp->Prop):Z->zR zM->zDN->zp->Prop
 |0,listed,a,w=>zAC .any ops listed=[]/\∀d,K a (w.at d)
 |fuel+1,listed,a,w=>
  (zAC .any ops listed=[]->∀d,K a (w.at d))/\
  ∀i∈zAC .any ops listed,qHC E r ops i (qLH E r ops K fuel (listed.setIfInBounds i I)) a w
def qZS{K}:∀(fuel t:Z)(listed:zR zM)(a:zDN)(w:zp),qLH E r ops K fuel listed a w->qNE E r ops K (Region.linearise.go .any ops fuel t listed []) a w:=by
 intro fuel
 induction fuel with
 |zero=>intro t listed a w h;simpa[Region.linearise.go,qNE]using h.2
 |succ fuel u=>
  intro t listed a w h
  have e:Region.linearise.go .any ops (fuel+1) t listed []=match(zAC .any ops listed)[t%(zAC .any ops listed).length]? with
   |some i=>Region.linearise.go .any ops fuel (t / (zAC .any ops listed).length) (listed.setIfInBounds i I) [i]
   |none=>[].reverse:=rfl
  rw[e];split
  .rename_i i q;rw[linearise_go_acc];exact qFG (λa w=>u _ _ a w) (h.2 i (zl q))
  .rename_i q;refine h.1 ?_;cases A:zAC .any ops listed with
   |nil=>rfl
   |cons x B=>
    rw[A]at q;rw[zCq]at q;exact absurd (zDB t (show 0<(x::B).length by simp)) sa
def q2C{id}(hm:P.follows .mixedOrders=I)(h:qLH E r ops (Q .normal) ops.size (zAU ops.size zb) a w):(Code.region id ops I).wpX E r Q a w:=λb k cs q u=>by
 subst q;refine .one rfl λd=>⟨_,_,_,qfK,λ_ _=>rfl,qQD,?_⟩
 have:E.G (G (b.atR a (.inRegion ops (Region.schedule (P.follows .mixedOrders) ops ((w.at d).tape (w.at d).drawn (.order b.fn id)))::k)) cs) w:=by
  refine qAL (λA w' B=>u .normal A w' B) _ _ _ ?_;simp only[Region.schedule,hm,Bool.true_or,zBp];exact qZS _ _ _ _ _ h
 exact this.at _
end
end
end Go.Proofs.YtlmhpamhhgogaaaGreat.Sx
namespace Go.Proofs.YtlmhpamhhgogaaaGreat.Sx
open Go.RowKit
inductive SV where
 |v (x:zg)
 |b (x:zM)
 |p (id b off:Z)
 |sl (id b off len cap:Z)
 |row (id:Z) (oa:zs zAH) (n cap:Z)
 |re (id:Z) (oa:zs zAH) (n cap:Z) (j:Z)
 |fn (f:Fn) (first caps:F SV)
 |yl (id l:Z)
 |mp (id r:Z)
 |agg (l:F SV)
 |tup (l:F SV)
mutual
def Ae:SV->zg
 |.v x=>x
 |.b x=>.bool x
 |.p _ b o=>.pointer (O ⟨b,o,zc⟩)
 |.sl _ b o n c=>.slice (O ⟨b,o,zc⟩) n c
 |.row _ oa n cap=>.slice oa n cap
 |.re _ oa _ _ j=>.pointer (oa.map (·.add j))
 |.fn f a c=>.func f (qDA a).toArray (qDA c).toArray
 |.yl _ l=>.func (.yield l) #[] #[]
 |.mp _ r=>.map (O r)
 |.agg l=>.agg (qDA l).toArray
 |.tup l=>.tuple (qDA l).toArray
def qDA:F SV->F zg
 |[]=>[]
 |x::r=>Ae x::qDA r
end
def qiA(l):qDA l=l.map Ae:=by
 induction l with
 |nil=>rfl
 |cons x r h=>simp[qDA,h]
abbrev Sl:=F (Z×SV)
def AS:Sl->Z->zs SV
 |[],_=>zc
 |(k,x)::r,n=>match zAP k n with
  |true=>O x
  |false=>AS r n
structure GW where
 w:zp
 g:Z->Prop
 wf:∀n,g n->n<w.heap.size
def GW.le(a b:GW):Prop:=a.w.heap.size<=b.w.heap.size/\∀n,a.g n->b.g n/\b.w.heap[n]?=a.w.heap[n]?
instance:LE GW:=⟨GW.le⟩
def GW.refl(a:GW):a<=a:=⟨zG _,λ_ h=>⟨h,rfl⟩⟩
def GW.trans{a b c:GW}(h:a<=b)(k:b<=c):a<=c:=
 ⟨zZ h.1 k.1,λn q=>⟨(k.2 n (h.2 n q).1).1,(k.2 n (h.2 n q).1).2.trans (h.2 n q).2⟩⟩
def Good(g:GW)(w:zp):Prop:=g.w.heap.size<=w.heap.size/\∀n,g.g n->w.heap[n]?=g.w.heap[n]?
def Good.refl(g):Good g g.w:=⟨zG _,λ_ _=>rfl⟩
def Good.of_le{a b}{w}(h:a<=b)(k:Good b w):Good a w:=
 ⟨zZ h.1 k.1,λn q=>(k.2 n (h.2 n q).1).trans (h.2 n q).2⟩
def GW.next(g:GW)(w w':zp):GW:=
 ⟨w',λn=>n<w'.heap.size/\(g.g n\/w.heap.size<=n),λ_ h=>h.1⟩
def GW.le_next{g}{w w'}(h:Good g w)(hb:Below w.heap.size w w'):g<=g.next w w':=by
 refine⟨zZ h.1 hb.size,λn q=>?_⟩;have u:n<w.heap.size:=zQ (g.wf n q) h.1;exact⟨⟨zQ u hb.size,.inl q⟩,(hb.block n u).trans (h.2 n q)⟩
def GW.more(g:GW)(w:zp)(bs:F Z):GW:=
 ⟨w,λn=>n<w.heap.size/\(g.g n\/n∈bs),λ_ h=>h.1⟩
def GW.G0{g}{w}(h:Good g w)(bs):g<=g.more w bs:=
 ⟨h.1,λn q=>⟨⟨zQ (g.wf n q) h.1,.inl q⟩,h.2 n q⟩⟩
def Rc(g:GW)(a:zAH)(x:zg):Prop:=g.g a.block/\g.w.cell? a=O x
def Rc.mono{g g'}{a}{x}(h:Rc g a x)(k:g<=g'):Rc g' a x:=
 ⟨(k.2 _ h.1).1,by rw[World.cell?_of_block (k.2 _ h.1).2];exact h.2⟩
def Rc.at{g}{a}{x}(h:Rc g a x){w}(k:Good g w):w.cell? a=O x:=by
 rw[World.cell?_of_block (k.2 _ h.1)];exact h.2
def Dl(g:GW)(size:Z)(x:zg)(n:Z)(cs:F zg):Prop:=
 cs.length=n*size/\∃h cap,x=.slice h n cap/\n<=cap/\cap<=zAr/\(h=zc->n=0/\cap=0)/\∀i q,cs[i]?=O q->∃a,h=O a/\Rc g (a.add i) q
def Dl.mono{g g'}{size}{x}{n}{cs}(h:Dl g size x n cs)(k:g<=g'):Dl g' size x n cs:=by
 obtain⟨q,u,cap,w,A,B,C,D⟩:=h;exact⟨q,u,cap,w,A,B,C,λi E H=>let⟨a,L,M⟩:=D i E H;⟨a,L,M.mono k⟩⟩
def Ok(P:zt)(f:zBa)(args:F zg)(g:GW)(Q:zg->GW->Prop):Prop:=
 ∀h,Good g h->∀q:Env P,q.N<=h.heap.size->BH q f args.toArray h λe u=>∃v,e=.returned v/\Below h.heap.size h u/\Q v (g.next h u)
def OkV(P:zt)(f:zBa)(args:F zg)(g:GW)(v:zg):Prop:=Ok P f args g λh _=>h=v
def Ok.mono{P}{f}{args}{g}{Q q}(h:Ok P f args g Q)(A:∀v g',g<=g'->Q v g'->q v g'):Ok P f args g q:=
 λB u C hE=>(h B u C hE).mono λ_ _⟨v,D,w,E⟩=>⟨v,D,w,A v _ (GW.le_next u w) E⟩
def Ok.of_same{P}{f}{args}{g}{v}(h:∀w(E:Env P),BH E f args.toArray w λe w'=>e=.returned v/\Below w.heap.size w w'):OkV P f args g v:=
 λw _ E _=>(h w E).mono λ_ _⟨q,u⟩=>⟨v,q,u,rfl⟩
inductive Ex where
 |normal
 |exit (n:Z)
 |ret
 |goto (n:Z)
def Ex.to:Ex->Exit
 |.normal=>.normal
 |.exit n=>.exit n
 |.ret=>.ret
 |.goto n=>.goto n
def Ex.code:Ex->zDT
 |.normal=>.skip
 |.exit n=>.exit n
 |.ret=>.ret
 |.goto n=>.goto n
inductive LpS where
 |ready
 |busy
 |jump (e:Ex)
def qkH(r:Loop):LpS->Loop
 |.ready=>{r with state:=.ready,pending:=zc}
 |.busy=>{r with state:=.busy,pending:=zc}
 |.jump e=>{r with state:=.done,pending:=O e.code}
inductive Ky where
 |i (n:zn)
 |s (b:ByteArray)
 |p (a b:zn)
inductive KyT where
 |int (ik:IntKind)
 |str
 |two
abbrev KyT.i64:KyT:=.int .i64
def KyT.v:KyT->Ky->zg
 |.int h,.i n=>.int h n
 |.str,.s b=>.string b
 |.two,.p a b=>.agg ⟨[.int .i64 a,.int .i64 b]⟩
 |_,_=>.nilFunc
def KyT.fit:KyT->Ky->zM
 |.int _,.i _=>I
 |.str,.s _=>I
 |.two,.p _ _=>I
 |_,_=>zb
def KyT.fits(h:KyT):F (Ky×zg)->zM
 |[]=>I
 |(k,_)::r=>h.fit k&&h.fits r
def mkE(h:KyT):Z->F (Ky×zg)->F MapEntry
 |_,[]=>[]
 |b,(n,v)::r=>{key:=h.v n,val:=v,born:=b}::mkE h (b+1) r
inductive Res where
 |blk (id b:Z) (ty:zAy) (cells:F SV)
 |row (id:Z) (oa:zs zAH) (n cap:Z) (ety:zAy) (size:Z) (cs:F zg)
 |lp (id l:Z) (r:Loop) (j:LpS)
 |mk (b:Z)
 |mp (id r:Z) (ik:KyT) (es:F (Ky×zg))
def Res.bk:Res->F Z
 |.blk _ b _ _=>[b]
 |.row _ h _ _ _ _ _=>match h with
  |some a=>[a.block]
  |none=>[]
 |.lp _ l _ _=>[l]
 |.mk b=>[b]
 |.mp _ r _ _=>[r]
def Res.holds:Res->zp->Prop
 |.blk _ b u cells,h=>h.heap[b]?=O (.cells (qDA cells).toArray u (0,0))/\∀c∈cells,(Ae c).oneCell'=I
 |.row _ w n cap A size cs,h=>h.ownsRow 0 A size (.slice w n cap) n cs/\∀B∈cs,B.oneCell'=I
 |.lp _ l r j,h=>h.heap[l]?=O (.loop (qkH r j))
 |.mk b,h=>h.heap[b]?=O (.deferred (O []))
 |.mp _ r q es,h=>h.heap[r]?=O (.map ⟨mkE q 0 es⟩ es.length)/\q.fits es=I
def Res.holds_of{r:Res}{w w':zp}(h:∀b∈r.bk,w'.heap[b]?=w.heap[b]?)(k:r.holds w):r.holds w':=by
 cases r with
 |blk id b H cells=>exact⟨(h b sk).trans k.1,k.2⟩
 |lp id l r j=>exact(h l sk).trans k
 |mk b=>exact(h b sk).trans k
 |mp id r L es=>exact⟨(h r sk).trans k.1,k.2⟩
 |row id M n cap P size cs=>
  obtain⟨⟨A,q⟩,B⟩:=k;refine⟨⟨A,?_⟩,B⟩;rcases q with q|⟨g,Q,C,u,D,E,r⟩
  .exact .inl q
  .simp only[zAp]at u;obtain⟨rfl,_,rfl⟩:=u;exact .inr ⟨g,cap,C,rfl,D,(h g sk).trans E,r⟩
def Res.Gp{r:Res}{w:zp}(k:r.holds w){b:Z}(hb:b∈r.bk):b<w.heap.size:=by
 have h:∀{n:Z}{o:Obj},w.heap[n]?=O o->n<w.heap.size:=λu=>(zAg.1 u).1;cases r with
 |blk id b C cells=>simp[Res.bk]at hb;subst hb;exact h k.1
 |lp id l r j=>simp[Res.bk]at hb;subst hb;exact h k
 |mk b=>simp[Res.bk]at hb;subst hb;exact h k
 |mp id r D es=>simp[Res.bk]at hb;subst hb;exact h k.1
 |row id E n cap H size cs=>
  obtain⟨⟨L,A⟩,M⟩:=k;rcases A with⟨q,_⟩|⟨g,P,Q,q,R,B,r⟩
  .simp only[zAp]at q;obtain⟨rfl,_,rfl⟩:=q;simp[Res.bk]at hb
  .simp only[zAp]at q;obtain⟨rfl,_,rfl⟩:=q;simp[Res.bk]at hb;subst hb;exact h B
structure Hs where
 g:GW
 rs:F Res
 nx:Z
 lo:Z
def Hs.bks(hs:Hs):F Z:=hs.rs.flatMap Res.bk
structure Fr where
 w:zp
 pr:Z->Prop
 g0:Z->Prop
 wf:∀n,pr n->n<w.heap.size
structure Fr.ok(fr:Fr)(w:zp):Prop where
 os:w.os=fr.w.os
 tape:w.tape=fr.w.tape
 output:w.output=fr.w.output
 size:fr.w.heap.size<=w.heap.size
 block:∀n,fr.pr n->w.heap[n]?=fr.w.heap[n]?
structure Aq(fr:Fr)(hs:Hs)(w:zp):Prop where
 AJ:Good hs.g w
 frm:fr.ok w
 res:∀r∈hs.rs,r.holds w
 nod:hs.bks.Nodup
 fre:∀b∈hs.bks,¬hs.g.g b/\¬fr.pr b
 fz:∀n,fr.pr n->hs.g.g n->fr.g0 n
 own:∀n,hs.lo<=n->hs.g.g n->¬fr.pr n
 low:hs.lo<=w.heap.size/\∀b∈hs.bks,hs.lo<=b
def Aq.lt{fr:Fr}{hs}{w}(h:Aq fr hs w){b}(hb:b∈hs.bks):b<w.heap.size:=by
 obtain⟨r,q,u⟩:=zBA.1 hb;exact Res.Gp (h.res r q) u
def Aq.agree{fr:Fr}{hs}{w w'}(h:Aq fr hs w)(hb:Below w.heap.size w w'):Aq fr hs w':=by
 refine⟨⟨zZ h.AJ.1 hb.size,λn q=>?_⟩,⟨hb.os.trans h.frm.os,hb.tape.trans h.frm.tape,hb.output.trans h.frm.output,zZ h.frm.size hb.size,λn q=>?_⟩,λr u=>?_,h.nod,h.fre,h.fz,h.own,zZ h.low.1 hb.size,h.low.2⟩
 .exact(hb.block n (zQ (hs.g.wf n q) h.AJ.1)).trans (h.AJ.2 n q)
 .exact(hb.block n (zQ (fr.wf n q) h.frm.size)).trans (h.frm.block n q)
 .exact Res.holds_of (λb A=>hb.block b (Res.Gp (h.res r u) A)) (h.res r u)
def Aq.called{fr:Fr}{hs}{w w'}(h:Aq fr hs w)(hb:Below w.heap.size w w'):Aq fr {hs with g:=hs.g.next w w'} w':=by
 have A:=h.agree hb;refine⟨Good.refl _,A.frm,A.res,h.nod,λb B=>⟨λq=>?_,(h.fre b B).2⟩,λn u q=>?_,λn C q u=>?_,A.low⟩
 .have D:=h.lt B;rcases q.2 with q|q
  .exact(h.fre b B).1 q
  .omega
 .rcases q.2 with q|q
  .exact h.fz n u q
  .have:=fr.wf n u;have:=h.frm.size;omega
 .rcases q.2 with q|q
  .exact h.own n C q u
  .have:=fr.wf n u;have:=h.frm.size;omega
def Aq.at{fr:Fr}{hs}{w}(h:Aq fr hs w)(d):Aq fr hs (w.at d):=h.agree ⟨rfl,rfl,rfl,zG _,λ_ _=>rfl⟩
def Fr.has{P:zt}(fr:Fr)(E:Env P):Prop:=∀n,n<E.N->fr.pr n
def Aq.keep{P:zt}{E:Env P}{fr:Fr}{hs A:Hs}{w w':zp}(h:Aq fr hs w)(k:Aq fr A w')(q:fr.has E):BY E.N w w':=λn u=>(k.frm.block n (q n u)).trans (h.frm.block n (q n u)).symm
def Aq.N{P:zt}{E:Env P}{fr:Fr}{hs:Hs}{w:zp}(h:Aq fr hs w)(q:fr.has E):E.N<=w.heap.size:=by
 rcases zAL w.heap.size E.N with u|A
 .have:=fr.wf _ (q _ u);have:=h.frm.size;omega
 .exact A
def Below.AU(w)(o):Below w.heap.size w (w.alloc o):=(Below.refl _ _).alloc (zG _) o
def Aq.EL{fr:Fr}{hs}{w w'}(h:Aq fr hs w)(hb:Below w.heap.size w w'){r}{nx}(C:r.holds w')(hk:∀b∈r.bk,w.heap.size<=b)(D:r.bk.Nodup):Aq fr {hs with rs:=r::hs.rs,nx:=nx} w':=by
 have u:=h.agree hb;refine⟨u.AJ,u.frm,λx A=>?_,?_,λb B=>?_,h.fz,h.own,u.low.1,λb B=>?_⟩
 .rcases zJ.1 A with rfl|A
  .exact C
  .exact u.res x A
 .show(r.bk++hs.bks).Nodup;refine zBk.2 ⟨D,h.nod,λa E b q H=>?_⟩;subst H;have:=hk a E;have:=h.lt q;omega
 .rcases zL.1 (show b∈r.bk++hs.bks from B)with q|q
  .have:=hk b q;exact⟨λL=>by have:=hs.g.wf b L;have:=h.AJ.1;omega,λM=>by have:=fr.wf b M;have:=h.frm.size;omega⟩
  .exact h.fre b q
 .rcases zL.1 (show b∈r.bk++hs.bks from B)with q|q
  .exact zZ h.low.1 (hk b q)
  .exact h.low.2 b q
def Aq.sub{fr:Fr}{hs}{w}(h:Aq fr hs w){rs}{nx}(q:rs.Sublist hs.rs):Aq fr {hs with rs:=rs,nx:=nx} w:=by
 have u:(rs.flatMap Res.bk).Sublist hs.bks:=by
  unfold Hs.bks;generalize hs.rs=l at q
  induction q with
  |slnil=>exact .slnil
  |cons a _ A=>rw[zB5];exact A.trans (List.sublist_append_right _ _)
  |cons_cons a _ A=>rw[zB5,zB5];exact zCw (zB6 _) A
 exact⟨h.AJ,h.frm,λr C=>h.res r (q.subset C),h.nod.sublist u,λb B=>h.fre b (u.subset B),h.fz,h.own,h.low.1,λb B=>h.low.2 b (u.subset B)⟩
def Aq.upd{fr:Fr}{hs}{w w'}(h:Aq fr hs w){B C}{D r1}{nx}(hl:hs.rs=B++D::C)(ag:w'.os=w.os)(ah:w'.tape=w.tape)(ai:w'.output=w.output)(R:w.heap.size<=w'.heap.size)(L:∀k,k<w.heap.size->k∉D.bk->w'.heap[k]?=w.heap[k]?)(aj:r1.holds w')(hk:∀b∈r1.bk,b∈D.bk\/w.heap.size<=b)(ak:r1.bk.Nodup):Aq fr {hs with rs:=B++r1::C,nx:=nx} w':=by
 have M:hs.bks=B.flatMap Res.bk++(D.bk++C.flatMap Res.bk):=by simp[Hs.bks,hl]
 have ab:=h.nod;rw[M]at ab;obtain⟨al,an,ac⟩:=zBk.1 ab;obtain⟨av,ao,ap⟩:=zBk.1 an;have ad:∀b∈B.flatMap Res.bk,b∉D.bk:=λb q T=>ac b q b (zL.2 (.inl T)) rfl;have ae:∀b∈C.flatMap Res.bk,b∉D.bk:=λb q T=>ap b T b q rfl;have P:∀b∈D.bk,b∈hs.bks:=λb q=>by rw[M];simp[q]
 have U:∀b∈B.flatMap Res.bk,b∈hs.bks:=λb q=>by rw[M];exact zL.2 (.inl q)
 have V:∀b∈C.flatMap Res.bk,b∈hs.bks:=λb q=>by rw[M];exact zL.2 (.inr (zL.2 (.inr q)))
 have af:∀b∈r1.bk,b∉B.flatMap Res.bk/\b∉C.flatMap Res.bk:=λb q=>by
  rcases hk b q with u|u
  .exact⟨λA=>ad b A u,λW=>ae b W u⟩
  .exact⟨λA=>by have:=h.lt (U b A);omega,λW=>by have:=h.lt (V b W);omega⟩
 have Y:Hs.bks {hs with rs:=B++r1::C,nx:=nx}=B.flatMap Res.bk++(r1.bk++C.flatMap Res.bk):=by simp[Hs.bks]
 refine⟨⟨zZ h.AJ.1 R,λn E=>?_⟩,⟨ag.trans h.frm.os,ah.trans h.frm.tape,ai.trans h.frm.output,zZ h.frm.size R,λn E=>?_⟩,λr aq=>?_,?_,λb q=>?_,h.fz,h.own,zZ h.low.1 R,λb q=>?_⟩
 .refine(L n (zQ (hs.g.wf n E) h.AJ.1) λu=>?_).trans (h.AJ.2 n E);exact(h.fre n (P n u)).1 E
 .refine(L n (zQ (fr.wf n E) h.frm.size) λu=>?_).trans (h.frm.block n E);exact(h.fre n (P n u)).2 E
 .rcases zL.1 aq with A|A
  .have H:=h.res r (by rw[hl];exact zL.2 (.inl A));exact Res.holds_of (λb q=>L b (Res.Gp H q) (ad b (zBA.2 ⟨r,A,q⟩))) H
  .rcases zJ.1 A with rfl|A
   .exact aj
   .have H:=h.res r (by rw[hl];exact zL.2 (.inr (zJ.2 (.inr A))));exact Res.holds_of (λb q=>L b (Res.Gp H q) (ae b (zBA.2 ⟨r,A,q⟩))) H
 .rw[Y];refine zBk.2 ⟨al,zBk.2 ⟨ak,ao,λa Q b q aa=>(af a Q).2 (aa▸q)⟩,λa Q b q aa=>?_⟩;subst aa;rcases zL.1 q with q|q
  .exact(af a q).1 Q
  .exact ac a Q a (zL.2 (.inr q)) rfl
 .rw[Y]at q;rcases zL.1 q with q|q
  .exact h.fre b (U b q)
  .rcases zL.1 q with q|q
   .rcases hk b q with u|u
    .exact h.fre b (P b u)
    .exact⟨λar=>by have:=hs.g.wf b ar;have:=h.AJ.1;omega,λau=>by have:=fr.wf b au;have:=h.frm.size;omega⟩
   .exact h.fre b (V b q)
 .rw[Y]at q;rcases zL.1 q with q|q
  .exact h.low.2 b (U b q)
  .rcases zL.1 q with q|q
   .rcases hk b q with u|u
    .exact h.low.2 b (P b u)
    .exact zZ h.low.1 u
   .exact h.low.2 b (V b q)
def Aq.freeze{fr:Fr}{hs}{w}(h:Aq fr hs w){u A}{D}{nx}(hl:hs.rs=u++D::A):Aq fr {g:=hs.g.more w D.bk,rs:=u++A,nx:=nx,lo:=hs.lo} w:=by
 have E:hs.bks=u.flatMap Res.bk++(D.bk++A.flatMap Res.bk):=by simp[Hs.bks,hl]
 have M:=h.nod;rw[E]at M;obtain⟨U,P,Q⟩:=zBk.1 M;obtain⟨V,W,R⟩:=zBk.1 P;have B:=h.sub (rs:=u++A) (nx:=nx) (by rw[hl];exact zCw (zB6 _) (zCe _ _));refine⟨Good.refl _,h.frm,B.res,B.nod,λb H=>⟨λq=>?_,(B.fre b H).2⟩,λn C q=>?_,λn hl q C=>?_,B.low⟩
 .rcases q.2 with q|q
  .exact(B.fre b H).1 q
  .have T:b∈u.flatMap Res.bk++A.flatMap Res.bk:=by simpa[Hs.bks]using H
   rcases zL.1 T with L|L
   .exact Q b L b (zL.2 (.inl q)) rfl
   .exact R b q b L rfl
 .rcases q.2 with q|q
  .exact h.fz n C q
  .exact absurd C (h.fre n (by rw[E];simp[q])).2
 .rcases q.2 with q|q
  .exact h.own n hl q C
  .exact absurd C (h.fre n (by rw[E];simp[q])).2
def Fr.le(a b:Fr):Prop:=(∀h,b.ok h->a.ok h)/\(∀n,a.pr n->b.pr n/\(b.g0 n->a.g0 n))
def Fr.has.up{P:zt}{E:Env P}{a b:Fr}(h:a.has E)(k:a.le b):b.has E:=λn q=>(k.2 n (h n q)).1
def Fr.refl(a:Fr):a.le a:=⟨λ_ h=>h,λ_ h=>⟨h,λh=>h⟩⟩
def Fr.trans{a b c:Fr}(h:a.le b)(k:b.le c):a.le c:=⟨λu w=>h.1 u (k.1 u w),λn q=>⟨(k.2 n (h.2 n q).1).1,λA=>(h.2 n q).2 ((k.2 n (h.2 n q).1).2 A)⟩⟩
def Aq.Fg{a b:Fr}{hs}{w}(h:Aq b hs w)(k:a.le b):Aq a hs w:=
 ⟨h.AJ,k.1 w h.frm,h.res,h.nod,λn A=>⟨(h.fre n A).1,λq=>(h.fre n A).2 (k.2 n q).1⟩,λn q u=>(k.2 n q).2 (h.fz n (k.2 n q).1 u),λn B u q=>h.own n B u (k.2 n q).1,h.low⟩
structure Upd(g:GW)(b:Z)(o:Obj)(g':GW):Prop where
 dom:∀n,g'.g n<->g.g n
 obj:g'.w.heap[b]?=O o
 other:∀n,g.g n->n≠b->g'.w.heap[n]?=g.w.heap[n]?
 size:g.w.heap.size<=g'.w.heap.size
def Upd.le{g g' g0}{b}{o}(h:Upd g b o g')(k:g0<=g)(hb:¬g0.g b):g0<=g':=
 ⟨zZ k.1 h.size,λn q=>⟨(h.dom n).2 (k.2 n q).1,(h.other n (k.2 n q).1 λe=>hb (e▸q)).trans (k.2 n q).2⟩⟩
structure Hy(g:GW)(b:Z)(g':GW):Prop where
 dom:∀n,g'.g n<->g.g n/\n≠b
 other:∀n:Z,g'.w.heap[n]?=g.w.heap[n]?
 size:g.w.heap.size=g'.w.heap.size
def Hy.le{g g' g0}{b}(h:Hy g b g')(k:g0<=g)(hb:¬g0.g b):g0<=g':=
 ⟨h.size▸k.1,λn q=>⟨(h.dom n).2 ⟨(k.2 n q).1,λe=>hb (e▸q)⟩,(h.other n).trans (k.2 n q).2⟩⟩
def GW.less(g:GW)(b:Z):GW:=⟨g.w,λn=>g.g n/\n≠b,λn h=>g.wf n h.1⟩
def GW.J4(g)(b):Hy g b (g.less b):=⟨λ_=>zD1,λ_=>rfl,rfl⟩
def Aq.J0{fr:Fr}{hs}{w w'}(h:Aq fr hs w){b}{o}(D:hs.lo<=b)(B:hs.g.g b)(E:w'.os=w.os)(H:w'.tape=w.tape)(L:w'.output=w.output)(u:w'.heap.size=w.heap.size)(hb:w'.heap[b]?=O o)(A:∀k,k≠b->w'.heap[k]?=w.heap[k]?):∃g',Upd hs.g b o g'/\Aq fr ⟨g',hs.rs,hs.nx,hs.lo⟩ w':=by
 have M:b∉hs.bks:=λhm=>(h.fre b hm).1 B;refine⟨⟨w',hs.g.g,λn q=>by have:=hs.g.wf n q;have:=h.AJ.1;omega⟩,⟨λ_=>zD1,hb,λn q P=>(A n P).trans (h.AJ.2 n q),by rw[u];exact h.AJ.1⟩,?_⟩;refine⟨Good.refl _,⟨E.trans h.frm.os,H.trans h.frm.tape,L.trans h.frm.output,by rw[u];exact h.frm.size,λn q=>?_⟩,λr C=>?_,h.nod,h.fre,h.fz,h.own,by show hs.lo<=w'.heap.size;rw[u];exact h.low.1,h.low.2⟩
 .exact(A n λe=>h.own b D B (e▸q)).trans (h.frm.block n q)
 .exact Res.holds_of (λk Q=>A k λe=>M (e▸zBA.2 ⟨r,C,Q⟩)) (h.res r C)
def Aq.thaw{fr:Fr}{hs}{w}(h:Aq fr hs w){r}{b nx}(H:r.bk=[b])(D:hs.lo<=b)(E:hs.g.g b)(L:r.holds w):Aq fr ⟨hs.g.less b,r::hs.rs,nx,hs.lo⟩ w:=by
 have M:b∉hs.bks:=λhm=>(h.fre b hm).1 E;have u:Hs.bks ⟨hs.g.less b,r::hs.rs,nx,hs.lo⟩=b::hs.bks:=by simp[Hs.bks,H]
 refine⟨⟨h.AJ.1,λn P=>h.AJ.2 n P.1⟩,h.frm,λx A=>?_,?_,λc q=>?_,λn Q B=>h.fz n Q B.1,λn R B=>h.own n R B.1,h.low.1,λc q=>?_⟩
 .rcases zJ.1 A with rfl|A
  .exact L
  .exact h.res x A
 .rw[u];exact zBy.2 ⟨M,h.nod⟩
 .rw[u]at q;rcases zJ.1 q with rfl|q
  .exact⟨λC=>C.2 rfl,h.own _ D E⟩
  .exact⟨λC=>(h.fre c q).1 C.1,(h.fre c q).2⟩
 .rw[u]at q;rcases zJ.1 q with rfl|q
  .exact D
  .exact h.low.2 c q
def AX(g:GW)(lo:Z)(ety:zAy)(size:Z)(v:zg)(n:Z)(cs:F zg):Prop:=
 cs.length=n*size/\((v=.slice zc 0 0/\n=0)\/∃b cap rest,v=.slice (O ⟨b,0,zc⟩) n cap/\(lo<=b/\g.g b)/\g.w.heap[b]?=O (.cells ⟨cs++rest⟩ ety (0,0))/\n<=cap/\cap<=zAr/\(cs++rest).length=cap*size)/\∀h∈cs,h.oneCell'=I
def AX.mono{g g'}{lo}{ety}{size}{v}{n}{cs}(h:AX g lo ety size v n cs)(k:g<=g'):AX g' lo ety size v n cs:=by
 obtain⟨w,q,A⟩:=h;refine⟨w,?_,A⟩;rcases q with q|⟨b,cap,rest,B,u,C,D⟩
 .exact .inl q
 .exact .inr ⟨b,cap,rest,B,⟨u.1,(k.2 b u.2).1⟩,(k.2 b u.2).2.trans C,D⟩
inductive Opd where
 |t (n:Z)
 |c (v:zg)
 |b (x:zM)
 deriving Inhabited
inductive SOp where
 |mov (x:Opd)
 |pick (c a b:Opd)
 |Ld (op:BinOp) (x y:Opd)
 |NB (op:BinOp) (x y:Opd)
 |Le (neg:zM) (x y:Opd)
 |I6 (kind:Z) (neg:zM) (x:Opd)
 |HZ (neg:zM) (ks:F Z) (x y:Opd)
 |not (x:Opd)
 |conv(k:IntKind) (x:Opd)
 |len (str:zM) (x:Opd)
 |Nc (x i:Opd)
 |Nf (n size:Z) (agg:zM) (x i:Opd)
 |Fp (off:Z) (x:Opd)
 |fld (off size:Z) (agg:zM) (x:Opd)
 |Lk (n size:Z) (x i:Opd)
 |LH (size:Z) (x i:Opd)
 |load (agg:zM) (size:Z) (x:Opd)
 |nck (x:Opd)
 |ext (i:Z) (x:Opd)
 |mkf (f:Fn) (first caps:F Opd)
 |build (zero:F SV) (parts:F (Z×Z×Opd))
 |MC (x:Opd) (lo hi:zs Opd)
 |slc (size:Z) (x:Opd) (lo hi mx:zs Opd)
 |M2 (x y:Opd)
 |tos (x:Opd)
 |look (ik:KyT) (z:zg) (ok:zM) (x k:Opd)
 |store (size:Z) (x y:Opd)
 |alloc (ty:zAy) (zero:F SV)
 |box (ty:zAy) (x:Opd)
 |bsl (ety:zAy) (size len:Z) (zero:F SV) (parts:F (Z×Z×Opd))
 |app (ety:zAy) (size bytes:Z) (s x:Opd)
 |msl (ety:zAy) (size bytes:Z) (zero:F zg) (len cap:Opd)
 |cpy (d s:Opd)
 |mkm (ik:KyT)
 |mup (ik:KyT) (m k v:Opd)
 |men (ik:KyT) (z:zg) (m k:Opd)
 |est (m s v:Opd)
 |call (f:zBa) (args:F Opd)
 |JO (f:zBa) (args:F Opd)
 |I4 (f:Opd) (args:F Opd)
 deriving Inhabited
def qIA:Operand->Opd
 |.tmp t=>.t t
 |.const v=>match v with
  |.bool x=>.b x
  |v=>.c v
 |.global g=>.c (.pointer (O ⟨g,0,zc⟩))
 |.func f=>.c (.func (.func f) #[] #[])
def qQB(P:zt)(t:zAy):zs Z:=(P.info? t).map (·.size)
def BP(P:zt)(t:zAy):zs zM:=match P.underlying t with
 |some (.struct _)=>O I
 |some (.array ..)=>O I
 |some _=>O zb
 |none=>zc
def q5H(P:zt)(t:zAy):zs (F zg):=match(P.info? t).bind (·.zero)with
 |some z=>if z.cells.all (·.oneCell')then O z.cells.toList else zc
 |none=>zc
def qxJ(P:zt)(r:zAy->zs (F Z)):F Field->Z->zs (F Z)
 |[],_=>O []
 |f::h,o=>match r f.type,qQB P f.type,BP P f.type with
  |some ks,O size,O _=>if f.offset=o/\f.name≠ "_" /\size=ks.length then match qxJ P r h (o+ks.length)with
   |some l=>O (ks++l)
   |none=>zc
   else zc
  |_,_,_=>zc
def qtF(ks:F Z):Z->F Z
 |0=>[]
 |n+1=>ks++qtF ks n
def qmD(P:zt):Z->zAy->zs (F Z)
 |0,_=>zc
 |d+1,t=>match P.underlying t with
  |some (.int _)=>O [0]
  |some .string=>O [1]
  |some .bool=>O [2]
  |some (.struct h)=>if P.stoodInHeld t then zc else qxJ P (qmD P d) h.toList 0
  |some (.array n e)=>match qmD P d e,P.info? e,BP P e with
   |some ks,O i,O _=>if i.size=ks.length then O (qtF ks n)else zc
   |_,_,_=>zc
  |_=>zc
def eqT(P:zt)(t:zAy):zs (F Z):=match qmD P 8 t with
 |some ks=>if P.eqGuardType P.depth t then zc else O ks
 |none=>zc
def qqQ:zs Operand->zM
 |none=>I
 |some (.const (.int ..))=>I
 |_=>zb
def K8(P:zt)(f:Field)(o:Z):zM:=(f.name != "_") &&(f.offset==o &&match P.underlying f.type with
 |some (.int .i64)=>I
 |_=>zb)
def GP(P:zt)(h:zAy):zs KyT:=match P.underlying h with
 |some (.int q)=>O (.int q)
 |some .string=>O .str
 |some (.struct u)=>match u.toList with
  |[f,g]=>match K8 P f 0&&(K8 P g 1&&((qmD P 3 h==O [0,0])&&(BP P h==O I)))with
   |true=>O .two
   |false=>zc
  |_=>zc
 |_=>zc
def HS(P:zt)(t:zAy):zs (KyT×zAy):=match P.underlying t with
 |some (.map h q)=>match GP P h with
  |some u=>O (u,q)
  |none=>zc
 |_=>zc
def qjH{P}{t}{u}{w}(h:HS P t=O (u,w)):∃q,P.underlying t=O (.map q w)/\GP P q=O u:=by
 unfold HS at h;split at h
 .rename_i q C A;split at h
  .rename_i D B;simp at h;obtain⟨rfl,rfl⟩:=h;exact⟨q,A,B⟩
  .cases h
 .cases h
def qHO(fn:Func):zM:=fn.results.isEmpty||fn.name== "(hydrant/collect.work).done" ||fn.name== "(*hydrant/linear.Mesh).Take" ||fn.name== "(*hydrant/run.thread).step" ||fn.name== "hydrant/serve.Serve" ||fn.name== "hydrant/hydranttop.simple"
def Er(P:zt)(o:zDO):zs SOp:=
 match o.op with
 |.move x=>O (.mov (qIA x))
 |.assign x=>O (.mov (qIA x))
 |.pick c a b=>O (.pick (qIA c) (qIA a) (qIA b))
 |.binOp op t x y _=>match P.underlying t,op with
  |some (.int _),op=>O (.Ld op (qIA x) (qIA y))
  |some .string,op=>O (.NB op (qIA x) (qIA y))
  |some .bool,.eql=>O (.Le zb (qIA x) (qIA y))
  |some .bool,.neq=>O (.Le I (qIA x) (qIA y))
  |some (.slice _),.eql=>match y with
   |.const (.slice zc 0 0)=>O (.I6 0 zb (qIA x))
   |_=>zc
  |some (.slice _),.neq=>match y with
   |.const (.slice zc 0 0)=>O (.I6 0 I (qIA x))
   |_=>zc
  |some (.pointer _),.eql=>match y with
   |.const (.pointer zc)=>O (.I6 1 zb (qIA x))
   |_=>zc
  |some (.pointer _),.neq=>match y with
   |.const (.pointer zc)=>O (.I6 1 I (qIA x))
   |_=>zc
  |some (.func ..),.eql=>match y with
   |.const .nilFunc=>O (.I6 2 zb (qIA x))
   |_=>zc
  |some (.func ..),.neq=>match y with
   |.const .nilFunc=>O (.I6 2 I (qIA x))
   |_=>zc
  |some (.struct _),.eql=>(eqT P t).map λks=>.HZ zb ks (qIA x) (qIA y)
  |some (.struct _),.neq=>(eqT P t).map λks=>.HZ I ks (qIA x) (qIA y)
  |some (.array ..),.eql=>(eqT P t).map λks=>.HZ zb ks (qIA x) (qIA y)
  |some (.array ..),.neq=>(eqT P t).map λks=>.HZ I ks (qIA x) (qIA y)
  |_,_=>zc
 |.unOp .not _ x=>O (.not (qIA x))
 |.convert s d x=>match P.underlying s,P.underlying d with
  |some (.int _),O (.int k)=>O (.conv k (qIA x))
  |some (.slice e),O .string=>match P.underlying e with
   |some (.int .u8)=>O (.tos (qIA x))
   |_=>zc
  |_,_=>zc
 |.index t x i=>match P.underlying t with
  |some .string=>O (.Nc (qIA x) (qIA i))
  |some (.array n e)=>match qQB P e,BP P e with
   |some size,O agg=>O (.Nf n size agg (qIA x) (qIA i))
   |_,_=>zc
  |_=>zc
 |.fieldAddr t x f=>match P.underlying t with
  |some (.struct u)=>match u[f]? with
   |some q=>match qQB P q.type with
    |some (_+1)=>O (.Fp q.offset (qIA x))
    |_=>zc
   |none=>zc
  |_=>zc
 |.field t x f=>match P.underlying t with
  |some (.struct u)=>match u[f]? with
   |some q=>match qQB P q.type,BP P q.type with
    |some size,O agg=>O (.fld q.offset size agg (qIA x))
    |_,_=>zc
   |none=>zc
  |_=>zc
 |.indexAddr t x i=>match P.underlying t with
  |some (.slice e)=>match qQB P e with
   |some size=>O (.LH size (qIA x) (qIA i))
   |none=>zc
  |some (.array n e)=>match qQB P e with
   |some size=>O (.Lk n size (qIA x) (qIA i))
   |none=>zc
  |_=>zc
 |.load t x=>match qQB P t,BP P t with
  |some size,O agg=>if 0<size\/agg=I then O (.load agg size (qIA x))else zc
  |_,_=>zc
 |.nilCheck x=>O (.nck (qIA x))
 |.extract x i=>O (.ext i (qIA x))
 |.makeFunc f first D=>O (.mkf f (first.toList.map qIA) (D.toList.map qIA))
 |.slice t x C w A=>match P.underlying t with
  |some .string=>match A with
   |none=>O (.MC (qIA x) (C.map qIA) (w.map qIA))
   |some _=>zc
  |some (.slice e)=>match qQB P e,w,A with
   |some _,zc,O _=>zc
   |some size,_,_=>O (.slc size (qIA x) (C.map qIA) (w.map qIA) (A.map qIA))
   |none,_,_=>zc
  |_=>zc
 |.build t parts=>match q5H P t,P.underlying t with
  |some z,O (.struct u)=>match u.toList.mapM (λf=>(P.info? f.type).map λi=>(f.offset,i.size))with
   |some E=>match parts.toList.mapM (λ(i,x)=>(E[i]?).map λ(o,s)=>(o,s,qIA x))with
    |some H=>O (.build (z.map SV.v) H)
    |none=>zc
   |none=>zc
  |some z,O (.array _ e)=>match qQB P e with
   |some size=>O (.build (z.map SV.v) (parts.toList.map λ(i,x)=>(i*size,size,qIA x)))
   |none=>zc
  |_,_=>zc
 |.store t x y=>match qQB P t with
  |some size=>O (.store size (qIA x) (qIA y))
  |none=>zc
 |.alloc t=>match q5H P t with
  |some z=>O (.alloc t (z.map SV.v))
  |none=>zc
 |.box t x=>O (.box t (qIA x))
 |.buildSlice t len parts=>match P.underlying t with
  |some (.slice e)=>match qQB P e,q5H P e with
   |some size,O z=>if len*size<=2^24/\0<size/\z.length=size then O (.bsl e size len ((zA5 len (z.map SV.v)).flatten) (parts.toList.map λ(i,x)=>(i*size,size,qIA x)))else zc
   |_,_=>zc
  |_=>zc
 |.makeSlice t l c=>match P.underlying t with
  |some (.slice e)=>match P.info? e,q5H P e with
   |some i,O z=>if 0<i.size/\z.length=i.size then O (.msl e i.size i.bytes z (qIA l) (qIA c))else zc
   |_,_=>zc
  |_=>zc
 |.makeMap t r=>match HS P t with
  |some (h,_)=>if qqQ r then O (.mkm h)else zc
  |none=>zc
 |.insert t m k v=>match HS P t with
  |some (h,_)=>O (.mup h (qIA m) (qIA k) (qIA v))
  |none=>zc
 |.mapUpdate t m k v=>match HS P t with
  |some (h,_)=>O (.mup h (qIA m) (qIA k) (qIA v))
  |none=>zc
 |.mapEntry t m k=>match HS P t with
  |some (h,B)=>match(P.info? B).bind (·.zero)with
   |some z=>O (.men h z (qIA m) (qIA k))
   |none=>zc
  |none=>zc
 |.entryStore _ m s v=>O (.est (qIA m) (qIA s) (qIA v))
 |.lookup t m k ok=>match HS P t with
  |some (h,B)=>match(P.info? B).bind (·.zero)with
   |some z=>O (.look h z ok (qIA m) (qIA k))
   |none=>zc
  |none=>zc
 |.call c=>match c.callee with
  |.builtin .len=>match c.args.toList,c.argTypes.toList with
   |[x],[t]=>match P.underlying t with
    |some .string=>O (.len I (qIA x))
    |some (.slice _)=>O (.len zb (qIA x))
    |_=>zc
   |_,_=>zc
  |.builtin .min=>match c.args.toList with
   |[x,y]=>O (.M2 (qIA x) (qIA y))
   |_=>zc
  |.builtin .append=>match c.args.toList,c.argTypes.toList with
   |[s,x],[t,L]=>match P.underlying t with
    |some (.slice e)=>match P.info? e with
     |some i=>if t=L/\0<i.size/\(i.zero.any λz=>z.cells.size==i.size)then O (.app e i.size i.bytes (qIA s) (qIA x))else zc
     |none=>zc
    |_=>zc
   |_,_=>zc
  |.builtin .copy=>match c.args.toList,c.argTypes.toList with
   |[d,s],[t,_]=>match P.underlying t with
    |some (.slice e)=>if qQB P e=O 1 then O (.cpy (qIA d) (qIA s))else zc
    |_=>zc
   |_,_=>zc
  |.value (.func f)=>match P.funcs[f]? with
   |some fn=>if fn.body.isSome &&fn.name != "runtime.NumGoroutine" then(match qHO fn with
    |true=>O (.JO f (c.args.toList.map qIA))
    |false=>O (.call f (c.args.toList.map qIA)))else zc
   |none=>zc
  |.value g=>O (.I4 (qIA g) (c.args.toList.map qIA))
  |_=>zc
 |_=>zc
def qBB(id:Z):F Res->zs (Z×zAy×F SV)
 |[]=>zc
 |.blk k b h cells::r=>match zAP k id with
  |true=>O (b,h,cells)
  |false=>qBB id r
 |_::r=>qBB id r
def qPB(id:Z):F Res->zs (zs zAH×Z×Z×zAy×Z×F zg)
 |[]=>zc
 |.row k h n cap q size cs::r=>match zAP k id with
  |true=>O (h,n,cap,q,size,cs)
  |false=>qPB id r
 |_::r=>qPB id r
def qJD(id:Z):F Res->zs (Z×KyT×F (Ky×zg))
 |[]=>zc
 |.mp k r h es::q=>match zAP k id with
  |true=>O (r,h,es)
  |false=>qJD id q
 |_::r=>qJD id r
def q0F{id}{rs}{r}{w}{es}(h:qJD id rs=O (r,w,es)):∃q u,rs=q++.mp id r w es::u:=by
 induction rs with
 |nil=>simp[qJD]at h
 |cons x rs B=>
  have go:qJD id rs=O (r,w,es)->∃q u,x::rs=q++.mp id r w es::u:=λC=>by
   obtain⟨q,u,e⟩:=B C;exact⟨x::q,u,by simp[e]⟩
  cases x with
  |mp k D E H=>
   simp only[qJD]at h;cases A:zAP k id with
   |true=>rw[A]at h;simp at h;obtain⟨rfl,rfl,rfl⟩:=h;obtain rfl:=zP A;exact⟨[],rs,rfl⟩
   |false=>rw[A]at h;exact go h
  |row _ _ _ _ _ _ _=>exact go h
  |blk _ _ _ _=>exact go h
  |lp _ _ _ _=>exact go h
  |mk _=>exact go h
def qsH(id:Z):F Res->zs (Z×Loop×LpS)
 |[]=>zc
 |.lp k l r j::h=>match zAP k id with
  |true=>O (l,r,j)
  |false=>qsH id h
 |_::r=>qsH id r
def qtH{id}{rs}{b}{ty}{cells}(h:qBB id rs=O (b,ty,cells)):∃q u,rs=q++.blk id b ty cells::u:=by
 induction rs with
 |nil=>simp[qBB]at h
 |cons r rs A=>
  have go:qBB id rs=O (b,ty,cells)->∃q u,r::rs=q++.blk id b ty cells::u:=λB=>by
   obtain⟨q,u,e⟩:=A B;exact⟨r::q,u,by simp[e]⟩
  cases r with
  |blk k C D E=>
   simp only[qBB]at h;cases w:zAP k id with
   |true=>rw[w]at h;simp at h;obtain⟨rfl,rfl,rfl⟩:=h;obtain rfl:=zP w;exact⟨[],rs,rfl⟩
   |false=>rw[w]at h;exact go h
  |row _ _ _ _ _ _ _=>exact go h
  |lp _ _ _ _=>exact go h
  |mk _=>exact go h
  |mp _ _ _ _=>exact go h
def qAF{id}{rs}{oa}{n cap}{ety}{size}{cs}(h:qPB id rs=O (oa,n,cap,ety,size,cs)):∃q u,rs=q++.row id oa n cap ety size cs::u:=by
 induction rs with
 |nil=>simp[qPB]at h
 |cons r rs A=>
  have go:qPB id rs=O (oa,n,cap,ety,size,cs)->∃q u,r::rs=q++.row id oa n cap ety size cs::u:=λB=>by
   obtain⟨q,u,e⟩:=A B;exact⟨r::q,u,by simp[e]⟩
  cases r with
  |row k C D E H L M=>
   simp only[qPB]at h;cases w:zAP k id with
   |true=>rw[w]at h;simp at h;obtain⟨rfl,rfl,rfl,rfl,rfl,rfl⟩:=h;obtain rfl:=zP w;exact⟨[],rs,rfl⟩
   |false=>rw[w]at h;exact go h
  |blk _ _ _ _=>exact go h
  |lp _ _ _ _=>exact go h
  |mk _=>exact go h
  |mp _ _ _ _=>exact go h
def norm(rs:F Res)(x:SV):SV:=match x with
 |.row id h n cap=>match qPB id rs with
  |some _=>.row id h n cap
  |none=>.v (.slice h n cap)
 |.p id b o=>match qBB id rs with
  |some _=>.p id b o
  |none=>.v (.pointer (O ⟨b,o,zc⟩))
 |.sl id b o n c=>match qBB id rs with
  |some _=>.sl id b o n c
  |none=>.v (.slice (O ⟨b,o,zc⟩) n c)
 |x=>x
def qqD(rs)(x):Ae (norm rs x)=Ae x:=by
 cases x<;>simp only[norm]<;>first|rfl|(split<;>rfl)
def qBX(x:SV)(k:SV->Prop):Prop:=match x with
 |.v y=>k (.v y)
 |.b x=>k (.b x)
 |.p i b o=>k (.p i b o)
 |.sl i b o n c=>k (.sl i b o n c)
 |.row i a n c=>k (.row i a n c)
 |.re i a n c j=>k (.re i a n c j)
 |.fn f a c=>k (.fn f a c)
 |.yl i l=>k (.yl i l)
 |.mp i l=>k (.mp i l)
 |.agg l=>k (.agg l)
 |.tup l=>k (.tup l)
def qJM(x)(k):qBX x k=k x:=by cases x<;>rfl
def Opd.k(rs:F Res)(sl:Sl)(x:Opd)(k:SV->Prop):Prop:=match x with
 |.t n=>match AS sl n with
  |some s=>qBX (norm rs s) k
  |none=>zV
 |.c v=>k (.v v)
 |.b x=>k (.b x)
def q1C(sl:Sl)(a:zDN):Prop:=∀n x,AS sl n=O x->a.tmps[n]?=O (Ae x)
def qFA{a:zDN}{n:Z}{v:zg}(h:a.tmps[n]?=O v):a.eval (.tmp n)=v:=by
 simp[Act.eval,zAj,h]
def Opd.AB{rs}{sl}{a}{o}{k}(h:(qIA o).k rs sl k)(hs:q1C sl a):∃s,k s/\a.eval o=Ae s:=by
 cases o with
 |tmp n=>
  simp only[qIA,Opd.k,qJM]at h;split at h
  .rename_i s q;exact⟨_,h,by rw[qqD];exact qFA (hs n s q)⟩
  .exact h.elim
 |const v=>
  simp only[qIA]at h;split at h
  .exact⟨_,h,rfl⟩
  .exact⟨_,h,rfl⟩
 |global g=>exact⟨_,h,rfl⟩
 |func f=>exact⟨_,h,rfl⟩
def Opd.ks(rs:F Res)(sl:Sl):F Opd->(F SV->Prop)->Prop
 |[],k=>k []
 |x::r,k=>x.k rs sl λs=>Opd.ks rs sl r λl=>k (s::l)
def Opd.EN{rs}{sl}{a}(hs:q1C sl a):∀(l:F Operand){k:F SV->Prop},Opd.ks rs sl (l.map qIA) k->∃s,k s/\l.map a.eval=qDA s
 |[],_,h=>⟨[],h,rfl⟩
 |o::r,k,h=>by
  obtain⟨s,q,u⟩:=Opd.AB (k:=λs=>Opd.ks rs sl (r.map qIA) λl=>k (s::l)) h hs;obtain⟨l,w,A⟩:=Opd.EN hs r q;exact⟨s::l,w,by simp[qDA,u,A]⟩
def kEq:IntKind->IntKind->zM
 |.i8,.i8|.i16,.i16|.i32,.i32|.i64,.i64|.u8,.u8|.u16,.u16|.u32,.u32|.u64,.u64=>I
 |_,_=>zb
def q7E{k k'}(h:kEq k k'=I):k=k':=by cases k<;>cases k'<;>first|rfl|(simp[kEq]at h)
def qVS(op:BinOp)(k:IntKind)(x y:zn):zn:=
 let a:=BitVec.ofInt k.bits x;let b:=BitVec.ofInt k.bits y
 match op with
 |.and=>k.wrap (a &&&b).toNat
 |.or=>k.wrap (a|||b).toNat
 |.xor=>k.wrap (a^^^b).toNat
 |_=>k.wrap (a &&&~~~b).toNat
def qOa(op:BinOp)(x y:SV)(K:SV->Prop):Prop:=match x,y with
 |.v (.int k a),.v (.int h b)=>match op with
  |.shl=>0<=b/\K (.v (.int k (k.wrap (a*2^(min b.toNat k.bits)))))
  |.shr=>0<=b/\K (.v (.int k (a.fdiv (2^(min b.toNat k.bits)))))
  |op=>match kEq k h with
   |false=>zV
   |true=>match op with
    |.add=>K (.v (.int k (k.wrap (a+b))))
    |.sub=>K (.v (.int k (k.wrap (a-b))))
    |.mul=>K (.v (.int k (k.wrap (a*b))))
    |.quo=>b≠0/\K (.v (.int k (k.wrap (a.tdiv b))))
    |.rem=>b≠0/\K (.v (.int k (a.tmod b)))
    |.and=>K (.v (.int k (qVS .and k a b)))
    |.or=>K (.v (.int k (qVS .or k a b)))
    |.xor=>K (.v (.int k (qVS .xor k a b)))
    |.andNot=>K (.v (.int k (qVS .andNot k a b)))
    |.eql=>K (.v (.bool (a==b)))
    |.neq=>K (.v (.bool (a !=b)))
    |.lss=>K (.v (.bool (decide (a<b))))
    |.leq=>K (.v (.bool (decide (a<=b))))
    |.gtr=>K (.v (.bool (decide (b<a))))
    |.geq=>K (.v (.bool (decide (b<=a))))
    |_=>zV
 |_,_=>zV
def qMV{op}{x y}{K}(h:qOa op x y K):∃s,K s/\∀(P:zt)(t:zAy)(w:zp),(binOp op t (Ae x) (Ae y)).run P w=.ok (Ae s) w/\∀X Y,(eqGuard op t X Y (Ae x) (Ae y)).run P w=.ok () w:=by
 unfold qOa at h;split at h
 .rename_i k a B b
  have u:∀(P:zt)(t:zAy)(w:zp)X Y,(eqGuard op t X Y (Ae (.v (.int k a))) (Ae (.v (.int B b)))).run P w=.ok () w:=λP t w X Y=>by
   simp only[eqGuard,Ae];split<;>rfl
  split at h
  .obtain⟨A,q⟩:=h;exact⟨_,q,λP t w=>⟨by simp[binOp,Ae,Op.shift,show ¬b<0 by omega,pure],u P t w⟩⟩
  .obtain⟨A,q⟩:=h;exact⟨_,q,λP t w=>⟨by simp[binOp,Ae,Op.shift,show ¬b<0 by omega,pure],u P t w⟩⟩
  .rename_i D E;split at h
   .exact h.elim
   .rename_i C;obtain rfl:=q7E C
    split at h<;>first
     |exact h.elim
     |(obtain⟨A,q⟩:=h;exact⟨_,q,λP t w=>⟨by simp[binOp,Ae,Op.intDiv,A,pure],u P t w⟩⟩)
     |exact⟨_,h,λP t w=>⟨by simp[binOp,Ae,Op.intArith,Op.intBits,Op.intCmp,qVS,pure],u P t w⟩⟩
 .exact h.elim
def qNa(op:BinOp)(x y:SV)(K:SV->Prop):Prop:=match x,y with
 |.v (.string a),.v (.string b)=>match op with
  |.add=>a.size+b.size<=9223372036854775807/\K (.v (.string (a++b)))
  |.eql=>K (.v (.bool (a.data.toList==b.data.toList)))
  |.neq=>K (.v (.bool (!(a.data.toList==b.data.toList))))
  |_=>zV
 |_,_=>zV
def qLV{op}{x y}{K}(h:qNa op x y K):∃s,K s/\∀(P:zt)(t:zAy)(w:zp),(binOp op t (Ae x) (Ae y)).run P w=.ok (Ae s) w/\∀X Y,(eqGuard op t X Y (Ae x) (Ae y)).run P w=.ok () w:=by
 unfold qNa at h;split at h
 .rename_i a b
  have q:∀(P:zt)(t:zAy)(w:zp)X Y,(eqGuard op t X Y (Ae (.v (.string a))) (Ae (.v (.string b)))).run P w=.ok () w:=λP t w X Y=>by
   simp only[eqGuard,Ae];split<;>rfl
  split at h
  .obtain⟨B,u⟩:=h;refine⟨_,u,λP t w=>⟨?_,q P t w⟩⟩;have A:¬(((a.size+b.size:Z):zn)>zAf.max):=by show ¬(_>(9223372036854775807:zn));omega
   simp only[binOp,Ae,Op.stringOp];rw[zh A];rfl
  .exact⟨_,h,λP t w=>⟨by simp[binOp,Ae,Op.stringOp,ByteArray.toList_eq,pure],q P t w⟩⟩
  .exact⟨_,h,λP t w=>⟨by simp[binOp,Ae,Op.stringOp,ByteArray.toList_eq,pure],q P t w⟩⟩
  .exact h.elim
 .exact h.elim
def qZL:SV->zs zM
 |.b x=>O x
 |.v (.bool x)=>O x
 |_=>zc
def qSK{x}{b}(h:qZL x=O b):Ae x=.bool b:=by
 unfold qZL at h;split at h<;>simp at h<;>subst h<;>rfl
def q5O(kind:Z)(x:SV):zs zM:=match kind with
 |0=>match x with
  |.v (.slice h _ _)=>O h.isNone
  |.sl ..=>O zb
  |.row _ h _ _=>O h.isNone
  |_=>zc
 |1=>match x with
  |.v (.pointer p)=>O p.isNone
  |.p ..=>O zb
  |_=>zc
 |_=>match x with
  |.v .nilFunc=>O I
  |.v (.func ..)=>O zb
  |.fn ..=>O zb
  |.yl ..=>O zb
  |_=>zc
def Fl:Z->zg
 |0=>.slice zc 0 0
 |1=>.pointer zc
 |_=>.nilFunc
def Kt(kind:Z)(d:TypeDesc):Prop:=match kind with
 |0=>∃e,d=.slice e
 |1=>∃e,d=.pointer e
 |_=>∃p h r,d=.func p h r
def q4W{kind}{x}{b}(h:q5O kind x=O b){P}{t}{d:TypeDesc}(q:P.underlying t=O d)(hd:Kt kind d)(w)(n):(zDW (n+1) t (Ae x) (Fl kind)).run P w=.ok b w:=by
 unfold q5O at h;split at h
 .obtain⟨e,rfl⟩:=hd;split at h
  .rename_i u _ c;cases h;cases u<;>simp[Ae,Fl,zDW,zN q]
  .cases h;simp[Ae,Fl,zDW,zN q]
  .rename_i id u _ c;cases h;cases u<;>simp[Ae,Fl,zDW,zN q]
  .cases h
 .obtain⟨e,rfl⟩:=hd;split at h
  .rename_i u;cases h;cases u<;>simp[Ae,Fl,zDW,zN q]
  .cases h;simp[Ae,Fl,zDW,zN q]
  .cases h
 .rename_i k D E;have B:Fl kind=.nilFunc:=by unfold Fl;split<;>simp_all
  have C:∃p A r,d=.func p A r:=by unfold Kt at hd;split at hd<;>simp_all
  obtain⟨p,A,r,rfl⟩:=C;rw[B];split at h
  .cases h;simp[Ae,zDW,zN q]
  .cases h;simp[Ae,zDW,zN q]
  .cases h;simp[Ae,zDW,zN q]
  .cases h;simp[Ae,zDW,zN q]
  .cases h
def q4O{kind}{x}{b}(h:q5O kind x=O b):(∃oa n c,Ae x=.slice oa n c)\/(∃p,Ae x=.pointer p/\Fl kind=.pointer zc)\/Ae x=.nilFunc\/∃f a c,Ae x=.func f a c:=by
 unfold q5O at h;split at h
 .split at h<;>simp_all [Ae]
 .split at h<;>simp_all [Ae,Fl]
 .split at h<;>simp_all [Ae]
def q6R{kind}{x}{b}(h:q5O kind x=O b){P}{t}{d:TypeDesc}(u:P.underlying t=O d)(hd:Kt kind d)(w)(X Y):
  (do eqGuard .eql t X Y (Ae x) (Fl kind);binOp .eql t (Ae x) (Fl kind):Sem zg).run P w=.ok (.bool b) w/\
  (do eqGuard .neq t X Y (Ae x) (Fl kind);binOp .neq t (Ae x) (Fl kind):Sem zg).run P w=.ok (.bool (!b)) w:=by
 have q:(Op.equal t (Ae x) (Fl kind)).run P w=.ok b w:=q4W h u hd w 9999;rcases q4O h with⟨B,n,c,e⟩|⟨p,e,A⟩|e|⟨f,a,c,e⟩
 .rw[e]at q⊢;simp[eqGuard,binOp,q]
 .rw[e,A]at q⊢;simp[eqGuard,binOp,q]
 .rw[e]at q⊢;simp[eqGuard,binOp,q]
 .rw[e]at q⊢;simp[eqGuard,binOp,q]
def qPO{h:Type}:F h->Z->zs (F h)
 |_,0=>O []
 |[],_+1=>zc
 |x::r,n+1=>match qPO r n with
  |some l=>O (x::l)
  |none=>zc
def Jx{h:Type}:F h->Z->Z->zs (F h)
 |l,0,n=>qPO l n
 |[],_+1,_=>zc
 |_::r,o+1,n=>Jx r o n
def HQ{h:Type}:F h->Z->zs h
 |[],_=>zc
 |x::_,0=>O x
 |_::r,n+1=>HQ r n
def qJI{h:Type}:∀(l:F h)(n:Z),HQ l n=l[n]?
 |[],_=>by simp[HQ]
 |x::_,0=>by simp[HQ]
 |_::r,n+1=>by simp[HQ,qJI r n]
def quK{q:Type}:∀{l:F q}{n:Z}{r:F q},qPO l n=O r->n<=l.length/\l.take n=r
 |_,0,_,h=>by simp[qPO]at h;simp[h]
 |[],n+1,_,h=>by simp[qPO]at h
 |x::l,n+1,_,h=>by
  simp only[qPO]at h;split at h
  .rename_i A u;cases h;obtain⟨B,w⟩:=quK u;exact⟨sf,by simp[w]⟩
  .cases h
def qvH{u:Type}:∀{l:F u}{o n:Z}{r:F u},Jx l o n=O r->o+n<=l.length/\(l.drop o).take n=r
 |l,0,n,r,h=>by obtain⟨w,q⟩:=quK (show qPO l n=O r by cases l<;>exact h);exact⟨sa,by simpa using q⟩
 |[],o+1,_,_,h=>by simp[Jx]at h
 |_::l,o+1,n,r,h=>by
  obtain⟨w,q⟩:=qvH (show Jx l o n=O r from h);exact⟨sf,by simpa using q⟩
def qXG(l)(n):qDA (l.take n)=(qDA l).take n:=by simp[qiA]
def qYG(l)(n):qDA (l.drop n)=(qDA l).drop n:=by simp[qiA]
def qrA(l):(qDA l).length=l.length:=by simp[qiA]
def q4F(l r):qDA (l++r)=qDA l++qDA r:=by simp[qiA]
def DJ(l:F SV)(n:Z):(qDA l)[n]?=(l[n]?).map Ae:=by simp[qiA]
def qNW(agg:zM)(off size:Z)(x:SV)(K:SV->Prop):Prop:=match x with
 |.agg l=>match agg with
  |true=>match Jx l off size with
   |some r=>K (.agg r)
   |none=>zV
  |false=>match HQ l off with
   |some s=>K s
   |none=>zV
 |.v (.agg ⟨l⟩)=>match agg with
  |true=>match Jx l off size with
   |some r=>K (.v (.agg ⟨r⟩))
   |none=>zV
  |false=>match HQ l off with
   |some s=>K (.v s)
   |none=>zV
 |_=>zV
def extract_toArray{h:Type}(l:F h)(o n:Z):(l.toArray).extract o (o+n)=((l.drop o).take n).toArray:=by
 simp[List.extract_toArray]
def qAN{agg}{off size}{x}{K}(h:qNW agg off size x K){P}{t}(hs:qQB P t=O size)(ha:BP P t=O agg):∃s,K s/\∀w,∃cs,Ae x=.agg cs/\(part t cs off).run P w=.ok (Ae s) w:=by
 have C:∀w,(sizeOf t).run P w=.ok size w:=λw=>by
  simp only[qQB,zU]at hs;obtain⟨i,D,rfl⟩:=hs;simp[sizeOf,typeInfo,zAa,D,zAo]
 have E:∀w,(isAgg t).run P w=.ok agg w:=λw=>by
  unfold BP at ha;simp only[isAgg,underlying,zAa,run_program,zAo];split at ha<;>rename_i H<;>simp at ha<;>subst ha<;>simp[H]
 have u:∀(l:F zg)(v:zg),(match agg with|true=>v=.agg ((l.drop off).take size).toArray|false=>l[off]?=O v)->∀w,(part t l.toArray off).run P w=.ok v w:=by
  intro l v A w;simp only[part,zAa,E,zAo];cases agg with
  |true=>
   simp only[zBp,zAa,C,zAo];rw[extract_toArray];cases A;rfl
  |false=>
   simp at A;simp[A]
 unfold qNW at h;split at h
 .rename_i l;cases agg with
  |true=>
   simp only at h;split at h
   .rename_i r q;obtain⟨L,B⟩:=qvH q;exact⟨_,h,λw=>⟨_,rfl,u _ _ (by simp[Ae,<-B,qXG,qYG]) w⟩⟩
   .exact h.elim
  |false=>
   simp only at h;split at h
   .rename_i s q;rw[qJI]at q;exact⟨_,h,λw=>⟨_,rfl,u _ _ (by simp[DJ,q]) w⟩⟩
   .exact h.elim
 .rename_i l;cases agg with
  |true=>
   simp only at h;split at h
   .rename_i r q;obtain⟨L,B⟩:=qvH q;exact⟨_,h,λw=>⟨_,rfl,u l _ (by simp[Ae,<-B]) w⟩⟩
   .exact h.elim
  |false=>
   simp only at h;split at h
   .rename_i s q;rw[qJI]at q;exact⟨_,h,λw=>⟨_,rfl,u l _ (by simp[Ae,q]) w⟩⟩
   .exact h.elim
 .exact h.elim
def KG(k:Z)(x y:zg):zs zM:=match k,x,y with
 |0,.int a m,.int b n=>match kEq a b with
  |true=>O (m==n)
  |false=>zc
 |1,.string a,.string b=>O (a.data.toList==b.data.toList)
 |2,.bool a,.bool b=>O (a==b)
 |_,_,_=>zc
def eqV:F Z->F zg->F zg->zs zM
 |[],[],[]=>O I
 |k::ks,x::h,y::q=>match KG k x y with
  |some a=>match eqV ks h q with
   |some b=>O (a&&b)
   |none=>zc
  |none=>zc
 |_,_,_=>zc
def qmU:∀{ks:F Z}{xs q:F zg}{b:zM},eqV ks xs q=O b->xs.length=ks.length/\q.length=ks.length
 |[],[],[],_,_=>⟨rfl,rfl⟩
 |k::ks,x::xs,y::q,b,h=>by
  simp only[eqV]at h;split at h
  .split at h
   .rename_i u;obtain⟨w,A⟩:=qmU u;simp[w,A]
   .cases h
  .cases h
 |[],_::_,_,_,h=>by simp[eqV]at h
 |[],[],_::_,_,h=>by simp[eqV]at h
 |_::_,[],_,_,h=>by simp[eqV]at h
 |_::_,_::_,[],_,h=>by simp[eqV]at h
def qQI:∀{ks q:F Z}{xs u:F zg}{b:zM},eqV (ks++q) xs u=O b->∃b1 w,b=(b1&&w)/\eqV ks (xs.take ks.length) (u.take ks.length)=O b1/\eqV q (xs.drop ks.length) (u.drop ks.length)=O w
 |[],q,xs,u,b,h=>⟨I,b,sd,by simp[eqV],by simpa using h⟩
 |k::ks,q,x::xs,y::u,b,h=>by
  simp only[zCx,eqV]at h;split at h
  .rename_i a A;split at h
   .rename_i c B;obtain⟨b1,w,rfl,C,D⟩:=qQI B;simp only[zAk]at h;refine⟨a&&b1,w,by rw[<-h,Bool.and_assoc],?_,by simpa using D⟩;simp[eqV,A,C]
   .cases h
  .cases h
 |k::ks,q,[],_,b,h=>by simp[eqV]at h
 |k::ks,q,_::_,[],b,h=>by simp[eqV]at h
def Ip(agg:zM)(xs:F zg):zg:=match agg with
 |true=>.agg ⟨xs⟩
 |false=>xs.headD zAX
def qhR{P}{t}{agg}(ha:BP P t=O agg)(w):(isAgg t).run P w=.ok agg w:=by
 unfold BP at ha;split at ha<;>simp at ha<;>subst ha<;>rename_i h
 .simp[isAgg,zN h]
 .simp[isAgg,zN h]
 .rename_i q u;simp only[isAgg,zAa,zN h,zAY];rfl
def qUH{P}{t}{agg}{size}(ha:BP P t=O agg)(hs:qQB P t=O size)(hp:agg=zb->size=1){cs}{o}(hl:o+size<=cs.length)(w):(part t ⟨cs⟩ o).run P w=.ok (Ip agg ((cs.drop o).take size)) w:=by
 have u:(sizeOf t).run P w=.ok size w:=by
  unfold qQB at hs;cases h:P.info? t with
  |none=>simp[h]at hs
  |some i=>simp[h]at hs;simp[sizeOf,typeInfo,h,hs]
 unfold part;simp only[zAa,qhR ha,zAY];cases agg with
 |true=>
  simp only[zBp,zAa,u,zAY,Sem.run_pure];congr 2;simp
 |false=>
  have A:=hp rfl;subst A;have q:o<cs.length:=sa
  have:(cs.drop o).take 1=[cs[o]]:=by rw[zCR q];rfl
  simp only[zAS,zCd];rw[show(⟨cs⟩:zR zg)[o]?=cs[o]? from by simp,zAe q];simp[this,Ip]
def qaK{P}{d}{t}{ks}(h:qmD P d t=O ks){agg}(ha:BP P t=O agg):agg=zb->ks.length=1:=by
 intro u;subst u;cases d with
 |zero=>cases h
 |succ d=>
  unfold qmD at h;unfold BP at ha;split at h
  .simp at h;simp[<-h]
  .simp at h;simp[<-h]
  .simp at h;simp[<-h]
  .rename_i q;rw[q]at ha;simp at ha
  .rename_i q;rw[q]at ha;simp at ha
  .cases h
def qfI{P}{d D}(ih:∀t ks,qmD P d t=O ks->∀agg,BP P t=O agg->∀xs q b,eqV ks xs q=O b->∀w,(zDW D t (Ip agg xs) (Ip agg q)).run P w=.ok b w):∀(A:F Field)(o:Z)(ks:F Z),qxJ P (qmD P d) A o=O ks->∀(xs q:F zg)(b:zM),o+ks.length<=xs.length->o+ks.length<=q.length->eqV ks ((xs.drop o).take ks.length) ((q.drop o).take ks.length)=O b->∀w,(Op.eqFields D ⟨xs⟩ ⟨q⟩ A).run P w=.ok b w
 |[],o,ks,h,xs,q,b,_,_,B,w=>by
  simp[qxJ]at h;subst h;simp[eqV]at B;subst B;simp[Op.eqFields]
 |f::A,o,ks,h,xs,q,b,M,Q,B,w=>by
  simp only[qxJ]at h;split at h
  .rename_i R size agg C E u;split at h
   .rename_i T;obtain⟨rfl,U,rfl⟩:=T;split at h
    .rename_i l V;simp only[zAk]at h;subst h;obtain⟨b1,W,rfl,H,L⟩:=qQI B;simp only[zAq]at M Q;have Y:=qUH (P:=P) u E (qaK C u) (cs:=xs) (o:=f.offset) sa w;have aa:=qUH (P:=P) u E (qaK C u) (cs:=q) (o:=f.offset) sa w;rw[zC3,zC3,zAq,zB7 sa]at H;have ab:=ih _ _ C _ u _ _ _ H w;rw[zCK,zCK,zAq,Nat.add_sub_cancel_left,zCL,zCL]at L;have ac:=qfI ih A (f.offset+R.length) l V xs q W sa sa L w;simp only[Op.eqFields,zk U,zAa,Y,aa,zAY,ab];cases b1 with
     |false=>simp
     |true=>simpa using ac
    .cases h
   .cases h
  .cases h
def qZJ{P}{D}{e}{ks}{agg}{i:TypeInfo}(u:P.info? e=O i)(A:i.size=ks.length)(ha:BP P e=O agg)(hp:agg=zb->ks.length=1)(ih:∀xs h b,eqV ks xs h=O b->∀w,(zDW D e (Ip agg xs) (Ip agg h)).run P w=.ok b w):∀(n j:Z)(xs h:F zg)(b:zM),(j+n)*ks.length<=xs.length->(j+n)*ks.length<=h.length->eqV (qtF ks n) ((xs.drop (j*ks.length)).take (n*ks.length)) ((h.drop (j*ks.length)).take (n*ks.length))=O b->∀w,(Op.eqItems D e (P.cellsOf e) ⟨xs⟩ ⟨h⟩ (List.range' j n)).run P w=.ok b w
 |0,j,xs,h,b,_,_,q,w=>by
  simp[qtF,eqV]at q;subst q;simp[Op.eqItems]
 |n+1,j,xs,h,b,W,Y,q,w=>by
  have B:P.cellsOf e=ks.length:=by simp[Program.cellsOf,u,A]
  have hs:qQB P e=O ks.length:=by simp[qQB,u,A]
  have aa:(j+(n+1))*ks.length=j*ks.length+ks.length+n*ks.length:=by rw[zBM,zBM];omega
  have C:(j+1+n)*ks.length=j*ks.length+ks.length+n*ks.length:=by rw[zBM,zBM];omega
  have E:(n+1)*ks.length=ks.length+n*ks.length:=by rw[zBM];omega
  have Q:(j+1)*ks.length=j*ks.length+ks.length:=by rw[zBM];omega
  rw[qtF]at q;obtain⟨b1,R,rfl,H,L⟩:=qQI q;rw[zC3,zC3,zB7 (by rw[E];omega)]at H;rw[zCK,zCK,E,Nat.add_sub_cancel_left,zCL,zCL,<-Q]at L;have T:=qUH (P:=P) ha hs hp (cs:=xs) (o:=j*ks.length) sa w;have U:=qUH (P:=P) ha hs hp (cs:=h) (o:=j*ks.length) sa w;have V:=ih _ _ _ H w;have M:=qZJ u A ha hp ih n (j+1) xs h R (by rw[C];omega) (by rw[C];omega) L w;rw[List.range'_succ];simp only[Op.eqItems,zAa,B,T,U,zAY,V];cases b1 with
  |false=>simp
  |true=>rw[B]at M;simpa using M
def qyJ(ks):∀n,(qtF ks n).length=n*ks.length
 |0=>by simp[qtF]
 |n+1=>by rw[qtF,zAq,qyJ ks n,zBM];omega
def qyE{P}:∀(d D:Z),d<=D->∀(t:zAy)(ks:F Z),qmD P d t=O ks->∀agg,BP P t=O agg->∀(xs C:F zg)(b:zM),eqV ks xs C=O b->∀w,(zDW D t (Ip agg xs) (Ip agg C)).run P w=.ok b w
 |0,_,_,_,_,h,_,_,_,_,_,_,_=>by cases h
 |d+1,0,ab,_,_,_,_,_,_,_,_,_,_=>sa
 |d+1,D+1,ab,t,ks,h,agg,u,xs,C,b,q,w=>by
  obtain⟨E,H⟩:=qmU q;have ao:=h;unfold qmD at h;split at h
  .rename_i k A;simp at h;subst h;have:agg=zb:=by unfold BP at u;rw[A]at u;simpa using u.symm
   subst this
   match xs,C,E,H with
   |[x],[y],_,_=>
    simp only[eqV]at q;split at q
    .rename_i c B;simp at q;subst q;unfold KG at B;split at B
     .split at B
      .rename_i ac;obtain rfl:=q7E ac;simp at B;subst B;exact run_equalIn_int w D t _ k _ _ A
      .cases B
     .simp_all
     .simp_all
     .cases B
    .cases q
  .rename_i A;simp at h;subst h;have:agg=zb:=by unfold BP at u;rw[A]at u;simpa using u.symm
   subst this
   match xs,C,E,H with
   |[x],[y],_,_=>
    simp only[eqV]at q;split at q
    .rename_i c B;simp at q;subst q;unfold KG at B;split at B<;>simp_all;subst B;simp[Ip,zDW,zN A,beq_toListBytes,ByteArray.toList_eq]
    .cases q
  .rename_i A;simp at h;subst h;have:agg=zb:=by unfold BP at u;rw[A]at u;simpa using u.symm
   subst this
   match xs,C,E,H with
   |[x],[y],_,_=>
    simp only[eqV]at q;split at q
    .rename_i c B;simp at q;subst q;unfold KG at B;split at B<;>simp_all;subst B;exact run_equalIn_bool w D t _ _ A
    .cases q
  .rename_i V A;have:agg=I:=by unfold BP at u;rw[A]at u;simpa using u.symm
   subst this;split at h
   .cases h
   .rename_i ad;have ae:P.underlying t=O (.struct (P.fieldsOf t)):=by simp[Program.fieldsOf,A]
    have af:(P.fieldsOf t).toList=V.toList:=by simp[Program.fieldsOf,A]
    show(zDW (D+1) t (.agg ⟨xs⟩) (.agg ⟨C⟩)).run P w=_;rw[run_equalIn_struct w D t _ _ ae (by simpa using ad),af];refine qfI (d:=d) (λag ah ai aj ak L M Q R T=>qyE d D sa ag ah ai aj ak L M Q R T) V.toList 0 ks h xs C b sa sa ?_ w;rw[zC4,zC4,zAw sa,zAw sa];exact q
  .rename_i n e A;have:agg=I:=by unfold BP at u;rw[A]at u;simpa using u.symm
   subst this;split at h
   .rename_i W i al Y aa U;split at h
    .rename_i an;simp at h;subst h;show(zDW (D+1) t (.agg ⟨xs⟩) (.agg ⟨C⟩)).run P w=_;rw[run_equalIn_array (w:=w) D _ _ A aa,List.range_eq_range'];have ap:=qyJ W n;refine qZJ aa an U (qaK Y U) (λL M Q R T=>qyE d D sa e W Y al U L M Q R T) n 0 xs C b (by rw[zAu];omega) (by rw[zAu];omega) ?_ w;rw[zDj,zC4,zC4,zAw sa,zAw sa];exact q
    .cases h
   .cases h
  .cases h
mutual
def qyH(x:SV):zs zg:=match x with
 |.v x=>O x
 |.b x=>O (.bool x)
 |.p _ b o=>O (.pointer (O ⟨b,o,zc⟩))
 |.sl _ b o n c=>O (.slice (O ⟨b,o,zc⟩) n c)
 |.row _ oa n cap=>O (.slice oa n cap)
 |.re _ oa _ _ j=>O (.pointer (oa.map (·.add j)))
 |.fn f a c=>match qqG a with
  |some a'=>match qqG c with
   |some c'=>O (.func f ⟨a'⟩ ⟨c'⟩)
   |none=>zc
  |none=>zc
 |.yl _ l=>O (.func (.yield l) #[] #[])
 |.mp _ r=>O (.map (O r))
 |.agg l=>match qqG l with
  |some l'=>O (.agg ⟨l'⟩)
  |none=>zc
 |.tup l=>match qqG l with
  |some l'=>O (.tuple ⟨l'⟩)
  |none=>zc
def qqG(l:F SV):zs (F zg):=match l with
 |[]=>O []
 |x::r=>match qyH x with
  |some v=>match qqG r with
   |some vs=>O (v::vs)
   |none=>zc
  |none=>zc
end
mutual
def q7Q:∀(x:SV),qyH x=O (Ae x)
 |.v _=>by simp only[qyH,Ae]
 |.b _=>by simp only[qyH,Ae]
 |.p _ _ _=>by simp only[qyH,Ae]
 |.sl _ _ _ _ _=>by simp only[qyH,Ae]
 |.row _ _ _ _=>by simp only[qyH,Ae]
 |.re _ _ _ _ _=>by simp only[qyH,Ae]
 |.yl _ _=>by simp only[qyH,Ae]
 |.mp _ _=>by simp only[qyH,Ae]
 |.fn f a c=>by simp only[qyH,Ae,qiE a,qiE c]
 |.agg l=>by simp only[qyH,Ae,qiE l]
 |.tup l=>by simp only[qyH,Ae,qiE l]
def qiE:∀(l:F SV),qqG l=O (qDA l)
 |[]=>by simp only[qqG,qDA]
 |x::r=>by simp only[qqG,qDA,q7Q x,qiE r]
end
def qSI(x:SV)(k:zg->Prop):Prop:=match qyH x with
 |some v=>k v
 |none=>zV
def qhC(l:F SV)(k:F zg->Prop):Prop:=match qqG l with
 |some h=>k h
 |none=>zV
def qvC(x){k}(h:qSI x k):k (Ae x):=by
 unfold qSI at h;rwa [q7Q]at h
def qJB(l){k}(h:qhC l k):k (qDA l):=by
 unfold qhC at h;rwa [qiE]at h
end Go.Proofs.YtlmhpamhhgogaaaGreat.Sx
namespace Go.Proofs.YtlmhpamhhgogaaaGreat.Sx
open Go.RowKit Go.MapKept
def DL:Ky->Ky->zM
 |.i a,.i b=>a==b
 |.s a,.s b=>a.data.toList==b.data.toList
 |.p a b,.p c d=>(a==c)&&(b==d)
 |_,_=>zb
def Bx{a b}:DL a b=I<->a=b:=by
 cases a<;>cases b<;>simp[DL];exact⟨λh=>ByteArray.ext h,λh=>by rw[h]⟩
def q3O{a b}(h:a≠b):DL a b=zb:=by
 cases q:DL a b with
 |false=>rfl
 |true=>exact absurd (Bx.1 q) h
def Kx:KyT->KyT->zM
 |.int a,.int b=>kEq a b
 |.str,.str=>I
 |.two,.two=>I
 |_,_=>zb
def q0J{a b}(h:Kx a b=I):a=b:=by
 cases a<;>cases b<;>simp[Kx]at h<;>first|rfl|exact zK _ (q7E h)
def kOf(kt:KyT)(v:zg):zs Ky:=match kt with
 |.int ik=>match v with
  |.int h n=>match kEq h ik with
   |true=>O (.i n)
   |false=>zc
  |_=>zc
 |.str=>match v with
  |.string s=>O (.s s)
  |_=>zc
 |.two=>match v with
  |.agg ⟨[.int q a,.int u b]⟩=>match kEq q .i64&&kEq u .i64 with
   |true=>O (.p a b)
   |false=>zc
  |_=>zc
def qHJ{kt}{v}{k}(h:kOf kt v=O k):v=kt.v k/\kt.fit k=I:=by
 unfold kOf at h;split at h
 .split at h
  .split at h
   .rename_i q;cases h;obtain rfl:=q7E q;exact⟨rfl,rfl⟩
   .cases h
  .cases h
 .split at h
  .cases h;exact⟨rfl,rfl⟩
  .cases h
 .split at h
  .split at h
   .rename_i q;cases h;simp only[zj]at q;obtain⟨u,A⟩:=q;obtain rfl:=q7E u;obtain rfl:=q7E A;exact⟨rfl,rfl⟩
   .cases h
  .cases h
def Bs(n:Ky):F (Ky×zg)->zs zg
 |[]=>zc
 |(m,v)::r=>match DL n m with
  |true=>O v
  |false=>Bs n r
def BT(n:Ky)(v:zg):F (Ky×zg)->F (Ky×zg)
 |[]=>[(n,v)]
 |(m,h)::r=>match DL n m with
  |true=>(n,v)::r
  |false=>(m,h)::BT n v r
def qSN{kt:KyT}{n:Ky}{v:zg}(q:kt.fit n=I):∀{es:F (Ky×zg)},kt.fits es=I->kt.fits (BT n v es)=I
 |[],_=>by simp[BT,KyT.fits,q]
 |(m,u)::r,h=>by
  simp only[KyT.fits,zj]at h;simp only[BT];split
  .simp only[KyT.fits,q,h.2];rfl
  .simp only[KyT.fits,h.1,qSN q h.2];rfl
def mIx(n:Ky):F (Ky×zg)->Z
 |[]=>0
 |(m,_)::r=>match DL n m with
  |true=>0
  |false=>mIx n r+1
def DY:Z->zg->F (Ky×zg)->F (Ky×zg)
 |_,_,[]=>[]
 |0,v,(m,_)::r=>(m,v)::r
 |j+1,v,x::r=>x::DY j v r
def qvX{n}{u}:∀{es:F (Ky×zg)}{j:Z},es[j]?=O (n,u)->(∀i x,i<j->es[i]?=O x->DL n x.1=zb)->mIx n es=j
 |[],j,h,_=>by simp at h
 |(m,w)::r,0,h,_=>by simp at h;obtain⟨rfl,rfl⟩:=h;simp[mIx,Bx.2 rfl]
 |(m,w)::r,j+1,h,k=>by
  have q:=k 0 (m,w) sa rfl;simp only[mIx,q];rw[qvX (j:=j) (by simpa using h) λi x B A=>k (i+1) x sa (by simpa using A)]
def qTN{kt:KyT}{v:zg}:∀{es:F (Ky×zg)}{j:Z},kt.fits es=I->kt.fits (DY j v es)=I
 |[],_,_=>by simp[DY,KyT.fits]
 |(m,w)::r,0,h=>by simpa[DY,KyT.fits]using h
 |(m,w)::r,j+1,h=>by
  simp only[DY,KyT.fits,zj]at h⊢;exact⟨h.1,qTN h.2⟩
def qlQ{v}:∀{es:F (Ky×zg)}{j:Z},(DY j v es).length=es.length
 |[],j=>by cases j<;>rfl
 |(m,w)::r,0=>rfl
 |(m,w)::r,j+1=>by simp[DY,qlQ]
def qyQ{kt:KyT}{n:Ky}{z:zg}(q:kt.fit n=I):∀{es:F (Ky×zg)},kt.fits es=I->kt.fits (es++[(n,z)])=I
 |[],_=>by simp[KyT.fits,q]
 |(m,w)::r,h=>by
  simp only[zCx,KyT.fits,zj]at h⊢;exact⟨h.1,qyQ q h.2⟩
def FzM(g:GW)(r:Z)(ik:KyT)(es:F (Ky×zg)):Prop:=g.g r/\g.w.heap[r]?=O (.map ⟨mkE ik 0 es⟩ es.length)/\ik.fits es=I
def FzM.mono{g g'}{r}{ik}{es}(h:FzM g r ik es)(k:g<=g'):FzM g' r ik es:=⟨(k.2 r h.1).1,(k.2 r h.1).2.trans h.2.1,h.2.2⟩
def qUN(ok:zM)(z:zg)(o:zs zg):zg:=match ok,o with
 |true,O v=>.tuple #[v,.bool I]
 |true,zc=>.tuple #[z,.bool zb]
 |false,O v=>v
 |false,zc=>z
def qGJ(ik:KyT)(n:Ky)(v:zg):∀(es:F (Ky×zg)),(Bs n es=zc/\(∀x∈es,DL n x.1=zb)/\BT n v es=es++[(n,v)])\/∃j u,Bs n es=O u/\es[j]?=O (n,u)/\(∀i x,i<j->es[i]?=O x->DL n x.1=zb)/\BT n v es=es.set j (n,v)
 |[]=>.inl ⟨rfl,λ_ q=>(by cases q),rfl⟩
 |(m,u)::r=>by
  simp only[Bs,BT];cases q:DL n m with
  |true=>
   obtain rfl:=Bx.1 q;exact .inr ⟨0,u,rfl,rfl,λi _ D=>absurd D (Nat.not_lt_zero i),rfl⟩
  |false=>
   rcases qGJ ik n v r with⟨A,B,C⟩|⟨j,w,A,B,C,E⟩
   .refine .inl ⟨A,λx h=>?_,by simp[C]⟩;rcases zJ.1 h with rfl|h
    .exact q
    .exact B x h
   .refine .inr ⟨j+1,w,A,by simpa using B,λi x D h=>?_,by simp[E]⟩;cases i with
    |zero=>simp at h;subst h;exact q
    |succ i=>exact C i x sa (by simpa using h)
def qLI(ik)(n)(v):∀(es:F (Ky×zg))(b:Z),mkE ik b (es++[(n,v)])=mkE ik b es++[{key:=ik.v n,val:=v,born:=b+es.length}]
 |[],b=>rfl
 |(m,h)::r,b=>by
  simp only[zCx,mkE,qLI ik n v r (b+1),zBb];rw[show b+1+r.length=b+(r.length+1) by omega]
def qvJ(ik):∀(es:F (Ky×zg))(b j:Z)(n:Ky)(u:zg),es[j]?=O (n,u)->(mkE ik b es)[j]?=O {key:=ik.v n,val:=u,born:=b+j}
 |[],b,j,n,u,h=>by simp at h
 |(m,w)::r,b,0,n,u,h=>by simp at h;obtain⟨rfl,rfl⟩:=h;rfl
 |(m,w)::r,b,j+1,n,u,h=>by
  have:=qvJ ik r (b+1) j n u (by simpa using h);simp only[mkE,List.getElem?_cons_succ,this];rw[show b+1+j=b+(j+1) by omega]
def qMU(ik)(v):∀(es:F (Ky×zg))(b j:Z)(n:Ky)(u:zg),es[j]?=O (n,u)->mkE ik b (es.set j (n,v))=(mkE ik b es).set j {key:=ik.v n,val:=v,born:=b+j}
 |[],b,j,n,u,h=>by simp at h
 |(m,w)::r,b,0,n,u,h=>by simp[mkE]
 |(m,w)::r,b,j+1,n,u,h=>by
  have:=qMU ik v r (b+1) j n u (by simpa using h);simp only[zB3,mkE,this];rw[show b+1+j=b+(j+1) by omega]
section
variable{P:zt}{w:zp}{t kt et:zAy}{ik:KyT}{r:Z}{es:F (Ky×zg)}
def qmH(h:GP P kt=O ik):(∃k,ik=.int k/\P.underlying kt=O (.int k))\/(ik=.str/\P.underlying kt=O .string)\/(ik=.two/\qmD P 3 kt=O [0,0]/\BP P kt=O I/\∃f g:Field,P.underlying kt=O (.struct #[f,g])/\(f.name≠ "_" /\f.offset=0/\P.underlying f.type=O (.int .i64))/\(g.name≠ "_" /\g.offset=1/\P.underlying g.type=O (.int .i64))):=by
 have u:∀{f:Field}{o:Z},K8 P f o=I->f.name≠ "_" /\f.offset=o/\P.underlying f.type=O (.int .i64):=λ{f o}h=>by
  unfold K8 at h;simp only[zj,bne_iff_ne,beq_iff_eq]at h;refine⟨h.1,h.2.1,?_⟩;have:=h.2.2;split at this
  .assumption
  .cases this
 unfold GP at h;split at h
 .rename_i k q;cases h;exact .inl ⟨k,rfl,q⟩
 .rename_i q;cases h;exact .inr (.inl ⟨rfl,q⟩)
 .rename_i B q;split at h
  .rename_i f g C;split at h
   .rename_i A;cases h;simp only[zj,beq_iff_eq]at A;obtain⟨D,E,H,L⟩:=A;obtain rfl:B=#[f,g]:=zBq (by simpa using C);exact .inr (.inr ⟨rfl,H,L,f,g,q,u D,u E⟩)
   .cases h
  .cases h
 .cases h
def q8I(hk:GP P kt=O ik){n m}(q:ik.fit n=I)(hm:ik.fit m=I):(Op.equal kt (ik.v n) (ik.v m)).run P w=.ok (DL n m) w:=by
 rcases qmH hk with⟨k,rfl,h⟩|⟨rfl,h⟩|⟨rfl,A,B,f,g,h,_⟩
 .cases n<;>simp[KyT.fit]at q;cases m<;>simp[KyT.fit]at hm;exact run_equalIn_int w 9999 kt _ k _ _ h
 .cases n<;>simp[KyT.fit]at q;cases m<;>simp[KyT.fit]at hm
  have:∀(u:Z)(a b:ByteArray),(zDW (u+1) kt (.string a) (.string b)).run P w=.ok (DL (.s a) (.s b)) w:=λu a b=>by
   simp[zDW,zN h,beq_toListBytes,ByteArray.toList_eq,DL]
  exact this 9999 _ _
 .cases n<;>simp[KyT.fit]at q;cases m<;>simp[KyT.fit]at hm;rename_i a b c d;refine qyE (P:=P) 3 10000 sb kt [0,0] A I B [.int .i64 a,.int .i64 b] [.int .i64 c,.int .i64 d] _ ?_ w;simp[eqV,KG,kEq,DL]
def qAH(hk:GP P kt=O ik){n}(q:ik.fit n=I):∀(es:F (Ky×zg))(b i:Z),ik.fits es=I->((∀x∈es,DL n x.1=zb)->(Instr.findAsking kt (ik.v n) (mkE ik b es) i).run P w=.ok zc w)/\(∀j u,es[j]?=O (n,u)->(∀i x,i<j->es[i]?=O x->DL n x.1=zb)->(Instr.findAsking kt (ik.v n) (mkE ik b es) i).run P w=.ok (O (i+j,u)) w)
 |[],b,i,_=>⟨λ_=>rfl,λj u A=>by simp at A⟩
 |(m,u)::r,b,i,h=>by
  simp only[KyT.fits,zj]at h;obtain⟨H,L⟩:=qAH hk q r (b+1) (i+1) h.2;refine⟨λA=>?_,λj M B E=>?_⟩
  .have C:=A (m,u) (zAm ..);simp only[mkE,Instr.findAsking,zAa,q8I hk q h.1,zAY,C];exact H λx D=>A x (zAl _ D)
  .cases j with
   |zero=>
    simp at B;obtain⟨rfl,rfl⟩:=B;simp only[mkE,Instr.findAsking,zAa,q8I hk q h.1,zAY,Bx.2 rfl];rfl
   |succ j=>
    have C:=E 0 (m,u) sa rfl;simp only[mkE,Instr.findAsking,zAa,q8I hk q h.1,zAY,C];rw[show i+(j+1)=i+1+j by omega];exact L j M (by simpa using B) λQ x R D=>E (Q+1) x sa (by simpa using D)
def qpI{d:TypeDesc}(hk:GP P kt=O ik)(B:P.underlying kt=O d){n}(A:ik.fit n=I):∀(es:F (Ky×zg))(b i:Z),ik.fits es=I->∀a,Instr.findNow d (ik.v n) (mkE ik b es) i=O a->(Instr.findAsking kt (ik.v n) (mkE ik b es) i).run P w=.ok a w
 |[],b,i,_,a,h=>by simp only[mkE,Instr.findNow,zAk]at h;subst h;rfl
 |(m,E)::r,b,i,u,a,h=>by
  simp only[KyT.fits,zj]at u
  have D:∀x,Instr.sameNow d (ik.v n) (ik.v m)=O x->x=DL n m:=λx C=>by
   rcases qmH hk with⟨k,rfl,q⟩|⟨rfl,q⟩|⟨rfl,_,_,f,g,q,_⟩
   .rw[B]at q;cases q;cases n<;>simp[KyT.fit]at A;have:=u.1;cases m<;>simp[KyT.fit]at this;simpa[Instr.sameNow,KyT.v,DL]using C.symm
   .rw[B]at q;cases q;cases n<;>simp[KyT.fit]at A;have:=u.1;cases m<;>simp[KyT.fit]at this;simpa[Instr.sameNow,KyT.v,DL,beq_toListBytes,ByteArray.toList_eq]using C.symm
   .rw[B]at q;cases q;cases n<;>simp[KyT.fit]at A;have:=u.1;cases m<;>simp[KyT.fit]at this;simp[Instr.sameNow,KyT.v]at C
  simp only[mkE,Instr.findNow]at h;simp only[mkE,Instr.findAsking,zAa,q8I hk A u.1,zAY];split at h
  .rename_i hs;rw[<-D _ hs];cases h;rfl
  .rename_i hs;rw[<-D _ hs];exact qpI hk B A r (b+1) (i+1) u.2 a h
  .cases h
def qLG(hk:GP P kt=O ik){n}(A:ik.fit n=I)(B:ik.fits es=I){a}(h:(Instr.findAsking kt (ik.v n) (mkE ik 0 es)).run P w=.ok a w):(Instr.findKey kt (ik.v n) (mkE ik 0 es)).run P w=.ok a w:=by
 obtain⟨d,q⟩:∃d,P.underlying kt=O d:=by
  rcases qmH hk with⟨k,rfl,q⟩|⟨rfl,q⟩|⟨rfl,_,_,f,g,q,_⟩<;>exact⟨_,q⟩
 cases u:Instr.findNow d (ik.v n) (mkE ik 0 es) 0 with
 |none=>simp only[Instr.findKey,zAa,zN q,zAY,u];exact h
 |some C=>
  have:=qpI (w:=w) hk q A es 0 0 B C u;rw[this]at h;cases h;exact run_findKey q u
def qaJ(hk:GP P kt=O ik){n}(q:ik.fit n=I)(e):(Instr.checkKey e 10000 kt (ik.v n)).run P w=.ok () w:=by
 rcases qmH hk with⟨k,rfl,h⟩|⟨rfl,h⟩|⟨rfl,_,_,f,g,h,⟨B,C,u⟩,D,E,A⟩
 .cases n<;>simp[KyT.fit]at q;exact Go.MapKept.run_checkKey (P:=P) (w:=w) h (by simp[IsKey,KyT.v]) e 9999
 .cases n<;>simp[KyT.fit]at q;exact Go.MapKept.run_checkKey (P:=P) (w:=w) h (by simp[IsKey,KyT.v]) e 9999
 .cases n<;>simp[KyT.fit]at q;rename_i a b;have c1:=Go.MapKept.run_checkKey (P:=P) (w:=w) (k:=.int .i64 a) u (by simp[IsKey]) e 9998;have c2:=Go.MapKept.run_checkKey (P:=P) (w:=w) (k:=.int .i64 b) A (by simp[IsKey]) e 9998;unfold Instr.checkKey;simp only[KyT.v,zAa,zN h,zAY];simp[part,isAgg,zN u,zN A,B,D,C,E,c1,c2]
def qBI(D:P.underlying t=O (.map kt et))(hk:GP P kt=O ik)(hb:w.heap[r]?=O (.map ⟨mkE ik 0 es⟩ es.length))(A:ik.fits es=I){n}(h:ik.fit n=I)(v):(Instr.mapUpdate t (.map (O r)) (ik.v n) v).run P w=.ok () {w with heap:=w.heap.setIfInBounds r (.map ⟨mkE ik 0 (BT n v es)⟩ (BT n v es).length)}:=by
 have E:=qaJ (w:=w) hk h zb;have H:=Go.MapKept.run_getObj_map (P:=P) hb;rcases qGJ ik n v es with⟨R,T,q⟩|⟨j,u,R,q,B,L⟩
 .have C:=qLG hk h A ((qAH (w:=w) hk h es 0 0 A).1 T);simp only[Instr.mapUpdate,zAa,zN D,zAY,H,E,C,Go.MapKept.run_setObj_map _ hb];rw[q,qLI];simp
 .have C:=qLG hk h A ((qAH (w:=w) hk h es 0 0 A).2 j u q B)
  have M:(⟨mkE ik 0 es⟩:zR MapEntry)[0+j]?=O {key:=ik.v n,val:=u,born:=0+j}:=by
   rw[zAu];have:=qvJ ik es 0 j n u q;simpa using this
  have U:(Instr.keyThatStays (ik.v n) (ik.v n)).run P w=.ok (ik.v n) w:=by
   have hs:Instr.sameBits 10000 (ik.v n) (ik.v n)=I:=by
    cases ik<;>cases n<;>simp[KyT.fit]at h<;>simp[KyT.v,Instr.sameBits,beq_toListBytes]
   simp[Instr.keyThatStays,hs]
  simp only[Instr.mapUpdate,zAa,zN D,zAY,H,E,C,M,zBx,zAM,U,Go.MapKept.run_setObj_map _ hb]
  have hm:(⟨mkE ik 0 es⟩:zR MapEntry).modify (0+j) (λe=>{e with key:=ik.v n,val:=v})=⟨mkE ik 0 (BT n v es)⟩:=by
   apply zBq;rw[L,qMU ik v es 0 j n u q,zDk];rw[zAu]at M⊢;have V:(mkE ik 0 es)[j]?=O {key:=ik.v n,val:=u,born:=0+j}:=qvJ ik es 0 j n u q;apply zBT;intro i;rw[List.getElem?_modify,zAF];by_cases Q:j=i
   .subst Q;obtain⟨B,W⟩:=zd.1 V;simp[B,W]
   .simp[Q]
  rw[hm,L,zX]
def qVU{n}(h:ik.fit n=I):(Instr.keyThatStays (ik.v n) (ik.v n)).run P w=.ok (ik.v n) w:=by
 have hs:Instr.sameBits 10000 (ik.v n) (ik.v n)=I:=by
  cases ik<;>cases n<;>simp[KyT.fit]at h<;>simp[KyT.v,Instr.sameBits,beq_toListBytes]
 simp[Instr.keyThatStays,hs]
def IY(n:Ky)(z:zg)(es:F (Ky×zg)):F (Ky×zg):=match Bs n es with
 |some _=>es
 |none=>es++[(n,z)]
def qzI(H:P.underlying t=O (.map kt et))(hk:GP P kt=O ik)(hb:w.heap[r]?=O (.map ⟨mkE ik 0 es⟩ es.length))(A:ik.fits es=I){n}(h:ik.fit n=I){z}(C:(P.info? et).bind (·.zero)=O z):
  (Instr.mapEntry t (.map (O r)) (ik.v n)).run P w=.ok (.tuple #[(Bs n es).getD z,.int .i64 (match Bs n es with|some _=>(mIx n es:zn)|none=>es.length)]) {w with heap:=w.heap.setIfInBounds r (.map ⟨mkE ik 0 (IY n z es)⟩ (IY n z es).length)}:=by
 have L:=qaJ (w:=w) hk h zb;have M:=Go.MapKept.run_getObj_map (P:=P) hb
 have T:(zAZ et).run P w=.ok z w:=by
  obtain⟨i,U,C⟩:=zAD.1 C;simp[zAZ,typeInfo,U,C]
 rcases qGJ ik n z es with⟨D,V,q⟩|⟨j,u,D,q,B,ab⟩
 .have E:=qLG hk h A ((qAH (w:=w) hk h es 0 0 A).1 V);simp only[Instr.mapEntry,zAa,zN H,zAY,M,L,E,T,Go.MapKept.run_setObj_map _ hb,IY,D,qLI];simp[goInt]
 .have E:=qLG hk h A ((qAH (w:=w) hk h es 0 0 A).2 j u q B)
  have Q:(⟨mkE ik 0 es⟩:zR MapEntry)[0+j]?=O {key:=ik.v n,val:=u,born:=0+j}:=by
   rw[zAu];have:=qvJ ik es 0 j n u q;simpa using this
  have W:=qVU (P:=P) (w:=w) h;simp only[Instr.mapEntry,zAa,zN H,zAY,M,L,E,Q,zBx,zAM,W,Go.MapKept.run_setObj_map _ hb,IY,D,qvX q B]
  have hm:(⟨mkE ik 0 es⟩:zR MapEntry).modify (0+j) (λe=>{e with key:=ik.v n})=⟨mkE ik 0 es⟩:=by
   apply zBq;rw[zDk];rw[zAu]at Q⊢;have Y:(mkE ik 0 es)[j]?=O {key:=ik.v n,val:=u,born:=0+j}:=qvJ ik es 0 j n u q;apply zBT;intro i;rw[List.getElem?_modify];by_cases R:j=i
   .subst R;obtain⟨B,aa⟩:=zd.1 Y;simp[B,aa]
   .simp[R]
  rw[hm];simp[goInt]
def qhH(ik):∀(es:F (Ky×zg))(b j:Z),j<es.length->(mkE ik b es).findIdx? (λe=>(e.born:zn)==((b+j:Z):zn))=O j
 |[],b,j,h=>by simp at h
 |(m,q)::r,b,0,h=>by simp[mkE,zCg]
 |(m,q)::r,b,j+1,h=>by
  have:=qhH ik r (b+1) j (by simpa using h);rw[show b+1+j=b+(j+1) by omega]at this;simp only[mkE,zCg];rw[show((b:zn)==((b+(j+1):Z):zn))=zb by simp;omega,this];simp
def qNU(ik)(v):∀(es:F (Ky×zg))(b j:Z),mkE ik b (DY j v es)=(mkE ik b es).modify j (λe=>{e with val:=v})
 |[],b,j=>by cases j<;>simp[DY,mkE]
 |(m,h)::r,b,0=>by simp[DY,mkE]
 |(m,h)::r,b,j+1=>by simp[DY,mkE,qNU ik v r (b+1) j]
def qVH{ty}(hb:w.heap[r]?=O (.map ⟨mkE ik 0 es⟩ es.length)){j}(h:j<es.length)(v):(Instr.entryStore ty (.map (O r)) (.int .i64 j) v).run P w=.ok () {w with heap:=w.heap.setIfInBounds r (.map ⟨mkE ik 0 (DY j v es)⟩ (DY j v es).length)}:=by
 have q:=Go.MapKept.run_getObj_map (P:=P) hb;have u:(asInt (.int .i64 j)).run P w=.ok (j:zn) w:=rfl
 have A:(⟨mkE ik 0 es⟩:zR MapEntry).findIdx? (λe=>(e.born:zn)==(j:zn))=O j:=by
  have:=qhH ik es 0 j h;rw[zAu]at this;simpa using this
 simp only[Instr.entryStore,zAa,zAY,q,u,A,Go.MapKept.run_setObj_map _ hb];rw[qlQ,qNU];congr 4;apply zBq;rw[zDk]
def qmG(C:P.underlying t=O (.map kt et))(hk:GP P kt=O ik)(hb:w.heap[r]?=O (.map ⟨mkE ik 0 es⟩ es.length))(q:ik.fits es=I){n}(h:ik.fit n=I){z}(u:(P.info? et).bind (·.zero)=O z)(ok):(Instr.lookup t (.map (O r)) (ik.v n) ok).run P w=.ok (qUN ok z (Bs n es)) w:=by
 have D:=λe=>qaJ (w:=w) hk h e;have E:=Go.MapKept.run_getObj_map (P:=P) hb
 have H:(zAZ et).run P w=.ok z w:=by
  obtain⟨i,L,u⟩:=zAD.1 u;simp[zAZ,typeInfo,L,u]
 rcases qGJ ik n .nilFunc es with⟨A,M,_⟩|⟨j,Q,A,R,T,_⟩
 .have B:=qLG hk h q ((qAH (w:=w) hk h es 0 0 q).1 M);simp only[Instr.lookup,zAa,zN C,zAY,E,D,B,H,Sem.run_pure,A];cases ok<;>rfl
 .have B:=qLG hk h q ((qAH (w:=w) hk h es 0 0 q).2 j Q R T);simp only[Instr.lookup,zAa,zN C,zAY,E,D,B,Sem.run_pure,A];cases ok<;>rfl
end
end Go.Proofs.YtlmhpamhhgogaaaGreat.Sx
namespace Go.Proofs.YtlmhpamhhgogaaaGreat.Sx
open Go.RowKit
def Rcs(g:GW)(a:zAH)(xs:F zg):Prop:=∀i h,xs[i]?=O h->Rc g (a.add i) h
def qzW(agg:zM)(size:Z)(hs:Hs)(x:SV)(K:SV->Prop):Prop:=match x with
 |.p id b o=>match qBB id hs.rs with
  |some (u,_,cells)=>b=u/\match agg with
   |true=>match Jx cells o size with
    |some r=>K (.agg r)
    |none=>zV
   |false=>match HQ cells o with
    |some s=>qBX (norm hs.rs s) K
    |none=>zV
  |none=>zV
 |.re id w n cap j=>match qPB id hs.rs with
  |some (A,B,C,_,_,cs)=>(w=A/\n=B/\cap=C)/\match agg with
   |true=>match Nat.ble 1 size with
    |true=>∃q:F zg,(q.length=size/\∀i h,q[i]?=O h->cs[j+i]?=O h)/\K (.v (.agg ⟨q⟩))
    |false=>zV
   |false=>∃h,cs[j]?=O h/\K (.v h)
  |none=>zV
 |.v (.pointer (O a))=>match agg with
  |true=>∃q:F zg,(q.length=size/\Rcs hs.g a q)/\K (.v (.agg ⟨q⟩))
  |false=>∃h,Rc hs.g a h/\K (.v h)
 |_=>zV
def Jm(size:Z)(x:SV)(lo u w:zs SV)(K:SV->Prop):Prop:=match x with
 |.v (.slice q n cap)=>
  match lo,u,w with
  |none,zc,zc=>K (.v (.slice q n cap))
  |some (.v (.int _ l)),zc,zc=>(0<=l/\l<=n)/\K (.v (.slice (if cap=l.toNat then q else q.map (·.add (l.toNat*size))) (n-l.toNat) (cap-l.toNat)))
  |none,O (.v (.int _ h)),zc=>(0<=h/\h<=cap)/\K (.v (.slice q h.toNat cap))
  |some (.v (.int _ l)),O (.v (.int _ h)),zc=>(0<=l/\l<=h/\h<=cap)/\K (.v (.slice (if cap=l.toNat then q else q.map (·.add (l.toNat*size))) (h.toNat-l.toNat) (cap-l.toNat)))
  |none,O (.v (.int _ h)),O (.v (.int _ m))=>(0<=h/\h<=m/\m<=cap)/\K (.v (.slice q h.toNat m.toNat))
  |some (.v (.int _ l)),O (.v (.int _ h)),O (.v (.int _ m))=>(0<=l/\l<=h/\h<=m/\m<=cap)/\K (.v (.slice (if m=l then q else q.map (·.add (l.toNat*size))) (h.toNat-l.toNat) (m.toNat-l.toNat)))
  |_,_,_=>zV
 |_=>zV
def qeR(x:SV)(lo q:zs SV)(K:SV->Prop):Prop:=match x with
 |.v (.string s)=>match lo,q with
  |none,zc=>K (.v (.string (s.extract 0 s.size)))
  |some (.v (.int _ l)),zc=>(0<=l/\l<=s.size)/\K (.v (.string (s.extract l.toNat s.size)))
  |none,O (.v (.int _ h))=>(0<=h/\h<=s.size)/\K (.v (.string (s.extract 0 h.toNat)))
  |some (.v (.int _ l)),O (.v (.int _ h))=>(0<=l/\l<=h/\h<=s.size)/\K (.v (.string (s.extract l.toNat h.toNat)))
  |_,_=>zV
 |_=>zV
def Opd.ko(rs:F Res)(sl:Sl)(x:zs Opd)(k:zs SV->Prop):Prop:=match x with
 |none=>k zc
 |some x=>x.k rs sl λs=>k (O s)
def q1A(x:SV):F SV:=match x with
 |.agg l=>l
 |.v (.agg ⟨l⟩)=>l.map .v
 |x=>[x]
def qYB(x):qDA (q1A x)=(Ae x).cells.toList:=by
 cases x with
 |v y=>
  cases y with
  |agg cs=>cases cs;rename_i l;simp[q1A,Ae,Value.cells,qiA,zB8]
  |_=>simp[q1A,Ae,Value.cells,qDA]
 |agg l=>simp[q1A,Ae,Value.cells]
 |_=>simp[q1A,Ae,Value.cells,qDA]
def qDC(x):(q1A x).length=(Ae x).cells.size:=by
 have:=zK List.length (qYB x);rw[qrA]at this;simpa using this
def GM{h:Type}:F h->Z->F h->zs (F h)
 |l,0,[]=>O l
 |[],0,_::_=>zc
 |_::l,0,c::cs=>match GM l 0 cs with
  |some r=>O (c::r)
  |none=>zc
 |[],_+1,_=>zc
 |x::l,o+1,cs=>match GM l o cs with
  |some r=>O (x::r)
  |none=>zc
def qZH{w:Type}:∀{l:F w}{o:Z}{cs r:F w},GM l o cs=O r->o+cs.length<=l.length/\r=l.take o++cs++l.drop (o+cs.length)
 |l,0,[],r,h=>by simp[GM]at h;simp[h]
 |[],0,_::_,r,h=>by simp[GM]at h
 |x::l,0,c::cs,r,h=>by
  simp only[GM]at h;split at h
  .rename_i A q;simp at h;subst h;obtain⟨B,u⟩:=qZH q;exact⟨by simp at*;omega,by simp[u]⟩
  .cases h
 |[],o+1,cs,r,h=>by simp[GM]at h
 |x::l,o+1,cs,r,h=>by
  simp only[GM]at h;split at h
  .rename_i A q;simp at h;subst h;obtain⟨B,u⟩:=qZH q;exact⟨by simp at*;omega,by simp[u,Nat.add_right_comm o 1]⟩
  .cases h
def qcU(vs):∀(o j:Z)(A:zR zg),o+j+vs.length<=A.size->((vs.zipIdx j).foldl (λcs(c,k)=>cs.setIfInBounds (o+k) c) A).toList=A.toList.take (o+j)++vs++A.toList.drop (o+j+vs.length):=by
 induction vs with
 |nil=>intro o j A h;simp
 |cons v vs q=>
  intro o j A h;simp only[List.zipIdx_cons,zBU];rw[q o (j+1) _ (by simp at*;omega)];have u:o+j<A.toList.length:=by simp at*;omega
  simp only[Array.toList_setIfInBounds];rw[<-zCS o j 1,zY (by simpa using u),List.take_set,List.set_eq_of_length_le sf,List.getElem_set_self,zDl sa];simp only[zBZ,zCx,zB0,zBb];rw[show o+j+1+vs.length=o+j+(vs.length+1) by omega]
def qhU(rs:F Res)(sl:Sl):F SV->F (Z×Z×Opd)->(F SV->Prop)->Prop
 |cells,[],K=>K cells
 |cells,(off,size,x)::r,K=>x.k rs sl λs=>match zAP (q1A s).length size with
  |true=>match GM cells off (q1A s)with
   |some h=>qhU rs sl h r K
   |none=>zV
  |false=>zV
def qVG{rs}{sl}{a}(hs:q1C sl a)(place):∀(parts:F (Z×Operand))(ps:F (Z×Z×Opd))(cells:F SV){K:F SV->Prop},(parts.map λ(i,x)=>(place i).map λ(o,s)=>(o,s,qIA x))=ps.map O->qhU rs sl cells ps K->∃q,K q/\Instr.fill place (qDA cells).toArray (parts.map λ(i,x)=>(i,a.eval x))=O (qDA q).toArray
 |[],ps,cells,K,h,w=>by
  simp at h;subst h;exact⟨cells,w,rfl⟩
 |(i,x)::parts,[],cells,K,h,w=>by simp at h
 |(i,x)::parts,(off,size,y)::ps,cells,K,h,w=>by
  simp only[zBP,zAJ,zU,Prod.exists,zCD]at h;obtain⟨⟨o,s,C,rfl,rfl,rfl⟩,h⟩:=h
  obtain⟨v,u,D⟩:=Opd.AB (k:=λB=>match zAP (q1A B).length s with
   |true=>match GM cells o (q1A B)with
    |some q=>qhU rs sl q ps K
    |none=>zV
   |false=>zV) w hs
  split at u
  .rename_i A;have A:=zP A;split at u
   .rename_i q E;obtain⟨H,L⟩:=qZH E;obtain⟨M,P,Q⟩:=qVG hs place parts ps q h u;refine⟨M,P,?_⟩;rw[qDC]at A H;simp only[zBP,Instr.fill,C,D];rw[zh (by simp[A,qrA];omega)];rw[<-Q];congr 1;have R:=qcU (Ae v).cells.toList o 0 (qDA cells).toArray (by simp[qrA];omega)
    have T:(Ae v).cells.zipIdx.foldl (λcs(c,j)=>cs.setIfInBounds (o+j) c) (qDA cells).toArray=((Ae v).cells.toList.zipIdx 0).foldl (λcs(c,j)=>cs.setIfInBounds (o+j) c) (qDA cells).toArray:=by
     rw[<-Array.toList_zipIdx,zDp]
    rw[T];apply zBq;rw[R,L];simp only[q4F,qXG,qYG,qYB,qDC];simp
   .exact u.elim
  .exact u.elim
def qgc(h:zM)(x y:SV)(K:SV->Prop):Prop:=match qZL x with
 |none=>zV
 |some a=>match qZL y with
  |none=>zV
  |some b=>match h with
   |false=>K (.v (.bool (a==b)))
   |true=>K (.v (.bool (!(a==b))))
def qfc(kind:Z)(h:zM)(x:SV)(K:SV->Prop):Prop:=match q5O kind x with
 |none=>zV
 |some a=>match h with
  |false=>K (.v (.bool a))
  |true=>K (.v (.bool (!a)))
def qYN:SV->zM
 |.agg _=>I
 |.v (.agg _)=>I
 |_=>zb
def qEY(h:zM)(ks:F Z)(x y:SV)(K:SV->Prop):Prop:=match qYN x,qYN y with
 |true,I=>qhC (q1A x) λq=>qhC (q1A y) λu=>match eqV ks q u with
  |some b=>match h with
   |false=>K (.v (.bool b))
   |true=>K (.v (.bool (!b)))
  |none=>zV
 |_,_=>zV
def MZ(x:SV)(K:SV->Prop):Prop:=match x with
 |.b I=>K (.b zb)
 |.b zb=>K (.b I)
 |.v (.bool x)=>K (.v (.bool (!x)))
 |_=>zV
def qTc(k:IntKind)(x:SV)(K:SV->Prop):Prop:=match x with
 |.v (.int _ n)=>K (.v (.int k (k.wrap n)))
 |_=>zV
def qsW(x y:SV)(K:SV->Prop):Prop:=match x,y with
 |.v (.int k a),.v (.int _ b)=>K (.v (.int k (if b<a then b else a)))
 |_,_=>zV
def Mv(h:F zn):ByteArray:=h.foldl (λr n=>r.push (UInt8.ofNat n.toNat)) ByteArray.empty
def Me(hs:Hs)(x:SV)(K:SV->Prop):Prop:=match x with
 |.v (.slice q n cap)=>∃h:F zn,Dl hs.g 1 (.slice q n cap) n (h.map (zD .u8))/\K (.v (.string (Mv h)))
 |_=>zV
def qxW(hs:Hs)(h:KyT)(z:zg)(ok:zM)(x k:SV)(K:SV->Prop):Prop:=match x with
 |.mp id r=>match kOf h (Ae k)with
  |some n=>match qJD id hs.rs with
   |some (q,u,es)=>(r=q/\I=I/\Kx u h=I)/\∃o,Bs n es=o/\match o with
    |some v=>match ok with
     |true=>K (.v (.tuple ⟨[v,.bool I]⟩))
     |false=>K (.v v)
    |none=>match ok with
     |true=>K (.v (.tuple ⟨[z,.bool zb]⟩))
     |false=>K (.v z)
   |none=>zV
  |none=>zV
 |.v (.map (O r))=>match kOf h (Ae k)with
  |some n=>∃es,(I=I/\FzM hs.g r h es)/\∃o,Bs n es=o/\match o with
    |some v=>match ok with
     |true=>K (.v (.tuple ⟨[v,.bool I]⟩))
     |false=>K (.v v)
    |none=>match ok with
     |true=>K (.v (.tuple ⟨[z,.bool zb]⟩))
     |false=>K (.v z)
  |none=>zV
 |_=>zV
def LG(str:zM)(x:SV)(K:SV->Prop):Prop:=match str with
 |true=>match x with
  |.v (.string s)=>K (.v (.int .i64 s.size))
  |_=>zV
 |false=>match x with
  |.v (.slice _ n _)=>K (.v (.int .i64 n))
  |.sl _ _ _ n _=>K (.v (.int .i64 n))
  |.row _ _ n _=>K (.v (.int .i64 n))
  |_=>zV
def qFc(x i:SV)(K:SV->Prop):Prop:=match x,i with
 |.v (.string s),.v (.int _ n)=>∃c:UInt8,(0<=n/\s.data.toList[n.toNat]?=O c)/\K (.v (.int .u8 c.toNat))
 |_,_=>zV
def qGc(n size:Z)(agg:zM)(x i:SV)(K:SV->Prop):Prop:=match i with
 |.v (.int _ m)=>∃j:Z,(m=j/\j<n)/\qNW agg (j*size) size x K
 |_=>zV
def qNc(off:Z)(x:SV)(K:SV->Prop):Prop:=match x with
 |.p id b o=>K (.p id b (o+off))
 |.re id (O h) n cap j=>K (.re id (O h) n cap (j+off))
 |.v (.pointer (O a))=>K (.v (.pointer (O (a.add off))))
 |_=>zV
def qwX(n size:Z)(x i:SV)(K:SV->Prop):Prop:=match i with
 |.v (.int _ m)=>match x with
  |.p id b o=>∃j:Z,(m=j/\j<n)/\K (.p id b (o+j*size))
  |.v (.pointer (O a))=>(0<=m/\m<n)/\K (.v (.pointer (O (a.add (m.toNat*size)))))
  |_=>zV
 |_=>zV
def qHc(rs:F Res)(size:Z)(x i:SV)(K:SV->Prop):Prop:=match i with
 |.v (.int _ m)=>match x with
  |.v (.slice h n _)=>∃a,h=O a/\(0<=m/\m<n)/\K (.v (.pointer (O (a.add (m.toNat*size)))))
  |.sl id b o n _=>∃j:Z,(m=j/\j<n)/\K (.p id b (o+j*size))
  |.row id h n cap=>match qPB id rs with
   |some (q,u,w,_,A,_)=>(h=q/\n=u/\cap=w/\A=size)/\(0<=m/\m<n)/\K (.re id h n cap (m.toNat*size))
   |none=>zV
  |_=>zV
 |_=>zV
def M1(x:SV)(K:SV->Prop):Prop:=match x with
 |.p id b o=>K (.p id b o)
 |.re id (O h) n cap j=>K (.re id (O h) n cap j)
 |.v (.pointer (O a))=>K (.v (.pointer (O a)))
 |.v (.func (.func f) a b)=>K (.v (.func (.func f) a b))
 |.fn (.func f) a b=>K (.fn (.func f) a b)
 |.yl id l=>K (.yl id l)
 |_=>zV
def Ni(i:Z)(x:SV)(K:SV->Prop):Prop:=match x with
 |.tup l=>match HQ l i with
  |some s=>K s
  |none=>zV
 |.v (.tuple ⟨l⟩)=>match HQ l i with
  |some s=>K (.v s)
  |none=>zV
 |_=>zV
def rdS(o:SOp)(sl:Sl)(hs:Hs)(K:SV->Prop):Prop:=match o with
 |.mov x=>x.k hs.rs sl K
 |.pick c a b=>c.k hs.rs sl λc=>match c with
  |.b I=>a.k hs.rs sl K
  |.b zb=>b.k hs.rs sl K
  |.v (.bool x)=>(x=I->a.k hs.rs sl K)/\(x=zb->b.k hs.rs sl K)
  |_=>zV
 |.Ld op x y=>x.k hs.rs sl λx=>y.k hs.rs sl λy=>qOa op x y K
 |.NB op x y=>x.k hs.rs sl λx=>y.k hs.rs sl λy=>qNa op x y K
 |.Le u x y=>x.k hs.rs sl λx=>y.k hs.rs sl λy=>qgc u x y K
 |.I6 kind u x=>x.k hs.rs sl λx=>qfc kind u x K
 |.HZ u ks x y=>x.k hs.rs sl λx=>y.k hs.rs sl λy=>qEY u ks x y K
 |.not x=>x.k hs.rs sl λx=>MZ x K
 |.conv k x=>x.k hs.rs sl λx=>qTc k x K
 |.len str x=>x.k hs.rs sl λx=>LG str x K
 |.Nc x i=>x.k hs.rs sl λx=>i.k hs.rs sl λi=>qFc x i K
 |.Nf n size agg x i=>x.k hs.rs sl λx=>i.k hs.rs sl λi=>qGc n size agg x i K
 |.Fp off x=>x.k hs.rs sl λx=>qNc off x K
 |.fld off size agg x=>x.k hs.rs sl λx=>qNW agg off size x K
 |.Lk n size x i=>x.k hs.rs sl λx=>i.k hs.rs sl λi=>qwX n size x i K
 |.LH size x i=>x.k hs.rs sl λx=>i.k hs.rs sl λi=>qHc hs.rs size x i K
 |.load agg size x=>x.k hs.rs sl λx=>qzW agg size hs x K
 |.nck x=>x.k hs.rs sl λx=>M1 x K
 |.ext i x=>x.k hs.rs sl λx=>Ni i x K
 |.mkf f first A=>Opd.ks hs.rs sl first λa=>Opd.ks hs.rs sl A λc=>K (.fn f a c)
 |.build zero parts=>qhU hs.rs sl zero parts λcells=>K (.agg cells)
 |.MC x h q=>x.k hs.rs sl λx=>Opd.ko hs.rs sl h λh=>Opd.ko hs.rs sl q λq=>qeR x h q K
 |.slc size x h q w=>x.k hs.rs sl λx=>Opd.ko hs.rs sl h λh=>Opd.ko hs.rs sl q λq=>Opd.ko hs.rs sl w λw=>Jm size x h q w K
 |.M2 x y=>x.k hs.rs sl λx=>y.k hs.rs sl λy=>qsW x y K
 |.tos x=>x.k hs.rs sl λx=>Me hs x K
 |.look B z ok x k=>x.k hs.rs sl λx=>k.k hs.rs sl λk=>qxW hs B z ok x k K
 |_=>zV
def SOp.reads:SOp->zM
 |.store .. |.alloc .. |.box .. |.bsl .. |.app .. |.msl .. |.cpy .. |.call .. |.JO .. |.I4 .. |.mkm .. |.mup .. |.men .. |.est ..=>zb
 |_=>I
def SOp.pure:SOp->zM
 |.load .. |.tos .. |.LH .. |.look ..=>zb
 |o=>o.reads
def qnC{P}{w w'}{s:Sem zg}{x}(h:s.run P w=.ok x w'):(do pure (Next.value (<-s)):Sem Next).run P w=.ok (.value x) w':=by
 simp[h,zAo]
def q9V{P}{w w'}{s:Sem Unit}(h:s.run P w=.ok () w'):(do s;pure Next.skip:Sem Next).run P w=.ok .skip w':=by
 simp[h,zAo]
def qwA{P}{t}{size}(hs:qQB P t=O size)(w):(sizeOf t).run P w=.ok size w:=by
 simp only[qQB,zU]at hs;obtain⟨i,h,rfl⟩:=hs;simp[sizeOf,typeInfo,zAa,h,zAo]
def q1L{P}{t}{agg}(ha:BP P t=O agg)(w):(isAgg t).run P w=.ok agg w:=by
 unfold BP at ha;simp only[isAgg,underlying,zAa,run_program,zAo];split at ha<;>rename_i h<;>simp at ha<;>subst ha<;>simp[h]
def Aq.EA{fr:Fr}{hs}{w}(h:Aq fr hs w){id b}{ty}{cells}(q:qBB id hs.rs=O (b,ty,cells)):w.heap[b]?=O (.cells (qDA cells).toArray ty (0,0))/\∀c∈cells,(Ae c).oneCell'=I:=by
 obtain⟨u,A,e⟩:=qtH q;exact h.res (.blk id b ty cells) (by rw[e];simp)
def Aq.Fw{fr:Fr}{hs}{w}(h:Aq fr hs w){id}{oa}{n cap}{ety}{size}{cs}(q:qPB id hs.rs=O (oa,n,cap,ety,size,cs)):w.ownsRow 0 ety size (.slice oa n cap) n cs/\∀u∈cs,u.oneCell'=I:=by
 obtain⟨A,B,e⟩:=qAF q;exact h.res (.row id oa n cap ety size cs) (by rw[e];simp)
def qCB{w:zp}{b:Z}{cs:zR zg}{ty:zAy}{fr:Z×Z}(h:w.heap[b]?=O (.cells cs ty fr))(o:Z):w.cell? ⟨b,o,zc⟩=cs[o]?:=by
 simp[World.cell?,h]
def qlA(b o n):(⟨b,o,zc⟩:zAH).add n=⟨b,o+n,zc⟩:=by
 unfold Addr.add;split
 .rename_i h;subst h;rfl
 .rfl
def qIH(a:zAH)(i j:Z):(a.add i).add j=a.add (i+j):=by
 unfold Addr.add;split<;>split<;>split<;>first|omega|(simp_all;done)|(simp;omega)
def qnB{P}{t}{size}{agg}(hs:qQB P t=O size)(ha:BP P t=O agg){w}{a}:(∀x,agg=zb->w.cell? a=O x->(loadVar t a).run P w=.ok x w)/\(∀xs:F zg,agg=I->xs.length=size->(∀i u,xs[i]?=O u->w.cell? (a.add i)=O u)->(loadVar t a).run P w=.ok (.agg ⟨xs⟩) w):=by
 refine⟨λx h q=>?_,λxs h B q=>?_⟩
 .subst h;simp[loadVar,zAa,q1L ha,zAo,q]
 .subst h;have A:=run_loadCells_list (P:=P) (w:=w) a xs (λj v C=>q j v C);rw[B]at A;simp[loadVar,zAa,q1L ha,qwA hs,zAo,A]
def qHL{agg}{size}{hs}{x}{K}(h:qzW agg size hs x K){P}{t}(B:qQB P t=O size)(ha:BP P t=O agg)(R:0<size\/agg=I):∃s,K s/\∀fr w,Aq fr hs w->(zBv t (Ae x)).run P w=.ok (Ae s) w:=by
 have go:∀{a:zAH}{w:zp}{v:zg},(loadVar t a).run P w=.ok v w->(zBv t (.pointer (O a))).run P w=.ok v w:=λh=>by
  simp[zBv,Instr.sureAddr,h]
 unfold qzW at h;split at h
 .rename_i id b o;split at h
  .rename_i ag ah cells E;obtain⟨rfl,h⟩:=h;cases agg with
   |true=>
    simp only at h;split at h
    .rename_i r H;obtain⟨T,L⟩:=qvH H;refine⟨_,h,λfr w u=>go ?_⟩;have U:=u.EA E;refine(qnB B ha (w:=w)).2 (qDA r) rfl (by rw[qrA,<-L];simp;omega) λi A q=>?_;rw[qlA,qCB U.1];rw[<-L,qXG,qYG,zA7]at q;split at q
     .simpa using q
     .cases q
    .exact h.elim
   |false=>
    simp only at h;split at h
    .rename_i s H;rw[qJM]at h;rw[qJI]at H;refine⟨_,h,λfr w u=>go ?_⟩;have U:=u.EA E;rw[qqD];exact(qnB B ha (w:=w)).1 _ rfl (by rw[qCB U.1];simp[DJ,H])
    .exact h.elim
  .exact h.elim
 .rename_i id Y n cap j;split at h
  .rename_i ai aj ac ak sz cs E;obtain⟨⟨rfl,rfl,rfl⟩,h⟩:=h
   have V:∀fr w,Aq fr hs w->∀i A,cs[i]?=O A->∃g,Y=O ⟨g,0,zc⟩/\w.cell? ⟨g,i,zc⟩=O A:=λfr w u i A q=>by
    obtain⟨⟨T,L⟩,_⟩:=u.Fw E;rcases L with⟨_,rfl⟩|⟨g,ac,al,aa,_,ad,_,_,_,ae⟩
    .simp at T;subst T;simp at q
    .simp only[zAp]at aa;obtain⟨rfl,_,rfl⟩:=aa;refine⟨g,rfl,?_⟩;rw[qCB ad,<-zCj];rw[<-ae,zA7]at q;split at q
     .exact q
     .cases q
   cases agg with
   |true=>
    simp only at h;split at h
    case h_2=>exact h.elim
    rename_i R;have R:0<size:=zBG R;obtain⟨C,⟨M,Q⟩,h⟩:=h;refine⟨_,h,λfr w u=>?_⟩
    have af:∃g,Y=O ⟨g,0,zc⟩\/C=[]:=by
     cases C with
     |nil=>exact⟨0,.inr rfl⟩
     |cons y an=>obtain⟨g,D,_⟩:=V fr w u (j+0) y (Q 0 y rfl);exact⟨g,.inl D⟩
    obtain⟨g,D|D⟩:=af
    .subst D;simp only[Ae,zBx];refine go ((qnB B ha (w:=w)).2 C rfl M λi A q=>?_);obtain⟨ao,ab,W⟩:=V fr w u _ _ (Q i A q);simp only[zAk,Addr.mk.injEq,zA6]at ab;subst ab;rw[qlA,qlA,zAu];exact W
    .subst D;simp at M;omega
   |false=>
    obtain⟨A,q,h⟩:=h;refine⟨_,h,λfr w u=>?_⟩;obtain⟨g,rfl,W⟩:=V fr w u _ _ q;simp only[Ae,zBx];exact go ((qnB B ha (w:=w)).1 _ rfl (by rw[qlA,zAu];exact W))
  .exact h.elim
 .rename_i a;cases agg with
  |true=>
   obtain⟨C,⟨M,Q⟩,h⟩:=h;exact⟨_,h,λfr w u=>go ((qnB B ha (w:=w)).2 C rfl M λi A q=>(Q i A q).at u.AJ)⟩
  |false=>
   obtain⟨A,q,h⟩:=h;exact⟨_,h,λfr w u=>go ((qnB B ha (w:=w)).1 _ rfl (q.at u.AJ))⟩
 .exact h.elim
def Opd.Gn{rs:F Res}{sl:Sl}{a:zDN}{o:zs Operand}{k:zs SV->Prop}(h:Opd.ko rs sl (o.map qIA) k)(hs:q1C sl a):∃s,k s/\o.map a.eval=s.map Ae:=by
 cases o with
 |none=>exact⟨zc,h,rfl⟩
 |some x=>obtain⟨s,q,u⟩:=Opd.AB (k:=λs=>k (O s)) h hs;exact⟨O s,q,by simp[u]⟩
def q6V{size}{x}{lo C D}{K}(h:Jm size x lo C D K){P}{t e}(B:P.underlying t=O (.slice e))(E:qQB P e=O size):∃s,K s/\∀w,(Instr.sliceAt t (Ae x) (lo.map Ae) (C.map Ae) (D.map Ae)).run P w=.ok (Ae s) w:=by
 have H:∀(y:zg)(lo C D:zs zg)w,(Instr.sliceAt t y lo C D).run P w=(Instr.slice t y lo C D).run P w:=λy lo C D w=>by
  simp[Instr.sliceAt,zN B]
 have R:∀(L:zs zAH),Option.map (λx:zAH=>x.add 0) L=L:=λL=>by cases L<;>simp[Addr.add]
 unfold Jm at h;split at h
 .rename_i L n cap;split at h
  .exact⟨_,h,λw=>by rw[H];simp[Ae,Instr.slice,zN B,Instr.sliceBounds,qwA E,R]⟩
  .rename_i U l;obtain⟨⟨q,u⟩,h⟩:=h;exact⟨_,h,λw=>by rw[H];simp[Ae,Instr.slice,zN B,Instr.sliceBounds,Instr.sliceBound,asIntOf,qwA E,q,u]⟩
  .rename_i T M;obtain⟨⟨q,u⟩,h⟩:=h;exact⟨_,h,λw=>by rw[H];simp[Ae,Instr.slice,zN B,Instr.sliceBounds,Instr.sliceBound,asIntOf,qwA E,R,q,u]⟩
  .rename_i U l T M;obtain⟨⟨q,u,Q⟩,h⟩:=h;have A:(0:zn)<=M:=sa
   exact⟨_,h,λw=>by rw[H];simp[Ae,Instr.slice,zN B,Instr.sliceBounds,Instr.sliceBound,asIntOf,qwA E,q,u,Q,A,zAK A]⟩
  .rename_i T M W m;obtain⟨⟨q,u,Q⟩,h⟩:=h;have A:(0:zn)<=m:=sa
   exact⟨_,h,λw=>by rw[H];simp[Ae,Instr.slice,zN B,Instr.sliceBounds,Instr.sliceBound,asIntOf,qwA E,R,q,u,Q,A,zAK A]⟩
  .rename_i U l T M W m;obtain⟨⟨q,u,Q,Y⟩,h⟩:=h;have A:(0:zn)<=m:=sa
   have V:(0:zn)<=M:=sa
   have aa:(m.toNat=l.toNat)<->m=l:=sa
   exact⟨_,h,λw=>by rw[H];simp[Ae,Instr.slice,zN B,Instr.sliceBounds,Instr.sliceBound,asIntOf,qwA E,q,u,Q,Y,A,V,aa,zAK A,zAK V]⟩
  .exact h.elim
 .exact h.elim
def qGT{x}{lo q}{K}(h:qeR x lo q K){P}{t}(u:P.underlying t=O .string):∃s,K s/\∀w,(Instr.sliceAt t (Ae x) (lo.map Ae) (q.map Ae) zc).run P w=.ok (Ae s) w:=by
 have C:∀(y:zg)(lo q D:zs zg)w,(Instr.sliceAt t y lo q D).run P w=(Instr.slice t y lo q D).run P w:=λy lo q D w=>by
  simp[Instr.sliceAt,zN u]
 unfold qeR at h;split at h
 .rename_i s;split at h
  .exact⟨_,h,λw=>by rw[C];simp[Ae,Instr.slice,zN u,Instr.sliceBounds]⟩
  .rename_i L l;obtain⟨⟨A,B⟩,h⟩:=h;exact⟨_,h,λw=>by rw[C];simp[Ae,Instr.slice,zN u,Instr.sliceBounds,Instr.sliceBound,asIntOf,A,B]⟩
  .rename_i M E;obtain⟨⟨A,B⟩,h⟩:=h;exact⟨_,h,λw=>by rw[C];simp[Ae,Instr.slice,zN u,Instr.sliceBounds,Instr.sliceBound,asIntOf,A,B]⟩
  .rename_i L l M E;obtain⟨⟨A,B,Q⟩,h⟩:=h;have H:(0:zn)<=E:=sa
   exact⟨_,h,λw=>by rw[C];simp[Ae,Instr.slice,zN u,Instr.sliceBounds,Instr.sliceBound,asIntOf,A,B,Q,H,zAK H]⟩
  .exact h.elim
 .exact h.elim
def qQN{q u:Type}(f:q->zs u):∀(l:F q){r:F u},l.mapM f=O r->l.map f=r.map O
 |[],r,h=>by simp at h;subst h;rfl
 |x::l,r,h=>by
  simp only[zC5,Option.bind_eq_bind,zAD]at h;obtain⟨y,A,C,B,w⟩:=h;simp at w;subst w;simp[A,qQN f l B]
def qZD{P}{t}{z}(h:q5H P t=O z)(w):∃v,(zAZ t).run P w=.ok v w/\v.cells.toList=z/\∀c∈z,c.oneCell'=I:=by
 unfold q5H at h;split at h
 .rename_i v q;split at h
  .rename_i u;simp at h;subst h;simp only[zAD]at q;obtain⟨i,A,B⟩:=q;refine⟨v,by simp[zAZ,typeInfo,A,B],rfl,λc C=>?_⟩;exact zDa.1 u c (by simpa using C)
  .cases h
 .cases h
def qfY{P}{w}{s d e}{oa}{n cap}{h}{g}(A:P.underlying s=O (.slice e))(B:P.underlying e=O (.int .u8))(h2:P.underlying d=O .string)(C:Dl g 1 (.slice oa n cap) n (h.map (zD .u8)))(D:Good g w):(convert s d (.slice oa n cap)).run P w=.ok (.string (Mv h)) w:=by
 rw[run_convert_bytes_string w s d e oa n cap A B h2];obtain⟨q,R,T,u,U,V,E,H⟩:=C;simp only[zAp,zBL]at u;obtain⟨rfl,rfl⟩:=u;cases oa with
 |none=>
  have:h=[]:=by
   have:=(E rfl).1;simp at q;apply zB9;omega
  subst this;rfl
 |some a=>
  refine run_bytesToString w a n cap h ?_
  have:=run_loadCells_list (P:=P) w a (h.map (zD .u8)) λj v L=>by
   obtain⟨W,M,Q⟩:=H j v L;cases M;exact Q.at D
  rwa [show(h.map (zD .u8)).length=n by simp at q;simp;omega]at this
def rdz{P:Prop}{u:SOp}{b:zM}{x:zs SOp}(q:x=O u)(w:u.reads=b)(h:x=O u->u.reads=b->zV:=by
  intro q w
  (try(split at q))<;>(try(split at q))<;>(try(split at q))<;>(try(split at q))<;>first|(cases q;done)|(simp at q;subst q;simp[SOp.reads]at w;done)|(obtain⟨ks,_,rfl⟩:=zU.1 q;simp[SOp.reads]at w;done)):P:=(h q w).elim
def q1M{P}{o}{aH}(u:Er P o=O aH)(aw:aH.reads=I){sl}{a}(Q:q1C sl a){hs}{K}(h:rdS aH sl hs K):∃s,K s/\∀fr w,(aH.pure=I\/Aq fr hs w)->(zy a.eval o).run P w=.ok (.value (Ae s)) w:=by
 unfold Er at u;split at u
 .rename_i x D;cases u;obtain⟨s,q,aq⟩:=Opd.AB h Q;exact⟨s,q,λfr w A=>by simp[zy,D,aq]⟩
 .rename_i x D;cases u;obtain⟨s,q,aq⟩:=Opd.AB h Q;exact⟨s,q,λfr w A=>by simp[zy,D,aq]⟩
 .rename_i c x y D;cases u;simp only[rdS]at h;obtain⟨bj,q,aq⟩:=Opd.AB h Q
  have T:∀{Y:Fr->zp->Prop}(b:zM),Ae bj=.bool b->(∃s,K s/\(if b then a.eval x else a.eval y)=Ae s)->∃s,K s/\∀fr w,Y fr w->(zy a.eval o).run P w=.ok (.value (Ae s)) w:=by
   rintro Y b aa ⟨s,ab,ae⟩;exact⟨s,ab,λfr w A=>by simp[zy,D,aq,aa,asBool,ae]⟩
  split at q
  .obtain⟨s,E,H⟩:=Opd.AB q Q;exact T I rfl ⟨s,E,by simpa using H⟩
  .obtain⟨s,E,H⟩:=Opd.AB q Q;exact T zb rfl ⟨s,E,by simpa using H⟩
  .rename_i b;cases aa:b with
   |true=>obtain⟨s,E,H⟩:=Opd.AB (q.1 aa) Q;exact T I (by rw[aa];rfl) ⟨s,E,by simpa using H⟩
   |false=>obtain⟨s,E,H⟩:=Opd.AB (q.2 aa) Q;exact T zb (by rw[aa];rfl) ⟨s,E,by simpa using H⟩
  .exact q.elim
 .rename_i op t x y bF D
  have two:∀{k:SV->SV->Prop},(Opd.k hs.rs sl (qIA x) λx=>Opd.k hs.rs sl (qIA y) λy=>k x y)->∃B R,k B R/\a.eval x=Ae B/\a.eval y=Ae R:=λ{k}ax=>by
   obtain⟨B,E,L⟩:=Opd.AB (k:=λx=>Opd.k hs.rs sl (qIA y) λy=>k x y) ax Q;obtain⟨R,H,M⟩:=Opd.AB (k:=λy=>k B y) E Q;exact⟨B,R,H,L,M⟩
  have T:∀{Y:Fr->zp->Prop}(s:SV),K s->(∀w,(do eqGuard op t x y (a.eval x) (a.eval y);binOp op t (a.eval x) (a.eval y):Sem zg).run P w=.ok (Ae s) w)->∃s,K s/\∀fr w,Y fr w->(zy a.eval o).run P w=.ok (.value (Ae s)) w:=
   λs ab af=>⟨s,ab,λfr w A=>by simp only[zy,D];exact qnC (af w)⟩
  have seq:∀{s:SV}{w:zp},(binOp op t (a.eval x) (a.eval y)).run P w=.ok (Ae s) w->(eqGuard op t x y (a.eval x) (a.eval y)).run P w=.ok () w->(do eqGuard op t x y (a.eval x) (a.eval y);binOp op t (a.eval x) (a.eval y):Sem zg).run P w=.ok (Ae s) w:=λE H=>by
   simp[E,H,zAo]
  have a7:∀(B R:SV)(b1 ap:zM),P.underlying t=O .bool->qZL B=O b1->qZL R=O ap->a.eval x=Ae B->a.eval y=Ae R->∀w,
    ((op=.eql->(do eqGuard op t x y (a.eval x) (a.eval y);binOp op t (a.eval x) (a.eval y):Sem zg).run P w=.ok (.bool (b1==ap)) w)/\
     (op=.neq->(do eqGuard op t x y (a.eval x) (a.eval y);binOp op t (a.eval x) (a.eval y):Sem zg).run P w=.ok (.bool (!(b1==ap))) w)):=λB R b1 ap C L M ay aQ w=>by
   rw[ay,aQ,qSK L,qSK M];refine⟨λD=>?_,λD=>?_⟩<;>subst D<;>simp[eqGuard,binOp,run_equal_bool w t b1 ap C]
  have a8:∀(kind:Z)(B:SV)(b1:zM)(d:TypeDesc),P.underlying t=O d->Kt kind d->q5O kind B=O b1->a.eval x=Ae B->a.eval y=Fl kind->∀w,
    ((op=.eql->(do eqGuard op t x y (a.eval x) (a.eval y);binOp op t (a.eval x) (a.eval y):Sem zg).run P w=.ok (.bool b1) w)/\
     (op=.neq->(do eqGuard op t x y (a.eval x) (a.eval y);binOp op t (a.eval x) (a.eval y):Sem zg).run P w=.ok (.bool (!b1)) w)):=λkind B b1 d C aI ar L M w=>by
   rw[L,M];obtain⟨E,H⟩:=q6R ar C aI w x y;exact⟨λD=>by rw[D];exact E,λD=>by rw[D];exact H⟩
  have a9:∀{Y:Fr->zp->Prop}(W:zM),P.underlying t=O .bool->op=(if W then .neq else .eql)->rdS (.Le W (qIA x) (qIA y)) sl hs K->∃s,K s/\∀fr w,Y fr w->(zy a.eval o).run P w=.ok (.value (Ae s)) w:=λW C ag h=>by
   simp only[rdS]at h;obtain⟨B,R,q,L,M⟩:=two h;unfold qgc at q;split at q
   .exact q.elim
   .rename_i b1 az;split at q
    .exact q.elim
    .rename_i ap ba;cases W
     .exact T _ q λw=>(a7 B R b1 ap C az ba L M w).1 (by simpa using ag)
     .exact T _ q λw=>(a7 B R b1 ap C az ba L M w).2 (by simpa using ag)
  have aJ:∀{Y:Fr->zp->Prop}(W:zM)(ks:F Z),BP P t=O I->eqT P t=O ks->op=(if W then .neq else .eql)->rdS (.HZ W ks (qIA x) (qIA y)) sl hs K->∃s,K s/\∀fr w,Y fr w->(zy a.eval o).run P w=.ok (.value (Ae s)) w:=λW ks bl au ag h=>by
   simp only[rdS]at h;obtain⟨B,R,q,L,M⟩:=two h;unfold eqT at au;split at au
   .rename_i bm bn;split at au
    .cases au
    .rename_i bo;simp only[zAk]at au;subst au;unfold qEY at q;split at q
     .rename_i aA aK;have q:=qJB _ (qJB _ q)
      have bb:∀{z:SV},qYN z=I->Ae z=.agg ⟨qDA (q1A z)⟩:=λ{z}ah=>by
       have bp:=qYB z;cases z with
       |agg l=>rfl
       |v bq=>cases bq<;>simp[qYN]at ah;rw[bp];rfl
       |_=>simp[qYN]at ah
      have aL:=bb aA;have aM:=bb aK;split at q
      .rename_i b aa
       have aN:∀w,(Op.equal t (Ae B) (Ae R)).run P w=.ok b w:=λw=>by
        rw[aL,aM];exact qyE 8 10000 sa t bm bn I bl _ _ b aa w
       have bc:∀w,(eqGuard op t x y (Ae B) (Ae R)).run P w=.ok () w:=λw=>by
        rw[aL,aM];cases W<;>simp at ag<;>subst ag<;>simp[eqGuard,bo]
       cases W
       .refine T _ q λw=>seq ?_ (by rw[L,M];exact bc w);simp only[zAS,zCd]at ag;subst ag;rw[L,M];have:=aN w;rw[aL,aM]at this⊢;simp[binOp,this,Ae]
       .refine T _ q λw=>seq ?_ (by rw[L,M];exact bc w);simp only[zBp]at ag;subst ag;rw[L,M];have:=aN w;rw[aL,aM]at this⊢;simp[binOp,this,Ae]
      .exact q.elim
     .exact q.elim
   .cases au
  have av:∀{Y:Fr->zp->Prop}(kind:Z)(W:zM)(d:TypeDesc),P.underlying t=O d->Kt kind d->a.eval y=Fl kind->op=(if W then .neq else .eql)->rdS (.I6 kind W (qIA x)) sl hs K->∃s,K s/\∀fr w,Y fr w->(zy a.eval o).run P w=.ok (.value (Ae s)) w:=λkind W d C aI aK ag h=>by
   simp only[rdS]at h;obtain⟨B,q,L⟩:=Opd.AB h Q;unfold qfc at q;split at q
   .exact q.elim
   .rename_i b1 az;cases W
    .exact T _ q λw=>(a8 kind B b1 d C aI az L aK w).1 (by simpa using ag)
    .exact T _ q λw=>(a8 kind B b1 d C aI az L aK w).2 (by simpa using ag)
  split at u
  .cases u;simp only[rdS]at h;obtain⟨B,R,q,L,M⟩:=two h;obtain⟨s,E,H⟩:=qMV q;exact T s E λw=>seq (by rw[L,M];exact(H P t w).1) (by rw[L,M];exact(H P t w).2 _ _)
  .cases u;simp only[rdS]at h;obtain⟨B,R,q,L,M⟩:=two h;obtain⟨s,E,H⟩:=qLV q;exact T s E λw=>seq (by rw[L,M];exact(H P t w).1) (by rw[L,M];exact(H P t w).2 _ _)
  .rename_i C;cases u;exact a9 zb C rfl h
  .rename_i C;cases u;exact a9 I C rfl h
  .rename_i C;split at u<;>cases u;exact av 0 zb _ C ⟨_,rfl⟩ rfl rfl h
  .rename_i C;split at u<;>cases u;exact av 0 I _ C ⟨_,rfl⟩ rfl rfl h
  .rename_i C;split at u<;>cases u;exact av 1 zb _ C ⟨_,rfl⟩ rfl rfl h
  .rename_i C;split at u<;>cases u;exact av 1 I _ C ⟨_,rfl⟩ rfl rfl h
  .rename_i C;split at u<;>cases u;exact av 2 zb _ C ⟨_,_,_,rfl⟩ rfl rfl h
  .rename_i C;split at u<;>cases u;exact av 2 I _ C ⟨_,_,_,rfl⟩ rfl rfl h
  .rename_i C;obtain⟨ks,q,rfl⟩:=zU.1 u;exact aJ zb ks (by simp[BP,C]) q rfl h
  .rename_i C;obtain⟨ks,q,rfl⟩:=zU.1 u;exact aJ I ks (by simp[BP,C]) q rfl h
  .rename_i C;obtain⟨ks,q,rfl⟩:=zU.1 u;exact aJ zb ks (by simp[BP,C]) q rfl h
  .rename_i C;obtain⟨ks,q,rfl⟩:=zU.1 u;exact aJ I ks (by simp[BP,C]) q rfl h
  .cases u
 .rename_i t x D;cases u;simp only[rdS]at h;obtain⟨B,q,e⟩:=Opd.AB h Q;unfold MZ at q;split at q
  .exact⟨_,q,λfr w A=>by simp[zy,D,e,Ae,Op.unary]⟩
  .exact⟨_,q,λfr w A=>by simp[zy,D,e,Ae,Op.unary]⟩
  .exact⟨_,q,λfr w A=>by simp[zy,D,e,Ae,Op.unary]⟩
  .exact q.elim
 .rename_i s d x D;split at u
  .rename_i bG bH E H;cases u;simp only[rdS]at h;obtain⟨B,q,e⟩:=Opd.AB h Q;unfold qTc at q;split at q
   .exact⟨_,q,λfr w A=>by simp[zy,D,e,Ae,convert,zN E,zN H,Conv.intToInt]⟩
   .exact q.elim
  .rename_i br E H;split at u
   .rename_i aB;cases u;simp only[rdS]at h;obtain⟨B,q,e⟩:=Opd.AB h Q;unfold Me at q;split at q
    .rename_i aC n cap;obtain⟨bI,af,q⟩:=q
     exact⟨_,q,λfr w A=>by
      have:=qfY (P:=P) (w:=w) E aB H af (A.resolve_left (by simp[SOp.pure])).AJ
      simp[zy,D,e,Ae,this,zAo]⟩
    .exact q.elim
   .cases u
  .cases u
 .rename_i t x i D
  have two:∀{k:SV->SV->Prop},(Opd.k hs.rs sl (qIA x) λx=>Opd.k hs.rs sl (qIA i) λy=>k x y)->∃B R,k B R/\a.eval x=Ae B/\a.eval i=Ae R:=λ{k}ax=>by
   obtain⟨B,E,L⟩:=Opd.AB (k:=λx=>Opd.k hs.rs sl (qIA i) λy=>k x y) ax Q;obtain⟨R,H,M⟩:=Opd.AB (k:=λy=>k B y) E Q;exact⟨B,R,H,L,M⟩
  split at u
  .rename_i C;cases u;simp only[rdS]at h;obtain⟨B,aR,q,L,M⟩:=two h;unfold qFc at q;split at q
   .rename_i s k n;obtain⟨c,⟨aj,al⟩,q⟩:=q;refine⟨_,q,λfr w A=>?_⟩
    have bJ:n.toNat<s.size:=by
     have:=(zd.1 al).1;simpa using this
    have af:=run_index_string w t s k n C;rw[dif_pos ⟨aj,sa⟩]at af;simp only[zy,D,L,M,Ae];refine qnC (af.trans ?_)
    have:s[n.toNat]=c:=by
     have:=(zd.1 al).2;show s.data[n.toNat]=c;simpa using this
    rw[this]
   .exact q.elim
  .rename_i n e C;split at u
   .rename_i size agg U aD;cases u;simp only[rdS]at h;obtain⟨B,aR,q,L,M⟩:=two h;unfold qGc at q;split at q
    .rename_i k m;obtain⟨j,⟨rfl,aT⟩,q⟩:=q;obtain⟨s,ab,aE⟩:=qAN q U aD;refine⟨s,ab,λfr w A=>?_⟩;obtain⟨cs,al,aU⟩:=aE w;simp only[zy,D,L,M,al];refine qnC ?_;simp[Instr.index,Ae,asIntOf,zN C,qwA U,aT,aU]
    .exact q.elim
   .cases u
  .cases u
 .rename_i t x f D;split at u
  .rename_i aO C;split at u
   .rename_i bd aV;split at u
    .rename_i n U;cases u;simp only[rdS]at h;obtain⟨B,q,e⟩:=Opd.AB h Q
     have go:∀(b:zAH)w,Ae B=.pointer (O b)->(zy a.eval o).run P w=.ok (.value (.pointer (O (b.add bd.offset)))) w:=λb w aa=>by
      simp only[zy,D,e,aa];refine qnC ?_;simp[Instr.fieldAt,zN C,aV,Instr.sureAddr,fieldPlace,qwA U]
     unfold qNc at q;split at q
     .refine⟨_,q,λfr w A=>?_⟩;rw[go _ w rfl,qlA];rfl
     .rename_i id aC n cap j;refine⟨_,q,λfr w A=>?_⟩;rw[go (aC.add j) w rfl,qIH];rfl
     .exact⟨_,q,λfr w A=>go _ w rfl⟩
     .exact q.elim
    .cases u
   .cases u
  .cases u
 .rename_i t x f D;split at u
  .rename_i aO C;split at u
   .rename_i bd aV;split at u
    .rename_i size agg U aD;cases u;simp only[rdS]at h;obtain⟨B,q,e⟩:=Opd.AB h Q;obtain⟨s,ab,aE⟩:=qAN q U aD;refine⟨s,ab,λfr w A=>?_⟩;obtain⟨cs,al,aU⟩:=aE w;simp only[zy,D,e,al];refine qnC ?_;simp[Instr.field,zN C,aV,asAgg,aU]
    .cases u
   .cases u
  .cases u
 .rename_i t x i D
  have two:∀{k:SV->SV->Prop},(Opd.k hs.rs sl (qIA x) λx=>Opd.k hs.rs sl (qIA i) λy=>k x y)->∃B R,k B R/\a.eval x=Ae B/\a.eval i=Ae R:=λ{k}ax=>by
   obtain⟨B,E,L⟩:=Opd.AB (k:=λx=>Opd.k hs.rs sl (qIA i) λy=>k x y) ax Q;obtain⟨R,H,M⟩:=Opd.AB (k:=λy=>k B y) E Q;exact⟨B,R,H,L,M⟩
  split at u
  .rename_i e C;split at u
   .rename_i size U;cases u;simp only[rdS]at h;obtain⟨B,aR,q,L,M⟩:=two h;unfold qHc at q;split at q
    .rename_i k m
     have go:∀(b:zAH)(n cap:Z)w,Ae B=.slice (O b) n cap->0<=m->m<n->(zy a.eval o).run P w=.ok (.value (.pointer (O (b.add (m.toNat*size))))) w:=λb n cap w aA aj E=>by
      simp only[zy,D,L,M,aA];refine qnC ?_;simp[Instr.indexAt,Ae,asIntOf,zN C,qwA U,aj,E]
     split at q
     .rename_i aC n cap;obtain⟨b,rfl,⟨aj,E⟩,q⟩:=q;exact⟨_,q,λfr w A=>go _ _ _ w rfl aj E⟩
     .rename_i id b be n cap;obtain⟨j,⟨rfl,aT⟩,q⟩:=q;refine⟨_,q,λfr w A=>?_⟩;rw[go _ _ _ w rfl sa sa,qlA];simp[Ae]
     .rename_i id aC n cap;split at q
      .rename_i bK bL bt bM bN cs an;obtain⟨⟨rfl,rfl,rfl,rfl⟩,⟨aj,E⟩,q⟩:=q;refine⟨_,q,λfr w A=>?_⟩;cases aC with
       |none=>
        exfalso;obtain⟨⟨bf,aW⟩,_⟩:=(A.resolve_left (by simp[SOp.pure])).Fw an;rcases aW with⟨_,rfl⟩|⟨g,bt,bO,aq,_⟩
        .omega
        .simp at aq
       |some b=>exact go b n cap w rfl aj E
      .exact q.elim
     .exact q.elim
    .exact q.elim
   .cases u
  .rename_i n e C;split at u
   .rename_i size U;cases u;simp only[rdS]at h;obtain⟨B,aR,q,L,M⟩:=two h;unfold qwX at q;split at q
    .rename_i k m
     have go:∀(b:zAH)w,Ae B=.pointer (O b)->0<=m->m<n->(zy a.eval o).run P w=.ok (.value (.pointer (O (b.add (m.toNat*size))))) w:=λb w aA aj E=>by
      simp only[zy,D,L,M,aA];refine qnC ?_;simp[Instr.indexAt,Ae,asIntOf,zN C,qwA U,aj,E,Instr.sureAddr]
     split at q
     .obtain⟨j,⟨rfl,aT⟩,q⟩:=q;refine⟨_,q,λfr w A=>?_⟩;rw[go _ w rfl sa sa,qlA];simp[Ae]
     .obtain⟨⟨aj,E⟩,q⟩:=q;exact⟨_,q,λfr w A=>go _ w rfl aj E⟩
     .exact q.elim
    .exact q.elim
   .cases u
  .cases u
 .rename_i t x D;split at u
  .rename_i size agg U aD;split at u
   .rename_i bu;cases u;simp only[rdS]at h;obtain⟨B,q,e⟩:=Opd.AB h Q;obtain⟨s,ab,aE⟩:=qHL q U aD bu;exact⟨s,ab,λfr w A=>by simp only[zy,D,e];exact qnC (aE fr w (A.resolve_left (by simp[SOp.pure])))⟩
   .cases u
  .cases u
 .rename_i x D;cases u;simp only[rdS]at h;obtain⟨B,q,e⟩:=Opd.AB h Q;unfold M1 at q;split at q
  .exact⟨_,q,λfr w A=>by simp[zy,D,e,Ae]⟩
  .exact⟨_,q,λfr w A=>by simp[zy,D,e,Ae]⟩
  .exact⟨_,q,λfr w A=>by simp[zy,D,e,Ae]⟩
  .exact⟨_,q,λfr w A=>by simp[zy,D,e,Ae]⟩
  .exact⟨_,q,λfr w A=>by simp[zy,D,e,Ae]⟩
  .exact⟨_,q,λfr w A=>by simp[zy,D,e,Ae]⟩
  .exact q.elim
 .rename_i x i D;cases u;simp only[rdS]at h;obtain⟨B,q,e⟩:=Opd.AB h Q;unfold Ni at q;split at q
  .split at q
   .rename_i l s ar;rw[qJI]at ar;exact⟨_,q,λfr w A=>by simp only[zy,D,e];exact qnC (by simp[Ae,Instr.extract,DJ,ar])⟩
   .exact q.elim
  .split at q
   .rename_i l s ar;rw[qJI]at ar;exact⟨_,q,λfr w A=>by simp only[zy,D,e];exact qnC (by simp[Ae,Instr.extract,ar])⟩
   .exact q.elim
  .exact q.elim
 .rename_i f first aX D
  cases u;simp only[rdS]at h;obtain⟨aO,E,L⟩:=Opd.EN Q first.toList (k:=λbv=>Opd.ks hs.rs sl (aX.toList.map qIA) λc=>K (.fn f bv c)) h
  obtain⟨cs,H,M⟩:=Opd.EN Q aX.toList E;refine⟨_,H,λfr w A=>?_⟩;simp only[zy,D];refine qnC ?_;have bf:first.map a.eval=(qDA aO).toArray:=by apply zBq;simp[L]
  have aW:aX.map a.eval=(qDA cs).toArray:=by apply zBq;simp[M]
  simp[Instr.makeFunc,Ae,bf,aW]
 .rename_i t x ak V ai D;split at u
  .rename_i C;split at u
   .cases u;simp only[rdS]at h;obtain⟨B,E,L⟩:=Opd.AB (k:=λx=>Opd.ko hs.rs sl (ak.map qIA) λak=>Opd.ko hs.rs sl (V.map qIA) λV=>qeR x ak V K) h Q;obtain⟨aP,H,M⟩:=Opd.Gn (k:=λak=>Opd.ko hs.rs sl (V.map qIA) λV=>qeR B ak V K) E Q;obtain⟨bg,aB,ay⟩:=Opd.Gn (k:=λV=>qeR B aP V K) H Q;obtain⟨s,ab,af⟩:=qGT aB C;exact⟨s,ab,λfr w A=>by simp only[zy,D,L,M,ay];exact qnC (af w)⟩
   .cases u
  .rename_i e C
   have T:∀{Y:Fr->zp->Prop}size,qQB P e=O size->rdS (.slc size (qIA x) (ak.map qIA) (V.map qIA) (ai.map qIA)) sl hs K->∃s,K s/\∀fr w,Y fr w->(zy a.eval o).run P w=.ok (.value (Ae s)) w:=λsize U h=>by
    simp only[rdS]at h;obtain⟨B,E,L⟩:=Opd.AB (k:=λx=>Opd.ko hs.rs sl (ak.map qIA) λak=>Opd.ko hs.rs sl (V.map qIA) λV=>Opd.ko hs.rs sl (ai.map qIA) λai=>Jm size x ak V ai K) h Q;obtain⟨aP,H,M⟩:=Opd.Gn (k:=λak=>Opd.ko hs.rs sl (V.map qIA) λV=>Opd.ko hs.rs sl (ai.map qIA) λai=>Jm size B ak V ai K) E Q;obtain⟨bg,aB,ay⟩:=Opd.Gn (k:=λV=>Opd.ko hs.rs sl (ai.map qIA) λai=>Jm size B aP V ai K) H Q;obtain⟨bP,bw,aQ⟩:=Opd.Gn (k:=λai=>Jm size B aP bg ai K) aB Q;obtain⟨s,ab,af⟩:=q6V bw C U;exact⟨s,ab,λfr w A=>by simp only[zy,D,L,M,ay,aQ];exact qnC (af w)⟩
   split at u
   .cases u
   .rename_i size U _;cases u;exact T size U h
   .cases u
  .cases u
 .rename_i t parts D
  have T:∀{Y:Fr->zp->Prop}(aF:F (Z×Z×Opd))(z:F zg)(place:Z->zs (Z×Z)),q5H P t=O z->
    (parts.toList.map λ(i,x)=>(place i).map λ(o,s)=>(o,s,qIA x))=aF.map O->rdS (.build (z.map SV.v) aF) sl hs K->
    (∀w aG,Instr.fill place z.toArray (parts.toList.map λ(i,x)=>(i,a.eval x))=O aG->(Instr.build t (parts.map λ(i,x)=>(i,a.eval x))).run P w=.ok (.agg aG) w)->
    ∃s,K s/\∀fr w,Y fr w->(zy a.eval o).run P w=.ok (.value (Ae s)) w:=λaF z place ah aY h aN=>by
   simp only[rdS]at h;obtain⟨aG,q,an⟩:=qVG Q place parts.toList aF (z.map SV.v) aY h;refine⟨_,q,λfr w A=>?_⟩;simp only[zy,D];refine qnC (aN w _ ?_);rw[<-an];congr 2;simp[qiA,zB8,Ae]
  split at u
  .rename_i z aO ah C;split at u
   .rename_i bx bz;split at u
    .rename_i aF aY;cases u;refine T _ z (λi=>bx[i]?) ah (qQN _ _ aY) h λw aG an=>?_;obtain⟨v,ae,rfl,_⟩:=qZD ah w;simp[Instr.build,ae,zN C,zCr,run_places w _ _ bz]at*;simp[an]
    .cases u
   .cases u
  .rename_i z n e ah C;split at u
   .rename_i size U;cases u;refine T _ z (λi=>O (i*size,size)) ah sd h λw aG an=>?_;obtain⟨v,ae,rfl,_⟩:=qZD ah w;simp[Instr.build,ae,zN C,qwA U,an]
   .cases u
  .cases u
 iterate 10 exact rdz u aw
 .rename_i t x k ok D;split at u
  .rename_i aZ bQ bA;obtain⟨bR,C,bh⟩:=qjH bA;split at u
   .rename_i z ah;cases u;simp only[rdS]at h;obtain⟨B,E,L⟩:=Opd.AB (k:=λx=>Opd.k hs.rs sl (qIA k) λy=>qxW hs aZ z ok x y K) h Q;obtain⟨R,H,M⟩:=Opd.AB (k:=λy=>qxW hs aZ z ok B y K) E Q;unfold qxW at H;split at H
    .rename_i id r;split at H
     .rename_i n a0;obtain⟨a1,a2⟩:=qHJ a0;split at H
      .rename_i bT bi es an;obtain⟨⟨rfl,_,bB⟩,be,a3,ac⟩:=H;obtain rfl:=q0J bB
       have ao:∀v,qUN ok z (Bs n es)=v->∀fr w,((SOp.look bi z ok (qIA x) (qIA k)).pure=I\/Aq fr hs w)->(zy a.eval o).run P w=.ok (.value v) w:=λv ae fr w A=>by
        have A:Aq fr hs w:=A.resolve_left (by simp[SOp.pure]);obtain⟨bU,bW,e⟩:=q0F an;obtain⟨aa,bC⟩:=A.res (.mp id r bi es) (by rw[e];simp);have:=qmG (P:=P) C bh aa bC a2 ah ok;rw[ae]at this;simp only[zy,D,L,M,a1];simp only[Ae];exact qnC this
       subst a3;cases ad:Bs n es with
       |some v=>
        rw[ad]at ac;cases ok with
        |true=>exact⟨_,ac,λfr w A=>ao _ sA fr w A⟩
        |false=>exact⟨_,ac,λfr w A=>ao _ sA fr w A⟩
       |none=>
        rw[ad]at ac;cases ok with
        |true=>exact⟨_,ac,λfr w A=>ao _ sA fr w A⟩
        |false=>exact⟨_,ac,λfr w A=>ao _ sA fr w A⟩
      .exact H.elim
     .exact H.elim
    .rename_i r;split at H
     .rename_i n a0;obtain⟨a1,a2⟩:=qHJ a0;obtain⟨es,⟨_,a4⟩,be,a3,ac⟩:=H
      have ao:∀v,qUN ok z (Bs n es)=v->∀fr w,((SOp.look aZ z ok (qIA x) (qIA k)).pure=I\/Aq fr hs w)->(zy a.eval o).run P w=.ok (.value v) w:=λv ae fr w A=>by
       have A:Aq fr hs w:=A.resolve_left (by simp[SOp.pure]);have aa:=(A.AJ.2 r a4.1).trans a4.2.1;have:=qmG (P:=P) C bh aa a4.2.2 a2 ah ok;rw[ae]at this;simp only[zy,D,L,M,a1];simp only[Ae];exact qnC this
      subst a3;cases ad:Bs n es with
      |some v=>
       rw[ad]at ac;cases ok with
       |true=>exact⟨_,ac,λfr w A=>ao _ sA fr w A⟩
       |false=>exact⟨_,ac,λfr w A=>ao _ sA fr w A⟩
      |none=>
       rw[ad]at ac;cases ok with
       |true=>exact⟨_,ac,λfr w A=>ao _ sA fr w A⟩
       |false=>exact⟨_,ac,λfr w A=>ao _ sA fr w A⟩
     .exact H.elim
    .exact H.elim
   .cases u
  .cases u
 .rename_i c D;split at u
  .rename_i al;split at u
   .rename_i x t a5 bD
    have bE:∀v w,a.eval x=v->(Builtin.len_ c.argTypes o.type #[v]).run P w=(Builtin.len_ #[t] o.type #[v]).run P w:=λv w _=>by
     have:c.argTypes=#[t]:=by apply zBq;simpa using bD
     rw[this]
    have a6:c.args=#[x]:=by apply zBq;simpa using a5
    have go:∀v n w,a.eval x=v->(Builtin.len_ #[t] o.type #[v]).run P w=.ok (.int .i64 n) w->(zy a.eval o).run P w=.ok (.value (.int .i64 n)) w:=λv n w ae af=>by
     simp only[zy,D,resolve,al,a6];simp[invoke,builtin,ae,bE v w ae,af,zAo]
    split at u
    .rename_i C;cases u;simp only[rdS]at h;obtain⟨B,q,e⟩:=Opd.AB h Q;simp only[LG]at q;split at q
     .exact⟨_,q,λfr w A=>go _ _ w e (by simp[Ae,Builtin.len_,zN C,goInt])⟩
     .exact q.elim
    .rename_i br C;cases u;simp only[rdS]at h;obtain⟨B,q,e⟩:=Opd.AB h Q;simp only[LG]at q;split at q
     .exact⟨_,q,λfr w A=>go _ _ w e (by simp[Ae,Builtin.len_,zN C,goInt])⟩
     .exact⟨_,q,λfr w A=>go _ _ w e (by simp[Ae,Builtin.len_,zN C,goInt])⟩
     .exact⟨_,q,λfr w A=>go _ _ w e (by simp[Ae,Builtin.len_,zN C,goInt])⟩
     .exact q.elim
    .cases u
   .cases u
  .rename_i al;split at u
   .rename_i x y a5;cases u;have a6:c.args=#[x,y]:=by apply zBq;simpa using a5
    simp only[rdS]at h;obtain⟨B,E,L⟩:=Opd.AB (k:=λx=>Opd.k hs.rs sl (qIA y) λy=>qsW x y _) h Q;obtain⟨R,q,M⟩:=Opd.AB (k:=λy=>qsW B y _) E Q;unfold qsW at q;split at q
    .exact⟨_,q,λfr w A=>by
      simp only[zy,D,resolve,al,a6]
      simp[invoke,builtin,L,M,Ae,Builtin.min_,Builtin.min2]⟩
    .exact q.elim
   .cases u
  .exact rdz u aw
  .exact rdz u aw
  .exact rdz u aw
  .exact rdz u aw
  .cases u
 .cases u
def q9I{P}{o}{q}(u:Er P o=O q)(A:q.reads=I){sl}{a}(B:q1C sl a){hs}{K}(h:rdS q sl hs K):∃s,K s/\∀fr w,Aq fr hs w->(zy a.eval o).run P w=.ok (.value (Ae s)) w:=
 let⟨s,C,D⟩:=q1M u A B h
 ⟨s,C,λfr w E=>D fr w (.inr E)⟩
abbrev qMB:=Z->F SV->Hs->(SV->Hs->Prop)->Prop
abbrev qOA:=qMB->zBa->F SV->Hs->(SV->Hs->Prop)->Prop
def qfF(r:Loop)(args:zR zg):zR zg:=(r.params.zip args).foldl (λtmps(t,a)=>tmps.setIfInBounds t a) r.tmps
def qGS{id}{rs}{l}{r}{j}(h:qsH id rs=O (l,r,j)):∃q u,rs=q++.lp id l r j::u:=by
 induction rs with
 |nil=>simp[qsH]at h
 |cons x rs A=>
  have go:qsH id rs=O (l,r,j)->∃q u,x::rs=q++.lp id l r j::u:=λB=>by
   obtain⟨q,u,e⟩:=A B;exact⟨x::q,u,by simp[e]⟩
  cases x with
  |lp k C D E=>
   simp only[qsH]at h;cases w:zAP k id with
   |true=>rw[w]at h;simp at h;obtain⟨rfl,rfl,rfl⟩:=h;obtain rfl:=zP w;exact⟨[],rs,rfl⟩
   |false=>rw[w]at h;exact go h
  |blk _ _ _ _=>exact go h
  |row _ _ _ _ _ _ _=>exact go h
  |mk _=>exact go h
  |mp _ _ _ _=>exact go h
def Ga{P:zt}(E:Env P)(w:Fr)(Y:qMB):Prop:=∀h,w.le h->∀id args hs K,Y id args hs K->∀l r j q,qsH id hs.rs=O (l,r,j)->Aq h hs q->
 args.length=r.params.size/\Ec E l r.fn (qfF r (qDA args).toArray) r.assign r.body q λe A=>∃v u,e=.returned (Ae v)/\Aq h u A/\K v u
def Ga.up{P:zt}{E:Env P}{a b:Fr}{Y:qMB}(h:Ga E a Y)(k:a.le b):Ga E b Y:=λq u=>h q (Fr.trans k u)
def CA{P:zt}(E:Env P)(fr:Fr)(H:qOA):Prop:=∀h,Ga E fr h->∀f args hs K,H h f args hs K->∀q,Aq fr hs q->
 BH E f (qDA args).toArray q λe w=>∃v u,e=.returned (Ae v)/\Aq fr u w/\K v u
def GB(P:zt)(f:zBa):Prop:=∃fn,P.funcs[f]? =O fn/\fn.body.isSome=I/\(fn.name== "runtime.NumGoroutine")=zb
def oc1(x:SV)(k:Prop):Prop:=match x with
 |.v y=>match y with
  |.agg _=>zV
  |.tuple _=>zV
  |_=>k
 |.agg _=>zV
 |.tup _=>zV
 |_=>k
def qoW{x}{k:Prop}(h:oc1 x k):k/\(Ae x).oneCell'=I:=by
 unfold oc1 at h;split at h
 .split at h<;>first|exact h.elim|(refine⟨h,?_⟩;simp only[Ae];rename_i y _ _;cases y<;>simp_all [zA0])
 .exact h.elim
 .exact h.elim
 .refine⟨h,?_⟩;cases x<;>simp_all [Ae,zA0]
def ocS:F SV->Prop->Prop
 |[],k=>k
 |x::r,k=>oc1 x (ocS r k)
def q6D:∀{l:F SV}{k:Prop},ocS l k->k/\∀c∈l,(Ae c).oneCell'=I
 |[],k,q=>⟨q,λc h=>by cases h⟩
 |x::r,k,q=>by
  obtain⟨u,w⟩:=qoW q;obtain⟨A,B⟩:=q6D u;exact⟨A,λc h=>by rcases zJ.1 h with rfl|h;exact w;exact B c h⟩
def JU(id:Z)(h:F SV):F Res->(F Res->Prop)->Prop
 |[],_=>zV
 |.blk j b u cells::r,k=>match zAP j id with
  |true=>k (.blk j b u h::r)
  |false=>JU id h r λq=>k (.blk j b u cells::q)
 |x::r,k=>JU id h r λq=>k (x::q)
def qOE{id}{M}:∀{rs:F Res}{k:F Res->Prop}{b:Z}{ty:zAy}{cells:F SV},JU id M rs k->qBB id rs=O (b,ty,cells)->∃u w,rs=u++.blk id b ty cells::w/\k (u++.blk id b ty M::w)
 |[],k,b,ty,cells,h,q=>h.elim
 |.blk j P Q R::r,k,b,ty,cells,h,q=>by
  simp only[JU]at h;simp only[qBB]at q;cases L:zAP j id with
  |true=>
   rw[L]at h q;simp at q;obtain⟨rfl,rfl,rfl⟩:=q;obtain rfl:=zP L;exact⟨[],r,rfl,h⟩
  |false=>
   rw[L]at h q;obtain⟨u,w,e,A⟩:=qOE h q;exact⟨.blk j P Q R::u,w,by simp[e],A⟩
 |.row B D E H T U V::r,k,b,ty,cells,h,q=>by
  obtain⟨u,w,e,A⟩:=qOE (k:=λC=>k (.row B D E H T U V::C)) h q;exact⟨_::u,w,by rw[e];rfl,A⟩
 |.lp B D E H::r,k,b,ty,cells,h,q=>by
  obtain⟨u,w,e,A⟩:=qOE (k:=λC=>k (.lp B D E H::C)) h q;exact⟨_::u,w,by rw[e];rfl,A⟩
 |.mk B::r,k,b,ty,cells,h,q=>by
  obtain⟨u,w,e,A⟩:=qOE (k:=λC=>k (.mk B::C)) h q;exact⟨_::u,w,by rw[e];rfl,A⟩
 |.mp B D E H::r,k,b,ty,cells,h,q=>by
  obtain⟨u,w,e,A⟩:=qOE (k:=λC=>k (.mp B D E H::C)) h q;exact⟨_::u,w,by rw[e];rfl,A⟩
def FG(id:Z)(new:zs Res):F Res->(F Res->Prop)->Prop
 |[],_=>zV
 |.row j q n cap u size cs::r,k=>match zAP j id with
  |true=>match new with
   |some x=>k (x::r)
   |none=>k r
  |false=>FG id new r λh=>k (.row j q n cap u size cs::h)
 |x::r,k=>FG id new r λh=>k (x::h)
def qcC{id}{new}:∀{rs:F Res}{k:F Res->Prop}{oa:zs zAH}{n cap:Z}{ety:zAy}{size:Z}{cs:F zg},FG id new rs k->qPB id rs=O (oa,n,cap,ety,size,cs)->∃u w,rs=u++.row id oa n cap ety size cs::w/\k (u++(new.toList++w))
 |[],k,oa,n,cap,ety,size,cs,h,q=>h.elim
 |.row j D E H M P Q::r,k,oa,n,cap,ety,size,cs,h,q=>by
  simp only[FG]at h;simp only[qPB]at q;cases L:zAP j id with
  |true=>
   rw[L]at h q;simp at q;obtain⟨rfl,rfl,rfl,rfl,rfl,rfl⟩:=q;obtain rfl:=zP L;refine⟨[],r,rfl,?_⟩;cases new<;>exact h
  |false=>
   rw[L]at h q;obtain⟨u,w,e,A⟩:=qcC h q;exact⟨_::u,w,by rw[e];rfl,A⟩
 |.blk B D E H::r,k,oa,n,cap,ety,size,cs,h,q=>by
  obtain⟨u,w,e,A⟩:=qcC (k:=λC=>k (.blk B D E H::C)) h q;exact⟨_::u,w,by rw[e];rfl,A⟩
 |.lp B D E H::r,k,oa,n,cap,ety,size,cs,h,q=>by
  obtain⟨u,w,e,A⟩:=qcC (k:=λC=>k (.lp B D E H::C)) h q;exact⟨_::u,w,by rw[e];rfl,A⟩
 |.mk B::r,k,oa,n,cap,ety,size,cs,h,q=>by
  obtain⟨u,w,e,A⟩:=qcC (k:=λC=>k (.mk B::C)) h q;exact⟨_::u,w,by rw[e];rfl,A⟩
 |.mp B D E H::r,k,oa,n,cap,ety,size,cs,h,q=>by
  obtain⟨u,w,e,A⟩:=qcC (k:=λC=>k (.mp B D E H::C)) h q;exact⟨_::u,w,by rw[e];rfl,A⟩
def qrW:F SV->(F SV->Prop)->Prop
 |[],k=>k []
 |x::r,k=>qrW r λh=>k (x::h)
def qDL:∀(l:F SV){k:F SV->Prop},qrW l k->k l
 |[],_,h=>h
 |x::r,k,h=>qDL r (k:=λq=>k (x::q)) h
def AX.rd{g}{lo}{ety}{size}{v}{n}{cs}(h:AX g lo ety size v n cs):Dl g size v n cs:=by
 obtain⟨u,w,_⟩:=h;refine⟨u,?_⟩;rcases w with⟨rfl,rfl⟩|⟨b,cap,rest,rfl,A,B,C,D,H⟩
 .exact⟨zc,0,rfl,zG _,zF _,λ_=>⟨rfl,rfl⟩,λi E q=>by simp at u;subst u;simp at q⟩
 .refine⟨O ⟨b,0,zc⟩,cap,rfl,C,D,(λh=>by cases h),λi E q=>⟨_,rfl,⟨?_,?_⟩⟩⟩
  .rw[qlA];exact A.2
  .rw[qlA,zAu,qCB B];have:=(zd.1 q).1;simp[zAc this,q]
def Ka(id:Z):F Res->(F Res->Prop)->Prop
 |[],_=>zV
 |.blk j b q cells::r,k=>match zAP j id with
  |true=>k r
  |false=>Ka id r λh=>k (.blk j b q cells::h)
 |x::r,k=>Ka id r λh=>k (x::h)
def J8(id:Z):F Res->(F Res->Prop)->Prop
 |[],_=>zV
 |.mp j a q es::r,k=>match zAP j id with
  |true=>k r
  |false=>J8 id r λh=>k (.mp j a q es::h)
 |x::r,k=>J8 id r λh=>k (x::h)
def Kr(x:SV)(hs:Hs)(K:SV->Hs->Prop):Prop:=match hs with
 |⟨u,q,C,w⟩=>match norm q x with
 |.row id B n cap=>match qPB id q with
  |some (E,H,L,D,size,cs)=>(B=E/\n=H/\cap=L)/\∀h,u<=h->(∀a,B=O a->¬u.g a.block)->AX h w D size (.slice B n cap) n cs->FG id zc q λA=>K (.v (.slice B n cap)) ⟨h,A,C,w⟩
  |none=>zV
 |.sl id b o n cap=>match qBB id q with
  |some (M,D,cells)=>(b=M/\o=0/\n=cap)/\qhC cells λcs=>∃size,cs.length=n*size/\cap<=zAr/\∀h,u<=h->¬u.g b->AX h w D size (.slice (O ⟨b,o,zc⟩) n cap) n cs->Ka id q λA=>K (.v (.slice (O ⟨b,o,zc⟩) n cap)) ⟨h,A,C,w⟩
  |none=>zV
 |.mp id r=>match qJD id q with
  |some (P,Q,es)=>r=P/\∀h,u<=h->FzM h r Q es->J8 id q λA=>K (.v (.map (O r))) ⟨h,A,C,w⟩
  |none=>zV
 |x=>K x hs
def qcT(x)(hs)(K):Kr x hs K=(match norm hs.rs x with
 |.row id oa n cap=>match qPB id hs.rs with
  |some (h,q,u,ety,size,cs)=>(oa=h/\n=q/\cap=u)/\∀g',hs.g<=g'->(∀a,oa=O a->¬hs.g.g a.block)->AX g' hs.lo ety size (.slice oa n cap) n cs->FG id zc hs.rs λrs'=>K (.v (.slice oa n cap)) ⟨g',rs',hs.nx,hs.lo⟩
  |none=>zV
 |.sl id b o n cap=>match qBB id hs.rs with
  |some (w,ety,cells)=>(b=w/\o=0/\n=cap)/\qhC cells λcs=>∃size,cs.length=n*size/\cap<=zAr/\∀g',hs.g<=g'->¬hs.g.g b->AX g' hs.lo ety size (.slice (O ⟨b,o,zc⟩) n cap) n cs->Ka id hs.rs λrs'=>K (.v (.slice (O ⟨b,o,zc⟩) n cap)) ⟨g',rs',hs.nx,hs.lo⟩
  |none=>zV
 |.mp id r=>match qJD id hs.rs with
  |some (A,B,es)=>r=A/\∀g',hs.g<=g'->FzM g' r B es->J8 id hs.rs λrs'=>K (.v (.map (O r))) ⟨g',rs',hs.nx,hs.lo⟩
  |none=>zV
 |x=>K x hs):=by
 cases hs;rfl
def qgE{id}:∀{rs:F Res}{k:F Res->Prop}{r:Z}{C:KyT}{es:F (Ky×zg)},J8 id rs k->qJD id rs=O (r,C,es)->∃u w,rs=u++.mp id r C es::w/\k (u++w)
 |[],k,r,C,es,h,q=>h.elim
 |.mp j A Q R::E,k,r,C,es,h,q=>by
  simp only[J8]at h;simp only[qJD]at q;cases P:zAP j id with
  |true=>
   rw[P]at h q;simp at q;obtain⟨rfl,rfl,rfl⟩:=q;obtain rfl:=zP P;exact⟨[],E,rfl,h⟩
  |false=>
   rw[P]at h q;obtain⟨u,w,e,B⟩:=qgE h q;exact⟨.mp j A Q R::u,w,by simp[e],B⟩
 |.row D H L M T U V::E,k,r,C,es,h,q=>by
  obtain⟨u,w,e,B⟩:=qgE (k:=λA=>k (.row D H L M T U V::A)) h q;exact⟨_::u,w,by rw[e];rfl,B⟩
 |.lp D H L M::E,k,r,C,es,h,q=>by
  obtain⟨u,w,e,B⟩:=qgE (k:=λA=>k (.lp D H L M::A)) h q;exact⟨_::u,w,by rw[e];rfl,B⟩
 |.mk D::E,k,r,C,es,h,q=>by
  obtain⟨u,w,e,B⟩:=qgE (k:=λA=>k (.mk D::A)) h q;exact⟨_::u,w,by rw[e];rfl,B⟩
 |.blk D H L M::E,k,r,C,es,h,q=>by
  obtain⟨u,w,e,B⟩:=qgE (k:=λA=>k (.blk D H L M::A)) h q;exact⟨_::u,w,by rw[e];rfl,B⟩
def qhE{id}:∀{rs:F Res}{k:F Res->Prop}{b:Z}{ty:zAy}{cells:F SV},Ka id rs k->qBB id rs=O (b,ty,cells)->∃u w,rs=u++.blk id b ty cells::w/\k (u++w)
 |[],k,b,ty,cells,h,q=>h.elim
 |.blk j M P Q::r,k,b,ty,cells,h,q=>by
  simp only[Ka]at h;simp only[qBB]at q;cases L:zAP j id with
  |true=>
   rw[L]at h q;simp at q;obtain⟨rfl,rfl,rfl⟩:=q;obtain rfl:=zP L;exact⟨[],r,rfl,h⟩
  |false=>
   rw[L]at h q;obtain⟨u,w,e,A⟩:=qhE h q;exact⟨.blk j M P Q::u,w,by simp[e],A⟩
 |.row B D E H R T U::r,k,b,ty,cells,h,q=>by
  obtain⟨u,w,e,A⟩:=qhE (k:=λC=>k (.row B D E H R T U::C)) h q;exact⟨_::u,w,by rw[e];rfl,A⟩
 |.lp B D E H::r,k,b,ty,cells,h,q=>by
  obtain⟨u,w,e,A⟩:=qhE (k:=λC=>k (.lp B D E H::C)) h q;exact⟨_::u,w,by rw[e];rfl,A⟩
 |.mk B::r,k,b,ty,cells,h,q=>by
  obtain⟨u,w,e,A⟩:=qhE (k:=λC=>k (.mk B::C)) h q;exact⟨_::u,w,by rw[e];rfl,A⟩
 |.mp B D E H::r,k,b,ty,cells,h,q=>by
  obtain⟨u,w,e,A⟩:=qhE (k:=λC=>k (.mp B D E H::C)) h q;exact⟨_::u,w,by rw[e];rfl,A⟩
def qbH{x}{hs}{K}(h:Kr x hs K){fr:Fr}{w}(q:Aq fr hs w):∃s W,K s W/\Ae s=Ae x/\Aq fr W w:=by
 rw[qcT]at h;split at h
 .rename_i id B n cap C;have D:Ae x=.slice B n cap:=by rw[<-qqD hs.rs x,C];rfl
  split at h
  .rename_i aw ax aj Y size cs u;obtain⟨⟨rfl,rfl,rfl⟩,h⟩:=h;obtain⟨aa,ab,A⟩:=qAF u;obtain⟨⟨ak,al⟩,Q⟩:=q.Fw u;have ay:=q.freeze (nx:=hs.nx) A
   have E:∀a,B=O a->a.block∈hs.bks:=λa R=>by
    subst R;rw[Hs.bks,A];simp[Res.bk]
   have an:∀a,B=O a->¬hs.g.g a.block:=λa R=>(q.fre _ (E a R)).1
   have T:AX (hs.g.more w (Res.bk (.row id B n cap Y size cs))) hs.lo Y size (.slice B n cap) n cs:=by
    refine⟨ak,?_,Q⟩;rcases al with⟨P,rfl⟩|⟨g,aj,ao,P,az,ac,ap,U,aq,ad⟩
    .exact .inl ⟨P,rfl⟩
    .simp only[zAp]at P;obtain⟨rfl,_,rfl⟩:=P;refine .inr ⟨g,cap,ao.toList.drop (n*size),rfl,⟨q.low.2 _ (E _ rfl),(zAg.1 ac).1,.inr sk⟩,?_,ap,U,?_⟩
     .show w.heap[g]?=_;rw[ac,<-ad,zCF]
     .rw[<-ad,zCF];simpa using aq
   obtain⟨ae,af,H,L⟩:=qcC (h _ (GW.G0 q.AJ _) an T) u;exact⟨_,_,L,D.symm,q.freeze (nx:=hs.nx) H⟩
  .exact h.elim
 .rename_i id b o n cap C;have D:Ae x=.slice (O ⟨b,o,zc⟩) n cap:=by rw[<-qqD hs.rs x,C];rfl
  split at h
  .rename_i aA ag cells u;obtain⟨⟨rfl,rfl,rfl⟩,h⟩:=h;obtain⟨size,ah,U,h⟩:=qJB _ h;obtain⟨aa,ab,A⟩:=qtH u;obtain⟨M,Q⟩:=q.EA u;have E:b∈hs.bks:=by rw[Hs.bks,A];simp[Res.bk]
   have T:AX (hs.g.more w (Res.bk (.blk id b ag cells))) hs.lo ag size (.slice (O ⟨b,0,zc⟩) n n) n (qDA cells):=by
    refine⟨ah,.inr ⟨b,n,[],rfl,⟨q.low.2 _ E,(zAg.1 M).1,.inr sk⟩,?_,zG _,U,by simpa using ah⟩,λaB ai=>?_⟩
    .show w.heap[b]?=_;rw[M];simp
    .rw[qiA]at ai;obtain⟨c,ar,rfl⟩:=zAb.1 ai;exact Q c ar
   obtain⟨ae,af,H,L⟩:=qhE (h _ (GW.G0 q.AJ _) (q.fre _ E).1 T) u;exact⟨_,_,L,D.symm,q.freeze (nx:=hs.nx) H⟩
  .exact h.elim
 .rename_i id r C;have D:Ae x=.map (O r):=by rw[<-qqD hs.rs x,C];rfl
  split at h
  .rename_i aC V es u;obtain⟨rfl,h⟩:=h;obtain⟨aa,ab,A⟩:=q0F u;obtain⟨M,au⟩:=q.res (.mp id r V es) (by rw[A];simp);have av:FzM (hs.g.more w (Res.bk (.mp id r V es))) r V es:=⟨⟨(zAg.1 M).1,.inr sk⟩,M,au⟩;obtain⟨ae,af,H,L⟩:=qgE (h _ (GW.G0 q.AJ _) av) u;exact⟨_,_,L,D.symm,q.freeze (nx:=hs.nx) H⟩
  .exact h.elim
 .exact⟨_,_,h,qqD hs.rs x,q⟩
def qdO(f:SV->Hs->(Hs->Prop)->Prop):F SV->Hs->(Hs->Prop)->Prop
 |[],hs,K=>K hs
 |c::r,hs,K=>match c with
  |.sl a b o n m=>f (.sl a b o n m) hs λh=>qdO f r h K
  |.row a b n m=>f (.row a b n m) hs λh=>qdO f r h K
  |_=>qdO f r hs K
def JF(f:SV->Hs->(Hs->Prop)->Prop):Prop:=∀x hs K h q,f x hs K->Aq h hs q->∃u,K u/\Aq h u q
def qZE{f}(q:JF f):∀(l:F SV){hs:Hs}{K:Hs->Prop}{fr:Fr}{w:zp},qdO f l hs K->Aq fr hs w->∃C,K C/\Aq fr C w
 |[],hs,K,fr,w,h,u=>⟨hs,h,u⟩
 |c::r,hs,K,fr,w,h,u=>by
  simp only[qdO]at h;split at h
  .obtain⟨D,A,B⟩:=q _ _ _ _ _ h u;exact qZE q r A B
  .obtain⟨D,A,B⟩:=q _ _ _ _ _ h u;exact qZE q r A B
  .exact qZE q r h u
def qKW(f:SV->Hs->(Hs->Prop)->Prop)(x:SV)(hs:Hs)(K:Hs->Prop):Prop:=match x with
 |.sl id _ _ _ _=>match hs with
  |⟨q,h,u,w⟩=>match qBB id h with
   |some (_,_,cells)=>qdO f cells ⟨q,h,u,w⟩ K
   |none=>K ⟨q,h,u,w⟩
 |_=>K hs
def q7K{f}(u:JF f):JF (qKW f):=by
 intro x hs K w A h q;unfold qKW at h;split at h
 .obtain⟨B,C,D,E⟩:=hs;simp only at h;split at h
  .exact qZE u _ h q
  .exact⟨_,h,q⟩
 .exact⟨_,h,q⟩
def KY(x:SV)(hs:Hs)(K:Hs->Prop):Prop:=Kr x hs λ_ h=>K h
def qiJ:JF KY:=by
 intro x hs K B C h q;obtain⟨_,u,w,_,A⟩:=qbH h q;exact⟨u,w,A⟩
def Kq(f:SV->Hs->(Hs->Prop)->Prop)(x:SV)(hs:Hs)(K:Hs->Prop):Prop:=qKW f x hs λh=>KY x h K
def qaH{f}(h:JF f):JF (Kq f):=by
 intro x hs K B C q u;obtain⟨D,w,A⟩:=q7K h _ _ _ _ _ q u;exact qiJ _ _ _ _ _ w A
def KZ(x:SV)(hs:Hs)(K:Hs->Prop):Prop:=qKW (Kq (Kq KY)) x hs K
def qjJ:JF KZ:=q7K (qaH (qaH qiJ))
def MN(l:F SV)(hs:Hs)(K:Hs->Prop):Prop:=qdO (Kq (Kq KY)) l hs K
def qaT{l}{hs}{K}{fr:Fr}{w}(h:MN l hs K)(u:Aq fr hs w):∃q,K q/\Aq fr q w:=qZE (qaH (qaH qiJ)) l h u
def qEC(n:Z)(k:Z->Z->Prop):Prop:=match n with
 |0=>k 0 1
 |1=>k 1 2
 |2=>k 2 3
 |3=>k 3 4
 |4=>k 4 5
 |5=>k 5 6
 |6=>k 6 7
 |7=>k 7 8
 |8=>k 8 9
 |9=>k 9 10
 |10=>k 10 11
 |11=>k 11 12
 |12=>k 12 13
 |13=>k 13 14
 |14=>k 14 15
 |15=>k 15 16
 |16=>k 16 17
 |17=>k 17 18
 |18=>k 18 19
 |19=>k 19 20
 |20=>k 20 21
 |21=>k 21 22
 |22=>k 22 23
 |23=>k 23 24
 |24=>k 24 25
 |25=>k 25 26
 |26=>k 26 27
 |27=>k 27 28
 |28=>k 28 29
 |29=>k 29 30
 |30=>k 30 31
 |31=>k 31 32
 |32=>k 32 33
 |33=>k 33 34
 |34=>k 34 35
 |35=>k 35 36
 |36=>k 36 37
 |37=>k 37 38
 |38=>k 38 39
 |39=>k 39 40
 |40=>k 40 41
 |41=>k 41 42
 |42=>k 42 43
 |43=>k 43 44
 |44=>k 44 45
 |45=>k 45 46
 |46=>k 46 47
 |47=>k 47 48
 |48=>k 48 49
 |49=>k 49 50
 |50=>k 50 51
 |51=>k 51 52
 |52=>k 52 53
 |53=>k 53 54
 |54=>k 54 55
 |55=>k 55 56
 |56=>k 56 57
 |57=>k 57 58
 |58=>k 58 59
 |59=>k 59 60
 |60=>k 60 61
 |61=>k 61 62
 |62=>k 62 63
 |63=>k 63 64
 |64=>k 64 65
 |65=>k 65 66
 |66=>k 66 67
 |67=>k 67 68
 |68=>k 68 69
 |69=>k 69 70
 |70=>k 70 71
 |71=>k 71 72
 |72=>k 72 73
 |73=>k 73 74
 |74=>k 74 75
 |75=>k 75 76
 |76=>k 76 77
 |77=>k 77 78
 |78=>k 78 79
 |79=>k 79 80
 |n=>k n (n+1)
def qFB{n}{k}(h:qEC n k):∃i j,k i j:=by
 unfold qEC at h;split at h<;>exact⟨_,_,h⟩
def q6P(size:Z)(x y:SV)(hs:Hs)(K:SV->Hs->Prop):Prop:=match hs with
 |⟨h,q,A,u⟩=>match x with
 |.p id b o=>match qBB id q with
  |some (H,_,cells)=>b=H/\ocS (q1A y) (match zAP (q1A y).length size with
   |true=>match GM cells o (q1A y)with
    |some L=>JU id L q λB=>K (.v zAX) ⟨h,B,A,u⟩
    |none=>zV
   |false=>zV)
  |none=>zV
 |.re id D n cap j=>match qPB id q with
  |some (M,Q,R,T,sz,cs)=>(D=M/\n=Q/\cap=R)/\ocS (q1A y) (match zAP (q1A y).length size with
   |true=>(j+size<=cs.length/\0<size)/\qhC (q1A y) λC=>FG id (O (.row id D n cap T sz (cs.take j++C++cs.drop (j+size)))) q λB=>K (.v zAX) ⟨h,B,A,u⟩
   |false=>zV)
  |none=>zV
 |.v (.pointer (O a))=>∃(b j:Z)(cs:F zg)(ty:zAy),(a=⟨b,j,zc⟩/\u<=b/\h.g b/\h.w.heap[b]?=O (.cells ⟨cs⟩ ty (0,0))/\j+size<=cs.length)/\ocS (q1A y) (match zAP (q1A y).length size with
   |true=>qhC (q1A y) λC=>∀E,Upd h b (.cells ⟨cs.take j++C++cs.drop (j+size)⟩ ty (0,0)) E->K (.v zAX) ⟨E,q,A,u⟩
   |false=>zV)
 |_=>zV
def q7S(size)(x y)(hs)(K):q6P size  x y  hs  K=(match x with
 |.p id b o=>match qBB id hs.rs with
  |some (h,_,cells)=>b=h/\ocS (q1A y) (match zAP (q1A y).length size with
   |true=>match GM cells o (q1A y)with
    |some q=>JU id q hs.rs λrs'=>K (.v zAX) ⟨hs.g,rs',hs.nx,hs.lo⟩
    |none=>zV
   |false=>zV)
  |none=>zV
 |.re id oa n cap j=>match qPB id hs.rs with
  |some (u,A,B,ety,sz,cs)=>(oa=u/\n=A/\cap=B)/\ocS (q1A y) (match zAP (q1A y).length size with
   |true=>(j+size<=cs.length/\0<size)/\qhC (q1A y) λvs=>FG id (O (.row id oa n cap ety sz (cs.take j++vs++cs.drop (j+size)))) hs.rs λrs'=>K (.v zAX) ⟨hs.g,rs',hs.nx,hs.lo⟩
   |false=>zV)
  |none=>zV
 |.v (.pointer (O a))=>∃(b j:Z)(cs:F zg)(ty:zAy),(a=⟨b,j,zc⟩/\hs.lo<=b/\hs.g.g b/\hs.g.w.heap[b]?=O (.cells ⟨cs⟩ ty (0,0))/\j+size<=cs.length)/\ocS (q1A y) (match zAP (q1A y).length size with
   |true=>qhC (q1A y) λvs=>∀g',Upd hs.g b (.cells ⟨cs.take j++vs++cs.drop (j+size)⟩ ty (0,0)) g'->K (.v zAX) ⟨g',hs.rs,hs.nx,hs.lo⟩
   |false=>zV)
 |_=>zV):=by
 cases hs;rfl
def qbL(ty:zAy)(zero:F SV)(hs:Hs)(K:SV->Hs->Prop):Prop:=match hs with
 |⟨h,q,u,w⟩=>ocS zero (qEC u λi j=>∀b,K (.p i b 0) ⟨h,.blk i b ty zero::q,j,w⟩)
def qDO(ty)(zero)(hs)(K):qbL ty  zero  hs  K=(ocS zero (qEC hs.nx λi j=>∀b,K (.p i b 0) ⟨hs.g,.blk i b ty zero::hs.rs,j,hs.lo⟩)):=by
 cases hs;rfl
def KH(ty:zAy)(x:SV)(hs:Hs)(K:SV->Hs->Prop):Prop:=match hs with
 |⟨h,q,u,w⟩=>qrW (q1A x) λcs=>ocS cs (qEC u λi j=>∀b,K (.p i b 0) ⟨h,.blk i b ty cs::q,j,w⟩)
def qJa(ty)(x)(hs)(K):KH ty  x  hs  K=(qrW (q1A x) λcs=>ocS cs (qEC hs.nx λi j=>∀b,K (.p i b 0) ⟨hs.g,.blk i b ty cs::hs.rs,j,hs.lo⟩)):=by
 cases hs;rfl
def LY(ety:zAy)(len:Z)(cells:F SV)(hs:Hs)(K:SV->Hs->Prop):Prop:=match hs with
 |⟨h,q,u,w⟩=>ocS cells (qEC u λi j=>∀b,K (.sl i b 0 len len) ⟨h,.blk i b ety cells::q,j,w⟩)
def qHa(ety)(len)(cells)(hs)(K):LY ety  len  cells  hs  K=(ocS cells (qEC hs.nx λi j=>∀b,K (.sl i b 0 len len) ⟨hs.g,.blk i b ety cells::hs.rs,j,hs.lo⟩)):=by
 cases hs;rfl
def Ju(ety:zAy)(size bytes:Z)(zero:F zg)(l c:SV)(hs:Hs)(K:SV->Hs->Prop):Prop:=match hs with
 |⟨h,q,u,w⟩=>match l,c with
 |.v (.int .i64 l),.v (.int .i64 c)=>(0<=l/\l<=c/\bytes*c<=281474976710656/\c<=9223372036854775807)/\
  qEC u λi j=>∀b,K (.row i (O ⟨b,0,zc⟩) l.toNat c.toNat) ⟨h,.row i (O ⟨b,0,zc⟩) l.toNat c.toNat ety size ((zA5 l.toNat zero).flatten)::q,j,w⟩
 |_,_=>zV
def qWZ(ety)(size bytes)(zero)(l c)(hs)(K):Ju ety  size bytes  zero  l c  hs  K=(match l,c with
 |.v (.int .i64 l),.v (.int .i64 c)=>(0<=l/\l<=c/\bytes*c<=281474976710656/\c<=9223372036854775807)/\
  qEC hs.nx λi j=>∀b,K (.row i (O ⟨b,0,zc⟩) l.toNat c.toNat) ⟨hs.g,.row i (O ⟨b,0,zc⟩) l.toNat c.toNat ety size ((zA5 l.toNat zero).flatten)::hs.rs,j,hs.lo⟩
 |_,_=>zV):=by
 cases hs;rfl
def Ko(size:Z)(x:SV)(hs:Hs)(K:Z->F zg->Prop):Prop:=match x with
 |.sl id b o m _=>match qBB id hs.rs with
  |some (q,_,cells)=>(b=q/\o=0)/\match zAP cells.length (m*size)with
   |true=>qhC cells λh=>K m h
   |false=>zV
  |none=>zV
 |.v (.slice u m cap)=>∃h,(Dl hs.g size (.slice u m cap) m h/\∀w∈h,w.oneCell'=I)/\K m h
 |_=>zV
def qXR(id:Z)(new:Res):F Res->(F Res->Prop)->Prop
 |[],_=>zV
 |.blk j b ty cells::r,k=>match zAP j id with
  |true=>k (new::r)
  |false=>qXR id new r λh=>k (.blk j b ty cells::h)
 |x::r,k=>qXR id new r λh=>k (x::h)
def qRa(ety:zAy)(size:Z)(s:SV)(hs:Hs)(K:SV->Hs->Prop):Prop:=match hs with
 |⟨q,h,u,w⟩=>match s with
 |.sl id b o n cap=>match qBB id h with
  |some (A,B,cells)=>(b=A/\o=0/\n=cap/\B=ety/\cap<=zAr)/\match zAP cells.length (n*size)with
   |true=>qhC cells λcs=>qXR id (.row id (O ⟨b,0,zc⟩) n cap ety size cs) h λC=>K (.row id (O ⟨b,0,zc⟩) n cap) ⟨q,C,u,w⟩
   |false=>zV
  |none=>zV
 |s=>K s hs
def qRX(ety)(size)(s)(hs)(K):qRa ety  size  s  hs  K=(match s with
 |.sl id b o n cap=>match qBB id hs.rs with
  |some (h,q,cells)=>(b=h/\o=0/\n=cap/\q=ety/\cap<=zAr)/\match zAP cells.length (n*size)with
   |true=>qhC cells λcs=>qXR id (.row id (O ⟨b,0,zc⟩) n cap ety size cs) hs.rs λu=>K (.row id (O ⟨b,0,zc⟩) n cap) ⟨hs.g,u,hs.nx,hs.lo⟩
   |false=>zV
  |none=>zV
 |s=>K s hs):=by
 cases hs;rfl
def Dw(oa:zs zAH)(n:Z):Prop:=0<n->∃a,oa=O a
def Dw.no{oa}{n}{p:Prop}(h:p):Dw oa n->p:=λ_=>h
def Aq.Lv{fr:Fr}{hs}{w}(h:Aq fr hs w){id}{oa}{n cap}{ety}{size}{cs}(hm:Res.row id oa n cap ety size cs∈hs.rs):Dw oa n:=λA=>by
 obtain⟨⟨_,u⟩,_⟩:=h.res _ hm;rcases u with⟨_,rfl⟩|⟨_,_,_,q,_⟩
 .omega
 .simp only[zAp]at q;exact⟨_,q.1⟩
def qSa(ety:zAy)(size bytes:Z)(s x:SV)(hs:Hs)(K:SV->Hs->Prop):Prop:=match hs with
 |⟨u,D,E,B⟩=>Ko size x hs λm C=>match s with
 |.v (.slice zc 0 0)=>(m<=zAr/\m*bytes<=140737488355328)/\qEC E λi j=>∀h cap,Dw h m->K (.row i h m cap) ⟨u,.row i h m cap ety size C::D,j,B⟩
 |.row id h n cap=>match qPB id D with
  |some (M,Q,R,T,U,cs)=>(h=M/\n=Q/\cap=R/\T=ety/\U=size)/\(n+m<=zAr/\(n+m)*bytes<=140737488355328)/\
   qEC E λi j=>∀q A,Dw q (n+m)->FG id (O (.row i q (n+m) A ety size (cs++C))) D λV=>K (.row i q (n+m) A) ⟨u,V,j,B⟩
  |none=>zV
 |.v (.slice h n cap)=>(∃cs,(Dl u size (.slice h n cap) n cs/\∀L∈cs,L.oneCell'=I)/\(m=0->K (.v (.slice h n cap)) hs)/\
  (0<m->(cap<n+m/\n+m<=zAr/\(n+m)*bytes<=140737488355328)/\qEC E λi j=>∀q A,Dw q (n+m)->K (.row i q (n+m) A) ⟨u,.row i q (n+m) A ety size (cs++C)::D,j,B⟩))\/
  (∃(b:Z)(cs rest:F zg),(h=O ⟨b,0,zc⟩/\B<=b/\u.g b/\u.w.heap[b]?=O (.cells ⟨cs++rest⟩ ety (0,0))/\cs.length=n*size/\(∀L∈cs,L.oneCell'=I)/\n<=cap/\cap<=zAr/\(cs++rest).length=cap*size/\
   n+m<=zAr/\(n+m)*bytes<=140737488355328)/\∀H,Hy u b H->qEC E λi j=>∀q A,Dw q (n+m)->K (.row i q (n+m) A) ⟨H,.row i q (n+m) A ety size (cs++C)::D,j,B⟩)\/
  ∃(b:Z)(cs rest:F zg),(h=O ⟨b,0,zc⟩/\B<=b/\u.g b/\u.w.heap[b]?=O (.cells ⟨cs++rest⟩ ety (0,0))/\cs.length=n*size/\n+m<=cap/\C.length<=rest.length)/\∀H,Upd u b (.cells ⟨cs++C++rest.drop C.length⟩ ety (0,0)) H->K (.v (.slice h (n+m) cap)) ⟨H,D,E,B⟩
 |_=>zV
def qSX(ety)(size bytes)(s x)(hs)(K):qSa ety  size bytes  s x  hs  K=(Ko size x hs λm vs=>match s with
 |.v (.slice zc 0 0)=>(m<=zAr/\m*bytes<=140737488355328)/\qEC hs.nx λi j=>∀oa cap,Dw oa m->K (.row i oa m cap) ⟨hs.g,.row i oa m cap ety size vs::hs.rs,j,hs.lo⟩
 |.row id oa n cap=>match qPB id hs.rs with
  |some (A,B,C,D,E,cs)=>(oa=A/\n=B/\cap=C/\D=ety/\E=size)/\(n+m<=zAr/\(n+m)*bytes<=140737488355328)/\
   qEC hs.nx λi j=>∀h q,Dw h (n+m)->FG id (O (.row i h (n+m) q ety size (cs++vs))) hs.rs λrs'=>K (.row i h (n+m) q) ⟨hs.g,rs',j,hs.lo⟩
  |none=>zV
 |.v (.slice oa n cap)=>(∃cs,(Dl hs.g size (.slice oa n cap) n cs/\∀u∈cs,u.oneCell'=I)/\(m=0->K (.v (.slice oa n cap)) hs)/\
  (0<m->(cap<n+m/\n+m<=zAr/\(n+m)*bytes<=140737488355328)/\qEC hs.nx λi j=>∀h q,Dw h (n+m)->K (.row i h (n+m) q) ⟨hs.g,.row i h (n+m) q ety size (cs++vs)::hs.rs,j,hs.lo⟩))\/
  (∃(b:Z)(cs rest:F zg),(oa=O ⟨b,0,zc⟩/\hs.lo<=b/\hs.g.g b/\hs.g.w.heap[b]?=O (.cells ⟨cs++rest⟩ ety (0,0))/\cs.length=n*size/\(∀u∈cs,u.oneCell'=I)/\n<=cap/\cap<=zAr/\(cs++rest).length=cap*size/\
   n+m<=zAr/\(n+m)*bytes<=140737488355328)/\∀g',Hy hs.g b g'->qEC hs.nx λi j=>∀h q,Dw h (n+m)->K (.row i h (n+m) q) ⟨g',.row i h (n+m) q ety size (cs++vs)::hs.rs,j,hs.lo⟩)\/
  ∃(b:Z)(cs rest:F zg),(oa=O ⟨b,0,zc⟩/\hs.lo<=b/\hs.g.g b/\hs.g.w.heap[b]?=O (.cells ⟨cs++rest⟩ ety (0,0))/\cs.length=n*size/\n+m<=cap/\vs.length<=rest.length)/\∀g',Upd hs.g b (.cells ⟨cs++vs++rest.drop vs.length⟩ ety (0,0)) g'->K (.v (.slice oa (n+m) cap)) ⟨g',hs.rs,hs.nx,hs.lo⟩
 |_=>zV):=by
 cases hs;rfl
def Lg(ety:zAy)(size bytes:Z)(s x:SV)(hs:Hs)(K:SV->Hs->Prop):Prop:=KZ x hs λhs=>KZ s hs λhs=>qRa ety size s hs λh q=>qSa ety size bytes h x q K
def Lc(d s:SV)(hs:Hs)(K:SV->Hs->Prop):Prop:=Ko 1 s hs λm h=>match d with
 |.row id (O q) n cap=>match qPB id hs.rs with
  |some (A,B,C,D,sz,cs)=>(A=O q/\n=B/\cap=C/\sz=1/\0<m/\0<n)/\
   FG id (O (.row id (O q) n cap D 1 (h.take (min m n)++cs.drop (min m n)))) hs.rs λE=>K (.v (.int .i64 ((min m n:Z):zn))) ⟨hs.g,E,hs.nx,hs.lo⟩
  |none=>zV
 |.v (.slice (O a) n _)=>∃(b:Z)(cs:F zg)(ty:zAy),(a=⟨b,0,zc⟩/\hs.lo<=b/\hs.g.g b/\hs.g.w.heap[b]?=O (.cells ⟨cs⟩ ty (0,0))/\min m n<=cs.length/\0<m)/\
   ∀u,Upd hs.g b (.cells ⟨h.take (min m n)++cs.drop (min m n)⟩ ty (0,0)) u->K (.v (.int .i64 ((min m n:Z):zn))) ⟨u,hs.rs,hs.nx,hs.lo⟩
 |_=>zV
def Kn(size:Z)(x y:SV)(hs:Hs)(K:SV->Hs->Prop):Prop:=match x with
 |.p id b o=>q6P size (.p id b o) y hs K
 |x=>MN (q1A y) hs λhs=>q6P size x y hs K
def q7N(P:zt)(H:qOA)(Y:qMB)(f:SV)(args:F SV)(hs:Hs)(K:SV->Hs->Prop):Prop:=match f with
 |.fn (.func k) first h=>GB P k/\H Y k (first++args++h) hs K
 |.v (.func (.func k) ⟨first⟩ ⟨h⟩)=>GB P k/\match first,h with
  |[],[]=>H Y k args hs K
  |first,h=>∃q u,(qDA q=first/\qDA u=h)/\H Y k (q++args++u) hs K
 |.yl id l=>match qsH id hs.rs with
  |some (w,_,_)=>l=w/\Y id args hs K
  |none=>zV
 |_=>zV
def K6(h:KyT)(hs:Hs)(K:SV->Hs->Prop):Prop:=match hs with
 |⟨q,u,w,A⟩=>qEC w λi j=>∀r,K (.mp i r) ⟨q,.mp i r h []::u,j,A⟩
def Hl(id:Z)(new:F (Ky×zg)):F Res->(F Res->Prop)->Prop
 |[],_=>zV
 |.mp j a q es::r,k=>match zAP j id with
  |true=>k (.mp j a q new::r)
  |false=>Hl id new r λh=>k (.mp j a q es::h)
 |x::r,k=>Hl id new r λh=>k (x::h)
def qdC{id}{new}:∀{rs:F Res}{k:F Res->Prop}{r:Z}{A:KyT}{es:F (Ky×zg)},Hl id new rs k->qJD id rs=O (r,A,es)->∃u w,rs=u++.mp id r A es::w/\k (u++.mp id r A new::w)
 |[],k,r,A,es,h,q=>h.elim
 |.mp j a U V::rs,k,r,A,es,h,q=>by
  simp only[Hl]at h;simp only[qJD]at q;cases M:zAP j id with
  |true=>
   rw[M]at h q;simp at q;obtain⟨rfl,rfl,rfl⟩:=q;obtain rfl:=zP M;exact⟨[],rs,rfl,h⟩
  |false=>
   rw[M]at h q;obtain⟨u,w,e,B⟩:=qdC h q;exact⟨_::u,w,by rw[e];rfl,B⟩
 |.blk C E H L::rs,k,r,A,es,h,q=>by
  obtain⟨u,w,e,B⟩:=qdC (k:=λD=>k (.blk C E H L::D)) h q;exact⟨_::u,w,by rw[e];rfl,B⟩
 |.row C E H L Q R T::rs,k,r,A,es,h,q=>by
  obtain⟨u,w,e,B⟩:=qdC (k:=λD=>k (.row C E H L Q R T::D)) h q;exact⟨_::u,w,by rw[e];rfl,B⟩
 |.lp C E H L::rs,k,r,A,es,h,q=>by
  obtain⟨u,w,e,B⟩:=qdC (k:=λD=>k (.lp C E H L::D)) h q;exact⟨_::u,w,by rw[e];rfl,B⟩
 |.mk C::rs,k,r,A,es,h,q=>by
  obtain⟨u,w,e,B⟩:=qdC (k:=λD=>k (.mk C::D)) h q;exact⟨_::u,w,by rw[e];rfl,B⟩
def Iv(h:KyT)(x k v:SV)(hs:Hs)(K:SV->Hs->Prop):Prop:=match hs with
 |⟨u,q,w,A⟩=>match x with
  |.mp id r=>match kOf h (Ae k)with
   |some n=>match qJD id q with
    |some (B,C,es)=>(r=B/\I=I/\Kx C h=I)/\qSI v λv=>Hl id (BT n v es) q λD=>K (.v zAX) ⟨u,D,w,A⟩
    |none=>zV
   |none=>zV
  |_=>zV
def Ku(u:KyT)(z:zg)(x k:SV)(hs:Hs)(K:SV->Hs->Prop):Prop:=match hs with
 |⟨w,h,A,B⟩=>match x with
  |.mp id r=>match kOf u (Ae k)with
   |some n=>match qJD id h with
    |some (C,D,es)=>(r=C/\I=I/\Kx D u=I)/\∃o,Bs n es=o/\match o with
     |some v=>Hl id es h λq=>K (.v (.tuple ⟨[v,.int .i64 (mIx n es)]⟩)) ⟨w,q,A,B⟩
     |none=>Hl id (es++[(n,z)]) h λq=>K (.v (.tuple ⟨[z,.int .i64 es.length]⟩)) ⟨w,q,A,B⟩
    |none=>zV
   |none=>zV
  |_=>zV
def J5(x s v:SV)(hs:Hs)(K:SV->Hs->Prop):Prop:=match hs with
 |⟨q,h,u,w⟩=>match x with
  |.mp id r=>match s with
   |.v (.int k j)=>match j with
    |.ofNat j=>match qJD id h with
     |some (A,_,es)=>(r=A/\kEq k .i64=I/\Nat.blt j es.length=I)/\qSI v λv=>Hl id (DY j v es) h λB=>K (.v zAX) ⟨q,B,u,w⟩
     |none=>zV
    |_=>zV
   |_=>zV
  |_=>zV
def chS(P:zt)(H:qOA)(Y:qMB)(o:SOp)(sl:Sl)(hs:Hs)(K:SV->Hs->Prop):Prop:=match o with
 |.store size x y=>x.k hs.rs sl λx=>y.k hs.rs sl λy=>Kn size x y hs K
 |.alloc ty zero=>qbL ty zero hs K
 |.box ty x=>x.k hs.rs sl λx=>KH ty x hs K
 |.bsl h _ len zero parts=>qhU hs.rs sl zero parts λcells=>LY h len cells hs K
 |.app h size bytes s x=>s.k hs.rs sl λs=>x.k hs.rs sl λx=>Lg h size bytes s x hs K
 |.msl h size bytes zero l c=>l.k hs.rs sl λl=>c.k hs.rs sl λc=>Ju h size bytes zero l c hs K
 |.mkm q=>K6 q hs K
 |.cpy d s=>d.k hs.rs sl λd=>s.k hs.rs sl λs=>Lc d s hs K
 |.men q z x k=>x.k hs.rs sl λx=>k.k hs.rs sl λk=>Ku q z x k hs K
 |.est x s v=>x.k hs.rs sl λx=>s.k hs.rs sl λs=>v.k hs.rs sl λv=>J5 x s v hs K
 |.mup q x k v=>x.k hs.rs sl λx=>k.k hs.rs sl λk=>v.k hs.rs sl λv=>Iv q x k v hs K
 |.call f args=>Opd.ks hs.rs sl args λargs=>H Y f args hs K
 |.JO f args=>Opd.ks hs.rs sl args λargs=>H Y f args hs K
 |.I4 f args=>f.k hs.rs sl λf=>Opd.ks hs.rs sl args λargs=>q7N P H Y f args hs K
 |_=>zV
def quB{P}{b}{ty}:∀(vs:F zg)(i:Z)(o:Z)(w:zp)(cs:F zg),w.heap[b]?=O (.cells ⟨cs⟩ ty (0,0))->o+i+vs.length<=cs.length->(∀v∈vs,v.oneCell'=I)->∃w',(storeCells ⟨b,o,zc⟩ vs i).run P w=.ok () w'/\w'.heap[b]?=O (.cells ⟨cs.take (o+i)++vs++cs.drop (o+i+vs.length)⟩ ty (0,0))/\w'.heap.size=w.heap.size/\(∀k,k≠b->w'.heap[k]?=w.heap[k]?)/\w'.os=w.os/\w'.tape=w.tape/\w'.output=w.output
 |[],i,o,w,cs,h,q,u=>⟨w,by simp[storeCells],by simpa using h,rfl,λ_ _=>rfl,rfl,rfl,rfl⟩
 |v::vs,i,o,w,cs,h,q,u=>by
  have A:o+i<cs.length:=by simp at q;omega
  have C:w.cell? ⟨b,o+i,zc⟩=O cs[o+i]:=by rw[qCB h];simp[A]
  have D:w.frozen? ⟨b,o+i,zc⟩=zb:=by simp[World.frozen?,h]
  have E:(w.setCell ⟨b,o+i,zc⟩ v).heap[b]?=O (.cells ⟨cs.set (o+i) v⟩ ty (0,0)):=by
   rw[heap_setCell_same w b (o+i) ⟨cs⟩ ty v h];simp
  obtain⟨w',H,L,M,Q,R,T,U⟩:=quB (P:=P) vs (i+1) o (w.setCell ⟨b,o+i,zc⟩ v) (cs.set (o+i) v) E (by simp at q⊢;omega) (λV hu=>u V (zAl _ hu));refine⟨w',?_,?_,?_,?_,?_,?_,?_⟩
  .have W:(store ⟨b,o+i,zc⟩ v).run P w=.ok () (w.setCell ⟨b,o+i,zc⟩ v):=by
    rw[run_store P w _ v _ (u v (zAm ..)),C];simp[D]
   simp only[storeCells,qlA,zAa,W,zAo];exact H
  .rw[L];congr 2;simp only[List.take_set,zBb,zDl (show o+i<o+(i+1)+vs.length by omega),Array.mk.injEq];rw[<-zCS o i 1,zY A,List.set_append_right _ _ sf];simp[zAN,zB7 (zC1 A),zCS,zDH 1]
  .rw[M];simp[World.setCell]
  .intro k B;rw[Q k B];exact heap_setCell_other w _ k v B
  .rw[R];rfl
  .rw[T];rfl
  .rw[U];rfl
def qOO{u:Type}(l q:F u)(j m:Z)(h:j+q.length<=m)(hm:m<=l.length):(l.take j++q++l.drop (j+q.length)).take m=(l.take m).take j++q++(l.take m).drop (j+q.length):=by
 have A:(l.take j).length=j:=sf
 have w:(l.take j++q).length=j+q.length:=sf
 rw[List.take_append,zAw sa,w,zC3,zB7 sa,zCK]
def q2D{P}{t}{size}(hs:qQB P t=O size){w w'}{a}{v}(hl:v.cells.size=size)(h:(storeCells a v.cells.toList).run P w=.ok () w'):(Instr.storeAt t (.pointer (O a)) v).run P w=.ok () w':=by
 simp[Instr.storeAt,Instr.sureAddr,storeVar,qwA hs,hl,h]
def qVJ{size}{x y}{hs}{K}(h:q6P size x y hs K){P}{t}(aa:qQB P t=O size){fr:Fr}{w}(E:Aq fr hs w):∃w' H,(Instr.storeAt t (Ae x) (Ae y)).run P w=.ok () w'/\Aq fr H w'/\K (.v zAX) H:=by
 rw[q7S]at h;split at h
 .rename_i id b o;split at h
  .rename_i aH ty cells L;obtain⟨rfl,h⟩:=h;obtain⟨h,C⟩:=q6D h;split at h
   .rename_i u;have u:=zP u;split at h
    .rename_i aI ao;obtain⟨aJ,aj⟩:=qZH ao;obtain⟨ap,aq,ab,ac⟩:=qOE h L;obtain⟨D,M⟩:=E.EA L
     have Q:∀v∈(Ae y).cells.toList,v.oneCell'=I:=λv B=>by
      rw[<-qYB,qiA]at B;obtain⟨c,q,rfl⟩:=zAb.1 B;exact C c q
     have A:(Ae y).cells.size=size:=by rw[<-qDC];exact u
     obtain⟨w',R,T,H,U,V,W,Y⟩:=quB (P:=P) (Ae y).cells.toList 0 o w (qDA cells) D (by simp[qrA,A];omega) Q;refine⟨w',_,q2D aa A R,?_,ac⟩;refine E.upd ab V W Y sa (λk _ ad=>U k (by simpa[Res.bk]using ad)) ⟨?_,λc q=>?_⟩ (λb D=>.inl (by simpa[Res.bk]using D)) sk
     .rw[T,aj];congr 2;simp[q4F,qXG,qYG,qYB,qDC]
     .rw[aj]at q;rcases zL.1 q with q|q
      .rcases zL.1 q with q|q
       .exact M c (zBD q)
       .exact C c q
      .exact M c (zCt q)
    .exact h.elim
   .exact h.elim
  .exact h.elim
 .rename_i id aK n cap j;split at h
  .rename_i aL aM ar au sz cs L;obtain⟨⟨rfl,rfl,rfl⟩,h⟩:=h;obtain⟨h,C⟩:=q6D h;split at h
   .rename_i u;have u:=zP u;obtain⟨⟨ae,aN⟩,h⟩:=h;have h:=qJB _ h;obtain⟨ap,aq,ab,ac⟩:=qcC h L;obtain⟨⟨af,av⟩,M⟩:=E.Fw L
    have Q:∀v∈(Ae y).cells.toList,v.oneCell'=I:=λv B=>by
     rw[<-qYB,qiA]at B;obtain⟨c,q,rfl⟩:=zAb.1 B;exact C c q
    have A:(Ae y).cells.size=size:=by rw[<-qDC];exact u
    rcases av with⟨ag,rfl⟩|⟨g,ar,ah,ag,aw,ax,ak,ay,az,al⟩
    .simp at af;subst af;simp at ae;omega
    .simp only[zAp]at ag;obtain⟨rfl,_,rfl⟩:=ag
     have aO:cs.length<=ah.size:=by
      rw[<-al,zAN];simp;omega
     obtain⟨w',R,T,H,U,V,W,Y⟩:=quB (P:=P) (Ae y).cells.toList 0 j w ah.toList ax (by simp[A];omega) Q;refine⟨w',_,?_,?_,ac⟩
     .simp only[Ae,zBx,qlA,zAu];exact q2D aa A R
     .have aA:(qDA (q1A y)).length=size:=by rw[qrA];exact u
      have aB:cs.length=n*sz:=af;refine E.upd (r1:=.row id (O ⟨g,0,zc⟩) n cap au sz (cs.take j++qDA (q1A y)++cs.drop (j+size))) ab V W Y sa (λk _ ad=>U k (by simpa[Res.bk]using ad)) ⟨⟨?_,.inr ⟨g,cap,_,rfl,aw,T,ak,ay,?_,?_⟩⟩,λc q=>?_⟩ (λb D=>.inl (by simpa[Res.bk]using D)) sk
      .simp[aA];omega
      .simp[A];rw[<-az];omega
      .rw[<-al,qYB];have ai:(Ae y).cells.toList.length=size:=by simpa using A
       have:=qOO ah.toList (Ae y).cells.toList j (n*sz) (by rw[ai,<-aB];exact ae) (by have:=zCu sz ak;simp;omega);rw[ai]at this;simpa[ai]using this
      .rcases zL.1 q with q|q
       .rcases zL.1 q with q|q
        .exact M c (zBD q)
        .rw[qiA]at q;obtain⟨aC,aD,rfl⟩:=zAb.1 q;exact C aC aD
       .exact M c (zCt q)
   .exact h.elim
  .exact h.elim
 .rename_i a;obtain⟨b,j,cs,ty,⟨rfl,aE,an,D,ae⟩,h⟩:=h;obtain⟨h,C⟩:=q6D h;split at h
  .rename_i u;have u:=zP u;have h:=qJB _ h
   have Q:∀v∈(Ae y).cells.toList,v.oneCell'=I:=λv B=>by
    rw[<-qYB,qiA]at B;obtain⟨c,q,rfl⟩:=zAb.1 B;exact C c q
   have A:(Ae y).cells.size=size:=by rw[<-qDC];exact u
   obtain⟨w',R,T,H,U,V,W,Y⟩:=quB (P:=P) (Ae y).cells.toList 0 j w cs ((E.AJ.2 b an).trans D) (by simp[A];omega) Q;obtain⟨aF,hu,aG⟩:=E.J0 (w':=w') aE an V W Y H T U;refine⟨w',_,q2D aa A R,aG,h aF ?_⟩;simpa[qYB,A]using hu
  .exact h.elim
 .exact h.elim
def qIU{fr:Fr}{hs}{w}(h:Aq fr hs w)(id nx)(ty)(cells)(q:∀c∈cells,(Ae c).oneCell'=I):Aq fr ⟨hs.g,.blk id w.heap.size ty cells::hs.rs,nx,hs.lo⟩ (w.alloc (.cells (qDA cells).toArray ty)):=
 h.EL (Below.AU w _) (r:=.blk id w.heap.size ty cells) ⟨World.alloc_heap_new w _,q⟩ (λb u=>by simp[Res.bk]at u;omega) sk
def qXK{ty}{z}{hs}{K}(h:qbL ty (z.map SV.v) hs K){P}(hz:q5H P ty=O z){fr:Fr}{w}(u:Aq fr hs w):∃w' s q,(Instr.alloc ty I (.tuple #[])).run P w=.ok (Ae s) w'/\Below w.heap.size w w'/\Aq fr q w'/\K s q:=by
 rw[qDO]at h;obtain⟨h,A⟩:=q6D h;obtain⟨i,j,h⟩:=qFB h;obtain⟨v,B,C,_⟩:=qZD hz w;refine⟨_,_,_,?_,Below.AU w _,qIU u i j ty _ A,h w.heap.size⟩;have:(qDA (z.map SV.v)).toArray=v.cells:=by apply zBq;simp[qiA,zB8,Ae,C]
 rw[this];simp[Instr.alloc,B,newVar,newRow,Ae]
def qAO{ty}{x}{hs}{K}(h:KH ty x hs K){P}{fr:Fr}{w}(u:Aq fr hs w):∃w' s q,(Instr.box ty (Ae x)).run P w=.ok (Ae s) w'/\Below w.heap.size w w'/\Aq fr q w'/\K s q:=by
 rw[qJa]at h;obtain⟨h,A⟩:=q6D (qDL _ h);obtain⟨i,j,h⟩:=qFB h;refine⟨_,_,_,?_,Below.AU w _,qIU u i j ty _ A,h w.heap.size⟩;have:(qDA (q1A x)).toArray=(Ae x).cells:=by apply zBq;simp[qYB]
 rw[this];simp[Instr.box,newVar,newRow,Ae]
def qYH(z:F zg)(n:Z):((Array.range (n*z.length)).map (λi=>z.toArray[i%z.toArray.size]!)).toList=(zA5 n z).flatten:=by
 apply zBT;intro i;by_cases hz:z.length=0
 .have:z=[]:=zB9 hz;subst this;simp
 .have u:0<z.length:=Nat.pos_of_ne_zero hz
  have w:∀(n i:Z),((zA5 n z).flatten)[i]?=if i<n*z.length then z[i%z.length]? else zc:=by
   intro n
   induction n with
   |zero=>intro i;simp
   |succ n A=>
    intro i;rw[List.replicate_succ,zBC,List.getElem?_append];split
    .rename_i h;rw[zk (by rw[zCm];omega),Nat.mod_eq_of_lt h]
    .rename_i h;rw[A,zCm];by_cases q:i<n*z.length+z.length
     .rw[zk q,zk sa,show(i-z.length)%z.length=i%z.length from(Nat.mod_eq_sub_mod sa).symm]
     .rw[zh q,zh sa]
  rw[w];simp only[zDC,Array.toList_range,zAv];split
  .rename_i h;rw[zCy h];have hm:=zDB i u;simp[hm]
  .rename_i h;rw[zBQ (by simpa using h)];rfl
def q9N{P}{t e}{size len}{z}{cells}{hs}{K}(h:LY e len cells hs K)(hu:P.underlying t=O (.slice e))(A:qQB P e=O size)(hz:q5H P e=O z)(C:z.length=size)(U:0<size)(D:len*size<=2^24){parts}(u:Instr.fill (λi=>O (i*size,size)) ((zA5 len z).flatten).toArray parts.toList=O (qDA cells).toArray){fr:Fr}{w}(E:Aq fr hs w):∃w' s B,(Instr.buildSlice t len parts).run P w=.ok (Ae s) w'/\Below w.heap.size w w'/\Aq fr B w'/\K s B:=by
 rw[qHa]at h;obtain⟨h,H⟩:=q6D h;obtain⟨i,j,h⟩:=qFB h;obtain⟨v,L,M,_⟩:=qZD hz w;refine⟨_,_,_,?_,Below.AU w _,qIU E i j e _ H,h w.heap.size⟩;have Q:v.cells=z.toArray:=by apply zBq;simpa using M
 have R:(Array.range (len*size)).map (λi=>v.cells[i%v.cells.size]!)=((zA5 len z).flatten).toArray:=by
  apply zBq;rw[Q,<-C,qYH]
 have T:len*size=0->len=0:=λq=>by
  rcases Nat.mul_eq_zero.1 q with q|q
  .exact q
  .omega
 by_cases q:len*size=0
 .have:=T q;subst this;simp at u;simp[Instr.buildSlice,zN hu,qwA A,newRow,Ae,Array.range_zero',u]
 .simp[Instr.buildSlice,zN hu,qwA A,newRow,Ae,L,R,u,zDD.2 D];exact λh=>absurd h q
def qNN{P}{t e}{i:TypeInfo}{z}{l c}{hs}{K}(h:Ju e i.size i.bytes z l c hs K)(hu:P.underlying t=O (.slice e))(hi:P.info? e=O i)(hz:q5H P e=O z)(q:z.length=i.size){fr:Fr}{w}(H:Aq fr hs w):∃w' s B,(Instr.makeSlice t (Ae l) (Ae c)).run P w=.ok (Ae s) w'/\Below w.heap.size w w'/\Aq fr B w'/\K s B:=by
 rw[qWZ]at h;split at h
 .rename_i l c;obtain⟨⟨u,C,L,M⟩,h⟩:=h;obtain⟨Q,ae,h⟩:=qFB h;obtain⟨v,R,T,U⟩:=qZD hz w;have V:v.cells=z.toArray:=by apply zBq;simpa using T
  have W:i.zero=O v:=by
   have:=R;simp only[zAZ,typeInfo,zAa,run_program,hi,zAo,Sem.run_pure]at this;cases D:i.zero with
   |none=>simp[D]at this
   |some af=>simp[D]at this;rw[this]
  obtain⟨l,rfl⟩:=zBj u;obtain⟨c,rfl⟩:=zBj (zDI u C);have E:=run_make (P:=P) w t e i v hu hi W .i64 .i64 l c u C (by simpa using L) (by simpa using M);simp only[zBn]at E;refine⟨_,_,_,by simp only[Ae,zBn];exact E,Below.AU w _,?_,h w.heap.size⟩
  have hm:(madeCells v.cells (c*i.size)).toList=(zA5 c z).flatten:=by
   unfold madeCells;rw[V,<-q];exact qYH z c
  have A:∀n,((zA5 n z).flatten).length=n*z.length:=λn=>sd
  refine H.EL (Below.AU w _) (r:=.row Q (O ⟨w.heap.size,0,zc⟩) l c e i.size _) ⟨⟨?_,.inr ⟨w.heap.size,c,_,rfl,zF _,World.alloc_heap_new w _,sa,?_,?_,?_⟩⟩,λY hu=>?_⟩ (λb aa=>by simp[Res.bk]at aa;omega) sk
  .simp[q]
  .simp only[zAr];omega
  .rw[<-zDm,hm,A,q]
  .rw[hm,<-q];have ab:l<=c:=sa
   obtain⟨d,rfl⟩:=Nat.exists_eq_add_of_le ab;rw[<-List.replicate_append_replicate,List.flatten_append,zBV (by rw[A];exact zG _),zAw (by rw[A];exact zG _)];simp
  .simp only[zBn]at hu;obtain⟨x,ac,ad⟩:=zCP.1 hu;obtain⟨_,rfl⟩:=List.mem_replicate.1 ac;exact U Y ad
 .exact h.elim
def qAC{P}{t e ty}{i:TypeInfo}(hu:P.underlying t=O (.slice e))(hi:P.info? e=O i)(oa)(n cap h)(q:n<=cap)(w):(zBz #[t,t] ty #[.slice oa n cap,.slice zc 0 h]).run P w=.ok (.slice oa n cap) w:=by
 simp[zBz,zN hu,sizeOf,typeInfo,hi,Builtin.lenOf,Builtin.firstCells,q];cases oa<;>simp[storeCells]
def qqM{size}{x}{hs}{K}(h:Ko size x hs K){fr:Fr}{w}(C:Aq fr hs w):∃m vs,K m vs/\vs.length=m*size/\(∀u∈vs,u.oneCell'=I)/\((∃a c,Ae x=.slice (O a) m c/\∀j u,vs[j]?=O u->w.cell? (a.add j)=O u)\/(∃c,Ae x=.slice zc m c/\m=0)):=by
 unfold Ko at h;split at h
 .rename_i id b o m c;split at h
  .rename_i U ty cells E;obtain⟨⟨rfl,rfl⟩,h⟩:=h;split at h
   .rename_i q;have q:=zP q;have h:=qJB _ h;obtain⟨H,A⟩:=C.EA E;refine⟨m,_,h,by rw[qrA];exact q,λu hu=>?_,.inl ⟨_,_,rfl,λj u hu=>?_⟩⟩
    .rw[qiA]at hu;obtain⟨c,B,rfl⟩:=zAb.1 hu;exact A c B
    .rw[qlA,qCB H];simpa using hu
   .exact h.elim
  .exact h.elim
 .rename_i L m cap;obtain⟨vs,⟨⟨M,V,W,D,_,_,Q,B⟩,A⟩,h⟩:=h;simp only[zAp,zBL]at D;obtain⟨rfl,rfl⟩:=D;refine⟨m,vs,h,M,A,?_⟩;cases L with
  |none=>exact .inr ⟨_,rfl,(Q rfl).1⟩
  |some a=>exact .inl ⟨_,_,rfl,λj u hu=>by obtain⟨Y,R,T⟩:=B j u hu;cases R;exact T.at C.AJ⟩
 .exact h.elim
def qCE{e:zAy}{i:TypeInfo}{z:zg}(hzs:z.cells.size=i.size){w:zp}{xs news:F zg}{n m cap:Z}(hl:(xs++news).length=(n+m)*i.size)(h:n+m<=zAr):(w.drew.alloc (.cells (xs.toArray++news.toArray++Builtin.zeroCells z.cells (grownCap w (n+m) cap e-(n+m))) e)).ownsRow 0 e i.size (.slice (O ⟨w.heap.size,0,zc⟩) (n+m) (grownCap w (n+m) cap e)) (n+m) (xs++news):=by
 have q:=grownCap_ge w (n+m) cap e;refine⟨hl,.inr ⟨w.heap.size,_,_,rfl,zF _,heap_alloc_new w.drew _,q,grownCap_le_maxLen w (n+m) cap e h,?_,?_⟩⟩
 .have:=hl;simp only[zAq]at this;simp only[Array.size_append,zDw,size_zeroCells,hzs];rw[this,<-zBM];congr 1;omega
 .simp only[Array.toList_append,zBZ];rw[<-zBZ,<-hl];exact List.take_left
def qJF(w)(o):Below w.heap.size w (w.drew.alloc o):=((Below.refl _ w).drew).alloc (zG _) o
def qaD{id}{new}:∀{rs:F Res}{k:F Res->Prop}{b:Z}{ty:zAy}{cells:F SV},qXR id new rs k->qBB id rs=O (b,ty,cells)->∃u w,rs=u++.blk id b ty cells::w/\k (u++new::w)
 |[],k,b,ty,cells,h,q=>h.elim
 |.blk j M Q R::r,k,b,ty,cells,h,q=>by
  simp only[qXR]at h;simp only[qBB]at q;cases L:zAP j id with
  |true=>
   rw[L]at h q;simp at q;obtain⟨rfl,rfl,rfl⟩:=q;obtain rfl:=zP L;exact⟨[],r,rfl,h⟩
  |false=>
   rw[L]at h q;obtain⟨u,w,e,A⟩:=qaD h q;exact⟨.blk j M Q R::u,w,by simp[e],A⟩
 |.row B D E H T U V::r,k,b,ty,cells,h,q=>by
  obtain⟨u,w,e,A⟩:=qaD (k:=λC=>k (.row B D E H T U V::C)) h q;exact⟨_::u,w,by rw[e];rfl,A⟩
 |.lp B D E H::r,k,b,ty,cells,h,q=>by
  obtain⟨u,w,e,A⟩:=qaD (k:=λC=>k (.lp B D E H::C)) h q;exact⟨_::u,w,by rw[e];rfl,A⟩
 |.mk B::r,k,b,ty,cells,h,q=>by
  obtain⟨u,w,e,A⟩:=qaD (k:=λC=>k (.mk B::C)) h q;exact⟨_::u,w,by rw[e];rfl,A⟩
 |.mp B D E H::r,k,b,ty,cells,h,q=>by
  obtain⟨u,w,e,A⟩:=qaD (k:=λC=>k (.mp B D E H::C)) h q;exact⟨_::u,w,by rw[e];rfl,A⟩
def qXS{ety}{size}{s}{hs}{K}(h:qRa ety size s hs K){fr:Fr}{w}(q:Aq fr hs w):∃B C,K B C/\Ae B=Ae s/\Aq fr C w:=by
 rw[qRX]at h;split at h
 .rename_i id b o n cap;split at h
  .rename_i U E cells D;obtain⟨⟨rfl,rfl,rfl,rfl,H⟩,h⟩:=h;split at h
   .rename_i L;obtain⟨V,W,M,Q⟩:=qaD (qJB _ h) D;obtain⟨R,T⟩:=q.EA D;have u:(qDA cells).length=n*size:=by rw[qrA];exact zP L
    refine⟨_,_,Q,rfl,q.upd (r1:=.row id (O ⟨b,0,zc⟩) n n E size (qDA cells)) (nx:=hs.nx) M rfl rfl rfl (zG _) (λ_ _ _=>rfl) ⟨⟨u,.inr ⟨b,n,_,rfl,zF _,R,zG _,H,by simpa using u,?_⟩⟩,λY hu=>?_⟩ (λc A=>.inl (by simpa[Res.bk]using A)) sk⟩
    .rw[<-u];simp
    .rw[qiA]at hu;obtain⟨c,A,rfl⟩:=zAb.1 hu;exact T c A
   .exact h.elim
  .exact h.elim
 .exact⟨_,_,h,rfl,q⟩
section
variable{P:zt}{t e ty:zAy}{i:TypeInfo}{z:zg}(hu:P.underlying t=O (.slice e))(hi:P.info? e=O i)(hz:i.zero=O z)(hzs:z.cells.size=i.size)
include hu hi hz hzs
def qaL{fr:Fr}{hs}{w}(C:Aq fr hs w){oa}{n cap m}{cs vs}(x)(h:cs.length=n*i.size)(T:∀j u,cs[j]?=O u->∃a,oa=O a/\w.cell? (a.add j)=O u)(D:∀u∈cs++vs,u.oneCell'=I)(hl:vs.length=m*i.size)(U:∃a c,x=.slice (O a) m c/\∀j u,vs[j]?=O u->w.cell? (a.add j)=O u)(hm:0<m)(E:cap<n+m)(V:oa=zc->n=0/\cap=0)(q:n+m<=zAr)(H:(n+m)*i.bytes<=140737488355328)(id nx):∃L M w',(zBz #[t,t] ty #[.slice oa n cap,x]).run P w=.ok (.slice L (n+m) M) w'/\Aq fr ⟨hs.g,.row id L (n+m) M e i.size (cs++vs)::hs.rs,nx,hs.lo⟩ w':=by
 obtain⟨a,c,rfl,Q⟩:=U;have R:(cs++vs).length=(n+m)*i.size:=by rw[zAq,h,hl,zBM]
 have ab:n+m<=9223372036854775807:=by simp only[zAr]at q;omega
 cases oa with
 |none=>
  obtain⟨rfl,rfl⟩:=V rfl;have:cs=[]:=by simpa using h
  subst this;have A:=run_append_nil (P:=P) w t ty e i z hu hi hz a m c vs hl Q hm sa (by simp only[zAu]at H;omega);simp only[zAu,zB0]at*;refine⟨_,_,_,A,C.EL (qJF w _) (r:=.row id (O ⟨w.heap.size,0,zc⟩) m _ e i.size vs) ⟨?_,D⟩ (λb B=>by simp[Res.bk]at B;omega) sk⟩;have:=qCE (e:=e) hzs (w:=w) (xs:=[]) (news:=vs) (n:=0) (m:=m) (cap:=0) (by simpa using R) (by simpa using q);simpa using this
 |some b=>
  have A:=run_append_grow (P:=P) w t ty e i z hu hi hz b n cap cs h (λj u W=>by obtain⟨ac,Y,aa⟩:=T j u W;cases Y;exact aa) a m c vs hl Q E sa (growslice_fits E H);exact⟨_,_,_,A,C.EL (qJF w _) (r:=.row id (O ⟨w.heap.size,0,zc⟩) (n+m) _ e i.size (cs++vs)) ⟨qCE hzs R q,D⟩ (λb B=>by simp[Res.bk]at B;omega) sk⟩
def qFY{fr:Fr}{hs:Hs}{w:zp}{K:SV->Hs->Prop}{x:SV}{id:Z}{oa:zs zAH}{n cap m:Z}{A:zAy}{ag:Z}{cs vs:F zg}(T:Aq fr hs w)(ax:A=e)(ay:ag=i.size)(hl:vs.length=m*i.size)(ao:∀u∈vs,u.oneCell'=I)(ap:(∃a c,Ae x=.slice (O a) m c/\∀j u,vs[j]?=O u->w.cell? (a.add j)=O u)\/(∃c,Ae x=.slice zc m c/\m=0))(W:n+m<=zAr)(aq:(n+m)*i.bytes<=140737488355328)(ah:qPB id hs.rs=O (oa,n,cap,A,ag,cs)){id1 id2:Z}(h:∀B D,Dw B (n+m)->FG id (O (.row id1 B (n+m) D A ag (cs++vs))) hs.rs λrs'=>K (.row id1 B (n+m) D) ⟨hs.g,rs',id2,hs.lo⟩):∃w' U V,(zBz #[t,t] ty #[Ae (.row id oa n cap),Ae x]).run P w=.ok (Ae U) w'/\Aq fr V w'/\K U V:=by
 subst ax;subst ay;have az:m=0->vs=[]:=λai=>by subst ai;simpa using hl
 obtain⟨⟨Y,aj⟩,ar⟩:=T.Fw ah
 have ak:∀u∈cs++vs,u.oneCell'=I:=λu hu=>by
  rcases zL.1 hu with hu|hu
  .exact ar u hu
  .exact ao u hu
 have aa:(cs++vs).length=(n+m)*i.size:=by rw[zAq,Y,hl,zBM]
 have ab:∀B D w',(zBz #[t,t] ty #[.slice oa n cap,Ae x]).run P w=.ok (.slice B (n+m) D) w'->
   (∀E H,hs.rs=E++.row id oa n cap A i.size cs::H->Aq fr ⟨hs.g,E++.row id1 B (n+m) D A i.size (cs++vs)::H,id2,hs.lo⟩ w')->
   ∃w' U V,(zBz #[t,t] ty #[Ae (.row id oa n cap),Ae x]).run P w=.ok (Ae U) w'/\Aq fr V w'/\K U V:=λB D w' Q au=>by
  obtain⟨aA,aB,aC⟩:=qAF ah;obtain⟨E,H,C,R⟩:=qcC (h B D ((au aA aB aC).Lv (List.mem_append_right _ (zAm ..)))) ah;exact⟨w',.row id1 B (n+m) D,_,Q,au E H C,R⟩
 by_cases hm:m=0
 .have aD:=az hm;subst hm;subst aD
  have ac:n<=cap:=by
   rcases aj with⟨L,rfl⟩|⟨g,aE,ad,L,_,_,ac,_⟩
   .exact zF _
   .simp only[zAp]at L;omega
  refine ab oa cap w ?_ λE H C=>?_
  .rcases ap with⟨a,c,M,ae⟩|⟨c,M,_⟩
   .rw[M];simp[zBz,zN hu,sizeOf,typeInfo,hi,Builtin.lenOf,Builtin.firstCells,loadCells,loadCellsFrom,ac];cases oa<;>simp[storeCells]
   .rw[M];simpa using qAC hu hi oa n cap c ac w
  .have:=T.upd (r1:=.row id1 oa (n+0) cap A i.size (cs++[])) (nx:=id2) C rfl rfl rfl (zG _) (λ_ _ _=>rfl) ⟨by simpa using⟨Y,aj⟩,by simpa using ar⟩ (λb q=>.inl q) (by cases oa<;>simp[Res.bk]);exact this
 .rcases ap with⟨a,c,M,ae⟩|⟨c,M,ai⟩
  .rcases aj with⟨L,rfl⟩|⟨g,aE,ad,L,aF,al,ac,aG,aH,av⟩
   .simp only[zAp]at L;obtain⟨rfl,_,rfl⟩:=L;have:cs=[]:=by simpa using Y
    subst this;have Q:=run_append_nil (P:=P) w t ty A i z hu hi hz a m c vs hl ae sa (by simp only[zAr]at W;omega) (by simp only[zAu]at aq;omega);refine ab (O ⟨w.heap.size,0,zc⟩) _ _ (by rw[M,zAu];exact Q) λE H C=>?_;have q:=qJF w (.cells (vs.toArray++Builtin.zeroCells z.cells (grownCap w m 0 A-m)) A);have aI:=qCE (e:=A) hzs (w:=w) (xs:=[]) (news:=vs) (n:=0) (m:=m) (cap:=0) (by simpa using aa) W;refine T.upd C q.os q.tape q.output q.size (λk R _=>q.block k R) ⟨by simpa using aI,ak⟩ (λb q=>by simp[Res.bk]at q;omega) sk
   .simp only[zAp]at L;obtain⟨rfl,_,rfl⟩:=L;by_cases an:n+m<=cap
    .have aJ:n*i.size+vs.length<=ad.size:=by rw[hl,aH,<-zBM];exact zCu _ an
     have Q:=run_append_room (P:=P) w t ty A i hu hi g n cap ad al a m c vs hl ae ao an aJ;refine ab _ _ _ (by rw[M];exact Q) λE H C=>?_;refine T.upd C rfl rfl rfl sd (λk _ R=>setRow_other w g k _ (by simpa[Res.bk]using R)) ⟨⟨aa,.inr ⟨g,cap,_,rfl,aF,setRow_heap w g ad _ A _ al,an,aG,?_,?_⟩⟩,ak⟩ (λb q=>.inl (by simpa[Res.bk]using q)) sk
     .simp only[zDw,zAq,zAN,zB2,zDm];omega
     .rw[av,<-aa];exact List.take_left
    .have aw:cap<n+m:=sa
     have aK:∀j u,cs[j]?=O u->w.cell? ((⟨g,0,zc⟩:zAH).add j)=O u:=λj u af=>by
      rw[qlA,zAu,qCB al,<-zCj];rw[<-av,zA7]at af;split at af
      .exact af
      .cases af
     have Q:=run_append_grow (P:=P) w t ty A i z hu hi hz ⟨g,0,zc⟩ n cap cs Y aK a m c vs hl ae aw (by simp only[zAr]at W;omega) (growslice_fits aw aq);refine ab _ _ _ (by rw[M];exact Q) λE H C=>?_;have q:=qJF w (.cells (cs.toArray++vs.toArray++Builtin.zeroCells z.cells (grownCap w (n+m) cap A-(n+m))) A);exact T.upd C q.os q.tape q.output q.size (λk R _=>q.block k R) ⟨qCE hzs aa W,ak⟩ (λb q=>by simp[Res.bk]at q;omega) sk
  .exact absurd ai hm
def qYS{s x}{hs}{K}(h:qSa e i.size i.bytes s x hs K){fr:Fr}{w}(A:Aq fr hs w):∃w' aj ak,(zBz #[t,t] ty #[Ae s,Ae x]).run P w=.ok (Ae aj) w'/\Aq fr ak w'/\K aj ak:=by
 rw[qSX]at h;obtain⟨m,u,h,R,U,E⟩:=qqM h A;have ad:m=0->u=[]:=λC=>by subst C;simpa using R
 split at h
 .obtain⟨⟨V,W⟩,h⟩:=h;obtain⟨id1,id2,h⟩:=qFB h;by_cases hm:m=0
  .have Y:=ad hm;subst hm;subst Y;refine⟨w,_,_,?_,A.EL (Below.refl _ _) (r:=.row id1 zc 0 0 e i.size []) ⟨World.ownsRow_nil w 0 e i.size,λD hu=>by cases hu⟩ (λb ao=>by simp[Res.bk]at ao) sk,h zc 0 λh=>absurd h sb⟩;rcases E with⟨a,c,q,H⟩|⟨c,q,_⟩
   .rw[q];simp[Ae,zBz,zN hu,sizeOf,typeInfo,hi,Builtin.lenOf,Builtin.firstCells,loadCells,loadCellsFrom]
   .rw[q];exact qAC hu hi zc 0 0 c (zG _) w
  .rcases E with⟨a,c,q,H⟩|⟨c,q,C⟩
   .obtain⟨L,M,w',B,T⟩:=qaL hu hi hz hzs (ty:=ty) A (oa:=zc) (n:=0) (cap:=0) (cs:=[]) (Ae x) sd (λj D ae=>by simp at ae) (by simpa using U) R ⟨a,c,q,H⟩ sa sa (λ_=>⟨rfl,rfl⟩) (by simpa using V) (by simpa using W) id1 id2;simp only[zAu,zB0]at B T;exact⟨w',.row id1 L m M,_,B,T,h L M (T.Lv (zAm ..))⟩
   .exact absurd C hm
 .rename_i id oa n cap _;split at h
  .rename_i L aU M aV aW cs af;obtain⟨⟨rfl,rfl,rfl,rfl,rfl⟩,⟨V,W⟩,h⟩:=h;obtain⟨id1,id2,h⟩:=qFB h;exact qFY hu hi hz hzs (K:=K) (x:=x) A rfl rfl R U E V W af h
  .exact h.elim
 .rename_i oa n cap _ _;rcases h with h|⟨b,cs,rest,⟨rfl,ag,aa,ah,ab,ap,aq,ar,au,av,aw⟩,ac⟩|⟨b,cs,rest,⟨rfl,ag,aa,ah,ab,ax,aX⟩,ac⟩
  rotate_right
  .have Q:w.heap[b]?=O (.cells ⟨cs++rest⟩ e (0,0)):=(A.AJ.2 b aa).trans ah;have ay:n*i.size+u.length<=(⟨cs++rest⟩:zR zg).size:=by simp[ab];omega
   have B:(zBz #[t,t] ty #[.slice (O ⟨b,0,zc⟩) n cap,Ae x]).run P w=.ok (.slice (O ⟨b,0,zc⟩) (n+m) cap) (w.setRow b ((cs++rest).take (n*i.size)++u++(cs++rest).drop (n*i.size+u.length)).toArray):=by
    rcases E with⟨a,c,q,H⟩|⟨c,q,C⟩
    .rw[q];exact run_append_room (P:=P) w t ty e i hu hi b n cap ⟨cs++rest⟩ Q a m c u R H U ax ay
    .have Y:=ad C;subst C;subst Y;rw[q];have:=qAC hu hi (ty:=ty) (O ⟨b,0,zc⟩) n cap c sa w;rw[this];have az:(cs++rest).take (n*i.size)++[]++(cs++rest).drop (n*i.size+([]:F zg).length)=cs++rest:=sd
     rw[az]
     have aA:w.setRow b (cs++rest).toArray=w:=by
      have aB:∀f:Obj->Obj,f (.cells ⟨cs++rest⟩ e (0,0))=.cells ⟨cs++rest⟩ e (0,0)->w.heap.modify b f=w.heap:=λf af=>by
       apply zDq;intro k;rw[Array.getElem?_modify];split
       .rename_i ai;subst ai;rw[Q];exact zK O af
       .rfl
      unfold World.setRow;rw[aB _ rfl]
     rw[aA];rfl
   have aC:(cs++rest).take (n*i.size)++u++(cs++rest).drop (n*i.size+u.length)=cs++u++rest.drop u.length:=by
    rw[<-ab,List.take_left,List.drop_append];simp
   rw[aC]at B;obtain⟨aD,aE,aF⟩:=A.J0 (w':=w.setRow b (cs++u++rest.drop u.length).toArray) ag aa rfl rfl rfl sd (setRow_heap w b _ _ e _ Q) (λk ai=>setRow_other w b k _ ai);exact⟨_,.v (.slice (O ⟨b,0,zc⟩) (n+m) cap),_,B,aF,ac aD aE⟩
  case inr.inl=>
   obtain⟨id1,id2,ac⟩:=qFB (ac _ (GW.J4 _ _));have Q:w.heap[b]?=O (.cells ⟨cs++rest⟩ e (0,0)):=(A.AJ.2 b aa).trans ah
   have aG:Aq fr ⟨hs.g.less b,.row hs.nx (O ⟨b,0,zc⟩) n cap e i.size cs::hs.rs,hs.nx,hs.lo⟩ w:=
    A.thaw (r:=.row hs.nx (O ⟨b,0,zc⟩) n cap e i.size cs) rfl ag aa ⟨⟨ab,.inr ⟨b,cap,_,rfl,zF _,Q,aq,ar,by simpa using au,by simp[<-ab]⟩⟩,ap⟩
   exact qFY hu hi hz hzs (id:=hs.nx) (hs:=⟨hs.g.less b,.row hs.nx (O ⟨b,0,zc⟩) n cap e i.size cs::hs.rs,hs.nx,hs.lo⟩) (K:=K) (x:=x) (id1:=id1) (id2:=id2) aG rfl rfl R U E av aw (by simp only[qPB,Nat.beq_refl];rfl) (λaH aI aJ=>by
    simp only[FG,Nat.beq_refl]
    exact ac aH aI aJ)
  obtain⟨cs,⟨⟨aK,L,M,al,an,aY,aL,q⟩,aM⟩,aN,aO⟩:=h;simp only[zAp,zBL]at al;obtain⟨rfl,rfl⟩:=al;by_cases hm:m=0
  .have Y:=ad hm;subst hm;subst Y;refine⟨w,_,_,?_,A,aN rfl⟩;rcases E with⟨a,c,q,H⟩|⟨c,q,_⟩
   .rw[q];simp[Ae,zBz,zN hu,sizeOf,typeInfo,hi,Builtin.lenOf,Builtin.firstCells,loadCells,loadCellsFrom,an];cases oa<;>simp[storeCells]
   .rw[q];exact qAC hu hi oa n cap c an w
  .obtain⟨⟨Q,V,W⟩,h⟩:=aO sa;obtain⟨id1,id2,h⟩:=qFB h;rcases E with⟨a,c,aP,H⟩|⟨c,q,C⟩
   .have aQ:∀D∈cs++u,D.oneCell'=I:=λD hu=>by
     rcases zL.1 hu with hu|hu
     .exact aM D hu
     .exact U D hu
    obtain⟨L,M,w',B,T⟩:=qaL hu hi hz hzs (ty:=ty) A (Ae x) aK (λj D ae=>by obtain⟨aR,aT,B⟩:=q j D ae;exact⟨aR,aT,B.at A.AJ⟩) aQ R ⟨a,c,aP,H⟩ sa Q aL V W id1 id2;exact⟨w',.row id1 L (n+m) M,_,B,T,h L M (T.Lv (zAm ..))⟩
   .exact absurd C hm
 .exact h.elim
def qQV{s x}{hs}{K}(h:Lg e i.size i.bytes s x hs K){fr:Fr}{w}(q:Aq fr hs w):∃w' u A,(zBz #[t,t] ty #[Ae s,Ae x]).run P w=.ok (Ae u) w'/\Aq fr A w'/\K u A:=by
 obtain⟨E,h,q⟩:=qjJ _ _ _ _ _ h q;obtain⟨H,h,q⟩:=qjJ _ _ _ _ _ h q;obtain⟨L,M,B,C,D⟩:=qXS h q;rw[<-C];exact qYS hu hi hz hzs B D
end
def qvU{d s}{hs}{K}(h:Lc d s hs K){P}{t t' ty e}(hu:P.underlying t=O (.slice e))(ai:qQB P e=O 1){fr:Fr}{w}(D:Aq fr hs w):∃w' Y aa,(Builtin.copy_ #[t,t'] ty #[Ae d,Ae s]).run P w=.ok (Ae Y) w'/\Aq fr aa w'/\K Y aa:=by
 obtain⟨m,C,aj,Q,R,ab⟩:=qqM h D;clear h;revert aj;intro h;rw[zCb]at Q;have ac:(P.info? e).map (·.size)=O 1:=ai;split at h
 .rename_i id aC n cap;split at h
  .rename_i aD aE aF ad sz cs ae;obtain⟨⟨rfl,rfl,rfl,rfl,hm,aG⟩,h⟩:=h;obtain⟨aH,aI,ak,E⟩:=qcC h ae;obtain⟨⟨af,al⟩,an⟩:=D.Fw ae;rw[zCb]at af;rcases al with⟨T,rfl⟩|⟨g,aJ,M,T,ao,H,ap,aq,ar,au⟩
   .simp at af;omega
   .simp only[zAp,zAk]at T;obtain⟨rfl,_,rfl⟩:=T;rcases ab with⟨a,c,U,V⟩|⟨c,_,av⟩
    rotate_left
    .omega
    rw[zCb]at ar;have q:(C.take (min m n)).length=min m n:=by rw[zAN,Q];omega
    have aK:min m n<=M.size:=sa
    have L:=run_copy_row (P:=P) w t t' ty e g 0 n cap a m c M ad (C.take (min m n)) hu ac H q (λj u A=>by
     rw[zA7]at A;split at A
     .exact V j u A
     .cases A) (by rw[q];omega) (λu B=>R u (zBD B))
    rw[q]at L;refine⟨_,.v (.int .i64 ((min m n:Z):zn)),_,by rw[U];exact L,?_,E⟩;have aw:M.toList.take n=cs:=by rw[<-au,zCb]
    refine D.upd ak rfl rfl rfl sd (λk _ E=>setRow_other w g k _ (by simpa[Res.bk]using E)) ⟨⟨?_,.inr ⟨g,cap,_,rfl,ao,setRow_heap w g M _ ad _ H,ap,aq,?_,?_⟩⟩,λu B=>?_⟩ (λb W=>.inl (by simpa[Res.bk]using W)) sk
    .rw[zAq,q,zB2];omega
    .simp[q];omega
    .have aL:(C.take (min m n)++cs.drop (min m n)).length=n:=by rw[zAq,q,zB2];omega
     simp only[List.take_zero,zB0,zAu,zCb];rw[List.take_append,q,<-aw,zCK,zAw (by rw[q];omega)]
    .rcases zL.1 B with B|B
     .exact R u (zBD B)
     .exact an u (zCt B)
  .exact h.elim
 .rename_i a n cap;obtain⟨b,cs,ag,⟨rfl,ax,ah,W,ay,hm⟩,h⟩:=h;rcases ab with⟨a,c,U,V⟩|⟨c,_,av⟩
  rotate_left
  .omega
  have q:(C.take (min m n)).length=min m n:=by rw[zAN,Q];omega
  have H:=(D.AJ.2 b ah).trans W
  have L:=run_copy_row (P:=P) w t t' ty e b 0 n cap a m c ⟨cs⟩ ag (C.take (min m n)) hu ac H q (λj u A=>by
   rw[zA7]at A;split at A
   .exact V j u A
   .cases A) (by rw[q];simpa using ay) (λu B=>R u (zBD B))
  rw[q]at L;obtain⟨az,aA,aB⟩:=D.J0 (w':=w.setRow b ((⟨cs⟩:zR zg).toList.take 0++C.take (min m n)++(⟨cs⟩:zR zg).toList.drop (0+min m n)).toArray) ax ah rfl rfl rfl sd (setRow_heap w b ⟨cs⟩ _ ag _ H) (λk E=>setRow_other w b k _ E);refine⟨_,.v (.int .i64 ((min m n:Z):zn)),_,by rw[U];exact L,aB,h az ?_⟩;simpa using aA
 .exact h.elim
def q9S{size}{x y}{hs}{K}(h:Kn size x y hs K){P}{t}(q:qQB P t=O size){fr:Fr}{w}(u:Aq fr hs w):∃w' A,(Instr.storeAt t (Ae x) (Ae y)).run P w=.ok () w'/\Aq fr A w'/\K (.v zAX) A:=by
 unfold Kn at h;split at h
 .exact qVJ h q u
 .obtain⟨D,B,C⟩:=qaT h u;exact qVJ B q C
def qON{q:KyT}{hs:Hs}{K:SV->Hs->Prop}(h:K6 q hs K){P:zt}{t B:zAy}(C:HS P t=O (q,B)){a:zDN}{r:zs Operand}(u:qqQ r=I){fr:Fr}{w:zp}(D:Aq fr hs w):∃w' s A,(Instr.makeMap t (r.map a.eval)).run P w=.ok (Ae s) w'/\Below w.heap.size w w'/\Aq fr A w'/\K s A:=by
 obtain⟨R,hu,T⟩:=qjH C;obtain⟨E,H,L,M⟩:=hs;obtain⟨i,j,h⟩:=qFB (show qEC L λi j=>∀r,K (.mp i r) ⟨E,.mp i r q []::H,j,M⟩from h);refine⟨_,.mp i w.heap.size,_,?_,Below.AU w (.map #[] 0),D.EL (Below.AU w (.map #[] 0)) (r:=.mp i w.heap.size q []) ⟨World.alloc_heap_new w _,rfl⟩ (λb Q=>by simp[Res.bk]at Q;omega) sk,h w.heap.size⟩;cases r with
 |none=>rfl
 |some x=>
  cases x with
  |const v=>
   cases v with
   |int k n=>simp[Instr.makeMap,Act.eval,zN hu,asInt,asIntOf,newObj,Ae];rfl
   |_=>simp[qqQ]at u
  |_=>simp[qqQ]at u
def qMN{C}{x k v}{hs}{K}(h:Iv C x k v hs K){P}{t R}(T:HS P t=O (C,R)){fr:Fr}{w}(D:Aq fr hs w):∃w' E,(Instr.mapUpdate t (Ae x) (Ae k) (Ae v)).run P w=.ok () w'/\Aq fr E w'/\K (.v zAX) E:=by
 obtain⟨ae,hu,u⟩:=qjH T;obtain⟨U,H,L,A⟩:=hs;unfold Iv at h;simp only at h;split at h
 .rename_i id r;split at h
  .rename_i n V;obtain⟨W,M⟩:=qHJ V;split at h
   .rename_i af B es Y;obtain⟨⟨rfl,_,aa⟩,h⟩:=h;obtain rfl:=q0J aa;have h:=qvC _ h;obtain⟨ag,ah,A,ab⟩:=qdC h Y;obtain⟨q,Q⟩:=D.res (.mp id r B es) (by show _∈H;rw[A];simp);obtain⟨ac,ad⟩:=Go.MapKept.heap_set (o':=.map ⟨mkE B 0 (BT n (Ae v) es)⟩ (BT n (Ae v) es).length) q;rw[W];refine⟨_,_,qBI hu u q Q M (Ae v),?_,ab⟩;exact D.upd (hs:=⟨U,H,L,_⟩) (r1:=.mp id r B (BT n (Ae v) es)) (nx:=L) A rfl rfl rfl sd (λk _ u=>ad k (by simpa[Res.bk]using u)) ⟨ac,qSN M Q⟩ (λb q=>.inl (by simpa[Res.bk]using q)) sk
   .exact h.elim
  .exact h.elim
 .exact h.elim
def Aq.Kw{fr:Fr}{B}{u D E}{A hl}{id r}{h}{es q}{w}(H:Aq fr ⟨B,u,A,hl⟩ w)(e:u=D++.mp id r h es::E)(L:h.fits q=I):Aq fr ⟨B,D++.mp id r h q::E,A,hl⟩ {w with heap:=w.heap.setIfInBounds r (.map ⟨mkE h 0 q⟩ q.length)}:=by
 obtain⟨C,T⟩:=H.res (.mp id r h es) (by show _∈u;rw[e];simp);obtain⟨M,Q⟩:=Go.MapKept.heap_set (o':=.map ⟨mkE h 0 q⟩ q.length) C;exact H.upd (hs:=⟨B,u,A,_⟩) (r1:=.mp id r h q) (nx:=A) e rfl rfl rfl sd (λk _ R=>Q k (by simpa[Res.bk]using R)) ⟨M,L⟩ (λb C=>.inl (by simpa[Res.bk]using C)) sk
def qOU{L}{z}{x k}{hs}{K}(h:Ku L z x k hs K){P}{t M}(V:HS P t=O (L,M))(hz:(P.info? M).bind (·.zero)=O z){fr:Fr}{w}(A:Aq fr hs w):∃w' s Q,(Instr.mapEntry t (Ae x) (Ae k)).run P w=.ok (Ae s) w'/\Aq fr Q w'/\K s Q:=by
 obtain⟨ag,hu,W⟩:=qjH V;obtain⟨ah,Y,ai,aj⟩:=hs;unfold Ku at h;simp only at h;split at h
 .rename_i id r;split at h
  .rename_i n aa;obtain⟨R,T⟩:=qHJ aa;split at h
   .rename_i ak ab es B;obtain⟨⟨rfl,_,ac⟩,o,U,h⟩:=h;obtain rfl:=q0J ac;obtain⟨al,an,hm⟩:=q0F B;obtain⟨ad,C⟩:=A.res (.mp id r ab es) (by show _∈Y;rw[hm];simp);have q:=qzI hu W ad C T hz;rw[U]at q;subst U;cases u:Bs n es with
    |some v=>
     rw[u]at h q;obtain⟨ae,af,D,E⟩:=qdC h B;have H:IY n z es=es:=by unfold IY;rw[u]
     rw[H]at q;rw[R];exact⟨_,.v (.tuple ⟨[v,.int .i64 (mIx n es)]⟩),_,by simpa only[Ae,zAM]using q,A.Kw D C,E⟩
    |none=>
     rw[u]at h q;obtain⟨ae,af,D,E⟩:=qdC h B;have H:IY n z es=es++[(n,z)]:=by unfold IY;rw[u]
     rw[H]at q;rw[R];exact⟨_,.v (.tuple ⟨[z,.int .i64 es.length]⟩),_,by simpa only[Ae,Option.getD_none]using q,A.Kw D (qyQ T C),E⟩
   .exact h.elim
  .exact h.elim
 .exact h.elim
def qlU{x s v}{hs}{K}(h:J5 x s v hs K){P}{t}{fr:Fr}{w}(q:Aq fr hs w):∃w' u,(Instr.entryStore t (Ae x) (Ae s) (Ae v)).run P w=.ok () w'/\Aq fr u w'/\K (.v zAX) u:=by
 obtain⟨R,B,T,U⟩:=hs;unfold J5 at h;simp only at h;split at h
 .rename_i id r;split at h
  .rename_i k V;split at h
   .rename_i j;split at h
    .rename_i W C es D;obtain⟨⟨rfl,E,H⟩,h⟩:=h;obtain rfl:=q7E E;have h:=qvC _ h;obtain⟨Y,aa,A,L⟩:=qdC h D;obtain⟨M,Q⟩:=q.res (.mp id r C es) (by show _∈B;rw[A];simp);exact⟨_,_,qVH M (Nat.blt_eq.mp H) (Ae v),q.Kw A (qTN Q),L⟩
    .exact h.elim
   .exact h.elim
  .exact h.elim
 .exact h.elim
end Go.Proofs.YtlmhpamhhgogaaaGreat.Sx
namespace Go.Proofs.YtlmhpamhhgogaaaGreat.Sx
section
variable{P:zt}
def qHA{h:Type}(a:h):(pure a:Sem h).Calm P:=trivial
def qEA{q u:Type}{s:Sem q}{f:q->Sem u}(h:s.Calm P)(k:∀a,(f a).Calm P):(s>>=f).Calm P:=Calm.bind h k
def q8D{q u:Type}{s:Sem q}{f:q->u}(h:s.Calm P):(Functor.map f s).Calm P:=by rw[map_eq_pure_bind];exact qEA h λ_=>trivial
def q5A{q:Type}{f:zt->Sem q}(h:(f P).Calm P):(program>>=f).Calm P:=h
def qFD(a)(m:Mode):(load a m).Calm P:=λ_=>trivial
def qxC(a)(v)(m:Mode):(store a v m).Calm P:=trivial
def q7A(r):(getObj r).Calm P:=λ_=>trivial
def qKB(r)(o):(setObj r o).Calm P:=trivial
def qLB(o):(newObj o).Calm P:=λ_=>trivial
def qdD(r):(shape r).Calm P:=λ_=>trivial
def qWC(a):(frozen a).Calm P:=λ_=>trivial
def qZB(q:Question):(choose q).Calm P:=λ_=>trivial
def qRA{h:Type}(s:String):(stuck s:Sem h).Calm P:=trivial
def qbA{h:Type}(u:Unsupported):(unsupported u:Sem h).Calm P:=trivial
def qbC{h:Type}(v):(goPanic v:Sem h).Calm P:=trivial
def q9B(n):(askRoom n).Calm P:=by
 unfold askRoom;split
 .exact⟨sd,sd,trivial⟩
 .trivial
def IA{p:Prop}(h:p:=by
 repeat' with_reducible first
  |exact qHA .. |exact qRA .. |exact qbA .. |exact qbC .. |exact qFD .. |exact qxC .. |exact q7A .. |exact qKB .. |exact qLB .. |exact qdD .. |exact q .. |exact qWC .. |exact qZB .. |exact q9B ..
  |refine q5A ?_|refine qEA ?_ λ_=>?_|refine q8D ?_|split|(intro _)|dsimp only|trivial):p:=h
def qKA(t):(underlying t).Calm P:=by unfold underlying;exact IA
def qnA(t):(typeInfo t).Calm P:=by unfold typeInfo;exact IA
def qyA(t):(sizeOf t).Calm P:=by unfold sizeOf;exact qEA (qnA t) λ_=>trivial
def qmE(t):(isAgg t).Calm P:=by unfold isAgg;exact qEA (qKA t) λ_=>IA
def qDB(t):(zAZ t).Calm P:=by unfold zAZ;exact qEA (qnA t) λ_=>IA
def qAE(a):∀(n i:Z)(h:zR zg),(loadCellsFrom a i n h).Calm P
 |0,_,_=>trivial
 |n+1,i,h=>qEA (qFD _ _) λ_=>qAE a n _ _
def qyB(a)(n):(loadCells a n).Calm P:=qAE a n 0 #[]
def q4A(a):∀(l:F zg)(i:Z),(storeCells a l i).Calm P
 |[],_=>trivial
 |_::l,i=>qEA (qxC _ _ _) λ_=>q4A a l _
def qvD(t):(elemOf t).Calm P:=by unfold elemOf;exact qEA (qKA t) λ_=>IA
def qVC(t)(c):(newRow t c).Calm P:=by unfold newRow;exact IA
def qtD(t)(v):(newVar t v).Calm P:=qVC _ _
def GV{p:Prop}(h:p:=by
 repeat' with_reducible first
  |exact qHA .. |exact qRA .. |exact qbA .. |exact qbC .. |exact qFD .. |exact qxC .. |exact q7A .. |exact qKB .. |exact qLB .. |exact qdD .. |exact q .. |exact qWC .. |exact qZB .. |exact q9B .. |exact qKA .. |exact qnA .. |exact qyA .. |exact qmE .. |exact qDB .. |exact qyB .. |exact q4A .. |exact qvD .. |exact qVC .. |exact qtD ..
  |refine q5A ?_|refine qEA ?_ λ_=>?_|refine q8D ?_|split|(intro _)|dsimp only|trivial):p:=h
def qQA{h:Type}(e:RuntimeError):(runtimePanic e:Sem h).Calm P:=by unfold runtimePanic;exact GV
def qTC{h:Type}(k)(x y)(c:BoundsCode):(boundsPanic k x y c:Sem h).Calm P:=by
 unfold boundsPanic;dsimp only;split
 .exact qEA (q8D (qZB _)) λ_=>qQA _
 .exact qEA trivial λ_=>qQA _
def qGD(v):(asIntOf v).Calm P:=by unfold asIntOf;exact IA
def qyC(v):(asInt v).Calm P:=qEA (qGD v) λ_=>trivial
def qzC(v):(asBool v).Calm P:=by unfold asBool;exact IA
def qbG(v):(asAgg v).Calm P:=by unfold asAgg;exact IA
def qwD(v):(asAddr v).Calm P:=by unfold asAddr;split<;>first|trivial|exact qQA _
def q9D(t)(a):(loadVar t a).Calm P:=by unfold loadVar;exact GV
def qSD(t)(a)(v):(storeVar t a v).Calm P:=by unfold storeVar;exact GV
def qED(t)(cs)(off):(part t cs off).Calm P:=by unfold part;exact GV
def qsD(r):(viewAt r).Calm P:=by unfold viewAt;exact GV
def qlC(r):(numberAt r).Calm P:=by unfold numberAt;exact GV
def qEF(a):(noView a).Calm P:=by unfold noView;refine qEA (qsD _) λ_=>?_;exact GV
def qEB(a):(behindNumber a).Calm P:=by unfold behindNumber;refine qEA (qlC _) λ_=>?_;exact GV
def qXD(a)(b):(asNumber a b).Calm P:=by unfold asNumber;exact GV
def qxB(a):(stringish a).Calm P:=by unfold stringish;exact GV
def qTD(a b):(mayBeOne a b).Calm P:=by
 unfold mayBeOne;refine qEA (qxB _) λ_=>qEA (qxB _) λ_=>?_;exact GV
def qaC(t):(typeStr t).Calm P:=by unfold typeStr;exact GV
def Nq{p:Prop}(h:p:=by
 repeat' with_reducible first
  |exact qHA .. |exact qRA .. |exact qbA .. |exact qbC .. |exact qFD .. |exact qxC .. |exact q7A .. |exact qKB .. |exact qLB .. |exact qdD .. |exact q .. |exact qWC .. |exact qZB .. |exact q9B .. |exact qKA .. |exact qnA .. |exact qyA .. |exact qmE .. |exact qDB .. |exact qyB .. |exact q4A .. |exact qvD .. |exact qVC .. |exact qtD .. |exact qQA .. |exact qTC .. |exact qGD .. |exact qyC .. |exact qzC .. |exact u .. |exact qbG .. |exact qwD .. |exact q9D .. |exact qSD .. |exact qED .. |exact qsD .. |exact qlC .. |exact qEF .. |exact qEB .. |exact qXD .. |exact qxB .. |exact w .. |exact qTD .. |exact qaC ..
  |refine q5A ?_|refine qEA ?_ λ_=>?_|refine q8D ?_|split|(intro _)|dsimp only|trivial):p:=h
def qkC(a b):(sameAddr a b).Calm P:=by unfold sameAddr;exact Nq
def qSC(a b):(samePointer a b).Calm P:=by unfold samePointer;split<;>first|exact qkC .. |trivial
def qHF(a):(byteOf a).Calm P:=by unfold byteOf;exact Nq
end
section
variable{P:zt}
def HV{p:Prop}(h:p:=by
 repeat' with_reducible first
  |exact qHA .. |exact qRA .. |exact qbA .. |exact qbC .. |exact qFD .. |exact qxC .. |exact q7A .. |exact qKB .. |exact qLB .. |exact qdD .. |exact q .. |exact qWC .. |exact qZB .. |exact q9B .. |exact qKA .. |exact qnA .. |exact qyA .. |exact qmE .. |exact qDB .. |exact qyB .. |exact q4A .. |exact qvD .. |exact qVC .. |exact qtD .. |exact qQA .. |exact qTC .. |exact qGD .. |exact qyC .. |exact qzC .. |exact u .. |exact qbG .. |exact qwD .. |exact q9D .. |exact qSD .. |exact qED .. |exact qsD .. |exact qlC .. |exact qEF .. |exact qEB .. |exact qXD .. |exact qxB .. |exact w .. |exact qTD .. |exact qaC .. |exact qkC .. |exact qSC .. |exact qHF ..
  |refine q5A ?_|refine qEA ?_ λ_=>?_|refine q8D ?_|split|(intro _)|dsimp only|trivial):p:=h
def q2H{q u:Type}{f:q->Sem u}(h:∀a,(f a).Calm P):∀l:F q,(l.mapM f).Calm P
 |[]=>by rw[List.mapM_nil];exact qHA _
 |a::l=>by
  rw[zC5];exact qEA (h a) λ_=>qEA (q2H h l) λ_=>trivial
def qvN{q u:Type}{f:q->Sem u}(h:∀a,(f a).Calm P)(l:zR q):(l.mapM f).Calm P:=by
 rw[zCr];exact q8D (q2H h _)
def qLE{u q:Type}{f:u->q->Sem (ForInStep q)}(h:∀a b,(f a b).Calm P):∀(l:F u)(b:q),(forIn l b f).Calm P
 |[],b=>by rw[List.forIn_nil];exact qHA _
 |a::l,b=>by
  rw[List.forIn_cons];refine qEA (h a b) λs=>?_;cases s with
  |done b=>exact qHA _
  |yield b=>exact qLE h l b
def qnE{u q:Type}{f:u->q->Sem (ForInStep q)}(h:∀a b,(f a b).Calm P)(l:zR u)(b:q):(forIn l b f).Calm P:=by
 rw[<-Array.forIn_toList];exact qLE h _ b
def qFF{q:Type}{f:Z->q->Sem (ForInStep q)}(h:∀a b,(f a b).Calm P)(r:Std.Legacy.Range)(b:q):(forIn r b f).Calm P:=by
 rw[Std.Legacy.Range.forIn_eq_forIn_range'];exact qLE h _ b
def q8F{u q:Type}{f:q->u->Sem q}(h:∀b a,(f b a).Calm P):∀(l:F u)(b:q),(l.foldlM f b).Calm P
 |[],b=>by rw[List.foldlM_nil];exact qHA _
 |a::l,b=>by rw[List.foldlM_cons];exact qEA (h b a) λ_=>q8F h l _
def qrG(t)(x y):(Builtin.unsafeAdd_ #[] t #[x,y]).Calm P:=by
 unfold Builtin.unsafeAdd_;cases x
 case pointer p=>
  show Sem.Calm P (asInt y>>=_);exact HV
 all_goals exact trivial
def qPP(a)(c b):(partAt a c b).Calm P:=by unfold partAt;exact HV
def quD(op)(k:FloatKind)(x y):(Op.floatArith op k x y).Calm P:=by unfold Op.floatArith;exact HV
def qGF(op)(k:FloatKind)(x y):(Op.floatCmp op k x y).Calm P:=by unfold Op.floatCmp;exact HV
def qoE(s:FloatKind)(b)(d:FloatKind):(Conv.floatToFloat s b d).Calm P:=by unfold Conv.floatToFloat;exact HV
def qsG(a b):(Op.twoPlaces a b).Calm P:=by unfold Op.twoPlaces;exact HV
def qCF(v):(Instr.sureAddr v).Calm P:=by unfold Instr.sureAddr;exact HV
def qBG(a)(f:Field):(fieldPlace a f).Calm P:=by
 unfold fieldPlace;refine qEA (qyA _) λ_=>?_;split
 .exact qPP ..
 .trivial
def qaG(v):(Builtin.lenOf v).Calm P:=by unfold Builtin.lenOf;exact HV
def qmC(s n)(v):(Builtin.firstCells s n v).Calm P:=by unfold Builtin.firstCells;exact HV
def q7F(v)(y)(c:BoundsCode):(Instr.sliceBound v y c).Calm P:=by unfold Instr.sliceBound;exact HV
def Gr{p:Prop}(h:p:=by
 repeat' with_reducible first
  |exact qHA .. |exact qRA .. |exact qbA .. |exact qbC .. |exact qFD .. |exact qxC .. |exact q7A .. |exact qKB .. |exact qLB .. |exact qdD .. |exact q .. |exact qWC .. |exact qZB .. |exact q9B .. |exact qKA .. |exact qnA .. |exact qyA .. |exact qmE .. |exact qDB .. |exact qyB .. |exact q4A .. |exact qvD .. |exact qVC .. |exact qtD .. |exact qQA .. |exact qTC .. |exact qGD .. |exact qyC .. |exact qzC .. |exact u .. |exact qbG .. |exact qwD .. |exact q9D .. |exact qSD .. |exact qED .. |exact qsD .. |exact qlC .. |exact qEF .. |exact qEB .. |exact qXD .. |exact qxB .. |exact w .. |exact qTD .. |exact qaC .. |exact qkC .. |exact qSC .. |exact qHF .. |exact qrG .. |exact quD .. |exact qGF .. |exact qsG .. |exact qoE .. |exact qCF .. |exact qBG .. |exact qaG .. |exact qmC .. |exact q7F ..
  |refine q5A ?_|refine qEA ?_ λ_=>?_|refine q8D ?_|split|(intro _)|dsimp only|trivial):p:=h
def qcG(op)(k:FloatKind)(x y):(Op.Complex.arith op k x y).Calm P:=by unfold Op.Complex.arith;exact Gr
def qFR(op)(k:FloatKind)(x y):(Op.Complex.cmp op k x y).Calm P:=by unfold Op.Complex.cmp;exact Gr
def q6U(s:FloatKind)(x)(d:FloatKind):(Op.Complex.conv s x d).Calm P:=by unfold Op.Complex.conv;exact Gr
def quN(a b c d):(Op.Complex.product a b c d).Calm P:=by
 unfold Op.Complex.product Op.Complex.sub Op.Complex.mul Op.Complex.add
 repeat' first|exact qcG .. |refine qEA ?_ λ_=>?_|exact trivial
def qnK(s a b c d):(Op.Complex.corrected s a b c d).Calm P:=by
 unfold Op.Complex.corrected Op.Complex.sub Op.Complex.mul Op.Complex.add
 repeat' first|exact qcG .. |refine qEA ?_ λ_=>?_|exact trivial
def qWM(a b c d):(Op.Complex.quotient a b c d).Calm P:=by
 unfold Op.Complex.quotient Op.Complex.sub Op.Complex.mul Op.Complex.add Op.Complex.quo
 repeat' with_reducible first|exact qcG .. |exact qFR .. |exact qnK .. |exact qHA .. |refine qEA ?_ λ_=>?_|split|dsimp only
def qoK(op)(k:FloatKind)(a b c d):(Op.complexOp op k a b c d).Calm P:=by
 unfold Op.complexOp
 repeat' with_reducible first|exact qcG .. |exact qFR .. |exact q6U .. |exact quN .. |exact qWM .. |exact qHA .. |exact qRA .. |refine qEA ?_ λ_=>?_|split|dsimp only
def q5I(t)(x y):(movedNumber t x y).Calm P:=by unfold movedNumber;exact Gr
def qTI(t)(x y):(movedPointer t x y).Calm P:=by unfold movedPointer;exact Gr
def q4N(k)(a b):(Op.addrSub k a b).Calm P:=by unfold Op.addrSub;exact Gr
def q6N(op)(a b):(Op.addrCmp op a b).Calm P:=by unfold Op.addrCmp;exact Gr
def q5N(k)(a)(n):(Op.addrMod k a n).Calm P:=by unfold Op.addrMod;exact Gr
def qQS(op)(k)(x)(h)(y):(Op.shift op k x h y).Calm P:=by unfold Op.shift;exact Gr
def q3H(op)(k)(x y):(Op.intArith op k x y).Calm P:=by unfold Op.intArith;exact Gr
def qTP(op)(k)(x y):(Op.intDiv op k x y).Calm P:=by unfold Op.intDiv;exact Gr
def qsI(op)(k)(x y):(Op.intBits op k x y).Calm P:=by unfold Op.intBits;exact Gr
def qUP(op)(x y):(Op.intCmp op x y).Calm P:=by unfold Op.intCmp;exact Gr
def qDF(op)(x y):(Op.stringOp op x y).Calm P:=by unfold Op.stringOp;exact Gr
def qtI:∀(d:Z)(t:zAy)(x y:zg),(zDW d t x y).Calm P
 |0,_,_,_=>trivial
 |d+1,t,x,y=>by
  have h:=qtI d;unfold zDW;refine qEA (qKA t) λq=>?_;split<;>repeat' with_reducible first|exact h .. |exact qHA .. |exact qRA .. |exact qbA .. |exact qEB .. |exact qHF .. |exact qnA .. |exact qkC .. |exact qSC .. |exact qyA .. |exact qZB .. |exact qQA .. |exact qaC .. |exact qED .. |refine q5A ?_|refine qnE (λ_ _=>?_) .. |refine qFF (λ_ _=>?_) .. |refine qEA ?_ λ_=>?_|split|dsimp only
def qUI(t)(x y):(Op.equal t x y).Calm P:=qtI ..
def qvG:∀(d:Z)(t:zAy)(x y:zg),(Op.eqGuardIn d t x y).Calm P
 |0,_,_,_=>trivial
 |d+1,t,x,y=>by
  have h:=qvG d;unfold Op.eqGuardIn;refine qEA (qKA t) λq=>?_;split<;>repeat' with_reducible first|exact h .. |exact qHA .. |exact qyA .. |exact qED .. |refine qnE (λ_ _=>?_) .. |refine qFF (λ_ _=>?_) .. |refine qEA ?_ λ_=>?_|split|dsimp only
def quI(op)(t)(x y)(a b):(eqGuard op t x y a b).Calm P:=by
 unfold eqGuard
 repeat' with_reducible first|exact qvG .. |exact qHA .. |exact qbA .. |refine q5A ?_|refine qEA ?_ λ_=>?_|split|dsimp only
def qXL(op)(t)(x y):(binOp op t x y).Calm P:=by
 unfold binOp;split<;>repeat' with_reducible first|exact qQS .. |exact q3H .. |exact qTP .. |exact qsI .. |exact qUP .. |exact quD .. |exact qGF .. |exact qoK .. |exact qDF .. |exact qUI .. |exact qTI .. |exact q5I .. |exact q4N .. |exact q6N .. |exact q5N .. |exact qEB .. |exact qKA .. |exact qRA .. |exact qbA .. |exact qHA .. |refine qEA ?_ λ_=>?_|split|dsimp only
end
section
variable{P:zt}
def DM{p:Prop}(h:p:=by
 repeat' with_reducible first
  |exact qHA .. |exact qRA .. |exact qbA .. |exact qbC .. |exact qFD .. |exact qxC .. |exact q7A .. |exact qKB .. |exact qLB .. |exact qdD .. |exact q .. |exact qWC .. |exact qZB .. |exact q9B .. |exact qKA .. |exact qnA .. |exact qyA .. |exact qmE .. |exact qDB .. |exact qyB .. |exact q4A .. |exact qvD .. |exact qVC .. |exact qtD .. |exact qQA .. |exact qTC .. |exact qGD .. |exact qyC .. |exact qzC .. |exact u .. |exact qbG .. |exact qwD .. |exact q9D .. |exact qSD .. |exact qED .. |exact qsD .. |exact qlC .. |exact qEF .. |exact qEB .. |exact qXD .. |exact qxB .. |exact w .. |exact qTD .. |exact qaC .. |exact qkC .. |exact qSC .. |exact qHF .. |exact qrG .. |exact quD .. |exact qGF .. |exact qsG .. |exact qoE .. |exact qCF .. |exact qBG .. |exact qaG .. |exact qmC .. |exact q7F .. |exact quI .. |exact qXL .. |exact qUI .. |exact q3H .. |exact qsI .. |exact qDF ..
  |refine q5A ?_|refine qEA ?_ λ_=>?_|refine q8D ?_|refine qnE (λ_ _=>?_) .. |refine qFF (λ_ _=>?_) .. |refine qvN (λ_=>?_) .. |split|(intro _)|dsimp only|trivial):p:=h
def qWB{q:Type}{t}{d:TypeDesc}{f:TypeDesc->Sem q}(h:P.underlying t=O d)(k:(f d).Calm P):(underlying t>>=f).Calm P:=by
 have:(underlying t).bind f=.program λp=>(match p.underlying t with|some d=>(pure d:Sem TypeDesc)|none=>stuck "no such type").bind f:=rfl;show Sem.Calm P ((underlying t).bind f);rw[this];show Sem.Calm P ((match P.underlying t with|some d=>(pure d:Sem TypeDesc)|none=>stuck "no such type").bind f);rw[h];exact k
def qNX{q:Type}{c:Prop}[Decidable c]{a b:Sem q}(h:a.Calm P)(k:b.Calm P):(if c then a else b).Calm P:=by split<;>assumption
def qRC(b)(l c)(lo h q):(Instr.sliceBounds b l c lo h q).Calm P:=by unfold Instr.sliceBounds;exact DM
def qUS(t)(b)(v):(Instr.alloc t b v).Calm P:=by unfold Instr.alloc;exact DM
def qOX(t)(v):(Instr.box t v).Calm P:=by unfold Instr.box;exact DM
def qTS(t)(ps):(Instr.build t ps).Calm P:=by unfold Instr.build;exact DM
def qPK(t)(n)(ps):(Instr.buildSlice t n ps).Calm P:=by unfold Instr.buildSlice;exact DM
def qSP(t)(v):(zBv t v).Calm P:=by unfold zBv;exact DM
def qsN(t)(v x):(Instr.storeAt t v x).Calm P:=by unfold Instr.storeAt;exact DM
def qyN(t)(v)(f):(Instr.fieldAt t v f).Calm P:=by unfold Instr.fieldAt;exact DM
def qxN(t)(v i):(Instr.indexAt t v i).Calm P:=by unfold Instr.indexAt;exact DM
def qPS(t)(x)(lo h q):(Instr.slice t x lo h q).Calm P:=by
 unfold Instr.slice;refine qEA (qKA _) λ_=>?_;split
 .repeat' with_reducible first|exact qRC .. |exact qRA .. |exact qHA .. |refine qEA ?_ λ_=>?_|split|dsimp only
 .repeat' with_reducible first|exact qRC .. |exact qyA .. |exact qHA .. |refine qEA ?_ λ_=>?_|split|dsimp only
 .repeat' with_reducible first|exact qRC .. |exact qyA .. |exact qwD .. |exact qKA .. |exact qHA .. |exact qRA .. |refine qEA ?_ λ_=>?_|split|dsimp only
 .exact qRA _
def qtN(t)(x)(lo h q):(Instr.sliceAt t x lo h q).Calm P:=by
 unfold Instr.sliceAt;refine qEA (qKA _) λ_=>?_;split
 .repeat' with_reducible first|exact qRC .. |exact qyA .. |exact qCF .. |exact qHA .. |refine qEA ?_ λ_=>?_|split|dsimp only
 .exact qPS ..
def qSS(t)(x)(f):(Instr.field t x f).Calm P:=by unfold Instr.field;exact DM
def qRS(t)(x i):(Instr.index t x i).Calm P:=by unfold Instr.index;exact DM
def qzN(x)(i):(Instr.extract x i).Calm P:=by unfold Instr.extract;exact DM
def qkK(t)(l c):(Instr.makeSlice t l c).Calm P:=by unfold Instr.makeSlice;exact DM
def qwN(t)(r):(Instr.makeMap t r).Calm P:=by unfold Instr.makeMap;exact DM
def qOS(op:UnOp)(x):(Op.unary op x).Calm P:=by unfold Op.unary;exact DM
def qVD(e):∀(n:Z)(t:zAy)(v:zg),(Instr.checkKey e n t v).Calm P
 |0,_,_=>trivial
 |n+1,t,v=>by
  have h:=qVD e n;unfold Instr.checkKey;refine qEA (qKA t) λq=>?_;split<;>repeat' with_reducible first|exact h .. |exact qHA .. |exact qRA .. |exact qnA .. |exact qyA .. |exact qQA .. |exact qaC .. |exact qED .. |refine qnE (λ_ _=>?_) .. |refine qFF (λ_ _=>?_) .. |refine qEA ?_ λ_=>?_|split|dsimp only
def qAG(t)(k):∀(l:F MapEntry)(i:Z),(Instr.findAsking t k l i).Calm P
 |[],_=>trivial
 |e::l,i=>by
  unfold Instr.findAsking;refine qEA (qUI ..) λb=>?_;split
  .trivial
  .exact qAG t k l _
def q9F(t)(k)(l):(Instr.findKey t k l).Calm P:=by
 unfold Instr.findKey;refine qEA (qKA t) λh=>?_;split
 .trivial
 .exact qAG ..
def qlE(a b):(Instr.keyThatStays a b).Calm P:=by unfold Instr.keyThatStays;exact DM
def qtG(t)(m k v):(Instr.mapUpdate t m k v).Calm P:=by
 unfold Instr.mapUpdate
 repeat' with_reducible first|exact qKA .. |exact qRA .. |exact qQA .. |exact q7A .. |exact qKB .. |exact qVD .. |exact q9F .. |exact qlE .. |refine qEA ?_ λ_=>?_|split|dsimp only
def qYM(t)(m k):(Instr.mapEntry t m k).Calm P:=by
 unfold Instr.mapEntry
 repeat' with_reducible first|exact qKA .. |exact qRA .. |exact qHA .. |exact qQA .. |exact q7A .. |exact qKB .. |exact qVD .. |exact q9F .. |exact qlE .. |exact qDB .. |refine qEA ?_ λ_=>?_|split|dsimp only
def qOK(t)(m s v):(Instr.entryStore t m s v).Calm P:=by
 unfold Instr.entryStore
 repeat' with_reducible first|exact qRA .. |exact qyC .. |exact q7A .. |exact qKB .. |exact qbA .. |refine qEA ?_ λ_=>?_|split|dsimp only
def qRP(t)(m k)(b):(Instr.lookup t m k b).Calm P:=by
 unfold Instr.lookup
 repeat' with_reducible first|exact qKA .. |exact qRA .. |exact qHA .. |exact q7A .. |exact qVD .. |exact q9F .. |exact qDB .. |refine qEA ?_ λ_=>?_|split|dsimp only
def qUF:∀(l:F FieldStep)(t:zAy)(x:zs zg),(followBlind l t x).Calm P
 |[],_,_=>trivial
 |s::l,t,x=>by
  have h:=qUF l;unfold followBlind
  repeat' with_reducible first|exact h .. |exact qKA .. |exact qRA .. |exact qHA .. |exact qED .. |refine qEA ?_ λ_=>?_|split|dsimp only
def q1H:∀(n:Z)(t:zAy)(v:zg)(s:String),(nilAhead n t v s).Calm P
 |0,_,_,_=>trivial
 |n+1,t,v,s=>by
  have h:=q1H n;unfold nilAhead
  repeat' with_reducible first|exact h .. |exact qUF .. |exact qnA .. |exact qKA .. |exact qRA .. |exact qHA .. |refine qEA ?_ λ_=>?_|split|dsimp only
def qNK(s:FloatKind)(b)(k):(Conv.floatToInt s b k).Calm P:=by unfold Conv.floatToInt;exact DM
def q2N{s d}{a b}(hs:P.underlying s=O (.int a))(hd:P.underlying d=O (.int b))(x):(convert s d x).Calm P:=by
 unfold convert;refine qWB hs (qWB hd ?_);cases x<;>first|trivial|exact qNK .. |(rename_i p;cases p<;>trivial)
def q4H(x):(Conv.bytesToString x).Calm P:=by
 unfold Conv.bytesToString
 repeat' with_reducible first|exact qHA .. |exact qRA .. |exact qyB .. |refine qnE (λ_ _=>?_) .. |refine qEA ?_ λ_=>?_|split|dsimp only
def q1N{s d e}(hs:P.underlying s=O (.slice e))(hd:P.underlying d=O .string)(h:P.underlying e=O (.int .u8))(x):(convert s d x).Calm P:=by
 unfold convert;refine qWB hs (qWB hd ?_);cases x<;>first|exact qWB h (q4H _)|trivial
def qMK(a)(n):(Builtin.holdsCells a n).Calm P:=by unfold Builtin.holdsCells;exact DM
def qXM(s l n)(b)(x):(Builtin.mayShare s l n b x).Calm P:=by
 unfold Builtin.mayShare
 repeat' with_reducible first|exact qMK .. |exact qWC .. |exact qHA .. |refine qEA ?_ λ_=>?_|split|dsimp only
def qQP:(mark .noRoom).Calm P:=⟨sd,sd,trivial⟩
def qXP(h)(t)(xs):(zBz h t xs).Calm P:=by
 unfold zBz
 repeat' with_reducible first|exact qKA .. |exact qyA .. |exact qnA .. |exact qyC .. |exact qQA .. |exact qZB .. |exact qaG .. |exact qmC .. |exact qDB .. |exact q4A .. |exact qXM .. |exact qQP|exact qbA .. |exact q9B .. |exact qVC .. |exact qHA .. |exact qRA .. |refine qEA ?_ λ_=>?_|refine qNX ?_ ?_|split|dsimp only
def q5U(h)(t)(xs):(Builtin.copy_ h t xs).Calm P:=by
 unfold Builtin.copy_
 repeat' with_reducible first|exact qKA .. |exact qyA .. |exact qaG .. |exact qmC .. |exact q4A .. |exact qHA .. |exact qRA .. |refine qEA ?_ λ_=>?_|split|dsimp only
def qMX(h)(t)(xs):(Builtin.len_ h t xs).Calm P:=by
 unfold Builtin.len_
 repeat' with_reducible first|exact qKA .. |exact q7A .. |exact qHA .. |exact qRA .. |refine qEA ?_ λ_=>?_|split|dsimp only
def q4U(x y):(Builtin.min2 x y).Calm P:=by
 unfold Builtin.min2
 repeat' with_reducible first|exact qZB .. |exact qDF .. |exact qzC .. |exact qHA .. |exact qRA .. |exact qbA .. |refine qEA ?_ λ_=>?_|split|dsimp only
def qLX(h)(t)(xs):(Builtin.min_ h t xs).Calm P:=by
 unfold Builtin.min_;split
 .trivial
 .exact q8F (λ_ _=>q4U ..) _ _
def qNS(l)(args):(Instr.yield l args).Calm P:=by
 unfold Instr.yield Instr.getLoop
 repeat' with_reducible first|exact q7A .. |exact qHA .. |exact qRA .. |refine qEA ?_ λ_=>?_|split|dsimp only
def qWD{f}{fn}(h:P.funcs[f]?=O fn)(hb:fn.body.isSome=I)(args):(callFunc f args).Calm P:=by
 unfold callFunc;refine q5A ?_;have:fn.body.isNone=zb:=by cases q:fn.body<;>simp_all
 simp only[h,this,zAS,zCd];split<;>trivial
end
section
variable{P:zt}
def qjA{s:Sem zg}(h:s.Calm P):(do pure (Next.value (<-s)):Sem Next).Calm P:=qEA h λ_=>trivial
def qZG{s:Sem Unit}(h:s.Calm P):(do s;pure Next.skip:Sem Next).Calm P:=qEA h λ_=>trivial
def qCG{o:zDO}{A:SOp}{a:zDN}(q:Er P o=O A)(C:∀f xs,A≠.I4 f xs):(zy a.eval o).Calm P:=by
 unfold Er at q;split at q
 case h_1=>rename_i h;simp only[zy,h];trivial
 case h_2=>rename_i h;simp only[zy,h];trivial
 case h_3=>rename_i h;simp only[zy,h];exact qEA (qzC _) λ_=>trivial
 case h_4=>rename_i h;simp only[zy,h];exact qjA (qEA (quI ..) λ_=>qXL ..)
 case h_5=>rename_i h;simp only[zy,h];exact qjA (qOS ..)
 case h_6=>
  rename_i h;simp only[zy,h];split at q
  .rename_i hs w;exact qjA (q2N hs w _)
  .rename_i hs w;split at q
   .rename_i D;exact qjA (q1N hs w D _)
   .cases q
  .cases q
 case h_7=>rename_i h;simp only[zy,h];exact qjA (qRS ..)
 case h_8=>rename_i h;simp only[zy,h];exact qjA (qyN ..)
 case h_9=>rename_i h;simp only[zy,h];exact qjA (qSS ..)
 case h_10=>rename_i h;simp only[zy,h];exact qjA (qxN ..)
 case h_11=>rename_i h;simp only[zy,h];exact qjA (qSP ..)
 case h_12=>
  rename_i x h;simp only[zy,h]
  repeat' with_reducible first|exact qQA .. |exact q1H .. |exact qbA .. |exact qHA .. |refine q5A ?_|refine qEA ?_ λ_=>?_|split|dsimp only
 case h_13=>rename_i h;simp only[zy,h];exact qjA (qzN ..)
 case h_14=>rename_i h;simp only[zy,h];exact qjA (by unfold Instr.makeFunc;exact qHA _)
 case h_15=>rename_i h;simp only[zy,h];exact qjA (qtN ..)
 case h_16=>rename_i h;simp only[zy,h];exact qjA (qTS ..)
 case h_17=>rename_i h;simp only[zy,h];exact qZG (qsN ..)
 case h_18=>rename_i h;simp only[zy,h];exact qjA (qUS ..)
 case h_19=>rename_i h;simp only[zy,h];exact qjA (qOX _ _)
 case h_20=>rename_i h;simp only[zy,h];exact qjA (qPK ..)
 case h_21=>rename_i h;simp only[zy,h];exact qjA (qkK ..)
 case h_22=>rename_i h;simp only[zy,h];exact qjA (qwN ..)
 case h_23=>rename_i h;simp only[zy,h];exact qZG (qtG ..)
 case h_24=>rename_i h;simp only[zy,h];exact qZG (qtG ..)
 case h_25=>rename_i h;simp only[zy,h];exact qjA (qYM ..)
 case h_26=>rename_i h;simp only[zy,h];exact qZG (qOK ..)
 case h_27=>rename_i h;simp only[zy,h];exact qjA (qRP ..)
 case h_28=>
  rename_i c h;simp only[zy,h,resolve];split at q
  .rename_i u;rw[u];exact qjA (qMX ..)
  .rename_i u;rw[u];exact qjA (qLX ..)
  .rename_i u;rw[u];exact qjA (qXP ..)
  .rename_i u;rw[u];exact qjA (q5U ..)
  .rename_i f u;rw[u];split at q
   .rename_i fn E;split at q
    .rename_i B;simp only[zj]at B;exact qWD E B.1 _
    .cases q
   .cases q
  .simp at q;subst q;exact absurd rfl (C _ _)
  .cases q
 case h_29=>cases q
end
end Go.Proofs.YtlmhpamhhgogaaaGreat.Sx
namespace Go.Proofs.YtlmhpamhhgogaaaGreat.Sx
open Go.RowKit
def qDE(a b c):qDA (a++b++c)=qDA a++qDA b++qDA c:=by simp[q4F]
def qhB{P}{f}(h:GB P f)(args)(w):(callFunc f args).run P w=.ok (.enter f args) w:=by
 obtain⟨fn,q,B,u⟩:=h;have A:fn.body.isNone=zb:=by cases C:fn.body<;>simp_all
 simp only[callFunc,zAa,run_program,zAo,q,u,A,zAS,zCd,Sem.run_pure]
def qoA{P:zt}{E:Env P}{o:zDO}{a:zDN}{w w':zp}{next:zDN->zp->Prop}{r:zs Z}{v:zg}(hc:(zy a.eval o).Calm P)(hd:∀c,o.op≠.defer c)(h:(zy a.eval o).run P w=.ok (.value v) w')(hk:BY E.N w w')(q:next (a.put o.dst v) w'):o.atX E r a w next:=by
 unfold Go.Oper.atX;rw[Oper.semAt_eq _ _ _ hd,h];exact⟨hc,hk,q⟩
def qGG{P:zt}{E:Env P}{o:zDO}{a:zDN}{w w':zp}{next:zDN->zp->Prop}{r:zs Z}(hc:(zy a.eval o).Calm P)(hd:∀c,o.op≠.defer c)(h:(zy a.eval o).run P w=.ok .skip w')(hk:BY E.N w w')(q:next (a.put o.dst zAX) w'):o.atX E r a w next:=by
 unfold Go.Oper.atX;rw[Oper.semAt_eq _ _ _ hd,h];exact⟨hc,hk,q⟩
def qsK{P:zt}{E:Env P}{o:zDO}{a:zDN}{w:zp}{next:zDN->zp->Prop}{r:zs Z}{f:zBa}{args:zR zg}(hs:(zy a.eval o).Calm P)(hd:∀c,o.op≠.defer c)(h:(zy a.eval o).run P w=.ok (.enter f args) w)(hc:BH E f args w λe q=>∃v,e=.returned v/\next (a.put o.dst v) q):o.atX E r a w next:=by
 unfold Go.Oper.atX;rw[Oper.semAt_eq _ _ _ hd,h];refine⟨hs,.refl _,hc.mono ?_⟩;rintro e q ⟨v,rfl,u⟩;exact u
def qRR{P:zt}{E:Env P}{o:zDO}{a:zDN}{w:zp}{next:zDN->zp->Prop}{r:zs Z}{l:Z}{f:zBa}{tmps:zR zg}{assign q:zDT}(hs:(zy a.eval o).Calm P)(hd:∀c,o.op≠.defer c)(h:(zy a.eval o).run P w=.ok (.round l f tmps assign q) w)(hc:Ec E l f tmps assign q w λe u=>∃v,e=.returned v/\next (a.put o.dst v) u):o.atX E r a w next:=by
 unfold Go.Oper.atX;rw[Oper.semAt_eq _ _ _ hd,h];refine⟨hs,.refl _,hc.mono ?_⟩;rintro e u ⟨v,rfl,A⟩;exact A
def qWL{P:zt}{o:zDO}{c:Call}{g:Operand}{a:zDN}{d:Deferred}(h:o.op=.call c)(hc:c.callee=.value g)(q:zBH (a.eval g) (c.args.map a.eval)=pure d)(u:(invoke d.target d.args).Calm P):(zy a.eval o).Calm P:=by
 simp only[zy,h,resolve,hc,q];exact u
def qKJ{P:zt}{o:zDO}{c:Call}{g:Operand}{a:zDN}{k:zBa}{first h:zR zg}(q:o.op=.call c)(hc:c.callee=.value g)(u:a.eval g=.func (.func k) first h)(hk:GB P k):(zy a.eval o).Calm P:=by
 obtain⟨fn,w,A,_⟩:=hk;refine qWL (d:={target:=.fn (.func k) h,args:=first++c.args.map a.eval}) q hc (by rw[u];rfl) ?_;exact qWD w A _
def qKX{P:zt}{o:zDO}{c:Call}{g:Operand}{a:zDN}{l:Z}{first h:zR zg}(q:o.op=.call c)(hc:c.callee=.value g)(u:a.eval g=.func (.yield l) first h):(zy a.eval o).Calm P:=by
 refine qWL (d:={target:=.fn (.yield l) h,args:=first++c.args.map a.eval}) q hc (by rw[u];rfl) ?_;exact qNS _ _
def q1D{P}{o}{q}(u:Er P o=O q):(∀c,o.op≠.defer c)/\∀cs b,o.op≠.select cs b:=by
 refine⟨λc h=>?_,λcs b h=>?_⟩<;>simp[Er,h]at u
def qCH(l):qDA (l.map SV.v)=l:=by simp[qiA,zB8,Ae]
def qDR{P:zt}{E:Env P}{fr:Fr}(ad:fr.has E){H:qOA}{Y:qMB}(aQ:CA E fr H)(aK:Ga E fr Y){o:zDO}{ay:SOp}(q:Er P o=O ay)(av:ay.reads=zb){sl:Sl}{a:zDN}(L:q1C sl a){hs:Hs}{K:SV->Hs->Prop}(h:chS P H Y ay sl hs K){w:zp}(C:Aq fr hs w){next:zDN->zp->Prop}{r:zs Z}(aa:∀s W w',K s W->Aq fr W w'->next (a.put o.dst (Ae s)) w'):o.atX E r a w next:=by
 obtain⟨ab,_⟩:=q1D q;have ac:=λaR=>qCG (a:=a) q aR
 have az:∀(f:zBa)(args:F SV)(aA:zR zg),aA=(qDA args).toArray->(zy a.eval o).Calm P->(zy a.eval o).run P w=.ok (.enter f aA) w->H Y f args hs K->o.atX E r a w next:=λf args aA an aT D T=>by
  subst an;refine qsK aT ab D ((aQ Y aK f args hs K T w C).mono ?_);rintro e aU ⟨v,W,rfl,u,A⟩;exact⟨_,rfl,aa _ _ _ A u⟩
 unfold Er at q;split at q
 iterate 16 exact rdz q av
 .rename_i t x y B;split at q
  .rename_i size ao;cases q;simp only[chS]at h;obtain⟨ah,R,M⟩:=Opd.AB (k:=λx=>Opd.k hs.rs sl (qIA y) λy=>Kn size x y hs K) h L;obtain⟨aB,Q,U⟩:=Opd.AB (k:=λy=>Kn size ah y hs K) R L;obtain⟨w',W,D,u,A⟩:=q9S Q ao C;exact qGG (ac sd) ab (by simp only[zy,B,M,U];exact q9V D) (C.keep u ad) (aa _ _ _ A u)
  .cases q
 .rename_i t B;split at q
  .rename_i z ae;cases q;obtain⟨w',s,W,D,_,u,A⟩:=qXK (show qbL t (z.map SV.v) hs K from h) ae C;exact qoA (ac sd) ab (by simp only[zy,B];exact qnC D) (C.keep u ad) (aa _ _ _ A u)
  .cases q
 .rename_i t x B;cases q;simp only[chS]at h;obtain⟨ah,R,M⟩:=Opd.AB (k:=λx=>KH t x hs K) h L;obtain⟨w',s,W,D,_,u,A⟩:=qAO (P:=P) R C;exact qoA (ac sd) ab (by simp only[zy,B,M];exact qnC D) (C.keep u ad) (aa _ _ _ A u)
 .rename_i t len parts B;split at q
  .rename_i e ai;split at q
   .rename_i size z ao ae;split at q
    .rename_i T;obtain⟨aV,aL,aW⟩:=T;cases q;simp only[chS]at h;obtain⟨cells,A,aC⟩:=qVG L (λi=>O (i*size,size)) parts.toList _ _ sd h
     obtain⟨w',s,W,D,_,u,A⟩:=q9N (P:=P) (t:=t) (parts:=parts.map λ(i,x)=>(i,a.eval x)) A ai ao ae aW aL aV (by
      simp only[zDC];rw[<-aC];congr 2
      rw[show(zA5 len (List.map SV.v z)).flatten=((zA5 len z).flatten).map SV.v by simp[List.map_flatten],qCH]) C
     exact qoA (ac sd) ab (by simp only[zy,B];exact qnC D) (C.keep u ad) (aa _ _ _ A u)
    .cases q
   .cases q
  .cases q
 .rename_i t l c B;split at q
  .rename_i e ai;split at q
   .rename_i i z aD ae;split at q
    .rename_i T;cases q;simp only[chS]at h;obtain⟨ah,R,M⟩:=Opd.AB (k:=λx=>Opd.k hs.rs sl (qIA c) λy=>Ju e i.size i.bytes z x y hs K) h L;obtain⟨aB,Q,U⟩:=Opd.AB (k:=λy=>Ju e i.size i.bytes z ah y hs K) R L;obtain⟨w',s,W,D,_,u,A⟩:=qNN Q ai aD ae T.2 C;exact qoA (ac sd) ab (by simp only[zy,B,M,U];exact qnC D) (C.keep u ad) (aa _ _ _ A u)
    .cases q
   .cases q
  .cases q
 .rename_i t x B;split at q
  .rename_i af aE aj;split at q
   .rename_i aX;cases q;obtain⟨w',s,W,D,_,u,A⟩:=qON (a:=a) (show K6 af hs K from h) aj aX C;exact qoA (ac sd) ab (by simp only[zy,B];exact qnC D) (C.keep u ad) (aa _ _ _ A u)
   .cases q
  .cases q
 .rename_i t m k v B;split at q
  .rename_i af aE aj;cases q;simp only[chS]at h;obtain⟨ag,R,M⟩:=Opd.AB (k:=λx=>Opd.k hs.rs sl (qIA k) λk=>Opd.k hs.rs sl (qIA v) λv=>Iv af x k v hs K) h L;obtain⟨aw,Q,U⟩:=Opd.AB (k:=λk=>Opd.k hs.rs sl (qIA v) λv=>Iv af ag k v hs K) R L;obtain⟨aM,ap,aq⟩:=Opd.AB (k:=λv=>Iv af ag aw v hs K) Q L;obtain⟨w',W,D,u,A⟩:=qMN ap aj C;exact qGG (ac sd) ab (by simp only[zy,B,M,U,aq];exact q9V D) (C.keep u ad) (aa _ _ _ A u)
  .cases q
 .rename_i t m k v B;split at q
  .rename_i af aE aj;cases q;simp only[chS]at h;obtain⟨ag,R,M⟩:=Opd.AB (k:=λx=>Opd.k hs.rs sl (qIA k) λk=>Opd.k hs.rs sl (qIA v) λv=>Iv af x k v hs K) h L;obtain⟨aw,Q,U⟩:=Opd.AB (k:=λk=>Opd.k hs.rs sl (qIA v) λv=>Iv af ag k v hs K) R L;obtain⟨aM,ap,aq⟩:=Opd.AB (k:=λv=>Iv af ag aw v hs K) Q L;obtain⟨w',W,D,u,A⟩:=qMN ap aj C;exact qGG (ac sd) ab (by simp only[zy,B,M,U,aq];exact q9V D) (C.keep u ad) (aa _ _ _ A u)
  .cases q
 .rename_i t m k B;split at q
  .rename_i af aE aj;split at q
   .rename_i z ae;cases q;simp only[chS]at h;obtain⟨ag,R,M⟩:=Opd.AB (k:=λx=>Opd.k hs.rs sl (qIA k) λk=>Ku af z x k hs K) h L;obtain⟨aw,Q,U⟩:=Opd.AB (k:=λk=>Ku af z ag k hs K) R L;obtain⟨w',s,W,D,u,A⟩:=qOU Q aj ae C;exact qoA (ac sd) ab (by simp only[zy,B,M,U];exact qnC D) (C.keep u ad) (aa _ _ _ A u)
   .cases q
  .cases q
 .rename_i t m s v B;cases q;simp only[chS]at h;obtain⟨ag,R,M⟩:=Opd.AB (k:=λx=>Opd.k hs.rs sl (qIA s) λs=>Opd.k hs.rs sl (qIA v) λv=>J5 x s v hs K) h L;obtain⟨aF,Q,U⟩:=Opd.AB (k:=λs=>Opd.k hs.rs sl (qIA v) λv=>J5 ag s v hs K) R L;obtain⟨aM,ap,aq⟩:=Opd.AB (k:=λv=>J5 ag aF v hs K) Q L;obtain⟨w',W,D,u,A⟩:=qlU (t:=t) ap C;exact qGG (ac sd) ab (by simp only[zy,B,M,U,aq];exact q9V D) (C.keep u ad) (aa _ _ _ A u)
 .exact rdz q av
 .rename_i c B;split at q
  .exact rdz q av
  .exact rdz q av
  .rename_i T;split at q
   .rename_i s x t t' aG aH;split at q
    .rename_i e ai;split at q
     .rename_i i aD;split at q
      .rename_i al;obtain⟨rfl,aL,ae⟩:=al;cases q;simp only[chS]at h;obtain⟨ah,R,M⟩:=Opd.AB (k:=λs=>Opd.k hs.rs sl (qIA x) λy=>Lg e i.size i.bytes s y hs K) h L;obtain⟨aB,Q,U⟩:=Opd.AB (k:=λy=>Lg e i.size i.bytes ah y hs K) R L
       obtain⟨z,ae,aY⟩:∃z,i.zero=O z/\z.cells.size=i.size:=by
        cases aN:i.zero with
        |none=>simp[aN]at ae
        |some z=>exact⟨z,rfl,by simpa[aN]using ae⟩
       obtain⟨w',aF,W,D,u,A⟩:=qQV (ty:=o.type) ai aD ae aY Q C;have aI:c.args=#[s,x]:=by apply zBq;simpa using aG
       have aJ:c.argTypes=#[t,t]:=by apply zBq;simpa using aH
       refine qoA (ac sd) ab ?_ (C.keep u ad) (aa _ _ _ A u);simp only[zy,B,resolve,T,aI,aJ];simp[invoke,builtin,M,U,D,zAo]
      .cases q
     .cases q
    .cases q
   .cases q
  .rename_i T;split at q
   .rename_i d s t t' aG aH;split at q
    .rename_i e ai;split at q
     .rename_i ao;cases q;simp only[chS]at h;obtain⟨ah,R,M⟩:=Opd.AB (k:=λd=>Opd.k hs.rs sl (qIA s) λy=>Lc d y hs K) h L;obtain⟨aB,Q,U⟩:=Opd.AB (k:=λy=>Lc ah y hs K) R L;obtain⟨w',aF,W,D,u,A⟩:=qvU (t':=t') (ty:=o.type) Q ai ao C;have aI:c.args=#[d,s]:=by apply zBq;simpa using aG
      have aJ:c.argTypes=#[t,t']:=by apply zBq;simpa using aH
      refine qoA (ac sd) ab ?_ (C.keep u ad) (aa _ _ _ A u);simp only[zy,B,resolve,T,aI,aJ];simp[invoke,builtin,M,U,D,zAo]
     .cases q
    .cases q
   .cases q
  .rename_i f T;split at q
   .rename_i fn aC;split at q
    .rename_i al;have ak:GB P f:=⟨fn,aC,by simp at al;simpa using al.1,by simp at al;simpa using al.2⟩
     have aZ:(Opd.ks hs.rs sl (c.args.toList.map qIA) λargs=>H Y f args hs K)->o.atX E r a w next:=λh=>by
      obtain⟨args,A,a0⟩:=Opd.EN L c.args.toList h;refine az f args (c.args.map a.eval) (by apply zBq;simp[a0]) (by have:=ac;split at q<;>(cases q;exact ac sd)) ?_ A;have:=qhB ak (c.args.map a.eval) w;simp only[zy,B,resolve,T];simp[zBH,Act.eval,invoke]at this⊢;exact this
     split at q<;>(cases q;simp only[chS]at h;exact aZ h)
    .cases q
   .cases q
  .rename_i g _ T;cases q;simp only[chS]at h;obtain⟨f,R,M⟩:=Opd.AB (k:=λf=>Opd.ks hs.rs sl (c.args.toList.map qIA) λargs=>q7N P H Y f args hs K) h L;obtain⟨args,Q,U⟩:=Opd.EN L c.args.toList R;have an:c.args.map a.eval=(qDA args).toArray:=by apply zBq;simp[U]
   unfold q7N at Q;split at Q
   .rename_i k first ax
    obtain⟨ak,A⟩:=Q;refine az k _ ((qDA first).toArray++(qDA args).toArray++(qDA ax).toArray) (by rw[qDE];simp) (qKJ B T (by rw[M];rfl) ak) ?_ A;have:=qhB ak ((qDA first).toArray++(qDA args).toArray++(qDA ax).toArray) w;simp only[zy,B,resolve,T,M,an];simp[zBH,Ae,invoke]at this⊢;exact this
   .rename_i k first ax
    obtain⟨ak,A⟩:=Q
    obtain⟨ar,au,⟨rfl,rfl⟩,a1⟩:∃ar au,(qDA ar=first/\qDA au=ax)/\H Y k (ar++args++au) hs K:=by
     split at A
     .exact⟨[],[],⟨rfl,rfl⟩,by simpa using A⟩
     .exact A
    refine az k _ ((qDA ar).toArray++(qDA args).toArray++(qDA au).toArray) (by rw[qDE];simp) (qKJ B T (by rw[M];rfl) ak) ?_ a1;have:=qhB ak ((qDA ar).toArray++(qDA args).toArray++(qDA au).toArray) w;simp only[zy,B,resolve,T,M,an];simp[zBH,Ae,invoke]at this⊢;exact this
   .rename_i id l;split at Q
    case h_2=>exact Q.elim
    rename_i bc V j aO;obtain⟨rfl,A⟩:=Q;obtain⟨a2,a3⟩:=aK fr (Fr.refl _) id args hs K A l V j w aO C;obtain⟨bd,be,a4⟩:=qGS aO;have a5:w.heap[l]?=O (.loop (qkH V j)):=C.res (.lp id l V j) (by rw[a4];simp);have aP:(qkH V j).params=V.params:=by cases j<;>rfl
    have a6:(qkH V j).fn=V.fn:=by cases j<;>rfl
    have a7:(qkH V j).tmps=V.tmps:=by cases j<;>rfl
    have a8:(qkH V j).assign=V.assign:=by cases j<;>rfl
    have a9:(qkH V j).body=V.body:=by cases j<;>rfl
    refine qRR (qKX B T (by rw[M];rfl)) ab (show(zy a.eval o).run P w=.ok (.round l V.fn (qfF V (qDA args).toArray) V.assign V.body) w from ?_) (a3.mono ?_)
    .have:=run_yield (P:=P) (args:=(qDA args).toArray) a5 (by rw[aP];simpa[qrA]using a2);rw[aP,a6,a7,a8,a9]at this;simp only[zy,B,resolve,T,M,an];simp[zBH,Ae,invoke,qfF]at this⊢;exact this
    .rintro e aU ⟨v,W,rfl,u,A⟩;exact⟨_,rfl,aa _ _ _ A u⟩
   .exact Q.elim
  .cases q
 .cases q
def Aq.Cw{fr:Fr}{g}{id}{oa}{n cap}{ety}{size}{cs}{rs}{nx lo}{w}(h:Aq fr ⟨g,.row id oa n cap ety size cs::rs,nx,lo⟩ w):∃g',g<=g'/\(∀a,oa=O a->¬g.g a.block)/\AX g' lo ety size (.slice oa n cap) n cs/\Aq fr ⟨g',rs,nx,lo⟩ w:=by
 obtain⟨s,B,⟨g',q,u,A,rfl⟩,_,C⟩:=qbH (x:=.row id oa n cap) (K:=λ_ B=>∃g',g<=g'/\(∀a,oa=O a->¬g.g a.block)/\AX g' lo ety size (.slice oa n cap) n cs/\B=⟨g',rs,nx,lo⟩) (by
  simp only[qcT,norm,qPB,FG,Nat.beq_refl]
  exact⟨⟨trivial,trivial,trivial⟩,λg' q u A=>⟨g',q,u,A,rfl⟩⟩) h
 exact⟨g',q,u,A,C⟩
def K0(x:SV)(hs:Hs)(K:SV->Hs->Prop):Prop:=match x with
 |.sl a b o n m=>KZ (.sl a b o n m) hs λh=>Kr (.sl a b o n m) h K
 |x=>Kr x hs K
def q6M(f:SV->Hs->(SV->Hs->Prop)->Prop)(l:F SV)(hs:Hs)(K:F SV->Hs->Prop):Prop:=match l with
 |[]=>K [] hs
 |x::r=>f x hs λh q=>q6M f r q λu w=>K (h::u) w
def qbT(f:SV->Hs->(SV->Hs->Prop)->Prop)(x:SV)(hs:Hs)(K:SV->Hs->Prop):Prop:=match x with
 |.agg l=>q6M f l hs λh q=>K (.agg h) q
 |.tup l=>q6M f l hs λh q=>K (.tup h) q
 |x=>K0 x hs K
def Hq(x:SV)(hs:Hs)(K:SV->Hs->Prop):Prop:=qbT (qbT (qbT K0)) x hs K
def qpY(l:F SV)(hs:Hs)(K:F SV->Hs->Prop):Prop:=q6M Hq l hs K
def KO(f:SV->Hs->(SV->Hs->Prop)->Prop):Prop:=∀(x:SV){hs:Hs}{K:SV->Hs->Prop}{h:Fr}{q:zp},f x hs K->Aq h hs q->∃s u,K s u/\Ae s=Ae x/\Aq h u q
def q7M:KO K0:=by
 intro x hs K A B h q;unfold K0 at h;split at h
 .obtain⟨C,u,w⟩:=qjJ _ _ _ _ _ h q;exact qbH u w
 .exact qbH h q
def qRG{f}(A:KO f):∀(l:F SV){hs:Hs}{K:F SV->Hs->Prop}{fr:Fr}{w:zp},q6M f l hs K->Aq fr hs w->∃B h,K B h/\qDA B=qDA l/\Aq fr h w
 |[],hs,K,fr,w,q,u=>⟨[],hs,by simpa only[q6M]using q,rfl,u⟩
 |x::r,hs,K,fr,w,q,u=>by
  obtain⟨C,h,H,L,M⟩:=A x (K:=λC h=>q6M f r h λD E=>K (C::D) E) (by simpa only[q6M]using q) u;obtain⟨D,E,P,Q,R⟩:=qRG A r H M;exact⟨_,_,P,by simp[qDA,L,Q],R⟩
def qEI{f}(B:KO f):KO (qbT f):=by
 intro x hs K E H h q;unfold qbT at h;split at h
 .obtain⟨C,D,u,w,A⟩:=qRG B _ h q;exact⟨_,_,u,by simp[Ae,w],A⟩
 .obtain⟨C,D,u,w,A⟩:=qRG B _ h q;exact⟨_,_,u,by simp[Ae,w],A⟩
 .exact q7M _ h q
def qIQ:KO Hq:=λx _ _ _ _ h q=>qEI (qEI (qEI q7M)) x h q
def qiF(x){hs}{K}{fr:Fr}{w}(h:Hq x hs K)(u:Aq fr hs w):∃s q,K s q/\Ae s=Ae x/\Aq fr q w:=qIQ x h u
def q6K(l){hs}{K}{fr:Fr}{w}(h:qpY l hs K)(A:Aq fr hs w):∃q u,K q u/\qDA q=qDA l/\Aq fr u w:=qRG qIQ l h A
def Nb(x:SV):zM:=match x with
 |.p _ _ _=>I
 |_=>zb
def qjc(l:F SV):zM:=match l with
 |[]=>zb
 |x::r=>match Nb x with
  |true=>I
  |false=>qjc r
def Ol(x:SV):zM:=match x with
 |.agg l=>qjc l
 |x=>Nb x
def qTa(l:F SV):zM:=match l with
 |[]=>zb
 |x::r=>match Ol x with
  |true=>I
  |false=>qTa r
def Res.inG(r:Res)(g:GW):Prop:=match r with
 |.blk _ b _ cells=>∀j h,(qDA cells)[j]?=O h->Rc g ⟨b,j,zc⟩ h
 |_=>True
def GA(g:GW):F Res->Prop
 |[]=>True
 |r::h=>r.inG g/\GA g h
def GA.of{g}:∀{rs:F Res},(∀r∈rs,r.inG g)->GA g rs
 |[],_=>trivial
 |r::rs,h=>⟨h r (zAm ..),GA.of λx q=>h x (zAl _ q)⟩
def OkW(P:zt)(f:zBa)(vs:F zg)(g:GW)(rs:F Res)(v:zg):Prop:=∀h,g<=h->GA h rs->OkV P f vs h v
def rsId(id:Z):F Res->zs (Z×F SV)
 |[]=>zc
 |.blk i b _ cs::r=>if zAP i id then O (b,cs)else rsId id r
 |.row _ _ _ _ _ _ _::r=>rsId id r
 |.lp _ _ _ _::r=>rsId id r
 |.mk _::r=>rsId id r
 |.mp _ _ _ _::r=>rsId id r
def GA.cel{g:GW}{id b:Z}{cs:F SV}{u:zg}:∀{rs:F Res},GA g rs->rsId id rs=O (b,cs)->∀k,(qDA cs)[k]?=O u->Rc g ⟨b,k,zc⟩ u
 |.blk i c t w::r,h,e,k,q=>by
  simp only[rsId]at e;split at e
  .cases e;exact h.1 k u q
  .exact GA.cel h.2 e k q
 |.row _ _ _ _ _ _ _::r,h,e,k,q=>GA.cel (rs:=r) h.2 e k q
 |.lp _ _ _ _::r,h,e,k,q=>GA.cel (rs:=r) h.2 e k q
 |.mk _::r,h,e,k,q=>GA.cel (rs:=r) h.2 e k q
 |.mp _ _ _ _::r,h,e,k,q=>GA.cel (rs:=r) h.2 e k q
def OkW.calls{P:zt}{E:Env P}{f:zBa}{vs:F zg}{hs:Hs}{v:zg}(h:OkW P f vs hs.g hs.rs v){fr:Fr}(C:fr.has E){w:zp}(q:Aq fr hs w):BH E f vs.toArray w λe w'=>∃v',e=.returned v'/\Below w.heap.size w w'/\v'=v:=by
 refine h (hs.g.more w hs.bks) (GW.G0 q.AJ _) (GA.of λr u=>?_) w (Good.refl _) E (q.N C);have A:=q.res r u;cases r with
 |blk id b L cells=>
  intro j D H;have B:b∈hs.bks:=zBA.2 ⟨_,u,sk⟩;refine⟨⟨q.lt B,.inr B⟩,?_⟩;simp only[Res.holds]at A;show w.cell? ⟨b,j,zc⟩=O D;unfold World.cell?;simp[A.1,H]
 |_=>trivial
def okK(P:zt)(f:zBa)(K:SV->Hs->Prop)(w:F SV)(C:Hs):Prop:=match C with
 |⟨h,q,A,B⟩=>match qTa w with
  |true=>qhC w λu=>∃v,OkW P f u h q v/\K (.v v) ⟨h,q,A,B⟩
  |false=>qhC w λu=>(∃v,OkV P f u h v/\K (.v v) ⟨h,q,A,B⟩)\/Ok P f u h λv D=>K (.v v) ⟨D,q,A,B⟩
def okH(P:zt):qOA:=λ_ f args hs K=>qpY args hs (okK P f K)
def IB{P:zt}(E:Env P)(H:qOA):Prop:=∀A f args hs K,H A f args hs K->∀q h,q.has E->Aq q hs h->
 BH E f (qDA args).toArray h λe u=>∃v w,e=.returned (Ae v)/\Below h.heap.size h u/\Aq q w u/\K v w
def IB.snd{P:zt}{E:Env P}{H:qOA}(h:IB E H)(fr:Fr)(u:fr.has E):CA E fr H:=λw _ f args hs K q A B=>
 (h w f args hs K q fr A u B).mono λ_ _⟨v,C,D,_,L,q⟩=>⟨v,C,D,L,q⟩
def qaA{P}(E:Env P):IB E (okH P):=λR f args hs K u T D C L=>by
 obtain⟨U,M,u,Q,h⟩:=q6K args u L;rw[<-Q];obtain⟨V,W,Y,aa⟩:=M;unfold okK at u;simp only at u;split at u
 .obtain⟨v,w,A⟩:=qJB _ u;refine(w.calls C h).mono ?_;rintro e H ⟨B,rfl,q,rfl⟩;exact⟨.v B,_,rfl,q,h.agree q,A⟩
 rcases qJB _ u with⟨v,w,A⟩|w
 .refine(w D h.AJ E (h.N C)).mono ?_;rintro e H ⟨B,rfl,q,rfl⟩;exact⟨.v B,_,rfl,q,h.agree q,A⟩
 .refine(w D h.AJ E (h.N C)).mono ?_;rintro e H ⟨B,rfl,q,A⟩;exact⟨.v B,_,rfl,q,h.called q,A⟩
structure CX where
 dst:zs Z
 op:SOp
 g:zs (Z×zM)
 deriving Inhabited
def opS(P:zt)(H:qOA)(Y:qMB)(o:SOp)(sl:Sl)(hs:Hs)(K:SV->Hs->Prop):Prop:=match o.reads with
 |true=>rdS o sl hs λx=>K x hs
 |false=>chS P H Y o sl hs K
def qvF(sl:Sl)(g:zs (Z×zM))(h q:Sl->Prop):Prop:=match g with
 |none=>h sl
 |some (d,u)=>match AS sl d with
  |some (.b I)=>match u with
   |true=>h sl
   |false=>q sl
  |some (.b zb)=>match u with
   |true=>q sl
   |false=>h sl
  |some (.v (.bool c))=>match u with
   |true=>(c=I->h ((d,.b I)::sl))/\(c=zb->q ((d,.b zb)::sl))
   |false=>(c=I->q ((d,.b I)::sl))/\(c=zb->h ((d,.b zb)::sl))
  |some (.v (.tuple _))=>q sl
  |_=>zV
def qdB(dst:zs Z)(sl:Sl)(x:SV)(k:Sl->Prop):Prop:=match dst with
 |some d=>k ((d,x)::sl)
 |none=>k sl
def NZ(P:zt)(H:qOA)(Y:qMB)(o:CX)(ih:Sl->Hs->(Sl->Hs->Prop)->Prop)(sl:Sl)(hs:Hs)(K:Sl->Hs->Prop):Prop:=qvF sl o.g
  (λsl=>opS P H Y o.op sl hs λx h=>qdB o.dst sl x λsl=>ih sl h K)
  (λsl=>qdB o.dst sl (.v zAX) λsl=>ih sl hs K)
def NY(sl:Sl)(hs:Hs)(K:Sl->Hs->Prop):Prop:=K sl hs
def Ho(P:zt)(H:qOA)(Y:qMB)(ops:F CX):Sl->Hs->(Sl->Hs->Prop)->Prop:=
 List.rec (motive:=λ_=>Sl->Hs->(Sl->Hs->Prop)->Prop) NY (λo _ h=>NZ P H Y o h) ops
def qST{P}{H}{Y}{o}{r}{sl}{hs}{K}:Ho P H Y (o::r) sl hs K=qvF sl o.g (λsl=>opS P H Y o.op sl hs λx h=>qdB o.dst sl x λsl=>Ho P H Y r sl h K) (λsl=>qdB o.dst sl (.v zAX) λsl=>Ho P H Y r sl hs K):=rfl
def q0D(P:zt)(nt:Z)(ops:zR zDO)(o:zDO):zs CX:=match Er P o with
 |none=>zc
 |some h=>if(o.dst.all λd=>decide (d<nt))then match o.guard with
  |none=>O ⟨o.dst,h,zc⟩
  |some (j,b)=>match(ops[j]?).bind (·.dst)with
   |some d=>O ⟨o.dst,h,O (d,b)⟩
   |none=>zc
  else zc
def qxI(P:zt)(nt:Z)(ops:zR zDO):F Z->zs (F CX)
 |[]=>O []
 |i::h=>match ops[i]? with
  |none=>zc
  |some o=>match q0D P nt ops o with
   |none=>zc
   |some q=>match qxI P nt ops h with
    |none=>zc
    |some r=>O (q::r)
structure Pin where
 D:F Deferred
 ds:F Z
 t:zR zg
structure Sim(nt:Z)(D:Pin)(sl:Sl)(a:zDN):Prop where
 size:a.tmps.size=nt
 defers:a.defers=D.D
 Au:q1C sl a
 off:∀n,n∉D.ds->a.tmps[n]?=D.t[n]?
def qGE:F CX->F Z
 |[]=>[]
 |o::r=>match o.dst with
  |some d=>d::qGE r
  |none=>qGE r
def q0M{o:CX}{r:F CX}{u:F Z}(h:∀d∈qGE (o::r),d∈u):(∀d,o.dst=O d->d∈u)/\∀d∈qGE r,d∈u:=by
 simp only[qGE]at h;split at h
 .rename_i d w;exact⟨λA q=>h _ (by rw[w]at q;cases q;simp),λA q=>h _ (by simp[q])⟩
 .rename_i w;exact⟨λA q=>(by rw[w]at q;cases q),h⟩
def Sim.put{nt}{D}{sl}{a}(h:Sim nt D sl a){d}(hd:d<nt)(A:d∈D.ds)(x):Sim nt D ((d,x)::sl) (a.put (O d) (Ae x)):=by
 refine⟨by simp[zBg,h.size],by simp[zBg,h.defers],λn y u=>?_,λn q=>?_⟩;rotate_left
 .have w:d≠n:=λe=>q (e▸A);simp only[zBg];rw[zO w];exact h.off n q
 simp only[AS]at u;cases q:zAP d n with
 |true=>
  rw[q]at u;obtain rfl:=zP q;simp at u;subst u;have:d<a.tmps.size:=by rw[h.size];exact hd
  simp[zBg,this]
 |false=>
  rw[q]at u;have w:d≠n:=zCf q;simp only[zBg];rw[zO w];exact h.Au n y u
def Sim.same{nt}{D}{sl}{a}(h:Sim nt D sl a){d}{x y}(w:AS sl d=O x)(A:Ae y=Ae x):Sim nt D ((d,y)::sl) a:=by
 refine⟨h.size,h.defers,λn z q=>?_,h.off⟩;simp only[AS]at q;cases u:zAP d n with
 |true=>
  rw[u]at q;obtain rfl:=zP u;simp at q;subst q;rw[A];exact h.Au d x w
 |false=>rw[u]at q;exact h.Au n z q
def q8G{nt}{D}{sl}{a}{C E}{o}{H}{ops}{P}(u:q0D P nt ops o=O H)(hs:Sim nt D sl a)(h:qvF sl H.g C E):(zAs o (yielded ops a.tmps)=I/\∃sl',C sl'/\Sim nt D sl' a)\/(zAs o (yielded ops a.tmps)=zb/\∃sl',E sl'/\Sim nt D sl' a):=by
 unfold q0D at u;split at u
 .cases u
 .split at u
  .split at u
   .rename_i B;cases u;exact .inl ⟨by simp[zAs,B],sl,h,hs⟩
   .rename_i j b B;split at u
    .rename_i d L;cases u
     have A:∀v,a.tmps[d]?=O v->yielded ops a.tmps j=match v with|.bool x=>O x|_=>zc:=λv M=>by
      simp only[yielded,L,zCQ,M];cases v<;>rfl
     have w:zAs o (yielded ops a.tmps)=(yielded ops a.tmps j==O b):=by simp[zAs,B]
     simp only[qvF]at h;split at h
     .rename_i q;have:=A _ (hs.Au d _ q);cases b with
      |true=>exact .inl ⟨by rw[w,this];rfl,sl,h,hs⟩
      |false=>exact .inr ⟨by rw[w,this];rfl,sl,h,hs⟩
     .rename_i q;have:=A _ (hs.Au d _ q);cases b with
      |true=>exact .inr ⟨by rw[w,this];rfl,sl,h,hs⟩
      |false=>exact .inl ⟨by rw[w,this];rfl,sl,h,hs⟩
     .rename_i c q;have:=A _ (hs.Au d _ q);cases b with
      |true=>
       cases c with
       |true=>exact .inl ⟨by rw[w,this];rfl,_,h.1 rfl,hs.same q rfl⟩
       |false=>exact .inr ⟨by rw[w,this];rfl,_,h.2 rfl,hs.same q rfl⟩
      |false=>
       cases c with
       |true=>exact .inr ⟨by rw[w,this];rfl,_,h.1 rfl,hs.same q rfl⟩
       |false=>exact .inl ⟨by rw[w,this];rfl,_,h.2 rfl,hs.same q rfl⟩
     .rename_i q;have:=A _ (hs.Au d _ q);exact .inr ⟨by rw[w,this];rfl,sl,h,hs⟩
     .exact h.elim
    .cases u
  .cases u
def qPE{P}{nt}{ops}{o}{q}(h:q0D P nt ops o=O q):Er P o=O q.op/\q.dst=o.dst/\∀d,o.dst=O d->d<nt:=by
 unfold q0D at h;split at h
 .cases h
 .rename_i s hs;split at h
  .rename_i u;have w:∀d,o.dst=O d->d<nt:=λd A=>by rw[A]at u;simpa using u
   split at h
   .cases h;exact⟨hs,rfl,w⟩
   .split at h
    .cases h;exact⟨hs,rfl,w⟩
    .cases h
  .cases h
def Sim.JX{nt}{D}{sl}{a}(h:Sim nt D sl a){dst}(hd:∀d,dst=O d->d<nt/\d∈D.ds)(x){k}(hk:qdB dst sl x k):∃sl',k sl'/\Sim nt D sl' (a.put dst (Ae x)):=by
 cases dst with
 |none=>exact⟨sl,hk,h⟩
 |some d=>exact⟨_,hk,h.put (hd d rfl).1 (hd d rfl).2 x⟩
def qOG{P:zt}{E:Env P}{fr:Fr}(af:fr.has E){H:qOA}{Y:qMB}(ag:CA E fr H)(ah:Ga E fr Y){nt:Z}{D:Pin}{ops:zR zDO}{r:zs Z}{K:Sl->Hs->Prop}{Q:zDN->zp->Prop}(ai:∀sl hs a w,K sl hs->Sim nt D sl a->Aq fr hs w->Q a w):∀(τ:F Z)(C:F CX)(sl:Sl)(hs:Hs)(a:zDN)(w:zp),qxI P nt ops τ=O C->(∀d∈qGE C,d∈D.ds)->Sim nt D sl a->Aq fr hs w->Ho P H Y C sl hs K->qNE E r ops Q τ a w
 |[],C,sl,hs,a,w,h,L,W,q,A=>by
  simp[qxI]at h;subst h;exact λd=>ai sl hs a _ A W (q.at d)
 |i::τ,C,sl,hs,a,w,h,L,W,q,A=>by
  simp only[qxI]at h;split at h
  .cases h
  .rename_i o ar;split at h
   .cases h
   .rename_i aj ak;split at h
    .cases h
    .rename_i rest al;cases h;obtain⟨T,aa,au⟩:=qPE ak;obtain⟨av,L⟩:=q0M L;have an:∀d,o.dst=O d->d<nt/\d∈D.ds:=λd A=>⟨au d A,av d (aa.trans A)⟩;have ao:=qOG (ops:=ops) (r:=r) af ag ah ai τ rest;show qHC E r ops i _ a w;unfold qHC;simp only[ar];rw[qST]at A;rcases q8G ak W A with⟨ab,ap,u,M⟩|⟨ab,ap,u,M⟩
     .rw[zk ab];intro aw;have q:=q.at aw
      have aq:∀s R U,(qdB aj.dst ap s λsl=>Ho P H Y rest sl R K)->Aq fr R U->qNE E r ops Q τ (a.put o.dst (Ae s)) U:=λs R U V ax=>by
       rw[aa]at V;obtain⟨ac,ad,ae⟩:=M.JX an s (k:=λsl=>Ho P H Y rest sl R K) V;exact ao ac R _ U al L ae ax ad
      unfold opS at u;cases B:aj.op.reads with
      |true=>
       simp only[B]at u;obtain⟨s,V,ay⟩:=q9I T B M.Au u;exact qoA (qCG T (λf az e=>by rw[e]at B;simp[SOp.reads]at B)) (q1D T).1 (ay fr _ q) (.refl _) (aq s hs _ V q)
      |false=>
       simp only[B]at u;exact qDR af ag ah T B M.Au u q aq
     .rw[ab];rw[aa]at u;obtain⟨ac,ad,ae⟩:=M.JX an (.v zAX) (k:=λsl=>Ho P H Y rest sl hs K) u;exact λd=>ao ac hs _ _ al L ae (q.at d) ad
end Go.Proofs.YtlmhpamhhgogaaaGreat.Sx
