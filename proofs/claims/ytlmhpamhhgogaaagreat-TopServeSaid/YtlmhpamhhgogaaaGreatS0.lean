import Derived.RangeFuncRecord
import Derived.WalkKit
import Derived.OrdersIn
import Derived.OrdersHeld
import Derived.Conc.Own
import Derived.Conc.Machine
import Derived.Below
import Derived.Laws.OwnMore
import Derived.Laws.StructEq
import Derived.ChangeKeysEq
import Derived.MapKept
import Derived.Laws.BytesString
import Derived.Laws.CopyRow
import Derived.Laws.Sem
set_option linter.all false
set_option maxHeartbeats 16000000
set_option maxRecDepth 100000
open Array renaming replicate→zAP
open Bool renaming false→zb,true→I
open Go renaming Value→zg,World→zp,Program→zv,execOp→zx,Goroutine→zE,run_underlying→zL,Frame→zAm,maxLen→zAp,TypeId→zAw,stepG→zAD,Addr→zAI,Act→zDz,Oper→zDA,undef→zAU,zeroValue→zAW,FuncId→zA5,Code→zDE
open Go.Act renaming put→zBf
open Go.Builtin renaming append_→zBw
open Go.Deferred renaming ofValue→zBH
open Go.Frame renaming atR→zAM,enter→zAR,finish_atR→zBc
open Go.GStep renaming after→zBF
open Go.Instr renaming loadAt→zBq
open Go.IntKind renaming i64→zAj
open Go.Op renaming equalIn→zDH
open Go.Region renaming wanted→zAl,ready→zAB
open Go.Result renaming andThen→zAk,andThen_ok→zAV
open Go.Sem renaming run_bind→zZ,runT_eq→zBn
open Go.Value renaming int→zK,oneCell'→zAY
open Go.Value.slice renaming injEq→zAg
open Go.stepG renaming exec→zBj
open List renaming replicate→zAT,range→zA8
open Nat renaming beq→zAL
open Option renaming some→O,none→zc
open _root_ renaming List→F,Nat→Z,Int→zt,Option→zy,Bool→zO,Array→zS,False→zX
namespace Go.Proofs.YtlmhpamhhgogaaaGreat.Sx
open Go.Conc (G)
section
def sa{P:Prop}(h:P:=by omega):P:=h
def sb{P:Prop}(h:P:=by decide):P:=h
def sc{P:Prop}(h:P:=by simp[AB,Res.eqv,qCA,Ag]):P:=h
def sd{P:Prop}(h:P:=by kernel_rfl):P:=h
def se{P:Prop}(h:P:=by simp):P:=h
def sf{P:Prop}(h:P:=by simp;omega):P:=h
def sg{P:Prop}(h:P:=by intros;omega):P:=h
def si{P:Prop}(h:P:=by unfold InR;omega):P:=h
def sj{P:Prop}(h:P:=by(conv=>lhs;cbv)):P:=h
def sk{P:Prop}(h:P:=by rw[hE];rfl):P:=h
def so{P:Prop}(h:P:=by simp[Res.bk]):P:=h
def sq{P:Prop}(h:P:=by simp[findLabel]):P:=h
def sr{P:Prop}(h:P:=by dsimp only;omega):P:=h
def ss{P:Prop}(h:P:=by simp[AB,Res.eqv,qCA,Ag,Ec]):P:=h
def su{P:Prop}(h:P:=by simp only[quL];omega):P:=h
def sv{P:Prop}(h:P:=by assumption):P:=h
def sw{P:Prop}(h:P:=by unfold InR;decide):P:=h
def sx{P:Prop}(h:P:=by rw[closeOps];simp):P:=h
def zM:=@Array.getElem?_setIfInBounds_ne
def zV:=@Array.getElem?_setIfInBounds_self_of_lt
def zAb:=@Array.getElem?_eq_some_iff
def zAe:=@Array.getD_eq_getD_getElem?
def zAK:=@Array.getElem?_eq_getElem
def zBl:=@Array.ext'
def zBm:=@Array.getElem?_setIfInBounds
def zBp:=@Array.getElem?_eq_none
def zCm:=@Array.getElem?_toList
def zCn:=@Array.getElem?_append_left
def zCs:=@Array.mapM_eq_mapM_toList
def zCy:=@Array.getElem?_push
def zCU:=@Array.append_assoc
def zC5:=@Array.all_eq_true_iff_forall_mem
def zDd:=@Array.toList_modify
def zDg:=@Array.length_toList
def zDk:=@Array.foldl_toList
def zDl:=@Array.ext_getElem?
def zDm:=@Array.any_eq_true'
def zDo:=@Array.getElem?_map
def zDs:=@Array.toList_map
def zl:=@Bool.and_eq_true
def zAi:=@Bool.false_ne_true
def zA2:=@Bool.false_eq_true
def zBT:=@Bool.not_eq_true
def zCf:=@Bool.eq_iff_iff
def zCH:=@Bool.eq_false_iff
def zCP:=@Bool.true_and
def zCQ:=@Bool.or_eq_true
def zC0:=@Bool.not_eq_true'
def zB6:=@Classical.byContradiction
def zCz:=@Classical.axiomOfChoice
def zDa:=@Classical.choose_spec
def zCc:=@Function.comp_def
def zAS:=@Int.le_refl
def zBh:=@Int.eq_ofNat_of_zero_le
def zBB:=@Int.toNat_natCast
def zBD:=@Int.emod_lt_of_pos
def zBO:=@Int.toNat_of_nonneg
def zBR:=@Int.emod_nonneg
def zB3:=@Int.tmod_eq_emod_of_nonneg
def zCG:=@Int.emod_eq_of_lt
def zCV:=@Int.natCast_nonneg
def ze:=@List.getElem?_eq_some_iff
def zh:=@List.mem_of_getElem?
def zs:=@List.mem_cons
def zC:=@List.not_mem_nil
def zN:=@List.mem_append
def zU:=@List.mem_map
def zAa:=@List.getElem?_eq_getElem
def zAc:=@List.getElem?_append_left
def zAd:=@List.length_set
def zAf:=@List.mem_or_eq_of_mem_set
def zAo:=@List.take_succ_eq_append_getElem
def zAs:=@List.all_eq_true
def zAv:=@List.mem_toArray
def zAx:=@List.length_append
def zAy:=@List.getElem?_map
def zAz:=@List.take_of_length_le
def zAE:=@List.getElem?_set
def zAF:=@List.mem_cons_of_mem
def zAH:=@List.mem_cons_self
def zAX:=@List.take_length
def zAZ:=@List.mem_filter
def zA3:=@List.mem_singleton
def zA4:=@List.length_eq_zero_iff
def zA9:=@List.nil_append
def zBa:=@List.length_map
def zBd:=@List.getElem?_take
def zBe:=@List.length_take
def zBg:=@List.getElem?_append_right
def zBi:=@List.cons_append
def zBk:=@List.nodup_append
def zBo:=@List.nodup_cons
def zBr:=@List.any_eq_false
def zBu:=@List.take_succ_cons
def zBx:=@List.drop_zero
def zBy:=@List.length_cons
def zBC:=@List.getElem?_of_mem
def zBE:=@List.map_append
def zBG:=@List.getElem?_eq_none
def zBK:=@List.drop_succ_cons
def zBM:=@List.mem_flatMap
def zBN:=@List.length_drop
def zBS:=@List.countP_cons_of_pos
def zBU:=@List.ext_getElem?
def zBV:=@List.take_zero
def zBW:=@List.nodup_nil
def zBX:=@List.mem_filterMap
def zBY:=@List.any_eq_true
def zBZ:=@List.mem_of_mem_take
def zB0:=@List.map_cons
def zB2:=@List.append_assoc
def zB4:=@List.getElem?_eq_none_iff
def zB5:=@List.drop_eq_getElem_cons
def zB9:=@List.getElem?_set_ne
def zCd:=@List.eq_nil_of_length_eq_zero
def zCe:=@List.take_append_of_le_length
def zCg:=@List.getElem?_range
def zCh:=@List.sublist_cons_self
def zCj:=@List.drop_eq_nil_of_le
def zCk:=@List.findIdx?_cons
def zCl:=@List.getElem?_drop
def zCo:=@List.mem_iff_getElem?
def zCq:=@List.length_nil
def zCr:=@List.flatMap_cons
def zCt:=@List.flatten_cons
def zCu:=@List.mem_of_mem_drop
def zCA:=@List.getElem?_cons_zero
def zCB:=@List.countP_cons_of_neg
def zCC:=@List.foldl_cons
def zCF:=@List.drop_append_of_le_length
def zCI:=@List.drop_take
def zCJ:=@List.drop_drop
def zCK:=@List.map_map
def zCM:=@List.length_eraseIdx
def zCR:=@List.eq_of_mem_replicate
def zCS:=@List.set_cons_succ
def zCX:=@List.take_take
def zCY:=@List.mapM_cons
def zCZ:=@List.mem_range
def zC1:=@List.take_add_one
def zC3:=@List.getElem?_set_self
def zC4:=@List.head?_eq_getElem?
def zC6:=@List.flatten_replicate_singleton
def zC7:=@List.take_append_drop
def zC8:=@List.mem_flatten
def zC9:=@List.getElem?_toArray
def zDb:=@List.mem_iff_getElem
def zDc:=@List.range_succ
def zDe:=@List.drop_set_of_lt
def zDh:=@List.map_congr_left
def zDi:=@List.length_pos_iff
def zDj:=@List.flatMap_append
def zDq:=@List.size_toArray
def zDr:=@List.foldl_append
def zDt:=@List.getElem_mem
def zDv:=@List.length_ofFn
def zDx:=@List.perm_middle
def zDI:=@List.any_append
def zCa:=@List.Sublist.refl
def zCw:=@List.Sublist.append
def zAA:=@List.cons.injEq
def zH:=@Nat.le_refl
def zJ:=@Nat.zero_le
def zP:=@Nat.eq_of_beq_eq_true
def zQ:=@Nat.lt_of_lt_of_le
def zY:=@Nat.le_trans
def zAq:=@Nat.le_of_ble_eq_true
def zAr:=@Nat.zero_add
def zAJ:=@Nat.lt_or_ge
def zBI:=@Nat.lt_succ_self
def zBQ:=@Nat.le_succ_of_le
def zB1:=@Nat.add_mul
def zB8:=@Nat.mul_le_mul_right
def zCb:=@Nat.min_eq_left
def zCi:=@Nat.ne_of_beq_eq_false
def zCp:=@Nat.succ_mul
def zCx:=@Nat.mul_one
def zCL:=@Nat.sub_self
def zCT:=@Nat.add_right_comm
def zCW:=@Nat.le_of_lt
def zDf:=@Nat.not_lt
def zDn:=@Nat.eq_zero_or_pos
def zDp:=@Nat.add_assoc
def zDu:=@Nat.not_le
def zDw:=@Nat.succ_le_succ
def zDy:=@Nat.add_zero
def zDJ:=@Nat.le_succ
def zBs:=@Ne.symm
def zD:=@Option.map_eq_some_iff
def zAC:=@Option.bind_eq_some_iff
def zAG:=@Option.getD_some
def zBv:=@Option.map_some
def zB7:=@Option.isSome_some
def zCv:=@Option.isSome_iff_exists
def zCN:=@Option.bind_some
def zn:=@Option.some.inj
def zAh:=@Option.some.injEq
def zCE:=@Prod.mk.injEq
def zd:=@of_decide_eq_true
def zf:=@of_decide_eq_false
def zj:=@if_neg
def zk:=@if_pos
def zF:=@decide_eq_true_eq
def zI:=@congrArg
def zR:=@decide_eq_true
def zT:=@decide_eq_false
def zAt:=@or_false
def zA6:=@and_true
def zBA:=@if_true
def zBL:=@true_and
def zCD:=@if_false
def zCO:=@and_false
def zC2:=@false_and
def zw{P Q:Prop}(k:Q)(h:Q->P:=by(intro h;(conv=>whnf);exact h)):P:=h k
def CA(es:zS Event):Prop:=∀e∈es,e.loc≠.mark .disable/\e.loc≠.mark .enable
def qdD:CA #[]:=λ_ h=>by simp at h
def CA.app{a b}(h:CA a)(k:CA b):CA (a++b):=λe q=>(Array.mem_append.1 q).elim (h e) (k e)
def CA.push{a}(h:CA a){e}(k:e.loc≠.mark .disable/\e.loc≠.mark .enable):CA (a.push e):=λx q=>by
 rcases Array.mem_push.1 q with q|rfl
 .exact h x q
 .exact k
def z9h{f:zO×zS Event->Event->zO×zS Event}(hf:∀x e,(e.loc≠.mark .disable/\e.loc≠.mark .enable)->CA x.2->CA (f x e).2):∀(l:F Event)x,(∀e∈l,e.loc≠.mark .disable/\e.loc≠.mark .enable)->CA x.2->CA (l.foldl f x).2
 |[],_,_,hx=>hx
 |e::l,x,hl,hx=>z9h hf l (f x e) (λe' he=>hl e' (zAF _ he)) (hf x e (hl e (zAH ..)) hx)
def CA.seen{P:zv}{fn:zA5}{es:zS Event}(h:CA es):CA (seen P fn es):=by
 dsimp only[Go.seen];rw[<-zDk];refine z9h (λx e he hx=>?_) _ _ (λe he=>h e (Array.mem_toList_iff.1 he)) qdD;split
 .exact hx
 .dsimp only;split
  .exact hx
  .exact hx.push he
def _root_.Go.Sem.Calm(P:zv){h:Type}:Sem h->Prop
 |.pure _=>True
 |.load _ _ k=>∀v,(k v).Calm P
 |.store _ _ _ k=>k.Calm P
 |.new _ k=>∀r,(k r).Calm P
 |.shape _ k=>∀s,(k s).Calm P
 |.freeze _ _ k=>k.Calm P
 |.frozen _ k=>∀b,(k b).Calm P
 |.getObj _ k=>∀o,(k o).Calm P
 |.setObj _ _ k=>k.Calm P
 |.choose _ k=>∀n,(k n).Calm P
 |.sys _ k=>∀r,(k r).Calm P
 |.program k=>(k P).Calm P
 |.mark m k=>m≠.disable/\m≠.enable/\k.Calm P
 |.halt _=>True
def Calm.bind{P}{u A:Type}{s:Sem u}{f:u->Sem A}(h:s.Calm P)(k:∀a,(f a).Calm P):(s.bind f).Calm P:=by
 induction s with
 |pure a=>exact k a
 |halt _=>trivial
 |mark m s q=>exact⟨h.1,h.2.1,q h.2.2⟩
 |store _ _ _ s q=>exact q h
 |freeze _ _ s q=>exact q h
 |setObj _ _ s q=>exact q h
 |load _ _ s q=>exact λv=>q v (h v)
 |new _ s q=>exact λv=>q v (h v)
 |shape _ s q=>exact λv=>q v (h v)
 |frozen _ s q=>exact λv=>q v (h v)
 |getObj _ s q=>exact λv=>q v (h v)
 |choose _ s q=>exact λv=>q v (h v)
 |sys _ s q=>exact λv=>q v (h v)
 |program s q=>exact q _ h
def Calm.hear{B:Type}{P}{s:Sem B}(h:s.Calm P):∀(w:zp)(es:zS Event),CA es->CA (s.runT P w es).2:=by
 have A:∀(l:zS zAI)(f:zAI->Event),(∀a,(f a).loc=.cell a)->CA (l.map f):=λl f C e q=>by
  obtain⟨a,_,rfl⟩:=Array.mem_map.1 q;rw[C];exact⟨se,se⟩
 induction s with
 |pure a=>exact λw es q=>q
 |halt _=>exact λw es q=>q
 |mark m s u=>exact λw es q=>u h.2.2 _ _ (q.push ⟨λe=>h.1 (by simpa using e),λe=>h.2.1 (by simpa using e)⟩)
 |store m a v s u=>
  intro w es q
  have D:CA ((match w.cell? a with
   |some _=>if w.frozen? a then(.halt (.unsupported (.unsafePointer "a write to bytes that a string shares")) w,es)else s.runT P (w.setCell a v) (es.push ⟨.cell a,I,m==.atomic⟩)
   |none=>match w.farStore P a v (m==.atomic)with
    |.ok (w,H)=>s.runT P w (es++H.toArray.map (⟨.cell ·,I,m==.atomic⟩))
    |.error h=>(.halt h w,es):Result _×zS Event)).2:=by
   split
   .split
    .exact q
    .exact u h _ _ (q.push ⟨se,se⟩)
   .split
    .exact u h _ _ (q.app (A _ _ λ_=>rfl))
    .exact q
  cases v<;>first|exact D|exact q
 |freeze _ _ s u=>exact λw es q=>u h _ _ q
 |setObj r o s u=>
  intro w es q;simp only[Sem.runT];split
  .exact q
  .exact u h _ _ (q.push ⟨se,se⟩)
  .exact q
 |load m a s u=>
  intro w es q;simp only[Sem.runT];split
  .exact u _ (h _) _ _ (q.push ⟨se,se⟩)
  .split
   .exact u _ (h _) _ _ (q.app (A _ _ λ_=>rfl))
   .exact q
 |new _ s u=>exact λw es q=>u _ (h _) _ _ q
 |shape _ s u=>exact λw es q=>u _ (h _) _ _ q
 |frozen _ s u=>exact λw es q=>u _ (h _) _ _ q
 |getObj r s u=>
  intro w es q;simp only[Sem.runT];split
  .exact q
  .exact u _ (h _) _ _ (q.push ⟨se,se⟩)
  .exact q
 |choose L s u=>
  intro w es q;simp only[Sem.runT];split
  .exact u _ (h _) _ _ q
  .exact u _ (h _) _ _ q
 |sys _ s u=>exact λw es q=>u _ (h _) _ _ (q.push ⟨se,se⟩)
 |program s u=>exact λw es q=>u _ h _ _ q
def B8(N:Z)(w w':zp):Prop:=∀n,n<N->w'.heap[n]?=w.heap[n]?
def B8.refl{N}(w):B8 N w w:=λ_ _=>rfl
structure Env(P:zv)where
 N:Z
 main:zO
 Big:zA5->zS zg->zp->(zg->zp->Prop)->Prop
 Stop:zE->zp->Prop
variable{P:zv}
inductive Env.G(E:Env P):zE->zp->Prop
 |stop {g:zE} {w:zp} (h:∀d,E.Stop g (w.at d)):Env.G E g w
 |step {g:zE} {w:zp} (hr:g.status=.running) (gx:Z->zE) (wx:Z->zp) (ex:Z->zS Event)
   (h:∀d,zAD P E.main g (w.at d)=.go (gx d) (wx d) (ex d)/\B8 E.N (w.at d) (wx d)/\CA (ex d)) (k:∀d,Env.G E (gx d) (wx d)):Env.G E g w
 |big {f:zA5} {args:zS zg} {c:zAm} {cs:F zAm} {w:zp} {R:zg->zp->Prop} (h:∀d,E.Big f args (w.at d) R)
   (k:∀v w',R v w'->Env.G E (Conc.G (c.finish v) cs) w'):Env.G E (Conc.G (zAR P f args .normal) (c::cs)) w
variable{E:Env P}
def Env.G.at{g}{w}(h:E.G g w)(d):E.G g (w.at d):=by
 cases h with
 |stop h=>exact .stop λq=>h q
 |step u A B C h k=>exact .step u A B C (λq=>h q) k
 |big h k=>exact .big (λq=>h q) k
def Env.G.one{g}{w}(u:g.status=.running)(h:∀d,∃g' w' es,zAD P E.main g (w.at d)=.go g' w' es/\B8 E.N (w.at d) w'/\CA es/\E.G g' w'):E.G g w:=by
 obtain⟨A,h⟩:=zCz h;obtain⟨B,h⟩:=zCz h;obtain⟨C,q⟩:=zCz h;exact .step u A B C (λd=>⟨(q d).1,(q d).2.1,(q d).2.2.1⟩) λd=>(q d).2.2.2
def Env.G.quiet{g g'}{w}(q:g.status=.running)(h:∀w,zAD P E.main g w=.go g' w #[])(k:E.G g' w):E.G g w:=
 .one q λd=>⟨g',w.at d,#[],h _,.refl _,qdD,k.at d⟩
section
variable{b:zAm}{a:zDz}{k:F Item}{cs:F zAm}{w:zp}{main:zO}
def qAQ:zAD P main (G (b.atR a (.code .skip::k)) cs) w=.go (G (b.atR a k) cs) w #[]:=by simp[G,zAD,zBj,zAM]
def q3W{l}:zAD P main (G (b.atR a (.code (.label l)::k)) cs) w=.go (G (b.atR a k) cs) w #[]:=by simp[G,zAD,zBj,zAM]
def qoG{id}:zAD P main (G (b.atR a (.inBlock id::k)) cs) w=.go (G (b.atR a k) cs) w #[]:=by simp[G,zAD,zBj,zAM]
def q1L{c}:zAD P main (G (b.atR a (.inScope c::k)) cs) w=.go (G (b.atR a k) cs) w #[]:=by simp[G,zAD,zBj,zAM]
def q1W{c}:zAD P main (G (b.atR a (.code (.scope c)::k)) cs) w=.go (G (b.atR a (.code c::.inScope c::k)) cs) w #[]:=by simp[G,zAD,zBj,zAM]
def qLU{x y}:zAD P main (G (b.atR a (.code (.seq x y)::k)) cs) w=.go (G (b.atR a (.code x::.code y::k)) cs) w #[]:=by simp[G,zAD,zBj,zAM]
def qCQ{c}{x y}{t}(h:a.eval c=.bool t):zAD P main (G (b.atR a (.code (.cond c x y)::k)) cs) w=.go (G (b.atR a (.code (if t then x else y)::k)) cs) w #[]:=by
 have:=congrFun (Frame.eval_atR b a (.code (.cond c x y)::k)) c;simp only[zAM]at this;simp[G,zAD,zBj,zAM,this,h]
def q0M{id}{c}:zAD P main (G (b.atR a (.code (.block id c)::k)) cs) w=.go (G (b.atR a (.code c::.inBlock id::k)) cs) w #[]:=by simp[G,zAD,zBj,zAM]
def qMU{c}:zAD P main (G (b.atR a (.code (.loop c)::k)) cs) w=.go (G (b.atR a (.code c::.inLoop c::k)) cs) w #[]:=by simp[G,zAD,zBj,zAM]
def qMK{c}:zAD P main (G (b.atR a (.inLoop c::k)) cs) w=.go (G (b.atR a (.code c::.inLoop c::k)) cs) w #[]:=by simp[G,zAD,zBj,zAM]
def qBQ{id}{k'}(h:exitTo id k=O k'):zAD P main (G (b.atR a (.code (.exit id)::k)) cs) w=.go (G (b.atR a k') cs) w #[]:=by simp[G,zAD,zBj,zAM,h]
def qfZ{l}{k'}(h:gotoIn l k=O k'):zAD P main (G (b.atR a (.code (.goto l)::k)) cs) w=.go (G (b.atR a k') cs) w #[]:=by simp[G,zAD,zBj,zAM,h]
def q0L(h:b.roundOf=zc):zAD P main (G (b.atR a (.code .ret::k)) cs) w=.go (G {b.atR a (.code .ret::k)with mode:=.returning} cs) w #[]:=by simp[G,zAD,zBj,zAM,h]
def qTR(h:b.roundOf=zc):zAD P main (G (b.atR a []) cs) w=.go (G {b.atR a []with mode:=.returning} cs) w #[]:=by simp[G,zAD,zBj,zAM,h]
variable{ops:zS zDA}
def qPC{id}:zAD P main (G (b.atR a (.code (.region id ops zb)::k)) cs) w=.go (G (b.atR a (.inRegion ops (zA8 ops.size)::k)) cs) w #[]:=by simp[G,zAD,zBj,zAM]
def qlL{id}:zAD P main (G (b.atR a (.code (.region id ops I)::k)) cs) w=.go (G (b.atR a (.inRegion ops (Region.schedule (P.follows .mixedOrders) ops (w.tape w.drawn (.order b.fn id)))::k)) cs) {w with drawn:=w.drawn+1} #[]:=by
 simp[G,zAD,zBj,zAM,choose,Sem.run,Question.forced,Question.cut]
def qyA:zAD P main (G (b.atR a (.inRegion ops []::k)) cs) w=.go (G (b.atR a k) cs) w #[]:=by simp[G,zAD,zBj,zAM]
def qnG{i}{rest}(h:((ops[i]?).map (zAl · (yielded ops a.tmps))).getD zb=zb):zAD P main (G (b.atR a (.inRegion ops (i::rest)::k)) cs) w=.go (G (b.atR (a.put ((ops[i]?).bind (·.dst)) zAU) (.inRegion ops rest::k)) cs) w #[]:=by
 rw[<-zBc];have q:=h;simp only[zAM]at*;simp[G,zAD,zBj,q]
def qzM{i}{rest}{o}(q:ops[i]?=O o)(u:zAl o (yielded ops a.tmps)=I):zAD P main (G (b.atR a (.inRegion ops (i::rest)::k)) cs) w=stepG.apply P I (b.atR a (.inRegion ops (i::rest)::k)) cs zc (o.semAt b.roundOf a.eval) w:=by
 have h:=Frame.eval_atR b a (.inRegion ops (i::rest)::k);simp only[zAM]at h;simp only[G,zAD,zBj,stepG.oper,Frame.oper?,zAM,q,u,h,zBv,zAG,zBA,Oper.semAt];cases b.roundOf<;>cases o.op<;>rfl
end
end
section
variable{P:zv}
def qwd(E:Env P)(b:zAm)(k:F Item)(cs:F zAm):Exit->zDz->zp->Prop
 |.normal,a,w=>E.G (G (b.atR a k) cs) w
 |.exit id,a,w=>∀h,exitTo id h=exitTo id k->E.G (G (b.atR a (.code (.exit id)::h)) cs) w
 |.goto l,a,w=>∀h,gotoIn l h=gotoIn l k->E.G (G (b.atR a (.code (.goto l)::h)) cs) w
 |.ret,a,w=>∀h,E.G (G (b.atR a (.code .ret::h)) cs) w
 |.panic _,_,_=>True
 |.outgrown,_,_=>True
def _root_.Go.Code.wpX(c:zDE)(E:Env P)(r:zy Z)(Q:Exit->zDz->zp->Prop)(a:zDz)(w:zp):Prop:=
 ∀(b:zAm)(k:F Item)(cs:F zAm),b.roundOf=r->(∀e h w',Q e h w'->qwd E b k cs e h w')->E.G (G (b.atR a (.code c::k)) cs) w
def BI(E:Env P)(f:zA5)(args:zS zg)(w:zp)(R:Ending->zp->Prop):Prop:=
 ∀(c:zAm)(cs:F zAm),(∀v w',R (.returned v) w'->E.G (G (c.finish v) cs) w')->E.G (G (zAR P f args .normal) (c::cs)) w
def DR(E:Env P)(l:Z)(f:zA5)(tmps:zS zg)(assign h:zDE)(w:zp)(R:Ending->zp->Prop):Prop:=
 ∀(c:zAm)(cs:F zAm),(∀v w',R (.returned v) w'->E.G (G (c.finish v) cs) w')->E.G (G (Frame.round l f tmps assign h .normal) (c::cs)) w
variable{E:Env P}
def BI.mono{f}{args}{w}{R q}(h:BI E f args w R)(u:∀e w',R e w'->q e w'):BI E f args w q:=
 λc cs k=>h c cs λv w' A=>k v w' (u _ _ A)
def DR.mono{l}{f}{tmps}{assign q}{w}{R u}(h:DR E l f tmps assign q w R)(A:∀e w',R e w'->u e w'):DR E l f tmps assign q w u:=
 λc cs k=>h c cs λv w' B=>k v w' (A _ _ B)
section AE
variable{r:zy Z}{Q:Exit->zDz->zp->Prop}{a:zDz}{w:zp}
def q7B{c:zDE}{q:Exit->zDz->zp->Prop}(h:c.wpX E r Q a w)(u:∀e a w,Q e a w->q e a w):c.wpX E r q a w:=
 λb k cs A B=>h b k cs A λe C w' D=>B e C w' (u _ _ _ D)
def qFR(h:Q .normal a w):Code.skip.wpX E r Q a w:=λ_ _ _ _ q=>.quiet rfl (λ_=>qAQ) (q _ _ _ h)
def qwT{l}(h:Q .normal a w):(Code.label l).wpX E r Q a w:=λ_ _ _ _ q=>.quiet rfl (λ_=>q3W) (q _ _ _ h)
def qHR{id}(h:Q (.exit id) a w):(Code.exit id).wpX E r Q a w:=λ_ k _ _ q=>q _ _ _ h k rfl
def qGR{l}(h:Q (.goto l) a w):(Code.goto l).wpX E r Q a w:=λ_ k _ _ q=>q _ _ _ h k rfl
def qqM(h:Q .ret a w):Code.ret.wpX E r Q a w:=λ_ k _ _ q=>q _ _ _ h k
def qtI{x y}(h:x.wpX E r (Exit.then (y.wpX E r Q) Q) a w):(Code.seq x y).wpX E r Q a w:=λb k cs B u=>
 .quiet rfl (λ_=>qLU) (h b (.code y::k) cs B λe C w' A=>by
  cases e with
  |normal=>exact A b k cs B u
  |exit id=>exact λq e=>u _ _ _ A q (by rw[e];rfl)
  |goto l=>exact λq e=>u _ _ _ A q (by rw[e];rfl)
  |ret=>exact λq=>u _ _ _ A q
  |panic D=>trivial
  |outgrown=>trivial)
def qIR{c}{x y}{t}(q:a.eval c=.bool t)(h:(if t then x else y).wpX E r Q a w):(Code.cond c x y).wpX E r Q a w:=λb k cs u A=>
 .quiet rfl (λ_=>qCQ q) (h b k cs u A)
def q1H{c}{x y}(q:a.eval c=.bool I)(h:x.wpX E r Q a w):(Code.cond c x y).wpX E r Q a w:=qIR q h
def qGH{c}{x y}(q:a.eval c=.bool zb)(h:y.wpX E r Q a w):(Code.cond c x y).wpX E r Q a w:=qIR q h
def qxT{id}{c}(h:c.wpX E r (Exit.inBlock id Q) a w):(Code.block id c).wpX E r Q a w:=λb k cs D A=>
 .quiet rfl (λ_=>q0M) (h b (.inBlock id::k) cs D λe H w' q=>by
  cases e with
  |normal=>exact .quiet rfl (λ_=>qoG) (A _ _ _ q)
  |exit C=>
   by_cases B:C=id
   .simp only[Exit.inBlock,B,zBA]at q;subst B;exact λu e=>.quiet rfl (λ_=>qBQ (k':=k) (by rw[e];simp[exitTo])) (A _ _ _ q)
   .simp only[Exit.inBlock,B,zCD]at q;have this:(id==C)=zb:=by simp;exact λh=>B h.symm
    exact λu e=>A _ _ _ q u (by rw[e];simp[exitTo,this])
  |goto l=>exact λu e=>A _ _ _ q u (by rw[e];simp[gotoIn])
  |ret=>exact λu=>A _ _ _ q u
  |panic L=>trivial
  |outgrown=>trivial)
def qiL{c}(I:Z->zDz->zp->Prop)(m:Z)(A:I m a w)(round:∀m a w,I m a w->c.wpX E r (Exit.then (λa' w'=>∃m',m'<m/\I m' a' w') Q) a w):(Code.loop c).wpX E r Q a w:=by
 intro b k cs B u
 have C:∀m a w,I m a w->E.G (G (b.atR a (.code c::.inLoop c::k)) cs) w:=by
  intro m
  induction m using Nat.strongRecOn with
  |_ m D=>
   intro a w H;refine round m a w H b (.inLoop c::k) cs B λe a' w' q=>?_;cases e with
   |normal=>
    obtain⟨m',L,R⟩:=q;exact .quiet rfl (λ_=>qMK) (D m' L _ _ R)
   |exit id=>exact λh e=>u _ _ _ q h (by rw[e];rfl)
   |goto l=>exact λh e=>u _ _ _ q h (by rw[e];rfl)
   |ret=>exact λh=>u _ _ _ q h
   |panic T=>trivial
   |outgrown=>trivial
 exact .quiet rfl (λ_=>qMU) (C m a w A)
end AE
def _root_.Go.Oper.upX(E:Env P)(o:zDA)(a:zDz)(w:zp)(next:zDz->zp->Prop):Result Next->Prop
 |.ok (.value v) w'=>B8 E.N w w'/\next (a.put o.dst v) w'
 |.ok .skip w'=>B8 E.N w w'/\next (a.put o.dst zAU) w'
 |.ok (.defer d) w'=>B8 E.N w w'/\next ({a with defers:=d::a.defers}.put o.dst zAU) w'
 |.ok (.enter f args) w'=>B8 E.N w w'/\BI E f args w' λ
   |.returned v,h=>next (a.put o.dst v) h
   |_,_=>True
 |.ok (.round l f tmps assign q) w'=>B8 E.N w w'/\DR E l f tmps assign q w' λ
   |.returned v,h=>next (a.put o.dst v) h
   |_,_=>True
 |_=>zX
def _root_.Go.Oper.atX(E:Env P)(r:zy Z)(o:zDA)(a:zDz)(w:zp)(next:zDz->zp->Prop):Prop:=
 (o.semAt r a.eval).Calm P/\o.upX E a w next ((o.semAt r a.eval).run P w)
def BI.val{f:zA5}{args:zS zg}{w:zp}{next u:zg->zp->Prop}(h:BI E f args w λ|.returned v,q=>next v q|_,_=>True)(k:∀v w,next v w->u v w):BI E f args w λ|.returned v,q=>u v q|_,_=>True:=
 λc cs A=>h c cs λv w' B=>A v w' (k _ _ B)
def DR.val{l:Z}{f:zA5}{tmps:zS zg}{assign u:zDE}{w:zp}{next A:zg->zp->Prop}(h:DR E l f tmps assign u w λ|.returned v,q=>next v q|_,_=>True)(k:∀v w,next v w->A v w):DR E l f tmps assign u w λ|.returned v,q=>A v q|_,_=>True:=
 λc cs B=>h c cs λv w' C=>B v w' (k _ _ C)
def Oper.Iu{o:zDA}{a:zDz}{w:zp}{K K':zDz->zp->Prop}(h:∀a w,K a w->K' a w){x:Result Next}(q:o.upX E a w K x):o.upX E a w K' x:=by
 cases x with
 |ok x w'=>
  cases x<;>simp only[Go.Oper.upX]at q⊢<;>
   first
    |exact⟨q.1,h _ _ q.2⟩
    |exact⟨q.1,q.2.val λ_ _=>h _ _⟩
    |exact q
 |halt x w'=>exact q
def Oper.IQ{r:zy Z}{o:zDA}{a:zDz}{w:zp}{K K':zDz->zp->Prop}(h:∀a w,K a w->K' a w)(q:o.atX E r a w K):o.atX E r a w K':=⟨q.1,Oper.Iu h q.2⟩
def qMC(E:Env P)(r:zy Z)(ops:zS zDA)(i:Z)(K:zDz->zp->Prop)(a:zDz)(w:zp):Prop:=
 match ops[i]? with
 |none=>∀d,K a (w.at d)
 |some o=>if zAl o (yielded ops a.tmps)then ∀d,o.atX E r a (w.at d) K else ∀d,K (a.put o.dst zAU) (w.at d)
def qmW{r}{ops}{i}{a}{w}{K}(h:qMC E r ops i K a w)(d):qMC E r ops i K a (w.at d):=by
 unfold qMC at*;split
 .rename_i u;simp only[u]at h;exact λq=>h q
 .rename_i o u;simp only[u]at h;split
  .rename_i A;simp only[A,zBA]at h;exact λq=>h q
  .rename_i A;simp only[A]at h;exact λq=>h q
def qlG{r}{ops}{i}{a}{w}{K K'}(h:∀a w,K a w->K' a w)(q:qMC E r ops i K a w):qMC E r ops i K' a w:=by
 unfold qMC at*;split
 .rename_i u;simp only[u]at q;exact λd=>h _ _ (q d)
 .rename_i o u;simp only[u]at q;split
  .rename_i A;simp only[A,zBA]at q;exact λd=>Oper.IQ h (q d)
  .rename_i A;simp only[A]at q;exact λd=>h _ _ (q d)
def qhE(E:Env P)(r:zy Z)(ops:zS zDA)(K:zDz->zp->Prop):F Z->zDz->zp->Prop
 |[],a,w=>∀d,K a (w.at d)
 |i::rest,a,w=>qMC E r ops i (qhE E r ops K rest) a w
section
variable{b:zAm}{a:zDz}{k:F Item}{cs:F zAm}{w:zp}{ops:zS zDA}{i:Z}{rest:F Z}{o:zDA}
def lst(P:zv)(fr:zAm)(s:Sem Next)(w:zp):zS Event:=Go.seen P fr.fn (if fr.kind==CallKind.early then #[]else s.events P w #[])
def qRF{fr}{s:Sem Next}(h:s.Calm P)(w):CA (lst P fr s w):=by
 have:=Calm.hear (P:=P) h w #[] qdD;rw[zBn]at this;unfold lst;split
 .exact CA.seen qdD
 .exact CA.seen this
section
variable{fr:zAm}{s:Sem Next}{w':zp}
def qHD{v}(h:s.run P w=.ok (.value v) w'):stepG.apply P I fr cs zc s w=.go (G (fr.finish v) cs) w' (lst P fr s w):=by
 simp[stepG.apply,zBn,h,zBF,lst,G]
def qLJ(h:s.run P w=.ok .skip w'):stepG.apply P I fr cs zc s w=.go (G (fr.finish zAU) cs) w' (lst P fr s w):=by
 simp[stepG.apply,zBn,h,zBF,lst,G]
def qLL{d}(h:s.run P w=.ok (.defer d) w'):stepG.apply P I fr cs zc s w=.go (G ({fr with defers:=d::fr.defers}.finish zAU) cs) w' (lst P fr s w):=by
 simp[stepG.apply,zBn,h,zBF,lst,G]
def qvH{f}{args}(q:∀d r v k,fr.todo≠.call d I r v::k)(h:s.run P w=.ok (.enter f args) w'):stepG.apply P I fr cs zc s w=.go (G (zAR P f args .normal) (fr::cs)) w' (lst P fr s w):=by
 have:(match fr.todo with|.call _ I _ _::_=>CallKind.wrapped|_=>.normal)=CallKind.normal:=by
  split
  .exact absurd ‹_› (q _ _ _ _)
  .rfl
 simp only[stepG.apply,zBn,h,zBF,lst,G,this,zBA,Array.append_empty]
def qAR{l}{f}{tmps}{assign q}(h:s.run P w=.ok (.round l f tmps assign q) w'):stepG.apply P I fr cs zc s w=.go (G (Frame.round l f tmps assign q .normal) (fr::cs)) w' (lst P fr s w):=by
 simp[stepG.apply,zBn,h,zBF,lst,G]
end
def qlR(D:ops[i]?=O o)(L:zAl o (yielded ops a.tmps)=I){K}(h:∀d,o.atX E b.roundOf a (w.at d) K)(q:∀a' w',K a' w'->E.G (G (b.atR a' (.inRegion ops rest::k)) cs) w'):E.G (G (b.atR a (.inRegion ops (i::rest)::k)) cs) w:=by
 refine .one rfl λd=>?_;obtain⟨u,h⟩:=h d
 have A:∀(a:zDz)v,(b.atR a (.inRegion ops (i::rest)::k)).finish v=b.atR (a.put o.dst v) (.inRegion ops rest::k):=by
  intro a v;rw[zBc,D];rfl
 rw[qzM D L];generalize B:(o.semAt b.roundOf a.eval).run P (w.at d)=R at h
 match R,h with
 |.ok (.value v) w',h=>exact⟨_,_,_,qHD B,h.1,qRF u _,by rw[A];exact q _ _ h.2⟩
 |.ok .skip w',h=>exact⟨_,_,_,qLJ B,h.1,qRF u _,by rw[A];exact q _ _ h.2⟩
 |.ok (.defer H) w',h=>exact⟨_,_,_,qLL B,h.1,qRF u _,by
   have:=A {a with defers:=H::a.defers} zAU
   exact(show E.G (G ((b.atR {a with defers:=H::a.defers} (.inRegion ops (i::rest)::k)).finish zAU) cs) w' from by rw[this];exact q _ _ h.2)⟩
 |.ok (.enter f args) w',h=>exact⟨_,_,_,qvH (λ_ _ _ _ e=>by simp[zAM]at e) B,h.1,qRF u _,h.2 _ cs λv T C=>by rw[A];exact q _ _ C⟩
 |.ok (.round l f tmps assign U) w',h=>exact⟨_,_,_,qAR B,h.1,qRF u _,h.2 _ cs λv T C=>by rw[A];exact q _ _ C⟩
def qBM{K}(B:∀a' w',K a' w'->E.G (G (b.atR a' k) cs) w'):∀(l:F Z)(a:zDz)(w:zp),qhE E b.roundOf ops K l a w->E.G (G (b.atR a (.inRegion ops l::k)) cs) w:=by
 intro l
 induction l with
 |nil=>exact λa w h=>.quiet rfl (λ_=>qyA) (B _ _ (h w.drawn))
 |cons i rest A=>
  intro a w h;simp only[qhE,qMC]at h;cases q:ops[i]? with
  |none=>
   simp only[q]at h;have:=A a w (h w.drawn);refine .quiet rfl (λw=>qnG (by simp[q])) ?_;simpa[q,zBf]using this
  |some o=>
   simp only[q]at h;by_cases u:zAl o (yielded ops a.tmps)=I
   .simp only[u,zBA]at h;exact qlR q u h A
   .simp only[u,zCD,zA2]at h;have:=A _ w (h w.drawn);refine .quiet rfl (λw=>qnG (by simp[q];simpa using u)) ?_;simpa[q]using this
end
section
variable{r:zy Z}{Q:Exit->zDz->zp->Prop}{a:zDz}{w:zp}{ops:zS zDA}
def qgE{id}(h:qhE E r ops (Q .normal) (zA8 ops.size) a w):(Code.region id ops zb).wpX E r Q a w:=λb k cs q u=>by
 subst q;exact .quiet rfl (λ_=>qPC) (qBM (λA w' B=>u .normal A w' B) _ _ _ h)
def q2H(E:Env P)(r:zy Z)(ops:zS zDA)(K:zDz->zp->Prop):Z->zS zO->zDz->zp->Prop
 |0,listed,a,w=>zAB .any ops listed=[]/\∀d,K a (w.at d)
 |fuel+1,listed,a,w=>
  (zAB .any ops listed=[]->∀d,K a (w.at d))/\
  ∀i∈zAB .any ops listed,qMC E r ops i (q2H E r ops K fuel (listed.setIfInBounds i I)) a w
def qpT{K}:∀(fuel t:Z)(listed:zS zO)(a:zDz)(w:zp),q2H E r ops K fuel listed a w->qhE E r ops K (Region.linearise.go .any ops fuel t listed []) a w:=by
 intro fuel
 induction fuel with
 |zero=>intro t listed a w h;simpa[Region.linearise.go,qhE]using h.2
 |succ fuel u=>
  intro t listed a w h
  have e:Region.linearise.go .any ops (fuel+1) t listed []=match(zAB .any ops listed)[t%(zAB .any ops listed).length]? with
   |some i=>Region.linearise.go .any ops fuel (t / (zAB .any ops listed).length) (listed.setIfInBounds i I) [i]
   |none=>[].reverse:=rfl
  rw[e];split
  .rename_i i q;rw[linearise_go_acc];exact qlG (λa w=>u _ _ a w) (h.2 i (zh q))
  .rename_i q;refine h.1 ?_;cases A:zAB .any ops listed with
   |nil=>rfl
   |cons x B=>
    rw[A]at q;rw[zB4]at q;exact absurd (Nat.mod_lt t (show 0<(x::B).length by simp)) sa
def qJD{id}(hm:P.follows .mixedOrders=I)(h:q2H E r ops (Q .normal) ops.size (zAP ops.size zb) a w):(Code.region id ops I).wpX E r Q a w:=λb k cs q u=>by
 subst q;refine .one rfl λd=>⟨_,_,_,qlL,λ_ _=>rfl,qdD,?_⟩
 have:E.G (G (b.atR a (.inRegion ops (Region.schedule (P.follows .mixedOrders) ops ((w.at d).tape (w.at d).drawn (.order b.fn id)))::k)) cs) w:=by
  refine qBM (λA w' B=>u .normal A w' B) _ _ _ ?_;simp only[Region.schedule,hm,Bool.true_or,zBA];exact qpT _ _ _ _ _ h
 exact this.at _
end
end
end Go.Proofs.YtlmhpamhhgogaaaGreat.Sx
namespace Go.Proofs.YtlmhpamhhgogaaaGreat.Sx
open Go.RowKit
inductive SV where
 |v (x:zg)
 |b (x:zO)
 |p (id b off:Z)
 |sl (id b off len cap:Z)
 |row (id:Z) (oa:zy zAI) (n cap:Z)
 |re (id:Z) (oa:zy zAI) (n cap:Z) (j:Z)
 |fn (f:Fn) (first caps:F SV)
 |yl (id l:Z)
 |mp (id r:Z)
 |agg (l:F SV)
 |tup (l:F SV)
mutual
def Ag:SV->zg
 |.v x=>x
 |.b x=>.bool x
 |.p _ b o=>.pointer (O ⟨b,o,zc⟩)
 |.sl _ b o n c=>.slice (O ⟨b,o,zc⟩) n c
 |.row _ oa n cap=>.slice oa n cap
 |.re _ oa _ _ j=>.pointer (oa.map (·.add j))
 |.fn f a c=>.func f (qCA a).toArray (qCA c).toArray
 |.yl _ l=>.func (.yield l) #[] #[]
 |.mp _ r=>.map (O r)
 |.agg l=>.agg (qCA l).toArray
 |.tup l=>.tuple (qCA l).toArray
def qCA:F SV->F zg
 |[]=>[]
 |x::r=>Ag x::qCA r
end
def qgA(l):qCA l=l.map Ag:=by
 induction l with
 |nil=>rfl
 |cons x r h=>simp[qCA,h]
abbrev Sl:=F (Z×SV)
def AS:Sl->Z->zy SV
 |[],_=>zc
 |(k,x)::r,n=>match zAL k n with
  |true=>O x
  |false=>AS r n
structure GW where
 w:zp
 g:Z->Prop
 wf:∀n,g n->n<w.heap.size
def GW.le(a b:GW):Prop:=a.w.heap.size<=b.w.heap.size/\∀n,a.g n->b.g n/\b.w.heap[n]?=a.w.heap[n]?
instance:LE GW:=⟨GW.le⟩
def GW.refl(a:GW):a<=a:=⟨zH _,λ_ h=>⟨h,rfl⟩⟩
def GW.trans{a b c:GW}(h:a<=b)(k:b<=c):a<=c:=
 ⟨zY h.1 k.1,λn q=>⟨(k.2 n (h.2 n q).1).1,(k.2 n (h.2 n q).1).2.trans (h.2 n q).2⟩⟩
def Good(g:GW)(w:zp):Prop:=g.w.heap.size<=w.heap.size/\∀n,g.g n->w.heap[n]?=g.w.heap[n]?
def Good.refl(g):Good g g.w:=⟨zH _,λ_ _=>rfl⟩
def Good.of_le{a b}{w}(h:a<=b)(k:Good b w):Good a w:=
 ⟨zY h.1 k.1,λn q=>(k.2 n (h.2 n q).1).trans (h.2 n q).2⟩
def GW.next(g:GW)(w w':zp):GW:=
 ⟨w',λn=>n<w'.heap.size/\(g.g n\/w.heap.size<=n),λ_ h=>h.1⟩
def GW.le_next{g}{w w'}(h:Good g w)(q:Below w.heap.size w w'):g<=g.next w w':=by
 refine⟨zY h.1 q.size,λn u=>?_⟩;have A:n<w.heap.size:=zQ (g.wf n u) h.1;exact⟨⟨zQ A q.size,.inl u⟩,(q.block n A).trans (h.2 n u)⟩
def GW.more(g:GW)(w:zp)(bs:F Z):GW:=
 ⟨w,λn=>n<w.heap.size/\(g.g n\/n∈bs),λ_ h=>h.1⟩
def GW.Gn{g}{w}(h:Good g w)(bs):g<=g.more w bs:=
 ⟨h.1,λn q=>⟨⟨zQ (g.wf n q) h.1,.inl q⟩,h.2 n q⟩⟩
def Rc(g:GW)(a:zAI)(x:zg):Prop:=g.g a.block/\g.w.cell? a=O x
def Rc.mono{g g'}{a}{x}(h:Rc g a x)(k:g<=g'):Rc g' a x:=
 ⟨(k.2 _ h.1).1,by rw[World.cell?_of_block (k.2 _ h.1).2];exact h.2⟩
def Rc.at{g}{a}{x}(h:Rc g a x){w}(k:Good g w):w.cell? a=O x:=by
 rw[World.cell?_of_block (k.2 _ h.1)];exact h.2
def CQ(g:GW)(size:Z)(x:zg)(n:Z)(cs:F zg):Prop:=
 cs.length=n*size/\∃h cap,x=.slice h n cap/\n<=cap/\cap<=zAp/\(h=zc->n=0/\cap=0)/\∀i q,cs[i]?=O q->∃a,h=O a/\Rc g (a.add i) q
def CQ.mono{g g'}{size}{x}{n}{cs}(h:CQ g size x n cs)(k:g<=g'):CQ g' size x n cs:=by
 obtain⟨q,u,cap,A,B,C,D,E⟩:=h;exact⟨q,u,cap,A,B,C,D,λi H L=>let⟨a,P,Q⟩:=E i H L;⟨a,P,Q.mono k⟩⟩
def Ok(P:zv)(f:zA5)(args:F zg)(g:GW)(Q:zg->GW->Prop):Prop:=
 ∀w,Good g w->∀h:Env P,h.N<=w.heap.size->BI h f args.toArray w λe q=>∃v,e=.returned v/\Below w.heap.size w q/\Q v (g.next w q)
def OkV(P:zv)(f:zA5)(args:F zg)(g:GW)(v:zg):Prop:=Ok P f args g λh _=>h=v
def Ok.mono{P}{f}{args}{g}{Q q}(h:Ok P f args g Q)(B:∀v g',g<=g'->Q v g'->q v g'):Ok P f args g q:=
 λw u C hE=>(h w u C hE).mono λ_ _⟨v,D,A,E⟩=>⟨v,D,A,B v _ (GW.le_next u A) E⟩
def Ok.of_same{P}{f}{args}{g}{v}(h:∀w(E:Env P),BI E f args.toArray w λe w'=>e=.returned v/\Below w.heap.size w w'):OkV P f args g v:=
 λw _ E _=>(h w E).mono λ_ _⟨q,u⟩=>⟨v,q,u,rfl⟩
inductive Ex where
 |normal
 |exit (n:Z)
 |ret
 |goto (n:Z)
def Ex.to:Ex->Exit
 |.normal=>.normal
 |.exit n=>.exit n
 |.ret=>.ret
 |.goto n=>.goto n
def Ex.code:Ex->zDE
 |.normal=>.skip
 |.exit n=>.exit n
 |.ret=>.ret
 |.goto n=>.goto n
inductive LpS where
 |ready
 |busy
 |jump (e:Ex)
def qQI(r:Loop):LpS->Loop
 |.ready=>{r with state:=.ready,pending:=zc}
 |.busy=>{r with state:=.busy,pending:=zc}
 |.jump e=>{r with state:=.done,pending:=O e.code}
inductive Ky where
 |i (n:zt)
 |s (b:ByteArray)
 |p (a b:zt)
inductive KyT where
 |int (ik:IntKind)
 |str
 |two
abbrev KyT.i64:KyT:=.int .i64
def KyT.v:KyT->Ky->zg
 |.int h,.i n=>.int h n
 |.str,.s b=>.string b
 |.two,.p a b=>.agg ⟨[.int .i64 a,.int .i64 b]⟩
 |_,_=>.nilFunc
def KyT.fit:KyT->Ky->zO
 |.int _,.i _=>I
 |.str,.s _=>I
 |.two,.p _ _=>I
 |_,_=>zb
def KyT.fits(h:KyT):F (Ky×zg)->zO
 |[]=>I
 |(k,_)::r=>h.fit k&&h.fits r
def mkE(h:KyT):Z->F (Ky×zg)->F MapEntry
 |_,[]=>[]
 |b,(n,v)::r=>{key:=h.v n,val:=v,born:=b}::mkE h (b+1) r
inductive Res where
 |blk (id b:Z) (ty:zAw) (cells:F SV)
 |row (id:Z) (oa:zy zAI) (n cap:Z) (ety:zAw) (size:Z) (cs:F zg)
 |lp (id l:Z) (r:Loop) (j:LpS)
 |mk (b:Z)
 |mp (id r:Z) (ik:KyT) (es:F (Ky×zg))
def Res.bk:Res->F Z
 |.blk _ b _ _=>[b]
 |.row _ h _ _ _ _ _=>match h with
  |some a=>[a.block]
  |none=>[]
 |.lp _ l _ _=>[l]
 |.mk b=>[b]
 |.mp _ r _ _=>[r]
def Res.holds:Res->zp->Prop
 |.blk _ b q cells,w=>w.heap[b]?=O (.cells (qCA cells).toArray q (0,0))/\∀c∈cells,(Ag c).oneCell'=I
 |.row _ u n cap A size cs,w=>w.ownsRow 0 A size (.slice u n cap) n cs/\∀B∈cs,B.oneCell'=I
 |.lp _ l r j,w=>w.heap[l]?=O (.loop (qQI r j))
 |.mk b,w=>w.heap[b]?=O (.deferred (O []))
 |.mp _ r h es,w=>w.heap[r]?=O (.map ⟨mkE h 0 es⟩ es.length)/\h.fits es=I
def Res.holds_of{r:Res}{w w':zp}(h:∀b∈r.bk,w'.heap[b]?=w.heap[b]?)(k:r.holds w):r.holds w':=by
 cases r with
 |blk id b E cells=>exact⟨(h b so).trans k.1,k.2⟩
 |lp id l r j=>exact(h l so).trans k
 |mk b=>exact(h b so).trans k
 |mp id r H es=>exact⟨(h r so).trans k.1,k.2⟩
 |row id L n cap P size cs=>
  obtain⟨⟨A,q⟩,B⟩:=k;refine⟨⟨A,?_⟩,B⟩;rcases q with q|⟨g,Q,cur,u,C,D,r⟩
  .exact .inl q
  .simp only[zAg]at u;obtain⟨rfl,_,rfl⟩:=u;exact .inr ⟨g,cap,cur,rfl,C,(h g so).trans D,r⟩
def Res.FW{r:Res}{w:zp}(k:r.holds w){b:Z}(h:b∈r.bk):b<w.heap.size:=by
 have q:∀{n:Z}{o:Obj},w.heap[n]?=O o->n<w.heap.size:=λA=>(zAb.1 A).1;cases r with
 |blk id b D cells=>simp[Res.bk]at h;subst h;exact q k.1
 |lp id l r j=>simp[Res.bk]at h;subst h;exact q k
 |mk b=>simp[Res.bk]at h;subst h;exact q k
 |mp id r E es=>simp[Res.bk]at h;subst h;exact q k.1
 |row id H n cap L size cs=>
  obtain⟨⟨P,B⟩,Q⟩:=k;rcases B with⟨u,_⟩|⟨g,R,cur,u,T,C,r⟩
  .simp only[zAg]at u;obtain⟨rfl,_,rfl⟩:=u;simp[Res.bk]at h
  .simp only[zAg]at u;obtain⟨rfl,_,rfl⟩:=u;simp[Res.bk]at h;subst h;exact q C
structure Hs where
 g:GW
 rs:F Res
 nx:Z
 lo:Z
def Hs.bks(hs:Hs):F Z:=hs.rs.flatMap Res.bk
structure Fr where
 w:zp
 pr:Z->Prop
 g0:Z->Prop
 wf:∀n,pr n->n<w.heap.size
structure Fr.ok(fr:Fr)(w:zp):Prop where
 os:w.os=fr.w.os
 tape:w.tape=fr.w.tape
 output:w.output=fr.w.output
 size:fr.w.heap.size<=w.heap.size
 block:∀n,fr.pr n->w.heap[n]?=fr.w.heap[n]?
structure Ap(fr:Fr)(hs:Hs)(w:zp):Prop where
 AJ:Good hs.g w
 frm:fr.ok w
 res:∀r∈hs.rs,r.holds w
 nod:hs.bks.Nodup
 fre:∀b∈hs.bks,¬hs.g.g b/\¬fr.pr b
 fz:∀n,fr.pr n->hs.g.g n->fr.g0 n
 own:∀n,hs.lo<=n->hs.g.g n->¬fr.pr n
 low:hs.lo<=w.heap.size/\∀b∈hs.bks,hs.lo<=b
def Ap.lt{fr:Fr}{hs}{w}(h:Ap fr hs w){b}(q:b∈hs.bks):b<w.heap.size:=by
 obtain⟨r,u,A⟩:=zBM.1 q;exact Res.FW (h.res r u) A
def Ap.agree{fr:Fr}{hs}{w w'}(h:Ap fr hs w)(q:Below w.heap.size w w'):Ap fr hs w':=by
 refine⟨⟨zY h.AJ.1 q.size,λn u=>?_⟩,⟨q.os.trans h.frm.os,q.tape.trans h.frm.tape,q.output.trans h.frm.output,zY h.frm.size q.size,λn u=>?_⟩,λr A=>?_,h.nod,h.fre,h.fz,h.own,zY h.low.1 q.size,h.low.2⟩
 .exact(q.block n (zQ (hs.g.wf n u) h.AJ.1)).trans (h.AJ.2 n u)
 .exact(q.block n (zQ (fr.wf n u) h.frm.size)).trans (h.frm.block n u)
 .exact Res.holds_of (λb B=>q.block b (Res.FW (h.res r A) B)) (h.res r A)
def Ap.called{fr:Fr}{hs}{w w'}(h:Ap fr hs w)(C:Below w.heap.size w w'):Ap fr {hs with g:=hs.g.next w w'} w':=by
 have A:=h.agree C;refine⟨Good.refl _,A.frm,A.res,h.nod,λb B=>⟨λq=>?_,(h.fre b B).2⟩,λn u q=>?_,λn D q u=>?_,A.low⟩
 .have E:=h.lt B;rcases q.2 with q|q
  .exact(h.fre b B).1 q
  .omega
 .rcases q.2 with q|q
  .exact h.fz n u q
  .have:=fr.wf n u;have:=h.frm.size;omega
 .rcases q.2 with q|q
  .exact h.own n D q u
  .have:=fr.wf n u;have:=h.frm.size;omega
def Ap.at{fr:Fr}{hs}{w}(h:Ap fr hs w)(d):Ap fr hs (w.at d):=h.agree ⟨rfl,rfl,rfl,zH _,λ_ _=>rfl⟩
def Fr.has{P:zv}(fr:Fr)(E:Env P):Prop:=∀n,n<E.N->fr.pr n
def Ap.keep{P:zv}{E:Env P}{fr:Fr}{hs A:Hs}{w w':zp}(h:Ap fr hs w)(k:Ap fr A w')(q:fr.has E):B8 E.N w w':=λn u=>(k.frm.block n (q n u)).trans (h.frm.block n (q n u)).symm
def Ap.N{P:zv}{E:Env P}{fr:Fr}{hs:Hs}{w:zp}(h:Ap fr hs w)(q:fr.has E):E.N<=w.heap.size:=by
 rcases zAJ w.heap.size E.N with u|A
 .have:=fr.wf _ (q _ u);have:=h.frm.size;omega
 .exact A
def Below.AT(w)(o):Below w.heap.size w (w.alloc o):=(Below.refl _ _).alloc (zH _) o
def Ap.Ep{fr:Fr}{hs}{w w'}(h:Ap fr hs w)(D:Below w.heap.size w w'){r}{nx}(E:r.holds w')(A:∀b∈r.bk,w.heap.size<=b)(H:r.bk.Nodup):Ap fr {hs with rs:=r::hs.rs,nx:=nx} w':=by
 have u:=h.agree D;refine⟨u.AJ,u.frm,λx B=>?_,?_,λb C=>?_,h.fz,h.own,u.low.1,λb C=>?_⟩
 .rcases zs.1 B with rfl|B
  .exact E
  .exact u.res x B
 .show(r.bk++hs.bks).Nodup;refine zBk.2 ⟨H,h.nod,λa L b q P=>?_⟩;subst P;have:=A a L;have:=h.lt q;omega
 .rcases zN.1 (show b∈r.bk++hs.bks from C)with q|q
  .have:=A b q;exact⟨λQ=>by have:=hs.g.wf b Q;have:=h.AJ.1;omega,λR=>by have:=fr.wf b R;have:=h.frm.size;omega⟩
  .exact h.fre b q
 .rcases zN.1 (show b∈r.bk++hs.bks from C)with q|q
  .exact zY h.low.1 (A b q)
  .exact h.low.2 b q
def Ap.sub{fr:Fr}{hs}{w}(h:Ap fr hs w){rs}{nx}(q:rs.Sublist hs.rs):Ap fr {hs with rs:=rs,nx:=nx} w:=by
 have u:(rs.flatMap Res.bk).Sublist hs.bks:=by
  unfold Hs.bks;generalize hs.rs=l at q
  induction q with
  |slnil=>exact .slnil
  |cons a _ A=>rw[zCr];exact A.trans (List.sublist_append_right _ _)
  |cons_cons a _ A=>rw[zCr,zCr];exact zCw (zCa _) A
 exact⟨h.AJ,h.frm,λr C=>h.res r (q.subset C),h.nod.sublist u,λb B=>h.fre b (u.subset B),h.fz,h.own,h.low.1,λb B=>h.low.2 b (u.subset B)⟩
def Ap.upd{fr:Fr}{hs}{w w'}(h:Ap fr hs w){l1 B}{C r1}{nx}(R:hs.rs=l1++C::B)(ah:w'.os=w.os)(ai:w'.tape=w.tape)(aj:w'.output=w.output)(T:w.heap.size<=w'.heap.size)(H:∀k,k<w.heap.size->k∉C.bk->w'.heap[k]?=w.heap[k]?)(ak:r1.holds w')(U:∀b∈r1.bk,b∈C.bk\/w.heap.size<=b)(al:r1.bk.Nodup):Ap fr {hs with rs:=l1++r1::B,nx:=nx} w':=by
 have L:hs.bks=l1.flatMap Res.bk++(C.bk++B.flatMap Res.bk):=by simp[Hs.bks,R]
 have ad:=h.nod;rw[L]at ad;obtain⟨am,an,d1⟩:=zBk.1 ad;obtain⟨au,ao,d2⟩:=zBk.1 an;have ae:∀b∈l1.flatMap Res.bk,b∉C.bk:=λb q V=>d1 b q b (zN.2 (.inl V)) rfl;have af:∀b∈B.flatMap Res.bk,b∉C.bk:=λb q V=>d2 b V b q rfl;have P:∀b∈C.bk,b∈hs.bks:=λb q=>by rw[L];simp[q]
 have W:∀b∈l1.flatMap Res.bk,b∈hs.bks:=λb q=>by rw[L];exact zN.2 (.inl q)
 have Y:∀b∈B.flatMap Res.bk,b∈hs.bks:=λb q=>by rw[L];exact zN.2 (.inr (zN.2 (.inr q)))
 have ag:∀b∈r1.bk,b∉l1.flatMap Res.bk/\b∉B.flatMap Res.bk:=λb q=>by
  rcases U b q with u|u
  .exact⟨λA=>ae b A u,λaa=>af b aa u⟩
  .exact⟨λA=>by have:=h.lt (W b A);omega,λaa=>by have:=h.lt (Y b aa);omega⟩
 have ab:Hs.bks {hs with rs:=l1++r1::B,nx:=nx}=l1.flatMap Res.bk++(r1.bk++B.flatMap Res.bk):=by simp[Hs.bks]
 refine⟨⟨zY h.AJ.1 T,λn D=>?_⟩,⟨ah.trans h.frm.os,ai.trans h.frm.tape,aj.trans h.frm.output,zY h.frm.size T,λn D=>?_⟩,λr ap=>?_,?_,λb q=>?_,h.fz,h.own,zY h.low.1 T,λb q=>?_⟩
 .refine(H n (zQ (hs.g.wf n D) h.AJ.1) λu=>?_).trans (h.AJ.2 n D);exact(h.fre n (P n u)).1 D
 .refine(H n (zQ (fr.wf n D) h.frm.size) λu=>?_).trans (h.frm.block n D);exact(h.fre n (P n u)).2 D
 .rcases zN.1 ap with A|A
  .have E:=h.res r (by rw[R];exact zN.2 (.inl A));exact Res.holds_of (λb q=>H b (Res.FW E q) (ae b (zBM.2 ⟨r,A,q⟩))) E
  .rcases zs.1 A with rfl|A
   .exact ak
   .have E:=h.res r (by rw[R];exact zN.2 (.inr (zs.2 (.inr A))));exact Res.holds_of (λb q=>H b (Res.FW E q) (af b (zBM.2 ⟨r,A,q⟩))) E
 .rw[ab];refine zBk.2 ⟨am,zBk.2 ⟨al,ao,λa Q b q ac=>(ag a Q).2 (ac▸q)⟩,λa Q b q ac=>?_⟩;subst ac;rcases zN.1 q with q|q
  .exact(ag a q).1 Q
  .exact d1 a Q a (zN.2 (.inr q)) rfl
 .rw[ab]at q;rcases zN.1 q with q|q
  .exact h.fre b (W b q)
  .rcases zN.1 q with q|q
   .rcases U b q with u|u
    .exact h.fre b (P b u)
    .exact⟨λaq=>by have:=hs.g.wf b aq;have:=h.AJ.1;omega,λar=>by have:=fr.wf b ar;have:=h.frm.size;omega⟩
   .exact h.fre b (Y b q)
 .rw[ab]at q;rcases zN.1 q with q|q
  .exact h.low.2 b (W b q)
  .rcases zN.1 q with q|q
   .rcases U b q with u|u
    .exact h.low.2 b (P b u)
    .exact zY h.low.1 u
   .exact h.low.2 b (Y b q)
def Ap.freeze{fr:Fr}{hs}{w}(h:Ap fr hs w){l1 u}{D}{nx}(C:hs.rs=l1++D::u):Ap fr {g:=hs.g.more w D.bk,rs:=l1++u,nx:=nx,lo:=hs.lo} w:=by
 have E:hs.bks=l1.flatMap Res.bk++(D.bk++u.flatMap Res.bk):=by simp[Hs.bks,C]
 have P:=h.nod;rw[E]at P;obtain⟨T,Q,d1⟩:=zBk.1 P;obtain⟨U,V,d2⟩:=zBk.1 Q;have A:=h.sub (rs:=l1++u) (nx:=nx) (by rw[C];exact zCw (zCa _) (zCh _ _));refine⟨Good.refl _,h.frm,A.res,A.nod,λb H=>⟨λq=>?_,(A.fre b H).2⟩,λn B q=>?_,λn C q B=>?_,A.low⟩
 .rcases q.2 with q|q
  .exact(A.fre b H).1 q
  .have R:b∈l1.flatMap Res.bk++u.flatMap Res.bk:=by simpa[Hs.bks]using H
   rcases zN.1 R with L|L
   .exact d1 b L b (zN.2 (.inl q)) rfl
   .exact d2 b q b L rfl
 .rcases q.2 with q|q
  .exact h.fz n B q
  .exact absurd B (h.fre n (by rw[E];simp[q])).2
 .rcases q.2 with q|q
  .exact h.own n C q B
  .exact absurd B (h.fre n (by rw[E];simp[q])).2
def Fr.le(a b:Fr):Prop:=(∀w,b.ok w->a.ok w)/\(∀n,a.pr n->b.pr n/\(b.g0 n->a.g0 n))
def Fr.has.up{P:zv}{E:Env P}{a b:Fr}(h:a.has E)(k:a.le b):b.has E:=λn q=>(k.2 n (h n q)).1
def Fr.refl(a:Fr):a.le a:=⟨λ_ h=>h,λ_ h=>⟨h,λh=>h⟩⟩
def Fr.trans{a b c:Fr}(h:a.le b)(k:b.le c):a.le c:=⟨λw u=>h.1 w (k.1 w u),λn q=>⟨(k.2 n (h.2 n q).1).1,λA=>(h.2 n q).2 ((k.2 n (h.2 n q).1).2 A)⟩⟩
def Ap.EQ{a b:Fr}{hs}{w}(h:Ap b hs w)(k:a.le b):Ap a hs w:=
 ⟨h.AJ,k.1 w h.frm,h.res,h.nod,λn A=>⟨(h.fre n A).1,λq=>(h.fre n A).2 (k.2 n q).1⟩,λn q u=>(k.2 n q).2 (h.fz n (k.2 n q).1 u),λn B u q=>h.own n B u (k.2 n q).1,h.low⟩
structure Upd(g:GW)(b:Z)(o:Obj)(g':GW):Prop where
 dom:∀n,g'.g n<->g.g n
 obj:g'.w.heap[b]?=O o
 other:∀n,g.g n->n≠b->g'.w.heap[n]?=g.w.heap[n]?
 size:g.w.heap.size<=g'.w.heap.size
def Upd.le{g g' g0}{b}{o}(h:Upd g b o g')(k:g0<=g)(u:¬g0.g b):g0<=g':=
 ⟨zY k.1 h.size,λn q=>⟨(h.dom n).2 (k.2 n q).1,(h.other n (k.2 n q).1 λe=>u (e▸q)).trans (k.2 n q).2⟩⟩
structure G9(g:GW)(b:Z)(g':GW):Prop where
 dom:∀n,g'.g n<->g.g n/\n≠b
 other:∀n:Z,g'.w.heap[n]?=g.w.heap[n]?
 size:g.w.heap.size=g'.w.heap.size
def G9.le{g g' g0}{b}(h:G9 g b g')(k:g0<=g)(u:¬g0.g b):g0<=g':=
 ⟨h.size▸k.1,λn q=>⟨(h.dom n).2 ⟨(k.2 n q).1,λe=>u (e▸q)⟩,(h.other n).trans (k.2 n q).2⟩⟩
def GW.less(g:GW)(b:Z):GW:=⟨g.w,λn=>g.g n/\n≠b,λn h=>g.wf n h.1⟩
def GW.Ie(g)(b):G9 g b (g.less b):=⟨λ_=>Iff.rfl,λ_=>rfl,rfl⟩
def Ap.H9{fr:Fr}{hs}{w w'}(h:Ap fr hs w){b}{o}(D:hs.lo<=b)(B:hs.g.g b)(E:w'.os=w.os)(H:w'.tape=w.tape)(L:w'.output=w.output)(u:w'.heap.size=w.heap.size)(P:w'.heap[b]?=O o)(A:∀k,k≠b->w'.heap[k]?=w.heap[k]?):∃g',Upd hs.g b o g'/\Ap fr ⟨g',hs.rs,hs.nx,hs.lo⟩ w':=by
 have Q:b∉hs.bks:=λhm=>(h.fre b hm).1 B;refine⟨⟨w',hs.g.g,λn q=>by have:=hs.g.wf n q;have:=h.AJ.1;omega⟩,⟨λ_=>Iff.rfl,P,λn q R=>(A n R).trans (h.AJ.2 n q),by rw[u];exact h.AJ.1⟩,?_⟩;refine⟨Good.refl _,⟨E.trans h.frm.os,H.trans h.frm.tape,L.trans h.frm.output,by rw[u];exact h.frm.size,λn q=>?_⟩,λr C=>?_,h.nod,h.fre,h.fz,h.own,by show hs.lo<=w'.heap.size;rw[u];exact h.low.1,h.low.2⟩
 .exact(A n λe=>h.own b D B (e▸q)).trans (h.frm.block n q)
 .exact Res.holds_of (λk T=>A k λe=>Q (e▸zBM.2 ⟨r,C,T⟩)) (h.res r C)
def Ap.thaw{fr:Fr}{hs}{w}(h:Ap fr hs w){r}{b nx}(H:r.bk=[b])(D:hs.lo<=b)(E:hs.g.g b)(L:r.holds w):Ap fr ⟨hs.g.less b,r::hs.rs,nx,hs.lo⟩ w:=by
 have P:b∉hs.bks:=λhm=>(h.fre b hm).1 E;have u:Hs.bks ⟨hs.g.less b,r::hs.rs,nx,hs.lo⟩=b::hs.bks:=by simp[Hs.bks,H]
 refine⟨⟨h.AJ.1,λn Q=>h.AJ.2 n Q.1⟩,h.frm,λx A=>?_,?_,λc q=>?_,λn R B=>h.fz n R B.1,λn T B=>h.own n T B.1,h.low.1,λc q=>?_⟩
 .rcases zs.1 A with rfl|A
  .exact L
  .exact h.res x A
 .rw[u];exact zBo.2 ⟨P,h.nod⟩
 .rw[u]at q;rcases zs.1 q with rfl|q
  .exact⟨λC=>C.2 rfl,h.own _ D E⟩
  .exact⟨λC=>(h.fre c q).1 C.1,(h.fre c q).2⟩
 .rw[u]at q;rcases zs.1 q with rfl|q
  .exact D
  .exact h.low.2 c q
def Br(g:GW)(lo:Z)(ety:zAw)(size:Z)(v:zg)(n:Z)(cs:F zg):Prop:=
 cs.length=n*size/\((v=.slice zc 0 0/\n=0)\/∃b cap h,v=.slice (O ⟨b,0,zc⟩) n cap/\(lo<=b/\g.g b)/\g.w.heap[b]?=O (.cells ⟨cs++h⟩ ety (0,0))/\n<=cap/\cap<=zAp/\(cs++h).length=cap*size)/\∀q∈cs,q.oneCell'=I
def Br.mono{g g'}{lo}{ety}{size}{v}{n}{cs}(h:Br g lo ety size v n cs)(k:g<=g'):Br g' lo ety size v n cs:=by
 obtain⟨A,q,B⟩:=h;refine⟨A,?_,B⟩;rcases q with q|⟨b,cap,C,D,u,E,H⟩
 .exact .inl q
 .exact .inr ⟨b,cap,C,D,⟨u.1,(k.2 b u.2).1⟩,(k.2 b u.2).2.trans E,H⟩
inductive Opd where
 |t (n:Z)
 |c (v:zg)
 |b (x:zO)
 deriving Inhabited
inductive SOp where
 |mov (x:Opd)
 |pick (c a b:Opd)
 |Jc (op:BinOp) (x y:Opd)
 |Lv (op:BinOp) (x y:Opd)
 |Jd (neg:zO) (x y:Opd)
 |Hp (kind:Z) (neg:zO) (x:Opd)
 |GQ (neg:zO) (ks:F Z) (x y:Opd)
 |not (x:Opd)
 |conv(k:IntKind) (x:Opd)
 |len (str:zO) (x:Opd)
 |K8 (x i:Opd)
 |K9 (n size:Z) (agg:zO) (x i:Opd)
 |EW (off:Z) (x:Opd)
 |fld (off size:Z) (agg:zO) (x:Opd)
 |Jl (n size:Z) (x i:Opd)
 |JK (size:Z) (x i:Opd)
 |load (agg:zO) (size:Z) (x:Opd)
 |nck (x:Opd)
 |ext (i:Z) (x:Opd)
 |mkf (f:Fn) (first caps:F Opd)
 |build (zero:F SV) (parts:F (Z×Z×Opd))
 |KC (x:Opd) (lo hi:zy Opd)
 |slc (size:Z) (x:Opd) (lo hi mx:zy Opd)
 |KV (x y:Opd)
 |tos (x:Opd)
 |look (ik:KyT) (z:zg) (ok:zO) (x k:Opd)
 |store (size:Z) (x y:Opd)
 |alloc (ty:zAw) (zero:F SV)
 |box (ty:zAw) (x:Opd)
 |bsl (ety:zAw) (size len:Z) (zero:F SV) (parts:F (Z×Z×Opd))
 |app (ety:zAw) (size bytes:Z) (s x:Opd)
 |msl (ety:zAw) (size bytes:Z) (zero:F zg) (len cap:Opd)
 |cpy (d s:Opd)
 |mkm (ik:KyT)
 |mup (ik:KyT) (m k v:Opd)
 |men (ik:KyT) (z:zg) (m k:Opd)
 |est (m s v:Opd)
 |call (f:zA5) (args:F Opd)
 |H3 (f:zA5) (args:F Opd)
 |Hm (f:Opd) (args:F Opd)
 deriving Inhabited
def qJA:Operand->Opd
 |.tmp t=>.t t
 |.const v=>match v with
  |.bool x=>.b x
  |v=>.c v
 |.global g=>.c (.pointer (O ⟨g,0,zc⟩))
 |.func f=>.c (.func (.func f) #[] #[])
def qYB(P:zv)(t:zAw):zy Z:=(P.info? t).map (·.size)
def BT(P:zv)(t:zAw):zy zO:=match P.underlying t with
 |some (.struct _)=>O I
 |some (.array ..)=>O I
 |some _=>O zb
 |none=>zc
def qrI(P:zv)(t:zAw):zy (F zg):=match(P.info? t).bind (·.zero)with
 |some z=>if z.cells.all (·.oneCell')then O z.cells.toList else zc
 |none=>zc
def quK(P:zv)(r:zAw->zy (F Z)):F Field->Z->zy (F Z)
 |[],_=>O []
 |f::h,o=>match r f.type,qYB P f.type,BT P f.type with
  |some ks,O size,O _=>if f.offset=o/\f.name≠ "_" /\size=ks.length then match quK P r h (o+ks.length)with
   |some l=>O (ks++l)
   |none=>zc
   else zc
  |_,_,_=>zc
def qQG(ks:F Z):Z->F Z
 |0=>[]
 |n+1=>ks++qQG ks n
def q0D(P:zv):Z->zAw->zy (F Z)
 |0,_=>zc
 |d+1,t=>match P.underlying t with
  |some (.int _)=>O [0]
  |some .string=>O [1]
  |some .bool=>O [2]
  |some (.struct h)=>if P.stoodInHeld t then zc else quK P (q0D P d) h.toList 0
  |some (.array n e)=>match q0D P d e,P.info? e,BT P e with
   |some ks,O i,O _=>if i.size=ks.length then O (qQG ks n)else zc
   |_,_,_=>zc
  |_=>zc
def eqT(P:zv)(t:zAw):zy (F Z):=match q0D P 8 t with
 |some ks=>if P.eqGuardType P.depth t then zc else O ks
 |none=>zc
def q6R:zy Operand->zO
 |none=>I
 |some (.const (.int ..))=>I
 |_=>zb
def I8(P:zv)(f:Field)(o:Z):zO:=(f.name != "_") &&(f.offset==o &&match P.underlying f.type with
 |some (.int .i64)=>I
 |_=>zb)
def Gi(P:zv)(h:zAw):zy KyT:=match P.underlying h with
 |some (.int q)=>O (.int q)
 |some .string=>O .str
 |some (.struct u)=>match u.toList with
  |[f,g]=>match I8 P f 0&&(I8 P g 1&&((q0D P 3 h==O [0,0])&&(BT P h==O I)))with
   |true=>O .two
   |false=>zc
  |_=>zc
 |_=>zc
def GK(P:zv)(t:zAw):zy (KyT×zAw):=match P.underlying t with
 |some (.map h q)=>match Gi P h with
  |some u=>O (u,q)
  |none=>zc
 |_=>zc
def qPI{P}{t}{u}{A}(h:GK P t=O (u,A)):∃q,P.underlying t=O (.map q A)/\Gi P q=O u:=by
 unfold GK at h;split at h
 .rename_i q D B;split at h
  .rename_i E C;simp at h;obtain⟨rfl,rfl⟩:=h;exact⟨q,B,C⟩
  .cases h
 .cases h
def q1P(fn:Func):zO:=fn.results.isEmpty||fn.name== "(hydrant/collect.work).done" ||fn.name== "(*hydrant/linear.Mesh).Take" ||fn.name== "(*hydrant/run.thread).step" ||fn.name== "hydrant/serve.Serve" ||fn.name== "hydrant/hydranttop.simple"
def Ea(P:zv)(o:zDA):zy SOp:=
 match o.op with
 |.move x=>O (.mov (qJA x))
 |.assign x=>O (.mov (qJA x))
 |.pick c a b=>O (.pick (qJA c) (qJA a) (qJA b))
 |.binOp op t x y _=>match P.underlying t,op with
  |some (.int _),op=>O (.Jc op (qJA x) (qJA y))
  |some .string,op=>O (.Lv op (qJA x) (qJA y))
  |some .bool,.eql=>O (.Jd zb (qJA x) (qJA y))
  |some .bool,.neq=>O (.Jd I (qJA x) (qJA y))
  |some (.slice _),.eql=>match y with
   |.const (.slice zc 0 0)=>O (.Hp 0 zb (qJA x))
   |_=>zc
  |some (.slice _),.neq=>match y with
   |.const (.slice zc 0 0)=>O (.Hp 0 I (qJA x))
   |_=>zc
  |some (.pointer _),.eql=>match y with
   |.const (.pointer zc)=>O (.Hp 1 zb (qJA x))
   |_=>zc
  |some (.pointer _),.neq=>match y with
   |.const (.pointer zc)=>O (.Hp 1 I (qJA x))
   |_=>zc
  |some (.func ..),.eql=>match y with
   |.const .nilFunc=>O (.Hp 2 zb (qJA x))
   |_=>zc
  |some (.func ..),.neq=>match y with
   |.const .nilFunc=>O (.Hp 2 I (qJA x))
   |_=>zc
  |some (.struct _),.eql=>(eqT P t).map λks=>.GQ zb ks (qJA x) (qJA y)
  |some (.struct _),.neq=>(eqT P t).map λks=>.GQ I ks (qJA x) (qJA y)
  |some (.array ..),.eql=>(eqT P t).map λks=>.GQ zb ks (qJA x) (qJA y)
  |some (.array ..),.neq=>(eqT P t).map λks=>.GQ I ks (qJA x) (qJA y)
  |_,_=>zc
 |.unOp .not _ x=>O (.not (qJA x))
 |.convert s d x=>match P.underlying s,P.underlying d with
  |some (.int _),O (.int k)=>O (.conv k (qJA x))
  |some (.slice e),O .string=>match P.underlying e with
   |some (.int .u8)=>O (.tos (qJA x))
   |_=>zc
  |_,_=>zc
 |.index t x i=>match P.underlying t with
  |some .string=>O (.K8 (qJA x) (qJA i))
  |some (.array n e)=>match qYB P e,BT P e with
   |some size,O agg=>O (.K9 n size agg (qJA x) (qJA i))
   |_,_=>zc
  |_=>zc
 |.fieldAddr t x f=>match P.underlying t with
  |some (.struct u)=>match u[f]? with
   |some q=>match qYB P q.type with
    |some (_+1)=>O (.EW q.offset (qJA x))
    |_=>zc
   |none=>zc
  |_=>zc
 |.field t x f=>match P.underlying t with
  |some (.struct u)=>match u[f]? with
   |some q=>match qYB P q.type,BT P q.type with
    |some size,O agg=>O (.fld q.offset size agg (qJA x))
    |_,_=>zc
   |none=>zc
  |_=>zc
 |.indexAddr t x i=>match P.underlying t with
  |some (.slice e)=>match qYB P e with
   |some size=>O (.JK size (qJA x) (qJA i))
   |none=>zc
  |some (.array n e)=>match qYB P e with
   |some size=>O (.Jl n size (qJA x) (qJA i))
   |none=>zc
  |_=>zc
 |.load t x=>match qYB P t,BT P t with
  |some size,O agg=>if 0<size\/agg=I then O (.load agg size (qJA x))else zc
  |_,_=>zc
 |.nilCheck x=>O (.nck (qJA x))
 |.extract x i=>O (.ext i (qJA x))
 |.makeFunc f first E=>O (.mkf f (first.toList.map qJA) (E.toList.map qJA))
 |.slice t x D A B=>match P.underlying t with
  |some .string=>match B with
   |none=>O (.KC (qJA x) (D.map qJA) (A.map qJA))
   |some _=>zc
  |some (.slice e)=>match qYB P e,A,B with
   |some _,zc,O _=>zc
   |some size,_,_=>O (.slc size (qJA x) (D.map qJA) (A.map qJA) (B.map qJA))
   |none,_,_=>zc
  |_=>zc
 |.build t parts=>match qrI P t,P.underlying t with
  |some z,O (.struct u)=>match u.toList.mapM (λf=>(P.info? f.type).map λi=>(f.offset,i.size))with
   |some H=>match parts.toList.mapM (λ(i,x)=>(H[i]?).map λ(o,s)=>(o,s,qJA x))with
    |some L=>O (.build (z.map SV.v) L)
    |none=>zc
   |none=>zc
  |some z,O (.array _ e)=>match qYB P e with
   |some size=>O (.build (z.map SV.v) (parts.toList.map λ(i,x)=>(i*size,size,qJA x)))
   |none=>zc
  |_,_=>zc
 |.store t x y=>match qYB P t with
  |some size=>O (.store size (qJA x) (qJA y))
  |none=>zc
 |.alloc t=>match qrI P t with
  |some z=>O (.alloc t (z.map SV.v))
  |none=>zc
 |.box t x=>O (.box t (qJA x))
 |.buildSlice t len parts=>match P.underlying t with
  |some (.slice e)=>match qYB P e,qrI P e with
   |some size,O z=>if len*size<=2^24/\0<size/\z.length=size then O (.bsl e size len ((zAT len (z.map SV.v)).flatten) (parts.toList.map λ(i,x)=>(i*size,size,qJA x)))else zc
   |_,_=>zc
  |_=>zc
 |.makeSlice t l c=>match P.underlying t with
  |some (.slice e)=>match P.info? e,qrI P e with
   |some i,O z=>if 0<i.size/\z.length=i.size then O (.msl e i.size i.bytes z (qJA l) (qJA c))else zc
   |_,_=>zc
  |_=>zc
 |.makeMap t r=>match GK P t with
  |some (h,_)=>if q6R r then O (.mkm h)else zc
  |none=>zc
 |.insert t m k v=>match GK P t with
  |some (h,_)=>O (.mup h (qJA m) (qJA k) (qJA v))
  |none=>zc
 |.mapUpdate t m k v=>match GK P t with
  |some (h,_)=>O (.mup h (qJA m) (qJA k) (qJA v))
  |none=>zc
 |.mapEntry t m k=>match GK P t with
  |some (h,C)=>match(P.info? C).bind (·.zero)with
   |some z=>O (.men h z (qJA m) (qJA k))
   |none=>zc
  |none=>zc
 |.entryStore _ m s v=>O (.est (qJA m) (qJA s) (qJA v))
 |.lookup t m k ok=>match GK P t with
  |some (h,C)=>match(P.info? C).bind (·.zero)with
   |some z=>O (.look h z ok (qJA m) (qJA k))
   |none=>zc
  |none=>zc
 |.call c=>match c.callee with
  |.builtin .len=>match c.args.toList,c.argTypes.toList with
   |[x],[t]=>match P.underlying t with
    |some .string=>O (.len I (qJA x))
    |some (.slice _)=>O (.len zb (qJA x))
    |_=>zc
   |_,_=>zc
  |.builtin .min=>match c.args.toList with
   |[x,y]=>O (.KV (qJA x) (qJA y))
   |_=>zc
  |.builtin .append=>match c.args.toList,c.argTypes.toList with
   |[s,x],[t,Q]=>match P.underlying t with
    |some (.slice e)=>match P.info? e with
     |some i=>if t=Q/\0<i.size/\(i.zero.any λz=>z.cells.size==i.size)then O (.app e i.size i.bytes (qJA s) (qJA x))else zc
     |none=>zc
    |_=>zc
   |_,_=>zc
  |.builtin .copy=>match c.args.toList,c.argTypes.toList with
   |[d,s],[t,_]=>match P.underlying t with
    |some (.slice e)=>if qYB P e=O 1 then O (.cpy (qJA d) (qJA s))else zc
    |_=>zc
   |_,_=>zc
  |.value (.func f)=>match P.funcs[f]? with
   |some fn=>if fn.body.isSome &&fn.name != "runtime.NumGoroutine" then(match q1P fn with
    |true=>O (.H3 f (c.args.toList.map qJA))
    |false=>O (.call f (c.args.toList.map qJA)))else zc
   |none=>zc
  |.value g=>O (.Hm (qJA g) (c.args.toList.map qJA))
  |_=>zc
 |_=>zc
def qIB(id:Z):F Res->zy (Z×zAw×F SV)
 |[]=>zc
 |.blk k b h cells::r=>match zAL k id with
  |true=>O (b,h,cells)
  |false=>qIB id r
 |_::r=>qIB id r
def qXB(id:Z):F Res->zy (zy zAI×Z×Z×zAw×Z×F zg)
 |[]=>zc
 |.row k h n cap q size cs::r=>match zAL k id with
  |true=>O (h,n,cap,q,size,cs)
  |false=>qXB id r
 |_::r=>qXB id r
def qWD(id:Z):F Res->zy (Z×KyT×F (Ky×zg))
 |[]=>zc
 |.mp k r h es::q=>match zAL k id with
  |true=>O (r,h,es)
  |false=>qWD id q
 |_::r=>qWD id r
def qXG{id}{rs}{r}{u}{es}(h:qWD id rs=O (r,u,es)):∃l1 q,rs=l1++.mp id r u es::q:=by
 induction rs with
 |nil=>simp[qWD]at h
 |cons x rs B=>
  have go:qWD id rs=O (r,u,es)->∃l1 q,x::rs=l1++.mp id r u es::q:=λC=>by
   obtain⟨l1,q,e⟩:=B C;exact⟨x::l1,q,by simp[e]⟩
  cases x with
  |mp k D E H=>
   simp only[qWD]at h;cases A:zAL k id with
   |true=>rw[A]at h;simp at h;obtain⟨rfl,rfl,rfl⟩:=h;obtain rfl:=zP A;exact⟨[],rs,rfl⟩
   |false=>rw[A]at h;exact go h
  |row _ _ _ _ _ _ _=>exact go h
  |blk _ _ _ _=>exact go h
  |lp _ _ _ _=>exact go h
  |mk _=>exact go h
def qdI(id:Z):F Res->zy (Z×Loop×LpS)
 |[]=>zc
 |.lp k l r j::h=>match zAL k id with
  |true=>O (l,r,j)
  |false=>qdI id h
 |_::r=>qdI id r
def qeI{id}{rs}{b}{ty}{cells}(h:qIB id rs=O (b,ty,cells)):∃l1 q,rs=l1++.blk id b ty cells::q:=by
 induction rs with
 |nil=>simp[qIB]at h
 |cons r rs A=>
  have go:qIB id rs=O (b,ty,cells)->∃l1 q,r::rs=l1++.blk id b ty cells::q:=λB=>by
   obtain⟨l1,q,e⟩:=A B;exact⟨r::l1,q,by simp[e]⟩
  cases r with
  |blk k C D E=>
   simp only[qIB]at h;cases u:zAL k id with
   |true=>rw[u]at h;simp at h;obtain⟨rfl,rfl,rfl⟩:=h;obtain rfl:=zP u;exact⟨[],rs,rfl⟩
   |false=>rw[u]at h;exact go h
  |row _ _ _ _ _ _ _=>exact go h
  |lp _ _ _ _=>exact go h
  |mk _=>exact go h
  |mp _ _ _ _=>exact go h
def qZF{id}{rs}{oa}{n cap}{ety}{size}{cs}(h:qXB id rs=O (oa,n,cap,ety,size,cs)):∃l1 q,rs=l1++.row id oa n cap ety size cs::q:=by
 induction rs with
 |nil=>simp[qXB]at h
 |cons r rs A=>
  have go:qXB id rs=O (oa,n,cap,ety,size,cs)->∃l1 q,r::rs=l1++.row id oa n cap ety size cs::q:=λB=>by
   obtain⟨l1,q,e⟩:=A B;exact⟨r::l1,q,by simp[e]⟩
  cases r with
  |row k C D E H L P=>
   simp only[qXB]at h;cases u:zAL k id with
   |true=>rw[u]at h;simp at h;obtain⟨rfl,rfl,rfl,rfl,rfl,rfl⟩:=h;obtain rfl:=zP u;exact⟨[],rs,rfl⟩
   |false=>rw[u]at h;exact go h
  |blk _ _ _ _=>exact go h
  |lp _ _ _ _=>exact go h
  |mk _=>exact go h
  |mp _ _ _ _=>exact go h
def norm(rs:F Res)(x:SV):SV:=match x with
 |.row id h n cap=>match qXB id rs with
  |some _=>.row id h n cap
  |none=>.v (.slice h n cap)
 |.p id b o=>match qIB id rs with
  |some _=>.p id b o
  |none=>.v (.pointer (O ⟨b,o,zc⟩))
 |.sl id b o n c=>match qIB id rs with
  |some _=>.sl id b o n c
  |none=>.v (.slice (O ⟨b,o,zc⟩) n c)
 |x=>x
def q5D(rs)(x):Ag (norm rs x)=Ag x:=by
 cases x<;>simp only[norm]<;>first|rfl|(split<;>rfl)
def qLY(x:SV)(k:SV->Prop):Prop:=match x with
 |.v y=>k (.v y)
 |.b x=>k (.b x)
 |.p i b o=>k (.p i b o)
 |.sl i b o n c=>k (.sl i b o n c)
 |.row i a n c=>k (.row i a n c)
 |.re i a n c j=>k (.re i a n c j)
 |.fn f a c=>k (.fn f a c)
 |.yl i l=>k (.yl i l)
 |.mp i l=>k (.mp i l)
 |.agg l=>k (.agg l)
 |.tup l=>k (.tup l)
def qWN(x)(k):qLY x k=k x:=by cases x<;>rfl
def Opd.k(rs:F Res)(sl:Sl)(x:Opd)(k:SV->Prop):Prop:=match x with
 |.t n=>match AS sl n with
  |some s=>qLY (norm rs s) k
  |none=>zX
 |.c v=>k (.v v)
 |.b x=>k (.b x)
def qID(sl:Sl)(a:zDz):Prop:=∀n x,AS sl n=O x->a.tmps[n]?=O (Ag x)
def qGA{a:zDz}{n:Z}{v:zg}(h:a.tmps[n]?=O v):a.eval (.tmp n)=v:=by
 simp[Act.eval,zAe,h]
def Opd.AC{rs}{sl}{a}{o}{k}(h:(qJA o).k rs sl k)(hs:qID sl a):∃s,k s/\a.eval o=Ag s:=by
 cases o with
 |tmp n=>
  simp only[qJA,Opd.k,qWN]at h;split at h
  .rename_i s q;exact⟨_,h,by rw[q5D];exact qGA (hs n s q)⟩
  .exact h.elim
 |const v=>
  simp only[qJA]at h;split at h
  .exact⟨_,h,rfl⟩
  .exact⟨_,h,rfl⟩
 |global g=>exact⟨_,h,rfl⟩
 |func f=>exact⟨_,h,rfl⟩
def Opd.ks(rs:F Res)(sl:Sl):F Opd->(F SV->Prop)->Prop
 |[],k=>k []
 |x::r,k=>x.k rs sl λs=>Opd.ks rs sl r λl=>k (s::l)
def Opd.Er{rs}{sl}{a}(hs:qID sl a):∀(l:F Operand){k:F SV->Prop},Opd.ks rs sl (l.map qJA) k->∃s,k s/\l.map a.eval=qCA s
 |[],_,h=>⟨[],h,rfl⟩
 |o::r,k,h=>by
  obtain⟨s,q,e1⟩:=Opd.AC (k:=λs=>Opd.ks rs sl (r.map qJA) λl=>k (s::l)) h hs;obtain⟨l,u,e2⟩:=Opd.Er hs r q;exact⟨s::l,u,by simp[qCA,e1,e2]⟩
def kEq:IntKind->IntKind->zO
 |.i8,.i8|.i16,.i16|.i32,.i32|.i64,.i64|.u8,.u8|.u16,.u16|.u32,.u32|.u64,.u64=>I
 |_,_=>zb
def qTF{k k'}(h:kEq k k'=I):k=k':=by cases k<;>cases k'<;>first|rfl|(simp[kEq]at h)
def qlT(op:BinOp)(k:IntKind)(x y:zt):zt:=
 let a:=BitVec.ofInt k.bits x;let b:=BitVec.ofInt k.bits y
 match op with
 |.and=>k.wrap (a &&&b).toNat
 |.or=>k.wrap (a|||b).toNat
 |.xor=>k.wrap (a^^^b).toNat
 |_=>k.wrap (a &&&~~~b).toNat
def qNb(op:BinOp)(x y:SV)(K:SV->Prop):Prop:=match x,y with
 |.v (.int k a),.v (.int h b)=>match op with
  |.shl=>0<=b/\K (.v (.int k (k.wrap (a*2^(min b.toNat k.bits)))))
  |.shr=>0<=b/\K (.v (.int k (a.fdiv (2^(min b.toNat k.bits)))))
  |op=>match kEq k h with
   |false=>zX
   |true=>match op with
    |.add=>K (.v (.int k (k.wrap (a+b))))
    |.sub=>K (.v (.int k (k.wrap (a-b))))
    |.mul=>K (.v (.int k (k.wrap (a*b))))
    |.quo=>b≠0/\K (.v (.int k (k.wrap (a.tdiv b))))
    |.rem=>b≠0/\K (.v (.int k (a.tmod b)))
    |.and=>K (.v (.int k (qlT .and k a b)))
    |.or=>K (.v (.int k (qlT .or k a b)))
    |.xor=>K (.v (.int k (qlT .xor k a b)))
    |.andNot=>K (.v (.int k (qlT .andNot k a b)))
    |.eql=>K (.v (.bool (a==b)))
    |.neq=>K (.v (.bool (a !=b)))
    |.lss=>K (.v (.bool (decide (a<b))))
    |.leq=>K (.v (.bool (decide (a<=b))))
    |.gtr=>K (.v (.bool (decide (b<a))))
    |.geq=>K (.v (.bool (decide (b<=a))))
    |_=>zX
 |_,_=>zX
def qOW{op}{x y}{K}(h:qNb op x y K):∃s,K s/\∀(P:zv)(t:zAw)(w:zp),(binOp op t (Ag x) (Ag y)).run P w=.ok (Ag s) w/\∀X Y,(eqGuard op t X Y (Ag x) (Ag y)).run P w=.ok () w:=by
 unfold qNb at h;split at h
 .rename_i k a B b
  have u:∀(P:zv)(t:zAw)(w:zp)X Y,(eqGuard op t X Y (Ag (.v (.int k a))) (Ag (.v (.int B b)))).run P w=.ok () w:=λP t w X Y=>by
   simp only[eqGuard,Ag];split<;>rfl
  split at h
  .obtain⟨A,q⟩:=h;exact⟨_,q,λP t w=>⟨by simp[binOp,Ag,Op.shift,show ¬b<0 by omega,pure],u P t w⟩⟩
  .obtain⟨A,q⟩:=h;exact⟨_,q,λP t w=>⟨by simp[binOp,Ag,Op.shift,show ¬b<0 by omega,pure],u P t w⟩⟩
  .rename_i D E;split at h
   .exact h.elim
   .rename_i C;obtain rfl:=qTF C
    split at h<;>first
     |exact h.elim
     |(obtain⟨A,q⟩:=h;exact⟨_,q,λP t w=>⟨by simp[binOp,Ag,Op.intDiv,A,pure],u P t w⟩⟩)
     |exact⟨_,h,λP t w=>⟨by simp[binOp,Ag,Op.intArith,Op.intBits,Op.intCmp,qlT,pure],u P t w⟩⟩
 .exact h.elim
def qMb(op:BinOp)(x y:SV)(K:SV->Prop):Prop:=match x,y with
 |.v (.string a),.v (.string b)=>match op with
  |.add=>a.size+b.size<=9223372036854775807/\K (.v (.string (a++b)))
  |.eql=>K (.v (.bool (a.data.toList==b.data.toList)))
  |.neq=>K (.v (.bool (!(a.data.toList==b.data.toList))))
  |_=>zX
 |_,_=>zX
def qNW{op}{x y}{K}(h:qMb op x y K):∃s,K s/\∀(P:zv)(t:zAw)(w:zp),(binOp op t (Ag x) (Ag y)).run P w=.ok (Ag s) w/\∀X Y,(eqGuard op t X Y (Ag x) (Ag y)).run P w=.ok () w:=by
 unfold qMb at h;split at h
 .rename_i a b
  have q:∀(P:zv)(t:zAw)(w:zp)X Y,(eqGuard op t X Y (Ag (.v (.string a))) (Ag (.v (.string b)))).run P w=.ok () w:=λP t w X Y=>by
   simp only[eqGuard,Ag];split<;>rfl
  split at h
  .obtain⟨B,u⟩:=h;refine⟨_,u,λP t w=>⟨?_,q P t w⟩⟩;have A:¬(((a.size+b.size:Z):zt)>zAj.max):=by show ¬(_>(9223372036854775807:zt));omega
   simp only[binOp,Ag,Op.stringOp];rw[zj A];rfl
  .exact⟨_,h,λP t w=>⟨by simp[binOp,Ag,Op.stringOp,ByteArray.toList_eq,pure],q P t w⟩⟩
  .exact⟨_,h,λP t w=>⟨by simp[binOp,Ag,Op.stringOp,ByteArray.toList_eq,pure],q P t w⟩⟩
  .exact h.elim
 .exact h.elim
def qaM:SV->zy zO
 |.b x=>O x
 |.v (.bool x)=>O x
 |_=>zc
def qIL{x}{b}(h:qaM x=O b):Ag x=.bool b:=by
 unfold qaM at h;split at h<;>simp at h<;>subst h<;>rfl
def qhQ(kind:Z)(x:SV):zy zO:=match kind with
 |0=>match x with
  |.v (.slice h _ _)=>O h.isNone
  |.sl ..=>O zb
  |.row _ h _ _=>O h.isNone
  |_=>zc
 |1=>match x with
  |.v (.pointer p)=>O p.isNone
  |.p ..=>O zb
  |_=>zc
 |_=>match x with
  |.v .nilFunc=>O I
  |.v (.func ..)=>O zb
  |.fn ..=>O zb
  |.yl ..=>O zb
  |_=>zc
def EU:Z->zg
 |0=>.slice zc 0 0
 |1=>.pointer zc
 |_=>.nilFunc
def IC(kind:Z)(d:TypeDesc):Prop:=match kind with
 |0=>∃e,d=.slice e
 |1=>∃e,d=.pointer e
 |_=>∃p h r,d=.func p h r
def qDY{kind}{x}{b}(h:qhQ kind x=O b){P}{t}{d:TypeDesc}(q:P.underlying t=O d)(hd:IC kind d)(w)(n):(zDH (n+1) t (Ag x) (EU kind)).run P w=.ok b w:=by
 unfold qhQ at h;split at h
 .obtain⟨e,rfl⟩:=hd;split at h
  .rename_i u _ c;simp at h;subst h;cases u<;>simp[Ag,EU,zDH,zL q]
  .simp at h;subst h;simp[Ag,EU,zDH,zL q]
  .rename_i id u _ c;simp at h;subst h;cases u<;>simp[Ag,EU,zDH,zL q]
  .cases h
 .obtain⟨e,rfl⟩:=hd;split at h
  .rename_i u;simp at h;subst h;cases u<;>simp[Ag,EU,zDH,zL q]
  .simp at h;subst h;simp[Ag,EU,zDH,zL q]
  .cases h
 .rename_i k D E;have B:EU kind=.nilFunc:=by unfold EU;split<;>simp_all
  have C:∃p A r,d=.func p A r:=by unfold IC at hd;split at hd<;>simp_all
  obtain⟨p,A,r,rfl⟩:=C;rw[B];split at h
  .simp at h;subst h;simp[Ag,zDH,zL q]
  .simp at h;subst h;simp[Ag,zDH,zL q]
  .simp at h;subst h;simp[Ag,zDH,zL q]
  .simp at h;subst h;simp[Ag,zDH,zL q]
  .cases h
def qgQ{kind}{x}{b}(h:qhQ kind x=O b):(∃oa n c,Ag x=.slice oa n c)\/(∃p,Ag x=.pointer p/\EU kind=.pointer zc)\/Ag x=.nilFunc\/∃f a c,Ag x=.func f a c:=by
 unfold qhQ at h;split at h
 .split at h<;>simp_all [Ag]
 .split at h<;>simp_all [Ag,EU]
 .split at h<;>simp_all [Ag]
def qLT{kind}{x}{b}(h:qhQ kind x=O b){P}{t}{d:TypeDesc}(u:P.underlying t=O d)(hd:IC kind d)(w)(X Y):
  (do eqGuard .eql t X Y (Ag x) (EU kind);binOp .eql t (Ag x) (EU kind):Sem zg).run P w=.ok (.bool b) w/\
  (do eqGuard .neq t X Y (Ag x) (EU kind);binOp .neq t (Ag x) (EU kind):Sem zg).run P w=.ok (.bool (!b)) w:=by
 have q:(Op.equal t (Ag x) (EU kind)).run P w=.ok b w:=qDY h u hd w 9999;rcases qgQ h with⟨A,n,c,e⟩|⟨p,e,e2⟩|e|⟨f,a,c,e⟩
 .rw[e]at q⊢;simp[eqGuard,binOp,q]
 .rw[e,e2]at q⊢;simp[eqGuard,binOp,q]
 .rw[e]at q⊢;simp[eqGuard,binOp,q]
 .rw[e]at q⊢;simp[eqGuard,binOp,q]
def q8P{h:Type}:F h->Z->zy (F h)
 |_,0=>O []
 |[],_+1=>zc
 |x::r,n+1=>match q8P r n with
  |some l=>O (x::l)
  |none=>zc
def HO{h:Type}:F h->Z->Z->zy (F h)
 |l,0,n=>q8P l n
 |[],_+1,_=>zc
 |_::r,o+1,n=>HO r o n
def GJ{h:Type}:F h->Z->zy h
 |[],_=>zc
 |x::_,0=>O x
 |_::r,n+1=>GJ r n
def q5I{h:Type}:∀(l:F h)(n:Z),GJ l n=l[n]?
 |[],_=>by simp[GJ]
 |x::_,0=>by simp[GJ]
 |_::r,n+1=>by simp[GJ,q5I r n]
def qzL{q:Type}:∀{l:F q}{n:Z}{r:F q},q8P l n=O r->n<=l.length/\l.take n=r
 |_,0,_,h=>by simp[q8P]at h;simp[h]
 |[],n+1,_,h=>by simp[q8P]at h
 |x::l,n+1,_,h=>by
  simp only[q8P]at h;split at h
  .rename_i B u;simp at h;subst h;obtain⟨C,A⟩:=qzL u;exact⟨sf,by simp[A]⟩
  .cases h
def qgI{u:Type}:∀{l:F u}{o n:Z}{r:F u},HO l o n=O r->o+n<=l.length/\(l.drop o).take n=r
 |l,0,n,r,h=>by obtain⟨A,q⟩:=qzL (show q8P l n=O r by cases l<;>exact h);exact⟨sa,by simpa using q⟩
 |[],o+1,_,_,h=>by simp[HO]at h
 |_::l,o+1,n,r,h=>by
  obtain⟨A,q⟩:=qgI (show HO l o n=O r from h);exact⟨sf,by simpa using q⟩
def q4G(l)(n):qCA (l.take n)=(qCA l).take n:=by simp[qgA]
def q5G(l)(n):qCA (l.drop n)=(qCA l).drop n:=by simp[qgA]
def qnA(l):(qCA l).length=l.length:=by simp[qgA]
def qYG(l r):qCA (l++r)=qCA l++qCA r:=by simp[qgA]
def Dz(l:F SV)(n:Z):(qCA l)[n]?=(l[n]?).map Ag:=by simp[qgA]
def qUX(agg:zO)(off size:Z)(x:SV)(K:SV->Prop):Prop:=match x with
 |.agg l=>match agg with
  |true=>match HO l off size with
   |some r=>K (.agg r)
   |none=>zX
  |false=>match GJ l off with
   |some s=>K s
   |none=>zX
 |.v (.agg ⟨l⟩)=>match agg with
  |true=>match HO l off size with
   |some r=>K (.v (.agg ⟨r⟩))
   |none=>zX
  |false=>match GJ l off with
   |some s=>K (.v s)
   |none=>zX
 |_=>zX
def extract_toArray{h:Type}(l:F h)(o n:Z):(l.toArray).extract o (o+n)=((l.drop o).take n).toArray:=by
 simp[List.extract_toArray]
def qiO{agg}{off size}{x}{K}(h:qUX agg off size x K){P}{t}(hs:qYB P t=O size)(u:BT P t=O agg):∃s,K s/\∀w,∃cs,Ag x=.agg cs/\(part t cs off).run P w=.ok (Ag s) w:=by
 have D:∀w,(sizeOf t).run P w=.ok size w:=λw=>by
  simp only[qYB,zD]at hs;obtain⟨i,E,rfl⟩:=hs;simp[sizeOf,typeInfo,zZ,E,zAk]
 have H:∀w,(isAgg t).run P w=.ok agg w:=λw=>by
  unfold BT at u;simp only[isAgg,underlying,zZ,run_program,zAk];split at u<;>rename_i L<;>simp at u<;>subst u<;>simp[L]
 have A:∀(l:F zg)(v:zg),(match agg with|true=>v=.agg ((l.drop off).take size).toArray|false=>l[off]?=O v)->∀w,(part t l.toArray off).run P w=.ok v w:=by
  intro l v B w;simp only[part,zZ,H,zAk];cases agg with
  |true=>
   simp only[zBA,zZ,D,zAk];rw[extract_toArray];simp at B;subst B;rfl
  |false=>
   simp at B;simp[B]
 unfold qUX at h;split at h
 .rename_i l;cases agg with
  |true=>
   simp only at h;split at h
   .rename_i r q;obtain⟨Q,C⟩:=qgI q;exact⟨_,h,λw=>⟨_,rfl,A _ _ (by simp[Ag,<-C,q4G,q5G]) w⟩⟩
   .exact h.elim
  |false=>
   simp only at h;split at h
   .rename_i s q;rw[q5I]at q;exact⟨_,h,λw=>⟨_,rfl,A _ _ (by simp[Dz,q]) w⟩⟩
   .exact h.elim
 .rename_i l;cases agg with
  |true=>
   simp only at h;split at h
   .rename_i r q;obtain⟨Q,C⟩:=qgI q;exact⟨_,h,λw=>⟨_,rfl,A l _ (by simp[Ag,<-C]) w⟩⟩
   .exact h.elim
  |false=>
   simp only at h;split at h
   .rename_i s q;rw[q5I]at q;exact⟨_,h,λw=>⟨_,rfl,A l _ (by simp[Ag,q]) w⟩⟩
   .exact h.elim
 .exact h.elim
def IN(k:Z)(x y:zg):zy zO:=match k,x,y with
 |0,.int a m,.int b n=>match kEq a b with
  |true=>O (m==n)
  |false=>zc
 |1,.string a,.string b=>O (a.data.toList==b.data.toList)
 |2,.bool a,.bool b=>O (a==b)
 |_,_,_=>zc
def eqV:F Z->F zg->F zg->zy zO
 |[],[],[]=>O I
 |k::ks,x::h,y::q=>match IN k x y with
  |some a=>match eqV ks h q with
   |some b=>O (a&&b)
   |none=>zc
  |none=>zc
 |_,_,_=>zc
def qwV:∀{ks:F Z}{xs q:F zg}{b:zO},eqV ks xs q=O b->xs.length=ks.length/\q.length=ks.length
 |[],[],[],_,_=>⟨rfl,rfl⟩
 |k::ks,x::xs,y::q,b,h=>by
  simp only[eqV]at h;split at h
  .split at h
   .rename_i u;obtain⟨A,B⟩:=qwV u;simp[A,B]
   .cases h
  .cases h
 |[],_::_,_,_,h=>by simp[eqV]at h
 |[],[],_::_,_,h=>by simp[eqV]at h
 |_::_,[],_,_,h=>by simp[eqV]at h
 |_::_,_::_,[],_,h=>by simp[eqV]at h
def qDJ:∀{ks q:F Z}{xs u:F zg}{b:zO},eqV (ks++q) xs u=O b->∃A B,b=(A&&B)/\eqV ks (xs.take ks.length) (u.take ks.length)=O A/\eqV q (xs.drop ks.length) (u.drop ks.length)=O B
 |[],q,xs,u,b,h=>⟨I,b,se,by simp[eqV],by simpa using h⟩
 |k::ks,q,x::xs,y::u,b,h=>by
  simp only[zBi,eqV]at h;split at h
  .rename_i a C;split at h
   .rename_i c D;obtain⟨A,B,rfl,E,H⟩:=qDJ D;simp only[zAh]at h;refine⟨a&&A,B,by rw[<-h,Bool.and_assoc],?_,by simpa using H⟩;simp[eqV,C,E]
   .cases h
  .cases h
 |k::ks,q,[],_,b,h=>by simp[eqV]at h
 |k::ks,q,_::_,[],b,h=>by simp[eqV]at h
def GV(agg:zO)(xs:F zg):zg:=match agg with
 |true=>.agg ⟨xs⟩
 |false=>xs.headD zAU
def q0S{P}{t}{agg}(h:BT P t=O agg)(w):(isAgg t).run P w=.ok agg w:=by
 unfold BT at h;split at h<;>simp at h<;>subst h<;>rename_i q
 .simp[isAgg,zL q]
 .simp[isAgg,zL q]
 .rename_i u A;simp only[isAgg,zZ,zL q,zAV];rfl
def q9H{P}{t}{agg}{size}(u:BT P t=O agg)(hs:qYB P t=O size)(A:agg=zb->size=1){cs}{o}(D:o+size<=cs.length)(w):(part t ⟨cs⟩ o).run P w=.ok (GV agg ((cs.drop o).take size)) w:=by
 have B:(sizeOf t).run P w=.ok size w:=by
  unfold qYB at hs;cases h:P.info? t with
  |none=>simp[h]at hs
  |some i=>simp[h]at hs;simp[sizeOf,typeInfo,h,hs]
 unfold part;simp only[zZ,q0S u,zAV];cases agg with
 |true=>
  simp only[zBA,zZ,B,zAV,Sem.run_pure];congr 2;simp
 |false=>
  have C:=A rfl;subst C;have q:o<cs.length:=sa
  have:(cs.drop o).take 1=[cs[o]]:=by rw[zB5 q];rfl
  simp only[zA2,zCD];rw[show(⟨cs⟩:zS zg)[o]?=cs[o]? from by simp,zAa q];simp[this,GV]
def qOL{P}{d}{t}{ks}(h:q0D P d t=O ks){agg}(q:BT P t=O agg):agg=zb->ks.length=1:=by
 intro A;subst A;cases d with
 |zero=>cases h
 |succ d=>
  unfold q0D at h;unfold BT at q;split at h
  .simp at h;simp[<-h]
  .simp at h;simp[<-h]
  .simp at h;simp[<-h]
  .rename_i u;rw[u]at q;simp at q
  .rename_i u;rw[u]at q;simp at q
  .cases h
def qRJ{P}{d D}(ih:∀t ks,q0D P d t=O ks->∀agg,BT P t=O agg->∀xs q b,eqV ks xs q=O b->∀w,(zDH D t (GV agg xs) (GV agg q)).run P w=.ok b w):∀(A:F Field)(o:Z)(ks:F Z),quK P (q0D P d) A o=O ks->∀(xs q:F zg)(b:zO),o+ks.length<=xs.length->o+ks.length<=q.length->eqV ks ((xs.drop o).take ks.length) ((q.drop o).take ks.length)=O b->∀w,(Op.eqFields D ⟨xs⟩ ⟨q⟩ A).run P w=.ok b w
 |[],o,ks,h,xs,q,b,_,_,B,w=>by
  simp[quK]at h;subst h;simp[eqV]at B;subst B;simp[Op.eqFields]
 |f::A,o,ks,h,xs,q,b,H,L,B,w=>by
  simp only[quK]at h;split at h
  .rename_i Q size agg C E u;split at h
   .rename_i R;obtain⟨rfl,T,rfl⟩:=R;split at h
    .rename_i l U;simp only[zAh]at h;subst h;obtain⟨V,W,rfl,e1,e2⟩:=qDJ B;simp only[zAx]at H L;have Y:=q9H (P:=P) u E (qOL C u) (cs:=xs) (o:=f.offset) sa w;have aa:=q9H (P:=P) u E (qOL C u) (cs:=q) (o:=f.offset) sa w;rw[zCX,zCX,zAx,zCb sa]at e1;have ab:=ih _ _ C _ u _ _ _ e1 w;rw[zCI,zCI,zAx,Nat.add_sub_cancel_left,zCJ,zCJ]at e2;have ac:=qRJ ih A (f.offset+Q.length) l U xs q W sa sa e2 w;simp only[Op.eqFields,zk T,zZ,Y,aa,zAV,ab];cases V with
     |false=>simp
     |true=>simpa using ac
    .cases h
   .cases h
  .cases h
def qVK{P}{D}{e}{ks}{agg}{i:TypeInfo}(u:P.info? e=O i)(A:i.size=ks.length)(B:BT P e=O agg)(C:agg=zb->ks.length=1)(ih:∀xs h b,eqV ks xs h=O b->∀w,(zDH D e (GV agg xs) (GV agg h)).run P w=.ok b w):∀(n j:Z)(xs h:F zg)(b:zO),(j+n)*ks.length<=xs.length->(j+n)*ks.length<=h.length->eqV (qQG ks n) ((xs.drop (j*ks.length)).take (n*ks.length)) ((h.drop (j*ks.length)).take (n*ks.length))=O b->∀w,(Op.eqItems D e (P.cellsOf e) ⟨xs⟩ ⟨h⟩ (List.range' j n)).run P w=.ok b w
 |0,j,xs,h,b,_,_,q,w=>by
  simp[qQG,eqV]at q;subst q;simp[Op.eqItems]
 |n+1,j,xs,h,b,aa,ab,q,w=>by
  have E:P.cellsOf e=ks.length:=by simp[Program.cellsOf,u,A]
  have hs:qYB P e=O ks.length:=by simp[qYB,u,A]
  have ac:(j+(n+1))*ks.length=j*ks.length+ks.length+n*ks.length:=by rw[zB1,zB1];omega
  have H:(j+1+n)*ks.length=j*ks.length+ks.length+n*ks.length:=by rw[zB1,zB1];omega
  have L:(n+1)*ks.length=ks.length+n*ks.length:=by rw[zB1];omega
  have R:(j+1)*ks.length=j*ks.length+ks.length:=by rw[zB1];omega
  rw[qQG]at q;obtain⟨T,U,rfl,e1,e2⟩:=qDJ q;rw[zCX,zCX,zCb (by rw[L];omega)]at e1;rw[zCI,zCI,L,Nat.add_sub_cancel_left,zCJ,zCJ,<-R]at e2;have V:=q9H (P:=P) B hs C (cs:=xs) (o:=j*ks.length) sa w;have W:=q9H (P:=P) B hs C (cs:=h) (o:=j*ks.length) sa w;have Y:=ih _ _ _ e1 w;have Q:=qVK u A B C ih n (j+1) xs h U (by rw[H];omega) (by rw[H];omega) e2 w;rw[List.range'_succ];simp only[Op.eqItems,zZ,E,V,W,zAV,Y];cases T with
  |false=>simp
  |true=>rw[E]at Q;simpa using Q
def qvK(ks):∀n,(qQG ks n).length=n*ks.length
 |0=>by simp[qQG]
 |n+1=>by rw[qQG,zAx,qvK ks n,zB1];omega
def qKF{P}:∀(d D:Z),d<=D->∀(t:zAw)(ks:F Z),q0D P d t=O ks->∀agg,BT P t=O agg->∀(xs C:F zg)(b:zO),eqV ks xs C=O b->∀w,(zDH D t (GV agg xs) (GV agg C)).run P w=.ok b w
 |0,_,_,_,_,h,_,_,_,_,_,_,_=>by cases h
 |d+1,0,ac,_,_,_,_,_,_,_,_,_,_=>sa
 |d+1,D+1,ac,t,ks,h,agg,u,xs,C,b,q,w=>by
  obtain⟨E,H⟩:=qwV q;have ao:=h;unfold q0D at h;split at h
  .rename_i k A;simp at h;subst h;have:agg=zb:=by unfold BT at u;rw[A]at u;simpa using u.symm
   subst this
   match xs,C,E,H with
   |[x],[y],_,_=>
    simp only[eqV]at q;split at q
    .rename_i c B;simp at q;subst q;unfold IN at B;split at B
     .split at B
      .rename_i ad;obtain rfl:=qTF ad;simp at B;subst B;exact run_equalIn_int w D t _ k _ _ A
      .cases B
     .simp_all
     .simp_all
     .cases B
    .cases q
  .rename_i A;simp at h;subst h;have:agg=zb:=by unfold BT at u;rw[A]at u;simpa using u.symm
   subst this
   match xs,C,E,H with
   |[x],[y],_,_=>
    simp only[eqV]at q;split at q
    .rename_i c B;simp at q;subst q;unfold IN at B;split at B<;>simp_all;subst B;simp[GV,zDH,zL A,beq_toListBytes,ByteArray.toList_eq]
    .cases q
  .rename_i A;simp at h;subst h;have:agg=zb:=by unfold BT at u;rw[A]at u;simpa using u.symm
   subst this
   match xs,C,E,H with
   |[x],[y],_,_=>
    simp only[eqV]at q;split at q
    .rename_i c B;simp at q;subst q;unfold IN at B;split at B<;>simp_all;subst B;exact run_equalIn_bool w D t _ _ A
    .cases q
  .rename_i W A;have:agg=I:=by unfold BT at u;rw[A]at u;simpa using u.symm
   subst this;split at h
   .cases h
   .rename_i ae;have af:P.underlying t=O (.struct (P.fieldsOf t)):=by simp[Program.fieldsOf,A]
    have ag:(P.fieldsOf t).toList=W.toList:=by simp[Program.fieldsOf,A]
    show(zDH (D+1) t (.agg ⟨xs⟩) (.agg ⟨C⟩)).run P w=_;rw[run_equalIn_struct w D t _ _ af (by simpa using ae),ag];refine qRJ (d:=d) (λah ai aj ak al L Q R T U=>qKF d D sa ah ai aj ak al L Q R T U) W.toList 0 ks h xs C b sa sa ?_ w;rw[zBx,zBx,zAz sa,zAz sa];exact q
  .rename_i n e A;have:agg=I:=by unfold BT at u;rw[A]at u;simpa using u.symm
   subst this;split at h
   .rename_i Y i am aa ab V;split at h
    .rename_i an;simp at h;subst h;show(zDH (D+1) t (.agg ⟨xs⟩) (.agg ⟨C⟩)).run P w=_;rw[run_equalIn_array (w:=w) D _ _ A ab,List.range_eq_range'];have ap:=qvK Y n;refine qVK ab an V (qOL aa V) (λL Q R T U=>qKF d D sa e Y aa am V L Q R T U) n 0 xs C b (by rw[zAr];omega) (by rw[zAr];omega) ?_ w;rw[Nat.zero_mul,zBx,zBx,zAz sa,zAz sa];exact q
    .cases h
   .cases h
  .cases h
mutual
def qjI(x:SV):zy zg:=match x with
 |.v x=>O x
 |.b x=>O (.bool x)
 |.p _ b o=>O (.pointer (O ⟨b,o,zc⟩))
 |.sl _ b o n c=>O (.slice (O ⟨b,o,zc⟩) n c)
 |.row _ oa n cap=>O (.slice oa n cap)
 |.re _ oa _ _ j=>O (.pointer (oa.map (·.add j)))
 |.fn f a c=>match qOH a with
  |some a'=>match qOH c with
   |some c'=>O (.func f ⟨a'⟩ ⟨c'⟩)
   |none=>zc
  |none=>zc
 |.yl _ l=>O (.func (.yield l) #[] #[])
 |.mp _ r=>O (.map (O r))
 |.agg l=>match qOH l with
  |some l'=>O (.agg ⟨l'⟩)
  |none=>zc
 |.tup l=>match qOH l with
  |some l'=>O (.tuple ⟨l'⟩)
  |none=>zc
def qOH(l:F SV):zy (F zg):=match l with
 |[]=>O []
 |x::r=>match qjI x with
  |some v=>match qOH r with
   |some vs=>O (v::vs)
   |none=>zc
  |none=>zc
end
mutual
def qKS:∀(x:SV),qjI x=O (Ag x)
 |.v _=>by simp only[qjI,Ag]
 |.b _=>by simp only[qjI,Ag]
 |.p _ _ _=>by simp only[qjI,Ag]
 |.sl _ _ _ _ _=>by simp only[qjI,Ag]
 |.row _ _ _ _=>by simp only[qjI,Ag]
 |.re _ _ _ _ _=>by simp only[qjI,Ag]
 |.yl _ _=>by simp only[qjI,Ag]
 |.mp _ _=>by simp only[qjI,Ag]
 |.fn f a c=>by simp only[qjI,Ag,q2E a,q2E c]
 |.agg l=>by simp only[qjI,Ag,q2E l]
 |.tup l=>by simp only[qjI,Ag,q2E l]
def q2E:∀(l:F SV),qOH l=O (qCA l)
 |[]=>by simp only[qOH,qCA]
 |x::r=>by simp only[qOH,qCA,qKS x,q2E r]
end
def qqJ(x:SV)(k:zg->Prop):Prop:=match qjI x with
 |some v=>k v
 |none=>zX
def qyC(l:F SV)(k:F zg->Prop):Prop:=match qOH l with
 |some h=>k h
 |none=>zX
def qBD(x){k}(h:qqJ x k):k (Ag x):=by
 unfold qqJ at h;rwa [qKS]at h
def qRB(l){k}(h:qyC l k):k (qCA l):=by
 unfold qyC at h;rwa [q2E]at h
end Go.Proofs.YtlmhpamhhgogaaaGreat.Sx
namespace Go.Proofs.YtlmhpamhhgogaaaGreat.Sx
open Go.RowKit Go.MapKept
def C2:Ky->Ky->zO
 |.i a,.i b=>a==b
 |.s a,.s b=>a.data.toList==b.data.toList
 |.p a b,.p c d=>(a==c)&&(b==d)
 |_,_=>zb
def BQ{a b}:C2 a b=I<->a=b:=by
 cases a<;>cases b<;>simp[C2];exact⟨λh=>ByteArray.ext h,λh=>by rw[h]⟩
def qfQ{a b}(h:a≠b):C2 a b=zb:=by
 cases q:C2 a b with
 |false=>rfl
 |true=>exact absurd (BQ.1 q) h
def IG:KyT->KyT->zO
 |.int a,.int b=>kEq a b
 |.str,.str=>I
 |.two,.two=>I
 |_,_=>zb
def qwK{a b}(h:IG a b=I):a=b:=by
 cases a<;>cases b<;>simp[IG]at h<;>first|rfl|exact zI _ (qTF h)
def kOf(kt:KyT)(v:zg):zy Ky:=match kt with
 |.int ik=>match v with
  |.int h n=>match kEq h ik with
   |true=>O (.i n)
   |false=>zc
  |_=>zc
 |.str=>match v with
  |.string s=>O (.s s)
  |_=>zc
 |.two=>match v with
  |.agg ⟨[.int q a,.int u b]⟩=>match kEq q .i64&&kEq u .i64 with
   |true=>O (.p a b)
   |false=>zc
  |_=>zc
def q2J{kt}{v}{k}(h:kOf kt v=O k):v=kt.v k/\kt.fit k=I:=by
 unfold kOf at h;split at h
 .split at h
  .split at h
   .rename_i q;cases h;obtain rfl:=qTF q;exact⟨rfl,rfl⟩
   .cases h
  .cases h
 .split at h
  .cases h;exact⟨rfl,rfl⟩
  .cases h
 .split at h
  .split at h
   .rename_i q;cases h;simp only[zl]at q;obtain⟨u,A⟩:=q;obtain rfl:=qTF u;obtain rfl:=qTF A;exact⟨rfl,rfl⟩
   .cases h
  .cases h
def B5(n:Ky):F (Ky×zg)->zy zg
 |[]=>zc
 |(m,v)::r=>match C2 n m with
  |true=>O v
  |false=>B5 n r
def CB(n:Ky)(v:zg):F (Ky×zg)->F (Ky×zg)
 |[]=>[(n,v)]
 |(m,h)::r=>match C2 n m with
  |true=>(n,v)::r
  |false=>(m,h)::CB n v r
def qwO{kt:KyT}{n:Ky}{v:zg}(q:kt.fit n=I):∀{es:F (Ky×zg)},kt.fits es=I->kt.fits (CB n v es)=I
 |[],_=>by simp[CB,KyT.fits,q]
 |(m,u)::r,h=>by
  simp only[KyT.fits,zl]at h;simp only[CB];split
  .simp only[KyT.fits,q,h.2];rfl
  .simp only[KyT.fits,h.1,qwO q h.2];rfl
def mIx(n:Ky):F (Ky×zg)->Z
 |[]=>0
 |(m,_)::r=>match C2 n m with
  |true=>0
  |false=>mIx n r+1
def FT:Z->zg->F (Ky×zg)->F (Ky×zg)
 |_,_,[]=>[]
 |0,v,(m,_)::r=>(m,v)::r
 |j+1,v,x::r=>x::FT j v r
def qAZ{n}{u}:∀{es:F (Ky×zg)}{j:Z},es[j]?=O (n,u)->(∀i x,i<j->es[i]?=O x->C2 n x.1=zb)->mIx n es=j
 |[],j,h,_=>by simp at h
 |(m,w)::r,0,h,_=>by simp at h;obtain⟨rfl,rfl⟩:=h;simp[mIx,BQ.2 rfl]
 |(m,w)::r,j+1,h,k=>by
  have q:=k 0 (m,w) sa rfl;simp only[mIx,q];rw[qAZ (j:=j) (by simpa using h) λi x B A=>k (i+1) x sa (by simpa using A)]
def qxO{kt:KyT}{v:zg}:∀{es:F (Ky×zg)}{j:Z},kt.fits es=I->kt.fits (FT j v es)=I
 |[],_,_=>by simp[FT,KyT.fits]
 |(m,w)::r,0,h=>by simpa[FT,KyT.fits]using h
 |(m,w)::r,j+1,h=>by
  simp only[FT,KyT.fits,zl]at h⊢;exact⟨h.1,qxO h.2⟩
def q2R{v}:∀{es:F (Ky×zg)}{j:Z},(FT j v es).length=es.length
 |[],j=>by cases j<;>rfl
 |(m,w)::r,0=>rfl
 |(m,w)::r,j+1=>by simp[FT,q2R]
def qCS{kt:KyT}{n:Ky}{z:zg}(q:kt.fit n=I):∀{es:F (Ky×zg)},kt.fits es=I->kt.fits (es++[(n,z)])=I
 |[],_=>by simp[KyT.fits,q]
 |(m,w)::r,h=>by
  simp only[zBi,KyT.fits,zl]at h⊢;exact⟨h.1,qCS q h.2⟩
def FzM(g:GW)(r:Z)(ik:KyT)(es:F (Ky×zg)):Prop:=g.g r/\g.w.heap[r]?=O (.map ⟨mkE ik 0 es⟩ es.length)/\ik.fits es=I
def FzM.mono{g g'}{r}{ik}{es}(h:FzM g r ik es)(k:g<=g'):FzM g' r ik es:=⟨(k.2 r h.1).1,(k.2 r h.1).2.trans h.2.1,h.2.2⟩
def q0O(ok:zO)(z:zg)(o:zy zg):zg:=match ok,o with
 |true,O v=>.tuple #[v,.bool I]
 |true,zc=>.tuple #[z,.bool zb]
 |false,O v=>v
 |false,zc=>z
def q0J(ik:KyT)(n:Ky)(v:zg):∀(es:F (Ky×zg)),(B5 n es=zc/\(∀x∈es,C2 n x.1=zb)/\CB n v es=es++[(n,v)])\/∃j u,B5 n es=O u/\es[j]?=O (n,u)/\(∀i x,i<j->es[i]?=O x->C2 n x.1=zb)/\CB n v es=es.set j (n,v)
 |[]=>.inl ⟨rfl,λ_ q=>(by cases q),rfl⟩
 |(m,u)::r=>by
  simp only[B5,CB];cases q:C2 n m with
  |true=>
   obtain rfl:=BQ.1 q;exact .inr ⟨0,u,rfl,rfl,λi _ D=>absurd D (Nat.not_lt_zero i),rfl⟩
  |false=>
   rcases q0J ik n v r with⟨A,B,C⟩|⟨j,w,A,B,C,E⟩
   .refine .inl ⟨A,λx h=>?_,by simp[C]⟩;rcases zs.1 h with rfl|h
    .exact q
    .exact B x h
   .refine .inr ⟨j+1,w,A,by simpa using B,λi x D h=>?_,by simp[E]⟩;cases i with
    |zero=>simp at h;subst h;exact q
    |succ i=>exact C i x sa (by simpa using h)
def q7I(ik)(n)(v):∀(es:F (Ky×zg))(b:Z),mkE ik b (es++[(n,v)])=mkE ik b es++[{key:=ik.v n,val:=v,born:=b+es.length}]
 |[],b=>rfl
 |(m,h)::r,b=>by
  simp only[zBi,mkE,q7I ik n v r (b+1),zBy];rw[show b+1+r.length=b+(r.length+1) by omega]
def qqK(ik):∀(es:F (Ky×zg))(b j:Z)(n:Ky)(u:zg),es[j]?=O (n,u)->(mkE ik b es)[j]?=O {key:=ik.v n,val:=u,born:=b+j}
 |[],b,j,n,u,h=>by simp at h
 |(m,w)::r,b,0,n,u,h=>by simp at h;obtain⟨rfl,rfl⟩:=h;rfl
 |(m,w)::r,b,j+1,n,u,h=>by
  have:=qqK ik r (b+1) j n u (by simpa using h);simp only[mkE,List.getElem?_cons_succ,this];rw[show b+1+j=b+(j+1) by omega]
def qXV(ik)(v):∀(es:F (Ky×zg))(b j:Z)(n:Ky)(u:zg),es[j]?=O (n,u)->mkE ik b (es.set j (n,v))=(mkE ik b es).set j {key:=ik.v n,val:=v,born:=b+j}
 |[],b,j,n,u,h=>by simp at h
 |(m,w)::r,b,0,n,u,h=>by simp[mkE]
 |(m,w)::r,b,j+1,n,u,h=>by
  have:=qXV ik v r (b+1) j n u (by simpa using h);simp only[zCS,mkE,this];rw[show b+1+j=b+(j+1) by omega]
section
variable{P:zv}{w:zp}{t kt et:zAw}{ik:KyT}{r:Z}{es:F (Ky×zg)}
def qSI(h:Gi P kt=O ik):(∃k,ik=.int k/\P.underlying kt=O (.int k))\/(ik=.str/\P.underlying kt=O .string)\/(ik=.two/\q0D P 3 kt=O [0,0]/\BT P kt=O I/\∃f g:Field,P.underlying kt=O (.struct #[f,g])/\(f.name≠ "_" /\f.offset=0/\P.underlying f.type=O (.int .i64))/\(g.name≠ "_" /\g.offset=1/\P.underlying g.type=O (.int .i64))):=by
 have u:∀{f:Field}{o:Z},I8 P f o=I->f.name≠ "_" /\f.offset=o/\P.underlying f.type=O (.int .i64):=λ{f o}h=>by
  unfold I8 at h;simp only[zl,bne_iff_ne,beq_iff_eq]at h;refine⟨h.1,h.2.1,?_⟩;have:=h.2.2;split at this
  .assumption
  .cases this
 unfold Gi at h;split at h
 .rename_i k q;cases h;exact .inl ⟨k,rfl,q⟩
 .rename_i q;cases h;exact .inr (.inl ⟨rfl,q⟩)
 .rename_i B q;split at h
  .rename_i f g C;split at h
   .rename_i A;cases h;simp only[zl,beq_iff_eq]at A;obtain⟨D,E,H,L⟩:=A;obtain rfl:B=#[f,g]:=zBl (by simpa using C);exact .inr (.inr ⟨rfl,H,L,f,g,q,u D,u E⟩)
   .cases h
  .cases h
 .cases h
def qtJ(A:Gi P kt=O ik){n m}(q:ik.fit n=I)(hm:ik.fit m=I):(Op.equal kt (ik.v n) (ik.v m)).run P w=.ok (C2 n m) w:=by
 rcases qSI A with⟨k,rfl,h⟩|⟨rfl,h⟩|⟨rfl,B,C,f,g,h,_⟩
 .cases n<;>simp[KyT.fit]at q;cases m<;>simp[KyT.fit]at hm;exact run_equalIn_int w 9999 kt _ k _ _ h
 .cases n<;>simp[KyT.fit]at q;cases m<;>simp[KyT.fit]at hm
  have:∀(u:Z)(a b:ByteArray),(zDH (u+1) kt (.string a) (.string b)).run P w=.ok (C2 (.s a) (.s b)) w:=λu a b=>by
   simp[zDH,zL h,beq_toListBytes,ByteArray.toList_eq,C2]
  exact this 9999 _ _
 .cases n<;>simp[KyT.fit]at q;cases m<;>simp[KyT.fit]at hm;rename_i a b c d;refine qKF (P:=P) 3 10000 sb kt [0,0] B I C [.int .i64 a,.int .i64 b] [.int .i64 c,.int .i64 d] _ ?_ w;simp[eqV,IN,kEq,C2]
def qpH(q:Gi P kt=O ik){n}(A:ik.fit n=I):∀(es:F (Ky×zg))(b i:Z),ik.fits es=I->((∀x∈es,C2 n x.1=zb)->(Instr.findAsking kt (ik.v n) (mkE ik b es) i).run P w=.ok zc w)/\(∀j u,es[j]?=O (n,u)->(∀i x,i<j->es[i]?=O x->C2 n x.1=zb)->(Instr.findAsking kt (ik.v n) (mkE ik b es) i).run P w=.ok (O (i+j,u)) w)
 |[],b,i,_=>⟨λ_=>rfl,λj u B=>by simp at B⟩
 |(m,u)::r,b,i,h=>by
  simp only[KyT.fits,zl]at h;obtain⟨L,Q⟩:=qpH q A r (b+1) (i+1) h.2;refine⟨λB=>?_,λj R C H=>?_⟩
  .have D:=B (m,u) (zAH ..);simp only[mkE,Instr.findAsking,zZ,qtJ q A h.1,zAV,D];exact L λx E=>B x (zAF _ E)
  .cases j with
   |zero=>
    simp at C;obtain⟨rfl,rfl⟩:=C;simp only[mkE,Instr.findAsking,zZ,qtJ q A h.1,zAV,BQ.2 rfl];rfl
   |succ j=>
    have D:=H 0 (m,u) sa rfl;simp only[mkE,Instr.findAsking,zZ,qtJ q A h.1,zAV,D];rw[show i+(j+1)=i+1+j by omega];exact Q j R (by simpa using C) λT x U E=>H (T+1) x sa (by simpa using E)
def qYJ{d:TypeDesc}(C:Gi P kt=O ik)(B:P.underlying kt=O d){n}(A:ik.fit n=I):∀(es:F (Ky×zg))(b i:Z),ik.fits es=I->∀a,Instr.findNow d (ik.v n) (mkE ik b es) i=O a->(Instr.findAsking kt (ik.v n) (mkE ik b es) i).run P w=.ok a w
 |[],b,i,_,a,h=>by simp only[mkE,Instr.findNow,zAh]at h;subst h;rfl
 |(m,H)::r,b,i,u,a,h=>by
  simp only[KyT.fits,zl]at u
  have E:∀x,Instr.sameNow d (ik.v n) (ik.v m)=O x->x=C2 n m:=λx D=>by
   rcases qSI C with⟨k,rfl,q⟩|⟨rfl,q⟩|⟨rfl,_,_,f,g,q,_⟩
   .rw[B]at q;cases q;cases n<;>simp[KyT.fit]at A;have:=u.1;cases m<;>simp[KyT.fit]at this;simpa[Instr.sameNow,KyT.v,C2]using D.symm
   .rw[B]at q;cases q;cases n<;>simp[KyT.fit]at A;have:=u.1;cases m<;>simp[KyT.fit]at this;simpa[Instr.sameNow,KyT.v,C2,beq_toListBytes,ByteArray.toList_eq]using D.symm
   .rw[B]at q;cases q;cases n<;>simp[KyT.fit]at A;have:=u.1;cases m<;>simp[KyT.fit]at this;simp[Instr.sameNow,KyT.v]at D
  simp only[mkE,Instr.findNow]at h;simp only[mkE,Instr.findAsking,zZ,qtJ C A u.1,zAV];split at h
  .rename_i hs;rw[<-E _ hs];cases h;rfl
  .rename_i hs;rw[<-E _ hs];exact qYJ C B A r (b+1) (i+1) u.2 a h
  .cases h
def qsG(A:Gi P kt=O ik){n}(B:ik.fit n=I)(C:ik.fits es=I){a}(h:(Instr.findAsking kt (ik.v n) (mkE ik 0 es)).run P w=.ok a w):(Instr.findKey kt (ik.v n) (mkE ik 0 es)).run P w=.ok a w:=by
 obtain⟨d,q⟩:∃d,P.underlying kt=O d:=by
  rcases qSI A with⟨k,rfl,q⟩|⟨rfl,q⟩|⟨rfl,_,_,f,g,q,_⟩<;>exact⟨_,q⟩
 cases u:Instr.findNow d (ik.v n) (mkE ik 0 es) 0 with
 |none=>simp only[Instr.findKey,zZ,zL q,zAV,u];exact h
 |some D=>
  have:=qYJ (w:=w) A q B es 0 0 C D u;rw[this]at h;cases h;exact run_findKey q u
def qWK(B:Gi P kt=O ik){n}(q:ik.fit n=I)(e):(Instr.checkKey e 10000 kt (ik.v n)).run P w=.ok () w:=by
 rcases qSI B with⟨k,rfl,h⟩|⟨rfl,h⟩|⟨rfl,_,_,f,g,h,⟨C,D,u⟩,E,H,A⟩
 .cases n<;>simp[KyT.fit]at q;exact Go.MapKept.run_checkKey (P:=P) (w:=w) h (by simp[IsKey,KyT.v]) e 9999
 .cases n<;>simp[KyT.fit]at q;exact Go.MapKept.run_checkKey (P:=P) (w:=w) h (by simp[IsKey,KyT.v]) e 9999
 .cases n<;>simp[KyT.fit]at q;rename_i a b;have c1:=Go.MapKept.run_checkKey (P:=P) (w:=w) (k:=.int .i64 a) u (by simp[IsKey]) e 9998;have c2:=Go.MapKept.run_checkKey (P:=P) (w:=w) (k:=.int .i64 b) A (by simp[IsKey]) e 9998;unfold Instr.checkKey;simp only[KyT.v,zZ,zL h,zAV];simp[part,isAgg,zL u,zL A,C,E,D,H,c1,c2]
def qxI(H:P.underlying t=O (.map kt et))(A:Gi P kt=O ik)(C:w.heap[r]?=O (.map ⟨mkE ik 0 es⟩ es.length))(B:ik.fits es=I){n}(h:ik.fit n=I)(v):(Instr.mapUpdate t (.map (O r)) (ik.v n) v).run P w=.ok () {w with heap:=w.heap.setIfInBounds r (.map ⟨mkE ik 0 (CB n v es)⟩ (CB n v es).length)}:=by
 have L:=qWK (w:=w) A h zb;have Q:=Go.MapKept.run_getObj_map (P:=P) C;rcases q0J ik n v es with⟨V,W,q⟩|⟨j,u,V,q,D,R⟩
 .have E:=qsG A h B ((qpH (w:=w) A h es 0 0 B).1 W);simp only[Instr.mapUpdate,zZ,zL H,zAV,Q,L,E,Go.MapKept.run_setObj_map _ C];rw[q,q7I];simp
 .have E:=qsG A h B ((qpH (w:=w) A h es 0 0 B).2 j u q D)
  have T:(⟨mkE ik 0 es⟩:zS MapEntry)[0+j]?=O {key:=ik.v n,val:=u,born:=0+j}:=by
   rw[zAr];have:=qqK ik es 0 j n u q;simpa using this
  have Y:(Instr.keyThatStays (ik.v n) (ik.v n)).run P w=.ok (ik.v n) w:=by
   have hs:Instr.sameBits 10000 (ik.v n) (ik.v n)=I:=by
    cases ik<;>cases n<;>simp[KyT.fit]at h<;>simp[KyT.v,Instr.sameBits,beq_toListBytes]
   simp[Instr.keyThatStays,hs]
  simp only[Instr.mapUpdate,zZ,zL H,zAV,Q,L,E,T,zBv,zAG,Y,Go.MapKept.run_setObj_map _ C]
  have hm:(⟨mkE ik 0 es⟩:zS MapEntry).modify (0+j) (λe=>{e with key:=ik.v n,val:=v})=⟨mkE ik 0 (CB n v es)⟩:=by
   apply zBl;rw[R,qXV ik v es 0 j n u q,zDd];rw[zAr]at T⊢;have aa:(mkE ik 0 es)[j]?=O {key:=ik.v n,val:=u,born:=0+j}:=qqK ik es 0 j n u q;apply zBU;intro i;rw[List.getElem?_modify,zAE];by_cases U:j=i
   .subst U;obtain⟨D,ab⟩:=ze.1 aa;simp[D,ab]
   .simp[U]
  rw[hm,R,zAd]
def qhV{n}(h:ik.fit n=I):(Instr.keyThatStays (ik.v n) (ik.v n)).run P w=.ok (ik.v n) w:=by
 have hs:Instr.sameBits 10000 (ik.v n) (ik.v n)=I:=by
  cases ik<;>cases n<;>simp[KyT.fit]at h<;>simp[KyT.v,Instr.sameBits,beq_toListBytes]
 simp[Instr.keyThatStays,hs]
def He(n:Ky)(z:zg)(es:F (Ky×zg)):F (Ky×zg):=match B5 n es with
 |some _=>es
 |none=>es++[(n,z)]
def qjJ(Q:P.underlying t=O (.map kt et))(q:Gi P kt=O ik)(D:w.heap[r]?=O (.map ⟨mkE ik 0 es⟩ es.length))(B:ik.fits es=I){n}(h:ik.fit n=I){z}(E:(P.info? et).bind (·.zero)=O z):
  (Instr.mapEntry t (.map (O r)) (ik.v n)).run P w=.ok (.tuple #[(B5 n es).getD z,.int .i64 (match B5 n es with|some _=>(mIx n es:zt)|none=>es.length)]) {w with heap:=w.heap.setIfInBounds r (.map ⟨mkE ik 0 (He n z es)⟩ (He n z es).length)}:=by
 have R:=qWK (w:=w) q h zb;have T:=Go.MapKept.run_getObj_map (P:=P) D
 have W:(zAW et).run P w=.ok z w:=by
  obtain⟨i,Y,E⟩:=zAC.1 E;simp[zAW,typeInfo,Y,E]
 rcases q0J ik n z es with⟨H,aa,u⟩|⟨j,A,H,u,C,ae⟩
 .have L:=qsG q h B ((qpH (w:=w) q h es 0 0 B).1 aa);simp only[Instr.mapEntry,zZ,zL Q,zAV,T,R,L,W,Go.MapKept.run_setObj_map _ D,He,H,q7I];simp[goInt]
 .have L:=qsG q h B ((qpH (w:=w) q h es 0 0 B).2 j A u C)
  have U:(⟨mkE ik 0 es⟩:zS MapEntry)[0+j]?=O {key:=ik.v n,val:=A,born:=0+j}:=by
   rw[zAr];have:=qqK ik es 0 j n A u;simpa using this
  have ab:=qhV (P:=P) (w:=w) h;simp only[Instr.mapEntry,zZ,zL Q,zAV,T,R,L,U,zBv,zAG,ab,Go.MapKept.run_setObj_map _ D,He,H,qAZ u C]
  have hm:(⟨mkE ik 0 es⟩:zS MapEntry).modify (0+j) (λe=>{e with key:=ik.v n})=⟨mkE ik 0 es⟩:=by
   apply zBl;rw[zDd];rw[zAr]at U⊢;have ac:(mkE ik 0 es)[j]?=O {key:=ik.v n,val:=A,born:=0+j}:=qqK ik es 0 j n A u;apply zBU;intro i;rw[List.getElem?_modify];by_cases V:j=i
   .subst V;obtain⟨C,ad⟩:=ze.1 ac;simp[C,ad]
   .simp[V]
  rw[hm];simp[goInt]
def qNI(ik):∀(es:F (Ky×zg))(b j:Z),j<es.length->(mkE ik b es).findIdx? (λe=>(e.born:zt)==((b+j:Z):zt))=O j
 |[],b,j,h=>by simp at h
 |(m,q)::r,b,0,h=>by simp[mkE,zCk]
 |(m,q)::r,b,j+1,h=>by
  have:=qNI ik r (b+1) j (by simpa using h);rw[show b+1+j=b+(j+1) by omega]at this;simp only[mkE,zCk];rw[show((b:zt)==((b+(j+1):Z):zt))=zb by simp;omega,this];simp
def qYV(ik)(v):∀(es:F (Ky×zg))(b j:Z),mkE ik b (FT j v es)=(mkE ik b es).modify j (λe=>{e with val:=v})
 |[],b,j=>by cases j<;>simp[FT,mkE]
 |(m,h)::r,b,0=>by simp[FT,mkE]
 |(m,h)::r,b,j+1=>by simp[FT,mkE,qYV ik v r (b+1) j]
def qAI{ty}(h:w.heap[r]?=O (.map ⟨mkE ik 0 es⟩ es.length)){j}(q:j<es.length)(v):(Instr.entryStore ty (.map (O r)) (.int .i64 j) v).run P w=.ok () {w with heap:=w.heap.setIfInBounds r (.map ⟨mkE ik 0 (FT j v es)⟩ (FT j v es).length)}:=by
 have u:=Go.MapKept.run_getObj_map (P:=P) h;have A:(asInt (.int .i64 j)).run P w=.ok (j:zt) w:=rfl
 have B:(⟨mkE ik 0 es⟩:zS MapEntry).findIdx? (λe=>(e.born:zt)==(j:zt))=O j:=by
  have:=qNI ik es 0 j q;rw[zAr]at this;simpa using this
 simp only[Instr.entryStore,zZ,zAV,u,A,B,Go.MapKept.run_setObj_map _ h];rw[q2R,qYV];congr 4;apply zBl;rw[zDd]
def qIH(D:P.underlying t=O (.map kt et))(h:Gi P kt=O ik)(L:w.heap[r]?=O (.map ⟨mkE ik 0 es⟩ es.length))(u:ik.fits es=I){n}(q:ik.fit n=I){z}(A:(P.info? et).bind (·.zero)=O z)(ok):(Instr.lookup t (.map (O r)) (ik.v n) ok).run P w=.ok (q0O ok z (B5 n es)) w:=by
 have E:=λe=>qWK (w:=w) h q e;have H:=Go.MapKept.run_getObj_map (P:=P) L
 have Q:(zAW et).run P w=.ok z w:=by
  obtain⟨i,R,A⟩:=zAC.1 A;simp[zAW,typeInfo,R,A]
 rcases q0J ik n .nilFunc es with⟨B,T,_⟩|⟨j,U,B,V,W,_⟩
 .have C:=qsG h q u ((qpH (w:=w) h q es 0 0 u).1 T);simp only[Instr.lookup,zZ,zL D,zAV,H,E,C,Q,Sem.run_pure,B];cases ok<;>rfl
 .have C:=qsG h q u ((qpH (w:=w) h q es 0 0 u).2 j U V W);simp only[Instr.lookup,zZ,zL D,zAV,H,E,C,Sem.run_pure,B];cases ok<;>rfl
end
end Go.Proofs.YtlmhpamhhgogaaaGreat.Sx
namespace Go.Proofs.YtlmhpamhhgogaaaGreat.Sx
open Go.RowKit
def Rcs(g:GW)(a:zAI)(xs:F zg):Prop:=∀i h,xs[i]?=O h->Rc g (a.add i) h
def q7X(agg:zO)(size:Z)(hs:Hs)(x:SV)(K:SV->Prop):Prop:=match x with
 |.p id b o=>match qIB id hs.rs with
  |some (u,_,cells)=>b=u/\match agg with
   |true=>match HO cells o size with
    |some r=>K (.agg r)
    |none=>zX
   |false=>match GJ cells o with
    |some s=>qLY (norm hs.rs s) K
    |none=>zX
  |none=>zX
 |.re id A n cap j=>match qXB id hs.rs with
  |some (B,C,D,_,_,cs)=>(A=B/\n=C/\cap=D)/\match agg with
   |true=>match Nat.ble 1 size with
    |true=>∃q:F zg,(q.length=size/\∀i h,q[i]?=O h->cs[j+i]?=O h)/\K (.v (.agg ⟨q⟩))
    |false=>zX
   |false=>∃h,cs[j]?=O h/\K (.v h)
  |none=>zX
 |.v (.pointer (O a))=>match agg with
  |true=>∃q:F zg,(q.length=size/\Rcs hs.g a q)/\K (.v (.agg ⟨q⟩))
  |false=>∃h,Rc hs.g a h/\K (.v h)
 |_=>zX
def HA(size:Z)(x:SV)(lo u A:zy SV)(K:SV->Prop):Prop:=match x with
 |.v (.slice q n cap)=>
  match lo,u,A with
  |none,zc,zc=>K (.v (.slice q n cap))
  |some (.v (.int _ l)),zc,zc=>(0<=l/\l<=n)/\K (.v (.slice (if cap=l.toNat then q else q.map (·.add (l.toNat*size))) (n-l.toNat) (cap-l.toNat)))
  |none,O (.v (.int _ h)),zc=>(0<=h/\h<=cap)/\K (.v (.slice q h.toNat cap))
  |some (.v (.int _ l)),O (.v (.int _ h)),zc=>(0<=l/\l<=h/\h<=cap)/\K (.v (.slice (if cap=l.toNat then q else q.map (·.add (l.toNat*size))) (h.toNat-l.toNat) (cap-l.toNat)))
  |none,O (.v (.int _ h)),O (.v (.int _ m))=>(0<=h/\h<=m/\m<=cap)/\K (.v (.slice q h.toNat m.toNat))
  |some (.v (.int _ l)),O (.v (.int _ h)),O (.v (.int _ m))=>(0<=l/\l<=h/\h<=m/\m<=cap)/\K (.v (.slice (if m=l then q else q.map (·.add (l.toNat*size))) (h.toNat-l.toNat) (m.toNat-l.toNat)))
  |_,_,_=>zX
 |_=>zX
def qwS(x:SV)(lo q:zy SV)(K:SV->Prop):Prop:=match x with
 |.v (.string s)=>match lo,q with
  |none,zc=>K (.v (.string (s.extract 0 s.size)))
  |some (.v (.int _ l)),zc=>(0<=l/\l<=s.size)/\K (.v (.string (s.extract l.toNat s.size)))
  |none,O (.v (.int _ h))=>(0<=h/\h<=s.size)/\K (.v (.string (s.extract 0 h.toNat)))
  |some (.v (.int _ l)),O (.v (.int _ h))=>(0<=l/\l<=h/\h<=s.size)/\K (.v (.string (s.extract l.toNat h.toNat)))
  |_,_=>zX
 |_=>zX
def Opd.ko(rs:F Res)(sl:Sl)(x:zy Opd)(k:zy SV->Prop):Prop:=match x with
 |none=>k zc
 |some x=>x.k rs sl λs=>k (O s)
def q7A(x:SV):F SV:=match x with
 |.agg l=>l
 |.v (.agg ⟨l⟩)=>l.map .v
 |x=>[x]
def qfB(x):qCA (q7A x)=(Ag x).cells.toList:=by
 cases x with
 |v y=>
  cases y with
  |agg cs=>cases cs;rename_i l;simp[q7A,Ag,Value.cells,qgA,zCc]
  |_=>simp[q7A,Ag,Value.cells,qCA]
 |agg l=>simp[q7A,Ag,Value.cells]
 |_=>simp[q7A,Ag,Value.cells,qCA]
def qIC(x):(q7A x).length=(Ag x).cells.size:=by
 have:=zI List.length (qfB x);rw[qnA]at this;simpa using this
def Gf{h:Type}:F h->Z->F h->zy (F h)
 |l,0,[]=>O l
 |[],0,_::_=>zc
 |_::l,0,c::cs=>match Gf l 0 cs with
  |some r=>O (c::r)
  |none=>zc
 |[],_+1,_=>zc
 |x::l,o+1,cs=>match Gf l o cs with
  |some r=>O (x::r)
  |none=>zc
def qGI{A:Type}:∀{l:F A}{o:Z}{cs r:F A},Gf l o cs=O r->o+cs.length<=l.length/\r=l.take o++cs++l.drop (o+cs.length)
 |l,0,[],r,h=>by simp[Gf]at h;simp[h]
 |[],0,_::_,r,h=>by simp[Gf]at h
 |x::l,0,c::cs,r,h=>by
  simp only[Gf]at h;split at h
  .rename_i B q;simp at h;subst h;obtain⟨C,u⟩:=qGI q;exact⟨by simp at*;omega,by simp[u]⟩
  .cases h
 |[],o+1,cs,r,h=>by simp[Gf]at h
 |x::l,o+1,cs,r,h=>by
  simp only[Gf]at h;split at h
  .rename_i B q;simp at h;subst h;obtain⟨C,u⟩:=qGI q;exact⟨by simp at*;omega,by simp[u,zCT o 1]⟩
  .cases h
def qqV(vs):∀(o j:Z)(A:zS zg),o+j+vs.length<=A.size->((vs.zipIdx j).foldl (λcs(c,k)=>cs.setIfInBounds (o+k) c) A).toList=A.toList.take (o+j)++vs++A.toList.drop (o+j+vs.length):=by
 induction vs with
 |nil=>intro o j A h;simp
 |cons v vs q=>
  intro o j A h;simp only[List.zipIdx_cons,zCC];rw[q o (j+1) _ (by simp at*;omega)];have u:o+j<A.toList.length:=by simp at*;omega
  simp only[Array.toList_setIfInBounds];rw[<-zDp o j 1,zAo (by simpa using u),List.take_set,List.set_eq_of_length_le sf,List.getElem_set_self,zDe sa];simp only[zB2,zBi,zA9,zBy];rw[show o+j+1+vs.length=o+j+(vs.length+1) by omega]
def quV(rs:F Res)(sl:Sl):F SV->F (Z×Z×Opd)->(F SV->Prop)->Prop
 |cells,[],K=>K cells
 |cells,(off,size,x)::r,K=>x.k rs sl λs=>match zAL (q7A s).length size with
  |true=>match Gf cells off (q7A s)with
   |some h=>quV rs sl h r K
   |none=>zX
  |false=>zX
def q2G{rs}{sl}{a}(hs:qID sl a)(place):∀(parts:F (Z×Operand))(ps:F (Z×Z×Opd))(cells:F SV){K:F SV->Prop},(parts.map λ(i,x)=>(place i).map λ(o,s)=>(o,s,qJA x))=ps.map O->quV rs sl cells ps K->∃q,K q/\Instr.fill place (qCA cells).toArray (parts.map λ(i,x)=>(i,a.eval x))=O (qCA q).toArray
 |[],ps,cells,K,h,A=>by
  simp at h;subst h;exact⟨cells,A,rfl⟩
 |(i,x)::parts,[],cells,K,h,A=>by simp at h
 |(i,x)::parts,(off,size,y)::ps,cells,K,h,A=>by
  simp only[zB0,zAA,zD,Prod.exists,zCE]at h;obtain⟨⟨o,s,D,rfl,rfl,rfl⟩,h⟩:=h
  obtain⟨v,u,E⟩:=Opd.AC (k:=λC=>match zAL (q7A C).length s with
   |true=>match Gf cells o (q7A C)with
    |some q=>quV rs sl q ps K
    |none=>zX
   |false=>zX) A hs
  split at u
  .rename_i B;have B:=zP B;split at u
   .rename_i q H;obtain⟨L,P⟩:=qGI H;obtain⟨Q,R,T⟩:=q2G hs place parts ps q h u;refine⟨Q,R,?_⟩;rw[qIC]at B L;simp only[zB0,Instr.fill,D,E];rw[zj (by simp[B,qnA];omega)];rw[<-T];congr 1;have U:=qqV (Ag v).cells.toList o 0 (qCA cells).toArray (by simp[qnA];omega)
    have e1:(Ag v).cells.zipIdx.foldl (λcs(c,j)=>cs.setIfInBounds (o+j) c) (qCA cells).toArray=((Ag v).cells.toList.zipIdx 0).foldl (λcs(c,j)=>cs.setIfInBounds (o+j) c) (qCA cells).toArray:=by
     rw[<-Array.toList_zipIdx,zDk]
    rw[e1];apply zBl;rw[U,P];simp only[qYG,q4G,q5G,qfB,qIC];simp
   .exact u.elim
  .exact u.elim
def qod(h:zO)(x y:SV)(K:SV->Prop):Prop:=match qaM x with
 |none=>zX
 |some a=>match qaM y with
  |none=>zX
  |some b=>match h with
   |false=>K (.v (.bool (a==b)))
   |true=>K (.v (.bool (!(a==b))))
def qnd(kind:Z)(h:zO)(x:SV)(K:SV->Prop):Prop:=match qhQ kind x with
 |none=>zX
 |some a=>match h with
  |false=>K (.v (.bool a))
  |true=>K (.v (.bool (!a)))
def q4O:SV->zO
 |.agg _=>I
 |.v (.agg _)=>I
 |_=>zb
def qQZ(h:zO)(ks:F Z)(x y:SV)(K:SV->Prop):Prop:=match q4O x,q4O y with
 |true,I=>qyC (q7A x) λq=>qyC (q7A y) λu=>match eqV ks q u with
  |some b=>match h with
   |false=>K (.v (.bool b))
   |true=>K (.v (.bool (!b)))
  |none=>zX
 |_,_=>zX
def KS(x:SV)(K:SV->Prop):Prop:=match x with
 |.b I=>K (.b zb)
 |.b zb=>K (.b I)
 |.v (.bool x)=>K (.v (.bool (!x)))
 |_=>zX
def qdd(k:IntKind)(x:SV)(K:SV->Prop):Prop:=match x with
 |.v (.int _ n)=>K (.v (.int k (k.wrap n)))
 |_=>zX
def q0X(x y:SV)(K:SV->Prop):Prop:=match x,y with
 |.v (.int k a),.v (.int _ b)=>K (.v (.int k (if b<a then b else a)))
 |_,_=>zX
def Kw(h:F zt):ByteArray:=h.foldl (λr n=>r.push (UInt8.ofNat n.toNat)) ByteArray.empty
def Kb(hs:Hs)(x:SV)(K:SV->Prop):Prop:=match x with
 |.v (.slice q n cap)=>∃h:F zt,CQ hs.g 1 (.slice q n cap) n (h.map (zK .u8))/\K (.v (.string (Kw h)))
 |_=>zX
def q5X(hs:Hs)(h:KyT)(z:zg)(ok:zO)(x k:SV)(K:SV->Prop):Prop:=match x with
 |.mp id r=>match kOf h (Ag k)with
  |some n=>match qWD id hs.rs with
   |some (q,u,es)=>(r=q/\I=I/\IG u h=I)/\∃o,B5 n es=o/\match o with
    |some v=>match ok with
     |true=>K (.v (.tuple ⟨[v,.bool I]⟩))
     |false=>K (.v v)
    |none=>match ok with
     |true=>K (.v (.tuple ⟨[z,.bool zb]⟩))
     |false=>K (.v z)
   |none=>zX
  |none=>zX
 |.v (.map (O r))=>match kOf h (Ag k)with
  |some n=>∃es,(I=I/\FzM hs.g r h es)/\∃o,B5 n es=o/\match o with
    |some v=>match ok with
     |true=>K (.v (.tuple ⟨[v,.bool I]⟩))
     |false=>K (.v v)
    |none=>match ok with
     |true=>K (.v (.tuple ⟨[z,.bool zb]⟩))
     |false=>K (.v z)
  |none=>zX
 |_=>zX
def JJ(str:zO)(x:SV)(K:SV->Prop):Prop:=match str with
 |true=>match x with
  |.v (.string s)=>K (.v (.int .i64 s.size))
  |_=>zX
 |false=>match x with
  |.v (.slice _ n _)=>K (.v (.int .i64 n))
  |.sl _ _ _ n _=>K (.v (.int .i64 n))
  |.row _ _ n _=>K (.v (.int .i64 n))
  |_=>zX
def qPd(x i:SV)(K:SV->Prop):Prop:=match x,i with
 |.v (.string s),.v (.int _ n)=>∃c:UInt8,(0<=n/\s.data.toList[n.toNat]?=O c)/\K (.v (.int .u8 c.toNat))
 |_,_=>zX
def qQd(n size:Z)(agg:zO)(x i:SV)(K:SV->Prop):Prop:=match i with
 |.v (.int _ m)=>∃j:Z,(m=j/\j<n)/\qUX agg (j*size) size x K
 |_=>zX
def qYd(off:Z)(x:SV)(K:SV->Prop):Prop:=match x with
 |.p id b o=>K (.p id b (o+off))
 |.re id (O h) n cap j=>K (.re id (O h) n cap (j+off))
 |.v (.pointer (O a))=>K (.v (.pointer (O (a.add off))))
 |_=>zX
def qCZ(n size:Z)(x i:SV)(K:SV->Prop):Prop:=match i with
 |.v (.int _ m)=>match x with
  |.p id b o=>∃j:Z,(m=j/\j<n)/\K (.p id b (o+j*size))
  |.v (.pointer (O a))=>(0<=m/\m<n)/\K (.v (.pointer (O (a.add (m.toNat*size)))))
  |_=>zX
 |_=>zX
def qRd(rs:F Res)(size:Z)(x i:SV)(K:SV->Prop):Prop:=match i with
 |.v (.int _ m)=>match x with
  |.v (.slice h n _)=>∃a,h=O a/\(0<=m/\m<n)/\K (.v (.pointer (O (a.add (m.toNat*size)))))
  |.sl id b o n _=>∃j:Z,(m=j/\j<n)/\K (.p id b (o+j*size))
  |.row id h n cap=>match qXB id rs with
   |some (q,u,A,_,B,_)=>(h=q/\n=u/\cap=A/\B=size)/\(0<=m/\m<n)/\K (.re id h n cap (m.toNat*size))
   |none=>zX
  |_=>zX
 |_=>zX
def KT(x:SV)(K:SV->Prop):Prop:=match x with
 |.p id b o=>K (.p id b o)
 |.re id (O h) n cap j=>K (.re id (O h) n cap j)
 |.v (.pointer (O a))=>K (.v (.pointer (O a)))
 |.v (.func (.func f) a b)=>K (.v (.func (.func f) a b))
 |.fn (.func f) a b=>K (.fn (.func f) a b)
 |.yl id l=>K (.yl id l)
 |_=>zX
def Ld(i:Z)(x:SV)(K:SV->Prop):Prop:=match x with
 |.tup l=>match GJ l i with
  |some s=>K s
  |none=>zX
 |.v (.tuple ⟨l⟩)=>match GJ l i with
  |some s=>K (.v s)
  |none=>zX
 |_=>zX
def rdS(o:SOp)(sl:Sl)(hs:Hs)(K:SV->Prop):Prop:=match o with
 |.mov x=>x.k hs.rs sl K
 |.pick c a b=>c.k hs.rs sl λc=>match c with
  |.b I=>a.k hs.rs sl K
  |.b zb=>b.k hs.rs sl K
  |.v (.bool x)=>(x=I->a.k hs.rs sl K)/\(x=zb->b.k hs.rs sl K)
  |_=>zX
 |.Jc op x y=>x.k hs.rs sl λx=>y.k hs.rs sl λy=>qNb op x y K
 |.Lv op x y=>x.k hs.rs sl λx=>y.k hs.rs sl λy=>qMb op x y K
 |.Jd u x y=>x.k hs.rs sl λx=>y.k hs.rs sl λy=>qod u x y K
 |.Hp kind u x=>x.k hs.rs sl λx=>qnd kind u x K
 |.GQ u ks x y=>x.k hs.rs sl λx=>y.k hs.rs sl λy=>qQZ u ks x y K
 |.not x=>x.k hs.rs sl λx=>KS x K
 |.conv k x=>x.k hs.rs sl λx=>qdd k x K
 |.len str x=>x.k hs.rs sl λx=>JJ str x K
 |.K8 x i=>x.k hs.rs sl λx=>i.k hs.rs sl λi=>qPd x i K
 |.K9 n size agg x i=>x.k hs.rs sl λx=>i.k hs.rs sl λi=>qQd n size agg x i K
 |.EW off x=>x.k hs.rs sl λx=>qYd off x K
 |.fld off size agg x=>x.k hs.rs sl λx=>qUX agg off size x K
 |.Jl n size x i=>x.k hs.rs sl λx=>i.k hs.rs sl λi=>qCZ n size x i K
 |.JK size x i=>x.k hs.rs sl λx=>i.k hs.rs sl λi=>qRd hs.rs size x i K
 |.load agg size x=>x.k hs.rs sl λx=>q7X agg size hs x K
 |.nck x=>x.k hs.rs sl λx=>KT x K
 |.ext i x=>x.k hs.rs sl λx=>Ld i x K
 |.mkf f first B=>Opd.ks hs.rs sl first λa=>Opd.ks hs.rs sl B λc=>K (.fn f a c)
 |.build zero parts=>quV hs.rs sl zero parts λcells=>K (.agg cells)
 |.KC x h q=>x.k hs.rs sl λx=>Opd.ko hs.rs sl h λh=>Opd.ko hs.rs sl q λq=>qwS x h q K
 |.slc size x h q A=>x.k hs.rs sl λx=>Opd.ko hs.rs sl h λh=>Opd.ko hs.rs sl q λq=>Opd.ko hs.rs sl A λA=>HA size x h q A K
 |.KV x y=>x.k hs.rs sl λx=>y.k hs.rs sl λy=>q0X x y K
 |.tos x=>x.k hs.rs sl λx=>Kb hs x K
 |.look C z ok x k=>x.k hs.rs sl λx=>k.k hs.rs sl λk=>q5X hs C z ok x k K
 |_=>zX
def SOp.reads:SOp->zO
 |.store .. |.alloc .. |.box .. |.bsl .. |.app .. |.msl .. |.cpy .. |.call .. |.H3 .. |.Hm .. |.mkm .. |.mup .. |.men .. |.est ..=>zb
 |_=>I
def SOp.pure:SOp->zO
 |.load .. |.tos .. |.JK .. |.look ..=>zb
 |o=>o.reads
def q5C{P}{w w'}{s:Sem zg}{x}(h:s.run P w=.ok x w'):(do pure (Next.value (<-s)):Sem Next).run P w=.ok (.value x) w':=by
 simp[h,zAk]
def qFX{P}{w w'}{s:Sem Unit}(h:s.run P w=.ok () w'):(do s;pure Next.skip:Sem Next).run P w=.ok .skip w':=by
 simp[h,zAk]
def q1A{P}{t}{size}(hs:qYB P t=O size)(w):(sizeOf t).run P w=.ok size w:=by
 simp only[qYB,zD]at hs;obtain⟨i,h,rfl⟩:=hs;simp[sizeOf,typeInfo,zZ,h,zAk]
def qDN{P}{t}{agg}(h:BT P t=O agg)(w):(isAgg t).run P w=.ok agg w:=by
 unfold BT at h;simp only[isAgg,underlying,zZ,run_program,zAk];split at h<;>rename_i q<;>simp at h<;>subst h<;>simp[q]
def Ap.Eh{fr:Fr}{hs}{w}(h:Ap fr hs w){id b}{ty}{cells}(q:qIB id hs.rs=O (b,ty,cells)):w.heap[b]?=O (.cells (qCA cells).toArray ty (0,0))/\∀c∈cells,(Ag c).oneCell'=I:=by
 obtain⟨u,A,e⟩:=qeI q;exact h.res (.blk id b ty cells) (by rw[e];simp)
def Ap.E2{fr:Fr}{hs}{w}(h:Ap fr hs w){id}{oa}{n cap}{ety}{size}{cs}(q:qXB id hs.rs=O (oa,n,cap,ety,size,cs)):w.ownsRow 0 ety size (.slice oa n cap) n cs/\∀u∈cs,u.oneCell'=I:=by
 obtain⟨A,B,e⟩:=qZF q;exact h.res (.row id oa n cap ety size cs) (by rw[e];simp)
def qJB{w:zp}{b:Z}{cs:zS zg}{ty:zAw}{fr:Z×Z}(h:w.heap[b]?=O (.cells cs ty fr))(o:Z):w.cell? ⟨b,o,zc⟩=cs[o]?:=by
 simp[World.cell?,h]
def qoA(b o n):(⟨b,o,zc⟩:zAI).add n=⟨b,o+n,zc⟩:=by
 unfold Addr.add;split
 .rename_i h;subst h;rfl
 .rfl
def qjG(a:zAI)(i j:Z):(a.add i).add j=a.add (i+j):=by
 unfold Addr.add;split<;>split<;>split<;>first|omega|(simp_all;done)|(simp;omega)
def quB{P}{t}{size}{agg}(hs:qYB P t=O size)(A:BT P t=O agg){w}{a}:(∀x,agg=zb->w.cell? a=O x->(loadVar t a).run P w=.ok x w)/\(∀xs:F zg,agg=I->xs.length=size->(∀i u,xs[i]?=O u->w.cell? (a.add i)=O u)->(loadVar t a).run P w=.ok (.agg ⟨xs⟩) w):=by
 refine⟨λx h q=>?_,λxs h C q=>?_⟩
 .subst h;simp[loadVar,zZ,qDN A,zAk,q]
 .subst h;have B:=run_loadCells_list (P:=P) (w:=w) a xs (λj v D=>q j v D);rw[C]at B;simp[loadVar,zZ,qDN A,q1A hs,zAk,B]
def qKM{agg}{size}{hs}{x}{K}(h:q7X agg size hs x K){P}{t}(B:qYB P t=O size)(C:BT P t=O agg)(U:0<size\/agg=I):∃s,K s/\∀fr w,Ap fr hs w->(zBq t (Ag x)).run P w=.ok (Ag s) w:=by
 have go:∀{a:zAI}{w:zp}{v:zg},(loadVar t a).run P w=.ok v w->(zBq t (.pointer (O a))).run P w=.ok v w:=λh=>by
  simp[zBq,Instr.sureAddr,h]
 unfold q7X at h;split at h
 .rename_i id b o;split at h
  .rename_i ah ai cells H;obtain⟨rfl,h⟩:=h;cases agg with
   |true=>
    simp only at h;split at h
    .rename_i r L;obtain⟨V,Q⟩:=qgI L;refine⟨_,h,λfr w u=>go ?_⟩;have W:=u.Eh H;refine(quB B C (w:=w)).2 (qCA r) rfl (by rw[qnA,<-Q];simp;omega) λi A q=>?_;rw[qoA,qJB W.1];rw[<-Q,q4G,q5G,zBd]at q;split at q
     .simpa using q
     .cases q
    .exact h.elim
   |false=>
    simp only at h;split at h
    .rename_i s L;rw[qWN]at h;rw[q5I]at L;refine⟨_,h,λfr w u=>go ?_⟩;have W:=u.Eh H;rw[q5D];exact(quB B C (w:=w)).1 _ rfl (by rw[qJB W.1];simp[Dz,L])
    .exact h.elim
  .exact h.elim
 .rename_i id aa n cap j;split at h
  .rename_i aj ak ad al am cs H;obtain⟨⟨rfl,rfl,rfl⟩,h⟩:=h
   have qMP:∀fr w,Ap fr hs w->∀i A,cs[i]?=O A->∃g,aa=O ⟨g,0,zc⟩/\w.cell? ⟨g,i,zc⟩=O A:=λfr w u i A q=>by
    obtain⟨⟨V,Q⟩,_⟩:=u.E2 H;rcases Q with⟨_,rfl⟩|⟨g,ad,cur,ab,_,ae,_,_,_,af⟩
    .simp at V;subst V;simp at q
    .simp only[zAg]at ab;obtain⟨rfl,_,rfl⟩:=ab;refine⟨g,rfl,?_⟩;rw[qJB ae,<-zCm];rw[<-af,zBd]at q;split at q
     .exact q
     .cases q
   cases agg with
   |true=>
    simp only at h;split at h
    case h_2=>exact h.elim
    rename_i U;have U:0<size:=zAq U;obtain⟨D,⟨R,T⟩,h⟩:=h;refine⟨_,h,λfr w u=>?_⟩
    have ag:∃g,aa=O ⟨g,0,zc⟩\/D=[]:=by
     cases D with
     |nil=>exact⟨0,.inr rfl⟩
     |cons y an=>obtain⟨g,E,_⟩:=qMP fr w u (j+0) y (T 0 y rfl);exact⟨g,.inl E⟩
    obtain⟨g,E|E⟩:=ag
    .subst E;simp only[Ag,zBv];refine go ((quB B C (w:=w)).2 D rfl R λi A q=>?_);obtain⟨ao,ac,Y⟩:=qMP fr w u _ _ (T i A q);simp only[zAh,Addr.mk.injEq,zA6]at ac;subst ac;rw[qoA,qoA,zAr];exact Y
    .subst E;simp at R;omega
   |false=>
    obtain⟨A,q,h⟩:=h;refine⟨_,h,λfr w u=>?_⟩;obtain⟨g,rfl,Y⟩:=qMP fr w u _ _ q;simp only[Ag,zBv];exact go ((quB B C (w:=w)).1 _ rfl (by rw[qoA,zAr];exact Y))
  .exact h.elim
 .rename_i a;cases agg with
  |true=>
   obtain⟨D,⟨R,T⟩,h⟩:=h;exact⟨_,h,λfr w u=>go ((quB B C (w:=w)).2 D rfl R λi A q=>(T i A q).at u.AJ)⟩
  |false=>
   obtain⟨A,q,h⟩:=h;exact⟨_,h,λfr w u=>go ((quB B C (w:=w)).1 _ rfl (q.at u.AJ))⟩
 .exact h.elim
def Opd.FU{rs:F Res}{sl:Sl}{a:zDz}{o:zy Operand}{k:zy SV->Prop}(h:Opd.ko rs sl (o.map qJA) k)(hs:qID sl a):∃s,k s/\o.map a.eval=s.map Ag:=by
 cases o with
 |none=>exact⟨zc,h,rfl⟩
 |some x=>obtain⟨s,q,u⟩:=Opd.AC (k:=λs=>k (O s)) h hs;exact⟨O s,q,by simp[u]⟩
def qBX{size}{x}{lo B C}{K}(h:HA size x lo B C K){P}{t e}(A:P.underlying t=O (.slice e))(D:qYB P e=O size):∃s,K s/\∀w,(Instr.sliceAt t (Ag x) (lo.map Ag) (B.map Ag) (C.map Ag)).run P w=.ok (Ag s) w:=by
 have E:∀(y:zg)(lo B C:zy zg)w,(Instr.sliceAt t y lo B C).run P w=(Instr.slice t y lo B C).run P w:=λy lo B C w=>by
  simp[Instr.sliceAt,zL A]
 have R:∀(H:zy zAI),Option.map (λx:zAI=>x.add 0) H=H:=λH=>by cases H<;>simp[Addr.add]
 unfold HA at h;split at h
 .rename_i H n cap;split at h
  .exact⟨_,h,λw=>by rw[E];simp[Ag,Instr.slice,zL A,Instr.sliceBounds,q1A D,R]⟩
  .rename_i U l;obtain⟨⟨q,u⟩,h⟩:=h;exact⟨_,h,λw=>by rw[E];simp[Ag,Instr.slice,zL A,Instr.sliceBounds,Instr.sliceBound,asIntOf,q1A D,q,u]⟩
  .rename_i T L;obtain⟨⟨q,u⟩,h⟩:=h;exact⟨_,h,λw=>by rw[E];simp[Ag,Instr.slice,zL A,Instr.sliceBounds,Instr.sliceBound,asIntOf,q1A D,R,q,u]⟩
  .rename_i U l T L;obtain⟨⟨q,u,Q⟩,h⟩:=h;have e1:(0:zt)<=L:=sa
   exact⟨_,h,λw=>by rw[E];simp[Ag,Instr.slice,zL A,Instr.sliceBounds,Instr.sliceBound,asIntOf,q1A D,q,u,Q,e1,zBO e1]⟩
  .rename_i T L V m;obtain⟨⟨q,u,Q⟩,h⟩:=h;have e1:(0:zt)<=m:=sa
   exact⟨_,h,λw=>by rw[E];simp[Ag,Instr.slice,zL A,Instr.sliceBounds,Instr.sliceBound,asIntOf,q1A D,R,q,u,Q,e1,zBO e1]⟩
  .rename_i U l T L V m;obtain⟨⟨q,u,Q,W⟩,h⟩:=h;have e1:(0:zt)<=m:=sa
   have e2:(0:zt)<=L:=sa
   have e3:(m.toNat=l.toNat)<->m=l:=sa
   exact⟨_,h,λw=>by rw[E];simp[Ag,Instr.slice,zL A,Instr.sliceBounds,Instr.sliceBound,asIntOf,q1A D,q,u,Q,W,e1,e2,e3,zBO e1,zBO e2]⟩
  .exact h.elim
 .exact h.elim
def qZU{x}{lo q}{K}(h:qwS x lo q K){P}{t}(u:P.underlying t=O .string):∃s,K s/\∀w,(Instr.sliceAt t (Ag x) (lo.map Ag) (q.map Ag) zc).run P w=.ok (Ag s) w:=by
 have C:∀(y:zg)(lo q D:zy zg)w,(Instr.sliceAt t y lo q D).run P w=(Instr.slice t y lo q D).run P w:=λy lo q D w=>by
  simp[Instr.sliceAt,zL u]
 unfold qwS at h;split at h
 .rename_i s;split at h
  .exact⟨_,h,λw=>by rw[C];simp[Ag,Instr.slice,zL u,Instr.sliceBounds]⟩
  .rename_i H l;obtain⟨⟨A,B⟩,h⟩:=h;exact⟨_,h,λw=>by rw[C];simp[Ag,Instr.slice,zL u,Instr.sliceBounds,Instr.sliceBound,asIntOf,A,B]⟩
  .rename_i L E;obtain⟨⟨A,B⟩,h⟩:=h;exact⟨_,h,λw=>by rw[C];simp[Ag,Instr.slice,zL u,Instr.sliceBounds,Instr.sliceBound,asIntOf,A,B]⟩
  .rename_i H l L E;obtain⟨⟨A,B,Q⟩,h⟩:=h;have e1:(0:zt)<=E:=sa
   exact⟨_,h,λw=>by rw[C];simp[Ag,Instr.slice,zL u,Instr.sliceBounds,Instr.sliceBound,asIntOf,A,B,Q,e1,zBO e1]⟩
  .exact h.elim
 .exact h.elim
def quO{q u:Type}(f:q->zy u):∀(l:F q){r:F u},l.mapM f=O r->l.map f=r.map O
 |[],r,h=>by simp at h;subst h;rfl
 |x::l,r,h=>by
  simp only[zCY,Option.bind_eq_bind,zAC]at h;obtain⟨y,B,D,C,A⟩:=h;simp at A;subst A;simp[B,quO f l C]
def qoD{P}{t}{z}(h:qrI P t=O z)(w):∃v,(zAW t).run P w=.ok v w/\v.cells.toList=z/\∀c∈z,c.oneCell'=I:=by
 unfold qrI at h;split at h
 .rename_i v q;split at h
  .rename_i u;simp at h;subst h;simp only[zAC]at q;obtain⟨i,A,B⟩:=q;refine⟨v,by simp[zAW,typeInfo,A,B],rfl,λc C=>?_⟩;exact zC5.1 u c (by simpa using C)
  .cases h
 .cases h
def qnZ{P}{w}{s d e}{oa}{n cap}{h}{g}(A:P.underlying s=O (.slice e))(B:P.underlying e=O (.int .u8))(C:P.underlying d=O .string)(D:CQ g 1 (.slice oa n cap) n (h.map (zK .u8)))(E:Good g w):(convert s d (.slice oa n cap)).run P w=.ok (.string (Kw h)) w:=by
 rw[run_convert_bytes_string w s d e oa n cap A B C];obtain⟨q,U,V,u,W,Y,H,L⟩:=D;simp only[zAg,zBL]at u;obtain⟨rfl,rfl⟩:=u;cases oa with
 |none=>
  have:h=[]:=by
   have:=(H rfl).1;simp at q;apply zCd;omega
  subst this;rfl
 |some a=>
  refine run_bytesToString w a n cap h ?_
  have:=run_loadCells_list (P:=P) w a (h.map (zK .u8)) λj v Q=>by
   obtain⟨aa,R,T⟩:=L j v Q;cases R;exact T.at E
  rwa [show(h.map (zK .u8)).length=n by simp at q;simp;omega]at this
def qZO{P}{o}{aE}(q:Ea P o=O aE)(W:aE.reads=I){sl}{a}(L:qID sl a){hs}{K}(h:rdS aE sl hs K):∃s,K s/\∀fr w,(aE.pure=I\/Ap fr hs w)->(zx a.eval o).run P w=.ok (.value (Ag s)) w:=by
 unfold Ea at q;split at q
 .rename_i x D;simp at q;subst q;obtain⟨s,u,ap⟩:=Opd.AC h L;exact⟨s,u,λfr w A=>by simp[zx,D,ap]⟩
 .rename_i x D;simp at q;subst q;obtain⟨s,u,ap⟩:=Opd.AC h L;exact⟨s,u,λfr w A=>by simp[zx,D,ap]⟩
 .rename_i c x y D;simp at q;subst q;simp only[rdS]at h;obtain⟨be,u,ap⟩:=Opd.AC h L
  have fin:∀{Y:Fr->zp->Prop}(b:zO),Ag be=.bool b->(∃s,K s/\(if b then a.eval x else a.eval y)=Ag s)->∃s,K s/\∀fr w,Y fr w->(zx a.eval o).run P w=.ok (.value (Ag s)) w:=by
   rintro Y b aa ⟨s,ab,ae⟩;exact⟨s,ab,λfr w A=>by simp[zx,D,ap,aa,asBool,ae]⟩
  split at u
  .obtain⟨s,E,H⟩:=Opd.AC u L;exact fin I rfl ⟨s,E,by simpa using H⟩
  .obtain⟨s,E,H⟩:=Opd.AC u L;exact fin zb rfl ⟨s,E,by simpa using H⟩
  .rename_i b;cases aa:b with
   |true=>obtain⟨s,E,H⟩:=Opd.AC (u.1 aa) L;exact fin I (by rw[aa];rfl) ⟨s,E,by simpa using H⟩
   |false=>obtain⟨s,E,H⟩:=Opd.AC (u.2 aa) L;exact fin zb (by rw[aa];rfl) ⟨s,E,by simpa using H⟩
  .exact u.elim
 .rename_i op t x y bB D
  have two:∀{k:SV->SV->Prop},(Opd.k hs.rs sl (qJA x) λx=>Opd.k hs.rs sl (qJA y) λy=>k x y)->∃B Q,k B Q/\a.eval x=Ag B/\a.eval y=Ag Q:=λ{k}av=>by
   obtain⟨B,E,e1⟩:=Opd.AC (k:=λx=>Opd.k hs.rs sl (qJA y) λy=>k x y) av L;obtain⟨Q,H,e2⟩:=Opd.AC (k:=λy=>k B y) E L;exact⟨B,Q,H,e1,e2⟩
  have fin:∀{Y:Fr->zp->Prop}(s:SV),K s->(∀w,(do eqGuard op t x y (a.eval x) (a.eval y);binOp op t (a.eval x) (a.eval y):Sem zg).run P w=.ok (Ag s) w)->∃s,K s/\∀fr w,Y fr w->(zx a.eval o).run P w=.ok (.value (Ag s)) w:=
   λs ab af=>⟨s,ab,λfr w A=>by simp only[zx,D];exact q5C (af w)⟩
  have seq:∀{s:SV}{w:zp},(binOp op t (a.eval x) (a.eval y)).run P w=.ok (Ag s) w->(eqGuard op t x y (a.eval x) (a.eval y)).run P w=.ok () w->(do eqGuard op t x y (a.eval x) (a.eval y);binOp op t (a.eval x) (a.eval y):Sem zg).run P w=.ok (Ag s) w:=λE H=>by
   simp[E,H,zAk]
  have a3:∀(B Q:SV)(U ao:zO),P.underlying t=O .bool->qaM B=O U->qaM Q=O ao->a.eval x=Ag B->a.eval y=Ag Q->∀w,
    ((op=.eql->(do eqGuard op t x y (a.eval x) (a.eval y);binOp op t (a.eval x) (a.eval y):Sem zg).run P w=.ok (.bool (U==ao)) w)/\
     (op=.neq->(do eqGuard op t x y (a.eval x) (a.eval y);binOp op t (a.eval x) (a.eval y):Sem zg).run P w=.ok (.bool (!(U==ao))) w)):=λB Q U ao C e1 e2 e3 e4 w=>by
   rw[e3,e4,qIL e1,qIL e2];refine⟨λD=>?_,λD=>?_⟩<;>subst D<;>simp[eqGuard,binOp,run_equal_bool w t U ao C]
  have a4:∀(kind:Z)(B:SV)(U:zO)(d:TypeDesc),P.underlying t=O d->IC kind d->qhQ kind B=O U->a.eval x=Ag B->a.eval y=EU kind->∀w,
    ((op=.eql->(do eqGuard op t x y (a.eval x) (a.eval y);binOp op t (a.eval x) (a.eval y):Sem zg).run P w=.ok (.bool U) w)/\
     (op=.neq->(do eqGuard op t x y (a.eval x) (a.eval y);binOp op t (a.eval x) (a.eval y):Sem zg).run P w=.ok (.bool (!U)) w)):=λkind B U d C aF aq e1 e2 w=>by
   rw[e1,e2];obtain⟨E,H⟩:=qLT aq C aF w x y;exact⟨λD=>by rw[D];exact E,λD=>by rw[D];exact H⟩
  have a5:∀{Y:Fr->zp->Prop}(V:zO),P.underlying t=O .bool->op=(if V then .neq else .eql)->rdS (.Jd V (qJA x) (qJA y)) sl hs K->∃s,K s/\∀fr w,Y fr w->(zx a.eval o).run P w=.ok (.value (Ag s)) w:=λV C ag h=>by
   simp only[rdS]at h;obtain⟨B,Q,u,e1,e2⟩:=two h;unfold qod at u;split at u
   .exact u.elim
   .rename_i U aw;split at u
    .exact u.elim
    .rename_i ao a6;cases V
     .exact fin _ u λw=>(a3 B Q U ao C aw a6 e1 e2 w).1 (by simpa using ag)
     .exact fin _ u λw=>(a3 B Q U ao C aw a6 e1 e2 w).2 (by simpa using ag)
  have aG:∀{Y:Fr->zp->Prop}(V:zO)(ks:F Z),BT P t=O I->eqT P t=O ks->op=(if V then .neq else .eql)->rdS (.GQ V ks (qJA x) (qJA y)) sl hs K->∃s,K s/\∀fr w,Y fr w->(zx a.eval o).run P w=.ok (.value (Ag s)) w:=λV ks bf ar ag h=>by
   simp only[rdS]at h;obtain⟨B,Q,u,e1,e2⟩:=two h;unfold eqT at ar;split at ar
   .rename_i bh bi;split at ar
    .cases ar
    .rename_i bj;simp only[zAh]at ar;subst ar;unfold qQZ at u;split at u
     .rename_i ax aH;have u:=qRB _ (qRB _ u)
      have a7:∀{z:SV},q4O z=I->Ag z=.agg ⟨qCA (q7A z)⟩:=λ{z}ah=>by
       have bl:=qfB z;cases z with
       |agg l=>rfl
       |v bm=>cases bm<;>simp[q4O]at ah;rw[bl];rfl
       |_=>simp[q4O]at ah
      have aI:=a7 ax;have aJ:=a7 aH;split at u
      .rename_i b aa
       have aK:∀w,(Op.equal t (Ag B) (Ag Q)).run P w=.ok b w:=λw=>by
        rw[aI,aJ];exact qKF 8 10000 sa t bh bi I bf _ _ b aa w
       have a8:∀w,(eqGuard op t x y (Ag B) (Ag Q)).run P w=.ok () w:=λw=>by
        rw[aI,aJ];cases V<;>simp at ag<;>subst ag<;>simp[eqGuard,bj]
       cases V
       .refine fin _ u λw=>seq ?_ (by rw[e1,e2];exact a8 w);simp only[zA2,zCD]at ag;subst ag;rw[e1,e2];have:=aK w;rw[aI,aJ]at this⊢;simp[binOp,this,Ag]
       .refine fin _ u λw=>seq ?_ (by rw[e1,e2];exact a8 w);simp only[zBA]at ag;subst ag;rw[e1,e2];have:=aK w;rw[aI,aJ]at this⊢;simp[binOp,this,Ag]
      .exact u.elim
     .exact u.elim
   .cases ar
  have au:∀{Y:Fr->zp->Prop}(kind:Z)(V:zO)(d:TypeDesc),P.underlying t=O d->IC kind d->a.eval y=EU kind->op=(if V then .neq else .eql)->rdS (.Hp kind V (qJA x)) sl hs K->∃s,K s/\∀fr w,Y fr w->(zx a.eval o).run P w=.ok (.value (Ag s)) w:=λkind V d C aF aH ag h=>by
   simp only[rdS]at h;obtain⟨B,u,e1⟩:=Opd.AC h L;unfold qnd at u;split at u
   .exact u.elim
   .rename_i U aw;cases V
    .exact fin _ u λw=>(a4 kind B U d C aF aw e1 aH w).1 (by simpa using ag)
    .exact fin _ u λw=>(a4 kind B U d C aF aw e1 aH w).2 (by simpa using ag)
  split at q
  .simp at q;subst q;simp only[rdS]at h;obtain⟨B,Q,u,e1,e2⟩:=two h;obtain⟨s,E,H⟩:=qOW u;exact fin s E λw=>seq (by rw[e1,e2];exact(H P t w).1) (by rw[e1,e2];exact(H P t w).2 _ _)
  .simp at q;subst q;simp only[rdS]at h;obtain⟨B,Q,u,e1,e2⟩:=two h;obtain⟨s,E,H⟩:=qNW u;exact fin s E λw=>seq (by rw[e1,e2];exact(H P t w).1) (by rw[e1,e2];exact(H P t w).2 _ _)
  .rename_i C;simp at q;subst q;exact a5 zb C rfl h
  .rename_i C;simp at q;subst q;exact a5 I C rfl h
  .rename_i C;split at q<;>simp at q;subst q;exact au 0 zb _ C ⟨_,rfl⟩ rfl rfl h
  .rename_i C;split at q<;>simp at q;subst q;exact au 0 I _ C ⟨_,rfl⟩ rfl rfl h
  .rename_i C;split at q<;>simp at q;subst q;exact au 1 zb _ C ⟨_,rfl⟩ rfl rfl h
  .rename_i C;split at q<;>simp at q;subst q;exact au 1 I _ C ⟨_,rfl⟩ rfl rfl h
  .rename_i C;split at q<;>simp at q;subst q;exact au 2 zb _ C ⟨_,_,_,rfl⟩ rfl rfl h
  .rename_i C;split at q<;>simp at q;subst q;exact au 2 I _ C ⟨_,_,_,rfl⟩ rfl rfl h
  .rename_i C;obtain⟨ks,u,rfl⟩:=zD.1 q;exact aG zb ks (by simp[BT,C]) u rfl h
  .rename_i C;obtain⟨ks,u,rfl⟩:=zD.1 q;exact aG I ks (by simp[BT,C]) u rfl h
  .rename_i C;obtain⟨ks,u,rfl⟩:=zD.1 q;exact aG zb ks (by simp[BT,C]) u rfl h
  .rename_i C;obtain⟨ks,u,rfl⟩:=zD.1 q;exact aG I ks (by simp[BT,C]) u rfl h
  .cases q
 .rename_i t x D;simp at q;subst q;simp only[rdS]at h;obtain⟨B,u,e⟩:=Opd.AC h L;unfold KS at u;split at u
  .exact⟨_,u,λfr w A=>by simp[zx,D,e,Ag,Op.unary]⟩
  .exact⟨_,u,λfr w A=>by simp[zx,D,e,Ag,Op.unary]⟩
  .exact⟨_,u,λfr w A=>by simp[zx,D,e,Ag,Op.unary]⟩
  .exact u.elim
 .rename_i s d x D;split at q
  .rename_i bC bD E H;simp at q;subst q;simp only[rdS]at h;obtain⟨B,u,e⟩:=Opd.AC h L;unfold qdd at u;split at u
   .exact⟨_,u,λfr w A=>by simp[zx,D,e,Ag,convert,zL E,zL H,Conv.intToInt]⟩
   .exact u.elim
  .rename_i bn E H;split at q
   .rename_i ay;simp at q;subst q;simp only[rdS]at h;obtain⟨B,u,e⟩:=Opd.AC h L;unfold Kb at u;split at u
    .rename_i az n cap;obtain⟨bE,af,u⟩:=u
     exact⟨_,u,λfr w A=>by
      have:=qnZ (P:=P) (w:=w) E ay H af (A.resolve_left (by simp[SOp.pure])).AJ
      simp[zx,D,e,Ag,this,zAk]⟩
    .exact u.elim
   .cases q
  .cases q
 .rename_i t x i D
  have two:∀{k:SV->SV->Prop},(Opd.k hs.rs sl (qJA x) λx=>Opd.k hs.rs sl (qJA i) λy=>k x y)->∃B Q,k B Q/\a.eval x=Ag B/\a.eval i=Ag Q:=λ{k}av=>by
   obtain⟨B,E,e1⟩:=Opd.AC (k:=λx=>Opd.k hs.rs sl (qJA i) λy=>k x y) av L;obtain⟨Q,H,e2⟩:=Opd.AC (k:=λy=>k B y) E L;exact⟨B,Q,H,e1,e2⟩
  split at q
  .rename_i C;simp at q;subst q;simp only[rdS]at h;obtain⟨B,aN,u,e1,e2⟩:=two h;unfold qPd at u;split at u
   .rename_i s k n;obtain⟨c,⟨aj,al⟩,u⟩:=u;refine⟨_,u,λfr w A=>?_⟩
    have bF:n.toNat<s.size:=by
     have:=(ze.1 al).1;simpa using this
    have af:=run_index_string w t s k n C;rw[dif_pos ⟨aj,sa⟩]at af;simp only[zx,D,e1,e2,Ag];refine q5C (af.trans ?_)
    have:s[n.toNat]=c:=by
     have:=(ze.1 al).2;show s.data[n.toNat]=c;simpa using this
    rw[this]
   .exact u.elim
  .rename_i n e C;split at q
   .rename_i size agg R aA;simp at q;subst q;simp only[rdS]at h;obtain⟨B,aN,u,e1,e2⟩:=two h;unfold qQd at u;split at u
    .rename_i k m;obtain⟨j,⟨rfl,aO⟩,u⟩:=u;obtain⟨s,ab,aB⟩:=qiO u R aA;refine⟨s,ab,λfr w A=>?_⟩;obtain⟨cs,al,aP⟩:=aB w;simp only[zx,D,e1,e2,al];refine q5C ?_;simp[Instr.index,Ag,asIntOf,zL C,q1A R,aO,aP]
    .exact u.elim
   .cases q
  .cases q
 .rename_i t x f D;split at q
  .rename_i aL C;split at q
   .rename_i a9 aQ;split at q
    .rename_i n R;simp at q;subst q;simp only[rdS]at h;obtain⟨B,u,e⟩:=Opd.AC h L
     have go:∀(b:zAI)w,Ag B=.pointer (O b)->(zx a.eval o).run P w=.ok (.value (.pointer (O (b.add a9.offset)))) w:=λb w aa=>by
      simp only[zx,D,e,aa];refine q5C ?_;simp[Instr.fieldAt,zL C,aQ,Instr.sureAddr,fieldPlace,q1A R]
     unfold qYd at u;split at u
     .refine⟨_,u,λfr w A=>?_⟩;rw[go _ w rfl,qoA];rfl
     .rename_i id az n cap j;refine⟨_,u,λfr w A=>?_⟩;rw[go (az.add j) w rfl,qjG];rfl
     .exact⟨_,u,λfr w A=>go _ w rfl⟩
     .exact u.elim
    .cases q
   .cases q
  .cases q
 .rename_i t x f D;split at q
  .rename_i aL C;split at q
   .rename_i a9 aQ;split at q
    .rename_i size agg R aA;simp at q;subst q;simp only[rdS]at h;obtain⟨B,u,e⟩:=Opd.AC h L;obtain⟨s,ab,aB⟩:=qiO u R aA;refine⟨s,ab,λfr w A=>?_⟩;obtain⟨cs,al,aP⟩:=aB w;simp only[zx,D,e,al];refine q5C ?_;simp[Instr.field,zL C,aQ,asAgg,aP]
    .cases q
   .cases q
  .cases q
 .rename_i t x i D
  have two:∀{k:SV->SV->Prop},(Opd.k hs.rs sl (qJA x) λx=>Opd.k hs.rs sl (qJA i) λy=>k x y)->∃B Q,k B Q/\a.eval x=Ag B/\a.eval i=Ag Q:=λ{k}av=>by
   obtain⟨B,E,e1⟩:=Opd.AC (k:=λx=>Opd.k hs.rs sl (qJA i) λy=>k x y) av L;obtain⟨Q,H,e2⟩:=Opd.AC (k:=λy=>k B y) E L;exact⟨B,Q,H,e1,e2⟩
  split at q
  .rename_i e C;split at q
   .rename_i size R;simp at q;subst q;simp only[rdS]at h;obtain⟨B,aN,u,e1,e2⟩:=two h;unfold qRd at u;split at u
    .rename_i k m
     have go:∀(b:zAI)(n cap:Z)w,Ag B=.slice (O b) n cap->0<=m->m<n->(zx a.eval o).run P w=.ok (.value (.pointer (O (b.add (m.toNat*size))))) w:=λb n cap w ax aj E=>by
      simp only[zx,D,e1,e2,ax];refine q5C ?_;simp[Instr.indexAt,Ag,asIntOf,zL C,q1A R,aj,E]
     split at u
     .rename_i az n cap;obtain⟨b,rfl,⟨aj,E⟩,u⟩:=u;exact⟨_,u,λfr w A=>go _ _ _ w rfl aj E⟩
     .rename_i id b ba n cap;obtain⟨j,⟨rfl,aO⟩,u⟩:=u;refine⟨_,u,λfr w A=>?_⟩;rw[go _ _ _ w rfl sa sa,qoA];simp[Ag]
     .rename_i id az n cap;split at u
      .rename_i bG bH bo bI bJ cs am;obtain⟨⟨rfl,rfl,rfl,rfl⟩,⟨aj,E⟩,u⟩:=u;refine⟨_,u,λfr w A=>?_⟩;cases az with
       |none=>
        exfalso;obtain⟨⟨g1,g2⟩,_⟩:=(A.resolve_left (by simp[SOp.pure])).E2 am;rcases g2 with⟨_,rfl⟩|⟨g,bo,cur,ap,_⟩
        .omega
        .simp at ap
       |some b=>exact go b n cap w rfl aj E
      .exact u.elim
     .exact u.elim
    .exact u.elim
   .cases q
  .rename_i n e C;split at q
   .rename_i size R;simp at q;subst q;simp only[rdS]at h;obtain⟨B,aN,u,e1,e2⟩:=two h;unfold qCZ at u;split at u
    .rename_i k m
     have go:∀(b:zAI)w,Ag B=.pointer (O b)->0<=m->m<n->(zx a.eval o).run P w=.ok (.value (.pointer (O (b.add (m.toNat*size))))) w:=λb w ax aj E=>by
      simp only[zx,D,e1,e2,ax];refine q5C ?_;simp[Instr.indexAt,Ag,asIntOf,zL C,q1A R,aj,E,Instr.sureAddr]
     split at u
     .obtain⟨j,⟨rfl,aO⟩,u⟩:=u;refine⟨_,u,λfr w A=>?_⟩;rw[go _ w rfl sa sa,qoA];simp[Ag]
     .obtain⟨⟨aj,E⟩,u⟩:=u;exact⟨_,u,λfr w A=>go _ w rfl aj E⟩
     .exact u.elim
    .exact u.elim
   .cases q
  .cases q
 .rename_i t x D;split at q
  .rename_i size agg R aA;split at q
   .rename_i bp;simp at q;subst q;simp only[rdS]at h;obtain⟨B,u,e⟩:=Opd.AC h L;obtain⟨s,ab,aB⟩:=qKM u R aA bp;exact⟨s,ab,λfr w A=>by simp only[zx,D,e];exact q5C (aB fr w (A.resolve_left (by simp[SOp.pure])))⟩
   .cases q
  .cases q
 .rename_i x D;simp at q;subst q;simp only[rdS]at h;obtain⟨B,u,e⟩:=Opd.AC h L;unfold KT at u;split at u
  .exact⟨_,u,λfr w A=>by simp[zx,D,e,Ag]⟩
  .exact⟨_,u,λfr w A=>by simp[zx,D,e,Ag]⟩
  .exact⟨_,u,λfr w A=>by simp[zx,D,e,Ag]⟩
  .exact⟨_,u,λfr w A=>by simp[zx,D,e,Ag]⟩
  .exact⟨_,u,λfr w A=>by simp[zx,D,e,Ag]⟩
  .exact⟨_,u,λfr w A=>by simp[zx,D,e,Ag]⟩
  .exact u.elim
 .rename_i x i D;simp at q;subst q;simp only[rdS]at h;obtain⟨B,u,e⟩:=Opd.AC h L;unfold Ld at u;split at u
  .split at u
   .rename_i l s aq;rw[q5I]at aq;exact⟨_,u,λfr w A=>by simp only[zx,D,e];exact q5C (by simp[Ag,Instr.extract,Dz,aq])⟩
   .exact u.elim
  .split at u
   .rename_i l s aq;rw[q5I]at aq;exact⟨_,u,λfr w A=>by simp only[zx,D,e];exact q5C (by simp[Ag,Instr.extract,aq])⟩
   .exact u.elim
  .exact u.elim
 .rename_i f first aR D
  simp at q;subst q;simp only[rdS]at h;obtain⟨aL,E,e1⟩:=Opd.Er L first.toList (k:=λbq=>Opd.ks hs.rs sl (aR.toList.map qJA) λc=>K (.fn f bq c)) h
  obtain⟨cs,H,e2⟩:=Opd.Er L aR.toList E;refine⟨_,H,λfr w A=>?_⟩;simp only[zx,D];refine q5C ?_;have g1:first.map a.eval=(qCA aL).toArray:=by apply zBl;simp[e1]
  have g2:aR.map a.eval=(qCA cs).toArray:=by apply zBl;simp[e2]
  simp[Instr.makeFunc,Ag,g1,g2]
 .rename_i t x ak T ai D;split at q
  .rename_i C;split at q
   .simp at q;subst q;simp only[rdS]at h;obtain⟨B,E,e1⟩:=Opd.AC (k:=λx=>Opd.ko hs.rs sl (ak.map qJA) λak=>Opd.ko hs.rs sl (T.map qJA) λT=>qwS x ak T K) h L;obtain⟨aM,H,e2⟩:=Opd.FU (k:=λak=>Opd.ko hs.rs sl (T.map qJA) λT=>qwS B ak T K) E L;obtain⟨bb,ay,e3⟩:=Opd.FU (k:=λT=>qwS B aM T K) H L;obtain⟨s,ab,af⟩:=qZU ay C;exact⟨s,ab,λfr w A=>by simp only[zx,D,e1,e2,e3];exact q5C (af w)⟩
   .cases q
  .rename_i e C
   have fin:∀{Y:Fr->zp->Prop}size,qYB P e=O size->rdS (.slc size (qJA x) (ak.map qJA) (T.map qJA) (ai.map qJA)) sl hs K->∃s,K s/\∀fr w,Y fr w->(zx a.eval o).run P w=.ok (.value (Ag s)) w:=λsize R h=>by
    simp only[rdS]at h;obtain⟨B,E,e1⟩:=Opd.AC (k:=λx=>Opd.ko hs.rs sl (ak.map qJA) λak=>Opd.ko hs.rs sl (T.map qJA) λT=>Opd.ko hs.rs sl (ai.map qJA) λai=>HA size x ak T ai K) h L;obtain⟨aM,H,e2⟩:=Opd.FU (k:=λak=>Opd.ko hs.rs sl (T.map qJA) λT=>Opd.ko hs.rs sl (ai.map qJA) λai=>HA size B ak T ai K) E L;obtain⟨bb,ay,e3⟩:=Opd.FU (k:=λT=>Opd.ko hs.rs sl (ai.map qJA) λai=>HA size B aM T ai K) H L;obtain⟨bK,br,e4⟩:=Opd.FU (k:=λai=>HA size B aM bb ai K) ay L;obtain⟨s,ab,af⟩:=qBX br C R;exact⟨s,ab,λfr w A=>by simp only[zx,D,e1,e2,e3,e4];exact q5C (af w)⟩
   split at q
   .cases q
   .rename_i size R _;simp at q;subst q;exact fin size R h
   .cases q
  .cases q
 .rename_i t parts D
  have fin:∀{Y:Fr->zp->Prop}(aC:F (Z×Z×Opd))(z:F zg)(place:Z->zy (Z×Z)),qrI P t=O z->
    (parts.toList.map λ(i,x)=>(place i).map λ(o,s)=>(o,s,qJA x))=aC.map O->rdS (.build (z.map SV.v) aC) sl hs K->
    (∀w aD,Instr.fill place z.toArray (parts.toList.map λ(i,x)=>(i,a.eval x))=O aD->(Instr.build t (parts.map λ(i,x)=>(i,a.eval x))).run P w=.ok (.agg aD) w)->
    ∃s,K s/\∀fr w,Y fr w->(zx a.eval o).run P w=.ok (.value (Ag s)) w:=λaC z place ah aT h aK=>by
   simp only[rdS]at h;obtain⟨aD,u,am⟩:=q2G L place parts.toList aC (z.map SV.v) aT h;refine⟨_,u,λfr w A=>?_⟩;simp only[zx,D];refine q5C (aK w _ ?_);rw[<-am];congr 2;simp[qgA,zCc,Ag]
  split at q
  .rename_i z aL ah C;split at q
   .rename_i bt bu;split at q
    .rename_i aC aT;simp at q;subst q;refine fin _ z (λi=>bt[i]?) ah (quO _ _ aT) h λw aD am=>?_;obtain⟨v,ae,rfl,_⟩:=qoD ah w;simp[Instr.build,ae,zL C,zCs,run_places w _ _ bu]at*;simp[am]
    .cases q
   .cases q
  .rename_i z n e ah C;split at q
   .rename_i size R;simp at q;subst q;refine fin _ z (λi=>O (i*size,size)) ah se h λw aD am=>?_;obtain⟨v,ae,rfl,_⟩:=qoD ah w;simp[Instr.build,ae,zL C,q1A R,am]
   .cases q
  .cases q
 .split at q<;>simp at q;subst q;simp[SOp.reads]at W
 .split at q<;>simp at q;subst q;simp[SOp.reads]at W
 .simp at q;subst q;simp[SOp.reads]at W
 .split at q<;>try(simp at q;done)
  split at q<;>try(simp at q;done)
  split at q<;>simp at q;subst q;simp[SOp.reads]at W
 .split at q<;>try(simp at q;done)
  split at q<;>try(simp at q;done)
  split at q<;>simp at q;subst q;simp[SOp.reads]at W
 .split at q<;>try(simp at q;done)
  split at q<;>simp at q;subst q;simp[SOp.reads]at W
 .split at q<;>simp at q;subst q;simp[SOp.reads]at W
 .split at q<;>simp at q;subst q;simp[SOp.reads]at W
 .split at q<;>try(simp at q;done)
  split at q<;>simp at q;subst q;simp[SOp.reads]at W
 .simp at q;subst q;simp[SOp.reads]at W
 .rename_i t x k ok D;split at q
  .rename_i aU bL bv;obtain⟨bM,C,bc⟩:=qPI bv;split at q
   .rename_i z ah;simp at q;subst q;simp only[rdS]at h;obtain⟨B,E,e1⟩:=Opd.AC (k:=λx=>Opd.k hs.rs sl (qJA k) λy=>q5X hs aU z ok x y K) h L;obtain⟨Q,H,e2⟩:=Opd.AC (k:=λy=>q5X hs aU z ok B y K) E L;unfold q5X at H;split at H
    .rename_i id r;split at H
     .rename_i n aW;obtain⟨aX,aY⟩:=q2J aW;split at H
      .rename_i bN bd es am;obtain⟨⟨rfl,_,bw⟩,ba,aZ,ac⟩:=H;obtain rfl:=qwK bw
       have an:∀v,q0O ok z (B5 n es)=v->∀fr w,((SOp.look bd z ok (qJA x) (qJA k)).pure=I\/Ap fr hs w)->(zx a.eval o).run P w=.ok (.value v) w:=λv ae fr w A=>by
        have A:Ap fr hs w:=A.resolve_left (by simp[SOp.pure]);obtain⟨bO,bP,e⟩:=qXG am;obtain⟨aa,bx⟩:=A.res (.mp id r bd es) (by rw[e];simp);have:=qIH (P:=P) C bc aa bx aY ah ok;rw[ae]at this;simp only[zx,D,e1,e2,aX];simp only[Ag];exact q5C this
       subst aZ;cases ad:B5 n es with
       |some v=>
        rw[ad]at ac;cases ok with
        |true=>exact⟨_,ac,λfr w A=>an _ (by rw[ad];rfl) fr w A⟩
        |false=>exact⟨_,ac,λfr w A=>an _ (by rw[ad];rfl) fr w A⟩
       |none=>
        rw[ad]at ac;cases ok with
        |true=>exact⟨_,ac,λfr w A=>an _ (by rw[ad];rfl) fr w A⟩
        |false=>exact⟨_,ac,λfr w A=>an _ (by rw[ad];rfl) fr w A⟩
      .exact H.elim
     .exact H.elim
    .rename_i r;split at H
     .rename_i n aW;obtain⟨aX,aY⟩:=q2J aW;obtain⟨es,⟨_,a0⟩,ba,aZ,ac⟩:=H
      have an:∀v,q0O ok z (B5 n es)=v->∀fr w,((SOp.look aU z ok (qJA x) (qJA k)).pure=I\/Ap fr hs w)->(zx a.eval o).run P w=.ok (.value v) w:=λv ae fr w A=>by
       have A:Ap fr hs w:=A.resolve_left (by simp[SOp.pure]);have aa:=(A.AJ.2 r a0.1).trans a0.2.1;have:=qIH (P:=P) C bc aa a0.2.2 aY ah ok;rw[ae]at this;simp only[zx,D,e1,e2,aX];simp only[Ag];exact q5C this
      subst aZ;cases ad:B5 n es with
      |some v=>
       rw[ad]at ac;cases ok with
       |true=>exact⟨_,ac,λfr w A=>an _ (by rw[ad];rfl) fr w A⟩
       |false=>exact⟨_,ac,λfr w A=>an _ (by rw[ad];rfl) fr w A⟩
      |none=>
       rw[ad]at ac;cases ok with
       |true=>exact⟨_,ac,λfr w A=>an _ (by rw[ad];rfl) fr w A⟩
       |false=>exact⟨_,ac,λfr w A=>an _ (by rw[ad];rfl) fr w A⟩
     .exact H.elim
    .exact H.elim
   .cases q
  .cases q
 .rename_i c D;split at q
  .rename_i al;split at q
   .rename_i x t a1 bz
    have bA:∀v w,a.eval x=v->(Builtin.len_ c.argTypes o.type #[v]).run P w=(Builtin.len_ #[t] o.type #[v]).run P w:=λv w _=>by
     have:c.argTypes=#[t]:=by apply zBl;simpa using bz
     rw[this]
    have a2:c.args=#[x]:=by apply zBl;simpa using a1
    have go:∀v n w,a.eval x=v->(Builtin.len_ #[t] o.type #[v]).run P w=.ok (.int .i64 n) w->(zx a.eval o).run P w=.ok (.value (.int .i64 n)) w:=λv n w ae af=>by
     simp only[zx,D,resolve,al,a2];simp[invoke,builtin,ae,bA v w ae,af,zAk]
    split at q
    .rename_i C;simp at q;subst q;simp only[rdS]at h;obtain⟨B,u,e⟩:=Opd.AC h L;simp only[JJ]at u;split at u
     .exact⟨_,u,λfr w A=>go _ _ w e (by simp[Ag,Builtin.len_,zL C,goInt])⟩
     .exact u.elim
    .rename_i bn C;simp at q;subst q;simp only[rdS]at h;obtain⟨B,u,e⟩:=Opd.AC h L;simp only[JJ]at u;split at u
     .exact⟨_,u,λfr w A=>go _ _ w e (by simp[Ag,Builtin.len_,zL C,goInt])⟩
     .exact⟨_,u,λfr w A=>go _ _ w e (by simp[Ag,Builtin.len_,zL C,goInt])⟩
     .exact⟨_,u,λfr w A=>go _ _ w e (by simp[Ag,Builtin.len_,zL C,goInt])⟩
     .exact u.elim
    .cases q
   .cases q
  .rename_i al;split at q
   .rename_i x y a1;simp at q;subst q;have a2:c.args=#[x,y]:=by apply zBl;simpa using a1
    simp only[rdS]at h;obtain⟨B,E,e1⟩:=Opd.AC (k:=λx=>Opd.k hs.rs sl (qJA y) λy=>q0X x y _) h L;obtain⟨Q,u,e2⟩:=Opd.AC (k:=λy=>q0X B y _) E L;unfold q0X at u;split at u
    .exact⟨_,u,λfr w A=>by
      simp only[zx,D,resolve,al,a2]
      simp[invoke,builtin,e1,e2,Ag,Builtin.min_,Builtin.min2]⟩
    .exact u.elim
   .cases q
  .split at q<;>try(simp at q;done)
   split at q<;>try(simp at q;done)
   split at q<;>try(simp at q;done)
   split at q<;>simp at q;subst q;simp[SOp.reads]at W
  .split at q<;>try(simp at q;done)
   split at q<;>try(simp at q;done)
   split at q<;>simp at q;subst q;simp[SOp.reads]at W
  .split at q<;>try(simp at q;done)
   split at q<;>try(simp at q;done)
   split at q<;>(simp at q;subst q;simp[SOp.reads]at W)
  .simp at q;subst q;simp[SOp.reads]at W
  .cases q
 .cases q
def quJ{P}{o}{q}(u:Ea P o=O q)(A:q.reads=I){sl}{a}(B:qID sl a){hs}{K}(h:rdS q sl hs K):∃s,K s/\∀fr w,Ap fr hs w->(zx a.eval o).run P w=.ok (.value (Ag s)) w:=
 let⟨s,C,D⟩:=qZO u A B h
 ⟨s,C,λfr w E=>D fr w (.inr E)⟩
abbrev qUB:=Z->F SV->Hs->(SV->Hs->Prop)->Prop
abbrev qNA:=qUB->zA5->F SV->Hs->(SV->Hs->Prop)->Prop
def q8F(r:Loop)(args:zS zg):zS zg:=(r.params.zip args).foldl (λtmps(t,a)=>tmps.setIfInBounds t a) r.tmps
def qXT{id}{rs}{l}{r}{j}(h:qdI id rs=O (l,r,j)):∃l1 q,rs=l1++.lp id l r j::q:=by
 induction rs with
 |nil=>simp[qdI]at h
 |cons x rs A=>
  have go:qdI id rs=O (l,r,j)->∃l1 q,x::rs=l1++.lp id l r j::q:=λB=>by
   obtain⟨l1,q,e⟩:=A B;exact⟨x::l1,q,by simp[e]⟩
  cases x with
  |lp k C D E=>
   simp only[qdI]at h;cases u:zAL k id with
   |true=>rw[u]at h;simp at h;obtain⟨rfl,rfl,rfl⟩:=h;obtain rfl:=zP u;exact⟨[],rs,rfl⟩
   |false=>rw[u]at h;exact go h
  |blk _ _ _ _=>exact go h
  |row _ _ _ _ _ _ _=>exact go h
  |mk _=>exact go h
  |mp _ _ _ _=>exact go h
def FD{P:zv}(E:Env P)(u:Fr)(Y:qUB):Prop:=∀h,u.le h->∀id args hs K,Y id args hs K->∀l r j w,qdI id hs.rs=O (l,r,j)->Ap h hs w->
 args.length=r.params.size/\DR E l r.fn (q8F r (qCA args).toArray) r.assign r.body w λe A=>∃v q,e=.returned (Ag v)/\Ap h q A/\K v q
def FD.up{P:zv}{E:Env P}{a b:Fr}{Y:qUB}(h:FD E a Y)(k:a.le b):FD E b Y:=λq u=>h q (Fr.trans k u)
def CC{P:zv}(E:Env P)(fr:Fr)(H:qNA):Prop:=∀h,FD E fr h->∀f args hs K,H h f args hs K->∀w,Ap fr hs w->
 BI E f (qCA args).toArray w λe u=>∃v q,e=.returned (Ag v)/\Ap fr q u/\K v q
def Gb(P:zv)(f:zA5):Prop:=∃fn,P.funcs[f]? =O fn/\fn.body.isSome=I/\(fn.name== "runtime.NumGoroutine")=zb
def oc1(x:SV)(k:Prop):Prop:=match x with
 |.v y=>match y with
  |.agg _=>zX
  |.tuple _=>zX
  |_=>k
 |.agg _=>zX
 |.tup _=>zX
 |_=>k
def qvX{x}{k:Prop}(h:oc1 x k):k/\(Ag x).oneCell'=I:=by
 unfold oc1 at h;split at h
 .split at h<;>first|exact h.elim|(refine⟨h,?_⟩;simp only[Ag];rename_i y _ _;cases y<;>simp_all [zAY])
 .exact h.elim
 .exact h.elim
 .refine⟨h,?_⟩;cases x<;>simp_all [Ag,zAY]
def ocS:F SV->Prop->Prop
 |[],k=>k
 |x::r,k=>oc1 x (ocS r k)
def qNE:∀{l:F SV}{k:Prop},ocS l k->k/\∀c∈l,(Ag c).oneCell'=I
 |[],k,q=>⟨q,λc h=>by cases h⟩
 |x::r,k,q=>by
  obtain⟨u,A⟩:=qvX q;obtain⟨B,C⟩:=qNE u;exact⟨B,λc h=>by rcases zs.1 h with rfl|h;exact A;exact C c h⟩
def H5(id:Z)(h:F SV):F Res->(F Res->Prop)->Prop
 |[],_=>zX
 |.blk j b u cells::r,k=>match zAL j id with
  |true=>k (.blk j b u h::r)
  |false=>H5 id h r λq=>k (.blk j b u cells::q)
 |x::r,k=>H5 id h r λq=>k (x::q)
def qjE{id}{P}:∀{rs:F Res}{k:F Res->Prop}{b:Z}{ty:zAw}{cells:F SV},H5 id P rs k->qIB id rs=O (b,ty,cells)->∃l1 u,rs=l1++.blk id b ty cells::u/\k (l1++.blk id b ty P::u)
 |[],k,b,ty,cells,h,q=>h.elim
 |.blk j Q R T::r,k,b,ty,cells,h,q=>by
  simp only[H5]at h;simp only[qIB]at q;cases L:zAL j id with
  |true=>
   rw[L]at h q;simp at q;obtain⟨rfl,rfl,rfl⟩:=q;obtain rfl:=zP L;exact⟨[],r,rfl,h⟩
  |false=>
   rw[L]at h q;obtain⟨l1,u,e,A⟩:=qjE h q;exact⟨.blk j Q R T::l1,u,by simp[e],A⟩
 |.row B D E H U V W::r,k,b,ty,cells,h,q=>by
  obtain⟨l1,u,e,A⟩:=qjE (k:=λC=>k (.row B D E H U V W::C)) h q;exact⟨_::l1,u,by rw[e];rfl,A⟩
 |.lp B D E H::r,k,b,ty,cells,h,q=>by
  obtain⟨l1,u,e,A⟩:=qjE (k:=λC=>k (.lp B D E H::C)) h q;exact⟨_::l1,u,by rw[e];rfl,A⟩
 |.mk B::r,k,b,ty,cells,h,q=>by
  obtain⟨l1,u,e,A⟩:=qjE (k:=λC=>k (.mk B::C)) h q;exact⟨_::l1,u,by rw[e];rfl,A⟩
 |.mp B D E H::r,k,b,ty,cells,h,q=>by
  obtain⟨l1,u,e,A⟩:=qjE (k:=λC=>k (.mp B D E H::C)) h q;exact⟨_::l1,u,by rw[e];rfl,A⟩
def E7(id:Z)(new:zy Res):F Res->(F Res->Prop)->Prop
 |[],_=>zX
 |.row j q n cap u size cs::r,k=>match zAL j id with
  |true=>match new with
   |some x=>k (x::r)
   |none=>k r
  |false=>E7 id new r λh=>k (.row j q n cap u size cs::h)
 |x::r,k=>E7 id new r λh=>k (x::h)
def qsC{id}{new}:∀{rs:F Res}{k:F Res->Prop}{oa:zy zAI}{n cap:Z}{ety:zAw}{size:Z}{cs:F zg},E7 id new rs k->qXB id rs=O (oa,n,cap,ety,size,cs)->∃l1 u,rs=l1++.row id oa n cap ety size cs::u/\k (l1++(new.toList++u))
 |[],k,oa,n,cap,ety,size,cs,h,q=>h.elim
 |.row j D E H P Q R::r,k,oa,n,cap,ety,size,cs,h,q=>by
  simp only[E7]at h;simp only[qXB]at q;cases L:zAL j id with
  |true=>
   rw[L]at h q;simp at q;obtain⟨rfl,rfl,rfl,rfl,rfl,rfl⟩:=q;obtain rfl:=zP L;refine⟨[],r,rfl,?_⟩;cases new<;>exact h
  |false=>
   rw[L]at h q;obtain⟨l1,u,e,A⟩:=qsC h q;exact⟨_::l1,u,by rw[e];rfl,A⟩
 |.blk B D E H::r,k,oa,n,cap,ety,size,cs,h,q=>by
  obtain⟨l1,u,e,A⟩:=qsC (k:=λC=>k (.blk B D E H::C)) h q;exact⟨_::l1,u,by rw[e];rfl,A⟩
 |.lp B D E H::r,k,oa,n,cap,ety,size,cs,h,q=>by
  obtain⟨l1,u,e,A⟩:=qsC (k:=λC=>k (.lp B D E H::C)) h q;exact⟨_::l1,u,by rw[e];rfl,A⟩
 |.mk B::r,k,oa,n,cap,ety,size,cs,h,q=>by
  obtain⟨l1,u,e,A⟩:=qsC (k:=λC=>k (.mk B::C)) h q;exact⟨_::l1,u,by rw[e];rfl,A⟩
 |.mp B D E H::r,k,oa,n,cap,ety,size,cs,h,q=>by
  obtain⟨l1,u,e,A⟩:=qsC (k:=λC=>k (.mp B D E H::C)) h q;exact⟨_::l1,u,by rw[e];rfl,A⟩
def qzX:F SV->(F SV->Prop)->Prop
 |[],k=>k []
 |x::r,k=>qzX r λh=>k (x::h)
def qGM:∀(l:F SV){k:F SV->Prop},qzX l k->k l
 |[],_,h=>h
 |x::r,k,h=>qGM r (k:=λq=>k (x::q)) h
def Br.rd{g}{lo}{ety}{size}{v}{n}{cs}(h:Br g lo ety size v n cs):CQ g size v n cs:=by
 obtain⟨u,A,_⟩:=h;refine⟨u,?_⟩;rcases A with⟨rfl,rfl⟩|⟨b,cap,L,rfl,B,C,D,E,P⟩
 .exact⟨zc,0,rfl,zH _,zJ _,λ_=>⟨rfl,rfl⟩,λi H q=>by simp at u;subst u;simp at q⟩
 .refine⟨O ⟨b,0,zc⟩,cap,rfl,D,E,(λh=>by cases h),λi H q=>⟨_,rfl,⟨?_,?_⟩⟩⟩
  .rw[qoA];exact B.2
  .rw[qoA,zAr,qJB C];have:=(ze.1 q).1;simp[zAc this,q]
def Ik(id:Z):F Res->(F Res->Prop)->Prop
 |[],_=>zX
 |.blk j b q cells::r,k=>match zAL j id with
  |true=>k r
  |false=>Ik id r λh=>k (.blk j b q cells::h)
 |x::r,k=>Ik id r λh=>k (x::h)
def Ij(id:Z):F Res->(F Res->Prop)->Prop
 |[],_=>zX
 |.mp j a q es::r,k=>match zAL j id with
  |true=>k r
  |false=>Ij id r λh=>k (.mp j a q es::h)
 |x::r,k=>Ij id r λh=>k (x::h)
def IB(x:SV)(hs:Hs)(K:SV->Hs->Prop):Prop:=match hs with
 |⟨u,q,D,A⟩=>match norm q x with
 |.row id C n cap=>match qXB id q with
  |some (H,L,P,E,size,cs)=>(C=H/\n=L/\cap=P)/\∀h,u<=h->(∀a,C=O a->¬u.g a.block)->Br h A E size (.slice C n cap) n cs->E7 id zc q λB=>K (.v (.slice C n cap)) ⟨h,B,D,A⟩
  |none=>zX
 |.sl id b o n cap=>match qIB id q with
  |some (Q,E,cells)=>(b=Q/\o=0/\n=cap)/\qyC cells λcs=>∃size,cs.length=n*size/\cap<=zAp/\∀h,u<=h->¬u.g b->Br h A E size (.slice (O ⟨b,o,zc⟩) n cap) n cs->Ik id q λB=>K (.v (.slice (O ⟨b,o,zc⟩) n cap)) ⟨h,B,D,A⟩
  |none=>zX
 |.mp id r=>match qWD id q with
  |some (R,T,es)=>r=R/\∀h,u<=h->FzM h r T es->Ij id q λB=>K (.v (.map (O r))) ⟨h,B,D,A⟩
  |none=>zX
 |x=>K x hs
def qtU(x)(hs)(K):IB x hs K=(match norm hs.rs x with
 |.row id oa n cap=>match qXB id hs.rs with
  |some (h,q,u,ety,size,cs)=>(oa=h/\n=q/\cap=u)/\∀g',hs.g<=g'->(∀a,oa=O a->¬hs.g.g a.block)->Br g' hs.lo ety size (.slice oa n cap) n cs->E7 id zc hs.rs λrs'=>K (.v (.slice oa n cap)) ⟨g',rs',hs.nx,hs.lo⟩
  |none=>zX
 |.sl id b o n cap=>match qIB id hs.rs with
  |some (A,ety,cells)=>(b=A/\o=0/\n=cap)/\qyC cells λcs=>∃size,cs.length=n*size/\cap<=zAp/\∀g',hs.g<=g'->¬hs.g.g b->Br g' hs.lo ety size (.slice (O ⟨b,o,zc⟩) n cap) n cs->Ik id hs.rs λrs'=>K (.v (.slice (O ⟨b,o,zc⟩) n cap)) ⟨g',rs',hs.nx,hs.lo⟩
  |none=>zX
 |.mp id r=>match qWD id hs.rs with
  |some (B,C,es)=>r=B/\∀g',hs.g<=g'->FzM g' r C es->Ij id hs.rs λrs'=>K (.v (.map (O r))) ⟨g',rs',hs.nx,hs.lo⟩
  |none=>zX
 |x=>K x hs):=by
 cases hs;rfl
def q0E{id}:∀{rs:F Res}{k:F Res->Prop}{r:Z}{C:KyT}{es:F (Ky×zg)},Ij id rs k->qWD id rs=O (r,C,es)->∃l1 u,rs=l1++.mp id r C es::u/\k (l1++u)
 |[],k,r,C,es,h,q=>h.elim
 |.mp j A R T::E,k,r,C,es,h,q=>by
  simp only[Ij]at h;simp only[qWD]at q;cases Q:zAL j id with
  |true=>
   rw[Q]at h q;simp at q;obtain⟨rfl,rfl,rfl⟩:=q;obtain rfl:=zP Q;exact⟨[],E,rfl,h⟩
  |false=>
   rw[Q]at h q;obtain⟨l1,u,e,B⟩:=q0E h q;exact⟨.mp j A R T::l1,u,by simp[e],B⟩
 |.row D H L P U V W::E,k,r,C,es,h,q=>by
  obtain⟨l1,u,e,B⟩:=q0E (k:=λA=>k (.row D H L P U V W::A)) h q;exact⟨_::l1,u,by rw[e];rfl,B⟩
 |.lp D H L P::E,k,r,C,es,h,q=>by
  obtain⟨l1,u,e,B⟩:=q0E (k:=λA=>k (.lp D H L P::A)) h q;exact⟨_::l1,u,by rw[e];rfl,B⟩
 |.mk D::E,k,r,C,es,h,q=>by
  obtain⟨l1,u,e,B⟩:=q0E (k:=λA=>k (.mk D::A)) h q;exact⟨_::l1,u,by rw[e];rfl,B⟩
 |.blk D H L P::E,k,r,C,es,h,q=>by
  obtain⟨l1,u,e,B⟩:=q0E (k:=λA=>k (.blk D H L P::A)) h q;exact⟨_::l1,u,by rw[e];rfl,B⟩
def q1E{id}:∀{rs:F Res}{k:F Res->Prop}{b:Z}{ty:zAw}{cells:F SV},Ik id rs k->qIB id rs=O (b,ty,cells)->∃l1 u,rs=l1++.blk id b ty cells::u/\k (l1++u)
 |[],k,b,ty,cells,h,q=>h.elim
 |.blk j P Q R::r,k,b,ty,cells,h,q=>by
  simp only[Ik]at h;simp only[qIB]at q;cases L:zAL j id with
  |true=>
   rw[L]at h q;simp at q;obtain⟨rfl,rfl,rfl⟩:=q;obtain rfl:=zP L;exact⟨[],r,rfl,h⟩
  |false=>
   rw[L]at h q;obtain⟨l1,u,e,A⟩:=q1E h q;exact⟨.blk j P Q R::l1,u,by simp[e],A⟩
 |.row B D E H T U V::r,k,b,ty,cells,h,q=>by
  obtain⟨l1,u,e,A⟩:=q1E (k:=λC=>k (.row B D E H T U V::C)) h q;exact⟨_::l1,u,by rw[e];rfl,A⟩
 |.lp B D E H::r,k,b,ty,cells,h,q=>by
  obtain⟨l1,u,e,A⟩:=q1E (k:=λC=>k (.lp B D E H::C)) h q;exact⟨_::l1,u,by rw[e];rfl,A⟩
 |.mk B::r,k,b,ty,cells,h,q=>by
  obtain⟨l1,u,e,A⟩:=q1E (k:=λC=>k (.mk B::C)) h q;exact⟨_::l1,u,by rw[e];rfl,A⟩
 |.mp B D E H::r,k,b,ty,cells,h,q=>by
  obtain⟨l1,u,e,A⟩:=q1E (k:=λC=>k (.mp B D E H::C)) h q;exact⟨_::l1,u,by rw[e];rfl,A⟩
def qII{x}{hs}{K}(h:IB x hs K){fr:Fr}{w}(q:Ap fr hs w):∃s Y,K s Y/\Ag s=Ag x/\Ap fr Y w:=by
 rw[qtU]at h;split at h
 .rename_i id B n cap C;have D:Ag x=.slice B n cap:=by rw[<-q5D hs.rs x,C];rfl
  split at h
  .rename_i ar au ak aa size cs u;obtain⟨⟨rfl,rfl,rfl⟩,h⟩:=h;obtain⟨ab,ac,A⟩:=qZF u;obtain⟨⟨g1,g2⟩,R⟩:=q.E2 u;have av:=q.freeze (nx:=hs.nx) A
   have E:∀a,B=O a->a.block∈hs.bks:=λa T=>by
    subst T;rw[Hs.bks,A];simp[Res.bk]
   have al:∀a,B=O a->¬hs.g.g a.block:=λa T=>(q.fre _ (E a T)).1
   have U:Br (hs.g.more w (Res.bk (.row id B n cap aa size cs))) hs.lo aa size (.slice B n cap) n cs:=by
    refine⟨g1,?_,R⟩;rcases g2 with⟨Q,rfl⟩|⟨g,ak,cur,Q,aw,ad,am,V,an,ae⟩
    .exact .inl ⟨Q,rfl⟩
    .simp only[zAg]at Q;obtain⟨rfl,_,rfl⟩:=Q;refine .inr ⟨g,cap,cur.toList.drop (n*size),rfl,⟨q.low.2 _ (E _ rfl),(zAb.1 ad).1,.inr so⟩,?_,am,V,?_⟩
     .show w.heap[g]?=_;rw[ad,<-ae,zC7]
     .rw[<-ae,zC7];simpa using an
   obtain⟨af,ag,H,L⟩:=qsC (h _ (GW.Gn q.AJ _) al U) u;exact⟨_,_,L,D.symm,q.freeze (nx:=hs.nx) H⟩
  .exact h.elim
 .rename_i id b o n cap C;have D:Ag x=.slice (O ⟨b,o,zc⟩) n cap:=by rw[<-q5D hs.rs x,C];rfl
  split at h
  .rename_i ax ah cells u;obtain⟨⟨rfl,rfl,rfl⟩,h⟩:=h;obtain⟨size,ai,V,h⟩:=qRB _ h;obtain⟨ab,ac,A⟩:=qeI u;obtain⟨P,R⟩:=q.Eh u;have E:b∈hs.bks:=by rw[Hs.bks,A];simp[Res.bk]
   have U:Br (hs.g.more w (Res.bk (.blk id b ah cells))) hs.lo ah size (.slice (O ⟨b,0,zc⟩) n n) n (qCA cells):=by
    refine⟨ai,.inr ⟨b,n,[],rfl,⟨q.low.2 _ E,(zAb.1 P).1,.inr so⟩,?_,zH _,V,by simpa using ai⟩,λay aj=>?_⟩
    .show w.heap[b]?=_;rw[P];simp
    .rw[qgA]at aj;obtain⟨c,ao,rfl⟩:=zU.1 aj;exact R c ao
   obtain⟨af,ag,H,L⟩:=q1E (h _ (GW.Gn q.AJ _) (q.fre _ E).1 U) u;exact⟨_,_,L,D.symm,q.freeze (nx:=hs.nx) H⟩
  .exact h.elim
 .rename_i id r C;have D:Ag x=.map (O r):=by rw[<-q5D hs.rs x,C];rfl
  split at h
  .rename_i az W es u;obtain⟨rfl,h⟩:=h;obtain⟨ab,ac,A⟩:=qXG u;obtain⟨P,ap⟩:=q.res (.mp id r W es) (by rw[A];simp);have aq:FzM (hs.g.more w (Res.bk (.mp id r W es))) r W es:=⟨⟨(zAb.1 P).1,.inr so⟩,P,ap⟩;obtain⟨af,ag,H,L⟩:=q0E (h _ (GW.Gn q.AJ _) aq) u;exact⟨_,_,L,D.symm,q.freeze (nx:=hs.nx) H⟩
  .exact h.elim
 .exact⟨_,_,h,q5D hs.rs x,q⟩
def qLQ(f:SV->Hs->(Hs->Prop)->Prop):F SV->Hs->(Hs->Prop)->Prop
 |[],hs,K=>K hs
 |c::r,hs,K=>match c with
  |.sl a b o n m=>f (.sl a b o n m) hs λh=>qLQ f r h K
  |.row a b n m=>f (.row a b n m) hs λh=>qLQ f r h K
  |_=>qLQ f r hs K
def HS(f:SV->Hs->(Hs->Prop)->Prop):Prop:=∀x hs K h w,f x hs K->Ap h hs w->∃q,K q/\Ap h q w
def qtE{f}(q:HS f):∀(l:F SV){hs:Hs}{K:Hs->Prop}{fr:Fr}{w:zp},qLQ f l hs K->Ap fr hs w->∃C,K C/\Ap fr C w
 |[],hs,K,fr,w,h,u=>⟨hs,h,u⟩
 |c::r,hs,K,fr,w,h,u=>by
  simp only[qLQ]at h;split at h
  .obtain⟨D,A,B⟩:=q _ _ _ _ _ h u;exact qtE q r A B
  .obtain⟨D,A,B⟩:=q _ _ _ _ _ h u;exact qtE q r A B
  .exact qtE q r h u
def qPX(f:SV->Hs->(Hs->Prop)->Prop)(x:SV)(hs:Hs)(K:Hs->Prop):Prop:=match x with
 |.sl id _ _ _ _=>match hs with
  |⟨q,h,u,A⟩=>match qIB id h with
   |some (_,_,cells)=>qLQ f cells ⟨q,h,u,A⟩ K
   |none=>K ⟨q,h,u,A⟩
 |_=>K hs
def q8L{f}(u:HS f):HS (qPX f):=by
 intro x hs K A w h q;unfold qPX at h;split at h
 .obtain⟨B,C,D,E⟩:=hs;simp only at h;split at h
  .exact qtE u _ h q
  .exact⟨_,h,q⟩
 .exact⟨_,h,q⟩
def I3(x:SV)(hs:Hs)(K:Hs->Prop):Prop:=IB x hs λ_ h=>K h
def qfK:HS I3:=by
 intro x hs K C w h q;obtain⟨_,u,A,_,B⟩:=qII h q;exact⟨u,A,B⟩
def IA(f:SV->Hs->(Hs->Prop)->Prop)(x:SV)(hs:Hs)(K:Hs->Prop):Prop:=qPX f x hs λh=>I3 x h K
def qHI{f}(h:HS f):HS (IA f):=by
 intro x hs K C w q u;obtain⟨D,A,B⟩:=q8L h _ _ _ _ _ q u;exact qfK _ _ _ _ _ A B
def I4(x:SV)(hs:Hs)(K:Hs->Prop):Prop:=qPX (IA (IA I3)) x hs K
def qgK:HS I4:=q8L (qHI (qHI qfK))
def KM(l:F SV)(hs:Hs)(K:Hs->Prop):Prop:=qLQ (IA (IA I3)) l hs K
def qrU{l}{hs}{K}{fr:Fr}{w}(h:KM l hs K)(u:Ap fr hs w):∃q,K q/\Ap fr q w:=qtE (qHI (qHI qfK)) l h u
def qJC(n:Z)(k:Z->Z->Prop):Prop:=match n with
 |0=>k 0 1
 |1=>k 1 2
 |2=>k 2 3
 |3=>k 3 4
 |4=>k 4 5
 |5=>k 5 6
 |6=>k 6 7
 |7=>k 7 8
 |8=>k 8 9
 |9=>k 9 10
 |10=>k 10 11
 |11=>k 11 12
 |12=>k 12 13
 |13=>k 13 14
 |14=>k 14 15
 |15=>k 15 16
 |16=>k 16 17
 |17=>k 17 18
 |18=>k 18 19
 |19=>k 19 20
 |20=>k 20 21
 |21=>k 21 22
 |22=>k 22 23
 |23=>k 23 24
 |24=>k 24 25
 |25=>k 25 26
 |26=>k 26 27
 |27=>k 27 28
 |28=>k 28 29
 |29=>k 29 30
 |30=>k 30 31
 |31=>k 31 32
 |32=>k 32 33
 |33=>k 33 34
 |34=>k 34 35
 |35=>k 35 36
 |36=>k 36 37
 |37=>k 37 38
 |38=>k 38 39
 |39=>k 39 40
 |40=>k 40 41
 |41=>k 41 42
 |42=>k 42 43
 |43=>k 43 44
 |44=>k 44 45
 |45=>k 45 46
 |46=>k 46 47
 |47=>k 47 48
 |48=>k 48 49
 |49=>k 49 50
 |50=>k 50 51
 |51=>k 51 52
 |52=>k 52 53
 |53=>k 53 54
 |54=>k 54 55
 |55=>k 55 56
 |56=>k 56 57
 |57=>k 57 58
 |58=>k 58 59
 |59=>k 59 60
 |60=>k 60 61
 |61=>k 61 62
 |62=>k 62 63
 |63=>k 63 64
 |64=>k 64 65
 |65=>k 65 66
 |66=>k 66 67
 |67=>k 67 68
 |68=>k 68 69
 |69=>k 69 70
 |70=>k 70 71
 |71=>k 71 72
 |72=>k 72 73
 |73=>k 73 74
 |74=>k 74 75
 |75=>k 75 76
 |76=>k 76 77
 |77=>k 77 78
 |78=>k 78 79
 |79=>k 79 80
 |n=>k n (n+1)
def qNB{n}{k}(h:qJC n k):∃i j,k i j:=by
 unfold qJC at h;split at h<;>exact⟨_,_,h⟩
def qVR(size:Z)(x y:SV)(hs:Hs)(K:SV->Hs->Prop):Prop:=match hs with
 |⟨h,q,A,u⟩=>match x with
 |.p id b o=>match qIB id q with
  |some (H,_,cells)=>b=H/\ocS (q7A y) (match zAL (q7A y).length size with
   |true=>match Gf cells o (q7A y)with
    |some L=>H5 id L q λB=>K (.v zAU) ⟨h,B,A,u⟩
    |none=>zX
   |false=>zX)
  |none=>zX
 |.re id D n cap j=>match qXB id q with
  |some (Q,R,T,U,V,cs)=>(D=Q/\n=R/\cap=T)/\ocS (q7A y) (match zAL (q7A y).length size with
   |true=>(j+size<=cs.length/\0<size)/\qyC (q7A y) λC=>E7 id (O (.row id D n cap U V (cs.take j++C++cs.drop (j+size)))) q λB=>K (.v zAU) ⟨h,B,A,u⟩
   |false=>zX)
  |none=>zX
 |.v (.pointer (O a))=>∃(b j:Z)(cs:F zg)(ty:zAw),(a=⟨b,j,zc⟩/\u<=b/\h.g b/\h.w.heap[b]?=O (.cells ⟨cs⟩ ty (0,0))/\j+size<=cs.length)/\ocS (q7A y) (match zAL (q7A y).length size with
   |true=>qyC (q7A y) λC=>∀E,Upd h b (.cells ⟨cs.take j++C++cs.drop (j+size)⟩ ty (0,0)) E->K (.v zAU) ⟨E,q,A,u⟩
   |false=>zX)
 |_=>zX
def qRU(size)(x y)(hs)(K):qVR size  x y  hs  K=(match x with
 |.p id b o=>match qIB id hs.rs with
  |some (h,_,cells)=>b=h/\ocS (q7A y) (match zAL (q7A y).length size with
   |true=>match Gf cells o (q7A y)with
    |some q=>H5 id q hs.rs λrs'=>K (.v zAU) ⟨hs.g,rs',hs.nx,hs.lo⟩
    |none=>zX
   |false=>zX)
  |none=>zX
 |.re id oa n cap j=>match qXB id hs.rs with
  |some (u,A,B,ety,sz,cs)=>(oa=u/\n=A/\cap=B)/\ocS (q7A y) (match zAL (q7A y).length size with
   |true=>(j+size<=cs.length/\0<size)/\qyC (q7A y) λvs=>E7 id (O (.row id oa n cap ety sz (cs.take j++vs++cs.drop (j+size)))) hs.rs λrs'=>K (.v zAU) ⟨hs.g,rs',hs.nx,hs.lo⟩
   |false=>zX)
  |none=>zX
 |.v (.pointer (O a))=>∃(b j:Z)(cs:F zg)(ty:zAw),(a=⟨b,j,zc⟩/\hs.lo<=b/\hs.g.g b/\hs.g.w.heap[b]?=O (.cells ⟨cs⟩ ty (0,0))/\j+size<=cs.length)/\ocS (q7A y) (match zAL (q7A y).length size with
   |true=>qyC (q7A y) λvs=>∀g',Upd hs.g b (.cells ⟨cs.take j++vs++cs.drop (j+size)⟩ ty (0,0)) g'->K (.v zAU) ⟨g',hs.rs,hs.nx,hs.lo⟩
   |false=>zX)
 |_=>zX):=by
 cases hs;rfl
def qcM(ty:zAw)(zero:F SV)(hs:Hs)(K:SV->Hs->Prop):Prop:=match hs with
 |⟨h,q,u,A⟩=>ocS zero (qJC u λi j=>∀b,K (.p i b 0) ⟨h,.blk i b ty zero::q,j,A⟩)
def qiP(ty)(zero)(hs)(K):qcM ty  zero  hs  K=(ocS zero (qJC hs.nx λi j=>∀b,K (.p i b 0) ⟨hs.g,.blk i b ty zero::hs.rs,j,hs.lo⟩)):=by
 cases hs;rfl
def IP(ty:zAw)(x:SV)(hs:Hs)(K:SV->Hs->Prop):Prop:=match hs with
 |⟨h,q,u,A⟩=>qzX (q7A x) λcs=>ocS cs (qJC u λi j=>∀b,K (.p i b 0) ⟨h,.blk i b ty cs::q,j,A⟩)
def qLb(ty)(x)(hs)(K):IP ty  x  hs  K=(qzX (q7A x) λcs=>ocS cs (qJC hs.nx λi j=>∀b,K (.p i b 0) ⟨hs.g,.blk i b ty cs::hs.rs,j,hs.lo⟩)):=by
 cases hs;rfl
def JS(ety:zAw)(len:Z)(cells:F SV)(hs:Hs)(K:SV->Hs->Prop):Prop:=match hs with
 |⟨h,q,u,A⟩=>ocS cells (qJC u λi j=>∀b,K (.sl i b 0 len len) ⟨h,.blk i b ety cells::q,j,A⟩)
def qJb(ety)(len)(cells)(hs)(K):JS ety  len  cells  hs  K=(ocS cells (qJC hs.nx λi j=>∀b,K (.sl i b 0 len len) ⟨hs.g,.blk i b ety cells::hs.rs,j,hs.lo⟩)):=by
 cases hs;rfl
def HE(ety:zAw)(size bytes:Z)(zero:F zg)(l c:SV)(hs:Hs)(K:SV->Hs->Prop):Prop:=match hs with
 |⟨h,q,u,A⟩=>match l,c with
 |.v (.int .i64 l),.v (.int .i64 c)=>(0<=l/\l<=c/\bytes*c<=281474976710656/\c<=9223372036854775807)/\
  qJC u λi j=>∀b,K (.row i (O ⟨b,0,zc⟩) l.toNat c.toNat) ⟨h,.row i (O ⟨b,0,zc⟩) l.toNat c.toNat ety size ((zAT l.toNat zero).flatten)::q,j,A⟩
 |_,_=>zX
def qZa(ety)(size bytes)(zero)(l c)(hs)(K):HE ety  size bytes  zero  l c  hs  K=(match l,c with
 |.v (.int .i64 l),.v (.int .i64 c)=>(0<=l/\l<=c/\bytes*c<=281474976710656/\c<=9223372036854775807)/\
  qJC hs.nx λi j=>∀b,K (.row i (O ⟨b,0,zc⟩) l.toNat c.toNat) ⟨hs.g,.row i (O ⟨b,0,zc⟩) l.toNat c.toNat ety size ((zAT l.toNat zero).flatten)::hs.rs,j,hs.lo⟩
 |_,_=>zX):=by
 cases hs;rfl
def Iy(size:Z)(x:SV)(hs:Hs)(K:Z->F zg->Prop):Prop:=match x with
 |.sl id b o m _=>match qIB id hs.rs with
  |some (q,_,cells)=>(b=q/\o=0)/\match zAL cells.length (m*size)with
   |true=>qyC cells λh=>K m h
   |false=>zX
  |none=>zX
 |.v (.slice u m cap)=>∃h,(CQ hs.g size (.slice u m cap) m h/\∀A∈h,A.oneCell'=I)/\K m h
 |_=>zX
def qoS(id:Z)(new:Res):F Res->(F Res->Prop)->Prop
 |[],_=>zX
 |.blk j b ty cells::r,k=>match zAL j id with
  |true=>k (new::r)
  |false=>qoS id new r λh=>k (.blk j b ty cells::h)
 |x::r,k=>qoS id new r λh=>k (x::h)
def qQb(ety:zAw)(size:Z)(s:SV)(hs:Hs)(K:SV->Hs->Prop):Prop:=match hs with
 |⟨q,h,u,A⟩=>match s with
 |.sl id b o n cap=>match qIB id h with
  |some (B,C,cells)=>(b=B/\o=0/\n=cap/\C=ety/\cap<=zAp)/\match zAL cells.length (n*size)with
   |true=>qyC cells λcs=>qoS id (.row id (O ⟨b,0,zc⟩) n cap ety size cs) h λD=>K (.row id (O ⟨b,0,zc⟩) n cap) ⟨q,D,u,A⟩
   |false=>zX
  |none=>zX
 |s=>K s hs
def qdY(ety)(size)(s)(hs)(K):qQb ety  size  s  hs  K=(match s with
 |.sl id b o n cap=>match qIB id hs.rs with
  |some (h,q,cells)=>(b=h/\o=0/\n=cap/\q=ety/\cap<=zAp)/\match zAL cells.length (n*size)with
   |true=>qyC cells λcs=>qoS id (.row id (O ⟨b,0,zc⟩) n cap ety size cs) hs.rs λu=>K (.row id (O ⟨b,0,zc⟩) n cap) ⟨hs.g,u,hs.nx,hs.lo⟩
   |false=>zX
  |none=>zX
 |s=>K s hs):=by
 cases hs;rfl
def E0(oa:zy zAI)(n:Z):Prop:=0<n->∃a,oa=O a
def E0.no{oa}{n}{p:Prop}(h:p):E0 oa n->p:=λ_=>h
def Ap.Jy{fr:Fr}{hs}{w}(h:Ap fr hs w){id}{oa}{n cap}{ety}{size}{cs}(hm:Res.row id oa n cap ety size cs∈hs.rs):E0 oa n:=λu=>by
 obtain⟨⟨_,g2⟩,_⟩:=h.res _ hm;rcases g2 with⟨_,rfl⟩|⟨_,_,_,q,_⟩
 .omega
 .simp only[zAg]at q;exact⟨_,q.1⟩
def qRb(ety:zAw)(size bytes:Z)(s x:SV)(hs:Hs)(K:SV->Hs->Prop):Prop:=match hs with
 |⟨u,D,H,B⟩=>Iy size x hs λm C=>match s with
 |.v (.slice zc 0 0)=>(m<=zAp/\m*bytes<=140737488355328)/\qJC H λi j=>∀h cap,E0 h m->K (.row i h m cap) ⟨u,.row i h m cap ety size C::D,j,B⟩
 |.row id h n cap=>match qXB id D with
  |some (R,T,U,V,W,cs)=>(h=R/\n=T/\cap=U/\V=ety/\W=size)/\(n+m<=zAp/\(n+m)*bytes<=140737488355328)/\
   qJC H λi j=>∀q A,E0 q (n+m)->E7 id (O (.row i q (n+m) A ety size (cs++C))) D λY=>K (.row i q (n+m) A) ⟨u,Y,j,B⟩
  |none=>zX
 |.v (.slice h n cap)=>(∃cs,(CQ u size (.slice h n cap) n cs/\∀Q∈cs,Q.oneCell'=I)/\(m=0->K (.v (.slice h n cap)) hs)/\
  (0<m->(cap<n+m/\n+m<=zAp/\(n+m)*bytes<=140737488355328)/\qJC H λi j=>∀q A,E0 q (n+m)->K (.row i q (n+m) A) ⟨u,.row i q (n+m) A ety size (cs++C)::D,j,B⟩))\/
  (∃(b:Z)(cs E:F zg),(h=O ⟨b,0,zc⟩/\B<=b/\u.g b/\u.w.heap[b]?=O (.cells ⟨cs++E⟩ ety (0,0))/\cs.length=n*size/\(∀Q∈cs,Q.oneCell'=I)/\n<=cap/\cap<=zAp/\(cs++E).length=cap*size/\
   n+m<=zAp/\(n+m)*bytes<=140737488355328)/\∀L,G9 u b L->qJC H λi j=>∀q A,E0 q (n+m)->K (.row i q (n+m) A) ⟨L,.row i q (n+m) A ety size (cs++C)::D,j,B⟩)\/
  ∃(b:Z)(cs E:F zg),(h=O ⟨b,0,zc⟩/\B<=b/\u.g b/\u.w.heap[b]?=O (.cells ⟨cs++E⟩ ety (0,0))/\cs.length=n*size/\n+m<=cap/\C.length<=E.length)/\∀L,Upd u b (.cells ⟨cs++C++E.drop C.length⟩ ety (0,0)) L->K (.v (.slice h (n+m) cap)) ⟨L,D,H,B⟩
 |_=>zX
def qeY(ety)(size bytes)(s x)(hs)(K):qRb ety  size bytes  s x  hs  K=(Iy size x hs λm vs=>match s with
 |.v (.slice zc 0 0)=>(m<=zAp/\m*bytes<=140737488355328)/\qJC hs.nx λi j=>∀oa cap,E0 oa m->K (.row i oa m cap) ⟨hs.g,.row i oa m cap ety size vs::hs.rs,j,hs.lo⟩
 |.row id oa n cap=>match qXB id hs.rs with
  |some (A,B,C,D,E,cs)=>(oa=A/\n=B/\cap=C/\D=ety/\E=size)/\(n+m<=zAp/\(n+m)*bytes<=140737488355328)/\
   qJC hs.nx λi j=>∀h q,E0 h (n+m)->E7 id (O (.row i h (n+m) q ety size (cs++vs))) hs.rs λrs'=>K (.row i h (n+m) q) ⟨hs.g,rs',j,hs.lo⟩
  |none=>zX
 |.v (.slice oa n cap)=>(∃cs,(CQ hs.g size (.slice oa n cap) n cs/\∀u∈cs,u.oneCell'=I)/\(m=0->K (.v (.slice oa n cap)) hs)/\
  (0<m->(cap<n+m/\n+m<=zAp/\(n+m)*bytes<=140737488355328)/\qJC hs.nx λi j=>∀h q,E0 h (n+m)->K (.row i h (n+m) q) ⟨hs.g,.row i h (n+m) q ety size (cs++vs)::hs.rs,j,hs.lo⟩))\/
  (∃(b:Z)(cs rest:F zg),(oa=O ⟨b,0,zc⟩/\hs.lo<=b/\hs.g.g b/\hs.g.w.heap[b]?=O (.cells ⟨cs++rest⟩ ety (0,0))/\cs.length=n*size/\(∀u∈cs,u.oneCell'=I)/\n<=cap/\cap<=zAp/\(cs++rest).length=cap*size/\
   n+m<=zAp/\(n+m)*bytes<=140737488355328)/\∀g',G9 hs.g b g'->qJC hs.nx λi j=>∀h q,E0 h (n+m)->K (.row i h (n+m) q) ⟨g',.row i h (n+m) q ety size (cs++vs)::hs.rs,j,hs.lo⟩)\/
  ∃(b:Z)(cs rest:F zg),(oa=O ⟨b,0,zc⟩/\hs.lo<=b/\hs.g.g b/\hs.g.w.heap[b]?=O (.cells ⟨cs++rest⟩ ety (0,0))/\cs.length=n*size/\n+m<=cap/\vs.length<=rest.length)/\∀g',Upd hs.g b (.cells ⟨cs++vs++rest.drop vs.length⟩ ety (0,0)) g'->K (.v (.slice oa (n+m) cap)) ⟨g',hs.rs,hs.nx,hs.lo⟩
 |_=>zX):=by
 cases hs;rfl
def Je(ety:zAw)(size bytes:Z)(s x:SV)(hs:Hs)(K:SV->Hs->Prop):Prop:=I4 x hs λhs=>I4 s hs λhs=>qQb ety size s hs λh q=>qRb ety size bytes h x q K
def Ja(d s:SV)(hs:Hs)(K:SV->Hs->Prop):Prop:=Iy 1 s hs λm h=>match d with
 |.row id (O q) n cap=>match qXB id hs.rs with
  |some (A,B,C,D,E,cs)=>(A=O q/\n=B/\cap=C/\E=1/\0<m/\0<n)/\
   E7 id (O (.row id (O q) n cap D 1 (h.take (min m n)++cs.drop (min m n)))) hs.rs λH=>K (.v (.int .i64 ((min m n:Z):zt))) ⟨hs.g,H,hs.nx,hs.lo⟩
  |none=>zX
 |.v (.slice (O a) n _)=>∃(b:Z)(cs:F zg)(ty:zAw),(a=⟨b,0,zc⟩/\hs.lo<=b/\hs.g.g b/\hs.g.w.heap[b]?=O (.cells ⟨cs⟩ ty (0,0))/\min m n<=cs.length/\0<m)/\
   ∀u,Upd hs.g b (.cells ⟨h.take (min m n)++cs.drop (min m n)⟩ ty (0,0)) u->K (.v (.int .i64 ((min m n:Z):zt))) ⟨u,hs.rs,hs.nx,hs.lo⟩
 |_=>zX
def Ix(size:Z)(x y:SV)(hs:Hs)(K:SV->Hs->Prop):Prop:=match x with
 |.p id b o=>qVR size (.p id b o) y hs K
 |x=>KM (q7A y) hs λhs=>qVR size x y hs K
def qcP(P:zv)(H:qNA)(Y:qUB)(f:SV)(args:F SV)(hs:Hs)(K:SV->Hs->Prop):Prop:=match f with
 |.fn (.func k) first h=>Gb P k/\H Y k (first++args++h) hs K
 |.v (.func (.func k) ⟨first⟩ ⟨h⟩)=>Gb P k/\match first,h with
  |[],[]=>H Y k args hs K
  |first,h=>∃q u,(qCA q=first/\qCA u=h)/\H Y k (q++args++u) hs K
 |.yl id l=>match qdI id hs.rs with
  |some (A,_,_)=>l=A/\Y id args hs K
  |none=>zX
 |_=>zX
def I7(h:KyT)(hs:Hs)(K:SV->Hs->Prop):Prop:=match hs with
 |⟨q,u,A,B⟩=>qJC A λi j=>∀r,K (.mp i r) ⟨q,.mp i r h []::u,j,B⟩
def Ha(id:Z)(new:F (Ky×zg)):F Res->(F Res->Prop)->Prop
 |[],_=>zX
 |.mp j a q es::r,k=>match zAL j id with
  |true=>k (.mp j a q new::r)
  |false=>Ha id new r λh=>k (.mp j a q es::h)
 |x::r,k=>Ha id new r λh=>k (x::h)
def qtC{id}{new}:∀{rs:F Res}{k:F Res->Prop}{r:Z}{A:KyT}{es:F (Ky×zg)},Ha id new rs k->qWD id rs=O (r,A,es)->∃l1 u,rs=l1++.mp id r A es::u/\k (l1++.mp id r A new::u)
 |[],k,r,A,es,h,q=>h.elim
 |.mp j a V W::rs,k,r,A,es,h,q=>by
  simp only[Ha]at h;simp only[qWD]at q;cases Q:zAL j id with
  |true=>
   rw[Q]at h q;simp at q;obtain⟨rfl,rfl,rfl⟩:=q;obtain rfl:=zP Q;exact⟨[],rs,rfl,h⟩
  |false=>
   rw[Q]at h q;obtain⟨l1,u,e,B⟩:=qtC h q;exact⟨_::l1,u,by rw[e];rfl,B⟩
 |.blk C E H L::rs,k,r,A,es,h,q=>by
  obtain⟨l1,u,e,B⟩:=qtC (k:=λD=>k (.blk C E H L::D)) h q;exact⟨_::l1,u,by rw[e];rfl,B⟩
 |.row C E H L R T U::rs,k,r,A,es,h,q=>by
  obtain⟨l1,u,e,B⟩:=qtC (k:=λD=>k (.row C E H L R T U::D)) h q;exact⟨_::l1,u,by rw[e];rfl,B⟩
 |.lp C E H L::rs,k,r,A,es,h,q=>by
  obtain⟨l1,u,e,B⟩:=qtC (k:=λD=>k (.lp C E H L::D)) h q;exact⟨_::l1,u,by rw[e];rfl,B⟩
 |.mk C::rs,k,r,A,es,h,q=>by
  obtain⟨l1,u,e,B⟩:=qtC (k:=λD=>k (.mk C::D)) h q;exact⟨_::l1,u,by rw[e];rfl,B⟩
def G1(h:KyT)(x k v:SV)(hs:Hs)(K:SV->Hs->Prop):Prop:=match hs with
 |⟨u,q,A,B⟩=>match x with
  |.mp id r=>match kOf h (Ag k)with
   |some n=>match qWD id q with
    |some (C,D,es)=>(r=C/\I=I/\IG D h=I)/\qqJ v λv=>Ha id (CB n v es) q λE=>K (.v zAU) ⟨u,E,A,B⟩
    |none=>zX
   |none=>zX
  |_=>zX
def ID(u:KyT)(z:zg)(x k:SV)(hs:Hs)(K:SV->Hs->Prop):Prop:=match hs with
 |⟨A,h,B,C⟩=>match x with
  |.mp id r=>match kOf u (Ag k)with
   |some n=>match qWD id h with
    |some (D,E,es)=>(r=D/\I=I/\IG E u=I)/\∃o,B5 n es=o/\match o with
     |some v=>Ha id es h λq=>K (.v (.tuple ⟨[v,.int .i64 (mIx n es)]⟩)) ⟨A,q,B,C⟩
     |none=>Ha id (es++[(n,z)]) h λq=>K (.v (.tuple ⟨[z,.int .i64 es.length]⟩)) ⟨A,q,B,C⟩
    |none=>zX
   |none=>zX
  |_=>zX
def Ii(x s v:SV)(hs:Hs)(K:SV->Hs->Prop):Prop:=match hs with
 |⟨q,h,u,A⟩=>match x with
  |.mp id r=>match s with
   |.v (.int k j)=>match j with
    |.ofNat j=>match qWD id h with
     |some (B,_,es)=>(r=B/\kEq k .i64=I/\Nat.blt j es.length=I)/\qqJ v λv=>Ha id (FT j v es) h λC=>K (.v zAU) ⟨q,C,u,A⟩
     |none=>zX
    |_=>zX
   |_=>zX
  |_=>zX
def chS(P:zv)(H:qNA)(Y:qUB)(o:SOp)(sl:Sl)(hs:Hs)(K:SV->Hs->Prop):Prop:=match o with
 |.store size x y=>x.k hs.rs sl λx=>y.k hs.rs sl λy=>Ix size x y hs K
 |.alloc ty zero=>qcM ty zero hs K
 |.box ty x=>x.k hs.rs sl λx=>IP ty x hs K
 |.bsl h _ len zero parts=>quV hs.rs sl zero parts λcells=>JS h len cells hs K
 |.app h size bytes s x=>s.k hs.rs sl λs=>x.k hs.rs sl λx=>Je h size bytes s x hs K
 |.msl h size bytes zero l c=>l.k hs.rs sl λl=>c.k hs.rs sl λc=>HE h size bytes zero l c hs K
 |.mkm q=>I7 q hs K
 |.cpy d s=>d.k hs.rs sl λd=>s.k hs.rs sl λs=>Ja d s hs K
 |.men q z x k=>x.k hs.rs sl λx=>k.k hs.rs sl λk=>ID q z x k hs K
 |.est x s v=>x.k hs.rs sl λx=>s.k hs.rs sl λs=>v.k hs.rs sl λv=>Ii x s v hs K
 |.mup q x k v=>x.k hs.rs sl λx=>k.k hs.rs sl λk=>v.k hs.rs sl λv=>G1 q x k v hs K
 |.call f args=>Opd.ks hs.rs sl args λargs=>H Y f args hs K
 |.H3 f args=>Opd.ks hs.rs sl args λargs=>H Y f args hs K
 |.Hm f args=>f.k hs.rs sl λf=>Opd.ks hs.rs sl args λargs=>qcP P H Y f args hs K
 |_=>zX
def qzB{P}{b}{ty}:∀(vs:F zg)(i:Z)(o:Z)(w:zp)(cs:F zg),w.heap[b]?=O (.cells ⟨cs⟩ ty (0,0))->o+i+vs.length<=cs.length->(∀v∈vs,v.oneCell'=I)->∃w',(storeCells ⟨b,o,zc⟩ vs i).run P w=.ok () w'/\w'.heap[b]?=O (.cells ⟨cs.take (o+i)++vs++cs.drop (o+i+vs.length)⟩ ty (0,0))/\w'.heap.size=w.heap.size/\(∀k,k≠b->w'.heap[k]?=w.heap[k]?)/\w'.os=w.os/\w'.tape=w.tape/\w'.output=w.output
 |[],i,o,w,cs,h,q,u=>⟨w,by simp[storeCells],by simpa using h,rfl,λ_ _=>rfl,rfl,rfl,rfl⟩
 |v::vs,i,o,w,cs,h,q,u=>by
  have A:o+i<cs.length:=by simp at q;omega
  have C:w.cell? ⟨b,o+i,zc⟩=O cs[o+i]:=by rw[qJB h];simp[A]
  have D:w.frozen? ⟨b,o+i,zc⟩=zb:=by simp[World.frozen?,h]
  have E:(w.setCell ⟨b,o+i,zc⟩ v).heap[b]?=O (.cells ⟨cs.set (o+i) v⟩ ty (0,0)):=by
   rw[heap_setCell_same w b (o+i) ⟨cs⟩ ty v h];simp
  obtain⟨w',H,L,Q,R,T,U,V⟩:=qzB (P:=P) vs (i+1) o (w.setCell ⟨b,o+i,zc⟩ v) (cs.set (o+i) v) E (by simp at q⊢;omega) (λW hu=>u W (zAF _ hu));refine⟨w',?_,?_,?_,?_,?_,?_,?_⟩
  .have Y:(store ⟨b,o+i,zc⟩ v).run P w=.ok () (w.setCell ⟨b,o+i,zc⟩ v):=by
    rw[run_store P w _ v _ (u v (zAH ..)),C];simp[D]
   simp only[storeCells,qoA,zZ,Y,zAk];exact H
  .rw[L];congr 2;simp only[List.take_set,zBy,zDe (show o+i<o+(i+1)+vs.length by omega),Array.mk.injEq];rw[<-zDp o i 1,zAo A,List.set_append_right _ _ sf];simp[zBe,zCb (zCW A),zDp,Nat.add_comm 1]
  .rw[Q];simp[World.setCell]
  .intro k B;rw[R k B];exact heap_setCell_other w _ k v B
  .rw[T];rfl
  .rw[U];rfl
  .rw[V];rfl
def q7P{u:Type}(l q:F u)(j m:Z)(h:j+q.length<=m)(hm:m<=l.length):(l.take j++q++l.drop (j+q.length)).take m=(l.take m).take j++q++(l.take m).drop (j+q.length):=by
 have B:(l.take j).length=j:=sf
 have A:(l.take j++q).length=j+q.length:=sf
 rw[List.take_append,zAz sa,A,zCX,zCb sa,zCI]
def qIE{P}{t}{size}(hs:qYB P t=O size){w w'}{a}{v}(q:v.cells.size=size)(h:(storeCells a v.cells.toList).run P w=.ok () w'):(Instr.storeAt t (.pointer (O a)) v).run P w=.ok () w':=by
 simp[Instr.storeAt,Instr.sureAddr,storeVar,q1A hs,q,h]
def qPK{size}{x y}{hs}{K}(h:qVR size x y hs K){P}{t}(ac:qYB P t=O size){fr:Fr}{w}(E:Ap fr hs w):∃w' H,(Instr.storeAt t (Ag x) (Ag y)).run P w=.ok () w'/\Ap fr H w'/\K (.v zAU) H:=by
 rw[qRU]at h;split at h
 .rename_i id b o;split at h
  .rename_i aF ty cells L;obtain⟨rfl,h⟩:=h;obtain⟨h,C⟩:=qNE h;split at h
   .rename_i u;have u:=zP u;split at h
    .rename_i aG an;obtain⟨aH,aj⟩:=qGI an;obtain⟨ao,ap,ad,ae⟩:=qjE h L;obtain⟨D,Q⟩:=E.Eh L
     have R:∀v∈(Ag y).cells.toList,v.oneCell'=I:=λv B=>by
      rw[<-qfB,qgA]at B;obtain⟨c,q,rfl⟩:=zU.1 B;exact C c q
     have A:(Ag y).cells.size=size:=by rw[<-qIC];exact u
     obtain⟨w',T,U,H,V,W,Y,aa⟩:=qzB (P:=P) (Ag y).cells.toList 0 o w (qCA cells) D (by simp[qnA,A];omega) R;refine⟨w',_,qIE ac A T,?_,ae⟩;refine E.upd ad W Y aa sa (λk _ af=>V k (by simpa[Res.bk]using af)) ⟨?_,λc q=>?_⟩ (λb D=>.inl (by simpa[Res.bk]using D)) so
     .rw[U,aj];congr 2;simp[qYG,q4G,q5G,qfB,qIC]
     .rw[aj]at q;rcases zN.1 q with q|q
      .rcases zN.1 q with q|q
       .exact Q c (zBZ q)
       .exact C c q
      .exact Q c (zCu q)
    .exact h.elim
   .exact h.elim
  .exact h.elim
 .rename_i id aI n cap j;split at h
  .rename_i aJ aK aq ar ab cs L;obtain⟨⟨rfl,rfl,rfl⟩,h⟩:=h;obtain⟨h,C⟩:=qNE h;split at h
   .rename_i u;have u:=zP u;obtain⟨⟨ag,aL⟩,h⟩:=h;have h:=qRB _ h;obtain⟨ao,ap,ad,ae⟩:=qsC h L;obtain⟨⟨g1,g2⟩,Q⟩:=E.E2 L
    have R:∀v∈(Ag y).cells.toList,v.oneCell'=I:=λv B=>by
     rw[<-qfB,qgA]at B;obtain⟨c,q,rfl⟩:=zU.1 B;exact C c q
    have A:(Ag y).cells.size=size:=by rw[<-qIC];exact u
    rcases g2 with⟨ah,rfl⟩|⟨g,aq,cur,ah,au,av,ak,aw,ax,al⟩
    .simp at g1;subst g1;simp at ag;omega
    .simp only[zAg]at ah;obtain⟨rfl,_,rfl⟩:=ah
     have aM:cs.length<=cur.size:=by
      rw[<-al,zBe];simp;omega
     obtain⟨w',T,U,H,V,W,Y,aa⟩:=qzB (P:=P) (Ag y).cells.toList 0 j w cur.toList av (by simp[A];omega) R;refine⟨w',_,?_,?_,ae⟩
     .simp only[Ag,zBv,qoA,zAr];exact qIE ac A T
     .have ay:(qCA (q7A y)).length=size:=by rw[qnA];exact u
      have az:cs.length=n*ab:=g1;refine E.upd (r1:=.row id (O ⟨g,0,zc⟩) n cap ar ab (cs.take j++qCA (q7A y)++cs.drop (j+size))) ad W Y aa sa (λk _ af=>V k (by simpa[Res.bk]using af)) ⟨⟨?_,.inr ⟨g,cap,_,rfl,au,U,ak,aw,?_,?_⟩⟩,λc q=>?_⟩ (λb D=>.inl (by simpa[Res.bk]using D)) so
      .simp[ay];omega
      .simp[A];rw[<-ax];omega
      .rw[<-al,qfB];have ai:(Ag y).cells.toList.length=size:=by simpa using A
       have:=q7P cur.toList (Ag y).cells.toList j (n*ab) (by rw[ai,<-az];exact ag) (by have:=zB8 ab ak;simp;omega);rw[ai]at this;simpa[ai]using this
      .rcases zN.1 q with q|q
       .rcases zN.1 q with q|q
        .exact Q c (zBZ q)
        .rw[qgA]at q;obtain⟨aA,aB,rfl⟩:=zU.1 q;exact C aA aB
       .exact Q c (zCu q)
   .exact h.elim
  .exact h.elim
 .rename_i a;obtain⟨b,j,cs,ty,⟨rfl,aC,am,D,ag⟩,h⟩:=h;obtain⟨h,C⟩:=qNE h;split at h
  .rename_i u;have u:=zP u;have h:=qRB _ h
   have R:∀v∈(Ag y).cells.toList,v.oneCell'=I:=λv B=>by
    rw[<-qfB,qgA]at B;obtain⟨c,q,rfl⟩:=zU.1 B;exact C c q
   have A:(Ag y).cells.size=size:=by rw[<-qIC];exact u
   obtain⟨w',T,U,H,V,W,Y,aa⟩:=qzB (P:=P) (Ag y).cells.toList 0 j w cs ((E.AJ.2 b am).trans D) (by simp[A];omega) R;obtain⟨aD,hu,aE⟩:=E.H9 (w':=w') aC am W Y aa H U V;refine⟨w',_,qIE ac A T,aE,h aD ?_⟩;simpa[qfB,A]using hu
  .exact h.elim
 .exact h.elim
def qVV{fr:Fr}{hs}{w}(h:Ap fr hs w)(id nx)(ty)(cells)(q:∀c∈cells,(Ag c).oneCell'=I):Ap fr ⟨hs.g,.blk id w.heap.size ty cells::hs.rs,nx,hs.lo⟩ (w.alloc (.cells (qCA cells).toArray ty)):=
 h.Ep (Below.AT w _) (r:=.blk id w.heap.size ty cells) ⟨World.alloc_heap_new w _,q⟩ (λb u=>by simp[Res.bk]at u;omega) so
def qNL{ty}{z}{hs}{K}(h:qcM ty (z.map SV.v) hs K){P}(hz:qrI P ty=O z){fr:Fr}{w}(u:Ap fr hs w):∃w' s q,(Instr.alloc ty I (.tuple #[])).run P w=.ok (Ag s) w'/\Below w.heap.size w w'/\Ap fr q w'/\K s q:=by
 rw[qiP]at h;obtain⟨h,A⟩:=qNE h;obtain⟨i,j,h⟩:=qNB h;obtain⟨v,B,C,_⟩:=qoD hz w;refine⟨_,_,_,?_,Below.AT w _,qVV u i j ty _ A,h w.heap.size⟩;have:(qCA (z.map SV.v)).toArray=v.cells:=by apply zBl;simp[qgA,zCc,Ag,C]
 rw[this];simp[Instr.alloc,B,newVar,newRow,Ag]
def qfP{ty}{x}{hs}{K}(h:IP ty x hs K){P}{fr:Fr}{w}(u:Ap fr hs w):∃w' s q,(Instr.box ty (Ag x)).run P w=.ok (Ag s) w'/\Below w.heap.size w w'/\Ap fr q w'/\K s q:=by
 rw[qLb]at h;obtain⟨h,A⟩:=qNE (qGM _ h);obtain⟨i,j,h⟩:=qNB h;refine⟨_,_,_,?_,Below.AT w _,qVV u i j ty _ A,h w.heap.size⟩;have:(qCA (q7A x)).toArray=(Ag x).cells:=by apply zBl;simp[qfB]
 rw[this];simp[Instr.box,newVar,newRow,Ag]
def qCI(z:F zg)(n:Z):((Array.range (n*z.length)).map (λi=>z.toArray[i%z.toArray.size]!)).toList=(zAT n z).flatten:=by
 apply zBU;intro i;by_cases hz:z.length=0
 .have:z=[]:=zCd hz;subst this;simp
 .have u:0<z.length:=Nat.pos_of_ne_zero hz
  have A:∀(n i:Z),((zAT n z).flatten)[i]?=if i<n*z.length then z[i%z.length]? else zc:=by
   intro n
   induction n with
   |zero=>intro i;simp
   |succ n B=>
    intro i;rw[List.replicate_succ,zCt,List.getElem?_append];split
    .rename_i h;rw[zk (by rw[zCp];omega),Nat.mod_eq_of_lt h]
    .rename_i h;rw[B,zCp];by_cases q:i<n*z.length+z.length
     .rw[zk q,zk sa,show(i-z.length)%z.length=i%z.length from(Nat.mod_eq_sub_mod sa).symm]
     .rw[zj q,zj sa]
  rw[A];simp only[zDs,Array.toList_range,zAy];split
  .rename_i h;rw[zCg h];have hm:=Nat.mod_lt i u;simp[hm]
  .rename_i h;rw[zBG (by simpa using h)];rfl
def qeP{P}{t e}{size len}{z}{cells}{hs}{K}(h:JS e len cells hs K)(hu:P.underlying t=O (.slice e))(A:qYB P e=O size)(hz:qrI P e=O z)(C:z.length=size)(V:0<size)(D:len*size<=2^24){parts}(u:Instr.fill (λi=>O (i*size,size)) ((zAT len z).flatten).toArray parts.toList=O (qCA cells).toArray){fr:Fr}{w}(E:Ap fr hs w):∃w' s B,(Instr.buildSlice t len parts).run P w=.ok (Ag s) w'/\Below w.heap.size w w'/\Ap fr B w'/\K s B:=by
 rw[qJb]at h;obtain⟨h,H⟩:=qNE h;obtain⟨i,j,h⟩:=qNB h;obtain⟨v,L,Q,_⟩:=qoD hz w;refine⟨_,_,_,?_,Below.AT w _,qVV E i j e _ H,h w.heap.size⟩;have R:v.cells=z.toArray:=by apply zBl;simpa using Q
 have T:(Array.range (len*size)).map (λi=>v.cells[i%v.cells.size]!)=((zAT len z).flatten).toArray:=by
  apply zBl;rw[R,<-C,qCI]
 have U:len*size=0->len=0:=λq=>by
  rcases Nat.mul_eq_zero.1 q with q|q
  .exact q
  .omega
 by_cases q:len*size=0
 .have:=U q;subst this;simp at u;simp[Instr.buildSlice,zL hu,q1A A,newRow,Ag,Array.range_zero',u]
 .simp[Instr.buildSlice,zL hu,q1A A,newRow,Ag,L,T,u,zDf.2 D];exact λh=>absurd h q
def qrO{P}{t e}{i:TypeInfo}{z}{l c}{hs}{K}(h:HE e i.size i.bytes z l c hs K)(hu:P.underlying t=O (.slice e))(hi:P.info? e=O i)(hz:qrI P e=O z)(q:z.length=i.size){fr:Fr}{w}(H:Ap fr hs w):∃w' s B,(Instr.makeSlice t (Ag l) (Ag c)).run P w=.ok (Ag s) w'/\Below w.heap.size w w'/\Ap fr B w'/\K s B:=by
 rw[qZa]at h;split at h
 .rename_i l c;obtain⟨⟨u,C,L,Q⟩,h⟩:=h;obtain⟨R,af,h⟩:=qNB h;obtain⟨v,T,U,V⟩:=qoD hz w;have W:v.cells=z.toArray:=by apply zBl;simpa using U
  have Y:i.zero=O v:=by
   have:=T;simp only[zAW,typeInfo,zZ,run_program,hi,zAk,Sem.run_pure]at this;cases D:i.zero with
   |none=>simp[D]at this
   |some ag=>simp[D]at this;rw[this]
  obtain⟨l,rfl⟩:=zBh u;obtain⟨c,rfl⟩:=zBh (Int.le_trans u C);have E:=run_make (P:=P) w t e i v hu hi Y .i64 .i64 l c u C (by simpa using L) (by simpa using Q);simp only[zBB]at E;refine⟨_,_,_,by simp only[Ag,zBB];exact E,Below.AT w _,?_,h w.heap.size⟩
  have hm:(madeCells v.cells (c*i.size)).toList=(zAT c z).flatten:=by
   unfold madeCells;rw[W,<-q];exact qCI z c
  have A:∀n,((zAT n z).flatten).length=n*z.length:=λn=>se
  refine H.Ep (Below.AT w _) (r:=.row R (O ⟨w.heap.size,0,zc⟩) l c e i.size _) ⟨⟨?_,.inr ⟨w.heap.size,c,_,rfl,zJ _,World.alloc_heap_new w _,sa,?_,?_,?_⟩⟩,λaa hu=>?_⟩ (λb ab=>by simp[Res.bk]at ab;omega) so
  .simp[q]
  .simp only[zAp];omega
  .rw[<-zDg,hm,A,q]
  .rw[hm,<-q];have ac:l<=c:=sa
   obtain⟨d,rfl⟩:=Nat.exists_eq_add_of_le ac;rw[<-List.replicate_append_replicate,List.flatten_append,zCe (by rw[A];exact zH _),zAz (by rw[A];exact zH _)];simp
  .simp only[zBB]at hu;obtain⟨x,ad,ae⟩:=zC8.1 hu;obtain⟨_,rfl⟩:=List.mem_replicate.1 ad;exact V aa ae
 .exact h.elim
def qHC{P}{t e ty}{i:TypeInfo}(hu:P.underlying t=O (.slice e))(hi:P.info? e=O i)(oa)(n cap h)(q:n<=cap)(w):(zBw #[t,t] ty #[.slice oa n cap,.slice zc 0 h]).run P w=.ok (.slice oa n cap) w:=by
 simp[zBw,zL hu,sizeOf,typeInfo,hi,Builtin.lenOf,Builtin.firstCells,q];cases oa<;>simp[storeCells]
def qLO{size}{x}{hs}{K}(h:Iy size x hs K){fr:Fr}{w}(C:Ap fr hs w):∃m vs,K m vs/\vs.length=m*size/\(∀u∈vs,u.oneCell'=I)/\((∃a c,Ag x=.slice (O a) m c/\∀j u,vs[j]?=O u->w.cell? (a.add j)=O u)\/(∃c,Ag x=.slice zc m c/\m=0)):=by
 unfold Iy at h;split at h
 .rename_i id b o m c;split at h
  .rename_i V ty cells E;obtain⟨⟨rfl,rfl⟩,h⟩:=h;split at h
   .rename_i q;have q:=zP q;have h:=qRB _ h;obtain⟨H,A⟩:=C.Eh E;refine⟨m,_,h,by rw[qnA];exact q,λu hu=>?_,.inl ⟨_,_,rfl,λj u hu=>?_⟩⟩
    .rw[qgA]at hu;obtain⟨c,B,rfl⟩:=zU.1 hu;exact A c B
    .rw[qoA,qJB H];simpa using hu
   .exact h.elim
  .exact h.elim
 .rename_i L m cap;obtain⟨vs,⟨⟨Q,W,Y,D,_,_,R,B⟩,A⟩,h⟩:=h;simp only[zAg,zBL]at D;obtain⟨rfl,rfl⟩:=D;refine⟨m,vs,h,Q,A,?_⟩;cases L with
  |none=>exact .inr ⟨_,rfl,(R rfl).1⟩
  |some a=>exact .inl ⟨_,_,rfl,λj u hu=>by obtain⟨aa,T,U⟩:=B j u hu;cases T;exact U.at C.AJ⟩
 .exact h.elim
def qUE{e:zAw}{i:TypeInfo}{z:zg}(hzs:z.cells.size=i.size){w:zp}{xs news:F zg}{n m cap:Z}(h:(xs++news).length=(n+m)*i.size)(q:n+m<=zAp):(w.drew.alloc (.cells (xs.toArray++news.toArray++Builtin.zeroCells z.cells (grownCap w (n+m) cap e-(n+m))) e)).ownsRow 0 e i.size (.slice (O ⟨w.heap.size,0,zc⟩) (n+m) (grownCap w (n+m) cap e)) (n+m) (xs++news):=by
 have u:=grownCap_ge w (n+m) cap e;refine⟨h,.inr ⟨w.heap.size,_,_,rfl,zJ _,heap_alloc_new w.drew _,u,grownCap_le_maxLen w (n+m) cap e q,?_,?_⟩⟩
 .have:=h;simp only[zAx]at this;simp only[Array.size_append,zDq,size_zeroCells,hzs];rw[this,<-zB1];congr 1;omega
 .simp only[Array.toList_append,zB2];rw[<-zB2,<-h];exact List.take_left
def qiF(w)(o):Below w.heap.size w (w.drew.alloc o):=((Below.refl _ w).drew).alloc (zH _) o
def qpD{id}{new}:∀{rs:F Res}{k:F Res->Prop}{b:Z}{ty:zAw}{cells:F SV},qoS id new rs k->qIB id rs=O (b,ty,cells)->∃l1 u,rs=l1++.blk id b ty cells::u/\k (l1++new::u)
 |[],k,b,ty,cells,h,q=>h.elim
 |.blk j Q R T::r,k,b,ty,cells,h,q=>by
  simp only[qoS]at h;simp only[qIB]at q;cases L:zAL j id with
  |true=>
   rw[L]at h q;simp at q;obtain⟨rfl,rfl,rfl⟩:=q;obtain rfl:=zP L;exact⟨[],r,rfl,h⟩
  |false=>
   rw[L]at h q;obtain⟨l1,u,e,A⟩:=qpD h q;exact⟨.blk j Q R T::l1,u,by simp[e],A⟩
 |.row B D E H U V W::r,k,b,ty,cells,h,q=>by
  obtain⟨l1,u,e,A⟩:=qpD (k:=λC=>k (.row B D E H U V W::C)) h q;exact⟨_::l1,u,by rw[e];rfl,A⟩
 |.lp B D E H::r,k,b,ty,cells,h,q=>by
  obtain⟨l1,u,e,A⟩:=qpD (k:=λC=>k (.lp B D E H::C)) h q;exact⟨_::l1,u,by rw[e];rfl,A⟩
 |.mk B::r,k,b,ty,cells,h,q=>by
  obtain⟨l1,u,e,A⟩:=qpD (k:=λC=>k (.mk B::C)) h q;exact⟨_::l1,u,by rw[e];rfl,A⟩
 |.mp B D E H::r,k,b,ty,cells,h,q=>by
  obtain⟨l1,u,e,A⟩:=qpD (k:=λC=>k (.mp B D E H::C)) h q;exact⟨_::l1,u,by rw[e];rfl,A⟩
def qnT{ety}{size}{s}{hs}{K}(h:qQb ety size s hs K){fr:Fr}{w}(q:Ap fr hs w):∃B C,K B C/\Ag B=Ag s/\Ap fr C w:=by
 rw[qdY]at h;split at h
 .rename_i id b o n cap;split at h
  .rename_i V E cells D;obtain⟨⟨rfl,rfl,rfl,rfl,H⟩,h⟩:=h;split at h
   .rename_i L;obtain⟨W,Y,Q,R⟩:=qpD (qRB _ h) D;obtain⟨T,U⟩:=q.Eh D;have u:(qCA cells).length=n*size:=by rw[qnA];exact zP L
    refine⟨_,_,R,rfl,q.upd (r1:=.row id (O ⟨b,0,zc⟩) n n E size (qCA cells)) (nx:=hs.nx) Q rfl rfl rfl (zH _) (λ_ _ _=>rfl) ⟨⟨u,.inr ⟨b,n,_,rfl,zJ _,T,zH _,H,by simpa using u,?_⟩⟩,λaa hu=>?_⟩ (λc A=>.inl (by simpa[Res.bk]using A)) so⟩
    .rw[<-u];simp
    .rw[qgA]at hu;obtain⟨c,A,rfl⟩:=zU.1 hu;exact U c A
   .exact h.elim
  .exact h.elim
 .exact⟨_,_,h,rfl,q⟩
section
variable{P:zv}{t e ty:zAw}{i:TypeInfo}{z:zg}(hu:P.underlying t=O (.slice e))(hi:P.info? e=O i)(hz:i.zero=O z)(hzs:z.cells.size=i.size)
include hu hi hz hzs
def qbM{fr:Fr}{hs}{w}(D:Ap fr hs w){oa}{n cap m}{cs vs}(x)(h:cs.length=n*i.size)(V:∀j u,cs[j]?=O u->∃a,oa=O a/\w.cell? (a.add j)=O u)(E:∀u∈cs++vs,u.oneCell'=I)(q:vs.length=m*i.size)(W:∃a c,x=.slice (O a) m c/\∀j u,vs[j]?=O u->w.cell? (a.add j)=O u)(hm:0<m)(H:cap<n+m)(Y:oa=zc->n=0/\cap=0)(A:n+m<=zAp)(L:(n+m)*i.bytes<=140737488355328)(id nx):∃Q R w',(zBw #[t,t] ty #[.slice oa n cap,x]).run P w=.ok (.slice Q (n+m) R) w'/\Ap fr ⟨hs.g,.row id Q (n+m) R e i.size (cs++vs)::hs.rs,nx,hs.lo⟩ w':=by
 obtain⟨a,c,rfl,T⟩:=W;have U:(cs++vs).length=(n+m)*i.size:=by rw[zAx,h,q,zB1]
 have ad:n+m<=9223372036854775807:=by simp only[zAp]at A;omega
 cases oa with
 |none=>
  obtain⟨rfl,rfl⟩:=Y rfl;have:cs=[]:=by simpa using h
  subst this;have B:=run_append_nil (P:=P) w t ty e i z hu hi hz a m c vs q T hm sa (by simp only[zAr]at L;omega);simp only[zAr,zA9]at*;refine⟨_,_,_,B,D.Ep (qiF w _) (r:=.row id (O ⟨w.heap.size,0,zc⟩) m _ e i.size vs) ⟨?_,E⟩ (λb C=>by simp[Res.bk]at C;omega) so⟩;have:=qUE (e:=e) hzs (w:=w) (xs:=[]) (news:=vs) (n:=0) (m:=m) (cap:=0) (by simpa using U) (by simpa using A);simpa using this
 |some b=>
  have B:=run_append_grow (P:=P) w t ty e i z hu hi hz b n cap cs h (λj u aa=>by obtain⟨ae,ab,ac⟩:=V j u aa;cases ab;exact ac) a m c vs q T H sa (growslice_fits H L);exact⟨_,_,_,B,D.Ep (qiF w _) (r:=.row id (O ⟨w.heap.size,0,zc⟩) (n+m) _ e i.size (cs++vs)) ⟨qUE hzs U A,E⟩ (λb C=>by simp[Res.bk]at C;omega) so⟩
def qRZ{fr:Fr}{hs:Hs}{w:zp}{K:SV->Hs->Prop}{x:SV}{id:Z}{oa:zy zAI}{n cap m:Z}{A:zAw}{af:Z}{cs vs:F zg}(V:Ap fr hs w)(au:A=e)(av:af=i.size)(U:vs.length=m*i.size)(al:∀u∈vs,u.oneCell'=I)(am:(∃a c,Ag x=.slice (O a) m c/\∀j u,vs[j]?=O u->w.cell? (a.add j)=O u)\/(∃c,Ag x=.slice zc m c/\m=0))(aa:n+m<=zAp)(an:(n+m)*i.bytes<=140737488355328)(ag:qXB id hs.rs=O (oa,n,cap,A,af,cs)){id1 id2:Z}(h:∀B D,E0 B (n+m)->E7 id (O (.row id1 B (n+m) D A af (cs++vs))) hs.rs λrs'=>K (.row id1 B (n+m) D) ⟨hs.g,rs',id2,hs.lo⟩):∃w' W Y,(zBw #[t,t] ty #[Ag (.row id oa n cap),Ag x]).run P w=.ok (Ag W) w'/\Ap fr Y w'/\K W Y:=by
 subst au;subst av;have aw:m=0->vs=[]:=λah=>by subst ah;simpa using U
 obtain⟨⟨g1,g2⟩,ao⟩:=V.E2 ag
 have ai:∀u∈cs++vs,u.oneCell'=I:=λu hu=>by
  rcases zN.1 hu with hu|hu
  .exact ao u hu
  .exact al u hu
 have ab:(cs++vs).length=(n+m)*i.size:=by rw[zAx,g1,U,zB1]
 have fin:∀B D w',(zBw #[t,t] ty #[.slice oa n cap,Ag x]).run P w=.ok (.slice B (n+m) D) w'->
   (∀E H,hs.rs=E++.row id oa n cap A i.size cs::H->Ap fr ⟨hs.g,E++.row id1 B (n+m) D A i.size (cs++vs)::H,id2,hs.lo⟩ w')->
   ∃w' W Y,(zBw #[t,t] ty #[Ag (.row id oa n cap),Ag x]).run P w=.ok (Ag W) w'/\Ap fr Y w'/\K W Y:=λB D w' R ap=>by
  obtain⟨ax,ay,az⟩:=qZF ag;obtain⟨E,H,C,T⟩:=qsC (h B D ((ap ax ay az).Jy (List.mem_append_right _ (zAH ..)))) ag;exact⟨w',.row id1 B (n+m) D,_,R,ap E H C,T⟩
 by_cases hm:m=0
 .have aA:=aw hm;subst hm;subst aA
  have ac:n<=cap:=by
   rcases g2 with⟨L,rfl⟩|⟨g,aB,cur,L,_,_,ac,_⟩
   .exact zJ _
   .simp only[zAg]at L;omega
  refine fin oa cap w ?_ λE H C=>?_
  .rcases am with⟨a,c,Q,ad⟩|⟨c,Q,_⟩
   .rw[Q];simp[zBw,zL hu,sizeOf,typeInfo,hi,Builtin.lenOf,Builtin.firstCells,loadCells,loadCellsFrom,ac];cases oa<;>simp[storeCells]
   .rw[Q];simpa using qHC hu hi oa n cap c ac w
  .have:=V.upd (r1:=.row id1 oa (n+0) cap A i.size (cs++[])) (nx:=id2) C rfl rfl rfl (zH _) (λ_ _ _=>rfl) ⟨by simpa using⟨g1,g2⟩,by simpa using ao⟩ (λb q=>.inl q) (by cases oa<;>simp[Res.bk]);exact this
 .rcases am with⟨a,c,Q,ad⟩|⟨c,Q,ah⟩
  .rcases g2 with⟨L,rfl⟩|⟨g,aB,cur,L,aC,aj,ac,aD,aE,aq⟩
   .simp only[zAg]at L;obtain⟨rfl,_,rfl⟩:=L;have:cs=[]:=by simpa using g1
    subst this;have R:=run_append_nil (P:=P) w t ty A i z hu hi hz a m c vs U ad sa (by simp only[zAp]at aa;omega) (by simp only[zAr]at an;omega);refine fin (O ⟨w.heap.size,0,zc⟩) _ _ (by rw[Q,zAr];exact R) λE H C=>?_;have q:=qiF w (.cells (vs.toArray++Builtin.zeroCells z.cells (grownCap w m 0 A-m)) A);have aF:=qUE (e:=A) hzs (w:=w) (xs:=[]) (news:=vs) (n:=0) (m:=m) (cap:=0) (by simpa using ab) aa;refine V.upd C q.os q.tape q.output q.size (λk T _=>q.block k T) ⟨by simpa using aF,ai⟩ (λb q=>by simp[Res.bk]at q;omega) so
   .simp only[zAg]at L;obtain⟨rfl,_,rfl⟩:=L;by_cases ak:n+m<=cap
    .have aG:n*i.size+vs.length<=cur.size:=by rw[U,aE,<-zB1];exact zB8 _ ak
     have R:=run_append_room (P:=P) w t ty A i hu hi g n cap cur aj a m c vs U ad al ak aG;refine fin _ _ _ (by rw[Q];exact R) λE H C=>?_;refine V.upd C rfl rfl rfl se (λk _ T=>setRow_other w g k _ (by simpa[Res.bk]using T)) ⟨⟨ab,.inr ⟨g,cap,_,rfl,aC,setRow_heap w g cur _ A _ aj,ak,aD,?_,?_⟩⟩,ai⟩ (λb q=>.inl (by simpa[Res.bk]using q)) so
     .simp only[zDq,zAx,zBe,zBN,zDg];omega
     .rw[aq,<-ab];exact List.take_left
    .have ar:cap<n+m:=sa
     have aH:∀j u,cs[j]?=O u->w.cell? ((⟨g,0,zc⟩:zAI).add j)=O u:=λj u ae=>by
      rw[qoA,zAr,qJB aj,<-zCm];rw[<-aq,zBd]at ae;split at ae
      .exact ae
      .cases ae
     have R:=run_append_grow (P:=P) w t ty A i z hu hi hz ⟨g,0,zc⟩ n cap cs g1 aH a m c vs U ad ar (by simp only[zAp]at aa;omega) (growslice_fits ar an);refine fin _ _ _ (by rw[Q];exact R) λE H C=>?_;have q:=qiF w (.cells (cs.toArray++vs.toArray++Builtin.zeroCells z.cells (grownCap w (n+m) cap A-(n+m))) A);exact V.upd C q.os q.tape q.output q.size (λk T _=>q.block k T) ⟨qUE hzs ab aa,ai⟩ (λb q=>by simp[Res.bk]at q;omega) so
  .exact absurd ah hm
def qoT{s x}{hs}{K}(h:qRb e i.size i.bytes s x hs K){fr:Fr}{w}(B:Ap fr hs w):∃w' al am,(zBw #[t,t] ty #[Ag s,Ag x]).run P w=.ok (Ag al) w'/\Ap fr am w'/\K al am:=by
 rw[qeY]at h;obtain⟨m,A,h,U,W,H⟩:=qLO h B;have af:m=0->A=[]:=λD=>by subst D;simpa using U
 split at h
 .obtain⟨⟨Y,aa⟩,h⟩:=h;obtain⟨id1,id2,h⟩:=qNB h;by_cases hm:m=0
  .have ab:=af hm;subst hm;subst ab;refine⟨w,_,_,?_,B.Ep (Below.refl _ _) (r:=.row id1 zc 0 0 e i.size []) ⟨World.ownsRow_nil w 0 e i.size,λE hu=>by cases hu⟩ (λb ap=>by simp[Res.bk]at ap) so,h zc 0 λh=>absurd h sb⟩;rcases H with⟨a,c,q,L⟩|⟨c,q,_⟩
   .rw[q];simp[Ag,zBw,zL hu,sizeOf,typeInfo,hi,Builtin.lenOf,Builtin.firstCells,loadCells,loadCellsFrom]
   .rw[q];exact qHC hu hi zc 0 0 c (zH _) w
  .rcases H with⟨a,c,q,L⟩|⟨c,q,D⟩
   .obtain⟨Q,R,w',C,V⟩:=qbM hu hi hz hzs (ty:=ty) B (oa:=zc) (n:=0) (cap:=0) (cs:=[]) (Ag x) se (λj E ag=>by simp at ag) (by simpa using W) U ⟨a,c,q,L⟩ sa sa (λ_=>⟨rfl,rfl⟩) (by simpa using Y) (by simpa using aa) id1 id2;simp only[zAr,zA9]at C V;exact⟨w',.row id1 Q m R,_,C,V,h Q R (V.Jy (zAH ..))⟩
   .exact absurd D hm
 .rename_i id oa n cap _;split at h
  .rename_i Q aR R aT aU cs ah;obtain⟨⟨rfl,rfl,rfl,rfl,rfl⟩,⟨Y,aa⟩,h⟩:=h;obtain⟨id1,id2,h⟩:=qNB h;exact qRZ hu hi hz hzs (K:=K) (x:=x) B rfl rfl U W H Y aa ah h
  .exact h.elim
 .rename_i oa n cap _ _;rcases h with h|⟨b,cs,u,⟨rfl,ai,ac,aj,ad,aq,ar,au,av,aw,ax⟩,ae⟩|⟨b,cs,u,⟨rfl,ai,ac,aj,ad,ay,aW⟩,ae⟩
  rotate_right
  .have T:w.heap[b]?=O (.cells ⟨cs++u⟩ e (0,0)):=(B.AJ.2 b ac).trans aj;have az:n*i.size+A.length<=(⟨cs++u⟩:zS zg).size:=by simp[ad];omega
   have C:(zBw #[t,t] ty #[.slice (O ⟨b,0,zc⟩) n cap,Ag x]).run P w=.ok (.slice (O ⟨b,0,zc⟩) (n+m) cap) (w.setRow b ((cs++u).take (n*i.size)++A++(cs++u).drop (n*i.size+A.length)).toArray):=by
    rcases H with⟨a,c,q,L⟩|⟨c,q,D⟩
    .rw[q];exact run_append_room (P:=P) w t ty e i hu hi b n cap ⟨cs++u⟩ T a m c A U L W ay az
    .have ab:=af D;subst D;subst ab;rw[q];have:=qHC hu hi (ty:=ty) (O ⟨b,0,zc⟩) n cap c sa w;rw[this];have e1:(cs++u).take (n*i.size)++[]++(cs++u).drop (n*i.size+([]:F zg).length)=cs++u:=se
     rw[e1]
     have e2:w.setRow b (cs++u).toArray=w:=by
      have aA:∀f:Obj->Obj,f (.cells ⟨cs++u⟩ e (0,0))=.cells ⟨cs++u⟩ e (0,0)->w.heap.modify b f=w.heap:=λf ah=>by
       apply zDl;intro k;rw[Array.getElem?_modify];split
       .rename_i ak;subst ak;rw[T];exact zI O ah
       .rfl
      unfold World.setRow;rw[aA _ rfl]
     rw[e2];rfl
   have aB:(cs++u).take (n*i.size)++A++(cs++u).drop (n*i.size+A.length)=cs++A++u.drop A.length:=by
    rw[<-ad,List.take_left,List.drop_append];simp
   rw[aB]at C;obtain⟨aC,aD,aE⟩:=B.H9 (w':=w.setRow b (cs++A++u.drop A.length).toArray) ai ac rfl rfl rfl se (setRow_heap w b _ _ e _ T) (λk ak=>setRow_other w b k _ ak);exact⟨_,.v (.slice (O ⟨b,0,zc⟩) (n+m) cap),_,C,aE,ae aC aD⟩
  case inr.inl=>
   obtain⟨id1,id2,ae⟩:=qNB (ae _ (GW.Ie _ _));have T:w.heap[b]?=O (.cells ⟨cs++u⟩ e (0,0)):=(B.AJ.2 b ac).trans aj
   have aF:Ap fr ⟨hs.g.less b,.row hs.nx (O ⟨b,0,zc⟩) n cap e i.size cs::hs.rs,hs.nx,hs.lo⟩ w:=
    B.thaw (r:=.row hs.nx (O ⟨b,0,zc⟩) n cap e i.size cs) rfl ai ac ⟨⟨ad,.inr ⟨b,cap,_,rfl,zJ _,T,ar,au,by simpa using av,by simp[<-ad]⟩⟩,aq⟩
   exact qRZ hu hi hz hzs (id:=hs.nx) (hs:=⟨hs.g.less b,.row hs.nx (O ⟨b,0,zc⟩) n cap e i.size cs::hs.rs,hs.nx,hs.lo⟩) (K:=K) (x:=x) (id1:=id1) (id2:=id2) aF rfl rfl U W H aw ax (by simp only[qXB,Nat.beq_refl];rfl) (λaG aH aI=>by
    simp only[E7,Nat.beq_refl]
    exact ae aG aH aI)
  obtain⟨cs,⟨⟨g1,Q,R,an,ao,aX,aJ,q⟩,aK⟩,aL,aM⟩:=h;simp only[zAg,zBL]at an;obtain⟨rfl,rfl⟩:=an;by_cases hm:m=0
  .have ab:=af hm;subst hm;subst ab;refine⟨w,_,_,?_,B,aL rfl⟩;rcases H with⟨a,c,q,L⟩|⟨c,q,_⟩
   .rw[q];simp[Ag,zBw,zL hu,sizeOf,typeInfo,hi,Builtin.lenOf,Builtin.firstCells,loadCells,loadCellsFrom,ao];cases oa<;>simp[storeCells]
   .rw[q];exact qHC hu hi oa n cap c ao w
  .obtain⟨⟨T,Y,aa⟩,h⟩:=aM sa;obtain⟨id1,id2,h⟩:=qNB h;rcases H with⟨a,c,aN,L⟩|⟨c,q,D⟩
   .have aO:∀E∈cs++A,E.oneCell'=I:=λE hu=>by
     rcases zN.1 hu with hu|hu
     .exact aK E hu
     .exact W E hu
    obtain⟨Q,R,w',C,V⟩:=qbM hu hi hz hzs (ty:=ty) B (Ag x) g1 (λj E ag=>by obtain⟨aP,aQ,C⟩:=q j E ag;exact⟨aP,aQ,C.at B.AJ⟩) aO U ⟨a,c,aN,L⟩ sa T aJ Y aa id1 id2;exact⟨w',.row id1 Q (n+m) R,_,C,V,h Q R (V.Jy (zAH ..))⟩
   .exact absurd D hm
 .exact h.elim
def qTW{s x}{hs}{K}(h:Je e i.size i.bytes s x hs K){fr:Fr}{w}(q:Ap fr hs w):∃w' u A,(zBw #[t,t] ty #[Ag s,Ag x]).run P w=.ok (Ag u) w'/\Ap fr A w'/\K u A:=by
 obtain⟨E,h,q⟩:=qgK _ _ _ _ _ h q;obtain⟨H,h,q⟩:=qgK _ _ _ _ _ h q;obtain⟨L,Q,B,C,D⟩:=qnT h q;rw[<-C];exact qoT hu hi hz hzs B D
end
def q8V{d s}{hs}{K}(h:Ja d s hs K){P}{t t' ty e}(hu:P.underlying t=O (.slice e))(ah:qYB P e=O 1){fr:Fr}{w}(D:Ap fr hs w):∃w' Y aa,(Builtin.copy_ #[t,t'] ty #[Ag d,Ag s]).run P w=.ok (Ag Y) w'/\Ap fr aa w'/\K Y aa:=by
 obtain⟨m,C,ai,Q,R,ab⟩:=qLO h D;clear h;revert ai;intro h;rw[zCx]at Q;have ac:(P.info? e).map (·.size)=O 1:=ah;split at h
 .rename_i id az n cap;split at h
  .rename_i aA aB aC ad aD cs ae;obtain⟨⟨rfl,rfl,rfl,rfl,hm,aE⟩,h⟩:=h;obtain⟨aF,aG,aj,E⟩:=qsC h ae;obtain⟨⟨g1,g2⟩,ak⟩:=D.E2 ae;rw[zCx]at g1;rcases g2 with⟨T,rfl⟩|⟨g,aH,cur,T,al,H,am,an,ao,ap⟩
   .simp at g1;omega
   .simp only[zAg,zAh]at T;obtain⟨rfl,_,rfl⟩:=T;rcases ab with⟨a,c,U,V⟩|⟨c,_,aq⟩
    rotate_left
    .omega
    rw[zCx]at ao;have q:(C.take (min m n)).length=min m n:=by rw[zBe,Q];omega
    have aI:min m n<=cur.size:=sa
    have L:=run_copy_row (P:=P) w t t' ty e g 0 n cap a m c cur ad (C.take (min m n)) hu ac H q (λj u A=>by
     rw[zBd]at A;split at A
     .exact V j u A
     .cases A) (by rw[q];omega) (λu B=>R u (zBZ B))
    rw[q]at L;refine⟨_,.v (.int .i64 ((min m n:Z):zt)),_,by rw[U];exact L,?_,E⟩;have ar:cur.toList.take n=cs:=by rw[<-ap,zCx]
    refine D.upd aj rfl rfl rfl se (λk _ E=>setRow_other w g k _ (by simpa[Res.bk]using E)) ⟨⟨?_,.inr ⟨g,cap,_,rfl,al,setRow_heap w g cur _ ad _ H,am,an,?_,?_⟩⟩,λu B=>?_⟩ (λb W=>.inl (by simpa[Res.bk]using W)) so
    .rw[zAx,q,zBN];omega
    .simp[q];omega
    .have aJ:(C.take (min m n)++cs.drop (min m n)).length=n:=by rw[zAx,q,zBN];omega
     simp only[zBV,zA9,zAr,zCx];rw[List.take_append,q,<-ar,zCI,zAz (by rw[q];omega)]
    .rcases zN.1 B with B|B
     .exact R u (zBZ B)
     .exact ak u (zCu B)
  .exact h.elim
 .rename_i a n cap;obtain⟨b,cs,af,⟨rfl,au,ag,W,av,hm⟩,h⟩:=h;rcases ab with⟨a,c,U,V⟩|⟨c,_,aq⟩
  rotate_left
  .omega
  have q:(C.take (min m n)).length=min m n:=by rw[zBe,Q];omega
  have H:=(D.AJ.2 b ag).trans W
  have L:=run_copy_row (P:=P) w t t' ty e b 0 n cap a m c ⟨cs⟩ af (C.take (min m n)) hu ac H q (λj u A=>by
   rw[zBd]at A;split at A
   .exact V j u A
   .cases A) (by rw[q];simpa using av) (λu B=>R u (zBZ B))
  rw[q]at L;obtain⟨aw,ax,ay⟩:=D.H9 (w':=w.setRow b ((⟨cs⟩:zS zg).toList.take 0++C.take (min m n)++(⟨cs⟩:zS zg).toList.drop (0+min m n)).toArray) au ag rfl rfl rfl se (setRow_heap w b ⟨cs⟩ _ af _ H) (λk E=>setRow_other w b k _ E);refine⟨_,.v (.int .i64 ((min m n:Z):zt)),_,by rw[U];exact L,ay,h aw ?_⟩;simpa using ax
 .exact h.elim
def qTU{size}{x y}{hs}{K}(h:Ix size x y hs K){P}{t}(q:qYB P t=O size){fr:Fr}{w}(u:Ap fr hs w):∃w' A,(Instr.storeAt t (Ag x) (Ag y)).run P w=.ok () w'/\Ap fr A w'/\K (.v zAU) A:=by
 unfold Ix at h;split at h
 .exact qPK h q u
 .obtain⟨D,B,C⟩:=qrU h u;exact qPK B q C
def qsO{q:KyT}{hs:Hs}{K:SV->Hs->Prop}(h:I7 q hs K){P:zv}{t B:zAw}(C:GK P t=O (q,B)){a:zDz}{r:zy Operand}(u:q6R r=I){fr:Fr}{w:zp}(D:Ap fr hs w):∃w' s A,(Instr.makeMap t (r.map a.eval)).run P w=.ok (Ag s) w'/\Below w.heap.size w w'/\Ap fr A w'/\K s A:=by
 obtain⟨T,hu,U⟩:=qPI C;obtain⟨E,H,L,Q⟩:=hs;obtain⟨i,j,h⟩:=qNB (show qJC L λi j=>∀r,K (.mp i r) ⟨E,.mp i r q []::H,j,Q⟩from h);refine⟨_,.mp i w.heap.size,_,?_,Below.AT w (.map #[] 0),D.Ep (Below.AT w (.map #[] 0)) (r:=.mp i w.heap.size q []) ⟨World.alloc_heap_new w _,rfl⟩ (λb R=>by simp[Res.bk]at R;omega) so,h w.heap.size⟩;cases r with
 |none=>rfl
 |some x=>
  cases x with
  |const v=>
   cases v with
   |int k n=>simp[Instr.makeMap,Act.eval,zL hu,asInt,asIntOf,newObj,Ag];rfl
   |_=>simp[q6R]at u
  |_=>simp[q6R]at u
def qqO{C}{x k v}{hs}{K}(h:G1 C x k v hs K){P}{t T}(U:GK P t=O (C,T)){fr:Fr}{w}(D:Ap fr hs w):∃w' E,(Instr.mapUpdate t (Ag x) (Ag k) (Ag v)).run P w=.ok () w'/\Ap fr E w'/\K (.v zAU) E:=by
 obtain⟨ad,hu,u⟩:=qPI U;obtain⟨V,H,L,A⟩:=hs;unfold G1 at h;simp only at h;split at h
 .rename_i id r;split at h
  .rename_i n W;obtain⟨Y,Q⟩:=q2J W;split at h
   .rename_i ae B es aa;obtain⟨⟨rfl,_,ab⟩,h⟩:=h;obtain rfl:=qwK ab;have h:=qBD _ h;obtain⟨af,ag,A,ac⟩:=qtC h aa;obtain⟨q,R⟩:=D.res (.mp id r B es) (by show _∈H;rw[A];simp);obtain⟨e1,e2⟩:=Go.MapKept.heap_set (o':=.map ⟨mkE B 0 (CB n (Ag v) es)⟩ (CB n (Ag v) es).length) q;rw[Y];refine⟨_,_,qxI hu u q R Q (Ag v),?_,ac⟩;exact D.upd (hs:=⟨V,H,L,_⟩) (r1:=.mp id r B (CB n (Ag v) es)) (nx:=L) A rfl rfl rfl se (λk _ u=>e2 k (by simpa[Res.bk]using u)) ⟨e1,qwO Q R⟩ (λb q=>.inl (by simpa[Res.bk]using q)) so
   .exact h.elim
  .exact h.elim
 .exact h.elim
def Ap.IF{fr:Fr}{B}{u l1 D}{A E}{id r}{h}{es q}{w}(H:Ap fr ⟨B,u,A,E⟩ w)(e:u=l1++.mp id r h es::D)(L:h.fits q=I):Ap fr ⟨B,l1++.mp id r h q::D,A,E⟩ {w with heap:=w.heap.setIfInBounds r (.map ⟨mkE h 0 q⟩ q.length)}:=by
 obtain⟨C,R⟩:=H.res (.mp id r h es) (by show _∈u;rw[e];simp);obtain⟨e1,e2⟩:=Go.MapKept.heap_set (o':=.map ⟨mkE h 0 q⟩ q.length) C;exact H.upd (hs:=⟨B,u,A,_⟩) (r1:=.mp id r h q) (nx:=A) e rfl rfl rfl se (λk _ Q=>e2 k (by simpa[Res.bk]using Q)) ⟨e1,L⟩ (λb C=>.inl (by simpa[Res.bk]using C)) so
def qZV{L}{z}{x k}{hs}{K}(h:ID L z x k hs K){P}{t Q}(W:GK P t=O (L,Q))(hz:(P.info? Q).bind (·.zero)=O z){fr:Fr}{w}(A:Ap fr hs w):∃w' s R,(Instr.mapEntry t (Ag x) (Ag k)).run P w=.ok (Ag s) w'/\Ap fr R w'/\K s R:=by
 obtain⟨ah,hu,Y⟩:=qPI W;obtain⟨ai,aa,aj,ak⟩:=hs;unfold ID at h;simp only at h;split at h
 .rename_i id r;split at h
  .rename_i n ab;obtain⟨T,U⟩:=q2J ab;split at h
   .rename_i al ac es B;obtain⟨⟨rfl,_,ad⟩,o,V,h⟩:=h;obtain rfl:=qwK ad;obtain⟨am,an,hm⟩:=qXG B;obtain⟨ae,C⟩:=A.res (.mp id r ac es) (by show _∈aa;rw[hm];simp);have q:=qjJ hu Y ae C U hz;rw[V]at q;subst V;cases u:B5 n es with
    |some v=>
     rw[u]at h q;obtain⟨af,ag,D,E⟩:=qtC h B;have H:He n z es=es:=by unfold He;rw[u]
     rw[H]at q;rw[T];exact⟨_,.v (.tuple ⟨[v,.int .i64 (mIx n es)]⟩),_,by simpa only[Ag,zAG]using q,A.IF D C,E⟩
    |none=>
     rw[u]at h q;obtain⟨af,ag,D,E⟩:=qtC h B;have H:He n z es=es++[(n,z)]:=by unfold He;rw[u]
     rw[H]at q;rw[T];exact⟨_,.v (.tuple ⟨[z,.int .i64 es.length]⟩),_,by simpa only[Ag,Option.getD_none]using q,A.IF D (qCS U C),E⟩
   .exact h.elim
  .exact h.elim
 .exact h.elim
def qvV{x s v}{hs}{K}(h:Ii x s v hs K){P}{t}{fr:Fr}{w}(q:Ap fr hs w):∃w' u,(Instr.entryStore t (Ag x) (Ag s) (Ag v)).run P w=.ok () w'/\Ap fr u w'/\K (.v zAU) u:=by
 obtain⟨T,B,U,V⟩:=hs;unfold Ii at h;simp only at h;split at h
 .rename_i id r;split at h
  .rename_i k W;split at h
   .rename_i j;split at h
    .rename_i Y C es D;obtain⟨⟨rfl,E,H⟩,h⟩:=h;obtain rfl:=qTF E;have h:=qBD _ h;obtain⟨aa,ab,A,L⟩:=qtC h D;obtain⟨Q,R⟩:=q.res (.mp id r C es) (by show _∈B;rw[A];simp);exact⟨_,_,qAI Q (Nat.blt_eq.mp H) (Ag v),q.IF A (qxO R),L⟩
    .exact h.elim
   .exact h.elim
  .exact h.elim
 .exact h.elim
end Go.Proofs.YtlmhpamhhgogaaaGreat.Sx
namespace Go.Proofs.YtlmhpamhhgogaaaGreat.Sx
section
variable{P:zv}
def qIA{h:Type}(a:h):(pure a:Sem h).Calm P:=trivial
def qDA{q u:Type}{s:Sem q}{f:q->Sem u}(h:s.Calm P)(k:∀a,(f a).Calm P):(s>>=f).Calm P:=Calm.bind h k
def qQE{q u:Type}{s:Sem q}{f:q->u}(h:s.Calm P):(Functor.map f s).Calm P:=by rw[map_eq_pure_bind];exact qDA h λ_=>trivial
def qAB{q:Type}{f:zv->Sem q}(h:(f P).Calm P):(program>>=f).Calm P:=h
def qRD(a)(m:Mode):(load a m).Calm P:=λ_=>trivial
def qDD(a)(v)(m:Mode):(store a v m).Calm P:=trivial
def qCB(r):(getObj r).Calm P:=λ_=>trivial
def qSB(r)(o):(setObj r o).Calm P:=trivial
def qTB(o):(newObj o).Calm P:=λ_=>trivial
def qsD(r):(shape r).Calm P:=λ_=>trivial
def qED(a)(n):(freeze a n).Calm P:=trivial
def qgC(a):(frozen a).Calm P:=λ_=>trivial
def qgB(q:Question):(choose q).Calm P:=λ_=>trivial
def qQA{h:Type}(s:String):(stuck s:Sem h).Calm P:=trivial
def qaA{h:Type}(u:Unsupported):(unsupported u:Sem h).Calm P:=trivial
def qnC{h:Type}(v):(goPanic v:Sem h).Calm P:=trivial
def qFC(n):(askRoom n).Calm P:=by
 unfold askRoom;split
 .exact⟨se,se,trivial⟩
 .trivial
def GM{p:Prop}(h:p:=by
 repeat' with_reducible first
  |exact qIA .. |exact qQA .. |exact qaA .. |exact qnC .. |exact qRD .. |exact qDD .. |exact qCB .. |exact qSB .. |exact qTB .. |exact qsD .. |exact qED .. |exact qgC .. |exact qgB .. |exact qFC ..
  |refine qAB ?_|refine qDA ?_ λ_=>?_|refine qQE ?_|split|(intro _)|dsimp only|trivial):p:=h
def qKA(t):(underlying t).Calm P:=by unfold underlying;exact GM
def qrA(t):(typeInfo t).Calm P:=by unfold typeInfo;exact GM
def q2A(t):(sizeOf t).Calm P:=by unfold sizeOf;exact qDA (qrA t) λ_=>trivial
def q6E(t):(isAgg t).Calm P:=by unfold isAgg;exact qDA (qKA t) λ_=>GM
def qKB(t):(zAW t).Calm P:=by unfold zAW;exact qDA (qrA t) λ_=>GM
def qSE(a):∀(n i:Z)(h:zS zg),(loadCellsFrom a i n h).Calm P
 |0,_,_=>trivial
 |n+1,i,h=>qDA (qRD _ _) λ_=>qSE a n _ _
def q3B(a)(n):(loadCells a n).Calm P:=qSE a n 0 #[]
def q9A(a):∀(l:F zg)(i:Z),(storeCells a l i).Calm P
 |[],_=>trivial
 |_::l,i=>qDA (qDD _ _ _) λ_=>q9A a l _
def qAE(t):(elemOf t).Calm P:=by unfold elemOf;exact qDA (qKA t) λ_=>GM
def qfC(t)(c):(newRow t c).Calm P:=by unfold newRow;exact GM
def q8D(t)(v):(newVar t v).Calm P:=qfC _ _
def F8{p:Prop}(h:p:=by
 repeat' with_reducible first
  |exact qIA .. |exact qQA .. |exact qaA .. |exact qnC .. |exact qRD .. |exact qDD .. |exact qCB .. |exact qSB .. |exact qTB .. |exact qsD .. |exact qED .. |exact qgC .. |exact qgB .. |exact qFC .. |exact qKA .. |exact qrA .. |exact q2A .. |exact q6E .. |exact qKB .. |exact q3B .. |exact q9A .. |exact qAE .. |exact qfC .. |exact q8D ..
  |refine qAB ?_|refine qDA ?_ λ_=>?_|refine qQE ?_|split|(intro _)|dsimp only|trivial):p:=h
def qPA{h:Type}(e:RuntimeError):(runtimePanic e:Sem h).Calm P:=by unfold runtimePanic;exact F8
def qYC{h:Type}(k)(x y)(c:BoundsCode):(boundsPanic k x y c:Sem h).Calm P:=by
 unfold boundsPanic;dsimp only;split
 .exact qDA (qQE (qgB _)) λ_=>qPA _
 .exact qDA trivial λ_=>qPA _
def qSD(v):(asIntOf v).Calm P:=by unfold asIntOf;exact GM
def qFD(v):(asInt v).Calm P:=qDA (qSD v) λ_=>trivial
def qGD(v):(asBool v).Calm P:=by unfold asBool;exact GM
def qlD(v):(asString v).Calm P:=by unfold asString;exact GM
def q8G(v):(asAgg v).Calm P:=by unfold asAgg;exact GM
def qBE(v):(asAddr v).Calm P:=by unfold asAddr;split<;>first|trivial|exact qPA _
def qRE(t)(a):(loadVar t a).Calm P:=by unfold loadVar;exact F8
def qgD(t)(a)(v):(storeVar t a v).Calm P:=by unfold storeVar;exact F8
def qQD(t)(cs)(off):(part t cs off).Calm P:=by unfold part;exact F8
def q7D(r):(viewAt r).Calm P:=by unfold viewAt;exact F8
def q2C(r):(numberAt r).Calm P:=by unfold numberAt;exact F8
def qdF(a):(noView a).Calm P:=by unfold noView;refine qDA (q7D _) λ_=>?_;exact F8
def qMB(a):(behindNumber a).Calm P:=by unfold behindNumber;refine qDA (q2C _) λ_=>?_;exact F8
def qmD(a)(b):(asNumber a b).Calm P:=by unfold asNumber;exact F8
def q2B(a):(stringish a).Calm P:=by unfold stringish;exact F8
def q9B(a):(markStringish a).Calm P:=by unfold markStringish;exact F8
def qhD(a b):(mayBeOne a b).Calm P:=by
 unfold mayBeOne;refine qDA (q2B _) λ_=>qDA (q2B _) λ_=>?_;exact F8
def qmC(t):(typeStr t).Calm P:=by unfold typeStr;exact F8
def Lk{p:Prop}(h:p:=by
 repeat' with_reducible first
  |exact qIA .. |exact qQA .. |exact qaA .. |exact qnC .. |exact qRD .. |exact qDD .. |exact qCB .. |exact qSB .. |exact qTB .. |exact qsD .. |exact qED .. |exact qgC .. |exact qgB .. |exact qFC .. |exact qKA .. |exact qrA .. |exact q2A .. |exact q6E .. |exact qKB .. |exact q3B .. |exact q9A .. |exact qAE .. |exact qfC .. |exact q8D .. |exact qPA .. |exact qYC .. |exact qSD .. |exact qFD .. |exact qGD .. |exact qlD .. |exact q8G .. |exact qBE .. |exact qRE .. |exact qgD .. |exact qQD .. |exact q7D .. |exact q2C .. |exact qdF .. |exact qMB .. |exact qmD .. |exact q2B .. |exact q9B .. |exact qhD .. |exact qmC ..
  |refine qAB ?_|refine qDA ?_ λ_=>?_|refine qQE ?_|split|(intro _)|dsimp only|trivial):p:=h
def q1C(a b):(sameAddr a b).Calm P:=by unfold sameAddr;exact Lk
def qXC(a b):(samePointer a b).Calm P:=by unfold samePointer;split<;>first|exact q1C .. |trivial
def qgF(a):(byteOf a).Calm P:=by unfold byteOf;exact Lk
end
section
variable{P:zv}
def GL{p:Prop}(h:p:=by
 repeat' with_reducible first
  |exact qIA .. |exact qQA .. |exact qaA .. |exact qnC .. |exact qRD .. |exact qDD .. |exact qCB .. |exact qSB .. |exact qTB .. |exact qsD .. |exact qED .. |exact qgC .. |exact qgB .. |exact qFC .. |exact qKA .. |exact qrA .. |exact q2A .. |exact q6E .. |exact qKB .. |exact q3B .. |exact q9A .. |exact qAE .. |exact qfC .. |exact q8D .. |exact qPA .. |exact qYC .. |exact qSD .. |exact qFD .. |exact qGD .. |exact qlD .. |exact q8G .. |exact qBE .. |exact qRE .. |exact qgD .. |exact qQD .. |exact q7D .. |exact q2C .. |exact qdF .. |exact qMB .. |exact qmD .. |exact q2B .. |exact q9B .. |exact qhD .. |exact qmC .. |exact q1C .. |exact qXC .. |exact qgF ..
  |refine qAB ?_|refine qDA ?_ λ_=>?_|refine qQE ?_|split|(intro _)|dsimp only|trivial):p:=h
def qnI{q u:Type}{f:q->Sem u}(h:∀a,(f a).Calm P):∀l:F q,(l.mapM f).Calm P
 |[]=>by rw[List.mapM_nil];exact qIA _
 |a::l=>by
  rw[zCY];exact qDA (h a) λ_=>qDA (qnI h l) λ_=>trivial
def qQP{q u:Type}{f:q->Sem u}(h:∀a,(f a).Calm P)(l:zS q):(l.mapM f).Calm P:=by
 rw[zCs];exact qQE (qnI h _)
def qcE{u q:Type}{f:u->q->Sem (ForInStep q)}(h:∀a b,(f a b).Calm P):∀(l:F u)(b:q),(forIn l b f).Calm P
 |[],b=>by rw[List.forIn_nil];exact qIA _
 |a::l,b=>by
  rw[List.forIn_cons];refine qDA (h a b) λs=>?_;cases s with
  |done b=>exact qIA _
  |yield b=>exact qcE h l b
def q7E{u q:Type}{f:u->q->Sem (ForInStep q)}(h:∀a b,(f a b).Calm P)(l:zS u)(b:q):(forIn l b f).Calm P:=by
 rw[<-Array.forIn_toList];exact qcE h _ b
def qeF{q:Type}{f:Z->q->Sem (ForInStep q)}(h:∀a b,(f a b).Calm P)(r:Std.Legacy.Range)(b:q):(forIn r b f).Calm P:=by
 rw[Std.Legacy.Range.forIn_eq_forIn_range'];exact qcE h _ b
def qbG{u q:Type}{f:q->u->Sem q}(h:∀b a,(f b a).Calm P):∀(l:F u)(b:q),(l.foldlM f b).Calm P
 |[],b=>by rw[List.foldlM_nil];exact qIA _
 |a::l,b=>by rw[List.foldlM_cons];exact qDA (h b a) λ_=>qbG h l _
def qPH(t)(x y):(Builtin.unsafeAdd_ #[] t #[x,y]).Calm P:=by
 unfold Builtin.unsafeAdd_;cases x
 case pointer p=>
  show Sem.Calm P (asInt y>>=_);exact GL
 all_goals exact trivial
def qyQ(a)(c b):(partAt a c b).Calm P:=by unfold partAt;exact GL
def q9D(op)(k:FloatKind)(x y):(Op.floatArith op k x y).Calm P:=by unfold Op.floatArith;exact GL
def qfF(op)(k:FloatKind)(x y):(Op.floatCmp op k x y).Calm P:=by unfold Op.floatCmp;exact GL
def q8E(s:FloatKind)(b)(d:FloatKind):(Conv.floatToFloat s b d).Calm P:=by unfold Conv.floatToFloat;exact GL
def qQH(a b):(Op.twoPlaces a b).Calm P:=by unfold Op.twoPlaces;exact GL
def qbF(v):(Instr.sureAddr v).Calm P:=by unfold Instr.sureAddr;exact GL
def qeG(a)(f:Field):(fieldPlace a f).Calm P:=by
 unfold fieldPlace;refine qDA (q2A _) λ_=>?_;split
 .exact qyQ ..
 .trivial
def q7G(v):(Builtin.lenOf v).Calm P:=by unfold Builtin.lenOf;exact GL
def q3C(s n)(v):(Builtin.firstCells s n v).Calm P:=by unfold Builtin.firstCells;exact GL
def qaG(v)(y)(c:BoundsCode):(Instr.sliceBound v y c).Calm P:=by unfold Instr.sliceBound;exact GL
def F0{p:Prop}(h:p:=by
 repeat' with_reducible first
  |exact qIA .. |exact qQA .. |exact qaA .. |exact qnC .. |exact qRD .. |exact qDD .. |exact qCB .. |exact qSB .. |exact qTB .. |exact qsD .. |exact qED .. |exact qgC .. |exact qgB .. |exact qFC .. |exact qKA .. |exact qrA .. |exact q2A .. |exact q6E .. |exact qKB .. |exact q3B .. |exact q9A .. |exact qAE .. |exact qfC .. |exact q8D .. |exact qPA .. |exact qYC .. |exact qSD .. |exact qFD .. |exact qGD .. |exact qlD .. |exact q8G .. |exact qBE .. |exact qRE .. |exact qgD .. |exact qQD .. |exact q7D .. |exact q2C .. |exact qdF .. |exact qMB .. |exact qmD .. |exact q2B .. |exact q9B .. |exact qhD .. |exact qmC .. |exact q1C .. |exact qXC .. |exact qgF .. |exact qPH .. |exact q9D .. |exact qfF .. |exact qQH .. |exact q8E .. |exact qbF .. |exact qeG .. |exact q7G .. |exact q3C .. |exact qaG ..
  |refine qAB ?_|refine qDA ?_ λ_=>?_|refine qQE ?_|split|(intro _)|dsimp only|trivial):p:=h
def q9G(op)(k:FloatKind)(x y):(Op.Complex.arith op k x y).Calm P:=by unfold Op.Complex.arith;exact F0
def qRS(op)(k:FloatKind)(x y):(Op.Complex.cmp op k x y).Calm P:=by unfold Op.Complex.cmp;exact F0
def qJW(s:FloatKind)(x)(d:FloatKind):(Op.Complex.conv s x d).Calm P:=by unfold Op.Complex.conv;exact F0
def qPP(a b c d):(Op.Complex.product a b c d).Calm P:=by
 unfold Op.Complex.product Op.Complex.sub Op.Complex.mul Op.Complex.add
 repeat' first|exact q9G .. |refine qDA ?_ λ_=>?_|exact trivial
def qsL(s a b c d):(Op.Complex.corrected s a b c d).Calm P:=by
 unfold Op.Complex.corrected Op.Complex.sub Op.Complex.mul Op.Complex.add
 repeat' first|exact q9G .. |refine qDA ?_ λ_=>?_|exact trivial
def qmN(a b c d):(Op.Complex.quotient a b c d).Calm P:=by
 unfold Op.Complex.quotient Op.Complex.sub Op.Complex.mul Op.Complex.add Op.Complex.quo
 repeat' with_reducible first|exact q9G .. |exact qRS .. |exact qsL .. |exact qIA .. |refine qDA ?_ λ_=>?_|split|dsimp only
def qtL(op)(k:FloatKind)(a b c d):(Op.complexOp op k a b c d).Calm P:=by
 unfold Op.complexOp
 repeat' with_reducible first|exact q9G .. |exact qRS .. |exact qJW .. |exact qPP .. |exact qmN .. |exact qIA .. |exact qQA .. |refine qDA ?_ λ_=>?_|split|dsimp only
def qrJ(t)(x y):(movedNumber t x y).Calm P:=by unfold movedNumber;exact F0
def qGJ(t)(x y):(movedPointer t x y).Calm P:=by unfold movedPointer;exact F0
def qZP(k)(a b):(Op.addrSub k a b).Calm P:=by unfold Op.addrSub;exact F0
def qbP(op)(a b):(Op.addrCmp op a b).Calm P:=by unfold Op.addrCmp;exact F0
def qaP(k)(a)(n):(Op.addrMod k a n).Calm P:=by unfold Op.addrMod;exact F0
def qgT(op)(k)(x)(h)(y):(Op.shift op k x h y).Calm P:=by unfold Op.shift;exact F0
def qoI(op)(k)(x y):(Op.intArith op k x y).Calm P:=by unfold Op.intArith;exact F0
def q2Q(op)(k)(x y):(Op.intDiv op k x y).Calm P:=by unfold Op.intDiv;exact F0
def qbJ(op)(k)(x y):(Op.intBits op k x y).Calm P:=by unfold Op.intBits;exact F0
def q3Q(op)(x y):(Op.intCmp op x y).Calm P:=by unfold Op.intCmp;exact F0
def qcF(op)(x y):(Op.stringOp op x y).Calm P:=by unfold Op.stringOp;exact F0
def qcJ:∀(d:Z)(t:zAw)(x y:zg),(zDH d t x y).Calm P
 |0,_,_,_=>trivial
 |d+1,t,x,y=>by
  have h:=qcJ d;unfold zDH;refine qDA (qKA t) λq=>?_;split<;>repeat' with_reducible first|exact h .. |exact qIA .. |exact qQA .. |exact qaA .. |exact qMB .. |exact qgF .. |exact qrA .. |exact q1C .. |exact qXC .. |exact q2A .. |exact qgB .. |exact qPA .. |exact qmC .. |exact qQD .. |refine qAB ?_|refine q7E (λ_ _=>?_) .. |refine qeF (λ_ _=>?_) .. |refine qDA ?_ λ_=>?_|split|dsimp only
def qHJ(t)(x y):(Op.equal t x y).Calm P:=qcJ ..
def qTH:∀(d:Z)(t:zAw)(x y:zg),(Op.eqGuardIn d t x y).Calm P
 |0,_,_,_=>trivial
 |d+1,t,x,y=>by
  have h:=qTH d;unfold Op.eqGuardIn;refine qDA (qKA t) λq=>?_;split<;>repeat' with_reducible first|exact h .. |exact qIA .. |exact q2A .. |exact qQD .. |refine q7E (λ_ _=>?_) .. |refine qeF (λ_ _=>?_) .. |refine qDA ?_ λ_=>?_|split|dsimp only
def qdJ(op)(t)(x y)(a b):(eqGuard op t x y a b).Calm P:=by
 unfold eqGuard
 repeat' with_reducible first|exact qTH .. |exact qIA .. |exact qaA .. |refine qAB ?_|refine qDA ?_ λ_=>?_|split|dsimp only
def qYM(op)(t)(x y):(binOp op t x y).Calm P:=by
 unfold binOp;split<;>repeat' with_reducible first|exact qgT .. |exact qoI .. |exact q2Q .. |exact qbJ .. |exact q3Q .. |exact q9D .. |exact qfF .. |exact qtL .. |exact qcF .. |exact qHJ .. |exact qGJ .. |exact qrJ .. |exact qZP .. |exact qbP .. |exact qaP .. |exact qMB .. |exact qKA .. |exact qQA .. |exact qaA .. |exact qIA .. |refine qDA ?_ λ_=>?_|split|dsimp only
end
section
variable{P:zv}
def DF{p:Prop}(h:p:=by
 repeat' with_reducible first
  |exact qIA .. |exact qQA .. |exact qaA .. |exact qnC .. |exact qRD .. |exact qDD .. |exact qCB .. |exact qSB .. |exact qTB .. |exact qsD .. |exact qED .. |exact qgC .. |exact qgB .. |exact qFC .. |exact qKA .. |exact qrA .. |exact q2A .. |exact q6E .. |exact qKB .. |exact q3B .. |exact q9A .. |exact qAE .. |exact qfC .. |exact q8D .. |exact qPA .. |exact qYC .. |exact qSD .. |exact qFD .. |exact qGD .. |exact qlD .. |exact q8G .. |exact qBE .. |exact qRE .. |exact qgD .. |exact qQD .. |exact q7D .. |exact q2C .. |exact qdF .. |exact qMB .. |exact qmD .. |exact q2B .. |exact q9B .. |exact qhD .. |exact qmC .. |exact q1C .. |exact qXC .. |exact qgF .. |exact qPH .. |exact q9D .. |exact qfF .. |exact qQH .. |exact q8E .. |exact qbF .. |exact qeG .. |exact q7G .. |exact q3C .. |exact qaG .. |exact qdJ .. |exact qYM .. |exact qHJ .. |exact qoI .. |exact qbJ .. |exact qcF ..
  |refine qAB ?_|refine qDA ?_ λ_=>?_|refine qQE ?_|refine q7E (λ_ _=>?_) .. |refine qeF (λ_ _=>?_) .. |refine qQP (λ_=>?_) .. |split|(intro _)|dsimp only|trivial):p:=h
def qdB{q:Type}{t}{d:TypeDesc}{f:TypeDesc->Sem q}(h:P.underlying t=O d)(k:(f d).Calm P):(underlying t>>=f).Calm P:=by
 have:(underlying t).bind f=.program λp=>(match p.underlying t with|some d=>(pure d:Sem TypeDesc)|none=>stuck "no such type").bind f:=rfl;show Sem.Calm P ((underlying t).bind f);rw[this];show Sem.Calm P ((match P.underlying t with|some d=>(pure d:Sem TypeDesc)|none=>stuck "no such type").bind f);rw[h];exact k
def qaY{q:Type}{c:Prop}[Decidable c]{a b:Sem q}(h:a.Calm P)(k:b.Calm P):(if c then a else b).Calm P:=by split<;>assumption
def qWC(b)(l c)(lo h q):(Instr.sliceBounds b l c lo h q).Calm P:=by unfold Instr.sliceBounds;exact DF
def qkT(t)(b)(v):(Instr.alloc t b v).Calm P:=by unfold Instr.alloc;exact DF
def qbY(t)(v):(Instr.box t v).Calm P:=by unfold Instr.box;exact DF
def qjT(t)(ps):(Instr.build t ps).Calm P:=by unfold Instr.build;exact DF
def qGL(t)(n)(ps):(Instr.buildSlice t n ps).Calm P:=by unfold Instr.buildSlice;exact DF
def q1Q(t)(v):(zBq t v).Calm P:=by unfold zBq;exact DF
def qNP(t)(v x):(Instr.storeAt t v x).Calm P:=by unfold Instr.storeAt;exact DF
def qTP(t)(v)(f):(Instr.fieldAt t v f).Calm P:=by unfold Instr.fieldAt;exact DF
def qSP(t)(v i):(Instr.indexAt t v i).Calm P:=by unfold Instr.indexAt;exact DF
def qfT(t)(x)(lo h q):(Instr.slice t x lo h q).Calm P:=by
 unfold Instr.slice;refine qDA (qKA _) λ_=>?_;split
 .repeat' with_reducible first|exact qWC .. |exact qQA .. |exact qIA .. |refine qDA ?_ λ_=>?_|split|dsimp only
 .repeat' with_reducible first|exact qWC .. |exact q2A .. |exact qIA .. |refine qDA ?_ λ_=>?_|split|dsimp only
 .repeat' with_reducible first|exact qWC .. |exact q2A .. |exact qBE .. |exact qKA .. |exact qIA .. |exact qQA .. |refine qDA ?_ λ_=>?_|split|dsimp only
 .exact qQA _
def qOP(t)(x)(lo h q):(Instr.sliceAt t x lo h q).Calm P:=by
 unfold Instr.sliceAt;refine qDA (qKA _) λ_=>?_;split
 .repeat' with_reducible first|exact qWC .. |exact q2A .. |exact qbF .. |exact qIA .. |refine qDA ?_ λ_=>?_|split|dsimp only
 .exact qfT ..
def qiT(t)(x)(f):(Instr.field t x f).Calm P:=by unfold Instr.field;exact DF
def qhT(t)(x i):(Instr.index t x i).Calm P:=by unfold Instr.index;exact DF
def qUP(x)(i):(Instr.extract x i).Calm P:=by unfold Instr.extract;exact DF
def qpL(t)(l c):(Instr.makeSlice t l c).Calm P:=by unfold Instr.makeSlice;exact DF
def qRP(t)(r):(Instr.makeMap t r).Calm P:=by unfold Instr.makeMap;exact DF
def qeT(op:UnOp)(x):(Op.unary op x).Calm P:=by unfold Op.unary;exact DF
def qjD(e):∀(n:Z)(t:zAw)(v:zg),(Instr.checkKey e n t v).Calm P
 |0,_,_=>trivial
 |n+1,t,v=>by
  have h:=qjD e n;unfold Instr.checkKey;refine qDA (qKA t) λq=>?_;split<;>repeat' with_reducible first|exact h .. |exact qIA .. |exact qQA .. |exact qrA .. |exact q2A .. |exact qPA .. |exact qmC .. |exact qQD .. |refine q7E (λ_ _=>?_) .. |refine qeF (λ_ _=>?_) .. |refine qDA ?_ λ_=>?_|split|dsimp only
def qdG(t)(k):∀(l:F MapEntry)(i:Z),(Instr.findAsking t k l i).Calm P
 |[],_=>trivial
 |e::l,i=>by
  unfold Instr.findAsking;refine qDA (qHJ ..) λb=>?_;split
  .trivial
  .exact qdG t k l _
def qcG(t)(k)(l):(Instr.findKey t k l).Calm P:=by
 unfold Instr.findKey;refine qDA (qKA t) λh=>?_;split
 .trivial
 .exact qdG ..
def q5E(a b):(Instr.keyThatStays a b).Calm P:=by unfold Instr.keyThatStays;exact DF
def qRH(t)(m k v):(Instr.mapUpdate t m k v).Calm P:=by
 unfold Instr.mapUpdate
 repeat' with_reducible first|exact qKA .. |exact qQA .. |exact qPA .. |exact qCB .. |exact qSB .. |exact qjD .. |exact qcG .. |exact q5E .. |refine qDA ?_ λ_=>?_|split|dsimp only
def qoN(t)(m k):(Instr.mapEntry t m k).Calm P:=by
 unfold Instr.mapEntry
 repeat' with_reducible first|exact qKA .. |exact qQA .. |exact qIA .. |exact qPA .. |exact qCB .. |exact qSB .. |exact qjD .. |exact qcG .. |exact q5E .. |exact qKB .. |refine qDA ?_ λ_=>?_|split|dsimp only
def qFL(t)(m s v):(Instr.entryStore t m s v).Calm P:=by
 unfold Instr.entryStore
 repeat' with_reducible first|exact qQA .. |exact qFD .. |exact qCB .. |exact qSB .. |exact qaA .. |refine qDA ?_ λ_=>?_|split|dsimp only
def q0Q(t)(m k)(b):(Instr.lookup t m k b).Calm P:=by
 unfold Instr.lookup
 repeat' with_reducible first|exact qKA .. |exact qQA .. |exact qIA .. |exact qCB .. |exact qjD .. |exact qcG .. |exact qKB .. |refine qDA ?_ λ_=>?_|split|dsimp only
def qtF:∀(l:F FieldStep)(t:zAw)(x:zy zg),(followBlind l t x).Calm P
 |[],_,_=>trivial
 |s::l,t,x=>by
  have h:=qtF l;unfold followBlind
  repeat' with_reducible first|exact h .. |exact qKA .. |exact qQA .. |exact qIA .. |exact qQD .. |refine qDA ?_ λ_=>?_|split|dsimp only
def qmI:∀(n:Z)(t:zAw)(v:zg)(s:String),(nilAhead n t v s).Calm P
 |0,_,_,_=>trivial
 |n+1,t,v,s=>by
  have h:=qmI n;unfold nilAhead
  repeat' with_reducible first|exact h .. |exact qtF .. |exact qrA .. |exact qKA .. |exact qQA .. |exact qIA .. |refine qDA ?_ λ_=>?_|split|dsimp only
def qEL(s:FloatKind)(b)(k):(Conv.floatToInt s b k).Calm P:=by unfold Conv.floatToInt;exact DF
def qXP{s d}{a b}(hs:P.underlying s=O (.int a))(hd:P.underlying d=O (.int b))(x):(convert s d x).Calm P:=by
 unfold convert;refine qdB hs (qdB hd ?_);cases x<;>first|trivial|exact qEL .. |(rename_i p;cases p<;>trivial)
def qpI(x):(Conv.bytesToString x).Calm P:=by
 unfold Conv.bytesToString
 repeat' with_reducible first|exact qIA .. |exact qQA .. |exact q3B .. |refine q7E (λ_ _=>?_) .. |refine qDA ?_ λ_=>?_|split|dsimp only
def qWP{s d e}(hs:P.underlying s=O (.slice e))(hd:P.underlying d=O .string)(h:P.underlying e=O (.int .u8))(x):(convert s d x).Calm P:=by
 unfold convert;refine qdB hs (qdB hd ?_);cases x<;>first|exact qdB h (qpI _)|trivial
def qDL(a)(n):(Builtin.holdsCells a n).Calm P:=by unfold Builtin.holdsCells;exact DF
def qnN(s l n)(b)(x):(Builtin.mayShare s l n b x).Calm P:=by
 unfold Builtin.mayShare
 repeat' with_reducible first|exact qDL .. |exact qgC .. |exact qIA .. |refine qDA ?_ λ_=>?_|split|dsimp only
def qzQ:(mark .noRoom).Calm P:=⟨se,se,trivial⟩
def q6Q(h)(t)(xs):(zBw h t xs).Calm P:=by
 unfold zBw
 repeat' with_reducible first|exact qKA .. |exact q2A .. |exact qrA .. |exact qFD .. |exact qPA .. |exact qgB .. |exact q7G .. |exact q3C .. |exact qKB .. |exact q9A .. |exact qnN .. |exact qzQ|exact qaA .. |exact qFC .. |exact qfC .. |exact qIA .. |exact qQA .. |refine qDA ?_ λ_=>?_|refine qaY ?_ ?_|split|dsimp only
def qIW(h)(t)(xs):(Builtin.copy_ h t xs).Calm P:=by
 unfold Builtin.copy_
 repeat' with_reducible first|exact qKA .. |exact q2A .. |exact q7G .. |exact q3C .. |exact q9A .. |exact qIA .. |exact qQA .. |refine qDA ?_ λ_=>?_|split|dsimp only
def qZY(h)(t)(xs):(Builtin.len_ h t xs).Calm P:=by
 unfold Builtin.len_
 repeat' with_reducible first|exact qKA .. |exact qCB .. |exact qIA .. |exact qQA .. |refine qDA ?_ λ_=>?_|split|dsimp only
def qHW(x y):(Builtin.min2 x y).Calm P:=by
 unfold Builtin.min2
 repeat' with_reducible first|exact qgB .. |exact qcF .. |exact qGD .. |exact qIA .. |exact qQA .. |exact qaA .. |refine qDA ?_ λ_=>?_|split|dsimp only
def qYY(h)(t)(xs):(Builtin.min_ h t xs).Calm P:=by
 unfold Builtin.min_;split
 .trivial
 .exact qbG (λ_ _=>qHW ..) _ _
def qdT(l)(args):(Instr.yield l args).Calm P:=by
 unfold Instr.yield Instr.getLoop
 repeat' with_reducible first|exact qCB .. |exact qIA .. |exact qQA .. |refine qDA ?_ λ_=>?_|split|dsimp only
def qkD{f}{fn}(h:P.funcs[f]?=O fn)(q:fn.body.isSome=I)(args):(callFunc f args).Calm P:=by
 unfold callFunc;refine qAB ?_;have:fn.body.isNone=zb:=by cases u:fn.body<;>simp_all
 simp only[h,this,zA2,zCD];split<;>trivial
end
section
variable{P:zv}
def qjA{s:Sem zg}(h:s.Calm P):(do pure (Next.value (<-s)):Sem Next).Calm P:=qDA h λ_=>trivial
def q6G{s:Sem Unit}(h:s.Calm P):(do s;pure Next.skip:Sem Next).Calm P:=qDA h λ_=>trivial
def qfG{o:zDA}{B:SOp}{a:zDz}(q:Ea P o=O B)(D:∀f xs,B≠.Hm f xs):(zx a.eval o).Calm P:=by
 unfold Ea at q;split at q
 case h_1=>rename_i h;simp only[zx,h];trivial
 case h_2=>rename_i h;simp only[zx,h];trivial
 case h_3=>rename_i h;simp only[zx,h];exact qDA (qGD _) λ_=>trivial
 case h_4=>rename_i h;simp only[zx,h];exact qjA (qDA (qdJ ..) λ_=>qYM ..)
 case h_5=>rename_i h;simp only[zx,h];exact qjA (qeT ..)
 case h_6=>
  rename_i h;simp only[zx,h];split at q
  .rename_i hs A;exact qjA (qXP hs A _)
  .rename_i hs A;split at q
   .rename_i E;exact qjA (qWP hs A E _)
   .cases q
  .cases q
 case h_7=>rename_i h;simp only[zx,h];exact qjA (qhT ..)
 case h_8=>rename_i h;simp only[zx,h];exact qjA (qTP ..)
 case h_9=>rename_i h;simp only[zx,h];exact qjA (qiT ..)
 case h_10=>rename_i h;simp only[zx,h];exact qjA (qSP ..)
 case h_11=>rename_i h;simp only[zx,h];exact qjA (q1Q ..)
 case h_12=>
  rename_i x h;simp only[zx,h]
  repeat' with_reducible first|exact qPA .. |exact qmI .. |exact qaA .. |exact qIA .. |refine qAB ?_|refine qDA ?_ λ_=>?_|split|dsimp only
 case h_13=>rename_i h;simp only[zx,h];exact qjA (qUP ..)
 case h_14=>rename_i h;simp only[zx,h];exact qjA (by unfold Instr.makeFunc;exact qIA _)
 case h_15=>rename_i h;simp only[zx,h];exact qjA (qOP ..)
 case h_16=>rename_i h;simp only[zx,h];exact qjA (qjT ..)
 case h_17=>rename_i h;simp only[zx,h];exact q6G (qNP ..)
 case h_18=>rename_i h;simp only[zx,h];exact qjA (qkT ..)
 case h_19=>rename_i h;simp only[zx,h];exact qjA (qbY _ _)
 case h_20=>rename_i h;simp only[zx,h];exact qjA (qGL ..)
 case h_21=>rename_i h;simp only[zx,h];exact qjA (qpL ..)
 case h_22=>rename_i h;simp only[zx,h];exact qjA (qRP ..)
 case h_23=>rename_i h;simp only[zx,h];exact q6G (qRH ..)
 case h_24=>rename_i h;simp only[zx,h];exact q6G (qRH ..)
 case h_25=>rename_i h;simp only[zx,h];exact qjA (qoN ..)
 case h_26=>rename_i h;simp only[zx,h];exact q6G (qFL ..)
 case h_27=>rename_i h;simp only[zx,h];exact qjA (q0Q ..)
 case h_28=>
  rename_i c h;simp only[zx,h,resolve];split at q
  .rename_i u;rw[u];exact qjA (qZY ..)
  .rename_i u;rw[u];exact qjA (qYY ..)
  .rename_i u;rw[u];exact qjA (q6Q ..)
  .rename_i u;rw[u];exact qjA (qIW ..)
  .rename_i f u;rw[u];split at q
   .rename_i fn H;split at q
    .rename_i C;simp only[zl]at C;exact qkD H C.1 _
    .cases q
   .cases q
  .simp at q;subst q;exact absurd rfl (D _ _)
  .cases q
 case h_29=>cases q
end
end Go.Proofs.YtlmhpamhhgogaaaGreat.Sx
namespace Go.Proofs.YtlmhpamhhgogaaaGreat.Sx
open Go.RowKit
def qVE(a b c):qCA (a++b++c)=qCA a++qCA b++qCA c:=by simp[qYG]
def qpB{P}{f}(h:Gb P f)(args)(w):(callFunc f args).run P w=.ok (.enter f args) w:=by
 obtain⟨fn,q,B,u⟩:=h;have A:fn.body.isNone=zb:=by cases C:fn.body<;>simp_all
 simp only[callFunc,zZ,run_program,zAk,q,u,A,zA2,zCD,Sem.run_pure]
def qsA{P:zv}{E:Env P}{o:zDA}{a:zDz}{w w':zp}{next:zDz->zp->Prop}{r:zy Z}{v:zg}(q:(zx a.eval o).Calm P)(hd:∀c,o.op≠.defer c)(h:(zx a.eval o).run P w=.ok (.value v) w')(u:B8 E.N w w')(A:next (a.put o.dst v) w'):o.atX E r a w next:=by
 unfold Go.Oper.atX;rw[Oper.semAt_eq _ _ _ hd,h];exact⟨q,u,A⟩
def qmG{P:zv}{E:Env P}{o:zDA}{a:zDz}{w w':zp}{next:zDz->zp->Prop}{r:zy Z}(q:(zx a.eval o).Calm P)(hd:∀c,o.op≠.defer c)(h:(zx a.eval o).run P w=.ok .skip w')(u:B8 E.N w w')(A:next (a.put o.dst zAU) w'):o.atX E r a w next:=by
 unfold Go.Oper.atX;rw[Oper.semAt_eq _ _ _ hd,h];exact⟨q,u,A⟩
def qxL{P:zv}{E:Env P}{o:zDA}{a:zDz}{w:zp}{next:zDz->zp->Prop}{r:zy Z}{f:zA5}{args:zS zg}(hs:(zx a.eval o).Calm P)(hd:∀c,o.op≠.defer c)(h:(zx a.eval o).run P w=.ok (.enter f args) w)(u:BI E f args w λe q=>∃v,e=.returned v/\next (a.put o.dst v) q):o.atX E r a w next:=by
 unfold Go.Oper.atX;rw[Oper.semAt_eq _ _ _ hd,h];refine⟨hs,.refl _,u.mono ?_⟩;rintro e q ⟨v,rfl,A⟩;exact A
def qhS{P:zv}{E:Env P}{o:zDA}{a:zDz}{w:zp}{next:zDz->zp->Prop}{r:zy Z}{l:Z}{f:zA5}{tmps:zS zg}{assign q:zDE}(hs:(zx a.eval o).Calm P)(hd:∀c,o.op≠.defer c)(h:(zx a.eval o).run P w=.ok (.round l f tmps assign q) w)(A:DR E l f tmps assign q w λe u=>∃v,e=.returned v/\next (a.put o.dst v) u):o.atX E r a w next:=by
 unfold Go.Oper.atX;rw[Oper.semAt_eq _ _ _ hd,h];refine⟨hs,.refl _,A.mono ?_⟩;rintro e u ⟨v,rfl,B⟩;exact B
def qXM{P:zv}{o:zDA}{c:Call}{g:Operand}{a:zDz}{d:Deferred}(h:o.op=.call c)(q:c.callee=.value g)(u:zBH (a.eval g) (c.args.map a.eval)=pure d)(A:(invoke d.target d.args).Calm P):(zx a.eval o).Calm P:=by
 simp only[zx,h,resolve,q,u];exact A
def q4J{P:zv}{o:zDA}{c:Call}{g:Operand}{a:zDz}{k:zA5}{first h:zS zg}(q:o.op=.call c)(u:c.callee=.value g)(A:a.eval g=.func (.func k) first h)(B:Gb P k):(zx a.eval o).Calm P:=by
 obtain⟨fn,C,D,_⟩:=B;refine qXM (d:={target:=.fn (.func k) h,args:=first++c.args.map a.eval}) q u (by rw[A];rfl) ?_;exact qkD C D _
def qXY{P:zv}{o:zDA}{c:Call}{g:Operand}{a:zDz}{l:Z}{first h:zS zg}(q:o.op=.call c)(u:c.callee=.value g)(A:a.eval g=.func (.yield l) first h):(zx a.eval o).Calm P:=by
 refine qXM (d:={target:=.fn (.yield l) h,args:=first++c.args.map a.eval}) q u (by rw[A];rfl) ?_;exact qdT _ _
def qGE{P}{o}{q}(u:Ea P o=O q):(∀c,o.op≠.defer c)/\∀cs b,o.op≠.select cs b:=by
 refine⟨λc h=>?_,λcs b h=>?_⟩<;>simp[Ea,h]at u
def qsH(l):qCA (l.map SV.v)=l:=by simp[qgA,zCc,Ag]
def qPS{P:zv}{E:Env P}{fr:Fr}(ad:fr.has E){H:qNA}{Y:qUB}(aN:CC E fr H)(aH:FD E fr Y){o:zDA}{av:SOp}(q:Ea P o=O av)(B:av.reads=zb){sl:Sl}{a:zDz}(Q:qID sl a){hs:Hs}{K:SV->Hs->Prop}(h:chS P H Y av sl hs K){w:zp}(D:Ap fr hs w){next:zDz->zp->Prop}{r:zy Z}(aa:∀s W w',K s W->Ap fr W w'->next (a.put o.dst (Ag s)) w'):o.atX E r a w next:=by
 obtain⟨ab,_⟩:=qGE q;have ac:=λaO=>qfG (a:=a) q aO
 have aw:∀(f:zA5)(args:F SV)(ax:zS zg),ax=(qCA args).toArray->(zx a.eval o).Calm P->(zx a.eval o).run P w=.ok (.enter f ax) w->H Y f args hs K->o.atX E r a w next:=λf args ax am aP L U=>by
  subst am;refine qxL aP ab L ((aN Y aH f args hs K U w D).mono ?_);rintro e aQ ⟨v,W,rfl,u,A⟩;exact⟨_,rfl,aa _ _ _ A u⟩
 unfold Ea at q;split at q
 .simp at q;subst q;simp[SOp.reads]at B
 .simp at q;subst q;simp[SOp.reads]at B
 .simp at q;subst q;simp[SOp.reads]at B
 .exfalso;split at q<;>(try(split at q))<;>first|(cases q;done)|(simp at q;subst q;simp[SOp.reads]at B;done)|(obtain⟨ks,_,rfl⟩:=zD.1 q;simp[SOp.reads]at B)
 .simp at q;subst q;simp[SOp.reads]at B
 .exfalso;split at q<;>(try(split at q))<;>first|(cases q;done)|(simp at q;subst q;simp[SOp.reads]at B;done)|(obtain⟨ks,_,rfl⟩:=zD.1 q;simp[SOp.reads]at B)
 .exfalso;split at q<;>(try(split at q))<;>first|(cases q;done)|(simp at q;subst q;simp[SOp.reads]at B;done)|(obtain⟨ks,_,rfl⟩:=zD.1 q;simp[SOp.reads]at B)
 .exfalso;split at q<;>(try(split at q))<;>(try(split at q))<;>first|(cases q;done)|(simp at q;subst q;simp[SOp.reads]at B;done)|(obtain⟨ks,_,rfl⟩:=zD.1 q;simp[SOp.reads]at B)
 .exfalso;split at q<;>(try(split at q))<;>(try(split at q))<;>first|(cases q;done)|(simp at q;subst q;simp[SOp.reads]at B;done)|(obtain⟨ks,_,rfl⟩:=zD.1 q;simp[SOp.reads]at B)
 .exfalso;split at q<;>(try(split at q))<;>first|(cases q;done)|(simp at q;subst q;simp[SOp.reads]at B;done)|(obtain⟨ks,_,rfl⟩:=zD.1 q;simp[SOp.reads]at B)
 .exfalso;split at q<;>(try(split at q))<;>first|(cases q;done)|(simp at q;subst q;simp[SOp.reads]at B;done)|(obtain⟨ks,_,rfl⟩:=zD.1 q;simp[SOp.reads]at B)
 .simp at q;subst q;simp[SOp.reads]at B
 .simp at q;subst q;simp[SOp.reads]at B
 .simp at q;subst q;simp[SOp.reads]at B
 .exfalso;split at q<;>(try(split at q))<;>first|(cases q;done)|(simp at q;subst q;simp[SOp.reads]at B;done)|(obtain⟨ks,_,rfl⟩:=zD.1 q;simp[SOp.reads]at B)
 .exfalso;split at q<;>(try(split at q))<;>(try(split at q))<;>first|(cases q;done)|(simp at q;subst q;simp[SOp.reads]at B;done)|(obtain⟨ks,_,rfl⟩:=zD.1 q;simp[SOp.reads]at B)
 .rename_i t x y C;split at q
  .rename_i size an;simp at q;subst q;simp only[chS]at h;obtain⟨ah,T,e1⟩:=Opd.AC (k:=λx=>Opd.k hs.rs sl (qJA y) λy=>Ix size x y hs K) h Q;obtain⟨ay,R,e2⟩:=Opd.AC (k:=λy=>Ix size ah y hs K) T Q;obtain⟨w',W,L,u,A⟩:=qTU R an D;exact qmG (ac se) ab (by simp only[zx,C,e1,e2];exact qFX L) (D.keep u ad) (aa _ _ _ A u)
  .cases q
 .rename_i t C;split at q
  .rename_i z ae;simp at q;subst q;obtain⟨w',s,W,L,_,u,A⟩:=qNL (show qcM t (z.map SV.v) hs K from h) ae D;exact qsA (ac se) ab (by simp only[zx,C];exact q5C L) (D.keep u ad) (aa _ _ _ A u)
  .cases q
 .rename_i t x C;simp at q;subst q;simp only[chS]at h;obtain⟨ah,T,e1⟩:=Opd.AC (k:=λx=>IP t x hs K) h Q;obtain⟨w',s,W,L,_,u,A⟩:=qfP (P:=P) T D;exact qsA (ac se) ab (by simp only[zx,C,e1];exact q5C L) (D.keep u ad) (aa _ _ _ A u)
 .rename_i t len parts C;split at q
  .rename_i e ai;split at q
   .rename_i size z an ae;split at q
    .rename_i U;obtain⟨aR,aI,aT⟩:=U;simp at q;subst q;simp only[chS]at h;obtain⟨cells,A,az⟩:=q2G Q (λi=>O (i*size,size)) parts.toList _ _ se h
     obtain⟨w',s,W,L,_,u,A⟩:=qeP (P:=P) (t:=t) (parts:=parts.map λ(i,x)=>(i,a.eval x)) A ai an ae aT aI aR (by
      simp only[zDs];rw[<-az];congr 2
      rw[show(zAT len (List.map SV.v z)).flatten=((zAT len z).flatten).map SV.v by simp[List.map_flatten],qsH]) D
     exact qsA (ac se) ab (by simp only[zx,C];exact q5C L) (D.keep u ad) (aa _ _ _ A u)
    .cases q
   .cases q
  .cases q
 .rename_i t l c C;split at q
  .rename_i e ai;split at q
   .rename_i i z aA ae;split at q
    .rename_i U;simp at q;subst q;simp only[chS]at h;obtain⟨ah,T,e1⟩:=Opd.AC (k:=λx=>Opd.k hs.rs sl (qJA c) λy=>HE e i.size i.bytes z x y hs K) h Q;obtain⟨ay,R,e2⟩:=Opd.AC (k:=λy=>HE e i.size i.bytes z ah y hs K) T Q;obtain⟨w',s,W,L,_,u,A⟩:=qrO R ai aA ae U.2 D;exact qsA (ac se) ab (by simp only[zx,C,e1,e2];exact q5C L) (D.keep u ad) (aa _ _ _ A u)
    .cases q
   .cases q
  .cases q
 .rename_i t x C;split at q
  .rename_i af aB aj;split at q
   .rename_i aU;simp at q;subst q;obtain⟨w',s,W,L,_,u,A⟩:=qsO (a:=a) (show I7 af hs K from h) aj aU D;exact qsA (ac se) ab (by simp only[zx,C];exact q5C L) (D.keep u ad) (aa _ _ _ A u)
   .cases q
  .cases q
 .rename_i t m k v C;split at q
  .rename_i af aB aj;simp at q;subst q;simp only[chS]at h;obtain⟨ag,T,e1⟩:=Opd.AC (k:=λx=>Opd.k hs.rs sl (qJA k) λk=>Opd.k hs.rs sl (qJA v) λv=>G1 af x k v hs K) h Q;obtain⟨ar,R,e2⟩:=Opd.AC (k:=λk=>Opd.k hs.rs sl (qJA v) λv=>G1 af ag k v hs K) T Q;obtain⟨aJ,ao,e3⟩:=Opd.AC (k:=λv=>G1 af ag ar v hs K) R Q;obtain⟨w',W,L,u,A⟩:=qqO ao aj D;exact qmG (ac se) ab (by simp only[zx,C,e1,e2,e3];exact qFX L) (D.keep u ad) (aa _ _ _ A u)
  .cases q
 .rename_i t m k v C;split at q
  .rename_i af aB aj;simp at q;subst q;simp only[chS]at h;obtain⟨ag,T,e1⟩:=Opd.AC (k:=λx=>Opd.k hs.rs sl (qJA k) λk=>Opd.k hs.rs sl (qJA v) λv=>G1 af x k v hs K) h Q;obtain⟨ar,R,e2⟩:=Opd.AC (k:=λk=>Opd.k hs.rs sl (qJA v) λv=>G1 af ag k v hs K) T Q;obtain⟨aJ,ao,e3⟩:=Opd.AC (k:=λv=>G1 af ag ar v hs K) R Q;obtain⟨w',W,L,u,A⟩:=qqO ao aj D;exact qmG (ac se) ab (by simp only[zx,C,e1,e2,e3];exact qFX L) (D.keep u ad) (aa _ _ _ A u)
  .cases q
 .rename_i t m k C;split at q
  .rename_i af aB aj;split at q
   .rename_i z ae;simp at q;subst q;simp only[chS]at h;obtain⟨ag,T,e1⟩:=Opd.AC (k:=λx=>Opd.k hs.rs sl (qJA k) λk=>ID af z x k hs K) h Q;obtain⟨ar,R,e2⟩:=Opd.AC (k:=λk=>ID af z ag k hs K) T Q;obtain⟨w',s,W,L,u,A⟩:=qZV R aj ae D;exact qsA (ac se) ab (by simp only[zx,C,e1,e2];exact q5C L) (D.keep u ad) (aa _ _ _ A u)
   .cases q
  .cases q
 .rename_i t m s v C;simp at q;subst q;simp only[chS]at h;obtain⟨ag,T,e1⟩:=Opd.AC (k:=λx=>Opd.k hs.rs sl (qJA s) λs=>Opd.k hs.rs sl (qJA v) λv=>Ii x s v hs K) h Q;obtain⟨aC,R,e2⟩:=Opd.AC (k:=λs=>Opd.k hs.rs sl (qJA v) λv=>Ii ag s v hs K) T Q;obtain⟨aJ,ao,e3⟩:=Opd.AC (k:=λv=>Ii ag aC v hs K) R Q;obtain⟨w',W,L,u,A⟩:=qvV (t:=t) ao D;exact qmG (ac se) ab (by simp only[zx,C,e1,e2,e3];exact qFX L) (D.keep u ad) (aa _ _ _ A u)
 .exfalso;split at q<;>(try(split at q))<;>first|(cases q;done)|(simp at q;subst q;simp[SOp.reads]at B;done)
 .rename_i c C;split at q
  .exfalso;split at q<;>(try(split at q))<;>first|(cases q;done)|(simp at q;subst q;simp[SOp.reads]at B;done)|(obtain⟨ks,_,rfl⟩:=zD.1 q;simp[SOp.reads]at B)
  .exfalso;split at q<;>first|(cases q;done)|(simp at q;subst q;simp[SOp.reads]at B;done)|(obtain⟨ks,_,rfl⟩:=zD.1 q;simp[SOp.reads]at B)
  .rename_i U;split at q
   .rename_i s x t t' aD aE;split at q
    .rename_i e ai;split at q
     .rename_i i aA;split at q
      .rename_i al;obtain⟨rfl,aI,ae⟩:=al;simp at q;subst q;simp only[chS]at h;obtain⟨ah,T,e1⟩:=Opd.AC (k:=λs=>Opd.k hs.rs sl (qJA x) λy=>Je e i.size i.bytes s y hs K) h Q;obtain⟨ay,R,e2⟩:=Opd.AC (k:=λy=>Je e i.size i.bytes ah y hs K) T Q
       obtain⟨z,ae,aW⟩:∃z,i.zero=O z/\z.cells.size=i.size:=by
        cases aK:i.zero with
        |none=>simp[aK]at ae
        |some z=>exact⟨z,rfl,by simpa[aK]using ae⟩
       obtain⟨w',aC,W,L,u,A⟩:=qTW (ty:=o.type) ai aA ae aW R D;have aF:c.args=#[s,x]:=by apply zBl;simpa using aD
       have aG:c.argTypes=#[t,t]:=by apply zBl;simpa using aE
       refine qsA (ac se) ab ?_ (D.keep u ad) (aa _ _ _ A u);simp only[zx,C,resolve,U,aF,aG];simp[invoke,builtin,e1,e2,L,zAk]
      .cases q
     .cases q
    .cases q
   .cases q
  .rename_i U;split at q
   .rename_i d s t t' aD aE;split at q
    .rename_i e ai;split at q
     .rename_i an;simp at q;subst q;simp only[chS]at h;obtain⟨ah,T,e1⟩:=Opd.AC (k:=λd=>Opd.k hs.rs sl (qJA s) λy=>Ja d y hs K) h Q;obtain⟨ay,R,e2⟩:=Opd.AC (k:=λy=>Ja ah y hs K) T Q;obtain⟨w',aC,W,L,u,A⟩:=q8V (t':=t') (ty:=o.type) R ai an D;have aF:c.args=#[d,s]:=by apply zBl;simpa using aD
      have aG:c.argTypes=#[t,t']:=by apply zBl;simpa using aE
      refine qsA (ac se) ab ?_ (D.keep u ad) (aa _ _ _ A u);simp only[zx,C,resolve,U,aF,aG];simp[invoke,builtin,e1,e2,L,zAk]
     .cases q
    .cases q
   .cases q
  .rename_i f U;split at q
   .rename_i fn az;split at q
    .rename_i al;have ak:Gb P f:=⟨fn,az,by simp at al;simpa using al.1,by simp at al;simpa using al.2⟩
     have aX:(Opd.ks hs.rs sl (c.args.toList.map qJA) λargs=>H Y f args hs K)->o.atX E r a w next:=λh=>by
      obtain⟨args,A,aY⟩:=Opd.Er Q c.args.toList h;refine aw f args (c.args.map a.eval) (by apply zBl;simp[aY]) (by have:=ac;split at q<;>(simp at q;subst q;exact ac se)) ?_ A;have:=qpB ak (c.args.map a.eval) w;simp only[zx,C,resolve,U];simp[zBH,Act.eval,invoke]at this⊢;exact this
     split at q<;>(simp at q;subst q;simp only[chS]at h;exact aX h)
    .cases q
   .cases q
  .rename_i g _ U;simp at q;subst q;simp only[chS]at h;obtain⟨f,T,e1⟩:=Opd.AC (k:=λf=>Opd.ks hs.rs sl (c.args.toList.map qJA) λargs=>qcP P H Y f args hs K) h Q;obtain⟨args,R,e2⟩:=Opd.Er Q c.args.toList T;have am:c.args.map a.eval=(qCA args).toArray:=by apply zBl;simp[e2]
   unfold qcP at R;split at R
   .rename_i k first au
    obtain⟨ak,A⟩:=R;refine aw k _ ((qCA first).toArray++(qCA args).toArray++(qCA au).toArray) (by rw[qVE];simp) (q4J C U (by rw[e1];rfl) ak) ?_ A;have:=qpB ak ((qCA first).toArray++(qCA args).toArray++(qCA au).toArray) w;simp only[zx,C,resolve,U,e1,am];simp[zBH,Ag,invoke]at this⊢;exact this
   .rename_i k first au
    obtain⟨ak,A⟩:=R
    obtain⟨ap,aq,⟨rfl,rfl⟩,aZ⟩:∃ap aq,(qCA ap=first/\qCA aq=au)/\H Y k (ap++args++aq) hs K:=by
     split at A
     .exact⟨[],[],⟨rfl,rfl⟩,by simpa using A⟩
     .exact A
    refine aw k _ ((qCA ap).toArray++(qCA args).toArray++(qCA aq).toArray) (by rw[qVE];simp) (q4J C U (by rw[e1];rfl) ak) ?_ aZ;have:=qpB ak ((qCA ap).toArray++(qCA args).toArray++(qCA aq).toArray) w;simp only[zx,C,resolve,U,e1,am];simp[zBH,Ag,invoke]at this⊢;exact this
   .rename_i id l;split at R
    case h_2=>exact R.elim
    rename_i ba V j aL;obtain⟨rfl,A⟩:=R;obtain⟨a0,a1⟩:=aH fr (Fr.refl _) id args hs K A l V j w aL D;obtain⟨bb,bc,a2⟩:=qXT aL;have a3:w.heap[l]?=O (.loop (qQI V j)):=D.res (.lp id l V j) (by rw[a2];simp);have aM:(qQI V j).params=V.params:=by cases j<;>rfl
    have a4:(qQI V j).fn=V.fn:=by cases j<;>rfl
    have a5:(qQI V j).tmps=V.tmps:=by cases j<;>rfl
    have a6:(qQI V j).assign=V.assign:=by cases j<;>rfl
    have a7:(qQI V j).body=V.body:=by cases j<;>rfl
    refine qhS (qXY C U (by rw[e1];rfl)) ab (show(zx a.eval o).run P w=.ok (.round l V.fn (q8F V (qCA args).toArray) V.assign V.body) w from ?_) (a1.mono ?_)
    .have:=run_yield (P:=P) (args:=(qCA args).toArray) a3 (by rw[aM];simpa[qnA]using a0);rw[aM,a4,a5,a6,a7]at this;simp only[zx,C,resolve,U,e1,am];simp[zBH,Ag,invoke,q8F]at this⊢;exact this
    .rintro e aQ ⟨v,W,rfl,u,A⟩;exact⟨_,rfl,aa _ _ _ A u⟩
   .exact R.elim
  .cases q
 .cases q
def Ap.BW{fr:Fr}{g}{id}{oa}{n cap}{ety}{size}{cs}{rs}{nx lo}{w}(h:Ap fr ⟨g,.row id oa n cap ety size cs::rs,nx,lo⟩ w):∃g',g<=g'/\(∀a,oa=O a->¬g.g a.block)/\Br g' lo ety size (.slice oa n cap) n cs/\Ap fr ⟨g',rs,nx,lo⟩ w:=by
 obtain⟨s,B,⟨g',q,u,A,rfl⟩,_,C⟩:=qII (x:=.row id oa n cap) (K:=λ_ B=>∃g',g<=g'/\(∀a,oa=O a->¬g.g a.block)/\Br g' lo ety size (.slice oa n cap) n cs/\B=⟨g',rs,nx,lo⟩) (by
  simp only[qtU,norm,qXB,E7,Nat.beq_refl]
  exact⟨⟨trivial,trivial,trivial⟩,λg' q u A=>⟨g',q,u,A,rfl⟩⟩) h
 exact⟨g',q,u,A,C⟩
def I5(x:SV)(hs:Hs)(K:SV->Hs->Prop):Prop:=match x with
 |.sl a b o n m=>I4 (.sl a b o n m) hs λh=>IB (.sl a b o n m) h K
 |x=>IB x hs K
def qeO(f:SV->Hs->(SV->Hs->Prop)->Prop)(l:F SV)(hs:Hs)(K:F SV->Hs->Prop):Prop:=match l with
 |[]=>K [] hs
 |x::r=>f x hs λh q=>qeO f r q λu A=>K (h::u) A
def qsU(f:SV->Hs->(SV->Hs->Prop)->Prop)(x:SV)(hs:Hs)(K:SV->Hs->Prop):Prop:=match x with
 |.agg l=>qeO f l hs λh q=>K (.agg h) q
 |.tup l=>qeO f l hs λh q=>K (.tup h) q
 |x=>I5 x hs K
def Gv(x:SV)(hs:Hs)(K:SV->Hs->Prop):Prop:=qsU (qsU (qsU I5)) x hs K
def qwZ(l:F SV)(hs:Hs)(K:F SV->Hs->Prop):Prop:=qeO Gv l hs K
def IT(f:SV->Hs->(SV->Hs->Prop)->Prop):Prop:=∀(x:SV){hs:Hs}{K:SV->Hs->Prop}{h:Fr}{w:zp},f x hs K->Ap h hs w->∃s q,K s q/\Ag s=Ag x/\Ap h q w
def qfO:IT I5:=by
 intro x hs K B w h q;unfold I5 at h;split at h
 .obtain⟨C,u,A⟩:=qgK _ _ _ _ _ h q;exact qII u A
 .exact qII h q
def qxG{f}(A:IT f):∀(l:F SV){hs:Hs}{K:F SV->Hs->Prop}{fr:Fr}{w:zp},qeO f l hs K->Ap fr hs w->∃B h,K B h/\qCA B=qCA l/\Ap fr h w
 |[],hs,K,fr,w,q,u=>⟨[],hs,by simpa only[qeO]using q,rfl,u⟩
 |x::r,hs,K,fr,w,q,u=>by
  obtain⟨C,h,H,L,P⟩:=A x (K:=λC h=>qeO f r h λD E=>K (C::D) E) (by simpa only[qeO]using q) u;obtain⟨D,E,Q,R,T⟩:=qxG A r H P;exact⟨_,_,Q,by simp[qCA,L,R],T⟩
def q1I{f}(C:IT f):IT (qsU f):=by
 intro x hs K H w h q;unfold qsU at h;split at h
 .obtain⟨D,E,u,A,B⟩:=qxG C _ h q;exact⟨_,_,u,by simp[Ag,A],B⟩
 .obtain⟨D,E,u,A,B⟩:=qxG C _ h q;exact⟨_,_,u,by simp[Ag,A],B⟩
 .exact qfO _ h q
def qeR:IT Gv:=λx _ _ _ _ h q=>q1I (q1I (q1I qfO)) x h q
def qEG(x){hs}{K}{fr:Fr}{w}(h:Gv x hs K)(u:Ap fr hs w):∃s q,K s q/\Ag s=Ag x/\Ap fr q w:=qeR x h u
def q7L(l){hs}{K}{fr:Fr}{w}(h:qwZ l hs K)(A:Ap fr hs w):∃q u,K q u/\qCA q=qCA l/\Ap fr u w:=qxG qeR l h A
def K7(x:SV):zO:=match x with
 |.p _ _ _=>I
 |_=>zb
def qtd(l:F SV):zO:=match l with
 |[]=>zb
 |x::r=>match K7 x with
  |true=>I
  |false=>qtd r
def L4(x:SV):zO:=match x with
 |.agg l=>qtd l
 |x=>K7 x
def qSb(l:F SV):zO:=match l with
 |[]=>zb
 |x::r=>match L4 x with
  |true=>I
  |false=>qSb r
def Res.inG(r:Res)(g:GW):Prop:=match r with
 |.blk _ b _ cells=>∀j h,(qCA cells)[j]?=O h->Rc g ⟨b,j,zc⟩ h
 |_=>True
def Ga(g:GW):F Res->Prop
 |[]=>True
 |r::h=>r.inG g/\Ga g h
def Ga.of{g}:∀{rs:F Res},(∀r∈rs,r.inG g)->Ga g rs
 |[],_=>trivial
 |r::rs,h=>⟨h r (zAH ..),Ga.of λx q=>h x (zAF _ q)⟩
def OkW(P:zv)(f:zA5)(vs:F zg)(g:GW)(rs:F Res)(v:zg):Prop:=∀h,g<=h->Ga h rs->OkV P f vs h v
def rsId(id:Z):F Res->zy (Z×F SV)
 |[]=>zc
 |.blk i b _ cs::r=>if zAL i id then O (b,cs)else rsId id r
 |.row _ _ _ _ _ _ _::r=>rsId id r
 |.lp _ _ _ _::r=>rsId id r
 |.mk _::r=>rsId id r
 |.mp _ _ _ _::r=>rsId id r
def Ga.cel{g:GW}{id b:Z}{cs:F SV}{u:zg}:∀{rs:F Res},Ga g rs->rsId id rs=O (b,cs)->∀k,(qCA cs)[k]?=O u->Rc g ⟨b,k,zc⟩ u
 |.blk i c t A::r,h,e,k,q=>by
  simp only[rsId]at e;split at e
  .cases e;exact h.1 k u q
  .exact Ga.cel h.2 e k q
 |.row _ _ _ _ _ _ _::r,h,e,k,q=>Ga.cel (rs:=r) h.2 e k q
 |.lp _ _ _ _::r,h,e,k,q=>Ga.cel (rs:=r) h.2 e k q
 |.mk _::r,h,e,k,q=>Ga.cel (rs:=r) h.2 e k q
 |.mp _ _ _ _::r,h,e,k,q=>Ga.cel (rs:=r) h.2 e k q
def OkW.calls{P:zv}{E:Env P}{f:zA5}{vs:F zg}{hs:Hs}{v:zg}(h:OkW P f vs hs.g hs.rs v){fr:Fr}(C:fr.has E){w:zp}(q:Ap fr hs w):BI E f vs.toArray w λe w'=>∃v',e=.returned v'/\Below w.heap.size w w'/\v'=v:=by
 refine h (hs.g.more w hs.bks) (GW.Gn q.AJ _) (Ga.of λr u=>?_) w (Good.refl _) E (q.N C);have A:=q.res r u;cases r with
 |blk id b L cells=>
  intro j D H;have B:b∈hs.bks:=zBM.2 ⟨_,u,so⟩;refine⟨⟨q.lt B,.inr B⟩,?_⟩;simp only[Res.holds]at A;show w.cell? ⟨b,j,zc⟩=O D;unfold World.cell?;simp[A.1,H]
 |_=>trivial
def okK(P:zv)(f:zA5)(K:SV->Hs->Prop)(A:F SV)(D:Hs):Prop:=match D with
 |⟨h,q,B,C⟩=>match qSb A with
  |true=>qyC A λu=>∃v,OkW P f u h q v/\K (.v v) ⟨h,q,B,C⟩
  |false=>qyC A λu=>(∃v,OkV P f u h v/\K (.v v) ⟨h,q,B,C⟩)\/Ok P f u h λv E=>K (.v v) ⟨E,q,B,C⟩
def okH(P:zv):qNA:=λ_ f args hs K=>qwZ args hs (okK P f K)
def G6{P:zv}(E:Env P)(H:qNA):Prop:=∀A f args hs K,H A f args hs K->∀h w,h.has E->Ap h hs w->
 BI E f (qCA args).toArray w λe q=>∃v u,e=.returned (Ag v)/\Below w.heap.size w q/\Ap h u q/\K v u
def G6.snd{P:zv}{E:Env P}{H:qNA}(h:G6 E H)(fr:Fr)(u:fr.has E):CC E fr H:=λA _ f args hs K q w B=>
 (h A f args hs K q fr w u B).mono λ_ _⟨v,C,D,_,L,q⟩=>⟨v,C,D,L,q⟩
def qZA{P}(E:Env P):G6 E (okH P):=λT f args hs K u U w D L=>by
 obtain⟨V,Q,u,R,h⟩:=q7L args u L;rw[<-R];obtain⟨W,Y,aa,ab⟩:=Q;unfold okK at u;simp only at u;split at u
 .obtain⟨v,A,B⟩:=qRB _ u;refine(A.calls D h).mono ?_;rintro e H ⟨C,rfl,q,rfl⟩;exact⟨.v C,_,rfl,q,h.agree q,B⟩
 rcases qRB _ u with⟨v,A,B⟩|A
 .refine(A w h.AJ E (h.N D)).mono ?_;rintro e H ⟨C,rfl,q,rfl⟩;exact⟨.v C,_,rfl,q,h.agree q,B⟩
 .refine(A w h.AJ E (h.N D)).mono ?_;rintro e H ⟨C,rfl,q,B⟩;exact⟨.v C,_,rfl,q,h.called q,B⟩
structure CY where
 dst:zy Z
 op:SOp
 g:zy (Z×zO)
 deriving Inhabited
def opS(P:zv)(H:qNA)(Y:qUB)(o:SOp)(sl:Sl)(hs:Hs)(K:SV->Hs->Prop):Prop:=match o.reads with
 |true=>rdS o sl hs λx=>K x hs
 |false=>chS P H Y o sl hs K
def qSG(sl:Sl)(g:zy (Z×zO))(h q:Sl->Prop):Prop:=match g with
 |none=>h sl
 |some (d,u)=>match AS sl d with
  |some (.b I)=>match u with
   |true=>h sl
   |false=>q sl
  |some (.b zb)=>match u with
   |true=>q sl
   |false=>h sl
  |some (.v (.bool c))=>match u with
   |true=>(c=I->h ((d,.b I)::sl))/\(c=zb->q ((d,.b zb)::sl))
   |false=>(c=I->q ((d,.b I)::sl))/\(c=zb->h ((d,.b zb)::sl))
  |some (.v (.tuple _))=>q sl
  |_=>zX
def qkB(dst:zy Z)(sl:Sl)(x:SV)(k:Sl->Prop):Prop:=match dst with
 |some d=>k ((d,x)::sl)
 |none=>k sl
def LM(P:zv)(H:qNA)(Y:qUB)(o:CY)(ih:Sl->Hs->(Sl->Hs->Prop)->Prop)(sl:Sl)(hs:Hs)(K:Sl->Hs->Prop):Prop:=qSG sl o.g
  (λsl=>opS P H Y o.op sl hs λx h=>qkB o.dst sl x λsl=>ih sl h K)
  (λsl=>qkB o.dst sl (.v zAU) λsl=>ih sl hs K)
def LL(sl:Sl)(hs:Hs)(K:Sl->Hs->Prop):Prop:=K sl hs
def Gt(P:zv)(H:qNA)(Y:qUB)(ops:F CY):Sl->Hs->(Sl->Hs->Prop)->Prop:=
 List.rec (motive:=λ_=>Sl->Hs->(Sl->Hs->Prop)->Prop) LL (λo _ h=>LM P H Y o h) ops
def qhU{P}{H}{Y}{o}{r}{sl}{hs}{K}:Gt P H Y (o::r) sl hs K=qSG sl o.g (λsl=>opS P H Y o.op sl hs λx h=>qkB o.dst sl x λsl=>Gt P H Y r sl h K) (λsl=>qkB o.dst sl (.v zAU) λsl=>Gt P H Y r sl hs K):=rfl
def qFE(P:zv)(nt:Z)(ops:zS zDA)(o:zDA):zy CY:=match Ea P o with
 |none=>zc
 |some h=>if(o.dst.all λd=>decide (d<nt))then match o.guard with
  |none=>O ⟨o.dst,h,zc⟩
  |some (j,b)=>match(ops[j]?).bind (·.dst)with
   |some d=>O ⟨o.dst,h,O (d,b)⟩
   |none=>zc
  else zc
def qgJ(P:zv)(nt:Z)(ops:zS zDA):F Z->zy (F CY)
 |[]=>O []
 |i::h=>match ops[i]? with
  |none=>zc
  |some o=>match qFE P nt ops o with
   |none=>zc
   |some q=>match qgJ P nt ops h with
    |none=>zc
    |some r=>O (q::r)
structure Pin where
 D:F Deferred
 ds:F Z
 t:zS zg
structure Sim(nt:Z)(D:Pin)(sl:Sl)(a:zDz):Prop where
 size:a.tmps.size=nt
 defers:a.defers=D.D
 As:qID sl a
 off:∀n,n∉D.ds->a.tmps[n]?=D.t[n]?
def qZE:F CY->F Z
 |[]=>[]
 |o::r=>match o.dst with
  |some d=>d::qZE r
  |none=>qZE r
def qYO{o:CY}{r:F CY}{u:F Z}(h:∀d∈qZE (o::r),d∈u):(∀d,o.dst=O d->d∈u)/\∀d∈qZE r,d∈u:=by
 simp only[qZE]at h;split at h
 .rename_i d A;exact⟨λB q=>h _ (by rw[A]at q;cases q;simp),λB q=>h _ (by simp[q])⟩
 .rename_i A;exact⟨λB q=>(by rw[A]at q;cases q),h⟩
def Sim.put{nt}{D}{sl}{a}(h:Sim nt D sl a){d}(hd:d<nt)(B:d∈D.ds)(x):Sim nt D ((d,x)::sl) (a.put (O d) (Ag x)):=by
 refine⟨by simp[zBf,h.size],by simp[zBf,h.defers],λn y u=>?_,λn q=>?_⟩;rotate_left
 .have A:d≠n:=λe=>q (e▸B);simp only[zBf];rw[zM A];exact h.off n q
 simp only[AS]at u;cases q:zAL d n with
 |true=>
  rw[q]at u;obtain rfl:=zP q;simp at u;subst u;have:d<a.tmps.size:=by rw[h.size];exact hd
  simp[zBf,this]
 |false=>
  rw[q]at u;have A:d≠n:=zCi q;simp only[zBf];rw[zM A];exact h.As n y u
def Sim.same{nt}{D}{sl}{a}(h:Sim nt D sl a){d}{x y}(A:AS sl d=O x)(B:Ag y=Ag x):Sim nt D ((d,y)::sl) a:=by
 refine⟨h.size,h.defers,λn z q=>?_,h.off⟩;simp only[AS]at q;cases u:zAL d n with
 |true=>
  rw[u]at q;obtain rfl:=zP u;simp at q;subst q;rw[B];exact h.As d x A
 |false=>rw[u]at q;exact h.As n z q
def qnH{nt}{D}{sl}{a}{E H}{o}{L}{ops}{P}(q:qFE P nt ops o=O L)(hs:Sim nt D sl a)(h:qSG sl L.g E H):(zAl o (yielded ops a.tmps)=I/\∃sl',E sl'/\Sim nt D sl' a)\/(zAl o (yielded ops a.tmps)=zb/\∃sl',H sl'/\Sim nt D sl' a):=by
 unfold qFE at q;split at q
 .cases q
 .split at q
  .split at q
   .rename_i C;simp at q;subst q;exact .inl ⟨by simp[zAl,C],sl,h,hs⟩
   .rename_i j b C;split at q
    .rename_i d Q;simp at q;subst q
     have B:∀v,a.tmps[d]?=O v->yielded ops a.tmps j=match v with|.bool x=>O x|_=>zc:=λv R=>by
      simp only[yielded,Q,zCN,R];cases v<;>rfl
     have A:zAl o (yielded ops a.tmps)=(yielded ops a.tmps j==O b):=by simp[zAl,C]
     simp only[qSG]at h;split at h
     .rename_i u;have:=B _ (hs.As d _ u);cases b with
      |true=>exact .inl ⟨by rw[A,this];rfl,sl,h,hs⟩
      |false=>exact .inr ⟨by rw[A,this];rfl,sl,h,hs⟩
     .rename_i u;have:=B _ (hs.As d _ u);cases b with
      |true=>exact .inr ⟨by rw[A,this];rfl,sl,h,hs⟩
      |false=>exact .inl ⟨by rw[A,this];rfl,sl,h,hs⟩
     .rename_i c u;have:=B _ (hs.As d _ u);cases b with
      |true=>
       cases c with
       |true=>exact .inl ⟨by rw[A,this];rfl,_,h.1 rfl,hs.same u rfl⟩
       |false=>exact .inr ⟨by rw[A,this];rfl,_,h.2 rfl,hs.same u rfl⟩
      |false=>
       cases c with
       |true=>exact .inr ⟨by rw[A,this];rfl,_,h.1 rfl,hs.same u rfl⟩
       |false=>exact .inl ⟨by rw[A,this];rfl,_,h.2 rfl,hs.same u rfl⟩
     .rename_i u;have:=B _ (hs.As d _ u);exact .inr ⟨by rw[A,this];rfl,sl,h,hs⟩
     .exact h.elim
    .cases q
  .cases q
def qkE{P}{nt}{ops}{o}{q}(h:qFE P nt ops o=O q):Ea P o=O q.op/\q.dst=o.dst/\∀d,o.dst=O d->d<nt:=by
 unfold qFE at h;split at h
 .cases h
 .rename_i s hs;split at h
  .rename_i u;have A:∀d,o.dst=O d->d<nt:=λd B=>by rw[B]at u;simpa using u
   split at h
   .simp at h;subst h;exact⟨hs,rfl,A⟩
   .split at h
    .simp at h;subst h;exact⟨hs,rfl,A⟩
    .cases h
  .cases h
def Sim.H7{nt}{D}{sl}{a}(h:Sim nt D sl a){dst}(hd:∀d,dst=O d->d<nt/\d∈D.ds)(x){k}(q:qkB dst sl x k):∃sl',k sl'/\Sim nt D sl' (a.put dst (Ag x)):=by
 cases dst with
 |none=>exact⟨sl,q,h⟩
 |some d=>exact⟨_,q,h.put (hd d rfl).1 (hd d rfl).2 x⟩
def qvG{P:zv}{E:Env P}{fr:Fr}(ah:fr.has E){H:qNA}{Y:qUB}(ai:CC E fr H)(aj:FD E fr Y){nt:Z}{D:Pin}{ops:zS zDA}{r:zy Z}{K:Sl->Hs->Prop}{Q:zDz->zp->Prop}(ak:∀sl hs a w,K sl hs->Sim nt D sl a->Ap fr hs w->Q a w):∀(τ:F Z)(C:F CY)(sl:Sl)(hs:Hs)(a:zDz)(w:zp),qgJ P nt ops τ=O C->(∀d∈qZE C,d∈D.ds)->Sim nt D sl a->Ap fr hs w->Gt P H Y C sl hs K->qhE E r ops Q τ a w
 |[],C,sl,hs,a,w,h,L,ab,q,A=>by
  simp[qgJ]at h;subst h;exact λd=>ak sl hs a _ A ab (q.at d)
 |i::τ,C,sl,hs,a,w,h,L,ab,q,A=>by
  simp only[qgJ]at h;split at h
  .cases h
  .rename_i o au;split at h
   .cases h
   .rename_i al am;split at h
    .cases h
    .rename_i U an;simp at h;subst h;obtain⟨V,ac,av⟩:=qkE am;obtain⟨aw,L⟩:=qYO L;have ao:∀d,o.dst=O d->d<nt/\d∈D.ds:=λd A=>⟨av d A,aw d (ac.trans A)⟩;have ap:=qvG (ops:=ops) (r:=r) ah ai aj ak τ U;show qMC E r ops i _ a w;unfold qMC;simp only[au];rw[qhU]at A;rcases qnH am ab A with⟨ad,aq,u,R⟩|⟨ad,aq,u,R⟩
     .rw[zk ad];intro ax;have q:=q.at ax
      have ar:∀s T W,(qkB al.dst aq s λsl=>Gt P H Y U sl T K)->Ap fr T W->qhE E r ops Q τ (a.put o.dst (Ag s)) W:=λs T W aa ay=>by
       rw[ac]at aa;obtain⟨ae,af,ag⟩:=R.H7 ao s (k:=λsl=>Gt P H Y U sl T K) aa;exact ap ae T _ W an L ag ay af
      unfold opS at u;cases B:al.op.reads with
      |true=>
       simp only[B]at u;obtain⟨s,aa,az⟩:=quJ V B R.As u;exact qsA (qfG V (λf aA e=>by rw[e]at B;simp[SOp.reads]at B)) (qGE V).1 (az fr _ q) (.refl _) (ar s hs _ aa q)
      |false=>
       simp only[B]at u;exact qPS ah ai aj V B R.As u q ar
     .rw[ad];rw[ac]at u;obtain⟨ae,af,ag⟩:=R.H7 ao (.v zAU) (k:=λsl=>Gt P H Y U sl hs K) u;exact λd=>ap ae hs _ _ an L ag (q.at d) af
end Go.Proofs.YtlmhpamhhgogaaaGreat.Sx
