/- A symbolic evaluator over the model's code, part 7: every operation of it. -/
import Derived.Test.YtkogfpniapaigaaGreatSxA
import Derived.OrdersIn
import Derived.OrdersHeld
import Derived.Sort.LoopGhostIn
import Derived.Laws.Sem
import Derived.DefersIn
set_option linter.unusedVariables false
set_option linter.unusedSimpArgs false
namespace Go.Proofs.YtkogfpniapaigaaGreat.Sx
open Go.RowKit
theorem qsD (a b c:List SV):qAA (a++b++c)=qAA a++qAA b++qAA c:=by simp [qBG]
theorem qLB {P:Program} {f:FuncId} (h:FnOk P f) (args:Array Value) (w:World):(callFunc f args).run P w=.ok (.enter f args) w:=by
 obtain⟨fn,hf,hb,hn⟩:=h
 have hb':fn.body.isNone=false:=by cases hh:fn.body<;>simp_all
 simp only [callFunc,Sem.run_bind,run_program,Result.andThen,hf,hn,hb',Bool.false_eq_true,if_false,Sem.run_pure]
theorem qiQ {P:Program} {l:Nat} {f:FuncId} {tmps:Array Value} {assign body:Code} {w:World} {R:Ending→World→Prop} (r r':Option Nat) (n n':Nat) (h:RoundIn (FW r) n P l f tmps assign body w R):RoundIn (FW r') n' P l f tmps assign body w R :=
 ⟨trivial,fun c cs _=>h.2 c cs (q2U _ _)⟩
theorem qiA {P:Program} {o:Oper} {a:Act} {w w':World} {next:Act→World→Prop} {Q:Exit→Act→World→Prop} {r:Option Nat} {v:Value} (hd:∀ c,o.op≠.defer c) (h:(execOp a.eval o).run P w=.ok (.value v) w') (hn:next (a.put o.dst v) w'):o.wpIn (FW r) 0 P a w next Q:=by
 refine⟨fun _ _=>trivial,?_⟩
 rw [Oper.semAt_eq _ _ _ hd,h]
 exact hn
theorem q8I {P:Program} {o:Oper} {a:Act} {w w':World} {next:Act→World→Prop} {Q:Exit→Act→World→Prop} {r:Option Nat} (hd:∀ c,o.op≠.defer c) (h:(execOp a.eval o).run P w=.ok .skip w') (hn:next (a.put o.dst undef) w'):o.wpIn (FW r) 0 P a w next Q:=by
 refine⟨fun _ _=>trivial,?_⟩
 rw [Oper.semAt_eq _ _ _ hd,h]
 exact hn
theorem qwL {P:Program} {o:Oper} {a:Act} {w w':World} {next:Act→World→Prop} {Q:Exit→Act→World→Prop} {r:Option Nat} {f:FuncId} {args:Array Value} (hd:∀ c,o.op≠.defer c) (h:(execOp a.eval o).run P w=.ok (.enter f args) w')
  (hc:Calls P f args w' fun e w''=>∃ v,e=.returned v∧next (a.put o.dst v) w''):o.wpIn (FW r) 0 P a w next Q:=by
 refine⟨fun _ _=>trivial,?_⟩
 rw [Oper.semAt_eq _ _ _ hd,h]
 refine⟨fun h=>by simp [FW] at h,(qNG r _).2 (hc.mono ?_)⟩
 rintro e w'' ⟨v,rfl,hn⟩
 exact hn
theorem qRQ {P:Program} {o:Oper} {a:Act} {w w':World} {next:Act→World→Prop} {Q:Exit→Act→World→Prop} {r:Option Nat} {l:Nat} {f:FuncId} {tmps:Array Value} {assign body:Code} (hd:∀ c,o.op≠.defer c) (h:(execOp a.eval o).run P w=.ok (.round l f tmps assign body) w')
  (hc:RoundIn (FW none) 0 P l f tmps assign body w' fun e w''=>∃ v,e=.returned v∧next (a.put o.dst v) w''):o.wpIn (FW r) 0 P a w next Q:=by
 refine⟨fun _ _=>trivial,?_⟩
 rw [Oper.semAt_eq _ _ _ hd,h]
 refine⟨fun h=>by simp [FW] at h,qiQ none r 0 _ (hc.mono ?_)⟩
 rintro e w'' ⟨v,rfl,hn⟩
 exact hn
theorem qkD {P:Program} {o:Oper} {so:SOp} (ht:trOp P o=some so):(∀ c,o.op≠.defer c)∧∀ cs b,o.op≠.select cs b:=by
 refine⟨fun c h=>?_,fun cs b h=>?_⟩<;>simp [trOp,h] at ht
theorem qLI (l:List Value):qAA (l.map SV.v)=l:=by simp [qQA,Function.comp_def,conc]
theorem qMQ {P:Program} {fr:Fr} {H:qIA} {Y:qsA} (hH:SndH P fr H) (hY:SndY P fr Y) {o:Oper} {so:SOp} (ht:trOp P o=some so) (hrd:so.reads=false) {sl:Sl} {a:Act} (hsl:qwD sl a) {hs:Hs} {K:SV→Hs→Prop} (h:chS P H Y so sl hs K)
  {w:World} (hw:HSim fr hs w) {next:Act→World→Prop} {Q:Exit→Act→World→Prop} {r:Option Nat} (hn:∀ s hs' w',K s hs'→HSim fr hs' w'→next (a.put o.dst (conc s)) w'):o.wpIn (FW r) 0 P a w next Q:=by
 obtain⟨hd,_⟩:=qkD ht
 have callG:∀ (f:FuncId) (args:List SV) (A:Array Value),A=(qAA args).toArray→(execOp a.eval o).run P w=.ok (.enter f A) w→H Y f args hs K→o.wpIn (FW r) 0 P a w next Q:=fun f args A hA hr hc=>by
  subst hA
  refine qwL hd hr ((hH Y hY f args hs K hc w hw).mono ?_)
  rintro e w'' ⟨v,hs',rfl,hsim,hk⟩
  exact⟨_,rfl,hn _ _ _ hk hsim⟩
 unfold trOp at ht
 split at ht
 ·simp at ht;subst ht;simp [SOp.reads] at hrd
 ·simp at ht;subst ht;simp [SOp.reads] at hrd
 ·simp at ht;subst ht;simp [SOp.reads] at hrd
 ·exfalso
  split at ht<;>(try (split at ht))<;>first|(cases ht;done)|(simp at ht;subst ht;simp [SOp.reads] at hrd;done)|(obtain⟨ks,_,rfl⟩:=Option.map_eq_some_iff.1 ht;simp [SOp.reads] at hrd)
 ·simp at ht;subst ht;simp [SOp.reads] at hrd
 ·exfalso
  split at ht<;>(try (split at ht))<;>first|(cases ht;done)|(simp at ht;subst ht;simp [SOp.reads] at hrd;done)|(obtain⟨ks,_,rfl⟩:=Option.map_eq_some_iff.1 ht;simp [SOp.reads] at hrd)
 ·exfalso
  split at ht<;>(try (split at ht))<;>first|(cases ht;done)|(simp at ht;subst ht;simp [SOp.reads] at hrd;done)|(obtain⟨ks,_,rfl⟩:=Option.map_eq_some_iff.1 ht;simp [SOp.reads] at hrd)
 ·exfalso
  split at ht<;>(try (split at ht))<;>(try (split at ht))<;>first|(cases ht;done)|(simp at ht;subst ht;simp [SOp.reads] at hrd;done)|(obtain⟨ks,_,rfl⟩:=Option.map_eq_some_iff.1 ht;simp [SOp.reads] at hrd)
 ·exfalso
  split at ht<;>(try (split at ht))<;>(try (split at ht))<;>first|(cases ht;done)|(simp at ht;subst ht;simp [SOp.reads] at hrd;done)|(obtain⟨ks,_,rfl⟩:=Option.map_eq_some_iff.1 ht;simp [SOp.reads] at hrd)
 ·exfalso
  split at ht<;>(try (split at ht))<;>first|(cases ht;done)|(simp at ht;subst ht;simp [SOp.reads] at hrd;done)|(obtain⟨ks,_,rfl⟩:=Option.map_eq_some_iff.1 ht;simp [SOp.reads] at hrd)
 ·exfalso
  split at ht<;>(try (split at ht))<;>first|(cases ht;done)|(simp at ht;subst ht;simp [SOp.reads] at hrd;done)|(obtain⟨ks,_,rfl⟩:=Option.map_eq_some_iff.1 ht;simp [SOp.reads] at hrd)
 ·simp at ht;subst ht;simp [SOp.reads] at hrd
 ·simp at ht;subst ht;simp [SOp.reads] at hrd
 ·simp at ht;subst ht;simp [SOp.reads] at hrd
 ·exfalso
  split at ht<;>(try (split at ht))<;>first|(cases ht;done)|(simp at ht;subst ht;simp [SOp.reads] at hrd;done)|(obtain⟨ks,_,rfl⟩:=Option.map_eq_some_iff.1 ht;simp [SOp.reads] at hrd)
 ·exfalso
  split at ht<;>(try (split at ht))<;>(try (split at ht))<;>first|(cases ht;done)|(simp at ht;subst ht;simp [SOp.reads] at hrd;done)|(obtain⟨ks,_,rfl⟩:=Option.map_eq_some_iff.1 ht;simp [SOp.reads] at hrd)
 ·-- store
  rename_i t x y ho
  split at ht
  ·rename_i size hsz
   simp at ht;subst ht
   simp only [chS] at h
   obtain⟨x',h1,e1⟩:=Opd.k_spec (k:=fun x=>Opd.k hs.rs sl (qFA y) fun y=>stoS size x y hs K) h hsl
   obtain⟨y',h2,e2⟩:=Opd.k_spec (k:=fun y=>stoS size x' y hs K) h1 hsl
   obtain⟨w',hs',hr,hsim,hk⟩:=qcR h2 hsz hw
   exact q8I hd (by simp only [execOp,ho,e1,e2];exact qGU hr) (hn _ _ _ hk hsim)
  ·cases ht
 ·-- alloc
  rename_i t ho
  split at ht
  ·rename_i z hz
   simp at ht;subst ht
   obtain⟨w',s,hs',hr,_,hsim,hk⟩:=qUL (show qPM t (z.map SV.v) hs K from h) hz hw
   exact qiA hd (by simp only [execOp,ho];exact qmC hr) (hn _ _ _ hk hsim)
  ·cases ht
 ·-- box
  rename_i t x ho
  simp at ht;subst ht
  simp only [chS] at h
  obtain⟨x',h1,e1⟩:=Opd.k_spec (k:=fun x=>boxS t x hs K) h hsl
  obtain⟨w',s,hs',hr,_,hsim,hk⟩:=qmO (P:=P) h1 hw
  exact qiA hd (by simp only [execOp,ho,e1];exact qmC hr) (hn _ _ _ hk hsim)
 ·-- buildSlice
  rename_i t len parts ho
  split at ht
  ·rename_i e hu
   split at ht
   ·rename_i size z hsz hz
    split at ht
    ·rename_i hc
     obtain⟨hle,hpos,hzl⟩:=hc
     simp at ht;subst ht
     simp only [chS] at h
     obtain⟨cells,hk,hf⟩:=qKG hsl (fun i=>some (i*size,size)) parts.toList _ _ (by simp) h
     obtain⟨w',s,hs',hr,_,hsim,hk⟩:=qlO (P:=P) (t:=t) (parts:=parts.map fun (i,x)=>(i,a.eval x)) hk hu hsz hz hzl hpos hle (by
      simp only [Array.toList_map]
      rw [← hf]
      congr 2
      rw [show(List.replicate len (List.map SV.v z)).flatten=((List.replicate len z).flatten).map SV.v by simp [List.map_flatten],qLI]) hw
     exact qiA hd (by simp only [execOp,ho];exact qmC hr) (hn _ _ _ hk hsim)
    ·cases ht
   ·cases ht
  ·cases ht
 ·-- makeSlice
  rename_i t l c ho
  split at ht
  ·rename_i e hu
   split at ht
   ·rename_i i z hi hz
    split at ht
    ·rename_i hc
     simp at ht;subst ht
     simp only [chS] at h
     obtain⟨x',h1,e1⟩:=Opd.k_spec (k:=fun x=>Opd.k hs.rs sl (qFA c) fun y=>mslS e i.size i.bytes z x y hs K) h hsl
     obtain⟨y',h2,e2⟩:=Opd.k_spec (k:=fun y=>mslS e i.size i.bytes z x' y hs K) h1 hsl
     obtain⟨w',s,hs',hr,_,hsim,hk⟩:=qLO h2 hu hi hz hc.2 hw
     exact qiA hd (by simp only [execOp,ho,e1,e2];exact qmC hr) (hn _ _ _ hk hsim)
    ·cases ht
   ·cases ht
  ·cases ht
 ·-- makeMap
  rename_i t x ho
  split at ht
  ·rename_i ik et hmt
   split at ht
   ·rename_i hh
    simp at ht;subst ht
    obtain⟨w',s,hs',hr,_,hsim,hk⟩:=qMO (a:=a) (show mkmS ik hs K from h) hmt hh hw
    exact qiA hd (by simp only [execOp,ho];exact qmC hr) (hn _ _ _ hk hsim)
   ·cases ht
  ·cases ht
 ·-- insert
  rename_i t m k v ho
  split at ht
  ·rename_i ik et hmt
   simp at ht;subst ht
   simp only [chS] at h
   obtain⟨m',h1,e1⟩:=Opd.k_spec (k:=fun x=>Opd.k hs.rs sl (qFA k) fun k=>Opd.k hs.rs sl (qFA v) fun v=>mupS ik x k v hs K) h hsl
   obtain⟨k',h2,e2⟩:=Opd.k_spec (k:=fun k=>Opd.k hs.rs sl (qFA v) fun v=>mupS ik m' k v hs K) h1 hsl
   obtain⟨v',h3,e3⟩:=Opd.k_spec (k:=fun v=>mupS ik m' k' v hs K) h2 hsl
   obtain⟨w',hs',hr,hsim,hk⟩:=qKO h3 hmt hw
   exact q8I hd (by simp only [execOp,ho,e1,e2,e3];exact qGU hr) (hn _ _ _ hk hsim)
  ·cases ht
 ·-- insert
  rename_i t m k v ho
  split at ht
  ·rename_i ik et hmt
   simp at ht;subst ht
   simp only [chS] at h
   obtain⟨m',h1,e1⟩:=Opd.k_spec (k:=fun x=>Opd.k hs.rs sl (qFA k) fun k=>Opd.k hs.rs sl (qFA v) fun v=>mupS ik x k v hs K) h hsl
   obtain⟨k',h2,e2⟩:=Opd.k_spec (k:=fun k=>Opd.k hs.rs sl (qFA v) fun v=>mupS ik m' k v hs K) h1 hsl
   obtain⟨v',h3,e3⟩:=Opd.k_spec (k:=fun v=>mupS ik m' k' v hs K) h2 hsl
   obtain⟨w',hs',hr,hsim,hk⟩:=qKO h3 hmt hw
   exact q8I hd (by simp only [execOp,ho,e1,e2,e3];exact qGU hr) (hn _ _ _ hk hsim)
  ·cases ht
 ·exfalso
  split at ht<;>(try (split at ht))<;>first|(cases ht;done)|(simp at ht;subst ht;simp [SOp.reads] at hrd;done)
 ·-- call
  rename_i c ho
  split at ht
  ·exfalso
   split at ht<;>(try (split at ht))<;>first|(cases ht;done)|(simp at ht;subst ht;simp [SOp.reads] at hrd;done)|(obtain⟨ks,_,rfl⟩:=Option.map_eq_some_iff.1 ht;simp [SOp.reads] at hrd)
  ·exfalso
   split at ht<;>first|(cases ht;done)|(simp at ht;subst ht;simp [SOp.reads] at hrd;done)|(obtain⟨ks,_,rfl⟩:=Option.map_eq_some_iff.1 ht;simp [SOp.reads] at hrd)
  ·-- append
   rename_i hc
   split at ht
   ·rename_i s x t t' hargs htys
    split at ht
    ·rename_i e hu
     split at ht
     ·rename_i i hi
      split at ht
      ·rename_i hcond
       obtain⟨rfl,hpos,hz⟩:=hcond
       simp at ht;subst ht
       simp only [chS] at h
       obtain⟨x',h1,e1⟩:=Opd.k_spec (k:=fun s=>Opd.k hs.rs sl (qFA x) fun y=>appS e i.size i.bytes s y hs K) h hsl
       obtain⟨y',h2,e2⟩:=Opd.k_spec (k:=fun y=>appS e i.size i.bytes x' y hs K) h1 hsl
       obtain⟨z,hz,hzs⟩:∃ z,i.zero=some z∧z.cells.size=i.size:=by
        cases hzz:i.zero with
        | none=>simp [hzz] at hz
        | some z=>exact⟨z,rfl,by simpa [hzz] using hz⟩
       obtain⟨w',s',hs',hr,hsim,hk⟩:=qnS (ty:=o.type) hu hi hz hzs h2 hw
       have hxs:c.args=#[s,x]:=by apply Array.ext';simpa using hargs
       have hts:c.argTypes=#[t,t]:=by apply Array.ext';simpa using htys
       refine qiA hd ?_ (hn _ _ _ hk hsim)
       simp only [execOp,ho,resolve,hc,hxs,hts]
       simp [invoke,builtin,e1,e2,hr,Result.andThen]
      ·cases ht
     ·cases ht
    ·cases ht
   ·cases ht
  ·-- copy
   rename_i hc
   split at ht
   ·rename_i d s t t' hargs htys
    split at ht
    ·rename_i e hu
     split at ht
     ·rename_i hsz
      simp at ht;subst ht
      simp only [chS] at h
      obtain⟨x',h1,e1⟩:=Opd.k_spec (k:=fun d=>Opd.k hs.rs sl (qFA s) fun y=>cpyS d y hs K) h hsl
      obtain⟨y',h2,e2⟩:=Opd.k_spec (k:=fun y=>cpyS x' y hs K) h1 hsl
      obtain⟨w',s',hs',hr,hsim,hk⟩:=qbS (t':=t') (ty:=o.type) h2 hu hsz hw
      have hxs:c.args=#[d,s]:=by apply Array.ext';simpa using hargs
      have hts:c.argTypes=#[t,t']:=by apply Array.ext';simpa using htys
      refine qiA hd ?_ (hn _ _ _ hk hsim)
      simp only [execOp,ho,resolve,hc,hxs,hts]
      simp [invoke,builtin,e1,e2,hr,Result.andThen]
     ·cases ht
    ·cases ht
   ·cases ht
  ·-- a function
   rename_i f hc
   split at ht
   ·rename_i fn hf
    split at ht
    ·rename_i hcond
     have hok:FnOk P f:=⟨fn,hf,by simp at hcond;simpa using hcond.1,by simp at hcond;simpa using hcond.2⟩
     have key:(Opd.ks hs.rs sl (c.args.toList.map qFA) fun args=>H Y f args hs K)→o.wpIn (FW r) 0 P a w next Q:=fun h=>by
      obtain⟨args,hk,he⟩:=Opd.ks_spec hsl c.args.toList h
      refine callG f args (c.args.map a.eval) (by apply Array.ext';simp [he]) ?_ hk
      have:=qLB hok (c.args.map a.eval) w
      simp only [execOp,ho,resolve,hc]
      simp [Deferred.ofValue,Act.eval,invoke] at this ⊢
      exact this
     split at ht<;>(simp at ht;subst ht;simp only [chS] at h;exact key h)
    ·cases ht
   ·cases ht
  ·-- a value
   rename_i g _ hc
   simp at ht;subst ht
   simp only [chS] at h
   obtain⟨f,h1,e1⟩:=Opd.k_spec (k:=fun f=>Opd.ks hs.rs sl (c.args.toList.map qFA) fun args=>qjO P H Y f args hs K) h hsl
   obtain⟨args,h2,e2⟩:=Opd.ks_spec hsl c.args.toList h1
   have hA:c.args.map a.eval=(qAA args).toArray:=by apply Array.ext';simp [e2]
   unfold qjO at h2
   split at h2
   ·rename_i k first caps
    obtain⟨hok,hk⟩:=h2
    refine callG k _ ((qAA first).toArray++(qAA args).toArray++(qAA caps).toArray) (by rw [qsD];simp) ?_ hk
    have:=qLB hok ((qAA first).toArray++(qAA args).toArray++(qAA caps).toArray) w
    simp only [execOp,ho,resolve,hc,e1,hA]
    simp [Deferred.ofValue,conc,invoke] at this ⊢
    exact this
   ·rename_i k first caps
    obtain⟨hok,hk⟩:=h2
    obtain⟨first',caps',⟨rfl,rfl⟩,hk2⟩:∃ first' caps',(qAA first'=first∧qAA caps'=caps)∧H Y k (first'++args++caps') hs K:=by
     split at hk
     ·exact⟨[],[],⟨rfl,rfl⟩,by simpa using hk⟩
     ·exact hk
    refine callG k _ ((qAA first').toArray++(qAA args).toArray++(qAA caps').toArray) (by rw [qsD];simp) ?_ hk2
    have:=qLB hok ((qAA first').toArray++(qAA args).toArray++(qAA caps').toArray) w
    simp only [execOp,ho,resolve,hc,e1,hA]
    simp [Deferred.ofValue,conc,invoke] at this ⊢
    exact this
   ·rename_i id l
    split at h2
    case h_2=>exact h2.elim
    rename_i l' rr j hrr
    obtain⟨rfl,hk⟩:=h2
    obtain⟨hsize,hround⟩:=hY fr (Fr.refl _) id args hs K hk l rr j w hrr hw
    obtain⟨m1,m2,hmem⟩:=q6Q hrr
    have hl:w.heap[l]?=some (.loop (qlI rr j)):=hw.res (.lp id l rr j) (by rw [hmem];simp)
    have hp1:(qlI rr j).params=rr.params:=by cases j<;>rfl
    have hp2:(qlI rr j).fn=rr.fn:=by cases j<;>rfl
    have hp3:(qlI rr j).tmps=rr.tmps:=by cases j<;>rfl
    have hp4:(qlI rr j).assign=rr.assign:=by cases j<;>rfl
    have hp5:(qlI rr j).body=rr.body:=by cases j<;>rfl
    refine qRQ hd (show(execOp a.eval o).run P w=.ok (.round l rr.fn (qmF rr (qAA args).toArray) rr.assign rr.body) w from ?_) (hround.mono ?_)
    ·have:=run_yield (P:=P) (args:=(qAA args).toArray) hl (by rw [hp1];simpa [qWA] using hsize)
     rw [hp1,hp2,hp3,hp4,hp5] at this
     simp only [execOp,ho,resolve,hc,e1,hA]
     simp [Deferred.ofValue,conc,invoke,qmF] at this ⊢
     exact this
    ·rintro e w'' ⟨v,hs',rfl,hsim,hk⟩
     exact⟨_,rfl,hn _ _ _ hk hsim⟩
   ·exact h2.elim
  ·cases ht
 ·cases ht
/- A symbolic evaluator over the model's code,part 8: contracts as a handler of calls;whole statements (regions) in the order of the text. -/
open Go.RowKit
theorem HSim.row_pub {fr:Fr} {g:GW} {id:Nat} {oa:Option Addr} {n cap:Nat} {ety:TypeId} {size:Nat} {cs:List Value} {rs:List Res} {nx lo:Nat} {w:World} (h:HSim fr ⟨g,.row id oa n cap ety size cs :: rs,nx,lo⟩ w) :
  ∃ g',g≤g'∧(∀ a,oa=some a→¬ g.g a.block)∧PbSl g' lo ety size (.slice oa n cap) n cs∧HSim fr ⟨g',rs,nx,lo⟩ w:=by
 obtain⟨s,hs',⟨g',h1,h0,h2,rfl⟩,_,hw⟩:=qcI (x:=.row id oa n cap) (K:=fun _ hs'=>∃ g',g≤g'∧(∀ a,oa=some a→¬ g.g a.block)∧PbSl g' lo ety size (.slice oa n cap) n cs∧hs'=⟨g',rs,nx,lo⟩) (by
  simp only [qsR,norm,q3A,updR,Nat.beq_refl]
  exact⟨⟨trivial,trivial,trivial⟩,fun g' h1 h0 h2=>⟨g',h1,h0,h2,rfl⟩⟩) h
 exact⟨g',h1,h0,h2,hw⟩
def pubA (x:SV) (hs:Hs) (K:SV→Hs→Prop):Prop:=match x with
 | .sl a b o n m=>pubD (.sl a b o n m) hs fun hs'=>pub1 (.sl a b o n m) hs' K
 | x=>pub1 x hs K
def quN (f:SV→Hs→(SV→Hs→Prop)→Prop) (l:List SV) (hs:Hs) (K:List SV→Hs→Prop):Prop:=match l with
 | []=>K [] hs
 | x :: r=>f x hs fun x' hs'=>quN f r hs' fun r' hs''=>K (x' :: r') hs''
def qrR (f:SV→Hs→(SV→Hs→Prop)→Prop) (x:SV) (hs:Hs) (K:SV→Hs→Prop):Prop:=match x with
 | .agg l=>quN f l hs fun l' hs'=>K (.agg l') hs'
 | .tup l=>quN f l hs fun l' hs'=>K (.tup l') hs'
 | x=>pubA x hs K
def pubK (x:SV) (hs:Hs) (K:SV→Hs→Prop):Prop:=qrR (qrR (qrR pubA)) x hs K
def qPV (l:List SV) (hs:Hs) (K:List SV→Hs→Prop):Prop:=quN pubK l hs K
def PubG (f:SV→Hs→(SV→Hs→Prop)→Prop):Prop:=∀ (x:SV) {hs:Hs} {K:SV→Hs→Prop} {fr:Fr} {w:World},f x hs K→HSim fr hs w→∃ s hs',K s hs'∧conc s=conc x∧HSim fr hs' w
theorem qwN:PubG pubA:=by
 intro x hs K fr w h hw
 unfold pubA at h
 split at h
 ·obtain⟨hs',h1,h2⟩:=qtK _ _ _ _ _ h hw
  exact qcI h1 h2
 ·exact qcI h hw
theorem qIG {f:SV→Hs→(SV→Hs→Prop)→Prop} (hf:PubG f):∀ (l:List SV) {hs:Hs} {K:List SV→Hs→Prop} {fr:Fr} {w:World},quN f l hs K→HSim fr hs w→∃ l' hs',K l' hs'∧qAA l'=qAA l∧HSim fr hs' w
 | [],hs,K,fr,w,h,hw=>⟨[],hs,by simpa only [quN] using h,rfl,hw⟩
 | x :: r,hs,K,fr,w,h,hw=>by
  obtain⟨x',hs',h1,hc,hw'⟩:=hf x (K:=fun x' hs'=>quN f r hs' fun r' hs''=>K (x' :: r') hs'') (by simpa only [quN] using h) hw
  obtain⟨r',hs'',h2,hc',hw''⟩:=qIG hf r h1 hw'
  exact⟨_,_,h2,by simp [qAA,hc,hc'],hw''⟩
theorem qPJ {f:SV→Hs→(SV→Hs→Prop)→Prop} (hf:PubG f):PubG (qrR f):=by
 intro x hs K fr w h hw
 unfold qrR at h
 split at h
 ·obtain⟨l',hs',hk,hc,hsim⟩:=qIG hf _ h hw
  exact⟨_,_,hk,by simp [conc,hc],hsim⟩
 ·obtain⟨l',hs',hk,hc,hsim⟩:=qIG hf _ h hw
  exact⟨_,_,hk,by simp [conc,hc],hsim⟩
 ·exact qwN _ h hw
theorem q6P:PubG pubK:=fun x _ _ _ _ h hw=>qPJ (qPJ (qPJ qwN)) x h hw
theorem qvN (x:SV) {hs:Hs} {K:SV→Hs→Prop} {fr:Fr} {w:World} (h:pubK x hs K) (hw:HSim fr hs w):∃ s hs',K s hs'∧conc s=conc x∧HSim fr hs' w:=q6P x h hw
theorem qoQ (l:List SV) {hs:Hs} {K:List SV→Hs→Prop} {fr:Fr} {w:World} (h:qPV l hs K) (hw:HSim fr hs w):∃ l' hs',K l' hs'∧qAA l'=qAA l∧HSim fr hs' w:=qIG q6P l h hw
def isP0 (x:SV):Bool:=match x with
 | .p _ _ _=>true
 | _=>false
def qyV (l:List SV):Bool:=match l with
 | []=>false
 | x :: r=>match isP0 x with
  | true=>true
  | false=>qyV r
def isP1 (x:SV):Bool:=match x with
 | .agg l=>qyV l
 | x=>isP0 x
def qxV (l:List SV):Bool:=match l with
 | []=>false
 | x :: r=>match isP1 x with
  | true=>true
  | false=>qxV r
def Res.inG (r:Res) (g:GW):Prop:=match r with
 | .blk _ b _ cells=>∀ j u,(qAA cells)[j]?=some u→Rc g ⟨b,j,none⟩ u
 | _=>True
def RsIn (g:GW):List Res→Prop
 | []=>True
 | r :: rs=>r.inG g∧RsIn g rs
theorem RsIn.of {g:GW}:∀ {rs:List Res},(∀ r∈rs,r.inG g)→RsIn g rs
 | [],_=>trivial
 | r :: rs,h=>⟨h r (List.mem_cons_self ..),RsIn.of fun x hx=>h x (List.mem_cons_of_mem _ hx)⟩
def OkW (P:Program) (f:FuncId) (vs:List Value) (g:GW) (rs:List Res) (v:Value):Prop:=∀ gp,g≤gp→RsIn gp rs→OkV P f vs gp v
def rsId (id:Nat):List Res→Option (Nat×List SV)
 | []=>none
 | .blk i b _ cs :: r=>if Nat.beq i id then some (b,cs) else rsId id r
 | .row _ _ _ _ _ _ _ :: r=>rsId id r
 | .lp _ _ _ _ :: r=>rsId id r
 | .mk _ :: r=>rsId id r
 | .mp _ _ _ _ :: r=>rsId id r
theorem RsIn.cel {g:GW} {id b:Nat} {cs:List SV} {u:Value}:∀ {rs:List Res},RsIn g rs→rsId id rs=some (b,cs)→∀ k,(qAA cs)[k]?=some u→Rc g ⟨b,k,none⟩ u
 | .blk i c t ds :: r,h,e,k,hu=>by
  simp only [rsId] at e
  split at e
  ·cases e;exact h.1 k u hu
  ·exact RsIn.cel h.2 e k hu
 | .row _ _ _ _ _ _ _ :: r,h,e,k,hu=>RsIn.cel (rs:=r) h.2 e k hu
 | .lp _ _ _ _ :: r,h,e,k,hu=>RsIn.cel (rs:=r) h.2 e k hu
 | .mk _ :: r,h,e,k,hu=>RsIn.cel (rs:=r) h.2 e k hu
 | .mp _ _ _ _ :: r,h,e,k,hu=>RsIn.cel (rs:=r) h.2 e k hu
theorem OkW.calls {P:Program} {f:FuncId} {vs:List Value} {hs:Hs} {v:Value} (h:OkW P f vs hs.g hs.rs v) {fr:Fr} {w:World} (hw:HSim fr hs w):Calls P f vs.toArray w fun e w'=>∃ v',e=.returned v'∧Below w.heap.size w w'∧v'=v:=by
 refine h (hs.g.more w hs.bks) (GW.le_more hw.good _) (RsIn.of fun r hr=>?_) w (Good.refl _)
 have hh:=hw.res r hr
 cases r with
 | blk id b ty cells =>
  intro j u hu
  have hb:b∈hs.bks:=List.mem_flatMap.2 ⟨_,hr,by simp [Res.bk]⟩
  refine⟨⟨hw.lt hb,.inr hb⟩,?_⟩
  simp only [Res.holds] at hh
  show w.cell? ⟨b,j,none⟩=some u
  unfold World.cell?
  simp [hh.1,hu]
 | _=>trivial
def okK (P:Program) (f:FuncId) (K:SV→Hs→Prop) (args':List SV) (hs':Hs):Prop:=match hs' with
 | ⟨hg,hr,hn,hl⟩=>match qxV args' with
  | true=>qdD args' fun vs=>∃ v,OkW P f vs hg hr v∧K (.v v) ⟨hg,hr,hn,hl⟩
  | false=>qdD args' fun vs=>(∃ v,OkV P f vs hg v∧K (.v v) ⟨hg,hr,hn,hl⟩)∨Ok P f vs hg fun v g'=>K (.v v) ⟨g',hr,hn,hl⟩
def okH (P:Program):qIA:=fun _ f args hs K=>qPV args hs (okK P f K)
def SndB (P:Program) (H:qIA):Prop:=∀ Y f args hs K,H Y f args hs K→∀ fr w,HSim fr hs w →
 Calls P f (qAA args).toArray w fun e w'=>∃ v hs',e=.returned (conc v)∧Below w.heap.size w w'∧HSim fr hs' w'∧K v hs'
theorem SndB.snd {P:Program} {H:qIA} (h:SndB P H) (fr:Fr):SndH P fr H:=fun Y _ f args hs K hk w hw =>
 (h Y f args hs K hk fr w hw).mono fun _ _ ⟨v,hs',he,_,hsim,hk⟩=>⟨v,hs',he,hsim,hk⟩
theorem qwM (P:Program):SndB P (okH P):=fun Y f args hs K h fr w hw=>by
 obtain⟨args',hs',h,hc,hw'⟩:=qoQ args h hw
 rw [← hc]
 obtain⟨hg,hr,hn,hl⟩:=hs'
 unfold okK at h
 simp only at h
 split at h
 ·obtain⟨v,hok,hk⟩:=qRB _ h
  refine(hok.calls hw').mono ?_
  rintro e w'' ⟨v',rfl,hb,rfl⟩
  exact⟨.v v',_,rfl,hb,hw'.agree hb,hk⟩
 rcases qRB _ h with ⟨v,hok,hk⟩|hok
 ·refine(hok w hw'.good).mono ?_
  rintro e w'' ⟨v',rfl,hb,rfl⟩
  exact⟨.v v',_,rfl,hb,hw'.agree hb,hk⟩
 ·refine(hok w hw'.good).mono ?_
  rintro e w'' ⟨v',rfl,hb,hk⟩
  exact⟨.v v',_,rfl,hb,hw'.called hb,hk⟩
structure SOper where
 dst:Option Nat
 op:SOp
 g:Option (Nat×Bool)
 deriving Inhabited
def opS (P:Program) (H:qIA) (Y:qsA) (o:SOp) (sl:Sl) (hs:Hs) (K:SV→Hs→Prop):Prop:=match o.reads with
 | true=>rdS o sl hs fun x=>K x hs
 | false=>chS P H Y o sl hs K
def q0F (sl:Sl) (g:Option (Nat×Bool)) (Yes No:Sl→Prop):Prop:=match g with
 | none=>Yes sl
 | some (d,want)=>match getS sl d with
  | some (.b true)=>match want with
   | true=>Yes sl
   | false=>No sl
  | some (.b false)=>match want with
   | true=>No sl
   | false=>Yes sl
  | some (.v (.bool c))=>match want with
   | true=>(c=true→Yes ((d,.b true) :: sl))∧(c=false→No ((d,.b false) :: sl))
   | false=>(c=true→No ((d,.b true) :: sl))∧(c=false→Yes ((d,.b false) :: sl))
  | some (.v (.tuple _))=>No sl
  | _=>False
def qEB (dst:Option Nat) (sl:Sl) (x:SV) (k:Sl→Prop):Prop:=match dst with
 | some d=>k ((d,x) :: sl)
 | none=>k sl
def regC (P:Program) (H:qIA) (Y:qsA) (o:SOper) (ih:Sl→Hs→(Sl→Hs→Prop)→Prop) (sl:Sl) (hs:Hs) (K:Sl→Hs→Prop):Prop:=q0F sl o.g
  (fun sl=>opS P H Y o.op sl hs fun x hs'=>qEB o.dst sl x fun sl=>ih sl hs' K)
  (fun sl=>qEB o.dst sl (.v undef) fun sl=>ih sl hs K)
def regN (sl:Sl) (hs:Hs) (K:Sl→Hs→Prop):Prop:=K sl hs
def regS (P:Program) (H:qIA) (Y:qsA) (ops:List SOper):Sl→Hs→(Sl→Hs→Prop)→Prop :=
 List.rec (motive:=fun _=>Sl→Hs→(Sl→Hs→Prop)→Prop) regN (fun o _ ih=>regC P H Y o ih) ops
theorem qlR {P:Program} {H:qIA} {Y:qsA} {o:SOper} {r:List SOper} {sl:Sl} {hs:Hs} {K:Sl→Hs→Prop}:regS P H Y (o :: r) sl hs K=q0F sl o.g
  (fun sl=>opS P H Y o.op sl hs fun x hs'=>qEB o.dst sl x fun sl=>regS P H Y r sl hs' K)
  (fun sl=>qEB o.dst sl (.v undef) fun sl=>regS P H Y r sl hs K):=rfl
def qbF (P:Program) (nt:Nat) (ops:Array Oper) (o:Oper):Option SOper:=match trOp P o with
 | none=>none
 | some so=>if (o.dst.all fun d=>decide (d<nt)) then match o.guard with
  | none=>some ⟨o.dst,so,none⟩
  | some (j,b)=>match (ops[j]?).bind (·.dst) with
   | some d=>some ⟨o.dst,so,some (d,b)⟩
   | none=>none
  else none
def qXR (P:Program) (nt:Nat) (ops:Array Oper):List Nat→Option (List SOper)
 | []=>some []
 | i :: τ=>match ops[i]? with
  | none=>none
  | some o=>match qbF P nt ops o with
   | none=>none
   | some so=>match qXR P nt ops τ with
    | none=>none
    | some r=>some (so :: r)
structure Pin where
 D:List Deferred
 ds:List Nat
 t:Array Value
structure Sim (nt:Nat) (D:Pin) (sl:Sl) (a:Act):Prop where
 size:a.tmps.size=nt
 defers:a.defers=D.D
 slots:qwD sl a
 off:∀ n,n ∉ D.ds→a.tmps[n]?=D.t[n]?
def qdH:List SOper→List Nat
 | []=>[]
 | o :: r=>match o.dst with
  | some d=>d :: qdH r
  | none=>qdH r
theorem qsN {o:SOper} {r:List SOper} {ds:List Nat} (h:∀ d∈qdH (o :: r),d∈ds):(∀ d,o.dst=some d→d∈ds)∧∀ d∈qdH r,d∈ds:=by
 simp only [qdH] at h
 split at h
 ·rename_i d hd
  exact⟨fun d' h'=>h _ (by rw [hd] at h';cases h';simp),fun d' h'=>h _ (by simp [h'])⟩
 ·rename_i hd
  exact⟨fun d' h'=>(by rw [hd] at h';cases h'),h⟩
theorem Sim.put {nt:Nat} {D:Pin} {sl:Sl} {a:Act} (h:Sim nt D sl a) {d:Nat} (hd:d<nt) (hd2:d∈D.ds) (x:SV):Sim nt D ((d,x) :: sl) (a.put (some d) (conc x)):=by
 refine⟨by simp [Act.put,h.size],by simp [Act.put,h.defers],fun n y hy=>?_,fun n hn=>?_⟩
 rotate_left
 ·have hne:d≠n:=fun e=>hn (e▸hd2)
  simp only [Act.put]
  rw [Array.getElem?_setIfInBounds_ne hne];exact h.off n hn
 simp only [getS] at hy
 cases hn:Nat.beq d n with
 | true =>
  rw [hn] at hy
  obtain rfl:=Nat.eq_of_beq_eq_true hn
  simp at hy;subst hy
  have:d<a.tmps.size:=by rw [h.size];exact hd
  simp [Act.put,this]
 | false =>
  rw [hn] at hy
  have hne:d≠n:=Nat.ne_of_beq_eq_false hn
  simp only [Act.put]
  rw [Array.getElem?_setIfInBounds_ne hne]
  exact h.slots n y hy
theorem Sim.same {nt:Nat} {D:Pin} {sl:Sl} {a:Act} (h:Sim nt D sl a) {d:Nat} {x y:SV} (hx:getS sl d=some x) (he:conc y=conc x):Sim nt D ((d,y) :: sl) a:=by
 refine⟨h.size,h.defers,fun n z hz=>?_,h.off⟩
 simp only [getS] at hz
 cases hn:Nat.beq d n with
 | true =>
  rw [hn] at hz
  obtain rfl:=Nat.eq_of_beq_eq_true hn
  simp at hz;subst hz
  rw [he];exact h.slots d x hx
 | false=>rw [hn] at hz;exact h.slots n z hz
theorem q0H {nt:Nat} {D:Pin} {sl:Sl} {a:Act} {Yes No:Sl→Prop} {o:Oper} {so:SOper} {ops:Array Oper} {P:Program} (ht:qbF P nt ops o=some so) (hs:Sim nt D sl a) (h:q0F sl so.g Yes No) :
  (Region.wanted o (yielded ops a.tmps)=true∧∃ sl',Yes sl'∧Sim nt D sl' a)∨(Region.wanted o (yielded ops a.tmps)=false∧∃ sl',No sl'∧Sim nt D sl' a):=by
 unfold qbF at ht
 split at ht
 ·cases ht
 ·split at ht
  ·split at ht
   ·rename_i hg
    simp at ht;subst ht
    exact .inl ⟨by simp [Region.wanted,hg],sl,h,hs⟩
   ·rename_i j b hg
    split at ht
    ·rename_i d hd
     simp at ht;subst ht
     have hy:∀ v,a.tmps[d]?=some v→yielded ops a.tmps j=match v with | .bool x=>some x|_=>none:=fun v hv=>by
      simp only [yielded,hd,Option.bind_some,hv]
      cases v<;>rfl
     have hw:Region.wanted o (yielded ops a.tmps)=(yielded ops a.tmps j==some b):=by simp [Region.wanted,hg]
     simp only [q0F] at h
     split at h
     ·rename_i he
      have:=hy _ (hs.slots d _ he)
      cases b with
      | true=>exact .inl ⟨by rw [hw,this];rfl,sl,h,hs⟩
      | false=>exact .inr ⟨by rw [hw,this];rfl,sl,h,hs⟩
     ·rename_i he
      have:=hy _ (hs.slots d _ he)
      cases b with
      | true=>exact .inr ⟨by rw [hw,this];rfl,sl,h,hs⟩
      | false=>exact .inl ⟨by rw [hw,this];rfl,sl,h,hs⟩
     ·rename_i c he
      have:=hy _ (hs.slots d _ he)
      cases b with
      | true =>
       cases c with
       | true=>exact .inl ⟨by rw [hw,this];rfl,_,h.1 rfl,hs.same he rfl⟩
       | false=>exact .inr ⟨by rw [hw,this];rfl,_,h.2 rfl,hs.same he rfl⟩
      | false =>
       cases c with
       | true=>exact .inr ⟨by rw [hw,this];rfl,_,h.1 rfl,hs.same he rfl⟩
       | false=>exact .inl ⟨by rw [hw,this];rfl,_,h.2 rfl,hs.same he rfl⟩
     ·rename_i he
      have:=hy _ (hs.slots d _ he)
      exact .inr ⟨by rw [hw,this];rfl,sl,h,hs⟩
     ·exact h.elim
    ·cases ht
  ·cases ht
theorem qaF {P:Program} {nt:Nat} {ops:Array Oper} {o:Oper} {so:SOper} (ht:qbF P nt ops o=some so):trOp P o=some so.op∧so.dst=o.dst∧∀ d,o.dst=some d→d<nt:=by
 unfold qbF at ht
 split at ht
 ·cases ht
 ·rename_i s hs
  split at ht
  ·rename_i hd
   have hd':∀ d,o.dst=some d→d<nt:=fun d h=>by rw [h] at hd;simpa using hd
   split at ht
   ·simp at ht;subst ht;exact⟨hs,rfl,hd'⟩
   ·split at ht
    ·simp at ht;subst ht;exact⟨hs,rfl,hd'⟩
    ·cases ht
  ·cases ht
theorem Sim.putd {nt:Nat} {D:Pin} {sl:Sl} {a:Act} (h:Sim nt D sl a) {dst:Option Nat} (hd:∀ d,dst=some d→d<nt∧d∈D.ds) (x:SV) {k:Sl→Prop} (hk:qEB dst sl x k) :
  ∃ sl',k sl'∧Sim nt D sl' (a.put dst (conc x)):=by
 cases dst with
 | none=>exact⟨sl,hk,h⟩
 | some d=>exact⟨_,hk,h.put (hd d rfl).1 (hd d rfl).2 x⟩
theorem qLJ {P:Program} {fr:Fr} {H:qIA} {Y:qsA} (hH:SndH P fr H) (hY:SndY P fr Y) {nt:Nat} {D:Pin} {ops:Array Oper} {r:Option Nat} {K:Sl→Hs→Prop} {Q:Exit→Act→World→Prop}
  (hQ:∀ sl hs a w,K sl hs→Sim nt D sl a→HSim fr hs w→Q .normal a w) :
  ∀ (τ:List Nat) (sops:List SOper) (sl:Sl) (hs:Hs) (a:Act) (w:World),qXR P nt ops τ=some sops→(∀ d∈qdH sops,d∈D.ds)→Sim nt D sl a→HSim fr hs w→regS P H Y sops sl hs K→wpOpsIn (FW r) 0 P ops Q τ a w
 | [],sops,sl,hs,a,w,ht,hds,hsl,hw,h=>by
  simp [qXR] at ht;subst ht
  exact hQ sl hs a w h hsl hw
 | i :: τ,sops,sl,hs,a,w,ht,hds,hsl,hw,h=>by
  simp only [qXR] at ht
  split at ht
  ·cases ht
  ·rename_i o ho
   split at ht
   ·cases ht
   ·rename_i so hso
    split at ht
    ·cases ht
    ·rename_i rest hrest
     simp at ht;subst ht
     obtain⟨hop,hdst,hlt0⟩:=qaF hso
     obtain⟨hd0,hds⟩:=qsN hds
     have hlt:∀ d,o.dst=some d→d<nt∧d∈D.ds:=fun d h=>⟨hlt0 d h,hd0 d (hdst.trans h)⟩
     have ih:=qLJ (ops:=ops) (r:=r) hH hY hQ τ rest
     rw [wpOpsIn_cons]
     unfold wpOpIn
     simp only [ho]
     rw [qlR] at h
     rcases q0H hso hsl h with ⟨hwant,sl1,h1,hsl1⟩|⟨hwant,sl1,h1,hsl1⟩
     ·rw [if_pos hwant]
      have cont:∀ s hs' w',(qEB so.dst sl1 s fun sl=>regS P H Y rest sl hs' K)→HSim fr hs' w'→wpOpsIn (FW r) 0 P ops Q τ (a.put o.dst (conc s)) w':=fun s hs' w' hk hsim=>by
       rw [hdst] at hk
       obtain⟨sl2,hk2,hsl2⟩:=hsl1.putd hlt s (k:=fun sl=>regS P H Y rest sl hs' K) hk
       exact ih sl2 hs' _ w' hrest hds hsl2 hsim hk2
      unfold opS at h1
      cases hrd:so.op.reads with
      | true =>
       simp only [hrd] at h1
       obtain⟨s,hk,hrun⟩:=qQK hop hrd hsl1.slots h1
       exact qiA (qkD hop).1 (hrun fr w hw) (cont s hs w hk hw)
      | false =>
       simp only [hrd] at h1
       exact qMQ hH hY hop hrd hsl1.slots h1 hw cont
     ·rw [hwant]
      refine⟨fun _ _=>trivial,?_⟩
      rw [hdst] at h1
      obtain⟨sl2,hk2,hsl2⟩:=hsl1.putd hlt (.v undef) (k:=fun sl=>regS P H Y rest sl hs K) h1
      exact ih sl2 hs _ w hrest hds hsl2 hw hk2
/- A symbolic evaluator over the model's code,part 9: statements that leave their order open. -/
open Go.RowKit
def isW (P:Program) (o:Oper):Bool:=match o.op with
 | .store ..=>true
 | .insert ..=>true
 | .mapUpdate ..=>true
 | .call c=>match c.callee with
  | .builtin .append=>true
  | .builtin .copy=>true
  | .value (.func f)=>match P.funcs[f]? with
   | some fn=>qsO fn
   | none=>false
  | _=>false
 | _=>false
def WW (P:Program) (ops:Array Oper) (i:Nat):Bool:=match ops[i]? with
 | some o=>isW P o
 | none=>false
def depB (ops:Array Oper):Nat→Nat→Nat→Bool
 | 0,_,_=>false
 | n+1,i,j=>match ops[j]? with
  | none=>false
  | some o=>o.after.any fun e=>Region.binds .any e&&(e.on==i||depB ops n i e.on)
theorem qOL {ops:Array Oper} {n i j:Nat} (h:depB ops (n+1) i j=true):∃ o,ops[j]?=some o∧∃ e∈o.after,Region.binds .any e=true∧(e.on=i∨depB ops n i e.on=true):=by
 simp only [depB] at h
 split at h
 ·cases h
 ·rename_i o ho
  obtain⟨e,he,hb⟩:=Array.any_eq_true'.1 h
  simp only [Bool.and_eq_true,Bool.or_eq_true,beq_iff_eq] at hb
  exact⟨o,ho,e,he,hb⟩
def frc {α:Type} (n:Nat) (k:Nat→α):α:=match n with | 0=>k 0|m+1=>k (m+1)
theorem qkV {α:Type} (n:Nat) (k:Nat→α):frc n k=k n:=by cases n<;>rfl
def lkM:List (Nat×Nat)→Nat→Nat
 | [],_=>0
 | (k,v) :: r,i=>match Nat.beq k i with
  | true=>v
  | false=>lkM r i
def oneM (acc:List (Nat×Nat)) (o:Oper):Nat:=o.after.toList.foldl (fun s e=>if Region.binds .any e then s ||| 2 ^ e.on ||| lkM acc e.on else s) 0
def ancL:List Oper→Nat→List (Nat×Nat)→List (Nat×Nat)
 | [],_,acc=>acc
 | o :: r,j,acc=>frc (oneM acc o) fun v=>ancL r (j+1) ((j,v) :: acc)
def depF (ops:Array Oper) (i j:Nat):Bool:=Nat.testBit (lkM (ancL ops.toList 0 []) j) i
theorem qZS {ops:Array Oper} {i:Nat}:∀ (n j:Nat),depB ops n i j=true→depB ops (n+1) i j=true
 | 0,j,h=>by simp [depB] at h
 | n+1,j,h=>by
  obtain⟨o,ho,e,he,hb,hor⟩:=qOL h
  show(match ops[j]? with
   | none=>false
   | some o=>o.after.any fun e=>Region.binds .any e&&(e.on==i||depB ops (n+1) i e.on))=true
  rw [ho]
  refine Array.any_eq_true'.2 ⟨e,he,?_⟩
  rw [hb]
  rcases hor with hor|hor
  ·simp [hor]
  ·simp [qZS n _ hor]
theorem qaS {ops:Array Oper} {i j n m:Nat} (h:depB ops n i j=true) (k:n≤m):depB ops m i j=true:=by
 induction k with
 | refl=>exact h
 | step _ ih=>exact qZS _ _ ih
theorem qWO {acc:List (Nat×Nat)} {i:Nat}:∀ (l:List Edge) (s:Nat),Nat.testBit (l.foldl (fun s e=>if Region.binds .any e then s ||| 2 ^ e.on ||| lkM acc e.on else s) s) i=true→Nat.testBit s i=true∨∃ e∈l,Region.binds .any e=true∧(e.on=i∨Nat.testBit (lkM acc e.on) i=true)
 | [],s,h=>.inl h
 | e :: r,s,h=>by
  rw [List.foldl_cons] at h
  rcases qWO r _ h with h|⟨e',he',hb,hor⟩
  ·split at h
   ·rename_i hb
    rw [Nat.testBit_or,Nat.testBit_or,Bool.or_eq_true,Bool.or_eq_true] at h
    rcases h with (h|h)|h
    ·exact .inl h
    ·rw [Nat.testBit_two_pow] at h
     exact .inr ⟨e,by simp,hb,.inl (by simpa using h)⟩
    ·exact .inr ⟨e,by simp,hb,.inr h⟩
   ·exact .inl h
  ·exact .inr ⟨e',by simp [he'],hb,hor⟩
theorem qpO {ops:Array Oper}:∀ (l:List Oper) (j:Nat) (acc:List (Nat×Nat)),ops.toList.drop j=l→(∀ k i,Nat.testBit (lkM acc k) i=true→k<j∧depB ops (k+1) i k=true)→∀ k i,Nat.testBit (lkM (ancL l j acc) k) i=true→k<ops.size∧depB ops (k+1) i k=true
 | [],j,acc,hd,h,k,i,hk=>by
  have hj:ops.size≤j:=by have:=congrArg List.length hd;simp at this;omega
  obtain⟨h1,h2⟩:=h k i hk
  refine⟨?_,h2⟩
  rcases Nat.lt_or_ge k ops.size with hl|hl
  ·exact hl
  ·simp [depB,Array.getElem?_eq_none hl] at h2
 | o :: r,j,acc,hd,h,k,i,hk=>by
  rw [ancL,qkV] at hk
  have hoj:ops.toList[j]?=some o:=by
   have:(ops.toList.drop j)[0]?=some o:=by rw [hd];rfl
   simpa [List.getElem?_drop] using this
  have hoj':ops[j]?=some o:=by simpa using hoj
  have hdr:ops.toList.drop (j+1)=r:=by
   have:(ops.toList.drop j).drop 1=r:=by rw [hd];rfl
   simpa [List.drop_drop,Nat.add_comm] using this
  refine qpO r (j+1) _ hdr (fun k i hb=>?_) k i hk
  simp only [lkM] at hb
  cases hbe:Nat.beq j k with
  | false =>
   rw [hbe] at hb
   obtain⟨h1,h2⟩:=h k i hb
   exact⟨by omega,h2⟩
  | true =>
   rw [hbe] at hb
   obtain rfl:=Nat.eq_of_beq_eq_true hbe
   refine⟨Nat.lt_succ_self _,?_⟩
   rcases qWO _ _ hb with h0|⟨e,he,hbi,hor⟩
   ·simp at h0
   ·show(match ops[j]? with
     | none=>false
     | some o=>o.after.any fun e=>Region.binds .any e&&(e.on==i||depB ops j i e.on))=true
    rw [hoj']
    refine Array.any_eq_true'.2 ⟨e,by simpa using he,?_⟩
    rw [hbi]
    rcases hor with hor|hor
    ·simp [hor]
    ·obtain⟨h1,h2⟩:=h e.on i hor
     simp [qaS h2 (show e.on+1≤j by omega)]
theorem qeT {ops:Array Oper} {i j:Nat} (h:depF ops i j=true):depB ops ops.size i j=true:=by
 obtain⟨h1,h2⟩:=qpO ops.toList 0 [] rfl (fun k i hb=>by simp [lkM] at hb) j i h
 exact qaS h2 h1
theorem qnU {ops:Array Oper} {i j:Nat} (h:depB ops ops.size i j=false):depF ops i j=false:=by
 cases hf:depF ops i j with
 | false=>rfl
 | true=>rw [qeT hf] at h;cases h
def DC (ops:Array Oper) (listed:Array Bool):Prop:=∀ k o,listed.getD k false=true→ops[k]?=some o→∀ e∈o.after,Region.binds .any e=true→listed.getD e.on false=true
theorem DC.dep {ops:Array Oper} {listed:Array Bool} (h:DC ops listed) {i:Nat} (hi:listed.getD i false=false):∀ (n k:Nat),listed.getD k false=true→depB ops n i k=false
 | 0,k,_=>rfl
 | n+1,k,hk=>by
  cases hd:depB ops (n+1) i k with
  | false=>rfl
  | true =>
   obtain⟨o,ho,e,he,hb,hor⟩:=qOL hd
   have hl:=h k o hk ho e he hb
   rcases hor with rfl|hor
   ·rw [hi] at hl;cases hl
   ·rw [DC.dep h hi n _ hl] at hor;cases hor
theorem qlP {listed:Array Bool} {j:Nat} (h:listed.getD j true=false):listed.getD j false=false:=by
 rcases Nat.lt_or_ge j listed.size with h' | h'
 ·simp [h'] at h ⊢;exact h
 ·simp [Array.getElem?_eq_none h'] at h
theorem DC.ready {ops:Array Oper} {listed:Array Bool} (h:DC ops listed) {j:Nat} (hj:j∈Region.ready .any ops listed):DC ops (listed.setIfInBounds j true):=by
 obtain⟨hun,oj,hoj,hall⟩:=mem_ready.1 hj
 intro k o hk ho e he hb
 by_cases hkj:k=j
 ·subst hkj
  rw [hoj] at ho;cases ho
  exact getD_set_true (hall e he hb)
 ·rw [getD_set_ne false (Ne.symm hkj)] at hk
  exact getD_set_true (h k o hk ho e he hb)
theorem DC.notDep {ops:Array Oper} {listed:Array Bool} (h:DC ops listed) {i j:Nat} (hi:listed.getD i true=false) (hj:j∈Region.ready .any ops listed) (n:Nat):depB ops n i j=false:=by
 cases n with
 | zero=>rfl
 | succ n =>
  cases hd:depB ops (n+1) i j with
  | false=>rfl
  | true =>
   obtain⟨o,ho,e,he,hb,hor⟩:=qOL hd
   obtain⟨hun,oj,hoj,hall⟩:=mem_ready.1 hj
   rw [hoj] at ho;cases ho
   have hl:=hall e he hb
   rcases hor with rfl|hor
   ·rw [qlP hi] at hl;cases hl
   ·rw [h.dep (qlP hi) n _ hl] at hor;cases hor
section
variable {P:Program} {ops:Array Oper} {r:Option Nat}
def QN (K:Act→World→Prop):Exit→Act→World→Prop
 | .normal,a,w=>K a w
 | _,_,_=>False
structure Took where
 i:Nat
 o:Oper
 v:Value
 a:Act
def qOR (ops:Array Oper) (o:Oper) (a a':Act):Prop:=execOp a'.eval o=execOp a.eval o∧Region.wanted o (yielded ops a'.tmps)=Region.wanted o (yielded ops a.tmps)
def anyK (r:Option Nat) (P:Program) (ops:Array Oper) (nd:Nat) (K:Act→World→Prop):Nat→List Took→(World→Prop)→Array Bool→Act→World→Prop
 | 0,_,_,listed,a,w=>Region.ready .any ops listed=[]∧K a w
 | fuel+1,Φ,S,listed,a,w =>
  (Region.ready .any ops listed=[]→K a w) ∧
  ∀ i∈Region.ready .any ops listed,wpOpIn (FW r) 0 P ops (QN K) i (fun a' w' =>
   (WW P ops i=false∧S w'∧anyK r P ops nd K fuel Φ S (listed.setIfInBounds i true) a' w') ∨
   (WW P ops i=true∧∃ S',S' w'∧(∀ p∈Φ,depB ops nd p.i i=false→YieldsIf P ops S' p.o p.v p.a)∧anyK r P ops nd K fuel Φ S' (listed.setIfInBounds i true) a' w')) a w
theorem qXN {nd:Nat} {K:Act→World→Prop}:∀ (fuel:Nat) (Φ:List Took) (S:World→Prop) (listed:Array Bool) (a:Act) (w:World),anyK r P ops nd K fuel Φ S listed a w→wpAnyIn (FW r) 0 P .any ops (QN K) fuel listed a w
 | 0,_,_,_,_,_,h=>h
 | fuel+1,Φ,S,_,_,_,h=>⟨h.1,fun i hi=>wpOpIn_mono (fun a' w' h'=>by
   rcases h' with ⟨_,_,h'⟩|⟨_,S',_,_,h'⟩
   ·exact qXN fuel Φ S _ a' w' h'
   ·exact qXN fuel Φ S' _ a' w' h') (h.2 i hi)⟩
theorem qCG {nd:Nat} {K:Act→World→Prop} {Φ Φ':List Took} (hΦ:∀ p∈Φ,p∈Φ') {S S':World→Prop} (hS:∀ w,S' w→S w):∀ (fuel:Nat) (listed:Array Bool) (a:Act) (w:World),anyK r P ops nd K fuel Φ' S' listed a w→anyK r P ops nd K fuel Φ S listed a w
 | 0,_,_,_,h=>h
 | fuel+1,_,_,_,h=>⟨h.1,fun i hi=>wpOpIn_mono (fun a' w' h'=>by
   rcases h' with ⟨h1,h2,h'⟩|⟨h1,S'',h2,h3,h'⟩
   ·exact .inl ⟨h1,hS _ h2,qCG hΦ hS fuel _ a' w' h'⟩
   ·exact .inr ⟨h1,S'',h2,fun p hp=>h3 p (hΦ p hp),qCG hΦ (fun _ h=>h) fuel _ a' w' h'⟩) (h.2 i hi)⟩
def qXB (o:Oper):Prop:=(∀ cs b,o.op≠.select cs b)∧∀ c,o.op≠.defer c
theorem qFD {K:Act→World→Prop} {Q:Exit→Act→World→Prop} {S:World→Prop} {i:Nat} {o:Oper} {v:Value} {a:Act} (hi:ops[i]?=some o) (hp:qXB o) (hy:YieldsIf P ops S o v a) {w:World} (hS:S w) (h:K (a.put o.dst v) w) :
  wpOpIn (FW r) 0 P ops Q i K a w:=by
 unfold wpOpIn
 simp only [hi]
 rcases hy with ⟨hw,hv⟩|⟨hw,rfl⟩
 ·rw [if_pos hw];exact qiA hp.2 (hv w hS) h
 ·rw [hw];exact⟨fun _ _=>trivial,h⟩
theorem qYL {j:Nat} {oi oj:Oper} {v:Value} (hj:ops[j]?=some oj) (hap:oi.apart ops oj=true) (hpi:qXB oi) (hpj:qXB oj) {KN K:Act→World→Prop} {a0 a:Act} {w:World}
  (hy:qOR ops oi a0 a) (h:wpOpIn (FW r) 0 P ops (QN KN) j K (a.put oi.dst v) w) :
  wpOpIn (FW r) 0 P ops (QN KN) j (fun a' w'=>qOR ops oi a0 a'∧K (a'.put oi.dst v) w') a w:=by
 obtain⟨h1,h2,h3⟩:=Oper.apart_spec hap
 have keep:∀ (a:Act),qOR ops oi a0 a→∀ u,qOR ops oi a0 (a.put oj.dst u):=fun a hy u =>
  ⟨(execOp_put oi hpi.1 a oj.dst u h3).trans hy.1,(wanted_put oi a oj.dst u h3).trans hy.2⟩
 have keepD:∀ d,qOR ops oi a0 {a with defers:=d :: a.defers}:=fun d=>hy
 unfold wpOpIn at *
 simp only [hj] at *
 rw [wanted_put oj a oi.dst v h1] at h
 split
 ·rename_i hw
  simp only [hw,if_true] at h
  refine⟨fun _ _=>trivial,?_⟩
  have h:=h.2
  rw [Oper.semAt_eq _ _ _ hpj.2] at h ⊢
  rw [execOp_put oj hpj.1 a oi.dst v h1] at h
  generalize (execOp a.eval oj).run P w=rr at *
  cases rr with
  | ok n w' =>
   cases n<;>simp only [Oper.uponIn] at h ⊢
   case value u=>exact⟨keep a hy u,by rw [← Act.put_comm a v u h2];exact h⟩
   case skip=>exact⟨keep a hy _,by rw [← Act.put_comm a v undef h2];exact h⟩
   case defer d =>
    refine⟨keep _ (keepD d) _,?_⟩
    rw [← Act.put_comm _ v undef h2,← Act.put_defers]
    exact h
   case enter f args =>
    refine⟨h.1,CallsIn.mono h.2 fun e w'' he=>?_⟩
    cases e with
    | returned u=>exact⟨keep a hy u,by rw [← Act.put_comm a v u h2];exact he⟩
    | panicked c=>exact(show False from he).elim
    | outgrown=>exact he
   case row row args=>exact⟨h.1,RowsIn.mono h.2 fun u w'' he=>⟨keep a hy u,by rw [← Act.put_comm a v u h2];exact he⟩⟩
   case round l f tmps asg body =>
    refine⟨h.1,RoundIn.mono h.2 fun e w'' he=>?_⟩
    cases e with
    | returned u=>exact⟨keep a hy u,by rw [← Act.put_comm a v u h2];exact he⟩
    | panicked c=>exact(show False from he).elim
    | outgrown=>exact he
  | halt x w' =>
   cases x<;>simp only [Oper.uponIn] at h ⊢
   case panic u=>exact(show False from h).elim
 ·rename_i hw
  simp only [hw] at h
  exact⟨fun _ _=>trivial,keep a hy _,by rw [← Act.put_comm a v undef h2];exact h.2⟩
theorem quJ {nd:Nat} {K:Act→World→Prop} {i:Nat} {oi:Oper} {v:Value} {a0:Act} {Φ Φ':List Took} (hi:ops[i]?=some oi) (hplain:∀ (j:Nat) (o:Oper),ops[j]?=some o→qXB o) (hWi:WW P ops i=false)
  (hsub:∀ p∈Φ,p∈Φ') (hnx:∀ (S':World→Prop) j,depB ops nd i j=false→(∀ p∈Φ',depB ops nd p.i j=false→YieldsIf P ops S' p.o p.v p.a)→YieldsIf P ops S' oi v a0) :
  ∀ (fuel:Nat) (S:World→Prop) (listed:Array Bool) (a:Act) (w:World),
   (∀ j oj,ops[j]?=some oj→j≠i→listed.getD j true=false→(∀ e∈oj.after,Region.binds .any e=true→e.on≠i)→oi.apart ops oj=true)→DC ops listed →
   i∈Region.ready .any ops listed→qOR ops oi a0 a→YieldsIf P ops S oi v a0→S w →
   anyK r P ops nd K fuel Φ' S (listed.setIfInBounds i true) (a.put oi.dst v) w→anyK r P ops nd K (fuel+1) Φ S listed a w:=by
 intro fuel
 induction fuel with
 | zero =>
  intro S listed a w _ _ hr hsm hy hS H
  refine⟨fun h=>(by rw [h] at hr;cases hr),fun j hj=>?_⟩
  by_cases hji:j=i
  ·subst hji;exact qFD hi (hplain _ _ hi) (hy.of_same hsm.1 hsm.2) hS (.inl ⟨hWi,hS,H⟩)
  ·have:=ready_mono hj hji
   rw [H.1] at this
   cases this
 | succ fuel ih =>
  intro S listed a w hfree hdc hr hsm hy hS H
  refine⟨fun h=>(by rw [h] at hr;cases hr),fun j hj=>?_⟩
  by_cases hji:j=i
  ·subst hji;exact qFD hi (hplain _ _ hi) (hy.of_same hsm.1 hsm.2) hS (.inl ⟨hWi,hS,qCG hsub (fun _ h=>h) _ _ _ _ H⟩)
  ·have h1:=H.2 j (ready_mono hj hji)
   obtain⟨hjun,oj,hoj,hall⟩:=mem_ready.1 hj
   have hiun:=(mem_ready.1 hr).1
   have hnot:∀ e∈oj.after,Region.binds .any e=true→e.on≠i:=fun e he hb heq=>by
    have h1:=hall e he hb
    rw [heq,qlP hiun] at h1
    cases h1
   have h2:=qYL hoj (hfree j oj hoj hji hjun hnot) (hplain _ _ hi) (hplain _ _ hoj) hsm h1
   have hfree':∀ k ok,ops[k]?=some ok→k≠i→(listed.setIfInBounds j true).getD k true=false →
     (∀ e∈ok.after,Region.binds .any e=true→e.on≠i)→oi.apart ops ok=true:=fun k ok hk hki hun hno=>by
    refine hfree k ok hk hki ?_ hno
    by_cases hjk:j=k
    ·subst hjk;exact hjun
    ·rw [getD_set_ne true hjk] at hun;exact hun
   refine wpOpIn_mono (fun a' w' h3=>?_) h2
   obtain⟨hsm',h3⟩:=h3
   rcases h3 with ⟨hWj,hS',h3⟩|⟨hWj,S',hS',hΦ,h3⟩
   ·refine .inl ⟨hWj,hS',ih S (listed.setIfInBounds j true) a' w' hfree' (hdc.ready hj) (ready_mono hr (Ne.symm hji)) hsm' hy hS' ?_⟩
    rw [Array.setIfInBounds_comm _ _ hji]
    exact h3
   ·refine .inr ⟨hWj,S',hS',fun p hp=>hΦ p (hsub p hp),ih S' (listed.setIfInBounds j true) a' w' hfree' (hdc.ready hj) (ready_mono hr (Ne.symm hji)) hsm' (hnx S' j (hdc.notDep hiun hj nd) hΦ) hS' ?_⟩
    rw [Array.setIfInBounds_comm _ _ hji]
    exact h3
end
def q4L (ops:Array Oper):Bool:=ops.all fun o=>match o.op with
 | .select ..=>false
 | .defer _=>false
 | _=>true
theorem qqC {ops:Array Oper} (h:q4L ops=true) (j:Nat) (o:Oper) (ho:ops[j]?=some o):qXB o:=by
 have:=Array.all_eq_true_iff_forall_mem.1 h o (Array.mem_of_getElem? ho)
 refine⟨fun cs b heq=>?_,fun c heq=>?_⟩<;>simp [heq] at this
def noY:qsA:=fun _ _ _ _=>False
def qyN (o:SOp) (H HW:qIA):qIA:=match o with
 | .callw ..=>HW
 | _=>H
theorem qtR {P:Program} {fr:Fr} {H HW:qIA} (h:SndH P fr H) (hw:SndH P fr HW) (o:SOp):SndH P fr (qyN o H HW):=by
 cases o<;>first|exact h|exact hw
theorem qeS {P:Program} {fr:Fr} {H HW:qIA} (hH:SndB P H) {o:Oper} {so:SOp} (ht:trOp P o=some so) (hrd:so.reads=false) (hW:isW P o=false) {sl:Sl} {a:Act} (hsl:qwD sl a) {hs:Hs} {K:SV→Hs→Prop} (h:chS P (qyN so H HW) noY so sl hs K)
  {w:World} (hw:HSim fr hs w) {next:Act→World→Prop} {Q:Exit→Act→World→Prop} {r:Option Nat} (hn:∀ s hs' w',K s hs'→Below w.heap.size w w'→HSim fr hs' w'→next (a.put o.dst (conc s)) w'):o.wpIn (FW r) 0 P a w next Q:=by
 obtain⟨hd,_⟩:=qkD ht
 have callG:∀ (f:FuncId) (args:List SV) (A:Array Value),A=(qAA args).toArray→(execOp a.eval o).run P w=.ok (.enter f A) w→H noY f args hs K→o.wpIn (FW r) 0 P a w next Q:=fun f args A hA hr hc=>by
  subst hA
  refine qwL hd hr ((hH noY f args hs K hc fr w hw).mono ?_)
  rintro e w'' ⟨v,hs',rfl,hb,hsim,hk⟩
  exact⟨_,rfl,hn _ _ _ hk hb hsim⟩
 unfold trOp at ht
 split at ht
 ·simp at ht;subst ht;simp [SOp.reads] at hrd
 ·simp at ht;subst ht;simp [SOp.reads] at hrd
 ·simp at ht;subst ht;simp [SOp.reads] at hrd
 ·exfalso
  split at ht<;>(try (split at ht))<;>first|(cases ht;done)|(simp at ht;subst ht;simp [SOp.reads] at hrd;done)|(obtain⟨ks,_,rfl⟩:=Option.map_eq_some_iff.1 ht;simp [SOp.reads] at hrd)
 ·simp at ht;subst ht;simp [SOp.reads] at hrd
 ·exfalso
  split at ht<;>(try (split at ht))<;>first|(cases ht;done)|(simp at ht;subst ht;simp [SOp.reads] at hrd;done)|(obtain⟨ks,_,rfl⟩:=Option.map_eq_some_iff.1 ht;simp [SOp.reads] at hrd)
 ·exfalso
  split at ht<;>(try (split at ht))<;>first|(cases ht;done)|(simp at ht;subst ht;simp [SOp.reads] at hrd;done)|(obtain⟨ks,_,rfl⟩:=Option.map_eq_some_iff.1 ht;simp [SOp.reads] at hrd)
 ·exfalso
  split at ht<;>(try (split at ht))<;>(try (split at ht))<;>first|(cases ht;done)|(simp at ht;subst ht;simp [SOp.reads] at hrd;done)|(obtain⟨ks,_,rfl⟩:=Option.map_eq_some_iff.1 ht;simp [SOp.reads] at hrd)
 ·exfalso
  split at ht<;>(try (split at ht))<;>(try (split at ht))<;>first|(cases ht;done)|(simp at ht;subst ht;simp [SOp.reads] at hrd;done)|(obtain⟨ks,_,rfl⟩:=Option.map_eq_some_iff.1 ht;simp [SOp.reads] at hrd)
 ·exfalso
  split at ht<;>(try (split at ht))<;>first|(cases ht;done)|(simp at ht;subst ht;simp [SOp.reads] at hrd;done)|(obtain⟨ks,_,rfl⟩:=Option.map_eq_some_iff.1 ht;simp [SOp.reads] at hrd)
 ·exfalso
  split at ht<;>(try (split at ht))<;>first|(cases ht;done)|(simp at ht;subst ht;simp [SOp.reads] at hrd;done)|(obtain⟨ks,_,rfl⟩:=Option.map_eq_some_iff.1 ht;simp [SOp.reads] at hrd)
 ·simp at ht;subst ht;simp [SOp.reads] at hrd
 ·simp at ht;subst ht;simp [SOp.reads] at hrd
 ·simp at ht;subst ht;simp [SOp.reads] at hrd
 ·exfalso
  split at ht<;>(try (split at ht))<;>first|(cases ht;done)|(simp at ht;subst ht;simp [SOp.reads] at hrd;done)|(obtain⟨ks,_,rfl⟩:=Option.map_eq_some_iff.1 ht;simp [SOp.reads] at hrd)
 ·exfalso
  split at ht<;>(try (split at ht))<;>(try (split at ht))<;>first|(cases ht;done)|(simp at ht;subst ht;simp [SOp.reads] at hrd;done)|(obtain⟨ks,_,rfl⟩:=Option.map_eq_some_iff.1 ht;simp [SOp.reads] at hrd)
 ·exfalso;rename_i ho;simp [isW,ho] at hW
 ·-- alloc
  rename_i t ho
  split at ht
  ·rename_i z hz
   simp at ht;subst ht
   obtain⟨w',s,hs',hr,hb,hsim,hk⟩:=qUL (show qPM t (z.map SV.v) hs K from h) hz hw
   exact qiA hd (by simp only [execOp,ho];exact qmC hr) (hn _ _ _ hk hb hsim)
  ·cases ht
 ·-- box
  rename_i t x ho
  simp at ht;subst ht
  simp only [chS] at h
  obtain⟨x',h1,e1⟩:=Opd.k_spec (k:=fun x=>boxS t x hs K) h hsl
  obtain⟨w',s,hs',hr,hb,hsim,hk⟩:=qmO (P:=P) h1 hw
  exact qiA hd (by simp only [execOp,ho,e1];exact qmC hr) (hn _ _ _ hk hb hsim)
 ·-- buildSlice
  rename_i t len parts ho
  split at ht
  ·rename_i e hu
   split at ht
   ·rename_i size z hsz hz
    split at ht
    ·rename_i hc
     obtain⟨hle,hpos,hzl⟩:=hc
     simp at ht;subst ht
     simp only [chS] at h
     obtain⟨cells,hk,hf⟩:=qKG hsl (fun i=>some (i*size,size)) parts.toList _ _ (by simp) h
     obtain⟨w',s,hs',hr,hb,hsim,hk⟩:=qlO (P:=P) (t:=t) (parts:=parts.map fun (i,x)=>(i,a.eval x)) hk hu hsz hz hzl hpos hle (by
      simp only [Array.toList_map]
      rw [← hf]
      congr 2
      rw [show(List.replicate len (List.map SV.v z)).flatten=((List.replicate len z).flatten).map SV.v by simp [List.map_flatten],qLI]) hw
     exact qiA hd (by simp only [execOp,ho];exact qmC hr) (hn _ _ _ hk hb hsim)
    ·cases ht
   ·cases ht
  ·cases ht
 ·-- makeSlice
  rename_i t l c ho
  split at ht
  ·rename_i e hu
   split at ht
   ·rename_i i z hi hz
    split at ht
    ·rename_i hc
     simp at ht;subst ht
     simp only [chS] at h
     obtain⟨x',h1,e1⟩:=Opd.k_spec (k:=fun x=>Opd.k hs.rs sl (qFA c) fun y=>mslS e i.size i.bytes z x y hs K) h hsl
     obtain⟨y',h2,e2⟩:=Opd.k_spec (k:=fun y=>mslS e i.size i.bytes z x' y hs K) h1 hsl
     obtain⟨w',s,hs',hr,hb,hsim,hk⟩:=qLO h2 hu hi hz hc.2 hw
     exact qiA hd (by simp only [execOp,ho,e1,e2];exact qmC hr) (hn _ _ _ hk hb hsim)
    ·cases ht
   ·cases ht
  ·cases ht
 ·-- makeMap
  rename_i t x ho
  split at ht
  ·rename_i ik et hmt
   split at ht
   ·rename_i hh
    simp at ht;subst ht
    obtain⟨w',s,hs',hr,hb,hsim,hk⟩:=qMO (a:=a) (show mkmS ik hs K from h) hmt hh hw
    exact qiA hd (by simp only [execOp,ho];exact qmC hr) (hn _ _ _ hk hb hsim)
   ·cases ht
  ·cases ht
 ·exfalso;rename_i ho;simp [isW,ho] at hW
 ·exfalso;rename_i ho;simp [isW,ho] at hW
 ·exfalso
  split at ht<;>(try (split at ht))<;>first|(cases ht;done)|(simp at ht;subst ht;simp [SOp.reads] at hrd;done)
 ·-- call
  rename_i c ho
  split at ht
  ·exfalso
   split at ht<;>(try (split at ht))<;>first|(cases ht;done)|(simp at ht;subst ht;simp [SOp.reads] at hrd;done)|(obtain⟨ks,_,rfl⟩:=Option.map_eq_some_iff.1 ht;simp [SOp.reads] at hrd)
  ·exfalso
   split at ht<;>first|(cases ht;done)|(simp at ht;subst ht;simp [SOp.reads] at hrd;done)|(obtain⟨ks,_,rfl⟩:=Option.map_eq_some_iff.1 ht;simp [SOp.reads] at hrd)
  ·exfalso;rename_i hc;simp [isW,ho,hc] at hW
  ·exfalso;rename_i hc;simp [isW,ho,hc] at hW
  ·-- a function
   rename_i f hc
   split at ht
   ·rename_i fn hf
    split at ht
    ·rename_i hcond
     have hne:qsO fn=false:=by simp only [isW,ho,hc,hf] at hW;exact hW
     rw [hne] at ht
     simp at ht;subst ht
     simp only [chS,qyN] at h
     obtain⟨args,hk,he⟩:=Opd.ks_spec hsl c.args.toList h
     have hok:FnOk P f:=⟨fn,hf,by simp at hcond;simpa using hcond.1,by simp at hcond;simpa using hcond.2⟩
     refine callG f args (c.args.map a.eval) (by apply Array.ext';simp [he]) ?_ hk
     have:=qLB hok (c.args.map a.eval) w
     simp only [execOp,ho,resolve,hc]
     simp [Deferred.ofValue,Act.eval,invoke] at this ⊢
     exact this
    ·cases ht
   ·cases ht
  ·-- a value
   rename_i g _ hc
   simp at ht;subst ht
   simp only [chS,qyN] at h
   obtain⟨f,h1,e1⟩:=Opd.k_spec (k:=fun f=>Opd.ks hs.rs sl (c.args.toList.map qFA) fun args=>qjO P H noY f args hs K) h hsl
   obtain⟨args,h2,e2⟩:=Opd.ks_spec hsl c.args.toList h1
   have hA:c.args.map a.eval=(qAA args).toArray:=by apply Array.ext';simp [e2]
   unfold qjO at h2
   split at h2
   ·rename_i k first caps
    obtain⟨hok,hk⟩:=h2
    refine callG k _ ((qAA first).toArray++(qAA args).toArray++(qAA caps).toArray) (by rw [qsD];simp) ?_ hk
    have:=qLB hok ((qAA first).toArray++(qAA args).toArray++(qAA caps).toArray) w
    simp only [execOp,ho,resolve,hc,e1,hA]
    simp [Deferred.ofValue,conc,invoke] at this ⊢
    exact this
   ·rename_i k first caps
    obtain⟨hok,hk⟩:=h2
    obtain⟨first',caps',⟨rfl,rfl⟩,hk2⟩:∃ first' caps',(qAA first'=first∧qAA caps'=caps)∧H noY k (first'++args++caps') hs K:=by
     split at hk
     ·exact⟨[],[],⟨rfl,rfl⟩,by simpa using hk⟩
     ·exact hk
    refine callG k _ ((qAA first').toArray++(qAA args).toArray++(qAA caps').toArray) (by rw [qsD];simp) ?_ hk2
    have:=qLB hok ((qAA first').toArray++(qAA args).toArray++(qAA caps').toArray) w
    simp only [execOp,ho,resolve,hc,e1,hA]
    simp [Deferred.ofValue,conc,invoke] at this ⊢
    exact this
   ·exfalso;split at h2
    ·exact h2.2
    ·exact h2
   ·exact h2.elim
  ·cases ht
 ·cases ht
theorem qxM (P:Program) (fr:Fr):SndY P fr noY:=fun _ _ _ _ _ _ h=>h.elim
def qPQ (S:World→Prop):Prop:=∀ w w',S w→Below w.heap.size w w'→S w'
def Knows (hs:Hs) (w:World):Prop:=∃ fr,HSim fr hs w
theorem Knows.stable (hs:Hs):qPQ (Knows hs):=fun _ _ ⟨fr,h⟩ hb=>⟨fr,h.agree hb⟩
inductive OI where
 | nil
 | first (i:Nat) (t:OI)
 | exec (i:Nat) (t:OI)
 | bring (i:Nat) (t:OI)
 | alt (a b:OI)
structure DOp where
 i:Nat
 keep:Bool
 chk:List Nat
 o:SOper
 deriving Inhabited
inductive OT where
 | nil
 | op (d:DOp) (t:OT)
 | bring (d:DOp) (t:OT)
 | alt (a b:OT)
 deriving Inhabited
def memN (n:Nat):List Nat→Bool
 | []=>false
 | m :: r=>match Nat.beq m n with
  | true=>true
  | false=>memN n r
theorem memN_spec {n:Nat}:∀ {l:List Nat},memN n l=true↔n∈l
 | []=>by simp [memN]
 | m :: r=>by
  simp only [memN]
  cases h:Nat.beq m n with
  | true=>simp [Nat.eq_of_beq_eq_true h]
  | false =>
   simp only [List.mem_cons];rw [memN_spec];have:=Nat.ne_of_beq_eq_false h;constructor
   ·exact fun h=>.inr h
   ·rintro(h|h);exact absurd h.symm this;exact h
abbrev Pd:=List (Nat×SOp×Sl×SV)
def chkS (chk:List Nat) (hs:Hs) (k:Prop):Pd→Prop
 | []=>k
 | (i,o,sl,x) :: r=>match memN i chk with
  | true=>rdS o sl hs (fun y=>conc y=conc x)∧chkS chk hs k r
  | false=>chkS chk hs k r
theorem qeD {chk:List Nat} {hs:Hs} {k:Prop}:∀ {pd:Pd},chkS chk hs k pd→k∧∀ i o sl x,(i,o,sl,x)∈pd→i∈chk→rdS o sl hs (fun y=>conc y=conc x)
 | [],h=>⟨h,fun _ _ _ _ h=>by cases h⟩
 | (j,o,sl,x) :: r,h=>by
  simp only [chkS] at h
  split at h
  ·obtain⟨h1,h2⟩:=h
   obtain⟨h3,h4⟩:=qeD h2
   refine⟨h3,fun i' o' sl' x' hm hc=>?_⟩
   rcases List.mem_cons.1 hm with he|hm
   ·cases he;exact h1
   ·exact h4 _ _ _ _ hm hc
  ·rename_i hn
   obtain⟨h3,h4⟩:=qeD h
   refine⟨h3,fun i' o' sl' x' hm hc=>?_⟩
   rcases List.mem_cons.1 hm with he|hm
   ·cases he
    have:memN j chk=true:=memN_spec.2 hc
    rw [this] at hn;cases hn
   ·exact h4 _ _ _ _ hm hc
def addP (d:DOp) (sl:Sl) (x:SV) (pd:Pd):Pd:=match d.keep with
 | true=>(d.i,d.o.op,sl,x) :: pd
 | false=>pd
abbrev RT:=Pd→Sl→Hs→(Sl→Hs→Prop)→Prop
def rtN:RT:=fun _ sl hs K=>K sl hs
def rtO (P:Program) (H HW:qIA) (d:DOp) (ih:RT):RT:=fun pd sl hs K=>q0F sl d.o.g
  (fun sl=>opS P (qyN d.o.op H HW) noY d.o.op sl hs fun x hs'=>chkS d.chk hs' (qEB d.o.dst sl x fun sl'=>ih (addP d sl x pd) sl' hs' K) pd)
  (fun sl=>chkS d.chk hs (qEB d.o.dst sl (.v undef) fun sl'=>ih pd sl' hs K) pd)
def rtB (P:Program) (H HW:qIA) (lo:Nat) (d:DOp) (ih:RT):RT:=fun pd sl hs K=>match hs with
 | ⟨hg,hr,hn,hl⟩=>hl=lo∧rtO P H HW d ih pd sl ⟨hg,hr,hn,hl⟩ K
theorem q5S {P:Program} {H HW:qIA} {lo:Nat} {d:DOp} {ih:RT} {pd:Pd} {sl:Sl} {hs:Hs} {K:Sl→Hs→Prop} (h:rtB P H HW lo d ih pd sl hs K):hs.lo=lo∧rtO P H HW d ih pd sl hs K:=by
 cases hs;exact h
def rtA (a b:RT):RT:=fun pd sl hs K=>a pd sl hs K∧b pd sl hs K
def regT (P:Program) (H HW:qIA) (lo:Nat) (t:OT):RT:=OT.rec (motive:=fun _=>RT) rtN (fun d _ ih=>rtO P H HW d ih) (fun d _ ih=>rtB P H HW lo d ih) (fun _ _ a b=>rtA a b) t
def qtB:OT→List Nat
 | .nil=>[]
 | .op d t=>(match d.o.dst with
  | some n=>[n]
  | none=>[])++qtB t
 | .bring d t=>(match d.o.dst with
  | some n=>[n]
  | none=>[])++qtB t
 | .alt a b=>qtB a++qtB b
def trOT (P:Program) (nt:Nat) (ops:Array Oper):List Nat→OI→Option OT
 | _,.nil=>some .nil
 | done,.first i t=>match ops[i]? with
  | none=>none
  | some o=>match qbF P nt ops o with
   | none=>none
   | some so=>if so.op.reads then match trOT P nt ops (if so.op.pure then done else i :: done) t with
     | none=>none
     | some r=>some (.op ⟨i,!so.op.pure,[],so⟩ r)
    else none
 | done,.exec i t=>match ops[i]? with
  | none=>none
  | some o=>match qbF P nt ops o with
   | none=>none
   | some so=>match trOT P nt ops done t with
     | none=>none
     | some r=>some (.op ⟨i,false,if WW P ops i then done.filter (fun j=>!depF ops j i) else [],so⟩ r)
 | done,.bring i t=>match ops[i]? with
  | none=>none
  | some o=>match qbF P nt ops o with
   | none=>none
   | some so=>match trOT P nt ops done t with
     | none=>none
     | some r=>some (.bring ⟨i,false,[],so⟩ r)
 | done,.alt a b=>match trOT P nt ops done a with
  | none=>none
  | some a'=>match trOT P nt ops done b with
   | none=>none
   | some b'=>some (.alt a' b')
def qHL:OI→List Nat
 | .exec i _=>[i]
 | .alt a b=>qHL a++qHL b
 | _=>[]
def isAl (ops:Array Oper) (i:Nat):Bool:=match ops[i]? with
 | some o=>match o.op with
  | .alloc _=>match o.guard with
   | none=>match o.dst with
    | some d=>(List.range ops.size).all fun j=>j==i||(match ops[j]? with
     | some o'=>o'.dst != some d
     | none=>true)
    | none=>false
   | some _=>false
  | _=>false
 | none=>false
theorem qzF {ops:Array Oper} {i:Nat} (h:isAl ops i=true):∃ o ty d,ops[i]?=some o∧o.op=.alloc ty∧o.guard=none∧o.dst=some d∧∀ j o',j≠i→ops[j]?=some o'→o'.dst≠some d:=by
 unfold isAl at h
 split at h
 ·rename_i o ho
  split at h
  ·rename_i ty hop
   split at h
   ·rename_i hg
    split at h
    ·rename_i d hd
     refine⟨o,ty,d,ho,hop,hg,hd,fun j o' hj ho' hd'=>?_⟩
     have:=(List.all_eq_true.1 h) j (List.mem_range.2 (Array.getElem?_eq_some_iff.1 ho').1)
     simp [hj,ho',hd'] at this
    ·cases h
   ·cases h
  ·cases h
 ·cases h
def star (al:List Nat) (x:Nat) (listed:Array Bool):Array Bool:=al.foldl (fun l k=>if k==x then l else l.setIfInBounds k true) listed
theorem q1S (al:List Nat) (x:Nat):∀ (listed:Array Bool) (k:Nat),(star al x listed)[k]?=if k∈al∧k≠x then (listed[k]?).map (fun _=>true) else listed[k]?:=by
 induction al with
 | nil=>intro listed k;simp [star]
 | cons y r ih =>
  intro listed k
  show(star r x (if y==x then listed else listed.setIfInBounds y true))[k]?=_
  rw [ih]
  by_cases hyx:y=x
  ·subst hyx
   simp only [beq_self_eq_true,if_true,List.mem_cons]
   by_cases hk:k=y
   ·subst hk;simp
   ·simp [hk]
  ·simp only [beq_iff_eq,hyx,if_false,List.mem_cons,Array.getElem?_setIfInBounds]
   by_cases hk:y=k
   ·subst hk
    by_cases hs:y<listed.size
    ·simp [hyx,hs]
    ·simp [hyx,hs]
   ·have:¬ k=y:=fun e=>hk e.symm
    simp [hk,this]
def otOk (P:Program) (ops:Array Oper) (al:List Nat):Bool→OI→Array Bool→Bool
 | false,.nil,listed=>(Region.ready .any ops listed).isEmpty&&al.all (fun k=>listed.getD k false)
 | false,.first i t,listed=>(Region.ready .any ops listed).contains i&&Region.free .any ops listed i&&!WW P ops i&&!al.contains i&&otOk P ops al false t (listed.setIfInBounds i true)
 | false,.exec i t,listed=>(Region.ready .any ops (star al ops.size listed)==[i])&&(Region.ready .any ops listed).contains i&&!al.contains i&&otOk P ops al false t (listed.setIfInBounds i true)
 | false,.bring i t,listed=>(Region.ready .any ops (star al i listed)==[i])&&(Region.ready .any ops listed).contains i&&al.contains i&&otOk P ops al false t (listed.setIfInBounds i true)
 | false,.alt a b,listed=>(Region.ready .any ops (star al ops.size listed)).all (fun i=>(qHL a++qHL b).contains i)&&otOk P ops al true a listed&&otOk P ops al true b listed
 | true,.exec i t,listed=>(Region.ready .any ops listed).contains i&&!al.contains i&&otOk P ops al false t (listed.setIfInBounds i true)
 | true,.alt a b,listed=>otOk P ops al true a listed&&otOk P ops al true b listed
 | true,_,_=>false
def unl (listed:Array Bool):Nat:=listed.toList.count false
theorem quO {listed:Array Bool} {j n:Nat} (h:unl listed≤n+1) (hj:listed.getD j true=false):unl (listed.setIfInBounds j true)≤n:=by
 have hlt:j<listed.size:=by
  rcases Nat.lt_or_ge j listed.size with hlt|hge
  ·exact hlt
  ·rw [Array.getD_eq_getD_getElem?,Array.getElem?_eq_none hge] at hj;cases hj
 have he:listed.toList[j]=false:=by
  rw [Array.getD_eq_getD_getElem?,Array.getElem?_eq_getElem hlt] at hj
  simpa using hj
 unfold unl at *
 rw [Array.toList_setIfInBounds,List.count_set (by simpa using hlt)]
 rw [he]
 simp only [beq_self_eq_true,if_true]
 rw [if_neg (by decide)]
 have:=List.count_pos_iff.2 (show false∈listed.toList from he▸List.getElem_mem _)
 omega
theorem qQM {listed:Array Bool} {j:Nat} (hj:listed.getD j true=false):0<unl listed:=by
 have hlt:j<listed.size:=by
  rcases Nat.lt_or_ge j listed.size with hlt|hge
  ·exact hlt
  ·rw [Array.getD_eq_getD_getElem?,Array.getElem?_eq_none hge] at hj;cases hj
 have he:listed[j]=false:=by
  rw [Array.getD_eq_getD_getElem?,Array.getElem?_eq_getElem hlt] at hj
  simpa using hj
 unfold unl
 exact List.count_pos_iff.2 (by rw [← he];simp)
def Kept (P:Program) (ops:Array Oper) (done:List Nat) (pd:Pd) (Φ:List Took):Prop:=∀ p∈Φ,
 (p.i∈done∧Region.wanted p.o (yielded ops p.a.tmps)=true∧∃ op sl x,(p.i,op,sl,x)∈pd∧trOp P p.o=some op∧op.reads=true∧qwD sl p.a∧p.v=conc x) ∨
 (Region.wanted p.o (yielded ops p.a.tmps)=false∧p.v=undef)
theorem Kept.yields {P:Program} {ops:Array Oper} {done:List Nat} {pd:Pd} {Φ:List Took} (h:Kept P ops done pd Φ) {j:Nat} {hs:Hs} (hc:∀ i o sl x,(i,o,sl,x)∈pd→i∈done.filter (fun k=>!depF ops k j)→rdS o sl hs (fun y=>conc y=conc x)) :
  ∀ p∈Φ,depB ops ops.size p.i j=false→YieldsIf P ops (Knows hs) p.o p.v p.a:=fun p hp hd=>by
 rcases h p hp with ⟨hdn,hw,op,sl,x,hm,hop,hrd,hsl,hv⟩|⟨hw,hv⟩
 ·obtain⟨s,hs',hrun⟩:=qQK hop hrd hsl (hc _ _ _ _ hm (List.mem_filter.2 ⟨hdn,by simp [qnU hd]⟩))
  refine .inl ⟨hw,fun w ⟨fr,hw'⟩=>?_⟩
  rw [hv,← hs']
  exact hrun fr w hw'
 ·exact .inr ⟨hw,hv⟩
structure Early where
 i:Nat
 d:Nat
 b:Nat
 ty:TypeId
 z:List Value
def NoM (L:List Nat) (sl:Sl):Prop:=∀ d∈L,getS sl d=none
theorem NoM.cons {L:List Nat} {sl:Sl} (h:NoM L sl) {d:Nat} (hd:d ∉ L) (x:SV):NoM L ((d,x) :: sl):=fun n hn=>by
 simp only [getS]
 cases hb:Nat.beq d n with
 | true=>obtain rfl:=Nat.eq_of_beq_eq_true hb;exact absurd hn hd
 | false=>exact h n hn
theorem NoM.not {L:List Nat} {sl:Sl} (h:NoM L sl) {d:Nat} {x:SV} (hd:getS sl d=some x):d ∉ L:=fun hm=>by rw [h d hm] at hd;cases hd
theorem qFM {L:List Nat} {sl:Sl} (hn:NoM L sl) {g:Option (Nat×Bool)} {Yes No:Sl→Prop} (h:q0F sl g Yes No):q0F sl g (fun s=>NoM L s∧Yes s) (fun s=>NoM L s∧No s):=by
 cases g with
 | none=>exact⟨hn,h⟩
 | some g =>
  obtain⟨d,want⟩:=g
  simp only [q0F] at h ⊢
  split at h
  ·cases want<;>exact⟨hn,h⟩
  ·cases want<;>exact⟨hn,h⟩
  ·rename_i c he
   cases want<;>exact⟨fun hc=>⟨hn.cons (hn.not he) _,h.1 hc⟩,fun hc=>⟨hn.cons (hn.not he) _,h.2 hc⟩⟩
  ·exact⟨hn,h⟩
  ·exact h.elim
theorem qFH {L:List Nat} {sl:Sl} (hn:NoM L sl) {dst:Option Nat} (hd:∀ d,dst=some d→d ∉ L) {x:SV} {k:Sl→Prop} (h:qEB dst sl x k):qEB dst sl x (fun s=>NoM L s∧k s):=by
 cases dst with
 | none=>exact⟨hn,h⟩
 | some d=>exact⟨hn.cons (hd d rfl) _,h⟩
def dstL (ops:Array Oper) (al:List Nat):List Nat:=al.filterMap fun k=>(ops[k]?).bind (·.dst)
def pend (al:List Nat) (listed:Array Bool):List Nat:=al.filter fun k=>!listed.getD k true
theorem qRK {al:List Nat} {listed:Array Bool} {i:Nat}:∀ k,k∈pend al (listed.setIfInBounds i true)→k∈pend al listed∧k≠i:=fun k hk=>by
 obtain⟨h1,h2⟩:=List.mem_filter.1 hk
 by_cases hki:i=k
 ·subst hki
  simp only [Array.getD_eq_getD_getElem?,Array.getElem?_setIfInBounds] at h2
  exfalso
  by_cases hs:i<listed.size
  ·simp [hs] at h2
  ·simp [hs] at h2
 ·refine⟨List.mem_filter.2 ⟨h1,?_⟩,fun e=>hki e.symm⟩
  rwa [getD_set_ne true hki] at h2
theorem NoM.sub {L L':List Nat} {sl:Sl} (h:NoM L sl) (k:∀ d∈L',d∈L):NoM L' sl:=fun d hd=>h d (k d hd)
theorem qVN {ops:Array Oper} {l l':List Nat} (h:∀ k∈l',k∈l):∀ d∈dstL ops l',d∈dstL ops l:=fun d hd=>by
 obtain⟨k,hk,e⟩:=List.mem_filterMap.1 hd
 exact List.mem_filterMap.2 ⟨k,h k hk,e⟩
def AlOk (P:Program) (nt:Nat) (D:Pin) (ops:Array Oper) (al:List Nat):Prop:=∀ k∈al,isAl ops k=true∧(∃ o so,ops[k]?=some o∧qbF P nt ops o=some so)∧∀ o d,ops[k]?=some o→o.dst=some d→d∈D.ds
structure EOk (P:Program) (ops:Array Oper) (al:List Nat) (fr:Fr) (lo:Nat) (a:Act) (frE:Fr) (listed listedA:Array Bool) (E:List Early):Prop where
 mem:∀ e∈E,e.i∈pend al listed∧(∃ o,ops[e.i]?=some o∧o.op=.alloc e.ty∧o.dst=some e.d)∧q7I P e.ty=some e.z
 tmp:∀ e∈E,a.tmps[e.d]?=some (.pointer (some ⟨e.b,0,none⟩))
 heap:∀ e∈E,frE.w.heap[e.b]?=some (.cells e.z.toArray e.ty (0,0))∧lo≤e.b∧¬ fr.pr e.b
 nodI:(E.map (·.i)).Nodup
 nodB:(E.map (·.b)).Nodup
 ok:fr.ok frE.w
 low:lo≤frE.w.heap.size
 pr:∀ n,frE.pr n↔fr.pr n∨n∈E.map (·.b)
 g0:∀ n,frE.g0 n↔fr.g0 n∧n ∉ E.map (·.b)
 lst:∀ k:Nat,listedA[k]?=if k∈E.map (·.i) then (listed[k]?).map (fun _=>true) else listed[k]?
section
variable {P:Program} {ops:Array Oper} {al:List Nat} {fr frE:Fr} {lo:Nat} {a:Act} {listed listedA:Array Bool} {E:List Early}
theorem EOk.le (h:EOk P ops al fr lo a frE listed listedA E):fr.le frE :=
 ⟨fun w hw=>⟨hw.os.trans h.ok.os,hw.tape.trans h.ok.tape,hw.output.trans h.ok.output,Nat.le_trans h.ok.size hw.size,fun n hn=>(hw.block n ((h.pr n).2 (.inl hn))).trans (h.ok.block n hn)⟩,
  fun n hn=>⟨(h.pr n).2 (.inl hn),fun hg=>((h.g0 n).1 hg).1⟩⟩
theorem EOk.getD (h:EOk P ops al fr lo a frE listed listedA E) {k:Nat} (hk:k ∉ E.map (·.i)) (b:Bool):listedA.getD k b=listed.getD k b:=by
 rw [Array.getD_eq_getD_getElem?,Array.getD_eq_getD_getElem?,h.lst k,if_neg hk]
theorem EOk.getD_of (h:EOk P ops al fr lo a frE listed listedA E) {k:Nat} {b:Bool} (hk:listed.getD k b=true):listedA.getD k b=true:=by
 rw [Array.getD_eq_getD_getElem?] at hk ⊢
 rw [h.lst k]
 split
 ·cases hh:listed[k]? with
  | none=>rw [hh] at hk;simpa using hk
  | some x=>simp
 ·exact hk
theorem EOk.set (h:EOk P ops al fr lo a frE listed listedA E) {i:Nat} (hi:i ∉ al) {o:Oper} (hoi:ops[i]?=some o) (hal:∀ k∈al,isAl ops k=true) (v:Value):EOk P ops al fr lo (a.put o.dst v) frE (listed.setIfInBounds i true) (listedA.setIfInBounds i true) E:=by
 have hne:∀ e∈E,e.i≠i:=fun e he hc=>hi (hc▸(List.mem_filter.1 (h.mem e he).1).1)
 refine⟨fun e he=>⟨?_,(h.mem e he).2⟩,fun e he=>?_,h.heap,h.nodI,h.nodB,h.ok,h.low,h.pr,h.g0,fun k=>?_⟩
 ·obtain⟨h1,h2⟩:=List.mem_filter.1 (h.mem e he).1
  refine List.mem_filter.2 ⟨h1,?_⟩
  rw [getD_set_ne true (Ne.symm (hne e he))];exact h2
 ·obtain⟨_,⟨o',ho',_,hd'⟩,_⟩:=h.mem e he
  obtain⟨o2,ty,d,ho2,_,_,hd2,hdis⟩:=qzF (hal e.i (List.mem_filter.1 (h.mem e he).1).1)
  rw [ho'] at ho2;cases ho2
  rw [hd'] at hd2;cases hd2
  have:=hdis i o (Ne.symm (hne e he)) hoi
  cases hd:o.dst with
  | none=>simpa [Act.put] using h.tmp e he
  | some d=>simp only [Act.put];rw [Array.getElem?_setIfInBounds_ne (fun hc=>this (by rw [hd,hc]))];exact h.tmp e he
 ·rw [Array.getElem?_setIfInBounds,Array.getElem?_setIfInBounds,h.lst k]
  have hsz:listedA.size=listed.size:=by
   apply Nat.le_antisymm
   ·rcases Nat.lt_or_ge listed.size listedA.size with hlt|hge
    ·have:=h.lst listed.size
     rw [Array.getElem?_eq_getElem hlt,Array.getElem?_eq_none (Nat.le_refl _)] at this
     simp at this
    ·exact hge
   ·rcases Nat.lt_or_ge listedA.size listed.size with hlt|hge
    ·have:=h.lst listedA.size
     rw [Array.getElem?_eq_none (Nat.le_refl _),Array.getElem?_eq_getElem hlt] at this
     split at this<;>simp at this
    ·exact hge
  rw [hsz]
  by_cases hik:i=k
  ·subst hik
   have hn:i ∉ E.map (·.i):=fun hm=>by obtain⟨e,he,hc⟩:=List.mem_map.1 hm;exact hne e he hc
   simp [hn]
  ·simp [hik]
theorem EOk.ready_up (h:EOk P ops al fr lo a frE listed listedA E) {i:Nat} (hi:i∈Region.ready .any ops listed) (hE:i ∉ E.map (·.i)):i∈Region.ready .any ops listedA:=by
 obtain⟨h1,o,ho,hall⟩:=mem_ready.1 hi
 exact mem_ready.2 ⟨by rw [h.getD hE];exact h1,o,ho,fun e he hb=>h.getD_of (hall e he hb)⟩
theorem qUO {x k:Nat} {b:Bool}:(star al x listed).getD k b=(if k∈al∧k≠x∧k<listed.size then true else listed.getD k b):=by
 rw [Array.getD_eq_getD_getElem?,Array.getD_eq_getD_getElem?,q1S]
 rcases Nat.lt_or_ge k listed.size with hk|hk
 ·simp only [hk,and_true,Array.getElem?_eq_getElem hk]
  split<;>simp
 ·simp only [Nat.not_lt.2 hk,and_false,if_false,Array.getElem?_eq_none hk]
  split<;>simp
theorem EOk.ready_star (h:EOk P ops al fr lo a frE listed listedA E) {x j:Nat} (hx:x ∉ E.map (·.i)) (hj:j∈Region.ready .any ops listedA) (hn:j ∉ al):j∈Region.ready .any ops (star al x listed):=by
 obtain⟨h1,o,ho,hall⟩:=mem_ready.1 hj
 have hjE:j ∉ E.map (·.i):=fun hm=>by
  obtain⟨e,he,hc⟩:=List.mem_map.1 hm
  exact hn (hc▸(List.mem_filter.1 (h.mem e he).1).1)
 refine mem_ready.2 ⟨?_,o,ho,fun e he hb=>?_⟩
 ·rw [qUO,if_neg (fun hc=>hn hc.1),← h.getD hjE];exact h1
 ·have h2:=hall e he hb
  rw [qUO]
  split
  ·rfl
  ·rename_i hc
   by_cases hE:e.on∈E.map (·.i)
   ·exfalso
    obtain⟨e',he',hc'⟩:=List.mem_map.1 hE
    refine hc ⟨hc'▸(List.mem_filter.1 (h.mem e' he').1).1,fun e0=>hx (e0▸hE),?_⟩
    rw [Array.getD_eq_getD_getElem?,h.lst,if_pos hE] at h2
    cases hh:listed[e.on]? with
    | none=>rw [hh] at h2;simp at h2
    | some v=>exact(Array.getElem?_eq_some_iff.1 hh).1
   ·rw [← h.getD hE];exact h2
theorem EOk.make (h:EOk P ops al fr lo a frE listed listedA E) {hs:Hs} {w:World} (hw:HSim frE hs w) {j:Nat} (hj:j∈Region.ready .any ops listedA) (hja:j∈al) {o:Oper} {ty:TypeId} {d:Nat} {z:List Value} (ho:ops[j]?=some o) (hop:o.op=.alloc ty)
  (hd:o.dst=some d) (hz:q7I P ty=some z) (hds:∀ e∈E,e.d≠d) (hsz:d<a.tmps.size) :
  ∃ frE',EOk P ops al fr lo (a.put o.dst (.pointer (some ⟨w.heap.size,0,none⟩))) frE' listed (listedA.setIfInBounds j true) (⟨j,d,w.heap.size,ty,z⟩ :: E)∧HSim frE' hs (w.alloc (.cells z.toArray ty)):=by
 have hb:Below w.heap.size w (w.alloc (.cells z.toArray ty)):=Below.of_alloc w _
 have hsim:=hw.agree hb
 have hfresh:∀ n,hs.g.g n→n<w.heap.size:=fun n hn=>Nat.lt_of_lt_of_le (hs.g.wf n hn) hw.good.1
 have hle:=h.le
 have hfr:∀ n,frE.pr n→n<w.heap.size:=fun n hn=>Nat.lt_of_lt_of_le (frE.wf n hn) hw.frm.size
 have hbs:∀ e∈E,e.b<w.heap.size:=fun e he=>hfr _ ((h.pr _).2 (.inr (List.mem_map.2 ⟨e,he,rfl⟩)))
 have hun:=(mem_ready.1 hj).1
 have hjE:j ∉ E.map (·.i):=fun hm=>by
  rw [Array.getD_eq_getD_getElem?,h.lst j,if_pos hm] at hun
  cases hh:listed[j]? with
  | none=>rw [hh] at hun;simp at hun
  | some v=>rw [hh] at hun;simp at hun
 have hun':listed.getD j true=false:=by rw [← h.getD hjE];exact hun
 have hjs:j<listed.size:=by
  rcases Nat.lt_or_ge j listed.size with hlt|hge
  ·exact hlt
  ·rw [Array.getD_eq_getD_getElem?,Array.getElem?_eq_none hge] at hun';cases hun'
 refine⟨⟨w.alloc (.cells z.toArray ty),fun n=>frE.pr n∨n=w.heap.size,fun n=>frE.g0 n∧n≠w.heap.size,fun n hn=>?_⟩,⟨fun e he=>?_,fun e he=>?_,fun e he=>?_,?_,?_,(hle.1 _ hsim.frm),Nat.le_trans h.low (Nat.le_trans hw.frm.size hb.size),fun n=>?_,fun n=>?_,fun k=>?_⟩,?_⟩
 ·have:=hb.size
  rcases hn with hn|rfl
  ·exact Nat.lt_of_lt_of_le (hfr n hn) this
  ·have:(w.alloc (.cells z.toArray ty)).heap.size=w.heap.size+1:=by show(w.heap.push _).size=_;simp
   omega
 ·rcases List.mem_cons.1 he with rfl|he
  ·exact⟨List.mem_filter.2 ⟨hja,by simp [hun']⟩,⟨o,ho,hop,hd⟩,hz⟩
  ·exact h.mem e he
 ·rcases List.mem_cons.1 he with rfl|he
  ·simp [Act.put,hd,hsz]
  ·simp only [Act.put,hd]
   rw [Array.getElem?_setIfInBounds_ne (Ne.symm (hds e he))];exact h.tmp e he
 ·rcases List.mem_cons.1 he with rfl|he
  ·refine⟨World.alloc_heap_new w _,Nat.le_trans h.low hw.frm.size,fun hp=>?_⟩
   have k1:=fr.wf _ hp;have k2:=h.ok.size;have k3:=hw.frm.size;have k1:w.heap.size<fr.w.heap.size:=k1;omega
  ·obtain⟨h1,h2,h3⟩:=h.heap e he
   exact⟨((hb.block e.b (hbs e he)).trans (hw.frm.block e.b ((h.pr _).2 (.inr (List.mem_map.2 ⟨e,he,rfl⟩))))).trans h1,h2,h3⟩
 ·exact List.nodup_cons.2 ⟨hjE,h.nodI⟩
 ·refine List.nodup_cons.2 ⟨fun hm=>?_,h.nodB⟩
  obtain⟨e,he,hc⟩:=List.mem_map.1 hm
  have:=hbs e he;simp at hc;omega
 ·show(frE.pr n∨n=w.heap.size)↔_
  rw [h.pr n]
  simp only [List.map_cons,List.mem_cons]
  constructor
  ·rintro((h|h)|h);exact .inl h;exact .inr (.inr h);exact .inr (.inl h)
  ·rintro(h|h|h);exact .inl (.inl h);exact .inr h;exact .inl (.inr h)
 ·show(frE.g0 n∧n≠w.heap.size)↔_
  rw [h.g0 n]
  simp only [List.map_cons,List.mem_cons,not_or]
  constructor
  ·rintro⟨⟨h1,h2⟩,h3⟩;exact⟨h1,h3,h2⟩
  ·rintro⟨h1,h3,h2⟩;exact⟨⟨h1,h2⟩,h3⟩
 ·rw [Array.getElem?_setIfInBounds,h.lst k]
  simp only [List.map_cons,List.mem_cons]
  by_cases hjk:j=k
  ·subst hjk
   have hsA:j<listedA.size:=by
    have:=h.lst j
    rw [if_neg hjE,Array.getElem?_eq_getElem hjs] at this
    exact(Array.getElem?_eq_some_iff.1 this).1
   simp [hsA,Array.getElem?_eq_getElem hjs]
  ·have:¬ k=j:=fun e=>hjk e.symm
   simp [hjk,this]
 ·refine⟨hsim.good,⟨rfl,rfl,rfl,Nat.le_refl _,fun _ _=>rfl⟩,hsim.res,hsim.nod,fun b hbk=>⟨(hsim.fre b hbk).1,?_⟩,fun n hp hg=>?_,fun n hl hg hp=>?_,hsim.low⟩
  ·rintro(hp|rfl)
   ·exact(hw.fre b hbk).2 hp
   ·have:=hw.lt hbk;omega
  ·rcases hp with hp|rfl
   ·exact⟨hw.fz n hp hg,by have:=hfresh n hg;omega⟩
   ·have:=hfresh _ hg;omega
  ·rcases hp with hp|rfl
   ·exact hw.own n hl hg hp
   ·have:=hfresh _ hg;omega
theorem EOk.take (h:EOk P ops al fr lo a frE listed listedA E) {hs:Hs} (hlo:hs.lo=lo) {w:World} (hw:HSim frE hs w) {e:Early} (he:e∈E) (hone:∀ c∈e.z,c.oneCell'=true) (hnod:al.Nodup) (id nx:Nat) :
  ∃ E' frE',EOk P ops al fr lo a frE' (listed.setIfInBounds e.i true) listedA E'∧E'.length+1=E.length∧HSim frE' ⟨hs.g,.blk id e.b e.ty (e.z.map .v) :: hs.rs,nx,hs.lo⟩ w:=by
 obtain⟨l1,l2,rfl⟩:=List.append_of_mem he
 have hI:=h.nodI
 have hB:=h.nodB
 simp only [List.map_append,List.map_cons] at hI hB
 have hIe:e.i ∉ (l1++l2).map (·.i):=fun hm=>by
  rw [List.map_append] at hm
  obtain⟨_,n2,d⟩:=List.nodup_append.1 hI
  rcases List.mem_append.1 hm with hm|hm
  ·exact d _ hm _ (List.mem_cons_self ..) rfl
  ·exact(List.nodup_cons.1 n2).1 hm
 have hBe:e.b ∉ (l1++l2).map (·.b):=fun hm=>by
  rw [List.map_append] at hm
  obtain⟨_,n2,d⟩:=List.nodup_append.1 hB
  rcases List.mem_append.1 hm with hm|hm
  ·exact d _ hm _ (List.mem_cons_self ..) rfl
  ·exact(List.nodup_cons.1 n2).1 hm
 have sub:∀ x∈l1++l2,x∈l1++e :: l2:=fun x hx=>by
  rcases List.mem_append.1 hx with hx|hx
  ·exact List.mem_append.2 (.inl hx)
  ·exact List.mem_append.2 (.inr (List.mem_cons_of_mem _ hx))
 have mb:∀ n,n∈(l1++e :: l2).map (·.b)↔n=e.b∨n∈(l1++l2).map (·.b):=fun n=>by
  simp only [List.map_append,List.map_cons,List.mem_append,List.mem_cons]
  constructor
  ·rintro(h|h|h);exact .inr (.inl h);exact .inl h;exact .inr (.inr h)
  ·rintro(h|h|h);exact .inr (.inl h);exact .inl h;exact .inr (.inr h)
 have mi:∀ n,n∈(l1++e :: l2).map (·.i)↔n=e.i∨n∈(l1++l2).map (·.i):=fun n=>by
  simp only [List.map_append,List.map_cons,List.mem_append,List.mem_cons]
  constructor
  ·rintro(h|h|h);exact .inr (.inl h);exact .inl h;exact .inr (.inr h)
  ·rintro(h|h|h);exact .inr (.inl h);exact .inl h;exact .inr (.inr h)
 have hpr:frE.pr e.b:=(h.pr _).2 (.inr ((mb _).2 (.inl rfl)))
 have hng0:¬ frE.g0 e.b:=fun hg=>((h.g0 _).1 hg).2 ((mb _).2 (.inl rfl))
 obtain⟨hh1,hh2,hh3⟩:=h.heap e he
 refine⟨l1++l2,⟨frE.w,fun n=>fr.pr n∨n∈(l1++l2).map (·.b),fun n=>fr.g0 n∧n ∉ (l1++l2).map (·.b),fun n hn=>frE.wf n ((h.pr n).2 (hn.imp (fun h=>h) fun hn=>(mb n).2 (.inr hn)))⟩,⟨fun x hx=>⟨?_,(h.mem x (sub x hx)).2⟩,fun x hx=>h.tmp x (sub x hx),fun x hx=>h.heap x (sub x hx),?_,?_,h.ok,h.low,fun n=>Iff.rfl,fun n=>Iff.rfl,fun k=>?_⟩,by simp;omega,?_⟩
 ·obtain⟨k1,k2⟩:=List.mem_filter.1 (h.mem x (sub x hx)).1
  refine List.mem_filter.2 ⟨k1,?_⟩
  rw [getD_set_ne true (fun hc=>hIe (List.mem_map.2 ⟨x,hx,hc.symm⟩))];exact k2
 ·rw [List.map_append]
  exact hI.sublist (List.Sublist.append (List.Sublist.refl _) (List.sublist_cons_self ..))
 ·rw [List.map_append]
  exact hB.sublist (List.Sublist.append (List.Sublist.refl _) (List.sublist_cons_self ..))
 ·rw [Array.getElem?_setIfInBounds,h.lst k]
  by_cases hk:e.i=k
  ·subst hk
   have hes:e.i<listed.size:=by
    have:=(List.mem_filter.1 (h.mem e he).1).2
    rcases Nat.lt_or_ge e.i listed.size with hlt|hge
    ·exact hlt
    ·rw [Array.getD_eq_getD_getElem?,Array.getElem?_eq_none hge] at this;simp at this
   rw [if_pos ((mi _).2 (.inl rfl)),if_neg hIe]
   simp [hes]
  ·have hk':¬ k=e.i:=fun e=>hk e.symm
   by_cases hm:k∈(l1++l2).map (·.i)
   ·rw [if_pos ((mi _).2 (.inr hm)),if_pos hm];simp [hk]
   ·rw [if_neg (fun hc=>hm (((mi _).1 hc).resolve_left hk')),if_neg hm];simp [hk]
 ·have hnb:e.b ∉ hs.bks:=fun hm=>(hw.fre _ hm).2 hpr
  have hng:¬ hs.g.g e.b:=fun hg=>hng0 (hw.fz _ hpr hg)
  have hbk:Hs.bks ⟨hs.g,.blk id e.b e.ty (e.z.map .v) :: hs.rs,nx,hs.lo⟩=e.b :: hs.bks:=by simp [Hs.bks,Res.bk]
  have sub':∀ n,(fr.pr n∨n∈(l1++l2).map (·.b))→frE.pr n:=fun n hn=>(h.pr n).2 (hn.imp (fun h=>h) fun hn=>(mb n).2 (.inr hn))
  refine⟨hw.good,⟨hw.frm.os,hw.frm.tape,hw.frm.output,hw.frm.size,fun n hn=>hw.frm.block n (sub' n hn)⟩,fun x hx=>?_,?_,fun b hb=>?_,fun n hp hg=>?_,fun n hl hg hp=>hw.own n hl hg (sub' n hp),hw.low.1,fun b hb=>?_⟩
  ·rcases List.mem_cons.1 hx with rfl|hx
   ·refine⟨?_,fun c hc=>?_⟩
    ·rw [qLI]
     exact(hw.frm.block _ hpr).trans hh1
    ·obtain⟨v,hv,rfl⟩:=List.mem_map.1 hc
     exact hone v hv
   ·exact hw.res x hx
  ·rw [hbk];exact List.nodup_cons.2 ⟨hnb,hw.nod⟩
  ·rw [hbk] at hb
   rcases List.mem_cons.1 hb with rfl|hb
   ·exact⟨hng,fun hp=>hp.elim hh3 hBe⟩
   ·exact⟨(hw.fre b hb).1,fun hp=>(hw.fre b hb).2 (sub' b hp)⟩
  ·have:=(h.g0 n).1 (hw.fz n (sub' n hp) hg)
   exact⟨this.1,fun hm=>this.2 ((mb n).2 (.inr hm))⟩
  ·rw [hbk] at hb
   rcases List.mem_cons.1 hb with rfl|hb
   ·rw [hlo];exact hh2
   ·exact hw.low.2 b hb
end
section
variable {P:Program} {fr:Fr} {H HW:qIA} {nt:Nat} {D:Pin} {ops:Array Oper} {al:List Nat} {lo:Nat} {r:Option Nat} {K:Sl→Hs→Prop} {Q:Act→World→Prop}
structure At (P:Program) (fr:Fr) (nt:Nat) (D:Pin) (ops:Array Oper) (al:List Nat) (lo:Nat) (done:List Nat) (pd:Pd) (Φ:List Took) (sl:Sl) (hs:Hs) (a:Act) (w:World) (S:World→Prop) (frE:Fr) (listed listedA:Array Bool) (E:List Early):Prop where
 dc:DC ops listedA
 eok:EOk P ops al fr lo a frE listed listedA E
 nom:NoM (dstL ops (pend al listed)) sl
 sim:Sim nt D sl a
 hw:HSim frE hs w
 st:qPQ S
 hS:S w
 kn:∀ w,S w→Knows hs w
 kp:Kept P ops done pd Φ
def qtS (P:Program) (fr:Fr) (H HW:qIA) (nt:Nat) (D:Pin) (ops:Array Oper) (al:List Nat) (lo:Nat) (r:Option Nat) (K:Sl→Hs→Prop) (Q:Act→World→Prop) (oi:OI):Prop :=
 ∀ (E:List Early) (n:Nat) (done:List Nat) (t:OT) (listed listedA:Array Bool) (pd:Pd) (Φ:List Took) (sl:Sl) (hs:Hs) (a:Act) (w:World) (S:World→Prop) (frE:Fr),unl listedA≤n→otOk P ops al false oi listed=true→trOT P nt ops done oi=some t→(∀ d∈qtB t,d∈D.ds) →
  At P fr nt D ops al lo done pd Φ sl hs a w S frE listed listedA E→regT P H HW lo t pd sl hs K→anyK r P ops ops.size Q n Φ S listedA a w
theorem qBT {k:Nat} {listed:Array Bool} {o:Oper} {d:Nat} (hk:k∈pend al listed) (ho:ops[k]?=some o) (hd:o.dst=some d):d∈dstL ops (pend al listed):=List.mem_filterMap.2 ⟨k,hk,by simp [ho,hd]⟩
theorem qrN (hH:SndB P H) (hHW:∀ fr,SndH P fr HW) (hpl:q4L ops=true) (hal:AlOk P nt D ops al) {i:Nat} {t0:OI} (ih:qtS P fr H HW nt D ops al lo r K Q t0) :
  ∀ (E:List Early) (n:Nat) (done:List Nat) (t:OT) (listed listedA:Array Bool) (pd:Pd) (Φ:List Took) (sl:Sl) (hs:Hs) (a:Act) (w:World) (S:World→Prop) (frE:Fr),unl listedA≤n+1→i∈Region.ready .any ops listed→i ∉ al→otOk P ops al false t0 (listed.setIfInBounds i true)=true→trOT P nt ops done (.exec i t0)=some t→(∀ d∈qtB t,d∈D.ds) →
  At P fr nt D ops al lo done pd Φ sl hs a w S frE listed listedA E→regT P H HW lo t pd sl hs K →
  wpOpIn (FW r) 0 P ops (QN Q) i (fun a' w' =>
   (WW P ops i=false∧S w'∧anyK r P ops ops.size Q n Φ S (listedA.setIfInBounds i true) a' w') ∨
   (WW P ops i=true∧∃ S',S' w'∧(∀ p∈Φ,depB ops ops.size p.i i=false→YieldsIf P ops S' p.o p.v p.a)∧anyK r P ops ops.size Q n Φ S' (listedA.setIfInBounds i true) a' w')) a w:=by
 intro E n done t listed listedA pd Φ sl hs a w S frE hm hready hia ho ht hds hA h
 obtain⟨hdc,heok,hnom,hsl,hw,hst,hS,hkn,hkp⟩:=hA
 have hiE:i ∉ E.map (·.i):=fun hm=>by
  obtain⟨e,he,hc⟩:=List.mem_map.1 hm
  exact hia (hc▸(List.mem_filter.1 (heok.mem e he).1).1)
 have hreadyA:=heok.ready_up hready hiE
 simp only [trOT] at ht
 split at ht
 ·cases ht
 ·rename_i o hoi
  split at ht
  ·cases ht
  ·rename_i so hso
   split at ht
   ·cases ht
   ·rename_i rest hrest
    simp at ht
    subst ht
    obtain⟨hop,hdst,hlt0⟩:=qaF hso
    have hds':∀ d∈qtB rest,d∈D.ds:=fun d hd=>hds d (by simp [qtB,hd])
    have hlt:∀ d,o.dst=some d→d<nt∧d∈D.ds:=fun d h=>⟨hlt0 d h,hds d (by simp [qtB,hdst.trans h])⟩
    have hdc':=hdc.ready hreadyA
    have hnd:∀ d,so.dst=some d→d ∉ dstL ops (pend al listed):=fun d hd hmem=>by
     obtain⟨k,hk,hkd⟩:=List.mem_filterMap.1 hmem
     obtain⟨o',ho',hd'⟩:=Option.bind_eq_some_iff.1 hkd
     have hkal:=(List.mem_filter.1 hk).1
     obtain⟨o2,ty,d2,ho2,_,_,hd2,hdis⟩:=qzF (hal k hkal).1
     rw [ho'] at ho2;cases ho2
     rw [hd'] at hd2;cases hd2
     exact hdis i o (fun e=>hia (e▸hkal)) hoi (hdst▸hd)
    have next:∀ sl1 s hs' w' (S':World→Prop),NoM (dstL ops (pend al listed)) sl1→Sim nt D sl1 a→(qEB so.dst sl1 s fun sl=>regT P H HW lo rest pd sl hs' K)→HSim frE hs' w'→qPQ S'→S' w'→(∀ w,S' w→Knows hs' w) →
      anyK r P ops ops.size Q n Φ S' (listedA.setIfInBounds i true) (a.put o.dst (conc s)) w':=fun sl1 s hs' w' S' hnom1 hsl1 hk hsim hst' hS' hkn'=>by
     have hk:=qFH hnom1 hnd hk
     rw [hdst] at hk
     obtain⟨sl2,⟨hnom2,hk2⟩,hsl2⟩:=hsl1.putd hlt s (k:=fun s=>NoM (dstL ops (pend al listed)) s∧regT P H HW lo rest pd s hs' K) hk
     exact ih E n done rest _ _ pd Φ sl2 hs' _ w' S' frE (quO hm (mem_ready.1 hreadyA).1) ho hrest hds' ⟨hdc',heok.set hia hoi (fun k hk=>(hal k hk).1) (conc s),hnom2.sub (qVN fun k hk=>(qRK k hk).1),hsl2,hsim,hst',hS',hkn',hkp⟩ hk2
    have hreg:q0F sl so.g
      (fun sl=>opS P (qyN so.op H HW) noY so.op sl hs fun x hs'=>chkS (if WW P ops i=true then List.filter (fun j=>!depF ops j i) done else []) hs' (qEB so.dst sl x fun sl'=>regT P H HW lo rest pd sl' hs' K) pd)
      (fun sl=>chkS (if WW P ops i=true then List.filter (fun j=>!depF ops j i) done else []) hs (qEB so.dst sl (.v undef) fun sl'=>regT P H HW lo rest pd sl' hs K) pd):=h
    have hreg:=qFM hnom hreg
    have fin:∀ s hs' w' sl1,NoM (dstL ops (pend al listed)) sl1→Sim nt D sl1 a→HSim frE hs' w'→S w'→qPQ S→(chkS (if WW P ops i=true then List.filter (fun j=>!depF ops j i) done else []) hs' (qEB so.dst sl1 s fun sl'=>regT P H HW lo rest pd sl' hs' K) pd) →
      (WW P ops i=false∧S w'∧anyK r P ops ops.size Q n Φ S (listedA.setIfInBounds i true) (a.put o.dst (conc s)) w') ∨
      (WW P ops i=true∧∃ S',S' w'∧(∀ p∈Φ,depB ops ops.size p.i i=false→YieldsIf P ops S' p.o p.v p.a)∧anyK r P ops ops.size Q n Φ S' (listedA.setIfInBounds i true) (a.put o.dst (conc s)) w'):=fun s hs' w' sl1 hnom1 hsl1 hsim hSw hstS hk=>by
     obtain⟨hk,hc⟩:=qeD hk
     cases hWW:WW P ops i with
     | false =>
      refine .inl ⟨rfl,hSw,?_⟩
      exact qCG (S':=fun w''=>S w''∧Knows hs' w'') (fun _ h=>h) (fun _ h=>h.1) _ _ _ _ (next sl1 s hs' w' _ hnom1 hsl1 hk hsim (fun w1 w2 h12 hb=>⟨hstS w1 w2 h12.1 hb,Knows.stable hs' w1 w2 h12.2 hb⟩) ⟨hSw,frE,hsim⟩ fun _ h=>h.2)
     | true =>
      rw [hWW] at hc
      refine .inr ⟨rfl,Knows hs',⟨frE,hsim⟩,hkp.yields (j:=i) (by simpa using hc),next sl1 s hs' w' _ hnom1 hsl1 hk hsim (Knows.stable hs') ⟨frE,hsim⟩ fun _ h=>h⟩
    rcases q0H hso hsl hreg with ⟨hwant,sl1,⟨hnom1,h1⟩,hsl1⟩|⟨hwant,sl1,⟨hnom1,h1⟩,hsl1⟩
    ·unfold opS at h1
     cases hrd:so.op.reads with
     | true =>
      simp only [hrd] at h1
      obtain⟨s,hk,hrun⟩:=qQK hop hrd hsl1.slots h1
      exact qFD hoi (qqC hpl _ _ hoi) (S:=Knows hs) (.inl ⟨hwant,fun w' ⟨fr',hfr'⟩=>hrun fr' w' hfr'⟩) ⟨frE,hw⟩ (fin s hs w sl1 hnom1 hsl1 hw hS hst hk)
     | false =>
      simp only [hrd] at h1
      unfold wpOpIn
      simp only [hoi]
      rw [if_pos hwant]
      cases hWW:WW P ops i with
      | false =>
       have hWo:isW P o=false:=by simpa [WW,hoi] using hWW
       refine qeS hH hop hrd hWo hsl1.slots h1 hw fun s hs' w' hk hb hsim=>?_
       have:=fin s hs' w' sl1 hnom1 hsl1 hsim (hst w w' hS hb) hst hk
       rwa [hWW] at this
      | true =>
       refine qMQ (qtR (hH.snd frE) (hHW frE) _) (qxM P frE) hop hrd hsl1.slots h1 hw fun s hs' w' hk hsim=>?_
       obtain⟨hk,hc⟩:=qeD hk
       rw [hWW] at hc
       exact .inr ⟨rfl,Knows hs',⟨frE,hsim⟩,hkp.yields (j:=i) (by simpa using hc),next sl1 s hs' w' _ hnom1 hsl1 hk hsim (Knows.stable hs') ⟨frE,hsim⟩ fun _ h=>h⟩
    ·exact qFD hoi (qqC hpl _ _ hoi) (S:=fun _=>True) (.inr ⟨hwant,rfl⟩) trivial (fin (.v undef) hs w sl1 hnom1 hsl1 hw hS hst h1)
theorem At.early (hpl:q4L ops=true) (hal:AlOk P nt D ops al) {E:List Early} {n:Nat} {done:List Nat} {listed listedA:Array Bool} {pd:Pd} {Φ:List Took} {sl:Sl} {hs:Hs} {a:Act} {w:World} {S:World→Prop} {frE:Fr}
  (hA:At P fr nt D ops al lo done pd Φ sl hs a w S frE listed listedA E) (hun:unl listedA≤n+1) {j:Nat} (hj:j∈Region.ready .any ops listedA) (hja:j∈al)
  (hrec:∀ E' listedA' a' w' frE',At P fr nt D ops al lo done pd Φ sl hs a' w' S frE' listed listedA' E'→unl listedA'≤n→anyK r P ops ops.size Q n Φ S listedA' a' w') :
  wpOpIn (FW r) 0 P ops (QN Q) j (fun a' w' =>
   (WW P ops j=false∧S w'∧anyK r P ops ops.size Q n Φ S (listedA.setIfInBounds j true) a' w') ∨
   (WW P ops j=true∧∃ S',S' w'∧(∀ p∈Φ,depB ops ops.size p.i j=false→YieldsIf P ops S' p.o p.v p.a)∧anyK r P ops ops.size Q n Φ S' (listedA.setIfInBounds j true) a' w')) a w:=by
 obtain⟨hdc,heok,hnom,hsl,hw,hst,hS,hkn,hkp⟩:=hA
 obtain⟨h1,⟨o,so,ho,hso⟩,h3⟩:=hal j hja
 obtain⟨o',ty,d,ho',hop,hg,hd,hdis⟩:=qzF h1
 rw [ho] at ho';cases ho'
 obtain⟨htr,_,hlt⟩:=qaF hso
 have hz:∃ z,q7I P ty=some z:=by
  unfold trOp at htr
  rw [hop] at htr
  simp only at htr
  split at htr
  ·rename_i z hz;exact⟨z,hz⟩
  ·cases htr
 obtain⟨z,hz⟩:=hz
 have hun':=(mem_ready.1 hj).1
 have hjE:j ∉ E.map (·.i):=fun hm=>by
  rw [Array.getD_eq_getD_getElem?,heok.lst j,if_pos hm] at hun'
  cases hh:listed[j]? with
  | none=>rw [hh] at hun';simp at hun'
  | some v=>rw [hh] at hun';simp at hun'
 have hpj:j∈pend al listed:=List.mem_filter.2 ⟨hja,by rw [← heok.getD hjE];simp [hun']⟩
 have hds:∀ e∈E,e.d≠d:=fun e he hc=>by
  obtain⟨_,⟨oe,hoe,_,hde⟩,_⟩:=heok.mem e he
  exact hdis e.i oe (fun e0=>hjE (List.mem_map.2 ⟨e,he,e0⟩)) hoe (by rw [hde,hc])
 have hdn:d<nt:=hlt d hd
 obtain⟨frE',hE',hsim⟩:=heok.make hw hj hja ho hop hd hz hds (by rw [hsl.size];exact hdn)
 have hrun:(execOp a.eval o).run P w=.ok (.value (.pointer (some ⟨w.heap.size,0,none⟩))) (w.alloc (.cells z.toArray ty)):=by
  obtain⟨v,hv,hvz,_⟩:=qKD hz w
  have hva:v.cells=z.toArray:=by apply Array.ext';simpa using hvz
  simp only [execOp,hop]
  refine qmC ?_
  simp [Instr.alloc,hv,newVar,newRow,hva]
 have hWj:WW P ops j=false:=by simp [WW,ho,isW,hop]
 unfold wpOpIn
 simp only [ho]
 rw [if_pos (by simp [Region.wanted,hg])]
 refine qiA (qqC hpl _ _ ho).2 hrun (.inl ⟨hWj,hst w _ hS (Below.of_alloc w _),?_⟩)
 refine hrec _ _ _ _ frE' ⟨hdc.ready hj,hE',hnom,?_,hsim,hst,hst w _ hS (Below.of_alloc w _),hkn,hkp⟩ (quO hun hun')
 have hnd:getS sl d=none:=hnom d (qBT hpj ho hd)
 refine⟨by simp [Act.put,hd,hsl.size],by simp [Act.put,hd,hsl.defers],fun n y hy=>?_,fun n hn=>?_⟩
 ·have hne:d≠n:=fun e=>by rw [← e,hnd] at hy;cases hy
  simp only [Act.put,hd]
  rw [Array.getElem?_setIfInBounds_ne hne];exact hsl.slots n y hy
 ·have hne:d≠n:=fun e=>hn (e▸h3 o d ho hd)
  simp only [Act.put,hd]
  rw [Array.getElem?_setIfInBounds_ne hne];exact hsl.off n hn
theorem qNQ (hal:AlOk P nt D ops al) (hnd:al.Nodup) {i:Nat} {t0:OI} (ih:qtS P fr H HW nt D ops al lo r K Q t0) :
  ∀ (E:List Early) (n:Nat) (done:List Nat) (t:OT) (listed listedA:Array Bool) (pd:Pd) (Φ:List Took) (sl:Sl) (hs:Hs) (a:Act) (w:World) (S:World→Prop) (frE:Fr),unl listedA≤n→i∈al→i∈E.map (·.i)→otOk P ops al false t0 (listed.setIfInBounds i true)=true→trOT P nt ops done (.bring i t0)=some t→(∀ d∈qtB t,d∈D.ds) →
  At P fr nt D ops al lo done pd Φ sl hs a w S frE listed listedA E→regT P H HW lo t pd sl hs K→anyK r P ops ops.size Q n Φ S listedA a w:=by
 intro E n done t listed listedA pd Φ sl hs a w S frE hm hia hE ho ht hds hA h
 obtain⟨hdc,heok,hnom,hsl,hw,hst,hS,hkn,hkp⟩:=hA
 obtain⟨e,he,rfl⟩:=List.mem_map.1 hE
 obtain⟨hpe,⟨o,hoi,hop,hd⟩,hz⟩:=heok.mem e he
 obtain⟨h1,_,h3⟩:=hal e.i hia
 obtain⟨o',ty',d',ho',hop',hg,hd',hdis⟩:=qzF h1
 rw [hoi] at ho';cases ho'
 simp only [trOT] at ht
 split at ht
 ·cases ht
 ·rename_i o2 hoi2
  rw [hoi] at hoi2;cases hoi2
  split at ht
  ·cases ht
  ·rename_i so hso
   split at ht
   ·cases ht
   ·rename_i rest hrest
    simp at ht;subst ht
    obtain⟨htr,hdst,hlt⟩:=qaF hso
    have hds':∀ d∈qtB rest,d∈D.ds:=fun d hd=>hds d (by simp [qtB,hd])
    obtain⟨hlo,h⟩:=q5S (P:=P) (H:=H) (lo:=lo) (d:=⟨e.i,false,[],so⟩) (ih:=regT P H HW lo rest) (show rtB P H HW lo ⟨e.i,false,[],so⟩ (regT P H HW lo rest) pd sl hs K from h)
    have hsop:so.op=.alloc e.ty (e.z.map SV.v):=by
     unfold trOp at htr
     rw [hop] at htr
     simp only [hz] at htr
     simpa using htr.symm
    have hsg:so.g=none:=by
     unfold qbF at hso
     rw [htr] at hso
     simp only [hg] at hso
     split at hso
     ·simp at hso;rw [← hso]
     ·cases hso
    have h:qPM e.ty (e.z.map SV.v) hs fun x hs'=>chkS [] hs' (qEB so.dst sl x fun sl'=>regT P H HW lo rest pd sl' hs' K) pd:=by
     have h':q0F sl so.g
      (fun sl=>opS P (qyN so.op H HW) noY so.op sl hs fun x hs'=>chkS [] hs' (qEB so.dst sl x fun sl'=>regT P H HW lo rest pd sl' hs' K) pd)
      (fun sl=>chkS [] hs (qEB so.dst sl (.v undef) fun sl'=>regT P H HW lo rest pd sl' hs K) pd):=h
     rw [hsg,hsop] at h'
     exact h'
    rw [qqO] at h
    obtain⟨h,hone⟩:=qlD h
    obtain⟨id1,nx1,h⟩:=qyA h
    obtain⟨h,_⟩:=qeD (h e.b)
    obtain⟨E',frE',hE',_,hsim⟩:=heok.take hlo hw he (fun c hc=>hone (.v c) (List.mem_map.2 ⟨c,hc,rfl⟩)) hnd id1 nx1
    rw [hdst.trans hd] at h
    have h:regT P H HW lo rest pd ((e.d,.p id1 e.b 0) :: sl) ⟨hs.g,.blk id1 e.b e.ty (e.z.map .v) :: hs.rs,nx1,hs.lo⟩ K:=h
    have hsl2:Sim nt D ((e.d,.p id1 e.b 0) :: sl) a:=⟨hsl.size,hsl.defers,fun n y hy=>by
     simp only [getS] at hy
     cases hb:Nat.beq e.d n with
     | true =>
      rw [hb] at hy
      obtain rfl:=Nat.eq_of_beq_eq_true hb
      simp at hy;subst hy
      exact heok.tmp e he
     | false=>rw [hb] at hy;exact hsl.slots n y hy,hsl.off⟩
    have hnom2:NoM (dstL ops (pend al (listed.setIfInBounds e.i true))) ((e.d,.p id1 e.b 0) :: sl):=by
     refine(hnom.sub (qVN fun k hk=>(qRK k hk).1)).cons (fun hmem=>?_) _
     obtain⟨k,hk,hkd⟩:=List.mem_filterMap.1 hmem
     obtain⟨ok,hok,hdk⟩:=Option.bind_eq_some_iff.1 hkd
     rw [hd] at hd';cases hd'
     exact hdis k ok (qRK k hk).2 hok hdk
    have:=ih E' n done rest _ listedA pd Φ _ ⟨hs.g,.blk id1 e.b e.ty (e.z.map .v) :: hs.rs,nx1,hs.lo⟩ a w (fun w''=>S w''∧Knows ⟨hs.g,.blk id1 e.b e.ty (e.z.map .v) :: hs.rs,nx1,hs.lo⟩ w'') frE' hm ho hrest hds'
     ⟨hdc,hE',hnom2,hsl2,hsim,fun w1 w2 h12 hb=>⟨hst w1 w2 h12.1 hb,Knows.stable _ w1 w2 h12.2 hb⟩,⟨hS,frE',hsim⟩,fun _ h=>h.2,hkp⟩ h
    exact qCG (fun _ h=>h) (fun _ h=>h.1) _ _ _ _ this
def q0V (P:Program) (fr:Fr) (H HW:qIA) (nt:Nat) (D:Pin) (ops:Array Oper) (al:List Nat) (lo:Nat) (r:Option Nat) (K:Sl→Hs→Prop) (Q:Act→World→Prop) (oi:OI):Prop :=
 ∀ (E:List Early) (n:Nat) (done:List Nat) (t:OT) (listed listedA:Array Bool) (pd:Pd) (Φ:List Took) (sl:Sl) (hs:Hs) (a:Act) (w:World) (S:World→Prop) (frE:Fr),unl listedA≤n+1→otOk P ops al true oi listed=true→trOT P nt ops done oi=some t→(∀ d∈qtB t,d∈D.ds) →
  At P fr nt D ops al lo done pd Φ sl hs a w S frE listed listedA E→regT P H HW lo t pd sl hs K→∀ i∈qHL oi,wpOpIn (FW r) 0 P ops (QN Q) i (fun a' w' =>
   (WW P ops i=false∧S w'∧anyK r P ops ops.size Q n Φ S (listedA.setIfInBounds i true) a' w') ∨
   (WW P ops i=true∧∃ S',S' w'∧(∀ p∈Φ,depB ops ops.size p.i i=false→YieldsIf P ops S' p.o p.v p.a)∧anyK r P ops ops.size Q n Φ S' (listedA.setIfInBounds i true) a' w')) a w
theorem Kept.mono {done done':List Nat} {pd pd':Pd} {Φ:List Took} (h:Kept P ops done pd Φ) (h1:∀ i∈done,i∈done') (h2:∀ x∈pd,x∈pd'):Kept P ops done' pd' Φ:=fun p hp=>by
 rcases h p hp with ⟨a,b,op,sl,x,c,d⟩|h
 ·exact .inl ⟨h1 _ a,b,op,sl,x,h2 _ c,d⟩
 ·exact .inr h
theorem qqS (oi:OI) {listed:Array Bool}:otOk P ops al true oi listed=true→∃ i∈qHL oi,i∈Region.ready .any ops listed∧i ∉ al:=by
 induction oi with
 | nil=>intro h;simp [otOk] at h
 | first _ _ _=>intro h;simp [otOk] at h
 | bring _ _ _=>intro h;simp [otOk] at h
 | exec i t _ =>
  intro h
  simp only [otOk,Bool.and_eq_true] at h
  exact⟨i,by simp [qHL],by simpa using h.1.1,by simpa using h.1.2⟩
 | alt a b ha _ =>
  intro h
  simp only [otOk,Bool.and_eq_true] at h
  obtain⟨i,h1,h2⟩:=ha h.1
  exact⟨i,List.mem_append.2 (.inl h1),h2⟩
theorem EOk.notE {frE:Fr} {a:Act} {listed listedA:Array Bool} {E:List Early} (h:EOk P ops al fr lo a frE listed listedA E) {i:Nat} (hi:i ∉ al):i ∉ E.map (·.i):=fun hm=>by
 obtain⟨e,he,hc⟩:=List.mem_map.1 hm
 exact hi (hc▸(List.mem_filter.1 (h.mem e he).1).1)
theorem q6S (hH:SndB P H) (hHW:∀ fr,SndH P fr HW) (hpl:q4L ops=true) (hal:AlOk P nt D ops al) (hnd:al.Nodup) (hsz:∀ k∈al,k<ops.size) (hQ:∀ sl hs a w,K sl hs→Sim nt D sl a→HSim fr hs w→Q a w) (oi:OI) :
  qtS P fr H HW nt D ops al lo r K Q oi∧q0V P fr H HW nt D ops al lo r K Q oi:=by
 induction oi with
 | nil =>
  refine⟨?_,fun E n done t listed listedA pd Φ sl hs a w S frE _ ho=>by simp [otOk] at ho⟩
  intro E n done t listed listedA pd Φ sl hs a w S frE hm ho ht hds hA h
  simp [trOT] at ht;subst ht
  simp only [otOk,Bool.and_eq_true] at ho
  obtain⟨ho,hall⟩:=ho
  have hE:E=[]:=by
   cases E with
   | nil=>rfl
   | cons e E =>
    exfalso
    obtain⟨h1,h2⟩:=List.mem_filter.1 (hA.eok.mem e (List.mem_cons_self ..)).1
    have:=(List.all_eq_true.1 hall) e.i h1
    rw [Array.getD_eq_getD_getElem?] at this h2
    cases hh:listed[e.i]? with
    | none=>rw [hh] at this;simp at this
    | some v=>rw [hh] at this h2;simp at this h2;rw [this] at h2;cases h2
  subst hE
  have hl:listedA=listed:=by
   apply Array.ext_getElem?
   intro k
   simpa using hA.eok.lst k
  subst hl
  have hr:Region.ready .any ops listedA=[]:=by simpa using ho
  have hk:Q a w:=hQ sl hs a w h hA.sim (hA.hw.weaken hA.eok.le)
  cases n with
  | zero=>exact⟨hr,hk⟩
  | succ n=>exact⟨fun _=>hk,fun j hj=>by rw [hr] at hj;cases hj⟩
 | exec i t0 ih =>
  constructor
  ·intro E n done t listed listedA pd Φ sl hs a w S frE hm ho ht hds hA h
   simp only [otOk,Bool.and_eq_true,beq_iff_eq] at ho
   obtain⟨⟨⟨hr,hri⟩,hia⟩,ho⟩:=ho
   have hri:i∈Region.ready .any ops listed:=by simpa using hri
   have hia:i ∉ al:=by simpa using hia
   induction n generalizing E listedA a w frE with
   | zero =>
    have:=qQM (mem_ready.1 (hA.eok.ready_up hri (hA.eok.notE hia))).1
    omega
   | succ n ihn =>
    have hriA:=hA.eok.ready_up hri (hA.eok.notE hia)
    refine⟨fun h0=>(by rw [h0] at hriA;cases hriA),fun j hj=>?_⟩
    by_cases hja:j∈al
    ·exact hA.early hpl hal hm hj hja fun E' listedA' a' w' frE' hA' hm'=>ihn E' listedA' a' w' frE' hm' hA'
    ·have hx:ops.size ∉ E.map (·.i):=hA.eok.notE fun hmm=>by have:=hsz _ hmm;omega
     have:=hA.eok.ready_star hx hj hja
     rw [hr] at this
     obtain rfl:j=i:=by simpa using this
     exact qrN hH hHW hpl hal ih.1 E n done t listed listedA pd Φ sl hs a w S frE hm hri hia ho ht hds hA h
  ·intro E n done t listed listedA pd Φ sl hs a w S frE hm ho ht hds hA h j hj
   simp only [otOk,Bool.and_eq_true] at ho
   obtain⟨⟨hri,hia⟩,ho⟩:=ho
   obtain rfl:j=i:=by simpa [qHL] using hj
   exact qrN hH hHW hpl hal ih.1 E n done t listed listedA pd Φ sl hs a w S frE hm (by simpa using hri) (by simpa using hia) ho ht hds hA h
 | bring i t0 ih =>
  refine⟨?_,fun E n done t listed listedA pd Φ sl hs a w S frE _ ho=>by simp [otOk] at ho⟩
  intro E n done t listed listedA pd Φ sl hs a w S frE hm ho ht hds hA h
  simp only [otOk,Bool.and_eq_true,beq_iff_eq] at ho
  obtain⟨⟨⟨hr,hri⟩,hia⟩,ho⟩:=ho
  have hri:i∈Region.ready .any ops listed:=by simpa using hri
  have hia:i∈al:=by simpa using hia
  induction n generalizing E listedA a w frE with
  | zero =>
   by_cases hE:i∈E.map (·.i)
   ·exact qNQ hal hnd ih.1 E 0 done t listed listedA pd Φ sl hs a w S frE hm hia hE ho ht hds hA h
   ·have:=qQM (mem_ready.1 (hA.eok.ready_up hri hE)).1
    omega
  | succ n ihn =>
   by_cases hE:i∈E.map (·.i)
   ·exact qNQ hal hnd ih.1 E (n+1) done t listed listedA pd Φ sl hs a w S frE hm hia hE ho ht hds hA h
   ·have hriA:=hA.eok.ready_up hri hE
    refine⟨fun h0=>(by rw [h0] at hriA;cases hriA),fun j hj=>?_⟩
    have hja:j∈al:=by
     by_cases hja:j∈al
     ·exact hja
     ·have:=hA.eok.ready_star hE hj hja
      rw [hr] at this
      obtain rfl:j=i:=by simpa using this
      exact hia
    exact hA.early hpl hal hm hj hja fun E' listedA' a' w' frE' hA' hm'=>ihn E' listedA' a' w' frE' hm' hA'
 | alt x y ihx ihy =>
  have key:q0V P fr H HW nt D ops al lo r K Q (.alt x y):=by
   intro E n done t listed listedA pd Φ sl hs a w S frE hm ho ht hds hA h j hj
   simp only [otOk,Bool.and_eq_true] at ho
   simp only [trOT] at ht
   split at ht
   ·cases ht
   ·rename_i x' hx'
    split at ht
    ·cases ht
    ·rename_i y' hy'
     simp at ht;subst ht
     have h':regT P H HW lo x' pd sl hs K∧regT P H HW lo y' pd sl hs K:=h
     rcases List.mem_append.1 (show j∈qHL x++qHL y from hj) with hj|hj
     ·exact ihx.2 E n done x' listed listedA pd Φ sl hs a w S frE hm ho.1 hx' (fun d hd=>hds d (by simp [qtB,hd])) hA h'.1 j hj
     ·exact ihy.2 E n done y' listed listedA pd Φ sl hs a w S frE hm ho.2 hy' (fun d hd=>hds d (by simp [qtB,hd])) hA h'.2 j hj
  refine⟨?_,key⟩
  intro E n done t listed listedA pd Φ sl hs a w S frE hm ho ht hds hA h
  simp only [otOk,Bool.and_eq_true] at ho
  obtain⟨⟨hr,hox⟩,hoy⟩:=ho
  obtain⟨i,hi,hri,hia⟩:=qqS x hox
  induction n generalizing E listedA a w frE with
  | zero =>
   have:=qQM (mem_ready.1 (hA.eok.ready_up hri (hA.eok.notE hia))).1
   omega
  | succ n ihn =>
   have hriA:=hA.eok.ready_up hri (hA.eok.notE hia)
   refine⟨fun h0=>(by rw [h0] at hriA;cases hriA),fun j hj=>?_⟩
   by_cases hja:j∈al
   ·exact hA.early hpl hal hm hj hja fun E' listedA' a' w' frE' hA' hm'=>ihn E' listedA' a' w' frE' hm' hA'
   ·have hx:ops.size ∉ E.map (·.i):=hA.eok.notE fun hmm=>by have:=hsz _ hmm;omega
    have:=(List.all_eq_true.1 hr) j (hA.eok.ready_star hx hj hja)
    exact key E n done t listed listedA pd Φ sl hs a w S frE hm (by simp [otOk,hox,hoy]) ht hds hA h j (by simpa [qHL] using this)
 | first i t0 ih =>
  refine⟨?_,fun E n done t listed listedA pd Φ sl hs a w S frE _ ho=>by simp [otOk] at ho⟩
  intro E n done t listed listedA pd Φ sl hs a w S frE hm ho ht hds hA h
  simp only [otOk,Bool.and_eq_true] at ho
  obtain⟨⟨⟨⟨h1,h2⟩,h3⟩,hia⟩,ho⟩:=ho
  have hready:i∈Region.ready .any ops listed:=by simpa using h1
  have hia:i ∉ al:=by simpa using hia
  have hreadyA:=hA.eok.ready_up hready (hA.eok.notE hia)
  cases n with
  | zero=>have:=qQM (mem_ready.1 hreadyA).1;omega
  | succ n =>
   have hm':=quO hm (mem_ready.1 hreadyA).1
   obtain⟨hdc,heok,hnom,hsl,hw,hst,hS,hkn,hkp⟩:=hA
   simp only [trOT] at ht
   split at ht
   ·cases ht
   ·rename_i o hoi
    split at ht
    ·cases ht
    ·rename_i so hso
     split at ht
     ·rename_i hrd
      split at ht
      ·cases ht
      ·rename_i rest hrest
       simp at ht;subst ht
       obtain⟨hop,hdst,hlt0⟩:=qaF hso
       have hds':∀ d∈qtB rest,d∈D.ds:=fun d hd=>hds d (by simp [qtB,hd])
       have hlt:∀ d,o.dst=some d→d<nt∧d∈D.ds:=fun d h=>⟨hlt0 d h,hds d (by simp [qtB,hdst.trans h])⟩
       have hdc':=hdc.ready hreadyA
       have hW:WW P ops i=false:=by simpa using h3
       have hfree:∀ j oj,ops[j]?=some oj→j≠i→listedA.getD j true=false→(∀ e∈oj.after,Region.binds .any e=true→e.on≠i)→o.apart ops oj=true:=fun j oj hj hji hun hno=>by
        refine Region.free_spec hoi h2 j oj hj hji ?_ hno
        cases hh:listed.getD j true with
        | false=>rfl
        | true=>rw [heok.getD_of hh] at hun;cases hun
       have hset:=fun v=>heok.set hia hoi (fun k hk=>(hal k hk).1) v
       have hndL:∀ d,so.dst=some d→d ∉ dstL ops (pend al listed):=fun d hd hmem=>by
        obtain⟨k,hk,hkd⟩:=List.mem_filterMap.1 hmem
        obtain⟨o',ho',hd'⟩:=Option.bind_eq_some_iff.1 hkd
        have hkal:=(List.mem_filter.1 hk).1
        obtain⟨o2,ty,d2,ho2,_,_,hd2,hdis⟩:=qzF (hal k hkal).1
        rw [ho'] at ho2;cases ho2
        rw [hd'] at hd2;cases hd2
        exact hdis i o (fun e=>hia (e▸hkal)) hoi (hdst▸hd)
       have hnsub:=fun sl2 (h:NoM (dstL ops (pend al listed)) sl2)=>h.sub (qVN (ops:=ops) fun k hk=>(qRK (al:=al) (listed:=listed) (i:=i) k hk).1)
       have sub:∀ k∈done,k∈(if so.op.pure=true then done else i :: done):=fun k hk=>by split;exact hk;exact List.mem_cons_of_mem _ hk
       have hreg:q0F sl so.g
         (fun sl=>opS P (qyN so.op H HW) noY so.op sl hs fun x hs'=>chkS [] hs' (qEB so.dst sl x fun sl'=>regT P H HW lo rest (addP ⟨i,!so.op.pure,[],so⟩ sl x pd) sl' hs' K) pd)
         (fun sl=>chkS [] hs (qEB so.dst sl (.v undef) fun sl'=>regT P H HW lo rest pd sl' hs K) pd):=h
       have hreg:=qFM hnom hreg
       rcases q0H hso hsl hreg with ⟨hwant,sl1,⟨hnom1,k1⟩,hsl1⟩|⟨hwant,sl1,⟨hnom1,k1⟩,hsl1⟩
       ·unfold opS at k1
        simp only [hrd] at k1
        obtain⟨s,hk,hrun⟩:=qtN hop hrd hsl1.slots k1
        obtain⟨hk,_⟩:=qeD hk
        have hk:=qFH hnom1 hndL hk
        rw [hdst] at hk
        obtain⟨sl2,⟨hnom2,hk2⟩,hsl2⟩:=hsl1.putd hlt s (k:=fun s'=>NoM (dstL ops (pend al listed)) s'∧regT P H HW lo rest (addP ⟨i,!so.op.pure,[],so⟩ sl1 s pd) s' hs K) hk
        have hy:YieldsIf P ops S o (conc s) a:=.inl ⟨hwant,fun w' hw'=>let ⟨fr',hfr'⟩:=hkn w' hw';hrun fr' w' (.inr hfr')⟩
        cases hp:so.op.pure with
        | true =>
         rw [hp] at hk2 hrest
         refine quJ hoi (qqC hpl) hW (fun p hp=>hp) (fun S' j _ _=>.inl ⟨hwant,fun w' _=>hrun fr w' (.inl hp)⟩) n S listedA a w hfree hdc hreadyA ⟨rfl,rfl⟩ hy hS ?_
         exact ih.1 E n done rest _ _ _ Φ sl2 hs _ w S frE hm' ho (by simpa using hrest) hds' ⟨hdc',hset _,hnsub sl2 hnom2,hsl2,hw,hst,hS,hkn,hkp⟩ hk2
        | false =>
         rw [hp] at hk2 hrest
         refine quJ (Φ':=⟨i,o,conc s,a⟩ :: Φ) hoi (qqC hpl) hW (fun p hp=>List.mem_cons_of_mem _ hp) (fun S' j hd hΦ=>hΦ _ (List.mem_cons_self ..) hd) n S listedA a w hfree hdc hreadyA ⟨rfl,rfl⟩ hy hS ?_
         refine ih.1 E n (i :: done) rest _ _ ((i,so.op,sl1,s) :: pd) _ sl2 hs _ w S frE hm' ho (by simpa using hrest) hds' ⟨hdc',hset _,hnsub sl2 hnom2,hsl2,hw,hst,hS,hkn,?_⟩ hk2
         intro p hp
         rcases List.mem_cons.1 hp with rfl|hp
         ·exact .inl ⟨List.mem_cons_self ..,hwant,so.op,sl1,s,List.mem_cons_self ..,hop,hrd,hsl1.slots,rfl⟩
         ·exact hkp.mono (fun k hk=>List.mem_cons_of_mem _ hk) (fun k hk=>List.mem_cons_of_mem _ hk) p hp
       ·obtain⟨hk,_⟩:=qeD k1
        have hk:=qFH hnom1 hndL hk
        rw [hdst] at hk
        obtain⟨sl2,⟨hnom2,hk2⟩,hsl2⟩:=hsl1.putd hlt (.v undef) (k:=fun s'=>NoM (dstL ops (pend al listed)) s'∧regT P H HW lo rest pd s' hs K) hk
        refine quJ hoi (qqC hpl) hW (fun p hp=>hp) (fun S' j _ _=>.inr ⟨hwant,rfl⟩) n S listedA a w hfree hdc hreadyA ⟨rfl,rfl⟩ (.inr ⟨hwant,rfl⟩) hS ?_
        exact ih.1 E n _ rest _ _ pd Φ sl2 hs _ w S frE hm' ho hrest hds' ⟨hdc',hset _,hnsub sl2 hnom2,hsl2,hw,hst,hS,hkn,hkp.mono sub fun _ h=>h⟩ hk2
     ·cases ht
end
theorem q2L {P:Program} {fr:Fr} {H HW:qIA} (hH:SndB P H) (hHW:∀ fr,SndH P fr HW) {nt:Nat} {D:Pin} {ops:Array Oper} {al:List Nat} {r:Option Nat} {K:Sl→Hs→Prop} {Q:Act→World→Prop} (hm:P.follows .mixedOrders=true) (hpl:q4L ops=true)
  (hal:AlOk P nt D ops al) (hnd:al.Nodup) (hQ:∀ sl hs a w,K sl hs→Sim nt D sl a→HSim fr hs w→Q a w) {oi:OI} {t:OT} {sl:Sl} {hs:Hs} {a:Act} {w:World} (ho:otOk P ops al false oi (Array.replicate ops.size false)=true)
  (ht:trOT P nt ops [] oi=some t) (hds:∀ d∈qtB t,d∈D.ds) (hno:NoM (dstL ops al) sl) (hsl:Sim nt D sl a) (hw:HSim fr hs w) (h:regT P H HW hs.lo t [] sl hs K) (id:Nat):(Code.region id ops true).wpIn (FW r) 0 P (QN Q) a w:=by
 refine wpIn_region_any hm ?_
 have hw':HSim fr hs {w with drawn:=w.drawn+1}:=hw.agree (Below.of_drew w _)
 have hdc:DC ops (Array.replicate ops.size false):=fun k o hk=>by
  rw [Array.getD_eq_getD_getElem?,Array.getElem?_replicate] at hk
  split at hk<;>simp at hk
 have hsz:∀ k∈al,k<ops.size:=fun k hk=>by
  obtain⟨_,⟨o,_,ho,_⟩,_⟩:=hal k hk
  exact(Array.getElem?_eq_some_iff.1 ho).1
 have hpend:pend al (Array.replicate ops.size false)=al:=by
  unfold pend
  rw [List.filter_eq_self]
  intro k hk
  have:=hsz k hk
  simp [Array.getD_eq_getD_getElem?,Array.getElem?_replicate,this]
 let frE:Fr:=⟨{w with drawn:=w.drawn+1},fr.pr,fr.g0,fun n hn=>Nat.lt_of_lt_of_le (fr.wf n hn) hw'.frm.size⟩
 have hE:HSim frE hs {w with drawn:=w.drawn+1}:=⟨hw'.good,⟨rfl,rfl,rfl,Nat.le_refl _,fun _ _=>rfl⟩,hw'.res,hw'.nod,hw'.fre,hw'.fz,hw'.own,hw'.low⟩
 have:=(q6S (r:=r) (lo:=hs.lo) hH hHW hpl hal hnd hsz hQ oi).1 [] ops.size [] t _ (Array.replicate ops.size false) [] [] sl hs a _ (Knows hs) frE (by unfold unl;exact Nat.le_trans List.count_le_length (by simp)) ho ht hds
  ⟨hdc,⟨(fun e he=>nomatch he),(fun e he=>nomatch he),(fun e he=>nomatch he),List.nodup_nil,List.nodup_nil,hw'.frm,hw'.low.1,fun n=>by simp [frE],fun n=>by simp [frE],fun k=>by simp⟩,by rw [hpend];exact hno,hsl,hE,Knows.stable hs,⟨fr,hw'⟩,fun _ h=>h,fun p hp=>by cases hp⟩ h
 exact qXN _ _ _ _ _ _ this
/- A symbolic evaluator over the model's code,part 10: code. -/
open Go.RowKit
inductive SCode where
 | skip
 | reg (ops:List SOper)
 | regD (scr:List Nat) (t:OT)
 | seq (a b:SCode)
 | cond (c:Opd) (a b:SCode)
 | block (id:Nat) (b:SCode)
 | loop (ms scr:List Nat) (b:SCode)
 | rfun (g:Opd) (ps:List Nat) (asg body:SCode)
 | exit (id:Nat)
 | ret
 | label (l:Nat)
 | goto (l:Nat)
 | jump (l:Nat) (b r:SCode)
 | scope (b:SCode)
 deriving Inhabited
def dsts:SCode→List Nat
 | .reg ops=>qdH ops
 | .regD scr t=>scr++qtB t
 | .seq a b=>dsts a++dsts b
 | .cond _ a b=>dsts a++dsts b
 | .block _ b=>dsts b
 | .loop _ _ b=>dsts b
 | .jump _ b r=>dsts b++dsts r
 | .scope b=>dsts b
 | _=>[]
abbrev Kont:=Ex→Sl→Hs→Prop
abbrev Run:=Sl→Hs→Kont→Prop
def qpU (c:Opd) (A B:Run) (sl:Sl) (hs:Hs) (K:Kont):Prop:=match c with
 | .t n=>match getS sl n with
  | some (.b true)=>A sl hs K
  | some (.b false)=>B sl hs K
  | some (.v (.bool x))=>(x=true→A ((n,.b true) :: sl) hs K)∧(x=false→B ((n,.b false) :: sl) hs K)
  | _=>False
 | .b true=>A sl hs K
 | .b false=>B sl hs K
 | .c _=>False
def seqE (B:Run) (K:Kont):Kont:=fun e sl hs=>match e with
 | .normal=>B sl hs K
 | .exit n=>K (.exit n) sl hs
 | .ret=>K .ret sl hs
 | .goto n=>K (.goto n) sl hs
def qyT (id:Nat) (K:Kont):Kont:=fun e sl hs=>match e with
 | .normal=>K .normal sl hs
 | .exit n=>match Nat.beq n id with
  | true=>K .normal sl hs
  | false=>K (.exit n) sl hs
 | .ret=>K .ret sl hs
 | .goto n=>K (.goto n) sl hs
def getL:List Nat→Sl→(List SV→Prop)→Prop
 | [],_,k=>k []
 | n :: r,sl,k=>match getS sl n with
  | some x=>getL r sl fun l=>k (x :: l)
  | none=>False
def qmP (ds:List Nat):Sl→(Sl→Prop)→Prop
 | [],k=>k []
 | (n,x) :: r,k=>match memN n ds with
  | true=>qmP ds r k
  | false=>qmP ds r fun l=>k ((n,x) :: l)
def zipS (ms:List Nat) (vs:List SV) (sl:Sl):Sl:=zip2 ms vs sl
where
 zip2:List Nat→List SV→Sl→Sl
 | n :: ns,x :: xs,sl=>(n,x) :: zip2 ns xs sl
 | _,_,sl=>sl
def Imp (vs:List SV) (hs:Hs) (vs':List SV) (hs':Hs):Prop:=qAA vs'=qAA vs∧∀ fr w,HSim fr hs w→HSim fr hs' w
theorem Imp.refl (vs:List SV) (hs:Hs):Imp vs hs vs hs:=⟨rfl,fun _ _ h=>h⟩
theorem Imp.eqv {vs vs':List SV} (hs:Hs) (h:qAA vs'=qAA vs):Imp vs hs vs' hs:=⟨h,fun _ _ h=>h⟩
def loopE {α:Type} (ms:List Nat) (V:α→List SV) (W:α→Hs) (J:α→Prop) (μ:α→Nat) (x:α) (K:Kont):Kont:=fun e sl hs=>match e with
 | .normal=>getL ms sl fun vs'=>∀ fr w,HSim fr hs w→∃ y,qAA (V y)=qAA vs'∧J y∧μ y<μ x∧HSim fr (W y) w
 | .exit n=>K (.exit n) sl hs
 | .ret=>K .ret sl hs
 | .goto n=>K (.goto n) sl hs
def loopS (ms scr:List Nat) (body:Run) (sl:Sl) (hs:Hs) (K:Kont):Prop :=
 getL ms sl fun vs0=>qmP scr sl fun sl0=>∃ (α:Type) (V:α→List SV) (W:α→Hs) (J:α→Prop) (μ:α→Nat),
  (∀ fr w,HSim fr hs w→∃ x,qAA (V x)=qAA vs0∧J x∧HSim fr (W x) w)∧∀ x,J x→body (zipS ms (V x) sl0) (W x) (loopE ms V W J μ x K)
def qhM (id l0:Nat) (busy:Bool) (new:LpS):List Res→(List Res→Prop)→Prop
 | [],_=>False
 | .lp k l r j :: rs,K=>match Nat.beq k id with
  | true=>l=l0∧match busy with
   | true=>match j with
    | .busy=>K (.lp k l r new :: rs)
    | _=>False
   | false=>match j with
    | .ready=>K (.lp k l r new :: rs)
    | _=>False
  | false=>qhM id l0 busy new rs fun rs'=>K (.lp k l r j :: rs')
 | x :: rs,K=>qhM id l0 busy new rs fun rs'=>K (x :: rs')
def qDR (id l0:Nat):List Res→(LpS→List Res→Prop)→Prop
 | [],_=>False
 | .lp k l r j :: rs,K=>match Nat.beq k id with
  | true=>l=l0∧K j rs
  | false=>qDR id l0 rs fun j' rs'=>K j' (.lp k l r j :: rs')
 | x :: rs,K=>qDR id l0 rs fun j' rs'=>K j' (x :: rs')
def qkM:List Nat→List SV→Sl→(Sl→Prop)→Prop
 | [],[],sl,k=>k sl
 | n :: ns,x :: xs,sl,k=>qkM ns xs ((n,x) :: sl) k
 | _,_,_,_=>False
def qLV (id l:Nat) (K:SV→Hs→Prop):Kont:=fun e _ hs=>match hs with
 | ⟨hg,hr,hn,hl⟩=>match e with
  | .normal=>qhM id l true .ready hr fun rs5=>K (.b true) ⟨hg,rs5,hn,hl⟩
  | .exit n=>qhM id l true (.jump (.exit n)) hr fun rs5=>K (.b false) ⟨hg,rs5,hn,hl⟩
  | .ret=>qhM id l true (.jump .ret) hr fun rs5=>K (.b false) ⟨hg,rs5,hn,hl⟩
  | .goto n=>qhM id l true (.jump (.goto n)) hr fun rs5=>K (.b false) ⟨hg,rs5,hn,hl⟩
def qWT (id l:Nat) (rr:Loop) (ps:List Nat) (sl:Sl) (asg body:Run) (Y:qsA):qsA:=fun id' args hs K=>match Nat.beq id' id with
 | true=>match qpI id' hs.rs with
  | some (l',rr',_)=>(l'=l∧rr'=rr)∧qkM ps args sl fun sl1=>asg sl1 hs fun e sl2 hs2=>match e with
   | .normal=>match hs2 with
    | ⟨hg,hr,hn,hl⟩=>qhM id' l false .busy hr fun rs3=>body sl2 ⟨hg,rs3,hn,hl⟩ (qLV id' l K)
   | _=>False
  | none=>False
 | false=>Y id' args hs K
def endE (K:Kont) (sl:Sl) (hs:Hs) (j:LpS) (rs':List Res):Prop:=match hs with
 | ⟨hg,_,hn,hl⟩=>match j with
  | .ready=>K .normal sl ⟨hg,rs',hn,hl⟩
  | .jump (.exit n)=>K (.exit n) sl ⟨hg,rs',hn,hl⟩
  | .jump .ret=>K .ret sl ⟨hg,rs',hn,hl⟩
  | .jump (.goto n)=>K (.goto n) sl ⟨hg,rs',hn,hl⟩
  | _=>False
def qIU (P:Program) (H:qIA) (g:SV) (ps:List Nat) (asg body:Run) (Y:qsA) (sl:Sl) (hs:Hs) (K:Kont):Prop:=match g with
 | .fn (.func k) first caps=>FnOk P k∧match hs with
  | ⟨hg,hr,hn,hl⟩=>qsB hn fun i i'=>∀ (l:Nat) (rr:Loop),H (qWT i l rr ps sl asg body Y) k (first++[.yl i l]++caps) ⟨hg,.lp i l rr .ready :: hr,i',hl⟩ fun _ hs2 =>
   qDR i l hs2.rs fun j rs'=>endE K sl hs2 j rs'
 | _=>False
def qpV:Bool→qsA→Run:=fun _ _ sl hs K=>K .normal sl hs
def cReg (P:Program) (H:qIA) (ops:List SOper):Bool→qsA→Run:=fun _ Y sl hs K=>regS P H Y ops sl hs fun sl hs=>K .normal sl hs
def qhS (P:Program) (H:qIA) (scr:List Nat) (t:OT):Bool→qsA→Run:=fun _ _ sl hs K=>match hs with
 | ⟨hg,hr,hn,hl⟩=>match scr with
  | []=>regT P (okH P) H hl t [] sl ⟨hg,hr,hn,hl⟩ fun sl hs=>K .normal sl hs
  | n :: ns=>qmP (n :: ns) sl fun sl=>regT P (okH P) H hl t [] sl ⟨hg,hr,hn,hl⟩ fun sl hs=>K .normal sl hs
def cSeq (a b:Bool→qsA→Run):Bool→qsA→Run:=fun rd Y sl hs K=>a rd Y sl hs (seqE (b rd Y) K)
def cCond (c:Opd) (a b:Bool→qsA→Run):Bool→qsA→Run:=fun rd Y sl hs K=>qpU c (a rd Y) (b rd Y) sl hs K
def qrV (id:Nat) (b:Bool→qsA→Run):Bool→qsA→Run:=fun rd Y sl hs K=>b rd Y sl hs (qyT id K)
def cLoop (ms scr:List Nat) (b:Bool→qsA→Run):Bool→qsA→Run:=fun rd Y sl hs K=>loopS ms scr (b rd Y) sl hs K
def cRfun (P:Program) (H:qIA) (g:Opd) (ps:List Nat) (asg body:Bool→qsA→Run):Bool→qsA→Run:=fun rd Y sl hs K=>match rd with
 | true=>False
 | false=>g.k hs.rs sl fun g'=>qIU P H g' ps (asg true Y) (body true Y) Y sl hs K
def cExit (id:Nat):Bool→qsA→Run:=fun _ _ sl hs K=>K (.exit id) sl hs
def cRet:Bool→qsA→Run:=fun _ _ sl hs K=>K .ret sl hs
def qiU (l:Nat) (R:Run) (K:Kont):Kont:=fun e sl hs=>match e with
 | .normal=>K .normal sl hs
 | .exit n=>K (.exit n) sl hs
 | .ret=>K .ret sl hs
 | .goto n=>match Nat.beq n l with
  | true=>R sl hs K
  | false=>K (.goto n) sl hs
def q2P (K:Kont):Kont:=fun e sl hs=>match e with
 | .normal=>K .normal sl hs
 | .exit n=>K (.exit n) sl hs
 | .ret=>K .ret sl hs
 | .goto _=>False
def cGoto (l:Nat):Bool→qsA→Run:=fun _ _ sl hs K=>K (.goto l) sl hs
def cJump (l:Nat) (b r:Bool→qsA→Run):Bool→qsA→Run:=fun rd Y sl hs K=>b rd Y sl hs (qiU l (r rd Y) K)
def qqV (b:Bool→qsA→Run):Bool→qsA→Run:=fun rd Y sl hs K=>b rd Y sl hs (q2P K)
def S (P:Program) (H:qIA) (c:SCode):Bool→qsA→Run :=
 SCode.rec (motive:=fun _=>Bool→qsA→Run) qpV (fun ops=>cReg P H ops) (fun scr t=>qhS P H scr t) (fun _ _ a b=>cSeq a b) (fun c _ _ a b=>cCond c a b) (fun id _ b=>qrV id b)
  (fun ms scr _ b=>cLoop ms scr b) (fun g ps _ _ a b=>cRfun P H g ps a b) (fun id=>cExit id) cRet (fun _=>qpV) (fun l=>cGoto l) (fun l _ _ b r=>cJump l b r) (fun _ b=>qqV b) c
def qJJ:SCode→List Nat
 | .seq a b=>qJJ a++qJJ b
 | .label l=>[l]
 | _=>[]
def q9G:SCode→List Nat
 | .seq a b=>q9G a++q9G b
 | .cond _ a b=>q9G a++q9G b
 | .block _ b=>q9G b
 | .loop _ _ b=>q9G b
 | .goto l=>[l]
 | _=>[]
def qjF:SCode→Nat→Option SCode
 | .seq a b,l=>match qjF a l with
  | some r=>some (.seq r b)
  | none=>qjF b l
 | .label m,l=>if m==l then some .skip else none
 | _,_=>none
def nest (c0:SCode):SCode→List Nat→SCode
 | b,[]=>b
 | b,l :: ls=>match qjF c0 l with
  | some r=>nest c0 (.jump l b r) ls
  | none=>nest c0 b ls
def alOk (P:Program) (nt:Nat) (ops:Array Oper) (al:List Nat):Bool:=al.all (fun k=>isAl ops k&&((ops[k]?).bind (qbF P nt ops)).isSome)&&decide al.Nodup
def trC (P:Program) (nt:Nat):Code→List (List Nat×OI)×List (List Nat)→Option (SCode×(List (List Nat×OI)×List (List Nat)))
 | .skip,s=>some (.skip,s)
 | .region _ ops false,s=>match qXR P nt ops (List.range ops.size) with
  | some l=>some (.reg l,s)
  | none=>none
 | .region _ ops true,((al,τ) :: os,lm)=>match trOT P nt ops [] τ with
  | some l=>if otOk P ops al false τ (Array.replicate ops.size false)&&alOk P nt ops al&&q4L ops then some (.regD (dstL ops al) l,(os,lm)) else none
  | none=>none
 | .seq a b,s=>match trC P nt a s with
  | some (a',s')=>match trC P nt b s' with
   | some (b',s'')=>some (.seq a' b',s'')
   | none=>none
  | none=>none
 | .cond c a b,s=>match trC P nt a s with
  | some (a',s')=>match trC P nt b s' with
   | some (b',s'')=>some (.cond (qFA c) a' b',s'')
   | none=>none
  | none=>none
 | .block id b,s=>match trC P nt b s with
  | some (b',s')=>some (.block id b',s')
  | none=>none
 | .loop b,(os,ms :: lm)=>match trC P nt b (os,lm) with
  | some (b',s')=>if ms.all (fun n=>(dsts b').contains n) then some (.loop ms (dsts b').eraseDups b',s') else none
  | none=>none
 | .rangeFunc g ps asg body,s=>match trC P nt asg s with
  | some (a',s')=>match trC P nt body s' with
   | some (b',s'')=>if ps.toList.all (fun n=>decide (n<nt)) then some (.rfun (qFA g) ps.toList a' b',s'') else none
   | none=>none
  | none=>none
 | .exit id,s=>some (.exit id,s)
 | .ret,s=>some (.ret,s)
 | .label l,s=>some (.label l,s)
 | .goto l,s=>some (.goto l,s)
 | .scope b,s=>match trC P nt b s with
  | some (b',s')=>some (.scope (nest b' b' ((qJJ b').filter fun l=>(q9G b').contains l)),s')
  | none=>none
 | _,_=>none
theorem qIL:∀ {ns:List Nat} {sl:Sl} {k:List SV→Prop},getL ns sl k→∃ vs,k vs∧vs.length=ns.length∧∀ (i:Nat) n,ns[i]?=some n→∃ x,vs[i]?=some x∧getS sl n=some x
 | [],_,_,h=>⟨[],h,rfl,fun i n hi=>by simp at hi⟩
 | n :: r,sl,k,h=>by
  simp only [getL] at h
  split at h
  ·rename_i x hx
   obtain⟨vs,hk,hl,ha⟩:=qIL h
   refine⟨x :: vs,hk,by simp [hl],fun i m hi=>?_⟩
   cases i with
   | zero=>simp at hi;subst hi;exact⟨x,rfl,hx⟩
   | succ i=>exact ha i m (by simpa using hi)
  ·exact h.elim
theorem qNE {ds:List Nat}:∀ {sl:Sl} {k:Sl→Prop},qmP ds sl k→∃ sl0,k sl0∧∀ n x,getS sl0 n=some x→n ∉ ds∧getS sl n=some x
 | [],k,h=>⟨[],h,fun n x hx=>by simp [getS] at hx⟩
 | (m,y) :: r,k,h=>by
  simp only [qmP] at h
  split at h
  ·rename_i hm
   obtain⟨sl0,hk,ha⟩:=qNE h
   refine⟨sl0,hk,fun n x hx=>?_⟩
   obtain⟨h1,h2⟩:=ha n x hx
   refine⟨h1,?_⟩
   simp only [getS]
   cases hb:Nat.beq m n with
   | true=>obtain rfl:=Nat.eq_of_beq_eq_true hb;exact absurd (memN_spec.1 hm) h1
   | false=>exact h2
  ·rename_i hm
   obtain⟨sl0,hk,ha⟩:=qNE h
   refine⟨_,hk,fun n x hx=>?_⟩
   simp only [getS] at hx ⊢
   cases hb:Nat.beq m n with
   | true =>
    rw [hb] at hx
    obtain rfl:=Nat.eq_of_beq_eq_true hb
    exact⟨fun hmem=>(by rw [memN_spec.2 hmem] at hm;cases hm),hx⟩
   | false=>rw [hb] at hx;exact ha n x hx
theorem qYK:∀ (ms:List Nat) (vs:List SV) (sl:Sl) (n:Nat) (x:SV),vs.length=ms.length→getS (zipS ms vs sl) n=some x→(∃ i:Nat,ms[i]?=some n∧vs[i]?=some x)∨(n ∉ ms∧getS sl n=some x)
 | [],_,sl,n,x,hl,h=>.inr ⟨by simp,by simpa [zipS,zipS.zip2] using h⟩
 | _ :: _,[],sl,n,x,hl,h=>by simp at hl
 | m :: ms,v :: vs,sl,n,x,hl,h=>by
  simp only [zipS,zipS.zip2,getS] at h
  cases hb:Nat.beq m n with
  | true=>rw [hb] at h;obtain rfl:=Nat.eq_of_beq_eq_true hb;exact .inl ⟨0,rfl,h⟩
  | false =>
   rw [hb] at h
   rcases qYK ms vs sl n x (by simpa using hl) h with ⟨i,h1,h2⟩|⟨h1,h2⟩
   ·exact .inl ⟨i+1,h1,h2⟩
   ·exact .inr ⟨by simp [h1,Ne.symm (Nat.ne_of_beq_eq_false hb)],h2⟩
theorem qVB {id l0:Nat} {busy:Bool} {new:LpS}:∀ {rs:List Res} {k:List Res→Prop},qhM id l0 busy new rs k →
  ∃ l1 l2 r,rs=l1++.lp id l0 r (if busy then .busy else .ready) :: l2∧k (l1++.lp id l0 r new :: l2)
 | [],_,h=>h.elim
 | .lp m l r j :: rs,k,h=>by
  simp only [qhM] at h
  cases hb:Nat.beq m id with
  | true =>
   rw [hb] at h
   obtain rfl:=Nat.eq_of_beq_eq_true hb
   obtain⟨rfl,h⟩:=h
   cases busy with
   | true =>
    simp only at h
    split at h
    ·exact⟨[],rs,r,rfl,h⟩
    ·exact h.elim
   | false =>
    simp only at h
    split at h
    ·exact⟨[],rs,r,rfl,h⟩
    ·exact h.elim
  | false =>
   rw [hb] at h
   obtain⟨l1,l2,r',e,hk⟩:=qVB h
   exact⟨.lp m l r j :: l1,l2,r',by rw [e];rfl,hk⟩
 | .blk a1 a2 a3 a4 :: rs,k,h=>by
  obtain⟨l1,l2,r',e,hk⟩:=qVB (k:=fun rs'=>k (.blk a1 a2 a3 a4 :: rs')) h
  exact⟨_ :: l1,l2,r',by rw [e];rfl,hk⟩
 | .row a1 a2 a3 a4 a5 a6 a7 :: rs,k,h=>by
  obtain⟨l1,l2,r',e,hk⟩:=qVB (k:=fun rs'=>k (.row a1 a2 a3 a4 a5 a6 a7 :: rs')) h
  exact⟨_ :: l1,l2,r',by rw [e];rfl,hk⟩
 | .mk a1 :: rs,k,h=>by
  obtain⟨l1,l2,r',e,hk⟩:=qVB (k:=fun rs'=>k (.mk a1 :: rs')) h
  exact⟨_ :: l1,l2,r',by rw [e];rfl,hk⟩
 | .mp a1 a2 a3 a4 :: rs,k,h=>by
  obtain⟨l1,l2,r',e,hk⟩:=qVB (k:=fun rs'=>k (.mp a1 a2 a3 a4 :: rs')) h
  exact⟨_ :: l1,l2,r',by rw [e];rfl,hk⟩
theorem qMD {id l0:Nat}:∀ {rs:List Res} {k:LpS→List Res→Prop},qDR id l0 rs k→∃ l1 l2 r j,rs=l1++.lp id l0 r j :: l2∧k j (l1++l2)
 | [],_,h=>h.elim
 | .lp m l r j :: rs,k,h=>by
  simp only [qDR] at h
  cases hb:Nat.beq m id with
  | true =>
   rw [hb] at h
   obtain rfl:=Nat.eq_of_beq_eq_true hb
   obtain⟨rfl,h⟩:=h
   exact⟨[],rs,r,j,rfl,h⟩
  | false =>
   rw [hb] at h
   obtain⟨l1,l2,r',j',e,hk⟩:=qMD h
   exact⟨.lp m l r j :: l1,l2,r',j',by rw [e];rfl,hk⟩
 | .blk a1 a2 a3 a4 :: rs,k,h=>by
  obtain⟨l1,l2,r',j',e,hk⟩:=qMD (k:=fun j rs'=>k j (.blk a1 a2 a3 a4 :: rs')) h
  exact⟨_ :: l1,l2,r',j',by rw [e];rfl,hk⟩
 | .row a1 a2 a3 a4 a5 a6 a7 :: rs,k,h=>by
  obtain⟨l1,l2,r',j',e,hk⟩:=qMD (k:=fun j rs'=>k j (.row a1 a2 a3 a4 a5 a6 a7 :: rs')) h
  exact⟨_ :: l1,l2,r',j',by rw [e];rfl,hk⟩
 | .mk a1 :: rs,k,h=>by
  obtain⟨l1,l2,r',j',e,hk⟩:=qMD (k:=fun j rs'=>k j (.mk a1 :: rs')) h
  exact⟨_ :: l1,l2,r',j',by rw [e];rfl,hk⟩
 | .mp a1 a2 a3 a4 :: rs,k,h=>by
  obtain⟨l1,l2,r',j',e,hk⟩:=qMD (k:=fun j rs'=>k j (.mp a1 a2 a3 a4 :: rs')) h
  exact⟨_ :: l1,l2,r',j',by rw [e];rfl,hk⟩
def mkD (b:Nat):Deferred:={target:=.collected b,args:=#[]}
def Mks (fr0 fr:Fr) (D:List Deferred):Prop:=∃ bs:List Nat,D=bs.map mkD∧bs.Nodup∧∀ b∈bs,¬ fr0.pr b∧¬ fr.g0 b∧fr.pr b∧fr.w.heap[b]?=some (.deferred (some []))
def R0 (fr0:Fr) (nt:Nat) (ds:List Nat) (t:Array Value) (sl:Sl) (hs:Hs) (a:Act) (w:World):Prop:=∃ fr D,fr0.le fr∧HSim fr hs w∧Sim nt ⟨D,ds,t⟩ sl a∧Mks fr0 fr D
def Post (fr0:Fr) (nt:Nat) (ds:List Nat) (t:Array Value) (K:Ex→Sl→Hs→Prop):Exit→Act→World→Prop:=fun e a w =>
 ∃ ex sl' hs',ex.to=e∧K ex sl' hs'∧R0 fr0 nt ds t sl' hs' a w
/- A symbolic evaluator over the model's code,part 11: it is sound. -/
open Go.RowKit
theorem R0.out {fr0:Fr} {nt:Nat} {ds ds':List Nat} {t t':Array Value} {sl:Sl} {hs:Hs} {a:Act} {w:World} (h:R0 fr0 nt ds t sl hs a w) (k:∀ n∈ds,n∈ds') (ht:∀ n,n ∉ ds'→t[n]?=t'[n]?):R0 fr0 nt ds' t' sl hs a w:=by
 obtain⟨fr,D,h1,h2,h3,h4⟩:=h
 exact⟨fr,D,h1,h2,⟨h3.size,h3.defers,h3.slots,fun n hn=>(h3.off n fun h=>hn (k n h)).trans (ht n hn)⟩,h4⟩
theorem R0.up {fr0 fr1:Fr} {nt:Nat} {ds:List Nat} {t:Array Value} {sl:Sl} {hs:Hs} {a:Act} {w:World} (h:R0 fr1 nt ds t sl hs a w) (k:fr0.le fr1):R0 fr0 nt ds t sl hs a w:=by
 obtain⟨fr,D,h1,h2,h3,h4⟩:=h
 obtain⟨bs,e1,e2,e3⟩:=h4
 exact⟨fr,D,Fr.trans k h1,h2,h3,bs,e1,e2,fun b hb=>⟨fun hp=>(e3 b hb).1 (k.2 b hp).1,(e3 b hb).2⟩⟩
theorem qLM {nt:Nat} {D:Pin} {sl:Sl} {a:Act} {c:Operand} {A B:Run} {hs':Hs} {K:Kont} (h:qpU (qFA c) A B sl hs' K) (hs:Sim nt D sl a) :
  (a.eval c=.bool true∧∃ sl',A sl' hs' K∧Sim nt D sl' a)∨(a.eval c=.bool false∧∃ sl',B sl' hs' K∧Sim nt D sl' a):=by
 cases c with
 | tmp n =>
  simp only [qFA,qpU] at h
  split at h
  ·rename_i he;exact .inl ⟨qWK (hs.slots n _ he),sl,h,hs⟩
  ·rename_i he;exact .inr ⟨qWK (hs.slots n _ he),sl,h,hs⟩
  ·rename_i x he
   have:=qWK (hs.slots n _ he)
   cases x with
   | true=>exact .inl ⟨this,_,h.1 rfl,hs.same he rfl⟩
   | false=>exact .inr ⟨this,_,h.2 rfl,hs.same he rfl⟩
  ·exact h.elim
 | const v =>
  simp only [qFA] at h
  split at h
  ·rename_i x
   cases x with
   | true=>exact .inl ⟨rfl,sl,h,hs⟩
   | false=>exact .inr ⟨rfl,sl,h,hs⟩
  ·exact h.elim
 | global g=>exact h.elim
 | func f=>exact h.elim
theorem qgO {l l':List SV} (h:qAA l=qAA l') {i:Nat} {x:SV} (hx:l[i]?=some x):∃ y,l'[i]?=some y∧conc y=conc x:=by
 rw [qQA,qQA] at h
 have:(l'.map conc)[i]?=some (conc x):=by rw [← h];simp [hx]
 simpa using this
theorem q0J:∀ {ps:List Nat} {args:List SV} {sl:Sl} {k:Sl→Prop} {nt:Nat} {D:Pin} {t:Array Value} {ds:List Deferred},qkM ps args sl k→(∀ n∈ps,n<nt)→(∀ n∈ps,n∈D.ds)→Sim nt D sl ⟨t,ds⟩ →
  args.length=ps.length∧∃ sl',k sl'∧Sim nt D sl' ⟨(ps.zip (qAA args)).foldl (fun tmps (p,v)=>tmps.setIfInBounds p v) t,ds⟩
 | [],[],sl,k,nt,D,t,ds,h,hn,hd,hs=>⟨rfl,sl,h,hs⟩
 | n :: ns,x :: xs,sl,k,nt,D,t,ds,h,hn,hd,hs=>by
  simp only [qkM] at h
  obtain⟨h1,sl',h2,h3⟩:=q0J (t:=t.setIfInBounds n (conc x)) h (fun m hm=>hn m (by simp [hm])) (fun m hm=>hd m (by simp [hm])) (hs.put (hn n (by simp)) (hd n (by simp)) x)
  exact⟨by simp [h1],sl',h2,h3⟩
 | [],_ :: _,sl,k,nt,D,t,ds,h,hn,hd,hs=>h.elim
 | _ :: _,[],sl,k,nt,D,t,ds,h,hn,hd,hs=>h.elim
def qgD (P:Program) (H:qIA) (nt:Nat) (c:Code):Prop:=∀ (fr0:Fr) (r:Option Nat) (rd:Bool) (Y:qsA) (ds:List Nat) (t:Array Value) (sc:SCode) (s s':List (List Nat×OI)×List (List Nat)) (sl:Sl) (hs:Hs) (K:Ex→Sl→Hs→Prop) (a:Act) (w:World),
 trC P nt c s=some (sc,s')→(∀ d∈dsts sc,d∈ds)→(rd=false→r=none)→SndY P fr0 Y→R0 fr0 nt ds t sl hs a w→S P H sc rd Y sl hs K→c.wpIn (FW r) 0 P (Post fr0 nt ds t K) a w
section
variable {P:Program} {H:qIA} {nt:Nat}
theorem qnN (hm:P.follows .mixedOrders=true) (hH:∀ fr,SndH P fr H) (id:Nat) (ops:Array Oper) (d:Bool):qgD P H nt (.region id ops d):=by
 intro fr0 r rd Y ds t sc s s' sl hs K a w ht hds hr hY hR h
 obtain⟨fr,D,hle,hw,hsl,hmk⟩:=hR
 cases d with
 | false =>
  simp only [trC] at ht
  split at ht
  ·rename_i l hl
   simp at ht;obtain⟨rfl,rfl⟩:=ht
   refine wpIn_region (qLJ (fr:=fr) (D:=⟨D,ds,t⟩) (hH fr) (hY.up hle) (K:=fun sl hs=>K .normal sl hs) ?_ _ l sl hs a w hl hds hsl hw h)
   exact fun sl hs a w hk hsim hw=>⟨.normal,sl,hs,rfl,hk,fr,D,hle,hw,hsim,hmk⟩
  ·cases ht
 | true =>
  obtain⟨os,lm⟩:=s
  cases os with
  | nil=>simp [trC] at ht
  | cons τ os =>
   obtain⟨al,τ⟩:=τ
   simp only [trC] at ht
   split at ht
   ·rename_i l hl
    split at ht
    ·rename_i hc
     simp at ht;obtain⟨rfl,rfl⟩:=ht
     simp only [Bool.and_eq_true] at hc
     obtain⟨⟨hc1,hc2⟩,hc3⟩:=hc
     simp only [alOk,Bool.and_eq_true,decide_eq_true_eq] at hc2
     have hal:AlOk P nt ⟨D,ds,t⟩ ops al:=fun k hk=>by
      have:=(List.all_eq_true.1 hc2.1) k hk
      simp only [Bool.and_eq_true] at this
      obtain⟨so,hso⟩:=Option.isSome_iff_exists.1 this.2
      obtain⟨o,ho,hso⟩:=Option.bind_eq_some_iff.1 hso
      refine⟨this.1,⟨o,so,ho,hso⟩,fun o' d ho' hd=>hds d (List.mem_append.2 (.inl (List.mem_filterMap.2 ⟨k,hk,by simp [ho',hd]⟩)))⟩
     have hds':∀ d∈qtB l,d∈ds:=fun d hd=>hds d (List.mem_append.2 (.inr hd))
     have go:∀ sl,NoM (dstL ops al) sl→Sim nt ⟨D,ds,t⟩ sl a→regT P (okH P) H hs.lo l [] sl hs (fun sl hs=>K .normal sl hs)→(Code.region id ops true).wpIn (FW r) 0 P (Post fr0 nt ds t K) a w:=fun sl hno hsl h=>by
      refine wpIn_mono (q2L (r:=r) (fr:=fr) (D:=⟨D,ds,t⟩) (qwM P) hH (K:=fun sl hs=>K .normal sl hs) (Q:=fun a w=>Post fr0 nt ds t K .normal a w) hm hc3 hal hc2.2 ?_ hc1 hl hds' hno hsl hw h id) ?_
      ·exact fun sl hs a w hk hsim hw=>⟨.normal,sl,hs,rfl,hk,fr,D,hle,hw,hsim,hmk⟩
      ·intro e a w hq
       cases e<;>first|exact hq|exact hq.elim
     obtain⟨hg,hr',hn,hl'⟩:=hs
     have h:qhS P H (dstL ops al) l rd Y sl ⟨hg,hr',hn,hl'⟩ K:=h
     unfold qhS at h
     simp only at h
     split at h
     ·rename_i he
      exact go sl (by rw [he];intro d hd;cases hd) hsl h
     ·rename_i n ns he
      obtain⟨sl0,hk,hall⟩:=qNE h
      refine go sl0 (by rw [he];intro d hd;cases hh:getS sl0 d with
       | none=>rfl
       | some x=>exact absurd hd (hall d x hh).1) ⟨hsl.size,hsl.defers,fun n x hx=>hsl.slots n x (hall n x hx).2,hsl.off⟩ hk
    ·cases ht
   ·cases ht
theorem qmN {x y:Code} (hx:qgD P H nt x) (hy:qgD P H nt y):qgD P H nt (.seq x y):=by
 intro fr0 r rd Y ds t sc s s' sl hs K a w ht hds hr hY hR h
 simp only [trC] at ht
 split at ht
 ·rename_i x' s1 hx'
  split at ht
  ·rename_i y' s2 hy'
   simp at ht;obtain⟨rfl,rfl⟩:=ht
   refine wpIn_seq (wpIn_mono (hx fr0 r rd Y ds t _ _ _ sl hs _ a w hx' (fun d hd=>hds d (by simp [dsts,hd])) hr hY hR h) ?_)
   rintro e a1 w1 ⟨ex,sl1,hs1,rfl,hk,hR1⟩
   cases ex with
   | normal=>exact hy fr0 r rd Y ds t _ _ _ sl1 hs1 K a1 w1 hy' (fun d hd=>hds d (by simp [dsts,hd])) hr hY hR1 hk
   | exit n=>exact⟨.exit n,sl1,hs1,rfl,hk,hR1⟩
   | ret=>exact⟨.ret,sl1,hs1,rfl,hk,hR1⟩
   | goto n=>exact⟨.goto n,sl1,hs1,rfl,hk,hR1⟩
  ·cases ht
 ·cases ht
theorem qeQ {c:Operand} {x y:Code} (hx:qgD P H nt x) (hy:qgD P H nt y):qgD P H nt (.cond c x y):=by
 intro fr0 r rd Y ds t sc s s' sl hs K a w ht hds hr hY hR h
 simp only [trC] at ht
 split at ht
 ·rename_i x' s1 hx'
  split at ht
  ·rename_i y' s2 hy'
   simp at ht;obtain⟨rfl,rfl⟩:=ht
   obtain⟨fr,D,hle,hw,hsl,hmk⟩:=hR
   rcases qLM (A:=S P H x' rd Y) (B:=S P H y' rd Y) h hsl with ⟨hc,sl1,h1,hsl1⟩|⟨hc,sl1,h1,hsl1⟩
   ·exact wpIn_cond_true hc (hx fr0 r rd Y ds t _ _ _ sl1 hs K a w hx' (fun d hd=>hds d (by simp [dsts,hd])) hr hY ⟨fr,D,hle,hw,hsl1,hmk⟩ h1)
   ·exact wpIn_cond_false hc (hy fr0 r rd Y ds t _ _ _ sl1 hs K a w hy' (fun d hd=>hds d (by simp [dsts,hd])) hr hY ⟨fr,D,hle,hw,hsl1,hmk⟩ h1)
  ·cases ht
 ·cases ht
theorem q8O {id:Nat} {x:Code} (hx:qgD P H nt x):qgD P H nt (.block id x):=by
 intro fr0 r rd Y ds t sc s s' sl hs K a w ht hds hr hY hR h
 simp only [trC] at ht
 split at ht
 ·rename_i x' s1 hx'
  simp at ht;obtain⟨rfl,rfl⟩:=ht
  refine wpIn_block (wpIn_mono (hx fr0 r rd Y ds t _ _ _ sl hs _ a w hx' (fun d hd=>hds d (by simpa [dsts] using hd)) hr hY hR h) ?_)
  rintro e a1 w1 ⟨ex,sl1,hs1,rfl,hk,hR1⟩
  cases ex with
  | normal=>exact⟨.normal,sl1,hs1,rfl,hk,hR1⟩
  | exit n =>
   simp only [qyT] at hk
   simp only [Ex.to,Exit.inBlock]
   cases hb:Nat.beq n id with
   | true=>rw [hb] at hk;rw [if_pos (Nat.eq_of_beq_eq_true hb)];exact⟨.normal,sl1,hs1,rfl,hk,hR1⟩
   | false=>rw [hb] at hk;rw [if_neg (Nat.ne_of_beq_eq_false hb)];exact⟨.exit n,sl1,hs1,rfl,hk,hR1⟩
  | ret=>exact⟨.ret,sl1,hs1,rfl,hk,hR1⟩
  | goto n=>exact⟨.goto n,sl1,hs1,rfl,hk,hR1⟩
 ·cases ht
theorem qcQ {x:Code} (hx:qgD P H nt x):qgD P H nt (.loop x):=by
 intro fr0 r rd Y ds t sc s s' sl hs K a w ht hds hr hY hR h
 obtain⟨os,lm⟩:=s
 cases lm with
 | nil=>simp [trC] at ht
 | cons ms lm =>
 simp only [trC] at ht
 split at ht
 ·rename_i x' s1 hx'
  split at ht
  ·rename_i hms
   simp at ht;obtain⟨rfl,rfl⟩:=ht
   have hms':∀ n∈ms,n∈dsts x':=by simpa using hms
   obtain⟨fr,D,hle,hw,hsl,hmk⟩:=hR
   obtain⟨vs0,h1,hlen,hvs⟩:=qIL (k:=fun vs0=>qmP (dsts x').eraseDups sl fun sl0=>_) h
   obtain⟨sl0,⟨α,V,W,J,μ,hstart,hround⟩,hsl0⟩:=qNE h1
   obtain⟨x0,himp,hI,hw0⟩:=hstart fr w hw
   have hoff:∀ n x,getS sl0 n=some x→n ∉ dsts x'∧a.tmps[n]?=some (conc x):=fun n x hx=>by
    obtain⟨h1,h2⟩:=hsl0 n x hx
    exact⟨by simpa using h1,hsl.slots n x h2⟩
   have hvl:(V x0).length=ms.length:=by
    have:=congrArg List.length himp
    rw [qQA,qQA,List.length_map,List.length_map] at this
    omega
   refine wpIn_loop_ghost (fun m a' w'=>∃ x,(V x).length=ms.length∧J x∧μ x=m∧R0 fr0 nt (dsts x') a.tmps (zipS ms (V x) sl0) (W x) a' w') (μ x0) ⟨x0,hvl,hI,rfl,fr,D,hle,hw0,⟨hsl.size,hsl.defers,fun n x hn=>?_,fun n _=>rfl⟩,hmk⟩ ?_
   ·rcases qYK ms (V x0) sl0 n x hvl hn with ⟨i,h1,h2⟩|⟨_,h2⟩
    ·obtain⟨y,hy,hg⟩:=hvs i n h1
     obtain⟨z,hz,he⟩:=qgO himp h2
     rw [hy] at hz;cases hz
     rw [← he];exact hsl.slots n y hg
    ·exact(hoff n x h2).2
   ·rintro m a1 w1 ⟨x1,hvl,hI,rfl,hR1⟩
    refine wpIn_mono (hx fr0 r rd Y (dsts x') a.tmps _ _ _ _ (W x1) _ a1 w1 hx' (fun d hd=>hd) hr hY hR1 (hround x1 hI)) ?_
    have fin:∀ {e a2 w2} (ex:Ex) (sl2:Sl) (hs2:Hs),ex.to=e→R0 fr0 nt (dsts x') a.tmps sl2 hs2 a2 w2→K ex sl2 hs2→Post fr0 nt ds t K e a2 w2:=fun ex sl2 hs2 he hR2 hk =>
     ⟨ex,sl2,hs2,he,hk,hR2.out (fun n hn=>hds n (by simpa [dsts] using hn)) fun n hn=>hsl.off n hn⟩
    rintro e a2 w2 ⟨ex,sl2,hs2,rfl,hk,hR2⟩
    cases ex with
    | normal =>
     obtain⟨vs',hnext,hlen2,hvs2⟩:=qIL (k:=fun vs'=>∀ fr w,HSim fr hs2 w→∃ y,qAA (V y)=qAA vs'∧J y∧μ y<μ x1∧HSim fr (W y) w) hk
     obtain⟨fr2,D2,hle2,hw2,hsl2,hmk2⟩:=hR2
     obtain⟨y1,himp2,hI2,hlt,hw3⟩:=hnext fr2 w2 hw2
     have hvl2:(V y1).length=ms.length:=by
      have:=congrArg List.length himp2
      rw [qQA,qQA,List.length_map,List.length_map] at this
      omega
     refine⟨μ y1,hlt,y1,hvl2,hI2,rfl,fr2,D2,hle2,hw3,⟨hsl2.size,hsl2.defers,fun n x hn=>?_,hsl2.off⟩,hmk2⟩
     rcases qYK ms (V y1) sl0 n x hvl2 hn with ⟨i,h1,h2⟩|⟨_,h2⟩
     ·obtain⟨y,hy,hg⟩:=hvs2 i n h1
      obtain⟨z,hz,he⟩:=qgO himp2 h2
      rw [hy] at hz;cases hz
      rw [← he];exact hsl2.slots n y hg
     ·obtain⟨h3,h4⟩:=hoff n x h2
      rw [hsl2.off n h3];exact h4
    | exit n=>exact fin (.exit n) sl2 hs2 rfl hR2 hk
    | ret=>exact fin .ret sl2 hs2 rfl hR2 hk
    | goto n=>exact fin (.goto n) sl2 hs2 rfl hR2 hk
  ·cases ht
 ·cases ht
end
/- A symbolic evaluator over the model's code,part 12: ranges over functions. -/
open Go.RowKit
section
variable {P:Program} {H:qIA} {nt:Nat}
theorem HSim.put {fr:Fr} {hs:Hs} {w:World} (h:HSim fr hs w) {l1 l2:List Res} {id l:Nat} {r:Loop} {j j':LpS} {nx:Nat} (hl:hs.rs=l1++.lp id l r j :: l2) :
  HSim fr ⟨hs.g,l1++.lp id l r j' :: l2,nx,hs.lo⟩ (w.putObj l (.loop (qlI r j'))):=by
 have hh:w.heap[l]?=some (.loop (qlI r j)):=h.res (.lp id l r j) (by rw [hl];simp)
 have hlt:l<w.heap.size:=(Array.getElem?_eq_some_iff.1 hh).1
 refine h.upd hl rfl rfl rfl (by simp) (fun k _ hk=>World.putObj_heap_other (by simpa [Res.bk] using hk)) (World.putObj_heap_same hlt) (fun b hb=>.inl hb) (by simp [Res.bk])
theorem HSim.lpAt {fr:Fr} {hs:Hs} {w:World} (h:HSim fr hs w) {l1 l2:List Res} {id l:Nat} {r:Loop} {j:LpS} (hl:hs.rs=l1++.lp id l r j :: l2):w.heap[l]?=some (.loop (qlI r j)) :=
 h.res (.lp id l r j) (by rw [hl];simp)
theorem HSim.drop {fr:Fr} {hs:Hs} {w:World} (h:HSim fr hs w) {l1 l2:List Res} {id l:Nat} {r:Loop} {j:LpS} {nx:Nat} (hl:hs.rs=l1++.lp id l r j :: l2) (o:Loop) :
  HSim fr ⟨hs.g,l1++l2,nx,hs.lo⟩ (w.putObj l (.loop o)):=by
 have hh:=h.lpAt hl
 have hlt:l<w.heap.size:=(Array.getElem?_eq_some_iff.1 hh).1
 have h2:=h.sub (rs:=l1++l2) (nx:=nx) (by rw [hl];exact List.Sublist.append (List.Sublist.refl _) (List.sublist_cons_self _ _))
 have hfree:∀ b∈Hs.bks ⟨hs.g,l1++l2,nx,hs.lo⟩,b≠l:=fun b hb hbl=>by
  have hnod:=h.nod
  have hbk:hs.bks=l1.flatMap Res.bk++([l]++l2.flatMap Res.bk):=by simp [Hs.bks,hl,Res.bk]
  rw [hbk] at hnod
  obtain⟨n1,n23,d1⟩:=List.nodup_append.1 hnod
  obtain⟨n2,n3,d2⟩:=List.nodup_append.1 n23
  have hb':b∈l1.flatMap Res.bk++l2.flatMap Res.bk:=by simpa [Hs.bks] using hb
  subst hbl
  rcases List.mem_append.1 hb' with h1|h1
  ·exact d1 b h1 b (by simp) rfl
  ·exact d2 b (by simp) b h1 rfl
 have hmem:l∈hs.bks:=List.mem_flatMap.2 ⟨.lp id l r j,by rw [hl];simp,by simp [Res.bk]⟩
 refine⟨⟨Nat.le_trans h.good.1 (by simp),fun n hn=>?_⟩,⟨h.frm.os,h.frm.tape,h.frm.output,Nat.le_trans h.frm.size (by simp),fun n hn=>?_⟩,fun x hx=>?_,h2.nod,h2.fre,h2.fz,h2.own,Nat.le_trans h2.low.1 (by simp),h2.low.2⟩
 ·exact(World.putObj_heap_other (k:=n) (r:=l) fun e=>(h.fre l hmem).1 (e▸hn)).trans (h.good.2 n hn)
 ·exact(World.putObj_heap_other (k:=n) (r:=l) fun e=>(h.fre l hmem).2 (e▸hn)).trans (h.frm.block n hn)
 ·exact Res.holds_of (fun b hb=>World.putObj_heap_other (hfree b (List.mem_flatMap.2 ⟨x,hx,hb⟩))) (h2.res x hx)
theorem qdQ {asg body:Code} (ha:qgD P H nt asg) (hb:qgD P H nt body) {fr0 fr:Fr} (hle:fr0.le fr) {Y:qsA} (hY:SndY P fr0 Y) {a' b':SCode} {s s1 s2:List (List Nat×OI)×List (List Nat)} (hta:trC P nt asg s=some (a',s1)) (htb:trC P nt body s1=some (b',s2))
  {ps:Array Tmp} (hps:∀ n∈ps.toList,n<nt) {sl:Sl} {t:Array Value} (ht:t.size=nt) (hsl:∀ n x,getS sl n=some x→t[n]?=some (conc x)) {rr:Loop} (hrt:rr.tmps=t) (hrp:rr.params=ps) (hra:rr.assign=asg) (hrb:rr.body=body) (id l:Nat) :
  SndY P fr (qWT id l rr ps.toList sl (S P H a' true Y) (S P H b' true Y) Y):=by
 intro fr2 hfr2 id' args hs K h lp r' j w hlp hw
 unfold qWT at h
 split at h
 ·split at h
  ·rename_i l' rr' j' hlp'
   rw [hlp] at hlp'
   cases hlp'
   obtain⟨⟨rfl,rfl⟩,h⟩:=h
   have h0:Sim nt ⟨[],ps.toList++(dsts a'++dsts b'),t⟩ sl ⟨t,[]⟩:=⟨ht,rfl,hsl,fun _ _=>rfl⟩
   obtain⟨hlen,sl1,h1,hsl1⟩:=q0J h hps (fun n hn=>by simp [hn]) h0
   refine⟨by rw [hlen,hrp];simp,?_⟩
   have hrt':qmF r' (qAA args).toArray=(ps.toList.zip (qAA args)).foldl (fun tmps (p,v)=>tmps.setIfInBounds p v) t:=by
    unfold qmF
    rw [hrp,hrt,← Array.foldl_toList]
    simp
   rw [hrt',hra,hrb]
   have hle2:=Fr.trans hle hfr2
   have hY2:=hY.up hle2
   have hR1:R0 fr2 nt (ps.toList++(dsts a'++dsts b')) t sl1 hs ⟨(ps.toList.zip (qAA args)).foldl (fun tmps (p,v)=>tmps.setIfInBounds p v) t,[]⟩ w:=⟨fr2,[],Fr.refl _,hw,hsl1,[],rfl,.nil,fun b hb=>by cases hb⟩
   refine roundIn_of_wpIn (F:=FW none) trivial ?_
   refine wpIn_mono (ha fr2 (some lp) true Y _ t a' s s1 sl1 hs _ _ w hta (fun d hd=>by simp [hd]) (by simp) hY2 hR1 h1) ?_
   rintro e a2 w2 ⟨ex,sl2,hs2,rfl,hk,hR2⟩
   cases ex with
   | normal =>
    obtain⟨l1,l2,r2,hrs,hk2⟩:=qVB hk
    obtain⟨fr3,D3,hle3,hw3,hsl3,hmk3⟩:=hR2
    refine⟨_,run_beginRound (hw3.lpAt hrs) rfl,?_⟩
    have hw4:=hw3.put (j':=.busy) (nx:=hs2.nx) hrs
    refine wpIn_mono (hb fr2 (some lp) true Y (ps.toList++(dsts a'++dsts b')) t b' s1 s2 sl2 _ _ _ _ htb (fun d hd=>by simp [hd]) (by simp) hY2 ⟨fr3,D3,hle3,hw4,hsl3,hmk3⟩ hk2) ?_
    rintro e a4 w4 ⟨ex,sl4,hs4,rfl,hk4,hR4⟩
    obtain⟨fr5,D5,hle5,hw5,hsl5,hmk5⟩:=hR4
    have hw5:=hw5.weaken hle5
    cases ex with
    | normal =>
     obtain⟨m1,m2,r5,hrs5,hk5⟩:=qVB hk4
     exact⟨_,_,run_endRound none (hw5.lpAt hrs5),.b true,_,rfl,hw5.put (r:=r5) (j:=.busy) (j':=.ready) hrs5,hk5⟩
    | exit n =>
     obtain⟨m1,m2,r5,hrs5,hk5⟩:=qVB hk4
     exact⟨_,_,run_endRound _ (hw5.lpAt hrs5),.b false,_,rfl,hw5.put (r:=r5) (j:=.busy) (j':=.jump (.exit n)) hrs5,hk5⟩
    | ret =>
     obtain⟨m1,m2,r5,hrs5,hk5⟩:=qVB hk4
     exact⟨_,_,run_endRound _ (hw5.lpAt hrs5),.b false,_,rfl,hw5.put (r:=r5) (j:=.busy) (j':=.jump .ret) hrs5,hk5⟩
    | goto n =>
     obtain⟨m1,m2,r5,hrs5,hk5⟩:=qVB hk4
     exact⟨_,_,run_endRound _ (hw5.lpAt hrs5),.b false,_,rfl,hw5.put (r:=r5) (j:=.busy) (j':=.jump (.goto n)) hrs5,hk5⟩
   | exit n=>exact hk.elim
   | ret=>exact hk.elim
   | goto n=>exact hk.elim
  ·exact h.elim
 ·exact hY fr2 (Fr.trans hle hfr2) id' args hs K h lp r' j w hlp hw
theorem qbQ (hH:∀ fr,SndH P fr H) {g:Operand} {ps:Array Tmp} {asg body:Code} (ha:qgD P H nt asg) (hb:qgD P H nt body):qgD P H nt (.rangeFunc g ps asg body):=by
 intro fr0 r rd Y ds t sc s s' sl hs K a w ht hds hr hY hR h
 simp only [trC] at ht
 split at ht
 ·rename_i a' s1 ha'
  split at ht
  ·rename_i b' s2 hb'
   split at ht
   ·rename_i hps
    simp at ht;obtain⟨rfl,rfl⟩:=ht
    cases rd with
    | true=>exact h.elim
    | false =>
    obtain rfl:=hr rfl
    obtain⟨fr,D,hle,hw,hsl,hmk⟩:=hR
    obtain⟨g',h1,eg⟩:=Opd.k_spec (k:=fun g'=>qIU P H g' ps.toList (S P H a' true Y) (S P H b' true Y) Y sl hs K) h hsl.slots
    unfold qIU at h1
    split at h1
    ·rename_i k first caps
     obtain⟨hok,h1⟩:=h1
     have h1:qsB hs.nx fun i i'=>∀ (l:Nat) (rr:Loop),H (qWT i l rr ps.toList sl (S P H a' true Y) (S P H b' true Y) Y) k (first++[.yl i l]++caps) ⟨hs.g,.lp i l rr .ready :: hs.rs,i',hs.lo⟩ fun _ hs2 =>
       qDR i l hs2.rs fun j rs'=>endE K sl hs2 j rs':=by cases hs;exact h1
     obtain⟨ix,ix',h1⟩:=qyA h1
     refine wpIn_rangeFunc ?_
     intro fn hfn
     obtain⟨rr,hrr⟩:∃ rr:Loop,rr={state:=.ready,pending:=none,fn,tmps:=a.tmps,params:=ps,assign:=asg,body,defers:=w.heap.size}:=⟨_,rfl⟩
     have hrr':qlI rr .ready=rr:=by rw [hrr];rfl
     obtain⟨w1,hw1⟩:∃ w1,w1=w.alloc (.deferred (some [])):=⟨_,rfl⟩
     obtain⟨w2,hw2⟩:∃ w2,w2=w1.alloc (.loop rr):=⟨_,rfl⟩
     have hsz1:w1.heap.size=w.heap.size+1:=by rw [hw1];simp
     have hb1:Below w.heap.size w w1:=hw1▸Below.of_alloc w _
     have hm1:w1.heap[w.heap.size]?=some (.deferred (some [])):=hw1▸World.alloc_heap_new w _
     have hwf0:∀ n,(fr.pr n∨n=w.heap.size)→n<w1.heap.size:=fun n hn=>by
      rcases hn with hn|rfl
      ·have:=fr.wf n hn;have:=hw.frm.size;omega
      ·omega
     obtain⟨fr',hfr'⟩:∃ fr':Fr,fr'=Fr.mk w1 (fun n=>fr.pr n∨n=w.heap.size) (fun n=>fr.g0 n∧n≠w.heap.size) hwf0:=⟨_,rfl⟩
     have hwa:=hw.agree hb1
     have hle1:fr.le fr':=by
      refine⟨fun W hW=>?_,fun n hn=>by rw [hfr'];exact⟨.inl hn,fun h=>h.1⟩⟩
      subst hfr'
      refine⟨hW.os.trans hwa.frm.os,hW.tape.trans hwa.frm.tape,hW.output.trans hwa.frm.output,Nat.le_trans hwa.frm.size hW.size,fun n hn=>?_⟩
      exact(hW.block n (.inl hn)).trans (hwa.frm.block n hn)
     have hwf:HSim fr' hs w1:=by
      refine⟨hwa.good,?_,hwa.res,hwa.nod,fun b hb=>⟨(hwa.fre b hb).1,?_⟩,fun n hp hg=>?_,fun n hl hg=>?_,hwa.low⟩
      ·rw [hfr'];exact⟨rfl,rfl,rfl,Nat.le_refl _,fun _ _=>rfl⟩
      ·rw [hfr']
       rintro(hp|rfl)
       ·exact(hwa.fre b hb).2 hp
       ·exact Nat.lt_irrefl _ (hw.lt hb)
      ·rw [hfr'] at hp ⊢
       rcases hp with hp|rfl
       ·exact⟨hw.fz n hp hg,fun e=>by have:=fr.wf n hp;have:=hw.frm.size;omega⟩
       ·have:=hs.g.wf _ hg;have:=hw.good.1;omega
      ·rw [hfr']
       rintro(hp|rfl)
       ·exact hw.own n hl hg hp
       ·have:=hs.g.wf _ hg;have:=hw.good.1;omega
     have hw2s:HSim fr' ⟨hs.g,.lp ix w1.heap.size rr .ready :: hs.rs,ix',hs.lo⟩ w2:=by
      refine hwf.newRes (hw2▸Below.of_alloc w1 _) (r:=.lp ix w1.heap.size rr .ready) ?_ (fun b hb=>?_) (by simp [Res.bk])
      ·show w2.heap[w1.heap.size]?=some (.loop (qlI rr .ready))
       rw [hrr',hw2];exact World.alloc_heap_new w1 _
      ·simp [Res.bk] at hb;omega
     have hiter:=qdQ (P:=P) (H:=H) (nt:=nt) ha hb (Fr.trans hle hle1) hY ha' hb' (ps:=ps) (fun n hn=>of_decide_eq_true (List.all_eq_true.1 hps n hn)) hsl.size hsl.slots (rr:=rr) (by rw [hrr]) (by rw [hrr]) (by rw [hrr]) (by rw [hrr]) ix w1.heap.size
     have hcall:=hH fr' _ hiter _ _ _ _ (h1 w1.heap.size rr) w2 hw2s
     refine⟨w1.heap.size,[mkD w.heap.size],w2,{target:=.fn (.func k) (qAA caps).toArray,args:=(qAA (first++[.yl ix w1.heap.size])).toArray},w2,k,(qAA (first++[.yl ix w1.heap.size]++caps)).toArray,w2,?_,?_,?_,?_,fun h=>by simp [FW] at h,?_⟩
     ·have:=run_enterLoop_outer (P:=P) (w:=w) fn a.tmps ps asg body
      rw [hw2,hrr,hsz1]
      rw [← hw1] at this
      exact this
     ·simp only [resolve,eg]
      simp [conc,go_sem,qQA,Deferred.ofValue]
     ·intro f' hf';trivial
     ·simp only [invoke]
      have:=qLB hok ((qAA (first++[.yl ix w1.heap.size])).toArray++(qAA caps).toArray) w2
      rw [this]
      simp [qQA]
     ·refine(qNG none _).2 (hcall.mono ?_)
      rintro e w3 ⟨v,hs3,rfl,hw3,hk⟩
      obtain⟨l1,l2,r3,j,hrs,hk⟩:=qMD hk
      have hl3:=hw3.lpAt hrs
      have hR:∀ (o:Loop),R0 fr0 nt ds t sl ⟨hs3.g,l1++l2,hs3.nx,hs3.lo⟩ {a with defers:=[mkD w.heap.size]++a.defers} (w3.putObj w1.heap.size (.loop o)):=fun o=>by
       refine⟨fr',mkD w.heap.size :: D,Fr.trans hle hle1,hw3.drop hrs o,⟨hsl.size,by simp [hsl.defers],hsl.slots,hsl.off⟩,?_⟩
       obtain⟨bs,hD,hnod,hbs⟩:=hmk
       refine⟨w.heap.size :: bs,by rw [hD];rfl,List.nodup_cons.2 ⟨fun hmem=>?_,hnod⟩,fun b hb=>?_⟩
       ·have:=fr.wf _ (hbs _ hmem).2.2.1;have:=hw.frm.size;omega
       ·rw [hfr']
        rcases List.mem_cons.1 hb with rfl|hb
        ·exact⟨fun hp=>by have:=fr.wf _ (hle.2 _ hp).1;have:=hw.frm.size;omega,fun h=>h.2 rfl,.inr rfl,hm1⟩
        ·exact⟨(hbs b hb).1,fun h=>(hbs b hb).2.1 h.1,.inl (hbs b hb).2.2.1,(hwa.frm.block b (hbs b hb).2.2.1).trans (hbs b hb).2.2.2⟩
      cases j with
      | ready=>exact⟨none,_,run_endLoop hl3 (by simp [qlI]),.normal,sl,_,rfl,hk,hR _⟩
      | busy=>exact hk.elim
      | jump ex =>
       refine⟨some ex.code,_,run_endLoop hl3 (by simp [qlI]),?_⟩
       cases ex with
       | normal=>exact hk.elim
       | exit n=>exact wpIn_exit ⟨.exit n,sl,_,rfl,hk,hR _⟩
       | ret=>exact wpIn_ret ⟨.ret,sl,_,rfl,hk,hR _⟩
       | goto n=>exact wpIn_goto ⟨.goto n,sl,_,rfl,hk,hR _⟩
    ·exact h1.elim
   ·cases ht
  ·cases ht
 ·cases ht
end
theorem qgQ {P:Program} {nt:Nat}:∀ {c:Code} {s s':List (List Nat×OI)×List (List Nat)} {b:SCode} {l:Nat},trC P nt c s=some (b,s') →
  (∀ r,qjF b l=some r→∃ rest t,findLabel c l=some rest∧trC P nt rest t=some (r,s'))∧(qjF b l=none→findLabel c l=none):=by
 intro c
 induction c with
 | seq x y hx hy =>
  intro s s' b l ht
  simp only [trC] at ht
  split at ht
  ·rename_i x' s1 hx'
   split at ht
   ·rename_i y' s2 hy'
    simp at ht;obtain⟨rfl,rfl⟩:=ht
    obtain⟨hx1,hx2⟩:=hx (l:=l) hx'
    obtain⟨hy1,hy2⟩:=hy (l:=l) hy'
    constructor
    ·intro r hr
     simp only [qjF] at hr
     split at hr
     ·rename_i r' hr'
      cases hr
      obtain⟨rest,t,h1,h2⟩:=hx1 r' hr'
      exact⟨.seq rest y,t,by simp only [findLabel,h1],by simp only [trC,h2,hy']⟩
     ·rename_i hn
      obtain⟨rest,t,h1,h2⟩:=hy1 r hr
      exact⟨rest,t,by simp only [findLabel,hx2 hn,h1],h2⟩
    ·intro hn
     simp only [qjF] at hn
     split at hn
     ·cases hn
     ·rename_i hn'
      simp only [findLabel,hx2 hn',hy2 hn]
   ·cases ht
  ·cases ht
 | label m =>
  intro s s' b l ht
  simp [trC] at ht;obtain⟨rfl,rfl⟩:=ht
  constructor
  ·intro r hr
   simp only [qjF] at hr
   split at hr
   ·rename_i h;cases hr;exact⟨.skip,s,by simp only [findLabel,h,if_true],by simp [trC]⟩
   ·cases hr
  ·intro hn
   simp only [qjF] at hn
   split at hn
   ·cases hn
   ·rename_i h;simp only [findLabel,h];rfl
 | region id ops d =>
  intro s s' b l ht
  have hb:(∃ o,b=.reg o)∨∃ s o,b=.regD s o:=by
   obtain⟨os,lm⟩:=s
   cases d with
   | false =>
    simp only [trC] at ht
    split at ht
    ·simp at ht;exact .inl ⟨_,ht.1.symm⟩
    ·cases ht
   | true =>
    cases os with
    | nil=>simp [trC] at ht
    | cons τ os =>
     simp only [trC] at ht
     split at ht
     ·split at ht
      ·simp at ht;exact .inr ⟨_,_,ht.1.symm⟩
      ·cases ht
     ·cases ht
  obtain⟨o,rfl⟩|⟨s2,o,rfl⟩:=hb<;>exact⟨fun r hr=>by simp [qjF] at hr,fun _=>by simp [findLabel]⟩
 | _ =>
  intro s s' b l ht
  refine⟨fun r hr=>?_,fun _=>by simp [findLabel]⟩
  exfalso
  obtain⟨os,lm⟩:=s
  cases lm<;>simp only [trC] at ht<;>(repeat' split at ht)<;>simp at ht<;>(try (obtain⟨rfl,_⟩:=ht))<;>simp [qjF] at hr
def KJ (P:Program) (H:qIA) (c0:SCode) (rd:Bool) (Y:qsA):List Nat→Kont→Kont
 | [],K=>K
 | l :: ls,K=>match qjF c0 l with
  | some r=>qiU l (S P H r rd Y) (KJ P H c0 rd Y ls K)
  | none=>KJ P H c0 rd Y ls K
theorem qWP {P:Program} {H:qIA} {c0:SCode} {rd:Bool} {Y:qsA} {sl:Sl} {hs:Hs} {K:Kont}:∀ (ls:List Nat) (b:SCode),S P H (nest c0 b ls) rd Y sl hs K=S P H b rd Y sl hs (KJ P H c0 rd Y ls K)
 | [],b=>rfl
 | l :: ls,b=>by
  cases h:qjF c0 l with
  | some r=>simp only [nest,KJ,h];rw [qWP ls];rfl
  | none=>simp only [nest,KJ,h];exact qWP ls b
theorem q3K {c0:SCode}:∀ (ls:List Nat) (b:SCode),(∀ d∈dsts b,d∈dsts (nest c0 b ls))∧∀ l∈ls,∀ r,qjF c0 l=some r→∀ d∈dsts r,d∈dsts (nest c0 b ls)
 | [],b=>⟨fun d h=>h,fun l hl=>by cases hl⟩
 | l :: ls,b=>by
  simp only [nest]
  split
  ·rename_i r hr
   obtain⟨h1,h2⟩:=q3K (c0:=c0) ls (.jump l b r)
   refine⟨fun d hd=>h1 d (by simp [dsts,hd]),fun m hm r' hr' d hd=>?_⟩
   rcases List.mem_cons.1 hm with rfl|hm
   ·rw [hr] at hr';cases hr';exact h1 d (by simp [dsts,hd])
   ·exact h2 m hm r' hr' d hd
  ·rename_i hn
   obtain⟨h1,h2⟩:=q3K (c0:=c0) ls b
   refine⟨h1,fun m hm r' hr' d hd=>?_⟩
   rcases List.mem_cons.1 hm with rfl|hm
   ·rw [hn] at hr';cases hr'
   ·exact h2 m hm r' hr' d hd
section
variable {F:Fence} {m:Nat} {P:Program}
def ScG (F:Fence) (m:Nat) (P:Program) (c:Code) (Q:Exit→Act→World→Prop):Nat→Nat→Act→World→Prop
 | 0,_,_,_=>False
 | n+1,l,a,w=>∃ rest,findLabel c l=some rest∧rest.wpIn F m P (fun e a w=>match e with
  | .goto l'=>ScG F m P c Q n l' a w
  | e=>Q e a w) a w
def ScQ (F:Fence) (m:Nat) (P:Program) (c:Code) (Q:Exit→Act→World→Prop) (n:Nat):Exit→Act→World→Prop:=fun e a w=>match e with
 | .goto l=>ScG F m P c Q n l a w
 | e=>Q e a w
theorem qsS {c:Code} {Q:Exit→Act→World→Prop}:∀ {n l:Nat} {a:Act} {w:World},ScG F m P c Q n l a w→ScG F m P c Q (n+1) l a w
 | 0,_,_,_,h=>h.elim
 | n+1,l,a,w,⟨rest,h1,h2⟩=>⟨rest,h1,Code.wpIn_mono (fun e a w h=>by
  cases e with
  | goto l'=>exact qsS h
  | _=>exact h) h2⟩
theorem q6O {b:Frame} {a:Act} {k:List Item} {cs:List Frame} {w:World} {c:Code}:step P (lone (b.atR a (.code (.scope c) :: k)) cs w)=.next (lone (b.atR a (.code c :: .inScope c :: k)) cs w) :=
 step_lone_go (by simp [stepG,stepG.exec,Frame.atR])
theorem qVI {b:Frame} {a:Act} {k:List Item} {cs:List Frame} {w:World} {c:Code}:step P (lone (b.atR a (.inScope c :: k)) cs w)=.next (lone (b.atR a k) cs w) :=
 step_lone_go (by simp [stepG,stepG.exec,Frame.atR])
theorem qZN {c:Code} {Q:Exit→Act→World→Prop}:∀ (n:Nat) {x:Code} {a:Act} {w:World},x.wpIn F m P (ScQ F m P c Q n) a w→∀ (b:Frame) (k:List Item) (cs:List Frame),b.roundOf=F.round→F.fn b.fn→F.room (cs.length+1+m) →
  ∃ e a' w',Q e a' w'∧ArrivesIn (Machine.fenced P F) P (lone (b.atR a (.code x :: .inScope c :: k)) cs w) b k cs e a' w':=by
 intro n
 induction n with
 | zero =>
  intro x a w h b k cs hro hb hr
  obtain⟨e,a₁,w₁,hq,harr⟩:=h b (.inScope c :: k) cs hro hb hr
  cases e with
  | normal=>exact⟨.normal,a₁,w₁,hq,StepsIn.trans harr (.one (fenced_calm hb hr rfl) qVI)⟩
  | exit id =>
   have hx:exitTo id (.inScope c :: k)=exitTo id k:=by simp [exitTo]
   exact⟨.exit id,a₁,w₁,hq,fun k' hk=>harr.1 k' (by rw [hx];exact hk),fun hr' hk=>harr.2 hr' (by rw [hx];exact hk)⟩
  | goto l=>exact hq.elim
  | ret=>exact⟨_,a₁,w₁,hq,harr⟩
  | panic ch=>exact⟨_,a₁,w₁,hq,harr⟩
  | outgrown=>exact⟨_,a₁,w₁,hq,harr⟩
 | succ n ih =>
  intro x a w h b k cs hro hb hr
  obtain⟨e,a₁,w₁,hq,harr⟩:=h b (.inScope c :: k) cs hro hb hr
  cases e with
  | normal=>exact⟨.normal,a₁,w₁,hq,StepsIn.trans harr (.one (fenced_calm hb hr rfl) qVI)⟩
  | exit id =>
   have hx:exitTo id (.inScope c :: k)=exitTo id k:=by simp [exitTo]
   exact⟨.exit id,a₁,w₁,hq,fun k' hk=>harr.1 k' (by rw [hx];exact hk),fun hr' hk=>harr.2 hr' (by rw [hx];exact hk)⟩
  | goto l =>
   obtain⟨rest,hf,hw⟩:=hq
   have hg:gotoIn l (.inScope c :: k)=some (.code rest :: .inScope c :: k):=by simp [gotoIn,hf]
   obtain⟨e2,a2,w2,hq2,harr2⟩:=ih hw b k cs hro hb hr
   exact⟨e2,a2,w2,hq2,.of_steps (harr.1 _ hg) harr2⟩
  | ret=>exact⟨_,a₁,w₁,hq,harr⟩
  | panic ch=>exact⟨_,a₁,w₁,hq,harr⟩
  | outgrown=>exact⟨_,a₁,w₁,hq,harr⟩
theorem qQQ {c:Code} {Q:Exit→Act→World→Prop} (n:Nat) {a:Act} {w:World} (h:c.wpIn F m P (ScQ F m P c Q n) a w):(Code.scope c).wpIn F m P Q a w:=by
 intro b k cs hro hb hr
 obtain⟨e,a',w',hq,harr⟩:=qZN n h b k cs hro hb hr
 exact⟨e,a',w',hq,.of_steps (.one (fenced_calm hb hr rfl) q6O) harr⟩
end
def q2T (P:Program) (H:qIA) (nt:Nat) (c:Code):Prop:=qgD P H nt c∧∀ l rest,findLabel c l=some rest→qgD P H nt rest
theorem qXL {P:Program} {H:qIA} {c0:SCode} {rd:Bool} {Y:qsA} {K:Kont} {e:Ex} {sl:Sl} {hs:Hs} (he:∀ n,e≠.goto n):∀ {ls:List Nat},KJ P H c0 rd Y ls (q2P K) e sl hs→K e sl hs
 | [],h=>by cases e<;>first|exact h|exact absurd rfl (he _)
 | l :: ls,h=>by
  cases hf:qjF c0 l with
  | some r =>
   simp only [KJ,hf] at h
   refine qXL (P:=P) (H:=H) (c0:=c0) (rd:=rd) (Y:=Y) (ls:=ls) he ?_
   cases e<;>first|exact h|exact absurd rfl (he _)
  | none =>
   simp only [KJ,hf] at h
   exact qXL he h
theorem q7O {P:Program} {H:qIA} {nt:Nat} {c:Code} (hc:q2T P H nt c):qgD P H nt (.scope c):=by
 intro fr0 r rd Y ds t sc s s' sl hs K a w ht hds hr hY hR h
 simp only [trC] at ht
 split at ht
 ·rename_i b s1 hb
  simp only [Option.some.injEq,Prod.mk.injEq] at ht;obtain⟨rfl,rfl⟩:=ht
  have hds:∀ d∈dsts (nest b b ((qJJ b).filter fun l=>(q9G b).contains l)),d∈ds:=hds
  have key:∀ (ls:List Nat),(∀ l∈ls,∀ r,qjF b l=some r→∀ d∈dsts r,d∈ds)→∀ e a w,Post fr0 nt ds t (KJ P H b rd Y ls (q2P K)) e a w→ScQ (FW r) 0 P c (Post fr0 nt ds t K) ls.length e a w:=by
   intro ls
   induction ls with
   | nil =>
    rintro _ e a w ⟨ex,sl1,hs1,rfl,hk,hR1⟩
    cases ex with
    | goto n=>exact hk.elim
    | normal=>exact⟨.normal,sl1,hs1,rfl,hk,hR1⟩
    | exit n=>exact⟨.exit n,sl1,hs1,rfl,hk,hR1⟩
    | ret=>exact⟨.ret,sl1,hs1,rfl,hk,hR1⟩
   | cons l ls ih =>
    rintro hd e a w ⟨ex,sl1,hs1,rfl,hk,hR1⟩
    have ih':=ih fun m hm=>hd m (by simp [hm])
    cases ex with
    | normal=>exact⟨.normal,sl1,hs1,rfl,qXL (fun n h=>by cases h) hk,hR1⟩
    | exit n=>exact⟨.exit n,sl1,hs1,rfl,qXL (fun n h=>by cases h) hk,hR1⟩
    | ret=>exact⟨.ret,sl1,hs1,rfl,qXL (fun n h=>by cases h) hk,hR1⟩
    | goto n =>
     cases hrr:qjF b l with
     | some rr =>
      simp only [KJ,hrr,qiU] at hk
      cases hb':Nat.beq n l with
      | true =>
       rw [hb'] at hk
       obtain rfl:=Nat.eq_of_beq_eq_true hb'
       obtain⟨rest,t1,h1,h2⟩:=(qgQ (l:=n) hb).1 rr hrr
       refine⟨rest,h1,wpIn_mono (hc.2 n rest h1 fr0 r rd Y ds t rr t1 _ sl1 hs1 _ a w h2 (fun d hd'=>hd n (by simp) rr hrr d hd') hr hY hR1 hk) fun e a w hp=>?_⟩
       exact ih' e a w hp
      | false =>
       rw [hb'] at hk
       exact qsS (ih' (.goto n) a w ⟨.goto n,sl1,hs1,rfl,hk,hR1⟩)
     | none =>
      simp only [KJ,hrr] at hk
      exact qsS (ih' (.goto n) a w ⟨.goto n,sl1,hs1,rfl,hk,hR1⟩)
  have hd:=q3K (c0:=b) ((qJJ b).filter fun l=>(q9G b).contains l) b
  refine qQQ _ (wpIn_mono (hc.1 fr0 r rd Y ds t b _ _ sl hs _ a w hb (fun d hd'=>hds d (hd.1 d hd')) hr hY hR (by
   have h':S P H (nest b b ((qJJ b).filter fun l=>(q9G b).contains l)) rd Y sl hs (q2P K):=h
   rwa [qWP] at h')) (key _ fun l hl rr hrr d hd'=>hds d (hd.2 l hl rr hrr d hd')))
 ·cases ht
section
variable {P:Program} {H:qIA} {nt:Nat}
theorem qkT (hm:P.follows .mixedOrders=true) (hH:∀ fr,SndH P fr H):∀ c,q2T P H nt c:=by
 intro c
 have no:∀ {c:Code},(∀ l,findLabel c l=none)→∀ l rest,findLabel c l=some rest→qgD P H nt rest:=fun h l rest he=>by rw [h l] at he;cases he
 have skipS:qgD P H nt .skip:=by
  intro fr0 r rd Y ds t sc s s' sl hs K a w ht hds hr hY hR h
  simp [trC] at ht;obtain⟨rfl,rfl⟩:=ht
  exact wpIn_skip ⟨.normal,sl,hs,rfl,h,hR⟩
 induction c with
 | skip=>exact⟨skipS,no fun l=>by simp [findLabel]⟩
 | region id ops d=>exact⟨qnN hm hH id ops d,no fun l=>by simp [findLabel]⟩
 | seq x y hx hy =>
  refine⟨qmN hx.1 hy.1,fun l rest he=>?_⟩
  simp only [findLabel] at he
  split at he
  ·rename_i r' hr'
   cases he
   exact qmN (hx.2 l r' hr') hy.1
  ·exact hy.2 l rest he
 | cond c x y hx hy=>exact⟨qeQ hx.1 hy.1,no fun l=>by simp [findLabel]⟩
 | block id x hx=>exact⟨q8O hx.1,no fun l=>by simp [findLabel]⟩
 | loop x hx=>exact⟨qcQ hx.1,no fun l=>by simp [findLabel]⟩
 | rangeFunc g ps asg body ha hb=>exact⟨qbQ hH ha.1 hb.1,no fun l=>by simp [findLabel]⟩
 | exit n =>
  refine⟨?_,no fun l=>by simp [findLabel]⟩
  intro fr0 r rd Y ds t sc s s' sl hs K a w ht hds hr hY hR h
  simp [trC] at ht;obtain⟨rfl,rfl⟩:=ht
  exact wpIn_exit ⟨.exit n,sl,hs,rfl,h,hR⟩
 | ret =>
  refine⟨?_,no fun l=>by simp [findLabel]⟩
  intro fr0 r rd Y ds t sc s s' sl hs K a w ht hds hr hY hR h
  simp [trC] at ht;obtain⟨rfl,rfl⟩:=ht
  exact wpIn_ret ⟨.ret,sl,hs,rfl,h,hR⟩
 | label m =>
  refine⟨?_,fun l rest he=>?_⟩
  ·intro fr0 r rd Y ds t sc s s' sl hs K a w ht hds hr hY hR h
   simp [trC] at ht;obtain⟨rfl,rfl⟩:=ht
   exact wpIn_label ⟨.normal,sl,hs,rfl,h,hR⟩
  ·simp only [findLabel] at he
   split at he
   ·cases he;exact skipS
   ·cases he
 | goto l0 =>
  refine⟨?_,no fun l=>by simp [findLabel]⟩
  intro fr0 r rd Y ds t sc s s' sl hs K a w ht hds hr hY hR h
  simp [trC] at ht;obtain⟨rfl,rfl⟩:=ht
  exact wpIn_goto ⟨.goto l0,sl,hs,rfl,h,hR⟩
 | scope c hc=>exact⟨q7O hc,no fun l=>by simp [findLabel]⟩
 | refuse why =>
  refine⟨?_,no fun l=>by simp [findLabel]⟩
  intro fr0 r rd Y ds t sc s s' sl hs K a w ht;simp [trC] at ht
theorem q0U (hm:P.follows .mixedOrders=true) (hH:∀ fr,SndH P fr H):∀ c,qgD P H nt c:=fun c=>(qkT hm hH c).1
end
/- A symbolic evaluator over the model's code,part 13: functions;inlined calls;contracts. -/
open Go.RowKit
inductive SRes where
 | tmp (n:Nat)
 | cell (n size:Nat) (agg:Bool)
 deriving Inhabited
structure FnI where
 nt:Nat
 res:List SRes
 code:SCode
 deriving Inhabited
def qjQ:List SRes→Sl→Hs→(List SV→Prop)→Prop
 | [],_,_,k=>k []
 | .tmp n :: r,sl,hs,k=>match getS sl n with
  | some x=>qaT (norm hs.rs x) fun x=>qjQ r sl hs fun l=>k (x :: l)
  | none=>False
 | .cell n size agg :: r,sl,hs,k=>match getS sl n with
  | some x=>qUT agg size hs x fun y=>qjQ r sl hs fun l=>k (y :: l)
  | none=>False
def retS (rs:List SRes) (sl:Sl) (hs:Hs) (K:SV→Prop):Prop:=qjQ rs sl hs fun l=>match l with
 | [x]=>K x
 | l=>K (.tup l)
def qNK:List SV→Nat→Sl
 | [],_=>[]
 | x :: r,n=>(n,x) :: qNK r (n+1)
def fnE (res:List SRes) (K:SV→Hs→Prop):Kont:=fun e sl hs=>match e with
 | .normal=>retS res sl hs fun v=>K v hs
 | .ret=>retS res sl hs fun v=>K v hs
 | _=>False
def fnS (P:Program) (H:qIA) (fi:FnI) (Y:qsA) (args:List SV) (hs:Hs) (K:SV→Hs→Prop):Prop:=match Nat.ble args.length fi.nt with
 | true=>S P H fi.code false Y (qNK args 0) hs (fnE fi.res K)
 | false=>False
def qRM (P:Program):List ResultVar→Option (List SRes)
 | []=>some []
 | .tmp n :: r=>match qRM P r with
  | some l=>some (.tmp n :: l)
  | none=>none
 | .cell n t :: r=>match qPC P t,aggT P t,qRM P r with
  | some size,some agg,some l=>if 0<size then some (.cell n size agg :: l) else none
  | _,_,_=>none
def trFn (P:Program) (f:FuncId) (ords:List (List Nat×OI)) (lms:List (List Nat)):Option FnI:=match P.funcs[f]? with
 | some fn=>match fn.body with
  | some c=>match trC P fn.ntmps c (ords,lms),qRM P fn.results.toList with
   | some (sc,_),some rs=>some ⟨fn.ntmps,rs,sc⟩
   | _,_=>none
  | none=>none
 | none=>none
def qNU:List Value→Value
 | [x]=>x
 | l=>.tuple l.toArray
def qkR (tmps:Array Value):ResultVar→Sem Value
 | .tmp t=>pure (tmps.getD t undef)
 | .cell a t=>do loadVar t (← asAddr (tmps.getD a undef))
theorem qoK {fn:Func} {tmps:Array Value} {P:Program} {w:World} {vs:List Value} (h:(fn.results.toList.mapM (qkR tmps)).run P w=.ok vs w):(results fn tmps).run P w=.ok (qNU vs) w:=by
 have e:results fn tmps=(fn.results.mapM (qkR tmps) >>= fun vs=>pure (if h:vs.size=1 then vs[0] else .tuple vs)):=rfl
 rw [e,Array.mapM_eq_mapM_toList]
 rw [map_eq_pure_bind,Sem.run_bind,Sem.run_bind]
 rw [h]
 simp only [Result.andThen,Sem.run_pure]
 match vs with
 | []=>rfl
 | [x]=>rfl
 | x :: y :: r=>simp [qNU]
theorem qGG {P:Program} {hs:Hs} {sl:Sl}:∀ {rvs:List ResultVar} {rs:List SRes} {k:List SV→Prop},qRM P rvs=some rs→qjQ rs sl hs k→∃ l,k l∧∀ (tmps:Array Value),(∀ n x,getS sl n=some x→tmps[n]?=some (conc x))→∀ fr w,HSim fr hs w →
  (rvs.mapM (qkR tmps)).run P w=.ok (qAA l) w
 | [],rs,k,ht,h=>by
  simp [qRM] at ht;subst ht
  exact⟨[],h,fun tmps hs' fr w hw=>by simp [Sem.run_pure,qAA]⟩
 | .tmp n :: r,rs,k,ht,h=>by
  simp only [qRM] at ht
  split at ht
  ·rename_i l hl
   simp at ht;subst ht
   simp only [qjQ,qLN] at h
   split at h
   ·rename_i x hx
    obtain⟨l',hk,hrun⟩:=qGG hl h
    refine⟨_,hk,fun tmps hsl fr w hw=>?_⟩
    have:=hsl n x hx
    rw [List.mapM_cons]
    simp only [qkR,Sem.run_bind,Sem.run_pure,Result.andThen,hrun tmps hsl fr w hw,qAA,qdC]
    simp [Array.getD_eq_getD_getElem?,this]
   ·exact h.elim
  ·cases ht
 | .cell n t :: r,rs,k,ht,h=>by
  simp only [qRM] at ht
  split at ht
  ·rename_i size agg l hsz hag hl
   split at ht
   ·rename_i hpos
    simp at ht;subst ht
    simp only [qjQ] at h
    split at h
    ·rename_i x hx
     obtain⟨y,h1,hld⟩:=qDM h hsz hag (.inl hpos)
     obtain⟨l',hk,hrun⟩:=qGG hl h1
     refine⟨_,hk,fun tmps hsl fr w hw=>?_⟩
     have hv:=hsl n x hx
     have h2:=hld fr w hw
     have hget:tmps.getD n undef=conc x:=by simp [Array.getD_eq_getD_getElem?,hv]
     have h3:((asAddr (tmps.getD n undef)).bind fun a=>loadVar t a).run P w=.ok (conc y) w:=by
      rw [hget]
      generalize conc x=v at h2
      unfold Instr.loadAt Instr.sureAddr at h2
      unfold asAddr
      split at h2
      ·exact h2
      ·simp [Sem.run_bind,Result.andThen] at h2
     rw [List.mapM_cons]
     have h4:(asAddr (tmps.getD n undef) >>= fun a=>loadVar t a).run P w=.ok (conc y) w:=h3
     rw [show qkR tmps (.cell n t)=(asAddr (tmps.getD n undef) >>= fun a=>loadVar t a) from rfl,Sem.run_bind,h4]
     simp only [Sem.run_bind,Sem.run_pure,Result.andThen,hrun tmps hsl fr w hw,qAA]
    ·exact h.elim
   ·cases ht
  ·cases ht
theorem HSim.shut {fr:Fr} {hs:Hs} {w:World} (h:HSim fr hs w) {b:Nat} (hp:¬ fr.pr b) (hg:¬ hs.g.g b) (hb:b ∉ hs.bks) (o:Obj):HSim fr hs (w.putObj b o):=by
 refine⟨⟨Nat.le_trans h.good.1 (by simp),fun n hn=>?_⟩,⟨h.frm.os,h.frm.tape,h.frm.output,Nat.le_trans h.frm.size (by simp),fun n hn=>?_⟩,fun x hx=>?_,h.nod,h.fre,h.fz,h.own,Nat.le_trans h.low.1 (by simp),h.low.2⟩
 ·exact(World.putObj_heap_other (k:=n) (r:=b) fun e=>hg (e▸hn)).trans (h.good.2 n hn)
 ·exact(World.putObj_heap_other (k:=n) (r:=b) fun e=>hp (e▸hn)).trans (h.frm.block n hn)
 ·exact Res.holds_of (fun c hc=>World.putObj_heap_other (k:=c) (r:=b) fun e=>hb (e▸List.mem_flatMap.2 ⟨x,hx,hc⟩)) (h.res x hx)
theorem q6J {P:Program} {fn:Func} {tmps:Array Value} {R:Ending→World→Prop} {fr:Fr} {hs:Hs} {v:Value} (hv:∀ w,HSim fr hs w→(results fn tmps).run P w=.ok v w∧R (.returned v) w) :
  ∀ (bs:List Nat) (w:World),HSim fr hs w→bs.Nodup→(∀ b∈bs,¬ fr.pr b∧¬ hs.g.g b∧b ∉ hs.bks∧w.heap[b]?=some (.deferred (some [])))→LeavesInM (FW none) 0 P fn tmps R (bs.map mkD) .returning w
 | [],w,hw,_,_=>⟨v,hv w hw⟩
 | b :: bs,w,hw,hnod,hbs=>by
  obtain⟨h1,h2,h3,h4⟩:=hbs b (by simp)
  refine⟨by simp,.inl ⟨b,_,rfl,run_takeDeferred h4,q6J hv bs _ (hw.shut h1 h2 h3 _) (List.nodup_cons.1 hnod).2 fun c hc=>?_⟩⟩
  obtain⟨k1,k2,k3,k4⟩:=hbs c (by simp [hc])
  exact⟨k1,k2,k3,(World.putObj_heap_other (k:=c) (r:=b) fun e=>(List.nodup_cons.1 hnod).1 (e▸hc)).trans k4⟩
theorem qfJ:∀ (args:List SV) (m n:Nat) (x:SV),getS (qNK args m) n=some x→∃ i:Nat,n=m+i∧args[i]?=some x
 | [],m,n,x,h=>by simp [qNK,getS] at h
 | y :: r,m,n,x,h=>by
  simp only [qNK,getS] at h
  cases hb:Nat.beq m n with
  | true=>rw [hb] at h;obtain rfl:=Nat.eq_of_beq_eq_true hb;simp at h;subst h;exact⟨0,rfl,rfl⟩
  | false =>
   rw [hb] at h
   obtain⟨i,hi,hx⟩:=qfJ r (m+1) n x h
   exact⟨i+1,by omega,hx⟩
theorem qMN {P:Program} {H:qIA} (hm:P.follows .mixedOrders=true) (hH:∀ fr,SndH P fr H) {f:FuncId} {ords:List (List Nat×OI)} {lms:List (List Nat)} {fi:FnI} (ht:trFn P f ords lms=some fi) {fr:Fr} {Y:qsA} (hY:SndY P fr Y) {args:List SV} {hs:Hs} {K:SV→Hs→Prop}
  (h:fnS P H fi Y args hs K) {w:World} (hw:HSim fr hs w):Calls P f (qAA args).toArray w fun e w'=>∃ v hs',e=.returned (conc v)∧HSim fr hs' w'∧K v hs':=by
 unfold trFn at ht
 split at ht
 ·rename_i fn hf
  split at ht
  ·rename_i c hc
   split at ht
   ·rename_i sc s' rs htc htr
    simp at ht;subst ht
    unfold fnS at h
    split at h
    ·rename_i hlen
     have hlen':args.length≤fn.ntmps:=Nat.le_of_ble_eq_true hlen
     refine(qNG none 0).1 (callsIn_of_wp_marks hf hc trivial ?_)
     have hsz:((qAA args).toArray++Array.replicate (fn.ntmps-(qAA args).toArray.size) undef).size=fn.ntmps:=by
      simp [qWA];omega
     have hsl:Sim fn.ntmps ⟨[],dsts sc,(qAA args).toArray++Array.replicate (fn.ntmps-(qAA args).toArray.size) undef⟩ (qNK args 0) {tmps:=(qAA args).toArray++Array.replicate (fn.ntmps-(qAA args).toArray.size) undef,defers:=[]}:=by
      refine⟨hsz,rfl,fun n x hx=>?_,fun _ _=>rfl⟩
      obtain⟨i,rfl,hi⟩:=qfJ args 0 n x hx
      have hlt:i<args.length:=(List.getElem?_eq_some_iff.1 hi).1
      show((qAA args).toArray++_)[0+i]?=_
      rw [Array.getElem?_append_left (by simp [qWA];omega)]
      simp [qQA,hi]
     refine wpIn_mono (q0U hm hH c fr none false Y (dsts sc) _ sc _ s' (qNK args 0) hs _ _ w htc (fun d hd=>hd) (fun _=>rfl) hY ⟨fr,[],Fr.refl _,hw,hsl,[],rfl,.nil,fun b hb=>by cases hb⟩ h) ?_
     rintro e a w' ⟨ex,sl',hs',rfl,hk,fr',D,hle,hw',hsl',bs,hD,hnod,hbs⟩
     have fin:(retS rs sl' hs' fun v=>K v hs')→LeavesInM (FW none) 0 P fn a.tmps (fun e w'=>∃ v hs',e=.returned (conc v)∧HSim fr hs' w'∧K v hs') a.defers .returning w':=fun hk=>by
      rw [hsl'.defers]
      simp only [hD]
      obtain⟨l,hk,hrun⟩:=qGG (k:=fun l=>match l with
       | [x]=>K x hs'
       | l=>K (.tup l) hs') htr hk
      refine q6J (fr:=fr) (hs:=hs') (v:=qNU (qAA l)) (fun w2 hw2=>⟨qoK (hrun a.tmps hsl'.slots fr w2 hw2),?_⟩) bs w' (hw'.weaken hle) hnod fun b hb=>?_
      ·match l,hk with
       | [],hk=>exact⟨.tup [],hs',rfl,hw2,hk⟩
       | [x],hk=>exact⟨x,hs',rfl,hw2,hk⟩
       | x :: y :: r,hk=>exact⟨.tup (x :: y :: r),hs',rfl,hw2,hk⟩
      ·obtain⟨h1,h2,h3,h4⟩:=hbs b hb
       exact⟨h1,fun hg=>h2 (hw'.fz b h3 hg),fun hmem=>(hw'.fre b hmem).2 h3,(hw'.frm.block b h3).trans h4⟩
     cases ex with
     | normal=>exact fin hk
     | ret=>exact fin hk
     | exit n=>exact hk.elim
     | goto n=>exact hk.elim
    ·exact h.elim
   ·cases ht
  ·cases ht
 ·cases ht
def qXO (f:Nat):List (Nat×FnI)→Option FnI
 | []=>none
 | (g,fi) :: r=>match Nat.beq g f with
  | true=>some fi
  | false=>qXO f r
def inlH (P:Program) (tbl:List (Nat×FnI)):Nat→qIA
 | 0=>okH P
 | d+1=>fun Y f args hs K=>match qXO f tbl with
  | some fi=>fnS P (inlH P tbl d) fi Y args hs K
  | none=>okH P Y f args hs K
def qDG (P:Program) (tbl:List (Nat×FnI)):Prop:=∀ x∈tbl,∃ o l,trFn P x.1 o l=some x.2
theorem qKM {f:Nat} {fi:FnI}:∀ {tbl:List (Nat×FnI)},qXO f tbl=some fi→(f,fi)∈tbl
 | [],h=>by simp [qXO] at h
 | (g,fi') :: r,h=>by
  simp only [qXO] at h
  cases hb:Nat.beq g f with
  | true=>rw [hb] at h;obtain rfl:=Nat.eq_of_beq_eq_true hb;simp at h;subst h;simp
  | false=>rw [hb] at h;exact List.mem_cons_of_mem _ (qKM h)
theorem qFN {P:Program} (hm:P.follows .mixedOrders=true) {tbl:List (Nat×FnI)} (ht:qDG P tbl):∀ (d:Nat) (fr:Fr),SndH P fr (inlH P tbl d)
 | 0,fr=>(qwM P).snd fr
 | d+1,fr=>fun Y hY f args hs K h w hw=>by
  simp only [inlH] at h
  split at h
  ·rename_i fi hfi
   obtain⟨o,l,htr⟩:=ht _ (qKM hfi)
   exact qMN hm (fun fr=>qFN hm ht d fr) htr hY h hw
  ·exact(qwM P).snd fr Y hY f args hs K h w hw
def qlV (P:Program) (f:FuncId):Bool:=match P.funcs[f]? with
 | some fn => fn.body.isSome && !(fn.name == "runtime.NumGoroutine")
 | none=>false
theorem FnOk.of {P:Program} {f:FuncId} (h:qlV P f=true):FnOk P f:=by
 unfold qlV at h
 split at h
 ·rename_i fn hf
  simp only [Bool.and_eq_true,Bool.not_eq_true'] at h
  exact⟨fn,hf,h.1,h.2⟩
 ·cases h
theorem Ok.of_fn {P:Program} (hm:P.follows .mixedOrders=true) {tbl:List (Nat×FnI)} (hT:qDG P tbl) (d:Nat) {f:FuncId} {ords:List (List Nat×OI)} {lms:List (List Nat)} {fi:FnI} (ht:trFn P f ords lms=some fi) {args:List SV} {g:GW} {Q:Value→GW→Prop}
  (h:fnS P (inlH P tbl d) fi noY args ⟨g,[],0,g.w.heap.size⟩ fun v hs'=>pubK v hs' fun v' hs''=>qcS v' fun x=>∀ g2,hs''.g≤g2→Q x g2):Ok P f (qAA args) g Q:=by
 intro w hw
 have hsim:HSim ⟨w,(·<w.heap.size),g.g,fun _ h=>h⟩ ⟨g,[],0,g.w.heap.size⟩ w:=⟨hw,⟨rfl,rfl,rfl,Nat.le_refl _,fun _ _=>rfl⟩,(fun r hr=>by cases hr),List.nodup_nil,(fun b hb=>by cases hb),(fun n _ h=>h),(fun n hl hg _=>by have:=g.wf n hg;exact absurd hl (Nat.not_le.2 this)),hw.1,fun b hb=>by cases hb⟩
 refine(qMN hm (fun fr=>qFN hm hT d fr) ht (qxM P _) h hsim).mono ?_
 rintro e w' ⟨v,hs',rfl,hw',hk⟩
 obtain⟨v',hs'',hk,hc,hw''⟩:=qvN v hk hw'
 have hq:=qrJ v' hk
 rw [hc] at hq
 refine⟨_,rfl,⟨hw''.frm.os,hw''.frm.tape,hw''.frm.output,hw''.frm.size,fun n hn=>hw''.frm.block n hn⟩,hq _ ⟨hw''.good.1,fun n hn=>⟨⟨Nat.lt_of_lt_of_le (hs''.g.wf n hn) hw''.good.1,?_⟩,hw''.good.2 n hn⟩⟩⟩
 rcases Nat.lt_or_ge n w.heap.size with hlt|hge
 ·exact .inl (hw''.fz n hlt hn)
 ·exact .inr hge
/- A symbolic evaluator over the model's code,part 14: what a loop's invariant needs: resources told otherwise. -/
open Go.RowKit
def Res.eqv:Res→Res→Prop
 | .blk _ b ty cells,.blk _ b' ty' cells'=>b=b'∧ty=ty'∧qAA cells=qAA cells'
 | .row _ oa n cap ety size cs,.row _ oa' n' cap' ety' size' cs'=>oa=oa'∧n=n'∧cap=cap'∧ety=ety'∧size=size'∧cs=cs'
 | .lp _ l r j,.lp _ l' r' j'=>l=l'∧r=r'∧j=j'
 | .mk b,.mk b'=>b=b'
 | .mp _ r ik es,.mp _ r' ik' es'=>r=r'∧ik=ik'∧es=es'
 | _,_=>False
def eqvL:List Res→List Res→Prop
 | [],[]=>True
 | r :: rs,r' :: rs'=>r.eqv r'∧eqvL rs rs'
 | _,_=>False
theorem Res.eqv_spec {r r':Res} (h:r.eqv r'):r'.bk=r.bk∧∀ w,r.holds w→r'.holds w:=by
 unfold Res.eqv at h
 split at h
 ·rename_i cells _ _ _ cells'
  obtain⟨rfl,rfl,h⟩:=h
  refine⟨rfl,fun w ⟨h1,h2⟩=>⟨h▸h1,fun c hc=>?_⟩⟩
  have:conc c∈qAA cells':=by rw [qQA];exact List.mem_map.2 ⟨c,hc,rfl⟩
  rw [← h,qQA] at this
  obtain⟨c',hc',he⟩:=List.mem_map.1 this
  rw [← he];exact h2 c' hc'
 ·obtain⟨rfl,rfl,rfl,rfl,rfl,rfl⟩:=h;exact⟨rfl,fun _ h=>h⟩
 ·obtain⟨rfl,rfl,rfl⟩:=h;exact⟨rfl,fun _ h=>h⟩
 ·subst h;exact⟨rfl,fun _ h=>h⟩
 ·obtain⟨rfl,rfl,rfl⟩:=h;exact⟨rfl,fun _ h=>h⟩
 ·exact h.elim
theorem qeO:∀ {rs rs':List Res},eqvL rs rs'→rs'.flatMap Res.bk=rs.flatMap Res.bk∧∀ w,(∀ r∈rs,r.holds w)→∀ r∈rs',r.holds w
 | [],[],_=>⟨rfl,fun _ h=>h⟩
 | r :: rs,r' :: rs',h=>by
  obtain⟨h1,h2⟩:=Res.eqv_spec h.1
  obtain⟨k1,k2⟩:=qeO h.2
  refine⟨by rw [List.flatMap_cons,List.flatMap_cons,h1,k1],fun w hw x hx=>?_⟩
  rcases List.mem_cons.1 hx with rfl|hx
  ·exact h2 w (hw r (by simp))
  ·exact k2 w (fun y hy=>hw y (by simp [hy])) x hx
 | [],_ :: _,h=>h.elim
 | _ :: _,[],h=>h.elim
theorem HSim.ren {fr:Fr} {g:GW} {rs rs':List Res} {nx nx' lo:Nat} {w:World} (h:HSim fr ⟨g,rs,nx,lo⟩ w) (k:eqvL rs rs'):HSim fr ⟨g,rs',nx',lo⟩ w:=by
 obtain⟨k1,k2⟩:=qeO k
 have hb:Hs.bks ⟨g,rs',nx',lo⟩=Hs.bks ⟨g,rs,nx,lo⟩:=k1
 exact⟨h.good,h.frm,k2 w h.res,hb▸h.nod,fun b hm=>h.fre b (hb▸hm),h.fz,h.own,h.low.1,fun b hm=>h.low.2 b (hb▸hm)⟩
def fitL:List Res→List Res→Prop
 | _,[]=>True
 | [],_ :: _=>False
 | r :: rs,r' :: rs'=>(r.eqv r'∧fitL rs rs')∨fitL rs (r' :: rs')
theorem qJL:∀ {rs rs':List Res},fitL rs rs'→∃ l,l.Sublist rs∧eqvL l rs'
 | _,[],_=>⟨[],List.nil_sublist _,trivial⟩
 | [],_ :: _,h=>by simp [fitL] at h
 | r :: rs,r' :: rs',h=>by
  unfold fitL at h
  rcases h with ⟨h1,h2⟩|h
  ·obtain⟨l,hl,hk⟩:=qJL h2
   exact⟨r :: l,hl.cons_cons r,h1,hk⟩
  ·obtain⟨l,hl,hk⟩:=qJL h
   exact⟨l,hl.cons r,hk⟩
theorem HSim.fit {fr:Fr} {g:GW} {rs rs':List Res} {nx nx' lo:Nat} {w:World} (h:HSim fr ⟨g,rs,nx,lo⟩ w) (k:fitL rs rs'):HSim fr ⟨g,rs',nx',lo⟩ w:=by
 obtain⟨l,hl,hk⟩:=qJL k
 exact(h.sub (nx:=nx) hl).ren hk
theorem HSim.blk_row {fr:Fr} {g:GW} {id id' b:Nat} {ety:TypeId} {cells:List SV} {rs:List Res} {nx nx' lo:Nat} {w:World} (h:HSim fr ⟨g,.blk id b ety cells :: rs,nx,lo⟩ w) (n size:Nat) (hl:cells.length=n*size) (hc:n≤maxLen) :
  HSim fr ⟨g,.row id' (some ⟨b,0,none⟩) n n ety size (qAA cells) :: rs,nx',lo⟩ w:=by
 have hl':(qAA cells).length=n*size:=by rw [qWA];exact hl
 obtain⟨hb,hone⟩:=h.res _ (List.mem_cons_self ..)
 refine h.upd (l1:=[]) (r1:=.row id' (some ⟨b,0,none⟩) n n ety size (qAA cells)) (nx:=nx') rfl rfl rfl rfl (Nat.le_refl _) (fun _ _ _=>rfl) ⟨⟨hl',.inr ⟨b,n,_,rfl,Nat.zero_le _,hb,Nat.le_refl _,hc,by simpa using hl',?_⟩⟩,fun u hu=>?_⟩ (fun c hc=>.inl (by simpa [Res.bk] using hc)) (by simp [Res.bk])
 ·rw [← hl'];simp
 ·rw [qQA] at hu
  obtain⟨c,hc,rfl⟩:=List.mem_map.1 hu
  exact hone c hc
theorem HSim.nil_row {fr:Fr} {g:GW} {rs:List Res} {nx nx' lo:Nat} {w:World} (h:HSim fr ⟨g,rs,nx,lo⟩ w) (id:Nat) (ety:TypeId) (size:Nat):HSim fr ⟨g,.row id none 0 0 ety size [] :: rs,nx',lo⟩ w :=
 h.newRes (Below.refl _ _) (r:=.row id none 0 0 ety size []) ⟨World.ownsRow_nil w 0 ety size,fun u hu=>by cases hu⟩ (fun b hb=>by simp [Res.bk] at hb) (by simp [Res.bk])
theorem qDA {α:Type} {V:α→List SV} {W:α→Hs} {J:α→Prop} {vs0:List SV} {hs:Hs} (x0:α) (hV:qAA (V x0)=qAA vs0) (hJ:J x0) (hW:W x0=hs):∀ fr w,HSim fr hs w→∃ x,qAA (V x)=qAA vs0∧J x∧HSim fr (W x) w :=
 fun _ _ hw=>⟨x0,hV,hJ,hW▸hw⟩
abbrev xo (d:Nat) (p:SOp):SOper:=⟨some d,p,none⟩
abbrev xn (p:SOp):SOper:=⟨none,p,none⟩
abbrev xg (d:Nat) (p:SOp) (k:Nat) (b:Bool):SOper:=⟨some d,p,some (k,b)⟩
section
variable {α β γ δ ε:Sort _} {a:α} {b:β} {c:γ} {d:δ} {e:ε} {p:Prop}
theorem qza (h:p):a=a∧p:=⟨rfl,h⟩
theorem qzb (h:p):(a=a∧b=b)∧p:=⟨⟨rfl,rfl⟩,h⟩
theorem qzc (h:p):(a=a∧b=b∧c=c)∧p:=⟨⟨rfl,rfl,rfl⟩,h⟩
theorem qzd (h:p):(a=a∧b=b∧c=c∧d=d)∧p:=⟨⟨rfl,rfl,rfl,rfl⟩,h⟩
theorem qze (h:p):(a=a∧b=b∧c=c∧d=d∧e=e)∧p:=⟨⟨rfl,rfl,rfl,rfl,rfl⟩,h⟩
abbrev OA:=Option Addr
theorem qz {q p:Prop} (h:p) (k:q:=by first|exact rfl|exact⟨rfl,rfl⟩|exact⟨rfl,rfl,rfl⟩|exact⟨rfl,rfl,rfl,rfl⟩|exact⟨rfl,rfl,rfl,rfl,rfl⟩):q∧p:=⟨k,h⟩
end
/- A symbolic evaluator over the model's code,part 15: a function that defers a call of its own,once. -/
open Go.RowKit
def R1 (fr0:Fr) (nt:Nat) (D:Pin) (sl:Sl) (hs:Hs) (a:Act) (w:World):Prop:=∃ fr,fr0.le fr∧HSim fr hs w∧Sim nt D sl a
def q1U (fr0:Fr) (nt:Nat) (D:Pin) (K:Ex→Sl→Hs→Prop):Exit→Act→World→Prop:=fun e a w =>
 ∃ ex sl' hs',ex.to=e∧K ex sl' hs'∧R1 fr0 nt D sl' hs' a w
def q1T (P:Program) (H:qIA) (nt:Nat) (c:Code):Prop:=∀ (fr0:Fr) (rd:Bool) (Y:qsA) (D:Pin) (sc:SCode) (s s':List (List Nat×OI)×List (List Nat)) (sl:Sl) (hs:Hs) (K:Ex→Sl→Hs→Prop) (a:Act) (w:World),
 trC P nt c s=some (sc,s')→(∀ d∈dsts sc,d∈D.ds)→SndY P fr0 Y→R1 fr0 nt D sl hs a w→S P H sc rd Y sl hs K→c.wpIn (FW none) 0 P (q1U fr0 nt D K) a w
def strC:Code→Bool
 | .skip=>true
 | .region _ _ _=>true
 | .seq a b=>strC a&&strC b
 | .cond _ a b=>strC a&&strC b
 | .ret=>true
 | _=>false
section
variable {P:Program} {H:qIA} {nt:Nat}
theorem qfM (hm:P.follows .mixedOrders=true) (hH:∀ fr,SndH P fr H) (id:Nat) (ops:Array Oper) (d:Bool):q1T P H nt (.region id ops d):=by
 intro fr0 rd Y D sc s s' sl hs K a w ht hds hY hR h
 obtain⟨fr,hle,hw,hsl⟩:=hR
 cases d with
 | false =>
  simp only [trC] at ht
  split at ht
  ·rename_i l hl
   simp at ht;obtain⟨rfl,rfl⟩:=ht
   refine wpIn_region (qLJ (fr:=fr) (D:=D) (hH fr) (hY.up hle) (K:=fun sl hs=>K .normal sl hs) ?_ _ l sl hs a w hl hds hsl hw h)
   exact fun sl hs a w hk hsim hw=>⟨.normal,sl,hs,rfl,hk,fr,hle,hw,hsim⟩
  ·cases ht
 | true =>
  obtain⟨os,lm⟩:=s
  cases os with
  | nil=>simp [trC] at ht
  | cons τ os =>
   obtain⟨al,τ⟩:=τ
   simp only [trC] at ht
   split at ht
   ·rename_i l hl
    split at ht
    ·rename_i hc
     simp at ht;obtain⟨rfl,rfl⟩:=ht
     simp only [Bool.and_eq_true] at hc
     obtain⟨⟨hc1,hc2⟩,hc3⟩:=hc
     simp only [alOk,Bool.and_eq_true,decide_eq_true_eq] at hc2
     have hal:AlOk P nt D ops al:=fun k hk=>by
      have:=(List.all_eq_true.1 hc2.1) k hk
      simp only [Bool.and_eq_true] at this
      obtain⟨so,hso⟩:=Option.isSome_iff_exists.1 this.2
      obtain⟨o,ho,hso⟩:=Option.bind_eq_some_iff.1 hso
      refine⟨this.1,⟨o,so,ho,hso⟩,fun o' d ho' hd=>hds d (List.mem_append.2 (.inl (List.mem_filterMap.2 ⟨k,hk,by simp [ho',hd]⟩)))⟩
     have hds':∀ d∈qtB l,d∈D.ds:=fun d hd=>hds d (List.mem_append.2 (.inr hd))
     have go:∀ sl,NoM (dstL ops al) sl→Sim nt D sl a→regT P (okH P) H hs.lo l [] sl hs (fun sl hs=>K .normal sl hs)→(Code.region id ops true).wpIn (FW none) 0 P (q1U fr0 nt D K) a w:=fun sl hno hsl h=>by
      refine wpIn_mono (q2L (r:=none) (fr:=fr) (D:=D) (qwM P) hH (K:=fun sl hs=>K .normal sl hs) (Q:=fun a w=>q1U fr0 nt D K .normal a w) hm hc3 hal hc2.2 ?_ hc1 hl hds' hno hsl hw h id) ?_
      ·exact fun sl hs a w hk hsim hw=>⟨.normal,sl,hs,rfl,hk,fr,hle,hw,hsim⟩
      ·intro e a w hq
       cases e<;>first|exact hq|exact hq.elim
     obtain⟨hg,hr',hn,hl'⟩:=hs
     have h:qhS P H (dstL ops al) l rd Y sl ⟨hg,hr',hn,hl'⟩ K:=h
     unfold qhS at h
     simp only at h
     split at h
     ·rename_i he
      exact go sl (by rw [he];intro d hd;cases hd) hsl h
     ·rename_i n ns he
      obtain⟨sl0,hk,hall⟩:=qNE h
      refine go sl0 (by rw [he];intro d hd;cases hh:getS sl0 d with
       | none=>rfl
       | some x=>exact absurd hd (hall d x hh).1) ⟨hsl.size,hsl.defers,fun n x hx=>hsl.slots n x (hall n x hx).2,hsl.off⟩ hk
    ·cases ht
   ·cases ht
theorem qdR (hm:P.follows .mixedOrders=true) (hH:∀ fr,SndH P fr H):∀ c,strC c=true→q1T P H nt c:=by
 intro c
 induction c with
 | skip =>
  intro _ fr0 rd Y D sc s s' sl hs K a w ht hds hY hR h
  simp [trC] at ht;obtain⟨rfl,rfl⟩:=ht
  exact wpIn_skip ⟨.normal,sl,hs,rfl,h,hR⟩
 | region id ops d=>exact fun _=>qfM hm hH id ops d
 | seq x y hx hy =>
  intro hst fr0 rd Y D sc s s' sl hs K a w ht hds hY hR h
  simp only [strC,Bool.and_eq_true] at hst
  simp only [trC] at ht
  split at ht
  ·rename_i x' s1 hx'
   split at ht
   ·rename_i y' s2 hy'
    simp at ht;obtain⟨rfl,rfl⟩:=ht
    refine wpIn_seq (wpIn_mono (hx hst.1 fr0 rd Y D _ _ _ sl hs _ a w hx' (fun d hd=>hds d (by simp [dsts,hd])) hY hR h) ?_)
    rintro e a1 w1 ⟨ex,sl1,hs1,rfl,hk,hR1⟩
    cases ex with
    | normal=>exact hy hst.2 fr0 rd Y D _ _ _ sl1 hs1 K a1 w1 hy' (fun d hd=>hds d (by simp [dsts,hd])) hY hR1 hk
    | exit n=>exact⟨.exit n,sl1,hs1,rfl,hk,hR1⟩
    | ret=>exact⟨.ret,sl1,hs1,rfl,hk,hR1⟩
    | goto n=>exact⟨.goto n,sl1,hs1,rfl,hk,hR1⟩
   ·cases ht
  ·cases ht
 | cond c x y hx hy =>
  intro hst fr0 rd Y D sc s s' sl hs K a w ht hds hY hR h
  simp only [strC,Bool.and_eq_true] at hst
  simp only [trC] at ht
  split at ht
  ·rename_i x' s1 hx'
   split at ht
   ·rename_i y' s2 hy'
    simp at ht;obtain⟨rfl,rfl⟩:=ht
    obtain⟨fr,hle,hw,hsl⟩:=hR
    rcases qLM (A:=S P H x' rd Y) (B:=S P H y' rd Y) h hsl with ⟨hc,sl1,h1,hsl1⟩|⟨hc,sl1,h1,hsl1⟩
    ·exact wpIn_cond_true hc (hx hst.1 fr0 rd Y D _ _ _ sl1 hs K a w hx' (fun d hd=>hds d (by simp [dsts,hd])) hY ⟨fr,hle,hw,hsl1⟩ h1)
    ·exact wpIn_cond_false hc (hy hst.2 fr0 rd Y D _ _ _ sl1 hs K a w hy' (fun d hd=>hds d (by simp [dsts,hd])) hY ⟨fr,hle,hw,hsl1⟩ h1)
   ·cases ht
  ·cases ht
 | ret =>
  intro _ fr0 rd Y D sc s s' sl hs K a w ht hds hY hR h
  simp [trC] at ht;obtain⟨rfl,rfl⟩:=ht
  exact wpIn_ret ⟨.ret,sl,hs,rfl,h,hR⟩
 | block id x hx=>intro hst;simp [strC] at hst
 | loop x hx=>intro hst;simp [strC] at hst
 | rangeFunc g ps asg body ha hb=>intro hst;simp [strC] at hst
 | exit n=>intro hst;simp [strC] at hst
 | label m=>intro hst;simp [strC] at hst
 | goto l0=>intro hst;simp [strC] at hst
 | scope c hc=>intro hst;simp [strC] at hst
 | refuse why=>intro hst;simp [strC] at hst
end
structure FnD where
 nt:Nat
 res:List SRes
 A:List SCode
 op:SOp
 dt:Nat
 dk:Nat
 B:SCode
 cl:FnI
 deriving Inhabited
def isDf (ops:Array Oper):Bool:=match ops.toList with
 | [_,o]=>match o.op with
  | .defer _=>true
  | _=>false
 | _=>false
def headD:Code→Option (Nat×Array Oper)
 | .region id ops false=>match isDf ops with
  | true=>some (id,ops)
  | false=>none
 | _=>none
def qlN:Code→Option (List Code×(Nat×Array Oper)×Code)
 | .seq x y=>match headD x with
  | some d=>some ([],d,y)
  | none=>match qlN y with
   | some (A,d,B)=>some (x :: A,d,B)
   | none=>none
 | _=>none
def wpP (F:Fence) (n:Nat) (P:Program) (Q:Exit→Act→World→Prop) (fin:Act→World→Prop):List Code→Act→World→Prop
 | [],a,w=>fin a w
 | x :: ps,a,w=>x.wpIn F n P (Exit.then (wpP F n P Q fin ps) Q) a w
theorem q4Q {x:Code} {id:Nat} {ops:Array Oper} (h:headD x=some (id,ops)):x=.region id ops false:=by
 unfold headD at h
 split at h
 ·split at h
  ·cases h;rfl
  ·cases h
 ·cases h
theorem qvS {F:Fence} {n:Nat} {P:Program} {Q:Exit→Act→World→Prop} {id:Nat} {ops:Array Oper} {B:Code}:∀ {c:Code} {ps:List Code},qlN c=some (ps,(id,ops),B)→∀ {a:Act} {w:World},
  wpP F n P Q (fun a w=>(Code.region id ops false).wpIn F n P (Exit.then (B.wpIn F n P Q) Q) a w) ps a w→c.wpIn F n P Q a w:=by
 intro c
 induction c with
 | seq x y _ ihy =>
  intro ps hs a w h
  simp only [qlN] at hs
  split at hs
  ·rename_i d hd
   simp only [Option.some.injEq,Prod.mk.injEq] at hs
   obtain⟨rfl,rfl,rfl⟩:=hs
   rw [q4Q hd]
   exact wpIn_seq h
  ·split at hs
   ·rename_i A d B' hy
    simp only [Option.some.injEq,Prod.mk.injEq] at hs
    obtain⟨rfl,rfl,rfl⟩:=hs
    refine wpIn_seq (wpIn_mono h ?_)
    intro e a1 w1 hq
    cases e with
    | normal=>exact ihy hy hq
    | _=>exact hq
   ·cases hs
 | _=>intro ps hs;simp [qlN] at hs
def trL (P:Program) (nt:Nat):List Code→List (List Nat×OI)×List (List Nat)→Option (List SCode×(List (List Nat×OI)×List (List Nat)))
 | [],s=>some ([],s)
 | c :: cs,s=>match trC P nt c s with
  | some (x,s')=>match trL P nt cs s' with
   | some (xs,s'')=>some (x :: xs,s'')
   | none=>none
  | none=>none
def qER:List SCode→List Nat
 | []=>[]
 | x :: xs=>dsts x++qER xs
def SP (P:Program) (H:qIA) (Y:qsA):List SCode→Sl→Hs→(Ex→Sl→Hs→Prop)→Prop
 | [],sl,hs,K=>K .normal sl hs
 | x :: xs,sl,hs,K=>S P H x false Y sl hs fun e sl hs=>match e with
  | .normal=>SP P H Y xs sl hs K
  | e=>K e sl hs
def strL:List Code→Bool
 | []=>true
 | c :: cs=>strC c&&strL cs
section
variable {P:Program} {H:qIA} {nt:Nat}
theorem qpT (hm:P.follows .mixedOrders=true) (hH:∀ fr,SndH P fr H) {Q:Exit→Act→World→Prop} {fin:Act→World→Prop}:∀ (ps:List Code),strL ps=true→∀ (fr0:Fr) (Y:qsA) (D:Pin) (scs:List SCode) (s s':List (List Nat×OI)×List (List Nat)) (sl:Sl) (hs:Hs) (K:Ex→Sl→Hs→Prop) (a:Act) (w:World),
  trL P nt ps s=some (scs,s')→(∀ d∈qER scs,d∈D.ds)→SndY P fr0 Y→R1 fr0 nt D sl hs a w→SP P H Y scs sl hs K→(∀ ex sl hs a w,K ex sl hs→R1 fr0 nt D sl hs a w→Exit.then fin Q ex.to a w)→wpP (FW none) 0 P Q fin ps a w
 | [],_,fr0,Y,D,scs,s,s',sl,hs,K,a,w,ht,hds,hY,hR,h,hf=>by
  simp [trL] at ht;obtain⟨rfl,rfl⟩:=ht
  exact hf .normal sl hs a w h hR
 | c :: cs,hst,fr0,Y,D,scs,s,s',sl,hs,K,a,w,ht,hds,hY,hR,h,hf=>by
  simp only [strL,Bool.and_eq_true] at hst
  simp only [trL] at ht
  split at ht
  ·rename_i x s1 hx
   split at ht
   ·rename_i xs s2 hxs
    simp at ht;obtain⟨rfl,rfl⟩:=ht
    refine wpIn_mono (qdR hm hH c hst.1 fr0 false Y D _ _ _ sl hs _ a w hx (fun d hd=>hds d (by simp [qER,hd])) hY hR h) ?_
    rintro e a1 w1 ⟨ex,sl1,hs1,rfl,hk,hR1⟩
    cases ex with
    | normal=>exact qpT hm hH cs hst.2 fr0 Y D xs s1 _ sl1 hs1 K a1 w1 hxs (fun d hd=>hds d (by simp [qER,hd])) hY hR1 hk hf
    | exit n=>exact hf (.exit n) sl1 hs1 a1 w1 hk hR1
    | ret=>exact hf .ret sl1 hs1 a1 w1 hk hR1
    | goto n=>exact hf (.goto n) sl1 hs1 a1 w1 hk hR1
   ·cases ht
  ·cases ht
end
def qJU (P:Program) (nt:Nat) (ops:Array Oper):Option (SOp×Nat×Nat):=match ops.toList with
 | [o0,o1]=>match trOp P o0,o0.dst,o0.guard,o1.op,o1.dst,o1.guard with
  | some (.mkf (.func k) [] caps),some t,none,.defer c,none,none=>match c.callee with
   | .value (.tmp t')=>if t'=t∧c.args.size=0∧t<nt then some (.mkf (.func k) [] caps,t,k) else none
   | _=>none
  | _,_,_,_,_,_=>none
 | _=>none
def qxP (P:Program) (k:FuncId):Bool:=match P.funcs[k]? with
 | some fn=>match fn.body with
  | some c=>strC c
  | none=>false
 | none=>false
def qYR (P:Program) (f:FuncId) (ords:List (List Nat×OI)) (lms:List (List Nat)) (ords2:List (List Nat×OI)) (lms2:List (List Nat)):Option FnD:=match P.funcs[f]? with
 | some fn=>match fn.body with
  | some c=>match qlN c with
   | some (ps,(_,ops),b)=>match trL P fn.ntmps ps (ords,lms) with
    | some (A,s1)=>match qJU P fn.ntmps ops with
     | some (op,t,k)=>match trC P fn.ntmps b s1,qRM P fn.results.toList,trFn P k ords2 lms2 with
      | some (B,_),some rs,some cl=>if (strL ps&&strC b&&qxP P k)=true then some ⟨fn.ntmps,rs,A,op,t,k,B,cl⟩ else none
      | _,_,_=>none
     | none=>none
    | none=>none
   | none=>none
  | none=>none
 | none=>none
def clE (P:Program) (H:qIA) (cl:FnI) (caps:List SV) (hs:Hs) (K:Hs→Prop):Prop:=match Nat.ble caps.length cl.nt with
 | true=>S P H cl.code false noY (qNK caps 0) hs fun e sl2 hs2=>match e with
  | .normal=>retS cl.res sl2 hs2 fun _=>K hs2
  | .ret=>retS cl.res sl2 hs2 fun _=>K hs2
  | _=>False
 | false=>False
def endD (P:Program) (H:qIA) (fd:FnD) (caps:List SV) (K:SV→Hs→Prop) (sl:Sl) (hs:Hs):Prop:=clE P H fd.cl caps hs fun hs2=>retS fd.res sl hs2 fun v=>K v hs2
def dfS (P:Program) (H:qIA) (fd:FnD) (Y:qsA) (x:SV) (sl:Sl) (hs:Hs) (K:SV→Hs→Prop):Prop:=match x with
 | .fn (.func k) [] caps=>Nat.beq k fd.dk=true∧FnOk P fd.dk∧S P H fd.B false Y sl hs fun e sl hs=>match e with
  | .normal=>endD P H fd caps K sl hs
  | .ret=>endD P H fd caps K sl hs
  | _=>False
 | _=>False
def fnDS (P:Program) (H:qIA) (fd:FnD) (Y:qsA) (args:List SV) (hs:Hs) (K:SV→Hs→Prop):Prop:=match Nat.ble args.length fd.nt with
 | true=>SP P H Y fd.A (qNK args 0) hs fun e sl hs=>match e with
  | .ret=>retS fd.res sl hs fun v=>K v hs
  | .normal=>rdS fd.op sl hs fun x=>qEB (some fd.dt) sl x fun sl=>dfS P H fd Y x sl hs K
  | _=>False
 | false=>False
theorem q1P {nt:Nat} {args:List SV} (hlen:args.length≤nt) (ds:List Nat):Sim nt ⟨[],ds,(qAA args).toArray++Array.replicate (nt-(qAA args).toArray.size) undef⟩ (qNK args 0) {tmps:=(qAA args).toArray++Array.replicate (nt-(qAA args).toArray.size) undef,defers:=[]}:=by
 refine⟨by simp [qWA];omega,rfl,fun n x hx=>?_,fun _ _=>rfl⟩
 obtain⟨i,rfl,hi⟩:=qfJ args 0 n x hx
 have hlt:i<args.length:=(List.getElem?_eq_some_iff.1 hi).1
 show((qAA args).toArray++_)[0+i]?=_
 rw [Array.getElem?_append_left (by simp [qWA];omega)]
 simp [qQA,hi]
theorem q9O {P:Program} {fn:Func} {rs:List SRes} (htr:qRM P fn.results.toList=some rs) {sl:Sl} {hs:Hs} {k:SV→Prop} (h:retS rs sl hs k) {fr:Fr} {a:Act} {w:World} (hw:HSim fr hs w) (hsl:∀ n x,getS sl n=some x→a.tmps[n]?=some (conc x)) :
  ∃ v,(results fn a.tmps).run P w=.ok (conc v) w∧k v:=by
 obtain⟨l,hk,hrun⟩:=qGG (k:=fun l=>match l with
  | [x]=>k x
  | l=>k (.tup l)) htr h
 have hr:=qoK (hrun a.tmps hsl fr w hw)
 match l,hk with
 | [],hk=>exact⟨.tup [],hr,hk⟩
 | [x],hk=>exact⟨x,hr,hk⟩
 | x :: y :: r,hk=>exact⟨.tup (x :: y :: r),hr,hk⟩
theorem qdS {P:Program} {H:qIA} (hm:P.follows .mixedOrders=true) (hH:∀ fr,SndH P fr H) {k:FuncId} {o:List (List Nat×OI)} {l:List (List Nat)} {cl:FnI} (ht:trFn P k o l=some cl) (hstr:qxP P k=true) {fr:Fr} {caps:List SV} {hs:Hs} {K:Hs→Prop} (h:clE P H cl caps hs K) {w:World} (hw:HSim fr hs w) :
  CallsDIn (FW none) 0 P k (qAA caps).toArray .returning w fun e u' w'=>u'=.returning∧∃ v hs',e=.returned v∧HSim fr hs' w'∧K hs':=by
 unfold trFn at ht
 split at ht
 ·rename_i fn hf
  split at ht
  ·rename_i c hc
   have hs2:strC c=true:=by unfold qxP at hstr;rw [hf] at hstr;simp only at hstr;rw [hc] at hstr;exact hstr
   split at ht
   ·rename_i sc s' rs htc htr
    simp at ht;subst ht
    unfold clE at h
    split at h
    ·rename_i hlen
     have hlen':caps.length≤fn.ntmps:=Nat.le_of_ble_eq_true hlen
     refine callsDIn_of_wp (R:=fun e w'=>∃ v hs',e=.returned v∧HSim fr hs' w'∧K hs') hf hc trivial ?_
     refine wpIn_mono (qdR hm hH c hs2 fr false noY ⟨[],dsts sc,_⟩ _ _ _ (qNK caps 0) hs _ _ w htc (fun d hd=>hd) (qxM P _) ⟨fr,Fr.refl _,hw,q1P hlen' _⟩ h) ?_
     rintro e a1 w1 ⟨ex,sl1,hs1,rfl,hk,fr1,hle,hw1,hsl1⟩
     have fin:retS rs sl1 hs1 (fun _=>K hs1)→a1.defers=[]∧∃ v,(results fn a1.tmps).run P w1=.ok v w1∧∃ v' hs',Ending.returned v=.returned v'∧HSim fr hs' w1∧K hs':=fun hk=>by
      obtain⟨v,hr,hk⟩:=q9O htr hk hw1 hsl1.slots
      exact⟨hsl1.defers,_,hr,_,hs1,rfl,hw1.weaken hle,hk⟩
     cases ex with
     | normal=>exact fin hk
     | ret=>exact fin hk
     | exit n=>exact hk.elim
     | goto n=>exact hk.elim
    ·exact h.elim
   ·cases ht
  ·cases ht
 ·cases ht
theorem qkQ {P:Program} {nt:Nat} {ops:Array Oper} {op:SOp} {t k:Nat} (h:qJU P nt ops=some (op,t,k)):∃ o0 o1 c,ops=#[o0,o1]∧trOp P o0=some op∧op.reads=true∧o0.dst=some t∧o0.guard=none∧o1.op=.defer c∧o1.dst=none∧o1.guard=none∧c.callee=.value (.tmp t)∧c.args=#[]∧t<nt:=by
 unfold qJU at h
 split at h
 ·rename_i o0 o1 hl
  split at h
  ·rename_i k' caps t' c h1 h2 h3 h4 h5 h6
   split at h
   ·rename_i t'' hc
    split at h
    ·rename_i hq
     simp only [Option.some.injEq,Prod.mk.injEq] at h
     obtain⟨rfl,rfl,rfl⟩:=h
     obtain⟨rfl,hq2,hq3⟩:=hq
     exact⟨o0,o1,c,by rw [← Array.toList_inj,hl],h1,rfl,h2,h3,h4,h5,h6,hc,Array.size_eq_zero_iff.1 hq2,hq3⟩
    ·cases h
   ·cases h
  ·cases h
 ·cases h
theorem qVS {P:Program} {H:qIA} (hm:P.follows .mixedOrders=true) (hH:∀ fr,SndH P fr H) {f:FuncId} {ords:List (List Nat×OI)} {lms:List (List Nat)} {ords2:List (List Nat×OI)} {lms2:List (List Nat)} {fd:FnD} (ht:qYR P f ords lms ords2 lms2=some fd) {fr:Fr} {Y:qsA} (hY:SndY P fr Y) {args:List SV} {hs:Hs} {K:SV→Hs→Prop}
  (h:fnDS P H fd Y args hs K) {w:World} (hw:HSim fr hs w):Calls P f (qAA args).toArray w fun e w'=>∃ v hs',e=.returned (conc v)∧HSim fr hs' w'∧K v hs':=by
 unfold qYR at ht
 split at ht
 case h_2=>cases ht
 rename_i fn hf
 split at ht
 case h_2=>cases ht
 rename_i c hc
 split at ht
 case h_2=>cases ht
 rename_i ps id ops b hsp
 split at ht
 case h_2=>cases ht
 rename_i A s1 hA
 split at ht
 case h_2=>cases ht
 rename_i op t k hrd
 split at ht
 case h_2=>cases ht
 rename_i B s2 rs cl hB htr hcl
 split at ht
 case isFalse=>cases ht
 rename_i hst
 simp only [Option.some.injEq] at ht
 subst ht
 simp only [Bool.and_eq_true] at hst
 obtain⟨⟨hst1,hst2⟩,hst3⟩:=hst
 obtain⟨o0,o1,cc,rfl,hop,hreads,hd0,hg0,ho1,hd1,hg1,hcal,hcar,htn⟩:=qkQ hrd
 unfold fnDS at h
 split at h
 case h_2=>exact h.elim
 rename_i hlen
 have hlen':args.length≤fn.ntmps:=Nat.le_of_ble_eq_true hlen
 refine(qNG none 0).1 (callsIn_of_wp_marks hf hc trivial ?_)
 refine qvS hsp (qpT hm hH ps hst1 fr Y ⟨[],qER A++t :: dsts B,_⟩ A _ _ (qNK args 0) hs _ _ w hA (fun d hd=>List.mem_append.2 (.inl hd)) hY ⟨fr,Fr.refl _,hw,q1P hlen' _⟩ h ?_)
 intro ex sl1 hs1 a1 w1 hk hR1
 obtain⟨fr1,hle,hw1,hsl1⟩:=hR1
 cases ex with
 | exit n=>exact hk.elim
 | goto n=>exact hk.elim
 | ret =>
  show LeavesInM (FW none) 0 P fn a1.tmps _ a1.defers .returning w1
  rw [hsl1.defers]
  obtain⟨v,hr,hk⟩:=q9O htr hk hw1 hsl1.slots
  exact⟨_,hr,v,hs1,rfl,hw1.weaken hle,hk⟩
 | normal =>
  obtain⟨x,hk,hrun⟩:=qQK hop hreads hsl1.slots hk
  obtain⟨sl2,hk2,hsl2⟩:=hsl1.putd (dst:=some t) (fun d hd=>by cases hd;exact⟨htn,List.mem_append.2 (.inr (List.mem_cons_self ..))⟩) x hk
  show(Code.region id #[o0,o1] false).wpIn (FW none) 0 P _ a1 w1
  refine wpIn_region ?_
  show wpOpsIn (FW none) 0 P #[o0,o1] _ [0,1] a1 w1
  unfold dfS at hk2
  split at hk2
  case h_2=>exact hk2.elim
  rename_i k' caps
  obtain⟨hkk,hfok,hk2⟩:=hk2
  obtain rfl:k'=k:=Nat.eq_of_beq_eq_true hkk
  have hw0:Region.wanted o0 (yielded #[o0,o1] a1.tmps)=true:=by unfold Region.wanted;rw [hg0]
  rw [wpOpsIn_cons]
  unfold wpOpIn
  simp only [List.getElem?_toArray,List.getElem?_cons_zero]
  rw [if_pos hw0]
  refine qiA (qkD hop).1 (hrun fr1 w1 hw1) ?_
  rw [hd0]
  have hev:(a1.put (some t) (conc (.fn (.func k') [] caps))).eval (.tmp t)=.func (.func k') #[] (qAA caps).toArray:=by
   have:getS ((t,SV.fn (.func k') [] caps) :: sl1) t=some (.fn (.func k') [] caps):=by simp [getS]
   show(a1.put (some t) (conc (.fn (.func k') [] caps))).tmps.getD t undef=_
   have hsz:t<a1.tmps.size:=by rw [hsl1.size];exact htn
   simp [Act.put,Array.getD_eq_getD_getElem?,hsz,conc,qAA]
  have hw2:Region.wanted o1 (yielded #[o0,o1] (a1.put (some t) (conc (.fn (.func k') [] caps))).tmps)=true:=by unfold Region.wanted;rw [hg1]
  rw [wpOpsIn_cons]
  unfold wpOpIn
  simp only [List.getElem?_toArray,List.getElem?_cons_succ,List.getElem?_cons_zero]
  rw [if_pos hw2]
  refine⟨fun _ _=>trivial,?_⟩
  have hdf:(o1.semAt (FW none).round (a1.put (some t) (conc (.fn (.func k') [] caps))).eval).run P w1=.ok (.defer {target:=.fn (.func k') (qAA caps).toArray,args:=#[]}) w1:=by
   show(execOp _ o1).run P w1=_
   simp only [execOp,ho1,resolve,hcal,hcar,hev]
   simp [Deferred.ofValue,Sem.run_bind,Sem.run_pure,Result.andThen]
  rw [hdf]
  rw [Oper.uponIn_defer,hd1]
  show(b.wpIn (FW none) 0 P _) _ w1
  refine wpIn_mono (qdR hm hH b hst2 fr1 false Y ⟨[{target:=.fn (.func k') (qAA caps).toArray,args:=#[]}],qER A++t :: dsts B,_⟩ _ _ _ sl2 hs1 _ _ w1 hB (fun d hd=>List.mem_append.2 (.inr (List.mem_cons_of_mem _ hd))) (hY.up hle) ⟨fr1,Fr.refl _,hw1,⟨hsl2.size,by show _ :: _=_;rw [hsl2.defers],hsl2.slots,hsl2.off⟩⟩ hk2) ?_
  rintro e a2 w2 ⟨ex,sl3,hs3,rfl,hk3,fr3,hle3,hw3,hsl3⟩
  have fin:endD P H ⟨fn.ntmps,rs,A,op,t,k',B,cl⟩ caps K sl3 hs3→LeavesInM (FW none) 0 P fn a2.tmps (fun e w'=>∃ v hs',e=.returned (conc v)∧HSim fr hs' w'∧K v hs') a2.defers .returning w2:=fun hk=>by
   rw [hsl3.defers]
   refine⟨by simp,.inr ⟨fun h=>by simp [FW] at h,_,_,k',(qAA caps).toArray,rfl,?_,fun _ _=>trivial,?_⟩⟩
   ·have:=qLB hfok (qAA caps).toArray w2
    simp [invoke] at this ⊢
    exact this
   ·refine(qdS hm hH hcl hst3 hk hw3).mono ?_
    rintro e u' w' ⟨rfl,v,hs',rfl,hw',hk'⟩
    show LeavesInM (FW none) 0 P fn a2.tmps _ [] .returning w'
    obtain⟨v',hr,hk'⟩:=q9O htr hk' hw' hsl3.slots
    exact⟨_,hr,v',hs',rfl,(hw'.weaken hle3).weaken hle,hk'⟩
  cases ex with
  | normal=>exact fin hk3
  | ret=>exact fin hk3
  | exit n=>exact hk3.elim
  | goto n=>exact hk3.elim
def dfH (P:Program) (k:FuncId) (fd:FnD) (H:qIA):qIA:=fun Y f args hs K=>match Nat.beq f k with
 | true=>fnDS P H fd Y args hs K
 | false=>H Y f args hs K
theorem qmU {P:Program} (hm:P.follows .mixedOrders=true) {H:qIA} (hH:∀ fr,SndH P fr H) {k:FuncId} {ords:List (List Nat×OI)} {lms:List (List Nat)} {ords2:List (List Nat×OI)} {lms2:List (List Nat)} {fd:FnD} (ht:qYR P k ords lms ords2 lms2=some fd):∀ fr,SndH P fr (dfH P k fd H):=fun fr Y hY f args hs K h w hw=>by
 unfold dfH at h
 split at h
 ·rename_i hb
  obtain rfl:=Nat.eq_of_beq_eq_true hb
  exact qVS hm hH ht hY h hw
 ·exact hH fr Y hY f args hs K h w hw
theorem Ok.of_fnD {P:Program} (hm:P.follows .mixedOrders=true) {tbl:List (Nat×FnI)} (hT:qDG P tbl) (d:Nat) {k:FuncId} {ordsD:List (List Nat×OI)} {lmsD:List (List Nat)} {ords2:List (List Nat×OI)} {lms2:List (List Nat)} {fd:FnD} (htD:qYR P k ordsD lmsD ords2 lms2=some fd)
  {f:FuncId} {ords:List (List Nat×OI)} {lms:List (List Nat)} {fi:FnI} (ht:trFn P f ords lms=some fi) {args:List SV} {g:GW} {Q:Value→GW→Prop}
  (h:fnS P (dfH P k fd (inlH P tbl d)) fi noY args ⟨g,[],0,g.w.heap.size⟩ fun v hs'=>pubK v hs' fun v' hs''=>qcS v' fun x=>∀ g2,hs''.g≤g2→Q x g2):Ok P f (qAA args) g Q:=by
 intro w hw
 have hsim:HSim ⟨w,(·<w.heap.size),g.g,fun _ h=>h⟩ ⟨g,[],0,g.w.heap.size⟩ w:=⟨hw,⟨rfl,rfl,rfl,Nat.le_refl _,fun _ _=>rfl⟩,(fun r hr=>by cases hr),List.nodup_nil,(fun b hb=>by cases hb),(fun n _ h=>h),(fun n hl hg _=>by have:=g.wf n hg;exact absurd hl (Nat.not_le.2 this)),hw.1,fun b hb=>by cases hb⟩
 refine(qMN hm (qmU hm (fun fr=>qFN hm hT d fr) htD) ht (qxM P _) h hsim).mono ?_
 rintro e w' ⟨v,hs',rfl,hw',hk⟩
 obtain⟨v',hs'',hk,hc,hw''⟩:=qvN v hk hw'
 have hq:=qrJ v' hk
 rw [hc] at hq
 refine⟨_,rfl,⟨hw''.frm.os,hw''.frm.tape,hw''.frm.output,hw''.frm.size,fun n hn=>hw''.frm.block n hn⟩,hq _ ⟨hw''.good.1,fun n hn=>⟨⟨Nat.lt_of_lt_of_le (hs''.g.wf n hn) hw''.good.1,?_⟩,hw''.good.2 n hn⟩⟩⟩
 rcases Nat.lt_or_ge n w.heap.size with hlt|hge
 ·exact .inl (hw''.fz n hlt hn)
 ·exact .inr hge
end Go.Proofs.YtkogfpniapaigaaGreat.Sx
