/- qXB laws of swaps: many, one behind the other. -/
import Derived.Test.YtkogfpniapaigaaGreatPl
set_option linter.unusedVariables false
set_option linter.unusedSimpArgs false
namespace Go.Proofs.YtkogfpniapaigaaGreat.Sx
structure ManyI (w x:Wd) (n:Nat):Prop where
 right:wdB x=true
 pins:x.pins=w.pins
 lis:x.listens=w.listens
 ep:x.epoch=w.epoch
 ver:x.versions.length=w.versions.length+n
 lim:x.limbo.length=w.limbo.length+n
 new:∀ (j:Nat) r,w.limbo.length≤j→x.limbo[j]?=some r→r.gone=false∧r.at_=w.epoch
 cur0:n=0→x.current=w.current
 cur1:0<n→(w.versions.length:Int)≤x.current
theorem ManyI.begin_ {w:Wd} (h:wdB w=true):ManyI w w 0 :=
 ⟨h,rfl,rfl,rfl,rfl,rfl,(fun j r hj hr=>by rw [List.getElem?_eq_none hj] at hr;cases hr),fun _=>rfl,fun h=>by omega⟩
theorem ManyI.suit {w x:Wd} {n:Nat} (h:ManyI w x n) {t:Int} {c c':Config} (hs:∃ m,m.thread=t∧m.listen=0∧qfB w m=true):qfB x (mS c t)=true:=by
 obtain⟨m,h1,h2,h3⟩:=hs
 obtain⟨_,_,_,hS⟩:=suitB_iff.1 h3
 have ht:=hS.thread
 have hl:=hS.listen
 rw [h1] at ht
 rw [h2] at hl
 exact qhJ h.right (by rw [h.pins];exact ht) (by rw [h.lis];omega) rfl rfl rfl rfl rfl rfl rfl rfl rfl
theorem ManyI.next {w x:Wd} {n:Nat} (h:ManyI w x n) {c:Config} (hr:wdB (endW x c)=true):ManyI w (endW x c) (n+1):=by
 refine⟨hr,h.pins,h.lis,h.ep,?_,?_,?_,fun h=>by omega,fun _=>?_⟩
 ·show(x.versions++[qGA (qaA c)]).length=_
  have:=h.ver;simp;omega
 ·show(x.limbo++[(⟨x.current,x.epoch,false⟩:Retired)]).length=_
  have:=h.lim;simp;omega
 ·intro j r hj hr
  have hr:(x.limbo++[(⟨x.current,x.epoch,false⟩:Retired)])[j]?=some r:=hr
  rcases Nat.lt_or_ge j x.limbo.length with hi|hi
  ·rw [List.getElem?_append_left hi] at hr
   exact h.new j r hj hr
  ·rw [List.getElem?_append_right hi] at hr
   have hj':j-x.limbo.length=0:=by
    rcases Nat.lt_or_ge (j-x.limbo.length) 1 with h|h
    ·omega
    ·rw [List.getElem?_eq_none (by simpa using h)] at hr;cases hr
   rw [hj'] at hr
   simp at hr
   subst hr
   exact⟨rfl,h.ep⟩
 ·show(w.versions.length:Int)≤(x.versions.length:Int)
  have:=h.ver;omega
theorem ManyI.ne {w x:Wd} {n:Nat} (h:ManyI w x n) {j:Nat} {r:Retired} (hr:x.limbo[j]?=some r):(r.version==x.current)=false:=by
 have:=List.any_eq_false.1 (qgP h.right) r (List.mem_of_getElem? hr)
 simpa using this
theorem ManyI.cur {w x:Wd} {n:Nat} (h:ManyI w x n) (hr:wdB w=true):(((n:Int)==0)==(x.current==w.current))=true:=by
 obtain⟨_,⟨h1,h2⟩,_⟩:=qtD hr
 by_cases hn:n=0
 ·rw [h.cur0 hn,hn];simp
 ·have:=h.cur1 (by omega)
  rw [show((n:Int)==0)=false by simpa using hn,show(x.current==w.current)=false by simpa using (show x.current≠w.current by omega)]
  rfl
end Go.Proofs.YtkogfpniapaigaaGreat.Sx
