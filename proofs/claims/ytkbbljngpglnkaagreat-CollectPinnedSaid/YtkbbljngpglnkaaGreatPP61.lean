/- qoA laws of collectors: a thread that stays pinned. -/
import Derived.Test.YtkbbljngpglnkaaGreatPP60
set_option linter.unusedVariables false
set_option linter.unusedSimpArgs false
namespace Go.Proofs.YtkbbljngpglnkaaGreat.Sx
structure PinC (x y:Wd) (o:Nat):Prop where
 keep:KeepC x y
 right:wdB y=true
 lim:y.limbo.length=x.limbo.length
 ver:y.versions.length=x.versions.length
 lo:x.epoch≤y.epoch
 hi:y.epoch≤x.epoch+1
 pin:x.pins[o]?=some (x.epoch+1)
 held:∀ (i:Nat) r,x.limbo[i]?=some r→x.epoch≤r.at_→y.limbo[i]?=some r
theorem PinC.refl {x:Wd} {o:Nat} (hr:wdB x=true) (hp:x.pins[o]?=some (x.epoch+1)):PinC x x o:=⟨KeepC.refl x,hr,rfl,rfl,Int.le_refl _,by omega,hp,fun _ _ h _=>h⟩
theorem PinC.col {x y:Wd} {o:Nat} (h:PinC x y o) (hr:wdB (colW y)=true) (h0:0≤x.epoch):PinC x (colW y) o:=by
 obtain⟨c1,c2,c3,c4,c5,c6,c7⟩:=qmO y
 have hlo:=h.lo
 have hhi:=h.hi
 have hnow:y.epoch≤nowE y∧nowE y≤x.epoch+1:=by
  unfold nowE upI
  by_cases hc:canD y.pins y.epoch=true
  ·rw [if_pos hc]
   unfold canD at hc
   rw [List.all_eq_true] at hc
   have:=hc (x.epoch+1) (by rw [h.keep.pins];exact List.mem_of_getElem? h.pin)
   simp only [Bool.or_eq_true,decide_eq_true_eq] at this
   omega
  ·rw [if_neg hc];omega
 refine⟨h.keep.trans (qjQ y),hr,c3.trans h.lim,c4.trans h.ver,by rw [c1];omega,by rw [c1];omega,h.pin,fun i r hi hat=>?_⟩
 have hy:=h.held i r hi hat
 rw [c7,hy]
 have:dueV (nowE y) y i=false:=by
  unfold dueV
  rw [hy]
  simp only
  split
  ·rw [decide_eq_false (fun k:qlG r.at_ (nowE y)=>by have:=k.2;omega)];simp
  ·rfl
 rw [this];rfl
theorem PinC.suit {x y:Wd} {o:Nat} {m:Mach} (h:PinC x y o) (hs:qkA x m=true):qkA y m=true:=h.keep.suit h.right hs
theorem PinC.next {x y:Wd} {o:Nat} {m:Mach} (h:PinC x y o) (hs:qkA x m=true) (hN:NewC m) (he:0≤x.epoch∧x.epoch≤1000000) (hli:x.limbo.length≤60) (hls:x.listens.length≤60) :
  ∃ (K:Nat) (z:Wd) (m':Mach),K<3000∧CWay K y m z m'∧m'.done=true∧PinC x z o:=by
 have hs2:=h.suit hs
 have hhi:=h.hi
 by_cases hk:y.lock=0
 ·obtain⟨K,m',h1,h2,h3,_⟩:=qiQ hs2 hN hk (by omega) (by rw [h.lim];exact hli) (by rw [h.keep.lis];exact hls)
  exact⟨K,colW y,m',h1,h2,h3,h.col (h2.right h.right) he.1⟩
 ·exact⟨1,y,_,by decide,qrI hs2 hN hk,rfl,h⟩
theorem qvO {w:Wd} (h:wdB w=true) {o:Nat} (he:w.epoch≤1000000):wdB {w with pins:=w.pins.set o (w.epoch+1)}=true:=by
 have hg:=(q8B h).1
 refine qzF h ?_ rfl rfl rfl rfl (Int.le_refl _)
 unfold qbA at hg ⊢
 simp only [Bool.and_eq_true,decide_eq_true_eq,List.all_eq_true] at hg ⊢
 obtain⟨⟨⟨⟨⟨⟨⟨h1,h2⟩,h3⟩,h4⟩,h5⟩,h6⟩,h7⟩,h8⟩:=hg
 refine⟨⟨⟨⟨⟨⟨⟨?_,?_⟩,?_⟩,h4⟩,h5⟩,h6⟩,h7⟩,fun p hp=>?_⟩
 ·show 1≤(w.pins.set _ _).length;rw [List.length_set];exact h1
 ·show(w.pins.set _ _).length≤8;rw [List.length_set];exact h2
 ·show _=(w.pins.set _ _).length;rw [List.length_set];exact h3
 ·show 0≤p∧p≤w.epoch+1
  rcases List.mem_or_eq_of_mem_set hp with hp|rfl
  ·exact h8 p hp
  ·omega
end Go.Proofs.YtkbbljngpglnkaaGreat.Sx
