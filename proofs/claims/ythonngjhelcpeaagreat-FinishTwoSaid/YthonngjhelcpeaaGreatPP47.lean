/- qGB laws of requests: two requests, and their ends in any order. -/
import Derived.Test.YthonngjhelcpeaaGreatPP42
set_option linter.unusedVariables false
set_option linter.unusedSimpArgs false
namespace Go.Proofs.YthonngjhelcpeaaGreat.Sx
theorem HoldI.endA {B:Int} {w:Wd} {a:Ans} {A:List Ans} (h:HoldI B w (addA a A)) (hB:B≤1000000000) {t:Int} (ht:0≤t∧t<w.pins.length) (hz:a.kind≠1→a=ansK a.kind 0) :
  ∃ k y n,k≤5∧FWay k w (fBeg t a) y n∧n.done=true∧HoldI B y A∧qSB y=qSB w-(if a.kind=1 then 1 else 0)∧y.listens=updL w.listens a (-1)∧y.pins.length=w.pins.length:=by
 by_cases hk:a.kind=1
 ·rw [addA,if_pos hk] at h
  obtain⟨y,n,h1,h2,_,h4,h5,h6,h7,_⟩:=h.fin hB ht hk
  exact⟨5,y,n,Nat.le_refl _,h1,h2,h4,by rw [if_pos hk];exact h5,by rw [updL,if_pos hk];exact h6,by rw [h7]⟩
 ·obtain⟨n,h1,h2,_⟩:=qlO h.right ht hk (hz hk)
  rw [addA,if_neg hk] at h
  exact⟨1,w,n,by decide,h1,h2,h,by rw [if_neg hk];omega,by rw [updL,if_neg hk],rfl⟩
theorem qdU {B:Int} {w:Wd} {a b:Ans} {A:List Ans} (h:HoldI B w (addA a (addA b A))):HoldI B w (addA b (addA a A)):=by
 unfold addA at h ⊢
 split at h<;>split at h<;>simp_all
 exact h.swap
theorem qrW (l:List Listen) (a b:Ans):updL (updL (updL (updL l a 1) b 1) a (-1)) b (-1)=l:=by
 rw [qRT (updL l a 1) b a 1 (-1),qQL,qQL]
theorem qqW (l:List Listen) (a b:Ans):updL (updL (updL (updL l a 1) b 1) b (-1)) a (-1)=l:=by
 rw [qQL,qQL]
end Go.Proofs.YthonngjhelcpeaaGreat.Sx
