/- qGB laws of requests: what is held, the pins, the tickets at the end. -/
import Derived.Test.YthonngjhelcpeaaGreatPl
set_option linter.unusedVariables false
set_option linter.unusedSimpArgs false
namespace Go.Proofs.YthonngjhelcpeaaGreat.Sx
theorem qHH {α:Type} (f:α→Int) {l:List α} {i:Nat} {x y:α} (h:l[i]?=some x):sumI f (l.set i y)=sumI f l-f x+f y:=qfJ f h
theorem qFU {gr gr':Group} (h:gr'.ends=gr.ends):quC gr'=quC gr:=by unfold quC;rw [h]
theorem qqK {w:Wd} {m m1:Mach} {w1:Wd} (h:HMid w m w1 m1) (hs:qLC w m=true):qSB w1=qSB w+(if m1.answer.kind=1 then 1 else 0):=by
 obtain⟨_,_,_,hS⟩:=suitB_iff.1 hs
 unfold qSB
 rcases h.out with ⟨hk,hv⟩|⟨v,c,ck,gr,gr',en,hP,he,ho⟩
 ·rw [hv,if_neg (by omega)];omega
 have hge:gr'.ends=gr.ends:=by rcases hP.pick with ⟨_,_,rfl⟩|⟨_,_,rfl⟩<;>rfl
 have hb:endB en=true:=by
  obtain⟨_,_,_,h3⟩:=(qWC hS.right hP.ver).grp _ _ hP.grp
  exact(h3 en (List.mem_of_getElem? he.2)).1
 rcases ho with ⟨hk,hf,hv⟩|⟨ha,⟨r,hf⟩,hv⟩
 ·rw [hv,if_neg (by omega),qHH qtC hP.ver]
  have:qtC {v with groups:=v.groups.set c.toNat gr'}=qtC v:=by
   unfold qtC
   show sumI quC (v.groups.set c.toNat gr')=_
   rw [qHH quC hP.grp,qFU hge];omega
  rw [this];omega
 ·obtain⟨p1,p2,_⟩:=qjV hb hf
  have hact:=(qWQ p1 (a:=en.active+1) (by have:=(qJB hb).2.2.2;omega)).2
  rw [hv,if_pos (by rw [ha]),qHH qtC hP.ver]
  have e1:quC {gr' with ends:=gr'.ends.set m1.end_.toNat {popE en with active:=en.active+1}}=quC gr+1:=by
   unfold quC
   show sumI qjB (gr'.ends.set _ _)=_
   rw [hge,qHH qjB he.2,hact,p2];omega
  have:qtC {v with groups:=v.groups.set c.toNat {gr' with ends:=gr'.ends.set m1.end_.toNat {popE en with active:=en.active+1}}}=qtC v+1:=by
   unfold qtC
   show sumI quC (v.groups.set c.toNat _)=_
   rw [qHH quC hP.grp,e1];omega
  rw [this];omega
theorem q5O {w:Wd} {m m1:Mach} {w1:Wd} (h:HMid w m w1 m1):w1.versions.length=w.versions.length:=by
 rcases h.out with ⟨_,hv⟩|⟨v,c,ck,gr,gr',en,hP,he,⟨_,_,hv⟩|⟨_,_,hv⟩⟩
 ·rw [hv]
 ·rw [hv,List.length_set]
 ·rw [hv,List.length_set]
theorem q4O {w:Wd} {m m1 m':Mach} {w1 x:Wd} (h:HMid w m w1 m1) (he:HEnd w1 m1 x m'):x.listens.length=w.listens.length∧(m1.answer.kind≠1→x.listens=w.listens):=by
 rcases h.lis with ⟨h1,h2⟩|⟨y,h1,h2,h3⟩
 ·rcases he.lis with ⟨_,k⟩|⟨k,_⟩
  ·rw [k,h2];exact⟨rfl,fun _=>rfl⟩
  ·exact absurd (.inr h1) k
 ·rcases he.lis with ⟨k0,k⟩|⟨_,k⟩
  ·rw [k,h3,List.length_set]
   refine⟨rfl,fun hn=>?_⟩
   rcases k0 with k0|k0
   ·exact absurd k0 hn
   ·omega
  ·rw [k,h3]
   refine⟨by simp,fun _=>?_⟩
   have hm:mL w1 m1={y with active:=y.active+1}:=by unfold mL;rw [h3,qUA h2];rfl
   rw [hm,q1A]
   have:({({y with active:=y.active+1}:Listen) with active:=({y with active:=y.active+1}:Listen).active-1}:Listen)=y:=by
    cases y
    simp
   rw [this]
   exact qhJ h2
theorem HWay.kept {K:Nat}:∀ {k:Nat} {w:Wd} {m:Mach} {x:Wd} {m':Mach},HWay k w m x m'→BgW K w→BgW K x
 | 0,_,_,_,_,⟨h1,_⟩,hb=>by rw [h1];exact hb
 | _+1,_,_,_,_,⟨_,h⟩,hb=>HWay.kept h (hsW_kept.1 hb)
end Go.Proofs.YthonngjhelcpeaaGreat.Sx
