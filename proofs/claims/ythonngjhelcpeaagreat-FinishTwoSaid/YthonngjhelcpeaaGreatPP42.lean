/- qGB laws of ends of requests: a whole step, place for place; whole ways. -/
import Derived.Test.YthonngjhelcpeaaGreatPP41
import Derived.Test.YthonngjhelcpeaaGreatPl
set_option linter.unusedVariables false
set_option linter.unusedSimpArgs false
namespace Go.Proofs.YthonngjhelcpeaaGreat.Sx
noncomputable def fsW (w:Wd) (m:Mach):Wd:=if fGo w m then fW w m else w
noncomputable def fsM (w:Wd) (m:Mach):Mach:=if fGo w m then fM w m else m
noncomputable def fsE (w:Wd) (m:Mach):Ev:=if fGo w m then fE w m else ev0
theorem fs_no {w:Wd} {m:Mach} (h:¬ fGo w m):fsW w m=w∧fsM w m=m∧fsE w m=ev0:=by
 unfold fsW fsM fsE
 rw [if_neg h,if_neg h,if_neg h];exact⟨rfl,rfl,rfl⟩
theorem qNL {w:Wd} {m:Mach} (h:fGo w m):fsW w m=fW w m∧fsM w m=fM w m∧fsE w m=fE w m:=by
 unfold fsW fsM fsE
 rw [if_pos h,if_pos h,if_pos h];exact⟨rfl,rfl,rfl⟩
section
variable {w:Wd} {m:Mach}
theorem fa0 (h:m.pc=0):fW w m=w∧fM w m={m with word:=(mE w m m.end_).head,pc:=1}∧fE w m=evV w m 1 8 (idxT (mE w m m.end_).head):=by simp [fW,fM,fE,h]
theorem fa1 (h:m.pc=1):fW w m=setE w m {mE w m m.end_ with next:=(mE w m m.end_).next.set m.slot.toNat (idxT m.word)}∧fM w m={m with pc:=2}∧fE w m=evV w m 2 9 (idxT m.word):=by simp [fW,fM,fE,h]
theorem fa2 (h:m.pc=2):fW w m=(if (mE w m m.end_).head=m.word then setE w m {mE w m m.end_ with head:=qfB m.word m.slot} else w)∧fM w m={m with pc:=if (mE w m m.end_).head=m.word then 3 else 0}∧fE w m=(if (mE w m m.end_).head=m.word then {evV w m 4 8 m.slot with point:=true} else evV w m 5 8 (idxT (mE w m m.end_).head)):=by simp [fW,fM,fE,h]
theorem fa3 (h:m.pc=3):fW w m=setE w m {mE w m m.end_ with active:=wI ((mE w m m.end_).active-1)}∧fM w m={m with pc:=4}∧fE w m=evV w m 3 7 (wI ((mE w m m.end_).active-1)):=by simp [fW,fM,fE,h]
theorem fa4 (h:m.pc=4):fW w m=setLis w m {mL w m with active:=wI ((mL w m).active-1)}∧fM w m={m with done:=true,answer:=⟨6,m.version,m.cluster,m.end_,m.slot,m.listen,0,c60⟩}∧fE w m={evO m 3 5 (wI ((mL w m).active-1)) with done:=true,answer:=⟨6,m.version,m.cluster,m.end_,m.slot,m.listen,0,c60⟩}:=by simp [fW,fM,fE,fAns,h]
theorem fa9 (h:m.pc=9):fW w m=w∧fM w m={m with done:=true,answer:=ansK 7 0}∧fE w m={evO m 1 0 0 with done:=true,answer:=ansK 7 0}:=by simp [fW,fM,fE,fAns,h]
end
def FWay:Nat→Wd→Mach→Wd→Mach→Prop
 | 0,w,m,w',m'=>w'=w∧m'=m
 | n+1,w,m,w',m'=>m.done=false∧FWay n (fsW w m) (fsM w m) w' m'
theorem FWay.one {w:Wd} {m:Mach} {w':Wd} {m':Mach} (hd:m.done=false) (e1:fsW w m=w') (e2:fsM w m=m'):FWay 1 w m w' m':=⟨hd,e1.symm,e2.symm⟩
theorem FWay.trans:∀ {a b:Nat} {w:Wd} {m:Mach} {w1:Wd} {m1:Mach} {w2:Wd} {m2:Mach},FWay a w m w1 m1→FWay b w1 m1 w2 m2→FWay (a+b) w m w2 m2
 | 0,b,_,_,_,_,_,_,⟨h1,h2⟩,k=>by rw [Nat.zero_add];subst h1;subst h2;exact k
 | a+1,b,_,_,_,_,_,_,⟨hd,h⟩,k=>by rw [Nat.add_right_comm];exact⟨hd,FWay.trans h k⟩
section
variable {K:Nat} {w:Wd} {m:Mach}
theorem fsW_kept:KeptW K w (fsW w m):=by
 unfold fsW
 split
 rotate_left
 ·exact KeptW.refl w
 rename_i hgo
 obtain⟨v,gr,en,hS⟩:=suitB_iff.1 hgo.1
 obtain⟨hmV,hmG,hmE⟩:=hS.at_
 have hp:=hgo.2.1
 have G:∀ x':Group,x'.ends.length=gr.ends.length→KeptW K w (setG w m.version.toNat m.cluster.toNat v x'):=fun x' hl=>by
  refine⟨fun h=>(qWU h hS.ver.2 hS.clu.2 hl).1,fun v' hv'=>?_⟩
  rcases List.mem_or_eq_of_mem_set hv' with hv' | rfl
  ·exact⟨v',hv',rfl⟩
  ·exact⟨v,List.mem_of_getElem? hS.ver.2,rfl⟩
 rcases(by omega:m.pc=0∨m.pc=1∨m.pc=2∨m.pc=3∨m.pc=4∨m.pc=9) with h|h|h|h|h|h
 ·rw [(fa0 h).1];exact KeptW.refl w
 ·rw [(fa1 h).1,setE,hmV,hmG];exact G _ (by simp)
 ·rw [(fa2 h).1]
  split
  ·rw [setE,hmV,hmG];exact G _ (by simp)
  ·exact KeptW.refl w
 ·rw [(fa3 h).1,setE,hmV,hmG];exact G _ (by simp)
 ·rw [(fa4 h).1];exact qaO _
 ·rw [(fa9 h).1];exact KeptW.refl w
end
theorem FWay.kept {K:Nat}:∀ {k:Nat} {w:Wd} {m:Mach} {x:Wd} {m':Mach},FWay k w m x m'→BgW K w→BgW K x
 | 0,_,_,_,_,⟨h1,_⟩,hb=>by rw [h1];exact hb
 | _+1,_,_,_,_,⟨_,h⟩,hb=>FWay.kept h (fsW_kept.1 hb)
def fBeg (t:Int) (a:Ans):Mach:=⟨⟨2,⟨#[]⟩,⟨#[]⟩,⟨#[]⟩,0,0,0,⟨[],[],[]⟩⟩,t,if a.kind=1 then 0 else 9,0,a.version,if a.kind=1 then a.listen else -1,a.cluster,a.end_,0,a.slot,0,0,0,0,0,false,ans0,c60⟩
def qrC (e:EndC) (s:Int):EndC:=⟨qfB e.head s,e.next.set s.toNat (idxT e.head),e.active-1⟩
theorem qkT {e:EndC} (h:endB e=true) {l:List Int} (hf:qoA e=some l) {s:Int} (hs:0≤s∧s<e.next.length) (hn:s ∉ l) (ha:1≤e.active) :
  qoA (qrC e s)=some (s :: l)∧endB (qrC e s)=true∧qjB (qrC e s)=qjB e-1:=by
 have h4:=(qJB h).2.2.1
 have hsl:-1≤s∧s≤2147483646:=by omega
 have hp:=q9P hf hs hn (q6J (w:=e.head) hsl) (e.active-1)
 have hb:endB (qrC e s)=true:=by
  obtain⟨_,k1,k2,k3⟩:=qJB h
  unfold endB
  rw [show qoA (qrC e s)=some (s :: l) from hp]
  simp only [Bool.and_eq_true,decide_eq_true_eq,Option.isSome_some,true_and]
  refine⟨⟨?_,?_⟩,?_⟩
  ·show 1≤(e.next.set _ _).length;rw [List.length_set];exact k1
  ·show(e.next.set _ _).length≤4;rw [List.length_set];exact k2
  ·show 0≤e.active-1;omega
 refine⟨hp,hb,?_⟩
 unfold qjB
 rw [hb,h,show qoA (qrC e s)=some (s :: l) from hp,hf]
 show((((e.next.set _ _).length:Nat):Int)-_)=_
 rw [List.length_set]
 simp only [if_true,Option.getD_some,List.length_cons]
 omega
theorem qRW {e:EndC} (h:endB e=true) {l:List Int} (hf:qoA e=some l) {s:Int} (hs:0≤s) (hn:s ∉ l) (x:Int):qoA {e with next:=e.next.set s.toNat x}=some l∧endB {e with next:=e.next.set s.toNat x}=true:=by
 obtain⟨h1,h2⟩:=freeL_iff.1 hf
 have hp:qoA {e with next:=e.next.set s.toNat x}=some l:=freeL_iff.2 ⟨qEJ hs h1 hn,h2⟩
 obtain⟨_,k1,k2,k3⟩:=qJB h
 refine⟨hp,?_⟩
 unfold endB
 rw [hp]
 simp only [Bool.and_eq_true,decide_eq_true_eq,Option.isSome_some,true_and,List.length_set]
 exact⟨⟨k1,k2⟩,k3⟩
theorem qYW {w:Wd} {m:Mach} {v:Version} {gr:Group} {en:EndC} (hS:SuitP w m v gr en) (h0:m.pc=0) {l:List Int} (hf:qoA en=some l) (hn:m.slot ∉ l) (ha:1≤en.active∧en.active≤1000000000) (hl:0≤m.listen) (hla:1≤(mL w m).active∧(mL w m).active≤1000000000) :
  ∃ m',FWay 5 w m (setLis (setG w m.version.toNat m.cluster.toNat v {gr with ends:=gr.ends.set m.end_.toNat (qrC en m.slot)}) m {mL w m with active:=(mL w m).active-1}) m'∧m'.done=true∧m'.answer=⟨6,m.version,m.cluster,m.end_,m.slot,m.listen,0,c60⟩ ∧
   wdB (setLis (setG w m.version.toNat m.cluster.toNat v {gr with ends:=gr.ends.set m.end_.toNat (qrC en m.slot)}) m {mL w m with active:=(mL w m).active-1})=true:=by
 have go:∀ {w':Wd} {m':Mach},qLC w' m'=true→∀ p:Int,m'.pc=p→(0≤p∧p≤4)→0≤m'.listen→fGo w' m':=fun hs p hp hr hl=>⟨hs,.inl (by rw [hp];exact hr),fun h=>by omega⟩
 have hen:=hS.endB
 have hsl:=hS.slot
 obtain⟨a1,a2,_⟩:=qNL (go hS.suit 0 h0 (by decide) hl)
 obtain⟨b1,b2,_⟩:=fa0 (w:=w) h0
 rw [hS.mE] at b2
 have x1:=FWay.one hS.done (a1.trans b1) (a2.trans b2)
 have S1:SuitP w {m with word:=en.head,pc:=1} v gr en:=hS.mach rfl rfl rfl rfl rfl rfl rfl rfl hS.i rfl
 obtain⟨f2,e2⟩:=qRW hen hf hsl.1 hn (idxT en.head)
 have r2:=qWK hS.right hS.ver.2 hS.clu.2 hS.end_.2 (en':={en with next:=en.next.set m.slot.toNat (idxT en.head)}) e2 (by simp)
 have S2:=(S1.setEnd (en':={en with next:=en.next.set m.slot.toNat (idxT en.head)}) (by simp) r2).mach (m':={m with word:=en.head,pc:=2}) rfl rfl rfl rfl rfl rfl rfl rfl hS.i rfl
 obtain⟨c1,c2,_⟩:=qNL (go S1.suit 1 rfl (by decide) hl)
 obtain⟨d1,d2,_⟩:=fa1 (w:=w) (m:={m with word:=en.head,pc:=1}) rfl
 obtain⟨i1,i2,i3⟩:=S1.at_
 rw [setE,i1,i2,i3] at d1
 have x2:=FWay.one S1.done (c1.trans d1) (c2.trans d2)
 generalize hw2:setG w m.version.toNat m.cluster.toNat v {gr with ends:=gr.ends.set m.end_.toNat {en with next:=en.next.set m.slot.toNat (idxT en.head)}}=w2 at *
 have x2:FWay 1 w {m with word:=en.head,pc:=1} w2 {m with word:=en.head,pc:=2}:=x2
 have S2:SuitP w2 {m with word:=en.head,pc:=2} {v with groups:=v.groups.set m.cluster.toNat {gr with ends:=gr.ends.set m.end_.toNat {en with next:=en.next.set m.slot.toNat (idxT en.head)}}} {gr with ends:=gr.ends.set m.end_.toNat {en with next:=en.next.set m.slot.toNat (idxT en.head)}} {en with next:=en.next.set m.slot.toNat (idxT en.head)}:=S2
 have hm4:=(qJB hen).2.2.1
 have hslp:-1≤m.slot∧m.slot≤2147483646:=by omega
 have f3:qoA {en with next:=en.next.set m.slot.toNat (idxT en.head),head:=qfB en.head m.slot}=some (m.slot :: l):=q9P hf hsl hn (q6J hslp) en.active
 have e3:endB {en with next:=en.next.set m.slot.toNat (idxT en.head),head:=qfB en.head m.slot}=true:=by
  obtain⟨_,k1,k2,k3⟩:=qJB hen
  unfold endB
  rw [f3]
  simp only [Bool.and_eq_true,decide_eq_true_eq,Option.isSome_some,true_and,List.length_set]
  exact⟨⟨k1,k2⟩,k3⟩
 obtain⟨j1,j2,j3⟩:=S2.at_
 have r3:=qWK S2.right S2.ver.2 S2.clu.2 S2.end_.2 (en':={en with next:=en.next.set m.slot.toNat (idxT en.head),head:=qfB en.head m.slot}) e3 rfl
 have S3:=(S2.setEnd (en':={en with next:=en.next.set m.slot.toNat (idxT en.head),head:=qfB en.head m.slot}) rfl r3).mach (m':={m with word:=en.head,pc:=3}) rfl rfl rfl rfl rfl rfl rfl rfl hS.i rfl
 obtain⟨p1,p2,_⟩:=qNL (go S2.suit 2 rfl (by decide) hl)
 obtain⟨q1,q2,_⟩:=fa2 (w:=w2) (m:={m with word:=en.head,pc:=2}) rfl
 rw [setE,j1,j2,j3,if_pos rfl] at q1
 rw [j3,if_pos rfl] at q2
 have x3:=FWay.one S2.done (p1.trans q1) (p2.trans q2)
 have hw3:setG w2 m.version.toNat m.cluster.toNat {v with groups:=v.groups.set m.cluster.toNat {gr with ends:=gr.ends.set m.end_.toNat {en with next:=en.next.set m.slot.toNat (idxT en.head)}}} {gr with ends:=(gr.ends.set m.end_.toNat {en with next:=en.next.set m.slot.toNat (idxT en.head)}).set m.end_.toNat {en with next:=en.next.set m.slot.toNat (idxT en.head),head:=qfB en.head m.slot}}=setG w m.version.toNat m.cluster.toNat v {gr with ends:=gr.ends.set m.end_.toNat {en with next:=en.next.set m.slot.toNat (idxT en.head),head:=qfB en.head m.slot}}:=by
  rw [← hw2]
  show({w with versions:=(w.versions.set m.version.toNat _).set m.version.toNat {v with groups:=(v.groups.set m.cluster.toNat _).set m.cluster.toNat {gr with ends:=(gr.ends.set m.end_.toNat _).set m.end_.toNat _}}}:Wd)=_
  rw [q1A,q1A,q1A]
 have x3:FWay 1 w2 {m with word:=en.head,pc:=2} (setG w m.version.toNat m.cluster.toNat v {gr with ends:=gr.ends.set m.end_.toNat {en with next:=en.next.set m.slot.toNat (idxT en.head),head:=qfB en.head m.slot}}) {m with word:=en.head,pc:=3}:=by rw [← hw3];exact x3
 have S3:SuitP (setG w m.version.toNat m.cluster.toNat v {gr with ends:=gr.ends.set m.end_.toNat {en with next:=en.next.set m.slot.toNat (idxT en.head),head:=qfB en.head m.slot}}) {m with word:=en.head,pc:=3} {v with groups:=v.groups.set m.cluster.toNat {gr with ends:=gr.ends.set m.end_.toNat {en with next:=en.next.set m.slot.toNat (idxT en.head),head:=qfB en.head m.slot}}} {gr with ends:=gr.ends.set m.end_.toNat {en with next:=en.next.set m.slot.toNat (idxT en.head),head:=qfB en.head m.slot}} {en with next:=en.next.set m.slot.toNat (idxT en.head),head:=qfB en.head m.slot}:=by
  have:=S3
  rw [show setG w2 ({m with word:=en.head,pc:=2}:Mach).version.toNat ({m with word:=en.head,pc:=2}:Mach).cluster.toNat _ _=_ from hw3] at this
  simp only [q1A] at this
  exact this
 clear hw3 S2 r3 hw2
 obtain⟨f4,e4,_⟩:=qkT hen hf hsl hn ha.1
 generalize hw3:setG w m.version.toNat m.cluster.toNat v {gr with ends:=gr.ends.set m.end_.toNat {en with next:=en.next.set m.slot.toNat (idxT en.head),head:=qfB en.head m.slot}}=w3 at *
 obtain⟨u1,u2,_⟩:=qNL (go S3.suit 3 rfl (by decide) hl)
 obtain⟨t1,t2,_⟩:=fa3 (w:=w3) (m:={m with word:=en.head,pc:=3}) rfl
 obtain⟨n1,n2,n3⟩:=S3.at_
 rw [setE,n1,n2,n3] at t1
 rw [show wI (({en with next:=en.next.set m.slot.toNat (idxT en.head),head:=qfB en.head m.slot}:EndC).active-1)=en.active-1 from q7O (by show InR (en.active-1);unfold InR;omega)] at t1
 have x4:=FWay.one S3.done (u1.trans t1) (u2.trans t2)
 have r4:=qWK S3.right S3.ver.2 S3.clu.2 S3.end_.2 (en':=qrC en m.slot) e4 rfl
 have S4:=(S3.setEnd (en':=qrC en m.slot) rfl r4).mach (m':={m with word:=en.head,pc:=4}) rfl rfl rfl rfl rfl rfl rfl rfl hS.i rfl
 have hw4:setG w3 m.version.toNat m.cluster.toNat {v with groups:=v.groups.set m.cluster.toNat {gr with ends:=gr.ends.set m.end_.toNat {en with next:=en.next.set m.slot.toNat (idxT en.head),head:=qfB en.head m.slot}}} {gr with ends:=(gr.ends.set m.end_.toNat {en with next:=en.next.set m.slot.toNat (idxT en.head),head:=qfB en.head m.slot}).set m.end_.toNat (qrC en m.slot)}=setG w m.version.toNat m.cluster.toNat v {gr with ends:=gr.ends.set m.end_.toNat (qrC en m.slot)}:=by
  rw [← hw3]
  show({w with versions:=(w.versions.set m.version.toNat _).set m.version.toNat {v with groups:=(v.groups.set m.cluster.toNat _).set m.cluster.toNat {gr with ends:=(gr.ends.set m.end_.toNat _).set m.end_.toNat _}}}:Wd)=_
  rw [q1A,q1A,q1A]
 have x4:FWay 1 w3 {m with word:=en.head,pc:=3} (setG w m.version.toNat m.cluster.toNat v {gr with ends:=gr.ends.set m.end_.toNat (qrC en m.slot)}) {m with word:=en.head,pc:=4}:=by rw [← hw4];exact x4
 have S4:SuitP (setG w m.version.toNat m.cluster.toNat v {gr with ends:=gr.ends.set m.end_.toNat (qrC en m.slot)}) {m with word:=en.head,pc:=4} {v with groups:=v.groups.set m.cluster.toNat {gr with ends:=gr.ends.set m.end_.toNat (qrC en m.slot)}} {gr with ends:=gr.ends.set m.end_.toNat (qrC en m.slot)} (qrC en m.slot):=by
  have:=S4
  rw [show setG w3 ({m with word:=en.head,pc:=3}:Mach).version.toNat ({m with word:=en.head,pc:=3}:Mach).cluster.toNat _ _=_ from hw4] at this
  simp only [q1A] at this
  exact this
 obtain⟨u1,u2,_⟩:=qNL (go S4.suit 4 rfl (by decide) hl)
 obtain⟨t1,t2,_⟩:=fa4 (w:=setG w m.version.toNat m.cluster.toNat v {gr with ends:=gr.ends.set m.end_.toNat (qrC en m.slot)}) (m:={m with word:=en.head,pc:=4}) rfl
 obtain⟨hx,hg⟩:=S4.lis hl
 have hmL:mL (setG w m.version.toNat m.cluster.toNat v {gr with ends:=gr.ends.set m.end_.toNat (qrC en m.slot)}) {m with word:=en.head,pc:=4}=mL w m:=rfl
 rw [hmL] at t1 hx hg
 obtain⟨g1,g2,g3⟩:=gate_all.1 hg
 have hr:=qUK S4.right hx (x':={mL w m with active:=(mL w m).active-1}) rfl (gate_all.2 ⟨g1,by show 0≤(mL w m).active-1;omega,g3⟩)
 rw [q7O (x:=(mL w m).active-1) (by unfold InR;omega)] at t1
 have x5:=FWay.one S4.done (u1.trans t1) (u2.trans t2)
 exact⟨_,(((x1.trans x2).trans x3).trans x4).trans x5,rfl,rfl,hr⟩
theorem qZV {w:Wd} {m:Mach} (hs:qLC w m=true) (h9:m.pc=9):∃ m',FWay 1 w m w m'∧m'.done=true∧m'.answer=ansK 7 0:=by
 obtain⟨_,_,_,hS⟩:=suitB_iff.1 hs
 obtain⟨a1,a2,_⟩:=qNL (w:=w) (m:=m) ⟨hs,.inr h9,by omega⟩
 obtain⟨b1,b2,_⟩:=fa9 (w:=w) h9
 exact⟨_,FWay.one hS.done (a1.trans b1) (a2.trans b2),rfl,rfl⟩
/- qGB laws of requests: what an answer is;what a routed request holds,and its end. -/
structure HZ (m:Mach):Prop where
 z:m.answer.kind≠1→m.answer=ansK m.answer.kind 0
 l:4≤m.pc→m.pc≤12→0≤m.listen
 r:m.answer.kind=1→0≤m.answer.listen
theorem HZ.ends {m:Mach} (k:Int) (hk:k≠1):HZ (qDJ m k):=⟨fun _=>rfl,fun _ h=>absurd h (show ¬ (20:Int)≤12 by decide),fun h=>absurd h hk⟩
theorem HZ.move {m m':Mach} (h:HZ m) (ha:m'.answer=m.answer) (hl:4≤m'.pc→m'.pc≤12→0≤m'.listen):HZ m' :=
 ⟨by rw [ha];exact h.z,hl,by rw [ha];exact h.r⟩
theorem HZ.step {w:Wd} {m:Mach} (h:HZ m):HZ (hsM w m):=by
 unfold hsM
 split
 rotate_left
 ·exact h
 rename_i hgo
 have hp:=hgo.2.1
 split
 ·unfold pinM
  split
  ·split
   ·exact h.move rfl fun h4=>absurd h4 (show ¬ (4:Int)≤1 by decide)
   ·split
    ·exact h.move rfl fun h4=>absurd h4 (show ¬ (4:Int)≤2 by decide)
    ·split
     ·refine h.move rfl fun h4=>?_
      have h4:4≤(if w.epoch=m.epoch then (3:Int) else 1):=h4
      split at h4<;>omega
     ·exact h
  ·exact h
 rcases(by omega:m.pc=3∨m.pc=4∨m.pc=5∨m.pc=6∨m.pc=7∨m.pc=8∨m.pc=9∨m.pc=10∨m.pc=11∨m.pc=12∨m.pc=20∨m.pc=21∨m.pc=22∨m.pc=23) with k|k|k|k|k|k|k|k|k|k|k|k|k|k
 ·rw [(ha3 k).2.1]
  unfold hM3
  split
  ·exact HZ.ends 2 (by decide)
  ·rename_i hl
   exact h.move rfl fun _ _=>by show 0≤quA w.listens m.op.listen;omega
 ·rw [(ha4 k).2.1];exact h.move rfl fun _ _=>h.l (by omega) (by omega)
 ·rw [(ha5 k).2.1]
  have hl:=h.l (by omega) (by omega)
  unfold hM5
  split
  ·exact HZ.ends 5 (by decide)
  ·unfold q4E
   split
   ·exact HZ.ends 2 (by decide)
   ·split
    ·exact HZ.ends 3 (by decide)
    ·split
     ·exact h.move rfl fun _ _=>hl
     ·exact h.move rfl fun _ _=>hl
 ·rw [(ha6 k).2.1];exact h.move rfl fun _ _=>h.l (by omega) (by omega)
 ·rw [(ha7 k).2.1];exact h.move rfl fun _ _=>h.l (by omega) (by omega)
 ·rw [(ha8 k).2.1];exact h.move rfl fun _ _=>h.l (by omega) (by omega)
 ·rw [(ha9 k).2.1]
  have hl:=h.l (by omega) (by omega)
  unfold hM9
  split
  ·exact h.move rfl fun _ _=>hl
  ·exact HZ.ends 4 (by decide)
 ·rw [(ha10 k).2.1];exact h.move rfl fun _ _=>h.l (by omega) (by omega)
 ·rw [(ha11 k).2.1];exact h.move rfl fun _ _=>h.l (by omega) (by omega)
 ·rw [(ha12 k).2.1]
  exact⟨fun hn=>absurd rfl hn,fun _ h12=>absurd h12 (show ¬ (20:Int)≤12 by decide),fun _=>h.l (by omega) (by omega)⟩
 ·rw [(ha20 k).2.1];exact h.move rfl fun _ h12=>absurd h12 (show ¬ (21:Int)≤12 by decide)
 ·rw [(ha21 k).2.1]
  refine h.move rfl fun _ h12=>?_
  have h12:(if m.answer.kind=1∨m.listen<0 then (23:Int) else 22)≤12:=h12
  split at h12<;>omega
 ·rw [(ha22 k).2.1];exact h.move rfl fun _ h12=>absurd h12 (show ¬ (23:Int)≤12 by decide)
 ·rw [(ha23 k).2.1];exact h.move rfl fun _ h12=>absurd (show m.pc≤12 from h12) (by omega)
theorem HWay.z:∀ {k:Nat} {w:Wd} {m:Mach} {x:Wd} {m':Mach},HWay k w m x m'→HZ m→HZ m'
 | 0,_,_,_,_,⟨_,h2⟩,h=>by rw [h2];exact h
 | _+1,_,_,_,_,⟨_,k⟩,h=>HWay.z k h.step
theorem HZ.req (o:OpD) (t:Int):HZ (mReq o t):=⟨fun _=>rfl,fun h=>absurd h (show ¬ (4:Int)≤0 by decide),fun h=>absurd h (show ¬ (0:Int)=1 by decide)⟩
structure HoldA (w:Wd) (a:Ans) (v:Version) (gr:Group) (en:EndC) (l:List Int) (L:Listen):Prop where
 ver:0≤a.version∧w.versions[a.version.toNat]?=some v
 clu:0≤a.cluster∧v.groups[a.cluster.toNat]?=some gr
 end_:0≤a.end_∧gr.ends[a.end_.toNat]? = some en
 slot:0≤a.slot∧a.slot<en.next.length
 free:qoA en=some l
 out:a.slot ∉ l
 lis:0≤a.listen∧w.listens[a.listen.toNat]?=some L
/- qGB laws of requests: the slots that are held,and the gauges,along several requests and their ends. -/
def endO (w:Wd) (i j k:Nat):Option EndC:=(w.versions[i]?).bind fun v=>(v.groups[j]?).bind fun g=>g.ends[k]?
theorem qOU {w:Wd} {i j k:Nat} {v:Version} {gr:Group} {en:EndC} (hv:w.versions[i]?=some v) (hg:v.groups[j]?=some gr) (he:gr.ends[k]?=some en):endO w i j k=some en:=by
 unfold endO;rw [hv];show(v.groups[j]?).bind _=_;rw [hg];exact he
theorem qtK {w:Wd} {i j k:Nat} {en:EndC} (h:endO w i j k=some en):∃ v gr,w.versions[i]?=some v∧v.groups[j]?=some gr∧gr.ends[k]?=some en:=by
 unfold endO at h
 obtain⟨v,hv,h⟩:=Option.bind_eq_some_iff.1 h
 obtain⟨gr,hg,h⟩:=Option.bind_eq_some_iff.1 h
 exact⟨v,gr,hv,hg,h⟩
theorem q7R {w w':Wd} {i j:Nat} {v:Version} {gr g':Group} (hv:w.versions[i]?=some v) (hg:v.groups[j]?=some gr) (hx:w'.versions=w.versions.set i {v with groups:=v.groups.set j g'}) (i' j' k':Nat) :
  endO w' i' j' k' = if i' = i∧j' = j then g'.ends[k']? else endO w i' j' k':=by
 unfold endO
 rw [hx]
 by_cases hi:i'=i
 ·subst hi
  rw [qUA hv,hv]
  show((v.groups.set j g')[j']?).bind _=_
  by_cases hj:j'=j
  ·subst hj
   rw [qUA hg,if_pos ⟨rfl,rfl⟩];rfl
  ·rw [List.getElem?_set_ne (fun h=>hj h.symm),if_neg (fun h=>hj h.2)];rfl
 ·rw [List.getElem?_set_ne (fun h=>hi h.symm),if_neg (fun h=>hi h.1)]
theorem qNU {w w':Wd} {i j:Nat} {v:Version} {gr g':Group} (hv:w.versions[i]?=some v) (hg:v.groups[j]?=some gr) (hx:w'.versions=w.versions.set i {v with groups:=v.groups.set j g'}) (hge:g'.ends=gr.ends) (i' j' k':Nat):endO w' i' j' k'=endO w i' j' k':=by
 rw [q7R hv hg hx]
 split
 ·rename_i h
  rw [h.1,h.2,hge];unfold endO;rw [hv];show _=(v.groups[j]?).bind _;rw [hg];rfl
 ·rfl
theorem q8R {w w':Wd} {i j k:Nat} {v:Version} {gr g':Group} {en en':EndC} (hv:w.versions[i]?=some v) (hg:v.groups[j]?=some gr) (he:gr.ends[k]?=some en) (hx:w'.versions=w.versions.set i {v with groups:=v.groups.set j g'}) (hge:g'.ends=gr.ends.set k en') (i' j' k':Nat) :
  endO w' i' j' k' = if i' = i∧j' = j∧k' = k then some en' else endO w i' j' k':=by
 rw [q7R hv hg hx]
 by_cases h:i'=i∧j'=j
 ·rw [if_pos h,hge]
  by_cases hk:k'=k
  ·subst hk
   rw [if_pos ⟨h.1,h.2,rfl⟩,qUA he]
  ·rw [if_neg (fun x=>hk x.2.2),List.getElem?_set_ne (fun x=>hk x.symm),h.1,h.2]
   unfold endO;rw [hv];show _=(v.groups[j]?).bind _;rw [hg];rfl
 ·rw [if_neg h,if_neg (fun x=>h ⟨x.1,x.2.1⟩)]
def lis0:Listen:=⟨⟨#[]⟩,false,0,false⟩
def addL (l:List Listen) (i:Int) (s:Int):List Listen:=l.set i.toNat {(l[i.toNat]?).getD lis0 with active:=((l[i.toNat]?).getD lis0).active+s}
theorem qfC {l:List Listen} {i s:Int} {x:Listen} (h:l[i.toNat]?=some x):addL l i s=l.set i.toNat {x with active:=x.active+s}:=by
 unfold addL;rw [h];rfl
theorem qiG {l:List Listen} {i s:Int} {x:Listen} (h:l[i.toNat]?=some x) (k:Nat):(addL l i s)[k]?=if k=i.toNat then some {x with active:=x.active+s} else l[k]?:=by
 rw [qfC h]
 by_cases hk:k=i.toNat
 ·rw [if_pos hk,hk,qUA h]
 ·rw [if_neg hk,List.getElem?_set_ne (fun e=>hk e.symm)]
theorem q2O (l:List Listen) (i s:Int):(addL l i s).length=l.length:=by unfold addL;rw [List.length_set]
theorem qwH {l:List Listen} {i s:Int} (h:l.length≤i.toNat):addL l i s=l:=by unfold addL;exact List.set_eq_of_length_le h
theorem qcU (l:List Listen) (i j s t:Int):addL (addL l i s) j t=addL (addL l j t) i s:=by
 by_cases hi:l.length≤i.toNat
 ·rw [qwH hi,qwH (l:=addL l j t) (by rw [q2O];exact hi)]
 by_cases hj:l.length≤j.toNat
 ·rw [qwH (l:=l) (i:=j) hj,qwH (l:=addL l i s) (by rw [q2O];exact hj)]
 obtain⟨x,hx⟩:=qCA (l:=l) (i:=i.toNat) (by omega)
 obtain⟨y,hy⟩:=qCA (l:=l) (i:=j.toNat) (by omega)
 by_cases h:i.toNat=j.toNat
 ·have hxy:x=y:=by rw [h] at hx;exact Option.some.inj (hx.symm.trans hy)
  subst hxy
  have e1:(addL l i s)[j.toNat]?=some {x with active:=x.active+s}:=by rw [qiG hx,if_pos h.symm]
  have e2:(addL l j t)[i.toNat]?=some {x with active:=x.active+t}:=by rw [qiG hy,if_pos h]
  rw [qfC e1,qfC e2,qfC hx,qfC hy,h,q1A,q1A]
  congr 2
  show x.active+s+t=x.active+t+s
  omega
 ·have e1:(addL l i s)[j.toNat]?=some y:=by rw [qiG hx,if_neg (fun e=>h e.symm)];exact hy
  have e2:(addL l j t)[i.toNat]?=some x:=by rw [qiG hy,if_neg h];exact hx
  rw [qfC e1,qfC e2,qfC hx,qfC hy]
  exact List.set_comm _ _ h
theorem qFS (l:List Listen) (i:Int):addL (addL l i 1) i (-1)=l:=by
 by_cases hi:l.length≤i.toNat
 ·rw [qwH hi,qwH hi]
 obtain⟨x,hx⟩:=qCA (l:=l) (i:=i.toNat) (by omega)
 have e1:(addL l i 1)[i.toNat]?=some {x with active:=x.active+1}:=by rw [qiG hx,if_pos rfl]
 rw [qfC e1,qfC hx,q1A]
 have:({x with active:=x.active+1+-1}:Listen)=x:=by cases x;simp;omega
 show l.set i.toNat {x with active:=x.active+1+-1}=l
 rw [this]
 exact qhJ hx
def updL (l:List Listen) (a:Ans) (s:Int):List Listen:=if a.kind=1 then addL l a.listen s else l
theorem qRT (l:List Listen) (a b:Ans) (s t:Int):updL (updL l a s) b t=updL (updL l b t) a s:=by
 unfold updL
 split<;>split<;>first|rfl|exact qcU ..
theorem qQL (l:List Listen) (a:Ans):updL (updL l a 1) a (-1)=l:=by
 unfold updL
 split
 ·exact qFS ..
 ·rfl
theorem qjU (l:List Listen) (a:Ans) (s:Int):(updL l a s).length=l.length:=by
 unfold updL;split;exact q2O ..;rfl
def samE (a b:Ans):Bool:=decide (a.version=b.version)&&decide (a.cluster=b.cluster)&&decide (a.end_=b.end_)
theorem samE_iff {a b:Ans}:samE a b=true↔a.version=b.version∧a.cluster=b.cluster∧a.end_=b.end_:=by
 unfold samE;simp only [Bool.and_eq_true,decide_eq_true_eq,and_assoc]
abbrev cntE (A:List Ans) (a:Ans):Int:=(A.countP (samE a):Nat)
abbrev cntL (A:List Ans) (a:Ans):Int:=(A.countP (fun b=>decide (a.listen=b.listen)):Nat)
theorem qJH {a b:Ans} (h:samE a b=true):samE b a=true:=by rw [samE_iff] at h ⊢;exact⟨h.1.symm,h.2.1.symm,h.2.2.symm⟩
theorem qSU {A:List Ans} {a b:Ans} (h:samE a b=true):cntE A a=cntE A b:=by
 have:samE a=samE b:=by
  funext c
  rw [samE_iff] at h
  unfold samE
  rw [h.1,h.2.1,h.2.2]
 unfold cntE;rw [this]
theorem qRU {A:List Ans} {a b:Ans} (h:a.listen=b.listen):cntL A a=cntL A b:=by unfold cntL;rw [h]
structure Held1 (w:Wd) (A:List Ans) (a:Ans) (en:EndC) (l:List Int) (L:Listen):Prop where
 pos:0≤a.version∧0≤a.cluster∧0≤a.end_∧0≤a.listen
 end_:endO w a.version.toNat a.cluster.toNat a.end_.toNat = some en
 free:qoA en=some l
 slot:0≤a.slot∧a.slot<en.next.length
 out:a.slot ∉ l
 lis:w.listens[a.listen.toNat]?=some L
 cE:cntE A a≤en.active
 cL:cntL A a≤L.active
structure HoldI (B:Int) (w:Wd) (A:List Ans):Prop where
 right:wdB w=true
 each:∀ a∈A,∃ en l L,Held1 w A a en l L
 diff:A.Pairwise fun a b=>¬ (samE a b=true∧a.slot=b.slot)
 la:∀ x∈w.listens,x.active≤B
 ea:∀ i j k en,endO w i j k=some en→en.active≤B
theorem HoldI.swap {B:Int} {w:Wd} {a b:Ans} {A:List Ans} (h:HoldI B w (a :: b :: A)):HoldI B w (b :: a :: A):=by
 have hp:(a :: b :: A).Perm (b :: a :: A):=List.Perm.swap ..
 refine⟨h.right,fun c hc=>?_,?_,h.la,h.ea⟩
 ·obtain⟨en,l,L,k⟩:=h.each c (hp.mem_iff.2 hc)
  exact⟨en,l,L,{k with cE:=by have:=k.cE;unfold cntE at this ⊢;rw [← hp.countP_eq];exact this,cL:=by have:=k.cL;unfold cntL at this ⊢;rw [← hp.countP_eq];exact this}⟩
 ·refine(hp.pairwise_iff ?_).1 h.diff
  exact fun hx hy=>hx ⟨qJH hy.1,hy.2.symm⟩
theorem qhC {a b:Int} (ha:0≤a) (hb:0≤b):a.toNat=b.toNat↔a=b:=by omega
theorem HoldI.back {B:Int} {w y:Wd} {a:Ans} {A:List Ans} (h:HoldI B w (a :: A)) {en:EndC} {l:List Int} {L:Listen} (k:Held1 w (a :: A) a en l L) (hr:wdB y=true)
  (hE:∀ i' j' k',endO y i' j' k'=if i'=a.version.toNat∧j'=a.cluster.toNat∧k'=a.end_.toNat then some (qrC en a.slot) else endO w i' j' k') (hL:y.listens=addL w.listens a.listen (-1)) (hf:qoA (qrC en a.slot)=some (a.slot :: l)):HoldI B y A:=by
 obtain⟨hd1,hd2⟩:=List.pairwise_cons.1 h.diff
 refine⟨hr,fun b hb=>?_,hd2,fun x hx=>?_,fun i j k' e he=>?_⟩
 ·obtain⟨enb,lb,Lb,kb⟩:=h.each b (List.mem_cons_of_mem _ hb)
  have hlb:∃ Lb',y.listens[b.listen.toNat]?=some Lb'∧cntL A b≤Lb'.active:=by
   rw [hL,qiG k.lis]
   by_cases hl:b.listen=a.listen
   ·have e1:L=Lb:=by have:=kb.lis;rw [hl,k.lis] at this;exact Option.some.inj this
    rw [if_pos (by rw [hl])]
    refine⟨_,rfl,?_⟩
    have c1:=kb.cL
    have:cntL (a :: A) b=cntL A b+1:=by unfold cntL;rw [List.countP_cons_of_pos (by simp [hl])];rfl
    show cntL A b≤L.active+-1
    rw [e1];omega
   ·rw [if_neg (by have:=qhC kb.pos.2.2.2 k.pos.2.2.2;omega)]
    refine⟨Lb,kb.lis,?_⟩
    have c1:=kb.cL
    have:cntL (a :: A) b=cntL A b:=by unfold cntL;rw [List.countP_cons_of_neg (by simp [hl])]
    omega
  obtain⟨Lb',hlb1,hlb2⟩:=hlb
  by_cases hs:samE a b=true
  ·obtain⟨s1,s2,s3⟩:=samE_iff.1 hs
   have e1:en=enb:=by have:=kb.end_;rw [← s1,← s2,← s3,k.end_] at this;exact Option.some.inj this
   subst e1
   have e2:lb=l:=Option.some.inj (kb.free.symm.trans k.free)
   subst e2
   have hne:b.slot≠a.slot:=fun e=>hd1 b hb ⟨hs,e.symm⟩
   refine⟨qrC en a.slot,a.slot :: lb,Lb',kb.pos,by rw [hE,if_pos ⟨by rw [s1],by rw [s2],by rw [s3]⟩],hf,?_,?_,hlb1,?_,hlb2⟩
   ·show 0≤b.slot∧b.slot<((en.next.set a.slot.toNat (idxT en.head)).length:Nat)
    rw [List.length_set];exact kb.slot
   ·intro hm
    rcases List.mem_cons.1 hm with hm|hm
    ·exact hne hm
    ·exact kb.out hm
   ·have c1:=kb.cE
    have:cntE (a :: A) b=cntE A b+1:=by unfold cntE;rw [List.countP_cons_of_pos (qJH hs)];rfl
    show cntE A b≤en.active-1
    omega
  ·refine⟨enb,lb,Lb',kb.pos,?_,kb.free,kb.slot,kb.out,hlb1,?_,hlb2⟩
   ·rw [hE,if_neg]
    ·exact kb.end_
    ·rintro⟨t1,t2,t3⟩
     exact hs (samE_iff.2 ⟨((qhC kb.pos.1 k.pos.1).1 t1).symm,((qhC kb.pos.2.1 k.pos.2.1).1 t2).symm,((qhC kb.pos.2.2.1 k.pos.2.2.1).1 t3).symm⟩)
   ·have c1:=kb.cE
    have:cntE (a :: A) b=cntE A b:=by unfold cntE;rw [List.countP_cons_of_neg (fun e=>hs (qJH e))]
    omega
 ·rw [hL,qfC k.lis] at hx
  have hm:=h.la L (List.mem_of_getElem? k.lis)
  rcases List.mem_or_eq_of_mem_set hx with hx|rfl
  ·exact h.la x hx
  ·show L.active+-1≤B;omega
 ·rw [hE] at he
  split at he
  ·cases he
   have:=h.ea _ _ _ _ k.end_
   show en.active-1≤B;omega
  ·exact h.ea _ _ _ _ he
theorem HoldI.take {B:Int} {w x:Wd} {a:Ans} {A:List Ans} (h:HoldI B w A) {en:EndC} {r:List Int} {L:Listen} (hr:wdB x=true) (hpos:0≤a.version∧0≤a.cluster∧0≤a.end_∧0≤a.listen)
  (he:endO w a.version.toNat a.cluster.toNat a.end_.toNat=some en) (hb:endB en=true) (hf:qoA en=some (a.slot :: r)) (hl:w.listens[a.listen.toNat]?=some L) (hL0:0≤L.active)
  (hE:∀ i' j' k',endO x i' j' k'=if i'=a.version.toNat∧j'=a.cluster.toNat∧k'=a.end_.toNat then some {popE en with active:=en.active+1} else endO w i' j' k') (hL:x.listens=addL w.listens a.listen 1) (hf':qoA ({popE en with active:=en.active+1}:EndC)=some r):HoldI (B+1) x (a :: A):=by
 have hfi:=freeL_iff.1 hf
 have hnd:=(List.nodup_cons.1 hfi.2).1
 have hsl:0≤a.slot∧a.slot<en.next.length:=qWG hfi.1 a.slot (List.mem_cons_self ..)
 have hact:=(qJB hb).2.2.2
 have hlis:∀ b:Ans,0≤b.listen→∀ Lb,w.listens[b.listen.toNat]?=some Lb→cntL A b≤Lb.active→∃ Lb',x.listens[b.listen.toNat]?=some Lb'∧cntL (a :: A) b≤Lb'.active:=fun b hb0 Lb hLb hc=>by
  rw [hL,qiG hl]
  by_cases hl':b.listen=a.listen
  ·have e1:L=Lb:=by rw [hl',hl] at hLb;exact Option.some.inj hLb
   rw [if_pos (by rw [hl'])]
   refine⟨_,rfl,?_⟩
   have:cntL (a :: A) b=cntL A b+1:=by unfold cntL;rw [List.countP_cons_of_pos (by simp [hl'])];rfl
   show cntL (a :: A) b≤L.active+1
   rw [this,e1];omega
  ·rw [if_neg (by have:=qhC hb0 hpos.2.2.2;omega)]
   refine⟨Lb,hLb,?_⟩
   have:cntL (a :: A) b=cntL A b:=by unfold cntL;rw [List.countP_cons_of_neg (by simp [hl'])]
   omega
 refine⟨hr,fun b hb=>?_,List.pairwise_cons.2 ⟨fun b hb hx=>?_,h.diff⟩,fun y hy=>?_,fun i j k' e he'=>?_⟩
 ·rcases List.mem_cons.1 hb with rfl|hb
  ·have cE0:cntE A b≤en.active:=by
    by_cases hx:∃ c∈A,samE b c=true
    ·obtain⟨c,hc,hs⟩:=hx
     obtain⟨enc,_,_,kc⟩:=h.each c hc
     obtain⟨s1,s2,s3⟩:=samE_iff.1 hs
     have:en=enc:=by have:=kc.end_;rw [← s1,← s2,← s3,he] at this;exact Option.some.inj this
     rw [qSU hs,this];exact kc.cE
    ·have:A.countP (samE b)=0:=List.countP_eq_zero.2 fun c hc hs=>hx ⟨c,hc,hs⟩
     unfold cntE;rw [this];exact hact
   have cL0:cntL A b≤L.active:=by
    by_cases hx:∃ c∈A,b.listen=c.listen
    ·obtain⟨c,hc,hs⟩:=hx
     obtain⟨_,_,Lc,kc⟩:=h.each c hc
     have:L=Lc:=by have:=kc.lis;rw [← hs,hl] at this;exact Option.some.inj this
     rw [qRU hs,this];exact kc.cL
    ·have:A.countP (fun c=>decide (b.listen=c.listen))=0:=List.countP_eq_zero.2 fun c hc hs=>hx ⟨c,hc,by simpa using hs⟩
     unfold cntL;rw [this];exact hL0
   obtain⟨L',h1,h2⟩:=hlis b hpos.2.2.2 L hl cL0
   refine⟨_,r,L',hpos,by rw [hE,if_pos ⟨rfl,rfl,rfl⟩],hf',hsl,hnd,h1,?_,h2⟩
   have:cntE (b :: A) b=cntE A b+1:=by unfold cntE;rw [List.countP_cons_of_pos (samE_iff.2 ⟨rfl,rfl,rfl⟩)];rfl
   show cntE (b :: A) b≤en.active+1
   omega
  ·obtain⟨enb,lb,Lb,kb⟩:=h.each b hb
   obtain⟨L',h1,h2⟩:=hlis b kb.pos.2.2.2 Lb kb.lis kb.cL
   by_cases hs:samE a b=true
   ·obtain⟨s1,s2,s3⟩:=samE_iff.1 hs
    have e1:en=enb:=by have:=kb.end_;rw [← s1,← s2,← s3,he] at this;exact Option.some.inj this
    subst e1
    have e2:lb=a.slot :: r:=Option.some.inj (kb.free.symm.trans hf)
    subst e2
    refine⟨_,r,L',kb.pos,by rw [hE,if_pos ⟨by rw [s1],by rw [s2],by rw [s3]⟩],hf',kb.slot,fun hm=>kb.out (List.mem_cons_of_mem _ hm),h1,?_,h2⟩
    have c1:=kb.cE
    have:cntE (a :: A) b=cntE A b+1:=by unfold cntE;rw [List.countP_cons_of_pos (qJH hs)];rfl
    show cntE (a :: A) b≤en.active+1
    omega
   ·refine⟨enb,lb,L',kb.pos,?_,kb.free,kb.slot,kb.out,h1,?_,h2⟩
    ·rw [hE,if_neg]
     ·exact kb.end_
     ·rintro⟨t1,t2,t3⟩
      exact hs (samE_iff.2 ⟨((qhC kb.pos.1 hpos.1).1 t1).symm,((qhC kb.pos.2.1 hpos.2.1).1 t2).symm,((qhC kb.pos.2.2.1 hpos.2.2.1).1 t3).symm⟩)
    ·have c1:=kb.cE
     have:cntE (a :: A) b=cntE A b:=by unfold cntE;rw [List.countP_cons_of_neg (fun e=>hs (qJH e))]
     omega
 ·obtain⟨enb,lb,Lb,kb⟩:=h.each b hb
  obtain⟨s1,s2,s3⟩:=samE_iff.1 hx.1
  have e1:en=enb:=by have:=kb.end_;rw [← s1,← s2,← s3,he] at this;exact Option.some.inj this
  subst e1
  have e2:lb=a.slot :: r:=Option.some.inj (kb.free.symm.trans hf)
  subst e2
  exact kb.out (by rw [← hx.2];exact List.mem_cons_self ..)
 ·rw [hL,qfC hl] at hy
  have hm:=h.la L (List.mem_of_getElem? hl)
  rcases List.mem_or_eq_of_mem_set hy with hy|rfl
  ·have:=h.la y hy;omega
  ·show L.active+1≤B+1;omega
 ·rw [hE] at he'
  split at he'
  ·cases he'
   have:=h.ea _ _ _ _ he
   show en.active+1≤B+1;omega
  ·have:=h.ea _ _ _ _ he';omega
/- qGB laws of requests: a request and its end,with other slots held. -/
theorem qLP {w:Wd} (h:wdB w=true) {m:Mach} (ht:0≤m.thread∧m.thread<w.pins.length) (hd:m.done=false) (e1:m.version=0) (e2:m.cluster=0) (e3:m.end_=0) (e4:m.other=0) (e5:m.slot=0) (hl:-1≤m.listen∧m.listen<w.listens.length) (hi:0≤m.i) (hk:0≤m.k):qLC w m=true:=by
 obtain⟨_,_,_,h0,h1⟩:=q6G h
 obtain⟨v,hv⟩:=qCA (l:=w.versions) (i:=0) (by omega)
 have hV:=qWC h hv
 obtain⟨gr,hg⟩:=qCA (l:=v.groups) (i:=0) (by have:=hV.groups;omega)
 obtain⟨c,_,_,g1,_,_,hall⟩:=hV.ends hg
 obtain⟨en,hen⟩:=qCA (l:=gr.ends) (i:=0) (by omega)
 have hnx:=(hall en (List.mem_of_getElem? hen)).2
 exact SuitP.suit (v:=v) (gr:=gr) (en:=en) ⟨h,ht,hd,by rw [e1];exact⟨Int.le_refl _,hv⟩,by rw [e2];exact⟨Int.le_refl _,hg⟩,by rw [e3];exact⟨Int.le_refl _,hen⟩,by rw [e4];omega,by rw [e5];omega,hl,hi,hk⟩
theorem qpU {w:Wd} (h:wdB w=true) (o:OpD) {t:Int} (ht:0≤t∧t<w.pins.length) (hl:0<w.listens.length):qLC w (mReq o t)=true :=
 qLP h ht rfl rfl rfl rfl rfl rfl ⟨(by decide:(-1:Int)≤0),by show(0:Int)<_;omega⟩ (Int.le_refl _) (Int.le_refl _)
theorem qyU {e:EndC} {x:Int} {r:List Int} (hf:qoA e=some (x :: r)) (h4:e.next.length≤4) (a:Int):qoA ({popE e with active:=a}:EndC)=some r:=by
 rcases q9J hf with ⟨h,_⟩|⟨x',r',hq,hx,hrg,_⟩
 ·cases h
 ·cases hq
  have hn:=qAQ hf
  have hn2:-1≤nxtL e.next x∧nxtL e.next x≤2147483646:=by omega
  unfold popE
  rw [hx]
  exact q4R hf (q6J hn2) a
theorem qQV {w:Wd} (h:wdB w=true) {i:Nat} {x:Listen} (hx:w.listens[i]?=some x):0≤x.active:=by
 obtain⟨_,_,_,_,_,h7⟩:=qaL h
 rw [allI_iff] at h7
 have:=h7 _ _ hx
 unfold qGC at this
 simp only [Bool.and_eq_true] at this
 exact(gate_all.1 this.1).2.1
theorem HoldI.eaM {B:Int} {w:Wd} {A:List Ans} (h:HoldI B w A):∀ v∈w.versions,∀ g∈v.groups,∀ e∈g.ends,e.active≤B:=fun v hv g hg e he=>by
 obtain⟨i,hi,rfl⟩:=List.mem_iff_getElem.1 hv
 obtain⟨j,hj,rfl⟩:=List.mem_iff_getElem.1 hg
 obtain⟨k,hk,rfl⟩:=List.mem_iff_getElem.1 he
 exact h.ea i j k _ (qOU (List.getElem?_eq_getElem hi) (List.getElem?_eq_getElem hj) (List.getElem?_eq_getElem hk))
theorem HoldI.nil {B:Int} {w:Wd} (h:wdB w=true) (hl:∀ x∈w.listens,x.active≤B) (he:∀ v∈w.versions,∀ g∈v.groups,∀ e∈g.ends,e.active≤B):HoldI B w [] :=
 ⟨h,fun _ ha=>(by cases ha),List.Pairwise.nil,hl,fun i j k en hen=>by
  obtain⟨v,gr,hv,hg,hk⟩:=qtK hen
  exact he v (List.mem_of_getElem? hv) gr (List.mem_of_getElem? hg) en (List.mem_of_getElem? hk)⟩
abbrev addA (a:Ans) (A:List Ans):List Ans:=if a.kind=1 then a :: A else A
structure Routed (B:Int) (w:Wd) (A:List Ans) (x:Wd) (a:Ans):Prop where
 kind:1≤a.kind∧a.kind≤5
 none:a.kind≠1→a=ansK a.kind 0
 hold:HoldI (B+1) x (addA a A)
 held:qSB x=qSB w+if a.kind=1 then 1 else 0
 lis:x.listens=updL w.listens a 1
 pins:x.pins.length=w.pins.length
 got:a.kind=1→a.n=0∧a.counts=c60∧∃ en r,endO w a.version.toNat a.cluster.toNat a.end_.toNat=some en∧qoA en=some (a.slot :: r)∧endO x a.version.toNat a.cluster.toNat a.end_.toNat=some {popE en with active:=en.active+1}∧qoA ({popE en with active:=en.active+1}:EndC)=some r
theorem HoldI.route {B:Int} {w:Wd} {A:List Ans} (h:HoldI B w A) (hB:0≤B∧B≤1500000) {o:OpD} {t:Int} (hs:qLC w (mReq o t)=true) :
  ∃ k x n,k≤16∧HWay k w (mReq o t) x n∧n.done=true∧Routed B w A x n.answer:=by
 have hI:=qRM (n:=B) hs rfl h.la h.eaM
 obtain⟨k,x,m',w1,m1,hk,hway,hmid,hkind,hend⟩:=hI.whole (by omega)
 have hz:=hway.z (HZ.req o t)
 have hans:=hend.answer
 have hp:=qKN hmid hend
 obtain⟨hl1,hl2⟩:=q4O hmid hend
 have hheld:qSB x=qSB w+if m'.answer.kind=1 then 1 else 0:=by
  rw [hans,← qqK hmid hs];unfold qSB;rw [hend.versions]
 refine⟨k,x,m',hk,hway,hend.done,?_⟩
 have hkd:1≤m'.answer.kind∧m'.answer.kind≤5:=by rw [hans];exact hkind
 have hpl:x.pins.length=w.pins.length:=by rw [hp,List.length_set]
 by_cases hk1:m'.answer.kind=1
 ·have hk1':m1.answer.kind=1:=by rw [← hans];exact hk1
  rcases hmid.out with ⟨hk',_⟩|⟨v,c,ck,gr,gr',en,hP,hen,⟨hk',_⟩|⟨ha,⟨r,hf⟩,hv⟩⟩
  ·omega
  ·omega
  rw [ha] at hans
  have hge:gr'.ends=gr.ends:=by rcases hP.pick with ⟨_,_,rfl⟩|⟨_,_,rfl⟩<;>rfl
  have hc0:=(q6G h.right).choose_spec.2.2.1
  have hl0:0≤m1.listen:=by have:=hz.r hk1;rw [hans] at this;exact this
  have hb:endB en=true:=by
   obtain⟨_,_,_,h3⟩:=(qWC h.right hP.ver).grp _ _ hP.grp
   exact(h3 en (List.mem_of_getElem? hen.2)).1
  obtain⟨y,hy,hly⟩:∃ y,w.listens[m1.listen.toNat]?=some y∧w1.listens=w.listens.set m1.listen.toNat {y with active:=y.active+1}:=by
   rcases hmid.lis with ⟨h1,_⟩|⟨y,_,h2,h3⟩
   ·omega
   ·exact⟨y,h2,h3⟩
  have hxl:x.listens=addL w.listens m1.listen 1:=by
   rw [qfC hy]
   rcases hend.lis with ⟨_,k2⟩|⟨k1,_⟩
   ·rw [k2,hly]
   ·exact absurd (.inl hk1') k1
  have hE:=q8R (w':=x) (g':={gr' with ends:=gr'.ends.set m1.end_.toNat {popE en with active:=en.active+1}}) hP.ver hP.grp hen.2 (by rw [hend.versions,hv]) (by show gr'.ends.set _ _=_;rw [hge])
  have hf':=qyU hf (qJB hb).2.2.1 (en.active+1)
  have hEw:=qOU hP.ver hP.grp hen.2
  have hgot:m'.answer.kind=1→m'.answer.n=0∧m'.answer.counts=c60∧∃ en r,endO w m'.answer.version.toNat m'.answer.cluster.toNat m'.answer.end_.toNat=some en∧qoA en=some (m'.answer.slot :: r)∧endO x m'.answer.version.toNat m'.answer.cluster.toNat m'.answer.end_.toNat=some {popE en with active:=en.active+1}∧qoA ({popE en with active:=en.active+1}:EndC)=some r:=fun _=>by
   rw [hans]
   exact⟨rfl,rfl,en,r,hEw,hf,by rw [hE,if_pos ⟨rfl,rfl,rfl⟩],hf'⟩
  refine⟨hkd,fun hn=>absurd hk1 hn,?_,hheld,?_,hpl,hgot⟩
  ·rw [addA,if_pos hk1,hans]
   exact h.take hend.right ⟨hc0,hP.c0,hen.1,hl0⟩ hEw hb hf hy (qQV h.right hy) hE hxl hf'
  ·rw [updL,if_pos hk1,hans];exact hxl
 ·have hk1':m1.answer.kind≠1:=by rw [← hans];exact hk1
  have hxl:=hl2 hk1'
  have hE:∀ i j k,endO x i j k=endO w i j k:=by
   rcases hmid.out with ⟨_,hv⟩|⟨v,c,ck,gr,gr',en,hP,hen,⟨_,_,hv⟩|⟨ha,_⟩⟩
   ·intro i j k;unfold endO;rw [hend.versions,hv]
   ·have hge:gr'.ends=gr.ends:=by rcases hP.pick with ⟨_,_,rfl⟩|⟨_,_,rfl⟩<;>rfl
    exact qNU hP.ver hP.grp (by rw [hend.versions,hv]) hge
   ·rw [ha] at hk1';exact absurd rfl hk1'
  refine⟨hkd,hz.z,?_,hheld,by rw [updL,if_neg hk1];exact hxl,hpl,fun hn=>absurd hn hk1⟩
  rw [addA,if_neg hk1]
  refine⟨hend.right,fun a ha=>?_,h.diff,fun y hy=>?_,fun i j k e he=>?_⟩
  ·obtain⟨en,l,L,q⟩:=h.each a ha
   exact⟨en,l,L,{q with end_:=by rw [hE];exact q.end_,lis:=by rw [hxl];exact q.lis}⟩
  ·rw [hxl] at hy;have:=h.la y hy;omega
  ·rw [hE] at he;have:=h.ea i j k e he;omega
theorem HoldI.fin {B:Int} {w:Wd} {a:Ans} {A:List Ans} (h:HoldI B w (a :: A)) (hB:B≤1000000000) {t:Int} (ht:0≤t∧t<w.pins.length) (hk:a.kind=1) :
  ∃ y n,FWay 5 w (fBeg t a) y n∧n.done=true∧n.answer=⟨6,a.version,a.cluster,a.end_,a.slot,a.listen,0,c60⟩∧HoldI B y A∧qSB y=qSB w-1∧y.listens=addL w.listens a.listen (-1)∧y.pins=w.pins ∧
   ∃ en l,endO w a.version.toNat a.cluster.toNat a.end_.toNat=some en∧qoA en=some l∧endO y a.version.toNat a.cluster.toNat a.end_.toNat=some (qrC en a.slot)∧qoA (qrC en a.slot)=some (a.slot :: l):=by
 obtain⟨en,l,L,k⟩:=h.each a (List.mem_cons_self ..)
 obtain⟨v,gr,hv,hg,he⟩:=qtK k.end_
 have hki:=(List.getElem?_eq_some_iff.1 he).1
 have hli:=(List.getElem?_eq_some_iff.1 k.lis).1
 have hp:=k.pos
 have epc:(fBeg t a).pc=0:=by show(if a.kind=1 then (0:Int) else 9)=0;rw [if_pos hk]
 have eli:(fBeg t a).listen=a.listen:=by show(if a.kind=1 then a.listen else -1)=_;rw [if_pos hk]
 have hS:SuitP w (fBeg t a) v gr en:=⟨h.right,ht,rfl,⟨hp.1,hv⟩,⟨hp.2.1,hg⟩,⟨hp.2.2.1,he⟩,by show(0:Int)≤0∧(0:Int)<_;omega,k.slot,by rw [eli];omega,Int.le_refl _,Int.le_refl _⟩
 have hmL:mL w (fBeg t a)=L:=by unfold mL;rw [eli,k.lis];rfl
 have c1:1≤cntE (a :: A) a:=by unfold cntE;rw [List.countP_cons_of_pos (samE_iff.2 ⟨rfl,rfl,rfl⟩)];omega
 have c2:1≤cntL (a :: A) a:=by unfold cntL;rw [List.countP_cons_of_pos (by simp)];omega
 have b1:=h.ea _ _ _ _ k.end_
 have b2:=h.la L (List.mem_of_getElem? k.lis)
 have k1:=k.cE
 have k2:=k.cL
 obtain⟨n,hway,hd,hans,hr⟩:=qYW hS epc k.free k.out ⟨by omega,by omega⟩ (by rw [eli];exact hp.2.2.2) (by rw [hmL];omega)
 obtain⟨f1,f2,f3⟩:=qkT hS.endB k.free k.slot k.out (by omega)
 rw [eli] at hans
 have hyl:(setLis (setG w (fBeg t a).version.toNat (fBeg t a).cluster.toNat v {gr with ends:=gr.ends.set (fBeg t a).end_.toNat (qrC en (fBeg t a).slot)}) (fBeg t a) {mL w (fBeg t a) with active:=(mL w (fBeg t a)).active-1}).listens=addL w.listens a.listen (-1):=by
  show w.listens.set (fBeg t a).listen.toNat {mL w (fBeg t a) with active:=(mL w (fBeg t a)).active-1}=_
  rw [hmL,eli,qfC k.lis];rfl
 have hE:=q8R (w':=setLis (setG w (fBeg t a).version.toNat (fBeg t a).cluster.toNat v {gr with ends:=gr.ends.set (fBeg t a).end_.toNat (qrC en (fBeg t a).slot)}) (fBeg t a) {mL w (fBeg t a) with active:=(mL w (fBeg t a)).active-1}) (g':={gr with ends:=gr.ends.set a.end_.toNat (qrC en a.slot)}) hv hg he rfl rfl
 refine⟨_,n,hway,hd,hans,h.back k hr hE hyl f1,?_,hyl,rfl,en,l,k.end_,k.free,by rw [hE,if_pos ⟨rfl,rfl,rfl⟩],f1⟩
 have:=qVV hv hg he (en':=qrC en a.slot)
 show qSB {w with versions:=w.versions.set a.version.toNat {v with groups:=v.groups.set a.cluster.toNat {gr with ends:=gr.ends.set a.end_.toNat (qrC en a.slot)}}}=_
 rw [this,f3];omega
theorem qlO {w:Wd} {a:Ans} (h:wdB w=true) {t:Int} (ht:0≤t∧t<w.pins.length) (hk:a.kind≠1) (ha:a=ansK a.kind 0):∃ n,FWay 1 w (fBeg t a) w n∧n.done=true∧n.answer=ansK 7 0:=by
 have eli:(fBeg t a).listen=-1:=by show(if a.kind=1 then a.listen else -1)=_;rw [if_neg hk]
 refine qZV (qLP h ht rfl ?_ ?_ ?_ rfl ?_ (by rw [eli];omega) (Int.le_refl _) (Int.le_refl _)) (by show(if a.kind=1 then (0:Int) else 9)=9;rw [if_neg hk])
 ·show a.version=0;rw [ha];rfl
 ·show a.cluster=0;rw [ha];rfl
 ·show a.end_=0;rw [ha];rfl
 ·show a.slot=0;rw [ha];rfl
/- Law 21's example. -/
theorem qUX (l p:BA):mH l p=mReq {op0 with kind:=1,listen:=l,host:=sX,path:=p} 0:=rfl
theorem wH1_hold:HoldI 1 wH1 [ansK 1 0]:=by
 refine⟨hway1.2,fun a ha=>?_,List.pairwise_singleton _ _,fun x hx=>?_,fun i j k en he=>?_⟩
 ·have:a=ansK 1 0:=by simpa using ha
  subst this
  exact⟨⟨4294967296,[-1],1⟩,[],⟨sInW,false,1,false⟩,⟨by decide,rfl,by decide,by decide,by simp,rfl,by decide,by decide⟩⟩
 ·have:x=⟨sInW,false,1,false⟩:=by simpa [wH1,wH] using hx
  rw [this];decide
 ·obtain⟨v,gr,hv,hg,hk⟩:=qtK he
  have e1:v=⟨qaK 1 [true],[⟨1,[⟨4294967296,[-1],1⟩]⟩],false⟩:=by simpa [wH1,wH] using List.mem_of_getElem? hv
  subst e1
  have e2:gr=⟨1,[⟨4294967296,[-1],1⟩]⟩:=by simpa using List.mem_of_getElem? hg
  subst e2
  have e3:en=⟨4294967296,[-1],1⟩:=by simpa using List.mem_of_getElem? hk
  rw [e3];decide
theorem qhR:qSB wH1=1:=by decide +kernel
end Go.Proofs.YthonngjhelcpeaaGreat.Sx
