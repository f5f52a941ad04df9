/- Prefixes and suffixes of texts; patterns and paths; the document's parts, hosts, patterns and paths. -/
import Derived.Test.YthonngjhelcpeaaGreatLB1
import Derived.Test.YthonngjhelcpeaaGreatPl
set_option linter.unusedVariables false
set_option linter.unusedSimpArgs false
namespace Go.Proofs.YthonngjhelcpeaaGreat
open Go.Proofs.YthonngjhelcpeaaGreat.Sx
set_option maxHeartbeats 16000000
set_option maxRecDepth 100000
theorem qWQ (g:GW) (s p:BA):OkV Tryz.prog qwF [.string s,.string p] g (.bool (preL (bs p) (bs s))) :=
 Ok.of_fn hm noT 0 qiF (args:=[.v (.string s),.v (.string p)]) (by
  conv=>whnf
  refine⟨fun h=>?_,fun h=>?_⟩
  ·have h':=of_decide_eq_true h
   conv=>whnf
   refine⟨⟨by omega,by omega⟩,?_⟩
   conv=>whnf
   intro g2 hg
   rw [q1O]
   have e1:bs (s.extract 0 (p.size:Int).toNat)=(bs s).take (bs p).length:=by rw [qXB,qMA];simp
   have:=qMA s;have:=qMA p
   rw [decide_eq_true (show(bs p).length≤(bs s).length by omega),← e1];rfl
  ·conv=>whnf
   intro g2 hg
   have h':=of_decide_eq_false h
   have:=qMA s;have:=qMA p
   rw [q1O,decide_eq_false (show ¬ (bs p).length≤(bs s).length by omega)];rfl)
theorem q9O (g:GW) (s t:BA) (hs:s.size≤1000000000∧t.size≤1000000000):OkV Tryz.prog qvF [.string s,.string t] g (.bool (sufL (bs t) (bs s))) :=
 Ok.of_fn hm noT 0 qhF (args:=[.v (.string s),.v (.string t)]) (by
  conv=>whnf
  refine⟨fun h=>?_,fun h=>?_⟩
  ·have h':=of_decide_eq_true h
   have hw:IntKind.i64.wrap ((s.size:Int)-(t.size:Int))=((s.size-t.size:Nat):Int):=by rw [wr (by omega)];omega
   conv=>whnf
   refine⟨⟨by rw [hw];omega,by rw [hw];omega⟩,?_⟩
   conv=>whnf
   intro g2 hg
   rw [qAU]
   have:=qMA s;have:=qMA t
   have e1:bs (s.extract (IntKind.i64.wrap ((s.size:Int)-(t.size:Int))).toNat s.size)=(bs s).drop ((bs s).length-(bs t).length):=by
    rw [qXB,hw,Int.toNat_natCast,qMA s,qMA t]
    exact List.take_of_length_le (by simp)
   rw [decide_eq_true (show(bs t).length≤(bs s).length by omega),← e1];rfl
  ·conv=>whnf
   intro g2 hg
   have h':=of_decide_eq_false h
   have:=qMA s;have:=qMA t
   rw [qAU,decide_eq_false (show ¬ (bs t).length≤(bs s).length by omega)];rfl)
theorem q2L (g:GW) (s t:BA) (hs:s.size≤1000000000∧t.size≤1000000000):OkV Tryz.prog qIJ [.string s,.string t] g (.bool (sufL (bs t) (bs s))) :=
 Ok.of_fn hm noT 0 qtI (args:=[.v (.string s),.v (.string t)]) (by
  conv=>whnf
  refine .inl ⟨_,q9O _ _ _ hs,?_⟩
  conv=>whnf
  intro g2 hg
  rfl)
def cutP (s p:BA):BA:=if preL (bs p) (bs s) then s.extract p.size s.size else s
theorem qtP {s p:BA} (h:preL (bs p) (bs s)=true):bs (cutP s p)=(bs s).drop (bs p).length:=by
 unfold cutP
 rw [if_pos h,qXB,qMA s,qMA p]
 exact List.take_of_length_le (by simp)
theorem qAP (g:GW) (s p:BA):OkV Tryz.prog qxF [.string s,.string p] g (.tuple #[.string (cutP s p),.bool (preL (bs p) (bs s))]) :=
 Ok.of_fn hm noT 0 qjF (args:=[.v (.string s),.v (.string p)]) (by
  conv=>whnf
  refine .inl ⟨_,qWQ _ _ _,?_⟩
  conv=>whnf
  refine⟨fun h=>?_,fun h=>?_⟩
  ·have h':preL (bs p) (bs s)=false:=by simpa using h
   conv=>whnf
   intro g2 hg
   unfold cutP
   rw [h'];rfl
  ·have h':preL (bs p) (bs s)=true:=by simpa using h
   have hl:p.size≤s.size:=by
    rw [q1O] at h'
    simp only [Bool.and_eq_true,decide_eq_true_eq] at h'
    have:=qMA s;have:=qMA p;omega
   conv=>whnf
   refine⟨⟨by omega,by omega⟩,?_⟩
   conv=>whnf
   intro g2 hg
   unfold cutP
   rw [h'];rfl)
theorem qqE (g:GW) (s p:BA):OkV Tryz.prog qJJ [.string s,.string p] g (.tuple #[.string (cutP s p),.bool (preL (bs p) (bs s))]) :=
 Ok.of_fn hm noT 0 quI (args:=[.v (.string s),.v (.string p)]) (by
  conv=>whnf
  refine .inl ⟨_,qAP _ _ _,?_⟩
  conv=>whnf
  intro g2 hg
  rfl)
theorem qQL (g:GW) (s:BA):OkV Tryz.prog q4M [.string s] g (.bool (qPB (bs s))) :=
 Ok.of_fn hm noT 0 qbM (args:=[.v (.string s)]) (by
  conv=>whnf
  refine .inl ⟨_,qqE _ _ _,?_⟩
  conv=>whnf
  refine⟨fun h=>?_,fun h=>?_⟩
  ·have h':preL [42,46] (bs s)=true:=h
   conv=>whnf
   refine .inl ⟨_,qvR _ _,?_⟩
   conv=>whnf
   intro g2 hg
   rw [qPB,h',qtP h];rfl
  ·have h':preL [42,46] (bs s)=false:=h
   conv=>whnf
   refine⟨fun k=>?_,fun k=>?_⟩
   ·conv=>whnf
    intro g2 hg
    rw [qPB,h']
    have k':(bs s==[42])=true:=k
    rw [k'];rfl
   ·conv=>whnf
    refine .inl ⟨_,qvR _ _,?_⟩
    conv=>whnf
    intro g2 hg
    rw [qPB,h']
    have k':(bs s==[42])=false:=k
    rw [k'];rfl)
theorem quR (g:GW) (s:BA):OkV Tryz.prog qcQ [.string s] g (.bool (q3E (bs s))) :=
 Ok.of_fn hm qnX 1 q4P (args:=[.v (.string s)]) (by
  have hsz:=qMA s
  conv=>whnf
  refine⟨fun h1=>?_,fun h1=>?_⟩
  ·conv=>whnf
   refine⟨fun h2=>?_,fun h2=>?_⟩
   ·have k1:=of_decide_eq_true h1
    have k2:=of_decide_eq_true h2
    obtain⟨c0,hc0⟩:∃ c0,(bs s)[0]?=some c0:=qAA (by omega)
    have hh:(bs s).head?.any (fun c=>(c.toNat:Int)==47)=((c0.toNat:Int)==47):=by rw [List.head?_eq_getElem?,hc0];rfl
    conv=>whnf
    refine⟨c0,⟨by omega,hc0⟩,?_⟩
    conv=>whnf
    refine⟨fun h3=>?_,fun h3=>?_⟩
    ·conv=>whnf
     intro b1
     conv=>whnf
     refine⟨rfl,?_⟩
     conv=>whnf
     refine⟨rfl,?_⟩
     conv=>whnf
     intro b2
     conv=>whnf
     refine⟨Nat,fun i=>[.v (.int .i64 i)],fun _=>⟨g,[.blk 1 b2 _ [.v (.func (.func qWC) #[] #[])],.blk 0 b1 _ [.v (.func (.func qWC) #[] #[])]],_,_⟩,fun i=>i≤(bs s).length∧((bs s).take i).all (fun c=>(c.toNat:Int)==47||qfF c.toNat)=true,fun i=>(bs s).length-i,fun _ _ hw=>⟨0,rfl,⟨Nat.zero_le _,rfl⟩,hw⟩,?_⟩
     intro i hJ
     have hi:=hJ.1
     have hall:=hJ.2
     conv=>whnf
     refine⟨fun h=>?_,fun h=>?_⟩
     ·have h':i<(bs s).length:=by have:=of_decide_eq_true h;omega
      obtain⟨c,hcc,hc⟩:∃ c,(bs s)[i]=c∧(bs s)[i]?=some c:=⟨_,rfl,List.getElem?_eq_getElem h'⟩
      have hgood:∀ b,((c.toNat:Int)==47||qfF c.toNat)=b→((bs s).take (i+1)).all (fun c=>(c.toNat:Int)==47||qfF c.toNat)=b:=fun b hb=>by rw [qCC h',hall,hcc,hb];rfl
      have hw2:IntKind.i64.wrap ((i:Int)+1)=((i+1:Nat):Int):=by rw [wr (by omega)];simp
      conv=>whnf
      refine⟨c,⟨by omega,hc⟩,?_⟩
      conv=>whnf
      refine⟨fun hz=>?_,fun hz=>?_⟩
      ·conv=>whnf
       refine⟨rfl,?_⟩
       conv=>whnf
       refine⟨c,⟨by omega,hc⟩,?_⟩
       conv=>whnf
       refine⟨qmI,?_⟩
       conv=>whnf
       refine .inl ⟨_,qbS _ _,?_⟩
       conv=>whnf
       refine⟨fun hb=>?_,fun hb=>?_⟩
       ·conv=>whnf
        intro g2 hg
        simp at hz hb
        rw [q3E,qpA h' (by rw [hcc];simp [hz,hb])];simp
       ·conv=>whnf
        refine fun _ _ hw=>⟨i+1,congrArg (fun z=>[Value.int .i64 z]) hw2.symm,⟨h',hgood _ (by simp at hb;simp [hb])⟩,dec h',hw⟩
      ·conv=>whnf
       refine fun _ _ hw=>⟨i+1,congrArg (fun z=>[Value.int .i64 z]) hw2.symm,⟨h',hgood _ (by simp at hz;simp [hz])⟩,dec h',hw⟩
     ·conv=>whnf
      intro g2 hg
      have:i=(bs s).length:=by have:=of_decide_eq_false h;omega
      rw [this,List.take_length] at hall
      rw [q3E,hall,hh,h3,decide_eq_true (p:=0<(bs s).length) (by omega),decide_eq_true (p:=(bs s).length≤32) (by omega)];rfl
    ·conv=>whnf
     intro g2 hg
     simp [q3E,hh,h3]
   ·conv=>whnf
    intro g2 hg
    have:=of_decide_eq_false h2
    rw [q3E,decide_eq_false (p:=(bs s).length≤32) (by omega)];simp
  ·conv=>whnf
   intro g2 hg
   have:=of_decide_eq_false h1
   rw [q3E,decide_eq_false (p:=0<(bs s).length) (by omega)];simp)
theorem qkV (g:GW) (s:BA):OkV Tryz.prog qVJ [.string s] g (.bool (q3E (bs s))) :=
 Ok.of_fn hm noT 0 q6I (args:=[.v (.string s)]) (by
  have hsz:=qMA s
  conv=>whnf
  refine⟨fun h1=>?_,fun h1=>?_⟩
  ·conv=>whnf
   intro g2 hg
   have:=of_decide_eq_true h1
   rw [q3E,decide_eq_false (p:=0<(bs s).length) (by omega)];simp
  ·conv=>whnf
   refine⟨fun h2=>?_,fun h2=>?_⟩
   ·conv=>whnf
    intro g2 hg
    have:=of_decide_eq_true h2
    rw [q3E,decide_eq_false (p:=(bs s).length≤32) (by omega)];simp
   ·have k1:=of_decide_eq_false h1
    have k2:=of_decide_eq_false h2
    obtain⟨c0,hc0⟩:∃ c0,(bs s)[0]?=some c0:=qAA (by omega)
    have hh:(bs s).head?.any (fun c=>(c.toNat:Int)==47)=((c0.toNat:Int)==47):=by rw [List.head?_eq_getElem?,hc0];rfl
    conv=>whnf
    refine⟨c0,⟨by omega,hc0⟩,?_⟩
    conv=>whnf
    refine⟨fun h3=>?_,fun h3=>?_⟩
    ·conv=>whnf
     intro g2 hg
     simp at h3
     simp [q3E,hh,h3]
    ·have h3':((c0.toNat:Int)==47)=true:=by simpa using h3
     conv=>whnf
     refine⟨Nat,fun i=>[.v (.int .i64 i)],fun _=>⟨g,[],_,_⟩,fun i=>i≤(bs s).length∧((bs s).take i).all (fun c=>(c.toNat:Int)==47||qfF c.toNat)=true,fun i=>(bs s).length-i,fun _ _ hw=>⟨0,rfl,⟨Nat.zero_le _,rfl⟩,hw⟩,?_⟩
     intro i hJ
     have hi:=hJ.1
     have hall:=hJ.2
     conv=>whnf
     refine⟨fun h=>?_,fun h=>?_⟩
     ·have h':i<(bs s).length:=by have:=of_decide_eq_true h;omega
      obtain⟨c,hcc,hc⟩:∃ c,(bs s)[i]=c∧(bs s)[i]?=some c:=⟨_,rfl,List.getElem?_eq_getElem h'⟩
      have hgood:∀ b,((c.toNat:Int)==47||qfF c.toNat)=b→((bs s).take (i+1)).all (fun c=>(c.toNat:Int)==47||qfF c.toNat)=b:=fun b hb=>by rw [qCC h',hall,hcc,hb];rfl
      have hw2:IntKind.i64.wrap ((i:Int)+1)=((i+1:Nat):Int):=by rw [wr (by omega)];simp
      conv=>whnf
      refine⟨c,⟨by omega,hc⟩,?_⟩
      conv=>whnf
      refine .inl ⟨_,qeS _ _,?_⟩
      conv=>whnf
      refine⟨fun hz=>?_,fun hz=>?_⟩
      ·conv=>whnf
       refine⟨c,⟨by omega,hc⟩,?_⟩
       conv=>whnf
       refine⟨fun hb=>?_,fun hb=>?_⟩
       ·conv=>whnf
        intro g2 hg
        simp at hz hb
        rw [q3E,qpA h' (by rw [hcc];simp [hz,hb])];simp
       ·conv=>whnf
        refine fun _ _ hw=>⟨i+1,congrArg (fun z=>[Value.int .i64 z]) hw2.symm,⟨h',hgood _ (by simp at hb;simp [hb])⟩,dec h',hw⟩
      ·conv=>whnf
       refine fun _ _ hw=>⟨i+1,congrArg (fun z=>[Value.int .i64 z]) hw2.symm,⟨h',hgood _ (by simp at hz;simp [hz])⟩,dec h',hw⟩
     ·conv=>whnf
      intro g2 hg
      have:i=(bs s).length:=by have:=of_decide_eq_false h;omega
      rw [this,List.take_length] at hall
      rw [q3E,hall,hh,h3',decide_eq_true (p:=0<(bs s).length) (by omega),decide_eq_true (p:=(bs s).length≤32) (by omega)];rfl)
theorem qZU (g:GW) (s:BA) (b:UInt8) (hs:s.size≤1000000000):Ok Tryz.prog qEI [.string s,.int .u8 b.toNat] g fun v g'=>∃ L:List BA,L.map bs=qTB b (bs s)∧rSl 1 rStr g' v L :=
 Ok.of_fn hm noT 0 quH (args:=[.v (.string s),.v (.int .u8 b.toNat)]) (by
  have hsz:=qMA s
  repeat((conv=>whnf);first|refine qz ?_|intro(_:Nat)|intro(_:OA)_)
  conv=>whnf
  refine⟨Nat×Nat×List BA×Option Addr×Nat,fun (i,at_,L,oa,cap)=>[.row 0 oa L.length cap,.v (.int .i64 at_),.v (.int .i64 i)],fun (_,_,L,oa,cap)=>⟨g,[.row 0 oa L.length cap qQC 1 (L.map .string)],1,g.w.heap.size⟩,
   fun (i,at_,L,_,_)=>(at_≤i∧i≤(bs s).length∧L.length≤at_)∧L.map bs++qTB b ((bs s).drop at_)=qTB b (bs s)∧∀ j:Nat,at_≤j→j<i→(bs s)[j]?≠some b,fun (i,_,_,_,_)=>(bs s).length-i,?_,?_⟩
  ·intro fr w hw
   exact⟨(0,0,[],some ⟨_,0,none⟩,0),rfl,⟨⟨Nat.le_refl _,Nat.zero_le _,Nat.le_refl _⟩,rfl,fun j _ h=>by omega⟩,hw.blk_row 0 1 rfl (Nat.zero_le _)⟩
  ·rintro⟨i,at_,L,oa,cap⟩ ⟨⟨h1,h2,h3⟩,h4,h5⟩
   have hw2:i<(bs s).length→IntKind.i64.wrap ((i:Int)+1)=((i+1:Nat):Int):=fun h=>by rw [wr (by omega)];simp
   conv=>whnf
   refine⟨fun h=>?_,fun h=>?_⟩
   ·have h':i<(bs s).length:=by have:=of_decide_eq_true h;omega
    obtain⟨c,hc⟩:∃ c,(bs s)[i]?=some c:=qAA h'
    conv=>whnf
    refine⟨c,⟨by omega,hc⟩,?_⟩
    conv=>whnf
    refine⟨fun hz=>?_,fun hz=>?_⟩
    ·have hcb:c=b:=by
      simp at hz
      exact UInt8.toNat_inj.1 (by omega)
     subst hcb
     conv=>whnf
     refine⟨⟨by omega,by omega,by omega⟩,?_⟩
     repeat((conv=>whnf);first|refine qz ?_|intro(_:Nat)|intro(_:OA)_)
     conv=>whnf
     refine⟨⟨by unfold maxLen;omega,by omega⟩,fun oa2 cap2=>?_⟩
     conv=>whnf
     refine fun fr w hw=>⟨(i+1,i+1,L++[s.extract at_ i],oa2,cap2),?_,⟨⟨Nat.le_refl _,h',by simp;omega⟩,?_,fun j hj hj'=>by omega⟩,dec h',?_⟩
     ·simp [qBA,conc,qID,hw2 h']
     ·have:=qaS (b:=c) (l:=(bs s).drop at_) (k:=i-at_) (fun j hj=>by
       rw [List.getElem?_drop];exact h5 _ (by omega) (by omega)) (by rw [List.getElem?_drop,show at_+(i-at_)=i by omega];exact hc)
      rw [this] at h4
      rw [← h4]
      simp [qXB,show at_+(i-at_+1)=i+1 by omega]
     ·refine hw.fit ?_
      simp [fitL,Res.eqv]
    ·conv=>whnf
     refine fun fr w hw=>⟨(i+1,at_,L,oa,cap),?_,⟨⟨by omega,h',h3⟩,h4,fun j hj hj'=>?_⟩,dec h',hw⟩
     ·simp [qBA,conc,qID,hw2 h']
     ·rcases Nat.lt_or_ge j i with k|k
      ·exact h5 j hj k
      ·obtain rfl:j=i:=by omega
       rw [hc]
       simp at hz
       intro e
       simp at e;subst e;exact hz rfl
   ·have h':i=(bs s).length:=by have:=of_decide_eq_false h;omega
    conv=>whnf
    refine⟨⟨by omega,by omega⟩,?_⟩
    repeat((conv=>whnf);first|refine qz ?_|intro(_:Nat)|intro(_:OA)_)
    conv=>whnf
    refine⟨⟨by unfold maxLen;omega,by omega⟩,fun oa2 cap2=>?_⟩
    repeat((conv=>whnf);first|refine qz ?_|intro(_:Nat)|intro(_:OA)_)
    conv=>whnf
    refine fun g1 hg1 hnew hp=>?_
    conv=>whnf
    intro g2 hg
    refine⟨L++[s.extract at_ s.size],?_,?_⟩
    ·have:=qDO (b:=b) (l:=(bs s).drop at_) (fun j=>by
      rw [List.getElem?_drop]
      by_cases k:at_+j<i
      ·exact h5 _ (by omega) k
      ·rw [List.getElem?_eq_none (by omega)];simp)
     rw [this] at h4
     rw [← h4,List.map_append,List.map_cons,List.map_nil,qXB,List.take_of_length_le (by rw [List.length_drop,hsz];exact Nat.le_refl _)]
    ·exact(q2E hp.rd (L++[s.extract at_ s.size]) .string (by simp) fun _ _=>rfl).mono qAH hg)
theorem q8O (g:GW) (s:BA) (hs:s.size≤1000000000):OkV Tryz.prog qXJ [.string s] g (.bool (qcJ (bs s))) :=
 Ok.of_fn hm noT 0 q8I (args:=[.v (.string s)]) (by
  have hsz:=qMA s
  conv=>whnf
  refine .inr ((qZU g s 46 hs).mono fun v g1 hg1 hP=>?_)
  obtain⟨L,hL,oa,cap,rfl,h1,h2,h0,hr⟩:=hP
  have hall:((qTB 46 (bs s)).all qNC)=L.all fun p=>qNC (bs p):=by rw [← hL,List.all_map];rfl
  conv=>whnf
  refine⟨Nat,fun i=>[.v (.int .i64 i)],fun _=>⟨g1,[],_,_⟩,fun i=>i≤L.length∧(L.take i).all (fun p=>qNC (bs p))=true,fun i=>L.length-i,fun _ _ hw=>⟨0,rfl,⟨Nat.zero_le _,rfl⟩,hw⟩,?_⟩
  intro i hJ
  have hi:=hJ.1
  have hal:=hJ.2
  conv=>whnf
  refine⟨fun h=>?_,fun h=>?_⟩
  ·have h':i<L.length:=by have:=of_decide_eq_true h;omega
   obtain⟨a,ha,ec,hec,he,hc⟩:=hr i L[i] (List.getElem?_eq_getElem h')
   cases he
   have hgood:∀ b,qNC (bs L[i])=b→(L.take (i+1)).all (fun p=>qNC (bs p))=b:=fun b hb=>by rw [qCC h',hal,hb];rfl
   conv=>whnf
   refine⟨a,ha,⟨by omega,by omega⟩,?_⟩
   conv=>whnf
   refine⟨_,hc 0 _ rfl,?_⟩
   conv=>whnf
   refine .inl ⟨_,qMM _ _,?_⟩
   conv=>whnf
   refine⟨fun hb=>?_,fun hb=>?_⟩
   ·conv=>whnf
    intro g2 hg
    rw [qcJ,hall,qpA h' (by simpa using hb)];simp
   ·conv=>whnf
    refine fun _ _ hw=>⟨i+1,congrArg (fun z=>[Value.int .i64 z]) (wr1 h' h1 h2).symm,⟨h',hgood _ (by simpa using hb)⟩,dec h',hw⟩
  ·conv=>whnf
   intro g2 hg
   have:i=L.length:=by have:=of_decide_eq_false h;omega
   rw [this,List.take_length] at hal
   rw [qcJ,hall,hal,← hsz,Bool.and_true]
   exact congrArg Value.bool (decide_eq_decide.2 (by omega)))
theorem qmR (g:GW) (s:BA) (hs:s.size≤1000000000):OkV Tryz.prog qfG [.string s] g (.bool (qPB (bs s))) :=
 Ok.of_fn hm noT 0 qWG (args:=[.v (.string s)]) (by
  have hsz:=qMA s
  have tail:∀ (sl:GW),True:=fun _=>trivial
  conv=>whnf
  refine⟨fun h=>?_,fun h=>?_⟩
  ·have h2:=of_decide_eq_true h
   conv=>whnf
   refine⟨⟨by omega,by omega⟩,?_⟩
   have e1:bs (s.extract 0 (2:Int).toNat)=(bs s).take 2:=by rw [qXB];rfl
   conv=>whnf
   refine⟨fun k=>?_,fun k=>?_⟩
   ·have k':((bs s).take 2==[42,46])=true:=by rw [← e1];exact k
    conv=>whnf
    refine⟨⟨by omega,by omega⟩,?_⟩
    conv=>whnf
    refine .inl ⟨_,q8O _ _ (by have:=qXB s 2 s.size;have e:=qMA (s.extract (2:Int).toNat s.size);rw [e];simp;omega),?_⟩
    conv=>whnf
    intro g2 hg
    rw [qME,k',decide_eq_true (show 2<(bs s).length by omega)]
    have e2:bs (s.extract (2:Int).toNat s.size)=(bs s).drop 2:=by
     rw [qXB,hsz];exact List.take_of_length_le (by simp)
    rw [e2];rfl
   ·have k':((bs s).take 2==[42,46])=false:=by rw [← e1];exact k
    conv=>whnf
    refine⟨fun j=>?_,fun j=>?_⟩
    ·conv=>whnf
     intro g2 hg
     have j':(bs s==[42])=true:=j
     rw [qME,k',j'];simp
    ·have j':(bs s==[42])=false:=j
     conv=>whnf
     refine .inl ⟨_,q8O _ _ hs,?_⟩
     conv=>whnf
     intro g2 hg
     rw [qME,k',j'];simp
  ·have h2:=of_decide_eq_false h
   have k':(decide (2<(bs s).length))=false:=decide_eq_false (by omega)
   conv=>whnf
   refine⟨fun j=>?_,fun j=>?_⟩
   ·conv=>whnf
    intro g2 hg
    have j':(bs s==[42])=true:=j
    rw [qME,k',j'];simp
   ·have j':(bs s==[42])=false:=j
    conv=>whnf
    refine .inl ⟨_,q8O _ _ hs,?_⟩
    conv=>whnf
    intro g2 hg
    rw [qME,k',j'];simp)
/- Whether a configuration may be: the program's and the document's answers. -/
open Go.Proofs.YthonngjhelcpeaaGreat.Sx
theorem qyV (g:GW) {v:Value} {l:List BA} (hl:rSl 1 rStr g v l) (s:BA):OkV Tryz.prog qjD [v,.string s] g (.int .i64 (idxI (idxO (fun x=>bs s==bs x) l))) :=
 Ok.of_fn hm noT 0 qfD (args:=[.v v,.v (.string s)]) (by
  obtain⟨oa,cap,rfl,h1,h2,h0,hr⟩:=hl
  repeat((conv=>whnf);first|refine qz ?_|intro(_:Nat))
  conv=>whnf
  refine⟨Nat,fun k=>[.v (.int .i64 k)],fun k=>⟨g,[],_,_⟩,fun k=>k≤l.length∧Pass (idxF fun x=>bs s==bs x) l k,fun k=>l.length-k,qFA 0 rfl ⟨Nat.zero_le _,Pass.zero _ _⟩ rfl,?_⟩
  rintro k ⟨hk,hp⟩
  conv=>whnf
  refine⟨fun hlt=>?_,fun hlt=>?_⟩
  ·have h':k<l.length:=by have:=of_decide_eq_true hlt;omega
   obtain⟨x,hx⟩:=qAA h'
   obtain⟨a,rfl,ec,hec,rfl,hc⟩:=hr k x hx
   conv=>whnf
   refine⟨a,rfl,⟨by omega,by omega⟩,?_⟩
   conv=>whnf
   refine⟨_,hc 0 _ rfl,?_⟩
   conv=>whnf
   refine⟨fun he=>?_,fun he=>?_⟩
   ·conv=>whnf
    intro g2 hg
    rw [qBE hp hx he]
   ·conv=>whnf
    refine fun fr w hw=>⟨k+1,congrArg (fun z=>[Value.int .i64 z]) (wr1 h' h1 h2).symm,⟨h',qAE hp hx he⟩,dec h',hw⟩
  ·conv=>whnf
   intro g2 hg
   have:=of_decide_eq_false hlt
   rw [qCD hp (by omega)])
theorem qvM (g:GW) {v:Value} {l:List BA} (hl:rSl 1 rStr g v l) (s:BA):OkV Tryz.prog q7C [v,.string s] g (.bool (hasS l s)) :=
 Ok.of_fn hm noT 0 q1C (args:=[.v v,.v (.string s)]) (by
  conv=>whnf
  refine .inl ⟨_,qyV _ hl _,?_⟩
  conv=>whnf
  intro g2 hg
  rw [qXP]
  have:(fun x=>bs s==bs x)=fun x=>bs x==bs s:=by funext x;exact qEV _ _
  rw [this];rfl)
def tC:List (Nat×FnI):=[(qJB,qbA),(qcB,qgA),(qDM,qQG)]
theorem tC_ok:qdH Tryz.prog tC:=by
 intro x hx
 simp only [tC,List.mem_cons,List.not_mem_nil,or_false] at hx
 rcases hx with rfl|rfl|rfl
 ·exact⟨_,_,qFB⟩
 ·exact⟨_,_,qaB⟩
 ·exact⟨_,_,q9L⟩
theorem qgS (g:GW) {v:Value} {l:List Cluster} (hl:rSl 4 qtB g v l) (s:BA):OkV Tryz.prog qoN [v,.string s] g (.bool (hasC l s)) :=
 Ok.of_fn hm tC_ok 3 qcN (args:=[.v v,.v (.string s)]) (by
  obtain⟨oa,cap,rfl,h1,h2,h0,hr⟩:=hl
  repeat((conv=>whnf);first|refine qz ?_|intro(_:Nat))
  conv=>whnf
  refine⟨Nat,fun k=>[.v (.int .i64 k)],fun k=>⟨g,[.blk 0 _ _ [.v (.string s)]],_,_⟩,fun k=>k≤l.length∧Pass (idxF fun (x:Cluster)=>bs x.name==bs s) l k,fun k=>l.length-k,qFA 0 rfl ⟨Nat.zero_le _,Pass.zero _ _⟩ rfl,?_⟩
  rintro k ⟨hk,hp⟩
  conv=>whnf
  refine⟨fun hlt=>?_,fun hlt=>?_⟩
  ·have h':k<l.length:=by have:=of_decide_eq_true hlt;omega
   obtain⟨x,hx⟩:=qAA h'
   obtain⟨a,rfl,ec,hec,⟨hv,rfl,_,_,_,_,rfl,_⟩,hc⟩:=hr k x hx
   conv=>whnf
   refine⟨a,rfl,⟨by omega,by omega⟩,?_⟩
   conv=>whnf
   refine⟨_,⟨rfl,hc⟩,?_⟩
   conv=>whnf
   refine⟨qGM,?_⟩
   repeat((conv=>whnf);first|refine qz ?_|intro(_:Nat))
   conv=>whnf
   refine⟨fun he=>?_,fun he=>?_⟩
   ·conv=>whnf
    intro g2 hg
    have:hasC l s=true:=List.any_eq_true.2 ⟨x,List.mem_of_getElem? hx,he⟩
    rw [this];simp
   ·conv=>whnf
    refine fun fr w hw=>⟨k+1,congrArg (fun z=>[Value.int .i64 z]) (wr1 h' h1 h2).symm,⟨h',qAE hp hx he⟩,dec h',?_⟩
    exact hw.fit (by simp [fitL,Res.eqv,qBA,conc])
  ·conv=>whnf
   intro g2 hg
   have:=of_decide_eq_false hlt
   have h3:=qXP (fun (x:Cluster)=>bs x.name==bs s) l
   rw [qCD hp (by omega)] at h3
   rw [show hasC l s=false from by rw [hasC,← h3];rfl];rfl)
theorem qPQ (g:GW) (n a b:Int):OkV Tryz.prog q6M [.int .i64 n,.int .i64 a,.int .i64 b] g (.bool (decide (a≤n)&&decide (n≤b))) :=
 Ok.of_fn hm noT 0 qdM (args:=[.v (.int .i64 n),.v (.int .i64 a),.v (.int .i64 b)]) (by
  repeat'((conv=>whnf);first|apply qza|apply qzb|apply qzc|apply qzd|apply qze|intro(_:Nat)|refine .inl ⟨_,rfl,?_⟩|refine⟨fun _=>?_,fun _=>?_⟩|fail)
  all_goals (conv=>whnf)
  all_goals (intro g2 hg)
  all_goals (first|(simp_all;done)|(simp_all;omega)))
theorem qkS (g:GW) {cs:List Value} {c:Config} (hc:qrB g cs c):OkV Tryz.prog qMD [.agg ⟨cs⟩] g (eiT (qAM c)):=by
 obtain⟨a,b,d,rfl,hl,hr,hk⟩:=hc
 obtain⟨oa,ca,rfl,a1,a2,a0,hl1⟩:=id hl
 obtain⟨ob,cb,rfl,b1,b2,b0,hr1⟩:=id hr
 obtain⟨od,cd,rfl,d1,d2,d0,hk1⟩:=id hk
 exact Ok.of_fn hm noT 0 qZG (args:=[.v (.agg ⟨[.slice oa c.listens.length ca,.slice ob c.routes.length cb,.slice od c.clusters.length cd]⟩)]) (by
  repeat'((conv=>whnf);first|apply qza|apply qzb|apply qzc|apply qzd|apply qze|intro(_:Nat)|refine .inl ⟨_,qPQ _ _ _ _,?_⟩|refine⟨fun _=>?_,fun _=>?_⟩|fail)
  all_goals (conv=>whnf)
  all_goals (intro g2 hg)
  all_goals first|(rw [show qAM c=some (6,0) from if_neg (by simp_all;try omega)];rfl;done)|(rw [show qAM c=none from if_pos (by simp_all;try omega)];rfl))
theorem quM (g:GW) {cs:List Value} {c:Config} (hc:qrB g cs c):OkV Tryz.prog qXC [.agg ⟨cs⟩] g (eiT (q9B c)):=by
 obtain⟨a,b,d,rfl,hl,hr,hk⟩:=hc
 obtain⟨oa,ca,rfl,a1,a2,a0,hl1⟩:=id hl
 obtain⟨ob,cb,rfl,b1,b2,b0,hr1⟩:=id hr
 obtain⟨od,cd,rfl,d1,d2,d0,hk1⟩:=id hk
 exact Ok.of_fn hm noT 0 q1E (args:=[.v (.agg ⟨[.slice oa c.listens.length ca,.slice ob c.routes.length cb,.slice od c.clusters.length cd]⟩)]) (by
  repeat((conv=>whnf);first|refine qz ?_|intro(_:Nat))
  conv=>whnf
  refine⟨Nat,fun k=>[.v (.int .i64 k)],fun k=>⟨g,[.blk 0 _ _ [.v (.slice oa c.listens.length ca),.v (.slice ob c.routes.length cb),.v (.slice od c.clusters.length cd)]],_,_⟩,fun k=>k≤c.listens.length∧Pass (qBD c.listens) c.listens k,fun k=>c.listens.length-k,qFA 0 rfl ⟨Nat.zero_le _,Pass.zero _ _⟩ rfl,?_⟩
  rintro k ⟨hk,hp⟩
  conv=>whnf
  refine⟨fun hlt=>?_,fun hlt=>?_⟩
  ·have h':k<c.listens.length:=by have:=of_decide_eq_true hlt;omega
   obtain⟨x,hx⟩:=qAA h'
   obtain⟨a,rfl,ec,hec,rfl,hc⟩:=hl1 k x hx
   conv=>whnf
   refine⟨a,rfl,⟨by omega,by omega⟩,?_⟩
   conv=>whnf
   refine⟨_,hc 0 _ rfl,?_⟩
   repeat((conv=>whnf);first|refine qz ?_|intro(_:Nat))
   conv=>whnf
   refine .inl ⟨_,qGJ _ _,?_⟩
   conv=>whnf
   refine⟨fun hn=>?_,fun hn=>?_⟩
   ·conv=>whnf
    intro g2 hg
    rw [show q9B c=some ((3,k):EI) from hp.hit hx (by rw [qBD,if_neg (by simp [nb1 hn])])];rfl
   ·repeat((conv=>whnf);first|refine qz ?_|intro(_:Nat))
    conv=>whnf
    refine⟨⟨by omega,by omega⟩,?_⟩
    repeat((conv=>whnf);first|refine qz ?_|intro(_:Nat))
    conv=>whnf
    refine .inl ⟨_,qvM _ (hl.take (Nat.le_of_lt h')) _,?_⟩
    conv=>whnf
    refine⟨fun hs=>?_,fun hs=>?_⟩
    ·conv=>whnf
     intro g2 hg
     rw [show q9B c=some ((4,k):EI) from hp.hit hx (by rw [qBD,if_pos (nb0 hn),if_pos hs])];rfl
    ·conv=>whnf
     refine fun fr w hw=>⟨k+1,congrArg (fun z=>[Value.int .i64 z]) (wr1 h' a1 a2).symm,⟨h',hp.succ hx (by rw [qBD,if_pos (nb0 hn),if_neg (by simp [hs])])⟩,dec h',?_⟩
     exact hw.fit (by simp [fitL,Res.eqv,qBA,conc])
  ·conv=>whnf
   intro g2 hg
   have:=of_decide_eq_false hlt
   rw [show q9B c=none from hp.done (by omega)];rfl)
theorem q1L (g:GW) {cs:List Value} {c:Config} (hc:qrB g cs c):OkV Tryz.prog qHC [.agg ⟨cs⟩] g (eiT (qoB c)):=by
 obtain⟨a,b,d,rfl,hl,hr,hk⟩:=hc
 obtain⟨oa,ca,rfl,a1,a2,a0,hl1⟩:=id hl
 obtain⟨ob,cb,rfl,b1,b2,b0,hr1⟩:=id hr
 obtain⟨od,cd,rfl,d1,d2,d0,hk1⟩:=id hk
 exact Ok.of_fn hm noT 0 qgE (args:=[.v (.agg ⟨[.slice oa c.listens.length ca,.slice ob c.routes.length cb,.slice od c.clusters.length cd]⟩)]) (by
  repeat((conv=>whnf);first|refine qz ?_|intro(_:Nat))
  conv=>whnf
  refine⟨Nat,fun k=>[.v (.int .i64 k)],fun k=>⟨g,[.blk 0 _ _ [.v (.slice oa c.listens.length ca),.v (.slice ob c.routes.length cb),.v (.slice od c.clusters.length cd)]],_,_⟩,fun k=>k≤c.clusters.length∧Pass (qSA c.clusters) c.clusters k,fun k=>c.clusters.length-k,qFA 0 rfl ⟨Nat.zero_le _,Pass.zero _ _⟩ rfl,?_⟩
  rintro k ⟨hkk,hp⟩
  conv=>whnf
  refine⟨fun hlt=>?_,fun hlt=>?_⟩
  ·have h':k<c.clusters.length:=by have:=of_decide_eq_true hlt;omega
   obtain⟨x,hx⟩:=qAA h'
   obtain⟨a,rfl,ec,hec,⟨hv,rfl,_,_,_,_,rfl,_⟩,hc⟩:=hk1 k x hx
   have hit:∀ e:EI,qSA c.clusters k x=some e→qoB c=some e:=fun e he=>hp.hit hx he
   conv=>whnf
   refine⟨a,rfl,⟨by omega,by omega⟩,?_⟩
   conv=>whnf
   refine⟨_,⟨rfl,hc⟩,?_⟩
   repeat((conv=>whnf);first|refine qz ?_|intro(_:Nat))
   conv=>whnf
   refine .inl ⟨_,qGJ _ _,?_⟩
   conv=>whnf
   refine⟨fun hn=>?_,fun hn=>?_⟩
   ·conv=>whnf
    intro g2 hg
    rw [hit (3,k) (by rw [qSA,if_neg (by simp [nb1 hn])])];rfl
   have hn:=nb0 hn
   repeat((conv=>whnf);first|refine qz ?_|intro(_:Nat))
   conv=>whnf
   refine⟨⟨by omega,by omega⟩,?_⟩
   repeat((conv=>whnf);first|refine qz ?_|intro(_:Nat))
   conv=>whnf
   refine .inl ⟨_,qgS _ (hk.take (Nat.le_of_lt h')) _,?_⟩
   conv=>whnf
   refine⟨fun hs=>?_,fun hs=>?_⟩
   ·conv=>whnf
    intro g2 hg
    rw [hit (4,k) (by rw [qSA,if_pos hn,if_pos hs])];rfl
   have hp9:¬(x.policy=1∨x.policy=2)→qSA c.clusters k x=some (9,(k:Int)):=fun h=>by rw [qSA,if_pos hn,if_neg (by simp [hs]),if_neg h]
   have hp10:(x.policy=1∨x.policy=2)→¬(1≤x.slots∧x.slots≤4)→qSA c.clusters k x=some (10,(k:Int)):=fun h h2=>by rw [qSA,if_pos hn,if_neg (by simp [hs]),if_pos h,if_neg h2]
   have hp6:(x.policy=1∨x.policy=2)→(1≤x.slots∧x.slots≤4)→¬(1≤x.health.length∧x.health.length≤4)→qSA c.clusters k x=some (6,(k:Int)):=fun h h2 h3=>by rw [qSA,if_pos hn,if_neg (by simp [hs]),if_pos h,if_pos h2,if_neg h3]
   have hp0:(x.policy=1∨x.policy=2)→(1≤x.slots∧x.slots≤4)→(1≤x.health.length∧x.health.length≤4)→qSA c.clusters k x=none:=fun h h2 h3=>by rw [qSA,if_pos hn,if_neg (by simp [hs]),if_pos h,if_pos h2,if_pos h3]
   have hpn:=fun e=>hp.succ hx e
   clear hlt hp
   repeat'((conv=>whnf);first|apply qza|apply qzb|apply qzc|apply qzd|apply qze|intro(_:Nat)|refine .inl ⟨_,qPQ _ _ _ _,?_⟩|refine⟨fun _=>?_,fun _=>?_⟩|fail)
   all_goals (conv=>whnf)
   all_goals (try simp only [bne_iff_ne,ne_eq,bne_eq_false_iff_eq,Bool.not_eq_true',Bool.not_eq_false',Bool.and_eq_true,Bool.and_eq_false_iff,decide_eq_true_eq,decide_eq_false_iff_not] at *)
   all_goals first
    | (intro g2 hg;rw [hit (9,k) (hp9 (by omega))];rfl;done)
    | (intro g2 hg;rw [hit (10,k) (hp10 (by omega) (by omega))];rfl;done)
    | (intro g2 hg;rw [hit (6,k) (hp6 (by omega) (by omega) (by omega))];rfl;done)
    | refine fun fr w hw=>⟨k+1,congrArg (fun z=>[Value.int .i64 z]) (wr1 h' d1 d2).symm,⟨h',hpn (hp0 (by omega) (by omega) (by omega))⟩,dec h',?_⟩
   all_goals (exact hw.fit (by simp [fitL,Res.eqv,qBA,conc]))
  ·conv=>whnf
   intro g2 hg
   have:=of_decide_eq_false hlt
   rw [show qoB c=none from hp.done (by omega)];rfl)
/- Whether a configuration may be: the routes,and the whole. -/
open Go.Proofs.YthonngjhelcpeaaGreat.Sx
theorem qFO (g:GW) {cs:List Value} {c:Config} (hc:qrB g cs c):OkV Tryz.prog qrC [.agg ⟨cs⟩] g (eiT (qVD c)):=by
 obtain⟨a,b,d,rfl,hl,hr,hk⟩:=hc
 obtain⟨oa,ca,rfl,a1,a2,a0,hl1⟩:=id hl
 obtain⟨ob,cb,rfl,b1,b2,b0,hr1⟩:=id hr
 obtain⟨od,cd,rfl,d1,d2,d0,hk1⟩:=id hk
 exact Ok.of_fn hm noT 0 qHF (args:=[.v (.agg ⟨[.slice oa c.listens.length ca,.slice ob c.routes.length cb,.slice od c.clusters.length cd]⟩)]) (by
  repeat((conv=>whnf);first|refine qz ?_|intro(_:Nat))
  conv=>whnf
  refine⟨Nat,fun k=>[.v (.int .i64 k)],fun k=>⟨g,[.blk 0 _ _ [.v (.slice oa c.listens.length ca),.v (.slice ob c.routes.length cb),.v (.slice od c.clusters.length cd)]],_,_⟩,fun k=>k≤c.routes.length∧Pass (qTC c) c.routes k,fun k=>c.routes.length-k,qFA 0 rfl ⟨Nat.zero_le _,Pass.zero _ _⟩ rfl,?_⟩
  rintro k ⟨hkk,hp⟩
  conv=>whnf
  refine⟨fun hlt=>?_,fun hlt=>?_⟩
  ·have h':k<c.routes.length:=by have:=of_decide_eq_true hlt;omega
   obtain⟨x,hx⟩:=qAA h'
   obtain⟨a,rfl,ec,hec,rfl,hc⟩:=hr1 k x hx
   have hit:∀ e:EI,qTC c k x=some e→qVD c=some e:=fun e he=>hp.hit hx he
   conv=>whnf
   refine⟨a,rfl,⟨by omega,by omega⟩,?_⟩
   conv=>whnf
   refine⟨_,⟨rfl,hc⟩,?_⟩
   repeat((conv=>whnf);first|refine qz ?_|intro(_:Nat))
   conv=>whnf
   refine .inl ⟨_,qvM _ hl _,?_⟩
   conv=>whnf
   refine⟨fun h1=>?_,fun h1=>?_⟩
   ·conv=>whnf
    intro g2 hg
    rw [hit (5,k) (by rw [qTC,if_neg (by simp [nb1 h1])])];rfl
   have h1:=nb0 h1
   repeat((conv=>whnf);first|refine qz ?_|intro(_:Nat))
   conv=>whnf
   refine .inl ⟨_,qQL _ _,?_⟩
   conv=>whnf
   refine⟨fun h2=>?_,fun h2=>?_⟩
   ·conv=>whnf
    intro g2 hg
    rw [hit (7,k) (by rw [qTC,if_pos h1,if_neg (by simp [nb1 h2])])];rfl
   have h2:=nb0 h2
   repeat((conv=>whnf);first|refine qz ?_|intro(_:Nat))
   conv=>whnf
   refine .inl ⟨_,quR _ _,?_⟩
   conv=>whnf
   refine⟨fun h3=>?_,fun h3=>?_⟩
   ·conv=>whnf
    intro g2 hg
    rw [hit (8,k) (by rw [qTC,if_pos h1,if_pos h2,if_neg (by simp [nb1 h3])])];rfl
   have h3:=nb0 h3
   repeat((conv=>whnf);first|refine qz ?_|intro(_:Nat))
   conv=>whnf
   refine .inl ⟨_,qgS _ hk _,?_⟩
   conv=>whnf
   refine⟨fun h4=>?_,fun h4=>?_⟩
   ·conv=>whnf
    intro g2 hg
    rw [hit (5,k) (by rw [qTC,if_pos h1,if_pos h2,if_pos h3,if_neg (by simp [nb1 h4])])];rfl
   have h4:=nb0 h4
   repeat((conv=>whnf);first|refine qz ?_|intro(_:Nat))
   conv=>whnf
   refine⟨⟨by omega,by omega⟩,?_⟩
   repeat((conv=>whnf);first|refine qz ?_|intro(_:Nat))
   conv=>whnf
   refine⟨Nat,fun m=>[.v (.int .i64 m)],fun m=>⟨g,[.blk 1 _ _ [.v (.string x.listen),.v (.string x.host),.v (.string x.path),.v (.string ⟨#[]⟩)],.blk 0 _ _ [.v (.slice oa c.listens.length ca),.v (.slice (some a) c.routes.length cb),.v (.slice od c.clusters.length cd)]],_,_⟩,fun m=>m≤k∧(∀ j y,j<m→c.routes[j]?=some y→eqRt y x=false),fun m=>k-m,qFA 0 rfl ⟨Nat.zero_le _,fun j y hj=>by omega⟩ rfl,?_⟩
   rintro m ⟨hmk,hq⟩
   conv=>whnf
   refine⟨fun hml=>?_,fun hml=>?_⟩
   ·have hm':m<k:=by have:=of_decide_eq_true hml;simp at this;omega
    obtain⟨y,hy⟩:=qAA (show m<c.routes.length by omega)
    obtain⟨a',ha',ecy,hecy,rfl,hcy⟩:=hr1 m y hy
    cases ha'
    conv=>whnf
    refine⟨a,rfl,⟨by omega,by simp;omega⟩,?_⟩
    conv=>whnf
    refine⟨_,⟨rfl,hcy⟩,?_⟩
    repeat((conv=>whnf);first|refine qz ?_|intro(_:Nat))
    conv=>whnf
    refine⟨fun he=>?_,fun he=>?_⟩
    ·conv=>whnf
     intro g2 hg
     have he:eqRt y x=true:=by simpa [eqRt,Bool.and_assoc] using he
     rw [hit (4,k) (by rw [qTC,if_pos h1,if_pos h2,if_pos h3,if_pos h4,if_pos];exact List.any_eq_true.2 ⟨y,List.mem_of_getElem? (show(c.routes.take k)[m]?=some y by rw [List.getElem?_take,if_pos hm'];exact hy),he⟩)];rfl
    ·conv=>whnf
     refine fun fr w hw=>⟨m+1,congrArg (fun z=>[Value.int .i64 z]) (wr1 hm' (Nat.le_of_lt (Nat.lt_of_lt_of_le h' b1)) b2).symm,⟨hm',?_⟩,dec hm',?_⟩
     ·have he:eqRt y x=false:=by simpa [eqRt,Bool.and_assoc] using he
      intro j z hj hz
      rcases Nat.lt_or_ge j m with c1|c1
      ·exact hq j z c1 hz
      ·obtain rfl:j=m:=by omega
       rw [hy] at hz;cases hz;exact he
     ·exact hw.fit (by simp [fitL,Res.eqv,qBA,conc])
   ·conv=>whnf
    refine fun fr w hw=>⟨k+1,congrArg (fun z=>[Value.int .i64 z]) (wr1 h' b1 b2).symm,⟨h',hp.succ hx (by rw [qTC,if_pos h1,if_pos h2,if_pos h3,if_pos h4,if_neg];have:=of_decide_eq_false hml;rw [any_take.2 fun j y hj=>hq j y (by omega)];simp)⟩,dec h',?_⟩
    exact hw.fit (by simp [fitL,Res.eqv,qBA,conc])
  ·conv=>whnf
   intro g2 hg
   have:=of_decide_eq_false hlt
   rw [show qVD c=none from hp.done (by omega)];rfl)
theorem qyK (o:Option EI):(o=none∧eiT o=.tuple #[.int .i64 0,.int .i64 0])∨∃ e i,o=some (e,i)∧eiT o=.tuple #[.int .i64 e,.int .i64 i]:=by
 cases o with
 | none=>exact .inl ⟨rfl,rfl⟩
 | some x=>exact .inr ⟨x.1,x.2,rfl,rfl⟩
theorem qmS (g:GW) {cs:List Value} {c:Config} (hc:qrB g cs c):OkV Tryz.prog qpN [.agg ⟨cs⟩] g (eiT (qiA c)):=by
 have hc0:=hc
 obtain⟨a,b,d,rfl,hl,hr,hk⟩:=hc
 obtain⟨oa,ca,rfl,a1,a2,a0,hl1⟩:=id hl
 obtain⟨ob,cb,rfl,b1,b2,b0,hr1⟩:=id hr
 obtain⟨od,cd,rfl,d1,d2,d0,hk1⟩:=id hk
 exact Ok.of_fn hm noT 0 qdN (args:=[.v (.agg ⟨[.slice oa c.listens.length ca,.slice ob c.routes.length cb,.slice od c.clusters.length cd]⟩)]) (by
  repeat((conv=>whnf);first|refine qz ?_|intro(_:Nat))
  conv=>whnf
  refine⟨Nat,fun k=>[.v (.int .i64 k)],fun _=>⟨g,[.blk 2 _ _ [.fn (.func qMD) [.agg [.v (.slice oa c.listens.length ca),.v (.slice ob c.routes.length cb),.v (.slice od c.clusters.length cd)]] [],.fn (.func qXC) [.agg [.v (.slice oa c.listens.length ca),.v (.slice ob c.routes.length cb),.v (.slice od c.clusters.length cd)]] [],.fn (.func qHC) [.agg [.v (.slice oa c.listens.length ca),.v (.slice ob c.routes.length cb),.v (.slice od c.clusters.length cd)]] [],.fn (.func qrC) [.agg [.v (.slice oa c.listens.length ca),.v (.slice ob c.routes.length cb),.v (.slice od c.clusters.length cd)]] []],.blk 1 _ _ [.v (.slice oa c.listens.length ca),.v (.slice ob c.routes.length cb),.v (.slice od c.clusters.length cd)],.blk 0 _ _ [.v (.slice oa c.listens.length ca),.v (.slice ob c.routes.length cb),.v (.slice od c.clusters.length cd)]],_,_⟩,fun k=>k≤4∧(1≤k→qAM c=none)∧(2≤k→q9B c=none)∧(3≤k→qoB c=none)∧(4≤k→qVD c=none),fun k=>4-k,qFA 0 rfl ⟨by omega,by omega,by omega,by omega,by omega⟩ rfl,?_⟩
  rintro k ⟨hk4,j1,j2,j3,j4⟩
  obtain rfl|rfl|rfl|rfl|rfl:k=0∨k=1∨k=2∨k=3∨k=4:=by omega
  ·obtain⟨h0,hv⟩|⟨e,i,h0,hv⟩:=qyK (qAM c)
   ·conv=>whnf
    refine⟨fun _=>?_,fun h=>nomatch h⟩
    conv=>whnf
    refine⟨0,⟨rfl,by decide⟩,?_⟩
    repeat((conv=>whnf);first|refine qz ?_|intro(_:Nat))
    conv=>whnf
    refine⟨qOD,?_⟩
    conv=>whnf
    refine .inl ⟨_,(qkS _ hc0).to hv,?_⟩
    conv=>whnf
    refine⟨fun h=>(nomatch h),fun _=>?_⟩
    conv=>whnf
    refine fun fr w hw=>⟨1,rfl,⟨by omega,fun _=>h0,fun h=>absurd h (by omega),fun h=>absurd h (by omega),fun h=>absurd h (by omega)⟩,by decide,?_⟩
    exact hw.fit (by simp [fitL,Res.eqv,qBA,conc])
   ·have hck:qiA c=some (e,i):=by rw [qiA,h0]
    have hne:=qsD hck
    conv=>whnf
    refine⟨fun _=>?_,fun h=>nomatch h⟩
    conv=>whnf
    refine⟨0,⟨rfl,by decide⟩,?_⟩
    repeat((conv=>whnf);first|refine qz ?_|intro(_:Nat))
    conv=>whnf
    refine⟨qOD,?_⟩
    conv=>whnf
    refine .inl ⟨_,(qkS _ hc0).to hv,?_⟩
    conv=>whnf
    refine⟨fun _=>?_,fun hx=>absurd hx (by simp;omega)⟩
    conv=>whnf
    intro g2 hg
    rw [hck];rfl
  ·obtain⟨h0,hv⟩|⟨e,i,h0,hv⟩:=qyK (q9B c)
   ·conv=>whnf
    refine⟨fun _=>?_,fun h=>nomatch h⟩
    conv=>whnf
    refine⟨1,⟨rfl,by decide⟩,?_⟩
    repeat((conv=>whnf);first|refine qz ?_|intro(_:Nat))
    conv=>whnf
    refine⟨qYC,?_⟩
    conv=>whnf
    refine .inl ⟨_,(quM _ hc0).to hv,?_⟩
    conv=>whnf
    refine⟨fun h=>(nomatch h),fun _=>?_⟩
    conv=>whnf
    refine fun fr w hw=>⟨2,rfl,⟨by omega,fun _=>j1 (by omega),fun _=>h0,fun h=>absurd h (by omega),fun h=>absurd h (by omega)⟩,by decide,?_⟩
    exact hw.fit (by simp [fitL,Res.eqv,qBA,conc])
   ·have hck:qiA c=some (e,i):=by rw [qiA,j1 (by omega),h0]
    have hne:=qsD hck
    conv=>whnf
    refine⟨fun _=>?_,fun h=>nomatch h⟩
    conv=>whnf
    refine⟨1,⟨rfl,by decide⟩,?_⟩
    repeat((conv=>whnf);first|refine qz ?_|intro(_:Nat))
    conv=>whnf
    refine⟨qYC,?_⟩
    conv=>whnf
    refine .inl ⟨_,(quM _ hc0).to hv,?_⟩
    conv=>whnf
    refine⟨fun _=>?_,fun hx=>absurd hx (by simp;omega)⟩
    conv=>whnf
    intro g2 hg
    rw [hck];rfl
  ·obtain⟨h0,hv⟩|⟨e,i,h0,hv⟩:=qyK (qoB c)
   ·conv=>whnf
    refine⟨fun _=>?_,fun h=>nomatch h⟩
    conv=>whnf
    refine⟨2,⟨rfl,by decide⟩,?_⟩
    repeat((conv=>whnf);first|refine qz ?_|intro(_:Nat))
    conv=>whnf
    refine⟨qIC,?_⟩
    conv=>whnf
    refine .inl ⟨_,(q1L _ hc0).to hv,?_⟩
    conv=>whnf
    refine⟨fun h=>(nomatch h),fun _=>?_⟩
    conv=>whnf
    refine fun fr w hw=>⟨3,rfl,⟨by omega,fun _=>j1 (by omega),fun _=>j2 (by omega),fun _=>h0,fun h=>absurd h (by omega)⟩,by decide,?_⟩
    exact hw.fit (by simp [fitL,Res.eqv,qBA,conc])
   ·have hck:qiA c=some (e,i):=by rw [qiA,j1 (by omega),j2 (by omega),h0]
    have hne:=qsD hck
    conv=>whnf
    refine⟨fun _=>?_,fun h=>nomatch h⟩
    conv=>whnf
    refine⟨2,⟨rfl,by decide⟩,?_⟩
    repeat((conv=>whnf);first|refine qz ?_|intro(_:Nat))
    conv=>whnf
    refine⟨qIC,?_⟩
    conv=>whnf
    refine .inl ⟨_,(q1L _ hc0).to hv,?_⟩
    conv=>whnf
    refine⟨fun _=>?_,fun hx=>absurd hx (by simp;omega)⟩
    conv=>whnf
    intro g2 hg
    rw [hck];rfl
  ·obtain⟨h0,hv⟩|⟨e,i,h0,hv⟩:=qyK (qVD c)
   ·conv=>whnf
    refine⟨fun _=>?_,fun h=>nomatch h⟩
    conv=>whnf
    refine⟨3,⟨rfl,by decide⟩,?_⟩
    repeat((conv=>whnf);first|refine qz ?_|intro(_:Nat))
    conv=>whnf
    refine⟨qsC,?_⟩
    conv=>whnf
    refine .inl ⟨_,(qFO _ hc0).to hv,?_⟩
    conv=>whnf
    refine⟨fun h=>(nomatch h),fun _=>?_⟩
    conv=>whnf
    refine fun fr w hw=>⟨4,rfl,⟨by omega,fun _=>j1 (by omega),fun _=>j2 (by omega),fun _=>j3 (by omega),fun _=>h0⟩,by decide,?_⟩
    exact hw.fit (by simp [fitL,Res.eqv,qBA,conc])
   ·have hck:qiA c=some (e,i):=by rw [qiA,j1 (by omega),j2 (by omega),j3 (by omega),h0]
    have hne:=qsD hck
    conv=>whnf
    refine⟨fun _=>?_,fun h=>nomatch h⟩
    conv=>whnf
    refine⟨3,⟨rfl,by decide⟩,?_⟩
    repeat((conv=>whnf);first|refine qz ?_|intro(_:Nat))
    conv=>whnf
    refine⟨qsC,?_⟩
    conv=>whnf
    refine .inl ⟨_,(qFO _ hc0).to hv,?_⟩
    conv=>whnf
    refine⟨fun _=>?_,fun hx=>absurd hx (by simp;omega)⟩
    conv=>whnf
    intro g2 hg
    rw [hck];rfl
  ·conv=>whnf
   refine⟨fun h=>(nomatch h),fun _=>?_⟩
   conv=>whnf
   intro g2 hg
   rw [show qiA c=none from by rw [qiA,j1 (by omega),j2 (by omega),j3 (by omega),j4 (by omega)]];rfl)
end Go.Proofs.YthonngjhelcpeaaGreat
