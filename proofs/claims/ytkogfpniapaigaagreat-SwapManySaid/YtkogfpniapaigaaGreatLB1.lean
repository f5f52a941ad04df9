/- What all contracts lean on: the program follows the model's reading; how a contract becomes a walk. -/
import Derived.Test.YtkogfpniapaigaaGreatF
import Derived.Test.YtkogfpniapaigaaGreatPl
import Derived.WalkKit
import Derived.Lib.Walk
import Derived.Lib.Strings
import Derived.Lib.Bytealg
set_option linter.unusedVariables false
set_option linter.unusedSimpArgs false
namespace Go.Proofs.YtkogfpniapaigaaGreat
open Go.Proofs.YtkogfpniapaigaaGreat.Sx
set_option maxHeartbeats 16000000
set_option maxRecDepth 100000
theorem hm:Tryz.prog.follows .mixedOrders=true:=by kernel_rfl
theorem noT:qDG Tryz.prog []:=fun _ h=>nomatch h
theorem qtO {f:FuncId} {args:List Value} {w:World} {v:Value} (h:OkV Tryz.prog f args (allG w) v):Calls Tryz.prog f args.toArray w fun e w'=>e=.returned v∧RowKit.Below w.heap.size w w' :=
 (h w (Good.refl _)).mono fun _ _ ⟨_,he,hb,hv⟩=>⟨hv▸he,hb⟩
open Go.Proofs.YtkogfpniapaigaaGreat.Sx
theorem qtT (g:GW) (c:Int):OkV Tryz.prog qdP [.int .u8 c] g (.bool (lowB c)) :=
 Ok.of_fn hm noT 0 q3O (args:=[.v (.int .u8 c)]) (by
  repeat' ((conv=>whnf);apply And.intro<;>intro _)
  all_goals ((conv=>whnf);intro g2 hg;simp_all [lowB]<;>omega))
theorem qzR (g:GW) (c:Int):OkV Tryz.prog qkI [.int .u8 c] g (.bool (lowB c)) :=
 Ok.of_fn hm noT 0 qSI (args:=[.v (.int .u8 c)]) (by
  repeat' ((conv=>whnf);apply And.intro<;>intro _)
  all_goals ((conv=>whnf);intro g2 hg;simp_all [lowB]<;>omega))
theorem qBQ (g:GW) (c:Int):OkV Tryz.prog qtH [.int .u8 c] g (.bool (qYE c)) :=
 Ok.of_fn hm noT 0 qXH (args:=[.v (.int .u8 c)]) (by
  conv=>whnf
  refine .inl ⟨_,qzR _ _,?_⟩
  repeat' ((conv=>whnf);apply And.intro<;>intro _)
  all_goals ((conv=>whnf);intro g2 hg;simp_all [qYE]<;>omega))
theorem q8P (g:GW) (c:Int):OkV Tryz.prog q5B [.int .u8 c] g (.bool (qYE c)) :=
 Ok.of_fn hm noT 0 qcL (args:=[.v (.int .u8 c)]) (by
  conv=>whnf
  refine .inl ⟨_,qtT _ _,?_⟩
  repeat' ((conv=>whnf);apply And.intro<;>intro _)
  all_goals ((conv=>whnf);intro g2 hg;simp_all [qYE]<;>omega))
def tN:List (Nat×FnI):=[(qGO,qAK),(quF,q9C)]
theorem qEV:qDG Tryz.prog tN:=by
 intro x hx
 simp only [tN,List.mem_cons,List.not_mem_nil,or_false] at hx
 rcases hx with rfl|rfl
 ·exact⟨_,_,qfN⟩
 ·exact⟨_,_,qdF⟩
theorem qgH (g:GW) (s:ByteArray):OkV Tryz.prog qIO [.string s] g (.bool (qxB (bs s))) :=
 Ok.of_fn hm qEV 1 qhN (args:=[.v (.string s)]) (by
  conv=>whnf
  refine⟨fun h1=>?_,fun h1=>?_⟩
  ·conv=>whnf
   refine⟨fun h2=>?_,fun h2=>?_⟩
   ·have k1:=of_decide_eq_true h1
    have k2:=of_decide_eq_true h2
    rw [qdA] at k1 k2
    obtain⟨c0,hc0⟩:∃ c0,(bs s)[0]?=some c0:=⟨(bs s)[0]'(by omega),List.getElem?_eq_getElem (by omega)⟩
    have hlow:(bs s).head?.any (fun c=>lowB c.toNat)=lowB c0.toNat:=by rw [List.head?_eq_getElem?,hc0];rfl
    conv=>whnf
    refine⟨c0,⟨by omega,hc0⟩,?_⟩
    conv=>whnf
    refine .inl ⟨_,qtT _ _,?_⟩
    conv=>whnf
    refine⟨fun h3=>?_,fun h3=>?_⟩
    ·conv=>whnf
     intro b1
     conv=>whnf
     refine⟨rfl,?_⟩
     conv=>whnf
     refine⟨rfl,?_⟩
     conv=>whnf
     intro b2
     conv=>whnf
     refine⟨Nat,fun i=>[.v (.int .i64 i)],fun _=>⟨g,[.blk 1 b2 _ [.v (.func (.func q5B) #[] #[])],.blk 0 b1 _ [.v (.func (.func q5B) #[] #[])]],_,_⟩,fun i=>i≤(bs s).length∧((bs s).take i).all (fun c=>qYE c.toNat)=true,fun i=>(bs s).length-i,fun _ _ hw=>⟨0,rfl,⟨Nat.zero_le _,rfl⟩,hw⟩,?_⟩
     intro i hJ
     have hi:=hJ.1
     have hall:=hJ.2
     conv=>whnf
     refine⟨fun h=>?_,fun h=>?_⟩
     ·have h':i<(bs s).length:=by have:=of_decide_eq_true h;rw [qdA] at this;omega
      obtain⟨c,hcc,hc⟩:∃ c,(bs s)[i]=c∧(bs s)[i]?=some c:=⟨_,rfl,List.getElem?_eq_getElem h'⟩
      have hgood:∀ b,qYE c.toNat=b→((bs s).take (i+1)).all (fun c=>qYE c.toNat)=b:=fun b hb=>by rw [qrB h',hall,hcc,hb];rfl
      have hw2:IntKind.i64.wrap ((i:Int)+1)=((i+1:Nat):Int):=by rw [wr (by omega)];simp
      conv=>whnf
      refine⟨c,⟨by omega,hc⟩,?_⟩
      conv=>whnf
      refine⟨fun hz=>?_,fun hz=>?_⟩
      ·conv=>whnf
       refine⟨rfl,?_⟩
       conv=>whnf
       refine⟨c,⟨by omega,hc⟩,?_⟩
       conv=>whnf
       refine⟨qEH,?_⟩
       conv=>whnf
       refine .inl ⟨_,q8P _ _,?_⟩
       conv=>whnf
       refine⟨fun hb=>?_,fun hb=>?_⟩
       ·conv=>whnf
        intro g2 hg
        rw [qxB,qnA h' (by rw [hcc];simpa using hb)];simp
       ·conv=>whnf
        refine fun _ _ hw=>⟨i+1,congrArg (fun z=>[Value.int .i64 z]) hw2.symm,⟨h',hgood _ (by simpa using hb)⟩,dec h',hw⟩
      ·conv=>whnf
       refine fun _ _ hw=>⟨i+1,congrArg (fun z=>[Value.int .i64 z]) hw2.symm,⟨h',hgood _ (by simp at hz;simp [qYE,hz])⟩,dec h',hw⟩
     ·conv=>whnf
      intro g2 hg
      have:i=(bs s).length:=by have:=of_decide_eq_false h;rw [qdA] at this;omega
      rw [this,List.take_length] at hall
      rw [qxB,hall,hlow,h3,decide_eq_true (p:=0<(bs s).length) (by omega),decide_eq_true (p:=(bs s).length≤16) (by omega)];rfl
    ·conv=>whnf
     intro g2 hg
     simp [qxB,hlow,h3]
   ·conv=>whnf
    intro g2 hg
    have:=of_decide_eq_false h2
    rw [qdA] at this
    rw [qxB,decide_eq_false (p:=(bs s).length≤16) (by omega)];simp
  ·conv=>whnf
   intro g2 hg
   have:=of_decide_eq_false h1
   rw [qdA] at this
   rw [qxB,decide_eq_false (p:=0<(bs s).length) (by omega)];simp)
theorem qSK (g:GW) (s:ByteArray):OkV Tryz.prog qvH [.string s] g (.bool (qxB (bs s))) :=
 Ok.of_fn hm noT 0 qZH (args:=[.v (.string s)]) (by
  conv=>whnf
  refine⟨fun h1=>?_,fun h1=>?_⟩
  ·conv=>whnf
   intro g2 hg
   have:=of_decide_eq_true h1
   rw [qdA] at this
   rw [qxB,decide_eq_false (p:=0<(bs s).length) (by omega)];rfl
  ·conv=>whnf
   refine⟨fun h2=>?_,fun h2=>?_⟩
   ·conv=>whnf
    intro g2 hg
    have:=of_decide_eq_true h2
    rw [qdA] at this
    rw [qxB,decide_eq_false (p:=(bs s).length≤16) (by omega)];simp
   ·have k1:=of_decide_eq_false h1
    have k2:=of_decide_eq_false h2
    rw [qdA] at k1 k2
    obtain⟨c0,hc0⟩:∃ c0,(bs s)[0]?=some c0:=⟨(bs s)[0]'(by omega),List.getElem?_eq_getElem (by omega)⟩
    have hlow:(bs s).head?.any (fun c=>lowB c.toNat)=lowB c0.toNat:=by rw [List.head?_eq_getElem?,hc0];rfl
    conv=>whnf
    refine⟨c0,⟨by omega,hc0⟩,?_⟩
    conv=>whnf
    refine .inl ⟨_,qzR _ _,?_⟩
    conv=>whnf
    refine⟨fun h3=>?_,fun h3=>?_⟩
    ·conv=>whnf
     intro g2 hg
     have h3':lowB c0.toNat=false:=by simpa using h3
     rw [qxB,hlow,h3'];simp
    ·have h3':lowB c0.toNat=true:=by simpa using h3
     conv=>whnf
     refine⟨Nat,fun i=>[.v (.int .i64 i)],fun _=>⟨g,[],_,_⟩,fun i=>i≤(bs s).length∧((bs s).take i).all (fun c=>qYE c.toNat)=true,fun i=>(bs s).length-i,fun _ _ hw=>⟨0,rfl,⟨Nat.zero_le _,rfl⟩,hw⟩,?_⟩
     intro i hJ
     have hi:=hJ.1
     have hall:=hJ.2
     conv=>whnf
     refine⟨fun h=>?_,fun h=>?_⟩
     ·have h':i<(bs s).length:=by have:=of_decide_eq_true h;rw [qdA] at this;omega
      obtain⟨c,hcc,hc⟩:∃ c,(bs s)[i]=c∧(bs s)[i]?=some c:=⟨_,rfl,List.getElem?_eq_getElem h'⟩
      have hgood:∀ b,qYE c.toNat=b→((bs s).take (i+1)).all (fun c=>qYE c.toNat)=b:=fun b hb=>by rw [qrB h',hall,hcc,hb];rfl
      have hw2:IntKind.i64.wrap ((i:Int)+1)=((i+1:Nat):Int):=by rw [wr (by omega)];simp
      conv=>whnf
      refine⟨c,⟨by omega,hc⟩,?_⟩
      conv=>whnf
      refine .inl ⟨_,qBQ _ _,?_⟩
      conv=>whnf
      refine⟨fun hb=>?_,fun hb=>?_⟩
      ·conv=>whnf
       intro g2 hg
       rw [qxB,qnA h' (by rw [hcc];simpa using hb)];simp
      ·conv=>whnf
       refine fun _ _ hw=>⟨i+1,congrArg (fun z=>[Value.int .i64 z]) hw2.symm,⟨h',hgood _ (by simpa using hb)⟩,dec h',hw⟩
     ·conv=>whnf
      intro g2 hg
      have:i=(bs s).length:=by have:=of_decide_eq_false h;rw [qdA] at this;omega
      rw [this,List.take_length] at hall
      rw [qxB,hall,hlow,h3',decide_eq_true (p:=0<(bs s).length) (by omega),decide_eq_true (p:=(bs s).length≤16) (by omega)];rfl)
/- What IndexByte of Go's library tells: the model's own answer. -/
open Go.RowKit Go.Lib
theorem ib (s:ByteArray) (c:Int) (w:World):Calls Tryz.prog 151 #[.string s,.int .u8 c] w fun e w'=>e=.returned (.int .i64 (Lib.indexByte s.data.toList c.toNat.toUInt8))∧w'=w:=by
 go_enter Tryz.func151,Tryz.ntmps151
 go_wp2
 rw [run_callFunc_extern Tryz.func152 (by kernel_rfl) (by kernel_rfl) (by kernel_rfl) (e:=Extern.BytealgIndexByte.indexByte) (by kernel_rfl),Lib.run_indexByteString]
 simp only [Result.andThen]
 rw [Oper.upon_value]
 go_wp2
 go_ret
 exact⟨rfl,rfl⟩
open Go.Proofs.YtkogfpniapaigaaGreat.Sx
theorem ok_ib (g:GW) (s:ByteArray) (c:Int):OkV Tryz.prog qkE [.string s,.int .u8 c] g (.int .i64 (Lib.indexByte (bs s) c.toNat.toUInt8)) :=
 Ok.of_same fun w=>(ib s c w).mono fun _ _ h=>⟨h.1,h.2.symm⟩
theorem q9N (g:GW) (s:ByteArray) (c:Int):OkV Tryz.prog qhH [.string s,.int .u8 c] g (.int .i64 (Lib.indexByte (bs s) c.toNat.toUInt8)) :=
 Ok.of_fn hm noT 0 qJH (args:=[.v (.string s),.v (.int .u8 c)]) (by
  conv=>whnf
  refine .inl ⟨_,ok_ib _ _ _,?_⟩
  conv=>whnf
  intro g2 hg
  rfl)
def tH:List (Nat×FnI):=[(q5M,quI),(q7K,q5F)]
theorem tH_ok:qDG Tryz.prog tH:=by
 intro x hx
 simp only [tH,List.mem_cons,List.not_mem_nil,or_false] at hx
 rcases hx with rfl|rfl
 ·exact⟨_,_,qbM⟩
 ·exact⟨_,_,qiK⟩
theorem qBS (g:GW) (s:ByteArray):OkV Tryz.prog qJO [.string s] g (.bool (qgJ (bs s))) :=
 Ok.of_fn hm tH_ok 2 qiN (args:=[.v (.string s)]) (by
  conv=>whnf
  intro b0
  conv=>whnf
  refine⟨fun h1=>?_,fun h1=>?_⟩
  ·conv=>whnf
   refine⟨rfl,?_⟩
   conv=>whnf
   refine⟨rfl,?_⟩
   conv=>whnf
   intro g2 hg
   have:=of_decide_eq_true h1
   rw [qdA] at this
   rw [qgJ,decide_eq_false (by omega)];rfl
  ·conv=>whnf
   intro b1
   conv=>whnf
   intro b2
   conv=>whnf
   refine⟨qFL,fun l rr=>?_⟩
   conv=>whnf
   refine⟨ByteArray,fun _=>[],fun t=>⟨g,[.lp 3 l rr .ready,.blk 2 b2 _ [.v (.int .u8 46)],.blk 1 b1 _ [.v (.string t)],.blk 0 b0 _ [.v (.bool false)]],_,_⟩,fun t=>t.size≤32∧(qFB 46 (bs t)).all qxB=(qFB 46 (bs s)).all qxB,fun t=>t.size,fun _ _ hw=>⟨s,rfl,⟨by have:=of_decide_eq_false h1;omega,rfl⟩,hw⟩,?_⟩
   intro t hJJ
   have hJ:=hJJ.2
   have hJ1:=hJJ.1
   have hlast:Lib.indexByte (bs t) (46:Int).toNat.toUInt8<0→qFB 46 (bs t)=[bs t]:=fun h=>by
    rcases qpF 46 (bs t) with ⟨_,h2⟩|⟨i,_,h2,_⟩
    ·exact h2
    ·rw [show(46:Int).toNat.toUInt8=46 from rfl,h2] at h;omega
   conv=>whnf
   refine⟨rfl,?_⟩
   conv=>whnf
   refine⟨rfl,?_⟩
   conv=>whnf
   refine .inl ⟨_,q9N _ _ _,?_⟩
   conv=>whnf
   refine⟨fun h2=>?_,fun h2=>?_⟩
   ·conv=>whnf
    refine⟨rfl,?_⟩
    conv=>whnf
    refine⟨rfl,?_⟩
    conv=>whnf
    refine⟨⟨rfl,rfl⟩,?_⟩
    conv=>whnf
    refine⟨rfl,?_⟩
    conv=>whnf
    refine .inl ⟨_,qgH _ _,?_⟩
    conv=>whnf
    refine⟨fun h3=>?_,fun h3=>?_⟩
    ·conv=>whnf
     refine⟨rfl,?_⟩
     conv=>whnf
     refine⟨rfl,?_⟩
     conv=>whnf
     refine⟨rfl,?_⟩
     conv=>whnf
     refine⟨rfl,?_⟩
     conv=>whnf
     intro g2 hg
     have hn:(qFB 46 (bs t)).all qxB=false:=by rw [hlast (of_decide_eq_true h2)];simp at h3;simp [h3]
     rw [qgJ,← hJ,hn];simp
    ·conv=>whnf
     refine⟨rfl,?_⟩
     conv=>whnf
     refine⟨rfl,?_⟩
     conv=>whnf
     refine⟨rfl,?_⟩
     conv=>whnf
     refine⟨rfl,?_⟩
     conv=>whnf
     intro g2 hg
     have hn:(qFB 46 (bs t)).all qxB=true:=by rw [hlast (of_decide_eq_true h2)];simp at h3;simp [h3]
     have:=of_decide_eq_false h1
     rw [qdA] at this
     rw [qgJ,← hJ,hn,decide_eq_true (by omega)];rfl
   ·have k2:=of_decide_eq_false h2
    obtain⟨i,hi,hidx,hpt⟩:∃ i:Nat,i<(bs t).length∧Lib.indexByte (bs t) (46:Int).toNat.toUInt8=i∧qFB 46 (bs t)=(bs t).take i :: qFB 46 ((bs t).drop (i+1)):=by
     rcases qpF 46 (bs t) with ⟨h1,_⟩|h
     ·rw [show(46:Int).toNat.toUInt8=46 from rfl,h1] at k2;omega
     ·exact h
    have hts:=qdA t
    conv=>whnf
    refine⟨rfl,?_⟩
    conv=>whnf
    refine⟨⟨by rw [hidx];omega,by rw [hidx];omega⟩,?_⟩
    conv=>whnf
    refine⟨rfl,?_⟩
    conv=>whnf
    refine⟨⟨rfl,rfl⟩,?_⟩
    conv=>whnf
    refine⟨rfl,?_⟩
    conv=>whnf
    refine .inl ⟨_,qgH _ _,?_⟩
    have hx1:bs (t.extract 0 (Lib.indexByte (bs t) (46:Int).toNat.toUInt8).toNat)=(bs t).take i:=by rw [qqB,hidx];simp
    conv=>whnf
    refine⟨fun h3=>?_,fun h3=>?_⟩
    ·conv=>whnf
     refine⟨rfl,?_⟩
     conv=>whnf
     refine⟨rfl,?_⟩
     conv=>whnf
     refine⟨rfl,?_⟩
     conv=>whnf
     refine⟨rfl,?_⟩
     conv=>whnf
     intro g2 hg
     rw [hx1] at h3
     have hn:(qFB 46 (bs t)).all qxB=false:=by rw [hpt];simp at h3;simp [h3]
     rw [qgJ,← hJ,hn];simp
    ·conv=>whnf
     refine⟨rfl,?_⟩
     conv=>whnf
     refine⟨rfl,?_⟩
     have hw2:IntKind.i64.wrap (Lib.indexByte (bs t) (46:Int).toNat.toUInt8+1)=((i+1:Nat):Int):=by rw [hidx,wr (by omega)];simp
     have hx2:bs (t.extract (IntKind.i64.wrap (Lib.indexByte (bs t) (46:Int).toNat.toUInt8+1)).toNat t.size)=(bs t).drop (i+1):=by
      rw [qqB,hw2,Int.toNat_natCast,hts]
      exact List.take_of_length_le (by simp)
     conv=>whnf
     refine⟨⟨by rw [hw2];omega,by rw [hw2];omega⟩,?_⟩
     conv=>whnf
     refine⟨rfl,?_⟩
     conv=>whnf
     refine fun _ _ hw=>⟨_,rfl,⟨?_,?_⟩,?_,hw⟩
     ·rw [qdA,hx2,List.length_drop];omega
     ·rw [hx1] at h3
      rw [← hJ,hpt,hx2];simp at h3;simp [h3]
     ·show ByteArray.size _<t.size
      rw [qdA,hx2,hts,List.length_drop];omega)
/- Prefixes and suffixes of texts;patterns and paths;the document's parts,hosts,patterns and paths. -/
open Go.Proofs.YtkogfpniapaigaaGreat.Sx
theorem qAO (g:GW) (s p:BA):OkV Tryz.prog qlE [.string s,.string p] g (.bool (preL (bs p) (bs s))) :=
 Ok.of_fn hm noT 0 qdE (args:=[.v (.string s),.v (.string p)]) (by
  conv=>whnf
  refine⟨fun h=>?_,fun h=>?_⟩
  ·have h':=of_decide_eq_true h
   conv=>whnf
   refine⟨⟨by omega,by omega⟩,?_⟩
   conv=>whnf
   intro g2 hg
   rw [qlM]
   have e1:bs (s.extract 0 (p.size:Int).toNat)=(bs s).take (bs p).length:=by rw [qqB,qdA];simp
   have:=qdA s;have:=qdA p
   rw [decide_eq_true (show(bs p).length≤(bs s).length by omega),← e1];rfl
  ·conv=>whnf
   intro g2 hg
   have h':=of_decide_eq_false h
   have:=qdA s;have:=qdA p
   rw [qlM,decide_eq_false (show ¬ (bs p).length≤(bs s).length by omega)];rfl)
def cutP (s p:BA):BA:=if preL (bs p) (bs s) then s.extract p.size s.size else s
theorem qoU {s p:BA} (h:preL (bs p) (bs s)=true):bs (cutP s p)=(bs s).drop (bs p).length:=by
 unfold cutP
 rw [if_pos h,qqB,qdA s,qdA p]
 exact List.take_of_length_le (by simp)
theorem qvM (g:GW) (s p:BA):OkV Tryz.prog qmE [.string s,.string p] g (.tuple #[.string (cutP s p),.bool (preL (bs p) (bs s))]) :=
 Ok.of_fn hm noT 0 qeE (args:=[.v (.string s),.v (.string p)]) (by
  conv=>whnf
  refine .inl ⟨_,qAO _ _ _,?_⟩
  conv=>whnf
  refine⟨fun h=>?_,fun h=>?_⟩
  ·have h':preL (bs p) (bs s)=false:=by simpa using h
   conv=>whnf
   intro g2 hg
   unfold cutP
   rw [h'];rfl
  ·have h':preL (bs p) (bs s)=true:=by simpa using h
   have hl:p.size≤s.size:=by
    rw [qlM] at h'
    simp only [Bool.and_eq_true,decide_eq_true_eq] at h'
    have:=qdA s;have:=qdA p;omega
   conv=>whnf
   refine⟨⟨by omega,by omega⟩,?_⟩
   conv=>whnf
   intro g2 hg
   unfold cutP
   rw [h'];rfl)
theorem qBO (g:GW) (s p:BA):OkV Tryz.prog qiH [.string s,.string p] g (.tuple #[.string (cutP s p),.bool (preL (bs p) (bs s))]) :=
 Ok.of_fn hm noT 0 qKH (args:=[.v (.string s),.v (.string p)]) (by
  conv=>whnf
  refine .inl ⟨_,qvM _ _ _,?_⟩
  conv=>whnf
  intro g2 hg
  rfl)
theorem quQ (g:GW) (s:BA):OkV Tryz.prog q8K [.string s] g (.bool (qBC (bs s))) :=
 Ok.of_fn hm noT 0 qjK (args:=[.v (.string s)]) (by
  conv=>whnf
  refine .inl ⟨_,qBO _ _ _,?_⟩
  conv=>whnf
  refine⟨fun h=>?_,fun h=>?_⟩
  ·have h':preL [42,46] (bs s)=true:=h
   conv=>whnf
   refine .inl ⟨_,qBS _ _,?_⟩
   conv=>whnf
   intro g2 hg
   rw [qBC,h',qoU h];rfl
  ·have h':preL [42,46] (bs s)=false:=h
   conv=>whnf
   refine⟨fun k=>?_,fun k=>?_⟩
   ·conv=>whnf
    intro g2 hg
    rw [qBC,h']
    have k':(bs s==[42])=true:=k
    rw [k'];rfl
   ·conv=>whnf
    refine .inl ⟨_,qBS _ _,?_⟩
    conv=>whnf
    intro g2 hg
    rw [qBC,h']
    have k':(bs s==[42])=false:=k
    rw [k'];rfl)
theorem qcU (g:GW) (s:BA):OkV Tryz.prog qHO [.string s] g (.bool (qoF (bs s))) :=
 Ok.of_fn hm qEV 1 qgN (args:=[.v (.string s)]) (by
  have hsz:=qdA s
  conv=>whnf
  refine⟨fun h1=>?_,fun h1=>?_⟩
  ·conv=>whnf
   refine⟨fun h2=>?_,fun h2=>?_⟩
   ·have k1:=of_decide_eq_true h1
    have k2:=of_decide_eq_true h2
    obtain⟨c0,hc0⟩:∃ c0,(bs s)[0]?=some c0:=qBA (by omega)
    have hh:(bs s).head?.any (fun c=>(c.toNat:Int)==47)=((c0.toNat:Int)==47):=by rw [List.head?_eq_getElem?,hc0];rfl
    conv=>whnf
    refine⟨c0,⟨by omega,hc0⟩,?_⟩
    conv=>whnf
    refine⟨fun h3=>?_,fun h3=>?_⟩
    ·conv=>whnf
     intro b1
     conv=>whnf
     refine⟨rfl,?_⟩
     conv=>whnf
     refine⟨rfl,?_⟩
     conv=>whnf
     intro b2
     conv=>whnf
     refine⟨Nat,fun i=>[.v (.int .i64 i)],fun _=>⟨g,[.blk 1 b2 _ [.v (.func (.func q5B) #[] #[])],.blk 0 b1 _ [.v (.func (.func q5B) #[] #[])]],_,_⟩,fun i=>i≤(bs s).length∧((bs s).take i).all (fun c=>(c.toNat:Int)==47||qYE c.toNat)=true,fun i=>(bs s).length-i,fun _ _ hw=>⟨0,rfl,⟨Nat.zero_le _,rfl⟩,hw⟩,?_⟩
     intro i hJ
     have hi:=hJ.1
     have hall:=hJ.2
     conv=>whnf
     refine⟨fun h=>?_,fun h=>?_⟩
     ·have h':i<(bs s).length:=by have:=of_decide_eq_true h;omega
      obtain⟨c,hcc,hc⟩:∃ c,(bs s)[i]=c∧(bs s)[i]?=some c:=⟨_,rfl,List.getElem?_eq_getElem h'⟩
      have hgood:∀ b,((c.toNat:Int)==47||qYE c.toNat)=b→((bs s).take (i+1)).all (fun c=>(c.toNat:Int)==47||qYE c.toNat)=b:=fun b hb=>by rw [qrB h',hall,hcc,hb];rfl
      have hw2:IntKind.i64.wrap ((i:Int)+1)=((i+1:Nat):Int):=by rw [wr (by omega)];simp
      conv=>whnf
      refine⟨c,⟨by omega,hc⟩,?_⟩
      conv=>whnf
      refine⟨fun hz=>?_,fun hz=>?_⟩
      ·conv=>whnf
       refine⟨rfl,?_⟩
       conv=>whnf
       refine⟨c,⟨by omega,hc⟩,?_⟩
       conv=>whnf
       refine⟨qEH,?_⟩
       conv=>whnf
       refine .inl ⟨_,q8P _ _,?_⟩
       conv=>whnf
       refine⟨fun hb=>?_,fun hb=>?_⟩
       ·conv=>whnf
        intro g2 hg
        simp at hz hb
        rw [qoF,qnA h' (by rw [hcc];simp [hz,hb])];simp
       ·conv=>whnf
        refine fun _ _ hw=>⟨i+1,congrArg (fun z=>[Value.int .i64 z]) hw2.symm,⟨h',hgood _ (by simp at hb;simp [hb])⟩,dec h',hw⟩
      ·conv=>whnf
       refine fun _ _ hw=>⟨i+1,congrArg (fun z=>[Value.int .i64 z]) hw2.symm,⟨h',hgood _ (by simp at hz;simp [hz])⟩,dec h',hw⟩
     ·conv=>whnf
      intro g2 hg
      have:i=(bs s).length:=by have:=of_decide_eq_false h;omega
      rw [this,List.take_length] at hall
      rw [qoF,hall,hh,h3,decide_eq_true (p:=0<(bs s).length) (by omega),decide_eq_true (p:=(bs s).length≤32) (by omega)];rfl
    ·conv=>whnf
     intro g2 hg
     simp [qoF,hh,h3]
   ·conv=>whnf
    intro g2 hg
    have:=of_decide_eq_false h2
    rw [qoF,decide_eq_false (p:=(bs s).length≤32) (by omega)];simp
  ·conv=>whnf
   intro g2 hg
   have:=of_decide_eq_false h1
   rw [qoF,decide_eq_false (p:=0<(bs s).length) (by omega)];simp)
theorem qFT (g:GW) (s:BA):OkV Tryz.prog quH [.string s] g (.bool (qoF (bs s))) :=
 Ok.of_fn hm noT 0 qYH (args:=[.v (.string s)]) (by
  have hsz:=qdA s
  conv=>whnf
  refine⟨fun h1=>?_,fun h1=>?_⟩
  ·conv=>whnf
   intro g2 hg
   have:=of_decide_eq_true h1
   rw [qoF,decide_eq_false (p:=0<(bs s).length) (by omega)];simp
  ·conv=>whnf
   refine⟨fun h2=>?_,fun h2=>?_⟩
   ·conv=>whnf
    intro g2 hg
    have:=of_decide_eq_true h2
    rw [qoF,decide_eq_false (p:=(bs s).length≤32) (by omega)];simp
   ·have k1:=of_decide_eq_false h1
    have k2:=of_decide_eq_false h2
    obtain⟨c0,hc0⟩:∃ c0,(bs s)[0]?=some c0:=qBA (by omega)
    have hh:(bs s).head?.any (fun c=>(c.toNat:Int)==47)=((c0.toNat:Int)==47):=by rw [List.head?_eq_getElem?,hc0];rfl
    conv=>whnf
    refine⟨c0,⟨by omega,hc0⟩,?_⟩
    conv=>whnf
    refine⟨fun h3=>?_,fun h3=>?_⟩
    ·conv=>whnf
     intro g2 hg
     simp at h3
     simp [qoF,hh,h3]
    ·have h3':((c0.toNat:Int)==47)=true:=by simpa using h3
     conv=>whnf
     refine⟨Nat,fun i=>[.v (.int .i64 i)],fun _=>⟨g,[],_,_⟩,fun i=>i≤(bs s).length∧((bs s).take i).all (fun c=>(c.toNat:Int)==47||qYE c.toNat)=true,fun i=>(bs s).length-i,fun _ _ hw=>⟨0,rfl,⟨Nat.zero_le _,rfl⟩,hw⟩,?_⟩
     intro i hJ
     have hi:=hJ.1
     have hall:=hJ.2
     conv=>whnf
     refine⟨fun h=>?_,fun h=>?_⟩
     ·have h':i<(bs s).length:=by have:=of_decide_eq_true h;omega
      obtain⟨c,hcc,hc⟩:∃ c,(bs s)[i]=c∧(bs s)[i]?=some c:=⟨_,rfl,List.getElem?_eq_getElem h'⟩
      have hgood:∀ b,((c.toNat:Int)==47||qYE c.toNat)=b→((bs s).take (i+1)).all (fun c=>(c.toNat:Int)==47||qYE c.toNat)=b:=fun b hb=>by rw [qrB h',hall,hcc,hb];rfl
      have hw2:IntKind.i64.wrap ((i:Int)+1)=((i+1:Nat):Int):=by rw [wr (by omega)];simp
      conv=>whnf
      refine⟨c,⟨by omega,hc⟩,?_⟩
      conv=>whnf
      refine .inl ⟨_,qBQ _ _,?_⟩
      conv=>whnf
      refine⟨fun hz=>?_,fun hz=>?_⟩
      ·conv=>whnf
       refine⟨c,⟨by omega,hc⟩,?_⟩
       conv=>whnf
       refine⟨fun hb=>?_,fun hb=>?_⟩
       ·conv=>whnf
        intro g2 hg
        simp at hz hb
        rw [qoF,qnA h' (by rw [hcc];simp [hz,hb])];simp
       ·conv=>whnf
        refine fun _ _ hw=>⟨i+1,congrArg (fun z=>[Value.int .i64 z]) hw2.symm,⟨h',hgood _ (by simp at hb;simp [hb])⟩,dec h',hw⟩
      ·conv=>whnf
       refine fun _ _ hw=>⟨i+1,congrArg (fun z=>[Value.int .i64 z]) hw2.symm,⟨h',hgood _ (by simp at hz;simp [hz])⟩,dec h',hw⟩
     ·conv=>whnf
      intro g2 hg
      have:i=(bs s).length:=by have:=of_decide_eq_false h;omega
      rw [this,List.take_length] at hall
      rw [qoF,hall,hh,h3',decide_eq_true (p:=0<(bs s).length) (by omega),decide_eq_true (p:=(bs s).length≤32) (by omega)];rfl)
theorem q2R (g:GW) (s:BA) (b:UInt8) (hs:s.size≤1000000000):Ok Tryz.prog qoG [.string s,.int .u8 b.toNat] g fun v g'=>∃ L:List BA,L.map bs=qFB b (bs s)∧rSl 1 rStr g' v L :=
 Ok.of_fn hm noT 0 qZG (args:=[.v (.string s),.v (.int .u8 b.toNat)]) (by
  have hsz:=qdA s
  repeat((conv=>whnf);first|apply qza|apply qzb|apply qzc|apply qzd|apply qze|intro(_:Nat)|intro(_:OA)_)
  conv=>whnf
  refine⟨Nat×Nat×List BA×Option Addr×Nat,fun (i,at_,L,oa,cap)=>[.row 0 oa L.length cap,.v (.int .i64 at_),.v (.int .i64 i)],fun (_,_,L,oa,cap)=>⟨g,[.row 0 oa L.length cap q0B 1 (L.map .string)],1,g.w.heap.size⟩,
   fun (i,at_,L,_,_)=>(at_≤i∧i≤(bs s).length∧L.length≤at_)∧L.map bs++qFB b ((bs s).drop at_)=qFB b (bs s)∧∀ j:Nat,at_≤j→j<i→(bs s)[j]?≠some b,fun (i,_,_,_,_)=>(bs s).length-i,?_,?_⟩
  ·intro fr w hw
   exact⟨(0,0,[],some ⟨_,0,none⟩,0),rfl,⟨⟨Nat.le_refl _,Nat.zero_le _,Nat.le_refl _⟩,rfl,fun j _ h=>by omega⟩,hw.blk_row 0 1 rfl (Nat.zero_le _)⟩
  ·rintro⟨i,at_,L,oa,cap⟩ ⟨⟨h1,h2,h3⟩,h4,h5⟩
   have hw2:i<(bs s).length→IntKind.i64.wrap ((i:Int)+1)=((i+1:Nat):Int):=fun h=>by rw [wr (by omega)];simp
   conv=>whnf
   refine⟨fun h=>?_,fun h=>?_⟩
   ·have h':i<(bs s).length:=by have:=of_decide_eq_true h;omega
    obtain⟨c,hc⟩:∃ c,(bs s)[i]?=some c:=qBA h'
    conv=>whnf
    refine⟨c,⟨by omega,hc⟩,?_⟩
    conv=>whnf
    refine⟨fun hz=>?_,fun hz=>?_⟩
    ·have hcb:c=b:=by
      simp at hz
      exact UInt8.toNat_inj.1 (by omega)
     subst hcb
     conv=>whnf
     refine⟨⟨by omega,by omega,by omega⟩,?_⟩
     repeat((conv=>whnf);first|apply qza|apply qzb|apply qzc|apply qzd|apply qze|intro(_:Nat)|intro(_:OA)_)
     conv=>whnf
     refine⟨⟨by unfold maxLen;omega,by omega⟩,fun oa2 cap2=>?_⟩
     conv=>whnf
     refine fun fr w hw=>⟨(i+1,i+1,L++[s.extract at_ i],oa2,cap2),?_,⟨⟨Nat.le_refl _,h',by simp;omega⟩,?_,fun j hj hj'=>by omega⟩,dec h',?_⟩
     ·simp [qAA,conc,qdC,hw2 h']
     ·have:=q7P (b:=c) (l:=(bs s).drop at_) (k:=i-at_) (fun j hj=>by
       rw [List.getElem?_drop];exact h5 _ (by omega) (by omega)) (by rw [List.getElem?_drop,show at_+(i-at_)=i by omega];exact hc)
      rw [this] at h4
      rw [← h4]
      simp [qqB,show at_+(i-at_+1)=i+1 by omega]
     ·refine hw.fit ?_
      simp [fitL,Res.eqv]
    ·conv=>whnf
     refine fun fr w hw=>⟨(i+1,at_,L,oa,cap),?_,⟨⟨by omega,h',h3⟩,h4,fun j hj hj'=>?_⟩,dec h',hw⟩
     ·simp [qAA,conc,qdC,hw2 h']
     ·rcases Nat.lt_or_ge j i with k|k
      ·exact h5 j hj k
      ·obtain rfl:j=i:=by omega
       rw [hc]
       simp at hz
       intro e
       simp at e;subst e;exact hz rfl
   ·have h':i=(bs s).length:=by have:=of_decide_eq_false h;omega
    conv=>whnf
    refine⟨⟨by omega,by omega⟩,?_⟩
    repeat((conv=>whnf);first|apply qza|apply qzb|apply qzc|apply qzd|apply qze|intro(_:Nat)|intro(_:OA)_)
    conv=>whnf
    refine⟨⟨by unfold maxLen;omega,by omega⟩,fun oa2 cap2=>?_⟩
    repeat((conv=>whnf);first|apply qza|apply qzb|apply qzc|apply qzd|apply qze|intro(_:Nat)|intro(_:OA)_)
    conv=>whnf
    refine fun g1 hg1 hnew hp=>?_
    conv=>whnf
    intro g2 hg
    refine⟨L++[s.extract at_ s.size],?_,?_⟩
    ·have:=q5L (b:=b) (l:=(bs s).drop at_) (fun j=>by
      rw [List.getElem?_drop]
      by_cases k:at_+j<i
      ·exact h5 _ (by omega) k
      ·rw [List.getElem?_eq_none (by omega)];simp)
     rw [this] at h4
     rw [← h4,List.map_append,List.map_cons,List.map_nil,qqB,List.take_of_length_le (by rw [List.length_drop,hsz];exact Nat.le_refl _)]
    ·exact(qPD hp.rd (L++[s.extract at_ s.size]) .string (by simp) fun _ _=>rfl).mono qBE hg)
theorem qrM (g:GW) (s:BA) (hs:s.size≤1000000000):OkV Tryz.prog qwH [.string s] g (.bool (qgJ (bs s))) :=
 Ok.of_fn hm noT 0 qaH (args:=[.v (.string s)]) (by
  have hsz:=qdA s
  conv=>whnf
  refine .inr ((q2R g s 46 hs).mono fun v g1 hg1 hP=>?_)
  obtain⟨L,hL,oa,cap,rfl,h1,h2,h0,hr⟩:=hP
  have hall:((qFB 46 (bs s)).all qxB)=L.all fun p=>qxB (bs p):=by rw [← hL,List.all_map];rfl
  conv=>whnf
  refine⟨Nat,fun i=>[.v (.int .i64 i)],fun _=>⟨g1,[],_,_⟩,fun i=>i≤L.length∧(L.take i).all (fun p=>qxB (bs p))=true,fun i=>L.length-i,fun _ _ hw=>⟨0,rfl,⟨Nat.zero_le _,rfl⟩,hw⟩,?_⟩
  intro i hJ
  have hi:=hJ.1
  have hal:=hJ.2
  conv=>whnf
  refine⟨fun h=>?_,fun h=>?_⟩
  ·have h':i<L.length:=by have:=of_decide_eq_true h;omega
   obtain⟨a,ha,ec,hec,he,hc⟩:=hr i L[i] (List.getElem?_eq_getElem h')
   cases he
   have hgood:∀ b,qxB (bs L[i])=b→(L.take (i+1)).all (fun p=>qxB (bs p))=b:=fun b hb=>by rw [qrB h',hal,hb];rfl
   conv=>whnf
   refine⟨a,ha,⟨by omega,by omega⟩,?_⟩
   conv=>whnf
   refine⟨_,hc 0 _ rfl,?_⟩
   conv=>whnf
   refine .inl ⟨_,qSK _ _,?_⟩
   conv=>whnf
   refine⟨fun hb=>?_,fun hb=>?_⟩
   ·conv=>whnf
    intro g2 hg
    rw [qgJ,hall,qnA h' (by simpa using hb)];simp
   ·conv=>whnf
    refine fun _ _ hw=>⟨i+1,congrArg (fun z=>[Value.int .i64 z]) (wr1 h' h1 h2).symm,⟨h',hgood _ (by simpa using hb)⟩,dec h',hw⟩
  ·conv=>whnf
   intro g2 hg
   have:i=L.length:=by have:=of_decide_eq_false h;omega
   rw [this,List.take_length] at hal
   rw [qgJ,hall,hal,← hsz,Bool.and_true]
   exact congrArg Value.bool (decide_eq_decide.2 (by omega)))
theorem qLP (g:GW) (s:BA) (hs:s.size≤1000000000):OkV Tryz.prog qNF [.string s] g (.bool (qBC (bs s))) :=
 Ok.of_fn hm noT 0 qEF (args:=[.v (.string s)]) (by
  have hsz:=qdA s
  have tail:∀ (sl:GW),True:=fun _=>trivial
  conv=>whnf
  refine⟨fun h=>?_,fun h=>?_⟩
  ·have h2:=of_decide_eq_true h
   conv=>whnf
   refine⟨⟨by omega,by omega⟩,?_⟩
   have e1:bs (s.extract 0 (2:Int).toNat)=(bs s).take 2:=by rw [qqB];rfl
   conv=>whnf
   refine⟨fun k=>?_,fun k=>?_⟩
   ·have k':((bs s).take 2==[42,46])=true:=by rw [← e1];exact k
    conv=>whnf
    refine⟨⟨by omega,by omega⟩,?_⟩
    conv=>whnf
    refine .inl ⟨_,qrM _ _ (by have:=qqB s 2 s.size;have e:=qdA (s.extract (2:Int).toNat s.size);rw [e];simp;omega),?_⟩
    conv=>whnf
    intro g2 hg
    rw [qRD,k',decide_eq_true (show 2<(bs s).length by omega)]
    have e2:bs (s.extract (2:Int).toNat s.size)=(bs s).drop 2:=by
     rw [qqB,hsz];exact List.take_of_length_le (by simp)
    rw [e2];rfl
   ·have k':((bs s).take 2==[42,46])=false:=by rw [← e1];exact k
    conv=>whnf
    refine⟨fun j=>?_,fun j=>?_⟩
    ·conv=>whnf
     intro g2 hg
     have j':(bs s==[42])=true:=j
     rw [qRD,k',j'];simp
    ·have j':(bs s==[42])=false:=j
     conv=>whnf
     refine .inl ⟨_,qrM _ _ hs,?_⟩
     conv=>whnf
     intro g2 hg
     rw [qRD,k',j'];simp
  ·have h2:=of_decide_eq_false h
   have k':(decide (2<(bs s).length))=false:=decide_eq_false (by omega)
   conv=>whnf
   refine⟨fun j=>?_,fun j=>?_⟩
   ·conv=>whnf
    intro g2 hg
    have j':(bs s==[42])=true:=j
    rw [qRD,k',j'];simp
   ·have j':(bs s==[42])=false:=j
    conv=>whnf
    refine .inl ⟨_,qrM _ _ hs,?_⟩
    conv=>whnf
    intro g2 hg
    rw [qRD,k',j'];simp)
/- Whether a configuration may be: the program's and the document's answers. -/
open Go.Proofs.YtkogfpniapaigaaGreat.Sx
theorem qMT (g:GW) {v:Value} {l:List BA} (hl:rSl 1 rStr g v l) (s:BA):OkV Tryz.prog q5C [v,.string s] g (.int .i64 (idxI (idxO (fun x=>bs s==bs x) l))) :=
 Ok.of_fn hm noT 0 q1C (args:=[.v v,.v (.string s)]) (by
  obtain⟨oa,cap,rfl,h1,h2,h0,hr⟩:=hl
  repeat((conv=>whnf);first|apply qza|apply qzb|apply qzc|apply qzd|apply qze|intro(_:Nat))
  conv=>whnf
  refine⟨Nat,fun k=>[.v (.int .i64 k)],fun k=>⟨g,[],_,_⟩,fun k=>k≤l.length∧Pass (idxF fun x=>bs s==bs x) l k,fun k=>l.length-k,qDA 0 rfl ⟨Nat.zero_le _,Pass.zero _ _⟩ rfl,?_⟩
  rintro k ⟨hk,hp⟩
  conv=>whnf
  refine⟨fun hlt=>?_,fun hlt=>?_⟩
  ·have h':k<l.length:=by have:=of_decide_eq_true hlt;omega
   obtain⟨x,hx⟩:=qBA h'
   obtain⟨a,rfl,ec,hec,rfl,hc⟩:=hr k x hx
   conv=>whnf
   refine⟨a,rfl,⟨by omega,by omega⟩,?_⟩
   conv=>whnf
   refine⟨_,hc 0 _ rfl,?_⟩
   conv=>whnf
   refine⟨fun he=>?_,fun he=>?_⟩
   ·conv=>whnf
    intro g2 hg
    rw [qzC hp hx he]
   ·conv=>whnf
    refine fun fr w hw=>⟨k+1,congrArg (fun z=>[Value.int .i64 z]) (wr1 h' h1 h2).symm,⟨h',qyC hp hx he⟩,dec h',hw⟩
  ·conv=>whnf
   intro g2 hg
   have:=of_decide_eq_false hlt
   rw [q8B hp (by omega)])
theorem q0K (g:GW) {v:Value} {l:List BA} (hl:rSl 1 rStr g v l) (s:BA):OkV Tryz.prog qZC [v,.string s] g (.bool (hasS l s)) :=
 Ok.of_fn hm noT 0 qVC (args:=[.v v,.v (.string s)]) (by
  conv=>whnf
  refine .inl ⟨_,qMT _ hl _,?_⟩
  conv=>whnf
  intro g2 hg
  rw [qHN]
  have:(fun x=>bs s==bs x)=fun x=>bs x==bs s:=by funext x;exact qmS _ _
  rw [this];rfl)
def tC:List (Nat×FnI):=[(qBB,qZA),(qJB,qgA),(qIK,q7E)]
theorem tC_ok:qDG Tryz.prog tC:=by
 intro x hx
 simp only [tC,List.mem_cons,List.not_mem_nil,or_false] at hx
 rcases hx with rfl|rfl|rfl
 ·exact⟨_,_,qAB⟩
 ·exact⟨_,_,qIB⟩
 ·exact⟨_,_,qEK⟩
theorem qCQ (g:GW) {v:Value} {l:List Cluster} (hl:rSl 4 qAC g v l) (s:BA):OkV Tryz.prog qlL [v,.string s] g (.bool (hasC l s)) :=
 Ok.of_fn hm tC_ok 3 qdL (args:=[.v v,.v (.string s)]) (by
  obtain⟨oa,cap,rfl,h1,h2,h0,hr⟩:=hl
  repeat((conv=>whnf);first|apply qza|apply qzb|apply qzc|apply qzd|apply qze|intro(_:Nat))
  conv=>whnf
  refine⟨Nat,fun k=>[.v (.int .i64 k)],fun k=>⟨g,[.blk 0 _ _ [.v (.string s)]],_,_⟩,fun k=>k≤l.length∧Pass (idxF fun (x:Cluster)=>bs x.name==bs s) l k,fun k=>l.length-k,qDA 0 rfl ⟨Nat.zero_le _,Pass.zero _ _⟩ rfl,?_⟩
  rintro k ⟨hk,hp⟩
  conv=>whnf
  refine⟨fun hlt=>?_,fun hlt=>?_⟩
  ·have h':k<l.length:=by have:=of_decide_eq_true hlt;omega
   obtain⟨x,hx⟩:=qBA h'
   obtain⟨a,rfl,ec,hec,⟨hv,rfl,_,_,_,_,rfl,_⟩,hc⟩:=hr k x hx
   conv=>whnf
   refine⟨a,rfl,⟨by omega,by omega⟩,?_⟩
   conv=>whnf
   refine⟨_,⟨rfl,hc⟩,?_⟩
   conv=>whnf
   refine⟨qMK,?_⟩
   repeat((conv=>whnf);first|apply qza|apply qzb|apply qzc|apply qzd|apply qze|intro(_:Nat))
   conv=>whnf
   refine⟨fun he=>?_,fun he=>?_⟩
   ·conv=>whnf
    intro g2 hg
    have:hasC l s=true:=List.any_eq_true.2 ⟨x,List.mem_of_getElem? hx,he⟩
    rw [this];simp
   ·conv=>whnf
    refine fun fr w hw=>⟨k+1,congrArg (fun z=>[Value.int .i64 z]) (wr1 h' h1 h2).symm,⟨h',qyC hp hx he⟩,dec h',?_⟩
    exact hw.fit (by simp [fitL,Res.eqv,qAA,conc])
  ·conv=>whnf
   intro g2 hg
   have:=of_decide_eq_false hlt
   have h3:=qHN (fun (x:Cluster)=>bs x.name==bs s) l
   rw [q8B hp (by omega)] at h3
   rw [show hasC l s=false from by rw [hasC,← h3];rfl];rfl)
theorem q2N (g:GW) (n a b:Int):OkV Tryz.prog qAL [.int .i64 n,.int .i64 a,.int .i64 b] g (.bool (decide (a≤n)&&decide (n≤b))) :=
 Ok.of_fn hm noT 0 qlK (args:=[.v (.int .i64 n),.v (.int .i64 a),.v (.int .i64 b)]) (by
  repeat'((conv=>whnf);first|apply qza|apply qzb|apply qzc|apply qzd|apply qze|intro(_:Nat)|refine .inl ⟨_,rfl,?_⟩|refine⟨fun _=>?_,fun _=>?_⟩|fail)
  all_goals (conv=>whnf)
  all_goals (intro g2 hg)
  all_goals (first|(simp_all;done)|(simp_all;omega)))
theorem qDQ (g:GW) {cs:List Value} {c:Config} (hc:qcA g cs c):OkV Tryz.prog qgC [.agg ⟨cs⟩] g (eiT (qFK c)):=by
 obtain⟨a,b,d,rfl,hl,hr,hk⟩:=hc
 obtain⟨oa,ca,rfl,a1,a2,a0,hl1⟩:=id hl
 obtain⟨ob,cb,rfl,b1,b2,b0,hr1⟩:=id hr
 obtain⟨od,cd,rfl,d1,d2,d0,hk1⟩:=id hk
 exact Ok.of_fn hm noT 0 qGF (args:=[.v (.agg ⟨[.slice oa c.listens.length ca,.slice ob c.routes.length cb,.slice od c.clusters.length cd]⟩)]) (by
  repeat'((conv=>whnf);first|apply qza|apply qzb|apply qzc|apply qzd|apply qze|intro(_:Nat)|refine .inl ⟨_,q2N _ _ _ _,?_⟩|refine⟨fun _=>?_,fun _=>?_⟩|fail)
  all_goals (conv=>whnf)
  all_goals (intro g2 hg)
  all_goals first|(rw [show qFK c=some (6,0) from if_neg (by simp_all;try omega)];rfl;done)|(rw [show qFK c=none from if_pos (by simp_all;try omega)];rfl))
theorem qzK (g:GW) {cs:List Value} {c:Config} (hc:qcA g cs c):OkV Tryz.prog q6B [.agg ⟨cs⟩] g (eiT (qnB c)):=by
 obtain⟨a,b,d,rfl,hl,hr,hk⟩:=hc
 obtain⟨oa,ca,rfl,a1,a2,a0,hl1⟩:=id hl
 obtain⟨ob,cb,rfl,b1,b2,b0,hr1⟩:=id hr
 obtain⟨od,cd,rfl,d1,d2,d0,hk1⟩:=id hk
 exact Ok.of_fn hm noT 0 quD (args:=[.v (.agg ⟨[.slice oa c.listens.length ca,.slice ob c.routes.length cb,.slice od c.clusters.length cd]⟩)]) (by
  repeat((conv=>whnf);first|apply qza|apply qzb|apply qzc|apply qzd|apply qze|intro(_:Nat))
  conv=>whnf
  refine⟨Nat,fun k=>[.v (.int .i64 k)],fun k=>⟨g,[.blk 0 _ _ [.v (.slice oa c.listens.length ca),.v (.slice ob c.routes.length cb),.v (.slice od c.clusters.length cd)]],_,_⟩,fun k=>k≤c.listens.length∧Pass (qaC c.listens) c.listens k,fun k=>c.listens.length-k,qDA 0 rfl ⟨Nat.zero_le _,Pass.zero _ _⟩ rfl,?_⟩
  rintro k ⟨hk,hp⟩
  conv=>whnf
  refine⟨fun hlt=>?_,fun hlt=>?_⟩
  ·have h':k<c.listens.length:=by have:=of_decide_eq_true hlt;omega
   obtain⟨x,hx⟩:=qBA h'
   obtain⟨a,rfl,ec,hec,rfl,hc⟩:=hl1 k x hx
   conv=>whnf
   refine⟨a,rfl,⟨by omega,by omega⟩,?_⟩
   conv=>whnf
   refine⟨_,hc 0 _ rfl,?_⟩
   repeat((conv=>whnf);first|apply qza|apply qzb|apply qzc|apply qzd|apply qze|intro(_:Nat))
   conv=>whnf
   refine .inl ⟨_,qgH _ _,?_⟩
   conv=>whnf
   refine⟨fun hn=>?_,fun hn=>?_⟩
   ·conv=>whnf
    intro g2 hg
    rw [show qnB c=some ((3,k):EI) from hp.hit hx (by rw [qaC,if_neg (by simp [nb1 hn])])];rfl
   ·repeat((conv=>whnf);first|apply qza|apply qzb|apply qzc|apply qzd|apply qze|intro(_:Nat))
    conv=>whnf
    refine⟨⟨by omega,by omega⟩,?_⟩
    repeat((conv=>whnf);first|apply qza|apply qzb|apply qzc|apply qzd|apply qze|intro(_:Nat))
    conv=>whnf
    refine .inl ⟨_,q0K _ (hl.take (Nat.le_of_lt h')) _,?_⟩
    conv=>whnf
    refine⟨fun hs=>?_,fun hs=>?_⟩
    ·conv=>whnf
     intro g2 hg
     rw [show qnB c=some ((4,k):EI) from hp.hit hx (by rw [qaC,if_pos (nb0 hn),if_pos hs])];rfl
    ·conv=>whnf
     refine fun fr w hw=>⟨k+1,congrArg (fun z=>[Value.int .i64 z]) (wr1 h' a1 a2).symm,⟨h',hp.succ hx (by rw [qaC,if_pos (nb0 hn),if_neg (by simp [hs])])⟩,dec h',?_⟩
     exact hw.fit (by simp [fitL,Res.eqv,qAA,conc])
  ·conv=>whnf
   intro g2 hg
   have:=of_decide_eq_false hlt
   rw [show qnB c=none from hp.done (by omega)];rfl)
theorem q2J (g:GW) {cs:List Value} {c:Config} (hc:qcA g cs c):OkV Tryz.prog quB [.agg ⟨cs⟩] g (eiT (qUB c)):=by
 obtain⟨a,b,d,rfl,hl,hr,hk⟩:=hc
 obtain⟨oa,ca,rfl,a1,a2,a0,hl1⟩:=id hl
 obtain⟨ob,cb,rfl,b1,b2,b0,hr1⟩:=id hr
 obtain⟨od,cd,rfl,d1,d2,d0,hk1⟩:=id hk
 exact Ok.of_fn hm noT 0 qhD (args:=[.v (.agg ⟨[.slice oa c.listens.length ca,.slice ob c.routes.length cb,.slice od c.clusters.length cd]⟩)]) (by
  repeat((conv=>whnf);first|apply qza|apply qzb|apply qzc|apply qzd|apply qze|intro(_:Nat))
  conv=>whnf
  refine⟨Nat,fun k=>[.v (.int .i64 k)],fun k=>⟨g,[.blk 0 _ _ [.v (.slice oa c.listens.length ca),.v (.slice ob c.routes.length cb),.v (.slice od c.clusters.length cd)]],_,_⟩,fun k=>k≤c.clusters.length∧Pass (qRA c.clusters) c.clusters k,fun k=>c.clusters.length-k,qDA 0 rfl ⟨Nat.zero_le _,Pass.zero _ _⟩ rfl,?_⟩
  rintro k ⟨hkk,hp⟩
  conv=>whnf
  refine⟨fun hlt=>?_,fun hlt=>?_⟩
  ·have h':k<c.clusters.length:=by have:=of_decide_eq_true hlt;omega
   obtain⟨x,hx⟩:=qBA h'
   obtain⟨a,rfl,ec,hec,⟨hv,rfl,_,_,_,_,rfl,_⟩,hc⟩:=hk1 k x hx
   have hit:∀ e:EI,qRA c.clusters k x=some e→qUB c=some e:=fun e he=>hp.hit hx he
   conv=>whnf
   refine⟨a,rfl,⟨by omega,by omega⟩,?_⟩
   conv=>whnf
   refine⟨_,⟨rfl,hc⟩,?_⟩
   repeat((conv=>whnf);first|apply qza|apply qzb|apply qzc|apply qzd|apply qze|intro(_:Nat))
   conv=>whnf
   refine .inl ⟨_,qgH _ _,?_⟩
   conv=>whnf
   refine⟨fun hn=>?_,fun hn=>?_⟩
   ·conv=>whnf
    intro g2 hg
    rw [hit (3,k) (by rw [qRA,if_neg (by simp [nb1 hn])])];rfl
   have hn:=nb0 hn
   repeat((conv=>whnf);first|apply qza|apply qzb|apply qzc|apply qzd|apply qze|intro(_:Nat))
   conv=>whnf
   refine⟨⟨by omega,by omega⟩,?_⟩
   repeat((conv=>whnf);first|apply qza|apply qzb|apply qzc|apply qzd|apply qze|intro(_:Nat))
   conv=>whnf
   refine .inl ⟨_,qCQ _ (hk.take (Nat.le_of_lt h')) _,?_⟩
   conv=>whnf
   refine⟨fun hs=>?_,fun hs=>?_⟩
   ·conv=>whnf
    intro g2 hg
    rw [hit (4,k) (by rw [qRA,if_pos hn,if_pos hs])];rfl
   have hp9:¬(x.policy=1∨x.policy=2)→qRA c.clusters k x=some (9,(k:Int)):=fun h=>by rw [qRA,if_pos hn,if_neg (by simp [hs]),if_neg h]
   have hp10:(x.policy=1∨x.policy=2)→¬(1≤x.slots∧x.slots≤4)→qRA c.clusters k x=some (10,(k:Int)):=fun h h2=>by rw [qRA,if_pos hn,if_neg (by simp [hs]),if_pos h,if_neg h2]
   have hp6:(x.policy=1∨x.policy=2)→(1≤x.slots∧x.slots≤4)→¬(1≤x.health.length∧x.health.length≤4)→qRA c.clusters k x=some (6,(k:Int)):=fun h h2 h3=>by rw [qRA,if_pos hn,if_neg (by simp [hs]),if_pos h,if_pos h2,if_neg h3]
   have hp0:(x.policy=1∨x.policy=2)→(1≤x.slots∧x.slots≤4)→(1≤x.health.length∧x.health.length≤4)→qRA c.clusters k x=none:=fun h h2 h3=>by rw [qRA,if_pos hn,if_neg (by simp [hs]),if_pos h,if_pos h2,if_pos h3]
   have hpn:=fun e=>hp.succ hx e
   clear hlt hp
   repeat'((conv=>whnf);first|apply qza|apply qzb|apply qzc|apply qzd|apply qze|intro(_:Nat)|refine .inl ⟨_,q2N _ _ _ _,?_⟩|refine⟨fun _=>?_,fun _=>?_⟩|fail)
   all_goals (conv=>whnf)
   all_goals (try simp only [bne_iff_ne,ne_eq,bne_eq_false_iff_eq,Bool.not_eq_true',Bool.not_eq_false',Bool.and_eq_true,Bool.and_eq_false_iff,decide_eq_true_eq,decide_eq_false_iff_not] at *)
   all_goals first
    | (intro g2 hg;rw [hit (9,k) (hp9 (by omega))];rfl;done)
    | (intro g2 hg;rw [hit (10,k) (hp10 (by omega) (by omega))];rfl;done)
    | (intro g2 hg;rw [hit (6,k) (hp6 (by omega) (by omega) (by omega))];rfl;done)
    | refine fun fr w hw=>⟨k+1,congrArg (fun z=>[Value.int .i64 z]) (wr1 h' d1 d2).symm,⟨h',hpn (hp0 (by omega) (by omega) (by omega))⟩,dec h',?_⟩
   all_goals (exact hw.fit (by simp [fitL,Res.eqv,qAA,conc]))
  ·conv=>whnf
   intro g2 hg
   have:=of_decide_eq_false hlt
   rw [show qUB c=none from hp.done (by omega)];rfl)
end Go.Proofs.YtkogfpniapaigaaGreat
