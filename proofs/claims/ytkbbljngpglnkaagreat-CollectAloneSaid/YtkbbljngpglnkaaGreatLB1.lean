/- What all contracts lean on: the program follows the model's reading; how a contract becomes a walk. -/
import Derived.Test.YtkbbljngpglnkaaGreatF
import Derived.Test.YtkbbljngpglnkaaGreatPl
import Derived.WalkKit
import Derived.Lib.Walk
import Derived.Lib.Strings
import Derived.Lib.Bytealg
set_option linter.unusedVariables false
set_option linter.unusedSimpArgs false
namespace Go.Proofs.YtkbbljngpglnkaaGreat
open Go.Proofs.YtkbbljngpglnkaaGreat.Sx
set_option maxHeartbeats 16000000
set_option maxRecDepth 100000
theorem hm:Tryz.prog.follows .mixedOrders=true:=by kernel_rfl
theorem noT:qIH Tryz.prog []:=fun _ h=>nomatch h
theorem qLN {f:FuncId} {args:List Value} {w:World} {v:Value} (h:OkV Tryz.prog f args (allG w) v):Calls Tryz.prog f args.toArray w fun e w'=>e=.returned v∧RowKit.Below w.heap.size w w' :=
 (h w (Good.refl _)).mono fun _ _ ⟨_,he,hb,hv⟩=>⟨hv▸he,hb⟩
open Go.Proofs.YtkbbljngpglnkaaGreat.Sx
theorem q6R (g:GW) (c:Int):OkV Tryz.prog q0N [.int .u8 c] g (.bool (lowB c)) :=
 Ok.of_fn hm noT 0 qWN (args:=[.v (.int .u8 c)]) (by
  repeat' ((conv=>whnf);apply And.intro<;>intro _)
  all_goals ((conv=>whnf);intro g2 hg;simp_all [lowB]<;>omega))
theorem qXO (g:GW) (c:Int):OkV Tryz.prog qyB [.int .u8 c] g (.bool (qtI c)) :=
 Ok.of_fn hm noT 0 qyJ (args:=[.v (.int .u8 c)]) (by
  conv=>whnf
  refine .inl ⟨_,q6R _ _,?_⟩
  repeat' ((conv=>whnf);apply And.intro<;>intro _)
  all_goals ((conv=>whnf);intro g2 hg;simp_all [qtI]<;>omega))
def tN:List (Nat×FnI):=[(qaM,qWI),(qhF,q1C)]
theorem qGT:qIH Tryz.prog tN:=by
 intro x hx
 simp only [tN,List.mem_cons,List.not_mem_nil,or_false] at hx
 rcases hx with rfl|rfl
 ·exact⟨_,_,q3L⟩
 ·exact⟨_,_,qUF⟩
theorem qoG (g:GW) (s:ByteArray):OkV Tryz.prog qcM [.string s] g (.bool (qqD (bs s))) :=
 Ok.of_fn hm qGT 1 q5L (args:=[.v (.string s)]) (by
  conv=>whnf
  refine⟨fun h1=>?_,fun h1=>?_⟩
  ·conv=>whnf
   refine⟨fun h2=>?_,fun h2=>?_⟩
   ·have k1:=of_decide_eq_true h1
    have k2:=of_decide_eq_true h2
    rw [q4A] at k1 k2
    obtain⟨c0,hc0⟩:∃ c0,(bs s)[0]?=some c0:=⟨(bs s)[0]'(by omega),List.getElem?_eq_getElem (by omega)⟩
    have hlow:(bs s).head?.any (fun c=>lowB c.toNat)=lowB c0.toNat:=by rw [List.head?_eq_getElem?,hc0];rfl
    conv=>whnf
    refine⟨c0,⟨by omega,hc0⟩,?_⟩
    conv=>whnf
    refine .inl ⟨_,q6R _ _,?_⟩
    conv=>whnf
    refine⟨fun h3=>?_,fun h3=>?_⟩
    ·conv=>whnf
     intro b1
     conv=>whnf
     refine⟨rfl,?_⟩
     conv=>whnf
     refine⟨rfl,?_⟩
     conv=>whnf
     intro b2
     conv=>whnf
     refine⟨Nat,fun i=>[.v (.int .i64 i)],fun _=>⟨g,[.blk 1 b2 _ [.v (.func (.func qyB) #[] #[])],.blk 0 b1 _ [.v (.func (.func qyB) #[] #[])]],_,_⟩,fun i=>i≤(bs s).length∧((bs s).take i).all (fun c=>qtI c.toNat)=true,fun i=>(bs s).length-i,fun _ _ hw=>⟨0,rfl,⟨Nat.zero_le _,rfl⟩,hw⟩,?_⟩
     intro i hJ
     have hi:=hJ.1
     have hall:=hJ.2
     conv=>whnf
     refine⟨fun h=>?_,fun h=>?_⟩
     ·have h':i<(bs s).length:=by have:=of_decide_eq_true h;rw [q4A] at this;omega
      obtain⟨c,hcc,hc⟩:∃ c,(bs s)[i]=c∧(bs s)[i]?=some c:=⟨_,rfl,List.getElem?_eq_getElem h'⟩
      have hgood:∀ b,qtI c.toNat=b→((bs s).take (i+1)).all (fun c=>qtI c.toNat)=b:=fun b hb=>by rw [q8F h',hall,hcc,hb];rfl
      have hw2:IntKind.i64.wrap ((i:Int)+1)=((i+1:Nat):Int):=by rw [wr (by omega)];simp
      conv=>whnf
      refine⟨c,⟨by omega,hc⟩,?_⟩
      conv=>whnf
      refine⟨fun hz=>?_,fun hz=>?_⟩
      ·conv=>whnf
       refine⟨rfl,?_⟩
       conv=>whnf
       refine⟨c,⟨by omega,hc⟩,?_⟩
       conv=>whnf
       refine⟨qWG,?_⟩
       conv=>whnf
       refine .inl ⟨_,qXO _ _,?_⟩
       conv=>whnf
       refine⟨fun hb=>?_,fun hb=>?_⟩
       ·conv=>whnf
        intro g2 hg
        rw [qqD,qaC h' (by rw [hcc];simpa using hb)];simp
       ·conv=>whnf
        refine fun _ _ hw=>⟨i+1,congrArg (fun z=>[Value.int .i64 z]) hw2.symm,⟨h',hgood _ (by simpa using hb)⟩,dec h',hw⟩
      ·conv=>whnf
       refine fun _ _ hw=>⟨i+1,congrArg (fun z=>[Value.int .i64 z]) hw2.symm,⟨h',hgood _ (by simp at hz;simp [qtI,hz])⟩,dec h',hw⟩
     ·conv=>whnf
      intro g2 hg
      have:i=(bs s).length:=by have:=of_decide_eq_false h;rw [q4A] at this;omega
      rw [this,List.take_length] at hall
      rw [qqD,hall,hlow,h3,decide_eq_true (p:=0<(bs s).length) (by omega),decide_eq_true (p:=(bs s).length≤16) (by omega)];rfl
    ·conv=>whnf
     intro g2 hg
     simp [qqD,hlow,h3]
   ·conv=>whnf
    intro g2 hg
    have:=of_decide_eq_false h2
    rw [q4A] at this
    rw [qqD,decide_eq_false (p:=(bs s).length≤16) (by omega)];simp
  ·conv=>whnf
   intro g2 hg
   have:=of_decide_eq_false h1
   rw [q4A] at this
   rw [qqD,decide_eq_false (p:=0<(bs s).length) (by omega)];simp)
/- What IndexByte of Go's library tells: the model's own answer. -/
open Go.RowKit Go.Lib
theorem ib (s:ByteArray) (c:Int) (w:World):Calls Tryz.prog 186 #[.string s,.int .u8 c] w fun e w'=>e=.returned (.int .i64 (Lib.indexByte s.data.toList c.toNat.toUInt8))∧w'=w:=by
 go_enter Tryz.func186,Tryz.ntmps186
 go_wp2
 rw [run_callFunc_extern Tryz.func187 (by kernel_rfl) (by kernel_rfl) (by kernel_rfl) (e:=Extern.BytealgIndexByte.indexByte) (by kernel_rfl),Lib.run_indexByteString]
 simp only [Result.andThen]
 rw [Oper.upon_value]
 go_wp2
 go_ret
 exact⟨rfl,rfl⟩
open Go.Proofs.YtkbbljngpglnkaaGreat.Sx
theorem ok_ib (g:GW) (s:ByteArray) (c:Int):OkV Tryz.prog qyE [.string s,.int .u8 c] g (.int .i64 (Lib.indexByte (bs s) c.toNat.toUInt8)) :=
 Ok.of_same fun w=>(ib s c w).mono fun _ _ h=>⟨h.1,h.2.symm⟩
theorem qTM (g:GW) (s:ByteArray) (c:Int):OkV Tryz.prog qpG [.string s,.int .u8 c] g (.int .i64 (Lib.indexByte (bs s) c.toNat.toUInt8)) :=
 Ok.of_fn hm noT 0 qcG (args:=[.v (.string s),.v (.int .u8 c)]) (by
  conv=>whnf
  refine .inl ⟨_,ok_ib _ _ _,?_⟩
  conv=>whnf
  intro g2 hg
  rfl)
def tH:List (Nat×FnI):=[(qRL,qnH),(qQJ,qrF)]
theorem tH_ok:qIH Tryz.prog tH:=by
 intro x hx
 simp only [tH,List.mem_cons,List.not_mem_nil,or_false] at hx
 rcases hx with rfl|rfl
 ·exact⟨_,_,qyK⟩
 ·exact⟨_,_,qzI⟩
theorem qMQ (g:GW) (s:ByteArray):OkV Tryz.prog qdM [.string s] g (.bool (qqM (bs s))) :=
 Ok.of_fn hm tH_ok 2 q6L (args:=[.v (.string s)]) (by
  conv=>whnf
  intro b0
  conv=>whnf
  refine⟨fun h1=>?_,fun h1=>?_⟩
  ·conv=>whnf
   refine⟨rfl,?_⟩
   conv=>whnf
   refine⟨rfl,?_⟩
   conv=>whnf
   intro g2 hg
   have:=of_decide_eq_true h1
   rw [q4A] at this
   rw [qqM,decide_eq_false (by omega)];rfl
  ·conv=>whnf
   intro b1
   conv=>whnf
   intro b2
   conv=>whnf
   refine⟨qdJ,fun l rr=>?_⟩
   conv=>whnf
   refine⟨ByteArray,fun _=>[],fun t=>⟨g,[.lp 3 l rr .ready,.blk 2 b2 _ [.v (.int .u8 46)],.blk 1 b1 _ [.v (.string t)],.blk 0 b0 _ [.v (.bool false)]],_,_⟩,fun t=>t.size≤32∧(qvC 46 (bs t)).all qqD=(qvC 46 (bs s)).all qqD,fun t=>t.size,fun _ _ hw=>⟨s,rfl,⟨by have:=of_decide_eq_false h1;omega,rfl⟩,hw⟩,?_⟩
   intro t hJJ
   have hJ:=hJJ.2
   have hJ1:=hJJ.1
   have hlast:Lib.indexByte (bs t) (46:Int).toNat.toUInt8<0→qvC 46 (bs t)=[bs t]:=fun h=>by
    rcases qcF 46 (bs t) with ⟨_,h2⟩|⟨i,_,h2,_⟩
    ·exact h2
    ·rw [show(46:Int).toNat.toUInt8=46 from rfl,h2] at h;omega
   conv=>whnf
   refine⟨rfl,?_⟩
   conv=>whnf
   refine⟨rfl,?_⟩
   conv=>whnf
   refine .inl ⟨_,qTM _ _ _,?_⟩
   conv=>whnf
   refine⟨fun h2=>?_,fun h2=>?_⟩
   ·conv=>whnf
    refine⟨rfl,?_⟩
    conv=>whnf
    refine⟨rfl,?_⟩
    conv=>whnf
    refine⟨⟨rfl,rfl⟩,?_⟩
    conv=>whnf
    refine⟨rfl,?_⟩
    conv=>whnf
    refine .inl ⟨_,qoG _ _,?_⟩
    conv=>whnf
    refine⟨fun h3=>?_,fun h3=>?_⟩
    ·conv=>whnf
     refine⟨rfl,?_⟩
     conv=>whnf
     refine⟨rfl,?_⟩
     conv=>whnf
     refine⟨rfl,?_⟩
     conv=>whnf
     refine⟨rfl,?_⟩
     conv=>whnf
     intro g2 hg
     have hn:(qvC 46 (bs t)).all qqD=false:=by rw [hlast (of_decide_eq_true h2)];simp at h3;simp [h3]
     rw [qqM,← hJ,hn];simp
    ·conv=>whnf
     refine⟨rfl,?_⟩
     conv=>whnf
     refine⟨rfl,?_⟩
     conv=>whnf
     refine⟨rfl,?_⟩
     conv=>whnf
     refine⟨rfl,?_⟩
     conv=>whnf
     intro g2 hg
     have hn:(qvC 46 (bs t)).all qqD=true:=by rw [hlast (of_decide_eq_true h2)];simp at h3;simp [h3]
     have:=of_decide_eq_false h1
     rw [q4A] at this
     rw [qqM,← hJ,hn,decide_eq_true (by omega)];rfl
   ·have k2:=of_decide_eq_false h2
    obtain⟨i,hi,hidx,hpt⟩:∃ i:Nat,i<(bs t).length∧Lib.indexByte (bs t) (46:Int).toNat.toUInt8=i∧qvC 46 (bs t)=(bs t).take i :: qvC 46 ((bs t).drop (i+1)):=by
     rcases qcF 46 (bs t) with ⟨h1,_⟩|h
     ·rw [show(46:Int).toNat.toUInt8=46 from rfl,h1] at k2;omega
     ·exact h
    have hts:=q4A t
    conv=>whnf
    refine⟨rfl,?_⟩
    conv=>whnf
    refine⟨⟨by rw [hidx];omega,by rw [hidx];omega⟩,?_⟩
    conv=>whnf
    refine⟨rfl,?_⟩
    conv=>whnf
    refine⟨⟨rfl,rfl⟩,?_⟩
    conv=>whnf
    refine⟨rfl,?_⟩
    conv=>whnf
    refine .inl ⟨_,qoG _ _,?_⟩
    have hx1:bs (t.extract 0 (Lib.indexByte (bs t) (46:Int).toNat.toUInt8).toNat)=(bs t).take i:=by rw [q7F,hidx];simp
    conv=>whnf
    refine⟨fun h3=>?_,fun h3=>?_⟩
    ·conv=>whnf
     refine⟨rfl,?_⟩
     conv=>whnf
     refine⟨rfl,?_⟩
     conv=>whnf
     refine⟨rfl,?_⟩
     conv=>whnf
     refine⟨rfl,?_⟩
     conv=>whnf
     intro g2 hg
     rw [hx1] at h3
     have hn:(qvC 46 (bs t)).all qqD=false:=by rw [hpt];simp at h3;simp [h3]
     rw [qqM,← hJ,hn];simp
    ·conv=>whnf
     refine⟨rfl,?_⟩
     conv=>whnf
     refine⟨rfl,?_⟩
     have hw2:IntKind.i64.wrap (Lib.indexByte (bs t) (46:Int).toNat.toUInt8+1)=((i+1:Nat):Int):=by rw [hidx,wr (by omega)];simp
     have hx2:bs (t.extract (IntKind.i64.wrap (Lib.indexByte (bs t) (46:Int).toNat.toUInt8+1)).toNat t.size)=(bs t).drop (i+1):=by
      rw [q7F,hw2,Int.toNat_natCast,hts]
      exact List.take_of_length_le (by simp)
     conv=>whnf
     refine⟨⟨by rw [hw2];omega,by rw [hw2];omega⟩,?_⟩
     conv=>whnf
     refine⟨rfl,?_⟩
     conv=>whnf
     refine fun _ _ hw=>⟨_,rfl,⟨?_,?_⟩,?_,hw⟩
     ·rw [q4A,hx2,List.length_drop];omega
     ·rw [hx1] at h3
      rw [← hJ,hpt,hx2];simp at h3;simp [h3]
     ·show ByteArray.size _<t.size
      rw [q4A,hx2,hts,List.length_drop];omega)
/- Prefixes and suffixes of texts;patterns and paths;the document's parts,hosts,patterns and paths. -/
open Go.Proofs.YtkbbljngpglnkaaGreat.Sx
theorem qUM (g:GW) (s p:BA):OkV Tryz.prog qzE [.string s,.string p] g (.bool (preL (bs p) (bs s))) :=
 Ok.of_fn hm noT 0 qpE (args:=[.v (.string s),.v (.string p)]) (by
  conv=>whnf
  refine⟨fun h=>?_,fun h=>?_⟩
  ·have h':=of_decide_eq_true h
   conv=>whnf
   refine⟨⟨by omega,by omega⟩,?_⟩
   conv=>whnf
   intro g2 hg
   rw [qkN]
   have e1:bs (s.extract 0 (p.size:Int).toNat)=(bs s).take (bs p).length:=by rw [q7F,q4A];simp
   have:=q4A s;have:=q4A p
   rw [decide_eq_true (show(bs p).length≤(bs s).length by omega),← e1];rfl
  ·conv=>whnf
   intro g2 hg
   have h':=of_decide_eq_false h
   have:=q4A s;have:=q4A p
   rw [qkN,decide_eq_false (show ¬ (bs p).length≤(bs s).length by omega)];rfl)
def cutP (s p:BA):BA:=if preL (bs p) (bs s) then s.extract p.size s.size else s
theorem qwS {s p:BA} (h:preL (bs p) (bs s)=true):bs (cutP s p)=(bs s).drop (bs p).length:=by
 unfold cutP
 rw [if_pos h,q7F,q4A s,q4A p]
 exact List.take_of_length_le (by simp)
theorem qKL (g:GW) (s p:BA):OkV Tryz.prog q0E [.string s,.string p] g (.tuple #[.string (cutP s p),.bool (preL (bs p) (bs s))]) :=
 Ok.of_fn hm noT 0 qqE (args:=[.v (.string s),.v (.string p)]) (by
  conv=>whnf
  refine .inl ⟨_,qUM _ _ _,?_⟩
  conv=>whnf
  refine⟨fun h=>?_,fun h=>?_⟩
  ·have h':preL (bs p) (bs s)=false:=by simpa using h
   conv=>whnf
   intro g2 hg
   unfold cutP
   rw [h'];rfl
  ·have h':preL (bs p) (bs s)=true:=by simpa using h
   have hl:p.size≤s.size:=by
    rw [qkN] at h'
    simp only [Bool.and_eq_true,decide_eq_true_eq] at h'
    have:=q4A s;have:=q4A p;omega
   conv=>whnf
   refine⟨⟨by omega,by omega⟩,?_⟩
   conv=>whnf
   intro g2 hg
   unfold cutP
   rw [h'];rfl)
theorem qVM (g:GW) (s p:BA):OkV Tryz.prog qqG [.string s,.string p] g (.tuple #[.string (cutP s p),.bool (preL (bs p) (bs s))]) :=
 Ok.of_fn hm noT 0 qdG (args:=[.v (.string s),.v (.string p)]) (by
  conv=>whnf
  refine .inl ⟨_,qKL _ _ _,?_⟩
  conv=>whnf
  intro g2 hg
  rfl)
theorem qPP (g:GW) (s:BA):OkV Tryz.prog qRJ [.string s] g (.bool (qHD (bs s))) :=
 Ok.of_fn hm noT 0 q0I (args:=[.v (.string s)]) (by
  conv=>whnf
  refine .inl ⟨_,qVM _ _ _,?_⟩
  conv=>whnf
  refine⟨fun h=>?_,fun h=>?_⟩
  ·have h':preL [42,46] (bs s)=true:=h
   conv=>whnf
   refine .inl ⟨_,qMQ _ _,?_⟩
   conv=>whnf
   intro g2 hg
   rw [qHD,h',qwS h];rfl
  ·have h':preL [42,46] (bs s)=false:=h
   conv=>whnf
   refine⟨fun k=>?_,fun k=>?_⟩
   ·conv=>whnf
    intro g2 hg
    rw [qHD,h']
    have k':(bs s==[42])=true:=k
    rw [k'];rfl
   ·conv=>whnf
    refine .inl ⟨_,qMQ _ _,?_⟩
    conv=>whnf
    intro g2 hg
    rw [qHD,h']
    have k':(bs s==[42])=false:=k
    rw [k'];rfl)
theorem qgS (g:GW) (s:BA):OkV Tryz.prog qbM [.string s] g (.bool (qGJ (bs s))) :=
 Ok.of_fn hm qGT 1 q4L (args:=[.v (.string s)]) (by
  have hsz:=q4A s
  conv=>whnf
  refine⟨fun h1=>?_,fun h1=>?_⟩
  ·conv=>whnf
   refine⟨fun h2=>?_,fun h2=>?_⟩
   ·have k1:=of_decide_eq_true h1
    have k2:=of_decide_eq_true h2
    obtain⟨c0,hc0⟩:∃ c0,(bs s)[0]?=some c0:=qBA (by omega)
    have hh:(bs s).head?.any (fun c=>(c.toNat:Int)==47)=((c0.toNat:Int)==47):=by rw [List.head?_eq_getElem?,hc0];rfl
    conv=>whnf
    refine⟨c0,⟨by omega,hc0⟩,?_⟩
    conv=>whnf
    refine⟨fun h3=>?_,fun h3=>?_⟩
    ·conv=>whnf
     intro b1
     conv=>whnf
     refine⟨rfl,?_⟩
     conv=>whnf
     refine⟨rfl,?_⟩
     conv=>whnf
     intro b2
     conv=>whnf
     refine⟨Nat,fun i=>[.v (.int .i64 i)],fun _=>⟨g,[.blk 1 b2 _ [.v (.func (.func qyB) #[] #[])],.blk 0 b1 _ [.v (.func (.func qyB) #[] #[])]],_,_⟩,fun i=>i≤(bs s).length∧((bs s).take i).all (fun c=>(c.toNat:Int)==47||qtI c.toNat)=true,fun i=>(bs s).length-i,fun _ _ hw=>⟨0,rfl,⟨Nat.zero_le _,rfl⟩,hw⟩,?_⟩
     intro i hJ
     have hi:=hJ.1
     have hall:=hJ.2
     conv=>whnf
     refine⟨fun h=>?_,fun h=>?_⟩
     ·have h':i<(bs s).length:=by have:=of_decide_eq_true h;omega
      obtain⟨c,hcc,hc⟩:∃ c,(bs s)[i]=c∧(bs s)[i]?=some c:=⟨_,rfl,List.getElem?_eq_getElem h'⟩
      have hgood:∀ b,((c.toNat:Int)==47||qtI c.toNat)=b→((bs s).take (i+1)).all (fun c=>(c.toNat:Int)==47||qtI c.toNat)=b:=fun b hb=>by rw [q8F h',hall,hcc,hb];rfl
      have hw2:IntKind.i64.wrap ((i:Int)+1)=((i+1:Nat):Int):=by rw [wr (by omega)];simp
      conv=>whnf
      refine⟨c,⟨by omega,hc⟩,?_⟩
      conv=>whnf
      refine⟨fun hz=>?_,fun hz=>?_⟩
      ·conv=>whnf
       refine⟨rfl,?_⟩
       conv=>whnf
       refine⟨c,⟨by omega,hc⟩,?_⟩
       conv=>whnf
       refine⟨qWG,?_⟩
       conv=>whnf
       refine .inl ⟨_,qXO _ _,?_⟩
       conv=>whnf
       refine⟨fun hb=>?_,fun hb=>?_⟩
       ·conv=>whnf
        intro g2 hg
        simp at hz hb
        rw [qGJ,qaC h' (by rw [hcc];simp [hz,hb])];simp
       ·conv=>whnf
        refine fun _ _ hw=>⟨i+1,congrArg (fun z=>[Value.int .i64 z]) hw2.symm,⟨h',hgood _ (by simp at hb;simp [hb])⟩,dec h',hw⟩
      ·conv=>whnf
       refine fun _ _ hw=>⟨i+1,congrArg (fun z=>[Value.int .i64 z]) hw2.symm,⟨h',hgood _ (by simp at hz;simp [hz])⟩,dec h',hw⟩
     ·conv=>whnf
      intro g2 hg
      have:i=(bs s).length:=by have:=of_decide_eq_false h;omega
      rw [this,List.take_length] at hall
      rw [qGJ,hall,hh,h3,decide_eq_true (p:=0<(bs s).length) (by omega),decide_eq_true (p:=(bs s).length≤32) (by omega)];rfl
    ·conv=>whnf
     intro g2 hg
     simp [qGJ,hh,h3]
   ·conv=>whnf
    intro g2 hg
    have:=of_decide_eq_false h2
    rw [qGJ,decide_eq_false (p:=(bs s).length≤32) (by omega)];simp
  ·conv=>whnf
   intro g2 hg
   have:=of_decide_eq_false h1
   rw [qGJ,decide_eq_false (p:=0<(bs s).length) (by omega)];simp)
/- Whether a configuration may be: the program's and the document's answers. -/
open Go.Proofs.YtkbbljngpglnkaaGreat.Sx
theorem qTR (g:GW) {v:Value} {l:List BA} (hl:rSl 1 rStr g v l) (s:BA):OkV Tryz.prog qwC [v,.string s] g (.int .i64 (idxI (idxO (fun x=>bs s==bs x) l))) :=
 Ok.of_fn hm noT 0 qsC (args:=[.v v,.v (.string s)]) (by
  obtain⟨oa,cap,rfl,h1,h2,h0,hr⟩:=hl
  repeat((conv=>whnf);first|apply qza|apply qzb|apply qzc|apply qzd|apply qze|intro(_:Nat))
  conv=>whnf
  refine⟨Nat,fun k=>[.v (.int .i64 k)],fun k=>⟨g,[],_,_⟩,fun k=>k≤l.length∧Pass (idxF fun x=>bs s==bs x) l k,fun k=>l.length-k,qFA 0 rfl ⟨Nat.zero_le _,Pass.zero _ _⟩ rfl,?_⟩
  rintro k ⟨hk,hp⟩
  conv=>whnf
  refine⟨fun hlt=>?_,fun hlt=>?_⟩
  ·have h':k<l.length:=by have:=of_decide_eq_true hlt;omega
   obtain⟨x,hx⟩:=qBA h'
   obtain⟨a,rfl,ec,hec,rfl,hc⟩:=hr k x hx
   conv=>whnf
   refine⟨a,rfl,⟨by omega,by omega⟩,?_⟩
   conv=>whnf
   refine⟨_,hc 0 _ rfl,?_⟩
   conv=>whnf
   refine⟨fun he=>?_,fun he=>?_⟩
   ·conv=>whnf
    intro g2 hg
    rw [qcL hp hx he]
   ·conv=>whnf
    refine fun fr w hw=>⟨k+1,congrArg (fun z=>[Value.int .i64 z]) (wr1 h' h1 h2).symm,⟨h',qpI hp hx he⟩,dec h',hw⟩
  ·conv=>whnf
   intro g2 hg
   have:=of_decide_eq_false hlt
   rw [qiH hp (by omega)])
theorem qKJ (g:GW) {v:Value} {l:List BA} (hl:rSl 1 rStr g v l) (s:BA):OkV Tryz.prog qUC [v,.string s] g (.bool (hasS l s)) :=
 Ok.of_fn hm noT 0 qQC (args:=[.v v,.v (.string s)]) (by
  conv=>whnf
  refine .inl ⟨_,qTR _ hl _,?_⟩
  conv=>whnf
  intro g2 hg
  rw [q8N]
  have:(fun x=>bs s==bs x)=fun x=>bs x==bs s:=by funext x;exact qvQ _ _
  rw [this];rfl)
def tC:List (Nat×FnI):=[(quA,qTA),(q9A,qWA),(qeI,qIF)]
theorem tC_ok:qIH Tryz.prog tC:=by
 intro x hx
 simp only [tC,List.mem_cons,List.not_mem_nil,or_false] at hx
 rcases hx with rfl|rfl|rfl
 ·exact⟨_,_,qsA⟩
 ·exact⟨_,_,q7A⟩
 ·exact⟨_,_,qbI⟩
theorem qYO (g:GW) {v:Value} {l:List Cluster} (hl:rSl 4 qrC g v l) (s:BA):OkV Tryz.prog qBK [v,.string s] g (.bool (hasC l s)) :=
 Ok.of_fn hm tC_ok 3 qzJ (args:=[.v v,.v (.string s)]) (by
  obtain⟨oa,cap,rfl,h1,h2,h0,hr⟩:=hl
  repeat((conv=>whnf);first|apply qza|apply qzb|apply qzc|apply qzd|apply qze|intro(_:Nat))
  conv=>whnf
  refine⟨Nat,fun k=>[.v (.int .i64 k)],fun k=>⟨g,[.blk 0 _ _ [.v (.string s)]],_,_⟩,fun k=>k≤l.length∧Pass (idxF fun (x:Cluster)=>bs x.name==bs s) l k,fun k=>l.length-k,qFA 0 rfl ⟨Nat.zero_le _,Pass.zero _ _⟩ rfl,?_⟩
  rintro k ⟨hk,hp⟩
  conv=>whnf
  refine⟨fun hlt=>?_,fun hlt=>?_⟩
  ·have h':k<l.length:=by have:=of_decide_eq_true hlt;omega
   obtain⟨x,hx⟩:=qBA h'
   obtain⟨a,rfl,ec,hec,⟨hv,rfl,_,_,_,_,rfl,_⟩,hc⟩:=hr k x hx
   conv=>whnf
   refine⟨a,rfl,⟨by omega,by omega⟩,?_⟩
   conv=>whnf
   refine⟨_,⟨rfl,hc⟩,?_⟩
   conv=>whnf
   refine⟨qiI,?_⟩
   repeat((conv=>whnf);first|apply qza|apply qzb|apply qzc|apply qzd|apply qze|intro(_:Nat))
   conv=>whnf
   refine⟨fun he=>?_,fun he=>?_⟩
   ·conv=>whnf
    intro g2 hg
    have:hasC l s=true:=List.any_eq_true.2 ⟨x,List.mem_of_getElem? hx,he⟩
    rw [this];simp
   ·conv=>whnf
    refine fun fr w hw=>⟨k+1,congrArg (fun z=>[Value.int .i64 z]) (wr1 h' h1 h2).symm,⟨h',qpI hp hx he⟩,dec h',?_⟩
    exact hw.fit (by simp [fitL,Res.eqv,qAA,conc])
  ·conv=>whnf
   intro g2 hg
   have:=of_decide_eq_false hlt
   have h3:=q8N (fun (x:Cluster)=>bs x.name==bs s) l
   rw [qiH hp (by omega)] at h3
   rw [show hasC l s=false from by rw [hasC,← h3];rfl];rfl)
theorem qPM (g:GW) (n a b:Int):OkV Tryz.prog qVJ [.int .i64 n,.int .i64 a,.int .i64 b] g (.bool (decide (a≤n)&&decide (n≤b))) :=
 Ok.of_fn hm noT 0 q4I (args:=[.v (.int .i64 n),.v (.int .i64 a),.v (.int .i64 b)]) (by
  repeat'((conv=>whnf);first|apply qza|apply qzb|apply qzc|apply qzd|apply qze|intro(_:Nat)|refine .inl ⟨_,rfl,?_⟩|refine⟨fun _=>?_,fun _=>?_⟩|fail)
  all_goals (conv=>whnf)
  all_goals (intro g2 hg)
  all_goals (first|(simp_all;done)|(simp_all;omega)))
theorem qZO (g:GW) {cs:List Value} {c:Config} (hc:qAE g cs c):OkV Tryz.prog qcC [.agg ⟨cs⟩] g (eiT (q3J c)):=by
 obtain⟨a,b,d,rfl,hl,hr,hk⟩:=hc
 obtain⟨oa,ca,rfl,a1,a2,a0,hl1⟩:=id hl
 obtain⟨ob,cb,rfl,b1,b2,b0,hr1⟩:=id hr
 obtain⟨od,cd,rfl,d1,d2,d0,hk1⟩:=id hk
 exact Ok.of_fn hm noT 0 qKF (args:=[.v (.agg ⟨[.slice oa c.listens.length ca,.slice ob c.routes.length cb,.slice od c.clusters.length cd]⟩)]) (by
  repeat'((conv=>whnf);first|apply qza|apply qzb|apply qzc|apply qzd|apply qze|intro(_:Nat)|refine .inl ⟨_,qPM _ _ _ _,?_⟩|refine⟨fun _=>?_,fun _=>?_⟩|fail)
  all_goals (conv=>whnf)
  all_goals (intro g2 hg)
  all_goals first|(rw [show q3J c=some (6,0) from if_neg (by simp_all;try omega)];rfl;done)|(rw [show q3J c=none from if_pos (by simp_all;try omega)];rfl))
theorem qJJ (g:GW) {cs:List Value} {c:Config} (hc:qAE g cs c):OkV Tryz.prog qzB [.agg ⟨cs⟩] g (eiT (qKD c)):=by
 obtain⟨a,b,d,rfl,hl,hr,hk⟩:=hc
 obtain⟨oa,ca,rfl,a1,a2,a0,hl1⟩:=id hl
 obtain⟨ob,cb,rfl,b1,b2,b0,hr1⟩:=id hr
 obtain⟨od,cd,rfl,d1,d2,d0,hk1⟩:=id hk
 exact Ok.of_fn hm noT 0 q5D (args:=[.v (.agg ⟨[.slice oa c.listens.length ca,.slice ob c.routes.length cb,.slice od c.clusters.length cd]⟩)]) (by
  repeat((conv=>whnf);first|apply qza|apply qzb|apply qzc|apply qzd|apply qze|intro(_:Nat))
  conv=>whnf
  refine⟨Nat,fun k=>[.v (.int .i64 k)],fun k=>⟨g,[.blk 0 _ _ [.v (.slice oa c.listens.length ca),.v (.slice ob c.routes.length cb),.v (.slice od c.clusters.length cd)]],_,_⟩,fun k=>k≤c.listens.length∧Pass (q2E c.listens) c.listens k,fun k=>c.listens.length-k,qFA 0 rfl ⟨Nat.zero_le _,Pass.zero _ _⟩ rfl,?_⟩
  rintro k ⟨hk,hp⟩
  conv=>whnf
  refine⟨fun hlt=>?_,fun hlt=>?_⟩
  ·have h':k<c.listens.length:=by have:=of_decide_eq_true hlt;omega
   obtain⟨x,hx⟩:=qBA h'
   obtain⟨a,rfl,ec,hec,rfl,hc⟩:=hl1 k x hx
   conv=>whnf
   refine⟨a,rfl,⟨by omega,by omega⟩,?_⟩
   conv=>whnf
   refine⟨_,hc 0 _ rfl,?_⟩
   repeat((conv=>whnf);first|apply qza|apply qzb|apply qzc|apply qzd|apply qze|intro(_:Nat))
   conv=>whnf
   refine .inl ⟨_,qoG _ _,?_⟩
   conv=>whnf
   refine⟨fun hn=>?_,fun hn=>?_⟩
   ·conv=>whnf
    intro g2 hg
    rw [show qKD c=some ((3,k):EI) from hp.hit hx (by rw [q2E,if_neg (by simp [nb1 hn])])];rfl
   ·repeat((conv=>whnf);first|apply qza|apply qzb|apply qzc|apply qzd|apply qze|intro(_:Nat))
    conv=>whnf
    refine⟨⟨by omega,by omega⟩,?_⟩
    repeat((conv=>whnf);first|apply qza|apply qzb|apply qzc|apply qzd|apply qze|intro(_:Nat))
    conv=>whnf
    refine .inl ⟨_,qKJ _ (hl.take (Nat.le_of_lt h')) _,?_⟩
    conv=>whnf
    refine⟨fun hs=>?_,fun hs=>?_⟩
    ·conv=>whnf
     intro g2 hg
     rw [show qKD c=some ((4,k):EI) from hp.hit hx (by rw [q2E,if_pos (nb0 hn),if_pos hs])];rfl
    ·conv=>whnf
     refine fun fr w hw=>⟨k+1,congrArg (fun z=>[Value.int .i64 z]) (wr1 h' a1 a2).symm,⟨h',hp.succ hx (by rw [q2E,if_pos (nb0 hn),if_neg (by simp [hs])])⟩,dec h',?_⟩
     exact hw.fit (by simp [fitL,Res.eqv,qAA,conc])
  ·conv=>whnf
   intro g2 hg
   have:=of_decide_eq_false hlt
   rw [show qKD c=none from hp.done (by omega)];rfl)
theorem qQI (g:GW) {cs:List Value} {c:Config} (hc:qAE g cs c):OkV Tryz.prog qkB [.agg ⟨cs⟩] g (eiT (q3C c)):=by
 obtain⟨a,b,d,rfl,hl,hr,hk⟩:=hc
 obtain⟨oa,ca,rfl,a1,a2,a0,hl1⟩:=id hl
 obtain⟨ob,cb,rfl,b1,b2,b0,hr1⟩:=id hr
 obtain⟨od,cd,rfl,d1,d2,d0,hk1⟩:=id hk
 exact Ok.of_fn hm noT 0 qnD (args:=[.v (.agg ⟨[.slice oa c.listens.length ca,.slice ob c.routes.length cb,.slice od c.clusters.length cd]⟩)]) (by
  repeat((conv=>whnf);first|apply qza|apply qzb|apply qzc|apply qzd|apply qze|intro(_:Nat))
  conv=>whnf
  refine⟨Nat,fun k=>[.v (.int .i64 k)],fun k=>⟨g,[.blk 0 _ _ [.v (.slice oa c.listens.length ca),.v (.slice ob c.routes.length cb),.v (.slice od c.clusters.length cd)]],_,_⟩,fun k=>k≤c.clusters.length∧Pass (qpA c.clusters) c.clusters k,fun k=>c.clusters.length-k,qFA 0 rfl ⟨Nat.zero_le _,Pass.zero _ _⟩ rfl,?_⟩
  rintro k ⟨hkk,hp⟩
  conv=>whnf
  refine⟨fun hlt=>?_,fun hlt=>?_⟩
  ·have h':k<c.clusters.length:=by have:=of_decide_eq_true hlt;omega
   obtain⟨x,hx⟩:=qBA h'
   obtain⟨a,rfl,ec,hec,⟨hv,rfl,_,_,_,_,rfl,_⟩,hc⟩:=hk1 k x hx
   have hit:∀ e:EI,qpA c.clusters k x=some e→q3C c=some e:=fun e he=>hp.hit hx he
   conv=>whnf
   refine⟨a,rfl,⟨by omega,by omega⟩,?_⟩
   conv=>whnf
   refine⟨_,⟨rfl,hc⟩,?_⟩
   repeat((conv=>whnf);first|apply qza|apply qzb|apply qzc|apply qzd|apply qze|intro(_:Nat))
   conv=>whnf
   refine .inl ⟨_,qoG _ _,?_⟩
   conv=>whnf
   refine⟨fun hn=>?_,fun hn=>?_⟩
   ·conv=>whnf
    intro g2 hg
    rw [hit (3,k) (by rw [qpA,if_neg (by simp [nb1 hn])])];rfl
   have hn:=nb0 hn
   repeat((conv=>whnf);first|apply qza|apply qzb|apply qzc|apply qzd|apply qze|intro(_:Nat))
   conv=>whnf
   refine⟨⟨by omega,by omega⟩,?_⟩
   repeat((conv=>whnf);first|apply qza|apply qzb|apply qzc|apply qzd|apply qze|intro(_:Nat))
   conv=>whnf
   refine .inl ⟨_,qYO _ (hk.take (Nat.le_of_lt h')) _,?_⟩
   conv=>whnf
   refine⟨fun hs=>?_,fun hs=>?_⟩
   ·conv=>whnf
    intro g2 hg
    rw [hit (4,k) (by rw [qpA,if_pos hn,if_pos hs])];rfl
   have hp9:¬(x.policy=1∨x.policy=2)→qpA c.clusters k x=some (9,(k:Int)):=fun h=>by rw [qpA,if_pos hn,if_neg (by simp [hs]),if_neg h]
   have hp10:(x.policy=1∨x.policy=2)→¬(1≤x.slots∧x.slots≤4)→qpA c.clusters k x=some (10,(k:Int)):=fun h h2=>by rw [qpA,if_pos hn,if_neg (by simp [hs]),if_pos h,if_neg h2]
   have hp6:(x.policy=1∨x.policy=2)→(1≤x.slots∧x.slots≤4)→¬(1≤x.health.length∧x.health.length≤4)→qpA c.clusters k x=some (6,(k:Int)):=fun h h2 h3=>by rw [qpA,if_pos hn,if_neg (by simp [hs]),if_pos h,if_pos h2,if_neg h3]
   have hp0:(x.policy=1∨x.policy=2)→(1≤x.slots∧x.slots≤4)→(1≤x.health.length∧x.health.length≤4)→qpA c.clusters k x=none:=fun h h2 h3=>by rw [qpA,if_pos hn,if_neg (by simp [hs]),if_pos h,if_pos h2,if_pos h3]
   have hpn:=fun e=>hp.succ hx e
   clear hlt hp
   repeat'((conv=>whnf);first|apply qza|apply qzb|apply qzc|apply qzd|apply qze|intro(_:Nat)|refine .inl ⟨_,qPM _ _ _ _,?_⟩|refine⟨fun _=>?_,fun _=>?_⟩|fail)
   all_goals (conv=>whnf)
   all_goals (try simp only [bne_iff_ne,ne_eq,bne_eq_false_iff_eq,Bool.not_eq_true',Bool.not_eq_false',Bool.and_eq_true,Bool.and_eq_false_iff,decide_eq_true_eq,decide_eq_false_iff_not] at *)
   all_goals first
    | (intro g2 hg;rw [hit (9,k) (hp9 (by omega))];rfl;done)
    | (intro g2 hg;rw [hit (10,k) (hp10 (by omega) (by omega))];rfl;done)
    | (intro g2 hg;rw [hit (6,k) (hp6 (by omega) (by omega) (by omega))];rfl;done)
    | refine fun fr w hw=>⟨k+1,congrArg (fun z=>[Value.int .i64 z]) (wr1 h' d1 d2).symm,⟨h',hpn (hp0 (by omega) (by omega) (by omega))⟩,dec h',?_⟩
   all_goals (exact hw.fit (by simp [fitL,Res.eqv,qAA,conc]))
  ·conv=>whnf
   intro g2 hg
   have:=of_decide_eq_false hlt
   rw [show q3C c=none from hp.done (by omega)];rfl)
/- Whether a configuration may be: the routes,and the whole. -/
open Go.Proofs.YtkbbljngpglnkaaGreat.Sx
theorem qVK (g:GW) {cs:List Value} {c:Config} (hc:qAE g cs c):OkV Tryz.prog qFC [.agg ⟨cs⟩] g (eiT (qZF c)):=by
 obtain⟨a,b,d,rfl,hl,hr,hk⟩:=hc
 obtain⟨oa,ca,rfl,a1,a2,a0,hl1⟩:=id hl
 obtain⟨ob,cb,rfl,b1,b2,b0,hr1⟩:=id hr
 obtain⟨od,cd,rfl,d1,d2,d0,hk1⟩:=id hk
 exact Ok.of_fn hm noT 0 qQE (args:=[.v (.agg ⟨[.slice oa c.listens.length ca,.slice ob c.routes.length cb,.slice od c.clusters.length cd]⟩)]) (by
  repeat((conv=>whnf);first|apply qza|apply qzb|apply qzc|apply qzd|apply qze|intro(_:Nat))
  conv=>whnf
  refine⟨Nat,fun k=>[.v (.int .i64 k)],fun k=>⟨g,[.blk 0 _ _ [.v (.slice oa c.listens.length ca),.v (.slice ob c.routes.length cb),.v (.slice od c.clusters.length cd)]],_,_⟩,fun k=>k≤c.routes.length∧Pass (qUE c) c.routes k,fun k=>c.routes.length-k,qFA 0 rfl ⟨Nat.zero_le _,Pass.zero _ _⟩ rfl,?_⟩
  rintro k ⟨hkk,hp⟩
  conv=>whnf
  refine⟨fun hlt=>?_,fun hlt=>?_⟩
  ·have h':k<c.routes.length:=by have:=of_decide_eq_true hlt;omega
   obtain⟨x,hx⟩:=qBA h'
   obtain⟨a,rfl,ec,hec,rfl,hc⟩:=hr1 k x hx
   have hit:∀ e:EI,qUE c k x=some e→qZF c=some e:=fun e he=>hp.hit hx he
   conv=>whnf
   refine⟨a,rfl,⟨by omega,by omega⟩,?_⟩
   conv=>whnf
   refine⟨_,⟨rfl,hc⟩,?_⟩
   repeat((conv=>whnf);first|apply qza|apply qzb|apply qzc|apply qzd|apply qze|intro(_:Nat))
   conv=>whnf
   refine .inl ⟨_,qKJ _ hl _,?_⟩
   conv=>whnf
   refine⟨fun h1=>?_,fun h1=>?_⟩
   ·conv=>whnf
    intro g2 hg
    rw [hit (5,k) (by rw [qUE,if_neg (by simp [nb1 h1])])];rfl
   have h1:=nb0 h1
   repeat((conv=>whnf);first|apply qza|apply qzb|apply qzc|apply qzd|apply qze|intro(_:Nat))
   conv=>whnf
   refine .inl ⟨_,qPP _ _,?_⟩
   conv=>whnf
   refine⟨fun h2=>?_,fun h2=>?_⟩
   ·conv=>whnf
    intro g2 hg
    rw [hit (7,k) (by rw [qUE,if_pos h1,if_neg (by simp [nb1 h2])])];rfl
   have h2:=nb0 h2
   repeat((conv=>whnf);first|apply qza|apply qzb|apply qzc|apply qzd|apply qze|intro(_:Nat))
   conv=>whnf
   refine .inl ⟨_,qgS _ _,?_⟩
   conv=>whnf
   refine⟨fun h3=>?_,fun h3=>?_⟩
   ·conv=>whnf
    intro g2 hg
    rw [hit (8,k) (by rw [qUE,if_pos h1,if_pos h2,if_neg (by simp [nb1 h3])])];rfl
   have h3:=nb0 h3
   repeat((conv=>whnf);first|apply qza|apply qzb|apply qzc|apply qzd|apply qze|intro(_:Nat))
   conv=>whnf
   refine .inl ⟨_,qYO _ hk _,?_⟩
   conv=>whnf
   refine⟨fun h4=>?_,fun h4=>?_⟩
   ·conv=>whnf
    intro g2 hg
    rw [hit (5,k) (by rw [qUE,if_pos h1,if_pos h2,if_pos h3,if_neg (by simp [nb1 h4])])];rfl
   have h4:=nb0 h4
   repeat((conv=>whnf);first|apply qza|apply qzb|apply qzc|apply qzd|apply qze|intro(_:Nat))
   conv=>whnf
   refine⟨⟨by omega,by omega⟩,?_⟩
   repeat((conv=>whnf);first|apply qza|apply qzb|apply qzc|apply qzd|apply qze|intro(_:Nat))
   conv=>whnf
   refine⟨Nat,fun m=>[.v (.int .i64 m)],fun m=>⟨g,[.blk 1 _ _ [.v (.string x.listen),.v (.string x.host),.v (.string x.path),.v (.string ⟨#[]⟩)],.blk 0 _ _ [.v (.slice oa c.listens.length ca),.v (.slice (some a) c.routes.length cb),.v (.slice od c.clusters.length cd)]],_,_⟩,fun m=>m≤k∧(∀ j y,j<m→c.routes[j]?=some y→eqRt y x=false),fun m=>k-m,qFA 0 rfl ⟨Nat.zero_le _,fun j y hj=>by omega⟩ rfl,?_⟩
   rintro m ⟨hmk,hq⟩
   conv=>whnf
   refine⟨fun hml=>?_,fun hml=>?_⟩
   ·have hm':m<k:=by have:=of_decide_eq_true hml;simp at this;omega
    obtain⟨y,hy⟩:=qBA (show m<c.routes.length by omega)
    obtain⟨a',ha',ecy,hecy,rfl,hcy⟩:=hr1 m y hy
    cases ha'
    conv=>whnf
    refine⟨a,rfl,⟨by omega,by simp;omega⟩,?_⟩
    conv=>whnf
    refine⟨_,⟨rfl,hcy⟩,?_⟩
    repeat((conv=>whnf);first|apply qza|apply qzb|apply qzc|apply qzd|apply qze|intro(_:Nat))
    conv=>whnf
    refine⟨fun he=>?_,fun he=>?_⟩
    ·conv=>whnf
     intro g2 hg
     have he:eqRt y x=true:=by simpa [eqRt,Bool.and_assoc] using he
     rw [hit (4,k) (by rw [qUE,if_pos h1,if_pos h2,if_pos h3,if_pos h4,if_pos];exact List.any_eq_true.2 ⟨y,List.mem_of_getElem? (show(c.routes.take k)[m]?=some y by rw [List.getElem?_take,if_pos hm'];exact hy),he⟩)];rfl
    ·conv=>whnf
     refine fun fr w hw=>⟨m+1,congrArg (fun z=>[Value.int .i64 z]) (wr1 hm' (Nat.le_of_lt (Nat.lt_of_lt_of_le h' b1)) b2).symm,⟨hm',?_⟩,dec hm',?_⟩
     ·have he:eqRt y x=false:=by simpa [eqRt,Bool.and_assoc] using he
      intro j z hj hz
      rcases Nat.lt_or_ge j m with c1|c1
      ·exact hq j z c1 hz
      ·obtain rfl:j=m:=by omega
       rw [hy] at hz;cases hz;exact he
     ·exact hw.fit (by simp [fitL,Res.eqv,qAA,conc])
   ·conv=>whnf
    refine fun fr w hw=>⟨k+1,congrArg (fun z=>[Value.int .i64 z]) (wr1 h' b1 b2).symm,⟨h',hp.succ hx (by rw [qUE,if_pos h1,if_pos h2,if_pos h3,if_pos h4,if_neg];have:=of_decide_eq_false hml;rw [any_take.2 fun j y hj=>hq j y (by omega)];simp)⟩,dec h',?_⟩
    exact hw.fit (by simp [fitL,Res.eqv,qAA,conc])
  ·conv=>whnf
   intro g2 hg
   have:=of_decide_eq_false hlt
   rw [show qZF c=none from hp.done (by omega)];rfl)
theorem q5M (o:Option EI):(o=none∧eiT o=.tuple #[.int .i64 0,.int .i64 0])∨∃ e i,o=some (e,i)∧eiT o=.tuple #[.int .i64 e,.int .i64 i]:=by
 cases o with
 | none=>exact .inl ⟨rfl,rfl⟩
 | some x=>exact .inr ⟨x.1,x.2,rfl,rfl⟩
theorem qcO (g:GW) {cs:List Value} {c:Config} (hc:qAE g cs c):OkV Tryz.prog qCK [.agg ⟨cs⟩] g (eiT (qCB c)):=by
 have hc0:=hc
 obtain⟨a,b,d,rfl,hl,hr,hk⟩:=hc
 obtain⟨oa,ca,rfl,a1,a2,a0,hl1⟩:=id hl
 obtain⟨ob,cb,rfl,b1,b2,b0,hr1⟩:=id hr
 obtain⟨od,cd,rfl,d1,d2,d0,hk1⟩:=id hk
 exact Ok.of_fn hm noT 0 q0J (args:=[.v (.agg ⟨[.slice oa c.listens.length ca,.slice ob c.routes.length cb,.slice od c.clusters.length cd]⟩)]) (by
  repeat((conv=>whnf);first|apply qza|apply qzb|apply qzc|apply qzd|apply qze|intro(_:Nat))
  conv=>whnf
  refine⟨Nat,fun k=>[.v (.int .i64 k)],fun _=>⟨g,[.blk 2 _ _ [.fn (.func qcC) [.agg [.v (.slice oa c.listens.length ca),.v (.slice ob c.routes.length cb),.v (.slice od c.clusters.length cd)]] [],.fn (.func qzB) [.agg [.v (.slice oa c.listens.length ca),.v (.slice ob c.routes.length cb),.v (.slice od c.clusters.length cd)]] [],.fn (.func qkB) [.agg [.v (.slice oa c.listens.length ca),.v (.slice ob c.routes.length cb),.v (.slice od c.clusters.length cd)]] [],.fn (.func qFC) [.agg [.v (.slice oa c.listens.length ca),.v (.slice ob c.routes.length cb),.v (.slice od c.clusters.length cd)]] []],.blk 1 _ _ [.v (.slice oa c.listens.length ca),.v (.slice ob c.routes.length cb),.v (.slice od c.clusters.length cd)],.blk 0 _ _ [.v (.slice oa c.listens.length ca),.v (.slice ob c.routes.length cb),.v (.slice od c.clusters.length cd)]],_,_⟩,fun k=>k≤4∧(1≤k→q3J c=none)∧(2≤k→qKD c=none)∧(3≤k→q3C c=none)∧(4≤k→qZF c=none),fun k=>4-k,qFA 0 rfl ⟨by omega,by omega,by omega,by omega,by omega⟩ rfl,?_⟩
  rintro k ⟨hk4,j1,j2,j3,j4⟩
  obtain rfl|rfl|rfl|rfl|rfl:k=0∨k=1∨k=2∨k=3∨k=4:=by omega
  ·obtain⟨h0,hv⟩|⟨e,i,h0,hv⟩:=q5M (q3J c)
   ·conv=>whnf
    refine⟨fun _=>?_,fun h=>nomatch h⟩
    conv=>whnf
    refine⟨0,⟨rfl,by decide⟩,?_⟩
    repeat((conv=>whnf);first|apply qza|apply qzb|apply qzc|apply qzd|apply qze|intro(_:Nat))
    conv=>whnf
    refine⟨qdC,?_⟩
    conv=>whnf
    refine .inl ⟨_,(qZO _ hc0).to hv,?_⟩
    conv=>whnf
    refine⟨fun h=>(nomatch h),fun _=>?_⟩
    conv=>whnf
    refine fun fr w hw=>⟨1,rfl,⟨by omega,fun _=>h0,fun h=>absurd h (by omega),fun h=>absurd h (by omega),fun h=>absurd h (by omega)⟩,by decide,?_⟩
    exact hw.fit (by simp [fitL,Res.eqv,qAA,conc])
   ·have hck:qCB c=some (e,i):=by rw [qCB,h0]
    have hne:=qvF hck
    conv=>whnf
    refine⟨fun _=>?_,fun h=>nomatch h⟩
    conv=>whnf
    refine⟨0,⟨rfl,by decide⟩,?_⟩
    repeat((conv=>whnf);first|apply qza|apply qzb|apply qzc|apply qzd|apply qze|intro(_:Nat))
    conv=>whnf
    refine⟨qdC,?_⟩
    conv=>whnf
    refine .inl ⟨_,(qZO _ hc0).to hv,?_⟩
    conv=>whnf
    refine⟨fun _=>?_,fun hx=>absurd hx (by simp;omega)⟩
    conv=>whnf
    intro g2 hg
    rw [hck];rfl
  ·obtain⟨h0,hv⟩|⟨e,i,h0,hv⟩:=q5M (qKD c)
   ·conv=>whnf
    refine⟨fun _=>?_,fun h=>nomatch h⟩
    conv=>whnf
    refine⟨1,⟨rfl,by decide⟩,?_⟩
    repeat((conv=>whnf);first|apply qza|apply qzb|apply qzc|apply qzd|apply qze|intro(_:Nat))
    conv=>whnf
    refine⟨q3B,?_⟩
    conv=>whnf
    refine .inl ⟨_,(qJJ _ hc0).to hv,?_⟩
    conv=>whnf
    refine⟨fun h=>(nomatch h),fun _=>?_⟩
    conv=>whnf
    refine fun fr w hw=>⟨2,rfl,⟨by omega,fun _=>j1 (by omega),fun _=>h0,fun h=>absurd h (by omega),fun h=>absurd h (by omega)⟩,by decide,?_⟩
    exact hw.fit (by simp [fitL,Res.eqv,qAA,conc])
   ·have hck:qCB c=some (e,i):=by rw [qCB,j1 (by omega),h0]
    have hne:=qvF hck
    conv=>whnf
    refine⟨fun _=>?_,fun h=>nomatch h⟩
    conv=>whnf
    refine⟨1,⟨rfl,by decide⟩,?_⟩
    repeat((conv=>whnf);first|apply qza|apply qzb|apply qzc|apply qzd|apply qze|intro(_:Nat))
    conv=>whnf
    refine⟨q3B,?_⟩
    conv=>whnf
    refine .inl ⟨_,(qJJ _ hc0).to hv,?_⟩
    conv=>whnf
    refine⟨fun _=>?_,fun hx=>absurd hx (by simp;omega)⟩
    conv=>whnf
    intro g2 hg
    rw [hck];rfl
  ·obtain⟨h0,hv⟩|⟨e,i,h0,hv⟩:=q5M (q3C c)
   ·conv=>whnf
    refine⟨fun _=>?_,fun h=>nomatch h⟩
    conv=>whnf
    refine⟨2,⟨rfl,by decide⟩,?_⟩
    repeat((conv=>whnf);first|apply qza|apply qzb|apply qzc|apply qzd|apply qze|intro(_:Nat))
    conv=>whnf
    refine⟨qnB,?_⟩
    conv=>whnf
    refine .inl ⟨_,(qQI _ hc0).to hv,?_⟩
    conv=>whnf
    refine⟨fun h=>(nomatch h),fun _=>?_⟩
    conv=>whnf
    refine fun fr w hw=>⟨3,rfl,⟨by omega,fun _=>j1 (by omega),fun _=>j2 (by omega),fun _=>h0,fun h=>absurd h (by omega)⟩,by decide,?_⟩
    exact hw.fit (by simp [fitL,Res.eqv,qAA,conc])
   ·have hck:qCB c=some (e,i):=by rw [qCB,j1 (by omega),j2 (by omega),h0]
    have hne:=qvF hck
    conv=>whnf
    refine⟨fun _=>?_,fun h=>nomatch h⟩
    conv=>whnf
    refine⟨2,⟨rfl,by decide⟩,?_⟩
    repeat((conv=>whnf);first|apply qza|apply qzb|apply qzc|apply qzd|apply qze|intro(_:Nat))
    conv=>whnf
    refine⟨qnB,?_⟩
    conv=>whnf
    refine .inl ⟨_,(qQI _ hc0).to hv,?_⟩
    conv=>whnf
    refine⟨fun _=>?_,fun hx=>absurd hx (by simp;omega)⟩
    conv=>whnf
    intro g2 hg
    rw [hck];rfl
  ·obtain⟨h0,hv⟩|⟨e,i,h0,hv⟩:=q5M (qZF c)
   ·conv=>whnf
    refine⟨fun _=>?_,fun h=>nomatch h⟩
    conv=>whnf
    refine⟨3,⟨rfl,by decide⟩,?_⟩
    repeat((conv=>whnf);first|apply qza|apply qzb|apply qzc|apply qzd|apply qze|intro(_:Nat))
    conv=>whnf
    refine⟨qHC,?_⟩
    conv=>whnf
    refine .inl ⟨_,(qVK _ hc0).to hv,?_⟩
    conv=>whnf
    refine⟨fun h=>(nomatch h),fun _=>?_⟩
    conv=>whnf
    refine fun fr w hw=>⟨4,rfl,⟨by omega,fun _=>j1 (by omega),fun _=>j2 (by omega),fun _=>j3 (by omega),fun _=>h0⟩,by decide,?_⟩
    exact hw.fit (by simp [fitL,Res.eqv,qAA,conc])
   ·have hck:qCB c=some (e,i):=by rw [qCB,j1 (by omega),j2 (by omega),j3 (by omega),h0]
    have hne:=qvF hck
    conv=>whnf
    refine⟨fun _=>?_,fun h=>nomatch h⟩
    conv=>whnf
    refine⟨3,⟨rfl,by decide⟩,?_⟩
    repeat((conv=>whnf);first|apply qza|apply qzb|apply qzc|apply qzd|apply qze|intro(_:Nat))
    conv=>whnf
    refine⟨qHC,?_⟩
    conv=>whnf
    refine .inl ⟨_,(qVK _ hc0).to hv,?_⟩
    conv=>whnf
    refine⟨fun _=>?_,fun hx=>absurd hx (by simp;omega)⟩
    conv=>whnf
    intro g2 hg
    rw [hck];rfl
  ·conv=>whnf
   refine⟨fun h=>(nomatch h),fun _=>?_⟩
   conv=>whnf
   intro g2 hg
   rw [show qCB c=none from by rw [qCB,j1 (by omega),j2 (by omega),j3 (by omega),j4 (by omega)]];rfl)
/- Whether a configuration may be: the document's answer. -/
open Go.Proofs.YtkbbljngpglnkaaGreat.Sx
/- Whether a configuration may be: what is too big to be looked at. -/
open Go.Proofs.YtkbbljngpglnkaaGreat.Sx
abbrev qFS (r:Route):List Value:=[.string r.listen,.string r.host,.string r.path,.string r.cluster]
/- Which hosts and paths are meant: the program's and the document's answers. -/
open Go.Proofs.YtkbbljngpglnkaaGreat.Sx
/- Which rule a request goes by: the program's and the document's answers. -/
open Go.Proofs.YtkbbljngpglnkaaGreat.Sx
def qZL (r:Rule):Bool:=decide (100<r.host.size)||decide (100<r.path.size)
def bigR (l:List Rule):Bool:=decide (50<l.length)||l.any qZL
theorem qYS (g:GW) {v:Value} {l:List Rule} (hl:rSl 4 qJP g v l):OkV Tryz.prog qdH [v] g (.bool (bigR l)) :=
 Ok.of_fn hm noT 0 qOH (args:=[.v v]) (by
  obtain⟨oa,cap,rfl,h1,h2,h0,hr⟩:=hl
  repeat((conv=>whnf);first|apply qza|apply qzb|apply qzc|apply qzd|apply qze|intro(_:Nat))
  conv=>whnf
  refine⟨Nat,fun k=>[.v (.int .i64 k)],fun k=>⟨g,[],_,_⟩,fun k=>k≤l.length∧(l.take k).any qZL=false,fun k=>l.length-k,qFA 0 rfl ⟨Nat.zero_le _,rfl⟩ rfl,?_⟩
  rintro k ⟨hk,hall⟩
  conv=>whnf
  refine⟨fun hlt=>?_,fun hlt=>?_⟩
  ·have h':k<l.length:=by have:=of_decide_eq_true hlt;omega
   conv=>whnf
   refine⟨fun h50=>?_,fun h50=>?_⟩
   ·obtain⟨q,hq⟩:=qBA h'
    obtain⟨a,rfl,ecq,hecq,⟨rfl,_,_⟩,hcq⟩:=hr k q hq
    have hg:∀ b,qZL q=b→(l.take (k+1)).any qZL=b:=fun b hb=>by
     obtain⟨_,hge⟩:=List.getElem?_eq_some_iff.1 hq
     rw [List.take_succ_eq_append_getElem h',List.any_append,hall,hge]
     simp [hb]
    have hbe:qZL q=true→bigR l=true:=fun hb=>by
     rw [bigR,List.any_eq_true.2 ⟨q,List.mem_of_getElem? hq,hb⟩,Bool.or_true]
    conv=>whnf
    refine⟨a,rfl,⟨by omega,by omega⟩,?_⟩
    conv=>whnf
    refine⟨_,hcq 1 _ rfl,?_⟩
    conv=>whnf
    refine⟨fun ha=>?_,fun ha=>?_⟩
    ·conv=>whnf
     intro g2 hg
     rw [hbe (by simp at ha;simp [qZL];omega)]
    ·conv=>whnf
     refine⟨a,rfl,⟨by omega,by omega⟩,?_⟩
     conv=>whnf
     refine⟨_,hcq 2 _ rfl,?_⟩
     conv=>whnf
     refine⟨fun hb=>?_,fun hb=>?_⟩
     ·conv=>whnf
      intro g2 hg
      rw [hbe (by simp at hb;simp [qZL];omega)]
     ·conv=>whnf
      refine fun fr w hw=>⟨k+1,congrArg (fun z=>[Value.int .i64 z]) (wr1 h' h1 h2).symm,⟨h',hg _ (by simp at ha hb;simp [qZL];omega)⟩,dec h',hw⟩
   ·conv=>whnf
    intro g2 hg
    have:=of_decide_eq_false h50
    rw [bigR,decide_eq_true (show 50<l.length by omega),decide_eq_true (show(50:Int)<l.length by omega)];rfl
  ·conv=>whnf
   intro g2 hg
   have:k=l.length:=by have:=of_decide_eq_false hlt;omega
   rw [this,List.take_length] at hall
   rw [bigR,hall,Bool.or_false]
   exact congrArg Value.bool (decide_eq_decide.2 (by omega)))
/- Snapshots: what is built,and their configurations: the program's and the document's answers. -/
open Go.Proofs.YtkbbljngpglnkaaGreat.Sx Go.RowKit
def tS:List (Nat×FnI):=[(qrG,q6G),(qEI,qII)]
theorem q8Q {α β:Type} {l:List α} {f:α→List β} {k:Nat} {x:α} (hx:l[k]?=some x):((l.take (k+1)).map f).flatten=((l.take k).map f).flatten++f x:=by
 obtain⟨h1,h2⟩:=List.getElem?_eq_some_iff.1 hx
 rw [List.take_succ_eq_append_getElem h1,h2];simp
end Go.Proofs.YtkbbljngpglnkaaGreat
