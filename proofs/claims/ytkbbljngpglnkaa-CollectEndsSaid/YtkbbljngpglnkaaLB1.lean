/- What all contracts lean on: the program follows the model's reading; how a contract becomes a walk. -/
import Derived.Test.YtkbbljngpglnkaaF
import Derived.Test.YtkbbljngpglnkaaPl
import Derived.WalkKit
import Derived.Lib.Walk
import Derived.Lib.Strings
import Derived.Lib.Bytealg
set_option linter.unusedVariables false
set_option linter.unusedSimpArgs false
namespace Go.Proofs.Ytkbbljngpglnkaa
open Go.Proofs.Ytkbbljngpglnkaa.Sx
set_option maxHeartbeats 16000000
set_option maxRecDepth 100000
theorem hm:Try.prog.follows .mixedOrders=true:=by kernel_rfl
theorem noT:qaH Try.prog []:=fun _ h=>nomatch h
theorem qtP {f:FuncId} {args:List Value} {w:World} {v:Value} (h:OkV Try.prog f args (allG w) v):Calls Try.prog f args.toArray w fun e w'=>e=.returned v∧RowKit.Below w.heap.size w w' :=
 (h w (Good.refl _)).mono fun _ _ ⟨_,he,hb,hv⟩=>⟨hv▸he,hb⟩
open Go.Proofs.Ytkbbljngpglnkaa.Sx
theorem qkP (g:GW) (c:Int):OkV Try.prog q5L [.int .u8 c] g (.bool (lowB c)) :=
 Ok.of_fn hm noT 0 qeL (args:=[.v (.int .u8 c)]) (by
  repeat' ((conv=>whnf);apply And.intro<;>intro _)
  all_goals ((conv=>whnf);intro g2 hg;simp_all [lowB]<;>omega))
theorem qWM (g:GW) (c:Int):OkV Try.prog qqB [.int .u8 c] g (.bool (qhH c)) :=
 Ok.of_fn hm noT 0 qgI (args:=[.v (.int .u8 c)]) (by
  conv=>whnf
  refine .inl ⟨_,qkP _ _,?_⟩
  repeat' ((conv=>whnf);apply And.intro<;>intro _)
  all_goals ((conv=>whnf);intro g2 hg;simp_all [qhH]<;>omega))
def tN:List (Nat×FnI):=[(qrK,qQH),(qCF,quC)]
theorem qkQ:qaH Try.prog tN:=by
 intro x hx
 simp only [tN,List.mem_cons,List.not_mem_nil,or_false] at hx
 rcases hx with rfl|rfl
 ·exact⟨_,_,qLK⟩
 ·exact⟨_,_,q1E⟩
theorem q4F (g:GW) (s:ByteArray):OkV Try.prog qtK [.string s] g (.bool (qVD (bs s))) :=
 Ok.of_fn hm qkQ 1 qNK (args:=[.v (.string s)]) (by
  conv=>whnf
  refine⟨fun h1=>?_,fun h1=>?_⟩
  ·conv=>whnf
   refine⟨fun h2=>?_,fun h2=>?_⟩
   ·have k1:=of_decide_eq_true h1
    have k2:=of_decide_eq_true h2
    rw [qsA] at k1 k2
    obtain⟨c0,hc0⟩:∃ c0,(bs s)[0]?=some c0:=⟨(bs s)[0]'(by omega),List.getElem?_eq_getElem (by omega)⟩
    have hlow:(bs s).head?.any (fun c=>lowB c.toNat)=lowB c0.toNat:=by rw [List.head?_eq_getElem?,hc0];rfl
    conv=>whnf
    refine⟨c0,⟨by omega,hc0⟩,?_⟩
    conv=>whnf
    refine .inl ⟨_,qkP _ _,?_⟩
    conv=>whnf
    refine⟨fun h3=>?_,fun h3=>?_⟩
    ·conv=>whnf
     intro b1
     conv=>whnf
     refine⟨rfl,?_⟩
     conv=>whnf
     refine⟨rfl,?_⟩
     conv=>whnf
     intro b2
     conv=>whnf
     refine⟨Nat,fun i=>[.v (.int .i64 i)],fun _=>⟨g,[.blk 1 b2 _ [.v (.func (.func qqB) #[] #[])],.blk 0 b1 _ [.v (.func (.func qqB) #[] #[])]],_,_⟩,fun i=>i≤(bs s).length∧((bs s).take i).all (fun c=>qhH c.toNat)=true,fun i=>(bs s).length-i,fun _ _ hw=>⟨0,rfl,⟨Nat.zero_le _,rfl⟩,hw⟩,?_⟩
     intro i hJ
     have hi:=hJ.1
     have hall:=hJ.2
     conv=>whnf
     refine⟨fun h=>?_,fun h=>?_⟩
     ·have h':i<(bs s).length:=by have:=of_decide_eq_true h;rw [qsA] at this;omega
      obtain⟨c,hcc,hc⟩:∃ c,(bs s)[i]=c∧(bs s)[i]?=some c:=⟨_,rfl,List.getElem?_eq_getElem h'⟩
      have hgood:∀ b,qhH c.toNat=b→((bs s).take (i+1)).all (fun c=>qhH c.toNat)=b:=fun b hb=>by rw [qYF h',hall,hcc,hb];rfl
      have hw2:IntKind.i64.wrap ((i:Int)+1)=((i+1:Nat):Int):=by rw [wr (by omega)];simp
      conv=>whnf
      refine⟨c,⟨by omega,hc⟩,?_⟩
      conv=>whnf
      refine⟨fun hz=>?_,fun hz=>?_⟩
      ·conv=>whnf
       refine⟨rfl,?_⟩
       conv=>whnf
       refine⟨c,⟨by omega,hc⟩,?_⟩
       conv=>whnf
       refine⟨qtF,?_⟩
       conv=>whnf
       refine .inl ⟨_,qWM _ _,?_⟩
       conv=>whnf
       refine⟨fun hb=>?_,fun hb=>?_⟩
       ·conv=>whnf
        intro g2 hg
        rw [qVD,qSC h' (by rw [hcc];simpa using hb)];simp
       ·conv=>whnf
        refine fun _ _ hw=>⟨i+1,congrArg (fun z=>[Value.int .i64 z]) hw2.symm,⟨h',hgood _ (by simpa using hb)⟩,dec h',hw⟩
      ·conv=>whnf
       refine fun _ _ hw=>⟨i+1,congrArg (fun z=>[Value.int .i64 z]) hw2.symm,⟨h',hgood _ (by simp at hz;simp [qhH,hz])⟩,dec h',hw⟩
     ·conv=>whnf
      intro g2 hg
      have:i=(bs s).length:=by have:=of_decide_eq_false h;rw [qsA] at this;omega
      rw [this,List.take_length] at hall
      rw [qVD,hall,hlow,h3,decide_eq_true (p:=0<(bs s).length) (by omega),decide_eq_true (p:=(bs s).length≤16) (by omega)];rfl
    ·conv=>whnf
     intro g2 hg
     simp [qVD,hlow,h3]
   ·conv=>whnf
    intro g2 hg
    have:=of_decide_eq_false h2
    rw [qsA] at this
    rw [qVD,decide_eq_false (p:=(bs s).length≤16) (by omega)];simp
  ·conv=>whnf
   intro g2 hg
   have:=of_decide_eq_false h1
   rw [qsA] at this
   rw [qVD,decide_eq_false (p:=0<(bs s).length) (by omega)];simp)
/- What IndexByte of Go's library tells: the model's own answer. -/
open Go.RowKit Go.Lib
theorem ib (s:ByteArray) (c:Int) (w:World):Calls Try.prog 109 #[.string s,.int .u8 c] w fun e w'=>e=.returned (.int .i64 (Lib.indexByte s.data.toList c.toNat.toUInt8))∧w'=w:=by
 go_enter Try.func109,Try.ntmps109
 go_wp2
 rw [run_callFunc_extern Try.func110 (by kernel_rfl) (by kernel_rfl) (by kernel_rfl) (e:=Extern.BytealgIndexByte.indexByte) (by kernel_rfl),Lib.run_indexByteString]
 simp only [Result.andThen]
 rw [Oper.upon_value]
 go_wp2
 go_ret
 exact⟨rfl,rfl⟩
open Go.Proofs.Ytkbbljngpglnkaa.Sx
theorem ok_ib (g:GW) (s:ByteArray) (c:Int):OkV Try.prog qUE [.string s,.int .u8 c] g (.int .i64 (Lib.indexByte (bs s) c.toNat.toUInt8)) :=
 Ok.of_same fun w=>(ib s c w).mono fun _ _ h=>⟨h.1,h.2.symm⟩
theorem qjK (g:GW) (s:ByteArray) (c:Int):OkV Try.prog q5F [.string s,.int .u8 c] g (.int .i64 (Lib.indexByte (bs s) c.toNat.toUInt8)) :=
 Ok.of_fn hm noT 0 qzF (args:=[.v (.string s),.v (.int .u8 c)]) (by
  conv=>whnf
  refine .inl ⟨_,ok_ib _ _ _,?_⟩
  conv=>whnf
  intro g2 hg
  rfl)
def tH:List (Nat×FnI):=[(qsJ,qlG),(qCI,qJF)]
theorem tH_ok:qaH Try.prog tH:=by
 intro x hx
 simp only [tH,List.mem_cons,List.not_mem_nil,or_false] at hx
 rcases hx with rfl|rfl
 ·exact⟨_,_,qZJ⟩
 ·exact⟨_,_,qnH⟩
theorem qFO (g:GW) (s:ByteArray):OkV Try.prog quK [.string s] g (.bool (q4K (bs s))) :=
 Ok.of_fn hm tH_ok 2 qOK (args:=[.v (.string s)]) (by
  conv=>whnf
  intro b0
  conv=>whnf
  refine⟨fun h1=>?_,fun h1=>?_⟩
  ·conv=>whnf
   refine⟨rfl,?_⟩
   conv=>whnf
   refine⟨rfl,?_⟩
   conv=>whnf
   intro g2 hg
   have:=of_decide_eq_true h1
   rw [qsA] at this
   rw [q4K,decide_eq_false (by omega)];rfl
  ·conv=>whnf
   intro b1
   conv=>whnf
   intro b2
   conv=>whnf
   refine⟨qNI,fun l rr=>?_⟩
   conv=>whnf
   refine⟨ByteArray,fun _=>[],fun t=>⟨g,[.lp 3 l rr .ready,.blk 2 b2 _ [.v (.int .u8 46)],.blk 1 b1 _ [.v (.string t)],.blk 0 b0 _ [.v (.bool false)]],_,_⟩,fun t=>t.size≤32∧(qoC 46 (bs t)).all qVD=(qoC 46 (bs s)).all qVD,fun t=>t.size,fun _ _ hw=>⟨s,rfl,⟨by have:=of_decide_eq_false h1;omega,rfl⟩,hw⟩,?_⟩
   intro t hJJ
   have hJ:=hJJ.2
   have hJ1:=hJJ.1
   have hlast:Lib.indexByte (bs t) (46:Int).toNat.toUInt8<0→qoC 46 (bs t)=[bs t]:=fun h=>by
    rcases q9E 46 (bs t) with ⟨_,h2⟩|⟨i,_,h2,_⟩
    ·exact h2
    ·rw [show(46:Int).toNat.toUInt8=46 from rfl,h2] at h;omega
   conv=>whnf
   refine⟨rfl,?_⟩
   conv=>whnf
   refine⟨rfl,?_⟩
   conv=>whnf
   refine .inl ⟨_,qjK _ _ _,?_⟩
   conv=>whnf
   refine⟨fun h2=>?_,fun h2=>?_⟩
   ·conv=>whnf
    refine⟨rfl,?_⟩
    conv=>whnf
    refine⟨rfl,?_⟩
    conv=>whnf
    refine⟨⟨rfl,rfl⟩,?_⟩
    conv=>whnf
    refine⟨rfl,?_⟩
    conv=>whnf
    refine .inl ⟨_,q4F _ _,?_⟩
    conv=>whnf
    refine⟨fun h3=>?_,fun h3=>?_⟩
    ·conv=>whnf
     refine⟨rfl,?_⟩
     conv=>whnf
     refine⟨rfl,?_⟩
     conv=>whnf
     refine⟨rfl,?_⟩
     conv=>whnf
     refine⟨rfl,?_⟩
     conv=>whnf
     intro g2 hg
     have hn:(qoC 46 (bs t)).all qVD=false:=by rw [hlast (of_decide_eq_true h2)];simp at h3;simp [h3]
     rw [q4K,← hJ,hn];simp
    ·conv=>whnf
     refine⟨rfl,?_⟩
     conv=>whnf
     refine⟨rfl,?_⟩
     conv=>whnf
     refine⟨rfl,?_⟩
     conv=>whnf
     refine⟨rfl,?_⟩
     conv=>whnf
     intro g2 hg
     have hn:(qoC 46 (bs t)).all qVD=true:=by rw [hlast (of_decide_eq_true h2)];simp at h3;simp [h3]
     have:=of_decide_eq_false h1
     rw [qsA] at this
     rw [q4K,← hJ,hn,decide_eq_true (by omega)];rfl
   ·have k2:=of_decide_eq_false h2
    obtain⟨i,hi,hidx,hpt⟩:∃ i:Nat,i<(bs t).length∧Lib.indexByte (bs t) (46:Int).toNat.toUInt8=i∧qoC 46 (bs t)=(bs t).take i :: qoC 46 ((bs t).drop (i+1)):=by
     rcases q9E 46 (bs t) with ⟨h1,_⟩|h
     ·rw [show(46:Int).toNat.toUInt8=46 from rfl,h1] at k2;omega
     ·exact h
    have hts:=qsA t
    conv=>whnf
    refine⟨rfl,?_⟩
    conv=>whnf
    refine⟨⟨by rw [hidx];omega,by rw [hidx];omega⟩,?_⟩
    conv=>whnf
    refine⟨rfl,?_⟩
    conv=>whnf
    refine⟨⟨rfl,rfl⟩,?_⟩
    conv=>whnf
    refine⟨rfl,?_⟩
    conv=>whnf
    refine .inl ⟨_,q4F _ _,?_⟩
    have hx1:bs (t.extract 0 (Lib.indexByte (bs t) (46:Int).toNat.toUInt8).toNat)=(bs t).take i:=by rw [qXF,hidx];simp
    conv=>whnf
    refine⟨fun h3=>?_,fun h3=>?_⟩
    ·conv=>whnf
     refine⟨rfl,?_⟩
     conv=>whnf
     refine⟨rfl,?_⟩
     conv=>whnf
     refine⟨rfl,?_⟩
     conv=>whnf
     refine⟨rfl,?_⟩
     conv=>whnf
     intro g2 hg
     rw [hx1] at h3
     have hn:(qoC 46 (bs t)).all qVD=false:=by rw [hpt];simp at h3;simp [h3]
     rw [q4K,← hJ,hn];simp
    ·conv=>whnf
     refine⟨rfl,?_⟩
     conv=>whnf
     refine⟨rfl,?_⟩
     have hw2:IntKind.i64.wrap (Lib.indexByte (bs t) (46:Int).toNat.toUInt8+1)=((i+1:Nat):Int):=by rw [hidx,wr (by omega)];simp
     have hx2:bs (t.extract (IntKind.i64.wrap (Lib.indexByte (bs t) (46:Int).toNat.toUInt8+1)).toNat t.size)=(bs t).drop (i+1):=by
      rw [qXF,hw2,Int.toNat_natCast,hts]
      exact List.take_of_length_le (by simp)
     conv=>whnf
     refine⟨⟨by rw [hw2];omega,by rw [hw2];omega⟩,?_⟩
     conv=>whnf
     refine⟨rfl,?_⟩
     conv=>whnf
     refine fun _ _ hw=>⟨_,rfl,⟨?_,?_⟩,?_,hw⟩
     ·rw [qsA,hx2,List.length_drop];omega
     ·rw [hx1] at h3
      rw [← hJ,hpt,hx2];simp at h3;simp [h3]
     ·show ByteArray.size _<t.size
      rw [qsA,hx2,hts,List.length_drop];omega)
/- Prefixes and suffixes of texts;patterns and paths;the document's parts,hosts,patterns and paths. -/
open Go.Proofs.Ytkbbljngpglnkaa.Sx
theorem qkK (g:GW) (s p:BA):OkV Try.prog qVE [.string s,.string p] g (.bool (preL (bs p) (bs s))) :=
 Ok.of_fn hm noT 0 qOE (args:=[.v (.string s),.v (.string p)]) (by
  conv=>whnf
  refine⟨fun h=>?_,fun h=>?_⟩
  ·have h':=of_decide_eq_true h
   conv=>whnf
   refine⟨⟨by omega,by omega⟩,?_⟩
   conv=>whnf
   intro g2 hg
   rw [qpL]
   have e1:bs (s.extract 0 (p.size:Int).toNat)=(bs s).take (bs p).length:=by rw [qXF,qsA];simp
   have:=qsA s;have:=qsA p
   rw [decide_eq_true (show(bs p).length≤(bs s).length by omega),← e1];rfl
  ·conv=>whnf
   intro g2 hg
   have h':=of_decide_eq_false h
   have:=qsA s;have:=qsA p
   rw [qpL,decide_eq_false (show ¬ (bs p).length≤(bs s).length by omega)];rfl)
def cutP (s p:BA):BA:=if preL (bs p) (bs s) then s.extract p.size s.size else s
theorem qRQ {s p:BA} (h:preL (bs p) (bs s)=true):bs (cutP s p)=(bs s).drop (bs p).length:=by
 unfold cutP
 rw [if_pos h,qXF,qsA s,qsA p]
 exact List.take_of_length_le (by simp)
theorem qlJ (g:GW) (s p:BA):OkV Try.prog qWE [.string s,.string p] g (.tuple #[.string (cutP s p),.bool (preL (bs p) (bs s))]) :=
 Ok.of_fn hm noT 0 qPE (args:=[.v (.string s),.v (.string p)]) (by
  conv=>whnf
  refine .inl ⟨_,qkK _ _ _,?_⟩
  conv=>whnf
  refine⟨fun h=>?_,fun h=>?_⟩
  ·have h':preL (bs p) (bs s)=false:=by simpa using h
   conv=>whnf
   intro g2 hg
   unfold cutP
   rw [h'];rfl
  ·have h':preL (bs p) (bs s)=true:=by simpa using h
   have hl:p.size≤s.size:=by
    rw [qpL] at h'
    simp only [Bool.and_eq_true,decide_eq_true_eq] at h'
    have:=qsA s;have:=qsA p;omega
   conv=>whnf
   refine⟨⟨by omega,by omega⟩,?_⟩
   conv=>whnf
   intro g2 hg
   unfold cutP
   rw [h'];rfl)
theorem qlK (g:GW) (s p:BA):OkV Try.prog q6F [.string s,.string p] g (.tuple #[.string (cutP s p),.bool (preL (bs p) (bs s))]) :=
 Ok.of_fn hm noT 0 q0F (args:=[.v (.string s),.v (.string p)]) (by
  conv=>whnf
  refine .inl ⟨_,qlJ _ _ _,?_⟩
  conv=>whnf
  intro g2 hg
  rfl)
theorem qIN (g:GW) (s:BA):OkV Try.prog qDI [.string s] g (.bool (qAD (bs s))) :=
 Ok.of_fn hm noT 0 qoH (args:=[.v (.string s)]) (by
  conv=>whnf
  refine .inl ⟨_,qlK _ _ _,?_⟩
  conv=>whnf
  refine⟨fun h=>?_,fun h=>?_⟩
  ·have h':preL [42,46] (bs s)=true:=h
   conv=>whnf
   refine .inl ⟨_,qFO _ _,?_⟩
   conv=>whnf
   intro g2 hg
   rw [qAD,h',qRQ h];rfl
  ·have h':preL [42,46] (bs s)=false:=h
   conv=>whnf
   refine⟨fun k=>?_,fun k=>?_⟩
   ·conv=>whnf
    intro g2 hg
    rw [qAD,h']
    have k':(bs s==[42])=true:=k
    rw [k'];rfl
   ·conv=>whnf
    refine .inl ⟨_,qFO _ _,?_⟩
    conv=>whnf
    intro g2 hg
    rw [qAD,h']
    have k':(bs s==[42])=false:=k
    rw [k'];rfl)
theorem qFQ (g:GW) (s:BA):OkV Try.prog qsK [.string s] g (.bool (q2H (bs s))) :=
 Ok.of_fn hm qkQ 1 qMK (args:=[.v (.string s)]) (by
  have hsz:=qsA s
  conv=>whnf
  refine⟨fun h1=>?_,fun h1=>?_⟩
  ·conv=>whnf
   refine⟨fun h2=>?_,fun h2=>?_⟩
   ·have k1:=of_decide_eq_true h1
    have k2:=of_decide_eq_true h2
    obtain⟨c0,hc0⟩:∃ c0,(bs s)[0]?=some c0:=qDA (by omega)
    have hh:(bs s).head?.any (fun c=>(c.toNat:Int)==47)=((c0.toNat:Int)==47):=by rw [List.head?_eq_getElem?,hc0];rfl
    conv=>whnf
    refine⟨c0,⟨by omega,hc0⟩,?_⟩
    conv=>whnf
    refine⟨fun h3=>?_,fun h3=>?_⟩
    ·conv=>whnf
     intro b1
     conv=>whnf
     refine⟨rfl,?_⟩
     conv=>whnf
     refine⟨rfl,?_⟩
     conv=>whnf
     intro b2
     conv=>whnf
     refine⟨Nat,fun i=>[.v (.int .i64 i)],fun _=>⟨g,[.blk 1 b2 _ [.v (.func (.func qqB) #[] #[])],.blk 0 b1 _ [.v (.func (.func qqB) #[] #[])]],_,_⟩,fun i=>i≤(bs s).length∧((bs s).take i).all (fun c=>(c.toNat:Int)==47||qhH c.toNat)=true,fun i=>(bs s).length-i,fun _ _ hw=>⟨0,rfl,⟨Nat.zero_le _,rfl⟩,hw⟩,?_⟩
     intro i hJ
     have hi:=hJ.1
     have hall:=hJ.2
     conv=>whnf
     refine⟨fun h=>?_,fun h=>?_⟩
     ·have h':i<(bs s).length:=by have:=of_decide_eq_true h;omega
      obtain⟨c,hcc,hc⟩:∃ c,(bs s)[i]=c∧(bs s)[i]?=some c:=⟨_,rfl,List.getElem?_eq_getElem h'⟩
      have hgood:∀ b,((c.toNat:Int)==47||qhH c.toNat)=b→((bs s).take (i+1)).all (fun c=>(c.toNat:Int)==47||qhH c.toNat)=b:=fun b hb=>by rw [qYF h',hall,hcc,hb];rfl
      have hw2:IntKind.i64.wrap ((i:Int)+1)=((i+1:Nat):Int):=by rw [wr (by omega)];simp
      conv=>whnf
      refine⟨c,⟨by omega,hc⟩,?_⟩
      conv=>whnf
      refine⟨fun hz=>?_,fun hz=>?_⟩
      ·conv=>whnf
       refine⟨rfl,?_⟩
       conv=>whnf
       refine⟨c,⟨by omega,hc⟩,?_⟩
       conv=>whnf
       refine⟨qtF,?_⟩
       conv=>whnf
       refine .inl ⟨_,qWM _ _,?_⟩
       conv=>whnf
       refine⟨fun hb=>?_,fun hb=>?_⟩
       ·conv=>whnf
        intro g2 hg
        simp at hz hb
        rw [q2H,qSC h' (by rw [hcc];simp [hz,hb])];simp
       ·conv=>whnf
        refine fun _ _ hw=>⟨i+1,congrArg (fun z=>[Value.int .i64 z]) hw2.symm,⟨h',hgood _ (by simp at hb;simp [hb])⟩,dec h',hw⟩
      ·conv=>whnf
       refine fun _ _ hw=>⟨i+1,congrArg (fun z=>[Value.int .i64 z]) hw2.symm,⟨h',hgood _ (by simp at hz;simp [hz])⟩,dec h',hw⟩
     ·conv=>whnf
      intro g2 hg
      have:i=(bs s).length:=by have:=of_decide_eq_false h;omega
      rw [this,List.take_length] at hall
      rw [q2H,hall,hh,h3,decide_eq_true (p:=0<(bs s).length) (by omega),decide_eq_true (p:=(bs s).length≤32) (by omega)];rfl
    ·conv=>whnf
     intro g2 hg
     simp [q2H,hh,h3]
   ·conv=>whnf
    intro g2 hg
    have:=of_decide_eq_false h2
    rw [q2H,decide_eq_false (p:=(bs s).length≤32) (by omega)];simp
  ·conv=>whnf
   intro g2 hg
   have:=of_decide_eq_false h1
   rw [q2H,decide_eq_false (p:=0<(bs s).length) (by omega)];simp)
/- Whether a configuration may be: the program's and the document's answers. -/
open Go.Proofs.Ytkbbljngpglnkaa.Sx
theorem qDP (g:GW) {v:Value} {l:List BA} (hl:rSl 1 rStr g v l) (s:BA):OkV Try.prog qpC [v,.string s] g (.int .i64 (idxI (idxO (fun x=>bs s==bs x) l))) :=
 Ok.of_fn hm noT 0 qkC (args:=[.v v,.v (.string s)]) (by
  obtain⟨oa,cap,rfl,h1,h2,h0,hr⟩:=hl
  repeat((conv=>whnf);first|apply qza|apply qzb|apply qzc|apply qzd|apply qze|intro(_:Nat))
  conv=>whnf
  refine⟨Nat,fun k=>[.v (.int .i64 k)],fun k=>⟨g,[],_,_⟩,fun k=>k≤l.length∧Pass (idxF fun x=>bs s==bs x) l k,fun k=>l.length-k,qSA 0 rfl ⟨Nat.zero_le _,Pass.zero _ _⟩ rfl,?_⟩
  rintro k ⟨hk,hp⟩
  conv=>whnf
  refine⟨fun hlt=>?_,fun hlt=>?_⟩
  ·have h':k<l.length:=by have:=of_decide_eq_true hlt;omega
   obtain⟨x,hx⟩:=qDA h'
   obtain⟨a,rfl,ec,hec,rfl,hc⟩:=hr k x hx
   conv=>whnf
   refine⟨a,rfl,⟨by omega,by omega⟩,?_⟩
   conv=>whnf
   refine⟨_,hc 0 _ rfl,?_⟩
   conv=>whnf
   refine⟨fun he=>?_,fun he=>?_⟩
   ·conv=>whnf
    intro g2 hg
    rw [q0J hp hx he]
   ·conv=>whnf
    refine fun fr w hw=>⟨k+1,congrArg (fun z=>[Value.int .i64 z]) (wr1 h' h1 h2).symm,⟨h',qeH hp hx he⟩,dec h',hw⟩
  ·conv=>whnf
   intro g2 hg
   have:=of_decide_eq_false hlt
   rw [qfG hp (by omega)])
theorem q5H (g:GW) {v:Value} {l:List BA} (hl:rSl 1 rStr g v l) (s:BA):OkV Try.prog qNC [v,.string s] g (.bool (hasS l s)) :=
 Ok.of_fn hm noT 0 qJC (args:=[.v v,.v (.string s)]) (by
  conv=>whnf
  refine .inl ⟨_,qDP _ hl _,?_⟩
  conv=>whnf
  intro g2 hg
  rw [qCM]
  have:(fun x=>bs s==bs x)=fun x=>bs x==bs s:=by funext x;exact qhO _ _
  rw [this];rfl)
def tC:List (Nat×FnI):=[(qmA,qPA),(qxA,qRA),(qWH,qoE)]
theorem tC_ok:qaH Try.prog tC:=by
 intro x hx
 simp only [tC,List.mem_cons,List.not_mem_nil,or_false] at hx
 rcases hx with rfl|rfl|rfl
 ·exact⟨_,_,qkA⟩
 ·exact⟨_,_,qvA⟩
 ·exact⟨_,_,qUH⟩
theorem qXM (g:GW) {v:Value} {l:List Cluster} (hl:rSl 4 qbD g v l) (s:BA):OkV Try.prog qrI [v,.string s] g (.bool (hasC l s)) :=
 Ok.of_fn hm tC_ok 3 qhI (args:=[.v v,.v (.string s)]) (by
  obtain⟨oa,cap,rfl,h1,h2,h0,hr⟩:=hl
  repeat((conv=>whnf);first|apply qza|apply qzb|apply qzc|apply qzd|apply qze|intro(_:Nat))
  conv=>whnf
  refine⟨Nat,fun k=>[.v (.int .i64 k)],fun k=>⟨g,[.blk 0 _ _ [.v (.string s)]],_,_⟩,fun k=>k≤l.length∧Pass (idxF fun (x:Cluster)=>bs x.name==bs s) l k,fun k=>l.length-k,qSA 0 rfl ⟨Nat.zero_le _,Pass.zero _ _⟩ rfl,?_⟩
  rintro k ⟨hk,hp⟩
  conv=>whnf
  refine⟨fun hlt=>?_,fun hlt=>?_⟩
  ·have h':k<l.length:=by have:=of_decide_eq_true hlt;omega
   obtain⟨x,hx⟩:=qDA h'
   obtain⟨a,rfl,ec,hec,⟨hv,rfl,_,_,_,_,rfl,_⟩,hc⟩:=hr k x hx
   conv=>whnf
   refine⟨a,rfl,⟨by omega,by omega⟩,?_⟩
   conv=>whnf
   refine⟨_,⟨rfl,hc⟩,?_⟩
   conv=>whnf
   refine⟨qZH,?_⟩
   repeat((conv=>whnf);first|apply qza|apply qzb|apply qzc|apply qzd|apply qze|intro(_:Nat))
   conv=>whnf
   refine⟨fun he=>?_,fun he=>?_⟩
   ·conv=>whnf
    intro g2 hg
    have:hasC l s=true:=List.any_eq_true.2 ⟨x,List.mem_of_getElem? hx,he⟩
    rw [this];simp
   ·conv=>whnf
    refine fun fr w hw=>⟨k+1,congrArg (fun z=>[Value.int .i64 z]) (wr1 h' h1 h2).symm,⟨h',qeH hp hx he⟩,dec h',?_⟩
    exact hw.fit (by simp [fitL,Res.eqv,qAA,conc])
  ·conv=>whnf
   intro g2 hg
   have:=of_decide_eq_false hlt
   have h3:=qCM (fun (x:Cluster)=>bs x.name==bs s) l
   rw [qfG hp (by omega)] at h3
   rw [show hasC l s=false from by rw [hasC,← h3];rfl];rfl)
theorem qhK (g:GW) (n a b:Int):OkV Try.prog qFI [.int .i64 n,.int .i64 a,.int .i64 b] g (.bool (decide (a≤n)&&decide (n≤b))) :=
 Ok.of_fn hm noT 0 qqH (args:=[.v (.int .i64 n),.v (.int .i64 a),.v (.int .i64 b)]) (by
  repeat'((conv=>whnf);first|apply qza|apply qzb|apply qzc|apply qzd|apply qze|intro(_:Nat)|refine .inl ⟨_,rfl,?_⟩|refine⟨fun _=>?_,fun _=>?_⟩|fail)
  all_goals (conv=>whnf)
  all_goals (intro g2 hg)
  all_goals (first|(simp_all;done)|(simp_all;omega)))
theorem qYM (g:GW) {cs:List Value} {c:Config} (hc:qoD g cs c):OkV Try.prog qUC [.agg ⟨cs⟩] g (eiT (qlI c)):=by
 obtain⟨a,b,d,rfl,hl,hr,hk⟩:=hc
 obtain⟨oa,ca,rfl,a1,a2,a0,hl1⟩:=id hl
 obtain⟨ob,cb,rfl,b1,b2,b0,hr1⟩:=id hr
 obtain⟨od,cd,rfl,d1,d2,d0,hk1⟩:=id hk
 exact Ok.of_fn hm noT 0 qqE (args:=[.v (.agg ⟨[.slice oa c.listens.length ca,.slice ob c.routes.length cb,.slice od c.clusters.length cd]⟩)]) (by
  repeat'((conv=>whnf);first|apply qza|apply qzb|apply qzc|apply qzd|apply qze|intro(_:Nat)|refine .inl ⟨_,qhK _ _ _ _,?_⟩|refine⟨fun _=>?_,fun _=>?_⟩|fail)
  all_goals (conv=>whnf)
  all_goals (intro g2 hg)
  all_goals first|(rw [show qlI c=some (6,0) from if_neg (by simp_all;try omega)];rfl;done)|(rw [show qlI c=none from if_pos (by simp_all;try omega)];rfl))
theorem q4H (g:GW) {cs:List Value} {c:Config} (hc:qoD g cs c):OkV Try.prog qrB [.agg ⟨cs⟩] g (eiT (qCD c)):=by
 obtain⟨a,b,d,rfl,hl,hr,hk⟩:=hc
 obtain⟨oa,ca,rfl,a1,a2,a0,hl1⟩:=id hl
 obtain⟨ob,cb,rfl,b1,b2,b0,hr1⟩:=id hr
 obtain⟨od,cd,rfl,d1,d2,d0,hk1⟩:=id hk
 exact Ok.of_fn hm noT 0 qkD (args:=[.v (.agg ⟨[.slice oa c.listens.length ca,.slice ob c.routes.length cb,.slice od c.clusters.length cd]⟩)]) (by
  repeat((conv=>whnf);first|apply qza|apply qzb|apply qzc|apply qzd|apply qze|intro(_:Nat))
  conv=>whnf
  refine⟨Nat,fun k=>[.v (.int .i64 k)],fun k=>⟨g,[.blk 0 _ _ [.v (.slice oa c.listens.length ca),.v (.slice ob c.routes.length cb),.v (.slice od c.clusters.length cd)]],_,_⟩,fun k=>k≤c.listens.length∧Pass (qXE c.listens) c.listens k,fun k=>c.listens.length-k,qSA 0 rfl ⟨Nat.zero_le _,Pass.zero _ _⟩ rfl,?_⟩
  rintro k ⟨hk,hp⟩
  conv=>whnf
  refine⟨fun hlt=>?_,fun hlt=>?_⟩
  ·have h':k<c.listens.length:=by have:=of_decide_eq_true hlt;omega
   obtain⟨x,hx⟩:=qDA h'
   obtain⟨a,rfl,ec,hec,rfl,hc⟩:=hl1 k x hx
   conv=>whnf
   refine⟨a,rfl,⟨by omega,by omega⟩,?_⟩
   conv=>whnf
   refine⟨_,hc 0 _ rfl,?_⟩
   repeat((conv=>whnf);first|apply qza|apply qzb|apply qzc|apply qzd|apply qze|intro(_:Nat))
   conv=>whnf
   refine .inl ⟨_,q4F _ _,?_⟩
   conv=>whnf
   refine⟨fun hn=>?_,fun hn=>?_⟩
   ·conv=>whnf
    intro g2 hg
    rw [show qCD c=some ((3,k):EI) from hp.hit hx (by rw [qXE,if_neg (by simp [nb1 hn])])];rfl
   ·repeat((conv=>whnf);first|apply qza|apply qzb|apply qzc|apply qzd|apply qze|intro(_:Nat))
    conv=>whnf
    refine⟨⟨by omega,by omega⟩,?_⟩
    repeat((conv=>whnf);first|apply qza|apply qzb|apply qzc|apply qzd|apply qze|intro(_:Nat))
    conv=>whnf
    refine .inl ⟨_,q5H _ (hl.take (Nat.le_of_lt h')) _,?_⟩
    conv=>whnf
    refine⟨fun hs=>?_,fun hs=>?_⟩
    ·conv=>whnf
     intro g2 hg
     rw [show qCD c=some ((4,k):EI) from hp.hit hx (by rw [qXE,if_pos (nb0 hn),if_pos hs])];rfl
    ·conv=>whnf
     refine fun fr w hw=>⟨k+1,congrArg (fun z=>[Value.int .i64 z]) (wr1 h' a1 a2).symm,⟨h',hp.succ hx (by rw [qXE,if_pos (nb0 hn),if_neg (by simp [hs])])⟩,dec h',?_⟩
     exact hw.fit (by simp [fitL,Res.eqv,qAA,conc])
  ·conv=>whnf
   intro g2 hg
   have:=of_decide_eq_false hlt
   rw [show qCD c=none from hp.done (by omega)];rfl)
theorem qLH (g:GW) {cs:List Value} {c:Config} (hc:qoD g cs c):OkV Try.prog qaB [.agg ⟨cs⟩] g (eiT (qwC c)):=by
 obtain⟨a,b,d,rfl,hl,hr,hk⟩:=hc
 obtain⟨oa,ca,rfl,a1,a2,a0,hl1⟩:=id hl
 obtain⟨ob,cb,rfl,b1,b2,b0,hr1⟩:=id hr
 obtain⟨od,cd,rfl,d1,d2,d0,hk1⟩:=id hk
 exact Ok.of_fn hm noT 0 qSD (args:=[.v (.agg ⟨[.slice oa c.listens.length ca,.slice ob c.routes.length cb,.slice od c.clusters.length cd]⟩)]) (by
  repeat((conv=>whnf);first|apply qza|apply qzb|apply qzc|apply qzd|apply qze|intro(_:Nat))
  conv=>whnf
  refine⟨Nat,fun k=>[.v (.int .i64 k)],fun k=>⟨g,[.blk 0 _ _ [.v (.slice oa c.listens.length ca),.v (.slice ob c.routes.length cb),.v (.slice od c.clusters.length cd)]],_,_⟩,fun k=>k≤c.clusters.length∧Pass (qhA c.clusters) c.clusters k,fun k=>c.clusters.length-k,qSA 0 rfl ⟨Nat.zero_le _,Pass.zero _ _⟩ rfl,?_⟩
  rintro k ⟨hkk,hp⟩
  conv=>whnf
  refine⟨fun hlt=>?_,fun hlt=>?_⟩
  ·have h':k<c.clusters.length:=by have:=of_decide_eq_true hlt;omega
   obtain⟨x,hx⟩:=qDA h'
   obtain⟨a,rfl,ec,hec,⟨hv,rfl,_,_,_,_,rfl,_⟩,hc⟩:=hk1 k x hx
   have hit:∀ e:EI,qhA c.clusters k x=some e→qwC c=some e:=fun e he=>hp.hit hx he
   conv=>whnf
   refine⟨a,rfl,⟨by omega,by omega⟩,?_⟩
   conv=>whnf
   refine⟨_,⟨rfl,hc⟩,?_⟩
   repeat((conv=>whnf);first|apply qza|apply qzb|apply qzc|apply qzd|apply qze|intro(_:Nat))
   conv=>whnf
   refine .inl ⟨_,q4F _ _,?_⟩
   conv=>whnf
   refine⟨fun hn=>?_,fun hn=>?_⟩
   ·conv=>whnf
    intro g2 hg
    rw [hit (3,k) (by rw [qhA,if_neg (by simp [nb1 hn])])];rfl
   have hn:=nb0 hn
   repeat((conv=>whnf);first|apply qza|apply qzb|apply qzc|apply qzd|apply qze|intro(_:Nat))
   conv=>whnf
   refine⟨⟨by omega,by omega⟩,?_⟩
   repeat((conv=>whnf);first|apply qza|apply qzb|apply qzc|apply qzd|apply qze|intro(_:Nat))
   conv=>whnf
   refine .inl ⟨_,qXM _ (hk.take (Nat.le_of_lt h')) _,?_⟩
   conv=>whnf
   refine⟨fun hs=>?_,fun hs=>?_⟩
   ·conv=>whnf
    intro g2 hg
    rw [hit (4,k) (by rw [qhA,if_pos hn,if_pos hs])];rfl
   have hp9:¬(x.policy=1∨x.policy=2)→qhA c.clusters k x=some (9,(k:Int)):=fun h=>by rw [qhA,if_pos hn,if_neg (by simp [hs]),if_neg h]
   have hp10:(x.policy=1∨x.policy=2)→¬(1≤x.slots∧x.slots≤4)→qhA c.clusters k x=some (10,(k:Int)):=fun h h2=>by rw [qhA,if_pos hn,if_neg (by simp [hs]),if_pos h,if_neg h2]
   have hp6:(x.policy=1∨x.policy=2)→(1≤x.slots∧x.slots≤4)→¬(1≤x.health.length∧x.health.length≤4)→qhA c.clusters k x=some (6,(k:Int)):=fun h h2 h3=>by rw [qhA,if_pos hn,if_neg (by simp [hs]),if_pos h,if_pos h2,if_neg h3]
   have hp0:(x.policy=1∨x.policy=2)→(1≤x.slots∧x.slots≤4)→(1≤x.health.length∧x.health.length≤4)→qhA c.clusters k x=none:=fun h h2 h3=>by rw [qhA,if_pos hn,if_neg (by simp [hs]),if_pos h,if_pos h2,if_pos h3]
   have hpn:=fun e=>hp.succ hx e
   clear hlt hp
   repeat'((conv=>whnf);first|apply qza|apply qzb|apply qzc|apply qzd|apply qze|intro(_:Nat)|refine .inl ⟨_,qhK _ _ _ _,?_⟩|refine⟨fun _=>?_,fun _=>?_⟩|fail)
   all_goals (conv=>whnf)
   all_goals (try simp only [bne_iff_ne,ne_eq,bne_eq_false_iff_eq,Bool.not_eq_true',Bool.not_eq_false',Bool.and_eq_true,Bool.and_eq_false_iff,decide_eq_true_eq,decide_eq_false_iff_not] at *)
   all_goals first
    | (intro g2 hg;rw [hit (9,k) (hp9 (by omega))];rfl;done)
    | (intro g2 hg;rw [hit (10,k) (hp10 (by omega) (by omega))];rfl;done)
    | (intro g2 hg;rw [hit (6,k) (hp6 (by omega) (by omega) (by omega))];rfl;done)
    | refine fun fr w hw=>⟨k+1,congrArg (fun z=>[Value.int .i64 z]) (wr1 h' d1 d2).symm,⟨h',hpn (hp0 (by omega) (by omega) (by omega))⟩,dec h',?_⟩
   all_goals (exact hw.fit (by simp [fitL,Res.eqv,qAA,conc]))
  ·conv=>whnf
   intro g2 hg
   have:=of_decide_eq_false hlt
   rw [show qwC c=none from hp.done (by omega)];rfl)
/- Whether a configuration may be: the routes,and the whole. -/
open Go.Proofs.Ytkbbljngpglnkaa.Sx
theorem q8I (g:GW) {cs:List Value} {c:Config} (hc:qoD g cs c):OkV Try.prog q8B [.agg ⟨cs⟩] g (eiT (q6E c)):=by
 obtain⟨a,b,d,rfl,hl,hr,hk⟩:=hc
 obtain⟨oa,ca,rfl,a1,a2,a0,hl1⟩:=id hl
 obtain⟨ob,cb,rfl,b1,b2,b0,hr1⟩:=id hr
 obtain⟨od,cd,rfl,d1,d2,d0,hk1⟩:=id hk
 exact Ok.of_fn hm noT 0 q3D (args:=[.v (.agg ⟨[.slice oa c.listens.length ca,.slice ob c.routes.length cb,.slice od c.clusters.length cd]⟩)]) (by
  repeat((conv=>whnf);first|apply qza|apply qzb|apply qzc|apply qzd|apply qze|intro(_:Nat))
  conv=>whnf
  refine⟨Nat,fun k=>[.v (.int .i64 k)],fun k=>⟨g,[.blk 0 _ _ [.v (.slice oa c.listens.length ca),.v (.slice ob c.routes.length cb),.v (.slice od c.clusters.length cd)]],_,_⟩,fun k=>k≤c.routes.length∧Pass (q7D c) c.routes k,fun k=>c.routes.length-k,qSA 0 rfl ⟨Nat.zero_le _,Pass.zero _ _⟩ rfl,?_⟩
  rintro k ⟨hkk,hp⟩
  conv=>whnf
  refine⟨fun hlt=>?_,fun hlt=>?_⟩
  ·have h':k<c.routes.length:=by have:=of_decide_eq_true hlt;omega
   obtain⟨x,hx⟩:=qDA h'
   obtain⟨a,rfl,ec,hec,rfl,hc⟩:=hr1 k x hx
   have hit:∀ e:EI,q7D c k x=some e→q6E c=some e:=fun e he=>hp.hit hx he
   conv=>whnf
   refine⟨a,rfl,⟨by omega,by omega⟩,?_⟩
   conv=>whnf
   refine⟨_,⟨rfl,hc⟩,?_⟩
   repeat((conv=>whnf);first|apply qza|apply qzb|apply qzc|apply qzd|apply qze|intro(_:Nat))
   conv=>whnf
   refine .inl ⟨_,q5H _ hl _,?_⟩
   conv=>whnf
   refine⟨fun h1=>?_,fun h1=>?_⟩
   ·conv=>whnf
    intro g2 hg
    rw [hit (5,k) (by rw [q7D,if_neg (by simp [nb1 h1])])];rfl
   have h1:=nb0 h1
   repeat((conv=>whnf);first|apply qza|apply qzb|apply qzc|apply qzd|apply qze|intro(_:Nat))
   conv=>whnf
   refine .inl ⟨_,qIN _ _,?_⟩
   conv=>whnf
   refine⟨fun h2=>?_,fun h2=>?_⟩
   ·conv=>whnf
    intro g2 hg
    rw [hit (7,k) (by rw [q7D,if_pos h1,if_neg (by simp [nb1 h2])])];rfl
   have h2:=nb0 h2
   repeat((conv=>whnf);first|apply qza|apply qzb|apply qzc|apply qzd|apply qze|intro(_:Nat))
   conv=>whnf
   refine .inl ⟨_,qFQ _ _,?_⟩
   conv=>whnf
   refine⟨fun h3=>?_,fun h3=>?_⟩
   ·conv=>whnf
    intro g2 hg
    rw [hit (8,k) (by rw [q7D,if_pos h1,if_pos h2,if_neg (by simp [nb1 h3])])];rfl
   have h3:=nb0 h3
   repeat((conv=>whnf);first|apply qza|apply qzb|apply qzc|apply qzd|apply qze|intro(_:Nat))
   conv=>whnf
   refine .inl ⟨_,qXM _ hk _,?_⟩
   conv=>whnf
   refine⟨fun h4=>?_,fun h4=>?_⟩
   ·conv=>whnf
    intro g2 hg
    rw [hit (5,k) (by rw [q7D,if_pos h1,if_pos h2,if_pos h3,if_neg (by simp [nb1 h4])])];rfl
   have h4:=nb0 h4
   repeat((conv=>whnf);first|apply qza|apply qzb|apply qzc|apply qzd|apply qze|intro(_:Nat))
   conv=>whnf
   refine⟨⟨by omega,by omega⟩,?_⟩
   repeat((conv=>whnf);first|apply qza|apply qzb|apply qzc|apply qzd|apply qze|intro(_:Nat))
   conv=>whnf
   refine⟨Nat,fun m=>[.v (.int .i64 m)],fun m=>⟨g,[.blk 1 _ _ [.v (.string x.listen),.v (.string x.host),.v (.string x.path),.v (.string ⟨#[]⟩)],.blk 0 _ _ [.v (.slice oa c.listens.length ca),.v (.slice (some a) c.routes.length cb),.v (.slice od c.clusters.length cd)]],_,_⟩,fun m=>m≤k∧(∀ j y,j<m→c.routes[j]?=some y→eqRt y x=false),fun m=>k-m,qSA 0 rfl ⟨Nat.zero_le _,fun j y hj=>by omega⟩ rfl,?_⟩
   rintro m ⟨hmk,hq⟩
   conv=>whnf
   refine⟨fun hml=>?_,fun hml=>?_⟩
   ·have hm':m<k:=by have:=of_decide_eq_true hml;simp at this;omega
    obtain⟨y,hy⟩:=qDA (show m<c.routes.length by omega)
    obtain⟨a',ha',ecy,hecy,rfl,hcy⟩:=hr1 m y hy
    cases ha'
    conv=>whnf
    refine⟨a,rfl,⟨by omega,by simp;omega⟩,?_⟩
    conv=>whnf
    refine⟨_,⟨rfl,hcy⟩,?_⟩
    repeat((conv=>whnf);first|apply qza|apply qzb|apply qzc|apply qzd|apply qze|intro(_:Nat))
    conv=>whnf
    refine⟨fun he=>?_,fun he=>?_⟩
    ·conv=>whnf
     intro g2 hg
     have he:eqRt y x=true:=by simpa [eqRt,Bool.and_assoc] using he
     rw [hit (4,k) (by rw [q7D,if_pos h1,if_pos h2,if_pos h3,if_pos h4,if_pos];exact List.any_eq_true.2 ⟨y,List.mem_of_getElem? (show(c.routes.take k)[m]?=some y by rw [List.getElem?_take,if_pos hm'];exact hy),he⟩)];rfl
    ·conv=>whnf
     refine fun fr w hw=>⟨m+1,congrArg (fun z=>[Value.int .i64 z]) (wr1 hm' (Nat.le_of_lt (Nat.lt_of_lt_of_le h' b1)) b2).symm,⟨hm',?_⟩,dec hm',?_⟩
     ·have he:eqRt y x=false:=by simpa [eqRt,Bool.and_assoc] using he
      intro j z hj hz
      rcases Nat.lt_or_ge j m with c1|c1
      ·exact hq j z c1 hz
      ·obtain rfl:j=m:=by omega
       rw [hy] at hz;cases hz;exact he
     ·exact hw.fit (by simp [fitL,Res.eqv,qAA,conc])
   ·conv=>whnf
    refine fun fr w hw=>⟨k+1,congrArg (fun z=>[Value.int .i64 z]) (wr1 h' b1 b2).symm,⟨h',hp.succ hx (by rw [q7D,if_pos h1,if_pos h2,if_pos h3,if_pos h4,if_neg];have:=of_decide_eq_false hml;rw [any_take.2 fun j y hj=>hq j y (by omega)];simp)⟩,dec h',?_⟩
    exact hw.fit (by simp [fitL,Res.eqv,qAA,conc])
  ·conv=>whnf
   intro g2 hg
   have:=of_decide_eq_false hlt
   rw [show q6E c=none from hp.done (by omega)];rfl)
theorem qHL (o:Option EI):(o=none∧eiT o=.tuple #[.int .i64 0,.int .i64 0])∨∃ e i,o=some (e,i)∧eiT o=.tuple #[.int .i64 e,.int .i64 i]:=by
 cases o with
 | none=>exact .inl ⟨rfl,rfl⟩
 | some x=>exact .inr ⟨x.1,x.2,rfl,rfl⟩
theorem qaM (g:GW) {cs:List Value} {c:Config} (hc:qoD g cs c):OkV Try.prog qsI [.agg ⟨cs⟩] g (eiT (qzA c)):=by
 have hc0:=hc
 obtain⟨a,b,d,rfl,hl,hr,hk⟩:=hc
 obtain⟨oa,ca,rfl,a1,a2,a0,hl1⟩:=id hl
 obtain⟨ob,cb,rfl,b1,b2,b0,hr1⟩:=id hr
 obtain⟨od,cd,rfl,d1,d2,d0,hk1⟩:=id hk
 exact Ok.of_fn hm noT 0 qiI (args:=[.v (.agg ⟨[.slice oa c.listens.length ca,.slice ob c.routes.length cb,.slice od c.clusters.length cd]⟩)]) (by
  repeat((conv=>whnf);first|apply qza|apply qzb|apply qzc|apply qzd|apply qze|intro(_:Nat))
  conv=>whnf
  refine⟨Nat,fun k=>[.v (.int .i64 k)],fun _=>⟨g,[.blk 2 _ _ [.fn (.func qUC) [.agg [.v (.slice oa c.listens.length ca),.v (.slice ob c.routes.length cb),.v (.slice od c.clusters.length cd)]] [],.fn (.func qrB) [.agg [.v (.slice oa c.listens.length ca),.v (.slice ob c.routes.length cb),.v (.slice od c.clusters.length cd)]] [],.fn (.func qaB) [.agg [.v (.slice oa c.listens.length ca),.v (.slice ob c.routes.length cb),.v (.slice od c.clusters.length cd)]] [],.fn (.func q8B) [.agg [.v (.slice oa c.listens.length ca),.v (.slice ob c.routes.length cb),.v (.slice od c.clusters.length cd)]] []],.blk 1 _ _ [.v (.slice oa c.listens.length ca),.v (.slice ob c.routes.length cb),.v (.slice od c.clusters.length cd)],.blk 0 _ _ [.v (.slice oa c.listens.length ca),.v (.slice ob c.routes.length cb),.v (.slice od c.clusters.length cd)]],_,_⟩,fun k=>k≤4∧(1≤k→qlI c=none)∧(2≤k→qCD c=none)∧(3≤k→qwC c=none)∧(4≤k→q6E c=none),fun k=>4-k,qSA 0 rfl ⟨by omega,by omega,by omega,by omega,by omega⟩ rfl,?_⟩
  rintro k ⟨hk4,j1,j2,j3,j4⟩
  obtain rfl|rfl|rfl|rfl|rfl:k=0∨k=1∨k=2∨k=3∨k=4:=by omega
  ·obtain⟨h0,hv⟩|⟨e,i,h0,hv⟩:=qHL (qlI c)
   ·conv=>whnf
    refine⟨fun _=>?_,fun h=>nomatch h⟩
    conv=>whnf
    refine⟨0,⟨rfl,by decide⟩,?_⟩
    repeat((conv=>whnf);first|apply qza|apply qzb|apply qzc|apply qzd|apply qze|intro(_:Nat))
    conv=>whnf
    refine⟨qVC,?_⟩
    conv=>whnf
    refine .inl ⟨_,(qYM _ hc0).to hv,?_⟩
    conv=>whnf
    refine⟨fun h=>(nomatch h),fun _=>?_⟩
    conv=>whnf
    refine fun fr w hw=>⟨1,rfl,⟨by omega,fun _=>h0,fun h=>absurd h (by omega),fun h=>absurd h (by omega),fun h=>absurd h (by omega)⟩,by decide,?_⟩
    exact hw.fit (by simp [fitL,Res.eqv,qAA,conc])
   ·have hck:qzA c=some (e,i):=by rw [qzA,h0]
    have hne:=qMF hck
    conv=>whnf
    refine⟨fun _=>?_,fun h=>nomatch h⟩
    conv=>whnf
    refine⟨0,⟨rfl,by decide⟩,?_⟩
    repeat((conv=>whnf);first|apply qza|apply qzb|apply qzc|apply qzd|apply qze|intro(_:Nat))
    conv=>whnf
    refine⟨qVC,?_⟩
    conv=>whnf
    refine .inl ⟨_,(qYM _ hc0).to hv,?_⟩
    conv=>whnf
    refine⟨fun _=>?_,fun hx=>absurd hx (by simp;omega)⟩
    conv=>whnf
    intro g2 hg
    rw [hck];rfl
  ·obtain⟨h0,hv⟩|⟨e,i,h0,hv⟩:=qHL (qCD c)
   ·conv=>whnf
    refine⟨fun _=>?_,fun h=>nomatch h⟩
    conv=>whnf
    refine⟨1,⟨rfl,by decide⟩,?_⟩
    repeat((conv=>whnf);first|apply qza|apply qzb|apply qzc|apply qzd|apply qze|intro(_:Nat))
    conv=>whnf
    refine⟨qvB,?_⟩
    conv=>whnf
    refine .inl ⟨_,(q4H _ hc0).to hv,?_⟩
    conv=>whnf
    refine⟨fun h=>(nomatch h),fun _=>?_⟩
    conv=>whnf
    refine fun fr w hw=>⟨2,rfl,⟨by omega,fun _=>j1 (by omega),fun _=>h0,fun h=>absurd h (by omega),fun h=>absurd h (by omega)⟩,by decide,?_⟩
    exact hw.fit (by simp [fitL,Res.eqv,qAA,conc])
   ·have hck:qzA c=some (e,i):=by rw [qzA,j1 (by omega),h0]
    have hne:=qMF hck
    conv=>whnf
    refine⟨fun _=>?_,fun h=>nomatch h⟩
    conv=>whnf
    refine⟨1,⟨rfl,by decide⟩,?_⟩
    repeat((conv=>whnf);first|apply qza|apply qzb|apply qzc|apply qzd|apply qze|intro(_:Nat))
    conv=>whnf
    refine⟨qvB,?_⟩
    conv=>whnf
    refine .inl ⟨_,(q4H _ hc0).to hv,?_⟩
    conv=>whnf
    refine⟨fun _=>?_,fun hx=>absurd hx (by simp;omega)⟩
    conv=>whnf
    intro g2 hg
    rw [hck];rfl
  ·obtain⟨h0,hv⟩|⟨e,i,h0,hv⟩:=qHL (qwC c)
   ·conv=>whnf
    refine⟨fun _=>?_,fun h=>nomatch h⟩
    conv=>whnf
    refine⟨2,⟨rfl,by decide⟩,?_⟩
    repeat((conv=>whnf);first|apply qza|apply qzb|apply qzc|apply qzd|apply qze|intro(_:Nat))
    conv=>whnf
    refine⟨qdB,?_⟩
    conv=>whnf
    refine .inl ⟨_,(qLH _ hc0).to hv,?_⟩
    conv=>whnf
    refine⟨fun h=>(nomatch h),fun _=>?_⟩
    conv=>whnf
    refine fun fr w hw=>⟨3,rfl,⟨by omega,fun _=>j1 (by omega),fun _=>j2 (by omega),fun _=>h0,fun h=>absurd h (by omega)⟩,by decide,?_⟩
    exact hw.fit (by simp [fitL,Res.eqv,qAA,conc])
   ·have hck:qzA c=some (e,i):=by rw [qzA,j1 (by omega),j2 (by omega),h0]
    have hne:=qMF hck
    conv=>whnf
    refine⟨fun _=>?_,fun h=>nomatch h⟩
    conv=>whnf
    refine⟨2,⟨rfl,by decide⟩,?_⟩
    repeat((conv=>whnf);first|apply qza|apply qzb|apply qzc|apply qzd|apply qze|intro(_:Nat))
    conv=>whnf
    refine⟨qdB,?_⟩
    conv=>whnf
    refine .inl ⟨_,(qLH _ hc0).to hv,?_⟩
    conv=>whnf
    refine⟨fun _=>?_,fun hx=>absurd hx (by simp;omega)⟩
    conv=>whnf
    intro g2 hg
    rw [hck];rfl
  ·obtain⟨h0,hv⟩|⟨e,i,h0,hv⟩:=qHL (q6E c)
   ·conv=>whnf
    refine⟨fun _=>?_,fun h=>nomatch h⟩
    conv=>whnf
    refine⟨3,⟨rfl,by decide⟩,?_⟩
    repeat((conv=>whnf);first|apply qza|apply qzb|apply qzc|apply qzd|apply qze|intro(_:Nat))
    conv=>whnf
    refine⟨qAC,?_⟩
    conv=>whnf
    refine .inl ⟨_,(q8I _ hc0).to hv,?_⟩
    conv=>whnf
    refine⟨fun h=>(nomatch h),fun _=>?_⟩
    conv=>whnf
    refine fun fr w hw=>⟨4,rfl,⟨by omega,fun _=>j1 (by omega),fun _=>j2 (by omega),fun _=>j3 (by omega),fun _=>h0⟩,by decide,?_⟩
    exact hw.fit (by simp [fitL,Res.eqv,qAA,conc])
   ·have hck:qzA c=some (e,i):=by rw [qzA,j1 (by omega),j2 (by omega),j3 (by omega),h0]
    have hne:=qMF hck
    conv=>whnf
    refine⟨fun _=>?_,fun h=>nomatch h⟩
    conv=>whnf
    refine⟨3,⟨rfl,by decide⟩,?_⟩
    repeat((conv=>whnf);first|apply qza|apply qzb|apply qzc|apply qzd|apply qze|intro(_:Nat))
    conv=>whnf
    refine⟨qAC,?_⟩
    conv=>whnf
    refine .inl ⟨_,(q8I _ hc0).to hv,?_⟩
    conv=>whnf
    refine⟨fun _=>?_,fun hx=>absurd hx (by simp;omega)⟩
    conv=>whnf
    intro g2 hg
    rw [hck];rfl
  ·conv=>whnf
   refine⟨fun h=>(nomatch h),fun _=>?_⟩
   conv=>whnf
   intro g2 hg
   rw [show qzA c=none from by rw [qzA,j1 (by omega),j2 (by omega),j3 (by omega),j4 (by omega)]];rfl)
/- Whether a configuration may be: the document's answer. -/
open Go.Proofs.Ytkbbljngpglnkaa.Sx
/- Whether a configuration may be: what is too big to be looked at. -/
open Go.Proofs.Ytkbbljngpglnkaa.Sx
abbrev qoP (r:Route):List Value:=[.string r.listen,.string r.host,.string r.path,.string r.cluster]
/- Which hosts and paths are meant: the program's and the document's answers. -/
open Go.Proofs.Ytkbbljngpglnkaa.Sx
/- Which rule a request goes by: the program's and the document's answers. -/
open Go.Proofs.Ytkbbljngpglnkaa.Sx
def qyJ (r:Rule):Bool:=decide (100<r.host.size)||decide (100<r.path.size)
def bigR (l:List Rule):Bool:=decide (50<l.length)||l.any qyJ
theorem q8P (g:GW) {v:Value} {l:List Rule} (hl:rSl 4 qDN g v l):OkV Try.prog qcG [v] g (.bool (bigR l)) :=
 Ok.of_fn hm noT 0 qOG (args:=[.v v]) (by
  obtain⟨oa,cap,rfl,h1,h2,h0,hr⟩:=hl
  repeat((conv=>whnf);first|apply qza|apply qzb|apply qzc|apply qzd|apply qze|intro(_:Nat))
  conv=>whnf
  refine⟨Nat,fun k=>[.v (.int .i64 k)],fun k=>⟨g,[],_,_⟩,fun k=>k≤l.length∧(l.take k).any qyJ=false,fun k=>l.length-k,qSA 0 rfl ⟨Nat.zero_le _,rfl⟩ rfl,?_⟩
  rintro k ⟨hk,hall⟩
  conv=>whnf
  refine⟨fun hlt=>?_,fun hlt=>?_⟩
  ·have h':k<l.length:=by have:=of_decide_eq_true hlt;omega
   conv=>whnf
   refine⟨fun h50=>?_,fun h50=>?_⟩
   ·obtain⟨q,hq⟩:=qDA h'
    obtain⟨a,rfl,ecq,hecq,⟨rfl,_,_⟩,hcq⟩:=hr k q hq
    have hg:∀ b,qyJ q=b→(l.take (k+1)).any qyJ=b:=fun b hb=>by
     obtain⟨_,hge⟩:=List.getElem?_eq_some_iff.1 hq
     rw [List.take_succ_eq_append_getElem h',List.any_append,hall,hge]
     simp [hb]
    have hbe:qyJ q=true→bigR l=true:=fun hb=>by
     rw [bigR,List.any_eq_true.2 ⟨q,List.mem_of_getElem? hq,hb⟩,Bool.or_true]
    conv=>whnf
    refine⟨a,rfl,⟨by omega,by omega⟩,?_⟩
    conv=>whnf
    refine⟨_,hcq 1 _ rfl,?_⟩
    conv=>whnf
    refine⟨fun ha=>?_,fun ha=>?_⟩
    ·conv=>whnf
     intro g2 hg
     rw [hbe (by simp at ha;simp [qyJ];omega)]
    ·conv=>whnf
     refine⟨a,rfl,⟨by omega,by omega⟩,?_⟩
     conv=>whnf
     refine⟨_,hcq 2 _ rfl,?_⟩
     conv=>whnf
     refine⟨fun hb=>?_,fun hb=>?_⟩
     ·conv=>whnf
      intro g2 hg
      rw [hbe (by simp at hb;simp [qyJ];omega)]
     ·conv=>whnf
      refine fun fr w hw=>⟨k+1,congrArg (fun z=>[Value.int .i64 z]) (wr1 h' h1 h2).symm,⟨h',hg _ (by simp at ha hb;simp [qyJ];omega)⟩,dec h',hw⟩
   ·conv=>whnf
    intro g2 hg
    have:=of_decide_eq_false h50
    rw [bigR,decide_eq_true (show 50<l.length by omega),decide_eq_true (show(50:Int)<l.length by omega)];rfl
  ·conv=>whnf
   intro g2 hg
   have:k=l.length:=by have:=of_decide_eq_false hlt;omega
   rw [this,List.take_length] at hall
   rw [bigR,hall,Bool.or_false]
   exact congrArg Value.bool (decide_eq_decide.2 (by omega)))
/- Snapshots: what is built,and their configurations: the program's and the document's answers. -/
open Go.Proofs.Ytkbbljngpglnkaa.Sx Go.RowKit
theorem qsO {α β:Type} {l:List α} {f:α→List β} {k:Nat} {x:α} (hx:l[k]?=some x):((l.take (k+1)).map f).flatten=((l.take k).map f).flatten++f x:=by
 obtain⟨h1,h2⟩:=List.getElem?_eq_some_iff.1 hx
 rw [List.take_succ_eq_append_getElem h1,h2];simp
end Go.Proofs.Ytkbbljngpglnkaa
