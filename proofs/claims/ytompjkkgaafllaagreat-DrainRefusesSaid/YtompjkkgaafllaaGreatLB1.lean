/- What all contracts lean on: the program follows the model's reading; how a contract becomes a walk. -/
import Derived.Test.YtompjkkgaafllaaGreatF
import Derived.Test.YtompjkkgaafllaaGreatPl
import Derived.WalkKit
import Derived.Lib.Walk
import Derived.Lib.Strings
import Derived.Lib.Bytealg
set_option linter.unusedVariables false
set_option linter.unusedSimpArgs false
namespace Go.Proofs.YtompjkkgaafllaaGreat
open Go.Proofs.YtompjkkgaafllaaGreat.Sx
set_option maxHeartbeats 16000000
set_option maxRecDepth 100000
theorem hm:Tryz.prog.follows .mixedOrders=true:=by kernel_rfl
theorem noT:qOG Tryz.prog []:=fun _ h=>nomatch h
theorem qFT {f:FuncId} {args:List Value} {w:World} {v:Value} (h:OkV Tryz.prog f args (allG w) v):Calls Tryz.prog f args.toArray w fun e w'=>e=.returned v∧RowKit.Below w.heap.size w w' :=
 (h w (Good.refl _)).mono fun _ _ ⟨_,he,hb,hv⟩=>⟨hv▸he,hb⟩
/- Slots: words with tags;which ones are free. -/
open Go.Proofs.YtompjkkgaafllaaGreat.Sx Go.RowKit
theorem qAU {w:Int} (hw:InU w):IntKind.u32.wrap w=w % 4294967296:=by
 rw [IntKind.wrap_u32]
theorem idx_wr {w:Int}:InR (w % 4294967296)∧InR (w % 4294967296-1):=by
 have h1:=Int.emod_nonneg w (show(4294967296:Int)≠0 by decide)
 have h2:=Int.emod_lt_of_pos w (show(0:Int)<4294967296 by decide)
 unfold InR;omega
theorem qvL (g:GW) {w:Int} (hw:InU w):OkV Tryz.prog qlO [.int .u64 w] g (.int .i64 (idxT w)) :=
 Ok.of_fn hm noT 0 qEO (args:=[.v (.int .u64 w)]) (by
  repeat((conv=>whnf);first|apply qza|apply qzb|apply qzc|apply qzd|apply qze|intro(_:Nat))
  conv=>whnf
  intro g2 hg
  rw [qAU hw,wr idx_wr.1,show w % 4294967296+-1=w % 4294967296-1 from rfl,wr idx_wr.2];rfl)
theorem qQU {t i:Int} (ht:0≤t∧t<4294967296) (hi:0≤i∧i<4294967296):qcQ .or .u64 (t*4294967296) i=t*4294967296+i:=by
 obtain⟨a,rfl⟩:=Int.eq_ofNat_of_zero_le ht.1
 obtain⟨b,rfl⟩:=Int.eq_ofNat_of_zero_le hi.1
 have h:=Nat.shiftLeft_add_eq_or_of_lt (i:=32) (b:=b) (by omega) a
 rw [Nat.shiftLeft_eq,show(2:Nat) ^ 32=4294967296 by decide] at h
 rw [show(a:Int)*4294967296=((a*4294967296:Nat):Int) by omega]
 have e1:(BitVec.ofInt 64 ((a*4294967296:Nat):Int)).toNat=a*4294967296:=by
  rw [BitVec.ofInt_natCast,BitVec.toNat_ofNat];omega
 have e2:(BitVec.ofInt 64 (b:Int)).toNat=b:=by
  rw [BitVec.ofInt_natCast,BitVec.toNat_ofNat];omega
 show IntKind.u64.wrap ((BitVec.ofInt 64 ((a*4294967296:Nat):Int) ||| BitVec.ofInt 64 (b:Int)).toNat:Int)=_
 rw [BitVec.toNat_or,e1,e2,← h,IntWalk.u64_in _ (by omega)];omega
theorem quL (g:GW) {t i:Int} (ht:0≤t∧t<4294967296) (hi:InR i):OkV Tryz.prog qDQ [.int .u32 t,.int .i64 i] g (.tuple #[.int .u64 (if qsC i then t*4294967296+(i+1) else 0),.int .i64 (if qsC i then 0 else 1)]) :=
 Ok.of_fn hm noT 0 qmP (args:=[.v (.int .u32 t),.v (.int .i64 i)]) (by
  repeat((conv=>whnf);first|apply qza|apply qzb|apply qzc|apply qzd|apply qze|intro(_:Nat))
  conv=>whnf
  refine⟨fun h=>?_,fun h=>?_⟩
  ·repeat((conv=>whnf);first|apply qza|apply qzb|apply qzc|apply qzd|apply qze|intro(_:Nat))
   conv=>whnf
   intro g2 hg
   have:qsC i=false:=by unfold qsC;have:=of_decide_eq_true h;simp;omega
   rw [this];rfl
  ·repeat((conv=>whnf);first|apply qza|apply qzb|apply qzc|apply qzd|apply qze|intro(_:Nat))
   conv=>whnf
   refine⟨fun h2=>?_,fun h2=>?_⟩
   ·repeat((conv=>whnf);first|apply qza|apply qzb|apply qzc|apply qzd|apply qze|intro(_:Nat))
    conv=>whnf
    intro g2 hg
    have:qsC i=false:=by unfold qsC;have:=of_decide_eq_true h2;simp;omega
    rw [this];rfl
   ·repeat((conv=>whnf);first|apply qza|apply qzb|apply qzc|apply qzd|apply qze|intro(_:Nat))
    conv=>whnf
    refine⟨by decide,?_⟩
    repeat((conv=>whnf);first|apply qza|apply qzb|apply qzc|apply qzd|apply qze|intro(_:Nat))
    conv=>whnf
    intro g2 hg
    have h1:=of_decide_eq_false h
    have h2:=of_decide_eq_false h2
    have:qsC i=true:=by unfold qsC;simp;omega
    rw [this]
    have e1:IntKind.u64.wrap t=t:=IntWalk.u64_in t (by omega)
    have e2:IntKind.u64.wrap (t*2 ^ min (Int.toNat 32) IntKind.u64.bits)=t*4294967296:=by
     rw [show(2:Int) ^ min (Int.toNat 32) IntKind.u64.bits=4294967296 by decide];exact IntWalk.u64_in _ (by omega)
    have e3:IntKind.u64.wrap (IntKind.i64.wrap (i - -1))=i+1:=by rw [wr (by unfold InR;omega)];exact IntWalk.u64_in _ (by omega)
    rw [e1,e2,e3,qQU ht (by omega)];rfl)
def tCh:List (Nat×FnI):=[(q3L,q8H),(qwJ,qGG)]
theorem qNU:qOG Tryz.prog tCh:=by
 intro x hx
 simp only [tCh,List.mem_cons,List.not_mem_nil,or_false] at hx
 rcases hx with rfl|rfl
 ·exact⟨_,_,qUL⟩
 ·exact⟨_,_,qUJ⟩
def qCP (e:EndC) (v:Value) (g':GW):Prop:=match qrA e with
 | none=>v=.tuple #[.slice none 0 0,.int .i64 11]
 | some l=>∃ oa cap,v=.tuple #[.slice oa l.length cap,.int .i64 0]∧rSl 1 rInt g' (.slice oa l.length cap) l
abbrev cInt (l:List Int):List Value:=l.map fun x=>Value.int .i64 x
theorem qOP (g:GW) {cs:List Value} {e:EndC} (he:rEn g cs e):Ok Tryz.prog qJN [.agg ⟨cs⟩] g (qCP e):=by
 obtain⟨⟨n,rfl,hH,hA,hN⟩,hsz⟩:=he
 obtain⟨oa,ca,rfl,a1,a2,a0,hr⟩:=id hN
 exact Ok.of_fn hm qNU 2 qpM (args:=[.v (.agg ⟨[.int .u64 e.head,.slice oa e.next.length ca,.int .i64 e.active]⟩)]) (by
  repeat((conv=>whnf);first|apply qza|apply qzb|apply qzc|apply qzd|apply qze|intro(_:Nat)|intro(_:OA)_)
  conv=>whnf
  refine⟨q6J,fun lp rr=>?_⟩
  repeat((conv=>whnf);first|apply qza|apply qzb|apply qzc|apply qzd|apply qze|intro(_:Nat)|intro(_:OA)_)
  conv=>whnf
  refine⟨⟨by omega,by omega,by omega,by omega⟩,fun _=>?_⟩
  repeat((conv=>whnf);first|apply qza|apply qzb|apply qzc|apply qzd|apply qze|intro(_:Nat)|intro(_:OA)_)
  conv=>whnf
  refine .inl ⟨_,qvL _ hH,?_⟩
  rename_i q0 q1 q2 q3 q4 q5
  repeat((conv=>whnf);first|apply qza|apply qzb|apply qzc|apply qzd|apply qze|intro(_:Nat)|intro(_:OA)_)
  conv=>whnf
  refine⟨Int×List Int×Option Addr×Nat,fun (i,_,_,_)=>[.v (.int .i64 i)],fun (_,out,oX,cX)=>⟨g,[.row 7 oX out.length cX quA 1 (cInt out),.row 6 (some ⟨q5,0,none⟩) e.next.length e.next.length qQI 1 (qtF e.next.length out),.lp 5 lp rr .ready,.blk 4 q4 qtA [.v (.int .u64 e.head),.v (.slice oa e.next.length ca),.v (.int .i64 e.active)],.blk 3 q3 qmD [.row 7 oX out.length cX],.blk 2 q2 qmM [.v (.int .i64 0)],.blk 1 q1 qmD [.v (.slice none 0 0)],.blk 0 q0 qtA [.v (.int .u64 e.head),.v (.slice oa e.next.length ca),.v (.int .i64 e.active)]],40,g.w.heap.size⟩,fun (i,out,_,_)=>InR i∧out.Nodup∧(∀ x∈out,0≤x∧x<e.next.length)∧qLG e.next (e.next.length+1-out.length) out i=qrA e,fun (_,out,_,_)=>e.next.length-out.length,?_,?_⟩
  ·intro fr w hw
   exact⟨(idxT e.head,[],none,0),rfl,⟨by have:=qUP e.head;unfold InR;omega,List.nodup_nil,by simp,rfl⟩,(hw.nil_row (nx':=40) 7 quA 1).fit (by simp [fitL,Res.eqv,qAA,conc,qvQ])⟩
  rintro⟨i,out,oX,cX⟩ ⟨hi,hnd,hin,hch⟩
  repeat((conv=>whnf);first|apply qza|apply qzb|apply qzc|apply qzd|apply qze|intro(_:Nat)|intro(_:OA)_)
  conv=>whnf
  refine⟨fun h1=>?_,fun h1=>?_⟩
  ·have hne:i≠-1:=by simpa using h1
   have hbad:(i<0∨(e.next.length:Int)≤i∨i∈out)→qrA e=none:=fun hb=>by
    have hlen:=q3F hnd hin
    rw [show e.next.length+1-out.length=(e.next.length-out.length)+1 by omega] at hch
    simp only [qLG,if_neg hne,if_pos hb] at hch
    exact hch.symm
   repeat((conv=>whnf);first|apply qza|apply qzb|apply qzc|apply qzd|apply qze|intro(_:Nat)|intro(_:OA)_)
   conv=>whnf
   refine⟨fun h2=>?_,fun h2=>?_⟩
   ·repeat((conv=>whnf);first|apply qza|apply qzb|apply qzc|apply qzd|apply qze|intro(_:Nat)|intro(_:OA)_)
    conv=>whnf
    refine⟨fun _=>?_,fun h=>nomatch h⟩
    repeat((conv=>whnf);first|apply qza|apply qzb|apply qzc|apply qzd|apply qze|intro(_:Nat)|intro(_:OA)_)
    conv=>whnf
    intro g2 hg
    unfold qCP
    rw [hbad (.inl (by simpa using h2))]
   ·repeat((conv=>whnf);first|apply qza|apply qzb|apply qzc|apply qzd|apply qze|intro(_:Nat)|intro(_:OA)_)
    conv=>whnf
    refine⟨fun h3=>?_,fun h3=>?_⟩
    ·repeat((conv=>whnf);first|apply qza|apply qzb|apply qzc|apply qzd|apply qze|intro(_:Nat)|intro(_:OA)_)
     conv=>whnf
     refine⟨fun _=>?_,fun h=>nomatch h⟩
     repeat((conv=>whnf);first|apply qza|apply qzb|apply qzc|apply qzd|apply qze|intro(_:Nat)|intro(_:OA)_)
     conv=>whnf
     intro g2 hg
     unfold qCP
     rw [hbad (.inr (.inl (by simpa using h3)))]
    ·have hi0:0≤i∧i<e.next.length:=by simp at h2 h3;omega
     have hsg:=qwQ (n:=e.next.length) (out:=out) hi0
     obtain⟨y,hy⟩:=qBA (l:=e.next) (i:=i.toNat) (by omega)
     obtain⟨a,rfl,ec,hec,⟨rfl,hyr⟩,hc⟩:=hr i.toNat y hy
     repeat((conv=>whnf);first|apply qza|apply qzb|apply qzc|apply qzd|apply qze|intro(_:Nat)|intro(_:OA)_)
     conv=>whnf
     refine⟨hi0,?_⟩
     repeat((conv=>whnf);first|apply qza|apply qzb|apply qzc|apply qzd|apply qze|intro(_:Nat)|intro(_:OA)_)
     conv=>whnf
     refine⟨_,by simpa using hsg,?_⟩
     repeat((conv=>whnf);first|apply qza|apply qzb|apply qzc|apply qzd|apply qze|intro(_:Nat)|intro(_:OA)_)
     conv=>whnf
     refine⟨fun h4=>?_,fun h4=>?_⟩
     ·repeat((conv=>whnf);first|apply qza|apply qzb|apply qzc|apply qzd|apply qze|intro(_:Nat)|intro(_:OA)_)
      conv=>whnf
      refine⟨fun _=>?_,fun h=>nomatch h⟩
      repeat((conv=>whnf);first|apply qza|apply qzb|apply qzc|apply qzd|apply qze|intro(_:Nat)|intro(_:OA)_)
      conv=>whnf
      intro g2 hg
      unfold qCP
      rw [hbad (.inr (.inr (by simpa using h4)))]
     ·have h4':i ∉ out:=by simpa using h4
      have hnd2:(out++[i]).Nodup:=List.nodup_append.2 ⟨hnd,by simp,fun a ha b hb hab=>h4' (by simp at hb;rw [← hb,← hab];exact ha)⟩
      have hin2:∀ x∈out++[i],0≤x∧x<e.next.length:=fun x hx=>by
       rcases List.mem_append.1 hx with hx|hx
       ·exact hin x hx
       ·simp at hx;subst hx;exact hi0
      have hlen2:=q3F hnd2 hin2
      have hset:=quQ (out:=out) hi0
      simp only [List.length_append,List.length_cons,List.length_nil] at hlen2
      repeat((conv=>whnf);first|apply qza|apply qzb|apply qzc|apply qzd|apply qze|intro(_:Nat)|intro(_:OA)_)
      conv=>whnf
      refine⟨hi0,?_⟩
      repeat((conv=>whnf);first|apply qza|apply qzb|apply qzc|apply qzd|apply qze|intro(_:Nat)|intro(_:OA)_)
      conv=>whnf
      refine⟨⟨by rw [qzM];omega,by decide⟩,?_⟩
      repeat((conv=>whnf);first|apply qza|apply qzb|apply qzc|apply qzd|apply qze|intro(_:Nat)|intro(_:OA)_)
      conv=>whnf
      refine⟨fun hx=>absurd hx (by simp;omega),fun _=>?_⟩
      repeat((conv=>whnf);first|apply qza|apply qzb|apply qzc|apply qzd|apply qze|intro(_:Nat)|intro(_:OA)_)
      conv=>whnf
      refine⟨fun hx=>absurd hx (by simp;omega),fun _=>?_⟩
      repeat((conv=>whnf);first|apply qza|apply qzb|apply qzc|apply qzd|apply qze|intro(_:Nat)|intro(_:OA)_)
      conv=>whnf
      refine⟨⟨by unfold maxLen;omega,by omega⟩,fun oa2 cap2=>?_⟩
      repeat((conv=>whnf);first|apply qza|apply qzb|apply qzc|apply qzd|apply qze|intro(_:Nat)|intro(_:OA)_)
      conv=>whnf
      refine⟨a,rfl,hi0,?_⟩
      conv=>whnf
      refine⟨_,hc 0 _ rfl,?_⟩
      repeat((conv=>whnf);first|apply qza|apply qzb|apply qzc|apply qzd|apply qze|intro(_:Nat)|intro(_:OA)_)
      conv=>whnf
      refine fun fr w hw=>⟨(y,out++[i],oa2,cap2),rfl,⟨hyr,hnd2,hin2,?_⟩,by simp only [List.length_append,List.length_cons,List.length_nil];omega,?_⟩
      ·rw [show e.next.length+1-out.length=(e.next.length+1-(out++[i]).length)+1 by simp;omega] at hch
       simp only [qLG,if_neg hne,if_neg (show ¬ (i<0∨(e.next.length:Int)≤i∨i∈out) by rintro(h|h|h);omega;omega;exact h4' h)] at hch
       rw [← hch]
       unfold nxtL
       rw [hy];rfl
      ·have hset2:List.take i.toNat (qtF e.next.length out)++Value.bool true :: List.drop (i.toNat+1) (qtF e.next.length out)=qtF e.next.length (out++[i]):=by rw [← hset];simp
       exact hw.fit (by simp [fitL,Res.eqv,qAA,conc,hset2])
  ·have hi1:i=-1:=by simpa using h1
   subst hi1
   have hlen:=q3F hnd hin
   rw [show e.next.length+1-out.length=(e.next.length-out.length)+1 by omega] at hch
   simp only [qLG,if_true] at hch
   repeat((conv=>whnf);first|apply qza|apply qzb|apply qzc|apply qzd|apply qze|intro(_:Nat)|intro(_:OA)_)
   conv=>whnf
   refine⟨fun h=>(nomatch h),fun _=>?_⟩
   conv=>whnf
   refine⟨fun _=>?_,fun h=>nomatch h⟩
   repeat((conv=>whnf);first|apply qza|apply qzb|apply qzc|apply qzd|apply qze|intro(_:Nat)|intro(_:OA)_)
   conv=>whnf
   refine fun g1 hg1 hn1 hp1=>?_
   repeat((conv=>whnf);first|apply qza|apply qzb|apply qzc|apply qzd|apply qze|intro(_:Nat)|intro(_:OA)_)
   conv=>whnf
   intro g2 hg
   unfold qCP
   rw [← hch]
   exact⟨oX,cX,rfl,(qzF hp1.rd out (fun x=>.int .i64 x) rfl fun x hx=>⟨rfl,by have:=hin x hx;unfold InR;omega⟩).mono qOB hg⟩)
theorem qXO (g:GW) {cs:List Value} {e:EndC} (he:rEn g cs e):OkV Tryz.prog qEQ [.agg ⟨cs⟩] g (.bool (endB e)):=by
 have he0:=he
 obtain⟨⟨n,rfl,hH,hA,hN⟩,hsz⟩:=he
 obtain⟨oa,ca,rfl,a1,a2,a0,hr⟩:=id hN
 exact Ok.of_fn hm noT 0 qnP (args:=[.v (.agg ⟨[.int .u64 e.head,.slice oa e.next.length ca,.int .i64 e.active]⟩)]) (by
  repeat((conv=>whnf);first|apply qza|apply qzb|apply qzc|apply qzd|apply qze|intro(_:Nat))
  refine .inr ((qOP _ he0).mono fun v g1 hg1 hF=>?_)
  unfold qCP at hF
  unfold endB
  cases hf:qrA e with
  | none =>
   rw [hf] at hF
   subst hF
   repeat((conv=>whnf);first|apply qza|apply qzb|apply qzc|apply qzd|apply qze|intro(_:Nat))
   conv=>whnf
   refine⟨fun h=>(nomatch h),fun _=>?_⟩
   repeat((conv=>whnf);first|apply qza|apply qzb|apply qzc|apply qzd|apply qze|intro(_:Nat))
   conv=>whnf
   intro g2 hg
   rfl
  | some l =>
   rw [hf] at hF
   obtain⟨oX,cX,rfl,_⟩:=hF
   repeat((conv=>whnf);first|apply qza|apply qzb|apply qzc|apply qzd|apply qze|intro(_:Nat))
   conv=>whnf
   refine⟨fun _=>?_,fun h=>nomatch h⟩
   repeat((conv=>whnf);first|apply qza|apply qzb|apply qzc|apply qzd|apply qze|intro(_:Nat))
   conv=>whnf
   refine⟨fun h1=>?_,fun h1=>?_⟩
   ·repeat((conv=>whnf);first|apply qza|apply qzb|apply qzc|apply qzd|apply qze|intro(_:Nat))
    conv=>whnf
    refine⟨fun h2=>?_,fun h2=>?_⟩
    ·repeat((conv=>whnf);first|apply qza|apply qzb|apply qzc|apply qzd|apply qze|intro(_:Nat))
     conv=>whnf
     intro g2 hg
     have k1:=of_decide_eq_true h1
     have k2:=of_decide_eq_true h2
     rw [decide_eq_true (show 1≤e.next.length by omega),decide_eq_true (show e.next.length≤4 by omega)];rfl
    ·repeat((conv=>whnf);first|apply qza|apply qzb|apply qzc|apply qzd|apply qze|intro(_:Nat))
     conv=>whnf
     intro g2 hg
     have k2:=of_decide_eq_false h2
     rw [decide_eq_false (show ¬ e.next.length≤4 by omega)];simp
   ·repeat((conv=>whnf);first|apply qza|apply qzb|apply qzc|apply qzd|apply qze|intro(_:Nat))
    conv=>whnf
    intro g2 hg
    have k1:=of_decide_eq_false h1
    rw [decide_eq_false (show ¬ 1≤e.next.length by omega)];simp)
/- Slots: the first one is taken. -/
open Go.Proofs.YtompjkkgaafllaaGreat.Sx Go.RowKit
theorem qBR (g:GW) {w:Int} (hw:InU w):OkV Tryz.prog qPR [.int .u64 w] g (.int .u32 (tagT w)) :=
 Ok.of_fn hm noT 0 qlQ (args:=[.v (.int .u64 w)]) (by
  repeat((conv=>whnf);first|apply qza|apply qzb|apply qzc|apply qzd|apply qze|intro(_:Nat))
  conv=>whnf
  refine⟨by decide,?_⟩
  repeat((conv=>whnf);first|apply qza|apply qzb|apply qzc|apply qzd|apply qze|intro(_:Nat))
  conv=>whnf
  intro g2 hg
  have h1:0≤tagT w∧tagT w<4294967296:=by
   unfold tagT
   obtain⟨a,b⟩:=hw
   constructor<;>omega
  have e2:w.fdiv (2 ^ min (Int.toNat 32) IntKind.u64.bits)=tagT w:=by
   rw [show(2:Int) ^ min (Int.toNat 32) IntKind.u64.bits=4294967296 by decide,Int.fdiv_eq_ediv_of_nonneg _ (by decide)];rfl
  rw [e2,IntKind.wrap_u32,Int.emod_eq_of_lt h1.1 h1.2])
theorem qHS (g:GW) {w i:Int} (hw:InU w) (hi:-1≤i∧i≤2147483646):OkV Tryz.prog q7K [.int .u64 w,.int .i64 i] g (.tuple #[.int .u64 (qWB w i),.int .i64 0]) :=
 Ok.of_fn hm noT 0 qyK (args:=[.v (.int .u64 w),.v (.int .i64 i)]) (by
  have h1:=Int.emod_nonneg (tagT w+1) (show(4294967296:Int)≠0 by decide)
  have h2:=Int.emod_lt_of_pos (tagT w+1) (show(0:Int)<4294967296 by decide)
  have hp:qsC i=true:=by unfold qsC;simp;omega
  repeat((conv=>whnf);first|apply qza|apply qzb|apply qzc|apply qzd|apply qze|intro(_:Nat))
  conv=>whnf
  refine .inl ⟨_,qBR _ hw,?_⟩
  repeat((conv=>whnf);first|apply qza|apply qzb|apply qzc|apply qzd|apply qze|intro(_:Nat))
  conv=>whnf
  refine .inl ⟨_,(quL _ (t:=IntKind.u32.wrap (tagT w+1)) (i:=i) (by rw [IntKind.wrap_u32];exact⟨h1,h2⟩) (by unfold InR;omega)),?_⟩
  repeat((conv=>whnf);first|apply qza|apply qzb|apply qzc|apply qzd|apply qze|intro(_:Nat))
  conv=>whnf
  intro g2 hg
  rw [hp,IntKind.wrap_u32];rfl)
open Go.Proofs.YtompjkkgaafllaaGreat.Sx
theorem q2S (g:GW) (c:Int):OkV Tryz.prog qpO [.int .u8 c] g (.bool (lowB c)) :=
 Ok.of_fn hm noT 0 qIO (args:=[.v (.int .u8 c)]) (by
  repeat' ((conv=>whnf);apply And.intro<;>intro _)
  all_goals ((conv=>whnf);intro g2 hg;simp_all [lowB]<;>omega))
theorem qNP (g:GW) (c:Int):OkV Tryz.prog q7B [.int .u8 c] g (.bool (qMJ c)) :=
 Ok.of_fn hm noT 0 qXK (args:=[.v (.int .u8 c)]) (by
  conv=>whnf
  refine .inl ⟨_,q2S _ _,?_⟩
  repeat' ((conv=>whnf);apply And.intro<;>intro _)
  all_goals ((conv=>whnf);intro g2 hg;simp_all [qMJ]<;>omega))
def tN:List (Nat×FnI):=[(qKN,q2I),(q4F,qLD)]
theorem qIU:qOG Tryz.prog tN:=by
 intro x hx
 simp only [tN,List.mem_cons,List.not_mem_nil,or_false] at hx
 rcases hx with rfl|rfl
 ·exact⟨_,_,qqM⟩
 ·exact⟨_,_,qoF⟩
theorem qGH (g:GW) (s:ByteArray):OkV Tryz.prog qMN [.string s] g (.bool (q5D (bs s))) :=
 Ok.of_fn hm qIU 1 qsM (args:=[.v (.string s)]) (by
  conv=>whnf
  refine⟨fun h1=>?_,fun h1=>?_⟩
  ·conv=>whnf
   refine⟨fun h2=>?_,fun h2=>?_⟩
   ·have k1:=of_decide_eq_true h1
    have k2:=of_decide_eq_true h2
    rw [qQA] at k1 k2
    obtain⟨c0,hc0⟩:∃ c0,(bs s)[0]?=some c0:=⟨(bs s)[0]'(by omega),List.getElem?_eq_getElem (by omega)⟩
    have hlow:(bs s).head?.any (fun c=>lowB c.toNat)=lowB c0.toNat:=by rw [List.head?_eq_getElem?,hc0];rfl
    conv=>whnf
    refine⟨c0,⟨by omega,hc0⟩,?_⟩
    conv=>whnf
    refine .inl ⟨_,q2S _ _,?_⟩
    conv=>whnf
    refine⟨fun h3=>?_,fun h3=>?_⟩
    ·conv=>whnf
     intro b1
     conv=>whnf
     refine⟨rfl,?_⟩
     conv=>whnf
     refine⟨rfl,?_⟩
     conv=>whnf
     intro b2
     conv=>whnf
     refine⟨Nat,fun i=>[.v (.int .i64 i)],fun _=>⟨g,[.blk 1 b2 _ [.v (.func (.func q7B) #[] #[])],.blk 0 b1 _ [.v (.func (.func q7B) #[] #[])]],_,_⟩,fun i=>i≤(bs s).length∧((bs s).take i).all (fun c=>qMJ c.toNat)=true,fun i=>(bs s).length-i,fun _ _ hw=>⟨0,rfl,⟨Nat.zero_le _,rfl⟩,hw⟩,?_⟩
     intro i hJ
     have hi:=hJ.1
     have hall:=hJ.2
     conv=>whnf
     refine⟨fun h=>?_,fun h=>?_⟩
     ·have h':i<(bs s).length:=by have:=of_decide_eq_true h;rw [qQA] at this;omega
      obtain⟨c,hcc,hc⟩:∃ c,(bs s)[i]=c∧(bs s)[i]?=some c:=⟨_,rfl,List.getElem?_eq_getElem h'⟩
      have hgood:∀ b,qMJ c.toNat=b→((bs s).take (i+1)).all (fun c=>qMJ c.toNat)=b:=fun b hb=>by rw [qZG h',hall,hcc,hb];rfl
      have hw2:IntKind.i64.wrap ((i:Int)+1)=((i+1:Nat):Int):=by rw [wr (by omega)];simp
      conv=>whnf
      refine⟨c,⟨by omega,hc⟩,?_⟩
      conv=>whnf
      refine⟨fun hz=>?_,fun hz=>?_⟩
      ·conv=>whnf
       refine⟨rfl,?_⟩
       conv=>whnf
       refine⟨c,⟨by omega,hc⟩,?_⟩
       conv=>whnf
       refine⟨qzG,?_⟩
       conv=>whnf
       refine .inl ⟨_,qNP _ _,?_⟩
       conv=>whnf
       refine⟨fun hb=>?_,fun hb=>?_⟩
       ·conv=>whnf
        intro g2 hg
        rw [q5D,qoC h' (by rw [hcc];simpa using hb)];simp
       ·conv=>whnf
        refine fun _ _ hw=>⟨i+1,congrArg (fun z=>[Value.int .i64 z]) hw2.symm,⟨h',hgood _ (by simpa using hb)⟩,dec h',hw⟩
      ·conv=>whnf
       refine fun _ _ hw=>⟨i+1,congrArg (fun z=>[Value.int .i64 z]) hw2.symm,⟨h',hgood _ (by simp at hz;simp [qMJ,hz])⟩,dec h',hw⟩
     ·conv=>whnf
      intro g2 hg
      have:i=(bs s).length:=by have:=of_decide_eq_false h;rw [qQA] at this;omega
      rw [this,List.take_length] at hall
      rw [q5D,hall,hlow,h3,decide_eq_true (p:=0<(bs s).length) (by omega),decide_eq_true (p:=(bs s).length≤16) (by omega)];rfl
    ·conv=>whnf
     intro g2 hg
     simp [q5D,hlow,h3]
   ·conv=>whnf
    intro g2 hg
    have:=of_decide_eq_false h2
    rw [qQA] at this
    rw [q5D,decide_eq_false (p:=(bs s).length≤16) (by omega)];simp
  ·conv=>whnf
   intro g2 hg
   have:=of_decide_eq_false h1
   rw [qQA] at this
   rw [q5D,decide_eq_false (p:=0<(bs s).length) (by omega)];simp)
/- What IndexByte of Go's library tells: the model's own answer. -/
open Go.RowKit Go.Lib
theorem ib (s:ByteArray) (c:Int) (w:World):Calls Tryz.prog 138 #[.string s,.int .u8 c] w fun e w'=>e=.returned (.int .i64 (Lib.indexByte s.data.toList c.toNat.toUInt8))∧w'=w:=by
 go_enter Tryz.func138,Tryz.ntmps138
 go_wp2
 rw [run_callFunc_extern Tryz.func140 (by kernel_rfl) (by kernel_rfl) (by kernel_rfl) (e:=Extern.BytealgIndexByte.indexByte) (by kernel_rfl),Lib.run_indexByteString]
 simp only [Result.andThen]
 rw [Oper.upon_value]
 go_wp2
 go_ret
 exact⟨rfl,rfl⟩
open Go.Proofs.YtompjkkgaafllaaGreat.Sx
theorem ok_ib (g:GW) (s:ByteArray) (c:Int):OkV Tryz.prog q5E [.string s,.int .u8 c] g (.int .i64 (Lib.indexByte (bs s) c.toNat.toUInt8)) :=
 Ok.of_same fun w=>(ib s c w).mono fun _ _ h=>⟨h.1,h.2.symm⟩
theorem qCN (g:GW) (s:ByteArray) (c:Int):OkV Tryz.prog qHH [.string s,.int .u8 c] g (.int .i64 (Lib.indexByte (bs s) c.toNat.toUInt8)) :=
 Ok.of_fn hm noT 0 q7G (args:=[.v (.string s),.v (.int .u8 c)]) (by
  conv=>whnf
  refine .inl ⟨_,ok_ib _ _ _,?_⟩
  conv=>whnf
  intro g2 hg
  rfl)
def tH:List (Nat×FnI):=[(q7L,qCI),(qyJ,qHG)]
theorem tH_ok:qOG Tryz.prog tH:=by
 intro x hx
 simp only [tH,List.mem_cons,List.not_mem_nil,or_false] at hx
 rcases hx with rfl|rfl
 ·exact⟨_,_,qbL⟩
 ·exact⟨_,_,qWJ⟩
theorem qdO (g:GW) (s:ByteArray):OkV Tryz.prog qNN [.string s] g (.bool (qmK (bs s))) :=
 Ok.of_fn hm tH_ok 2 qtM (args:=[.v (.string s)]) (by
  conv=>whnf
  intro b0
  conv=>whnf
  refine⟨fun h1=>?_,fun h1=>?_⟩
  ·conv=>whnf
   refine⟨rfl,?_⟩
   conv=>whnf
   refine⟨rfl,?_⟩
   conv=>whnf
   intro g2 hg
   have:=of_decide_eq_true h1
   rw [qQA] at this
   rw [qmK,decide_eq_false (by omega)];rfl
  ·conv=>whnf
   intro b1
   conv=>whnf
   intro b2
   conv=>whnf
   refine⟨q7J,fun l rr=>?_⟩
   conv=>whnf
   refine⟨ByteArray,fun _=>[],fun t=>⟨g,[.lp 3 l rr .ready,.blk 2 b2 _ [.v (.int .u8 46)],.blk 1 b1 _ [.v (.string t)],.blk 0 b0 _ [.v (.bool false)]],_,_⟩,fun t=>t.size≤32∧(qED 46 (bs t)).all q5D=(qED 46 (bs s)).all q5D,fun t=>t.size,fun _ _ hw=>⟨s,rfl,⟨by have:=of_decide_eq_false h1;omega,rfl⟩,hw⟩,?_⟩
   intro t hJJ
   have hJ:=hJJ.2
   have hJ1:=hJJ.1
   have hlast:Lib.indexByte (bs t) (46:Int).toNat.toUInt8<0→qED 46 (bs t)=[bs t]:=fun h=>by
    rcases q0F 46 (bs t) with ⟨_,h2⟩|⟨i,_,h2,_⟩
    ·exact h2
    ·rw [show(46:Int).toNat.toUInt8=46 from rfl,h2] at h;omega
   conv=>whnf
   refine⟨rfl,?_⟩
   conv=>whnf
   refine⟨rfl,?_⟩
   conv=>whnf
   refine .inl ⟨_,qCN _ _ _,?_⟩
   conv=>whnf
   refine⟨fun h2=>?_,fun h2=>?_⟩
   ·conv=>whnf
    refine⟨rfl,?_⟩
    conv=>whnf
    refine⟨rfl,?_⟩
    conv=>whnf
    refine⟨⟨rfl,rfl⟩,?_⟩
    conv=>whnf
    refine⟨rfl,?_⟩
    conv=>whnf
    refine .inl ⟨_,qGH _ _,?_⟩
    conv=>whnf
    refine⟨fun h3=>?_,fun h3=>?_⟩
    ·conv=>whnf
     refine⟨rfl,?_⟩
     conv=>whnf
     refine⟨rfl,?_⟩
     conv=>whnf
     refine⟨rfl,?_⟩
     conv=>whnf
     refine⟨rfl,?_⟩
     conv=>whnf
     intro g2 hg
     have hn:(qED 46 (bs t)).all q5D=false:=by rw [hlast (of_decide_eq_true h2)];simp at h3;simp [h3]
     rw [qmK,← hJ,hn];simp
    ·conv=>whnf
     refine⟨rfl,?_⟩
     conv=>whnf
     refine⟨rfl,?_⟩
     conv=>whnf
     refine⟨rfl,?_⟩
     conv=>whnf
     refine⟨rfl,?_⟩
     conv=>whnf
     intro g2 hg
     have hn:(qED 46 (bs t)).all q5D=true:=by rw [hlast (of_decide_eq_true h2)];simp at h3;simp [h3]
     have:=of_decide_eq_false h1
     rw [qQA] at this
     rw [qmK,← hJ,hn,decide_eq_true (by omega)];rfl
   ·have k2:=of_decide_eq_false h2
    obtain⟨i,hi,hidx,hpt⟩:∃ i:Nat,i<(bs t).length∧Lib.indexByte (bs t) (46:Int).toNat.toUInt8=i∧qED 46 (bs t)=(bs t).take i :: qED 46 ((bs t).drop (i+1)):=by
     rcases q0F 46 (bs t) with ⟨h1,_⟩|h
     ·rw [show(46:Int).toNat.toUInt8=46 from rfl,h1] at k2;omega
     ·exact h
    have hts:=qQA t
    conv=>whnf
    refine⟨rfl,?_⟩
    conv=>whnf
    refine⟨⟨by rw [hidx];omega,by rw [hidx];omega⟩,?_⟩
    conv=>whnf
    refine⟨rfl,?_⟩
    conv=>whnf
    refine⟨⟨rfl,rfl⟩,?_⟩
    conv=>whnf
    refine⟨rfl,?_⟩
    conv=>whnf
    refine .inl ⟨_,qGH _ _,?_⟩
    have hx1:bs (t.extract 0 (Lib.indexByte (bs t) (46:Int).toNat.toUInt8).toNat)=(bs t).take i:=by rw [qkD,hidx];simp
    conv=>whnf
    refine⟨fun h3=>?_,fun h3=>?_⟩
    ·conv=>whnf
     refine⟨rfl,?_⟩
     conv=>whnf
     refine⟨rfl,?_⟩
     conv=>whnf
     refine⟨rfl,?_⟩
     conv=>whnf
     refine⟨rfl,?_⟩
     conv=>whnf
     intro g2 hg
     rw [hx1] at h3
     have hn:(qED 46 (bs t)).all q5D=false:=by rw [hpt];simp at h3;simp [h3]
     rw [qmK,← hJ,hn];simp
    ·conv=>whnf
     refine⟨rfl,?_⟩
     conv=>whnf
     refine⟨rfl,?_⟩
     have hw2:IntKind.i64.wrap (Lib.indexByte (bs t) (46:Int).toNat.toUInt8+1)=((i+1:Nat):Int):=by rw [hidx,wr (by omega)];simp
     have hx2:bs (t.extract (IntKind.i64.wrap (Lib.indexByte (bs t) (46:Int).toNat.toUInt8+1)).toNat t.size)=(bs t).drop (i+1):=by
      rw [qkD,hw2,Int.toNat_natCast,hts]
      exact List.take_of_length_le (by simp)
     conv=>whnf
     refine⟨⟨by rw [hw2];omega,by rw [hw2];omega⟩,?_⟩
     conv=>whnf
     refine⟨rfl,?_⟩
     conv=>whnf
     refine fun _ _ hw=>⟨_,rfl,⟨?_,?_⟩,?_,hw⟩
     ·rw [qQA,hx2,List.length_drop];omega
     ·rw [hx1] at h3
      rw [← hJ,hpt,hx2];simp at h3;simp [h3]
     ·show ByteArray.size _<t.size
      rw [qQA,hx2,hts,List.length_drop];omega)
/- Prefixes and suffixes of texts;patterns and paths;the document's parts,hosts,patterns and paths. -/
open Go.Proofs.YtompjkkgaafllaaGreat.Sx
theorem qDN (g:GW) (s p:BA):OkV Tryz.prog q7E [.string s,.string p] g (.bool (preL (bs p) (bs s))) :=
 Ok.of_fn hm noT 0 qwE (args:=[.v (.string s),.v (.string p)]) (by
  conv=>whnf
  refine⟨fun h=>?_,fun h=>?_⟩
  ·have h':=of_decide_eq_true h
   conv=>whnf
   refine⟨⟨by omega,by omega⟩,?_⟩
   conv=>whnf
   intro g2 hg
   rw [qTO]
   have e1:bs (s.extract 0 (p.size:Int).toNat)=(bs s).take (bs p).length:=by rw [qkD,qQA];simp
   have:=qQA s;have:=qQA p
   rw [decide_eq_true (show(bs p).length≤(bs s).length by omega),← e1];rfl
  ·conv=>whnf
   intro g2 hg
   have h':=of_decide_eq_false h
   have:=qQA s;have:=qQA p
   rw [qTO,decide_eq_false (show ¬ (bs p).length≤(bs s).length by omega)];rfl)
theorem qyL (g:GW) (s t:BA) (hs:s.size≤1000000000∧t.size≤1000000000):OkV Tryz.prog q6E [.string s,.string t] g (.bool (sufL (bs t) (bs s))) :=
 Ok.of_fn hm noT 0 qvE (args:=[.v (.string s),.v (.string t)]) (by
  conv=>whnf
  refine⟨fun h=>?_,fun h=>?_⟩
  ·have h':=of_decide_eq_true h
   have hw:IntKind.i64.wrap ((s.size:Int)-(t.size:Int))=((s.size-t.size:Nat):Int):=by rw [wr (by omega)];omega
   conv=>whnf
   refine⟨⟨by rw [hw];omega,by rw [hw];omega⟩,?_⟩
   conv=>whnf
   intro g2 hg
   rw [qpQ]
   have:=qQA s;have:=qQA t
   have e1:bs (s.extract (IntKind.i64.wrap ((s.size:Int)-(t.size:Int))).toNat s.size)=(bs s).drop ((bs s).length-(bs t).length):=by
    rw [qkD,hw,Int.toNat_natCast,qQA s,qQA t]
    exact List.take_of_length_le (by simp)
   rw [decide_eq_true (show(bs t).length≤(bs s).length by omega),← e1];rfl
  ·conv=>whnf
   intro g2 hg
   have h':=of_decide_eq_false h
   have:=qQA s;have:=qQA t
   rw [qpQ,decide_eq_false (show ¬ (bs t).length≤(bs s).length by omega)];rfl)
theorem qxI (g:GW) (s t:BA) (hs:s.size≤1000000000∧t.size≤1000000000):OkV Tryz.prog qIH [.string s,.string t] g (.bool (sufL (bs t) (bs s))) :=
 Ok.of_fn hm noT 0 q8G (args:=[.v (.string s),.v (.string t)]) (by
  conv=>whnf
  refine .inl ⟨_,qyL _ _ _ hs,?_⟩
  conv=>whnf
  intro g2 hg
  rfl)
def cutP (s p:BA):BA:=if preL (bs p) (bs s) then s.extract p.size s.size else s
theorem qeM {s p:BA} (h:preL (bs p) (bs s)=true):bs (cutP s p)=(bs s).drop (bs p).length:=by
 unfold cutP
 rw [if_pos h,qkD,qQA s,qQA p]
 exact List.take_of_length_le (by simp)
theorem qzL (g:GW) (s p:BA):OkV Tryz.prog q8E [.string s,.string p] g (.tuple #[.string (cutP s p),.bool (preL (bs p) (bs s))]) :=
 Ok.of_fn hm noT 0 qxE (args:=[.v (.string s),.v (.string p)]) (by
  conv=>whnf
  refine .inl ⟨_,qDN _ _ _,?_⟩
  conv=>whnf
  refine⟨fun h=>?_,fun h=>?_⟩
  ·have h':preL (bs p) (bs s)=false:=by simpa using h
   conv=>whnf
   intro g2 hg
   unfold cutP
   rw [h'];rfl
  ·have h':preL (bs p) (bs s)=true:=by simpa using h
   have hl:p.size≤s.size:=by
    rw [qTO] at h'
    simp only [Bool.and_eq_true,decide_eq_true_eq] at h'
    have:=qQA s;have:=qQA p;omega
   conv=>whnf
   refine⟨⟨by omega,by omega⟩,?_⟩
   conv=>whnf
   intro g2 hg
   unfold cutP
   rw [h'];rfl)
theorem qDE (g:GW) (s p:BA):OkV Tryz.prog qJH [.string s,.string p] g (.tuple #[.string (cutP s p),.bool (preL (bs p) (bs s))]) :=
 Ok.of_fn hm noT 0 q9G (args:=[.v (.string s),.v (.string p)]) (by
  conv=>whnf
  refine .inl ⟨_,qzL _ _ _,?_⟩
  conv=>whnf
  intro g2 hg
  rfl)
theorem qbI (g:GW) (s:BA):OkV Tryz.prog qzJ [.string s] g (.bool (qlB (bs s))) :=
 Ok.of_fn hm noT 0 qXJ (args:=[.v (.string s)]) (by
  conv=>whnf
  refine .inl ⟨_,qDE _ _ _,?_⟩
  conv=>whnf
  refine⟨fun h=>?_,fun h=>?_⟩
  ·have h':preL [42,46] (bs s)=true:=h
   conv=>whnf
   refine .inl ⟨_,qdO _ _,?_⟩
   conv=>whnf
   intro g2 hg
   rw [qlB,h',qeM h];rfl
  ·have h':preL [42,46] (bs s)=false:=h
   conv=>whnf
   refine⟨fun k=>?_,fun k=>?_⟩
   ·conv=>whnf
    intro g2 hg
    rw [qlB,h']
    have k':(bs s==[42])=true:=k
    rw [k'];rfl
   ·conv=>whnf
    refine .inl ⟨_,qdO _ _,?_⟩
    conv=>whnf
    intro g2 hg
    rw [qlB,h']
    have k':(bs s==[42])=false:=k
    rw [k'];rfl)
theorem qcO (g:GW) (s:BA):OkV Tryz.prog qLN [.string s] g (.bool (qFH (bs s))) :=
 Ok.of_fn hm qIU 1 qrM (args:=[.v (.string s)]) (by
  have hsz:=qQA s
  conv=>whnf
  refine⟨fun h1=>?_,fun h1=>?_⟩
  ·conv=>whnf
   refine⟨fun h2=>?_,fun h2=>?_⟩
   ·have k1:=of_decide_eq_true h1
    have k2:=of_decide_eq_true h2
    obtain⟨c0,hc0⟩:∃ c0,(bs s)[0]?=some c0:=qBA (by omega)
    have hh:(bs s).head?.any (fun c=>(c.toNat:Int)==47)=((c0.toNat:Int)==47):=by rw [List.head?_eq_getElem?,hc0];rfl
    conv=>whnf
    refine⟨c0,⟨by omega,hc0⟩,?_⟩
    conv=>whnf
    refine⟨fun h3=>?_,fun h3=>?_⟩
    ·conv=>whnf
     intro b1
     conv=>whnf
     refine⟨rfl,?_⟩
     conv=>whnf
     refine⟨rfl,?_⟩
     conv=>whnf
     intro b2
     conv=>whnf
     refine⟨Nat,fun i=>[.v (.int .i64 i)],fun _=>⟨g,[.blk 1 b2 _ [.v (.func (.func q7B) #[] #[])],.blk 0 b1 _ [.v (.func (.func q7B) #[] #[])]],_,_⟩,fun i=>i≤(bs s).length∧((bs s).take i).all (fun c=>(c.toNat:Int)==47||qMJ c.toNat)=true,fun i=>(bs s).length-i,fun _ _ hw=>⟨0,rfl,⟨Nat.zero_le _,rfl⟩,hw⟩,?_⟩
     intro i hJ
     have hi:=hJ.1
     have hall:=hJ.2
     conv=>whnf
     refine⟨fun h=>?_,fun h=>?_⟩
     ·have h':i<(bs s).length:=by have:=of_decide_eq_true h;omega
      obtain⟨c,hcc,hc⟩:∃ c,(bs s)[i]=c∧(bs s)[i]?=some c:=⟨_,rfl,List.getElem?_eq_getElem h'⟩
      have hgood:∀ b,((c.toNat:Int)==47||qMJ c.toNat)=b→((bs s).take (i+1)).all (fun c=>(c.toNat:Int)==47||qMJ c.toNat)=b:=fun b hb=>by rw [qZG h',hall,hcc,hb];rfl
      have hw2:IntKind.i64.wrap ((i:Int)+1)=((i+1:Nat):Int):=by rw [wr (by omega)];simp
      conv=>whnf
      refine⟨c,⟨by omega,hc⟩,?_⟩
      conv=>whnf
      refine⟨fun hz=>?_,fun hz=>?_⟩
      ·conv=>whnf
       refine⟨rfl,?_⟩
       conv=>whnf
       refine⟨c,⟨by omega,hc⟩,?_⟩
       conv=>whnf
       refine⟨qzG,?_⟩
       conv=>whnf
       refine .inl ⟨_,qNP _ _,?_⟩
       conv=>whnf
       refine⟨fun hb=>?_,fun hb=>?_⟩
       ·conv=>whnf
        intro g2 hg
        simp at hz hb
        rw [qFH,qoC h' (by rw [hcc];simp [hz,hb])];simp
       ·conv=>whnf
        refine fun _ _ hw=>⟨i+1,congrArg (fun z=>[Value.int .i64 z]) hw2.symm,⟨h',hgood _ (by simp at hb;simp [hb])⟩,dec h',hw⟩
      ·conv=>whnf
       refine fun _ _ hw=>⟨i+1,congrArg (fun z=>[Value.int .i64 z]) hw2.symm,⟨h',hgood _ (by simp at hz;simp [hz])⟩,dec h',hw⟩
     ·conv=>whnf
      intro g2 hg
      have:i=(bs s).length:=by have:=of_decide_eq_false h;omega
      rw [this,List.take_length] at hall
      rw [qFH,hall,hh,h3,decide_eq_true (p:=0<(bs s).length) (by omega),decide_eq_true (p:=(bs s).length≤32) (by omega)];rfl
    ·conv=>whnf
     intro g2 hg
     simp [qFH,hh,h3]
   ·conv=>whnf
    intro g2 hg
    have:=of_decide_eq_false h2
    rw [qFH,decide_eq_false (p:=(bs s).length≤32) (by omega)];simp
  ·conv=>whnf
   intro g2 hg
   have:=of_decide_eq_false h1
   rw [qFH,decide_eq_false (p:=0<(bs s).length) (by omega)];simp)
/- Whether a configuration may be: the program's and the document's answers. -/
open Go.Proofs.YtompjkkgaafllaaGreat.Sx
theorem qTS (g:GW) {v:Value} {l:List BA} (hl:rSl 1 rStr g v l) (s:BA):OkV Tryz.prog qFD [v,.string s] g (.int .i64 (idxI (idxO (fun x=>bs s==bs x) l))) :=
 Ok.of_fn hm noT 0 qBD (args:=[.v v,.v (.string s)]) (by
  obtain⟨oa,cap,rfl,h1,h2,h0,hr⟩:=hl
  repeat((conv=>whnf);first|apply qza|apply qzb|apply qzc|apply qzd|apply qze|intro(_:Nat))
  conv=>whnf
  refine⟨Nat,fun k=>[.v (.int .i64 k)],fun k=>⟨g,[],_,_⟩,fun k=>k≤l.length∧Pass (idxF fun x=>bs s==bs x) l k,fun k=>l.length-k,qMA 0 rfl ⟨Nat.zero_le _,Pass.zero _ _⟩ rfl,?_⟩
  rintro k ⟨hk,hp⟩
  conv=>whnf
  refine⟨fun hlt=>?_,fun hlt=>?_⟩
  ·have h':k<l.length:=by have:=of_decide_eq_true hlt;omega
   obtain⟨x,hx⟩:=qBA h'
   obtain⟨a,rfl,ec,hec,rfl,hc⟩:=hr k x hx
   conv=>whnf
   refine⟨a,rfl,⟨by omega,by omega⟩,?_⟩
   conv=>whnf
   refine⟨_,hc 0 _ rfl,?_⟩
   conv=>whnf
   refine⟨fun he=>?_,fun he=>?_⟩
   ·conv=>whnf
    intro g2 hg
    rw [qJJ hp hx he]
   ·conv=>whnf
    refine fun fr w hw=>⟨k+1,congrArg (fun z=>[Value.int .i64 z]) (wr1 h' h1 h2).symm,⟨h',q3H hp hx he⟩,dec h',hw⟩
  ·conv=>whnf
   intro g2 hg
   have:=of_decide_eq_false hlt
   rw [qAG hp (by omega)])
theorem qoJ (g:GW) {v:Value} {l:List BA} (hl:rSl 1 rStr g v l) (s:BA):OkV Tryz.prog qeC [v,.string s] g (.bool (hasS l s)) :=
 Ok.of_fn hm noT 0 qYC (args:=[.v v,.v (.string s)]) (by
  conv=>whnf
  refine .inl ⟨_,qTS _ hl _,?_⟩
  conv=>whnf
  intro g2 hg
  rw [qvO]
  have:(fun x=>bs s==bs x)=fun x=>bs x==bs s:=by funext x;exact qpR _ _
  rw [this];rfl)
def tC:List (Nat×FnI):=[(q0A,qUA),(qEB,qWA),(qBJ,qUF)]
theorem tC_ok:qOG Tryz.prog tC:=by
 intro x hx
 simp only [tC,List.mem_cons,List.not_mem_nil,or_false] at hx
 rcases hx with rfl|rfl|rfl
 ·exact⟨_,_,qyA⟩
 ·exact⟨_,_,qCB⟩
 ·exact⟨_,_,q6I⟩
theorem qPP (g:GW) {v:Value} {l:List Cluster} (hl:rSl 4 qbC g v l) (s:BA):OkV Tryz.prog qkK [v,.string s] g (.bool (hasC l s)) :=
 Ok.of_fn hm tC_ok 3 qbK (args:=[.v v,.v (.string s)]) (by
  obtain⟨oa,cap,rfl,h1,h2,h0,hr⟩:=hl
  repeat((conv=>whnf);first|apply qza|apply qzb|apply qzc|apply qzd|apply qze|intro(_:Nat))
  conv=>whnf
  refine⟨Nat,fun k=>[.v (.int .i64 k)],fun k=>⟨g,[.blk 0 _ _ [.v (.string s)]],_,_⟩,fun k=>k≤l.length∧Pass (idxF fun (x:Cluster)=>bs x.name==bs s) l k,fun k=>l.length-k,qMA 0 rfl ⟨Nat.zero_le _,Pass.zero _ _⟩ rfl,?_⟩
  rintro k ⟨hk,hp⟩
  conv=>whnf
  refine⟨fun hlt=>?_,fun hlt=>?_⟩
  ·have h':k<l.length:=by have:=of_decide_eq_true hlt;omega
   obtain⟨x,hx⟩:=qBA h'
   obtain⟨a,rfl,ec,hec,⟨hv,rfl,_,_,_,_,rfl,_⟩,hc⟩:=hr k x hx
   conv=>whnf
   refine⟨a,rfl,⟨by omega,by omega⟩,?_⟩
   conv=>whnf
   refine⟨_,⟨rfl,hc⟩,?_⟩
   conv=>whnf
   refine⟨qEJ,?_⟩
   repeat((conv=>whnf);first|apply qza|apply qzb|apply qzc|apply qzd|apply qze|intro(_:Nat))
   conv=>whnf
   refine⟨fun he=>?_,fun he=>?_⟩
   ·conv=>whnf
    intro g2 hg
    have:hasC l s=true:=List.any_eq_true.2 ⟨x,List.mem_of_getElem? hx,he⟩
    rw [this];simp
   ·conv=>whnf
    refine fun fr w hw=>⟨k+1,congrArg (fun z=>[Value.int .i64 z]) (wr1 h' h1 h2).symm,⟨h',q3H hp hx he⟩,dec h',?_⟩
    exact hw.fit (by simp [fitL,Res.eqv,qAA,conc])
  ·conv=>whnf
   intro g2 hg
   have:=of_decide_eq_false hlt
   have h3:=qvO (fun (x:Cluster)=>bs x.name==bs s) l
   rw [qAG hp (by omega)] at h3
   rw [show hasC l s=false from by rw [hasC,← h3];rfl];rfl)
theorem qAN (g:GW) (n a b:Int):OkV Tryz.prog q1J [.int .i64 n,.int .i64 a,.int .i64 b] g (.bool (decide (a≤n)&&decide (n≤b))) :=
 Ok.of_fn hm noT 0 qZJ (args:=[.v (.int .i64 n),.v (.int .i64 a),.v (.int .i64 b)]) (by
  repeat'((conv=>whnf);first|apply qza|apply qzb|apply qzc|apply qzd|apply qze|intro(_:Nat)|refine .inl ⟨_,rfl,?_⟩|refine⟨fun _=>?_,fun _=>?_⟩|fail)
  all_goals (conv=>whnf)
  all_goals (intro g2 hg)
  all_goals (first|(simp_all;done)|(simp_all;omega)))
theorem qQP (g:GW) {cs:List Value} {c:Config} (hc:q3C g cs c):OkV Tryz.prog quC [.agg ⟨cs⟩] g (eiT (qdK c)):=by
 obtain⟨a,b,d,rfl,hl,hr,hk⟩:=hc
 obtain⟨oa,ca,rfl,a1,a2,a0,hl1⟩:=id hl
 obtain⟨ob,cb,rfl,b1,b2,b0,hr1⟩:=id hr
 obtain⟨od,cd,rfl,d1,d2,d0,hk1⟩:=id hk
 exact Ok.of_fn hm noT 0 qZF (args:=[.v (.agg ⟨[.slice oa c.listens.length ca,.slice ob c.routes.length cb,.slice od c.clusters.length cd]⟩)]) (by
  repeat'((conv=>whnf);first|apply qza|apply qzb|apply qzc|apply qzd|apply qze|intro(_:Nat)|refine .inl ⟨_,qAN _ _ _ _,?_⟩|refine⟨fun _=>?_,fun _=>?_⟩|fail)
  all_goals (conv=>whnf)
  all_goals (intro g2 hg)
  all_goals first|(rw [show qdK c=some (6,0) from if_neg (by simp_all;try omega)];rfl;done)|(rw [show qdK c=none from if_pos (by simp_all;try omega)];rfl))
theorem qmJ (g:GW) {cs:List Value} {c:Config} (hc:q3C g cs c):OkV Tryz.prog q8B [.agg ⟨cs⟩] g (eiT (qfD c)):=by
 obtain⟨a,b,d,rfl,hl,hr,hk⟩:=hc
 obtain⟨oa,ca,rfl,a1,a2,a0,hl1⟩:=id hl
 obtain⟨ob,cb,rfl,b1,b2,b0,hr1⟩:=id hr
 obtain⟨od,cd,rfl,d1,d2,d0,hk1⟩:=id hk
 exact Ok.of_fn hm noT 0 qNE (args:=[.v (.agg ⟨[.slice oa c.listens.length ca,.slice ob c.routes.length cb,.slice od c.clusters.length cd]⟩)]) (by
  repeat((conv=>whnf);first|apply qza|apply qzb|apply qzc|apply qzd|apply qze|intro(_:Nat))
  conv=>whnf
  refine⟨Nat,fun k=>[.v (.int .i64 k)],fun k=>⟨g,[.blk 0 _ _ [.v (.slice oa c.listens.length ca),.v (.slice ob c.routes.length cb),.v (.slice od c.clusters.length cd)]],_,_⟩,fun k=>k≤c.listens.length∧Pass (qCF c.listens) c.listens k,fun k=>c.listens.length-k,qMA 0 rfl ⟨Nat.zero_le _,Pass.zero _ _⟩ rfl,?_⟩
  rintro k ⟨hk,hp⟩
  conv=>whnf
  refine⟨fun hlt=>?_,fun hlt=>?_⟩
  ·have h':k<c.listens.length:=by have:=of_decide_eq_true hlt;omega
   obtain⟨x,hx⟩:=qBA h'
   obtain⟨a,rfl,ec,hec,rfl,hc⟩:=hl1 k x hx
   conv=>whnf
   refine⟨a,rfl,⟨by omega,by omega⟩,?_⟩
   conv=>whnf
   refine⟨_,hc 0 _ rfl,?_⟩
   repeat((conv=>whnf);first|apply qza|apply qzb|apply qzc|apply qzd|apply qze|intro(_:Nat))
   conv=>whnf
   refine .inl ⟨_,qGH _ _,?_⟩
   conv=>whnf
   refine⟨fun hn=>?_,fun hn=>?_⟩
   ·conv=>whnf
    intro g2 hg
    rw [show qfD c=some ((3,k):EI) from hp.hit hx (by rw [qCF,if_neg (by simp [nb1 hn])])];rfl
   ·repeat((conv=>whnf);first|apply qza|apply qzb|apply qzc|apply qzd|apply qze|intro(_:Nat))
    conv=>whnf
    refine⟨⟨by omega,by omega⟩,?_⟩
    repeat((conv=>whnf);first|apply qza|apply qzb|apply qzc|apply qzd|apply qze|intro(_:Nat))
    conv=>whnf
    refine .inl ⟨_,qoJ _ (hl.take (Nat.le_of_lt h')) _,?_⟩
    conv=>whnf
    refine⟨fun hs=>?_,fun hs=>?_⟩
    ·conv=>whnf
     intro g2 hg
     rw [show qfD c=some ((4,k):EI) from hp.hit hx (by rw [qCF,if_pos (nb0 hn),if_pos hs])];rfl
    ·conv=>whnf
     refine fun fr w hw=>⟨k+1,congrArg (fun z=>[Value.int .i64 z]) (wr1 h' a1 a2).symm,⟨h',hp.succ hx (by rw [qCF,if_pos (nb0 hn),if_neg (by simp [hs])])⟩,dec h',?_⟩
     exact hw.fit (by simp [fitL,Res.eqv,qAA,conc])
  ·conv=>whnf
   intro g2 hg
   have:=of_decide_eq_false hlt
   rw [show qfD c=none from hp.done (by omega)];rfl)
theorem qwI (g:GW) {cs:List Value} {c:Config} (hc:q3C g cs c):OkV Tryz.prog qtB [.agg ⟨cs⟩] g (eiT (qOD c)):=by
 obtain⟨a,b,d,rfl,hl,hr,hk⟩:=hc
 obtain⟨oa,ca,rfl,a1,a2,a0,hl1⟩:=id hl
 obtain⟨ob,cb,rfl,b1,b2,b0,hr1⟩:=id hr
 obtain⟨od,cd,rfl,d1,d2,d0,hk1⟩:=id hk
 exact Ok.of_fn hm noT 0 q4D (args:=[.v (.agg ⟨[.slice oa c.listens.length ca,.slice ob c.routes.length cb,.slice od c.clusters.length cd]⟩)]) (by
  repeat((conv=>whnf);first|apply qza|apply qzb|apply qzc|apply qzd|apply qze|intro(_:Nat))
  conv=>whnf
  refine⟨Nat,fun k=>[.v (.int .i64 k)],fun k=>⟨g,[.blk 0 _ _ [.v (.slice oa c.listens.length ca),.v (.slice ob c.routes.length cb),.v (.slice od c.clusters.length cd)]],_,_⟩,fun k=>k≤c.clusters.length∧Pass (qvA c.clusters) c.clusters k,fun k=>c.clusters.length-k,qMA 0 rfl ⟨Nat.zero_le _,Pass.zero _ _⟩ rfl,?_⟩
  rintro k ⟨hkk,hp⟩
  conv=>whnf
  refine⟨fun hlt=>?_,fun hlt=>?_⟩
  ·have h':k<c.clusters.length:=by have:=of_decide_eq_true hlt;omega
   obtain⟨x,hx⟩:=qBA h'
   obtain⟨a,rfl,ec,hec,⟨hv,rfl,_,_,_,_,rfl,_⟩,hc⟩:=hk1 k x hx
   have hit:∀ e:EI,qvA c.clusters k x=some e→qOD c=some e:=fun e he=>hp.hit hx he
   conv=>whnf
   refine⟨a,rfl,⟨by omega,by omega⟩,?_⟩
   conv=>whnf
   refine⟨_,⟨rfl,hc⟩,?_⟩
   repeat((conv=>whnf);first|apply qza|apply qzb|apply qzc|apply qzd|apply qze|intro(_:Nat))
   conv=>whnf
   refine .inl ⟨_,qGH _ _,?_⟩
   conv=>whnf
   refine⟨fun hn=>?_,fun hn=>?_⟩
   ·conv=>whnf
    intro g2 hg
    rw [hit (3,k) (by rw [qvA,if_neg (by simp [nb1 hn])])];rfl
   have hn:=nb0 hn
   repeat((conv=>whnf);first|apply qza|apply qzb|apply qzc|apply qzd|apply qze|intro(_:Nat))
   conv=>whnf
   refine⟨⟨by omega,by omega⟩,?_⟩
   repeat((conv=>whnf);first|apply qza|apply qzb|apply qzc|apply qzd|apply qze|intro(_:Nat))
   conv=>whnf
   refine .inl ⟨_,qPP _ (hk.take (Nat.le_of_lt h')) _,?_⟩
   conv=>whnf
   refine⟨fun hs=>?_,fun hs=>?_⟩
   ·conv=>whnf
    intro g2 hg
    rw [hit (4,k) (by rw [qvA,if_pos hn,if_pos hs])];rfl
   have hp9:¬(x.policy=1∨x.policy=2)→qvA c.clusters k x=some (9,(k:Int)):=fun h=>by rw [qvA,if_pos hn,if_neg (by simp [hs]),if_neg h]
   have hp10:(x.policy=1∨x.policy=2)→¬(1≤x.slots∧x.slots≤4)→qvA c.clusters k x=some (10,(k:Int)):=fun h h2=>by rw [qvA,if_pos hn,if_neg (by simp [hs]),if_pos h,if_neg h2]
   have hp6:(x.policy=1∨x.policy=2)→(1≤x.slots∧x.slots≤4)→¬(1≤x.health.length∧x.health.length≤4)→qvA c.clusters k x=some (6,(k:Int)):=fun h h2 h3=>by rw [qvA,if_pos hn,if_neg (by simp [hs]),if_pos h,if_pos h2,if_neg h3]
   have hp0:(x.policy=1∨x.policy=2)→(1≤x.slots∧x.slots≤4)→(1≤x.health.length∧x.health.length≤4)→qvA c.clusters k x=none:=fun h h2 h3=>by rw [qvA,if_pos hn,if_neg (by simp [hs]),if_pos h,if_pos h2,if_pos h3]
   have hpn:=fun e=>hp.succ hx e
   clear hlt hp
   repeat'((conv=>whnf);first|apply qza|apply qzb|apply qzc|apply qzd|apply qze|intro(_:Nat)|refine .inl ⟨_,qAN _ _ _ _,?_⟩|refine⟨fun _=>?_,fun _=>?_⟩|fail)
   all_goals (conv=>whnf)
   all_goals (try simp only [bne_iff_ne,ne_eq,bne_eq_false_iff_eq,Bool.not_eq_true',Bool.not_eq_false',Bool.and_eq_true,Bool.and_eq_false_iff,decide_eq_true_eq,decide_eq_false_iff_not] at *)
   all_goals first
    | (intro g2 hg;rw [hit (9,k) (hp9 (by omega))];rfl;done)
    | (intro g2 hg;rw [hit (10,k) (hp10 (by omega) (by omega))];rfl;done)
    | (intro g2 hg;rw [hit (6,k) (hp6 (by omega) (by omega) (by omega))];rfl;done)
    | refine fun fr w hw=>⟨k+1,congrArg (fun z=>[Value.int .i64 z]) (wr1 h' d1 d2).symm,⟨h',hpn (hp0 (by omega) (by omega) (by omega))⟩,dec h',?_⟩
   all_goals (exact hw.fit (by simp [fitL,Res.eqv,qAA,conc]))
  ·conv=>whnf
   intro g2 hg
   have:=of_decide_eq_false hlt
   rw [show qOD c=none from hp.done (by omega)];rfl)
end Go.Proofs.YtompjkkgaafllaaGreat
