/- What all contracts lean on: the program follows the model's reading; how a contract becomes a walk. -/
import Derived.Test.YthonngjhelcpeaaGreatF
import Derived.Test.YthonngjhelcpeaaGreatPl
import Derived.WalkKit
import Derived.Lib.Walk
import Derived.Lib.Strings
import Derived.Lib.Bytealg
set_option linter.unusedVariables false
set_option linter.unusedSimpArgs false
namespace Go.Proofs.YthonngjhelcpeaaGreat
open Go.Proofs.YthonngjhelcpeaaGreat.Sx
set_option maxHeartbeats 16000000
set_option maxRecDepth 100000
theorem hm:Tryz.prog.follows .mixedOrders=true:=by kernel_rfl
theorem noT:qQI Tryz.prog []:=fun _ h=>nomatch h
theorem q0F {f:FuncId} {args:List Value} {w:World} {v:Value} (h:OkV Tryz.prog f args (allG w) v):Calls Tryz.prog f args.toArray w fun e w'=>e=.returned v∧RowKit.Below w.heap.size w w' :=
 (h w (Good.refl _)).mono fun _ _ ⟨_,he,hb,hv⟩=>⟨hv▸he,hb⟩
/- Slots: words with tags;which ones are free. -/
open Go.Proofs.YthonngjhelcpeaaGreat.Sx Go.RowKit
theorem qoW {w:Int} (hw:InU w):IntKind.u32.wrap w=w % 4294967296:=by
 rw [IntKind.wrap_u32]
theorem idx_wr {w:Int}:InR (w % 4294967296)∧InR (w % 4294967296-1):=by
 have h1:=Int.emod_nonneg w (show(4294967296:Int)≠0 by decide)
 have h2:=Int.emod_lt_of_pos w (show(0:Int)<4294967296 by decide)
 unfold InR;omega
theorem qiB (g:GW) {w:Int} (hw:InU w):OkV Tryz.prog qER [.int .u64 w] g (.int .i64 (idxT w)) :=
 Ok.of_fn hm noT 0 qgQ (args:=[.v (.int .u64 w)]) (by
  repeat((conv=>whnf);first|apply qza|apply qzb|apply qzc|apply qzd|apply qze|intro(_:Nat))
  conv=>whnf
  intro g2 hg
  rw [qoW hw,wr idx_wr.1,show w % 4294967296+-1=w % 4294967296-1 from rfl,wr idx_wr.2];rfl)
theorem q2W {t i:Int} (ht:0≤t∧t<4294967296) (hi:0≤i∧i<4294967296):qJT .or .u64 (t*4294967296) i=t*4294967296+i:=by
 obtain⟨a,rfl⟩:=Int.eq_ofNat_of_zero_le ht.1
 obtain⟨b,rfl⟩:=Int.eq_ofNat_of_zero_le hi.1
 have h:=Nat.shiftLeft_add_eq_or_of_lt (i:=32) (b:=b) (by omega) a
 rw [Nat.shiftLeft_eq,show(2:Nat) ^ 32=4294967296 by decide] at h
 rw [show(a:Int)*4294967296=((a*4294967296:Nat):Int) by omega]
 have e1:(BitVec.ofInt 64 ((a*4294967296:Nat):Int)).toNat=a*4294967296:=by
  rw [BitVec.ofInt_natCast,BitVec.toNat_ofNat];omega
 have e2:(BitVec.ofInt 64 (b:Int)).toNat=b:=by
  rw [BitVec.ofInt_natCast,BitVec.toNat_ofNat];omega
 show IntKind.u64.wrap ((BitVec.ofInt 64 ((a*4294967296:Nat):Int) ||| BitVec.ofInt 64 (b:Int)).toNat:Int)=_
 rw [BitVec.toNat_or,e1,e2,← h,IntWalk.u64_in _ (by omega)];omega
theorem qFO (g:GW) {t i:Int} (ht:0≤t∧t<4294967296) (hi:InR i):OkV Tryz.prog qvS [.int .u32 t,.int .i64 i] g (.tuple #[.int .u64 (if qHD i then t*4294967296+(i+1) else 0),.int .i64 (if qHD i then 0 else 1)]) :=
 Ok.of_fn hm noT 0 qOS (args:=[.v (.int .u32 t),.v (.int .i64 i)]) (by
  repeat((conv=>whnf);first|apply qza|apply qzb|apply qzc|apply qzd|apply qze|intro(_:Nat))
  conv=>whnf
  refine⟨fun h=>?_,fun h=>?_⟩
  ·repeat((conv=>whnf);first|apply qza|apply qzb|apply qzc|apply qzd|apply qze|intro(_:Nat))
   conv=>whnf
   intro g2 hg
   have:qHD i=false:=by unfold qHD;have:=of_decide_eq_true h;simp;omega
   rw [this];rfl
  ·repeat((conv=>whnf);first|apply qza|apply qzb|apply qzc|apply qzd|apply qze|intro(_:Nat))
   conv=>whnf
   refine⟨fun h2=>?_,fun h2=>?_⟩
   ·repeat((conv=>whnf);first|apply qza|apply qzb|apply qzc|apply qzd|apply qze|intro(_:Nat))
    conv=>whnf
    intro g2 hg
    have:qHD i=false:=by unfold qHD;have:=of_decide_eq_true h2;simp;omega
    rw [this];rfl
   ·repeat((conv=>whnf);first|apply qza|apply qzb|apply qzc|apply qzd|apply qze|intro(_:Nat))
    conv=>whnf
    refine⟨by decide,?_⟩
    repeat((conv=>whnf);first|apply qza|apply qzb|apply qzc|apply qzd|apply qze|intro(_:Nat))
    conv=>whnf
    intro g2 hg
    have h1:=of_decide_eq_false h
    have h2:=of_decide_eq_false h2
    have:qHD i=true:=by unfold qHD;simp;omega
    rw [this]
    have e1:IntKind.u64.wrap t=t:=IntWalk.u64_in t (by omega)
    have e2:IntKind.u64.wrap (t*2 ^ min (Int.toNat 32) IntKind.u64.bits)=t*4294967296:=by
     rw [show(2:Int) ^ min (Int.toNat 32) IntKind.u64.bits=4294967296 by decide];exact IntWalk.u64_in _ (by omega)
    have e3:IntKind.u64.wrap (IntKind.i64.wrap (i - -1))=i+1:=by rw [wr (by unfold InR;omega)];exact IntWalk.u64_in _ (by omega)
    rw [e1,e2,e3,q2W ht (by omega)];rfl)
def tCh:List (Nat×FnI):=[(qPO,qEK),(qCM,qeH)]
theorem qyW:qQI Tryz.prog tCh:=by
 intro x hx
 simp only [tCh,List.mem_cons,List.not_mem_nil,or_false] at hx
 rcases hx with rfl|rfl
 ·exact⟨_,_,qsN⟩
 ·exact⟨_,_,qjL⟩
def qOL (e:EndC) (v:Value) (g':GW):Prop:=match qoA e with
 | none=>v=.tuple #[.slice none 0 0,.int .i64 11]
 | some l=>∃ oa cap,v=.tuple #[.slice oa l.length cap,.int .i64 0]∧rSl 1 rInt g' (.slice oa l.length cap) l
abbrev cInt (l:List Int):List Value:=l.map fun x=>Value.int .i64 x
theorem qEG (g:GW) {cs:List Value} {e:EndC} (he:rEn g cs e):Ok Tryz.prog qlP [.agg ⟨cs⟩] g (qOL e):=by
 obtain⟨⟨n,rfl,hH,hA,hN⟩,hsz⟩:=he
 obtain⟨oa,ca,rfl,a1,a2,a0,hr⟩:=id hN
 exact Ok.of_fn hm qyW 2 qCP (args:=[.v (.agg ⟨[.int .u64 e.head,.slice oa e.next.length ca,.int .i64 e.active]⟩)]) (by
  repeat((conv=>whnf);first|apply qza|apply qzb|apply qzc|apply qzd|apply qze|intro(_:Nat)|intro(_:OA)_)
  conv=>whnf
  refine⟨qMM,fun lp rr=>?_⟩
  repeat((conv=>whnf);first|apply qza|apply qzb|apply qzc|apply qzd|apply qze|intro(_:Nat)|intro(_:OA)_)
  conv=>whnf
  refine⟨⟨by omega,by omega,by omega,by omega⟩,fun _=>?_⟩
  repeat((conv=>whnf);first|apply qza|apply qzb|apply qzc|apply qzd|apply qze|intro(_:Nat)|intro(_:OA)_)
  conv=>whnf
  refine .inl ⟨_,qiB _ hH,?_⟩
  rename_i q0 q1 q2 q3 q4 q5
  repeat((conv=>whnf);first|apply qza|apply qzb|apply qzc|apply qzd|apply qze|intro(_:Nat)|intro(_:OA)_)
  conv=>whnf
  refine⟨Int×List Int×Option Addr×Nat,fun (i,_,_,_)=>[.v (.int .i64 i)],fun (_,out,oX,cX)=>⟨g,[.row 7 oX out.length cX qjA 1 (cInt out),.row 6 (some ⟨q5,0,none⟩) e.next.length e.next.length qeI 1 (qIH e.next.length out),.lp 5 lp rr .ready,.blk 4 q4 q2A [.v (.int .u64 e.head),.v (.slice oa e.next.length ca),.v (.int .i64 e.active)],.blk 3 q3 qME [.row 7 oX out.length cX],.blk 2 q2 q9O [.v (.int .i64 0)],.blk 1 q1 qME [.v (.slice none 0 0)],.blk 0 q0 q2A [.v (.int .u64 e.head),.v (.slice oa e.next.length ca),.v (.int .i64 e.active)]],40,g.w.heap.size⟩,fun (i,out,_,_)=>InR i∧out.Nodup∧(∀ x∈out,0≤x∧x<e.next.length)∧qkH e.next (e.next.length+1-out.length) out i=qoA e,fun (_,out,_,_)=>e.next.length-out.length,?_,?_⟩
  ·intro fr w hw
   exact⟨(idxT e.head,[],none,0),rfl,⟨by have:=qzR e.head;unfold InR;omega,List.nodup_nil,by simp,rfl⟩,(hw.nil_row (nx':=40) 7 qjA 1).fit (by simp [fitL,Res.eqv,qDA,conc,qeT])⟩
  rintro⟨i,out,oX,cX⟩ ⟨hi,hnd,hin,hch⟩
  repeat((conv=>whnf);first|apply qza|apply qzb|apply qzc|apply qzd|apply qze|intro(_:Nat)|intro(_:OA)_)
  conv=>whnf
  refine⟨fun h1=>?_,fun h1=>?_⟩
  ·have hne:i≠-1:=by simpa using h1
   have hbad:(i<0∨(e.next.length:Int)≤i∨i∈out)→qoA e=none:=fun hb=>by
    have hlen:=qSH hnd hin
    rw [show e.next.length+1-out.length=(e.next.length-out.length)+1 by omega] at hch
    simp only [qkH,if_neg hne,if_pos hb] at hch
    exact hch.symm
   repeat((conv=>whnf);first|apply qza|apply qzb|apply qzc|apply qzd|apply qze|intro(_:Nat)|intro(_:OA)_)
   conv=>whnf
   refine⟨fun h2=>?_,fun h2=>?_⟩
   ·repeat((conv=>whnf);first|apply qza|apply qzb|apply qzc|apply qzd|apply qze|intro(_:Nat)|intro(_:OA)_)
    conv=>whnf
    refine⟨fun _=>?_,fun h=>nomatch h⟩
    repeat((conv=>whnf);first|apply qza|apply qzb|apply qzc|apply qzd|apply qze|intro(_:Nat)|intro(_:OA)_)
    conv=>whnf
    intro g2 hg
    unfold qOL
    rw [hbad (.inl (by simpa using h2))]
   ·repeat((conv=>whnf);first|apply qza|apply qzb|apply qzc|apply qzd|apply qze|intro(_:Nat)|intro(_:OA)_)
    conv=>whnf
    refine⟨fun h3=>?_,fun h3=>?_⟩
    ·repeat((conv=>whnf);first|apply qza|apply qzb|apply qzc|apply qzd|apply qze|intro(_:Nat)|intro(_:OA)_)
     conv=>whnf
     refine⟨fun _=>?_,fun h=>nomatch h⟩
     repeat((conv=>whnf);first|apply qza|apply qzb|apply qzc|apply qzd|apply qze|intro(_:Nat)|intro(_:OA)_)
     conv=>whnf
     intro g2 hg
     unfold qOL
     rw [hbad (.inr (.inl (by simpa using h3)))]
    ·have hi0:0≤i∧i<e.next.length:=by simp at h2 h3;omega
     have hsg:=qfT (n:=e.next.length) (out:=out) hi0
     obtain⟨y,hy⟩:=qCA (l:=e.next) (i:=i.toNat) (by omega)
     obtain⟨a,rfl,ec,hec,⟨rfl,hyr⟩,hc⟩:=hr i.toNat y hy
     repeat((conv=>whnf);first|apply qza|apply qzb|apply qzc|apply qzd|apply qze|intro(_:Nat)|intro(_:OA)_)
     conv=>whnf
     refine⟨hi0,?_⟩
     repeat((conv=>whnf);first|apply qza|apply qzb|apply qzc|apply qzd|apply qze|intro(_:Nat)|intro(_:OA)_)
     conv=>whnf
     refine⟨_,by simpa using hsg,?_⟩
     repeat((conv=>whnf);first|apply qza|apply qzb|apply qzc|apply qzd|apply qze|intro(_:Nat)|intro(_:OA)_)
     conv=>whnf
     refine⟨fun h4=>?_,fun h4=>?_⟩
     ·repeat((conv=>whnf);first|apply qza|apply qzb|apply qzc|apply qzd|apply qze|intro(_:Nat)|intro(_:OA)_)
      conv=>whnf
      refine⟨fun _=>?_,fun h=>nomatch h⟩
      repeat((conv=>whnf);first|apply qza|apply qzb|apply qzc|apply qzd|apply qze|intro(_:Nat)|intro(_:OA)_)
      conv=>whnf
      intro g2 hg
      unfold qOL
      rw [hbad (.inr (.inr (by simpa using h4)))]
     ·have h4':i ∉ out:=by simpa using h4
      have hnd2:(out++[i]).Nodup:=List.nodup_append.2 ⟨hnd,by simp,fun a ha b hb hab=>h4' (by simp at hb;rw [← hb,← hab];exact ha)⟩
      have hin2:∀ x∈out++[i],0≤x∧x<e.next.length:=fun x hx=>by
       rcases List.mem_append.1 hx with hx|hx
       ·exact hin x hx
       ·simp at hx;subst hx;exact hi0
      have hlen2:=qSH hnd2 hin2
      have hset:=qdT (out:=out) hi0
      simp only [List.length_append,List.length_cons,List.length_nil] at hlen2
      repeat((conv=>whnf);first|apply qza|apply qzb|apply qzc|apply qzd|apply qze|intro(_:Nat)|intro(_:OA)_)
      conv=>whnf
      refine⟨hi0,?_⟩
      repeat((conv=>whnf);first|apply qza|apply qzb|apply qzc|apply qzd|apply qze|intro(_:Nat)|intro(_:OA)_)
      conv=>whnf
      refine⟨⟨by rw [qOP];omega,by decide⟩,?_⟩
      repeat((conv=>whnf);first|apply qza|apply qzb|apply qzc|apply qzd|apply qze|intro(_:Nat)|intro(_:OA)_)
      conv=>whnf
      refine⟨fun hx=>absurd hx (by simp;omega),fun _=>?_⟩
      repeat((conv=>whnf);first|apply qza|apply qzb|apply qzc|apply qzd|apply qze|intro(_:Nat)|intro(_:OA)_)
      conv=>whnf
      refine⟨fun hx=>absurd hx (by simp;omega),fun _=>?_⟩
      repeat((conv=>whnf);first|apply qza|apply qzb|apply qzc|apply qzd|apply qze|intro(_:Nat)|intro(_:OA)_)
      conv=>whnf
      refine⟨⟨by unfold maxLen;omega,by omega⟩,fun oa2 cap2=>?_⟩
      repeat((conv=>whnf);first|apply qza|apply qzb|apply qzc|apply qzd|apply qze|intro(_:Nat)|intro(_:OA)_)
      conv=>whnf
      refine⟨a,rfl,hi0,?_⟩
      conv=>whnf
      refine⟨_,hc 0 _ rfl,?_⟩
      repeat((conv=>whnf);first|apply qza|apply qzb|apply qzc|apply qzd|apply qze|intro(_:Nat)|intro(_:OA)_)
      conv=>whnf
      refine fun fr w hw=>⟨(y,out++[i],oa2,cap2),rfl,⟨hyr,hnd2,hin2,?_⟩,by simp only [List.length_append,List.length_cons,List.length_nil];omega,?_⟩
      ·rw [show e.next.length+1-out.length=(e.next.length+1-(out++[i]).length)+1 by simp;omega] at hch
       simp only [qkH,if_neg hne,if_neg (show ¬ (i<0∨(e.next.length:Int)≤i∨i∈out) by rintro(h|h|h);omega;omega;exact h4' h)] at hch
       rw [← hch]
       unfold nxtL
       rw [hy];rfl
      ·have hset2:List.take i.toNat (qIH e.next.length out)++Value.bool true :: List.drop (i.toNat+1) (qIH e.next.length out)=qIH e.next.length (out++[i]):=by rw [← hset];simp
       exact hw.fit (by simp [fitL,Res.eqv,qDA,conc,hset2])
  ·have hi1:i=-1:=by simpa using h1
   subst hi1
   have hlen:=qSH hnd hin
   rw [show e.next.length+1-out.length=(e.next.length-out.length)+1 by omega] at hch
   simp only [qkH,if_true] at hch
   repeat((conv=>whnf);first|apply qza|apply qzb|apply qzc|apply qzd|apply qze|intro(_:Nat)|intro(_:OA)_)
   conv=>whnf
   refine⟨fun h=>(nomatch h),fun _=>?_⟩
   conv=>whnf
   refine⟨fun _=>?_,fun h=>nomatch h⟩
   repeat((conv=>whnf);first|apply qza|apply qzb|apply qzc|apply qzd|apply qze|intro(_:Nat)|intro(_:OA)_)
   conv=>whnf
   refine fun g1 hg1 hn1 hp1=>?_
   repeat((conv=>whnf);first|apply qza|apply qzb|apply qzc|apply qzd|apply qze|intro(_:Nat)|intro(_:OA)_)
   conv=>whnf
   intro g2 hg
   unfold qOL
   rw [← hch]
   exact⟨oX,cX,rfl,(qBG hp1.rd out (fun x=>.int .i64 x) rfl fun x hx=>⟨rfl,by have:=hin x hx;unfold InR;omega⟩).mono q3A hg⟩)
theorem qzQ (g:GW) {cs:List Value} {e:EndC} (he:rEn g cs e):OkV Tryz.prog qwS [.agg ⟨cs⟩] g (.bool (endB e)):=by
 have he0:=he
 obtain⟨⟨n,rfl,hH,hA,hN⟩,hsz⟩:=he
 obtain⟨oa,ca,rfl,a1,a2,a0,hr⟩:=id hN
 exact Ok.of_fn hm noT 0 qPS (args:=[.v (.agg ⟨[.int .u64 e.head,.slice oa e.next.length ca,.int .i64 e.active]⟩)]) (by
  repeat((conv=>whnf);first|apply qza|apply qzb|apply qzc|apply qzd|apply qze|intro(_:Nat))
  refine .inr ((qEG _ he0).mono fun v g1 hg1 hF=>?_)
  unfold qOL at hF
  unfold endB
  cases hf:qoA e with
  | none =>
   rw [hf] at hF
   subst hF
   repeat((conv=>whnf);first|apply qza|apply qzb|apply qzc|apply qzd|apply qze|intro(_:Nat))
   conv=>whnf
   refine⟨fun h=>(nomatch h),fun _=>?_⟩
   repeat((conv=>whnf);first|apply qza|apply qzb|apply qzc|apply qzd|apply qze|intro(_:Nat))
   conv=>whnf
   intro g2 hg
   rfl
  | some l =>
   rw [hf] at hF
   obtain⟨oX,cX,rfl,_⟩:=hF
   repeat((conv=>whnf);first|apply qza|apply qzb|apply qzc|apply qzd|apply qze|intro(_:Nat))
   conv=>whnf
   refine⟨fun _=>?_,fun h=>nomatch h⟩
   repeat((conv=>whnf);first|apply qza|apply qzb|apply qzc|apply qzd|apply qze|intro(_:Nat))
   conv=>whnf
   refine⟨fun h1=>?_,fun h1=>?_⟩
   ·repeat((conv=>whnf);first|apply qza|apply qzb|apply qzc|apply qzd|apply qze|intro(_:Nat))
    conv=>whnf
    refine⟨fun h2=>?_,fun h2=>?_⟩
    ·repeat((conv=>whnf);first|apply qza|apply qzb|apply qzc|apply qzd|apply qze|intro(_:Nat))
     conv=>whnf
     intro g2 hg
     have k1:=of_decide_eq_true h1
     have k2:=of_decide_eq_true h2
     rw [decide_eq_true (show 1≤e.next.length by omega),decide_eq_true (show e.next.length≤4 by omega)];rfl
    ·repeat((conv=>whnf);first|apply qza|apply qzb|apply qzc|apply qzd|apply qze|intro(_:Nat))
     conv=>whnf
     intro g2 hg
     have k2:=of_decide_eq_false h2
     rw [decide_eq_false (show ¬ e.next.length≤4 by omega)];simp
   ·repeat((conv=>whnf);first|apply qza|apply qzb|apply qzc|apply qzd|apply qze|intro(_:Nat))
    conv=>whnf
    intro g2 hg
    have k1:=of_decide_eq_false h1
    rw [decide_eq_false (show ¬ 1≤e.next.length by omega)];simp)
/- Slots: the first one is taken. -/
open Go.Proofs.YthonngjhelcpeaaGreat.Sx Go.RowKit
theorem qrT (g:GW) {w:Int} (hw:InU w):OkV Tryz.prog q9T [.int .u64 w] g (.int .u32 (tagT w)) :=
 Ok.of_fn hm noT 0 qTT (args:=[.v (.int .u64 w)]) (by
  repeat((conv=>whnf);first|apply qza|apply qzb|apply qzc|apply qzd|apply qze|intro(_:Nat))
  conv=>whnf
  refine⟨by decide,?_⟩
  repeat((conv=>whnf);first|apply qza|apply qzb|apply qzc|apply qzd|apply qze|intro(_:Nat))
  conv=>whnf
  intro g2 hg
  have h1:0≤tagT w∧tagT w<4294967296:=by
   unfold tagT
   obtain⟨a,b⟩:=hw
   constructor<;>omega
  have e2:w.fdiv (2 ^ min (Int.toNat 32) IntKind.u64.bits)=tagT w:=by
   rw [show(2:Int) ^ min (Int.toNat 32) IntKind.u64.bits=4294967296 by decide,Int.fdiv_eq_ediv_of_nonneg _ (by decide)];rfl
  rw [e2,IntKind.wrap_u32,Int.emod_eq_of_lt h1.1 h1.2])
theorem qtR (g:GW) {w i:Int} (hw:InU w) (hi:-1≤i∧i≤2147483646):OkV Tryz.prog qVN [.int .u64 w,.int .i64 i] g (.tuple #[.int .u64 (qfB w i),.int .i64 0]) :=
 Ok.of_fn hm noT 0 qNN (args:=[.v (.int .u64 w),.v (.int .i64 i)]) (by
  have h1:=Int.emod_nonneg (tagT w+1) (show(4294967296:Int)≠0 by decide)
  have h2:=Int.emod_lt_of_pos (tagT w+1) (show(0:Int)<4294967296 by decide)
  have hp:qHD i=true:=by unfold qHD;simp;omega
  repeat((conv=>whnf);first|apply qza|apply qzb|apply qzc|apply qzd|apply qze|intro(_:Nat))
  conv=>whnf
  refine .inl ⟨_,qrT _ hw,?_⟩
  repeat((conv=>whnf);first|apply qza|apply qzb|apply qzc|apply qzd|apply qze|intro(_:Nat))
  conv=>whnf
  refine .inl ⟨_,(qFO _ (t:=IntKind.u32.wrap (tagT w+1)) (i:=i) (by rw [IntKind.wrap_u32];exact⟨h1,h2⟩) (by unfold InR;omega)),?_⟩
  repeat((conv=>whnf);first|apply qza|apply qzb|apply qzc|apply qzd|apply qze|intro(_:Nat))
  conv=>whnf
  intro g2 hg
  rw [hp,IntKind.wrap_u32];rfl)
open Go.Proofs.YthonngjhelcpeaaGreat.Sx
theorem qlV (g:GW) (c:Int):OkV Tryz.prog qJR [.int .u8 c] g (.bool (lowB c)) :=
 Ok.of_fn hm noT 0 qlQ (args:=[.v (.int .u8 c)]) (by
  repeat' ((conv=>whnf);apply And.intro<;>intro _)
  all_goals ((conv=>whnf);intro g2 hg;simp_all [lowB]<;>omega))
theorem qsR (g:GW) (c:Int):OkV Tryz.prog qQC [.int .u8 c] g (.bool (qZL c)) :=
 Ok.of_fn hm noT 0 qlM (args:=[.v (.int .u8 c)]) (by
  conv=>whnf
  refine .inl ⟨_,qlV _ _,?_⟩
  repeat' ((conv=>whnf);apply And.intro<;>intro _)
  all_goals ((conv=>whnf);intro g2 hg;simp_all [qZL]<;>omega))
def tN:List (Nat×FnI):=[(qmP,qCL),(qTH,qrD)]
theorem quW:qQI Tryz.prog tN:=by
 intro x hx
 simp only [tN,List.mem_cons,List.not_mem_nil,or_false] at hx
 rcases hx with rfl|rfl
 ·exact⟨_,_,qDP⟩
 ·exact⟨_,_,qCH⟩
theorem qzI (g:GW) (s:ByteArray):OkV Tryz.prog qoP [.string s] g (.bool (qpE (bs s))) :=
 Ok.of_fn hm quW 1 qFP (args:=[.v (.string s)]) (by
  conv=>whnf
  refine⟨fun h1=>?_,fun h1=>?_⟩
  ·conv=>whnf
   refine⟨fun h2=>?_,fun h2=>?_⟩
   ·have k1:=of_decide_eq_true h1
    have k2:=of_decide_eq_true h2
    rw [qYA] at k1 k2
    obtain⟨c0,hc0⟩:∃ c0,(bs s)[0]?=some c0:=⟨(bs s)[0]'(by omega),List.getElem?_eq_getElem (by omega)⟩
    have hlow:(bs s).head?.any (fun c=>lowB c.toNat)=lowB c0.toNat:=by rw [List.head?_eq_getElem?,hc0];rfl
    conv=>whnf
    refine⟨c0,⟨by omega,hc0⟩,?_⟩
    conv=>whnf
    refine .inl ⟨_,qlV _ _,?_⟩
    conv=>whnf
    refine⟨fun h3=>?_,fun h3=>?_⟩
    ·conv=>whnf
     intro b1
     conv=>whnf
     refine⟨rfl,?_⟩
     conv=>whnf
     refine⟨rfl,?_⟩
     conv=>whnf
     intro b2
     conv=>whnf
     refine⟨Nat,fun i=>[.v (.int .i64 i)],fun _=>⟨g,[.blk 1 b2 _ [.v (.func (.func qQC) #[] #[])],.blk 0 b1 _ [.v (.func (.func qQC) #[] #[])]],_,_⟩,fun i=>i≤(bs s).length∧((bs s).take i).all (fun c=>qZL c.toNat)=true,fun i=>(bs s).length-i,fun _ _ hw=>⟨0,rfl,⟨Nat.zero_le _,rfl⟩,hw⟩,?_⟩
     intro i hJ
     have hi:=hJ.1
     have hall:=hJ.2
     conv=>whnf
     refine⟨fun h=>?_,fun h=>?_⟩
     ·have h':i<(bs s).length:=by have:=of_decide_eq_true h;rw [qYA] at this;omega
      obtain⟨c,hcc,hc⟩:∃ c,(bs s)[i]=c∧(bs s)[i]?=some c:=⟨_,rfl,List.getElem?_eq_getElem h'⟩
      have hgood:∀ b,qZL c.toNat=b→((bs s).take (i+1)).all (fun c=>qZL c.toNat)=b:=fun b hb=>by rw [qvH h',hall,hcc,hb];rfl
      have hw2:IntKind.i64.wrap ((i:Int)+1)=((i+1:Nat):Int):=by rw [wr (by omega)];simp
      conv=>whnf
      refine⟨c,⟨by omega,hc⟩,?_⟩
      conv=>whnf
      refine⟨fun hz=>?_,fun hz=>?_⟩
      ·conv=>whnf
       refine⟨rfl,?_⟩
       conv=>whnf
       refine⟨c,⟨by omega,hc⟩,?_⟩
       conv=>whnf
       refine⟨qWI,?_⟩
       conv=>whnf
       refine .inl ⟨_,qsR _ _,?_⟩
       conv=>whnf
       refine⟨fun hb=>?_,fun hb=>?_⟩
       ·conv=>whnf
        intro g2 hg
        rw [qpE,qED h' (by rw [hcc];simpa using hb)];simp
       ·conv=>whnf
        refine fun _ _ hw=>⟨i+1,congrArg (fun z=>[Value.int .i64 z]) hw2.symm,⟨h',hgood _ (by simpa using hb)⟩,dec h',hw⟩
      ·conv=>whnf
       refine fun _ _ hw=>⟨i+1,congrArg (fun z=>[Value.int .i64 z]) hw2.symm,⟨h',hgood _ (by simp at hz;simp [qZL,hz])⟩,dec h',hw⟩
     ·conv=>whnf
      intro g2 hg
      have:i=(bs s).length:=by have:=of_decide_eq_false h;rw [qYA] at this;omega
      rw [this,List.take_length] at hall
      rw [qpE,hall,hlow,h3,decide_eq_true (p:=0<(bs s).length) (by omega),decide_eq_true (p:=(bs s).length≤16) (by omega)];rfl
    ·conv=>whnf
     intro g2 hg
     simp [qpE,hlow,h3]
   ·conv=>whnf
    intro g2 hg
    have:=of_decide_eq_false h2
    rw [qYA] at this
    rw [qpE,decide_eq_false (p:=(bs s).length≤16) (by omega)];simp
  ·conv=>whnf
   intro g2 hg
   have:=of_decide_eq_false h1
   rw [qYA] at this
   rw [qpE,decide_eq_false (p:=0<(bs s).length) (by omega)];simp)
/- What IndexByte of Go's library tells: the model's own answer. -/
open Go.RowKit Go.Lib
theorem ib (s:ByteArray) (c:Int) (w:World):Calls Tryz.prog 233 #[.string s,.int .u8 c] w fun e w'=>e=.returned (.int .i64 (Lib.indexByte s.data.toList c.toNat.toUInt8))∧w'=w:=by
 go_enter Tryz.func233,Tryz.ntmps233
 go_wp2
 rw [run_callFunc_extern Tryz.func234 (by kernel_rfl) (by kernel_rfl) (by kernel_rfl) (e:=Extern.BytealgIndexByte.indexByte) (by kernel_rfl),Lib.run_indexByteString]
 simp only [Result.andThen]
 rw [Oper.upon_value]
 go_wp2
 go_ret
 exact⟨rfl,rfl⟩
open Go.Proofs.YthonngjhelcpeaaGreat.Sx
theorem ok_ib (g:GW) (s:ByteArray) (c:Int):OkV Tryz.prog qHG [.string s,.int .u8 c] g (.int .i64 (Lib.indexByte (bs s) c.toNat.toUInt8)) :=
 Ok.of_same fun w=>(ib s c w).mono fun _ _ h=>⟨h.1,h.2.symm⟩
theorem qeP (g:GW) (s:ByteArray) (c:Int):OkV Tryz.prog q0I [.string s,.int .u8 c] g (.int .i64 (Lib.indexByte (bs s) c.toNat.toUInt8)) :=
 Ok.of_fn hm noT 0 qhI (args:=[.v (.string s),.v (.int .u8 c)]) (by
  conv=>whnf
  refine .inl ⟨_,ok_ib _ _ _,?_⟩
  conv=>whnf
  intro g2 hg
  rfl)
def tH:List (Nat×FnI):=[(qTO,qIK),(qEM,qfH)]
theorem tH_ok:qQI Tryz.prog tH:=by
 intro x hx
 simp only [tH,List.mem_cons,List.not_mem_nil,or_false] at hx
 rcases hx with rfl|rfl
 ·exact⟨_,_,qzN⟩
 ·exact⟨_,_,qlL⟩
theorem q5Q (g:GW) (s:ByteArray):OkV Tryz.prog qpP [.string s] g (.bool (q7M (bs s))) :=
 Ok.of_fn hm tH_ok 2 qGP (args:=[.v (.string s)]) (by
  conv=>whnf
  intro b0
  conv=>whnf
  refine⟨fun h1=>?_,fun h1=>?_⟩
  ·conv=>whnf
   refine⟨rfl,?_⟩
   conv=>whnf
   refine⟨rfl,?_⟩
   conv=>whnf
   intro g2 hg
   have:=of_decide_eq_true h1
   rw [qYA] at this
   rw [q7M,decide_eq_false (by omega)];rfl
  ·conv=>whnf
   intro b1
   conv=>whnf
   intro b2
   conv=>whnf
   refine⟨qNM,fun l rr=>?_⟩
   conv=>whnf
   refine⟨ByteArray,fun _=>[],fun t=>⟨g,[.lp 3 l rr .ready,.blk 2 b2 _ [.v (.int .u8 46)],.blk 1 b1 _ [.v (.string t)],.blk 0 b0 _ [.v (.bool false)]],_,_⟩,fun t=>t.size≤32∧(qiD 46 (bs t)).all qpE=(qiD 46 (bs s)).all qpE,fun t=>t.size,fun _ _ hw=>⟨s,rfl,⟨by have:=of_decide_eq_false h1;omega,rfl⟩,hw⟩,?_⟩
   intro t hJJ
   have hJ:=hJJ.2
   have hJ1:=hJJ.1
   have hlast:Lib.indexByte (bs t) (46:Int).toNat.toUInt8<0→qiD 46 (bs t)=[bs t]:=fun h=>by
    rcases qPH 46 (bs t) with ⟨_,h2⟩|⟨i,_,h2,_⟩
    ·exact h2
    ·rw [show(46:Int).toNat.toUInt8=46 from rfl,h2] at h;omega
   conv=>whnf
   refine⟨rfl,?_⟩
   conv=>whnf
   refine⟨rfl,?_⟩
   conv=>whnf
   refine .inl ⟨_,qeP _ _ _,?_⟩
   conv=>whnf
   refine⟨fun h2=>?_,fun h2=>?_⟩
   ·conv=>whnf
    refine⟨rfl,?_⟩
    conv=>whnf
    refine⟨rfl,?_⟩
    conv=>whnf
    refine⟨⟨rfl,rfl⟩,?_⟩
    conv=>whnf
    refine⟨rfl,?_⟩
    conv=>whnf
    refine .inl ⟨_,qzI _ _,?_⟩
    conv=>whnf
    refine⟨fun h3=>?_,fun h3=>?_⟩
    ·conv=>whnf
     refine⟨rfl,?_⟩
     conv=>whnf
     refine⟨rfl,?_⟩
     conv=>whnf
     refine⟨rfl,?_⟩
     conv=>whnf
     refine⟨rfl,?_⟩
     conv=>whnf
     intro g2 hg
     have hn:(qiD 46 (bs t)).all qpE=false:=by rw [hlast (of_decide_eq_true h2)];simp at h3;simp [h3]
     rw [q7M,← hJ,hn];simp
    ·conv=>whnf
     refine⟨rfl,?_⟩
     conv=>whnf
     refine⟨rfl,?_⟩
     conv=>whnf
     refine⟨rfl,?_⟩
     conv=>whnf
     refine⟨rfl,?_⟩
     conv=>whnf
     intro g2 hg
     have hn:(qiD 46 (bs t)).all qpE=true:=by rw [hlast (of_decide_eq_true h2)];simp at h3;simp [h3]
     have:=of_decide_eq_false h1
     rw [qYA] at this
     rw [q7M,← hJ,hn,decide_eq_true (by omega)];rfl
   ·have k2:=of_decide_eq_false h2
    obtain⟨i,hi,hidx,hpt⟩:∃ i:Nat,i<(bs t).length∧Lib.indexByte (bs t) (46:Int).toNat.toUInt8=i∧qiD 46 (bs t)=(bs t).take i :: qiD 46 ((bs t).drop (i+1)):=by
     rcases qPH 46 (bs t) with ⟨h1,_⟩|h
     ·rw [show(46:Int).toNat.toUInt8=46 from rfl,h1] at k2;omega
     ·exact h
    have hts:=qYA t
    conv=>whnf
    refine⟨rfl,?_⟩
    conv=>whnf
    refine⟨⟨by rw [hidx];omega,by rw [hidx];omega⟩,?_⟩
    conv=>whnf
    refine⟨rfl,?_⟩
    conv=>whnf
    refine⟨⟨rfl,rfl⟩,?_⟩
    conv=>whnf
    refine⟨rfl,?_⟩
    conv=>whnf
    refine .inl ⟨_,qzI _ _,?_⟩
    have hx1:bs (t.extract 0 (Lib.indexByte (bs t) (46:Int).toNat.toUInt8).toNat)=(bs t).take i:=by rw [qJE,hidx];simp
    conv=>whnf
    refine⟨fun h3=>?_,fun h3=>?_⟩
    ·conv=>whnf
     refine⟨rfl,?_⟩
     conv=>whnf
     refine⟨rfl,?_⟩
     conv=>whnf
     refine⟨rfl,?_⟩
     conv=>whnf
     refine⟨rfl,?_⟩
     conv=>whnf
     intro g2 hg
     rw [hx1] at h3
     have hn:(qiD 46 (bs t)).all qpE=false:=by rw [hpt];simp at h3;simp [h3]
     rw [q7M,← hJ,hn];simp
    ·conv=>whnf
     refine⟨rfl,?_⟩
     conv=>whnf
     refine⟨rfl,?_⟩
     have hw2:IntKind.i64.wrap (Lib.indexByte (bs t) (46:Int).toNat.toUInt8+1)=((i+1:Nat):Int):=by rw [hidx,wr (by omega)];simp
     have hx2:bs (t.extract (IntKind.i64.wrap (Lib.indexByte (bs t) (46:Int).toNat.toUInt8+1)).toNat t.size)=(bs t).drop (i+1):=by
      rw [qJE,hw2,Int.toNat_natCast,hts]
      exact List.take_of_length_le (by simp)
     conv=>whnf
     refine⟨⟨by rw [hw2];omega,by rw [hw2];omega⟩,?_⟩
     conv=>whnf
     refine⟨rfl,?_⟩
     conv=>whnf
     refine fun _ _ hw=>⟨_,rfl,⟨?_,?_⟩,?_,hw⟩
     ·rw [qYA,hx2,List.length_drop];omega
     ·rw [hx1] at h3
      rw [← hJ,hpt,hx2];simp at h3;simp [h3]
     ·show ByteArray.size _<t.size
      rw [qYA,hx2,hts,List.length_drop];omega)
/- Prefixes and suffixes of texts;patterns and paths;the document's parts,hosts,patterns and paths. -/
open Go.Proofs.YthonngjhelcpeaaGreat.Sx
theorem qfP (g:GW) (s p:BA):OkV Tryz.prog qJG [.string s,.string p] g (.bool (preL (bs p) (bs s))) :=
 Ok.of_fn hm noT 0 q3F (args:=[.v (.string s),.v (.string p)]) (by
  conv=>whnf
  refine⟨fun h=>?_,fun h=>?_⟩
  ·have h':=of_decide_eq_true h
   conv=>whnf
   refine⟨⟨by omega,by omega⟩,?_⟩
   conv=>whnf
   intro g2 hg
   rw [quQ]
   have e1:bs (s.extract 0 (p.size:Int).toNat)=(bs s).take (bs p).length:=by rw [qJE,qYA];simp
   have:=qYA s;have:=qYA p
   rw [decide_eq_true (show(bs p).length≤(bs s).length by omega),← e1];rfl
  ·conv=>whnf
   intro g2 hg
   have h':=of_decide_eq_false h
   have:=qYA s;have:=qYA p
   rw [quQ,decide_eq_false (show ¬ (bs p).length≤(bs s).length by omega)];rfl)
theorem qHO (g:GW) (s t:BA) (hs:s.size≤1000000000∧t.size≤1000000000):OkV Tryz.prog qIG [.string s,.string t] g (.bool (sufL (bs t) (bs s))) :=
 Ok.of_fn hm noT 0 q2F (args:=[.v (.string s),.v (.string t)]) (by
  conv=>whnf
  refine⟨fun h=>?_,fun h=>?_⟩
  ·have h':=of_decide_eq_true h
   have hw:IntKind.i64.wrap ((s.size:Int)-(t.size:Int))=((s.size-t.size:Nat):Int):=by rw [wr (by omega)];omega
   conv=>whnf
   refine⟨⟨by rw [hw];omega,by rw [hw];omega⟩,?_⟩
   conv=>whnf
   intro g2 hg
   rw [qXT]
   have:=qYA s;have:=qYA t
   have e1:bs (s.extract (IntKind.i64.wrap ((s.size:Int)-(t.size:Int))).toNat s.size)=(bs s).drop ((bs s).length-(bs t).length):=by
    rw [qJE,hw,Int.toNat_natCast,qYA s,qYA t]
    exact List.take_of_length_le (by simp)
   rw [decide_eq_true (show(bs t).length≤(bs s).length by omega),← e1];rfl
  ·conv=>whnf
   intro g2 hg
   have h':=of_decide_eq_false h
   have:=qYA s;have:=qYA t
   rw [qXT,decide_eq_false (show ¬ (bs t).length≤(bs s).length by omega)];rfl)
theorem q5K (g:GW) (s t:BA) (hs:s.size≤1000000000∧t.size≤1000000000):OkV Tryz.prog q1I [.string s,.string t] g (.bool (sufL (bs t) (bs s))) :=
 Ok.of_fn hm noT 0 qiI (args:=[.v (.string s),.v (.string t)]) (by
  conv=>whnf
  refine .inl ⟨_,qHO _ _ _ hs,?_⟩
  conv=>whnf
  intro g2 hg
  rfl)
def cutP (s p:BA):BA:=if preL (bs p) (bs s) then s.extract p.size s.size else s
theorem qzO {s p:BA} (h:preL (bs p) (bs s)=true):bs (cutP s p)=(bs s).drop (bs p).length:=by
 unfold cutP
 rw [if_pos h,qJE,qYA s,qYA p]
 exact List.take_of_length_le (by simp)
theorem qLO (g:GW) (s p:BA):OkV Tryz.prog qKG [.string s,.string p] g (.tuple #[.string (cutP s p),.bool (preL (bs p) (bs s))]) :=
 Ok.of_fn hm noT 0 q4F (args:=[.v (.string s),.v (.string p)]) (by
  conv=>whnf
  refine .inl ⟨_,qfP _ _ _,?_⟩
  conv=>whnf
  refine⟨fun h=>?_,fun h=>?_⟩
  ·have h':preL (bs p) (bs s)=false:=by simpa using h
   conv=>whnf
   intro g2 hg
   unfold cutP
   rw [h'];rfl
  ·have h':preL (bs p) (bs s)=true:=by simpa using h
   have hl:p.size≤s.size:=by
    rw [quQ] at h'
    simp only [Bool.and_eq_true,decide_eq_true_eq] at h'
    have:=qYA s;have:=qYA p;omega
   conv=>whnf
   refine⟨⟨by omega,by omega⟩,?_⟩
   conv=>whnf
   intro g2 hg
   unfold cutP
   rw [h'];rfl)
theorem q9E (g:GW) (s p:BA):OkV Tryz.prog q2I [.string s,.string p] g (.tuple #[.string (cutP s p),.bool (preL (bs p) (bs s))]) :=
 Ok.of_fn hm noT 0 qjI (args:=[.v (.string s),.v (.string p)]) (by
  conv=>whnf
  refine .inl ⟨_,qLO _ _ _,?_⟩
  conv=>whnf
  intro g2 hg
  rfl)
theorem qiK (g:GW) (s:BA):OkV Tryz.prog qFM [.string s] g (.bool (q0B (bs s))) :=
 Ok.of_fn hm noT 0 qmL (args:=[.v (.string s)]) (by
  conv=>whnf
  refine .inl ⟨_,q9E _ _ _,?_⟩
  conv=>whnf
  refine⟨fun h=>?_,fun h=>?_⟩
  ·have h':preL [42,46] (bs s)=true:=h
   conv=>whnf
   refine .inl ⟨_,q5Q _ _,?_⟩
   conv=>whnf
   intro g2 hg
   rw [q0B,h',qzO h];rfl
  ·have h':preL [42,46] (bs s)=false:=h
   conv=>whnf
   refine⟨fun k=>?_,fun k=>?_⟩
   ·conv=>whnf
    intro g2 hg
    rw [q0B,h']
    have k':(bs s==[42])=true:=k
    rw [k'];rfl
   ·conv=>whnf
    refine .inl ⟨_,q5Q _ _,?_⟩
    conv=>whnf
    intro g2 hg
    rw [q0B,h']
    have k':(bs s==[42])=false:=k
    rw [k'];rfl)
theorem q4Q (g:GW) (s:BA):OkV Tryz.prog qnP [.string s] g (.bool (qxI (bs s))) :=
 Ok.of_fn hm quW 1 qEP (args:=[.v (.string s)]) (by
  have hsz:=qYA s
  conv=>whnf
  refine⟨fun h1=>?_,fun h1=>?_⟩
  ·conv=>whnf
   refine⟨fun h2=>?_,fun h2=>?_⟩
   ·have k1:=of_decide_eq_true h1
    have k2:=of_decide_eq_true h2
    obtain⟨c0,hc0⟩:∃ c0,(bs s)[0]?=some c0:=qCA (by omega)
    have hh:(bs s).head?.any (fun c=>(c.toNat:Int)==47)=((c0.toNat:Int)==47):=by rw [List.head?_eq_getElem?,hc0];rfl
    conv=>whnf
    refine⟨c0,⟨by omega,hc0⟩,?_⟩
    conv=>whnf
    refine⟨fun h3=>?_,fun h3=>?_⟩
    ·conv=>whnf
     intro b1
     conv=>whnf
     refine⟨rfl,?_⟩
     conv=>whnf
     refine⟨rfl,?_⟩
     conv=>whnf
     intro b2
     conv=>whnf
     refine⟨Nat,fun i=>[.v (.int .i64 i)],fun _=>⟨g,[.blk 1 b2 _ [.v (.func (.func qQC) #[] #[])],.blk 0 b1 _ [.v (.func (.func qQC) #[] #[])]],_,_⟩,fun i=>i≤(bs s).length∧((bs s).take i).all (fun c=>(c.toNat:Int)==47||qZL c.toNat)=true,fun i=>(bs s).length-i,fun _ _ hw=>⟨0,rfl,⟨Nat.zero_le _,rfl⟩,hw⟩,?_⟩
     intro i hJ
     have hi:=hJ.1
     have hall:=hJ.2
     conv=>whnf
     refine⟨fun h=>?_,fun h=>?_⟩
     ·have h':i<(bs s).length:=by have:=of_decide_eq_true h;omega
      obtain⟨c,hcc,hc⟩:∃ c,(bs s)[i]=c∧(bs s)[i]?=some c:=⟨_,rfl,List.getElem?_eq_getElem h'⟩
      have hgood:∀ b,((c.toNat:Int)==47||qZL c.toNat)=b→((bs s).take (i+1)).all (fun c=>(c.toNat:Int)==47||qZL c.toNat)=b:=fun b hb=>by rw [qvH h',hall,hcc,hb];rfl
      have hw2:IntKind.i64.wrap ((i:Int)+1)=((i+1:Nat):Int):=by rw [wr (by omega)];simp
      conv=>whnf
      refine⟨c,⟨by omega,hc⟩,?_⟩
      conv=>whnf
      refine⟨fun hz=>?_,fun hz=>?_⟩
      ·conv=>whnf
       refine⟨rfl,?_⟩
       conv=>whnf
       refine⟨c,⟨by omega,hc⟩,?_⟩
       conv=>whnf
       refine⟨qWI,?_⟩
       conv=>whnf
       refine .inl ⟨_,qsR _ _,?_⟩
       conv=>whnf
       refine⟨fun hb=>?_,fun hb=>?_⟩
       ·conv=>whnf
        intro g2 hg
        simp at hz hb
        rw [qxI,qED h' (by rw [hcc];simp [hz,hb])];simp
       ·conv=>whnf
        refine fun _ _ hw=>⟨i+1,congrArg (fun z=>[Value.int .i64 z]) hw2.symm,⟨h',hgood _ (by simp at hb;simp [hb])⟩,dec h',hw⟩
      ·conv=>whnf
       refine fun _ _ hw=>⟨i+1,congrArg (fun z=>[Value.int .i64 z]) hw2.symm,⟨h',hgood _ (by simp at hz;simp [hz])⟩,dec h',hw⟩
     ·conv=>whnf
      intro g2 hg
      have:i=(bs s).length:=by have:=of_decide_eq_false h;omega
      rw [this,List.take_length] at hall
      rw [qxI,hall,hh,h3,decide_eq_true (p:=0<(bs s).length) (by omega),decide_eq_true (p:=(bs s).length≤32) (by omega)];rfl
    ·conv=>whnf
     intro g2 hg
     simp [qxI,hh,h3]
   ·conv=>whnf
    intro g2 hg
    have:=of_decide_eq_false h2
    rw [qxI,decide_eq_false (p:=(bs s).length≤32) (by omega)];simp
  ·conv=>whnf
   intro g2 hg
   have:=of_decide_eq_false h1
   rw [qxI,decide_eq_false (p:=0<(bs s).length) (by omega)];simp)
/- Whether a configuration may be: the program's and the document's answers. -/
open Go.Proofs.YthonngjhelcpeaaGreat.Sx
theorem qFV (g:GW) {v:Value} {l:List BA} (hl:rSl 1 rStr g v l) (s:BA):OkV Tryz.prog qkD [v,.string s] g (.int .i64 (idxI (idxO (fun x=>bs s==bs x) l))) :=
 Ok.of_fn hm noT 0 qgD (args:=[.v v,.v (.string s)]) (by
  obtain⟨oa,cap,rfl,h1,h2,h0,hr⟩:=hl
  repeat((conv=>whnf);first|apply qza|apply qzb|apply qzc|apply qzd|apply qze|intro(_:Nat))
  conv=>whnf
  refine⟨Nat,fun k=>[.v (.int .i64 k)],fun k=>⟨g,[],_,_⟩,fun k=>k≤l.length∧Pass (idxF fun x=>bs s==bs x) l k,fun k=>l.length-k,qJA 0 rfl ⟨Nat.zero_le _,Pass.zero _ _⟩ rfl,?_⟩
  rintro k ⟨hk,hp⟩
  conv=>whnf
  refine⟨fun hlt=>?_,fun hlt=>?_⟩
  ·have h':k<l.length:=by have:=of_decide_eq_true hlt;omega
   obtain⟨x,hx⟩:=qCA h'
   obtain⟨a,rfl,ec,hec,rfl,hc⟩:=hr k x hx
   conv=>whnf
   refine⟨a,rfl,⟨by omega,by omega⟩,?_⟩
   conv=>whnf
   refine⟨_,hc 0 _ rfl,?_⟩
   conv=>whnf
   refine⟨fun he=>?_,fun he=>?_⟩
   ·conv=>whnf
    intro g2 hg
    rw [qWL hp hx he]
   ·conv=>whnf
    refine fun fr w hw=>⟨k+1,congrArg (fun z=>[Value.int .i64 z]) (wr1 h' h1 h2).symm,⟨h',q5J hp hx he⟩,dec h',hw⟩
  ·conv=>whnf
   intro g2 hg
   have:=of_decide_eq_false hlt
   rw [qZH hp (by omega)])
theorem q6L (g:GW) {v:Value} {l:List BA} (hl:rSl 1 rStr g v l) (s:BA):OkV Tryz.prog q4C [v,.string s] g (.bool (hasS l s)) :=
 Ok.of_fn hm noT 0 qzC (args:=[.v v,.v (.string s)]) (by
  conv=>whnf
  refine .inl ⟨_,qFV _ hl _,?_⟩
  conv=>whnf
  intro g2 hg
  rw [qPR]
  have:(fun x=>bs s==bs x)=fun x=>bs x==bs s:=by funext x;exact qZU _ _
  rw [this];rfl)
def tC:List (Nat×FnI):=[(qCB,qbA),(qRB,qeA),(qJL,qnG)]
theorem tC_ok:qQI Tryz.prog tC:=by
 intro x hx
 simp only [tC,List.mem_cons,List.not_mem_nil,or_false] at hx
 rcases hx with rfl|rfl|rfl
 ·exact⟨_,_,q9A⟩
 ·exact⟨_,_,qPB⟩
 ·exact⟨_,_,qGL⟩
theorem quR (g:GW) {v:Value} {l:List Cluster} (hl:rSl 4 qlB g v l) (s:BA):OkV Tryz.prog q5M [v,.string s] g (.bool (hasC l s)) :=
 Ok.of_fn hm tC_ok 3 qqM (args:=[.v v,.v (.string s)]) (by
  obtain⟨oa,cap,rfl,h1,h2,h0,hr⟩:=hl
  repeat((conv=>whnf);first|apply qza|apply qzb|apply qzc|apply qzd|apply qze|intro(_:Nat))
  conv=>whnf
  refine⟨Nat,fun k=>[.v (.int .i64 k)],fun k=>⟨g,[.blk 0 _ _ [.v (.string s)]],_,_⟩,fun k=>k≤l.length∧Pass (idxF fun (x:Cluster)=>bs x.name==bs s) l k,fun k=>l.length-k,qJA 0 rfl ⟨Nat.zero_le _,Pass.zero _ _⟩ rfl,?_⟩
  rintro k ⟨hk,hp⟩
  conv=>whnf
  refine⟨fun hlt=>?_,fun hlt=>?_⟩
  ·have h':k<l.length:=by have:=of_decide_eq_true hlt;omega
   obtain⟨x,hx⟩:=qCA h'
   obtain⟨a,rfl,ec,hec,⟨hv,rfl,_,_,_,_,rfl,_⟩,hc⟩:=hr k x hx
   conv=>whnf
   refine⟨a,rfl,⟨by omega,by omega⟩,?_⟩
   conv=>whnf
   refine⟨_,⟨rfl,hc⟩,?_⟩
   conv=>whnf
   refine⟨qML,?_⟩
   repeat((conv=>whnf);first|apply qza|apply qzb|apply qzc|apply qzd|apply qze|intro(_:Nat))
   conv=>whnf
   refine⟨fun he=>?_,fun he=>?_⟩
   ·conv=>whnf
    intro g2 hg
    have:hasC l s=true:=List.any_eq_true.2 ⟨x,List.mem_of_getElem? hx,he⟩
    rw [this];simp
   ·conv=>whnf
    refine fun fr w hw=>⟨k+1,congrArg (fun z=>[Value.int .i64 z]) (wr1 h' h1 h2).symm,⟨h',q5J hp hx he⟩,dec h',?_⟩
    exact hw.fit (by simp [fitL,Res.eqv,qDA,conc])
  ·conv=>whnf
   intro g2 hg
   have:=of_decide_eq_false hlt
   have h3:=qPR (fun (x:Cluster)=>bs x.name==bs s) l
   rw [qZH hp (by omega)] at h3
   rw [show hasC l s=false from by rw [hasC,← h3];rfl];rfl)
theorem qaP (g:GW) (n a b:Int):OkV Tryz.prog qHM [.int .i64 n,.int .i64 a,.int .i64 b] g (.bool (decide (a≤n)&&decide (n≤b))) :=
 Ok.of_fn hm noT 0 qoL (args:=[.v (.int .i64 n),.v (.int .i64 a),.v (.int .i64 b)]) (by
  repeat'((conv=>whnf);first|apply qza|apply qzb|apply qzc|apply qzd|apply qze|intro(_:Nat)|refine .inl ⟨_,rfl,?_⟩|refine⟨fun _=>?_,fun _=>?_⟩|fail)
  all_goals (conv=>whnf)
  all_goals (intro g2 hg)
  all_goals (first|(simp_all;done)|(simp_all;omega)))
theorem qvR (g:GW) {cs:List Value} {c:Config} (hc:qUD g cs c):OkV Tryz.prog qJD [.agg ⟨cs⟩] g (eiT (qsM c)):=by
 obtain⟨a,b,d,rfl,hl,hr,hk⟩:=hc
 obtain⟨oa,ca,rfl,a1,a2,a0,hl1⟩:=id hl
 obtain⟨ob,cb,rfl,b1,b2,b0,hr1⟩:=id hr
 obtain⟨od,cd,rfl,d1,d2,d0,hk1⟩:=id hk
 exact Ok.of_fn hm noT 0 qtG (args:=[.v (.agg ⟨[.slice oa c.listens.length ca,.slice ob c.routes.length cb,.slice od c.clusters.length cd]⟩)]) (by
  repeat'((conv=>whnf);first|apply qza|apply qzb|apply qzc|apply qzd|apply qze|intro(_:Nat)|refine .inl ⟨_,qaP _ _ _ _,?_⟩|refine⟨fun _=>?_,fun _=>?_⟩|fail)
  all_goals (conv=>whnf)
  all_goals (intro g2 hg)
  all_goals first|(rw [show qsM c=some (6,0) from if_neg (by simp_all;try omega)];rfl;done)|(rw [show qsM c=none from if_pos (by simp_all;try omega)];rfl))
theorem q4L (g:GW) {cs:List Value} {c:Config} (hc:qUD g cs c):OkV Tryz.prog qRC [.agg ⟨cs⟩] g (eiT (qEE c)):=by
 obtain⟨a,b,d,rfl,hl,hr,hk⟩:=hc
 obtain⟨oa,ca,rfl,a1,a2,a0,hl1⟩:=id hl
 obtain⟨ob,cb,rfl,b1,b2,b0,hr1⟩:=id hr
 obtain⟨od,cd,rfl,d1,d2,d0,hk1⟩:=id hk
 exact Ok.of_fn hm noT 0 qKF (args:=[.v (.agg ⟨[.slice oa c.listens.length ca,.slice ob c.routes.length cb,.slice od c.clusters.length cd]⟩)]) (by
  repeat((conv=>whnf);first|apply qza|apply qzb|apply qzc|apply qzd|apply qze|intro(_:Nat))
  conv=>whnf
  refine⟨Nat,fun k=>[.v (.int .i64 k)],fun k=>⟨g,[.blk 0 _ _ [.v (.slice oa c.listens.length ca),.v (.slice ob c.routes.length cb),.v (.slice od c.clusters.length cd)]],_,_⟩,fun k=>k≤c.listens.length∧Pass (qQG c.listens) c.listens k,fun k=>c.listens.length-k,qJA 0 rfl ⟨Nat.zero_le _,Pass.zero _ _⟩ rfl,?_⟩
  rintro k ⟨hk,hp⟩
  conv=>whnf
  refine⟨fun hlt=>?_,fun hlt=>?_⟩
  ·have h':k<c.listens.length:=by have:=of_decide_eq_true hlt;omega
   obtain⟨x,hx⟩:=qCA h'
   obtain⟨a,rfl,ec,hec,rfl,hc⟩:=hl1 k x hx
   conv=>whnf
   refine⟨a,rfl,⟨by omega,by omega⟩,?_⟩
   conv=>whnf
   refine⟨_,hc 0 _ rfl,?_⟩
   repeat((conv=>whnf);first|apply qza|apply qzb|apply qzc|apply qzd|apply qze|intro(_:Nat))
   conv=>whnf
   refine .inl ⟨_,qzI _ _,?_⟩
   conv=>whnf
   refine⟨fun hn=>?_,fun hn=>?_⟩
   ·conv=>whnf
    intro g2 hg
    rw [show qEE c=some ((3,k):EI) from hp.hit hx (by rw [qQG,if_neg (by simp [nb1 hn])])];rfl
   ·repeat((conv=>whnf);first|apply qza|apply qzb|apply qzc|apply qzd|apply qze|intro(_:Nat))
    conv=>whnf
    refine⟨⟨by omega,by omega⟩,?_⟩
    repeat((conv=>whnf);first|apply qza|apply qzb|apply qzc|apply qzd|apply qze|intro(_:Nat))
    conv=>whnf
    refine .inl ⟨_,q6L _ (hl.take (Nat.le_of_lt h')) _,?_⟩
    conv=>whnf
    refine⟨fun hs=>?_,fun hs=>?_⟩
    ·conv=>whnf
     intro g2 hg
     rw [show qEE c=some ((4,k):EI) from hp.hit hx (by rw [qQG,if_pos (nb0 hn),if_pos hs])];rfl
    ·conv=>whnf
     refine fun fr w hw=>⟨k+1,congrArg (fun z=>[Value.int .i64 z]) (wr1 h' a1 a2).symm,⟨h',hp.succ hx (by rw [qQG,if_pos (nb0 hn),if_neg (by simp [hs])])⟩,dec h',?_⟩
     exact hw.fit (by simp [fitL,Res.eqv,qDA,conc])
  ·conv=>whnf
   intro g2 hg
   have:=of_decide_eq_false hlt
   rw [show qEE c=none from hp.done (by omega)];rfl)
theorem q4K (g:GW) {cs:List Value} {c:Config} (hc:qUD g cs c):OkV Tryz.prog q9B [.agg ⟨cs⟩] g (eiT (qvD c)):=by
 obtain⟨a,b,d,rfl,hl,hr,hk⟩:=hc
 obtain⟨oa,ca,rfl,a1,a2,a0,hl1⟩:=id hl
 obtain⟨ob,cb,rfl,b1,b2,b0,hr1⟩:=id hr
 obtain⟨od,cd,rfl,d1,d2,d0,hk1⟩:=id hk
 exact Ok.of_fn hm noT 0 qoE (args:=[.v (.agg ⟨[.slice oa c.listens.length ca,.slice ob c.routes.length cb,.slice od c.clusters.length cd]⟩)]) (by
  repeat((conv=>whnf);first|apply qza|apply qzb|apply qzc|apply qzd|apply qze|intro(_:Nat))
  conv=>whnf
  refine⟨Nat,fun k=>[.v (.int .i64 k)],fun k=>⟨g,[.blk 0 _ _ [.v (.slice oa c.listens.length ca),.v (.slice ob c.routes.length cb),.v (.slice od c.clusters.length cd)]],_,_⟩,fun k=>k≤c.clusters.length∧Pass (q6A c.clusters) c.clusters k,fun k=>c.clusters.length-k,qJA 0 rfl ⟨Nat.zero_le _,Pass.zero _ _⟩ rfl,?_⟩
  rintro k ⟨hkk,hp⟩
  conv=>whnf
  refine⟨fun hlt=>?_,fun hlt=>?_⟩
  ·have h':k<c.clusters.length:=by have:=of_decide_eq_true hlt;omega
   obtain⟨x,hx⟩:=qCA h'
   obtain⟨a,rfl,ec,hec,⟨hv,rfl,_,_,_,_,rfl,_⟩,hc⟩:=hk1 k x hx
   have hit:∀ e:EI,q6A c.clusters k x=some e→qvD c=some e:=fun e he=>hp.hit hx he
   conv=>whnf
   refine⟨a,rfl,⟨by omega,by omega⟩,?_⟩
   conv=>whnf
   refine⟨_,⟨rfl,hc⟩,?_⟩
   repeat((conv=>whnf);first|apply qza|apply qzb|apply qzc|apply qzd|apply qze|intro(_:Nat))
   conv=>whnf
   refine .inl ⟨_,qzI _ _,?_⟩
   conv=>whnf
   refine⟨fun hn=>?_,fun hn=>?_⟩
   ·conv=>whnf
    intro g2 hg
    rw [hit (3,k) (by rw [q6A,if_neg (by simp [nb1 hn])])];rfl
   have hn:=nb0 hn
   repeat((conv=>whnf);first|apply qza|apply qzb|apply qzc|apply qzd|apply qze|intro(_:Nat))
   conv=>whnf
   refine⟨⟨by omega,by omega⟩,?_⟩
   repeat((conv=>whnf);first|apply qza|apply qzb|apply qzc|apply qzd|apply qze|intro(_:Nat))
   conv=>whnf
   refine .inl ⟨_,quR _ (hk.take (Nat.le_of_lt h')) _,?_⟩
   conv=>whnf
   refine⟨fun hs=>?_,fun hs=>?_⟩
   ·conv=>whnf
    intro g2 hg
    rw [hit (4,k) (by rw [q6A,if_pos hn,if_pos hs])];rfl
   have hp9:¬(x.policy=1∨x.policy=2)→q6A c.clusters k x=some (9,(k:Int)):=fun h=>by rw [q6A,if_pos hn,if_neg (by simp [hs]),if_neg h]
   have hp10:(x.policy=1∨x.policy=2)→¬(1≤x.slots∧x.slots≤4)→q6A c.clusters k x=some (10,(k:Int)):=fun h h2=>by rw [q6A,if_pos hn,if_neg (by simp [hs]),if_pos h,if_neg h2]
   have hp6:(x.policy=1∨x.policy=2)→(1≤x.slots∧x.slots≤4)→¬(1≤x.health.length∧x.health.length≤4)→q6A c.clusters k x=some (6,(k:Int)):=fun h h2 h3=>by rw [q6A,if_pos hn,if_neg (by simp [hs]),if_pos h,if_pos h2,if_neg h3]
   have hp0:(x.policy=1∨x.policy=2)→(1≤x.slots∧x.slots≤4)→(1≤x.health.length∧x.health.length≤4)→q6A c.clusters k x=none:=fun h h2 h3=>by rw [q6A,if_pos hn,if_neg (by simp [hs]),if_pos h,if_pos h2,if_pos h3]
   have hpn:=fun e=>hp.succ hx e
   clear hlt hp
   repeat'((conv=>whnf);first|apply qza|apply qzb|apply qzc|apply qzd|apply qze|intro(_:Nat)|refine .inl ⟨_,qaP _ _ _ _,?_⟩|refine⟨fun _=>?_,fun _=>?_⟩|fail)
   all_goals (conv=>whnf)
   all_goals (try simp only [bne_iff_ne,ne_eq,bne_eq_false_iff_eq,Bool.not_eq_true',Bool.not_eq_false',Bool.and_eq_true,Bool.and_eq_false_iff,decide_eq_true_eq,decide_eq_false_iff_not] at *)
   all_goals first
    | (intro g2 hg;rw [hit (9,k) (hp9 (by omega))];rfl;done)
    | (intro g2 hg;rw [hit (10,k) (hp10 (by omega) (by omega))];rfl;done)
    | (intro g2 hg;rw [hit (6,k) (hp6 (by omega) (by omega) (by omega))];rfl;done)
    | refine fun fr w hw=>⟨k+1,congrArg (fun z=>[Value.int .i64 z]) (wr1 h' d1 d2).symm,⟨h',hpn (hp0 (by omega) (by omega) (by omega))⟩,dec h',?_⟩
   all_goals (exact hw.fit (by simp [fitL,Res.eqv,qDA,conc]))
  ·conv=>whnf
   intro g2 hg
   have:=of_decide_eq_false hlt
   rw [show qvD c=none from hp.done (by omega)];rfl)
end Go.Proofs.YthonngjhelcpeaaGreat
