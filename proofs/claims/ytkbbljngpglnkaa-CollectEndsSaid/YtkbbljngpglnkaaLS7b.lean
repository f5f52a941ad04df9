/- Snapshots: the configuration of one. -/
import Derived.Test.YtkbbljngpglnkaaLB1
import Derived.Test.YtkbbljngpglnkaaPl
set_option linter.unusedVariables false
set_option linter.unusedSimpArgs false
namespace Go.Proofs.Ytkbbljngpglnkaa
open Go.Proofs.Ytkbbljngpglnkaa.Sx Go.RowKit
set_option maxHeartbeats 16000000
set_option maxRecDepth 100000
abbrev cRou (s:Snap) (r:Rule):List Value:=qoP (qZC s r)
theorem qGO (g:GW) {a b d:Value} {s:Snap} (hs:qwH g [a,b,d] s) (hsz:s.rules.length≤1000000):Ok Try.prog qpJ [.agg ⟨[a,b,d]⟩] g fun v g'=>∃ oa n cap,v=.agg ⟨[a,.slice oa n cap,d]⟩∧rSl 4 q0N g' (.slice oa n cap) (quE s).routes:=by
 obtain⟨_,_,_,he,hl,hr,hk⟩:=hs
 cases he
 obtain⟨oa,ca,rfl,a1,a2,a0,hl1⟩:=id hl
 obtain⟨ob,cb,rfl,b1,b2,b0,hr1⟩:=id hr
 obtain⟨od,cd,rfl,d1,d2,d0,hk1⟩:=id hk
 exact Ok.of_fn hm noT 0 qWJ (args:=[.v (.agg ⟨[.slice oa s.listens.length ca,.slice ob s.rules.length cb,.slice od s.clusters.length cd]⟩)]) (by
  repeat((conv=>whnf);first|apply qza|apply qzb|apply qzc|apply qzd|apply qze|intro(_:Nat)|intro(_:OA)_)
  rename_i p0 p1 p2
  conv=>whnf
  refine⟨Nat×Option Addr×Nat,fun (k,_,_)=>[.v (.int .i64 k)],fun (k,oR,cR)=>⟨g,[.row 10 oR k cR qIH 4 ((s.rules.take k).map (cRou s)).flatten,.blk 2 p2 qKG [.v (.slice oa s.listens.length ca),.row 10 oR k cR,.v (.slice od s.clusters.length cd)],.blk 1 p1 qKG [.v (.slice none 0 0),.v (.slice none 0 0),.v (.slice none 0 0)],.blk 0 p0 qdA [.v (.slice oa s.listens.length ca),.v (.slice ob s.rules.length cb),.v (.slice od s.clusters.length cd)]],40,g.w.heap.size⟩,fun (k,_,_)=>k≤s.rules.length,fun (k,_,_)=>s.rules.length-k,?_,?_⟩
  ·intro fr w hw
   exact⟨(0,none,0),rfl,Nat.zero_le _,(hw.nil_row (nx':=40) 10 qIH 4).fit (by simp [fitL,Res.eqv,qAA,conc])⟩
  rintro⟨k,oR,cR⟩ hkk
  have hkk:k≤s.rules.length:=hkk
  repeat((conv=>whnf);first|apply qza|apply qzb|apply qzc|apply qzd|apply qze|intro(_:Nat)|intro(_:OA)_)
  conv=>whnf
  refine⟨fun hlt=>?_,fun hlt=>?_⟩
  ·have h':k<s.rules.length:=by have:=of_decide_eq_true hlt;omega
   obtain⟨⟨rl,rh,rp,rc⟩,hx⟩:=qDA h'
   obtain⟨a,rfl,ec,hec,⟨rfl,_,_⟩,hc⟩:=hr1 k _ hx
   have hT:=qsO (f:=cRou s) hx
   repeat((conv=>whnf);first|apply qza|apply qzb|apply qzc|apply qzd|apply qze|intro(_:Nat)|intro(_:OA)_)
   conv=>whnf
   refine⟨a,rfl,⟨by omega,by omega⟩,?_⟩
   conv=>whnf
   refine⟨_,⟨rfl,hc⟩,?_⟩
   repeat((conv=>whnf);first|apply qza|apply qzb|apply qzc|apply qzd|apply qze|intro(_:Nat)|intro(_:OA)_)
   by_cases hA:0≤rl∧rl<s.listens.length
   ·obtain⟨n,rfl⟩:=Int.eq_ofNat_of_zero_le hA.1
    obtain⟨y,hy⟩:=qDA (show n<s.listens.length by omega)
    obtain⟨aL,rfl,ecL,hecL,rfl,hcL⟩:=hl1 n y hy
    have hAn:qpK s.listens (n:Int)=y:=by unfold qpK;rw [if_pos hA];simp [hy]
    conv=>whnf
    refine⟨fun _=>?_,fun hx=>absurd (((decide_eq_true hA.1)).symm.trans hx) (by decide)⟩
    repeat((conv=>whnf);first|apply qza|apply qzb|apply qzc|apply qzd|apply qze|intro(_:Nat)|intro(_:OA)_)
    conv=>whnf
    refine⟨fun _=>?_,fun hx=>absurd (((decide_eq_true hA.2)).symm.trans hx) (by decide)⟩
    repeat((conv=>whnf);first|apply qza|apply qzb|apply qzc|apply qzd|apply qze|intro(_:Nat)|intro(_:OA)_)
    conv=>whnf
    refine⟨aL,rfl,⟨hA.1,hA.2⟩,?_⟩
    conv=>whnf
    refine⟨_,hcL 0 _ rfl,?_⟩
    repeat((conv=>whnf);first|apply qza|apply qzb|apply qzc|apply qzd|apply qze|intro(_:Nat)|intro(_:OA)_)
    by_cases hC:0≤rc∧rc<s.clusters.length
    ·obtain⟨m,rfl⟩:=Int.eq_ofNat_of_zero_le hC.1
     obtain⟨z,hz⟩:=qDA (show m<s.clusters.length by omega)
     obtain⟨aC,rfl,ecC,hecC,⟨hv,rfl,_,_,_,_,rfl,_⟩,hcC⟩:=hk1 m z hz
     have hCn:qOD s.clusters (m:Int)=z.name:=by unfold qOD;rw [if_pos hC];simp [hz]
     conv=>whnf
     refine⟨fun _=>?_,fun hx=>absurd (((decide_eq_true hC.1)).symm.trans hx) (by decide)⟩
     repeat((conv=>whnf);first|apply qza|apply qzb|apply qzc|apply qzd|apply qze|intro(_:Nat)|intro(_:OA)_)
     conv=>whnf
     refine⟨fun _=>?_,fun hx=>absurd (((decide_eq_true hC.2)).symm.trans hx) (by decide)⟩
     repeat((conv=>whnf);first|apply qza|apply qzb|apply qzc|apply qzd|apply qze|intro(_:Nat)|intro(_:OA)_)
     conv=>whnf
     refine⟨aC,rfl,⟨hC.1,hC.2⟩,?_⟩
     conv=>whnf
     refine⟨_,hcC 0 _ rfl,?_⟩
     repeat((conv=>whnf);first|apply qza|apply qzb|apply qzc|apply qzd|apply qze|intro(_:Nat)|intro(_:OA)_)
     conv=>whnf
     refine⟨⟨by unfold maxLen;omega,by omega⟩,fun oa2 cap2=>?_⟩
     repeat((conv=>whnf);first|apply qza|apply qzb|apply qzc|apply qzd|apply qze|intro(_:Nat)|intro(_:OA)_)
     conv=>whnf
     refine fun fr w hw=>⟨(k+1,oa2,cap2),congrArg (fun z=>[Value.int .i64 z]) (wr1 h' b1 b2).symm,h',dec h',hw.fit ?_⟩
     simp only [hT]
     simp [fitL,Res.eqv,qAA,conc,qZC,hAn,hCn]
    have hCn:qOD s.clusters rc=⟨#[]⟩:=by unfold qOD;rw [if_neg hC]
    by_cases hC0:0≤rc
    ·conv=>whnf
     refine⟨fun _=>?_,fun hx=>absurd (((decide_eq_true hC0)).symm.trans hx) (by decide)⟩
     repeat((conv=>whnf);first|apply qza|apply qzb|apply qzc|apply qzd|apply qze|intro(_:Nat)|intro(_:OA)_)
     conv=>whnf
     refine⟨fun hx=>absurd (hx.symm.trans ((decide_eq_false (show ¬ rc<s.clusters.length from fun h=>hC ⟨hC0,h⟩)))) (by decide),fun _=>?_⟩
     repeat((conv=>whnf);first|apply qza|apply qzb|apply qzc|apply qzd|apply qze|intro(_:Nat)|intro(_:OA)_)
     conv=>whnf
     refine⟨⟨by unfold maxLen;omega,by omega⟩,fun oa2 cap2=>?_⟩
     repeat((conv=>whnf);first|apply qza|apply qzb|apply qzc|apply qzd|apply qze|intro(_:Nat)|intro(_:OA)_)
     conv=>whnf
     refine fun fr w hw=>⟨(k+1,oa2,cap2),congrArg (fun z=>[Value.int .i64 z]) (wr1 h' b1 b2).symm,h',dec h',hw.fit ?_⟩
     simp only [hT]
     simp [fitL,Res.eqv,qAA,conc,qZC,hAn,hCn]
    ·conv=>whnf
     refine⟨fun hx=>absurd (hx.symm.trans ((decide_eq_false hC0))) (by decide),fun _=>?_⟩
     repeat((conv=>whnf);first|apply qza|apply qzb|apply qzc|apply qzd|apply qze|intro(_:Nat)|intro(_:OA)_)
     conv=>whnf
     refine⟨⟨by unfold maxLen;omega,by omega⟩,fun oa2 cap2=>?_⟩
     repeat((conv=>whnf);first|apply qza|apply qzb|apply qzc|apply qzd|apply qze|intro(_:Nat)|intro(_:OA)_)
     conv=>whnf
     refine fun fr w hw=>⟨(k+1,oa2,cap2),congrArg (fun z=>[Value.int .i64 z]) (wr1 h' b1 b2).symm,h',dec h',hw.fit ?_⟩
     simp only [hT]
     simp [fitL,Res.eqv,qAA,conc,qZC,hAn,hCn]
   have hAn:qpK s.listens rl=⟨#[]⟩:=by unfold qpK;rw [if_neg hA]
   by_cases hA0:0≤rl
   ·conv=>whnf
    refine⟨fun _=>?_,fun hx=>absurd (((decide_eq_true hA0)).symm.trans hx) (by decide)⟩
    repeat((conv=>whnf);first|apply qza|apply qzb|apply qzc|apply qzd|apply qze|intro(_:Nat)|intro(_:OA)_)
    conv=>whnf
    refine⟨fun hx=>absurd (hx.symm.trans ((decide_eq_false (show ¬ rl<s.listens.length from fun h=>hA ⟨hA0,h⟩)))) (by decide),fun _=>?_⟩
    repeat((conv=>whnf);first|apply qza|apply qzb|apply qzc|apply qzd|apply qze|intro(_:Nat)|intro(_:OA)_)
    by_cases hC:0≤rc∧rc<s.clusters.length
    ·obtain⟨m,rfl⟩:=Int.eq_ofNat_of_zero_le hC.1
     obtain⟨z,hz⟩:=qDA (show m<s.clusters.length by omega)
     obtain⟨aC,rfl,ecC,hecC,⟨hv,rfl,_,_,_,_,rfl,_⟩,hcC⟩:=hk1 m z hz
     have hCn:qOD s.clusters (m:Int)=z.name:=by unfold qOD;rw [if_pos hC];simp [hz]
     conv=>whnf
     refine⟨fun _=>?_,fun hx=>absurd (((decide_eq_true hC.1)).symm.trans hx) (by decide)⟩
     repeat((conv=>whnf);first|apply qza|apply qzb|apply qzc|apply qzd|apply qze|intro(_:Nat)|intro(_:OA)_)
     conv=>whnf
     refine⟨fun _=>?_,fun hx=>absurd (((decide_eq_true hC.2)).symm.trans hx) (by decide)⟩
     repeat((conv=>whnf);first|apply qza|apply qzb|apply qzc|apply qzd|apply qze|intro(_:Nat)|intro(_:OA)_)
     conv=>whnf
     refine⟨aC,rfl,⟨hC.1,hC.2⟩,?_⟩
     conv=>whnf
     refine⟨_,hcC 0 _ rfl,?_⟩
     repeat((conv=>whnf);first|apply qza|apply qzb|apply qzc|apply qzd|apply qze|intro(_:Nat)|intro(_:OA)_)
     conv=>whnf
     refine⟨⟨by unfold maxLen;omega,by omega⟩,fun oa2 cap2=>?_⟩
     repeat((conv=>whnf);first|apply qza|apply qzb|apply qzc|apply qzd|apply qze|intro(_:Nat)|intro(_:OA)_)
     conv=>whnf
     refine fun fr w hw=>⟨(k+1,oa2,cap2),congrArg (fun z=>[Value.int .i64 z]) (wr1 h' b1 b2).symm,h',dec h',hw.fit ?_⟩
     simp only [hT]
     simp [fitL,Res.eqv,qAA,conc,qZC,hAn,hCn]
    have hCn:qOD s.clusters rc=⟨#[]⟩:=by unfold qOD;rw [if_neg hC]
    by_cases hC0:0≤rc
    ·conv=>whnf
     refine⟨fun _=>?_,fun hx=>absurd (((decide_eq_true hC0)).symm.trans hx) (by decide)⟩
     repeat((conv=>whnf);first|apply qza|apply qzb|apply qzc|apply qzd|apply qze|intro(_:Nat)|intro(_:OA)_)
     conv=>whnf
     refine⟨fun hx=>absurd (hx.symm.trans ((decide_eq_false (show ¬ rc<s.clusters.length from fun h=>hC ⟨hC0,h⟩)))) (by decide),fun _=>?_⟩
     repeat((conv=>whnf);first|apply qza|apply qzb|apply qzc|apply qzd|apply qze|intro(_:Nat)|intro(_:OA)_)
     conv=>whnf
     refine⟨⟨by unfold maxLen;omega,by omega⟩,fun oa2 cap2=>?_⟩
     repeat((conv=>whnf);first|apply qza|apply qzb|apply qzc|apply qzd|apply qze|intro(_:Nat)|intro(_:OA)_)
     conv=>whnf
     refine fun fr w hw=>⟨(k+1,oa2,cap2),congrArg (fun z=>[Value.int .i64 z]) (wr1 h' b1 b2).symm,h',dec h',hw.fit ?_⟩
     simp only [hT]
     simp [fitL,Res.eqv,qAA,conc,qZC,hAn,hCn]
    ·conv=>whnf
     refine⟨fun hx=>absurd (hx.symm.trans ((decide_eq_false hC0))) (by decide),fun _=>?_⟩
     repeat((conv=>whnf);first|apply qza|apply qzb|apply qzc|apply qzd|apply qze|intro(_:Nat)|intro(_:OA)_)
     conv=>whnf
     refine⟨⟨by unfold maxLen;omega,by omega⟩,fun oa2 cap2=>?_⟩
     repeat((conv=>whnf);first|apply qza|apply qzb|apply qzc|apply qzd|apply qze|intro(_:Nat)|intro(_:OA)_)
     conv=>whnf
     refine fun fr w hw=>⟨(k+1,oa2,cap2),congrArg (fun z=>[Value.int .i64 z]) (wr1 h' b1 b2).symm,h',dec h',hw.fit ?_⟩
     simp only [hT]
     simp [fitL,Res.eqv,qAA,conc,qZC,hAn,hCn]
   ·conv=>whnf
    refine⟨fun hx=>absurd (hx.symm.trans ((decide_eq_false hA0))) (by decide),fun _=>?_⟩
    repeat((conv=>whnf);first|apply qza|apply qzb|apply qzc|apply qzd|apply qze|intro(_:Nat)|intro(_:OA)_)
    by_cases hC:0≤rc∧rc<s.clusters.length
    ·obtain⟨m,rfl⟩:=Int.eq_ofNat_of_zero_le hC.1
     obtain⟨z,hz⟩:=qDA (show m<s.clusters.length by omega)
     obtain⟨aC,rfl,ecC,hecC,⟨hv,rfl,_,_,_,_,rfl,_⟩,hcC⟩:=hk1 m z hz
     have hCn:qOD s.clusters (m:Int)=z.name:=by unfold qOD;rw [if_pos hC];simp [hz]
     conv=>whnf
     refine⟨fun _=>?_,fun hx=>absurd (((decide_eq_true hC.1)).symm.trans hx) (by decide)⟩
     repeat((conv=>whnf);first|apply qza|apply qzb|apply qzc|apply qzd|apply qze|intro(_:Nat)|intro(_:OA)_)
     conv=>whnf
     refine⟨fun _=>?_,fun hx=>absurd (((decide_eq_true hC.2)).symm.trans hx) (by decide)⟩
     repeat((conv=>whnf);first|apply qza|apply qzb|apply qzc|apply qzd|apply qze|intro(_:Nat)|intro(_:OA)_)
     conv=>whnf
     refine⟨aC,rfl,⟨hC.1,hC.2⟩,?_⟩
     conv=>whnf
     refine⟨_,hcC 0 _ rfl,?_⟩
     repeat((conv=>whnf);first|apply qza|apply qzb|apply qzc|apply qzd|apply qze|intro(_:Nat)|intro(_:OA)_)
     conv=>whnf
     refine⟨⟨by unfold maxLen;omega,by omega⟩,fun oa2 cap2=>?_⟩
     repeat((conv=>whnf);first|apply qza|apply qzb|apply qzc|apply qzd|apply qze|intro(_:Nat)|intro(_:OA)_)
     conv=>whnf
     refine fun fr w hw=>⟨(k+1,oa2,cap2),congrArg (fun z=>[Value.int .i64 z]) (wr1 h' b1 b2).symm,h',dec h',hw.fit ?_⟩
     simp only [hT]
     simp [fitL,Res.eqv,qAA,conc,qZC,hAn,hCn]
    have hCn:qOD s.clusters rc=⟨#[]⟩:=by unfold qOD;rw [if_neg hC]
    by_cases hC0:0≤rc
    ·conv=>whnf
     refine⟨fun _=>?_,fun hx=>absurd (((decide_eq_true hC0)).symm.trans hx) (by decide)⟩
     repeat((conv=>whnf);first|apply qza|apply qzb|apply qzc|apply qzd|apply qze|intro(_:Nat)|intro(_:OA)_)
     conv=>whnf
     refine⟨fun hx=>absurd (hx.symm.trans ((decide_eq_false (show ¬ rc<s.clusters.length from fun h=>hC ⟨hC0,h⟩)))) (by decide),fun _=>?_⟩
     repeat((conv=>whnf);first|apply qza|apply qzb|apply qzc|apply qzd|apply qze|intro(_:Nat)|intro(_:OA)_)
     conv=>whnf
     refine⟨⟨by unfold maxLen;omega,by omega⟩,fun oa2 cap2=>?_⟩
     repeat((conv=>whnf);first|apply qza|apply qzb|apply qzc|apply qzd|apply qze|intro(_:Nat)|intro(_:OA)_)
     conv=>whnf
     refine fun fr w hw=>⟨(k+1,oa2,cap2),congrArg (fun z=>[Value.int .i64 z]) (wr1 h' b1 b2).symm,h',dec h',hw.fit ?_⟩
     simp only [hT]
     simp [fitL,Res.eqv,qAA,conc,qZC,hAn,hCn]
    ·conv=>whnf
     refine⟨fun hx=>absurd (hx.symm.trans ((decide_eq_false hC0))) (by decide),fun _=>?_⟩
     repeat((conv=>whnf);first|apply qza|apply qzb|apply qzc|apply qzd|apply qze|intro(_:Nat)|intro(_:OA)_)
     conv=>whnf
     refine⟨⟨by unfold maxLen;omega,by omega⟩,fun oa2 cap2=>?_⟩
     repeat((conv=>whnf);first|apply qza|apply qzb|apply qzc|apply qzd|apply qze|intro(_:Nat)|intro(_:OA)_)
     conv=>whnf
     refine fun fr w hw=>⟨(k+1,oa2,cap2),congrArg (fun z=>[Value.int .i64 z]) (wr1 h' b1 b2).symm,h',dec h',hw.fit ?_⟩
     simp only [hT]
     simp [fitL,Res.eqv,qAA,conc,qZC,hAn,hCn]
  have hz1:k=s.rules.length:=by have:=of_decide_eq_false hlt;omega
  subst hz1
  repeat((conv=>whnf);first|apply qza|apply qzb|apply qzc|apply qzd|apply qze|intro(_:Nat)|intro(_:OA)_)
  conv=>whnf
  refine fun g1 hg1 hn1 hp1=>?_
  conv=>whnf
  intro g2 hg
  refine⟨_,_,_,rfl,(qmL hp1.rd (quE s).routes qoP ?_ (by simp [quE]) (fun _ _=>rfl) fun _ _=>rfl).mono qxH hg⟩
  rw [List.take_of_length_le (Nat.le_refl _)];simp [quE,List.map_map,Function.comp_def])
/- What is the same. -/
open Go.Proofs.Ytkbbljngpglnkaa.Sx Go.RowKit
/- Snapshots: the document's building;whether one is right;what is found. -/
open Go.Proofs.Ytkbbljngpglnkaa.Sx Go.RowKit
theorem qjP (g:GW) {cs:List Value} {s:Snap} (hs:qwH g cs s) (hsz:s.rules.length≤1000000):OkV Try.prog qKO [.agg ⟨cs⟩] g (.bool (eqB (qzA (quE s)) none)):=by
 have hs0:=hs
 obtain⟨a,b,d,rfl,hl,hr,hk⟩:=hs
 obtain⟨oa,ca,rfl,a1,a2,a0,hl1⟩:=id hl
 obtain⟨ob,cb,rfl,b1,b2,b0,hr1⟩:=id hr
 obtain⟨od,cd,rfl,d1,d2,d0,hk1⟩:=id hk
 exact Ok.of_fn hm noT 0 qpN (args:=[.v (.agg ⟨[.slice oa s.listens.length ca,.slice ob s.rules.length cb,.slice od s.clusters.length cd]⟩)]) (by
  repeat((conv=>whnf);first|apply qza|apply qzb|apply qzc|apply qzd|apply qze|intro(_:Nat))
  conv=>whnf
  refine .inr ((qGO g hs0 hsz).mono fun v g1 hg1 hC=>?_)
  obtain⟨oR,n,cR,rfl,hrt⟩:=hC
  have hcc:qoD g1 [.slice oa s.listens.length ca,.slice oR n cR,.slice od s.clusters.length cd] (quE s):=⟨_,_,_,rfl,hl.mono qvH hg1,hrt,hk.mono qTE hg1⟩
  rcases qHL (qzA (quE s)) with ⟨hz,hv⟩|⟨e,i,hz,hv⟩
  ·conv=>whnf
   refine .inl ⟨_,(qaM _ hcc).to hv,?_⟩
   conv=>whnf
   intro g2 hg
   rw [qQQ hz];rfl
  ·have hne:=qMF hz
   conv=>whnf
   refine .inl ⟨_,(qaM _ hcc).to hv,?_⟩
   conv=>whnf
   intro g2 hg
   rw [eqB_f (by rw [hz];simp)]
   exact congrArg Value.bool (by simp;omega))
/- Snapshots: the document's answer to: is it one? -/
open Go.Proofs.Ytkbbljngpglnkaa.Sx Go.RowKit
def SnS (s:Snap):Prop:=s.rules.length≤1000000∧∀ r∈s.rules,r.host.size≤100∧r.path.size≤100
/- Slots: words with tags;which ones are free. -/
open Go.Proofs.Ytkbbljngpglnkaa.Sx Go.RowKit
theorem qgQ {w:Int} (hw:InU w):IntKind.u32.wrap w=w % 4294967296:=by
 rw [IntKind.wrap_u32]
theorem idx_wr {w:Int}:InR (w % 4294967296)∧InR (w % 4294967296-1):=by
 have h1:=Int.emod_nonneg w (show(4294967296:Int)≠0 by decide)
 have h2:=Int.emod_lt_of_pos w (show(0:Int)<4294967296 by decide)
 unfold InR;omega
theorem q6P (g:GW) {w:Int} (hw:InU w):OkV Try.prog q2L [.int .u64 w] g (.int .i64 (idxT w)) :=
 Ok.of_fn hm noT 0 qbL (args:=[.v (.int .u64 w)]) (by
  repeat((conv=>whnf);first|apply qza|apply qzb|apply qzc|apply qzd|apply qze|intro(_:Nat))
  conv=>whnf
  intro g2 hg
  rw [qgQ hw,wr idx_wr.1,show w % 4294967296+-1=w % 4294967296-1 from rfl,wr idx_wr.2];rfl)
theorem qtQ {t i:Int} (ht:0≤t∧t<4294967296) (hi:0≤i∧i<4294967296):qcN .or .u64 (t*4294967296) i=t*4294967296+i:=by
 obtain⟨a,rfl⟩:=Int.eq_ofNat_of_zero_le ht.1
 obtain⟨b,rfl⟩:=Int.eq_ofNat_of_zero_le hi.1
 have h:=Nat.shiftLeft_add_eq_or_of_lt (i:=32) (b:=b) (by omega) a
 rw [Nat.shiftLeft_eq,show(2:Nat) ^ 32=4294967296 by decide] at h
 rw [show(a:Int)*4294967296=((a*4294967296:Nat):Int) by omega]
 have e1:(BitVec.ofInt 64 ((a*4294967296:Nat):Int)).toNat=a*4294967296:=by
  rw [BitVec.ofInt_natCast,BitVec.toNat_ofNat];omega
 have e2:(BitVec.ofInt 64 (b:Int)).toNat=b:=by
  rw [BitVec.ofInt_natCast,BitVec.toNat_ofNat];omega
 show IntKind.u64.wrap ((BitVec.ofInt 64 ((a*4294967296:Nat):Int) ||| BitVec.ofInt 64 (b:Int)).toNat:Int)=_
 rw [BitVec.toNat_or,e1,e2,← h,IntWalk.u64_in _ (by omega)];omega
theorem q7O (g:GW) {t i:Int} (ht:0≤t∧t<4294967296) (hi:InR i):OkV Try.prog qKN [.int .u32 t,.int .i64 i] g (.tuple #[.int .u64 (if qsF i then t*4294967296+(i+1) else 0),.int .i64 (if qsF i then 0 else 1)]) :=
 Ok.of_fn hm noT 0 qtM (args:=[.v (.int .u32 t),.v (.int .i64 i)]) (by
  repeat((conv=>whnf);first|apply qza|apply qzb|apply qzc|apply qzd|apply qze|intro(_:Nat))
  conv=>whnf
  refine⟨fun h=>?_,fun h=>?_⟩
  ·repeat((conv=>whnf);first|apply qza|apply qzb|apply qzc|apply qzd|apply qze|intro(_:Nat))
   conv=>whnf
   intro g2 hg
   have:qsF i=false:=by unfold qsF;have:=of_decide_eq_true h;simp;omega
   rw [this];rfl
  ·repeat((conv=>whnf);first|apply qza|apply qzb|apply qzc|apply qzd|apply qze|intro(_:Nat))
   conv=>whnf
   refine⟨fun h2=>?_,fun h2=>?_⟩
   ·repeat((conv=>whnf);first|apply qza|apply qzb|apply qzc|apply qzd|apply qze|intro(_:Nat))
    conv=>whnf
    intro g2 hg
    have:qsF i=false:=by unfold qsF;have:=of_decide_eq_true h2;simp;omega
    rw [this];rfl
   ·repeat((conv=>whnf);first|apply qza|apply qzb|apply qzc|apply qzd|apply qze|intro(_:Nat))
    conv=>whnf
    refine⟨by decide,?_⟩
    repeat((conv=>whnf);first|apply qza|apply qzb|apply qzc|apply qzd|apply qze|intro(_:Nat))
    conv=>whnf
    intro g2 hg
    have h1:=of_decide_eq_false h
    have h2:=of_decide_eq_false h2
    have:qsF i=true:=by unfold qsF;simp;omega
    rw [this]
    have e1:IntKind.u64.wrap t=t:=IntWalk.u64_in t (by omega)
    have e2:IntKind.u64.wrap (t*2 ^ min (Int.toNat 32) IntKind.u64.bits)=t*4294967296:=by
     rw [show(2:Int) ^ min (Int.toNat 32) IntKind.u64.bits=4294967296 by decide];exact IntWalk.u64_in _ (by omega)
    have e3:IntKind.u64.wrap (IntKind.i64.wrap (i - -1))=i+1:=by rw [wr (by unfold InR;omega)];exact IntWalk.u64_in _ (by omega)
    rw [e1,e2,e3,qtQ ht (by omega)];rfl)
def tCh:List (Nat×FnI):=[(qqJ,qkG),(qBI,qIF)]
theorem qnQ:qaH Try.prog tCh:=by
 intro x hx
 simp only [tCh,List.mem_cons,List.not_mem_nil,or_false] at hx
 rcases hx with rfl|rfl
 ·exact⟨_,_,qXJ⟩
 ·exact⟨_,_,qmH⟩
def qhN (e:EndC) (v:Value) (g':GW):Prop:=match qbE e with
 | none=>v=.tuple #[.slice none 0 0,.int .i64 11]
 | some l=>∃ oa cap,v=.tuple #[.slice oa l.length cap,.int .i64 0]∧rSl 1 rInt g' (.slice oa l.length cap) l
abbrev cInt (l:List Int):List Value:=l.map fun x=>Value.int .i64 x
theorem q8O (g:GW) {cs:List Value} {e:EndC} (he:rEn g cs e):Ok Try.prog qqK [.agg ⟨cs⟩] g (qhN e):=by
 obtain⟨⟨n,rfl,hH,hA,hN⟩,hsz⟩:=he
 obtain⟨oa,ca,rfl,a1,a2,a0,hr⟩:=id hN
 exact Ok.of_fn hm qnQ 2 qKK (args:=[.v (.agg ⟨[.int .u64 e.head,.slice oa e.next.length ca,.int .i64 e.active]⟩)]) (by
  repeat((conv=>whnf);first|apply qza|apply qzb|apply qzc|apply qzd|apply qze|intro(_:Nat)|intro(_:OA)_)
  conv=>whnf
  refine⟨qMI,fun lp rr=>?_⟩
  repeat((conv=>whnf);first|apply qza|apply qzb|apply qzc|apply qzd|apply qze|intro(_:Nat)|intro(_:OA)_)
  conv=>whnf
  refine⟨⟨by omega,by omega,by omega,by omega⟩,fun _=>?_⟩
  repeat((conv=>whnf);first|apply qza|apply qzb|apply qzc|apply qzd|apply qze|intro(_:Nat)|intro(_:OA)_)
  conv=>whnf
  refine .inl ⟨_,q6P _ hH,?_⟩
  rename_i q0 q1 q2 q3 q4 q5
  repeat((conv=>whnf);first|apply qza|apply qzb|apply qzc|apply qzd|apply qze|intro(_:Nat)|intro(_:OA)_)
  conv=>whnf
  refine⟨Int×List Int×Option Addr×Nat,fun (i,_,_,_)=>[.v (.int .i64 i)],fun (_,out,oX,cX)=>⟨g,[.row 7 oX out.length cX q4A 1 (cInt out),.row 6 (some ⟨q5,0,none⟩) e.next.length e.next.length qzG 1 (q2E e.next.length out),.lp 5 lp rr .ready,.blk 4 q4 qZA [.v (.int .u64 e.head),.v (.slice oa e.next.length ca),.v (.int .i64 e.active)],.blk 3 q3 qyD [.row 7 oX out.length cX],.blk 2 q2 qJK [.v (.int .i64 0)],.blk 1 q1 qyD [.v (.slice none 0 0)],.blk 0 q0 qZA [.v (.int .u64 e.head),.v (.slice oa e.next.length ca),.v (.int .i64 e.active)]],40,g.w.heap.size⟩,fun (i,out,_,_)=>InR i∧out.Nodup∧(∀ x∈out,0≤x∧x<e.next.length)∧qNF e.next (e.next.length+1-out.length) out i=qbE e,fun (_,out,_,_)=>e.next.length-out.length,?_,?_⟩
  ·intro fr w hw
   exact⟨(idxT e.head,[],none,0),rfl,⟨by have:=qPP e.head;unfold InR;omega,List.nodup_nil,by simp,rfl⟩,(hw.nil_row (nx':=40) 7 q4A 1).fit (by simp [fitL,Res.eqv,qAA,conc,quN])⟩
  rintro⟨i,out,oX,cX⟩ ⟨hi,hnd,hin,hch⟩
  repeat((conv=>whnf);first|apply qza|apply qzb|apply qzc|apply qzd|apply qze|intro(_:Nat)|intro(_:OA)_)
  conv=>whnf
  refine⟨fun h1=>?_,fun h1=>?_⟩
  ·have hne:i≠-1:=by simpa using h1
   have hbad:(i<0∨(e.next.length:Int)≤i∨i∈out)→qbE e=none:=fun hb=>by
    have hlen:=qBF hnd hin
    rw [show e.next.length+1-out.length=(e.next.length-out.length)+1 by omega] at hch
    simp only [qNF,if_neg hne,if_pos hb] at hch
    exact hch.symm
   repeat((conv=>whnf);first|apply qza|apply qzb|apply qzc|apply qzd|apply qze|intro(_:Nat)|intro(_:OA)_)
   conv=>whnf
   refine⟨fun h2=>?_,fun h2=>?_⟩
   ·repeat((conv=>whnf);first|apply qza|apply qzb|apply qzc|apply qzd|apply qze|intro(_:Nat)|intro(_:OA)_)
    conv=>whnf
    refine⟨fun _=>?_,fun h=>nomatch h⟩
    repeat((conv=>whnf);first|apply qza|apply qzb|apply qzc|apply qzd|apply qze|intro(_:Nat)|intro(_:OA)_)
    conv=>whnf
    intro g2 hg
    unfold qhN
    rw [hbad (.inl (by simpa using h2))]
   ·repeat((conv=>whnf);first|apply qza|apply qzb|apply qzc|apply qzd|apply qze|intro(_:Nat)|intro(_:OA)_)
    conv=>whnf
    refine⟨fun h3=>?_,fun h3=>?_⟩
    ·repeat((conv=>whnf);first|apply qza|apply qzb|apply qzc|apply qzd|apply qze|intro(_:Nat)|intro(_:OA)_)
     conv=>whnf
     refine⟨fun _=>?_,fun h=>nomatch h⟩
     repeat((conv=>whnf);first|apply qza|apply qzb|apply qzc|apply qzd|apply qze|intro(_:Nat)|intro(_:OA)_)
     conv=>whnf
     intro g2 hg
     unfold qhN
     rw [hbad (.inr (.inl (by simpa using h3)))]
    ·have hi0:0≤i∧i<e.next.length:=by simp at h2 h3;omega
     have hsg:=qvN (n:=e.next.length) (out:=out) hi0
     obtain⟨y,hy⟩:=qDA (l:=e.next) (i:=i.toNat) (by omega)
     obtain⟨a,rfl,ec,hec,⟨rfl,hyr⟩,hc⟩:=hr i.toNat y hy
     repeat((conv=>whnf);first|apply qza|apply qzb|apply qzc|apply qzd|apply qze|intro(_:Nat)|intro(_:OA)_)
     conv=>whnf
     refine⟨hi0,?_⟩
     repeat((conv=>whnf);first|apply qza|apply qzb|apply qzc|apply qzd|apply qze|intro(_:Nat)|intro(_:OA)_)
     conv=>whnf
     refine⟨_,by simpa using hsg,?_⟩
     repeat((conv=>whnf);first|apply qza|apply qzb|apply qzc|apply qzd|apply qze|intro(_:Nat)|intro(_:OA)_)
     conv=>whnf
     refine⟨fun h4=>?_,fun h4=>?_⟩
     ·repeat((conv=>whnf);first|apply qza|apply qzb|apply qzc|apply qzd|apply qze|intro(_:Nat)|intro(_:OA)_)
      conv=>whnf
      refine⟨fun _=>?_,fun h=>nomatch h⟩
      repeat((conv=>whnf);first|apply qza|apply qzb|apply qzc|apply qzd|apply qze|intro(_:Nat)|intro(_:OA)_)
      conv=>whnf
      intro g2 hg
      unfold qhN
      rw [hbad (.inr (.inr (by simpa using h4)))]
     ·have h4':i ∉ out:=by simpa using h4
      have hnd2:(out++[i]).Nodup:=List.nodup_append.2 ⟨hnd,by simp,fun a ha b hb hab=>h4' (by simp at hb;rw [← hb,← hab];exact ha)⟩
      have hin2:∀ x∈out++[i],0≤x∧x<e.next.length:=fun x hx=>by
       rcases List.mem_append.1 hx with hx|hx
       ·exact hin x hx
       ·simp at hx;subst hx;exact hi0
      have hlen2:=qBF hnd2 hin2
      have hset:=qtN (out:=out) hi0
      simp only [List.length_append,List.length_cons,List.length_nil] at hlen2
      repeat((conv=>whnf);first|apply qza|apply qzb|apply qzc|apply qzd|apply qze|intro(_:Nat)|intro(_:OA)_)
      conv=>whnf
      refine⟨hi0,?_⟩
      repeat((conv=>whnf);first|apply qza|apply qzb|apply qzc|apply qzd|apply qze|intro(_:Nat)|intro(_:OA)_)
      conv=>whnf
      refine⟨⟨by rw [qTK];omega,by decide⟩,?_⟩
      repeat((conv=>whnf);first|apply qza|apply qzb|apply qzc|apply qzd|apply qze|intro(_:Nat)|intro(_:OA)_)
      conv=>whnf
      refine⟨fun hx=>absurd hx (by simp;omega),fun _=>?_⟩
      repeat((conv=>whnf);first|apply qza|apply qzb|apply qzc|apply qzd|apply qze|intro(_:Nat)|intro(_:OA)_)
      conv=>whnf
      refine⟨fun hx=>absurd hx (by simp;omega),fun _=>?_⟩
      repeat((conv=>whnf);first|apply qza|apply qzb|apply qzc|apply qzd|apply qze|intro(_:Nat)|intro(_:OA)_)
      conv=>whnf
      refine⟨⟨by unfold maxLen;omega,by omega⟩,fun oa2 cap2=>?_⟩
      repeat((conv=>whnf);first|apply qza|apply qzb|apply qzc|apply qzd|apply qze|intro(_:Nat)|intro(_:OA)_)
      conv=>whnf
      refine⟨a,rfl,hi0,?_⟩
      conv=>whnf
      refine⟨_,hc 0 _ rfl,?_⟩
      repeat((conv=>whnf);first|apply qza|apply qzb|apply qzc|apply qzd|apply qze|intro(_:Nat)|intro(_:OA)_)
      conv=>whnf
      refine fun fr w hw=>⟨(y,out++[i],oa2,cap2),rfl,⟨hyr,hnd2,hin2,?_⟩,by simp only [List.length_append,List.length_cons,List.length_nil];omega,?_⟩
      ·rw [show e.next.length+1-out.length=(e.next.length+1-(out++[i]).length)+1 by simp;omega] at hch
       simp only [qNF,if_neg hne,if_neg (show ¬ (i<0∨(e.next.length:Int)≤i∨i∈out) by rintro(h|h|h);omega;omega;exact h4' h)] at hch
       rw [← hch]
       unfold nxtL
       rw [hy];rfl
      ·have hset2:List.take i.toNat (q2E e.next.length out)++Value.bool true :: List.drop (i.toNat+1) (q2E e.next.length out)=q2E e.next.length (out++[i]):=by rw [← hset];simp
       exact hw.fit (by simp [fitL,Res.eqv,qAA,conc,hset2])
  ·have hi1:i=-1:=by simpa using h1
   subst hi1
   have hlen:=qBF hnd hin
   rw [show e.next.length+1-out.length=(e.next.length-out.length)+1 by omega] at hch
   simp only [qNF,if_true] at hch
   repeat((conv=>whnf);first|apply qza|apply qzb|apply qzc|apply qzd|apply qze|intro(_:Nat)|intro(_:OA)_)
   conv=>whnf
   refine⟨fun h=>(nomatch h),fun _=>?_⟩
   conv=>whnf
   refine⟨fun _=>?_,fun h=>nomatch h⟩
   repeat((conv=>whnf);first|apply qza|apply qzb|apply qzc|apply qzd|apply qze|intro(_:Nat)|intro(_:OA)_)
   conv=>whnf
   refine fun g1 hg1 hn1 hp1=>?_
   repeat((conv=>whnf);first|apply qza|apply qzb|apply qzc|apply qzd|apply qze|intro(_:Nat)|intro(_:OA)_)
   conv=>whnf
   intro g2 hg
   unfold qhN
   rw [← hch]
   exact⟨oX,cX,rfl,(q8E hp1.rd out (fun x=>.int .i64 x) rfl fun x hx=>⟨rfl,by have:=hin x hx;unfold InR;omega⟩).mono qnB hg⟩)
theorem q7P (g:GW) {cs:List Value} {e:EndC} (he:rEn g cs e):OkV Try.prog qLN [.agg ⟨cs⟩] g (.bool (endB e)):=by
 have he0:=he
 obtain⟨⟨n,rfl,hH,hA,hN⟩,hsz⟩:=he
 obtain⟨oa,ca,rfl,a1,a2,a0,hr⟩:=id hN
 exact Ok.of_fn hm noT 0 quM (args:=[.v (.agg ⟨[.int .u64 e.head,.slice oa e.next.length ca,.int .i64 e.active]⟩)]) (by
  repeat((conv=>whnf);first|apply qza|apply qzb|apply qzc|apply qzd|apply qze|intro(_:Nat))
  refine .inr ((q8O _ he0).mono fun v g1 hg1 hF=>?_)
  unfold qhN at hF
  unfold endB
  cases hf:qbE e with
  | none =>
   rw [hf] at hF
   subst hF
   repeat((conv=>whnf);first|apply qza|apply qzb|apply qzc|apply qzd|apply qze|intro(_:Nat))
   conv=>whnf
   refine⟨fun h=>(nomatch h),fun _=>?_⟩
   repeat((conv=>whnf);first|apply qza|apply qzb|apply qzc|apply qzd|apply qze|intro(_:Nat))
   conv=>whnf
   intro g2 hg
   rfl
  | some l =>
   rw [hf] at hF
   obtain⟨oX,cX,rfl,_⟩:=hF
   repeat((conv=>whnf);first|apply qza|apply qzb|apply qzc|apply qzd|apply qze|intro(_:Nat))
   conv=>whnf
   refine⟨fun _=>?_,fun h=>nomatch h⟩
   repeat((conv=>whnf);first|apply qza|apply qzb|apply qzc|apply qzd|apply qze|intro(_:Nat))
   conv=>whnf
   refine⟨fun h1=>?_,fun h1=>?_⟩
   ·repeat((conv=>whnf);first|apply qza|apply qzb|apply qzc|apply qzd|apply qze|intro(_:Nat))
    conv=>whnf
    refine⟨fun h2=>?_,fun h2=>?_⟩
    ·repeat((conv=>whnf);first|apply qza|apply qzb|apply qzc|apply qzd|apply qze|intro(_:Nat))
     conv=>whnf
     intro g2 hg
     have k1:=of_decide_eq_true h1
     have k2:=of_decide_eq_true h2
     rw [decide_eq_true (show 1≤e.next.length by omega),decide_eq_true (show e.next.length≤4 by omega)];rfl
    ·repeat((conv=>whnf);first|apply qza|apply qzb|apply qzc|apply qzd|apply qze|intro(_:Nat))
     conv=>whnf
     intro g2 hg
     have k2:=of_decide_eq_false h2
     rw [decide_eq_false (show ¬ e.next.length≤4 by omega)];simp
   ·repeat((conv=>whnf);first|apply qza|apply qzb|apply qzc|apply qzd|apply qze|intro(_:Nat))
    conv=>whnf
    intro g2 hg
    have k1:=of_decide_eq_false h1
    rw [decide_eq_false (show ¬ 1≤e.next.length by omega)];simp)
/- Worlds: limbo,listeners,counts: are they right? -/
open Go.Proofs.Ytkbbljngpglnkaa.Sx Go.RowKit
def tPl:List (Nat×FnI):=[(q7A,qTA),(qEI,qKF)]
theorem qjQ:qaH Try.prog tPl:=by
 intro x hx
 simp only [tPl,List.mem_cons,List.not_mem_nil,or_false] at hx
 rcases hx with rfl|rfl
 ·exact⟨_,_,q5A⟩
 ·exact⟨_,_,qpH⟩
theorem q3H (g:GW) {v:Value} {l:List Listen} (hl:rSl 4 qCB g v l) (s:BA):OkV Try.prog quJ [v,.string s] g (.int .i64 (qNB l s)) :=
 Ok.of_fn hm qjQ 2 qbJ (args:=[.v v,.v (.string s)]) (by
  obtain⟨oa,cap,rfl,h1,h2,h0,hr⟩:=hl
  repeat((conv=>whnf);first|apply qza|apply qzb|apply qzc|apply qzd|apply qze|intro(_:Nat))
  conv=>whnf
  refine⟨Nat,fun k=>[.v (.int .i64 k)],fun k=>⟨g,[.blk 0 _ _ [.v (.string s)]],_,_⟩,fun k=>k≤l.length∧Pass (idxF fun (x:Listen)=>bs x.name==bs s) l k,fun k=>l.length-k,qSA 0 rfl ⟨Nat.zero_le _,Pass.zero _ _⟩ rfl,?_⟩
  rintro k ⟨hk,hp⟩
  conv=>whnf
  refine⟨fun hlt=>?_,fun hlt=>?_⟩
  ·have h':k<l.length:=by have:=of_decide_eq_true hlt;omega
   obtain⟨x,hx⟩:=qDA h'
   obtain⟨a,rfl,ec,hec,⟨rfl,_⟩,hc⟩:=hr k x hx
   conv=>whnf
   refine⟨a,rfl,⟨by omega,by omega⟩,?_⟩
   conv=>whnf
   refine⟨_,⟨rfl,hc⟩,?_⟩
   conv=>whnf
   refine⟨qOI,?_⟩
   repeat((conv=>whnf);first|apply qza|apply qzb|apply qzc|apply qzd|apply qze|intro(_:Nat))
   conv=>whnf
   refine⟨fun he=>?_,fun he=>?_⟩
   ·conv=>whnf
    intro g2 hg
    rw [qNB,q0J hp hx he]
   ·conv=>whnf
    refine fun fr w hw=>⟨k+1,congrArg (fun z=>[Value.int .i64 z]) (wr1 h' h1 h2).symm,⟨h',qeH hp hx he⟩,dec h',?_⟩
    exact hw.fit (by simp [fitL,Res.eqv,qAA,conc])
  ·conv=>whnf
   intro g2 hg
   have:=of_decide_eq_false hlt
   rw [qNB,qfG hp (by omega)])
theorem qxQ (g:GW) {cs:List Value} {x:Listen} (hx:qCB g cs x):OkV Try.prog qON [.agg ⟨cs⟩] g (.bool (q2J x)):=by
 obtain⟨rfl,hA⟩:=hx
 exact Ok.of_fn hm noT 0 qxM (args:=[.v (.agg ⟨[.string x.name,.bool x.drain,.int .i64 x.active,.bool x.closed]⟩)]) (by
  repeat((conv=>whnf);first|apply qza|apply qzb|apply qzc|apply qzd|apply qze|intro(_:Nat))
  repeat'((conv=>whnf);first|apply qza|apply qzb|apply qzc|apply qzd|apply qze|intro(_:Nat)|refine .inl ⟨_,q4F _ _,?_⟩|refine⟨fun _=>?_,fun _=>?_⟩|fail)
  all_goals (conv=>whnf)
  all_goals (intro g2 hg)
  all_goals (unfold q2J;simp_all;try (intros;omega)))
theorem q4M {c:List (List Int)} {r:List Int} (hr:r∈c) (h:r.length≠6):q5D c=false:=by
 unfold q5D
 rw [show(c.all fun r=>decide (r.length=6))=false from List.all_eq_false.2 ⟨r,hr,by simpa using h⟩];rfl
theorem qwQ (g:GW) {v:Value} {l:List (List Int)} (hl:rSl 1 rRow g v l):OkV Try.prog qMN [v] g (.bool (q5D l)) :=
 Ok.of_fn hm noT 0 qvM (args:=[.v v]) (by
  obtain⟨oa,cap,rfl,h1,h2,h0,hr⟩:=hl
  repeat((conv=>whnf);first|apply qza|apply qzb|apply qzc|apply qzd|apply qze|intro(_:Nat))
  conv=>whnf
  refine⟨Nat,fun k=>[.v (.int .i64 k)],fun k=>⟨g,[],_,_⟩,fun k=>k≤l.length∧(l.take k).all (fun r=>decide (r.length=6))=true,fun k=>l.length-k,qSA 0 rfl ⟨Nat.zero_le _,by simp⟩ rfl,?_⟩
  rintro k ⟨hk,hp⟩
  repeat((conv=>whnf);first|apply qza|apply qzb|apply qzc|apply qzd|apply qze|intro(_:Nat))
  conv=>whnf
  refine⟨fun hlt=>?_,fun hlt=>?_⟩
  ·have h':k<l.length:=by have:=of_decide_eq_true hlt;omega
   obtain⟨x,hx⟩:=qDA h'
   obtain⟨a,rfl,ec,hec,⟨n,rfl,hn⟩,hc⟩:=hr k x hx
   obtain⟨ox,cx,rfl,x1,x2,x0,hx1⟩:=id hn
   repeat((conv=>whnf);first|apply qza|apply qzb|apply qzc|apply qzd|apply qze|intro(_:Nat))
   conv=>whnf
   refine⟨a,rfl,⟨by omega,by omega⟩,?_⟩
   conv=>whnf
   refine⟨_,hc 0 _ rfl,?_⟩
   repeat((conv=>whnf);first|apply qza|apply qzb|apply qzc|apply qzd|apply qze|intro(_:Nat))
   conv=>whnf
   refine⟨fun he=>?_,fun he=>?_⟩
   ·repeat((conv=>whnf);first|apply qza|apply qzb|apply qzc|apply qzd|apply qze|intro(_:Nat))
    conv=>whnf
    intro g2 hg
    rw [q4M (List.mem_of_getElem? hx) (by have h9:(x.length:Int)≠6:=bneT he;omega)]
   ·repeat((conv=>whnf);first|apply qza|apply qzb|apply qzc|apply qzd|apply qze|intro(_:Nat))
    conv=>whnf
    refine fun fr w hw=>⟨k+1,congrArg (fun z=>[Value.int .i64 z]) (wr1 h' h1 h2).symm,⟨h',?_⟩,dec h',hw⟩
    obtain⟨c1,c2⟩:=List.getElem?_eq_some_iff.1 hx
    rw [qYF c1,hp,c2]
    have:(x.length:Int)=6:=by simpa using he
    simp;omega
  ·have hkL:=of_decide_eq_false hlt
   rw [List.take_of_length_le (by omega)] at hp
   repeat((conv=>whnf);first|apply qza|apply qzb|apply qzc|apply qzd|apply qze|intro(_:Nat))
   conv=>whnf
   refine⟨fun hz=>?_,fun hz=>?_⟩
   ·repeat((conv=>whnf);first|apply qza|apply qzb|apply qzc|apply qzd|apply qze|intro(_:Nat))
    conv=>whnf
    intro g2 hg
    have:=of_decide_eq_true hz
    unfold q5D
    rw [hp,decide_eq_true (show 1≤l.length by omega)];simp;omega
   ·repeat((conv=>whnf);first|apply qza|apply qzb|apply qzc|apply qzd|apply qze|intro(_:Nat))
    conv=>whnf
    intro g2 hg
    have:=of_decide_eq_false hz
    unfold q5D
    rw [hp,decide_eq_false (show ¬ 1≤l.length by omega)];rfl)
/- Worlds: limbo: is it right? -/
open Go.Proofs.Ytkbbljngpglnkaa.Sx Go.RowKit
def tLh:List (Nat×FnI):=[(qlA,qOA),(qwA,qQA),(qtJ,qmG)]
theorem qlQ:qaH Try.prog tLh:=by
 intro x hx
 simp only [tLh,List.mem_cons,List.not_mem_nil,or_false] at hx
 rcases hx with rfl|rfl|rfl
 ·exact⟨_,_,qjA⟩
 ·exact⟨_,_,quA⟩
 ·exact⟨_,_,qaJ⟩
theorem q9P (g:GW) {v:Value} {l:List Retired} (hl:rSl 3 qpA g v l) (n:Int):OkV Try.prog q6L [v,.int .i64 n] g (.bool (l.any fun r=>r.version==n)) :=
 Ok.of_fn hm qlQ 3 qfL (args:=[.v v,.v (.int .i64 n)]) (by
  obtain⟨oa,cap,rfl,h1,h2,h0,hr⟩:=hl
  repeat((conv=>whnf);first|apply qza|apply qzb|apply qzc|apply qzd|apply qze|intro(_:Nat))
  conv=>whnf
  refine⟨Nat,fun k=>[.v (.int .i64 k)],fun k=>⟨g,[.blk 0 _ _ [.v (.int .i64 n)]],_,_⟩,fun k=>k≤l.length∧Pass (idxF fun (x:Retired)=>x.version==n) l k,fun k=>l.length-k,qSA 0 rfl ⟨Nat.zero_le _,Pass.zero _ _⟩ rfl,?_⟩
  rintro k ⟨hk,hp⟩
  conv=>whnf
  refine⟨fun hlt=>?_,fun hlt=>?_⟩
  ·have h':k<l.length:=by have:=of_decide_eq_true hlt;omega
   obtain⟨x,hx⟩:=qDA h'
   obtain⟨a,rfl,ec,hec,⟨rfl,_⟩,hc⟩:=hr k x hx
   conv=>whnf
   refine⟨a,rfl,⟨by omega,by omega⟩,?_⟩
   conv=>whnf
   refine⟨_,⟨rfl,hc⟩,?_⟩
   conv=>whnf
   refine⟨qzJ,?_⟩
   repeat((conv=>whnf);first|apply qza|apply qzb|apply qzc|apply qzd|apply qze|intro(_:Nat))
   conv=>whnf
   refine⟨fun he=>?_,fun he=>?_⟩
   ·conv=>whnf
    intro g2 hg
    have:(l.any fun r=>r.version==n)=true:=List.any_eq_true.2 ⟨x,List.mem_of_getElem? hx,he⟩
    rw [this];simp
   ·conv=>whnf
    refine fun fr w hw=>⟨k+1,congrArg (fun z=>[Value.int .i64 z]) (wr1 h' h1 h2).symm,⟨h',qeH hp hx he⟩,dec h',?_⟩
    exact hw.fit (by simp [fitL,Res.eqv,qAA,conc])
  ·conv=>whnf
   intro g2 hg
   have:=of_decide_eq_false hlt
   have h3:=qCM (fun (x:Retired)=>x.version==n) l
   rw [qfG hp (by omega)] at h3
   rw [← h3])
theorem qvQ (g:GW) {v:Value} {l:List Retired} (hl:rSl 3 qpA g v l):OkV Try.prog qNN [v] g (.bool (qmE l)) :=
 Ok.of_fn hm noT 0 qwM (args:=[.v v]) (by
  obtain⟨oa,cap,rfl,h1,h2,h0,hr⟩:=id hl
  repeat((conv=>whnf);first|apply qza|apply qzb|apply qzc|apply qzd|apply qze|intro(_:Nat))
  conv=>whnf
  refine⟨Nat,fun k=>[.v (.int .i64 k)],fun k=>⟨g,[],_,_⟩,fun k=>k≤l.length∧AllK (retB l) l k,fun k=>l.length-k,qSA 0 rfl ⟨Nat.zero_le _,AllK.zero _ _⟩ rfl,?_⟩
  rintro k ⟨hk,hp⟩
  conv=>whnf
  refine⟨fun hlt=>?_,fun hlt=>?_⟩
  ·have h':k<l.length:=by have:=of_decide_eq_true hlt;omega
   obtain⟨x,hx⟩:=qDA h'
   obtain⟨a,rfl,ec,hec,⟨rfl,_⟩,hc⟩:=hr k x hx
   repeat((conv=>whnf);first|apply qza|apply qzb|apply qzc|apply qzd|apply qze|intro(_:Nat))
   conv=>whnf
   refine⟨a,rfl,⟨by omega,by omega⟩,?_⟩
   conv=>whnf
   refine⟨_,⟨rfl,hc⟩,?_⟩
   repeat((conv=>whnf);first|apply qza|apply qzb|apply qzc|apply qzd|apply qze|intro(_:Nat))
   conv=>whnf
   refine⟨fun b1=>?_,fun b1=>?_⟩
   ·repeat((conv=>whnf);first|apply qza|apply qzb|apply qzc|apply qzd|apply qze|intro(_:Nat))
    conv=>whnf
    intro g2 hg
    have b1':=of_decide_eq_true b1
    exact congrArg Value.bool (qtA hx (by unfold retB;rw [decide_eq_false (by omega)];rfl)).symm
   ·have b1':=of_decide_eq_false b1
    repeat((conv=>whnf);first|apply qza|apply qzb|apply qzc|apply qzd|apply qze|intro(_:Nat))
    conv=>whnf
    refine⟨fun b2=>?_,fun b2=>?_⟩
    ·repeat((conv=>whnf);first|apply qza|apply qzb|apply qzc|apply qzd|apply qze|intro(_:Nat))
     conv=>whnf
     intro g2 hg
     have b2':=of_decide_eq_true b2
     exact congrArg Value.bool (qtA hx (by unfold retB;rw [decide_eq_false (show ¬ 0≤x.at_ by omega)];simp)).symm
    ·have b2':=of_decide_eq_false b2
     repeat((conv=>whnf);first|apply qza|apply qzb|apply qzc|apply qzd|apply qze|intro(_:Nat))
     conv=>whnf
     refine⟨⟨by omega,by omega⟩,?_⟩
     repeat((conv=>whnf);first|apply qza|apply qzb|apply qzc|apply qzd|apply qze|intro(_:Nat))
     conv=>whnf
     refine .inl ⟨_,q9P _ (rSl.take hl hk) _,?_⟩
     repeat((conv=>whnf);first|apply qza|apply qzb|apply qzc|apply qzd|apply qze|intro(_:Nat))
     conv=>whnf
     refine⟨fun b3=>?_,fun b3=>?_⟩
     ·repeat((conv=>whnf);first|apply qza|apply qzb|apply qzc|apply qzd|apply qze|intro(_:Nat))
      conv=>whnf
      intro g2 hg
      exact congrArg Value.bool (qtA hx (by unfold retB;rw [b3];simp)).symm
     ·repeat((conv=>whnf);first|apply qza|apply qzb|apply qzc|apply qzd|apply qze|intro(_:Nat))
      conv=>whnf
      refine fun fr w hw=>⟨k+1,congrArg (fun z=>[Value.int .i64 z]) (wr1 h' h1 h2).symm,⟨h',hp.succ hx ?_⟩,dec h',?_⟩
      ·unfold retB
       rw [b3,decide_eq_true (show 0≤x.version by omega),decide_eq_true (show 0≤x.at_ by omega)];rfl
      ·exact hw.fit (by simp [fitL,Res.eqv,qAA,conc])
  ·repeat((conv=>whnf);first|apply qza|apply qzb|apply qzc|apply qzd|apply qze|intro(_:Nat))
   conv=>whnf
   intro g2 hg
   have:=of_decide_eq_false hlt
   exact congrArg Value.bool (hp.done (by omega)).symm)
end Go.Proofs.Ytkbbljngpglnkaa
