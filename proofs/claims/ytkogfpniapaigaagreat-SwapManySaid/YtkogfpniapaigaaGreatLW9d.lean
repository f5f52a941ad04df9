/- Snapshots: the document's answer to: is it one? -/
import Derived.Test.YtkogfpniapaigaaGreatLS7
import Derived.Test.YtkogfpniapaigaaGreatLB1
import Derived.Test.YtkogfpniapaigaaGreatPl
set_option linter.unusedVariables false
set_option linter.unusedSimpArgs false
namespace Go.Proofs.YtkogfpniapaigaaGreat
open Go.Proofs.YtkogfpniapaigaaGreat.Sx Go.RowKit
set_option maxHeartbeats 16000000
set_option maxRecDepth 100000
theorem qMP (g:GW) {a b d:Value} {s:Snap} (hs:qnF g [a,b,d] s) (hsz:s.rules.length≤1000000):Ok Tryz.prog qvF [.agg ⟨[a,b,d]⟩] g fun v g'=>∃ oa n cap,v=.agg ⟨[a,.slice oa n cap,d]⟩∧rSl 4 qrK g' (.slice oa n cap) (qIC s).routes:=by
 obtain⟨_,_,_,he,hl,hr,hk⟩:=hs
 cases he
 obtain⟨oa,ca,rfl,a1,a2,a0,hl1⟩:=id hl
 obtain⟨ob,cb,rfl,b1,b2,b0,hr1⟩:=id hr
 obtain⟨od,cd,rfl,d1,d2,d0,hk1⟩:=id hk
 exact Ok.of_fn hm noT 0 qeF (args:=[.v (.agg ⟨[.slice oa s.listens.length ca,.slice ob s.rules.length cb,.slice od s.clusters.length cd]⟩)]) (by
  repeat((conv=>whnf);first|apply qza|apply qzb|apply qzc|apply qzd|apply qze|intro(_:Nat)|intro(_:OA)_)
  rename_i p0 p1 p2
  conv=>whnf
  refine⟨Nat×Option Addr×Nat,fun (k,_,_)=>[.v (.int .i64 k)],fun (k,oR,cR)=>⟨g,[.row 10 oR k cR qJC 4 ((s.rules.take k).map (cRou s)).flatten,.blk 2 p2 qtA [.v (.slice oa s.listens.length ca),.row 10 oR k cR,.v (.slice od s.clusters.length cd)],.blk 1 p1 qtA [.v (.slice none 0 0),.v (.slice none 0 0),.v (.slice none 0 0)],.blk 0 p0 qPA [.v (.slice oa s.listens.length ca),.v (.slice ob s.rules.length cb),.v (.slice od s.clusters.length cd)]],40,g.w.heap.size⟩,fun (k,_,_)=>k≤s.rules.length,fun (k,_,_)=>s.rules.length-k,?_,?_⟩
  ·intro fr w hw
   exact⟨(0,none,0),rfl,Nat.zero_le _,(hw.nil_row (nx':=40) 10 qJC 4).fit (by simp [fitL,Res.eqv,qAA,conc])⟩
  rintro⟨k,oR,cR⟩ hkk
  have hkk:k≤s.rules.length:=hkk
  repeat((conv=>whnf);first|apply qza|apply qzb|apply qzc|apply qzd|apply qze|intro(_:Nat)|intro(_:OA)_)
  conv=>whnf
  refine⟨fun hlt=>?_,fun hlt=>?_⟩
  ·have h':k<s.rules.length:=by have:=of_decide_eq_true hlt;omega
   obtain⟨⟨rl,rh,rp,rc⟩,hx⟩:=qBA h'
   obtain⟨a,rfl,ec,hec,⟨rfl,_,_⟩,hc⟩:=hr1 k _ hx
   have hT:=qPK (f:=cRou s) hx
   repeat((conv=>whnf);first|apply qza|apply qzb|apply qzc|apply qzd|apply qze|intro(_:Nat)|intro(_:OA)_)
   conv=>whnf
   refine⟨a,rfl,⟨by omega,by omega⟩,?_⟩
   conv=>whnf
   refine⟨_,⟨rfl,hc⟩,?_⟩
   repeat((conv=>whnf);first|apply qza|apply qzb|apply qzc|apply qzd|apply qze|intro(_:Nat)|intro(_:OA)_)
   by_cases hA:0≤rl∧rl<s.listens.length
   ·obtain⟨n,rfl⟩:=Int.eq_ofNat_of_zero_le hA.1
    obtain⟨y,hy⟩:=qBA (show n<s.listens.length by omega)
    obtain⟨aL,rfl,ecL,hecL,rfl,hcL⟩:=hl1 n y hy
    have hAn:qsF s.listens (n:Int)=y:=by unfold qsF;rw [if_pos hA];simp [hy]
    conv=>whnf
    refine⟨fun _=>?_,fun hx=>absurd (((decide_eq_true hA.1)).symm.trans hx) (by decide)⟩
    repeat((conv=>whnf);first|apply qza|apply qzb|apply qzc|apply qzd|apply qze|intro(_:Nat)|intro(_:OA)_)
    conv=>whnf
    refine⟨fun _=>?_,fun hx=>absurd (((decide_eq_true hA.2)).symm.trans hx) (by decide)⟩
    repeat((conv=>whnf);first|apply qza|apply qzb|apply qzc|apply qzd|apply qze|intro(_:Nat)|intro(_:OA)_)
    conv=>whnf
    refine⟨aL,rfl,⟨hA.1,hA.2⟩,?_⟩
    conv=>whnf
    refine⟨_,hcL 0 _ rfl,?_⟩
    repeat((conv=>whnf);first|apply qza|apply qzb|apply qzc|apply qzd|apply qze|intro(_:Nat)|intro(_:OA)_)
    by_cases hC:0≤rc∧rc<s.clusters.length
    ·obtain⟨m,rfl⟩:=Int.eq_ofNat_of_zero_le hC.1
     obtain⟨z,hz⟩:=qBA (show m<s.clusters.length by omega)
     obtain⟨aC,rfl,ecC,hecC,⟨hv,rfl,_,_,_,_,rfl,_⟩,hcC⟩:=hk1 m z hz
     have hCn:q7A s.clusters (m:Int)=z.name:=by unfold q7A;rw [if_pos hC];simp [hz]
     conv=>whnf
     refine⟨fun _=>?_,fun hx=>absurd (((decide_eq_true hC.1)).symm.trans hx) (by decide)⟩
     repeat((conv=>whnf);first|apply qza|apply qzb|apply qzc|apply qzd|apply qze|intro(_:Nat)|intro(_:OA)_)
     conv=>whnf
     refine⟨fun _=>?_,fun hx=>absurd (((decide_eq_true hC.2)).symm.trans hx) (by decide)⟩
     repeat((conv=>whnf);first|apply qza|apply qzb|apply qzc|apply qzd|apply qze|intro(_:Nat)|intro(_:OA)_)
     conv=>whnf
     refine⟨aC,rfl,⟨hC.1,hC.2⟩,?_⟩
     conv=>whnf
     refine⟨_,hcC 0 _ rfl,?_⟩
     repeat((conv=>whnf);first|apply qza|apply qzb|apply qzc|apply qzd|apply qze|intro(_:Nat)|intro(_:OA)_)
     conv=>whnf
     refine⟨⟨by unfold maxLen;omega,by omega⟩,fun oa2 cap2=>?_⟩
     repeat((conv=>whnf);first|apply qza|apply qzb|apply qzc|apply qzd|apply qze|intro(_:Nat)|intro(_:OA)_)
     conv=>whnf
     refine fun fr w hw=>⟨(k+1,oa2,cap2),congrArg (fun z=>[Value.int .i64 z]) (wr1 h' b1 b2).symm,h',dec h',hw.fit ?_⟩
     simp only [hT]
     simp [fitL,Res.eqv,qAA,conc,quA,hAn,hCn]
    have hCn:q7A s.clusters rc=⟨#[]⟩:=by unfold q7A;rw [if_neg hC]
    by_cases hC0:0≤rc
    ·conv=>whnf
     refine⟨fun _=>?_,fun hx=>absurd (((decide_eq_true hC0)).symm.trans hx) (by decide)⟩
     repeat((conv=>whnf);first|apply qza|apply qzb|apply qzc|apply qzd|apply qze|intro(_:Nat)|intro(_:OA)_)
     conv=>whnf
     refine⟨fun hx=>absurd (hx.symm.trans ((decide_eq_false (show ¬ rc<s.clusters.length from fun h=>hC ⟨hC0,h⟩)))) (by decide),fun _=>?_⟩
     repeat((conv=>whnf);first|apply qza|apply qzb|apply qzc|apply qzd|apply qze|intro(_:Nat)|intro(_:OA)_)
     conv=>whnf
     refine⟨⟨by unfold maxLen;omega,by omega⟩,fun oa2 cap2=>?_⟩
     repeat((conv=>whnf);first|apply qza|apply qzb|apply qzc|apply qzd|apply qze|intro(_:Nat)|intro(_:OA)_)
     conv=>whnf
     refine fun fr w hw=>⟨(k+1,oa2,cap2),congrArg (fun z=>[Value.int .i64 z]) (wr1 h' b1 b2).symm,h',dec h',hw.fit ?_⟩
     simp only [hT]
     simp [fitL,Res.eqv,qAA,conc,quA,hAn,hCn]
    ·conv=>whnf
     refine⟨fun hx=>absurd (hx.symm.trans ((decide_eq_false hC0))) (by decide),fun _=>?_⟩
     repeat((conv=>whnf);first|apply qza|apply qzb|apply qzc|apply qzd|apply qze|intro(_:Nat)|intro(_:OA)_)
     conv=>whnf
     refine⟨⟨by unfold maxLen;omega,by omega⟩,fun oa2 cap2=>?_⟩
     repeat((conv=>whnf);first|apply qza|apply qzb|apply qzc|apply qzd|apply qze|intro(_:Nat)|intro(_:OA)_)
     conv=>whnf
     refine fun fr w hw=>⟨(k+1,oa2,cap2),congrArg (fun z=>[Value.int .i64 z]) (wr1 h' b1 b2).symm,h',dec h',hw.fit ?_⟩
     simp only [hT]
     simp [fitL,Res.eqv,qAA,conc,quA,hAn,hCn]
   have hAn:qsF s.listens rl=⟨#[]⟩:=by unfold qsF;rw [if_neg hA]
   by_cases hA0:0≤rl
   ·conv=>whnf
    refine⟨fun _=>?_,fun hx=>absurd (((decide_eq_true hA0)).symm.trans hx) (by decide)⟩
    repeat((conv=>whnf);first|apply qza|apply qzb|apply qzc|apply qzd|apply qze|intro(_:Nat)|intro(_:OA)_)
    conv=>whnf
    refine⟨fun hx=>absurd (hx.symm.trans ((decide_eq_false (show ¬ rl<s.listens.length from fun h=>hA ⟨hA0,h⟩)))) (by decide),fun _=>?_⟩
    repeat((conv=>whnf);first|apply qza|apply qzb|apply qzc|apply qzd|apply qze|intro(_:Nat)|intro(_:OA)_)
    by_cases hC:0≤rc∧rc<s.clusters.length
    ·obtain⟨m,rfl⟩:=Int.eq_ofNat_of_zero_le hC.1
     obtain⟨z,hz⟩:=qBA (show m<s.clusters.length by omega)
     obtain⟨aC,rfl,ecC,hecC,⟨hv,rfl,_,_,_,_,rfl,_⟩,hcC⟩:=hk1 m z hz
     have hCn:q7A s.clusters (m:Int)=z.name:=by unfold q7A;rw [if_pos hC];simp [hz]
     conv=>whnf
     refine⟨fun _=>?_,fun hx=>absurd (((decide_eq_true hC.1)).symm.trans hx) (by decide)⟩
     repeat((conv=>whnf);first|apply qza|apply qzb|apply qzc|apply qzd|apply qze|intro(_:Nat)|intro(_:OA)_)
     conv=>whnf
     refine⟨fun _=>?_,fun hx=>absurd (((decide_eq_true hC.2)).symm.trans hx) (by decide)⟩
     repeat((conv=>whnf);first|apply qza|apply qzb|apply qzc|apply qzd|apply qze|intro(_:Nat)|intro(_:OA)_)
     conv=>whnf
     refine⟨aC,rfl,⟨hC.1,hC.2⟩,?_⟩
     conv=>whnf
     refine⟨_,hcC 0 _ rfl,?_⟩
     repeat((conv=>whnf);first|apply qza|apply qzb|apply qzc|apply qzd|apply qze|intro(_:Nat)|intro(_:OA)_)
     conv=>whnf
     refine⟨⟨by unfold maxLen;omega,by omega⟩,fun oa2 cap2=>?_⟩
     repeat((conv=>whnf);first|apply qza|apply qzb|apply qzc|apply qzd|apply qze|intro(_:Nat)|intro(_:OA)_)
     conv=>whnf
     refine fun fr w hw=>⟨(k+1,oa2,cap2),congrArg (fun z=>[Value.int .i64 z]) (wr1 h' b1 b2).symm,h',dec h',hw.fit ?_⟩
     simp only [hT]
     simp [fitL,Res.eqv,qAA,conc,quA,hAn,hCn]
    have hCn:q7A s.clusters rc=⟨#[]⟩:=by unfold q7A;rw [if_neg hC]
    by_cases hC0:0≤rc
    ·conv=>whnf
     refine⟨fun _=>?_,fun hx=>absurd (((decide_eq_true hC0)).symm.trans hx) (by decide)⟩
     repeat((conv=>whnf);first|apply qza|apply qzb|apply qzc|apply qzd|apply qze|intro(_:Nat)|intro(_:OA)_)
     conv=>whnf
     refine⟨fun hx=>absurd (hx.symm.trans ((decide_eq_false (show ¬ rc<s.clusters.length from fun h=>hC ⟨hC0,h⟩)))) (by decide),fun _=>?_⟩
     repeat((conv=>whnf);first|apply qza|apply qzb|apply qzc|apply qzd|apply qze|intro(_:Nat)|intro(_:OA)_)
     conv=>whnf
     refine⟨⟨by unfold maxLen;omega,by omega⟩,fun oa2 cap2=>?_⟩
     repeat((conv=>whnf);first|apply qza|apply qzb|apply qzc|apply qzd|apply qze|intro(_:Nat)|intro(_:OA)_)
     conv=>whnf
     refine fun fr w hw=>⟨(k+1,oa2,cap2),congrArg (fun z=>[Value.int .i64 z]) (wr1 h' b1 b2).symm,h',dec h',hw.fit ?_⟩
     simp only [hT]
     simp [fitL,Res.eqv,qAA,conc,quA,hAn,hCn]
    ·conv=>whnf
     refine⟨fun hx=>absurd (hx.symm.trans ((decide_eq_false hC0))) (by decide),fun _=>?_⟩
     repeat((conv=>whnf);first|apply qza|apply qzb|apply qzc|apply qzd|apply qze|intro(_:Nat)|intro(_:OA)_)
     conv=>whnf
     refine⟨⟨by unfold maxLen;omega,by omega⟩,fun oa2 cap2=>?_⟩
     repeat((conv=>whnf);first|apply qza|apply qzb|apply qzc|apply qzd|apply qze|intro(_:Nat)|intro(_:OA)_)
     conv=>whnf
     refine fun fr w hw=>⟨(k+1,oa2,cap2),congrArg (fun z=>[Value.int .i64 z]) (wr1 h' b1 b2).symm,h',dec h',hw.fit ?_⟩
     simp only [hT]
     simp [fitL,Res.eqv,qAA,conc,quA,hAn,hCn]
   ·conv=>whnf
    refine⟨fun hx=>absurd (hx.symm.trans ((decide_eq_false hA0))) (by decide),fun _=>?_⟩
    repeat((conv=>whnf);first|apply qza|apply qzb|apply qzc|apply qzd|apply qze|intro(_:Nat)|intro(_:OA)_)
    by_cases hC:0≤rc∧rc<s.clusters.length
    ·obtain⟨m,rfl⟩:=Int.eq_ofNat_of_zero_le hC.1
     obtain⟨z,hz⟩:=qBA (show m<s.clusters.length by omega)
     obtain⟨aC,rfl,ecC,hecC,⟨hv,rfl,_,_,_,_,rfl,_⟩,hcC⟩:=hk1 m z hz
     have hCn:q7A s.clusters (m:Int)=z.name:=by unfold q7A;rw [if_pos hC];simp [hz]
     conv=>whnf
     refine⟨fun _=>?_,fun hx=>absurd (((decide_eq_true hC.1)).symm.trans hx) (by decide)⟩
     repeat((conv=>whnf);first|apply qza|apply qzb|apply qzc|apply qzd|apply qze|intro(_:Nat)|intro(_:OA)_)
     conv=>whnf
     refine⟨fun _=>?_,fun hx=>absurd (((decide_eq_true hC.2)).symm.trans hx) (by decide)⟩
     repeat((conv=>whnf);first|apply qza|apply qzb|apply qzc|apply qzd|apply qze|intro(_:Nat)|intro(_:OA)_)
     conv=>whnf
     refine⟨aC,rfl,⟨hC.1,hC.2⟩,?_⟩
     conv=>whnf
     refine⟨_,hcC 0 _ rfl,?_⟩
     repeat((conv=>whnf);first|apply qza|apply qzb|apply qzc|apply qzd|apply qze|intro(_:Nat)|intro(_:OA)_)
     conv=>whnf
     refine⟨⟨by unfold maxLen;omega,by omega⟩,fun oa2 cap2=>?_⟩
     repeat((conv=>whnf);first|apply qza|apply qzb|apply qzc|apply qzd|apply qze|intro(_:Nat)|intro(_:OA)_)
     conv=>whnf
     refine fun fr w hw=>⟨(k+1,oa2,cap2),congrArg (fun z=>[Value.int .i64 z]) (wr1 h' b1 b2).symm,h',dec h',hw.fit ?_⟩
     simp only [hT]
     simp [fitL,Res.eqv,qAA,conc,quA,hAn,hCn]
    have hCn:q7A s.clusters rc=⟨#[]⟩:=by unfold q7A;rw [if_neg hC]
    by_cases hC0:0≤rc
    ·conv=>whnf
     refine⟨fun _=>?_,fun hx=>absurd (((decide_eq_true hC0)).symm.trans hx) (by decide)⟩
     repeat((conv=>whnf);first|apply qza|apply qzb|apply qzc|apply qzd|apply qze|intro(_:Nat)|intro(_:OA)_)
     conv=>whnf
     refine⟨fun hx=>absurd (hx.symm.trans ((decide_eq_false (show ¬ rc<s.clusters.length from fun h=>hC ⟨hC0,h⟩)))) (by decide),fun _=>?_⟩
     repeat((conv=>whnf);first|apply qza|apply qzb|apply qzc|apply qzd|apply qze|intro(_:Nat)|intro(_:OA)_)
     conv=>whnf
     refine⟨⟨by unfold maxLen;omega,by omega⟩,fun oa2 cap2=>?_⟩
     repeat((conv=>whnf);first|apply qza|apply qzb|apply qzc|apply qzd|apply qze|intro(_:Nat)|intro(_:OA)_)
     conv=>whnf
     refine fun fr w hw=>⟨(k+1,oa2,cap2),congrArg (fun z=>[Value.int .i64 z]) (wr1 h' b1 b2).symm,h',dec h',hw.fit ?_⟩
     simp only [hT]
     simp [fitL,Res.eqv,qAA,conc,quA,hAn,hCn]
    ·conv=>whnf
     refine⟨fun hx=>absurd (hx.symm.trans ((decide_eq_false hC0))) (by decide),fun _=>?_⟩
     repeat((conv=>whnf);first|apply qza|apply qzb|apply qzc|apply qzd|apply qze|intro(_:Nat)|intro(_:OA)_)
     conv=>whnf
     refine⟨⟨by unfold maxLen;omega,by omega⟩,fun oa2 cap2=>?_⟩
     repeat((conv=>whnf);first|apply qza|apply qzb|apply qzc|apply qzd|apply qze|intro(_:Nat)|intro(_:OA)_)
     conv=>whnf
     refine fun fr w hw=>⟨(k+1,oa2,cap2),congrArg (fun z=>[Value.int .i64 z]) (wr1 h' b1 b2).symm,h',dec h',hw.fit ?_⟩
     simp only [hT]
     simp [fitL,Res.eqv,qAA,conc,quA,hAn,hCn]
  have hz1:k=s.rules.length:=by have:=of_decide_eq_false hlt;omega
  subst hz1
  repeat((conv=>whnf);first|apply qza|apply qzb|apply qzc|apply qzd|apply qze|intro(_:Nat)|intro(_:OA)_)
  conv=>whnf
  refine fun g1 hg1 hn1 hp1=>?_
  conv=>whnf
  intro g2 hg
  refine⟨_,_,_,rfl,(qNJ hp1.rd (qIC s).routes qgS ?_ (by simp [qIC]) (fun _ _=>rfl) fun _ _=>rfl).mono qeH hg⟩
  rw [List.take_of_length_le (Nat.le_refl _)];simp [qIC,List.map_map,Function.comp_def])
def SnS (s:Snap):Prop:=s.rules.length≤1000000∧∀ r∈s.rules,r.host.size≤100∧r.path.size≤100
theorem SnS.conf {s:Snap} (h:SnS s):SmC (qIC s):=by
 intro r hr
 simp only [qIC,List.mem_map] at hr
 obtain⟨x,hx,rfl⟩:=hr
 exact h.2 x hx
theorem qyR (g:GW) {cs:List Value} {s:Snap} (hs:qnF g cs s) (hsn:SnS s):OkV Tryz.prog qcJ [.agg ⟨cs⟩] g (.bool (eqB (qHA (qIC s)) none)):=by
 have hsz:=hsn.1
 have hs0:=hs
 obtain⟨a,b,d,rfl,hl,hr,hk⟩:=hs
 obtain⟨oa,ca,rfl,a1,a2,a0,hl1⟩:=id hl
 obtain⟨ob,cb,rfl,b1,b2,b0,hr1⟩:=id hr
 obtain⟨od,cd,rfl,d1,d2,d0,hk1⟩:=id hk
 exact Ok.of_fn hm noT 0 qIJ (args:=[.v (.agg ⟨[.slice oa s.listens.length ca,.slice ob s.rules.length cb,.slice od s.clusters.length cd]⟩)]) (by
  repeat((conv=>whnf);first|apply qza|apply qzb|apply qzc|apply qzd|apply qze|intro(_:Nat))
  conv=>whnf
  refine .inr ((qMP g hs0 hsz).mono fun v g1 hg1 hC=>?_)
  obtain⟨oR,n,cR,rfl,hrt⟩:=hC
  have hcc:qcA g1 [.slice oa s.listens.length ca,.slice oR n cR,.slice od s.clusters.length cd] (qIC s):=⟨_,_,_,rfl,hl.mono qBE hg1,hrt,hk.mono qWC hg1⟩
  rcases qAG (qHA (qIC s)) with ⟨hz,hv⟩|⟨e,i,hz,hv⟩
  ·conv=>whnf
   refine .inl ⟨_,(qdI _ hcc hsn.conf).to hv,?_⟩
   conv=>whnf
   intro g2 hg
   rw [qOK hz];rfl
  ·have hne:=q8A hz
   conv=>whnf
   refine .inl ⟨_,(qdI _ hcc hsn.conf).to hv,?_⟩
   conv=>whnf
   intro g2 hg
   rw [quL (by rw [hz];simp)]
   exact congrArg Value.bool (by simp;omega))
/- Slots: words with tags;which ones are free. -/
open Go.Proofs.YtkogfpniapaigaaGreat.Sx Go.RowKit
theorem q4U {w:Int} (hw:InU w):IntKind.u32.wrap w=w % 4294967296:=by
 rw [IntKind.wrap_u32]
theorem idx_wr {w:Int}:InR (w % 4294967296)∧InR (w % 4294967296-1):=by
 have h1:=Int.emod_nonneg w (show(4294967296:Int)≠0 by decide)
 have h2:=Int.emod_lt_of_pos w (show(0:Int)<4294967296 by decide)
 unfold InR;omega
theorem qOU (g:GW) {w:Int} (hw:InU w):OkV Tryz.prog qYP [.int .u64 w] g (.int .i64 (idxT w)) :=
 Ok.of_fn hm noT 0 qyO (args:=[.v (.int .u64 w)]) (by
  repeat((conv=>whnf);first|apply qza|apply qzb|apply qzc|apply qzd|apply qze|intro(_:Nat))
  conv=>whnf
  intro g2 hg
  rw [q4U hw,wr idx_wr.1,show w % 4294967296+-1=w % 4294967296-1 from rfl,wr idx_wr.2];rfl)
theorem qUU (g:GW) {w:Int} (hw:InU w):OkV Tryz.prog qpG [.int .u64 w] g (.int .i64 (idxT w)) :=
 Ok.of_fn hm noT 0 qaG (args:=[.v (.int .u64 w)]) (by
  repeat((conv=>whnf);first|apply qza|apply qzb|apply qzc|apply qzd|apply qze|intro(_:Nat))
  conv=>whnf
  refine⟨by decide,?_⟩
  repeat((conv=>whnf);first|apply qza|apply qzb|apply qzc|apply qzd|apply qze|intro(_:Nat))
  conv=>whnf
  intro g2 hg
  rw [Int.tmod_eq_emod_of_nonneg hw.1,wr idx_wr.1,wr idx_wr.2];rfl)
theorem qRV {t i:Int} (ht:0≤t∧t<4294967296) (hi:0≤i∧i<4294967296):qKR .or .u64 (t*4294967296) i=t*4294967296+i:=by
 obtain⟨a,rfl⟩:=Int.eq_ofNat_of_zero_le ht.1
 obtain⟨b,rfl⟩:=Int.eq_ofNat_of_zero_le hi.1
 have h:=Nat.shiftLeft_add_eq_or_of_lt (i:=32) (b:=b) (by omega) a
 rw [Nat.shiftLeft_eq,show(2:Nat) ^ 32=4294967296 by decide] at h
 rw [show(a:Int)*4294967296=((a*4294967296:Nat):Int) by omega]
 have e1:(BitVec.ofInt 64 ((a*4294967296:Nat):Int)).toNat=a*4294967296:=by
  rw [BitVec.ofInt_natCast,BitVec.toNat_ofNat];omega
 have e2:(BitVec.ofInt 64 (b:Int)).toNat=b:=by
  rw [BitVec.ofInt_natCast,BitVec.toNat_ofNat];omega
 show IntKind.u64.wrap ((BitVec.ofInt 64 ((a*4294967296:Nat):Int) ||| BitVec.ofInt 64 (b:Int)).toNat:Int)=_
 rw [BitVec.toNat_or,e1,e2,← h,IntWalk.u64_in _ (by omega)];omega
theorem qDT (g:GW) {t i:Int} (ht:0≤t∧t<4294967296) (hi:InR i):OkV Tryz.prog qxQ [.int .u32 t,.int .i64 i] g (.tuple #[.int .u64 (if qCH i then t*4294967296+(i+1) else 0),.int .i64 (if qCH i then 0 else 1)]) :=
 Ok.of_fn hm noT 0 qVQ (args:=[.v (.int .u32 t),.v (.int .i64 i)]) (by
  repeat((conv=>whnf);first|apply qza|apply qzb|apply qzc|apply qzd|apply qze|intro(_:Nat))
  conv=>whnf
  refine⟨fun h=>?_,fun h=>?_⟩
  ·repeat((conv=>whnf);first|apply qza|apply qzb|apply qzc|apply qzd|apply qze|intro(_:Nat))
   conv=>whnf
   intro g2 hg
   have:qCH i=false:=by unfold qCH;have:=of_decide_eq_true h;simp;omega
   rw [this];rfl
  ·repeat((conv=>whnf);first|apply qza|apply qzb|apply qzc|apply qzd|apply qze|intro(_:Nat))
   conv=>whnf
   refine⟨fun h2=>?_,fun h2=>?_⟩
   ·repeat((conv=>whnf);first|apply qza|apply qzb|apply qzc|apply qzd|apply qze|intro(_:Nat))
    conv=>whnf
    intro g2 hg
    have:qCH i=false:=by unfold qCH;have:=of_decide_eq_true h2;simp;omega
    rw [this];rfl
   ·repeat((conv=>whnf);first|apply qza|apply qzb|apply qzc|apply qzd|apply qze|intro(_:Nat))
    conv=>whnf
    refine⟨by decide,?_⟩
    repeat((conv=>whnf);first|apply qza|apply qzb|apply qzc|apply qzd|apply qze|intro(_:Nat))
    conv=>whnf
    intro g2 hg
    have h1:=of_decide_eq_false h
    have h2:=of_decide_eq_false h2
    have:qCH i=true:=by unfold qCH;simp;omega
    rw [this]
    have e1:IntKind.u64.wrap t=t:=IntWalk.u64_in t (by omega)
    have e2:IntKind.u64.wrap (t*2 ^ min (Int.toNat 32) IntKind.u64.bits)=t*4294967296:=by
     rw [show(2:Int) ^ min (Int.toNat 32) IntKind.u64.bits=4294967296 by decide];exact IntWalk.u64_in _ (by omega)
    have e3:IntKind.u64.wrap (IntKind.i64.wrap (i - -1))=i+1:=by rw [wr (by unfold InR;omega)];exact IntWalk.u64_in _ (by omega)
    rw [e1,e2,e3,qRV ht (by omega)];rfl)
def tCh:List (Nat×FnI):=[(q3M,qtI),(q6K,q4F)]
theorem qIV:qDG Tryz.prog tCh:=by
 intro x hx
 simp only [tCh,List.mem_cons,List.not_mem_nil,or_false] at hx
 rcases hx with rfl|rfl
 ·exact⟨_,_,qZM⟩
 ·exact⟨_,_,qhK⟩
def qvJ (e:EndC) (v:Value) (g':GW):Prop:=match qID e with
 | none=>v=.tuple #[.slice none 0 0,.int .i64 11]
 | some l=>∃ oa cap,v=.tuple #[.slice oa l.length cap,.int .i64 0]∧rSl 1 rInt g' (.slice oa l.length cap) l
abbrev cInt (l:List Int):List Value:=l.map fun x=>Value.int .i64 x
theorem qAQ (g:GW) {cs:List Value} {e:EndC} (he:rEn g cs e):Ok Tryz.prog qFO [.agg ⟨cs⟩] g (qvJ e):=by
 obtain⟨⟨n,rfl,hH,hA,hN⟩,hsz⟩:=he
 obtain⟨oa,ca,rfl,a1,a2,a0,hr⟩:=id hN
 exact Ok.of_fn hm qIV 2 qeN (args:=[.v (.agg ⟨[.int .u64 e.head,.slice oa e.next.length ca,.int .i64 e.active]⟩)]) (by
  repeat((conv=>whnf);first|apply qza|apply qzb|apply qzc|apply qzd|apply qze|intro(_:Nat)|intro(_:OA)_)
  conv=>whnf
  refine⟨qEL,fun lp rr=>?_⟩
  repeat((conv=>whnf);first|apply qza|apply qzb|apply qzc|apply qzd|apply qze|intro(_:Nat)|intro(_:OA)_)
  conv=>whnf
  refine⟨⟨by omega,by omega,by omega,by omega⟩,fun _=>?_⟩
  repeat((conv=>whnf);first|apply qza|apply qzb|apply qzc|apply qzd|apply qze|intro(_:Nat)|intro(_:OA)_)
  conv=>whnf
  refine .inl ⟨_,qOU _ hH,?_⟩
  rename_i q0 q1 q2 q3 q4 q5
  repeat((conv=>whnf);first|apply qza|apply qzb|apply qzc|apply qzd|apply qze|intro(_:Nat)|intro(_:OA)_)
  conv=>whnf
  refine⟨Int×List Int×Option Addr×Nat,fun (i,_,_,_)=>[.v (.int .i64 i)],fun (_,out,oX,cX)=>⟨g,[.row 7 oX out.length cX qNA 1 (cInt out),.row 6 (some ⟨q5,0,none⟩) e.next.length e.next.length qGH 1 (qiF e.next.length out),.lp 5 lp rr .ready,.blk 4 q4 qSA [.v (.int .u64 e.head),.v (.slice oa e.next.length ca),.v (.int .i64 e.active)],.blk 3 q3 qzD [.row 7 oX out.length cX],.blk 2 q2 qbN [.v (.int .i64 0)],.blk 1 q1 qzD [.v (.slice none 0 0)],.blk 0 q0 qSA [.v (.int .u64 e.head),.v (.slice oa e.next.length ca),.v (.int .i64 e.active)]],40,g.w.heap.size⟩,fun (i,out,_,_)=>InR i∧out.Nodup∧(∀ x∈out,0≤x∧x<e.next.length)∧qfD e.next (e.next.length+1-out.length) out i=qID e,fun (_,out,_,_)=>e.next.length-out.length,?_,?_⟩
  ·intro fr w hw
   exact⟨(idxT e.head,[],none,0),rfl,⟨by have:=qHQ e.head;unfold InR;omega,List.nodup_nil,by simp,rfl⟩,(hw.nil_row (nx':=40) 7 qNA 1).fit (by simp [fitL,Res.eqv,qAA,conc,qhR])⟩
  rintro⟨i,out,oX,cX⟩ ⟨hi,hnd,hin,hch⟩
  repeat((conv=>whnf);first|apply qza|apply qzb|apply qzc|apply qzd|apply qze|intro(_:Nat)|intro(_:OA)_)
  conv=>whnf
  refine⟨fun h1=>?_,fun h1=>?_⟩
  ·have hne:i≠-1:=by simpa using h1
   have hbad:(i<0∨(e.next.length:Int)≤i∨i∈out)→qID e=none:=fun hb=>by
    have hlen:=qTD hnd hin
    rw [show e.next.length+1-out.length=(e.next.length-out.length)+1 by omega] at hch
    simp only [qfD,if_neg hne,if_pos hb] at hch
    exact hch.symm
   repeat((conv=>whnf);first|apply qza|apply qzb|apply qzc|apply qzd|apply qze|intro(_:Nat)|intro(_:OA)_)
   conv=>whnf
   refine⟨fun h2=>?_,fun h2=>?_⟩
   ·repeat((conv=>whnf);first|apply qza|apply qzb|apply qzc|apply qzd|apply qze|intro(_:Nat)|intro(_:OA)_)
    conv=>whnf
    refine⟨fun _=>?_,fun h=>nomatch h⟩
    repeat((conv=>whnf);first|apply qza|apply qzb|apply qzc|apply qzd|apply qze|intro(_:Nat)|intro(_:OA)_)
    conv=>whnf
    intro g2 hg
    unfold qvJ
    rw [hbad (.inl (by simpa using h2))]
   ·repeat((conv=>whnf);first|apply qza|apply qzb|apply qzc|apply qzd|apply qze|intro(_:Nat)|intro(_:OA)_)
    conv=>whnf
    refine⟨fun h3=>?_,fun h3=>?_⟩
    ·repeat((conv=>whnf);first|apply qza|apply qzb|apply qzc|apply qzd|apply qze|intro(_:Nat)|intro(_:OA)_)
     conv=>whnf
     refine⟨fun _=>?_,fun h=>nomatch h⟩
     repeat((conv=>whnf);first|apply qza|apply qzb|apply qzc|apply qzd|apply qze|intro(_:Nat)|intro(_:OA)_)
     conv=>whnf
     intro g2 hg
     unfold qvJ
     rw [hbad (.inr (.inl (by simpa using h3)))]
    ·have hi0:0≤i∧i<e.next.length:=by simp at h2 h3;omega
     have hsg:=qiR (n:=e.next.length) (out:=out) hi0
     obtain⟨y,hy⟩:=qBA (l:=e.next) (i:=i.toNat) (by omega)
     obtain⟨a,rfl,ec,hec,⟨rfl,hyr⟩,hc⟩:=hr i.toNat y hy
     repeat((conv=>whnf);first|apply qza|apply qzb|apply qzc|apply qzd|apply qze|intro(_:Nat)|intro(_:OA)_)
     conv=>whnf
     refine⟨hi0,?_⟩
     repeat((conv=>whnf);first|apply qza|apply qzb|apply qzc|apply qzd|apply qze|intro(_:Nat)|intro(_:OA)_)
     conv=>whnf
     refine⟨_,by simpa using hsg,?_⟩
     repeat((conv=>whnf);first|apply qza|apply qzb|apply qzc|apply qzd|apply qze|intro(_:Nat)|intro(_:OA)_)
     conv=>whnf
     refine⟨fun h4=>?_,fun h4=>?_⟩
     ·repeat((conv=>whnf);first|apply qza|apply qzb|apply qzc|apply qzd|apply qze|intro(_:Nat)|intro(_:OA)_)
      conv=>whnf
      refine⟨fun _=>?_,fun h=>nomatch h⟩
      repeat((conv=>whnf);first|apply qza|apply qzb|apply qzc|apply qzd|apply qze|intro(_:Nat)|intro(_:OA)_)
      conv=>whnf
      intro g2 hg
      unfold qvJ
      rw [hbad (.inr (.inr (by simpa using h4)))]
     ·have h4':i ∉ out:=by simpa using h4
      have hnd2:(out++[i]).Nodup:=List.nodup_append.2 ⟨hnd,by simp,fun a ha b hb hab=>h4' (by simp at hb;rw [← hb,← hab];exact ha)⟩
      have hin2:∀ x∈out++[i],0≤x∧x<e.next.length:=fun x hx=>by
       rcases List.mem_append.1 hx with hx|hx
       ·exact hin x hx
       ·simp at hx;subst hx;exact hi0
      have hlen2:=qTD hnd2 hin2
      have hset:=qgR (out:=out) hi0
      simp only [List.length_append,List.length_cons,List.length_nil] at hlen2
      repeat((conv=>whnf);first|apply qza|apply qzb|apply qzc|apply qzd|apply qze|intro(_:Nat)|intro(_:OA)_)
      conv=>whnf
      refine⟨hi0,?_⟩
      repeat((conv=>whnf);first|apply qza|apply qzb|apply qzc|apply qzd|apply qze|intro(_:Nat)|intro(_:OA)_)
      conv=>whnf
      refine⟨⟨by rw [qpN];omega,by decide⟩,?_⟩
      repeat((conv=>whnf);first|apply qza|apply qzb|apply qzc|apply qzd|apply qze|intro(_:Nat)|intro(_:OA)_)
      conv=>whnf
      refine⟨fun hx=>absurd hx (by simp;omega),fun _=>?_⟩
      repeat((conv=>whnf);first|apply qza|apply qzb|apply qzc|apply qzd|apply qze|intro(_:Nat)|intro(_:OA)_)
      conv=>whnf
      refine⟨fun hx=>absurd hx (by simp;omega),fun _=>?_⟩
      repeat((conv=>whnf);first|apply qza|apply qzb|apply qzc|apply qzd|apply qze|intro(_:Nat)|intro(_:OA)_)
      conv=>whnf
      refine⟨⟨by unfold maxLen;omega,by omega⟩,fun oa2 cap2=>?_⟩
      repeat((conv=>whnf);first|apply qza|apply qzb|apply qzc|apply qzd|apply qze|intro(_:Nat)|intro(_:OA)_)
      conv=>whnf
      refine⟨a,rfl,hi0,?_⟩
      conv=>whnf
      refine⟨_,hc 0 _ rfl,?_⟩
      repeat((conv=>whnf);first|apply qza|apply qzb|apply qzc|apply qzd|apply qze|intro(_:Nat)|intro(_:OA)_)
      conv=>whnf
      refine fun fr w hw=>⟨(y,out++[i],oa2,cap2),rfl,⟨hyr,hnd2,hin2,?_⟩,by simp only [List.length_append,List.length_cons,List.length_nil];omega,?_⟩
      ·rw [show e.next.length+1-out.length=(e.next.length+1-(out++[i]).length)+1 by simp;omega] at hch
       simp only [qfD,if_neg hne,if_neg (show ¬ (i<0∨(e.next.length:Int)≤i∨i∈out) by rintro(h|h|h);omega;omega;exact h4' h)] at hch
       rw [← hch]
       unfold nxtL
       rw [hy];rfl
      ·have hset2:List.take i.toNat (qiF e.next.length out)++Value.bool true :: List.drop (i.toNat+1) (qiF e.next.length out)=qiF e.next.length (out++[i]):=by rw [← hset];simp
       exact hw.fit (by simp [fitL,Res.eqv,qAA,conc,hset2])
  ·have hi1:i=-1:=by simpa using h1
   subst hi1
   have hlen:=qTD hnd hin
   rw [show e.next.length+1-out.length=(e.next.length-out.length)+1 by omega] at hch
   simp only [qfD,if_true] at hch
   repeat((conv=>whnf);first|apply qza|apply qzb|apply qzc|apply qzd|apply qze|intro(_:Nat)|intro(_:OA)_)
   conv=>whnf
   refine⟨fun h=>(nomatch h),fun _=>?_⟩
   conv=>whnf
   refine⟨fun _=>?_,fun h=>nomatch h⟩
   repeat((conv=>whnf);first|apply qza|apply qzb|apply qzc|apply qzd|apply qze|intro(_:Nat)|intro(_:OA)_)
   conv=>whnf
   refine fun g1 hg1 hn1 hp1=>?_
   repeat((conv=>whnf);first|apply qza|apply qzb|apply qzc|apply qzd|apply qze|intro(_:Nat)|intro(_:OA)_)
   conv=>whnf
   intro g2 hg
   unfold qvJ
   rw [← hch]
   exact⟨oX,cX,rfl,(qPD hp1.rd out (fun x=>.int .i64 x) rfl fun x hx=>⟨rfl,by have:=hin x hx;unfold InR;omega⟩).mono qhA hg⟩)
theorem qIP (g:GW) {cs:List Value} {e:EndC} (he:rEn g cs e):OkV Tryz.prog qyQ [.agg ⟨cs⟩] g (.bool (endB e)):=by
 have he0:=he
 obtain⟨⟨n,rfl,hH,hA,hN⟩,hsz⟩:=he
 obtain⟨oa,ca,rfl,a1,a2,a0,hr⟩:=id hN
 exact Ok.of_fn hm noT 0 qWQ (args:=[.v (.agg ⟨[.int .u64 e.head,.slice oa e.next.length ca,.int .i64 e.active]⟩)]) (by
  repeat((conv=>whnf);first|apply qza|apply qzb|apply qzc|apply qzd|apply qze|intro(_:Nat))
  refine .inr ((qAQ _ he0).mono fun v g1 hg1 hF=>?_)
  unfold qvJ at hF
  unfold endB
  cases hf:qID e with
  | none =>
   rw [hf] at hF
   subst hF
   repeat((conv=>whnf);first|apply qza|apply qzb|apply qzc|apply qzd|apply qze|intro(_:Nat))
   conv=>whnf
   refine⟨fun h=>(nomatch h),fun _=>?_⟩
   repeat((conv=>whnf);first|apply qza|apply qzb|apply qzc|apply qzd|apply qze|intro(_:Nat))
   conv=>whnf
   intro g2 hg
   rfl
  | some l =>
   rw [hf] at hF
   obtain⟨oX,cX,rfl,_⟩:=hF
   repeat((conv=>whnf);first|apply qza|apply qzb|apply qzc|apply qzd|apply qze|intro(_:Nat))
   conv=>whnf
   refine⟨fun _=>?_,fun h=>nomatch h⟩
   repeat((conv=>whnf);first|apply qza|apply qzb|apply qzc|apply qzd|apply qze|intro(_:Nat))
   conv=>whnf
   refine⟨fun h1=>?_,fun h1=>?_⟩
   ·repeat((conv=>whnf);first|apply qza|apply qzb|apply qzc|apply qzd|apply qze|intro(_:Nat))
    conv=>whnf
    refine⟨fun h2=>?_,fun h2=>?_⟩
    ·repeat((conv=>whnf);first|apply qza|apply qzb|apply qzc|apply qzd|apply qze|intro(_:Nat))
     conv=>whnf
     intro g2 hg
     have k1:=of_decide_eq_true h1
     have k2:=of_decide_eq_true h2
     rw [decide_eq_true (show 1≤e.next.length by omega),decide_eq_true (show e.next.length≤4 by omega)];rfl
    ·repeat((conv=>whnf);first|apply qza|apply qzb|apply qzc|apply qzd|apply qze|intro(_:Nat))
     conv=>whnf
     intro g2 hg
     have k2:=of_decide_eq_false h2
     rw [decide_eq_false (show ¬ e.next.length≤4 by omega)];simp
   ·repeat((conv=>whnf);first|apply qza|apply qzb|apply qzc|apply qzd|apply qze|intro(_:Nat))
    conv=>whnf
    intro g2 hg
    have k1:=of_decide_eq_false h1
    rw [decide_eq_false (show ¬ 1≤e.next.length by omega)];simp)
def tA14:List (Nat×FnI):=[(qgI,qpD)]
theorem qCU:qDG Tryz.prog tA14:=by
 intro x hx
 simp only [tA14,List.mem_cons,List.not_mem_nil,or_false] at hx
 rcases hx with rfl
 ·exact⟨_,_,qOI⟩
theorem qIT (g:GW) {cs:List Value} {e:EndC} (he:rEn g cs e):Ok Tryz.prog qrH [.agg ⟨cs⟩] g (qvJ e):=by
 obtain⟨⟨n,rfl,hH,hA,hN⟩,hsz⟩:=he
 obtain⟨oa,ca,rfl,a1,a2,a0,hr⟩:=id hN
 exact Ok.of_fn hm qCU 1 qUH (args:=[.v (.agg ⟨[.int .u64 e.head,.slice oa e.next.length ca,.int .i64 e.active]⟩)]) (by
  repeat((conv=>whnf);first|apply qza|apply qzb|apply qzc|apply qzd|apply qze|intro(_:Nat)|intro(_:OA)_)
  conv=>whnf
  refine .inl ⟨_,qUU _ hH,?_⟩
  rename_i q0 q1
  repeat((conv=>whnf);first|apply qza|apply qzb|apply qzc|apply qzd|apply qze|intro(_:Nat)|intro(_:OA)_)
  conv=>whnf
  refine⟨Int×List Int×Option Addr×Nat,fun (i,out,oX,cX)=>[.row 7 oX out.length cX,.v (.int .i64 i)],fun (_,out,oX,cX)=>⟨g,[.row 7 oX out.length cX qNA 1 (cInt out),.blk 0 q0 qSA [.v (.int .u64 e.head),.v (.slice oa e.next.length ca),.v (.int .i64 e.active)]],40,g.w.heap.size⟩,fun (i,out,_,_)=>InR i∧out.Nodup∧(∀ x∈out,0≤x∧x<e.next.length)∧qfD e.next (e.next.length+1-out.length) out i=qID e,fun (_,out,_,_)=>e.next.length-out.length,?_,?_⟩
  ·intro fr w hw
   exact⟨(idxT e.head,[],some ⟨q1,0,none⟩,0),rfl,⟨by have:=qHQ e.head;unfold InR;omega,List.nodup_nil,by simp,rfl⟩,(hw.blk_row (nx':=40) (id':=7) 0 1 rfl (by decide)).fit (by simp [fitL,Res.eqv,qAA,conc])⟩
  rintro⟨i,out,oX,cX⟩ ⟨hi,hnd,hin,hch⟩
  have hlen:=qTD hnd hin
  repeat((conv=>whnf);first|apply qza|apply qzb|apply qzc|apply qzd|apply qze|intro(_:Nat)|intro(_:OA)_)
  conv=>whnf
  refine⟨fun h1=>?_,fun h1=>?_⟩
  ·have hne:i≠-1:=by simpa using h1
   have hbad:(i<0∨(e.next.length:Int)≤i∨i∈out)→qID e=none:=fun hb=>by
    rw [show e.next.length+1-out.length=(e.next.length-out.length)+1 by omega] at hch
    simp only [qfD,if_neg hne,if_pos hb] at hch
    exact hch.symm
   repeat((conv=>whnf);first|apply qza|apply qzb|apply qzc|apply qzd|apply qze|intro(_:Nat)|intro(_:OA)_)
   conv=>whnf
   refine⟨fun h2=>?_,fun h2=>?_⟩
   ·repeat((conv=>whnf);first|apply qza|apply qzb|apply qzc|apply qzd|apply qze|intro(_:Nat)|intro(_:OA)_)
    conv=>whnf
    intro g2 hg
    unfold qvJ
    rw [hbad (.inl (by simpa using h2))]
   ·repeat((conv=>whnf);first|apply qza|apply qzb|apply qzc|apply qzd|apply qze|intro(_:Nat)|intro(_:OA)_)
    conv=>whnf
    refine⟨fun h3=>?_,fun h3=>?_⟩
    ·repeat((conv=>whnf);first|apply qza|apply qzb|apply qzc|apply qzd|apply qze|intro(_:Nat)|intro(_:OA)_)
     conv=>whnf
     intro g2 hg
     unfold qvJ
     rw [hbad (.inr (.inl (by simpa using h3)))]
    ·have hi0:0≤i∧i<e.next.length:=by simp at h2 h3;omega
     obtain⟨y,hy⟩:=qBA (l:=e.next) (i:=i.toNat) (by omega)
     obtain⟨a,rfl,ec,hec,⟨rfl,hyr⟩,hc⟩:=hr i.toNat y hy
     repeat((conv=>whnf);first|apply qza|apply qzb|apply qzc|apply qzd|apply qze|intro(_:Nat)|intro(_:OA)_)
     conv=>whnf
     refine⟨Nat,fun k=>[.v (.int .i64 k)],fun k=>⟨g,[.row 7 oX out.length cX qNA 1 (cInt out),.blk 0 q0 qSA [.v (.int .u64 e.head),.v (.slice (some a) e.next.length ca),.v (.int .i64 e.active)]],40,g.w.heap.size⟩,fun k=>k≤out.length∧∀ x∈out.take k,x≠i,fun k=>out.length-k,qDA 0 rfl ⟨Nat.zero_le _,by simp⟩ rfl,?_⟩
     rintro k ⟨hk,hp⟩
     repeat((conv=>whnf);first|apply qza|apply qzb|apply qzc|apply qzd|apply qze|intro(_:Nat)|intro(_:OA)_)
     conv=>whnf
     refine⟨fun hlt=>?_,fun hlt=>?_⟩
     ·have h':k<out.length:=by have:=of_decide_eq_true hlt;omega
      obtain⟨x,hx⟩:=qBA h'
      repeat((conv=>whnf);first|apply qza|apply qzb|apply qzc|apply qzd|apply qze|intro(_:Nat)|intro(_:OA)_)
      conv=>whnf
      refine⟨⟨by omega,by omega⟩,?_⟩
      repeat((conv=>whnf);first|apply qza|apply qzb|apply qzc|apply qzd|apply qze|intro(_:Nat)|intro(_:OA)_)
      conv=>whnf
      refine⟨.int .i64 x,by simp [hx],?_⟩
      repeat((conv=>whnf);first|apply qza|apply qzb|apply qzc|apply qzd|apply qze|intro(_:Nat)|intro(_:OA)_)
      conv=>whnf
      refine⟨fun he=>?_,fun he=>?_⟩
      ·repeat((conv=>whnf);first|apply qza|apply qzb|apply qzc|apply qzd|apply qze|intro(_:Nat)|intro(_:OA)_)
       conv=>whnf
       intro g2 hg
       unfold qvJ
       have:x=i:=by simpa using he
       rw [hbad (.inr (.inr (this▸List.mem_of_getElem? hx)))]
      ·repeat((conv=>whnf);first|apply qza|apply qzb|apply qzc|apply qzd|apply qze|intro(_:Nat)|intro(_:OA)_)
       conv=>whnf
       refine fun fr w hw=>⟨k+1,?_,⟨h',fun y hy=>?_⟩,dec h',?_⟩
       ·show [Value.int .i64 _]=_
        rw [show((k+1:Nat):Int)=(k:Int)+1 by omega]
        exact congrArg (fun z=>[Value.int .i64 z]) (wr (show InR ((k:Int)+1) by unfold InR;omega)).symm
       ·obtain⟨c1,c2⟩:=List.getElem?_eq_some_iff.1 hx
        rw [List.take_succ_eq_append_getElem c1,c2] at hy
        rcases List.mem_append.1 hy with hy|hy
        ·exact hp y hy
        ·simp at hy;subst hy;simpa using he
       ·exact hw.fit (by simp [fitL,Res.eqv,qAA,conc])
     ·have hkL:=of_decide_eq_false hlt
      rw [List.take_of_length_le (by omega)] at hp
      have h4':i ∉ out:=fun hm=>hp i hm rfl
      have hnd2:(out++[i]).Nodup:=List.nodup_append.2 ⟨hnd,by simp,fun a ha b hb hab=>h4' (by simp at hb;rw [← hb,← hab];exact ha)⟩
      have hin2:∀ x∈out++[i],0≤x∧x<e.next.length:=fun x hx=>by
       rcases List.mem_append.1 hx with hx|hx
       ·exact hin x hx
       ·simp at hx;subst hx;exact hi0
      have hlen2:=qTD hnd2 hin2
      simp only [List.length_append,List.length_cons,List.length_nil] at hlen2
      repeat((conv=>whnf);first|apply qza|apply qzb|apply qzc|apply qzd|apply qze|intro(_:Nat)|intro(_:OA)_)
      conv=>whnf
      refine⟨⟨by unfold maxLen;omega,by omega⟩,fun oa2 cap2=>?_⟩
      repeat((conv=>whnf);first|apply qza|apply qzb|apply qzc|apply qzd|apply qze|intro(_:Nat)|intro(_:OA)_)
      conv=>whnf
      refine⟨a,rfl,hi0,?_⟩
      conv=>whnf
      refine⟨_,hc 0 _ rfl,?_⟩
      repeat((conv=>whnf);first|apply qza|apply qzb|apply qzc|apply qzd|apply qze|intro(_:Nat)|intro(_:OA)_)
      conv=>whnf
      refine fun fr w hw=>⟨(y,out++[i],oa2,cap2),by simp [qAA,conc],⟨hyr,hnd2,hin2,?_⟩,by simp only [List.length_append,List.length_cons,List.length_nil];omega,hw.fit (by simp [fitL,Res.eqv,qAA,conc])⟩
      rw [show e.next.length+1-out.length=(e.next.length+1-(out++[i]).length)+1 by simp;omega] at hch
      simp only [qfD,if_neg hne,if_neg (show ¬ (i<0∨(e.next.length:Int)≤i∨i∈out) by rintro(h|h|h);omega;omega;exact h4' h)] at hch
      rw [← hch]
      unfold nxtL
      rw [hy];rfl
  ·have hi1:i=-1:=by simpa using h1
   subst hi1
   rw [show e.next.length+1-out.length=(e.next.length-out.length)+1 by omega] at hch
   simp only [qfD,if_true] at hch
   repeat((conv=>whnf);first|apply qza|apply qzb|apply qzc|apply qzd|apply qze|intro(_:Nat)|intro(_:OA)_)
   conv=>whnf
   refine fun g1 hg1 hn1 hp1=>?_
   conv=>whnf
   intro g2 hg
   unfold qvJ
   rw [← hch]
   exact⟨oX,cX,rfl,(qPD hp1.rd out (fun x=>.int .i64 x) rfl fun x hx=>⟨rfl,by have:=hin x hx;unfold InR;omega⟩).mono qhA hg⟩)
theorem qTU (g:GW) {cs:List Value} {e:EndC} (he:rEn g cs e):OkV Tryz.prog qaJ [.agg ⟨cs⟩] g (.bool (endB e)):=by
 have he0:=he
 obtain⟨⟨n,rfl,hH,hA,hN⟩,hsz⟩:=he
 obtain⟨oa,ca,rfl,a1,a2,a0,hr⟩:=id hN
 exact Ok.of_fn hm noT 0 qGJ (args:=[.v (.agg ⟨[.int .u64 e.head,.slice oa e.next.length ca,.int .i64 e.active]⟩)]) (by
  repeat((conv=>whnf);first|apply qza|apply qzb|apply qzc|apply qzd|apply qze|intro(_:Nat))
  refine .inr ((qIT _ he0).mono fun v g1 hg1 hF=>?_)
  unfold qvJ at hF
  unfold endB
  cases hf:qID e with
  | none =>
   rw [hf] at hF
   subst hF
   repeat((conv=>whnf);first|apply qza|apply qzb|apply qzc|apply qzd|apply qze|intro(_:Nat))
   conv=>whnf
   refine⟨fun h=>(nomatch h),fun _=>?_⟩
   repeat((conv=>whnf);first|apply qza|apply qzb|apply qzc|apply qzd|apply qze|intro(_:Nat))
   conv=>whnf
   intro g2 hg
   rfl
  | some l =>
   rw [hf] at hF
   obtain⟨oX,cX,rfl,_⟩:=hF
   repeat((conv=>whnf);first|apply qza|apply qzb|apply qzc|apply qzd|apply qze|intro(_:Nat))
   conv=>whnf
   refine⟨fun _=>?_,fun h=>nomatch h⟩
   repeat((conv=>whnf);first|apply qza|apply qzb|apply qzc|apply qzd|apply qze|intro(_:Nat))
   conv=>whnf
   refine⟨fun h1=>?_,fun h1=>?_⟩
   ·repeat((conv=>whnf);first|apply qza|apply qzb|apply qzc|apply qzd|apply qze|intro(_:Nat))
    conv=>whnf
    refine⟨fun h2=>?_,fun h2=>?_⟩
    ·repeat((conv=>whnf);first|apply qza|apply qzb|apply qzc|apply qzd|apply qze|intro(_:Nat))
     conv=>whnf
     intro g2 hg
     have k1:=of_decide_eq_true h1
     have k2:=of_decide_eq_true h2
     rw [decide_eq_true (show 1≤e.next.length by omega),decide_eq_true (show e.next.length≤4 by omega)];rfl
    ·repeat((conv=>whnf);first|apply qza|apply qzb|apply qzc|apply qzd|apply qze|intro(_:Nat))
     conv=>whnf
     intro g2 hg
     have k2:=of_decide_eq_false h2
     rw [decide_eq_false (show ¬ e.next.length≤4 by omega)];simp
   ·repeat((conv=>whnf);first|apply qza|apply qzb|apply qzc|apply qzd|apply qze|intro(_:Nat))
    conv=>whnf
    intro g2 hg
    have k1:=of_decide_eq_false h1
    rw [decide_eq_false (show ¬ 1≤e.next.length by omega)];simp)
end Go.Proofs.YtkogfpniapaigaaGreat
