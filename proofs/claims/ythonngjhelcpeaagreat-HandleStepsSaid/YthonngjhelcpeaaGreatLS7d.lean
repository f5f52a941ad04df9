/- Snapshots: the document's building; whether one is right; what is found. -/
import Derived.Test.YthonngjhelcpeaaGreatLR6
import Derived.Test.YthonngjhelcpeaaGreatLB1
import Derived.Test.YthonngjhelcpeaaGreatPl
set_option linter.unusedVariables false
set_option linter.unusedSimpArgs false
namespace Go.Proofs.YthonngjhelcpeaaGreat
open Go.Proofs.YthonngjhelcpeaaGreat.Sx Go.RowKit
set_option maxHeartbeats 16000000
set_option maxRecDepth 100000
theorem qdX (g:GW) {cs:List Value} {s:Snap} (hs:qRH g cs s) (hsz:s.rules.length≤1000000):OkV Tryz.prog q2V [.agg ⟨cs⟩] g (.bool (eqB (qiA (qVD s)) none)):=by
 have hs0:=hs
 obtain⟨a,b,d,rfl,hl,hr,hk⟩:=hs
 obtain⟨oa,ca,rfl,a1,a2,a0,hl1⟩:=id hl
 obtain⟨ob,cb,rfl,b1,b2,b0,hr1⟩:=id hr
 obtain⟨od,cd,rfl,d1,d2,d0,hk1⟩:=id hk
 exact Ok.of_fn hm noT 0 qOV (args:=[.v (.agg ⟨[.slice oa s.listens.length ca,.slice ob s.rules.length cb,.slice od s.clusters.length cd]⟩)]) (by
  repeat((conv=>whnf);first|refine qz ?_|intro(_:Nat))
  conv=>whnf
  refine .inr ((quV g hs0 hsz).mono fun v g1 hg1 hC=>?_)
  obtain⟨oR,n,cR,rfl,hrt⟩:=hC
  have hcc:qyB g1 [.slice oa s.listens.length ca,.slice oR n cR,.slice od s.clusters.length cd] (qVD s):=⟨_,_,_,rfl,hl.mono qQH hg1,hrt,hk.mono qvC hg1⟩
  rcases q5L (qiA (qVD s)) with ⟨hz,hv⟩|⟨e,i,hz,hv⟩
  ·conv=>whnf
   refine .inl ⟨_,(quT _ hcc).to hv,?_⟩
   conv=>whnf
   intro g2 hg
   rw [qBP hz];rfl
  ·have hne:=qsD hz
   conv=>whnf
   refine .inl ⟨_,(quT _ hcc).to hv,?_⟩
   conv=>whnf
   intro g2 hg
   rw [qCP (by rw [hz];simp)]
   exact congrArg Value.bool (by simp;omega))
def q3O (s:Snap) (l h p:BA):Value :=
 if idxI (idxO (fun x=>bs x==bs l) s.listens)<0 then .tuple #[.int .i64 0,.int .i64 3] else
 match qAM (fitR (idxI (idxO (fun x=>bs x==bs l) s.listens)) h p) s.rules with
 | none=>.tuple #[.int .i64 0,.int .i64 5]
 | some j=>.tuple #[.int .i64 ((s.rules[j]?).map (·.cluster)).get!,.int .i64 0]
theorem qaY (g:GW) {cs:List Value} {s:Snap} (hs:qRH g cs s) (l h p:BA) (hsm:SmL s.rules∧Sm h∧Sm p):OkV Tryz.prog qAT [.agg ⟨cs⟩,.string l,.string h,.string p] g (q3O s l h p):=by
 have hs0:=hs
 obtain⟨a,b,d,rfl,hl,hr,hk⟩:=hs
 obtain⟨oa,ca,rfl,a1,a2,a0,hl1⟩:=id hl
 obtain⟨ob,cb,rfl,b1,b2,b0,hr1⟩:=id hr
 obtain⟨od,cd,rfl,d1,d2,d0,hk1⟩:=id hk
 exact Ok.of_fn hm noT 0 qbS (args:=[.v (.agg ⟨[.slice oa s.listens.length ca,.slice ob s.rules.length cb,.slice od s.clusters.length cd]⟩),.v (.string l),.v (.string h),.v (.string p)]) (by
  repeat((conv=>whnf);first|refine qz ?_|intro(_:Nat))
  conv=>whnf
  refine .inl ⟨_,qxS _ hl _,?_⟩
  conv=>whnf
  refine⟨fun k1=>?_,fun k1=>?_⟩
  ·conv=>whnf
   intro g2 hg
   rw [q3O,if_pos (of_decide_eq_true k1)]
  have k1:=of_decide_eq_false k1
  repeat((conv=>whnf);first|refine qz ?_|intro(_:Nat))
  cases hb:qAM (fitR (idxI (idxO (fun x=>bs x==bs l) s.listens)) h p) s.rules with
  | none =>
   conv=>whnf
   refine .inl ⟨_,(qwV _ hr _ _ _ hsm).to (congrArg qAV hb),?_⟩
   conv=>whnf
   refine⟨fun _=>?_,fun h=>nomatch h⟩
   conv=>whnf
   intro g2 hg
   rw [q3O,if_neg k1,hb]
  | some j =>
   conv=>whnf
   refine .inl ⟨_,(qwV _ hr _ _ _ hsm).to (congrArg qAV hb),?_⟩
   conv=>whnf
   refine⟨fun h=>(nomatch h),fun _=>?_⟩
   obtain⟨r,q1,q2,_⟩:=bestO_some.1 hb
   obtain⟨a,rfl,ec,hec,⟨rfl,_,_⟩,hc⟩:=hr1 j r q1
   repeat((conv=>whnf);first|refine qz ?_|intro(_:Nat))
   conv=>whnf
   refine⟨a,rfl,⟨by omega,by omega⟩,?_⟩
   conv=>whnf
   refine⟨_,hc 3 _ rfl,?_⟩
   conv=>whnf
   intro g2 hg
   rw [q3O,if_neg k1,hb]
   simp [q1])
/- Snapshots: the document's answer to: is it one? -/
open Go.Proofs.YthonngjhelcpeaaGreat.Sx Go.RowKit
theorem qvS (g:GW) {a b d:Value} {s:Snap} (hs:qRH g [a,b,d] s) (hsz:s.rules.length≤1000000):Ok Tryz.prog qXH [.agg ⟨[a,b,d]⟩] g fun v g'=>∃ oa n cap,v=.agg ⟨[a,.slice oa n cap,d]⟩∧rSl 4 qNP g' (.slice oa n cap) (qVD s).routes:=by
 obtain⟨_,_,_,he,hl,hr,hk⟩:=hs
 cases he
 obtain⟨oa,ca,rfl,a1,a2,a0,hl1⟩:=id hl
 obtain⟨ob,cb,rfl,b1,b2,b0,hr1⟩:=id hr
 obtain⟨od,cd,rfl,d1,d2,d0,hk1⟩:=id hk
 exact Ok.of_fn hm noT 0 qCH (args:=[.v (.agg ⟨[.slice oa s.listens.length ca,.slice ob s.rules.length cb,.slice od s.clusters.length cd]⟩)]) (by
  repeat((conv=>whnf);first|refine qz ?_|intro(_:Nat)|intro(_:OA)_)
  rename_i p0 p1 p2
  conv=>whnf
  refine⟨Nat×Option Addr×Nat,fun (k,_,_)=>[.v (.int .i64 k)],fun (k,oR,cR)=>⟨g,[.row 10 oR k cR qeC 4 ((s.rules.take k).map (cRou s)).flatten,.blk 2 p2 q2B [.v (.slice oa s.listens.length ca),.row 10 oR k cR,.v (.slice od s.clusters.length cd)],.blk 1 p1 q2B [.v (.slice none 0 0),.v (.slice none 0 0),.v (.slice none 0 0)],.blk 0 p0 qyA [.v (.slice oa s.listens.length ca),.v (.slice ob s.rules.length cb),.v (.slice od s.clusters.length cd)]],40,g.w.heap.size⟩,fun (k,_,_)=>k≤s.rules.length,fun (k,_,_)=>s.rules.length-k,?_,?_⟩
  ·intro fr w hw
   exact⟨(0,none,0),rfl,Nat.zero_le _,(hw.nil_row (nx':=40) 10 qeC 4).fit (by simp [fitL,Res.eqv,qBA,conc])⟩
  rintro⟨k,oR,cR⟩ hkk
  have hkk:k≤s.rules.length:=hkk
  repeat((conv=>whnf);first|refine qz ?_|intro(_:Nat)|intro(_:OA)_)
  conv=>whnf
  refine⟨fun hlt=>?_,fun hlt=>?_⟩
  ·have h':k<s.rules.length:=by have:=of_decide_eq_true hlt;omega
   obtain⟨⟨rl,rh,rp,rc⟩,hx⟩:=qAA h'
   obtain⟨a,rfl,ec,hec,⟨rfl,_,_⟩,hc⟩:=hr1 k _ hx
   have hT:=qbT (f:=cRou s) hx
   repeat((conv=>whnf);first|refine qz ?_|intro(_:Nat)|intro(_:OA)_)
   conv=>whnf
   refine⟨a,rfl,⟨by omega,by omega⟩,?_⟩
   conv=>whnf
   refine⟨_,⟨rfl,hc⟩,?_⟩
   repeat((conv=>whnf);first|refine qz ?_|intro(_:Nat)|intro(_:OA)_)
   by_cases hA:0≤rl∧rl<s.listens.length
   ·obtain⟨n,rfl⟩:=Int.eq_ofNat_of_zero_le hA.1
    obtain⟨y,hy⟩:=qAA (show n<s.listens.length by omega)
    obtain⟨aL,rfl,ecL,hecL,rfl,hcL⟩:=hl1 n y hy
    have hAn:qQL s.listens (n:Int)=y:=by unfold qQL;rw [if_pos hA];simp [hy]
    conv=>whnf
    refine⟨fun _=>?_,fun hx=>absurd (((decide_eq_true hA.1)).symm.trans hx) (by decide)⟩
    repeat((conv=>whnf);first|refine qz ?_|intro(_:Nat)|intro(_:OA)_)
    conv=>whnf
    refine⟨fun _=>?_,fun hx=>absurd (((decide_eq_true hA.2)).symm.trans hx) (by decide)⟩
    repeat((conv=>whnf);first|refine qz ?_|intro(_:Nat)|intro(_:OA)_)
    conv=>whnf
    refine⟨aL,rfl,⟨hA.1,hA.2⟩,?_⟩
    conv=>whnf
    refine⟨_,hcL 0 _ rfl,?_⟩
    repeat((conv=>whnf);first|refine qz ?_|intro(_:Nat)|intro(_:OA)_)
    by_cases hC:0≤rc∧rc<s.clusters.length
    ·obtain⟨m,rfl⟩:=Int.eq_ofNat_of_zero_le hC.1
     obtain⟨z,hz⟩:=qAA (show m<s.clusters.length by omega)
     obtain⟨aC,rfl,ecC,hecC,⟨hv,rfl,_,_,_,_,rfl,_⟩,hcC⟩:=hk1 m z hz
     have hCn:qaB s.clusters (m:Int)=z.name:=by unfold qaB;rw [if_pos hC];simp [hz]
     conv=>whnf
     refine⟨fun _=>?_,fun hx=>absurd (((decide_eq_true hC.1)).symm.trans hx) (by decide)⟩
     repeat((conv=>whnf);first|refine qz ?_|intro(_:Nat)|intro(_:OA)_)
     conv=>whnf
     refine⟨fun _=>?_,fun hx=>absurd (((decide_eq_true hC.2)).symm.trans hx) (by decide)⟩
     repeat((conv=>whnf);first|refine qz ?_|intro(_:Nat)|intro(_:OA)_)
     conv=>whnf
     refine⟨aC,rfl,⟨hC.1,hC.2⟩,?_⟩
     conv=>whnf
     refine⟨_,hcC 0 _ rfl,?_⟩
     repeat((conv=>whnf);first|refine qz ?_|intro(_:Nat)|intro(_:OA)_)
     conv=>whnf
     refine⟨⟨by unfold maxLen;omega,by omega⟩,fun oa2 cap2=>?_⟩
     repeat((conv=>whnf);first|refine qz ?_|intro(_:Nat)|intro(_:OA)_)
     conv=>whnf
     refine fun fr w hw=>⟨(k+1,oa2,cap2),congrArg (fun z=>[Value.int .i64 z]) (wr1 h' b1 b2).symm,h',dec h',hw.fit ?_⟩
     simp only [hT]
     simp [fitL,Res.eqv,qBA,conc,qEB,hAn,hCn]
    have hCn:qaB s.clusters rc=⟨#[]⟩:=by unfold qaB;rw [if_neg hC]
    by_cases hC0:0≤rc
    ·conv=>whnf
     refine⟨fun _=>?_,fun hx=>absurd (((decide_eq_true hC0)).symm.trans hx) (by decide)⟩
     repeat((conv=>whnf);first|refine qz ?_|intro(_:Nat)|intro(_:OA)_)
     conv=>whnf
     refine⟨fun hx=>absurd (hx.symm.trans ((decide_eq_false (show ¬ rc<s.clusters.length from fun h=>hC ⟨hC0,h⟩)))) (by decide),fun _=>?_⟩
     repeat((conv=>whnf);first|refine qz ?_|intro(_:Nat)|intro(_:OA)_)
     conv=>whnf
     refine⟨⟨by unfold maxLen;omega,by omega⟩,fun oa2 cap2=>?_⟩
     repeat((conv=>whnf);first|refine qz ?_|intro(_:Nat)|intro(_:OA)_)
     conv=>whnf
     refine fun fr w hw=>⟨(k+1,oa2,cap2),congrArg (fun z=>[Value.int .i64 z]) (wr1 h' b1 b2).symm,h',dec h',hw.fit ?_⟩
     simp only [hT]
     simp [fitL,Res.eqv,qBA,conc,qEB,hAn,hCn]
    ·conv=>whnf
     refine⟨fun hx=>absurd (hx.symm.trans ((decide_eq_false hC0))) (by decide),fun _=>?_⟩
     repeat((conv=>whnf);first|refine qz ?_|intro(_:Nat)|intro(_:OA)_)
     conv=>whnf
     refine⟨⟨by unfold maxLen;omega,by omega⟩,fun oa2 cap2=>?_⟩
     repeat((conv=>whnf);first|refine qz ?_|intro(_:Nat)|intro(_:OA)_)
     conv=>whnf
     refine fun fr w hw=>⟨(k+1,oa2,cap2),congrArg (fun z=>[Value.int .i64 z]) (wr1 h' b1 b2).symm,h',dec h',hw.fit ?_⟩
     simp only [hT]
     simp [fitL,Res.eqv,qBA,conc,qEB,hAn,hCn]
   have hAn:qQL s.listens rl=⟨#[]⟩:=by unfold qQL;rw [if_neg hA]
   by_cases hA0:0≤rl
   ·conv=>whnf
    refine⟨fun _=>?_,fun hx=>absurd (((decide_eq_true hA0)).symm.trans hx) (by decide)⟩
    repeat((conv=>whnf);first|refine qz ?_|intro(_:Nat)|intro(_:OA)_)
    conv=>whnf
    refine⟨fun hx=>absurd (hx.symm.trans ((decide_eq_false (show ¬ rl<s.listens.length from fun h=>hA ⟨hA0,h⟩)))) (by decide),fun _=>?_⟩
    repeat((conv=>whnf);first|refine qz ?_|intro(_:Nat)|intro(_:OA)_)
    by_cases hC:0≤rc∧rc<s.clusters.length
    ·obtain⟨m,rfl⟩:=Int.eq_ofNat_of_zero_le hC.1
     obtain⟨z,hz⟩:=qAA (show m<s.clusters.length by omega)
     obtain⟨aC,rfl,ecC,hecC,⟨hv,rfl,_,_,_,_,rfl,_⟩,hcC⟩:=hk1 m z hz
     have hCn:qaB s.clusters (m:Int)=z.name:=by unfold qaB;rw [if_pos hC];simp [hz]
     conv=>whnf
     refine⟨fun _=>?_,fun hx=>absurd (((decide_eq_true hC.1)).symm.trans hx) (by decide)⟩
     repeat((conv=>whnf);first|refine qz ?_|intro(_:Nat)|intro(_:OA)_)
     conv=>whnf
     refine⟨fun _=>?_,fun hx=>absurd (((decide_eq_true hC.2)).symm.trans hx) (by decide)⟩
     repeat((conv=>whnf);first|refine qz ?_|intro(_:Nat)|intro(_:OA)_)
     conv=>whnf
     refine⟨aC,rfl,⟨hC.1,hC.2⟩,?_⟩
     conv=>whnf
     refine⟨_,hcC 0 _ rfl,?_⟩
     repeat((conv=>whnf);first|refine qz ?_|intro(_:Nat)|intro(_:OA)_)
     conv=>whnf
     refine⟨⟨by unfold maxLen;omega,by omega⟩,fun oa2 cap2=>?_⟩
     repeat((conv=>whnf);first|refine qz ?_|intro(_:Nat)|intro(_:OA)_)
     conv=>whnf
     refine fun fr w hw=>⟨(k+1,oa2,cap2),congrArg (fun z=>[Value.int .i64 z]) (wr1 h' b1 b2).symm,h',dec h',hw.fit ?_⟩
     simp only [hT]
     simp [fitL,Res.eqv,qBA,conc,qEB,hAn,hCn]
    have hCn:qaB s.clusters rc=⟨#[]⟩:=by unfold qaB;rw [if_neg hC]
    by_cases hC0:0≤rc
    ·conv=>whnf
     refine⟨fun _=>?_,fun hx=>absurd (((decide_eq_true hC0)).symm.trans hx) (by decide)⟩
     repeat((conv=>whnf);first|refine qz ?_|intro(_:Nat)|intro(_:OA)_)
     conv=>whnf
     refine⟨fun hx=>absurd (hx.symm.trans ((decide_eq_false (show ¬ rc<s.clusters.length from fun h=>hC ⟨hC0,h⟩)))) (by decide),fun _=>?_⟩
     repeat((conv=>whnf);first|refine qz ?_|intro(_:Nat)|intro(_:OA)_)
     conv=>whnf
     refine⟨⟨by unfold maxLen;omega,by omega⟩,fun oa2 cap2=>?_⟩
     repeat((conv=>whnf);first|refine qz ?_|intro(_:Nat)|intro(_:OA)_)
     conv=>whnf
     refine fun fr w hw=>⟨(k+1,oa2,cap2),congrArg (fun z=>[Value.int .i64 z]) (wr1 h' b1 b2).symm,h',dec h',hw.fit ?_⟩
     simp only [hT]
     simp [fitL,Res.eqv,qBA,conc,qEB,hAn,hCn]
    ·conv=>whnf
     refine⟨fun hx=>absurd (hx.symm.trans ((decide_eq_false hC0))) (by decide),fun _=>?_⟩
     repeat((conv=>whnf);first|refine qz ?_|intro(_:Nat)|intro(_:OA)_)
     conv=>whnf
     refine⟨⟨by unfold maxLen;omega,by omega⟩,fun oa2 cap2=>?_⟩
     repeat((conv=>whnf);first|refine qz ?_|intro(_:Nat)|intro(_:OA)_)
     conv=>whnf
     refine fun fr w hw=>⟨(k+1,oa2,cap2),congrArg (fun z=>[Value.int .i64 z]) (wr1 h' b1 b2).symm,h',dec h',hw.fit ?_⟩
     simp only [hT]
     simp [fitL,Res.eqv,qBA,conc,qEB,hAn,hCn]
   ·conv=>whnf
    refine⟨fun hx=>absurd (hx.symm.trans ((decide_eq_false hA0))) (by decide),fun _=>?_⟩
    repeat((conv=>whnf);first|refine qz ?_|intro(_:Nat)|intro(_:OA)_)
    by_cases hC:0≤rc∧rc<s.clusters.length
    ·obtain⟨m,rfl⟩:=Int.eq_ofNat_of_zero_le hC.1
     obtain⟨z,hz⟩:=qAA (show m<s.clusters.length by omega)
     obtain⟨aC,rfl,ecC,hecC,⟨hv,rfl,_,_,_,_,rfl,_⟩,hcC⟩:=hk1 m z hz
     have hCn:qaB s.clusters (m:Int)=z.name:=by unfold qaB;rw [if_pos hC];simp [hz]
     conv=>whnf
     refine⟨fun _=>?_,fun hx=>absurd (((decide_eq_true hC.1)).symm.trans hx) (by decide)⟩
     repeat((conv=>whnf);first|refine qz ?_|intro(_:Nat)|intro(_:OA)_)
     conv=>whnf
     refine⟨fun _=>?_,fun hx=>absurd (((decide_eq_true hC.2)).symm.trans hx) (by decide)⟩
     repeat((conv=>whnf);first|refine qz ?_|intro(_:Nat)|intro(_:OA)_)
     conv=>whnf
     refine⟨aC,rfl,⟨hC.1,hC.2⟩,?_⟩
     conv=>whnf
     refine⟨_,hcC 0 _ rfl,?_⟩
     repeat((conv=>whnf);first|refine qz ?_|intro(_:Nat)|intro(_:OA)_)
     conv=>whnf
     refine⟨⟨by unfold maxLen;omega,by omega⟩,fun oa2 cap2=>?_⟩
     repeat((conv=>whnf);first|refine qz ?_|intro(_:Nat)|intro(_:OA)_)
     conv=>whnf
     refine fun fr w hw=>⟨(k+1,oa2,cap2),congrArg (fun z=>[Value.int .i64 z]) (wr1 h' b1 b2).symm,h',dec h',hw.fit ?_⟩
     simp only [hT]
     simp [fitL,Res.eqv,qBA,conc,qEB,hAn,hCn]
    have hCn:qaB s.clusters rc=⟨#[]⟩:=by unfold qaB;rw [if_neg hC]
    by_cases hC0:0≤rc
    ·conv=>whnf
     refine⟨fun _=>?_,fun hx=>absurd (((decide_eq_true hC0)).symm.trans hx) (by decide)⟩
     repeat((conv=>whnf);first|refine qz ?_|intro(_:Nat)|intro(_:OA)_)
     conv=>whnf
     refine⟨fun hx=>absurd (hx.symm.trans ((decide_eq_false (show ¬ rc<s.clusters.length from fun h=>hC ⟨hC0,h⟩)))) (by decide),fun _=>?_⟩
     repeat((conv=>whnf);first|refine qz ?_|intro(_:Nat)|intro(_:OA)_)
     conv=>whnf
     refine⟨⟨by unfold maxLen;omega,by omega⟩,fun oa2 cap2=>?_⟩
     repeat((conv=>whnf);first|refine qz ?_|intro(_:Nat)|intro(_:OA)_)
     conv=>whnf
     refine fun fr w hw=>⟨(k+1,oa2,cap2),congrArg (fun z=>[Value.int .i64 z]) (wr1 h' b1 b2).symm,h',dec h',hw.fit ?_⟩
     simp only [hT]
     simp [fitL,Res.eqv,qBA,conc,qEB,hAn,hCn]
    ·conv=>whnf
     refine⟨fun hx=>absurd (hx.symm.trans ((decide_eq_false hC0))) (by decide),fun _=>?_⟩
     repeat((conv=>whnf);first|refine qz ?_|intro(_:Nat)|intro(_:OA)_)
     conv=>whnf
     refine⟨⟨by unfold maxLen;omega,by omega⟩,fun oa2 cap2=>?_⟩
     repeat((conv=>whnf);first|refine qz ?_|intro(_:Nat)|intro(_:OA)_)
     conv=>whnf
     refine fun fr w hw=>⟨(k+1,oa2,cap2),congrArg (fun z=>[Value.int .i64 z]) (wr1 h' b1 b2).symm,h',dec h',hw.fit ?_⟩
     simp only [hT]
     simp [fitL,Res.eqv,qBA,conc,qEB,hAn,hCn]
  have hz1:k=s.rules.length:=by have:=of_decide_eq_false hlt;omega
  subst hz1
  repeat((conv=>whnf);first|refine qz ?_|intro(_:Nat)|intro(_:OA)_)
  conv=>whnf
  refine fun g1 hg1 hn1 hp1=>?_
  conv=>whnf
  intro g2 hg
  refine⟨_,_,_,rfl,(qSM hp1.rd (qVD s).routes qJW ?_ (by simp [qVD]) (fun _ _=>rfl) fun _ _=>rfl).mono qsJ hg⟩
  rw [List.take_of_length_le (Nat.le_refl _)];simp [qVD,List.map_map,Function.comp_def])
def SnS (s:Snap):Prop:=s.rules.length≤1000000∧∀ r∈s.rules,r.host.size≤100∧r.path.size≤100
theorem SnS.conf {s:Snap} (h:SnS s):SmC (qVD s):=by
 intro r hr
 simp only [qVD,List.mem_map] at hr
 obtain⟨x,hx,rfl⟩:=hr
 exact h.2 x hx
theorem q3X (g:GW) {cs:List Value} {s:Snap} (hs:qRH g cs s) (hsn:SnS s):OkV Tryz.prog qiM [.agg ⟨cs⟩] g (.bool (eqB (qiA (qVD s)) none)):=by
 have hsz:=hsn.1
 have hs0:=hs
 obtain⟨a,b,d,rfl,hl,hr,hk⟩:=hs
 obtain⟨oa,ca,rfl,a1,a2,a0,hl1⟩:=id hl
 obtain⟨ob,cb,rfl,b1,b2,b0,hr1⟩:=id hr
 obtain⟨od,cd,rfl,d1,d2,d0,hk1⟩:=id hk
 exact Ok.of_fn hm noT 0 qNM (args:=[.v (.agg ⟨[.slice oa s.listens.length ca,.slice ob s.rules.length cb,.slice od s.clusters.length cd]⟩)]) (by
  repeat((conv=>whnf);first|refine qz ?_|intro(_:Nat))
  conv=>whnf
  refine .inr ((qvS g hs0 hsz).mono fun v g1 hg1 hC=>?_)
  obtain⟨oR,n,cR,rfl,hrt⟩:=hC
  have hcc:qyB g1 [.slice oa s.listens.length ca,.slice oR n cR,.slice od s.clusters.length cd] (qVD s):=⟨_,_,_,rfl,hl.mono qQH hg1,hrt,hk.mono qvC hg1⟩
  rcases q5L (qiA (qVD s)) with ⟨hz,hv⟩|⟨e,i,hz,hv⟩
  ·conv=>whnf
   refine .inl ⟨_,(qdR _ hcc hsn.conf).to hv,?_⟩
   conv=>whnf
   intro g2 hg
   rw [qBP hz];rfl
  ·have hne:=qsD hz
   conv=>whnf
   refine .inl ⟨_,(qdR _ hcc hsn.conf).to hv,?_⟩
   conv=>whnf
   intro g2 hg
   rw [qCP (by rw [hz];simp)]
   exact congrArg Value.bool (by simp;omega))
/- Worlds: limbo,listeners,counts: are they right? -/
open Go.Proofs.YthonngjhelcpeaaGreat.Sx Go.RowKit
def tPl:List (Nat×FnI):=[(qlB,qjA),(qHO,qvH)]
theorem qzY:q3G Tryz.prog tPl:=by
 intro x hx
 simp only [tPl,List.mem_cons,List.not_mem_nil,or_false] at hx
 rcases hx with rfl|rfl
 ·exact⟨_,_,qkB⟩
 ·exact⟨_,_,qqN⟩
theorem qML (g:GW) {v:Value} {l:List Listen} (hl:rSl 4 qNB g v l) (s:BA):OkV Tryz.prog qeQ [v,.string s] g (.int .i64 (qTB l s)) :=
 Ok.of_fn hm qzY 2 q6P (args:=[.v v,.v (.string s)]) (by
  obtain⟨oa,cap,rfl,h1,h2,h0,hr⟩:=hl
  repeat((conv=>whnf);first|refine qz ?_|intro(_:Nat))
  conv=>whnf
  refine⟨Nat,fun k=>[.v (.int .i64 k)],fun k=>⟨g,[.blk 0 _ _ [.v (.string s)]],_,_⟩,fun k=>k≤l.length∧Pass (idxF fun (x:Listen)=>bs x.name==bs s) l k,fun k=>l.length-k,qHA 0 rfl ⟨Nat.zero_le _,Pass.zero _ _⟩ rfl,?_⟩
  rintro k ⟨hk,hp⟩
  conv=>whnf
  refine⟨fun hlt=>?_,fun hlt=>?_⟩
  ·have h':k<l.length:=by have:=of_decide_eq_true hlt;omega
   obtain⟨x,hx⟩:=qAA h'
   obtain⟨a,rfl,ec,hec,⟨rfl,_⟩,hc⟩:=hr k x hx
   conv=>whnf
   refine⟨a,rfl,⟨by omega,by omega⟩,?_⟩
   conv=>whnf
   refine⟨_,⟨rfl,hc⟩,?_⟩
   conv=>whnf
   refine⟨qOO,?_⟩
   repeat((conv=>whnf);first|refine qz ?_|intro(_:Nat))
   conv=>whnf
   refine⟨fun he=>?_,fun he=>?_⟩
   ·conv=>whnf
    intro g2 hg
    rw [qTB,qGE hp hx he]
   ·conv=>whnf
    refine fun fr w hw=>⟨k+1,congrArg (fun z=>[Value.int .i64 z]) (wr1 h' h1 h2).symm,⟨h',qFE hp hx he⟩,dec h',?_⟩
    exact hw.fit (by simp [fitL,Res.eqv,qBA,conc])
  ·conv=>whnf
   intro g2 hg
   have:=of_decide_eq_false hlt
   rw [qTB,q4C hp (by omega)])
theorem qcR (g:GW) {v:Value} {l:List Listen} (hl:rSl 4 qNB g v l) (s:BA):OkV Tryz.prog qfI [v,.string s] g (.int .i64 (qTB l s)) :=
 Ok.of_fn hm noT 0 qHI (args:=[.v v,.v (.string s)]) (by
  obtain⟨oa,cap,rfl,h1,h2,h0,hr⟩:=hl
  repeat((conv=>whnf);first|refine qz ?_|intro(_:Nat))
  conv=>whnf
  refine⟨Nat,fun k=>[.v (.int .i64 k)],fun k=>⟨g,[],_,_⟩,fun k=>k≤l.length∧Pass (idxF fun (x:Listen)=>bs x.name==bs s) l k,fun k=>l.length-k,qHA 0 rfl ⟨Nat.zero_le _,Pass.zero _ _⟩ rfl,?_⟩
  rintro k ⟨hk,hp⟩
  repeat((conv=>whnf);first|refine qz ?_|intro(_:Nat))
  conv=>whnf
  refine⟨fun hlt=>?_,fun hlt=>?_⟩
  ·have h':k<l.length:=by have:=of_decide_eq_true hlt;omega
   obtain⟨x,hx⟩:=qAA h'
   obtain⟨a,rfl,ec,hec,⟨rfl,_⟩,hc⟩:=hr k x hx
   repeat((conv=>whnf);first|refine qz ?_|intro(_:Nat))
   conv=>whnf
   refine⟨a,rfl,⟨by omega,by omega⟩,?_⟩
   conv=>whnf
   refine⟨_,hc 0 _ rfl,?_⟩
   repeat((conv=>whnf);first|refine qz ?_|intro(_:Nat))
   conv=>whnf
   refine⟨fun he=>?_,fun he=>?_⟩
   ·repeat((conv=>whnf);first|refine qz ?_|intro(_:Nat))
    conv=>whnf
    intro g2 hg
    rw [qTB,qGE hp hx he]
   ·repeat((conv=>whnf);first|refine qz ?_|intro(_:Nat))
    conv=>whnf
    refine fun fr w hw=>⟨k+1,congrArg (fun z=>[Value.int .i64 z]) (wr1 h' h1 h2).symm,⟨h',qFE hp hx he⟩,dec h',?_⟩
    exact hw.fit (by simp [fitL,Res.eqv,qBA,conc])
  ·repeat((conv=>whnf);first|refine qz ?_|intro(_:Nat))
   conv=>whnf
   intro g2 hg
   have:=of_decide_eq_false hlt
   rw [qTB,q4C hp (by omega)])
theorem qVZ (g:GW) {cs:List Value} {x:Listen} (hx:qNB g cs x):OkV Tryz.prog qsU [.agg ⟨cs⟩] g (.bool (q2O x)):=by
 obtain⟨rfl,hA⟩:=hx
 exact Ok.of_fn hm noT 0 qKU (args:=[.v (.agg ⟨[.string x.name,.bool x.drain,.int .i64 x.active,.bool x.closed]⟩)]) (by
  repeat((conv=>whnf);first|refine qz ?_|intro(_:Nat))
  repeat'((conv=>whnf);first|apply qza|apply qzb|apply qzc|apply qzd|apply qze|intro(_:Nat)|refine .inl ⟨_,quJ _ _,?_⟩|refine⟨fun _=>?_,fun _=>?_⟩|fail)
  all_goals (conv=>whnf)
  all_goals (intro g2 hg)
  all_goals (unfold q2O;simp_all;try (intros;omega)))
theorem q6X (g:GW) {cs:List Value} {x:Listen} (hx:qNB g cs x):OkV Tryz.prog qeM [.agg ⟨cs⟩] g (.bool (q2O x)):=by
 obtain⟨rfl,hA⟩:=hx
 exact Ok.of_fn hm noT 0 qJM (args:=[.v (.agg ⟨[.string x.name,.bool x.drain,.int .i64 x.active,.bool x.closed]⟩)]) (by
  repeat((conv=>whnf);first|refine qz ?_|intro(_:Nat))
  repeat'((conv=>whnf);first|apply qza|apply qzb|apply qzc|apply qzd|apply qze|intro(_:Nat)|refine .inl ⟨_,qUN _ _,?_⟩|refine⟨fun _=>?_,fun _=>?_⟩|fail)
  all_goals (conv=>whnf)
  all_goals (intro g2 hg)
  all_goals (unfold q2O;simp_all;try (intros;omega)))
theorem qLP {c:List (List Int)} {r:List Int} (hr:r∈c) (h:r.length≠6):qED c=false:=by
 unfold qED
 rw [show(c.all fun r=>decide (r.length=6))=false from List.all_eq_false.2 ⟨r,hr,by simpa using h⟩];rfl
theorem qfX (g:GW) {v:Value} {l:List (List Int)} (hl:rSl 1 rRow g v l):OkV Tryz.prog qpU [v] g (.bool (qED l)) :=
 Ok.of_fn hm noT 0 qHU (args:=[.v v]) (by
  obtain⟨oa,cap,rfl,h1,h2,h0,hr⟩:=hl
  repeat((conv=>whnf);first|refine qz ?_|intro(_:Nat))
  conv=>whnf
  refine⟨Nat,fun k=>[.v (.int .i64 k)],fun k=>⟨g,[],_,_⟩,fun k=>k≤l.length∧(l.take k).all (fun r=>decide (r.length=6))=true,fun k=>l.length-k,qHA 0 rfl ⟨Nat.zero_le _,by simp⟩ rfl,?_⟩
  rintro k ⟨hk,hp⟩
  repeat((conv=>whnf);first|refine qz ?_|intro(_:Nat))
  conv=>whnf
  refine⟨fun hlt=>?_,fun hlt=>?_⟩
  ·have h':k<l.length:=by have:=of_decide_eq_true hlt;omega
   obtain⟨x,hx⟩:=qAA h'
   obtain⟨a,rfl,ec,hec,⟨n,rfl,hn⟩,hc⟩:=hr k x hx
   obtain⟨ox,cx,rfl,x1,x2,x0,hx1⟩:=id hn
   repeat((conv=>whnf);first|refine qz ?_|intro(_:Nat))
   conv=>whnf
   refine⟨a,rfl,⟨by omega,by omega⟩,?_⟩
   conv=>whnf
   refine⟨_,hc 0 _ rfl,?_⟩
   repeat((conv=>whnf);first|refine qz ?_|intro(_:Nat))
   conv=>whnf
   refine⟨fun he=>?_,fun he=>?_⟩
   ·repeat((conv=>whnf);first|refine qz ?_|intro(_:Nat))
    conv=>whnf
    intro g2 hg
    rw [qLP (List.mem_of_getElem? hx) (by have h9:(x.length:Int)≠6:=bneT he;omega)]
   ·repeat((conv=>whnf);first|refine qz ?_|intro(_:Nat))
    conv=>whnf
    refine fun fr w hw=>⟨k+1,congrArg (fun z=>[Value.int .i64 z]) (wr1 h' h1 h2).symm,⟨h',?_⟩,dec h',hw⟩
    obtain⟨c1,c2⟩:=List.getElem?_eq_some_iff.1 hx
    rw [q8B c1,hp,c2]
    have:(x.length:Int)=6:=by simpa using he
    simp;omega
  ·have hkL:=of_decide_eq_false hlt
   rw [List.take_of_length_le (by omega)] at hp
   repeat((conv=>whnf);first|refine qz ?_|intro(_:Nat))
   conv=>whnf
   refine⟨fun hz=>?_,fun hz=>?_⟩
   ·repeat((conv=>whnf);first|refine qz ?_|intro(_:Nat))
    conv=>whnf
    intro g2 hg
    have:=of_decide_eq_true hz
    unfold qED
    rw [hp,decide_eq_true (show 1≤l.length by omega)];simp;omega
   ·repeat((conv=>whnf);first|refine qz ?_|intro(_:Nat))
    conv=>whnf
    intro g2 hg
    have:=of_decide_eq_false hz
    unfold qED
    rw [hp,decide_eq_false (show ¬ 1≤l.length by omega)];rfl)
theorem q5X (g:GW) {v:Value} {l:List (List Int)} (hl:rSl 1 rRow g v l):OkV Tryz.prog qhM [v] g (.bool (qED l)) :=
 Ok.of_fn hm noT 0 qMM (args:=[.v v]) (by
  obtain⟨oa,cap,rfl,h1,h2,h0,hr⟩:=hl
  repeat((conv=>whnf);first|refine qz ?_|intro(_:Nat))
  conv=>whnf
  refine⟨Nat,fun k=>[.v (.int .i64 k)],fun k=>⟨g,[],_,_⟩,fun k=>k≤l.length∧(l.take k).all (fun r=>decide (r.length=6))=true,fun k=>l.length-k,qHA 0 rfl ⟨Nat.zero_le _,by simp⟩ rfl,?_⟩
  rintro k ⟨hk,hp⟩
  repeat((conv=>whnf);first|refine qz ?_|intro(_:Nat))
  conv=>whnf
  refine⟨fun hlt=>?_,fun hlt=>?_⟩
  ·have h':k<l.length:=by have:=of_decide_eq_true hlt;omega
   obtain⟨x,hx⟩:=qAA h'
   obtain⟨a,rfl,ec,hec,⟨n,rfl,hn⟩,hc⟩:=hr k x hx
   obtain⟨ox,cx,rfl,x1,x2,x0,hx1⟩:=id hn
   repeat((conv=>whnf);first|refine qz ?_|intro(_:Nat))
   conv=>whnf
   refine⟨a,rfl,⟨by omega,by omega⟩,?_⟩
   conv=>whnf
   refine⟨_,hc 0 _ rfl,?_⟩
   repeat((conv=>whnf);first|refine qz ?_|intro(_:Nat))
   conv=>whnf
   refine⟨fun he=>?_,fun he=>?_⟩
   ·repeat((conv=>whnf);first|refine qz ?_|intro(_:Nat))
    conv=>whnf
    intro g2 hg
    rw [qLP (List.mem_of_getElem? hx) (by have h9:(x.length:Int)≠6:=bneT he;omega)]
   ·repeat((conv=>whnf);first|refine qz ?_|intro(_:Nat))
    conv=>whnf
    refine fun fr w hw=>⟨k+1,congrArg (fun z=>[Value.int .i64 z]) (wr1 h' h1 h2).symm,⟨h',?_⟩,dec h',hw⟩
    obtain⟨c1,c2⟩:=List.getElem?_eq_some_iff.1 hx
    rw [q8B c1,hp,c2]
    have:(x.length:Int)=6:=by simpa using he
    simp;omega
  ·have hkL:=of_decide_eq_false hlt
   rw [List.take_of_length_le (by omega)] at hp
   repeat((conv=>whnf);first|refine qz ?_|intro(_:Nat))
   conv=>whnf
   refine⟨fun hz=>?_,fun hz=>?_⟩
   ·repeat((conv=>whnf);first|refine qz ?_|intro(_:Nat))
    conv=>whnf
    intro g2 hg
    have:=of_decide_eq_true hz
    unfold qED
    rw [hp,decide_eq_true (show 1≤l.length by omega)];simp;omega
   ·repeat((conv=>whnf);first|refine qz ?_|intro(_:Nat))
    conv=>whnf
    intro g2 hg
    have:=of_decide_eq_false hz
    unfold qED
    rw [hp,decide_eq_false (show ¬ 1≤l.length by omega)];rfl)
/- Worlds: limbo: is it right? -/
open Go.Proofs.YthonngjhelcpeaaGreat.Sx Go.RowKit
def tLh:List (Nat×FnI):=[(qOB,qcA),(qdB,qgA),(qbQ,qrL)]
theorem q1Y:q3G Tryz.prog tLh:=by
 intro x hx
 simp only [tLh,List.mem_cons,List.not_mem_nil,or_false] at hx
 rcases hx with rfl|rfl|rfl
 ·exact⟨_,_,qKB⟩
 ·exact⟨_,_,qbB⟩
 ·exact⟨_,_,q3P⟩
theorem qBY (g:GW) {v:Value} {l:List Retired} (hl:rSl 3 qwA g v l) (n:Int):OkV Tryz.prog qFT [v,.int .i64 n] g (.bool (l.any fun r=>r.version==n)) :=
 Ok.of_fn hm q1Y 3 qgS (args:=[.v v,.v (.int .i64 n)]) (by
  obtain⟨oa,cap,rfl,h1,h2,h0,hr⟩:=hl
  repeat((conv=>whnf);first|refine qz ?_|intro(_:Nat))
  conv=>whnf
  refine⟨Nat,fun k=>[.v (.int .i64 k)],fun k=>⟨g,[.blk 0 _ _ [.v (.int .i64 n)]],_,_⟩,fun k=>k≤l.length∧Pass (idxF fun (x:Retired)=>x.version==n) l k,fun k=>l.length-k,qHA 0 rfl ⟨Nat.zero_le _,Pass.zero _ _⟩ rfl,?_⟩
  rintro k ⟨hk,hp⟩
  conv=>whnf
  refine⟨fun hlt=>?_,fun hlt=>?_⟩
  ·have h':k<l.length:=by have:=of_decide_eq_true hlt;omega
   obtain⟨x,hx⟩:=qAA h'
   obtain⟨a,rfl,ec,hec,⟨rfl,_⟩,hc⟩:=hr k x hx
   conv=>whnf
   refine⟨a,rfl,⟨by omega,by omega⟩,?_⟩
   conv=>whnf
   refine⟨_,⟨rfl,hc⟩,?_⟩
   conv=>whnf
   refine⟨qlQ,?_⟩
   repeat((conv=>whnf);first|refine qz ?_|intro(_:Nat))
   conv=>whnf
   refine⟨fun he=>?_,fun he=>?_⟩
   ·conv=>whnf
    intro g2 hg
    have:(l.any fun r=>r.version==n)=true:=List.any_eq_true.2 ⟨x,List.mem_of_getElem? hx,he⟩
    rw [this];simp
   ·conv=>whnf
    refine fun fr w hw=>⟨k+1,congrArg (fun z=>[Value.int .i64 z]) (wr1 h' h1 h2).symm,⟨h',qFE hp hx he⟩,dec h',?_⟩
    exact hw.fit (by simp [fitL,Res.eqv,qBA,conc])
  ·conv=>whnf
   intro g2 hg
   have:=of_decide_eq_false hlt
   have h3:=qmQ (fun (x:Retired)=>x.version==n) l
   rw [q4C hp (by omega)] at h3
   rw [← h3])
theorem qCZ (g:GW) {v:Value} {l:List Retired} (hl:rSl 3 qwA g v l):OkV Tryz.prog qrU [v] g (.bool (qVG l)) :=
 Ok.of_fn hm noT 0 qJU (args:=[.v v]) (by
  obtain⟨oa,cap,rfl,h1,h2,h0,hr⟩:=id hl
  repeat((conv=>whnf);first|refine qz ?_|intro(_:Nat))
  conv=>whnf
  refine⟨Nat,fun k=>[.v (.int .i64 k)],fun k=>⟨g,[],_,_⟩,fun k=>k≤l.length∧AllK (retB l) l k,fun k=>l.length-k,qHA 0 rfl ⟨Nat.zero_le _,AllK.zero _ _⟩ rfl,?_⟩
  rintro k ⟨hk,hp⟩
  conv=>whnf
  refine⟨fun hlt=>?_,fun hlt=>?_⟩
  ·have h':k<l.length:=by have:=of_decide_eq_true hlt;omega
   obtain⟨x,hx⟩:=qAA h'
   obtain⟨a,rfl,ec,hec,⟨rfl,_⟩,hc⟩:=hr k x hx
   repeat((conv=>whnf);first|refine qz ?_|intro(_:Nat))
   conv=>whnf
   refine⟨a,rfl,⟨by omega,by omega⟩,?_⟩
   conv=>whnf
   refine⟨_,⟨rfl,hc⟩,?_⟩
   repeat((conv=>whnf);first|refine qz ?_|intro(_:Nat))
   conv=>whnf
   refine⟨fun b1=>?_,fun b1=>?_⟩
   ·repeat((conv=>whnf);first|refine qz ?_|intro(_:Nat))
    conv=>whnf
    intro g2 hg
    have b1':=of_decide_eq_true b1
    exact congrArg Value.bool (qZA hx (by unfold retB;rw [decide_eq_false (by omega)];rfl)).symm
   ·have b1':=of_decide_eq_false b1
    repeat((conv=>whnf);first|refine qz ?_|intro(_:Nat))
    conv=>whnf
    refine⟨fun b2=>?_,fun b2=>?_⟩
    ·repeat((conv=>whnf);first|refine qz ?_|intro(_:Nat))
     conv=>whnf
     intro g2 hg
     have b2':=of_decide_eq_true b2
     exact congrArg Value.bool (qZA hx (by unfold retB;rw [decide_eq_false (show ¬ 0≤x.at_ by omega)];simp)).symm
    ·have b2':=of_decide_eq_false b2
     repeat((conv=>whnf);first|refine qz ?_|intro(_:Nat))
     conv=>whnf
     refine⟨⟨by omega,by omega⟩,?_⟩
     repeat((conv=>whnf);first|refine qz ?_|intro(_:Nat))
     conv=>whnf
     refine .inl ⟨_,qBY _ (rSl.take hl hk) _,?_⟩
     repeat((conv=>whnf);first|refine qz ?_|intro(_:Nat))
     conv=>whnf
     refine⟨fun b3=>?_,fun b3=>?_⟩
     ·repeat((conv=>whnf);first|refine qz ?_|intro(_:Nat))
      conv=>whnf
      intro g2 hg
      exact congrArg Value.bool (qZA hx (by unfold retB;rw [b3];simp)).symm
     ·repeat((conv=>whnf);first|refine qz ?_|intro(_:Nat))
      conv=>whnf
      refine fun fr w hw=>⟨k+1,congrArg (fun z=>[Value.int .i64 z]) (wr1 h' h1 h2).symm,⟨h',hp.succ hx ?_⟩,dec h',?_⟩
      ·unfold retB
       rw [b3,decide_eq_true (show 0≤x.version by omega),decide_eq_true (show 0≤x.at_ by omega)];rfl
      ·exact hw.fit (by simp [fitL,Res.eqv,qBA,conc])
  ·repeat((conv=>whnf);first|refine qz ?_|intro(_:Nat))
   conv=>whnf
   intro g2 hg
   have:=of_decide_eq_false hlt
   exact congrArg Value.bool (hp.done (by omega)).symm)
theorem qwS (g:GW) {v:Value} {l:List Retired} (hl:rSl 3 qwA g v l) (n:Int):OkV Tryz.prog qgI [v,.int .i64 n] g (.int .i64 (idxI (idxO (fun r=>r.version==n) l))) :=
 Ok.of_fn hm noT 0 qII (args:=[.v v,.v (.int .i64 n)]) (by
  obtain⟨oa,cap,rfl,h1,h2,h0,hr⟩:=hl
  repeat((conv=>whnf);first|refine qz ?_|intro(_:Nat))
  conv=>whnf
  refine⟨Nat,fun k=>[.v (.int .i64 k)],fun k=>⟨g,[],_,_⟩,fun k=>k≤l.length∧Pass (idxF fun (x:Retired)=>x.version==n) l k,fun k=>l.length-k,qHA 0 rfl ⟨Nat.zero_le _,Pass.zero _ _⟩ rfl,?_⟩
  rintro k ⟨hk,hp⟩
  repeat((conv=>whnf);first|refine qz ?_|intro(_:Nat))
  conv=>whnf
  refine⟨fun hlt=>?_,fun hlt=>?_⟩
  ·have h':k<l.length:=by have:=of_decide_eq_true hlt;omega
   obtain⟨x,hx⟩:=qAA h'
   obtain⟨a,rfl,ec,hec,⟨rfl,_⟩,hc⟩:=hr k x hx
   repeat((conv=>whnf);first|refine qz ?_|intro(_:Nat))
   conv=>whnf
   refine⟨a,rfl,⟨by omega,by omega⟩,?_⟩
   conv=>whnf
   refine⟨_,hc 0 _ rfl,?_⟩
   repeat((conv=>whnf);first|refine qz ?_|intro(_:Nat))
   conv=>whnf
   refine⟨fun he=>?_,fun he=>?_⟩
   ·repeat((conv=>whnf);first|refine qz ?_|intro(_:Nat))
    conv=>whnf
    intro g2 hg
    rw [qGE hp hx he]
   ·repeat((conv=>whnf);first|refine qz ?_|intro(_:Nat))
    conv=>whnf
    refine fun fr w hw=>⟨k+1,congrArg (fun z=>[Value.int .i64 z]) (wr1 h' h1 h2).symm,⟨h',qFE hp hx he⟩,dec h',?_⟩
    exact hw.fit (by simp [fitL,Res.eqv,qBA,conc])
  ·repeat((conv=>whnf);first|refine qz ?_|intro(_:Nat))
   conv=>whnf
   intro g2 hg
   have:=of_decide_eq_false hlt
   rw [q4C hp (by omega)])
theorem qOR {l:List Retired} {k:Nat} {x:Retired} (hx:l[k]?=some x):(idxI (idxO (fun r=>r.version==x.version) l)=k)↔(l.take k).any (fun r=>r.version==x.version)=false:=by
 rw [any_take]
 constructor
 ·intro h j y hj hy
  cases hi:idxO (fun r:Retired=>r.version==x.version) l with
  | none=>rw [hi] at h;simp [idxI] at h
  | some i =>
   obtain⟨z,_,_,h3⟩:=qiH hi
   rw [hi] at h
   have:i=k:=by simp [idxI] at h;omega
   exact h3 j (by omega) y hy
 ·intro h
  refine qGE (fun j hj y hy=>?_) hx (by simp)
  have:=h j y hj hy
  simp [idxF] at this ⊢
  exact this
theorem q4X (g:GW) {v:Value} {l:List Retired} (hl:rSl 3 qwA g v l):OkV Tryz.prog qfM [v] g (.bool (qVG l)) :=
 Ok.of_fn hm noT 0 qKM (args:=[.v v]) (by
  obtain⟨oa,cap,rfl,h1,h2,h0,hr⟩:=id hl
  repeat((conv=>whnf);first|refine qz ?_|intro(_:Nat))
  conv=>whnf
  refine⟨Nat,fun k=>[.v (.int .i64 k)],fun k=>⟨g,[],_,_⟩,fun k=>k≤l.length∧AllK (retB l) l k,fun k=>l.length-k,qHA 0 rfl ⟨Nat.zero_le _,AllK.zero _ _⟩ rfl,?_⟩
  rintro k ⟨hk,hp⟩
  repeat((conv=>whnf);first|refine qz ?_|intro(_:Nat))
  conv=>whnf
  refine⟨fun hlt=>?_,fun hlt=>?_⟩
  ·have h':k<l.length:=by have:=of_decide_eq_true hlt;omega
   obtain⟨x,hx⟩:=qAA h'
   obtain⟨a,rfl,ec,hec,⟨rfl,_⟩,hc⟩:=hr k x hx
   repeat((conv=>whnf);first|refine qz ?_|intro(_:Nat))
   conv=>whnf
   refine⟨a,rfl,⟨by omega,by omega⟩,?_⟩
   conv=>whnf
   refine⟨_,hc 0 _ rfl,?_⟩
   repeat((conv=>whnf);first|refine qz ?_|intro(_:Nat))
   conv=>whnf
   refine⟨fun b1=>?_,fun b1=>?_⟩
   ·repeat((conv=>whnf);first|refine qz ?_|intro(_:Nat))
    conv=>whnf
    intro g2 hg
    have b1':=of_decide_eq_true b1
    exact congrArg Value.bool (qZA hx (by unfold retB;rw [decide_eq_false (by omega)];rfl)).symm
   ·have b1':=of_decide_eq_false b1
    repeat((conv=>whnf);first|refine qz ?_|intro(_:Nat))
    conv=>whnf
    refine⟨a,rfl,⟨by omega,by omega⟩,?_⟩
    conv=>whnf
    refine⟨_,hc 1 _ rfl,?_⟩
    repeat((conv=>whnf);first|refine qz ?_|intro(_:Nat))
    conv=>whnf
    refine⟨fun b2=>?_,fun b2=>?_⟩
    ·repeat((conv=>whnf);first|refine qz ?_|intro(_:Nat))
     conv=>whnf
     intro g2 hg
     have b2':=of_decide_eq_true b2
     exact congrArg Value.bool (qZA hx (by unfold retB;rw [decide_eq_false (show ¬ 0≤x.at_ by omega)];simp)).symm
    ·have b2':=of_decide_eq_false b2
     repeat((conv=>whnf);first|refine qz ?_|intro(_:Nat))
     conv=>whnf
     refine⟨a,rfl,⟨by omega,by omega⟩,?_⟩
     conv=>whnf
     refine⟨_,hc 0 _ rfl,?_⟩
     repeat((conv=>whnf);first|refine qz ?_|intro(_:Nat))
     conv=>whnf
     refine .inl ⟨_,qwS _ hl _,?_⟩
     repeat((conv=>whnf);first|refine qz ?_|intro(_:Nat))
     conv=>whnf
     refine⟨fun b3=>?_,fun b3=>?_⟩
     ·repeat((conv=>whnf);first|refine qz ?_|intro(_:Nat))
      conv=>whnf
      intro g2 hg
      have b3':¬ idxI (idxO (fun r=>r.version==x.version) l)=(k:Int):=by simpa using b3
      refine congrArg Value.bool (qZA hx ?_).symm
      unfold retB
      cases hb:(l.take k).any (fun r=>r.version==x.version) with
      | true=>simp
      | false=>exact absurd ((qOR hx).2 hb) b3'
     ·repeat((conv=>whnf);first|refine qz ?_|intro(_:Nat))
      conv=>whnf
      refine fun fr w hw=>⟨k+1,congrArg (fun z=>[Value.int .i64 z]) (wr1 h' h1 h2).symm,⟨h',hp.succ hx ?_⟩,dec h',?_⟩
      ·have b3':idxI (idxO (fun r=>r.version==x.version) l)=(k:Int):=by simpa using b3
       unfold retB
       rw [(qOR hx).1 b3',decide_eq_true (show 0≤x.version by omega),decide_eq_true (show 0≤x.at_ by omega)];rfl
      ·exact hw.fit (by simp [fitL,Res.eqv,qBA,conc])
  ·repeat((conv=>whnf);first|refine qz ?_|intro(_:Nat))
   conv=>whnf
   intro g2 hg
   have:=of_decide_eq_false hlt
   exact congrArg Value.bool (hp.done (by omega)).symm)
end Go.Proofs.YthonngjhelcpeaaGreat
