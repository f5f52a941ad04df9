/- Snapshots: the configuration of one. -/
import Derived.Test.YthonngjhelcpeaaGreatLK5c
set_option linter.unusedVariables false
set_option linter.unusedSimpArgs false
namespace Go.Proofs.YthonngjhelcpeaaGreat
open Go.Proofs.YthonngjhelcpeaaGreat.Sx Go.RowKit
set_option maxHeartbeats 16000000
set_option maxRecDepth 100000
abbrev cRou (s:Snap) (r:Rule):List Value:=q8U (q9A s r)
theorem qiU (g:GW) {a b d:Value} {s:Snap} (hs:q5H g [a,b,d] s) (hsz:s.rules.length≤1000000):Ok Tryz.prog qFP [.agg ⟨[a,b,d]⟩] g fun v g'=>∃ oa n cap,v=.agg ⟨[a,.slice oa n cap,d]⟩∧rSl 4 qAO g' (.slice oa n cap) (qaD s).routes:=by
 obtain⟨_,_,_,he,hl,hr,hk⟩:=hs
 cases he
 obtain⟨oa,ca,rfl,a1,a2,a0,hl1⟩:=id hl
 obtain⟨ob,cb,rfl,b1,b2,b0,hr1⟩:=id hr
 obtain⟨od,cd,rfl,d1,d2,d0,hk1⟩:=id hk
 exact Ok.of_fn hm noT 0 qgO (args:=[.v (.agg ⟨[.slice oa s.listens.length ca,.slice ob s.rules.length cb,.slice od s.clusters.length cd]⟩)]) (by
  repeat((conv=>whnf);first|refine qz ?_|intro(_:Nat)|intro(_:OA)_)
  rename_i p0 p1 p2
  conv=>whnf
  refine⟨Nat×Option Addr×Nat,fun (k,_,_)=>[.v (.int .i64 k)],fun (k,oR,cR)=>⟨g,[.row 10 oR k cR qlC 4 ((s.rules.take k).map (cRou s)).flatten,.blk 2 p2 q5B [.v (.slice oa s.listens.length ca),.row 10 oR k cR,.v (.slice od s.clusters.length cd)],.blk 1 p1 q5B [.v (.slice none 0 0),.v (.slice none 0 0),.v (.slice none 0 0)],.blk 0 p0 quA [.v (.slice oa s.listens.length ca),.v (.slice ob s.rules.length cb),.v (.slice od s.clusters.length cd)]],40,g.w.heap.size⟩,fun (k,_,_)=>k≤s.rules.length,fun (k,_,_)=>s.rules.length-k,?_,?_⟩
  ·intro fr w hw
   exact⟨(0,none,0),rfl,Nat.zero_le _,(hw.nil_row (nx':=40) 10 qlC 4).fit (by simp [fitL,Res.eqv,qBA,conc])⟩
  rintro⟨k,oR,cR⟩ hkk
  have hkk:k≤s.rules.length:=hkk
  repeat((conv=>whnf);first|refine qz ?_|intro(_:Nat)|intro(_:OA)_)
  conv=>whnf
  refine⟨fun hlt=>?_,fun hlt=>?_⟩
  ·have h':k<s.rules.length:=by have:=of_decide_eq_true hlt;omega
   obtain⟨⟨rl,rh,rp,rc⟩,hx⟩:=qAA h'
   obtain⟨a,rfl,ec,hec,⟨rfl,_,_⟩,hc⟩:=hr1 k _ hx
   have hT:=qSS (f:=cRou s) hx
   repeat((conv=>whnf);first|refine qz ?_|intro(_:Nat)|intro(_:OA)_)
   conv=>whnf
   refine⟨a,rfl,⟨by omega,by omega⟩,?_⟩
   conv=>whnf
   refine⟨_,⟨rfl,hc⟩,?_⟩
   repeat((conv=>whnf);first|refine qz ?_|intro(_:Nat)|intro(_:OA)_)
   by_cases hA:0≤rl∧rl<s.listens.length
   ·obtain⟨n,rfl⟩:=Int.eq_ofNat_of_zero_le hA.1
    obtain⟨y,hy⟩:=qAA (show n<s.listens.length by omega)
    obtain⟨aL,rfl,ecL,hecL,rfl,hcL⟩:=hl1 n y hy
    have hAn:qQK s.listens (n:Int)=y:=by unfold qQK;rw [if_pos hA];simp [hy]
    conv=>whnf
    refine⟨fun _=>?_,fun hx=>absurd (((decide_eq_true hA.1)).symm.trans hx) (by decide)⟩
    repeat((conv=>whnf);first|refine qz ?_|intro(_:Nat)|intro(_:OA)_)
    conv=>whnf
    refine⟨fun _=>?_,fun hx=>absurd (((decide_eq_true hA.2)).symm.trans hx) (by decide)⟩
    repeat((conv=>whnf);first|refine qz ?_|intro(_:Nat)|intro(_:OA)_)
    conv=>whnf
    refine⟨aL,rfl,⟨hA.1,hA.2⟩,?_⟩
    conv=>whnf
    refine⟨_,hcL 0 _ rfl,?_⟩
    repeat((conv=>whnf);first|refine qz ?_|intro(_:Nat)|intro(_:OA)_)
    by_cases hC:0≤rc∧rc<s.clusters.length
    ·obtain⟨m,rfl⟩:=Int.eq_ofNat_of_zero_le hC.1
     obtain⟨z,hz⟩:=qAA (show m<s.clusters.length by omega)
     obtain⟨aC,rfl,ecC,hecC,⟨hv,rfl,_,_,_,_,rfl,_⟩,hcC⟩:=hk1 m z hz
     have hCn:qWB s.clusters (m:Int)=z.name:=by unfold qWB;rw [if_pos hC];simp [hz]
     conv=>whnf
     refine⟨fun _=>?_,fun hx=>absurd (((decide_eq_true hC.1)).symm.trans hx) (by decide)⟩
     repeat((conv=>whnf);first|refine qz ?_|intro(_:Nat)|intro(_:OA)_)
     conv=>whnf
     refine⟨fun _=>?_,fun hx=>absurd (((decide_eq_true hC.2)).symm.trans hx) (by decide)⟩
     repeat((conv=>whnf);first|refine qz ?_|intro(_:Nat)|intro(_:OA)_)
     conv=>whnf
     refine⟨aC,rfl,⟨hC.1,hC.2⟩,?_⟩
     conv=>whnf
     refine⟨_,hcC 0 _ rfl,?_⟩
     repeat((conv=>whnf);first|refine qz ?_|intro(_:Nat)|intro(_:OA)_)
     conv=>whnf
     refine⟨⟨by unfold maxLen;omega,by omega⟩,fun oa2 cap2=>?_⟩
     repeat((conv=>whnf);first|refine qz ?_|intro(_:Nat)|intro(_:OA)_)
     conv=>whnf
     refine fun fr w hw=>⟨(k+1,oa2,cap2),congrArg (fun z=>[Value.int .i64 z]) (wr1 h' b1 b2).symm,h',dec h',hw.fit ?_⟩
     simp only [hT]
     simp [fitL,Res.eqv,qBA,conc,q9A,hAn,hCn]
    have hCn:qWB s.clusters rc=⟨#[]⟩:=by unfold qWB;rw [if_neg hC]
    by_cases hC0:0≤rc
    ·conv=>whnf
     refine⟨fun _=>?_,fun hx=>absurd (((decide_eq_true hC0)).symm.trans hx) (by decide)⟩
     repeat((conv=>whnf);first|refine qz ?_|intro(_:Nat)|intro(_:OA)_)
     conv=>whnf
     refine⟨fun hx=>absurd (hx.symm.trans ((decide_eq_false (show ¬ rc<s.clusters.length from fun h=>hC ⟨hC0,h⟩)))) (by decide),fun _=>?_⟩
     repeat((conv=>whnf);first|refine qz ?_|intro(_:Nat)|intro(_:OA)_)
     conv=>whnf
     refine⟨⟨by unfold maxLen;omega,by omega⟩,fun oa2 cap2=>?_⟩
     repeat((conv=>whnf);first|refine qz ?_|intro(_:Nat)|intro(_:OA)_)
     conv=>whnf
     refine fun fr w hw=>⟨(k+1,oa2,cap2),congrArg (fun z=>[Value.int .i64 z]) (wr1 h' b1 b2).symm,h',dec h',hw.fit ?_⟩
     simp only [hT]
     simp [fitL,Res.eqv,qBA,conc,q9A,hAn,hCn]
    ·conv=>whnf
     refine⟨fun hx=>absurd (hx.symm.trans ((decide_eq_false hC0))) (by decide),fun _=>?_⟩
     repeat((conv=>whnf);first|refine qz ?_|intro(_:Nat)|intro(_:OA)_)
     conv=>whnf
     refine⟨⟨by unfold maxLen;omega,by omega⟩,fun oa2 cap2=>?_⟩
     repeat((conv=>whnf);first|refine qz ?_|intro(_:Nat)|intro(_:OA)_)
     conv=>whnf
     refine fun fr w hw=>⟨(k+1,oa2,cap2),congrArg (fun z=>[Value.int .i64 z]) (wr1 h' b1 b2).symm,h',dec h',hw.fit ?_⟩
     simp only [hT]
     simp [fitL,Res.eqv,qBA,conc,q9A,hAn,hCn]
   have hAn:qQK s.listens rl=⟨#[]⟩:=by unfold qQK;rw [if_neg hA]
   by_cases hA0:0≤rl
   ·conv=>whnf
    refine⟨fun _=>?_,fun hx=>absurd (((decide_eq_true hA0)).symm.trans hx) (by decide)⟩
    repeat((conv=>whnf);first|refine qz ?_|intro(_:Nat)|intro(_:OA)_)
    conv=>whnf
    refine⟨fun hx=>absurd (hx.symm.trans ((decide_eq_false (show ¬ rl<s.listens.length from fun h=>hA ⟨hA0,h⟩)))) (by decide),fun _=>?_⟩
    repeat((conv=>whnf);first|refine qz ?_|intro(_:Nat)|intro(_:OA)_)
    by_cases hC:0≤rc∧rc<s.clusters.length
    ·obtain⟨m,rfl⟩:=Int.eq_ofNat_of_zero_le hC.1
     obtain⟨z,hz⟩:=qAA (show m<s.clusters.length by omega)
     obtain⟨aC,rfl,ecC,hecC,⟨hv,rfl,_,_,_,_,rfl,_⟩,hcC⟩:=hk1 m z hz
     have hCn:qWB s.clusters (m:Int)=z.name:=by unfold qWB;rw [if_pos hC];simp [hz]
     conv=>whnf
     refine⟨fun _=>?_,fun hx=>absurd (((decide_eq_true hC.1)).symm.trans hx) (by decide)⟩
     repeat((conv=>whnf);first|refine qz ?_|intro(_:Nat)|intro(_:OA)_)
     conv=>whnf
     refine⟨fun _=>?_,fun hx=>absurd (((decide_eq_true hC.2)).symm.trans hx) (by decide)⟩
     repeat((conv=>whnf);first|refine qz ?_|intro(_:Nat)|intro(_:OA)_)
     conv=>whnf
     refine⟨aC,rfl,⟨hC.1,hC.2⟩,?_⟩
     conv=>whnf
     refine⟨_,hcC 0 _ rfl,?_⟩
     repeat((conv=>whnf);first|refine qz ?_|intro(_:Nat)|intro(_:OA)_)
     conv=>whnf
     refine⟨⟨by unfold maxLen;omega,by omega⟩,fun oa2 cap2=>?_⟩
     repeat((conv=>whnf);first|refine qz ?_|intro(_:Nat)|intro(_:OA)_)
     conv=>whnf
     refine fun fr w hw=>⟨(k+1,oa2,cap2),congrArg (fun z=>[Value.int .i64 z]) (wr1 h' b1 b2).symm,h',dec h',hw.fit ?_⟩
     simp only [hT]
     simp [fitL,Res.eqv,qBA,conc,q9A,hAn,hCn]
    have hCn:qWB s.clusters rc=⟨#[]⟩:=by unfold qWB;rw [if_neg hC]
    by_cases hC0:0≤rc
    ·conv=>whnf
     refine⟨fun _=>?_,fun hx=>absurd (((decide_eq_true hC0)).symm.trans hx) (by decide)⟩
     repeat((conv=>whnf);first|refine qz ?_|intro(_:Nat)|intro(_:OA)_)
     conv=>whnf
     refine⟨fun hx=>absurd (hx.symm.trans ((decide_eq_false (show ¬ rc<s.clusters.length from fun h=>hC ⟨hC0,h⟩)))) (by decide),fun _=>?_⟩
     repeat((conv=>whnf);first|refine qz ?_|intro(_:Nat)|intro(_:OA)_)
     conv=>whnf
     refine⟨⟨by unfold maxLen;omega,by omega⟩,fun oa2 cap2=>?_⟩
     repeat((conv=>whnf);first|refine qz ?_|intro(_:Nat)|intro(_:OA)_)
     conv=>whnf
     refine fun fr w hw=>⟨(k+1,oa2,cap2),congrArg (fun z=>[Value.int .i64 z]) (wr1 h' b1 b2).symm,h',dec h',hw.fit ?_⟩
     simp only [hT]
     simp [fitL,Res.eqv,qBA,conc,q9A,hAn,hCn]
    ·conv=>whnf
     refine⟨fun hx=>absurd (hx.symm.trans ((decide_eq_false hC0))) (by decide),fun _=>?_⟩
     repeat((conv=>whnf);first|refine qz ?_|intro(_:Nat)|intro(_:OA)_)
     conv=>whnf
     refine⟨⟨by unfold maxLen;omega,by omega⟩,fun oa2 cap2=>?_⟩
     repeat((conv=>whnf);first|refine qz ?_|intro(_:Nat)|intro(_:OA)_)
     conv=>whnf
     refine fun fr w hw=>⟨(k+1,oa2,cap2),congrArg (fun z=>[Value.int .i64 z]) (wr1 h' b1 b2).symm,h',dec h',hw.fit ?_⟩
     simp only [hT]
     simp [fitL,Res.eqv,qBA,conc,q9A,hAn,hCn]
   ·conv=>whnf
    refine⟨fun hx=>absurd (hx.symm.trans ((decide_eq_false hA0))) (by decide),fun _=>?_⟩
    repeat((conv=>whnf);first|refine qz ?_|intro(_:Nat)|intro(_:OA)_)
    by_cases hC:0≤rc∧rc<s.clusters.length
    ·obtain⟨m,rfl⟩:=Int.eq_ofNat_of_zero_le hC.1
     obtain⟨z,hz⟩:=qAA (show m<s.clusters.length by omega)
     obtain⟨aC,rfl,ecC,hecC,⟨hv,rfl,_,_,_,_,rfl,_⟩,hcC⟩:=hk1 m z hz
     have hCn:qWB s.clusters (m:Int)=z.name:=by unfold qWB;rw [if_pos hC];simp [hz]
     conv=>whnf
     refine⟨fun _=>?_,fun hx=>absurd (((decide_eq_true hC.1)).symm.trans hx) (by decide)⟩
     repeat((conv=>whnf);first|refine qz ?_|intro(_:Nat)|intro(_:OA)_)
     conv=>whnf
     refine⟨fun _=>?_,fun hx=>absurd (((decide_eq_true hC.2)).symm.trans hx) (by decide)⟩
     repeat((conv=>whnf);first|refine qz ?_|intro(_:Nat)|intro(_:OA)_)
     conv=>whnf
     refine⟨aC,rfl,⟨hC.1,hC.2⟩,?_⟩
     conv=>whnf
     refine⟨_,hcC 0 _ rfl,?_⟩
     repeat((conv=>whnf);first|refine qz ?_|intro(_:Nat)|intro(_:OA)_)
     conv=>whnf
     refine⟨⟨by unfold maxLen;omega,by omega⟩,fun oa2 cap2=>?_⟩
     repeat((conv=>whnf);first|refine qz ?_|intro(_:Nat)|intro(_:OA)_)
     conv=>whnf
     refine fun fr w hw=>⟨(k+1,oa2,cap2),congrArg (fun z=>[Value.int .i64 z]) (wr1 h' b1 b2).symm,h',dec h',hw.fit ?_⟩
     simp only [hT]
     simp [fitL,Res.eqv,qBA,conc,q9A,hAn,hCn]
    have hCn:qWB s.clusters rc=⟨#[]⟩:=by unfold qWB;rw [if_neg hC]
    by_cases hC0:0≤rc
    ·conv=>whnf
     refine⟨fun _=>?_,fun hx=>absurd (((decide_eq_true hC0)).symm.trans hx) (by decide)⟩
     repeat((conv=>whnf);first|refine qz ?_|intro(_:Nat)|intro(_:OA)_)
     conv=>whnf
     refine⟨fun hx=>absurd (hx.symm.trans ((decide_eq_false (show ¬ rc<s.clusters.length from fun h=>hC ⟨hC0,h⟩)))) (by decide),fun _=>?_⟩
     repeat((conv=>whnf);first|refine qz ?_|intro(_:Nat)|intro(_:OA)_)
     conv=>whnf
     refine⟨⟨by unfold maxLen;omega,by omega⟩,fun oa2 cap2=>?_⟩
     repeat((conv=>whnf);first|refine qz ?_|intro(_:Nat)|intro(_:OA)_)
     conv=>whnf
     refine fun fr w hw=>⟨(k+1,oa2,cap2),congrArg (fun z=>[Value.int .i64 z]) (wr1 h' b1 b2).symm,h',dec h',hw.fit ?_⟩
     simp only [hT]
     simp [fitL,Res.eqv,qBA,conc,q9A,hAn,hCn]
    ·conv=>whnf
     refine⟨fun hx=>absurd (hx.symm.trans ((decide_eq_false hC0))) (by decide),fun _=>?_⟩
     repeat((conv=>whnf);first|refine qz ?_|intro(_:Nat)|intro(_:OA)_)
     conv=>whnf
     refine⟨⟨by unfold maxLen;omega,by omega⟩,fun oa2 cap2=>?_⟩
     repeat((conv=>whnf);first|refine qz ?_|intro(_:Nat)|intro(_:OA)_)
     conv=>whnf
     refine fun fr w hw=>⟨(k+1,oa2,cap2),congrArg (fun z=>[Value.int .i64 z]) (wr1 h' b1 b2).symm,h',dec h',hw.fit ?_⟩
     simp only [hT]
     simp [fitL,Res.eqv,qBA,conc,q9A,hAn,hCn]
  have hz1:k=s.rules.length:=by have:=of_decide_eq_false hlt;omega
  subst hz1
  repeat((conv=>whnf);first|refine qz ?_|intro(_:Nat)|intro(_:OA)_)
  conv=>whnf
  refine fun g1 hg1 hn1 hp1=>?_
  conv=>whnf
  intro g2 hg
  refine⟨_,_,_,rfl,(qjM hp1.rd (qaD s).routes q8U ?_ (by simp [qaD]) (fun _ _=>rfl) fun _ _=>rfl).mono qEJ hg⟩
  rw [List.take_of_length_le (Nat.le_refl _)];simp [qaD,List.map_map,Function.comp_def])
/- What is the same. -/
open Go.Proofs.YthonngjhelcpeaaGreat.Sx Go.RowKit
theorem qdO {α:Type} {l m:List α} {k:Nat} {x y:α} (h:l.take k=m.take k) (hx:l[k]?=some x) (hy:m[k]?=some y) (e:x=y):l.take (k+1)=m.take (k+1):=by
 obtain⟨h1,h2⟩:=List.getElem?_eq_some_iff.1 hx
 obtain⟨h3,h4⟩:=List.getElem?_eq_some_iff.1 hy
 rw [List.take_succ_eq_append_getElem h1,List.take_succ_eq_append_getElem h3,h,h2,h4,e]
theorem qUV {a b:Snap} (h1:a.listens=b.listens) (h2:a.rules=b.rules) (h3:a.clusters=b.clusters):a=b:=by
 cases a;cases b;simp_all
theorem qQQ (g:GW) {v v':Value} {l m:List BA} (hl:rSl 1 rStr g v l) (hm':rSl 1 rStr g v' m):OkV Tryz.prog qOF [v,v'] g (.bool (eqB l m)):=by
 obtain⟨oa,ca,rfl,a1,a2,a0,hl1⟩:=id hl
 obtain⟨ob,cb,rfl,b1,b2,b0,hr1⟩:=id hm'
 exact Ok.of_fn hm noT 0 qEF (args:=[.v (.slice oa l.length ca),.v (.slice ob m.length cb)]) (by
  repeat((conv=>whnf);first|refine qz ?_|intro(_:Nat))
  conv=>whnf
  refine⟨fun k3=>?_,fun k3=>?_⟩
  ·conv=>whnf
   intro g2 hg
   rw [q1N (fun e=>by rw [e] at k3;simp at k3)]
  have k3:l.length=m.length:=by simp at k3;omega
  repeat((conv=>whnf);first|refine qz ?_|intro(_:Nat))
  conv=>whnf
  refine⟨Nat,fun k=>[.v (.int .i64 k)],fun _=>⟨g,[],_,_⟩,fun k=>k≤l.length∧l.take k=m.take k,fun k=>l.length-k,qFA 0 rfl ⟨Nat.zero_le _,rfl⟩ rfl,?_⟩
  rintro k ⟨hkk,hp⟩
  repeat((conv=>whnf);first|refine qz ?_|intro(_:Nat))
  conv=>whnf
  refine⟨fun hlt=>?_,fun hlt=>?_⟩
  ·have h':k<l.length:=by have:=of_decide_eq_true hlt;omega
   obtain⟨u,hu⟩:=qAA h'
   obtain⟨v,hv⟩:=qAA (show k<m.length by omega)
   obtain⟨a,rfl,ec,hec,rfl,hc⟩:=hl1 k u hu
   obtain⟨a',rfl,ec',hec',rfl,hc'⟩:=hr1 k v hv
   repeat((conv=>whnf);first|refine qz ?_|intro(_:Nat))
   conv=>whnf
   refine⟨a,rfl,⟨by omega,by omega⟩,?_⟩
   conv=>whnf
   refine⟨_,hc 0 _ rfl,?_⟩
   repeat((conv=>whnf);first|refine qz ?_|intro(_:Nat))
   conv=>whnf
   refine⟨a',rfl,⟨by omega,by omega⟩,?_⟩
   conv=>whnf
   refine⟨_,hc' 0 _ rfl,?_⟩
   repeat((conv=>whnf);first|refine qz ?_|intro(_:Nat))
   conv=>whnf
   refine⟨fun he=>?_,fun he=>?_⟩
   ·conv=>whnf
    intro g2 hg
    rw [q1N (fun e=>?_)]
    rw [← e,hu] at hv
    cases hv
    simp at he
   ·have huv:u=v:=qHR (by simpa using he)
    conv=>whnf
    refine fun fr w hw=>⟨k+1,congrArg (fun z=>[Value.int .i64 z]) (wr1 h' a1 a2).symm,⟨h',qdO hp hu hv huv⟩,dec h',hw⟩
  ·conv=>whnf
   intro g2 hg
   have:=of_decide_eq_false hlt
   rw [List.take_of_length_le (by omega),List.take_of_length_le (by omega)] at hp
   rw [q0N hp])
theorem qpM (g:GW) {v v':Value} {l m:List Cluster} (hl:rSl 4 qtB g v l) (hm':rSl 4 qtB g v' m):OkV Tryz.prog qSE [v,v'] g (.bool (eqB l m)):=by
 obtain⟨oa,ca,rfl,a1,a2,a0,hl1⟩:=id hl
 obtain⟨ob,cb,rfl,b1,b2,b0,hr1⟩:=id hm'
 exact Ok.of_fn hm noT 0 qLE (args:=[.v (.slice oa l.length ca),.v (.slice ob m.length cb)]) (by
  repeat((conv=>whnf);first|refine qz ?_|intro(_:Nat))
  conv=>whnf
  refine⟨fun k3=>?_,fun k3=>?_⟩
  ·conv=>whnf
   intro g2 hg
   rw [q1N (fun e=>by rw [e] at k3;simp at k3)]
  have k3:l.length=m.length:=by simp at k3;omega
  repeat((conv=>whnf);first|refine qz ?_|intro(_:Nat))
  conv=>whnf
  refine⟨Nat,fun k=>[.v (.int .i64 k)],fun _=>⟨g,[],_,_⟩,fun k=>k≤l.length∧l.take k=m.take k,fun k=>l.length-k,qFA 0 rfl ⟨Nat.zero_le _,rfl⟩ rfl,?_⟩
  rintro k ⟨hkk,hp⟩
  repeat((conv=>whnf);first|refine qz ?_|intro(_:Nat))
  conv=>whnf
  refine⟨fun hlt=>?_,fun hlt=>?_⟩
  rotate_left
  ·conv=>whnf
   intro g2 hg
   have:=of_decide_eq_false hlt
   rw [List.take_of_length_le (by omega),List.take_of_length_le (by omega)] at hp
   rw [q0N hp]
  have h':k<l.length:=by have:=of_decide_eq_true hlt;omega
  obtain⟨u,hu⟩:=qAA h'
  obtain⟨v,hv⟩:=qAA (show k<m.length by omega)
  obtain⟨a,rfl,ec,hec,⟨hvu,rfl,_,_,ohu,chu,rfl,q1,q2,q0,hq⟩,hc⟩:=hl1 k u hu
  obtain⟨a',rfl,ec',hec',⟨hvv,rfl,_,_,ohv,chv,rfl,r1,r2,r0,hr⟩,hc'⟩:=hr1 k v hv
  have ne:u≠v→eqB l m=false:=fun h=>q1N fun e=>h (by rw [e,hv] at hu;cases hu;rfl)
  repeat((conv=>whnf);first|refine qz ?_|intro(_:Nat))
  conv=>whnf
  refine⟨a,rfl,⟨by omega,by omega⟩,?_⟩
  conv=>whnf
  refine⟨_,hc 0 _ rfl,?_⟩
  repeat((conv=>whnf);first|refine qz ?_|intro(_:Nat))
  conv=>whnf
  refine⟨a',rfl,⟨by omega,by omega⟩,?_⟩
  conv=>whnf
  refine⟨_,hc' 0 _ rfl,?_⟩
  repeat((conv=>whnf);first|refine qz ?_|intro(_:Nat))
  conv=>whnf
  refine⟨fun c0=>?_,fun c0=>?_⟩
  ·conv=>whnf
   intro g2 hg
   rw [ne fun e=>by subst e;simp at c0]
  repeat((conv=>whnf);first|refine qz ?_|intro(_:Nat))
  conv=>whnf
  refine⟨a,rfl,⟨by omega,by omega⟩,?_⟩
  conv=>whnf
  refine⟨_,hc 1 _ rfl,?_⟩
  repeat((conv=>whnf);first|refine qz ?_|intro(_:Nat))
  conv=>whnf
  refine⟨a',rfl,⟨by omega,by omega⟩,?_⟩
  conv=>whnf
  refine⟨_,hc' 1 _ rfl,?_⟩
  repeat((conv=>whnf);first|refine qz ?_|intro(_:Nat))
  conv=>whnf
  refine⟨fun c1=>?_,fun c1=>?_⟩
  ·conv=>whnf
   intro g2 hg
   rw [ne fun e=>by subst e;simp at c1]
  repeat((conv=>whnf);first|refine qz ?_|intro(_:Nat))
  conv=>whnf
  refine⟨a,rfl,⟨by omega,by omega⟩,?_⟩
  conv=>whnf
  refine⟨_,hc 2 _ rfl,?_⟩
  repeat((conv=>whnf);first|refine qz ?_|intro(_:Nat))
  conv=>whnf
  refine⟨a',rfl,⟨by omega,by omega⟩,?_⟩
  conv=>whnf
  refine⟨_,hc' 2 _ rfl,?_⟩
  repeat((conv=>whnf);first|refine qz ?_|intro(_:Nat))
  conv=>whnf
  refine⟨fun c2=>?_,fun c2=>?_⟩
  ·conv=>whnf
   intro g2 hg
   rw [ne fun e=>by subst e;simp at c2]
  repeat((conv=>whnf);first|refine qz ?_|intro(_:Nat))
  conv=>whnf
  refine⟨a,rfl,⟨by omega,by omega⟩,?_⟩
  conv=>whnf
  refine⟨_,hc 3 _ rfl,?_⟩
  repeat((conv=>whnf);first|refine qz ?_|intro(_:Nat))
  conv=>whnf
  refine⟨a',rfl,⟨by omega,by omega⟩,?_⟩
  conv=>whnf
  refine⟨_,hc' 3 _ rfl,?_⟩
  repeat((conv=>whnf);first|refine qz ?_|intro(_:Nat))
  conv=>whnf
  refine⟨fun c3=>?_,fun c3=>?_⟩
  ·conv=>whnf
   intro g2 hg
   rw [ne fun e=>by subst e;simp at c3]
  have d0:u.name=v.name:=qHR (by simpa using c0)
  have d1:u.policy=v.policy:=by simpa using c1
  have d2:u.slots=v.slots:=by simpa using c2
  have d3:u.health.length=v.health.length:=by simp at c3;omega
  clear c0 c1 c2 c3
  repeat((conv=>whnf);first|refine qz ?_|intro(_:Nat))
  conv=>whnf
  refine⟨Nat,fun n=>[.v (.int .i64 n)],fun _=>⟨g,[],_,_⟩,fun n=>n≤u.health.length∧u.health.take n=v.health.take n,fun n=>u.health.length-n,qFA 0 rfl ⟨Nat.zero_le _,rfl⟩ rfl,?_⟩
  rintro n ⟨hnn,hpn⟩
  repeat((conv=>whnf);first|refine qz ?_|intro(_:Nat))
  conv=>whnf
  refine⟨a,rfl,⟨by omega,by omega⟩,?_⟩
  conv=>whnf
  refine⟨_,hc 3 _ rfl,?_⟩
  repeat((conv=>whnf);first|refine qz ?_|intro(_:Nat))
  conv=>whnf
  refine⟨fun hltn=>?_,fun hltn=>?_⟩
  ·have hn':n<u.health.length:=by have:=of_decide_eq_true hltn;omega
   obtain⟨p,hp'⟩:=qAA hn'
   obtain⟨q,hq'⟩:=qAA (show n<v.health.length by omega)
   obtain⟨aa,rfl,ecc,hecc,rfl,hcc⟩:=hq n p hp'
   obtain⟨aa',rfl,ecc',hecc',rfl,hcc'⟩:=hr n q hq'
   conv=>whnf
   refine⟨a,rfl,⟨by omega,by omega⟩,?_⟩
   conv=>whnf
   refine⟨_,hc 3 _ rfl,?_⟩
   repeat((conv=>whnf);first|refine qz ?_|intro(_:Nat))
   conv=>whnf
   refine⟨aa,rfl,⟨by omega,by omega⟩,?_⟩
   conv=>whnf
   refine⟨_,hcc 0 _ rfl,?_⟩
   repeat((conv=>whnf);first|refine qz ?_|intro(_:Nat))
   conv=>whnf
   refine⟨a',rfl,⟨by omega,by omega⟩,?_⟩
   conv=>whnf
   refine⟨_,hc' 3 _ rfl,?_⟩
   repeat((conv=>whnf);first|refine qz ?_|intro(_:Nat))
   conv=>whnf
   refine⟨aa',rfl,⟨by omega,by omega⟩,?_⟩
   conv=>whnf
   refine⟨_,hcc' 0 _ rfl,?_⟩
   repeat((conv=>whnf);first|refine qz ?_|intro(_:Nat))
   conv=>whnf
   refine⟨fun he=>?_,fun he=>?_⟩
   ·conv=>whnf
    intro g2 hg
    rw [ne fun e=>?_]
    subst e
    rw [hp'] at hq'
    cases hq'
    simp at he
   ·conv=>whnf
    refine fun fr w hw=>⟨n+1,congrArg (fun z=>[Value.int .i64 z]) (wr1 hn' q1 q2).symm,⟨hn',qdO hpn hp' hq' (by simpa using he)⟩,dec hn',hw⟩
  have huv:u=v:=qOS d0 d1 d2 (by
   have:=of_decide_eq_false hltn
   rwa [List.take_of_length_le (by omega),List.take_of_length_le (by omega)] at hpn)
  conv=>whnf
  refine fun fr w hw=>⟨k+1,congrArg (fun z=>[Value.int .i64 z]) (wr1 h' a1 a2).symm,⟨h',qdO hp hu hv huv⟩,dec h',hw⟩)
theorem qCX (g:GW) {cs cs':List Value} {x y:Snap} (hx:q5H g cs x) (hy:q5H g cs' y):OkV Tryz.prog qTJ [.agg ⟨cs⟩,.agg ⟨cs'⟩] g (.bool (eqB x y)):=by
 obtain⟨a,b,d,rfl,hl,hr,hk⟩:=hx
 obtain⟨a',b',d',rfl,hl',hr',hk'⟩:=hy
 obtain⟨oa,ca,rfl,a1,a2,a0,hl1⟩:=id hl
 obtain⟨ob,cb,rfl,b1,b2,b0,hr1⟩:=id hr
 obtain⟨od,cd,rfl,d1,d2,d0,hk1⟩:=id hk
 obtain⟨oe,ce,rfl,e1,e2,e0,hl1'⟩:=id hl'
 obtain⟨og,cg,rfl,f1,f2,f0,hr1'⟩:=id hr'
 obtain⟨oh,ch,rfl,g1,g2,g0,hk1'⟩:=id hk'
 exact Ok.of_fn hm noT 0 q4I (args:=[.v (.agg ⟨[.slice oa x.listens.length ca,.slice ob x.rules.length cb,.slice od x.clusters.length cd]⟩),.v (.agg ⟨[.slice oe y.listens.length ce,.slice og y.rules.length cg,.slice oh y.clusters.length ch]⟩)]) (by
  repeat((conv=>whnf);first|refine qz ?_|intro(_:Nat))
  conv=>whnf
  refine .inl ⟨_,qQQ _ hl hl',?_⟩
  conv=>whnf
  refine⟨fun k1=>?_,fun k1=>?_⟩
  ·conv=>whnf
   intro g2 hg
   rw [q1N (fun e=>by rw [e,q0N rfl] at k1;cases k1)]
  have k1:=eqB_iff.1 (nb0 k1)
  repeat((conv=>whnf);first|refine qz ?_|intro(_:Nat))
  conv=>whnf
  refine .inl ⟨_,qpM _ hk hk',?_⟩
  conv=>whnf
  refine⟨fun k2=>?_,fun k2=>?_⟩
  ·conv=>whnf
   intro g2 hg
   rw [q1N (fun e=>by rw [e,q0N rfl] at k2;cases k2)]
  have k2:=eqB_iff.1 (nb0 k2)
  repeat((conv=>whnf);first|refine qz ?_|intro(_:Nat))
  conv=>whnf
  refine⟨fun k3=>?_,fun k3=>?_⟩
  ·conv=>whnf
   intro g2 hg
   rw [q1N (fun e=>by rw [e] at k3;simp at k3)]
  have k3:x.rules.length=y.rules.length:=by simp at k3;omega
  repeat((conv=>whnf);first|refine qz ?_|intro(_:Nat))
  conv=>whnf
  refine⟨Nat,fun k=>[.v (.int .i64 k)],fun _=>⟨g,[.blk 1 _ _ [.v (.slice oe y.listens.length ce),.v (.slice og y.rules.length cg),.v (.slice oh y.clusters.length ch)],.blk 0 _ _ [.v (.slice oa x.listens.length ca),.v (.slice ob x.rules.length cb),.v (.slice od x.clusters.length cd)]],_,_⟩,fun k=>k≤x.rules.length∧x.rules.take k=y.rules.take k,fun k=>x.rules.length-k,qFA 0 rfl ⟨Nat.zero_le _,rfl⟩ rfl,?_⟩
  rintro k ⟨hkk,hp⟩
  repeat((conv=>whnf);first|refine qz ?_|intro(_:Nat))
  conv=>whnf
  refine⟨fun hlt=>?_,fun hlt=>?_⟩
  ·have h':k<x.rules.length:=by have:=of_decide_eq_true hlt;omega
   obtain⟨u,hu⟩:=qAA h'
   obtain⟨v,hv⟩:=qAA (show k<y.rules.length by omega)
   obtain⟨a,rfl,ec,hec,⟨rfl,_,_⟩,hc⟩:=hr1 k u hu
   obtain⟨a',rfl,ec',hec',⟨rfl,_,_⟩,hc'⟩:=hr1' k v hv
   repeat((conv=>whnf);first|refine qz ?_|intro(_:Nat))
   conv=>whnf
   refine⟨a,rfl,⟨by omega,by omega⟩,?_⟩
   conv=>whnf
   refine⟨_,⟨rfl,hc⟩,?_⟩
   repeat((conv=>whnf);first|refine qz ?_|intro(_:Nat))
   conv=>whnf
   refine⟨a',rfl,⟨by omega,by omega⟩,?_⟩
   conv=>whnf
   refine⟨_,⟨rfl,hc'⟩,?_⟩
   repeat((conv=>whnf);first|refine qz ?_|intro(_:Nat))
   conv=>whnf
   refine⟨fun he=>?_,fun he=>?_⟩
   ·conv=>whnf
    intro g2 hg
    rw [q1N (fun e=>?_)]
    rw [← e,hu] at hv
    cases hv
    simp at he
   ·have huv:u=v:=by simp only [Bool.and_eq_true,beq_iff_eq,Bool.not_eq_false'] at he;exact qYV (by simpa using he.1) (qHR (by simpa using he.2.1)) (qHR (by simpa using he.2.2.1)) (by simpa using he.2.2.2)
    conv=>whnf
    refine fun fr w hw=>⟨k+1,congrArg (fun z=>[Value.int .i64 z]) (wr1 h' b1 b2).symm,⟨h',qdO hp hu hv huv⟩,dec h',?_⟩
    exact hw.fit (by simp [fitL,Res.eqv,qBA,conc])
  ·conv=>whnf
   intro g2 hg
   have:=of_decide_eq_false hlt
   rw [q0N (show x=y from ?_)]
   rw [List.take_of_length_le (by omega),List.take_of_length_le (by omega)] at hp
   exact qUV k1 hp k2)
/- Snapshots: the document's building;whether one is right;what is found. -/
open Go.Proofs.YthonngjhelcpeaaGreat.Sx Go.RowKit
theorem qVW (g:GW) {cs:List Value} {s:Snap} (hs:q5H g cs s) (hsz:s.rules.length≤1000000):OkV Tryz.prog qqU [.agg ⟨cs⟩] g (.bool (eqB (qiA (qaD s)) none)):=by
 have hs0:=hs
 obtain⟨a,b,d,rfl,hl,hr,hk⟩:=hs
 obtain⟨oa,ca,rfl,a1,a2,a0,hl1⟩:=id hl
 obtain⟨ob,cb,rfl,b1,b2,b0,hr1⟩:=id hr
 obtain⟨od,cd,rfl,d1,d2,d0,hk1⟩:=id hk
 exact Ok.of_fn hm noT 0 q7T (args:=[.v (.agg ⟨[.slice oa s.listens.length ca,.slice ob s.rules.length cb,.slice od s.clusters.length cd]⟩)]) (by
  repeat((conv=>whnf);first|refine qz ?_|intro(_:Nat))
  conv=>whnf
  refine .inr ((qiU g hs0 hsz).mono fun v g1 hg1 hC=>?_)
  obtain⟨oR,n,cR,rfl,hrt⟩:=hC
  have hcc:qrB g1 [.slice oa s.listens.length ca,.slice oR n cR,.slice od s.clusters.length cd] (qaD s):=⟨_,_,_,rfl,hl.mono qAH hg1,hrt,hk.mono q7D hg1⟩
  rcases qyK (qiA (qaD s)) with ⟨hz,hv⟩|⟨e,i,hz,hv⟩
  ·conv=>whnf
   refine .inl ⟨_,(qmS _ hcc).to hv,?_⟩
   conv=>whnf
   intro g2 hg
   rw [q0N hz];rfl
  ·have hne:=qsD hz
   conv=>whnf
   refine .inl ⟨_,(qmS _ hcc).to hv,?_⟩
   conv=>whnf
   intro g2 hg
   rw [q1N (by rw [hz];simp)]
   exact congrArg Value.bool (by simp;omega))
def qlT (s:Snap) (l h p:BA):Value :=
 if idxI (idxO (fun x=>bs x==bs l) s.listens)<0 then .tuple #[.int .i64 0,.int .i64 3] else
 match quP (fitR (idxI (idxO (fun x=>bs x==bs l) s.listens)) h p) s.rules with
 | none=>.tuple #[.int .i64 0,.int .i64 5]
 | some j=>.tuple #[.int .i64 ((s.rules[j]?).map (·.cluster)).get!,.int .i64 0]
theorem qFX (g:GW) {cs:List Value} {s:Snap} (hs:q5H g cs s) (l h p:BA) (hsm:SmL s.rules∧Sm h∧Sm p):OkV Tryz.prog q2R [.agg ⟨cs⟩,.string l,.string h,.string p] g (qlT s l h p):=by
 have hs0:=hs
 obtain⟨a,b,d,rfl,hl,hr,hk⟩:=hs
 obtain⟨oa,ca,rfl,a1,a2,a0,hl1⟩:=id hl
 obtain⟨ob,cb,rfl,b1,b2,b0,hr1⟩:=id hr
 obtain⟨od,cd,rfl,d1,d2,d0,hk1⟩:=id hk
 exact Ok.of_fn hm noT 0 qUR (args:=[.v (.agg ⟨[.slice oa s.listens.length ca,.slice ob s.rules.length cb,.slice od s.clusters.length cd]⟩),.v (.string l),.v (.string h),.v (.string p)]) (by
  repeat((conv=>whnf);first|refine qz ?_|intro(_:Nat))
  conv=>whnf
  refine .inl ⟨_,qpR _ hl _,?_⟩
  conv=>whnf
  refine⟨fun k1=>?_,fun k1=>?_⟩
  ·conv=>whnf
   intro g2 hg
   rw [qlT,if_pos (of_decide_eq_true k1)]
  have k1:=of_decide_eq_false k1
  repeat((conv=>whnf);first|refine qz ?_|intro(_:Nat))
  cases hb:quP (fitR (idxI (idxO (fun x=>bs x==bs l) s.listens)) h p) s.rules with
  | none =>
   conv=>whnf
   refine .inl ⟨_,(qkU _ hr _ _ _ hsm).to (congrArg qZX hb),?_⟩
   conv=>whnf
   refine⟨fun _=>?_,fun h=>nomatch h⟩
   conv=>whnf
   intro g2 hg
   rw [qlT,if_neg k1,hb]
  | some j =>
   conv=>whnf
   refine .inl ⟨_,(qkU _ hr _ _ _ hsm).to (congrArg qZX hb),?_⟩
   conv=>whnf
   refine⟨fun h=>(nomatch h),fun _=>?_⟩
   obtain⟨r,q1,q2,_⟩:=bestO_some.1 hb
   obtain⟨a,rfl,ec,hec,⟨rfl,_,_⟩,hc⟩:=hr1 j r q1
   repeat((conv=>whnf);first|refine qz ?_|intro(_:Nat))
   conv=>whnf
   refine⟨a,rfl,⟨by omega,by omega⟩,?_⟩
   conv=>whnf
   refine⟨_,hc 3 _ rfl,?_⟩
   conv=>whnf
   intro g2 hg
   rw [qlT,if_neg k1,hb]
   simp [q1])
/- Snapshots: the document's answer to: is it one? -/
open Go.Proofs.YthonngjhelcpeaaGreat.Sx Go.RowKit
theorem qnR (g:GW) {a b d:Value} {s:Snap} (hs:q5H g [a,b,d] s) (hsz:s.rules.length≤1000000):Ok Tryz.prog qFH [.agg ⟨[a,b,d]⟩] g fun v g'=>∃ oa n cap,v=.agg ⟨[a,.slice oa n cap,d]⟩∧rSl 4 qAO g' (.slice oa n cap) (qaD s).routes:=by
 obtain⟨_,_,_,he,hl,hr,hk⟩:=hs
 cases he
 obtain⟨oa,ca,rfl,a1,a2,a0,hl1⟩:=id hl
 obtain⟨ob,cb,rfl,b1,b2,b0,hr1⟩:=id hr
 obtain⟨od,cd,rfl,d1,d2,d0,hk1⟩:=id hk
 exact Ok.of_fn hm noT 0 qyG (args:=[.v (.agg ⟨[.slice oa s.listens.length ca,.slice ob s.rules.length cb,.slice od s.clusters.length cd]⟩)]) (by
  repeat((conv=>whnf);first|refine qz ?_|intro(_:Nat)|intro(_:OA)_)
  rename_i p0 p1 p2
  conv=>whnf
  refine⟨Nat×Option Addr×Nat,fun (k,_,_)=>[.v (.int .i64 k)],fun (k,oR,cR)=>⟨g,[.row 10 oR k cR qlC 4 ((s.rules.take k).map (cRou s)).flatten,.blk 2 p2 q5B [.v (.slice oa s.listens.length ca),.row 10 oR k cR,.v (.slice od s.clusters.length cd)],.blk 1 p1 q5B [.v (.slice none 0 0),.v (.slice none 0 0),.v (.slice none 0 0)],.blk 0 p0 quA [.v (.slice oa s.listens.length ca),.v (.slice ob s.rules.length cb),.v (.slice od s.clusters.length cd)]],40,g.w.heap.size⟩,fun (k,_,_)=>k≤s.rules.length,fun (k,_,_)=>s.rules.length-k,?_,?_⟩
  ·intro fr w hw
   exact⟨(0,none,0),rfl,Nat.zero_le _,(hw.nil_row (nx':=40) 10 qlC 4).fit (by simp [fitL,Res.eqv,qBA,conc])⟩
  rintro⟨k,oR,cR⟩ hkk
  have hkk:k≤s.rules.length:=hkk
  repeat((conv=>whnf);first|refine qz ?_|intro(_:Nat)|intro(_:OA)_)
  conv=>whnf
  refine⟨fun hlt=>?_,fun hlt=>?_⟩
  ·have h':k<s.rules.length:=by have:=of_decide_eq_true hlt;omega
   obtain⟨⟨rl,rh,rp,rc⟩,hx⟩:=qAA h'
   obtain⟨a,rfl,ec,hec,⟨rfl,_,_⟩,hc⟩:=hr1 k _ hx
   have hT:=qSS (f:=cRou s) hx
   repeat((conv=>whnf);first|refine qz ?_|intro(_:Nat)|intro(_:OA)_)
   conv=>whnf
   refine⟨a,rfl,⟨by omega,by omega⟩,?_⟩
   conv=>whnf
   refine⟨_,⟨rfl,hc⟩,?_⟩
   repeat((conv=>whnf);first|refine qz ?_|intro(_:Nat)|intro(_:OA)_)
   by_cases hA:0≤rl∧rl<s.listens.length
   ·obtain⟨n,rfl⟩:=Int.eq_ofNat_of_zero_le hA.1
    obtain⟨y,hy⟩:=qAA (show n<s.listens.length by omega)
    obtain⟨aL,rfl,ecL,hecL,rfl,hcL⟩:=hl1 n y hy
    have hAn:qQK s.listens (n:Int)=y:=by unfold qQK;rw [if_pos hA];simp [hy]
    conv=>whnf
    refine⟨fun _=>?_,fun hx=>absurd (((decide_eq_true hA.1)).symm.trans hx) (by decide)⟩
    repeat((conv=>whnf);first|refine qz ?_|intro(_:Nat)|intro(_:OA)_)
    conv=>whnf
    refine⟨fun _=>?_,fun hx=>absurd (((decide_eq_true hA.2)).symm.trans hx) (by decide)⟩
    repeat((conv=>whnf);first|refine qz ?_|intro(_:Nat)|intro(_:OA)_)
    conv=>whnf
    refine⟨aL,rfl,⟨hA.1,hA.2⟩,?_⟩
    conv=>whnf
    refine⟨_,hcL 0 _ rfl,?_⟩
    repeat((conv=>whnf);first|refine qz ?_|intro(_:Nat)|intro(_:OA)_)
    by_cases hC:0≤rc∧rc<s.clusters.length
    ·obtain⟨m,rfl⟩:=Int.eq_ofNat_of_zero_le hC.1
     obtain⟨z,hz⟩:=qAA (show m<s.clusters.length by omega)
     obtain⟨aC,rfl,ecC,hecC,⟨hv,rfl,_,_,_,_,rfl,_⟩,hcC⟩:=hk1 m z hz
     have hCn:qWB s.clusters (m:Int)=z.name:=by unfold qWB;rw [if_pos hC];simp [hz]
     conv=>whnf
     refine⟨fun _=>?_,fun hx=>absurd (((decide_eq_true hC.1)).symm.trans hx) (by decide)⟩
     repeat((conv=>whnf);first|refine qz ?_|intro(_:Nat)|intro(_:OA)_)
     conv=>whnf
     refine⟨fun _=>?_,fun hx=>absurd (((decide_eq_true hC.2)).symm.trans hx) (by decide)⟩
     repeat((conv=>whnf);first|refine qz ?_|intro(_:Nat)|intro(_:OA)_)
     conv=>whnf
     refine⟨aC,rfl,⟨hC.1,hC.2⟩,?_⟩
     conv=>whnf
     refine⟨_,hcC 0 _ rfl,?_⟩
     repeat((conv=>whnf);first|refine qz ?_|intro(_:Nat)|intro(_:OA)_)
     conv=>whnf
     refine⟨⟨by unfold maxLen;omega,by omega⟩,fun oa2 cap2=>?_⟩
     repeat((conv=>whnf);first|refine qz ?_|intro(_:Nat)|intro(_:OA)_)
     conv=>whnf
     refine fun fr w hw=>⟨(k+1,oa2,cap2),congrArg (fun z=>[Value.int .i64 z]) (wr1 h' b1 b2).symm,h',dec h',hw.fit ?_⟩
     simp only [hT]
     simp [fitL,Res.eqv,qBA,conc,q9A,hAn,hCn]
    have hCn:qWB s.clusters rc=⟨#[]⟩:=by unfold qWB;rw [if_neg hC]
    by_cases hC0:0≤rc
    ·conv=>whnf
     refine⟨fun _=>?_,fun hx=>absurd (((decide_eq_true hC0)).symm.trans hx) (by decide)⟩
     repeat((conv=>whnf);first|refine qz ?_|intro(_:Nat)|intro(_:OA)_)
     conv=>whnf
     refine⟨fun hx=>absurd (hx.symm.trans ((decide_eq_false (show ¬ rc<s.clusters.length from fun h=>hC ⟨hC0,h⟩)))) (by decide),fun _=>?_⟩
     repeat((conv=>whnf);first|refine qz ?_|intro(_:Nat)|intro(_:OA)_)
     conv=>whnf
     refine⟨⟨by unfold maxLen;omega,by omega⟩,fun oa2 cap2=>?_⟩
     repeat((conv=>whnf);first|refine qz ?_|intro(_:Nat)|intro(_:OA)_)
     conv=>whnf
     refine fun fr w hw=>⟨(k+1,oa2,cap2),congrArg (fun z=>[Value.int .i64 z]) (wr1 h' b1 b2).symm,h',dec h',hw.fit ?_⟩
     simp only [hT]
     simp [fitL,Res.eqv,qBA,conc,q9A,hAn,hCn]
    ·conv=>whnf
     refine⟨fun hx=>absurd (hx.symm.trans ((decide_eq_false hC0))) (by decide),fun _=>?_⟩
     repeat((conv=>whnf);first|refine qz ?_|intro(_:Nat)|intro(_:OA)_)
     conv=>whnf
     refine⟨⟨by unfold maxLen;omega,by omega⟩,fun oa2 cap2=>?_⟩
     repeat((conv=>whnf);first|refine qz ?_|intro(_:Nat)|intro(_:OA)_)
     conv=>whnf
     refine fun fr w hw=>⟨(k+1,oa2,cap2),congrArg (fun z=>[Value.int .i64 z]) (wr1 h' b1 b2).symm,h',dec h',hw.fit ?_⟩
     simp only [hT]
     simp [fitL,Res.eqv,qBA,conc,q9A,hAn,hCn]
   have hAn:qQK s.listens rl=⟨#[]⟩:=by unfold qQK;rw [if_neg hA]
   by_cases hA0:0≤rl
   ·conv=>whnf
    refine⟨fun _=>?_,fun hx=>absurd (((decide_eq_true hA0)).symm.trans hx) (by decide)⟩
    repeat((conv=>whnf);first|refine qz ?_|intro(_:Nat)|intro(_:OA)_)
    conv=>whnf
    refine⟨fun hx=>absurd (hx.symm.trans ((decide_eq_false (show ¬ rl<s.listens.length from fun h=>hA ⟨hA0,h⟩)))) (by decide),fun _=>?_⟩
    repeat((conv=>whnf);first|refine qz ?_|intro(_:Nat)|intro(_:OA)_)
    by_cases hC:0≤rc∧rc<s.clusters.length
    ·obtain⟨m,rfl⟩:=Int.eq_ofNat_of_zero_le hC.1
     obtain⟨z,hz⟩:=qAA (show m<s.clusters.length by omega)
     obtain⟨aC,rfl,ecC,hecC,⟨hv,rfl,_,_,_,_,rfl,_⟩,hcC⟩:=hk1 m z hz
     have hCn:qWB s.clusters (m:Int)=z.name:=by unfold qWB;rw [if_pos hC];simp [hz]
     conv=>whnf
     refine⟨fun _=>?_,fun hx=>absurd (((decide_eq_true hC.1)).symm.trans hx) (by decide)⟩
     repeat((conv=>whnf);first|refine qz ?_|intro(_:Nat)|intro(_:OA)_)
     conv=>whnf
     refine⟨fun _=>?_,fun hx=>absurd (((decide_eq_true hC.2)).symm.trans hx) (by decide)⟩
     repeat((conv=>whnf);first|refine qz ?_|intro(_:Nat)|intro(_:OA)_)
     conv=>whnf
     refine⟨aC,rfl,⟨hC.1,hC.2⟩,?_⟩
     conv=>whnf
     refine⟨_,hcC 0 _ rfl,?_⟩
     repeat((conv=>whnf);first|refine qz ?_|intro(_:Nat)|intro(_:OA)_)
     conv=>whnf
     refine⟨⟨by unfold maxLen;omega,by omega⟩,fun oa2 cap2=>?_⟩
     repeat((conv=>whnf);first|refine qz ?_|intro(_:Nat)|intro(_:OA)_)
     conv=>whnf
     refine fun fr w hw=>⟨(k+1,oa2,cap2),congrArg (fun z=>[Value.int .i64 z]) (wr1 h' b1 b2).symm,h',dec h',hw.fit ?_⟩
     simp only [hT]
     simp [fitL,Res.eqv,qBA,conc,q9A,hAn,hCn]
    have hCn:qWB s.clusters rc=⟨#[]⟩:=by unfold qWB;rw [if_neg hC]
    by_cases hC0:0≤rc
    ·conv=>whnf
     refine⟨fun _=>?_,fun hx=>absurd (((decide_eq_true hC0)).symm.trans hx) (by decide)⟩
     repeat((conv=>whnf);first|refine qz ?_|intro(_:Nat)|intro(_:OA)_)
     conv=>whnf
     refine⟨fun hx=>absurd (hx.symm.trans ((decide_eq_false (show ¬ rc<s.clusters.length from fun h=>hC ⟨hC0,h⟩)))) (by decide),fun _=>?_⟩
     repeat((conv=>whnf);first|refine qz ?_|intro(_:Nat)|intro(_:OA)_)
     conv=>whnf
     refine⟨⟨by unfold maxLen;omega,by omega⟩,fun oa2 cap2=>?_⟩
     repeat((conv=>whnf);first|refine qz ?_|intro(_:Nat)|intro(_:OA)_)
     conv=>whnf
     refine fun fr w hw=>⟨(k+1,oa2,cap2),congrArg (fun z=>[Value.int .i64 z]) (wr1 h' b1 b2).symm,h',dec h',hw.fit ?_⟩
     simp only [hT]
     simp [fitL,Res.eqv,qBA,conc,q9A,hAn,hCn]
    ·conv=>whnf
     refine⟨fun hx=>absurd (hx.symm.trans ((decide_eq_false hC0))) (by decide),fun _=>?_⟩
     repeat((conv=>whnf);first|refine qz ?_|intro(_:Nat)|intro(_:OA)_)
     conv=>whnf
     refine⟨⟨by unfold maxLen;omega,by omega⟩,fun oa2 cap2=>?_⟩
     repeat((conv=>whnf);first|refine qz ?_|intro(_:Nat)|intro(_:OA)_)
     conv=>whnf
     refine fun fr w hw=>⟨(k+1,oa2,cap2),congrArg (fun z=>[Value.int .i64 z]) (wr1 h' b1 b2).symm,h',dec h',hw.fit ?_⟩
     simp only [hT]
     simp [fitL,Res.eqv,qBA,conc,q9A,hAn,hCn]
   ·conv=>whnf
    refine⟨fun hx=>absurd (hx.symm.trans ((decide_eq_false hA0))) (by decide),fun _=>?_⟩
    repeat((conv=>whnf);first|refine qz ?_|intro(_:Nat)|intro(_:OA)_)
    by_cases hC:0≤rc∧rc<s.clusters.length
    ·obtain⟨m,rfl⟩:=Int.eq_ofNat_of_zero_le hC.1
     obtain⟨z,hz⟩:=qAA (show m<s.clusters.length by omega)
     obtain⟨aC,rfl,ecC,hecC,⟨hv,rfl,_,_,_,_,rfl,_⟩,hcC⟩:=hk1 m z hz
     have hCn:qWB s.clusters (m:Int)=z.name:=by unfold qWB;rw [if_pos hC];simp [hz]
     conv=>whnf
     refine⟨fun _=>?_,fun hx=>absurd (((decide_eq_true hC.1)).symm.trans hx) (by decide)⟩
     repeat((conv=>whnf);first|refine qz ?_|intro(_:Nat)|intro(_:OA)_)
     conv=>whnf
     refine⟨fun _=>?_,fun hx=>absurd (((decide_eq_true hC.2)).symm.trans hx) (by decide)⟩
     repeat((conv=>whnf);first|refine qz ?_|intro(_:Nat)|intro(_:OA)_)
     conv=>whnf
     refine⟨aC,rfl,⟨hC.1,hC.2⟩,?_⟩
     conv=>whnf
     refine⟨_,hcC 0 _ rfl,?_⟩
     repeat((conv=>whnf);first|refine qz ?_|intro(_:Nat)|intro(_:OA)_)
     conv=>whnf
     refine⟨⟨by unfold maxLen;omega,by omega⟩,fun oa2 cap2=>?_⟩
     repeat((conv=>whnf);first|refine qz ?_|intro(_:Nat)|intro(_:OA)_)
     conv=>whnf
     refine fun fr w hw=>⟨(k+1,oa2,cap2),congrArg (fun z=>[Value.int .i64 z]) (wr1 h' b1 b2).symm,h',dec h',hw.fit ?_⟩
     simp only [hT]
     simp [fitL,Res.eqv,qBA,conc,q9A,hAn,hCn]
    have hCn:qWB s.clusters rc=⟨#[]⟩:=by unfold qWB;rw [if_neg hC]
    by_cases hC0:0≤rc
    ·conv=>whnf
     refine⟨fun _=>?_,fun hx=>absurd (((decide_eq_true hC0)).symm.trans hx) (by decide)⟩
     repeat((conv=>whnf);first|refine qz ?_|intro(_:Nat)|intro(_:OA)_)
     conv=>whnf
     refine⟨fun hx=>absurd (hx.symm.trans ((decide_eq_false (show ¬ rc<s.clusters.length from fun h=>hC ⟨hC0,h⟩)))) (by decide),fun _=>?_⟩
     repeat((conv=>whnf);first|refine qz ?_|intro(_:Nat)|intro(_:OA)_)
     conv=>whnf
     refine⟨⟨by unfold maxLen;omega,by omega⟩,fun oa2 cap2=>?_⟩
     repeat((conv=>whnf);first|refine qz ?_|intro(_:Nat)|intro(_:OA)_)
     conv=>whnf
     refine fun fr w hw=>⟨(k+1,oa2,cap2),congrArg (fun z=>[Value.int .i64 z]) (wr1 h' b1 b2).symm,h',dec h',hw.fit ?_⟩
     simp only [hT]
     simp [fitL,Res.eqv,qBA,conc,q9A,hAn,hCn]
    ·conv=>whnf
     refine⟨fun hx=>absurd (hx.symm.trans ((decide_eq_false hC0))) (by decide),fun _=>?_⟩
     repeat((conv=>whnf);first|refine qz ?_|intro(_:Nat)|intro(_:OA)_)
     conv=>whnf
     refine⟨⟨by unfold maxLen;omega,by omega⟩,fun oa2 cap2=>?_⟩
     repeat((conv=>whnf);first|refine qz ?_|intro(_:Nat)|intro(_:OA)_)
     conv=>whnf
     refine fun fr w hw=>⟨(k+1,oa2,cap2),congrArg (fun z=>[Value.int .i64 z]) (wr1 h' b1 b2).symm,h',dec h',hw.fit ?_⟩
     simp only [hT]
     simp [fitL,Res.eqv,qBA,conc,q9A,hAn,hCn]
  have hz1:k=s.rules.length:=by have:=of_decide_eq_false hlt;omega
  subst hz1
  repeat((conv=>whnf);first|refine qz ?_|intro(_:Nat)|intro(_:OA)_)
  conv=>whnf
  refine fun g1 hg1 hn1 hp1=>?_
  conv=>whnf
  intro g2 hg
  refine⟨_,_,_,rfl,(qjM hp1.rd (qaD s).routes q8U ?_ (by simp [qaD]) (fun _ _=>rfl) fun _ _=>rfl).mono qEJ hg⟩
  rw [List.take_of_length_le (Nat.le_refl _)];simp [qaD,List.map_map,Function.comp_def])
def SnS (s:Snap):Prop:=s.rules.length≤1000000∧∀ r∈s.rules,r.host.size≤100∧r.path.size≤100
theorem SnS.conf {s:Snap} (h:SnS s):SmC (qaD s):=by
 intro r hr
 simp only [qaD,List.mem_map] at hr
 obtain⟨x,hx,rfl⟩:=hr
 exact h.2 x hx
theorem qsW (g:GW) {cs:List Value} {s:Snap} (hs:q5H g cs s) (hsn:SnS s):OkV Tryz.prog qbL [.agg ⟨cs⟩] g (.bool (eqB (qiA (qaD s)) none)):=by
 have hsz:=hsn.1
 have hs0:=hs
 obtain⟨a,b,d,rfl,hl,hr,hk⟩:=hs
 obtain⟨oa,ca,rfl,a1,a2,a0,hl1⟩:=id hl
 obtain⟨ob,cb,rfl,b1,b2,b0,hr1⟩:=id hr
 obtain⟨od,cd,rfl,d1,d2,d0,hk1⟩:=id hk
 exact Ok.of_fn hm noT 0 qGL (args:=[.v (.agg ⟨[.slice oa s.listens.length ca,.slice ob s.rules.length cb,.slice od s.clusters.length cd]⟩)]) (by
  repeat((conv=>whnf);first|refine qz ?_|intro(_:Nat))
  conv=>whnf
  refine .inr ((qnR g hs0 hsz).mono fun v g1 hg1 hC=>?_)
  obtain⟨oR,n,cR,rfl,hrt⟩:=hC
  have hcc:qrB g1 [.slice oa s.listens.length ca,.slice oR n cR,.slice od s.clusters.length cd] (qaD s):=⟨_,_,_,rfl,hl.mono qAH hg1,hrt,hk.mono q7D hg1⟩
  rcases qyK (qiA (qaD s)) with ⟨hz,hv⟩|⟨e,i,hz,hv⟩
  ·conv=>whnf
   refine .inl ⟨_,(qSQ _ hcc hsn.conf).to hv,?_⟩
   conv=>whnf
   intro g2 hg
   rw [q0N hz];rfl
  ·have hne:=qsD hz
   conv=>whnf
   refine .inl ⟨_,(qSQ _ hcc hsn.conf).to hv,?_⟩
   conv=>whnf
   intro g2 hg
   rw [q1N (by rw [hz];simp)]
   exact congrArg Value.bool (by simp;omega))
end Go.Proofs.YthonngjhelcpeaaGreat
