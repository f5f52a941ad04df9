/- Snapshots: the configuration of one. -/
import Derived.Test.YtkbbljngpglnkaaGreatLB1
import Derived.Test.YtkbbljngpglnkaaGreatPl
set_option linter.unusedVariables false
set_option linter.unusedSimpArgs false
namespace Go.Proofs.YtkbbljngpglnkaaGreat
open Go.Proofs.YtkbbljngpglnkaaGreat.Sx Go.RowKit
set_option maxHeartbeats 16000000
set_option maxRecDepth 100000
abbrev cRou (s:Snap) (r:Rule):List Value:=qFS (qhC s r)
theorem qNQ (g:GW) {a b d:Value} {s:Snap} (hs:q7H g [a,b,d] s) (hsz:s.rules.length≤1000000):Ok Tryz.prog qOL [.agg ⟨[a,b,d]⟩] g fun v g'=>∃ oa n cap,v=.agg ⟨[a,.slice oa n cap,d]⟩∧rSl 4 q7P g' (.slice oa n cap) (qOF s).routes:=by
 obtain⟨_,_,_,he,hl,hr,hk⟩:=hs
 cases he
 obtain⟨oa,ca,rfl,a1,a2,a0,hl1⟩:=id hl
 obtain⟨ob,cb,rfl,b1,b2,b0,hr1⟩:=id hr
 obtain⟨od,cd,rfl,d1,d2,d0,hk1⟩:=id hk
 exact Ok.of_fn hm noT 0 qvK (args:=[.v (.agg ⟨[.slice oa s.listens.length ca,.slice ob s.rules.length cb,.slice od s.clusters.length cd]⟩)]) (by
  repeat((conv=>whnf);first|apply qza|apply qzb|apply qzc|apply qzd|apply qze|intro(_:Nat)|intro(_:OA)_)
  rename_i p0 p1 p2
  conv=>whnf
  refine⟨Nat×Option Addr×Nat,fun (k,_,_)=>[.v (.int .i64 k)],fun (k,oR,cR)=>⟨g,[.row 10 oR k cR qNI 4 ((s.rules.take k).map (cRou s)).flatten,.blk 2 p2 qLH [.v (.slice oa s.listens.length ca),.row 10 oR k cR,.v (.slice od s.clusters.length cd)],.blk 1 p1 qLH [.v (.slice none 0 0),.v (.slice none 0 0),.v (.slice none 0 0)],.blk 0 p0 qjA [.v (.slice oa s.listens.length ca),.v (.slice ob s.rules.length cb),.v (.slice od s.clusters.length cd)]],40,g.w.heap.size⟩,fun (k,_,_)=>k≤s.rules.length,fun (k,_,_)=>s.rules.length-k,?_,?_⟩
  ·intro fr w hw
   exact⟨(0,none,0),rfl,Nat.zero_le _,(hw.nil_row (nx':=40) 10 qNI 4).fit (by simp [fitL,Res.eqv,qAA,conc])⟩
  rintro⟨k,oR,cR⟩ hkk
  have hkk:k≤s.rules.length:=hkk
  repeat((conv=>whnf);first|apply qza|apply qzb|apply qzc|apply qzd|apply qze|intro(_:Nat)|intro(_:OA)_)
  conv=>whnf
  refine⟨fun hlt=>?_,fun hlt=>?_⟩
  ·have h':k<s.rules.length:=by have:=of_decide_eq_true hlt;omega
   obtain⟨⟨rl,rh,rp,rc⟩,hx⟩:=qBA h'
   obtain⟨a,rfl,ec,hec,⟨rfl,_,_⟩,hc⟩:=hr1 k _ hx
   have hT:=q8Q (f:=cRou s) hx
   repeat((conv=>whnf);first|apply qza|apply qzb|apply qzc|apply qzd|apply qze|intro(_:Nat)|intro(_:OA)_)
   conv=>whnf
   refine⟨a,rfl,⟨by omega,by omega⟩,?_⟩
   conv=>whnf
   refine⟨_,⟨rfl,hc⟩,?_⟩
   repeat((conv=>whnf);first|apply qza|apply qzb|apply qzc|apply qzd|apply qze|intro(_:Nat)|intro(_:OA)_)
   by_cases hA:0≤rl∧rl<s.listens.length
   ·obtain⟨n,rfl⟩:=Int.eq_ofNat_of_zero_le hA.1
    obtain⟨y,hy⟩:=qBA (show n<s.listens.length by omega)
    obtain⟨aL,rfl,ecL,hecL,rfl,hcL⟩:=hl1 n y hy
    have hAn:qYM s.listens (n:Int)=y:=by unfold qYM;rw [if_pos hA];simp [hy]
    conv=>whnf
    refine⟨fun _=>?_,fun hx=>absurd (((decide_eq_true hA.1)).symm.trans hx) (by decide)⟩
    repeat((conv=>whnf);first|apply qza|apply qzb|apply qzc|apply qzd|apply qze|intro(_:Nat)|intro(_:OA)_)
    conv=>whnf
    refine⟨fun _=>?_,fun hx=>absurd (((decide_eq_true hA.2)).symm.trans hx) (by decide)⟩
    repeat((conv=>whnf);first|apply qza|apply qzb|apply qzc|apply qzd|apply qze|intro(_:Nat)|intro(_:OA)_)
    conv=>whnf
    refine⟨aL,rfl,⟨hA.1,hA.2⟩,?_⟩
    conv=>whnf
    refine⟨_,hcL 0 _ rfl,?_⟩
    repeat((conv=>whnf);first|apply qza|apply qzb|apply qzc|apply qzd|apply qze|intro(_:Nat)|intro(_:OA)_)
    by_cases hC:0≤rc∧rc<s.clusters.length
    ·obtain⟨m,rfl⟩:=Int.eq_ofNat_of_zero_le hC.1
     obtain⟨z,hz⟩:=qBA (show m<s.clusters.length by omega)
     obtain⟨aC,rfl,ecC,hecC,⟨hv,rfl,_,_,_,_,rfl,_⟩,hcC⟩:=hk1 m z hz
     have hCn:qiD s.clusters (m:Int)=z.name:=by unfold qiD;rw [if_pos hC];simp [hz]
     conv=>whnf
     refine⟨fun _=>?_,fun hx=>absurd (((decide_eq_true hC.1)).symm.trans hx) (by decide)⟩
     repeat((conv=>whnf);first|apply qza|apply qzb|apply qzc|apply qzd|apply qze|intro(_:Nat)|intro(_:OA)_)
     conv=>whnf
     refine⟨fun _=>?_,fun hx=>absurd (((decide_eq_true hC.2)).symm.trans hx) (by decide)⟩
     repeat((conv=>whnf);first|apply qza|apply qzb|apply qzc|apply qzd|apply qze|intro(_:Nat)|intro(_:OA)_)
     conv=>whnf
     refine⟨aC,rfl,⟨hC.1,hC.2⟩,?_⟩
     conv=>whnf
     refine⟨_,hcC 0 _ rfl,?_⟩
     repeat((conv=>whnf);first|apply qza|apply qzb|apply qzc|apply qzd|apply qze|intro(_:Nat)|intro(_:OA)_)
     conv=>whnf
     refine⟨⟨by unfold maxLen;omega,by omega⟩,fun oa2 cap2=>?_⟩
     repeat((conv=>whnf);first|apply qza|apply qzb|apply qzc|apply qzd|apply qze|intro(_:Nat)|intro(_:OA)_)
     conv=>whnf
     refine fun fr w hw=>⟨(k+1,oa2,cap2),congrArg (fun z=>[Value.int .i64 z]) (wr1 h' b1 b2).symm,h',dec h',hw.fit ?_⟩
     simp only [hT]
     simp [fitL,Res.eqv,qAA,conc,qhC,hAn,hCn]
    have hCn:qiD s.clusters rc=⟨#[]⟩:=by unfold qiD;rw [if_neg hC]
    by_cases hC0:0≤rc
    ·conv=>whnf
     refine⟨fun _=>?_,fun hx=>absurd (((decide_eq_true hC0)).symm.trans hx) (by decide)⟩
     repeat((conv=>whnf);first|apply qza|apply qzb|apply qzc|apply qzd|apply qze|intro(_:Nat)|intro(_:OA)_)
     conv=>whnf
     refine⟨fun hx=>absurd (hx.symm.trans ((decide_eq_false (show ¬ rc<s.clusters.length from fun h=>hC ⟨hC0,h⟩)))) (by decide),fun _=>?_⟩
     repeat((conv=>whnf);first|apply qza|apply qzb|apply qzc|apply qzd|apply qze|intro(_:Nat)|intro(_:OA)_)
     conv=>whnf
     refine⟨⟨by unfold maxLen;omega,by omega⟩,fun oa2 cap2=>?_⟩
     repeat((conv=>whnf);first|apply qza|apply qzb|apply qzc|apply qzd|apply qze|intro(_:Nat)|intro(_:OA)_)
     conv=>whnf
     refine fun fr w hw=>⟨(k+1,oa2,cap2),congrArg (fun z=>[Value.int .i64 z]) (wr1 h' b1 b2).symm,h',dec h',hw.fit ?_⟩
     simp only [hT]
     simp [fitL,Res.eqv,qAA,conc,qhC,hAn,hCn]
    ·conv=>whnf
     refine⟨fun hx=>absurd (hx.symm.trans ((decide_eq_false hC0))) (by decide),fun _=>?_⟩
     repeat((conv=>whnf);first|apply qza|apply qzb|apply qzc|apply qzd|apply qze|intro(_:Nat)|intro(_:OA)_)
     conv=>whnf
     refine⟨⟨by unfold maxLen;omega,by omega⟩,fun oa2 cap2=>?_⟩
     repeat((conv=>whnf);first|apply qza|apply qzb|apply qzc|apply qzd|apply qze|intro(_:Nat)|intro(_:OA)_)
     conv=>whnf
     refine fun fr w hw=>⟨(k+1,oa2,cap2),congrArg (fun z=>[Value.int .i64 z]) (wr1 h' b1 b2).symm,h',dec h',hw.fit ?_⟩
     simp only [hT]
     simp [fitL,Res.eqv,qAA,conc,qhC,hAn,hCn]
   have hAn:qYM s.listens rl=⟨#[]⟩:=by unfold qYM;rw [if_neg hA]
   by_cases hA0:0≤rl
   ·conv=>whnf
    refine⟨fun _=>?_,fun hx=>absurd (((decide_eq_true hA0)).symm.trans hx) (by decide)⟩
    repeat((conv=>whnf);first|apply qza|apply qzb|apply qzc|apply qzd|apply qze|intro(_:Nat)|intro(_:OA)_)
    conv=>whnf
    refine⟨fun hx=>absurd (hx.symm.trans ((decide_eq_false (show ¬ rl<s.listens.length from fun h=>hA ⟨hA0,h⟩)))) (by decide),fun _=>?_⟩
    repeat((conv=>whnf);first|apply qza|apply qzb|apply qzc|apply qzd|apply qze|intro(_:Nat)|intro(_:OA)_)
    by_cases hC:0≤rc∧rc<s.clusters.length
    ·obtain⟨m,rfl⟩:=Int.eq_ofNat_of_zero_le hC.1
     obtain⟨z,hz⟩:=qBA (show m<s.clusters.length by omega)
     obtain⟨aC,rfl,ecC,hecC,⟨hv,rfl,_,_,_,_,rfl,_⟩,hcC⟩:=hk1 m z hz
     have hCn:qiD s.clusters (m:Int)=z.name:=by unfold qiD;rw [if_pos hC];simp [hz]
     conv=>whnf
     refine⟨fun _=>?_,fun hx=>absurd (((decide_eq_true hC.1)).symm.trans hx) (by decide)⟩
     repeat((conv=>whnf);first|apply qza|apply qzb|apply qzc|apply qzd|apply qze|intro(_:Nat)|intro(_:OA)_)
     conv=>whnf
     refine⟨fun _=>?_,fun hx=>absurd (((decide_eq_true hC.2)).symm.trans hx) (by decide)⟩
     repeat((conv=>whnf);first|apply qza|apply qzb|apply qzc|apply qzd|apply qze|intro(_:Nat)|intro(_:OA)_)
     conv=>whnf
     refine⟨aC,rfl,⟨hC.1,hC.2⟩,?_⟩
     conv=>whnf
     refine⟨_,hcC 0 _ rfl,?_⟩
     repeat((conv=>whnf);first|apply qza|apply qzb|apply qzc|apply qzd|apply qze|intro(_:Nat)|intro(_:OA)_)
     conv=>whnf
     refine⟨⟨by unfold maxLen;omega,by omega⟩,fun oa2 cap2=>?_⟩
     repeat((conv=>whnf);first|apply qza|apply qzb|apply qzc|apply qzd|apply qze|intro(_:Nat)|intro(_:OA)_)
     conv=>whnf
     refine fun fr w hw=>⟨(k+1,oa2,cap2),congrArg (fun z=>[Value.int .i64 z]) (wr1 h' b1 b2).symm,h',dec h',hw.fit ?_⟩
     simp only [hT]
     simp [fitL,Res.eqv,qAA,conc,qhC,hAn,hCn]
    have hCn:qiD s.clusters rc=⟨#[]⟩:=by unfold qiD;rw [if_neg hC]
    by_cases hC0:0≤rc
    ·conv=>whnf
     refine⟨fun _=>?_,fun hx=>absurd (((decide_eq_true hC0)).symm.trans hx) (by decide)⟩
     repeat((conv=>whnf);first|apply qza|apply qzb|apply qzc|apply qzd|apply qze|intro(_:Nat)|intro(_:OA)_)
     conv=>whnf
     refine⟨fun hx=>absurd (hx.symm.trans ((decide_eq_false (show ¬ rc<s.clusters.length from fun h=>hC ⟨hC0,h⟩)))) (by decide),fun _=>?_⟩
     repeat((conv=>whnf);first|apply qza|apply qzb|apply qzc|apply qzd|apply qze|intro(_:Nat)|intro(_:OA)_)
     conv=>whnf
     refine⟨⟨by unfold maxLen;omega,by omega⟩,fun oa2 cap2=>?_⟩
     repeat((conv=>whnf);first|apply qza|apply qzb|apply qzc|apply qzd|apply qze|intro(_:Nat)|intro(_:OA)_)
     conv=>whnf
     refine fun fr w hw=>⟨(k+1,oa2,cap2),congrArg (fun z=>[Value.int .i64 z]) (wr1 h' b1 b2).symm,h',dec h',hw.fit ?_⟩
     simp only [hT]
     simp [fitL,Res.eqv,qAA,conc,qhC,hAn,hCn]
    ·conv=>whnf
     refine⟨fun hx=>absurd (hx.symm.trans ((decide_eq_false hC0))) (by decide),fun _=>?_⟩
     repeat((conv=>whnf);first|apply qza|apply qzb|apply qzc|apply qzd|apply qze|intro(_:Nat)|intro(_:OA)_)
     conv=>whnf
     refine⟨⟨by unfold maxLen;omega,by omega⟩,fun oa2 cap2=>?_⟩
     repeat((conv=>whnf);first|apply qza|apply qzb|apply qzc|apply qzd|apply qze|intro(_:Nat)|intro(_:OA)_)
     conv=>whnf
     refine fun fr w hw=>⟨(k+1,oa2,cap2),congrArg (fun z=>[Value.int .i64 z]) (wr1 h' b1 b2).symm,h',dec h',hw.fit ?_⟩
     simp only [hT]
     simp [fitL,Res.eqv,qAA,conc,qhC,hAn,hCn]
   ·conv=>whnf
    refine⟨fun hx=>absurd (hx.symm.trans ((decide_eq_false hA0))) (by decide),fun _=>?_⟩
    repeat((conv=>whnf);first|apply qza|apply qzb|apply qzc|apply qzd|apply qze|intro(_:Nat)|intro(_:OA)_)
    by_cases hC:0≤rc∧rc<s.clusters.length
    ·obtain⟨m,rfl⟩:=Int.eq_ofNat_of_zero_le hC.1
     obtain⟨z,hz⟩:=qBA (show m<s.clusters.length by omega)
     obtain⟨aC,rfl,ecC,hecC,⟨hv,rfl,_,_,_,_,rfl,_⟩,hcC⟩:=hk1 m z hz
     have hCn:qiD s.clusters (m:Int)=z.name:=by unfold qiD;rw [if_pos hC];simp [hz]
     conv=>whnf
     refine⟨fun _=>?_,fun hx=>absurd (((decide_eq_true hC.1)).symm.trans hx) (by decide)⟩
     repeat((conv=>whnf);first|apply qza|apply qzb|apply qzc|apply qzd|apply qze|intro(_:Nat)|intro(_:OA)_)
     conv=>whnf
     refine⟨fun _=>?_,fun hx=>absurd (((decide_eq_true hC.2)).symm.trans hx) (by decide)⟩
     repeat((conv=>whnf);first|apply qza|apply qzb|apply qzc|apply qzd|apply qze|intro(_:Nat)|intro(_:OA)_)
     conv=>whnf
     refine⟨aC,rfl,⟨hC.1,hC.2⟩,?_⟩
     conv=>whnf
     refine⟨_,hcC 0 _ rfl,?_⟩
     repeat((conv=>whnf);first|apply qza|apply qzb|apply qzc|apply qzd|apply qze|intro(_:Nat)|intro(_:OA)_)
     conv=>whnf
     refine⟨⟨by unfold maxLen;omega,by omega⟩,fun oa2 cap2=>?_⟩
     repeat((conv=>whnf);first|apply qza|apply qzb|apply qzc|apply qzd|apply qze|intro(_:Nat)|intro(_:OA)_)
     conv=>whnf
     refine fun fr w hw=>⟨(k+1,oa2,cap2),congrArg (fun z=>[Value.int .i64 z]) (wr1 h' b1 b2).symm,h',dec h',hw.fit ?_⟩
     simp only [hT]
     simp [fitL,Res.eqv,qAA,conc,qhC,hAn,hCn]
    have hCn:qiD s.clusters rc=⟨#[]⟩:=by unfold qiD;rw [if_neg hC]
    by_cases hC0:0≤rc
    ·conv=>whnf
     refine⟨fun _=>?_,fun hx=>absurd (((decide_eq_true hC0)).symm.trans hx) (by decide)⟩
     repeat((conv=>whnf);first|apply qza|apply qzb|apply qzc|apply qzd|apply qze|intro(_:Nat)|intro(_:OA)_)
     conv=>whnf
     refine⟨fun hx=>absurd (hx.symm.trans ((decide_eq_false (show ¬ rc<s.clusters.length from fun h=>hC ⟨hC0,h⟩)))) (by decide),fun _=>?_⟩
     repeat((conv=>whnf);first|apply qza|apply qzb|apply qzc|apply qzd|apply qze|intro(_:Nat)|intro(_:OA)_)
     conv=>whnf
     refine⟨⟨by unfold maxLen;omega,by omega⟩,fun oa2 cap2=>?_⟩
     repeat((conv=>whnf);first|apply qza|apply qzb|apply qzc|apply qzd|apply qze|intro(_:Nat)|intro(_:OA)_)
     conv=>whnf
     refine fun fr w hw=>⟨(k+1,oa2,cap2),congrArg (fun z=>[Value.int .i64 z]) (wr1 h' b1 b2).symm,h',dec h',hw.fit ?_⟩
     simp only [hT]
     simp [fitL,Res.eqv,qAA,conc,qhC,hAn,hCn]
    ·conv=>whnf
     refine⟨fun hx=>absurd (hx.symm.trans ((decide_eq_false hC0))) (by decide),fun _=>?_⟩
     repeat((conv=>whnf);first|apply qza|apply qzb|apply qzc|apply qzd|apply qze|intro(_:Nat)|intro(_:OA)_)
     conv=>whnf
     refine⟨⟨by unfold maxLen;omega,by omega⟩,fun oa2 cap2=>?_⟩
     repeat((conv=>whnf);first|apply qza|apply qzb|apply qzc|apply qzd|apply qze|intro(_:Nat)|intro(_:OA)_)
     conv=>whnf
     refine fun fr w hw=>⟨(k+1,oa2,cap2),congrArg (fun z=>[Value.int .i64 z]) (wr1 h' b1 b2).symm,h',dec h',hw.fit ?_⟩
     simp only [hT]
     simp [fitL,Res.eqv,qAA,conc,qhC,hAn,hCn]
  have hz1:k=s.rules.length:=by have:=of_decide_eq_false hlt;omega
  subst hz1
  repeat((conv=>whnf);first|apply qza|apply qzb|apply qzc|apply qzd|apply qze|intro(_:Nat)|intro(_:OA)_)
  conv=>whnf
  refine fun g1 hg1 hn1 hp1=>?_
  conv=>whnf
  intro g2 hg
  refine⟨_,_,_,rfl,(qhN hp1.rd (qOF s).routes qFS ?_ (by simp [qOF]) (fun _ _=>rfl) fun _ _=>rfl).mono qAJ hg⟩
  rw [List.take_of_length_le (Nat.le_refl _)];simp [qOF,List.map_map,Function.comp_def])
/- What is the same. -/
open Go.Proofs.YtkbbljngpglnkaaGreat.Sx Go.RowKit
theorem qrK {α:Type} {l m:List α} {k:Nat} {x y:α} (h:l.take k=m.take k) (hx:l[k]?=some x) (hy:m[k]?=some y) (e:x=y):l.take (k+1)=m.take (k+1):=by
 obtain⟨h1,h2⟩:=List.getElem?_eq_some_iff.1 hx
 obtain⟨h3,h4⟩:=List.getElem?_eq_some_iff.1 hy
 rw [List.take_succ_eq_append_getElem h1,List.take_succ_eq_append_getElem h3,h,h2,h4,e]
theorem qBR {a b:Snap} (h1:a.listens=b.listens) (h2:a.rules=b.rules) (h3:a.clusters=b.clusters):a=b:=by
 cases a;cases b;simp_all
theorem qRM (g:GW) {v v':Value} {l m:List BA} (hl:rSl 1 rStr g v l) (hm':rSl 1 rStr g v' m):OkV Tryz.prog qaE [v,v'] g (.bool (eqB l m)):=by
 obtain⟨oa,ca,rfl,a1,a2,a0,hl1⟩:=id hl
 obtain⟨ob,cb,rfl,b1,b2,b0,hr1⟩:=id hm'
 exact Ok.of_fn hm noT 0 qOE (args:=[.v (.slice oa l.length ca),.v (.slice ob m.length cb)]) (by
  repeat((conv=>whnf);first|apply qza|apply qzb|apply qzc|apply qzd|apply qze|intro(_:Nat))
  conv=>whnf
  refine⟨fun k3=>?_,fun k3=>?_⟩
  ·conv=>whnf
   intro g2 hg
   rw [qrL (fun e=>by rw [e] at k3;simp at k3)]
  have k3:l.length=m.length:=by simp at k3;omega
  repeat((conv=>whnf);first|apply qza|apply qzb|apply qzc|apply qzd|apply qze|intro(_:Nat))
  conv=>whnf
  refine⟨Nat,fun k=>[.v (.int .i64 k)],fun _=>⟨g,[],_,_⟩,fun k=>k≤l.length∧l.take k=m.take k,fun k=>l.length-k,qFA 0 rfl ⟨Nat.zero_le _,rfl⟩ rfl,?_⟩
  rintro k ⟨hkk,hp⟩
  repeat((conv=>whnf);first|apply qza|apply qzb|apply qzc|apply qzd|apply qze|intro(_:Nat))
  conv=>whnf
  refine⟨fun hlt=>?_,fun hlt=>?_⟩
  ·have h':k<l.length:=by have:=of_decide_eq_true hlt;omega
   obtain⟨u,hu⟩:=qBA h'
   obtain⟨v,hv⟩:=qBA (show k<m.length by omega)
   obtain⟨a,rfl,ec,hec,rfl,hc⟩:=hl1 k u hu
   obtain⟨a',rfl,ec',hec',rfl,hc'⟩:=hr1 k v hv
   repeat((conv=>whnf);first|apply qza|apply qzb|apply qzc|apply qzd|apply qze|intro(_:Nat))
   conv=>whnf
   refine⟨a,rfl,⟨by omega,by omega⟩,?_⟩
   conv=>whnf
   refine⟨_,hc 0 _ rfl,?_⟩
   repeat((conv=>whnf);first|apply qza|apply qzb|apply qzc|apply qzd|apply qze|intro(_:Nat))
   conv=>whnf
   refine⟨a',rfl,⟨by omega,by omega⟩,?_⟩
   conv=>whnf
   refine⟨_,hc' 0 _ rfl,?_⟩
   repeat((conv=>whnf);first|apply qza|apply qzb|apply qzc|apply qzd|apply qze|intro(_:Nat))
   conv=>whnf
   refine⟨fun he=>?_,fun he=>?_⟩
   ·conv=>whnf
    intro g2 hg
    rw [qrL (fun e=>?_)]
    rw [← e,hu] at hv
    cases hv
    simp at he
   ·have huv:u=v:=qEN (by simpa using he)
    conv=>whnf
    refine fun fr w hw=>⟨k+1,congrArg (fun z=>[Value.int .i64 z]) (wr1 h' a1 a2).symm,⟨h',qrK hp hu hv huv⟩,dec h',hw⟩
  ·conv=>whnf
   intro g2 hg
   have:=of_decide_eq_false hlt
   rw [List.take_of_length_le (by omega),List.take_of_length_le (by omega)] at hp
   rw [qqL hp])
theorem qHJ (g:GW) {v v':Value} {l m:List Cluster} (hl:rSl 4 qrC g v l) (hm':rSl 4 qrC g v' m):OkV Tryz.prog qaD [v,v'] g (.bool (eqB l m)):=by
 obtain⟨oa,ca,rfl,a1,a2,a0,hl1⟩:=id hl
 obtain⟨ob,cb,rfl,b1,b2,b0,hr1⟩:=id hm'
 exact Ok.of_fn hm noT 0 qUD (args:=[.v (.slice oa l.length ca),.v (.slice ob m.length cb)]) (by
  repeat((conv=>whnf);first|apply qza|apply qzb|apply qzc|apply qzd|apply qze|intro(_:Nat))
  conv=>whnf
  refine⟨fun k3=>?_,fun k3=>?_⟩
  ·conv=>whnf
   intro g2 hg
   rw [qrL (fun e=>by rw [e] at k3;simp at k3)]
  have k3:l.length=m.length:=by simp at k3;omega
  repeat((conv=>whnf);first|apply qza|apply qzb|apply qzc|apply qzd|apply qze|intro(_:Nat))
  conv=>whnf
  refine⟨Nat,fun k=>[.v (.int .i64 k)],fun _=>⟨g,[],_,_⟩,fun k=>k≤l.length∧l.take k=m.take k,fun k=>l.length-k,qFA 0 rfl ⟨Nat.zero_le _,rfl⟩ rfl,?_⟩
  rintro k ⟨hkk,hp⟩
  repeat((conv=>whnf);first|apply qza|apply qzb|apply qzc|apply qzd|apply qze|intro(_:Nat))
  conv=>whnf
  refine⟨fun hlt=>?_,fun hlt=>?_⟩
  rotate_left
  ·conv=>whnf
   intro g2 hg
   have:=of_decide_eq_false hlt
   rw [List.take_of_length_le (by omega),List.take_of_length_le (by omega)] at hp
   rw [qqL hp]
  have h':k<l.length:=by have:=of_decide_eq_true hlt;omega
  obtain⟨u,hu⟩:=qBA h'
  obtain⟨v,hv⟩:=qBA (show k<m.length by omega)
  obtain⟨a,rfl,ec,hec,⟨hvu,rfl,_,_,ohu,chu,rfl,q1,q2,q0,hq⟩,hc⟩:=hl1 k u hu
  obtain⟨a',rfl,ec',hec',⟨hvv,rfl,_,_,ohv,chv,rfl,r1,r2,r0,hr⟩,hc'⟩:=hr1 k v hv
  have ne:u≠v→eqB l m=false:=fun h=>qrL fun e=>h (by rw [e,hv] at hu;cases hu;rfl)
  repeat((conv=>whnf);first|apply qza|apply qzb|apply qzc|apply qzd|apply qze|intro(_:Nat))
  conv=>whnf
  refine⟨a,rfl,⟨by omega,by omega⟩,?_⟩
  conv=>whnf
  refine⟨_,hc 0 _ rfl,?_⟩
  repeat((conv=>whnf);first|apply qza|apply qzb|apply qzc|apply qzd|apply qze|intro(_:Nat))
  conv=>whnf
  refine⟨a',rfl,⟨by omega,by omega⟩,?_⟩
  conv=>whnf
  refine⟨_,hc' 0 _ rfl,?_⟩
  repeat((conv=>whnf);first|apply qza|apply qzb|apply qzc|apply qzd|apply qze|intro(_:Nat))
  conv=>whnf
  refine⟨fun c0=>?_,fun c0=>?_⟩
  ·conv=>whnf
   intro g2 hg
   rw [ne fun e=>by subst e;simp at c0]
  repeat((conv=>whnf);first|apply qza|apply qzb|apply qzc|apply qzd|apply qze|intro(_:Nat))
  conv=>whnf
  refine⟨a,rfl,⟨by omega,by omega⟩,?_⟩
  conv=>whnf
  refine⟨_,hc 1 _ rfl,?_⟩
  repeat((conv=>whnf);first|apply qza|apply qzb|apply qzc|apply qzd|apply qze|intro(_:Nat))
  conv=>whnf
  refine⟨a',rfl,⟨by omega,by omega⟩,?_⟩
  conv=>whnf
  refine⟨_,hc' 1 _ rfl,?_⟩
  repeat((conv=>whnf);first|apply qza|apply qzb|apply qzc|apply qzd|apply qze|intro(_:Nat))
  conv=>whnf
  refine⟨fun c1=>?_,fun c1=>?_⟩
  ·conv=>whnf
   intro g2 hg
   rw [ne fun e=>by subst e;simp at c1]
  repeat((conv=>whnf);first|apply qza|apply qzb|apply qzc|apply qzd|apply qze|intro(_:Nat))
  conv=>whnf
  refine⟨a,rfl,⟨by omega,by omega⟩,?_⟩
  conv=>whnf
  refine⟨_,hc 2 _ rfl,?_⟩
  repeat((conv=>whnf);first|apply qza|apply qzb|apply qzc|apply qzd|apply qze|intro(_:Nat))
  conv=>whnf
  refine⟨a',rfl,⟨by omega,by omega⟩,?_⟩
  conv=>whnf
  refine⟨_,hc' 2 _ rfl,?_⟩
  repeat((conv=>whnf);first|apply qza|apply qzb|apply qzc|apply qzd|apply qze|intro(_:Nat))
  conv=>whnf
  refine⟨fun c2=>?_,fun c2=>?_⟩
  ·conv=>whnf
   intro g2 hg
   rw [ne fun e=>by subst e;simp at c2]
  repeat((conv=>whnf);first|apply qza|apply qzb|apply qzc|apply qzd|apply qze|intro(_:Nat))
  conv=>whnf
  refine⟨a,rfl,⟨by omega,by omega⟩,?_⟩
  conv=>whnf
  refine⟨_,hc 3 _ rfl,?_⟩
  repeat((conv=>whnf);first|apply qza|apply qzb|apply qzc|apply qzd|apply qze|intro(_:Nat))
  conv=>whnf
  refine⟨a',rfl,⟨by omega,by omega⟩,?_⟩
  conv=>whnf
  refine⟨_,hc' 3 _ rfl,?_⟩
  repeat((conv=>whnf);first|apply qza|apply qzb|apply qzc|apply qzd|apply qze|intro(_:Nat))
  conv=>whnf
  refine⟨fun c3=>?_,fun c3=>?_⟩
  ·conv=>whnf
   intro g2 hg
   rw [ne fun e=>by subst e;simp at c3]
  have d0:u.name=v.name:=qEN (by simpa using c0)
  have d1:u.policy=v.policy:=by simpa using c1
  have d2:u.slots=v.slots:=by simpa using c2
  have d3:u.health.length=v.health.length:=by simp at c3;omega
  clear c0 c1 c2 c3
  repeat((conv=>whnf);first|apply qza|apply qzb|apply qzc|apply qzd|apply qze|intro(_:Nat))
  conv=>whnf
  refine⟨Nat,fun n=>[.v (.int .i64 n)],fun _=>⟨g,[],_,_⟩,fun n=>n≤u.health.length∧u.health.take n=v.health.take n,fun n=>u.health.length-n,qFA 0 rfl ⟨Nat.zero_le _,rfl⟩ rfl,?_⟩
  rintro n ⟨hnn,hpn⟩
  repeat((conv=>whnf);first|apply qza|apply qzb|apply qzc|apply qzd|apply qze|intro(_:Nat))
  conv=>whnf
  refine⟨a,rfl,⟨by omega,by omega⟩,?_⟩
  conv=>whnf
  refine⟨_,hc 3 _ rfl,?_⟩
  repeat((conv=>whnf);first|apply qza|apply qzb|apply qzc|apply qzd|apply qze|intro(_:Nat))
  conv=>whnf
  refine⟨fun hltn=>?_,fun hltn=>?_⟩
  ·have hn':n<u.health.length:=by have:=of_decide_eq_true hltn;omega
   obtain⟨p,hp'⟩:=qBA hn'
   obtain⟨q,hq'⟩:=qBA (show n<v.health.length by omega)
   obtain⟨aa,rfl,ecc,hecc,rfl,hcc⟩:=hq n p hp'
   obtain⟨aa',rfl,ecc',hecc',rfl,hcc'⟩:=hr n q hq'
   conv=>whnf
   refine⟨a,rfl,⟨by omega,by omega⟩,?_⟩
   conv=>whnf
   refine⟨_,hc 3 _ rfl,?_⟩
   repeat((conv=>whnf);first|apply qza|apply qzb|apply qzc|apply qzd|apply qze|intro(_:Nat))
   conv=>whnf
   refine⟨aa,rfl,⟨by omega,by omega⟩,?_⟩
   conv=>whnf
   refine⟨_,hcc 0 _ rfl,?_⟩
   repeat((conv=>whnf);first|apply qza|apply qzb|apply qzc|apply qzd|apply qze|intro(_:Nat))
   conv=>whnf
   refine⟨a',rfl,⟨by omega,by omega⟩,?_⟩
   conv=>whnf
   refine⟨_,hc' 3 _ rfl,?_⟩
   repeat((conv=>whnf);first|apply qza|apply qzb|apply qzc|apply qzd|apply qze|intro(_:Nat))
   conv=>whnf
   refine⟨aa',rfl,⟨by omega,by omega⟩,?_⟩
   conv=>whnf
   refine⟨_,hcc' 0 _ rfl,?_⟩
   repeat((conv=>whnf);first|apply qza|apply qzb|apply qzc|apply qzd|apply qze|intro(_:Nat))
   conv=>whnf
   refine⟨fun he=>?_,fun he=>?_⟩
   ·conv=>whnf
    intro g2 hg
    rw [ne fun e=>?_]
    subst e
    rw [hp'] at hq'
    cases hq'
    simp at he
   ·conv=>whnf
    refine fun fr w hw=>⟨n+1,congrArg (fun z=>[Value.int .i64 z]) (wr1 hn' q1 q2).symm,⟨hn',qrK hpn hp' hq' (by simpa using he)⟩,dec hn',hw⟩
  have huv:u=v:=qNO d0 d1 d2 (by
   have:=of_decide_eq_false hltn
   rwa [List.take_of_length_le (by omega),List.take_of_length_le (by omega)] at hpn)
  conv=>whnf
  refine fun fr w hw=>⟨k+1,congrArg (fun z=>[Value.int .i64 z]) (wr1 h' a1 a2).symm,⟨h',qrK hp hu hv huv⟩,dec h',hw⟩)
theorem qfS (g:GW) {cs cs':List Value} {x y:Snap} (hx:q7H g cs x) (hy:q7H g cs' y):OkV Tryz.prog qxG [.agg ⟨cs⟩,.agg ⟨cs'⟩] g (.bool (eqB x y)):=by
 obtain⟨a,b,d,rfl,hl,hr,hk⟩:=hx
 obtain⟨a',b',d',rfl,hl',hr',hk'⟩:=hy
 obtain⟨oa,ca,rfl,a1,a2,a0,hl1⟩:=id hl
 obtain⟨ob,cb,rfl,b1,b2,b0,hr1⟩:=id hr
 obtain⟨od,cd,rfl,d1,d2,d0,hk1⟩:=id hk
 obtain⟨oe,ce,rfl,e1,e2,e0,hl1'⟩:=id hl'
 obtain⟨og,cg,rfl,f1,f2,f0,hr1'⟩:=id hr'
 obtain⟨oh,ch,rfl,g1,g2,g0,hk1'⟩:=id hk'
 exact Ok.of_fn hm noT 0 qjG (args:=[.v (.agg ⟨[.slice oa x.listens.length ca,.slice ob x.rules.length cb,.slice od x.clusters.length cd]⟩),.v (.agg ⟨[.slice oe y.listens.length ce,.slice og y.rules.length cg,.slice oh y.clusters.length ch]⟩)]) (by
  repeat((conv=>whnf);first|apply qza|apply qzb|apply qzc|apply qzd|apply qze|intro(_:Nat))
  conv=>whnf
  refine .inl ⟨_,qRM _ hl hl',?_⟩
  conv=>whnf
  refine⟨fun k1=>?_,fun k1=>?_⟩
  ·conv=>whnf
   intro g2 hg
   rw [qrL (fun e=>by rw [e,qqL rfl] at k1;cases k1)]
  have k1:=eqB_iff.1 (nb0 k1)
  repeat((conv=>whnf);first|apply qza|apply qzb|apply qzc|apply qzd|apply qze|intro(_:Nat))
  conv=>whnf
  refine .inl ⟨_,qHJ _ hk hk',?_⟩
  conv=>whnf
  refine⟨fun k2=>?_,fun k2=>?_⟩
  ·conv=>whnf
   intro g2 hg
   rw [qrL (fun e=>by rw [e,qqL rfl] at k2;cases k2)]
  have k2:=eqB_iff.1 (nb0 k2)
  repeat((conv=>whnf);first|apply qza|apply qzb|apply qzc|apply qzd|apply qze|intro(_:Nat))
  conv=>whnf
  refine⟨fun k3=>?_,fun k3=>?_⟩
  ·conv=>whnf
   intro g2 hg
   rw [qrL (fun e=>by rw [e] at k3;simp at k3)]
  have k3:x.rules.length=y.rules.length:=by simp at k3;omega
  repeat((conv=>whnf);first|apply qza|apply qzb|apply qzc|apply qzd|apply qze|intro(_:Nat))
  conv=>whnf
  refine⟨Nat,fun k=>[.v (.int .i64 k)],fun _=>⟨g,[.blk 1 _ _ [.v (.slice oe y.listens.length ce),.v (.slice og y.rules.length cg),.v (.slice oh y.clusters.length ch)],.blk 0 _ _ [.v (.slice oa x.listens.length ca),.v (.slice ob x.rules.length cb),.v (.slice od x.clusters.length cd)]],_,_⟩,fun k=>k≤x.rules.length∧x.rules.take k=y.rules.take k,fun k=>x.rules.length-k,qFA 0 rfl ⟨Nat.zero_le _,rfl⟩ rfl,?_⟩
  rintro k ⟨hkk,hp⟩
  repeat((conv=>whnf);first|apply qza|apply qzb|apply qzc|apply qzd|apply qze|intro(_:Nat))
  conv=>whnf
  refine⟨fun hlt=>?_,fun hlt=>?_⟩
  ·have h':k<x.rules.length:=by have:=of_decide_eq_true hlt;omega
   obtain⟨u,hu⟩:=qBA h'
   obtain⟨v,hv⟩:=qBA (show k<y.rules.length by omega)
   obtain⟨a,rfl,ec,hec,⟨rfl,_,_⟩,hc⟩:=hr1 k u hu
   obtain⟨a',rfl,ec',hec',⟨rfl,_,_⟩,hc'⟩:=hr1' k v hv
   repeat((conv=>whnf);first|apply qza|apply qzb|apply qzc|apply qzd|apply qze|intro(_:Nat))
   conv=>whnf
   refine⟨a,rfl,⟨by omega,by omega⟩,?_⟩
   conv=>whnf
   refine⟨_,⟨rfl,hc⟩,?_⟩
   repeat((conv=>whnf);first|apply qza|apply qzb|apply qzc|apply qzd|apply qze|intro(_:Nat))
   conv=>whnf
   refine⟨a',rfl,⟨by omega,by omega⟩,?_⟩
   conv=>whnf
   refine⟨_,⟨rfl,hc'⟩,?_⟩
   repeat((conv=>whnf);first|apply qza|apply qzb|apply qzc|apply qzd|apply qze|intro(_:Nat))
   conv=>whnf
   refine⟨fun he=>?_,fun he=>?_⟩
   ·conv=>whnf
    intro g2 hg
    rw [qrL (fun e=>?_)]
    rw [← e,hu] at hv
    cases hv
    simp at he
   ·have huv:u=v:=by simp only [Bool.and_eq_true,beq_iff_eq,Bool.not_eq_false'] at he;exact qER (by simpa using he.1) (qEN (by simpa using he.2.1)) (qEN (by simpa using he.2.2.1)) (by simpa using he.2.2.2)
    conv=>whnf
    refine fun fr w hw=>⟨k+1,congrArg (fun z=>[Value.int .i64 z]) (wr1 h' b1 b2).symm,⟨h',qrK hp hu hv huv⟩,dec h',?_⟩
    exact hw.fit (by simp [fitL,Res.eqv,qAA,conc])
  ·conv=>whnf
   intro g2 hg
   have:=of_decide_eq_false hlt
   rw [qqL (show x=y from ?_)]
   rw [List.take_of_length_le (by omega),List.take_of_length_le (by omega)] at hp
   exact qBR k1 hp k2)
/- Snapshots: the document's building;whether one is right;what is found. -/
open Go.Proofs.YtkbbljngpglnkaaGreat.Sx Go.RowKit
theorem q5R (g:GW) {cs:List Value} {s:Snap} (hs:q7H g cs s) (hsz:s.rules.length≤1000000):OkV Tryz.prog qRQ [.agg ⟨cs⟩] g (.bool (eqB (qCB (qOF s)) none)):=by
 have hs0:=hs
 obtain⟨a,b,d,rfl,hl,hr,hk⟩:=hs
 obtain⟨oa,ca,rfl,a1,a2,a0,hl1⟩:=id hl
 obtain⟨ob,cb,rfl,b1,b2,b0,hr1⟩:=id hr
 obtain⟨od,cd,rfl,d1,d2,d0,hk1⟩:=id hk
 exact Ok.of_fn hm noT 0 qvP (args:=[.v (.agg ⟨[.slice oa s.listens.length ca,.slice ob s.rules.length cb,.slice od s.clusters.length cd]⟩)]) (by
  repeat((conv=>whnf);first|apply qza|apply qzb|apply qzc|apply qzd|apply qze|intro(_:Nat))
  conv=>whnf
  refine .inr ((qNQ g hs0 hsz).mono fun v g1 hg1 hC=>?_)
  obtain⟨oR,n,cR,rfl,hrt⟩:=hC
  have hcc:qAE g1 [.slice oa s.listens.length ca,.slice oR n cR,.slice od s.clusters.length cd] (qOF s):=⟨_,_,_,rfl,hl.mono q9I hg1,hrt,hk.mono qwE hg1⟩
  rcases q5M (qCB (qOF s)) with ⟨hz,hv⟩|⟨e,i,hz,hv⟩
  ·conv=>whnf
   refine .inl ⟨_,(qcO _ hcc).to hv,?_⟩
   conv=>whnf
   intro g2 hg
   rw [qqL hz];rfl
  ·have hne:=qvF hz
   conv=>whnf
   refine .inl ⟨_,(qcO _ hcc).to hv,?_⟩
   conv=>whnf
   intro g2 hg
   rw [qrL (by rw [hz];simp)]
   exact congrArg Value.bool (by simp;omega))
/- Snapshots: the document's answer to: is it one? -/
open Go.Proofs.YtkbbljngpglnkaaGreat.Sx Go.RowKit
def SnS (s:Snap):Prop:=s.rules.length≤1000000∧∀ r∈s.rules,r.host.size≤100∧r.path.size≤100
/- Slots: words with tags;which ones are free. -/
open Go.Proofs.YtkbbljngpglnkaaGreat.Sx Go.RowKit
theorem qCT {w:Int} (hw:InU w):IntKind.u32.wrap w=w % 4294967296:=by
 rw [IntKind.wrap_u32]
theorem idx_wr {w:Int}:InR (w % 4294967296)∧InR (w % 4294967296-1):=by
 have h1:=Int.emod_nonneg w (show(4294967296:Int)≠0 by decide)
 have h2:=Int.emod_lt_of_pos w (show(0:Int)<4294967296 by decide)
 unfold InR;omega
theorem qWS (g:GW) {w:Int} (hw:InU w):OkV Tryz.prog qxN [.int .u64 w] g (.int .i64 (idxT w)) :=
 Ok.of_fn hm noT 0 qTN (args:=[.v (.int .u64 w)]) (by
  repeat((conv=>whnf);first|apply qza|apply qzb|apply qzc|apply qzd|apply qze|intro(_:Nat))
  conv=>whnf
  intro g2 hg
  rw [qCT hw,wr idx_wr.1,show w % 4294967296+-1=w % 4294967296-1 from rfl,wr idx_wr.2];rfl)
theorem qOT {t i:Int} (ht:0≤t∧t<4294967296) (hi:0≤i∧i<4294967296):qjP .or .u64 (t*4294967296) i=t*4294967296+i:=by
 obtain⟨a,rfl⟩:=Int.eq_ofNat_of_zero_le ht.1
 obtain⟨b,rfl⟩:=Int.eq_ofNat_of_zero_le hi.1
 have h:=Nat.shiftLeft_add_eq_or_of_lt (i:=32) (b:=b) (by omega) a
 rw [Nat.shiftLeft_eq,show(2:Nat) ^ 32=4294967296 by decide] at h
 rw [show(a:Int)*4294967296=((a*4294967296:Nat):Int) by omega]
 have e1:(BitVec.ofInt 64 ((a*4294967296:Nat):Int)).toNat=a*4294967296:=by
  rw [BitVec.ofInt_natCast,BitVec.toNat_ofNat];omega
 have e2:(BitVec.ofInt 64 (b:Int)).toNat=b:=by
  rw [BitVec.ofInt_natCast,BitVec.toNat_ofNat];omega
 show IntKind.u64.wrap ((BitVec.ofInt 64 ((a*4294967296:Nat):Int) ||| BitVec.ofInt 64 (b:Int)).toNat:Int)=_
 rw [BitVec.toNat_or,e1,e2,← h,IntWalk.u64_in _ (by omega)];omega
theorem qPR (g:GW) {t i:Int} (ht:0≤t∧t<4294967296) (hi:InR i):OkV Tryz.prog qRP [.int .u32 t,.int .i64 i] g (.tuple #[.int .u64 (if qSG i then t*4294967296+(i+1) else 0),.int .i64 (if qSG i then 0 else 1)]) :=
 Ok.of_fn hm noT 0 q0O (args:=[.v (.int .u32 t),.v (.int .i64 i)]) (by
  repeat((conv=>whnf);first|apply qza|apply qzb|apply qzc|apply qzd|apply qze|intro(_:Nat))
  conv=>whnf
  refine⟨fun h=>?_,fun h=>?_⟩
  ·repeat((conv=>whnf);first|apply qza|apply qzb|apply qzc|apply qzd|apply qze|intro(_:Nat))
   conv=>whnf
   intro g2 hg
   have:qSG i=false:=by unfold qSG;have:=of_decide_eq_true h;simp;omega
   rw [this];rfl
  ·repeat((conv=>whnf);first|apply qza|apply qzb|apply qzc|apply qzd|apply qze|intro(_:Nat))
   conv=>whnf
   refine⟨fun h2=>?_,fun h2=>?_⟩
   ·repeat((conv=>whnf);first|apply qza|apply qzb|apply qzc|apply qzd|apply qze|intro(_:Nat))
    conv=>whnf
    intro g2 hg
    have:qSG i=false:=by unfold qSG;have:=of_decide_eq_true h2;simp;omega
    rw [this];rfl
   ·repeat((conv=>whnf);first|apply qza|apply qzb|apply qzc|apply qzd|apply qze|intro(_:Nat))
    conv=>whnf
    refine⟨by decide,?_⟩
    repeat((conv=>whnf);first|apply qza|apply qzb|apply qzc|apply qzd|apply qze|intro(_:Nat))
    conv=>whnf
    intro g2 hg
    have h1:=of_decide_eq_false h
    have h2:=of_decide_eq_false h2
    have:qSG i=true:=by unfold qSG;simp;omega
    rw [this]
    have e1:IntKind.u64.wrap t=t:=IntWalk.u64_in t (by omega)
    have e2:IntKind.u64.wrap (t*2 ^ min (Int.toNat 32) IntKind.u64.bits)=t*4294967296:=by
     rw [show(2:Int) ^ min (Int.toNat 32) IntKind.u64.bits=4294967296 by decide];exact IntWalk.u64_in _ (by omega)
    have e3:IntKind.u64.wrap (IntKind.i64.wrap (i - -1))=i+1:=by rw [wr (by unfold InR;omega)];exact IntWalk.u64_in _ (by omega)
    rw [e1,e2,e3,qOT ht (by omega)];rfl)
def tCh:List (Nat×FnI):=[(qPL,qmH),(qPJ,qqF)]
theorem qJT:qIH Tryz.prog tCh:=by
 intro x hx
 simp only [tCh,List.mem_cons,List.not_mem_nil,or_false] at hx
 rcases hx with rfl|rfl
 ·exact⟨_,_,qwK⟩
 ·exact⟨_,_,qyI⟩
def qoP (e:EndC) (v:Value) (g':GW):Prop:=match qEE e with
 | none=>v=.tuple #[.slice none 0 0,.int .i64 11]
 | some l=>∃ oa cap,v=.tuple #[.slice oa l.length cap,.int .i64 0]∧rSl 1 rInt g' (.slice oa l.length cap) l
abbrev cInt (l:List Int):List Value:=l.map fun x=>Value.int .i64 x
theorem qQR (g:GW) {cs:List Value} {e:EndC} (he:rEn g cs e):Ok Tryz.prog qZM [.agg ⟨cs⟩] g (qoP e):=by
 obtain⟨⟨n,rfl,hH,hA,hN⟩,hsz⟩:=he
 obtain⟨oa,ca,rfl,a1,a2,a0,hr⟩:=id hN
 exact Ok.of_fn hm qJT 2 q2L (args:=[.v (.agg ⟨[.int .u64 e.head,.slice oa e.next.length ca,.int .i64 e.active]⟩)]) (by
  repeat((conv=>whnf);first|apply qza|apply qzb|apply qzc|apply qzd|apply qze|intro(_:Nat)|intro(_:OA)_)
  conv=>whnf
  refine⟨qcJ,fun lp rr=>?_⟩
  repeat((conv=>whnf);first|apply qza|apply qzb|apply qzc|apply qzd|apply qze|intro(_:Nat)|intro(_:OA)_)
  conv=>whnf
  refine⟨⟨by omega,by omega,by omega,by omega⟩,fun _=>?_⟩
  repeat((conv=>whnf);first|apply qza|apply qzb|apply qzc|apply qzd|apply qze|intro(_:Nat)|intro(_:OA)_)
  conv=>whnf
  refine .inl ⟨_,qWS _ hH,?_⟩
  rename_i q0 q1 q2 q3 q4 q5
  repeat((conv=>whnf);first|apply qza|apply qzb|apply qzc|apply qzd|apply qze|intro(_:Nat)|intro(_:OA)_)
  conv=>whnf
  refine⟨Int×List Int×Option Addr×Nat,fun (i,_,_,_)=>[.v (.int .i64 i)],fun (_,out,oX,cX)=>⟨g,[.row 7 oX out.length cX qzA 1 (cInt out),.row 6 (some ⟨q5,0,none⟩) e.next.length e.next.length q2H 1 (qVF e.next.length out),.lp 5 lp rr .ready,.blk 4 q4 qeA [.v (.int .u64 e.head),.v (.slice oa e.next.length ca),.v (.int .i64 e.active)],.blk 3 q3 qKE [.row 7 oX out.length cX],.blk 2 q2 q1L [.v (.int .i64 0)],.blk 1 q1 qKE [.v (.slice none 0 0)],.blk 0 q0 qeA [.v (.int .u64 e.head),.v (.slice oa e.next.length ca),.v (.int .i64 e.active)]],40,g.w.heap.size⟩,fun (i,out,_,_)=>InR i∧out.Nodup∧(∀ x∈out,0≤x∧x<e.next.length)∧qwF e.next (e.next.length+1-out.length) out i=qEE e,fun (_,out,_,_)=>e.next.length-out.length,?_,?_⟩
  ·intro fr w hw
   exact⟨(idxT e.head,[],none,0),rfl,⟨by have:=qiR e.head;unfold InR;omega,List.nodup_nil,by simp,rfl⟩,(hw.nil_row (nx':=40) 7 qzA 1).fit (by simp [fitL,Res.eqv,qAA,conc,q1P])⟩
  rintro⟨i,out,oX,cX⟩ ⟨hi,hnd,hin,hch⟩
  repeat((conv=>whnf);first|apply qza|apply qzb|apply qzc|apply qzd|apply qze|intro(_:Nat)|intro(_:OA)_)
  conv=>whnf
  refine⟨fun h1=>?_,fun h1=>?_⟩
  ·have hne:i≠-1:=by simpa using h1
   have hbad:(i<0∨(e.next.length:Int)≤i∨i∈out)→qEE e=none:=fun hb=>by
    have hlen:=qgF hnd hin
    rw [show e.next.length+1-out.length=(e.next.length-out.length)+1 by omega] at hch
    simp only [qwF,if_neg hne,if_pos hb] at hch
    exact hch.symm
   repeat((conv=>whnf);first|apply qza|apply qzb|apply qzc|apply qzd|apply qze|intro(_:Nat)|intro(_:OA)_)
   conv=>whnf
   refine⟨fun h2=>?_,fun h2=>?_⟩
   ·repeat((conv=>whnf);first|apply qza|apply qzb|apply qzc|apply qzd|apply qze|intro(_:Nat)|intro(_:OA)_)
    conv=>whnf
    refine⟨fun _=>?_,fun h=>nomatch h⟩
    repeat((conv=>whnf);first|apply qza|apply qzb|apply qzc|apply qzd|apply qze|intro(_:Nat)|intro(_:OA)_)
    conv=>whnf
    intro g2 hg
    unfold qoP
    rw [hbad (.inl (by simpa using h2))]
   ·repeat((conv=>whnf);first|apply qza|apply qzb|apply qzc|apply qzd|apply qze|intro(_:Nat)|intro(_:OA)_)
    conv=>whnf
    refine⟨fun h3=>?_,fun h3=>?_⟩
    ·repeat((conv=>whnf);first|apply qza|apply qzb|apply qzc|apply qzd|apply qze|intro(_:Nat)|intro(_:OA)_)
     conv=>whnf
     refine⟨fun _=>?_,fun h=>nomatch h⟩
     repeat((conv=>whnf);first|apply qza|apply qzb|apply qzc|apply qzd|apply qze|intro(_:Nat)|intro(_:OA)_)
     conv=>whnf
     intro g2 hg
     unfold qoP
     rw [hbad (.inr (.inl (by simpa using h3)))]
    ·have hi0:0≤i∧i<e.next.length:=by simp at h2 h3;omega
     have hsg:=q2P (n:=e.next.length) (out:=out) hi0
     obtain⟨y,hy⟩:=qBA (l:=e.next) (i:=i.toNat) (by omega)
     obtain⟨a,rfl,ec,hec,⟨rfl,hyr⟩,hc⟩:=hr i.toNat y hy
     repeat((conv=>whnf);first|apply qza|apply qzb|apply qzc|apply qzd|apply qze|intro(_:Nat)|intro(_:OA)_)
     conv=>whnf
     refine⟨hi0,?_⟩
     repeat((conv=>whnf);first|apply qza|apply qzb|apply qzc|apply qzd|apply qze|intro(_:Nat)|intro(_:OA)_)
     conv=>whnf
     refine⟨_,by simpa using hsg,?_⟩
     repeat((conv=>whnf);first|apply qza|apply qzb|apply qzc|apply qzd|apply qze|intro(_:Nat)|intro(_:OA)_)
     conv=>whnf
     refine⟨fun h4=>?_,fun h4=>?_⟩
     ·repeat((conv=>whnf);first|apply qza|apply qzb|apply qzc|apply qzd|apply qze|intro(_:Nat)|intro(_:OA)_)
      conv=>whnf
      refine⟨fun _=>?_,fun h=>nomatch h⟩
      repeat((conv=>whnf);first|apply qza|apply qzb|apply qzc|apply qzd|apply qze|intro(_:Nat)|intro(_:OA)_)
      conv=>whnf
      intro g2 hg
      unfold qoP
      rw [hbad (.inr (.inr (by simpa using h4)))]
     ·have h4':i ∉ out:=by simpa using h4
      have hnd2:(out++[i]).Nodup:=List.nodup_append.2 ⟨hnd,by simp,fun a ha b hb hab=>h4' (by simp at hb;rw [← hb,← hab];exact ha)⟩
      have hin2:∀ x∈out++[i],0≤x∧x<e.next.length:=fun x hx=>by
       rcases List.mem_append.1 hx with hx|hx
       ·exact hin x hx
       ·simp at hx;subst hx;exact hi0
      have hlen2:=qgF hnd2 hin2
      have hset:=q0P (out:=out) hi0
      simp only [List.length_append,List.length_cons,List.length_nil] at hlen2
      repeat((conv=>whnf);first|apply qza|apply qzb|apply qzc|apply qzd|apply qze|intro(_:Nat)|intro(_:OA)_)
      conv=>whnf
      refine⟨hi0,?_⟩
      repeat((conv=>whnf);first|apply qza|apply qzb|apply qzc|apply qzd|apply qze|intro(_:Nat)|intro(_:OA)_)
      conv=>whnf
      refine⟨⟨by rw [qCM];omega,by decide⟩,?_⟩
      repeat((conv=>whnf);first|apply qza|apply qzb|apply qzc|apply qzd|apply qze|intro(_:Nat)|intro(_:OA)_)
      conv=>whnf
      refine⟨fun hx=>absurd hx (by simp;omega),fun _=>?_⟩
      repeat((conv=>whnf);first|apply qza|apply qzb|apply qzc|apply qzd|apply qze|intro(_:Nat)|intro(_:OA)_)
      conv=>whnf
      refine⟨fun hx=>absurd hx (by simp;omega),fun _=>?_⟩
      repeat((conv=>whnf);first|apply qza|apply qzb|apply qzc|apply qzd|apply qze|intro(_:Nat)|intro(_:OA)_)
      conv=>whnf
      refine⟨⟨by unfold maxLen;omega,by omega⟩,fun oa2 cap2=>?_⟩
      repeat((conv=>whnf);first|apply qza|apply qzb|apply qzc|apply qzd|apply qze|intro(_:Nat)|intro(_:OA)_)
      conv=>whnf
      refine⟨a,rfl,hi0,?_⟩
      conv=>whnf
      refine⟨_,hc 0 _ rfl,?_⟩
      repeat((conv=>whnf);first|apply qza|apply qzb|apply qzc|apply qzd|apply qze|intro(_:Nat)|intro(_:OA)_)
      conv=>whnf
      refine fun fr w hw=>⟨(y,out++[i],oa2,cap2),rfl,⟨hyr,hnd2,hin2,?_⟩,by simp only [List.length_append,List.length_cons,List.length_nil];omega,?_⟩
      ·rw [show e.next.length+1-out.length=(e.next.length+1-(out++[i]).length)+1 by simp;omega] at hch
       simp only [qwF,if_neg hne,if_neg (show ¬ (i<0∨(e.next.length:Int)≤i∨i∈out) by rintro(h|h|h);omega;omega;exact h4' h)] at hch
       rw [← hch]
       unfold nxtL
       rw [hy];rfl
      ·have hset2:List.take i.toNat (qVF e.next.length out)++Value.bool true :: List.drop (i.toNat+1) (qVF e.next.length out)=qVF e.next.length (out++[i]):=by rw [← hset];simp
       exact hw.fit (by simp [fitL,Res.eqv,qAA,conc,hset2])
  ·have hi1:i=-1:=by simpa using h1
   subst hi1
   have hlen:=qgF hnd hin
   rw [show e.next.length+1-out.length=(e.next.length-out.length)+1 by omega] at hch
   simp only [qwF,if_true] at hch
   repeat((conv=>whnf);first|apply qza|apply qzb|apply qzc|apply qzd|apply qze|intro(_:Nat)|intro(_:OA)_)
   conv=>whnf
   refine⟨fun h=>(nomatch h),fun _=>?_⟩
   conv=>whnf
   refine⟨fun _=>?_,fun h=>nomatch h⟩
   repeat((conv=>whnf);first|apply qza|apply qzb|apply qzc|apply qzd|apply qze|intro(_:Nat)|intro(_:OA)_)
   conv=>whnf
   refine fun g1 hg1 hn1 hp1=>?_
   repeat((conv=>whnf);first|apply qza|apply qzb|apply qzc|apply qzd|apply qze|intro(_:Nat)|intro(_:OA)_)
   conv=>whnf
   intro g2 hg
   unfold qoP
   rw [← hch]
   exact⟨oX,cX,rfl,(q9D hp1.rd out (fun x=>.int .i64 x) rfl fun x hx=>⟨rfl,by have:=hin x hx;unfold InR;omega⟩).mono qYB hg⟩)
theorem qXS (g:GW) {cs:List Value} {e:EndC} (he:rEn g cs e):OkV Tryz.prog qSP [.agg ⟨cs⟩] g (.bool (endB e)):=by
 have he0:=he
 obtain⟨⟨n,rfl,hH,hA,hN⟩,hsz⟩:=he
 obtain⟨oa,ca,rfl,a1,a2,a0,hr⟩:=id hN
 exact Ok.of_fn hm noT 0 q1O (args:=[.v (.agg ⟨[.int .u64 e.head,.slice oa e.next.length ca,.int .i64 e.active]⟩)]) (by
  repeat((conv=>whnf);first|apply qza|apply qzb|apply qzc|apply qzd|apply qze|intro(_:Nat))
  refine .inr ((qQR _ he0).mono fun v g1 hg1 hF=>?_)
  unfold qoP at hF
  unfold endB
  cases hf:qEE e with
  | none =>
   rw [hf] at hF
   subst hF
   repeat((conv=>whnf);first|apply qza|apply qzb|apply qzc|apply qzd|apply qze|intro(_:Nat))
   conv=>whnf
   refine⟨fun h=>(nomatch h),fun _=>?_⟩
   repeat((conv=>whnf);first|apply qza|apply qzb|apply qzc|apply qzd|apply qze|intro(_:Nat))
   conv=>whnf
   intro g2 hg
   rfl
  | some l =>
   rw [hf] at hF
   obtain⟨oX,cX,rfl,_⟩:=hF
   repeat((conv=>whnf);first|apply qza|apply qzb|apply qzc|apply qzd|apply qze|intro(_:Nat))
   conv=>whnf
   refine⟨fun _=>?_,fun h=>nomatch h⟩
   repeat((conv=>whnf);first|apply qza|apply qzb|apply qzc|apply qzd|apply qze|intro(_:Nat))
   conv=>whnf
   refine⟨fun h1=>?_,fun h1=>?_⟩
   ·repeat((conv=>whnf);first|apply qza|apply qzb|apply qzc|apply qzd|apply qze|intro(_:Nat))
    conv=>whnf
    refine⟨fun h2=>?_,fun h2=>?_⟩
    ·repeat((conv=>whnf);first|apply qza|apply qzb|apply qzc|apply qzd|apply qze|intro(_:Nat))
     conv=>whnf
     intro g2 hg
     have k1:=of_decide_eq_true h1
     have k2:=of_decide_eq_true h2
     rw [decide_eq_true (show 1≤e.next.length by omega),decide_eq_true (show e.next.length≤4 by omega)];rfl
    ·repeat((conv=>whnf);first|apply qza|apply qzb|apply qzc|apply qzd|apply qze|intro(_:Nat))
     conv=>whnf
     intro g2 hg
     have k2:=of_decide_eq_false h2
     rw [decide_eq_false (show ¬ e.next.length≤4 by omega)];simp
   ·repeat((conv=>whnf);first|apply qza|apply qzb|apply qzc|apply qzd|apply qze|intro(_:Nat))
    conv=>whnf
    intro g2 hg
    have k1:=of_decide_eq_false h1
    rw [decide_eq_false (show ¬ 1≤e.next.length by omega)];simp)
end Go.Proofs.YtkbbljngpglnkaaGreat
