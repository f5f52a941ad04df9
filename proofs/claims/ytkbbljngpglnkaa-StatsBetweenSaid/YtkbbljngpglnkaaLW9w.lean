/- Worlds: a new one. -/
import Derived.Test.YtkbbljngpglnkaaLW9k
import Derived.Test.YtkbbljngpglnkaaLW9o
import Derived.Test.YtkbbljngpglnkaaPl
import Derived.Test.YtkbbljngpglnkaaLW9e
set_option linter.unusedVariables false
set_option linter.unusedSimpArgs false
namespace Go.Proofs.Ytkbbljngpglnkaa
open Go.Proofs.Ytkbbljngpglnkaa.Sx Go.RowKit
set_option maxHeartbeats 16000000
set_option maxRecDepth 100000
abbrev zWs:List Value:=[.int .i64 0,.int .i64 0,.int .i64 0,.slice none 0 0,.slice none 0 0,.slice none 0 0,.slice none 0 0,.slice none 0 0]
def NewP (s:Snap) (l:List BA) (t:Int) (v:Value) (g':GW):Prop :=
 (qNK s l t∧∃ cs,v=.tuple #[.agg ⟨cs⟩,.int .i64 0]∧rWo g' cs (newW s l t.toNat))∨(¬ qNK s l t∧v=.tuple #[.agg ⟨zWs⟩,.int .i64 1])
theorem qsP (g:GW) {cs:List Value} {s:Snap} {v:Value} {l:List BA} {t:Int} (hs:qhH g cs s) (hl:rSl 1 rStr g v l) (hsz:s.rules.length≤1000000) (hll:l.length≤1000000):Ok Try.prog qwK [.agg ⟨cs⟩,v,.int .i64 t] g (NewP s l t):=by
 have hs0:=hs
 obtain⟨a,b,d,rfl,⟨oa,ca,rfl,_⟩,⟨ob,cb,rfl,_⟩,⟨od,cd,rfl,_⟩⟩:=hs
 obtain⟨ol,cl,rfl,l1,l2,l0,hl1⟩:=id hl
 exact Ok.of_fn hm noT 0 qWK (args:=[.v (.agg ⟨[.slice oa s.listens.length ca,.slice ob s.rules.length cb,.slice od s.clusters.length cd]⟩),.v (.slice ol l.length cl),.v (.int .i64 t)]) (by
  repeat((conv=>whnf);first|apply qza|apply qzb|apply qzc|apply qzd|apply qze|intro(_:Nat)|intro(_:OA)_)
  rename_i q0 q1
  refine .inr ((q4N _ hs0 hsz).mono fun v g1 hg1 hC=>?_)
  rcases hC with ⟨hz,ka,kb,kd,oV,nV,cV,rfl,hV⟩|⟨hz,rfl⟩
  rotate_left
  ·repeat((conv=>whnf);first|apply qza|apply qzb|apply qzc|apply qzd|apply qze|intro(_:Nat)|intro(_:OA)_)
   conv=>whnf
   refine⟨fun _=>?_,fun h=>nomatch h⟩
   repeat((conv=>whnf);first|apply qza|apply qzb|apply qzc|apply qzd|apply qze|intro(_:Nat)|intro(_:OA)_)
   conv=>whnf
   intro g2 hg
   exact .inr ⟨fun h=>hz h.1,rfl⟩
  have hV0:=hV
  obtain⟨_,_,_,_,he,⟨_,_,_,he2,⟨sa,ta,rfl,_⟩,⟨sb,tb,rfl,_⟩,⟨sd,td,rfl,_⟩⟩,hG⟩:=hV
  simp only [List.cons.injEq,and_true] at he
  obtain⟨rfl,rfl,rfl,rfl,_⟩:=he
  cases he2
  repeat((conv=>whnf);first|apply qza|apply qzb|apply qzc|apply qzd|apply qze|intro(_:Nat)|intro(_:OA)_)
  rename_i q2
  conv=>whnf
  refine⟨fun h=>(nomatch h),fun _=>?_⟩
  repeat((conv=>whnf);first|apply qza|apply qzb|apply qzc|apply qzd|apply qze|intro(_:Nat)|intro(_:OA)_)
  refine .inr ((qrK _).mono fun v g2 hg2 hS=>?_)
  rcases hS with ⟨ht,oS,cS,rfl,hSh⟩|⟨ht,rfl⟩
  rotate_left
  ·repeat((conv=>whnf);first|apply qza|apply qzb|apply qzc|apply qzd|apply qze|intro(_:Nat)|intro(_:OA)_)
   conv=>whnf
   refine⟨fun _=>?_,fun h=>nomatch h⟩
   repeat((conv=>whnf);first|apply qza|apply qzb|apply qzc|apply qzd|apply qze|intro(_:Nat)|intro(_:OA)_)
   conv=>whnf
   intro g2 hg
   exact .inr ⟨fun h=>ht h.2.1,rfl⟩
  obtain⟨N,rfl⟩:=Int.eq_ofNat_of_zero_le (show 0≤t by omega)
  have hg02:=GW.trans hg1 hg2
  repeat((conv=>whnf);first|apply qza|apply qzb|apply qzc|apply qzd|apply qze|intro(_:Nat)|intro(_:OA)_)
  conv=>whnf
  refine⟨fun h=>(nomatch h),fun _=>?_⟩
  repeat((conv=>whnf);first|apply qza|apply qzb|apply qzc|apply qzd|apply qze|intro(_:Nat)|intro(_:OA)_)
  refine⟨?_,?_⟩
  ·repeat((conv=>whnf);first|apply qza|apply qzb|apply qzc|apply qzd|apply qze|intro(_:Nat)|intro(_:OA)_)
   conv=>whnf
   refine⟨⟨by omega,by omega,by omega,by omega⟩,fun _=>?_⟩
   repeat((conv=>whnf);first|apply qza|apply qzb|apply qzc|apply qzd|apply qze|intro(_:Nat)|intro(_:OA)_)
   rename_i qV qP qw
   conv=>whnf
   refine⟨Nat×Option Addr×Nat×Nat×GW,fun (k,_,_,_,_)=>[.v (.int .i64 k)],fun (k,oX,nX,cX,g')=>⟨g',[.blk 5 qw qEA [.v (.int .i64 0),.v (.int .i64 0),.v (.int .i64 0),.row 4 (some ⟨qP,0,none⟩) N N,.sl 3 qV 0 1 1,.v (.slice oX nX cX),.v (.slice oS N cS),.v (.slice none 0 0)],.row 4 (some ⟨qP,0,none⟩) N N q9A 1 (List.replicate N [Value.int .i64 0]).flatten,.blk 3 qV qCA [.v (.slice sa (qFA s).snap.listens.length ta),.v (.slice sb (qFA s).snap.rules.length tb),.v (.slice sd (qFA s).snap.clusters.length td),.v (.slice oV nV cV),.v (.bool false)],.blk 2 q2 qCA [.v (.slice sa (qFA s).snap.listens.length ta),.v (.slice sb (qFA s).snap.rules.length tb),.v (.slice sd (qFA s).snap.clusters.length td),.v (.slice oV nV cV),.v (.bool false)],.blk 1 q1 qEA [.v (.int .i64 0),.v (.int .i64 0),.v (.int .i64 0),.v (.slice none 0 0),.v (.slice none 0 0),.v (.slice none 0 0),.v (.slice none 0 0),.v (.slice none 0 0)],.blk 0 q0 qbA [.v (.slice oa s.listens.length ca),.v (.slice ob s.rules.length cb),.v (.slice od s.clusters.length cd)]],20,g.w.heap.size⟩,fun (k,oX,nX,cX,g')=>k≤l.length∧g2≤g'∧nX=k∧PbSl g' g.w.heap.size qOA 4 (.slice oX nX cX) nX ((lisL (l.take k)).map cLi).flatten∧(∀ a,oX=some a→¬ g2.g a.block)∧AllK (namF l) l k,fun (k,_,_,_,_)=>l.length-k,fun fr w hw=>⟨(0,none,0,0,g2),rfl,⟨Nat.zero_le _,GW.refl _,rfl,⟨rfl,.inl ⟨rfl,rfl⟩,fun u hu=>by cases hu⟩,(fun a h=>by cases h),AllK.zero _ _⟩,hw.fit (by simp [fitL,Res.eqv,qAA,conc])⟩,?_⟩
   rintro⟨k,oX,nX,cX,g'⟩ ⟨hk,hgg,hn,hpb,hnb,hAK⟩
   have hll2:(lisL (l.take k)).length=k:=by simp [lisL];omega
   have hlis:rSl 4 qjB g' (.slice oX nX cX) (lisL (l.take k)):=qiK hpb.rd (lisL (l.take k)) cLi rfl (by omega) (fun _ _=>rfl) fun x hx=>by
    obtain⟨y,_,rfl⟩:=List.mem_map.1 hx
    exact⟨rfl,show InR 0 by decide⟩
   repeat((conv=>whnf);first|apply qza|apply qzb|apply qzc|apply qzd|apply qze|intro(_:Nat)|intro(_:OA)_)
   conv=>whnf
   refine⟨fun hlt=>?_,fun hlt=>?_⟩
   ·have h':k<l.length:=by have:=of_decide_eq_true hlt;omega
    obtain⟨x,hx⟩:=qDA h'
    obtain⟨a,rfl,ec,hec,rfl,hc⟩:=hl1 k x hx
    have hbad:namF l k x=false→¬ qNK s l N:=fun hf h=>by have h3:=h.2.2;rw [qrA hx hf] at h3;cases h3
    repeat((conv=>whnf);first|apply qza|apply qzb|apply qzc|apply qzd|apply qze|intro(_:Nat)|intro(_:OA)_)
    conv=>whnf
    refine⟨a,rfl,⟨by omega,by omega⟩,?_⟩
    conv=>whnf
    refine⟨_,(hc.mono (GW.trans hg02 hgg)) 0 _ rfl,?_⟩
    repeat((conv=>whnf);first|apply qza|apply qzb|apply qzc|apply qzd|apply qze|intro(_:Nat)|intro(_:OA)_)
    conv=>whnf
    refine .inl ⟨_,q3E _ _,?_⟩
    repeat((conv=>whnf);first|apply qza|apply qzb|apply qzc|apply qzd|apply qze|intro(_:Nat)|intro(_:OA)_)
    conv=>whnf
    refine⟨fun y1=>?_,fun y1=>?_⟩
    ·repeat((conv=>whnf);first|apply qza|apply qzb|apply qzc|apply qzd|apply qze|intro(_:Nat)|intro(_:OA)_)
     conv=>whnf
     intro g2 hg
     exact .inr ⟨hbad (by unfold namF;rw [nb1 y1];rfl),rfl⟩
    repeat((conv=>whnf);first|apply qza|apply qzb|apply qzc|apply qzd|apply qze|intro(_:Nat)|intro(_:OA)_)
    conv=>whnf
    refine .inl ⟨_,q4G _ hlis _,?_⟩
    repeat((conv=>whnf);first|apply qza|apply qzb|apply qzc|apply qzd|apply qze|intro(_:Nat)|intro(_:OA)_)
    conv=>whnf
    refine⟨fun y2=>?_,fun y2=>?_⟩
    ·repeat((conv=>whnf);first|apply qza|apply qzb|apply qzc|apply qzd|apply qze|intro(_:Nat)|intro(_:OA)_)
     conv=>whnf
     intro g2 hg
     exact .inr ⟨hbad (by unfold namF;rw [decide_eq_false (by have:=of_decide_eq_true y2;omega)];simp),rfl⟩
    have hnF:namF l k x=true:=by unfold namF;rw [nb0 y1,decide_eq_true (by have:=of_decide_eq_false y2;omega)];rfl
    have hT:=qxJ hx
    rcases hpb.2.1 with ⟨he,hn0⟩|⟨bk,cap',rest,he,hb1,hb2,hb3,hb4,hb5⟩
    ·cases he
     have hk0:k=0:=by omega
     subst hk0
     repeat((conv=>whnf);first|apply qza|apply qzb|apply qzc|apply qzd|apply qze|intro(_:Nat)|intro(_:OA)_)
     conv=>whnf
     refine⟨⟨by unfold maxLen;omega,by omega⟩,fun oa3 cap3=>?_⟩
     repeat((conv=>whnf);first|apply qza|apply qzb|apply qzc|apply qzd|apply qze|intro(_:Nat)|intro(_:OA)_)
     conv=>whnf
     refine fun fr w hw=>by
      have hw1:HSim fr ⟨g',.row 70 oa3 (1) cap3 qOA 4 (cLi ⟨x,false,0,false⟩) :: [.blk 5 qw qEA [.v (.int .i64 0),.v (.int .i64 0),.v (.int .i64 0),.row 4 (some ⟨qP,0,none⟩) N N,.sl 3 qV 0 1 1,.v (.slice oa3 (1) cap3),.v (.slice oS N cS),.v (.slice none 0 0)],.row 4 (some ⟨qP,0,none⟩) N N q9A 1 (List.replicate N [Value.int .i64 0]).flatten,.blk 3 qV qCA [.v (.slice sa (qFA s).snap.listens.length ta),.v (.slice sb (qFA s).snap.rules.length tb),.v (.slice sd (qFA s).snap.clusters.length td),.v (.slice oV nV cV),.v (.bool false)],.blk 2 q2 qCA [.v (.slice sa (qFA s).snap.listens.length ta),.v (.slice sb (qFA s).snap.rules.length tb),.v (.slice sd (qFA s).snap.clusters.length td),.v (.slice oV nV cV),.v (.bool false)],.blk 1 q1 qEA [.v (.int .i64 0),.v (.int .i64 0),.v (.int .i64 0),.v (.slice none 0 0),.v (.slice none 0 0),.v (.slice none 0 0),.v (.slice none 0 0),.v (.slice none 0 0)],.blk 0 q0 qbA [.v (.slice oa s.listens.length ca),.v (.slice ob s.rules.length cb),.v (.slice od s.clusters.length cd)]],80,g.w.heap.size⟩ w:=hw.fit (by simp [fitL,Res.eqv,qAA,conc])
      obtain⟨g4,k1',k2,k3,k4⟩:=hw1.row_pub
      refine⟨(0+1,oa3,1,cap3,g4),congrArg (fun z=>[Value.int .i64 z]) (wr1 h' l1 l2).symm,⟨h',GW.trans hgg k1',rfl,?_,fun a ha q=>k2 a ha (hgg.2 _ q).1,hAK.succ hx hnF⟩,dec h',k4.fit (by simp [fitL,Res.eqv,qAA,conc])⟩
      rw [hT];exact k3
    ·cases he
     have hbk:¬ g2.g bk:=hnb _ rfl
     repeat((conv=>whnf);first|apply qza|apply qzb|apply qzc|apply qzd|apply qze|intro(_:Nat)|intro(_:OA)_)
     conv=>whnf
     refine .inr ⟨bk,_,rest,⟨rfl,hb1.1,hb1.2,hb2,hpb.1,hpb.2.2,hb3,hb4,hb5,by unfold maxLen;omega,by omega⟩,fun gL hless oa3 cap3=>?_⟩
     repeat((conv=>whnf);first|apply qza|apply qzb|apply qzc|apply qzd|apply qze|intro(_:Nat)|intro(_:OA)_)
     conv=>whnf
     refine fun fr w hw=>by
      have hw1:HSim fr ⟨gL,.row 70 oa3 (nX+1) cap3 qOA 4 (((lisL (l.take k)).map cLi).flatten++cLi ⟨x,false,0,false⟩) :: [.blk 5 qw qEA [.v (.int .i64 0),.v (.int .i64 0),.v (.int .i64 0),.row 4 (some ⟨qP,0,none⟩) N N,.sl 3 qV 0 1 1,.v (.slice oa3 (nX+1) cap3),.v (.slice oS N cS),.v (.slice none 0 0)],.row 4 (some ⟨qP,0,none⟩) N N q9A 1 (List.replicate N [Value.int .i64 0]).flatten,.blk 3 qV qCA [.v (.slice sa (qFA s).snap.listens.length ta),.v (.slice sb (qFA s).snap.rules.length tb),.v (.slice sd (qFA s).snap.clusters.length td),.v (.slice oV nV cV),.v (.bool false)],.blk 2 q2 qCA [.v (.slice sa (qFA s).snap.listens.length ta),.v (.slice sb (qFA s).snap.rules.length tb),.v (.slice sd (qFA s).snap.clusters.length td),.v (.slice oV nV cV),.v (.bool false)],.blk 1 q1 qEA [.v (.int .i64 0),.v (.int .i64 0),.v (.int .i64 0),.v (.slice none 0 0),.v (.slice none 0 0),.v (.slice none 0 0),.v (.slice none 0 0),.v (.slice none 0 0)],.blk 0 q0 qbA [.v (.slice oa s.listens.length ca),.v (.slice ob s.rules.length cb),.v (.slice od s.clusters.length cd)]],80,g.w.heap.size⟩ w:=hw.fit (by simp [fitL,Res.eqv,qAA,conc])
      obtain⟨g4,k1',k2,k3,k4⟩:=hw1.row_pub
      have hgL:=hless.le hgg hbk
      refine⟨(k+1,oa3,nX+1,cap3,g4),congrArg (fun z=>[Value.int .i64 z]) (wr1 h' l1 l2).symm,⟨h',GW.trans hgL k1',by omega,?_,fun a ha q=>k2 a ha (hgL.2 _ q).1,hAK.succ hx hnF⟩,dec h',k4.fit (by simp [fitL,Res.eqv,qAA,conc])⟩
      rw [hT];simpa using k3
   have hkL:k=l.length:=by have:=of_decide_eq_false hlt;omega
   subst hkL
   have hok:qNK s l N:=⟨hz,ht,hAK.done (Nat.le_refl _)⟩
   rw [List.take_length] at hlis
   repeat((conv=>whnf);first|apply qza|apply qzb|apply qzc|apply qzd|apply qze|intro(_:Nat)|intro(_:OA)_)
   conv=>whnf
   refine fun gA kA nA pA=>?_
   repeat((conv=>whnf);first|apply qza|apply qzb|apply qzc|apply qzd|apply qze|intro(_:Nat)|intro(_:OA)_)
   conv=>whnf
   refine⟨5,rfl,by unfold maxLen;omega,fun gB kB nB pB=>?_⟩
   repeat((conv=>whnf);first|apply qza|apply qzb|apply qzc|apply qzd|apply qze|intro(_:Nat)|intro(_:OA)_)
   conv=>whnf
   intro g2 hg
   have mA:=GW.trans kA (GW.trans kB hg)
   refine .inl ⟨hok,_,rfl,_,_,_,_,_,rfl,⟨show InR 0 by decide,show InR 0 by decide,show InR 0 by decide⟩,?_,?_,hlis.mono qrB mA,hSh.mono qWA (GW.trans hgg mA),⟨none,0,rfl,Nat.le_refl _,Nat.zero_le _,fun _=>⟨rfl,rfl⟩,fun i x hx=>by simp [newW] at hx⟩⟩
   ·exact(qnC pA.rd (List.replicate N 0) (fun x=>.int .i64 x) (by simp [List.flatten_replicate_singleton]) fun x hx=>⟨rfl,by rw [List.eq_of_mem_replicate hx];decide⟩).mono qHB (GW.trans kB hg)
   ·refine qTF (pB.rd.mono hg) [qFA s] [[.slice sa (qFA s).snap.listens.length ta,.slice sb (qFA s).snap.rules.length tb,.slice sd (qFA s).snap.clusters.length td,.slice oV nV cV,.bool false]] rfl (fun e he=>?_) rfl rfl fun i x ec hx hec=>?_
    ·simp at he;subst he;rfl
    ·cases i with
     | zero =>
      simp at hx hec
      subst hx;subst hec
      exact qRF _ _ _ _ (GW.trans hg2 (GW.trans hgg mA)) hV0
     | succ i=>simp at hx
  ·repeat((conv=>whnf);first|apply qza|apply qzb|apply qzc|apply qzd|apply qze|intro(_:Nat)|intro(_:OA)_)
   conv=>whnf
   refine⟨⟨by omega,by omega,by omega,by omega⟩,fun _=>?_⟩
   repeat((conv=>whnf);first|apply qza|apply qzb|apply qzc|apply qzd|apply qze|intro(_:Nat)|intro(_:OA)_)
   rename_i qP qV qw
   conv=>whnf
   refine⟨Nat×Option Addr×Nat×Nat×GW,fun (k,_,_,_,_)=>[.v (.int .i64 k)],fun (k,oX,nX,cX,g')=>⟨g',[.blk 5 qw qEA [.v (.int .i64 0),.v (.int .i64 0),.v (.int .i64 0),.row 3 (some ⟨qP,0,none⟩) N N,.sl 4 qV 0 1 1,.v (.slice oX nX cX),.v (.slice oS N cS),.v (.slice none 0 0)],.blk 4 qV qCA [.v (.slice sa (qFA s).snap.listens.length ta),.v (.slice sb (qFA s).snap.rules.length tb),.v (.slice sd (qFA s).snap.clusters.length td),.v (.slice oV nV cV),.v (.bool false)],.row 3 (some ⟨qP,0,none⟩) N N q9A 1 (List.replicate N [Value.int .i64 0]).flatten,.blk 2 q2 qCA [.v (.slice sa (qFA s).snap.listens.length ta),.v (.slice sb (qFA s).snap.rules.length tb),.v (.slice sd (qFA s).snap.clusters.length td),.v (.slice oV nV cV),.v (.bool false)],.blk 1 q1 qEA [.v (.int .i64 0),.v (.int .i64 0),.v (.int .i64 0),.v (.slice none 0 0),.v (.slice none 0 0),.v (.slice none 0 0),.v (.slice none 0 0),.v (.slice none 0 0)],.blk 0 q0 qbA [.v (.slice oa s.listens.length ca),.v (.slice ob s.rules.length cb),.v (.slice od s.clusters.length cd)]],20,g.w.heap.size⟩,fun (k,oX,nX,cX,g')=>k≤l.length∧g2≤g'∧nX=k∧PbSl g' g.w.heap.size qOA 4 (.slice oX nX cX) nX ((lisL (l.take k)).map cLi).flatten∧(∀ a,oX=some a→¬ g2.g a.block)∧AllK (namF l) l k,fun (k,_,_,_,_)=>l.length-k,fun fr w hw=>⟨(0,none,0,0,g2),rfl,⟨Nat.zero_le _,GW.refl _,rfl,⟨rfl,.inl ⟨rfl,rfl⟩,fun u hu=>by cases hu⟩,(fun a h=>by cases h),AllK.zero _ _⟩,hw.fit (by simp [fitL,Res.eqv,qAA,conc])⟩,?_⟩
   rintro⟨k,oX,nX,cX,g'⟩ ⟨hk,hgg,hn,hpb,hnb,hAK⟩
   have hll2:(lisL (l.take k)).length=k:=by simp [lisL];omega
   have hlis:rSl 4 qjB g' (.slice oX nX cX) (lisL (l.take k)):=qiK hpb.rd (lisL (l.take k)) cLi rfl (by omega) (fun _ _=>rfl) fun x hx=>by
    obtain⟨y,_,rfl⟩:=List.mem_map.1 hx
    exact⟨rfl,show InR 0 by decide⟩
   repeat((conv=>whnf);first|apply qza|apply qzb|apply qzc|apply qzd|apply qze|intro(_:Nat)|intro(_:OA)_)
   conv=>whnf
   refine⟨fun hlt=>?_,fun hlt=>?_⟩
   ·have h':k<l.length:=by have:=of_decide_eq_true hlt;omega
    obtain⟨x,hx⟩:=qDA h'
    obtain⟨a,rfl,ec,hec,rfl,hc⟩:=hl1 k x hx
    have hbad:namF l k x=false→¬ qNK s l N:=fun hf h=>by have h3:=h.2.2;rw [qrA hx hf] at h3;cases h3
    repeat((conv=>whnf);first|apply qza|apply qzb|apply qzc|apply qzd|apply qze|intro(_:Nat)|intro(_:OA)_)
    conv=>whnf
    refine⟨a,rfl,⟨by omega,by omega⟩,?_⟩
    conv=>whnf
    refine⟨_,(hc.mono (GW.trans hg02 hgg)) 0 _ rfl,?_⟩
    repeat((conv=>whnf);first|apply qza|apply qzb|apply qzc|apply qzd|apply qze|intro(_:Nat)|intro(_:OA)_)
    conv=>whnf
    refine .inl ⟨_,q3E _ _,?_⟩
    repeat((conv=>whnf);first|apply qza|apply qzb|apply qzc|apply qzd|apply qze|intro(_:Nat)|intro(_:OA)_)
    conv=>whnf
    refine⟨fun y1=>?_,fun y1=>?_⟩
    ·repeat((conv=>whnf);first|apply qza|apply qzb|apply qzc|apply qzd|apply qze|intro(_:Nat)|intro(_:OA)_)
     conv=>whnf
     intro g2 hg
     exact .inr ⟨hbad (by unfold namF;rw [nb1 y1];rfl),rfl⟩
    repeat((conv=>whnf);first|apply qza|apply qzb|apply qzc|apply qzd|apply qze|intro(_:Nat)|intro(_:OA)_)
    conv=>whnf
    refine .inl ⟨_,q4G _ hlis _,?_⟩
    repeat((conv=>whnf);first|apply qza|apply qzb|apply qzc|apply qzd|apply qze|intro(_:Nat)|intro(_:OA)_)
    conv=>whnf
    refine⟨fun y2=>?_,fun y2=>?_⟩
    ·repeat((conv=>whnf);first|apply qza|apply qzb|apply qzc|apply qzd|apply qze|intro(_:Nat)|intro(_:OA)_)
     conv=>whnf
     intro g2 hg
     exact .inr ⟨hbad (by unfold namF;rw [decide_eq_false (by have:=of_decide_eq_true y2;omega)];simp),rfl⟩
    have hnF:namF l k x=true:=by unfold namF;rw [nb0 y1,decide_eq_true (by have:=of_decide_eq_false y2;omega)];rfl
    have hT:=qxJ hx
    rcases hpb.2.1 with ⟨he,hn0⟩|⟨bk,cap',rest,he,hb1,hb2,hb3,hb4,hb5⟩
    ·cases he
     have hk0:k=0:=by omega
     subst hk0
     repeat((conv=>whnf);first|apply qza|apply qzb|apply qzc|apply qzd|apply qze|intro(_:Nat)|intro(_:OA)_)
     conv=>whnf
     refine⟨⟨by unfold maxLen;omega,by omega⟩,fun oa3 cap3=>?_⟩
     repeat((conv=>whnf);first|apply qza|apply qzb|apply qzc|apply qzd|apply qze|intro(_:Nat)|intro(_:OA)_)
     conv=>whnf
     refine fun fr w hw=>by
      have hw1:HSim fr ⟨g',.row 70 oa3 (1) cap3 qOA 4 (cLi ⟨x,false,0,false⟩) :: [.blk 5 qw qEA [.v (.int .i64 0),.v (.int .i64 0),.v (.int .i64 0),.row 3 (some ⟨qP,0,none⟩) N N,.sl 4 qV 0 1 1,.v (.slice oa3 (1) cap3),.v (.slice oS N cS),.v (.slice none 0 0)],.blk 4 qV qCA [.v (.slice sa (qFA s).snap.listens.length ta),.v (.slice sb (qFA s).snap.rules.length tb),.v (.slice sd (qFA s).snap.clusters.length td),.v (.slice oV nV cV),.v (.bool false)],.row 3 (some ⟨qP,0,none⟩) N N q9A 1 (List.replicate N [Value.int .i64 0]).flatten,.blk 2 q2 qCA [.v (.slice sa (qFA s).snap.listens.length ta),.v (.slice sb (qFA s).snap.rules.length tb),.v (.slice sd (qFA s).snap.clusters.length td),.v (.slice oV nV cV),.v (.bool false)],.blk 1 q1 qEA [.v (.int .i64 0),.v (.int .i64 0),.v (.int .i64 0),.v (.slice none 0 0),.v (.slice none 0 0),.v (.slice none 0 0),.v (.slice none 0 0),.v (.slice none 0 0)],.blk 0 q0 qbA [.v (.slice oa s.listens.length ca),.v (.slice ob s.rules.length cb),.v (.slice od s.clusters.length cd)]],80,g.w.heap.size⟩ w:=hw.fit (by simp [fitL,Res.eqv,qAA,conc])
      obtain⟨g4,k1',k2,k3,k4⟩:=hw1.row_pub
      refine⟨(0+1,oa3,1,cap3,g4),congrArg (fun z=>[Value.int .i64 z]) (wr1 h' l1 l2).symm,⟨h',GW.trans hgg k1',rfl,?_,fun a ha q=>k2 a ha (hgg.2 _ q).1,hAK.succ hx hnF⟩,dec h',k4.fit (by simp [fitL,Res.eqv,qAA,conc])⟩
      rw [hT];exact k3
    ·cases he
     have hbk:¬ g2.g bk:=hnb _ rfl
     repeat((conv=>whnf);first|apply qza|apply qzb|apply qzc|apply qzd|apply qze|intro(_:Nat)|intro(_:OA)_)
     conv=>whnf
     refine .inr ⟨bk,_,rest,⟨rfl,hb1.1,hb1.2,hb2,hpb.1,hpb.2.2,hb3,hb4,hb5,by unfold maxLen;omega,by omega⟩,fun gL hless oa3 cap3=>?_⟩
     repeat((conv=>whnf);first|apply qza|apply qzb|apply qzc|apply qzd|apply qze|intro(_:Nat)|intro(_:OA)_)
     conv=>whnf
     refine fun fr w hw=>by
      have hw1:HSim fr ⟨gL,.row 70 oa3 (nX+1) cap3 qOA 4 (((lisL (l.take k)).map cLi).flatten++cLi ⟨x,false,0,false⟩) :: [.blk 5 qw qEA [.v (.int .i64 0),.v (.int .i64 0),.v (.int .i64 0),.row 3 (some ⟨qP,0,none⟩) N N,.sl 4 qV 0 1 1,.v (.slice oa3 (nX+1) cap3),.v (.slice oS N cS),.v (.slice none 0 0)],.blk 4 qV qCA [.v (.slice sa (qFA s).snap.listens.length ta),.v (.slice sb (qFA s).snap.rules.length tb),.v (.slice sd (qFA s).snap.clusters.length td),.v (.slice oV nV cV),.v (.bool false)],.row 3 (some ⟨qP,0,none⟩) N N q9A 1 (List.replicate N [Value.int .i64 0]).flatten,.blk 2 q2 qCA [.v (.slice sa (qFA s).snap.listens.length ta),.v (.slice sb (qFA s).snap.rules.length tb),.v (.slice sd (qFA s).snap.clusters.length td),.v (.slice oV nV cV),.v (.bool false)],.blk 1 q1 qEA [.v (.int .i64 0),.v (.int .i64 0),.v (.int .i64 0),.v (.slice none 0 0),.v (.slice none 0 0),.v (.slice none 0 0),.v (.slice none 0 0),.v (.slice none 0 0)],.blk 0 q0 qbA [.v (.slice oa s.listens.length ca),.v (.slice ob s.rules.length cb),.v (.slice od s.clusters.length cd)]],80,g.w.heap.size⟩ w:=hw.fit (by simp [fitL,Res.eqv,qAA,conc])
      obtain⟨g4,k1',k2,k3,k4⟩:=hw1.row_pub
      have hgL:=hless.le hgg hbk
      refine⟨(k+1,oa3,nX+1,cap3,g4),congrArg (fun z=>[Value.int .i64 z]) (wr1 h' l1 l2).symm,⟨h',GW.trans hgL k1',by omega,?_,fun a ha q=>k2 a ha (hgL.2 _ q).1,hAK.succ hx hnF⟩,dec h',k4.fit (by simp [fitL,Res.eqv,qAA,conc])⟩
      rw [hT];simpa using k3
   have hkL:k=l.length:=by have:=of_decide_eq_false hlt;omega
   subst hkL
   have hok:qNK s l N:=⟨hz,ht,hAK.done (Nat.le_refl _)⟩
   rw [List.take_length] at hlis
   repeat((conv=>whnf);first|apply qza|apply qzb|apply qzc|apply qzd|apply qze|intro(_:Nat)|intro(_:OA)_)
   conv=>whnf
   refine fun gA kA nA pA=>?_
   repeat((conv=>whnf);first|apply qza|apply qzb|apply qzc|apply qzd|apply qze|intro(_:Nat)|intro(_:OA)_)
   conv=>whnf
   refine⟨5,rfl,by unfold maxLen;omega,fun gB kB nB pB=>?_⟩
   repeat((conv=>whnf);first|apply qza|apply qzb|apply qzc|apply qzd|apply qze|intro(_:Nat)|intro(_:OA)_)
   conv=>whnf
   intro g2 hg
   have mA:=GW.trans kA (GW.trans kB hg)
   refine .inl ⟨hok,_,rfl,_,_,_,_,_,rfl,⟨show InR 0 by decide,show InR 0 by decide,show InR 0 by decide⟩,?_,?_,hlis.mono qrB mA,hSh.mono qWA (GW.trans hgg mA),⟨none,0,rfl,Nat.le_refl _,Nat.zero_le _,fun _=>⟨rfl,rfl⟩,fun i x hx=>by simp [newW] at hx⟩⟩
   ·exact(qnC pA.rd (List.replicate N 0) (fun x=>.int .i64 x) (by simp [List.flatten_replicate_singleton]) fun x hx=>⟨rfl,by rw [List.eq_of_mem_replicate hx];decide⟩).mono qHB (GW.trans kB hg)
   ·refine qTF (pB.rd.mono hg) [qFA s] [[.slice sa (qFA s).snap.listens.length ta,.slice sb (qFA s).snap.rules.length tb,.slice sd (qFA s).snap.clusters.length td,.slice oV nV cV,.bool false]] rfl (fun e he=>?_) rfl rfl fun i x ec hx hec=>?_
    ·simp at he;subst he;rfl
    ·cases i with
     | zero =>
      simp at hx hec
      subst hx;subst hec
      exact qRF _ _ _ _ (GW.trans hg2 (GW.trans hgg mA)) hV0
     | succ i=>simp at hx)
/- Pins: the law's example,first part. -/
open Go.Proofs.Ytkbbljngpglnkaa.Sx Go.RowKit
/- Pins: the law's example. -/
open Go.Proofs.Ytkbbljngpglnkaa.Sx Go.RowKit
section
variable {g:GW} {cs ms:List Value} {e pc ep:Int} {p:List Int} (hw:rWo g cs (wP e p)) (hM:q2E g ms (mP pc ep)) (he:0≤e∧e≤100) (hl:p.length=2) (hp:∀ x∈p,0≤x∧x≤e+1)
include hw hM he hl hp
end
/- The law PinOff. -/
open Go.Proofs.Ytkbbljngpglnkaa.Sx Go.RowKit
theorem BgW.up {K K':Nat} {w:Wd} (h:BgW K w) (k:K≤K'):BgW K' w:=by
 obtain⟨⟨h1,h2,h3,h4,h5⟩,h6,h7⟩:=h
 refine⟨⟨by omega,by omega,by omega,by omega,by omega⟩,fun r hr=>by have:=h6 r hr;omega,fun v hv=>?_⟩
 obtain⟨a,b⟩:=h7 v hv
 exact⟨by omega,fun y hy=>by have:=b y hy;unfold BgG at this ⊢;omega⟩
/- Counts that are read: one is so much more. -/
open Go.Proofs.Ytkbbljngpglnkaa.Sx Go.RowKit
theorem k6 {k:Int} (h:0≤k∧k≤5):k=0∨k=1∨k=2∨k=3∨k=4∨k=5:=by omega
theorem q2O (g:GW) (c:C6) {k:Int} (n:Int) (hk:0≤k∧k≤5):OkV Try.prog qjJ [.agg ⟨c.cs⟩,.int .i64 k,.int .u64 n] g (.agg ⟨(c.set (IntKind.u64.wrap (c.get k.toNat+n)) k.toNat).cs⟩):=by
 rcases k6 hk with rfl|rfl|rfl|rfl|rfl|rfl
 ·exact Ok.of_fn hm noT 0 qqB (args:=[.v (.agg ⟨c.cs⟩),.v (.int .i64 0),.v (.int .u64 n)]) (by
   repeat((conv=>whnf);first|apply qza|apply qzb|apply qzc|apply qzd|apply qze|intro(_:Nat))
   conv=>whnf
   refine⟨0,⟨rfl,by decide⟩,?_⟩
   repeat((conv=>whnf);first|apply qza|apply qzb|apply qzc|apply qzd|apply qze|intro(_:Nat))
   conv=>whnf
   refine⟨0,⟨rfl,by decide⟩,?_⟩
   repeat((conv=>whnf);first|apply qza|apply qzb|apply qzc|apply qzd|apply qze|intro(_:Nat))
   conv=>whnf
   intro g2 hg
   rfl)
 ·exact Ok.of_fn hm noT 0 qqB (args:=[.v (.agg ⟨c.cs⟩),.v (.int .i64 1),.v (.int .u64 n)]) (by
   repeat((conv=>whnf);first|apply qza|apply qzb|apply qzc|apply qzd|apply qze|intro(_:Nat))
   conv=>whnf
   refine⟨1,⟨rfl,by decide⟩,?_⟩
   repeat((conv=>whnf);first|apply qza|apply qzb|apply qzc|apply qzd|apply qze|intro(_:Nat))
   conv=>whnf
   refine⟨1,⟨rfl,by decide⟩,?_⟩
   repeat((conv=>whnf);first|apply qza|apply qzb|apply qzc|apply qzd|apply qze|intro(_:Nat))
   conv=>whnf
   intro g2 hg
   rfl)
 ·exact Ok.of_fn hm noT 0 qqB (args:=[.v (.agg ⟨c.cs⟩),.v (.int .i64 2),.v (.int .u64 n)]) (by
   repeat((conv=>whnf);first|apply qza|apply qzb|apply qzc|apply qzd|apply qze|intro(_:Nat))
   conv=>whnf
   refine⟨2,⟨rfl,by decide⟩,?_⟩
   repeat((conv=>whnf);first|apply qza|apply qzb|apply qzc|apply qzd|apply qze|intro(_:Nat))
   conv=>whnf
   refine⟨2,⟨rfl,by decide⟩,?_⟩
   repeat((conv=>whnf);first|apply qza|apply qzb|apply qzc|apply qzd|apply qze|intro(_:Nat))
   conv=>whnf
   intro g2 hg
   rfl)
 ·exact Ok.of_fn hm noT 0 qqB (args:=[.v (.agg ⟨c.cs⟩),.v (.int .i64 3),.v (.int .u64 n)]) (by
   repeat((conv=>whnf);first|apply qza|apply qzb|apply qzc|apply qzd|apply qze|intro(_:Nat))
   conv=>whnf
   refine⟨3,⟨rfl,by decide⟩,?_⟩
   repeat((conv=>whnf);first|apply qza|apply qzb|apply qzc|apply qzd|apply qze|intro(_:Nat))
   conv=>whnf
   refine⟨3,⟨rfl,by decide⟩,?_⟩
   repeat((conv=>whnf);first|apply qza|apply qzb|apply qzc|apply qzd|apply qze|intro(_:Nat))
   conv=>whnf
   intro g2 hg
   rfl)
 ·exact Ok.of_fn hm noT 0 qqB (args:=[.v (.agg ⟨c.cs⟩),.v (.int .i64 4),.v (.int .u64 n)]) (by
   repeat((conv=>whnf);first|apply qza|apply qzb|apply qzc|apply qzd|apply qze|intro(_:Nat))
   conv=>whnf
   refine⟨4,⟨rfl,by decide⟩,?_⟩
   repeat((conv=>whnf);first|apply qza|apply qzb|apply qzc|apply qzd|apply qze|intro(_:Nat))
   conv=>whnf
   refine⟨4,⟨rfl,by decide⟩,?_⟩
   repeat((conv=>whnf);first|apply qza|apply qzb|apply qzc|apply qzd|apply qze|intro(_:Nat))
   conv=>whnf
   intro g2 hg
   rfl)
 ·exact Ok.of_fn hm noT 0 qqB (args:=[.v (.agg ⟨c.cs⟩),.v (.int .i64 5),.v (.int .u64 n)]) (by
   repeat((conv=>whnf);first|apply qza|apply qzb|apply qzc|apply qzd|apply qze|intro(_:Nat))
   conv=>whnf
   refine⟨5,⟨rfl,by decide⟩,?_⟩
   repeat((conv=>whnf);first|apply qza|apply qzb|apply qzc|apply qzd|apply qze|intro(_:Nat))
   conv=>whnf
   refine⟨5,⟨rfl,by decide⟩,?_⟩
   repeat((conv=>whnf);first|apply qza|apply qzb|apply qzc|apply qzd|apply qze|intro(_:Nat))
   conv=>whnf
   intro g2 hg
   rfl)
/- Counts that are read: a step. -/
open Go.Proofs.Ytkbbljngpglnkaa.Sx Go.RowKit
def StatP (w:Wd) (m:Mach) (v:Value) (g':GW):Prop:=∃ cs ms,v=.tuple #[.agg ⟨cs⟩,.agg ⟨ms⟩,.agg ⟨(qVI w m).cs⟩]∧rWo g' cs w∧q2E g' ms (qqG w m)
theorem qYF (g:GW) {cs ms:List Value} {w:Wd} {m:Mach} (hw:rWo g cs w) (hM:q2E g ms m) (hsn:SnW w) (hb:BgW 1000000 w):Ok Try.prog qLG [.agg ⟨cs⟩,.agg ⟨ms⟩] g (StatP w m):=by
 obtain⟨oa,ca,ob,cb,oc,cc,od,cd,oe,ce,o1,t1,o2,t2,o3,t3,rfl,rfl,hw0,hM0,⟨i1,i2,i3⟩,hP,hV,hL,hC,hR,⟨a1,a2,a0,hP1⟩,⟨b1,b2,b0,hV1⟩,⟨c1,c2,c0,hL1⟩,⟨d1,d2,d0,hC1⟩,⟨e1,e2,e0,hR1⟩,hok,hop,hcf⟩:=wmOpn hw hM
 exact Ok.of_fn hm noT 0 qCJ (args:=[.v (.agg ⟨wQ w oa ca ob cb oc cc od cd oe ce⟩),.v (.agg ⟨mQ m o1 t1 o2 t2 o3 t3⟩)]) (by
  repeat((conv=>whnf);first|apply qza|apply qzb|apply qzc|apply qzd|apply qze|intro(_:Nat))
  conv=>whnf
  refine⟨fun z1=>?_,fun z1=>?_⟩
  ·repeat((conv=>whnf);first|apply qza|apply qzb|apply qzc|apply qzd|apply qze|intro(_:Nat))
   conv=>whnf
   intro g2 hg
   obtain⟨hMm,hE⟩:=qUI (w:=w) (m:=m) (fun h=>bneT z1 h.2.1)
   exact⟨_,_,by rw [hE];rfl,qmA _ _ _ _ hg hw0,by rw [hMm];exact qPB _ _ _ _ hg hM0⟩
  repeat((conv=>whnf);first|apply qza|apply qzb|apply qzc|apply qzd|apply qze|intro(_:Nat))
  conv=>whnf
  refine⟨fun z2=>?_,fun z2=>?_⟩
  ·repeat((conv=>whnf);first|apply qza|apply qzb|apply qzc|apply qzd|apply qze|intro(_:Nat))
   conv=>whnf
   intro g2 hg
   obtain⟨hMm,hE⟩:=qUI (w:=w) (m:=m) (fun h=>by have:=of_decide_eq_true z2;omega)
   exact⟨_,_,by rw [hE];rfl,qmA _ _ _ _ hg hw0,by rw [hMm];exact qPB _ _ _ _ hg hM0⟩
  repeat((conv=>whnf);first|apply qza|apply qzb|apply qzc|apply qzd|apply qze|intro(_:Nat))
  conv=>whnf
  refine⟨fun z3=>?_,fun z3=>?_⟩
  ·repeat((conv=>whnf);first|apply qza|apply qzb|apply qzc|apply qzd|apply qze|intro(_:Nat))
   conv=>whnf
   intro g2 hg
   obtain⟨hMm,hE⟩:=qUI (w:=w) (m:=m) (fun h=>by have:=of_decide_eq_true z3;omega)
   exact⟨_,_,by rw [hE];rfl,qmA _ _ _ _ hg hw0,by rw [hMm];exact qPB _ _ _ _ hg hM0⟩
  repeat((conv=>whnf);first|apply qza|apply qzb|apply qzc|apply qzd|apply qze|intro(_:Nat))
  conv=>whnf
  refine .inl ⟨_,qXL _ hw0 hM0 hsn hb,?_⟩
  repeat((conv=>whnf);first|apply qza|apply qzb|apply qzc|apply qzd|apply qze|intro(_:Nat))
  conv=>whnf
  refine⟨fun z4=>?_,fun z4=>?_⟩
  ·repeat((conv=>whnf);first|apply qza|apply qzb|apply qzc|apply qzd|apply qze|intro(_:Nat))
   conv=>whnf
   intro g2 hg
   obtain⟨hMm,hE⟩:=qUI (w:=w) (m:=m) (fun h=>by rw [h.1] at z4;cases z4)
   exact⟨_,_,by rw [hE];rfl,qmA _ _ _ _ hg hw0,by rw [hMm];exact qPB _ _ _ _ hg hM0⟩
  have hs:=nb0 z4
  have hk1:=bneF z1
  have hk2:=of_decide_eq_false z2
  have hk3:=of_decide_eq_false z3
  have hgo:qHG w m:=⟨hs,hk1,by omega,by omega⟩
  obtain⟨_,_,_,hS⟩:=suitB_iff.1 hs
  have hi0:=hS.i
  have hk0:=hS.k
  have hi:m.i.toNat<w.counts.length:=by omega
  obtain⟨row,hrow,hlen,hc8⟩:=qiN hS.right hi
  obtain⟨x,hx⟩:=qDA (l:=row) (i:=m.k.toNat) (by omega)
  have hcnt:qPO w m=x:=by unfold qPO;rw [hrow];show(row[m.k.toNat]?).getD 0=x;rw [hx];rfl
  obtain⟨ad,rfl,ec,hec,⟨rv,rfl,hrv⟩,hcr⟩:=hC1 m.i.toNat row hrow
  obtain⟨ao,ac,rfl,r1,r2,r0,hr1⟩:=id hrv
  obtain⟨ar,rfl,ec2,hec2,⟨rfl,hxu⟩,hcx⟩:=hr1 m.k.toNat x hx
  repeat((conv=>whnf);first|apply qza|apply qzb|apply qzc|apply qzd|apply qze|intro(_:Nat))
  conv=>whnf
  refine⟨_,rfl,⟨by omega,by omega⟩,?_⟩
  repeat((conv=>whnf);first|apply qza|apply qzb|apply qzc|apply qzd|apply qze|intro(_:Nat))
  conv=>whnf
  refine⟨_,hcr 0 _ rfl,?_⟩
  repeat((conv=>whnf);first|apply qza|apply qzb|apply qzc|apply qzd|apply qze|intro(_:Nat))
  conv=>whnf
  refine⟨_,rfl,⟨by omega,by omega⟩,?_⟩
  repeat((conv=>whnf);first|apply qza|apply qzb|apply qzc|apply qzd|apply qze|intro(_:Nat))
  conv=>whnf
  refine⟨_,hcx 0 _ rfl,?_⟩
  repeat((conv=>whnf);first|apply qza|apply qzb|apply qzc|apply qzd|apply qze|intro(_:Nat))
  conv=>whnf
  refine .inl ⟨_,q2O _ m.counts x ⟨hk0,by omega⟩,?_⟩
  repeat((conv=>whnf);first|apply qza|apply qzb|apply qzc|apply qzd|apply qze|intro(_:Nat))
  have hwk:IntKind.i64.wrap (m.k+1)=m.k+1:=wr (by unfold InR;omega)
  have hQ:qhE w m=m.counts.set (IntKind.u64.wrap (m.counts.get m.k.toNat+x)) m.k.toNat:=by unfold qhE;rw [hcnt]
  rw [← hQ]
  repeat((conv=>whnf);first|apply qza|apply qzb|apply qzc|apply qzd|apply qze|intro(_:Nat))
  conv=>whnf
  refine⟨fun y1=>?_,fun y1=>?_⟩
  ·have hk5:m.k=5:=by have:=beqT y1;rw [hwk] at this;omega
   have hK:qOF m=0:=if_pos hk5
   have hI:qZD m=m.i+1:=if_pos hk5
   have hwi:IntKind.i64.wrap (m.i+1)=m.i+1:=wr (by unfold InR;omega)
   repeat((conv=>whnf);first|apply qza|apply qzb|apply qzc|apply qzd|apply qze|intro(_:Nat))
   conv=>whnf
   refine⟨fun y2=>?_,fun y2=>?_⟩
   ·obtain⟨hMm,hE⟩:=qIJ hgo (by have:=beqT y2;rw [hwi] at this;rw [hI];exact this)
    repeat((conv=>whnf);first|apply qza|apply qzb|apply qzc|apply qzd|apply qze|intro(_:Nat))
    refine .inr ((qaG _ hw0 hb).mono fun v g3 hg3 hO=>?_)
    obtain⟨cs,T,rfl,hT⟩:=hO
    have hF:=qZL hT
    obtain⟨_,_,_,_,_,_,_,_,_,_,rfl⟩:=qNB hF
    repeat((conv=>whnf);first|apply qza|apply qzb|apply qzc|apply qzd|apply qze|intro(_:Nat))
    conv=>whnf
    intro g2 hg
    refine⟨_,_,by rw [hE];rfl,qmA _ _ _ _ hg hF,?_⟩
    rw [hMm]
    exact⟨_,_,_,by rw [hwi,hI,hK]<;>rfl,{hok with counts:=qWE hok.counts,i:=show InR (qZD m) from by rw [hI];unfold InR;omega,k:=show InR (qOF m) from by rw [hK];exact z0,answer:=qPL (qWE hok.counts)},hop,qPC _ _ _ _ (GW.trans hg3 hg) hcf⟩
   ·obtain⟨hMm,hE⟩:=qpG hgo (by have:=beqF y2;rw [hwi] at this;rw [hI];exact this)
    repeat((conv=>whnf);first|apply qza|apply qzb|apply qzc|apply qzd|apply qze|intro(_:Nat))
    refine .inr ((qaG _ hw0 hb).mono fun v g3 hg3 hO=>?_)
    obtain⟨cs,T,rfl,hT⟩:=hO
    have hF:=qZL hT
    obtain⟨_,_,_,_,_,_,_,_,_,_,rfl⟩:=qNB hF
    repeat((conv=>whnf);first|apply qza|apply qzb|apply qzc|apply qzd|apply qze|intro(_:Nat))
    conv=>whnf
    intro g2 hg
    refine⟨_,_,by rw [hE];rfl,qmA _ _ _ _ hg hF,?_⟩
    rw [hMm]
    exact⟨_,_,_,by rw [hwi,hI,hK]<;>rfl,{hok with counts:=qWE hok.counts,i:=show InR (qZD m) from by rw [hI];unfold InR;omega,k:=show InR (qOF m) from by rw [hK];exact z0},hop,qPC _ _ _ _ (GW.trans hg3 hg) hcf⟩
  ·have hk5:m.k≠5:=by have:=beqF y1;rw [hwk] at this;omega
   have hK:qOF m=m.k+1:=if_neg hk5
   have hI:qZD m=m.i:=if_neg hk5
   repeat((conv=>whnf);first|apply qza|apply qzb|apply qzc|apply qzd|apply qze|intro(_:Nat))
   conv=>whnf
   refine⟨fun y2=>?_,fun y2=>?_⟩
   ·obtain⟨hMm,hE⟩:=qIJ hgo (by have:=beqT y2;rw [hI];exact this)
    repeat((conv=>whnf);first|apply qza|apply qzb|apply qzc|apply qzd|apply qze|intro(_:Nat))
    refine .inr ((qaG _ hw0 hb).mono fun v g3 hg3 hO=>?_)
    obtain⟨cs,T,rfl,hT⟩:=hO
    have hF:=qZL hT
    obtain⟨_,_,_,_,_,_,_,_,_,_,rfl⟩:=qNB hF
    repeat((conv=>whnf);first|apply qza|apply qzb|apply qzc|apply qzd|apply qze|intro(_:Nat))
    conv=>whnf
    intro g2 hg
    refine⟨_,_,by rw [hE];rfl,qmA _ _ _ _ hg hF,?_⟩
    rw [hMm]
    exact⟨_,_,_,by rw [hwk,hI,hK]<;>rfl,{hok with counts:=qWE hok.counts,i:=show InR (qZD m) from by rw [hI];exact hok.i,k:=show InR (qOF m) from by rw [hK];unfold InR;omega,answer:=qPL (qWE hok.counts)},hop,qPC _ _ _ _ (GW.trans hg3 hg) hcf⟩
   ·obtain⟨hMm,hE⟩:=qpG hgo (by have:=beqF y2;rw [hI];exact this)
    repeat((conv=>whnf);first|apply qza|apply qzb|apply qzc|apply qzd|apply qze|intro(_:Nat))
    refine .inr ((qaG _ hw0 hb).mono fun v g3 hg3 hO=>?_)
    obtain⟨cs,T,rfl,hT⟩:=hO
    have hF:=qZL hT
    obtain⟨_,_,_,_,_,_,_,_,_,_,rfl⟩:=qNB hF
    repeat((conv=>whnf);first|apply qza|apply qzb|apply qzc|apply qzd|apply qze|intro(_:Nat))
    conv=>whnf
    intro g2 hg
    refine⟨_,_,by rw [hE];rfl,qmA _ _ _ _ hg hF,?_⟩
    rw [hMm]
    exact⟨_,_,_,by rw [hwk,hI,hK]<;>rfl,{hok with counts:=qWE hok.counts,i:=show InR (qZD m) from by rw [hI];exact hok.i,k:=show InR (qOF m) from by rw [hK];unfold InR;omega},hop,qPC _ _ _ _ (GW.trans hg3 hg) hcf⟩)
/- Counts that are read: law 25's example. -/
open Go.Proofs.Ytkbbljngpglnkaa.Sx Go.RowKit
theorem wR_sn:SnW wR:=by
 intro v hv
 have:v=qFA (qrG 1 [true]):=by simpa [wR,newW] using hv
 subst this
 refine⟨by decide,fun r hr=>?_⟩
 have:r=⟨0,⟨#[42]⟩,⟨#[47]⟩,0⟩:=by simpa [qFA,qrG] using hr
 subst this
 decide
theorem wR_bg:BgW 1000000 wR:=by
 refine⟨⟨by decide,by decide,by decide,by decide,by decide⟩,by decide,fun v hv=>?_⟩
 have:v=qFA (qrG 1 [true]):=by simpa [wR,newW] using hv
 subst this
 refine⟨by decide,fun y hy=>?_⟩
 have:y=⟨0,[qgB 1]⟩:=by simpa [qFA,qrG] using hy
 subst this
 show 1≤1000000
 decide
theorem qGM (g:GW):Ok Try.prog qiE [] g fun v g'=>∃ cs,v=.agg ⟨cs⟩∧rWo g' cs wR :=
 Ok.of_fn hm noT 0 qgE (args:=[]) (by
  repeat((conv=>whnf);first|apply qza|apply qzb|apply qzc|apply qzd|apply qze|intro(_:Nat))
  conv=>whnf
  refine⟨1,rfl,by unfold maxLen;omega,fun g1 hg1 hn1 hp1=>?_⟩
  repeat((conv=>whnf);first|apply qza|apply qzb|apply qzc|apply qzd|apply qze|intro(_:Nat))
  conv=>whnf
  refine⟨4,rfl,by unfold maxLen;omega,fun g2 hg2 hn2 hp2=>?_⟩
  repeat((conv=>whnf);first|apply qza|apply qzb|apply qzc|apply qzd|apply qze|intro(_:Nat))
  conv=>whnf
  refine⟨1,rfl,by unfold maxLen;omega,fun g3 hg3 hn3 hp3=>?_⟩
  repeat((conv=>whnf);first|apply qza|apply qzb|apply qzc|apply qzd|apply qze|intro(_:Nat))
  conv=>whnf
  refine⟨4,rfl,by unfold maxLen;omega,fun g4 hg4 hn4 hp4=>?_⟩
  repeat((conv=>whnf);first|apply qza|apply qzb|apply qzc|apply qzd|apply qze|intro(_:Nat))
  conv=>whnf
  refine⟨1,rfl,by unfold maxLen;omega,fun g5 hg5 hn5 hp5=>?_⟩
  have hs:=qkN (n:=1) (h:=[true]) (hp1.mono (GW.trans hg2 (GW.trans hg3 (GW.trans hg4 hg5)))) (hp2.mono (GW.trans hg3 (GW.trans hg4 hg5))) (hp4.mono hg5) (hp3.mono (GW.trans hg4 hg5)) (by decide)
  have hl:=qnC (R:=rStr) hp5.rd [sInW] .string rfl fun _ _=>rfl
  conv=>whnf
  refine .inr ((qsP _ hs hl (t:=2) (by decide) (by decide)).mono fun v g6 hg6 hN=>?_)
  rcases hN with ⟨_,cs,rfl,hw⟩|⟨h,_⟩
  rotate_left
  ·exact absurd qMJ h
  obtain⟨oa,ca,ob,cb,oc,cc,od,cd,oe,ce,rfl⟩:=qNB hw
  repeat((conv=>whnf);first|apply qza|apply qzb|apply qzc|apply qzd|apply qze|intro(_:Nat))
  conv=>whnf
  refine⟨1,rfl,by unfold maxLen;omega,fun g7 hg7 hn7 hp7=>?_⟩
  repeat((conv=>whnf);first|apply qza|apply qzb|apply qzc|apply qzd|apply qze|intro(_:Nat))
  conv=>whnf
  refine⟨1,rfl,by unfold maxLen;omega,fun g8 hg8 hn8 hp8=>?_⟩
  repeat((conv=>whnf);first|apply qza|apply qzb|apply qzc|apply qzd|apply qze|intro(_:Nat))
  conv=>whnf
  refine⟨1,rfl,by unfold maxLen;omega,fun g9 hg9 hn9 hp9=>?_⟩
  repeat((conv=>whnf);first|apply qza|apply qzb|apply qzc|apply qzd|apply qze|intro(_:Nat))
  conv=>whnf
  intro g2 hg
  have hr:=rows2 (l1:=[3,1,2,0,0,0]) (l2:=[4,4,0,0,0,0]) hp9 (hp7.mono (GW.trans hg8 hg9)) (hp8.mono hg9) (by decide) (by decide)
  exact⟨_,rfl,qmA _ _ _ _ hg (q8L (qmA _ _ _ _ (GW.trans hg7 (GW.trans hg8 hg9)) hw) hr)⟩)
/- Counts that are read: law 25's example is read. -/
open Go.Proofs.Ytkbbljngpglnkaa.Sx Go.RowKit
structure RdSt where
 j:Nat
 g:GW
 o1:Option Addr
 t1:Nat
 o2:Option Addr
 t2:Nat
 o3:Option Addr
 t3:Nat
abbrev RdSt.ms (x:RdSt):List Value:=(mR x.j).cs (.slice x.o1 (mR x.j).op.config.listens.length x.t1) (.slice x.o2 (mR x.j).op.config.routes.length x.t2) (.slice x.o3 (mR x.j).op.config.clusters.length x.t3)
theorem qbJ (g:GW) {cs ms:List Value} {j:Nat} (hw:rWo g cs wR) (hM:q2E g ms (mR j)) (hj:j<12):Ok Try.prog qLG [.agg ⟨cs⟩,.agg ⟨ms⟩] g fun v g'=>∃ cs ms,v=.tuple #[.agg ⟨cs⟩,.agg ⟨ms⟩,.agg ⟨(qVI wR (mR j)).cs⟩]∧rWo g' cs wR∧q2E g' ms (mR (j+1)) :=
 (qYF g hw hM wR_sn wR_bg).mono fun v g' _ hS=>by
  obtain⟨cs',ms',rfl,hw',hM'⟩:=hS
  rw [qCP hj] at hM'
  exact⟨_,_,rfl,hw',hM'⟩
theorem q3G (g:GW):OkV Try.prog q6E [] g (.bool true) :=
 Ok.of_fn hm noT 0 qzE (args:=[]) (by
  repeat((conv=>whnf);first|apply qza|apply qzb|apply qzc|apply qzd|apply qze|intro(_:Nat))
  refine .inr ((qGM _).mono fun v ga hga hO=>?_)
  obtain⟨cs,rfl,hwa⟩:=hO
  obtain⟨oa,ca,ob,cb,oc,cc,od,cd,oe,ce,rfl⟩:=qNB hwa
  have hMa:=qxO ga
  repeat((conv=>whnf);first|apply qza|apply qzb|apply qzc|apply qzd|apply qze|intro(_:Nat))
  rename_i q0 q1
  refine .inr ((qbJ _ hwa hMa (by decide)).mono fun v gb hgb hO=>?_)
  obtain⟨cs,ms,rfl,hwb,hMb⟩:=hO
  rw [qAO]
  obtain⟨ob1,cb1,ob2,cb2,ob3,cb3,ob4,cb4,ob5,cb5,rfl⟩:=qNB hwb
  obtain⟨p1,u1,p2,u2,p3,u3,rfl⟩:=qiC hMb
  repeat((conv=>whnf);first|apply qza|apply qzb|apply qzc|apply qzd|apply qze|intro(_:Nat))
  rename_i q2 q3 q4
  conv=>whnf
  refine⟨RdSt,fun x=>[.v (.int .i64 x.j)],fun x=>⟨x.g,[.blk 4 q4 qAJ ((⟨0,0,1,10,-1,false,0,false,false,false,ans0⟩:Ev).cs.map SV.v),.blk 3 q3 q9C ((Mach.cs (.slice p1 (mR 1).op.config.listens.length u1) (.slice p2 (mR 1).op.config.routes.length u2) (.slice p3 (mR 1).op.config.clusters.length u3) (mR 1)).map SV.v),.blk 2 q2 qEA _,.blk 1 q1 q9C (x.ms.map SV.v),.blk 0 q0 qEA ([.int .i64 wR.epoch,.int .i64 wR.current,.int .i64 wR.lock,.slice oa wR.pins.length ca,.slice ob wR.versions.length cb,.slice oc wR.listens.length cc,.slice od wR.counts.length cd,.slice oe wR.limbo.length ce].map SV.v)],_,_⟩,fun x=>x.j≤12∧ga≤x.g∧q2E x.g x.ms (mR x.j),fun x=>12-x.j,qJA (⟨0,gb,none,0,none,0,none,0⟩:RdSt) rfl ⟨Nat.zero_le _,hgb,qPB _ _ _ _ hgb hMa⟩ rfl,?_⟩
  intro x hx
  obtain⟨hj,hxg,hxM⟩:=hx
  repeat((conv=>whnf);first|apply qza|apply qzb|apply qzc|apply qzd|apply qze|intro(_:Nat))
  conv=>whnf
  refine⟨fun _=>?_,fun hx=>absurd (((decide_eq_true (show(x.j:Int)<20 by omega))).symm.trans hx) (by decide)⟩
  repeat((conv=>whnf);first|apply qza|apply qzb|apply qzc|apply qzd|apply qze|intro(_:Nat))
  conv=>whnf
  refine⟨fun y1=>?_,fun y1=>?_⟩
  ·have hlt:x.j<12:=by
    rcases Nat.lt_or_ge x.j 12 with h|h
    ·exact h
    ·obtain h12:x.j=12:=by omega
     rw [h12,qDP] at y1;cases y1
   repeat((conv=>whnf);first|apply qza|apply qzb|apply qzc|apply qzd|apply qze|intro(_:Nat))
   refine .inr ((qbJ _ (qmA _ _ _ _ hxg hwa) hxM hlt).mono fun v gc hgc hO=>?_)
   obtain⟨cs,ms,rfl,hwc,hMc⟩:=hO
   obtain⟨oc1,cc1,oc2,cc2,oc3,cc3,oc4,cc4,oc5,cc5,rfl⟩:=qNB hwc
   obtain⟨v1,w1,v2,w2,v3,w3,rfl⟩:=qiC hMc
   repeat((conv=>whnf);first|apply qza|apply qzb|apply qzc|apply qzd|apply qze|intro(_:Nat))
   conv=>whnf
   refine fun fr w hw=>⟨⟨x.j+1,gc,v1,w1,v2,w2,v3,w3⟩,congrArg (fun z=>[Value.int .i64 z]) (by rw [wr (by unfold InR;omega)];rfl),⟨hlt,GW.trans hxg hgc,hMc⟩,by show 12-(x.j+1)<12-x.j;omega,hw.fit (by simp [fitL,Res.eqv,qAA,conc])⟩
  have h12:x.j=12:=by
   rcases Nat.lt_or_ge x.j 12 with h|h
   ·rw [(qoI x.j h).1.2.1] at y1;cases y1
   ·omega
  obtain⟨j,g0,o1,t1,o2,t2,o3,t3⟩:=x
  obtain rfl:j=12:=h12
  repeat((conv=>whnf);first|apply qza|apply qzb|apply qzc|apply qzd|apply qze|intro(_:Nat))
  conv=>whnf
  refine⟨fun _=>?_,fun hx=>absurd hx (by decide)⟩
  repeat((conv=>whnf);first|apply qza|apply qzb|apply qzc|apply qzd|apply qze|intro(_:Nat))
  conv=>whnf
  refine⟨fun _=>?_,fun hx=>absurd hx (by decide)⟩
  repeat((conv=>whnf);first|apply qza|apply qzb|apply qzc|apply qzd|apply qze|intro(_:Nat))
  conv=>whnf
  refine⟨0,⟨rfl,by decide⟩,?_⟩
  repeat((conv=>whnf);first|apply qza|apply qzb|apply qzc|apply qzd|apply qze|intro(_:Nat))
  conv=>whnf
  refine⟨fun _=>?_,fun hx=>absurd hx (by decide)⟩
  repeat((conv=>whnf);first|apply qza|apply qzb|apply qzc|apply qzd|apply qze|intro(_:Nat))
  conv=>whnf
  refine⟨fun _=>?_,fun hx=>absurd hx (by simp)⟩
  repeat((conv=>whnf);first|apply qza|apply qzb|apply qzc|apply qzd|apply qze|intro(_:Nat))
  conv=>whnf
  intro g2 hg
  rfl)
end Go.Proofs.Ytkbbljngpglnkaa
