/- Worlds: a new one. -/
import Derived.Test.YthonngjhelcpeaaGreatLW9x0
import Derived.Test.YthonngjhelcpeaaGreatLW9p
import Derived.Test.YthonngjhelcpeaaGreatPl
import Derived.Test.YthonngjhelcpeaaGreatLW9l
import Derived.Test.YthonngjhelcpeaaGreatLW9b
set_option linter.unusedVariables false
set_option linter.unusedSimpArgs false
namespace Go.Proofs.YthonngjhelcpeaaGreat
open Go.Proofs.YthonngjhelcpeaaGreat.Sx Go.RowKit
set_option maxHeartbeats 16000000
set_option maxRecDepth 100000
abbrev zWs:List Value:=[.int .i64 0,.int .i64 0,.int .i64 0,.slice none 0 0,.slice none 0 0,.slice none 0 0,.slice none 0 0,.slice none 0 0]
def NewP (s:Snap) (l:List BA) (t:Int) (v:Value) (g':GW):Prop :=
 (qKR s l t∧∃ cs,v=.tuple #[.agg ⟨cs⟩,.int .i64 0]∧rWo g' cs (newW s l t.toNat))∨(¬ qKR s l t∧v=.tuple #[.agg ⟨zWs⟩,.int .i64 1])
theorem qSY (g:GW) {cs:List Value} {s:Snap} {v:Value} {l:List BA} {t:Int} (hs:q5H g cs s) (hl:rSl 1 rStr g v l) (hsz:s.rules.length≤1000000) (hll:l.length≤1000000):Ok Tryz.prog q0R [.agg ⟨cs⟩,v,.int .i64 t] g (NewP s l t):=by
 have hs0:=hs
 obtain⟨a,b,d,rfl,⟨oa,ca,rfl,_⟩,⟨ob,cb,rfl,_⟩,⟨od,cd,rfl,_⟩⟩:=hs
 obtain⟨ol,cl,rfl,l1,l2,l0,hl1⟩:=id hl
 exact Ok.of_fn hm noT 0 qSR (args:=[.v (.agg ⟨[.slice oa s.listens.length ca,.slice ob s.rules.length cb,.slice od s.clusters.length cd]⟩),.v (.slice ol l.length cl),.v (.int .i64 t)]) (by
  repeat((conv=>whnf);first|apply qza|apply qzb|apply qzc|apply qzd|apply qze|intro(_:Nat)|intro(_:OA)_)
  rename_i q0 q1
  refine .inr ((q0V _ hs0 hsz).mono fun v g1 hg1 hC=>?_)
  rcases hC with ⟨hz,ka,kb,kd,oV,nV,cV,rfl,hV⟩|⟨hz,rfl⟩
  rotate_left
  ·repeat((conv=>whnf);first|apply qza|apply qzb|apply qzc|apply qzd|apply qze|intro(_:Nat)|intro(_:OA)_)
   conv=>whnf
   refine⟨fun _=>?_,fun h=>nomatch h⟩
   repeat((conv=>whnf);first|apply qza|apply qzb|apply qzc|apply qzd|apply qze|intro(_:Nat)|intro(_:OA)_)
   conv=>whnf
   intro g2 hg
   exact .inr ⟨fun h=>hz h.1,rfl⟩
  have hV0:=hV
  obtain⟨_,_,_,_,he,⟨_,_,_,he2,⟨sa,ta,rfl,_⟩,⟨sb,tb,rfl,_⟩,⟨sd,td,rfl,_⟩⟩,hG⟩:=hV
  simp only [List.cons.injEq,and_true] at he
  obtain⟨rfl,rfl,rfl,rfl,_⟩:=he
  cases he2
  repeat((conv=>whnf);first|apply qza|apply qzb|apply qzc|apply qzd|apply qze|intro(_:Nat)|intro(_:OA)_)
  rename_i q2
  conv=>whnf
  refine⟨fun h=>(nomatch h),fun _=>?_⟩
  repeat((conv=>whnf);first|apply qza|apply qzb|apply qzc|apply qzd|apply qze|intro(_:Nat)|intro(_:OA)_)
  refine .inr ((qtR _).mono fun v g2 hg2 hS=>?_)
  rcases hS with ⟨ht,oS,cS,rfl,hSh⟩|⟨ht,rfl⟩
  rotate_left
  ·repeat((conv=>whnf);first|apply qza|apply qzb|apply qzc|apply qzd|apply qze|intro(_:Nat)|intro(_:OA)_)
   conv=>whnf
   refine⟨fun _=>?_,fun h=>nomatch h⟩
   repeat((conv=>whnf);first|apply qza|apply qzb|apply qzc|apply qzd|apply qze|intro(_:Nat)|intro(_:OA)_)
   conv=>whnf
   intro g2 hg
   exact .inr ⟨fun h=>ht h.2.1,rfl⟩
  obtain⟨N,rfl⟩:=Int.eq_ofNat_of_zero_le (show 0≤t by omega)
  have hg02:=GW.trans hg1 hg2
  repeat((conv=>whnf);first|apply qza|apply qzb|apply qzc|apply qzd|apply qze|intro(_:Nat)|intro(_:OA)_)
  conv=>whnf
  refine⟨fun h=>(nomatch h),fun _=>?_⟩
  repeat((conv=>whnf);first|apply qza|apply qzb|apply qzc|apply qzd|apply qze|intro(_:Nat)|intro(_:OA)_)
  refine⟨?_,?_⟩
  ·repeat((conv=>whnf);first|apply qza|apply qzb|apply qzc|apply qzd|apply qze|intro(_:Nat)|intro(_:OA)_)
   conv=>whnf
   refine⟨⟨by omega,by omega,by omega,by omega⟩,fun _=>?_⟩
   repeat((conv=>whnf);first|apply qza|apply qzb|apply qzc|apply qzd|apply qze|intro(_:Nat)|intro(_:OA)_)
   rename_i qV qP qw
   conv=>whnf
   refine⟨Nat×Option Addr×Nat×Nat×GW,fun (k,_,_,_,_)=>[.v (.int .i64 k)],fun (k,oX,nX,cX,g')=>⟨g',[.blk 5 qw qHA [.v (.int .i64 0),.v (.int .i64 0),.v (.int .i64 0),.row 4 (some ⟨qP,0,none⟩) N N,.sl 3 qV 0 1 1,.v (.slice oX nX cX),.v (.slice oS N cS),.v (.slice none 0 0)],.row 4 (some ⟨qP,0,none⟩) N N qOA 1 (List.replicate N [Value.int .i64 0]).flatten,.blk 3 qV qEA [.v (.slice sa (qPA s).snap.listens.length ta),.v (.slice sb (qPA s).snap.rules.length tb),.v (.slice sd (qPA s).snap.clusters.length td),.v (.slice oV nV cV),.v (.bool false)],.blk 2 q2 qEA [.v (.slice sa (qPA s).snap.listens.length ta),.v (.slice sb (qPA s).snap.rules.length tb),.v (.slice sd (qPA s).snap.clusters.length td),.v (.slice oV nV cV),.v (.bool false)],.blk 1 q1 qHA [.v (.int .i64 0),.v (.int .i64 0),.v (.int .i64 0),.v (.slice none 0 0),.v (.slice none 0 0),.v (.slice none 0 0),.v (.slice none 0 0),.v (.slice none 0 0)],.blk 0 q0 quA [.v (.slice oa s.listens.length ca),.v (.slice ob s.rules.length cb),.v (.slice od s.clusters.length cd)]],20,g.w.heap.size⟩,fun (k,oX,nX,cX,g')=>k≤l.length∧g2≤g'∧nX=k∧PbSl g' g.w.heap.size qcA 4 (.slice oX nX cX) nX ((lisL (l.take k)).map cLi).flatten∧(∀ a,oX=some a→¬ g2.g a.block)∧AllK (namF l) l k,fun (k,_,_,_,_)=>l.length-k,fun fr w hw=>⟨(0,none,0,0,g2),rfl,⟨Nat.zero_le _,GW.refl _,rfl,⟨rfl,.inl ⟨rfl,rfl⟩,fun u hu=>by cases hu⟩,(fun a h=>by cases h),AllK.zero _ _⟩,hw.fit (by simp [fitL,Res.eqv,qBA,conc])⟩,?_⟩
   rintro⟨k,oX,nX,cX,g'⟩ ⟨hk,hgg,hn,hpb,hnb,hAK⟩
   have hll2:(lisL (l.take k)).length=k:=by simp [lisL];omega
   have hlis:rSl 4 qHB g' (.slice oX nX cX) (lisL (l.take k)):=qjM hpb.rd (lisL (l.take k)) cLi rfl (by omega) (fun _ _=>rfl) fun x hx=>by
    obtain⟨y,_,rfl⟩:=List.mem_map.1 hx
    exact⟨rfl,show InR 0 by decide⟩
   repeat((conv=>whnf);first|apply qza|apply qzb|apply qzc|apply qzd|apply qze|intro(_:Nat)|intro(_:OA)_)
   conv=>whnf
   refine⟨fun hlt=>?_,fun hlt=>?_⟩
   ·have h':k<l.length:=by have:=of_decide_eq_true hlt;omega
    obtain⟨x,hx⟩:=qAA h'
    obtain⟨a,rfl,ec,hec,rfl,hc⟩:=hl1 k x hx
    have hbad:namF l k x=false→¬ qKR s l N:=fun hf h=>by have h3:=h.2.2;rw [qWA hx hf] at h3;cases h3
    repeat((conv=>whnf);first|apply qza|apply qzb|apply qzc|apply qzd|apply qze|intro(_:Nat)|intro(_:OA)_)
    conv=>whnf
    refine⟨a,rfl,⟨by omega,by omega⟩,?_⟩
    conv=>whnf
    refine⟨_,(hc.mono (GW.trans hg02 hgg)) 0 _ rfl,?_⟩
    repeat((conv=>whnf);first|apply qza|apply qzb|apply qzc|apply qzd|apply qze|intro(_:Nat)|intro(_:OA)_)
    conv=>whnf
    refine .inl ⟨_,qGJ _ _,?_⟩
    repeat((conv=>whnf);first|apply qza|apply qzb|apply qzc|apply qzd|apply qze|intro(_:Nat)|intro(_:OA)_)
    conv=>whnf
    refine⟨fun y1=>?_,fun y1=>?_⟩
    ·repeat((conv=>whnf);first|apply qza|apply qzb|apply qzc|apply qzd|apply qze|intro(_:Nat)|intro(_:OA)_)
     conv=>whnf
     intro g2 hg
     exact .inr ⟨hbad (by unfold namF;rw [nb1 y1];rfl),rfl⟩
    repeat((conv=>whnf);first|apply qza|apply qzb|apply qzc|apply qzd|apply qze|intro(_:Nat)|intro(_:OA)_)
    conv=>whnf
    refine .inl ⟨_,qMK _ hlis _,?_⟩
    repeat((conv=>whnf);first|apply qza|apply qzb|apply qzc|apply qzd|apply qze|intro(_:Nat)|intro(_:OA)_)
    conv=>whnf
    refine⟨fun y2=>?_,fun y2=>?_⟩
    ·repeat((conv=>whnf);first|apply qza|apply qzb|apply qzc|apply qzd|apply qze|intro(_:Nat)|intro(_:OA)_)
     conv=>whnf
     intro g2 hg
     exact .inr ⟨hbad (by unfold namF;rw [decide_eq_false (by have:=of_decide_eq_true y2;omega)];simp),rfl⟩
    have hnF:namF l k x=true:=by unfold namF;rw [nb0 y1,decide_eq_true (by have:=of_decide_eq_false y2;omega)];rfl
    have hT:=qpQ hx
    rcases hpb.2.1 with ⟨he,hn0⟩|⟨bk,cap',rest,he,hb1,hb2,hb3,hb4,hb5⟩
    ·cases he
     have hk0:k=0:=by omega
     subst hk0
     repeat((conv=>whnf);first|apply qza|apply qzb|apply qzc|apply qzd|apply qze|intro(_:Nat)|intro(_:OA)_)
     conv=>whnf
     refine⟨⟨by unfold maxLen;omega,by omega⟩,fun oa3 cap3=>?_⟩
     repeat((conv=>whnf);first|apply qza|apply qzb|apply qzc|apply qzd|apply qze|intro(_:Nat)|intro(_:OA)_)
     conv=>whnf
     refine fun fr w hw=>by
      have hw1:HSim fr ⟨g',.row 70 oa3 (1) cap3 qcA 4 (cLi ⟨x,false,0,false⟩) :: [.blk 5 qw qHA [.v (.int .i64 0),.v (.int .i64 0),.v (.int .i64 0),.row 4 (some ⟨qP,0,none⟩) N N,.sl 3 qV 0 1 1,.v (.slice oa3 (1) cap3),.v (.slice oS N cS),.v (.slice none 0 0)],.row 4 (some ⟨qP,0,none⟩) N N qOA 1 (List.replicate N [Value.int .i64 0]).flatten,.blk 3 qV qEA [.v (.slice sa (qPA s).snap.listens.length ta),.v (.slice sb (qPA s).snap.rules.length tb),.v (.slice sd (qPA s).snap.clusters.length td),.v (.slice oV nV cV),.v (.bool false)],.blk 2 q2 qEA [.v (.slice sa (qPA s).snap.listens.length ta),.v (.slice sb (qPA s).snap.rules.length tb),.v (.slice sd (qPA s).snap.clusters.length td),.v (.slice oV nV cV),.v (.bool false)],.blk 1 q1 qHA [.v (.int .i64 0),.v (.int .i64 0),.v (.int .i64 0),.v (.slice none 0 0),.v (.slice none 0 0),.v (.slice none 0 0),.v (.slice none 0 0),.v (.slice none 0 0)],.blk 0 q0 quA [.v (.slice oa s.listens.length ca),.v (.slice ob s.rules.length cb),.v (.slice od s.clusters.length cd)]],80,g.w.heap.size⟩ w:=hw.fit (by simp [fitL,Res.eqv,qBA,conc])
      obtain⟨g4,k1',k2,k3,k4⟩:=hw1.row_pub
      refine⟨(0+1,oa3,1,cap3,g4),congrArg (fun z=>[Value.int .i64 z]) (wr1 h' l1 l2).symm,⟨h',GW.trans hgg k1',rfl,?_,fun a ha q=>k2 a ha (hgg.2 _ q).1,hAK.succ hx hnF⟩,dec h',k4.fit (by simp [fitL,Res.eqv,qBA,conc])⟩
      rw [hT];exact k3
    ·cases he
     have hbk:¬ g2.g bk:=hnb _ rfl
     repeat((conv=>whnf);first|apply qza|apply qzb|apply qzc|apply qzd|apply qze|intro(_:Nat)|intro(_:OA)_)
     conv=>whnf
     refine .inr ⟨bk,_,rest,⟨rfl,hb1.1,hb1.2,hb2,hpb.1,hpb.2.2,hb3,hb4,hb5,by unfold maxLen;omega,by omega⟩,fun gL hless oa3 cap3=>?_⟩
     repeat((conv=>whnf);first|apply qza|apply qzb|apply qzc|apply qzd|apply qze|intro(_:Nat)|intro(_:OA)_)
     conv=>whnf
     refine fun fr w hw=>by
      have hw1:HSim fr ⟨gL,.row 70 oa3 (nX+1) cap3 qcA 4 (((lisL (l.take k)).map cLi).flatten++cLi ⟨x,false,0,false⟩) :: [.blk 5 qw qHA [.v (.int .i64 0),.v (.int .i64 0),.v (.int .i64 0),.row 4 (some ⟨qP,0,none⟩) N N,.sl 3 qV 0 1 1,.v (.slice oa3 (nX+1) cap3),.v (.slice oS N cS),.v (.slice none 0 0)],.row 4 (some ⟨qP,0,none⟩) N N qOA 1 (List.replicate N [Value.int .i64 0]).flatten,.blk 3 qV qEA [.v (.slice sa (qPA s).snap.listens.length ta),.v (.slice sb (qPA s).snap.rules.length tb),.v (.slice sd (qPA s).snap.clusters.length td),.v (.slice oV nV cV),.v (.bool false)],.blk 2 q2 qEA [.v (.slice sa (qPA s).snap.listens.length ta),.v (.slice sb (qPA s).snap.rules.length tb),.v (.slice sd (qPA s).snap.clusters.length td),.v (.slice oV nV cV),.v (.bool false)],.blk 1 q1 qHA [.v (.int .i64 0),.v (.int .i64 0),.v (.int .i64 0),.v (.slice none 0 0),.v (.slice none 0 0),.v (.slice none 0 0),.v (.slice none 0 0),.v (.slice none 0 0)],.blk 0 q0 quA [.v (.slice oa s.listens.length ca),.v (.slice ob s.rules.length cb),.v (.slice od s.clusters.length cd)]],80,g.w.heap.size⟩ w:=hw.fit (by simp [fitL,Res.eqv,qBA,conc])
      obtain⟨g4,k1',k2,k3,k4⟩:=hw1.row_pub
      have hgL:=hless.le hgg hbk
      refine⟨(k+1,oa3,nX+1,cap3,g4),congrArg (fun z=>[Value.int .i64 z]) (wr1 h' l1 l2).symm,⟨h',GW.trans hgL k1',by omega,?_,fun a ha q=>k2 a ha (hgL.2 _ q).1,hAK.succ hx hnF⟩,dec h',k4.fit (by simp [fitL,Res.eqv,qBA,conc])⟩
      rw [hT];simpa using k3
   have hkL:k=l.length:=by have:=of_decide_eq_false hlt;omega
   subst hkL
   have hok:qKR s l N:=⟨hz,ht,hAK.done (Nat.le_refl _)⟩
   rw [List.take_length] at hlis
   repeat((conv=>whnf);first|apply qza|apply qzb|apply qzc|apply qzd|apply qze|intro(_:Nat)|intro(_:OA)_)
   conv=>whnf
   refine fun gA kA nA pA=>?_
   repeat((conv=>whnf);first|apply qza|apply qzb|apply qzc|apply qzd|apply qze|intro(_:Nat)|intro(_:OA)_)
   conv=>whnf
   refine⟨5,rfl,by unfold maxLen;omega,fun gB kB nB pB=>?_⟩
   repeat((conv=>whnf);first|apply qza|apply qzb|apply qzc|apply qzd|apply qze|intro(_:Nat)|intro(_:OA)_)
   conv=>whnf
   intro g2 hg
   have mA:=GW.trans kA (GW.trans kB hg)
   refine .inl ⟨hok,_,rfl,_,_,_,_,_,rfl,⟨show InR 0 by decide,show InR 0 by decide,show InR 0 by decide⟩,?_,?_,hlis.mono qoC mA,hSh.mono q3C (GW.trans hgg mA),⟨none,0,rfl,Nat.le_refl _,Nat.zero_le _,fun _=>⟨rfl,rfl⟩,fun i x hx=>by simp [newW] at hx⟩⟩
   ·exact(q2E pA.rd (List.replicate N 0) (fun x=>.int .i64 x) (by simp [List.flatten_replicate_singleton]) fun x hx=>⟨rfl,by rw [List.eq_of_mem_replicate hx];decide⟩).mono qSB (GW.trans kB hg)
   ·refine qyL (pB.rd.mono hg) [qPA s] [[.slice sa (qPA s).snap.listens.length ta,.slice sb (qPA s).snap.rules.length tb,.slice sd (qPA s).snap.clusters.length td,.slice oV nV cV,.bool false]] rfl (fun e he=>?_) rfl rfl fun i x ec hx hec=>?_
    ·simp at he;subst he;rfl
    ·cases i with
     | zero =>
      simp at hx hec
      subst hx;subst hec
      exact qHK _ _ _ _ (GW.trans hg2 (GW.trans hgg mA)) hV0
     | succ i=>simp at hx
  ·repeat((conv=>whnf);first|apply qza|apply qzb|apply qzc|apply qzd|apply qze|intro(_:Nat)|intro(_:OA)_)
   conv=>whnf
   refine⟨⟨by omega,by omega,by omega,by omega⟩,fun _=>?_⟩
   repeat((conv=>whnf);first|apply qza|apply qzb|apply qzc|apply qzd|apply qze|intro(_:Nat)|intro(_:OA)_)
   rename_i qP qV qw
   conv=>whnf
   refine⟨Nat×Option Addr×Nat×Nat×GW,fun (k,_,_,_,_)=>[.v (.int .i64 k)],fun (k,oX,nX,cX,g')=>⟨g',[.blk 5 qw qHA [.v (.int .i64 0),.v (.int .i64 0),.v (.int .i64 0),.row 3 (some ⟨qP,0,none⟩) N N,.sl 4 qV 0 1 1,.v (.slice oX nX cX),.v (.slice oS N cS),.v (.slice none 0 0)],.blk 4 qV qEA [.v (.slice sa (qPA s).snap.listens.length ta),.v (.slice sb (qPA s).snap.rules.length tb),.v (.slice sd (qPA s).snap.clusters.length td),.v (.slice oV nV cV),.v (.bool false)],.row 3 (some ⟨qP,0,none⟩) N N qOA 1 (List.replicate N [Value.int .i64 0]).flatten,.blk 2 q2 qEA [.v (.slice sa (qPA s).snap.listens.length ta),.v (.slice sb (qPA s).snap.rules.length tb),.v (.slice sd (qPA s).snap.clusters.length td),.v (.slice oV nV cV),.v (.bool false)],.blk 1 q1 qHA [.v (.int .i64 0),.v (.int .i64 0),.v (.int .i64 0),.v (.slice none 0 0),.v (.slice none 0 0),.v (.slice none 0 0),.v (.slice none 0 0),.v (.slice none 0 0)],.blk 0 q0 quA [.v (.slice oa s.listens.length ca),.v (.slice ob s.rules.length cb),.v (.slice od s.clusters.length cd)]],20,g.w.heap.size⟩,fun (k,oX,nX,cX,g')=>k≤l.length∧g2≤g'∧nX=k∧PbSl g' g.w.heap.size qcA 4 (.slice oX nX cX) nX ((lisL (l.take k)).map cLi).flatten∧(∀ a,oX=some a→¬ g2.g a.block)∧AllK (namF l) l k,fun (k,_,_,_,_)=>l.length-k,fun fr w hw=>⟨(0,none,0,0,g2),rfl,⟨Nat.zero_le _,GW.refl _,rfl,⟨rfl,.inl ⟨rfl,rfl⟩,fun u hu=>by cases hu⟩,(fun a h=>by cases h),AllK.zero _ _⟩,hw.fit (by simp [fitL,Res.eqv,qBA,conc])⟩,?_⟩
   rintro⟨k,oX,nX,cX,g'⟩ ⟨hk,hgg,hn,hpb,hnb,hAK⟩
   have hll2:(lisL (l.take k)).length=k:=by simp [lisL];omega
   have hlis:rSl 4 qHB g' (.slice oX nX cX) (lisL (l.take k)):=qjM hpb.rd (lisL (l.take k)) cLi rfl (by omega) (fun _ _=>rfl) fun x hx=>by
    obtain⟨y,_,rfl⟩:=List.mem_map.1 hx
    exact⟨rfl,show InR 0 by decide⟩
   repeat((conv=>whnf);first|apply qza|apply qzb|apply qzc|apply qzd|apply qze|intro(_:Nat)|intro(_:OA)_)
   conv=>whnf
   refine⟨fun hlt=>?_,fun hlt=>?_⟩
   ·have h':k<l.length:=by have:=of_decide_eq_true hlt;omega
    obtain⟨x,hx⟩:=qAA h'
    obtain⟨a,rfl,ec,hec,rfl,hc⟩:=hl1 k x hx
    have hbad:namF l k x=false→¬ qKR s l N:=fun hf h=>by have h3:=h.2.2;rw [qWA hx hf] at h3;cases h3
    repeat((conv=>whnf);first|apply qza|apply qzb|apply qzc|apply qzd|apply qze|intro(_:Nat)|intro(_:OA)_)
    conv=>whnf
    refine⟨a,rfl,⟨by omega,by omega⟩,?_⟩
    conv=>whnf
    refine⟨_,(hc.mono (GW.trans hg02 hgg)) 0 _ rfl,?_⟩
    repeat((conv=>whnf);first|apply qza|apply qzb|apply qzc|apply qzd|apply qze|intro(_:Nat)|intro(_:OA)_)
    conv=>whnf
    refine .inl ⟨_,qGJ _ _,?_⟩
    repeat((conv=>whnf);first|apply qza|apply qzb|apply qzc|apply qzd|apply qze|intro(_:Nat)|intro(_:OA)_)
    conv=>whnf
    refine⟨fun y1=>?_,fun y1=>?_⟩
    ·repeat((conv=>whnf);first|apply qza|apply qzb|apply qzc|apply qzd|apply qze|intro(_:Nat)|intro(_:OA)_)
     conv=>whnf
     intro g2 hg
     exact .inr ⟨hbad (by unfold namF;rw [nb1 y1];rfl),rfl⟩
    repeat((conv=>whnf);first|apply qza|apply qzb|apply qzc|apply qzd|apply qze|intro(_:Nat)|intro(_:OA)_)
    conv=>whnf
    refine .inl ⟨_,qMK _ hlis _,?_⟩
    repeat((conv=>whnf);first|apply qza|apply qzb|apply qzc|apply qzd|apply qze|intro(_:Nat)|intro(_:OA)_)
    conv=>whnf
    refine⟨fun y2=>?_,fun y2=>?_⟩
    ·repeat((conv=>whnf);first|apply qza|apply qzb|apply qzc|apply qzd|apply qze|intro(_:Nat)|intro(_:OA)_)
     conv=>whnf
     intro g2 hg
     exact .inr ⟨hbad (by unfold namF;rw [decide_eq_false (by have:=of_decide_eq_true y2;omega)];simp),rfl⟩
    have hnF:namF l k x=true:=by unfold namF;rw [nb0 y1,decide_eq_true (by have:=of_decide_eq_false y2;omega)];rfl
    have hT:=qpQ hx
    rcases hpb.2.1 with ⟨he,hn0⟩|⟨bk,cap',rest,he,hb1,hb2,hb3,hb4,hb5⟩
    ·cases he
     have hk0:k=0:=by omega
     subst hk0
     repeat((conv=>whnf);first|apply qza|apply qzb|apply qzc|apply qzd|apply qze|intro(_:Nat)|intro(_:OA)_)
     conv=>whnf
     refine⟨⟨by unfold maxLen;omega,by omega⟩,fun oa3 cap3=>?_⟩
     repeat((conv=>whnf);first|apply qza|apply qzb|apply qzc|apply qzd|apply qze|intro(_:Nat)|intro(_:OA)_)
     conv=>whnf
     refine fun fr w hw=>by
      have hw1:HSim fr ⟨g',.row 70 oa3 (1) cap3 qcA 4 (cLi ⟨x,false,0,false⟩) :: [.blk 5 qw qHA [.v (.int .i64 0),.v (.int .i64 0),.v (.int .i64 0),.row 3 (some ⟨qP,0,none⟩) N N,.sl 4 qV 0 1 1,.v (.slice oa3 (1) cap3),.v (.slice oS N cS),.v (.slice none 0 0)],.blk 4 qV qEA [.v (.slice sa (qPA s).snap.listens.length ta),.v (.slice sb (qPA s).snap.rules.length tb),.v (.slice sd (qPA s).snap.clusters.length td),.v (.slice oV nV cV),.v (.bool false)],.row 3 (some ⟨qP,0,none⟩) N N qOA 1 (List.replicate N [Value.int .i64 0]).flatten,.blk 2 q2 qEA [.v (.slice sa (qPA s).snap.listens.length ta),.v (.slice sb (qPA s).snap.rules.length tb),.v (.slice sd (qPA s).snap.clusters.length td),.v (.slice oV nV cV),.v (.bool false)],.blk 1 q1 qHA [.v (.int .i64 0),.v (.int .i64 0),.v (.int .i64 0),.v (.slice none 0 0),.v (.slice none 0 0),.v (.slice none 0 0),.v (.slice none 0 0),.v (.slice none 0 0)],.blk 0 q0 quA [.v (.slice oa s.listens.length ca),.v (.slice ob s.rules.length cb),.v (.slice od s.clusters.length cd)]],80,g.w.heap.size⟩ w:=hw.fit (by simp [fitL,Res.eqv,qBA,conc])
      obtain⟨g4,k1',k2,k3,k4⟩:=hw1.row_pub
      refine⟨(0+1,oa3,1,cap3,g4),congrArg (fun z=>[Value.int .i64 z]) (wr1 h' l1 l2).symm,⟨h',GW.trans hgg k1',rfl,?_,fun a ha q=>k2 a ha (hgg.2 _ q).1,hAK.succ hx hnF⟩,dec h',k4.fit (by simp [fitL,Res.eqv,qBA,conc])⟩
      rw [hT];exact k3
    ·cases he
     have hbk:¬ g2.g bk:=hnb _ rfl
     repeat((conv=>whnf);first|apply qza|apply qzb|apply qzc|apply qzd|apply qze|intro(_:Nat)|intro(_:OA)_)
     conv=>whnf
     refine .inr ⟨bk,_,rest,⟨rfl,hb1.1,hb1.2,hb2,hpb.1,hpb.2.2,hb3,hb4,hb5,by unfold maxLen;omega,by omega⟩,fun gL hless oa3 cap3=>?_⟩
     repeat((conv=>whnf);first|apply qza|apply qzb|apply qzc|apply qzd|apply qze|intro(_:Nat)|intro(_:OA)_)
     conv=>whnf
     refine fun fr w hw=>by
      have hw1:HSim fr ⟨gL,.row 70 oa3 (nX+1) cap3 qcA 4 (((lisL (l.take k)).map cLi).flatten++cLi ⟨x,false,0,false⟩) :: [.blk 5 qw qHA [.v (.int .i64 0),.v (.int .i64 0),.v (.int .i64 0),.row 3 (some ⟨qP,0,none⟩) N N,.sl 4 qV 0 1 1,.v (.slice oa3 (nX+1) cap3),.v (.slice oS N cS),.v (.slice none 0 0)],.blk 4 qV qEA [.v (.slice sa (qPA s).snap.listens.length ta),.v (.slice sb (qPA s).snap.rules.length tb),.v (.slice sd (qPA s).snap.clusters.length td),.v (.slice oV nV cV),.v (.bool false)],.row 3 (some ⟨qP,0,none⟩) N N qOA 1 (List.replicate N [Value.int .i64 0]).flatten,.blk 2 q2 qEA [.v (.slice sa (qPA s).snap.listens.length ta),.v (.slice sb (qPA s).snap.rules.length tb),.v (.slice sd (qPA s).snap.clusters.length td),.v (.slice oV nV cV),.v (.bool false)],.blk 1 q1 qHA [.v (.int .i64 0),.v (.int .i64 0),.v (.int .i64 0),.v (.slice none 0 0),.v (.slice none 0 0),.v (.slice none 0 0),.v (.slice none 0 0),.v (.slice none 0 0)],.blk 0 q0 quA [.v (.slice oa s.listens.length ca),.v (.slice ob s.rules.length cb),.v (.slice od s.clusters.length cd)]],80,g.w.heap.size⟩ w:=hw.fit (by simp [fitL,Res.eqv,qBA,conc])
      obtain⟨g4,k1',k2,k3,k4⟩:=hw1.row_pub
      have hgL:=hless.le hgg hbk
      refine⟨(k+1,oa3,nX+1,cap3,g4),congrArg (fun z=>[Value.int .i64 z]) (wr1 h' l1 l2).symm,⟨h',GW.trans hgL k1',by omega,?_,fun a ha q=>k2 a ha (hgL.2 _ q).1,hAK.succ hx hnF⟩,dec h',k4.fit (by simp [fitL,Res.eqv,qBA,conc])⟩
      rw [hT];simpa using k3
   have hkL:k=l.length:=by have:=of_decide_eq_false hlt;omega
   subst hkL
   have hok:qKR s l N:=⟨hz,ht,hAK.done (Nat.le_refl _)⟩
   rw [List.take_length] at hlis
   repeat((conv=>whnf);first|apply qza|apply qzb|apply qzc|apply qzd|apply qze|intro(_:Nat)|intro(_:OA)_)
   conv=>whnf
   refine fun gA kA nA pA=>?_
   repeat((conv=>whnf);first|apply qza|apply qzb|apply qzc|apply qzd|apply qze|intro(_:Nat)|intro(_:OA)_)
   conv=>whnf
   refine⟨5,rfl,by unfold maxLen;omega,fun gB kB nB pB=>?_⟩
   repeat((conv=>whnf);first|apply qza|apply qzb|apply qzc|apply qzd|apply qze|intro(_:Nat)|intro(_:OA)_)
   conv=>whnf
   intro g2 hg
   have mA:=GW.trans kA (GW.trans kB hg)
   refine .inl ⟨hok,_,rfl,_,_,_,_,_,rfl,⟨show InR 0 by decide,show InR 0 by decide,show InR 0 by decide⟩,?_,?_,hlis.mono qoC mA,hSh.mono q3C (GW.trans hgg mA),⟨none,0,rfl,Nat.le_refl _,Nat.zero_le _,fun _=>⟨rfl,rfl⟩,fun i x hx=>by simp [newW] at hx⟩⟩
   ·exact(q2E pA.rd (List.replicate N 0) (fun x=>.int .i64 x) (by simp [List.flatten_replicate_singleton]) fun x hx=>⟨rfl,by rw [List.eq_of_mem_replicate hx];decide⟩).mono qSB (GW.trans kB hg)
   ·refine qyL (pB.rd.mono hg) [qPA s] [[.slice sa (qPA s).snap.listens.length ta,.slice sb (qPA s).snap.rules.length tb,.slice sd (qPA s).snap.clusters.length td,.slice oV nV cV,.bool false]] rfl (fun e he=>?_) rfl rfl fun i x ec hx hec=>?_
    ·simp at he;subst he;rfl
    ·cases i with
     | zero =>
      simp at hx hec
      subst hx;subst hec
      exact qHK _ _ _ _ (GW.trans hg2 (GW.trans hgg mA)) hV0
     | succ i=>simp at hx)
/- Pins: the law's example,first part. -/
open Go.Proofs.YthonngjhelcpeaaGreat.Sx Go.RowKit
/- Requests: the steps' table. -/
open Go.Proofs.YthonngjhelcpeaaGreat.Sx Go.RowKit
def HaP (w:Wd) (m:Mach) (v:Value) (g':GW):Prop:=∃ cs ms,v=.tuple #[.agg ⟨cs⟩,.agg ⟨ms⟩,.agg ⟨(hsE w m).cs⟩]∧rWo g' cs (hsW w m)∧qhA g' ms (hsM w m)
abbrev SmO (m:Mach):Prop:=Sm m.op.host∧Sm m.op.path
def tHa:List (Nat×FnI):=[(qFC,qKC),(qyD,q2D),(qpC,qtC),(qlD,qqD),(qGC,qLC),(qEC,qJC),(q9C,qGD),(q8C,qFD),(qLD,qQD),(qmD,qrD),(qqC,quC),(qAD,qHD),(qxD,q1D),(qwD,qzD),(qaJ,qXE),(qJI,q0D)]
theorem quD:qdH Tryz.prog tHa:=by
 intro x hx
 simp only [tHa,List.mem_cons,List.not_mem_nil,or_false] at hx
 rcases hx with rfl|rfl|rfl|rfl|rfl|rfl|rfl|rfl|rfl|rfl|rfl|rfl|rfl|rfl|rfl|rfl
 ·exact⟨_,_,qeE⟩
 ·exact⟨_,_,q4H⟩
 ·exact⟨_,_,qFF⟩
 ·exact⟨_,_,q2G⟩
 ·exact⟨_,_,qfE⟩
 ·exact⟨_,_,qdE⟩
 ·exact⟨_,_,qoF⟩
 ·exact⟨_,_,qnF⟩
 ·exact⟨_,_,qYG⟩
 ·exact⟨_,_,q3G⟩
 ·exact⟨_,_,qGF⟩
 ·exact⟨_,_,qpF⟩
 ·exact⟨_,_,q2H⟩
 ·exact⟨_,_,qzH⟩
 ·exact⟨_,_,qBJ⟩
 ·exact⟨_,_,q0H⟩
def tabV:Value:=.agg #[.nilFunc,.nilFunc,.nilFunc,.func (.func qFC) #[] #[],.func (.func qyD) #[] #[],.func (.func qpC) #[] #[],.func (.func qlD) #[] #[],.func (.func qGC) #[] #[],.func (.func qEC) #[] #[],.func (.func q9C) #[] #[],.func (.func q8C) #[] #[],.func (.func qLD) #[] #[],.func (.func qmD) #[] #[],.nilFunc,.nilFunc,.nilFunc,.nilFunc,.nilFunc,.nilFunc,.nilFunc,.func (.func qqC) #[] #[],.func (.func qAD) #[] #[],.func (.func qxD) #[] #[],.func (.func qwD) #[] #[]]
theorem qRB (g:GW):OkV Tryz.prog qmN [] g tabV :=
 Ok.of_fn hm noT 0 qaN (args:=[]) (by
  repeat((conv=>whnf);first|apply qza|apply qzb|apply qzc|apply qzd|apply qze|intro(_:Nat))
  conv=>whnf
  intro g2 hg
  rfl)
theorem qVU (g:GW) {w i:Int} (hw:InU w) (hi:InR i):OkV Tryz.prog qJO [.int .u64 w,.int .i64 i] g (.tuple #[.int .u64 (if qNB i then qBB w i else 0),.int .i64 (if qNB i then 0 else 1)]) :=
 Ok.of_fn hm noT 0 q7N (args:=[.v (.int .u64 w),.v (.int .i64 i)]) (by
  have h1:=Int.emod_nonneg (tagT w+1) (show(4294967296:Int)≠0 by decide)
  have h2:=Int.emod_lt_of_pos (tagT w+1) (show(0:Int)<4294967296 by decide)
  repeat((conv=>whnf);first|apply qza|apply qzb|apply qzc|apply qzd|apply qze|intro(_:Nat))
  conv=>whnf
  refine .inl ⟨_,qUU _ hw,?_⟩
  repeat((conv=>whnf);first|apply qza|apply qzb|apply qzc|apply qzd|apply qze|intro(_:Nat))
  conv=>whnf
  refine .inl ⟨_,(q6O _ (t:=IntKind.u32.wrap (tagT w+1)) (i:=i) (by rw [IntKind.wrap_u32];exact⟨h1,h2⟩) hi),?_⟩
  repeat((conv=>whnf);first|apply qza|apply qzb|apply qzc|apply qzd|apply qze|intro(_:Nat))
  conv=>whnf
  intro g2 hg
  rw [IntKind.wrap_u32];rfl)
theorem qRS {c:Cluster} {t:Int} (h:c.health.length≤17592186044416):InR (q0E c t):=by
 by_cases hn:qGA c=[]
 ·have:q0E c t=0:=by simp [q0E,hn]
  rw [this];decide
 ·have:=q4T (t:=t) hn
  unfold InR;omega
theorem quS {c:Cluster} {t:Int} (h:c.health.length≤17592186044416):InR (qiC c t):=qRS h
abbrev xW (bw bm:Nat):Value:=.agg ⟨[.pointer (some ⟨bw,0,none⟩),.pointer (some ⟨bm,0,none⟩)]⟩
theorem q7A (g:GW) {bw bm:Nat} {t a c v:Int} (h1:Rc g ⟨bm,10,none⟩ (.int .i64 t)):OkV Tryz.prog qKI [xW bw bm,.int .i64 a,.int .i64 c,.int .i64 v] g (.agg ⟨(⟨t,0,a,c,-1,false,v,false,false,false,ans0⟩:Ev).cs⟩) :=
 Ok.of_fn hm noT 0 q1H (args:=[.v (xW bw bm),.v (.int .i64 a),.v (.int .i64 c),.v (.int .i64 v)]) (by
  repeat((conv=>whnf);first|apply qza|apply qzb|apply qzc|apply qzd|apply qze|intro(_:Nat))
  conv=>whnf
  refine⟨_,h1,?_⟩
  repeat((conv=>whnf);first|apply qza|apply qzb|apply qzc|apply qzd|apply qze|intro(_:Nat))
  conv=>whnf
  intro g2 hg
  rfl)
theorem qPE (g:GW) {bw bm:Nat} {t i a c v:Int} {av:Addr} {nv cv:Nat} {q1 q2 q3 q4:Value} {fr:Bool} (h1:Rc g ⟨bm,10,none⟩ (.int .i64 t)) (h2:Rc g ⟨bm,13,none⟩ (.int .i64 i)) (h3:Rc g ⟨bw,4,none⟩ (.slice (some av) nv cv)) (hi:0≤i∧i<nv) (hv:Rcs g (av.add (i.toNat*5)) [q1,q2,q3,q4,.bool fr]):OkV Tryz.prog qZK [xW bw bm,.int .i64 a,.int .i64 c,.int .i64 v] g (.agg ⟨(⟨t,0,a,c,i,fr,v,false,false,false,ans0⟩:Ev).cs⟩) :=
 Ok.of_fn hm noT 0 qBK (args:=[.v (xW bw bm),.v (.int .i64 a),.v (.int .i64 c),.v (.int .i64 v)]) (by
  repeat'((conv=>whnf);first|apply qza|apply qzb|apply qzc|apply qzd|apply qze|intro(_:Nat)|refine .inl ⟨_,q7A _ h1,?_⟩|refine⟨_,h2,?_⟩|refine⟨_,h3,?_⟩|refine⟨_,rfl,hi,?_⟩|refine⟨_,hv 4 _ rfl,?_⟩|refine And.intro ?_ ?_|fail)
  all_goals (conv=>whnf)
  all_goals (first|exact Eq.refl _|(intro g2 hg;rfl)))
theorem qtM (g:GW) {bw bm:Nat} {i j:Int} {av ag:Addr} {nv cv ng cg:Nat} {q1 q2 q3 q5:Value} (h2:Rc g ⟨bm,13,none⟩ (.int .i64 i)) (h4:Rc g ⟨bm,15,none⟩ (.int .i64 j)) (h3:Rc g ⟨bw,4,none⟩ (.slice (some av) nv cv)) (hi:0≤i∧i<nv) (hv:Rcs g (av.add (i.toNat*5)) [q1,q2,q3,.slice (some ag) ng cg,q5]) (hj:0≤j∧j<ng):OkV Tryz.prog qLI [xW bw bm] g (.pointer (some (ag.add (j.toNat*2)))) :=
 Ok.of_fn hm noT 0 q3H (args:=[.v (xW bw bm)]) (by
  repeat'((conv=>whnf);first|apply qza|apply qzb|apply qzc|apply qzd|apply qze|intro(_:Nat)|refine⟨_,h2,?_⟩|refine⟨_,h3,?_⟩|refine⟨_,h4,?_⟩|refine⟨_,rfl,hi,?_⟩|refine⟨_,hv 3 _ rfl,?_⟩|refine⟨_,rfl,hj,?_⟩|refine And.intro ?_ ?_|fail)
  all_goals (conv=>whnf)
  all_goals (first|exact Eq.refl _|(intro g2 hg;rfl)))
theorem qtF (g:GW) {bw bm:Nat} {i j:Int} {av ak:Addr} {nv cv nk ck:Nat} {q1 q2 q4 q5:Value} {nm:BA} {po sl:Int} {oh:Option Addr} {nh ch:Nat} (h2:Rc g ⟨bm,13,none⟩ (.int .i64 i)) (h4:Rc g ⟨bm,15,none⟩ (.int .i64 j)) (h3:Rc g ⟨bw,4,none⟩ (.slice (some av) nv cv)) (hi:0≤i∧i<nv) (hv:Rcs g (av.add (i.toNat*5)) [q1,q2,.slice (some ak) nk ck,q4,q5]) (hj:0≤j∧j<nk) (hk:Rcs g (ak.add (j.toNat*4)) [.string nm,.int .i64 po,.int .i64 sl,.slice oh nh ch]):OkV Tryz.prog qgG [xW bw bm] g (.agg ⟨[.string nm,.int .i64 po,.int .i64 sl,.slice oh nh ch]⟩) :=
 Ok.of_fn hm noT 0 qXG (args:=[.v (xW bw bm)]) (by
  repeat'((conv=>whnf);first|apply qza|apply qzb|apply qzc|apply qzd|apply qze|intro(_:Nat)|refine⟨_,h2,?_⟩|refine⟨_,h3,?_⟩|refine⟨_,h4,?_⟩|refine⟨_,rfl,hi,?_⟩|refine⟨_,hv 2 _ rfl,?_⟩|refine⟨_,rfl,hj,?_⟩|refine⟨_,⟨rfl,hk⟩,?_⟩|refine And.intro ?_ ?_|fail)
  all_goals (conv=>whnf)
  all_goals (first|exact Eq.refl _|(intro g2 hg;rfl)))
theorem qcC (g:GW) {bw bm:Nat} {i j k:Int} {av ag ae:Addr} {nv cv ng cg ne ce:Nat} {q1 q2 q3 q5 tk:Value} (h2:Rc g ⟨bm,13,none⟩ (.int .i64 i)) (h4:Rc g ⟨bm,15,none⟩ (.int .i64 j)) (h5:Rc g ⟨bm,16,none⟩ (.int .i64 k)) (h3:Rc g ⟨bw,4,none⟩ (.slice (some av) nv cv)) (hi:0≤i∧i<nv) (hv:Rcs g (av.add (i.toNat*5)) [q1,q2,q3,.slice (some ag) ng cg,q5]) (hj:0≤j∧j<ng) (hg:Rcs g (ag.add (j.toNat*2)) [tk,.slice (some ae) ne ce]) (hk:0≤k∧k<ne):OkV Tryz.prog qaK [xW bw bm] g (.pointer (some (ae.add (k.toNat*3)))) :=
 Ok.of_fn hm noT 0 qCK (args:=[.v (xW bw bm)]) (by
  repeat'((conv=>whnf);first|apply qza|apply qzb|apply qzc|apply qzd|apply qze|intro(_:Nat)|refine .inl ⟨_,qtM _ h2 h4 h3 hi hv hj,?_⟩|refine⟨_,h5,?_⟩|refine⟨_,hg 1 _ rfl,?_⟩|refine⟨_,rfl,hk,?_⟩|refine And.intro ?_ ?_|fail)
  all_goals (conv=>whnf)
  all_goals (first|exact Eq.refl _|(intro g2 hg;rfl)))
/- Ends of requests: events. -/
open Go.Proofs.YthonngjhelcpeaaGreat.Sx Go.RowKit
def FiP (w:Wd) (m:Mach) (v:Value) (g':GW):Prop:=∃ cs ms,v=.tuple #[.agg ⟨cs⟩,.agg ⟨ms⟩,.agg ⟨(fsE w m).cs⟩]∧rWo g' cs (fsW w m)∧qhA g' ms (fsM w m)
theorem quU {w:Int} (_h:InU w):InR (idxT w):=by
 unfold idxT InR
 omega
theorem qFJ (g:GW) {cs ms:List Value} {w:Wd} {m:Mach} {a c x:Int} (hw:rWo g cs w) (hM:qhA g ms m) (hv:0≤m.version∧m.version<w.versions.length):OkV Tryz.prog qhQ [.agg ⟨cs⟩,.agg ⟨ms⟩,.int .i64 a,.int .i64 c,.int .i64 x] g (.agg ⟨(evV w m a c x).cs⟩):=by
 obtain⟨oa,ca,ob,cb,oc,cc,od,cd,oe,ce,rfl⟩:=qKA hw
 obtain⟨o1,t1,o2,t2,o3,t3,rfl⟩:=qqB hM
 obtain⟨v,hvv⟩:=qAA (l:=w.versions) (i:=m.version.toNat) (by omega)
 have hmV:mV w m=v:=by unfold mV;rw [hvv];rfl
 have hFv:=qyO hw
 obtain⟨av,rfl⟩:=qJA hFv hvv
 obtain⟨oL,cL,oR,cR,oC,cC,oG,cG,hcv,_,_,_⟩:=qnE hFv hvv
 unfold evV
 rw [hmV]
 exact Ok.of_fn hm noT 0 q9P (args:=[.v (.agg ⟨[.int .i64 w.epoch,.int .i64 w.current,.int .i64 w.lock,.slice oa w.pins.length ca,.slice (some av) w.versions.length cb,.slice oc w.listens.length cc,.slice od w.counts.length cd,.slice oe w.limbo.length ce]⟩),.v (.agg ⟨mQ m o1 t1 o2 t2 o3 t3⟩),.v (.int .i64 a),.v (.int .i64 c),.v (.int .i64 x)]) (by
  repeat'((conv=>whnf);first|apply qza|apply qzb|apply qzc|apply qzd|apply qze|intro(_:Nat)|refine⟨_,rfl,hv,?_⟩|refine⟨_,hcv 4 _ rfl,?_⟩|refine And.intro ?_ ?_|fail)
  all_goals (conv=>whnf)
  all_goals (first|exact Eq.refl _|(intro g2 hg;rfl)))
/- Ends of requests: the program's step,place 0. -/
open Go.Proofs.YthonngjhelcpeaaGreat.Sx Go.RowKit
theorem qHY (g:GW) {cs ms:List Value} {w:Wd} {m:Mach} (hw:rWo g cs w) (hM:qhA g ms m) (hsn:SnW w) (hb:BgW 1000000 w) (hgo:fGo w m) (h0:m.pc=0):Ok Tryz.prog qCB [.agg ⟨cs⟩,.agg ⟨ms⟩] g (FiP w m):=by
 obtain⟨hW9,hM9,hE9⟩:=qhG hgo
 obtain⟨kW,kM,kE⟩:=fa0 (w:=w) h0
 rw [kW] at hW9
 rw [kM] at hM9
 rw [kE] at hE9
 clear kW kM kE
 have hs:=hgo.1
 obtain⟨v,gr,en,hS⟩:=id (suitB_iff.1 hs)
 obtain⟨oa,ca,ob,cb,oc,cc,od,cd,oe,ce,o1,t1,o2,t2,o3,t3,rfl,rfl,hw0,hM0,⟨i1,i2,i3⟩,hP,hV,hL,hC,hR,⟨a1,a2,a0,hP1⟩,⟨b1,b2,b0,hV1⟩,⟨c1,c2,c0,hL1⟩,⟨d1,d2,d0,hC1⟩,⟨e1,e2,e0,hR1⟩,hok,hop,hcf⟩:=q4B hw hM
 exact Ok.of_fn hm noT 0 qhB (args:=[.v (.agg ⟨wQ w oa ca ob cb oc cc od cd oe ce⟩),.v (.agg ⟨mQ m o1 t1 o2 t2 o3 t3⟩)]) (by
  repeat((conv=>whnf);first|apply qza|apply qzb|apply qzc|apply qzd|apply qze|intro(_:Nat))
  conv=>whnf
  refine dF (by omega) ?_
  repeat((conv=>whnf);first|apply qza|apply qzb|apply qzc|apply qzd|apply qze|intro(_:Nat))
  conv=>whnf
  refine dF (by omega) ?_
  repeat((conv=>whnf);first|apply qza|apply qzb|apply qzc|apply qzd|apply qze|intro(_:Nat))
  conv=>whnf
  refine .inl ⟨_,qYA _ hw0 hM0 hsn hb,?_⟩
  repeat((conv=>whnf);first|apply qza|apply qzb|apply qzc|apply qzd|apply qze|intro(_:Nat))
  conv=>whnf
  refine⟨fun hx=>absurd (hs.symm.trans (nb1 hx)) (by decide),fun _=>?_⟩
  repeat((conv=>whnf);first|apply qza|apply qzb|apply qzc|apply qzd|apply qze|intro(_:Nat))
  conv=>whnf
  refine⟨fun hx=>absurd (beqT hx) (by omega),fun _=>?_⟩
  repeat((conv=>whnf);first|apply qza|apply qzb|apply qzc|apply qzd|apply qze|intro(_:Nat))
  refine .inr ((qeA _ hw0 hb).mono fun v g3 hg3 hO=>?_)
  obtain⟨cs,T,rfl,hT⟩:=hO
  have hF:=qTA hT
  obtain⟨oa',ca',ob',cb',oc',cc',od',cd',oe',ce',rfl⟩:=qKA hF
  have hwu:=hok.word
  have hw3:=qDA _ _ _ _ hg3 hw0
  have hM3:=qQA _ _ _ _ hg3 hM0
  obtain⟨b1,k1,b2,k2,va,vb,vd,vn,T2,hq,hcv,hcg,htk,hE2,_,hPK⟩:=qdC hT hS.ver.2 hS.clu.2
  cases hq
  have hei:=(qGE hF hS.ver.2 hS.clu.2 hS.end_.2).1
  obtain⟨hvi,hgi,hki⟩:=hS.idx
  obtain⟨hmV,hmG,hmE⟩:=hS.at_
  have hp1:IntKind.i64.wrap (m.pc+1)=1:=by rw [h0];rfl
  obtain⟨b3,k3,nn,T3,hqn,hce,hN,hPE⟩:=q8A hE2 hS.end_.2 (en':=en) (o:=0) (vs:=[.int .u64 en.head]) (by simp) (by simp [Value.oneCell']) (fun n=>rfl) rfl ⟨hei.1,hei.2.1⟩
  subst hqn
  rw [hmE] at hM9 hE9
  repeat'((conv=>whnf);first|apply qza|apply qzb|apply qzc|apply qzd|apply qze|intro(_:Nat)|refine⟨_,rfl,hvi,?_⟩|refine⟨_,hcv 3 _ rfl,?_⟩|refine⟨_,rfl,hgi,?_⟩|refine⟨_,hcg 1 _ rfl,?_⟩|refine⟨_,rfl,hki,?_⟩|refine .inl ⟨_,qsB _ hwu,?_⟩|refine .inl ⟨_,qsB _ hei.1,?_⟩|refine⟨_,hce 0 _ rfl,?_⟩|refine .inl ⟨_,qFJ _ hw3 hM3 hvi,?_⟩|fail)
  conv=>whnf
  refine⟨fun _=>?_,fun hx=>absurd h0 (beqF hx)⟩
  repeat'((conv=>whnf);first|apply qza|apply qzb|apply qzc|apply qzd|apply qze|intro(_:Nat)|refine⟨_,hce 0 _ rfl,?_⟩|refine And.intro ?_ ?_|fail)
  all_goals (conv=>whnf)
  all_goals (first|exact Eq.refl _|(
   intro g2 hg
   refine⟨_,_,by rw [hE9]<;>rfl,by rw [hW9];exact qDA _ _ _ _ hg hF,?_⟩
   rw [hM9,hp1]
   exact⟨_,_,_,rfl,{hok with pc:=show InR (1:Int) by decide,word:=hei.1},hop,qCA _ _ _ _ (GW.trans hg3 hg) hcf⟩)))
/- Ends of requests: the program's step,place 1. -/
open Go.Proofs.YthonngjhelcpeaaGreat.Sx Go.RowKit
theorem qGY (g:GW) {cs ms:List Value} {w:Wd} {m:Mach} (hw:rWo g cs w) (hM:qhA g ms m) (hsn:SnW w) (hb:BgW 1000000 w) (hgo:fGo w m) (h0:m.pc=1):Ok Tryz.prog qCB [.agg ⟨cs⟩,.agg ⟨ms⟩] g (FiP w m):=by
 obtain⟨hW9,hM9,hE9⟩:=qhG hgo
 obtain⟨kW,kM,kE⟩:=fa1 (w:=w) h0
 rw [kW] at hW9
 rw [kM] at hM9
 rw [kE] at hE9
 clear kW kM kE
 have hs:=hgo.1
 obtain⟨v,gr,en,hS⟩:=id (suitB_iff.1 hs)
 obtain⟨oa,ca,ob,cb,oc,cc,od,cd,oe,ce,o1,t1,o2,t2,o3,t3,rfl,rfl,hw0,hM0,⟨i1,i2,i3⟩,hP,hV,hL,hC,hR,⟨a1,a2,a0,hP1⟩,⟨b1,b2,b0,hV1⟩,⟨c1,c2,c0,hL1⟩,⟨d1,d2,d0,hC1⟩,⟨e1,e2,e0,hR1⟩,hok,hop,hcf⟩:=q4B hw hM
 exact Ok.of_fn hm noT 0 qhB (args:=[.v (.agg ⟨wQ w oa ca ob cb oc cc od cd oe ce⟩),.v (.agg ⟨mQ m o1 t1 o2 t2 o3 t3⟩)]) (by
  repeat((conv=>whnf);first|apply qza|apply qzb|apply qzc|apply qzd|apply qze|intro(_:Nat))
  conv=>whnf
  refine dF (by omega) ?_
  repeat((conv=>whnf);first|apply qza|apply qzb|apply qzc|apply qzd|apply qze|intro(_:Nat))
  conv=>whnf
  refine dF (by omega) ?_
  repeat((conv=>whnf);first|apply qza|apply qzb|apply qzc|apply qzd|apply qze|intro(_:Nat))
  conv=>whnf
  refine .inl ⟨_,qYA _ hw0 hM0 hsn hb,?_⟩
  repeat((conv=>whnf);first|apply qza|apply qzb|apply qzc|apply qzd|apply qze|intro(_:Nat))
  conv=>whnf
  refine⟨fun hx=>absurd (hs.symm.trans (nb1 hx)) (by decide),fun _=>?_⟩
  repeat((conv=>whnf);first|apply qza|apply qzb|apply qzc|apply qzd|apply qze|intro(_:Nat))
  conv=>whnf
  refine⟨fun hx=>absurd (beqT hx) (by omega),fun _=>?_⟩
  repeat((conv=>whnf);first|apply qza|apply qzb|apply qzc|apply qzd|apply qze|intro(_:Nat))
  refine .inr ((qeA _ hw0 hb).mono fun v g3 hg3 hO=>?_)
  obtain⟨cs,T,rfl,hT⟩:=hO
  have hF:=qTA hT
  obtain⟨oa',ca',ob',cb',oc',cc',od',cd',oe',ce',rfl⟩:=qKA hF
  have hwu:=hok.word
  have hw3:=qDA _ _ _ _ hg3 hw0
  have hM3:=qQA _ _ _ _ hg3 hM0
  obtain⟨b1,k1,b2,k2,va,vb,vd,vn,T2,hq,hcv,hcg,htk,hE2,_,hPK⟩:=qdC hT hS.ver.2 hS.clu.2
  cases hq
  have hei:=(qGE hF hS.ver.2 hS.clu.2 hS.end_.2).1
  obtain⟨hvi,hgi,hki⟩:=hS.idx
  obtain⟨hmV,hmG,hmE⟩:=hS.at_
  have hp1:IntKind.i64.wrap (m.pc+1)=2:=by rw [h0];rfl
  have hsl:=hS.slot
  obtain⟨y,hy⟩:=qAA (l:=en.next) (i:=m.slot.toNat) (by omega)
  obtain⟨b3,k3,b4,k4,hqn,hce,hPE⟩:=qHO hE2 hS.end_.2 (s:=m.slot.toNat) hy (quU hwu)
  subst hqn
  obtain⟨b5,j5,bc,ty5,⟨hA,p1,p2,p3,p4⟩,_,hk5⟩:=hPK _ _ _ hPE
  rw [hmE,setE,hmV,hmG] at hW9
  repeat'((conv=>whnf);first|apply qza|apply qzb|apply qzc|apply qzd|apply qze|intro(_:Nat)|refine⟨_,rfl,hvi,?_⟩|refine⟨_,hcv 3 _ rfl,?_⟩|refine⟨_,rfl,hgi,?_⟩|refine⟨_,hcg 1 _ rfl,?_⟩|refine⟨_,rfl,hki,?_⟩|refine .inl ⟨_,qsB _ hwu,?_⟩|refine .inl ⟨_,qsB _ hei.1,?_⟩|refine⟨_,hce 0 _ rfl,?_⟩|refine .inl ⟨_,qFJ _ hw3 hM3 hvi,?_⟩|fail)
  conv=>whnf
  refine⟨fun hx=>absurd ((beqT hx).symm.trans h0) (by decide),fun _=>?_⟩
  repeat((conv=>whnf);first|apply qza|apply qzb|apply qzc|apply qzd|apply qze|intro(_:Nat))
  conv=>whnf
  refine⟨fun _=>?_,fun hx=>absurd h0 (beqF hx)⟩
  repeat'((conv=>whnf);first|apply qza|apply qzb|apply qzc|apply qzd|apply qze|intro(_:Nat)|refine⟨_,hce 1 _ rfl,?_⟩|refine⟨_,rfl,hsl,?_⟩|fail)
  conv=>whnf
  refine⟨b5,j5,bc,ty5,⟨by first|exact hA|(rw [← hA];rfl)|(rw [← hA,qwA]),p1,p2,p3,p4⟩,?_⟩
  repeat((conv=>whnf);first|apply qza|apply qzb|apply qzc|apply qzd|apply qze|intro(_:Nat))
  conv=>whnf
  refine fun g6 u6=>?_
  have hFx:=qTA (hk5 g6 u6)
  have hle6:g≤g6:=u6.le hg3 (fun h=>by have:=g.wf _ h;omega)
  have hcw:=u6.rd p2 p4
  rw [← hA] at hcw
  repeat'((conv=>whnf);first|apply qza|apply qzb|apply qzc|apply qzd|apply qze|intro(_:Nat)|refine And.intro ?_ ?_|fail)
  all_goals (conv=>whnf)
  all_goals (first|exact Eq.refl _|(
   intro g2 hg
   refine⟨_,_,by rw [hE9]<;>rfl,by rw [hW9];exact qDA _ _ _ _ hg hFx,?_⟩
   rw [hM9,hp1]
   exact⟨_,_,_,rfl,{hok with pc:=show InR (2:Int) by decide},hop,qCA _ _ _ _ (GW.trans hle6 hg) hcf⟩)))
/- Ends of requests: the program's step,place 2. -/
open Go.Proofs.YthonngjhelcpeaaGreat.Sx Go.RowKit
theorem qFY (g:GW) {cs ms:List Value} {w:Wd} {m:Mach} (hw:rWo g cs w) (hM:qhA g ms m) (hsn:SnW w) (hb:BgW 1000000 w) (hgo:fGo w m) (h0:m.pc=2):Ok Tryz.prog qCB [.agg ⟨cs⟩,.agg ⟨ms⟩] g (FiP w m):=by
 obtain⟨hW9,hM9,hE9⟩:=qhG hgo
 obtain⟨kW,kM,kE⟩:=fa2 (w:=w) h0
 rw [kW] at hW9
 rw [kM] at hM9
 rw [kE] at hE9
 clear kW kM kE
 have hs:=hgo.1
 obtain⟨v,gr,en,hS⟩:=id (suitB_iff.1 hs)
 obtain⟨oa,ca,ob,cb,oc,cc,od,cd,oe,ce,o1,t1,o2,t2,o3,t3,rfl,rfl,hw0,hM0,⟨i1,i2,i3⟩,hP,hV,hL,hC,hR,⟨a1,a2,a0,hP1⟩,⟨b1,b2,b0,hV1⟩,⟨c1,c2,c0,hL1⟩,⟨d1,d2,d0,hC1⟩,⟨e1,e2,e0,hR1⟩,hok,hop,hcf⟩:=q4B hw hM
 exact Ok.of_fn hm noT 0 qhB (args:=[.v (.agg ⟨wQ w oa ca ob cb oc cc od cd oe ce⟩),.v (.agg ⟨mQ m o1 t1 o2 t2 o3 t3⟩)]) (by
  repeat((conv=>whnf);first|apply qza|apply qzb|apply qzc|apply qzd|apply qze|intro(_:Nat))
  conv=>whnf
  refine dF (by omega) ?_
  repeat((conv=>whnf);first|apply qza|apply qzb|apply qzc|apply qzd|apply qze|intro(_:Nat))
  conv=>whnf
  refine dF (by omega) ?_
  repeat((conv=>whnf);first|apply qza|apply qzb|apply qzc|apply qzd|apply qze|intro(_:Nat))
  conv=>whnf
  refine .inl ⟨_,qYA _ hw0 hM0 hsn hb,?_⟩
  repeat((conv=>whnf);first|apply qza|apply qzb|apply qzc|apply qzd|apply qze|intro(_:Nat))
  conv=>whnf
  refine⟨fun hx=>absurd (hs.symm.trans (nb1 hx)) (by decide),fun _=>?_⟩
  repeat((conv=>whnf);first|apply qza|apply qzb|apply qzc|apply qzd|apply qze|intro(_:Nat))
  conv=>whnf
  refine⟨fun hx=>absurd (beqT hx) (by omega),fun _=>?_⟩
  repeat((conv=>whnf);first|apply qza|apply qzb|apply qzc|apply qzd|apply qze|intro(_:Nat))
  refine .inr ((qeA _ hw0 hb).mono fun v g3 hg3 hO=>?_)
  obtain⟨cs,T,rfl,hT⟩:=hO
  have hF:=qTA hT
  obtain⟨oa',ca',ob',cb',oc',cc',od',cd',oe',ce',rfl⟩:=qKA hF
  have hwu:=hok.word
  have hw3:=qDA _ _ _ _ hg3 hw0
  have hM3:=qQA _ _ _ _ hg3 hM0
  obtain⟨b1,k1,b2,k2,va,vb,vd,vn,T2,hq,hcv,hcg,htk,hE2,_,hPK⟩:=qdC hT hS.ver.2 hS.clu.2
  cases hq
  have hei:=(qGE hF hS.ver.2 hS.clu.2 hS.end_.2).1
  obtain⟨hvi,hgi,hki⟩:=hS.idx
  obtain⟨hmV,hmG,hmE⟩:=hS.at_
  have hsl:=hS.slot
  obtain⟨y,hy⟩:=qAA (l:=en.next) (i:=m.slot.toNat) (by omega)
  have h4:=(qkB hS.endB).2.2.1
  have hpl:-1≤m.slot∧m.slot≤2147483646:=by omega
  rw [hmE,setE,hmV,hmG] at hW9
  rw [hmE] at hM9 hE9
  by_cases hc1:en.head=m.word
  ·have hp1:IntKind.i64.wrap (m.pc+1)=3:=by rw [h0];rfl
   rw [if_pos hc1] at hW9 hM9 hE9
   obtain⟨b3,k3,nn,T3,hqn,hce,hN,hPE⟩:=q8A hE2 hS.end_.2 (en':={en with head:=qBB m.word m.slot}) (o:=0) (vs:=[.int .u64 (qBB m.word m.slot)]) (by simp) (by simp [Value.oneCell']) (fun n=>rfl) rfl ⟨qCP hpl,hei.2.1⟩
   subst hqn
   obtain⟨b5,j5,bc,ty5,⟨hA,p1,p2,p3,p4⟩,_,hk5⟩:=hPK _ _ _ hPE
   repeat'((conv=>whnf);first|apply qza|apply qzb|apply qzc|apply qzd|apply qze|intro(_:Nat)|refine⟨_,rfl,hvi,?_⟩|refine⟨_,hcv 3 _ rfl,?_⟩|refine⟨_,rfl,hgi,?_⟩|refine⟨_,hcg 1 _ rfl,?_⟩|refine⟨_,rfl,hki,?_⟩|refine .inl ⟨_,qsB _ hwu,?_⟩|refine .inl ⟨_,qsB _ hei.1,?_⟩|refine⟨_,hce 0 _ rfl,?_⟩|refine .inl ⟨_,qFJ _ hw3 hM3 hvi,?_⟩|fail)
   conv=>whnf
   refine⟨fun hx=>absurd ((beqT hx).symm.trans h0) (by decide),fun _=>?_⟩
   repeat((conv=>whnf);first|apply qza|apply qzb|apply qzc|apply qzd|apply qze|intro(_:Nat))
   conv=>whnf
   refine⟨fun hx=>absurd ((beqT hx).symm.trans h0) (by decide),fun _=>?_⟩
   repeat((conv=>whnf);first|apply qza|apply qzb|apply qzc|apply qzd|apply qze|intro(_:Nat))
   conv=>whnf
   refine⟨fun _=>?_,fun hx=>absurd h0 (beqF hx)⟩
   repeat'((conv=>whnf);first|apply qza|apply qzb|apply qzc|apply qzd|apply qze|intro(_:Nat)|refine⟨_,hce 0 _ rfl,?_⟩|fail)
   conv=>whnf
   refine⟨fun hx=>absurd hc1 (bneT hx),fun _=>?_⟩
   repeat'((conv=>whnf);first|apply qza|apply qzb|apply qzc|apply qzd|apply qze|intro(_:Nat)|refine .inl ⟨_,qcS _ hwu hpl,?_⟩|fail)
   conv=>whnf
   refine⟨b5,j5,bc,ty5,⟨by first|exact hA|(rw [← hA];rfl)|(rw [← hA,qwA]),p1,p2,p3,p4⟩,?_⟩
   repeat((conv=>whnf);first|apply qza|apply qzb|apply qzc|apply qzd|apply qze|intro(_:Nat))
   conv=>whnf
   refine fun g6 u6=>?_
   have hFx:=qTA (hk5 g6 u6)
   have hle6:g≤g6:=u6.le hg3 (fun h=>by have:=g.wf _ h;omega)
   have hcw:=u6.rd p2 p4
   rw [← hA] at hcw
   repeat'((conv=>whnf);first|apply qza|apply qzb|apply qzc|apply qzd|apply qze|intro(_:Nat)|refine And.intro ?_ ?_|fail)
   all_goals (conv=>whnf)
   all_goals (first|exact Eq.refl _|(
    intro g2 hg
    refine⟨_,_,by rw [hE9]<;>rfl,by rw [hW9];exact qDA _ _ _ _ hg hFx,?_⟩
    rw [hM9,hp1]
    exact⟨_,_,_,rfl,{hok with pc:=show InR (3:Int) by decide},hop,qCA _ _ _ _ (GW.trans hle6 hg) hcf⟩))
  ·rw [if_neg hc1] at hW9 hM9 hE9
   obtain⟨b3,k3,nn,T3,hqn,hce,hN,hPE⟩:=q8A hE2 hS.end_.2 (en':=en) (o:=0) (vs:=[.int .u64 en.head]) (by simp) (by simp [Value.oneCell']) (fun n=>rfl) rfl ⟨hei.1,hei.2.1⟩
   subst hqn
   repeat'((conv=>whnf);first|apply qza|apply qzb|apply qzc|apply qzd|apply qze|intro(_:Nat)|refine⟨_,rfl,hvi,?_⟩|refine⟨_,hcv 3 _ rfl,?_⟩|refine⟨_,rfl,hgi,?_⟩|refine⟨_,hcg 1 _ rfl,?_⟩|refine⟨_,rfl,hki,?_⟩|refine .inl ⟨_,qsB _ hwu,?_⟩|refine .inl ⟨_,qsB _ hei.1,?_⟩|refine⟨_,hce 0 _ rfl,?_⟩|refine .inl ⟨_,qFJ _ hw3 hM3 hvi,?_⟩|fail)
   conv=>whnf
   refine⟨fun hx=>absurd ((beqT hx).symm.trans h0) (by decide),fun _=>?_⟩
   repeat((conv=>whnf);first|apply qza|apply qzb|apply qzc|apply qzd|apply qze|intro(_:Nat))
   conv=>whnf
   refine⟨fun hx=>absurd ((beqT hx).symm.trans h0) (by decide),fun _=>?_⟩
   repeat((conv=>whnf);first|apply qza|apply qzb|apply qzc|apply qzd|apply qze|intro(_:Nat))
   conv=>whnf
   refine⟨fun _=>?_,fun hx=>absurd h0 (beqF hx)⟩
   repeat'((conv=>whnf);first|apply qza|apply qzb|apply qzc|apply qzd|apply qze|intro(_:Nat)|refine⟨_,hce 0 _ rfl,?_⟩|fail)
   conv=>whnf
   refine⟨fun _=>?_,fun hx=>absurd (bneF hx) hc1⟩
   repeat'((conv=>whnf);first|apply qza|apply qzb|apply qzc|apply qzd|apply qze|intro(_:Nat)|refine And.intro ?_ ?_|fail)
   all_goals (conv=>whnf)
   all_goals (first|exact Eq.refl _|(
    intro g2 hg
    refine⟨_,_,by rw [hE9]<;>rfl,by rw [hW9];exact qDA _ _ _ _ hg hF,?_⟩
    rw [hM9]
    exact⟨_,_,_,rfl,{hok with pc:=show InR (0:Int) by decide},hop,qCA _ _ _ _ (GW.trans hg3 hg) hcf⟩)))
end Go.Proofs.YthonngjhelcpeaaGreat
