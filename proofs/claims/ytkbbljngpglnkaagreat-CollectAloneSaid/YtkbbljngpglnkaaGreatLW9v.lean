/- Worlds: counts of a new world. -/
import Derived.Test.YtkbbljngpglnkaaGreatLW24p6
import Derived.Test.YtkbbljngpglnkaaGreatLW9p
import Derived.Test.YtkbbljngpglnkaaGreatPl
import Derived.Test.YtkbbljngpglnkaaGreatLW9l
import Derived.Test.YtkbbljngpglnkaaGreatLW24a
set_option linter.unusedVariables false
set_option linter.unusedSimpArgs false
namespace Go.Proofs.YtkbbljngpglnkaaGreat
open Go.Proofs.YtkbbljngpglnkaaGreat.Sx Go.RowKit
set_option maxHeartbeats 16000000
set_option maxRecDepth 100000
def q8T (n:Int) (v:Value) (g':GW):Prop :=
 ((1≤n∧n≤8)∧∃ oa cap,v=.tuple #[.slice oa n.toNat cap,.int .i64 0]∧rSl 1 rRow g' (.slice oa n.toNat cap) (q4D n.toNat)) ∨
 (¬ (1≤n∧n≤8)∧v=.tuple #[.slice none 0 0,.int .i64 1])
theorem qrN (g:GW) {n:Int}:Ok Tryz.prog qyN [.int .i64 n] g (q8T n) :=
 Ok.of_fn hm noT 0 qUN (args:=[.v (.int .i64 n)]) (by
  repeat((conv=>whnf);first|apply qza|apply qzb|apply qzc|apply qzd|apply qze|intro(_:Nat))
  conv=>whnf
  refine⟨fun z1=>?_,fun z1=>?_⟩
  ·repeat((conv=>whnf);first|apply qza|apply qzb|apply qzc|apply qzd|apply qze|intro(_:Nat))
   conv=>whnf
   intro g2 hg
   exact .inr ⟨by have:=of_decide_eq_true z1;omega,rfl⟩
  repeat((conv=>whnf);first|apply qza|apply qzb|apply qzc|apply qzd|apply qze|intro(_:Nat))
  conv=>whnf
  refine⟨fun z2=>?_,fun z2=>?_⟩
  ·repeat((conv=>whnf);first|apply qza|apply qzb|apply qzc|apply qzd|apply qze|intro(_:Nat))
   conv=>whnf
   intro g2 hg
   exact .inr ⟨by have:=of_decide_eq_true z2;omega,rfl⟩
  have k1:=of_decide_eq_false z1
  have k2:=of_decide_eq_false z2
  obtain⟨N,rfl⟩:=Int.eq_ofNat_of_zero_le (show 0≤n by omega)
  repeat((conv=>whnf);first|apply qza|apply qzb|apply qzc|apply qzd|apply qze|intro(_:Nat))
  conv=>whnf
  refine⟨⟨by omega,by omega,by omega,by omega⟩,fun _=>?_⟩
  repeat((conv=>whnf);first|apply qza|apply qzb|apply qzc|apply qzd|apply qze|intro(_:Nat))
  rename_i q1
  conv=>whnf
  refine⟨Nat×List (List Value)×GW,fun (k,_,_)=>[.v (.int .i64 k)],fun (k,ecs,g')=>⟨g',[.row 0 (some ⟨q1,0,none⟩) N N qUB 1 (rowK ecs [.slice none 0 0] (N-k))],10,g.w.heap.size⟩,fun (k,ecs,g')=>k≤N∧g≤g'∧rEls 1 rRow g' ecs (q4D k),fun (k,_,_)=>N-k,fun fr w hw=>⟨(0,[],g),rfl,⟨Nat.zero_le _,GW.refl _,qBL _⟩,hw.fit (by simp [fitL,Res.eqv,qAA,conc,rowK])⟩,?_⟩
  rintro⟨k,ecs,g'⟩ ⟨hk,hgg,hE⟩
  have hel:ecs.length=k:=by have:=hE.1.1;simpa [q4D] using this
  have hlen:=q1F (m:=N-k) (z:=[.slice none 0 0]) hE.1.2 rfl
  repeat((conv=>whnf);first|apply qza|apply qzb|apply qzc|apply qzd|apply qze|intro(_:Nat))
  conv=>whnf
  refine⟨fun hlt=>?_,fun hlt=>?_⟩
  ·have h':k<N:=by have:=of_decide_eq_true hlt;omega
   repeat((conv=>whnf);first|apply qza|apply qzb|apply qzc|apply qzd|apply qze|intro(_:Nat))
   conv=>whnf
   refine⟨⟨by decide,by decide,by decide,by decide⟩,fun _=>?_⟩
   repeat((conv=>whnf);first|apply qza|apply qzb|apply qzc|apply qzd|apply qze|intro(_:Nat))
   conv=>whnf
   refine⟨⟨by omega,by omega⟩,?_⟩
   repeat((conv=>whnf);first|apply qza|apply qzb|apply qzc|apply qzd|apply qze|intro(_:Nat))
   rename_i q2
   conv=>whnf
   refine fun g2 hg2 hn2 hp2=>?_
   have hrow:rSl 1 rU64 g2 (.slice (some ⟨q2,0,none⟩) 6 6) [0,0,0,0,0,0]:=q9D hp2.rd [0,0,0,0,0,0] (fun x=>.int .u64 x) rfl fun x hx=>⟨rfl,by simp at hx;subst hx;decide⟩
   have hset:=q0F (m:=N-k) (z:=[.slice none 0 0]) hE.1.2 rfl (by omega) (ec:=[.slice (some ⟨q2,0,none⟩) 6 6]) rfl hel.symm
   have hT:q4D (k+1)=q4D k++[[0,0,0,0,0,0]]:=by simp [q4D,List.range_succ]
   repeat((conv=>whnf);first|apply qza|apply qzb|apply qzc|apply qzd|apply qze|intro(_:Nat))
   conv=>whnf
   refine⟨⟨by rw [hlen,hel];simp;omega,by decide⟩,?_⟩
   repeat((conv=>whnf);first|apply qza|apply qzb|apply qzc|apply qzd|apply qze|intro(_:Nat))
   conv=>whnf
   refine fun fr w hw=>⟨(k+1,ecs++[[.slice (some ⟨q2,0,none⟩) 6 6]],g2),congrArg (fun z=>[Value.int .i64 z]) (by rw [wr (show InR ((k:Int)+1) by unfold InR;omega)];omega),⟨h',GW.trans hgg hg2,by rw [hT];exact qCJ (q8H qKB hg2 hE) rfl ⟨_,rfl,hrow⟩⟩,dec h',hw.fit ?_⟩
   rw [show N-(k+1)=N-k-1 by omega,← hset]
   simp [fitL,Res.eqv,qAA,conc]
  have hkN:k=N:=by have:=of_decide_eq_false hlt;omega
  subst hkN
  repeat((conv=>whnf);first|apply qza|apply qzb|apply qzc|apply qzd|apply qze|intro(_:Nat))
  conv=>whnf
  refine fun g2 hg2 hn2 hp2=>?_
  rw [Nat.sub_self,qYF] at hp2
  have hSl:=qiN (q8H qKB hg2 hE) hp2 (by simp [q4D])
  repeat((conv=>whnf);first|apply qza|apply qzb|apply qzc|apply qzd|apply qze|intro(_:Nat))
  conv=>whnf
  intro g2 hg
  exact .inl ⟨⟨by omega,by omega⟩,_,_,rfl,hSl.mono qKB hg⟩)
/- Worlds: a new one. -/
open Go.Proofs.YtkbbljngpglnkaaGreat.Sx Go.RowKit
abbrev zWs:List Value:=[.int .i64 0,.int .i64 0,.int .i64 0,.slice none 0 0,.slice none 0 0,.slice none 0 0,.slice none 0 0,.slice none 0 0]
/- Worlds: a new one,told with its rows. -/
open Go.Proofs.YtkbbljngpglnkaaGreat.Sx Go.RowKit
theorem PbSl.lessB {g g':GW} {lo:Nat} {ety:TypeId} {size b b' n cap:Nat} {cs:List Value} (h:PbSl g lo ety size (.slice (some ⟨b,0,none⟩) n cap) n cs) (u:Less g b' g') (hne:b≠b'):PbSl g' lo ety size (.slice (some ⟨b,0,none⟩) n cap) n cs:=by
 obtain⟨h1,h2,h3⟩:=h
 refine⟨h1,?_,h3⟩
 rcases h2 with ⟨h2,_⟩|⟨b2,cap',rest,hv,hb,ho,hr⟩
 ·cases h2
 ·simp only [Value.slice.injEq,Option.some.injEq,Addr.mk.injEq] at hv
  obtain⟨⟨rfl,_⟩,_,rfl⟩:=hv
  exact .inr ⟨_,_,rest,rfl,⟨hb.1,(u.dom _).2 ⟨hb.2,hne⟩⟩,(u.other _).trans ho,hr⟩
theorem PbSl.addr {g:GW} {lo:Nat} {ety:TypeId} {size n cap:Nat} {ad:Addr} {cs:List Value} (h:PbSl g lo ety size (.slice (some ad) n cap) n cs):∃ b,ad=⟨b,0,none⟩:=by
 obtain⟨h1,h2,h3⟩:=h
 rcases h2 with ⟨h2,_⟩|⟨b2,cap',rest,hv,_⟩
 ·cases h2
 ·simp only [Value.slice.injEq,Option.some.injEq] at hv
  exact⟨b2,hv.1⟩
theorem qWQ (g:GW) (b:Nat):g.less b≤g:=⟨Nat.le_refl _,fun _ h=>⟨h.1,rfl⟩⟩
def New2P (s:Snap) (l:List BA) (t:Int) (lo:Nat) (v:Value) (g':GW):Prop :=
 (qHN s l t∧∃ (a d:Value) (bV:Nat) (oX:Option Addr) (cX:Nat),v=.tuple #[.agg ⟨[.int .i64 0,.int .i64 0,.int .i64 0,a,.slice (some ⟨bV,0,none⟩) 1 1,.slice oX l.length cX,d,.slice none 0 0]⟩,.int .i64 0] ∧
  rWo g' [.int .i64 0,.int .i64 0,.int .i64 0,a,.slice (some ⟨bV,0,none⟩) 1 1,.slice oX l.length cX,d,.slice none 0 0] (newW s l t.toNat)∧PbSl g' lo qOA 4 (.slice oX l.length cX) l.length ((lisL l).map cLi).flatten ∧
  ∀ ad,oX=some ad→∃ gN,gN≤g'∧¬ gN.g ad.block∧rSl 1 rInt gN a (newW s l t.toNat).pins∧rSl 5 rVe gN (.slice (some ⟨bV,0,none⟩) 1 1) (newW s l t.toNat).versions∧rSl 1 rRow gN d (newW s l t.toNat).counts)∨(¬ qHN s l t∧v=.tuple #[.agg ⟨zWs⟩,.int .i64 1])
theorem qiS (g:GW) {cs:List Value} {s:Snap} {v:Value} {l:List BA} {t:Int} (hs:q7H g cs s) (hl:rSl 1 rStr g v l) (hsz:s.rules.length≤1000000) (hll:l.length≤1000000):Ok Tryz.prog qwN [.agg ⟨cs⟩,v,.int .i64 t] g (New2P s l t g.w.heap.size):=by
 have hs0:=hs
 obtain⟨a,b,d,rfl,⟨oa,ca,rfl,_⟩,⟨ob,cb,rfl,_⟩,⟨od,cd,rfl,_⟩⟩:=hs
 obtain⟨ol,cl,rfl,l1,l2,l0,hl1⟩:=id hl
 exact Ok.of_fn hm noT 0 qSN (args:=[.v (.agg ⟨[.slice oa s.listens.length ca,.slice ob s.rules.length cb,.slice od s.clusters.length cd]⟩),.v (.slice ol l.length cl),.v (.int .i64 t)]) (by
  repeat((conv=>whnf);first|apply qza|apply qzb|apply qzc|apply qzd|apply qze|intro(_:Nat)|intro(_:OA)_)
  rename_i q0 q1
  refine .inr ((qdO _ hs0 hsz).mono fun v g1 hg1 hC=>?_)
  rcases hC with ⟨hz,ka,kb,kd,oV,nV,cV,rfl,hV⟩|⟨hz,rfl⟩
  rotate_left
  ·repeat((conv=>whnf);first|apply qza|apply qzb|apply qzc|apply qzd|apply qze|intro(_:Nat)|intro(_:OA)_)
   conv=>whnf
   refine⟨fun _=>?_,fun h=>nomatch h⟩
   repeat((conv=>whnf);first|apply qza|apply qzb|apply qzc|apply qzd|apply qze|intro(_:Nat)|intro(_:OA)_)
   conv=>whnf
   intro g2 hg
   exact .inr ⟨fun h=>hz h.1,rfl⟩
  have hV0:=hV
  obtain⟨_,_,_,_,he,⟨_,_,_,he2,⟨sa,ta,rfl,_⟩,⟨sb,tb,rfl,_⟩,⟨sd,td,rfl,_⟩⟩,hG⟩:=hV
  simp only [List.cons.injEq,and_true] at he
  obtain⟨rfl,rfl,rfl,rfl,_⟩:=he
  cases he2
  repeat((conv=>whnf);first|apply qza|apply qzb|apply qzc|apply qzd|apply qze|intro(_:Nat)|intro(_:OA)_)
  rename_i q2
  conv=>whnf
  refine⟨fun h=>(nomatch h),fun _=>?_⟩
  repeat((conv=>whnf);first|apply qza|apply qzb|apply qzc|apply qzd|apply qze|intro(_:Nat)|intro(_:OA)_)
  refine .inr ((qrN _).mono fun v g2 hg2 hS=>?_)
  rcases hS with ⟨ht,oS,cS,rfl,hSh⟩|⟨ht,rfl⟩
  rotate_left
  ·repeat((conv=>whnf);first|apply qza|apply qzb|apply qzc|apply qzd|apply qze|intro(_:Nat)|intro(_:OA)_)
   conv=>whnf
   refine⟨fun _=>?_,fun h=>nomatch h⟩
   repeat((conv=>whnf);first|apply qza|apply qzb|apply qzc|apply qzd|apply qze|intro(_:Nat)|intro(_:OA)_)
   conv=>whnf
   intro g2 hg
   exact .inr ⟨fun h=>ht h.2.1,rfl⟩
  obtain⟨N,rfl⟩:=Int.eq_ofNat_of_zero_le (show 0≤t by omega)
  have hg02:=GW.trans hg1 hg2
  repeat((conv=>whnf);first|apply qza|apply qzb|apply qzc|apply qzd|apply qze|intro(_:Nat)|intro(_:OA)_)
  conv=>whnf
  refine⟨fun h=>(nomatch h),fun _=>?_⟩
  repeat((conv=>whnf);first|apply qza|apply qzb|apply qzc|apply qzd|apply qze|intro(_:Nat)|intro(_:OA)_)
  refine⟨?_,?_⟩
  ·repeat((conv=>whnf);first|apply qza|apply qzb|apply qzc|apply qzd|apply qze|intro(_:Nat)|intro(_:OA)_)
   conv=>whnf
   refine⟨⟨by omega,by omega,by omega,by omega⟩,fun _=>?_⟩
   repeat((conv=>whnf);first|apply qza|apply qzb|apply qzc|apply qzd|apply qze|intro(_:Nat)|intro(_:OA)_)
   rename_i qV qP qw
   conv=>whnf
   refine⟨Nat×Option Addr×Nat×Nat×GW,fun (k,_,_,_,_)=>[.v (.int .i64 k)],fun (k,oX,nX,cX,g')=>⟨g',[.blk 5 qw qIA [.v (.int .i64 0),.v (.int .i64 0),.v (.int .i64 0),.row 4 (some ⟨qP,0,none⟩) N N,.sl 3 qV 0 1 1,.v (.slice oX nX cX),.v (.slice oS N cS),.v (.slice none 0 0)],.row 4 (some ⟨qP,0,none⟩) N N qzA 1 (List.replicate N [Value.int .i64 0]).flatten,.blk 3 qV qCA [.v (.slice sa (qHA s).snap.listens.length ta),.v (.slice sb (qHA s).snap.rules.length tb),.v (.slice sd (qHA s).snap.clusters.length td),.v (.slice oV nV cV),.v (.bool false)],.blk 2 q2 qCA [.v (.slice sa (qHA s).snap.listens.length ta),.v (.slice sb (qHA s).snap.rules.length tb),.v (.slice sd (qHA s).snap.clusters.length td),.v (.slice oV nV cV),.v (.bool false)],.blk 1 q1 qIA [.v (.int .i64 0),.v (.int .i64 0),.v (.int .i64 0),.v (.slice none 0 0),.v (.slice none 0 0),.v (.slice none 0 0),.v (.slice none 0 0),.v (.slice none 0 0)],.blk 0 q0 qjA [.v (.slice oa s.listens.length ca),.v (.slice ob s.rules.length cb),.v (.slice od s.clusters.length cd)]],20,g.w.heap.size⟩,fun (k,oX,nX,cX,g')=>k≤l.length∧g2≤g'∧nX=k∧PbSl g' g.w.heap.size qOA 4 (.slice oX nX cX) nX ((lisL (l.take k)).map cLi).flatten∧(∀ a,oX=some a→¬ g2.g a.block)∧AllK (namF l) l k,fun (k,_,_,_,_)=>l.length-k,fun fr w hw=>⟨(0,none,0,0,g2),rfl,⟨Nat.zero_le _,GW.refl _,rfl,⟨rfl,.inl ⟨rfl,rfl⟩,fun u hu=>by cases hu⟩,(fun a h=>by cases h),AllK.zero _ _⟩,hw.fit (by simp [fitL,Res.eqv,qAA,conc])⟩,?_⟩
   rintro⟨k,oX,nX,cX,g'⟩ ⟨hk,hgg,hn,hpb,hnb,hAK⟩
   have hll2:(lisL (l.take k)).length=k:=by simp [lisL];omega
   have hlis:rSl 4 qPB g' (.slice oX nX cX) (lisL (l.take k)):=qhN hpb.rd (lisL (l.take k)) cLi rfl (by omega) (fun _ _=>rfl) fun x hx=>by
    obtain⟨y,_,rfl⟩:=List.mem_map.1 hx
    exact⟨rfl,show InR 0 by decide⟩
   repeat((conv=>whnf);first|apply qza|apply qzb|apply qzc|apply qzd|apply qze|intro(_:Nat)|intro(_:OA)_)
   conv=>whnf
   refine⟨fun hlt=>?_,fun hlt=>?_⟩
   ·have h':k<l.length:=by have:=of_decide_eq_true hlt;omega
    obtain⟨x,hx⟩:=qBA h'
    obtain⟨a,rfl,ec,hec,rfl,hc⟩:=hl1 k x hx
    have hbad:namF l k x=false→¬ qHN s l N:=fun hf h=>by have h3:=h.2.2;rw [q5A hx hf] at h3;cases h3
    repeat((conv=>whnf);first|apply qza|apply qzb|apply qzc|apply qzd|apply qze|intro(_:Nat)|intro(_:OA)_)
    conv=>whnf
    refine⟨a,rfl,⟨by omega,by omega⟩,?_⟩
    conv=>whnf
    refine⟨_,(hc.mono (GW.trans hg02 hgg)) 0 _ rfl,?_⟩
    repeat((conv=>whnf);first|apply qza|apply qzb|apply qzc|apply qzd|apply qze|intro(_:Nat)|intro(_:OA)_)
    conv=>whnf
    refine .inl ⟨_,qoG _ _,?_⟩
    repeat((conv=>whnf);first|apply qza|apply qzb|apply qzc|apply qzd|apply qze|intro(_:Nat)|intro(_:OA)_)
    conv=>whnf
    refine⟨fun y1=>?_,fun y1=>?_⟩
    ·repeat((conv=>whnf);first|apply qza|apply qzb|apply qzc|apply qzd|apply qze|intro(_:Nat)|intro(_:OA)_)
     conv=>whnf
     intro g2 hg
     exact .inr ⟨hbad (by unfold namF;rw [nb1 y1];rfl),rfl⟩
    repeat((conv=>whnf);first|apply qza|apply qzb|apply qzc|apply qzd|apply qze|intro(_:Nat)|intro(_:OA)_)
    conv=>whnf
    refine .inl ⟨_,qIJ _ hlis _,?_⟩
    repeat((conv=>whnf);first|apply qza|apply qzb|apply qzc|apply qzd|apply qze|intro(_:Nat)|intro(_:OA)_)
    conv=>whnf
    refine⟨fun y2=>?_,fun y2=>?_⟩
    ·repeat((conv=>whnf);first|apply qza|apply qzb|apply qzc|apply qzd|apply qze|intro(_:Nat)|intro(_:OA)_)
     conv=>whnf
     intro g2 hg
     exact .inr ⟨hbad (by unfold namF;rw [decide_eq_false (by have:=of_decide_eq_true y2;omega)];simp),rfl⟩
    have hnF:namF l k x=true:=by unfold namF;rw [nb0 y1,decide_eq_true (by have:=of_decide_eq_false y2;omega)];rfl
    have hT:=qmM hx
    rcases hpb.2.1 with ⟨he,hn0⟩|⟨bk,cap',rest,he,hb1,hb2,hb3,hb4,hb5⟩
    ·cases he
     have hk0:k=0:=by omega
     subst hk0
     repeat((conv=>whnf);first|apply qza|apply qzb|apply qzc|apply qzd|apply qze|intro(_:Nat)|intro(_:OA)_)
     conv=>whnf
     refine⟨⟨by unfold maxLen;omega,by omega⟩,fun oa3 cap3=>?_⟩
     repeat((conv=>whnf);first|apply qza|apply qzb|apply qzc|apply qzd|apply qze|intro(_:Nat)|intro(_:OA)_)
     conv=>whnf
     refine fun fr w hw=>by
      have hw1:HSim fr ⟨g',.row 70 oa3 (1) cap3 qOA 4 (cLi ⟨x,false,0,false⟩) :: [.blk 5 qw qIA [.v (.int .i64 0),.v (.int .i64 0),.v (.int .i64 0),.row 4 (some ⟨qP,0,none⟩) N N,.sl 3 qV 0 1 1,.v (.slice oa3 (1) cap3),.v (.slice oS N cS),.v (.slice none 0 0)],.row 4 (some ⟨qP,0,none⟩) N N qzA 1 (List.replicate N [Value.int .i64 0]).flatten,.blk 3 qV qCA [.v (.slice sa (qHA s).snap.listens.length ta),.v (.slice sb (qHA s).snap.rules.length tb),.v (.slice sd (qHA s).snap.clusters.length td),.v (.slice oV nV cV),.v (.bool false)],.blk 2 q2 qCA [.v (.slice sa (qHA s).snap.listens.length ta),.v (.slice sb (qHA s).snap.rules.length tb),.v (.slice sd (qHA s).snap.clusters.length td),.v (.slice oV nV cV),.v (.bool false)],.blk 1 q1 qIA [.v (.int .i64 0),.v (.int .i64 0),.v (.int .i64 0),.v (.slice none 0 0),.v (.slice none 0 0),.v (.slice none 0 0),.v (.slice none 0 0),.v (.slice none 0 0)],.blk 0 q0 qjA [.v (.slice oa s.listens.length ca),.v (.slice ob s.rules.length cb),.v (.slice od s.clusters.length cd)]],80,g.w.heap.size⟩ w:=hw.fit (by simp [fitL,Res.eqv,qAA,conc])
      obtain⟨g4,k1',k2,k3,k4⟩:=hw1.row_pub
      refine⟨(0+1,oa3,1,cap3,g4),congrArg (fun z=>[Value.int .i64 z]) (wr1 h' l1 l2).symm,⟨h',GW.trans hgg k1',rfl,?_,fun a ha q=>k2 a ha (hgg.2 _ q).1,hAK.succ hx hnF⟩,dec h',k4.fit (by simp [fitL,Res.eqv,qAA,conc])⟩
      rw [hT];exact k3
    ·cases he
     have hbk:¬ g2.g bk:=hnb _ rfl
     repeat((conv=>whnf);first|apply qza|apply qzb|apply qzc|apply qzd|apply qze|intro(_:Nat)|intro(_:OA)_)
     conv=>whnf
     refine .inr ⟨bk,_,rest,⟨rfl,hb1.1,hb1.2,hb2,hpb.1,hpb.2.2,hb3,hb4,hb5,by unfold maxLen;omega,by omega⟩,fun gL hless oa3 cap3=>?_⟩
     repeat((conv=>whnf);first|apply qza|apply qzb|apply qzc|apply qzd|apply qze|intro(_:Nat)|intro(_:OA)_)
     conv=>whnf
     refine fun fr w hw=>by
      have hw1:HSim fr ⟨gL,.row 70 oa3 (nX+1) cap3 qOA 4 (((lisL (l.take k)).map cLi).flatten++cLi ⟨x,false,0,false⟩) :: [.blk 5 qw qIA [.v (.int .i64 0),.v (.int .i64 0),.v (.int .i64 0),.row 4 (some ⟨qP,0,none⟩) N N,.sl 3 qV 0 1 1,.v (.slice oa3 (nX+1) cap3),.v (.slice oS N cS),.v (.slice none 0 0)],.row 4 (some ⟨qP,0,none⟩) N N qzA 1 (List.replicate N [Value.int .i64 0]).flatten,.blk 3 qV qCA [.v (.slice sa (qHA s).snap.listens.length ta),.v (.slice sb (qHA s).snap.rules.length tb),.v (.slice sd (qHA s).snap.clusters.length td),.v (.slice oV nV cV),.v (.bool false)],.blk 2 q2 qCA [.v (.slice sa (qHA s).snap.listens.length ta),.v (.slice sb (qHA s).snap.rules.length tb),.v (.slice sd (qHA s).snap.clusters.length td),.v (.slice oV nV cV),.v (.bool false)],.blk 1 q1 qIA [.v (.int .i64 0),.v (.int .i64 0),.v (.int .i64 0),.v (.slice none 0 0),.v (.slice none 0 0),.v (.slice none 0 0),.v (.slice none 0 0),.v (.slice none 0 0)],.blk 0 q0 qjA [.v (.slice oa s.listens.length ca),.v (.slice ob s.rules.length cb),.v (.slice od s.clusters.length cd)]],80,g.w.heap.size⟩ w:=hw.fit (by simp [fitL,Res.eqv,qAA,conc])
      obtain⟨g4,k1',k2,k3,k4⟩:=hw1.row_pub
      have hgL:=hless.le hgg hbk
      refine⟨(k+1,oa3,nX+1,cap3,g4),congrArg (fun z=>[Value.int .i64 z]) (wr1 h' l1 l2).symm,⟨h',GW.trans hgL k1',by omega,?_,fun a ha q=>k2 a ha (hgL.2 _ q).1,hAK.succ hx hnF⟩,dec h',k4.fit (by simp [fitL,Res.eqv,qAA,conc])⟩
      rw [hT];simpa using k3
   have hkL:k=l.length:=by have:=of_decide_eq_false hlt;omega
   subst hkL
   have hok:qHN s l N:=⟨hz,ht,hAK.done (Nat.le_refl _)⟩
   rw [List.take_length] at hlis
   repeat((conv=>whnf);first|apply qza|apply qzb|apply qzc|apply qzd|apply qze|intro(_:Nat)|intro(_:OA)_)
   conv=>whnf
   refine fun gA kA nA pA=>?_
   repeat((conv=>whnf);first|apply qza|apply qzb|apply qzc|apply qzd|apply qze|intro(_:Nat)|intro(_:OA)_)
   conv=>whnf
   refine⟨5,rfl,by unfold maxLen;omega,fun gB kB nB pB=>?_⟩
   repeat((conv=>whnf);first|apply qza|apply qzb|apply qzc|apply qzd|apply qze|intro(_:Nat)|intro(_:OA)_)
   conv=>whnf
   intro g2 hg
   have mA:=GW.trans kA (GW.trans kB hg)
   have hnX:nX=l.length:=hn
   subst hnX
   rw [List.take_length] at hpb
   have kP:∀ gN,PbSl gN g.w.heap.size qzA 1 (.slice (some ⟨qP,0,none⟩) N N) N (List.replicate N [Value.int .i64 0]).flatten→rSl 1 rInt gN (.slice (some ⟨qP,0,none⟩) N N) (newW s l N).pins:=fun gN p=>q9D p.rd (List.replicate N 0) (fun x=>.int .i64 x) (by simp [List.flatten_replicate_singleton]) fun x hx=>⟨rfl,by rw [List.eq_of_mem_replicate hx];decide⟩
   have kV:∀ gN,PbSl gN g.w.heap.size qCA 5 (.slice (some ⟨qV,0,none⟩) 1 1) 1 [.slice sa (qHA s).snap.listens.length ta,.slice sb (qHA s).snap.rules.length tb,.slice sd (qHA s).snap.clusters.length td,.slice oV nV cV,.bool false]→g1≤gN→rSl 5 rVe gN (.slice (some ⟨qV,0,none⟩) 1 1) (newW s l N).versions:=fun gN p kk=>by
    refine qEF p.rd [qHA s] [[.slice sa (qHA s).snap.listens.length ta,.slice sb (qHA s).snap.rules.length tb,.slice sd (qHA s).snap.clusters.length td,.slice oV nV cV,.bool false]] rfl (fun e he=>?_) rfl rfl fun i x ec hx hec=>?_
    ·simp at he;subst he;rfl
    ·cases i with
     | zero =>
      simp at hx hec
      subst hx;subst hec
      exact qtE _ _ _ _ kk hV0
     | succ i=>simp at hx
   have hpA:=pA.mono (GW.trans kB hg)
   have hpB:=pB.mono hg
   refine .inl ⟨hok,_,_,_,_,_,rfl,⟨_,_,_,_,_,rfl,⟨show InR 0 by decide,show InR 0 by decide,show InR 0 by decide⟩,kP _ hpA,kV _ hpB (GW.trans hg2 (GW.trans hgg mA)),hlis.mono qEC mA,hSh.mono qKB (GW.trans hgg mA),⟨none,0,rfl,Nat.le_refl _,Nat.zero_le _,fun _=>⟨rfl,rfl⟩,fun i x hx=>by simp [newW] at hx⟩⟩,hpb.mono mA,fun ad had=>?_⟩
   subst had
   obtain⟨bX,rfl⟩:=PbSl.addr hpb
   have d1:=PbSl.dom hpb
   have hnB2:=hnb _ rfl
   have kk:=(GW.less_spec g2 bX).le (GW.trans hgg mA) hnB2
   refine⟨g2.less bX,qWQ _ _,fun h=>h.2 rfl,kP _ (PbSl.lessB hpA (GW.less_spec _ _) fun e=>nA _ rfl (by rw [e];exact d1)),kV _ (PbSl.lessB hpB (GW.less_spec _ _) fun e=>nB (by rw [e];exact(kA.2 _ d1).1)) (GW.trans hg2 kk),hSh.mono qKB kk⟩
  ·repeat((conv=>whnf);first|apply qza|apply qzb|apply qzc|apply qzd|apply qze|intro(_:Nat)|intro(_:OA)_)
   conv=>whnf
   refine⟨⟨by omega,by omega,by omega,by omega⟩,fun _=>?_⟩
   repeat((conv=>whnf);first|apply qza|apply qzb|apply qzc|apply qzd|apply qze|intro(_:Nat)|intro(_:OA)_)
   rename_i qP qV qw
   conv=>whnf
   refine⟨Nat×Option Addr×Nat×Nat×GW,fun (k,_,_,_,_)=>[.v (.int .i64 k)],fun (k,oX,nX,cX,g')=>⟨g',[.blk 5 qw qIA [.v (.int .i64 0),.v (.int .i64 0),.v (.int .i64 0),.row 3 (some ⟨qP,0,none⟩) N N,.sl 4 qV 0 1 1,.v (.slice oX nX cX),.v (.slice oS N cS),.v (.slice none 0 0)],.blk 4 qV qCA [.v (.slice sa (qHA s).snap.listens.length ta),.v (.slice sb (qHA s).snap.rules.length tb),.v (.slice sd (qHA s).snap.clusters.length td),.v (.slice oV nV cV),.v (.bool false)],.row 3 (some ⟨qP,0,none⟩) N N qzA 1 (List.replicate N [Value.int .i64 0]).flatten,.blk 2 q2 qCA [.v (.slice sa (qHA s).snap.listens.length ta),.v (.slice sb (qHA s).snap.rules.length tb),.v (.slice sd (qHA s).snap.clusters.length td),.v (.slice oV nV cV),.v (.bool false)],.blk 1 q1 qIA [.v (.int .i64 0),.v (.int .i64 0),.v (.int .i64 0),.v (.slice none 0 0),.v (.slice none 0 0),.v (.slice none 0 0),.v (.slice none 0 0),.v (.slice none 0 0)],.blk 0 q0 qjA [.v (.slice oa s.listens.length ca),.v (.slice ob s.rules.length cb),.v (.slice od s.clusters.length cd)]],20,g.w.heap.size⟩,fun (k,oX,nX,cX,g')=>k≤l.length∧g2≤g'∧nX=k∧PbSl g' g.w.heap.size qOA 4 (.slice oX nX cX) nX ((lisL (l.take k)).map cLi).flatten∧(∀ a,oX=some a→¬ g2.g a.block)∧AllK (namF l) l k,fun (k,_,_,_,_)=>l.length-k,fun fr w hw=>⟨(0,none,0,0,g2),rfl,⟨Nat.zero_le _,GW.refl _,rfl,⟨rfl,.inl ⟨rfl,rfl⟩,fun u hu=>by cases hu⟩,(fun a h=>by cases h),AllK.zero _ _⟩,hw.fit (by simp [fitL,Res.eqv,qAA,conc])⟩,?_⟩
   rintro⟨k,oX,nX,cX,g'⟩ ⟨hk,hgg,hn,hpb,hnb,hAK⟩
   have hll2:(lisL (l.take k)).length=k:=by simp [lisL];omega
   have hlis:rSl 4 qPB g' (.slice oX nX cX) (lisL (l.take k)):=qhN hpb.rd (lisL (l.take k)) cLi rfl (by omega) (fun _ _=>rfl) fun x hx=>by
    obtain⟨y,_,rfl⟩:=List.mem_map.1 hx
    exact⟨rfl,show InR 0 by decide⟩
   repeat((conv=>whnf);first|apply qza|apply qzb|apply qzc|apply qzd|apply qze|intro(_:Nat)|intro(_:OA)_)
   conv=>whnf
   refine⟨fun hlt=>?_,fun hlt=>?_⟩
   ·have h':k<l.length:=by have:=of_decide_eq_true hlt;omega
    obtain⟨x,hx⟩:=qBA h'
    obtain⟨a,rfl,ec,hec,rfl,hc⟩:=hl1 k x hx
    have hbad:namF l k x=false→¬ qHN s l N:=fun hf h=>by have h3:=h.2.2;rw [q5A hx hf] at h3;cases h3
    repeat((conv=>whnf);first|apply qza|apply qzb|apply qzc|apply qzd|apply qze|intro(_:Nat)|intro(_:OA)_)
    conv=>whnf
    refine⟨a,rfl,⟨by omega,by omega⟩,?_⟩
    conv=>whnf
    refine⟨_,(hc.mono (GW.trans hg02 hgg)) 0 _ rfl,?_⟩
    repeat((conv=>whnf);first|apply qza|apply qzb|apply qzc|apply qzd|apply qze|intro(_:Nat)|intro(_:OA)_)
    conv=>whnf
    refine .inl ⟨_,qoG _ _,?_⟩
    repeat((conv=>whnf);first|apply qza|apply qzb|apply qzc|apply qzd|apply qze|intro(_:Nat)|intro(_:OA)_)
    conv=>whnf
    refine⟨fun y1=>?_,fun y1=>?_⟩
    ·repeat((conv=>whnf);first|apply qza|apply qzb|apply qzc|apply qzd|apply qze|intro(_:Nat)|intro(_:OA)_)
     conv=>whnf
     intro g2 hg
     exact .inr ⟨hbad (by unfold namF;rw [nb1 y1];rfl),rfl⟩
    repeat((conv=>whnf);first|apply qza|apply qzb|apply qzc|apply qzd|apply qze|intro(_:Nat)|intro(_:OA)_)
    conv=>whnf
    refine .inl ⟨_,qIJ _ hlis _,?_⟩
    repeat((conv=>whnf);first|apply qza|apply qzb|apply qzc|apply qzd|apply qze|intro(_:Nat)|intro(_:OA)_)
    conv=>whnf
    refine⟨fun y2=>?_,fun y2=>?_⟩
    ·repeat((conv=>whnf);first|apply qza|apply qzb|apply qzc|apply qzd|apply qze|intro(_:Nat)|intro(_:OA)_)
     conv=>whnf
     intro g2 hg
     exact .inr ⟨hbad (by unfold namF;rw [decide_eq_false (by have:=of_decide_eq_true y2;omega)];simp),rfl⟩
    have hnF:namF l k x=true:=by unfold namF;rw [nb0 y1,decide_eq_true (by have:=of_decide_eq_false y2;omega)];rfl
    have hT:=qmM hx
    rcases hpb.2.1 with ⟨he,hn0⟩|⟨bk,cap',rest,he,hb1,hb2,hb3,hb4,hb5⟩
    ·cases he
     have hk0:k=0:=by omega
     subst hk0
     repeat((conv=>whnf);first|apply qza|apply qzb|apply qzc|apply qzd|apply qze|intro(_:Nat)|intro(_:OA)_)
     conv=>whnf
     refine⟨⟨by unfold maxLen;omega,by omega⟩,fun oa3 cap3=>?_⟩
     repeat((conv=>whnf);first|apply qza|apply qzb|apply qzc|apply qzd|apply qze|intro(_:Nat)|intro(_:OA)_)
     conv=>whnf
     refine fun fr w hw=>by
      have hw1:HSim fr ⟨g',.row 70 oa3 (1) cap3 qOA 4 (cLi ⟨x,false,0,false⟩) :: [.blk 5 qw qIA [.v (.int .i64 0),.v (.int .i64 0),.v (.int .i64 0),.row 3 (some ⟨qP,0,none⟩) N N,.sl 4 qV 0 1 1,.v (.slice oa3 (1) cap3),.v (.slice oS N cS),.v (.slice none 0 0)],.blk 4 qV qCA [.v (.slice sa (qHA s).snap.listens.length ta),.v (.slice sb (qHA s).snap.rules.length tb),.v (.slice sd (qHA s).snap.clusters.length td),.v (.slice oV nV cV),.v (.bool false)],.row 3 (some ⟨qP,0,none⟩) N N qzA 1 (List.replicate N [Value.int .i64 0]).flatten,.blk 2 q2 qCA [.v (.slice sa (qHA s).snap.listens.length ta),.v (.slice sb (qHA s).snap.rules.length tb),.v (.slice sd (qHA s).snap.clusters.length td),.v (.slice oV nV cV),.v (.bool false)],.blk 1 q1 qIA [.v (.int .i64 0),.v (.int .i64 0),.v (.int .i64 0),.v (.slice none 0 0),.v (.slice none 0 0),.v (.slice none 0 0),.v (.slice none 0 0),.v (.slice none 0 0)],.blk 0 q0 qjA [.v (.slice oa s.listens.length ca),.v (.slice ob s.rules.length cb),.v (.slice od s.clusters.length cd)]],80,g.w.heap.size⟩ w:=hw.fit (by simp [fitL,Res.eqv,qAA,conc])
      obtain⟨g4,k1',k2,k3,k4⟩:=hw1.row_pub
      refine⟨(0+1,oa3,1,cap3,g4),congrArg (fun z=>[Value.int .i64 z]) (wr1 h' l1 l2).symm,⟨h',GW.trans hgg k1',rfl,?_,fun a ha q=>k2 a ha (hgg.2 _ q).1,hAK.succ hx hnF⟩,dec h',k4.fit (by simp [fitL,Res.eqv,qAA,conc])⟩
      rw [hT];exact k3
    ·cases he
     have hbk:¬ g2.g bk:=hnb _ rfl
     repeat((conv=>whnf);first|apply qza|apply qzb|apply qzc|apply qzd|apply qze|intro(_:Nat)|intro(_:OA)_)
     conv=>whnf
     refine .inr ⟨bk,_,rest,⟨rfl,hb1.1,hb1.2,hb2,hpb.1,hpb.2.2,hb3,hb4,hb5,by unfold maxLen;omega,by omega⟩,fun gL hless oa3 cap3=>?_⟩
     repeat((conv=>whnf);first|apply qza|apply qzb|apply qzc|apply qzd|apply qze|intro(_:Nat)|intro(_:OA)_)
     conv=>whnf
     refine fun fr w hw=>by
      have hw1:HSim fr ⟨gL,.row 70 oa3 (nX+1) cap3 qOA 4 (((lisL (l.take k)).map cLi).flatten++cLi ⟨x,false,0,false⟩) :: [.blk 5 qw qIA [.v (.int .i64 0),.v (.int .i64 0),.v (.int .i64 0),.row 3 (some ⟨qP,0,none⟩) N N,.sl 4 qV 0 1 1,.v (.slice oa3 (nX+1) cap3),.v (.slice oS N cS),.v (.slice none 0 0)],.blk 4 qV qCA [.v (.slice sa (qHA s).snap.listens.length ta),.v (.slice sb (qHA s).snap.rules.length tb),.v (.slice sd (qHA s).snap.clusters.length td),.v (.slice oV nV cV),.v (.bool false)],.row 3 (some ⟨qP,0,none⟩) N N qzA 1 (List.replicate N [Value.int .i64 0]).flatten,.blk 2 q2 qCA [.v (.slice sa (qHA s).snap.listens.length ta),.v (.slice sb (qHA s).snap.rules.length tb),.v (.slice sd (qHA s).snap.clusters.length td),.v (.slice oV nV cV),.v (.bool false)],.blk 1 q1 qIA [.v (.int .i64 0),.v (.int .i64 0),.v (.int .i64 0),.v (.slice none 0 0),.v (.slice none 0 0),.v (.slice none 0 0),.v (.slice none 0 0),.v (.slice none 0 0)],.blk 0 q0 qjA [.v (.slice oa s.listens.length ca),.v (.slice ob s.rules.length cb),.v (.slice od s.clusters.length cd)]],80,g.w.heap.size⟩ w:=hw.fit (by simp [fitL,Res.eqv,qAA,conc])
      obtain⟨g4,k1',k2,k3,k4⟩:=hw1.row_pub
      have hgL:=hless.le hgg hbk
      refine⟨(k+1,oa3,nX+1,cap3,g4),congrArg (fun z=>[Value.int .i64 z]) (wr1 h' l1 l2).symm,⟨h',GW.trans hgL k1',by omega,?_,fun a ha q=>k2 a ha (hgL.2 _ q).1,hAK.succ hx hnF⟩,dec h',k4.fit (by simp [fitL,Res.eqv,qAA,conc])⟩
      rw [hT];simpa using k3
   have hkL:k=l.length:=by have:=of_decide_eq_false hlt;omega
   subst hkL
   have hok:qHN s l N:=⟨hz,ht,hAK.done (Nat.le_refl _)⟩
   rw [List.take_length] at hlis
   repeat((conv=>whnf);first|apply qza|apply qzb|apply qzc|apply qzd|apply qze|intro(_:Nat)|intro(_:OA)_)
   conv=>whnf
   refine fun gA kA nA pA=>?_
   repeat((conv=>whnf);first|apply qza|apply qzb|apply qzc|apply qzd|apply qze|intro(_:Nat)|intro(_:OA)_)
   conv=>whnf
   refine⟨5,rfl,by unfold maxLen;omega,fun gB kB nB pB=>?_⟩
   repeat((conv=>whnf);first|apply qza|apply qzb|apply qzc|apply qzd|apply qze|intro(_:Nat)|intro(_:OA)_)
   conv=>whnf
   intro g2 hg
   have mA:=GW.trans kA (GW.trans kB hg)
   have hnX:nX=l.length:=hn
   subst hnX
   rw [List.take_length] at hpb
   have kP:∀ gN,PbSl gN g.w.heap.size qzA 1 (.slice (some ⟨qP,0,none⟩) N N) N (List.replicate N [Value.int .i64 0]).flatten→rSl 1 rInt gN (.slice (some ⟨qP,0,none⟩) N N) (newW s l N).pins:=fun gN p=>q9D p.rd (List.replicate N 0) (fun x=>.int .i64 x) (by simp [List.flatten_replicate_singleton]) fun x hx=>⟨rfl,by rw [List.eq_of_mem_replicate hx];decide⟩
   have kV:∀ gN,PbSl gN g.w.heap.size qCA 5 (.slice (some ⟨qV,0,none⟩) 1 1) 1 [.slice sa (qHA s).snap.listens.length ta,.slice sb (qHA s).snap.rules.length tb,.slice sd (qHA s).snap.clusters.length td,.slice oV nV cV,.bool false]→g1≤gN→rSl 5 rVe gN (.slice (some ⟨qV,0,none⟩) 1 1) (newW s l N).versions:=fun gN p kk=>by
    refine qEF p.rd [qHA s] [[.slice sa (qHA s).snap.listens.length ta,.slice sb (qHA s).snap.rules.length tb,.slice sd (qHA s).snap.clusters.length td,.slice oV nV cV,.bool false]] rfl (fun e he=>?_) rfl rfl fun i x ec hx hec=>?_
    ·simp at he;subst he;rfl
    ·cases i with
     | zero =>
      simp at hx hec
      subst hx;subst hec
      exact qtE _ _ _ _ kk hV0
     | succ i=>simp at hx
   have hpA:=pA.mono (GW.trans kB hg)
   have hpB:=pB.mono hg
   refine .inl ⟨hok,_,_,_,_,_,rfl,⟨_,_,_,_,_,rfl,⟨show InR 0 by decide,show InR 0 by decide,show InR 0 by decide⟩,kP _ hpA,kV _ hpB (GW.trans hg2 (GW.trans hgg mA)),hlis.mono qEC mA,hSh.mono qKB (GW.trans hgg mA),⟨none,0,rfl,Nat.le_refl _,Nat.zero_le _,fun _=>⟨rfl,rfl⟩,fun i x hx=>by simp [newW] at hx⟩⟩,hpb.mono mA,fun ad had=>?_⟩
   subst had
   obtain⟨bX,rfl⟩:=PbSl.addr hpb
   have d1:=PbSl.dom hpb
   have hnB2:=hnb _ rfl
   have kk:=(GW.less_spec g2 bX).le (GW.trans hgg mA) hnB2
   refine⟨g2.less bX,qWQ _ _,fun h=>h.2 rfl,kP _ (PbSl.lessB hpA (GW.less_spec _ _) fun e=>nA _ rfl (by rw [e];exact d1)),kV _ (PbSl.lessB hpB (GW.less_spec _ _) fun e=>nB (by rw [e];exact(kA.2 _ d1).1)) (GW.trans hg2 kk),hSh.mono qKB kk⟩)
/- Law 24's example. -/
open Go.Proofs.YtkbbljngpglnkaaGreat.Sx Go.RowKit
theorem qUK (g:GW):Ok Tryz.prog qFG [] g fun v g'=>∃ cs,v=.agg ⟨cs⟩∧rWo g' cs wC :=
 Ok.of_fn hm noT 0 q9F (args:=[]) (by
  repeat((conv=>whnf);first|apply qza|apply qzb|apply qzc|apply qzd|apply qze|intro(_:Nat)|intro(_:OA)_)
  conv=>whnf
  refine⟨1,rfl,by unfold maxLen;omega,fun g1 hg1 hn1 hp1=>?_⟩
  repeat((conv=>whnf);first|apply qza|apply qzb|apply qzc|apply qzd|apply qze|intro(_:Nat)|intro(_:OA)_)
  conv=>whnf
  refine⟨4,rfl,by unfold maxLen;omega,fun g2 hg2 hn2 hp2=>?_⟩
  repeat((conv=>whnf);first|apply qza|apply qzb|apply qzc|apply qzd|apply qze|intro(_:Nat)|intro(_:OA)_)
  conv=>whnf
  refine⟨1,rfl,by unfold maxLen;omega,fun g3 hg3 hn3 hp3=>?_⟩
  repeat((conv=>whnf);first|apply qza|apply qzb|apply qzc|apply qzd|apply qze|intro(_:Nat)|intro(_:OA)_)
  conv=>whnf
  refine⟨4,rfl,by unfold maxLen;omega,fun g4 hg4 hn4 hp4=>?_⟩
  repeat((conv=>whnf);first|apply qza|apply qzb|apply qzc|apply qzd|apply qze|intro(_:Nat)|intro(_:OA)_)
  conv=>whnf
  refine⟨1,rfl,by unfold maxLen;omega,fun g5 hg5 hn5 hp5=>?_⟩
  have hs:=qCR (n:=1) (h:=[true,true]) (hp1.mono (GW.trans hg2 (GW.trans hg3 (GW.trans hg4 hg5)))) (hp2.mono (GW.trans hg3 (GW.trans hg4 hg5))) (hp4.mono hg5) (hp3.mono (GW.trans hg4 hg5)) (by decide)
  have hl:=q9D (R:=rStr) hp5.rd [sInW] .string rfl fun _ _=>rfl
  conv=>whnf
  refine .inr ((qiS _ hs hl (t:=1) (by decide) (by decide)).mono fun v g6 hg6 hN=>?_)
  rcases hN with ⟨_,a,d,bV,oX,cX,rfl,hw,hpX,hkX⟩|⟨h,_⟩
  rotate_left
  ·exact absurd qDT h
  obtain⟨oa,ca,rfl,_⟩:=id (qIR hw)
  obtain⟨od,cd,rfl,_⟩:=id (rWo_c hw)
  obtain⟨aX,rfl⟩:=qUA (q4J hw) (i:=0) (x:=⟨sInW,false,0,false⟩) rfl
  obtain⟨bX,rfl⟩:=PbSl.addr hpX
  obtain⟨gN,kN,nN,pN,vN,cN⟩:=hkX _ rfl
  repeat((conv=>whnf);first|apply qza|apply qzb|apply qzc|apply qzd|apply qze|intro(_:Nat)|intro(_:OA)_)
  refine .inr ((Ok.sub hg6 (qdO _ hs (by decide))).mono fun v g7 hg7 hC=>?_)
  obtain⟨gV,kV,dV,hC⟩:=hC
  rcases hC with ⟨hz,ka,kb,kd,oV,nV,cV,rfl,hV⟩|⟨hz,rfl⟩
  rotate_left
  ·exact absurd (by decide) hz
  have hV0:=hV
  obtain⟨_,_,_,_,he,⟨_,_,_,he2,⟨sa,ta,rfl,_⟩,⟨sb,tb,rfl,_⟩,⟨sd,td,rfl,_⟩⟩,hG⟩:=hV
  simp only [List.cons.injEq,and_true] at he
  obtain⟨rfl,rfl,rfl,rfl,_⟩:=he
  cases he2
  have nV2:¬ gV.g bX:=fun h=>by
   have h1:=PbSl.ge hpX
   have h2:=g6.wf _ (PbSl.dom hpX)
   rcases dV _ h with h|h
   ·have:=g5.wf _ h;omega
   ·omega
  obtain⟨ecs,hrd,hel,hes,heR⟩:=qgN vN
  have hel:ecs.length=1:=hel
  obtain⟨e0,rfl⟩:∃ e0,ecs=[e0]:=by
   match ecs,hel with
   | [e0],_=>exact⟨e0,rfl⟩
  have hR0:rVe gN e0 (qHA (qRC 1 [true,true])):=heR 0 _ _ rfl rfl
  have hone:∀ u∈e0,u.oneCell'=true:=by
   obtain⟨_,_,_,_,rfl,⟨_,_,_,he2,⟨_,_,rfl,_⟩,⟨_,_,rfl,_⟩,⟨_,_,rfl,_⟩⟩,⟨_,_,rfl,_⟩⟩:=id hR0
   cases he2
   intro u hu
   simp only [List.mem_cons,List.not_mem_nil,or_false] at hu
   rcases hu with rfl|rfl|rfl|rfl|rfl<;>rfl
  repeat((conv=>whnf);first|apply qza|apply qzb|apply qzc|apply qzd|apply qze|intro(_:Nat)|intro(_:OA)_)
  conv=>whnf
  refine .inl ⟨[e0].flatten,⟨hrd.mono (GW.trans kN hg7),by simpa using hone⟩,fun h=>absurd h (by decide),fun _=>⟨⟨by decide,by decide,by decide⟩,fun oa2 cap2=>?_⟩⟩
  repeat((conv=>whnf);first|apply qza|apply qzb|apply qzc|apply qzd|apply qze|intro(_:Nat)|intro(_:OA)_)
  conv=>whnf
  refine⟨Nat×GW,fun (k,_)=>[.v (.int .i64 k)],fun (_,g')=>⟨g',_,_,_⟩,fun (k,g')=>k≤1∧gN≤g'∧gV≤g'∧PbSl g' g5.w.heap.size qOA 4 (.slice (some ⟨bX,0,none⟩) 1 cX) 1 [.string sInW,.bool (decide (k=1)),.int .i64 0,.bool false],fun (k,_)=>1-k,qFA (0,g7) rfl ⟨Nat.zero_le _,GW.trans kN hg7,kV,hpX.mono hg7⟩ rfl,?_⟩
  rintro⟨k,g8⟩ ⟨hk,kN8,kV8,hp8⟩
  have hk:k≤1:=hk
  have kN8:gN≤g8:=kN8
  have kV8:gV≤g8:=kV8
  have hp8:PbSl g8 g5.w.heap.size qOA 4 (.slice (some ⟨bX,0,none⟩) 1 cX) 1 [.string sInW,.bool (decide (k=1)),.int .i64 0,.bool false]:=hp8
  repeat((conv=>whnf);first|apply qza|apply qzb|apply qzc|apply qzd|apply qze|intro(_:Nat)|intro(_:OA)_)
  conv=>whnf
  refine⟨fun hlt=>?_,fun hlt=>?_⟩
  ·have h0:k=0:=by have h9:(k:Int)<1:=of_decide_eq_true hlt;omega
   subst h0
   obtain⟨rest,⟨b1,b2,b3⟩,hpk⟩:=PbSl.poke hp8
   repeat((conv=>whnf);first|apply qza|apply qzb|apply qzc|apply qzd|apply qze|intro(_:Nat)|intro(_:OA)_)
   conv=>whnf
   refine⟨_,rfl,⟨by decide,by decide⟩,?_⟩
   repeat((conv=>whnf);first|apply qza|apply qzb|apply qzc|apply qzd|apply qze|intro(_:Nat)|intro(_:OA)_)
   conv=>whnf
   refine⟨bX,1,_,_,⟨rfl,Nat.le_trans (GW.trans (GW.trans hg1 hg2) (GW.trans hg3 (GW.trans hg4 hg5))).1 b1,b2,b3,by simp⟩,?_⟩
   repeat((conv=>whnf);first|apply qza|apply qzb|apply qzc|apply qzd|apply qze|intro(_:Nat)|intro(_:OA)_)
   conv=>whnf
   refine fun g9 u9=>?_
   have hp9:=hpk 1 1 [.bool true] g9 (by decide) rfl (by simp [Value.oneCell']) u9
   repeat((conv=>whnf);first|apply qza|apply qzb|apply qzc|apply qzd|apply qze|intro(_:Nat)|intro(_:OA)_)
   conv=>whnf
   refine fun fr w hw=>⟨(1,g9),rfl,⟨Nat.le_refl _,u9.le kN8 nN,u9.le kV8 nV2,hp9⟩,by show 1-1<1-0;decide,hw.fit (by simp [fitL,Res.eqv,qAA,conc])⟩
  have h1:k=1:=by have h9:¬ (k:Int)<1:=of_decide_eq_false hlt;omega
  subst h1
  repeat((conv=>whnf);first|apply qza|apply qzb|apply qzc|apply qzd|apply qze|intro(_:Nat)|intro(_:OA)_)
  conv=>whnf
  refine fun gA kA nA pA=>?_
  repeat((conv=>whnf);first|apply qza|apply qzb|apply qzc|apply qzd|apply qze|intro(_:Nat)|intro(_:OA)_)
  conv=>whnf
  refine⟨3,rfl,by unfold maxLen;omega,fun gB kB nB pB=>?_⟩
  repeat((conv=>whnf);first|apply qza|apply qzb|apply qzc|apply qzd|apply qze|intro(_:Nat)|intro(_:OA)_)
  conv=>whnf
  intro g2 hg
  have m8:=GW.trans kA (GW.trans kB hg)
  refine⟨_,rfl,_,_,_,_,_,rfl,⟨show InR 4 by decide,show InR 1 by decide,show InR 0 by decide⟩,pN.mono qYB (GW.trans kN8 m8),?_,?_,cN.mono qKB (GW.trans kN8 m8),?_⟩
  ·refine qEF (pA.rd.mono (GW.trans kB hg)) [qHA (qRC 1 [true,true]),qHA (qRC 1 [true,true])] [e0,[.slice sa (qHA (qRC 1 [true,true])).snap.listens.length ta,.slice sb (qHA (qRC 1 [true,true])).snap.rules.length tb,.slice sd (qHA (qRC 1 [true,true])).snap.clusters.length td,.slice oV nV cV,.bool false]] (by simp) (fun e he=>?_) rfl rfl fun i x ec hx hec=>?_
   ·simp at he
    rcases he with rfl|rfl
    ·exact hes _ (by simp)
    ·rfl
   ·match i,hx,hec with
    | 0,hx,hec=>cases hx;cases hec;exact qtE _ _ _ _ (GW.trans kN8 m8) hR0
    | 1,hx,hec=>cases hx;cases hec;exact qtE _ _ _ _ (GW.trans kV8 m8) hV0
    | i+2,hx,hec=>simp at hx
  ·exact qEF (R:=qPB) (hp8.rd.mono m8) [⟨sInW,true,0,false⟩] [[.string sInW,.bool true,.int .i64 0,.bool false]] rfl (by simp) rfl rfl fun i x ec hx hec=>by
    match i,hx,hec with
    | 0,hx,hec=>cases hx;cases hec;exact⟨rfl,show InR 0 by decide⟩
    | i+1,hx,hec=>simp at hx
  ·exact qEF (R:=qfA) (pB.rd.mono hg) [⟨0,3,false⟩] [[.int .i64 0,.int .i64 3,.bool false]] rfl (by simp) rfl rfl fun i x ec hx hec=>by
    match i,hx,hec with
    | 0,hx,hec=>cases hx;cases hec;exact⟨rfl,show InR 0 by decide,show InR 3 by decide⟩
    | i+1,hx,hec=>simp at hx)
theorem qKS:SnW wC:=by
 intro v hv
 have:v=qHA (qRC 1 [true,true]):=by simpa [wC] using hv
 subst this
 refine⟨by decide,fun r hr=>?_⟩
 have:r=⟨0,⟨#[42]⟩,⟨#[47]⟩,0⟩:=by simpa [qHA,qRC] using hr
 subst this
 decide
theorem qLS {K:Nat} (hK:6≤K):BgW K wC:=by
 refine⟨⟨by show 1≤K;omega,by show 2≤K;omega,by show 1≤K;omega,by show 1≤K;omega,by show 1≤K;omega⟩,fun r hr=>?_,fun v hv=>?_⟩
 ·have:r=[0,0,0,0,0,0]:=by simpa [wC,newW,q4D] using hr
  subst this
  show 6≤K;omega
 have:v=qHA (qRC 1 [true,true]):=by simpa [wC] using hv
 subst this
 refine⟨by show 1≤K;omega,fun y hy=>?_⟩
 have:y=⟨0,[qcB 1,qcB 1]⟩:=by simpa [qHA,qRC] using hy
 subst this
 show 2≤K;omega
theorem q8P (g:GW) {k:Int} (hk:InR k):qjC g ((mK k).cs (.slice none 0 0) (.slice none 0 0) (.slice none 0 0)) (mK k) :=
 ⟨_,_,_,rfl,⟨z0,z0,z0,z0,z0,z0,z0,z0,z0,zu,z0,z0,z0,z0,qyQ,qCN⟩,⟨hk,z0,z0,z0⟩,qDJ g⟩
theorem cway3:∃ n,CWay 12 wC (mK 5) wC2 n∧n.done=true∧n.answer=⟨11,0,0,0,0,0,1,c60⟩:=⟨_,cway1,congrArg Prod.fst cIt2,congrArg Prod.snd cIt2⟩
theorem qJA (g:GW):OkV Tryz.prog qbE [] g (.bool true):=by
 obtain⟨n,cwy,hd,hans⟩:=cway3
 obtain⟨mop,mth,mpc,mep,mve,mli,mcl,men,mot,msl,mwo,mlk,mi,mk,msu,mdo,man,mco⟩:=n
 simp only at hans
 subst hans
 exact Ok.of_fn hm noT 0 qPE (args:=[]) (by
  repeat((conv=>whnf);first|apply qza|apply qzb|apply qzc|apply qzd|apply qze|intro(_:Nat))
  refine .inr ((qUK _).mono fun v g1 hg1 hO=>?_)
  obtain⟨cs,rfl,hw1⟩:=hO
  obtain⟨_,_,_,_,_,_,_,_,_,_,rfl⟩:=qPA hw1
  repeat((conv=>whnf);first|apply qza|apply qzb|apply qzc|apply qzd|apply qze|intro(_:Nat))
  refine .inr ((qeF _ hw1 (q8P _ (k:=5) (by decide)) qKS (qLS (by decide)) cwy hd (by decide)).mono fun v g2 hg2 hO=>?_)
  obtain⟨csa,msa,rfl,hwa,hMa⟩:=hO
  obtain⟨_,_,_,_,_,_,_,_,_,_,rfl⟩:=qPA hwa
  obtain⟨_,_,_,_,_,_,rfl⟩:=qNB hMa
  repeat((conv=>whnf);first|apply qza|apply qzb|apply qzc|apply qzd|apply qze|intro(_:Nat))
  refine .inr ((qUK _).mono fun v g3 hg3 hO=>?_)
  obtain⟨csb,rfl,hwb⟩:=hO
  obtain⟨_,_,_,_,_,_,_,_,_,_,rfl⟩:=qPA hwb
  have hwb1:=qkI hwb (x:=1) (by decide)
  repeat((conv=>whnf);first|apply qza|apply qzb|apply qzc|apply qzd|apply qze|intro(_:Nat))
  refine .inr ((qeF _ hwb1 (q8P _ (k:=0) (by decide)) qKS (qLS (by decide)) cway2 rfl (by decide)).mono fun v g4 hg4 hO=>?_)
  obtain⟨csc,msc,rfl,hwc,hMc⟩:=hO
  obtain⟨_,_,_,_,_,_,_,_,_,_,rfl⟩:=qPA hwc
  obtain⟨_,_,_,_,_,_,rfl⟩:=qNB hMc
  have hwa4:=qGA _ _ _ _ (GW.trans hg3 hg4) hwa
  have hwb4:=qGA _ _ _ _ hg4 hwb
  obtain⟨av,rfl⟩:=qUA (qfN hwa4) (i:=0) (x:={qHA (qRC 1 [true,true]) with freed:=true}) rfl
  obtain⟨_,_,_,_,_,_,_,_,hcv,_⟩:=qzL (qfN hwa4) (i:=0) (x:={qHA (qRC 1 [true,true]) with freed:=true}) rfl
  obtain⟨al,rfl⟩:=qUA (q4J hwa4) (i:=0) (x:=⟨sInW,true,0,true⟩) rfl
  obtain⟨_,hcl⟩:=qZJ (q4J hwa4) (i:=0) (x:=⟨sInW,true,0,true⟩) rfl
  obtain⟨ar,rfl⟩:=qUA (qIM hwa4) (i:=0) (x:=⟨0,3,true⟩) rfl
  obtain⟨_,hcr⟩:=qPK (qIM hwa4) (i:=0) (x:=⟨0,3,true⟩) rfl
  obtain⟨ab,rfl⟩:=qUA (qfN hwb4) (i:=0) (x:=qHA (qRC 1 [true,true])) rfl
  obtain⟨_,_,_,_,_,_,_,_,hcb,hsb,_,hGb⟩:=qzL (qfN hwb4) (i:=0) (x:=qHA (qRC 1 [true,true])) rfl
  have hwI:OkV Tryz.prog qYE _ _ _:=(qQM _ hwa4 (CWay.sn cwy qKS)).to (congrArg Value.bool qtP)
  have hE:OkV Tryz.prog qTG _ _ _:=qbO _ ⟨_,_,_,_,rfl,hsb,hGb⟩ ((qLS (K:=1000000) (by decide)).2.2 _ (by simp [wC]))
  repeat'((conv=>whnf);first|apply qza|apply qzb|apply qzc|apply qzd|apply qze|intro(_:Nat)|refine⟨fun _=>?_,fun h=>absurd h.symm Bool.false_ne_true⟩|refine⟨fun h=>absurd h Bool.false_ne_true,fun _=>?_⟩|refine⟨_,rfl,⟨by decide,by decide⟩,?_⟩|refine⟨_,hcv 4 _ rfl,?_⟩|refine⟨_,hcl 3 _ rfl,?_⟩|refine⟨_,hcr 2 _ rfl,?_⟩|refine⟨_,⟨rfl,hcb⟩,?_⟩|refine .inl ⟨_,hwI,?_⟩|refine .inl ⟨_,hE,?_⟩|fail)
  conv=>whnf
  intro g2 hg
  rfl)
def mU (k t:Int):Mach:={mP 0 0 with thread:=t,op:={op0 with kind:=k}}
theorem qBJ (g:GW) {k t:Int} (hk:InR k) (h:InR t):qjC g ((mU k t).cs (.slice none 0 0) (.slice none 0 0) (.slice none 0 0)) (mU k t) :=
 ⟨_,_,_,rfl,⟨h,z0,z0,z0,z0,z0,z0,z0,z0,zu,z0,z0,z0,z0,qyQ,qCN⟩,⟨hk,z0,z0,z0⟩,qDJ g⟩
/- Worlds: clones,the document's answer. -/
open Go.Proofs.YtkbbljngpglnkaaGreat.Sx Go.RowKit
/- Pins: a thread is pinned no more. -/
open Go.Proofs.YtkbbljngpglnkaaGreat.Sx Go.RowKit
/- Pins: a thread is pinned no more;the document's answer. -/
open Go.Proofs.YtkbbljngpglnkaaGreat.Sx Go.RowKit
/- Pins: the steps' table. -/
open Go.Proofs.YtkbbljngpglnkaaGreat.Sx Go.RowKit
/- Pins: a step,another place. -/
open Go.Proofs.YtkbbljngpglnkaaGreat.Sx Go.RowKit
/- Pins: a step,place 0. -/
open Go.Proofs.YtkbbljngpglnkaaGreat.Sx Go.RowKit
/- Pins: a step,place 1. -/
open Go.Proofs.YtkbbljngpglnkaaGreat.Sx Go.RowKit
/- Pins: a step,place 2. -/
open Go.Proofs.YtkbbljngpglnkaaGreat.Sx Go.RowKit
/- Pins: a step,at any place. -/
open Go.Proofs.YtkbbljngpglnkaaGreat.Sx Go.RowKit
/- Pins: the law's example,first part. -/
open Go.Proofs.YtkbbljngpglnkaaGreat.Sx Go.RowKit
/- Pins: the law's example. -/
open Go.Proofs.YtkbbljngpglnkaaGreat.Sx Go.RowKit
section
variable {g:GW} {cs ms:List Value} {e pc ep:Int} {p:List Int} (hw:rWo g cs (wP e p)) (hM:qjC g ms (mP pc ep)) (he:0≤e∧e≤100) (hl:p.length=2) (hp:∀ x∈p,0≤x∧x≤e+1)
include hw hM he hl hp
end
/- The law PinOff. -/
open Go.Proofs.YtkbbljngpglnkaaGreat.Sx Go.RowKit
theorem BgW.up {K K':Nat} {w:Wd} (h:BgW K w) (k:K≤K'):BgW K' w:=by
 obtain⟨⟨h1,h2,h3,h4,h5⟩,h6,h7⟩:=h
 refine⟨⟨by omega,by omega,by omega,by omega,by omega⟩,fun r hr=>by have:=h6 r hr;omega,fun v hv=>?_⟩
 obtain⟨a,b⟩:=h7 v hv
 exact⟨by omega,fun y hy=>by have:=b y hy;unfold BgG at this ⊢;omega⟩
end Go.Proofs.YtkbbljngpglnkaaGreat
