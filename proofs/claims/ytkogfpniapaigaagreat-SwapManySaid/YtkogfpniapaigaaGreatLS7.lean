/- Snapshots: what is built, and their configurations: the program's and the document's answers. -/
import Derived.Test.YtkogfpniapaigaaGreatLK5b
import Derived.Test.YtkogfpniapaigaaGreatPl
set_option linter.unusedVariables false
set_option linter.unusedSimpArgs false
namespace Go.Proofs.YtkogfpniapaigaaGreat
open Go.Proofs.YtkogfpniapaigaaGreat.Sx Go.RowKit
set_option maxHeartbeats 16000000
set_option maxRecDepth 100000
def tS:List (Nat×FnI):=[(qjH,qaD),(qVJ,qPE)]
theorem tS_ok:qDG Tryz.prog tS:=by
 intro x hx
 simp only [tS,List.mem_cons,List.not_mem_nil,or_false] at hx
 rcases hx with rfl|rfl
 ·exact⟨_,_,qLH⟩
 ·exact⟨_,_,qBJ⟩
def tK:List (Nat×FnI):=[(qGE,qNC),(qHK,q6E)]
theorem tK_ok:qDG Tryz.prog tK:=by
 intro x hx
 simp only [tK,List.mem_cons,List.not_mem_nil,or_false] at hx
 rcases hx with rfl|rfl
 ·exact⟨_,_,q3D⟩
 ·exact⟨_,_,qDK⟩
theorem qOP (g:GW) {v:Value} {l:List BA} (hl:rSl 1 rStr g v l) (s:BA):OkV Tryz.prog q5K [v,.string s] g (.int .i64 (idxI (idxO (fun x=>bs x==bs s) l))) :=
 Ok.of_fn hm tS_ok 2 qgK (args:=[.v v,.v (.string s)]) (by
  obtain⟨oa,cap,rfl,h1,h2,h0,hr⟩:=hl
  repeat((conv=>whnf);first|apply qza|apply qzb|apply qzc|apply qzd|apply qze|intro(_:Nat))
  conv=>whnf
  refine⟨Nat,fun k=>[.v (.int .i64 k)],fun k=>⟨g,[.blk 0 _ _ [.v (.string s)]],_,_⟩,fun k=>k≤l.length∧Pass (idxF fun x=>bs x==bs s) l k,fun k=>l.length-k,qDA 0 rfl ⟨Nat.zero_le _,Pass.zero _ _⟩ rfl,?_⟩
  rintro k ⟨hk,hp⟩
  conv=>whnf
  refine⟨fun hlt=>?_,fun hlt=>?_⟩
  ·have h':k<l.length:=by have:=of_decide_eq_true hlt;omega
   obtain⟨x,hx⟩:=qBA h'
   obtain⟨a,rfl,ec,hec,rfl,hc⟩:=hr k x hx
   conv=>whnf
   refine⟨a,rfl,⟨by omega,by omega⟩,?_⟩
   conv=>whnf
   refine⟨_,hc 0 _ rfl,?_⟩
   conv=>whnf
   refine⟨qeJ,?_⟩
   repeat((conv=>whnf);first|apply qza|apply qzb|apply qzc|apply qzd|apply qze|intro(_:Nat))
   conv=>whnf
   refine⟨fun he=>?_,fun he=>?_⟩
   ·conv=>whnf
    intro g2 hg
    rw [qzC hp hx he]
   ·conv=>whnf
    refine fun fr w hw=>⟨k+1,congrArg (fun z=>[Value.int .i64 z]) (wr1 h' h1 h2).symm,⟨h',qyC hp hx he⟩,dec h',?_⟩
    exact hw.fit (by simp [fitL,Res.eqv,qAA,conc])
  ·conv=>whnf
   intro g2 hg
   have:=of_decide_eq_false hlt
   rw [q8B hp (by omega)])
theorem qGP (g:GW) {v:Value} {l:List Cluster} (hl:rSl 4 qAC g v l) (s:BA):OkV Tryz.prog qkL [v,.string s] g (.int .i64 (idxI (idxO (fun (x:Cluster)=>bs x.name==bs s) l))) :=
 Ok.of_fn hm tK_ok 2 qbL (args:=[.v v,.v (.string s)]) (by
  obtain⟨oa,cap,rfl,h1,h2,h0,hr⟩:=hl
  repeat((conv=>whnf);first|apply qza|apply qzb|apply qzc|apply qzd|apply qze|intro(_:Nat))
  conv=>whnf
  refine⟨Nat,fun k=>[.v (.int .i64 k)],fun k=>⟨g,[.blk 0 _ _ [.v (.string s)]],_,_⟩,fun k=>k≤l.length∧Pass (idxF fun (x:Cluster)=>bs x.name==bs s) l k,fun k=>l.length-k,qDA 0 rfl ⟨Nat.zero_le _,Pass.zero _ _⟩ rfl,?_⟩
  rintro k ⟨hk,hp⟩
  conv=>whnf
  refine⟨fun hlt=>?_,fun hlt=>?_⟩
  ·have h':k<l.length:=by have:=of_decide_eq_true hlt;omega
   obtain⟨x,hx⟩:=qBA h'
   obtain⟨a,rfl,ec,hec,⟨hv,rfl,_,_,_,_,rfl,_⟩,hc⟩:=hr k x hx
   conv=>whnf
   refine⟨a,rfl,⟨by omega,by omega⟩,?_⟩
   conv=>whnf
   refine⟨_,⟨rfl,hc⟩,?_⟩
   repeat((conv=>whnf);first|apply qza|apply qzb|apply qzc|apply qzd|apply qze|intro(_:Nat))
   conv=>whnf
   refine⟨qLK,?_⟩
   repeat((conv=>whnf);first|apply qza|apply qzb|apply qzc|apply qzd|apply qze|intro(_:Nat))
   conv=>whnf
   refine⟨fun he=>?_,fun he=>?_⟩
   ·conv=>whnf
    intro g2 hg
    rw [qzC hp hx he]
   ·conv=>whnf
    refine fun fr w hw=>⟨k+1,congrArg (fun z=>[Value.int .i64 z]) (wr1 h' h1 h2).symm,⟨h',qyC hp hx he⟩,dec h',?_⟩
    exact hw.fit (by simp [fitL,Res.eqv,qAA,conc])
  ·conv=>whnf
   intro g2 hg
   have:=of_decide_eq_false hlt
   rw [q8B hp (by omega)])
theorem qGN {α:Type} {f:α→Bool} {l:List α} (h:l.length≤maxLen):InR (idxI (idxO f l)):=by
 unfold maxLen at h
 cases hi:idxO f l with
 | none=>exact⟨by decide,by decide⟩
 | some i=>have:=qjU hi;exact⟨by simp only [idxI];omega,by simp only [idxI];omega⟩
theorem qPK {α β:Type} {l:List α} {f:α→List β} {k:Nat} {x:α} (hx:l[k]?=some x):((l.take (k+1)).map f).flatten=((l.take k).map f).flatten++f x:=by
 obtain⟨h1,h2⟩:=List.getElem?_eq_some_iff.1 hx
 rw [List.take_succ_eq_append_getElem h1,h2];simp
def quS (g:GW) (c:Config) (a d v:Value) (g':GW):Prop :=
 (qHA c=none∧∃ oa n cap,v=.tuple #[.agg ⟨[a,.slice oa n cap,d]⟩,.int .i64 0,.int .i64 0]∧rSl 4 qmQ g' (.slice oa n cap) (qaA c).rules∧∀ x,oa=some x→¬ g.g x.block) ∨
 ∃ e i,qHA c=some (e,i)∧v=.tuple #[.agg ⟨[.slice none 0 0,.slice none 0 0,.slice none 0 0]⟩,.int .i64 e,.int .i64 i]
abbrev cRul (c:Config) (r:Route):List Value:=qqU (q1L c r)
theorem qUK (g:GW) {a b d:Value} {c:Config} (hc:qcA g [a,b,d] c):Ok Tryz.prog qEO [.agg ⟨[a,b,d]⟩] g (quS g c a d):=by
 have hc0:=hc
 obtain⟨_,_,_,he,hl,hr,hk⟩:=hc
 cases he
 obtain⟨oa,ca,rfl,a1,a2,a0,hl1⟩:=id hl
 obtain⟨ob,cb,rfl,b1,b2,b0,hr1⟩:=id hr
 obtain⟨od,cd,rfl,d1,d2,d0,hk1⟩:=id hk
 exact Ok.of_fn hm noT 0 qdN (args:=[.v (.agg ⟨[.slice oa c.listens.length ca,.slice ob c.routes.length cb,.slice od c.clusters.length cd]⟩)]) (by
  rcases qAG (qHA c) with ⟨hz,hv⟩|⟨e,i,hz,hv⟩
  rotate_left
  ·have hne:=q8A hz
   repeat((conv=>whnf);first|apply qza|apply qzb|apply qzc|apply qzd|apply qze|intro(_:Nat)|intro(_:OA)_)
   conv=>whnf
   refine .inl ⟨_,(qTK _ hc0).to hv,?_⟩
   conv=>whnf
   refine⟨fun _=>?_,fun hx=>absurd hx (by simp;omega)⟩
   repeat((conv=>whnf);first|apply qza|apply qzb|apply qzc|apply qzd|apply qze|intro(_:Nat)|intro(_:OA)_)
   conv=>whnf
   intro g2 hg
   exact .inr ⟨e,i,hz,rfl⟩
  have G:=good_iff.1 hz
  have hsz:=G.size
  repeat((conv=>whnf);first|apply qza|apply qzb|apply qzc|apply qzd|apply qze|intro(_:Nat)|intro(_:OA)_)
  conv=>whnf
  refine .inl ⟨_,(qTK _ hc0).to hv,?_⟩
  conv=>whnf
  refine⟨fun h=>(nomatch h),fun _=>?_⟩
  repeat((conv=>whnf);first|apply qza|apply qzb|apply qzc|apply qzd|apply qze|intro(_:Nat)|intro(_:OA)_)
  rename_i p0 p1 _ p2
  conv=>whnf
  refine⟨Nat×Option Addr×Nat,fun (k,_,_)=>[.v (.int .i64 k)],fun (k,oR,cR)=>⟨g,[.row 10 oR k cR qkC 4 ((c.routes.take k).map (cRul c)).flatten,.blk 2 p2 qPA [.v (.slice oa c.listens.length ca),.row 10 oR k cR,.v (.slice od c.clusters.length cd)],.blk 1 p1 qPA [.v (.slice none 0 0),.v (.slice none 0 0),.v (.slice none 0 0)],.blk 0 p0 qtA [.v (.slice oa c.listens.length ca),.v (.slice ob c.routes.length cb),.v (.slice od c.clusters.length cd)]],40,g.w.heap.size⟩,fun (k,_,_)=>k≤c.routes.length,fun (k,_,_)=>c.routes.length-k,?_,?_⟩
  ·intro fr w hw
   exact⟨(0,none,0),rfl,Nat.zero_le _,(hw.nil_row (nx':=40) 10 qkC 4).fit (by simp [fitL,Res.eqv,qAA,conc])⟩
  rintro⟨k,oR,cR⟩ hkk
  have hkk:k≤c.routes.length:=hkk
  repeat((conv=>whnf);first|apply qza|apply qzb|apply qzc|apply qzd|apply qze|intro(_:Nat)|intro(_:OA)_)
  conv=>whnf
  refine⟨fun hlt=>?_,fun hlt=>?_⟩
  ·have h':k<c.routes.length:=by have:=of_decide_eq_true hlt;omega
   obtain⟨x,hx⟩:=qBA h'
   obtain⟨a,rfl,ec,hec,rfl,hc⟩:=hr1 k x hx
   have hT:=qPK (f:=cRul c) hx
   repeat((conv=>whnf);first|apply qza|apply qzb|apply qzc|apply qzd|apply qze|intro(_:Nat)|intro(_:OA)_)
   conv=>whnf
   refine⟨a,rfl,⟨by omega,by omega⟩,?_⟩
   conv=>whnf
   refine⟨_,⟨rfl,hc⟩,?_⟩
   repeat((conv=>whnf);first|apply qza|apply qzb|apply qzc|apply qzd|apply qze|intro(_:Nat)|intro(_:OA)_)
   conv=>whnf
   refine .inl ⟨_,qOP _ hl _,?_⟩
   repeat((conv=>whnf);first|apply qza|apply qzb|apply qzc|apply qzd|apply qze|intro(_:Nat)|intro(_:OA)_)
   conv=>whnf
   refine .inl ⟨_,qGP _ hk _,?_⟩
   repeat((conv=>whnf);first|apply qza|apply qzb|apply qzc|apply qzd|apply qze|intro(_:Nat)|intro(_:OA)_)
   conv=>whnf
   refine⟨⟨by unfold maxLen;omega,by omega⟩,fun oa2 cap2=>?_⟩
   repeat((conv=>whnf);first|apply qza|apply qzb|apply qzc|apply qzd|apply qze|intro(_:Nat)|intro(_:OA)_)
   conv=>whnf
   refine fun fr w hw=>⟨(k+1,oa2,cap2),congrArg (fun z=>[Value.int .i64 z]) (wr1 h' b1 b2).symm,h',dec h',hw.fit ?_⟩
   simp only [hT]
   simp [fitL,Res.eqv,qAA,conc,q1L]
  have hz1:k=c.routes.length:=by have:=of_decide_eq_false hlt;omega
  subst hz1
  repeat((conv=>whnf);first|apply qza|apply qzb|apply qzc|apply qzd|apply qze|intro(_:Nat)|intro(_:OA)_)
  conv=>whnf
  refine fun g1 hg1 hn1 hp1=>?_
  conv=>whnf
  intro g2 hg
  refine .inl ⟨hz,_,_,_,rfl,?_,fun x hx hg=>hn1 x hx hg⟩
  refine((qNJ hp1.rd (qaA c).rules qqU ?_ (by simp [qaA]) (fun _ _=>rfl) fun r hr=>?_).mono qOJ hg)
  ·rw [List.take_of_length_le (Nat.le_refl _)];simp [qaA,List.map_map,Function.comp_def]
  ·obtain⟨q,_,rfl⟩:=List.mem_map.1 hr
   exact⟨rfl,qGN (by omega),qGN (by omega)⟩)
/- Snapshots: the configuration of one. -/
open Go.Proofs.YtkogfpniapaigaaGreat.Sx Go.RowKit
abbrev cRou (s:Snap) (r:Rule):List Value:=qgS (quA s r)
theorem qDS (g:GW) {a b d:Value} {s:Snap} (hs:qnF g [a,b,d] s) (hsz:s.rules.length≤1000000):Ok Tryz.prog q2M [.agg ⟨[a,b,d]⟩] g fun v g'=>∃ oa n cap,v=.agg ⟨[a,.slice oa n cap,d]⟩∧rSl 4 qrK g' (.slice oa n cap) (qIC s).routes:=by
 obtain⟨_,_,_,he,hl,hr,hk⟩:=hs
 cases he
 obtain⟨oa,ca,rfl,a1,a2,a0,hl1⟩:=id hl
 obtain⟨ob,cb,rfl,b1,b2,b0,hr1⟩:=id hr
 obtain⟨od,cd,rfl,d1,d2,d0,hk1⟩:=id hk
 exact Ok.of_fn hm noT 0 qYM (args:=[.v (.agg ⟨[.slice oa s.listens.length ca,.slice ob s.rules.length cb,.slice od s.clusters.length cd]⟩)]) (by
  repeat((conv=>whnf);first|apply qza|apply qzb|apply qzc|apply qzd|apply qze|intro(_:Nat)|intro(_:OA)_)
  rename_i p0 p1 p2
  conv=>whnf
  refine⟨Nat×Option Addr×Nat,fun (k,_,_)=>[.v (.int .i64 k)],fun (k,oR,cR)=>⟨g,[.row 10 oR k cR qJC 4 ((s.rules.take k).map (cRou s)).flatten,.blk 2 p2 qtA [.v (.slice oa s.listens.length ca),.row 10 oR k cR,.v (.slice od s.clusters.length cd)],.blk 1 p1 qtA [.v (.slice none 0 0),.v (.slice none 0 0),.v (.slice none 0 0)],.blk 0 p0 qPA [.v (.slice oa s.listens.length ca),.v (.slice ob s.rules.length cb),.v (.slice od s.clusters.length cd)]],40,g.w.heap.size⟩,fun (k,_,_)=>k≤s.rules.length,fun (k,_,_)=>s.rules.length-k,?_,?_⟩
  ·intro fr w hw
   exact⟨(0,none,0),rfl,Nat.zero_le _,(hw.nil_row (nx':=40) 10 qJC 4).fit (by simp [fitL,Res.eqv,qAA,conc])⟩
  rintro⟨k,oR,cR⟩ hkk
  have hkk:k≤s.rules.length:=hkk
  repeat((conv=>whnf);first|apply qza|apply qzb|apply qzc|apply qzd|apply qze|intro(_:Nat)|intro(_:OA)_)
  conv=>whnf
  refine⟨fun hlt=>?_,fun hlt=>?_⟩
  ·have h':k<s.rules.length:=by have:=of_decide_eq_true hlt;omega
   obtain⟨⟨rl,rh,rp,rc⟩,hx⟩:=qBA h'
   obtain⟨a,rfl,ec,hec,⟨rfl,_,_⟩,hc⟩:=hr1 k _ hx
   have hT:=qPK (f:=cRou s) hx
   repeat((conv=>whnf);first|apply qza|apply qzb|apply qzc|apply qzd|apply qze|intro(_:Nat)|intro(_:OA)_)
   conv=>whnf
   refine⟨a,rfl,⟨by omega,by omega⟩,?_⟩
   conv=>whnf
   refine⟨_,⟨rfl,hc⟩,?_⟩
   repeat((conv=>whnf);first|apply qza|apply qzb|apply qzc|apply qzd|apply qze|intro(_:Nat)|intro(_:OA)_)
   by_cases hA:0≤rl∧rl<s.listens.length
   ·obtain⟨n,rfl⟩:=Int.eq_ofNat_of_zero_le hA.1
    obtain⟨y,hy⟩:=qBA (show n<s.listens.length by omega)
    obtain⟨aL,rfl,ecL,hecL,rfl,hcL⟩:=hl1 n y hy
    have hAn:qsF s.listens (n:Int)=y:=by unfold qsF;rw [if_pos hA];simp [hy]
    conv=>whnf
    refine⟨fun _=>?_,fun hx=>absurd (((decide_eq_true hA.1)).symm.trans hx) (by decide)⟩
    repeat((conv=>whnf);first|apply qza|apply qzb|apply qzc|apply qzd|apply qze|intro(_:Nat)|intro(_:OA)_)
    conv=>whnf
    refine⟨fun _=>?_,fun hx=>absurd (((decide_eq_true hA.2)).symm.trans hx) (by decide)⟩
    repeat((conv=>whnf);first|apply qza|apply qzb|apply qzc|apply qzd|apply qze|intro(_:Nat)|intro(_:OA)_)
    conv=>whnf
    refine⟨aL,rfl,⟨hA.1,hA.2⟩,?_⟩
    conv=>whnf
    refine⟨_,hcL 0 _ rfl,?_⟩
    repeat((conv=>whnf);first|apply qza|apply qzb|apply qzc|apply qzd|apply qze|intro(_:Nat)|intro(_:OA)_)
    by_cases hC:0≤rc∧rc<s.clusters.length
    ·obtain⟨m,rfl⟩:=Int.eq_ofNat_of_zero_le hC.1
     obtain⟨z,hz⟩:=qBA (show m<s.clusters.length by omega)
     obtain⟨aC,rfl,ecC,hecC,⟨hv,rfl,_,_,_,_,rfl,_⟩,hcC⟩:=hk1 m z hz
     have hCn:q7A s.clusters (m:Int)=z.name:=by unfold q7A;rw [if_pos hC];simp [hz]
     conv=>whnf
     refine⟨fun _=>?_,fun hx=>absurd (((decide_eq_true hC.1)).symm.trans hx) (by decide)⟩
     repeat((conv=>whnf);first|apply qza|apply qzb|apply qzc|apply qzd|apply qze|intro(_:Nat)|intro(_:OA)_)
     conv=>whnf
     refine⟨fun _=>?_,fun hx=>absurd (((decide_eq_true hC.2)).symm.trans hx) (by decide)⟩
     repeat((conv=>whnf);first|apply qza|apply qzb|apply qzc|apply qzd|apply qze|intro(_:Nat)|intro(_:OA)_)
     conv=>whnf
     refine⟨aC,rfl,⟨hC.1,hC.2⟩,?_⟩
     conv=>whnf
     refine⟨_,hcC 0 _ rfl,?_⟩
     repeat((conv=>whnf);first|apply qza|apply qzb|apply qzc|apply qzd|apply qze|intro(_:Nat)|intro(_:OA)_)
     conv=>whnf
     refine⟨⟨by unfold maxLen;omega,by omega⟩,fun oa2 cap2=>?_⟩
     repeat((conv=>whnf);first|apply qza|apply qzb|apply qzc|apply qzd|apply qze|intro(_:Nat)|intro(_:OA)_)
     conv=>whnf
     refine fun fr w hw=>⟨(k+1,oa2,cap2),congrArg (fun z=>[Value.int .i64 z]) (wr1 h' b1 b2).symm,h',dec h',hw.fit ?_⟩
     simp only [hT]
     simp [fitL,Res.eqv,qAA,conc,quA,hAn,hCn]
    have hCn:q7A s.clusters rc=⟨#[]⟩:=by unfold q7A;rw [if_neg hC]
    by_cases hC0:0≤rc
    ·conv=>whnf
     refine⟨fun _=>?_,fun hx=>absurd (((decide_eq_true hC0)).symm.trans hx) (by decide)⟩
     repeat((conv=>whnf);first|apply qza|apply qzb|apply qzc|apply qzd|apply qze|intro(_:Nat)|intro(_:OA)_)
     conv=>whnf
     refine⟨fun hx=>absurd (hx.symm.trans ((decide_eq_false (show ¬ rc<s.clusters.length from fun h=>hC ⟨hC0,h⟩)))) (by decide),fun _=>?_⟩
     repeat((conv=>whnf);first|apply qza|apply qzb|apply qzc|apply qzd|apply qze|intro(_:Nat)|intro(_:OA)_)
     conv=>whnf
     refine⟨⟨by unfold maxLen;omega,by omega⟩,fun oa2 cap2=>?_⟩
     repeat((conv=>whnf);first|apply qza|apply qzb|apply qzc|apply qzd|apply qze|intro(_:Nat)|intro(_:OA)_)
     conv=>whnf
     refine fun fr w hw=>⟨(k+1,oa2,cap2),congrArg (fun z=>[Value.int .i64 z]) (wr1 h' b1 b2).symm,h',dec h',hw.fit ?_⟩
     simp only [hT]
     simp [fitL,Res.eqv,qAA,conc,quA,hAn,hCn]
    ·conv=>whnf
     refine⟨fun hx=>absurd (hx.symm.trans ((decide_eq_false hC0))) (by decide),fun _=>?_⟩
     repeat((conv=>whnf);first|apply qza|apply qzb|apply qzc|apply qzd|apply qze|intro(_:Nat)|intro(_:OA)_)
     conv=>whnf
     refine⟨⟨by unfold maxLen;omega,by omega⟩,fun oa2 cap2=>?_⟩
     repeat((conv=>whnf);first|apply qza|apply qzb|apply qzc|apply qzd|apply qze|intro(_:Nat)|intro(_:OA)_)
     conv=>whnf
     refine fun fr w hw=>⟨(k+1,oa2,cap2),congrArg (fun z=>[Value.int .i64 z]) (wr1 h' b1 b2).symm,h',dec h',hw.fit ?_⟩
     simp only [hT]
     simp [fitL,Res.eqv,qAA,conc,quA,hAn,hCn]
   have hAn:qsF s.listens rl=⟨#[]⟩:=by unfold qsF;rw [if_neg hA]
   by_cases hA0:0≤rl
   ·conv=>whnf
    refine⟨fun _=>?_,fun hx=>absurd (((decide_eq_true hA0)).symm.trans hx) (by decide)⟩
    repeat((conv=>whnf);first|apply qza|apply qzb|apply qzc|apply qzd|apply qze|intro(_:Nat)|intro(_:OA)_)
    conv=>whnf
    refine⟨fun hx=>absurd (hx.symm.trans ((decide_eq_false (show ¬ rl<s.listens.length from fun h=>hA ⟨hA0,h⟩)))) (by decide),fun _=>?_⟩
    repeat((conv=>whnf);first|apply qza|apply qzb|apply qzc|apply qzd|apply qze|intro(_:Nat)|intro(_:OA)_)
    by_cases hC:0≤rc∧rc<s.clusters.length
    ·obtain⟨m,rfl⟩:=Int.eq_ofNat_of_zero_le hC.1
     obtain⟨z,hz⟩:=qBA (show m<s.clusters.length by omega)
     obtain⟨aC,rfl,ecC,hecC,⟨hv,rfl,_,_,_,_,rfl,_⟩,hcC⟩:=hk1 m z hz
     have hCn:q7A s.clusters (m:Int)=z.name:=by unfold q7A;rw [if_pos hC];simp [hz]
     conv=>whnf
     refine⟨fun _=>?_,fun hx=>absurd (((decide_eq_true hC.1)).symm.trans hx) (by decide)⟩
     repeat((conv=>whnf);first|apply qza|apply qzb|apply qzc|apply qzd|apply qze|intro(_:Nat)|intro(_:OA)_)
     conv=>whnf
     refine⟨fun _=>?_,fun hx=>absurd (((decide_eq_true hC.2)).symm.trans hx) (by decide)⟩
     repeat((conv=>whnf);first|apply qza|apply qzb|apply qzc|apply qzd|apply qze|intro(_:Nat)|intro(_:OA)_)
     conv=>whnf
     refine⟨aC,rfl,⟨hC.1,hC.2⟩,?_⟩
     conv=>whnf
     refine⟨_,hcC 0 _ rfl,?_⟩
     repeat((conv=>whnf);first|apply qza|apply qzb|apply qzc|apply qzd|apply qze|intro(_:Nat)|intro(_:OA)_)
     conv=>whnf
     refine⟨⟨by unfold maxLen;omega,by omega⟩,fun oa2 cap2=>?_⟩
     repeat((conv=>whnf);first|apply qza|apply qzb|apply qzc|apply qzd|apply qze|intro(_:Nat)|intro(_:OA)_)
     conv=>whnf
     refine fun fr w hw=>⟨(k+1,oa2,cap2),congrArg (fun z=>[Value.int .i64 z]) (wr1 h' b1 b2).symm,h',dec h',hw.fit ?_⟩
     simp only [hT]
     simp [fitL,Res.eqv,qAA,conc,quA,hAn,hCn]
    have hCn:q7A s.clusters rc=⟨#[]⟩:=by unfold q7A;rw [if_neg hC]
    by_cases hC0:0≤rc
    ·conv=>whnf
     refine⟨fun _=>?_,fun hx=>absurd (((decide_eq_true hC0)).symm.trans hx) (by decide)⟩
     repeat((conv=>whnf);first|apply qza|apply qzb|apply qzc|apply qzd|apply qze|intro(_:Nat)|intro(_:OA)_)
     conv=>whnf
     refine⟨fun hx=>absurd (hx.symm.trans ((decide_eq_false (show ¬ rc<s.clusters.length from fun h=>hC ⟨hC0,h⟩)))) (by decide),fun _=>?_⟩
     repeat((conv=>whnf);first|apply qza|apply qzb|apply qzc|apply qzd|apply qze|intro(_:Nat)|intro(_:OA)_)
     conv=>whnf
     refine⟨⟨by unfold maxLen;omega,by omega⟩,fun oa2 cap2=>?_⟩
     repeat((conv=>whnf);first|apply qza|apply qzb|apply qzc|apply qzd|apply qze|intro(_:Nat)|intro(_:OA)_)
     conv=>whnf
     refine fun fr w hw=>⟨(k+1,oa2,cap2),congrArg (fun z=>[Value.int .i64 z]) (wr1 h' b1 b2).symm,h',dec h',hw.fit ?_⟩
     simp only [hT]
     simp [fitL,Res.eqv,qAA,conc,quA,hAn,hCn]
    ·conv=>whnf
     refine⟨fun hx=>absurd (hx.symm.trans ((decide_eq_false hC0))) (by decide),fun _=>?_⟩
     repeat((conv=>whnf);first|apply qza|apply qzb|apply qzc|apply qzd|apply qze|intro(_:Nat)|intro(_:OA)_)
     conv=>whnf
     refine⟨⟨by unfold maxLen;omega,by omega⟩,fun oa2 cap2=>?_⟩
     repeat((conv=>whnf);first|apply qza|apply qzb|apply qzc|apply qzd|apply qze|intro(_:Nat)|intro(_:OA)_)
     conv=>whnf
     refine fun fr w hw=>⟨(k+1,oa2,cap2),congrArg (fun z=>[Value.int .i64 z]) (wr1 h' b1 b2).symm,h',dec h',hw.fit ?_⟩
     simp only [hT]
     simp [fitL,Res.eqv,qAA,conc,quA,hAn,hCn]
   ·conv=>whnf
    refine⟨fun hx=>absurd (hx.symm.trans ((decide_eq_false hA0))) (by decide),fun _=>?_⟩
    repeat((conv=>whnf);first|apply qza|apply qzb|apply qzc|apply qzd|apply qze|intro(_:Nat)|intro(_:OA)_)
    by_cases hC:0≤rc∧rc<s.clusters.length
    ·obtain⟨m,rfl⟩:=Int.eq_ofNat_of_zero_le hC.1
     obtain⟨z,hz⟩:=qBA (show m<s.clusters.length by omega)
     obtain⟨aC,rfl,ecC,hecC,⟨hv,rfl,_,_,_,_,rfl,_⟩,hcC⟩:=hk1 m z hz
     have hCn:q7A s.clusters (m:Int)=z.name:=by unfold q7A;rw [if_pos hC];simp [hz]
     conv=>whnf
     refine⟨fun _=>?_,fun hx=>absurd (((decide_eq_true hC.1)).symm.trans hx) (by decide)⟩
     repeat((conv=>whnf);first|apply qza|apply qzb|apply qzc|apply qzd|apply qze|intro(_:Nat)|intro(_:OA)_)
     conv=>whnf
     refine⟨fun _=>?_,fun hx=>absurd (((decide_eq_true hC.2)).symm.trans hx) (by decide)⟩
     repeat((conv=>whnf);first|apply qza|apply qzb|apply qzc|apply qzd|apply qze|intro(_:Nat)|intro(_:OA)_)
     conv=>whnf
     refine⟨aC,rfl,⟨hC.1,hC.2⟩,?_⟩
     conv=>whnf
     refine⟨_,hcC 0 _ rfl,?_⟩
     repeat((conv=>whnf);first|apply qza|apply qzb|apply qzc|apply qzd|apply qze|intro(_:Nat)|intro(_:OA)_)
     conv=>whnf
     refine⟨⟨by unfold maxLen;omega,by omega⟩,fun oa2 cap2=>?_⟩
     repeat((conv=>whnf);first|apply qza|apply qzb|apply qzc|apply qzd|apply qze|intro(_:Nat)|intro(_:OA)_)
     conv=>whnf
     refine fun fr w hw=>⟨(k+1,oa2,cap2),congrArg (fun z=>[Value.int .i64 z]) (wr1 h' b1 b2).symm,h',dec h',hw.fit ?_⟩
     simp only [hT]
     simp [fitL,Res.eqv,qAA,conc,quA,hAn,hCn]
    have hCn:q7A s.clusters rc=⟨#[]⟩:=by unfold q7A;rw [if_neg hC]
    by_cases hC0:0≤rc
    ·conv=>whnf
     refine⟨fun _=>?_,fun hx=>absurd (((decide_eq_true hC0)).symm.trans hx) (by decide)⟩
     repeat((conv=>whnf);first|apply qza|apply qzb|apply qzc|apply qzd|apply qze|intro(_:Nat)|intro(_:OA)_)
     conv=>whnf
     refine⟨fun hx=>absurd (hx.symm.trans ((decide_eq_false (show ¬ rc<s.clusters.length from fun h=>hC ⟨hC0,h⟩)))) (by decide),fun _=>?_⟩
     repeat((conv=>whnf);first|apply qza|apply qzb|apply qzc|apply qzd|apply qze|intro(_:Nat)|intro(_:OA)_)
     conv=>whnf
     refine⟨⟨by unfold maxLen;omega,by omega⟩,fun oa2 cap2=>?_⟩
     repeat((conv=>whnf);first|apply qza|apply qzb|apply qzc|apply qzd|apply qze|intro(_:Nat)|intro(_:OA)_)
     conv=>whnf
     refine fun fr w hw=>⟨(k+1,oa2,cap2),congrArg (fun z=>[Value.int .i64 z]) (wr1 h' b1 b2).symm,h',dec h',hw.fit ?_⟩
     simp only [hT]
     simp [fitL,Res.eqv,qAA,conc,quA,hAn,hCn]
    ·conv=>whnf
     refine⟨fun hx=>absurd (hx.symm.trans ((decide_eq_false hC0))) (by decide),fun _=>?_⟩
     repeat((conv=>whnf);first|apply qza|apply qzb|apply qzc|apply qzd|apply qze|intro(_:Nat)|intro(_:OA)_)
     conv=>whnf
     refine⟨⟨by unfold maxLen;omega,by omega⟩,fun oa2 cap2=>?_⟩
     repeat((conv=>whnf);first|apply qza|apply qzb|apply qzc|apply qzd|apply qze|intro(_:Nat)|intro(_:OA)_)
     conv=>whnf
     refine fun fr w hw=>⟨(k+1,oa2,cap2),congrArg (fun z=>[Value.int .i64 z]) (wr1 h' b1 b2).symm,h',dec h',hw.fit ?_⟩
     simp only [hT]
     simp [fitL,Res.eqv,qAA,conc,quA,hAn,hCn]
  have hz1:k=s.rules.length:=by have:=of_decide_eq_false hlt;omega
  subst hz1
  repeat((conv=>whnf);first|apply qza|apply qzb|apply qzc|apply qzd|apply qze|intro(_:Nat)|intro(_:OA)_)
  conv=>whnf
  refine fun g1 hg1 hn1 hp1=>?_
  conv=>whnf
  intro g2 hg
  refine⟨_,_,_,rfl,(qNJ hp1.rd (qIC s).routes qgS ?_ (by simp [qIC]) (fun _ _=>rfl) fun _ _=>rfl).mono qeH hg⟩
  rw [List.take_of_length_le (Nat.le_refl _)];simp [qIC,List.map_map,Function.comp_def])
/- What is the same. -/
open Go.Proofs.YtkogfpniapaigaaGreat.Sx Go.RowKit
theorem qTM {α:Type} {l m:List α} {k:Nat} {x y:α} (h:l.take k=m.take k) (hx:l[k]?=some x) (hy:m[k]?=some y) (e:x=y):l.take (k+1)=m.take (k+1):=by
 obtain⟨h1,h2⟩:=List.getElem?_eq_some_iff.1 hx
 obtain⟨h3,h4⟩:=List.getElem?_eq_some_iff.1 hy
 rw [List.take_succ_eq_append_getElem h1,List.take_succ_eq_append_getElem h3,h,h2,h4,e]
theorem q2S {a b:Snap} (h1:a.listens=b.listens) (h2:a.rules=b.rules) (h3:a.clusters=b.clusters):a=b:=by
 cases a;cases b;simp_all
theorem q4N (g:GW) {v v':Value} {l m:List BA} (hl:rSl 1 rStr g v l) (hm':rSl 1 rStr g v' m):OkV Tryz.prog qIE [v,v'] g (.bool (eqB l m)):=by
 obtain⟨oa,ca,rfl,a1,a2,a0,hl1⟩:=id hl
 obtain⟨ob,cb,rfl,b1,b2,b0,hr1⟩:=id hm'
 exact Ok.of_fn hm noT 0 q5D (args:=[.v (.slice oa l.length ca),.v (.slice ob m.length cb)]) (by
  repeat((conv=>whnf);first|apply qza|apply qzb|apply qzc|apply qzd|apply qze|intro(_:Nat))
  conv=>whnf
  refine⟨fun k3=>?_,fun k3=>?_⟩
  ·conv=>whnf
   intro g2 hg
   rw [quL (fun e=>by rw [e] at k3;simp at k3)]
  have k3:l.length=m.length:=by simp at k3;omega
  repeat((conv=>whnf);first|apply qza|apply qzb|apply qzc|apply qzd|apply qze|intro(_:Nat))
  conv=>whnf
  refine⟨Nat,fun k=>[.v (.int .i64 k)],fun _=>⟨g,[],_,_⟩,fun k=>k≤l.length∧l.take k=m.take k,fun k=>l.length-k,qDA 0 rfl ⟨Nat.zero_le _,rfl⟩ rfl,?_⟩
  rintro k ⟨hkk,hp⟩
  repeat((conv=>whnf);first|apply qza|apply qzb|apply qzc|apply qzd|apply qze|intro(_:Nat))
  conv=>whnf
  refine⟨fun hlt=>?_,fun hlt=>?_⟩
  ·have h':k<l.length:=by have:=of_decide_eq_true hlt;omega
   obtain⟨u,hu⟩:=qBA h'
   obtain⟨v,hv⟩:=qBA (show k<m.length by omega)
   obtain⟨a,rfl,ec,hec,rfl,hc⟩:=hl1 k u hu
   obtain⟨a',rfl,ec',hec',rfl,hc'⟩:=hr1 k v hv
   repeat((conv=>whnf);first|apply qza|apply qzb|apply qzc|apply qzd|apply qze|intro(_:Nat))
   conv=>whnf
   refine⟨a,rfl,⟨by omega,by omega⟩,?_⟩
   conv=>whnf
   refine⟨_,hc 0 _ rfl,?_⟩
   repeat((conv=>whnf);first|apply qza|apply qzb|apply qzc|apply qzd|apply qze|intro(_:Nat))
   conv=>whnf
   refine⟨a',rfl,⟨by omega,by omega⟩,?_⟩
   conv=>whnf
   refine⟨_,hc' 0 _ rfl,?_⟩
   repeat((conv=>whnf);first|apply qza|apply qzb|apply qzc|apply qzd|apply qze|intro(_:Nat))
   conv=>whnf
   refine⟨fun he=>?_,fun he=>?_⟩
   ·conv=>whnf
    intro g2 hg
    rw [quL (fun e=>?_)]
    rw [← e,hu] at hv
    cases hv
    simp at he
   ·have huv:u=v:=qSL (by simpa using he)
    conv=>whnf
    refine fun fr w hw=>⟨k+1,congrArg (fun z=>[Value.int .i64 z]) (wr1 h' a1 a2).symm,⟨h',qTM hp hu hv huv⟩,dec h',hw⟩
  ·conv=>whnf
   intro g2 hg
   have:=of_decide_eq_false hlt
   rw [List.take_of_length_le (by omega),List.take_of_length_le (by omega)] at hp
   rw [qOK hp])
theorem qvK (g:GW) {v v':Value} {l m:List Cluster} (hl:rSl 4 qAC g v l) (hm':rSl 4 qAC g v' m):OkV Tryz.prog qVD [v,v'] g (.bool (eqB l m)):=by
 obtain⟨oa,ca,rfl,a1,a2,a0,hl1⟩:=id hl
 obtain⟨ob,cb,rfl,b1,b2,b0,hr1⟩:=id hm'
 exact Ok.of_fn hm noT 0 qOD (args:=[.v (.slice oa l.length ca),.v (.slice ob m.length cb)]) (by
  repeat((conv=>whnf);first|apply qza|apply qzb|apply qzc|apply qzd|apply qze|intro(_:Nat))
  conv=>whnf
  refine⟨fun k3=>?_,fun k3=>?_⟩
  ·conv=>whnf
   intro g2 hg
   rw [quL (fun e=>by rw [e] at k3;simp at k3)]
  have k3:l.length=m.length:=by simp at k3;omega
  repeat((conv=>whnf);first|apply qza|apply qzb|apply qzc|apply qzd|apply qze|intro(_:Nat))
  conv=>whnf
  refine⟨Nat,fun k=>[.v (.int .i64 k)],fun _=>⟨g,[],_,_⟩,fun k=>k≤l.length∧l.take k=m.take k,fun k=>l.length-k,qDA 0 rfl ⟨Nat.zero_le _,rfl⟩ rfl,?_⟩
  rintro k ⟨hkk,hp⟩
  repeat((conv=>whnf);first|apply qza|apply qzb|apply qzc|apply qzd|apply qze|intro(_:Nat))
  conv=>whnf
  refine⟨fun hlt=>?_,fun hlt=>?_⟩
  rotate_left
  ·conv=>whnf
   intro g2 hg
   have:=of_decide_eq_false hlt
   rw [List.take_of_length_le (by omega),List.take_of_length_le (by omega)] at hp
   rw [qOK hp]
  have h':k<l.length:=by have:=of_decide_eq_true hlt;omega
  obtain⟨u,hu⟩:=qBA h'
  obtain⟨v,hv⟩:=qBA (show k<m.length by omega)
  obtain⟨a,rfl,ec,hec,⟨hvu,rfl,_,_,ohu,chu,rfl,q1,q2,q0,hq⟩,hc⟩:=hl1 k u hu
  obtain⟨a',rfl,ec',hec',⟨hvv,rfl,_,_,ohv,chv,rfl,r1,r2,r0,hr⟩,hc'⟩:=hr1 k v hv
  have ne:u≠v→eqB l m=false:=fun h=>quL fun e=>h (by rw [e,hv] at hu;cases hu;rfl)
  repeat((conv=>whnf);first|apply qza|apply qzb|apply qzc|apply qzd|apply qze|intro(_:Nat))
  conv=>whnf
  refine⟨a,rfl,⟨by omega,by omega⟩,?_⟩
  conv=>whnf
  refine⟨_,hc 0 _ rfl,?_⟩
  repeat((conv=>whnf);first|apply qza|apply qzb|apply qzc|apply qzd|apply qze|intro(_:Nat))
  conv=>whnf
  refine⟨a',rfl,⟨by omega,by omega⟩,?_⟩
  conv=>whnf
  refine⟨_,hc' 0 _ rfl,?_⟩
  repeat((conv=>whnf);first|apply qza|apply qzb|apply qzc|apply qzd|apply qze|intro(_:Nat))
  conv=>whnf
  refine⟨fun c0=>?_,fun c0=>?_⟩
  ·conv=>whnf
   intro g2 hg
   rw [ne fun e=>by subst e;simp at c0]
  repeat((conv=>whnf);first|apply qza|apply qzb|apply qzc|apply qzd|apply qze|intro(_:Nat))
  conv=>whnf
  refine⟨a,rfl,⟨by omega,by omega⟩,?_⟩
  conv=>whnf
  refine⟨_,hc 1 _ rfl,?_⟩
  repeat((conv=>whnf);first|apply qza|apply qzb|apply qzc|apply qzd|apply qze|intro(_:Nat))
  conv=>whnf
  refine⟨a',rfl,⟨by omega,by omega⟩,?_⟩
  conv=>whnf
  refine⟨_,hc' 1 _ rfl,?_⟩
  repeat((conv=>whnf);first|apply qza|apply qzb|apply qzc|apply qzd|apply qze|intro(_:Nat))
  conv=>whnf
  refine⟨fun c1=>?_,fun c1=>?_⟩
  ·conv=>whnf
   intro g2 hg
   rw [ne fun e=>by subst e;simp at c1]
  repeat((conv=>whnf);first|apply qza|apply qzb|apply qzc|apply qzd|apply qze|intro(_:Nat))
  conv=>whnf
  refine⟨a,rfl,⟨by omega,by omega⟩,?_⟩
  conv=>whnf
  refine⟨_,hc 2 _ rfl,?_⟩
  repeat((conv=>whnf);first|apply qza|apply qzb|apply qzc|apply qzd|apply qze|intro(_:Nat))
  conv=>whnf
  refine⟨a',rfl,⟨by omega,by omega⟩,?_⟩
  conv=>whnf
  refine⟨_,hc' 2 _ rfl,?_⟩
  repeat((conv=>whnf);first|apply qza|apply qzb|apply qzc|apply qzd|apply qze|intro(_:Nat))
  conv=>whnf
  refine⟨fun c2=>?_,fun c2=>?_⟩
  ·conv=>whnf
   intro g2 hg
   rw [ne fun e=>by subst e;simp at c2]
  repeat((conv=>whnf);first|apply qza|apply qzb|apply qzc|apply qzd|apply qze|intro(_:Nat))
  conv=>whnf
  refine⟨a,rfl,⟨by omega,by omega⟩,?_⟩
  conv=>whnf
  refine⟨_,hc 3 _ rfl,?_⟩
  repeat((conv=>whnf);first|apply qza|apply qzb|apply qzc|apply qzd|apply qze|intro(_:Nat))
  conv=>whnf
  refine⟨a',rfl,⟨by omega,by omega⟩,?_⟩
  conv=>whnf
  refine⟨_,hc' 3 _ rfl,?_⟩
  repeat((conv=>whnf);first|apply qza|apply qzb|apply qzc|apply qzd|apply qze|intro(_:Nat))
  conv=>whnf
  refine⟨fun c3=>?_,fun c3=>?_⟩
  ·conv=>whnf
   intro g2 hg
   rw [ne fun e=>by subst e;simp at c3]
  have d0:u.name=v.name:=qSL (by simpa using c0)
  have d1:u.policy=v.policy:=by simpa using c1
  have d2:u.slots=v.slots:=by simpa using c2
  have d3:u.health.length=v.health.length:=by simp at c3;omega
  clear c0 c1 c2 c3
  repeat((conv=>whnf);first|apply qza|apply qzb|apply qzc|apply qzd|apply qze|intro(_:Nat))
  conv=>whnf
  refine⟨Nat,fun n=>[.v (.int .i64 n)],fun _=>⟨g,[],_,_⟩,fun n=>n≤u.health.length∧u.health.take n=v.health.take n,fun n=>u.health.length-n,qDA 0 rfl ⟨Nat.zero_le _,rfl⟩ rfl,?_⟩
  rintro n ⟨hnn,hpn⟩
  repeat((conv=>whnf);first|apply qza|apply qzb|apply qzc|apply qzd|apply qze|intro(_:Nat))
  conv=>whnf
  refine⟨a,rfl,⟨by omega,by omega⟩,?_⟩
  conv=>whnf
  refine⟨_,hc 3 _ rfl,?_⟩
  repeat((conv=>whnf);first|apply qza|apply qzb|apply qzc|apply qzd|apply qze|intro(_:Nat))
  conv=>whnf
  refine⟨fun hltn=>?_,fun hltn=>?_⟩
  ·have hn':n<u.health.length:=by have:=of_decide_eq_true hltn;omega
   obtain⟨p,hp'⟩:=qBA hn'
   obtain⟨q,hq'⟩:=qBA (show n<v.health.length by omega)
   obtain⟨aa,rfl,ecc,hecc,rfl,hcc⟩:=hq n p hp'
   obtain⟨aa',rfl,ecc',hecc',rfl,hcc'⟩:=hr n q hq'
   conv=>whnf
   refine⟨a,rfl,⟨by omega,by omega⟩,?_⟩
   conv=>whnf
   refine⟨_,hc 3 _ rfl,?_⟩
   repeat((conv=>whnf);first|apply qza|apply qzb|apply qzc|apply qzd|apply qze|intro(_:Nat))
   conv=>whnf
   refine⟨aa,rfl,⟨by omega,by omega⟩,?_⟩
   conv=>whnf
   refine⟨_,hcc 0 _ rfl,?_⟩
   repeat((conv=>whnf);first|apply qza|apply qzb|apply qzc|apply qzd|apply qze|intro(_:Nat))
   conv=>whnf
   refine⟨a',rfl,⟨by omega,by omega⟩,?_⟩
   conv=>whnf
   refine⟨_,hc' 3 _ rfl,?_⟩
   repeat((conv=>whnf);first|apply qza|apply qzb|apply qzc|apply qzd|apply qze|intro(_:Nat))
   conv=>whnf
   refine⟨aa',rfl,⟨by omega,by omega⟩,?_⟩
   conv=>whnf
   refine⟨_,hcc' 0 _ rfl,?_⟩
   repeat((conv=>whnf);first|apply qza|apply qzb|apply qzc|apply qzd|apply qze|intro(_:Nat))
   conv=>whnf
   refine⟨fun he=>?_,fun he=>?_⟩
   ·conv=>whnf
    intro g2 hg
    rw [ne fun e=>?_]
    subst e
    rw [hp'] at hq'
    cases hq'
    simp at he
   ·conv=>whnf
    refine fun fr w hw=>⟨n+1,congrArg (fun z=>[Value.int .i64 z]) (wr1 hn' q1 q2).symm,⟨hn',qTM hpn hp' hq' (by simpa using he)⟩,dec hn',hw⟩
  have huv:u=v:=qvP d0 d1 d2 (by
   have:=of_decide_eq_false hltn
   rwa [List.take_of_length_le (by omega),List.take_of_length_le (by omega)] at hpn)
  conv=>whnf
  refine fun fr w hw=>⟨k+1,congrArg (fun z=>[Value.int .i64 z]) (wr1 h' a1 a2).symm,⟨h',qTM hp hu hv huv⟩,dec h',hw⟩)
theorem qAS (g:GW) {cs cs':List Value} {x y:Snap} (hx:qnF g cs x) (hy:qnF g cs' y):OkV Tryz.prog qWD [.agg ⟨cs⟩,.agg ⟨cs'⟩] g (.bool (eqB x y)):=by
 obtain⟨a,b,d,rfl,hl,hr,hk⟩:=hx
 obtain⟨a',b',d',rfl,hl',hr',hk'⟩:=hy
 obtain⟨oa,ca,rfl,a1,a2,a0,hl1⟩:=id hl
 obtain⟨ob,cb,rfl,b1,b2,b0,hr1⟩:=id hr
 obtain⟨od,cd,rfl,d1,d2,d0,hk1⟩:=id hk
 obtain⟨oe,ce,rfl,e1,e2,e0,hl1'⟩:=id hl'
 obtain⟨og,cg,rfl,f1,f2,f0,hr1'⟩:=id hr'
 obtain⟨oh,ch,rfl,g1,g2,g0,hk1'⟩:=id hk'
 exact Ok.of_fn hm noT 0 qWH (args:=[.v (.agg ⟨[.slice oa x.listens.length ca,.slice ob x.rules.length cb,.slice od x.clusters.length cd]⟩),.v (.agg ⟨[.slice oe y.listens.length ce,.slice og y.rules.length cg,.slice oh y.clusters.length ch]⟩)]) (by
  repeat((conv=>whnf);first|apply qza|apply qzb|apply qzc|apply qzd|apply qze|intro(_:Nat))
  conv=>whnf
  refine .inl ⟨_,q4N _ hl hl',?_⟩
  conv=>whnf
  refine⟨fun k1=>?_,fun k1=>?_⟩
  ·conv=>whnf
   intro g2 hg
   rw [quL (fun e=>by rw [e,qOK rfl] at k1;cases k1)]
  have k1:=eqB_iff.1 (nb0 k1)
  repeat((conv=>whnf);first|apply qza|apply qzb|apply qzc|apply qzd|apply qze|intro(_:Nat))
  conv=>whnf
  refine .inl ⟨_,qvK _ hk hk',?_⟩
  conv=>whnf
  refine⟨fun k2=>?_,fun k2=>?_⟩
  ·conv=>whnf
   intro g2 hg
   rw [quL (fun e=>by rw [e,qOK rfl] at k2;cases k2)]
  have k2:=eqB_iff.1 (nb0 k2)
  repeat((conv=>whnf);first|apply qza|apply qzb|apply qzc|apply qzd|apply qze|intro(_:Nat))
  conv=>whnf
  refine⟨fun k3=>?_,fun k3=>?_⟩
  ·conv=>whnf
   intro g2 hg
   rw [quL (fun e=>by rw [e] at k3;simp at k3)]
  have k3:x.rules.length=y.rules.length:=by simp at k3;omega
  repeat((conv=>whnf);first|apply qza|apply qzb|apply qzc|apply qzd|apply qze|intro(_:Nat))
  conv=>whnf
  refine⟨Nat,fun k=>[.v (.int .i64 k)],fun _=>⟨g,[.blk 1 _ _ [.v (.slice oe y.listens.length ce),.v (.slice og y.rules.length cg),.v (.slice oh y.clusters.length ch)],.blk 0 _ _ [.v (.slice oa x.listens.length ca),.v (.slice ob x.rules.length cb),.v (.slice od x.clusters.length cd)]],_,_⟩,fun k=>k≤x.rules.length∧x.rules.take k=y.rules.take k,fun k=>x.rules.length-k,qDA 0 rfl ⟨Nat.zero_le _,rfl⟩ rfl,?_⟩
  rintro k ⟨hkk,hp⟩
  repeat((conv=>whnf);first|apply qza|apply qzb|apply qzc|apply qzd|apply qze|intro(_:Nat))
  conv=>whnf
  refine⟨fun hlt=>?_,fun hlt=>?_⟩
  ·have h':k<x.rules.length:=by have:=of_decide_eq_true hlt;omega
   obtain⟨u,hu⟩:=qBA h'
   obtain⟨v,hv⟩:=qBA (show k<y.rules.length by omega)
   obtain⟨a,rfl,ec,hec,⟨rfl,_,_⟩,hc⟩:=hr1 k u hu
   obtain⟨a',rfl,ec',hec',⟨rfl,_,_⟩,hc'⟩:=hr1' k v hv
   repeat((conv=>whnf);first|apply qza|apply qzb|apply qzc|apply qzd|apply qze|intro(_:Nat))
   conv=>whnf
   refine⟨a,rfl,⟨by omega,by omega⟩,?_⟩
   conv=>whnf
   refine⟨_,⟨rfl,hc⟩,?_⟩
   repeat((conv=>whnf);first|apply qza|apply qzb|apply qzc|apply qzd|apply qze|intro(_:Nat))
   conv=>whnf
   refine⟨a',rfl,⟨by omega,by omega⟩,?_⟩
   conv=>whnf
   refine⟨_,⟨rfl,hc'⟩,?_⟩
   repeat((conv=>whnf);first|apply qza|apply qzb|apply qzc|apply qzd|apply qze|intro(_:Nat))
   conv=>whnf
   refine⟨fun he=>?_,fun he=>?_⟩
   ·conv=>whnf
    intro g2 hg
    rw [quL (fun e=>?_)]
    rw [← e,hu] at hv
    cases hv
    simp at he
   ·have huv:u=v:=by simp only [Bool.and_eq_true,beq_iff_eq,Bool.not_eq_false'] at he;exact q4S (by simpa using he.1) (qSL (by simpa using he.2.1)) (qSL (by simpa using he.2.2.1)) (by simpa using he.2.2.2)
    conv=>whnf
    refine fun fr w hw=>⟨k+1,congrArg (fun z=>[Value.int .i64 z]) (wr1 h' b1 b2).symm,⟨h',qTM hp hu hv huv⟩,dec h',?_⟩
    exact hw.fit (by simp [fitL,Res.eqv,qAA,conc])
  ·conv=>whnf
   intro g2 hg
   have:=of_decide_eq_false hlt
   rw [qOK (show x=y from ?_)]
   rw [List.take_of_length_le (by omega),List.take_of_length_le (by omega)] at hp
   exact q2S k1 hp k2)
/- Snapshots: the document's building;whether one is right;what is found. -/
open Go.Proofs.YtkogfpniapaigaaGreat.Sx Go.RowKit
theorem q5R (g:GW) {a b d:Value} {c:Config} (hc:qcA g [a,b,d] c) (hsm:SmC c):Ok Tryz.prog qmG [.agg ⟨[a,b,d]⟩] g (quS g c a d):=by
 have hc0:=hc
 obtain⟨_,_,_,he,hl,hr,hk⟩:=hc
 cases he
 obtain⟨oa,ca,rfl,a1,a2,a0,hl1⟩:=id hl
 obtain⟨ob,cb,rfl,b1,b2,b0,hr1⟩:=id hr
 obtain⟨od,cd,rfl,d1,d2,d0,hk1⟩:=id hk
 exact Ok.of_fn hm noT 0 qXG (args:=[.v (.agg ⟨[.slice oa c.listens.length ca,.slice ob c.routes.length cb,.slice od c.clusters.length cd]⟩)]) (by
  rcases qAG (qHA c) with ⟨hz,hv⟩|⟨e,i,hz,hv⟩
  rotate_left
  ·have hne:=q8A hz
   repeat((conv=>whnf);first|apply qza|apply qzb|apply qzc|apply qzd|apply qze|intro(_:Nat)|intro(_:OA)_)
   conv=>whnf
   refine .inl ⟨_,(qdI _ hc0 hsm).to hv,?_⟩
   conv=>whnf
   refine⟨fun _=>?_,fun hx=>absurd hx (by simp;omega)⟩
   repeat((conv=>whnf);first|apply qza|apply qzb|apply qzc|apply qzd|apply qze|intro(_:Nat)|intro(_:OA)_)
   conv=>whnf
   intro g2 hg
   exact .inr ⟨e,i,hz,rfl⟩
  have G:=good_iff.1 hz
  have hsz:=G.size
  repeat((conv=>whnf);first|apply qza|apply qzb|apply qzc|apply qzd|apply qze|intro(_:Nat)|intro(_:OA)_)
  conv=>whnf
  refine .inl ⟨_,(qdI _ hc0 hsm).to hv,?_⟩
  conv=>whnf
  refine⟨fun h=>(nomatch h),fun _=>?_⟩
  repeat((conv=>whnf);first|apply qza|apply qzb|apply qzc|apply qzd|apply qze|intro(_:Nat)|intro(_:OA)_)
  rename_i p0 p1 _ p2
  conv=>whnf
  refine⟨Nat×Option Addr×Nat,fun (k,_,_)=>[.v (.int .i64 k)],fun (k,oR,cR)=>⟨g,[.row 10 oR k cR qkC 4 ((c.routes.take k).map (cRul c)).flatten,.blk 2 p2 qPA [.v (.slice oa c.listens.length ca),.row 10 oR k cR,.v (.slice od c.clusters.length cd)],.blk 1 p1 qPA [.v (.slice none 0 0),.v (.slice none 0 0),.v (.slice none 0 0)],.blk 0 p0 qtA [.v (.slice oa c.listens.length ca),.v (.slice ob c.routes.length cb),.v (.slice od c.clusters.length cd)]],40,g.w.heap.size⟩,fun (k,_,_)=>k≤c.routes.length,fun (k,_,_)=>c.routes.length-k,?_,?_⟩
  ·intro fr w hw
   exact⟨(0,none,0),rfl,Nat.zero_le _,(hw.nil_row (nx':=40) 10 qkC 4).fit (by simp [fitL,Res.eqv,qAA,conc])⟩
  rintro⟨k,oR,cR⟩ hkk
  have hkk:k≤c.routes.length:=hkk
  repeat((conv=>whnf);first|apply qza|apply qzb|apply qzc|apply qzd|apply qze|intro(_:Nat)|intro(_:OA)_)
  conv=>whnf
  refine⟨fun hlt=>?_,fun hlt=>?_⟩
  ·have h':k<c.routes.length:=by have:=of_decide_eq_true hlt;omega
   obtain⟨x,hx⟩:=qBA h'
   obtain⟨a,rfl,ec,hec,rfl,hc⟩:=hr1 k x hx
   have hT:=qPK (f:=cRul c) hx
   repeat((conv=>whnf);first|apply qza|apply qzb|apply qzc|apply qzd|apply qze|intro(_:Nat)|intro(_:OA)_)
   conv=>whnf
   refine⟨a,rfl,⟨by omega,by omega⟩,?_⟩
   conv=>whnf
   refine⟨_,⟨rfl,hc⟩,?_⟩
   repeat((conv=>whnf);first|apply qza|apply qzb|apply qzc|apply qzd|apply qze|intro(_:Nat)|intro(_:OA)_)
   conv=>whnf
   refine .inl ⟨_,q8N _ hl _,?_⟩
   repeat((conv=>whnf);first|apply qza|apply qzb|apply qzc|apply qzd|apply qze|intro(_:Nat)|intro(_:OA)_)
   conv=>whnf
   refine .inl ⟨_,q8L _ hk _,?_⟩
   repeat((conv=>whnf);first|apply qza|apply qzb|apply qzc|apply qzd|apply qze|intro(_:Nat)|intro(_:OA)_)
   conv=>whnf
   refine⟨⟨by unfold maxLen;omega,by omega⟩,fun oa2 cap2=>?_⟩
   repeat((conv=>whnf);first|apply qza|apply qzb|apply qzc|apply qzd|apply qze|intro(_:Nat)|intro(_:OA)_)
   conv=>whnf
   refine fun fr w hw=>⟨(k+1,oa2,cap2),congrArg (fun z=>[Value.int .i64 z]) (wr1 h' b1 b2).symm,h',dec h',hw.fit ?_⟩
   simp only [hT]
   simp [fitL,Res.eqv,qAA,conc,q1L]
  have hz1:k=c.routes.length:=by have:=of_decide_eq_false hlt;omega
  subst hz1
  repeat((conv=>whnf);first|apply qza|apply qzb|apply qzc|apply qzd|apply qze|intro(_:Nat)|intro(_:OA)_)
  conv=>whnf
  refine fun g1 hg1 hn1 hp1=>?_
  conv=>whnf
  intro g2 hg
  refine .inl ⟨hz,_,_,_,rfl,?_,fun x hx hg=>hn1 x hx hg⟩
  refine((qNJ hp1.rd (qaA c).rules qqU ?_ (by simp [qaA]) (fun _ _=>rfl) fun r hr=>?_).mono qOJ hg)
  ·rw [List.take_of_length_le (Nat.le_refl _)];simp [qaA,List.map_map,Function.comp_def]
  ·obtain⟨q,_,rfl⟩:=List.mem_map.1 hr
   exact⟨rfl,qGN (by omega),qGN (by omega)⟩)
theorem qsT (g:GW) {cs:List Value} {s:Snap} (hs:qnF g cs s) (hsz:s.rules.length≤1000000):OkV Tryz.prog qKS [.agg ⟨cs⟩] g (.bool (eqB (qHA (qIC s)) none)):=by
 have hs0:=hs
 obtain⟨a,b,d,rfl,hl,hr,hk⟩:=hs
 obtain⟨oa,ca,rfl,a1,a2,a0,hl1⟩:=id hl
 obtain⟨ob,cb,rfl,b1,b2,b0,hr1⟩:=id hr
 obtain⟨od,cd,rfl,d1,d2,d0,hk1⟩:=id hk
 exact Ok.of_fn hm noT 0 qZR (args:=[.v (.agg ⟨[.slice oa s.listens.length ca,.slice ob s.rules.length cb,.slice od s.clusters.length cd]⟩)]) (by
  repeat((conv=>whnf);first|apply qza|apply qzb|apply qzc|apply qzd|apply qze|intro(_:Nat))
  conv=>whnf
  refine .inr ((qDS g hs0 hsz).mono fun v g1 hg1 hC=>?_)
  obtain⟨oR,n,cR,rfl,hrt⟩:=hC
  have hcc:qcA g1 [.slice oa s.listens.length ca,.slice oR n cR,.slice od s.clusters.length cd] (qIC s):=⟨_,_,_,rfl,hl.mono qBE hg1,hrt,hk.mono qWC hg1⟩
  rcases qAG (qHA (qIC s)) with ⟨hz,hv⟩|⟨e,i,hz,hv⟩
  ·conv=>whnf
   refine .inl ⟨_,(qTK _ hcc).to hv,?_⟩
   conv=>whnf
   intro g2 hg
   rw [qOK hz];rfl
  ·have hne:=q8A hz
   conv=>whnf
   refine .inl ⟨_,(qTK _ hcc).to hv,?_⟩
   conv=>whnf
   intro g2 hg
   rw [quL (by rw [hz];simp)]
   exact congrArg Value.bool (by simp;omega))
end Go.Proofs.YtkogfpniapaigaaGreat
