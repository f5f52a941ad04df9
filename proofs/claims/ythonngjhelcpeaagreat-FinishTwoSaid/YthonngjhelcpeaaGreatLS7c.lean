/- What is the same. -/
import Derived.Test.YthonngjhelcpeaaGreatLK5b
import Derived.Test.YthonngjhelcpeaaGreatLB1
import Derived.Test.YthonngjhelcpeaaGreatPl
set_option linter.unusedVariables false
set_option linter.unusedSimpArgs false
namespace Go.Proofs.YthonngjhelcpeaaGreat
open Go.Proofs.YthonngjhelcpeaaGreat.Sx Go.RowKit
set_option maxHeartbeats 16000000
set_option maxRecDepth 100000
theorem qeL {α:Type} {l m:List α} {k:Nat} {x y:α} (h:l.take k=m.take k) (hx:l[k]?=some x) (hy:m[k]?=some y) (e:x=y):l.take (k+1)=m.take (k+1):=by
 obtain⟨h1,h2⟩:=List.getElem?_eq_some_iff.1 hx
 obtain⟨h3,h4⟩:=List.getElem?_eq_some_iff.1 hy
 rw [List.take_succ_eq_append_getElem h1,List.take_succ_eq_append_getElem h3,h,h2,h4,e]
theorem qrU {a b:Snap} (h1:a.listens=b.listens) (h2:a.rules=b.rules) (h3:a.clusters=b.clusters):a=b:=by
 cases a;cases b;simp_all
theorem qbP (g:GW) {v v':Value} {l m:List BA} (hl:rSl 1 rStr g v l) (hm':rSl 1 rStr g v' m):OkV Tryz.prog qkF [v,v'] g (.bool (eqB l m)):=by
 obtain⟨oa,ca,rfl,a1,a2,a0,hl1⟩:=id hl
 obtain⟨ob,cb,rfl,b1,b2,b0,hr1⟩:=id hm'
 exact Ok.of_fn hm noT 0 qaF (args:=[.v (.slice oa l.length ca),.v (.slice ob m.length cb)]) (by
  repeat((conv=>whnf);first|apply qza|apply qzb|apply qzc|apply qzd|apply qze|intro(_:Nat))
  conv=>whnf
  refine⟨fun k3=>?_,fun k3=>?_⟩
  ·conv=>whnf
   intro g2 hg
   rw [qaM (fun e=>by rw [e] at k3;simp at k3)]
  have k3:l.length=m.length:=by simp at k3;omega
  repeat((conv=>whnf);first|apply qza|apply qzb|apply qzc|apply qzd|apply qze|intro(_:Nat))
  conv=>whnf
  refine⟨Nat,fun k=>[.v (.int .i64 k)],fun _=>⟨g,[],_,_⟩,fun k=>k≤l.length∧l.take k=m.take k,fun k=>l.length-k,qJA 0 rfl ⟨Nat.zero_le _,rfl⟩ rfl,?_⟩
  rintro k ⟨hkk,hp⟩
  repeat((conv=>whnf);first|apply qza|apply qzb|apply qzc|apply qzd|apply qze|intro(_:Nat))
  conv=>whnf
  refine⟨fun hlt=>?_,fun hlt=>?_⟩
  ·have h':k<l.length:=by have:=of_decide_eq_true hlt;omega
   obtain⟨u,hu⟩:=qCA h'
   obtain⟨v,hv⟩:=qCA (show k<m.length by omega)
   obtain⟨a,rfl,ec,hec,rfl,hc⟩:=hl1 k u hu
   obtain⟨a',rfl,ec',hec',rfl,hc'⟩:=hr1 k v hv
   repeat((conv=>whnf);first|apply qza|apply qzb|apply qzc|apply qzd|apply qze|intro(_:Nat))
   conv=>whnf
   refine⟨a,rfl,⟨by omega,by omega⟩,?_⟩
   conv=>whnf
   refine⟨_,hc 0 _ rfl,?_⟩
   repeat((conv=>whnf);first|apply qza|apply qzb|apply qzc|apply qzd|apply qze|intro(_:Nat))
   conv=>whnf
   refine⟨a',rfl,⟨by omega,by omega⟩,?_⟩
   conv=>whnf
   refine⟨_,hc' 0 _ rfl,?_⟩
   repeat((conv=>whnf);first|apply qza|apply qzb|apply qzc|apply qzd|apply qze|intro(_:Nat))
   conv=>whnf
   refine⟨fun he=>?_,fun he=>?_⟩
   ·conv=>whnf
    intro g2 hg
    rw [qaM (fun e=>?_)]
    rw [← e,hu] at hv
    cases hv
    simp at he
   ·have huv:u=v:=qTQ (by simpa using he)
    conv=>whnf
    refine fun fr w hw=>⟨k+1,congrArg (fun z=>[Value.int .i64 z]) (wr1 h' a1 a2).symm,⟨h',qeL hp hu hv huv⟩,dec h',hw⟩
  ·conv=>whnf
   intro g2 hg
   have:=of_decide_eq_false hlt
   rw [List.take_of_length_le (by omega),List.take_of_length_le (by omega)] at hp
   rw [qGN hp])
theorem q2L (g:GW) {v v':Value} {l m:List Cluster} (hl:rSl 4 qlB g v l) (hm':rSl 4 qlB g v' m):OkV Tryz.prog qUE [v,v'] g (.bool (eqB l m)):=by
 obtain⟨oa,ca,rfl,a1,a2,a0,hl1⟩:=id hl
 obtain⟨ob,cb,rfl,b1,b2,b0,hr1⟩:=id hm'
 exact Ok.of_fn hm noT 0 qOE (args:=[.v (.slice oa l.length ca),.v (.slice ob m.length cb)]) (by
  repeat((conv=>whnf);first|apply qza|apply qzb|apply qzc|apply qzd|apply qze|intro(_:Nat))
  conv=>whnf
  refine⟨fun k3=>?_,fun k3=>?_⟩
  ·conv=>whnf
   intro g2 hg
   rw [qaM (fun e=>by rw [e] at k3;simp at k3)]
  have k3:l.length=m.length:=by simp at k3;omega
  repeat((conv=>whnf);first|apply qza|apply qzb|apply qzc|apply qzd|apply qze|intro(_:Nat))
  conv=>whnf
  refine⟨Nat,fun k=>[.v (.int .i64 k)],fun _=>⟨g,[],_,_⟩,fun k=>k≤l.length∧l.take k=m.take k,fun k=>l.length-k,qJA 0 rfl ⟨Nat.zero_le _,rfl⟩ rfl,?_⟩
  rintro k ⟨hkk,hp⟩
  repeat((conv=>whnf);first|apply qza|apply qzb|apply qzc|apply qzd|apply qze|intro(_:Nat))
  conv=>whnf
  refine⟨fun hlt=>?_,fun hlt=>?_⟩
  rotate_left
  ·conv=>whnf
   intro g2 hg
   have:=of_decide_eq_false hlt
   rw [List.take_of_length_le (by omega),List.take_of_length_le (by omega)] at hp
   rw [qGN hp]
  have h':k<l.length:=by have:=of_decide_eq_true hlt;omega
  obtain⟨u,hu⟩:=qCA h'
  obtain⟨v,hv⟩:=qCA (show k<m.length by omega)
  obtain⟨a,rfl,ec,hec,⟨hvu,rfl,_,_,ohu,chu,rfl,q1,q2,q0,hq⟩,hc⟩:=hl1 k u hu
  obtain⟨a',rfl,ec',hec',⟨hvv,rfl,_,_,ohv,chv,rfl,r1,r2,r0,hr⟩,hc'⟩:=hr1 k v hv
  have ne:u≠v→eqB l m=false:=fun h=>qaM fun e=>h (by rw [e,hv] at hu;cases hu;rfl)
  repeat((conv=>whnf);first|apply qza|apply qzb|apply qzc|apply qzd|apply qze|intro(_:Nat))
  conv=>whnf
  refine⟨a,rfl,⟨by omega,by omega⟩,?_⟩
  conv=>whnf
  refine⟨_,hc 0 _ rfl,?_⟩
  repeat((conv=>whnf);first|apply qza|apply qzb|apply qzc|apply qzd|apply qze|intro(_:Nat))
  conv=>whnf
  refine⟨a',rfl,⟨by omega,by omega⟩,?_⟩
  conv=>whnf
  refine⟨_,hc' 0 _ rfl,?_⟩
  repeat((conv=>whnf);first|apply qza|apply qzb|apply qzc|apply qzd|apply qze|intro(_:Nat))
  conv=>whnf
  refine⟨fun c0=>?_,fun c0=>?_⟩
  ·conv=>whnf
   intro g2 hg
   rw [ne fun e=>by subst e;simp at c0]
  repeat((conv=>whnf);first|apply qza|apply qzb|apply qzc|apply qzd|apply qze|intro(_:Nat))
  conv=>whnf
  refine⟨a,rfl,⟨by omega,by omega⟩,?_⟩
  conv=>whnf
  refine⟨_,hc 1 _ rfl,?_⟩
  repeat((conv=>whnf);first|apply qza|apply qzb|apply qzc|apply qzd|apply qze|intro(_:Nat))
  conv=>whnf
  refine⟨a',rfl,⟨by omega,by omega⟩,?_⟩
  conv=>whnf
  refine⟨_,hc' 1 _ rfl,?_⟩
  repeat((conv=>whnf);first|apply qza|apply qzb|apply qzc|apply qzd|apply qze|intro(_:Nat))
  conv=>whnf
  refine⟨fun c1=>?_,fun c1=>?_⟩
  ·conv=>whnf
   intro g2 hg
   rw [ne fun e=>by subst e;simp at c1]
  repeat((conv=>whnf);first|apply qza|apply qzb|apply qzc|apply qzd|apply qze|intro(_:Nat))
  conv=>whnf
  refine⟨a,rfl,⟨by omega,by omega⟩,?_⟩
  conv=>whnf
  refine⟨_,hc 2 _ rfl,?_⟩
  repeat((conv=>whnf);first|apply qza|apply qzb|apply qzc|apply qzd|apply qze|intro(_:Nat))
  conv=>whnf
  refine⟨a',rfl,⟨by omega,by omega⟩,?_⟩
  conv=>whnf
  refine⟨_,hc' 2 _ rfl,?_⟩
  repeat((conv=>whnf);first|apply qza|apply qzb|apply qzc|apply qzd|apply qze|intro(_:Nat))
  conv=>whnf
  refine⟨fun c2=>?_,fun c2=>?_⟩
  ·conv=>whnf
   intro g2 hg
   rw [ne fun e=>by subst e;simp at c2]
  repeat((conv=>whnf);first|apply qza|apply qzb|apply qzc|apply qzd|apply qze|intro(_:Nat))
  conv=>whnf
  refine⟨a,rfl,⟨by omega,by omega⟩,?_⟩
  conv=>whnf
  refine⟨_,hc 3 _ rfl,?_⟩
  repeat((conv=>whnf);first|apply qza|apply qzb|apply qzc|apply qzd|apply qze|intro(_:Nat))
  conv=>whnf
  refine⟨a',rfl,⟨by omega,by omega⟩,?_⟩
  conv=>whnf
  refine⟨_,hc' 3 _ rfl,?_⟩
  repeat((conv=>whnf);first|apply qza|apply qzb|apply qzc|apply qzd|apply qze|intro(_:Nat))
  conv=>whnf
  refine⟨fun c3=>?_,fun c3=>?_⟩
  ·conv=>whnf
   intro g2 hg
   rw [ne fun e=>by subst e;simp at c3]
  have d0:u.name=v.name:=qTQ (by simpa using c0)
  have d1:u.policy=v.policy:=by simpa using c1
  have d2:u.slots=v.slots:=by simpa using c2
  have d3:u.health.length=v.health.length:=by simp at c3;omega
  clear c0 c1 c2 c3
  repeat((conv=>whnf);first|apply qza|apply qzb|apply qzc|apply qzd|apply qze|intro(_:Nat))
  conv=>whnf
  refine⟨Nat,fun n=>[.v (.int .i64 n)],fun _=>⟨g,[],_,_⟩,fun n=>n≤u.health.length∧u.health.take n=v.health.take n,fun n=>u.health.length-n,qJA 0 rfl ⟨Nat.zero_le _,rfl⟩ rfl,?_⟩
  rintro n ⟨hnn,hpn⟩
  repeat((conv=>whnf);first|apply qza|apply qzb|apply qzc|apply qzd|apply qze|intro(_:Nat))
  conv=>whnf
  refine⟨a,rfl,⟨by omega,by omega⟩,?_⟩
  conv=>whnf
  refine⟨_,hc 3 _ rfl,?_⟩
  repeat((conv=>whnf);first|apply qza|apply qzb|apply qzc|apply qzd|apply qze|intro(_:Nat))
  conv=>whnf
  refine⟨fun hltn=>?_,fun hltn=>?_⟩
  ·have hn':n<u.health.length:=by have:=of_decide_eq_true hltn;omega
   obtain⟨p,hp'⟩:=qCA hn'
   obtain⟨q,hq'⟩:=qCA (show n<v.health.length by omega)
   obtain⟨aa,rfl,ecc,hecc,rfl,hcc⟩:=hq n p hp'
   obtain⟨aa',rfl,ecc',hecc',rfl,hcc'⟩:=hr n q hq'
   conv=>whnf
   refine⟨a,rfl,⟨by omega,by omega⟩,?_⟩
   conv=>whnf
   refine⟨_,hc 3 _ rfl,?_⟩
   repeat((conv=>whnf);first|apply qza|apply qzb|apply qzc|apply qzd|apply qze|intro(_:Nat))
   conv=>whnf
   refine⟨aa,rfl,⟨by omega,by omega⟩,?_⟩
   conv=>whnf
   refine⟨_,hcc 0 _ rfl,?_⟩
   repeat((conv=>whnf);first|apply qza|apply qzb|apply qzc|apply qzd|apply qze|intro(_:Nat))
   conv=>whnf
   refine⟨a',rfl,⟨by omega,by omega⟩,?_⟩
   conv=>whnf
   refine⟨_,hc' 3 _ rfl,?_⟩
   repeat((conv=>whnf);first|apply qza|apply qzb|apply qzc|apply qzd|apply qze|intro(_:Nat))
   conv=>whnf
   refine⟨aa',rfl,⟨by omega,by omega⟩,?_⟩
   conv=>whnf
   refine⟨_,hcc' 0 _ rfl,?_⟩
   repeat((conv=>whnf);first|apply qza|apply qzb|apply qzc|apply qzd|apply qze|intro(_:Nat))
   conv=>whnf
   refine⟨fun he=>?_,fun he=>?_⟩
   ·conv=>whnf
    intro g2 hg
    rw [ne fun e=>?_]
    subst e
    rw [hp'] at hq'
    cases hq'
    simp at he
   ·conv=>whnf
    refine fun fr w hw=>⟨n+1,congrArg (fun z=>[Value.int .i64 z]) (wr1 hn' q1 q2).symm,⟨hn',qeL hpn hp' hq' (by simpa using he)⟩,dec hn',hw⟩
  have huv:u=v:=qeR d0 d1 d2 (by
   have:=of_decide_eq_false hltn
   rwa [List.take_of_length_le (by omega),List.take_of_length_le (by omega)] at hpn)
  conv=>whnf
  refine fun fr w hw=>⟨k+1,congrArg (fun z=>[Value.int .i64 z]) (wr1 h' a1 a2).symm,⟨h',qeL hp hu hv huv⟩,dec h',hw⟩)
theorem qMW (g:GW) {cs cs':List Value} {x y:Snap} (hx:qmJ g cs x) (hy:qmJ g cs' y):OkV Tryz.prog qAJ [.agg ⟨cs⟩,.agg ⟨cs'⟩] g (.bool (eqB x y)):=by
 obtain⟨a,b,d,rfl,hl,hr,hk⟩:=hx
 obtain⟨a',b',d',rfl,hl',hr',hk'⟩:=hy
 obtain⟨oa,ca,rfl,a1,a2,a0,hl1⟩:=id hl
 obtain⟨ob,cb,rfl,b1,b2,b0,hr1⟩:=id hr
 obtain⟨od,cd,rfl,d1,d2,d0,hk1⟩:=id hk
 obtain⟨oe,ce,rfl,e1,e2,e0,hl1'⟩:=id hl'
 obtain⟨og,cg,rfl,f1,f2,f0,hr1'⟩:=id hr'
 obtain⟨oh,ch,rfl,g1,g2,g0,hk1'⟩:=id hk'
 exact Ok.of_fn hm noT 0 qrI (args:=[.v (.agg ⟨[.slice oa x.listens.length ca,.slice ob x.rules.length cb,.slice od x.clusters.length cd]⟩),.v (.agg ⟨[.slice oe y.listens.length ce,.slice og y.rules.length cg,.slice oh y.clusters.length ch]⟩)]) (by
  repeat((conv=>whnf);first|apply qza|apply qzb|apply qzc|apply qzd|apply qze|intro(_:Nat))
  conv=>whnf
  refine .inl ⟨_,qbP _ hl hl',?_⟩
  conv=>whnf
  refine⟨fun k1=>?_,fun k1=>?_⟩
  ·conv=>whnf
   intro g2 hg
   rw [qaM (fun e=>by rw [e,qGN rfl] at k1;cases k1)]
  have k1:=eqB_iff.1 (nb0 k1)
  repeat((conv=>whnf);first|apply qza|apply qzb|apply qzc|apply qzd|apply qze|intro(_:Nat))
  conv=>whnf
  refine .inl ⟨_,q2L _ hk hk',?_⟩
  conv=>whnf
  refine⟨fun k2=>?_,fun k2=>?_⟩
  ·conv=>whnf
   intro g2 hg
   rw [qaM (fun e=>by rw [e,qGN rfl] at k2;cases k2)]
  have k2:=eqB_iff.1 (nb0 k2)
  repeat((conv=>whnf);first|apply qza|apply qzb|apply qzc|apply qzd|apply qze|intro(_:Nat))
  conv=>whnf
  refine⟨fun k3=>?_,fun k3=>?_⟩
  ·conv=>whnf
   intro g2 hg
   rw [qaM (fun e=>by rw [e] at k3;simp at k3)]
  have k3:x.rules.length=y.rules.length:=by simp at k3;omega
  repeat((conv=>whnf);first|apply qza|apply qzb|apply qzc|apply qzd|apply qze|intro(_:Nat))
  conv=>whnf
  refine⟨Nat,fun k=>[.v (.int .i64 k)],fun _=>⟨g,[.blk 1 _ _ [.v (.slice oe y.listens.length ce),.v (.slice og y.rules.length cg),.v (.slice oh y.clusters.length ch)],.blk 0 _ _ [.v (.slice oa x.listens.length ca),.v (.slice ob x.rules.length cb),.v (.slice od x.clusters.length cd)]],_,_⟩,fun k=>k≤x.rules.length∧x.rules.take k=y.rules.take k,fun k=>x.rules.length-k,qJA 0 rfl ⟨Nat.zero_le _,rfl⟩ rfl,?_⟩
  rintro k ⟨hkk,hp⟩
  repeat((conv=>whnf);first|apply qza|apply qzb|apply qzc|apply qzd|apply qze|intro(_:Nat))
  conv=>whnf
  refine⟨fun hlt=>?_,fun hlt=>?_⟩
  ·have h':k<x.rules.length:=by have:=of_decide_eq_true hlt;omega
   obtain⟨u,hu⟩:=qCA h'
   obtain⟨v,hv⟩:=qCA (show k<y.rules.length by omega)
   obtain⟨a,rfl,ec,hec,⟨rfl,_,_⟩,hc⟩:=hr1 k u hu
   obtain⟨a',rfl,ec',hec',⟨rfl,_,_⟩,hc'⟩:=hr1' k v hv
   repeat((conv=>whnf);first|apply qza|apply qzb|apply qzc|apply qzd|apply qze|intro(_:Nat))
   conv=>whnf
   refine⟨a,rfl,⟨by omega,by omega⟩,?_⟩
   conv=>whnf
   refine⟨_,⟨rfl,hc⟩,?_⟩
   repeat((conv=>whnf);first|apply qza|apply qzb|apply qzc|apply qzd|apply qze|intro(_:Nat))
   conv=>whnf
   refine⟨a',rfl,⟨by omega,by omega⟩,?_⟩
   conv=>whnf
   refine⟨_,⟨rfl,hc'⟩,?_⟩
   repeat((conv=>whnf);first|apply qza|apply qzb|apply qzc|apply qzd|apply qze|intro(_:Nat))
   conv=>whnf
   refine⟨fun he=>?_,fun he=>?_⟩
   ·conv=>whnf
    intro g2 hg
    rw [qaM (fun e=>?_)]
    rw [← e,hu] at hv
    cases hv
    simp at he
   ·have huv:u=v:=by simp only [Bool.and_eq_true,beq_iff_eq,Bool.not_eq_false'] at he;exact qtU (by simpa using he.1) (qTQ (by simpa using he.2.1)) (qTQ (by simpa using he.2.2.1)) (by simpa using he.2.2.2)
    conv=>whnf
    refine fun fr w hw=>⟨k+1,congrArg (fun z=>[Value.int .i64 z]) (wr1 h' b1 b2).symm,⟨h',qeL hp hu hv huv⟩,dec h',?_⟩
    exact hw.fit (by simp [fitL,Res.eqv,qDA,conc])
  ·conv=>whnf
   intro g2 hg
   have:=of_decide_eq_false hlt
   rw [qGN (show x=y from ?_)]
   rw [List.take_of_length_le (by omega),List.take_of_length_le (by omega)] at hp
   exact qrU k1 hp k2)
/- Snapshots: the document's building;whether one is right;what is found. -/
open Go.Proofs.YthonngjhelcpeaaGreat.Sx Go.RowKit
theorem qkV (g:GW) {cs:List Value} {s:Snap} (hs:qmJ g cs s) (hsz:s.rules.length≤1000000):OkV Tryz.prog qAU [.agg ⟨cs⟩] g (.bool (eqB (qWB (q5G s)) none)):=by
 have hs0:=hs
 obtain⟨a,b,d,rfl,hl,hr,hk⟩:=hs
 obtain⟨oa,ca,rfl,a1,a2,a0,hl1⟩:=id hl
 obtain⟨ob,cb,rfl,b1,b2,b0,hr1⟩:=id hr
 obtain⟨od,cd,rfl,d1,d2,d0,hk1⟩:=id hk
 exact Ok.of_fn hm noT 0 qUT (args:=[.v (.agg ⟨[.slice oa s.listens.length ca,.slice ob s.rules.length cb,.slice od s.clusters.length cd]⟩)]) (by
  repeat((conv=>whnf);first|apply qza|apply qzb|apply qzc|apply qzd|apply qze|intro(_:Nat))
  conv=>whnf
  refine .inr ((q2T g hs0 hsz).mono fun v g1 hg1 hC=>?_)
  obtain⟨oR,n,cR,rfl,hrt⟩:=hC
  have hcc:qUD g1 [.slice oa s.listens.length ca,.slice oR n cR,.slice od s.clusters.length cd] (q5G s):=⟨_,_,_,rfl,hl.mono quL hg1,hrt,hk.mono qAE hg1⟩
  rcases qNQ (qWB (q5G s)) with ⟨hz,hv⟩|⟨e,i,hz,hv⟩
  ·conv=>whnf
   refine .inl ⟨_,(qwR _ hcc).to hv,?_⟩
   conv=>whnf
   intro g2 hg
   rw [qGN hz];rfl
  ·have hne:=qjH hz
   conv=>whnf
   refine .inl ⟨_,(qwR _ hcc).to hv,?_⟩
   conv=>whnf
   intro g2 hg
   rw [qaM (by rw [hz];simp)]
   exact congrArg Value.bool (by simp;omega))
def q6S (s:Snap) (l h p:BA):Value :=
 if idxI (idxO (fun x=>bs x==bs l) s.listens)<0 then .tuple #[.int .i64 0,.int .i64 3] else
 match q0O (fitR (idxI (idxO (fun x=>bs x==bs l) s.listens)) h p) s.rules with
 | none=>.tuple #[.int .i64 0,.int .i64 5]
 | some j=>.tuple #[.int .i64 ((s.rules[j]?).map (·.cluster)).get!,.int .i64 0]
theorem q6Q (g:GW) {cs:List Value} {s:Snap} (hs:qmJ g cs s) (l h p:BA) (hsm:SmL s.rules∧Sm h∧Sm p):OkV Tryz.prog qFR [.agg ⟨cs⟩,.string l,.string h,.string p] g (q6S s l h p):=by
 have hs0:=hs
 obtain⟨a,b,d,rfl,hl,hr,hk⟩:=hs
 obtain⟨oa,ca,rfl,a1,a2,a0,hl1⟩:=id hl
 obtain⟨ob,cb,rfl,b1,b2,b0,hr1⟩:=id hr
 obtain⟨od,cd,rfl,d1,d2,d0,hk1⟩:=id hk
 exact Ok.of_fn hm noT 0 qhQ (args:=[.v (.agg ⟨[.slice oa s.listens.length ca,.slice ob s.rules.length cb,.slice od s.clusters.length cd]⟩),.v (.string l),.v (.string h),.v (.string p)]) (by
  repeat((conv=>whnf);first|apply qza|apply qzb|apply qzc|apply qzd|apply qze|intro(_:Nat))
  conv=>whnf
  refine .inl ⟨_,q0Q _ hl _,?_⟩
  conv=>whnf
  refine⟨fun k1=>?_,fun k1=>?_⟩
  ·conv=>whnf
   intro g2 hg
   rw [q6S,if_pos (of_decide_eq_true k1)]
  have k1:=of_decide_eq_false k1
  repeat((conv=>whnf);first|apply qza|apply qzb|apply qzc|apply qzd|apply qze|intro(_:Nat))
  cases hb:q0O (fitR (idxI (idxO (fun x=>bs x==bs l) s.listens)) h p) s.rules with
  | none =>
   conv=>whnf
   refine .inl ⟨_,(q4T _ hr _ _ _ hsm).to (congrArg qhW hb),?_⟩
   conv=>whnf
   refine⟨fun _=>?_,fun h=>nomatch h⟩
   conv=>whnf
   intro g2 hg
   rw [q6S,if_neg k1,hb]
  | some j =>
   conv=>whnf
   refine .inl ⟨_,(q4T _ hr _ _ _ hsm).to (congrArg qhW hb),?_⟩
   conv=>whnf
   refine⟨fun h=>(nomatch h),fun _=>?_⟩
   obtain⟨r,q1,q2,_⟩:=bestO_some.1 hb
   obtain⟨a,rfl,ec,hec,⟨rfl,_,_⟩,hc⟩:=hr1 j r q1
   repeat((conv=>whnf);first|apply qza|apply qzb|apply qzc|apply qzd|apply qze|intro(_:Nat))
   conv=>whnf
   refine⟨a,rfl,⟨by omega,by omega⟩,?_⟩
   conv=>whnf
   refine⟨_,hc 3 _ rfl,?_⟩
   conv=>whnf
   intro g2 hg
   rw [q6S,if_neg k1,hb]
   simp [q1])
/- Snapshots: the document's answer to: is it one? -/
open Go.Proofs.YthonngjhelcpeaaGreat.Sx Go.RowKit
def SnS (s:Snap):Prop:=s.rules.length≤1000000∧∀ r∈s.rules,r.host.size≤100∧r.path.size≤100
/- Worlds: limbo,listeners,counts: are they right? -/
open Go.Proofs.YthonngjhelcpeaaGreat.Sx Go.RowKit
def tPl:List (Nat×FnI):=[(qgB,qhA),(qGM,qhH)]
theorem qtW:qQI Tryz.prog tPl:=by
 intro x hx
 simp only [tPl,List.mem_cons,List.not_mem_nil,or_false] at hx
 rcases hx with rfl|rfl
 ·exact⟨_,_,qeB⟩
 ·exact⟨_,_,qnL⟩
theorem qrJ (g:GW) {v:Value} {l:List Listen} (hl:rSl 4 qvB g v l) (s:BA):OkV Tryz.prog qXO [v,.string s] g (.int .i64 (quA l s)) :=
 Ok.of_fn hm qtW 2 q3N (args:=[.v v,.v (.string s)]) (by
  obtain⟨oa,cap,rfl,h1,h2,h0,hr⟩:=hl
  repeat((conv=>whnf);first|apply qza|apply qzb|apply qzc|apply qzd|apply qze|intro(_:Nat))
  conv=>whnf
  refine⟨Nat,fun k=>[.v (.int .i64 k)],fun k=>⟨g,[.blk 0 _ _ [.v (.string s)]],_,_⟩,fun k=>k≤l.length∧Pass (idxF fun (x:Listen)=>bs x.name==bs s) l k,fun k=>l.length-k,qJA 0 rfl ⟨Nat.zero_le _,Pass.zero _ _⟩ rfl,?_⟩
  rintro k ⟨hk,hp⟩
  conv=>whnf
  refine⟨fun hlt=>?_,fun hlt=>?_⟩
  ·have h':k<l.length:=by have:=of_decide_eq_true hlt;omega
   obtain⟨x,hx⟩:=qCA h'
   obtain⟨a,rfl,ec,hec,⟨rfl,_⟩,hc⟩:=hr k x hx
   conv=>whnf
   refine⟨a,rfl,⟨by omega,by omega⟩,?_⟩
   conv=>whnf
   refine⟨_,⟨rfl,hc⟩,?_⟩
   conv=>whnf
   refine⟨qOM,?_⟩
   repeat((conv=>whnf);first|apply qza|apply qzb|apply qzc|apply qzd|apply qze|intro(_:Nat))
   conv=>whnf
   refine⟨fun he=>?_,fun he=>?_⟩
   ·conv=>whnf
    intro g2 hg
    rw [quA,qWL hp hx he]
   ·conv=>whnf
    refine fun fr w hw=>⟨k+1,congrArg (fun z=>[Value.int .i64 z]) (wr1 h' h1 h2).symm,⟨h',q5J hp hx he⟩,dec h',?_⟩
    exact hw.fit (by simp [fitL,Res.eqv,qDA,conc])
  ·conv=>whnf
   intro g2 hg
   have:=of_decide_eq_false hlt
   rw [quA,qZH hp (by omega)])
theorem qEX (g:GW) {cs:List Value} {x:Listen} (hx:qvB g cs x):OkV Tryz.prog q0S [.agg ⟨cs⟩] g (.bool (q7P x)):=by
 obtain⟨rfl,hA⟩:=hx
 exact Ok.of_fn hm noT 0 qTS (args:=[.v (.agg ⟨[.string x.name,.bool x.drain,.int .i64 x.active,.bool x.closed]⟩)]) (by
  repeat((conv=>whnf);first|apply qza|apply qzb|apply qzc|apply qzd|apply qze|intro(_:Nat))
  repeat'((conv=>whnf);first|apply qza|apply qzb|apply qzc|apply qzd|apply qze|intro(_:Nat)|refine .inl ⟨_,qzI _ _,?_⟩|refine⟨fun _=>?_,fun _=>?_⟩|fail)
  all_goals (conv=>whnf)
  all_goals (intro g2 hg)
  all_goals (unfold q7P;simp_all;try (intros;omega)))
theorem qaS {c:List (List Int)} {r:List Int} (hr:r∈c) (h:r.length≠6):q5B c=false:=by
 unfold q5B
 rw [show(c.all fun r=>decide (r.length=6))=false from List.all_eq_false.2 ⟨r,hr,by simpa using h⟩];rfl
theorem qmV (g:GW) {v:Value} {l:List (List Int)} (hl:rSl 1 rRow g v l):OkV Tryz.prog qxS [v] g (.bool (q5B l)) :=
 Ok.of_fn hm noT 0 qQS (args:=[.v v]) (by
  obtain⟨oa,cap,rfl,h1,h2,h0,hr⟩:=hl
  repeat((conv=>whnf);first|apply qza|apply qzb|apply qzc|apply qzd|apply qze|intro(_:Nat))
  conv=>whnf
  refine⟨Nat,fun k=>[.v (.int .i64 k)],fun k=>⟨g,[],_,_⟩,fun k=>k≤l.length∧(l.take k).all (fun r=>decide (r.length=6))=true,fun k=>l.length-k,qJA 0 rfl ⟨Nat.zero_le _,by simp⟩ rfl,?_⟩
  rintro k ⟨hk,hp⟩
  repeat((conv=>whnf);first|apply qza|apply qzb|apply qzc|apply qzd|apply qze|intro(_:Nat))
  conv=>whnf
  refine⟨fun hlt=>?_,fun hlt=>?_⟩
  ·have h':k<l.length:=by have:=of_decide_eq_true hlt;omega
   obtain⟨x,hx⟩:=qCA h'
   obtain⟨a,rfl,ec,hec,⟨n,rfl,hn⟩,hc⟩:=hr k x hx
   obtain⟨ox,cx,rfl,x1,x2,x0,hx1⟩:=id hn
   repeat((conv=>whnf);first|apply qza|apply qzb|apply qzc|apply qzd|apply qze|intro(_:Nat))
   conv=>whnf
   refine⟨a,rfl,⟨by omega,by omega⟩,?_⟩
   conv=>whnf
   refine⟨_,hc 0 _ rfl,?_⟩
   repeat((conv=>whnf);first|apply qza|apply qzb|apply qzc|apply qzd|apply qze|intro(_:Nat))
   conv=>whnf
   refine⟨fun he=>?_,fun he=>?_⟩
   ·repeat((conv=>whnf);first|apply qza|apply qzb|apply qzc|apply qzd|apply qze|intro(_:Nat))
    conv=>whnf
    intro g2 hg
    rw [qaS (List.mem_of_getElem? hx) (by have h9:(x.length:Int)≠6:=bneT he;omega)]
   ·repeat((conv=>whnf);first|apply qza|apply qzb|apply qzc|apply qzd|apply qze|intro(_:Nat))
    conv=>whnf
    refine fun fr w hw=>⟨k+1,congrArg (fun z=>[Value.int .i64 z]) (wr1 h' h1 h2).symm,⟨h',?_⟩,dec h',hw⟩
    obtain⟨c1,c2⟩:=List.getElem?_eq_some_iff.1 hx
    rw [qvH c1,hp,c2]
    have:(x.length:Int)=6:=by simpa using he
    simp;omega
  ·have hkL:=of_decide_eq_false hlt
   rw [List.take_of_length_le (by omega)] at hp
   repeat((conv=>whnf);first|apply qza|apply qzb|apply qzc|apply qzd|apply qze|intro(_:Nat))
   conv=>whnf
   refine⟨fun hz=>?_,fun hz=>?_⟩
   ·repeat((conv=>whnf);first|apply qza|apply qzb|apply qzc|apply qzd|apply qze|intro(_:Nat))
    conv=>whnf
    intro g2 hg
    have:=of_decide_eq_true hz
    unfold q5B
    rw [hp,decide_eq_true (show 1≤l.length by omega)];simp;omega
   ·repeat((conv=>whnf);first|apply qza|apply qzb|apply qzc|apply qzd|apply qze|intro(_:Nat))
    conv=>whnf
    intro g2 hg
    have:=of_decide_eq_false hz
    unfold q5B
    rw [hp,decide_eq_false (show ¬ 1≤l.length by omega)];rfl)
/- Worlds: limbo: is it right? -/
open Go.Proofs.YthonngjhelcpeaaGreat.Sx Go.RowKit
def tLh:List (Nat×FnI):=[(qBB,qaA),(qQB,qdA),(qUO,qJK)]
theorem qvW:qQI Tryz.prog tLh:=by
 intro x hx
 simp only [tLh,List.mem_cons,List.not_mem_nil,or_false] at hx
 rcases hx with rfl|rfl|rfl
 ·exact⟨_,_,q8A⟩
 ·exact⟨_,_,qOB⟩
 ·exact⟨_,_,q0N⟩
theorem q9V (g:GW) {v:Value} {l:List Retired} (hl:rSl 3 qaB g v l) (n:Int):OkV Tryz.prog qKR [v,.int .i64 n] g (.bool (l.any fun r=>r.version==n)) :=
 Ok.of_fn hm qvW 3 qmQ (args:=[.v v,.v (.int .i64 n)]) (by
  obtain⟨oa,cap,rfl,h1,h2,h0,hr⟩:=hl
  repeat((conv=>whnf);first|apply qza|apply qzb|apply qzc|apply qzd|apply qze|intro(_:Nat))
  conv=>whnf
  refine⟨Nat,fun k=>[.v (.int .i64 k)],fun k=>⟨g,[.blk 0 _ _ [.v (.int .i64 n)]],_,_⟩,fun k=>k≤l.length∧Pass (idxF fun (x:Retired)=>x.version==n) l k,fun k=>l.length-k,qJA 0 rfl ⟨Nat.zero_le _,Pass.zero _ _⟩ rfl,?_⟩
  rintro k ⟨hk,hp⟩
  conv=>whnf
  refine⟨fun hlt=>?_,fun hlt=>?_⟩
  ·have h':k<l.length:=by have:=of_decide_eq_true hlt;omega
   obtain⟨x,hx⟩:=qCA h'
   obtain⟨a,rfl,ec,hec,⟨rfl,_⟩,hc⟩:=hr k x hx
   conv=>whnf
   refine⟨a,rfl,⟨by omega,by omega⟩,?_⟩
   conv=>whnf
   refine⟨_,⟨rfl,hc⟩,?_⟩
   conv=>whnf
   refine⟨qeO,?_⟩
   repeat((conv=>whnf);first|apply qza|apply qzb|apply qzc|apply qzd|apply qze|intro(_:Nat))
   conv=>whnf
   refine⟨fun he=>?_,fun he=>?_⟩
   ·conv=>whnf
    intro g2 hg
    have:(l.any fun r=>r.version==n)=true:=List.any_eq_true.2 ⟨x,List.mem_of_getElem? hx,he⟩
    rw [this];simp
   ·conv=>whnf
    refine fun fr w hw=>⟨k+1,congrArg (fun z=>[Value.int .i64 z]) (wr1 h' h1 h2).symm,⟨h',q5J hp hx he⟩,dec h',?_⟩
    exact hw.fit (by simp [fitL,Res.eqv,qDA,conc])
  ·conv=>whnf
   intro g2 hg
   have:=of_decide_eq_false hlt
   have h3:=qPR (fun (x:Retired)=>x.version==n) l
   rw [qZH hp (by omega)] at h3
   rw [← h3])
theorem q4W (g:GW) {v:Value} {l:List Retired} (hl:rSl 3 qaB g v l):OkV Tryz.prog qzS [v] g (.bool (qJM l)) :=
 Ok.of_fn hm noT 0 qSS (args:=[.v v]) (by
  obtain⟨oa,cap,rfl,h1,h2,h0,hr⟩:=id hl
  repeat((conv=>whnf);first|apply qza|apply qzb|apply qzc|apply qzd|apply qze|intro(_:Nat))
  conv=>whnf
  refine⟨Nat,fun k=>[.v (.int .i64 k)],fun k=>⟨g,[],_,_⟩,fun k=>k≤l.length∧AllK (retB l) l k,fun k=>l.length-k,qJA 0 rfl ⟨Nat.zero_le _,AllK.zero _ _⟩ rfl,?_⟩
  rintro k ⟨hk,hp⟩
  conv=>whnf
  refine⟨fun hlt=>?_,fun hlt=>?_⟩
  ·have h':k<l.length:=by have:=of_decide_eq_true hlt;omega
   obtain⟨x,hx⟩:=qCA h'
   obtain⟨a,rfl,ec,hec,⟨rfl,_⟩,hc⟩:=hr k x hx
   repeat((conv=>whnf);first|apply qza|apply qzb|apply qzc|apply qzd|apply qze|intro(_:Nat))
   conv=>whnf
   refine⟨a,rfl,⟨by omega,by omega⟩,?_⟩
   conv=>whnf
   refine⟨_,⟨rfl,hc⟩,?_⟩
   repeat((conv=>whnf);first|apply qza|apply qzb|apply qzc|apply qzd|apply qze|intro(_:Nat))
   conv=>whnf
   refine⟨fun b1=>?_,fun b1=>?_⟩
   ·repeat((conv=>whnf);first|apply qza|apply qzb|apply qzc|apply qzd|apply qze|intro(_:Nat))
    conv=>whnf
    intro g2 hg
    have b1':=of_decide_eq_true b1
    exact congrArg Value.bool (qMB hx (by unfold retB;rw [decide_eq_false (by omega)];rfl)).symm
   ·have b1':=of_decide_eq_false b1
    repeat((conv=>whnf);first|apply qza|apply qzb|apply qzc|apply qzd|apply qze|intro(_:Nat))
    conv=>whnf
    refine⟨fun b2=>?_,fun b2=>?_⟩
    ·repeat((conv=>whnf);first|apply qza|apply qzb|apply qzc|apply qzd|apply qze|intro(_:Nat))
     conv=>whnf
     intro g2 hg
     have b2':=of_decide_eq_true b2
     exact congrArg Value.bool (qMB hx (by unfold retB;rw [decide_eq_false (show ¬ 0≤x.at_ by omega)];simp)).symm
    ·have b2':=of_decide_eq_false b2
     repeat((conv=>whnf);first|apply qza|apply qzb|apply qzc|apply qzd|apply qze|intro(_:Nat))
     conv=>whnf
     refine⟨⟨by omega,by omega⟩,?_⟩
     repeat((conv=>whnf);first|apply qza|apply qzb|apply qzc|apply qzd|apply qze|intro(_:Nat))
     conv=>whnf
     refine .inl ⟨_,q9V _ (rSl.take hl hk) _,?_⟩
     repeat((conv=>whnf);first|apply qza|apply qzb|apply qzc|apply qzd|apply qze|intro(_:Nat))
     conv=>whnf
     refine⟨fun b3=>?_,fun b3=>?_⟩
     ·repeat((conv=>whnf);first|apply qza|apply qzb|apply qzc|apply qzd|apply qze|intro(_:Nat))
      conv=>whnf
      intro g2 hg
      exact congrArg Value.bool (qMB hx (by unfold retB;rw [b3];simp)).symm
     ·repeat((conv=>whnf);first|apply qza|apply qzb|apply qzc|apply qzd|apply qze|intro(_:Nat))
      conv=>whnf
      refine fun fr w hw=>⟨k+1,congrArg (fun z=>[Value.int .i64 z]) (wr1 h' h1 h2).symm,⟨h',hp.succ hx ?_⟩,dec h',?_⟩
      ·unfold retB
       rw [b3,decide_eq_true (show 0≤x.version by omega),decide_eq_true (show 0≤x.at_ by omega)];rfl
      ·exact hw.fit (by simp [fitL,Res.eqv,qDA,conc])
  ·repeat((conv=>whnf);first|apply qza|apply qzb|apply qzc|apply qzd|apply qze|intro(_:Nat))
   conv=>whnf
   intro g2 hg
   have:=of_decide_eq_false hlt
   exact congrArg Value.bool (hp.done (by omega)).symm)
/- Worlds: versions: are they right? -/
open Go.Proofs.YthonngjhelcpeaaGreat.Sx Go.RowKit
def tV:List (Nat×FnI):=[(qxB,qnA),(qPC,qvA),(qkK,qpF)]
theorem tV_ok:qQI Tryz.prog tV:=by
 intro x hx
 simp only [tV,List.mem_cons,List.not_mem_nil,or_false] at hx
 rcases hx with rfl|rfl|rfl
 ·exact⟨_,_,qrB⟩
 ·exact⟨_,_,qKC⟩
 ·exact⟨_,_,qXK⟩
theorem qaQ {v:Version} (h:eqB (qWB (q5G v.snap)) none=false):qYB v=false:=by unfold qYB;rw [h];rfl
theorem qZQ {v:Version} (h:v.groups.length≠v.snap.clusters.length):qYB v=false:=by unfold qYB;rw [decide_eq_false h];simp
theorem qdI {v:Version} {k:Nat} {x:Group} (hx:v.groups[k]?=some x) (h:qZI v.snap.clusters k x=false):qYB v=false:=by unfold qYB;rw [qMB hx h];simp
theorem qMS {v:Version} {k:Nat} (h1:eqB (qWB (q5G v.snap)) none=true) (h2:v.groups.length=v.snap.clusters.length) (h:AllK (qZI v.snap.clusters) v.groups k) (hk:v.groups.length≤k):qYB v=true:=by
 unfold qYB;rw [h1,decide_eq_true h2,h.done hk];rfl
theorem qdR {c:Cluster} {e:EndC}:qbM c e=(endB e&&decide ((e.next.length:Int)=c.slots)):=rfl
theorem qxQ (g:GW) {cs:List Value} {x:Version} (hx:rVe g cs x) (hsn:SnS x.snap):OkV Tryz.prog q8L [.agg ⟨cs⟩] g (.bool (qYB x)):=by
 obtain⟨a,b,d,n,rfl,hS,hG⟩:=hx
 have hS0:=hS
 obtain⟨_,_,_,he,hl,hr,hk⟩:=hS
 cases he
 obtain⟨oa,ca,rfl,a1,a2,a0,hl1⟩:=id hl
 obtain⟨ob,cb,rfl,b1,b2,b0,hr1⟩:=id hr
 obtain⟨od,cd,rfl,d1,d2,d0,hk1⟩:=id hk
 obtain⟨og,cg,rfl,g1,g2,g0,hG1⟩:=id hG
 exact Ok.of_fn hm tV_ok 3 qfL (args:=[.v (.agg ⟨[.slice oa x.snap.listens.length ca,.slice ob x.snap.rules.length cb,.slice od x.snap.clusters.length cd,.slice og x.groups.length cg,.bool x.freed]⟩)]) (by
  repeat((conv=>whnf);first|apply qza|apply qzb|apply qzc|apply qzd|apply qze|intro(_:Nat))
  conv=>whnf
  refine .inl ⟨_,qkV _ hS0 hsn.1,?_⟩
  repeat((conv=>whnf);first|apply qza|apply qzb|apply qzc|apply qzd|apply qze|intro(_:Nat))
  conv=>whnf
  refine⟨fun z1=>?_,fun z1=>?_⟩
  ·repeat((conv=>whnf);first|apply qza|apply qzb|apply qzc|apply qzd|apply qze|intro(_:Nat))
   conv=>whnf
   intro g2 hg
   rw [qaQ (nb1 z1)]
  ·have z1':=nb0 z1
   repeat((conv=>whnf);first|apply qza|apply qzb|apply qzc|apply qzd|apply qze|intro(_:Nat))
   conv=>whnf
   refine⟨fun z2=>?_,fun z2=>?_⟩
   ·repeat((conv=>whnf);first|apply qza|apply qzb|apply qzc|apply qzd|apply qze|intro(_:Nat))
    conv=>whnf
    intro g2 hg
    rw [qZQ (nneT z2)]
   ·have z2':x.groups.length=x.snap.clusters.length:=nneF z2
    repeat((conv=>whnf);first|apply qza|apply qzb|apply qzc|apply qzd|apply qze|intro(_:Nat))
    rename_i q0
    conv=>whnf
    refine⟨Nat,fun k=>[.v (.int .i64 k)],fun k=>⟨g,[.blk 0 q0 qKA [.v (.slice oa x.snap.listens.length ca),.v (.slice ob x.snap.rules.length cb),.v (.slice od x.snap.clusters.length cd),.v (.slice og x.groups.length cg),.v (.bool x.freed)]],10,g.w.heap.size⟩,fun k=>k≤x.groups.length∧AllK (qZI x.snap.clusters) x.groups k,fun k=>x.groups.length-k,fun fr w hw=>⟨0,rfl,⟨Nat.zero_le _,AllK.zero _ _⟩,hw.fit (by simp [fitL,Res.eqv,qDA,conc])⟩,?_⟩
    rintro k ⟨hkk,hp⟩
    repeat((conv=>whnf);first|apply qza|apply qzb|apply qzc|apply qzd|apply qze|intro(_:Nat))
    conv=>whnf
    refine⟨fun hlt=>?_,fun hlt=>?_⟩
    ·have h':k<x.groups.length:=by have:=of_decide_eq_true hlt;omega
     obtain⟨y,hy⟩:=qCA h'
     obtain⟨aG,rfl,ecG,hecG,⟨nE,rfl,htk,hE⟩,hcG⟩:=hG1 k y hy
     obtain⟨oe,ce,rfl,e1,e2,e0,hE1⟩:=id hE
     obtain⟨c,hcK⟩:=qCA (l:=x.snap.clusters) (i:=k) (by omega)
     obtain⟨aC,rfl,ecC,hecC,⟨vH,rfl,c1,c2,hH⟩,hcC⟩:=hk1 k c hcK
     obtain⟨oh,ch,rfl,h1,h2,h0,hH1⟩:=id hH
     have hgB:qZI x.snap.clusters k y=(decide (y.ends.length=c.health.length)&&y.ends.all (qbM c)):=by unfold qZI;rw [hcK]
     repeat((conv=>whnf);first|apply qza|apply qzb|apply qzc|apply qzd|apply qze|intro(_:Nat))
     conv=>whnf
     refine⟨aG,rfl,⟨by omega,by omega⟩,?_⟩
     conv=>whnf
     refine⟨_,⟨rfl,hcG⟩,?_⟩
     repeat((conv=>whnf);first|apply qza|apply qzb|apply qzc|apply qzd|apply qze|intro(_:Nat))
     conv=>whnf
     refine⟨aC,rfl,⟨by omega,by omega⟩,?_⟩
     conv=>whnf
     refine⟨_,⟨rfl,hcC⟩,?_⟩
     repeat((conv=>whnf);first|apply qza|apply qzb|apply qzc|apply qzd|apply qze|intro(_:Nat))
     conv=>whnf
     refine⟨fun z3=>?_,fun z3=>?_⟩
     ·repeat((conv=>whnf);first|apply qza|apply qzb|apply qzc|apply qzd|apply qze|intro(_:Nat))
      conv=>whnf
      intro g2 hg
      refine congrArg Value.bool (qdI hy ?_).symm
      rw [hgB,decide_eq_false (nneT z3)];rfl
     ·have z3':y.ends.length=c.health.length:=nneF z3
      repeat((conv=>whnf);first|apply qza|apply qzb|apply qzc|apply qzd|apply qze|intro(_:Nat))
      rename_i q1 q2
      conv=>whnf
      refine⟨Nat,fun n=>[.v (.int .i64 n)],fun n=>⟨g,[.blk 11 q2 qtA [.v (.string c.name),.v (.int .i64 c.policy),.v (.int .i64 c.slots),.v (.slice oh c.health.length ch)],.blk 10 q1 qmA [.v (.int .u64 y.ticket),.v (.slice oe y.ends.length ce)],.blk 0 q0 qKA [.v (.slice oa x.snap.listens.length ca),.v (.slice ob x.snap.rules.length cb),.v (.slice (some aC) x.snap.clusters.length cd),.v (.slice (some aG) x.groups.length cg),.v (.bool x.freed)]],20,g.w.heap.size⟩,fun n=>n≤y.ends.length∧(y.ends.take n).all (qbM c)=true,fun n=>y.ends.length-n,fun fr w hw=>⟨0,rfl,⟨Nat.zero_le _,by simp⟩,hw.fit (by simp [fitL,Res.eqv,qDA,conc])⟩,?_⟩
      rintro n ⟨hn,hpn⟩
      repeat((conv=>whnf);first|apply qza|apply qzb|apply qzc|apply qzd|apply qze|intro(_:Nat))
      conv=>whnf
      refine⟨fun hln=>?_,fun hln=>?_⟩
      ·have hn':n<y.ends.length:=by have:=of_decide_eq_true hln;omega
       obtain⟨e,hee⟩:=qCA hn'
       obtain⟨aE,rfl,ecE,hecE,heR,hcE⟩:=hE1 n e hee
       have heR0:=heR
       obtain⟨⟨nx,rfl,u1,u2,hN⟩,u3⟩:=heR
       obtain⟨oN,cN,rfl,n1,n2,n0,hN1⟩:=id hN
       obtain⟨cc1,cc2⟩:=List.getElem?_eq_some_iff.1 hee
       repeat((conv=>whnf);first|apply qza|apply qzb|apply qzc|apply qzd|apply qze|intro(_:Nat))
       conv=>whnf
       refine⟨aE,rfl,⟨by omega,by omega⟩,?_⟩
       conv=>whnf
       refine⟨_,⟨rfl,hcE⟩,?_⟩
       repeat((conv=>whnf);first|apply qza|apply qzb|apply qzc|apply qzd|apply qze|intro(_:Nat))
       conv=>whnf
       refine⟨qnK,?_⟩
       repeat((conv=>whnf);first|apply qza|apply qzb|apply qzc|apply qzd|apply qze|intro(_:Nat))
       conv=>whnf
       refine .inl ⟨_,qzQ _ heR0,?_⟩
       repeat((conv=>whnf);first|apply qza|apply qzb|apply qzc|apply qzd|apply qze|intro(_:Nat))
       conv=>whnf
       refine⟨fun z4=>?_,fun z4=>?_⟩
       ·repeat((conv=>whnf);first|apply qza|apply qzb|apply qzc|apply qzd|apply qze|intro(_:Nat))
        conv=>whnf
        refine⟨fun _=>?_,fun hx=>absurd (((decide_eq_true (show(0:Int)≤(n:Int) by omega))).symm.trans hx) (by decide)⟩
        repeat((conv=>whnf);first|apply qza|apply qzb|apply qzc|apply qzd|apply qze|intro(_:Nat))
        conv=>whnf
        intro g2 hg
        refine congrArg Value.bool (qdI hy ?_).symm
        rw [hgB,qED cc1 (by rw [cc2,qdR,nb1 z4];rfl)];simp
       ·repeat((conv=>whnf);first|apply qza|apply qzb|apply qzc|apply qzd|apply qze|intro(_:Nat))
        conv=>whnf
        refine⟨fun z5=>?_,fun z5=>?_⟩
        ·repeat((conv=>whnf);first|apply qza|apply qzb|apply qzc|apply qzd|apply qze|intro(_:Nat))
         conv=>whnf
         refine⟨fun _=>?_,fun hx=>absurd (((decide_eq_true (show(0:Int)≤(n:Int) by omega))).symm.trans hx) (by decide)⟩
         repeat((conv=>whnf);first|apply qza|apply qzb|apply qzc|apply qzd|apply qze|intro(_:Nat))
         conv=>whnf
         intro g2 hg
         refine congrArg Value.bool (qdI hy ?_).symm
         rw [hgB,qED cc1 (by rw [cc2,qdR,decide_eq_false (bneT z5)];simp)];simp
        ·repeat((conv=>whnf);first|apply qza|apply qzb|apply qzc|apply qzd|apply qze|intro(_:Nat))
         conv=>whnf
         refine fun fr w hw=>⟨n+1,congrArg (fun z=>[Value.int .i64 z]) (wr1 hn' e1 e2).symm,⟨hn',by rw [qvH cc1,hpn,cc2,qdR,nb0 z4,decide_eq_true (bneF z5)];rfl⟩,dec hn',?_⟩
         exact hw.fit (by simp [fitL,Res.eqv,qDA,conc])
      ·have hnL:=of_decide_eq_false hln
       rw [List.take_of_length_le (by omega)] at hpn
       repeat((conv=>whnf);first|apply qza|apply qzb|apply qzc|apply qzd|apply qze|intro(_:Nat))
       conv=>whnf
       refine⟨fun h=>(nomatch h),fun _=>?_⟩
       repeat((conv=>whnf);first|apply qza|apply qzb|apply qzc|apply qzd|apply qze|intro(_:Nat))
       conv=>whnf
       refine fun fr w hw=>⟨k+1,congrArg (fun z=>[Value.int .i64 z]) (wr1 h' g1 g2).symm,⟨h',hp.succ hy (by rw [hgB,decide_eq_true z3',hpn];rfl)⟩,dec h',?_⟩
       exact hw.fit (by simp [fitL,Res.eqv,qDA,conc])
    ·repeat((conv=>whnf);first|apply qza|apply qzb|apply qzc|apply qzd|apply qze|intro(_:Nat))
     conv=>whnf
     intro g2 hg
     have:=of_decide_eq_false hlt
     rw [qMS z1' z2' hp (by omega)])
/- Worlds: versions: are they right? The document's answer. -/
open Go.Proofs.YthonngjhelcpeaaGreat.Sx Go.RowKit
/- Worlds: is one right? The program's answer. -/
open Go.Proofs.YthonngjhelcpeaaGreat.Sx Go.RowKit
def tGr:List (Nat×FnI):=[(qXD,qLB),(qDE,qmB),(qHL,qlG)]
theorem qxW:qQI Tryz.prog tGr:=by
 intro x hx
 simp only [tGr,List.mem_cons,List.not_mem_nil,or_false] at hx
 rcases hx with rfl|rfl|rfl
 ·exact⟨_,_,qPD⟩
 ·exact⟨_,_,q7D⟩
 ·exact⟨_,_,qEL⟩
def GrP (w:Wd):Prop:=1≤w.pins.length∧w.pins.length≤8∧w.counts.length=w.pins.length∧q5B w.counts=true∧0≤w.epoch∧w.epoch≤1000000000000∧(w.lock=0∨w.lock=1)
def qAO (w:Wd) (p:Int):Bool:=decide (0≤p)&&decide (p≤w.epoch+1)
theorem groundB_iff {w:Wd}:qcB w=true↔GrP w∧w.pins.all (qAO w)=true:=by
 unfold qcB GrP qAO
 simp only [Bool.and_eq_true,decide_eq_true_eq]
 constructor
 ·rintro⟨⟨⟨⟨⟨⟨⟨h1,h2⟩,h3⟩,h4⟩,h5⟩,h6⟩,h7⟩,h8⟩
  exact⟨⟨h1,h2,h3,h4,h5,h6,h7⟩,h8⟩
 ·rintro⟨⟨h1,h2,h3,h4,h5,h6,h7⟩,h8⟩
  exact⟨⟨⟨⟨⟨⟨⟨h1,h2⟩,h3⟩,h4⟩,h5⟩,h6⟩,h7⟩,h8⟩
theorem qWE {w:Wd} (h:¬ GrP w):qcB w=false:=by
 rw [Bool.eq_false_iff];intro hh;exact h (groundB_iff.1 hh).1
theorem q5P {w:Wd} (h:w.pins.all (qAO w)=false):qcB w=false:=by
 rw [Bool.eq_false_iff];intro hh;rw [(groundB_iff.1 hh).2] at h;cases h
theorem quT (g:GW) {cs:List Value} {w:Wd} (hw:rWo g cs w):OkV Tryz.prog q0M [.agg ⟨cs⟩] g (.bool (qcB w)):=by
 obtain⟨a,b,c,d,e,rfl,⟨i1,i2,i3⟩,hP,hV,hL,hC,hR⟩:=hw
 obtain⟨oa,ca,rfl,a1,a2,a0,hP1⟩:=id hP
 obtain⟨ob,cb,rfl,b1,b2,b0,hV1⟩:=id hV
 obtain⟨oc,cc,rfl,c1,c2,c0,hL1⟩:=id hL
 obtain⟨od,cd,rfl,d1,d2,d0,hC1⟩:=id hC
 obtain⟨oe,ce,rfl,e1,e2,e0,hR1⟩:=id hR
 exact Ok.of_fn hm qxW 3 qkM (args:=[.v (.agg ⟨wQ w oa ca ob cb oc cc od cd oe ce⟩)]) (by
  repeat((conv=>whnf);first|apply qza|apply qzb|apply qzc|apply qzd|apply qze|intro(_:Nat))
  conv=>whnf
  refine⟨fun z1=>?_,fun z1=>?_⟩
  ·repeat((conv=>whnf);first|apply qza|apply qzb|apply qzc|apply qzd|apply qze|intro(_:Nat))
   conv=>whnf
   intro g2 hg
   rw [qWE fun h=>by have:=of_decide_eq_true z1;have:=h.1;omega]
  repeat((conv=>whnf);first|apply qza|apply qzb|apply qzc|apply qzd|apply qze|intro(_:Nat))
  conv=>whnf
  refine⟨fun z2=>?_,fun z2=>?_⟩
  ·repeat((conv=>whnf);first|apply qza|apply qzb|apply qzc|apply qzd|apply qze|intro(_:Nat))
   conv=>whnf
   intro g2 hg
   rw [qWE fun h=>by have:=of_decide_eq_true z2;have:=h.2.1;omega]
  repeat((conv=>whnf);first|apply qza|apply qzb|apply qzc|apply qzd|apply qze|intro(_:Nat))
  conv=>whnf
  refine⟨fun z3=>?_,fun z3=>?_⟩
  ·repeat((conv=>whnf);first|apply qza|apply qzb|apply qzc|apply qzd|apply qze|intro(_:Nat))
   conv=>whnf
   intro g2 hg
   rw [qWE fun h=>nneT z3 h.2.2.1]
  repeat((conv=>whnf);first|apply qza|apply qzb|apply qzc|apply qzd|apply qze|intro(_:Nat))
  conv=>whnf
  refine .inl ⟨_,qmV _ hC,?_⟩
  repeat((conv=>whnf);first|apply qza|apply qzb|apply qzc|apply qzd|apply qze|intro(_:Nat))
  conv=>whnf
  refine⟨fun z4=>?_,fun z4=>?_⟩
  ·repeat((conv=>whnf);first|apply qza|apply qzb|apply qzc|apply qzd|apply qze|intro(_:Nat))
   conv=>whnf
   intro g2 hg
   rw [qWE fun h=>by rw [h.2.2.2.1] at z4;cases z4]
  repeat((conv=>whnf);first|apply qza|apply qzb|apply qzc|apply qzd|apply qze|intro(_:Nat))
  conv=>whnf
  refine⟨fun z5=>?_,fun z5=>?_⟩
  ·repeat((conv=>whnf);first|apply qza|apply qzb|apply qzc|apply qzd|apply qze|intro(_:Nat))
   conv=>whnf
   intro g2 hg
   rw [qWE fun h=>by have:=of_decide_eq_true z5;have:=h.2.2.2.2.1;omega]
  repeat((conv=>whnf);first|apply qza|apply qzb|apply qzc|apply qzd|apply qze|intro(_:Nat))
  conv=>whnf
  refine⟨fun z6=>?_,fun z6=>?_⟩
  ·repeat((conv=>whnf);first|apply qza|apply qzb|apply qzc|apply qzd|apply qze|intro(_:Nat))
   conv=>whnf
   intro g2 hg
   rw [qWE fun h=>by have:=of_decide_eq_true z6;have:=h.2.2.2.2.2.1;omega]
  repeat((conv=>whnf);first|apply qza|apply qzb|apply qzc|apply qzd|apply qze|intro(_:Nat))
  have k1:=of_decide_eq_false z1
  have k2:=of_decide_eq_false z2
  have k3:=nneF z3
  have k4:=nb0 z4
  have k5:=of_decide_eq_false z5
  have k6:=of_decide_eq_false z6
  clear z1 z2 z3 z4 z5 z6
  conv=>whnf
  refine⟨fun z7=>?_,fun z7=>?_⟩
  case' refine_1 =>
   have z7':=bneT z7
   repeat((conv=>whnf);first|apply qza|apply qzb|apply qzc|apply qzd|apply qze|intro(_:Nat))
   conv=>whnf
   refine⟨fun z8=>?_,fun z8=>?_⟩
   case' refine_1 =>
    have z8':=bneT z8
    repeat((conv=>whnf);first|apply qza|apply qzb|apply qzc|apply qzd|apply qze|intro(_:Nat))
    conv=>whnf
    intro g2 hg
    rw [qWE fun h=>by rcases h.2.2.2.2.2.2 with h|h;exact z7' h;exact z8' h]
   have hlk:w.lock=0∨w.lock=1:=.inr (bneF z8)
   clear z7 z8 z7'
  case' refine_2 =>
   have hlk:w.lock=0∨w.lock=1:=.inl (bneF z7)
   clear z7
  all_goals
   have hGr:GrP w:=⟨by omega,by omega,k3,k4,by omega,by omega,hlk⟩
   repeat((conv=>whnf);first|apply qza|apply qzb|apply qzc|apply qzd|apply qze|intro(_:Nat))
   conv=>whnf
   refine⟨Nat,fun k=>[.v (.int .i64 k)],fun _=>⟨g,_,_,_⟩,fun k=>k≤w.pins.length∧(w.pins.take k).all (qAO w)=true,fun k=>w.pins.length-k,qJA 0 rfl ⟨Nat.zero_le _,by simp⟩ rfl,?_⟩
   rintro k ⟨hk,hp⟩
   repeat((conv=>whnf);first|apply qza|apply qzb|apply qzc|apply qzd|apply qze|intro(_:Nat))
   conv=>whnf
   refine⟨fun hlt=>?_,fun hlt=>?_⟩
   case' refine_1 =>
    have h':k<w.pins.length:=by have:=of_decide_eq_true hlt;omega
    obtain⟨x,hx⟩:=qCA h'
    obtain⟨a,rfl,ec,hec,⟨rfl,hxr⟩,hc⟩:=hP1 k x hx
    obtain⟨c1',c2'⟩:=List.getElem?_eq_some_iff.1 hx
    have hT:(w.pins.take (k+1)).all (qAO w)=qAO w x:=by rw [qvH c1',hp,c2'];rfl
    repeat((conv=>whnf);first|apply qza|apply qzb|apply qzc|apply qzd|apply qze|intro(_:Nat))
    conv=>whnf
    refine⟨a,rfl,⟨by omega,by omega⟩,?_⟩
    conv=>whnf
    refine⟨_,hc 0 _ rfl,?_⟩
    repeat((conv=>whnf);first|apply qza|apply qzb|apply qzc|apply qzd|apply qze|intro(_:Nat))
    conv=>whnf
    refine⟨qLL,?_⟩
    repeat((conv=>whnf);first|apply qza|apply qzb|apply qzc|apply qzd|apply qze|intro(_:Nat))
    conv=>whnf
    refine⟨fun y1=>?_,fun y1=>?_⟩
    case' refine_1 =>
     repeat((conv=>whnf);first|apply qza|apply qzb|apply qzc|apply qzd|apply qze|intro(_:Nat))
     conv=>whnf
     intro g2 hg
     rw [decide_eq_true (show(0:Int)≤(k:Int) by omega)]
     have y1':=of_decide_eq_true y1
     rw [q5P (qED c1' (by rw [c2'];unfold qAO;rw [decide_eq_false (by omega)];rfl))];rfl
    have y1':=of_decide_eq_false y1
    repeat((conv=>whnf);first|apply qza|apply qzb|apply qzc|apply qzd|apply qze|intro(_:Nat))
    conv=>whnf
    refine⟨fun y2=>?_,fun y2=>?_⟩
    case' refine_1 =>
     repeat((conv=>whnf);first|apply qza|apply qzb|apply qzc|apply qzd|apply qze|intro(_:Nat))
     conv=>whnf
     intro g2 hg
     rw [decide_eq_true (show(0:Int)≤(k:Int) by omega)]
     have y2':=of_decide_eq_true y2
     rw [wr (by unfold InR;omega)] at y2'
     rw [q5P (qED c1' (by rw [c2'];unfold qAO;rw [decide_eq_false (show ¬ x≤w.epoch+1 by omega)];simp))];rfl
    have y2':=of_decide_eq_false y2
    rw [wr (by unfold InR;omega)] at y2'
    repeat((conv=>whnf);first|apply qza|apply qzb|apply qzc|apply qzd|apply qze|intro(_:Nat))
    conv=>whnf
    refine fun fr w' hw=>⟨k+1,congrArg (fun z=>[Value.int .i64 z]) (wr1 h' a1 a2).symm,⟨h',by rw [hT];unfold qAO;rw [decide_eq_true (show 0≤x by omega),decide_eq_true (show x≤w.epoch+1 by omega)];rfl⟩,dec h',?_⟩
    exact hw.fit (by simp [fitL,Res.eqv,qDA,conc])
   have:=of_decide_eq_false hlt
   rw [List.take_of_length_le (by omega)] at hp
   repeat((conv=>whnf);first|apply qza|apply qzb|apply qzc|apply qzd|apply qze|intro(_:Nat))
   conv=>whnf
   intro g2 hg
   rw [groundB_iff.2 ⟨hGr,hp⟩];rfl)
end Go.Proofs.YthonngjhelcpeaaGreat
