/- Pins: a thread is pinned no more. -/
import Derived.Test.YthonngjhelcpeaaGreatLW9o
import Derived.Test.YthonngjhelcpeaaGreatLW9k
import Derived.Test.YthonngjhelcpeaaGreatLB1
import Derived.Test.YthonngjhelcpeaaGreatLS7d
import Derived.Test.YthonngjhelcpeaaGreatPl
set_option linter.unusedVariables false
set_option linter.unusedSimpArgs false
namespace Go.Proofs.YthonngjhelcpeaaGreat
open Go.Proofs.YthonngjhelcpeaaGreat.Sx Go.RowKit
set_option maxHeartbeats 16000000
set_option maxRecDepth 100000
def OffP (w:Wd) (m:Mach) (v:Value) (g':GW):Prop:=∃ cs,v=.tuple #[.agg ⟨cs⟩,.agg ⟨(offE w m).cs⟩]∧rWo g' cs (offW w m)
theorem qZZ (g:GW) {cs ms:List Value} {w:Wd} {m:Mach} (hw:rWo g cs w) (hM:qfA g ms m) (hsn:SnW w) (hb:BgW 1000000 w):Ok Tryz.prog q3V [.agg ⟨cs⟩,.agg ⟨ms⟩] g (OffP w m):=by
 have hw0:=hw
 have hM0:=hM
 obtain⟨a,b,c,d,e,rfl,⟨i1,i2,i3⟩,hP,hV,hL,hC,hR⟩:=hw
 obtain⟨oa,ca,rfl,a1,a2,a0,hP1⟩:=id hP
 obtain⟨ob,cb,rfl,b1,b2,b0,hV1⟩:=id hV
 obtain⟨oc,cc,rfl,c1,c2,c0,hL1⟩:=id hL
 obtain⟨od,cd,rfl,d1,d2,d0,hC1⟩:=id hC
 obtain⟨oe,ce,rfl,e1,e2,e0,hR1⟩:=id hR
 obtain⟨ma,mb,md,rfl,hok,_,⟨_,_,_,he,⟨o1,t1,rfl,_⟩,⟨o2,t2,rfl,_⟩,⟨o3,t3,rfl,_⟩⟩⟩:=hM
 cases he
 exact Ok.of_fn hm noT 0 qPV (args:=[.v (.agg ⟨wQ w oa ca ob cb oc cc od cd oe ce⟩),.v (.agg ⟨mQ m o1 t1 o2 t2 o3 t3⟩)]) (by
  repeat((conv=>whnf);first|refine qz ?_|intro(_:Nat))
  conv=>whnf
  refine .inl ⟨_,q1A _ hw0 hM0 hsn hb,?_⟩
  repeat((conv=>whnf);first|refine qz ?_|intro(_:Nat))
  conv=>whnf
  refine⟨fun z1=>?_,fun z1=>?_⟩
  ·repeat((conv=>whnf);first|refine qz ?_|intro(_:Nat))
   conv=>whnf
   intro g2 hg
   have hf:=nb1 z1
   refine⟨(wQ w oa ca ob cb oc cc od cd oe ce),?_,?_⟩
   ·rw [offE,hf,if_neg (by simp)];rfl
   ·rw [offW,hf,if_neg (by simp)];exact qDA _ _ _ _ hg hw0
  have hs:=nb0 z1
  obtain⟨v0,gr0,en0,hS⟩:=suitB_iff.1 hs
  have hth:=hS.thread
  obtain⟨x,hx⟩:=qAA (l:=w.pins) (i:=m.thread.toNat) (by omega)
  repeat((conv=>whnf);first|refine qz ?_|intro(_:Nat))
  refine .inr ((qBB _ hw0 hb).mono fun v g1 hg1 hO=>?_)
  obtain⟨cs,T,rfl,hT⟩:=hO
  have hT0:=hT
  obtain⟨p,q,r,s,t,rfl,_,_,h0,h1,h2,h3,h4⟩:=hT0
  obtain⟨oa',ca',rfl⟩:=qQA h0
  obtain⟨ob',cb',rfl⟩:=qQA h1
  obtain⟨oc',cc',rfl⟩:=qQA h2
  obtain⟨od',cd',rfl⟩:=qQA h3
  obtain⟨oe',ce',rfl⟩:=qQA h4
  obtain⟨bk,cap,hv,b5,j5,bc,ty5,⟨hA,p1,p2,p3,p4⟩,_,hk5⟩:=qRQ hT hx (x':=0) (by decide)
  cases hv
  cases hA
  repeat((conv=>whnf);first|refine qz ?_|intro(_:Nat))
  conv=>whnf
  refine⟨_,rfl,⟨by omega,by omega⟩,?_⟩
  repeat((conv=>whnf);first|refine qz ?_|intro(_:Nat))
  conv=>whnf
  refine⟨bk,m.thread.toNat,bc,ty5,⟨by simp [qsA],p1,p2,p3,p4⟩,?_⟩
  repeat((conv=>whnf);first|refine qz ?_|intro(_:Nat))
  conv=>whnf
  refine fun g6 u6=>?_
  have hF:=qTA (hk5 g6 u6)
  repeat((conv=>whnf);first|refine qz ?_|intro(_:Nat))
  conv=>whnf
  intro g2 hg
  refine⟨[.int .i64 w.epoch,.int .i64 w.current,.int .i64 w.lock,.slice (some ⟨bk,0,none⟩) w.pins.length ca',.slice ob' w.versions.length cb',.slice oc' w.listens.length cc',.slice od' w.counts.length cd',.slice oe' w.limbo.length ce'],?_,?_⟩
  ·rw [offE,hs,if_pos rfl];rfl
  ·rw [offW,hs,if_pos rfl];exact qDA _ _ _ _ hg hF)
/- Pins: a thread is pinned no more;the document's answer. -/
open Go.Proofs.YthonngjhelcpeaaGreat.Sx Go.RowKit
theorem q7X (g:GW) {cs ms:List Value} {w:Wd} {m:Mach} (hw:rWo g cs w) (hM:qfA g ms m) (hsn:SnW w) (hb:BgW 1000000 w):Ok Tryz.prog qVL [.agg ⟨cs⟩,.agg ⟨ms⟩] g (OffP w m):=by
 have hw0:=hw
 have hM0:=hM
 obtain⟨a,b,c,d,e,rfl,⟨i1,i2,i3⟩,hP,hV,hL,hC,hR⟩:=hw
 obtain⟨oa,ca,rfl,a1,a2,a0,hP1⟩:=id hP
 obtain⟨ob,cb,rfl,b1,b2,b0,hV1⟩:=id hV
 obtain⟨oc,cc,rfl,c1,c2,c0,hL1⟩:=id hL
 obtain⟨od,cd,rfl,d1,d2,d0,hC1⟩:=id hC
 obtain⟨oe,ce,rfl,e1,e2,e0,hR1⟩:=id hR
 obtain⟨ma,mb,md,rfl,hok,_,⟨_,_,_,he,⟨o1,t1,rfl,_⟩,⟨o2,t2,rfl,_⟩,⟨o3,t3,rfl,_⟩⟩⟩:=hM
 cases he
 exact Ok.of_fn hm noT 0 q3K (args:=[.v (.agg ⟨wQ w oa ca ob cb oc cc od cd oe ce⟩),.v (.agg ⟨mQ m o1 t1 o2 t2 o3 t3⟩)]) (by
  repeat((conv=>whnf);first|refine qz ?_|intro(_:Nat))
  conv=>whnf
  refine .inl ⟨_,qmA _ hw0 hM0 hsn hb,?_⟩
  repeat((conv=>whnf);first|refine qz ?_|intro(_:Nat))
  conv=>whnf
  refine⟨fun z1=>?_,fun z1=>?_⟩
  ·repeat((conv=>whnf);first|refine qz ?_|intro(_:Nat))
   conv=>whnf
   intro g2 hg
   have hf:=nb1 z1
   refine⟨(wQ w oa ca ob cb oc cc od cd oe ce),?_,?_⟩
   ·rw [offE,hf,if_neg (by simp)];rfl
   ·rw [offW,hf,if_neg (by simp)];exact qDA _ _ _ _ hg hw0
  have hs:=nb0 z1
  obtain⟨v0,gr0,en0,hS⟩:=suitB_iff.1 hs
  have hth:=hS.thread
  obtain⟨x,hx⟩:=qAA (l:=w.pins) (i:=m.thread.toNat) (by omega)
  repeat((conv=>whnf);first|refine qz ?_|intro(_:Nat))
  refine .inr ((qzA _ hw0 hb).mono fun v g1 hg1 hO=>?_)
  obtain⟨cs,T,rfl,hT⟩:=hO
  have hT0:=hT
  obtain⟨p,q,r,s,t,rfl,_,_,h0,h1,h2,h3,h4⟩:=hT0
  obtain⟨oa',ca',rfl⟩:=qQA h0
  obtain⟨ob',cb',rfl⟩:=qQA h1
  obtain⟨oc',cc',rfl⟩:=qQA h2
  obtain⟨od',cd',rfl⟩:=qQA h3
  obtain⟨oe',ce',rfl⟩:=qQA h4
  obtain⟨bk,cap,hv,b5,j5,bc,ty5,⟨hA,p1,p2,p3,p4⟩,_,hk5⟩:=qRQ hT hx (x':=0) (by decide)
  cases hv
  cases hA
  repeat((conv=>whnf);first|refine qz ?_|intro(_:Nat))
  conv=>whnf
  refine⟨_,rfl,⟨by omega,by omega⟩,?_⟩
  repeat((conv=>whnf);first|refine qz ?_|intro(_:Nat))
  conv=>whnf
  refine⟨bk,m.thread.toNat,bc,ty5,⟨by simp [qsA],p1,p2,p3,p4⟩,?_⟩
  repeat((conv=>whnf);first|refine qz ?_|intro(_:Nat))
  conv=>whnf
  refine fun g6 u6=>?_
  have hF:=qTA (hk5 g6 u6)
  repeat((conv=>whnf);first|refine qz ?_|intro(_:Nat))
  conv=>whnf
  intro g2 hg
  refine⟨[.int .i64 w.epoch,.int .i64 w.current,.int .i64 w.lock,.slice (some ⟨bk,0,none⟩) w.pins.length ca',.slice ob' w.versions.length cb',.slice oc' w.listens.length cc',.slice od' w.counts.length cd',.slice oe' w.limbo.length ce'],?_,?_⟩
  ·rw [offE,hs,if_pos rfl];rfl
  ·rw [offW,hs,if_pos rfl];exact qDA _ _ _ _ hg hF)
/- Requests: turns,draws,words;what is found;the document's events. -/
open Go.Proofs.YthonngjhelcpeaaGreat.Sx Go.RowKit
theorem qyW (g:GW) {cs:List Value} {s:Snap} (hs:qRH g cs s) (l h p:BA) (hsm:SmL s.rules∧Sm h∧Sm p):OkV Tryz.prog qDK [.agg ⟨cs⟩,.string l,.string h,.string p] g (q3O s l h p):=by
 have hs0:=hs
 obtain⟨a,b,d,rfl,hl,hr,hk⟩:=hs
 obtain⟨oa,ca,rfl,a1,a2,a0,hl1⟩:=id hl
 obtain⟨ob,cb,rfl,b1,b2,b0,hr1⟩:=id hr
 obtain⟨od,cd,rfl,d1,d2,d0,hk1⟩:=id hk
 exact Ok.of_fn hm noT 0 qgJ (args:=[.v (.agg ⟨[.slice oa s.listens.length ca,.slice ob s.rules.length cb,.slice od s.clusters.length cd]⟩),.v (.string l),.v (.string h),.v (.string p)]) (by
  repeat((conv=>whnf);first|refine qz ?_|intro(_:Nat))
  conv=>whnf
  refine .inl ⟨_,qhR _ hl _,?_⟩
  conv=>whnf
  refine⟨fun k1=>?_,fun k1=>?_⟩
  ·conv=>whnf
   intro g2 hg
   rw [q3O,if_pos (of_decide_eq_true k1)]
  have k1:=of_decide_eq_false k1
  repeat((conv=>whnf);first|refine qz ?_|intro(_:Nat))
  cases hb:qAM (fitR (idxI (idxO (fun x=>bs x==bs l) s.listens)) h p) s.rules with
  | none =>
   conv=>whnf
   refine .inl ⟨_,(qpT _ hr _ _ _ hsm).to (congrArg qAV hb),?_⟩
   conv=>whnf
   refine⟨fun _=>?_,fun h=>nomatch h⟩
   conv=>whnf
   intro g2 hg
   rw [q3O,if_neg k1,hb]
  | some j =>
   conv=>whnf
   refine .inl ⟨_,(qpT _ hr _ _ _ hsm).to (congrArg qAV hb),?_⟩
   conv=>whnf
   refine⟨fun h=>(nomatch h),fun _=>?_⟩
   obtain⟨r,q1,q2,_⟩:=bestO_some.1 hb
   obtain⟨a,rfl,ec,hec,⟨rfl,_,_⟩,hc⟩:=hr1 j r q1
   repeat((conv=>whnf);first|refine qz ?_|intro(_:Nat))
   conv=>whnf
   refine⟨a,rfl,⟨by omega,by omega⟩,?_⟩
   conv=>whnf
   refine⟨_,hc 3 _ rfl,?_⟩
   conv=>whnf
   intro g2 hg
   rw [q3O,if_neg k1,hb]
   simp [q1])
theorem q4T (s:Snap) (l h p:BA):∃ c e:Int,q3O s l h p=.tuple #[.int .i64 c,.int .i64 e]∧((e=0∧qwU s l h p=some c)∨(e≠0∧qwU s l h p=none)):=by
 unfold q3O qwU
 split
 ·exact⟨_,_,rfl,.inr ⟨by decide,rfl⟩⟩
 ·cases hb:qAM (fitR (idxI (idxO (fun x=>bs x==bs l) s.listens)) h p) s.rules with
  | none=>exact⟨_,_,rfl,.inr ⟨by decide,rfl⟩⟩
  | some j =>
   obtain⟨r,q1,q2,_⟩:=bestO_some.1 hb
   exact⟨_,_,rfl,.inl ⟨rfl,by simp [q1]⟩⟩
def qXB (c:Cluster) (k:Nat):List Int:=((List.range k).filter fun i=>(c.health[i]?).getD false).map fun (i:Nat)=>(i:Int)
theorem qdP {c:Cluster} {k:Nat} {b:Bool} (h:c.health[k]?=some b):qXB c (k+1)=if b then qXB c k++[(k:Int)] else qXB c k:=by
 unfold qXB
 rw [List.range_succ,List.filter_append,List.map_append]
 cases b<;>simp [h]
theorem qCN (c:Cluster) (k:Nat):(qXB c k).length≤k:=by
 unfold qXB
 rw [List.length_map]
 exact Nat.le_trans (List.length_filter_le _ _) (by simp)
theorem qPO (c:Cluster) (k:Nat) (hk:k≤17592186044416):∀ x∈qXB c k,InR x:=by
 intro x hx
 unfold qXB at hx
 simp only [List.mem_map,List.mem_filter,List.mem_range] at hx
 obtain⟨i,⟨hi,_⟩,rfl⟩:=hx
 unfold InR;omega
/- Requests: who is healthy;turns and draws. -/
open Go.Proofs.YthonngjhelcpeaaGreat.Sx Go.RowKit
def tHe:List (Nat×FnI):=[(qAO,qmH),(qaM,qfF)]
theorem q2Y:q3G Tryz.prog tHe:=by
 intro x hx
 simp only [tHe,List.mem_cons,List.not_mem_nil,or_false] at hx
 rcases hx with rfl|rfl
 ·exact⟨_,_,qjN⟩
 ·exact⟨_,_,qFM⟩
theorem qaO:∀ l:List Int,cInt l=(l.map fun x=>[Value.int .i64 x]).flatten
 | []=>rfl
 | x :: r=>congrArg (Value.int .i64 x :: ·) (qaO r)
def HeP (c:Cluster) (v:Value) (g':GW):Prop:=∃ oa cap,v=.slice oa (qEA c).length cap∧rSl 1 rInt g' (.slice oa (qEA c).length cap) (qEA c)
theorem qUP (g:GW) {cs:List Value} {c:Cluster} (hc:qIB g cs c) (hsz:c.health.length≤17592186044416):Ok Tryz.prog qBO [.agg ⟨cs⟩] g (HeP c):=by
 obtain⟨vh,rfl,hp,hl,hh⟩:=hc
 obtain⟨oa,ca,rfl,a1,a2,a0,hr⟩:=id hh
 exact Ok.of_fn hm q2Y 2 qkN (args:=[.v (.agg ⟨[.string c.name,.int .i64 c.policy,.int .i64 c.slots,.slice oa c.health.length ca]⟩)]) (by
  repeat((conv=>whnf);first|refine qz ?_|intro(_:Nat)|intro(_:OA)_)
  conv=>whnf
  refine⟨qkM,fun lp rr=>?_⟩
  repeat((conv=>whnf);first|refine qz ?_|intro(_:Nat)|intro(_:OA)_)
  rename_i q0 q1 q2
  conv=>whnf
  refine⟨Nat×Option Addr×Nat,fun (k,_,_)=>[.v (.int .i64 k)],fun (k,oX,cX)=>⟨g,[.row 7 oX (qXB c k).length cX qRA 1 (cInt (qXB c k)),.lp 3 lp rr .ready,.blk 2 q2 qrA [.v (.string c.name),.v (.int .i64 c.policy),.v (.int .i64 c.slots),.v (.slice oa c.health.length ca)],.blk 1 q1 qOE [.row 7 oX (qXB c k).length cX],.blk 0 q0 qrA [.v (.string c.name),.v (.int .i64 c.policy),.v (.int .i64 c.slots),.v (.slice oa c.health.length ca)]],40,g.w.heap.size⟩,fun (k,_,_)=>k≤c.health.length,fun (k,_,_)=>c.health.length-k,?_,?_⟩
  ·intro fr w hw
   exact⟨(0,none,0),rfl,Nat.zero_le _,(hw.nil_row (nx':=40) 7 qRA 1).fit (by simp [fitL,Res.eqv,qBA,conc,qXB])⟩
  rintro⟨k,oX,cX⟩ hk
  have hk:k≤c.health.length:=hk
  have hlen:=qCN c k
  conv=>whnf
  refine⟨fun hlt=>?_,fun hlt=>?_⟩
  ·have h':k<c.health.length:=by have:=of_decide_eq_true hlt;omega
   obtain⟨x,hx⟩:=qAA h'
   obtain⟨a,rfl,ec,hec,rfl,hcc⟩:=hr k x hx
   have hst:=qdP hx
   repeat((conv=>whnf);first|refine qz ?_|intro(_:Nat)|intro(_:OA)_)
   conv=>whnf
   refine⟨a,rfl,⟨by omega,by omega⟩,?_⟩
   repeat((conv=>whnf);first|refine qz ?_|intro(_:Nat)|intro(_:OA)_)
   conv=>whnf
   refine⟨_,hcc 0 _ rfl,?_⟩
   repeat((conv=>whnf);first|refine qz ?_|intro(_:Nat)|intro(_:OA)_)
   conv=>whnf
   refine⟨fun hb=>?_,fun hb=>?_⟩
   ·subst hb
    repeat((conv=>whnf);first|refine qz ?_|intro(_:Nat)|intro(_:OA)_)
    conv=>whnf
    refine⟨⟨by unfold maxLen;omega,by omega⟩,fun oa2 cap2=>?_⟩
    repeat((conv=>whnf);first|refine qz ?_|intro(_:Nat)|intro(_:OA)_)
    conv=>whnf
    refine fun fr w hw=>⟨(k+1,oa2,cap2),congrArg (fun z=>[Value.int .i64 z]) (wr1 h' a1 a2).symm,h',dec h',hw.fit ?_⟩
    simp only [hst,if_true]
    simp [fitL,Res.eqv,qBA,conc]
   ·subst hb
    repeat((conv=>whnf);first|refine qz ?_|intro(_:Nat)|intro(_:OA)_)
    conv=>whnf
    refine fun fr w hw=>⟨(k+1,oX,cX),congrArg (fun z=>[Value.int .i64 z]) (wr1 h' a1 a2).symm,h',dec h',hw.fit ?_⟩
    simp only [hst]
    simp [fitL,Res.eqv,qBA,conc]
  have hz1:k=c.health.length:=by have:=of_decide_eq_false hlt;omega
  subst hz1
  repeat((conv=>whnf);first|refine qz ?_|intro(_:Nat)|intro(_:OA)_)
  conv=>whnf
  refine fun g1 hg1 hn1 hp1=>?_
  conv=>whnf
  intro g2 hg
  refine⟨_,_,rfl,?_⟩
  exact((qSM hp1.rd (qEA c) (fun x=>[Value.int .i64 x]) (qaO _) rfl (fun _ _=>rfl) fun x hx=>⟨rfl,qPO c _ hsz x hx⟩).mono qHB hg))
theorem q4N (g:GW) {cs:List Value} {c:Cluster} (hc:qIB g cs c) (hsz:c.health.length≤17592186044416):Ok Tryz.prog qnG [.agg ⟨cs⟩] g (HeP c):=by
 obtain⟨vh,rfl,hp,hl,hh⟩:=hc
 obtain⟨oa,ca,rfl,a1,a2,a0,hr⟩:=id hh
 exact Ok.of_fn hm noT 0 qcG (args:=[.v (.agg ⟨[.string c.name,.int .i64 c.policy,.int .i64 c.slots,.slice oa c.health.length ca]⟩)]) (by
  repeat((conv=>whnf);first|refine qz ?_|intro(_:Nat)|intro(_:OA)_)
  rename_i q0 q1
  conv=>whnf
  refine⟨Nat×Option Addr×Nat,fun (k,oX,cX)=>[.row 7 oX (qXB c k).length cX,.v (.int .i64 k)],fun (k,oX,cX)=>⟨g,[.row 7 oX (qXB c k).length cX qRA 1 (cInt (qXB c k)),.blk 0 q0 qrA [.v (.string c.name),.v (.int .i64 c.policy),.v (.int .i64 c.slots),.v (.slice oa c.health.length ca)]],40,g.w.heap.size⟩,fun (k,_,_)=>k≤c.health.length,fun (k,_,_)=>c.health.length-k,?_,?_⟩
  ·intro fr w hw
   exact⟨(0,some ⟨q1,0,none⟩,0),rfl,Nat.zero_le _,(hw.blk_row (nx':=40) (id':=7) 0 1 rfl (by decide)).fit (by simp [fitL,Res.eqv,qBA,conc,qXB])⟩
  rintro⟨k,oX,cX⟩ hk
  have hk:k≤c.health.length:=hk
  have hlen:=qCN c k
  repeat((conv=>whnf);first|refine qz ?_|intro(_:Nat)|intro(_:OA)_)
  conv=>whnf
  refine⟨fun hlt=>?_,fun hlt=>?_⟩
  ·have h':k<c.health.length:=by have:=of_decide_eq_true hlt;omega
   obtain⟨x,hx⟩:=qAA h'
   obtain⟨a,rfl,ec,hec,rfl,hcc⟩:=hr k x hx
   have hst:=qdP hx
   repeat((conv=>whnf);first|refine qz ?_|intro(_:Nat)|intro(_:OA)_)
   conv=>whnf
   refine⟨a,rfl,⟨by omega,by omega⟩,?_⟩
   repeat((conv=>whnf);first|refine qz ?_|intro(_:Nat)|intro(_:OA)_)
   conv=>whnf
   refine⟨_,hcc 0 _ rfl,?_⟩
   repeat((conv=>whnf);first|refine qz ?_|intro(_:Nat)|intro(_:OA)_)
   conv=>whnf
   refine⟨fun hb=>?_,fun hb=>?_⟩
   ·subst hb
    repeat((conv=>whnf);first|refine qz ?_|intro(_:Nat)|intro(_:OA)_)
    conv=>whnf
    refine⟨⟨by unfold maxLen;omega,by omega⟩,fun oa2 cap2=>?_⟩
    repeat((conv=>whnf);first|refine qz ?_|intro(_:Nat)|intro(_:OA)_)
    conv=>whnf
    refine fun fr w hw=>⟨(k+1,oa2,cap2),?_,h',dec h',hw.fit ?_⟩
    ·simp only [hst,if_true,List.length_append,List.length_singleton]
     rw [wr1 h' a1 a2];rfl
    simp only [hst,if_true]
    simp [fitL,Res.eqv,qBA,conc]
   ·subst hb
    repeat((conv=>whnf);first|refine qz ?_|intro(_:Nat)|intro(_:OA)_)
    conv=>whnf
    refine fun fr w hw=>⟨(k+1,oX,cX),?_,h',dec h',hw.fit ?_⟩
    ·simp only [hst]
     rw [wr1 h' a1 a2];rfl
    simp only [hst]
    simp [fitL,Res.eqv,qBA,conc]
  have hz1:k=c.health.length:=by have:=of_decide_eq_false hlt;omega
  subst hz1
  repeat((conv=>whnf);first|refine qz ?_|intro(_:Nat)|intro(_:OA)_)
  conv=>whnf
  refine fun g1 hg1 hn1 hp1=>?_
  conv=>whnf
  intro g2 hg
  refine⟨_,_,rfl,?_⟩
  exact((qSM hp1.rd (qEA c) (fun x=>[Value.int .i64 x]) (qaO _) rfl (fun _ _=>rfl) fun x hx=>⟨rfl,qPO c _ hsz x hx⟩).mono qHB hg))
theorem qJG (c:Cluster) (h:c.health.length≤17592186044416):(qEA c).length≤17592186044416:=Nat.le_trans (qMT c) h
theorem qcX {t n:Int} (ht:InU t) (hn:0<n):0≤t.tmod n∧t.tmod n<n∧t.tmod n=t % n:=by
 rw [Int.tmod_eq_emod_of_nonneg ht.1]
 exact⟨Int.emod_nonneg t (by omega),Int.emod_lt_of_pos t hn,rfl⟩
abbrev hErr (c:Cluster):Int:=if qEA c=[] then 5 else 0
theorem qUY (g:GW) {cs:List Value} {c:Cluster} (hc:qIB g cs c) (hsz:c.health.length≤17592186044416) {t:Int} (ht:InU t):OkV Tryz.prog qmR [.agg ⟨cs⟩,.int .u64 t] g (.tuple #[.int .i64 (qlE c t),.int .i64 (hErr c)]):=by
 have hc0:=hc
 obtain⟨vh,rfl,hp,hl,hh⟩:=hc
 obtain⟨oa,ca,rfl,a1,a2,a0,hr⟩:=id hh
 exact Ok.of_fn hm noT 0 qDR (args:=[.v (.agg ⟨[.string c.name,.int .i64 c.policy,.int .i64 c.slots,.slice oa c.health.length ca]⟩),.v (.int .u64 t)]) (by
  repeat((conv=>whnf);first|refine qz ?_|intro(_:Nat))
  refine .inr ((qUP _ hc0 hsz).mono fun v g1 hg1 hH=>?_)
  obtain⟨oh,ch,rfl,hH⟩:=hH
  repeat((conv=>whnf);first|refine qz ?_|intro(_:Nat))
  conv=>whnf
  refine⟨fun hz=>?_,fun hz=>?_⟩
  ·have hn:qEA c=[]:=by
    have:=of_decide_eq_true hz
    exact List.length_eq_zero_iff.1 (by omega)
   repeat((conv=>whnf);first|refine qz ?_|intro(_:Nat))
   conv=>whnf
   intro g2 hg
   simp [qlE,hErr,hn]
  have hpos:0<(qEA c).length:=by
   have h9:¬ _:=of_decide_eq_false hz
   omega
  have hsz2:=qJG c hsz
  have hu:IntKind.u64.wrap ((qEA c).length:Int)=(qEA c).length:=IntWalk.u64_in _ (by omega)
  obtain⟨u1,u2,u3⟩:=qcX ht (n:=(qEA c).length) (by omega)
  obtain⟨x,hx⟩:=qAA (l:=qEA c) (i:=(t % (qEA c).length).toNat) (by omega)
  obtain⟨ah,rfl⟩:=qGA hH hx
  obtain⟨hxr,hcx⟩:=qgL hH hx
  have hne:qEA c≠[]:=by intro h;rw [h] at hpos;cases hpos
  have hT:qlE c t=x:=by unfold qlE;rw [hx];rfl
  repeat((conv=>whnf);first|refine qz ?_|intro(_:Nat))
  conv=>whnf
  refine⟨by simp;omega,?_⟩
  repeat((conv=>whnf);first|refine qz ?_|intro(_:Nat))
  conv=>whnf
  refine⟨_,rfl,⟨by simp only [hu];omega,by simp only [hu];omega⟩,?_⟩
  repeat((conv=>whnf);first|refine qz ?_|intro(_:Nat))
  simp only [hu,u3]
  conv=>whnf
  refine⟨_,hcx 0 _ rfl,?_⟩
  repeat((conv=>whnf);first|refine qz ?_|intro(_:Nat))
  conv=>whnf
  intro g2 hg
  simp [hT,hErr,hne])
theorem qsW (g:GW) {cs:List Value} {c:Cluster} (hc:qIB g cs c) (hsz:c.health.length≤17592186044416) {t:Int} (ht:InU t):OkV Tryz.prog qAK [.agg ⟨cs⟩,.int .u64 t] g (.tuple #[.int .i64 (qlE c t),.int .i64 (hErr c)]):=by
 have hc0:=hc
 obtain⟨vh,rfl,hp,hl,hh⟩:=hc
 obtain⟨oa,ca,rfl,a1,a2,a0,hr⟩:=id hh
 exact Ok.of_fn hm noT 0 qdJ (args:=[.v (.agg ⟨[.string c.name,.int .i64 c.policy,.int .i64 c.slots,.slice oa c.health.length ca]⟩),.v (.int .u64 t)]) (by
  repeat((conv=>whnf);first|refine qz ?_|intro(_:Nat))
  refine .inr ((q4N _ hc0 hsz).mono fun v g1 hg1 hH=>?_)
  obtain⟨oh,ch,rfl,hH⟩:=hH
  repeat((conv=>whnf);first|refine qz ?_|intro(_:Nat))
  conv=>whnf
  refine⟨fun hz=>?_,fun hz=>?_⟩
  ·have hn:qEA c=[]:=by
    have:=beqT hz
    exact List.length_eq_zero_iff.1 (by omega)
   repeat((conv=>whnf);first|refine qz ?_|intro(_:Nat))
   conv=>whnf
   intro g2 hg
   simp [qlE,hErr,hn]
  have hpos:0<(qEA c).length:=by
   have:=beqF hz
   omega
  have hsz2:=qJG c hsz
  have hu:IntKind.u64.wrap ((qEA c).length:Int)=(qEA c).length:=IntWalk.u64_in _ (by omega)
  obtain⟨u1,u2,u3⟩:=qcX ht (n:=(qEA c).length) (by omega)
  obtain⟨x,hx⟩:=qAA (l:=qEA c) (i:=(t % (qEA c).length).toNat) (by omega)
  obtain⟨ah,rfl⟩:=qGA hH hx
  obtain⟨hxr,hcx⟩:=qgL hH hx
  have hne:qEA c≠[]:=by intro h;rw [h] at hpos;cases hpos
  have hT:qlE c t=x:=by unfold qlE;rw [hx];rfl
  have hw2:IntKind.i64.wrap (t % (qEA c).length)=t % (qEA c).length:=wr (by unfold InR;omega)
  repeat((conv=>whnf);first|refine qz ?_|intro(_:Nat))
  conv=>whnf
  refine⟨by simp;omega,?_⟩
  repeat((conv=>whnf);first|refine qz ?_|intro(_:Nat))
  conv=>whnf
  refine⟨_,rfl,⟨by simp only [hu,u3,hw2];omega,by simp only [hu,u3,hw2];omega⟩,?_⟩
  repeat((conv=>whnf);first|refine qz ?_|intro(_:Nat))
  simp only [hu,u3,hw2]
  conv=>whnf
  refine⟨_,hcx 0 _ rfl,?_⟩
  repeat((conv=>whnf);first|refine qz ?_|intro(_:Nat))
  conv=>whnf
  intro g2 hg
  simp [hT,hErr,hne])
theorem qXY (g:GW) {a x b y:Int}:OkV Tryz.prog qsR [.int .i64 a,.int .i64 x,.int .i64 b,.int .i64 y] g (.int .i64 (qNK a x b y)) :=
 Ok.of_fn hm noT 0 qJR (args:=[.v (.int .i64 a),.v (.int .i64 x),.v (.int .i64 b),.v (.int .i64 y)]) (by
  repeat((conv=>whnf);first|refine qz ?_|intro(_:Nat))
  conv=>whnf
  refine⟨fun z=>?_,fun z=>?_⟩
  ·repeat((conv=>whnf);first|refine qz ?_|intro(_:Nat))
   conv=>whnf
   intro g2 hg
   unfold qNK;rw [if_pos (of_decide_eq_true z)]
  ·repeat((conv=>whnf);first|refine qz ?_|intro(_:Nat))
   conv=>whnf
   intro g2 hg
   unfold qNK;rw [if_neg (of_decide_eq_false z)])
theorem quW (g:GW) {a x b y:Int}:OkV Tryz.prog q8J [.int .i64 a,.int .i64 x,.int .i64 b,.int .i64 y] g (.int .i64 (qNK a x b y)) :=
 Ok.of_fn hm noT 0 qbJ (args:=[.v (.int .i64 a),.v (.int .i64 x),.v (.int .i64 b),.v (.int .i64 y)]) (by
  repeat((conv=>whnf);first|refine qz ?_|intro(_:Nat))
  conv=>whnf
  refine⟨fun z=>?_,fun z=>?_⟩
  ·have:x≤y:=of_decide_eq_true z
   repeat((conv=>whnf);first|refine qz ?_|intro(_:Nat))
   conv=>whnf
   intro g2 hg
   unfold qNK;rw [if_neg (by omega)]
  ·have:¬ x≤y:=of_decide_eq_false z
   repeat((conv=>whnf);first|refine qz ?_|intro(_:Nat))
   conv=>whnf
   intro g2 hg
   unfold qNK;rw [if_pos (by omega)])
theorem qnT (g:GW) {d n:Int} (hd:InR d) (hn:0<n∧n≤17592186044416):OkV Tryz.prog q7J [.int .i64 d,.int .i64 n] g (.int .i64 (d % n)) :=
 Ok.of_fn hm noT 0 qaJ (args:=[.v (.int .i64 d),.v (.int .i64 n)]) (by
  have h1:=Int.emod_nonneg d (show n≠0 by omega)
  have h2:=Int.emod_lt_of_pos d hn.1
  have h3:d.tmod n=d % n∨(d.tmod n=d % n-n∧d.tmod n<0):=by
   rw [Int.tmod_eq_emod]
   split
   ·exact .inl (by omega)
   ·right
    have:(n.natAbs:Int)=n:=by omega
    constructor<;>omega
  have hw:IntKind.i64.wrap (d.tmod n)=d.tmod n:=wr (by unfold InR;omega)
  repeat((conv=>whnf);first|refine qz ?_|intro(_:Nat))
  conv=>whnf
  refine⟨by simp;omega,?_⟩
  repeat((conv=>whnf);first|refine qz ?_|intro(_:Nat))
  simp only [hw]
  conv=>whnf
  refine⟨fun z=>?_,fun z=>?_⟩
  ·have z:=of_decide_eq_true z
   repeat((conv=>whnf);first|refine qz ?_|intro(_:Nat))
   conv=>whnf
   intro g2 hg
   have:d.tmod n+n=d % n:=by omega
   rw [this,wr (by unfold InR;omega)]
  ·have z:¬ _:=of_decide_eq_false z
   repeat((conv=>whnf);first|refine qz ?_|intro(_:Nat))
   conv=>whnf
   intro g2 hg
   congr 1;omega)
/- Requests: draws. -/
open Go.Proofs.YthonngjhelcpeaaGreat.Sx Go.RowKit
theorem qJS {c:Cluster} (h:qEA c=[]) (d:Int):qwD c d=0:=by simp [qwD,h]
theorem q4Q {c:Cluster} (d:Int) (h:0<(qEA c).length):(qEA c)[(d % (qEA c).length).toNat]?=some (qwD c d)∧0≤d % (qEA c).length∧d % (qEA c).length<(qEA c).length:=by
 have h1:=Int.emod_nonneg d (show((qEA c).length:Int)≠0 by omega)
 have h2:=Int.emod_lt_of_pos d (show(0:Int)<(qEA c).length by omega)
 obtain⟨x,hx⟩:=qAA (l:=qEA c) (i:=(d % (qEA c).length).toNat) (by omega)
 unfold qwD
 rw [hx]
 exact⟨rfl,h1,h2⟩
theorem qXW {d n:Int} (hn:0<n):-n≤d.tmod n∧d.tmod n<n:=by
 have h1:=Int.emod_nonneg d (show n≠0 by omega)
 have h2:=Int.emod_lt_of_pos d hn
 have h9:d.tmod n=d % n∨d.tmod n=d % n-n:=by
  rw [Int.tmod_eq_emod]
  split
  ·exact .inl (by omega)
  ·right
   have:(n.natAbs:Int)=n:=by omega
   omega
 generalize d.tmod n=r at h9 ⊢
 generalize d % n=q at h9 h1 h2
 omega
theorem qzW (g:GW) {cs:List Value} {c:Cluster} (hc:qIB g cs c) (hsz:c.health.length≤17592186044416) {d0 d1:Int} (h0:InR d0) (h1:InR d1):OkV Tryz.prog q9J [.agg ⟨cs⟩,.int .i64 d0,.int .i64 d1] g (.tuple #[.int .i64 (qwD c d0),.int .i64 (qwD c d1),.int .i64 (hErr c)]):=by
 have hc0:=hc
 obtain⟨vh,rfl,hp,hl,hh⟩:=hc
 obtain⟨oa,ca,rfl,a1,a2,a0,hr⟩:=id hh
 exact Ok.of_fn hm noT 0 qcJ (args:=[.v (.agg ⟨[.string c.name,.int .i64 c.policy,.int .i64 c.slots,.slice oa c.health.length ca]⟩),.v (.int .i64 d0),.v (.int .i64 d1)]) (by
  repeat((conv=>whnf);first|refine qz ?_|intro(_:Nat))
  refine .inr ((q4N _ hc0 hsz).mono fun v g1 hg1 hH=>?_)
  obtain⟨oh,ch,rfl,hH⟩:=hH
  repeat((conv=>whnf);first|refine qz ?_|intro(_:Nat))
  conv=>whnf
  refine⟨fun hz=>?_,fun hz=>?_⟩
  ·have hn:qEA c=[]:=by
    have:=beqT hz
    exact List.length_eq_zero_iff.1 (by omega)
   repeat((conv=>whnf);first|refine qz ?_|intro(_:Nat))
   conv=>whnf
   intro g2 hg
   simp [qJS hn,hErr,hn]
  have hpos:0<(qEA c).length:=by
   have:=beqF hz
   omega
  have hsz2:=qJG c hsz
  have hne:qEA c≠[]:=by intro h;rw [h] at hpos;cases hpos
  obtain⟨x1,x2,x3⟩:=q4Q (c:=c) d0 hpos
  obtain⟨y1,y2,y3⟩:=q4Q (c:=c) d1 hpos
  obtain⟨ah,rfl⟩:=qGA hH x1
  obtain⟨hxr,hcx⟩:=qgL hH x1
  obtain⟨hyr,hcy⟩:=qgL hH y1
  repeat'((conv=>whnf);first|apply qza|apply qzb|apply qzc|apply qzd|apply qze|intro(_:Nat)|refine .inl ⟨_,qnT _ h0 ⟨by omega,by omega⟩,?_⟩|refine .inl ⟨_,qnT _ h1 ⟨by omega,by omega⟩,?_⟩|refine⟨_,rfl,⟨x2,x3⟩,?_⟩|refine⟨_,rfl,⟨y2,y3⟩,?_⟩|refine⟨_,hcx 0 _ rfl,?_⟩|refine⟨_,hcy 0 _ rfl,?_⟩|refine⟨?_,?_⟩|fail)
  all_goals (conv=>whnf)
  all_goals (first|exact Eq.refl _|(intro g2 hg;simp [hErr,hne])))
theorem qbY (g:GW) {cs:List Value} {c:Cluster} (hc:qIB g cs c) (hsz:c.health.length≤17592186044416) {d0 d1:Int} (h0:InR d0) (h1:InR d1):OkV Tryz.prog qtR [.agg ⟨cs⟩,.int .i64 d0,.int .i64 d1] g (.tuple #[.int .i64 (qwD c d0),.int .i64 (qwD c d1),.int .i64 (hErr c)]):=by
 have hc0:=hc
 obtain⟨vh,rfl,hp,hl,hh⟩:=hc
 obtain⟨oa,ca,rfl,a1,a2,a0,hr⟩:=id hh
 exact Ok.of_fn hm noT 0 qKR (args:=[.v (.agg ⟨[.string c.name,.int .i64 c.policy,.int .i64 c.slots,.slice oa c.health.length ca]⟩),.v (.int .i64 d0),.v (.int .i64 d1)]) (by
  repeat((conv=>whnf);first|refine qz ?_|intro(_:Nat))
  refine .inr ((qUP _ hc0 hsz).mono fun v g1 hg1 hH=>?_)
  obtain⟨oh,ch,rfl,hH⟩:=hH
  repeat((conv=>whnf);first|refine qz ?_|intro(_:Nat))
  conv=>whnf
  refine⟨fun hz=>?_,fun hz=>?_⟩
  ·have hn:qEA c=[]:=by
    have:=beqT hz
    exact List.length_eq_zero_iff.1 (by omega)
   repeat((conv=>whnf);first|refine qz ?_|intro(_:Nat))
   conv=>whnf
   intro g2 hg
   simp [qJS hn,hErr,hn]
  have hpos:0<(qEA c).length:=by
   have:=beqF hz
   omega
  have hsz2:=qJG c hsz
  have hne:qEA c≠[]:=by intro h;rw [h] at hpos;cases hpos
  obtain⟨x1,x2,x3⟩:=q4Q (c:=c) d0 hpos
  obtain⟨y1,y2,y3⟩:=q4Q (c:=c) d1 hpos
  obtain⟨ah,rfl⟩:=qGA hH x1
  obtain⟨hxr,hcx⟩:=qgL hH x1
  obtain⟨hyr,hcy⟩:=qgL hH y1
  repeat((conv=>whnf);first|refine qz ?_|intro(_:Nat))
  rename_i q0 q1
  conv=>whnf
  refine⟨Nat,fun k=>[.v (.int .i64 k)],fun k=>⟨g1,[.blk 1 q1 180 [.v (.int .i64 (if k=0 then d0 else qwD c d0)),.v (.int .i64 (if k≤1 then d1 else qwD c d1))],.blk 0 q0 qrA [.v (.string c.name),.v (.int .i64 c.policy),.v (.int .i64 c.slots),.v (.slice oa c.health.length ca)]],_,_⟩,fun k=>k≤2,fun k=>2-k,qHA 0 rfl (by decide) rfl,?_⟩
  intro k hk
  have hin:∀ d,InR d→InR (d.tmod (qEA c).length)∧InR (d.tmod (qEA c).length+(qEA c).length)∧(d.tmod (qEA c).length+(qEA c).length).tmod (qEA c).length=d % (qEA c).length:=fun d hd=>by
   have e1:=qyX (d:=d) (n:=(qEA c).length) (by omega)
   have e2:=qXW (d:=d) (n:=(qEA c).length) (by omega)
   have hb9:((qEA c).length:Int)≤17592186044416:=by omega
   generalize d.tmod ((qEA c).length:Int)=r at e1 e2 ⊢
   generalize ((qEA c).length:Int)=n at *
   refine⟨by unfold InR;omega,by unfold InR;omega,e1⟩
  rcases(by have:k≤2:=hk;omega:k=0∨k=1∨k=2) with rfl|rfl|rfl
  ·obtain⟨i1,i2,i3⟩:=hin d0 h0
   have w1:=wr i1
   have w2:=wr i2
   conv=>whnf
   refine⟨fun _=>?_,fun h=>nomatch h⟩
   repeat((conv=>whnf);first|refine qz ?_|intro(_:Nat))
   conv=>whnf
   refine⟨0,⟨rfl,by decide⟩,?_⟩
   repeat((conv=>whnf);first|refine qz ?_|intro(_:Nat))
   conv=>whnf
   refine⟨by simp;omega,?_⟩
   repeat((conv=>whnf);first|refine qz ?_|intro(_:Nat))
   conv=>whnf
   refine⟨by simp;omega,?_⟩
   repeat((conv=>whnf);first|refine qz ?_|intro(_:Nat))
   simp only [eq_self,Nat.le_refl,if_true,w1,w2,i3]
   conv=>whnf
   refine⟨_,rfl,⟨x2,x3⟩,?_⟩
   repeat((conv=>whnf);first|refine qz ?_|intro(_:Nat))
   conv=>whnf
   refine⟨_,hcx 0 _ rfl,?_⟩
   repeat((conv=>whnf);first|refine qz ?_|intro(_:Nat))
   conv=>whnf
   refine⟨0,⟨rfl,by decide⟩,?_⟩
   repeat((conv=>whnf);first|refine qz ?_|intro(_:Nat))
   conv=>whnf
   refine fun fr w hw=>⟨1,rfl,by decide,by decide,?_⟩
   exact hw.fit (by simp [fitL,Res.eqv,qBA,conc])
  ·obtain⟨i1,i2,i3⟩:=hin d1 h1
   have w1:=wr i1
   have w2:=wr i2
   conv=>whnf
   refine⟨fun _=>?_,fun h=>nomatch h⟩
   repeat((conv=>whnf);first|refine qz ?_|intro(_:Nat))
   conv=>whnf
   refine⟨1,⟨rfl,by decide⟩,?_⟩
   repeat((conv=>whnf);first|refine qz ?_|intro(_:Nat))
   conv=>whnf
   refine⟨by simp;omega,?_⟩
   repeat((conv=>whnf);first|refine qz ?_|intro(_:Nat))
   conv=>whnf
   refine⟨by simp;omega,?_⟩
   repeat((conv=>whnf);first|refine qz ?_|intro(_:Nat))
   simp only [eq_self,Nat.le_refl,if_true,w1,w2,i3]
   conv=>whnf
   refine⟨_,rfl,⟨y2,y3⟩,?_⟩
   repeat((conv=>whnf);first|refine qz ?_|intro(_:Nat))
   conv=>whnf
   refine⟨_,hcy 0 _ rfl,?_⟩
   repeat((conv=>whnf);first|refine qz ?_|intro(_:Nat))
   conv=>whnf
   refine⟨1,⟨rfl,by decide⟩,?_⟩
   repeat((conv=>whnf);first|refine qz ?_|intro(_:Nat))
   conv=>whnf
   refine fun fr w hw=>⟨2,rfl,by decide,by decide,?_⟩
   exact hw.fit (by simp [fitL,Res.eqv,qBA,conc])
  ·conv=>whnf
   refine⟨fun h=>(nomatch h),fun _=>?_⟩
   repeat((conv=>whnf);first|refine qz ?_|intro(_:Nat))
   conv=>whnf
   refine⟨0,⟨rfl,by decide⟩,?_⟩
   repeat((conv=>whnf);first|refine qz ?_|intro(_:Nat))
   conv=>whnf
   refine⟨1,⟨rfl,by decide⟩,?_⟩
   repeat((conv=>whnf);first|refine qz ?_|intro(_:Nat))
   conv=>whnf
   intro g2 hg
   simp [hErr,hne])
/- Pins: the steps' table. -/
open Go.Proofs.YthonngjhelcpeaaGreat.Sx Go.RowKit
def qDV (w:Wd) (m:Mach) (v:Value) (g':GW):Prop:=∃ cs ms,v=.tuple #[.agg ⟨cs⟩,.agg ⟨ms⟩,.agg ⟨(pinE w m).cs⟩]∧rWo g' cs (pinW w m)∧qfA g' ms (pinM w m)
def tPi:List (Nat×FnI):=[(qEO,qWO),(qBG,qpL),(qAG,qoL),(q9F,qnL),(qqU,qjP)]
theorem qcT:q3G Tryz.prog tPi:=by
 intro x hx
 simp only [tPi,List.mem_cons,List.not_mem_nil,or_false] at hx
 rcases hx with rfl|rfl|rfl|rfl|rfl
 ·exact⟨_,_,qnN⟩
 ·exact⟨_,_,q1P⟩
 ·exact⟨_,_,q0P⟩
 ·exact⟨_,_,qzP⟩
 ·exact⟨_,_,qIU⟩
def qbU:List (Int×Value):=[(0,.agg #[.func (.func qBG) #[] #[]]),(1,.agg #[.func (.func qAG) #[] #[]]),(2,.agg #[.func (.func q9F) #[] #[]])]
theorem qTN (g:GW):Ok Tryz.prog qEO [] g fun v g'=>∃ r,v=.map (some r)∧FzM g' r .i64 qbU :=
 Ok.of_fn hm noT 0 qnN (args:=[]) (by
  repeat((conv=>whnf);first|refine qz ?_|intro(_:Nat))
  conv=>whnf
  refine fun g1 hg1 hf=>?_
  repeat((conv=>whnf);first|refine qz ?_|intro(_:Nat))
  conv=>whnf
  intro g2 hg
  exact⟨_,rfl,hf.mono hg⟩)
/- Pins: a step,another place. -/
open Go.Proofs.YthonngjhelcpeaaGreat.Sx Go.RowKit
theorem q5W (g:GW) {cs ms:List Value} {w:Wd} {m:Mach} (hw:rWo g cs w) (hM:qfA g ms m) (hsn:SnW w) (hb:BgW 1000000 w) (hp:m.pc≠0∧m.pc≠1∧m.pc≠2):Ok Tryz.prog qXF [.agg ⟨cs⟩,.agg ⟨ms⟩] g (qDV w m):=by
 obtain⟨oa,ca,ob,cb,oc,cc,od,cd,oe,ce,o1,t1,o2,t2,o3,t3,rfl,rfl,hw0,hM0,⟨i1,i2,i3⟩,hP,hV,hL,hC,hR,⟨a1,a2,a0,hP1⟩,⟨b1,b2,b0,hV1⟩,⟨c1,c2,c0,hL1⟩,⟨d1,d2,d0,hC1⟩,⟨e1,e2,e0,hR1⟩,hok,hop,hcf⟩:=qoB hw hM
 exact Ok.of_fn hm qcT 3 qzH (args:=[.v (.agg ⟨wQ w oa ca ob cb oc cc od cd oe ce⟩),.v (.agg ⟨mQ m o1 t1 o2 t2 o3 t3⟩)]) (by
  repeat((conv=>whnf);first|refine qz ?_|intro(_:Nat))
  refine .inr ((qTN _).mono fun v g1 hg1 hF=>?_)
  obtain⟨r,rfl,hF⟩:=hF
  repeat((conv=>whnf);first|refine qz ?_|intro(_:Nat))
  conv=>whnf
  refine⟨qbU,⟨rfl,hF⟩,?_⟩
  have q0:(m.pc==0)=false:=by simp;omega
  have q1:(m.pc==1)=false:=by simp;omega
  have q2:(m.pc==2)=false:=by simp;omega
  conv=>whnf
  refine⟨none,by simp only [qbU,mGet,q0,q1,q2],?_⟩
  repeat((conv=>whnf);first|refine qz ?_|intro(_:Nat))
  conv=>whnf
  refine⟨fun _=>?_,fun h=>nomatch h⟩
  repeat((conv=>whnf);first|refine qz ?_|intro(_:Nat))
  conv=>whnf
  intro g2 hg
  have hE:pinE w m=ev0:=by unfold pinE;split;rw [if_neg (by omega),if_neg (by omega)];rfl
  have hWd:pinW w m=w:=by unfold pinW;rw [if_neg (by omega)]
  have hMm:pinM w m=m:=by unfold pinM;split;rw [if_neg (by omega),if_neg (by omega),if_neg (by omega)];rfl
  exact⟨_,_,by rw [hE];rfl,by rw [hWd];exact qDA _ _ _ _ (GW.trans hg1 hg) hw0,by rw [hMm];exact qXA _ _ _ _ (GW.trans hg1 hg) hM0⟩)
/- Pins: a step,place 0. -/
open Go.Proofs.YthonngjhelcpeaaGreat.Sx Go.RowKit
theorem q8W (g:GW) {cs ms:List Value} {w:Wd} {m:Mach} (hw:rWo g cs w) (hM:qfA g ms m) (hsn:SnW w) (hb:BgW 1000000 w) (h0:m.pc=0):Ok Tryz.prog qXF [.agg ⟨cs⟩,.agg ⟨ms⟩] g (qDV w m):=by
 obtain⟨oa,ca,ob,cb,oc,cc,od,cd,oe,ce,o1,t1,o2,t2,o3,t3,rfl,rfl,hw0,hM0,⟨i1,i2,i3⟩,hP,hV,hL,hC,hR,⟨a1,a2,a0,hP1⟩,⟨b1,b2,b0,hV1⟩,⟨c1,c2,c0,hL1⟩,⟨d1,d2,d0,hC1⟩,⟨e1,e2,e0,hR1⟩,hok,hop,hcf⟩:=qoB hw hM
 exact Ok.of_fn hm qcT 3 qzH (args:=[.v (.agg ⟨wQ w oa ca ob cb oc cc od cd oe ce⟩),.v (.agg ⟨mQ m o1 t1 o2 t2 o3 t3⟩)]) (by
  repeat((conv=>whnf);first|refine qz ?_|intro(_:Nat))
  refine .inr ((qTN _).mono fun v g1 hg1 hF=>?_)
  obtain⟨r,rfl,hF⟩:=hF
  repeat((conv=>whnf);first|refine qz ?_|intro(_:Nat))
  conv=>whnf
  refine⟨qbU,⟨rfl,hF⟩,?_⟩
  have hw1:=qDA _ _ _ _ hg1 hw0
  have hM1:=qXA _ _ _ _ hg1 hM0
  conv=>whnf
  refine⟨some (.agg #[.func (.func qBG) #[] #[]]),by rw [h0];rfl,?_⟩
  repeat((conv=>whnf);first|refine qz ?_|intro(_:Nat))
  conv=>whnf
  refine⟨fun h=>(nomatch h),fun _=>?_⟩
  repeat((conv=>whnf);first|refine qz ?_|intro(_:Nat))
  conv=>whnf
  refine .inl ⟨_,q1A _ hw1 hM1 hsn hb,?_⟩
  repeat((conv=>whnf);first|refine qz ?_|intro(_:Nat))
  conv=>whnf
  refine⟨fun z1=>?_,fun z1=>?_⟩
  ·repeat((conv=>whnf);first|refine qz ?_|intro(_:Nat))
   conv=>whnf
   intro g2 hg
   have hf:=nb1 z1
   have hE:pinE w m=ev0:=by unfold pinE;rw [if_neg (by rw [hf];exact Bool.noConfusion)]
   have hWd:pinW w m=w:=by unfold pinW;rw [if_neg (by rw [hf];exact fun h=>Bool.noConfusion h.1)]
   have hMm:pinM w m=m:=by unfold pinM;rw [if_neg (by rw [hf];exact Bool.noConfusion)]
   exact⟨_,_,by rw [hE];rfl,by rw [hWd];exact qDA _ _ _ _ hg hw1,by rw [hMm];exact qXA _ _ _ _ hg hM1⟩
  have hs:=nb0 z1
  repeat((conv=>whnf);first|refine qz ?_|intro(_:Nat))
  refine .inr ((qBB _ hw1 hb).mono fun v g3 hg3 hO=>?_)
  obtain⟨cs,T,rfl,hT⟩:=hO
  have hT0:=hT
  obtain⟨p,q,r',s',t',rfl,_,_,h5,h1,h2,h3,h4⟩:=hT0
  obtain⟨oa',ca',rfl⟩:=qQA h5
  obtain⟨ob',cb',rfl⟩:=qQA h1
  obtain⟨oc',cc',rfl⟩:=qQA h2
  obtain⟨od',cd',rfl⟩:=qQA h3
  obtain⟨oe',ce',rfl⟩:=qQA h4
  clear hw0 hP hV hL hC hR hP1 hV1 hL1 hC1 hR1 a0 b0 c0 d0 e0 h1 h2 h3 h4 h5
  repeat((conv=>whnf);first|refine qz ?_|intro(_:Nat))
  conv=>whnf
  refine⟨qkQ,?_⟩
  repeat((conv=>whnf);first|refine qz ?_|intro(_:Nat))
  conv=>whnf
  intro g2 hg
  have hE:pinE w m=⟨m.thread,0,1,1,-1,false,w.epoch,false,false,false,ans0⟩:=by unfold pinE;rw [if_pos hs,if_neg (by omega),if_pos (by omega)]
  have hWd:pinW w m=w:=by unfold pinW;rw [if_neg (by omega)]
  have hMm:pinM w m={m with epoch:=w.epoch,pc:=1}:=by unfold pinM;rw [if_pos hs,if_pos h0]
  refine⟨_,_,by rw [hE];rfl,by rw [hWd];exact qDA _ _ _ _ hg (qTA hT),?_⟩
  rw [hMm]
  exact⟨_,_,_,rfl,{hok with epoch:=i1,pc:=show InR (1:Int) by decide},hop,qCA _ _ _ _ (GW.trans (GW.trans hg1 hg3) hg) hcf⟩)
/- Pins: a step,place 1. -/
open Go.Proofs.YthonngjhelcpeaaGreat.Sx Go.RowKit
theorem q7W (g:GW) {cs ms:List Value} {w:Wd} {m:Mach} (hw:rWo g cs w) (hM:qfA g ms m) (hsn:SnW w) (hb:BgW 1000000 w) (h0:m.pc=1):Ok Tryz.prog qXF [.agg ⟨cs⟩,.agg ⟨ms⟩] g (qDV w m):=by
 obtain⟨oa,ca,ob,cb,oc,cc,od,cd,oe,ce,o1,t1,o2,t2,o3,t3,rfl,rfl,hw0,hM0,⟨i1,i2,i3⟩,hP,hV,hL,hC,hR,⟨a1,a2,a0,hP1⟩,⟨b1,b2,b0,hV1⟩,⟨c1,c2,c0,hL1⟩,⟨d1,d2,d0,hC1⟩,⟨e1,e2,e0,hR1⟩,hok,hop,hcf⟩:=qoB hw hM
 exact Ok.of_fn hm qcT 3 qzH (args:=[.v (.agg ⟨wQ w oa ca ob cb oc cc od cd oe ce⟩),.v (.agg ⟨mQ m o1 t1 o2 t2 o3 t3⟩)]) (by
  repeat((conv=>whnf);first|refine qz ?_|intro(_:Nat))
  refine .inr ((qTN _).mono fun v g1 hg1 hF=>?_)
  obtain⟨r,rfl,hF⟩:=hF
  repeat((conv=>whnf);first|refine qz ?_|intro(_:Nat))
  conv=>whnf
  refine⟨qbU,⟨rfl,hF⟩,?_⟩
  have hw1:=qDA _ _ _ _ hg1 hw0
  have hM1:=qXA _ _ _ _ hg1 hM0
  conv=>whnf
  refine⟨some (.agg #[.func (.func qAG) #[] #[]]),by rw [h0];rfl,?_⟩
  repeat((conv=>whnf);first|refine qz ?_|intro(_:Nat))
  conv=>whnf
  refine⟨fun h=>(nomatch h),fun _=>?_⟩
  repeat((conv=>whnf);first|refine qz ?_|intro(_:Nat))
  conv=>whnf
  refine .inl ⟨_,q1A _ hw1 hM1 hsn hb,?_⟩
  repeat((conv=>whnf);first|refine qz ?_|intro(_:Nat))
  conv=>whnf
  refine⟨fun z1=>?_,fun z1=>?_⟩
  ·repeat((conv=>whnf);first|refine qz ?_|intro(_:Nat))
   conv=>whnf
   intro g2 hg
   have hf:=nb1 z1
   have hE:pinE w m=ev0:=by unfold pinE;rw [if_neg (by rw [hf];exact Bool.noConfusion)]
   have hWd:pinW w m=w:=by unfold pinW;rw [if_neg (by rw [hf];exact fun h=>Bool.noConfusion h.1)]
   have hMm:pinM w m=m:=by unfold pinM;rw [if_neg (by rw [hf];exact Bool.noConfusion)]
   exact⟨_,_,by rw [hE];rfl,by rw [hWd];exact qDA _ _ _ _ hg hw1,by rw [hMm];exact qXA _ _ _ _ hg hM1⟩
  have hs:=nb0 z1
  repeat((conv=>whnf);first|refine qz ?_|intro(_:Nat))
  refine .inr ((qBB _ hw1 hb).mono fun v g3 hg3 hO=>?_)
  obtain⟨cs,T,rfl,hT⟩:=hO
  have hT0:=hT
  obtain⟨p,q,r',s',t',rfl,_,_,h5,h1,h2,h3,h4⟩:=hT0
  obtain⟨oa',ca',rfl⟩:=qQA h5
  obtain⟨ob',cb',rfl⟩:=qQA h1
  obtain⟨oc',cc',rfl⟩:=qQA h2
  obtain⟨od',cd',rfl⟩:=qQA h3
  obtain⟨oe',ce',rfl⟩:=qQA h4
  have hth:=(suitB_iff.1 hs).choose_spec.choose_spec.choose_spec.thread
  obtain⟨x,hx⟩:=qAA (l:=w.pins) (i:=m.thread.toNat) (by omega)
  obtain⟨bk,cap,hv,b5,j5,bc,ty5,⟨hA,p1,p2,p3,p4⟩,_,hk5⟩:=qRQ hT hx (x':=IntKind.i64.wrap (m.epoch+1)) (q4G _)
  cases hv
  cases hA
  clear hw0 hP hV hL hC hR hP1 hV1 hL1 hC1 hR1 a0 b0 c0 d0 e0 h1 h2 h3 h4 h5
  repeat((conv=>whnf);first|refine qz ?_|intro(_:Nat))
  conv=>whnf
  refine⟨qjQ,?_⟩
  repeat((conv=>whnf);first|refine qz ?_|intro(_:Nat))
  conv=>whnf
  refine⟨_,rfl,⟨by omega,by omega⟩,?_⟩
  repeat((conv=>whnf);first|refine qz ?_|intro(_:Nat))
  conv=>whnf
  refine⟨bk,m.thread.toNat,bc,ty5,⟨by simp [qsA],Nat.le_trans hg1.1 p1,p2,p3,p4⟩,?_⟩
  repeat((conv=>whnf);first|refine qz ?_|intro(_:Nat))
  conv=>whnf
  refine fun g6 u6=>?_
  have hF:=qTA (hk5 g6 u6)
  have hle6:g1≤g6:=u6.le hg3 (fun h=>by have:=g1.wf _ h;omega)
  repeat((conv=>whnf);first|refine qz ?_|intro(_:Nat))
  conv=>whnf
  intro g2 hg
  have hE:pinE w m=⟨m.thread,0,2,2,-1,false,IntKind.i64.wrap (m.epoch+1),false,false,false,ans0⟩:=by unfold pinE;rw [if_pos hs,if_pos h0]
  have hWd:pinW w m={w with pins:=w.pins.set m.thread.toNat (IntKind.i64.wrap (m.epoch+1))}:=by unfold pinW;rw [if_pos ⟨hs,h0⟩]
  have hMm:pinM w m={m with pc:=2}:=by unfold pinM;rw [if_pos hs,if_neg (by omega),if_pos h0]
  refine⟨_,_,by rw [hE];rfl,by rw [hWd];exact qDA _ _ _ _ hg hF,?_⟩
  rw [hMm]
  exact⟨_,_,_,rfl,{hok with pc:=show InR (2:Int) by decide},hop,qCA _ _ _ _ (GW.trans (GW.trans hg1 hle6) hg) hcf⟩)
end Go.Proofs.YthonngjhelcpeaaGreat
