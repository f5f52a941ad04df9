/- The law HandleLeast (its contract of least.Pick). -/
import Derived.Test.YthonngjhelcpeaaGreatLL20d
set_option linter.unusedVariables false
set_option linter.unusedSimpArgs false
namespace Go.Proofs.YthonngjhelcpeaaGreat
open Go.Proofs.YthonngjhelcpeaaGreat.Sx Go.RowKit
set_option maxHeartbeats 16000000
set_option maxRecDepth 100000
theorem qNW (g:GW) {cs:List Value} {c:Cluster} (hc:qlB g cs c) (hsz:c.health.length≤17592186044416) {d0 d1:Int} (h0:InR d0) (h1:InR d1) {v:Value} {l:List Int} (hl:rSl 1 rInt g v l) (hll:l.length=c.health.length) (hh:qHA c≠[]) :
  OkV Tryz.prog qqP [.agg ⟨cs⟩,.int .i64 d0,.int .i64 d1,v] g (.tuple #[.int .i64 (qmF (qqA c d0) ((l[(qqA c d0).toNat]?).getD 0) (qqA c d1) ((l[(qqA c d1).toNat]?).getD 0)),.int .i64 0]):=by
 have hc0:=hc
 obtain⟨vh,rfl,hp,hl',hhe⟩:=hc
 obtain⟨oa,ca,rfl,a1,a2,a0,hr⟩:=id hhe
 obtain⟨ol,cl,rfl,l1,l2,l0,hlr⟩:=id hl
 have hdw:=(q1T g hc0 hsz h0 h1).to (v':=.tuple #[.int .i64 (qqA c d0),.int .i64 (qqA c d1),.int .i64 0]) (by simp [hErr,hh])
 have r0:0≤qqA c d0∧qqA c d0<c.health.length:=qoN hh
 have r1:0≤qqA c d1∧qqA c d1<c.health.length:=qoN hh
 obtain⟨x,hx⟩:=qCA (l:=l) (i:=(qqA c d0).toNat) (by omega)
 obtain⟨y,hy⟩:=qCA (l:=l) (i:=(qqA c d1).toNat) (by omega)
 obtain⟨al,rfl⟩:=qEA hl hx
 obtain⟨_,hcx⟩:=qXI hl hx
 obtain⟨_,hcy⟩:=qXI hl hy
 rw [hx,hy]
 exact Ok.of_fn hm noT 0 qHP (args:=[.v (.agg ⟨[.string c.name,.int .i64 c.policy,.int .i64 c.slots,.slice oa c.health.length ca]⟩),.v (.int .i64 d0),.v (.int .i64 d1),.v (.slice (some al) l.length cl)]) (by
  repeat((conv=>whnf);first|apply qza|apply qzb|apply qzc|apply qzd|apply qze|intro(_:Nat))
  conv=>whnf
  refine⟨fun hx=>absurd hll (nneT hx),fun _=>?_⟩
  repeat((conv=>whnf);first|apply qza|apply qzb|apply qzc|apply qzd|apply qze|intro(_:Nat))
  conv=>whnf
  refine .inl ⟨_,hdw,?_⟩
  repeat((conv=>whnf);first|apply qza|apply qzb|apply qzc|apply qzd|apply qze|intro(_:Nat))
  conv=>whnf
  refine⟨fun h=>(nomatch h),fun _=>?_⟩
  repeat'((conv=>whnf);first|apply qza|apply qzb|apply qzc|apply qzd|apply qze|intro(_:Nat)|refine⟨_,rfl,⟨by omega,by omega⟩,?_⟩|refine⟨_,hcx 0 _ rfl,?_⟩|refine⟨_,hcy 0 _ rfl,?_⟩|refine .inl ⟨_,q0T _,?_⟩|refine And.intro ?_ ?_|fail)
  all_goals (conv=>whnf)
  all_goals (first|exact Eq.refl _|(intro g2 hg;rfl)))
/- The law HandleLeast. -/
open Go.Proofs.YthonngjhelcpeaaGreat.Sx Go.RowKit
theorem qcV {fr:Fr} {g:GW} {a:Res} {id id' b:Nat} {ety:TypeId} {cells:List SV} {rs:List Res} {nx nx' lo:Nat} {w:World} (h:HSim fr ⟨g,a :: .blk id b ety cells :: rs,nx,lo⟩ w) (n size:Nat) (hl:cells.length=n*size) (hc:n≤maxLen) :
  HSim fr ⟨g,a :: .row id' (some ⟨b,0,none⟩) n n ety size (qDA cells) :: rs,nx',lo⟩ w:=by
 have hl':(qDA cells).length=n*size:=by rw [qiA];exact hl
 obtain⟨hb,hone⟩:=h.res _ (List.mem_cons_of_mem _ (List.mem_cons_self ..))
 refine h.upd (l1:=[a]) (r1:=.row id' (some ⟨b,0,none⟩) n n ety size (qDA cells)) (nx:=nx') rfl rfl rfl rfl (Nat.le_refl _) (fun _ _ _=>rfl) ⟨⟨hl',.inr ⟨b,n,_,rfl,Nat.zero_le _,hb,Nat.le_refl _,hc,by simpa using hl',?_⟩⟩,fun u hu=>?_⟩ (fun c hc=>.inl (by simpa [Res.bk] using hc)) (by simp [Res.bk])
 ·rw [← hl'];simp
 ·rw [qWA] at hu
  obtain⟨c,hc,rfl⟩:=List.mem_map.1 hu
  exact hone c hc
theorem qxM (g:GW) {cs os:List Value} {w:Wd} {th:Int} {o:OpD} (hw:rWo g cs w) (ht:InR th) (hO:rOp g os o):OkV Tryz.prog qsE [.agg ⟨cs⟩,.int .i64 th,.agg ⟨os⟩] g (.bool true):=by
 obtain⟨oa,ca,ob,cb,oc,cc,od,cd,oe,ce,rfl⟩:=qGA hw
 obtain⟨o1,t1,o2,t2,o3,t3,rfl⟩:=qcD hO
 exact Ok.of_fn hm noT 0 qjE (args:=[.v (.agg ⟨wQ w oa ca ob cb oc cc od cd oe ce⟩),.v (.int .i64 th),.v (.agg ⟨oCs o (.slice o1 o.config.listens.length t1) (.slice o2 o.config.routes.length t2) (.slice o3 o.config.clusters.length t3)⟩)]) (by
  repeat((conv=>whnf);first|apply qza|apply qzb|apply qzc|apply qzd|apply qze|intro(_:Nat)|intro(_:OA)_)
  refine .inr ((q7E _ hw).mono fun v g1 hg1 hB=>?_)
  obtain⟨b,rfl,hB⟩:=hB
  have hw1:=qBA _ _ _ _ hg1 hw
  have hM1:=q0C (qTC _ _ _ _ hg1 hO) ht
  repeat((conv=>whnf);first|apply qza|apply qzb|apply qzc|apply qzd|apply qze|intro(_:Nat)|intro(_:OA)_)
  conv=>whnf
  refine⟨fun z1=>?_,fun z1=>?_⟩
  ·repeat((conv=>whnf);first|apply qza|apply qzb|apply qzc|apply qzd|apply qze|intro(_:Nat)|intro(_:OA)_)
   conv=>whnf
   refine .inl ⟨_,qIA _,?_⟩
   repeat((conv=>whnf);first|apply qza|apply qzb|apply qzc|apply qzd|apply qze|intro(_:Nat)|intro(_:OA)_)
   conv=>whnf
   intro g2 hg
   rfl
  obtain⟨hb,hsn⟩:=hB z1
  have hb':=BgW.up (K':=1000000) hb (by decide)
  repeat((conv=>whnf);first|apply qza|apply qzb|apply qzc|apply qzd|apply qze|intro(_:Nat)|intro(_:OA)_)
  refine .inr ((q6E _ hw1).mono fun v g2 hg2 hC=>?_)
  obtain⟨b,rfl,hC⟩:=hC
  have hw2:=qBA _ _ _ _ hg2 hw1
  have hM2:=qNA _ _ _ _ hg2 hM1
  repeat((conv=>whnf);first|apply qza|apply qzb|apply qzc|apply qzd|apply qze|intro(_:Nat)|intro(_:OA)_)
  conv=>whnf
  refine⟨fun z5=>?_,fun z5=>?_⟩
  ·repeat((conv=>whnf);first|apply qza|apply qzb|apply qzc|apply qzd|apply qze|intro(_:Nat)|intro(_:OA)_)
   conv=>whnf
   refine .inl ⟨_,qIA _,?_⟩
   repeat((conv=>whnf);first|apply qza|apply qzb|apply qzc|apply qzd|apply qze|intro(_:Nat)|intro(_:OA)_)
   conv=>whnf
   intro g2 hg
   rfl
  have hcalm:=hC (nb0 z5)
  repeat((conv=>whnf);first|apply qza|apply qzb|apply qzc|apply qzd|apply qze|intro(_:Nat)|intro(_:OA)_)
  conv=>whnf
  refine⟨fun z2=>?_,fun z2=>?_⟩
  ·repeat((conv=>whnf);first|apply qza|apply qzb|apply qzc|apply qzd|apply qze|intro(_:Nat)|intro(_:OA)_)
   conv=>whnf
   refine .inl ⟨_,qIA _,?_⟩
   repeat((conv=>whnf);first|apply qza|apply qzb|apply qzc|apply qzd|apply qze|intro(_:Nat)|intro(_:OA)_)
   conv=>whnf
   intro g2 hg
   rfl
  repeat((conv=>whnf);first|apply qza|apply qzb|apply qzc|apply qzd|apply qze|intro(_:Nat)|intro(_:OA)_)
  conv=>whnf
  refine⟨fun z3=>?_,fun z3=>?_⟩
  ·repeat((conv=>whnf);first|apply qza|apply qzb|apply qzc|apply qzd|apply qze|intro(_:Nat)|intro(_:OA)_)
   conv=>whnf
   refine .inl ⟨_,qIA _,?_⟩
   repeat((conv=>whnf);first|apply qza|apply qzb|apply qzc|apply qzd|apply qze|intro(_:Nat)|intro(_:OA)_)
   conv=>whnf
   intro g2 hg
   rfl
  have hsz:SmO (mReq o th):=q8J z2 z3
  repeat((conv=>whnf);first|apply qza|apply qzb|apply qzc|apply qzd|apply qze|intro(_:Nat)|intro(_:OA)_)
  conv=>whnf
  refine .inl ⟨_,qQA _ hw2 hM2 hsn hb',?_⟩
  repeat((conv=>whnf);first|apply qza|apply qzb|apply qzc|apply qzd|apply qze|intro(_:Nat)|intro(_:OA)_)
  conv=>whnf
  refine⟨fun z6=>?_,fun z6=>?_⟩
  ·repeat((conv=>whnf);first|apply qza|apply qzb|apply qzc|apply qzd|apply qze|intro(_:Nat)|intro(_:OA)_)
   conv=>whnf
   refine .inl ⟨_,qIA _,?_⟩
   repeat((conv=>whnf);first|apply qza|apply qzb|apply qzc|apply qzd|apply qze|intro(_:Nat)|intro(_:OA)_)
   conv=>whnf
   intro g2 hg
   rfl
  have hs:=nb0 z6
  have hI:=qRM (n:=1000000) hs rfl hcalm.la hcalm.ea
  obtain⟨k,x,m',w1,m1,hk,hway,hmid,hkind,hend⟩:=hI.whole (by decide)
  clear hI
  repeat((conv=>whnf);first|apply qza|apply qzb|apply qzc|apply qzd|apply qze|intro(_:Nat)|intro(_:OA)_)
  refine .inr ((q8E _ hw2 hM2 hsn hb' hsz hway hend.done (by omega)).mono fun v g3 hg3 hA=>?_)
  obtain⟨csx,msx,rfl,hwx,hMx⟩:=hA
  obtain⟨xa,ya,xb,yb,xc,yc,xd,yd,xe,ye,rfl⟩:=qGA hwx
  obtain⟨p1,s1,p2,s2,p3,s3,rfl⟩:=qXA hMx
  have hw3:=qBA _ _ _ _ hg3 hw2
  obtain⟨_,_,_,hS⟩:=suitB_iff.1 hs
  obtain⟨v0,hv0,_,hcu0,hcu1⟩:=q6G hS.right
  have hVP:=qWC hS.right hv0
  have hFv:=qAG hw3
  obtain⟨av,rfl⟩:=qEA hFv hv0
  obtain⟨oL,cL,oR,cR,oC,cC,oG,cG,hcv,hsn3,hcK,hcG⟩:=qgC hFv hv0
  have hsv:=hsn v0 (List.mem_of_getElem? hv0)
  have hcv3:=hcv.sub 0 3
  obtain⟨fc,fe,hfv,hfc⟩:=qjO v0.snap o.listen o.host o.path
  have hfi:=(q6Q g3 hsn3 o.listen o.host o.path ⟨fun r hr=>⟨by have:=(hsv.2 r hr).1;omega,by have:=(hsv.2 r hr).2;omega⟩,hsz⟩).to hfv
  have hans:=hend.answer
  repeat((conv=>whnf);first|apply qza|apply qzb|apply qzc|apply qzd|apply qze|intro(_:Nat)|intro(_:OA)_)
  conv=>whnf
  refine⟨_,rfl,⟨by omega,by omega⟩,?_⟩
  repeat((conv=>whnf);first|apply qza|apply qzb|apply qzc|apply qzd|apply qze|intro(_:Nat)|intro(_:OA)_)
  conv=>whnf
  refine⟨_,⟨rfl,hcv3⟩,?_⟩
  repeat((conv=>whnf);first|apply qza|apply qzb|apply qzc|apply qzd|apply qze|intro(_:Nat)|intro(_:OA)_)
  conv=>whnf
  refine .inl ⟨_,hfi,?_⟩
  repeat((conv=>whnf);first|apply qza|apply qzb|apply qzc|apply qzd|apply qze|intro(_:Nat)|intro(_:OA)_)
  rcases hfc with ⟨rfl,hfo⟩|⟨hne,hfo⟩
  rotate_left
  ·conv=>whnf
   refine⟨fun _=>?_,fun hx=>absurd hx (by simpa using hne)⟩
   repeat((conv=>whnf);first|apply qza|apply qzb|apply qzc|apply qzd|apply qze|intro(_:Nat)|intro(_:OA)_)
   conv=>whnf
   refine .inl ⟨_,qIA _,?_⟩
   repeat((conv=>whnf);first|apply qza|apply qzb|apply qzc|apply qzd|apply qze|intro(_:Nat)|intro(_:OA)_)
   conv=>whnf
   intro g2 hg
   rfl
  conv=>whnf
  refine⟨fun h=>(nomatch h),fun _=>?_⟩
  have hfr:=qBK hVP.good hfo
  obtain⟨ck,hck⟩:=qCA (l:=v0.snap.clusters) (i:=fc.toNat) (by omega)
  obtain⟨gr,hgr⟩:=qCA (l:=v0.groups) (i:=fc.toNat) (by have:=hVP.len;omega)
  obtain⟨ck',hck',he2,_,he4,_,_⟩:=hVP.ends hgr
  cases hck.symm.trans hck'
  have hszk:ck.health.length≤17592186044416:=by omega
  obtain⟨akk,rfl⟩:=qEA hcK hck
  obtain⟨_,_,hrc,hckc⟩:=qnJ hcK hck
  obtain⟨vh,rfl,hpo,_,hh⟩:=id hrc
  obtain⟨oh,ch,rfl,_⟩:=id hh
  repeat((conv=>whnf);first|apply qza|apply qzb|apply qzc|apply qzd|apply qze|intro(_:Nat)|intro(_:OA)_)
  conv=>whnf
  refine⟨_,rfl,hfr,?_⟩
  repeat((conv=>whnf);first|apply qza|apply qzb|apply qzc|apply qzd|apply qze|intro(_:Nat)|intro(_:OA)_)
  conv=>whnf
  refine⟨_,hckc 1 _ rfl,?_⟩
  repeat((conv=>whnf);first|apply qza|apply qzb|apply qzc|apply qzd|apply qze|intro(_:Nat)|intro(_:OA)_)
  refine And.intro (fun z=>?_) (fun z=>?_)
  ·repeat((conv=>whnf);first|apply qza|apply qzb|apply qzc|apply qzd|apply qze|intro(_:Nat)|intro(_:OA)_)
   conv=>whnf
   refine .inl ⟨_,qIA _,?_⟩
   repeat((conv=>whnf);first|apply qza|apply qzb|apply qzc|apply qzd|apply qze|intro(_:Nat)|intro(_:OA)_)
   conv=>whnf
   intro g2 hg
   rfl
  have hp1:=bneF z
  have key:m'.answer.kind=1∨m'.answer.kind=4→∃ g':Group,x.versions[w.current.toNat]?=some {v0 with groups:=v0.groups.set fc.toNat g'}∧g'.ticket=gr.ticket∧m'.end_=qmF (qqA ck o.d0) (actI gr (qqA ck o.d0)) (qqA ck o.d1) (actI gr (qqA ck o.d1))∧qHA ck≠[]:=by
   intro hkk
   rcases hmid.out with ⟨hk',_⟩|⟨v,c,ck2,gr2,gr',en,hP,hen,ho⟩
   ·rw [hans] at hkk;omega
   have q1:v=v0:=Option.some.inj (hP.ver.symm.trans hv0)
   subst q1
   have q2:c=fc:=Option.some.inj (hP.find.symm.trans hfo)
   subst q2
   have q3:gr2=gr:=Option.some.inj (hP.grp.symm.trans hgr)
   subst q3
   have q4:ck2=ck:=Option.some.inj (hP.cl.symm.trans hck)
   subst q4
   have hpk:m1.end_=qmF (qqA ck2 o.d0) (actI gr2 (qqA ck2 o.d0)) (qqA ck2 o.d1) (actI gr2 (qqA ck2 o.d1))∧gr'=gr2:=by
    rcases hP.pick with ⟨h1,_⟩|⟨_,h1,h2⟩
    ·omega
    ·exact⟨h1,h2⟩
   obtain⟨hpe,rfl⟩:=hpk
   rcases ho with ⟨hk',_,hv⟩|⟨ha,_,hv⟩
   ·exact⟨_,by rw [hend.versions,hv];exact qUA hv0,rfl,by rw [hend.end_,hpe],hP.heal⟩
   ·exact⟨{gr' with ends:=gr'.ends.set m1.end_.toNat {popE en with active:=en.active+1}},by rw [hend.versions,hv];exact qUA hv0,rfl,by rw [hend.end_,hpe],hP.heal⟩
  repeat((conv=>whnf);first|apply qza|apply qzb|apply qzc|apply qzd|apply qze|intro(_:Nat)|intro(_:OA)_)
  refine And.intro (fun y1=>?_) (fun y1=>?_)
  case' refine_1 =>
   repeat((conv=>whnf);first|apply qza|apply qzb|apply qzc|apply qzd|apply qze|intro(_:Nat)|intro(_:OA)_)
   refine And.intro (fun y2=>?_) (fun y2=>?_)
   ·repeat((conv=>whnf);first|apply qza|apply qzb|apply qzc|apply qzd|apply qze|intro(_:Nat)|intro(_:OA)_)
    conv=>whnf
    refine .inl ⟨_,qIA _,?_⟩
    repeat((conv=>whnf);first|apply qza|apply qzb|apply qzc|apply qzd|apply qze|intro(_:Nat)|intro(_:OA)_)
    conv=>whnf
    intro g2 hg
    rfl
   have hkk:=key (.inr (bneF y2))
  case' refine_2=>have hkk:=key (.inl (bneF y1))
  all_goals (
   obtain⟨g',hxv,hgt,hpe,hheal⟩:=hkk
   obtain⟨ag,rfl⟩:=qEA hcG hgr
   obtain⟨oE,cE,hcg,htk,hcE⟩:=q8C hcG hgr
   have hgi:0≤fc∧fc<v0.groups.length:=by have:=hVP.len;omega
   repeat'((conv=>whnf);first|apply qza|apply qzb|apply qzc|apply qzd|apply qze|intro(_:Nat)|intro(_:OA)_|refine⟨_,rfl,⟨by omega,by omega⟩,?_⟩|refine⟨_,hcv 3 _ rfl,?_⟩|refine⟨_,⟨rfl,hcg⟩,?_⟩|fail)
   rename_i q6 q7
   conv=>whnf
   refine⟨Nat×Option Addr×Nat,fun s=>[.row 20 s.2.1 s.1 s.2.2,.v (.int .i64 s.1)],fun s=>⟨g3,.blk 7 q7 73 _ :: .row 20 s.2.1 s.1 s.2.2 qjA 1 (cInt ((gr.ends.take s.1).map (·.active))) :: _,40,_⟩,fun s=>s.1≤gr.ends.length,fun s=>gr.ends.length-s.1,fun fr u hu=>⟨(0,some ⟨q6,0,none⟩,0),rfl,Nat.zero_le _,qcV (nx':=40) (id':=20) hu 0 1 rfl (by decide)⟩,?_⟩
   rintro⟨k,oX,cX⟩ hk
   replace hk:k≤gr.ends.length:=hk
   have hlen:(cInt ((gr.ends.take k).map (·.active))).length=k:=by simp;omega
   repeat((conv=>whnf);first|apply qza|apply qzb|apply qzc|apply qzd|apply qze|intro(_:Nat)|intro(_:OA)_)
   conv=>whnf
   refine⟨fun hlt=>?_,fun hlt=>?_⟩
   ·have h':k<gr.ends.length:=by have:=of_decide_eq_true hlt;omega
    obtain⟨e,he⟩:=qCA h'
    obtain⟨ae,rfl⟩:=qEA hcE he
    obtain⟨oN,cN,hce,hei,hcN⟩:=quD hcE he
    have hst:(gr.ends.take (k+1)).map (·.active)=(gr.ends.take k).map (·.active)++[e.active]:=by
     rw [List.take_add_one,he];simp
    repeat((conv=>whnf);first|apply qza|apply qzb|apply qzc|apply qzd|apply qze|intro(_:Nat)|intro(_:OA)_)
    conv=>whnf
    refine⟨_,rfl,⟨by omega,by omega⟩,?_⟩
    repeat((conv=>whnf);first|apply qza|apply qzb|apply qzc|apply qzd|apply qze|intro(_:Nat)|intro(_:OA)_)
    conv=>whnf
    refine⟨_,hce 2 _ rfl,?_⟩
    repeat((conv=>whnf);first|apply qza|apply qzb|apply qzc|apply qzd|apply qze|intro(_:Nat)|intro(_:OA)_)
    conv=>whnf
    refine⟨⟨by unfold maxLen;omega,by omega⟩,fun oa2 cap2=>?_⟩
    repeat((conv=>whnf);first|apply qza|apply qzb|apply qzc|apply qzd|apply qze|intro(_:Nat)|intro(_:OA)_)
    conv=>whnf
    refine fun fr w' hu=>⟨(k+1,oa2,cap2),?_,h',dec h',hu.fit ?_⟩
    ·rw [wr1 h' (by omega) (by unfold maxLen;omega)];rfl
    ·simp only [hst]
     simp [fitL,Res.eqv,qDA,conc,cInt]
   have hz1:k=gr.ends.length:=by have:=of_decide_eq_false hlt;omega
   subst hz1
   repeat((conv=>whnf);first|apply qza|apply qzb|apply qzc|apply qzd|apply qze|intro(_:Nat)|intro(_:OA)_)
   repeat'((conv=>whnf);first|apply qza|apply qzb|apply qzc|apply qzd|apply qze|intro(_:Nat)|intro(_:OA)_|refine⟨_,rfl,hfr,?_⟩|refine⟨_,⟨rfl,hckc⟩,?_⟩|fail)
   conv=>whnf
   refine fun g4 hg4 hn4 hp4=>?_
   have hl4:rSl 1 rInt g4 (.slice oX gr.ends.length cX) (gr.ends.map (·.active)):=by
    have:=qvL (R:=rInt) hp4.rd (gr.ends.map (·.active)) (fun x=>[Value.int .i64 x]) (by rw [← qdM];simp) (by simp) (fun _ _=>rfl) fun x hx=>⟨rfl,by
     obtain⟨e,he,rfl⟩:=List.mem_map.1 hx
     obtain⟨i,hi,rfl⟩:=List.mem_iff_getElem.1 he
     obtain⟨_,rfl⟩:=qEA hcE (List.getElem?_eq_getElem hi)
     exact(quD hcE (List.getElem?_eq_getElem hi)).choose_spec.choose_spec.2.1.2.1⟩
    simpa using this
   have hrc4:=qAE _ _ _ _ hg4 hrc
   repeat((conv=>whnf);first|apply qza|apply qzb|apply qzc|apply qzd|apply qze|intro(_:Nat)|intro(_:OA)_)
   have hdd:InR o.d0∧InR o.d1:=by obtain⟨_,_,_,_,hi,_⟩:=hO;exact⟨hi.2.1,hi.2.2.1⟩
   conv=>whnf
   refine .inl ⟨_,qNW _ hrc4 hszk hdd.1 hdd.2 hl4 (by simp [he2]) hheal,?_⟩
   repeat((conv=>whnf);first|apply qza|apply qzb|apply qzc|apply qzd|apply qze|intro(_:Nat)|intro(_:OA)_)
   have hFx:=qAG (qBA _ _ _ _ hg4 hwx)
   obtain⟨ax,rfl⟩:=qEA hFx hxv
   obtain⟨_,_,_,_,_,_,oGx,cGx,hcvx,_,_,hcGx⟩:=qgC hFx hxv
   have hgx:=qUA (y:=g') hgr
   obtain⟨agx,rfl⟩:=qEA hcGx hgx
   obtain⟨_,_,hcgx,_,_⟩:=q8C hcGx hgx
   have hxi:=(List.getElem?_eq_some_iff.1 hxv).1
   have hgl:((v0.groups.set fc.toNat g').length:Nat)=v0.groups.length:=List.length_set ..
   have hact:∀ i:Int,((gr.ends.map (·.active))[i.toNat]?).getD 0=actI gr i:=fun i=>by
    unfold actI
    rw [List.getElem?_map]
    cases gr.ends[i.toNat]?<;>rfl
   conv=>whnf
   refine .inl ⟨_,qIA _,?_⟩
   repeat((conv=>whnf);first|apply qza|apply qzb|apply qzc|apply qzd|apply qze|intro(_:Nat)|intro(_:OA)_)
   conv=>whnf
   refine⟨fun _=>?_,fun h=>nomatch h⟩
   repeat((conv=>whnf);first|apply qza|apply qzb|apply qzc|apply qzd|apply qze|intro(_:Nat)|intro(_:OA)_)
   conv=>whnf
   refine⟨fun _=>?_,fun h=>nomatch h⟩
   repeat((conv=>whnf);first|apply qza|apply qzb|apply qzc|apply qzd|apply qze|intro(_:Nat)|intro(_:OA)_)
   conv=>whnf
   refine⟨fun _=>?_,fun hx=>absurd (by rw [hact,hact];exact hpe) (beqF hx)⟩
   repeat'((conv=>whnf);first|apply qza|apply qzb|apply qzc|apply qzd|apply qze|intro(_:Nat)|intro(_:OA)_|refine⟨_,rfl,⟨by omega,by omega⟩,?_⟩|refine⟨_,hcvx 3 _ rfl,?_⟩|refine⟨_,rfl,⟨by omega,by show fc<((v0.groups.set fc.toNat g').length:Nat);omega⟩,?_⟩|refine⟨_,hcgx 0 _ rfl,?_⟩|fail)
   conv=>whnf
   intro g2 hg
   simp [hgt]))
end Go.Proofs.YthonngjhelcpeaaGreat
