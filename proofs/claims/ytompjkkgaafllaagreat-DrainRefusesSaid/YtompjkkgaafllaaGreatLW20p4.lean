/- Requests: the program's step, place 4. -/
import Derived.Test.YtompjkkgaafllaaGreatLW9w
set_option linter.unusedVariables false
set_option linter.unusedSimpArgs false
namespace Go.Proofs.YtompjkkgaafllaaGreat
open Go.Proofs.YtompjkkgaafllaaGreat.Sx Go.RowKit
set_option maxHeartbeats 16000000
set_option maxRecDepth 100000
theorem qaU (g:GW) {cs ms:List Value} {w:Wd} {m:Mach} (hw:rWo g cs w) (hM:qRB g ms m) (hsn:SnW w) (hb:BgW 1000000 w) (hsz:SmO m) (hgo:hGo w m) (h0:m.pc=4):Ok Tryz.prog qIA [.agg ⟨cs⟩,.agg ⟨ms⟩] g (HaP w m):=by
 obtain⟨hW9,hM9,hE9⟩:=q1A hgo (by omega)
 obtain⟨kW,kM,kE⟩:=ha4 h0
 rw [kW] at hW9
 rw [kM] at hM9
 rw [kE] at hE9
 clear kW kM kE
 have hs:=hgo.1
 obtain⟨v,gr,en,hS⟩:=id (suitB_iff.1 hs)
 obtain⟨oa,ca,ob,cb,oc,cc,od,cd,oe,ce,o1,t1,o2,t2,o3,t3,rfl,rfl,hw0,hM0,⟨i1,i2,i3⟩,hP,hV,hL,hC,hR,⟨a1,a2,a0,hP1⟩,⟨b1,b2,b0,hV1⟩,⟨c1,c2,c0,hL1⟩,⟨d1,d2,d0,hC1⟩,⟨e1,e2,e0,hR1⟩,hok,hop,hcf⟩:=qLE hw hM
 exact Ok.of_fn hm qRD 5 qLA (args:=[.v (.agg ⟨wQ w oa ca ob cb oc cc od cd oe ce⟩),.v (.agg ⟨mQ m o1 t1 o2 t2 o3 t3⟩)]) (by
  repeat((conv=>whnf);first|apply qza|apply qzb|apply qzc|apply qzd|apply qze|intro(_:Nat))
  conv=>whnf
  refine dT (by omega) ?_
  repeat((conv=>whnf);first|apply qza|apply qzb|apply qzc|apply qzd|apply qze|intro(_:Nat))
  conv=>whnf
  refine dF (by omega) ?_
  repeat((conv=>whnf);first|apply qza|apply qzb|apply qzc|apply qzd|apply qze|intro(_:Nat))
  conv=>whnf
  refine dF (by omega) ?_
  repeat((conv=>whnf);first|apply qza|apply qzb|apply qzc|apply qzd|apply qze|intro(_:Nat))
  conv=>whnf
  refine dF (by omega) ?_
  repeat((conv=>whnf);first|apply qza|apply qzb|apply qzc|apply qzd|apply qze|intro(_:Nat))
  conv=>whnf
  refine .inl ⟨_,qbA _ hw0 hM0 hsn hb,?_⟩
  repeat((conv=>whnf);first|apply qza|apply qzb|apply qzc|apply qzd|apply qze|intro(_:Nat))
  conv=>whnf
  refine⟨fun hx=>absurd (hs.symm.trans (nb1 hx)) (by decide),fun _=>?_⟩
  repeat((conv=>whnf);first|apply qza|apply qzb|apply qzc|apply qzd|apply qze|intro(_:Nat))
  have hli:0≤m.listen:=by have:=hgo.2.2;omega
  conv=>whnf
  refine dF (by omega) ?_
  repeat((conv=>whnf);first|apply qza|apply qzb|apply qzc|apply qzd|apply qze|intro(_:Nat))
  repeat((conv=>whnf);first|apply qza|apply qzb|apply qzc|apply qzd|apply qze|intro(_:Nat))
  conv=>whnf
  refine .inl ⟨_,q7A _,?_⟩
  repeat((conv=>whnf);first|apply qza|apply qzb|apply qzc|apply qzd|apply qze|intro(_:Nat))
  conv=>whnf
  refine⟨4,⟨h0,by decide⟩,?_⟩
  repeat((conv=>whnf);first|apply qza|apply qzb|apply qzc|apply qzd|apply qze|intro(_:Nat))
  conv=>whnf
  refine⟨fun h=>(nomatch h),fun _=>?_⟩
  repeat((conv=>whnf);first|apply qza|apply qzb|apply qzc|apply qzd|apply qze|intro(_:Nat))
  refine .inr ((qhA _ hw0 hb).mono fun v g3 hg3 hO=>?_)
  obtain⟨cs,T,rfl,hT⟩:=hO
  have hF:=qsA hT
  obtain⟨oa',ca',ob',cb',oc',cc',od',cd',oe',ce',rfl⟩:=qRA hF
  obtain⟨x,hx⟩:=qBA (l:=w.listens) (i:=m.listen.toNat) (by have:=hS.listen;omega)
  have hmL:mL w m=x:=by unfold mL;rw [hx];rfl
  rw [hmL] at hW9 hE9
  have hli2:=hS.listen
  obtain⟨bk,cap,hv,rcl,b5,j5,bc,ty5,⟨hA,p1,p2,p3,p4⟩,_,hk5⟩:=qfO hT hx (x':={x with active:=wI (x.active+1)}) (o:=2) (vs:=[.int .i64 (wI (x.active+1))]) (by simp) (by simp [Value.oneCell']) rfl (qOL _)
  cases hv
  obtain⟨hxa,hcl⟩:=qCL (qOO hF) hx
  repeat((conv=>whnf);first|apply qza|apply qzb|apply qzc|apply qzd|apply qze|intro(_:Nat))
  conv=>whnf
  refine⟨qpG,?_⟩
  repeat((conv=>whnf);first|apply qza|apply qzb|apply qzc|apply qzd|apply qze|intro(_:Nat))
  conv=>whnf
  refine⟨_,rfl,⟨by omega,by omega⟩,?_⟩
  repeat((conv=>whnf);first|apply qza|apply qzb|apply qzc|apply qzd|apply qze|intro(_:Nat))
  conv=>whnf
  refine⟨_,hcl 2 _ rfl,?_⟩
  repeat((conv=>whnf);first|apply qza|apply qzb|apply qzc|apply qzd|apply qze|intro(_:Nat))
  conv=>whnf
  refine⟨b5,j5,bc,ty5,⟨hA,p1,p2,p3,p4⟩,?_⟩
  repeat((conv=>whnf);first|apply qza|apply qzb|apply qzc|apply qzd|apply qze|intro(_:Nat))
  conv=>whnf
  refine fun g6 u6=>?_
  have hFx:=qsA (hk5 g6 u6)
  have hle6:g≤g6:=u6.le hg3 (fun h=>by have:=g.wf _ h;omega)
  obtain⟨_,hcl'⟩:=qCL (qOO hFx) (i:=m.listen.toNat) (x:={x with active:=wI (x.active+1)}) (by simp only [List.getElem?_set];simp;omega)
  repeat((conv=>whnf);first|apply qza|apply qzb|apply qzc|apply qzd|apply qze|intro(_:Nat))
  conv=>whnf
  refine⟨_,hcl' 2 _ rfl,?_⟩
  repeat((conv=>whnf);first|apply qza|apply qzb|apply qzc|apply qzd|apply qze|intro(_:Nat))
  conv=>whnf
  refine⟨_,fun gp hle hin=>qqA gp (hin.2.2.1 10 _ rfl),?_⟩
  repeat((conv=>whnf);first|apply qza|apply qzb|apply qzc|apply qzd|apply qze|intro(_:Nat))
  conv=>whnf
  intro g2 hg
  refine⟨_,_,by rw [hE9];rfl,by rw [hW9];exact qGA _ _ _ _ hg hFx,?_⟩
  rw [hM9]
  exact⟨_,_,_,rfl,{hok with pc:=show InR (5:Int) by decide},hop,qDA _ _ _ _ (GW.trans hle6 hg) hcf⟩)
/- Requests: the program's step,place 5. -/
open Go.Proofs.YtompjkkgaafllaaGreat.Sx Go.RowKit
theorem qZU (g:GW) {cs ms:List Value} {w:Wd} {m:Mach} (hw:rWo g cs w) (hM:qRB g ms m) (hsn:SnW w) (hb:BgW 1000000 w) (hsz:SmO m) (hgo:hGo w m) (h0:m.pc=5):Ok Tryz.prog qIA [.agg ⟨cs⟩,.agg ⟨ms⟩] g (HaP w m):=by
 obtain⟨hW9,hM9,hE9⟩:=q1A hgo (by omega)
 obtain⟨kW,kM,kE⟩:=ha5 h0
 rw [kW] at hW9
 rw [kM] at hM9
 rw [kE] at hE9
 clear kW kM kE
 have hs:=hgo.1
 obtain⟨v,gr,en,hS⟩:=id (suitB_iff.1 hs)
 obtain⟨oa,ca,ob,cb,oc,cc,od,cd,oe,ce,o1,t1,o2,t2,o3,t3,rfl,rfl,hw0,hM0,⟨i1,i2,i3⟩,hP,hV,hL,hC,hR,⟨a1,a2,a0,hP1⟩,⟨b1,b2,b0,hV1⟩,⟨c1,c2,c0,hL1⟩,⟨d1,d2,d0,hC1⟩,⟨e1,e2,e0,hR1⟩,hok,hop,hcf⟩:=qLE hw hM
 exact Ok.of_fn hm qRD 5 qLA (args:=[.v (.agg ⟨wQ w oa ca ob cb oc cc od cd oe ce⟩),.v (.agg ⟨mQ m o1 t1 o2 t2 o3 t3⟩)]) (by
  repeat((conv=>whnf);first|apply qza|apply qzb|apply qzc|apply qzd|apply qze|intro(_:Nat))
  conv=>whnf
  refine dT (by omega) ?_
  repeat((conv=>whnf);first|apply qza|apply qzb|apply qzc|apply qzd|apply qze|intro(_:Nat))
  conv=>whnf
  refine dF (by omega) ?_
  repeat((conv=>whnf);first|apply qza|apply qzb|apply qzc|apply qzd|apply qze|intro(_:Nat))
  conv=>whnf
  refine dF (by omega) ?_
  repeat((conv=>whnf);first|apply qza|apply qzb|apply qzc|apply qzd|apply qze|intro(_:Nat))
  conv=>whnf
  refine dF (by omega) ?_
  repeat((conv=>whnf);first|apply qza|apply qzb|apply qzc|apply qzd|apply qze|intro(_:Nat))
  conv=>whnf
  refine .inl ⟨_,qbA _ hw0 hM0 hsn hb,?_⟩
  repeat((conv=>whnf);first|apply qza|apply qzb|apply qzc|apply qzd|apply qze|intro(_:Nat))
  conv=>whnf
  refine⟨fun hx=>absurd (hs.symm.trans (nb1 hx)) (by decide),fun _=>?_⟩
  repeat((conv=>whnf);first|apply qza|apply qzb|apply qzc|apply qzd|apply qze|intro(_:Nat))
  have hli:0≤m.listen:=by have:=hgo.2.2;omega
  conv=>whnf
  refine dF (by omega) ?_
  repeat((conv=>whnf);first|apply qza|apply qzb|apply qzc|apply qzd|apply qze|intro(_:Nat))
  repeat((conv=>whnf);first|apply qza|apply qzb|apply qzc|apply qzd|apply qze|intro(_:Nat))
  conv=>whnf
  refine .inl ⟨_,q7A _,?_⟩
  repeat((conv=>whnf);first|apply qza|apply qzb|apply qzc|apply qzd|apply qze|intro(_:Nat))
  conv=>whnf
  refine⟨5,⟨h0,by decide⟩,?_⟩
  repeat((conv=>whnf);first|apply qza|apply qzb|apply qzc|apply qzd|apply qze|intro(_:Nat))
  conv=>whnf
  refine⟨fun h=>(nomatch h),fun _=>?_⟩
  repeat((conv=>whnf);first|apply qza|apply qzb|apply qzc|apply qzd|apply qze|intro(_:Nat))
  refine .inr ((qhA _ hw0 hb).mono fun v g3 hg3 hO=>?_)
  obtain⟨cs,T,rfl,hT⟩:=hO
  have hF:=qsA hT
  obtain⟨oa',ca',ob',cb',oc',cc',od',cd',oe',ce',rfl⟩:=qRA hF
  obtain⟨x,hx⟩:=qBA (l:=w.listens) (i:=m.listen.toNat) (by have:=hS.listen;omega)
  have hmL:mL w m=x:=by unfold mL;rw [hx];rfl
  have hli2:=hS.listen
  have hlj:0≤m.listen∧m.listen<w.listens.length:=by omega
  have hFl:=qOO hF
  obtain⟨al,rfl⟩:=qJA hFl hx
  obtain⟨hxa,hcl⟩:=qCL hFl hx
  unfold hM5 at hM9
  unfold hE5 at hE9
  rw [hmL] at hM9 hE9
  repeat((conv=>whnf);first|apply qza|apply qzb|apply qzc|apply qzd|apply qze|intro(_:Nat))
  conv=>whnf
  refine⟨qjE,?_⟩
  repeat'((conv=>whnf);first|apply qza|apply qzb|apply qzc|apply qzd|apply qze|intro(_:Nat)|refine⟨_,rfl,hlj,?_⟩|refine⟨_,hcl 1 _ rfl,?_⟩|fail)
  refine And.intro (fun z=>?_) (fun z=>?_)
  ·rw [if_pos z] at hM9 hE9
   repeat'((conv=>whnf);first|apply qza|apply qzb|apply qzc|apply qzd|apply qze|intro(_:Nat)|refine⟨_,fun gp hle hin=>qqA gp (hin.cel (id:=6) rfl 10 rfl),?_⟩|refine And.intro ?_ ?_|fail)
   all_goals (conv=>whnf)
   all_goals (first|exact Eq.refl _|(
   intro g2 hg
   refine⟨_,_,by rw [hE9]<;>rfl,by rw [hW9];exact qGA _ _ _ _ hg hF,?_⟩
   rw [hM9]
   exact⟨_,_,_,rfl,{hok with pc:=show InR (20:Int) by decide,answer:=qNG (by decide)},hop,qDA _ _ _ _ (GW.trans hg3 hg) hcf⟩))
  ·rw [if_neg (by rw [z];decide)] at hM9 hE9
   have hFv:=qmL hF
   obtain⟨av,rfl⟩:=qJA hFv hS.ver.2
   obtain⟨oL,cL,oR,cR,oC,cC,oG,cG,hcv,hsn3,hcK,hcG⟩:=quG hFv hS.ver.2
   obtain⟨ag,rfl⟩:=qJA hcG hS.clu.2
   obtain⟨oE,cE,hcg,htk,hcE⟩:=q0G hcG hS.clu.2
   obtain⟨ae,rfl⟩:=qJA hcE hS.end_.2
   obtain⟨oN,cN,hce,hei,hcN⟩:=q2G hcE hS.end_.2
   obtain⟨hvi,hgi,hki⟩:=hS.idx
   obtain⟨hmV,hmG,hmE⟩:=hS.at_
   simp only [qBE,hmV] at hM9
   have hsv:=hsn v (List.mem_of_getElem? hS.ver.2)
   obtain⟨fc,fe,hfv,hfc⟩:=qnS v.snap m.op.listen m.op.host m.op.path
   have hfi:=(qhT g3 hsn3 m.op.listen m.op.host m.op.path ⟨fun r hr=>⟨by have:=(hsv.2 r hr).1;omega,by have:=(hsv.2 r hr).2;omega⟩,hsz⟩).to hfv
   have hcv3:=hcv.sub 0 3
   repeat'((conv=>whnf);first|apply qza|apply qzb|apply qzc|apply qzd|apply qze|intro(_:Nat)|refine⟨_,rfl,hvi,?_⟩|refine⟨_,⟨rfl,hcv3⟩,?_⟩|refine .inl ⟨_,hfi,?_⟩|fail)
   rcases hfc with ⟨rfl,hfo⟩|⟨hne,hfo⟩
   rotate_left
   ·refine And.intro (fun _=>?_) (fun hx=>absurd hx (by simpa using hne))
    simp only [hfo] at hM9
    repeat'((conv=>whnf);first|apply qza|apply qzb|apply qzc|apply qzd|apply qze|intro(_:Nat)|refine⟨_,fun gp hle hin=>qqA gp (hin.cel (id:=6) rfl 10 rfl),?_⟩|refine And.intro ?_ ?_|fail)
    all_goals (conv=>whnf)
    all_goals (first|exact Eq.refl _|(
    intro g2 hg
    refine⟨_,_,by rw [hE9]<;>rfl,by rw [hW9];exact qGA _ _ _ _ hg hF,?_⟩
    rw [hM9]
    exact⟨_,_,_,rfl,{hok with pc:=show InR (20:Int) by decide,answer:=qNG (by decide)},hop,qDA _ _ _ _ (GW.trans hg3 hg) hcf⟩))
   refine And.intro (fun hx=>absurd hx (by simp)) (fun _=>?_)
   have hVP:=qPD hS.right hS.ver.2
   have hfr:=qPM hVP.good hfo
   obtain⟨ck,hck⟩:=qBA (l:=v.snap.clusters) (i:=fc.toNat) (by omega)
   obtain⟨gk,hgk⟩:=qBA (l:=v.groups) (i:=fc.toNat) (by have:=hVP.len;omega)
   have hmC:mC w {m with cluster:=fc}=ck:=by unfold mC;rw [show mV w {m with cluster:=fc}=v from hmV];show(v.snap.clusters[fc.toNat]?).getD _=_;rw [hck];rfl
   simp only [hfo,hmC] at hM9
   obtain⟨ck',hck',he2,_,he4,_,_⟩:=hVP.ends hgk
   cases hck.symm.trans hck'
   have hszk:ck.health.length≤17592186044416:=by omega
   obtain⟨akk,rfl⟩:=qJA hcK hck
   obtain⟨_,_,hrc,hckc⟩:=qgJ hcK hck
   obtain⟨vh,rfl,hpo,_,hh⟩:=id hrc
   obtain⟨oh,ch,rfl,_⟩:=id hh
   have hfcr:InR fc:=by have:=hVP.len;have:=hVP.groups;unfold InR;omega
   have hdw:=qiT g3 hrc hszk hop.2.1 hop.2.2.1
   by_cases hn:qCA ck=[]
   ·have hd5:=hdw.to (v':=.tuple #[.int .i64 (qHC ck m.op.d0),.int .i64 (qHC ck m.op.d1),.int .i64 5]) (by simp [hErr,hn])
    rw [if_pos hn] at hM9
    repeat'((conv=>whnf);first|apply qza|apply qzb|apply qzc|apply qzd|apply qze|intro(_:Nat)|refine⟨_,fun gp hle hin=>q3E gp (hin.cel (id:=6) rfl 13 rfl) (hin.cel (id:=6) rfl 15 rfl) (hin.cel (id:=5) rfl 4 rfl) hvi (hcv.mono hle) hfr (hckc.mono hle),?_⟩|refine .inl ⟨_,hd5,?_⟩|fail)
    conv=>whnf
    refine⟨fun _=>?_,fun h=>nomatch h⟩
    repeat'((conv=>whnf);first|apply qza|apply qzb|apply qzc|apply qzd|apply qze|intro(_:Nat)|refine⟨_,fun gp hle hin=>qqA gp (hin.cel (id:=6) rfl 10 rfl),?_⟩|refine And.intro ?_ ?_|fail)
    all_goals (conv=>whnf)
    all_goals (first|exact Eq.refl _|(
    intro g2 hg
    refine⟨_,_,by rw [hE9]<;>rfl,by rw [hW9];exact qGA _ _ _ _ hg hF,?_⟩
    rw [hM9]
    exact⟨_,_,_,rfl,{hok with cluster:=hfcr,pc:=show InR (20:Int) by decide,answer:=qNG (by decide)},hop,qDA _ _ _ _ (GW.trans hg3 hg) hcf⟩))
   ·have hd0:=hdw.to (v':=.tuple #[.int .i64 (qHC ck m.op.d0),.int .i64 (qHC ck m.op.d1),.int .i64 0]) (by simp [hErr,hn])
    rw [if_neg hn] at hM9
    repeat'((conv=>whnf);first|apply qza|apply qzb|apply qzc|apply qzd|apply qze|intro(_:Nat)|refine⟨_,fun gp hle hin=>q3E gp (hin.cel (id:=6) rfl 13 rfl) (hin.cel (id:=6) rfl 15 rfl) (hin.cel (id:=5) rfl 4 rfl) hvi (hcv.mono hle) hfr (hckc.mono hle),?_⟩|refine .inl ⟨_,hd0,?_⟩|fail)
    conv=>whnf
    refine⟨fun h=>(nomatch h),fun _=>?_⟩
    repeat'((conv=>whnf);first|apply qza|apply qzb|apply qzc|apply qzd|apply qze|intro(_:Nat)|refine⟨_,fun gp hle hin=>q3E gp (hin.cel (id:=6) rfl 13 rfl) (hin.cel (id:=6) rfl 15 rfl) (hin.cel (id:=5) rfl 4 rfl) hvi (hcv.mono hle) hfr (hckc.mono hle),?_⟩|fail)
    refine And.intro (fun z=>?_) (fun z=>?_)
    ·rw [if_pos (beqT z)] at hM9
     repeat'((conv=>whnf);first|apply qza|apply qzb|apply qzc|apply qzd|apply qze|intro(_:Nat)|refine⟨_,fun gp hle hin=>qqA gp (hin.cel (id:=6) rfl 10 rfl),?_⟩|refine And.intro ?_ ?_|fail)
     all_goals (conv=>whnf)
     all_goals (first|exact Eq.refl _|(
     intro g2 hg
     refine⟨_,_,by rw [hE9]<;>rfl,by rw [hW9];exact qGA _ _ _ _ hg hF,?_⟩
     rw [hM9]
     exact⟨_,_,_,rfl,{hok with cluster:=hfcr,pc:=show InR (6:Int) by decide},hop,qDA _ _ _ _ (GW.trans hg3 hg) hcf⟩))
    ·rw [if_neg (beqF z)] at hM9
     repeat'((conv=>whnf);first|apply qza|apply qzb|apply qzc|apply qzd|apply qze|intro(_:Nat)|refine⟨_,fun gp hle hin=>qqA gp (hin.cel (id:=6) rfl 10 rfl),?_⟩|refine And.intro ?_ ?_|fail)
     all_goals (conv=>whnf)
     all_goals (first|exact Eq.refl _|(
     intro g2 hg
     refine⟨_,_,by rw [hE9]<;>rfl,by rw [hW9];exact qGA _ _ _ _ hg hF,?_⟩
     rw [hM9]
     exact⟨_,_,_,rfl,{hok with cluster:=hfcr,end_:=qZP hszk,other:=qZP hszk,pc:=show InR (7:Int) by decide},hop,qDA _ _ _ _ (GW.trans hg3 hg) hcf⟩)))
/- Requests: the program's step,place 6. -/
open Go.Proofs.YtompjkkgaafllaaGreat.Sx Go.RowKit
theorem qYU (g:GW) {cs ms:List Value} {w:Wd} {m:Mach} (hw:rWo g cs w) (hM:qRB g ms m) (hsn:SnW w) (hb:BgW 1000000 w) (hsz:SmO m) (hgo:hGo w m) (h0:m.pc=6):Ok Tryz.prog qIA [.agg ⟨cs⟩,.agg ⟨ms⟩] g (HaP w m):=by
 obtain⟨hW9,hM9,hE9⟩:=q1A hgo (by omega)
 obtain⟨kW,kM,kE⟩:=ha6 h0
 rw [kW] at hW9
 rw [kM] at hM9
 rw [kE] at hE9
 clear kW kM kE
 have hs:=hgo.1
 obtain⟨v,gr,en,hS⟩:=id (suitB_iff.1 hs)
 obtain⟨oa,ca,ob,cb,oc,cc,od,cd,oe,ce,o1,t1,o2,t2,o3,t3,rfl,rfl,hw0,hM0,⟨i1,i2,i3⟩,hP,hV,hL,hC,hR,⟨a1,a2,a0,hP1⟩,⟨b1,b2,b0,hV1⟩,⟨c1,c2,c0,hL1⟩,⟨d1,d2,d0,hC1⟩,⟨e1,e2,e0,hR1⟩,hok,hop,hcf⟩:=qLE hw hM
 exact Ok.of_fn hm qRD 5 qLA (args:=[.v (.agg ⟨wQ w oa ca ob cb oc cc od cd oe ce⟩),.v (.agg ⟨mQ m o1 t1 o2 t2 o3 t3⟩)]) (by
  repeat((conv=>whnf);first|apply qza|apply qzb|apply qzc|apply qzd|apply qze|intro(_:Nat))
  conv=>whnf
  refine dT (by omega) ?_
  repeat((conv=>whnf);first|apply qza|apply qzb|apply qzc|apply qzd|apply qze|intro(_:Nat))
  conv=>whnf
  refine dF (by omega) ?_
  repeat((conv=>whnf);first|apply qza|apply qzb|apply qzc|apply qzd|apply qze|intro(_:Nat))
  conv=>whnf
  refine dF (by omega) ?_
  repeat((conv=>whnf);first|apply qza|apply qzb|apply qzc|apply qzd|apply qze|intro(_:Nat))
  conv=>whnf
  refine dF (by omega) ?_
  repeat((conv=>whnf);first|apply qza|apply qzb|apply qzc|apply qzd|apply qze|intro(_:Nat))
  conv=>whnf
  refine .inl ⟨_,qbA _ hw0 hM0 hsn hb,?_⟩
  repeat((conv=>whnf);first|apply qza|apply qzb|apply qzc|apply qzd|apply qze|intro(_:Nat))
  conv=>whnf
  refine⟨fun hx=>absurd (hs.symm.trans (nb1 hx)) (by decide),fun _=>?_⟩
  repeat((conv=>whnf);first|apply qza|apply qzb|apply qzc|apply qzd|apply qze|intro(_:Nat))
  conv=>whnf
  refine⟨fun _=>?_,fun _=>?_⟩
  case' refine_1 =>
   repeat((conv=>whnf);first|apply qza|apply qzb|apply qzc|apply qzd|apply qze|intro(_:Nat))
   conv=>whnf
   refine⟨fun hx=>absurd hx (by simp [h0]),fun _=>?_⟩
   repeat((conv=>whnf);first|apply qza|apply qzb|apply qzc|apply qzd|apply qze|intro(_:Nat))
   conv=>whnf
   refine⟨fun hx=>absurd hx (by simp [h0]),fun _=>?_⟩
   repeat((conv=>whnf);first|apply qza|apply qzb|apply qzc|apply qzd|apply qze|intro(_:Nat))
   conv=>whnf
   refine⟨fun hx=>absurd hx (by simp [h0]),fun _=>?_⟩
  all_goals (
   repeat((conv=>whnf);first|apply qza|apply qzb|apply qzc|apply qzd|apply qze|intro(_:Nat))
   conv=>whnf
   refine .inl ⟨_,q7A _,?_⟩
   repeat((conv=>whnf);first|apply qza|apply qzb|apply qzc|apply qzd|apply qze|intro(_:Nat))
   conv=>whnf
   refine⟨6,⟨h0,by decide⟩,?_⟩
   repeat((conv=>whnf);first|apply qza|apply qzb|apply qzc|apply qzd|apply qze|intro(_:Nat))
   conv=>whnf
   refine⟨fun h=>(nomatch h),fun _=>?_⟩
   repeat((conv=>whnf);first|apply qza|apply qzb|apply qzc|apply qzd|apply qze|intro(_:Nat))
   refine .inr ((qhA _ hw0 hb).mono fun v g3 hg3 hO=>?_)
   obtain⟨cs,T,rfl,hT⟩:=hO
   have hF:=qsA hT
   obtain⟨oa',ca',ob',cb',oc',cc',od',cd',oe',ce',rfl⟩:=qRA hF
   obtain⟨b1,k1,b2,k2,va,vb,vd,vn,T2,hq,hcv,hcg,htk,hE2,hPT,_⟩:=qgO hT hS.ver.2 hS.clu.2
   cases hq
   have hei:=(qhQ hF hS.ver.2 hS.clu.2 hS.end_.2).1
   obtain⟨b5,j5,bc,ty5,⟨hA,p1,p2,p3,p4⟩,_,hk5⟩:=hPT (wU (gr.ticket+1)) (qiQ _)
   obtain⟨hvi,hgi,hki⟩:=hS.idx
   obtain⟨hmV,hmG,hmE⟩:=hS.at_
   have hcl:=hS.cl
   rw [hmG] at hW9 hM9 hE9
   simp only [evV,hmV] at hW9 hE9
   repeat((conv=>whnf);first|apply qza|apply qzb|apply qzc|apply qzd|apply qze|intro(_:Nat))
   conv=>whnf
   refine⟨q7F,?_⟩
   repeat'((conv=>whnf);first|apply qza|apply qzb|apply qzc|apply qzd|apply qze|intro(_:Nat)|refine⟨_,fun gp hle hin=>qlJ gp (hin.cel (id:=6) rfl 13 rfl) (hin.cel (id:=6) rfl 15 rfl) (hin.cel (id:=5) rfl 4 rfl) hvi (hcv.mono hle) hgi,?_⟩|refine⟨_,hcg 0 _ rfl,?_⟩|refine And.intro ?_ ?_|fail)
   conv=>whnf
   refine⟨b5,j5,bc,ty5,⟨by first|exact hA|(rw [← hA];rfl)|(rw [← hA,qpC]),p1,p2,p3,p4⟩,?_⟩
   repeat((conv=>whnf);first|apply qza|apply qzb|apply qzc|apply qzd|apply qze|intro(_:Nat))
   conv=>whnf
   refine fun g6 u6=>?_
   have hFx:=qsA (hk5 g6 u6)
   have hle6:g≤g6:=u6.le hg3 (fun h=>by have:=g.wf _ h;omega)
   have hcw:=u6.rd p2 p4
   rw [← hA] at hcw
   have hv6:=qYA (y:=({v with groups:=v.groups.set m.cluster.toNat ({gr with ticket:=wU (gr.ticket+1)}:Group)}:Version)) hS.ver.2
   have hx6:=qYA (y:=({gr with ticket:=wU (gr.ticket+1)}:Group)) hS.clu.2
   have hFv6:=qmL hFx
   obtain⟨oL6,cL6,oR6,cR6,oC6,cC6,oG6,cG6,hcv6,hsn6,hcK6,hcG6⟩:=quG hFv6 hv6
   obtain⟨ag6,rfl⟩:=qJA hcG6 hx6
   obtain⟨oE6,cE6,hcg6,_,hcE6⟩:=q0G hcG6 hx6
   have hvi6:0≤m.version∧m.version<w.versions.length:=hvi
   have hgi6:0≤m.cluster∧m.cluster<((v.groups.set m.cluster.toNat ({gr with ticket:=wU (gr.ticket+1)}:Group)).length:Nat):=by simpa only [List.length_set] using hgi
   obtain⟨ak6,rfl⟩:=qJA hcK6 hcl.1
   obtain⟨_,_,hrc,hck6⟩:=qgJ hcK6 hcl.1
   obtain⟨vh,rfl,_,_,hh⟩:=id hrc
   obtain⟨oh,ch,rfl,_⟩:=id hh
   have hkk:0≤m.cluster∧m.cluster<v.snap.clusters.length:=⟨hS.clu.1,by have:=(List.getElem?_eq_some_iff.1 hcl.1).1;omega⟩
   obtain⟨_,_,_,_,he4,_⟩:=(qPD hS.right hS.ver.2).ends hS.clu.2
   have hsz:(mC w m).health.length≤17592186044416:=by have:=hcl.2;omega
   repeat'((conv=>whnf);first|apply qza|apply qzb|apply qzc|apply qzd|apply qze|intro(_:Nat)|refine⟨_,fun gp hle hin=>q3E gp (hin.cel (id:=6) rfl 13 rfl) (hin.cel (id:=6) rfl 15 rfl) (hin.cel (id:=5) rfl 4 rfl) hvi6 (hcv6.mono hle) hkk (hck6.mono hle),?_⟩|refine .inl ⟨_,qdT _ hrc hsz htk,?_⟩|refine⟨_,fun gp hle hin=>qqD gp (hin.cel (id:=6) rfl 10 rfl) (hin.cel (id:=6) rfl 13 rfl) (hin.cel (id:=5) rfl 4 rfl) hvi6 (hcv6.mono hle),?_⟩|refine And.intro ?_ ?_|fail)
   all_goals (conv=>whnf)
   all_goals (first|exact Eq.refl _|(
   intro g2 hg
   refine⟨_,_,by rw [hE9]<;>rfl,by rw [hW9];exact qGA _ _ _ _ hg hFx,?_⟩
   rw [hM9]
   exact⟨_,_,_,rfl,{hok with end_:=qDP hsz,pc:=show InR (9:Int) by decide},hop,qDA _ _ _ _ (GW.trans hle6 hg) hcf⟩))))
/- Requests: the program's step,place 7. -/
open Go.Proofs.YtompjkkgaafllaaGreat.Sx Go.RowKit
theorem qXU (g:GW) {cs ms:List Value} {w:Wd} {m:Mach} (hw:rWo g cs w) (hM:qRB g ms m) (hsn:SnW w) (hb:BgW 1000000 w) (hsz:SmO m) (hgo:hGo w m) (h0:m.pc=7):Ok Tryz.prog qIA [.agg ⟨cs⟩,.agg ⟨ms⟩] g (HaP w m):=by
 obtain⟨hW9,hM9,hE9⟩:=q1A hgo (by omega)
 obtain⟨kW,kM,kE⟩:=ha7 h0
 rw [kW] at hW9
 rw [kM] at hM9
 rw [kE] at hE9
 clear kW kM kE
 have hs:=hgo.1
 obtain⟨v,gr,en,hS⟩:=id (suitB_iff.1 hs)
 obtain⟨oa,ca,ob,cb,oc,cc,od,cd,oe,ce,o1,t1,o2,t2,o3,t3,rfl,rfl,hw0,hM0,⟨i1,i2,i3⟩,hP,hV,hL,hC,hR,⟨a1,a2,a0,hP1⟩,⟨b1,b2,b0,hV1⟩,⟨c1,c2,c0,hL1⟩,⟨d1,d2,d0,hC1⟩,⟨e1,e2,e0,hR1⟩,hok,hop,hcf⟩:=qLE hw hM
 exact Ok.of_fn hm qRD 5 qLA (args:=[.v (.agg ⟨wQ w oa ca ob cb oc cc od cd oe ce⟩),.v (.agg ⟨mQ m o1 t1 o2 t2 o3 t3⟩)]) (by
  repeat((conv=>whnf);first|apply qza|apply qzb|apply qzc|apply qzd|apply qze|intro(_:Nat))
  conv=>whnf
  refine dT (by omega) ?_
  repeat((conv=>whnf);first|apply qza|apply qzb|apply qzc|apply qzd|apply qze|intro(_:Nat))
  conv=>whnf
  refine dF (by omega) ?_
  repeat((conv=>whnf);first|apply qza|apply qzb|apply qzc|apply qzd|apply qze|intro(_:Nat))
  conv=>whnf
  refine dF (by omega) ?_
  repeat((conv=>whnf);first|apply qza|apply qzb|apply qzc|apply qzd|apply qze|intro(_:Nat))
  conv=>whnf
  refine dF (by omega) ?_
  repeat((conv=>whnf);first|apply qza|apply qzb|apply qzc|apply qzd|apply qze|intro(_:Nat))
  conv=>whnf
  refine .inl ⟨_,qbA _ hw0 hM0 hsn hb,?_⟩
  repeat((conv=>whnf);first|apply qza|apply qzb|apply qzc|apply qzd|apply qze|intro(_:Nat))
  conv=>whnf
  refine⟨fun hx=>absurd (hs.symm.trans (nb1 hx)) (by decide),fun _=>?_⟩
  repeat((conv=>whnf);first|apply qza|apply qzb|apply qzc|apply qzd|apply qze|intro(_:Nat))
  conv=>whnf
  refine⟨fun _=>?_,fun _=>?_⟩
  case' refine_1 =>
   repeat((conv=>whnf);first|apply qza|apply qzb|apply qzc|apply qzd|apply qze|intro(_:Nat))
   conv=>whnf
   refine⟨fun hx=>absurd hx (by simp [h0]),fun _=>?_⟩
   repeat((conv=>whnf);first|apply qza|apply qzb|apply qzc|apply qzd|apply qze|intro(_:Nat))
   conv=>whnf
   refine⟨fun hx=>absurd hx (by simp [h0]),fun _=>?_⟩
   repeat((conv=>whnf);first|apply qza|apply qzb|apply qzc|apply qzd|apply qze|intro(_:Nat))
   conv=>whnf
   refine⟨fun hx=>absurd hx (by simp [h0]),fun _=>?_⟩
  all_goals (
   repeat((conv=>whnf);first|apply qza|apply qzb|apply qzc|apply qzd|apply qze|intro(_:Nat))
   conv=>whnf
   refine .inl ⟨_,q7A _,?_⟩
   repeat((conv=>whnf);first|apply qza|apply qzb|apply qzc|apply qzd|apply qze|intro(_:Nat))
   conv=>whnf
   refine⟨7,⟨h0,by decide⟩,?_⟩
   repeat((conv=>whnf);first|apply qza|apply qzb|apply qzc|apply qzd|apply qze|intro(_:Nat))
   conv=>whnf
   refine⟨fun h=>(nomatch h),fun _=>?_⟩
   repeat((conv=>whnf);first|apply qza|apply qzb|apply qzc|apply qzd|apply qze|intro(_:Nat))
   refine .inr ((qhA _ hw0 hb).mono fun v g3 hg3 hO=>?_)
   obtain⟨cs,T,rfl,hT⟩:=hO
   have hF:=qsA hT
   obtain⟨oa',ca',ob',cb',oc',cc',od',cd',oe',ce',rfl⟩:=qRA hF
   have hFv:=qmL hF
   obtain⟨av,rfl⟩:=qJA hFv hS.ver.2
   obtain⟨oL,cL,oR,cR,oC,cC,oG,cG,hcv,hsn3,hcK,hcG⟩:=quG hFv hS.ver.2
   obtain⟨ag,rfl⟩:=qJA hcG hS.clu.2
   obtain⟨oE,cE,hcg,htk,hcE⟩:=q0G hcG hS.clu.2
   obtain⟨ae,rfl⟩:=qJA hcE hS.end_.2
   obtain⟨oN,cN,hce,hei,hcN⟩:=q2G hcE hS.end_.2
   obtain⟨hvi,hgi,hki⟩:=hS.idx
   obtain⟨hmV,hmG,hmE⟩:=hS.at_
   rw [hmE] at hM9 hE9
   simp only [evV,hmV] at hE9
   repeat((conv=>whnf);first|apply qza|apply qzb|apply qzc|apply qzd|apply qze|intro(_:Nat))
   conv=>whnf
   refine⟨q8D,?_⟩
   repeat'((conv=>whnf);first|apply qza|apply qzb|apply qzc|apply qzd|apply qze|intro(_:Nat)|refine⟨_,fun gp hle hin=>qCC gp (hin.cel (id:=6) rfl 13 rfl) (hin.cel (id:=6) rfl 15 rfl) (hin.cel (id:=6) rfl 16 rfl) (hin.cel (id:=5) rfl 4 rfl) hvi (hcv.mono hle) hgi (hcg.mono hle) hki,?_⟩|refine⟨_,hce 2 _ rfl,?_⟩|refine⟨_,fun gp hle hin=>qqD gp (hin.cel (id:=6) rfl 10 rfl) (hin.cel (id:=6) rfl 13 rfl) (hin.cel (id:=5) rfl 4 rfl) hvi (hcv.mono hle),?_⟩|refine And.intro ?_ ?_|fail)
   all_goals (conv=>whnf)
   all_goals (first|exact Eq.refl _|(
   intro g2 hg
   refine⟨_,_,by rw [hE9]<;>rfl,by rw [hW9];exact qGA _ _ _ _ hg hF,?_⟩
   rw [hM9]
   exact⟨_,_,_,rfl,{hok with i:=hei.2.1,pc:=show InR (8:Int) by decide},hop,qDA _ _ _ _ (GW.trans hg3 hg) hcf⟩))))
/- Requests: the program's step,place 8. -/
open Go.Proofs.YtompjkkgaafllaaGreat.Sx Go.RowKit
theorem qWU (g:GW) {cs ms:List Value} {w:Wd} {m:Mach} (hw:rWo g cs w) (hM:qRB g ms m) (hsn:SnW w) (hb:BgW 1000000 w) (hsz:SmO m) (hgo:hGo w m) (h0:m.pc=8):Ok Tryz.prog qIA [.agg ⟨cs⟩,.agg ⟨ms⟩] g (HaP w m):=by
 obtain⟨hW9,hM9,hE9⟩:=q1A hgo (by omega)
 obtain⟨kW,kM,kE⟩:=ha8 h0
 rw [kW] at hW9
 rw [kM] at hM9
 rw [kE] at hE9
 clear kW kM kE
 have hs:=hgo.1
 obtain⟨v,gr,en,hS⟩:=id (suitB_iff.1 hs)
 obtain⟨oa,ca,ob,cb,oc,cc,od,cd,oe,ce,o1,t1,o2,t2,o3,t3,rfl,rfl,hw0,hM0,⟨i1,i2,i3⟩,hP,hV,hL,hC,hR,⟨a1,a2,a0,hP1⟩,⟨b1,b2,b0,hV1⟩,⟨c1,c2,c0,hL1⟩,⟨d1,d2,d0,hC1⟩,⟨e1,e2,e0,hR1⟩,hok,hop,hcf⟩:=qLE hw hM
 exact Ok.of_fn hm qRD 5 qLA (args:=[.v (.agg ⟨wQ w oa ca ob cb oc cc od cd oe ce⟩),.v (.agg ⟨mQ m o1 t1 o2 t2 o3 t3⟩)]) (by
  repeat((conv=>whnf);first|apply qza|apply qzb|apply qzc|apply qzd|apply qze|intro(_:Nat))
  conv=>whnf
  refine dT (by omega) ?_
  repeat((conv=>whnf);first|apply qza|apply qzb|apply qzc|apply qzd|apply qze|intro(_:Nat))
  conv=>whnf
  refine dF (by omega) ?_
  repeat((conv=>whnf);first|apply qza|apply qzb|apply qzc|apply qzd|apply qze|intro(_:Nat))
  conv=>whnf
  refine dF (by omega) ?_
  repeat((conv=>whnf);first|apply qza|apply qzb|apply qzc|apply qzd|apply qze|intro(_:Nat))
  conv=>whnf
  refine dF (by omega) ?_
  repeat((conv=>whnf);first|apply qza|apply qzb|apply qzc|apply qzd|apply qze|intro(_:Nat))
  conv=>whnf
  refine .inl ⟨_,qbA _ hw0 hM0 hsn hb,?_⟩
  repeat((conv=>whnf);first|apply qza|apply qzb|apply qzc|apply qzd|apply qze|intro(_:Nat))
  conv=>whnf
  refine⟨fun hx=>absurd (hs.symm.trans (nb1 hx)) (by decide),fun _=>?_⟩
  repeat((conv=>whnf);first|apply qza|apply qzb|apply qzc|apply qzd|apply qze|intro(_:Nat))
  conv=>whnf
  refine⟨fun _=>?_,fun _=>?_⟩
  case' refine_1 =>
   repeat((conv=>whnf);first|apply qza|apply qzb|apply qzc|apply qzd|apply qze|intro(_:Nat))
   conv=>whnf
   refine⟨fun hx=>absurd hx (by simp [h0]),fun _=>?_⟩
   repeat((conv=>whnf);first|apply qza|apply qzb|apply qzc|apply qzd|apply qze|intro(_:Nat))
   conv=>whnf
   refine⟨fun hx=>absurd hx (by simp [h0]),fun _=>?_⟩
   repeat((conv=>whnf);first|apply qza|apply qzb|apply qzc|apply qzd|apply qze|intro(_:Nat))
   conv=>whnf
   refine⟨fun hx=>absurd hx (by simp [h0]),fun _=>?_⟩
  all_goals (
   repeat((conv=>whnf);first|apply qza|apply qzb|apply qzc|apply qzd|apply qze|intro(_:Nat))
   conv=>whnf
   refine .inl ⟨_,q7A _,?_⟩
   repeat((conv=>whnf);first|apply qza|apply qzb|apply qzc|apply qzd|apply qze|intro(_:Nat))
   conv=>whnf
   refine⟨8,⟨h0,by decide⟩,?_⟩
   repeat((conv=>whnf);first|apply qza|apply qzb|apply qzc|apply qzd|apply qze|intro(_:Nat))
   conv=>whnf
   refine⟨fun h=>(nomatch h),fun _=>?_⟩
   repeat((conv=>whnf);first|apply qza|apply qzb|apply qzc|apply qzd|apply qze|intro(_:Nat))
   refine .inr ((qhA _ hw0 hb).mono fun v g3 hg3 hO=>?_)
   obtain⟨cs,T,rfl,hT⟩:=hO
   have hF:=qsA hT
   obtain⟨oa',ca',ob',cb',oc',cc',od',cd',oe',ce',rfl⟩:=qRA hF
   have hFv:=qmL hF
   obtain⟨av,rfl⟩:=qJA hFv hS.ver.2
   obtain⟨oL,cL,oR,cR,oC,cC,oG,cG,hcv,hsn3,hcK,hcG⟩:=quG hFv hS.ver.2
   obtain⟨ag,rfl⟩:=qJA hcG hS.clu.2
   obtain⟨oE,cE,hcg,htk,hcE⟩:=q0G hcG hS.clu.2
   obtain⟨ae,rfl⟩:=qJA hcE hS.end_.2
   obtain⟨oN,cN,hce,hei,hcN⟩:=q2G hcE hS.end_.2
   obtain⟨hvi,hgi,hki⟩:=hS.idx
   obtain⟨hmV,hmG,hmE⟩:=hS.at_
   obtain⟨eo,heo⟩:=qBA (l:=gr.ends) (i:=m.other.toNat) (by have:=hS.other;omega)
   obtain⟨oN2,cN2,hco,heo2,_⟩:=q2G hcE heo
   have hmO:mE w m m.other=eo:=by unfold mE;rw [hmG,heo];rfl
   have hoi:=hS.other
   rw [hmO] at hM9 hE9
   simp only [evV,hmV] at hE9
   repeat((conv=>whnf);first|apply qza|apply qzb|apply qzc|apply qzd|apply qze|intro(_:Nat))
   conv=>whnf
   refine⟨q6D,?_⟩
   repeat'((conv=>whnf);first|apply qza|apply qzb|apply qzc|apply qzd|apply qze|intro(_:Nat)|refine⟨_,fun gp hle hin=>qlJ gp (hin.cel (id:=6) rfl 13 rfl) (hin.cel (id:=6) rfl 15 rfl) (hin.cel (id:=5) rfl 4 rfl) hvi (hcv.mono hle) hgi,?_⟩|refine⟨_,hcg 1 _ rfl,?_⟩|refine⟨_,rfl,hoi,?_⟩|refine⟨_,hco 2 _ rfl,?_⟩|refine .inl ⟨_,qfT _,?_⟩|refine⟨_,fun gp hle hin=>qqD gp (hin.cel (id:=6) rfl 10 rfl) (hin.cel (id:=6) rfl 13 rfl) (hin.cel (id:=5) rfl 4 rfl) hvi (hcv.mono hle),?_⟩|refine And.intro ?_ ?_|fail)
   all_goals (conv=>whnf)
   all_goals (first|exact Eq.refl _|(
   intro g2 hg
   refine⟨_,_,by rw [hE9]<;>rfl,by rw [hW9];exact qGA _ _ _ _ hg hF,?_⟩
   rw [hM9]
   exact⟨_,_,_,rfl,{hok with end_:=qfS hok.end_ hok.other,pc:=show InR (9:Int) by decide},hop,qDA _ _ _ _ (GW.trans hg3 hg) hcf⟩))))
/- Requests: the program's step,place 9. -/
open Go.Proofs.YtompjkkgaafllaaGreat.Sx Go.RowKit
theorem qVU (g:GW) {cs ms:List Value} {w:Wd} {m:Mach} (hw:rWo g cs w) (hM:qRB g ms m) (hsn:SnW w) (hb:BgW 1000000 w) (hsz:SmO m) (hgo:hGo w m) (h0:m.pc=9):Ok Tryz.prog qIA [.agg ⟨cs⟩,.agg ⟨ms⟩] g (HaP w m):=by
 obtain⟨hW9,hM9,hE9⟩:=q1A hgo (by omega)
 obtain⟨kW,kM,kE⟩:=ha9 h0
 rw [kW] at hW9
 rw [kM] at hM9
 rw [kE] at hE9
 clear kW kM kE
 have hs:=hgo.1
 obtain⟨v,gr,en,hS⟩:=id (suitB_iff.1 hs)
 obtain⟨oa,ca,ob,cb,oc,cc,od,cd,oe,ce,o1,t1,o2,t2,o3,t3,rfl,rfl,hw0,hM0,⟨i1,i2,i3⟩,hP,hV,hL,hC,hR,⟨a1,a2,a0,hP1⟩,⟨b1,b2,b0,hV1⟩,⟨c1,c2,c0,hL1⟩,⟨d1,d2,d0,hC1⟩,⟨e1,e2,e0,hR1⟩,hok,hop,hcf⟩:=qLE hw hM
 exact Ok.of_fn hm qRD 5 qLA (args:=[.v (.agg ⟨wQ w oa ca ob cb oc cc od cd oe ce⟩),.v (.agg ⟨mQ m o1 t1 o2 t2 o3 t3⟩)]) (by
  repeat((conv=>whnf);first|apply qza|apply qzb|apply qzc|apply qzd|apply qze|intro(_:Nat))
  conv=>whnf
  refine dT (by omega) ?_
  repeat((conv=>whnf);first|apply qza|apply qzb|apply qzc|apply qzd|apply qze|intro(_:Nat))
  conv=>whnf
  refine dF (by omega) ?_
  repeat((conv=>whnf);first|apply qza|apply qzb|apply qzc|apply qzd|apply qze|intro(_:Nat))
  conv=>whnf
  refine dF (by omega) ?_
  repeat((conv=>whnf);first|apply qza|apply qzb|apply qzc|apply qzd|apply qze|intro(_:Nat))
  conv=>whnf
  refine dF (by omega) ?_
  repeat((conv=>whnf);first|apply qza|apply qzb|apply qzc|apply qzd|apply qze|intro(_:Nat))
  conv=>whnf
  refine .inl ⟨_,qbA _ hw0 hM0 hsn hb,?_⟩
  repeat((conv=>whnf);first|apply qza|apply qzb|apply qzc|apply qzd|apply qze|intro(_:Nat))
  conv=>whnf
  refine⟨fun hx=>absurd (hs.symm.trans (nb1 hx)) (by decide),fun _=>?_⟩
  repeat((conv=>whnf);first|apply qza|apply qzb|apply qzc|apply qzd|apply qze|intro(_:Nat))
  conv=>whnf
  refine⟨fun _=>?_,fun _=>?_⟩
  case' refine_1 =>
   repeat((conv=>whnf);first|apply qza|apply qzb|apply qzc|apply qzd|apply qze|intro(_:Nat))
   conv=>whnf
   refine⟨fun hx=>absurd hx (by simp [h0]),fun _=>?_⟩
   repeat((conv=>whnf);first|apply qza|apply qzb|apply qzc|apply qzd|apply qze|intro(_:Nat))
   conv=>whnf
   refine⟨fun hx=>absurd hx (by simp [h0]),fun _=>?_⟩
   repeat((conv=>whnf);first|apply qza|apply qzb|apply qzc|apply qzd|apply qze|intro(_:Nat))
   conv=>whnf
   refine⟨fun hx=>absurd hx (by simp [h0]),fun _=>?_⟩
  all_goals (
   repeat((conv=>whnf);first|apply qza|apply qzb|apply qzc|apply qzd|apply qze|intro(_:Nat))
   conv=>whnf
   refine .inl ⟨_,q7A _,?_⟩
   repeat((conv=>whnf);first|apply qza|apply qzb|apply qzc|apply qzd|apply qze|intro(_:Nat))
   conv=>whnf
   refine⟨9,⟨h0,by decide⟩,?_⟩
   repeat((conv=>whnf);first|apply qza|apply qzb|apply qzc|apply qzd|apply qze|intro(_:Nat))
   conv=>whnf
   refine⟨fun h=>(nomatch h),fun _=>?_⟩
   repeat((conv=>whnf);first|apply qza|apply qzb|apply qzc|apply qzd|apply qze|intro(_:Nat))
   refine .inr ((qhA _ hw0 hb).mono fun v g3 hg3 hO=>?_)
   obtain⟨cs,T,rfl,hT⟩:=hO
   have hF:=qsA hT
   obtain⟨oa',ca',ob',cb',oc',cc',od',cd',oe',ce',rfl⟩:=qRA hF
   have hFv:=qmL hF
   obtain⟨av,rfl⟩:=qJA hFv hS.ver.2
   obtain⟨oL,cL,oR,cR,oC,cC,oG,cG,hcv,hsn3,hcK,hcG⟩:=quG hFv hS.ver.2
   obtain⟨ag,rfl⟩:=qJA hcG hS.clu.2
   obtain⟨oE,cE,hcg,htk,hcE⟩:=q0G hcG hS.clu.2
   obtain⟨ae,rfl⟩:=qJA hcE hS.end_.2
   obtain⟨oN,cN,hce,hei,hcN⟩:=q2G hcE hS.end_.2
   obtain⟨hvi,hgi,hki⟩:=hS.idx
   obtain⟨hmV,hmG,hmE⟩:=hS.at_
   unfold Go.Proofs.YtompjkkgaafllaaGreat.Sx.hM9 at hM9
   rw [hmE] at hM9 hE9
   simp only [evV,hmV] at hE9
   have hir:=qUP en.head
   have hnl:=hei.2.2
   repeat((conv=>whnf);first|apply qza|apply qzb|apply qzc|apply qzd|apply qze|intro(_:Nat))
   conv=>whnf
   refine⟨qFF,?_⟩
   repeat'((conv=>whnf);first|apply qza|apply qzb|apply qzc|apply qzd|apply qze|intro(_:Nat)|refine⟨_,fun gp hle hin=>qCC gp (hin.cel (id:=6) rfl 13 rfl) (hin.cel (id:=6) rfl 15 rfl) (hin.cel (id:=6) rfl 16 rfl) (hin.cel (id:=5) rfl 4 rfl) hvi (hcv.mono hle) hgi (hcg.mono hle) hki,?_⟩|refine⟨_,hce 0 _ rfl,?_⟩|refine .inl ⟨_,qvL _ hei.1,?_⟩|refine And.intro ?_ ?_|fail)
   all_goals (try exact Eq.refl _)
   ·intro z
    have z:=of_decide_eq_true z
    rw [if_neg (by omega)] at hM9
    repeat'((conv=>whnf);first|apply qza|apply qzb|apply qzc|apply qzd|apply qze|intro(_:Nat)|refine⟨_,fun gp hle hin=>qCC gp (hin.cel (id:=6) rfl 13 rfl) (hin.cel (id:=6) rfl 15 rfl) (hin.cel (id:=6) rfl 16 rfl) (hin.cel (id:=5) rfl 4 rfl) hvi (hcv.mono hle) hgi (hcg.mono hle) hki,?_⟩|refine⟨_,hce 0 _ rfl,?_⟩|refine⟨_,fun gp hle hin=>qqD gp (hin.cel (id:=6) rfl 10 rfl) (hin.cel (id:=6) rfl 13 rfl) (hin.cel (id:=5) rfl 4 rfl) hvi (hcv.mono hle),?_⟩|refine And.intro ?_ ?_|fail)
    all_goals (conv=>whnf)
    all_goals (first|exact Eq.refl _|(
    intro g2 hg
    refine⟨_,_,by rw [hE9]<;>rfl,by rw [hW9];exact qGA _ _ _ _ hg hF,?_⟩
    rw [hM9]
    exact⟨_,_,_,rfl,{hok with word:=hei.1,pc:=show InR (20:Int) by decide,answer:=qNG (by decide)},hop,qDA _ _ _ _ (GW.trans hg3 hg) hcf⟩))
   ·intro z
    have z:=of_decide_eq_false z
    repeat'((conv=>whnf);first|apply qza|apply qzb|apply qzc|apply qzd|apply qze|intro(_:Nat)|refine⟨_,fun gp hle hin=>qCC gp (hin.cel (id:=6) rfl 13 rfl) (hin.cel (id:=6) rfl 15 rfl) (hin.cel (id:=6) rfl 16 rfl) (hin.cel (id:=5) rfl 4 rfl) hvi (hcv.mono hle) hgi (hcg.mono hle) hki,?_⟩|refine⟨_,hce 1 _ rfl,?_⟩|fail)
    refine And.intro (fun z2=>?_) (fun z2=>?_)
    ·have z2:=of_decide_eq_true z2
     rw [if_neg (by omega)] at hM9
     repeat'((conv=>whnf);first|apply qza|apply qzb|apply qzc|apply qzd|apply qze|intro(_:Nat)|refine⟨_,fun gp hle hin=>qCC gp (hin.cel (id:=6) rfl 13 rfl) (hin.cel (id:=6) rfl 15 rfl) (hin.cel (id:=6) rfl 16 rfl) (hin.cel (id:=5) rfl 4 rfl) hvi (hcv.mono hle) hgi (hcg.mono hle) hki,?_⟩|refine⟨_,hce 0 _ rfl,?_⟩|refine⟨_,fun gp hle hin=>qqD gp (hin.cel (id:=6) rfl 10 rfl) (hin.cel (id:=6) rfl 13 rfl) (hin.cel (id:=5) rfl 4 rfl) hvi (hcv.mono hle),?_⟩|refine And.intro ?_ ?_|fail)
     all_goals (conv=>whnf)
     all_goals (first|exact Eq.refl _|(
     intro g2 hg
     refine⟨_,_,by rw [hE9]<;>rfl,by rw [hW9];exact qGA _ _ _ _ hg hF,?_⟩
     rw [hM9]
     exact⟨_,_,_,rfl,{hok with word:=hei.1,pc:=show InR (20:Int) by decide,answer:=qNG (by decide)},hop,qDA _ _ _ _ (GW.trans hg3 hg) hcf⟩))
    ·have z2:=of_decide_eq_false z2
     rw [if_pos (by omega)] at hM9
     repeat'((conv=>whnf);first|apply qza|apply qzb|apply qzc|apply qzd|apply qze|intro(_:Nat)|refine⟨_,fun gp hle hin=>qCC gp (hin.cel (id:=6) rfl 13 rfl) (hin.cel (id:=6) rfl 15 rfl) (hin.cel (id:=6) rfl 16 rfl) (hin.cel (id:=5) rfl 4 rfl) hvi (hcv.mono hle) hgi (hcg.mono hle) hki,?_⟩|refine⟨_,hce 0 _ rfl,?_⟩|refine⟨_,fun gp hle hin=>qqD gp (hin.cel (id:=6) rfl 10 rfl) (hin.cel (id:=6) rfl 13 rfl) (hin.cel (id:=5) rfl 4 rfl) hvi (hcv.mono hle),?_⟩|refine And.intro ?_ ?_|fail)
     all_goals (conv=>whnf)
     all_goals (first|exact Eq.refl _|(
     intro g2 hg
     refine⟨_,_,by rw [hE9]<;>rfl,by rw [hW9];exact qGA _ _ _ _ hg hF,?_⟩
     rw [hM9]
     exact⟨_,_,_,rfl,{hok with word:=hei.1,slot:=show InR (idxT en.head) by unfold InR;omega,pc:=show InR (10:Int) by decide},hop,qDA _ _ _ _ (GW.trans hg3 hg) hcf⟩))))
/- Requests: the program's step,place 10. -/
open Go.Proofs.YtompjkkgaafllaaGreat.Sx Go.RowKit
theorem qYT (g:GW) {cs ms:List Value} {w:Wd} {m:Mach} (hw:rWo g cs w) (hM:qRB g ms m) (hsn:SnW w) (hb:BgW 1000000 w) (hsz:SmO m) (hgo:hGo w m) (h0:m.pc=10):Ok Tryz.prog qIA [.agg ⟨cs⟩,.agg ⟨ms⟩] g (HaP w m):=by
 obtain⟨hW9,hM9,hE9⟩:=q1A hgo (by omega)
 obtain⟨kW,kM,kE⟩:=ha10 h0
 rw [kW] at hW9
 rw [kM] at hM9
 rw [kE] at hE9
 clear kW kM kE
 have hs:=hgo.1
 obtain⟨v,gr,en,hS⟩:=id (suitB_iff.1 hs)
 obtain⟨oa,ca,ob,cb,oc,cc,od,cd,oe,ce,o1,t1,o2,t2,o3,t3,rfl,rfl,hw0,hM0,⟨i1,i2,i3⟩,hP,hV,hL,hC,hR,⟨a1,a2,a0,hP1⟩,⟨b1,b2,b0,hV1⟩,⟨c1,c2,c0,hL1⟩,⟨d1,d2,d0,hC1⟩,⟨e1,e2,e0,hR1⟩,hok,hop,hcf⟩:=qLE hw hM
 exact Ok.of_fn hm qRD 5 qLA (args:=[.v (.agg ⟨wQ w oa ca ob cb oc cc od cd oe ce⟩),.v (.agg ⟨mQ m o1 t1 o2 t2 o3 t3⟩)]) (by
  repeat((conv=>whnf);first|apply qza|apply qzb|apply qzc|apply qzd|apply qze|intro(_:Nat))
  conv=>whnf
  refine dT (by omega) ?_
  repeat((conv=>whnf);first|apply qza|apply qzb|apply qzc|apply qzd|apply qze|intro(_:Nat))
  conv=>whnf
  refine dF (by omega) ?_
  repeat((conv=>whnf);first|apply qza|apply qzb|apply qzc|apply qzd|apply qze|intro(_:Nat))
  conv=>whnf
  refine dF (by omega) ?_
  repeat((conv=>whnf);first|apply qza|apply qzb|apply qzc|apply qzd|apply qze|intro(_:Nat))
  conv=>whnf
  refine dF (by omega) ?_
  repeat((conv=>whnf);first|apply qza|apply qzb|apply qzc|apply qzd|apply qze|intro(_:Nat))
  conv=>whnf
  refine .inl ⟨_,qbA _ hw0 hM0 hsn hb,?_⟩
  repeat((conv=>whnf);first|apply qza|apply qzb|apply qzc|apply qzd|apply qze|intro(_:Nat))
  conv=>whnf
  refine⟨fun hx=>absurd (hs.symm.trans (nb1 hx)) (by decide),fun _=>?_⟩
  repeat((conv=>whnf);first|apply qza|apply qzb|apply qzc|apply qzd|apply qze|intro(_:Nat))
  conv=>whnf
  refine⟨fun _=>?_,fun _=>?_⟩
  case' refine_1 =>
   repeat((conv=>whnf);first|apply qza|apply qzb|apply qzc|apply qzd|apply qze|intro(_:Nat))
   conv=>whnf
   refine⟨fun hx=>absurd hx (by simp [h0]),fun _=>?_⟩
   repeat((conv=>whnf);first|apply qza|apply qzb|apply qzc|apply qzd|apply qze|intro(_:Nat))
   conv=>whnf
   refine⟨fun hx=>absurd hx (by simp [h0]),fun _=>?_⟩
   repeat((conv=>whnf);first|apply qza|apply qzb|apply qzc|apply qzd|apply qze|intro(_:Nat))
   conv=>whnf
   refine⟨fun hx=>absurd hx (by simp [h0]),fun _=>?_⟩
  all_goals (
   repeat((conv=>whnf);first|apply qza|apply qzb|apply qzc|apply qzd|apply qze|intro(_:Nat))
   conv=>whnf
   refine .inl ⟨_,q7A _,?_⟩
   repeat((conv=>whnf);first|apply qza|apply qzb|apply qzc|apply qzd|apply qze|intro(_:Nat))
   conv=>whnf
   refine⟨10,⟨h0,by decide⟩,?_⟩
   repeat((conv=>whnf);first|apply qza|apply qzb|apply qzc|apply qzd|apply qze|intro(_:Nat))
   conv=>whnf
   refine⟨fun h=>(nomatch h),fun _=>?_⟩
   repeat((conv=>whnf);first|apply qza|apply qzb|apply qzc|apply qzd|apply qze|intro(_:Nat))
   refine .inr ((qhA _ hw0 hb).mono fun v g3 hg3 hO=>?_)
   obtain⟨cs,T,rfl,hT⟩:=hO
   have hF:=qsA hT
   obtain⟨oa',ca',ob',cb',oc',cc',od',cd',oe',ce',rfl⟩:=qRA hF
   have hFv:=qmL hF
   obtain⟨av,rfl⟩:=qJA hFv hS.ver.2
   obtain⟨oL,cL,oR,cR,oC,cC,oG,cG,hcv,hsn3,hcK,hcG⟩:=quG hFv hS.ver.2
   obtain⟨ag,rfl⟩:=qJA hcG hS.clu.2
   obtain⟨oE,cE,hcg,htk,hcE⟩:=q0G hcG hS.clu.2
   obtain⟨ae,rfl⟩:=qJA hcE hS.end_.2
   obtain⟨oN,cN,hce,hei,hcN⟩:=q2G hcE hS.end_.2
   obtain⟨hvi,hgi,hki⟩:=hS.idx
   obtain⟨hmV,hmG,hmE⟩:=hS.at_
   obtain⟨y,hy⟩:=qBA (l:=en.next) (i:=m.slot.toNat) (by have:=hS.slot;omega)
   obtain⟨an,rfl⟩:=qJA hcN hy
   obtain⟨hyr,hcy⟩:=qbN hcN hy
   have hsi:=hS.slot
   rw [hmE,hy] at hM9 hE9
   simp only [evV,hmV,Option.getD_some] at hE9 hM9
   repeat((conv=>whnf);first|apply qza|apply qzb|apply qzc|apply qzd|apply qze|intro(_:Nat))
   conv=>whnf
   refine⟨qEF,?_⟩
   repeat'((conv=>whnf);first|apply qza|apply qzb|apply qzc|apply qzd|apply qze|intro(_:Nat)|refine⟨_,fun gp hle hin=>qCC gp (hin.cel (id:=6) rfl 13 rfl) (hin.cel (id:=6) rfl 15 rfl) (hin.cel (id:=6) rfl 16 rfl) (hin.cel (id:=5) rfl 4 rfl) hvi (hcv.mono hle) hgi (hcg.mono hle) hki,?_⟩|refine⟨_,hce 1 _ rfl,?_⟩|refine⟨_,rfl,hsi,?_⟩|refine⟨_,hcy 0 _ rfl,?_⟩|refine⟨_,fun gp hle hin=>qqD gp (hin.cel (id:=6) rfl 10 rfl) (hin.cel (id:=6) rfl 13 rfl) (hin.cel (id:=5) rfl 4 rfl) hvi (hcv.mono hle),?_⟩|refine And.intro ?_ ?_|fail)
   all_goals (conv=>whnf)
   all_goals (first|exact Eq.refl _|(
   intro g2 hg
   refine⟨_,_,by rw [hE9]<;>rfl,by rw [hW9];exact qGA _ _ _ _ hg hF,?_⟩
   rw [hM9]
   exact⟨_,_,_,rfl,{hok with link:=hyr,pc:=show InR (11:Int) by decide},hop,qDA _ _ _ _ (GW.trans hg3 hg) hcf⟩))))
end Go.Proofs.YtompjkkgaafllaaGreat
