/- Ends of requests: the program's step, place 3. -/
import Derived.Test.YthonngjhelcpeaaGreatLW9w
import Derived.Test.YthonngjhelcpeaaGreatLW9l
import Derived.Test.YthonngjhelcpeaaGreatPl
set_option linter.unusedVariables false
set_option linter.unusedSimpArgs false
namespace Go.Proofs.YthonngjhelcpeaaGreat
open Go.Proofs.YthonngjhelcpeaaGreat.Sx Go.RowKit
set_option maxHeartbeats 16000000
set_option maxRecDepth 100000
theorem qEY (g:GW) {cs ms:List Value} {w:Wd} {m:Mach} (hw:rWo g cs w) (hM:qhA g ms m) (hsn:SnW w) (hb:BgW 1000000 w) (hgo:fGo w m) (h0:m.pc=3):Ok Tryz.prog qCB [.agg ⟨cs⟩,.agg ⟨ms⟩] g (FiP w m):=by
 obtain⟨hW9,hM9,hE9⟩:=qhG hgo
 obtain⟨kW,kM,kE⟩:=fa3 (w:=w) h0
 rw [kW] at hW9
 rw [kM] at hM9
 rw [kE] at hE9
 clear kW kM kE
 have hs:=hgo.1
 obtain⟨v,gr,en,hS⟩:=id (suitB_iff.1 hs)
 obtain⟨oa,ca,ob,cb,oc,cc,od,cd,oe,ce,o1,t1,o2,t2,o3,t3,rfl,rfl,hw0,hM0,⟨i1,i2,i3⟩,hP,hV,hL,hC,hR,⟨a1,a2,a0,hP1⟩,⟨b1,b2,b0,hV1⟩,⟨c1,c2,c0,hL1⟩,⟨d1,d2,d0,hC1⟩,⟨e1,e2,e0,hR1⟩,hok,hop,hcf⟩:=q4B hw hM
 exact Ok.of_fn hm noT 0 qhB (args:=[.v (.agg ⟨wQ w oa ca ob cb oc cc od cd oe ce⟩),.v (.agg ⟨mQ m o1 t1 o2 t2 o3 t3⟩)]) (by
  repeat((conv=>whnf);first|apply qza|apply qzb|apply qzc|apply qzd|apply qze|intro(_:Nat))
  conv=>whnf
  refine dF (by omega) ?_
  repeat((conv=>whnf);first|apply qza|apply qzb|apply qzc|apply qzd|apply qze|intro(_:Nat))
  conv=>whnf
  refine dF (by omega) ?_
  repeat((conv=>whnf);first|apply qza|apply qzb|apply qzc|apply qzd|apply qze|intro(_:Nat))
  conv=>whnf
  refine .inl ⟨_,qYA _ hw0 hM0 hsn hb,?_⟩
  repeat((conv=>whnf);first|apply qza|apply qzb|apply qzc|apply qzd|apply qze|intro(_:Nat))
  conv=>whnf
  refine⟨fun hx=>absurd (hs.symm.trans (nb1 hx)) (by decide),fun _=>?_⟩
  repeat((conv=>whnf);first|apply qza|apply qzb|apply qzc|apply qzd|apply qze|intro(_:Nat))
  conv=>whnf
  refine⟨fun hx=>absurd (beqT hx) (by omega),fun _=>?_⟩
  repeat((conv=>whnf);first|apply qza|apply qzb|apply qzc|apply qzd|apply qze|intro(_:Nat))
  refine .inr ((qeA _ hw0 hb).mono fun v g3 hg3 hO=>?_)
  obtain⟨cs,T,rfl,hT⟩:=hO
  have hF:=qTA hT
  obtain⟨oa',ca',ob',cb',oc',cc',od',cd',oe',ce',rfl⟩:=qKA hF
  have hwu:=hok.word
  have hw3:=qDA _ _ _ _ hg3 hw0
  have hM3:=qQA _ _ _ _ hg3 hM0
  obtain⟨b1,k1,b2,k2,va,vb,vd,vn,T2,hq,hcv,hcg,htk,hE2,_,hPK⟩:=qdC hT hS.ver.2 hS.clu.2
  cases hq
  have hei:=(qGE hF hS.ver.2 hS.clu.2 hS.end_.2).1
  obtain⟨hvi,hgi,hki⟩:=hS.idx
  obtain⟨hmV,hmG,hmE⟩:=hS.at_
  have hp1:IntKind.i64.wrap (m.pc+1)=4:=by rw [h0];rfl
  obtain⟨b3,k3,nn,T3,hqn,hce,hN,hPE⟩:=q8A hE2 hS.end_.2 (en':={en with active:=wI (en.active-1)}) (o:=2) (vs:=[.int .i64 (wI (en.active-1))]) (by simp) (by simp [Value.oneCell']) (fun n=>rfl) rfl ⟨hei.1,qqG _⟩
  subst hqn
  obtain⟨b5,j5,bc,ty5,⟨hA,p1,p2,p3,p4⟩,_,hk5⟩:=hPK _ _ _ hPE
  rw [hmE] at hW9 hE9
  rw [setE,hmV,hmG] at hW9
  repeat'((conv=>whnf);first|apply qza|apply qzb|apply qzc|apply qzd|apply qze|intro(_:Nat)|refine⟨_,rfl,hvi,?_⟩|refine⟨_,hcv 3 _ rfl,?_⟩|refine⟨_,rfl,hgi,?_⟩|refine⟨_,hcg 1 _ rfl,?_⟩|refine⟨_,rfl,hki,?_⟩|refine .inl ⟨_,qsB _ hwu,?_⟩|refine .inl ⟨_,qsB _ hei.1,?_⟩|refine⟨_,hce 0 _ rfl,?_⟩|refine .inl ⟨_,qFJ _ hw3 hM3 hvi,?_⟩|fail)
  conv=>whnf
  refine⟨fun hx=>absurd ((beqT hx).symm.trans h0) (by decide),fun _=>?_⟩
  repeat((conv=>whnf);first|apply qza|apply qzb|apply qzc|apply qzd|apply qze|intro(_:Nat))
  conv=>whnf
  refine⟨fun hx=>absurd ((beqT hx).symm.trans h0) (by decide),fun _=>?_⟩
  repeat((conv=>whnf);first|apply qza|apply qzb|apply qzc|apply qzd|apply qze|intro(_:Nat))
  conv=>whnf
  refine⟨fun hx=>absurd ((beqT hx).symm.trans h0) (by decide),fun _=>?_⟩
  repeat((conv=>whnf);first|apply qza|apply qzb|apply qzc|apply qzd|apply qze|intro(_:Nat))
  conv=>whnf
  refine⟨fun _=>?_,fun hx=>absurd h0 (beqF hx)⟩
  repeat'((conv=>whnf);first|apply qza|apply qzb|apply qzc|apply qzd|apply qze|intro(_:Nat)|refine⟨_,hce 2 _ rfl,?_⟩|fail)
  conv=>whnf
  refine⟨b5,j5,bc,ty5,⟨by first|exact hA|(rw [← hA];rfl)|(rw [← hA,qwA]),p1,p2,p3,p4⟩,?_⟩
  repeat((conv=>whnf);first|apply qza|apply qzb|apply qzc|apply qzd|apply qze|intro(_:Nat))
  conv=>whnf
  refine fun g6 u6=>?_
  have hFx:=qTA (hk5 g6 u6)
  have hle6:g≤g6:=u6.le hg3 (fun h=>by have:=g.wf _ h;omega)
  have hcw:=u6.rd p2 p4
  rw [← hA] at hcw
  have hcw':Rc g6 (((⟨b3,0,none⟩:Addr).add (m.end_.toNat*3)).add 2) (.int .i64 (wI (en.active-1))):=hcw 0 _ rfl
  repeat'((conv=>whnf);first|apply qza|apply qzb|apply qzc|apply qzd|apply qze|intro(_:Nat)|refine⟨_,hcw',?_⟩|refine And.intro ?_ ?_|fail)
  all_goals (conv=>whnf)
  all_goals (first|exact Eq.refl _|(
   intro g2 hg
   refine⟨_,_,by rw [hE9]<;>rfl,by rw [hW9];exact qDA _ _ _ _ hg hFx,?_⟩
   rw [hM9,hp1]
   exact⟨_,_,_,rfl,{hok with pc:=show InR (4:Int) by decide},hop,qCA _ _ _ _ (GW.trans hle6 hg) hcf⟩)))
/- Ends of requests: the program's step,place 4. -/
open Go.Proofs.YthonngjhelcpeaaGreat.Sx Go.RowKit
theorem qDY (g:GW) {cs ms:List Value} {w:Wd} {m:Mach} (hw:rWo g cs w) (hM:qhA g ms m) (hsn:SnW w) (hb:BgW 1000000 w) (hgo:fGo w m) (h0:m.pc=4):Ok Tryz.prog qCB [.agg ⟨cs⟩,.agg ⟨ms⟩] g (FiP w m):=by
 obtain⟨hW9,hM9,hE9⟩:=qhG hgo
 obtain⟨kW,kM,kE⟩:=fa4 (w:=w) h0
 rw [kW] at hW9
 rw [kM] at hM9
 rw [kE] at hE9
 clear kW kM kE
 have hs:=hgo.1
 obtain⟨v,gr,en,hS⟩:=id (suitB_iff.1 hs)
 obtain⟨oa,ca,ob,cb,oc,cc,od,cd,oe,ce,o1,t1,o2,t2,o3,t3,rfl,rfl,hw0,hM0,⟨i1,i2,i3⟩,hP,hV,hL,hC,hR,⟨a1,a2,a0,hP1⟩,⟨b1,b2,b0,hV1⟩,⟨c1,c2,c0,hL1⟩,⟨d1,d2,d0,hC1⟩,⟨e1,e2,e0,hR1⟩,hok,hop,hcf⟩:=q4B hw hM
 exact Ok.of_fn hm noT 0 qhB (args:=[.v (.agg ⟨wQ w oa ca ob cb oc cc od cd oe ce⟩),.v (.agg ⟨mQ m o1 t1 o2 t2 o3 t3⟩)]) (by
  repeat((conv=>whnf);first|apply qza|apply qzb|apply qzc|apply qzd|apply qze|intro(_:Nat))
  conv=>whnf
  refine dF (by omega) ?_
  repeat((conv=>whnf);first|apply qza|apply qzb|apply qzc|apply qzd|apply qze|intro(_:Nat))
  conv=>whnf
  refine dF (by omega) ?_
  repeat((conv=>whnf);first|apply qza|apply qzb|apply qzc|apply qzd|apply qze|intro(_:Nat))
  conv=>whnf
  refine .inl ⟨_,qYA _ hw0 hM0 hsn hb,?_⟩
  repeat((conv=>whnf);first|apply qza|apply qzb|apply qzc|apply qzd|apply qze|intro(_:Nat))
  conv=>whnf
  refine⟨fun hx=>absurd (hs.symm.trans (nb1 hx)) (by decide),fun _=>?_⟩
  repeat((conv=>whnf);first|apply qza|apply qzb|apply qzc|apply qzd|apply qze|intro(_:Nat))
  have hli:0≤m.listen:=by have:=hgo.2.2;omega
  conv=>whnf
  refine⟨fun _=>?_,fun hx=>absurd h0 (beqF hx)⟩
  repeat((conv=>whnf);first|apply qza|apply qzb|apply qzc|apply qzd|apply qze|intro(_:Nat))
  conv=>whnf
  refine dF (by omega) ?_
  repeat((conv=>whnf);first|apply qza|apply qzb|apply qzc|apply qzd|apply qze|intro(_:Nat))
  refine .inr ((qeA _ hw0 hb).mono fun v g3 hg3 hO=>?_)
  obtain⟨cs,T,rfl,hT⟩:=hO
  have hF:=qTA hT
  obtain⟨oa',ca',ob',cb',oc',cc',od',cd',oe',ce',rfl⟩:=qKA hF
  have hwu:=hok.word
  have hw3:=qDA _ _ _ _ hg3 hw0
  have hM3:=qQA _ _ _ _ hg3 hM0
  obtain⟨b1,k1,b2,k2,va,vb,vd,vn,T2,hq,hcv,hcg,htk,hE2,_,hPK⟩:=qdC hT hS.ver.2 hS.clu.2
  cases hq
  have hei:=(qGE hF hS.ver.2 hS.clu.2 hS.end_.2).1
  obtain⟨hvi,hgi,hki⟩:=hS.idx
  obtain⟨hmV,hmG,hmE⟩:=hS.at_
  obtain⟨b3,k3,nn,T3,hqn,hce,hN,hPE⟩:=q8A hE2 hS.end_.2 (en':=en) (o:=0) (vs:=[.int .u64 en.head]) (by simp) (by simp [Value.oneCell']) (fun n=>rfl) rfl ⟨hei.1,hei.2.1⟩
  subst hqn
  obtain⟨x,hx⟩:=qAA (l:=w.listens) (i:=m.listen.toNat) (by have:=hS.listen;omega)
  have hmL:mL w m=x:=by unfold mL;rw [hx];rfl
  rw [hmL] at hW9 hE9
  have hli2:=hS.listen
  obtain⟨bk,cap,hv,rcl,b5,j5,bc,ty5,⟨hA,p1,p2,p3,p4⟩,_,hk5⟩:=qBP hT hx (x':={x with active:=wI (x.active-1)}) (o:=2) (vs:=[.int .i64 (wI (x.active-1))]) (by simp) (by simp [Value.oneCell']) rfl (qqG _)
  cases hv
  obtain⟨hxa,hcl⟩:=qlI (qhM hF) hx
  repeat'((conv=>whnf);first|apply qza|apply qzb|apply qzc|apply qzd|apply qze|intro(_:Nat)|refine⟨_,rfl,hvi,?_⟩|refine⟨_,hcv 3 _ rfl,?_⟩|refine⟨_,rfl,hgi,?_⟩|refine⟨_,hcg 1 _ rfl,?_⟩|refine⟨_,rfl,hki,?_⟩|refine .inl ⟨_,qsB _ hwu,?_⟩|refine .inl ⟨_,qsB _ hei.1,?_⟩|refine⟨_,hce 0 _ rfl,?_⟩|refine .inl ⟨_,qFJ _ hw3 hM3 hvi,?_⟩|fail)
  conv=>whnf
  refine⟨fun hx=>absurd ((beqT hx).symm.trans h0) (by decide),fun _=>?_⟩
  repeat((conv=>whnf);first|apply qza|apply qzb|apply qzc|apply qzd|apply qze|intro(_:Nat))
  conv=>whnf
  refine⟨fun hx=>absurd ((beqT hx).symm.trans h0) (by decide),fun _=>?_⟩
  repeat((conv=>whnf);first|apply qza|apply qzb|apply qzc|apply qzd|apply qze|intro(_:Nat))
  conv=>whnf
  refine⟨fun hx=>absurd ((beqT hx).symm.trans h0) (by decide),fun _=>?_⟩
  repeat((conv=>whnf);first|apply qza|apply qzb|apply qzc|apply qzd|apply qze|intro(_:Nat))
  conv=>whnf
  refine⟨fun hx=>absurd ((beqT hx).symm.trans h0) (by decide),fun _=>?_⟩
  repeat((conv=>whnf);first|apply qza|apply qzb|apply qzc|apply qzd|apply qze|intro(_:Nat))
  conv=>whnf
  refine⟨fun _=>?_,fun hx=>absurd h0 (beqF hx)⟩
  repeat'((conv=>whnf);first|apply qza|apply qzb|apply qzc|apply qzd|apply qze|intro(_:Nat)|refine⟨_,rfl,⟨by omega,by omega⟩,?_⟩|refine⟨_,hcl 2 _ rfl,?_⟩|fail)
  conv=>whnf
  refine⟨b5,j5,bc,ty5,⟨hA,p1,p2,p3,p4⟩,?_⟩
  repeat((conv=>whnf);first|apply qza|apply qzb|apply qzc|apply qzd|apply qze|intro(_:Nat))
  conv=>whnf
  refine fun g6 u6=>?_
  have hFx:=qTA (hk5 g6 u6)
  have hle6:g≤g6:=u6.le hg3 (fun h=>by have:=g.wf _ h;omega)
  obtain⟨_,hcl'⟩:=qlI (qhM hFx) (i:=m.listen.toNat) (x:={x with active:=wI (x.active-1)}) (by simp only [List.getElem?_set];simp;omega)
  repeat'((conv=>whnf);first|apply qza|apply qzb|apply qzc|apply qzd|apply qze|intro(_:Nat)|refine⟨_,hcl' 2 _ rfl,?_⟩|refine And.intro ?_ ?_|fail)
  all_goals (conv=>whnf)
  all_goals (first|exact Eq.refl _|(
   intro g2 hg
   refine⟨_,_,by rw [hE9]<;>rfl,by rw [hW9];exact qDA _ _ _ _ hg hFx,?_⟩
   rw [hM9]
   exact⟨_,_,_,rfl,{hok with answer:=⟨(by decide:InR 6),hok.version,hok.cluster,hok.end_,hok.slot,hok.listen,z0,qnI⟩},hop,qCA _ _ _ _ (GW.trans hle6 hg) hcf⟩)))
/- Ends of requests: the program's step,place 9. -/
open Go.Proofs.YthonngjhelcpeaaGreat.Sx Go.RowKit
theorem qCY (g:GW) {cs ms:List Value} {w:Wd} {m:Mach} (hw:rWo g cs w) (hM:qhA g ms m) (hsn:SnW w) (hb:BgW 1000000 w) (hgo:fGo w m) (h0:m.pc=9):Ok Tryz.prog qCB [.agg ⟨cs⟩,.agg ⟨ms⟩] g (FiP w m):=by
 obtain⟨hW9,hM9,hE9⟩:=qhG hgo
 obtain⟨kW,kM,kE⟩:=fa9 (w:=w) h0
 rw [kW] at hW9
 rw [kM] at hM9
 rw [kE] at hE9
 clear kW kM kE
 have hs:=hgo.1
 obtain⟨v,gr,en,hS⟩:=id (suitB_iff.1 hs)
 obtain⟨oa,ca,ob,cb,oc,cc,od,cd,oe,ce,o1,t1,o2,t2,o3,t3,rfl,rfl,hw0,hM0,⟨i1,i2,i3⟩,hP,hV,hL,hC,hR,⟨a1,a2,a0,hP1⟩,⟨b1,b2,b0,hV1⟩,⟨c1,c2,c0,hL1⟩,⟨d1,d2,d0,hC1⟩,⟨e1,e2,e0,hR1⟩,hok,hop,hcf⟩:=q4B hw hM
 exact Ok.of_fn hm noT 0 qhB (args:=[.v (.agg ⟨wQ w oa ca ob cb oc cc od cd oe ce⟩),.v (.agg ⟨mQ m o1 t1 o2 t2 o3 t3⟩)]) (by
  repeat((conv=>whnf);first|apply qza|apply qzb|apply qzc|apply qzd|apply qze|intro(_:Nat))
  conv=>whnf
  refine dF (by omega) ?_
  repeat((conv=>whnf);first|apply qza|apply qzb|apply qzc|apply qzd|apply qze|intro(_:Nat))
  conv=>whnf
  refine dT (by omega) ?_
  repeat((conv=>whnf);first|apply qza|apply qzb|apply qzc|apply qzd|apply qze|intro(_:Nat))
  conv=>whnf
  refine⟨fun hx=>absurd h0 (bneT hx),fun _=>?_⟩
  repeat((conv=>whnf);first|apply qza|apply qzb|apply qzc|apply qzd|apply qze|intro(_:Nat))
  conv=>whnf
  refine .inl ⟨_,qYA _ hw0 hM0 hsn hb,?_⟩
  repeat((conv=>whnf);first|apply qza|apply qzb|apply qzc|apply qzd|apply qze|intro(_:Nat))
  conv=>whnf
  refine⟨fun hx=>absurd (hs.symm.trans (nb1 hx)) (by decide),fun _=>?_⟩
  repeat((conv=>whnf);first|apply qza|apply qzb|apply qzc|apply qzd|apply qze|intro(_:Nat))
  conv=>whnf
  refine⟨fun hx=>absurd (beqT hx) (by omega),fun _=>?_⟩
  repeat((conv=>whnf);first|apply qza|apply qzb|apply qzc|apply qzd|apply qze|intro(_:Nat))
  refine .inr ((qeA _ hw0 hb).mono fun v g3 hg3 hO=>?_)
  obtain⟨cs,T,rfl,hT⟩:=hO
  have hF:=qTA hT
  obtain⟨oa',ca',ob',cb',oc',cc',od',cd',oe',ce',rfl⟩:=qKA hF
  have hwu:=hok.word
  have hw3:=qDA _ _ _ _ hg3 hw0
  have hM3:=qQA _ _ _ _ hg3 hM0
  obtain⟨b1,k1,b2,k2,va,vb,vd,vn,T2,hq,hcv,hcg,htk,hE2,_,hPK⟩:=qdC hT hS.ver.2 hS.clu.2
  cases hq
  have hei:=(qGE hF hS.ver.2 hS.clu.2 hS.end_.2).1
  obtain⟨hvi,hgi,hki⟩:=hS.idx
  obtain⟨hmV,hmG,hmE⟩:=hS.at_
  obtain⟨b3,k3,nn,T3,hqn,hce,hN,hPE⟩:=q8A hE2 hS.end_.2 (en':=en) (o:=0) (vs:=[.int .u64 en.head]) (by simp) (by simp [Value.oneCell']) (fun n=>rfl) rfl ⟨hei.1,hei.2.1⟩
  subst hqn
  repeat'((conv=>whnf);first|apply qza|apply qzb|apply qzc|apply qzd|apply qze|intro(_:Nat)|refine⟨_,rfl,hvi,?_⟩|refine⟨_,hcv 3 _ rfl,?_⟩|refine⟨_,rfl,hgi,?_⟩|refine⟨_,hcg 1 _ rfl,?_⟩|refine⟨_,rfl,hki,?_⟩|refine .inl ⟨_,qsB _ hwu,?_⟩|refine .inl ⟨_,qsB _ hei.1,?_⟩|refine⟨_,hce 0 _ rfl,?_⟩|refine .inl ⟨_,qFJ _ hw3 hM3 hvi,?_⟩|fail)
  conv=>whnf
  refine⟨fun hx=>absurd ((beqT hx).symm.trans h0) (by decide),fun _=>?_⟩
  repeat((conv=>whnf);first|apply qza|apply qzb|apply qzc|apply qzd|apply qze|intro(_:Nat))
  conv=>whnf
  refine⟨fun hx=>absurd ((beqT hx).symm.trans h0) (by decide),fun _=>?_⟩
  repeat((conv=>whnf);first|apply qza|apply qzb|apply qzc|apply qzd|apply qze|intro(_:Nat))
  conv=>whnf
  refine⟨fun hx=>absurd ((beqT hx).symm.trans h0) (by decide),fun _=>?_⟩
  repeat((conv=>whnf);first|apply qza|apply qzb|apply qzc|apply qzd|apply qze|intro(_:Nat))
  conv=>whnf
  refine⟨fun hx=>absurd ((beqT hx).symm.trans h0) (by decide),fun _=>?_⟩
  repeat((conv=>whnf);first|apply qza|apply qzb|apply qzc|apply qzd|apply qze|intro(_:Nat))
  conv=>whnf
  refine⟨fun hx=>absurd ((beqT hx).symm.trans h0) (by decide),fun _=>?_⟩
  repeat'((conv=>whnf);first|apply qza|apply qzb|apply qzc|apply qzd|apply qze|intro(_:Nat)|refine And.intro ?_ ?_|fail)
  all_goals (conv=>whnf)
  all_goals (first|exact Eq.refl _|(
   intro g2 hg
   refine⟨_,_,by rw [hE9]<;>rfl,by rw [hW9];exact qDA _ _ _ _ hg hF,?_⟩
   rw [hM9]
   exact⟨_,_,_,rfl,{hok with answer:=⟨(by decide:InR 7),z0,z0,z0,z0,z0,z0,qnI⟩},hop,qCA _ _ _ _ (GW.trans hg3 hg) hcf⟩)))
/- Ends of requests: the program's step,elsewhere;at any place. -/
open Go.Proofs.YthonngjhelcpeaaGreat.Sx Go.RowKit
theorem qBY (g:GW) {cs ms:List Value} {w:Wd} {m:Mach} (hw:rWo g cs w) (hM:qhA g ms m) (hsn:SnW w) (hb:BgW 1000000 w) (hgo:¬ fGo w m):Ok Tryz.prog qCB [.agg ⟨cs⟩,.agg ⟨ms⟩] g (FiP w m):=by
 obtain⟨oa,ca,ob,cb,oc,cc,od,cd,oe,ce,o1,t1,o2,t2,o3,t3,rfl,rfl,hw0,hM0,⟨i1,i2,i3⟩,hP,hV,hL,hC,hR,⟨a1,a2,a0,hP1⟩,⟨b1,b2,b0,hV1⟩,⟨c1,c2,c0,hL1⟩,⟨d1,d2,d0,hC1⟩,⟨e1,e2,e0,hR1⟩,hok,hop,hcf⟩:=q4B hw hM
 exact Ok.of_fn hm noT 0 qhB (args:=[.v (.agg ⟨wQ w oa ca ob cb oc cc od cd oe ce⟩),.v (.agg ⟨mQ m o1 t1 o2 t2 o3 t3⟩)]) (by
  have fin:∀ g2,g≤g2→FiP w m (.tuple #[.agg ⟨wQ w oa ca ob cb oc cc od cd oe ce⟩,.agg ⟨mQ m o1 t1 o2 t2 o3 t3⟩,.agg ⟨ev0.cs⟩]) g2:=by
   intro g2 hg
   obtain⟨k1,k2,k3⟩:=qhY hgo
   exact⟨_,_,by rw [k3]<;>rfl,by rw [k1];exact qDA _ _ _ _ hg hw0,by rw [k2];exact qQA _ _ _ _ hg hM0⟩
  repeat((conv=>whnf);first|apply qza|apply qzb|apply qzc|apply qzd|apply qze|intro(_:Nat))
  refine And.intro (fun z1=>?_) (fun z1=>?_)
  ·repeat'((conv=>whnf);first|apply qza|apply qzb|apply qzc|apply qzd|apply qze|intro(_:Nat)|refine And.intro ?_ ?_|fail)
   all_goals (conv=>whnf)
   all_goals (first|exact Eq.refl _|exact fin)
  have z1:=of_decide_eq_false z1
  repeat((conv=>whnf);first|apply qza|apply qzb|apply qzc|apply qzd|apply qze|intro(_:Nat))
  refine And.intro (fun z2=>?_) (fun z2=>?_)
  case' refine_1 =>
   have z2:=of_decide_eq_true z2
   repeat((conv=>whnf);first|apply qza|apply qzb|apply qzc|apply qzd|apply qze|intro(_:Nat))
   refine And.intro (fun z3=>?_) (fun z3=>?_)
   ·repeat'((conv=>whnf);first|apply qza|apply qzb|apply qzc|apply qzd|apply qze|intro(_:Nat)|refine And.intro ?_ ?_|fail)
    all_goals (conv=>whnf)
    all_goals (first|exact Eq.refl _|exact fin)
   have hpc:(0≤m.pc∧m.pc≤4)∨m.pc=9:=.inr (bneF z3)
  case' refine_2=>have hpc:(0≤m.pc∧m.pc≤4)∨m.pc=9:=.inl (by have:=of_decide_eq_false z2;omega)
  all_goals (
   repeat((conv=>whnf);first|apply qza|apply qzb|apply qzc|apply qzd|apply qze|intro(_:Nat))
   conv=>whnf
   refine .inl ⟨_,qYA _ hw0 hM0 hsn hb,?_⟩
   repeat((conv=>whnf);first|apply qza|apply qzb|apply qzc|apply qzd|apply qze|intro(_:Nat))
   refine And.intro (fun z4=>?_) (fun z4=>?_)
   ·repeat'((conv=>whnf);first|apply qza|apply qzb|apply qzc|apply qzd|apply qze|intro(_:Nat)|refine And.intro ?_ ?_|fail)
    all_goals (conv=>whnf)
    all_goals (first|exact Eq.refl _|exact fin)
   have hs:=nb0 z4
   repeat((conv=>whnf);first|apply qza|apply qzb|apply qzc|apply qzd|apply qze|intro(_:Nat))
   refine And.intro (fun z5=>?_) (fun z5=>?_)
   ·have z5:=beqT z5
    repeat((conv=>whnf);first|apply qza|apply qzb|apply qzc|apply qzd|apply qze|intro(_:Nat))
    refine And.intro (fun z6=>?_) (fun z6=>?_)
    ·repeat'((conv=>whnf);first|apply qza|apply qzb|apply qzc|apply qzd|apply qze|intro(_:Nat)|refine And.intro ?_ ?_|fail)
     all_goals (conv=>whnf)
     all_goals (first|exact Eq.refl _|exact fin)
    ·exact absurd ⟨hs,hpc,fun h=>absurd h.2 (by have:=of_decide_eq_false z6;omega)⟩ hgo
   ·exact absurd ⟨hs,hpc,fun h=>absurd h.1 (beqF z5)⟩ hgo))
theorem qhS (g:GW) {cs ms:List Value} {w:Wd} {m:Mach} (hw:rWo g cs w) (hM:qhA g ms m) (hsn:SnW w) (hb:BgW 1000000 w):Ok Tryz.prog qCB [.agg ⟨cs⟩,.agg ⟨ms⟩] g (FiP w m):=by
 by_cases hgo:fGo w m
 ·rcases(show m.pc=0∨m.pc=1∨m.pc=2∨m.pc=3∨m.pc=4∨m.pc=9 by have:=hgo.2.1;omega) with h|h|h|h|h|h
  ·exact qHY g hw hM hsn hb hgo h
  ·exact qGY g hw hM hsn hb hgo h
  ·exact qFY g hw hM hsn hb hgo h
  ·exact qEY g hw hM hsn hb hgo h
  ·exact qDY g hw hM hsn hb hgo h
  ·exact qCY g hw hM hsn hb hgo h
 ·exact qBY g hw hM hsn hb hgo
/- Machines: events of no version,ends;the document's. -/
open Go.Proofs.YthonngjhelcpeaaGreat.Sx Go.RowKit
theorem qlS (g:GW) (m:Mach) {o1 o2 o3:Option Addr} {l1 l2 l3 t1 t2 t3:Nat} (a c v:Int):OkV Tryz.prog q7H [.agg ⟨m.cs (.slice o1 l1 t1) (.slice o2 l2 t2) (.slice o3 l3 t3)⟩,.int .i64 a,.int .i64 c,.int .i64 v] g (.agg ⟨(⟨m.thread,0,a,c,-1,false,v,false,false,false,ans0⟩:Ev).cs⟩) :=
 Ok.of_fn hm noT 0 qnH (args:=[.v (.agg ⟨m.cs (.slice o1 l1 t1) (.slice o2 l2 t2) (.slice o3 l3 t3)⟩),.v (.int .i64 a),.v (.int .i64 c),.v (.int .i64 v)]) (by
  repeat((conv=>whnf);first|apply qza|apply qzb|apply qzc|apply qzd|apply qze|intro(_:Nat))
  conv=>whnf
  intro g2 hg
  rfl)
/- Requests: the document's words,events,endpoints. -/
open Go.Proofs.YthonngjhelcpeaaGreat.Sx Go.RowKit
theorem qWT (g:GW) {i:Int}:OkV Tryz.prog qFI [.int .i64 i] g (.bool (qNB i)) :=
 Ok.of_fn hm noT 0 qvH (args:=[.v (.int .i64 i)]) (by
  repeat'((conv=>whnf);first|apply qza|apply qzb|apply qzc|apply qzd|apply qze|intro(_:Nat)|refine And.intro (fun _=>?_) (fun _=>?_)|fail)
  all_goals (conv=>whnf)
  all_goals (intro g2 hg;unfold qNB;simp_all)
  all_goals omega)
theorem qfS (g:GW) {w:Int} (hw:InU w):OkV Tryz.prog qYK [.int .u64 w] g (.int .u32 (tagT w)) :=
 Ok.of_fn hm noT 0 qAK (args:=[.v (.int .u64 w)]) (by
  repeat((conv=>whnf);first|apply qza|apply qzb|apply qzc|apply qzd|apply qze|intro(_:Nat))
  conv=>whnf
  refine⟨by decide,?_⟩
  repeat((conv=>whnf);first|apply qza|apply qzb|apply qzc|apply qzd|apply qze|intro(_:Nat))
  conv=>whnf
  intro g2 hg
  have h1:0≤tagT w∧tagT w<4294967296:=by
   unfold tagT
   obtain⟨a,b⟩:=hw
   constructor<;>omega
  have e2:w.tdiv 4294967296=tagT w:=by rw [Int.tdiv_eq_ediv_of_nonneg hw.1];rfl
  rw [e2]
  have e3:IntKind.u64.wrap (tagT w)=tagT w:=IntWalk.u64_in _ (by omega)
  rw [e3,IntKind.wrap_u32,Int.emod_eq_of_lt h1.1 h1.2])
theorem qTQ (g:GW) {t i:Int} (ht:0≤t∧t<4294967296) (hi:InR i):OkV Tryz.prog qZJ [.int .u32 t,.int .i64 i] g (.tuple #[.int .u64 (if qNB i then t*4294967296+(i+1) else 0),.int .i64 (if qNB i then 0 else 1)]) :=
 Ok.of_fn hm noT 0 qAJ (args:=[.v (.int .u32 t),.v (.int .i64 i)]) (by
  repeat((conv=>whnf);first|apply qza|apply qzb|apply qzc|apply qzd|apply qze|intro(_:Nat))
  conv=>whnf
  refine .inl ⟨_,qWT _,?_⟩
  repeat((conv=>whnf);first|apply qza|apply qzb|apply qzc|apply qzd|apply qze|intro(_:Nat))
  cases hp:qNB i
  ·conv=>whnf
   refine⟨fun _=>?_,fun h=>nomatch h⟩
   repeat((conv=>whnf);first|apply qza|apply qzb|apply qzc|apply qzd|apply qze|intro(_:Nat))
   conv=>whnf
   intro g2 hg
   rfl
  ·conv=>whnf
   refine⟨fun h=>(nomatch h),fun _=>?_⟩
   repeat((conv=>whnf);first|apply qza|apply qzb|apply qzc|apply qzd|apply qze|intro(_:Nat))
   conv=>whnf
   intro g2 hg
   have hp:-1≤i∧i≤2147483646:=by simpa [qNB] using hp
   have e1:IntKind.u64.wrap t=t:=IntWalk.u64_in t (by omega)
   have e2:IntKind.u64.wrap (t*4294967296)=t*4294967296:=IntWalk.u64_in _ (by omega)
   have e3:IntKind.u64.wrap (IntKind.i64.wrap (i+1))=i+1:=by rw [wr (by unfold InR;omega)];exact IntWalk.u64_in _ (by omega)
   have e4:IntKind.u64.wrap (t*4294967296+(i+1))=t*4294967296+(i+1):=IntWalk.u64_in _ (by omega)
   rw [e1,e2,e3,e4];rfl)
theorem qaU (g:GW) {w i:Int} (hw:InU w) (hi:InR i):OkV Tryz.prog qYJ [.int .u64 w,.int .i64 i] g (.tuple #[.int .u64 (if qNB i then qBB w i else 0),.int .i64 (if qNB i then 0 else 1)]) :=
 Ok.of_fn hm noT 0 q9I (args:=[.v (.int .u64 w),.v (.int .i64 i)]) (by
  have h1:0≤tagT w∧tagT w<4294967296:=by
   unfold tagT
   obtain⟨a,b⟩:=hw
   constructor<;>omega
  repeat((conv=>whnf);first|apply qza|apply qzb|apply qzc|apply qzd|apply qze|intro(_:Nat))
  conv=>whnf
  refine .inl ⟨_,qfS _ hw,?_⟩
  repeat((conv=>whnf);first|apply qza|apply qzb|apply qzc|apply qzd|apply qze|intro(_:Nat))
  refine And.intro (fun z=>?_) (fun z=>?_)
  ·have z:=of_decide_eq_true z
   have e0:IntKind.u32.wrap (tagT w+1)=tagT w+1:=by rw [IntKind.wrap_u32];exact Int.emod_eq_of_lt (by omega) (by omega)
   repeat((conv=>whnf);first|apply qza|apply qzb|apply qzc|apply qzd|apply qze|intro(_:Nat))
   conv=>whnf
   refine .inl ⟨_,qfS _ hw,?_⟩
   repeat((conv=>whnf);first|apply qza|apply qzb|apply qzc|apply qzd|apply qze|intro(_:Nat))
   conv=>whnf
   refine .inl ⟨_,qTQ _ (t:=IntKind.u32.wrap (tagT w+1)) (i:=i) (by rw [e0];omega) hi,?_⟩
   repeat((conv=>whnf);first|apply qza|apply qzb|apply qzc|apply qzd|apply qze|intro(_:Nat))
   conv=>whnf
   intro g2 hg
   rw [e0]
   unfold qBB
   rw [Int.emod_eq_of_lt (by omega) (by omega)]
  ·have z:¬ _:=of_decide_eq_false z
   repeat((conv=>whnf);first|apply qza|apply qzb|apply qzc|apply qzd|apply qze|intro(_:Nat))
   conv=>whnf
   refine .inl ⟨_,qTQ _ (t:=0) (i:=i) (by decide) hi,?_⟩
   repeat((conv=>whnf);first|apply qza|apply qzb|apply qzc|apply qzd|apply qze|intro(_:Nat))
   conv=>whnf
   intro g2 hg
   unfold qBB
   rw [show tagT w+1=4294967296 by omega];rfl)
theorem qrM (g:GW) (m:Mach) {o1 o2 o3:Option Addr} {l1 l2 l3 t1 t2 t3:Nat} {e0 e1 e2:Int} {oa oc od oe:Option Addr} {na nv nc nd ne ca cv cc cd ce:Nat} {av:Addr} {q1 q2 q3 q4:Value} {fr:Bool} (a c v:Int) (hi:0≤m.version∧m.version<nv) (hv:Rcs g (av.add (m.version.toNat*5)) [q1,q2,q3,q4,.bool fr]) :
  OkV Tryz.prog qSK [.agg ⟨[.int .i64 e0,.int .i64 e1,.int .i64 e2,.slice oa na ca,.slice (some av) nv cv,.slice oc nc cc,.slice od nd cd,.slice oe ne ce]⟩,.agg ⟨m.cs (.slice o1 l1 t1) (.slice o2 l2 t2) (.slice o3 l3 t3)⟩,.int .i64 a,.int .i64 c,.int .i64 v] g (.agg ⟨(⟨m.thread,0,a,c,m.version,fr,v,false,false,false,ans0⟩:Ev).cs⟩) :=
 Ok.of_fn hm noT 0 q4J (args:=[.v (.agg ⟨[.int .i64 e0,.int .i64 e1,.int .i64 e2,.slice oa na ca,.slice (some av) nv cv,.slice oc nc cc,.slice od nd cd,.slice oe ne ce]⟩),.v (.agg ⟨m.cs (.slice o1 l1 t1) (.slice o2 l2 t2) (.slice o3 l3 t3)⟩),.v (.int .i64 a),.v (.int .i64 c),.v (.int .i64 v)]) (by
  repeat'((conv=>whnf);first|apply qza|apply qzb|apply qzc|apply qzd|apply qze|intro(_:Nat)|refine⟨_,rfl,hi,?_⟩|refine⟨_,hv 4 _ rfl,?_⟩|refine And.intro ?_ ?_|fail)
  all_goals (conv=>whnf)
  all_goals (first|exact Eq.refl _|(intro g2 hg;rfl)))
/- Pins: the document's step. -/
open Go.Proofs.YthonngjhelcpeaaGreat.Sx Go.RowKit
/- Ends of requests: the document's words. -/
open Go.Proofs.YthonngjhelcpeaaGreat.Sx Go.RowKit
theorem qiS (g:GW) (m:Mach) (e:Ev) (a:Ans) {o1 o2 o3:Option Addr} {l1 l2 l3 t1 t2 t3:Nat}:OkV Tryz.prog qLJ [.agg ⟨m.cs (.slice o1 l1 t1) (.slice o2 l2 t2) (.slice o3 l3 t3)⟩,.agg ⟨e.cs⟩,.agg ⟨a.cs⟩] g (.tuple #[.agg ⟨Mach.cs (.slice o1 l1 t1) (.slice o2 l2 t2) (.slice o3 l3 t3) {m with done:=true,answer:=a}⟩,.agg ⟨({e with done:=true,answer:=a}:Ev).cs⟩]) :=
 Ok.of_fn hm noT 0 qwI (args:=[.v (.agg ⟨m.cs (.slice o1 l1 t1) (.slice o2 l2 t2) (.slice o3 l3 t3)⟩),.v (.agg ⟨e.cs⟩),.v (.agg ⟨a.cs⟩)]) (by
  repeat((conv=>whnf);first|apply qza|apply qzb|apply qzc|apply qzd|apply qze|intro(_:Nat))
  conv=>whnf
  intro g2 hg
  rfl)
/- Ends of requests: the document's step,place 0. -/
open Go.Proofs.YthonngjhelcpeaaGreat.Sx Go.RowKit
theorem qOY (g:GW) {cs ms:List Value} {w:Wd} {m:Mach} (hw:rWo g cs w) (hM:qhA g ms m) (hsn:SnW w) (hb:BgW 1000000 w) (hgo:fGo w m) (h0:m.pc=0):Ok Tryz.prog qVA [.agg ⟨cs⟩,.agg ⟨ms⟩] g (FiP w m):=by
 obtain⟨hW9,hM9,hE9⟩:=qhG hgo
 obtain⟨kW,kM,kE⟩:=fa0 (w:=w) h0
 rw [kW] at hW9
 rw [kM] at hM9
 rw [kE] at hE9
 clear kW kM kE
 have hs:=hgo.1
 obtain⟨v,gr,en,hS⟩:=id (suitB_iff.1 hs)
 obtain⟨oa,ca,ob,cb,oc,cc,od,cd,oe,ce,o1,t1,o2,t2,o3,t3,rfl,rfl,hw0,hM0,⟨i1,i2,i3⟩,hP,hV,hL,hC,hR,⟨a1,a2,a0,hP1⟩,⟨b1,b2,b0,hV1⟩,⟨c1,c2,c0,hL1⟩,⟨d1,d2,d0,hC1⟩,⟨e1,e2,e0,hR1⟩,hok,hop,hcf⟩:=q4B hw hM
 exact Ok.of_fn hm noT 0 qdA (args:=[.v (.agg ⟨wQ w oa ca ob cb oc cc od cd oe ce⟩),.v (.agg ⟨mQ m o1 t1 o2 t2 o3 t3⟩)]) (by
  repeat((conv=>whnf);first|apply qza|apply qzb|apply qzc|apply qzd|apply qze|intro(_:Nat))
  conv=>whnf
  refine .inl ⟨_,qNE _ hw0 hM0 hsn hb,?_⟩
  repeat((conv=>whnf);first|apply qza|apply qzb|apply qzc|apply qzd|apply qze|intro(_:Nat))
  conv=>whnf
  refine⟨fun hx=>absurd (hs.symm.trans (nb1 hx)) (by decide),fun _=>?_⟩
  repeat((conv=>whnf);first|apply qza|apply qzb|apply qzc|apply qzd|apply qze|intro(_:Nat))
  conv=>whnf
  refine dF (by omega) ?_
  repeat((conv=>whnf);first|apply qza|apply qzb|apply qzc|apply qzd|apply qze|intro(_:Nat))
  conv=>whnf
  refine dF (by omega) ?_
  repeat((conv=>whnf);first|apply qza|apply qzb|apply qzc|apply qzd|apply qze|intro(_:Nat))
  conv=>whnf
  refine⟨fun hx=>absurd (beqT hx) (by omega),fun _=>?_⟩
  repeat((conv=>whnf);first|apply qza|apply qzb|apply qzc|apply qzd|apply qze|intro(_:Nat))
  refine .inr ((qLF _ hw0 hb).mono fun v g3 hg3 hO=>?_)
  obtain⟨cs,T,rfl,hT⟩:=hO
  have hF:=qTA hT
  obtain⟨oa',ca',ob',cb',oc',cc',od',cd',oe',ce',rfl⟩:=qKA hF
  obtain⟨av0,rfl⟩:=qJA hV hS.ver.2
  obtain⟨oL0,cL0,oR0,cR0,oC0,cC0,oG0,cG0,hcv0,hsn0,hcK0,hcG0⟩:=qnE hV hS.ver.2
  obtain⟨ag0,rfl⟩:=qJA hcG0 hS.clu.2
  obtain⟨oE0,cE0,hcg0,htk0,hcE0⟩:=qSF hcG0 hS.clu.2
  obtain⟨ae0,rfl⟩:=qJA hcE0 hS.end_.2
  obtain⟨oN0,cN0,hce0,hei0,hcN0⟩:=qaF hcE0 hS.end_.2
  have hwu:=hok.word
  obtain⟨b1,k1,b2,k2,va,vb,vd,vn,T2,hq,hcv,hcg,htk,hE2,_,hPK⟩:=qdC hT hS.ver.2 hS.clu.2
  cases hq
  have hei:=(qGE hF hS.ver.2 hS.clu.2 hS.end_.2).1
  obtain⟨hvi,hgi,hki⟩:=hS.idx
  obtain⟨hmV,hmG,hmE⟩:=hS.at_
  obtain⟨b3,k3,nn,T3,hqn,hce,hN,hPE⟩:=q8A hE2 hS.end_.2 (en':=en) (o:=0) (vs:=[.int .u64 en.head]) (by simp) (by simp [Value.oneCell']) (fun n=>rfl) rfl ⟨hei.1,hei.2.1⟩
  subst hqn
  rw [hmE] at hM9 hE9
  simp only [evV,hmV] at hE9
  repeat'((conv=>whnf);first|apply qza|apply qzb|apply qzc|apply qzd|apply qze|intro(_:Nat)|refine⟨_,rfl,hvi,?_⟩|refine⟨_,hcv 3 _ rfl,?_⟩|refine⟨_,rfl,hgi,?_⟩|refine⟨_,hcg 1 _ rfl,?_⟩|refine⟨_,rfl,hki,?_⟩|fail)
  repeat((conv=>whnf);first|apply qza|apply qzb|apply qzc|apply qzd|apply qze|intro(_:Nat))
  conv=>whnf
  refine⟨fun _=>?_,fun hx=>absurd h0 (beqF hx)⟩
  repeat'((conv=>whnf);first|apply qza|apply qzb|apply qzc|apply qzd|apply qze|intro(_:Nat)|refine⟨_,hce 0 _ rfl,?_⟩|refine .inl ⟨_,qsM _ hei.1,?_⟩|refine .inl ⟨_,qrM _ {m with word:=en.head,pc:=1} 1 8 _ hvi (hcv0.mono hg3),?_⟩|refine And.intro ?_ ?_|fail)
  all_goals (conv=>whnf)
  all_goals (first|exact Eq.refl _|(
   intro g2 hg
   refine⟨_,_,by rw [hE9]<;>rfl,by rw [hW9];exact qDA _ _ _ _ hg hF,?_⟩
   rw [hM9]
   exact⟨_,_,_,rfl,{hok with pc:=show InR (1:Int) by decide,word:=hei.1},hop,qCA _ _ _ _ (GW.trans hg3 hg) hcf⟩)))
/- Ends of requests: the document's step,place 1. -/
open Go.Proofs.YthonngjhelcpeaaGreat.Sx Go.RowKit
theorem qNY (g:GW) {cs ms:List Value} {w:Wd} {m:Mach} (hw:rWo g cs w) (hM:qhA g ms m) (hsn:SnW w) (hb:BgW 1000000 w) (hgo:fGo w m) (h0:m.pc=1):Ok Tryz.prog qVA [.agg ⟨cs⟩,.agg ⟨ms⟩] g (FiP w m):=by
 obtain⟨hW9,hM9,hE9⟩:=qhG hgo
 obtain⟨kW,kM,kE⟩:=fa1 (w:=w) h0
 rw [kW] at hW9
 rw [kM] at hM9
 rw [kE] at hE9
 clear kW kM kE
 have hs:=hgo.1
 obtain⟨v,gr,en,hS⟩:=id (suitB_iff.1 hs)
 obtain⟨oa,ca,ob,cb,oc,cc,od,cd,oe,ce,o1,t1,o2,t2,o3,t3,rfl,rfl,hw0,hM0,⟨i1,i2,i3⟩,hP,hV,hL,hC,hR,⟨a1,a2,a0,hP1⟩,⟨b1,b2,b0,hV1⟩,⟨c1,c2,c0,hL1⟩,⟨d1,d2,d0,hC1⟩,⟨e1,e2,e0,hR1⟩,hok,hop,hcf⟩:=q4B hw hM
 exact Ok.of_fn hm noT 0 qdA (args:=[.v (.agg ⟨wQ w oa ca ob cb oc cc od cd oe ce⟩),.v (.agg ⟨mQ m o1 t1 o2 t2 o3 t3⟩)]) (by
  repeat((conv=>whnf);first|apply qza|apply qzb|apply qzc|apply qzd|apply qze|intro(_:Nat))
  conv=>whnf
  refine .inl ⟨_,qNE _ hw0 hM0 hsn hb,?_⟩
  repeat((conv=>whnf);first|apply qza|apply qzb|apply qzc|apply qzd|apply qze|intro(_:Nat))
  conv=>whnf
  refine⟨fun hx=>absurd (hs.symm.trans (nb1 hx)) (by decide),fun _=>?_⟩
  repeat((conv=>whnf);first|apply qza|apply qzb|apply qzc|apply qzd|apply qze|intro(_:Nat))
  conv=>whnf
  refine dF (by omega) ?_
  repeat((conv=>whnf);first|apply qza|apply qzb|apply qzc|apply qzd|apply qze|intro(_:Nat))
  conv=>whnf
  refine dF (by omega) ?_
  repeat((conv=>whnf);first|apply qza|apply qzb|apply qzc|apply qzd|apply qze|intro(_:Nat))
  conv=>whnf
  refine⟨fun hx=>absurd (beqT hx) (by omega),fun _=>?_⟩
  repeat((conv=>whnf);first|apply qza|apply qzb|apply qzc|apply qzd|apply qze|intro(_:Nat))
  refine .inr ((qLF _ hw0 hb).mono fun v g3 hg3 hO=>?_)
  obtain⟨cs,T,rfl,hT⟩:=hO
  have hF:=qTA hT
  obtain⟨oa',ca',ob',cb',oc',cc',od',cd',oe',ce',rfl⟩:=qKA hF
  obtain⟨av0,rfl⟩:=qJA hV hS.ver.2
  obtain⟨oL0,cL0,oR0,cR0,oC0,cC0,oG0,cG0,hcv0,hsn0,hcK0,hcG0⟩:=qnE hV hS.ver.2
  obtain⟨ag0,rfl⟩:=qJA hcG0 hS.clu.2
  obtain⟨oE0,cE0,hcg0,htk0,hcE0⟩:=qSF hcG0 hS.clu.2
  obtain⟨ae0,rfl⟩:=qJA hcE0 hS.end_.2
  obtain⟨oN0,cN0,hce0,hei0,hcN0⟩:=qaF hcE0 hS.end_.2
  have hwu:=hok.word
  obtain⟨b1,k1,b2,k2,va,vb,vd,vn,T2,hq,hcv,hcg,htk,hE2,_,hPK⟩:=qdC hT hS.ver.2 hS.clu.2
  cases hq
  have hei:=(qGE hF hS.ver.2 hS.clu.2 hS.end_.2).1
  obtain⟨hvi,hgi,hki⟩:=hS.idx
  obtain⟨hmV,hmG,hmE⟩:=hS.at_
  have hsl:=hS.slot
  obtain⟨y,hy⟩:=qAA (l:=en.next) (i:=m.slot.toNat) (by omega)
  obtain⟨b3,k3,b4,k4,hqn,hce,hPE⟩:=qHO hE2 hS.end_.2 (s:=m.slot.toNat) hy (quU hwu)
  subst hqn
  obtain⟨b5,j5,bc,ty5,⟨hA,p1,p2,p3,p4⟩,_,hk5⟩:=hPK _ _ _ hPE
  rw [hmE,setE,hmV,hmG] at hW9
  simp only [evV,hmV] at hE9
  repeat'((conv=>whnf);first|apply qza|apply qzb|apply qzc|apply qzd|apply qze|intro(_:Nat)|refine⟨_,rfl,hvi,?_⟩|refine⟨_,hcv 3 _ rfl,?_⟩|refine⟨_,rfl,hgi,?_⟩|refine⟨_,hcg 1 _ rfl,?_⟩|refine⟨_,rfl,hki,?_⟩|fail)
  repeat((conv=>whnf);first|apply qza|apply qzb|apply qzc|apply qzd|apply qze|intro(_:Nat))
  conv=>whnf
  refine⟨fun hx=>absurd ((beqT hx).symm.trans h0) (by decide),fun _=>?_⟩
  repeat((conv=>whnf);first|apply qza|apply qzb|apply qzc|apply qzd|apply qze|intro(_:Nat))
  conv=>whnf
  refine⟨fun _=>?_,fun hx=>absurd h0 (beqF hx)⟩
  repeat'((conv=>whnf);first|apply qza|apply qzb|apply qzc|apply qzd|apply qze|intro(_:Nat)|refine⟨_,hce 1 _ rfl,?_⟩|refine .inl ⟨_,qsM _ hwu,?_⟩|refine⟨_,rfl,hsl,?_⟩|refine And.intro ?_ ?_|fail)
  conv=>whnf
  refine⟨b5,j5,bc,ty5,⟨by first|exact hA|(rw [← hA];rfl)|(rw [← hA,qwA]),p1,p2,p3,p4⟩,?_⟩
  repeat((conv=>whnf);first|apply qza|apply qzb|apply qzc|apply qzd|apply qze|intro(_:Nat))
  conv=>whnf
  refine fun g6 u6=>?_
  have hFx:=qTA (hk5 g6 u6)
  have hle6:g≤g6:=u6.le hg3 (fun h=>by have:=g.wf _ h;omega)
  have hcw:=u6.rd p2 p4
  rw [← hA] at hcw
  repeat'((conv=>whnf);first|apply qza|apply qzb|apply qzc|apply qzd|apply qze|intro(_:Nat)|refine .inl ⟨_,qsM _ hwu,?_⟩|refine .inl ⟨_,qrM _ {m with pc:=2} 2 9 _ hvi (hcv0.mono hle6),?_⟩|refine And.intro ?_ ?_|fail)
  all_goals (conv=>whnf)
  all_goals (first|exact Eq.refl _|(
   intro g2 hg
   refine⟨_,_,by rw [hE9]<;>rfl,by rw [hW9];exact qDA _ _ _ _ hg hFx,?_⟩
   rw [hM9]
   exact⟨_,_,_,rfl,{hok with pc:=show InR (2:Int) by decide},hop,qCA _ _ _ _ (GW.trans hle6 hg) hcf⟩)))
/- Ends of requests: the document's step,place 2. -/
open Go.Proofs.YthonngjhelcpeaaGreat.Sx Go.RowKit
theorem qMY (g:GW) {cs ms:List Value} {w:Wd} {m:Mach} (hw:rWo g cs w) (hM:qhA g ms m) (hsn:SnW w) (hb:BgW 1000000 w) (hgo:fGo w m) (h0:m.pc=2):Ok Tryz.prog qVA [.agg ⟨cs⟩,.agg ⟨ms⟩] g (FiP w m):=by
 obtain⟨hW9,hM9,hE9⟩:=qhG hgo
 obtain⟨kW,kM,kE⟩:=fa2 (w:=w) h0
 rw [kW] at hW9
 rw [kM] at hM9
 rw [kE] at hE9
 clear kW kM kE
 have hs:=hgo.1
 obtain⟨v,gr,en,hS⟩:=id (suitB_iff.1 hs)
 obtain⟨oa,ca,ob,cb,oc,cc,od,cd,oe,ce,o1,t1,o2,t2,o3,t3,rfl,rfl,hw0,hM0,⟨i1,i2,i3⟩,hP,hV,hL,hC,hR,⟨a1,a2,a0,hP1⟩,⟨b1,b2,b0,hV1⟩,⟨c1,c2,c0,hL1⟩,⟨d1,d2,d0,hC1⟩,⟨e1,e2,e0,hR1⟩,hok,hop,hcf⟩:=q4B hw hM
 exact Ok.of_fn hm noT 0 qdA (args:=[.v (.agg ⟨wQ w oa ca ob cb oc cc od cd oe ce⟩),.v (.agg ⟨mQ m o1 t1 o2 t2 o3 t3⟩)]) (by
  repeat((conv=>whnf);first|apply qza|apply qzb|apply qzc|apply qzd|apply qze|intro(_:Nat))
  conv=>whnf
  refine .inl ⟨_,qNE _ hw0 hM0 hsn hb,?_⟩
  repeat((conv=>whnf);first|apply qza|apply qzb|apply qzc|apply qzd|apply qze|intro(_:Nat))
  conv=>whnf
  refine⟨fun hx=>absurd (hs.symm.trans (nb1 hx)) (by decide),fun _=>?_⟩
  repeat((conv=>whnf);first|apply qza|apply qzb|apply qzc|apply qzd|apply qze|intro(_:Nat))
  conv=>whnf
  refine dF (by omega) ?_
  repeat((conv=>whnf);first|apply qza|apply qzb|apply qzc|apply qzd|apply qze|intro(_:Nat))
  conv=>whnf
  refine dF (by omega) ?_
  repeat((conv=>whnf);first|apply qza|apply qzb|apply qzc|apply qzd|apply qze|intro(_:Nat))
  conv=>whnf
  refine⟨fun hx=>absurd (beqT hx) (by omega),fun _=>?_⟩
  repeat((conv=>whnf);first|apply qza|apply qzb|apply qzc|apply qzd|apply qze|intro(_:Nat))
  refine .inr ((qLF _ hw0 hb).mono fun v g3 hg3 hO=>?_)
  obtain⟨cs,T,rfl,hT⟩:=hO
  have hF:=qTA hT
  obtain⟨oa',ca',ob',cb',oc',cc',od',cd',oe',ce',rfl⟩:=qKA hF
  obtain⟨av0,rfl⟩:=qJA hV hS.ver.2
  obtain⟨oL0,cL0,oR0,cR0,oC0,cC0,oG0,cG0,hcv0,hsn0,hcK0,hcG0⟩:=qnE hV hS.ver.2
  obtain⟨ag0,rfl⟩:=qJA hcG0 hS.clu.2
  obtain⟨oE0,cE0,hcg0,htk0,hcE0⟩:=qSF hcG0 hS.clu.2
  obtain⟨ae0,rfl⟩:=qJA hcE0 hS.end_.2
  obtain⟨oN0,cN0,hce0,hei0,hcN0⟩:=qaF hcE0 hS.end_.2
  have hwu:=hok.word
  obtain⟨b1,k1,b2,k2,va,vb,vd,vn,T2,hq,hcv,hcg,htk,hE2,_,hPK⟩:=qdC hT hS.ver.2 hS.clu.2
  cases hq
  have hei:=(qGE hF hS.ver.2 hS.clu.2 hS.end_.2).1
  obtain⟨hvi,hgi,hki⟩:=hS.idx
  obtain⟨hmV,hmG,hmE⟩:=hS.at_
  have hsl:=hS.slot
  obtain⟨y,hy⟩:=qAA (l:=en.next) (i:=m.slot.toNat) (by omega)
  have h4:=(qkB hS.endB).2.2.1
  have hpl:-1≤m.slot∧m.slot≤2147483646:=by omega
  have hpb:qNB m.slot=true:=by simpa [qNB] using hpl
  rw [hmE,setE,hmV,hmG] at hW9
  rw [hmE] at hM9 hE9
  simp only [evV,hmV] at hE9
  by_cases hc1:en.head=m.word
  ·rw [if_pos hc1] at hW9 hM9 hE9
   obtain⟨b3,k3,nn,T3,hqn,hce,hN,hPE⟩:=q8A hE2 hS.end_.2 (en':={en with head:=qBB m.word m.slot}) (o:=0) (vs:=[.int .u64 (qBB m.word m.slot)]) (by simp) (by simp [Value.oneCell']) (fun n=>rfl) rfl ⟨qCP hpl,hei.2.1⟩
   subst hqn
   obtain⟨b5,j5,bc,ty5,⟨hA,p1,p2,p3,p4⟩,_,hk5⟩:=hPK _ _ _ hPE
   repeat'((conv=>whnf);first|apply qza|apply qzb|apply qzc|apply qzd|apply qze|intro(_:Nat)|refine⟨_,rfl,hvi,?_⟩|refine⟨_,hcv 3 _ rfl,?_⟩|refine⟨_,rfl,hgi,?_⟩|refine⟨_,hcg 1 _ rfl,?_⟩|refine⟨_,rfl,hki,?_⟩|fail)
   repeat((conv=>whnf);first|apply qza|apply qzb|apply qzc|apply qzd|apply qze|intro(_:Nat))
   conv=>whnf
   refine⟨fun hx=>absurd ((beqT hx).symm.trans h0) (by decide),fun _=>?_⟩
   repeat((conv=>whnf);first|apply qza|apply qzb|apply qzc|apply qzd|apply qze|intro(_:Nat))
   conv=>whnf
   refine⟨fun hx=>absurd ((beqT hx).symm.trans h0) (by decide),fun _=>?_⟩
   repeat((conv=>whnf);first|apply qza|apply qzb|apply qzc|apply qzd|apply qze|intro(_:Nat))
   conv=>whnf
   refine⟨fun _=>?_,fun hx=>absurd h0 (beqF hx)⟩
   repeat'((conv=>whnf);first|apply qza|apply qzb|apply qzc|apply qzd|apply qze|intro(_:Nat)|refine⟨_,hce 0 _ rfl,?_⟩|fail)
   conv=>whnf
   refine⟨fun hx=>absurd hc1 (bneT hx),fun _=>?_⟩
   repeat'((conv=>whnf);first|apply qza|apply qzb|apply qzc|apply qzd|apply qze|intro(_:Nat)|refine .inl ⟨_,(qaU _ hwu hok.slot).to (v':=.tuple #[.int .u64 (qBB m.word m.slot),.int .i64 0]) (by simp [hpb]),?_⟩|fail)
   conv=>whnf
   refine⟨b5,j5,bc,ty5,⟨by first|exact hA|(rw [← hA];rfl)|(rw [← hA,qwA]),p1,p2,p3,p4⟩,?_⟩
   repeat((conv=>whnf);first|apply qza|apply qzb|apply qzc|apply qzd|apply qze|intro(_:Nat))
   conv=>whnf
   refine fun g6 u6=>?_
   have hFx:=qTA (hk5 g6 u6)
   have hle6:g≤g6:=u6.le hg3 (fun h=>by have:=g.wf _ h;omega)
   have hcw:=u6.rd p2 p4
   rw [← hA] at hcw
   repeat'((conv=>whnf);first|apply qza|apply qzb|apply qzc|apply qzd|apply qze|intro(_:Nat)|refine .inl ⟨_,qrM _ {m with pc:=3} 4 8 _ hvi (hcv0.mono hle6),?_⟩|refine And.intro ?_ ?_|fail)
   all_goals (conv=>whnf)
   all_goals (first|exact Eq.refl _|(
    intro g2 hg
    refine⟨_,_,by rw [hE9]<;>rfl,by rw [hW9];exact qDA _ _ _ _ hg hFx,?_⟩
    rw [hM9]
    exact⟨_,_,_,rfl,{hok with pc:=show InR (3:Int) by decide},hop,qCA _ _ _ _ (GW.trans hle6 hg) hcf⟩))
  ·rw [if_neg hc1] at hW9 hM9 hE9
   obtain⟨b3,k3,nn,T3,hqn,hce,hN,hPE⟩:=q8A hE2 hS.end_.2 (en':=en) (o:=0) (vs:=[.int .u64 en.head]) (by simp) (by simp [Value.oneCell']) (fun n=>rfl) rfl ⟨hei.1,hei.2.1⟩
   subst hqn
   repeat'((conv=>whnf);first|apply qza|apply qzb|apply qzc|apply qzd|apply qze|intro(_:Nat)|refine⟨_,rfl,hvi,?_⟩|refine⟨_,hcv 3 _ rfl,?_⟩|refine⟨_,rfl,hgi,?_⟩|refine⟨_,hcg 1 _ rfl,?_⟩|refine⟨_,rfl,hki,?_⟩|fail)
   repeat((conv=>whnf);first|apply qza|apply qzb|apply qzc|apply qzd|apply qze|intro(_:Nat))
   conv=>whnf
   refine⟨fun hx=>absurd ((beqT hx).symm.trans h0) (by decide),fun _=>?_⟩
   repeat((conv=>whnf);first|apply qza|apply qzb|apply qzc|apply qzd|apply qze|intro(_:Nat))
   conv=>whnf
   refine⟨fun hx=>absurd ((beqT hx).symm.trans h0) (by decide),fun _=>?_⟩
   repeat((conv=>whnf);first|apply qza|apply qzb|apply qzc|apply qzd|apply qze|intro(_:Nat))
   conv=>whnf
   refine⟨fun _=>?_,fun hx=>absurd h0 (beqF hx)⟩
   repeat'((conv=>whnf);first|apply qza|apply qzb|apply qzc|apply qzd|apply qze|intro(_:Nat)|refine⟨_,hce 0 _ rfl,?_⟩|fail)
   conv=>whnf
   refine⟨fun _=>?_,fun hx=>absurd (bneF hx) hc1⟩
   repeat'((conv=>whnf);first|apply qza|apply qzb|apply qzc|apply qzd|apply qze|intro(_:Nat)|refine⟨_,hce 0 _ rfl,?_⟩|refine .inl ⟨_,qsM _ hei.1,?_⟩|refine .inl ⟨_,qrM _ {m with pc:=0} 5 8 _ hvi (hcv0.mono hg3),?_⟩|refine And.intro ?_ ?_|fail)
   all_goals (conv=>whnf)
   all_goals (first|exact Eq.refl _|(
    intro g2 hg
    refine⟨_,_,by rw [hE9]<;>rfl,by rw [hW9];exact qDA _ _ _ _ hg hF,?_⟩
    rw [hM9]
    exact⟨_,_,_,rfl,{hok with pc:=show InR (0:Int) by decide},hop,qCA _ _ _ _ (GW.trans hg3 hg) hcf⟩)))
/- Ends of requests: the document's step,place 3. -/
open Go.Proofs.YthonngjhelcpeaaGreat.Sx Go.RowKit
theorem qLY (g:GW) {cs ms:List Value} {w:Wd} {m:Mach} (hw:rWo g cs w) (hM:qhA g ms m) (hsn:SnW w) (hb:BgW 1000000 w) (hgo:fGo w m) (h0:m.pc=3):Ok Tryz.prog qVA [.agg ⟨cs⟩,.agg ⟨ms⟩] g (FiP w m):=by
 obtain⟨hW9,hM9,hE9⟩:=qhG hgo
 obtain⟨kW,kM,kE⟩:=fa3 (w:=w) h0
 rw [kW] at hW9
 rw [kM] at hM9
 rw [kE] at hE9
 clear kW kM kE
 have hs:=hgo.1
 obtain⟨v,gr,en,hS⟩:=id (suitB_iff.1 hs)
 obtain⟨oa,ca,ob,cb,oc,cc,od,cd,oe,ce,o1,t1,o2,t2,o3,t3,rfl,rfl,hw0,hM0,⟨i1,i2,i3⟩,hP,hV,hL,hC,hR,⟨a1,a2,a0,hP1⟩,⟨b1,b2,b0,hV1⟩,⟨c1,c2,c0,hL1⟩,⟨d1,d2,d0,hC1⟩,⟨e1,e2,e0,hR1⟩,hok,hop,hcf⟩:=q4B hw hM
 exact Ok.of_fn hm noT 0 qdA (args:=[.v (.agg ⟨wQ w oa ca ob cb oc cc od cd oe ce⟩),.v (.agg ⟨mQ m o1 t1 o2 t2 o3 t3⟩)]) (by
  repeat((conv=>whnf);first|apply qza|apply qzb|apply qzc|apply qzd|apply qze|intro(_:Nat))
  conv=>whnf
  refine .inl ⟨_,qNE _ hw0 hM0 hsn hb,?_⟩
  repeat((conv=>whnf);first|apply qza|apply qzb|apply qzc|apply qzd|apply qze|intro(_:Nat))
  conv=>whnf
  refine⟨fun hx=>absurd (hs.symm.trans (nb1 hx)) (by decide),fun _=>?_⟩
  repeat((conv=>whnf);first|apply qza|apply qzb|apply qzc|apply qzd|apply qze|intro(_:Nat))
  conv=>whnf
  refine dF (by omega) ?_
  repeat((conv=>whnf);first|apply qza|apply qzb|apply qzc|apply qzd|apply qze|intro(_:Nat))
  conv=>whnf
  refine dF (by omega) ?_
  repeat((conv=>whnf);first|apply qza|apply qzb|apply qzc|apply qzd|apply qze|intro(_:Nat))
  conv=>whnf
  refine⟨fun hx=>absurd (beqT hx) (by omega),fun _=>?_⟩
  repeat((conv=>whnf);first|apply qza|apply qzb|apply qzc|apply qzd|apply qze|intro(_:Nat))
  refine .inr ((qLF _ hw0 hb).mono fun v g3 hg3 hO=>?_)
  obtain⟨cs,T,rfl,hT⟩:=hO
  have hF:=qTA hT
  obtain⟨oa',ca',ob',cb',oc',cc',od',cd',oe',ce',rfl⟩:=qKA hF
  obtain⟨av0,rfl⟩:=qJA hV hS.ver.2
  obtain⟨oL0,cL0,oR0,cR0,oC0,cC0,oG0,cG0,hcv0,hsn0,hcK0,hcG0⟩:=qnE hV hS.ver.2
  obtain⟨ag0,rfl⟩:=qJA hcG0 hS.clu.2
  obtain⟨oE0,cE0,hcg0,htk0,hcE0⟩:=qSF hcG0 hS.clu.2
  obtain⟨ae0,rfl⟩:=qJA hcE0 hS.end_.2
  obtain⟨oN0,cN0,hce0,hei0,hcN0⟩:=qaF hcE0 hS.end_.2
  have hwu:=hok.word
  obtain⟨b1,k1,b2,k2,va,vb,vd,vn,T2,hq,hcv,hcg,htk,hE2,_,hPK⟩:=qdC hT hS.ver.2 hS.clu.2
  cases hq
  have hei:=(qGE hF hS.ver.2 hS.clu.2 hS.end_.2).1
  obtain⟨hvi,hgi,hki⟩:=hS.idx
  obtain⟨hmV,hmG,hmE⟩:=hS.at_
  obtain⟨b3,k3,nn,T3,hqn,hce,hN,hPE⟩:=q8A hE2 hS.end_.2 (en':={en with active:=wI (en.active-1)}) (o:=2) (vs:=[.int .i64 (wI (en.active-1))]) (by simp) (by simp [Value.oneCell']) (fun n=>rfl) rfl ⟨hei.1,qqG _⟩
  subst hqn
  obtain⟨b5,j5,bc,ty5,⟨hA,p1,p2,p3,p4⟩,_,hk5⟩:=hPK _ _ _ hPE
  rw [hmE] at hW9 hE9
  rw [setE,hmV,hmG] at hW9
  simp only [evV,hmV] at hE9
  repeat'((conv=>whnf);first|apply qza|apply qzb|apply qzc|apply qzd|apply qze|intro(_:Nat)|refine⟨_,rfl,hvi,?_⟩|refine⟨_,hcv 3 _ rfl,?_⟩|refine⟨_,rfl,hgi,?_⟩|refine⟨_,hcg 1 _ rfl,?_⟩|refine⟨_,rfl,hki,?_⟩|fail)
  repeat((conv=>whnf);first|apply qza|apply qzb|apply qzc|apply qzd|apply qze|intro(_:Nat))
  conv=>whnf
  refine⟨fun hx=>absurd ((beqT hx).symm.trans h0) (by decide),fun _=>?_⟩
  repeat((conv=>whnf);first|apply qza|apply qzb|apply qzc|apply qzd|apply qze|intro(_:Nat))
  conv=>whnf
  refine⟨fun hx=>absurd ((beqT hx).symm.trans h0) (by decide),fun _=>?_⟩
  repeat((conv=>whnf);first|apply qza|apply qzb|apply qzc|apply qzd|apply qze|intro(_:Nat))
  conv=>whnf
  refine⟨fun hx=>absurd ((beqT hx).symm.trans h0) (by decide),fun _=>?_⟩
  repeat((conv=>whnf);first|apply qza|apply qzb|apply qzc|apply qzd|apply qze|intro(_:Nat))
  conv=>whnf
  refine⟨fun _=>?_,fun hx=>absurd h0 (beqF hx)⟩
  repeat'((conv=>whnf);first|apply qza|apply qzb|apply qzc|apply qzd|apply qze|intro(_:Nat)|refine⟨_,hce 2 _ rfl,?_⟩|fail)
  conv=>whnf
  refine⟨b5,j5,bc,ty5,⟨by first|exact hA|(rw [← hA];rfl)|(rw [← hA,qwA]),p1,p2,p3,p4⟩,?_⟩
  repeat((conv=>whnf);first|apply qza|apply qzb|apply qzc|apply qzd|apply qze|intro(_:Nat))
  conv=>whnf
  refine fun g6 u6=>?_
  have hFx:=qTA (hk5 g6 u6)
  have hle6:g≤g6:=u6.le hg3 (fun h=>by have:=g.wf _ h;omega)
  have hcw:=u6.rd p2 p4
  rw [← hA] at hcw
  have hcw':Rc g6 (((⟨b3,0,none⟩:Addr).add (m.end_.toNat*3)).add 2) (.int .i64 (wI (en.active-1))):=hcw 0 _ rfl
  repeat'((conv=>whnf);first|apply qza|apply qzb|apply qzc|apply qzd|apply qze|intro(_:Nat)|refine⟨_,hcw',?_⟩|refine .inl ⟨_,qrM _ {m with pc:=4} 3 7 _ hvi (hcv0.mono hle6),?_⟩|refine And.intro ?_ ?_|fail)
  all_goals (conv=>whnf)
  all_goals (first|exact Eq.refl _|(
   intro g2 hg
   refine⟨_,_,by rw [hE9]<;>rfl,by rw [hW9];exact qDA _ _ _ _ hg hFx,?_⟩
   rw [hM9]
   exact⟨_,_,_,rfl,{hok with pc:=show InR (4:Int) by decide},hop,qCA _ _ _ _ (GW.trans hle6 hg) hcf⟩)))
end Go.Proofs.YthonngjhelcpeaaGreat
