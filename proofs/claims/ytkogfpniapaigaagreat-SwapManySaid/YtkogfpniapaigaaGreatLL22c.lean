/- The law SwapMany. -/
import Derived.Test.YtkogfpniapaigaaGreatLW9h2
import Derived.Test.YtkogfpniapaigaaGreatPP65
import Derived.Test.YtkogfpniapaigaaGreatLW25y
set_option linter.unusedVariables false
set_option linter.unusedSimpArgs false
namespace Go.Proofs.YtkogfpniapaigaaGreat
open Go.Proofs.YtkogfpniapaigaaGreat.Sx Go.RowKit
set_option maxHeartbeats 16000000
set_option maxRecDepth 100000
structure MaSt where
 j:Nat
 n:Nat
 g:GW
 w:Wd
 oa:Option Addr
 ca:Nat
 ob:Option Addr
 cb:Nat
 oc:Option Addr
 cc:Nat
 od:Option Addr
 cd:Nat
 oe:Option Addr
 ce:Nat
abbrev MaSt.wc (x:MaSt):List Value:=[.int .i64 x.w.epoch,.int .i64 x.w.current,.int .i64 x.w.lock,.slice x.oa x.w.pins.length x.ca,.slice x.ob x.w.versions.length x.cb,.slice x.oc x.w.listens.length x.cc,.slice x.od x.w.counts.length x.cd,.slice x.oe x.w.limbo.length x.ce]
theorem qSP (g:GW) {cs:List Value} {w:Wd} {t:Int} {vl:Value} {l:List Config} (hw:rWo g cs w) (ht:InR t) (hl:rSl 3 qcA g vl l):OkV Tryz.prog qpE [.agg ⟨cs⟩,.int .i64 t,vl] g (.bool true):=by
 obtain⟨oa,ca,ob,cb,oc,cc,od,cd,oe,ce,rfl⟩:=qoA hw
 obtain⟨ol,cl,rfl,l1,l2,l0,hl1⟩:=id hl
 exact Ok.of_fn hm noT 0 qhE (args:=[.v (.agg ⟨wQ w oa ca ob cb oc cc od cd oe ce⟩),.v (.int .i64 t),.v (.slice ol l.length cl)]) (by
  repeat((conv=>whnf);first|apply qza|apply qzb|apply qzc|apply qzd|apply qze|intro(_:Nat))
  refine .inr ((qsM _ hw).mono fun v g1 hg1 hB=>?_)
  obtain⟨b,rfl,hB⟩:=hB
  repeat((conv=>whnf);first|apply qza|apply qzb|apply qzc|apply qzd|apply qze|intro(_:Nat))
  conv=>whnf
  refine⟨fun z1=>?_,fun z1=>?_⟩
  ·repeat((conv=>whnf);first|apply qza|apply qzb|apply qzc|apply qzd|apply qze|intro(_:Nat))
   conv=>whnf
   refine .inl ⟨_,qGB _,?_⟩
   repeat((conv=>whnf);first|apply qza|apply qzb|apply qzc|apply qzd|apply qze|intro(_:Nat))
   conv=>whnf
   intro g2 hg
   rfl
  obtain⟨hb,hsn⟩:=hB z1
  have hb':=BgW.up (K':=1000000) hb (by decide)
  have hw1:=qTA _ _ _ _ hg1 hw
  repeat((conv=>whnf);first|apply qza|apply qzb|apply qzc|apply qzd|apply qze|intro(_:Nat))
  conv=>whnf
  refine⟨fun z2=>?_,fun z2=>?_⟩
  ·repeat((conv=>whnf);first|apply qza|apply qzb|apply qzc|apply qzd|apply qze|intro(_:Nat))
   conv=>whnf
   refine .inl ⟨_,qGB _,?_⟩
   repeat((conv=>whnf);first|apply qza|apply qzb|apply qzc|apply qzd|apply qze|intro(_:Nat))
   conv=>whnf
   intro g2 hg
   rfl
  have hl8:l.length≤8:=by have:=of_decide_eq_false z2;omega
  have hMT:qiD g1 (({mP 0 0 with thread:=t}:Mach).cs (.slice none 0 0) (.slice none 0 0) (.slice none 0 0)) {mP 0 0 with thread:=t} :=
   ⟨_,_,_,rfl,⟨ht,z0,z0,z0,z0,z0,z0,z0,z0,zu,z0,z0,z0,z0,qpS,qkO⟩,⟨z0,z0,z0,z0⟩,qAP _⟩
  repeat((conv=>whnf);first|apply qza|apply qzb|apply qzc|apply qzd|apply qze|intro(_:Nat))
  conv=>whnf
  refine .inl ⟨_,qtM _ hw1 hMT hsn hb',?_⟩
  repeat((conv=>whnf);first|apply qza|apply qzb|apply qzc|apply qzd|apply qze|intro(_:Nat))
  conv=>whnf
  refine⟨fun z3=>?_,fun z3=>?_⟩
  ·repeat((conv=>whnf);first|apply qza|apply qzb|apply qzc|apply qzd|apply qze|intro(_:Nat))
   conv=>whnf
   refine .inl ⟨_,qGB _,?_⟩
   repeat((conv=>whnf);first|apply qza|apply qzb|apply qzc|apply qzd|apply qze|intro(_:Nat))
   conv=>whnf
   intro g2 hg
   rfl
  have hs:=nb0 z3
  have hr0:=q8T hs
  have hst:∃ m:Mach,m.thread=t∧m.listen=0∧qfB w m=true:=⟨_,rfl,rfl,hs⟩
  repeat((conv=>whnf);first|apply qza|apply qzb|apply qzc|apply qzd|apply qze|intro(_:Nat))
  rename_i q0 q1
  conv=>whnf
  refine⟨MaSt,fun y=>[.v (.int .i64 y.n),.v (.int .i64 y.j)],fun y=>⟨y.g,[.blk 1 q1 qEA (y.wc.map SV.v),.blk 0 q0 qEA [.v (.int .i64 w.epoch),.v (.int .i64 w.current),.v (.int .i64 w.lock),.v (.slice oa w.pins.length ca),.v (.slice ob w.versions.length cb),.v (.slice oc w.listens.length cc),.v (.slice od w.counts.length cd),.v (.slice oe w.limbo.length ce)]],_,_⟩,fun y=>(y.j≤l.length∧y.n≤y.j)∧g1≤y.g∧rWo y.g y.wc y.w∧ManyI w y.w y.n∧SnW y.w∧BgW (60+3*y.j) y.w,fun y=>l.length-y.j,qDA (⟨0,0,g1,w,oa,ca,ob,cb,oc,cc,od,cd,oe,ce⟩:MaSt) rfl ⟨⟨Nat.zero_le _,Nat.le_refl _⟩,GW.refl _,hw1,ManyI.begin_ hr0,hsn,hb⟩ rfl,?_⟩
  intro y hy
  obtain⟨j,n,gx,x,pa,da,pb,db,pc,dc,pd,dd,pe,de⟩:=y
  obtain⟨⟨hj,hnj⟩,hgx,hxw,hI,hxs,hxb⟩:=hy
  replace hj:j≤l.length:=hj
  replace hnj:n≤j:=hnj
  replace hgx:g1≤gx:=hgx
  replace hI:ManyI w x n:=hI
  replace hxs:SnW x:=hxs
  replace hxb:BgW (60+3*j) x:=hxb
  repeat((conv=>whnf);first|apply qza|apply qzb|apply qzc|apply qzd|apply qze|intro(_:Nat))
  conv=>whnf
  refine⟨fun hlt=>?_,fun hlt=>?_⟩
  ·have h':j<l.length:=by
    have h9:(j:Int)<(l.length:Int):=of_decide_eq_true hlt
    omega
   obtain⟨c,hc⟩:=qBA h'
   obtain⟨a,rfl,ec,hec,hcf,hcc⟩:=hl1 j c hc
   obtain⟨_,_,_,rfl,⟨o1,t1,rfl,_⟩,⟨o2,t2,rfl,_⟩,⟨o3,t3,rfl,_⟩⟩:=id hcf
   have hcx:=qMA _ _ _ _ (GW.trans hg1 hgx) hcf
   have hccx:=hcc.mono (GW.trans hg1 hgx)
   repeat((conv=>whnf);first|apply qza|apply qzb|apply qzc|apply qzd|apply qze|intro(_:Nat))
   conv=>whnf
   refine⟨a,rfl,⟨by show(0:Int)≤(j:Int);omega,by show(j:Int)<(l.length:Int);omega⟩,?_⟩
   repeat((conv=>whnf);first|apply qza|apply qzb|apply qzc|apply qzd|apply qze|intro(_:Nat))
   conv=>whnf
   refine⟨_,⟨rfl,hccx⟩,?_⟩
   repeat((conv=>whnf);first|apply qza|apply qzb|apply qzc|apply qzd|apply qze|intro(_:Nat))
   conv=>whnf
   refine .inl ⟨_,qRP _ hcx,?_⟩
   repeat((conv=>whnf);first|apply qza|apply qzb|apply qzc|apply qzd|apply qze|intro(_:Nat))
   conv=>whnf
   refine⟨fun z4=>?_,fun z4=>?_⟩
   ·repeat((conv=>whnf);first|apply qza|apply qzb|apply qzc|apply qzd|apply qze|intro(_:Nat))
    conv=>whnf
    refine .inl ⟨_,qGB _,?_⟩
    repeat((conv=>whnf);first|apply qza|apply qzb|apply qzc|apply qzd|apply qze|intro(_:Nat))
    conv=>whnf
    intro g2 hg
    rfl
   obtain⟨hsm,hsz⟩:=qeR z4
   have hsz':c.routes.length≤1000000:=by omega
   have hMx:=qjM gx (t:=t) ht hcx
   have hsx:qfB x (mS c t)=true:=hI.suit (c':=c) hst
   repeat((conv=>whnf);first|apply qza|apply qzb|apply qzc|apply qzd|apply qze|intro(_:Nat))
   conv=>whnf
   refine⟨a,rfl,⟨by show(0:Int)≤(j:Int);omega,by show(j:Int)<(l.length:Int);omega⟩,?_⟩
   repeat((conv=>whnf);first|apply qza|apply qzb|apply qzc|apply qzd|apply qze|intro(_:Nat))
   conv=>whnf
   refine⟨_,⟨rfl,hccx⟩,?_⟩
   have hxb9:BgW 900000 x:=BgW.up hxb (by omega)
   cases hz:qHA c with
   | some p =>
    obtain⟨e,i⟩:=p
    obtain⟨nn,wy,hd,hans⟩:=qVR hsx hz
    obtain⟨mop,mth,mpc,mep,mve,mli,mcl,men,mot,msl,mwo,mlk,mi,mk,msu,mdo,man,mco⟩:=nn
    simp only at hans hd
    subst hans
    subst hd
    repeat((conv=>whnf);first|apply qza|apply qzb|apply qzc|apply qzd|apply qze|intro(_:Nat))
    refine .inr ((qDE _ hxw hMx hxs hxb9 hsz' hsm wy rfl (by decide)).mono fun v g2 hg2 hO=>?_)
    obtain⟨csa,msa,rfl,hwa,hMa⟩:=hO
    obtain⟨r1,r2,r3,r4,r5,r6,r7,r8,r9,r10,rfl⟩:=qoA hwa
    obtain⟨_,_,_,_,_,_,rfl⟩:=qrA hMa
    repeat((conv=>whnf);first|apply qza|apply qzb|apply qzc|apply qzd|apply qze|intro(_:Nat))
    conv=>whnf
    refine⟨fun hx=>absurd hx (by simp [ansN]),fun _=>?_⟩
    repeat((conv=>whnf);first|apply qza|apply qzb|apply qzc|apply qzd|apply qze|intro(_:Nat))
    conv=>whnf
    refine fun fr u hu=>⟨⟨j+1,n,g2,x,r1,r2,r3,r4,r5,r6,r7,r8,r9,r10⟩,congrArg (fun z=>[Value.int .i64 n,Value.int .i64 z]) (show((j+1:Nat):Int)=IntKind.i64.wrap ((j:Int)+1) by rw [wr (x:=(j:Int)+1) (by unfold InR;omega)];omega),⟨⟨by show j+1≤l.length;omega,by show n≤j+1;omega⟩,GW.trans hgx hg2,hwa,hI,hxs,BgW.up hxb (by show 60+3*j≤60+3*(j+1);omega)⟩,by show l.length-(j+1)<l.length-j;omega,?_⟩
    exact hu.fit (by simp [fitL,Res.eqv,qAA,conc])
   | none =>
    obtain⟨hwr,nn,wy,hd,hans⟩:=qlT hsx hz
    obtain⟨mop,mth,mpc,mep,mve,mli,mcl,men,mot,msl,mwo,mlk,mi,mk,msu,mdo,man,mco⟩:=nn
    simp only at hans hd
    subst hans
    subst hd
    repeat((conv=>whnf);first|apply qza|apply qzb|apply qzc|apply qzd|apply qze|intro(_:Nat))
    refine .inr ((qDE _ hxw hMx hxs hxb9 hsz' hsm wy rfl (by decide)).mono fun v g2 hg2 hO=>?_)
    obtain⟨csa,msa,rfl,hwa,hMa⟩:=hO
    obtain⟨r1,r2,r3,r4,r5,r6,r7,r8,r9,r10,rfl⟩:=qoA hwa
    obtain⟨_,_,_,_,_,_,rfl⟩:=qrA hMa
    repeat((conv=>whnf);first|apply qza|apply qzb|apply qzc|apply qzd|apply qze|intro(_:Nat))
    conv=>whnf
    refine⟨fun _=>?_,fun hx=>absurd hx (by simp [ansV])⟩
    repeat((conv=>whnf);first|apply qza|apply qzb|apply qzc|apply qzd|apply qze|intro(_:Nat))
    conv=>whnf
    refine fun fr u hu=>⟨⟨j+1,n+1,g2,endW x c,r1,r2,r3,r4,r5,r6,r7,r8,r9,r10⟩,(show [Value.int .i64 ((n+1:Nat):Int),Value.int .i64 ((j+1:Nat):Int)]=[Value.int .i64 (IntKind.i64.wrap ((n:Int)+1)),Value.int .i64 (IntKind.i64.wrap ((j:Int)+1))] by rw [wr (x:=(j:Int)+1) (by unfold InR;omega),wr (x:=(n:Int)+1) (by unfold InR;omega)];rfl),⟨⟨by show j+1≤l.length;omega,by show n+1≤j+1;omega⟩,GW.trans hgx hg2,hwa,hI.next hwr,SWay.sn wy hsm hxs,BgW.up (SWay.bg (by omega) wy hxb) (by show 60+3*j+3≤60+3*(j+1);omega)⟩,by show l.length-(j+1)<l.length-j;omega,?_⟩
    exact hu.fit (by simp [fitL,Res.eqv,qAA,conc])
  have hn8:n≤8:=by omega
  have hb2:=hb.1.2.1
  have hb5:=hb.1.2.2.2.2
  have hv1:(x.versions.length:Int)=IntKind.i64.wrap ((w.versions.length:Int)+n):=by
   rw [IntKind.wrap_i64];have:=hI.ver;omega
  have hv2:(x.limbo.length:Int)=IntKind.i64.wrap ((w.limbo.length:Int)+n):=by
   rw [IntKind.wrap_i64];have:=hI.lim;omega
  have hRl:=qnR hxw
  obtain⟨_,_,he9,e1,e2,e0,hR1⟩:=id hRl
  simp only [Value.slice.injEq,true_and] at he9
  obtain⟨rfl,rfl⟩:=he9
  have hlim:=hI.lim
  clear hlt
  repeat((conv=>whnf);first|apply qza|apply qzb|apply qzc|apply qzd|apply qze|intro(_:Nat))
  conv=>whnf
  refine⟨fun hx=>absurd hv1 (bneT hx),fun _=>?_⟩
  repeat((conv=>whnf);first|apply qza|apply qzb|apply qzc|apply qzd|apply qze|intro(_:Nat))
  conv=>whnf
  refine⟨fun hx=>absurd hv2 (bneT hx),fun _=>?_⟩
  repeat((conv=>whnf);first|apply qza|apply qzb|apply qzc|apply qzd|apply qze|intro(_:Nat))
  conv=>whnf
  refine⟨Nat,fun k=>[.v (.int .i64 k)],fun k=>⟨gx,_,_,_⟩,fun k=>w.limbo.length≤k∧k≤x.limbo.length,fun k=>x.limbo.length-k,qDA w.limbo.length rfl ⟨Nat.le_refl _,by show w.limbo.length≤x.limbo.length;omega⟩ rfl,?_⟩
  rintro k ⟨hk0,hk⟩
  have hk0:w.limbo.length≤k:=hk0
  have hk:k≤x.limbo.length:=hk
  repeat((conv=>whnf);first|apply qza|apply qzb|apply qzc|apply qzd|apply qze|intro(_:Nat))
  conv=>whnf
  refine⟨fun hlt=>?_,fun hlt=>?_⟩
  ·have h':k<x.limbo.length:=by
    have h9:(k:Int)<(x.limbo.length:Int):=of_decide_eq_true hlt
    omega
   obtain⟨r,hr⟩:=qBA h'
   obtain⟨a,rfl,ec,hec,⟨rfl,hxi⟩,hcx⟩:=hR1 k r hr
   obtain⟨hg9,hat9⟩:=hI.new k r hk0 hr
   have hne9:=hI.ne hr
   repeat((conv=>whnf);first|apply qza|apply qzb|apply qzc|apply qzd|apply qze|intro(_:Nat))
   conv=>whnf
   refine⟨a,rfl,⟨by omega,by show(k:Int)<(x.limbo.length:Int);omega⟩,?_⟩
   repeat((conv=>whnf);first|apply qza|apply qzb|apply qzc|apply qzd|apply qze|intro(_:Nat))
   conv=>whnf
   refine⟨_,hcx 2 _ rfl,?_⟩
   repeat((conv=>whnf);first|apply qza|apply qzb|apply qzc|apply qzd|apply qze|intro(_:Nat))
   conv=>whnf
   refine⟨fun hx=>absurd (hx.symm.trans hg9) (by decide),fun _=>?_⟩
   repeat((conv=>whnf);first|apply qza|apply qzb|apply qzc|apply qzd|apply qze|intro(_:Nat))
   conv=>whnf
   refine⟨a,rfl,⟨by omega,by show(k:Int)<(x.limbo.length:Int);omega⟩,?_⟩
   repeat((conv=>whnf);first|apply qza|apply qzb|apply qzc|apply qzd|apply qze|intro(_:Nat))
   conv=>whnf
   refine⟨_,hcx 0 _ rfl,?_⟩
   repeat((conv=>whnf);first|apply qza|apply qzb|apply qzc|apply qzd|apply qze|intro(_:Nat))
   conv=>whnf
   refine⟨fun hx=>absurd (hx.symm.trans hne9) (by decide),fun _=>?_⟩
   repeat((conv=>whnf);first|apply qza|apply qzb|apply qzc|apply qzd|apply qze|intro(_:Nat))
   conv=>whnf
   refine⟨a,rfl,⟨by omega,by show(k:Int)<(x.limbo.length:Int);omega⟩,?_⟩
   repeat((conv=>whnf);first|apply qza|apply qzb|apply qzc|apply qzd|apply qze|intro(_:Nat))
   conv=>whnf
   refine⟨_,hcx 1 _ rfl,?_⟩
   repeat((conv=>whnf);first|apply qza|apply qzb|apply qzc|apply qzd|apply qze|intro(_:Nat))
   conv=>whnf
   refine⟨fun hx=>absurd hat9 (bneT hx),fun _=>?_⟩
   repeat((conv=>whnf);first|apply qza|apply qzb|apply qzc|apply qzd|apply qze|intro(_:Nat))
   conv=>whnf
   refine fun fr u hu=>⟨k+1,congrArg (fun z=>[Value.int .i64 z]) (wr1 h' e1 e2).symm,⟨by show w.limbo.length≤k+1;omega,by show k+1≤x.limbo.length;omega⟩,by show x.limbo.length-(k+1)<x.limbo.length-k;omega,?_⟩
   exact hu.fit (by simp [fitL,Res.eqv,qAA,conc])
  clear hlt
  have hwI:OkV Tryz.prog qFE _ _ _:=(q3N _ hxw hxs).to (congrArg Value.bool hI.right)
  have hcu:=hI.cur hr0
  repeat((conv=>whnf);first|apply qza|apply qzb|apply qzc|apply qzd|apply qze|intro(_:Nat))
  conv=>whnf
  refine .inl ⟨_,qGB _,?_⟩
  repeat((conv=>whnf);first|apply qza|apply qzb|apply qzc|apply qzd|apply qze|intro(_:Nat))
  conv=>whnf
  refine⟨fun _=>?_,fun h=>nomatch h⟩
  repeat((conv=>whnf);first|apply qza|apply qzb|apply qzc|apply qzd|apply qze|intro(_:Nat))
  conv=>whnf
  refine .inl ⟨_,hwI,?_⟩
  repeat((conv=>whnf);first|apply qza|apply qzb|apply qzc|apply qzd|apply qze|intro(_:Nat))
  conv=>whnf
  refine⟨fun _=>?_,fun h=>nomatch h⟩
  repeat((conv=>whnf);first|apply qza|apply qzb|apply qzc|apply qzd|apply qze|intro(_:Nat))
  conv=>whnf
  intro g2 hg
  exact congrArg Value.bool hcu)
/- How configurations,one behind the other,that were handed are opened. -/
open Go.Proofs.YtkogfpniapaigaaGreat.Sx
section
variable {H:Type} {enc:TypeId×Value→H} {W:World}
theorem quK:Rds enc Tryz.prog W qBK (rSlc 3 qcA):=qvC (e:=qtA) (by kernel_rfl) (by kernel_rfl) (by omega) qjE
end
end Go.Proofs.YtkogfpniapaigaaGreat
