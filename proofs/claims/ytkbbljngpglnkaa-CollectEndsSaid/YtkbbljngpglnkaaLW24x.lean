/- Law 24's example. -/
import Derived.Test.YtkbbljngpglnkaaLW24w
import Derived.Test.YtkbbljngpglnkaaPl
import Derived.Test.YtkbbljngpglnkaaLW9e
import Derived.Test.YtkbbljngpglnkaaLW9k
import Derived.Test.YtkbbljngpglnkaaLW9o
import Derived.Test.YtkbbljngpglnkaaF
set_option linter.unusedVariables false
set_option linter.unusedSimpArgs false
namespace Go.Proofs.Ytkbbljngpglnkaa
open Go.Proofs.Ytkbbljngpglnkaa.Sx Go.RowKit
set_option maxHeartbeats 16000000
set_option maxRecDepth 100000
theorem q7I (g:GW):Ok Try.prog qfF [] g fun v g'=>∃ cs,v=.agg ⟨cs⟩∧rWo g' cs wC :=
 Ok.of_fn hm noT 0 qZF (args:=[]) (by
  repeat((conv=>whnf);first|apply qza|apply qzb|apply qzc|apply qzd|apply qze|intro(_:Nat)|intro(_:OA)_)
  conv=>whnf
  refine⟨1,rfl,by unfold maxLen;omega,fun g1 hg1 hn1 hp1=>?_⟩
  repeat((conv=>whnf);first|apply qza|apply qzb|apply qzc|apply qzd|apply qze|intro(_:Nat)|intro(_:OA)_)
  conv=>whnf
  refine⟨4,rfl,by unfold maxLen;omega,fun g2 hg2 hn2 hp2=>?_⟩
  repeat((conv=>whnf);first|apply qza|apply qzb|apply qzc|apply qzd|apply qze|intro(_:Nat)|intro(_:OA)_)
  conv=>whnf
  refine⟨1,rfl,by unfold maxLen;omega,fun g3 hg3 hn3 hp3=>?_⟩
  repeat((conv=>whnf);first|apply qza|apply qzb|apply qzc|apply qzd|apply qze|intro(_:Nat)|intro(_:OA)_)
  conv=>whnf
  refine⟨4,rfl,by unfold maxLen;omega,fun g4 hg4 hn4 hp4=>?_⟩
  repeat((conv=>whnf);first|apply qza|apply qzb|apply qzc|apply qzd|apply qze|intro(_:Nat)|intro(_:OA)_)
  conv=>whnf
  refine⟨1,rfl,by unfold maxLen;omega,fun g5 hg5 hn5 hp5=>?_⟩
  have hs:=qvO (n:=1) (h:=[true,true]) (hp1.mono (GW.trans hg2 (GW.trans hg3 (GW.trans hg4 hg5)))) (hp2.mono (GW.trans hg3 (GW.trans hg4 hg5))) (hp4.mono hg5) (hp3.mono (GW.trans hg4 hg5)) (by decide)
  have hl:=q8E (R:=rStr) hp5.rd [sInW] .string rfl fun _ _=>rfl
  conv=>whnf
  refine .inr ((qGQ _ hs hl (t:=1) (by decide) (by decide)).mono fun v g6 hg6 hN=>?_)
  rcases hN with ⟨_,a,d,bV,oX,cX,rfl,hw,hpX,hkX⟩|⟨h,_⟩
  rotate_left
  ·exact absurd qhQ h
  obtain⟨oa,ca,rfl,_⟩:=id (qpQ hw)
  obtain⟨od,cd,rfl,_⟩:=id (rWo_c hw)
  obtain⟨aX,rfl⟩:=qUB (qkL hw) (i:=0) (x:=⟨sInW,false,0,false⟩) rfl
  obtain⟨bX,rfl⟩:=PbSl.addr hpX
  obtain⟨gN,kN,nN,pN,vN,cN⟩:=hkX _ rfl
  repeat((conv=>whnf);first|apply qza|apply qzb|apply qzc|apply qzd|apply qze|intro(_:Nat)|intro(_:OA)_)
  refine .inr ((Ok.sub hg6 (qbM _ hs (by decide))).mono fun v g7 hg7 hC=>?_)
  obtain⟨gV,kV,dV,hC⟩:=hC
  rcases hC with ⟨hz,ka,kb,kd,oV,nV,cV,rfl,hV⟩|⟨hz,rfl⟩
  rotate_left
  ·exact absurd (by decide) hz
  have hV0:=hV
  obtain⟨_,_,_,_,he,⟨_,_,_,he2,⟨sa,ta,rfl,_⟩,⟨sb,tb,rfl,_⟩,⟨sd,td,rfl,_⟩⟩,hG⟩:=hV
  simp only [List.cons.injEq,and_true] at he
  obtain⟨rfl,rfl,rfl,rfl,_⟩:=he
  cases he2
  have nV2:¬ gV.g bX:=fun h=>by
   have h1:=PbSl.ge hpX
   have h2:=g6.wf _ (PbSl.dom hpX)
   rcases dV _ h with h|h
   ·have:=g5.wf _ h;omega
   ·omega
  obtain⟨ecs,hrd,hel,hes,heR⟩:=qlL vN
  have hel:ecs.length=1:=hel
  obtain⟨e0,rfl⟩:∃ e0,ecs=[e0]:=by
   match ecs,hel with
   | [e0],_=>exact⟨e0,rfl⟩
  have hR0:rVe gN e0 (qFA (qKC 1 [true,true])):=heR 0 _ _ rfl rfl
  have hone:∀ u∈e0,u.oneCell'=true:=by
   obtain⟨_,_,_,_,rfl,⟨_,_,_,he2,⟨_,_,rfl,_⟩,⟨_,_,rfl,_⟩,⟨_,_,rfl,_⟩⟩,⟨_,_,rfl,_⟩⟩:=id hR0
   cases he2
   intro u hu
   simp only [List.mem_cons,List.not_mem_nil,or_false] at hu
   rcases hu with rfl|rfl|rfl|rfl|rfl<;>rfl
  repeat((conv=>whnf);first|apply qza|apply qzb|apply qzc|apply qzd|apply qze|intro(_:Nat)|intro(_:OA)_)
  conv=>whnf
  refine .inl ⟨[e0].flatten,⟨hrd.mono (GW.trans kN hg7),by simpa using hone⟩,fun h=>absurd h (by decide),fun _=>⟨⟨by decide,by decide,by decide⟩,fun oa2 cap2=>?_⟩⟩
  repeat((conv=>whnf);first|apply qza|apply qzb|apply qzc|apply qzd|apply qze|intro(_:Nat)|intro(_:OA)_)
  conv=>whnf
  refine⟨Nat×GW,fun (k,_)=>[.v (.int .i64 k)],fun (_,g')=>⟨g',_,_,_⟩,fun (k,g')=>k≤1∧gN≤g'∧gV≤g'∧PbSl g' g5.w.heap.size qLA 4 (.slice (some ⟨bX,0,none⟩) 1 cX) 1 [.string sInW,.bool (decide (k=1)),.int .i64 0,.bool false],fun (k,_)=>1-k,qSA (0,g7) rfl ⟨Nat.zero_le _,GW.trans kN hg7,kV,hpX.mono hg7⟩ rfl,?_⟩
  rintro⟨k,g8⟩ ⟨hk,kN8,kV8,hp8⟩
  have hk:k≤1:=hk
  have kN8:gN≤g8:=kN8
  have kV8:gV≤g8:=kV8
  have hp8:PbSl g8 g5.w.heap.size qLA 4 (.slice (some ⟨bX,0,none⟩) 1 cX) 1 [.string sInW,.bool (decide (k=1)),.int .i64 0,.bool false]:=hp8
  repeat((conv=>whnf);first|apply qza|apply qzb|apply qzc|apply qzd|apply qze|intro(_:Nat)|intro(_:OA)_)
  conv=>whnf
  refine⟨fun hlt=>?_,fun hlt=>?_⟩
  ·have h0:k=0:=by have h9:(k:Int)<1:=of_decide_eq_true hlt;omega
   subst h0
   obtain⟨rest,⟨b1,b2,b3⟩,hpk⟩:=PbSl.poke hp8
   repeat((conv=>whnf);first|apply qza|apply qzb|apply qzc|apply qzd|apply qze|intro(_:Nat)|intro(_:OA)_)
   conv=>whnf
   refine⟨_,rfl,⟨by decide,by decide⟩,?_⟩
   repeat((conv=>whnf);first|apply qza|apply qzb|apply qzc|apply qzd|apply qze|intro(_:Nat)|intro(_:OA)_)
   conv=>whnf
   refine⟨bX,1,_,_,⟨rfl,Nat.le_trans (GW.trans (GW.trans hg1 hg2) (GW.trans hg3 (GW.trans hg4 hg5))).1 b1,b2,b3,by simp⟩,?_⟩
   repeat((conv=>whnf);first|apply qza|apply qzb|apply qzc|apply qzd|apply qze|intro(_:Nat)|intro(_:OA)_)
   conv=>whnf
   refine fun g9 u9=>?_
   have hp9:=hpk 1 1 [.bool true] g9 (by decide) rfl (by simp [Value.oneCell']) u9
   repeat((conv=>whnf);first|apply qza|apply qzb|apply qzc|apply qzd|apply qze|intro(_:Nat)|intro(_:OA)_)
   conv=>whnf
   refine fun fr w hw=>⟨(1,g9),rfl,⟨Nat.le_refl _,u9.le kN8 nN,u9.le kV8 nV2,hp9⟩,by show 1-1<1-0;decide,hw.fit (by simp [fitL,Res.eqv,qAA,conc])⟩
  have h1:k=1:=by have h9:¬ (k:Int)<1:=of_decide_eq_false hlt;omega
  subst h1
  repeat((conv=>whnf);first|apply qza|apply qzb|apply qzc|apply qzd|apply qze|intro(_:Nat)|intro(_:OA)_)
  conv=>whnf
  refine fun gA kA nA pA=>?_
  repeat((conv=>whnf);first|apply qza|apply qzb|apply qzc|apply qzd|apply qze|intro(_:Nat)|intro(_:OA)_)
  conv=>whnf
  refine⟨3,rfl,by unfold maxLen;omega,fun gB kB nB pB=>?_⟩
  repeat((conv=>whnf);first|apply qza|apply qzb|apply qzc|apply qzd|apply qze|intro(_:Nat)|intro(_:OA)_)
  conv=>whnf
  intro g2 hg
  have m8:=GW.trans kA (GW.trans kB hg)
  refine⟨_,rfl,_,_,_,_,_,rfl,⟨show InR 4 by decide,show InR 1 by decide,show InR 0 by decide⟩,pN.mono qnB (GW.trans kN8 m8),?_,?_,cN.mono q6A (GW.trans kN8 m8),?_⟩
  ·refine qjE (pA.rd.mono (GW.trans kB hg)) [qFA (qKC 1 [true,true]),qFA (qKC 1 [true,true])] [e0,[.slice sa (qFA (qKC 1 [true,true])).snap.listens.length ta,.slice sb (qFA (qKC 1 [true,true])).snap.rules.length tb,.slice sd (qFA (qKC 1 [true,true])).snap.clusters.length td,.slice oV nV cV,.bool false]] (by simp) (fun e he=>?_) rfl rfl fun i x ec hx hec=>?_
   ·simp at he
    rcases he with rfl|rfl
    ·exact hes _ (by simp)
    ·rfl
   ·match i,hx,hec with
    | 0,hx,hec=>cases hx;cases hec;exact q8C _ _ _ _ (GW.trans kN8 m8) hR0
    | 1,hx,hec=>cases hx;cases hec;exact q8C _ _ _ _ (GW.trans kV8 m8) hV0
    | i+2,hx,hec=>simp at hx
  ·exact qjE (R:=qCB) (hp8.rd.mono m8) [⟨sInW,true,0,false⟩] [[.string sInW,.bool true,.int .i64 0,.bool false]] rfl (by simp) rfl rfl fun i x ec hx hec=>by
    match i,hx,hec with
    | 0,hx,hec=>cases hx;cases hec;exact⟨rfl,show InR 0 by decide⟩
    | i+1,hx,hec=>simp at hx
  ·exact qjE (R:=qpA) (pB.rd.mono hg) [⟨0,3,false⟩] [[.int .i64 0,.int .i64 3,.bool false]] rfl (by simp) rfl rfl fun i x ec hx hec=>by
    match i,hx,hec with
    | 0,hx,hec=>cases hx;cases hec;exact⟨rfl,show InR 0 by decide,show InR 3 by decide⟩
    | i+1,hx,hec=>simp at hx)
theorem qvP:SnW wC:=by
 intro v hv
 have:v=qFA (qKC 1 [true,true]):=by simpa [wC] using hv
 subst this
 refine⟨by decide,fun r hr=>?_⟩
 have:r=⟨0,⟨#[42]⟩,⟨#[47]⟩,0⟩:=by simpa [qFA,qKC] using hr
 subst this
 decide
theorem qwP {K:Nat} (hK:6≤K):BgW K wC:=by
 refine⟨⟨by show 1≤K;omega,by show 2≤K;omega,by show 1≤K;omega,by show 1≤K;omega,by show 1≤K;omega⟩,fun r hr=>?_,fun v hv=>?_⟩
 ·have:r=[0,0,0,0,0,0]:=by simpa [wC,newW,qjD] using hr
  subst this
  show 6≤K;omega
 have:v=qFA (qKC 1 [true,true]):=by simpa [wC] using hv
 subst this
 refine⟨by show 1≤K;omega,fun y hy=>?_⟩
 have:y=⟨0,[qRB 1,qRB 1]⟩:=by simpa [qFA,qKC] using hy
 subst this
 show 2≤K;omega
theorem q1N (g:GW) {k:Int} (hk:InR k):qnC g ((mK k).cs (.slice none 0 0) (.slice none 0 0) (.slice none 0 0)) (mK k) :=
 ⟨_,_,_,rfl,⟨z0,z0,z0,z0,z0,z0,z0,z0,z0,zu,z0,z0,z0,z0,qkO,qNL⟩,⟨hk,z0,z0,z0⟩,qzH g⟩
theorem cway3:∃ n,CWay 12 wC (mK 5) wC2 n∧n.done=true∧n.answer=⟨11,0,0,0,0,0,1,c60⟩:=⟨_,cway1,congrArg Prod.fst cIt2,congrArg Prod.snd cIt2⟩
theorem qcD (g:GW):OkV Try.prog qCE [] g (.bool true):=by
 obtain⟨n,cwy,hd,hans⟩:=cway3
 obtain⟨mop,mth,mpc,mep,mve,mli,mcl,men,mot,msl,mwo,mlk,mi,mk,msu,mdo,man,mco⟩:=n
 simp only at hans
 subst hans
 exact Ok.of_fn hm noT 0 q2D (args:=[]) (by
  repeat((conv=>whnf);first|apply qza|apply qzb|apply qzc|apply qzd|apply qze|intro(_:Nat))
  refine .inr ((q7I _).mono fun v g1 hg1 hO=>?_)
  obtain⟨cs,rfl,hw1⟩:=hO
  obtain⟨_,_,_,_,_,_,_,_,_,_,rfl⟩:=qfA hw1
  repeat((conv=>whnf);first|apply qza|apply qzb|apply qzc|apply qzd|apply qze|intro(_:Nat))
  refine .inr ((qiK _ hw1 (q1N _ (k:=5) (by decide)) qvP (qwP (by decide)) cwy hd (by decide)).mono fun v g2 hg2 hO=>?_)
  obtain⟨csa,msa,rfl,hwa,hMa⟩:=hO
  obtain⟨_,_,_,_,_,_,_,_,_,_,rfl⟩:=qfA hwa
  obtain⟨_,_,_,_,_,_,rfl⟩:=qRF hMa
  repeat((conv=>whnf);first|apply qza|apply qzb|apply qzc|apply qzd|apply qze|intro(_:Nat))
  refine .inr ((q7I _).mono fun v g3 hg3 hO=>?_)
  obtain⟨csb,rfl,hwb⟩:=hO
  obtain⟨_,_,_,_,_,_,_,_,_,_,rfl⟩:=qfA hwb
  have hwb1:=qbH hwb (x:=1) (by decide)
  repeat((conv=>whnf);first|apply qza|apply qzb|apply qzc|apply qzd|apply qze|intro(_:Nat))
  refine .inr ((qiK _ hwb1 (q1N _ (k:=0) (by decide)) qvP (qwP (by decide)) cway2 rfl (by decide)).mono fun v g4 hg4 hO=>?_)
  obtain⟨csc,msc,rfl,hwc,hMc⟩:=hO
  obtain⟨_,_,_,_,_,_,_,_,_,_,rfl⟩:=qfA hwc
  obtain⟨_,_,_,_,_,_,rfl⟩:=qRF hMc
  have hwa4:=qHA _ _ _ _ (GW.trans hg3 hg4) hwa
  have hwb4:=qHA _ _ _ _ hg4 hwb
  obtain⟨av,rfl⟩:=qUB (qBN hwa4) (i:=0) (x:={qFA (qKC 1 [true,true]) with freed:=true}) rfl
  obtain⟨_,_,_,_,_,_,_,_,hcv,_⟩:=qPM (qBN hwa4) (i:=0) (x:={qFA (qKC 1 [true,true]) with freed:=true}) rfl
  obtain⟨al,rfl⟩:=qUB (qkL hwa4) (i:=0) (x:=⟨sInW,true,0,true⟩) rfl
  obtain⟨_,hcl⟩:=qdM (qkL hwa4) (i:=0) (x:=⟨sInW,true,0,true⟩) rfl
  obtain⟨ar,rfl⟩:=qUB (q3P hwa4) (i:=0) (x:=⟨0,3,true⟩) rfl
  obtain⟨_,hcr⟩:=qhP (q3P hwa4) (i:=0) (x:=⟨0,3,true⟩) rfl
  obtain⟨ab,rfl⟩:=qUB (qBN hwb4) (i:=0) (x:=qFA (qKC 1 [true,true])) rfl
  obtain⟨_,_,_,_,_,_,_,_,hcb,hsb,_,hGb⟩:=qPM (qBN hwb4) (i:=0) (x:=qFA (qKC 1 [true,true])) rfl
  have hwI:OkV Try.prog qBJ _ _ _:=(qiP _ hwa4 (CWay.sn cwy qvP)).to (congrArg Value.bool qnN)
  have hE:OkV Try.prog qpD _ _ _:=qkJ _ ⟨_,_,_,_,rfl,hsb,hGb⟩ ((qwP (K:=1000000) (by decide)).2.2 _ (by simp [wC]))
  repeat'((conv=>whnf);first|apply qza|apply qzb|apply qzc|apply qzd|apply qze|intro(_:Nat)|refine⟨fun _=>?_,fun h=>absurd h.symm Bool.false_ne_true⟩|refine⟨fun h=>absurd h Bool.false_ne_true,fun _=>?_⟩|refine⟨_,rfl,⟨by decide,by decide⟩,?_⟩|refine⟨_,hcv 4 _ rfl,?_⟩|refine⟨_,hcl 3 _ rfl,?_⟩|refine⟨_,hcr 2 _ rfl,?_⟩|refine⟨_,⟨rfl,hcb⟩,?_⟩|refine .inl ⟨_,hwI,?_⟩|refine .inl ⟨_,hE,?_⟩|fail)
  conv=>whnf
  intro g2 hg
  rfl)
/- Collectors: the document's number of endpoints. -/
open Go.Proofs.Ytkbbljngpglnkaa.Sx Go.RowKit
theorem q9N (g:GW) {cs:List Value} {v:Version} (hv:rVe g cs v) (hb:BgV 1000000 v):OkV Try.prog qKD [.agg ⟨cs⟩] g (.int .i64 (qfC v).length):=by
 obtain⟨va,vb,vd,vn,rfl,hsn,hG⟩:=hv
 obtain⟨og,cg,rfl,p1,p2,p0,hG1⟩:=id hG
 obtain⟨_,_,_,he2,⟨sa,ta,rfl,_⟩,⟨sb,tb,rfl,_⟩,⟨sd,td,rfl,_⟩⟩:=hsn
 cases he2
 have hgl:=hb.1
 exact Ok.of_fn hm noT 0 q1F (args:=[.v (.agg ⟨[.slice sa v.snap.listens.length ta,.slice sb v.snap.rules.length tb,.slice sd v.snap.clusters.length td,.slice og v.groups.length cg,.bool v.freed]⟩)]) (by
  repeat((conv=>whnf);first|apply qza|apply qzb|apply qzc|apply qzd|apply qze|intro(_:Nat))
  conv=>whnf
  refine⟨Nat,fun k=>[.v (.int .i64 (qjC v k).length),.v (.int .i64 k)],fun _=>⟨g,_,_,_⟩,fun k=>k≤v.groups.length,fun k=>v.groups.length-k,qSA 0 rfl (Nat.zero_le _) rfl,?_⟩
  intro k hk
  have hk:k≤v.groups.length:=hk
  have hlen:=qLG hb k hk
  repeat((conv=>whnf);first|apply qza|apply qzb|apply qzc|apply qzd|apply qze|intro(_:Nat))
  conv=>whnf
  refine⟨fun hlt=>?_,fun hlt=>?_⟩
  ·have h':k<v.groups.length:=by have h9:(k:Int)<v.groups.length:=of_decide_eq_true hlt;omega
   obtain⟨x,hx⟩:=qDA h'
   obtain⟨a,rfl,ec,hec,⟨xn,rfl,hti,hE⟩,hcc⟩:=hG1 k x hx
   have hxl:x.ends.length≤1000000:=hb.2 x (List.mem_of_getElem? hx)
   obtain⟨on,cn,rfl,r1,r2,r0,hE1⟩:=id hE
   have hl2:((qjC v (k+1)).length:Int)=IntKind.i64.wrap (((qjC v k).length:Int)+x.ends.length):=by
    rw [qTJ hx,List.length_append,IntKind.wrap_i64];omega
   repeat((conv=>whnf);first|apply qza|apply qzb|apply qzc|apply qzd|apply qze|intro(_:Nat))
   conv=>whnf
   refine⟨a,rfl,⟨by show(0:Int)≤k;omega,by show(k:Int)<v.groups.length;omega⟩,?_⟩
   repeat((conv=>whnf);first|apply qza|apply qzb|apply qzc|apply qzd|apply qze|intro(_:Nat))
   conv=>whnf
   refine⟨_,hcc 1 _ rfl,?_⟩
   repeat((conv=>whnf);first|apply qza|apply qzb|apply qzc|apply qzd|apply qze|intro(_:Nat))
   conv=>whnf
   refine fun fr w hw=>⟨k+1,?_,h',dec h',hw.fit (by simp [fitL,Res.eqv,qAA,conc])⟩
   show [Value.int .i64 ((qjC v (k+1)).length:Int),.int .i64 ((k+1:Nat):Int)]=_
   rw [hl2]
   exact congrArg (fun z=>[Value.int .i64 _,.int .i64 z]) (wr1 h' p1 p2).symm
  have hz1:k=v.groups.length:=by have h9:¬ (k:Int)<v.groups.length:=of_decide_eq_false hlt;omega
  subst hz1
  have hte:qjC v v.groups.length=qfC v:=by unfold qjC qfC;rw [List.take_length]
  repeat((conv=>whnf);first|apply qza|apply qzb|apply qzc|apply qzd|apply qze|intro(_:Nat))
  conv=>whnf
  intro g2 hg
  show Value.int .i64 ((qjC v v.groups.length).length:Int)=_
  rw [hte])
/- Worlds: clones,the document's answer. -/
open Go.Proofs.Ytkbbljngpglnkaa.Sx Go.RowKit
/- Pins: a thread is pinned no more. -/
open Go.Proofs.Ytkbbljngpglnkaa.Sx Go.RowKit
/- Pins: a thread is pinned no more;the document's answer. -/
open Go.Proofs.Ytkbbljngpglnkaa.Sx Go.RowKit
/- Pins: the steps' table. -/
open Go.Proofs.Ytkbbljngpglnkaa.Sx Go.RowKit
/- Pins: a step,another place. -/
open Go.Proofs.Ytkbbljngpglnkaa.Sx Go.RowKit
/- Pins: a step,place 0. -/
open Go.Proofs.Ytkbbljngpglnkaa.Sx Go.RowKit
/- Pins: a step,place 1. -/
open Go.Proofs.Ytkbbljngpglnkaa.Sx Go.RowKit
/- Pins: a step,place 2. -/
open Go.Proofs.Ytkbbljngpglnkaa.Sx Go.RowKit
/- Pins: a step,at any place. -/
open Go.Proofs.Ytkbbljngpglnkaa.Sx Go.RowKit
/- Pins: the law's example,first part. -/
open Go.Proofs.Ytkbbljngpglnkaa.Sx Go.RowKit
/- Pins: the law's example. -/
open Go.Proofs.Ytkbbljngpglnkaa.Sx Go.RowKit
section
variable {g:GW} {cs ms:List Value} {e pc ep:Int} {p:List Int} (hw:rWo g cs (wP e p)) (hM:qnC g ms (mP pc ep)) (he:0≤e∧e≤100) (hl:p.length=2) (hp:∀ x∈p,0≤x∧x≤e+1)
include hw hM he hl hp
end
/- The law PinOff. -/
open Go.Proofs.Ytkbbljngpglnkaa.Sx Go.RowKit
theorem BgW.up {K K':Nat} {w:Wd} (h:BgW K w) (k:K≤K'):BgW K' w:=by
 obtain⟨⟨h1,h2,h3,h4,h5⟩,h6,h7⟩:=h
 refine⟨⟨by omega,by omega,by omega,by omega,by omega⟩,fun r hr=>by have:=h6 r hr;omega,fun v hv=>?_⟩
 obtain⟨a,b⟩:=h7 v hv
 exact⟨by omega,fun y hy=>by have:=b y hy;unfold BgG at this ⊢;omega⟩
/- The law CollectEnds. -/
open Go.Proofs.Ytkbbljngpglnkaa.Sx Go.RowKit
def mU (k t:Int):Mach:={mP 0 0 with thread:=t,op:={op0 with kind:=k}}
theorem q4P (g:GW) {k t:Int} (hk:InR k) (h:InR t):qnC g ((mU k t).cs (.slice none 0 0) (.slice none 0 0) (.slice none 0 0)) (mU k t) :=
 ⟨_,_,_,rfl,⟨h,z0,z0,z0,z0,z0,z0,z0,z0,zu,z0,z0,z0,z0,qkO,qNL⟩,⟨hk,z0,z0,z0⟩,qzH g⟩
theorem qpI (g:GW) {cs:List Value} {w:Wd} {t i:Int} (hw:rWo g cs w) (ht:InR t) (_hi:InR i):OkV Try.prog qWD [.agg ⟨cs⟩,.int .i64 t,.int .i64 i] g (.bool true):=by
 obtain⟨oa,ca,ob,cb,oc,cc,od,cd,oe,ce,rfl⟩:=qfA hw
 exact Ok.of_fn hm noT 0 qRD (args:=[.v (.agg ⟨wQ w oa ca ob cb oc cc od cd oe ce⟩),.v (.int .i64 t),.v (.int .i64 i)]) (by
  repeat((conv=>whnf);first|apply qza|apply qzb|apply qzc|apply qzd|apply qze|intro(_:Nat))
  refine .inr ((q9O _ hw).mono fun v g1 hg1 hB=>?_)
  obtain⟨b,rfl,hB⟩:=hB
  repeat((conv=>whnf);first|apply qza|apply qzb|apply qzc|apply qzd|apply qze|intro(_:Nat))
  conv=>whnf
  refine⟨fun z1=>?_,fun z1=>?_⟩
  ·repeat((conv=>whnf);first|apply qza|apply qzb|apply qzc|apply qzd|apply qze|intro(_:Nat))
   conv=>whnf
   refine .inl ⟨_,qcD _,?_⟩
   repeat((conv=>whnf);first|apply qza|apply qzb|apply qzc|apply qzd|apply qze|intro(_:Nat))
   conv=>whnf
   intro g2 hg
   rfl
  obtain⟨hb,hsn⟩:=hB z1
  have hb':=BgW.up (K':=1000000) hb (by decide)
  have hw1:=qHA _ _ _ _ hg1 hw
  have hM1:=q4P g1 (k:=0) z0 ht
  repeat((conv=>whnf);first|apply qza|apply qzb|apply qzc|apply qzd|apply qze|intro(_:Nat))
  conv=>whnf
  refine⟨fun z2=>?_,fun z2=>?_⟩
  ·repeat((conv=>whnf);first|apply qza|apply qzb|apply qzc|apply qzd|apply qze|intro(_:Nat))
   conv=>whnf
   refine .inl ⟨_,qcD _,?_⟩
   repeat((conv=>whnf);first|apply qza|apply qzb|apply qzc|apply qzd|apply qze|intro(_:Nat))
   conv=>whnf
   intro g2 hg
   rfl
  repeat((conv=>whnf);first|apply qza|apply qzb|apply qzc|apply qzd|apply qze|intro(_:Nat))
  conv=>whnf
  refine⟨fun z3=>?_,fun z3=>?_⟩
  ·repeat((conv=>whnf);first|apply qza|apply qzb|apply qzc|apply qzd|apply qze|intro(_:Nat))
   conv=>whnf
   refine .inl ⟨_,qcD _,?_⟩
   repeat((conv=>whnf);first|apply qza|apply qzb|apply qzc|apply qzd|apply qze|intro(_:Nat))
   conv=>whnf
   intro g2 hg
   rfl
  have z2:¬ i<0:=of_decide_eq_false z2
  have z3:¬ (w.versions.length:Int)≤i:=of_decide_eq_false z3
  have hi0:0≤i:=by omega
  have hi1:i<w.versions.length:=by omega
  obtain⟨x,hx⟩:=qDA (l:=w.versions) (i:=i.toNat) (by omega)
  have hFv:=qBN hw1
  obtain⟨av,rfl⟩:=qUB hFv hx
  obtain⟨oL,cL,oR,cR,oC,cC,oG,cG,hcv,hsn3,_,hG⟩:=qPM hFv hx
  have hvb:=hb'.2.2 x (List.mem_of_getElem? hx)
  have hE:∀ g',g1≤g'→OkV Try.prog qpD _ g' _:=fun g' h=>qkJ g' (q8C _ _ _ _ h ⟨_,_,_,_,rfl,hsn3,hG⟩) hvb
  have hR:∀ g',g1≤g'→OkV Try.prog qKD _ g' _:=fun g' h=>q9N g' (q8C _ _ _ _ h ⟨_,_,_,_,rfl,hsn3,hG⟩) hvb
  repeat'((conv=>whnf);first|apply qza|apply qzb|apply qzc|apply qzd|apply qze|intro(_:Nat)|refine .inl ⟨_,qcD _,?_⟩|refine⟨fun _=>?_,fun h=>absurd h.symm Bool.false_ne_true⟩|refine⟨_,rfl,⟨hi0,hi1⟩,?_⟩|refine⟨_,⟨rfl,hcv⟩,?_⟩|refine .inl ⟨_,hE _ (GW.refl _),?_⟩|refine .inl ⟨_,hR _ (GW.refl _),?_⟩|fail)
  refine⟨fun _=>?_,fun h=>absurd h (by simp)⟩
  repeat((conv=>whnf);first|apply qza|apply qzb|apply qzc|apply qzd|apply qze|intro(_:Nat))
  conv=>whnf
  refine .inl ⟨_,qVB _ hw1 hM1 hsn hb',?_⟩
  by_cases hs:qmB w (mU 0 t)=true
  ·obtain⟨_,_,_,hS⟩:=suitB_iff.1 hs
   have hge:=(qXP (qME hS.right hx)).1
   rw [hs]
   repeat'((conv=>whnf);first|apply qza|apply qzb|apply qzc|apply qzd|apply qze|intro(_:Nat)|refine⟨fun _=>?_,fun h=>absurd h.symm Bool.false_ne_true⟩|refine⟨fun h=>absurd h Bool.false_ne_true,fun _=>?_⟩|refine⟨_,rfl,⟨hi0,hi1⟩,?_⟩|refine⟨_,⟨rfl,hcv⟩,?_⟩|refine .inl ⟨_,hE _ (GW.refl _),?_⟩|fail)
   conv=>whnf
   intro g2 hg
   exact congrArg Value.bool (decide_eq_true (by omega))
  ·have hs:qmB w (mU 0 t)=false:=by simpa using hs
   rw [hs]
   repeat'((conv=>whnf);first|apply qza|apply qzb|apply qzc|apply qzd|apply qze|intro(_:Nat)|refine⟨fun _=>?_,fun h=>absurd h.symm Bool.false_ne_true⟩|refine⟨fun h=>absurd h Bool.false_ne_true,fun _=>?_⟩|fail)
   conv=>whnf
   intro g2 hg
   rfl)
/- What came in of this seat's types is plain data. -/
open Go.Proofs.Ytkbbljngpglnkaa.Sx
section
variable {H:Type} {enc:TypeId×Value→H} {W:World}
theorem qsL:Rds enc Try.prog W qiH qDN:=q2P (tS:=qIG) (tI:=q4A) (by kernel_rfl) (by kernel_rfl) (by kernel_rfl) (by kernel_rfl)
theorem qoI:Rds enc Try.prog W qgC qbD:=qAN (tS:=qIG) (tI:=q4A) (tL:=qrM) (tB:=qzG) (by kernel_rfl) (by kernel_rfl) (by kernel_rfl) (by kernel_rfl) (by kernel_rfl) (by kernel_rfl) (by kernel_rfl)
end
/- What came in of a snapshot is plain data. -/
open Go.Proofs.Ytkbbljngpglnkaa.Sx
section
variable {H:Type} {enc:TypeId×Value→H} {W:World}
theorem qrL:Rds enc Try.prog W qdA qwH:=by
 intro fuel cs x h
 obtain⟨a,b,d,rfl,⟨l0,h0⟩,⟨l1,h1⟩,l2,h2⟩:=q0O (t0:=qIK) (t1:=qeI) (t2:=qyG) (e0:=qIG) (e1:=qiH) (e2:=qgC) (z0:=1) (z1:=4) (z2:=4)
  (by kernel_rfl) (by kernel_rfl) (by kernel_rfl) (by kernel_rfl) (by kernel_rfl) (by kernel_rfl) (by kernel_rfl) (by kernel_rfl) (by omega) (by omega) (by omega) (qXK (by kernel_rfl)) qsL qoI h
 exact⟨⟨l0,l1,l2⟩,a,b,d,rfl,h0,h1,h2⟩
end
/- What came in of worlds and machines is plain data. -/
open Go.Proofs.Ytkbbljngpglnkaa.Sx
section
variable {H:Type} {enc:TypeId×Value→H} {W:World}
theorem qjJ:Rds enc Try.prog W qLA qCB:=by
 intro fuel cs x h
 obtain⟨hl,hg⟩:=q9K (l:=[(0,1,qIG),(1,1,qzG),(2,1,q4A),(3,1,qzG)]) (by kernel_rfl) h
 rw [show Try.prog.cellsOf qLA=4 by kernel_rfl] at hl
 match cs,hl with
 | [a,b,c,d],_ =>
  obtain⟨s0,e0⟩:=(qXK (by kernel_rfl)).fld (hg 0 _ _ _ rfl)
  obtain⟨s1,e1⟩:=(qtH (by kernel_rfl)).fld (hg 1 _ _ _ rfl)
  obtain⟨s2,e2,w2⟩:=(q8D (by kernel_rfl)).fld (hg 2 _ _ _ rfl)
  obtain⟨s3,e3⟩:=(qtH (by kernel_rfl)).fld (hg 3 _ _ _ rfl)
  cases e0;cases e1;cases e2;cases e3
  exact⟨⟨s0,s1,s2,s3⟩,rfl,w2⟩
theorem qnI:Rds enc Try.prog W qkB qpA:=by
 intro fuel cs x h
 obtain⟨hl,hg⟩:=q9K (l:=[(0,1,q4A),(1,1,q4A),(2,1,qzG)]) (by kernel_rfl) h
 rw [show Try.prog.cellsOf qkB=3 by kernel_rfl] at hl
 match cs,hl with
 | [a,b,c],_ =>
  obtain⟨s0,e0,w0⟩:=(q8D (by kernel_rfl)).fld (hg 0 _ _ _ rfl)
  obtain⟨s1,e1,w1⟩:=(q8D (by kernel_rfl)).fld (hg 1 _ _ _ rfl)
  obtain⟨s2,e2⟩:=(qtH (by kernel_rfl)).fld (hg 2 _ _ _ rfl)
  cases e0;cases e1;cases e2
  exact⟨⟨s0,s1,s2⟩,rfl,w0,w1⟩
theorem qHN:RdsW enc Try.prog W qZA rEn:=by
 intro fuel cs x h hs
 obtain⟨hl,hg⟩:=q4J (l:=[(0,1,qxD),(1,1,qyD),(2,1,q4A)]) (by kernel_rfl) h hs
 rw [show Try.prog.cellsOf qZA=3 by kernel_rfl] at hl
 match cs,hl with
 | [a,b,c],_ =>
  obtain⟨s0,e0,w0⟩:=(qyN (by kernel_rfl)).fld (tr1 (hg 0 _ _ _ rfl))
  obtain⟨s1,v,e1,h1,hb⟩:=(qSM (t:=qyD) (e:=q4A) (sz:=1) (by kernel_rfl) (by kernel_rfl) (q8D (by kernel_rfl)).w).fld (hg 1 _ _ _ rfl)
  obtain⟨s2,e2,w2⟩:=(q8D (by kernel_rfl)).fld (tr1 (hg 2 _ _ _ rfl))
  cases e0;cases e1;cases e2
  refine⟨⟨s0,s1,s2⟩,⟨_,rfl,w0,w2,h1⟩,?_⟩
  rw [show Try.prog.bytesOf q4A=8 by kernel_rfl] at hb
  unfold reachBytes at hb
  show s1.length≤17592186044416
  omega
theorem qgK:RdsW enc Try.prog W qWA rGr:=by
 intro fuel cs x h hs
 obtain⟨hl,hg⟩:=q4J (l:=[(0,1,qxD),(1,1,qJG)]) (by kernel_rfl) h hs
 rw [show Try.prog.cellsOf qWA=2 by kernel_rfl] at hl
 match cs,hl with
 | [a,b],_ =>
  obtain⟨s0,e0,w0⟩:=(qyN (by kernel_rfl)).fld (tr1 (hg 0 _ _ _ rfl))
  obtain⟨s1,v,e1,h1⟩:=(qyP (t:=qJG) (e:=qZA) (sz:=3) (by kernel_rfl) (by kernel_rfl) qHN).fld (hg 1 _ _ _ rfl)
  cases e0;cases e1
  exact⟨⟨s0,s1⟩,_,rfl,w0,h1⟩
theorem qmI:RdsW enc Try.prog W qBA rVe:=by
 intro fuel cs x h hs
 obtain⟨hl,hg⟩:=q4J (l:=[(0,3,qdA),(3,1,qwE),(4,1,qzG)]) (by kernel_rfl) h hs
 rw [show Try.prog.cellsOf qBA=5 by kernel_rfl] at hl
 match cs,hl with
 | [a,b,c,d,e],_ =>
  obtain⟨s0,e0⟩:=(qrL (enc:=enc)).fld (tr1 (hg 0 _ _ _ rfl))
  obtain⟨s1,v,e1,h1⟩:=(qyP (t:=qwE) (e:=qWA) (sz:=2) (by kernel_rfl) (by kernel_rfl) qgK).fld (hg 1 _ _ _ rfl)
  obtain⟨s2,e2⟩:=(qtH (by kernel_rfl)).fld (tr1 (hg 2 _ _ _ rfl))
  cases e1;cases e2
  exact⟨⟨s0,s1,s2⟩,_,_,_,_,rfl,e0,h1⟩
theorem quQ:Rds enc Try.prog W qJB rRow:=by
 intro fuel cs x h
 obtain⟨l,v,rfl,h1⟩:=(q7C (t:=qJB) (e:=qxD) (sz:=1) (by kernel_rfl) (by kernel_rfl) (by omega) (qyN (by kernel_rfl))) fuel cs x h
 exact⟨l,_,rfl,h1⟩
theorem qfK:RdsW enc Try.prog W qIA rWo:=by
 intro fuel cs x h hs
 obtain⟨hl,hg⟩:=q4J (l:=[(0,1,q4A),(1,1,q4A),(2,1,q4A),(3,1,qyD),(4,1,qzD),(5,1,qhE),(6,1,qoF),(7,1,q0D)]) (by kernel_rfl) h hs
 rw [show Try.prog.cellsOf qIA=8 by kernel_rfl] at hl
 match cs,hl with
 | [c0,c1,c2,c3,c4,c5,c6,c7],_ =>
  obtain⟨s0,e0,w0⟩:=(q8D (by kernel_rfl)).fld (tr1 (hg 0 _ _ _ rfl))
  obtain⟨s1,e1,w1⟩:=(q8D (by kernel_rfl)).fld (tr1 (hg 1 _ _ _ rfl))
  obtain⟨s2,e2,w2⟩:=(q8D (by kernel_rfl)).fld (tr1 (hg 2 _ _ _ rfl))
  obtain⟨s3,v3,e3,h3⟩:=(q7C (t:=qyD) (e:=q4A) (sz:=1) (by kernel_rfl) (by kernel_rfl) (by omega) (q8D (by kernel_rfl))).fld (tr1 (hg 3 _ _ _ rfl))
  obtain⟨s4,v4,e4,h4⟩:=(qyP (t:=qzD) (e:=qBA) (sz:=5) (by kernel_rfl) (by kernel_rfl) qmI).fld (hg 4 _ _ _ rfl)
  obtain⟨s5,v5,e5,h5⟩:=(q7C (t:=qhE) (e:=qLA) (sz:=4) (by kernel_rfl) (by kernel_rfl) (by omega) qjJ).fld (tr1 (hg 5 _ _ _ rfl))
  obtain⟨s6,v6,e6,h6⟩:=(q7C (t:=qoF) (e:=qJB) (sz:=1) (by kernel_rfl) (by kernel_rfl) (by omega) quQ).fld (tr1 (hg 6 _ _ _ rfl))
  obtain⟨s7,v7,e7,h7⟩:=(q7C (t:=q0D) (e:=qkB) (sz:=3) (by kernel_rfl) (by kernel_rfl) (by omega) qnI).fld (tr1 (hg 7 _ _ _ rfl))
  cases e0;cases e1;cases e2;cases e3;cases e4;cases e5;cases e6;cases e7
  exact⟨⟨s0,s1,s2,s3,s4,s5,s6,s7⟩,_,_,_,_,_,rfl,⟨w0,w1,w2⟩,h3,h4,h5,h6,h7⟩
end
end Go.Proofs.Ytkbbljngpglnkaa
