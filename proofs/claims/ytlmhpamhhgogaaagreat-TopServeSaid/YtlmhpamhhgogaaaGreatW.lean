/- hydranttop.TopServe answers true for every configuration and every list of operations: what is served, one operation behind the other, is taken by the mesh, and the world is right (Rows.TopServeSaid). Conditions: none beyond the statement's own. -/
import Derived.ProofKit
import Derived.ShutString
import Derived.ChangeOld
import Derived.Carry
import Derived.Test.YtlmhpamhhgogaaaGreatV
set_option linter.all false
set_option maxHeartbeats 16000000
set_option maxRecDepth 100000
open And renaming intro→zG
open Bool renaming false→zb,true→I
open Go renaming Value→zg,maxLen→zAp,TypeId→zAw,Addr→zAI,undef→zAU
open Go.Frame renaming enter→zAR
open Go.Value renaming int→zK,bool→zBt
open Option renaming some→O,none→zc
open _root_ renaming List→F,Nat→Z,Int→zt,Option→zy
namespace Go.Proofs.YtlmhpamhhgogaaaGreat
open Go.Proofs.YtlmhpamhhgogaaaGreat.Sx Go.Duo Go.RowKit
def qiN{g}{K}(h:∀(q:zy zAI)(u:Z)(A:zy zAI)(B:Z)(C:zy zAI)(D:Z)g',g<=g'->qBB g' [.slice q 1 u,.slice A 1 B,.slice C 1 D] FZ->K (.agg ⟨[.slice q 1 u,.slice A 1 B,.slice C 1 D]⟩) g'):Ok Tryz.prog 25 [] g K:=
 (qFV g).mono λv g' H L=>by
  obtain⟨x,y,z,rfl,E⟩:=L;have P:=E;obtain⟨_,_,_,Q,⟨_,_,rfl,_⟩,⟨_,_,rfl,_⟩,⟨_,_,rfl,_⟩⟩:=E;cases Q;exact h _ _ _ _ _ _ g' H P
def qmR(g):rOp g [.int .i64 1,.string sIn,.string sX,.string sSl,.int .i64 0,.int .i64 0,.int .i64 0,.slice zc 0 0,.slice zc 0 0,.slice zc 0 0] opH:=
 ⟨_,_,_,rfl,⟨sw,z0,z0,z0⟩,qNF g⟩
def qYc(g):rOp g [.int .i64 2,.string ⟨#[]⟩,.string ⟨#[]⟩,.string ⟨#[]⟩,.int .i64 0,.int .i64 0,.int .i64 0,.slice zc 0 0,.slice zc 0 0,.slice zc 0 0] opF:=
 ⟨_,_,_,rfl,⟨sw,z0,z0,z0⟩,qNF g⟩
def qXc{g}{x y z}(h:qBB g [x,y,z] FZ):rOp g [.int .i64 3,.string ⟨#[]⟩,.string ⟨#[]⟩,.string ⟨#[]⟩,.int .i64 0,.int .i64 0,.int .i64 0,x,y,z] opW:=
 ⟨_,_,_,rfl,⟨sw,z0,z0,z0⟩,h⟩
abbrev cOp(k:zt)(l h p:BA)(x y z:zg):F zg:=[.int .i64 k,.string l,.string h,.string p,.int .i64 0,.int .i64 0,.int .i64 0,x,y,z]
def qlZ{g}{x y z u A B}(D:qBB g [x,y,z] FZ)(E:CQ g 10 u 2 (cOp 1 sIn sX sSl (.slice zc 0 0) (.slice zc 0 0) (.slice zc 0 0)++cOp 2 ⟨#[]⟩ ⟨#[]⟩ ⟨#[]⟩ (.slice zc 0 0) (.slice zc 0 0) (.slice zc 0 0)))(H:CQ g 10 A 1 (cOp 3 ⟨#[]⟩ ⟨#[]⟩ ⟨#[]⟩ x y z))(L:CQ g 1 B 2 [u,A]):rSl 1 q0I g B F5.Av:=
 qcK (R:=q0I) L [[opH,opF],[opW]] rfl sb λi C q=>by
  match i,q with
  |0,h=>
   cases h
   exact⟨_,rfl,qcK (R:=rOp) E [opH,opF] rfl sb λi C q=>by
    match i,q with
    |0,h=>cases h;exact qmR g
    |1,h=>cases h;exact qYc g⟩
  |1,h=>
   cases h
   exact⟨_,rfl,qcK (R:=rOp) H [opW] rfl sb λi C q=>by
    match i,q with
    |0,h=>cases h;exact qXc D⟩
def qQc{g}{v}{n}{cs}(h:CQ g 1 v n cs)(e:cs=F5.Bq.map (zK .i64)):rSl 1 BX g v F5.Bq:=
 qOC (R:=BX) h F5.Bq (zK .i64) e λx q=>⟨rfl,by
  obtain⟨k,u,rfl⟩:=zU.1 q;have:=zCZ.1 u;have e:Int.ofNat k=(k:zt):=rfl;unfold InR
  omega⟩
def L3{l:F Ans}(h:l.length=3){x y:zt}(A:l[1]?.map (λa=>a.Ak)=O x)(B:l[2]?.map (λa=>a.kind)=O y):∃C q u,l=[C,q,u]/\q.Ak=x/\u.kind=y:=by
 rcases l with _|⟨a,_|⟨b,_|⟨c,_|⟨d,l⟩⟩⟩⟩
 .cases h
 .cases h
 .cases h
 .exact⟨a,b,c,rfl,zn A,zn B⟩
 .simp at h
def LK:∃u h q:Ans,(sV 3).2=[u,h,q]/\h.Ak=1/\q.kind=4:=L3 (qeU 3) (zI Prod.fst qtY) (zI Prod.snd qtY)
def q8U{E:Env Tryz.prog}(ai:∀f args w R,qnP Tryz.prog f args w R->E.Big f args w R)(g:GW):OkE E 6 [] g λv _=>v=.bool I:=
 OkE.Aq hm noT 0 MO.2 (args:=[]) (by
  refine zq ?_;intros;refine zq ?_;intros
  repeat'((first|refine zG ?_ ?_|fail)<;>first|(refine zq ?_;intros)|rfl)
  all_goals
   refine .inr (qiN λaG aH aI aJ aK s3 g1 aL A=>zq ?_);intros
   repeat'((first|refine zG ?_ ?_|fail)<;>first|(refine zq ?_;intros)|rfl)
  all_goals
   refine .inr (qiN λaM aN aO aP aQ aR g2 aj B=>zq ?_);intros
   repeat'((first|refine zG ?_ ?_|fail)<;>first|(refine zq ?_;intros)|rfl)
  all_goals
   refine zr ?_;intros
   repeat'((first|refine q8B 41 ?_|refine⟨⟨sb,sb⟩,?_⟩|refine cT sb ?_|refine cF sb ?_|refine qWB ?_|fail)<;>first|(refine zr ?_;intros)|rfl)
   refine⟨10,rfl,by unfold zAp;omega,λaT ak aU P=>zq ?_⟩;intros;refine⟨10,rfl,by unfold zAp;omega,λaW al aX Q=>zq ?_⟩;intros;refine⟨1,rfl,by unfold zAp;omega,λaY am aZ T=>zq ?_⟩;intros;intro an ao a0 U;have V:=ao;have W:=GW.trans am V;have Y:=GW.trans al W;have aa:=GW.trans ak Y;have C:qAG an _ F5:=⟨_,_,_,_,_,rfl,qAA _ _ _ _ (GW.trans aj aa) A,qlZ (qAA _ _ _ _ aa B) (P.mono Y).rd (Q.mono W).rd (T.mono V).rd,qQc U.rd sd⟩;clear U P Q T;refine zq ?_;intros;refine .inr ((OkE.of (qPa _ C)).mono λv a1 ap h=>?_);obtain⟨a2,a3,rfl,u,hW⟩:=h;rw[Le]at u;obtain⟨a4,a5,rfl,_⟩:=qHZ u;obtain⟨_,_,_,_,_,_,_,_,_,_,rfl⟩:=qLA hW;refine zq ?_;intros;refine .inr ((OkE.of (qLV _ (q9F _ _ _ _ ap C) u)).mono λv a6 ab h=>?_);subst h;refine zq ?_;intros;refine .inl ⟨_,qpX _ (u.mono (λ_ _ _ _ _ q=>q) ab),zq ?_⟩;intros;refine .inr ((OkE.of (qJV _ (qBA _ _ _ _ ab hW))).mono λv a7 a8 h=>?_);obtain⟨a9,rfl,ac⟩:=h;obtain⟨_,_,_,_,_,_,_,_,_,_,rfl⟩:=qLA ac;clear C u hW;refine zq ?_;intros
   repeat'((first|refine zG ?_ ?_|fail)<;>first|(refine zq ?_;intros)|rfl)
   all_goals
    refine .inr (qiN λz1 ba bb bc bd be bf aq ar=>zq ?_);intros
    repeat'((first|refine zG ?_ ?_|fail)<;>first|(refine zq ?_;intros)|rfl)
    all_goals
     refine zw ?_;refine⟨1,rfl,by unfold zAp;omega,λbh ad bi au=>zq ?_⟩;intros;refine⟨10,rfl,by unfold zAp;omega,λbj D bl av=>zq ?_⟩;intros
     refine .inr ((OkE.top ai (quR (c:=FZ) (names:=[sIn]) (l:=[opH,opH,opH]) (Inv:=λi ae aw=>i<=3/\ae=(sV i).1/\aw=(sV i).2) (qAA _ _ _ _ (GW.trans ad D) ar) sd (qOC (R:=E8) (au.mono D).rd [sIn] .string rfl (λ_ _=>rfl)) ⟨sd,sb,sd⟩ sb sb (qcK (R:=rOp) av.rd [opH,opH,opH] rfl sb (λi bm ax=>by
      match i,ax with
      |0,q=>cases q;exact qmR _
      |1,q=>cases q;exact qmR _
      |2,q=>cases q;exact qmR _)) sb qDX ⟨sa,rfl,rfl⟩)).mono λv ay az h=>?_)
     obtain⟨af,csW,ae,bn,rfl,aA,H,_,_,_,rfl⟩:=h;obtain⟨_,_,_,_,_,_,_,_,_,_,rfl⟩:=qLA aA;obtain⟨aB,aC,aD,aE,aF,ag⟩:=LK;replace H:rSl 13 E9 ay af [aB,aC,aD]:=by rw[<-aE];exact H
     obtain⟨_,cS,L,_,_,_,ah⟩:=H;obtain⟨aS,rfl,_,_,⟨rfl,_⟩,A⟩:=ah 1 _ rfl;obtain⟨_,e,_,_,⟨rfl,_⟩,B⟩:=ah 2 _ rfl;cases e;replace L:af=.slice (O aS) 3 cS:=L;subst L;refine zr ?_;intros
     repeat'((first|refine⟨_,rfl,?_⟩|refine cT sb ?_|refine cF sb ?_|refine .inl ⟨_,q7c _ (qBA _ _ _ _ (GW.trans aq (GW.trans ad (GW.trans D az))) ac),?_⟩|refine⟨⟨sb,sb⟩,?_⟩|refine⟨_,A 3 _ rfl,?_⟩|refine⟨_,B 0 _ rfl,?_⟩|refine cT (beq_iff_eq.2 aF) ?_|refine cT (beq_iff_eq.2 ag) ?_|fail)<;>first|(refine zr ?_;intros)|rfl)
     intro g2 bo
     exact zI zBt (beq_iff_eq.2 ag))
end Go.Proofs.YtlmhpamhhgogaaaGreat
namespace Go.Proofs.YtlmhpamhhgogaaaGreat
open Go.Conc (G solo)
open Go.Proofs.YtlmhpamhhgogaaaGreat.Sx Go.Duo Go.RowKit
def qtQ:∀fn tmps w,Tryz.prog.funcs[3]?=O fn->evs Tryz.prog 3 (results fn tmps) w=#[]:=λfn tmps w h=>by
 have q:=(Tryz.func3).symm.trans h;cases q
 have e:results Tryz.f3 tmps=pure (tmps.getD 4 zAU):=by
  unfold results;rw[show Tryz.f3.results=#[.tmp 4] by kernel_rfl];simp[zCs]
 rw[e];rfl
def qTO{W}{x y z q}{c}{l}(A:qBB (EH W) [x,y,z] c)(B:rSl 10 rOp (EH W) q l)(hs:∀o∈l,qmP o.Bb/\qmP o.path):∃M last o w' t',runNT Tryz.prog (M+1) (solo (G (zAR Tryz.prog 3 #[.agg ⟨[x,y,z]⟩,q] .normal) []) W) #[]=(.ended o w',t')/\runN Tryz.prog M (solo (G (zAR Tryz.prog 3 #[.agg ⟨[x,y,z]⟩,q] .normal) []) W)=.next last/\step Tryz.prog last=.ended o w'/\Conc.Good Tryz.prog (λv w'=>Below W.heap.size W w'/\v=.bool I) last o w' t':=by
 let E:Env Tryz.prog:=⟨0,I,qnP Tryz.prog,λg w=>∀d,qiY Tryz.prog 3 (λv w'=>Below W.heap.size W w'/\v=.bool I) g (w.at d)⟩;have h:=qSQ (E:=E) (λ_ _ _ _ h=>h) (λg=>q8U (E:=E) (λ_ _ _ _ h=>h) g) (EH W) A B ⟨λo u=>⟨zY (hs o u).1 (zAq rfl),zY (hs o u).2 (zAq rfl)⟩⟩ W (Good.refl _) (zJ _);exact qXZ (E:=E) rfl (λf args c cs w L m C D H=>D w.drawn c cs m C H) sd qtQ rfl h
end Go.Proofs.YtlmhpamhhgogaaaGreat
namespace Go.Proofs.YtlmhpamhhgogaaaGreat.topServe
open Go.ChangeShapes Go.WideShapes Go.ChangeAt Go.RowKit
open Go.Proofs.YtlmhpamhhgogaaaGreat.Sx
theorem own:ownKnob Tryz.prog.godebug=zc:=sd
theorem laidOut:laidOutB Tryz.prog=I:=sd
theorem lifted(os:Os)(started:os.Started)(H:Type)(enc:zAw×zg->H):ReturnsInLeavingWide {} Tryz.checked os 3 .any (Rows.topServeSpec.pre6 enc Tryz.prog Tryz.f3 Rows.topServeRow.domain zb) (Rows.topServeSpec.post enc Tryz.prog Tryz.f3 zb I zb zb):=by
 refine returnsInLeavingWide_of_change_sized (C:=Tryz.checked) own started Tryz.func3
  (ChangeSpec.witness6 (enc:=enc) (C:=Tryz.checked) zb ⟨#[],#[(.agg #[.slice zc 0 0,.slice zc 0 0,.slice zc 0 0]),.slice zc 0 0],[]⟩ 8 sd sd sd sd) ?_
 intro W base args ds gs before hval0 hW hcnd hsz0 _;have hval:∀(j:Z)t v,Tryz.f3.params[j]?=O t->args[j]?=O v->Value.okWide Tryz.prog W .any base t v:=hval0;have hW':=hW;obtain⟨p,q,hA0,hV,rfl,hfz,hnd⟩:=hW;have hA:DataW.TrodAll enc Tryz.prog W 0 (λ_=>I) I Tryz.f3.params.toList args.toList ds p:=hA0;rw[Tryz.params3]at hA hval;have hsz:=hsz0;rw[Tryz.params3]at hsz;obtain⟨v0,vs0,d0,ds0,p0,q0,hargs,rfl,rfl,h0,r0⟩:=trodAll_cons hA;obtain⟨v1,vs1,d1,ds1,p1,q1,rfl,rfl,rfl,h1,r1⟩:=trodAll_cons r0;obtain⟨rfl,rfl,rfl⟩:=trodAll_nil r1;obtain rfl:args=#[v0,v1]:=by cases args;simp_all
 obtain⟨rfl,rfl⟩:=trodVars_none hV;have k0:=h0;have lt0:∀x∈p0,x.block<W.heap.size:=by obtain⟨m,hm⟩:=k0;exact DataW.trod_lt m _ _ _ hm
 obtain⟨⟨c0⟩,rfl,_⟩:=okWide_struct Tryz.underlying26 (hval 0 26 v0 rfl rfl);obtain⟨x0,e0⟩:=(Ft (enc:=enc) (W:=W)).fld (let⟨n,hn⟩:=k0;⟨n,_,hn⟩);have k1:=h1;have lt1:∀x∈p1,x.block<W.heap.size:=by obtain⟨m,hm⟩:=k1;exact DataW.trod_lt m _ _ _ hm
 obtain⟨oa1,len1,cap1,rfl⟩:=okWide_slice Tryz.underlying27 (hval 1 27 v1 rfl rfl);obtain⟨x1,ve1,he1,e1,s1⟩:=(let⟨n,hn⟩:=k1;q3Z (enc:=enc) (W:=W) n _ _ hn (qAX (j:=1) hsz rfl rfl));cases he1;clear hA0 hval0;obtain⟨a,b,d,rfl,_⟩:=id e0;obtain⟨M,last,o,w',t',r1,r2,r3,r4⟩:=qTO e0 e1 s1;refine⟨M,last,o,w',t',r1,r2,r3,r4.mono λv hp=>?_⟩;obtain⟨bel,rfl⟩:=hp;exact⟨_,_,_,[],_,[],hW',trodAll_mk1 (shut_bool Tryz.underlying4 _),(trodAll_cons_mk (Below.trod laidOut sd (zd sd) k0 bel lt0) (trodAll_cons_mk (Below.trod laidOut sd (zd sd) k1 bel lt1) trodAll_mk0)),rfl,bel.frame _,λh=>by cases h⟩
theorem qhC{a b}(h:a=I)(k:b=I):(a&&b)=I:=by rw[h,k];rfl
theorem j9:(Rows.topServeRow.inPlace==Tryz.pinned.checked.prog.inPlace 3)=I:=sd
theorem j10:(Rows.topServeRow.unfollowed==Tryz.pinned.checked.prog.unfollowed 3)=I:=sd
theorem j11:(Rows.topServeRow.recurses==Tryz.pinned.checked.prog.recurses 3)=I:=sd
theorem j12:(Rows.topServeRow.named==Tryz.pinned.checked.prog.varsNamed 3)=I:=sd
theorem j25:(Tryz.pinned.checked.prog.mayEnter)=I:=sd
theorem j26:(Rows.topServeRow.lifted==Tryz.pinned.checked.prog.liftsFinal)=I:=sd
theorem j27:(Tryz.pinned.checked.prog.make==O Rows.topServeRow.make)=I:=sd
theorem closed:joinedFacts Tryz.pinned.checked.prog 3 Tryz.f3 Rows.topServeSpec Rows.topServeRow=I:=by
 unfold joinedFacts;exact(qhC (qhC (qhC (qhC (qhC (qhC (qhC (qhC (qhC (qhC (qhC (qhC (qhC (qhC (qhC (qhC (qhC (qhC (qhC (qhC (qhC (qhC (qhC (qhC (qhC (qhC (qhC (qhC (qhC (qhC (qhC sd laidOut) sd) sd) sd) sd) sd) sd) sd) j9) j10) j11) j12) sd) sd) sd) sd) sd) sd) sd) sd) sd) sd) sd) sd) j25) j26) j27) sd) sd) sd) sd)
theorem over:Rows.topServeRow.holds Tryz.pinned (OpenSpec.ofChange Rows.topServeSpec):=
 OpenClaim.holds_of_wide_leaving 3 Tryz.f3 rfl rfl rfl rfl rfl rfl rfl ⟨rfl,rfl,rfl,rfl,rfl⟩ rfl rfl rfl rfl rfl sd Tryz.func3 closed
  (zd sd) (by unfold Func.isWrapper;first|(rw[zk (by decide+kernel)];kernel_rfl)|(rw[zj (by decide+kernel)];exact⟨rfl,rfl⟩))
  (λh q u A _=>lifted h q u A)
theorem proved:Rows.TopServeSaid:=over
end Go.Proofs.YtlmhpamhhgogaaaGreat.topServe
