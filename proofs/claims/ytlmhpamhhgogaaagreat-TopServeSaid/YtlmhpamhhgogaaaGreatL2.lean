import Derived.Test.YtlmhpamhhgogaaaGreatL1
set_option linter.all false
set_option maxHeartbeats 16000000
set_option maxRecDepth 100000
open Array renaming replicate→zAP
open Bool renaming false→zb,true→I
open Classical renaming propDecidable→zBb
open Go renaming Value→zg,World→zp,Program→zv,execOp→zx,Goroutine→zE,run_underlying→zL,Frame→zAm,maxLen→zAp,TypeId→zAw,stepG→zAD,Addr→zAI,Act→zDz,Oper→zDA,commResult→zAQ,undef→zAU,zeroValue→zAW,FuncId→zA5,Trace→zDC,Code→zDE
open Go.Act renaming put→zBf
open Go.Conc renaming rcase→zAN,closeEvents→zA1,heap_setChan_ne→zDB,Sits→zDF
open Go.Frame renaming atR→zAM,enter→zAR,finish_atR→zBc
open Go.GStep renaming after→zBF
open Go.Instr renaming loadAt→zBq
open Go.IntKind renaming i64→zAj
open Go.Region renaming wanted→zAl
open Go.Result renaming andThen→zAk,andThen_ok→zAV,evThen→zBJ
open Go.Sem renaming run_bind→zZ,runT_eq→zBn
open Go.Value renaming int→zK,bool→zBt
open Go.Value.slice renaming injEq→zAg
open List renaming range→zA8
open Option renaming some→O,none→zc
open _root_ renaming List→F,Nat→Z,Int→zt,Option→zy,Bool→zO,Array→zS,False→zX
namespace Go.Proofs.YtlmhpamhhgogaaaGreat
open Go.Conc (G born parked rcase scase AtIn Sits Seat heap_setChan_ne heap_setChan_self below_setChan)
open Go.Proofs.YtlmhpamhhgogaaaGreat.Sx Go.Duo Go.RowKit
def qOc{q}(u:ZV 167 q)(h)(c0 c1 c2 N):∃k',0<k'/\Pre Tryz.prog N (oV h) (Seat.one c0 q I (qVN (.slice zc 0 0) c0 c1 c2 N)) k' 3 (born Tryz.prog (q7Q h c0 c1 c2)):=by
 obtain⟨D,e,A,B⟩:=u;obtain⟨n,C⟩:=qBc (z:=q) h c0 c1 c2 N A B;exact⟨n+1,sa,KN h c0 c1 c2 N (q6H C)⟩
section
variable{w0 w:zp}{g g':GW}{vl:zg}{W:Wd}{c0 c1 c2 b7 b12:Z}{cs7:F zg}{a:zDz}
def AtGo.lt(h:AtGo w0 g vl W c0 c1 c2 b7 b12 g' cs7 a w):Plc w0.heap.size w.heap.size c0 c1 c2 b7 b12:=by
 have lt:∀{n:Z}{x:Obj},w.heap[n]?=O x->n<w.heap.size:=λq=>(zAb.1 q).1;exact⟨⟨h.ch.l0,lt h.ch.h0⟩,⟨h.ch.l1,lt h.ch.h1⟩,⟨h.ch.l2,lt h.ch.h2⟩,⟨h.l7,lt h.m7⟩,⟨h.l12,lt h.m12.1⟩,h.ch.d01,h.ch.d02,h.ch.d12,h.d⟩
def AtGo.AJ(h:AtGo w0 g vl W c0 c1 c2 b7 b12 g' cs7 a w):Go.Proofs.YtlmhpamhhgogaaaGreat.Sx.Good g' w:=by
 obtain⟨_,_,hs,rfl⟩:=h.sim;exact hs.AJ
def q0a{w w'}{o}{g}(h:Go.Proofs.YtlmhpamhhgogaaaGreat.Sx.Good g w)(u:KA w o w'):Go.Proofs.YtlmhpamhhgogaaaGreat.Sx.Good g w':=by
 obtain⟨d,rfl|rfl⟩:=u
 .exact⟨h.1,h.2⟩
 .refine⟨?_,λn q=>?_⟩
  .exact zY h.1 (Below.AT w o).size
  .have A:=g.wf n q;exact((Below.AT w o).block n (by have:=h.1;omega)).trans (h.2 n q)
def AtGo.jc(h:AtGo w0 g vl W c0 c1 c2 b7 b12 g' cs7 a w)(d):JC w0 w.heap.size c0 c1 c2 b7 b12 cs7 0 0 ⟨g',[.blk 0 w.heap.size 44 (cs7.map .v)],1,w.heap.size⟩ ((w.alloc (oV (.agg ⟨cs7⟩))).at d):=by
 obtain⟨C,hs,u,rfl⟩:=h.sim
 have hm:=(Ck.start u).alloc 0 44 (cs7.map .v) (λc A=>by
  obtain⟨v,B,rfl⟩:=zU.1 A
  exact h.m12.2 v B) 1
 rw[q3G]at hm;have e:∀{n:Z}{x:Obj},w.heap[n]?=O x->(w.alloc (oV (.agg ⟨cs7⟩))).heap[n]?=O x:=λq=>(Go.Duo.heap_alloc_old q).trans q;refine JC.at (w:=w.alloc (oV (.agg ⟨cs7⟩))) ⟨hm,h.below.alloc (zY (zH _) h.below.size) _,e h.ch.h0,e h.ch.h1,e h.ch.h2,e h.m7,e h.m12.1,h.ng⟩ d
def BK.of(h:AtGo w0 g vl W c0 c1 c2 b7 b12 g' cs7 a w)(v):BK vl v ⟨b7,0,zc⟩ ⟨b12,0,zc⟩ c0 c1 c2 (a.put (O 16) v):=
 ⟨by simp[zBf,h.size],by rw[qHA sb];exact h.t2,by rw[qHA sb];exact h.t7,by rw[qHA sb];exact h.t12,by rw[qHA sb];exact h.t13,by rw[qHA sb];exact h.t14,by rw[qHA sb];exact h.t15,qKE (by rw[h.size];decide),h.defers⟩
def Ka:∃e,Tryz.prog.underlying 27=O (.slice e)/\qYB Tryz.prog e=O 10:=⟨51,sd,sd⟩
def J8:qYB Tryz.prog 51=O 10/\BT Tryz.prog 51=O I:=⟨sd,sd⟩
def qTd:∃o,Dr[2]?=O o/\o.guard=zc/\o.op=.recv 89 (.tmp 65) zb:=⟨_,rfl,rfl,rfl⟩
def qDd{cs}{m}{T}{zi zo}(hzi:ZV 167 zi)(hzo:ZV 89 zo){l}{o}(hl:rSl 10 rOp g vl l)(hl0:l[0]?=O o)(h:AtGo w0 g vl W c0 c1 c2 b7 b12 g' cs7 a w)(hH:Ew Tryz.prog (·=0) (λ_=>zc) 0 0 (G (bS.atR a (.inRegion qmJ [4]::.code qwB::[])) cs) w m T):Go.Duo.Comes Tryz.prog m T λm' T'=>∃s a' w' ec,0<s/\GA (.slice zc 0 0) c0 c1 c2 w.heap.size a'/\(ec.length=10/\rOp g ec o)/\JC w0 w.heap.size c0 c1 c2 b7 b12 cs7 1 0 ⟨g',[.blk 0 w.heap.size 44 (cs7.map .v)],1,w.heap.size⟩ w'/\Two Tryz.prog w.heap.size (qUK zo bS [] cs vl (.slice zc 0 0) ⟨b7,0,zc⟩ ⟨b12,0,zc⟩ c0 c1 c2) (Seat.one c0 zi I (qVN (.slice zc 0 0) c0 c1 c2 w.heap.size)) s s (Go.Conc.served (Fw a') (zAQ #[zAN c0 zi] (.recv I) 0 (.agg ⟨ec⟩) I)) w' m' T':=by
 have hp:=h.lt;obtain⟨ol,cl,rfl,hcap,hmax,hnone,hr⟩:=id hl;obtain⟨al,rfl,ec,hec,hop,hrd⟩:=hr 0 o hl0;have hlen:0<l.length:=(ze.1 hl0).1;obtain⟨k',hk',hP⟩:=qOc hzi (.agg ⟨cs7⟩) c0 c1 c2 w.heap.size;obtain⟨dir,e,ht,hz⟩:=hzo
 have hB:al.block<w.heap.size:=by
  have:ec[0]?=O ec[0]:=zAa sa;have h1:=(hrd 0 _ this).1;rw[qBR,qBR]at h1;have h2:=g.wf _ h1;have h3:=h.le.1;have h4:=h.AJ.1;omega
 obtain⟨j,hW⟩:=qbb (B:=w.heap.size) (K:=KA w (oV (.agg ⟨cs7⟩))) (Stop:=qxH Tryz.prog (KA w (oV (.agg ⟨cs7⟩))) c0 (.agg ⟨ec⟩) λg=>zDF Tryz.prog I TrK NoS w.heap.size (qUK zo bS [] cs (.slice (O al) l.length cl) (.slice zc 0 0) ⟨b7,0,zc⟩ ⟨b12,0,zc⟩ c0 c1 c2) 5 g)
  (v16:=zAU) (a:=a) (b:=bS) (k:=[]) (cs:=cs) rfl (by rw[h.size];decide) (BK.of h) λa' hA'=>
   qKR (al:=al) (oa:=zc) (L:=l.length) (i:=0) (cl:=cl) (ca:=0) rfl hlen hec hB (λw' hw' j u hu=>(hrd j u hu).at (Go.Proofs.YtlmhpamhhgogaaaGreat.Sx.Good.of_le h.le (q0a h.AJ hw'))) Ka J8 hA' λa'' hA'' h58 h63=>Kz rfl (by simp[bS]) hA'' h58 h63 qTd ht hz
 refine(qqS (n:=0) (B0:=w.heap.size) (X:=qUK zo bS [] cs (.slice (O al) l.length cl) (.slice zc 0 0) ⟨b7,0,zc⟩ ⟨b12,0,zc⟩ c0 c1 c2) (S:=λ_=>Seat.one c0 zi I (qVN (.slice zc 0 0) c0 c1 c2 w.heap.size)) (z:=zi) (c:=c0) (k:=0) rfl
  (λd=>qXU rfl (by simp[bS]) h.t49 h.t50 h.t51 h.t52) (Seat.one_wf ..) (λc hc=>?_) (λc hc=>?_) (λc hc=>?_) h.ch.h0 hp.l0.2 hk' (λ_=>rfl) (λ_=>hP) (λB hB=>q1T hB (λg h=>q8b hB h) hW) hH).mono ?_
 .obtain rfl:=Seat.one_has.1 hc;exact⟨0,0,h.ch.h1⟩
 .obtain rfl:=Seat.one_has.1 hc;exact hp.l1.2
 .obtain rfl:=Seat.one_has.1 hc;exact hp.d01.symm
 .rintro m' T' ⟨s,g₂,d,hs,_,⟨a',hA',rfl⟩,h2⟩;exact⟨s,a',_,ec,hs,hA',⟨hec,hop⟩,(h.jc d).Jm hp 1,h2⟩
end
end Go.Proofs.YtlmhpamhhgogaaaGreat
namespace Go.Proofs.YtlmhpamhhgogaaaGreat
open Go.Conc (G born parked rcase scase AtIn Sits Seat)
open Go.Proofs.YtlmhpamhhgogaaaGreat.Sx Go.Duo Go.RowKit
def qQL(l:F OpD)(Inv:Z->Wd->F Ans->Prop):Prop:=
 ∀i u h o g cs A B,Inv i u h->l[i]?=O o->rWo g cs u->rOp g B o->rSl 13 E9 g A h->
  Ok Tryz.prog 46 [.agg ⟨cs⟩,.int .i64 0,.agg ⟨B⟩,A] g λv E=>∃C q n D,v=.tuple #[.agg ⟨C⟩,.agg ⟨q.cs⟩,.int .i64 n]/\rWo E C D/\q.ok/\Inv (i+1) D (h++[q])
noncomputable def Lj:zDE:=tlC qlN
noncomputable def qgd:zDE:=Gk (tlC Lj)
noncomputable def qpF:zS zDA:=F6 (tlC (tlC (tlC (tlC qgd))))
noncomputable def qhJ:F Item:=[.inBlock 1,.inLoop qlN,.inBlock 0,.code (tlC q7K)]
def CQ.cut{g}{sz n cap}{oa}{cs}(h:CQ g sz (.slice oa n cap) n cs):CQ g sz (.slice oa n n) n cs:=by
 obtain⟨u,D,E,e,A,B,q,C⟩:=h;cases e;exact⟨u,_,_,rfl,zH _,zY A B,λe=>⟨(q e).1,(q e).1⟩,C⟩
def qTb{l:F Ans}{u:zg}(h:u∈(l.map (·.cs)).flatten):u.oneCell'=I:=by
 obtain⟨c,A,q⟩:=zC8.1 h;obtain⟨B,_,rfl⟩:=zU.1 A;simp only[zs,zC,zAt]at q;rcases q with rfl|rfl|rfl|rfl|rfl|rfl|rfl|rfl|rfl|rfl|rfl|rfl|rfl<;>rfl
def qSZ{g}{v}{l}(h:rSl 13 E9 g v l):∀x∈l,x.ok:=by
 obtain⟨_,_,_,_,_,_,q⟩:=h;intro x u;obtain⟨i,A⟩:=zBC u;obtain⟨_,_,_,_,B,_⟩:=q i x A;exact B.2
def qWS{g g'}{lo}{v v'}{given}{A:Ans}(h:rSl 13 E9 g v given)(u:A.ok){n}(B:n=given.length+1)(C:Br g' lo 55 13 v' n ((given.map (·.cs)).flatten++A.cs)):rSl 13 E9 g' v' (given++[A]):=by
 refine q7C C.rd (given++[A]) (·.cs) se (by simp[B]) (λx _=>rfl) λx q=>⟨rfl,?_⟩;rcases zN.1 q with q|q
 .exact qSZ h x q
 .obtain rfl:=zA3.1 q;exact u
def qhZ{nt}{fr:Fr}{q}{sl sl'}{hs}{a}{w}(h:Stn nt fr q sl hs a w)(A:∀n u,AS sl' n=O u->AS sl n=O u):Stn nt fr q sl' hs a w:=⟨h.size,h.defers,λn u B=>h.As n u (A n u B),h.sim⟩
def qXR{E:Env Tryz.prog}{N:Z}{w0:zp}{g0:GW}{u:N<=w0.heap.size}(hE:E.N<=N){d1 d2:Deferred}{sl:Sl}{g1:GW}{oa:zy zAI}{k cap T H U V nx:Z}{cells:F zg}{W Y aa:F SV}{A:Ans}{B:F zg}{rs:F Res}{a:zDz}{w:zp}{c0 c1 c2:Z}{ab:Wd}(an:rWo g1 B ab)(hd:(∃L t cs,d1.target=.builtin .close L t cs)/\d1.args=#[.chan (O c1)]/\(∃L t cs,d2.target=.builtin .close L t cs)/\d2.args=#[.chan (O c2)])(ac:Stn 41 (frB N w0 g0 u) [d1,d2] sl ⟨g1,.row 44 oa k cap 55 13 cells::.blk 43 T 55 W::.blk 42 H 55 (A.cs.map .v)::.blk 41 U 44 Y::.blk 40 V 51 aa::.blk 0 N 44 (B.map .v)::rs,nx,N⟩ a w)(ao:AS sl 1=O (.v (.chan (O c0))))(ap:AS sl 2=O (.v (.chan (O c1))))(aq:AS sl 3=O (.v (.chan (O c2))))(ar:AS sl 15=O (.v (.chan (O c0))))(au:AS sl 4=O (.p 0 N 0))(av:AS sl 8=O (.row 44 oa k cap))(aw:AS sl 11=O (.p 42 H 0))(ad:∀a' w' g' nx',GA (.slice oa k cap) c0 c1 c2 N a'->a'.tmps[37]?=O (.chan (O c1))->a'.tmps[38]?=O (.agg ⟨A.cs⟩)->g1<=g'->Br g' N 55 13 (.slice oa k cap) k cells->Ap (frB N w0 g0 u) ⟨g',.blk 0 N 44 (B.map .v)::rs,nx',N⟩ w'->E.G (G (bV.atR a' (.inRegion qpF [2]::qhJ)) [BR]) w'):E.G (G (bV.atR a (.code (.region 10 qpF zb)::qhJ)) [BR]) w:=by
 have Q:(frB N w0 g0 u).has E:=q1K hE
 have ae:=qhZ (sl':=[(1,.v (.chan (O c0))),(2,.v (.chan (O c1))),(3,.v (.chan (O c2))),(15,.v (.chan (O c0))),(4,.p 0 N 0),(8,.row 44 oa k cap),(11,.p 42 H 0)]) ac λn q C=>by
  simp only[AS]at C
  repeat' split at C
  all_goals first|(cases C;done)|skip
  all_goals(rename_i af;obtain rfl:=zP af;obtain rfl:=zn C;assumption)
 refine .quiet rfl (λ_=>qPC) ?_;refine qZB (τ:=[0,1]) (rest:=[2]) Q ((qZA E).snd _ Q) sj ae (K:=λsl' ag=>∀a' w',Stn 41 (frB N w0 g0 u) [d1,d2] sl' ag a' w'->E.G (G (bV.atR a' (.inRegion qpF [2]::qhJ)) [BR]) w') (zq ?_) (λ_ _ a' w' P ah=>P a' w' ah);intros;intro R ai D;have h:∀(n:Z){q:SV}{v:zg},AS _ n=O q->Ag q=v->R.tmps[n]?=O v:=λn{q v}P e=>e▸D.As n q P
 have aj:=D.sim.sub (rs:=.row 44 oa k cap 55 13 cells::.blk 0 N 44 (B.map .v)::rs) (nx:=40) (by
  refine List.Sublist.cons_cons _ ?_
  exact List.Sublist.cons _ (List.Sublist.cons _ (List.Sublist.cons _ (List.Sublist.cons _ (zCa _)))))
 obtain⟨g',ak,_,al,am⟩:=aj.BW;refine ad R ai g' 40 ⟨D.size,h 1 rfl rfl,h 2 rfl rfl,h 3 rfl rfl,h 4 rfl rfl,h 8 rfl rfl,h 15 rfl rfl,⟨d1,d2,D.defers,hd⟩⟩ (h 37 rfl rfl) (h 38 rfl rfl) ak al am
def qWU{E:Env Tryz.prog}{N:Z}{l:F OpD}{Inv:Z->Wd->F Ans->Prop}(am:qQL l Inv){i:Z}{W:Wd}{given:F Ans}{o:OpD}{g:GW}{cs:F zg}{ec:F zg}{Q:zg}{c0 c1 c2:Z}{a:zDz}{w:zp}{rs:F Res}{ae:zg}(hE:E.N<=N)(an:Inv i W given)(ao:l[i]?=O o)(hW:rWo g cs W)(af:rOp g ec o)(B:rSl 13 E9 g Q given)(aR:given.length<=1000)(h:GA Q c0 c1 c2 N a)(hM:Ck N ⟨g,.blk 0 N 44 (cs.map .v)::rs,40,N⟩ w)(ag:∀a' w' g' R ah C A nx,GA ah c0 c1 c2 N a'->a'.tmps[37]?=O (.chan (O c1))->a'.tmps[38]?=O (.agg ⟨A.cs⟩)->g<=g'->rWo g' R C->A.ok->Inv (i+1) C (given++[A])->rSl 13 E9 g' ah (given++[A])->Ap (frB N w g hM.size) ⟨g',.blk 0 N 44 (R.map .v)::rs,nx,N⟩ w'->E.G (G (bV.atR a' (.inRegion qpF [2]::qhJ)) [BR]) w'):E.G (Go.Conc.served (Fw a) (zAQ #[zAN c0 ae] (.recv I) 0 (.agg ⟨ec⟩) I)) w:=by
 have q:(frB N w g hM.size).has E:=q1K hE;obtain⟨d1,d2,ap,D⟩:=h.defers
 have aq:Go.Conc.served (Fw a) (zAQ #[zAN c0 ae] (.recv I) 0 (.agg ⟨ec⟩) I)=G (bV.atR (a.put (O 16) (.tuple #[.agg ⟨ec⟩,.bool I])) (.inRegion GI [1]::qkL)) [BR]:=by
  have:=zBc bV a GI 0 [1] qkL (.tuple #[.agg ⟨ec⟩,.bool I]);exact zI (λf=>G f [BR]) this
 rw[aq]
 have ar:Stn 41 (frB N w g hM.size) [d1,d2] [(16,.tup [.v (.agg ⟨ec⟩),.v (.bool I)]),(1,.v (.chan (O c0))),(2,.v (.chan (O c1))),(3,.v (.chan (O c2))),(15,.v (.chan (O c0))),(4,.p 0 N 0),(8,.v Q)] ⟨g,.blk 0 N 44 (cs.map .v)::rs,40,N⟩ (a.put (O 16) (.tuple #[.agg ⟨ec⟩,.bool I])) w:=by
  refine hM.stn (by simp[zBf,h.size]) ap λn aT H=>?_;simp only[AS]at H
  repeat' split at H
  all_goals first|(cases H;done)|skip
  all_goals(rename_i au;obtain rfl:=zP au;obtain rfl:=zn H)
  .exact qKE (by rw[h.size];decide)
  .rw[qHA sb];exact h.t1
  .rw[qHA sb];exact h.t2
  .rw[qHA sb];exact h.t3
  .rw[qHA sb];exact h.t15
  .rw[qHA sb];exact h.t4
  .rw[qHA sb];exact h.t8
 have av:=hW;have aw:=af;obtain⟨_,_,_,_,_,rfl,_,ax,ay,az,aA,aB⟩:=hW;obtain⟨_,_,rfl,_⟩:=id ax;obtain⟨_,_,rfl,_⟩:=id ay;obtain⟨_,_,rfl,_⟩:=id az;obtain⟨_,_,rfl,_⟩:=id aA;obtain⟨_,_,rfl,_⟩:=id aB;obtain⟨_,_,_,rfl,_,aC⟩:=af;obtain⟨_,_,_,aD,⟨aU,aW,rfl,_⟩,⟨aX,aY,rfl,_⟩,⟨aZ,a0,rfl,_⟩⟩:=id aC;cases aD;obtain⟨aE,a1,rfl,ai⟩:=id B;refine qZB (τ:=[1]) (rest:=[]) q ((qZA E).snd _ q) sj ar (K:=λT U=>∀a' w',Stn 41 (frB N w g hM.size) [d1,d2] T U a' w'->E.G (G (bV.atR a' (.inRegion GI []::qkL)) [BR]) w') (zq ?_) (λ_ _ a' w' u V=>u a' w' V);intros;intro a2 w1 aj;refine .quiet rfl (λ_=>qyA) ?_;unfold qkL qlN q7K q8K qKP Tryz.f29;simp only[zAG,tlC,qQN,Gk,hdC];refine q0A (qxK I rfl rfl aj (qwI (q5J ?_)));refine q0A (qCC q ((qZA E).snd _ q) sj aj (zq ?_));intros;intro a3 a4 aF;refine q0A (qCC q ((qZA E).snd _ q) sj aF (zq ?_));intros;refine .inr ((am i W given o g _ _ _ an ao av aw B).mono λv g1 Y aG=>?_);obtain⟨R,A,a5,C,rfl,ak,L,al⟩:=aG;have P:=ak;obtain⟨_,_,_,_,_,rfl,_,aH,aI,aJ,aK,aL⟩:=ak;obtain⟨_,_,rfl,_⟩:=id aH;obtain⟨_,_,rfl,_⟩:=id aI;obtain⟨_,_,rfl,_⟩:=id aJ;obtain⟨_,_,rfl,_⟩:=id aK;obtain⟨_,_,rfl,_⟩:=id aL;refine zq ?_;intros;intro a6 w3 aM;refine q0A (qCC q ((qZA E).snd _ q) sj aM (zq ?_));intros;intro a7 a8 aN;refine q0A (qEN hm q ((qZA E)) (λaO aP=>(qZA E).snd aO aP) rfl (oi:=.first 0 (.first 1 (.first 2 (.first 3 (.first 4 (.first 5 (.first 6 (.exec 7 (.exec 8 (.first 9 .nil)))))))))) sd sd sj sb (λd D=>absurd D zC) aN (K:=λT U=>∀a' w',Stn 41 (frB N w g hM.size) [d1,d2] T U a' w'->E.G (G (bV.atR a' (.code _::qhJ)) [BR]) w') (zq ?_) (λ_ _ a' w' u V=>u a' w' V));intros;refine⟨⟨sa,sa,by have:=ai.1;omega⟩,?_⟩;simp only[zBB];refine zq ?_;intros;cases aE with
 |none=>
  obtain rfl:given=[]:=zCd (ai.2.2.1 rfl).1;refine zw ?_;refine⟨⟨by unfold zAp;omega,sa⟩,zq ?_⟩;intros;intro aQ w5 aa;refine qXR (A:=A) (w0:=w) hE P D aa rfl rfl rfl rfl rfl rfl rfl λa' w' g' ab e1 e2 e3 e4 ac ad=>?_;exact ag a' w' g' _ _ C A ab e1 e2 e3 (GW.trans Y e4) (qBA _ _ _ _ e4 P) L al (qWS B L rfl ac) ad
 |some a9=>
  refine zw ?_;refine .inl ⟨_,⟨CQ.cut (qcO (B.mono qDG Y) (·.cs) (λ_ _ u=>u.1)),λ_=>qTb⟩,λu=>(nomatch u),λ_=>⟨⟨sa,by unfold zAp;omega,sa⟩,zq ?_⟩⟩;intros;intro aQ w5 aa;refine qXR (A:=A) (w0:=w) hE P D aa rfl rfl rfl rfl rfl rfl rfl λa' w' g' ab e1 e2 e3 e4 ac ad=>?_;exact ag a' w' g' _ _ C A ab e1 e2 e3 (GW.trans Y e4) (qBA _ _ _ _ e4 P) L al (qWS B L rfl ac) ad
def qKZ{a}{c1}{v}(h37:a.tmps[37]?=O (.chan (O c1)))(h38:a.tmps[38]?=O v)(w):zAD Tryz.prog zb (G (bV.atR a (.inRegion qpF [2]::qhJ)) [BR]) w=.comm (G (bV.atR a (.inRegion qpF [2]::qhJ)) [BR]) #[scase c1 v (.tuple #[])] I .send w #[]/\Go.Conc.served (G (bV.atR a (.inRegion qpF [2]::qhJ)) [BR]) zAU=G (bV.atR a (.inRegion qpF []::qhJ)) [BR]:=by
 obtain⟨o,ho,hg,hd,hop⟩:∃o,qpF[2]?=O o/\o.guard=zc/\o.dst=zc/\o.op=.send (.tmp 37) (.tmp 38):=⟨_,rfl,rfl,rfl,rfl⟩
 have hr:∀w,(zx a.eval o).run Tryz.prog w=.ok (.comm #[scase c1 v (.tuple #[])] I .send) w/\(zx a.eval o).events Tryz.prog w #[]=#[]:=λw=>by
  have e1:=qGA h37;have e2:=qGA h38;unfold zx;simp[hop,e1,e2,scase]
 have hb:bV.roundOf=zc:=rfl;constructor
 .rw[Frame.atR_of_none hb,Go.Conc.stepG_comm ho (by simp[zAl,hg]) (by simp[bV]) (hr w).1,Go.Conc.listed_none (hr w).2]
 .have:=zBc bV a qpF 2 [] qhJ zAU;rw[ho]at this;simp only[zCN,hd]at this;exact zI (λf=>G f [BR]) this
def qAc{zi vg}{c0 c1 c2 N}{a}(hzi:ZV 167 zi)(hA:GA vg c0 c1 c2 N a):zDF Tryz.prog zb TrK NoS 0 (Seat.one c0 zi I (qVN vg c0 c1 c2 N)) 6 (G (bV.atR a (.inRegion qpF []::qhJ)) [BR]):=by
 obtain⟨dir,e,ht,hz⟩:=hzi;refine q6H (n:=5) (Quiet.step qMA (Quiet.step qnE (Quiet.step qTK ?_)));exact Quiet.step (qBC (x:=hdC qlN) (y:=tlC qlN)) (Quiet.step (AR (id:=5) (ops:=GI)) ⟨Fw a,Lw hA ht hz⟩)
def q3T{P:zv}{E:Env P}(hE:E.main=I){B:Z}{K:zp->Prop}{Stop:zE->Prop}(h:∀w d,K w->K (w.at d)):∀{n:Z}{g:zE}{w:zp},Go.Duo.Way P B K Stop n g->K w->(∀g',Stop g'->E.G g' w)->E.G g w
 |0,_,_,q,_,hs=>hs _ q
 |n+1,g,w,⟨D,g',H,q⟩,u,hs=>.one D λd=>by
  obtain⟨es,L,A⟩:=H _ (h w d u);exact⟨g',w.at d,es,by rw[hE];exact L,.refl _,λe C=>⟨(A e C).2.1,(A e C).2.2.1⟩,q3T hE h q (h w d u) λg' Q=>(hs g' Q).at d⟩
def qIT{E:Env Tryz.prog}{N:Z}(hE:E.N<=N){vl zo:zg}{oa:zy zAI}{cap:Z}{p7 p12:zAI}{c0 c1 c2:Z}{a:zDz}{w:zp}{g:GW}{cs:F zg}{ans:F Ans}{A:Ans}{cs0:F zAm}(hA:BK vl (.slice oa ans.length cap) p7 p12 c0 c1 c2 a)(h64:a.tmps[64]?=O (.slice oa ans.length cap))(hl:ans.length<=1000)(hM:Ck N ⟨g,[.blk 0 N 44 (cs.map .v),.row 10 oa ans.length cap 55 13 (ans.map (·.cs)).flatten],40,N⟩ w)(hK:∀a' w' oa' cap',BK vl (.slice oa' (ans++[A]).length cap') p7 p12 c0 c1 c2 a'->Ap (frB N w g hM.size) ⟨g,[.blk 0 N 44 (cs.map .v),.row 10 oa' (ans++[A]).length cap' 55 13 ((ans++[A]).map (·.cs)).flatten],40,N⟩ w'->E.G (G (bS.atR a' (.inRegion Dr []::.inBlock 2::qmE [])) cs0) w'):E.G (Go.Conc.served (G (bS.atR a (.inRegion Dr [2,3,4,5]::.inBlock 2::qmE [])) cs0) (zAQ #[zAN c1 zo] (.recv zb) 0 (.agg ⟨A.cs⟩) I)) w:=by
 have hfE:(frB N w g hM.size).has E:=q1K hE
 have hst:Go.Conc.served (G (bS.atR a (.inRegion Dr [2,3,4,5]::.inBlock 2::qmE [])) cs0) (zAQ #[zAN c1 zo] (.recv zb) 0 (.agg ⟨A.cs⟩) I)=G (bS.atR (a.put (O 66) (.agg ⟨A.cs⟩)) (.inRegion Dr [3,4,5]::.inBlock 2::qmE [])) cs0:=by
  have:=zBc bS a Dr 2 [3,4,5] (.inBlock 2::qmE []) (.agg ⟨A.cs⟩);exact zI (λf=>G f cs0) this
 rw[hst]
 have hA0:Stn 88 (frB N w g hM.size) [] [(66,.v (.agg ⟨A.cs⟩)),(64,.row 10 oa ans.length cap),(2,.v vl),(7,.v (.pointer (O p7))),(12,.v (.pointer (O p12))),(13,.v (.chan (O c0))),(14,.v (.chan (O c1))),(15,.v (.chan (O c2)))] ⟨g,[.blk 0 N 44 (cs.map .v),.row 10 oa ans.length cap 55 13 (ans.map (·.cs)).flatten],40,N⟩ (a.put (O 66) (.agg ⟨A.cs⟩)) w:=by
  refine hM.stn (by simp[zBf,hA.size]) hA.defers λn u hu=>?_;simp only[AS]at hu
  repeat' split at hu
  all_goals first|(cases hu;done)|skip
  all_goals(rename_i hbq;obtain rfl:=zP hbq;obtain rfl:=zn hu)
  .exact qKE (by rw[hA.size];decide)
  .rw[qHA sb];exact h64
  .rw[qHA sb];exact hA.t2
  .rw[qHA sb];exact hA.t7
  .rw[qHA sb];exact hA.t12
  .rw[qHA sb];exact hA.t13
  .rw[qHA sb];exact hA.t14
  .rw[qHA sb];exact hA.t15
 refine qZB (τ:=[3,4,5]) (rest:=[]) hfE ((qZA E).snd _ hfE) sj hA0 (K:=λsl' hs'=>∀a' w',Stn 88 (frB N w g hM.size) [] sl' hs' a' w'->E.G (G (bS.atR a' (.inRegion Dr []::.inBlock 2::qmE [])) cs0) w') (zq ?_) (λ_ _ a' w' h h'=>h a' w' h');intros;refine⟨⟨by unfold zAp;omega,sa⟩,zq ?_⟩;intros;intro a2 w2 hA2;have hS:∀(n:Z){u:SV}{v:zg},AS _ n=O u->Ag u=v->a2.tmps[n]?=O v:=λn{u v}h e=>e▸hA2.As n u h;have hw:=hA2.sim.sub (rs:=_) (nx:=40) (zCh _ _);refine hK a2 w2 _ _ ⟨hA2.size,hS 2 rfl rfl,hS 7 rfl rfl,hS 12 rfl rfl,hS 13 rfl rfl,hS 14 rfl rfl,hS 15 rfl rfl,hS 16 rfl (by simp[Ag];exact⟨rfl,rfl⟩),hA2.defers⟩ (hw.fit ?_);simp[AB,Res.eqv,qCA,Ag]
structure SP where
 w0:zp
 N:Z
 c0:Z
 c1:Z
 c2:Z
 b7:Z
 b12:Z
 cs7:F zg
 g0:GW
 vl:zg
 l:F OpD
 Inv:Z->Wd->F Ans->Prop
 zi:zg
 zo:zg
 cs0:F zAm
structure SP.ok(p:SP):Prop where
 plc:Plc p.w0.heap.size p.N p.c0 p.c1 p.c2 p.b7 p.b12
 hzi:ZV 167 p.zi
 hzo:ZV 89 p.zo
 hl:rSl 10 rOp p.g0 p.vl p.l
 hl2:p.l.length<=200
 hsv:qQL p.l p.Inv
def SP.X(p:SP)(h:zg):Seat:=qUK p.zo bS [] p.cs0 p.vl h ⟨p.b7,0,zc⟩ ⟨p.b12,0,zc⟩ p.c0 p.c1 p.c2
def SP.S(p:SP)(h:zg):Seat:=Seat.one p.c0 p.zi I (qVN h p.c0 p.c1 p.c2 p.N)
def SP.hs(p:SP)(g:GW)(cs:F zg)(oa:zy zAI)(cap:Z)(h:F Ans):Hs:=⟨g,[.blk 0 p.N 44 (cs.map .v),.row 10 oa h.length cap 55 13 (h.map (·.cs)).flatten],40,p.N⟩
def SP.J(p:SP)(h q:Z)(hs:Hs)(w:zp):Prop:=JC p.w0 p.N p.c0 p.c1 p.c2 p.b7 p.b12 p.cs7 h q hs w
structure SP.K(p:SP)(i:Z)(g:GW)(cs:F zg)(W:Wd)(given:F Ans)(vg:zg):Prop where
 le:p.g0<=g
 wo:rWo g cs W
 inv:p.Inv i W given
 len:given.length=i
 gv:rSl 13 E9 g vg given
 old:∀n,n<p.w0.heap.size->g.g n->p.g0.g n
def SP.Gp(p:SP)(i:Z)(m:Machine)(B:zDC):Prop:=
 ∃s a w h u o g cs C q A cap,0<s/\p.l[i]?=O o/\GA h p.c0 p.c1 p.c2 p.N a/\p.J (i+1) i (p.hs g cs A cap q) w/\p.K i g cs C q h/\rOp g u o/\
  Two Tryz.prog p.N (p.X (.slice A q.length cap)) (p.S h) s s (Go.Conc.served (Fw a) (zAQ #[zAN p.c0 p.zi] (.recv I) 0 (.agg ⟨u⟩) I)) w m B
def SP.Ht(p:SP)(i:Z)(m:Machine)(B:zDC):Prop:=
 ∃s a w A g cs C h u q cap,0<s/\BK p.vl (.slice q h.length cap) ⟨p.b7,0,zc⟩ ⟨p.b12,0,zc⟩ p.c0 p.c1 p.c2 a/\a.tmps[64]?=O (.slice q h.length cap)/\p.J (i+1) (i+1) (p.hs g cs q cap h) w/\u.ok/\p.K (i+1) g cs C (h++[u]) A/\
  Two Tryz.prog p.N (p.X (.slice q h.length cap)) (p.S A) s 0 (Go.Conc.served (G (bS.atR a (.inRegion Dr [2,3,4,5]::.inBlock 2::qmE [])) p.cs0) (zAQ #[zAN p.c1 p.zo] (.recv zb) 0 (.agg ⟨u.cs⟩) I)) w m B
def SP.Jn(p:SP)(i D E:Z)(oa:zy zAI)(cap:Z)(u:F Ans)(g:zE)(w:zp):Prop:=
 ∃h A B C H q,g=G (bV.atR h (.inRegion qpF [2]::qhJ)) [BR]/\GA C p.c0 p.c1 p.c2 p.N h/\h.tmps[37]?=O (.chan (O p.c1))/\h.tmps[38]?=O (.agg ⟨q.cs⟩)/\q.ok/\p.K (i+1) A B H (u++[q]) C/\p.J D E (p.hs A B oa cap u) w
def q8W{p:SP}(hp:p.ok){i}{m}{T}(h:p.Gp i m T):Go.Duo.Comes Tryz.prog m T (p.Ht i):=by
 obtain⟨s,a,w,vg,ec,o,g,cs,W,ans,oa,cap,hs0,ho,hA,hJ,hK,hop,h2⟩:=h;have hi:i<p.l.length:=(ze.1 ho).1;have hXc:∀va c,(p.X va).has c->c=p.c1:=λva c hc=>Seat.one_has.1 hc;have hSc:∀vg c,(p.S vg).has c->c=p.c0:=λvg c hc=>Seat.one_has.1 hc
 have hG:(⟨p.N,zb,λ_ _ _ _=>zX,p.Jn i (i+1) i oa cap ans⟩:Env Tryz.prog).G (Go.Conc.served (Fw a) (zAQ #[zAN p.c0 p.zi] (.recv I) 0 (.agg ⟨ec⟩) I)) w:=by
  refine qWU (E:=⟨p.N,zb,λ_ _ _ _=>zX,p.Jn i (i+1) i oa cap ans⟩) (N:=p.N) hp.hsv (zH _) hK.inv ho hK.wo hop hK.gv (by have:=hK.len;have:=hp.hl2;omega) hA (rs:=[.row 10 oa ans.length cap 55 13 (ans.map λ(x:Ans)=>x.cs).flatten]) hJ.mine ?_;intro a' w' g' cs' vg' W' A nx e1 e2 e3 e4 e5 e6 e7 e8 e9;refine q2M λd=>⟨a',g',cs',vg',W',A,rfl,e1,e2,e3,e6,⟨GW.trans hK.le e4,e5,e7,by have:=hK.len;simp;omega,e8,λn hn hg=>hK.old n hn (e9.fz n (zQ hn (zY hp.plc.l0.1 (zCW hp.plc.l0.2))) hg)⟩,?_⟩;exact JC.at (JC.next hp.plc hJ (e9.fit (nx':=40) (by simp[AB,Res.eqv])) (zH _)) d
 refine(qMR sf (λc hc=>by rw[hXc _ _ hc];exact hp.plc.l1.2) (λc hc=>by rw[hSc _ _ hc];exact hp.plc.l0.2) (λ_ _ _ _ h=>h) hG h2).trans ?_;rintro m1 T1 ⟨g1,w1,⟨a',g',cs',vg',W',A,rfl,e1,e2,e3,e4,e5,e6⟩,h3⟩;have h4:=qGU hs0 (S':=p.S vg') (Seat.one_wf ..) (λc hc hc'=>hp.plc.d01 ((hSc _ _ hc').symm.trans (hXc _ _ hc))) (λc hc=>by rw[hSc _ _ hc];exact⟨0,_,e6.h0⟩) (λc hc=>by rw[hSc _ _ hc];exact hp.plc.l0.2) h3;refine(qEU hs0 (z:=p.zo) (v:=.agg ⟨A.cs⟩) (c:=p.c1) rfl rfl (λd=>(qKZ e2 e3 _).1) (by rw[(qKZ e2 e3 w1).2];exact qAc hp.hzi e1) h4).mono ?_;rintro m2 T2 ⟨g₂,d,k,cap',⟨a2,hM,h64,rfl⟩,hc,h5⟩;have hc':=e6.h1;rw[hc]at hc';simp only[zAh,Obj.chan.injEq]at hc';obtain⟨rfl,_,_,rfl,_⟩:=hc';exact⟨s,a2,_,vg',g',cs',W',ans,A,oa,cap,hs0,hM,h64,(e6.at d).Lh hp.plc (k+1),e4,e5,h5⟩
def SP.IV(p:SP)(i:Z)(m:Machine)(A:zDC):Prop:=
 ∃s a w q g cs B h u cap,0<s/\p.l.length=i/\BK p.vl (.slice u h.length cap) ⟨p.b7,0,zc⟩ ⟨p.b12,0,zc⟩ p.c0 p.c1 p.c2 a/\a.tmps[69]?=O (.chan (O p.c0))/\p.J i i (p.hs g cs u cap h) w/\p.K i g cs B h q/\
  ∃C,Two Tryz.prog p.N (p.X C) (p.S q) s 0 (G (bS.atR a (.inRegion K3 [1]::.code (tlC qEC)::[])) p.cs0) w m A
def SP.IS(p:SP)(i:Z)(g:GW)(cs:F zg)(q:F Ans)(gr:zE)(w:zp):Prop:=
 ∃h u A,BK p.vl (.slice u q.length A) ⟨p.b7,0,zc⟩ ⟨p.b12,0,zc⟩ p.c0 p.c1 p.c2 h/\p.J (i+1) (i+1) (p.hs g cs u A q) w/\
  ((∃o B,p.l[i+1]?=O o/\rOp g B o/\h.tmps[58]?=O (.chan (O p.c0))/\h.tmps[63]?=O (.agg ⟨B⟩)/\gr=G (bS.atR h (.inRegion CI [6]::.code (tlC qkI)::.inBlock 2::qmE [])) p.cs0)\/
   (p.l.length=i+1/\h.tmps[69]?=O (.chan (O p.c0))/\gr=G (bS.atR h (.inRegion K3 [1]::.code (tlC qEC)::[])) p.cs0))
def qya{g}{w}(h:Go.Proofs.YtlmhpamhhgogaaaGreat.Sx.Good g w)(d):Go.Proofs.YtlmhpamhhgogaaaGreat.Sx.Good g (w.at d):=⟨h.1,h.2⟩
def qxa{p:SP}(Y:p.ok){i:Z}{g:GW}{cs:F zg}{q:F Ans}(R:p.g0<=g)(aa:q.length=i+1)(aq:i+1<=p.l.length){a:zDz}{w:zp}{oa:zy zAI}{cap:Z}(A:BK p.vl (.slice oa q.length cap) ⟨p.b7,0,zc⟩ ⟨p.b12,0,zc⟩ p.c0 p.c1 p.c2 a)(C:p.J (i+1) (i+1) (p.hs g cs oa cap q) w){E:Env Tryz.prog}(hE:E.main=I)(T:∀gr w,p.IS i g cs q gr w->E.Stop gr w):E.G (G (bS.atR a (.code qRI::qmE [])) p.cs0) w:=by
 have ab:Go.Proofs.YtlmhpamhhgogaaaGreat.Sx.Good g w:=C.mine.AJ
 have U:∀(h:zp)(d:Z),(∃d,h=w.at d)->∃V,h.at d=w.at V:=by
  rintro _ d ⟨V,rfl⟩;exact⟨d,rfl⟩
 obtain⟨ol,cl,D,ar,au,av,ac⟩:=id Y.hl;rw[D]at A;by_cases ad:i+1<p.l.length
 .obtain⟨o,W⟩:∃o,p.l[i+1]?=O o:=⟨_,zAa ad⟩;obtain⟨al,rfl,ae,af,ag,ah⟩:=ac _ o W;have ai:al.block<al.block+1:=sa
  obtain⟨n,hW⟩:=qKR (B:=al.block+1) (K:=λh=>∃d,h=w.at d) (Stop:=λgr=>∀h,(∃d,h=w.at d)->E.Stop gr h) (al:=al) (oa:=oa) (L:=p.l.length) (i:=q.length) (cl:=cl) (ca:=cap) (b:=bS) (k:=[]) (cs:=p.cs0) rfl sa af ai (λh⟨d,u⟩j aj ak=>by
   subst u;rw[aa];exact(ah j aj ak).at (Go.Proofs.YtlmhpamhhgogaaaGreat.Sx.Good.of_le R (qya ab d))) Ka J8 A λH P am an h⟨d,u⟩=>by
    subst u;exact T _ _ ⟨H,oa,cap,by rw[D];exact P,JC.at C d,.inl ⟨o,ae,W,qYD _ _ _ _ R ag,am,an,rfl⟩⟩
  exact q3T hE U hW ⟨w.drawn,rfl⟩ λao Q=>.stop λd=>Q _ ⟨d,rfl⟩
 .obtain⟨n,hW⟩:=q4T (B:=0) (K:=λh=>∃d,h=w.at d) (Stop:=λgr=>∀h,(∃d,h=w.at d)->E.Stop gr h) (ol:=ol) (oa:=oa) (L:=p.l.length) (i:=q.length) (cl:=cl) (ca:=cap) (b:=bS) (k:=[]) (cs:=p.cs0) rfl sa A λH P ap h⟨d,u⟩=>by
    subst u;exact T _ _ ⟨H,oa,cap,by rw[D];exact P,JC.at C d,.inr ⟨sa,ap,rfl⟩⟩
  exact q3T hE U hW ⟨w.drawn,rfl⟩ λao Q=>.stop λd=>Q _ ⟨d,rfl⟩
def qbV{p:SP}(hp:p.ok){i}(hi:i<p.l.length){m}{T}(h:p.Ht i m T):Go.Duo.Comes Tryz.prog m T λm' T'=>p.Gp (i+1) m' T'\/p.IV (i+1) m' T':=by
 obtain⟨s,a,w,vg,g,cs,W,ans,A,oa,cap,hs0,hA,h64,hJ,hok,hK,h2⟩:=h;have hXc:∀va c,(p.X va).has c->c=p.c1:=λva c hc=>Seat.one_has.1 hc;have hSc:∀vg c,(p.S vg).has c->c=p.c0:=λvg c hc=>Seat.one_has.1 hc;have hlen:=hK.len;have hl1:ans.length=i:=by simp at hlen;omega
 have hG:(⟨p.N,I,λ_ _ _ _=>zX,p.IS i g cs (ans++[A])⟩:Env Tryz.prog).G (Go.Conc.served (G (bS.atR a (.inRegion Dr [2,3,4,5]::.inBlock 2::qmE [])) p.cs0) (zAQ #[zAN p.c1 p.zo] (.recv zb) 0 (.agg ⟨A.cs⟩) I)) w:=by
  refine qIT (E:=⟨p.N,I,λ_ _ _ _=>zX,p.IS i g cs (ans++[A])⟩) (N:=p.N) (zH _) hA h64 (by have:=hp.hl2;omega) hJ.mine ?_;intro a' w' oa' cap' hA' hs';refine .quiet rfl (λ_=>qyA) (.quiet rfl (λ_=>qoG) (.quiet rfl (λ_=>qMK) ?_));exact qxa hp hK.le hlen hi hA' (JC.next hp.plc hJ hs' (zH _)) rfl λ_ _ h=>h
 refine(qMR se (λc hc=>by rw[hXc _ _ hc];exact hp.plc.l1.2) (λc hc=>by rw[hSc _ _ hc];exact hp.plc.l0.2) (λ_ _ _ _ h=>h) hG h2).trans ?_;rintro m1 T1 ⟨g1,w1,⟨a',oa',cap',hA',hJ',⟨o,ec,ho,hop,h58,h63,rfl⟩|⟨hl,h69,rfl⟩⟩,h3⟩
 .obtain⟨dir,e,ht,hz⟩:=hp.hzo;have h4:=qCO hs0 (X':=p.X (.slice oa' (ans++[A]).length cap')) (Seat.one_wf ..) (λc hc hc'=>hp.plc.d01 ((hSc _ _ hc).symm.trans (hXc _ _ hc'))) (λc hc=>by rw[hXc _ _ hc];exact⟨0,_,hJ'.h1⟩) (λc hc=>by rw[hXc _ _ hc];exact hp.plc.l1.2) h3;refine(qFU hs0 (z:=p.zi) (v:=.agg ⟨ec⟩) (c:=p.c0) rfl rfl (λd=>(qLS rfl (by simp[bS]) h58 h63 _).1) (by rw[(qLS rfl (by simp[bS]) h58 h63 w1).2];exact qYE (qsY rfl (by simp[bS]) hA' qTd ht hz)) h4).mono ?_;rintro m2 T2 ⟨g₂,d,k,cap2,⟨a2,hM,rfl⟩,hc,h5⟩;have hc':=hJ'.h0;rw[hc]at hc';simp only[zAh,Obj.chan.injEq]at hc';obtain⟨rfl,_,_,rfl,_⟩:=hc';exact .inl ⟨s,a2,_,vg,ec,o,g,cs,W,ans++[A],oa',cap',hs0,ho,hM,(hJ'.at d).Jm hp.plc _,hK,hop,h5⟩
 .exact .now (.inr ⟨s,a',w1,vg,g,cs,W,ans++[A],oa',cap',hs0,hl,hA',h69,hJ',hK,_,h3⟩)
def qjP{p:SP}(q:p.ok):∀(n i:Z){m:Machine}{u:zDC},i+n+1=p.l.length->p.Gp i m u->Go.Duo.Comes Tryz.prog m u (p.IV p.l.length)
 |n,i,m,u,E,B=>by
  refine(q8W q B).trans λH L C=>(qbV q sa C).trans λP Q h=>?_;rcases h with h|h
  .cases n with
   |zero=>
    obtain⟨_,_,_,_,_,o,_,_,_,_,_,_,_,D,_⟩:=h;have:=(ze.1 D).1;omega
   |succ n=>exact qjP q n (i+1) sa h
  .have A:p.l.length=i+1:=by obtain⟨_,_,_,_,_,_,_,_,_,_,_,A,_⟩:=h;exact A
   rw[A];exact .now h
noncomputable def quH:zDE:=qQN (Gk (tlC qEC))
end Go.Proofs.YtlmhpamhhgogaaaGreat
namespace Go.Proofs.YtlmhpamhhgogaaaGreat
open Go.Conc (G born parked rcase rcaseNil scase AtIn Sits Seat)
open Go.Proofs.YtlmhpamhhgogaaaGreat.Sx Go.Duo Go.RowKit
structure MQ(va:zg)(b7 b12 c1 c2:Z)(live:zO)(a:zDz):Prop where
 size:a.tmps.size=88
 t7:a.tmps[7]?=O (.pointer (O ⟨b7,0,zc⟩))
 t12:a.tmps[12]?=O (.pointer (O ⟨b12,0,zc⟩))
 t14:a.tmps[14]?=O (.chan (if live then O c1 else zc))
 t15:a.tmps[15]?=O (.chan (O c2))
 t16:a.tmps[16]?=O va
 defers:a.defers=[]
section
variable{va:zg}{b7 b12 c1 c2:Z}{live:zO}{a:zDz}
def MQ.put(h:MQ va b7 b12 c1 c2 live a){d}(hd:d≠7/\d≠12/\d≠14/\d≠15/\d≠16)(v):MQ va b7 b12 c1 c2 live (a.put (O d) v):=
 ⟨by simp[zBf,h.size],by rw[qHA hd.1];exact h.t7,by rw[qHA hd.2.1];exact h.t12,by rw[qHA hd.2.2.1];exact h.t14,by rw[qHA hd.2.2.2.1];exact h.t15,by rw[qHA hd.2.2.2.2];exact h.t16,h.defers⟩
def MQ.get(h:MQ va b7 b12 c1 c2 live a){d}(hd:d<88)(v):(a.put (O d) v).tmps[d]?=O v:=qKE (by rw[h.size];exact hd)
end
noncomputable def qVM:zDE:=Gk quH
noncomputable def qlJ:zS zDA:=F6 (hdC (tlC qVM))
noncomputable def qJP:zDE:=tlC (tlC qVM)
noncomputable def qKK:F Item:=[.inLoop quH,.inBlock 3]
noncomputable def ET(cs0:F zAm)(a:zDz):zE:=G (bS.atR a (.inRegion qlJ [0,1,2,3]::.code qJP::.inBlock 4::qKK)) cs0
def ZT(t:Z)(z:zg):Prop:=∀w,(zAW t).run Tryz.prog w=.ok z w/\(zAW t).events Tryz.prog w #[]=#[]
abbrev zAn:zg:=.agg ⟨[.int .i64 0,.int .i64 0,.int .i64 0,.int .i64 0,.int .i64 0,.int .i64 0,.int .i64 0,.int .u64 0,.int .u64 0,.int .u64 0,.int .u64 0,.int .u64 0,.int .u64 0]⟩
def qiW{t}{z}(h:(Tryz.prog.info? t).bind (·.zero)=O z):ZT t z:=by
 obtain⟨i,q,u⟩:=zAC.1 h;exact qER q u
def J1:ZT 44 (.agg zW):=qiW sd
def J0:ZT 55 zAn:=qiW sd
def qkZ{P}{ρ}{o}{x y}{e1 e2}{u A z1 z2}(D:o.op=.select #[{chan:=x,send:=zc,elem:=e1},{chan:=y,send:=zc,elem:=e2}] I)(B:ρ x=u)(C:ρ y=A)(h:∀w,(zAW e1).run P w=.ok z1 w/\(zAW e1).events P w #[]=#[])(q:∀w,(zAW e2).run P w=.ok z2 w/\(zAW e2).events P w #[]=#[])(w):(zx ρ o).run P w=.ok (.comm #[{chan:=u,send:=zc,zero:=z1},{chan:=A,send:=zc,zero:=z2}] I .select) w/\(zx ρ o).events P w #[]=#[]:=by
 unfold zx;simp only[D];constructor
 .simp[go_sem,B,C,zZ,(h w).1,(q w).1,zAk]
 .simp[go_sem,B,C,zZ,(h w).1,(q w).1,(h w).2,(q w).2,zBJ,zAk]
def q9b{cs0}{va}{b7 b12 c1 c2}{live}{a}(h:MQ va b7 b12 c1 c2 live a)(h70:a.tmps[70]?=O (.chan (O c2)))(h71:a.tmps[71]?=O (.chan (if live then O c1 else zc))):GB Tryz.prog c2 c1 (.agg zW) zAn live (ET cs0 a) (ET cs0 a):=by
 refine⟨rfl,rfl,rfl,rfl,λw=>?_⟩;obtain⟨o,ho,hg,hop⟩:∃o,qlJ[0]?=O o/\o.guard=zc/\o.op=.select #[{chan:=.tmp 70,send:=zc,elem:=44},{chan:=.tmp 71,send:=zc,elem:=55}] I:=⟨_,rfl,rfl,rfl⟩;have hr:=λw=>qkZ (P:=Tryz.prog) (ρ:=a.eval) hop (qGA h70) (qGA h71) J1 J0 w;unfold ET;rw[Frame.atR_of_none rfl,Go.Conc.stepG_comm ho (by simp[zAl,hg]) (by simp[bS]) (hr w).1,Go.Conc.listed_none (hr w).2];cases live<;>rfl
end Go.Proofs.YtlmhpamhhgogaaaGreat
namespace Go.Duo
open Go.Conc
open Go.Proofs.YtlmhpamhhgogaaaGreat.Sx
section
variable{P:zv}
inductive FC(P:zv)(main:zO):zE->zE->Prop
 |refl (g:zE):FC P main g g
 |step {g g' g'':zE} (h:Still P main g g') (k:FC P main g' g''):FC P main g g''
def qoU{Q}{g g'}(h:FC P I g g'):(∃n,Cs P Q n g')->∃n,Cs P Q n g:=by
 induction h with
 |refl=>exact id
 |step h _ q=>exact λk=>qpU h (q k)
section
variable{co cl:Z}{Wv zW zA:zg}{Fin:zE->zp->Prop}{got live:zO}
def REc(co cl:Z)(K:zp->Prop):Prop:=∀w h,RE co cl w h->K w->K h
def qWA{K}(u:REc co cl K){g g'}(h:Still P I g g')(k:∀w,K w->ME P co cl Wv zW zA Fin got live g' w):∀w,K w->ME P co cl Wv zW zA Fin got live g w:=λw A=>
 .step h.1 (λ_=>g') id (λ_=>#[]) (λq _=>⟨h.2 q,rfl,rfl,λe B=>by simp at B⟩) λq C=>k q (u w q C A)
def qaV{K}(q:REc co cl K){g g'}(h:FC P I g g'):(∀w,K w->ME P co cl Wv zW zA Fin got live g' w)->∀w,K w->ME P co cl Wv zW zA Fin got live g w:=by
 induction h with
 |refl=>exact id
 |step h _ u=>exact λk=>qWA q h (u k)
def q3X{K K':zp->Prop}(C:REc co cl K){b:zAm}{a:zDz}{k:F Item}{cs:F zAm}{ops:zS zDA}{i:Z}{rest:F Z}{o:zDA}(Q:b.roundOf=zc)(A:ops[i]?=O o)(D:o.guard=zc){v:zg}{nx:Next}(R:nx=.value v\/nx=.skip/\v=zAU)(T:∀w,K w->∃w',(zx a.eval o).run P w=.ok nx w'/\(∀e∈(zx a.eval o).events P w #[],∃x,e.loc=.cell x)/\w'.heap[co]?=w.heap[co]?/\w'.heap[cl]?=w.heap[cl]?/\K' w')(h:∀w,K' w->ME P co cl Wv zW zA Fin got live (G (b.atR (a.put o.dst v) (.inRegion ops rest::k)) cs) w):∀w,K w->ME P co cl Wv zW zA Fin got live (G (b.atR a (.inRegion ops (i::rest)::k)) cs) w:=by
 intro w E
 have U:∀q,∃w',K q->(zx a.eval o).run P q=.ok nx w'/\(∀e∈(zx a.eval o).events P q #[],∃x,e.loc=.cell x)/\w'.heap[co]?=q.heap[co]?/\w'.heap[cl]?=q.heap[cl]?/\K' w':=λq=>by
  by_cases H:K q
  .obtain⟨w',V⟩:=T q H;exact⟨w',λ_=>V⟩
  .exact⟨q,λh=>absurd h H⟩
 obtain⟨W,L⟩:=zCz U;refine .step rfl (λ_=>_) W (λq=>lst P (b.atR a (.inRegion ops (i::rest)::k)) (zx a.eval o) q) (λq B=>?_) λq B=>h _ (L q (C w q B E)).2.2.2.2;obtain⟨e1,e2,e3,e4,_⟩:=L q (C w q B E);refine⟨?_,e3,e4,λe u=>e2 e ?_⟩
 .have hs:o.semAt b.roundOf a.eval=zx a.eval o:=by rw[Q];rfl
  rcases R with rfl|⟨rfl,rfl⟩
  .rw[qzM A (by simp[zAl,D]),hs,qHD e1,zBc,A];rfl
  .rw[qzM A (by simp[zAl,D]),hs,qLJ e1,zBc,A];rfl
 .unfold lst at u;split at u
  .rw[seen_none]at u;simp at u
  .exact mem_seen u
end
end
end Go.Duo
namespace Go.Proofs.YtlmhpamhhgogaaaGreat.Sx
open Go.Duo
def Ck.off{B}{hs}{w w'}(S:Z->Prop)(h:Ck B hs w)(u:∀n,S n->n∉hs.bks/\¬hs.g.g n)(q:w'.heap.size=w.heap.size)(A:∀n,¬S n->w'.heap[n]?=w.heap[n]?):Ck B hs w':=
 ⟨by rw[q];exact h.size,⟨⟨by rw[q];exact h.sim.AJ.1,λn C=>(A n λhs=>(u n hs).2 C).trans (h.sim.AJ.2 n C)⟩,⟨rfl,rfl,rfl,zH _,λ_ _=>rfl⟩,
  λr D=>Res.holds_of (λb E=>A b λhs=>(u b hs).1 (zBM.2 ⟨r,D,E⟩)) (h.sim.res r D),h.sim.nod,h.sim.fre,λ_ _ H=>H,h.sim.own,by rw[q];exact h.sim.low.1,h.sim.low.2⟩,h.lo⟩
def Ck.low{B}{hs}{w}(h:Ck B hs w){n}(q:n<B):n∉hs.bks:=λu=>(h.sim.fre n u).2 q
end Go.Proofs.YtlmhpamhhgogaaaGreat.Sx
namespace Go.Proofs.YtlmhpamhhgogaaaGreat
open Go.Conc (G)
open Go.Proofs.YtlmhpamhhgogaaaGreat.Sx Go.Duo Go.RowKit
section
variable{P:zv}{ρ:Operand->zg}{o:zDA}
def qCJ{n h}{vs}{v}(q:o.op=.extract (.tmp n) h)(u:ρ (.tmp n)=.tuple vs)(A:vs[h]?=O v)(w):(zx ρ o).run P w=.ok (.value v) w/\(zx ρ o).events P w #[]=#[]:=by
 unfold zx;simp only[q,u];constructor<;>simp[Instr.extract,A]
def qcN{n}{x y}{h k2}(q:o.op=.binOp .eql h (.tmp n) (.const (.int .i64 y)) k2)(u:ρ (.tmp n)=.int .i64 x)(A:ρ (.const (.int .i64 y))=.int .i64 y)(w):(zx ρ o).run P w=.ok (.value (.bool (x==y))) w/\(zx ρ o).events P w #[]=#[]:=by
 unfold zx;simp only[q,u,A];constructor<;>simp[go_sem]
def qUV{n}{k}{x}(h:o.op=.unOp .not k (.tmp n))(q:ρ (.tmp n)=.bool x)(w):(zx ρ o).run P w=.ok (.value (.bool (!x))) w/\(zx ρ o).events P w #[]=#[]:=by
 unfold zx;simp only[h,q];constructor<;>simp[go_sem,Op.unary]
def qWa{t}{z}(q:o.op=.alloc t)(h:∀w,(zAW t).run P w=.ok z w/\(zAW t).events P w #[]=#[])(w):(zx ρ o).run P w=.ok (.value (.pointer (O ⟨w.heap.size,0,zc⟩))) (w.alloc (.cells z.cells t))/\(zx ρ o).events P w #[]=#[]:=by
 unfold zx;simp only[q];constructor
 .simp[Instr.alloc,zZ,(h w).1,newVar,newRow,zAk]
 .simp[Instr.alloc,zZ,(h w).1,(h w).2,newVar,newRow,zBJ,zAk]
def qSU{t}{n m b size}{ty}{cs}{vs}(E:o.op=.store t (.tmp n) (.tmp m))(H:ρ (.tmp n)=.pointer (O ⟨b,0,zc⟩))(L:ρ (.tmp m)=.agg ⟨vs⟩)(hs:qYB P t=O size)(h:vs.length=size)(Q:cs.length=size)(u:∀v∈vs,v.oneCell'=I){w}(A:w.heap[b]?=O (.cells ⟨cs⟩ ty (0,0))):∃w',(zx ρ o).run P w=.ok .skip w'/\(∀e∈(zx ρ o).events P w #[],∃x,e.loc=.cell x)/\w'.heap[b]?=O (.cells ⟨vs⟩ ty (0,0))/\w'.heap.size=w.heap.size/\(∀k,k≠b->w'.heap[k]?=w.heap[k]?)/\w'.os=w.os/\w'.tape=w.tape/\w'.output=w.output:=by
 obtain⟨w',B,R,T,U,V,W,Y⟩:=qzB (P:=P) vs 0 0 w cs A sf u;have aa:(Instr.storeAt t (.pointer (O ⟨b,0,zc⟩)) (.agg ⟨vs⟩)).run P w=.ok () w':=qIE hs (by simp[Value.cells,h]) (by simpa[Value.cells]using B);have C:zx ρ o=(do Instr.storeAt t (.pointer (O ⟨b,0,zc⟩)) (.agg ⟨vs⟩);pure .skip):=by unfold zx;simp only[E,H,L]
 refine⟨w',by rw[C,zZ,aa];rfl,λe D=>?_,by rw[R];simp[Q,h],T,U,V,W,Y⟩;have ab:(sizeOf t).events P w #[]=#[]:=by simp[sizeOf,typeInfo];split<;>simp
 have ac:(zx ρ o).events P w #[]=(storeCells ⟨b,0,zc⟩ vs 0).events P w #[]:=by
  rw[C];simp[Instr.storeAt,Instr.sureAddr,storeVar,Sem.events_bind,q1A hs,ab,zBJ,Value.cells,h,B]
 rw[ac]at D;rcases events_storeCells_at (P:=P) b 0 ty vs 0 ⟨cs⟩ w #[] A sf u e D with q|⟨x,q,_⟩
 .simp at q
 .exact⟨x,q⟩
def qia{n t size}{b}{ty}{ec}{w}(C:o.op=.load t (.tmp n))(D:ρ (.tmp n)=.pointer (O ⟨b,0,zc⟩))(hs:qYB P t=O size)(q:BT P t=O I)(E:ec.length=size)(H:w.heap[b]?=O (.cells ⟨ec⟩ ty (0,0))):(zx ρ o).run P w=.ok (.value (.agg ⟨ec⟩)) w/\∀e∈(zx ρ o).events P w #[],∃x,e.loc=.cell x:=by
 have u:∀j h,ec[j]?=O h->w.cell? ((⟨b,0,zc⟩:zAI).add j)=O h:=λj h L=>by
  rw[qoA,zAr,qJB H];simpa using L
 have e:zx ρ o=(do pure (.value (<-zBq t (.pointer (O ⟨b,0,zc⟩))))):=by unfold zx;simp only[C,D]
 have A:(zBq t (.pointer (O ⟨b,0,zc⟩))).run P w=.ok (.agg ⟨ec⟩) w:=by
  simp[zBq,Instr.sureAddr,(quB hs q (w:=w) (a:=⟨b,0,zc⟩)).2 ec rfl E u]
 rw[e];refine⟨by rw[zZ,A];rfl,λev B=>?_⟩
 have Q:(do pure (Next.value (<-zBq t (.pointer (O ⟨b,0,zc⟩)))):Sem Next).events P w #[]=(zBq t (.pointer (O ⟨b,0,zc⟩))).events P w #[]:=by
  simp[Sem.events_bind,A,zBJ]
 rw[Q]at B
 obtain⟨R,T,_⟩:=qeV hs q (λj U=>by
  have:ec[j]?=O ec[j]:=zAa sa
  rw[u j _ this];rfl) ev B
 exact⟨R,T⟩
end
end Go.Proofs.YtlmhpamhhgogaaaGreat
namespace Go.Proofs.YtlmhpamhhgogaaaGreat
open Go.Conc (G rcase rcaseNil)
open Go.Proofs.YtlmhpamhhgogaaaGreat.Sx Go.Duo Go.RowKit
structure Pl2(n0 N c1 c2 b7 b12:Z):Prop where
 l1:n0<=c1/\c1<N
 l2:n0<=c2/\c2<N
 l7:n0<=b7/\b7<N
 l12:n0<=b12/\b12<N
 d12:c1≠c2
 d:b7≠b12
 e1:b7≠c1
 e2:b7≠c2
 e3:b12≠c1
 e4:b12≠c2
structure JQ(w0:zp)(N c1 c2 b7 b12:Z)(x12:F zg)(hs:Hs)(w:zp):Prop where
 mine:Ck N hs w
 below:Below w0.heap.size w0 w
 m7:w.heap[b7]?=O (.cells zW 44 (0,0))
 m12:w.heap[b12]?=O (.cells ⟨x12⟩ 44 (0,0))
 ng:¬hs.g.g c1/\¬hs.g.g c2/\¬hs.g.g b7/\¬hs.g.g b12
section
variable{w0 w w':zp}{N c1 c2 b7 b12:Z}{x12 y12:F zg}{hs:Hs}
def JQ.off(S:Z->Prop)(h:JQ w0 N c1 c2 b7 b12 x12 hs w)(A:∀n,S n->w0.heap.size<=n/\n∉hs.bks/\¬hs.g.g n)(B:w'.heap.size=w.heap.size)(q:∀n,¬S n->w'.heap[n]?=w.heap[n]?)(C:w'.os=w.os)(D:w'.tape=w.tape)(E:w'.output=w.output)(H:¬S b7)(L:w'.heap[b12]?=O (.cells ⟨y12⟩ 44 (0,0))):JQ w0 N c1 c2 b7 b12 y12 hs w':=
 ⟨h.mine.off S (λn u=>(A n u).2) B q,⟨C.trans h.below.os,D.trans h.below.tape,E.trans h.below.output,by rw[B];exact h.below.size,λn u=>(q n λhs=>by have:=(A n hs).1;omega).trans (h.below.block n u)⟩,(q b7 H).trans h.m7,L,h.ng⟩
def JQ.re(h:Pl2 w0.heap.size N c1 c2 b7 b12):REc c1 c2 (JQ w0 N c1 c2 b7 b12 x12 hs):=λw B q u=>
 u.off (λn=>n=c1\/n=c2) (λn A=>by
  rcases A with rfl|rfl
  .exact⟨h.l1.1,u.mine.low h.l1.2,u.ng.1⟩
  .exact⟨h.l2.1,u.mine.low h.l2.2,u.ng.2.1⟩) q.size (λn A=>q.heap n (λe=>A (.inl e)) (λe=>A (.inr e))) q.os q.tape q.output (λA=>A.elim h.e1 h.e2) ((q.heap _ h.e3 h.e4).trans u.m12)
def JQ.new(h:JQ w0 N c1 c2 b7 b12 x12 hs w)(o):JQ w0 N c1 c2 b7 b12 x12 hs (w.alloc o):=by
 have q:=Below.AT w o;exact⟨.of (h.mine.sim.agree q) (zY h.mine.size q.size) h.mine.lo,h.below.alloc h.below.size o,(Go.Duo.heap_alloc_old h.m7).trans h.m7,(Go.Duo.heap_alloc_old h.m12).trans h.m12,h.ng⟩
structure JB(w0:zp)(N c1 c2 b7 b12:Z)(x12:F zg)(hs:Hs)(b:Z)(ty:zAw)(c:F zg)(w:zp):Prop where
 jq:JQ w0 N c1 c2 b7 b12 x12 hs w
 mb:w.heap[b]?=O (.cells ⟨c⟩ ty (0,0))
structure New(N:Z)(hs:Hs)(b:Z):Prop where
 le:N<=b
 nb:b∉hs.bks
 ng:¬hs.g.g b
variable{b:Z}{ty:zAw}{c c':F zg}
def JQ.fresh(h:JQ w0 N c1 c2 b7 b12 x12 hs w):New N hs w.heap.size:=
 ⟨h.mine.size,λq=>Nat.lt_irrefl _ (h.mine.sim.lt q),λu=>by have:=hs.g.wf _ u;have:=h.mine.sim.AJ.1;omega⟩
def JB.re(h:Pl2 w0.heap.size N c1 c2 b7 b12)(q:New N hs b):REc c1 c2 (JB w0 N c1 c2 b7 b12 x12 hs b ty c):=λw B u A=>
 ⟨JQ.re h w B u A.jq,(u.heap b (λe=>by have:=q.le;have:=h.l1;omega) (λe=>by have:=q.le;have:=h.l2;omega)).trans A.mb⟩
def JB.sto(u:Pl2 w0.heap.size N c1 c2 b7 b12)(q:New N hs b)(h:JB w0 N c1 c2 b7 b12 x12 hs b ty c w)(B:w'.heap[b]?=O (.cells ⟨c'⟩ ty (0,0)))(C:w'.heap.size=w.heap.size)(A:∀k,k≠b->w'.heap[k]?=w.heap[k]?)(D:w'.os=w.os)(E:w'.tape=w.tape)(H:w'.output=w.output):JB w0 N c1 c2 b7 b12 x12 hs b ty c' w':=
 ⟨h.jq.off (·=b) (λn e=>by subst e;exact⟨by have:=q.le;have:=u.l1;omega,q.nb,q.ng⟩) C A D E H (λe=>by have:=q.le;have:=u.l7;omega) ((A _ λe=>by have:=q.le;have:=u.l12;omega).trans h.jq.m12),B⟩
def JB.Kx(q:Pl2 w0.heap.size N c1 c2 b7 b12)(h:JB w0 N c1 c2 b7 b12 x12 hs b ty c w)(u:w'.heap[b12]?=O (.cells ⟨y12⟩ 44 (0,0)))(A:w'.heap.size=w.heap.size)(B:∀k,k≠b12->w'.heap[k]?=w.heap[k]?)(C:w'.os=w.os)(D:w'.tape=w.tape)(E:w'.output=w.output):JQ w0 N c1 c2 b7 b12 y12 hs w':=
 h.jq.off (·=b12) (λn e=>by subst e;exact⟨q.l12.1,h.jq.mine.low q.l12.2,h.jq.ng.2.2.2⟩) A B C D E q.d u
end
section
variable{w0:zp}{N c1 c2 b7 b12:Z}{x12 csW:F zg}{hs:Hs}{va:zg}{live:zO}{a:zDz}{cs0:F zAm}{Fin:zE->zp->Prop}
def qAN(a)(v):Go.Conc.served (ET cs0 a) v=G (bS.atR (a.put (O 72) v) (.inRegion qlJ [1,2,3]::.code qJP::.inBlock 4::qKK)) cs0:=by
 have:=zBc bS a qlJ 0 [1,2,3] (.code qJP::.inBlock 4::qKK) v;exact zI (λf=>G f cs0) this
def EG{co cl:Z}{Wv zw za:zg}{got live:zO}{K:zp->Prop}(q:REc co cl K){b:zAm}{a:zDz}{k:F Item}{cs:F zAm}{ops:zS zDA}{i:Z}{rest:F Z}{o:zDA}(u:b.roundOf=zc){d:Z}{v:zg}(A:ops[i]?=O o)(B:o.guard=zc)(hd:o.dst=O d)(C:∀w,(zx a.eval o).run Tryz.prog w=.ok (.value v) w/\(zx a.eval o).events Tryz.prog w #[]=#[])(h:∀w,K w->ME Tryz.prog co cl Wv zw za Fin got live (G (b.atR (a.put (O d) v) (.inRegion ops rest::k)) cs) w):∀w,K w->ME Tryz.prog co cl Wv zw za Fin got live (G (b.atR a (.inRegion ops (i::rest)::k)) cs) w:=by
 refine qWA q (qKO u A B C) ?_;rw[hd];exact h
def q6I{o}{ρ}{x}{v}(q:o.op=.move x\/o.op=.assign x)(u:ρ x=v)(w):(zx ρ o).run Tryz.prog w=.ok (.value v) w/\(zx ρ o).events Tryz.prog w #[]=#[]:=by
 subst u;rcases q with h|h<;>exact⟨by simp[zx,h],by simp[zx,h]⟩
def qsZ(u:Pl2 w0.heap.size N c1 c2 b7 b12)(n):REc c1 c2 (λw=>JQ w0 N c1 c2 b7 b12 x12 hs w/\w.heap.size=n):=λw A h q=>⟨JQ.re u w A h q.1,h.size.trans q.2⟩
section
variable{got:zO}{Wv zw za:zg}{b:zAm}{k:F Item}{cs:F zAm}{ops:zS zDA}{i:Z}{rest:F Z}{o:zDA}
def q8Y(u:Pl2 w0.heap.size N c1 c2 b7 b12)(E:b.roundOf=zc){d t}{z}(H:ops[i]?=O o)(L:o.guard=zc)(hd:o.dst=O d)(Q:o.op=.alloc t)(R:ZT t (.agg ⟨z⟩))(h:∀x,New N hs x->∀w,JB w0 N c1 c2 b7 b12 x12 hs x t z w->ME Tryz.prog c1 c2 Wv zw za Fin got live (G (b.atR (a.put (O d) (.pointer (O ⟨x,0,zc⟩))) (.inRegion ops rest::k)) cs) w):∀w,JQ w0 N c1 c2 b7 b12 x12 hs w->ME Tryz.prog c1 c2 Wv zw za Fin got live (G (b.atR a (.inRegion ops (i::rest)::k)) cs) w:=by
 intro w B;refine q3X (K':=JB w0 N c1 c2 b7 b12 x12 hs w.heap.size t z) (qsZ u w.heap.size) E H L (v:=.pointer (O ⟨w.heap.size,0,zc⟩)) (.inl rfl) (λw1 q=>?_) (by rw[hd];exact h _ B.fresh) w ⟨B,rfl⟩;have A:=qWa (P:=Tryz.prog) (ρ:=a.eval) Q R w1;have C:=(Below.AT w1 (.cells (Value.agg ⟨z⟩).cells t)).block;rw[q.2]at A;have T:=q.2▸q.1.mine.size;have U:=u.l1;have V:=u.l2;refine⟨_,A.1,λe D=>by rw[A.2]at D;simp at D,C _ sa,C _ sa,q.1.new _,?_⟩;rw[<-q.2];exact World.alloc_heap_new w1 _
def qFd(A:Pl2 w0.heap.size N c1 c2 b7 b12)(B:b.roundOf=zc){d t n x size}{ty}{c}(C:New N hs x)(D:ops[i]?=O o)(E:o.guard=zc)(hd:o.dst=O d)(H:o.op=.load t (.tmp n))(L:a.tmps[n]?=O (.pointer (O ⟨x,0,zc⟩)))(q:qYB Tryz.prog t=O size/\BT Tryz.prog t=O I)(Q:c.length=size)(h:∀w,JB w0 N c1 c2 b7 b12 x12 hs x ty c w->ME Tryz.prog c1 c2 Wv zw za Fin got live (G (b.atR (a.put (O d) (.agg ⟨c⟩)) (.inRegion ops rest::k)) cs) w):∀w,JB w0 N c1 c2 b7 b12 x12 hs x ty c w->ME Tryz.prog c1 c2 Wv zw za Fin got live (G (b.atR a (.inRegion ops (i::rest)::k)) cs) w:=
 q3X (JB.re A C) B D E (v:=.agg ⟨c⟩) (.inl rfl) (λw u=>by
  obtain⟨R,T⟩:=qia (P:=Tryz.prog) H (qGA L) q.1 q.2 Q u.mb
  exact⟨w,R,T,rfl,rfl,u⟩) (by rw[hd];exact h)
def q7Y(u:Pl2 w0.heap.size N c1 c2 b7 b12)(D:b.roundOf=zc){t n m x size}{ty}{c q}(A:New N hs x)(E:ops[i]?=O o)(H:o.guard=zc)(hd:o.dst=zc)(L:o.op=.store t (.tmp n) (.tmp m))(Q:a.tmps[n]?=O (.pointer (O ⟨x,0,zc⟩)))(hm:a.tmps[m]?=O (.agg ⟨q⟩))(R:qYB Tryz.prog t=O size)(T:q.length=size)(U:c.length=size)(V:∀v∈q,v.oneCell'=I)(h:∀w,JB w0 N c1 c2 b7 b12 x12 hs x ty q w->ME Tryz.prog c1 c2 Wv zw za Fin got live (G (b.atR a (.inRegion ops rest::k)) cs) w):∀w,JB w0 N c1 c2 b7 b12 x12 hs x ty c w->ME Tryz.prog c1 c2 Wv zw za Fin got live (G (b.atR a (.inRegion ops (i::rest)::k)) cs) w:=
 q3X (K':=JB w0 N c1 c2 b7 b12 x12 hs x ty q) (JB.re u A) D E H (v:=zAU) (.inr ⟨rfl,rfl⟩) (λw C=>by
  obtain⟨W,e1,e2,e3,e4,B,Y,aa,ab⟩:=qSU (P:=Tryz.prog) L (qGA Q) (qGA hm) R T U V C.mb;have:=A.le;have:=u.l1;have:=u.l2
  exact⟨W,e1,e2,B _ sa,B _ sa,C.sto u A e3 e4 B Y aa ab⟩) (by rw[hd];exact h)
def q2X(u:Pl2 w0.heap.size N c1 c2 b7 b12)(C:b.roundOf=zc){t n m x size}{ty}{c q}(D:New N hs x)(E:ops[i]?=O o)(H:o.guard=zc)(hd:o.dst=zc)(L:o.op=.store t (.tmp n) (.tmp m))(Q:a.tmps[n]?=O (.pointer (O ⟨b12,0,zc⟩)))(hm:a.tmps[m]?=O (.agg ⟨q⟩))(R:qYB Tryz.prog t=O size)(T:q.length=size)(U:x12.length=size)(V:∀v∈q,v.oneCell'=I)(h:∀w,JQ w0 N c1 c2 b7 b12 q hs w->ME Tryz.prog c1 c2 Wv zw za Fin got live (G (b.atR a (.inRegion ops rest::k)) cs) w):∀w,JB w0 N c1 c2 b7 b12 x12 hs x ty c w->ME Tryz.prog c1 c2 Wv zw za Fin got live (G (b.atR a (.inRegion ops (i::rest)::k)) cs) w:=
 q3X (K':=JQ w0 N c1 c2 b7 b12 q hs) (JB.re u D) C E H (v:=zAU) (.inr ⟨rfl,rfl⟩) (λw B=>by
  obtain⟨W,e1,e2,e3,e4,A,Y,aa,ab⟩:=qSU (P:=Tryz.prog) L (qGA Q) (qGA hm) R T U V B.jq.m12
  exact⟨W,e1,e2,A _ u.e3.symm,A _ u.e4.symm,B.Kx u e3 e4 A Y aa ab⟩) (by rw[hd];exact h)
end
def Iv:qYB Tryz.prog 44=O 8/\BT Tryz.prog 44=O I:=⟨sd,sd⟩
def qyY(C:Pl2 w0.heap.size N c1 c2 b7 b12)(ac:MQ va b7 b12 c1 c2 live a)(L:csW.length=8)(aq:x12.length=8)(ad:∀v∈csW,v.oneCell'=I)(got)(h:∀a',MQ va b7 b12 c1 c2 live a'->∀w,JQ w0 N c1 c2 b7 b12 csW hs w->ME Tryz.prog c1 c2 (.agg ⟨csW⟩) (.agg zW) zAn Fin got live (G (bS.atR a' (.code quH::qKK)) cs0) w):∀w,JQ w0 N c1 c2 b7 b12 x12 hs w->ME Tryz.prog c1 c2 (.agg ⟨csW⟩) (.agg zW) zAn Fin got live (Go.Conc.served (ET cs0 a) (.tuple #[.int .i64 0,.bool I,.agg ⟨csW⟩,zAn])) w:=by
 have A:=JQ.re (x12:=x12) (hs:=hs) C;have q:bS.roundOf=zc:=rfl;rw[qAN];have E:=ac.put (d:=72) sb (.tuple #[.int .i64 0,.bool I,.agg ⟨csW⟩,zAn]);have P:=ac.get (d:=72) sb (.tuple #[.int .i64 0,.bool I,.agg ⟨csW⟩,zAn]);generalize a.put (O 72) (.tuple #[.int .i64 0,.bool I,.agg ⟨csW⟩,zAn])=ae at E P;have af:=E.put (d:=73) sb (.int .i64 0);have ar:=af.put (d:=74) sb (.bool I);have Q:=ar.put (d:=75) sb (.bool zb);obtain⟨aC,g1,au,d1,av⟩:∃o,qlJ[1]?=O o/\o.guard=zc/\o.dst=O 73/\o.op=.extract (.tmp 72) 0:=⟨_,rfl,rfl,rfl,rfl⟩;obtain⟨aD,g2,aw,d2,ax⟩:∃o,qlJ[2]?=O o/\o.guard=zc/\o.dst=O 74/\o.op=.binOp .eql 3 (.tmp 73) (.const (.int .i64 0)) 3:=⟨_,rfl,rfl,rfl,rfl⟩;obtain⟨aE,g3,ay,d3,az⟩:∃o,qlJ[3]?=O o/\o.guard=zc/\o.dst=O 75/\o.op=.binOp .eql 3 (.tmp 73) (.const (.int .i64 1)) 3:=⟨_,rfl,rfl,rfl,rfl⟩;refine EG A q g1 au d1 (v:=.int .i64 0) (qCJ av (qGA P) rfl) ?_;refine EG A q g2 aw d2 (v:=.bool I) (qcN ax (qGA (E.get sb _)) rfl) ?_;refine EG A q g3 ay d3 (v:=.bool zb) (qcN (x:=0) az (qGA (by rw[qHA sb];exact E.get sb _)) rfl) ?_;refine qWA A qMA ?_;unfold qJP qVM quH qEC qwB qbE qZJ qkN Tryz.f8;simp only[zAG,tlC,qQN,Gk,hdC];refine qWA A qIF (qWA A (qeH (t:=I) (by rw[qHA sb];exact af.get sb _)) ?_);have R:(((ae.put (O 73) (.int .i64 0)).put (O 74) (.bool I)).put (O 75) (.bool zb)).tmps[72]?=O (.tuple #[.int .i64 0,.bool I,.agg ⟨csW⟩,zAn]):=by rw[qHA sb,qHA sb,qHA sb];exact P
 generalize((ae.put (O 73) (.int .i64 0)).put (O 74) (.bool I)).put (O 75) (.bool zb)=ag at Q R;refine qWA A qBC (qWA A AR ?_);refine EG A q (d:=76) (v:=.agg ⟨csW⟩) (by rfl) rfl rfl (qCJ rfl (qGA R) rfl) ?_;have ah:=Q.put (d:=76) sb (.agg ⟨csW⟩);refine EG A q (d:=77) (v:=.bool I) (by rfl) rfl rfl (qCJ rfl (qGA (by rw[qHA sb];exact R)) rfl) ?_;have T:=ah.put (d:=77) sb (.bool I);have ai:((ag.put (O 76) (.agg ⟨csW⟩)).put (O 77) (.bool I)).tmps[76]?=O (.agg ⟨csW⟩):=by rw[qHA sb];exact Q.get sb _
 have aj:=ah.get (d:=77) sb (.bool I);generalize(ag.put (O 76) (.agg ⟨csW⟩)).put (O 77) (.bool I)=U at T ai aj;refine q8Y C q (d:=17) (by rfl) rfl rfl rfl J1 λD H=>?_;have V:=T.put (d:=17) sb (.pointer (O ⟨D,0,zc⟩));have B:=λc=>JB.re (x12:=x12) (ty:=44) (c:=c) C H;have W:=T.get (d:=17) sb (.pointer (O ⟨D,0,zc⟩));have ak:(U.put (O 17) (.pointer (O ⟨D,0,zc⟩))).tmps[76]?=O (.agg ⟨csW⟩):=by rw[qHA sb];exact ai
 have al:(U.put (O 17) (.pointer (O ⟨D,0,zc⟩))).tmps[77]?=O (.bool I):=by rw[qHA sb];exact aj
 generalize U.put (O 17) (.pointer (O ⟨D,0,zc⟩))=am at V W ak al;refine q7Y C q H (by rfl) rfl rfl rfl W ak Iv.1 L rfl ad ?_;refine EG (B csW) q (d:=18) (v:=.bool I) (by rfl) rfl rfl (q6I (.inr rfl) (qGA al)) ?_;have Y:=V.put (d:=18) sb (.bool I);have aa:=V.get (d:=18) sb (.bool I);have an:(am.put (O 18) (.bool I)).tmps[17]?=O (.pointer (O ⟨D,0,zc⟩)):=by rw[qHA sb];exact W
 generalize am.put (O 18) (.bool I)=aF at Y aa an;refine qWA (B csW) qMA (qWA (B csW) qBC (qWA (B csW) qBC (qWA (B csW) AR ?_)));refine EG (B csW) q (d:=78) (v:=.bool I) (by rfl) rfl rfl (q6I (.inl rfl) (qGA aa)) ?_;have ao:=Y.put (d:=78) sb (.bool I);have aA:=Y.get (d:=78) sb (.bool I);refine qWA (B csW) qMA (qWA (B csW) (qeH (t:=I) aA) (qWA (B csW) AR ?_));refine qFd C q H (d:=79) (by rfl) rfl rfl rfl (by rw[qHA sb];exact an) Iv L ?_;have ab:=ao.put (d:=79) sb (.agg ⟨csW⟩);refine q2X C q H (by rfl) rfl rfl rfl ab.t12 (ao.get sb _) Iv.1 L aq ad ?_;have u:=JQ.re (x12:=csW) (hs:=hs) C;refine qWA u qMA (qWA u qBC (qWA u AR ?_));refine EG u q (d:=80) (v:=.bool I) (by rfl) rfl rfl (q6I (.inl rfl) (qGA (by rw[qHA sb,qHA sb];exact aa))) ?_;have ap:=ab.put (d:=80) sb (.bool I);refine EG u q (d:=81) (v:=.bool zb) (by rfl) rfl rfl (qUV (x:=I) rfl (qGA (ab.get sb _))) ?_;have aB:=ap.put (d:=81) sb (.bool zb);refine qWA u qMA (qWA u (qeH (t:=zb) (ap.get sb _)) (qWA u qVU (qWA u qnE (qWA u qnE (qWA u qTK ?_)))));exact h _ aB
end
section
variable{w0:zp}{N c1 c2 b7 b12:Z}{x12:F zg}{hs:Hs}{va Wv:zg}{live:zO}{a:zDz}{cs0:F zAm}{Fin:zE->zp->Prop}
def MQ.off(h:MQ va b7 b12 c1 c2 live a):MQ va b7 b12 c1 c2 zb (a.put (O 14) (.chan zc)):=
 ⟨by simp[zBf,h.size],by rw[qHA sb];exact h.t7,by rw[qHA sb];exact h.t12,qKE (by rw[h.size];decide),by rw[qHA sb];exact h.t15,by rw[qHA sb];exact h.t16,h.defers⟩
def LG:qYB Tryz.prog 55=O 13/\BT Tryz.prog 55=O I:=⟨sd,sd⟩
def qxY(C:Pl2 w0.heap.size N c1 c2 b7 b12)(T:MQ va b7 b12 c1 c2 live a)(got)(h:∀a',MQ va b7 b12 c1 c2 zb a'->∀w,JQ w0 N c1 c2 b7 b12 x12 hs w->ME Tryz.prog c1 c2 Wv (.agg zW) zAn Fin got zb (G (bS.atR a' (.code quH::qKK)) cs0) w):∀w,JQ w0 N c1 c2 b7 b12 x12 hs w->ME Tryz.prog c1 c2 Wv (.agg zW) zAn Fin got zb (Go.Conc.served (ET cs0 a) (.tuple #[.int .i64 1,.bool zb,.agg zW,zAn])) w:=by
 have u:=JQ.re (x12:=x12) (hs:=hs) C;have A:bS.roundOf=zc:=rfl;rw[qAN];have D:=T.put (d:=72) sb (.tuple #[.int .i64 1,.bool zb,.agg zW,zAn]);have E:=T.get (d:=72) sb (.tuple #[.int .i64 1,.bool zb,.agg zW,zAn]);generalize a.put (O 72) (.tuple #[.int .i64 1,.bool zb,.agg zW,zAn])=U at D E;have V:=D.put (d:=73) sb (.int .i64 1);have W:=V.put (d:=74) sb (.bool zb);have H:=W.put (d:=75) sb (.bool I);obtain⟨au,g1,aj,d1,ak⟩:∃o,qlJ[1]?=O o/\o.guard=zc/\o.dst=O 73/\o.op=.extract (.tmp 72) 0:=⟨_,rfl,rfl,rfl,rfl⟩;obtain⟨av,g2,al,d2,am⟩:∃o,qlJ[2]?=O o/\o.guard=zc/\o.dst=O 74/\o.op=.binOp .eql 3 (.tmp 73) (.const (.int .i64 0)) 3:=⟨_,rfl,rfl,rfl,rfl⟩;obtain⟨aw,g3,an,d3,ao⟩:∃o,qlJ[3]?=O o/\o.guard=zc/\o.dst=O 75/\o.op=.binOp .eql 3 (.tmp 73) (.const (.int .i64 1)) 3:=⟨_,rfl,rfl,rfl,rfl⟩;refine EG u A g1 aj d1 (v:=.int .i64 1) (qCJ ak (qGA E) rfl) ?_;refine EG u A g2 al d2 (v:=.bool zb) (qcN (x:=1) am (qGA (D.get sb _)) rfl) ?_;refine EG u A g3 an d3 (v:=.bool I) (qcN (x:=1) ao (qGA (by rw[qHA sb];exact D.get sb _)) rfl) ?_;refine qWA u qMA ?_;unfold qJP qVM quH qEC qwB qbE qZJ qkN Tryz.f8;simp only[zAG,tlC,qQN,Gk,hdC];refine qWA u qIF (qWA u (qeH (t:=zb) (by rw[qHA sb];exact V.get sb _)) (qWA u (qeH (t:=I) (W.get sb _)) ?_));have L:(((U.put (O 73) (.int .i64 1)).put (O 74) (.bool zb)).put (O 75) (.bool I)).tmps[72]?=O (.tuple #[.int .i64 1,.bool zb,.agg zW,zAn]):=by rw[qHA sb,qHA sb,qHA sb];exact E
 generalize((U.put (O 73) (.int .i64 1)).put (O 74) (.bool zb)).put (O 75) (.bool I)=Y at H L;refine qWA u qBC (qWA u AR ?_);refine EG u A (d:=84) (v:=zAn) (by rfl) rfl rfl (qCJ rfl (qGA L) rfl) ?_;have aa:=H.put (d:=84) sb zAn;refine EG u A (d:=85) (v:=.bool zb) (by rfl) rfl rfl (qCJ rfl (qGA (by rw[qHA sb];exact L)) rfl) ?_;have P:=aa.put (d:=85) sb (.bool zb);have ab:((Y.put (O 84) zAn).put (O 85) (.bool zb)).tmps[84]?=O zAn:=by rw[qHA sb];exact H.get sb _
 have ac:=aa.get (d:=85) sb (.bool zb);generalize(Y.put (O 84) zAn).put (O 85) (.bool zb)=Q at P ab ac;refine q8Y C A (d:=19) (by rfl) rfl rfl rfl J0 λB ad=>?_;have R:=P.put (d:=19) sb (.pointer (O ⟨B,0,zc⟩));have q:=λc=>JB.re (x12:=x12) (ty:=55) (c:=c) C ad;have ae:=P.get (d:=19) sb (.pointer (O ⟨B,0,zc⟩));have af:(Q.put (O 19) (.pointer (O ⟨B,0,zc⟩))).tmps[84]?=O zAn:=by rw[qHA sb];exact ab
 have ag:(Q.put (O 19) (.pointer (O ⟨B,0,zc⟩))).tmps[85]?=O (.bool zb):=by rw[qHA sb];exact ac
 generalize Q.put (O 19) (.pointer (O ⟨B,0,zc⟩))=ax at R ae af ag;refine q7Y C A ad (by rfl) rfl rfl rfl ae af LG.1 rfl rfl sb ?_;refine EG (q _) A (d:=20) (v:=.bool zb) (by rfl) rfl rfl (q6I (.inr rfl) (qGA ag)) ?_;have ah:=R.put (d:=20) sb (.bool zb);have ap:=R.get (d:=20) sb (.bool zb);refine qWA (q _) qMA (qWA (q _) qBC (qWA (q _) AR ?_));refine EG (q _) A (d:=86) (v:=.bool zb) (by rfl) rfl rfl (q6I (.inl rfl) (qGA ap)) ?_;have ai:=ah.put (d:=86) sb (.bool zb);refine EG (q _) A (d:=87) (v:=.bool I) (by rfl) rfl rfl (qUV (x:=zb) rfl (qGA (ah.get sb _))) ?_;have aq:=ai.put (d:=87) sb (.bool I);refine qWA (q _) qMA (qWA (q _) (qeH (t:=I) (ai.get sb _)) (qWA (q _) AR ?_));refine EG (q _) A (d:=14) (v:=.chan zc) (by rfl) rfl rfl (q6I (.inr rfl) rfl) ?_;refine qWA (q _) qMA (qWA (q _) qnE (qWA (q _) qnE (qWA (q _) qTK ?_)));exact λw ar=>h _ aq.off w ar.jq
end
end Go.Proofs.YtlmhpamhhgogaaaGreat
namespace Go.Proofs.YtlmhpamhhgogaaaGreat
open Go.Conc (G rcase rcaseNil AtIn Sits Seat closeEvents)
open Go.Proofs.YtlmhpamhhgogaaaGreat.Sx Go.Duo Go.RowKit
section
variable{w0:zp}{N c0 c1 c2 b7 b12:Z}{x12 csW:F zg}{hs:Hs}{va vl:zg}{live:zO}{a:zDz}{cs0:F zAm}
def qDZ(hA:MQ va b7 b12 c1 c2 live a):∃a',MQ va b7 b12 c1 c2 live a'/\a'.tmps[70]?=O (.chan (O c2))/\a'.tmps[71]?=O (.chan (if live then O c1 else zc))/\FC Tryz.prog I (G (bS.atR a (.code quH::qKK)) cs0) (ET cs0 a'):=by
 have A0:=hA.put (d:=70) sb (.chan (O c2));have A1:=A0.put (d:=71) sb (.chan (if live then O c1 else zc));refine⟨_,A1,by rw[qHA sb];exact hA.get sb _,A0.get sb _,?_⟩;unfold ET qJP qlJ qVM quH qEC qwB qbE qZJ qkN Tryz.f8;simp only[zAG,tlC,qQN,Gk,hdC,F6];refine .step qIF (.step qBC (.step qBC (.step AR ?_)));refine .step (qdH rfl (by rfl) rfl (.inl rfl) rfl (qGA hA.t15)) (.step qMA (.step AR ?_));refine .step (qdH rfl (by rfl) rfl (.inl rfl) rfl (qGA A0.t14)) (.step qMA (.step qBC (.step AR ?_)));exact .refl _
def JZ(w0:zp)(N c1 c2 b7 b12:Z)(csW:F zg)(hs:Hs)(va:zg)(cs0:F zAm)(gr:zE)(w:zp):Prop:=
 ∃a live,MQ va b7 b12 c1 c2 live a/\gr=Go.Conc.served (ET cs0 a) (.tuple #[.int .i64 0,.bool zb,.agg zW,zAn])/\JQ w0 N c1 c2 b7 b12 csW hs w
def qqZ(live)(v)(ok):zAQ (Bm c2 c1 (.agg zW) zAn live) .select 0 v ok=.tuple #[.int .i64 0,.bool ok,v,zAn]:=by cases live<;>simp[zAQ,Bm,zAN,rcaseNil,Array.zipIdx,goInt]
def qMc(live)(v)(ok):zAQ (Bm c2 c1 (.agg zW) zAn live) .select 1 v ok=.tuple #[.int .i64 1,.bool ok,.agg zW,v]:=by cases live<;>simp[zAQ,Bm,zAN,rcaseNil,Array.zipIdx,goInt]
abbrev MEq(w0:zp)(N c1 c2 b7 b12:Z)(csW:F zg)(hs:Hs)(va:zg)(cs0:F zAm)(got live:zO):zE->zp->Prop:=ME Tryz.prog c1 c2 (.agg ⟨csW⟩) (.agg zW) zAn (JZ w0 N c1 c2 b7 b12 csW hs va cs0) got live
def qcQ{y}(E:Pl2 w0.heap.size N c1 c2 b7 b12){got}(H:MQ va b7 b12 c1 c2 live a)(L:got=zb->∀a,MQ va b7 b12 c1 c2 live a->∀w,JQ w0 N c1 c2 b7 b12 y hs w->MEq w0 N c1 c2 b7 b12 csW hs va cs0 I live (Go.Conc.served (ET cs0 a) (.tuple #[.int .i64 0,.bool I,.agg ⟨csW⟩,zAn])) w)(h1:live=I->∀a,MQ va b7 b12 c1 c2 live a->∀w,JQ w0 N c1 c2 b7 b12 y hs w->MEq w0 N c1 c2 b7 b12 csW hs va cs0 got zb (Go.Conc.served (ET cs0 a) (.tuple #[.int .i64 1,.bool zb,.agg zW,zAn])) w)(P:got=I->y=csW):∀w,JQ w0 N c1 c2 b7 b12 y hs w->MEq w0 N c1 c2 b7 b12 csW hs va cs0 got live (G (bS.atR a (.code quH::qKK)) cs0) w:=by
 have u:=JQ.re (x12:=y) (hs:=hs) E;obtain⟨B,A,Q,R,T⟩:=qDZ (cs0:=cs0) H;refine qaV u T λw C=>.sel (q9b A Q R) (λD h q=>?_) (λU h q=>?_) (λD h q=>?_)
 .rw[qqZ];exact L D B A h (u w h q C)
 .rw[qMc];exact h1 U B A h (u w h q C)
 .rw[qqZ];have:=u w h q C;rw[P D]at this;exact⟨B,live,A,rfl,this⟩
def qEd(q:Pl2 w0.heap.size N c1 c2 b7 b12)(u:MQ va b7 b12 c1 c2 zb a):∀w,JQ w0 N c1 c2 b7 b12 csW hs w->MEq w0 N c1 c2 b7 b12 csW hs va cs0 I zb (G (bS.atR a (.code quH::qKK)) cs0) w:=
 qcQ q u (λh=>nomatch h) (λh=>nomatch h) λ_=>rfl
def KW(h:Pl2 w0.heap.size N c1 c2 b7 b12)(q:MQ va b7 b12 c1 c2 I a):∀w,JQ w0 N c1 c2 b7 b12 csW hs w->MEq w0 N c1 c2 b7 b12 csW hs va cs0 I I (G (bS.atR a (.code quH::qKK)) cs0) w:=
 qcQ h q (λu=>nomatch u) (λ_ a q=>qxY h q I λB A=>qEd h A) λ_=>rfl
variable(h8:csW.length=8)(h12:x12.length=8)(h1:∀v∈csW,v.oneCell'=I)
include h8 h12 h1
def KX(h:Pl2 w0.heap.size N c1 c2 b7 b12)(q:MQ va b7 b12 c1 c2 zb a):∀w,JQ w0 N c1 c2 b7 b12 x12 hs w->MEq w0 N c1 c2 b7 b12 csW hs va cs0 zb zb (G (bS.atR a (.code quH::qKK)) cs0) w:=
 qcQ h q (λ_ a q=>qyY h q h8 h12 h1 I λB A=>qEd h A) (λu=>nomatch u) λu=>nomatch u
def L2(h:Pl2 w0.heap.size N c1 c2 b7 b12)(u:MQ va b7 b12 c1 c2 I a)(w)(A:JQ w0 N c1 c2 b7 b12 x12 hs w):MEq w0 N c1 c2 b7 b12 csW hs va cs0 I I (Go.Conc.served (ET cs0 a) (zAQ (Bm c2 c1 (.agg zW) zAn I) .select 0 (.agg ⟨csW⟩) I)) w/\MEq w0 N c1 c2 b7 b12 csW hs va cs0 zb zb (Go.Conc.served (ET cs0 a) (zAQ (Bm c2 c1 (.agg zW) zAn I) .select 1 zAn zb)) w:=by
 rw[qqZ,qMc];exact⟨qyY h u h8 h12 h1 I (λB q=>KW h q) w A,qxY h u zb (λB q=>KX h8 h12 h1 h q) w A⟩
end
section
variable{N c0 c1 c2 b7 b12:Z}{va vl:zg}{a:zDz}{cs0:F zAm}
def q8H(va:zg)(b7 b12 c1 c2:Z)(cs0:F zAm):Seat:={cases:=Bm c2 c1 (.agg zW) zAn I,shape:=.select,home:=λg=>∃a,MQ va b7 b12 c1 c2 I a/\g=ET cs0 a}
def qoE{c}(h:(q8H va b7 b12 c1 c2 cs0).has c):c=c2\/c=c1:=by
 obtain⟨k,z,q⟩:=h;rcases k with _|_|k<;>simp[q8H,Bm,zAN]at q<;>omega
def qaR(h:c1≠c2):(q8H va b7 b12 c1 c2 cs0).Wf:=by
 refine⟨λu h=>?_,λk m c z A h1 q=>?_⟩
 .simp only[q8H,Bm,zBA,zAv,zs,zC,zAt]at h;rcases h with rfl|rfl<;>exact⟨_,_,rfl⟩
 .rcases k with _|_|k<;>rcases m with _|_|m<;>simp[q8H,Bm,zAN]at h1 q⊢<;>omega
def BK.mq{q u}(h:BK vl va q u c0 c1 c2 a)(A:q=⟨b7,0,zc⟩)(B:u=⟨b12,0,zc⟩):MQ va b7 b12 c1 c2 I a:=
 ⟨h.size,by rw[h.t7,A],by rw[h.t12,B],h.t14,h.t15,h.t16,h.defers⟩
noncomputable def qCX(cs0:F zAm)(a:zDz):zE:=G (bS.atR a (.inRegion K3 [1]::.code (tlC qEC)::[])) cs0
noncomputable def qBT(cs0:F zAm)(a:zDz):zE:=G (bS.atR a (.inRegion K3 []::.code (tlC qEC)::[])) cs0
def qKd:(Tryz.prog.funcs[8]?).any (·.norace)=zb:=sd
def qJd:(Tryz.prog.funcs[29]?).any (·.norace)=zb:=sd
def qNS(h69:a.tmps[69]?=O (.chan (O c0))){w}{cap k}(hc:w.heap[c0]?=O (.chan cap #[] zb k k zb)):zAD Tryz.prog I (qCX cs0 a) w=.go (qBT cs0 a) (w.setChan c0 cap #[] I k k zb) (zA1 c0):=by
 obtain⟨o,ats,ho,hg,hd,hop⟩:∃o ats,K3[1]?=O o/\o.guard=zc/\o.dst=zc/\o.op=.call {callee:=.builtin .close,args:=#[.tmp 69],argTypes:=ats}:=⟨_,_,rfl,rfl,rfl,rfl⟩;have:=Go.Conc.stepG_close (P:=Tryz.prog) (main:=I) (b:=bS) (a:=a) (kk:=.code (tlC qEC)::[]) (cs:=cs0) (rest:=[]) (w:=w) ho (by simp[zAl,hg]) (by simp[bS]) hop (qGA h69) hc qKd;unfold qCX qBT;rw[Frame.atR_of_none rfl,Frame.atR_of_none rfl,this,hd];rfl
def qMS(a):mayWake Tryz.prog (qCX cs0 a)=I:=by
 unfold qCX;rfl
def qOS(u:MQ va b7 b12 c1 c2 I a):∃n,zDF Tryz.prog I Go.Duo.TrK Go.Duo.NoS 0 (q8H va b7 b12 c1 c2 cs0) n (qBT cs0 a):=by
 obtain⟨h,q,A,B,C⟩:=qDZ (cs0:=cs0) u
 obtain⟨n,D⟩:=qoU (FC.step (g:=qBT cs0 a) (P:=Tryz.prog) qMA (.step (qIF (id:=3) (c:=.loop quH)) (.step (qFQ (c:=quH)) C))) (Q:=λg=>∃E,AtIn Tryz.prog I Go.Duo.TrK Go.Duo.NoS 0 (q8H va b7 b12 c1 c2 cs0) g E)
  ⟨0,ET cs0 h,rfl,rfl,rfl,rfl,⟨h,q,rfl⟩,#[],se,λw _=>(q9b q A B).2.2.2.2 w⟩
 exact⟨n+1,qYE D⟩
end
end Go.Proofs.YtlmhpamhhgogaaaGreat
namespace Go.Proofs.YtlmhpamhhgogaaaGreat
open Go.Conc (G rcase rcaseNil scase AtIn Sits Seat closeEvents QuitsD)
open Go.Proofs.YtlmhpamhhgogaaaGreat.Sx Go.Duo Go.RowKit
noncomputable def qHG:zS zDA:=F6 (tlC q7K)
noncomputable def HB(h:F Deferred)(a:zDz):zE:=G {bV.atR {a with defers:=h} []with mode:=.returning} [BR]
def qrY{u}{a}{d}{c}(hd:∃h t cs,d.target=.builtin .close h t cs)(A:d.args=#[.chan (O c)]){Q}(C:Q (HB u a)):qeW Tryz.prog c Q (HB (d::u) a):=by
 obtain⟨h,t,cs,hd⟩:=hd;refine⟨rfl,rfl,HB u a,rfl,λw cap D s r B=>?_,C⟩;obtain⟨L,R⟩:=d;simp only at hd A;subst hd;subst A;have E:=Go.Conc.seen_eq (P:=Tryz.prog) (fn:=29) (es:=zA1 c) qJd (by intro e q f;simp only[zA1,zAv,zs,zC,zAt]at q;rcases q with rfl|rfl<;>simp)
 have H:(builtin .close h t cs #[.chan (O c)]).run Tryz.prog w=.ok (.value (.tuple #[])) (w.setChan c cap D I s r zb):=by
  simp[builtin,go_sem,run_close_open _ _ B,World.setChan]
 have q:(builtin .close h t cs #[.chan (O c)]).events Tryz.prog w #[]=zA1 c:=by
  simp[builtin,go_sem,events_close_open _ _ B,zA1]
 simp only[HB,G,zAD,unwind,zAM,callDeferred,invoke,zBn,H,q,zBF,bV];simp[E]
def qvZ(a):QuitsD Tryz.prog 2 0 (HB [] a):=by
 have h:Tryz.f29.results=#[]:=rfl;have q:Tryz.prog.funcs[29]?=O Tryz.f29:=Tryz.func29;have u:Tryz.prog.funcs[Tryz.prog.funcs.size]?=zc:=se
 refine .ctl (g':=G BR [BR].tail) rfl (λw=>?_) (.ctl (g':={frame:=BR,callers:=[],status:=.finished,dying:=zc}) rfl (λw=>?_) ⟨rfl,rfl⟩)
 .have A:=results_none h a.tmps Tryz.prog w;have B:=Go.Conc.events_results_none (P:=Tryz.prog) (w:=w) h a.tmps #[];simp[HB,G,zAD,unwind,zAM,bV,q,zBn,A,B,zBF,doReturn,BR,goexitEntry];exact Go.Conc.seen_none _ _
 .simp[G,zAD,unwind,BR,Frame.catches,u,goexitEntry];rfl
def LI{c1 c2}{a}{d1 d2}(q:∃h t cs,d1.target=.builtin .close h t cs)(u:d1.args=#[.chan (O c1)])(A:∃h t cs,d2.target=.builtin .close h t cs)(B:d2.args=#[.chan (O c2)])(hd:a.defers=[d1,d2]):SV Tryz.prog c1 c2 0 2 zb 2 (G (bV.atR a (.inRegion qHG []::[])) [BR]):=by
 refine Quiet.step (n:=1) qMA (Quiet.step (n:=0) (g':=HB [d1,d2] a) ⟨rfl,λw=>?_⟩ ?_)
 .have:=qTR (P:=Tryz.prog) (main:=zb) (a:=a) (cs:=[BR]) (w:=w) (show bV.roundOf=zc from rfl);rw[this];obtain⟨t,C⟩:=a;simp only at hd;subst hd;rfl
 .exact qrY q u (Q:=λg=>Quiet Tryz.prog (qeW Tryz.prog c2 (QuitsD Tryz.prog 2 0)) 0 g) (qrY A B (qvZ a))
end Go.Proofs.YtlmhpamhhgogaaaGreat
namespace Go.Proofs.YtlmhpamhhgogaaaGreat
open Go.Conc (G rcase rcaseNil scase AtIn Sits Seat)
open Go.Proofs.YtlmhpamhhgogaaaGreat.Sx Go.Duo Go.RowKit
def q9W{E:Env Tryz.prog}{N:Z}(hE:E.N<=N){W:Wd}{g:GW}{cs:F zg}{vg zi:zg}{c0 c1 c2 nx:Z}{a:zDz}{w:zp}{rs:F Res}(hW:rWo g cs W)(hA:GA vg c0 c1 c2 N a)(hM:Ck N ⟨g,.blk 0 N 44 (cs.map .v)::rs,nx,N⟩ w)(hK:∀a' w' nx',a'.defers=a.defers->a'.tmps[39]?=O (.chan (O c2))->a'.tmps[40]?=O (.agg ⟨cs⟩)->Ap (frB N w g hM.size) ⟨g,.blk 0 N 44 (cs.map .v)::rs,nx',N⟩ w'->E.G (G (bV.atR a' (.inRegion qHG [2]::[])) [BR]) w'):E.G (Go.Conc.served (Fw a) (.tuple #[zi,.bool zb])) w:=by
 have hfE:(frB N w g hM.size).has E:=q1K hE;obtain⟨d1,d2,hds,hd⟩:=hA.defers
 have hst:Go.Conc.served (Fw a) (.tuple #[zi,.bool zb])=G (bV.atR (a.put (O 16) (.tuple #[zi,.bool zb])) (.inRegion GI [1]::qkL)) [BR]:=by
  have:=zBc bV a GI 0 [1] qkL (.tuple #[zi,.bool zb]);exact zI (λf=>G f [BR]) this
 rw[hst]
 have hA0:Stn 41 (frB N w g hM.size) [d1,d2] [(16,.tup [.v zi,.v (.bool zb)]),(3,.v (.chan (O c2))),(4,.p 0 N 0)] ⟨g,.blk 0 N 44 (cs.map .v)::rs,nx,N⟩ (a.put (O 16) (.tuple #[zi,.bool zb])) w:=by
  refine hM.stn (by simp[zBf,hA.size]) hds λn u hu=>?_;simp only[AS]at hu
  repeat' split at hu
  all_goals first|(cases hu;done)|skip
  all_goals(rename_i hbq;obtain rfl:=zP hbq;obtain rfl:=zn hu)
  .exact qKE (by rw[hA.size];decide)
  .rw[qHA sb];exact hA.t3
  .rw[qHA sb];exact hA.t4
 obtain⟨_,_,_,_,_,rfl,_,hP,hV,hL,hC,hR⟩:=hW;obtain⟨_,_,rfl,_⟩:=id hP;obtain⟨_,_,rfl,_⟩:=id hV;obtain⟨_,_,rfl,_⟩:=id hL;obtain⟨_,_,rfl,_⟩:=id hC;obtain⟨_,_,rfl,_⟩:=id hR;refine qZB (τ:=[1]) (rest:=[]) hfE ((qZA E).snd _ hfE) sj hA0 (K:=λsl' hs'=>∀a' w',Stn 41 (frB N w g hM.size) [d1,d2] sl' hs' a' w'->E.G (G (bV.atR a' (.inRegion GI []::qkL)) [BR]) w') (zq ?_) (λ_ _ a' w' h h'=>h a' w' h');intros;intro a1 w1 hA1;refine .quiet rfl (λ_=>qyA) ?_;unfold qkL qlN q7K q8K qKP Tryz.f29;simp only[zAG,tlC,qQN,Gk,hdC];refine q0A (qxK zb rfl rfl hA1 (.quiet rfl (λ_=>qBQ (k':=.code (tlC q7K)::[]) (by simp[exitTo];rfl)) ?_));refine .quiet (g':=G (bV.atR a1 (.inRegion qHG [0,1,2]::[])) [BR]) rfl (λ_=>qPC) ?_;refine qZB (τ:=[0,1]) (rest:=[2]) hfE ((qZA E).snd _ hfE) sj hA1 (K:=λsl' hs'=>∀a' w',Stn 41 (frB N w g hM.size) [d1,d2] sl' hs' a' w'->E.G (G (bV.atR a' (.inRegion qHG [2]::[])) [BR]) w') (zq ?_) (λ_ _ a' w' h h'=>h a' w' h');intros;intro a2 w2 hA2;have hS:∀(n:Z){u:SV}{v:zg},AS _ n=O u->Ag u=v->a2.tmps[n]?=O v:=λn{u v}h e=>e▸hA2.As n u h;exact hK a2 w2 _ (hA2.defers.trans hds.symm) (hS 39 rfl rfl) (hS 40 rfl rfl) hA2.sim
def qLZ{a}{c2}{v}(h39:a.tmps[39]?=O (.chan (O c2)))(h40:a.tmps[40]?=O v)(w):zAD Tryz.prog zb (G (bV.atR a (.inRegion qHG [2]::[])) [BR]) w=.comm (G (bV.atR a (.inRegion qHG [2]::[])) [BR]) #[scase c2 v (.tuple #[])] I .send w #[]/\Go.Conc.served (G (bV.atR a (.inRegion qHG [2]::[])) [BR]) zAU=G (bV.atR a (.inRegion qHG []::[])) [BR]:=by
 obtain⟨o,ho,hg,hd,hop⟩:∃o,qHG[2]?=O o/\o.guard=zc/\o.dst=zc/\o.op=.send (.tmp 39) (.tmp 40):=⟨_,rfl,rfl,rfl,rfl⟩
 have hr:∀w,(zx a.eval o).run Tryz.prog w=.ok (.comm #[scase c2 v (.tuple #[])] I .send) w/\(zx a.eval o).events Tryz.prog w #[]=#[]:=λw=>by
  have e1:=qGA h39;have e2:=qGA h40;unfold zx;simp[hop,e1,e2,scase]
 have hb:bV.roundOf=zc:=rfl;constructor
 .rw[Frame.atR_of_none hb,Go.Conc.stepG_comm ho (by simp[zAl,hg]) (by simp[bV]) (hr w).1,Go.Conc.listed_none (hr w).2]
 .have:=zBc bV a qHG 2 [] [] zAU;rw[ho]at this;simp only[zCN,hd]at this;exact zI (λf=>G f [BR]) this
end Go.Proofs.YtlmhpamhhgogaaaGreat
namespace Go.Proofs.YtlmhpamhhgogaaaGreat
open Go.Conc (G rcase rcaseNil scase AtIn Sits Seat heap_setChan_ne heap_setChan_self below_setChan closeEvents)
open Go.Proofs.YtlmhpamhhgogaaaGreat.Sx Go.Duo Go.RowKit
structure JD(w0:zp)(N c1 c2 b7 b12:Z)(cs7:F zg)(k1:Z)(hs:Hs)(w:zp):Prop where
 mine:Ck N hs w
 below:Below w0.heap.size w0 w
 h1:w.heap[c1]?=O (.chan 0 #[] zb k1 k1 zb)
 h2:w.heap[c2]?=O (.chan 1 #[] zb 0 0 zb)
 m7:w.heap[b7]?=O (.cells zW 44 (0,0))
 m12:w.heap[b12]?=O (.cells cs7.toArray 44 (0,0))
 ng:¬hs.g.g c1/\¬hs.g.g c2/\¬hs.g.g b7/\¬hs.g.g b12
section
variable{w0 w w':zp}{N c0 c1 c2 b7 b12 k0 k1:Z}{cs7:F zg}{hs hs':Hs}
def JC.shut(q:Plc w0.heap.size N c0 c1 c2 b7 b12)(h:JC w0 N c0 c1 c2 b7 b12 cs7 k0 k1 hs w)(k):JD w0 N c1 c2 b7 b12 cs7 k1 hs (w.setChan c0 0 #[] I k k zb):=by
 have e:∀{n:Z}{x:Obj},w.heap[n]?=O x->c0≠n->(w.setChan c0 0 #[] I k k zb).heap[n]?=O x:=λu A=>(zDB w 0 #[] I k k zb A).trans u;exact⟨h.mine.chan q.l0.2 h.ng.1 ..,below_setChan h.below q.l0.1 ..,e h.h1 q.d01,e h.h2 q.d02,e h.m7 (qSC h.h0 h.m7 se),e h.m12 (qSC h.h0 h.m12 se),h.ng.2⟩
def JD.at(h:JD w0 N c1 c2 b7 b12 cs7 k1 hs w)(d):JD w0 N c1 c2 b7 b12 cs7 k1 hs (w.at d):=
 ⟨h.mine.at d,⟨h.below.os,h.below.tape,h.below.output,h.below.size,h.below.block⟩,h.h1,h.h2,h.m7,h.m12,h.ng⟩
def JD.next(q:Plc w0.heap.size N c0 c1 c2 b7 b12)(h:JD w0 N c1 c2 b7 b12 cs7 k1 hs w)(D:Ap (frB N w hs.g h.mine.size) hs' w')(E:N<=hs'.lo):JD w0 N c1 c2 b7 b12 cs7 k1 hs' w':=by
 obtain⟨H,A,B⟩:=Ck.next D E;have e:∀{n:Z}{x:Obj},w.heap[n]?=O x->n<N->w'.heap[n]?=O x:=λL C=>(A.block _ C).trans L;refine⟨H,⟨A.os.trans h.below.os,A.tape.trans h.below.tape,A.output.trans h.below.output,zY h.below.size A.size,λn C=>(A.block n ?_).trans (h.below.block n C)⟩,e h.h1 q.l1.2,e h.h2 q.l2.2,e h.m7 q.l7.2,e h.m12 q.l12.2,λu=>h.ng.1 (B _ q.l1.2 u),λu=>h.ng.2.1 (B _ q.l2.2 u),λu=>h.ng.2.2.1 (B _ q.l7.2 u),λu=>h.ng.2.2.2 (B _ q.l12.2 u)⟩;have:=q.l0;omega
def JD.jq(h:JD w0 N c1 c2 b7 b12 cs7 k1 hs w):JQ w0 N c1 c2 b7 b12 cs7 hs w:=⟨h.mine,h.below,h.m7,h.m12,h.ng⟩
def JD.pl(q:Plc w0.heap.size N c0 c1 c2 b7 b12)(h:JD w0 N c1 c2 b7 b12 cs7 k1 hs w):Pl2 w0.heap.size N c1 c2 b7 b12:=
 ⟨q.l1,q.l2,q.l7,q.l12,q.d12,q.d,(qSC h.h1 h.m7 se).symm,(qSC h.h2 h.m7 se).symm,(qSC h.h1 h.m12 se).symm,(qSC h.h2 h.m12 se).symm⟩
end
def SP.Js(p:SP)(m:Machine)(A:zDC):Prop:=
 ∃s a w q g cs B h u cap k1,0<s/\GA q p.c0 p.c1 p.c2 p.N a/\JD p.w0 p.N p.c1 p.c2 p.b7 p.b12 p.cs7 k1 (p.hs g cs u cap h) w/\p.K p.l.length g cs B h q/\
  One Tryz.prog p.N (q8H (.slice u h.length cap) p.b7 p.b12 p.c1 p.c2 p.cs0) s s (Go.Conc.served (Fw a) (.tuple #[p.zi,.bool zb])) w m A
def SP.Jt(p:SP)(m:Machine)(u:zDC):Prop:=
 ∃s g cs A h q cap B,p.K p.l.length g cs A h B/\Pl2 p.w0.heap.size p.N p.c1 p.c2 p.b7 p.b12/\qvL Tryz.prog s (JZ p.w0 p.N p.c1 p.c2 p.b7 p.b12 cs (p.hs g cs q cap h) (.slice q h.length cap) p.cs0) m u
def qdU{q:zg}{b7 b12 c1 c2 c:Z}{cs0:F zAm}{N:Z}{w:zp}{k1:Z}(u:w.heap[c1]?=O (.chan 0 #[] zb k1 k1 zb))(A:w.heap[c2]?=O (.chan 1 #[] zb 0 0 zb))(h:(q8H q b7 b12 c1 c2 cs0).has c):∃cap k,w.heap[c]?=O (.chan cap #[] zb k k zb):=by
 rcases qoE h with rfl|rfl
 .exact⟨_,_,A⟩
 .exact⟨_,_,u⟩
def qUY{p:SP}(u:p.ok){m}{E}(h:p.IV p.l.length m E):Go.Duo.Comes Tryz.prog m E p.Js:=by
 obtain⟨s,a,w,B,g,cs,Q,H,L,cap,C,_,R,T,A,U,af,V⟩:=h;have W:∀B c,(p.S B).has c->c=p.c0:=λB c q=>Seat.one_has.1 q;have Y:=R.mq (b7:=p.b7) (b12:=p.b12) rfl rfl;have P:p.c0≠p.c1/\p.c0≠p.c2:=⟨u.plc.d01,u.plc.d02⟩
 have aa:=qCO C (X':=q8H (.slice L H.length cap) p.b7 p.b12 p.c1 p.c2 p.cs0) (qaR u.plc.d12) (λc q ab=>by
  have e:=W _ _ q;rcases qoE ab with D|D
  .exact P.2 (e.symm.trans D)
  .exact P.1 (e.symm.trans D)) (λc q=>qdU (N:=p.N) A.h1 A.h2 q) (λc q=>by
  rcases qoE q with rfl|rfl
  .exact u.plc.l2.2
  .exact u.plc.l1.2) V
 obtain⟨n,ac⟩:=qOS (cs0:=p.cs0) Y;refine(qHU C (c:=p.c0) (z:=p.zi) (a':=qBT p.cs0 a) rfl rfl (qMS a) rfl A.h0 (λd=>qNS T (w:=w.at d) A.h0) ac aa).mono ?_;rintro ag ah ⟨ai,d,⟨ad,hM,rfl⟩,ae⟩;exact⟨s,ad,_,B,g,cs,Q,H,L,cap,_,C,hM,(A.at d).shut u.plc _,U,ae⟩
def qnR{p:SP}(hp:p.ok)(h12:p.cs7.length=8){m}{T}(h:p.Js m T):Go.Duo.Comes Tryz.prog m T p.Jt:=by
 obtain⟨s,a,w,vg,g,cs,W,ans,oa,cap,k1,hs0,hA,hJ,hK,h2⟩:=h
 have hlt:∀c,(q8H (.slice oa ans.length cap) p.b7 p.b12 p.c1 p.c2 p.cs0).has c->c<p.N:=λc hc=>by
  rcases qoE hc with rfl|rfl
  .exact hp.plc.l2.2
  .exact hp.plc.l1.2
 obtain⟨d1,d2,hds,e1,e2,e3,e4⟩:=hA.defers;have hcs8:cs.length=8:=by obtain⟨_,_,_,_,_,rfl,_⟩:=hK.wo;rfl
 let St:zE->zp->Prop:=λgr w'=>∃a',gr=G (bV.atR a' (.inRegion qHG [2]::[])) [BR]/\a'.defers=[d1,d2]/\a'.tmps[39]?=O (.chan (O p.c2))/\a'.tmps[40]?=O (.agg ⟨cs⟩)/\JD p.w0 p.N p.c1 p.c2 p.b7 p.b12 p.cs7 k1 (p.hs g cs oa cap ans) w'
 have hG:(⟨p.N,zb,λ_ _ _ _=>zX,St⟩:Env Tryz.prog).G (Go.Conc.served (Fw a) (.tuple #[p.zi,.bool zb])) w:=by
  refine q9W (E:=⟨p.N,zb,λ_ _ _ _=>zX,St⟩) (N:=p.N) (zH _) hK.wo hA (rs:=[.row 10 oa ans.length cap 55 13 (ans.map λ(x:Ans)=>x.cs).flatten]) hJ.mine ?_;intro a' w' nx' f1 f2 f3 f4;exact q2M λd=>⟨a',rfl,f1.trans hds,f2,f3,JD.at (JD.next hp.plc hJ (f4.fit (nx':=40) (by simp[AB,Res.eqv])) (zH _)) d⟩
 refine(qZX sf hlt (λ_ _ _ _ h=>h) hG h2).trans ?_;rintro m1 T1 ⟨g1,w1,⟨a',rfl,f1,f2,f3,f4⟩,h3⟩;have hpl:=f4.pl hp.plc
 have hone:∀v∈cs,v.oneCell'=I:=λv hv=>by
  have:=f4.mine.sim.res (.blk 0 p.N 44 (cs.map .v)) (by simp[SP.hs]);exact this.2 (.v v) (zU.2 ⟨v,hv,rfl⟩)
 refine(q6Z (co:=p.c1) (cl:=p.c2) (Wv:=.agg ⟨cs⟩) (zW:=.agg zW) (zA:=zAn) (Fin:=JZ p.w0 p.N p.c1 p.c2 p.b7 p.b12 cs (p.hs g cs oa cap ans) (.slice oa ans.length cap) p.cs0) hs0 hp.plc.d12 rfl rfl (λg₂ hg₂ w₁ h₁=>?_) rfl (λd=>(qLZ f2 f3 _).1) (by rw[(qLZ f2 f3 w1).2];exact LI e1 e2 e3 e4 f1) f4.h1 f4.h2 ⟨hp.plc.l1.2,hp.plc.l2.2⟩ h3).mono ?_
 .obtain⟨a2,hM,rfl⟩:=hg₂;exact L2 hcs8 h12 hone hpl hM w₁ (JQ.re hpl w1 w₁ h₁ f4.jq)
 .exact λm' T' h'=>⟨s,g,cs,W,ans,oa,cap,vg,hK,hpl,h'⟩
end Go.Proofs.YtlmhpamhhgogaaaGreat
namespace Go.Proofs.YtlmhpamhhgogaaaGreat
open Go.Conc (G rcase rcaseNil scase AtIn Sits Seat closeEvents)
open Go.Proofs.YtlmhpamhhgogaaaGreat.Sx Go.Duo Go.RowKit
section
variable{w0 w:zp}{N c0 c1 c2 b7 b12 k0 k1:Z}{cs7:F zg}{g:GW}{x:Res}{nx:Z}
def q1X{B lo}(h:Ck B ⟨g,[x],nx,lo⟩ w)(ty)(sz):Ck B ⟨g,[x,.row 10 zc 0 0 ty sz []],40,lo⟩ w:=by
 have q:Hs.bks ⟨g,[x,.row 10 zc 0 0 ty sz []],40,lo⟩=Hs.bks ⟨g,[x],nx,lo⟩:=by simp[Hs.bks,Res.bk]
 refine⟨h.size,⟨h.sim.AJ,h.sim.frm,λr u=>?_,by rw[q];exact h.sim.nod,λb hm=>h.sim.fre b (q▸hm),h.sim.fz,h.sim.own,h.sim.low.1,λb hm=>h.sim.low.2 b (q▸hm)⟩,h.lo⟩;rcases zs.1 u with rfl|u
 .exact h.sim.res _ se
 .obtain rfl:=zA3.1 u;exact⟨⟨se,.inl ⟨rfl,rfl⟩⟩,λC A=>absurd A zC⟩
def JC.nil{lo}(h:JC w0 N c0 c1 c2 b7 b12 cs7 k0 k1 ⟨g,[x],nx,lo⟩ w):JC w0 N c0 c1 c2 b7 b12 cs7 k0 k1 ⟨g,[x,.row 10 zc 0 0 55 13 []],40,lo⟩ w:=
 ⟨q1X h.mine 55 13,h.below,h.h0,h.h1,h.h2,h.m7,h.m12,h.ng⟩
end
section
variable{w0 w:zp}{g g':GW}{vl:zg}{W:Wd}{c0 c1 c2 b7 b12:Z}{cs7:F zg}{a:zDz}
def qLR{P}{B:Z}{K}{S:Z->zE->Prop}:∀{j:Z}{g:zE},Go.Duo.Way P B K (λg=>∃n,S n g) j g->∃n,Go.Duo.Way P B K (S n) j g
 |0,_,h=>h
 |_+1,_,⟨q,g',u,h⟩=>let⟨n,A⟩:=qLR h;⟨n,q,g',u,A⟩
def qPb{cs}{m}{T}{zi zo}(hzi:ZV 167 zi)(hzo:ZV 89 zo){l}{Inv}(hl:rSl 10 rOp g vl l)(hl2:l.length<=200)(hsv:qQL l Inv)(hI:Inv 0 W [])(h:AtGo w0 g vl W c0 c1 c2 b7 b12 g' cs7 a w)(hH:Ew Tryz.prog (·=0) (λ_=>zc) 0 0 (G (bS.atR a (.inRegion qmJ [4]::.code qwB::[])) cs) w m T):Go.Duo.Comes Tryz.prog m T (SP.Jt ⟨w0,w.heap.size,c0,c1,c2,b7,b12,cs7,g,vl,l,Inv,zi,zo,cs⟩):=by
 generalize hp0:(⟨w0,w.heap.size,c0,c1,c2,b7,b12,cs7,g,vl,l,Inv,zi,zo,cs⟩:SP)=p;have hp:p.ok:=by subst hp0;exact⟨h.lt,hzi,hzo,hl,hl2,hsv⟩
 have h12:p.cs7.length=8:=by
  subst hp0;obtain⟨_,_,_,_,_,rfl,_⟩:=h.wo;rfl
 have hK:p.K 0 g' cs7 W [] (.slice zc 0 0):=by
  subst hp0;exact⟨h.le,h.wo,hI,rfl,⟨zc,0,rfl,zH _,zJ _,λ_=>⟨rfl,rfl⟩,λi x hx=>by simp at hx⟩,h.old⟩
 cases l with
 |cons o l'=>
  refine(qDd hzi hzo hl (o:=o) rfl h hH).trans ?_;rintro m1 T1 ⟨s,a',w',ec,hs,hA,hec,hJ,h2⟩
  have h3:p.Gp 0 m1 T1:=by
   subst hp0;exact⟨s,a',w',_,ec,o,g',cs7,W,[],zc,0,hs,rfl,hA,hJ.nil,hK,qYD _ _ _ _ h.le hec.2,h2⟩
  exact(qjP hp l'.length 0 (by subst hp0;simp) h3).trans λm2 T2 h4=>(qUY hp h4).trans λm3 T3 h5=>qnR hp h12 h5
 |nil=>
  have hpl:=h.lt;obtain⟨ol,cl,hvl,hcap,hmax,hnone,hr⟩:=id hl;obtain⟨k',hk',hP⟩:=qOc hzi (.agg ⟨cs7⟩) c0 c1 c2 w.heap.size
  have key:∃n0 j,Go.Duo.Way Tryz.prog w.heap.size (KA w (oV (.agg ⟨cs7⟩))) (qmF Tryz.prog (KA w (oV (.agg ⟨cs7⟩))) c0 λgr=>zDF Tryz.prog I Go.Duo.TrK Go.Duo.NoS w.heap.size (q8H (.slice zc 0 0) b7 b12 c1 c2 cs) n0 gr) j (G (bS.atR a (.inRegion qmJ []::.code qwB::[])) cs):=by
   have hM:∀v,BK (.slice ol 0 cl) v ⟨b7,0,zc⟩ ⟨b12,0,zc⟩ c0 c1 c2 (a.put (O 16) v):=by rw[<-show vl=.slice ol 0 cl from hvl];exact BK.of h
   obtain⟨j,hW⟩:=qbb (B:=w.heap.size) (K:=KA w (oV (.agg ⟨cs7⟩))) (Stop:=λgr=>∃n0,qmF Tryz.prog (KA w (oV (.agg ⟨cs7⟩))) c0 (λgr=>zDF Tryz.prog I Go.Duo.TrK Go.Duo.NoS w.heap.size (q8H (.slice zc 0 0) b7 b12 c1 c2 cs) n0 gr) gr)
    (v16:=zAU) (a:=a) (b:=bS) (k:=[]) (cs:=cs) rfl (by rw[h.size];decide) hM λa' hA'=>
     q4T (ol:=ol) (oa:=zc) (L:=0) (i:=0) (cl:=cl) (ca:=0) rfl (zH _) hA' λa'' hA'' h69=>by
      obtain⟨n,hn⟩:=qOS (cs0:=cs) (hA''.mq (b7:=b7) (b12:=b12) rfl rfl);exact⟨n,rfl,qMS a'',qBT cs a'',rfl,λw' _ cap k hc=>qNS h69 hc,qQC (zJ _) hn⟩
   obtain⟨n,hn⟩:=qLR hW;exact⟨n,j,hn⟩
  obtain⟨n0,j,hW⟩:=key
  refine(qEQ (n:=0) (B0:=w.heap.size) (X:=q8H (.slice zc 0 0) b7 b12 c1 c2 cs) (S:=λ_=>Seat.one c0 zi I (qVN (.slice zc 0 0) c0 c1 c2 w.heap.size)) (z:=zi) (c:=c0) (k:=0) rfl
   (λd=>qXU rfl (by simp[bS]) h.t49 h.t50 h.t51 h.t52) (qaR hpl.d12) (λc hc=>qdU (N:=0) h.ch.h1 h.ch.h2 hc) (λc hc=>?_) (λc hc=>?_) h.ch.h0 hpl.l0.2 hk' (λ_=>rfl) (λ_=>hP) (λB hB=>q1T hB (λg h=>qhd hB h) hW) hH).trans ?_
  .rcases qoE hc with rfl|rfl
   .exact hpl.l2.2
   .exact hpl.l1.2
  .rcases qoE hc with rfl|rfl
   .exact hpl.d02.symm
   .exact hpl.d01.symm
  .rintro m' T' ⟨s,g₂,d,hs,_,⟨a',hA',rfl⟩,h2⟩;refine qnR hp h12 ?_;subst hp0;exact⟨s,a',_,_,g',cs7,W,[],zc,0,0,hs,hA',((h.jc d).nil.shut hpl 0),hK,h2⟩
end
abbrev zWl:F zg:=[.int .i64 0,.int .i64 0,.int .i64 0,.slice zc 0 0,.slice zc 0 0,.slice zc 0 0,.slice zc 0 0,.slice zc 0 0]
section
variable{w0 w:zp}{N c1 c2 b7 b12:Z}{x12:F zg}{hs:Hs}
def JQ.own(u:Pl2 w0.heap.size N c1 c2 b7 b12)(h:JQ w0 N c1 c2 b7 b12 x12 hs w)(L:∀v∈x12,v.oneCell'=I)(nx):Ap (frB w0.heap.size w hs.g h.below.size) ⟨hs.g,.blk 7 b7 44 (zWl.map .v)::.blk 12 b12 44 (x12.map .v)::hs.rs,nx,w0.heap.size⟩ w:=by
 have B:=h.mine.sim;have E:Hs.bks ⟨hs.g,.blk 7 b7 44 (zWl.map .v)::.blk 12 b12 44 (x12.map .v)::hs.rs,nx,w0.heap.size⟩=b7::b12::hs.bks:=by simp[Hs.bks,Res.bk]
 refine⟨B.AJ,⟨rfl,rfl,rfl,zH _,λ_ _=>rfl⟩,λr C=>?_,?_,λb q=>?_,λ_ _ P=>P,λn Q _ A=>?_,h.below.size,λb q=>?_⟩
 .rcases zs.1 C with rfl|C
  .exact⟨by rw[q3G];exact h.m7,λc H=>by
    obtain⟨v,D,rfl⟩:=zU.1 H;simp only[zWl,zs,zC,zAt]at D
    rcases D with rfl|rfl|rfl|rfl|rfl|rfl|rfl|rfl<;>rfl⟩
  .rcases zs.1 C with rfl|C
   .exact⟨by rw[q3G];exact h.m12,λc H=>by
     obtain⟨v,D,rfl⟩:=zU.1 H
     exact L v D⟩
   .exact B.res r C
 .rw[E];refine zBo.2 ⟨λhm=>?_,zBo.2 ⟨λhm=>h.mine.low u.l12.2 hm,B.nod⟩⟩;rcases zs.1 hm with e|hm
  .exact u.d e
  .exact h.mine.low u.l7.2 hm
 .rw[E]at q;rcases zs.1 q with rfl|q
  .exact⟨h.ng.2.2.1,λA=>by have:=u.l7.1;have:b<w0.heap.size:=A;omega⟩
  .rcases zs.1 q with rfl|q
   .exact⟨h.ng.2.2.2,λA=>by have:=u.l12.1;have:b<w0.heap.size:=A;omega⟩
   .exact⟨(B.fre b q).1,λA=>(B.fre b q).2 (by have:=u.l7;have:b<w0.heap.size:=A;show b<N;omega)⟩
 .have:n<w0.heap.size:=A;simp only at Q;omega
 .rw[E]at q;rcases zs.1 q with rfl|q
  .exact u.l7.1
  .rcases zs.1 q with rfl|q
   .exact u.l12.1
   .have:=B.low.2 b q;have:=h.mine.lo;have:=u.l7;simp only;omega
end
def KG{tmps:zS zg}{x z:zg}{b:Z}{ec:F zg}{w:zp}(q:w.heap[b]?=O (.cells ⟨ec⟩ 44 (0,0)))(u:tmps[6]?=O x)(A:tmps[7]?=O (.pointer (O ⟨b,0,zc⟩)))(B:tmps[8]?=O z)(C:ec.length=8):(results Tryz.f8 tmps).run Tryz.prog w=.ok (.tuple #[x,.agg ⟨ec⟩,z]) w:=by
 have D:Tryz.f8.results.toList=[.tmp 6,.cell 7 44,.tmp 8]:=rfl
 have E:∀j h,ec[j]?=O h->w.cell? ((⟨b,0,zc⟩:zAI).add j)=O h:=λj h H=>by
  rw[qoA,zAr,qJB q];simpa using H
 have L:=(quB Iv.1 Iv.2 (w:=w) (a:=⟨b,0,zc⟩)).2 ec rfl C E;refine qxD (vs:=[x,.agg ⟨ec⟩,z]) ?_;rw[D];simp[q3S,zZ,u,A,B,zAk,asAddr,L]
def La{E:Env Tryz.prog}{w0 w:zp}{N c1 c2 b7 b12:Z}{g:GW}{cs:F zg}{W:Wd}{h:F Ans}{oa:zy zAI}{cap:Z}{ad:zO}{a:zDz}{c:zAm}{C:F zAm}(hE:E.N<=w0.heap.size)(ae:Pl2 w0.heap.size N c1 c2 b7 b12)(hW:rWo g cs W)(aC:h.length<=1000)(A:JQ w0 N c1 c2 b7 b12 cs ⟨g,[.blk 0 N 44 (cs.map .v),.row 10 oa h.length cap 55 13 (h.map (·.cs)).flatten],40,N⟩ w)(B:MQ (.slice oa h.length cap) b7 b12 c1 c2 ad a)(af:∀w' g',Ap (frB w0.heap.size w g A.below.size) ⟨g',[],0,w0.heap.size⟩ w'->g<=g'->Br g' w0.heap.size 55 13 (.slice oa h.length cap) h.length (h.map (·.cs)).flatten->E.G (G (c.finish (.tuple #[.slice oa h.length cap,.agg ⟨cs⟩,.int .i64 0])) C) w'):E.G (Go.Conc.served (ET (c::C) a) (.tuple #[.int .i64 0,.bool zb,.agg zW,zAn])) w:=by
 have ag:∀v∈cs,v.oneCell'=I:=λv D=>by
  have:=A.mine.sim.res (.blk 0 N 44 (cs.map .v)) se;exact this.2 (.v v) (zU.2 ⟨v,D,rfl⟩)
 have ah:=A.own ae ag 40;have q:(frB w0.heap.size w g A.below.size).has E:=q1K hE;rw[qAN]
 have ai:Stn 88 (frB w0.heap.size w g A.below.size) [] [(72,.tup [.v (.int .i64 0),.v (.bool zb),.v (.agg zW),.v zAn]),(7,.p 7 b7 0),(12,.p 12 b12 0),(16,.row 10 oa h.length cap)] ⟨g,.blk 7 b7 44 (zWl.map .v)::.blk 12 b12 44 (cs.map .v)::[.blk 0 N 44 (cs.map .v),.row 10 oa h.length cap 55 13 (h.map (·.cs)).flatten],40,w0.heap.size⟩ (a.put (O 72) (.tuple #[.int .i64 0,.bool zb,.agg zW,zAn])) w:=by
  refine⟨by simp[zBf,B.size],B.defers,λn H P=>?_,ah⟩;simp only[AS]at P
  repeat' split at P
  all_goals first|(cases P;done)|skip
  all_goals(rename_i aj;obtain rfl:=zP aj;obtain rfl:=zn P)
  .exact qKE (by rw[B.size];decide)
  .rw[qHA sb];exact B.t7
  .rw[qHA sb];exact B.t12
  .rw[qHA sb];exact B.t16
 obtain⟨_,_,_,_,_,rfl,_,ak,al,am,an,ao⟩:=hW;obtain⟨_,_,rfl,_⟩:=id ak;obtain⟨_,_,rfl,_⟩:=id al;obtain⟨_,_,rfl,_⟩:=id am;obtain⟨_,_,rfl,_⟩:=id an;obtain⟨_,_,rfl,_⟩:=id ao;refine qZB (τ:=[1,2,3]) (rest:=[]) q ((qZA E).snd _ q) sj ai (K:=λT U=>∀u w',Stn 88 (frB w0.heap.size w g A.below.size) [] T U u w'->E.G (G (bS.atR u (.inRegion qlJ []::.code qJP::.inBlock 4::qKK)) (c::C)) w') (zq ?_) (λ_ _ u w' L V=>L u w' V);intros;intro aD w1 aa;refine .quiet rfl (λ_=>qyA) ?_;unfold qJP qVM quH qEC qwB qbE qZJ qkN Tryz.f8;simp only[zAG,tlC,qQN,Gk,hdC];refine q5J (qxK I rfl rfl aa ?_);refine q0A (qCC q ((qZA E).snd _ q) sj aa (zq ?_));intros;intro aE aF ap;refine q0A (q0A (qCC q ((qZA E).snd _ q) sj ap (zq ?_)));intros;intro aG w3 ab;refine qxK zb rfl rfl ab (qwI ?_);refine q0A (qCC q ((qZA E).snd _ q) sj ab (zq ?_));intros;intro aH aI ac;refine qxK I rfl rfl ac ?_;refine q0A (qEN hm q ((qZA E)) (λaq ar=>(qZA E).snd aq ar) rfl (oi:=.first 0 (.first 1 (.first 2 (.exec 3 (.first 4 .nil))))) sd sd sj sb (λd au=>absurd au zC) ac (K:=λT U=>∀u w',Stn 88 (frB w0.heap.size w g A.below.size) [] T U u w'->E.G (G (bS.atR u (.code _::_)) (c::C)) w') (zq ?_) (λ_ _ u w' L V=>L u w' V));intros;intro av w5 Q;have Y:∀(n:Z){H:SV}{v:zg},AS _ n=O H->Ag H=v->av.tmps[n]?=O v:=λn{H v}L e=>e▸Q.As n H L;have aw:Tryz.prog.funcs[8]?=O Tryz.f8:=Tryz.func8;refine .quiet rfl (λ_=>q0L rfl) ?_;refine qkH (R:=λe w'=>e=.returned (.tuple #[.slice oa h.length cap,.agg ⟨_⟩,.int .i64 0])/\Ap (frB w0.heap.size w g A.below.size) _ w') [] w5 _ c C rfl Q.defers aw rfl (λd=>⟨_,KG (w:=w5.at d) (Q.sim.res _ (zAF _ (zAH ..))).1 (Y 6 rfl rfl) (Y 7 rfl rfl) (Y 8 rfl rfl) rfl,rfl,Q.sim.at d⟩) λv w' D=>?_
 .obtain⟨D,ax⟩:=D;cases D;have ay:=ax.sub (rs:=[.row 10 oa h.length cap 55 13 (h.map λ(x:Ans)=>x.cs).flatten]) (nx:=0) (List.Sublist.cons _ (List.Sublist.cons _ (List.Sublist.cons _ (List.Sublist.cons _ (zCa _)))));obtain⟨g',az,_,aA,aB⟩:=ay.BW;exact af w' g' aB az aA
end Go.Proofs.YtlmhpamhhgogaaaGreat
namespace Go.Duo
open Go.Proofs.YtlmhpamhhgogaaaGreat.Sx Go.RowKit
def qnP(P:zv)(f:zA5)(args:zS zg)(w:zp)(R:zg->zp->Prop):Prop:=
 ∀(c:zAm)(cs:F zAm)(m:Machine)(h:zDC),Ew P (·=0) (λ_=>zc) 0 0 (Go.Conc.G (zAR P f args .normal) (c::cs)) w m h->
  Comes P m h λu A=>∃v q,R v q/\Ew P (·=0) (λ_=>zc) 0 0 (Go.Conc.G (c.finish v) cs) q u A
def qvd(P:zv)(f:zA5)(args:F zg)(g:GW)(Q:zg->GW->Prop):Prop:=
 ∀w,Go.Proofs.YtlmhpamhhgogaaaGreat.Sx.Good g w->qnP P f args.toArray w λv h=>Below w.heap.size w h/\Q v (g.next w h)
def Ew.zero{P}{Mem}{q}{h n}{a}{w}{m}{u}(k:Ew P Mem q h n a w m u):Ew P Mem q h 0 a w m u:=by
 obtain⟨A,sl,B,C,D,_,E⟩:=k.of;exact⟨A,sl,B,C,D,zJ _,E⟩
end Go.Duo
namespace Go.Proofs.YtlmhpamhhgogaaaGreat
open Go.Conc (G)
open Go.Proofs.YtlmhpamhhgogaaaGreat.Sx Go.Duo Go.RowKit
def AtGo.at{w0 w}{g g'}{q}{W}{c0 c1 c2 b7 b12}{u}{a}(h:AtGo w0 g q W c0 c1 c2 b7 b12 g' u a w)(d):AtGo w0 g q W c0 c1 c2 b7 b12 g' u a (w.at d):=by
 obtain⟨A,hs,B,e⟩:=h.sim;exact⟨h.le,h.old,h.wo,⟨h.ch.h0,h.ch.h1,h.ch.h2,h.ch.d01,h.ch.d02,h.ch.d12,h.ch.l0,h.ch.l1,h.ch.l2⟩,⟨h.below.os,h.below.tape,h.below.output,h.below.size,h.below.block⟩,h.ng,⟨A,hs,B.at d,e⟩,h.m7,h.m12,h.l7,h.l12,h.d,h.size,h.t2,h.t7,h.t12,h.t13,h.t14,h.t15,h.t49,h.t50,h.t51,h.t52,h.defers⟩
def qKT{w0 w w':zp}{g0 g g':GW}{A:w0.heap.size<=w.heap.size}{rs:F Res}{nx lo:Z}(h:Ap (frB w0.heap.size w g A) ⟨g',rs,nx,lo⟩ w')(B:∀n,n<w0.heap.size->g.g n->g0.g n):g'<=g0.next w0 w':=
 ⟨h.AJ.1,λn q=>⟨⟨zQ (g'.wf n q) h.AJ.1,(zAJ n w0.heap.size).imp (λu=>B n u (h.fz n u q)) id⟩,h.AJ.2 n q⟩⟩
def quR{g:GW}{x y z:zg}{c:Bn}{names:F BA}{T D:zg}{l:F OpD}{Inv:Z->Wd->F Ans->Prop}(ai:qBB g [x,y,z] c)(aj:qOA c=zc)(ak:rSl 1 E8 g T names)(al:qyH (qLB c) names 1)(am:names.length<=1000000)(an:c.Ar.length<=1000000)(ad:rSl 10 rOp g D l)(ae:l.length<=200)(ao:qQL l Inv)(ap:Inv 0 (CJ (qLB c) names 1) []):qvd Tryz.prog 8 [.agg ⟨[x,y,z]⟩,T,D] g λv g'=>∃B csW W h,v=.tuple #[B,.agg ⟨csW⟩,.int .i64 0]/\rWo g' csW W/\rSl 13 E9 g' B h/\h.length=l.length/\Inv l.length W h:=by
 intro q aq H cs m af ar;obtain⟨aO,au⟩:=qZb 167 sd;obtain⟨aP,av⟩:=qZb 89 sd;let U:zE->zp->Prop:=λV w=>∃a L c1 c2 P Q g' R,V=G (bS.atR a (.inRegion qmJ [4]::.code qwB::[])) (H::cs)/\AtGo q g D (CJ (qLB c) names 1) L c1 c2 P Q g' R a w
 have aw:(⟨0,I,λ_ _ _ _=>zX,U⟩:Env Tryz.prog).G (G (zAR Tryz.prog 8 #[.agg ⟨[x,y,z]⟩,T,D] .normal) (H::cs)) q:=
  L8 (E:=⟨0,I,λ_ _ _ _=>zX,U⟩) aq (zJ _) ai aj ak al am an ad ae λa w L c1 c2 P Q g' R Y=>q2M λd=>⟨a,L,c1,c2,P,Q,g',R,rfl,Y.at d⟩
 refine(qXK (E:=⟨0,I,λ_ _ _ _=>zX,U⟩) rfl (λi s c aa=>by cases aa) (λf args c cs w ax m af ab _=>(ab 0).elim) aw ar).trans ?_;rintro aQ aR ⟨aT,w1,⟨a,L,c1,c2,P,Q,g',R,rfl,Y⟩,ay⟩;refine(qPb au av ad ae ao ap Y ay).trans ?_;rintro aU aW ⟨s,g2,az,W,h,aX,cap,aY,u,aA,aZ,aB,⟨aC,a0,aD,rfl,ag⟩,aE⟩;have aF:h.length=l.length:=u.len;let ac:zE->zp->Prop:=λV C=>∃v,V=G (H.finish v) cs/\Below q.heap.size q C/\∃B csW W h,v=.tuple #[B,.agg ⟨csW⟩,.int .i64 0]/\rWo (g.next q C) csW W/\rSl 13 E9 (g.next q C) B h/\h.length=l.length/\Inv l.length W h
 have aG:(⟨0,I,λ_ _ _ _=>zX,ac⟩:Env Tryz.prog).G (Go.Conc.served (ET (H::cs) aC) (.tuple #[.int .i64 0,.bool zb,.agg zW,zAn])) aB:=by
  refine La (E:=⟨0,I,λ_ _ _ _=>zX,ac⟩) (zJ _) aA u.wo sa ag aD λC g3 A aH aI=>q2M λd=>?_;have ah:=qKT (g0:=g) (A.at d) u.old;have aJ:Below q.heap.size q (C.at d):=ag.below.trans ⟨A.frm.os,A.frm.tape,A.frm.output,A.frm.size,A.frm.block⟩;refine⟨_,rfl,aJ,_,az,W,h,rfl,qBA _ _ _ _ (GW.trans aH ah) u.wo,?_,aF,by have:=u.inv;exact this⟩;exact(q7C aI.rd h (·.cs) rfl rfl (λx _=>rfl) λx aK=>⟨rfl,qSZ u.gv x aK⟩).mono qDG ah
 refine(qXK (E:=⟨0,I,λ_ _ _ _=>zX,ac⟩) rfl (λi s c aa=>by cases aa) (λf args c cs w ax m af ab _=>(ab 0).elim) aG aE.zero).mono ?_;rintro a1 a2 ⟨gr3,w3,⟨v,rfl,aL,aM⟩,aN⟩;exact⟨v,w3,⟨aL,aM⟩,aN⟩
end Go.Proofs.YtlmhpamhhgogaaaGreat
namespace Go.Proofs.YtlmhpamhhgogaaaGreat.Sx
open Go.Duo
open Go.RowKit
def OkE{P:zv}(E:Env P)(f:zA5)(args:F zg)(g:GW)(Q:zg->GW->Prop):Prop:=
 ∀w,Good g w->E.N<=w.heap.size->BI E f args.toArray w λe h=>∃v,e=.returned v/\Below w.heap.size w h/\Q v (g.next w h)
def OkE.of{P:zv}{E:Env P}{f:zA5}{args:F zg}{g:GW}{Q:zg->GW->Prop}(h:Ok P f args g Q):OkE E f args g Q:=λw q hE=>h w q E hE
def OkE.mono{P:zv}{E:Env P}{f:zA5}{args:F zg}{g:GW}{Q q:zg->GW->Prop}(h:OkE E f args g Q)(B:∀v g',g<=g'->Q v g'->q v g'):OkE E f args g q:=
 λw u hE=>(h w u hE).mono λ_ _⟨v,C,A,D⟩=>⟨v,C,A,B v _ (GW.le_next u A) D⟩
def OkE.top{P:zv}{E:Env P}(C:∀f args w R,qnP P f args w R->E.Big f args w R){f:zA5}{args:F zg}{g:GW}{Q:zg->GW->Prop}(h:qvd P f args g Q):OkE E f args g Q:=by
 intro w B _ c cs D;refine .big (R:=λv u=>Below w.heap.size w u/\Q v (g.next w u)) (λd=>C _ _ _ _ ?_) λv u⟨q,A⟩=>D v u ⟨v,rfl,q,A⟩;intro H L m T U;refine(h (w.at d) ⟨B.1,B.2⟩ H L m T U).mono ?_;rintro W Y ⟨v,u,⟨q,A⟩,V⟩;exact⟨v,u,⟨⟨q.os,q.tape,q.output,q.size,q.block⟩,A⟩,V⟩
def Kc{P:zv}(E:Env P)(f:zA5)(K:SV->Hs->Prop)(A:F SV)(D:Hs):Prop:=match D with
 |⟨h,q,B,C⟩=>match qSb A with
  |true=>qyC A λu=>∃v,OkW P f u h q v/\K (.v v) ⟨h,q,B,C⟩
  |false=>qyC A λu=>(∃v,OkV P f u h v/\K (.v v) ⟨h,q,B,C⟩)\/OkE E f u h λv H=>K (.v v) ⟨H,q,B,C⟩
def Jv{P:zv}(E:Env P):qNA:=λ_ f args hs K=>qwZ args hs (Kc E f K)
def qOR{P}(E:Env P):G6 E (Jv E):=λT f args hs K u U w D L=>by
 obtain⟨V,Q,u,R,h⟩:=q7L args u L;rw[<-R];obtain⟨W,Y,aa,ab⟩:=Q;unfold Kc at u;simp only at u;split at u
 .obtain⟨v,A,B⟩:=qRB _ u;refine(A.calls D h).mono ?_;rintro e H ⟨C,rfl,q,rfl⟩;exact⟨.v C,_,rfl,q,h.agree q,B⟩
 rcases qRB _ u with⟨v,A,B⟩|A
 .refine(A w h.AJ E (h.N D)).mono ?_;rintro e H ⟨C,rfl,q,rfl⟩;exact⟨.v C,_,rfl,q,h.agree q,B⟩
 .refine(A w h.AJ (h.N D)).mono ?_;rintro e H ⟨C,rfl,q,B⟩;exact⟨.v C,_,rfl,q,h.called q,B⟩
end Go.Proofs.YtlmhpamhhgogaaaGreat.Sx
namespace Go.Proofs.YtlmhpamhhgogaaaGreat.Sx
open Go.Conc (G)
open Go.Duo
open Go.RowKit
section
variable{P:zv}
def qmV{f}{fn}{c}{rs}(V:P.funcs[f]?=O fn)(B:fn.body=O c)(H:qfJ P fn.results.toList=O rs){args}{g}{Q}(W:args.length<=fn.ntmps)(h:∀(E:Env P)(fr:Fr),fr.has E->∀(b:zAm)(cs:F zAm),b.roundOf=zc->b.kind≠.early->(∀sl hs a w k,Stn fn.ntmps fr [] sl hs a w->(Gs rs sl hs λv=>Gv v hs λv' C=>qqJ v' λx=>∀g2,C.g<=g2->Q x g2)->E.G (G (b.atR a (.code .ret::k)) cs) w)->∀a w,Stn fn.ntmps fr [] (qUI (args.map .v) 0) ⟨g,[],0,g.w.heap.size⟩ a w->E.G (G (b.atR a [.code c]) cs) w):Ok P f args g Q:=by
 intro w Y E hE aa cs u;have ad:Ap ⟨w,(·<w.heap.size),g.g,λ_ h=>h⟩ ⟨g,[],0,g.w.heap.size⟩ w:=⟨Y,⟨rfl,rfl,rfl,zH _,λ_ _=>rfl⟩,(λr H=>by cases H),zBW,(λb B=>by cases B),(λn _ h=>h),(λn W ae _=>by have:=g.wf n ae;exact absurd W (zDu.2 this)),Y.1,λb B=>by cases B⟩;let b:zAm:={(default:zAm)with fn:=f,kind:=.normal,roundOf:=zc}
 have af:zAR P f args.toArray .normal=b.atR {tmps:=args.toArray++zAP (fn.ntmps-args.toArray.size) zAU,defers:=[]} [.code c]:=by
  simp[zAR,zAM,V,B,b]
 rw[af];refine h E ⟨w,(·<w.heap.size),g.g,λ_ h=>h⟩ (λn A=>zQ A hE) b (aa::cs) rfl (by simp[b]) (λsl hs a ag k D ah=>?_) _ w ⟨sf,rfl,λn x ai=>?_,ad⟩
 .refine .quiet rfl (λ_=>q0L rfl) ?_;obtain⟨l,aj,ak⟩:=qqD H ah
  have al:∃v:SV,Ag v=q3U (qCA l)/\Gv v hs λv' C=>qqJ v' λx=>∀g2,C.g<=g2->Q x g2:=by
   match l,aj with
   |[],u=>exact⟨.tup [],rfl,u⟩
   |[x],u=>exact⟨x,rfl,u⟩
   |x::y::r,u=>exact⟨.tup (x::y::r),rfl,u⟩
  obtain⟨v,L,am⟩:=al;refine qkH (R:=λe ab=>e=.returned (Ag v)/\Ap ⟨w,(·<w.heap.size),g.g,λ_ h=>h⟩ hs ab) [] ag _ aa cs rfl D.defers V rfl (λd=>⟨Ag v,?_,rfl,D.sim.at d⟩) λv' ab⟨e,an⟩=>?_
  .rw[L];exact qxD (ak a.tmps D.As _ _ (D.sim.at d))
  .cases e;obtain⟨v',C,ao,ap,q⟩:=qEG v am an;have ac:=qBD v' ao;rw[ap]at ac;refine u _ _ ⟨_,rfl,⟨q.frm.os,q.frm.tape,q.frm.output,q.frm.size,λn A=>q.frm.block n A⟩,ac _ ⟨q.AJ.1,λn A=>⟨⟨zQ (C.g.wf n A) q.AJ.1,?_⟩,q.AJ.2 n A⟩⟩⟩;rcases zAJ n w.heap.size with T|aq
   .exact .inl (q.fz n T A)
   .exact .inr aq
 .obtain⟨i,rfl,U⟩:=qxE _ 0 n x ai;have T:i<args.length:=by have:=(ze.1 U).1;simpa using this
  rw[zAy]at U;obtain⟨v,L,rfl⟩:=zD.1 U;show(args.toArray++_)[0+i]?=_;rw[zAr,zCn (by simpa using T)];simp[L,Ag]
def Stn.put{nt}{fr:Fr}{A}{sl}{hs}{a}{w}(h:Stn nt fr A sl hs a w){d}(hd:d<nt){v}(x)(B:Ag x=v):Stn nt fr A ((d,x)::sl) hs (a.put (O d) v) w:=
 ⟨by simp[zBf,h.size],h.defers,λn C q=>by
  simp only[AS]at q;split at q
  .rename_i u;obtain rfl:=zP u;obtain rfl:=zn q;rw[B];simp[zBf,h.size,hd]
  .rename_i u;have D:d≠n:=zCi u;rw[show(a.put (O d) v).tmps[n]?=a.tmps[n]? by simp[zBf,zM D]]
   exact h.As n C q,h.sim⟩
def qWc{E:Env P}{b:zAm}{a:zDz}{k:F Item}{cs:F zAm}{ops:zS zDA}{i:Z}{rest:F Z}{o:zDA}{w:zp}(q:b.roundOf=zc)(u:ops[i]?=O o)(A:o.guard=zc){v:zg}(B:∀w,(zx a.eval o).run P w=.ok (.value v) w/\(zx a.eval o).events P w #[]=#[])(h:E.G (G (b.atR (a.put o.dst v) (.inRegion ops rest::k)) cs) w):E.G (G (b.atR a (.inRegion ops (i::rest)::k)) cs) w:=
 .quiet rfl (λw=>(qKO (P:=P) (main:=E.main) q u A B).2 w) h
def qHb{E:Env P}{b:zAm}{a:zDz}{k:F Item}{cs:F zAm}{ops:zS zDA}{i:Z}{rest:F Z}{o:zDA}{w:zp}{f:zA5}{args:zS zg}(A:b.roundOf=zc)(H:b.kind≠.early)(q:ops[i]?=O o)(B:o.guard=zc)(u:∀w,(zx a.eval o).run P w=.ok (.enter f args) w/\CA ((zx a.eval o).events P w #[])){R:Ending->zp->Prop}(C:BI E f args w R)(h:∀v w',R (.returned v) w'->E.G (G (b.atR (a.put o.dst v) (.inRegion ops rest::k)) cs) w'):E.G (G (b.atR a (.inRegion ops (i::rest)::k)) cs) w:=by
 have hs:o.semAt b.roundOf a.eval=zx a.eval o:=by rw[A];rfl
 refine .one rfl λd=>⟨_,_,_,by rw[qzM q (by simp[zAl,B]),hs,qvH (λd r v k=>by simp[zAM]) (u _).1],.refl _,?_,Env.G.at (C _ _ λv w' D=>?_) d⟩
 .unfold lst;split
  .exact CA.seen qdD
  .exact CA.seen (u _).2
 .rw[zBc,q];exact h v w' D
end
end Go.Proofs.YtlmhpamhhgogaaaGreat.Sx
namespace Go.Proofs.YtlmhpamhhgogaaaGreat
open Go.Conc (G)
open Go.Proofs.YtlmhpamhhgogaaaGreat.Sx Go.Duo Go.RowKit
def qUU(k:zt):Z:=if k=1 then 147 else if k=2 then 148 else if k=3 then 149 else if k=4 then 150 else if k=5 then 151 else 152
abbrev qpS(k:zt):zg:=.func (.func (qUU k)) ⟨[]⟩ ⟨[]⟩
noncomputable def qfd:zDE:=(Tryz.f121.body).getD .skip
def qaa{P}{ρ}{o}{t n}{d:TypeDesc}{v}(q:o.op=.makeInterface t (.tmp n))(u:ρ (.tmp n)=v)(A:P.underlying t=O d)(hd:∀m,d≠.interface m)(w):(zx ρ o).run P w=.ok (.value (.iface t v)) w/\(zx ρ o).events P w #[]=#[]:=by
 unfold zx;simp only[q,u];have h:(underlying t).run P w=.ok d w:=zL A w;constructor
 .simp[Instr.makeInterface,zZ,h,zAk]
 .simp[Instr.makeInterface,Sem.events_bind,h,zBJ]
def J4:∃d,Tryz.prog.underlying 257=O d/\∀m,d≠.interface m:=by
 have h:((Tryz.prog.underlying 257).map λd=>match d with
  |.interface _=>zb
  |_=>I)=O I:=sd
 obtain⟨d,q,u⟩:=zD.1 h;refine⟨d,q,λm e=>?_⟩;subst e;cases u
def KP(g){k}(ah:1<=k/\k<=6):OkV Tryz.prog 121 [.int .i64 k] g (.iface 257 (qpS k)):=by
 have R:k=1\/k=2\/k=3\/k=4\/k=5\/k=6:=sa
 refine qmV (c:=qfd) (rs:=[.tmp 2]) Tryz.func121 rfl rfl (zAq rfl) λA H h b cs T ai U a w V=>?_;obtain⟨K,L⟩:∃K,K=k:=⟨_,rfl⟩;rcases R with rfl|rfl|rfl|rfl|rfl|rfl
 all_goals
  unfold qfd Tryz.f121;simp only[zAG];refine q0A (qCC h ((qZA A).snd _ h) sj V (zq ?_));intros;intro aj w1 W;refine q0A (qCC h ((qZA A).snd _ h) sj W (zq ?_));intros;intro ak al Y;refine q0A (q0A (qCC h ((qZA A).snd _ h) sj Y (zq ?_)));intros;refine⟨λB=>(nomatch B),λ_=>zq ?_⟩;intros;intro am w3 P;refine qxK zb rfl rfl P (qwI ?_);refine q0A (.quiet rfl (λ_=>qPC) ?_);refine qZB (τ:=[0,1,2,3]) (rest:=[4,5]) h ((qZA A).snd _ h) sj P (K:=λC D=>∀q u,Stn Tryz.f121.ntmps H [] C D q u->A.G (G (b.atR q (.inRegion _ [4,5]::_)) cs) u) (zq ?_) (λ_ _ q u B E=>B q u E);intros;refine zw ?_
  first|refine⟨1,⟨rfl,sb⟩,?_⟩|refine⟨2,⟨rfl,sb⟩,?_⟩|refine⟨3,⟨rfl,sb⟩,?_⟩|refine⟨4,⟨rfl,sb⟩,?_⟩|refine⟨5,⟨rfl,sb⟩,?_⟩|refine⟨6,⟨rfl,sb⟩,?_⟩
  refine zq ?_;intros;intro aa an Q;obtain⟨ao,ab,ac⟩:=J4;have ad:aa.tmps[16]?=O (qpS K):=by rw[L];exact Q.As 16 _ rfl
  refine qWc T (by rfl) rfl (qaa rfl (qGA ad) ab ac) ?_;have ae:=Q.put (d:=17) sb (.v (.iface 257 (qpS K))) rfl;refine qZB (τ:=[5]) (rest:=[]) h ((qZA A).snd _ h) sj ae (K:=λC D=>∀q u,Stn Tryz.f121.ntmps H [] C D q u->A.G (G (b.atR q (.inRegion _ []::_)) cs) u) (zq ?_) (λ_ _ q u B E=>B q u E);intros;intro af w6 ag;refine .quiet rfl (λ_=>qyA) (U _ _ af w6 [] ag (zw ?_));intro g2 ap;rw[L]
noncomputable def psW(w:Wd)(m:Ah):Wd:=if m.op.kind=1 then hsW w m else if m.op.kind=2 then fsW w m else if m.op.kind=3 then swW w m else if m.op.kind=4 then drW w m else if m.op.kind=5 then csW w m else w
noncomputable def psM(w:Wd)(m:Ah):Ah:=if m.op.kind=1 then hsM w m else if m.op.kind=2 then fsM w m else if m.op.kind=3 then swM w m else if m.op.kind=4 then drM w m else if m.op.kind=5 then csM w m else qQK w m
noncomputable def psE(w:Wd)(m:Ah):Ev:=if m.op.kind=1 then hsE w m else if m.op.kind=2 then fsE w m else if m.op.kind=3 then swE w m else if m.op.kind=4 then drE w m else if m.op.kind=5 then csE w m else qSK w m
def PsP(w:Wd)(m:Ah)(v:zg)(g':GW):Prop:=∃cs h,v=.tuple #[.agg ⟨cs⟩,.agg ⟨h⟩,.agg ⟨(psE w m).cs⟩]/\rWo g' cs (psW w m)/\qdA g' h (psM w m)
def qcX(g){cs u}{w}{m:Ah}(D:rWo g cs w)(hM:qdA g u m)(E:SnW w)(H:BgW 1000000 w)(P:SmO m)(Q:1<=m.op.kind/\m.op.kind<=6):Ok Tryz.prog (qUU m.op.kind) [.agg ⟨cs⟩,.agg ⟨u⟩] g (PsP w m):=by
 unfold qUU;by_cases h:m.op.kind=1
 .rw[zk h];exact(qfX g D hM E H P).mono λv L _⟨cs,u,a,b,c⟩=>⟨cs,u,by simp only[psE,zk h];exact a,by simp only[psW,zk h];exact b,by simp only[psM,zk h];exact c⟩
 rw[zj h];by_cases q:m.op.kind=2
 .rw[zk q];exact(qgX g D hM E H).mono λv L _⟨cs,u,a,b,c⟩=>⟨cs,u,by simp only[psE,zj h,zk q];exact a,by simp only[psW,zj h,zk q];exact b,by simp only[psM,zj h,zk q];exact c⟩
 rw[zj q];by_cases A:m.op.kind=3
 .rw[zk A];exact(qbX g D hM E H).mono λv L _⟨cs,u,a,b,c⟩=>⟨cs,u,by simp only[psE,zj h,zj q,zk A];exact a,by simp only[psW,zj h,zj q,zk A];exact b,by simp only[psM,zj h,zj q,zk A];exact c⟩
 rw[zj A];by_cases B:m.op.kind=4
 .rw[zk B];exact(qhX g D hM E H).mono λv L _⟨cs,u,a,b,c⟩=>⟨cs,u,by simp only[psE,zj h,zj q,zj A,zk B];exact a,by simp only[psW,zj h,zj q,zj A,zk B];exact b,by simp only[psM,zj h,zj q,zj A,zk B];exact c⟩
 rw[zj B];by_cases C:m.op.kind=5
 .rw[zk C];exact(qiX g D hM E H).mono λv L _⟨cs,u,a,b,c⟩=>⟨cs,u,by simp only[psE,zj h,zj q,zj A,zj B,zk C];exact a,by simp only[psW,zj h,zj q,zj A,zj B,zk C];exact b,by simp only[psM,zj h,zj q,zj A,zj B,zk C];exact c⟩
 rw[zj C];exact(qdX g D hM E H).mono λv L _⟨cs,u,a,b,c⟩=>⟨cs,u,by simp only[psE,zj h,zj q,zj A,zj B,zj C];exact a,by simp only[psW,zj h,zj q,zj A,zj B,zj C];exact b,by simp only[psM,zj h,zj q,zj A,zj B,zj C];exact c⟩
def qTT(k):Gb Tryz.prog (qUU k):=by
 unfold qUU;split
 .exact kF
 split
 .exact kF
 split
 .exact kF
 split
 .exact kF
 split
 .exact kF
 .exact kF
section
variable{g:GW}{cs ms:F zg}{w:Wd}{m:Ah}
def qZc(q:rWo g cs w)(hM:qdA g ms m)(B:SnW w)(C:BgW 1000000 w)(D:SmO m)(E:1<=m.op.kind/\m.op.kind<=6):Ok Tryz.prog 275 [qpS m.op.kind,.agg ⟨cs⟩,.agg ⟨ms⟩] g (PsP w m):=
 Ok.Aq hm noT 0 MV.2 (args:=[.v (qpS m.op.kind),.v (.agg ⟨cs⟩),.v (.agg ⟨ms⟩)]) (by
  have H:=qcX g q hM B C D E;obtain⟨L,P,Q,R,T,U,V,W,Y,aa,rfl⟩:=qLA q;obtain⟨ab,ac,ad,ae,af,ag,rfl⟩:=q1B hM;refine zq ?_;intros;refine⟨qTT _,?_⟩;refine .inr (H.mono λv g1 h ah=>?_);obtain⟨ak,al,rfl,u,A⟩:=ah;have ai:=u;have aj:=A;obtain⟨L,P,Q,R,T,U,V,W,Y,aa,rfl⟩:=qLA u;obtain⟨ab,ac,ad,ae,af,ag,rfl⟩:=q1B A;refine zq ?_;intros;intro g2 h
  exact⟨_,_,rfl,qBA _ _ _ _ h ai,qTA _ _ _ _ h aj⟩)
end
def qkS(v:zg)(w:zp):(Go.method (Tryz.prog.types.size+Made.depth) 257 v "hydrant/plane.step").run Tryz.prog w=.ok (275,v) w:=sd
def q2T(v)(w):(Go.method (Tryz.prog.types.size+Made.depth) 257 v "hydrant/plane.step").events Tryz.prog w #[]=#[]:=sd
def qZZ{P}{ρ}{o}{n B t t'}{d:TypeDesc}{v z}(C:o.op=.typeAssert (.tmp n) B t I)(D:ρ (.tmp n)=.iface t' v)(u:P.underlying t=O d)(hd:∀m,d≠.interface m)(A:t'≠t)(h:∀w,(zAW t).run P w=.ok z w/\(zAW t).events P w #[]=#[])(w):(zx ρ o).run P w=.ok (.value (.tuple #[z,.bool zb])) w/\(zx ρ o).events P w #[]=#[]:=by
 unfold zx;simp only[C,D];have q:(underlying t).run P w=.ok d w:=zL u w
 have E:(underlying t).events P w #[]=#[]:=by
  simp only[underlying];simp[u]
 constructor
 .simp only[Instr.typeAssert,zZ,q,zAV];cases d<;>first|exact absurd rfl (hd _)|simp[A,zZ,(h w).1,zAk]
 .simp only[Instr.typeAssert,Sem.events_bind,zZ,q,E,Result.evThen_ok];cases d<;>first|exact absurd rfl (hd _)|simp[A,q,zZ,Sem.events_bind,(h w).1,(h w).2,zAk,zBJ]
def qqa{ρ:Operand->zg}{o:zDA}{n x y:Z}{ats:zS zAw}{v a b:zg}(hop:o.op=.call {callee:=.invoke (.tmp n) "hydrant/plane.step",args:=#[.tmp x,.tmp y],argTypes:=ats})(hv:ρ (.tmp n)=.iface 257 v)(hx:ρ (.tmp x)=a)(hy:ρ (.tmp y)=b)(w:zp):(zx ρ o).run Tryz.prog w=.ok (.enter 275 #[v,a,b]) w/\CA ((zx ρ o).events Tryz.prog w #[]):=by
 have hbn:Tryz.f275.body.isNone=zb:=by rfl
 have hnm:(Tryz.f275.name== "runtime.NumGoroutine")=zb:=sd
 have hcf:∀args,(callFunc 275 args).run Tryz.prog w=.ok (.enter 275 args) w/\(callFunc 275 args).events Tryz.prog w #[]=#[]:=λargs=>by
  unfold callFunc;simp[Tryz.func275,Sem.run,hnm,hbn,<-beq_iff_eq,-beq_iff_eq];have hbn':Tryz.f275.body≠zc:=λh=>by rw[h]at hbn;cases hbn
  exact⟨λh=>absurd h hbn',λh=>absurd h hbn'⟩
 have hm:=qkS v w;have hq:=q2T v w;unfold zx;simp only[hop,resolve,hv]
 have e0:(callMethod (.iface 257 v) "hydrant/plane.step" #[a,b]).run Tryz.prog w=.ok (.enter 275 #[v,a,b]) w:=by
  simp only[callMethod,zZ,run_program,zAV,hm];exact(hcf _).1
 have e1:(callMethod (.iface 257 v) "hydrant/plane.step" #[a,b]).events Tryz.prog w #[]=#[]:=by
  simp only[callMethod,Sem.events_bind,run_program,Result.evThen_ok,hm,hq];simp only[Sem.events,program,hm,hq,Result.evThen_ok];exact(hcf _).2
 have e:(invoke (.fn (.method "hydrant/plane.step") #[]) #[.iface 257 v,a,b]).run Tryz.prog w=.ok (.enter 275 #[v,a,b]) w:=e0;have e2:(invoke (.fn (.method "hydrant/plane.step") #[]) #[.iface 257 v,a,b]).events Tryz.prog w #[]=#[]:=e1;constructor
 .simpa[zZ,hx,hy]using e
 .have:(pure {target:=Target.fn (.method "hydrant/plane.step") #[],args:=#[Value.iface 257 v]++#[Operand.tmp x,Operand.tmp y].map ρ}:Sem Deferred).events Tryz.prog w #[]=#[]:=se
  simp[Sem.events_bind,hx,hy,e2,zBJ];exact qdD
noncomputable def qed:zDE:=(Tryz.f83.body).getD .skip
def J2:ZT 230 (.agg ⟨[]⟩):=qiW sd
def J5:∃d,Tryz.prog.underlying 230=O d/\∀m,d≠.interface m:=by
 have h:((Tryz.prog.underlying 230).map λd=>match d with
  |.interface _=>zb
  |_=>I)=O I:=sd
 obtain⟨d,q,u⟩:=zD.1 h;refine⟨d,q,λm e=>?_⟩;subst e;cases u
section
variable{g:GW}{cs ms:F zg}{w:Wd}{m:Ah}
def qvR(Q:rWo g cs w)(hM:qdA g ms m)(ad:SnW w)(ae:BgW 1000000 w)(af:SmO m)(R:1<=m.op.kind/\m.op.kind<=6):Ok Tryz.prog 83 [.agg ⟨cs⟩,.agg ⟨ms⟩] g (PsP w m):=by
 have ag:=Q;have ah:=hM;obtain⟨ai,aj,ak,al,am,an,ao,ap,aq,ar,rfl⟩:=qLA Q;obtain⟨au,av,aw,ax,ay,az,rfl⟩:=q1B hM;refine qmV (c:=qed) Tryz.func83 rfl sj (zAq rfl) λA L u b P T aA aB a w1 aC=>?_;unfold qed Tryz.f83;simp only[zAG];refine q0A (qCC u ((qZA A).snd _ u) sj aC (zq ?_));intros;intro aU w1 aD;refine q0A (qCC u ((qZA A).snd _ u) sj aD (zq ?_));intros;refine .inl ⟨_,KP _ R,zq ?_⟩;intros;intro aW aX U;refine q5J (q0A (.quiet rfl (λ_=>qPC) ?_));obtain⟨aY,aE,aF⟩:=J5;refine qWc T (by rfl) rfl (qZZ rfl (qGA (U.As 12 _ rfl)) aE aF sb J2) ?_;have aG:=U.put (d:=20) sb (v:=.tuple #[.agg ⟨[]⟩,.bool zb]) (.tup [.v (.agg ⟨[]⟩),.v (.bool zb)]) rfl;refine qZB (τ:=[1,2]) (rest:=[]) u ((qZA A).snd _ u) sj aG (K:=λC D=>∀h q,Stn Tryz.f83.ntmps L [] C D h q->A.G (G (b.atR h (.inRegion _ []::_)) P) q) (zq ?_) (λ_ _ h q E H=>E h q H);intros;intro aZ a0 V;refine .quiet rfl (λ_=>qyA) (qxK zb rfl rfl V ?_);refine q0A (qCC u ((qZA A).snd _ u) sj V (zq ?_));intros;intro a1 w5 aH;refine q0A (.quiet rfl (λ_=>qPC) ?_);refine qZB (τ:=[0,1,2]) (rest:=[3,4,5,6,7,8,9]) u ((qZA A).snd _ u) sj aH (K:=λC D=>∀h q,Stn Tryz.f83.ntmps L [] C D h q->A.G (G (b.atR h (.inRegion _ [3,4,5,6,7,8,9]::_)) P) q) (zq ?_) (λ_ _ h q E H=>E h q H);intros;intro aI w6 B;have aJ:=(qZc ag ah ad ae af R) w6 B.sim.AJ A (B.sim.N u);refine qHb T aA (by rfl) rfl (qqa (v:=qpS m.op.kind) rfl (qGA (B.As 13 _ rfl)) (qGA (B.As 14 _ rfl)) (qGA (B.As 15 _ rfl))) aJ λv w7 aK=>?_;obtain⟨a2,e,aL,W,Y,rfl,aa,ab⟩:=aK;cases e;have aM:=B.sim.called aL;have aN:Stn Tryz.f83.ntmps L [] _ _ aI w7:=⟨B.size,B.defers,B.As,aM⟩;have aO:=aN.put (d:=16) sb (v:=.tuple #[.agg ⟨W⟩,.agg ⟨Y⟩,.agg ⟨(psE w m).cs⟩]) (.tup [.v (.agg ⟨W⟩),.v (.agg ⟨Y⟩),.v (.agg ⟨(psE w m).cs⟩)]) rfl;have aP:=aa;have aQ:=ab;obtain⟨ai,aj,ak,al,am,an,ao,ap,aq,ar,rfl⟩:=qLA aa;obtain⟨au,av,aw,ax,ay,az,rfl⟩:=q1B ab;refine qZB (τ:=[4,5,6,7,8,9]) (rest:=[]) u ((qZA A).snd _ u) sj aO (K:=λC D=>∀h q,Stn Tryz.f83.ntmps L [] C D h q->A.G (G (b.atR h (.inRegion _ []::_)) P) q) (zq ?_) (λ_ _ h q E H=>E h q H);intros;intro aR w9 aT;refine .quiet rfl (λ_=>qyA) (aB _ _ aR w9 _ aT (zq ?_));intros;intro g2 ac;exact⟨_,_,rfl,qBA _ _ _ _ ac aP,qTA _ _ _ _ ac aQ⟩
end
structure Hv(w:Wd)(m:Ah):Prop where
 sn:SnW w
 bg:BgW 1000000 w
 sm:SmO m
 kind:1<=m.op.kind/\m.op.kind<=6
def F3:Z->Wd->Ah->Wd->Ah->Prop
 |0,_,_,_,_=>zX
 |k+1,w,m,x,n=>Hv w m/\(psE w m).access≠0/\(((psM w m).done=I/\k=0/\x=psW w m/\n=psM w m)\/((psM w m).done=zb/\F3 k (psW w m) (psM w m) x n))
structure Iq where
 j:Z
 g:GW
 w:Wd
 oa:zy zAI
 ca:Z
 ob:zy zAI
 cb:Z
 oc:zy zAI
 cc:Z
 od:zy zAI
 cd:Z
 oe:zy zAI
 ce:Z
 m:Ah
 o1:zy zAI
 t1:Z
 o2:zy zAI
 t2:Z
 o3:zy zAI
 t3:Z
abbrev Iq.wc(x:Iq):F zg:=[.int .i64 x.w.Ai,.int .i64 x.w.current,.int .i64 x.w.AL,.slice x.oa x.w.pins.length x.ca,.slice x.ob x.w.Ab.length x.cb,.slice x.oc x.w.Aa.length x.cc,.slice x.od x.w.counts.length x.cd,.slice x.oe x.w.An.length x.ce]
abbrev Iq.mc(x:Iq):F zg:=x.m.cs (.slice x.o1 x.m.op.Ao.Aa.length x.t1) (.slice x.o2 x.m.op.Ao.Ar.length x.t2) (.slice x.o3 x.m.op.Ao.Ad.length x.t3)
def qyR(g){cs ec}{w x}{m n:Ah}{o}{k}{A}{B C}(D:rWo g cs w)(an:rOp g ec o)(ao:Ok Tryz.prog 82 [.int .i64 0,.agg ⟨ec⟩,.slice A B C] g λv g'=>∃E,v=.agg ⟨E⟩/\qdA g' E m)(h:F3 k w m x n)(aY:k<=9999):Ok Tryz.prog 46 [.agg ⟨cs⟩,.int .i64 0,.agg ⟨ec⟩,.slice A B C] g λv g'=>∃T,v=.tuple #[.agg ⟨T⟩,.agg ⟨n.answer.cs⟩,.int .i64 k]/\rWo g' T x/\n.answer.ok:=by
 obtain⟨U,V,W,Y,aa,ab,ac,ad,ae,af,rfl⟩:=qLA D;obtain⟨aZ,a0,a1,a2,a3,a4,rfl⟩:=qFI an
 exact Ok.Aq hm noT 0 NZ.2 (args:=[.v (.agg ⟨_⟩),.v (.int .i64 0),.v (.agg ⟨_⟩),.v (.slice A B C)]) (by
  refine zq ?_;intros;rename_i a5 a6 ap aq;refine .inr (ao.mono λv g1 ar hM=>?_);obtain⟨E,rfl,hM⟩:=hM;obtain⟨ag,ah,ai,aj,ak,al,rfl⟩:=q1B hM;refine zq ?_;intros;rename_i au av;refine zq ?_;intros;refine⟨Iq,λx=>[.v (.int .i64 x.j)],λy=>⟨y.g,[.blk 5 av 44 (y.wc.map SV.v),.blk 4 au 112 (y.mc.map SV.v),.blk 3 aq 55 zl4,.blk 2 ap 44 [.v (.int .i64 0),.v (.int .i64 0),.v (.int .i64 0),.v (.slice zc 0 0),.v (.slice zc 0 0),.v (.slice zc 0 0),.v (.slice zc 0 0),.v (.slice zc 0 0)],_,_],_,_⟩,λy=>y.j<k/\g1<=y.g/\rWo y.g y.wc y.w/\qdA y.g y.mc y.m/\F3 (k-y.j) y.w y.m x n,λy=>k-y.j,qfA (⟨0,g1,w,U,V,W,Y,aa,ab,ac,ad,ae,af,m,ag,ah,ai,aj,ak,al⟩:Iq) rfl ⟨?_,GW.refl _,qBA _ _ _ _ ar D,hM,h⟩ rfl,?_⟩
  .show 0<k;cases k with
   |zero=>exact h.elim
   |succ k=>omega
  clear hM D h;intro y aw;obtain⟨j,a7,w,U,V,W,Y,aa,ab,ac,ad,ae,af,m,ag,ah,ai,aj,ak,al⟩:=y;obtain⟨am,ax,ay,az,h⟩:=aw;replace am:j<k:=am;replace h:F3 (k-j) w m x n:=h;obtain⟨d,aA⟩:∃d,k-j=d+1:=⟨k-j-1,sa⟩;rw[aA]at h;obtain⟨u,aB,q⟩:=h;refine zq ?_;intros;refine⟨λ_=>zq ?_,λH=>absurd (zf H) (by show ¬¬((j:zt)<10000);omega)⟩;intros;refine .inr ((qvR ay az u.sn u.bg u.sm u.kind).mono λv aC aD aE=>?_);obtain⟨a8,a9,rfl,L,P⟩:=aE;obtain⟨aF,aG,aH,aI,aJ,aK,aL,aM,aN,aO,rfl⟩:=qLA L;obtain⟨aP,aQ,s3,s4,s5,s6,rfl⟩:=q1B P;refine zq ?_;intros;refine⟨λH=>absurd (Cn H) aB,λ_=>zq ?_⟩;intros;refine⟨λQ=>?_,λQ=>?_⟩
  .rcases q with⟨_,aR,rfl,rfl⟩|⟨R,_⟩
   rotate_left
   .exact absurd (Q.symm.trans R) sb
   obtain rfl:d=0:=aR;refine zq ?_;intros;intro g2 aT;refine⟨_,zI (λz=>Value.tuple #[_,_,zK .i64 z]) (show zAj.wrap ((j:zt)+1)=(k:zt) by rw[wr (x:=(j:zt)+1) si];omega),qBA _ _ _ _ aT L,?_⟩;obtain⟨_,_,_,_,aU,_⟩:=P;exact aU.answer
  .rcases q with⟨R,_⟩|⟨_,q⟩
   .exact absurd (Q.symm.trans R) sb
   have aW:j+1<k:=by
    cases d with
    |zero=>exact q.elim
    |succ d=>omega
   refine zq ?_;intros;refine λba bb aX=>⟨⟨j+1,aC,psW w m,aF,aG,aH,aI,aJ,aK,aL,aM,aN,aO,psM w m,aP,aQ,s3,s4,s5,s6⟩,zI (λz=>[zK .i64 z]) (show((j+1:Z):zt)=zAj.wrap ((j:zt)+1) by rw[wr (x:=(j:zt)+1) si];omega),⟨aW,GW.trans ax aD,L,P,by show F3 (k-(j+1)) _ _ _ _;rw[show k-(j+1)=d by omega];exact q⟩,by show k-(j+1)<k-j;omega,?_⟩
   exact aX.fit sc)
end Go.Proofs.YtlmhpamhhgogaaaGreat
namespace Go.Proofs.YtlmhpamhhgogaaaGreat.Sx
open Go.Conc (G)
open Go.Duo
open Go.RowKit
section
variable{P:zv}
def qQT{E:Env P}{f:zA5}{fn:Func}{c:zDE}{rs:F G7}(C:P.funcs[f]?=O fn)(L:fn.body=O c)(Q:qfJ P fn.results.toList=O rs){args:F zg}{fr:Fr}{hs:Hs}{w:zp}(T:Ap fr hs w){K:SV->Hs->Prop}(ag:args.length<=fn.ntmps)(h:∀(b:zAm)(cs:F zAm),b.roundOf=zc->b.kind≠.early->(∀sl hs a w k,Stn fn.ntmps fr [] sl hs a w->(Gs rs sl hs λv=>K v hs)->E.G (G (b.atR a (.code .ret::k)) cs) w)->∀a,Stn fn.ntmps fr [] (qUI (args.map .v) 0) hs a w->E.G (G (b.atR a [.code c]) cs) w):BI E f args.toArray w λe w'=>∃v D,e=.returned (Ag v)/\Ap fr D w'/\K v D:=by
 intro H cs q;let b:zAm:={(default:zAm)with fn:=f,kind:=.normal,roundOf:=zc}
 have U:zAR P f args.toArray .normal=b.atR {tmps:=args.toArray++zAP (fn.ntmps-args.toArray.size) zAU,defers:=[]} [.code c]:=by
  simp[zAR,zAM,C,L,b]
 rw[U];refine h b (H::cs) rfl (by simp[b]) (λsl hs a V k u W=>?_) _ ⟨sf,rfl,λn x Y=>?_,T⟩
 .refine .quiet rfl (λ_=>q0L rfl) ?_;obtain⟨l,aa,ab⟩:=qqD Q W
  have ac:∃v:SV,Ag v=q3U (qCA l)/\K v hs:=by
   match l,aa with
   |[],q=>exact⟨.tup [],rfl,q⟩
   |[x],q=>exact⟨x,rfl,q⟩
   |x::y::r,q=>exact⟨.tup (x::y::r),rfl,q⟩
  obtain⟨v,A,ad⟩:=ac;refine qkH (R:=λe w'=>e=.returned (Ag v)/\Ap fr hs w') [] V _ H cs rfl u.defers C rfl (λd=>⟨Ag v,?_,rfl,u.sim.at d⟩) λah w'⟨e,ae⟩=>?_
  .rw[A];exact qxD (ab a.tmps u.As _ _ (u.sim.at d))
  .cases e;exact q _ _ ⟨v,hs,rfl,ae,ad⟩
 .obtain⟨i,rfl,B⟩:=qxE _ 0 n x Y;have af:i<args.length:=by have:=(ze.1 B).1;simpa using this
  rw[zAy]at B;obtain⟨v,A,rfl⟩:=zD.1 B;show(args.toArray++_)[0+i]?=_;rw[zAr,zCn (by simpa using af)];simp[A,Ag]
def qUc{E:Env P}{b:zAm}{a:zDz}{k:F Item}{cs:F zAm}{ops:zS zDA}{i:Z}{rest:F Z}{o:zDA}{w:zp}(q:b.roundOf=zc)(h:ops[i]?=O o)(u:o.guard=zc){v:zg}(A:∀d,∃w',(zx a.eval o).run P (w.at d)=.ok (.value v) w'/\CA ((zx a.eval o).events P (w.at d) #[])/\B8 E.N (w.at d) w'/\E.G (G (b.atR (a.put o.dst v) (.inRegion ops rest::k)) cs) w'):E.G (G (b.atR a (.inRegion ops (i::rest)::k)) cs) w:=by
 refine .one rfl λd=>?_;obtain⟨w',B,C,D,H⟩:=A d;have hs:o.semAt b.roundOf a.eval=zx a.eval o:=by rw[q];rfl
 refine⟨_,w',_,by rw[qzM h (by simp[zAl,u]),hs,qHD B,zBc,h];rfl,D,?_,H⟩;unfold lst;split
 .exact CA.seen qdD
 .exact CA.seen C
def q2Z{E:Env P}{b:zAm}{a:zDz}{k:F Item}{cs:F zAm}{ops:zS zDA}{i:Z}{rest:F Z}{w:zp}(h:b.roundOf=zc){dst:zy Z}{OP:Op}(q:∃o,ops[i]?=O o/\o.guard=zc/\o.dst=dst/\o.op=OP){v:zg}(u:∀(o:zDA)(d:Z),o.op=OP->∃w',(zx a.eval o).run P (w.at d)=.ok (.value v) w'/\CA ((zx a.eval o).events P (w.at d) #[])/\B8 E.N (w.at d) w'/\E.G (G (b.atR (a.put dst v) (.inRegion ops rest::k)) cs) w'):E.G (G (b.atR a (.inRegion ops (i::rest)::k)) cs) w:=by
 obtain⟨o,A,B,C,D⟩:=q;exact qUc h A B λd=>by rw[C];exact u o d D
def Ok.Jz(hm:P.follows .mixedOrders=I){H}(U:∀(E:Env P)(fr:Fr),fr.has E->CC E fr H){f}{V}{W}{D}(Y:FN P f V W=O D){args}{g}{Q}(h:fnS P H D noY args ⟨g,[],0,g.w.heap.size⟩ λv L=>Gv v L λv' A=>qqJ v' λx=>∀g2,A.g<=g2->Q x g2):Ok P f (qCA args) g Q:=by
 intro w R E hE;have aa:Ap ⟨w,(·<w.heap.size),g.g,λ_ h=>h⟩ ⟨g,[],0,g.w.heap.size⟩ w:=⟨R,⟨rfl,rfl,rfl,zH _,λ_ _=>rfl⟩,(λr ab=>by cases ab),zBW,(λb B=>by cases B),(λn _ h=>h),(λn ac ad _=>by have:=g.wf n ad;exact absurd ac (zDu.2 this)),R.1,λb B=>by cases B⟩;refine(q1G hm (λfr=>U E fr) Y (λn u=>zQ u hE) (qOG E _) h aa).mono ?_;rintro e ai ⟨v,L,rfl,ae,C⟩;obtain⟨v',A,C,af,q⟩:=qEG v C ae;have T:=qBD v' C;rw[af]at T;refine⟨_,rfl,⟨q.frm.os,q.frm.tape,q.frm.output,q.frm.size,λn u=>q.frm.block n u⟩,T _ ⟨q.AJ.1,λn u=>⟨⟨zQ (A.g.wf n u) q.AJ.1,?_⟩,q.AJ.2 n u⟩⟩⟩;rcases zAJ n w.heap.size with ag|ah
 .exact .inl (q.fz n ag u)
 .exact .inr ah
def qjV(P:zv)(X:qNA)(h:F (Z×FnI)):Z->qNA
 |0=>X
 |d+1=>λq f args hs K=>match qSM f h with
  |some u=>fnS P (qjV P X h d) u q args hs K
  |none=>X q f args hs K
def qTI(E:Env P)(hm:P.follows .mixedOrders=I){X}(u:∀fr:Fr,fr.has E->CC E fr X){A}(B:q6B P A):∀(d:Z)(fr:Fr),fr.has E->CC E fr (qjV P X A d)
 |0,fr,h=>u fr h
 |d+1,fr,h=>λH C f args hs K q w D=>by
  simp only[qjV]at q;split at q
  .rename_i R L;obtain⟨o,l,Q⟩:=B _ (qBJ L);exact q1G hm (λfr=>qTI E hm u B d fr) Q h C q D
  .exact u fr h H C f args hs K q w D
end
end Go.Proofs.YtlmhpamhhgogaaaGreat.Sx
namespace Go.Proofs.YtlmhpamhhgogaaaGreat
open Go.Conc (G)
open Go.Proofs.YtlmhpamhhgogaaaGreat.Sx Go.Duo Go.RowKit
noncomputable def qMZ:zDE:=(Tryz.f88.body).getD .skip
def qGb{P}{ρ}{o}{n t e b j cap}{ty}{pre post}{u}(B:o.op=.call {callee:=.builtin .clear,args:=#[.tmp n],argTypes:=#[t]})(h:ρ (.tmp n)=.slice (O ⟨b,j,zc⟩) 1 cap)(C:P.underlying t=O (.slice e))(q:∀w,(zAW e).run P w=.ok (.int .i64 0) w/\(zAW e).events P w #[]=#[])(T:pre.length=j){w}(D:w.heap[b]?=O (.cells ⟨pre++u::post⟩ ty (0,0))):∃w',(zx ρ o).run P w=.ok (.value (.tuple #[])) w'/\(∀e∈(zx ρ o).events P w #[],∃x,e.loc=.cell x)/\w'.heap[b]?=O (.cells ⟨pre++.int .i64 0::post⟩ ty (0,0))/\w'.heap.size=w.heap.size/\(∀k,k≠b->w'.heap[k]?=w.heap[k]?)/\w'.os=w.os/\w'.tape=w.tape/\w'.output=w.output:=by
 obtain⟨w',E,U,V,W,Y,aa,ab⟩:=qzB (P:=P) [.int .i64 0] 0 j w (pre++u::post) D sf (by intro v h;simp at h;subst h;rfl);have H:(Builtin.zeroCells #[zK .i64 0] 1).toList=[.int .i64 0]:=by simp[Builtin.zeroCells]
 have L:(underlying t).run P w=.ok (.slice e) w:=zL C w
 have ac:(underlying t).events P w #[]=#[]:=by
  simp only[underlying];simp[C]
 have Q:(Builtin.clear_ #[t] o.type #[.slice (O ⟨b,j,zc⟩) 1 cap]).run P w=.ok (.tuple #[]) w':=by
  simp[Builtin.clear_,zZ,L,(q w).1,zAk,Value.cells,H,E]
 have ad:(Builtin.clear_ #[t] o.type #[.slice (O ⟨b,j,zc⟩) 1 cap]).events P w #[]=(storeCells ⟨b,j,zc⟩ [.int .i64 0] 0).events P w #[]:=by
  simp[Builtin.clear_,zZ,Sem.events_bind,L,ac,(q w).1,(q w).2,zAk,zBJ,Value.cells,H,E]
 refine⟨w',?_,?_,by rw[U];subst T;simp,V,W,Y,aa,ab⟩
 .unfold zx;simp only[B];simp[resolve,h,invoke,builtin,zZ,Q,zAk]
 .intro ev R
  have:(zx ρ o).events P w #[]=(storeCells ⟨b,j,zc⟩ [.int .i64 0] 0).events P w #[]:=by
   unfold zx;simp only[B];simp[resolve,h,invoke,builtin,zZ,Sem.events_bind,Q,ad,zAk,zBJ]
  rw[this]at R;rcases events_storeCells_at (P:=P) b j ty [.int .i64 0] 0 ⟨pre++u::post⟩ w #[] D sf (by intro v h;simp at h;subst h;rfl) ev R with A|⟨x,A,_⟩
  .simp at A
  .exact⟨x,A⟩
def zt3:ZT 3 (.int .i64 0):=qiW sd
def LF:Tryz.prog.underlying 29=O (.slice 3):=sd
def q9T{g g1 g2}{b}{C u}(h:Upd g b C g1)(q:Upd g1 b u g2):Upd g b u g2:=
 ⟨λn=>(q.dom n).trans (h.dom n),q.obj,λn A B=>(q.other n ((h.dom n).2 A) B).trans (h.other n A B),zY h.size q.size⟩
def qCb{h}{b n cap k}{cs rest}(A:h.g b)(B:h.w.heap[b]?=O (.cells ⟨cs++rest⟩ 3 (0,0)))(E:cs.length=n)(H:k<n)(C:n<=cap/\cap<=zAp):CQ h 1 (.slice (if cap=k+1 then O ⟨b,0,zc⟩else(O (⟨b,0,zc⟩:zAI)).map (·.add ((k+1)*1))) (n-(k+1)) (cap-(k+1))) (n-(k+1)) (cs.drop (k+1)):=by
 refine⟨sf,_,_,rfl,sa,by have:=C.2;omega,λu=>?_,λi L q=>?_⟩
 .split at u<;>cases u
 .rw[zCl]at q;have D:=(ze.1 q).1;rw[zj sa];refine⟨_,rfl,?_,?_⟩
  .show h.g (Addr.add (Addr.add ⟨b,0,zc⟩ ((k+1)*1)) i).block;rw[qoA,qoA];exact A
  .show h.w.cell? (Addr.add (Addr.add ⟨b,0,zc⟩ ((k+1)*1)) i)=_;rw[qoA,qoA,qJB B];simp only[zAr,zCx];simp[zAc D,q]
def q6V{E:Env Tryz.prog}{fr:Fr}(h:fr.has E){D:GW}{ab:F Res}{ac Q:Z}{w:zp}(al:Ap fr ⟨D,ab,ac,Q⟩ w){b n cap k:Z}{cs rest:F zg}(B:Q<=b/\D.g b)(ad:D.w.heap[b]?=O (.cells ⟨cs++rest⟩ 3 (0,0)))(am:cs.length=n)(an:k<n)(ae:n<=cap/\cap<=zAp)(ao:∀u∈cs,u.oneCell'=I){K:SV->Hs->Prop}(ap:∀g',Upd D b (.cells ⟨cs.eraseIdx k++.int .i64 0::rest⟩ 3 (0,0)) g'->K (.v (.slice (O ⟨b,0,zc⟩) (n-1) cap)) ⟨g',ab,ac,Q⟩):BI E 88 #[.slice (O ⟨b,0,zc⟩) n cap,.int .i64 k,.int .i64 ((k:zt)+1)] w λe w'=>∃v A,e=.returned (Ag v)/\Ap fr A w'/\K v A:=by
 have aW:cap<=9223372036854775807:=by have:=ae.2;unfold zAp at this;omega
 refine qQT (args:=[.slice (O ⟨b,0,zc⟩) n cap,.int .i64 k,.int .i64 ((k:zt)+1)]) (c:=qMZ) Tryz.func88 rfl sj al (zAq rfl) λR T af aX aq a ar=>?_;unfold qMZ Tryz.f88;simp only[zAG];refine q0A (qCC h ((qZA E).snd _ h) sj ar (zq ?_));intros;intro aY w1 au;refine q0A (qCC h ((qZA E).snd _ h) sj au (zq ?_));intros;refine⟨⟨sa,sa,sa,sa⟩,zq ?_⟩;intros;intro aZ a0 av;refine q0A (q0A (qCC h ((qZA E).snd _ h) sj av (zq ?_)));intros;intro a1 w3 ag;refine qxK zb rfl (by simp[Ag];omega) ag (qwI ?_);refine q0A (qCC h ((qZA E).snd _ h) sj ag (zq ?_));intros;intro a2 a3 aw;refine q0A (qEN hm h ((qZA E)) (λfr ax=>(qZA E).snd fr ax) af (oi:=.first 0 (.first 1 (.first 2 (.first 3 (.first 4 (.first 5 (.exec 6 (.first 7 .nil)))))))) sd sd sj sb (λd ay=>absurd ay zC) aw (K:=λU A=>∀q w',Stn Tryz.f88.ntmps fr [] U A q w'->E.G (G (R.atR q (.code _::_)) T) w') (zq ?_) (λ_ _ q w' V W=>V q w' W));intros;refine⟨⟨sa,sa⟩,zq ?_⟩;intros;refine⟨⟨sa,sa⟩,?_⟩;have e1:((k:zt)).toNat=k:=zBB k;have e2:((k:zt)+1).toNat=k+1:=sa
 simp only[e1,e2];refine zq ?_;intros;refine⟨cs.drop (k+1),⟨qCb B.2 ad am an ae,λu H=>ao u (zCu H)⟩,zw ?_⟩;refine .inr (.inr ⟨b,cs.take k,cs.drop k++rest,⟨rfl,B.1,B.2,by rw[<-zB2,zC7];exact ad,sf,sa,sf⟩,λg1 Y=>zq ?_⟩);intros;intro a4 w5 az;refine q0A (.quiet rfl (λ_=>qPC) ?_);refine qZB (τ:=[0,1,2,3,4]) (rest:=[5]) h ((qZA E).snd _ h) sj az (K:=λU A=>∀q w',Stn Tryz.f88.ntmps fr [] U A q w'->E.G (G (R.atR q (.inRegion _ [5]::_)) T) w') (zq ?_) (λ_ _ q w' V W=>V q w' W);intros;refine⟨⟨sa,sa,sa⟩,zq ?_⟩;intros;intro L w6 C
 have aA:L.tmps[31]?=O (.slice (O ⟨b,n-1,zc⟩) 1 (cap-(n-1))):=by
  have:=C.As 31 _ rfl;simp only[Ag,zBB]at this;rw[this,zj sa];simp only[zBv,qoA];rw[show k+(n-(k+1))=n-1 by omega,show n-(n-1)=1 by omega,show 0+(n-1)*1=n-1 by omega]
 have aB:cs.take k++cs.drop (k+1)=cs.eraseIdx k:=(List.eraseIdx_eq_take_drop_succ ..).symm;obtain⟨u,H⟩:∃u,cs[n-1]?=O u:=⟨_,zAa sa⟩
 have aC:(cs.drop k++rest).drop (cs.drop (k+1)).length=u::rest:=by
  rw[zBN,zCF sf,zCJ,show k+(cs.length-(k+1))=n-1 by omega]
  have:cs.drop (n-1)=[u]:=by
   rw[zB5 sa,show n-1+1=cs.length by omega,List.drop_length];rw[zAa sa]at H;rw[zn H]
  rw[this];rfl
 have ah:=Y.obj;rw[aB,aC]at ah;refine q2Z af (OP:=.call {callee:=.builtin .clear,args:=#[.tmp 31],argTypes:=#[29]}) ⟨_,rfl,rfl,rfl,rfl⟩ (v:=.tuple #[]) λo d aD=>?_;have aa:=C.sim.at d;have ai:g1.g b:=(Y.dom b).2 B.2;have aE:=(aa.AJ.2 b ai).trans ah;obtain⟨w7,aF,aG,aH,aI,aJ,aK,aL,aM⟩:=qGb (P:=Tryz.prog) (ρ:=L.eval) (b:=b) (j:=n-1) (cap:=cap-(n-1)) (pre:=cs.eraseIdx k) (post:=rest) (u:=u) (ty:=3) (n:=31) (t:=29) (e:=3) aD (qGA aA) LF zt3 (by rw[zCM];split<;>omega) aE;obtain⟨g2,aN,aj⟩:=aa.H9 B.1 ai aK aL aM aI aH aJ;refine⟨w7,aF,λe aO=>by obtain⟨x,aP⟩:=aG e aO;rw[aP];exact⟨se,se⟩,aa.keep aj h,?_⟩;have aQ:Stn Tryz.f88.ntmps fr [] _ _ L w7:=⟨C.size,C.defers,C.As,aj⟩;refine .quiet (g:=G (R.atR L (.inRegion _ []::_)) T) rfl (λ_=>qyA) ?_;refine q0A (qCC h ((qZA E).snd _ h) sj aQ (zq ?_));intros;intro aR aT aU;refine aq _ _ aR aT _ aU (zw ?_);have ak:=ap g2 (q9T Y aN);rw[<-show k+(n-(k+1))=n-1 by omega]at ak;exact ak
def L9(K:SV->Hs->Prop)(args:F SV)(hs:Hs):Prop:=match hs with
 |⟨h,B,C,q⟩=>∃(b n cap k:Z)(cs u:F zg),args=[.v (.slice (O ⟨b,0,zc⟩) n cap),.v (.int .i64 k),.v (.int .i64 ((k:zt)+1))]/\((q<=b/\h.g b)/\h.w.heap[b]?=O (.cells ⟨cs++u⟩ 3 (0,0))/\cs.length=n/\k<n/\(n<=cap/\cap<=zAp)/\∀D∈cs,D.oneCell'=I)/\
   ∀A,Upd h b (.cells ⟨cs.eraseIdx k++.int .i64 0::u⟩ 3 (0,0)) A->K (.v (.slice (O ⟨b,0,zc⟩) (n-1) cap)) ⟨A,B,C,q⟩
def dlH:qNA:=λh f args hs K=>okH Tryz.prog h f args hs K\/(f=88/\L9 K args hs)
def q9a(E:Env Tryz.prog)(fr:Fr)(q:fr.has E):CC E fr dlH:=λA B f args hs K h w u=>by
 rcases h with h|⟨rfl,h⟩
 .exact(qZA E).snd fr q A B f args hs K h w u
 obtain⟨T,U,V,W⟩:=hs;obtain⟨b,n,cap,k,cs,Y,rfl,⟨C,D,H,L,P,Q⟩,R⟩:=h;exact q6V q u C D H L P Q R
def tOp:F (Z×FnI):=[(56,AD.1),(87,EO.1)]
def qmb:q6B Tryz.prog tOp:=by
 intro x h;simp only[tOp,zs,zC,zAt]at h;rcases h with rfl|rfl
 .exact⟨_,_,AD.2⟩
 .exact⟨_,_,EO.2⟩
abbrev nV(l:F Z):F zg:=l.map λ(n:Z)=>zK .i64 (n:zt)
def q0R{l}:∀u∈nV l,u.oneCell'=I:=λu h=>by
 obtain⟨n,_,rfl⟩:=zU.1 h;rfl
def qPG{h q:Type}(f:h->q):∀(l:F h)(k:Z),(l.map f).eraseIdx k=(l.eraseIdx k).map f
 |[],_=>rfl
 |_::_,0=>rfl
 |x::l,k+1=>by simp[qPG f l k]
structure Lz where
 i:Z
 out:F Z
 g:GW
 oa:zy zAI
 cap:Z
def qVQ(g){U}{L}{given}(V:rSl 13 E9 g (.slice U given.length L) given)(a2:given.length<=1000):Ok Tryz.prog 45 [.slice U given.length L] g λv g'=>∃oa cap out,v=.slice oa (List.length out) cap/\out=opL given given.length/\(∀n∈out,n<given.length)/\CQ g' 1 v out.length (nV out)/\g<=g':=by
 exact Ok.Jz hm (λaz B aJ=>qTI az hm (q9a az) qmb 2 B aJ) NH.2 (args:=[.v (.slice U given.length L)]) (by
  refine zq ?_;intros;rename_i ah;refine zq ?_;intros;refine⟨Lz,λy=>[.v (.slice y.oa y.out.length y.cap),.v (.int .i64 y.i)],λy=>⟨y.g,[.blk 0 ah 38 [.v (.slice U given.length L)]],_,_⟩,λy=>y.i<=given.length/\g<=y.g/\Br y.g g.w.heap.size 3 1 (.slice y.oa y.out.length y.cap) y.out.length (nV y.out)/\(y.out.length<=y.i/\y.out=opL given y.i/\∀n∈y.out,n<given.length),λy=>given.length-y.i,qfA (⟨0,[],g,zc,0⟩:Lz) rfl ⟨zJ _,GW.refl _,⟨rfl,.inl ⟨rfl,rfl⟩,q0R⟩,zH _,rfl,λn h=>absurd h zC⟩ rfl,?_⟩;intro y aK;obtain⟨i,out,W,oa,cap⟩:=y;obtain⟨aA,A,C,aL,D,E⟩:=aK;replace aA:i<=given.length:=aA;dsimp only at A C aL D E⊢;refine zq ?_;intros;refine⟨λaM=>?_,λaN=>?_⟩;rotate_left
  .refine zq ?_;intros;intro g2 V;have aO:i=given.length:=by have:=zf aN;omega
   refine⟨oa,cap,out,rfl,aO▸D,E,C.rd.mono V,GW.trans A V⟩
  have P:i<given.length:=by have:=zd aM;omega
  obtain⟨H,Q⟩:=qEA P;have T:zAj.wrap ((i:zt)+1)=((i+1:Z):zt):=by rw[wr (x:=(i:zt)+1) si];omega
  obtain⟨a3,a4,e1,a5,a6,a7,aB⟩:=id (V.mono qDG A);cases e1;obtain⟨a,rfl,a8,a9,⟨rfl,ba⟩,aP⟩:=aB i H Q;refine zq ?_;intros;refine⟨a,rfl,⟨sa,sa⟩,zw ?_⟩;refine⟨_,⟨rfl,aP⟩,zq ?_⟩;intros;refine⟨λai=>?_,λai=>?_⟩
  .have R:H.kind=1:=Cn ai;rcases C with⟨aQ,⟨u,aC⟩|⟨b,aR,Y,u,⟨aa,ab⟩,aj,ak,ac,al⟩,_⟩
   .simp only[zAg]at u;obtain⟨rfl,_,rfl⟩:=u;obtain rfl:out=[]:=zCd aC;refine zq ?_;intros;refine⟨⟨by unfold zAp;omega,sa⟩,zq ?_⟩;intros;rename_i ad ae;refine zw ?_;refine λB w q=>?_;obtain⟨g3,am,_,an,ao⟩:=(q.fit (nx':=1) (rs':=[.row 3 ad 1 ae 3 1 [.int .i64 i],.blk 0 ah 38 [.v (.slice (O a) given.length L)]]) sc).BW;exact⟨⟨i+1,[i],g3,_,_⟩,zI (λz=>[_,zK .i64 z]) T.symm,⟨P,GW.trans A am,an,se,by rw[qaD Q,<-D];unfold Gg;rw[zk R];rfl,λn h=>by simp at h;omega⟩,by show given.length-(i+1)<given.length-i;omega,ao⟩
   .simp only[zAg]at u;obtain⟨rfl,_,rfl⟩:=u;refine zq ?_;intros;refine .inr (.inl ⟨b,nV out,Y,⟨rfl,aa,ab,aj,se,q0R,ak,ac,al,by unfold zAp;omega,sa⟩,λbb aT ad ae=>zq ?_⟩);intros;refine λB w q=>?_;obtain⟨g3,am,_,an,ao⟩:=(q.fit (nx':=1) (rs':=[.row 3 ad (out.length+1) ae 3 1 (nV out++[.int .i64 i]),.blk 0 ah 38 [.v (.slice (O a) given.length L)]]) sc).BW;have ap:¬g.g b:=λaq=>by have:=g.wf _ aq;omega
    exact⟨⟨i+1,out++[i],g3,ad,ae⟩,by rw[T];simp[qCA,Ag],⟨P,GW.trans (aT.le A ap) am,by simpa[nV]using an,sf,by rw[qaD Q,<-D];unfold Gg;rw[zk R],λn h=>by
     rcases zN.1 h with h|h
     .exact E n h
     .simp at h;omega⟩,by show given.length-(i+1)<given.length-i;omega,ao⟩
  have R:H.kind≠1:=Ei ai;refine zq ?_;intros;refine⟨λar=>?_,λar=>?_⟩;rotate_left
  .refine zq ?_;intros;refine λB w q=>⟨⟨i+1,out,W,oa,cap⟩,by rw[T],⟨P,A,C,by show out.length<=i+1;omega,by show out=_;rw[qaD Q,<-D];unfold Gg;rw[zj R,zj (Ei ar)],E⟩,by show given.length-(i+1)<given.length-i;omega,q.fit sc⟩
  have aD:H.kind=6:=Cn ar;have au:=C.rd;obtain⟨_,_,_,e2,bc,bd,be,au⟩:=au;cases e2;refine zq ?_;intros;refine⟨Z,λk=>[.v (.int .i64 k)],λk=>⟨W,_,_,_⟩,λk=>k<=out.length/\(out.take k).any (qtO given H)=zb,λk=>out.length-k,qfA 0 rfl ⟨zJ _,rfl⟩ rfl,?_⟩;rintro k ⟨bf,af⟩;refine zq ?_;intros;refine⟨λav=>?_,λav=>?_⟩
  .have ag:k<out.length:=by have:=zd av;omega
   obtain⟨n,h⟩:=qEA ag;obtain⟨aE,rfl,aU⟩:=au k (.int .i64 n) (by simp[nV,h]);have aW:n<given.length:=E n (zh h);obtain⟨aF,aG⟩:=qEA aW;obtain⟨bh,aX,bi,bj,⟨rfl,bl⟩,aY⟩:=aB n aF aG;cases aX;refine zq ?_;intros;have aZ:Rc W (aE.add (k*1)) (.int .i64 n):=by rw[zCx];exact aU
   refine zw ?_;refine⟨aE,rfl,⟨sa,sa⟩,zw ?_⟩;refine⟨_,aZ,zq ?_⟩;intros;refine⟨kF,zq ?_⟩;intros;refine⟨a,rfl,⟨sa,sa⟩,zw ?_⟩;refine⟨_,⟨rfl,aY⟩,zq ?_⟩;intros;have aH:qtO given H n=qiH H aF:=by simp only[qtO,aG]
   refine zw ?_;refine⟨λaw=>?_,λaw=>?_⟩
   .have ax:=qXN af h (by rw[aH];unfold qiH;simpa using aw);refine zq ?_;intros;refine dT sa (zq ?_);intros;rcases C with⟨aQ,⟨u,aC⟩|⟨b,aR,Y,u,⟨aa,ab⟩,aj,ak,ac,al⟩,_⟩
    .cases u
    simp only[zAg,zAh]at u;obtain⟨rfl,_,rfl⟩:=u;have ap:¬g.g b:=λaq=>by have:=g.wf _ aq;omega
    refine zq ?_;intros;refine .inr ⟨rfl,b,out.length,cap,k,nV out,Y,by rw[wr (x:=(k:zt)+1) si],⟨⟨aa,ab⟩,aj,se,ag,⟨ak,ac⟩,q0R⟩,λg3 ay=>zq ?_⟩;intros;refine λB w q=>⟨⟨i+1,out.eraseIdx k,g3,O ⟨b,0,zc⟩,cap⟩,by rw[T];simp[qCA,Ag,zCM,ag],⟨P,ay.le A ap,?_,by show(out.eraseIdx k).length<=i+1;rw[zCM];split<;>omega,by show out.eraseIdx k=_;rw[qaD Q,<-D,qVX R aD ax],λn h=>E n (List.mem_of_mem_eraseIdx h)⟩,by show given.length-(i+1)<given.length-i;omega,q.fit sc⟩;have aI:(out.eraseIdx k).length=out.length-1:=by rw[zCM];split<;>omega
    refine⟨se,.inr ⟨b,cap,.int .i64 0::Y,by rw[aI],⟨aa,(ay.dom b).2 ab⟩,?_,by show(out.eraseIdx k).length<=cap;omega,ac,?_⟩,q0R⟩
    .rw[ay.obj];simp only[nV,qPG]
    .simp only[zAx,zBa,zBy]at al⊢;rw[aI];omega
   .refine zq ?_;intros;refine λB w q=>⟨k+1,zI (λz=>[zK .i64 z]) (show((k+1:Z):zt)=zAj.wrap ((k:zt)+1) by rw[wr (x:=(k:zt)+1) si];omega),⟨ag,qVS af h (by rw[aH];unfold qiH;simpa using aw)⟩,by show out.length-(k+1)<out.length-k;omega,?_⟩;exact q.fit sc
  have a0:k=out.length:=by have:=zf av;omega
  rw[a0,zAX]at af;have ax:=qtV af;refine zq ?_;intros;refine⟨λa1=>absurd (zd a1) sb,λ_=>zq ?_⟩;intros
  refine λB w q=>⟨⟨i+1,out,W,oa,cap⟩,by rw[T],⟨P,A,C,by show out.length<=i+1;omega,by show out=_;rw[qaD Q,<-D,q0U R aD ax],E⟩,by show given.length-(i+1)<given.length-i;omega,q.fit sc⟩)
def mPl(o:OpD)(t:zt):Ah:=⟨o,t,0,0,0,-1,0,0,0,0,0,0,0,0,0,zb,BY,c60⟩
def Fb(given:F Ans)(o:OpD):Ans:=if 0<=o.n/\o.n<(opL given given.length).length then(given[((opL given given.length)[o.n.toNat]?).getD 0]?).getD BY else BY
def qtK(t:zt)(given:F Ans)(o:OpD):Ah:=if o.kind=2 then{Ch t (Fb given o)with op:=o}else mPl o t
abbrev HG(given:F Ans)(o:OpD):Ah:=qtK 0 given o
def qMX{g}{a b d}{o}{t}(q:InR t)(h:rOp g [.int .i64 o.kind,.string o.listen,.string o.Bb,.string o.path,.int .i64 o.d0,.int .i64 o.d1,.int .i64 o.n,a,b,d] o):qdA g ((mPl o t).cs a b d) (mPl o t):=by
 obtain⟨B,C,D,e,u,A⟩:=h;simp only[zAA,zA6,zBL]at e;obtain⟨rfl,rfl,rfl⟩:=e;exact⟨_,_,_,rfl,⟨q,z0,z0,z0,(by unfold InR;decide:InR (-1)),z0,z0,z0,z0,zu,z0,z0,z0,z0,qwH,qiG⟩,u,A⟩
def qNX{g}{a b d}{o}{A:Ans}{t}(u:InR t)(q:A.ok)(h:rOp g [.int .i64 o.kind,.string o.listen,.string o.Bb,.string o.path,.int .i64 o.d0,.int .i64 o.d1,.int .i64 o.n,a,b,d] o):qdA g (Ah.cs a b d {Ch t A with op:=o}) {Ch t A with op:=o}:=by
 obtain⟨D,E,H,e,B,C⟩:=h;simp only[zAA,zA6,zBL]at e;obtain⟨rfl,rfl,rfl⟩:=e;refine⟨_,_,_,rfl,⟨u,?_,z0,q.Ac,?_,q.Af,q.Ak,z0,q.slot,zu,z0,z0,z0,z0,qwH,qiG⟩,B,C⟩
 .unfold Ch InR;simp only;split<;>decide
 .unfold Ch;simp only;split
  .exact q.listen
  .unfold InR;decide
def qJI(g){D}{E}{given}{ec}{o}{t}(A:InR t)(aa:rSl 13 E9 g (.slice D given.length E) given)(ah:given.length<=1000)(ab:rOp g ec o):Ok Tryz.prog 82 [.int .i64 t,.agg ⟨ec⟩,.slice D given.length E] g λv g'=>∃ac,v=.agg ⟨ac⟩/\qdA g' ac (qtK t given o):=by
 have H:=ab;obtain⟨ai,aj,ak,al,am,an,rfl⟩:=qFI ab;obtain⟨_,_,_,ao,az,aA⟩:=id H;simp only[zAA,zA6]at ao
 exact Ok.Aq hm noT 0 Nw.2 (args:=[.v (.int .i64 t),.v (.agg ⟨_⟩),.v (.slice D given.length E)]) (by
  refine zq ?_;intros;refine⟨λL=>?_,λL=>?_⟩
  .have P:o.kind≠2:=by simpa using L
   refine zq ?_;intros;intro g2 q;refine⟨_,rfl,?_⟩;unfold qtK;rw[zj P];exact qMX A (qYD _ _ _ _ q H)
  have P:o.kind=2:=by simpa using L
  refine zq ?_;intros;refine .inr ((qVQ g aa ah).mono λv g1 ad ap=>?_);obtain⟨aB,cap,out,rfl,Q,aq,R,_⟩:=ap;obtain⟨aC,aD,e3,aE,aF,aG,ar⟩:=id (aa.mono qDG ad);cases e3;obtain⟨_,aH,aI,e4,aJ,aK,aL,R⟩:=R;cases e4
  have T:∀h,h.ok->Fb given o=h->∀g2,g1<=g2->qdA g2 (Ah.cs (.slice ai o.Ao.Aa.length aj) (.slice ak o.Ao.Ar.length al) (.slice am o.Ao.Ad.length an) {Ch t h with op:=o}) (qtK t given o):=λh C e g2 au=>by
   unfold qtK;rw[zk P,e];exact qNX A C (qYD _ _ _ _ (GW.trans ad au) H)
  refine zq ?_;intros;refine⟨λU=>?_,λU=>?_⟩
  .refine zq ?_;intros;refine⟨λV=>?_,λV=>?_⟩
   .have ae:0<=o.n:=zd U;have u:o.n<out.length:=zd V;obtain⟨n,W⟩:=qEA (show o.n.toNat<out.length by omega);obtain⟨af,rfl,av⟩:=R o.n.toNat (.int .i64 n) (by simp[nV,W]);have aw:n<given.length:=aq n (zh W);obtain⟨h,C⟩:=qEA aw;obtain⟨a,rfl,aM,aN,⟨rfl,ag⟩,ax⟩:=ar n h C;have ay:Rc g1 (af.add (o.n.toNat*1)) (.int .i64 n):=by rw[zCx];exact av
    have B:Fb given o=h:=by unfold Fb;rw[zk (by rw[<-Q];exact⟨ae,u⟩),<-Q,W];simp[C]
    refine zq ?_;intros;refine⟨af,rfl,⟨ae,u⟩,zw ?_⟩;refine⟨_,ay,zq ?_⟩;intros;refine⟨a,rfl,⟨sa,sa⟩,zw ?_⟩;refine⟨_,⟨rfl,ax⟩,zq ?_⟩;intros;refine .inl ⟨_,qNN _ A ag,zq ?_⟩;intros;intro g2 q;exact⟨_,rfl,T h ag B _ q⟩
   .have u:¬o.n<out.length:=zf V;have B:Fb given o=BY:=by unfold Fb;rw[zj (by rw[<-Q];exact λY=>u Y.2)]
    refine zq ?_;intros;refine .inl ⟨_,qNN (a:=BY) _ A qwH,zq ?_⟩;intros;intro g2 q;exact⟨_,rfl,T BY qwH B _ q⟩
  .have u:¬0<=o.n:=zf U;have B:Fb given o=BY:=by unfold Fb;rw[zj (λY=>u Y.1)]
   refine zq ?_;intros;refine .inl ⟨_,qNN (a:=BY) _ A qwH,zq ?_⟩;intros;intro g2 q
   exact⟨_,rfl,T BY qwH B _ q⟩)
def qQO{l}{Inv}(B:∀i W given,Inv i W given->given.length<=1000)(C:∀i W given o,Inv i W given->l[i]?=O o->∃k x n,F3 k W (HG given o) x n/\k<=9999/\(n.answer.ok->Inv (i+1) x (given++[n.answer]))):qQL l Inv:=by
 intro i W given o g cs R T h D hW q u;obtain⟨k,x,n,E,H,L⟩:=C i W given o h D;obtain⟨U,V,rfl,_⟩:=id u;refine(qyR g hW q (qJI g z0 u (B _ _ _ h) q) E H).mono λv Y _⟨P,e,Q,A⟩=>⟨P,n.answer,k,x,e,Q,A,L A⟩
def q1Z{l}(h:qtB l=I):l.length<=100:=by
 have q:∀l,qoJ l=I->l.length<=32:=λl h=>by
  unfold qoJ at h;simp only[zl,zF]at h;exact h.1
 unfold qtB at h;split at h
 .have:=q _ h;rw[zBN]at this;omega
 .rw[zCQ]at h;rcases h with h|h
  .rw[beq_iff_eq]at h;subst h;decide
  .have:=q _ h;omega
def q6M{c}(h:qOA c=zc):SnS (qiA c):=by
 have A:=AZ.1 h;have P:=A.size.2.1.2;refine⟨by simp[qiA];omega,λr B=>?_⟩;simp only[qiA,zU]at B;obtain⟨q,C,rfl⟩:=B;obtain⟨_,D,u,_⟩:=A.rt q C;unfold qDH at u;simp only[zl,zF]at u;have E:=q1Z D;have H:=u.1.1.2;show q.Bb.size<=100/\q.path.size<=100;have L:q.path.size<=32:=by simpa using H
 exact⟨by simpa using E,zY L sb⟩
structure GC(m:Ah)(k:zt):Prop where
 sm:SmO m
 kind:m.op.kind=k
def GC.next{m m':Ah}{k}(h:GC m k)(e:m'.op=m.op):GC m' k:=⟨by unfold SmO;rw[e];exact h.sm,by rw[e];exact h.kind⟩
def GC.Ig{m:Ah}{k}(h:GC m k)(q:1<=k/\k<=6){w}(hs:SnW w)(u:BgW 1000000 w):Hv w m:=⟨hs,u,h.sm,by rw[h.kind];exact q⟩
def qHc:∀{k:Z}{w:Wd}{m:Ah}{x:Wd}{n:Ah},B2 (k+1) w m x n->n.done=I->GC m 1->SnW w->BgW 1000000 w->F3 (k+1) w m x n
 |k,w,m,x,n,⟨B,q⟩,u,h,hs,A=>by
  have e1:psW w m=hsW w m:=zk h.kind;have e2:psM w m=hsM w m:=zk h.kind;have e3:psE w m=hsE w m:=zk h.kind;refine⟨h.Ig ⟨sb,sb⟩ hs A,by rw[e3];exact B,?_⟩;rw[e1,e2];cases k with
  |zero=>obtain⟨rfl,rfl⟩:=q;exact .inl ⟨u,rfl,rfl,rfl⟩
  |succ k=>
   refine .inr ⟨?_,qHc q u (h.next qSd) (qJF (K:=0) hs FV) (FV.1 A)⟩;cases C:(hsM w m).done with
   |false=>rfl
   |true=>exact absurd (qTM C) q.1
def qIc:∀{k:Z}{w:Wd}{m:Ah}{x:Wd}{n:Ah},BS (k+1) w m x n->n.done=I->GC m 2->SnW w->BgW 1000000 w->F3 (k+1) w m x n
 |k,w,m,x,n,q,u,A,hs,C=>by
  have h:m.op.kind=2:=A.kind;have e1:psW w m=fsW w m:=by unfold psW;rw[zj (by rw[h];decide),zk h]
  have e2:psM w m=fsM w m:=by unfold psM;rw[zj (by rw[h];decide),zk h]
  have e3:psE w m=fsE w m:=by unfold psE;rw[zj (by rw[h];decide),zk h]
  have D:fGo w m:=zB6 λE=>by
   have H:=BS.stuck E q;have:=q.1;rw[<-H,u]at this;cases this
  refine⟨A.Ig ⟨sb,sb⟩ hs C,by rw[e3,(q9I D).2.2];exact qZd,?_⟩;rw[e1,e2];obtain⟨L,B⟩:=q;cases k with
  |zero=>obtain⟨rfl,rfl⟩:=B;exact .inl ⟨u,rfl,rfl,rfl⟩
  |succ k=>exact .inr ⟨B.1,qIc B u (A.next qVd) (qJF (K:=0) hs FX) (FX.1 C)⟩
def KB{w}{m:Ah}(h:SnW w):SnW (swW w m):=λv q=>by
 rcases qdb q with q|⟨u,rfl⟩
 .exact h v q
 .exact q6M u
def qGc{K}:∀{k:Z}{w:Wd}{m:Ah}{x:Wd}{n:Ah},HR (k+1) w m x n->n.done=I->GC m 3->SnW w->BgW K w->4<=K->K+k<=1000000->F3 (k+1) w m x n/\SnW x/\BgW (K+k+1) x
 |k,w,m,x,n,⟨T,H,u⟩,B,A,hs,C,L,U=>by
  have h:m.op.kind=3:=A.kind;have e1:psW w m=swW w m:=by unfold psW;rw[zj (by rw[h];decide),zj (by rw[h];decide),zk h]
  have e2:psM w m=swM w m:=by unfold psM;rw[zj (by rw[h];decide),zj (by rw[h];decide),zk h]
  have e3:psE w m=swE w m:=by unfold psE;rw[zj (by rw[h];decide),zj (by rw[h];decide),zk h]
  have q:Hv w m/\(psE w m).access≠0:=⟨A.Ig ⟨sb,sb⟩ hs (BgW.up C sa),by rw[e3];exact qgZ H⟩;have D:=KB (m:=m) hs;have E:=qpd (m:=m) L C;cases k with
  |zero=>
   obtain⟨rfl,rfl⟩:=u;exact⟨⟨q.1,q.2,.inl (by rw[e1,e2];exact⟨B,rfl,rfl,rfl⟩)⟩,D,E⟩
  |succ k=>
   obtain⟨P,Q,R⟩:=qGc (K:=K+1) u B (A.next (Ku w m)) D E sa sa;exact⟨⟨q.1,q.2,.inr (by rw[e1,e2];exact⟨u.1,P⟩)⟩,Q,by rw[show K+(k+1)+1=K+1+k+1 by omega];exact R⟩
def qJc:∀{k:Z}{w:Wd}{m:Ah}{x:Wd}{n:Ah},CR (k+1) w m x n->n.done=I->GC m 5->SnW w->BgW 1000000 w->F3 (k+1) w m x n
 |k,w,m,x,n,⟨D,q,u⟩,B,A,hs,C=>by
  have h:m.op.kind=5:=A.kind;have e1:psW w m=cW w m:=by unfold psW;rw[zj (by rw[h];decide),zj (by rw[h];decide),zj (by rw[h];decide),zj (by rw[h];decide),zk h];exact(qqH q).1
  have e2:psM w m=cM w m:=by unfold psM;rw[zj (by rw[h];decide),zj (by rw[h];decide),zj (by rw[h];decide),zj (by rw[h];decide),zk h];exact(qqH q).2.1
  have e3:psE w m=cE w m:=by unfold psE;rw[zj (by rw[h];decide),zj (by rw[h];decide),zj (by rw[h];decide),zj (by rw[h];decide),zk h];exact(qqH q).2.2
  refine⟨A.Ig ⟨sb,sb⟩ hs C,by rw[e3];exact qkd q,?_⟩;rw[e1,e2];cases k with
  |zero=>obtain⟨rfl,rfl⟩:=u;exact .inl ⟨B,rfl,rfl,rfl⟩
  |succ k=>exact .inr ⟨u.1,qJc u B (A.next Lp) (qJF (K:=0) hs (qhG q).1) ((qhG q).1.1 C)⟩
structure SvI(N:F BA)(M0:CZ)(l:F OpD)(i:Z)(W:Wd)(given:F Ans):Prop where
 len:given.length=i
 hold:AU i W (opA given)
 sn:SnW W
 bg:BgW (1000+3*i) W
 pins:W.pins.length=1
 AL:W.AL=0
 ep:W.Ai<=i
 lim:W.An.length<=i
 Hd:∃M,Dm M0 (l.take i) given M/\BU N W M
structure E1(N:F BA)(l:F OpD):Prop where
 len:l.length<=12
 names:N.length<=60
 kind:∀o∈l,1<=o.kind/\o.kind<=6
 sm:∀o∈l,Sm o.Bb/\Sm o.path
 cn:∀o∈l,o.kind=3->qOA o.Ao=zc->∀n∈o.Ao.Aa,n∈N
section
variable{N:F BA}{M0:CZ}{l:F OpD}{i:Z}{W:Wd}{given:F Ans}{o:OpD}
def qKU(h:l[i]?=O o):l.take (i+1)=l.take i++[o]:=by
 obtain⟨q,rfl⟩:=ze.1 h;rw[zC1,zAa q];rfl
def SvI.next(h:SvI N M0 l i W given)(u:l[i]?=O o){x}{a:Ans}(A:AU (i+1:Z) x (GY (opA given) a))(sn:SnW x)(bg:BgW (1000+3*i+3) x)(pins:x.pins.length=W.pins.length)(AL:x.AL=0)(L:x.Ai<=W.Ai+1)(P:x.An.length<=W.An.length+1)(B:∀M,BU N W M->∃q,qcW M o a q/\BU N x q):SvI N M0 l (i+1) x (given++[a]):=by
 obtain⟨M,C,D⟩:=h.Hd;obtain⟨q,E,H⟩:=B M D;have e1:=h.ep;have e2:=h.lim;exact⟨by rw[zAx,h.len];rfl,by rw[qYX];exact A,sn,BgW.up bg sa,pins.trans h.pins,AL,sa,sa,q,by rw[qKU u];exact C.snoc E,H⟩
def Ib(h:E1 N l)(q:l[i]?=O o)(m:Ah)(e:m.op=o):GC m o.kind:=by
 have hm:=zh q;subst e;exact⟨h.sm _ hm,rfl⟩
def qOK(h:SvI N M0 l i W given)(o):qzA W (mPl o 0)=I:=
 qGO h.hold.right ⟨zAS _,by rw[h.pins];exact(by decide:(0:zt)<1)⟩ rfl rfl rfl rfl rfl rfl ⟨zAS _,by show(-1:zt)<_;omega⟩ (zAS _) (zAS _)
def HZ.pl(o)(t):HZ (mPl o t):=⟨λ_=>rfl,λh=>absurd h (show ¬(4:zt)<=0 by decide),λh=>absurd h (show ¬(0:zt)=1 by decide)⟩
def q8I(h:o.kind≠2):HG given o=mPl o 0:=zj h
def BS.sn:∀{k:Z}{w:Wd}{m:Ah}{x:Wd}{m':Ah},BS k w m x m'->SnW w->SnW x
 |0,_,_,_,_,⟨q,_⟩,h=>by rw[q];exact h
 |_+1,_,_,_,_,⟨_,u⟩,h=>BS.sn u (qJF (K:=0) h FX)
def CR.sn:∀{k:Z}{w:Wd}{m:Ah}{x:Wd}{m':Ah},CR k w m x m'->SnW w->SnW x
 |0,_,_,_,_,⟨q,_⟩,h=>by rw[q];exact h
 |_+1,_,_,_,_,⟨_,u,A⟩,h=>CR.sn A (qJF (K:=0) h (qhG u).1)
abbrev qwN(N:F BA)(M0:CZ)(l:F OpD)(i:Z)(W:Wd)(given:F Ans)(o:OpD):Prop:=∃k x n,F3 k W (HG given o) x n/\k<=9999/\(n.answer.ok->SvI N M0 l (i+1) x (given++[n.answer]))
def q2b(H:E1 N l)(h:SvI N M0 l i W given)(D:l[i]?=O o)(L:o.kind=1):qwN N M0 l i W given o:=by
 have V:=(ze.1 D).1;have Y:=H.len;have hs:=qOK h o;obtain⟨k,x,n,aa,u,P,Q,w1,ab,R,E⟩:=h.hold.Cr (B:=(i:zt)) ⟨sa,sa⟩ hs rfl (HZ.pl o 0);have T:=Ib H D (mPl o 0) rfl;rw[L]at T;have U:=BgW.up (K':=1000000) h.bg sa;refine⟨k,x,n,?_,sa,λ_=>?_⟩
 .rw[q8I sa];cases k with
  |zero=>obtain⟨_,rfl⟩:=u;cases P
  |succ k=>exact qHc u P T h.sn U
 .have A:=u.same;refine h.next D ?_ (B2.sn u h.sn) (BgW.up (u.kept h.bg) sa) A.pins (A.AL.trans h.AL) (by rw[A.ep];omega) (by rw[A.An];omega) λM hM=>⟨M,.inl ⟨L,hM.hand h.hold.right (by rw[E];exact R.why) λq=>by rw[E];exact R.one (by rw[<-E];exact q),rfl⟩,hM.same A⟩;have C:=Q.hold;have ac:=Q.kind;unfold GY;by_cases q:n.answer.kind=1
  .rw[zk q];rw[IR,zk q]at C;exact AU.perm C (List.perm_append_singleton _ _).symm
  .rw[zj q,zj sa];rw[IR,zj q]at C;exact C
def q3b(P:E1 N l)(h:SvI N M0 l i W given)(A:l[i]?=O o)(Q:o.kind=2):qwN N M0 l i W given o:=by
 have al:=(ze.1 A).1;have am:=P.len;have ab:=BgW.up (K':=1000000) h.bg sa;have R:0<=(0:zt)/\(0:zt)<W.pins.length:=⟨zAS _,by rw[h.pins];exact(by decide:(0:zt)<1)⟩;have ac:∀(x:Wd)(a:Ans),Bx W x->∀M,BU N W M->∃T,qcW M o a T/\BU N x T:=λx a ad M hM=>⟨M,.inr (.inr (.inr ⟨sa,sa,sa,rfl⟩)),hM.same ad⟩;have ae:HG given o={Ch 0 (Fb given o)with op:=o}:=zk Q;have U:=Ib P A {Ch 0 (Fb given o)with op:=o} rfl;rw[Q]at U
 have go:∀(k:Z)(x:Wd)(n:Ah),BS (k+1) W (Ch 0 (Fb given o)) x n->k<=100->n.done=I->AU i x (GY (opA given) n.answer)->qwN N M0 l i W given o:=λk x n u an af ag=>by
  have q:=u.same;refine⟨k+1,x,{n with op:=o},?_,sa,λ_=>?_⟩
  .rw[ae];exact qIc (u.other o) af U h.sn ab
  .exact h.next A (ag.up sa) (BS.sn u h.sn) (BgW.up (u.kept h.bg) sa) q.pins (q.AL.trans h.AL) (by rw[q.ep];omega) (by rw[q.An];omega) (ac x _ q)
 have ah:Fb given o=BY->qwN N M0 l i W given o:=λe=>by
  obtain⟨n,B,C,D⟩:=qOY (a:=Fb given o) h.hold.right R (by rw[e];decide) (by rw[e];rfl);refine go 0 W n B sb C ?_;rw[D];exact h.hold
 by_cases V:0<=o.n/\o.n<(opL given given.length).length
 .obtain⟨E,H⟩:=qEA (l:=opL given given.length) (i:=o.n.toNat) sa;obtain⟨_,L,Y,ai⟩:=qCM (zH _) E (zh H);have aj:Fb given o=L:=by unfold Fb;rw[zk V,H];show(given[E]?).getD _=L;rw[Y];rfl
  have aa:(opA given)[o.n.toNat]?=O L:=by
   unfold opA;rw[zAy,H];show O (qsJ given E)=_;unfold qsJ;rw[Y];rfl
  obtain⟨y,n,B,C,D,ak,_⟩:=AU.fin (AU.perm h.hold (q9L aa)) sa R ai;refine go 4 y n (by rw[aj];exact B) sb C ?_;rw[D,qWX h.hold q5Z aa];exact ak
 .exact ah (by unfold Fb;rw[zj V])
end
section
variable{N:F BA}{M0:CZ}{l:F OpD}{i:Z}{W:Wd}{given:F Ans}{o:OpD}
def qXX{out}{A:Ans}(h:A.kind≠1)(q:A.kind≠6):GY out A=out:=by unfold GY;rw[zj h,zj q]
def q1b(D:E1 N l)(h:SvI N M0 l i W given)(u:l[i]?=O o)(A:o.kind=3):qwN N M0 l i W given o:=by
 have U:=(ze.1 u).1;have V:=D.len;have H:=Ib D u (mPl o 0) rfl;rw[A]at H;obtain⟨E,n,B,L,C⟩:=qxb (qOK h o) (rfl:(mPl o 0).pc=0);have E:wdB (Fv W o.Ao)=I:=E;have B:HR (Iw o.Ao) W (mPl o 0) (Fv W o.Ao) n:=B;have C:n.answer=GX W o.Ao:=C;obtain⟨k,P,Y⟩:∃k,Iw o.Ao=k+1/\k<=2:=by unfold Iw;split<;>exact⟨_,rfl,sb⟩
 rw[P]at B;obtain⟨Q,R,T⟩:=qGc B L H h.sn h.bg sa sa;refine⟨k+1,_,n,by rw[q8I sa];exact Q,sa,λ_=>?_⟩;refine h.next u ?_ R (BgW.up T sa) ?_ ?_ ?_ ?_ λM hM=>?_
 .rw[C,qXX (by unfold GX;split<;>first|exact(by decide:(8:zt)≠1)|exact(by decide:(9:zt)≠1)) (by unfold GX;split<;>first|exact(by decide:(8:zt)≠6)|exact(by decide:(9:zt)≠6))];exact(h.hold.Kt sa o.Ao E).up sa
 .unfold Fv;split<;>rfl
 .unfold Fv;split<;>exact h.AL
 .unfold Fv;split
  .show W.Ai<=_;omega
  .omega
 .unfold Fv;split
  .show(W.An++[_]).length<=_;rw[zAx];exact zH _
  .omega
 .rw[C];cases q:qOA o.Ao with
  |none=>
   refine⟨_,.inr (.inl ⟨A,.inr ⟨q,?_,?_,rfl⟩⟩),hM.swap q (D.cn _ (zh u) A q)⟩
   .unfold GX;rw[q];rfl
   .unfold GX;rw[q,<-hM.AN,zBa];rfl
  |some p=>
   obtain⟨e,j⟩:=p;refine⟨M,.inr (.inl ⟨A,.inl ⟨e,j,q,?_,?_,rfl⟩⟩),?_⟩
   .unfold GX;rw[q];rfl
   .unfold GX;rw[q];rfl
   .unfold Fv;rw[q];exact hM
def q4b(D:E1 N l)(h:SvI N M0 l i W given)(q:l[i]?=O o)(u:o.kind=4):qwN N M0 l i W given o:=by
 have T:=(ze.1 q).1;have U:=D.len;have E:=Ib D q (mPl o 0) rfl;rw[u]at E;have Q:=BgW.up (K':=1000000) h.bg sa;have H:Gz W (mPl o 0):=⟨qOK h o,rfl⟩;have B:(mPl o 0).op.kind=4:=u;have e1:psW W (mPl o 0)=drW W (mPl o 0):=by unfold psW;rw[B];rfl
 have e2:psM W (mPl o 0)=drM W (mPl o 0):=by unfold psM;rw[B];rfl
 have e3:psE W (mPl o 0)=drE W (mPl o 0):=by unfold psE;rw[B];rfl
 have L:Hv W (mPl o 0):=E.Ig ⟨sb,sb⟩ h.sn Q;by_cases A:drI W (mPl o 0)<0
 .obtain⟨d1,d2,d3⟩:=q3V H A;refine⟨1,W,{mPl o 0 with done:=I,answer:=Dl 7 0},?_,sb,λ_=>?_⟩
  .rw[q8I sa];exact⟨L,by rw[e3,d3];exact(by decide:(1:zt)≠0),.inl (by rw[e1,e2,d1,d2];exact⟨rfl,rfl,rfl,rfl⟩)⟩
  .exact h.next q (h.hold.up sa) h.sn (BgW.up h.bg sa) rfl h.AL sa sa λM hM=>⟨M,.inr (.inr (.inl ⟨u,.inr ⟨rfl,rfl⟩⟩)),hM⟩
 .obtain⟨x,C,R⟩:=qgR (l:=W.Aa) (s:=o.listen) (by unfold drI at A;exact Int.not_lt.1 A);obtain⟨d1,d2,d3⟩:=q2V H (Int.not_lt.1 A) C;refine⟨1,{W with Aa:=W.Aa.set (drI W (mPl o 0)).toNat (drL x)},{mPl o 0 with listen:=drI W (mPl o 0),done:=I,answer:=Dl 10 (drI W (mPl o 0))},?_,sb,λ_=>?_⟩
  .rw[q8I sa];exact⟨L,by rw[e3,d3];exact(by decide:(2:zt)≠0),.inl (by rw[e1,e2,d1,d2];exact⟨rfl,rfl,rfl,rfl⟩)⟩
  .have P:=λK=>q1J (K:=K) (w:=W) (m:={mPl o 0 with listen:=drI W (mPl o 0)}) (drL x);refine h.next q ((h.hold.drain C).up sa) (qJF (K:=0) h.sn (P 0)) (BgW.up ((P _).1 h.bg) sa) rfl h.AL (by show W.Ai<=_;omega) (zDJ _) λM hM=>⟨_,.inr (.inr (.inl ⟨u,.inl ⟨rfl,rfl⟩⟩)),?_⟩;have:=hM.drain h.hold.right C;rw[R]at this;exact this
def q5b(A:E1 N l)(h:SvI N M0 l i W given)(B:l[i]?=O o)(E:o.kind=5):qwN N M0 l i W given o:=by
 have R:=(ze.1 B).1;have T:=A.len;have C:=Ib A B (mPl o 0) rfl;rw[E]at C;have H:=BgW.up (K':=1000000) h.bg sa;have U:=h.ep;have V:=h.lim;obtain⟨M,_,hM⟩:=h.Hd;have L:W.Aa.length<=60:=by have:=A.names;rw[<-hM.names,zBa]at this;exact this
 obtain⟨K,n,Y,q,D,P⟩:=qFb (qOK h o) ⟨rfl,rfl,rfl⟩ h.AL sa sa L;have u:=qjN W;have Q:wdB (DE W)=I:=q.right h.hold.right;cases K with
 |zero=>obtain⟨_,rfl⟩:=q;cases D
 |succ K=>
  refine⟨K+1,_,n,by rw[q8I sa];exact qJc q D C h.sn H,sa,λ_=>?_⟩;refine h.next B ?_ (CR.sn q h.sn) (BgW.up (CR.kept q h.bg) sa) (by rw[u.2.2.2.2.2.1]) u.2.1 ?_ (by rw[u.2.2.1];omega) λM hM=>⟨M,.inr (.inr (.inr ⟨sa,sa,sa,rfl⟩)),hM.DE⟩
  .rw[P];exact(AU.DE h.hold Q).up sa
  .rw[u.1];unfold Ee upI;split<;>omega
def qFc{w}{h:Ah}(hs:qzA w h=I)(q:h.pc=0)(A:h.done=zb)(B:GC h 6)(C:SnW w)(D:BgW 1000000 w):∀{d n:Z},n+d+1=6*w.counts.length->F3 (d+1) w (mA w.counts h n) w (mA w.counts h (6*w.counts.length))
 |d,n,Q=>by
  have E:n<6*w.counts.length:=sa
  have L:∀n,(mA w.counts h n).op=h.op:=λn=>by unfold mA;split<;>rfl
  have H:=B.next (L n);have u:(mA w.counts h n).op.kind=6:=H.kind;have e1:psW w (mA w.counts h n)=w:=by unfold psW;rw[u];rfl
  have e2:psM w (mA w.counts h n)=mA w.counts h (n+1):=by unfold psM;rw[u];exact qea hs q E
  have e3:psE w (mA w.counts h n)=qSK w (mA w.counts h n):=by unfold psE;rw[u];rfl
  refine⟨H.Ig ⟨sb,sb⟩ C D,?_,?_⟩
  .rw[e3];unfold qSK;rw[zk (qId hs q E)];split<;>exact(by decide:(1:zt)≠0)
  .rw[e1,e2];cases d with
   |zero=>
    obtain P:n+1=6*w.counts.length:=sa
    rw[P];exact .inl ⟨by rw[qdV],rfl,rfl,rfl⟩
   |succ d=>exact .inr ⟨qfa A sa,qFc hs q A B C D sa⟩
def q0b(u:E1 N l)(h:SvI N M0 l i W given)(q:l[i]?=O o)(C:o.kind=6):qwN N M0 l i W given o:=by
 have L:=(ze.1 q).1;have P:=u.len;have A:=Ib u q (mPl o 0) rfl;rw[C]at A;have D:=BgW.up (K':=1000000) h.bg sa;have E:=(qZI h.hold.right).1;rw[h.pins]at E;have H:mA W.counts (mPl o 0) 0=mPl o 0:=by rw[qzO sa];rfl
 have B:=qFc (qOK h o) rfl rfl A h.sn D (d:=5) (n:=0) sa;rw[H]at B;refine⟨6,W,_,by rw[q8I sa];exact B,sb,λ_=>?_⟩;refine h.next q ?_ h.sn (BgW.up h.bg sa) rfl h.AL sa sa λM hM=>⟨M,.inr (.inr (.inr ⟨sa,sa,sa,rfl⟩)),hM⟩;rw[qdV];exact h.hold.up sa
def q4W(q:E1 N l)(h:SvI N M0 l i W given)(u:l[i]?=O o):qwN N M0 l i W given o:=by
 have A:=q.kind o (zh u);rcases(by omega:o.kind=1\/o.kind=2\/o.kind=3\/o.kind=4\/o.kind=5\/o.kind=6)with k|k|k|k|k|k
 .exact q2b q h u k
 .exact q3b q h u k
 .exact q1b q h u k
 .exact q4b q h u k
 .exact q5b q h u k
 .exact q0b q h u k
def qyS(q:E1 N l):qQL l λi W given=>SvI N M0 l i W given:=
 qQO (λi W given h=>by
  have:=q.len;obtain⟨M,A,_⟩:=h.Hd
  have B:∀{l:F OpD}{bs:F Ans}{M u:CZ},Dm M l bs u->bs.length=l.length:=λ{l bs M u}h=>by
   induction l generalizing bs M with
   |nil=>cases bs with
    |nil=>rfl
    |cons=>exact h.elim
   |cons o l C=>cases bs with
    |nil=>exact h.elim
    |cons a bs=>obtain⟨E,_,h⟩:=h;simp[C h]
  have H:=B A;have L:=List.length_take_le i l;have P:(l.take i).length<=l.length:=by rw[zBe];exact Nat.min_le_right _ _
  omega) λi W given o h D=>q4W q h D
def qPU{c}(q:qOA c=zc)(u:qyH (qLB c) N 1)(D:E1 N l)(E:∀n∈c.Aa,n∈N):SvI N ⟨[qiA c],0,[]⟩ l 0 (CJ (qLB c) N 1) []:=by
 have A:qLB c=qiA c:=by unfold qLB;rw[q]
 have H:wdB (CJ (qLB c) N 1)=I:=qFT (t:=1) u;have L:=u.1;refine⟨rfl,AU.nil H (λx P=>?_) λv h g B e C=>?_,λv h=>?_,qXa L sb (by have:=D.names;omega),rfl,rfl,zAS _,zH _,_,rfl,by rw[A];exact BU.first E⟩
 .obtain⟨n,_,rfl⟩:=zU.1 (show x∈N.map _ from P);exact zAS _
 .obtain rfl:=zA3.1 h;simp only[qRA,zU]at B;obtain⟨Q,_,rfl⟩:=B;simp only[zU]at C;obtain⟨_,_,rfl⟩:=C;exact zAS _
 .obtain rfl:=zA3.1 h;rw[A];exact q6M q
end
end Go.Proofs.YtlmhpamhhgogaaaGreat
namespace Go.Proofs.YtlmhpamhhgogaaaGreat.Sx
open Go.Conc (G)
open Go.Duo
open Go.RowKit
section
variable{P:zv}
section
variable{E:Env P}{tbl:F (Z×FnI)}{f:zA5}{ords:F (F Z×OI)}{lms:F (F Z)}{fi:FnI}{args:F SV}{g:GW}{Q:zg->GW->Prop}{w:zp}
def qAS(u:Good g w):Ap ⟨w,(·<w.heap.size),g.g,λ_ h=>h⟩ ⟨g,[],0,g.w.heap.size⟩ w:=
 ⟨u,⟨rfl,rfl,rfl,zH _,λ_ _=>rfl⟩,(λr A=>by cases A),zBW,(λb q=>by cases q),(λn _ h=>h),(λn B C _=>by have:=g.wf n C;exact absurd B (zDu.2 this)),u.1,λb q=>by cases q⟩
def qGZ{v}{C}{w'}(H:Ap ⟨w,(·<w.heap.size),g.g,λ_ h=>h⟩ C w')(A:Gv v C λv' B=>qqJ v' λx=>∀g2,B.g<=g2->Q x g2):Below w.heap.size w w'/\Q (Ag v) (g.next w w'):=by
 obtain⟨v',B,A,L,q⟩:=qEG v A H;have D:=qBD v' A;rw[L]at D;refine⟨⟨q.frm.os,q.frm.tape,q.frm.output,q.frm.size,λn u=>q.frm.block n u⟩,D _ ⟨q.AJ.1,λn u=>⟨⟨zQ (B.g.wf n u) q.AJ.1,?_⟩,q.AJ.2 n u⟩⟩⟩;rcases zAJ n w.heap.size with R|T
 .exact .inl (q.fz n R u)
 .exact .inr T
def OkE.Aq(hm:P.follows .mixedOrders=I)(B:q6B P tbl)(d)(C:FN P f ords lms=O fi)(h:fnS P (qjV P (Jv E) tbl d) fi noY args ⟨g,[],0,g.w.heap.size⟩ λv A=>Gv v A λv' D=>qqJ v' λx=>∀g2,D.g<=g2->Q x g2):OkE E f (qCA args) g Q:=λw H hE=>
 (q1G hm (λq u=>qTI E hm (λq u=>(qOR E).snd q u) B d q u) C (λn L=>zQ L hE) (qOG E _) h (qAS H)).mono λe V⟨v,A,R,T,U⟩=>⟨_,R,qGZ T U⟩
def Jh(E:Env P)(f:zA5)(args:F zg)(g:GW)(Q:zg->GW->Prop):Prop:=∀w,Good g w->E.N<=w.heap.size->Io E f args.toArray w λv h=>Below w.heap.size w h/\Q v (g.next w h)
def Jh.Aq(hm:P.follows .mixedOrders=I)(B:q6B P tbl)(d)(C:FN P f ords lms=O fi)(h:fnS P (qjV P (Jv E) tbl d) fi noY args ⟨g,[],0,g.w.heap.size⟩ λv A=>Gv v A λv' D=>qqJ v' λx=>∀g2,D.g<=g2->Q x g2):Jh E f (qCA args) g Q:=λw H hE=>by
 obtain⟨fn,c,L,R,T⟩:=qFZ hm (λq u=>qTI E hm (λq u=>(qOR E).snd q u) B d q u) C (λn U=>zQ U hE) (qOG E _) h (qAS H);refine(qnS L R T).mono λv aa⟨v',A,V,W,Y⟩=>?_;cases V;exact qGZ W Y
end
end
end Go.Proofs.YtlmhpamhhgogaaaGreat.Sx
namespace Go.Proofs.YtlmhpamhhgogaaaGreat
open Go.Proofs.YtlmhpamhhgogaaaGreat.Sx Go.Duo Go.RowKit
def qFS{h:Type}{o:zy h}:eqB o zc=o.isNone:=by
 rw[zCf,DL,Option.isNone_iff_eq_none]
noncomputable def wdC:{f:Wd->zO // wdB=f}:=by
 refine⟨?f,?_⟩;rotate_left
 .funext w;unfold wdB;rw[show Dg w=λ(i:Z)(v:AM)=>((qOA (qfD v.Aw)).isNone&&decide (v.Aj.length=v.Aw.Ad.length)&&allI (qTG v.Aw.Ad) v.Aj)&&(v.Ba==qXF w.An i) by funext i v;unfold Dg qVB;rw[qFS]]
noncomputable def qyb(w:Wd)(m:Ah):zO:=wdC.1 w&&match w.Ab[m.Ac.toNat]? with
 |none=>zb
 |some v=>match v.Aj[m.Af.toNat]? with
  |none=>zb
  |some h=>match h.ends[m.Ak.toNat]? with
   |none=>zb
   |some q=>decide ((0<=m.Al/\m.Al<w.pins.length)/\m.done=zb/\0<=m.Ac/\0<=m.Af/\0<=m.Ak/\(0<=m.other/\m.other<h.ends.length)/\(0<=m.slot/\m.slot<q.next.length)/\(-1<=m.listen/\m.listen<w.Aa.length)/\0<=m.i/\0<=m.k)
def qDQ:qzA=qyb:=by
 funext w m;rw[zCf,Am];unfold qyb;rw[<-wdC.2,zl];constructor
 .rintro⟨v,q,u,h⟩;rw[h.ver.2];dsimp only;rw[h.clu.2];dsimp only;rw[h.Ak.2];dsimp only;exact⟨h.right,zR ⟨h.Al,h.done,h.ver.1,h.clu.1,h.Ak.1,h.other,h.slot,h.listen,h.i,h.k⟩⟩
 .rintro⟨A,h⟩;split at h
  .cases h
  rename_i v B;split at h
  .cases h
  rename_i q C;split at h
  .cases h
  rename_i u D;obtain⟨a,b,c,d,e,f,i,j,k,l⟩:=zd h;exact⟨v,q,u,A,a,b,⟨c,B⟩,⟨d,C⟩,⟨e,D⟩,f,i,j,k,l⟩
def qiV{q:Type}{p:Prop}[h:Decidable p]{a b:q}:@ite q p (zBb p) a b=if p then a else b:=by congr
noncomputable def H8(w:Wd)(m:Ah):{x // psW w m=x}:=by
 refine⟨?x,?_⟩;rotate_left
 .unfold psW hsW BL hW GZ fsW swW csW cGo drW hGo fGo En Gz;simp only[qDQ,qiV];exact rfl
noncomputable def Gw(w:Wd)(m:Ah):{x // psM w m=x}:=by
 refine⟨?x,?_⟩;rotate_left
 .unfold psM hsM BC fsM swM csM cGo drM qQK hGo fGo En Gz;simp only[qDQ,qiV];exact rfl
noncomputable def I6(w:Wd)(m:Ah):{x // psE w m=x}:=by
 refine⟨?x,?_⟩;rotate_left
 .unfold psE hsE CO hE HC fsE swE csE cGo drE qSK hGo fGo En Gz;simp only[qDQ,qiV];exact rfl
def qjb:F (Z×FnI):=[(81,FG.1),(119,EJ.1)]
def qRR:q6B Tryz.prog qjb:=by
 intro x h;simp only[qjb,zs,zC,zAt]at h;rcases h with rfl|rfl
 .exact⟨_,_,FG.2⟩
 .exact⟨_,_,EJ.2⟩
def qQa(g){v}{l}{p x}(U:rSl 1 BX g v l)(C:0<=p/\p<=1000000)(u:l[p.toNat%l.length]?=O x):OkV Tryz.prog 41 [.int .i64 p,v] g (.tuple #[.int .i64 x,.int .i64 0]):=by
 obtain⟨ae,cap,rfl,V,W,af,D⟩:=id U;have A:0<l.length:=by rcases zDn l.length with h|h;rw[zA4.1 h]at u;simp at u;exact h
 have E:∀(z:zt)(n:Z),z=(n:zt)-1->n<l.length->(zAj.wrap (z+1)).tmod l.length=n:=by
  intro z n Y q;subst Y;have hM:zAp<=9223372036854775807:=sb
  rw[wr (x:=(n:zt)-1+1) si,show(n:zt)-1+1=n by omega,zB3 sa,zCG sa sa]
 have ag:p.tmod l.length=(p.toNat%l.length:Z):=by rw[zB3 C.1,Int.natCast_emod,zBO C.1]
 have ah:=Nat.mod_lt p.toNat A;obtain⟨H,L⟩:=qEA A;obtain⟨P,rfl,ai,aj,⟨rfl,_⟩,aa⟩:=D 0 H L;have ab:=aa 0 _ rfl
 exact Ok.Aq hm qRR 2 MU.2 (args:=[.v (.int .i64 p),.v (.slice _ l.length cap)]) (by
  refine zq ?_;intros;refine⟨λh=>absurd (zd h) sa,λ_=>zq ?_⟩;intros;refine⟨λh=>absurd (zd h) sa,λ_=>zq ?_⟩;intros;refine⟨kF,zq ?_⟩;intros;refine⟨sa,zq ?_⟩;intros;refine zw ?_;rw[E (-1) 0 sb A];refine zw ?_;refine⟨P,rfl,⟨zAS _,sa⟩,zw ?_⟩;refine⟨_,ab,zq ?_⟩;intros;refine⟨sa,zq ?_⟩;intros;refine⟨Z×zt,λ(n,y)=>[.v (.int .i64 y),.v (.int .i64 n)],λ(n,y)=>⟨g,[.blk 1 _ _ [.v (.int .i64 n)],_],_,_⟩,λ(n,y)=>l[n]?=O y/\n<=p.toNat%l.length,λ(n,_)=>p.toNat%l.length-n,qfA (0,H) rfl ⟨L,zJ _⟩ rfl,?_⟩;rintro⟨n,y⟩ ⟨Q,ak⟩;refine zq ?_;intros;refine⟨λq=>?_,λq=>?_⟩
  .have B:n+1<l.length:=by have:=zd q;omega
   obtain⟨R,T⟩:=qEA B;obtain⟨_,e,al,am,⟨rfl,_⟩,ac⟩:=D (n+1) R T;cases e;refine zq ?_;intros;refine⟨kF,zq ?_⟩;intros;refine⟨sa,zq ?_⟩;intros;refine zw ?_;rw[E n (n+1) sa B];refine⟨P,rfl,⟨sa,sa⟩,zw ?_⟩;refine⟨_,ac 0 _ rfl,zq ?_⟩;intros;refine λan w ad=>⟨(n+1,R),zI (λz=>[_,zK .i64 z]) (wr1 (Nat.lt_of_succ_lt B) V W).symm,⟨T,by have:=zd q;omega⟩,by have:=zd q;show _-(n+1)<_-n;omega,?_⟩;exact ad.fit sc
  .have:n=p.toNat%l.length:=by have:=zf q;omega
   subst this;rw[u]at Q;cases Q;refine zq ?_;intros;intro g2 ao
   rfl)
def qqX(g){p}(q:0<=p):OkV Tryz.prog 41 [.int .i64 p,.slice zc 0 0] g (.tuple #[.int .i64 0,.int .i64 5]):=
 Ok.Aq hm qRR 2 MU.2 (args:=[.v (.int .i64 p),.v (.slice zc 0 0)]) (by
  refine zq ?_;intros;refine⟨λh=>absurd (zd h) sa,λ_=>zq ?_⟩;intros;refine⟨λ_=>zq ?_,λh=>nomatch h⟩;intros;intro g2 u
  rfl)
def qAV(g){cs}{s}(hs:qAG g cs s)(h:isB s=I)(Q:SmS s)(u:qOA s.first=zc)(R:qyH (qLB s.first) (quE s) s.Av.length)(T:(quE s).length<=1000000)(U:s.first.Ar.length<=1000000):Ok Tryz.prog 39 [.agg ⟨cs⟩] g λv g'=>∃A,v=.tuple #[.agg ⟨A⟩,.int .i64 0]/\rWo g' A (CJ (qLB s.first) (quE s) s.Av.length):=by
 have B:=hs;obtain⟨a,b,d,t,p,rfl,C,V,W⟩:=hs;have D:=C;obtain⟨_,_,_,Y,⟨ae,af,rfl,_⟩,⟨ag,ah,rfl,_⟩,⟨ai,aj,rfl,_⟩⟩:=C;cases Y;obtain⟨ak,al,rfl,_⟩:=id V;obtain⟨op,am,rfl,_⟩:=id W
 exact Ok.Aq hm noT 0 NY.2 (args:=[.v (.agg ⟨_⟩)]) (by
  refine zq ?_;intros;refine .inl ⟨_,q9U _ B,?_⟩;rw[h];refine zq ?_;intros;refine⟨λq=>(nomatch q),λ_=>zq ?_⟩;intros;refine .inr ((qME _ D).mono λv g1 E h=>?_);obtain⟨x,y,z,e,i,rfl,H,_,⟨rfl,rfl,_,rfl,rfl⟩|⟨_,aa,_⟩⟩:=qoC D E h;rotate_left
  .exact absurd u aa
  obtain⟨_,_,an,ao,_,_,L⟩:=qkC H;simp only[zAA,zA6]at L;obtain⟨_,rfl,_⟩:=L;refine zq ?_;intros;refine⟨λq=>(nomatch q),λ_=>zq ?_⟩;intros;refine .inr ((qEM _ (q9F _ _ _ _ E B) Q).mono λv g2 ab P=>?_);obtain⟨on,ap,rfl,_⟩:=id P;refine zq ?_;intros;refine .inr ((q3Y _ (qlB _ _ _ _ ab H) P (by rw[qLB,u];simpa[qiA]using U) T).mono λv g3 aq ac=>?_);obtain⟨ar,rfl,hW⟩:=q6Y ac R;obtain⟨_,_,_,_,_,_,_,_,_,_,rfl⟩:=qLA hW;refine zq ?_;intros;intro g2 ad
  exact⟨_,rfl,qBA _ _ _ _ ad hW⟩)
structure ThD where
 ops:F OpD
 done:Z
 on:zO
 m:Ah
 given:F Ans
def ThD.alive(x:ThD):zO:=decide (x.done<x.ops.length)
def ThD.op(x:ThD):OpD:=(x.ops[x.done]?).getD op0
def ThD.BJ(x:ThD)(t:zt):Ah:=if x.on then x.m else qtK t x.given x.op
def ThD.Ak(x:ThD)(n:Ah):ThD:=if n.done then⟨x.ops,x.done+1,zb,n,x.given++[n.answer]⟩else⟨x.ops,x.done,I,n,x.given⟩
structure PlD where
 w:Wd
 a:ThD
 b:ThD
def PlD.pick(s:PlD)(k:Z):Z:=if s.a.alive&&s.b.alive then k%2 else if s.a.alive then 0 else 1
def PlD.th(s:PlD)(t:Z):ThD:=if t=0 then s.a else s.b
def PlD.put(s:PlD)(t:Z)(w:Wd)(x:ThD):PlD:=if t=0 then⟨w,x,s.b⟩else⟨w,s.a,x⟩
def PlD.BJ(s:PlD)(k:Z):Ah:=(s.th (s.pick k)).BJ (s.pick k)
noncomputable def PlD.next(s:PlD)(k:Z):PlD:=s.put (s.pick k) (H8 s.w (s.BJ k)).1 ((s.th (s.pick k)).Ak (Gw s.w (s.BJ k)).1)
noncomputable def PlD.ev(s:PlD)(k:Z):Ev:={(I6 s.w (s.BJ k)).1 with op:=(s.th (s.pick k)).done,HP:=!(s.th (s.pick k)).on}
def FZ:Bn:=⟨[sIn],[⟨sIn,⟨#[42]⟩,sSl,⟨#[97]⟩⟩],[⟨⟨#[97]⟩,1,1,[I,I]⟩]⟩
def opH:OpD:={op0 with kind:=1,listen:=sIn,Bb:=sX,path:=sSl}
def opF:OpD:={op0 with kind:=2}
def opW:OpD:={op0 with kind:=3,Ao:=FZ}
def mZ:Ah:=⟨op0,0,0,0,0,0,0,0,0,0,0,0,0,0,0,zb,BY,c60⟩
def F5:F9:=⟨FZ,[[opH,opF],[opW]],(zA8 40).map Int.ofNat⟩
noncomputable def plN:Z->PlD
 |0=>⟨CJ (qLB FZ) (quE F5) 2,⟨[opH,opF],0,zb,mZ,[]⟩,⟨[opW],0,zb,mZ,[]⟩⟩
 |k+1=>(plN k).next k
def qMY(w:Wd)(m:Ah):zO:=decide ((∀v∈w.Ab,v.Aw.AE.length<=1000000/\∀r∈v.Aw.AE,r.Bb.size<=100/\r.path.size<=100)/\
 ((w.pins.length<=1000000/\w.Ab.length<=1000000/\w.Aa.length<=1000000/\w.counts.length<=1000000/\w.An.length<=1000000)/\(∀r∈w.counts,r.length<=1000000)/\∀v∈w.Ab,v.Aj.length<=1000000/\∀y∈v.Aj,y.ends.length<=1000000)/\
 (m.op.Bb.size<=140737488355328/\m.op.path.size<=140737488355328)/\1<=m.op.kind/\m.op.kind<=6)
def qrQ{w}{m:Ah}(h:qMY w m=I):Hv w m:=by
 obtain⟨a,b,c,d⟩:=zd h;exact⟨a,b,c,d⟩
def Jg{n}{p}(h:(zA8 n).all p=I){k}(q:k<n):p k=I:=zAs.1 h k (zCZ.2 q)
def qzZ:(zA8 22).all (λk=>qMY (plN k).w ((plN k).BJ k)&&((plN k).a.alive||(plN k).b.alive))=I:=sd
def qPc:((plN 22).a.alive||(plN 22).b.alive)=zb:=sd
def qyZ:(zA8 21).all (λk=>!((Gw (plN k).w ((plN k).BJ k)).1.done&&!((plN k).th ((plN k).pick k)).given.isEmpty))=I:=sd
def qXQ{s:PlD}{k t:Z}{w:Wd}{m n:Ah}(h:s.pick k=t)(hm:(s.th t).BJ t=m)(q:psW s.w m=w)(u:psM s.w m=n):s.next k=s.put t w ((s.th t).Ak n):=by
 unfold PlD.next PlD.BJ;rw[h,<-(H8 _ _).2,<-(Gw _ _).2,hm,q,u]
def q6a{s:PlD}{k t:Z}{e:Ev}{m:Ah}(h:s.pick k=t)(hm:(s.th t).BJ t=m)(q:psE s.w m=e):s.ev k={e with op:=(s.th t).done,HP:=!(s.th t).on}:=by
 unfold PlD.ev PlD.BJ;rw[h,<-(I6 _ _).2,hm,q]
def PsP.named{w}{m:Ah}{v}{g}(h:PsP w m v g):∃W M E cs q,(psW w m=W/\psM w m=M/\psE w m=E)/\v=.tuple #[.agg ⟨cs⟩,.agg ⟨q⟩,.agg ⟨E.cs⟩]/\rWo g cs W/\qdA g q M:=by
 obtain⟨cs,q,u,A,B⟩:=h;exact⟨_,_,_,cs,q,⟨rfl,rfl,rfl⟩,u,A,B⟩
def rEv:RP Ev:=λ_ cs e=>cs=e.cs
noncomputable def evN(k:Z):F Ev:=(zA8 k).map λi=>(plN i).ev i
abbrev eN(t o a c v x:zt)(b p:zO):Ev:=⟨t,o,a,c,v,zb,x,b,p,zb,BY⟩
abbrev eD(t o a c v x:zt)(A:Ans):Ev:=⟨t,o,a,c,v,zb,x,zb,zb,I,A⟩
abbrev an0:Ans:=⟨1,1,0,0,0,0,0,c60⟩
abbrev an1:Ans:=⟨8,1,0,0,0,0,0,c60⟩
abbrev an2:Ans:=⟨6,1,0,0,0,0,0,c60⟩
def evS:F Ev:=[eN 0 0 1 1 (-1) 0 I zb,eN 1 0 6 3 (-1) 1 I I,eN 0 0 2 2 (-1) 1 zb zb,eN 1 0 1 1 (-1) 0 zb zb,eN 0 0 1 1 (-1) 0 zb zb,eD 1 0 2 11 (-1) 0 an1,eN 0 0 1 3 (-1) 1 zb I,eN 0 0 3 5 (-1) 1 zb zb,eN 0 0 1 4 (-1) 0 zb zb,eN 0 0 3 6 1 0 zb zb,eN 0 0 1 8 1 0 zb zb,
 eN 0 0 1 9 1 (-1) zb zb,eN 0 0 4 8 1 0 zb zb,eN 0 0 3 7 1 1 zb zb,eN 0 0 3 10 (-1) 1 zb zb,eN 0 0 3 10 (-1) 0 zb zb,eD 0 0 2 2 (-1) 0 an0,eN 0 1 1 8 1 (-1) I zb,eN 0 1 2 9 1 (-1) zb zb,eN 0 1 4 8 1 0 zb I,eN 0 1 3 7 1 0 zb zb,eD 0 1 3 5 (-1) 0 an2]
def Le:evN 22=evS:=sd
structure IU where
 Al:zt
 op:zt
 from_:zt
 EE:zt
 to:zt
 answer:Ans
abbrev IU.cs(c:IU):F zg:=.int .i64 c.Al::.int .i64 c.op::.int .i64 c.from_::.int .i64 c.EE::.int .i64 c.to::c.answer.cs
def I2:RP IU:=λ_ cs c=>cs=c.cs
def qdO:C7 I2:=λ_ _ _ _ _ h=>h
def Hn:F IU:=[⟨0,0,0,6,16,an0⟩,⟨1,0,1,1,5,an1⟩,⟨0,1,17,19,21,an2⟩]
def tOf:F (Z×FnI):=[(84,Dq.1)]
def qnb:q6B Tryz.prog tOf:=by
 intro x h;simp only[tOf,zs,zC,zAt]at h;subst h;exact⟨_,_,Dq.2⟩
def q9c(g){v}(A:rSl 23 rEv g v evS):Ok Tryz.prog 43 [v] g λv' g'=>∃q,v'=.tuple #[q,.int .i64 0]/\rSl 18 I2 g' q Hn:=by
 obtain⟨_,cap,ev,L,P,Q,u⟩:=id A;obtain⟨h,rfl,_⟩:=u 0 _ rfl;replace ev:v=.slice (O h) 22 cap:=ev;subst ev
 have B:∀(i:Z)(e:Ev),evS[i]?=O e->Rcs g (h.add (i*23)) e.cs:=λi e C=>by
  obtain⟨_,e1,_,_,rfl,D⟩:=u i e C;cases e1;exact D
 exact Ok.Aq hm qnb 2 Oe.2 (args:=[.v (.slice (O h) 22 cap)]) (by
  refine zq ?_;intros;refine q8B 23 (zq ?_);intros;refine zr ?_;intros
  repeat'((first|refine⟨_,⟨rfl,B _ _ rfl⟩,?_⟩|refine⟨kF,?_⟩|refine⟨_,rfl,?_⟩|refine⟨⟨sb,sb⟩,?_⟩|refine cT sb ?_|refine cF sb ?_|refine qWB ?_|fail)<;>first|(refine zr ?_;intros)|rfl)
  intro R T U E;refine zq ?_;intros;intro g2 H
  exact⟨_,rfl,(q7C E.rd Hn IU.cs sd rfl (λ_ _=>rfl) λ_ _=>rfl).mono qdO H⟩)
def qBV(q:GW){b:Z}{oa}{cap:Z}(C:Rc q ⟨b,0,zc⟩ (.slice (O oa) 3 cap))(D:∀(i:Z)c,Hn[i]?=O c->Rcs q (oa.add (i*18)) c.cs){i k:zt}{u A}(E:(0<=i/\i<(3:Z))/\Hn[i.toNat]?=O u)(H:(0<=k/\k<(3:Z))/\Hn[k.toNat]?=O A):OkV Tryz.prog 104 [.int .i64 i,.int .i64 k,.pointer (O ⟨b,0,zc⟩)] q (.int .i64 (if u.EE<A.EE then -1 else if A.EE<u.EE then 1 else 0)):=
 Ok.Aq hm noT 0 M5.2 (args:=[.v (.int .i64 i),.v (.int .i64 k),.v (.pointer (O ⟨b,0,zc⟩))]) (by
  refine zq ?_;intros;refine⟨_,C,zq ?_⟩;intros;refine⟨oa,rfl,E.1,zq ?_⟩;intros;refine⟨_,D _ _ E.2 3 _ rfl,zq ?_⟩;intros;refine⟨_,C,zq ?_⟩;intros;refine⟨oa,rfl,H.1,zq ?_⟩;intros;refine⟨_,D _ _ H.2 3 _ rfl,zq ?_⟩;intros;refine⟨λh=>?_,λh=>?_⟩
  .refine zq ?_;intros;intro g2 L;rw[zk (zd h)]
  .refine zq ?_;intros;refine⟨λB=>?_,λB=>?_⟩
   .refine zq ?_;intros;intro g2 L;rw[zj (zf h),zk (zd B)]
   .refine zq ?_;intros;intro g2 L
    rw[zj (zf h),zj (zf B)])
def Kk:F (Z×FnI):=[(103,BF.1),(141,B9.1),(163,BE.1)]
def qcZ:q6B Tryz.prog Kk:=by
 intro x h;simp only[Kk,zs,zC,zAt]at h;rcases h with rfl|rfl|rfl
 .exact⟨_,_,BF.2⟩
 .exact⟨_,_,B9.2⟩
 .exact⟨_,_,BE.2⟩
def q8Q{g}{v}(u:rSl 18 I2 g v Hn):∃h cap,v=.slice (O h) 3 cap/\∀(i:Z)c,Hn[i]?=O c->Rcs g (h.add (i*18)) c.cs:=by
 obtain⟨_,cap,ev,C,D,E,q⟩:=id u;obtain⟨h,rfl,_⟩:=q 0 _ rfl;refine⟨h,cap,ev,λi e A=>?_⟩;obtain⟨_,e1,_,_,rfl,B⟩:=q i e A;cases e1;exact B
def qrX(g){v}(A:rSl 18 I2 g v Hn):Ok Tryz.prog 60 [v] g λv' g'=>rSl 1 BX g' v' [1,0,2]:=by
 obtain⟨B,cap,rfl,q⟩:=q8Q A
 exact Ok.Aq hm qcZ 4 NC.2 (args:=[.v (.slice (O B) 3 cap)]) (by
  refine zq ?_;intros;refine zq ?_;intros
  repeat'((first|refine q8B 30 (zq ?_)|refine⟨_,⟨rfl,q _ _ rfl⟩,zq ?_⟩|refine⟨kF,zq ?_⟩|refine⟨_,λC D h=>qBV C (by repeat' first|exact h.1 0 _ rfl|replace h:=h.2) (λi c E=>(q i c E).mono D) ⟨⟨sb,sb⟩,rfl⟩ ⟨⟨sb,sb⟩,rfl⟩,zq ?_⟩|refine⟨_,rfl,zq ?_⟩|refine⟨⟨sb,sb⟩,zq ?_⟩|refine cT sb (zq ?_)|refine cF sb (zq ?_)|refine qWB (zq ?_)|rfl)<;>intros)
  intro P Q T H;refine zq ?_;intros;intro g2 L
  exact(qOC (R:=BX) H.rd [1,0,2] (zK .i64) sd λx u=>⟨rfl,by simp at u;rcases u with rfl|rfl|rfl<;>decide⟩).mono quA L)
def qMV(g){v}{l}(C:rSl 1 BX g v l)(s):OkV Tryz.prog 118 [v,.int .i64 s] g (.int .i64 (Cz (BM (λx=>s==x) l))):=
 Ok.Aq hm noT 0 Mu.2 (args:=[.v v,.v (.int .i64 s)]) (by
  obtain⟨R,cap,rfl,D,E,T,H⟩:=C;refine zq ?_;intros;refine⟨Z,λk=>[.v (.int .i64 k)],λk=>⟨g,[],_,_⟩,λk=>k<=l.length/\Cj (Eg λx=>s==x) l k,λk=>l.length-k,qfA 0 rfl ⟨zJ _,Cj.zero _ _⟩ rfl,?_⟩;rintro k ⟨U,q⟩;refine zw ?_;refine⟨λu=>?_,λu=>?_⟩
  .have h:k<l.length:=by have:=zd u;omega
   obtain⟨x,A⟩:=qEA h;obtain⟨a,rfl,V,W,⟨rfl,_⟩,L⟩:=H k x A;refine zw ?_;refine⟨a,rfl,⟨sa,sa⟩,zw ?_⟩;refine⟨_,L 0 _ rfl,zw ?_⟩;refine⟨λB=>?_,λB=>?_⟩
   .refine zw ?_;intro g2 P;rw[q0G q A B]
   .refine zw ?_;refine λY w Q=>⟨k+1,zI (λz=>[zK .i64 z]) (wr1 h D E).symm,⟨h,qVF q A B⟩,dec h,Q⟩
  .refine zw ?_;intro g2 P;have:=zf u
   rw[q2D q sa])
def qwR(g){v}{l}(h:rSl 1 BX g v l)(s):OkV Tryz.prog 78 [v,.int .i64 s] g (.bool (l.any λx=>s==x)):=
 Ok.Aq hm noT 0 Mr.2 (args:=[.v v,.v (.int .i64 s)]) (by
  refine zw ?_;refine .inl ⟨_,qMV _ h _,zw ?_⟩;intro g2 q
  rw[qUN])
def qqb:F (Z×FnI):=[(158,ED.1)]
def q0W:q6B Tryz.prog qqb:=by
 intro x h;simp only[qqb,zs,zC,zAt]at h;subst h;exact⟨_,_,ED.2⟩
def qCT(g)(x y):OkV Tryz.prog 128 [.int .i64 x,.int .i64 y] g (.bool (decide (x<y))):=
 Ok.Aq hm q0W 1 Np.2 (args:=[.v (.int .i64 x),.v (.int .i64 y)]) (by
  refine zq ?_;intros;refine cF se (zq ?_);intros;intro g2 h
  rfl)
def Kl:F (Z×FnI):=[(44,CD.1),(85,B6.1),(122,BD.1),(86,Gr.1),(132,FM.1)]
def qdZ:q6B Tryz.prog Kl:=by
 intro x h;simp only[Kl,zs,zC,zAt]at h;rcases h with rfl|rfl|rfl|rfl|rfl
 .exact⟨_,_,CD.2⟩
 .exact⟨_,_,B6.2⟩
 .exact⟨_,_,BD.2⟩
 .exact⟨_,_,Gr.2⟩
 .exact⟨_,_,FM.2⟩
def qpX(g){v}(D:rSl 23 rEv g v evS):OkV Tryz.prog 16 [v] g (.tuple #[.slice zc 0 0,.bool I]):=by
 have P:=D;obtain⟨_,_,_,_⟩:=D;subst_vars
 exact Ok.Aq hm qdZ 5 NX.2 (args:=[.v _]) (by
  refine zq ?_;intros;refine .inr ((q9c _ P).mono λv g1 ao h=>?_);obtain⟨ap,rfl,Q⟩:=h;obtain⟨aq,ar,rfl,q⟩:=q8Q Q;refine zr ?_;intros
  repeat'((first|refine q8B 30 ?_|refine⟨_,⟨rfl,q _ _ rfl⟩,?_⟩|refine⟨_,rfl,?_⟩|refine⟨⟨sb,sb⟩,?_⟩|refine cT sb ?_|refine cF sb ?_|fail)<;>first|(refine zr ?_;intros)|rfl)
  refine qWB (zr ?_);intros
  repeat'((first|refine⟨_,⟨rfl,q _ _ rfl⟩,?_⟩|refine⟨_,rfl,?_⟩|refine⟨⟨sb,sb⟩,?_⟩|refine cT sb ?_|refine cF sb ?_|fail)<;>first|(refine zr ?_;intros)|rfl)
  refine qtW λT w u=>?_;obtain⟨g2,U,au,V,E⟩:=(u.perm (zDx (l₁:=[_,_,_,_]))).BW;refine⟨_,E,?_⟩;clear u E;replace q:=λi c W=>(q i c W).mono U;refine zr ?_;intros
  repeat'((first|refine⟨_,⟨rfl,q _ _ rfl⟩,?_⟩|refine⟨_,rfl,?_⟩|refine⟨⟨sb,sb⟩,?_⟩|refine cT sb ?_|refine cF sb ?_|fail)<;>first|(refine zr ?_;intros)|rfl)
  obtain⟨Y,⟨C,_⟩|⟨b,cap,aa,C,⟨ab,ac⟩,ad,ae,af,ag⟩,ah⟩:=id V
  .cases C
  cases C;refine zw ?_;refine .inr (.inl ⟨b,_,aa,⟨rfl,ab,ac,ad,Y,ah,ae,af,ag,by unfold zAp;omega,sb⟩,λg3 av=>zr ?_⟩);intros
  repeat'((first|refine qWB ?_|refine⟨_,rfl,?_⟩|refine⟨⟨sb,sb⟩,?_⟩|refine cT sb ?_|refine cF sb ?_|refine⟨_,⟨sb,rfl⟩,?_⟩|fail)<;>first|(refine zr ?_;intros)|rfl)
  iterate 3
   refine q8B 30 (zr ?_);intros
   repeat'((first|refine qWB ?_|refine⟨_,rfl,?_⟩|refine⟨⟨sb,sb⟩,?_⟩|refine cT sb ?_|refine cF sb ?_|refine .inl ⟨_,qCT _ _ _,?_⟩|fail)<;>first|(refine zr ?_;intros)|rfl)
  refine qAU 30 λT w u=>?_;obtain⟨aw,ax,_,ai,H⟩:=u.BW;obtain⟨ay,aj,_,ak,L⟩:=(H.perm (zDx (l₁:=[_,_]))).BW;refine⟨_,L,?_⟩;clear u H L;have al:=q7C (R:=E9) (l:=[an0,an2]) (ai.mono aj).rd Ans.cs sd rfl (λ_ _=>rfl) λx A=>⟨rfl,by simp at A;rcases A with rfl|rfl<;>exact quN ⟨sb,sb⟩⟩;have am:=q7C (R:=E9) (l:=[an1]) ak.rd Ans.cs sd rfl (λ_ _=>rfl) λx A=>⟨rfl,by simp at A;subst A;exact quN ⟨sb,sb⟩⟩;refine zr ?_;intros
  repeat'((first|refine⟨_,rfl,?_⟩|refine⟨⟨sb,sb⟩,?_⟩|refine cT sb ?_|refine cF sb ?_|fail)<;>first|(refine zr ?_;intros)|rfl)
  refine .inr ((qVQ (given:=[an0,an2]) _ al sb).mono λv az an h=>?_);obtain⟨aA,c1,out,rfl,B,_⟩:=h;obtain rfl:out=[]:=B.trans sd;clear B;refine zr ?_;intros
  repeat'((first|refine q8B 30 ?_|refine qWB ?_|refine⟨_,rfl,?_⟩|refine⟨⟨sb,sb⟩,?_⟩|refine cT sb ?_|refine cF sb ?_|fail)<;>first|(refine zr ?_;intros)|rfl)
  refine .inr ((qVQ (given:=[an1]) _ (am.mono qDG an) sb).mono λv aB aC h=>?_);obtain⟨aD,c2,out,rfl,B,_⟩:=h;obtain rfl:out=[]:=B.trans sd;clear B;refine zr ?_;intros
  repeat'((first|refine q8B 30 ?_|refine qWB ?_|refine⟨_,rfl,?_⟩|refine⟨⟨sb,sb⟩,?_⟩|refine cT sb ?_|refine cF sb ?_|fail)<;>first|(refine zr ?_;intros)|rfl)
  intro g2 aE
  rfl)
noncomputable def Hj:Z->Wd->Ah->zy (Z×Wd×Ah)
 |0,_,_=>zc
 |f+1,w,m=>match qMY w m&&!((I6 w m).1.access==0)with
  |true=>match(Gw w m).1.done with
   |true=>O (1,(H8 w m).1,(Gw w m).1)
   |false=>match Hj f (H8 w m).1 (Gw w m).1 with
    |some (k,x,n)=>O (k+1,x,n)
    |none=>zc
  |false=>zc
def qJS:∀{f:Z}{w:Wd}{m:Ah}{k:Z}{x:Wd}{n:Ah},Hj f w m=O (k,x,n)->F3 k w m x n/\k<=f
 |0,_,_,_,_,_,h=>by cases h
 |f+1,w,m,k,x,n,h=>by
  unfold Hj at h;split at h
  .rename_i q;rw[zl]at q;have A:=qrQ q.1;have B:(psE w m).access≠0:=by rw[(I6 w m).2];simpa using q.2
   split at h
   .rename_i u;cases h;exact⟨⟨A,B,.inl ⟨by rw[(Gw w m).2];exact u,rfl,(H8 w m).2.symm,(Gw w m).2.symm⟩⟩,zDw (zJ _)⟩
   .rename_i u;split at h
    .rename_i H L P C;cases h;obtain⟨D,E⟩:=qJS C;exact⟨⟨A,B,.inr ⟨by rw[(Gw w m).2];exact u,by rw[(H8 w m).2,(Gw w m).2];exact D⟩⟩,zDw E⟩
    .cases h
  .cases h
def opC:OpD:={op0 with kind:=5}
noncomputable def cWd(w:Wd)(m:Ah):Wd:=match Hj 100 w m with
 |some (_,x,_)=>x
 |none=>w
noncomputable def JR(w:Wd)(m:Ah):Ans:=match Hj 100 w m with
 |some (_,_,n)=>n.answer
 |none=>BY
def q7V{w}{m:Ah}(h:(Hj 100 w m).isSome=I):∃k n,F3 k w m (cWd w m) n/\k<=9999/\n.answer=JR w m:=by
 obtain⟨⟨k,x,n⟩,e⟩:=zCv.1 h;obtain⟨q,u⟩:=qJS e;refine⟨k,n,?_,sa,?_⟩
 .unfold cWd;rw[e];exact q
 .unfold JR;rw[e]
noncomputable def wS:Z->Wd
 |0=>(plN 22).w
 |k+1=>cWd (wS k) (mPl opC 0)
def qcb:(zA8 3).all (λk=>(Hj 100 (wS k) (mPl opC 0)).isSome)=I:=sd
def q0Y(g):rOp g [.int .i64 5,.string ⟨#[]⟩,.string ⟨#[]⟩,.string ⟨#[]⟩,.int .i64 0,.int .i64 0,.int .i64 0,.slice zc 0 0,.slice zc 0 0,.slice zc 0 0] opC:=
 ⟨_,_,_,rfl,⟨sw,z0,z0,z0⟩,qNF g⟩
def qGV(g){cs}{k}(u:k<3)(A:rWo g cs (wS k)):Ok Tryz.prog 46 [.agg ⟨cs⟩,.int .i64 0,.agg ⟨[.int .i64 5,.string ⟨#[]⟩,.string ⟨#[]⟩,.string ⟨#[]⟩,.int .i64 0,.int .i64 0,.int .i64 0,.slice zc 0 0,.slice zc 0 0,.slice zc 0 0]⟩,.slice zc 0 0] g λv g'=>∃h B n,v=.tuple #[.agg ⟨h⟩,.agg ⟨B⟩,.int .i64 n]/\rWo g' h (wS (k+1)):=by
 obtain⟨j,n,C,D,_⟩:=q7V (Jg qcb u);refine(qyR g A (q0Y g) (qJI (given:=[]) g z0 ⟨zc,0,rfl,zH _,zJ _,λ_=>⟨rfl,rfl⟩,λi x q=>by simp at q⟩ sb (q0Y g)) C D).mono ?_;rintro v g' _ ⟨h,e,q,_⟩;exact⟨h,_,_,e,q⟩
def q7T:wdB (plN 22).w=I:=by
 rw[wdC.2];kernel_rfl
def qrW:qMY (plN 22).w (mPl opC 0)=I:=sd
def qJV(g){cs}(q:rWo g cs (plN 22).w):Ok Tryz.prog 17 [.agg ⟨cs⟩,.int .i64 3] g λv g'=>∃u,v=.tuple #[.agg ⟨u⟩,.int .i64 0]/\rWo g' u (wS 3):=by
 have A:=q;obtain⟨_,_,_,_,_,_,_,_,_,_,rfl⟩:=qLA q
 exact Ok.Aq hm noT 0 Nb.2 (args:=[.v (.agg ⟨_⟩),.v (.int .i64 3)]) (by
  refine zq ?_;intros;refine .inl ⟨_,(q5U _ A (qrQ qrW).sn).to (zI zBt q7T),zr ?_⟩;intros
  repeat'((first|refine q8B 5 ?_|refine cT sb ?_|refine cF sb ?_|fail)<;>first|(refine zr ?_;intros)|rfl)
  refine .inr ((qGV _ (k:=0) sb A).mono λv g1 H h=>?_);obtain⟨L,_,_,rfl,B⟩:=h;obtain⟨_,_,_,_,_,_,_,_,_,_,rfl⟩:=qLA B;refine zr ?_;intros
  repeat'((first|refine qWB ?_|refine cT sb ?_|refine cF sb ?_|fail)<;>first|(refine zr ?_;intros)|rfl)
  refine .inr ((qGV _ (k:=1) sb B).mono λv g2 P h=>?_);obtain⟨Q,_,_,rfl,C⟩:=h;obtain⟨_,_,_,_,_,_,_,_,_,_,rfl⟩:=qLA C;refine zr ?_;intros
  repeat'((first|refine qWB ?_|refine cT sb ?_|refine cF sb ?_|fail)<;>first|(refine zr ?_;intros)|rfl)
  refine .inr ((qGV _ (k:=2) sb C).mono λv g3 R h=>?_);obtain⟨T,_,_,rfl,D⟩:=h;obtain⟨_,_,_,_,_,_,_,_,_,_,rfl⟩:=qLA D;refine zr ?_;intros
  repeat'((first|refine qWB ?_|refine cT sb ?_|refine cF sb ?_|fail)<;>first|(refine zr ?_;intros)|rfl)
  intro g2 E
  exact⟨_,rfl,qBA _ _ _ _ E D⟩)
def w3L:Wd:=⟨3,1,0,[0,0],[⟨qiA FZ,[⟨0,[⟨1,[-1],0⟩,⟨1,[-1],0⟩]⟩],I⟩,⟨qiA FZ,[⟨1,[⟨8589934593,[-1],0⟩,⟨1,[-1],0⟩]⟩],zb⟩],[⟨sIn,zb,0,zb⟩],[[1,1,0,0,0,0],[0,0,0,0,0,0]],[⟨0,0,I⟩]⟩
def J3:wS 3=w3L:=sd
def Kj:F (Z×FnI):=[(47,Gc.1),(90,Fj.1),(48,Fi.1),(91,EA.1),(49,FJ.1),(92,EM.1),(50,FK.1),(94,EN.1),(51,FI.1),(96,EL.1),(89,Bd.1),(133,Bg.1),(23,AG.1),(56,AD.1),(73,AK.1),(115,AP.1),(93,Au.1),(134,Ax.1),(95,Be.1),(74,AH.1)]
def qbZ:q6B Tryz.prog Kj:=by
 intro x h;simp only[Kj,zs,zC,zAt]at h;rcases h with rfl|rfl|rfl|rfl|rfl|rfl|rfl|rfl|rfl|rfl|rfl|rfl|rfl|rfl|rfl|rfl|rfl|rfl|rfl|rfl
 .exact⟨_,_,Gc.2⟩
 .exact⟨_,_,Fj.2⟩
 .exact⟨_,_,Fi.2⟩
 .exact⟨_,_,EA.2⟩
 .exact⟨_,_,FJ.2⟩
 .exact⟨_,_,EM.2⟩
 .exact⟨_,_,FK.2⟩
 .exact⟨_,_,EN.2⟩
 .exact⟨_,_,FI.2⟩
 .exact⟨_,_,EL.2⟩
 .exact⟨_,_,Bd.2⟩
 .exact⟨_,_,Bg.2⟩
 .exact⟨_,_,AG.2⟩
 .exact⟨_,_,AD.2⟩
 .exact⟨_,_,AK.2⟩
 .exact⟨_,_,AP.2⟩
 .exact⟨_,_,Au.2⟩
 .exact⟨_,_,Ax.2⟩
 .exact⟨_,_,Be.2⟩
 .exact⟨_,_,AH.2⟩
def qNd{m:zt}{n:Z}{K:Z->Prop}(h:0<=m/\m<n)(k:K m.toNat):∃j:Z,(m=j/\j<n)/\K j:=⟨m.toNat,⟨sa,sa⟩,k⟩
def qIQ{u:Type}{sz}{R:RP u}{g}{v}{y:u}{l}(h:rSl sz R g v (y::l)):∃q cap,v=.slice (O q) (l.length+1) cap/\∀(i:Z)x,(y::l)[i]?=O x->∃ec,ec.length=sz/\R g ec x/\Rcs g (q.add (i*sz)) ec:=by
 obtain⟨_,cap,rfl,_,_,_,A⟩:=h;obtain⟨q,rfl,_⟩:=A 0 _ rfl;refine⟨q,cap,rfl,λi x B=>?_⟩;obtain⟨_,e,ec,C,D,E⟩:=A i x B;cases e;exact⟨ec,C,D,E⟩
def qjY{g}{cs}{s}{t}{e0 e1}{f}(h:rVe g cs ⟨s,[⟨t,[e0,e1]⟩],f⟩):∃oa ca D E H L u A q B P c0 Q c1,cs=[.slice oa s.Aa.length ca,.slice D s.AE.length E,.slice H s.Ad.length L,.slice (O u) 1 A,.bool f]/\Rcs g (u.add (0*2)) [.int .u64 t,.slice (O q) 2 B]/\Rcs g (q.add (0*3)) [.int .u64 e0.head,.slice P e0.next.length c0,.int .i64 e0.Ae]/\Rcs g (q.add (1*3)) [.int .u64 e1.head,.slice Q e1.next.length c1,.int .i64 e1.Ae]:=by
 obtain⟨a,b,d,n,rfl,hs,R⟩:=h;obtain⟨_,_,_,_,_,_,e⟩:=qkC hs;simp only[zAA,zA6]at e;obtain⟨rfl,rfl,rfl⟩:=e;obtain⟨u,A,rfl,T⟩:=qIQ R;obtain⟨_,_,⟨_,rfl,_,hE⟩,U⟩:=T 0 _ rfl;obtain⟨q,B,rfl,C⟩:=qIQ hE;obtain⟨_,_,⟨⟨Y,rfl,_,_,_,_,rfl,_⟩,_⟩,V⟩:=C 0 _ rfl;obtain⟨_,_,⟨⟨aa,rfl,_,_,_,_,rfl,_⟩,_⟩,W⟩:=C 1 _ rfl;exact⟨_,_,_,_,_,_,u,A,q,B,_,_,_,_,rfl,U,V,W⟩
def q7c(g){cs}(h:rWo g cs (wS 3)):OkV Tryz.prog 18 [.agg ⟨cs⟩] g (.bool I):=by
 rw[J3]at h;obtain⟨a,b,c,d,e,rfl,_,A,B,C,D,E⟩:=h;obtain⟨ag,ah,rfl,q⟩:=qIQ A;obtain⟨_,_,⟨rfl,_⟩,H⟩:=q 0 _ rfl;obtain⟨_,_,⟨rfl,_⟩,L⟩:=q 1 _ rfl;obtain⟨ai,aj,rfl,u⟩:=qIQ B;obtain⟨_,_,P,Q⟩:=u 0 _ rfl;obtain⟨_,_,R,T⟩:=u 1 _ rfl;obtain⟨_,_,_,_,_,_,_,_,_,_,_,_,_,_,rfl,U,V,W⟩:=qjY P;obtain⟨_,_,_,_,_,_,_,_,_,_,_,_,_,_,rfl,Y,aa,ab⟩:=qjY R;obtain⟨ak,cl,rfl,ac⟩:=qIQ C;obtain⟨_,_,⟨rfl,_⟩,ad⟩:=ac 0 _ rfl;obtain⟨al,am,rfl,_⟩:=qIQ D;obtain⟨an,ao,rfl,ae⟩:=qIQ E;obtain⟨_,_,⟨rfl,_⟩,af⟩:=ae 0 _ rfl
 exact Ok.Aq hm qbZ 8 Ob.2 (args:=[.v (.agg ⟨_⟩)]) (by
  refine zr ?_;intros
  repeat'((first|refine q8B 5 ?_|refine qWB ?_|refine qNd ⟨sb,sb⟩ ?_|refine cT sb ?_|refine cF sb ?_|refine⟨_,H 0 _ rfl,?_⟩|refine⟨_,L 0 _ rfl,?_⟩|refine⟨_,⟨rfl,Q⟩,?_⟩|refine⟨_,⟨rfl,T⟩,?_⟩|refine⟨_,⟨rfl,U⟩,?_⟩|refine⟨_,⟨rfl,Y⟩,?_⟩|refine⟨_,⟨rfl,V⟩,?_⟩|refine⟨_,⟨rfl,W⟩,?_⟩|refine⟨_,⟨rfl,aa⟩,?_⟩|refine⟨_,⟨rfl,ab⟩,?_⟩|refine⟨_,⟨rfl,ad⟩,?_⟩|refine⟨_,⟨rfl,af⟩,?_⟩|refine⟨kF,?_⟩|refine⟨kF,?_⟩|refine⟨kF,?_⟩|refine⟨kF,?_⟩|refine⟨kF,?_⟩|refine⟨kF,?_⟩|refine⟨kF,?_⟩|refine⟨kF,?_⟩|refine⟨kF,?_⟩|refine⟨_,rfl,?_⟩|refine⟨⟨sb,sb⟩,?_⟩|fail)<;>first|(refine zr ?_;intros)|rfl)
  intro g2 ap
  kernel_rfl)
noncomputable def sV:Z->Wd×F Ans
 |0=>(CJ (qLB FZ) [sIn] 1,[])
 |k+1=>(cWd (sV k).1 (HG (sV k).2 opH),(sV k).2++[JR (sV k).1 (HG (sV k).2 opH)])
def qDc:(zA8 3).all (λk=>(Hj 100 (sV k).1 (HG (sV k).2 opH)).isSome)=I:=sd
def qeU:∀k,(sV k).2.length=k
 |0=>rfl
 |k+1=>by show((sV k).2++[_]).length=_;rw[zAx,qeU k];rfl
def qtY:((sV 3).2[1]?.map λa=>a.Ak,(sV 3).2[2]?.map λa=>a.kind)=(O 1,O 4):=sd
def qDX:qQL [opH,opH,opH] λi W given=>i<=3/\W=(sV i).1/\given=(sV i).2:=
 qQO (λi W given h=>by rw[h.2.2,qeU];omega) λi W given o h q=>by
  obtain⟨_,rfl,rfl⟩:=h;have u:=(ze.1 q).1;obtain rfl:o=opH:=by have:=zh q;simpa using this
  obtain⟨k,n,A,B,C⟩:=q7V (Jg qDc u);exact⟨k,_,n,A,B,λ_=>⟨u,rfl,by rw[C];rfl⟩⟩
def qFV(g):Ok Tryz.prog 25 [] g λv g'=>∃x y z,v=.agg ⟨[x,y,z]⟩/\qBB g' [x,y,z] FZ:=
 Ok.Aq hm noT 0 MP.2 (args:=[]) (by
  refine zq ?_;intros;refine⟨1,rfl,by unfold zAp;omega,λg1 V W C=>zq ?_⟩;intros;refine⟨4,rfl,by unfold zAp;omega,λg2 D Y E=>zq ?_⟩;intros;refine⟨1,rfl,by unfold zAp;omega,λg3 H aa L=>zq ?_⟩;intros;refine⟨4,rfl,by unfold zAp;omega,λab P ac Q=>zq ?_⟩;intros;intro g2 u;have A:=GW.trans P u;have B:=GW.trans H A;have T:=GW.trans D B;have U:=qOC (R:=qOX) (L.mono A).rd [I,I] .bool rfl (λ_ _=>rfl)
  exact⟨_,_,_,rfl,_,_,_,rfl,qOC (R:=E8) (C.mono T).rd [sIn] .string rfl (λ_ _=>rfl),qcK (R:=q6L) (E.mono B).rd FZ.Ar rfl sb (λi x h=>by
   match i,h with
   |0,q=>cases q;rfl),qcK (R:=qTC) (Q.mono u).rd FZ.Ad rfl sb (λi x h=>by
   match i,h with
   |0,q=>cases q;exact⟨_,rfl,sw,sw,U⟩)⟩)
def Kr:F (Z×FnI):=[(7,Ds.1),(11,BP.1),(37,BB.1),(38,BO.1),(59,DY.1),(58,DZ.1),(57,Bj.1),(102,Bp.1)]
def qeZ:q6B Tryz.prog Kr:=by
 intro x h;simp only[Kr,zs,zC,zAt]at h;rcases h with rfl|rfl|rfl|rfl|rfl|rfl|rfl|rfl
 .exact⟨_,_,Ds.2⟩
 .exact⟨_,_,BP.2⟩
 .exact⟨_,_,BB.2⟩
 .exact⟨_,_,BO.2⟩
 .exact⟨_,_,DY.2⟩
 .exact⟨_,_,DZ.2⟩
 .exact⟨_,_,Bj.2⟩
 .exact⟨_,_,Bp.2⟩
def qHZ{g}{v}(u:rSl 23 rEv g v evS):∃h cap,v=.slice (O h) 22 cap/\∀(i:Z)(e:Ev),evS[i]?=O e->Rcs g (h.add (i*23)) e.cs:=by
 obtain⟨_,cap,ev,C,D,E,q⟩:=id u;obtain⟨h,rfl,_⟩:=q 0 _ rfl;refine⟨h,cap,ev,λi e A=>?_⟩;obtain⟨_,e1,_,_,rfl,B⟩:=q i e A;cases e1;exact B
def qLV(g){v}{cs}(hs:qAG g cs F5)(ac:rSl 23 rEv g v evS):Ok Tryz.prog 26 [.agg ⟨cs⟩,v] g λv' _=>v'=.tuple #[.int .i64 3,.bool I]:=by
 obtain⟨ao,cap,rfl,aM⟩:=qHZ ac;obtain⟨a,b,d,t,p,rfl,ad,ap,aq⟩:=hs;have ae:=ad;obtain⟨_,_,_,ar,⟨aN,aO,rfl,_⟩,⟨aP,aQ,rfl,_⟩,⟨aR,aT,rfl,_⟩⟩:=ad;cases ar;obtain⟨au,av,U,aU,aW,aX,af⟩:=id ap;replace U:t=.slice au 2 av:=U;obtain⟨_,aY,rfl,aZ,a0,a1,a2⟩:=id aq;subst U;obtain⟨at_,rfl,a3,_,⟨a4,rfl,ag⟩,q⟩:=af 0 _ rfl;obtain⟨_,e,e1,_,⟨a5,rfl,ah⟩,B⟩:=af 1 _ rfl;cases e;replace q:=q 0 _ rfl;replace B:=B 0 _ rfl;obtain⟨a6,a7,rfl,_⟩:=id ag;obtain⟨a8,a9,rfl,_⟩:=id ah;obtain⟨_,_,aw,_,_,_,ai⟩:=id ag;cases aw;obtain⟨_,_,ax,_,_,_,ay⟩:=id ah;cases ax;obtain⟨ba,e,bb,_,az,H⟩:=ai 0 _ rfl;subst e;obtain⟨_,e,bc,_,aA,C⟩:=ai 1 _ rfl;cases e;obtain⟨bd,e,be,_,aB,V⟩:=ay 0 _ rfl;subst e;obtain⟨_,_,_,_,_,_,rfl⟩:=qFI az;obtain⟨_,_,_,_,_,_,rfl⟩:=qFI aA;obtain⟨_,_,_,rfl,_,W⟩:=id aB;obtain⟨_,_,_,aC,⟨_,_,rfl,_⟩,⟨_,_,rfl,_⟩,⟨_,_,rfl,_⟩⟩:=id W;cases aC
 exact Ok.Aq hm qeZ 5 Nf.2 (args:=[.v (.agg ⟨_⟩),.v (.slice (O ao) 22 cap)]) (by
  refine zq ?_;intros;refine .inr ((q9c _ ac).mono λv g1 L P=>?_);obtain⟨bf,rfl,aj⟩:=P;obtain⟨bh,bi,rfl,u⟩:=q8Q aj;refine zq ?_;intros;refine .inr ((qME _ (qAA _ _ _ _ L ae)).mono λv g2 D Y=>?_);obtain⟨x,y,z,e,i,rfl,aD,_,⟨rfl,rfl,_,rfl,rfl⟩|⟨_,aa,_⟩⟩:=qoC (qAA _ _ _ _ L ae) D Y;rotate_left
  .exact absurd sd aa
  obtain⟨_,_,bj,bl,_,_,ak⟩:=qkC aD;simp only[zAA,zA6]at ak;obtain⟨_,rfl,_⟩:=ak;replace q:=q.mono (GW.trans L D);replace B:=B.mono (GW.trans L D);replace u:=λi c h=>(u i c h).mono D;refine zr ?_;intros
  repeat'((first|refine q8B 30 ?_|refine⟨_,⟨rfl,u _ _ rfl⟩,?_⟩|refine⟨_,q,?_⟩|refine⟨_,B,?_⟩|refine⟨kF,?_⟩|refine⟨_,rfl,?_⟩|refine⟨⟨sb,sb⟩,?_⟩|refine cT sb ?_|refine cF sb ?_|refine qWB ?_|fail)<;>first|(refine zr ?_;intros)|rfl)
  refine .inr ((qrX _ (aj.mono qdO D)).mono λv g3 R P=>?_);obtain⟨_,c3,ev,_,_,_,A⟩:=id P;obtain⟨al,rfl,_⟩:=A 0 _ rfl;replace ev:v=.slice (O al) 3 c3:=ev;subst ev
  have A:∀(i:Z)(x:zt),[(1:zt),0,2][i]?=O x->Rc g3 (al.add (i*1)) (.int .i64 x):=λi x h=>by
   obtain⟨_,e,_,_,⟨rfl,_⟩,h⟩:=A i x h;cases e;exact h 0 _ rfl
  have Q:=GW.trans (GW.trans L D) R;replace q:=q.mono R;replace B:=B.mono R;replace u:=λi c h=>(u i c h).mono R;replace H:=H.mono Q;replace C:=C.mono Q;replace V:=V.mono Q;refine zr ?_;intros
  repeat'((first|refine q8B 30 ?_|refine⟨_,⟨rfl,u _ _ rfl⟩,?_⟩|refine⟨_,A _ _ rfl,?_⟩|refine⟨_,q,?_⟩|refine⟨_,B,?_⟩|refine⟨_,⟨rfl,V⟩,?_⟩|refine⟨_,rfl,?_⟩|refine⟨⟨sb,sb⟩,?_⟩|refine cT sb ?_|refine cF sb ?_|refine qWB ?_|fail)<;>first|(refine zr ?_;intros)|rfl)
  refine .inr ((qME _ (qAA _ _ _ _ Q W)).mono λv bm E Y=>?_);obtain⟨x,y,z,e,i,rfl,ab,_,⟨rfl,rfl,_,rfl,rfl⟩|⟨_,aa,_⟩⟩:=qoC (qAA _ _ _ _ Q W) E Y;rotate_left
  .exact absurd sd aa
  obtain⟨_,_,bn,bo,_,_,am⟩:=qkC ab;simp only[zAA,zA6]at am;obtain⟨_,rfl,_⟩:=am;replace q:=q.mono E;replace u:=λi c h=>(u i c h).mono E;replace A:=λi c h=>(A i c h).mono E;replace H:=H.mono E;replace C:=C.mono E;refine zr ?_;intros
  repeat'((first|refine q8B 30 ?_|refine⟨_,⟨rfl,u _ _ rfl⟩,?_⟩|refine⟨_,A _ _ rfl,?_⟩|refine⟨_,q,?_⟩|refine⟨_,⟨rfl,H⟩,?_⟩|refine⟨⟨rfl,rfl,rfl,rfl,by unfold zAp;omega⟩,?_⟩|refine quY rfl ?_|refine⟨_,rfl,?_⟩|refine⟨⟨sb,sb⟩,?_⟩|refine cT sb ?_|refine cF sb ?_|refine qWB ?_|fail)<;>first|(refine zr ?_;intros)|rfl)
  obtain⟨_,_,_,aE,_,_,aF⟩:=id ab;cases aE;obtain⟨_,_,aG,_,_,_,aH⟩:=id aF;cases aG;obtain⟨bp,e,bq,_,an,aI⟩:=aH 0 _ rfl;subst e;have aJ:=an;obtain⟨_,rfl,_,_,aK⟩:=an;obtain⟨_,_,rfl,_⟩:=id aK;refine .inl ⟨.tuple #[.int .i64 0,.int .i64 0],(qLN _ ab _ _ _ (by decide+kernel)).to sd,zr ?_⟩;intros
  repeat'((first|refine⟨_,⟨rfl,aI⟩,?_⟩|refine⟨_,rfl,?_⟩|refine⟨⟨sb,sb⟩,?_⟩|refine cT sb ?_|refine cF sb ?_|fail)<;>first|(refine zr ?_;intros)|rfl)
  refine .inr ((qyG _ aJ (by decide+kernel)).mono λv br T P=>?_);obtain⟨bt,bu,rfl,aL⟩:=P;refine zr ?_;intros
  repeat'((first|refine⟨_,rfl,?_⟩|refine⟨⟨sb,sb⟩,?_⟩|refine cT sb ?_|refine cF sb ?_|fail)<;>first|(refine zr ?_;intros)|rfl)
  refine .inl ⟨.bool I,(qwR _ aL _).to sd,?_⟩;replace q:=q.mono T;replace u:=λi c h=>(u i c h).mono T;replace A:=λi c h=>(A i c h).mono T;replace C:=C.mono T;refine zr ?_;intros
  repeat'((first|refine⟨_,⟨rfl,u _ _ rfl⟩,?_⟩|refine⟨_,A _ _ rfl,?_⟩|refine⟨_,q,?_⟩|refine⟨_,⟨rfl,C⟩,?_⟩|refine⟨_,rfl,?_⟩|refine⟨⟨sb,sb⟩,?_⟩|refine cT sb ?_|refine cF sb ?_|refine qWB ?_|fail)<;>first|(refine zr ?_;intros)|rfl)
  intro g2 bv
  kernel_rfl)
end Go.Proofs.YtlmhpamhhgogaaaGreat
namespace Go.Proofs.YtlmhpamhhgogaaaGreat
open Go.Conc (G)
open Go.Proofs.YtlmhpamhhgogaaaGreat.Sx Go.Duo Go.RowKit
def Kg:F (Z×FnI):=[(7,Ds.1),(11,BP.1),(37,BB.1),(38,BO.1),(12,BV.1)]
def qaZ:q6B Tryz.prog Kg:=by
 intro x h;simp only[Kg,zs,zC,zAt]at h;rcases h with rfl|rfl|rfl|rfl|rfl
 .exact⟨_,_,Ds.2⟩
 .exact⟨_,_,BP.2⟩
 .exact⟨_,_,BB.2⟩
 .exact⟨_,_,BO.2⟩
 .exact⟨_,_,BV.2⟩
structure Ly(l:F OpD):Prop where
 sm:∀o∈l,Sm o.Bb/\Sm o.path
def qxW{g}{h q}{l}(u:rSl 10 rOp g h l)(A:CQ g 1 q 1 [h]):rSl 1 q0I g q [l]:=
 qcK (R:=q0I) A [l] rfl sb λi D B=>by
  match i,B with
  |0,C=>cases C;exact⟨_,rfl,u⟩
def L6{c}{l}(h:isB (GH c l)=I):qOA c=zc/\∀o∈l,1<=o.kind/\o.kind<=6:=by
 unfold isB at h;simp only[zl,zAs]at h;obtain⟨⟨⟨⟨⟨q,_⟩,_⟩,_⟩,u⟩,_⟩:=h;refine⟨DL.1 q,λo A=>?_⟩;have:=(u l (zA3.2 rfl)).2 o A;unfold qsF at this;simpa using this
def qWT{s}{l h p}(q:q4D s l h p=zc):∃e:zt,qoL s l h p=.tuple #[.int .i64 0,.int .i64 e]/\(e !=0)=I:=by
 unfold q4D at q;unfold qoL;split at q
 .rename_i u;rw[zk u];exact⟨3,rfl,rfl⟩
 .rename_i u;rw[zj u];rw[Option.map_eq_none_iff]at q;rw[q];exact⟨5,rfl,rfl⟩
def qVT{s}{l h p}{c}(q:q4D s l h p=O c):qoL s l h p=.tuple #[.int .i64 c,.int .i64 0]:=by
 unfold q4D at q;unfold qoL;split at q
 .cases q
 .rename_i A;rw[zj A];obtain⟨j,u,rfl⟩:=zD.1 q;rw[u];obtain⟨r,B,_⟩:=Eu.1 u;simp only[B,zBv,Option.get!_some,zAG]
def qPT{M}{o}{a:Ans}(h:qYb M o a)(L:qOA (qfD M.Aw)=zc):(Dk M.Bc o.listen=I/\a.kind=5)\/(Dk M.Bc o.listen=zb/\((q4D M.Aw o.listen o.Bb o.path=zc/\a.kind=2)\/∃c u,q4D M.Aw o.listen o.Bb o.path=O c/\(0<=c/\c<M.Aw.Ad.length)/\M.Aw.Ad[c.toNat]?=O u/\((qFA u=[]/\a.kind=3)\/(qFA u≠[]/\(a.kind=4\/(a.kind=1/\a.Ac=M.now/\a.Af=c/\a.Ak∈qFA u)))))):=by
 obtain⟨q,P⟩:=h;unfold IX at q;cases D:Dk M.Bc o.listen with
 |true=>
  rw[D,zk rfl]at q;exact .inl ⟨rfl,q⟩
 |false=>
  rw[D,zj sb]at q;refine .inr ⟨rfl,?_⟩;cases A:q4D M.Aw o.listen o.Bb o.path with
  |none=>
   rw[qFK A]at q;exact .inl ⟨rfl,q⟩
  |some c=>
   have Q:=q3J L A;obtain⟨u,C⟩:=qEA (l:=M.Aw.Ad) (i:=c.toNat) sa;rw[qEK A C]at q;refine .inr ⟨c,u,rfl,Q,C,?_⟩;by_cases B:qFA u=[]
   .rw[zk B]at q;exact .inl ⟨B,q⟩
   .rw[zj B]at q;refine .inr ⟨B,?_⟩;rcases(show a.kind=1\/a.kind=4 from q)with h|h
    .obtain⟨R,U,E,H,T⟩:=P h;rw[A]at E;cases E;rw[C]at H;cases H;exact .inr ⟨h,R,rfl,T⟩
    .exact .inl h
def qDT(g){b}{n}(h:Rc g ⟨b,1,zc⟩ (.int .i64 n)):OkV Tryz.prog 12 [.pointer (O ⟨b,0,zc⟩)] g (.int .i64 n):=
 Ok.Aq hm noT 0 BV.2 (args:=[.v (.pointer (O ⟨b,0,zc⟩))]) (by
  refine zr ?_;intros
  repeat'((first|refine cF rfl ?_|refine⟨_,h,?_⟩|fail)<;>first|(refine zr ?_;intros)|rfl)
  intro g2 q
  rfl)
structure TS where
 k:Z
 M:CZ
 css:F (F zg)
 es:F (Ky×zg)
 oa:zy zAI
 cap:Z
 g:GW
structure TJ(g0:GW)(l:F OpD)(ans:F Ans)(M2:CZ)(z:TS):Prop where
 k:z.k<=l.length
 le:g0<=z.g
 tk:Dm z.M (l.drop z.k) (ans.drop z.k) M2
 len:z.css.length=z.M.AN.length
 sz:∀e∈z.css,e.length=3
 sn:∀(i:Z)(s:Ej),z.M.AN[i]?=O s->∃e:F zg,z.css[i]?=O e/\qDI z.g e s
 ok:∀s∈z.M.AN,∃c,qOA c=zc/\s=qiA c
 now:0<=z.M.now/\z.M.now<z.M.AN.length
 dr:Hw z.es z.M.Bc
 few:z.M.AN.length<=z.k+1
def TJ.take{g0}{l}{q}{A}{z}(h:TJ g0 l q A z)(B:z.k<l.length)(E:q.length=l.length):∃o a u,l[z.k]?=O o/\q[z.k]?=O a/\qcW z.M o a u/\Dm u (l.drop (z.k+1)) (q.drop (z.k+1)) A:=by
 have:=h.tk;rw[zB5 B,zB5 (by omega:z.k<q.length)]at this;obtain⟨u,C,D⟩:=this;exact⟨_,_,u,zAa B,zAa _,C,D⟩
def TJ.Ak{g0}{l}{q}{u}{z}(h:TJ g0 l q u z)(A:¬z.k<l.length)(B:q.length=l.length):z.M=u:=by
 have:=h.tk;rw[zCj sa,zCj sa]at this;exact this.symm
def TJ.stay{g0}{l}{q}{u}{z}(h:TJ g0 l q u z)(B:z.k<l.length){g'}(A:z.g<=g')(C:Dm z.M (l.drop (z.k+1)) (q.drop (z.k+1)) u):TJ g0 l q u {z with k:=z.k+1,g:=g'}:=
 ⟨B,GW.trans h.le A,C,h.len,h.sz,λi s hs=>by
  obtain⟨e,D,E⟩:=h.sn i s hs
  exact⟨e,D,qlB _ _ _ _ A E⟩,h.ok,h.now,h.dr,zBQ h.few⟩
def TJ.drain{g0}{l}{q}{u}{z}(h:TJ g0 l q u z)(A:z.k<l.length){s}(B:Dm ⟨z.M.AN,z.M.now,s::z.M.Bc⟩ (l.drop (z.k+1)) (q.drop (z.k+1)) u):TJ g0 l q u {z with k:=z.k+1,M:=⟨z.M.AN,z.M.now,s::z.M.Bc⟩,es:=CB (.s s) (.bool I) z.es}:=
 ⟨A,h.le,B,h.len,h.sz,h.sn,h.ok,h.now,h.dr.add s,zBQ h.few⟩
def TJ.swap{g0}{l}{A}{B}{z}(h:TJ g0 l A B z)(E:z.k<l.length){c}(H:qOA c=zc){e}{g'}(C:z.g<=g')(L:qDI g' e (qiA c))(P:e.length=3){oa}{cap}(Q:Dm ⟨z.M.AN++[qiA c],z.M.AN.length,z.M.Bc⟩ (l.drop (z.k+1)) (A.drop (z.k+1)) B):TJ g0 l A B ⟨z.k+1,⟨z.M.AN++[qiA c],z.M.AN.length,z.M.Bc⟩,z.css++[e],z.es,oa,cap,g'⟩:=by
 refine⟨E,GW.trans h.le C,Q,by simp[h.len],λx q=>?_,λi s hs=>?_,λs hs=>?_,?_,h.dr,?_⟩
 .rcases zN.1 q with q|q
  .exact h.sz x q
  .obtain rfl:=zA3.1 q;exact P
 .have hs:(z.M.AN++[qiA c])[i]?=O s:=hs;show ∃x:F zg,(z.css++[e])[i]?=O x/\qDI g' x s;rcases zAJ i z.M.AN.length with u|u
  .rw[zAc u]at hs;rw[zAc (by rw[h.len];exact u)];obtain⟨x,R,T⟩:=h.sn i s hs;exact⟨x,R,qlB _ _ _ _ C T⟩
  .rw[zBg u]at hs;rw[zBg (by rw[h.len];exact u),h.len];cases D:i-z.M.AN.length with
   |zero=>
    rw[D]at hs;cases hs;exact⟨e,rfl,L⟩
   |succ j=>rw[D]at hs;cases hs
 .rcases zN.1 (show s∈z.M.AN++[qiA c]from hs)with hs|hs
  .exact h.ok s hs
  .obtain rfl:=zA3.1 hs;exact⟨c,H,rfl⟩
 .show(0:zt)<=(z.M.AN.length:zt)/\(z.M.AN.length:zt)<((z.M.AN++[qiA c]).length:Z);rw[zAx];exact⟨sa,by show _<((_+1:Z):zt);omega⟩
 .show(z.M.AN++[qiA c]).length<=_;have:=h.few;rw[zAx];exact zDw this
def qSQ{E:Env Tryz.prog}(bm:∀f args w R,qnP Tryz.prog f args w R->E.Big f args w R)(az:∀g,OkE E 6 [] g λv _=>v=.bool I)(g:GW){x y z aU:zg}{c:Bn}{l:F OpD}(aW:qBB g [x,y,z] c)(aX:rSl 10 rOp g aU l)(aY:Ly l):Jh E 3 [.agg ⟨[x,y,z]⟩,aU] g λv _=>v=.bool I:=by
 have ao:=aW;have aZ:=aX;obtain⟨bn,cl,rfl,B,C,ci,bo⟩:=id aX;obtain⟨_,_,_,aA,⟨bp,bq,rfl,_⟩,⟨cj,ck,rfl,_⟩,⟨br,bt,rfl,_⟩⟩:=aW;cases aA
 exact Jh.Aq hm qaZ 2 MG.2 (args:=[.v (.agg ⟨[_,_,_]⟩),.v (.slice bn l.length cl)]) (by
  refine zq ?_;intros;refine⟨λV=>?_,λV=>?_⟩
  .refine zr ?_;intros
   repeat'((first|refine cT V ?_|refine cF V ?_|fail)<;>first|(refine zr ?_;intros)|rfl)
   refine .inr ((az _).mono λv g1 af W=>?_);subst W;refine zq ?_;intros;intro g2 a0;rfl
  .have bu:l.length<=12:=by have:=zf V;omega
   refine zr ?_;intros
   repeat'((first|refine cT V ?_|refine cF V ?_|fail)<;>first|(refine zr ?_;intros)|rfl)
   refine⟨1,rfl,by unfold zAp;omega,λbv ag cm bw=>?_⟩;have a1:qAG bv _ (GH c l):=⟨_,_,_,_,_,rfl,qAA _ _ _ _ ag ao,qxW (aZ.mono qYD ag) bw.rd,⟨zc,0,rfl,zH _,zJ _,λ_=>⟨rfl,rfl⟩,λi x bx=>by simp at bx⟩⟩;refine zq ?_;intros;refine .inl ⟨_,q9U _ a1,zr ?_⟩;intros
   repeat'((first|refine cT V ?_|refine cF V ?_|fail)<;>first|(refine zr ?_;intros)|rfl)
   refine⟨λah=>?_,λah=>?_⟩
   .refine .inr ((az _).mono λv g1 af W=>?_);subst W;refine zq ?_;intros;intro g2 a0;rfl
   .obtain⟨A,bz⟩:=L6 (l:=l) (c:=c) (by cases ap:isB (GH c l)with|true=>rfl|false=>rw[ap]at ah;cases ah);refine zr ?_;intros
    repeat'((first|refine cT ah ?_|refine cF ah ?_|fail)<;>first|(refine zr ?_;intros)|rfl)
    refine .inr ((OkE.of (qME _ (qAA _ _ _ _ ag ao))).mono λv g1 af ai=>?_);obtain⟨x,y,z,e,i,rfl,aB,_,⟨rfl,rfl,_,rfl,rfl⟩|⟨_,aj,_⟩⟩:=qoC (qAA _ _ _ _ ag ao) af ai;rotate_left
    .exact absurd A aj
    obtain⟨_,_,bA,bB,_,_,a2⟩:=qkC aB;simp only[zAA,zA6]at a2;obtain⟨_,rfl,_⟩:=a2;refine zr ?_;intros
    repeat'((first|refine cT sb ?_|refine cF sb ?_|fail)<;>first|(refine zr ?_;intros)|rfl)
    rename_i cn co bC a3 bD
    refine .inr ((qEM _ (q9F _ _ _ _ af a1) ⟨by have:=(AZ.1 A).size.1.2;show c.Aa.length<=50;omega,(by decide:1<=20),λcp ak=>by
     obtain rfl:=zA3.1 ak
     omega⟩).mono λv g2 a4 a5=>?_)
    obtain⟨on,cq,rfl,_⟩:=id a5;refine zr ?_;intros
    repeat'((first|refine cT sb ?_|refine cF sb ?_|fail)<;>first|(refine zr ?_;intros)|rfl)
    have al:E1 (quE (GH c l)) l:=⟨bu,by have:=qGT (l:=l) A;omega,bz,aY.sm,λo aq aC bE n Y=>FA.2 (.inr ⟨o,aq,⟨aC,bE⟩,Y⟩)⟩;have ar:=GW.trans ag (GW.trans af a4);refine .inr ((OkE.top bm (quR (Inv:=λi D bF=>SvI (quE (GH c l)) ⟨[qiA c],0,[]⟩ l i D bF) (qAA _ _ _ _ ar ao) A a5 (qHM A) (by have:=al.names;omega) (by have:=(AZ.1 A).size.2.1.2;omega) (aZ.mono qYD ar) sa (qyS al) (qPU A (qHM A) al λn Y=>FA.2 (.inl Y)))).mono λv g3 aD bG=>?_);obtain⟨cr,csW,D,a6,rfl,hW,bH,aE,aF⟩:=bG;obtain⟨w1,bI,bJ,bK,w3,bL,bM,bN,w5,bO,rfl⟩:=qLA hW;obtain⟨a7,ac,bP⟩:=aF.Hd;rw[zAX]at ac;obtain⟨ct,cu,rfl,cv,cw,cx,bQ⟩:=id bH;refine zr ?_;intros
    repeat'((first|refine cT sb ?_|refine cF sb ?_|refine cF (by rw[aE];simp) ?_|refine .inl ⟨_,q5U _ hW aF.sn,?_⟩|refine cF (by rw[aF.hold.right];rfl) ?_|fail)<;>first|(refine zr ?_;intros)|rfl)
    refine zq ?_;intros;rename_i bR;refine zw ?_;refine⟨TS,λz=>[.v (.int .i64 z.k)],λz=>⟨z.g,[.row 20 z.oa z.M.AN.length z.cap 68 3 z.css.flatten,.blk 8 bR 44 [.v (.int .i64 D.Ai),.v (.int .i64 D.current),.v (.int .i64 D.AL),.v (.slice w1 D.pins.length bI),.v (.slice bJ D.Ab.length bK),.v (.slice w3 D.Aa.length bL),.v (.slice bM D.counts.length bN),.v (.slice w5 D.An.length bO)],.blk 7 bD 86 [.row 20 z.oa z.M.AN.length z.cap,.v (.int .i64 z.M.now),.mp 6 a3],.mp 6 a3 .str z.es],40,g.w.heap.size⟩,TJ g3 l a6 a7,λz=>l.length-z.k,λH w q=>⟨⟨0,⟨[qiA c],0,[]⟩,[[.slice bp c.Aa.length bq,.slice bA (qLB c).AE.length bB,.slice br c.Ad.length bt]],[],O ⟨bC,0,zc⟩,1,g3⟩,rfl,⟨zJ _,GW.refl _,ac,rfl,λe aA=>by obtain rfl:=zA3.1 aA;rfl,λi s hs=>?_,λs hs=>⟨c,A,zA3.1 hs⟩,⟨zAS _,by show(0:zt)<((1:Z):zt);decide⟩,Hw.nil,zH _⟩,?_⟩,?_⟩
    .match i,hs with
     |0,ap=>
      cases ap;refine⟨_,rfl,qlB _ _ _ _ (GW.trans a4 aD) ?_⟩;rw[qLB,A]at aB;rw[qLB,A];exact aB
    .exact(Ap.Jb (nx':=40) (id':=20) (q.perm (zDx (l₁:=[_,_,_]))) 1 3 rfl sb).fit sc
    rintro⟨k,M,L,es,Q,c1,ad⟩ u;have aG:g3<=ad:=u.le;have au:0<=M.now/\M.now<M.AN.length:=u.now;have aH:Hw es M.Bc:=u.dr;by_cases h:k<l.length;rotate_left
    .obtain rfl:M=a7:=u.Ak h aE;have av:¬(k:zt)<(l.length:zt):=sa
     refine zr ?_;intros
     repeat'((first|refine cF (zT av) ?_|fail)<;>first|(refine zr ?_;intros)|rfl)
     refine .inr ((az _).mono λv cy cz W=>?_);subst W;refine zr ?_;intros
     repeat'((first|refine cT rfl ?_|refine cF rfl ?_|refine⟨_,λbT cA bU=>qDT bT (bU.2.2.1 1 _ rfl),?_⟩|fail)<;>first|(refine zr ?_;intros)|rfl)
     intro g2 a0;exact zI zBt (beq_iff_eq.2 bP.now.symm)
    obtain⟨o,a,cB,aq,bW,bX,P⟩:=u.take h aE;obtain⟨cC,rfl,cD,_,a8,aI⟩:=bo k o aq;obtain⟨cG,rfl,cH,_,⟨rfl,cI⟩,aJ⟩:=bQ k a bW;obtain⟨_,_,_,_,_,_,rfl⟩:=qFI a8;obtain⟨_,_,_,ak,_,ae⟩:=id a8;cases ak;replace ae:=qAA _ _ _ _ (GW.trans ar (GW.trans aD aG)) ae;replace aI:=aI.mono (GW.trans ar (GW.trans aD aG));replace aJ:=aJ.mono aG;have av:(k:zt)<(l.length:zt):=sa
    have bY:(k:zt)<(a6.length:zt):=sa
    refine zr ?_;intros
    repeat'((first|refine cT (zR av) ?_|refine⟨_,rfl,⟨zCV k,av⟩,?_⟩|refine⟨_,rfl,⟨zCV k,bY⟩,?_⟩|refine⟨_,⟨rfl,aI⟩,?_⟩|refine⟨_,⟨rfl,aJ⟩,?_⟩|fail)<;>first|(refine zr ?_;intros)|rfl)
    rcases bX with⟨am,bZ,hM⟩|⟨aw,⟨e,i,aa,T,aK,hM⟩|⟨aa,T,aK,hM⟩⟩|⟨ax,⟨T,hM⟩|⟨T,hM⟩⟩|⟨am,aw,ax,hM⟩
    .replace hM:=hM.symm;subst hM;obtain⟨sn,aL⟩:=qEA (l:=M.AN) (i:=M.now.toNat) sa;have a9:M.Aw=sn:=by show(M.AN[M.now.toNat]?).getD _=_;rw[aL];rfl
     obtain⟨cJ,ba,an⟩:=u.sn _ _ aL;obtain⟨cK,aM,rfl⟩:=u.ok sn (zh aL);have bb:qOA (qfD M.Aw)=zc:=by rw[a9,qFJ (AZ.1 aM)];exact aM
     have aN:=q6M aM;rw[<-a9]at an aN;obtain⟨cL,cN,cO,cP,cQ,cR,rfl⟩:=qkC an;obtain⟨_,_,_,ak,_,_,bc⟩:=id an;cases ak;have bd:SmL M.Aw.AE/\Sm o.Bb/\Sm o.path:=⟨λr be=>⟨by have:=(aN.2 r be).1;show _<=_;omega,by have:=(aN.2 r be).2;show _<=_;omega⟩,aY.sm o (zh aq)⟩;rcases qPT bZ bb with⟨ay,b0⟩|⟨ay,⟨aO,b1⟩|⟨cU,aP,aO,b2,aQ,⟨Y,aC⟩|⟨Y,b3⟩⟩⟩
     .refine zr ?_;intros
      repeat'((first|refine cT (beq_iff_eq.2 am) ?_|refine⟨_,(aH o.listen).trans (zk ay),?_⟩|refine cF (by rw[b0];rfl) ?_|refine cT rfl ?_|refine cF rfl ?_|fail)<;>first|(refine zr ?_;intros)|rfl)
      refine λH w q=>⟨⟨k+1,M,L,es,Q,c1,ad⟩,zI (λz=>[zK .i64 z]) (wr1 h B C).symm,u.stay h (GW.refl _) P,dec h,q.fit ?_⟩;simp[AB,Res.eqv,qCA,Ag]
     .obtain⟨cV,ac,b4⟩:=qWT aO;refine zr ?_;intros
      repeat'((first|refine cT (beq_iff_eq.2 am) ?_|refine⟨_,(aH o.listen).trans (zj (by rw[ay];decide)),?_⟩|refine cF (by rw[b1];rfl) ?_|refine cT b4 ?_|refine cT rfl ?_|refine cF rfl ?_|refine⟨au,?_⟩|refine⟨_,rfl,au,?_⟩|refine⟨_,⟨rfl,λi b5 aR=>qyE u.sz ba aR⟩,?_⟩|refine .inl ⟨_,(qLN _ an o.listen o.Bb o.path bd).to ac,?_⟩|fail)<;>first|(refine zr ?_;intros)|rfl)
      refine λH w q=>⟨⟨k+1,M,L,es,Q,c1,ad⟩,zI (λz=>[zK .i64 z]) (wr1 h B C).symm,u.stay h (GW.refl _) P,dec h,q.fit ?_⟩;simp[AB,Res.eqv,qCA,Ag]
     all_goals
      have ac:=qVT aO;obtain⟨cX,rfl⟩:=qVA bc aQ;obtain⟨_,_,bf,b6⟩:=qEI bc aQ;obtain⟨cY,rfl,cZ,_,b7⟩:=id bf;obtain⟨c0,c4,rfl,_⟩:=id b7;refine zr ?_;intros
      repeat'((first|refine cT (beq_iff_eq.2 am) ?_|refine⟨_,(aH o.listen).trans (zj (by rw[ay];decide)),?_⟩|refine cT rfl ?_|refine cF rfl ?_|refine⟨au,?_⟩|refine⟨_,rfl,au,?_⟩|refine⟨_,⟨rfl,λi b5 aR=>qyE u.sz ba aR⟩,?_⟩|refine .inl ⟨_,(qLN _ an o.listen o.Bb o.path bd).to ac,?_⟩|refine⟨_,rfl,b2,?_⟩|refine⟨_,⟨rfl,b6⟩,?_⟩|fail)<;>first|(refine zr ?_;intros)|rfl)
      refine .inr ((OkE.of (qyG _ bf (by have:=((AZ.1 bb).cl aP (zh aQ)).2.2.2.2;omega))).mono λv ab U al=>?_);obtain⟨c5,c6,rfl,b8⟩:=al
     .refine zr ?_;intros
      repeat'((first|refine cT (by rw[Y];rfl) ?_|refine cF (by rw[aC];rfl) ?_|fail)<;>first|(refine zr ?_;intros)|rfl)
      refine λH w q=>⟨⟨k+1,M,L,es,Q,c1,ab⟩,zI (λz=>[zK .i64 z]) (wr1 h B C).symm,u.stay h U P,dec h,q.fit ?_⟩;simp[AB,Res.eqv,qCA,Ag]
     .have bh:¬(((qFA aP).length:zt)=0):=λap=>Y (zA4.1 sa);rcases b3 with b9|⟨bi,W,ca,cb⟩
      .refine zr ?_;intros
       repeat'((first|refine cF (beq_eq_false_iff_ne.2 bh) ?_|refine cT (beq_iff_eq.2 b9) ?_|refine cF rfl ?_|fail)<;>first|(refine zr ?_;intros)|rfl)
       refine λH w q=>⟨⟨k+1,M,L,es,Q,c1,ab⟩,zI (λz=>[zK .i64 z]) (wr1 h B C).symm,u.stay h U P,dec h,q.fit ?_⟩;simp[AB,Res.eqv,qCA,Ag]
      .refine zr ?_;intros
       repeat'((first|refine cF (beq_eq_false_iff_ne.2 bh) ?_|refine cF (by rw[bi];rfl) ?_|refine cT (by rw[bi];rfl) ?_|refine cT (beq_iff_eq.2 W) ?_|refine cT (beq_iff_eq.2 ca) ?_|refine .inl ⟨_,qwR _ b8 _,?_⟩|refine cF (show(!((qFA aP).any λx=>a.Ak==x))=zb by rw[zBY.2 ⟨_,cb,beq_iff_eq.2 rfl⟩];rfl) ?_|fail)<;>first|(refine zr ?_;intros)|rfl)
       refine λH w q=>⟨⟨k+1,M,L,es,Q,c1,ab⟩,zI (λz=>[zK .i64 z]) (wr1 h B C).symm,u.stay h U P,dec h,q.fit ?_⟩;simp[AB,Res.eqv,qCA,Ag]
    .replace hM:=hM.symm;subst hM;refine zr ?_;intros
     repeat'((first|refine cF (beq_eq_false_iff_ne.2 (show ¬o.kind=1 by omega)) ?_|refine cT (beq_iff_eq.2 aw) ?_|refine cF rfl ?_|fail)<;>first|(refine zr ?_;intros)|rfl)
     refine .inr ((OkE.of (qME _ ae)).mono λv ab U ai=>?_);obtain⟨_,_,_,cc,cd,rfl,_,bj,⟨_,_,ce,_⟩|⟨aj,_,rfl,rfl,rfl⟩⟩:=qoC ae U ai
     .rw[ce]at aa;cases aa
     rw[aa]at bj;have cf:e=cc/\i=cd:=by simpa[eiT]using bj
     obtain⟨rfl,rfl⟩:=cf;refine zr ?_;intros
     repeat'((first|refine cT (bne_iff_ne.2 aj) ?_|refine cT (beq_iff_eq.2 T) ?_|refine cF (show(!(a.n==e))=zb by rw[aK];simp) ?_|refine cT rfl ?_|refine cF rfl ?_|fail)<;>first|(refine zr ?_;intros)|rfl)
     refine λH w q=>⟨⟨k+1,M,L,es,Q,c1,ab⟩,zI (λz=>[zK .i64 z]) (wr1 h B C).symm,u.stay h U P,dec h,q.fit ?_⟩;simp[AB,Res.eqv,qCA,Ag]
    .subst hM;refine zr ?_;intros
     repeat'((first|refine cF (beq_eq_false_iff_ne.2 (show ¬o.kind=1 by omega)) ?_|refine cT (beq_iff_eq.2 aw) ?_|refine cF rfl ?_|fail)<;>first|(refine zr ?_;intros)|rfl)
     refine .inr ((OkE.of (qME _ ae)).mono λv ab U ai=>?_);obtain⟨_,_,_,_,_,rfl,aT,_,⟨rfl,rfl,_,rfl,rfl⟩|⟨_,aj,_⟩⟩:=qoC ae U ai;rotate_left
     .exact absurd aa aj
     rw[show qLB o.Ao=qiA o.Ao by unfold qLB;rw[aa]]at aT;obtain⟨_,_,c7,c8,_,_,bl⟩:=qkC aT;simp only[zAA,zA6]at bl;obtain⟨_,rfl,_⟩:=bl;refine zr ?_;intros
     repeat'((first|refine cF sb ?_|refine cF (show(a.kind !=8)=zb by rw[T];rfl) ?_|refine cF (show(a.Ac !=(M.AN.length:zt))=zb by rw[aK];simp) ?_|refine cT rfl ?_|refine cF rfl ?_|fail)<;>first|(refine zr ?_;intros)|rfl)
     have c9:M.AN.length<=k+1:=u.few;refine zw ?_;refine⟨⟨by show M.AN.length+1<=zAp;unfold zAp;omega,by show(M.AN.length+1)*72<=_;omega⟩,λcg ch=>zr ?_⟩;intros
     repeat'((first|refine cT rfl ?_|refine cF rfl ?_|fail)<;>first|(refine zr ?_;intros)|rfl)
     refine λH w q=>⟨⟨k+1,⟨M.AN++[qiA o.Ao],M.AN.length,M.Bc⟩,L++[[_,_,_]],es,cg,ch,ab⟩,zI (λz=>[zK .i64 z]) (wr1 h B C).symm,u.swap h aa U aT rfl P,dec h,q.fit ?_⟩;simp[AB,Res.eqv,qCA,Ag]
    .subst hM;refine zr ?_;intros
     repeat'((first|refine cF (beq_eq_false_iff_ne.2 (show ¬o.kind=1 by omega)) ?_|refine cF (beq_eq_false_iff_ne.2 (show ¬o.kind=3 by omega)) ?_|refine cT (beq_iff_eq.2 ax) ?_|refine cT (beq_iff_eq.2 T) ?_|refine cT rfl ?_|refine cF rfl ?_|refine cF (show(!(a.kind==10))=zb by rw[T];rfl) ?_|fail)<;>first|(refine zr ?_;intros)|rfl)
     refine λH w q=>⟨⟨k+1,⟨M.AN,M.now,o.listen::M.Bc⟩,L,CB (.s o.listen) (.bool I) es,Q,c1,ad⟩,zI (λz=>[zK .i64 z]) (wr1 h B C).symm,u.drain h P,dec h,q.fit ?_⟩;simp[AB,Res.eqv,qCA,Ag]
    .replace hM:=hM.symm;subst hM;refine zr ?_;intros
     repeat'((first|refine cF (beq_eq_false_iff_ne.2 (show ¬o.kind=1 by omega)) ?_|refine cF (beq_eq_false_iff_ne.2 (show ¬o.kind=3 by omega)) ?_|refine cT (beq_iff_eq.2 ax) ?_|refine cF (show(a.kind==10)=zb by rw[T];rfl) ?_|refine cF (show(!(a.kind==7))=zb by rw[T];rfl) ?_|refine cT rfl ?_|refine cF rfl ?_|fail)<;>first|(refine zr ?_;intros)|rfl)
     refine λH w q=>⟨⟨k+1,M,L,es,Q,c1,ad⟩,zI (λz=>[zK .i64 z]) (wr1 h B C).symm,u.stay h (GW.refl _) P,dec h,q.fit ?_⟩;simp[AB,Res.eqv,qCA,Ag]
    .replace hM:=hM.symm;subst hM;refine zr ?_;intros
     repeat'((first|refine cF (beq_eq_false_iff_ne.2 am) ?_|refine cF (beq_eq_false_iff_ne.2 aw) ?_|refine cF (beq_eq_false_iff_ne.2 ax) ?_|refine cT rfl ?_|refine cF rfl ?_|fail)<;>first|(refine zr ?_;intros)|rfl)
     refine λH w q=>⟨⟨k+1,M,L,es,Q,c1,ad⟩,zI (λz=>[zK .i64 z]) (wr1 h B C).symm,u.stay h (GW.refl _) P,dec h,q.fit ?_⟩
     simp[AB,Res.eqv,qCA,Ag])
end Go.Proofs.YtlmhpamhhgogaaaGreat
namespace Go.Proofs.YtlmhpamhhgogaaaGreat
open Go.Proofs.YtlmhpamhhgogaaaGreat.Sx
section
variable{H:Type}{enc:zAw×zg->H}{W:zp}
end
end Go.Proofs.YtlmhpamhhgogaaaGreat
namespace Go.Proofs.YtlmhpamhhgogaaaGreat
open Go.Proofs.YtlmhpamhhgogaaaGreat.Sx Go.RowKit
abbrev qmP(s:BA):Prop:=s.size<=reachBytes
section
variable{H:Type}{enc:zAw×zg->H}{W:zp}
def qEc{P}{t}(q:P.underlying t=O .string):G8 enc P W t λ_ cs s=>cs=[.string s]/\qmP s:=by
 intro fuel cs x h hs;cases fuel with
 |zero=>simp[tr,DataW.trod]at h
 |succ n=>
  unfold tr DataW.trod at h;rw[q]at h;split at h<;>simp_all;obtain⟨_,rfl⟩:=h;have:=hs _ (zA3.2 rfl:_∈[_]);rwa [zDg]at this
def LO:RP OpD:=λg cs o=>rOp g cs o/\qmP o.Bb/\qmP o.path
def qVc:G8 enc Tryz.prog W 51 LO:=by
 intro fuel cs x B hs;obtain⟨u,h⟩:=q3a (l:=[(0,1,3),(1,1,9),(2,1,9),(3,1,9),(4,1,3),(5,1,3),(6,1,3),(7,3,26)]) sd B hs;have u:cs.length=10:=u.trans sd
 match cs,u with
 |[aa,ab,ac,ad,ae,af,ag,ah,ai,aj],_=>
  have q:∀{H:Type}{enc:zAw×zg->H}{W:zp},Rds enc Tryz.prog W 3 BX:=qjU sd;have A:∀{H:Type}{enc:zAw×zg->H}{W:zp},G8 enc Tryz.prog W 9 λ_ cs s=>cs=[.string s]/\qmP s:=qEc sd;obtain⟨C,D,E⟩:=q.fld (tr1 (h 0 _ _ _ rfl));obtain⟨L,e1,_⟩:=A.fld (h 1 _ _ _ rfl);obtain⟨P,e2,Q⟩:=A.fld (h 2 _ _ _ rfl);obtain⟨s3,e3,R⟩:=A.fld (h 3 _ _ _ rfl);obtain⟨s4,e4,T⟩:=q.fld (tr1 (h 4 _ _ _ rfl));obtain⟨s5,U,w5⟩:=q.fld (tr1 (h 5 _ _ _ rfl));obtain⟨s6,V,w6⟩:=q.fld (tr1 (h 6 _ _ _ rfl));obtain⟨s7,Y⟩:=Ft.fld (tr1 (h 7 _ _ _ rfl));cases D;cases e1;cases e2;cases e3;cases e4;cases U;cases V;exact⟨⟨C,L,P,s3,s4,s5,s6,s7⟩,⟨_,_,_,rfl,⟨E,T,w5,w6⟩,Y⟩,Q,R⟩
def q3Z:G8 enc Tryz.prog W 27 λg cs(l:F OpD)=>∃v,cs=[v]/\rSl 10 rOp g v l/\∀o∈l,qmP o.Bb/\qmP o.path:=by
 intro fuel cs x D hs;obtain⟨l,v,e,⟨E,cap,L,P,Q,R,q⟩,_⟩:=qEX (e:=51) (sz:=10) sd sd qVc fuel cs x D hs;refine⟨l,v,e,⟨E,cap,L,P,Q,R,λi x T=>?_⟩,λo U=>?_⟩
 .obtain⟨a,u,A,B,h,C⟩:=q i x T;exact⟨a,u,A,B,h.1,C⟩
 .obtain⟨i,V⟩:=zCo.1 U;obtain⟨a,u,A,B,h,C⟩:=q i o V;exact h.2
end
end Go.Proofs.YtlmhpamhhgogaaaGreat
