/- Requests: with nobody in between. -/
import Derived.Test.YthonngjhelcpeaaGreatLW20p11
import Derived.Test.YthonngjhelcpeaaGreatPl
import Derived.Test.YthonngjhelcpeaaGreatLS7c
import Derived.Test.YthonngjhelcpeaaGreatLW9h
import Derived.Test.YthonngjhelcpeaaGreatLW9w
import Derived.Test.YthonngjhelcpeaaGreatLW9k
import Derived.Test.YthonngjhelcpeaaGreatLW9o
set_option linter.unusedVariables false
set_option linter.unusedSimpArgs false
namespace Go.Proofs.YthonngjhelcpeaaGreat
open Go.Proofs.YthonngjhelcpeaaGreat.Sx Go.RowKit
set_option maxHeartbeats 16000000
set_option maxRecDepth 100000
structure HaSt where
 j:Nat
 g:GW
 w:Wd
 oa:Option Addr
 ca:Nat
 ob:Option Addr
 cb:Nat
 oc:Option Addr
 cc:Nat
 od:Option Addr
 cd:Nat
 oe:Option Addr
 ce:Nat
 m:Mach
 o1:Option Addr
 t1:Nat
 o2:Option Addr
 t2:Nat
 o3:Option Addr
 t3:Nat
abbrev HaSt.wc (x:HaSt):List Value:=[.int .i64 x.w.epoch,.int .i64 x.w.current,.int .i64 x.w.lock,.slice x.oa x.w.pins.length x.ca,.slice x.ob x.w.versions.length x.cb,.slice x.oc x.w.listens.length x.cc,.slice x.od x.w.counts.length x.cd,.slice x.oe x.w.limbo.length x.ce]
abbrev HaSt.mc (x:HaSt):List Value:=x.m.cs (.slice x.o1 x.m.op.config.listens.length x.t1) (.slice x.o2 x.m.op.config.routes.length x.t2) (.slice x.o3 x.m.op.config.clusters.length x.t3)
theorem q8D {K:Nat} {w w':Wd} (h:SnW w) (k:KeptW K w w'):SnW w':=fun v hv=>by
 obtain⟨u,hu,e⟩:=k.2 v hv
 rw [← e];exact h u hu
theorem HWay.sn:∀ {k:Nat} {w:Wd} {m:Mach} {x:Wd} {m':Mach},HWay k w m x m'→SnW w→SnW x
 | 0,_,_,_,_,⟨h1,_⟩,hb=>by rw [h1];exact hb
 | _+1,_,_,_,_,⟨_,h⟩,hb=>HWay.sn h (q8D (K:=0) hb hsW_kept)
abbrev AlP (x:Wd) (n:Mach) (k:Nat) (v:Value) (g':GW):Prop:=∃ cs ms,v=.tuple #[.agg ⟨cs⟩,.agg ⟨ms⟩,.int .i64 k]∧rWo g' cs x∧qlA g' ms n
theorem q8E (g:GW) {cs ms:List Value} {w x:Wd} {m n:Mach} {k:Nat} (hw:rWo g cs w) (hM:qlA g ms m) (hsn:SnW w) (hb:BgW 1000000 w) (hsz:SmO m) (hway:HWay k w m x n) (hd:n.done=true) (hk:k<40):Ok Tryz.prog qCI [.agg ⟨cs⟩,.agg ⟨ms⟩] g (AlP x n k):=by
 obtain⟨oa,ca,ob,cb,oc,cc,od,cd,oe,ce,rfl⟩:=qGA hw
 obtain⟨o1,t1,o2,t2,o3,t3,rfl⟩:=qXA hM
 exact Ok.of_fn hm noT 0 q1H (args:=[.v (.agg ⟨wQ w oa ca ob cb oc cc od cd oe ce⟩),.v (.agg ⟨mQ m o1 t1 o2 t2 o3 t3⟩)]) (by
  repeat((conv=>whnf);first|apply qza|apply qzb|apply qzc|apply qzd|apply qze|intro(_:Nat))
  rename_i q0 q1 q2 q3
  repeat((conv=>whnf);first|apply qza|apply qzb|apply qzc|apply qzd|apply qze|intro(_:Nat))
  conv=>whnf
  refine⟨HaSt,fun x=>[.v (.int .i64 x.j)],fun y=>⟨y.g,[.blk 3 q3 qJC zl0,.blk 2 q2 qMA [.v (.int .i64 0),.v (.int .i64 0),.v (.int .i64 0),.v (.slice none 0 0),.v (.slice none 0 0),.v (.slice none 0 0),.v (.slice none 0 0),.v (.slice none 0 0)],.blk 1 q1 qJC (y.mc.map SV.v),.blk 0 q0 qMA (y.wc.map SV.v)],_,_⟩,fun y=>y.j≤k∧g≤y.g∧rWo y.g y.wc y.w∧qlA y.g y.mc y.m∧HWay (k-y.j) y.w y.m x n∧SnW y.w∧BgW 1000000 y.w∧SmO y.m,fun y=>k-y.j,qJA (⟨0,g,w,oa,ca,ob,cb,oc,cc,od,cd,oe,ce,m,o1,t1,o2,t2,o3,t3⟩:HaSt) rfl ⟨Nat.zero_le _,GW.refl _,hw,hM,hway,hsn,hb,hsz⟩ rfl,?_⟩
  clear hM hw hsn hb hsz hway
  intro y hy
  obtain⟨j,gx,w,oa,ca,ob,cb,oc,cc,od,cd,oe,ce,m,o1,t1,o2,t2,o3,t3⟩:=y
  obtain⟨hj,hxg,hxw,hxM,hway,hsn,hb,hsz⟩:=hy
  replace hj:j≤k:=hj
  replace hway:HWay (k-j) w m x n:=hway
  replace hb:BgW 1000000 w:=hb
  replace hsn:SnW w:=hsn
  replace hsz:SmO m:=hsz
  repeat((conv=>whnf);first|apply qza|apply qzb|apply qzc|apply qzd|apply qze|intro(_:Nat))
  conv=>whnf
  refine⟨fun _=>?_,fun hx=>absurd (of_decide_eq_false hx) (by show ¬ ¬ ((j:Int)<40);omega)⟩
  repeat((conv=>whnf);first|apply qza|apply qzb|apply qzc|apply qzd|apply qze|intro(_:Nat))
  refine .inr ((qUL _ hxw hxM hsn hb hsz).mono fun v g4 hg4 hO=>?_)
  obtain⟨csa,msa,rfl,hwa,hMa⟩:=hO
  obtain⟨r1,r2,r3,r4,r5,r6,r7,r8,r9,r10,rfl⟩:=qGA hwa
  obtain⟨s1,s2,s3,s4,s5,s6,rfl⟩:=qXA hMa
  by_cases hjk:j=k
  ·subst hjk
   rw [Nat.sub_self] at hway
   obtain⟨e1,e2⟩:=hway
   subst e1
   subst e2
   have hac:=qiN (w:=x) hd
   repeat((conv=>whnf);first|apply qza|apply qzb|apply qzc|apply qzd|apply qze|intro(_:Nat))
   conv=>whnf
   refine⟨fun _=>?_,fun hx=>absurd hac (beqF hx)⟩
   repeat'((conv=>whnf);first|apply qza|apply qzb|apply qzc|apply qzd|apply qze|intro(_:Nat)|refine And.intro ?_ ?_|fail)
   all_goals (conv=>whnf)
   all_goals (first|exact Eq.refl _|(
   intro g2 hg
   exact⟨_,_,rfl,qBA _ _ _ _ (GW.trans hg4 hg) hxw,qNA _ _ _ _ (GW.trans hg4 hg) hxM⟩))
  ·obtain⟨d,hdk⟩:∃ d,k-j=d+1:=⟨k-j-1,by omega⟩
   rw [hdk] at hway
   obtain⟨hac,hway⟩:=hway
   have hkp:=hsW_kept (K:=1000000) (w:=w) (m:=m)
   repeat((conv=>whnf);first|apply qza|apply qzb|apply qzc|apply qzd|apply qze|intro(_:Nat))
   conv=>whnf
   refine⟨fun hx=>absurd (beqT hx) hac,fun _=>?_⟩
   repeat((conv=>whnf);first|apply qza|apply qzb|apply qzc|apply qzd|apply qze|intro(_:Nat))
   conv=>whnf
   refine fun fr u hu=>⟨⟨j+1,g4,hsW w m,r1,r2,r3,r4,r5,r6,r7,r8,r9,r10,hsM w m,s1,s2,s3,s4,s5,s6⟩,congrArg (fun z=>[Value.int .i64 z]) (show((j+1:Nat):Int)=IntKind.i64.wrap ((j:Int)+1) by rw [wr (x:=(j:Int)+1) (by unfold InR;omega)];omega),⟨by show j+1≤k;omega,GW.trans hxg hg4,hwa,hMa,by show HWay (k-(j+1)) _ _ _ _;rw [show k-(j+1)=d by omega];exact hway,q8D hsn hkp,hkp.1 hb,by show SmO (hsM w m);unfold SmO;rw [q0R];exact hsz⟩,by show k-(j+1)<k-j;omega,?_⟩
   exact hu.fit (by simp [fitL,Res.eqv,qDA,conc]))
/- Counts: their sum. -/
open Go.Proofs.YthonngjhelcpeaaGreat.Sx Go.RowKit
theorem kn6 {k:Nat} (h:k<6):k=0∨k=1∨k=2∨k=3∨k=4∨k=5:=by omega
theorem qzT (g:GW) {v:Value} {l:List (List Int)} (hl:rSl 1 rRow g v l) (h:q5B l=true):OkV Tryz.prog qGR [v] g (.tuple #[.agg ⟨(qNC l (6*l.length)).cs⟩,.int .i64 0]):=by
 obtain⟨oa,ca,rfl,a1,a2,a0,hr⟩:=id hl
 have h6:∀ r∈l,r.length=6:=by
  unfold q5B at h
  simp only [Bool.and_eq_true,List.all_eq_true,decide_eq_true_eq] at h
  exact h.1.1
 exact Ok.of_fn hm noT 0 qiQ (args:=[.v (.slice oa l.length ca)]) (by
  repeat((conv=>whnf);first|apply qza|apply qzb|apply qzc|apply qzd|apply qze|intro(_:Nat))
  rename_i q2 q4
  conv=>whnf
  refine .inl ⟨_,(qmV _ hl).to (congrArg Value.bool h),?_⟩
  repeat((conv=>whnf);first|apply qza|apply qzb|apply qzc|apply qzd|apply qze|intro(_:Nat))
  conv=>whnf
  refine⟨fun h=>(nomatch h),fun _=>?_⟩
  repeat((conv=>whnf);first|apply qza|apply qzb|apply qzc|apply qzd|apply qze|intro(_:Nat))
  conv=>whnf
  refine⟨Nat,fun i=>[.v (.int .i64 i)],fun i=>⟨g,[.blk 1 q4 qRA ((qNC l (6*i)).cs.map SV.v),.blk 0 q2 qRA (c60.cs.map SV.v)],40,_⟩,fun i=>i≤l.length,fun i=>l.length-i,fun fr u hu=>⟨0,rfl,Nat.zero_le _,hu.fit (by simp [fitL,Res.eqv,qDA,conc,qNC,c60])⟩,?_⟩
  intro i hi
  repeat((conv=>whnf);first|apply qza|apply qzb|apply qzc|apply qzd|apply qze|intro(_:Nat))
  conv=>whnf
  refine⟨fun y1=>?_,fun y1=>?_⟩
  ·have hlt:i<l.length:=by have:=of_decide_eq_true y1;omega
   obtain⟨row,hrow⟩:=qCA hlt
   obtain⟨ad,rfl,ec,hec,⟨rv,rfl,hrv⟩,hcr⟩:=hr i row hrow
   obtain⟨ao,ac,rfl,r1,r2,r0,hr1⟩:=id hrv
   have hlen:=h6 row (List.mem_of_getElem? hrow)
   repeat((conv=>whnf);first|apply qza|apply qzb|apply qzc|apply qzd|apply qze|intro(_:Nat))
   conv=>whnf
   refine⟨_,rfl,⟨by omega,by omega⟩,?_⟩
   repeat((conv=>whnf);first|apply qza|apply qzb|apply qzc|apply qzd|apply qze|intro(_:Nat))
   conv=>whnf
   refine⟨_,hcr 0 _ rfl,?_⟩
   repeat((conv=>whnf);first|apply qza|apply qzb|apply qzc|apply qzd|apply qze|intro(_:Nat))
   conv=>whnf
   refine⟨Nat,fun k=>[.v (.int .i64 k)],fun k=>⟨g,[.blk 1 q4 qRA ((qNC l (6*i+k)).cs.map SV.v),.blk 0 q2 qRA (c60.cs.map SV.v)],40,_⟩,fun k=>k≤6,fun k=>6-k,qJA 0 rfl (Nat.zero_le _) rfl,?_⟩
   intro k hk
   repeat((conv=>whnf);first|apply qza|apply qzb|apply qzc|apply qzd|apply qze|intro(_:Nat))
   conv=>whnf
   refine⟨fun y2=>?_,fun y2=>?_⟩
   ·have hk6:k<6:=by have:=of_decide_eq_true y2;omega
    obtain⟨x,hx⟩:=qCA (l:=row) (i:=k) (by omega)
    obtain⟨ar,rfl,ec2,hec2,⟨rfl,hxu⟩,hcx⟩:=hr1 k x hx
    have hcell:qND l i k=x:=by unfold qND;rw [hrow];show(row[k]?).getD 0=x;rw [hx];rfl
    replace hcx:=hcx 0 _ rfl
    rcases kn6 hk6 with rfl|rfl|rfl|rfl|rfl|rfl
    ·repeat((conv=>whnf);first|apply qza|apply qzb|apply qzc|apply qzd|apply qze|intro(_:Nat))
     conv=>whnf
     refine⟨0,⟨rfl,by decide⟩,?_⟩
     repeat((conv=>whnf);first|apply qza|apply qzb|apply qzc|apply qzd|apply qze|intro(_:Nat))
     conv=>whnf
     refine⟨_,rfl,⟨by omega,by omega⟩,?_⟩
     repeat((conv=>whnf);first|apply qza|apply qzb|apply qzc|apply qzd|apply qze|intro(_:Nat))
     conv=>whnf
     refine⟨_,hcx,?_⟩
     repeat((conv=>whnf);first|apply qza|apply qzb|apply qzc|apply qzd|apply qze|intro(_:Nat))
     conv=>whnf
     refine⟨0,⟨rfl,by decide⟩,?_⟩
     repeat((conv=>whnf);first|apply qza|apply qzb|apply qzc|apply qzd|apply qze|intro(_:Nat))
     conv=>whnf
     refine fun fr u hu=>⟨1,rfl,by decide,by decide,hu.fit (by have hst:=qWD l (i:=i) (k:=0) (by decide);rw [hcell] at hst;show fitL _ [.blk 1 q4 qRA ((qNC l (6*i+0+1)).cs.map SV.v),.blk 0 q2 qRA (c60.cs.map SV.v)];rw [hst];simp [fitL,Res.eqv,qDA,conc,C6.set,C6.get])⟩
    ·repeat((conv=>whnf);first|apply qza|apply qzb|apply qzc|apply qzd|apply qze|intro(_:Nat))
     conv=>whnf
     refine⟨1,⟨rfl,by decide⟩,?_⟩
     repeat((conv=>whnf);first|apply qza|apply qzb|apply qzc|apply qzd|apply qze|intro(_:Nat))
     conv=>whnf
     refine⟨_,rfl,⟨by omega,by omega⟩,?_⟩
     repeat((conv=>whnf);first|apply qza|apply qzb|apply qzc|apply qzd|apply qze|intro(_:Nat))
     conv=>whnf
     refine⟨_,hcx,?_⟩
     repeat((conv=>whnf);first|apply qza|apply qzb|apply qzc|apply qzd|apply qze|intro(_:Nat))
     conv=>whnf
     refine⟨1,⟨rfl,by decide⟩,?_⟩
     repeat((conv=>whnf);first|apply qza|apply qzb|apply qzc|apply qzd|apply qze|intro(_:Nat))
     conv=>whnf
     refine fun fr u hu=>⟨2,rfl,by decide,by decide,hu.fit (by have hst:=qWD l (i:=i) (k:=1) (by decide);rw [hcell] at hst;show fitL _ [.blk 1 q4 qRA ((qNC l (6*i+1+1)).cs.map SV.v),.blk 0 q2 qRA (c60.cs.map SV.v)];rw [hst];simp [fitL,Res.eqv,qDA,conc,C6.set,C6.get])⟩
    ·repeat((conv=>whnf);first|apply qza|apply qzb|apply qzc|apply qzd|apply qze|intro(_:Nat))
     conv=>whnf
     refine⟨2,⟨rfl,by decide⟩,?_⟩
     repeat((conv=>whnf);first|apply qza|apply qzb|apply qzc|apply qzd|apply qze|intro(_:Nat))
     conv=>whnf
     refine⟨_,rfl,⟨by omega,by omega⟩,?_⟩
     repeat((conv=>whnf);first|apply qza|apply qzb|apply qzc|apply qzd|apply qze|intro(_:Nat))
     conv=>whnf
     refine⟨_,hcx,?_⟩
     repeat((conv=>whnf);first|apply qza|apply qzb|apply qzc|apply qzd|apply qze|intro(_:Nat))
     conv=>whnf
     refine⟨2,⟨rfl,by decide⟩,?_⟩
     repeat((conv=>whnf);first|apply qza|apply qzb|apply qzc|apply qzd|apply qze|intro(_:Nat))
     conv=>whnf
     refine fun fr u hu=>⟨3,rfl,by decide,by decide,hu.fit (by have hst:=qWD l (i:=i) (k:=2) (by decide);rw [hcell] at hst;show fitL _ [.blk 1 q4 qRA ((qNC l (6*i+2+1)).cs.map SV.v),.blk 0 q2 qRA (c60.cs.map SV.v)];rw [hst];simp [fitL,Res.eqv,qDA,conc,C6.set,C6.get])⟩
    ·repeat((conv=>whnf);first|apply qza|apply qzb|apply qzc|apply qzd|apply qze|intro(_:Nat))
     conv=>whnf
     refine⟨3,⟨rfl,by decide⟩,?_⟩
     repeat((conv=>whnf);first|apply qza|apply qzb|apply qzc|apply qzd|apply qze|intro(_:Nat))
     conv=>whnf
     refine⟨_,rfl,⟨by omega,by omega⟩,?_⟩
     repeat((conv=>whnf);first|apply qza|apply qzb|apply qzc|apply qzd|apply qze|intro(_:Nat))
     conv=>whnf
     refine⟨_,hcx,?_⟩
     repeat((conv=>whnf);first|apply qza|apply qzb|apply qzc|apply qzd|apply qze|intro(_:Nat))
     conv=>whnf
     refine⟨3,⟨rfl,by decide⟩,?_⟩
     repeat((conv=>whnf);first|apply qza|apply qzb|apply qzc|apply qzd|apply qze|intro(_:Nat))
     conv=>whnf
     refine fun fr u hu=>⟨4,rfl,by decide,by decide,hu.fit (by have hst:=qWD l (i:=i) (k:=3) (by decide);rw [hcell] at hst;show fitL _ [.blk 1 q4 qRA ((qNC l (6*i+3+1)).cs.map SV.v),.blk 0 q2 qRA (c60.cs.map SV.v)];rw [hst];simp [fitL,Res.eqv,qDA,conc,C6.set,C6.get])⟩
    ·repeat((conv=>whnf);first|apply qza|apply qzb|apply qzc|apply qzd|apply qze|intro(_:Nat))
     conv=>whnf
     refine⟨4,⟨rfl,by decide⟩,?_⟩
     repeat((conv=>whnf);first|apply qza|apply qzb|apply qzc|apply qzd|apply qze|intro(_:Nat))
     conv=>whnf
     refine⟨_,rfl,⟨by omega,by omega⟩,?_⟩
     repeat((conv=>whnf);first|apply qza|apply qzb|apply qzc|apply qzd|apply qze|intro(_:Nat))
     conv=>whnf
     refine⟨_,hcx,?_⟩
     repeat((conv=>whnf);first|apply qza|apply qzb|apply qzc|apply qzd|apply qze|intro(_:Nat))
     conv=>whnf
     refine⟨4,⟨rfl,by decide⟩,?_⟩
     repeat((conv=>whnf);first|apply qza|apply qzb|apply qzc|apply qzd|apply qze|intro(_:Nat))
     conv=>whnf
     refine fun fr u hu=>⟨5,rfl,by decide,by decide,hu.fit (by have hst:=qWD l (i:=i) (k:=4) (by decide);rw [hcell] at hst;show fitL _ [.blk 1 q4 qRA ((qNC l (6*i+4+1)).cs.map SV.v),.blk 0 q2 qRA (c60.cs.map SV.v)];rw [hst];simp [fitL,Res.eqv,qDA,conc,C6.set,C6.get])⟩
    ·repeat((conv=>whnf);first|apply qza|apply qzb|apply qzc|apply qzd|apply qze|intro(_:Nat))
     conv=>whnf
     refine⟨5,⟨rfl,by decide⟩,?_⟩
     repeat((conv=>whnf);first|apply qza|apply qzb|apply qzc|apply qzd|apply qze|intro(_:Nat))
     conv=>whnf
     refine⟨_,rfl,⟨by omega,by omega⟩,?_⟩
     repeat((conv=>whnf);first|apply qza|apply qzb|apply qzc|apply qzd|apply qze|intro(_:Nat))
     conv=>whnf
     refine⟨_,hcx,?_⟩
     repeat((conv=>whnf);first|apply qza|apply qzb|apply qzc|apply qzd|apply qze|intro(_:Nat))
     conv=>whnf
     refine⟨5,⟨rfl,by decide⟩,?_⟩
     repeat((conv=>whnf);first|apply qza|apply qzb|apply qzc|apply qzd|apply qze|intro(_:Nat))
     conv=>whnf
     refine fun fr u hu=>⟨6,rfl,by decide,by decide,hu.fit (by have hst:=qWD l (i:=i) (k:=5) (by decide);rw [hcell] at hst;show fitL _ [.blk 1 q4 qRA ((qNC l (6*i+5+1)).cs.map SV.v),.blk 0 q2 qRA (c60.cs.map SV.v)];rw [hst];simp [fitL,Res.eqv,qDA,conc,C6.set,C6.get])⟩
   ·have hk6:k=6:=by have:=of_decide_eq_false y2;omega
    subst hk6
    repeat((conv=>whnf);first|apply qza|apply qzb|apply qzc|apply qzd|apply qze|intro(_:Nat))
    conv=>whnf
    refine fun fr u hu=>⟨i+1,congrArg (fun z=>[Value.int .i64 z]) (show((i+1:Nat):Int)=IntKind.i64.wrap ((i:Int)+1) by rw [wr (x:=(i:Int)+1) (by unfold InR;unfold maxLen at a2;omega)];omega),hlt,by show l.length-(i+1)<l.length-i;omega,hu.fit (by simp [fitL,Res.eqv,qDA,conc,Nat.mul_succ])⟩
  have hil:i=l.length:=by have:=of_decide_eq_false y1;omega
  subst hil
  repeat((conv=>whnf);first|apply qza|apply qzb|apply qzc|apply qzd|apply qze|intro(_:Nat))
  conv=>whnf
  intro g2 hg
  rfl)
/- Worlds: how many slots are held. -/
open Go.Proofs.YthonngjhelcpeaaGreat.Sx Go.RowKit
theorem sum0 {α:Type} (f:α→Int) (l:List α) (s:Int):s+sumI f (l.take 0)=s:=by simp [sumI]
theorem qAB (g:GW) {cs:List Value} {w:Wd} (hw:rWo g cs w) (hb:BgW 1000 w):Ok Tryz.prog qjP [.agg ⟨cs⟩] g fun v _=>v=.int .i64 (qSB w):=by
 obtain⟨a,b,c,d,e,rfl,⟨i1,i2,i3⟩,hP,hV,hL,hC,hR⟩:=hw
 obtain⟨oa,ca,rfl,a1,a2,a0,hP1⟩:=id hP
 obtain⟨ob,cb,rfl,b1,b2,b0,hV1⟩:=id hV
 obtain⟨oc,cc,rfl,c1,c2,c0,hL1⟩:=id hL
 obtain⟨od,cd,rfl,d1,d2,d0,hC1⟩:=id hC
 obtain⟨oe,ce,rfl,e1,e2,e0,hR1⟩:=id hR
 obtain⟨⟨_,hbv,_,_,_⟩,_,hbV⟩:=hb
 exact Ok.of_fn hm noT 0 qAP (args:=[.v (.agg ⟨wQ w oa ca ob cb oc cc od cd oe ce⟩)]) (by
  repeat((conv=>whnf);first|apply qza|apply qzb|apply qzc|apply qzd|apply qze|intro(_:Nat))
  conv=>whnf
  refine⟨Nat×GW,fun (i,_)=>[.v (.int .i64 (0+sumI qtC (w.versions.take i))),.v (.int .i64 i)],fun (_,g')=>⟨g',_,_,_⟩,fun (i,g')=>i≤w.versions.length∧g≤g',fun (i,_)=>w.versions.length-i,qJA (0,g) (congrArg (fun z=>[Value.int .i64 z,.int .i64 0]) (sum0 _ _ _)) ⟨Nat.zero_le _,GW.refl _⟩ rfl,?_⟩
  rintro⟨i,g1⟩ ⟨hi,hg1⟩
  have hS:=qGH (f:=qtC) (c:=4*1000*1000) (l:=w.versions) (fun y hy=>q2R (hbV y hy)) i
  have hSl:(w.versions.take i).length≤1000:=by rw [List.length_take];omega
  repeat((conv=>whnf);first|apply qza|apply qzb|apply qzc|apply qzd|apply qze|intro(_:Nat))
  conv=>whnf
  refine⟨fun y1=>?_,fun y1=>?_⟩
  ·have h':i<w.versions.length:=by have h9:(i:Int)<w.versions.length:=of_decide_eq_true y1;omega
   obtain⟨v,hv⟩:=qCA h'
   have hvb:=hbV v (List.mem_of_getElem? hv)
   obtain⟨ad,rfl,ec,hec,⟨va,vb,vd,vn,rfl,hsn,hG⟩,hc⟩:=hV1 i v hv
   obtain⟨og,cg,rfl,p1,p2,p0,hG1⟩:=id hG
   obtain⟨_,_,_,he2,⟨sa,ta,rfl,_⟩,⟨sb,tb,rfl,_⟩,⟨sd,td,rfl,_⟩⟩:=hsn
   cases he2
   repeat((conv=>whnf);first|apply qza|apply qzb|apply qzc|apply qzd|apply qze|intro(_:Nat))
   conv=>whnf
   refine⟨_,rfl,⟨by show(0:Int)≤i;omega,by show(i:Int)<w.versions.length;omega⟩,?_⟩
   repeat((conv=>whnf);first|apply qza|apply qzb|apply qzc|apply qzd|apply qze|intro(_:Nat))
   conv=>whnf
   refine⟨_,⟨rfl,hc.mono hg1⟩,?_⟩
   repeat((conv=>whnf);first|apply qza|apply qzb|apply qzc|apply qzd|apply qze|intro(_:Nat))
   conv=>whnf
   refine⟨Nat×GW,fun (j,_)=>[.v (.int .i64 (0+sumI qtC (w.versions.take i)+sumI quC (v.groups.take j))),.v (.int .i64 j)],fun (_,g')=>⟨g',_,_,_⟩,fun (j,g')=>j≤v.groups.length∧g1≤g',fun (j,_)=>v.groups.length-j,qJA (0,g1) (congrArg (fun z=>[Value.int .i64 z,.int .i64 0]) (sum0 _ _ _)) ⟨Nat.zero_le _,GW.refl _⟩ rfl,?_⟩
   rintro⟨j,g2⟩ ⟨hj,hg2⟩
   have hT:=qGH (f:=quC) (c:=4*1000) (l:=v.groups) (fun y hy=>q3R (hvb.2 y hy)) j
   have hTl:(v.groups.take j).length≤1000:=by have:=hvb.1;rw [List.length_take];omega
   repeat((conv=>whnf);first|apply qza|apply qzb|apply qzc|apply qzd|apply qze|intro(_:Nat))
   conv=>whnf
   refine⟨fun y2=>?_,fun y2=>?_⟩
   ·have h2:j<v.groups.length:=by have h9:(j:Int)<v.groups.length:=of_decide_eq_true y2;omega
    obtain⟨x,hx⟩:=qCA h2
    have hxb:=hvb.2 x (List.mem_of_getElem? hx)
    obtain⟨ag,rfl,ecg,hecg,⟨xn,rfl,hti,hE⟩,hcg⟩:=hG1 j x hx
    obtain⟨on,cn,rfl,r1,r2,r0,hE1⟩:=id hE
    repeat((conv=>whnf);first|apply qza|apply qzb|apply qzc|apply qzd|apply qze|intro(_:Nat))
    conv=>whnf
    refine⟨_,rfl,⟨by show(0:Int)≤j;omega,by show(j:Int)<v.groups.length;omega⟩,?_⟩
    repeat((conv=>whnf);first|apply qza|apply qzb|apply qzc|apply qzd|apply qze|intro(_:Nat))
    conv=>whnf
    refine⟨_,⟨rfl,hcg.mono (GW.trans hg1 hg2)⟩,?_⟩
    repeat((conv=>whnf);first|apply qza|apply qzb|apply qzc|apply qzd|apply qze|intro(_:Nat))
    conv=>whnf
    refine⟨Nat×GW,fun (k,_)=>[.v (.int .i64 (0+sumI qtC (w.versions.take i)+sumI quC (v.groups.take j)+sumI qjB (x.ends.take k))),.v (.int .i64 k)],fun (_,g')=>⟨g',_,_,_⟩,fun (k,g')=>k≤x.ends.length∧g2≤g',fun (k,_)=>x.ends.length-k,qJA (0,g2) (congrArg (fun z=>[Value.int .i64 z,.int .i64 0]) (sum0 _ _ _)) ⟨Nat.zero_le _,GW.refl _⟩ rfl,?_⟩
    rintro⟨k,g3⟩ ⟨hk,hg3⟩
    have hU:=qGH (f:=qjB) (c:=4) (l:=x.ends) (fun y _=>qfO y) k
    have hUl:(x.ends.take k).length≤1000:=by unfold BgG at hxb;rw [List.length_take];omega
    repeat((conv=>whnf);first|apply qza|apply qzb|apply qzc|apply qzd|apply qze|intro(_:Nat))
    conv=>whnf
    refine⟨fun y3=>?_,fun y3=>?_⟩
    ·have h3:k<x.ends.length:=by have h9:(k:Int)<x.ends.length:=of_decide_eq_true y3;omega
     obtain⟨en,hen⟩:=qCA h3
     obtain⟨ae,rfl,ece,hece,hEn,hce⟩:=hE1 k en hen
     have hEn0:=hEn
     obtain⟨⟨n,rfl,hH,hA,hN⟩,hsz⟩:=hEn0
     obtain⟨ox,cx,rfl,s1,s2,s0,hN1⟩:=id hN
     have hg03:=GW.trans hg1 (GW.trans hg2 hg3)
     repeat((conv=>whnf);first|apply qza|apply qzb|apply qzc|apply qzd|apply qze|intro(_:Nat))
     conv=>whnf
     refine⟨_,rfl,⟨by show(0:Int)≤k;omega,by show(k:Int)<x.ends.length;omega⟩,?_⟩
     repeat((conv=>whnf);first|apply qza|apply qzb|apply qzc|apply qzd|apply qze|intro(_:Nat))
     conv=>whnf
     refine⟨_,⟨rfl,hce.mono hg03⟩,?_⟩
     repeat((conv=>whnf);first|apply qza|apply qzb|apply qzc|apply qzd|apply qze|intro(_:Nat))
     refine .inr ((qEG _ (q5E _ _ _ _ hg03 hEn)).mono fun v' g4 hg4 hF=>?_)
     have hst:=qpL qjB hen
     have hbd:=qfO en
     have hgo:∀ z:Int,z=qjB en→[Value.int .i64 (0+sumI qtC (w.versions.take i)+sumI quC (v.groups.take j)+sumI qjB (x.ends.take (k+1))),Value.int .i64 ((k+1:Nat):Int)]=[Value.int .i64 (0+sumI qtC (w.versions.take i)+sumI quC (v.groups.take j)+sumI qjB (x.ends.take k)+z),Value.int .i64 (IntKind.i64.wrap ((k:Int)+1))]:=fun z hz=>by
      rw [hst,hz,wr (x:=(k:Int)+1) (by unfold InR;unfold maxLen at r2;omega)]
      simp only [Int.add_assoc,Int.natCast_add,Int.natCast_one]
     unfold qOL at hF
     cases hf:qoA en with
     | none =>
      rw [hf] at hF
      subst hF
      have hbF:endB en=false:=by unfold endB;rw [hf];rfl
      have hz:qjB en=0:=by unfold qjB;rw [hbF];rfl
      repeat((conv=>whnf);first|apply qza|apply qzb|apply qzc|apply qzd|apply qze|intro(_:Nat))
      conv=>whnf
      refine .inl ⟨_,(qzQ _ (q5E _ _ _ _ (GW.trans hg03 hg4) hEn)).to (congrArg Value.bool hbF),?_⟩
      repeat((conv=>whnf);first|apply qza|apply qzb|apply qzc|apply qzd|apply qze|intro(_:Nat))
      conv=>whnf
      refine⟨fun h=>(nomatch h),fun _=>?_⟩
      repeat((conv=>whnf);first|apply qza|apply qzb|apply qzc|apply qzd|apply qze|intro(_:Nat))
      conv=>whnf
      refine fun fr u hu=>⟨(k+1,g4),(hgo 0 hz.symm).trans (congrArg (fun z=>[Value.int .i64 z,Value.int .i64 (IntKind.i64.wrap ((k:Int)+1))]) (Int.add_zero _)),⟨h3,GW.trans hg3 hg4⟩,by show x.ends.length-(k+1)<x.ends.length-k;omega,hu.fit (by simp [fitL,Res.eqv,qDA,conc])⟩
     | some l =>
      rw [hf] at hF
      obtain⟨oF,cF,rfl,hF⟩:=hF
      have hll:=qgO hf
      repeat((conv=>whnf);first|apply qza|apply qzb|apply qzc|apply qzd|apply qze|intro(_:Nat))
      conv=>whnf
      refine .inl ⟨_,(qzQ _ (q5E _ _ _ _ (GW.trans hg03 hg4) hEn)),?_⟩
      repeat((conv=>whnf);first|apply qza|apply qzb|apply qzc|apply qzd|apply qze|intro(_:Nat))
      conv=>whnf
      refine⟨fun y4=>?_,fun y4=>?_⟩
      ·have hbT:endB en=true:=y4
       have hz:qjB en=en.next.length-(l.length:Nat):=by unfold qjB;rw [hbT,hf];rfl
       repeat((conv=>whnf);first|apply qza|apply qzb|apply qzc|apply qzd|apply qze|intro(_:Nat))
       conv=>whnf
       refine fun fr u hu=>⟨(k+1,g4),(hgo _ hz.symm).trans (congrArg (fun z=>[Value.int .i64 z,Value.int .i64 (IntKind.i64.wrap ((k:Int)+1))]) (by rw [wr (x:=(en.next.length:Int)-l.length) (by unfold InR;omega),wr (x:=0+sumI qtC (w.versions.take i)+sumI quC (v.groups.take j)+sumI qjB (x.ends.take k)+((en.next.length:Int)-l.length)) (by unfold InR;omega)])),⟨h3,GW.trans hg3 hg4⟩,by show x.ends.length-(k+1)<x.ends.length-k;omega,hu.fit (by simp [fitL,Res.eqv,qDA,conc])⟩
      ·have hbF:endB en=false:=y4
       have hz:qjB en=0:=by unfold qjB;rw [hbF];rfl
       repeat((conv=>whnf);first|apply qza|apply qzb|apply qzc|apply qzd|apply qze|intro(_:Nat))
       conv=>whnf
       refine fun fr u hu=>⟨(k+1,g4),(hgo 0 hz.symm).trans (congrArg (fun z=>[Value.int .i64 z,Value.int .i64 (IntKind.i64.wrap ((k:Int)+1))]) (Int.add_zero _)),⟨h3,GW.trans hg3 hg4⟩,by show x.ends.length-(k+1)<x.ends.length-k;omega,hu.fit (by simp [fitL,Res.eqv,qDA,conc])⟩
    have hkL:k=x.ends.length:=by have h9:¬ (k:Int)<x.ends.length:=of_decide_eq_false y3;omega
    subst hkL
    repeat((conv=>whnf);first|apply qza|apply qzb|apply qzc|apply qzd|apply qze|intro(_:Nat))
    conv=>whnf
    refine fun fr u hu=>⟨(j+1,g3),(show [Value.int .i64 (0+sumI qtC (w.versions.take i)+sumI quC (v.groups.take (j+1))),Value.int .i64 ((j+1:Nat):Int)]=[Value.int .i64 (0+sumI qtC (w.versions.take i)+sumI quC (v.groups.take j)+sumI qjB (x.ends.take x.ends.length)),Value.int .i64 (IntKind.i64.wrap ((j:Int)+1))] by rw [qpL quC hx,wr (x:=(j:Int)+1) (by unfold InR;unfold maxLen at p2;omega),List.take_length];simp only [Int.add_assoc,Int.natCast_add,Int.natCast_one];rfl),⟨h2,GW.trans hg2 hg3⟩,by show v.groups.length-(j+1)<v.groups.length-j;omega,hu.fit (by simp [fitL,Res.eqv,qDA,conc])⟩
   have hjL:j=v.groups.length:=by have h9:¬ (j:Int)<v.groups.length:=of_decide_eq_false y2;omega
   subst hjL
   repeat((conv=>whnf);first|apply qza|apply qzb|apply qzc|apply qzd|apply qze|intro(_:Nat))
   conv=>whnf
   refine fun fr u hu=>⟨(i+1,g2),(show [Value.int .i64 (0+sumI qtC (w.versions.take (i+1))),Value.int .i64 ((i+1:Nat):Int)]=[Value.int .i64 (0+sumI qtC (w.versions.take i)+sumI quC (v.groups.take v.groups.length)),Value.int .i64 (IntKind.i64.wrap ((i:Int)+1))] by rw [qpL qtC hv,wr (x:=(i:Int)+1) (by unfold InR;unfold maxLen at b2;omega),List.take_length];simp only [Int.add_assoc,Int.natCast_add,Int.natCast_one];rfl),⟨h',GW.trans hg1 hg2⟩,by show w.versions.length-(i+1)<w.versions.length-i;omega,hu.fit (by simp [fitL,Res.eqv,qDA,conc])⟩
  have hiL:i=w.versions.length:=by have h9:¬ (i:Int)<w.versions.length:=of_decide_eq_false y1;omega
  subst hiL
  repeat((conv=>whnf);first|apply qza|apply qzb|apply qzc|apply qzd|apply qze|intro(_:Nat))
  conv=>whnf
  intro g2 hg
  show Value.int .i64 (0+sumI qtC (w.versions.take w.versions.length))=_
  rw [List.take_length,Int.zero_add];rfl)
/- Law 20's example. -/
open Go.Proofs.YthonngjhelcpeaaGreat.Sx Go.RowKit
theorem qKS {t h a:Int} {c:List Int}:SnW (wH t h a c):=by
 intro v hv
 have:v=⟨qaK 1 [true],[⟨t,[⟨h,[-1],a⟩]⟩],false⟩:=by simpa [wH] using hv
 subst this
 show SnS (qaK 1 [true])
 refine⟨by decide,fun r hr=>?_⟩
 have:r=⟨0,⟨#[42]⟩,⟨#[47]⟩,0⟩:=by simpa [qaK] using hr
 subst this
 decide
theorem q8O {K:Nat} (hK:6≤K) {t h a:Int} {c:List Int} (hc:c.length=6):BgW K (wH t h a c):=by
 refine⟨⟨by show 1≤K;omega,by show 1≤K;omega,by show 1≤K;omega,by show 1≤K;omega,Nat.zero_le _⟩,fun r hr=>?_,fun v hv=>?_⟩
 ·have:r=c:=by simpa [wH] using hr
  subst this;omega
 have:v=⟨qaK 1 [true],[⟨t,[⟨h,[-1],a⟩]⟩],false⟩:=by simpa [wH] using hv
 subst this
 refine⟨by show 1≤K;omega,fun y hy=>?_⟩
 have:y=⟨t,[⟨h,[-1],a⟩]⟩:=by simpa using hy
 subst this
 show 1≤K;omega
theorem qrS (g:GW):Ok Tryz.prog qBI [] g fun v g'=>∃ cs,v=.agg ⟨cs⟩∧rWo g' cs w1 :=
 Ok.of_fn hm noT 0 q0H (args:=[]) (by
  repeat((conv=>whnf);first|apply qza|apply qzb|apply qzc|apply qzd|apply qze|intro(_:Nat))
  conv=>whnf
  refine⟨1,rfl,by unfold maxLen;omega,fun g1 hg1 hn1 hp1=>?_⟩
  repeat((conv=>whnf);first|apply qza|apply qzb|apply qzc|apply qzd|apply qze|intro(_:Nat))
  conv=>whnf
  refine⟨4,rfl,by unfold maxLen;omega,fun g2 hg2 hn2 hp2=>?_⟩
  repeat((conv=>whnf);first|apply qza|apply qzb|apply qzc|apply qzd|apply qze|intro(_:Nat))
  conv=>whnf
  refine⟨1,rfl,by unfold maxLen;omega,fun g3 hg3 hn3 hp3=>?_⟩
  repeat((conv=>whnf);first|apply qza|apply qzb|apply qzc|apply qzd|apply qze|intro(_:Nat))
  conv=>whnf
  refine⟨4,rfl,by unfold maxLen;omega,fun g4 hg4 hn4 hp4=>?_⟩
  repeat((conv=>whnf);first|apply qza|apply qzb|apply qzc|apply qzd|apply qze|intro(_:Nat))
  conv=>whnf
  refine⟨1,rfl,by unfold maxLen;omega,fun g5 hg5 hn5 hp5=>?_⟩
  have hs:=qlR (n:=1) (h:=[true]) (hp1.mono (GW.trans hg2 (GW.trans hg3 (GW.trans hg4 hg5)))) (hp2.mono (GW.trans hg3 (GW.trans hg4 hg5))) (hp4.mono hg5) (hp3.mono (GW.trans hg4 hg5)) (by decide)
  have hl:=qBG (R:=rStr) hp5.rd [sInW] .string rfl fun _ _=>rfl
  conv=>whnf
  refine .inr ((qnV _ hs hl (t:=1) (by decide) (by decide)).mono fun v g6 hg6 hN=>?_)
  rcases hN with ⟨_,cs,rfl,hw⟩|⟨h,_⟩
  rotate_left
  ·exact absurd qyV h
  obtain⟨_,_,_,_,_,_,_,_,_,_,rfl⟩:=qGA hw
  repeat((conv=>whnf);first|apply qza|apply qzb|apply qzc|apply qzd|apply qze|intro(_:Nat))
  conv=>whnf
  intro g2 hg
  exact⟨_,rfl,qBA _ _ _ _ hg hw⟩)
theorem qIA (g:GW):OkV Tryz.prog qxG [] g (.bool true) :=
 Ok.of_fn hm noT 0 qqG (args:=[]) (by
  repeat((conv=>whnf);first|apply qza|apply qzb|apply qzc|apply qzd|apply qze|intro(_:Nat))
  refine .inr ((qrS _).mono fun v g1 hg1 hO=>?_)
  obtain⟨cs,rfl,hw1⟩:=hO
  obtain⟨_,_,_,_,_,_,_,_,_,_,rfl⟩:=qGA hw1
  repeat((conv=>whnf);first|apply qza|apply qzb|apply qzc|apply qzd|apply qze|intro(_:Nat))
  refine .inr ((q8E _ hw1 (q7N _ sInW sSl) (by rw [qLS];exact qKS) (by rw [qLS];exact q8O (by decide) rfl) ⟨by decide,by decide⟩ hway1.1 (congrArg Prod.fst e1) (by decide)).mono fun v g2 hg2 hO=>?_)
  obtain⟨csa,msa,rfl,hwa,hMa⟩:=hO
  obtain⟨_,_,_,_,_,_,_,_,_,_,rfl⟩:=qGA hwa
  obtain⟨_,_,_,_,_,_,rfl⟩:=qXA hMa
  have k1:=e1
  generalize (gIt 14 w1 (mH sInW sSl)).2=n1 at hMa k1 ⊢
  obtain⟨k1,k1'⟩:=Prod.mk.inj k1
  repeat((conv=>whnf);first|apply qza|apply qzb|apply qzc|apply qzd|apply qze|intro(_:Nat))
  refine .inr ((q8E _ hwa (q7N _ sInW sSl) qKS (q8O (by decide) rfl) ⟨by decide,by decide⟩ hway2.1 (congrArg Prod.fst e2) (by decide)).mono fun v g3 hg3 hO=>?_)
  obtain⟨csb,msb,rfl,hwb,hMb⟩:=hO
  obtain⟨_,_,_,_,_,_,_,_,_,_,rfl⟩:=qGA hwb
  obtain⟨_,_,_,_,_,_,rfl⟩:=qXA hMb
  have k2:=e2
  generalize (gIt 12 wH1 (mH sInW sSl)).2=n2 at hMb k2 ⊢
  obtain⟨k2,k2'⟩:=Prod.mk.inj k2
  repeat((conv=>whnf);first|apply qza|apply qzb|apply qzc|apply qzd|apply qze|intro(_:Nat))
  refine .inr ((q8E _ hwb (q7N _ sInW sQ) qKS (q8O (by decide) rfl) ⟨by decide,by decide⟩ hway3.1 (congrArg Prod.fst e3) (by decide)).mono fun v g4 hg4 hO=>?_)
  obtain⟨csc,msc,rfl,hwc,hMc⟩:=hO
  obtain⟨_,_,_,_,_,_,_,_,_,_,rfl⟩:=qGA hwc
  obtain⟨_,_,_,_,_,_,rfl⟩:=qXA hMc
  have k3:=e3
  generalize (gIt 10 wH2 (mH sInW sQ)).2=n3 at hMc k3 ⊢
  obtain⟨k3,k3'⟩:=Prod.mk.inj k3
  repeat((conv=>whnf);first|apply qza|apply qzb|apply qzc|apply qzd|apply qze|intro(_:Nat))
  refine .inr ((q8E _ hwc (q7N _ sNoW sQ) qKS (q8O (by decide) rfl) ⟨by decide,by decide⟩ hway4 (congrArg Prod.fst e4) (by decide)).mono fun v g5 hg5 hO=>?_)
  obtain⟨csd,msd,rfl,hwd,hMd⟩:=hO
  obtain⟨_,_,_,_,_,_,_,_,_,_,rfl⟩:=qGA hwd
  obtain⟨_,_,_,_,_,_,rfl⟩:=qXA hMd
  have k4:=e4
  generalize (gIt 7 wH3 (mH sNoW sQ)).2=n4 at hMd k4 ⊢
  obtain⟨k4,k4'⟩:=Prod.mk.inj k4
  repeat((conv=>whnf);first|apply qza|apply qzb|apply qzc|apply qzd|apply qze|intro(_:Nat))
  have hcs:=(q5V hwc).mono qMC hg5
  conv=>whnf
  refine .inl ⟨_,qzT _ hcs (by decide),?_⟩
  repeat((conv=>whnf);first|apply qza|apply qzb|apply qzc|apply qzd|apply qze|intro(_:Nat))
  conv=>whnf
  refine⟨fun hx=>absurd hx (by decide),fun _=>?_⟩
  repeat((conv=>whnf);first|apply qza|apply qzb|apply qzc|apply qzd|apply qze|intro(_:Nat))
  conv=>whnf
  refine⟨fun hx=>absurd hx (by decide),fun _=>?_⟩
  repeat((conv=>whnf);first|apply qza|apply qzb|apply qzc|apply qzd|apply qze|intro(_:Nat))
  obtain⟨_,_,_,_,_,_,_,_,_,_,_,_,_,_,_,d1,a1,_⟩:=n1
  replace k1:d1=true:=k1
  replace k1':a1=ansK 1 0:=k1'
  subst k1
  subst k1'
  conv=>whnf
  refine⟨fun _=>?_,fun h=>nomatch h⟩
  repeat((conv=>whnf);first|apply qza|apply qzb|apply qzc|apply qzd|apply qze|intro(_:Nat))
  conv=>whnf
  refine⟨fun _=>?_,fun hx=>absurd hx (by simp [ansK,c60])⟩
  repeat((conv=>whnf);first|apply qza|apply qzb|apply qzc|apply qzd|apply qze|intro(_:Nat))
  conv=>whnf
  refine⟨fun _=>?_,fun hx=>absurd hx (by decide)⟩
  repeat((conv=>whnf);first|apply qza|apply qzb|apply qzc|apply qzd|apply qze|intro(_:Nat))
  conv=>whnf
  refine⟨fun _=>?_,fun hx=>absurd hx (by simp [k2'])⟩
  repeat((conv=>whnf);first|apply qza|apply qzb|apply qzc|apply qzd|apply qze|intro(_:Nat))
  conv=>whnf
  refine⟨fun _=>?_,fun hx=>absurd hx (by decide)⟩
  repeat((conv=>whnf);first|apply qza|apply qzb|apply qzc|apply qzd|apply qze|intro(_:Nat))
  conv=>whnf
  refine⟨fun _=>?_,fun hx=>absurd hx (by simp [k3'])⟩
  repeat((conv=>whnf);first|apply qza|apply qzb|apply qzc|apply qzd|apply qze|intro(_:Nat))
  conv=>whnf
  refine⟨fun _=>?_,fun hx=>absurd hx (by decide)⟩
  repeat((conv=>whnf);first|apply qza|apply qzb|apply qzc|apply qzd|apply qze|intro(_:Nat))
  conv=>whnf
  refine⟨fun _=>?_,fun hx=>absurd hx (by simp [k4'])⟩
  repeat((conv=>whnf);first|apply qza|apply qzb|apply qzc|apply qzd|apply qze|intro(_:Nat))
  conv=>whnf
  refine⟨fun _=>?_,fun hx=>absurd hx (by decide)⟩
  repeat((conv=>whnf);first|apply qza|apply qzb|apply qzc|apply qzd|apply qze|intro(_:Nat))
  refine .inr ((qAB _ (qBA _ _ _ _ hg5 hwc) (q8O (by decide) rfl)).mono fun v g6 hg6 hO=>?_)
  subst hO
  have hFl:=quG (qBA _ _ _ _ (GW.trans hg5 hg6) hwc)
  obtain⟨al,rfl⟩:=qEA hFl (i:=0) (x:=⟨sInW,false,1,false⟩) rfl
  obtain⟨_,hcl⟩:=qoD hFl (i:=0) (x:=⟨sInW,false,1,false⟩) rfl
  repeat((conv=>whnf);first|apply qza|apply qzb|apply qzc|apply qzd|apply qze|intro(_:Nat))
  conv=>whnf
  refine⟨fun _=>?_,fun hx=>absurd hx (by rw [qxV];decide)⟩
  repeat((conv=>whnf);first|apply qza|apply qzb|apply qzc|apply qzd|apply qze|intro(_:Nat))
  conv=>whnf
  refine⟨_,rfl,⟨by decide,by decide⟩,?_⟩
  repeat((conv=>whnf);first|apply qza|apply qzb|apply qzc|apply qzd|apply qze|intro(_:Nat))
  conv=>whnf
  refine⟨_,hcl 2 _ rfl,?_⟩
  repeat((conv=>whnf);first|apply qza|apply qzb|apply qzc|apply qzd|apply qze|intro(_:Nat))
  conv=>whnf
  refine⟨fun _=>?_,fun hx=>absurd hx (by decide)⟩
  repeat((conv=>whnf);first|apply qza|apply qzb|apply qzc|apply qzd|apply qze|intro(_:Nat))
  conv=>whnf
  refine⟨fun _=>?_,fun h=>nomatch h⟩
  repeat((conv=>whnf);first|apply qza|apply qzb|apply qzc|apply qzd|apply qze|intro(_:Nat))
  conv=>whnf
  intro g2 hg
  exact congrArg Value.bool (by decide))
/- Machines: the document's sameness is true of the same datum. -/
open Go.Proofs.YthonngjhelcpeaaGreat.Sx Go.RowKit
theorem qoS (g:GW) {o:OpD} {a1 a2 a3 b1 b2 b3:Option Addr} {p1 p2 p3 q1 q2 q3 l1 l2 l3:Nat}:OkV Tryz.prog qvG [.agg ⟨[.int .i64 o.kind,.string o.listen,.string o.host,.string o.path,.int .i64 o.d0,.int .i64 o.d1,.int .i64 o.n,.slice a1 l1 p1,.slice a2 l2 p2,.slice a3 l3 p3]⟩,.agg ⟨[.int .i64 o.kind,.string o.listen,.string o.host,.string o.path,.int .i64 o.d0,.int .i64 o.d1,.int .i64 o.n,.slice b1 l1 q1,.slice b2 l2 q2,.slice b3 l3 q3]⟩] g (.bool true) :=
 Ok.of_fn hm noT 0 qoG (args:=[.v (.agg ⟨[.int .i64 o.kind,.string o.listen,.string o.host,.string o.path,.int .i64 o.d0,.int .i64 o.d1,.int .i64 o.n,.slice a1 l1 p1,.slice a2 l2 p2,.slice a3 l3 p3]⟩),.v (.agg ⟨[.int .i64 o.kind,.string o.listen,.string o.host,.string o.path,.int .i64 o.d0,.int .i64 o.d1,.int .i64 o.n,.slice b1 l1 q1,.slice b2 l2 q2,.slice b3 l3 q3]⟩)]) (by
  repeat((conv=>whnf);first|apply qza|apply qzb|apply qzc|apply qzd|apply qze|intro(_:Nat))
  conv=>whnf
  refine⟨fun _=>?_,fun hx=>absurd hx (by simp)⟩
  repeat((conv=>whnf);first|apply qza|apply qzb|apply qzc|apply qzd|apply qze|intro(_:Nat))
  conv=>whnf
  refine⟨fun _=>?_,fun hx=>absurd hx (by simp)⟩
  repeat((conv=>whnf);first|apply qza|apply qzb|apply qzc|apply qzd|apply qze|intro(_:Nat))
  conv=>whnf
  refine⟨fun _=>?_,fun hx=>absurd hx (by simp)⟩
  repeat((conv=>whnf);first|apply qza|apply qzb|apply qzc|apply qzd|apply qze|intro(_:Nat))
  conv=>whnf
  refine⟨fun _=>?_,fun hx=>absurd hx (by simp)⟩
  repeat((conv=>whnf);first|apply qza|apply qzb|apply qzc|apply qzd|apply qze|intro(_:Nat))
  conv=>whnf
  refine⟨fun _=>?_,fun hx=>absurd hx (by simp)⟩
  repeat((conv=>whnf);first|apply qza|apply qzb|apply qzc|apply qzd|apply qze|intro(_:Nat))
  conv=>whnf
  refine⟨fun _=>?_,fun hx=>absurd hx (by simp)⟩
  repeat((conv=>whnf);first|apply qza|apply qzb|apply qzc|apply qzd|apply qze|intro(_:Nat))
  conv=>whnf
  refine⟨fun _=>?_,fun hx=>absurd hx (by simp)⟩
  repeat((conv=>whnf);first|apply qza|apply qzb|apply qzc|apply qzd|apply qze|intro(_:Nat))
  conv=>whnf
  refine⟨fun _=>?_,fun hx=>absurd hx (by simp)⟩
  repeat((conv=>whnf);first|apply qza|apply qzb|apply qzc|apply qzd|apply qze|intro(_:Nat))
  conv=>whnf
  refine⟨fun _=>?_,fun hx=>absurd hx (by simp)⟩
  repeat((conv=>whnf);first|apply qza|apply qzb|apply qzc|apply qzd|apply qze|intro(_:Nat))
  conv=>whnf
  intro g2 hg
  simp)
theorem q4U (g:GW) {ms ms':List Value} {m:Mach} (hM:qlA g ms m) (hM':qlA g ms' m):OkV Tryz.prog q4I [.agg ⟨ms⟩,.agg ⟨ms'⟩] g (.bool true):=by
 obtain⟨o1,t1,o2,t2,o3,t3,rfl⟩:=qXA hM
 obtain⟨q1,u1,q2,u2,q3,u3,rfl⟩:=qXA hM'
 exact Ok.of_fn hm noT 0 qlI (args:=[.v (.agg ⟨mQ m o1 t1 o2 t2 o3 t3⟩),.v (.agg ⟨m.cs (.slice q1 m.op.config.listens.length u1) (.slice q2 m.op.config.routes.length u2) (.slice q3 m.op.config.clusters.length u3)⟩)]) (by
  repeat((conv=>whnf);first|apply qza|apply qzb|apply qzc|apply qzd|apply qze|intro(_:Nat))
  conv=>whnf
  refine .inl ⟨_,qoS _,?_⟩
  repeat((conv=>whnf);first|apply qza|apply qzb|apply qzc|apply qzd|apply qze|intro(_:Nat))
  conv=>whnf
  refine⟨fun h=>(nomatch h),fun _=>?_⟩
  repeat((conv=>whnf);first|apply qza|apply qzb|apply qzc|apply qzd|apply qze|intro(_:Nat))
  conv=>whnf
  refine⟨fun _=>?_,fun hx=>absurd hx (by simp)⟩
  repeat((conv=>whnf);first|apply qza|apply qzb|apply qzc|apply qzd|apply qze|intro(_:Nat))
  conv=>whnf
  refine⟨fun _=>?_,fun hx=>absurd hx (by simp)⟩
  repeat((conv=>whnf);first|apply qza|apply qzb|apply qzc|apply qzd|apply qze|intro(_:Nat))
  conv=>whnf
  refine⟨fun _=>?_,fun hx=>absurd hx (by simp)⟩
  repeat((conv=>whnf);first|apply qza|apply qzb|apply qzc|apply qzd|apply qze|intro(_:Nat))
  conv=>whnf
  refine⟨fun _=>?_,fun hx=>absurd hx (by simp)⟩
  repeat((conv=>whnf);first|apply qza|apply qzb|apply qzc|apply qzd|apply qze|intro(_:Nat))
  conv=>whnf
  refine⟨fun _=>?_,fun hx=>absurd hx (by simp)⟩
  repeat((conv=>whnf);first|apply qza|apply qzb|apply qzc|apply qzd|apply qze|intro(_:Nat))
  conv=>whnf
  refine⟨fun _=>?_,fun hx=>absurd hx (by simp)⟩
  repeat((conv=>whnf);first|apply qza|apply qzb|apply qzc|apply qzd|apply qze|intro(_:Nat))
  conv=>whnf
  refine⟨fun _=>?_,fun hx=>absurd hx (by simp)⟩
  repeat((conv=>whnf);first|apply qza|apply qzb|apply qzc|apply qzd|apply qze|intro(_:Nat))
  conv=>whnf
  refine⟨fun _=>?_,fun hx=>absurd hx (by simp)⟩
  repeat((conv=>whnf);first|apply qza|apply qzb|apply qzc|apply qzd|apply qze|intro(_:Nat))
  conv=>whnf
  refine⟨fun _=>?_,fun hx=>absurd hx (by simp)⟩
  repeat((conv=>whnf);first|apply qza|apply qzb|apply qzc|apply qzd|apply qze|intro(_:Nat))
  conv=>whnf
  refine⟨fun _=>?_,fun hx=>absurd hx (by simp)⟩
  repeat((conv=>whnf);first|apply qza|apply qzb|apply qzc|apply qzd|apply qze|intro(_:Nat))
  conv=>whnf
  refine⟨fun _=>?_,fun hx=>absurd hx (by simp)⟩
  repeat((conv=>whnf);first|apply qza|apply qzb|apply qzc|apply qzd|apply qze|intro(_:Nat))
  conv=>whnf
  refine⟨fun _=>?_,fun hx=>absurd hx (by simp)⟩
  repeat((conv=>whnf);first|apply qza|apply qzb|apply qzc|apply qzd|apply qze|intro(_:Nat))
  conv=>whnf
  refine⟨fun _=>?_,fun hx=>absurd hx (by simp)⟩
  repeat((conv=>whnf);first|apply qza|apply qzb|apply qzc|apply qzd|apply qze|intro(_:Nat))
  conv=>whnf
  refine⟨fun _=>?_,fun hx=>absurd hx (by simp)⟩
  repeat((conv=>whnf);first|apply qza|apply qzb|apply qzc|apply qzd|apply qze|intro(_:Nat))
  conv=>whnf
  refine⟨fun _=>?_,fun hx=>absurd hx (by simp)⟩
  repeat((conv=>whnf);first|apply qza|apply qzb|apply qzc|apply qzd|apply qze|intro(_:Nat))
  conv=>whnf
  refine⟨fun _=>?_,fun hx=>absurd hx (by simp)⟩
  repeat((conv=>whnf);first|apply qza|apply qzb|apply qzc|apply qzd|apply qze|intro(_:Nat))
  conv=>whnf
  intro g2 hg
  simp)
/- Pins: the law's example. -/
open Go.Proofs.YthonngjhelcpeaaGreat.Sx Go.RowKit
section
variable {g:GW} {cs ms:List Value} {e pc ep:Int} {p:List Int} (hw:rWo g cs (wP e p)) (hM:qlA g ms (mP pc ep)) (he:0≤e∧e≤100) (hl:p.length=2) (hp:∀ x∈p,0≤x∧x≤e+1)
include hw hM he hl hp
end
/- The law PinOff. -/
open Go.Proofs.YthonngjhelcpeaaGreat.Sx Go.RowKit
theorem BgW.up {K K':Nat} {w:Wd} (h:BgW K w) (k:K≤K'):BgW K' w:=by
 obtain⟨⟨h1,h2,h3,h4,h5⟩,h6,h7⟩:=h
 refine⟨⟨by omega,by omega,by omega,by omega,by omega⟩,fun r hr=>by have:=h6 r hr;omega,fun v hv=>?_⟩
 obtain⟨a,b⟩:=h7 v hv
 exact⟨by omega,fun y hy=>by have:=b y hy;unfold BgG at this ⊢;omega⟩
/- The law HandleSteps. -/
open Go.Proofs.YthonngjhelcpeaaGreat.Sx Go.RowKit
theorem q8J {a b:BA} (h1:decide (100<(a.size:Int))=false) (h2:decide (100<(b.size:Int))=false):Sm a∧Sm b:=by
 have h1:=of_decide_eq_false h1
 have h2:=of_decide_eq_false h2
 exact⟨by unfold Sm;omega,by unfold Sm;omega⟩
end Go.Proofs.YthonngjhelcpeaaGreat
