/- Worlds: limbo, listeners, counts: are they right? -/
import Derived.Test.YtkbbljngpglnkaaGreatLS7b
import Derived.Test.YtkbbljngpglnkaaGreatLB1
import Derived.Test.YtkbbljngpglnkaaGreatPl
set_option linter.unusedVariables false
set_option linter.unusedSimpArgs false
namespace Go.Proofs.YtkbbljngpglnkaaGreat
open Go.Proofs.YtkbbljngpglnkaaGreat.Sx Go.RowKit
set_option maxHeartbeats 16000000
set_option maxRecDepth 100000
def tPl:List (Nat×FnI):=[(qLB,qXA),(qSJ,qsF)]
theorem qFT:qIH Tryz.prog tPl:=by
 intro x hx
 simp only [tPl,List.mem_cons,List.not_mem_nil,or_false] at hx
 rcases hx with rfl|rfl
 ·exact⟨_,_,qJB⟩
 ·exact⟨_,_,q1I⟩
theorem qIJ (g:GW) {v:Value} {l:List Listen} (hl:rSl 4 qPB g v l) (s:BA):OkV Tryz.prog qTL [v,.string s] g (.int .i64 (qZB l s)) :=
 Ok.of_fn hm qFT 2 q0K (args:=[.v v,.v (.string s)]) (by
  obtain⟨oa,cap,rfl,h1,h2,h0,hr⟩:=hl
  repeat((conv=>whnf);first|apply qza|apply qzb|apply qzc|apply qzd|apply qze|intro(_:Nat))
  conv=>whnf
  refine⟨Nat,fun k=>[.v (.int .i64 k)],fun k=>⟨g,[.blk 0 _ _ [.v (.string s)]],_,_⟩,fun k=>k≤l.length∧Pass (idxF fun (x:Listen)=>bs x.name==bs s) l k,fun k=>l.length-k,qFA 0 rfl ⟨Nat.zero_le _,Pass.zero _ _⟩ rfl,?_⟩
  rintro k ⟨hk,hp⟩
  conv=>whnf
  refine⟨fun hlt=>?_,fun hlt=>?_⟩
  ·have h':k<l.length:=by have:=of_decide_eq_true hlt;omega
   obtain⟨x,hx⟩:=qBA h'
   obtain⟨a,rfl,ec,hec,⟨rfl,_⟩,hc⟩:=hr k x hx
   conv=>whnf
   refine⟨a,rfl,⟨by omega,by omega⟩,?_⟩
   conv=>whnf
   refine⟨_,⟨rfl,hc⟩,?_⟩
   conv=>whnf
   refine⟨qeJ,?_⟩
   repeat((conv=>whnf);first|apply qza|apply qzb|apply qzc|apply qzd|apply qze|intro(_:Nat))
   conv=>whnf
   refine⟨fun he=>?_,fun he=>?_⟩
   ·conv=>whnf
    intro g2 hg
    rw [qZB,qcL hp hx he]
   ·conv=>whnf
    refine fun fr w hw=>⟨k+1,congrArg (fun z=>[Value.int .i64 z]) (wr1 h' h1 h2).symm,⟨h',qpI hp hx he⟩,dec h',?_⟩
    exact hw.fit (by simp [fitL,Res.eqv,qAA,conc])
  ·conv=>whnf
   intro g2 hg
   have:=of_decide_eq_false hlt
   rw [qZB,qiH hp (by omega)])
theorem qST (g:GW) {cs:List Value} {x:Listen} (hx:qPB g cs x):OkV Tryz.prog qVP [.agg ⟨cs⟩] g (.bool (qeL x)):=by
 obtain⟨rfl,hA⟩:=hx
 exact Ok.of_fn hm noT 0 q4O (args:=[.v (.agg ⟨[.string x.name,.bool x.drain,.int .i64 x.active,.bool x.closed]⟩)]) (by
  repeat((conv=>whnf);first|apply qza|apply qzb|apply qzc|apply qzd|apply qze|intro(_:Nat))
  repeat'((conv=>whnf);first|apply qza|apply qzb|apply qzc|apply qzd|apply qze|intro(_:Nat)|refine .inl ⟨_,qoG _ _,?_⟩|refine⟨fun _=>?_,fun _=>?_⟩|fail)
  all_goals (conv=>whnf)
  all_goals (intro g2 hg)
  all_goals (unfold qeL;simp_all;try (intros;omega)))
theorem qBP {c:List (List Int)} {r:List Int} (hr:r∈c) (h:r.length≠6):qSE c=false:=by
 unfold qSE
 rw [show(c.all fun r=>decide (r.length=6))=false from List.all_eq_false.2 ⟨r,hr,by simpa using h⟩];rfl
theorem qRT (g:GW) {v:Value} {l:List (List Int)} (hl:rSl 1 rRow g v l):OkV Tryz.prog qTP [v] g (.bool (qSE l)) :=
 Ok.of_fn hm noT 0 q2O (args:=[.v v]) (by
  obtain⟨oa,cap,rfl,h1,h2,h0,hr⟩:=hl
  repeat((conv=>whnf);first|apply qza|apply qzb|apply qzc|apply qzd|apply qze|intro(_:Nat))
  conv=>whnf
  refine⟨Nat,fun k=>[.v (.int .i64 k)],fun k=>⟨g,[],_,_⟩,fun k=>k≤l.length∧(l.take k).all (fun r=>decide (r.length=6))=true,fun k=>l.length-k,qFA 0 rfl ⟨Nat.zero_le _,by simp⟩ rfl,?_⟩
  rintro k ⟨hk,hp⟩
  repeat((conv=>whnf);first|apply qza|apply qzb|apply qzc|apply qzd|apply qze|intro(_:Nat))
  conv=>whnf
  refine⟨fun hlt=>?_,fun hlt=>?_⟩
  ·have h':k<l.length:=by have:=of_decide_eq_true hlt;omega
   obtain⟨x,hx⟩:=qBA h'
   obtain⟨a,rfl,ec,hec,⟨n,rfl,hn⟩,hc⟩:=hr k x hx
   obtain⟨ox,cx,rfl,x1,x2,x0,hx1⟩:=id hn
   repeat((conv=>whnf);first|apply qza|apply qzb|apply qzc|apply qzd|apply qze|intro(_:Nat))
   conv=>whnf
   refine⟨a,rfl,⟨by omega,by omega⟩,?_⟩
   conv=>whnf
   refine⟨_,hc 0 _ rfl,?_⟩
   repeat((conv=>whnf);first|apply qza|apply qzb|apply qzc|apply qzd|apply qze|intro(_:Nat))
   conv=>whnf
   refine⟨fun he=>?_,fun he=>?_⟩
   ·repeat((conv=>whnf);first|apply qza|apply qzb|apply qzc|apply qzd|apply qze|intro(_:Nat))
    conv=>whnf
    intro g2 hg
    rw [qBP (List.mem_of_getElem? hx) (by have h9:(x.length:Int)≠6:=bneT he;omega)]
   ·repeat((conv=>whnf);first|apply qza|apply qzb|apply qzc|apply qzd|apply qze|intro(_:Nat))
    conv=>whnf
    refine fun fr w hw=>⟨k+1,congrArg (fun z=>[Value.int .i64 z]) (wr1 h' h1 h2).symm,⟨h',?_⟩,dec h',hw⟩
    obtain⟨c1,c2⟩:=List.getElem?_eq_some_iff.1 hx
    rw [q8F c1,hp,c2]
    have:(x.length:Int)=6:=by simpa using he
    simp;omega
  ·have hkL:=of_decide_eq_false hlt
   rw [List.take_of_length_le (by omega)] at hp
   repeat((conv=>whnf);first|apply qza|apply qzb|apply qzc|apply qzd|apply qze|intro(_:Nat))
   conv=>whnf
   refine⟨fun hz=>?_,fun hz=>?_⟩
   ·repeat((conv=>whnf);first|apply qza|apply qzb|apply qzc|apply qzd|apply qze|intro(_:Nat))
    conv=>whnf
    intro g2 hg
    have:=of_decide_eq_true hz
    unfold qSE
    rw [hp,decide_eq_true (show 1≤l.length by omega)];simp;omega
   ·repeat((conv=>whnf);first|apply qza|apply qzb|apply qzc|apply qzd|apply qze|intro(_:Nat))
    conv=>whnf
    intro g2 hg
    have:=of_decide_eq_false hz
    unfold qSE
    rw [hp,decide_eq_false (show ¬ 1≤l.length by omega)];rfl)
/- Worlds: limbo: is it right? -/
open Go.Proofs.YtkbbljngpglnkaaGreat.Sx Go.RowKit
def tLh:List (Nat×FnI):=[(qtA,qSA),(q8A,qVA),(qSL,qoH)]
theorem qHT:qIH Tryz.prog tLh:=by
 intro x hx
 simp only [tLh,List.mem_cons,List.not_mem_nil,or_false] at hx
 rcases hx with rfl|rfl|rfl
 ·exact⟨_,_,qrA⟩
 ·exact⟨_,_,q6A⟩
 ·exact⟨_,_,qzK⟩
theorem qZS (g:GW) {v:Value} {l:List Retired} (hl:rSl 3 qfA g v l) (n:Int):OkV Tryz.prog q1N [v,.int .i64 n] g (.bool (l.any fun r=>r.version==n)) :=
 Ok.of_fn hm qHT 3 qXN (args:=[.v v,.v (.int .i64 n)]) (by
  obtain⟨oa,cap,rfl,h1,h2,h0,hr⟩:=hl
  repeat((conv=>whnf);first|apply qza|apply qzb|apply qzc|apply qzd|apply qze|intro(_:Nat))
  conv=>whnf
  refine⟨Nat,fun k=>[.v (.int .i64 k)],fun k=>⟨g,[.blk 0 _ _ [.v (.int .i64 n)]],_,_⟩,fun k=>k≤l.length∧Pass (idxF fun (x:Retired)=>x.version==n) l k,fun k=>l.length-k,qFA 0 rfl ⟨Nat.zero_le _,Pass.zero _ _⟩ rfl,?_⟩
  rintro k ⟨hk,hp⟩
  conv=>whnf
  refine⟨fun hlt=>?_,fun hlt=>?_⟩
  ·have h':k<l.length:=by have:=of_decide_eq_true hlt;omega
   obtain⟨x,hx⟩:=qBA h'
   obtain⟨a,rfl,ec,hec,⟨rfl,_⟩,hc⟩:=hr k x hx
   conv=>whnf
   refine⟨a,rfl,⟨by omega,by omega⟩,?_⟩
   conv=>whnf
   refine⟨_,⟨rfl,hc⟩,?_⟩
   conv=>whnf
   refine⟨qaL,?_⟩
   repeat((conv=>whnf);first|apply qza|apply qzb|apply qzc|apply qzd|apply qze|intro(_:Nat))
   conv=>whnf
   refine⟨fun he=>?_,fun he=>?_⟩
   ·conv=>whnf
    intro g2 hg
    have:(l.any fun r=>r.version==n)=true:=List.any_eq_true.2 ⟨x,List.mem_of_getElem? hx,he⟩
    rw [this];simp
   ·conv=>whnf
    refine fun fr w hw=>⟨k+1,congrArg (fun z=>[Value.int .i64 z]) (wr1 h' h1 h2).symm,⟨h',qpI hp hx he⟩,dec h',?_⟩
    exact hw.fit (by simp [fitL,Res.eqv,qAA,conc])
  ·conv=>whnf
   intro g2 hg
   have:=of_decide_eq_false hlt
   have h3:=q8N (fun (x:Retired)=>x.version==n) l
   rw [qiH hp (by omega)] at h3
   rw [← h3])
theorem qQT (g:GW) {v:Value} {l:List Retired} (hl:rSl 3 qfA g v l):OkV Tryz.prog qUP [v] g (.bool (qdE l)) :=
 Ok.of_fn hm noT 0 q3O (args:=[.v v]) (by
  obtain⟨oa,cap,rfl,h1,h2,h0,hr⟩:=id hl
  repeat((conv=>whnf);first|apply qza|apply qzb|apply qzc|apply qzd|apply qze|intro(_:Nat))
  conv=>whnf
  refine⟨Nat,fun k=>[.v (.int .i64 k)],fun k=>⟨g,[],_,_⟩,fun k=>k≤l.length∧AllK (retB l) l k,fun k=>l.length-k,qFA 0 rfl ⟨Nat.zero_le _,AllK.zero _ _⟩ rfl,?_⟩
  rintro k ⟨hk,hp⟩
  conv=>whnf
  refine⟨fun hlt=>?_,fun hlt=>?_⟩
  ·have h':k<l.length:=by have:=of_decide_eq_true hlt;omega
   obtain⟨x,hx⟩:=qBA h'
   obtain⟨a,rfl,ec,hec,⟨rfl,_⟩,hc⟩:=hr k x hx
   repeat((conv=>whnf);first|apply qza|apply qzb|apply qzc|apply qzd|apply qze|intro(_:Nat))
   conv=>whnf
   refine⟨a,rfl,⟨by omega,by omega⟩,?_⟩
   conv=>whnf
   refine⟨_,⟨rfl,hc⟩,?_⟩
   repeat((conv=>whnf);first|apply qza|apply qzb|apply qzc|apply qzd|apply qze|intro(_:Nat))
   conv=>whnf
   refine⟨fun b1=>?_,fun b1=>?_⟩
   ·repeat((conv=>whnf);first|apply qza|apply qzb|apply qzc|apply qzd|apply qze|intro(_:Nat))
    conv=>whnf
    intro g2 hg
    have b1':=of_decide_eq_true b1
    exact congrArg Value.bool (q5A hx (by unfold retB;rw [decide_eq_false (by omega)];rfl)).symm
   ·have b1':=of_decide_eq_false b1
    repeat((conv=>whnf);first|apply qza|apply qzb|apply qzc|apply qzd|apply qze|intro(_:Nat))
    conv=>whnf
    refine⟨fun b2=>?_,fun b2=>?_⟩
    ·repeat((conv=>whnf);first|apply qza|apply qzb|apply qzc|apply qzd|apply qze|intro(_:Nat))
     conv=>whnf
     intro g2 hg
     have b2':=of_decide_eq_true b2
     exact congrArg Value.bool (q5A hx (by unfold retB;rw [decide_eq_false (show ¬ 0≤x.at_ by omega)];simp)).symm
    ·have b2':=of_decide_eq_false b2
     repeat((conv=>whnf);first|apply qza|apply qzb|apply qzc|apply qzd|apply qze|intro(_:Nat))
     conv=>whnf
     refine⟨⟨by omega,by omega⟩,?_⟩
     repeat((conv=>whnf);first|apply qza|apply qzb|apply qzc|apply qzd|apply qze|intro(_:Nat))
     conv=>whnf
     refine .inl ⟨_,qZS _ (rSl.take hl hk) _,?_⟩
     repeat((conv=>whnf);first|apply qza|apply qzb|apply qzc|apply qzd|apply qze|intro(_:Nat))
     conv=>whnf
     refine⟨fun b3=>?_,fun b3=>?_⟩
     ·repeat((conv=>whnf);first|apply qza|apply qzb|apply qzc|apply qzd|apply qze|intro(_:Nat))
      conv=>whnf
      intro g2 hg
      exact congrArg Value.bool (q5A hx (by unfold retB;rw [b3];simp)).symm
     ·repeat((conv=>whnf);first|apply qza|apply qzb|apply qzc|apply qzd|apply qze|intro(_:Nat))
      conv=>whnf
      refine fun fr w hw=>⟨k+1,congrArg (fun z=>[Value.int .i64 z]) (wr1 h' h1 h2).symm,⟨h',hp.succ hx ?_⟩,dec h',?_⟩
      ·unfold retB
       rw [b3,decide_eq_true (show 0≤x.version by omega),decide_eq_true (show 0≤x.at_ by omega)];rfl
      ·exact hw.fit (by simp [fitL,Res.eqv,qAA,conc])
  ·repeat((conv=>whnf);first|apply qza|apply qzb|apply qzc|apply qzd|apply qze|intro(_:Nat))
   conv=>whnf
   intro g2 hg
   have:=of_decide_eq_false hlt
   exact congrArg Value.bool (hp.done (by omega)).symm)
/- Worlds: versions: are they right? -/
open Go.Proofs.YtkbbljngpglnkaaGreat.Sx Go.RowKit
def tV:List (Nat×FnI):=[(qbB,qcA),(qxB,qhA),(qDI,qfE)]
theorem tV_ok:qIH Tryz.prog tV:=by
 intro x hx
 simp only [tV,List.mem_cons,List.not_mem_nil,or_false] at hx
 rcases hx with rfl|rfl|rfl
 ·exact⟨_,_,qVB⟩
 ·exact⟨_,_,qvB⟩
 ·exact⟨_,_,q3H⟩
theorem qNN {v:Version} (h:eqB (qCB (qOF v.snap)) none=false):qwA v=false:=by unfold qwA;rw [h];rfl
theorem qMN {v:Version} (h:v.groups.length≠v.snap.clusters.length):qwA v=false:=by unfold qwA;rw [decide_eq_false h];simp
theorem qZG {v:Version} {k:Nat} {x:Group} (hx:v.groups[k]?=some x) (h:qXG v.snap.clusters k x=false):qwA v=false:=by unfold qwA;rw [q5A hx h];simp
theorem qxO {v:Version} {k:Nat} (h1:eqB (qCB (qOF v.snap)) none=true) (h2:v.groups.length=v.snap.clusters.length) (h:AllK (qXG v.snap.clusters) v.groups k) (hk:v.groups.length≤k):qwA v=true:=by
 unfold qwA;rw [h1,decide_eq_true h2,h.done hk];rfl
theorem qLO {c:Cluster} {e:EndC}:qoJ c e=(endB e&&decide ((e.next.length:Int)=c.slots)):=rfl
theorem qnN (g:GW) {cs:List Value} {x:Version} (hx:rVe g cs x) (hsn:SnS x.snap):OkV Tryz.prog qOJ [.agg ⟨cs⟩] g (.bool (qwA x)):=by
 obtain⟨a,b,d,n,rfl,hS,hG⟩:=hx
 have hS0:=hS
 obtain⟨_,_,_,he,hl,hr,hk⟩:=hS
 cases he
 obtain⟨oa,ca,rfl,a1,a2,a0,hl1⟩:=id hl
 obtain⟨ob,cb,rfl,b1,b2,b0,hr1⟩:=id hr
 obtain⟨od,cd,rfl,d1,d2,d0,hk1⟩:=id hk
 obtain⟨og,cg,rfl,g1,g2,g0,hG1⟩:=id hG
 exact Ok.of_fn hm tV_ok 3 qxI (args:=[.v (.agg ⟨[.slice oa x.snap.listens.length ca,.slice ob x.snap.rules.length cb,.slice od x.snap.clusters.length cd,.slice og x.groups.length cg,.bool x.freed]⟩)]) (by
  repeat((conv=>whnf);first|apply qza|apply qzb|apply qzc|apply qzd|apply qze|intro(_:Nat))
  conv=>whnf
  refine .inl ⟨_,q5R _ hS0 hsn.1,?_⟩
  repeat((conv=>whnf);first|apply qza|apply qzb|apply qzc|apply qzd|apply qze|intro(_:Nat))
  conv=>whnf
  refine⟨fun z1=>?_,fun z1=>?_⟩
  ·repeat((conv=>whnf);first|apply qza|apply qzb|apply qzc|apply qzd|apply qze|intro(_:Nat))
   conv=>whnf
   intro g2 hg
   rw [qNN (nb1 z1)]
  ·have z1':=nb0 z1
   repeat((conv=>whnf);first|apply qza|apply qzb|apply qzc|apply qzd|apply qze|intro(_:Nat))
   conv=>whnf
   refine⟨fun z2=>?_,fun z2=>?_⟩
   ·repeat((conv=>whnf);first|apply qza|apply qzb|apply qzc|apply qzd|apply qze|intro(_:Nat))
    conv=>whnf
    intro g2 hg
    rw [qMN (nneT z2)]
   ·have z2':x.groups.length=x.snap.clusters.length:=nneF z2
    repeat((conv=>whnf);first|apply qza|apply qzb|apply qzc|apply qzd|apply qze|intro(_:Nat))
    rename_i q0
    conv=>whnf
    refine⟨Nat,fun k=>[.v (.int .i64 k)],fun k=>⟨g,[.blk 0 q0 qCA [.v (.slice oa x.snap.listens.length ca),.v (.slice ob x.snap.rules.length cb),.v (.slice od x.snap.clusters.length cd),.v (.slice og x.groups.length cg),.v (.bool x.freed)]],10,g.w.heap.size⟩,fun k=>k≤x.groups.length∧AllK (qXG x.snap.clusters) x.groups k,fun k=>x.groups.length-k,fun fr w hw=>⟨0,rfl,⟨Nat.zero_le _,AllK.zero _ _⟩,hw.fit (by simp [fitL,Res.eqv,qAA,conc])⟩,?_⟩
    rintro k ⟨hkk,hp⟩
    repeat((conv=>whnf);first|apply qza|apply qzb|apply qzc|apply qzd|apply qze|intro(_:Nat))
    conv=>whnf
    refine⟨fun hlt=>?_,fun hlt=>?_⟩
    ·have h':k<x.groups.length:=by have:=of_decide_eq_true hlt;omega
     obtain⟨y,hy⟩:=qBA h'
     obtain⟨aG,rfl,ecG,hecG,⟨nE,rfl,htk,hE⟩,hcG⟩:=hG1 k y hy
     obtain⟨oe,ce,rfl,e1,e2,e0,hE1⟩:=id hE
     obtain⟨c,hcK⟩:=qBA (l:=x.snap.clusters) (i:=k) (by omega)
     obtain⟨aC,rfl,ecC,hecC,⟨vH,rfl,c1,c2,hH⟩,hcC⟩:=hk1 k c hcK
     obtain⟨oh,ch,rfl,h1,h2,h0,hH1⟩:=id hH
     have hgB:qXG x.snap.clusters k y=(decide (y.ends.length=c.health.length)&&y.ends.all (qoJ c)):=by unfold qXG;rw [hcK]
     repeat((conv=>whnf);first|apply qza|apply qzb|apply qzc|apply qzd|apply qze|intro(_:Nat))
     conv=>whnf
     refine⟨aG,rfl,⟨by omega,by omega⟩,?_⟩
     conv=>whnf
     refine⟨_,⟨rfl,hcG⟩,?_⟩
     repeat((conv=>whnf);first|apply qza|apply qzb|apply qzc|apply qzd|apply qze|intro(_:Nat))
     conv=>whnf
     refine⟨aC,rfl,⟨by omega,by omega⟩,?_⟩
     conv=>whnf
     refine⟨_,⟨rfl,hcC⟩,?_⟩
     repeat((conv=>whnf);first|apply qza|apply qzb|apply qzc|apply qzd|apply qze|intro(_:Nat))
     conv=>whnf
     refine⟨fun z3=>?_,fun z3=>?_⟩
     ·repeat((conv=>whnf);first|apply qza|apply qzb|apply qzc|apply qzd|apply qze|intro(_:Nat))
      conv=>whnf
      intro g2 hg
      refine congrArg Value.bool (qZG hy ?_).symm
      rw [hgB,decide_eq_false (nneT z3)];rfl
     ·have z3':y.ends.length=c.health.length:=nneF z3
      repeat((conv=>whnf);first|apply qza|apply qzb|apply qzc|apply qzd|apply qze|intro(_:Nat))
      rename_i q1 q2
      conv=>whnf
      refine⟨Nat,fun n=>[.v (.int .i64 n)],fun n=>⟨g,[.blk 11 q2 qpC [.v (.string c.name),.v (.int .i64 c.policy),.v (.int .i64 c.slots),.v (.slice oh c.health.length ch)],.blk 10 q1 qaA [.v (.int .u64 y.ticket),.v (.slice oe y.ends.length ce)],.blk 0 q0 qCA [.v (.slice oa x.snap.listens.length ca),.v (.slice ob x.snap.rules.length cb),.v (.slice (some aC) x.snap.clusters.length cd),.v (.slice (some aG) x.groups.length cg),.v (.bool x.freed)]],20,g.w.heap.size⟩,fun n=>n≤y.ends.length∧(y.ends.take n).all (qoJ c)=true,fun n=>y.ends.length-n,fun fr w hw=>⟨0,rfl,⟨Nat.zero_le _,by simp⟩,hw.fit (by simp [fitL,Res.eqv,qAA,conc])⟩,?_⟩
      rintro n ⟨hn,hpn⟩
      repeat((conv=>whnf);first|apply qza|apply qzb|apply qzc|apply qzd|apply qze|intro(_:Nat))
      conv=>whnf
      refine⟨fun hln=>?_,fun hln=>?_⟩
      ·have hn':n<y.ends.length:=by have:=of_decide_eq_true hln;omega
       obtain⟨e,hee⟩:=qBA hn'
       obtain⟨aE,rfl,ecE,hecE,heR,hcE⟩:=hE1 n e hee
       have heR0:=heR
       obtain⟨⟨nx,rfl,u1,u2,hN⟩,u3⟩:=heR
       obtain⟨oN,cN,rfl,n1,n2,n0,hN1⟩:=id hN
       obtain⟨cc1,cc2⟩:=List.getElem?_eq_some_iff.1 hee
       repeat((conv=>whnf);first|apply qza|apply qzb|apply qzc|apply qzd|apply qze|intro(_:Nat))
       conv=>whnf
       refine⟨aE,rfl,⟨by omega,by omega⟩,?_⟩
       conv=>whnf
       refine⟨_,⟨rfl,hcE⟩,?_⟩
       repeat((conv=>whnf);first|apply qza|apply qzb|apply qzc|apply qzd|apply qze|intro(_:Nat))
       conv=>whnf
       refine⟨qFI,?_⟩
       repeat((conv=>whnf);first|apply qza|apply qzb|apply qzc|apply qzd|apply qze|intro(_:Nat))
       conv=>whnf
       refine .inl ⟨_,qXS _ heR0,?_⟩
       repeat((conv=>whnf);first|apply qza|apply qzb|apply qzc|apply qzd|apply qze|intro(_:Nat))
       conv=>whnf
       refine⟨fun z4=>?_,fun z4=>?_⟩
       ·repeat((conv=>whnf);first|apply qza|apply qzb|apply qzc|apply qzd|apply qze|intro(_:Nat))
        conv=>whnf
        refine⟨fun _=>?_,fun hx=>absurd (((decide_eq_true (show(0:Int)≤(n:Int) by omega))).symm.trans hx) (by decide)⟩
        repeat((conv=>whnf);first|apply qza|apply qzb|apply qzc|apply qzd|apply qze|intro(_:Nat))
        conv=>whnf
        intro g2 hg
        refine congrArg Value.bool (qZG hy ?_).symm
        rw [hgB,qaC cc1 (by rw [cc2,qLO,nb1 z4];rfl)];simp
       ·repeat((conv=>whnf);first|apply qza|apply qzb|apply qzc|apply qzd|apply qze|intro(_:Nat))
        conv=>whnf
        refine⟨fun z5=>?_,fun z5=>?_⟩
        ·repeat((conv=>whnf);first|apply qza|apply qzb|apply qzc|apply qzd|apply qze|intro(_:Nat))
         conv=>whnf
         refine⟨fun _=>?_,fun hx=>absurd (((decide_eq_true (show(0:Int)≤(n:Int) by omega))).symm.trans hx) (by decide)⟩
         repeat((conv=>whnf);first|apply qza|apply qzb|apply qzc|apply qzd|apply qze|intro(_:Nat))
         conv=>whnf
         intro g2 hg
         refine congrArg Value.bool (qZG hy ?_).symm
         rw [hgB,qaC cc1 (by rw [cc2,qLO,decide_eq_false (bneT z5)];simp)];simp
        ·repeat((conv=>whnf);first|apply qza|apply qzb|apply qzc|apply qzd|apply qze|intro(_:Nat))
         conv=>whnf
         refine fun fr w hw=>⟨n+1,congrArg (fun z=>[Value.int .i64 z]) (wr1 hn' e1 e2).symm,⟨hn',by rw [q8F cc1,hpn,cc2,qLO,nb0 z4,decide_eq_true (bneF z5)];rfl⟩,dec hn',?_⟩
         exact hw.fit (by simp [fitL,Res.eqv,qAA,conc])
      ·have hnL:=of_decide_eq_false hln
       rw [List.take_of_length_le (by omega)] at hpn
       repeat((conv=>whnf);first|apply qza|apply qzb|apply qzc|apply qzd|apply qze|intro(_:Nat))
       conv=>whnf
       refine⟨fun h=>(nomatch h),fun _=>?_⟩
       repeat((conv=>whnf);first|apply qza|apply qzb|apply qzc|apply qzd|apply qze|intro(_:Nat))
       conv=>whnf
       refine fun fr w hw=>⟨k+1,congrArg (fun z=>[Value.int .i64 z]) (wr1 h' g1 g2).symm,⟨h',hp.succ hy (by rw [hgB,decide_eq_true z3',hpn];rfl)⟩,dec h',?_⟩
       exact hw.fit (by simp [fitL,Res.eqv,qAA,conc])
    ·repeat((conv=>whnf);first|apply qza|apply qzb|apply qzc|apply qzd|apply qze|intro(_:Nat))
     conv=>whnf
     intro g2 hg
     have:=of_decide_eq_false hlt
     rw [qxO z1' z2' hp (by omega)])
/- Worlds: versions: are they right? The document's answer. -/
open Go.Proofs.YtkbbljngpglnkaaGreat.Sx Go.RowKit
/- Worlds: is one right? The program's answer. -/
open Go.Proofs.YtkbbljngpglnkaaGreat.Sx Go.RowKit
def tGr:List (Nat×FnI):=[(qlC,q2A),(qID,qQB),(qdI,qHF)]
theorem qIT:qIH Tryz.prog tGr:=by
 intro x hx
 simp only [tGr,List.mem_cons,List.not_mem_nil,or_false] at hx
 rcases hx with rfl|rfl|rfl
 ·exact⟨_,_,qeC⟩
 ·exact⟨_,_,qDD⟩
 ·exact⟨_,_,qaI⟩
def GrP (w:Wd):Prop:=1≤w.pins.length∧w.pins.length≤8∧w.counts.length=w.pins.length∧qSE w.counts=true∧0≤w.epoch∧w.epoch≤1000000000000∧(w.lock=0∨w.lock=1)
def qDL (w:Wd) (p:Int):Bool:=decide (0≤p)&&decide (p≤w.epoch+1)
theorem groundB_iff {w:Wd}:qbA w=true↔GrP w∧w.pins.all (qDL w)=true:=by
 unfold qbA GrP qDL
 simp only [Bool.and_eq_true,decide_eq_true_eq]
 constructor
 ·rintro⟨⟨⟨⟨⟨⟨⟨h1,h2⟩,h3⟩,h4⟩,h5⟩,h6⟩,h7⟩,h8⟩
  exact⟨⟨h1,h2,h3,h4,h5,h6,h7⟩,h8⟩
 ·rintro⟨⟨h1,h2,h3,h4,h5,h6,h7⟩,h8⟩
  exact⟨⟨⟨⟨⟨⟨⟨h1,h2⟩,h3⟩,h4⟩,h5⟩,h6⟩,h7⟩,h8⟩
theorem qcD {w:Wd} (h:¬ GrP w):qbA w=false:=by
 rw [Bool.eq_false_iff];intro hh;exact h (groundB_iff.1 hh).1
theorem qsM {w:Wd} (h:w.pins.all (qDL w)=false):qbA w=false:=by
 rw [Bool.eq_false_iff];intro hh;rw [(groundB_iff.1 hh).2] at h;cases h
theorem qIQ (g:GW) {cs:List Value} {w:Wd} (hw:rWo g cs w):OkV Tryz.prog qAK [.agg ⟨cs⟩] g (.bool (qbA w)):=by
 obtain⟨a,b,c,d,e,rfl,⟨i1,i2,i3⟩,hP,hV,hL,hC,hR⟩:=hw
 obtain⟨oa,ca,rfl,a1,a2,a0,hP1⟩:=id hP
 obtain⟨ob,cb,rfl,b1,b2,b0,hV1⟩:=id hV
 obtain⟨oc,cc,rfl,c1,c2,c0,hL1⟩:=id hL
 obtain⟨od,cd,rfl,d1,d2,d0,hC1⟩:=id hC
 obtain⟨oe,ce,rfl,e1,e2,e0,hR1⟩:=id hR
 exact Ok.of_fn hm qIT 3 qxJ (args:=[.v (.agg ⟨wQ w oa ca ob cb oc cc od cd oe ce⟩)]) (by
  repeat((conv=>whnf);first|apply qza|apply qzb|apply qzc|apply qzd|apply qze|intro(_:Nat))
  conv=>whnf
  refine⟨fun z1=>?_,fun z1=>?_⟩
  ·repeat((conv=>whnf);first|apply qza|apply qzb|apply qzc|apply qzd|apply qze|intro(_:Nat))
   conv=>whnf
   intro g2 hg
   rw [qcD fun h=>by have:=of_decide_eq_true z1;have:=h.1;omega]
  repeat((conv=>whnf);first|apply qza|apply qzb|apply qzc|apply qzd|apply qze|intro(_:Nat))
  conv=>whnf
  refine⟨fun z2=>?_,fun z2=>?_⟩
  ·repeat((conv=>whnf);first|apply qza|apply qzb|apply qzc|apply qzd|apply qze|intro(_:Nat))
   conv=>whnf
   intro g2 hg
   rw [qcD fun h=>by have:=of_decide_eq_true z2;have:=h.2.1;omega]
  repeat((conv=>whnf);first|apply qza|apply qzb|apply qzc|apply qzd|apply qze|intro(_:Nat))
  conv=>whnf
  refine⟨fun z3=>?_,fun z3=>?_⟩
  ·repeat((conv=>whnf);first|apply qza|apply qzb|apply qzc|apply qzd|apply qze|intro(_:Nat))
   conv=>whnf
   intro g2 hg
   rw [qcD fun h=>nneT z3 h.2.2.1]
  repeat((conv=>whnf);first|apply qza|apply qzb|apply qzc|apply qzd|apply qze|intro(_:Nat))
  conv=>whnf
  refine .inl ⟨_,qRT _ hC,?_⟩
  repeat((conv=>whnf);first|apply qza|apply qzb|apply qzc|apply qzd|apply qze|intro(_:Nat))
  conv=>whnf
  refine⟨fun z4=>?_,fun z4=>?_⟩
  ·repeat((conv=>whnf);first|apply qza|apply qzb|apply qzc|apply qzd|apply qze|intro(_:Nat))
   conv=>whnf
   intro g2 hg
   rw [qcD fun h=>by rw [h.2.2.2.1] at z4;cases z4]
  repeat((conv=>whnf);first|apply qza|apply qzb|apply qzc|apply qzd|apply qze|intro(_:Nat))
  conv=>whnf
  refine⟨fun z5=>?_,fun z5=>?_⟩
  ·repeat((conv=>whnf);first|apply qza|apply qzb|apply qzc|apply qzd|apply qze|intro(_:Nat))
   conv=>whnf
   intro g2 hg
   rw [qcD fun h=>by have:=of_decide_eq_true z5;have:=h.2.2.2.2.1;omega]
  repeat((conv=>whnf);first|apply qza|apply qzb|apply qzc|apply qzd|apply qze|intro(_:Nat))
  conv=>whnf
  refine⟨fun z6=>?_,fun z6=>?_⟩
  ·repeat((conv=>whnf);first|apply qza|apply qzb|apply qzc|apply qzd|apply qze|intro(_:Nat))
   conv=>whnf
   intro g2 hg
   rw [qcD fun h=>by have:=of_decide_eq_true z6;have:=h.2.2.2.2.2.1;omega]
  repeat((conv=>whnf);first|apply qza|apply qzb|apply qzc|apply qzd|apply qze|intro(_:Nat))
  have k1:=of_decide_eq_false z1
  have k2:=of_decide_eq_false z2
  have k3:=nneF z3
  have k4:=nb0 z4
  have k5:=of_decide_eq_false z5
  have k6:=of_decide_eq_false z6
  clear z1 z2 z3 z4 z5 z6
  conv=>whnf
  refine⟨fun z7=>?_,fun z7=>?_⟩
  case' refine_1 =>
   have z7':=bneT z7
   repeat((conv=>whnf);first|apply qza|apply qzb|apply qzc|apply qzd|apply qze|intro(_:Nat))
   conv=>whnf
   refine⟨fun z8=>?_,fun z8=>?_⟩
   case' refine_1 =>
    have z8':=bneT z8
    repeat((conv=>whnf);first|apply qza|apply qzb|apply qzc|apply qzd|apply qze|intro(_:Nat))
    conv=>whnf
    intro g2 hg
    rw [qcD fun h=>by rcases h.2.2.2.2.2.2 with h|h;exact z7' h;exact z8' h]
   have hlk:w.lock=0∨w.lock=1:=.inr (bneF z8)
   clear z7 z8 z7'
  case' refine_2 =>
   have hlk:w.lock=0∨w.lock=1:=.inl (bneF z7)
   clear z7
  all_goals
   have hGr:GrP w:=⟨by omega,by omega,k3,k4,by omega,by omega,hlk⟩
   repeat((conv=>whnf);first|apply qza|apply qzb|apply qzc|apply qzd|apply qze|intro(_:Nat))
   conv=>whnf
   refine⟨Nat,fun k=>[.v (.int .i64 k)],fun _=>⟨g,_,_,_⟩,fun k=>k≤w.pins.length∧(w.pins.take k).all (qDL w)=true,fun k=>w.pins.length-k,qFA 0 rfl ⟨Nat.zero_le _,by simp⟩ rfl,?_⟩
   rintro k ⟨hk,hp⟩
   repeat((conv=>whnf);first|apply qza|apply qzb|apply qzc|apply qzd|apply qze|intro(_:Nat))
   conv=>whnf
   refine⟨fun hlt=>?_,fun hlt=>?_⟩
   case' refine_1 =>
    have h':k<w.pins.length:=by have:=of_decide_eq_true hlt;omega
    obtain⟨x,hx⟩:=qBA h'
    obtain⟨a,rfl,ec,hec,⟨rfl,hxr⟩,hc⟩:=hP1 k x hx
    obtain⟨c1',c2'⟩:=List.getElem?_eq_some_iff.1 hx
    have hT:(w.pins.take (k+1)).all (qDL w)=qDL w x:=by rw [q8F c1',hp,c2'];rfl
    repeat((conv=>whnf);first|apply qza|apply qzb|apply qzc|apply qzd|apply qze|intro(_:Nat))
    conv=>whnf
    refine⟨a,rfl,⟨by omega,by omega⟩,?_⟩
    conv=>whnf
    refine⟨_,hc 0 _ rfl,?_⟩
    repeat((conv=>whnf);first|apply qza|apply qzb|apply qzc|apply qzd|apply qze|intro(_:Nat))
    conv=>whnf
    refine⟨qhI,?_⟩
    repeat((conv=>whnf);first|apply qza|apply qzb|apply qzc|apply qzd|apply qze|intro(_:Nat))
    conv=>whnf
    refine⟨fun y1=>?_,fun y1=>?_⟩
    case' refine_1 =>
     repeat((conv=>whnf);first|apply qza|apply qzb|apply qzc|apply qzd|apply qze|intro(_:Nat))
     conv=>whnf
     intro g2 hg
     rw [decide_eq_true (show(0:Int)≤(k:Int) by omega)]
     have y1':=of_decide_eq_true y1
     rw [qsM (qaC c1' (by rw [c2'];unfold qDL;rw [decide_eq_false (by omega)];rfl))];rfl
    have y1':=of_decide_eq_false y1
    repeat((conv=>whnf);first|apply qza|apply qzb|apply qzc|apply qzd|apply qze|intro(_:Nat))
    conv=>whnf
    refine⟨fun y2=>?_,fun y2=>?_⟩
    case' refine_1 =>
     repeat((conv=>whnf);first|apply qza|apply qzb|apply qzc|apply qzd|apply qze|intro(_:Nat))
     conv=>whnf
     intro g2 hg
     rw [decide_eq_true (show(0:Int)≤(k:Int) by omega)]
     have y2':=of_decide_eq_true y2
     rw [wr (by unfold InR;omega)] at y2'
     rw [qsM (qaC c1' (by rw [c2'];unfold qDL;rw [decide_eq_false (show ¬ x≤w.epoch+1 by omega)];simp))];rfl
    have y2':=of_decide_eq_false y2
    rw [wr (by unfold InR;omega)] at y2'
    repeat((conv=>whnf);first|apply qza|apply qzb|apply qzc|apply qzd|apply qze|intro(_:Nat))
    conv=>whnf
    refine fun fr w' hw=>⟨k+1,congrArg (fun z=>[Value.int .i64 z]) (wr1 h' a1 a2).symm,⟨h',by rw [hT];unfold qDL;rw [decide_eq_true (show 0≤x by omega),decide_eq_true (show x≤w.epoch+1 by omega)];rfl⟩,dec h',?_⟩
    exact hw.fit (by simp [fitL,Res.eqv,qAA,conc])
   have:=of_decide_eq_false hlt
   rw [List.take_of_length_le (by omega)] at hp
   repeat((conv=>whnf);first|apply qza|apply qzb|apply qzc|apply qzd|apply qze|intro(_:Nat))
   conv=>whnf
   intro g2 hg
   rw [groundB_iff.2 ⟨hGr,hp⟩];rfl)
/- Worlds: is one right? The program's answer. -/
open Go.Proofs.YtkbbljngpglnkaaGreat.Sx Go.RowKit
def SnW (w:Wd):Prop:=∀ v∈w.versions,SnS v.snap
theorem wdB_iff {w:Wd}:wdB w=true↔qbA w=true∧(0≤w.current∧w.current<w.versions.length)∧qdE w.limbo=true∧w.limbo.all (limB w)=true∧allI (verB w) w.versions=true∧allI (qsB w.listens) w.listens=true:=by
 unfold wdB
 simp only [Bool.and_eq_true,decide_eq_true_eq]
 constructor
 ·rintro⟨⟨⟨⟨⟨⟨h1,h2⟩,h3⟩,h4⟩,h5⟩,h6⟩,h7⟩
  exact⟨h1,⟨h2,h3⟩,h4,h5,h6,h7⟩
 ·rintro⟨h1,⟨h2,h3⟩,h4,h5,h6,h7⟩
  exact⟨⟨⟨⟨⟨⟨h1,h2⟩,h3⟩,h4⟩,h5⟩,h6⟩,h7⟩
theorem qYI {w:Wd} (h:¬ (qbA w=true∧(0≤w.current∧w.current<w.versions.length)∧qdE w.limbo=true∧w.limbo.all (limB w)=true∧allI (verB w) w.versions=true∧allI (qsB w.listens) w.listens=true)):wdB w=false:=by
 rw [Bool.eq_false_iff];intro hh;exact h (wdB_iff.1 hh)
theorem qQM (g:GW) {cs:List Value} {w:Wd} (hw:rWo g cs w) (hsn:SnW w):OkV Tryz.prog qYE [.agg ⟨cs⟩] g (.bool (wdB w)):=by
 have hw0:=hw
 obtain⟨a,b,c,d,e,rfl,⟨i1,i2,i3⟩,hP,hV,hL,hC,hR⟩:=hw
 obtain⟨oa,ca,rfl,a1,a2,a0,hP1⟩:=id hP
 obtain⟨ob,cb,rfl,b1,b2,b0,hV1⟩:=id hV
 obtain⟨oc,cc,rfl,c1,c2,c0,hL1⟩:=id hL
 obtain⟨od,cd,rfl,d1,d2,d0,hC1⟩:=id hC
 obtain⟨oe,ce,rfl,e1,e2,e0,hR1⟩:=id hR
 exact Ok.of_fn hm noT 0 qzO (args:=[.v (.agg ⟨wQ w oa ca ob cb oc cc od cd oe ce⟩)]) (by
  repeat((conv=>whnf);first|apply qza|apply qzb|apply qzc|apply qzd|apply qze|intro(_:Nat))
  conv=>whnf
  refine .inl ⟨_,qIQ _ hw0,?_⟩
  repeat((conv=>whnf);first|apply qza|apply qzb|apply qzc|apply qzd|apply qze|intro(_:Nat))
  conv=>whnf
  refine⟨fun z1=>?_,fun z1=>?_⟩
  ·repeat((conv=>whnf);first|apply qza|apply qzb|apply qzc|apply qzd|apply qze|intro(_:Nat))
   conv=>whnf
   intro g2 hg
   rw [qYI fun h=>by rw [h.1] at z1;cases z1]
  repeat((conv=>whnf);first|apply qza|apply qzb|apply qzc|apply qzd|apply qze|intro(_:Nat))
  conv=>whnf
  refine⟨fun z2=>?_,fun z2=>?_⟩
  ·repeat((conv=>whnf);first|apply qza|apply qzb|apply qzc|apply qzd|apply qze|intro(_:Nat))
   conv=>whnf
   intro g2 hg
   rw [qYI fun h=>by have:=of_decide_eq_true z2;have:=h.2.1;omega]
  repeat((conv=>whnf);first|apply qza|apply qzb|apply qzc|apply qzd|apply qze|intro(_:Nat))
  conv=>whnf
  refine⟨fun z3=>?_,fun z3=>?_⟩
  ·repeat((conv=>whnf);first|apply qza|apply qzb|apply qzc|apply qzd|apply qze|intro(_:Nat))
   conv=>whnf
   intro g2 hg
   rw [qYI fun h=>by have:=of_decide_eq_true z3;have:=h.2.1;omega]
  repeat((conv=>whnf);first|apply qza|apply qzb|apply qzc|apply qzd|apply qze|intro(_:Nat))
  conv=>whnf
  refine .inl ⟨_,qQT _ hR,?_⟩
  repeat((conv=>whnf);first|apply qza|apply qzb|apply qzc|apply qzd|apply qze|intro(_:Nat))
  conv=>whnf
  refine⟨fun z4=>?_,fun z4=>?_⟩
  ·repeat((conv=>whnf);first|apply qza|apply qzb|apply qzc|apply qzd|apply qze|intro(_:Nat))
   conv=>whnf
   intro g2 hg
   rw [qYI fun h=>by rw [h.2.2.1] at z4;cases z4]
  have k1:=nb0 z1
  have k2:=of_decide_eq_false z2
  have k3:=of_decide_eq_false z3
  have k4:=nb0 z4
  clear z1 z2 z3 z4
  repeat((conv=>whnf);first|apply qza|apply qzb|apply qzc|apply qzd|apply qze|intro(_:Nat))
  rename_i q0 qm
  conv=>whnf
  refine⟨Nat,fun k=>[.v (.int .i64 k)],fun k=>⟨g,[.mp 1 qm .i64 (qfI (w.limbo.take k)),.blk 0 q0 qIA [.v (.int .i64 w.epoch),.v (.int .i64 w.current),.v (.int .i64 w.lock),.v (.slice oa w.pins.length ca),.v (.slice ob w.versions.length cb),.v (.slice oc w.listens.length cc),.v (.slice od w.counts.length cd),.v (.slice oe w.limbo.length ce)]],10,g.w.heap.size⟩,fun k=>k≤w.limbo.length∧(w.limbo.take k).all (limB w)=true,fun k=>w.limbo.length-k,fun fr w' hw=>⟨0,rfl,⟨Nat.zero_le _,by simp⟩,hw.fit (by simp [fitL,Res.eqv,qAA,conc,qfI])⟩,?_⟩
  rintro k ⟨hk,hp⟩
  repeat((conv=>whnf);first|apply qza|apply qzb|apply qzc|apply qzd|apply qze|intro(_:Nat))
  conv=>whnf
  refine⟨fun hlt=>?_,fun hlt=>?_⟩
  ·have h':k<w.limbo.length:=by have:=of_decide_eq_true hlt;omega
   obtain⟨x,hx⟩:=qBA h'
   obtain⟨a,rfl,ec,hec,⟨rfl,xr1,xr2⟩,hc⟩:=hR1 k x hx
   obtain⟨x1,x2⟩:=List.getElem?_eq_some_iff.1 hx
   have hT:(w.limbo.take (k+1)).all (limB w)=limB w x:=by rw [q8F x1,hp,x2];rfl
   have hF:=qaK hx
   repeat((conv=>whnf);first|apply qza|apply qzb|apply qzc|apply qzd|apply qze|intro(_:Nat))
   conv=>whnf
   refine⟨a,rfl,⟨by omega,by omega⟩,?_⟩
   conv=>whnf
   refine⟨_,⟨rfl,hc⟩,?_⟩
   repeat((conv=>whnf);first|apply qza|apply qzb|apply qzc|apply qzd|apply qze|intro(_:Nat))
   conv=>whnf
   refine⟨fun y1=>?_,fun y1=>?_⟩
   ·repeat((conv=>whnf);first|apply qza|apply qzb|apply qzc|apply qzd|apply qze|intro(_:Nat))
    conv=>whnf
    intro g2 hg
    have y1':=of_decide_eq_true y1
    rw [qYI fun h=>by have h4:=h.2.2.2.1;rw [qaC x1 (by rw [x2];unfold limB;rw [decide_eq_false (by omega)];rfl)] at h4;cases h4]
   have y1':=of_decide_eq_false y1
   repeat((conv=>whnf);first|apply qza|apply qzb|apply qzc|apply qzd|apply qze|intro(_:Nat))
   conv=>whnf
   refine⟨fun y2=>?_,fun y2=>?_⟩
   ·repeat((conv=>whnf);first|apply qza|apply qzb|apply qzc|apply qzd|apply qze|intro(_:Nat))
    conv=>whnf
    intro g2 hg
    have y2':=beqT y2
    rw [qYI fun h=>by have h4:=h.2.2.2.1;rw [qaC x1 (by rw [x2];unfold limB;rw [decide_eq_false (show ¬ x.version≠w.current by simpa using y2')];simp)] at h4;cases h4]
   have y2':=beqF y2
   repeat((conv=>whnf);first|apply qza|apply qzb|apply qzc|apply qzd|apply qze|intro(_:Nat))
   conv=>whnf
   refine⟨fun y3=>?_,fun y3=>?_⟩
   ·repeat((conv=>whnf);first|apply qza|apply qzb|apply qzc|apply qzd|apply qze|intro(_:Nat))
    conv=>whnf
    intro g2 hg
    have y3':=of_decide_eq_true y3
    rw [qYI fun h=>by have h4:=h.2.2.2.1;rw [qaC x1 (by rw [x2];unfold limB;rw [decide_eq_false (show ¬ x.at_≤w.epoch by omega)];simp)] at h4;cases h4]
   have y3':=of_decide_eq_false y3
   repeat((conv=>whnf);first|apply qza|apply qzb|apply qzc|apply qzd|apply qze|intro(_:Nat))
   conv=>whnf
   refine fun fr w' hw=>⟨k+1,congrArg (fun z=>[Value.int .i64 z]) (wr1 h' e1 e2).symm,⟨h',by rw [hT];unfold limB;rw [decide_eq_true (show x.version<w.versions.length by omega),decide_eq_true y2',decide_eq_true (show x.at_≤w.epoch by omega)];rfl⟩,dec h',hw.fit ?_⟩
   simp only [hF]
   simp [fitL,Res.eqv,qAA,conc]
  have hkL:=of_decide_eq_false hlt
  rw [List.take_of_length_le (by omega)] at hp
  obtain rfl:k=w.limbo.length:=by omega
  have hlk:=fun n=>qbK (n:=n) (qeR k4) (Nat.le_refl w.limbo.length)
  rw [List.take_length] at hlk
  simp only [List.take_length]
  clear hlt hkL hk
  repeat((conv=>whnf);first|apply qza|apply qzb|apply qzc|apply qzd|apply qze|intro(_:Nat))
  conv=>whnf
  refine⟨Nat,fun k=>[.v (.int .i64 k)],fun _=>⟨g,[.mp 1 qm .i64 (qfI w.limbo),.blk 0 q0 qIA [.v (.int .i64 w.epoch),.v (.int .i64 w.current),.v (.int .i64 w.lock),.v (.slice oa w.pins.length ca),.v (.slice ob w.versions.length cb),.v (.slice oc w.listens.length cc),.v (.slice od w.counts.length cd),.v (.slice oe w.limbo.length ce)]],10,g.w.heap.size⟩,fun k=>k≤w.versions.length∧AllK (verB w) w.versions k,fun k=>w.versions.length-k,fun fr w' hw=>⟨0,rfl,⟨Nat.zero_le _,AllK.zero _ _⟩,hw.fit (by simp [fitL,Res.eqv,qAA,conc])⟩,?_⟩
  rintro k ⟨hk,hq⟩
  repeat((conv=>whnf);first|apply qza|apply qzb|apply qzc|apply qzd|apply qze|intro(_:Nat))
  conv=>whnf
  refine⟨fun hlt=>?_,fun hlt=>?_⟩
  ·have h':k<w.versions.length:=by have:=of_decide_eq_true hlt;omega
   obtain⟨x,hx⟩:=qBA h'
   obtain⟨a,rfl,ec,hec,hxv,hc⟩:=hV1 k x hx
   have hxv0:=hxv
   obtain⟨va,vb,vd,vn,rfl,⟨_,_,_,hee,⟨oa',ca',rfl,_⟩,⟨ob',cb',rfl,_⟩,⟨od',cd',rfl,_⟩⟩,⟨on',cn',rfl,_⟩⟩:=hxv
   cases hee
   repeat((conv=>whnf);first|apply qza|apply qzb|apply qzc|apply qzd|apply qze|intro(_:Nat))
   conv=>whnf
   refine⟨a,rfl,⟨by omega,by omega⟩,?_⟩
   conv=>whnf
   refine⟨_,⟨rfl,hc⟩,?_⟩
   repeat((conv=>whnf);first|apply qza|apply qzb|apply qzc|apply qzd|apply qze|intro(_:Nat))
   conv=>whnf
   refine .inl ⟨_,qnN _ hxv0 (hsn x (List.mem_of_getElem? hx)),?_⟩
   repeat((conv=>whnf);first|apply qza|apply qzb|apply qzc|apply qzd|apply qze|intro(_:Nat))
   conv=>whnf
   refine⟨fun y1=>?_,fun y1=>?_⟩
   ·repeat((conv=>whnf);first|apply qza|apply qzb|apply qzc|apply qzd|apply qze|intro(_:Nat))
    conv=>whnf
    intro g2 hg
    rw [qYI fun h=>by have h4:=h.2.2.2.2.1;rw [q5A hx (by unfold verB;rw [nb1 y1];rfl)] at h4;cases h4]
   repeat((conv=>whnf);first|apply qza|apply qzb|apply qzc|apply qzd|apply qze|intro(_:Nat))
   rcases ho:mGet (k:Int) (qfI w.limbo) with _|u
   ·have hl0:=hlk (k:Int)
    rw [ho] at hl0
    simp only [qlM,Value.bool.injEq] at hl0
    conv=>whnf
    refine⟨none,rfl,?_⟩
    repeat((conv=>whnf);first|apply qza|apply qzb|apply qzc|apply qzd|apply qze|intro(_:Nat))
    conv=>whnf
    refine⟨fun y2=>?_,fun y2=>?_⟩
    ·repeat((conv=>whnf);first|apply qza|apply qzb|apply qzc|apply qzd|apply qze|intro(_:Nat))
     conv=>whnf
     intro g2 hg
     rw [qYI fun h=>by have h4:=h.2.2.2.2.1;rw [q5A hx (by unfold verB;rw [nb0 y1,← hl0];simpa using y2)] at h4;cases h4]
    repeat((conv=>whnf);first|apply qza|apply qzb|apply qzc|apply qzd|apply qze|intro(_:Nat))
    conv=>whnf
    refine fun fr w' hw=>⟨k+1,congrArg (fun z=>[Value.int .i64 z]) (wr1 h' b1 b2).symm,⟨h',hq.succ hx (by unfold verB;rw [nb0 y1,← hl0];simpa using y2)⟩,dec h',?_⟩
    exact hw.fit (by simp [fitL,Res.eqv,qAA,conc])
   ·have hl0:=hlk (k:Int)
    rw [ho] at hl0
    simp only [qlM] at hl0
    subst hl0
    conv=>whnf
    refine⟨_,rfl,?_⟩
    repeat((conv=>whnf);first|apply qza|apply qzb|apply qzc|apply qzd|apply qze|intro(_:Nat))
    conv=>whnf
    refine⟨fun y2=>?_,fun y2=>?_⟩
    ·repeat((conv=>whnf);first|apply qza|apply qzb|apply qzc|apply qzd|apply qze|intro(_:Nat))
     conv=>whnf
     intro g2 hg
     rw [qYI fun h=>by have h4:=h.2.2.2.2.1;rw [q5A hx (by unfold verB;rw [nb0 y1];simpa using y2)] at h4;cases h4]
    repeat((conv=>whnf);first|apply qza|apply qzb|apply qzc|apply qzd|apply qze|intro(_:Nat))
    conv=>whnf
    refine fun fr w' hw=>⟨k+1,congrArg (fun z=>[Value.int .i64 z]) (wr1 h' b1 b2).symm,⟨h',hq.succ hx (by unfold verB;rw [nb0 y1];simpa using y2)⟩,dec h',?_⟩
    exact hw.fit (by simp [fitL,Res.eqv,qAA,conc])
  have hqD:=hq.done (by have:=of_decide_eq_false hlt;omega)
  clear hlt hk hq
  repeat((conv=>whnf);first|apply qza|apply qzb|apply qzc|apply qzd|apply qze|intro(_:Nat))
  conv=>whnf
  refine⟨Nat,fun k=>[.v (.int .i64 k)],fun _=>⟨g,[.mp 1 qm .i64 (qfI w.limbo),.blk 0 q0 qIA [.v (.int .i64 w.epoch),.v (.int .i64 w.current),.v (.int .i64 w.lock),.v (.slice oa w.pins.length ca),.v (.slice ob w.versions.length cb),.v (.slice oc w.listens.length cc),.v (.slice od w.counts.length cd),.v (.slice oe w.limbo.length ce)]],10,g.w.heap.size⟩,fun k=>k≤w.listens.length∧AllK (qsB w.listens) w.listens k,fun k=>w.listens.length-k,fun fr w' hw=>⟨0,rfl,⟨Nat.zero_le _,AllK.zero _ _⟩,hw.fit (by simp [fitL,Res.eqv,qAA,conc])⟩,?_⟩
  rintro k ⟨hk,hq⟩
  repeat((conv=>whnf);first|apply qza|apply qzb|apply qzc|apply qzd|apply qze|intro(_:Nat))
  conv=>whnf
  refine⟨fun hlt=>?_,fun hlt=>?_⟩
  ·have h':k<w.listens.length:=by have:=of_decide_eq_true hlt;omega
   obtain⟨x,hx⟩:=qBA h'
   obtain⟨a,rfl,ec,hec,⟨rfl,hxa⟩,hc⟩:=hL1 k x hx
   repeat((conv=>whnf);first|apply qza|apply qzb|apply qzc|apply qzd|apply qze|intro(_:Nat))
   conv=>whnf
   refine⟨a,rfl,⟨by omega,by omega⟩,?_⟩
   conv=>whnf
   refine⟨_,⟨rfl,hc⟩,?_⟩
   repeat((conv=>whnf);first|apply qza|apply qzb|apply qzc|apply qzd|apply qze|intro(_:Nat))
   conv=>whnf
   refine .inl ⟨_,qST _ (x:=x) ⟨rfl,hxa⟩,?_⟩
   repeat((conv=>whnf);first|apply qza|apply qzb|apply qzc|apply qzd|apply qze|intro(_:Nat))
   conv=>whnf
   refine⟨fun y1=>?_,fun y1=>?_⟩
   ·repeat((conv=>whnf);first|apply qza|apply qzb|apply qzc|apply qzd|apply qze|intro(_:Nat))
    conv=>whnf
    intro g2 hg
    rw [qYI fun h=>by have h4:=h.2.2.2.2.2;rw [q5A hx (by unfold qsB;rw [nb1 y1];rfl)] at h4;cases h4]
   repeat((conv=>whnf);first|apply qza|apply qzb|apply qzc|apply qzd|apply qze|intro(_:Nat))
   conv=>whnf
   refine .inl ⟨_,qIJ _ hL _,?_⟩
   repeat((conv=>whnf);first|apply qza|apply qzb|apply qzc|apply qzd|apply qze|intro(_:Nat))
   conv=>whnf
   refine⟨fun y2=>?_,fun y2=>?_⟩
   ·repeat((conv=>whnf);first|apply qza|apply qzb|apply qzc|apply qzd|apply qze|intro(_:Nat))
    conv=>whnf
    intro g2 hg
    rw [qYI fun h=>by have h4:=h.2.2.2.2.2;rw [q5A hx (by unfold qsB;rw [decide_eq_false (bneT y2)];simp)] at h4;cases h4]
   repeat((conv=>whnf);first|apply qza|apply qzb|apply qzc|apply qzd|apply qze|intro(_:Nat))
   conv=>whnf
   refine fun fr w' hw=>⟨k+1,congrArg (fun z=>[Value.int .i64 z]) (wr1 h' c1 c2).symm,⟨h',hq.succ hx (by unfold qsB;rw [nb0 y1,decide_eq_true (bneF y2)];rfl)⟩,dec h',?_⟩
   exact hw.fit (by simp [fitL,Res.eqv,qAA,conc])
  have hrD:=hq.done (by have:=of_decide_eq_false hlt;omega)
  repeat((conv=>whnf);first|apply qza|apply qzb|apply qzc|apply qzd|apply qze|intro(_:Nat))
  conv=>whnf
  intro g2 hg
  rw [wdB_iff.2 ⟨k1,⟨by omega,by omega⟩,k4,hp,hqD,hrD⟩])
/- Worlds: is one right? The document's answer. -/
open Go.Proofs.YtkbbljngpglnkaaGreat.Sx Go.RowKit
/- Worlds: how many slots are held. -/
open Go.Proofs.YtkbbljngpglnkaaGreat.Sx Go.RowKit
end Go.Proofs.YtkbbljngpglnkaaGreat
