/- Worlds: limbo, listeners, counts: are they right? -/
import Derived.Test.YthonngjhelcpeaaGreatLB1
import Derived.Test.YthonngjhelcpeaaGreatPl
import Derived.Test.YthonngjhelcpeaaGreatLS7b
set_option linter.unusedVariables false
set_option linter.unusedSimpArgs false
namespace Go.Proofs.YthonngjhelcpeaaGreat
open Go.Proofs.YthonngjhelcpeaaGreat.Sx Go.RowKit
set_option maxHeartbeats 16000000
set_option maxRecDepth 100000
def tPl:List (Nat×FnI):=[(qnB,qjA),(q5M,qaH)]
theorem qmX:qdH Tryz.prog tPl:=by
 intro x hx
 simp only [tPl,List.mem_cons,List.not_mem_nil,or_false] at hx
 rcases hx with rfl|rfl
 ·exact⟨_,_,qmB⟩
 ·exact⟨_,_,qcM⟩
theorem qMK (g:GW) {v:Value} {l:List Listen} (hl:rSl 4 qHB g v l) (s:BA):OkV Tryz.prog qOP [v,.string s] g (.int .i64 (qMB l s)) :=
 Ok.of_fn hm qmX 2 qsO (args:=[.v v,.v (.string s)]) (by
  obtain⟨oa,cap,rfl,h1,h2,h0,hr⟩:=hl
  repeat((conv=>whnf);first|refine qz ?_|intro(_:Nat))
  conv=>whnf
  refine⟨Nat,fun k=>[.v (.int .i64 k)],fun k=>⟨g,[.blk 0 _ _ [.v (.string s)]],_,_⟩,fun k=>k≤l.length∧Pass (idxF fun (x:Listen)=>bs x.name==bs s) l k,fun k=>l.length-k,qFA 0 rfl ⟨Nat.zero_le _,Pass.zero _ _⟩ rfl,?_⟩
  rintro k ⟨hk,hp⟩
  conv=>whnf
  refine⟨fun hlt=>?_,fun hlt=>?_⟩
  ·have h':k<l.length:=by have:=of_decide_eq_true hlt;omega
   obtain⟨x,hx⟩:=qAA h'
   obtain⟨a,rfl,ec,hec,⟨rfl,_⟩,hc⟩:=hr k x hx
   conv=>whnf
   refine⟨a,rfl,⟨by omega,by omega⟩,?_⟩
   conv=>whnf
   refine⟨_,⟨rfl,hc⟩,?_⟩
   conv=>whnf
   refine⟨qCN,?_⟩
   repeat((conv=>whnf);first|refine qz ?_|intro(_:Nat))
   conv=>whnf
   refine⟨fun he=>?_,fun he=>?_⟩
   ·conv=>whnf
    intro g2 hg
    rw [qMB,qBE hp hx he]
   ·conv=>whnf
    refine fun fr w hw=>⟨k+1,congrArg (fun z=>[Value.int .i64 z]) (wr1 h' h1 h2).symm,⟨h',qAE hp hx he⟩,dec h',?_⟩
    exact hw.fit (by simp [fitL,Res.eqv,qBA,conc])
  ·conv=>whnf
   intro g2 hg
   have:=of_decide_eq_false hlt
   rw [qMB,qCD hp (by omega)])
theorem qYU (g:GW) {v:Value} {l:List Listen} (hl:rSl 4 qHB g v l) (s:BA):OkV Tryz.prog qBI [v,.string s] g (.int .i64 (qMB l s)) :=
 Ok.of_fn hm noT 0 qrH (args:=[.v v,.v (.string s)]) (by
  obtain⟨oa,cap,rfl,h1,h2,h0,hr⟩:=hl
  repeat((conv=>whnf);first|refine qz ?_|intro(_:Nat))
  conv=>whnf
  refine⟨Nat,fun k=>[.v (.int .i64 k)],fun k=>⟨g,[],_,_⟩,fun k=>k≤l.length∧Pass (idxF fun (x:Listen)=>bs x.name==bs s) l k,fun k=>l.length-k,qFA 0 rfl ⟨Nat.zero_le _,Pass.zero _ _⟩ rfl,?_⟩
  rintro k ⟨hk,hp⟩
  repeat((conv=>whnf);first|refine qz ?_|intro(_:Nat))
  conv=>whnf
  refine⟨fun hlt=>?_,fun hlt=>?_⟩
  ·have h':k<l.length:=by have:=of_decide_eq_true hlt;omega
   obtain⟨x,hx⟩:=qAA h'
   obtain⟨a,rfl,ec,hec,⟨rfl,_⟩,hc⟩:=hr k x hx
   repeat((conv=>whnf);first|refine qz ?_|intro(_:Nat))
   conv=>whnf
   refine⟨a,rfl,⟨by omega,by omega⟩,?_⟩
   conv=>whnf
   refine⟨_,hc 0 _ rfl,?_⟩
   repeat((conv=>whnf);first|refine qz ?_|intro(_:Nat))
   conv=>whnf
   refine⟨fun he=>?_,fun he=>?_⟩
   ·repeat((conv=>whnf);first|refine qz ?_|intro(_:Nat))
    conv=>whnf
    intro g2 hg
    rw [qMB,qBE hp hx he]
   ·repeat((conv=>whnf);first|refine qz ?_|intro(_:Nat))
    conv=>whnf
    refine fun fr w hw=>⟨k+1,congrArg (fun z=>[Value.int .i64 z]) (wr1 h' h1 h2).symm,⟨h',qAE hp hx he⟩,dec h',?_⟩
    exact hw.fit (by simp [fitL,Res.eqv,qBA,conc])
  ·repeat((conv=>whnf);first|refine qz ?_|intro(_:Nat))
   conv=>whnf
   intro g2 hg
   have:=of_decide_eq_false hlt
   rw [qMB,qCD hp (by omega)])
theorem qAY (g:GW) {cs:List Value} {x:Listen} (hx:qHB g cs x):OkV Tryz.prog qgT [.agg ⟨cs⟩] g (.bool (qrN x)):=by
 obtain⟨rfl,hA⟩:=hx
 exact Ok.of_fn hm noT 0 qBT (args:=[.v (.agg ⟨[.string x.name,.bool x.drain,.int .i64 x.active,.bool x.closed]⟩)]) (by
  repeat((conv=>whnf);first|refine qz ?_|intro(_:Nat))
  repeat'((conv=>whnf);first|apply qza|apply qzb|apply qzc|apply qzd|apply qze|intro(_:Nat)|refine .inl ⟨_,qGJ _ _,?_⟩|refine⟨fun _=>?_,fun _=>?_⟩|fail)
  all_goals (conv=>whnf)
  all_goals (intro g2 hg)
  all_goals (unfold qrN;simp_all;try (intros;omega)))
theorem qvW (g:GW) {cs:List Value} {x:Listen} (hx:qHB g cs x):OkV Tryz.prog qXL [.agg ⟨cs⟩] g (.bool (qrN x)):=by
 obtain⟨rfl,hA⟩:=hx
 exact Ok.of_fn hm noT 0 qCL (args:=[.v (.agg ⟨[.string x.name,.bool x.drain,.int .i64 x.active,.bool x.closed]⟩)]) (by
  repeat((conv=>whnf);first|refine qz ?_|intro(_:Nat))
  repeat'((conv=>whnf);first|apply qza|apply qzb|apply qzc|apply qzd|apply qze|intro(_:Nat)|refine .inl ⟨_,qMM _ _,?_⟩|refine⟨fun _=>?_,fun _=>?_⟩|fail)
  all_goals (conv=>whnf)
  all_goals (intro g2 hg)
  all_goals (unfold qrN;simp_all;try (intros;omega)))
theorem q8N {c:List (List Int)} {r:List Int} (hr:r∈c) (h:r.length≠6):qvD c=false:=by
 unfold qvD
 rw [show(c.all fun r=>decide (r.length=6))=false from List.all_eq_false.2 ⟨r,hr,by simpa using h⟩];rfl
theorem q9X (g:GW) {v:Value} {l:List (List Int)} (hl:rSl 1 rRow g v l):OkV Tryz.prog qdT [v] g (.bool (qvD l)) :=
 Ok.of_fn hm noT 0 q8S (args:=[.v v]) (by
  obtain⟨oa,cap,rfl,h1,h2,h0,hr⟩:=hl
  repeat((conv=>whnf);first|refine qz ?_|intro(_:Nat))
  conv=>whnf
  refine⟨Nat,fun k=>[.v (.int .i64 k)],fun k=>⟨g,[],_,_⟩,fun k=>k≤l.length∧(l.take k).all (fun r=>decide (r.length=6))=true,fun k=>l.length-k,qFA 0 rfl ⟨Nat.zero_le _,by simp⟩ rfl,?_⟩
  rintro k ⟨hk,hp⟩
  repeat((conv=>whnf);first|refine qz ?_|intro(_:Nat))
  conv=>whnf
  refine⟨fun hlt=>?_,fun hlt=>?_⟩
  ·have h':k<l.length:=by have:=of_decide_eq_true hlt;omega
   obtain⟨x,hx⟩:=qAA h'
   obtain⟨a,rfl,ec,hec,⟨n,rfl,hn⟩,hc⟩:=hr k x hx
   obtain⟨ox,cx,rfl,x1,x2,x0,hx1⟩:=id hn
   repeat((conv=>whnf);first|refine qz ?_|intro(_:Nat))
   conv=>whnf
   refine⟨a,rfl,⟨by omega,by omega⟩,?_⟩
   conv=>whnf
   refine⟨_,hc 0 _ rfl,?_⟩
   repeat((conv=>whnf);first|refine qz ?_|intro(_:Nat))
   conv=>whnf
   refine⟨fun he=>?_,fun he=>?_⟩
   ·repeat((conv=>whnf);first|refine qz ?_|intro(_:Nat))
    conv=>whnf
    intro g2 hg
    rw [q8N (List.mem_of_getElem? hx) (by have h9:(x.length:Int)≠6:=bneT he;omega)]
   ·repeat((conv=>whnf);first|refine qz ?_|intro(_:Nat))
    conv=>whnf
    refine fun fr w hw=>⟨k+1,congrArg (fun z=>[Value.int .i64 z]) (wr1 h' h1 h2).symm,⟨h',?_⟩,dec h',hw⟩
    obtain⟨c1,c2⟩:=List.getElem?_eq_some_iff.1 hx
    rw [qCC c1,hp,c2]
    have:(x.length:Int)=6:=by simpa using he
    simp;omega
  ·have hkL:=of_decide_eq_false hlt
   rw [List.take_of_length_le (by omega)] at hp
   repeat((conv=>whnf);first|refine qz ?_|intro(_:Nat))
   conv=>whnf
   refine⟨fun hz=>?_,fun hz=>?_⟩
   ·repeat((conv=>whnf);first|refine qz ?_|intro(_:Nat))
    conv=>whnf
    intro g2 hg
    have:=of_decide_eq_true hz
    unfold qvD
    rw [hp,decide_eq_true (show 1≤l.length by omega)];simp;omega
   ·repeat((conv=>whnf);first|refine qz ?_|intro(_:Nat))
    conv=>whnf
    intro g2 hg
    have:=of_decide_eq_false hz
    unfold qvD
    rw [hp,decide_eq_false (show ¬ 1≤l.length by omega)];rfl)
theorem quW (g:GW) {v:Value} {l:List (List Int)} (hl:rSl 1 rRow g v l):OkV Tryz.prog qaL [v] g (.bool (qvD l)) :=
 Ok.of_fn hm noT 0 qFL (args:=[.v v]) (by
  obtain⟨oa,cap,rfl,h1,h2,h0,hr⟩:=hl
  repeat((conv=>whnf);first|refine qz ?_|intro(_:Nat))
  conv=>whnf
  refine⟨Nat,fun k=>[.v (.int .i64 k)],fun k=>⟨g,[],_,_⟩,fun k=>k≤l.length∧(l.take k).all (fun r=>decide (r.length=6))=true,fun k=>l.length-k,qFA 0 rfl ⟨Nat.zero_le _,by simp⟩ rfl,?_⟩
  rintro k ⟨hk,hp⟩
  repeat((conv=>whnf);first|refine qz ?_|intro(_:Nat))
  conv=>whnf
  refine⟨fun hlt=>?_,fun hlt=>?_⟩
  ·have h':k<l.length:=by have:=of_decide_eq_true hlt;omega
   obtain⟨x,hx⟩:=qAA h'
   obtain⟨a,rfl,ec,hec,⟨n,rfl,hn⟩,hc⟩:=hr k x hx
   obtain⟨ox,cx,rfl,x1,x2,x0,hx1⟩:=id hn
   repeat((conv=>whnf);first|refine qz ?_|intro(_:Nat))
   conv=>whnf
   refine⟨a,rfl,⟨by omega,by omega⟩,?_⟩
   conv=>whnf
   refine⟨_,hc 0 _ rfl,?_⟩
   repeat((conv=>whnf);first|refine qz ?_|intro(_:Nat))
   conv=>whnf
   refine⟨fun he=>?_,fun he=>?_⟩
   ·repeat((conv=>whnf);first|refine qz ?_|intro(_:Nat))
    conv=>whnf
    intro g2 hg
    rw [q8N (List.mem_of_getElem? hx) (by have h9:(x.length:Int)≠6:=bneT he;omega)]
   ·repeat((conv=>whnf);first|refine qz ?_|intro(_:Nat))
    conv=>whnf
    refine fun fr w hw=>⟨k+1,congrArg (fun z=>[Value.int .i64 z]) (wr1 h' h1 h2).symm,⟨h',?_⟩,dec h',hw⟩
    obtain⟨c1,c2⟩:=List.getElem?_eq_some_iff.1 hx
    rw [qCC c1,hp,c2]
    have:(x.length:Int)=6:=by simpa using he
    simp;omega
  ·have hkL:=of_decide_eq_false hlt
   rw [List.take_of_length_le (by omega)] at hp
   repeat((conv=>whnf);first|refine qz ?_|intro(_:Nat))
   conv=>whnf
   refine⟨fun hz=>?_,fun hz=>?_⟩
   ·repeat((conv=>whnf);first|refine qz ?_|intro(_:Nat))
    conv=>whnf
    intro g2 hg
    have:=of_decide_eq_true hz
    unfold qvD
    rw [hp,decide_eq_true (show 1≤l.length by omega)];simp;omega
   ·repeat((conv=>whnf);first|refine qz ?_|intro(_:Nat))
    conv=>whnf
    intro g2 hg
    have:=of_decide_eq_false hz
    unfold qvD
    rw [hp,decide_eq_false (show ¬ 1≤l.length by omega)];rfl)
/- Worlds: limbo: is it right? -/
open Go.Proofs.YthonngjhelcpeaaGreat.Sx Go.RowKit
def tLh:List (Nat×FnI):=[(qIB,qaA),(qbB,qfA),(qLP,qoK)]
theorem qoX:qdH Tryz.prog tLh:=by
 intro x hx
 simp only [tLh,List.mem_cons,List.not_mem_nil,or_false] at hx
 rcases hx with rfl|rfl|rfl
 ·exact⟨_,_,qEB⟩
 ·exact⟨_,_,qZB⟩
 ·exact⟨_,_,qpO⟩
theorem qyW (g:GW) {v:Value} {l:List Retired} (hl:rSl 3 qtA g v l) (n:Int):OkV Tryz.prog q6R [v,.int .i64 n] g (.bool (l.any fun r=>r.version==n)) :=
 Ok.of_fn hm qoX 3 qYR (args:=[.v v,.v (.int .i64 n)]) (by
  obtain⟨oa,cap,rfl,h1,h2,h0,hr⟩:=hl
  repeat((conv=>whnf);first|refine qz ?_|intro(_:Nat))
  conv=>whnf
  refine⟨Nat,fun k=>[.v (.int .i64 k)],fun k=>⟨g,[.blk 0 _ _ [.v (.int .i64 n)]],_,_⟩,fun k=>k≤l.length∧Pass (idxF fun (x:Retired)=>x.version==n) l k,fun k=>l.length-k,qFA 0 rfl ⟨Nat.zero_le _,Pass.zero _ _⟩ rfl,?_⟩
  rintro k ⟨hk,hp⟩
  conv=>whnf
  refine⟨fun hlt=>?_,fun hlt=>?_⟩
  ·have h':k<l.length:=by have:=of_decide_eq_true hlt;omega
   obtain⟨x,hx⟩:=qAA h'
   obtain⟨a,rfl,ec,hec,⟨rfl,_⟩,hc⟩:=hr k x hx
   conv=>whnf
   refine⟨a,rfl,⟨by omega,by omega⟩,?_⟩
   conv=>whnf
   refine⟨_,⟨rfl,hc⟩,?_⟩
   conv=>whnf
   refine⟨qWP,?_⟩
   repeat((conv=>whnf);first|refine qz ?_|intro(_:Nat))
   conv=>whnf
   refine⟨fun he=>?_,fun he=>?_⟩
   ·conv=>whnf
    intro g2 hg
    have:(l.any fun r=>r.version==n)=true:=List.any_eq_true.2 ⟨x,List.mem_of_getElem? hx,he⟩
    rw [this];simp
   ·conv=>whnf
    refine fun fr w hw=>⟨k+1,congrArg (fun z=>[Value.int .i64 z]) (wr1 h' h1 h2).symm,⟨h',qAE hp hx he⟩,dec h',?_⟩
    exact hw.fit (by simp [fitL,Res.eqv,qBA,conc])
  ·conv=>whnf
   intro g2 hg
   have:=of_decide_eq_false hlt
   have h3:=qXP (fun (x:Retired)=>x.version==n) l
   rw [qCD hp (by omega)] at h3
   rw [← h3])
theorem qzX (g:GW) {v:Value} {l:List Retired} (hl:rSl 3 qtA g v l):OkV Tryz.prog qfT [v] g (.bool (qNG l)) :=
 Ok.of_fn hm noT 0 qAT (args:=[.v v]) (by
  obtain⟨oa,cap,rfl,h1,h2,h0,hr⟩:=id hl
  repeat((conv=>whnf);first|refine qz ?_|intro(_:Nat))
  conv=>whnf
  refine⟨Nat,fun k=>[.v (.int .i64 k)],fun k=>⟨g,[],_,_⟩,fun k=>k≤l.length∧AllK (retB l) l k,fun k=>l.length-k,qFA 0 rfl ⟨Nat.zero_le _,AllK.zero _ _⟩ rfl,?_⟩
  rintro k ⟨hk,hp⟩
  conv=>whnf
  refine⟨fun hlt=>?_,fun hlt=>?_⟩
  ·have h':k<l.length:=by have:=of_decide_eq_true hlt;omega
   obtain⟨x,hx⟩:=qAA h'
   obtain⟨a,rfl,ec,hec,⟨rfl,_⟩,hc⟩:=hr k x hx
   repeat((conv=>whnf);first|refine qz ?_|intro(_:Nat))
   conv=>whnf
   refine⟨a,rfl,⟨by omega,by omega⟩,?_⟩
   conv=>whnf
   refine⟨_,⟨rfl,hc⟩,?_⟩
   repeat((conv=>whnf);first|refine qz ?_|intro(_:Nat))
   conv=>whnf
   refine⟨fun b1=>?_,fun b1=>?_⟩
   ·repeat((conv=>whnf);first|refine qz ?_|intro(_:Nat))
    conv=>whnf
    intro g2 hg
    have b1':=of_decide_eq_true b1
    exact congrArg Value.bool (qWA hx (by unfold retB;rw [decide_eq_false (by omega)];rfl)).symm
   ·have b1':=of_decide_eq_false b1
    repeat((conv=>whnf);first|refine qz ?_|intro(_:Nat))
    conv=>whnf
    refine⟨fun b2=>?_,fun b2=>?_⟩
    ·repeat((conv=>whnf);first|refine qz ?_|intro(_:Nat))
     conv=>whnf
     intro g2 hg
     have b2':=of_decide_eq_true b2
     exact congrArg Value.bool (qWA hx (by unfold retB;rw [decide_eq_false (show ¬ 0≤x.at_ by omega)];simp)).symm
    ·have b2':=of_decide_eq_false b2
     repeat((conv=>whnf);first|refine qz ?_|intro(_:Nat))
     conv=>whnf
     refine⟨⟨by omega,by omega⟩,?_⟩
     repeat((conv=>whnf);first|refine qz ?_|intro(_:Nat))
     conv=>whnf
     refine .inl ⟨_,qyW _ (rSl.take hl hk) _,?_⟩
     repeat((conv=>whnf);first|refine qz ?_|intro(_:Nat))
     conv=>whnf
     refine⟨fun b3=>?_,fun b3=>?_⟩
     ·repeat((conv=>whnf);first|refine qz ?_|intro(_:Nat))
      conv=>whnf
      intro g2 hg
      exact congrArg Value.bool (qWA hx (by unfold retB;rw [b3];simp)).symm
     ·repeat((conv=>whnf);first|refine qz ?_|intro(_:Nat))
      conv=>whnf
      refine fun fr w hw=>⟨k+1,congrArg (fun z=>[Value.int .i64 z]) (wr1 h' h1 h2).symm,⟨h',hp.succ hx ?_⟩,dec h',?_⟩
      ·unfold retB
       rw [b3,decide_eq_true (show 0≤x.version by omega),decide_eq_true (show 0≤x.at_ by omega)];rfl
      ·exact hw.fit (by simp [fitL,Res.eqv,qBA,conc])
  ·repeat((conv=>whnf);first|refine qz ?_|intro(_:Nat))
   conv=>whnf
   intro g2 hg
   have:=of_decide_eq_false hlt
   exact congrArg Value.bool (hp.done (by omega)).symm)
theorem qoR (g:GW) {v:Value} {l:List Retired} (hl:rSl 3 qtA g v l) (n:Int):OkV Tryz.prog qCI [v,.int .i64 n] g (.int .i64 (idxI (idxO (fun r=>r.version==n) l))) :=
 Ok.of_fn hm noT 0 qsH (args:=[.v v,.v (.int .i64 n)]) (by
  obtain⟨oa,cap,rfl,h1,h2,h0,hr⟩:=hl
  repeat((conv=>whnf);first|refine qz ?_|intro(_:Nat))
  conv=>whnf
  refine⟨Nat,fun k=>[.v (.int .i64 k)],fun k=>⟨g,[],_,_⟩,fun k=>k≤l.length∧Pass (idxF fun (x:Retired)=>x.version==n) l k,fun k=>l.length-k,qFA 0 rfl ⟨Nat.zero_le _,Pass.zero _ _⟩ rfl,?_⟩
  rintro k ⟨hk,hp⟩
  repeat((conv=>whnf);first|refine qz ?_|intro(_:Nat))
  conv=>whnf
  refine⟨fun hlt=>?_,fun hlt=>?_⟩
  ·have h':k<l.length:=by have:=of_decide_eq_true hlt;omega
   obtain⟨x,hx⟩:=qAA h'
   obtain⟨a,rfl,ec,hec,⟨rfl,_⟩,hc⟩:=hr k x hx
   repeat((conv=>whnf);first|refine qz ?_|intro(_:Nat))
   conv=>whnf
   refine⟨a,rfl,⟨by omega,by omega⟩,?_⟩
   conv=>whnf
   refine⟨_,hc 0 _ rfl,?_⟩
   repeat((conv=>whnf);first|refine qz ?_|intro(_:Nat))
   conv=>whnf
   refine⟨fun he=>?_,fun he=>?_⟩
   ·repeat((conv=>whnf);first|refine qz ?_|intro(_:Nat))
    conv=>whnf
    intro g2 hg
    rw [qBE hp hx he]
   ·repeat((conv=>whnf);first|refine qz ?_|intro(_:Nat))
    conv=>whnf
    refine fun fr w hw=>⟨k+1,congrArg (fun z=>[Value.int .i64 z]) (wr1 h' h1 h2).symm,⟨h',qAE hp hx he⟩,dec h',?_⟩
    exact hw.fit (by simp [fitL,Res.eqv,qBA,conc])
  ·repeat((conv=>whnf);first|refine qz ?_|intro(_:Nat))
   conv=>whnf
   intro g2 hg
   have:=of_decide_eq_false hlt
   rw [qCD hp (by omega)])
theorem qDQ {l:List Retired} {k:Nat} {x:Retired} (hx:l[k]?=some x):(idxI (idxO (fun r=>r.version==x.version) l)=k)↔(l.take k).any (fun r=>r.version==x.version)=false:=by
 rw [any_take]
 constructor
 ·intro h j y hj hy
  cases hi:idxO (fun r:Retired=>r.version==x.version) l with
  | none=>rw [hi] at h;simp [idxI] at h
  | some i =>
   obtain⟨z,_,_,h3⟩:=qOH hi
   rw [hi] at h
   have:i=k:=by simp [idxI] at h;omega
   exact h3 j (by omega) y hy
 ·intro h
  refine qBE (fun j hj y hy=>?_) hx (by simp)
  have:=h j y hj hy
  simp [idxF] at this ⊢
  exact this
theorem qtW (g:GW) {v:Value} {l:List Retired} (hl:rSl 3 qtA g v l):OkV Tryz.prog qYL [v] g (.bool (qNG l)) :=
 Ok.of_fn hm noT 0 qDL (args:=[.v v]) (by
  obtain⟨oa,cap,rfl,h1,h2,h0,hr⟩:=id hl
  repeat((conv=>whnf);first|refine qz ?_|intro(_:Nat))
  conv=>whnf
  refine⟨Nat,fun k=>[.v (.int .i64 k)],fun k=>⟨g,[],_,_⟩,fun k=>k≤l.length∧AllK (retB l) l k,fun k=>l.length-k,qFA 0 rfl ⟨Nat.zero_le _,AllK.zero _ _⟩ rfl,?_⟩
  rintro k ⟨hk,hp⟩
  repeat((conv=>whnf);first|refine qz ?_|intro(_:Nat))
  conv=>whnf
  refine⟨fun hlt=>?_,fun hlt=>?_⟩
  ·have h':k<l.length:=by have:=of_decide_eq_true hlt;omega
   obtain⟨x,hx⟩:=qAA h'
   obtain⟨a,rfl,ec,hec,⟨rfl,_⟩,hc⟩:=hr k x hx
   repeat((conv=>whnf);first|refine qz ?_|intro(_:Nat))
   conv=>whnf
   refine⟨a,rfl,⟨by omega,by omega⟩,?_⟩
   conv=>whnf
   refine⟨_,hc 0 _ rfl,?_⟩
   repeat((conv=>whnf);first|refine qz ?_|intro(_:Nat))
   conv=>whnf
   refine⟨fun b1=>?_,fun b1=>?_⟩
   ·repeat((conv=>whnf);first|refine qz ?_|intro(_:Nat))
    conv=>whnf
    intro g2 hg
    have b1':=of_decide_eq_true b1
    exact congrArg Value.bool (qWA hx (by unfold retB;rw [decide_eq_false (by omega)];rfl)).symm
   ·have b1':=of_decide_eq_false b1
    repeat((conv=>whnf);first|refine qz ?_|intro(_:Nat))
    conv=>whnf
    refine⟨a,rfl,⟨by omega,by omega⟩,?_⟩
    conv=>whnf
    refine⟨_,hc 1 _ rfl,?_⟩
    repeat((conv=>whnf);first|refine qz ?_|intro(_:Nat))
    conv=>whnf
    refine⟨fun b2=>?_,fun b2=>?_⟩
    ·repeat((conv=>whnf);first|refine qz ?_|intro(_:Nat))
     conv=>whnf
     intro g2 hg
     have b2':=of_decide_eq_true b2
     exact congrArg Value.bool (qWA hx (by unfold retB;rw [decide_eq_false (show ¬ 0≤x.at_ by omega)];simp)).symm
    ·have b2':=of_decide_eq_false b2
     repeat((conv=>whnf);first|refine qz ?_|intro(_:Nat))
     conv=>whnf
     refine⟨a,rfl,⟨by omega,by omega⟩,?_⟩
     conv=>whnf
     refine⟨_,hc 0 _ rfl,?_⟩
     repeat((conv=>whnf);first|refine qz ?_|intro(_:Nat))
     conv=>whnf
     refine .inl ⟨_,qoR _ hl _,?_⟩
     repeat((conv=>whnf);first|refine qz ?_|intro(_:Nat))
     conv=>whnf
     refine⟨fun b3=>?_,fun b3=>?_⟩
     ·repeat((conv=>whnf);first|refine qz ?_|intro(_:Nat))
      conv=>whnf
      intro g2 hg
      have b3':¬ idxI (idxO (fun r=>r.version==x.version) l)=(k:Int):=by simpa using b3
      refine congrArg Value.bool (qWA hx ?_).symm
      unfold retB
      cases hb:(l.take k).any (fun r=>r.version==x.version) with
      | true=>simp
      | false=>exact absurd ((qDQ hx).2 hb) b3'
     ·repeat((conv=>whnf);first|refine qz ?_|intro(_:Nat))
      conv=>whnf
      refine fun fr w hw=>⟨k+1,congrArg (fun z=>[Value.int .i64 z]) (wr1 h' h1 h2).symm,⟨h',hp.succ hx ?_⟩,dec h',?_⟩
      ·have b3':idxI (idxO (fun r=>r.version==x.version) l)=(k:Int):=by simpa using b3
       unfold retB
       rw [(qDQ hx).1 b3',decide_eq_true (show 0≤x.version by omega),decide_eq_true (show 0≤x.at_ by omega)];rfl
      ·exact hw.fit (by simp [fitL,Res.eqv,qBA,conc])
  ·repeat((conv=>whnf);first|refine qz ?_|intro(_:Nat))
   conv=>whnf
   intro g2 hg
   have:=of_decide_eq_false hlt
   exact congrArg Value.bool (hp.done (by omega)).symm)
/- Worlds: versions: are they right? -/
open Go.Proofs.YthonngjhelcpeaaGreat.Sx Go.RowKit
def tV:List (Nat×FnI):=[(q1B,qrA),(qVC,q2A),(qSL,qUF)]
theorem tV_ok:qdH Tryz.prog tV:=by
 intro x hx
 simp only [tV,List.mem_cons,List.not_mem_nil,or_false] at hx
 rcases hx with rfl|rfl|rfl
 ·exact⟨_,_,qyB⟩
 ·exact⟨_,_,qSC⟩
 ·exact⟨_,_,q7K⟩
theorem qQM {v:Version} (h:eqB (qiA (qaD v.snap)) none=false):qOB v=false:=by unfold qOB;rw [h];rfl
theorem qPM {v:Version} (h:v.groups.length≠v.snap.clusters.length):qOB v=false:=by unfold qOB;rw [decide_eq_false h];simp
theorem qRD {v:Version} {k:Nat} {x:Group} (hx:v.groups[k]?=some x) (h:qTF v.snap.clusters k x=false):qOB v=false:=by unfold qOB;rw [qWA hx h];simp
theorem q5N {v:Version} {k:Nat} (h1:eqB (qiA (qaD v.snap)) none=true) (h2:v.groups.length=v.snap.clusters.length) (h:AllK (qTF v.snap.clusters) v.groups k) (hk:v.groups.length≤k):qOB v=true:=by
 unfold qOB;rw [h1,decide_eq_true h2,h.done hk];rfl
theorem qoL {c:Cluster} {e:EndC}:qxK c e=(endB e&&decide ((e.next.length:Int)=c.slots)):=rfl
theorem qiR (g:GW) {cs:List Value} {x:Version} (hx:rVe g cs x) (hsn:SnS x.snap):OkV Tryz.prog qxM [.agg ⟨cs⟩] g (.bool (qOB x)):=by
 obtain⟨a,b,d,n,rfl,hS,hG⟩:=hx
 have hS0:=hS
 obtain⟨_,_,_,he,hl,hr,hk⟩:=hS
 cases he
 obtain⟨oa,ca,rfl,a1,a2,a0,hl1⟩:=id hl
 obtain⟨ob,cb,rfl,b1,b2,b0,hr1⟩:=id hr
 obtain⟨od,cd,rfl,d1,d2,d0,hk1⟩:=id hk
 obtain⟨og,cg,rfl,g1,g2,g0,hG1⟩:=id hG
 exact Ok.of_fn hm tV_ok 3 qUM (args:=[.v (.agg ⟨[.slice oa x.snap.listens.length ca,.slice ob x.snap.rules.length cb,.slice od x.snap.clusters.length cd,.slice og x.groups.length cg,.bool x.freed]⟩)]) (by
  repeat((conv=>whnf);first|refine qz ?_|intro(_:Nat))
  conv=>whnf
  refine .inl ⟨_,qVW _ hS0 hsn.1,?_⟩
  repeat((conv=>whnf);first|refine qz ?_|intro(_:Nat))
  conv=>whnf
  refine⟨fun z1=>?_,fun z1=>?_⟩
  ·repeat((conv=>whnf);first|refine qz ?_|intro(_:Nat))
   conv=>whnf
   intro g2 hg
   rw [qQM (nb1 z1)]
  ·have z1':=nb0 z1
   repeat((conv=>whnf);first|refine qz ?_|intro(_:Nat))
   conv=>whnf
   refine⟨fun z2=>?_,fun z2=>?_⟩
   ·repeat((conv=>whnf);first|refine qz ?_|intro(_:Nat))
    conv=>whnf
    intro g2 hg
    rw [qPM (nneT z2)]
   ·have z2':x.groups.length=x.snap.clusters.length:=nneF z2
    repeat((conv=>whnf);first|refine qz ?_|intro(_:Nat))
    rename_i q0
    conv=>whnf
    refine⟨Nat,fun k=>[.v (.int .i64 k)],fun k=>⟨g,[.blk 0 q0 qEA [.v (.slice oa x.snap.listens.length ca),.v (.slice ob x.snap.rules.length cb),.v (.slice od x.snap.clusters.length cd),.v (.slice og x.groups.length cg),.v (.bool x.freed)]],10,g.w.heap.size⟩,fun k=>k≤x.groups.length∧AllK (qTF x.snap.clusters) x.groups k,fun k=>x.groups.length-k,fun fr w hw=>⟨0,rfl,⟨Nat.zero_le _,AllK.zero _ _⟩,hw.fit (by simp [fitL,Res.eqv,qBA,conc])⟩,?_⟩
    rintro k ⟨hkk,hp⟩
    repeat((conv=>whnf);first|refine qz ?_|intro(_:Nat))
    conv=>whnf
    refine⟨fun hlt=>?_,fun hlt=>?_⟩
    ·have h':k<x.groups.length:=by have:=of_decide_eq_true hlt;omega
     obtain⟨y,hy⟩:=qAA h'
     obtain⟨aG,rfl,ecG,hecG,⟨nE,rfl,htk,hE⟩,hcG⟩:=hG1 k y hy
     obtain⟨oe,ce,rfl,e1,e2,e0,hE1⟩:=id hE
     obtain⟨c,hcK⟩:=qAA (l:=x.snap.clusters) (i:=k) (by omega)
     obtain⟨aC,rfl,ecC,hecC,⟨vH,rfl,c1,c2,hH⟩,hcC⟩:=hk1 k c hcK
     obtain⟨oh,ch,rfl,h1,h2,h0,hH1⟩:=id hH
     have hgB:qTF x.snap.clusters k y=(decide (y.ends.length=c.health.length)&&y.ends.all (qxK c)):=by unfold qTF;rw [hcK]
     repeat((conv=>whnf);first|refine qz ?_|intro(_:Nat))
     conv=>whnf
     refine⟨aG,rfl,⟨by omega,by omega⟩,?_⟩
     conv=>whnf
     refine⟨_,⟨rfl,hcG⟩,?_⟩
     repeat((conv=>whnf);first|refine qz ?_|intro(_:Nat))
     conv=>whnf
     refine⟨aC,rfl,⟨by omega,by omega⟩,?_⟩
     conv=>whnf
     refine⟨_,⟨rfl,hcC⟩,?_⟩
     repeat((conv=>whnf);first|refine qz ?_|intro(_:Nat))
     conv=>whnf
     refine⟨fun z3=>?_,fun z3=>?_⟩
     ·repeat((conv=>whnf);first|refine qz ?_|intro(_:Nat))
      conv=>whnf
      intro g2 hg
      refine congrArg Value.bool (qRD hy ?_).symm
      rw [hgB,decide_eq_false (nneT z3)];rfl
     ·have z3':y.ends.length=c.health.length:=nneF z3
      repeat((conv=>whnf);first|refine qz ?_|intro(_:Nat))
      rename_i q1 q2
      conv=>whnf
      refine⟨Nat,fun n=>[.v (.int .i64 n)],fun n=>⟨g,[.blk 11 q2 qzA [.v (.string c.name),.v (.int .i64 c.policy),.v (.int .i64 c.slots),.v (.slice oh c.health.length ch)],.blk 10 q1 qXA [.v (.int .u64 y.ticket),.v (.slice oe y.ends.length ce)],.blk 0 q0 qEA [.v (.slice oa x.snap.listens.length ca),.v (.slice ob x.snap.rules.length cb),.v (.slice (some aC) x.snap.clusters.length cd),.v (.slice (some aG) x.groups.length cg),.v (.bool x.freed)]],20,g.w.heap.size⟩,fun n=>n≤y.ends.length∧(y.ends.take n).all (qxK c)=true,fun n=>y.ends.length-n,fun fr w hw=>⟨0,rfl,⟨Nat.zero_le _,by simp⟩,hw.fit (by simp [fitL,Res.eqv,qBA,conc])⟩,?_⟩
      rintro n ⟨hn,hpn⟩
      repeat((conv=>whnf);first|refine qz ?_|intro(_:Nat))
      conv=>whnf
      refine⟨fun hln=>?_,fun hln=>?_⟩
      ·have hn':n<y.ends.length:=by have:=of_decide_eq_true hln;omega
       obtain⟨e,hee⟩:=qAA hn'
       obtain⟨aE,rfl,ecE,hecE,heR,hcE⟩:=hE1 n e hee
       have heR0:=heR
       obtain⟨⟨nx,rfl,u1,u2,hN⟩,u3⟩:=heR
       obtain⟨oN,cN,rfl,n1,n2,n0,hN1⟩:=id hN
       obtain⟨cc1,cc2⟩:=List.getElem?_eq_some_iff.1 hee
       repeat((conv=>whnf);first|refine qz ?_|intro(_:Nat))
       conv=>whnf
       refine⟨aE,rfl,⟨by omega,by omega⟩,?_⟩
       conv=>whnf
       refine⟨_,⟨rfl,hcE⟩,?_⟩
       repeat((conv=>whnf);first|refine qz ?_|intro(_:Nat))
       conv=>whnf
       refine⟨qcL,?_⟩
       repeat((conv=>whnf);first|refine qz ?_|intro(_:Nat))
       conv=>whnf
       refine .inl ⟨_,qkR _ heR0,?_⟩
       repeat((conv=>whnf);first|refine qz ?_|intro(_:Nat))
       conv=>whnf
       refine⟨fun z4=>?_,fun z4=>?_⟩
       ·repeat((conv=>whnf);first|refine qz ?_|intro(_:Nat))
        conv=>whnf
        refine⟨fun _=>?_,fun hx=>absurd (((decide_eq_true (show(0:Int)≤(n:Int) by omega))).symm.trans hx) (by decide)⟩
        repeat((conv=>whnf);first|refine qz ?_|intro(_:Nat))
        conv=>whnf
        intro g2 hg
        refine congrArg Value.bool (qRD hy ?_).symm
        rw [hgB,qpA cc1 (by rw [cc2,qoL,nb1 z4];rfl)];simp
       ·repeat((conv=>whnf);first|refine qz ?_|intro(_:Nat))
        conv=>whnf
        refine⟨fun z5=>?_,fun z5=>?_⟩
        ·repeat((conv=>whnf);first|refine qz ?_|intro(_:Nat))
         conv=>whnf
         refine⟨fun _=>?_,fun hx=>absurd (((decide_eq_true (show(0:Int)≤(n:Int) by omega))).symm.trans hx) (by decide)⟩
         repeat((conv=>whnf);first|refine qz ?_|intro(_:Nat))
         conv=>whnf
         intro g2 hg
         refine congrArg Value.bool (qRD hy ?_).symm
         rw [hgB,qpA cc1 (by rw [cc2,qoL,decide_eq_false (bneT z5)];simp)];simp
        ·repeat((conv=>whnf);first|refine qz ?_|intro(_:Nat))
         conv=>whnf
         refine fun fr w hw=>⟨n+1,congrArg (fun z=>[Value.int .i64 z]) (wr1 hn' e1 e2).symm,⟨hn',by rw [qCC cc1,hpn,cc2,qoL,nb0 z4,decide_eq_true (bneF z5)];rfl⟩,dec hn',?_⟩
         exact hw.fit (by simp [fitL,Res.eqv,qBA,conc])
      ·have hnL:=of_decide_eq_false hln
       rw [List.take_of_length_le (by omega)] at hpn
       repeat((conv=>whnf);first|refine qz ?_|intro(_:Nat))
       conv=>whnf
       refine⟨fun h=>(nomatch h),fun _=>?_⟩
       repeat((conv=>whnf);first|refine qz ?_|intro(_:Nat))
       conv=>whnf
       refine fun fr w hw=>⟨k+1,congrArg (fun z=>[Value.int .i64 z]) (wr1 h' g1 g2).symm,⟨h',hp.succ hy (by rw [hgB,decide_eq_true z3',hpn];rfl)⟩,dec h',?_⟩
       exact hw.fit (by simp [fitL,Res.eqv,qBA,conc])
    ·repeat((conv=>whnf);first|refine qz ?_|intro(_:Nat))
     conv=>whnf
     intro g2 hg
     have:=of_decide_eq_false hlt
     rw [q5N z1' z2' hp (by omega)])
/- Worlds: versions: are they right? The document's answer. -/
open Go.Proofs.YthonngjhelcpeaaGreat.Sx Go.RowKit
theorem qlR (g:GW) {cs:List Value} {x:Version} (hx:rVe g cs x) (hsn:SnS x.snap):OkV Tryz.prog qbG [.agg ⟨cs⟩] g (.bool (qOB x)):=by
 obtain⟨a,b,d,n,rfl,hS,hG⟩:=hx
 have hS0:=hS
 obtain⟨_,_,_,he,hl,hr,hk⟩:=hS
 cases he
 obtain⟨oa,ca,rfl,a1,a2,a0,hl1⟩:=id hl
 obtain⟨ob,cb,rfl,b1,b2,b0,hr1⟩:=id hr
 obtain⟨od,cd,rfl,d1,d2,d0,hk1⟩:=id hk
 obtain⟨og,cg,rfl,g1,g2,g0,hG1⟩:=id hG
 exact Ok.of_fn hm noT 0 qSG (args:=[.v (.agg ⟨[.slice oa x.snap.listens.length ca,.slice ob x.snap.rules.length cb,.slice od x.snap.clusters.length cd,.slice og x.groups.length cg,.bool x.freed]⟩)]) (by
  repeat((conv=>whnf);first|refine qz ?_|intro(_:Nat))
  conv=>whnf
  refine .inl ⟨_,qsW _ hS0 hsn,?_⟩
  repeat((conv=>whnf);first|refine qz ?_|intro(_:Nat))
  conv=>whnf
  refine⟨fun z1=>?_,fun z1=>?_⟩
  ·repeat((conv=>whnf);first|refine qz ?_|intro(_:Nat))
   conv=>whnf
   intro g2 hg
   rw [qQM (nb1 z1)]
  ·have z1':=nb0 z1
   repeat((conv=>whnf);first|refine qz ?_|intro(_:Nat))
   conv=>whnf
   refine⟨fun z2=>?_,fun z2=>?_⟩
   ·repeat((conv=>whnf);first|refine qz ?_|intro(_:Nat))
    conv=>whnf
    intro g2 hg
    rw [qPM (nneT z2)]
   ·have z2':x.groups.length=x.snap.clusters.length:=nneF z2
    repeat((conv=>whnf);first|refine qz ?_|intro(_:Nat))
    rename_i q0
    conv=>whnf
    refine⟨Nat,fun k=>[.v (.int .i64 k)],fun k=>⟨g,[.blk 0 q0 qEA [.v (.slice oa x.snap.listens.length ca),.v (.slice ob x.snap.rules.length cb),.v (.slice od x.snap.clusters.length cd),.v (.slice og x.groups.length cg),.v (.bool x.freed)]],10,g.w.heap.size⟩,fun k=>k≤x.groups.length∧AllK (qTF x.snap.clusters) x.groups k,fun k=>x.groups.length-k,fun fr w hw=>⟨0,rfl,⟨Nat.zero_le _,AllK.zero _ _⟩,hw.fit (by simp [fitL,Res.eqv,qBA,conc])⟩,?_⟩
    rintro k ⟨hkk,hp⟩
    repeat((conv=>whnf);first|refine qz ?_|intro(_:Nat))
    conv=>whnf
    refine⟨fun hlt=>?_,fun hlt=>?_⟩
    ·have h':k<x.groups.length:=by have:=of_decide_eq_true hlt;omega
     obtain⟨y,hy⟩:=qAA h'
     obtain⟨aG,rfl,ecG,hecG,⟨nE,rfl,htk,hE⟩,hcG⟩:=hG1 k y hy
     obtain⟨oe,ce,rfl,e1,e2,e0,hE1⟩:=id hE
     obtain⟨c,hcK⟩:=qAA (l:=x.snap.clusters) (i:=k) (by omega)
     obtain⟨aC,rfl,ecC,hecC,⟨vH,rfl,c1,c2,hH⟩,hcC⟩:=hk1 k c hcK
     obtain⟨oh,ch,rfl,h1,h2,h0,hH1⟩:=id hH
     have hgB:qTF x.snap.clusters k y=(decide (y.ends.length=c.health.length)&&y.ends.all (qxK c)):=by unfold qTF;rw [hcK]
     repeat((conv=>whnf);first|refine qz ?_|intro(_:Nat))
     conv=>whnf
     refine⟨aG,rfl,⟨by omega,by omega⟩,?_⟩
     conv=>whnf
     refine⟨_,hcG 1 _ rfl,?_⟩
     repeat((conv=>whnf);first|refine qz ?_|intro(_:Nat))
     conv=>whnf
     refine⟨aC,rfl,⟨by omega,by omega⟩,?_⟩
     conv=>whnf
     refine⟨_,hcC 3 _ rfl,?_⟩
     repeat((conv=>whnf);first|refine qz ?_|intro(_:Nat))
     conv=>whnf
     refine⟨fun z3=>?_,fun z3=>?_⟩
     ·repeat((conv=>whnf);first|refine qz ?_|intro(_:Nat))
      conv=>whnf
      intro g2 hg
      refine congrArg Value.bool (qRD hy ?_).symm
      rw [hgB,decide_eq_false (nneT z3)];rfl
     ·have z3':y.ends.length=c.health.length:=nneF z3
      repeat((conv=>whnf);first|refine qz ?_|intro(_:Nat))
      conv=>whnf
      refine⟨Nat,fun n=>[.v (.int .i64 n)],fun n=>⟨g,[.blk 0 q0 qEA [.v (.slice oa x.snap.listens.length ca),.v (.slice ob x.snap.rules.length cb),.v (.slice (some aC) x.snap.clusters.length cd),.v (.slice (some aG) x.groups.length cg),.v (.bool x.freed)]],20,g.w.heap.size⟩,fun n=>n≤y.ends.length∧(y.ends.take n).all (qxK c)=true,fun n=>y.ends.length-n,fun fr w hw=>⟨0,rfl,⟨Nat.zero_le _,by simp⟩,hw.fit (by simp [fitL,Res.eqv,qBA,conc])⟩,?_⟩
      rintro n ⟨hn,hpn⟩
      repeat((conv=>whnf);first|refine qz ?_|intro(_:Nat))
      conv=>whnf
      refine⟨aG,rfl,⟨by omega,by omega⟩,?_⟩
      conv=>whnf
      refine⟨_,hcG 1 _ rfl,?_⟩
      repeat((conv=>whnf);first|refine qz ?_|intro(_:Nat))
      conv=>whnf
      refine⟨fun hln=>?_,fun hln=>?_⟩
      ·have hn':n<y.ends.length:=by have:=of_decide_eq_true hln;omega
       obtain⟨e,hee⟩:=qAA hn'
       obtain⟨aE,rfl,ecE,hecE,heR,hcE⟩:=hE1 n e hee
       have heR0:=heR
       obtain⟨⟨nx,rfl,u1,u2,hN⟩,u3⟩:=heR
       obtain⟨oN,cN,rfl,n1,n2,n0,hN1⟩:=id hN
       obtain⟨cc1,cc2⟩:=List.getElem?_eq_some_iff.1 hee
       repeat((conv=>whnf);first|refine qz ?_|intro(_:Nat))
       conv=>whnf
       refine⟨aG,rfl,⟨by omega,by omega⟩,?_⟩
       conv=>whnf
       refine⟨_,hcG 1 _ rfl,?_⟩
       repeat((conv=>whnf);first|refine qz ?_|intro(_:Nat))
       conv=>whnf
       refine⟨aE,rfl,⟨by omega,by omega⟩,?_⟩
       conv=>whnf
       refine⟨_,⟨rfl,hcE⟩,?_⟩
       repeat((conv=>whnf);first|refine qz ?_|intro(_:Nat))
       conv=>whnf
       refine .inl ⟨_,qwW _ heR0,?_⟩
       repeat((conv=>whnf);first|refine qz ?_|intro(_:Nat))
       conv=>whnf
       refine⟨fun z4=>?_,fun z4=>?_⟩
       ·repeat((conv=>whnf);first|refine qz ?_|intro(_:Nat))
        conv=>whnf
        intro g2 hg
        refine congrArg Value.bool (qRD hy ?_).symm
        rw [hgB,qpA cc1 (by rw [cc2,qoL,nb1 z4];rfl)];simp
       ·repeat((conv=>whnf);first|refine qz ?_|intro(_:Nat))
        conv=>whnf
        refine⟨aC,rfl,⟨by omega,by omega⟩,?_⟩
        conv=>whnf
        refine⟨_,hcC 2 _ rfl,?_⟩
        repeat((conv=>whnf);first|refine qz ?_|intro(_:Nat))
        conv=>whnf
        refine⟨fun z5=>?_,fun z5=>?_⟩
        ·repeat((conv=>whnf);first|refine qz ?_|intro(_:Nat))
         conv=>whnf
         intro g2 hg
         refine congrArg Value.bool (qRD hy ?_).symm
         rw [hgB,qpA cc1 (by rw [cc2,qoL,decide_eq_false (bneT z5)];simp)];simp
        ·repeat((conv=>whnf);first|refine qz ?_|intro(_:Nat))
         conv=>whnf
         refine fun fr w hw=>⟨n+1,congrArg (fun z=>[Value.int .i64 z]) (wr1 hn' e1 e2).symm,⟨hn',by rw [qCC cc1,hpn,cc2,qoL,nb0 z4,decide_eq_true (bneF z5)];rfl⟩,dec hn',?_⟩
         exact hw.fit (by simp [fitL,Res.eqv,qBA,conc])
      ·have hnL:=of_decide_eq_false hln
       rw [List.take_of_length_le (by omega)] at hpn
       repeat((conv=>whnf);first|refine qz ?_|intro(_:Nat))
       conv=>whnf
       refine fun fr w hw=>⟨k+1,congrArg (fun z=>[Value.int .i64 z]) (wr1 h' g1 g2).symm,⟨h',hp.succ hy (by rw [hgB,decide_eq_true z3',hpn];rfl)⟩,dec h',?_⟩
       exact hw.fit (by simp [fitL,Res.eqv,qBA,conc])
    ·repeat((conv=>whnf);first|refine qz ?_|intro(_:Nat))
     conv=>whnf
     intro g2 hg
     have:=of_decide_eq_false hlt
     rw [q5N z1' z2' hp (by omega)])
theorem qlV (g:GW) {v:Value} {l:List Retired} (hl:rSl 3 qtA g v l) (n:Int):OkV Tryz.prog qNJ [v,.int .i64 n] g (.bool (qqN l n)) :=
 Ok.of_fn hm noT 0 qyI (args:=[.v v,.v (.int .i64 n)]) (by
  obtain⟨oa,cap,rfl,h1,h2,h0,hr⟩:=hl
  repeat((conv=>whnf);first|refine qz ?_|intro(_:Nat))
  conv=>whnf
  refine⟨Nat,fun k=>[.v (.int .i64 k)],fun k=>⟨g,[],_,_⟩,fun k=>k≤l.length∧(l.take k).any (fun r=>r.version==n&&r.gone)=false,fun k=>l.length-k,qFA 0 rfl ⟨Nat.zero_le _,by simp⟩ rfl,?_⟩
  rintro k ⟨hk,hp⟩
  repeat((conv=>whnf);first|refine qz ?_|intro(_:Nat))
  conv=>whnf
  refine⟨fun hlt=>?_,fun hlt=>?_⟩
  ·have h':k<l.length:=by have:=of_decide_eq_true hlt;omega
   obtain⟨x,hx⟩:=qAA h'
   obtain⟨a,rfl,ec,hec,⟨rfl,_⟩,hc⟩:=hr k x hx
   obtain⟨c1,c2⟩:=List.getElem?_eq_some_iff.1 hx
   have hT:(l.take (k+1)).any (fun r=>r.version==n&&r.gone)=((x.version==n)&&x.gone):=by
    rw [List.take_succ_eq_append_getElem c1,List.any_append,hp,c2];simp
   repeat((conv=>whnf);first|refine qz ?_|intro(_:Nat))
   conv=>whnf
   refine⟨a,rfl,⟨by omega,by omega⟩,?_⟩
   conv=>whnf
   refine⟨_,hc 0 _ rfl,?_⟩
   repeat((conv=>whnf);first|refine qz ?_|intro(_:Nat))
   conv=>whnf
   refine⟨fun he=>?_,fun he=>?_⟩
   ·repeat((conv=>whnf);first|refine qz ?_|intro(_:Nat))
    conv=>whnf
    refine⟨a,rfl,⟨by omega,by omega⟩,?_⟩
    conv=>whnf
    refine⟨_,hc 2 _ rfl,?_⟩
    repeat((conv=>whnf);first|refine qz ?_|intro(_:Nat))
    conv=>whnf
    refine⟨fun hgo=>?_,fun hgo=>?_⟩
    ·repeat((conv=>whnf);first|refine qz ?_|intro(_:Nat))
     conv=>whnf
     intro g2 hg
     have:qqN l n=true:=List.any_eq_true.2 ⟨x,List.mem_of_getElem? hx,by rw [he,hgo];rfl⟩
     rw [this]
    ·repeat((conv=>whnf);first|refine qz ?_|intro(_:Nat))
     conv=>whnf
     refine fun fr w hw=>⟨k+1,congrArg (fun z=>[Value.int .i64 z]) (wr1 h' h1 h2).symm,⟨h',by rw [hT,hgo];simp⟩,dec h',hw⟩
   ·repeat((conv=>whnf);first|refine qz ?_|intro(_:Nat))
    conv=>whnf
    refine fun fr w hw=>⟨k+1,congrArg (fun z=>[Value.int .i64 z]) (wr1 h' h1 h2).symm,⟨h',by rw [hT,he];rfl⟩,dec h',hw⟩
  ·repeat((conv=>whnf);first|refine qz ?_|intro(_:Nat))
   conv=>whnf
   intro g2 hg
   have:=of_decide_eq_false hlt
   rw [List.take_of_length_le (by omega)] at hp
   rw [qqN,hp])
end Go.Proofs.YthonngjhelcpeaaGreat
