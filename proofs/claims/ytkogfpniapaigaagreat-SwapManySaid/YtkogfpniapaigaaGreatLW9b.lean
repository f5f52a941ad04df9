/- Worlds: limbo, listeners, counts: are they right? -/
import Derived.Test.YtkogfpniapaigaaGreatLW9d
import Derived.Test.YtkogfpniapaigaaGreatLB1
import Derived.Test.YtkogfpniapaigaaGreatPl
set_option linter.unusedVariables false
set_option linter.unusedSimpArgs false
namespace Go.Proofs.YtkogfpniapaigaaGreat
open Go.Proofs.YtkogfpniapaigaaGreat.Sx Go.RowKit
set_option maxHeartbeats 16000000
set_option maxRecDepth 100000
def tPl:List (Nat×FnI):=[(qTB,qkA),(q9K,q9F)]
theorem qDV:qDG Tryz.prog tPl:=by
 intro x hx
 simp only [tPl,List.mem_cons,List.not_mem_nil,or_false] at hx
 rcases hx with rfl|rfl
 ·exact⟨_,_,qSB⟩
 ·exact⟨_,_,qkK⟩
theorem qyK (g:GW) {v:Value} {l:List Listen} (hl:rSl 4 qpA g v l) (s:BA):OkV Tryz.prog q7M [v,.string s] g (.int .i64 (qMB l s)) :=
 Ok.of_fn hm qDV 2 qdM (args:=[.v v,.v (.string s)]) (by
  obtain⟨oa,cap,rfl,h1,h2,h0,hr⟩:=hl
  repeat((conv=>whnf);first|apply qza|apply qzb|apply qzc|apply qzd|apply qze|intro(_:Nat))
  conv=>whnf
  refine⟨Nat,fun k=>[.v (.int .i64 k)],fun k=>⟨g,[.blk 0 _ _ [.v (.string s)]],_,_⟩,fun k=>k≤l.length∧Pass (idxF fun (x:Listen)=>bs x.name==bs s) l k,fun k=>l.length-k,qDA 0 rfl ⟨Nat.zero_le _,Pass.zero _ _⟩ rfl,?_⟩
  rintro k ⟨hk,hp⟩
  conv=>whnf
  refine⟨fun hlt=>?_,fun hlt=>?_⟩
  ·have h':k<l.length:=by have:=of_decide_eq_true hlt;omega
   obtain⟨x,hx⟩:=qBA h'
   obtain⟨a,rfl,ec,hec,⟨rfl,_⟩,hc⟩:=hr k x hx
   conv=>whnf
   refine⟨a,rfl,⟨by omega,by omega⟩,?_⟩
   conv=>whnf
   refine⟨_,⟨rfl,hc⟩,?_⟩
   conv=>whnf
   refine⟨qGL,?_⟩
   repeat((conv=>whnf);first|apply qza|apply qzb|apply qzc|apply qzd|apply qze|intro(_:Nat))
   conv=>whnf
   refine⟨fun he=>?_,fun he=>?_⟩
   ·conv=>whnf
    intro g2 hg
    rw [qMB,qzC hp hx he]
   ·conv=>whnf
    refine fun fr w hw=>⟨k+1,congrArg (fun z=>[Value.int .i64 z]) (wr1 h' h1 h2).symm,⟨h',qyC hp hx he⟩,dec h',?_⟩
    exact hw.fit (by simp [fitL,Res.eqv,qAA,conc])
  ·conv=>whnf
   intro g2 hg
   have:=of_decide_eq_false hlt
   rw [qMB,q8B hp (by omega)])
theorem q1R (g:GW) {v:Value} {l:List Listen} (hl:rSl 4 qpA g v l) (s:BA):OkV Tryz.prog qjG [v,.string s] g (.int .i64 (qMB l s)) :=
 Ok.of_fn hm noT 0 qUG (args:=[.v v,.v (.string s)]) (by
  obtain⟨oa,cap,rfl,h1,h2,h0,hr⟩:=hl
  repeat((conv=>whnf);first|apply qza|apply qzb|apply qzc|apply qzd|apply qze|intro(_:Nat))
  conv=>whnf
  refine⟨Nat,fun k=>[.v (.int .i64 k)],fun k=>⟨g,[],_,_⟩,fun k=>k≤l.length∧Pass (idxF fun (x:Listen)=>bs x.name==bs s) l k,fun k=>l.length-k,qDA 0 rfl ⟨Nat.zero_le _,Pass.zero _ _⟩ rfl,?_⟩
  rintro k ⟨hk,hp⟩
  repeat((conv=>whnf);first|apply qza|apply qzb|apply qzc|apply qzd|apply qze|intro(_:Nat))
  conv=>whnf
  refine⟨fun hlt=>?_,fun hlt=>?_⟩
  ·have h':k<l.length:=by have:=of_decide_eq_true hlt;omega
   obtain⟨x,hx⟩:=qBA h'
   obtain⟨a,rfl,ec,hec,⟨rfl,_⟩,hc⟩:=hr k x hx
   repeat((conv=>whnf);first|apply qza|apply qzb|apply qzc|apply qzd|apply qze|intro(_:Nat))
   conv=>whnf
   refine⟨a,rfl,⟨by omega,by omega⟩,?_⟩
   conv=>whnf
   refine⟨_,hc 0 _ rfl,?_⟩
   repeat((conv=>whnf);first|apply qza|apply qzb|apply qzc|apply qzd|apply qze|intro(_:Nat))
   conv=>whnf
   refine⟨fun he=>?_,fun he=>?_⟩
   ·repeat((conv=>whnf);first|apply qza|apply qzb|apply qzc|apply qzd|apply qze|intro(_:Nat))
    conv=>whnf
    intro g2 hg
    rw [qMB,qzC hp hx he]
   ·repeat((conv=>whnf);first|apply qza|apply qzb|apply qzc|apply qzd|apply qze|intro(_:Nat))
    conv=>whnf
    refine fun fr w hw=>⟨k+1,congrArg (fun z=>[Value.int .i64 z]) (wr1 h' h1 h2).symm,⟨h',qyC hp hx he⟩,dec h',?_⟩
    exact hw.fit (by simp [fitL,Res.eqv,qAA,conc])
  ·repeat((conv=>whnf);first|apply qza|apply qzb|apply qzc|apply qzd|apply qze|intro(_:Nat))
   conv=>whnf
   intro g2 hg
   have:=of_decide_eq_false hlt
   rw [qMB,q8B hp (by omega)])
theorem qWV (g:GW) {cs:List Value} {x:Listen} (hx:qpA g cs x):OkV Tryz.prog q1Q [.agg ⟨cs⟩] g (.bool (qoL x)):=by
 obtain⟨rfl,hA⟩:=hx
 exact Ok.of_fn hm noT 0 qZQ (args:=[.v (.agg ⟨[.string x.name,.bool x.drain,.int .i64 x.active,.bool x.closed]⟩)]) (by
  repeat((conv=>whnf);first|apply qza|apply qzb|apply qzc|apply qzd|apply qze|intro(_:Nat))
  repeat'((conv=>whnf);first|apply qza|apply qzb|apply qzc|apply qzd|apply qze|intro(_:Nat)|refine .inl ⟨_,qgH _ _,?_⟩|refine⟨fun _=>?_,fun _=>?_⟩|fail)
  all_goals (conv=>whnf)
  all_goals (intro g2 hg)
  all_goals (unfold qoL;simp_all;try (intros;omega)))
theorem qSU (g:GW) {cs:List Value} {x:Listen} (hx:qpA g cs x):OkV Tryz.prog qYJ [.agg ⟨cs⟩] g (.bool (qoL x)):=by
 obtain⟨rfl,hA⟩:=hx
 exact Ok.of_fn hm noT 0 qEJ (args:=[.v (.agg ⟨[.string x.name,.bool x.drain,.int .i64 x.active,.bool x.closed]⟩)]) (by
  repeat((conv=>whnf);first|apply qza|apply qzb|apply qzc|apply qzd|apply qze|intro(_:Nat))
  repeat'((conv=>whnf);first|apply qza|apply qzb|apply qzc|apply qzd|apply qze|intro(_:Nat)|refine .inl ⟨_,qSK _ _,?_⟩|refine⟨fun _=>?_,fun _=>?_⟩|fail)
  all_goals (conv=>whnf)
  all_goals (intro g2 hg)
  all_goals (unfold qoL;simp_all;try (intros;omega)))
theorem q0L {c:List (List Int)} {r:List Int} (hr:r∈c) (h:r.length≠6):qED c=false:=by
 unfold qED
 rw [show(c.all fun r=>decide (r.length=6))=false from List.all_eq_false.2 ⟨r,hr,by simpa using h⟩];rfl
theorem qVV (g:GW) {v:Value} {l:List (List Int)} (hl:rSl 1 rRow g v l):OkV Tryz.prog qzQ [v] g (.bool (qED l)) :=
 Ok.of_fn hm noT 0 qXQ (args:=[.v v]) (by
  obtain⟨oa,cap,rfl,h1,h2,h0,hr⟩:=hl
  repeat((conv=>whnf);first|apply qza|apply qzb|apply qzc|apply qzd|apply qze|intro(_:Nat))
  conv=>whnf
  refine⟨Nat,fun k=>[.v (.int .i64 k)],fun k=>⟨g,[],_,_⟩,fun k=>k≤l.length∧(l.take k).all (fun r=>decide (r.length=6))=true,fun k=>l.length-k,qDA 0 rfl ⟨Nat.zero_le _,by simp⟩ rfl,?_⟩
  rintro k ⟨hk,hp⟩
  repeat((conv=>whnf);first|apply qza|apply qzb|apply qzc|apply qzd|apply qze|intro(_:Nat))
  conv=>whnf
  refine⟨fun hlt=>?_,fun hlt=>?_⟩
  ·have h':k<l.length:=by have:=of_decide_eq_true hlt;omega
   obtain⟨x,hx⟩:=qBA h'
   obtain⟨a,rfl,ec,hec,⟨n,rfl,hn⟩,hc⟩:=hr k x hx
   obtain⟨ox,cx,rfl,x1,x2,x0,hx1⟩:=id hn
   repeat((conv=>whnf);first|apply qza|apply qzb|apply qzc|apply qzd|apply qze|intro(_:Nat))
   conv=>whnf
   refine⟨a,rfl,⟨by omega,by omega⟩,?_⟩
   conv=>whnf
   refine⟨_,hc 0 _ rfl,?_⟩
   repeat((conv=>whnf);first|apply qza|apply qzb|apply qzc|apply qzd|apply qze|intro(_:Nat))
   conv=>whnf
   refine⟨fun he=>?_,fun he=>?_⟩
   ·repeat((conv=>whnf);first|apply qza|apply qzb|apply qzc|apply qzd|apply qze|intro(_:Nat))
    conv=>whnf
    intro g2 hg
    rw [q0L (List.mem_of_getElem? hx) (by have h9:(x.length:Int)≠6:=bneT he;omega)]
   ·repeat((conv=>whnf);first|apply qza|apply qzb|apply qzc|apply qzd|apply qze|intro(_:Nat))
    conv=>whnf
    refine fun fr w hw=>⟨k+1,congrArg (fun z=>[Value.int .i64 z]) (wr1 h' h1 h2).symm,⟨h',?_⟩,dec h',hw⟩
    obtain⟨c1,c2⟩:=List.getElem?_eq_some_iff.1 hx
    rw [qrB c1,hp,c2]
    have:(x.length:Int)=6:=by simpa using he
    simp;omega
  ·have hkL:=of_decide_eq_false hlt
   rw [List.take_of_length_le (by omega)] at hp
   repeat((conv=>whnf);first|apply qza|apply qzb|apply qzc|apply qzd|apply qze|intro(_:Nat))
   conv=>whnf
   refine⟨fun hz=>?_,fun hz=>?_⟩
   ·repeat((conv=>whnf);first|apply qza|apply qzb|apply qzc|apply qzd|apply qze|intro(_:Nat))
    conv=>whnf
    intro g2 hg
    have:=of_decide_eq_true hz
    unfold qED
    rw [hp,decide_eq_true (show 1≤l.length by omega)];simp;omega
   ·repeat((conv=>whnf);first|apply qza|apply qzb|apply qzc|apply qzd|apply qze|intro(_:Nat))
    conv=>whnf
    intro g2 hg
    have:=of_decide_eq_false hz
    unfold qED
    rw [hp,decide_eq_false (show ¬ 1≤l.length by omega)];rfl)
theorem qRU (g:GW) {v:Value} {l:List (List Int)} (hl:rSl 1 rRow g v l):OkV Tryz.prog qbJ [v] g (.bool (qED l)) :=
 Ok.of_fn hm noT 0 qHJ (args:=[.v v]) (by
  obtain⟨oa,cap,rfl,h1,h2,h0,hr⟩:=hl
  repeat((conv=>whnf);first|apply qza|apply qzb|apply qzc|apply qzd|apply qze|intro(_:Nat))
  conv=>whnf
  refine⟨Nat,fun k=>[.v (.int .i64 k)],fun k=>⟨g,[],_,_⟩,fun k=>k≤l.length∧(l.take k).all (fun r=>decide (r.length=6))=true,fun k=>l.length-k,qDA 0 rfl ⟨Nat.zero_le _,by simp⟩ rfl,?_⟩
  rintro k ⟨hk,hp⟩
  repeat((conv=>whnf);first|apply qza|apply qzb|apply qzc|apply qzd|apply qze|intro(_:Nat))
  conv=>whnf
  refine⟨fun hlt=>?_,fun hlt=>?_⟩
  ·have h':k<l.length:=by have:=of_decide_eq_true hlt;omega
   obtain⟨x,hx⟩:=qBA h'
   obtain⟨a,rfl,ec,hec,⟨n,rfl,hn⟩,hc⟩:=hr k x hx
   obtain⟨ox,cx,rfl,x1,x2,x0,hx1⟩:=id hn
   repeat((conv=>whnf);first|apply qza|apply qzb|apply qzc|apply qzd|apply qze|intro(_:Nat))
   conv=>whnf
   refine⟨a,rfl,⟨by omega,by omega⟩,?_⟩
   conv=>whnf
   refine⟨_,hc 0 _ rfl,?_⟩
   repeat((conv=>whnf);first|apply qza|apply qzb|apply qzc|apply qzd|apply qze|intro(_:Nat))
   conv=>whnf
   refine⟨fun he=>?_,fun he=>?_⟩
   ·repeat((conv=>whnf);first|apply qza|apply qzb|apply qzc|apply qzd|apply qze|intro(_:Nat))
    conv=>whnf
    intro g2 hg
    rw [q0L (List.mem_of_getElem? hx) (by have h9:(x.length:Int)≠6:=bneT he;omega)]
   ·repeat((conv=>whnf);first|apply qza|apply qzb|apply qzc|apply qzd|apply qze|intro(_:Nat))
    conv=>whnf
    refine fun fr w hw=>⟨k+1,congrArg (fun z=>[Value.int .i64 z]) (wr1 h' h1 h2).symm,⟨h',?_⟩,dec h',hw⟩
    obtain⟨c1,c2⟩:=List.getElem?_eq_some_iff.1 hx
    rw [qrB c1,hp,c2]
    have:(x.length:Int)=6:=by simpa using he
    simp;omega
  ·have hkL:=of_decide_eq_false hlt
   rw [List.take_of_length_le (by omega)] at hp
   repeat((conv=>whnf);first|apply qza|apply qzb|apply qzc|apply qzd|apply qze|intro(_:Nat))
   conv=>whnf
   refine⟨fun hz=>?_,fun hz=>?_⟩
   ·repeat((conv=>whnf);first|apply qza|apply qzb|apply qzc|apply qzd|apply qze|intro(_:Nat))
    conv=>whnf
    intro g2 hg
    have:=of_decide_eq_true hz
    unfold qED
    rw [hp,decide_eq_true (show 1≤l.length by omega)];simp;omega
   ·repeat((conv=>whnf);first|apply qza|apply qzb|apply qzc|apply qzd|apply qze|intro(_:Nat))
    conv=>whnf
    intro g2 hg
    have:=of_decide_eq_false hz
    unfold qED
    rw [hp,decide_eq_false (show ¬ 1≤l.length by omega)];rfl)
/- Worlds: limbo: is it right? -/
open Go.Proofs.YtkogfpniapaigaaGreat.Sx Go.RowKit
def tLh:List (Nat×FnI):=[(qYA,qKA),(qfA,qOA),(q6M,qvI)]
theorem qFV:qDG Tryz.prog tLh:=by
 intro x hx
 simp only [tLh,List.mem_cons,List.not_mem_nil,or_false] at hx
 rcases hx with rfl|rfl|rfl
 ·exact⟨_,_,qXA⟩
 ·exact⟨_,_,qeA⟩
 ·exact⟨_,_,qcM⟩
theorem qXU (g:GW) {v:Value} {l:List Retired} (hl:rSl 3 qUA g v l) (n:Int):OkV Tryz.prog qeP [v,.int .i64 n] g (.bool (l.any fun r=>r.version==n)) :=
 Ok.of_fn hm qFV 3 q4O (args:=[.v v,.v (.int .i64 n)]) (by
  obtain⟨oa,cap,rfl,h1,h2,h0,hr⟩:=hl
  repeat((conv=>whnf);first|apply qza|apply qzb|apply qzc|apply qzd|apply qze|intro(_:Nat))
  conv=>whnf
  refine⟨Nat,fun k=>[.v (.int .i64 k)],fun k=>⟨g,[.blk 0 _ _ [.v (.int .i64 n)]],_,_⟩,fun k=>k≤l.length∧Pass (idxF fun (x:Retired)=>x.version==n) l k,fun k=>l.length-k,qDA 0 rfl ⟨Nat.zero_le _,Pass.zero _ _⟩ rfl,?_⟩
  rintro k ⟨hk,hp⟩
  conv=>whnf
  refine⟨fun hlt=>?_,fun hlt=>?_⟩
  ·have h':k<l.length:=by have:=of_decide_eq_true hlt;omega
   obtain⟨x,hx⟩:=qBA h'
   obtain⟨a,rfl,ec,hec,⟨rfl,_⟩,hc⟩:=hr k x hx
   conv=>whnf
   refine⟨a,rfl,⟨by omega,by omega⟩,?_⟩
   conv=>whnf
   refine⟨_,⟨rfl,hc⟩,?_⟩
   conv=>whnf
   refine⟨qEN,?_⟩
   repeat((conv=>whnf);first|apply qza|apply qzb|apply qzc|apply qzd|apply qze|intro(_:Nat))
   conv=>whnf
   refine⟨fun he=>?_,fun he=>?_⟩
   ·conv=>whnf
    intro g2 hg
    have:(l.any fun r=>r.version==n)=true:=List.any_eq_true.2 ⟨x,List.mem_of_getElem? hx,he⟩
    rw [this];simp
   ·conv=>whnf
    refine fun fr w hw=>⟨k+1,congrArg (fun z=>[Value.int .i64 z]) (wr1 h' h1 h2).symm,⟨h',qyC hp hx he⟩,dec h',?_⟩
    exact hw.fit (by simp [fitL,Res.eqv,qAA,conc])
  ·conv=>whnf
   intro g2 hg
   have:=of_decide_eq_false hlt
   have h3:=qHN (fun (x:Retired)=>x.version==n) l
   rw [q8B hp (by omega)] at h3
   rw [← h3])
theorem qUV (g:GW) {v:Value} {l:List Retired} (hl:rSl 3 qUA g v l):OkV Tryz.prog q0Q [v] g (.bool (qLE l)) :=
 Ok.of_fn hm noT 0 qYQ (args:=[.v v]) (by
  obtain⟨oa,cap,rfl,h1,h2,h0,hr⟩:=id hl
  repeat((conv=>whnf);first|apply qza|apply qzb|apply qzc|apply qzd|apply qze|intro(_:Nat))
  conv=>whnf
  refine⟨Nat,fun k=>[.v (.int .i64 k)],fun k=>⟨g,[],_,_⟩,fun k=>k≤l.length∧AllK (retB l) l k,fun k=>l.length-k,qDA 0 rfl ⟨Nat.zero_le _,AllK.zero _ _⟩ rfl,?_⟩
  rintro k ⟨hk,hp⟩
  conv=>whnf
  refine⟨fun hlt=>?_,fun hlt=>?_⟩
  ·have h':k<l.length:=by have:=of_decide_eq_true hlt;omega
   obtain⟨x,hx⟩:=qBA h'
   obtain⟨a,rfl,ec,hec,⟨rfl,_⟩,hc⟩:=hr k x hx
   repeat((conv=>whnf);first|apply qza|apply qzb|apply qzc|apply qzd|apply qze|intro(_:Nat))
   conv=>whnf
   refine⟨a,rfl,⟨by omega,by omega⟩,?_⟩
   conv=>whnf
   refine⟨_,⟨rfl,hc⟩,?_⟩
   repeat((conv=>whnf);first|apply qza|apply qzb|apply qzc|apply qzd|apply qze|intro(_:Nat))
   conv=>whnf
   refine⟨fun b1=>?_,fun b1=>?_⟩
   ·repeat((conv=>whnf);first|apply qza|apply qzb|apply qzc|apply qzd|apply qze|intro(_:Nat))
    conv=>whnf
    intro g2 hg
    have b1':=of_decide_eq_true b1
    exact congrArg Value.bool (qVA hx (by unfold retB;rw [decide_eq_false (by omega)];rfl)).symm
   ·have b1':=of_decide_eq_false b1
    repeat((conv=>whnf);first|apply qza|apply qzb|apply qzc|apply qzd|apply qze|intro(_:Nat))
    conv=>whnf
    refine⟨fun b2=>?_,fun b2=>?_⟩
    ·repeat((conv=>whnf);first|apply qza|apply qzb|apply qzc|apply qzd|apply qze|intro(_:Nat))
     conv=>whnf
     intro g2 hg
     have b2':=of_decide_eq_true b2
     exact congrArg Value.bool (qVA hx (by unfold retB;rw [decide_eq_false (show ¬ 0≤x.at_ by omega)];simp)).symm
    ·have b2':=of_decide_eq_false b2
     repeat((conv=>whnf);first|apply qza|apply qzb|apply qzc|apply qzd|apply qze|intro(_:Nat))
     conv=>whnf
     refine⟨⟨by omega,by omega⟩,?_⟩
     repeat((conv=>whnf);first|apply qza|apply qzb|apply qzc|apply qzd|apply qze|intro(_:Nat))
     conv=>whnf
     refine .inl ⟨_,qXU _ (rSl.take hl hk) _,?_⟩
     repeat((conv=>whnf);first|apply qza|apply qzb|apply qzc|apply qzd|apply qze|intro(_:Nat))
     conv=>whnf
     refine⟨fun b3=>?_,fun b3=>?_⟩
     ·repeat((conv=>whnf);first|apply qza|apply qzb|apply qzc|apply qzd|apply qze|intro(_:Nat))
      conv=>whnf
      intro g2 hg
      exact congrArg Value.bool (qVA hx (by unfold retB;rw [b3];simp)).symm
     ·repeat((conv=>whnf);first|apply qza|apply qzb|apply qzc|apply qzd|apply qze|intro(_:Nat))
      conv=>whnf
      refine fun fr w hw=>⟨k+1,congrArg (fun z=>[Value.int .i64 z]) (wr1 h' h1 h2).symm,⟨h',hp.succ hx ?_⟩,dec h',?_⟩
      ·unfold retB
       rw [b3,decide_eq_true (show 0≤x.version by omega),decide_eq_true (show 0≤x.at_ by omega)];rfl
      ·exact hw.fit (by simp [fitL,Res.eqv,qAA,conc])
  ·repeat((conv=>whnf);first|apply qza|apply qzb|apply qzc|apply qzd|apply qze|intro(_:Nat))
   conv=>whnf
   intro g2 hg
   have:=of_decide_eq_false hlt
   exact congrArg Value.bool (hp.done (by omega)).symm)
theorem qNP (g:GW) {v:Value} {l:List Retired} (hl:rSl 3 qUA g v l) (n:Int):OkV Tryz.prog qkG [v,.int .i64 n] g (.int .i64 (idxI (idxO (fun r=>r.version==n) l))) :=
 Ok.of_fn hm noT 0 qVG (args:=[.v v,.v (.int .i64 n)]) (by
  obtain⟨oa,cap,rfl,h1,h2,h0,hr⟩:=hl
  repeat((conv=>whnf);first|apply qza|apply qzb|apply qzc|apply qzd|apply qze|intro(_:Nat))
  conv=>whnf
  refine⟨Nat,fun k=>[.v (.int .i64 k)],fun k=>⟨g,[],_,_⟩,fun k=>k≤l.length∧Pass (idxF fun (x:Retired)=>x.version==n) l k,fun k=>l.length-k,qDA 0 rfl ⟨Nat.zero_le _,Pass.zero _ _⟩ rfl,?_⟩
  rintro k ⟨hk,hp⟩
  repeat((conv=>whnf);first|apply qza|apply qzb|apply qzc|apply qzd|apply qze|intro(_:Nat))
  conv=>whnf
  refine⟨fun hlt=>?_,fun hlt=>?_⟩
  ·have h':k<l.length:=by have:=of_decide_eq_true hlt;omega
   obtain⟨x,hx⟩:=qBA h'
   obtain⟨a,rfl,ec,hec,⟨rfl,_⟩,hc⟩:=hr k x hx
   repeat((conv=>whnf);first|apply qza|apply qzb|apply qzc|apply qzd|apply qze|intro(_:Nat))
   conv=>whnf
   refine⟨a,rfl,⟨by omega,by omega⟩,?_⟩
   conv=>whnf
   refine⟨_,hc 0 _ rfl,?_⟩
   repeat((conv=>whnf);first|apply qza|apply qzb|apply qzc|apply qzd|apply qze|intro(_:Nat))
   conv=>whnf
   refine⟨fun he=>?_,fun he=>?_⟩
   ·repeat((conv=>whnf);first|apply qza|apply qzb|apply qzc|apply qzd|apply qze|intro(_:Nat))
    conv=>whnf
    intro g2 hg
    rw [qzC hp hx he]
   ·repeat((conv=>whnf);first|apply qza|apply qzb|apply qzc|apply qzd|apply qze|intro(_:Nat))
    conv=>whnf
    refine fun fr w hw=>⟨k+1,congrArg (fun z=>[Value.int .i64 z]) (wr1 h' h1 h2).symm,⟨h',qyC hp hx he⟩,dec h',?_⟩
    exact hw.fit (by simp [fitL,Res.eqv,qAA,conc])
  ·repeat((conv=>whnf);first|apply qza|apply qzb|apply qzc|apply qzd|apply qze|intro(_:Nat))
   conv=>whnf
   intro g2 hg
   have:=of_decide_eq_false hlt
   rw [q8B hp (by omega)])
theorem qqN {l:List Retired} {k:Nat} {x:Retired} (hx:l[k]?=some x):(idxI (idxO (fun r=>r.version==x.version) l)=k)↔(l.take k).any (fun r=>r.version==x.version)=false:=by
 rw [any_take]
 constructor
 ·intro h j y hj hy
  cases hi:idxO (fun r:Retired=>r.version==x.version) l with
  | none=>rw [hi] at h;simp [idxI] at h
  | some i =>
   obtain⟨z,_,_,h3⟩:=qXD hi
   rw [hi] at h
   have:i=k:=by simp [idxI] at h;omega
   exact h3 j (by omega) y hy
 ·intro h
  refine qzC (fun j hj y hy=>?_) hx (by simp)
  have:=h j y hj hy
  simp [idxF] at this ⊢
  exact this
theorem qQU (g:GW) {v:Value} {l:List Retired} (hl:rSl 3 qUA g v l):OkV Tryz.prog qZJ [v] g (.bool (qLE l)) :=
 Ok.of_fn hm noT 0 qFJ (args:=[.v v]) (by
  obtain⟨oa,cap,rfl,h1,h2,h0,hr⟩:=id hl
  repeat((conv=>whnf);first|apply qza|apply qzb|apply qzc|apply qzd|apply qze|intro(_:Nat))
  conv=>whnf
  refine⟨Nat,fun k=>[.v (.int .i64 k)],fun k=>⟨g,[],_,_⟩,fun k=>k≤l.length∧AllK (retB l) l k,fun k=>l.length-k,qDA 0 rfl ⟨Nat.zero_le _,AllK.zero _ _⟩ rfl,?_⟩
  rintro k ⟨hk,hp⟩
  repeat((conv=>whnf);first|apply qza|apply qzb|apply qzc|apply qzd|apply qze|intro(_:Nat))
  conv=>whnf
  refine⟨fun hlt=>?_,fun hlt=>?_⟩
  ·have h':k<l.length:=by have:=of_decide_eq_true hlt;omega
   obtain⟨x,hx⟩:=qBA h'
   obtain⟨a,rfl,ec,hec,⟨rfl,_⟩,hc⟩:=hr k x hx
   repeat((conv=>whnf);first|apply qza|apply qzb|apply qzc|apply qzd|apply qze|intro(_:Nat))
   conv=>whnf
   refine⟨a,rfl,⟨by omega,by omega⟩,?_⟩
   conv=>whnf
   refine⟨_,hc 0 _ rfl,?_⟩
   repeat((conv=>whnf);first|apply qza|apply qzb|apply qzc|apply qzd|apply qze|intro(_:Nat))
   conv=>whnf
   refine⟨fun b1=>?_,fun b1=>?_⟩
   ·repeat((conv=>whnf);first|apply qza|apply qzb|apply qzc|apply qzd|apply qze|intro(_:Nat))
    conv=>whnf
    intro g2 hg
    have b1':=of_decide_eq_true b1
    exact congrArg Value.bool (qVA hx (by unfold retB;rw [decide_eq_false (by omega)];rfl)).symm
   ·have b1':=of_decide_eq_false b1
    repeat((conv=>whnf);first|apply qza|apply qzb|apply qzc|apply qzd|apply qze|intro(_:Nat))
    conv=>whnf
    refine⟨a,rfl,⟨by omega,by omega⟩,?_⟩
    conv=>whnf
    refine⟨_,hc 1 _ rfl,?_⟩
    repeat((conv=>whnf);first|apply qza|apply qzb|apply qzc|apply qzd|apply qze|intro(_:Nat))
    conv=>whnf
    refine⟨fun b2=>?_,fun b2=>?_⟩
    ·repeat((conv=>whnf);first|apply qza|apply qzb|apply qzc|apply qzd|apply qze|intro(_:Nat))
     conv=>whnf
     intro g2 hg
     have b2':=of_decide_eq_true b2
     exact congrArg Value.bool (qVA hx (by unfold retB;rw [decide_eq_false (show ¬ 0≤x.at_ by omega)];simp)).symm
    ·have b2':=of_decide_eq_false b2
     repeat((conv=>whnf);first|apply qza|apply qzb|apply qzc|apply qzd|apply qze|intro(_:Nat))
     conv=>whnf
     refine⟨a,rfl,⟨by omega,by omega⟩,?_⟩
     conv=>whnf
     refine⟨_,hc 0 _ rfl,?_⟩
     repeat((conv=>whnf);first|apply qza|apply qzb|apply qzc|apply qzd|apply qze|intro(_:Nat))
     conv=>whnf
     refine .inl ⟨_,qNP _ hl _,?_⟩
     repeat((conv=>whnf);first|apply qza|apply qzb|apply qzc|apply qzd|apply qze|intro(_:Nat))
     conv=>whnf
     refine⟨fun b3=>?_,fun b3=>?_⟩
     ·repeat((conv=>whnf);first|apply qza|apply qzb|apply qzc|apply qzd|apply qze|intro(_:Nat))
      conv=>whnf
      intro g2 hg
      have b3':¬ idxI (idxO (fun r=>r.version==x.version) l)=(k:Int):=by simpa using b3
      refine congrArg Value.bool (qVA hx ?_).symm
      unfold retB
      cases hb:(l.take k).any (fun r=>r.version==x.version) with
      | true=>simp
      | false=>exact absurd ((qqN hx).2 hb) b3'
     ·repeat((conv=>whnf);first|apply qza|apply qzb|apply qzc|apply qzd|apply qze|intro(_:Nat))
      conv=>whnf
      refine fun fr w hw=>⟨k+1,congrArg (fun z=>[Value.int .i64 z]) (wr1 h' h1 h2).symm,⟨h',hp.succ hx ?_⟩,dec h',?_⟩
      ·have b3':idxI (idxO (fun r=>r.version==x.version) l)=(k:Int):=by simpa using b3
       unfold retB
       rw [(qqN hx).1 b3',decide_eq_true (show 0≤x.version by omega),decide_eq_true (show 0≤x.at_ by omega)];rfl
      ·exact hw.fit (by simp [fitL,Res.eqv,qAA,conc])
  ·repeat((conv=>whnf);first|apply qza|apply qzb|apply qzc|apply qzd|apply qze|intro(_:Nat))
   conv=>whnf
   intro g2 hg
   have:=of_decide_eq_false hlt
   exact congrArg Value.bool (hp.done (by omega)).symm)
/- Worlds: versions: are they right? -/
open Go.Proofs.YtkogfpniapaigaaGreat.Sx Go.RowKit
def tV:List (Nat×FnI):=[(qhB,qqA),(q4B,qxA),(qUJ,qOE)]
theorem tV_ok:qDG Tryz.prog tV:=by
 intro x hx
 simp only [tV,List.mem_cons,List.not_mem_nil,or_false] at hx
 rcases hx with rfl|rfl|rfl
 ·exact⟨_,_,qeB⟩
 ·exact⟨_,_,q2B⟩
 ·exact⟨_,_,qAJ⟩
theorem qaK {v:Version} (h:eqB (qHA (qIC v.snap)) none=false):q4A v=false:=by unfold q4A;rw [h];rfl
theorem qZK {v:Version} (h:v.groups.length≠v.snap.clusters.length):q4A v=false:=by unfold q4A;rw [decide_eq_false h];simp
theorem qjC {v:Version} {k:Nat} {x:Group} (hx:v.groups[k]?=some x) (h:qME v.snap.clusters k x=false):q4A v=false:=by unfold q4A;rw [qVA hx h];simp
theorem qyL {v:Version} {k:Nat} (h1:eqB (qHA (qIC v.snap)) none=true) (h2:v.groups.length=v.snap.clusters.length) (h:AllK (qME v.snap.clusters) v.groups k) (hk:v.groups.length≤k):q4A v=true:=by
 unfold q4A;rw [h1,decide_eq_true h2,h.done hk];rfl
theorem qqJ {c:Cluster} {e:EndC}:q1I c e=(endB e&&decide ((e.next.length:Int)=c.slots)):=rfl
theorem qFP (g:GW) {cs:List Value} {x:Version} (hx:rVe g cs x) (hsn:SnS x.snap):OkV Tryz.prog q4K [.agg ⟨cs⟩] g (.bool (q4A x)):=by
 obtain⟨a,b,d,n,rfl,hS,hG⟩:=hx
 have hS0:=hS
 obtain⟨_,_,_,he,hl,hr,hk⟩:=hS
 cases he
 obtain⟨oa,ca,rfl,a1,a2,a0,hl1⟩:=id hl
 obtain⟨ob,cb,rfl,b1,b2,b0,hr1⟩:=id hr
 obtain⟨od,cd,rfl,d1,d2,d0,hk1⟩:=id hk
 obtain⟨og,cg,rfl,g1,g2,g0,hG1⟩:=id hG
 exact Ok.of_fn hm tV_ok 3 qfK (args:=[.v (.agg ⟨[.slice oa x.snap.listens.length ca,.slice ob x.snap.rules.length cb,.slice od x.snap.clusters.length cd,.slice og x.groups.length cg,.bool x.freed]⟩)]) (by
  repeat((conv=>whnf);first|apply qza|apply qzb|apply qzc|apply qzd|apply qze|intro(_:Nat))
  conv=>whnf
  refine .inl ⟨_,qsT _ hS0 hsn.1,?_⟩
  repeat((conv=>whnf);first|apply qza|apply qzb|apply qzc|apply qzd|apply qze|intro(_:Nat))
  conv=>whnf
  refine⟨fun z1=>?_,fun z1=>?_⟩
  ·repeat((conv=>whnf);first|apply qza|apply qzb|apply qzc|apply qzd|apply qze|intro(_:Nat))
   conv=>whnf
   intro g2 hg
   rw [qaK (nb1 z1)]
  ·have z1':=nb0 z1
   repeat((conv=>whnf);first|apply qza|apply qzb|apply qzc|apply qzd|apply qze|intro(_:Nat))
   conv=>whnf
   refine⟨fun z2=>?_,fun z2=>?_⟩
   ·repeat((conv=>whnf);first|apply qza|apply qzb|apply qzc|apply qzd|apply qze|intro(_:Nat))
    conv=>whnf
    intro g2 hg
    rw [qZK (nneT z2)]
   ·have z2':x.groups.length=x.snap.clusters.length:=nneF z2
    repeat((conv=>whnf);first|apply qza|apply qzb|apply qzc|apply qzd|apply qze|intro(_:Nat))
    rename_i q0
    conv=>whnf
    refine⟨Nat,fun k=>[.v (.int .i64 k)],fun k=>⟨g,[.blk 0 q0 qCA [.v (.slice oa x.snap.listens.length ca),.v (.slice ob x.snap.rules.length cb),.v (.slice od x.snap.clusters.length cd),.v (.slice og x.groups.length cg),.v (.bool x.freed)]],10,g.w.heap.size⟩,fun k=>k≤x.groups.length∧AllK (qME x.snap.clusters) x.groups k,fun k=>x.groups.length-k,fun fr w hw=>⟨0,rfl,⟨Nat.zero_le _,AllK.zero _ _⟩,hw.fit (by simp [fitL,Res.eqv,qAA,conc])⟩,?_⟩
    rintro k ⟨hkk,hp⟩
    repeat((conv=>whnf);first|apply qza|apply qzb|apply qzc|apply qzd|apply qze|intro(_:Nat))
    conv=>whnf
    refine⟨fun hlt=>?_,fun hlt=>?_⟩
    ·have h':k<x.groups.length:=by have:=of_decide_eq_true hlt;omega
     obtain⟨y,hy⟩:=qBA h'
     obtain⟨aG,rfl,ecG,hecG,⟨nE,rfl,htk,hE⟩,hcG⟩:=hG1 k y hy
     obtain⟨oe,ce,rfl,e1,e2,e0,hE1⟩:=id hE
     obtain⟨c,hcK⟩:=qBA (l:=x.snap.clusters) (i:=k) (by omega)
     obtain⟨aC,rfl,ecC,hecC,⟨vH,rfl,c1,c2,hH⟩,hcC⟩:=hk1 k c hcK
     obtain⟨oh,ch,rfl,h1,h2,h0,hH1⟩:=id hH
     have hgB:qME x.snap.clusters k y=(decide (y.ends.length=c.health.length)&&y.ends.all (q1I c)):=by unfold qME;rw [hcK]
     repeat((conv=>whnf);first|apply qza|apply qzb|apply qzc|apply qzd|apply qze|intro(_:Nat))
     conv=>whnf
     refine⟨aG,rfl,⟨by omega,by omega⟩,?_⟩
     conv=>whnf
     refine⟨_,⟨rfl,hcG⟩,?_⟩
     repeat((conv=>whnf);first|apply qza|apply qzb|apply qzc|apply qzd|apply qze|intro(_:Nat))
     conv=>whnf
     refine⟨aC,rfl,⟨by omega,by omega⟩,?_⟩
     conv=>whnf
     refine⟨_,⟨rfl,hcC⟩,?_⟩
     repeat((conv=>whnf);first|apply qza|apply qzb|apply qzc|apply qzd|apply qze|intro(_:Nat))
     conv=>whnf
     refine⟨fun z3=>?_,fun z3=>?_⟩
     ·repeat((conv=>whnf);first|apply qza|apply qzb|apply qzc|apply qzd|apply qze|intro(_:Nat))
      conv=>whnf
      intro g2 hg
      refine congrArg Value.bool (qjC hy ?_).symm
      rw [hgB,decide_eq_false (nneT z3)];rfl
     ·have z3':y.ends.length=c.health.length:=nneF z3
      repeat((conv=>whnf);first|apply qza|apply qzb|apply qzc|apply qzd|apply qze|intro(_:Nat))
      rename_i q1 q2
      conv=>whnf
      refine⟨Nat,fun n=>[.v (.int .i64 n)],fun n=>⟨g,[.blk 11 q2 q1B [.v (.string c.name),.v (.int .i64 c.policy),.v (.int .i64 c.slots),.v (.slice oh c.health.length ch)],.blk 10 q1 qLA [.v (.int .u64 y.ticket),.v (.slice oe y.ends.length ce)],.blk 0 q0 qCA [.v (.slice oa x.snap.listens.length ca),.v (.slice ob x.snap.rules.length cb),.v (.slice (some aC) x.snap.clusters.length cd),.v (.slice (some aG) x.groups.length cg),.v (.bool x.freed)]],20,g.w.heap.size⟩,fun n=>n≤y.ends.length∧(y.ends.take n).all (q1I c)=true,fun n=>y.ends.length-n,fun fr w hw=>⟨0,rfl,⟨Nat.zero_le _,by simp⟩,hw.fit (by simp [fitL,Res.eqv,qAA,conc])⟩,?_⟩
      rintro n ⟨hn,hpn⟩
      repeat((conv=>whnf);first|apply qza|apply qzb|apply qzc|apply qzd|apply qze|intro(_:Nat))
      conv=>whnf
      refine⟨fun hln=>?_,fun hln=>?_⟩
      ·have hn':n<y.ends.length:=by have:=of_decide_eq_true hln;omega
       obtain⟨e,hee⟩:=qBA hn'
       obtain⟨aE,rfl,ecE,hecE,heR,hcE⟩:=hE1 n e hee
       have heR0:=heR
       obtain⟨⟨nx,rfl,u1,u2,hN⟩,u3⟩:=heR
       obtain⟨oN,cN,rfl,n1,n2,n0,hN1⟩:=id hN
       obtain⟨cc1,cc2⟩:=List.getElem?_eq_some_iff.1 hee
       repeat((conv=>whnf);first|apply qza|apply qzb|apply qzc|apply qzd|apply qze|intro(_:Nat))
       conv=>whnf
       refine⟨aE,rfl,⟨by omega,by omega⟩,?_⟩
       conv=>whnf
       refine⟨_,⟨rfl,hcE⟩,?_⟩
       repeat((conv=>whnf);first|apply qza|apply qzb|apply qzc|apply qzd|apply qze|intro(_:Nat))
       conv=>whnf
       refine⟨qdJ,?_⟩
       repeat((conv=>whnf);first|apply qza|apply qzb|apply qzc|apply qzd|apply qze|intro(_:Nat))
       conv=>whnf
       refine .inl ⟨_,qIP _ heR0,?_⟩
       repeat((conv=>whnf);first|apply qza|apply qzb|apply qzc|apply qzd|apply qze|intro(_:Nat))
       conv=>whnf
       refine⟨fun z4=>?_,fun z4=>?_⟩
       ·repeat((conv=>whnf);first|apply qza|apply qzb|apply qzc|apply qzd|apply qze|intro(_:Nat))
        conv=>whnf
        refine⟨fun _=>?_,fun hx=>absurd (((decide_eq_true (show(0:Int)≤(n:Int) by omega))).symm.trans hx) (by decide)⟩
        repeat((conv=>whnf);first|apply qza|apply qzb|apply qzc|apply qzd|apply qze|intro(_:Nat))
        conv=>whnf
        intro g2 hg
        refine congrArg Value.bool (qjC hy ?_).symm
        rw [hgB,qnA cc1 (by rw [cc2,qqJ,nb1 z4];rfl)];simp
       ·repeat((conv=>whnf);first|apply qza|apply qzb|apply qzc|apply qzd|apply qze|intro(_:Nat))
        conv=>whnf
        refine⟨fun z5=>?_,fun z5=>?_⟩
        ·repeat((conv=>whnf);first|apply qza|apply qzb|apply qzc|apply qzd|apply qze|intro(_:Nat))
         conv=>whnf
         refine⟨fun _=>?_,fun hx=>absurd (((decide_eq_true (show(0:Int)≤(n:Int) by omega))).symm.trans hx) (by decide)⟩
         repeat((conv=>whnf);first|apply qza|apply qzb|apply qzc|apply qzd|apply qze|intro(_:Nat))
         conv=>whnf
         intro g2 hg
         refine congrArg Value.bool (qjC hy ?_).symm
         rw [hgB,qnA cc1 (by rw [cc2,qqJ,decide_eq_false (bneT z5)];simp)];simp
        ·repeat((conv=>whnf);first|apply qza|apply qzb|apply qzc|apply qzd|apply qze|intro(_:Nat))
         conv=>whnf
         refine fun fr w hw=>⟨n+1,congrArg (fun z=>[Value.int .i64 z]) (wr1 hn' e1 e2).symm,⟨hn',by rw [qrB cc1,hpn,cc2,qqJ,nb0 z4,decide_eq_true (bneF z5)];rfl⟩,dec hn',?_⟩
         exact hw.fit (by simp [fitL,Res.eqv,qAA,conc])
      ·have hnL:=of_decide_eq_false hln
       rw [List.take_of_length_le (by omega)] at hpn
       repeat((conv=>whnf);first|apply qza|apply qzb|apply qzc|apply qzd|apply qze|intro(_:Nat))
       conv=>whnf
       refine⟨fun h=>(nomatch h),fun _=>?_⟩
       repeat((conv=>whnf);first|apply qza|apply qzb|apply qzc|apply qzd|apply qze|intro(_:Nat))
       conv=>whnf
       refine fun fr w hw=>⟨k+1,congrArg (fun z=>[Value.int .i64 z]) (wr1 h' g1 g2).symm,⟨h',hp.succ hy (by rw [hgB,decide_eq_true z3',hpn];rfl)⟩,dec h',?_⟩
       exact hw.fit (by simp [fitL,Res.eqv,qAA,conc])
    ·repeat((conv=>whnf);first|apply qza|apply qzb|apply qzc|apply qzd|apply qze|intro(_:Nat))
     conv=>whnf
     intro g2 hg
     have:=of_decide_eq_false hlt
     rw [qyL z1' z2' hp (by omega)])
/- Worlds: versions: are they right? The document's answer. -/
open Go.Proofs.YtkogfpniapaigaaGreat.Sx Go.RowKit
theorem qJP (g:GW) {cs:List Value} {x:Version} (hx:rVe g cs x) (hsn:SnS x.snap):OkV Tryz.prog qJF [.agg ⟨cs⟩] g (.bool (q4A x)):=by
 obtain⟨a,b,d,n,rfl,hS,hG⟩:=hx
 have hS0:=hS
 obtain⟨_,_,_,he,hl,hr,hk⟩:=hS
 cases he
 obtain⟨oa,ca,rfl,a1,a2,a0,hl1⟩:=id hl
 obtain⟨ob,cb,rfl,b1,b2,b0,hr1⟩:=id hr
 obtain⟨od,cd,rfl,d1,d2,d0,hk1⟩:=id hk
 obtain⟨og,cg,rfl,g1,g2,g0,hG1⟩:=id hG
 exact Ok.of_fn hm noT 0 qAF (args:=[.v (.agg ⟨[.slice oa x.snap.listens.length ca,.slice ob x.snap.rules.length cb,.slice od x.snap.clusters.length cd,.slice og x.groups.length cg,.bool x.freed]⟩)]) (by
  repeat((conv=>whnf);first|apply qza|apply qzb|apply qzc|apply qzd|apply qze|intro(_:Nat))
  conv=>whnf
  refine .inl ⟨_,qyR _ hS0 hsn,?_⟩
  repeat((conv=>whnf);first|apply qza|apply qzb|apply qzc|apply qzd|apply qze|intro(_:Nat))
  conv=>whnf
  refine⟨fun z1=>?_,fun z1=>?_⟩
  ·repeat((conv=>whnf);first|apply qza|apply qzb|apply qzc|apply qzd|apply qze|intro(_:Nat))
   conv=>whnf
   intro g2 hg
   rw [qaK (nb1 z1)]
  ·have z1':=nb0 z1
   repeat((conv=>whnf);first|apply qza|apply qzb|apply qzc|apply qzd|apply qze|intro(_:Nat))
   conv=>whnf
   refine⟨fun z2=>?_,fun z2=>?_⟩
   ·repeat((conv=>whnf);first|apply qza|apply qzb|apply qzc|apply qzd|apply qze|intro(_:Nat))
    conv=>whnf
    intro g2 hg
    rw [qZK (nneT z2)]
   ·have z2':x.groups.length=x.snap.clusters.length:=nneF z2
    repeat((conv=>whnf);first|apply qza|apply qzb|apply qzc|apply qzd|apply qze|intro(_:Nat))
    rename_i q0
    conv=>whnf
    refine⟨Nat,fun k=>[.v (.int .i64 k)],fun k=>⟨g,[.blk 0 q0 qCA [.v (.slice oa x.snap.listens.length ca),.v (.slice ob x.snap.rules.length cb),.v (.slice od x.snap.clusters.length cd),.v (.slice og x.groups.length cg),.v (.bool x.freed)]],10,g.w.heap.size⟩,fun k=>k≤x.groups.length∧AllK (qME x.snap.clusters) x.groups k,fun k=>x.groups.length-k,fun fr w hw=>⟨0,rfl,⟨Nat.zero_le _,AllK.zero _ _⟩,hw.fit (by simp [fitL,Res.eqv,qAA,conc])⟩,?_⟩
    rintro k ⟨hkk,hp⟩
    repeat((conv=>whnf);first|apply qza|apply qzb|apply qzc|apply qzd|apply qze|intro(_:Nat))
    conv=>whnf
    refine⟨fun hlt=>?_,fun hlt=>?_⟩
    ·have h':k<x.groups.length:=by have:=of_decide_eq_true hlt;omega
     obtain⟨y,hy⟩:=qBA h'
     obtain⟨aG,rfl,ecG,hecG,⟨nE,rfl,htk,hE⟩,hcG⟩:=hG1 k y hy
     obtain⟨oe,ce,rfl,e1,e2,e0,hE1⟩:=id hE
     obtain⟨c,hcK⟩:=qBA (l:=x.snap.clusters) (i:=k) (by omega)
     obtain⟨aC,rfl,ecC,hecC,⟨vH,rfl,c1,c2,hH⟩,hcC⟩:=hk1 k c hcK
     obtain⟨oh,ch,rfl,h1,h2,h0,hH1⟩:=id hH
     have hgB:qME x.snap.clusters k y=(decide (y.ends.length=c.health.length)&&y.ends.all (q1I c)):=by unfold qME;rw [hcK]
     repeat((conv=>whnf);first|apply qza|apply qzb|apply qzc|apply qzd|apply qze|intro(_:Nat))
     conv=>whnf
     refine⟨aG,rfl,⟨by omega,by omega⟩,?_⟩
     conv=>whnf
     refine⟨_,hcG 1 _ rfl,?_⟩
     repeat((conv=>whnf);first|apply qza|apply qzb|apply qzc|apply qzd|apply qze|intro(_:Nat))
     conv=>whnf
     refine⟨aC,rfl,⟨by omega,by omega⟩,?_⟩
     conv=>whnf
     refine⟨_,hcC 3 _ rfl,?_⟩
     repeat((conv=>whnf);first|apply qza|apply qzb|apply qzc|apply qzd|apply qze|intro(_:Nat))
     conv=>whnf
     refine⟨fun z3=>?_,fun z3=>?_⟩
     ·repeat((conv=>whnf);first|apply qza|apply qzb|apply qzc|apply qzd|apply qze|intro(_:Nat))
      conv=>whnf
      intro g2 hg
      refine congrArg Value.bool (qjC hy ?_).symm
      rw [hgB,decide_eq_false (nneT z3)];rfl
     ·have z3':y.ends.length=c.health.length:=nneF z3
      repeat((conv=>whnf);first|apply qza|apply qzb|apply qzc|apply qzd|apply qze|intro(_:Nat))
      conv=>whnf
      refine⟨Nat,fun n=>[.v (.int .i64 n)],fun n=>⟨g,[.blk 0 q0 qCA [.v (.slice oa x.snap.listens.length ca),.v (.slice ob x.snap.rules.length cb),.v (.slice (some aC) x.snap.clusters.length cd),.v (.slice (some aG) x.groups.length cg),.v (.bool x.freed)]],20,g.w.heap.size⟩,fun n=>n≤y.ends.length∧(y.ends.take n).all (q1I c)=true,fun n=>y.ends.length-n,fun fr w hw=>⟨0,rfl,⟨Nat.zero_le _,by simp⟩,hw.fit (by simp [fitL,Res.eqv,qAA,conc])⟩,?_⟩
      rintro n ⟨hn,hpn⟩
      repeat((conv=>whnf);first|apply qza|apply qzb|apply qzc|apply qzd|apply qze|intro(_:Nat))
      conv=>whnf
      refine⟨aG,rfl,⟨by omega,by omega⟩,?_⟩
      conv=>whnf
      refine⟨_,hcG 1 _ rfl,?_⟩
      repeat((conv=>whnf);first|apply qza|apply qzb|apply qzc|apply qzd|apply qze|intro(_:Nat))
      conv=>whnf
      refine⟨fun hln=>?_,fun hln=>?_⟩
      ·have hn':n<y.ends.length:=by have:=of_decide_eq_true hln;omega
       obtain⟨e,hee⟩:=qBA hn'
       obtain⟨aE,rfl,ecE,hecE,heR,hcE⟩:=hE1 n e hee
       have heR0:=heR
       obtain⟨⟨nx,rfl,u1,u2,hN⟩,u3⟩:=heR
       obtain⟨oN,cN,rfl,n1,n2,n0,hN1⟩:=id hN
       obtain⟨cc1,cc2⟩:=List.getElem?_eq_some_iff.1 hee
       repeat((conv=>whnf);first|apply qza|apply qzb|apply qzc|apply qzd|apply qze|intro(_:Nat))
       conv=>whnf
       refine⟨aG,rfl,⟨by omega,by omega⟩,?_⟩
       conv=>whnf
       refine⟨_,hcG 1 _ rfl,?_⟩
       repeat((conv=>whnf);first|apply qza|apply qzb|apply qzc|apply qzd|apply qze|intro(_:Nat))
       conv=>whnf
       refine⟨aE,rfl,⟨by omega,by omega⟩,?_⟩
       conv=>whnf
       refine⟨_,⟨rfl,hcE⟩,?_⟩
       repeat((conv=>whnf);first|apply qza|apply qzb|apply qzc|apply qzd|apply qze|intro(_:Nat))
       conv=>whnf
       refine .inl ⟨_,qTU _ heR0,?_⟩
       repeat((conv=>whnf);first|apply qza|apply qzb|apply qzc|apply qzd|apply qze|intro(_:Nat))
       conv=>whnf
       refine⟨fun z4=>?_,fun z4=>?_⟩
       ·repeat((conv=>whnf);first|apply qza|apply qzb|apply qzc|apply qzd|apply qze|intro(_:Nat))
        conv=>whnf
        intro g2 hg
        refine congrArg Value.bool (qjC hy ?_).symm
        rw [hgB,qnA cc1 (by rw [cc2,qqJ,nb1 z4];rfl)];simp
       ·repeat((conv=>whnf);first|apply qza|apply qzb|apply qzc|apply qzd|apply qze|intro(_:Nat))
        conv=>whnf
        refine⟨aC,rfl,⟨by omega,by omega⟩,?_⟩
        conv=>whnf
        refine⟨_,hcC 2 _ rfl,?_⟩
        repeat((conv=>whnf);first|apply qza|apply qzb|apply qzc|apply qzd|apply qze|intro(_:Nat))
        conv=>whnf
        refine⟨fun z5=>?_,fun z5=>?_⟩
        ·repeat((conv=>whnf);first|apply qza|apply qzb|apply qzc|apply qzd|apply qze|intro(_:Nat))
         conv=>whnf
         intro g2 hg
         refine congrArg Value.bool (qjC hy ?_).symm
         rw [hgB,qnA cc1 (by rw [cc2,qqJ,decide_eq_false (bneT z5)];simp)];simp
        ·repeat((conv=>whnf);first|apply qza|apply qzb|apply qzc|apply qzd|apply qze|intro(_:Nat))
         conv=>whnf
         refine fun fr w hw=>⟨n+1,congrArg (fun z=>[Value.int .i64 z]) (wr1 hn' e1 e2).symm,⟨hn',by rw [qrB cc1,hpn,cc2,qqJ,nb0 z4,decide_eq_true (bneF z5)];rfl⟩,dec hn',?_⟩
         exact hw.fit (by simp [fitL,Res.eqv,qAA,conc])
      ·have hnL:=of_decide_eq_false hln
       rw [List.take_of_length_le (by omega)] at hpn
       repeat((conv=>whnf);first|apply qza|apply qzb|apply qzc|apply qzd|apply qze|intro(_:Nat))
       conv=>whnf
       refine fun fr w hw=>⟨k+1,congrArg (fun z=>[Value.int .i64 z]) (wr1 h' g1 g2).symm,⟨h',hp.succ hy (by rw [hgB,decide_eq_true z3',hpn];rfl)⟩,dec h',?_⟩
       exact hw.fit (by simp [fitL,Res.eqv,qAA,conc])
    ·repeat((conv=>whnf);first|apply qza|apply qzb|apply qzc|apply qzd|apply qze|intro(_:Nat))
     conv=>whnf
     intro g2 hg
     have:=of_decide_eq_false hlt
     rw [qyL z1' z2' hp (by omega)])
theorem qHT (g:GW) {v:Value} {l:List Retired} (hl:rSl 3 qUA g v l) (n:Int):OkV Tryz.prog qoH [v,.int .i64 n] g (.bool (q1F l n)) :=
 Ok.of_fn hm noT 0 qQH (args:=[.v v,.v (.int .i64 n)]) (by
  obtain⟨oa,cap,rfl,h1,h2,h0,hr⟩:=hl
  repeat((conv=>whnf);first|apply qza|apply qzb|apply qzc|apply qzd|apply qze|intro(_:Nat))
  conv=>whnf
  refine⟨Nat,fun k=>[.v (.int .i64 k)],fun k=>⟨g,[],_,_⟩,fun k=>k≤l.length∧(l.take k).any (fun r=>r.version==n&&r.gone)=false,fun k=>l.length-k,qDA 0 rfl ⟨Nat.zero_le _,by simp⟩ rfl,?_⟩
  rintro k ⟨hk,hp⟩
  repeat((conv=>whnf);first|apply qza|apply qzb|apply qzc|apply qzd|apply qze|intro(_:Nat))
  conv=>whnf
  refine⟨fun hlt=>?_,fun hlt=>?_⟩
  ·have h':k<l.length:=by have:=of_decide_eq_true hlt;omega
   obtain⟨x,hx⟩:=qBA h'
   obtain⟨a,rfl,ec,hec,⟨rfl,_⟩,hc⟩:=hr k x hx
   obtain⟨c1,c2⟩:=List.getElem?_eq_some_iff.1 hx
   have hT:(l.take (k+1)).any (fun r=>r.version==n&&r.gone)=((x.version==n)&&x.gone):=by
    rw [List.take_succ_eq_append_getElem c1,List.any_append,hp,c2];simp
   repeat((conv=>whnf);first|apply qza|apply qzb|apply qzc|apply qzd|apply qze|intro(_:Nat))
   conv=>whnf
   refine⟨a,rfl,⟨by omega,by omega⟩,?_⟩
   conv=>whnf
   refine⟨_,hc 0 _ rfl,?_⟩
   repeat((conv=>whnf);first|apply qza|apply qzb|apply qzc|apply qzd|apply qze|intro(_:Nat))
   conv=>whnf
   refine⟨fun he=>?_,fun he=>?_⟩
   ·repeat((conv=>whnf);first|apply qza|apply qzb|apply qzc|apply qzd|apply qze|intro(_:Nat))
    conv=>whnf
    refine⟨a,rfl,⟨by omega,by omega⟩,?_⟩
    conv=>whnf
    refine⟨_,hc 2 _ rfl,?_⟩
    repeat((conv=>whnf);first|apply qza|apply qzb|apply qzc|apply qzd|apply qze|intro(_:Nat))
    conv=>whnf
    refine⟨fun hgo=>?_,fun hgo=>?_⟩
    ·repeat((conv=>whnf);first|apply qza|apply qzb|apply qzc|apply qzd|apply qze|intro(_:Nat))
     conv=>whnf
     intro g2 hg
     have:q1F l n=true:=List.any_eq_true.2 ⟨x,List.mem_of_getElem? hx,by rw [he,hgo];rfl⟩
     rw [this]
    ·repeat((conv=>whnf);first|apply qza|apply qzb|apply qzc|apply qzd|apply qze|intro(_:Nat))
     conv=>whnf
     refine fun fr w hw=>⟨k+1,congrArg (fun z=>[Value.int .i64 z]) (wr1 h' h1 h2).symm,⟨h',by rw [hT,hgo];simp⟩,dec h',hw⟩
   ·repeat((conv=>whnf);first|apply qza|apply qzb|apply qzc|apply qzd|apply qze|intro(_:Nat))
    conv=>whnf
    refine fun fr w hw=>⟨k+1,congrArg (fun z=>[Value.int .i64 z]) (wr1 h' h1 h2).symm,⟨h',by rw [hT,he];rfl⟩,dec h',hw⟩
  ·repeat((conv=>whnf);first|apply qza|apply qzb|apply qzc|apply qzd|apply qze|intro(_:Nat))
   conv=>whnf
   intro g2 hg
   have:=of_decide_eq_false hlt
   rw [List.take_of_length_le (by omega)] at hp
   rw [q1F,hp])
end Go.Proofs.YtkogfpniapaigaaGreat
