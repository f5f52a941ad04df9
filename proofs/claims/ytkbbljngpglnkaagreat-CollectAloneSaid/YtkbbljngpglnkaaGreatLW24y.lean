/- Collectors: what law 24 asks of other layers: epochs, limbo, gates. -/
import Derived.Test.YtkbbljngpglnkaaGreatLW9l
import Derived.Test.YtkbbljngpglnkaaGreatPP60
import Derived.Test.YtkbbljngpglnkaaGreatLW20k
set_option linter.unusedVariables false
set_option linter.unusedSimpArgs false
namespace Go.Proofs.YtkbbljngpglnkaaGreat
open Go.Proofs.YtkbbljngpglnkaaGreat.Sx Go.RowKit
set_option maxHeartbeats 16000000
set_option maxRecDepth 100000
def tCan:List (Nat×FnI):=[(qTJ,qEH),(qVL,qsH)]
theorem qPS:qIH Tryz.prog tCan:=by
 intro x hx
 simp only [tCan,List.mem_cons,List.not_mem_nil,or_false] at hx
 rcases hx with rfl|rfl
 ·exact⟨_,_,q2I⟩
 ·exact⟨_,_,q3K⟩
theorem qhT (g:GW) {v:Value} {l:List Int} {e:Int} (hl:rSl 1 rInt g v l) (he:0≤e∧e<1000000000000):OkV Tryz.prog q3N [.int .i64 e,v] g (.bool (canD l e)):=by
 obtain⟨oa,ca,rfl,a1,a2,a0,hr⟩:=id hl
 have hw1:IntKind.i64.wrap (e+1)=e+1:=by rw [IntKind.wrap_i64];omega
 exact Ok.of_fn hm qPS 3 qZN (args:=[.v (.int .i64 e),.v (.slice oa l.length ca)]) (by
  repeat((conv=>whnf);first|apply qza|apply qzb|apply qzc|apply qzd|apply qze|intro(_:Nat))
  rename_i q0
  conv=>whnf
  refine⟨Nat,fun k=>[.v (.int .i64 k)],fun _=>⟨g,_,_,_⟩,fun k=>k≤l.length∧canD (l.take k) e=true,fun k=>l.length-k,qFA 0 rfl ⟨Nat.zero_le _,rfl⟩ rfl,?_⟩
  rintro k ⟨hk,hcd⟩
  have hk:k≤l.length:=hk
  have hcd:canD (l.take k) e=true:=hcd
  repeat((conv=>whnf);first|apply qza|apply qzb|apply qzc|apply qzd|apply qze|intro(_:Nat))
  conv=>whnf
  refine⟨fun hlt=>?_,fun hlt=>?_⟩
  ·have h':k<l.length:=by have h9:(k:Int)<l.length:=of_decide_eq_true hlt;omega
   obtain⟨p,hp⟩:=qBA h'
   obtain⟨a,rfl,ec,hec,⟨rfl,hpi⟩,hcc⟩:=hr k p hp
   repeat((conv=>whnf);first|apply qza|apply qzb|apply qzc|apply qzd|apply qze|intro(_:Nat))
   conv=>whnf
   refine⟨a,rfl,⟨by show(0:Int)≤k;omega,by show(k:Int)<l.length;omega⟩,?_⟩
   repeat((conv=>whnf);first|apply qza|apply qzb|apply qzc|apply qzd|apply qze|intro(_:Nat))
   conv=>whnf
   refine⟨_,hcc 0 _ rfl,?_⟩
   repeat((conv=>whnf);first|apply qza|apply qzb|apply qzc|apply qzd|apply qze|intro(_:Nat))
   conv=>whnf
   refine⟨qbL,?_⟩
   repeat((conv=>whnf);first|apply qza|apply qzb|apply qzc|apply qzd|apply qze|intro(_:Nat))
   have hcs:canD (l.take (k+1)) e=(decide (p=0)||decide (p=e+1)):=by
    unfold canD at hcd ⊢
    rw [List.take_add_one,hp,List.all_append,hcd]
    simp
   have hend:∀ g2:GW,(decide (p=0)||decide (p=e+1))=false→Value.bool false=Value.bool (canD l e):=fun _ h=>by
    have:canD l e=false:=by
     unfold canD
     rw [List.all_eq_false]
     exact⟨p,List.mem_of_getElem? hp,by rw [h];decide⟩
    rw [this]
   conv=>whnf
   refine⟨fun y0=>?_,fun y0=>?_⟩
   ·have y0:p=0:=beqT y0
    repeat'((conv=>whnf);first|apply qza|apply qzb|apply qzc|apply qzd|apply qze|intro(_:Nat)|refine⟨fun _=>?_,fun h=>absurd h.symm Bool.false_ne_true⟩|refine⟨fun h=>absurd h Bool.false_ne_true,fun _=>?_⟩|fail)
    conv=>whnf
    refine fun fr w hw=>⟨k+1,congrArg (fun z=>[Value.int .i64 z]) (wr1 h' a1 a2).symm,⟨h',by rw [hcs,decide_eq_true y0];rfl⟩,dec h',hw.fit (by simp [fitL,Res.eqv,qAA,conc])⟩
   ·have y0:¬ p=0:=beqF y0
    repeat((conv=>whnf);first|apply qza|apply qzb|apply qzc|apply qzd|apply qze|intro(_:Nat))
    conv=>whnf
    refine dT (by omega) ?_
    by_cases hpe:p=e+1
    ·repeat((conv=>whnf);first|apply qza|apply qzb|apply qzc|apply qzd|apply qze|intro(_:Nat))
     conv=>whnf
     refine⟨fun hx=>absurd hx (by rw [hw1];simp [hpe]),fun _=>?_⟩
     repeat((conv=>whnf);first|apply qza|apply qzb|apply qzc|apply qzd|apply qze|intro(_:Nat))
     conv=>whnf
     refine fun fr w hw=>⟨k+1,congrArg (fun z=>[Value.int .i64 z]) (wr1 h' a1 a2).symm,⟨h',by rw [hcs,decide_eq_true hpe];simp⟩,dec h',hw.fit (by simp [fitL,Res.eqv,qAA,conc])⟩
    ·repeat((conv=>whnf);first|apply qza|apply qzb|apply qzc|apply qzd|apply qze|intro(_:Nat))
     conv=>whnf
     refine⟨fun _=>?_,fun hx=>absurd hx (by rw [hw1];simp [hpe])⟩
     repeat((conv=>whnf);first|apply qza|apply qzb|apply qzc|apply qzd|apply qze|intro(_:Nat))
     conv=>whnf
     intro g2 hg
     exact hend g2 (by rw [decide_eq_false y0,decide_eq_false hpe];rfl)
  have hz1:k=l.length:=by have h9:¬ (k:Int)<l.length:=of_decide_eq_false hlt;omega
  subst hz1
  rw [List.take_length] at hcd
  repeat((conv=>whnf);first|apply qza|apply qzb|apply qzc|apply qzd|apply qze|intro(_:Nat))
  conv=>whnf
  intro g2 hg
  rw [hcd])
theorem qhS (g:GW) {v:Value} {l:List Int} {e:Int} (hl:rSl 1 rInt g v l) (he:0≤e∧e<1000000000000):OkV Tryz.prog qfM [.int .i64 e,v] g (.int .i64 (upI e (canD l e))):=by
 have hl0:=hl
 obtain⟨oa,ca,rfl,a1,a2,a0,hr⟩:=id hl
 have hw1:IntKind.i64.wrap (e+1)=e+1:=by rw [IntKind.wrap_i64];omega
 exact Ok.of_fn hm noT 0 q8L (args:=[.v (.int .i64 e),.v (.slice oa l.length ca)]) (by
  repeat((conv=>whnf);first|apply qza|apply qzb|apply qzc|apply qzd|apply qze|intro(_:Nat))
  conv=>whnf
  refine dT (by omega) ?_
  repeat((conv=>whnf);first|apply qza|apply qzb|apply qzc|apply qzd|apply qze|intro(_:Nat))
  conv=>whnf
  refine .inl ⟨_,qhT _ hl0 he,?_⟩
  repeat((conv=>whnf);first|apply qza|apply qzb|apply qzc|apply qzd|apply qze|intro(_:Nat))
  conv=>whnf
  refine⟨fun z=>?_,fun z=>?_⟩
  ·rw [z]
   repeat((conv=>whnf);first|apply qza|apply qzb|apply qzc|apply qzd|apply qze|intro(_:Nat))
   conv=>whnf
   intro g2 hg
   show Value.int .i64 (IntKind.i64.wrap (e+1))=.int .i64 (e+1)
   rw [hw1]
  ·rw [z]
   repeat((conv=>whnf);first|apply qza|apply qzb|apply qzc|apply qzd|apply qze|intro(_:Nat))
   conv=>whnf
   intro g2 hg
   rfl)
def DueP (l:List Retired) (n:Int) (x:Value) (g':GW):Prop:=∃ oa cap,x=.slice oa (dueT l n l.length).length cap∧rSl 1 rInt g' (.slice oa (dueT l n l.length).length cap) (dueT l n l.length)
theorem qgT (g:GW) {v:Value} {l:List Retired} {n:Int} (hl:rSl 3 qfA g v l) (hb:l.length≤1000000):Ok Tryz.prog q2N [v,.int .i64 n] g (DueP l n):=by
 obtain⟨oa,ca,rfl,a1,a2,a0,hr⟩:=id hl
 exact Ok.of_fn hm noT 0 qYN (args:=[.v (.slice oa l.length ca),.v (.int .i64 n)]) (by
  repeat((conv=>whnf);first|apply qza|apply qzb|apply qzc|apply qzd|apply qze|intro(_:Nat)|intro(_:OA)_)
  conv=>whnf
  refine⟨Nat×(Option Addr×Nat),fun (k,oX,cX)=>[.row 20 oX (dueT l n k).length cX,.v (.int .i64 k)],fun (k,oX,cX)=>⟨g,.row 20 oX (dueT l n k).length cX qzA 1 ((dueT l n k).map fun x=>Value.int .i64 x) :: [],40,g.w.heap.size⟩,fun (k,oX,cX)=>k≤l.length,fun (k,_)=>l.length-k,?_,?_⟩
  ·intro fr w hw
   exact⟨(0,none,0),rfl,Nat.zero_le _,(hw.nil_row (nx':=40) 20 qzA 1).fit (by simp [fitL,Res.eqv,qAA,conc,dueT])⟩
  rintro⟨k,oX,cX⟩ hk
  have hk:k≤l.length:=hk
  have hlen:=qtL l n k
  conv=>whnf
  refine⟨fun hlt=>?_,fun hlt=>?_⟩
  ·have h':k<l.length:=by have h9:(k:Int)<l.length:=of_decide_eq_true hlt;omega
   obtain⟨x,hx⟩:=qBA h'
   obtain⟨a,rfl,ec,hec,⟨rfl,hxv,hxt⟩,hcc⟩:=hr k x hx
   have hne:dueR x n=false→dueT l n (k+1)=dueT l n k:=fun h=>by
    show dueT l n k++_=_
    rw [hx];simp [h]
   have hye:dueR x n=true→dueT l n (k+1)=dueT l n k++[(k:Int)]:=fun h=>by
    show dueT l n k++_=_
    rw [hx];simp [h]
   repeat((conv=>whnf);first|apply qza|apply qzb|apply qzc|apply qzd|apply qze|intro(_:Nat)|intro(_:OA)_)
   conv=>whnf
   refine⟨a,rfl,⟨by show(0:Int)≤k;omega,by show(k:Int)<l.length;omega⟩,?_⟩
   repeat((conv=>whnf);first|apply qza|apply qzb|apply qzc|apply qzd|apply qze|intro(_:Nat)|intro(_:OA)_)
   conv=>whnf
   refine⟨_,⟨rfl,hcc⟩,?_⟩
   repeat((conv=>whnf);first|apply qza|apply qzb|apply qzc|apply qzd|apply qze|intro(_:Nat)|intro(_:OA)_)
   obtain⟨xv,xt,xg⟩:=x
   cases xg
   ·by_cases hs:qlG xt n
    ·have hd:dueR ⟨xv,xt,false⟩ n=true:=by simp [dueR,hs]
     repeat'((conv=>whnf);first|apply qza|apply qzb|apply qzc|apply qzd|apply qze|intro(_:Nat)|intro(_:OA)_|refine⟨fun _=>?_,fun h=>absurd h.symm Bool.false_ne_true⟩|refine⟨fun h=>absurd h Bool.false_ne_true,fun _=>?_⟩|refine .inl ⟨_,(qJL _ hxt).to (congrArg Value.bool (decide_eq_true hs)),?_⟩|fail)
     conv=>whnf
     refine⟨⟨by unfold maxLen;omega,by omega⟩,fun oa2 cap2=>?_⟩
     repeat((conv=>whnf);first|apply qza|apply qzb|apply qzc|apply qzd|apply qze|intro(_:Nat)|intro(_:OA)_)
     conv=>whnf
     refine fun fr w hw=>⟨(k+1,oa2,cap2),?_,h',dec h',hw.fit ?_⟩
     ·simp only [hye hd,List.length_append,List.length_singleton]
      exact congrArg (fun z=>[Value.slice oa2 ((dueT l n k).length+1) cap2,.int .i64 z]) (wr1 h' a1 a2).symm
     ·simp only [hye hd,List.length_append,List.length_singleton,List.map_append,List.map_cons,List.map_nil]
      simp [fitL,Res.eqv,qAA,conc]
    ·have hd:dueR ⟨xv,xt,false⟩ n=false:=by simp [dueR,hs]
     repeat'((conv=>whnf);first|apply qza|apply qzb|apply qzc|apply qzd|apply qze|intro(_:Nat)|intro(_:OA)_|refine⟨fun _=>?_,fun h=>absurd h.symm Bool.false_ne_true⟩|refine⟨fun h=>absurd h Bool.false_ne_true,fun _=>?_⟩|refine .inl ⟨_,(qJL _ hxt).to (congrArg Value.bool (decide_eq_false hs)),?_⟩|fail)
     conv=>whnf
     refine fun fr w hw=>⟨(k+1,oX,cX),?_,h',dec h',hw.fit ?_⟩
     ·simp only [hne hd]
      exact congrArg (fun z=>[Value.slice oX (dueT l n k).length cX,.int .i64 z]) (wr1 h' a1 a2).symm
     ·simp only [hne hd]
      simp [fitL,Res.eqv,qAA,conc]
   ·have hd:dueR ⟨xv,xt,true⟩ n=false:=by simp [dueR]
    repeat'((conv=>whnf);first|apply qza|apply qzb|apply qzc|apply qzd|apply qze|intro(_:Nat)|intro(_:OA)_|refine⟨fun _=>?_,fun h=>absurd h.symm Bool.false_ne_true⟩|refine⟨fun h=>absurd h Bool.false_ne_true,fun _=>?_⟩|fail)
    conv=>whnf
    refine fun fr w hw=>⟨(k+1,oX,cX),?_,h',dec h',hw.fit ?_⟩
    ·simp only [hne hd]
     exact congrArg (fun z=>[Value.slice oX (dueT l n k).length cX,.int .i64 z]) (wr1 h' a1 a2).symm
    ·simp only [hne hd]
     simp [fitL,Res.eqv,qAA,conc]
  have hz1:k=l.length:=by have h9:¬ (k:Int)<l.length:=of_decide_eq_false hlt;omega
  subst hz1
  repeat((conv=>whnf);first|apply qza|apply qzb|apply qzc|apply qzd|apply qze|intro(_:Nat)|intro(_:OA)_)
  conv=>whnf
  refine fun g1 hg1 hn1 hp1=>?_
  conv=>whnf
  intro g2 hg
  exact⟨_,_,rfl,(q9D hp1.rd (dueT l n l.length) (fun x=>.int .i64 x) rfl fun x hx=>⟨rfl,by have:=qkO _ x hx;unfold InR;omega⟩).mono qYB hg⟩)
theorem qHQ (g:GW) {cs:List Value} {v:Version} (hv:rVe g cs v) (hb:BgV 1000000 v):OkV Tryz.prog qGB [.agg ⟨cs⟩] g (.bool (qhJ v)):=by
 obtain⟨va,vb,vd,vn,rfl,hsn,hG⟩:=hv
 obtain⟨og,cg,rfl,p1,p2,p0,hG1⟩:=id hG
 obtain⟨_,_,_,he2,⟨sa,ta,rfl,_⟩,⟨sb,tb,rfl,_⟩,⟨sd,td,rfl,_⟩⟩:=hsn
 cases he2
 have hgl:=hb.1
 exact Ok.of_fn hm noT 0 qkG (args:=[.v (.agg ⟨[.slice sa v.snap.listens.length ta,.slice sb v.snap.rules.length tb,.slice sd v.snap.clusters.length td,.slice og v.groups.length cg,.bool v.freed]⟩)]) (by
  repeat((conv=>whnf);first|apply qza|apply qzb|apply qzc|apply qzd|apply qze|intro(_:Nat))
  conv=>whnf
  refine⟨Nat,fun k=>[.v (.int .i64 k)],fun _=>⟨g,_,_,_⟩,fun k=>k≤v.groups.length∧(qSD v k).all (fun e=>decide (e.active=0))=true,fun k=>v.groups.length-k,qFA 0 rfl ⟨Nat.zero_le _,rfl⟩ rfl,?_⟩
  rintro k ⟨hk,hA⟩
  have hk:k≤v.groups.length:=hk
  have hA:(qSD v k).all (fun e=>decide (e.active=0))=true:=hA
  repeat((conv=>whnf);first|apply qza|apply qzb|apply qzc|apply qzd|apply qze|intro(_:Nat))
  conv=>whnf
  refine⟨fun hlt=>?_,fun hlt=>?_⟩
  ·have h':k<v.groups.length:=by have h9:(k:Int)<v.groups.length:=of_decide_eq_true hlt;omega
   obtain⟨x,hx⟩:=qBA h'
   obtain⟨a,rfl,ec,hec,⟨xn,rfl,hti,hE⟩,hcc⟩:=hG1 k x hx
   have hxl:x.ends.length≤1000000:=hb.2 x (List.mem_of_getElem? hx)
   obtain⟨on,cn,rfl,r1,r2,r0,hE1⟩:=id hE
   have hk0:(0:Int)≤k:=by omega
   have hk1:(k:Int)<v.groups.length:=by omega
   repeat((conv=>whnf);first|apply qza|apply qzb|apply qzc|apply qzd|apply qze|intro(_:Nat))
   conv=>whnf
   refine⟨Nat,fun j=>[.v (.int .i64 j)],fun _=>⟨g,_,_,_⟩,fun j=>j≤x.ends.length∧(x.ends.take j).all (fun e=>decide (e.active=0))=true,fun j=>x.ends.length-j,qFA 0 rfl ⟨Nat.zero_le _,rfl⟩ rfl,?_⟩
   rintro j ⟨hj,hB⟩
   have hj:j≤x.ends.length:=hj
   have hB:(x.ends.take j).all (fun e=>decide (e.active=0))=true:=hB
   repeat'((conv=>whnf);first|apply qza|apply qzb|apply qzc|apply qzd|apply qze|intro(_:Nat)|refine⟨_,rfl,⟨hk0,hk1⟩,?_⟩|refine⟨_,hcc 1 _ rfl,?_⟩|fail)
   conv=>whnf
   refine⟨fun hlt2=>?_,fun hlt2=>?_⟩
   ·have h2:j<x.ends.length:=by have h9:(j:Int)<x.ends.length:=of_decide_eq_true hlt2;omega
    obtain⟨en,hen⟩:=qBA h2
    obtain⟨ae,rfl,ece,hece,⟨⟨nn,rfl,_⟩,_⟩,hce⟩:=hE1 j en hen
    have hj0:(0:Int)≤j:=by omega
    have hj1:(j:Int)<x.ends.length:=by omega
    repeat'((conv=>whnf);first|apply qza|apply qzb|apply qzc|apply qzd|apply qze|intro(_:Nat)|refine⟨_,rfl,⟨hk0,hk1⟩,?_⟩|refine⟨_,hcc 1 _ rfl,?_⟩|refine⟨_,rfl,⟨hj0,hj1⟩,?_⟩|refine⟨_,hce 2 _ rfl,?_⟩|fail)
    conv=>whnf
    refine⟨fun hz=>?_,fun hz=>?_⟩
    ·have hz:en.active≠0:=bneT hz
     repeat((conv=>whnf);first|apply qza|apply qzb|apply qzc|apply qzd|apply qze|intro(_:Nat))
     conv=>whnf
     intro g2 hg
     have hf:qhJ v=false:=by
      unfold qhJ
      rw [List.all_eq_false]
      refine⟨en,?_,by simp [hz]⟩
      unfold q3A
      exact List.mem_flatMap.2 ⟨x,List.mem_of_getElem? hx,List.mem_of_getElem? hen⟩
     rw [hf]
    ·have hz:en.active=0:=bneF hz
     repeat((conv=>whnf);first|apply qza|apply qzb|apply qzc|apply qzd|apply qze|intro(_:Nat))
     conv=>whnf
     refine fun fr w hw=>⟨j+1,congrArg (fun z=>[Value.int .i64 z]) (wr1 h2 r1 r2).symm,⟨h2,by rw [List.take_add_one,hen,List.all_append,hB];simp [hz]⟩,dec h2,hw.fit (by simp [fitL,Res.eqv,qAA,conc])⟩
   ·have hj2:j=x.ends.length:=by have h9:¬ (j:Int)<x.ends.length:=of_decide_eq_false hlt2;omega
    subst hj2
    rw [List.take_length] at hB
    repeat((conv=>whnf);first|apply qza|apply qzb|apply qzc|apply qzd|apply qze|intro(_:Nat))
    conv=>whnf
    refine fun fr w hw=>⟨k+1,congrArg (fun z=>[Value.int .i64 z]) (wr1 h' p1 p2).symm,⟨h',by rw [qsK hx,List.all_append,hA,hB];rfl⟩,dec h',hw.fit (by simp [fitL,Res.eqv,qAA,conc])⟩
  have hz1:k=v.groups.length:=by have h9:¬ (k:Int)<v.groups.length:=of_decide_eq_false hlt;omega
  subst hz1
  have hte:qSD v v.groups.length=q3A v:=by unfold qSD q3A;rw [List.take_length]
  rw [hte] at hA
  repeat((conv=>whnf);first|apply qza|apply qzb|apply qzc|apply qzd|apply qze|intro(_:Nat))
  conv=>whnf
  intro g2 hg
  show Value.bool true=.bool ((q3A v).all _)
  rw [hA])
def cloB (x:Listen):Bool:=x.drain&&(decide (x.active=0)&&!x.closed)
theorem qwR (x:Listen):cLis (qjD x)=[.string x.name,.bool x.drain,.int .i64 x.active,.bool (x.closed||cloB x)]:=by
 obtain⟨n,d,a,c⟩:=x
 unfold qjD cloB
 cases d<;>cases c<;>by_cases h:a=0<;>simp [cLis,h]
def tClo:List (Nat×FnI):=[(qeH,qzD)]
theorem qOS:qIH Tryz.prog tClo:=by
 intro x hx
 simp only [tClo,List.mem_cons,List.not_mem_nil,or_false] at hx
 subst hx
 exact⟨_,_,qPH⟩
theorem qWR (g:GW) (x:Listen):OkV Tryz.prog qfH [.agg ⟨cLis x⟩] g (.tuple #[.agg ⟨cLis (qjD x)⟩,.bool (cloB x)]):=by
 rw [qwR]
 obtain⟨n,d,a,c⟩:=x
 exact Ok.of_fn hm qOS 2 q1K (args:=[.v (.agg ⟨[.string n,.bool d,.int .i64 a,.bool c]⟩)]) (by
  cases d<;>cases c<;>by_cases h:a=0
  all_goals
   repeat'((conv=>whnf);first|apply qza|apply qzb|apply qzc|apply qzd|apply qze|intro(_:Nat)|refine⟨fun _=>?_,fun h=>absurd h.symm Bool.false_ne_true⟩|refine⟨fun h=>absurd h Bool.false_ne_true,fun _=>?_⟩|refine⟨fun _=>?_,fun hx=>absurd h (beqF hx)⟩|refine⟨fun hx=>absurd (beqT hx) h,fun _=>?_⟩|refine And.intro ?_ ?_|fail)
  all_goals (conv=>whnf)
  all_goals (first|exact Eq.refl _|(
   intro g2 hg
   simp [cloB,h])))
def tHol:List (Nat×FnI):=[(qTJ,qEH),(qUJ,qtF)]
theorem qNS:qIH Tryz.prog tHol:=by
 intro x hx
 simp only [tHol,List.mem_cons,List.not_mem_nil,or_false] at hx
 rcases hx with rfl|rfl
 ·exact⟨_,_,q2I⟩
 ·exact⟨_,_,q3I⟩
theorem qUR (g:GW) {v:Value} {p a:Int} (hl:rSl 1 rInt g v [p]):OkV Tryz.prog qUL [.int .i64 a,v] g (.bool (decide (1≤p∧p≤a+1))):=by
 obtain⟨oa,ca,rfl,a1,a2,a0,hr⟩:=id hl
 obtain⟨ad,rfl,ec,hec,⟨rfl,hpi⟩,hcc⟩:=hr 0 p rfl
 exact Ok.of_fn hm qNS 3 q2K (args:=[.v (.int .i64 a),.v (.slice (some ad) 1 ca)]) (by
  repeat((conv=>whnf);first|apply qza|apply qzb|apply qzc|apply qzd|apply qze|intro(_:Nat))
  rename_i q0
  conv=>whnf
  refine⟨Nat,fun k=>[.v (.int .i64 k)],fun _=>⟨g,_,_,_⟩,fun k=>k≤1∧(k=1→¬ (1≤p∧p≤a+1)),fun k=>1-k,qFA 0 rfl ⟨Nat.zero_le _,fun h=>absurd h (by decide)⟩ rfl,?_⟩
  rintro k ⟨hk,hcd⟩
  have hk:k≤1:=hk
  have hcd:k=1→¬ (1≤p∧p≤a+1):=hcd
  repeat((conv=>whnf);first|apply qza|apply qzb|apply qzc|apply qzd|apply qze|intro(_:Nat))
  conv=>whnf
  refine⟨fun hlt=>?_,fun hlt=>?_⟩
  ·have h':k=0:=by have h9:(k:Int)<1:=of_decide_eq_true hlt;omega
   subst h'
   have hnx:((0+1:Nat):Int)=IntKind.i64.wrap (((0:Nat):Int)+1):=by rw [IntKind.wrap_i64];rfl
   repeat((conv=>whnf);first|apply qza|apply qzb|apply qzc|apply qzd|apply qze|intro(_:Nat))
   conv=>whnf
   refine⟨ad,rfl,⟨by decide,by decide⟩,?_⟩
   repeat((conv=>whnf);first|apply qza|apply qzb|apply qzc|apply qzd|apply qze|intro(_:Nat))
   conv=>whnf
   refine⟨_,hcc 0 _ rfl,?_⟩
   repeat((conv=>whnf);first|apply qza|apply qzb|apply qzc|apply qzd|apply qze|intro(_:Nat))
   conv=>whnf
   refine⟨qfJ,?_⟩
   conv=>whnf
   refine⟨fun y0=>?_,fun y0=>?_⟩
   ·have y0:p<1:=of_decide_eq_true y0
    repeat'((conv=>whnf);first|apply qza|apply qzb|apply qzc|apply qzd|apply qze|intro(_:Nat)|refine⟨fun _=>?_,fun h=>absurd h.symm Bool.false_ne_true⟩|refine⟨fun h=>absurd h Bool.false_ne_true,fun _=>?_⟩|fail)
    conv=>whnf
    refine fun fr w hw=>⟨1,congrArg (fun z=>[Value.int .i64 z]) hnx,⟨Nat.le_refl _,fun _ h=>by omega⟩,by show 1-1<1-0;decide,hw.fit (by simp [fitL,Res.eqv,qAA,conc])⟩
   ·have y0:¬ p<1:=of_decide_eq_false y0
    have hw1:IntKind.i64.wrap (p-1)=p-1:=by unfold InR at hpi;rw [IntKind.wrap_i64];omega
    repeat((conv=>whnf);first|apply qza|apply qzb|apply qzc|apply qzd|apply qze|intro(_:Nat))
    by_cases hq:a<p-1
    ·conv=>whnf
     refine⟨fun h=>absurd h (by rw [hw1];simp [hq]),fun _=>?_⟩
     repeat((conv=>whnf);first|apply qza|apply qzb|apply qzc|apply qzd|apply qze|intro(_:Nat))
     conv=>whnf
     refine fun fr w hw=>⟨1,congrArg (fun z=>[Value.int .i64 z]) hnx,⟨Nat.le_refl _,fun _ h=>by omega⟩,by show 1-1<1-0;decide,hw.fit (by simp [fitL,Res.eqv,qAA,conc])⟩
    ·conv=>whnf
     refine⟨fun _=>?_,fun h=>absurd h (by rw [hw1];simp [hq])⟩
     repeat((conv=>whnf);first|apply qza|apply qzb|apply qzc|apply qzd|apply qze|intro(_:Nat))
     conv=>whnf
     intro g2 hg
     rw [decide_eq_true (by omega:1≤p∧p≤a+1)]
  have hz1:k=1:=by have h9:¬ (k:Int)<1:=of_decide_eq_false hlt;omega
  repeat((conv=>whnf);first|apply qza|apply qzb|apply qzc|apply qzd|apply qze|intro(_:Nat))
  conv=>whnf
  intro g2 hg
  rw [decide_eq_false (hcd hz1)])
/- The law CollectAlone. -/
open Go.Proofs.YtkbbljngpglnkaaGreat.Sx Go.RowKit
theorem q5T {b b':Bool} {z z':Int} (h:b=b') (h2:z=z'):[Value.bool b,.int .i64 z]=[Value.bool b',.int .i64 z']:=by rw [h,h2]
theorem quS {b b' z z':Int} (h:b=b') (h2:z=z'):[Value.int .i64 b,.int .i64 z]=[Value.int .i64 b',.int .i64 z']:=by rw [h,h2]
theorem qLJ (g:GW) {cs:List Value} {w:Wd} {t:Int} (hw:rWo g cs w) (ht:InR t):OkV Tryz.prog qbD [.agg ⟨cs⟩,.int .i64 t] g (.bool true):=by
 obtain⟨oa,ca,ob,cb,oc,cc,od,cd,oe,ce,rfl⟩:=qPA hw
 exact Ok.of_fn hm noT 0 qVD (args:=[.v (.agg ⟨wQ w oa ca ob cb oc cc od cd oe ce⟩),.v (.int .i64 t)]) (by
  repeat((conv=>whnf);first|apply qza|apply qzb|apply qzc|apply qzd|apply qze|intro(_:Nat))
  refine .inr ((qIL _ hw).mono fun v g1 hg1 hB=>?_)
  obtain⟨b,rfl,hB⟩:=hB
  repeat((conv=>whnf);first|apply qza|apply qzb|apply qzc|apply qzd|apply qze|intro(_:Nat))
  conv=>whnf
  refine⟨fun z1=>?_,fun z1=>?_⟩
  ·repeat((conv=>whnf);first|apply qza|apply qzb|apply qzc|apply qzd|apply qze|intro(_:Nat))
   conv=>whnf
   refine .inl ⟨_,qJA _,?_⟩
   repeat((conv=>whnf);first|apply qza|apply qzb|apply qzc|apply qzd|apply qze|intro(_:Nat))
   conv=>whnf
   intro g2 hg
   rfl
  obtain⟨hb,hsn⟩:=hB z1
  have hb':=BgW.up (K':=1000000) hb (by decide)
  have hw1:=qGA _ _ _ _ hg1 hw
  repeat((conv=>whnf);first|apply qza|apply qzb|apply qzc|apply qzd|apply qze|intro(_:Nat))
  refine .inr ((qHL _ hw1).mono fun v g2 hg2 hC=>?_)
  obtain⟨b,rfl,hC⟩:=hC
  have hw2:=qGA _ _ _ _ hg2 hw1
  repeat((conv=>whnf);first|apply qza|apply qzb|apply qzc|apply qzd|apply qze|intro(_:Nat))
  conv=>whnf
  refine⟨fun z2=>?_,fun z2=>?_⟩
  ·repeat((conv=>whnf);first|apply qza|apply qzb|apply qzc|apply qzd|apply qze|intro(_:Nat))
   conv=>whnf
   refine .inl ⟨_,qJA _,?_⟩
   repeat((conv=>whnf);first|apply qza|apply qzb|apply qzc|apply qzd|apply qze|intro(_:Nat))
   conv=>whnf
   intro g2 hg
   rfl
  have hcalm:=hC (nb0 z2)
  have hM2:=qBJ g2 (k:=5) (by decide) ht
  repeat((conv=>whnf);first|apply qza|apply qzb|apply qzc|apply qzd|apply qze|intro(_:Nat))
  conv=>whnf
  refine .inl ⟨_,qyA _ hw2 hM2 hsn hb',?_⟩
  repeat((conv=>whnf);first|apply qza|apply qzb|apply qzc|apply qzd|apply qze|intro(_:Nat))
  conv=>whnf
  refine⟨fun z5=>?_,fun z5=>?_⟩
  ·repeat((conv=>whnf);first|apply qza|apply qzb|apply qzc|apply qzd|apply qze|intro(_:Nat))
   conv=>whnf
   refine .inl ⟨_,qJA _,?_⟩
   repeat((conv=>whnf);first|apply qza|apply qzb|apply qzc|apply qzd|apply qze|intro(_:Nat))
   conv=>whnf
   intro g2 hg
   rfl
  have hs5:=nb0 z5
  obtain⟨_,_,_,hS⟩:=suitB_iff.1 hs5
  have hright:=hS.right
  have hep:0≤w.epoch∧w.epoch<1000000000000:=by
   obtain⟨h1,_⟩:=q8B hright
   unfold qbA at h1
   simp only [Bool.and_eq_true,decide_eq_true_eq] at h1
   exact⟨h1.1.1.1.2,by have:=hcalm.ep;omega⟩
  rcases qTQ hright with hlk|hlk
  rotate_left
  ·have hway:=qrI hs5 (qZK 5 t) (by rw [hlk];decide)
   repeat((conv=>whnf);first|apply qza|apply qzb|apply qzc|apply qzd|apply qze|intro(_:Nat))
   refine .inr ((qeF _ hw2 hM2 hsn hb' hway rfl (by decide)).mono fun v g3 hg3 hO=>?_)
   obtain⟨csa,msa,rfl,hwa,hMa⟩:=hO
   obtain⟨r1,r2,r3,r4,r5,r6,r7,r8,r9,r10,rfl⟩:=qPA hwa
   obtain⟨s1,s2,s3,s4,s5,s6,rfl⟩:=qNB hMa
   have hwI:OkV Tryz.prog qYE _ _ _:=(qQM _ hwa hsn).to (congrArg Value.bool hright)
   repeat'((conv=>whnf);first|apply qza|apply qzb|apply qzc|apply qzd|apply qze|intro(_:Nat)|refine .inl ⟨_,hwI,?_⟩|refine⟨fun _=>?_,fun h=>absurd h.symm Bool.false_ne_true⟩|refine⟨fun h=>absurd h Bool.false_ne_true,fun _=>?_⟩|refine⟨fun h=>absurd rfl (bneT h),fun _=>?_⟩|refine⟨fun _=>?_,fun h=>absurd hlk (beqF h)⟩|refine .inl ⟨_,qJA _,?_⟩|refine .inl ⟨_,qFL _ (qGA _ _ _ _ hg3 hw2) hwa,?_⟩|fail)
   conv=>whnf
   intro g2 hg
   rfl
  obtain⟨K,n,hK,hway,hdn,hans⟩:=qiQ hs5 (qZK 5 t) hlk hep.2 hb.1.2.2.2.2 hb.1.2.2.1
  obtain⟨mop,mth,mpc,mep,mve,mli,mcl,men,mot,msl,mwo,mlk,mi,mk,msu,mdo,man,mco⟩:=n
  simp only at hans hdn
  subst hans
  subst hdn
  obtain⟨x1,x2,x3,x4,x5,x6,x7⟩:=qmO w
  repeat((conv=>whnf);first|apply qza|apply qzb|apply qzc|apply qzd|apply qze|intro(_:Nat))
  refine .inr ((qeF _ hw2 hM2 hsn hb' hway rfl hK).mono fun v g3 hg3 hO=>?_)
  obtain⟨csa,msa,rfl,hwa,hMa⟩:=hO
  obtain⟨r1,r2,r3,r4,r5,r6,r7,r8,r9,r10,rfl⟩:=qPA hwa
  obtain⟨s1,s2,s3,s4,s5,s6,rfl⟩:=qNB hMa
  have hw3:=qGA _ _ _ _ hg3 hw2
  have hxl:(colW w).listens.length=w.listens.length:=by rw [x5,List.length_map]
  have y3:((colW w).limbo.length:Int)=w.limbo.length:=by rw [x3]
  have y4:((colW w).versions.length:Int)=w.versions.length:=by rw [x4]
  have y5:((colW w).listens.length:Int)=w.listens.length:=by rw [hxl]
  have hlk1:¬ w.lock=1:=by rw [hlk];decide
  have hwI:OkV Tryz.prog qYE _ _ _:=(qQM _ hwa (CWay.sn hway hsn)).to (congrArg Value.bool (hway.right hright))
  repeat'((conv=>whnf);first|apply qza|apply qzb|apply qzc|apply qzd|apply qze|intro(_:Nat)|refine .inl ⟨_,hwI,?_⟩|refine⟨fun _=>?_,fun h=>absurd h.symm Bool.false_ne_true⟩|refine⟨fun h=>absurd h Bool.false_ne_true,fun _=>?_⟩|refine⟨fun h=>absurd y3 (bneT h),fun _=>?_⟩|refine⟨fun h=>absurd y4 (bneT h),fun _=>?_⟩|refine⟨fun h=>absurd y5 (bneT h),fun _=>?_⟩|refine⟨fun h=>absurd (beqT h) hlk1,fun _=>?_⟩|fail)
  conv=>whnf
  refine .inl ⟨_,qhS _ (qIR hw3) hep,?_⟩
  repeat((conv=>whnf);first|apply qza|apply qzb|apply qzc|apply qzd|apply qze|intro(_:Nat))
  refine .inr ((qgT _ (qIM hw3) hb'.1.2.2.2.2).mono fun v g4 hg4 hD=>?_)
  obtain⟨oD,cD,rfl,hDl⟩:=hD
  replace hDl:rSl 1 rInt g4 (.slice oD (dueT w.limbo (nowE w) w.limbo.length).length cD) (dueT w.limbo (nowE w) w.limbo.length):=hDl
  have hw4:=qGA _ _ _ _ hg4 hw3
  have hx4:=qGA _ _ _ _ hg4 hwa
  have hFr:=qIM hw4
  have hFx:=qIM hx4
  have hFv:=qfN hw4
  have hll:=hb'.1.2.2.2.2
  have hDlen:=qtL w.limbo (nowE w) w.limbo.length
  repeat((conv=>whnf);first|apply qza|apply qzb|apply qzc|apply qzd|apply qze|intro(_:Nat))
  conv=>whnf
  refine⟨Nat,fun k=>[.v (.int .i64 (cntD (nowE w) w k)),.v (.int .i64 k)],fun _=>⟨g4,_,_,_⟩,fun k=>k≤w.limbo.length,fun k=>w.limbo.length-k,qFA 0 rfl (Nat.zero_le _) rfl,?_⟩
  intro k hk
  have hk:k≤w.limbo.length:=hk
  have hcl:=qlQ (nowE w) w k
  repeat((conv=>whnf);first|apply qza|apply qzb|apply qzc|apply qzd|apply qze|intro(_:Nat))
  conv=>whnf
  refine⟨fun hlt=>?_,fun hlt=>?_⟩
  ·have h':k<w.limbo.length:=by have h9:(k:Int)<w.limbo.length:=of_decide_eq_true hlt;omega
   have hk0:(0:Int)≤k:=by omega
   have hk1:(k:Int)<w.limbo.length:=by omega
   have hk2:(k:Int)<(colW w).limbo.length:=by rw [x3];omega
   obtain⟨r,hr⟩:=qBA h'
   obtain⟨u,hu,hv0,_⟩:=qVQ hright hr
   have hul:=(List.getElem?_eq_some_iff.1 hu).1
   have hv1:r.version<w.versions.length:=by omega
   have hxr:(colW w).limbo[k]?=some (if dueV (nowE w) w k then {r with gone:=true} else r):=by rw [x7,hr];rfl
   obtain⟨ar,rfl⟩:=qUA hFr hr
   obtain⟨_,hcr⟩:=qPK hFr hr
   obtain⟨ax,rfl⟩:=qUA hFx hxr
   obtain⟨_,hcx⟩:=qPK hFx hxr
   obtain⟨av,rfl⟩:=qUA hFv hu
   obtain⟨oL,cL,oR,cR,oC,cC,oG,cG,hcv,hsn3,_,hG⟩:=qzL hFv hu
   have hub:=hb'.2.2 u (List.mem_of_getElem? hu)
   have hid:OkV Tryz.prog qGB _ _ _:=qHQ g4 ⟨_,_,_,_,rfl,hsn3,hG⟩ hub
   have hdv:=qvS (e:=nowE w) hr hu
   have hisd:=qtS (e:=nowE w) hr
   repeat((conv=>whnf);first|apply qza|apply qzb|apply qzc|apply qzd|apply qze|intro(_:Nat))
   conv=>whnf
   refine⟨Nat,fun j=>[.v (.bool (isB (dueT w.limbo (nowE w) w.limbo.length) k j)),.v (.int .i64 j)],fun _=>⟨g4,_,_,_⟩,fun j=>j≤(dueT w.limbo (nowE w) w.limbo.length).length,fun j=>(dueT w.limbo (nowE w) w.limbo.length).length-j,qFA 0 rfl (Nat.zero_le _) rfl,?_⟩
   intro j hj
   have hj:j≤(dueT w.limbo (nowE w) w.limbo.length).length:=hj
   repeat((conv=>whnf);first|apply qza|apply qzb|apply qzc|apply qzd|apply qze|intro(_:Nat))
   conv=>whnf
   refine⟨fun hlt2=>?_,fun hlt2=>?_⟩
   ·have h2:j<(dueT w.limbo (nowE w) w.limbo.length).length:=by have h9:(j:Int)<(dueT w.limbo (nowE w) w.limbo.length).length:=of_decide_eq_true hlt2;omega
    obtain⟨x,hx⟩:=qBA h2
    obtain⟨ad,rfl⟩:=qUA hDl hx
    obtain⟨_,hcd⟩:=qYQ hDl hx
    have hj0:(0:Int)≤j:=by omega
    have hj1:(j:Int)<(dueT w.limbo (nowE w) w.limbo.length).length:=by omega
    have hst:=qhR (k:=k) hx
    repeat((conv=>whnf);first|apply qza|apply qzb|apply qzc|apply qzd|apply qze|intro(_:Nat))
    conv=>whnf
    refine⟨fun hq=>?_,fun hq=>?_⟩
    ·have hq:isB (dueT w.limbo (nowE w) w.limbo.length) k j=true:=hq
     repeat((conv=>whnf);first|apply qza|apply qzb|apply qzc|apply qzd|apply qze|intro(_:Nat))
     conv=>whnf
     refine fun fr u hu=>⟨j+1,?_,h2,dec h2,hu.fit (by simp [fitL,Res.eqv,qAA,conc])⟩
     exact q5T (by rw [hst,hq];rfl) (by rw [wr (x:=(j:Int)+1) (by unfold InR;omega)];omega)
    ·have hq:isB (dueT w.limbo (nowE w) w.limbo.length) k j=false:=hq
     repeat'((conv=>whnf);first|apply qza|apply qzb|apply qzc|apply qzd|apply qze|intro(_:Nat)|refine⟨_,rfl,⟨hj0,hj1⟩,?_⟩|refine⟨_,hcd 0 _ rfl,?_⟩|fail)
     conv=>whnf
     refine fun fr u hu=>⟨j+1,?_,h2,dec h2,hu.fit (by simp [fitL,Res.eqv,qAA,conc])⟩
     exact q5T (b':=x==(k:Int)) (by rw [hst,hq];rfl) (by rw [wr (x:=(j:Int)+1) (by unfold InR;omega)];omega)
   have hj2:j=(dueT w.limbo (nowE w) w.limbo.length).length:=by have h9:¬ (j:Int)<(dueT w.limbo (nowE w) w.limbo.length).length:=of_decide_eq_false hlt2;omega
   subst hj2
   repeat((conv=>whnf);first|apply qza|apply qzb|apply qzc|apply qzd|apply qze|intro(_:Nat))
   conv=>whnf
   refine⟨fun q1=>?_,fun q1=>?_⟩
   ·have hdr:dueR r (nowE w)=true:=hisd.symm.trans q1
    rw [hdr,Bool.true_and] at hdv
    have hgf:r.gone=false:=by
     unfold dueR at hdr
     cases hg:r.gone
     ·rfl
     ·rw [hg] at hdr;cases hdr
    by_cases q2:qhJ u=true
    ·have hid2:OkV Tryz.prog qGB _ _ _:=hid.to (congrArg Value.bool q2)
     rw [q2] at hdv
     rw [hdv] at hcx
     have hcn:cntD (nowE w) w (k+1)=cntD (nowE w) w k+1:=by show cntD (nowE w) w k+_=_;rw [hdv];rfl
     obtain⟨rv,rt,rg⟩:=r
     simp only at hgf
     subst hgf
     repeat'((conv=>whnf);first|apply qza|apply qzb|apply qzc|apply qzd|apply qze|intro(_:Nat)|refine⟨fun _=>?_,fun h=>absurd h.symm Bool.false_ne_true⟩|refine⟨fun h=>absurd h Bool.false_ne_true,fun _=>?_⟩|refine⟨_,rfl,⟨hk0,hk1⟩,?_⟩|refine⟨_,rfl,⟨hk0,hk2⟩,?_⟩|refine⟨_,hcx 2 _ rfl,?_⟩|refine⟨_,hcr 2 _ rfl,?_⟩|refine⟨_,hcr 0 _ rfl,?_⟩|refine⟨_,rfl,⟨hv0,hv1⟩,?_⟩|refine⟨_,⟨rfl,hcv⟩,?_⟩|refine .inl ⟨_,hid2,?_⟩|fail)
     conv=>whnf
     refine fun fr u hu=>⟨k+1,?_,h',dec h',hu.fit (by simp [fitL,Res.eqv,qAA,conc])⟩
     exact quS (by rw [hcn];rw [wr (x:=(cntD (nowE w) w k:Int)+1) (by unfold InR;omega)];omega) (by rw [wr (x:=(k:Int)+1) (by unfold InR;omega)];omega)
    ·have q2:qhJ u=false:=by simpa using q2
     have hid2:OkV Tryz.prog qGB _ _ _:=hid.to (congrArg Value.bool q2)
     rw [q2] at hdv
     rw [hdv] at hcx
     have hcn:cntD (nowE w) w (k+1)=cntD (nowE w) w k:=by show cntD (nowE w) w k+_=_;rw [hdv];rfl
     obtain⟨rv,rt,rg⟩:=r
     simp only at hgf
     subst hgf
     repeat'((conv=>whnf);first|apply qza|apply qzb|apply qzc|apply qzd|apply qze|intro(_:Nat)|refine⟨fun _=>?_,fun h=>absurd h.symm Bool.false_ne_true⟩|refine⟨fun h=>absurd h Bool.false_ne_true,fun _=>?_⟩|refine⟨_,rfl,⟨hk0,hk1⟩,?_⟩|refine⟨_,rfl,⟨hk0,hk2⟩,?_⟩|refine⟨_,hcx 2 _ rfl,?_⟩|refine⟨_,hcr 2 _ rfl,?_⟩|refine⟨_,hcr 0 _ rfl,?_⟩|refine⟨_,rfl,⟨hv0,hv1⟩,?_⟩|refine⟨_,⟨rfl,hcv⟩,?_⟩|refine .inl ⟨_,hid2,?_⟩|fail)
     conv=>whnf
     refine fun fr u hu=>⟨k+1,?_,h',dec h',hu.fit (by simp [fitL,Res.eqv,qAA,conc])⟩
     exact quS (by rw [hcn]) (by rw [wr (x:=(k:Int)+1) (by unfold InR;omega)];omega)
   ·have hdr:dueR r (nowE w)=false:=hisd.symm.trans q1
    rw [hdr,Bool.false_and] at hdv
    rw [hdv] at hcx
    have hcn:cntD (nowE w) w (k+1)=cntD (nowE w) w k:=by show cntD (nowE w) w k+_=_;rw [hdv];rfl
    obtain⟨rv,rt,rg⟩:=r
    cases rg
    all_goals (
     repeat'((conv=>whnf);first|apply qza|apply qzb|apply qzc|apply qzd|apply qze|intro(_:Nat)|refine⟨fun _=>?_,fun h=>absurd h.symm Bool.false_ne_true⟩|refine⟨fun h=>absurd h Bool.false_ne_true,fun _=>?_⟩|refine⟨_,rfl,⟨hk0,hk1⟩,?_⟩|refine⟨_,rfl,⟨hk0,hk2⟩,?_⟩|refine⟨_,hcx 2 _ rfl,?_⟩|refine⟨_,hcr 2 _ rfl,?_⟩|refine⟨_,hcr 0 _ rfl,?_⟩|refine⟨_,rfl,⟨hv0,hv1⟩,?_⟩|refine⟨_,⟨rfl,hcv⟩,?_⟩|fail)
     conv=>whnf
     refine fun fr u hu=>⟨k+1,?_,h',dec h',hu.fit (by simp [fitL,Res.eqv,qAA,conc])⟩
     exact quS (by rw [hcn]) (by rw [wr (x:=(k:Int)+1) (by unfold InR;omega)];omega)
     )
  have hz1:k=w.limbo.length:=by have h9:¬ (k:Int)<w.limbo.length:=of_decide_eq_false hlt;omega
  subst hz1
  have hFl:=q4J hw4
  have hFy:=q4J hx4
  have hls:=hb'.1.2.2.1
  repeat((conv=>whnf);first|apply qza|apply qzb|apply qzc|apply qzd|apply qze|intro(_:Nat))
  conv=>whnf
  refine⟨Nat,fun k=>[.v (.int .i64 k)],fun _=>⟨g4,_,_,_⟩,fun k=>k≤w.listens.length,fun k=>w.listens.length-k,qFA 0 rfl (Nat.zero_le _) rfl,?_⟩
  intro k hk
  have hk:k≤w.listens.length:=hk
  repeat((conv=>whnf);first|apply qza|apply qzb|apply qzc|apply qzd|apply qze|intro(_:Nat))
  conv=>whnf
  refine⟨fun hlt2=>?_,fun hlt2=>?_⟩
  ·have h':k<w.listens.length:=by have h9:(k:Int)<w.listens.length:=of_decide_eq_true hlt2;omega
   have hk0:(0:Int)≤k:=by omega
   have hk1:(k:Int)<w.listens.length:=by omega
   have hk2:(k:Int)<(colW w).listens.length:=by rw [hxl];omega
   obtain⟨l,hl⟩:=qBA h'
   have hxr:(colW w).listens[k]?=some (qjD l):=by rw [x5,List.getElem?_map,hl];rfl
   obtain⟨al,rfl⟩:=qUA hFl hl
   obtain⟨_,hcl2⟩:=qZJ hFl hl
   obtain⟨ay,rfl⟩:=qUA hFy hxr
   obtain⟨_,hcy⟩:=qZJ hFy hxr
   have hclo:OkV Tryz.prog qfH _ _ _:=qWR g4 l
   repeat'((conv=>whnf);first|apply qza|apply qzb|apply qzc|apply qzd|apply qze|intro(_:Nat)|refine⟨_,rfl,⟨hk0,hk1⟩,?_⟩|refine⟨_,⟨rfl,hcl2⟩,?_⟩|refine .inl ⟨_,hclo,?_⟩|refine⟨_,rfl,⟨hk0,hk2⟩,?_⟩|refine⟨_,⟨rfl,hcy⟩,?_⟩|fail)
   conv=>whnf
   refine⟨fun h=>absurd h (by simp),fun _=>?_⟩
   repeat((conv=>whnf);first|apply qza|apply qzb|apply qzc|apply qzd|apply qze|intro(_:Nat))
   conv=>whnf
   refine fun fr u hu=>⟨k+1,congrArg (fun z=>[Value.int .i64 z]) (show((k+1:Nat):Int)=IntKind.i64.wrap ((k:Int)+1) by rw [wr (x:=(k:Int)+1) (by unfold InR;omega)];omega),h',dec h',hu.fit (by simp [fitL,Res.eqv,qAA,conc])⟩
  repeat((conv=>whnf);first|apply qza|apply qzb|apply qzc|apply qzd|apply qze|intro(_:Nat))
  conv=>whnf
  refine .inl ⟨_,qJA _,?_⟩
  repeat'((conv=>whnf);first|apply qza|apply qzb|apply qzc|apply qzd|apply qze|intro(_:Nat)|refine⟨fun _=>?_,fun h=>absurd h.symm Bool.false_ne_true⟩|fail)
  refine⟨fun _=>?_,fun h=>absurd x1 (beqF h)⟩
  repeat((conv=>whnf);first|apply qza|apply qzb|apply qzc|apply qzd|apply qze|intro(_:Nat))
  conv=>whnf
  refine⟨fun _=>?_,fun h=>absurd x2 (beqF h)⟩
  repeat((conv=>whnf);first|apply qza|apply qzb|apply qzc|apply qzd|apply qze|intro(_:Nat))
  conv=>whnf
  intro g2 hg
  have hcN:((colN w:Nat):Int)=(cntD (nowE w) w w.limbo.length:Nat):=by rw [qyS]
  rw [hcN]
  simp [c60])
end Go.Proofs.YtkbbljngpglnkaaGreat
