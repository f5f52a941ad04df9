/- Worlds: those that are the same are found the same. -/
import Derived.Test.YtkogfpniapaigaaGreatLW9g
import Derived.Test.YtkogfpniapaigaaGreatPl
set_option linter.unusedVariables false
set_option linter.unusedSimpArgs false
namespace Go.Proofs.YtkogfpniapaigaaGreat
open Go.Proofs.YtkogfpniapaigaaGreat.Sx Go.RowKit
set_option maxHeartbeats 16000000
set_option maxRecDepth 100000
theorem qHP (g:GW) {v v':Value} {l:List Int} (hl:rSl 1 rInt g v l) (hl':rSl 1 rInt g v' l):OkV Tryz.prog qnE [v,v'] g (.bool true) :=
 Ok.of_fn hm noT 0 qfE (args:=[.v v,.v v']) (by
  obtain⟨oa,ca,rfl,a1,a2,a0,ha⟩:=hl
  obtain⟨ob,cb,rfl,b1,b2,b0,hb⟩:=hl'
  repeat((conv=>whnf);first|apply qza|apply qzb|apply qzc|apply qzd|apply qze|intro(_:Nat))
  conv=>whnf
  refine⟨fun hx=>absurd hx (by simp),fun _=>?_⟩
  repeat((conv=>whnf);first|apply qza|apply qzb|apply qzc|apply qzd|apply qze|intro(_:Nat))
  conv=>whnf
  refine⟨Nat,fun k=>[.v (.int .i64 k)],fun _=>⟨g,_,_,_⟩,fun k=>k≤l.length,fun k=>l.length-k,qDA 0 rfl (Nat.zero_le _) rfl,?_⟩
  intro k hk
  repeat((conv=>whnf);first|apply qza|apply qzb|apply qzc|apply qzd|apply qze|intro(_:Nat))
  conv=>whnf
  refine⟨fun hlt=>?_,fun hlt=>?_⟩
  ·have h':k<l.length:=by have:=of_decide_eq_true hlt;omega
   obtain⟨x,hx⟩:=qBA h'
   obtain⟨a,rfl,ec,hec,⟨rfl,_⟩,hc⟩:=ha k x hx
   obtain⟨b,rfl,ec',hec',⟨rfl,_⟩,hc'⟩:=hb k x hx
   repeat((conv=>whnf);first|apply qza|apply qzb|apply qzc|apply qzd|apply qze|intro(_:Nat))
   conv=>whnf
   refine⟨a,rfl,⟨by omega,by omega⟩,?_⟩
   conv=>whnf
   refine⟨_,hc 0 _ rfl,?_⟩
   repeat((conv=>whnf);first|apply qza|apply qzb|apply qzc|apply qzd|apply qze|intro(_:Nat))
   conv=>whnf
   refine⟨b,rfl,⟨by omega,by omega⟩,?_⟩
   conv=>whnf
   refine⟨_,hc' 0 _ rfl,?_⟩
   repeat((conv=>whnf);first|apply qza|apply qzb|apply qzc|apply qzd|apply qze|intro(_:Nat))
   conv=>whnf
   refine⟨fun hx=>absurd hx (by simp),fun _=>?_⟩
   repeat((conv=>whnf);first|apply qza|apply qzb|apply qzc|apply qzd|apply qze|intro(_:Nat))
   conv=>whnf
   refine fun fr w hw=>⟨k+1,congrArg (fun z=>[Value.int .i64 z]) (wr1 h' a1 a2).symm,h',dec h',?_⟩
   exact hw.fit (by simp [fitL,Res.eqv,qAA,conc])
  ·repeat((conv=>whnf);first|apply qza|apply qzb|apply qzc|apply qzd|apply qze|intro(_:Nat))
   conv=>whnf
   intro g2 hg
   rfl)
theorem q5N (g:GW) {v v':Value} {l:List Retired} (hl:rSl 3 qUA g v l) (hl':rSl 3 qUA g v' l):OkV Tryz.prog qpH [v,v'] g (.bool true) :=
 Ok.of_fn hm noT 0 qSH (args:=[.v v,.v v']) (by
  obtain⟨oa,ca,rfl,a1,a2,a0,ha⟩:=hl
  obtain⟨ob,cb,rfl,b1,b2,b0,hb⟩:=hl'
  repeat((conv=>whnf);first|apply qza|apply qzb|apply qzc|apply qzd|apply qze|intro(_:Nat))
  conv=>whnf
  refine⟨fun hx=>absurd hx (by simp),fun _=>?_⟩
  repeat((conv=>whnf);first|apply qza|apply qzb|apply qzc|apply qzd|apply qze|intro(_:Nat))
  conv=>whnf
  refine⟨Nat,fun k=>[.v (.int .i64 k)],fun _=>⟨g,_,_,_⟩,fun k=>k≤l.length,fun k=>l.length-k,qDA 0 rfl (Nat.zero_le _) rfl,?_⟩
  intro k hk
  repeat((conv=>whnf);first|apply qza|apply qzb|apply qzc|apply qzd|apply qze|intro(_:Nat))
  conv=>whnf
  refine⟨fun hlt=>?_,fun hlt=>?_⟩
  ·have h':k<l.length:=by have:=of_decide_eq_true hlt;omega
   obtain⟨x,hx⟩:=qBA h'
   obtain⟨a,rfl,ec,hec,⟨rfl,_⟩,hc⟩:=ha k x hx
   obtain⟨b,rfl,ec',hec',⟨rfl,_⟩,hc'⟩:=hb k x hx
   repeat((conv=>whnf);first|apply qza|apply qzb|apply qzc|apply qzd|apply qze|intro(_:Nat))
   conv=>whnf
   refine⟨a,rfl,⟨by omega,by omega⟩,?_⟩
   conv=>whnf
   refine⟨_,⟨rfl,hc⟩,?_⟩
   repeat((conv=>whnf);first|apply qza|apply qzb|apply qzc|apply qzd|apply qze|intro(_:Nat))
   conv=>whnf
   refine⟨b,rfl,⟨by omega,by omega⟩,?_⟩
   conv=>whnf
   refine⟨_,⟨rfl,hc'⟩,?_⟩
   repeat((conv=>whnf);first|apply qza|apply qzb|apply qzc|apply qzd|apply qze|intro(_:Nat))
   conv=>whnf
   refine⟨fun hx=>absurd hx (by simp),fun _=>?_⟩
   repeat((conv=>whnf);first|apply qza|apply qzb|apply qzc|apply qzd|apply qze|intro(_:Nat))
   conv=>whnf
   refine fun fr w hw=>⟨k+1,congrArg (fun z=>[Value.int .i64 z]) (wr1 h' a1 a2).symm,h',dec h',?_⟩
   exact hw.fit (by simp [fitL,Res.eqv,qAA,conc])
  ·repeat((conv=>whnf);first|apply qza|apply qzb|apply qzc|apply qzd|apply qze|intro(_:Nat))
   conv=>whnf
   intro g2 hg
   rfl)
theorem qqM (g:GW) {v v':Value} {l:List (List Int)} (hl:rSl 1 rRow g v l) (hl':rSl 1 rRow g v' l):OkV Tryz.prog qsH [v,v'] g (.bool true) :=
 Ok.of_fn hm noT 0 qVH (args:=[.v v,.v v']) (by
  obtain⟨oa,ca,rfl,a1,a2,a0,ha⟩:=hl
  obtain⟨ob,cb,rfl,b1,b2,b0,hb⟩:=hl'
  repeat((conv=>whnf);first|apply qza|apply qzb|apply qzc|apply qzd|apply qze|intro(_:Nat))
  conv=>whnf
  refine⟨fun hx=>absurd hx (by simp),fun _=>?_⟩
  repeat((conv=>whnf);first|apply qza|apply qzb|apply qzc|apply qzd|apply qze|intro(_:Nat))
  conv=>whnf
  refine⟨Nat,fun k=>[.v (.int .i64 k)],fun _=>⟨g,_,_,_⟩,fun k=>k≤l.length,fun k=>l.length-k,qDA 0 rfl (Nat.zero_le _) rfl,?_⟩
  intro k hk
  repeat((conv=>whnf);first|apply qza|apply qzb|apply qzc|apply qzd|apply qze|intro(_:Nat))
  conv=>whnf
  refine⟨fun hlt=>?_,fun hlt=>?_⟩
  ·have h':k<l.length:=by have:=of_decide_eq_true hlt;omega
   obtain⟨x,hx⟩:=qBA h'
   obtain⟨a,rfl,ec,hec,⟨n,rfl,hn⟩,hc⟩:=ha k x hx
   obtain⟨b,rfl,ec',hec',⟨n',rfl,hn'⟩,hc'⟩:=hb k x hx
   obtain⟨oc,cc,rfl,c1,c2,c0,hn1⟩:=hn
   obtain⟨od,cd,rfl,d1,d2,d0,hn1'⟩:=hn'
   repeat((conv=>whnf);first|apply qza|apply qzb|apply qzc|apply qzd|apply qze|intro(_:Nat))
   conv=>whnf
   refine⟨a,rfl,⟨by omega,by omega⟩,?_⟩
   conv=>whnf
   refine⟨_,hc 0 _ rfl,?_⟩
   repeat((conv=>whnf);first|apply qza|apply qzb|apply qzc|apply qzd|apply qze|intro(_:Nat))
   conv=>whnf
   refine⟨b,rfl,⟨by omega,by omega⟩,?_⟩
   conv=>whnf
   refine⟨_,hc' 0 _ rfl,?_⟩
   repeat((conv=>whnf);first|apply qza|apply qzb|apply qzc|apply qzd|apply qze|intro(_:Nat))
   conv=>whnf
   refine⟨fun hx=>absurd hx (by simp),fun _=>?_⟩
   repeat((conv=>whnf);first|apply qza|apply qzb|apply qzc|apply qzd|apply qze|intro(_:Nat))
   conv=>whnf
   refine⟨Nat,fun n=>[.v (.int .i64 n)],fun _=>⟨g,_,_,_⟩,fun n=>n≤x.length,fun n=>x.length-n,qDA 0 rfl (Nat.zero_le _) rfl,?_⟩
   intro n hn
   repeat((conv=>whnf);first|apply qza|apply qzb|apply qzc|apply qzd|apply qze|intro(_:Nat))
   conv=>whnf
   refine⟨a,rfl,⟨by omega,by omega⟩,?_⟩
   conv=>whnf
   refine⟨_,hc 0 _ rfl,?_⟩
   repeat((conv=>whnf);first|apply qza|apply qzb|apply qzc|apply qzd|apply qze|intro(_:Nat))
   conv=>whnf
   refine⟨fun hln=>?_,fun hln=>?_⟩
   ·have h2:n<x.length:=by have:=of_decide_eq_true hln;omega
    obtain⟨y,hy⟩:=qBA h2
    obtain⟨a3,rfl,ec3,hec3,⟨rfl,_⟩,hc3⟩:=hn1 n y hy
    obtain⟨b3,rfl,ec4,hec4,⟨rfl,_⟩,hc4⟩:=hn1' n y hy
    repeat((conv=>whnf);first|apply qza|apply qzb|apply qzc|apply qzd|apply qze|intro(_:Nat))
    conv=>whnf
    refine⟨a,rfl,⟨by omega,by omega⟩,?_⟩
    conv=>whnf
    refine⟨_,hc 0 _ rfl,?_⟩
    repeat((conv=>whnf);first|apply qza|apply qzb|apply qzc|apply qzd|apply qze|intro(_:Nat))
    conv=>whnf
    refine⟨a3,rfl,⟨by omega,by omega⟩,?_⟩
    conv=>whnf
    refine⟨_,hc3 0 _ rfl,?_⟩
    repeat((conv=>whnf);first|apply qza|apply qzb|apply qzc|apply qzd|apply qze|intro(_:Nat))
    conv=>whnf
    refine⟨b,rfl,⟨by omega,by omega⟩,?_⟩
    conv=>whnf
    refine⟨_,hc' 0 _ rfl,?_⟩
    repeat((conv=>whnf);first|apply qza|apply qzb|apply qzc|apply qzd|apply qze|intro(_:Nat))
    conv=>whnf
    refine⟨b3,rfl,⟨by omega,by omega⟩,?_⟩
    conv=>whnf
    refine⟨_,hc4 0 _ rfl,?_⟩
    repeat((conv=>whnf);first|apply qza|apply qzb|apply qzc|apply qzd|apply qze|intro(_:Nat))
    conv=>whnf
    refine⟨fun hx=>absurd hx (by simp),fun _=>?_⟩
    repeat((conv=>whnf);first|apply qza|apply qzb|apply qzc|apply qzd|apply qze|intro(_:Nat))
    conv=>whnf
    refine fun fr w hw=>⟨n+1,congrArg (fun z=>[Value.int .i64 z]) (wr1 h2 c1 c2).symm,h2,dec h2,?_⟩
    exact hw.fit (by simp [fitL,Res.eqv,qAA,conc])
   ·repeat((conv=>whnf);first|apply qza|apply qzb|apply qzc|apply qzd|apply qze|intro(_:Nat))
    conv=>whnf
    refine fun fr w hw=>⟨k+1,congrArg (fun z=>[Value.int .i64 z]) (wr1 h' a1 a2).symm,h',dec h',?_⟩
    exact hw.fit (by simp [fitL,Res.eqv,qAA,conc])
  ·repeat((conv=>whnf);first|apply qza|apply qzb|apply qzc|apply qzd|apply qze|intro(_:Nat))
   conv=>whnf
   intro g2 hg
   rfl)
theorem qsQ (g:GW) {cs cs':List Value} {x:EndC} (hx:rEn g cs x) (hx':rEn g cs' x):OkV Tryz.prog qqH [.agg ⟨cs⟩,.agg ⟨cs'⟩] g (.bool true):=by
 obtain⟨⟨n,rfl,_,_,hn⟩,_⟩:=hx
 obtain⟨⟨n',rfl,_,_,hn'⟩,_⟩:=hx'
 obtain⟨oa,ca,rfl,a1,a2,a0,ha⟩:=hn
 obtain⟨ob,cb,rfl,b1,b2,b0,hb⟩:=hn'
 exact Ok.of_fn hm noT 0 qTH (args:=[.v (.agg ⟨[.int .u64 x.head,.slice oa x.next.length ca,.int .i64 x.active]⟩),.v (.agg ⟨[.int .u64 x.head,.slice ob x.next.length cb,.int .i64 x.active]⟩)]) (by
  repeat((conv=>whnf);first|apply qza|apply qzb|apply qzc|apply qzd|apply qze|intro(_:Nat))
  conv=>whnf
  refine⟨fun hx=>absurd hx (by simp),fun _=>?_⟩
  repeat((conv=>whnf);first|apply qza|apply qzb|apply qzc|apply qzd|apply qze|intro(_:Nat))
  conv=>whnf
  refine⟨fun hx=>absurd hx (by simp),fun _=>?_⟩
  repeat((conv=>whnf);first|apply qza|apply qzb|apply qzc|apply qzd|apply qze|intro(_:Nat))
  conv=>whnf
  refine⟨fun hx=>absurd hx (by simp),fun _=>?_⟩
  repeat((conv=>whnf);first|apply qza|apply qzb|apply qzc|apply qzd|apply qze|intro(_:Nat))
  conv=>whnf
  refine⟨Nat,fun k=>[.v (.int .i64 k)],fun _=>⟨g,_,_,_⟩,fun k=>k≤x.next.length,fun k=>x.next.length-k,qDA 0 rfl (Nat.zero_le _) rfl,?_⟩
  intro k hk
  repeat((conv=>whnf);first|apply qza|apply qzb|apply qzc|apply qzd|apply qze|intro(_:Nat))
  conv=>whnf
  refine⟨fun hlt=>?_,fun hlt=>?_⟩
  ·have h':k<x.next.length:=by have:=of_decide_eq_true hlt;omega
   obtain⟨y,hy⟩:=qBA h'
   obtain⟨a,rfl,ec,hec,⟨rfl,_⟩,hc⟩:=ha k y hy
   obtain⟨b,rfl,ec',hec',⟨rfl,_⟩,hc'⟩:=hb k y hy
   repeat((conv=>whnf);first|apply qza|apply qzb|apply qzc|apply qzd|apply qze|intro(_:Nat))
   conv=>whnf
   refine⟨a,rfl,⟨by omega,by omega⟩,?_⟩
   conv=>whnf
   refine⟨_,hc 0 _ rfl,?_⟩
   repeat((conv=>whnf);first|apply qza|apply qzb|apply qzc|apply qzd|apply qze|intro(_:Nat))
   conv=>whnf
   refine⟨b,rfl,⟨by omega,by omega⟩,?_⟩
   conv=>whnf
   refine⟨_,hc' 0 _ rfl,?_⟩
   repeat((conv=>whnf);first|apply qza|apply qzb|apply qzc|apply qzd|apply qze|intro(_:Nat))
   conv=>whnf
   refine⟨fun hx=>absurd hx (by simp),fun _=>?_⟩
   repeat((conv=>whnf);first|apply qza|apply qzb|apply qzc|apply qzd|apply qze|intro(_:Nat))
   conv=>whnf
   refine fun fr w hw=>⟨k+1,congrArg (fun z=>[Value.int .i64 z]) (wr1 h' a1 a2).symm,h',dec h',?_⟩
   exact hw.fit (by simp [fitL,Res.eqv,qAA,conc])
  ·repeat((conv=>whnf);first|apply qza|apply qzb|apply qzc|apply qzd|apply qze|intro(_:Nat))
   conv=>whnf
   intro g2 hg
   rfl)
theorem qiL (g:GW) {cs cs':List Value} {x:Version} (hx:rVe g cs x) (hx':rVe g cs' x):OkV Tryz.prog qUD [.agg ⟨cs⟩,.agg ⟨cs'⟩] g (.bool true):=by
 obtain⟨va,vb,vd,vn,rfl,hS,hG⟩:=hx
 obtain⟨va',vb',vd',vn',rfl,hS',hG'⟩:=hx'
 have hS0:=hS
 have hS0':=hS'
 obtain⟨_,_,_,he,⟨sa,ta,rfl,_⟩,⟨sb,tb,rfl,_⟩,⟨sd,td,rfl,_⟩⟩:=hS
 cases he
 obtain⟨_,_,_,he,⟨sa',ta',rfl,_⟩,⟨sb',tb',rfl,_⟩,⟨sd',td',rfl,_⟩⟩:=hS'
 cases he
 obtain⟨oa,ca,rfl,a1,a2,a0,ha⟩:=hG
 obtain⟨ob,cb,rfl,b1,b2,b0,hb⟩:=hG'
 exact Ok.of_fn hm noT 0 qND (args:=[.v (.agg ⟨[.slice sa x.snap.listens.length ta,.slice sb x.snap.rules.length tb,.slice sd x.snap.clusters.length td,.slice oa x.groups.length ca,.bool x.freed]⟩),.v (.agg ⟨[.slice sa' x.snap.listens.length ta',.slice sb' x.snap.rules.length tb',.slice sd' x.snap.clusters.length td',.slice ob x.groups.length cb,.bool x.freed]⟩)]) (by
  repeat((conv=>whnf);first|apply qza|apply qzb|apply qzc|apply qzd|apply qze|intro(_:Nat))
  conv=>whnf
  refine .inl ⟨_,(qAS _ hS0 hS0').to (congrArg Value.bool (qOK rfl)),?_⟩
  repeat((conv=>whnf);first|apply qza|apply qzb|apply qzc|apply qzd|apply qze|intro(_:Nat))
  conv=>whnf
  refine⟨fun h=>(nomatch h),fun _=>?_⟩
  repeat((conv=>whnf);first|apply qza|apply qzb|apply qzc|apply qzd|apply qze|intro(_:Nat))
  conv=>whnf
  refine⟨fun hx=>absurd hx (by simp),fun _=>?_⟩
  repeat((conv=>whnf);first|apply qza|apply qzb|apply qzc|apply qzd|apply qze|intro(_:Nat))
  conv=>whnf
  refine⟨fun hx=>absurd hx (by simp),fun _=>?_⟩
  repeat((conv=>whnf);first|apply qza|apply qzb|apply qzc|apply qzd|apply qze|intro(_:Nat))
  conv=>whnf
  refine⟨Nat,fun k=>[.v (.int .i64 k)],fun _=>⟨g,_,_,_⟩,fun k=>k≤x.groups.length,fun k=>x.groups.length-k,qDA 0 rfl (Nat.zero_le _) rfl,?_⟩
  intro k hk
  repeat((conv=>whnf);first|apply qza|apply qzb|apply qzc|apply qzd|apply qze|intro(_:Nat))
  conv=>whnf
  refine⟨fun hlt=>?_,fun hlt=>?_⟩
  ·have h':k<x.groups.length:=by have:=of_decide_eq_true hlt;omega
   obtain⟨y,hy⟩:=qBA h'
   obtain⟨a,rfl,ec,hec,⟨n,rfl,_,hn⟩,hc⟩:=ha k y hy
   obtain⟨b,rfl,ec',hec',⟨n',rfl,_,hn'⟩,hc'⟩:=hb k y hy
   obtain⟨oc,cc,rfl,c1,c2,c0,hn1⟩:=hn
   obtain⟨od,cd,rfl,d1,d2,d0,hn1'⟩:=hn'
   repeat((conv=>whnf);first|apply qza|apply qzb|apply qzc|apply qzd|apply qze|intro(_:Nat))
   conv=>whnf
   refine⟨a,rfl,⟨by omega,by omega⟩,?_⟩
   conv=>whnf
   refine⟨_,hc 0 _ rfl,?_⟩
   repeat((conv=>whnf);first|apply qza|apply qzb|apply qzc|apply qzd|apply qze|intro(_:Nat))
   conv=>whnf
   refine⟨b,rfl,⟨by omega,by omega⟩,?_⟩
   conv=>whnf
   refine⟨_,hc' 0 _ rfl,?_⟩
   repeat((conv=>whnf);first|apply qza|apply qzb|apply qzc|apply qzd|apply qze|intro(_:Nat))
   conv=>whnf
   refine⟨fun hx=>absurd hx (by simp),fun _=>?_⟩
   repeat((conv=>whnf);first|apply qza|apply qzb|apply qzc|apply qzd|apply qze|intro(_:Nat))
   conv=>whnf
   refine⟨a,rfl,⟨by omega,by omega⟩,?_⟩
   conv=>whnf
   refine⟨_,hc 1 _ rfl,?_⟩
   repeat((conv=>whnf);first|apply qza|apply qzb|apply qzc|apply qzd|apply qze|intro(_:Nat))
   conv=>whnf
   refine⟨b,rfl,⟨by omega,by omega⟩,?_⟩
   conv=>whnf
   refine⟨_,hc' 1 _ rfl,?_⟩
   repeat((conv=>whnf);first|apply qza|apply qzb|apply qzc|apply qzd|apply qze|intro(_:Nat))
   conv=>whnf
   refine⟨fun hx=>absurd hx (by simp),fun _=>?_⟩
   repeat((conv=>whnf);first|apply qza|apply qzb|apply qzc|apply qzd|apply qze|intro(_:Nat))
   conv=>whnf
   refine⟨Nat,fun n=>[.v (.int .i64 n)],fun _=>⟨g,_,_,_⟩,fun n=>n≤y.ends.length,fun n=>y.ends.length-n,qDA 0 rfl (Nat.zero_le _) rfl,?_⟩
   intro n hn
   repeat((conv=>whnf);first|apply qza|apply qzb|apply qzc|apply qzd|apply qze|intro(_:Nat))
   conv=>whnf
   refine⟨a,rfl,⟨by omega,by omega⟩,?_⟩
   conv=>whnf
   refine⟨_,hc 1 _ rfl,?_⟩
   repeat((conv=>whnf);first|apply qza|apply qzb|apply qzc|apply qzd|apply qze|intro(_:Nat))
   conv=>whnf
   refine⟨fun hln=>?_,fun hln=>?_⟩
   ·have h2:n<y.ends.length:=by have:=of_decide_eq_true hln;omega
    obtain⟨z,hz⟩:=qBA h2
    obtain⟨a3,rfl,ec3,hec3,hz3,hc3⟩:=hn1 n z hz
    obtain⟨b3,rfl,ec4,hec4,hz4,hc4⟩:=hn1' n z hz
    have hz30:=hz3
    have hz40:=hz4
    obtain⟨⟨m,rfl,_,_,⟨om,cm,rfl,_⟩⟩,_⟩:=hz3
    obtain⟨⟨m',rfl,_,_,⟨om',cm',rfl,_⟩⟩,_⟩:=hz4
    repeat((conv=>whnf);first|apply qza|apply qzb|apply qzc|apply qzd|apply qze|intro(_:Nat))
    conv=>whnf
    refine⟨a,rfl,⟨by omega,by omega⟩,?_⟩
    conv=>whnf
    refine⟨_,hc 1 _ rfl,?_⟩
    repeat((conv=>whnf);first|apply qza|apply qzb|apply qzc|apply qzd|apply qze|intro(_:Nat))
    conv=>whnf
    refine⟨a3,rfl,⟨by omega,by omega⟩,?_⟩
    conv=>whnf
    refine⟨_,⟨rfl,hc3⟩,?_⟩
    repeat((conv=>whnf);first|apply qza|apply qzb|apply qzc|apply qzd|apply qze|intro(_:Nat))
    conv=>whnf
    refine⟨b,rfl,⟨by omega,by omega⟩,?_⟩
    conv=>whnf
    refine⟨_,hc' 1 _ rfl,?_⟩
    repeat((conv=>whnf);first|apply qza|apply qzb|apply qzc|apply qzd|apply qze|intro(_:Nat))
    conv=>whnf
    refine⟨b3,rfl,⟨by omega,by omega⟩,?_⟩
    conv=>whnf
    refine⟨_,⟨rfl,hc4⟩,?_⟩
    repeat((conv=>whnf);first|apply qza|apply qzb|apply qzc|apply qzd|apply qze|intro(_:Nat))
    conv=>whnf
    refine .inl ⟨_,qsQ _ hz30 hz40,?_⟩
    repeat((conv=>whnf);first|apply qza|apply qzb|apply qzc|apply qzd|apply qze|intro(_:Nat))
    conv=>whnf
    refine⟨fun h=>(nomatch h),fun _=>?_⟩
    repeat((conv=>whnf);first|apply qza|apply qzb|apply qzc|apply qzd|apply qze|intro(_:Nat))
    conv=>whnf
    refine fun fr w hw=>⟨n+1,congrArg (fun z=>[Value.int .i64 z]) (wr1 h2 c1 c2).symm,h2,dec h2,?_⟩
    exact hw.fit (by simp [fitL,Res.eqv,qAA,conc])
   ·repeat((conv=>whnf);first|apply qza|apply qzb|apply qzc|apply qzd|apply qze|intro(_:Nat))
    conv=>whnf
    refine fun fr w hw=>⟨k+1,congrArg (fun z=>[Value.int .i64 z]) (wr1 h' a1 a2).symm,h',dec h',?_⟩
    exact hw.fit (by simp [fitL,Res.eqv,qAA,conc])
  ·repeat((conv=>whnf);first|apply qza|apply qzb|apply qzc|apply qzd|apply qze|intro(_:Nat))
   conv=>whnf
   intro g2 hg
   rfl)
theorem qpM (g:GW) {cs cs':List Value} {w:Wd} (hw:rWo g cs w) (hw':rWo g cs' w):OkV Tryz.prog qGC [.agg ⟨cs⟩,.agg ⟨cs'⟩] g (.bool true):=by
 obtain⟨a,b,c,d,e,rfl,_,hP,hV,hL,hC,hR⟩:=hw
 obtain⟨a',b',c',d',e',rfl,_,hP',hV',hL',hC',hR'⟩:=hw'
 obtain⟨oa,ca,rfl,_⟩:=id hP
 obtain⟨ob,cb,rfl,b1,b2,b0,hV1⟩:=id hV
 obtain⟨oc,cc,rfl,c1,c2,c0,hL1⟩:=id hL
 obtain⟨od,cd,rfl,_⟩:=id hC
 obtain⟨oe,ce,rfl,_⟩:=id hR
 obtain⟨oa',ca',rfl,_⟩:=id hP'
 obtain⟨ob',cb',rfl,b1',b2',b0',hV1'⟩:=id hV'
 obtain⟨oc',cc',rfl,c1',c2',c0',hL1'⟩:=id hL'
 obtain⟨od',cd',rfl,_⟩:=id hC'
 obtain⟨oe',ce',rfl,_⟩:=id hR'
 exact Ok.of_fn hm noT 0 qRH (args:=[.v (.agg ⟨wQ w oa ca ob cb oc cc od cd oe ce⟩),.v (.agg ⟨[.int .i64 w.epoch,.int .i64 w.current,.int .i64 w.lock,.slice oa' w.pins.length ca',.slice ob' w.versions.length cb',.slice oc' w.listens.length cc',.slice od' w.counts.length cd',.slice oe' w.limbo.length ce']⟩)]) (by
  repeat((conv=>whnf);first|apply qza|apply qzb|apply qzc|apply qzd|apply qze|intro(_:Nat))
  conv=>whnf
  refine⟨fun hx=>absurd hx (by simp),fun _=>?_⟩
  repeat((conv=>whnf);first|apply qza|apply qzb|apply qzc|apply qzd|apply qze|intro(_:Nat))
  conv=>whnf
  refine⟨fun hx=>absurd hx (by simp),fun _=>?_⟩
  repeat((conv=>whnf);first|apply qza|apply qzb|apply qzc|apply qzd|apply qze|intro(_:Nat))
  conv=>whnf
  refine⟨fun hx=>absurd hx (by simp),fun _=>?_⟩
  repeat((conv=>whnf);first|apply qza|apply qzb|apply qzc|apply qzd|apply qze|intro(_:Nat))
  conv=>whnf
  refine .inl ⟨_,qHP _ hP hP',?_⟩
  repeat((conv=>whnf);first|apply qza|apply qzb|apply qzc|apply qzd|apply qze|intro(_:Nat))
  conv=>whnf
  refine⟨fun h=>(nomatch h),fun _=>?_⟩
  repeat((conv=>whnf);first|apply qza|apply qzb|apply qzc|apply qzd|apply qze|intro(_:Nat))
  conv=>whnf
  refine⟨fun hx=>absurd hx (by simp),fun _=>?_⟩
  repeat((conv=>whnf);first|apply qza|apply qzb|apply qzc|apply qzd|apply qze|intro(_:Nat))
  conv=>whnf
  refine⟨fun hx=>absurd hx (by simp),fun _=>?_⟩
  repeat((conv=>whnf);first|apply qza|apply qzb|apply qzc|apply qzd|apply qze|intro(_:Nat))
  conv=>whnf
  refine .inl ⟨_,qqM _ hC hC',?_⟩
  repeat((conv=>whnf);first|apply qza|apply qzb|apply qzc|apply qzd|apply qze|intro(_:Nat))
  conv=>whnf
  refine⟨fun h=>(nomatch h),fun _=>?_⟩
  repeat((conv=>whnf);first|apply qza|apply qzb|apply qzc|apply qzd|apply qze|intro(_:Nat))
  conv=>whnf
  refine .inl ⟨_,q5N _ hR hR',?_⟩
  repeat((conv=>whnf);first|apply qza|apply qzb|apply qzc|apply qzd|apply qze|intro(_:Nat))
  conv=>whnf
  refine⟨fun h=>(nomatch h),fun _=>?_⟩
  repeat((conv=>whnf);first|apply qza|apply qzb|apply qzc|apply qzd|apply qze|intro(_:Nat))
  conv=>whnf
  refine⟨Nat,fun k=>[.v (.int .i64 k)],fun _=>⟨g,_,_,_⟩,fun k=>k≤w.versions.length,fun k=>w.versions.length-k,qDA 0 rfl (Nat.zero_le _) rfl,?_⟩
  intro k hk
  repeat((conv=>whnf);first|apply qza|apply qzb|apply qzc|apply qzd|apply qze|intro(_:Nat))
  conv=>whnf
  refine⟨fun hlt=>?_,fun hlt=>?_⟩
  ·have h':k<w.versions.length:=by have:=of_decide_eq_true hlt;omega
   obtain⟨x,hx⟩:=qBA h'
   obtain⟨a,rfl,ec,hec,hxe,hc⟩:=hV1 k x hx
   obtain⟨b,rfl,ec',hec',hxe',hc'⟩:=hV1' k x hx
   have h10:=hxe
   have h20:=hxe'
   obtain⟨va,vb,vd,vn,rfl,⟨_,_,_,he,⟨sa,ta,rfl,_⟩,⟨sb,tb,rfl,_⟩,⟨sd,td,rfl,_⟩⟩,⟨sn,tn,rfl,_⟩⟩:=hxe
   cases he
   obtain⟨va',vb',vd',vn',rfl,⟨_,_,_,he,⟨sa',ta',rfl,_⟩,⟨sb',tb',rfl,_⟩,⟨sd',td',rfl,_⟩⟩,⟨sn',tn',rfl,_⟩⟩:=hxe'
   cases he
   repeat((conv=>whnf);first|apply qza|apply qzb|apply qzc|apply qzd|apply qze|intro(_:Nat))
   conv=>whnf
   refine⟨a,rfl,⟨by omega,by omega⟩,?_⟩
   conv=>whnf
   refine⟨_,⟨rfl,hc⟩,?_⟩
   repeat((conv=>whnf);first|apply qza|apply qzb|apply qzc|apply qzd|apply qze|intro(_:Nat))
   conv=>whnf
   refine⟨b,rfl,⟨by omega,by omega⟩,?_⟩
   conv=>whnf
   refine⟨_,⟨rfl,hc'⟩,?_⟩
   repeat((conv=>whnf);first|apply qza|apply qzb|apply qzc|apply qzd|apply qze|intro(_:Nat))
   conv=>whnf
   refine .inl ⟨_,qiL _ h10 h20,?_⟩
   repeat((conv=>whnf);first|apply qza|apply qzb|apply qzc|apply qzd|apply qze|intro(_:Nat))
   conv=>whnf
   refine⟨fun h=>(nomatch h),fun _=>?_⟩
   repeat((conv=>whnf);first|apply qza|apply qzb|apply qzc|apply qzd|apply qze|intro(_:Nat))
   conv=>whnf
   refine fun fr w' hw=>⟨k+1,congrArg (fun z=>[Value.int .i64 z]) (wr1 h' b1 b2).symm,h',dec h',?_⟩
   exact hw.fit (by simp [fitL,Res.eqv,qAA,conc])
  clear hlt hk
  repeat((conv=>whnf);first|apply qza|apply qzb|apply qzc|apply qzd|apply qze|intro(_:Nat))
  conv=>whnf
  refine⟨Nat,fun k=>[.v (.int .i64 k)],fun _=>⟨g,_,_,_⟩,fun k=>k≤w.listens.length,fun k=>w.listens.length-k,qDA 0 rfl (Nat.zero_le _) rfl,?_⟩
  intro k hk
  repeat((conv=>whnf);first|apply qza|apply qzb|apply qzc|apply qzd|apply qze|intro(_:Nat))
  conv=>whnf
  refine⟨fun hlt=>?_,fun hlt=>?_⟩
  ·have h':k<w.listens.length:=by have:=of_decide_eq_true hlt;omega
   obtain⟨x,hx⟩:=qBA h'
   obtain⟨a,rfl,ec,hec,⟨rfl,_⟩,hc⟩:=hL1 k x hx
   obtain⟨b,rfl,ec',hec',⟨rfl,_⟩,hc'⟩:=hL1' k x hx
   repeat((conv=>whnf);first|apply qza|apply qzb|apply qzc|apply qzd|apply qze|intro(_:Nat))
   conv=>whnf
   refine⟨a,rfl,⟨by omega,by omega⟩,?_⟩
   conv=>whnf
   refine⟨_,⟨rfl,hc⟩,?_⟩
   repeat((conv=>whnf);first|apply qza|apply qzb|apply qzc|apply qzd|apply qze|intro(_:Nat))
   conv=>whnf
   refine⟨b,rfl,⟨by omega,by omega⟩,?_⟩
   conv=>whnf
   refine⟨_,⟨rfl,hc'⟩,?_⟩
   repeat((conv=>whnf);first|apply qza|apply qzb|apply qzc|apply qzd|apply qze|intro(_:Nat))
   conv=>whnf
   refine⟨fun hx=>absurd hx (by simp),fun _=>?_⟩
   repeat((conv=>whnf);first|apply qza|apply qzb|apply qzc|apply qzd|apply qze|intro(_:Nat))
   conv=>whnf
   refine fun fr w' hw=>⟨k+1,congrArg (fun z=>[Value.int .i64 z]) (wr1 h' c1 c2).symm,h',dec h',?_⟩
   exact hw.fit (by simp [fitL,Res.eqv,qAA,conc])
  repeat((conv=>whnf);first|apply qza|apply qzb|apply qzc|apply qzd|apply qze|intro(_:Nat))
  conv=>whnf
  intro g2 hg
  rfl)
/- Worlds: what is too much to be looked at. -/
open Go.Proofs.YtkogfpniapaigaaGreat.Sx Go.RowKit
theorem qvU {l:List Rule} (hb:bigR l=false):l.length≤50∧∀ r∈l,r.host.size≤100∧r.path.size≤100:=by
 simp only [bigR,Bool.or_eq_false_iff,decide_eq_false_iff_not] at hb
 refine⟨by omega,fun r hr=>?_⟩
 have:=List.any_eq_false.1 hb.2 r hr
 simp only [qBN,Bool.or_eq_true,decide_eq_true_eq] at this
 omega
theorem qJT (g:GW) {cs:List Value} {s:Snap} (hs:qnF g cs s):Ok Tryz.prog qKF [.agg ⟨cs⟩] g fun v _=>∃ b,v=.bool b∧(b=false→SnS s):=by
 obtain⟨a,b,d,rfl,hl,hr,hk⟩:=hs
 obtain⟨oa,ca,rfl,a1,a2,a0,hl1⟩:=id hl
 obtain⟨ob,cb,rfl,b1,b2,b0,hr1⟩:=id hr
 obtain⟨od,cd,rfl,d1,d2,d0,hk1⟩:=id hk
 exact Ok.of_fn hm noT 0 qBF (args:=[.v (.agg ⟨[.slice oa s.listens.length ca,.slice ob s.rules.length cb,.slice od s.clusters.length cd]⟩)]) (by
  repeat((conv=>whnf);first|apply qza|apply qzb|apply qzc|apply qzd|apply qze|intro(_:Nat))
  conv=>whnf
  refine⟨fun z1=>?_,fun z1=>?_⟩
  ·repeat((conv=>whnf);first|apply qza|apply qzb|apply qzc|apply qzd|apply qze|intro(_:Nat))
   conv=>whnf
   intro g2 hg
   exact⟨_,rfl,fun h=>by cases h⟩
  repeat((conv=>whnf);first|apply qza|apply qzb|apply qzc|apply qzd|apply qze|intro(_:Nat))
  conv=>whnf
  refine⟨fun z2=>?_,fun z2=>?_⟩
  ·repeat((conv=>whnf);first|apply qza|apply qzb|apply qzc|apply qzd|apply qze|intro(_:Nat))
   conv=>whnf
   intro g2 hg
   exact⟨_,rfl,fun h=>by cases h⟩
  repeat((conv=>whnf);first|apply qza|apply qzb|apply qzc|apply qzd|apply qze|intro(_:Nat))
  conv=>whnf
  refine .inl ⟨_,qVU _ hr,?_⟩
  repeat((conv=>whnf);first|apply qza|apply qzb|apply qzc|apply qzd|apply qze|intro(_:Nat))
  conv=>whnf
  refine⟨fun z3=>?_,fun z3=>?_⟩
  ·repeat((conv=>whnf);first|apply qza|apply qzb|apply qzc|apply qzd|apply qze|intro(_:Nat))
   conv=>whnf
   intro g2 hg
   exact⟨_,rfl,fun h=>by cases h⟩
  have hS:SnS s:=by
   obtain⟨k1,k2⟩:=qvU z3
   exact⟨by omega,k2⟩
  repeat((conv=>whnf);first|apply qza|apply qzb|apply qzc|apply qzd|apply qze|intro(_:Nat))
  conv=>whnf
  refine⟨Nat,fun k=>[.v (.int .i64 k)],fun _=>⟨g,_,_,_⟩,fun k=>k≤s.clusters.length,fun k=>s.clusters.length-k,qDA 0 rfl (Nat.zero_le _) rfl,?_⟩
  intro k hk
  repeat((conv=>whnf);first|apply qza|apply qzb|apply qzc|apply qzd|apply qze|intro(_:Nat))
  conv=>whnf
  refine⟨fun hlt=>?_,fun hlt=>?_⟩
  ·have h':k<s.clusters.length:=by have:=of_decide_eq_true hlt;omega
   obtain⟨x,hx⟩:=qBA h'
   obtain⟨a,rfl,ec,hec,⟨hv,rfl,_,_,⟨oh,ch,rfl,_⟩⟩,hc⟩:=hk1 k x hx
   repeat((conv=>whnf);first|apply qza|apply qzb|apply qzc|apply qzd|apply qze|intro(_:Nat))
   conv=>whnf
   refine⟨a,rfl,⟨by omega,by omega⟩,?_⟩
   conv=>whnf
   refine⟨_,hc 3 _ rfl,?_⟩
   repeat((conv=>whnf);first|apply qza|apply qzb|apply qzc|apply qzd|apply qze|intro(_:Nat))
   conv=>whnf
   refine⟨fun y1=>?_,fun y1=>?_⟩
   ·repeat((conv=>whnf);first|apply qza|apply qzb|apply qzc|apply qzd|apply qze|intro(_:Nat))
    conv=>whnf
    intro g2 hg
    exact⟨_,rfl,fun h=>by cases h⟩
   repeat((conv=>whnf);first|apply qza|apply qzb|apply qzc|apply qzd|apply qze|intro(_:Nat))
   conv=>whnf
   refine⟨a,rfl,⟨by omega,by omega⟩,?_⟩
   conv=>whnf
   refine⟨_,hc 0 _ rfl,?_⟩
   repeat((conv=>whnf);first|apply qza|apply qzb|apply qzc|apply qzd|apply qze|intro(_:Nat))
   conv=>whnf
   refine⟨fun y2=>?_,fun y2=>?_⟩
   ·repeat((conv=>whnf);first|apply qza|apply qzb|apply qzc|apply qzd|apply qze|intro(_:Nat))
    conv=>whnf
    intro g2 hg
    exact⟨_,rfl,fun h=>by cases h⟩
   repeat((conv=>whnf);first|apply qza|apply qzb|apply qzc|apply qzd|apply qze|intro(_:Nat))
   conv=>whnf
   refine fun fr w hw=>⟨k+1,congrArg (fun z=>[Value.int .i64 z]) (wr1 h' d1 d2).symm,h',dec h',?_⟩
   exact hw.fit (by simp [fitL,Res.eqv,qAA,conc])
  ·repeat((conv=>whnf);first|apply qza|apply qzb|apply qzc|apply qzd|apply qze|intro(_:Nat))
   conv=>whnf
   intro g2 hg
   exact⟨_,rfl,fun _=>hS⟩)
theorem qKT (g:GW) {v:Value} {l:List (List Int)} (hl:rSl 1 rRow g v l):Ok Tryz.prog qhI [v] g fun v _=>∃ b,v=.bool b∧(b=false→l.length≤60∧∀ r∈l,r.length≤60) :=
 Ok.of_fn hm noT 0 qPI (args:=[.v v]) (by
  obtain⟨oa,cap,rfl,h1,h2,h0,hr⟩:=hl
  repeat((conv=>whnf);first|apply qza|apply qzb|apply qzc|apply qzd|apply qze|intro(_:Nat))
  conv=>whnf
  refine⟨Nat,fun k=>[.v (.int .i64 k)],fun _=>⟨g,_,_,_⟩,fun k=>k≤l.length∧∀ r∈l.take k,r.length≤60,fun k=>l.length-k,qDA 0 rfl ⟨Nat.zero_le _,by simp⟩ rfl,?_⟩
  rintro k ⟨hk,hp⟩
  repeat((conv=>whnf);first|apply qza|apply qzb|apply qzc|apply qzd|apply qze|intro(_:Nat))
  conv=>whnf
  refine⟨fun hlt=>?_,fun hlt=>?_⟩
  ·have h':k<l.length:=by have:=of_decide_eq_true hlt;omega
   obtain⟨x,hx⟩:=qBA h'
   obtain⟨x1,x2⟩:=List.getElem?_eq_some_iff.1 hx
   obtain⟨a,rfl,ec,hec,⟨n,rfl,⟨ox,cx,rfl,_⟩⟩,hc⟩:=hr k x hx
   repeat((conv=>whnf);first|apply qza|apply qzb|apply qzc|apply qzd|apply qze|intro(_:Nat))
   conv=>whnf
   refine⟨fun y1=>?_,fun y1=>?_⟩
   ·repeat((conv=>whnf);first|apply qza|apply qzb|apply qzc|apply qzd|apply qze|intro(_:Nat))
    conv=>whnf
    refine⟨a,rfl,⟨by omega,by omega⟩,?_⟩
    conv=>whnf
    refine⟨_,hc 0 _ rfl,?_⟩
    repeat((conv=>whnf);first|apply qza|apply qzb|apply qzc|apply qzd|apply qze|intro(_:Nat))
    conv=>whnf
    refine⟨fun y2=>?_,fun y2=>?_⟩
    ·repeat((conv=>whnf);first|apply qza|apply qzb|apply qzc|apply qzd|apply qze|intro(_:Nat))
     conv=>whnf
     intro g2 hg
     exact⟨_,rfl,fun h=>by cases h⟩
    have y2':=of_decide_eq_false y2
    repeat((conv=>whnf);first|apply qza|apply qzb|apply qzc|apply qzd|apply qze|intro(_:Nat))
    conv=>whnf
    refine fun fr w hw=>⟨k+1,congrArg (fun z=>[Value.int .i64 z]) (wr1 h' h1 h2).symm,⟨h',fun r hr=>?_⟩,dec h',?_⟩
    ·rw [List.take_succ_eq_append_getElem x1,x2] at hr
     rcases List.mem_append.1 hr with hr|hr
     ·exact hp r hr
     ·simp at hr;subst hr;omega
    ·exact hw.fit (by simp [fitL,Res.eqv,qAA,conc])
   ·have y1':=of_decide_eq_false y1
    repeat((conv=>whnf);first|apply qza|apply qzb|apply qzc|apply qzd|apply qze|intro(_:Nat))
    conv=>whnf
    intro g2 hg
    exact⟨_,rfl,fun h=>absurd h (by simp;omega)⟩
  ·have hkL:=of_decide_eq_false hlt
   rw [List.take_of_length_le (by omega)] at hp
   repeat((conv=>whnf);first|apply qza|apply qzb|apply qzc|apply qzd|apply qze|intro(_:Nat))
   conv=>whnf
   intro g2 hg
   exact⟨_,rfl,fun h=>⟨by have:=of_decide_eq_false h;omega,hp⟩⟩)
theorem qgT {l:List Version} {k:Nat} {x:Version} (hx:l[k]?=some x) {P:Version→Prop} (h:∀ v∈l.take k,P v) (h':P x):∀ v∈l.take (k+1),P v:=fun v hv=>by
 obtain⟨x1,x2⟩:=List.getElem?_eq_some_iff.1 hx
 rw [List.take_succ_eq_append_getElem x1,x2] at hv
 rcases List.mem_append.1 hv with hv|hv
 ·exact h v hv
 ·simp at hv;subst hv;exact h'
theorem qsM (g:GW) {cs:List Value} {w:Wd} (hw:rWo g cs w):Ok Tryz.prog qfI [.agg ⟨cs⟩] g fun v _=>∃ b,v=.bool b∧(b=false→BgW 60 w∧SnW w):=by
 obtain⟨a,b,c,d,e,rfl,⟨i1,i2,i3⟩,hP,hV,hL,hC,hR⟩:=hw
 obtain⟨oa,ca,rfl,a1,a2,a0,hP1⟩:=id hP
 obtain⟨ob,cb,rfl,b1,b2,b0,hV1⟩:=id hV
 obtain⟨oc,cc,rfl,c1,c2,c0,hL1⟩:=id hL
 obtain⟨od,cd,rfl,d1,d2,d0,hC1⟩:=id hC
 obtain⟨oe,ce,rfl,e1,e2,e0,hR1⟩:=id hR
 exact Ok.of_fn hm noT 0 qNI (args:=[.v (.agg ⟨wQ w oa ca ob cb oc cc od cd oe ce⟩)]) (by
  repeat((conv=>whnf);first|apply qza|apply qzb|apply qzc|apply qzd|apply qze|intro(_:Nat))
  conv=>whnf
  refine⟨fun z1=>?_,fun z1=>?_⟩
  ·repeat((conv=>whnf);first|apply qza|apply qzb|apply qzc|apply qzd|apply qze|intro(_:Nat))
   conv=>whnf
   intro g2 hg
   exact⟨_,rfl,fun h=>by cases h⟩
  repeat((conv=>whnf);first|apply qza|apply qzb|apply qzc|apply qzd|apply qze|intro(_:Nat))
  conv=>whnf
  refine⟨fun z2=>?_,fun z2=>?_⟩
  ·repeat((conv=>whnf);first|apply qza|apply qzb|apply qzc|apply qzd|apply qze|intro(_:Nat))
   conv=>whnf
   intro g2 hg
   exact⟨_,rfl,fun h=>by cases h⟩
  repeat((conv=>whnf);first|apply qza|apply qzb|apply qzc|apply qzd|apply qze|intro(_:Nat))
  conv=>whnf
  refine⟨fun z3=>?_,fun z3=>?_⟩
  ·repeat((conv=>whnf);first|apply qza|apply qzb|apply qzc|apply qzd|apply qze|intro(_:Nat))
   conv=>whnf
   intro g2 hg
   exact⟨_,rfl,fun h=>by cases h⟩
  repeat((conv=>whnf);first|apply qza|apply qzb|apply qzc|apply qzd|apply qze|intro(_:Nat))
  refine .inr ((qKT _ hC).mono fun v ga ka hB=>?_)
  obtain⟨bb,rfl,hB⟩:=hB
  repeat((conv=>whnf);first|apply qza|apply qzb|apply qzc|apply qzd|apply qze|intro(_:Nat))
  conv=>whnf
  refine⟨fun z4=>?_,fun z4=>?_⟩
  ·repeat((conv=>whnf);first|apply qza|apply qzb|apply qzc|apply qzd|apply qze|intro(_:Nat))
   conv=>whnf
   intro g2 hg
   exact⟨_,rfl,fun h=>by cases h⟩
  repeat((conv=>whnf);first|apply qza|apply qzb|apply qzc|apply qzd|apply qze|intro(_:Nat))
  conv=>whnf
  refine⟨fun z5=>?_,fun z5=>?_⟩
  ·repeat((conv=>whnf);first|apply qza|apply qzb|apply qzc|apply qzd|apply qze|intro(_:Nat))
   conv=>whnf
   intro g2 hg
   exact⟨_,rfl,fun h=>by cases h⟩
  have k1:=of_decide_eq_false z1
  have k2:=of_decide_eq_false z2
  have k3:=of_decide_eq_false z3
  have k4:=hB z4
  have k5:=of_decide_eq_false z5
  clear z1 z2 z3 z4 z5 hB
  repeat((conv=>whnf);first|apply qza|apply qzb|apply qzc|apply qzd|apply qze|intro(_:Nat))
  rename_i q0
  conv=>whnf
  refine⟨Nat×GW,fun (k,_)=>[.v (.int .i64 k)],fun (_,g')=>⟨g',[.blk 0 q0 qEA [.v (.int .i64 w.epoch),.v (.int .i64 w.current),.v (.int .i64 w.lock),.v (.slice oa w.pins.length ca),.v (.slice ob w.versions.length cb),.v (.slice oc w.listens.length cc),.v (.slice od w.counts.length cd),.v (.slice oe w.limbo.length ce)]],10,g.w.heap.size⟩,fun (k,g')=>k≤w.versions.length∧g≤g'∧(∀ v∈w.versions.take k,BgV 60 v∧SnS v.snap),fun (k,_)=>w.versions.length-k,fun fr w' hw=>⟨(0,ga),rfl,⟨Nat.zero_le _,ka,by simp⟩,hw.fit (by simp [fitL,Res.eqv,qAA,conc])⟩,?_⟩
  rintro⟨k,g'⟩ ⟨hk,hgg,hp⟩
  repeat((conv=>whnf);first|apply qza|apply qzb|apply qzc|apply qzd|apply qze|intro(_:Nat))
  conv=>whnf
  refine⟨fun hlt=>?_,fun hlt=>?_⟩
  ·have h':k<w.versions.length:=by have:=of_decide_eq_true hlt;omega
   obtain⟨x,hx⟩:=qBA h'
   obtain⟨a,rfl,ec,hec,⟨va,vb,vd,vn,rfl,hS,hG⟩,hc⟩:=hV1 k x hx
   have hS0:=hS
   obtain⟨_,_,_,hee,⟨sa,ta,rfl,_⟩,⟨sb,tb,rfl,_⟩,⟨sd,td,rfl,_⟩⟩:=hS
   cases hee
   obtain⟨on,cn,rfl,n1,n2,n0,hG1⟩:=id hG
   repeat((conv=>whnf);first|apply qza|apply qzb|apply qzc|apply qzd|apply qze|intro(_:Nat))
   conv=>whnf
   refine⟨a,rfl,⟨by omega,by omega⟩,?_⟩
   conv=>whnf
   refine⟨_,⟨rfl,hc.mono hgg⟩,?_⟩
   repeat((conv=>whnf);first|apply qza|apply qzb|apply qzc|apply qzd|apply qze|intro(_:Nat))
   refine .inr ((qJT _ (qkB _ _ _ _ hgg hS0)).mono fun v gb kb hB=>?_)
   obtain⟨bb,rfl,hB⟩:=hB
   repeat((conv=>whnf);first|apply qza|apply qzb|apply qzc|apply qzd|apply qze|intro(_:Nat))
   conv=>whnf
   refine⟨fun y1=>?_,fun y1=>?_⟩
   ·repeat((conv=>whnf);first|apply qza|apply qzb|apply qzc|apply qzd|apply qze|intro(_:Nat))
    conv=>whnf
    intro g2 hg
    exact⟨_,rfl,fun h=>by cases h⟩
   repeat((conv=>whnf);first|apply qza|apply qzb|apply qzc|apply qzd|apply qze|intro(_:Nat))
   conv=>whnf
   refine⟨fun y2=>?_,fun y2=>?_⟩
   ·repeat((conv=>whnf);first|apply qza|apply qzb|apply qzc|apply qzd|apply qze|intro(_:Nat))
    conv=>whnf
    intro g2 hg
    exact⟨_,rfl,fun h=>by cases h⟩
   have y2':=of_decide_eq_false y2
   have hSn:=hB y1
   have hgb:=GW.trans hgg kb
   repeat((conv=>whnf);first|apply qza|apply qzb|apply qzc|apply qzd|apply qze|intro(_:Nat))
   rename_i q1
   conv=>whnf
   refine⟨Nat,fun j=>[.v (.int .i64 j)],fun _=>⟨gb,_,_,_⟩,fun j=>j≤x.groups.length∧∀ y∈x.groups.take j,BgG 60 y,fun j=>x.groups.length-j,qDA 0 rfl ⟨Nat.zero_le _,by simp⟩ rfl,?_⟩
   rintro j ⟨hj,hq⟩
   repeat((conv=>whnf);first|apply qza|apply qzb|apply qzc|apply qzd|apply qze|intro(_:Nat))
   conv=>whnf
   refine⟨fun hlt2=>?_,fun hlt2=>?_⟩
   ·have h2:j<x.groups.length:=by have:=of_decide_eq_true hlt2;omega
    obtain⟨y,hy⟩:=qBA h2
    obtain⟨y1',y2''⟩:=List.getElem?_eq_some_iff.1 hy
    obtain⟨a2',rfl,ec2,hec2,⟨nn,rfl,_,⟨oy,cy,rfl,_⟩⟩,hc2⟩:=hG1 j y hy
    repeat((conv=>whnf);first|apply qza|apply qzb|apply qzc|apply qzd|apply qze|intro(_:Nat))
    conv=>whnf
    refine⟨a2',rfl,⟨by omega,by omega⟩,?_⟩
    conv=>whnf
    refine⟨_,hc2.mono hgb 1 _ rfl,?_⟩
    repeat((conv=>whnf);first|apply qza|apply qzb|apply qzc|apply qzd|apply qze|intro(_:Nat))
    conv=>whnf
    refine⟨fun y3=>?_,fun y3=>?_⟩
    ·repeat((conv=>whnf);first|apply qza|apply qzb|apply qzc|apply qzd|apply qze|intro(_:Nat))
     conv=>whnf
     intro g2 hg
     exact⟨_,rfl,fun h=>by cases h⟩
    have y3':=of_decide_eq_false y3
    repeat((conv=>whnf);first|apply qza|apply qzb|apply qzc|apply qzd|apply qze|intro(_:Nat))
    conv=>whnf
    refine fun fr w' hw=>⟨j+1,congrArg (fun z=>[Value.int .i64 z]) (wr1 h2 n1 n2).symm,⟨h2,fun z hz=>?_⟩,dec h2,?_⟩
    ·rw [List.take_succ_eq_append_getElem y1',y2''] at hz
     rcases List.mem_append.1 hz with hz|hz
     ·exact hq z hz
     ·simp at hz;subst hz;unfold BgG;omega
    ·exact hw.fit (by simp [fitL,Res.eqv,qAA,conc])
   have hjL:=of_decide_eq_false hlt2
   rw [List.take_of_length_le (by omega)] at hq
   repeat((conv=>whnf);first|apply qza|apply qzb|apply qzc|apply qzd|apply qze|intro(_:Nat))
   conv=>whnf
   refine fun fr w' hw=>⟨(k+1,gb),congrArg (fun z=>[Value.int .i64 z]) (wr1 h' b1 b2).symm,⟨h',hgb,qgT hx hp ⟨⟨by omega,hq⟩,hSn⟩⟩,dec h',?_⟩
   exact hw.fit (by simp [fitL,Res.eqv,qAA,conc])
  ·have hkL:=of_decide_eq_false hlt
   rw [List.take_of_length_le (by omega)] at hp
   repeat((conv=>whnf);first|apply qza|apply qzb|apply qzc|apply qzd|apply qze|intro(_:Nat))
   conv=>whnf
   intro g2 hg
   exact⟨_,rfl,fun _=>⟨⟨⟨by omega,by omega,by omega,k4.1,by omega⟩,k4.2,fun v hv=>(hp v hv).1⟩,fun v hv=>(hp v hv).2⟩⟩)
end Go.Proofs.YtkogfpniapaigaaGreat
