/- Worlds: what is cloned: endpoints, groups, versions, rows. -/
import Derived.Test.YtkbbljngpglnkaaLW9o
import Derived.Test.YtkbbljngpglnkaaLW9e
import Derived.Test.YtkbbljngpglnkaaPl
import Derived.Test.YtkbbljngpglnkaaLS7b
set_option linter.unusedVariables false
set_option linter.unusedSimpArgs false
namespace Go.Proofs.Ytkbbljngpglnkaa
open Go.Proofs.Ytkbbljngpglnkaa.Sx Go.RowKit
set_option maxHeartbeats 16000000
set_option maxRecDepth 100000
theorem q7O (g0 g:GW) (h0:g0≤g) {cs:List Value} {x:EndC} (hx:rEn g cs x):Ok Try.prog qmB [.agg ⟨[]⟩,.agg ⟨cs⟩] g fun v g'=>∃ cs',v=.agg ⟨cs'⟩∧oEn wT true g' g0.w.heap.size (NEW g g') cs' x:=by
 obtain⟨⟨n,rfl,hH,hA,hN⟩,hsz⟩:=hx
 obtain⟨oa,ca,rfl,a1,a2,a0,hr⟩:=id hN
 exact Ok.of_fn hm noT 0 qwE (args:=[.v (.agg ⟨[]⟩),.v (.agg ⟨[.int .u64 x.head,.slice oa x.next.length ca,.int .i64 x.active]⟩)]) (by
  repeat((conv=>whnf);first|apply qza|apply qzb|apply qzc|apply qzd|apply qze|intro(_:Nat))
  refine .inr ((q5M g0 _ h0 hN hsz).mono fun v g1 hg1 hO=>?_)
  obtain⟨oV,cV,rfl⟩:=qXC hO
  repeat((conv=>whnf);first|apply qza|apply qzb|apply qzc|apply qzd|apply qze|intro(_:Nat))
  conv=>whnf
  intro g2 hg
  exact⟨_,rfl,_,rfl,⟨hH,hA,hsz⟩,.inl (qsD (qpC qbD) hg hO)⟩)
theorem q5O (g0 g:GW) (h0:g0≤g) {v:Value} {l:List EndC} (hl:rSl 3 rEn g v l) (hlen:l.length≤1000000) :Ok Try.prog q3B [v,.func (.func qmB) #[] #[],.agg ⟨[]⟩] g fun v' g'=>oSl qeA 3 (oEn wT true) g' g0.w.heap.size (NEW g g') v' l:=by
 obtain⟨oa,ca,rfl,a1,a2,a0,hr⟩:=id hl
 exact Ok.of_fn hm noT 0 q0B (args:=[.v (.slice oa l.length ca),.v (.func (.func qmB) #[] #[]),.v (.agg ⟨[]⟩)]) (by
  repeat((conv=>whnf);first|apply qza|apply qzb|apply qzc|apply qzd|apply qze|intro(_:Nat))
  conv=>whnf
  refine⟨⟨by omega,by omega,by omega,by omega⟩,fun _=>?_⟩
  repeat((conv=>whnf);first|apply qza|apply qzb|apply qzc|apply qzd|apply qze|intro(_:Nat))
  rename_i q0 q1
  conv=>whnf
  refine⟨Nat×List (List Value)×GW,fun (k,_,_)=>[.v (.int .i64 k)],fun (k,ecs,g')=>⟨g',[.row 1 (some ⟨q1,0,none⟩) l.length l.length qeA 3 (rowK ecs [.int .u64 0,.slice none 0 0,.int .i64 0] (l.length-k)),.blk 0 q0 qzB []],10,g.w.heap.size⟩,fun (k,ecs,g')=>k≤l.length∧g≤g'∧oEls 3 (oEn wT true) g g' g0.w.heap.size ecs (l.take k),fun (k,_,_)=>l.length-k,fun fr w hw=>⟨(0,[],g),rfl,⟨Nat.zero_le _,GW.refl _,qbG _ _ _⟩,hw.fit (by simp [fitL,Res.eqv,qAA,conc,rowK])⟩,?_⟩
  rintro⟨k,ecs,g'⟩ ⟨hk,hgg,hE⟩
  have hE0:=hE
  obtain⟨_,⟨hel,hes⟩,_⟩:=hE0
  rw [List.length_take,Nat.min_eq_left hk] at hel
  repeat((conv=>whnf);first|apply qza|apply qzb|apply qzc|apply qzd|apply qze|intro(_:Nat))
  conv=>whnf
  refine⟨fun hlt=>?_,fun hlt=>?_⟩
  ·have h':k<l.length:=by have:=of_decide_eq_true hlt;omega
   obtain⟨x,hx⟩:=qDA h'
   obtain⟨x1,x2⟩:=List.getElem?_eq_some_iff.1 hx
   obtain⟨a,rfl,ec,hec,hxe,hc⟩:=hr k x hx
   have hxe0:=hxe
   obtain⟨⟨nx,rfl,u1,u2,⟨oN,cN,rfl,_⟩⟩,u3⟩:=hxe
   repeat((conv=>whnf);first|apply qza|apply qzb|apply qzc|apply qzd|apply qze|intro(_:Nat))
   conv=>whnf
   refine⟨a,rfl,⟨by omega,by omega⟩,?_⟩
   conv=>whnf
   refine⟨_,⟨rfl,hc.mono hgg⟩,?_⟩
   repeat((conv=>whnf);first|apply qza|apply qzb|apply qzc|apply qzd|apply qze|intro(_:Nat))
   conv=>whnf
   refine⟨.of (by kernel_rfl),?_⟩
   refine .inr ((q7O g0 _ (GW.trans h0 hgg) (qUF _ _ _ _ hgg hxe0)).mono fun v g1 hg1 hO=>?_)
   obtain⟨cs',rfl,hO⟩:=hO
   have hO0:=hO
   obtain⟨nv,rfl,_,hO1⟩:=hO0
   obtain⟨oW,cW,rfl,_⟩:=qbO hO1
   have hlenR:=qYE (m:=l.length-k) (z:=[.int .u64 0,.slice none 0 0,.int .i64 0]) hes rfl
   have hT:l.take (k+1)=l.take k++[x]:=by rw [List.take_succ_eq_append_getElem x1,x2]
   have hset:=qXE (m:=l.length-k) (z:=[.int .u64 0,.slice none 0 0,.int .i64 0]) hes rfl (by omega) (ec:=[.int .u64 x.head,.slice oW x.next.length cW,.int .i64 x.active]) rfl hel.symm
   repeat((conv=>whnf);first|apply qza|apply qzb|apply qzc|apply qzd|apply qze|intro(_:Nat))
   conv=>whnf
   refine⟨⟨by omega,by omega⟩,?_⟩
   repeat((conv=>whnf);first|apply qza|apply qzb|apply qzc|apply qzd|apply qze|intro(_:Nat))
   conv=>whnf
   refine⟨⟨by rw [hlenR,hel];simp;omega,by decide⟩,?_⟩
   repeat((conv=>whnf);first|apply qza|apply qzb|apply qzc|apply qzd|apply qze|intro(_:Nat))
   conv=>whnf
   refine fun fr w hw=>⟨(k+1,ecs++[[.int .u64 x.head,.slice oW x.next.length cW,.int .i64 x.active]],g1),congrArg (fun z=>[Value.int .i64 z]) (wr1 h' a1 a2).symm,⟨h',GW.trans hgg hg1,by rw [hT];exact qaF qhJ hgg hg1 hE rfl hO⟩,dec h',hw.fit ?_⟩
   rw [show l.length-(k+1)=l.length-k-1 by omega]
   simp [fitL,Res.eqv,qAA,conc,← hset]
  have hkL:k=l.length:=by have:=of_decide_eq_false hlt;omega
  subst hkL
  rw [List.take_length] at hE
  repeat((conv=>whnf);first|apply qza|apply qzb|apply qzc|apply qzd|apply qze|intro(_:Nat))
  conv=>whnf
  refine fun g1 hg1 hn1 hp1=>?_
  rw [Nat.sub_self,qAE] at hp1
  conv=>whnf
  intro g2 hg
  exact qsD qhJ hg (qEE qhJ hE hgg hg1 (hp1.lo_le h0.1) rfl hn1))
theorem q6M (g0 g:GW) (h0:g0≤g) {cs:List Value} {x:Group} (hx:rGr g cs x) (hb:BgG 1000000 x):Ok Try.prog qJB [.agg ⟨[]⟩,.agg ⟨cs⟩] g fun v g'=>∃ cs',v=.agg ⟨cs'⟩∧oGr wT true g' g0.w.heap.size (NEW g g') cs' x:=by
 obtain⟨n,rfl,hH,hN⟩:=hx
 obtain⟨oa,ca,rfl,a1,a2,a0,hr⟩:=id hN
 exact Ok.of_fn hm noT 0 q5D (args:=[.v (.agg ⟨[]⟩),.v (.agg ⟨[.int .u64 x.ticket,.slice oa x.ends.length ca]⟩)]) (by
  repeat((conv=>whnf);first|apply qza|apply qzb|apply qzc|apply qzd|apply qze|intro(_:Nat))
  refine .inr ((q5O g0 _ h0 hN hb).mono fun v g1 hg1 hO=>?_)
  obtain⟨oV,cV,rfl⟩:=qXC hO
  repeat((conv=>whnf);first|apply qza|apply qzb|apply qzc|apply qzd|apply qze|intro(_:Nat))
  conv=>whnf
  intro g2 hg
  exact⟨_,rfl,_,rfl,hH,qsD qhJ hg hO⟩)
theorem q4M (g0 g:GW) (h0:g0≤g) {v:Value} {l:List Group} (hl:rSl 2 rGr g v l) (hlen:l.length≤1000000) (hb:∀ y∈l,BgG 1000000 y):Ok Try.prog qkB [v,.func (.func qJB) #[] #[],.agg ⟨[]⟩] g fun v' g'=>oSl qTA 2 (oGr wT true) g' g0.w.heap.size (NEW g g') v' l:=by
 obtain⟨oa,ca,rfl,a1,a2,a0,hr⟩:=id hl
 exact Ok.of_fn hm noT 0 qhB (args:=[.v (.slice oa l.length ca),.v (.func (.func qJB) #[] #[]),.v (.agg ⟨[]⟩)]) (by
  repeat((conv=>whnf);first|apply qza|apply qzb|apply qzc|apply qzd|apply qze|intro(_:Nat))
  conv=>whnf
  refine⟨⟨by omega,by omega,by omega,by omega⟩,fun _=>?_⟩
  repeat((conv=>whnf);first|apply qza|apply qzb|apply qzc|apply qzd|apply qze|intro(_:Nat))
  rename_i q0 q1
  conv=>whnf
  refine⟨Nat×List (List Value)×GW,fun (k,_,_)=>[.v (.int .i64 k)],fun (k,ecs,g')=>⟨g',[.row 1 (some ⟨q1,0,none⟩) l.length l.length qTA 2 (rowK ecs [.int .u64 0,.slice none 0 0] (l.length-k)),.blk 0 q0 qzB []],10,g.w.heap.size⟩,fun (k,ecs,g')=>k≤l.length∧g≤g'∧oEls 2 (oGr wT true) g g' g0.w.heap.size ecs (l.take k),fun (k,_,_)=>l.length-k,fun fr w hw=>⟨(0,[],g),rfl,⟨Nat.zero_le _,GW.refl _,qbG _ _ _⟩,hw.fit (by simp [fitL,Res.eqv,qAA,conc,rowK])⟩,?_⟩
  rintro⟨k,ecs,g'⟩ ⟨hk,hgg,hE⟩
  have hE0:=hE
  obtain⟨_,⟨hel,hes⟩,_⟩:=hE0
  rw [List.length_take,Nat.min_eq_left hk] at hel
  repeat((conv=>whnf);first|apply qza|apply qzb|apply qzc|apply qzd|apply qze|intro(_:Nat))
  conv=>whnf
  refine⟨fun hlt=>?_,fun hlt=>?_⟩
  ·have h':k<l.length:=by have:=of_decide_eq_true hlt;omega
   obtain⟨x,hx⟩:=qDA h'
   obtain⟨x1,x2⟩:=List.getElem?_eq_some_iff.1 hx
   obtain⟨a,rfl,ec,hec,hxe,hc⟩:=hr k x hx
   have hxe0:=hxe
   obtain⟨nx,rfl,u1,⟨oN,cN,rfl,_⟩⟩:=hxe
   repeat((conv=>whnf);first|apply qza|apply qzb|apply qzc|apply qzd|apply qze|intro(_:Nat))
   conv=>whnf
   refine⟨a,rfl,⟨by omega,by omega⟩,?_⟩
   conv=>whnf
   refine⟨_,⟨rfl,hc.mono hgg⟩,?_⟩
   repeat((conv=>whnf);first|apply qza|apply qzb|apply qzc|apply qzd|apply qze|intro(_:Nat))
   conv=>whnf
   refine⟨.of (by kernel_rfl),?_⟩
   refine .inr ((q6M g0 _ (GW.trans h0 hgg) (qcD _ _ _ _ hgg hxe0) (hb x (List.mem_of_getElem? hx))).mono fun v g1 hg1 hO=>?_)
   obtain⟨cs',rfl,hO⟩:=hO
   have hO0:=hO
   obtain⟨nv,rfl,_,hO1⟩:=hO0
   obtain⟨oW,cW,rfl⟩:=qXC hO1
   have hlenR:=qYE (m:=l.length-k) (z:=[.int .u64 0,.slice none 0 0]) hes rfl
   have hT:l.take (k+1)=l.take k++[x]:=by rw [List.take_succ_eq_append_getElem x1,x2]
   have hset:=qXE (m:=l.length-k) (z:=[.int .u64 0,.slice none 0 0]) hes rfl (by omega) (ec:=[.int .u64 x.ticket,.slice oW x.ends.length cW]) rfl hel.symm
   repeat((conv=>whnf);first|apply qza|apply qzb|apply qzc|apply qzd|apply qze|intro(_:Nat))
   conv=>whnf
   refine⟨⟨by omega,by omega⟩,?_⟩
   repeat((conv=>whnf);first|apply qza|apply qzb|apply qzc|apply qzd|apply qze|intro(_:Nat))
   conv=>whnf
   refine⟨⟨by rw [hlenR,hel];simp;omega,by decide⟩,?_⟩
   repeat((conv=>whnf);first|apply qza|apply qzb|apply qzc|apply qzd|apply qze|intro(_:Nat))
   conv=>whnf
   refine fun fr w hw=>⟨(k+1,ecs++[[.int .u64 x.ticket,.slice oW x.ends.length cW]],g1),congrArg (fun z=>[Value.int .i64 z]) (wr1 h' a1 a2).symm,⟨h',GW.trans hgg hg1,by rw [hT];exact qaF qgJ hgg hg1 hE rfl hO⟩,dec h',hw.fit ?_⟩
   rw [show l.length-(k+1)=l.length-k-1 by omega]
   simp [fitL,Res.eqv,qAA,conc,← hset]
  have hkL:k=l.length:=by have:=of_decide_eq_false hlt;omega
  subst hkL
  rw [List.take_length] at hE
  repeat((conv=>whnf);first|apply qza|apply qzb|apply qzc|apply qzd|apply qze|intro(_:Nat))
  conv=>whnf
  refine fun g1 hg1 hn1 hp1=>?_
  rw [Nat.sub_self,qAE] at hp1
  conv=>whnf
  intro g2 hg
  exact qsD qgJ hg (qEE qgJ hE hgg hg1 (hp1.lo_le h0.1) rfl hn1))
theorem qqK (g0 g:GW) (h0:g0≤g) {cs:List Value} {x:Version} (hx:rVe g0 cs x) (hb:BgV 1000000 x):Ok Try.prog q0A [.agg ⟨[]⟩,.agg ⟨cs⟩] g fun v g'=>∃ cs',v=.agg ⟨cs'⟩∧oVe wT true g' g0.w.heap.size (NEW g g') cs' x:=by
 obtain⟨a,b,d,n,rfl,hS,hN⟩:=hx
 have hS0:=hS
 obtain⟨_,_,_,he,⟨oa',ca',rfl,_⟩,⟨ob',cb',rfl,_⟩,⟨od',cd',rfl,_⟩⟩:=hS
 cases he
 obtain⟨oa,ca,rfl,a1,a2,a0,hr⟩:=id hN
 exact Ok.of_fn hm noT 0 qWD (args:=[.v (.agg ⟨[]⟩),.v (.agg ⟨[.slice oa' x.snap.listens.length ca',.slice ob' x.snap.rules.length cb',.slice od' x.snap.clusters.length cd',.slice oa x.groups.length ca,.bool x.freed]⟩)]) (by
  repeat((conv=>whnf);first|apply qza|apply qzb|apply qzc|apply qzd|apply qze|intro(_:Nat))
  refine .inr ((q4M g0 _ h0 (hN.mono qcD h0) hb.1 hb.2).mono fun v g1 hg1 hO=>?_)
  obtain⟨oV,cV,rfl⟩:=qXC hO
  repeat((conv=>whnf);first|apply qza|apply qzb|apply qzc|apply qzd|apply qze|intro(_:Nat))
  conv=>whnf
  intro g2 hg
  exact⟨_,rfl,_,_,_,_,rfl,qhC _ _ _ _ (GW.le_vw (GW.trans h0 (GW.trans hg1 hg)) (Nat.le_refl _)) hS0,qsD qgJ hg hO⟩)
theorem qpK (g0 g:GW) (h0:g0≤g) {v:Value} {l:List Version} (hl:rSl 5 rVe g0 v l) (hlen:l.length≤1000000) (hb:∀ y∈l,BgV 1000000 y):Ok Try.prog qXB [v,.func (.func q0A) #[] #[],.agg ⟨[]⟩] g fun v' g'=>oSl qCA 5 (oVe wT true) g' g0.w.heap.size (NEW g g') v' l:=by
 obtain⟨oa,ca,rfl,a1,a2,a0,hr⟩:=id hl
 exact Ok.of_fn hm noT 0 qWB (args:=[.v (.slice oa l.length ca),.v (.func (.func q0A) #[] #[]),.v (.agg ⟨[]⟩)]) (by
  repeat((conv=>whnf);first|apply qza|apply qzb|apply qzc|apply qzd|apply qze|intro(_:Nat))
  conv=>whnf
  refine⟨⟨by omega,by omega,by omega,by omega⟩,fun _=>?_⟩
  repeat((conv=>whnf);first|apply qza|apply qzb|apply qzc|apply qzd|apply qze|intro(_:Nat))
  rename_i q0 q1
  conv=>whnf
  refine⟨Nat×List (List Value)×GW,fun (k,_,_)=>[.v (.int .i64 k)],fun (k,ecs,g')=>⟨g',[.row 1 (some ⟨q1,0,none⟩) l.length l.length qCA 5 (rowK ecs [.slice none 0 0,.slice none 0 0,.slice none 0 0,.slice none 0 0,.bool false] (l.length-k)),.blk 0 q0 qzB []],10,g.w.heap.size⟩,fun (k,ecs,g')=>k≤l.length∧g≤g'∧oEls 5 (oVe wT true) g g' g0.w.heap.size ecs (l.take k),fun (k,_,_)=>l.length-k,fun fr w hw=>⟨(0,[],g),rfl,⟨Nat.zero_le _,GW.refl _,qbG _ _ _⟩,hw.fit (by simp [fitL,Res.eqv,qAA,conc,rowK])⟩,?_⟩
  rintro⟨k,ecs,g'⟩ ⟨hk,hgg,hE⟩
  have hE0:=hE
  obtain⟨_,⟨hel,hes⟩,_⟩:=hE0
  rw [List.length_take,Nat.min_eq_left hk] at hel
  repeat((conv=>whnf);first|apply qza|apply qzb|apply qzc|apply qzd|apply qze|intro(_:Nat))
  conv=>whnf
  refine⟨fun hlt=>?_,fun hlt=>?_⟩
  ·have h':k<l.length:=by have:=of_decide_eq_true hlt;omega
   obtain⟨x,hx⟩:=qDA h'
   obtain⟨x1,x2⟩:=List.getElem?_eq_some_iff.1 hx
   obtain⟨a,rfl,ec,hec,hxe,hc⟩:=hr k x hx
   have hxe0:=hxe
   obtain⟨sa,sb,sd,nx,rfl,⟨_,_,_,hee,⟨oa',ca',rfl,_⟩,⟨ob',cb',rfl,_⟩,⟨od',cd',rfl,_⟩⟩,⟨oN,cN,rfl,_⟩⟩:=hxe
   cases hee
   repeat((conv=>whnf);first|apply qza|apply qzb|apply qzc|apply qzd|apply qze|intro(_:Nat))
   conv=>whnf
   refine⟨a,rfl,⟨by omega,by omega⟩,?_⟩
   conv=>whnf
   refine⟨_,⟨rfl,hc.mono (GW.trans h0 hgg)⟩,?_⟩
   repeat((conv=>whnf);first|apply qza|apply qzb|apply qzc|apply qzd|apply qze|intro(_:Nat))
   conv=>whnf
   refine⟨.of (by kernel_rfl),?_⟩
   refine .inr ((qqK g0 _ (GW.trans h0 hgg) hxe0 (hb x (List.mem_of_getElem? hx))).mono fun v g1 hg1 hO=>?_)
   obtain⟨cs',rfl,hO⟩:=hO
   have hO0:=hO
   obtain⟨ua,ub,ud,nv,rfl,⟨_,_,_,hee,⟨oa2,ca2,rfl,_⟩,⟨ob2,cb2,rfl,_⟩,⟨od2,cd2,rfl,_⟩⟩,hO1⟩:=hO0
   cases hee
   obtain⟨oW,cW,rfl⟩:=qXC hO1
   have hlenR:=qYE (m:=l.length-k) (z:=[.slice none 0 0,.slice none 0 0,.slice none 0 0,.slice none 0 0,.bool false]) hes rfl
   have hT:l.take (k+1)=l.take k++[x]:=by rw [List.take_succ_eq_append_getElem x1,x2]
   have hset:=qXE (m:=l.length-k) (z:=[.slice none 0 0,.slice none 0 0,.slice none 0 0,.slice none 0 0,.bool false]) hes rfl (by omega) (ec:=[.slice oa2 x.snap.listens.length ca2,.slice ob2 x.snap.rules.length cb2,.slice od2 x.snap.clusters.length cd2,.slice oW x.groups.length cW,.bool x.freed]) rfl hel.symm
   repeat((conv=>whnf);first|apply qza|apply qzb|apply qzc|apply qzd|apply qze|intro(_:Nat))
   conv=>whnf
   refine⟨⟨by omega,by omega⟩,?_⟩
   repeat((conv=>whnf);first|apply qza|apply qzb|apply qzc|apply qzd|apply qze|intro(_:Nat))
   conv=>whnf
   refine⟨⟨by rw [hlenR,hel];simp;omega,by decide⟩,?_⟩
   repeat((conv=>whnf);first|apply qza|apply qzb|apply qzc|apply qzd|apply qze|intro(_:Nat))
   conv=>whnf
   refine fun fr w hw=>⟨(k+1,ecs++[[.slice oa2 x.snap.listens.length ca2,.slice ob2 x.snap.rules.length cb2,.slice od2 x.snap.clusters.length cd2,.slice oW x.groups.length cW,.bool x.freed]],g1),congrArg (fun z=>[Value.int .i64 z]) (wr1 h' a1 a2).symm,⟨h',GW.trans hgg hg1,by rw [hT];exact qaF qaL hgg hg1 hE rfl hO⟩,dec h',hw.fit ?_⟩
   rw [show l.length-(k+1)=l.length-k-1 by omega]
   simp [fitL,Res.eqv,qAA,conc,← hset]
  have hkL:k=l.length:=by have:=of_decide_eq_false hlt;omega
  subst hkL
  rw [List.take_length] at hE
  repeat((conv=>whnf);first|apply qza|apply qzb|apply qzc|apply qzd|apply qze|intro(_:Nat))
  conv=>whnf
  refine fun g1 hg1 hn1 hp1=>?_
  rw [Nat.sub_self,qAE] at hp1
  conv=>whnf
  intro g2 hg
  exact qsD qaL hg (qEE qaL hE hgg hg1 (hp1.lo_le h0.1) rfl hn1))
theorem q6O (g0 g:GW) (h0:g0≤g) {v:Value} {x:List Int} (hx:rSl 1 rU64 g v x) (hb:x.length≤17592186044416):Ok Try.prog qlB [.agg ⟨[]⟩,v] g fun v' g'=>oSl qHD 1 (oLf rU64) g' g0.w.heap.size (NEW g g') v' x:=by
 obtain⟨oa,ca,rfl,a1,a2,a0,hr⟩:=id hx
 exact Ok.of_fn hm noT 0 qvE (args:=[.v (.agg ⟨[]⟩),.v (.slice oa x.length ca)]) (by
  repeat((conv=>whnf);first|apply qza|apply qzb|apply qzc|apply qzd|apply qze|intro(_:Nat))
  refine .inr ((ok_cU g0 _ h0 hx hb).mono fun v g1 hg1 hO=>?_)
  obtain⟨oV,cV,rfl⟩:=qXC hO
  repeat((conv=>whnf);first|apply qza|apply qzb|apply qzc|apply qzd|apply qze|intro(_:Nat))
  conv=>whnf
  intro g2 hg
  exact qsD (qpC qSF) hg hO)
theorem q4O (g0 g:GW) (h0:g0≤g) {v:Value} {l:List (List Int)} (hl:rSl 1 rRow g v l) (hlen:l.length≤1000000) (hb:∀ y∈l,y.length≤1000000):Ok Try.prog qwB [v,.func (.func qlB) #[] #[],.agg ⟨[]⟩] g fun v' g'=>oSl qEB 1 (oRo wT) g' g0.w.heap.size (NEW g g') v' l:=by
 obtain⟨oa,ca,rfl,a1,a2,a0,hr⟩:=id hl
 exact Ok.of_fn hm noT 0 quB (args:=[.v (.slice oa l.length ca),.v (.func (.func qlB) #[] #[]),.v (.agg ⟨[]⟩)]) (by
  repeat((conv=>whnf);first|apply qza|apply qzb|apply qzc|apply qzd|apply qze|intro(_:Nat))
  conv=>whnf
  refine⟨⟨by omega,by omega,by omega,by omega⟩,fun _=>?_⟩
  repeat((conv=>whnf);first|apply qza|apply qzb|apply qzc|apply qzd|apply qze|intro(_:Nat))
  rename_i q0 q1
  conv=>whnf
  refine⟨Nat×List (List Value)×GW,fun (k,_,_)=>[.v (.int .i64 k)],fun (k,ecs,g')=>⟨g',[.row 1 (some ⟨q1,0,none⟩) l.length l.length qEB 1 (rowK ecs [.slice none 0 0] (l.length-k)),.blk 0 q0 qzB []],10,g.w.heap.size⟩,fun (k,ecs,g')=>k≤l.length∧g≤g'∧oEls 1 (oRo wT) g g' g0.w.heap.size ecs (l.take k),fun (k,_,_)=>l.length-k,fun fr w hw=>⟨(0,[],g),rfl,⟨Nat.zero_le _,GW.refl _,qbG _ _ _⟩,hw.fit (by simp [fitL,Res.eqv,qAA,conc,rowK])⟩,?_⟩
  rintro⟨k,ecs,g'⟩ ⟨hk,hgg,hE⟩
  have hE0:=hE
  obtain⟨_,⟨hel,hes⟩,_⟩:=hE0
  rw [List.length_take,Nat.min_eq_left hk] at hel
  repeat((conv=>whnf);first|apply qza|apply qzb|apply qzc|apply qzd|apply qze|intro(_:Nat))
  conv=>whnf
  refine⟨fun hlt=>?_,fun hlt=>?_⟩
  ·have h':k<l.length:=by have:=of_decide_eq_true hlt;omega
   obtain⟨x,hx⟩:=qDA h'
   obtain⟨x1,x2⟩:=List.getElem?_eq_some_iff.1 hx
   obtain⟨a,rfl,ec,hec,hxe,hc⟩:=hr k x hx
   have hxe0:=hxe
   obtain⟨nx,rfl,hN⟩:=hxe
   have hN0:=hN
   obtain⟨oN,cN,rfl,_⟩:=hN
   repeat((conv=>whnf);first|apply qza|apply qzb|apply qzc|apply qzd|apply qze|intro(_:Nat))
   conv=>whnf
   refine⟨a,rfl,⟨by omega,by omega⟩,?_⟩
   conv=>whnf
   refine⟨_,hc.mono hgg 0 _ rfl,?_⟩
   repeat((conv=>whnf);first|apply qza|apply qzb|apply qzc|apply qzd|apply qze|intro(_:Nat))
   conv=>whnf
   refine⟨.of (by kernel_rfl),?_⟩
   refine .inr ((q6O g0 _ (GW.trans h0 hgg) (hN0.mono quG hgg) (by have:=hb x (List.mem_of_getElem? hx);omega)).mono fun v g1 hg1 hO=>?_)
   obtain⟨oW,cW,rfl⟩:=qXC hO
   have hlenR:=qYE (m:=l.length-k) (z:=[.slice none 0 0]) hes rfl
   have hT:l.take (k+1)=l.take k++[x]:=by rw [List.take_succ_eq_append_getElem x1,x2]
   have hset:=qXE (m:=l.length-k) (z:=[.slice none 0 0]) hes rfl (by omega) (ec:=[.slice oW x.length cW]) rfl hel.symm
   repeat((conv=>whnf);first|apply qza|apply qzb|apply qzc|apply qzd|apply qze|intro(_:Nat))
   conv=>whnf
   refine⟨⟨by omega,by omega⟩,?_⟩
   repeat((conv=>whnf);first|apply qza|apply qzb|apply qzc|apply qzd|apply qze|intro(_:Nat))
   conv=>whnf
   refine⟨⟨by rw [hlenR,hel];simp;omega,by decide⟩,?_⟩
   repeat((conv=>whnf);first|apply qza|apply qzb|apply qzc|apply qzd|apply qze|intro(_:Nat))
   conv=>whnf
   refine fun fr w hw=>⟨(k+1,ecs++[[.slice oW x.length cW]],g1),congrArg (fun z=>[Value.int .i64 z]) (wr1 h' a1 a2).symm,⟨h',GW.trans hgg hg1,by rw [hT];exact qaF qbL hgg hg1 hE rfl ⟨_,rfl,hO⟩⟩,dec h',hw.fit ?_⟩
   rw [show l.length-(k+1)=l.length-k-1 by omega]
   simp [fitL,Res.eqv,qAA,conc,← hset]
  have hkL:k=l.length:=by have:=of_decide_eq_false hlt;omega
  subst hkL
  rw [List.take_length] at hE
  repeat((conv=>whnf);first|apply qza|apply qzb|apply qzc|apply qzd|apply qze|intro(_:Nat))
  conv=>whnf
  refine fun g1 hg1 hn1 hp1=>?_
  rw [Nat.sub_self,qAE] at hp1
  conv=>whnf
  intro g2 hg
  exact qsD qbL hg (qEE qbL hE hgg hg1 (hp1.lo_le h0.1) rfl hn1))
/- Worlds: clones. -/
open Go.Proofs.Ytkbbljngpglnkaa.Sx Go.RowKit
def qJQ (g:GW) (w:Wd) (v:Value) (g':GW):Prop:=∃ cs T,v=.agg ⟨cs⟩∧oWo wT true g' g.w.heap.size T cs w
def T5 (g1 g2 g3 g4 g5 g6:GW):Nat→Nat→Prop:=fun i n=>match i with
 | 0=>NEW g1 g2 n
 | 1=>NEW g2 g3 n
 | 2=>NEW g3 g4 n
 | 3=>NEW g4 g5 n
 | 4=>NEW g5 g6 n
 | _=>False
theorem qUP {g1 g2 g3 g4 g5 g6:GW} (h1:g1≤g2) (h2:g2≤g3) (h3:g3≤g4) (h4:g4≤g5) (i j n:Nat) (p:T5 g1 g2 g3 g4 g5 g6 i n) (q:T5 g1 g2 g3 g4 g5 g6 j n):i=j:=by
 have e3:=GW.trans h2 h3
 have e4:=GW.trans e3 h4
 have e5:=GW.trans h3 h4
 have key:∀ {a b c d:GW},b≤c→NEW a b n→NEW c d n→False:=fun k p q=>q.2 (k.2 n p.1).1
 match i,j,p,q with
 | 0,0,_,_=>rfl
 | 1,1,_,_=>rfl
 | 2,2,_,_=>rfl
 | 3,3,_,_=>rfl
 | 4,4,_,_=>rfl
 | 0,1,p,q=>exact(key (GW.refl _) p q).elim
 | 0,2,p,q=>exact(key h2 p q).elim
 | 0,3,p,q=>exact(key e3 p q).elim
 | 0,4,p,q=>exact(key e4 p q).elim
 | 1,2,p,q=>exact(key (GW.refl _) p q).elim
 | 1,3,p,q=>exact(key h3 p q).elim
 | 1,4,p,q=>exact(key e5 p q).elim
 | 2,3,p,q=>exact(key (GW.refl _) p q).elim
 | 2,4,p,q=>exact(key h4 p q).elim
 | 3,4,p,q=>exact(key (GW.refl _) p q).elim
 | 1,0,p,q=>exact(key (GW.refl _) q p).elim
 | 2,0,p,q=>exact(key h2 q p).elim
 | 3,0,p,q=>exact(key e3 q p).elim
 | 4,0,p,q=>exact(key e4 q p).elim
 | 2,1,p,q=>exact(key (GW.refl _) q p).elim
 | 3,1,p,q=>exact(key h3 q p).elim
 | 4,1,p,q=>exact(key e5 q p).elim
 | 3,2,p,q=>exact(key (GW.refl _) q p).elim
 | 4,2,p,q=>exact(key h4 q p).elim
 | 4,3,p,q=>exact(key (GW.refl _) q p).elim
 | _+5,_,p,_=>exact p.elim
 | _,_+5,_,q=>exact q.elim
theorem qaG (g:GW) {cs:List Value} {w:Wd} (hw:rWo g cs w) (hb:BgW 1000000 w):Ok Try.prog qfI [.agg ⟨cs⟩] g (qJQ g w):=by
 obtain⟨a,b,c,d,e,rfl,⟨i1,i2,i3⟩,hP,hV,hL,hC,hR⟩:=hw
 obtain⟨⟨z1,z2,z3,z4,z5⟩,z6,z7⟩:=hb
 obtain⟨oa,ca,rfl,a1,a2,a0,hP1⟩:=id hP
 obtain⟨ob,cb,rfl,b1,b2,b0,hV1⟩:=id hV
 obtain⟨oc,cc,rfl,c1,c2,c0,hL1⟩:=id hL
 obtain⟨od,cd,rfl,d1,d2,d0,hC1⟩:=id hC
 obtain⟨oe,ce,rfl,e1,e2,e0,hR1⟩:=id hR
 exact Ok.of_fn hm noT 0 qMI (args:=[.v (.agg ⟨wQ w oa ca ob cb oc cc od cd oe ce⟩)]) (by
  repeat((conv=>whnf);first|apply qza|apply qzb|apply qzc|apply qzd|apply qze|intro(_:Nat))
  refine .inr ((q5M g _ (GW.refl _) hP (by omega)).mono fun v1 r1 k1 o1=>?_)
  obtain⟨p1,q1,rfl⟩:=qXC o1
  repeat((conv=>whnf);first|apply qza|apply qzb|apply qzc|apply qzd|apply qze|intro(_:Nat))
  refine .inr ((qpK g _ k1 hV z2 z7).mono fun v2 r2 k2 o2=>?_)
  obtain⟨p2,q2,rfl⟩:=qXC o2
  have m2:=GW.trans k1 k2
  repeat((conv=>whnf);first|apply qza|apply qzb|apply qzc|apply qzd|apply qze|intro(_:Nat))
  refine .inr ((qrP g _ m2 (hL.mono qrB m2) z3).mono fun v3 r3 k3 o3=>?_)
  obtain⟨p3,q3,rfl⟩:=qXC o3
  have m3:=GW.trans m2 k3
  repeat((conv=>whnf);first|apply qza|apply qzb|apply qzc|apply qzd|apply qze|intro(_:Nat))
  refine .inr ((q4O g _ m3 (hC.mono qWA m3) z4 z6).mono fun v4 r4 k4 o4=>?_)
  obtain⟨p4,q4,rfl⟩:=qXC o4
  have m4:=GW.trans m3 k4
  repeat((conv=>whnf);first|apply qza|apply qzb|apply qzc|apply qzd|apply qze|intro(_:Nat))
  refine .inr ((qqP g _ m4 (hR.mono qaC m4) z5).mono fun v5 r5 k5 o5=>?_)
  obtain⟨p5,q5,rfl⟩:=qXC o5
  repeat((conv=>whnf);first|apply qza|apply qzb|apply qzc|apply qzd|apply qze|intro(_:Nat))
  conv=>whnf
  intro g2 hg
  have n5:=hg
  have n4:=GW.trans k5 n5
  have n3:=GW.trans k4 n4
  have n2:=GW.trans k3 n3
  have n1:=GW.trans k2 n2
  exact⟨_,T5 g r1 r2 r3 r4 r5,rfl,_,_,_,_,_,rfl,⟨i1,i2,i3⟩,qUP k1 k2 k3 k4,qpE (qpC qbD) (GW.vw_up n1 _ _) o1,qpE qaL (GW.vw_up n2 _ _) o2,qpE (qpC qaD) (GW.vw_up n3 _ _) o3,qpE qbL (GW.vw_up n4 _ _) o4,qpE (qpC q3C) (GW.vw_up n5 _ _) o5⟩)
/- Worlds: clones,the document's answer. -/
open Go.Proofs.Ytkbbljngpglnkaa.Sx Go.RowKit
/- Pins: a thread is pinned no more. -/
open Go.Proofs.Ytkbbljngpglnkaa.Sx Go.RowKit
/- Pins: a thread is pinned no more;the document's answer. -/
open Go.Proofs.Ytkbbljngpglnkaa.Sx Go.RowKit
/- Pins: the steps' table. -/
open Go.Proofs.Ytkbbljngpglnkaa.Sx Go.RowKit
/- Pins: a step,another place. -/
open Go.Proofs.Ytkbbljngpglnkaa.Sx Go.RowKit
/- Pins: a step,place 0. -/
open Go.Proofs.Ytkbbljngpglnkaa.Sx Go.RowKit
/- Pins: a step,place 1. -/
open Go.Proofs.Ytkbbljngpglnkaa.Sx Go.RowKit
/- Pins: a step,place 2. -/
open Go.Proofs.Ytkbbljngpglnkaa.Sx Go.RowKit
/- Pins: a step,at any place. -/
open Go.Proofs.Ytkbbljngpglnkaa.Sx Go.RowKit
/- Slots: those of a new endpoint. -/
open Go.Proofs.Ytkbbljngpglnkaa.Sx Go.RowKit
def qIQ (n:Int) (v:Value) (g':GW):Prop :=
 ((1≤n∧n≤4)∧∃ oa cap,v=.tuple #[.agg ⟨[.int .u64 1,.slice oa n.toNat cap,.int .i64 0]⟩,.int .i64 0]∧rSl 1 rInt g' (.slice oa n.toNat cap) (qgB n.toNat).next) ∨
 (¬ (1≤n∧n≤4)∧v=.tuple #[.agg ⟨[.int .u64 0,.slice none 0 0,.int .i64 0]⟩,.int .i64 1])
abbrev upE (k:Nat):List (List Value):=(List.range k).map fun (i:Nat)=>[Value.int .i64 ((i:Int)+1)]
theorem qfN (k:Nat):upE (k+1)=upE k++[[Value.int .i64 ((k:Int)+1)]]:=by simp [upE,List.range_succ]
theorem qWO {k:Nat}:∀ e∈upE k,e.length=1:=fun e he=>by
 obtain⟨x,_,rfl⟩:=List.mem_map.1 he;rfl
theorem q3N (g:GW) {n:Int}:Ok Try.prog qjI [.int .i64 n] g (qIQ n) :=
 Ok.of_fn hm noT 0 qQI (args:=[.v (.int .i64 n)]) (by
  repeat((conv=>whnf);first|apply qza|apply qzb|apply qzc|apply qzd|apply qze|intro(_:Nat))
  conv=>whnf
  refine⟨fun z1=>?_,fun z1=>?_⟩
  ·repeat((conv=>whnf);first|apply qza|apply qzb|apply qzc|apply qzd|apply qze|intro(_:Nat))
   conv=>whnf
   intro g2 hg
   exact .inr ⟨by have:=of_decide_eq_true z1;omega,rfl⟩
  repeat((conv=>whnf);first|apply qza|apply qzb|apply qzc|apply qzd|apply qze|intro(_:Nat))
  conv=>whnf
  refine⟨fun z2=>?_,fun z2=>?_⟩
  ·repeat((conv=>whnf);first|apply qza|apply qzb|apply qzc|apply qzd|apply qze|intro(_:Nat))
   conv=>whnf
   intro g2 hg
   exact .inr ⟨by have:=of_decide_eq_true z2;omega,rfl⟩
  have k1:=of_decide_eq_false z1
  have k2:=of_decide_eq_false z2
  obtain⟨N,rfl⟩:=Int.eq_ofNat_of_zero_le (show 0≤n by omega)
  repeat((conv=>whnf);first|apply qza|apply qzb|apply qzc|apply qzd|apply qze|intro(_:Nat))
  conv=>whnf
  refine⟨⟨by omega,by omega,by omega,by omega⟩,fun _=>?_⟩
  repeat((conv=>whnf);first|apply qza|apply qzb|apply qzc|apply qzd|apply qze|intro(_:Nat))
  rename_i q0 q1 q2
  conv=>whnf
  refine⟨Nat,fun k=>[.v (.int .i64 k)],fun k=>⟨g,[.blk 2 q2 qeA [.v (.int .u64 0),.row 1 (some ⟨q1,0,none⟩) N N,.v (.int .i64 0)],.row 1 (some ⟨q1,0,none⟩) N N q9A 1 (rowK (upE k) [.int .i64 0] (N-k)),.blk 0 q0 qeA [.v (.int .u64 0),.v (.slice none 0 0),.v (.int .i64 0)]],3,g.w.heap.size⟩,fun k=>k≤N,fun k=>N-k,fun fr w hw=>⟨0,rfl,Nat.zero_le _,hw.fit (by simp [fitL,Res.eqv,qAA,conc,rowK,upE])⟩,?_⟩
  intro k hk
  have hlen:=qYE (m:=N-k) (z:=[.int .i64 0]) (qWO (k:=k)) rfl
  have hul:(upE k).length=k:=by simp [upE]
  repeat((conv=>whnf);first|apply qza|apply qzb|apply qzc|apply qzd|apply qze|intro(_:Nat))
  conv=>whnf
  refine⟨fun hlt=>?_,fun hlt=>?_⟩
  ·have h':k<N:=by have:=of_decide_eq_true hlt;omega
   have hset:=qXE (m:=N-k) (z:=[.int .i64 0]) (qWO (k:=k)) rfl (by omega) (ec:=[.int .i64 ((k:Int)+1)]) rfl hul.symm
   rw [← qfN] at hset
   repeat((conv=>whnf);first|apply qza|apply qzb|apply qzc|apply qzd|apply qze|intro(_:Nat))
   conv=>whnf
   refine⟨⟨by omega,by omega⟩,?_⟩
   repeat((conv=>whnf);first|apply qza|apply qzb|apply qzc|apply qzd|apply qze|intro(_:Nat))
   conv=>whnf
   refine⟨⟨by rw [hlen,hul];simp;omega,by decide⟩,?_⟩
   repeat((conv=>whnf);first|apply qza|apply qzb|apply qzc|apply qzd|apply qze|intro(_:Nat))
   conv=>whnf
   refine fun fr w hw=>⟨k+1,congrArg (fun z=>[Value.int .i64 z]) (by rw [wr (show InR ((k:Int)+1) by unfold InR;omega)];omega),h',dec h',hw.fit ?_⟩
   rw [show N-(k+1)=N-k-1 by omega,← hset]
   simp [fitL,Res.eqv,qAA,conc,wr (show InR ((k:Int)+1) by unfold InR;omega)]
  have hkN:k=N:=by have:=of_decide_eq_false hlt;omega
  subst hkN
  rw [Nat.sub_self,hul] at hlen
  repeat((conv=>whnf);first|apply qza|apply qzb|apply qzc|apply qzd|apply qze|intro(_:Nat))
  conv=>whnf
  refine⟨⟨by rw [wr (by unfold InR;omega)];omega,by rw [wr (by unfold InR;omega)];omega⟩,?_⟩
  repeat((conv=>whnf);first|apply qza|apply qzb|apply qzc|apply qzd|apply qze|intro(_:Nat))
  conv=>whnf
  refine⟨⟨by rw [Nat.sub_self,hlen,wr (by unfold InR;omega)];simp;omega,by decide⟩,?_⟩
  repeat((conv=>whnf);first|apply qza|apply qzb|apply qzc|apply qzd|apply qze|intro(_:Nat))
  conv=>whnf
  refine .inl ⟨_,(qxN _ (t:=0) (i:=0) (by decide) (by decide)).to (show _=Value.tuple #[.int .u64 1,.int .i64 0] from rfl),?_⟩
  repeat((conv=>whnf);first|apply qza|apply qzb|apply qzc|apply qzd|apply qze|intro(_:Nat))
  conv=>whnf
  refine fun g1 hg1 hn1 hp1=>?_
  repeat((conv=>whnf);first|apply qza|apply qzb|apply qzc|apply qzd|apply qze|intro(_:Nat))
  conv=>whnf
  intro g2 hg
  refine .inl ⟨⟨by omega,by omega⟩,_,_,rfl,?_⟩
  have hN:k=1∨k=2∨k=3∨k=4:=by omega
  rcases hN with rfl|rfl|rfl|rfl
  all_goals exact(qnC hp1.rd (qgB _).next (fun x=>.int .i64 x) rfl fun x hx=>⟨rfl,by simp [qgB,List.range,List.range.loop] at hx;unfold InR;omega⟩).mono qHB hg)
theorem qHO {g:GW} {n:Int} {oa:Option Addr} {cap:Nat} (h:1≤n∧n≤4) (hr:rSl 1 rInt g (.slice oa n.toNat cap) (qgB n.toNat).next):rEn g [.int .u64 1,.slice oa n.toNat cap,.int .i64 0] (qgB n.toNat) :=
 ⟨⟨_,rfl,show InU 1 by decide,show InR 0 by decide,hr⟩,by simp [qgB];omega⟩
/- Worlds: a snapshot's cells. -/
open Go.Proofs.Ytkbbljngpglnkaa.Sx Go.RowKit
def qKQ (s:Snap) (v:Value) (g':GW):Prop :=
 (qxA (q0D s)=none∧∃ a b d oa n cap,v=.tuple #[.agg ⟨[a,b,d,.slice oa n cap,.bool false]⟩,.int .i64 0]∧rVe g' [a,b,d,.slice oa n cap,.bool false] (qFA s)) ∨
 (qxA (q0D s)≠none∧v=.tuple #[.agg ⟨[.slice none 0 0,.slice none 0 0,.slice none 0 0,.slice none 0 0,.bool false]⟩,.int .i64 1])
theorem q4N (g:GW) {cs:List Value} {s:Snap} (hs:qhH g cs s) (hsz:s.rules.length≤1000000):Ok Try.prog qgI [.agg ⟨cs⟩] g (qKQ s):=by
 have hs0:=hs
 obtain⟨a,b,d,rfl,hl,hr,hk⟩:=hs
 obtain⟨oa,ca,rfl,a1,a2,a0,hl1⟩:=id hl
 obtain⟨ob,cb,rfl,b1,b2,b0,hr1⟩:=id hr
 obtain⟨od,cd,rfl,d1,d2,d0,hk1⟩:=id hk
 exact Ok.of_fn hm noT 0 qNI (args:=[.v (.agg ⟨[.slice oa s.listens.length ca,.slice ob s.rules.length cb,.slice od s.clusters.length cd]⟩)]) (by
  repeat((conv=>whnf);first|apply qza|apply qzb|apply qzc|apply qzd|apply qze|intro(_:Nat)|intro(_:OA)_)
  conv=>whnf
  refine .inl ⟨_,qYO _ hs0 hsz,?_⟩
  repeat((conv=>whnf);first|apply qza|apply qzb|apply qzc|apply qzd|apply qze|intro(_:Nat)|intro(_:OA)_)
  conv=>whnf
  refine⟨fun z1=>?_,fun z1=>?_⟩
  ·repeat((conv=>whnf);first|apply qza|apply qzb|apply qzc|apply qzd|apply qze|intro(_:Nat)|intro(_:OA)_)
   conv=>whnf
   intro g2 hg
   refine .inr ⟨fun h=>?_,rfl⟩
   rw [qHP h] at z1;cases z1
  have hz:=eqB_iff.1 (nb0 z1)
  have G:=good_iff.1 hz
  have hclL:s.clusters.length≤4:=G.size.2.2.2
  have hcl:∀ x∈s.clusters,(1≤x.slots∧x.slots≤4)∧(1≤x.health.length∧x.health.length≤4):=fun x hx=>(G.cl x hx).2.2
  repeat((conv=>whnf);first|apply qza|apply qzb|apply qzc|apply qzd|apply qze|intro(_:Nat)|intro(_:OA)_)
  rename_i q0 q1 q2
  conv=>whnf
  refine⟨Nat×List (List Value)×Option Addr×Nat×GW,fun (k,_,_,_,_)=>[.v (.int .i64 k)],fun (k,ecs,oX,cX,g')=>⟨g',[.row 10 oX k cX qTA 2 ecs.flatten,.blk 2 q2 qCA [.v (.slice oa s.listens.length ca),.v (.slice ob s.rules.length cb),.v (.slice od s.clusters.length cd),.row 10 oX k cX,.v (.bool false)],.blk 1 q1 qCA [.v (.slice none 0 0),.v (.slice none 0 0),.v (.slice none 0 0),.v (.slice none 0 0),.v (.bool false)],.blk 0 q0 qbA [.v (.slice oa s.listens.length ca),.v (.slice ob s.rules.length cb),.v (.slice od s.clusters.length cd)]],20,g.w.heap.size⟩,fun (k,ecs,_,_,g')=>k≤s.clusters.length∧g≤g'∧rEls 2 rGr g' ecs ((s.clusters.take k).map fun c=>(⟨0,c.health.map fun _=>qgB c.slots.toNat⟩:Group)),fun (k,_,_,_,_)=>s.clusters.length-k,fun fr w hw=>⟨(0,[],none,0,g),rfl,⟨Nat.zero_le _,GW.refl _,qZI _⟩,(hw.nil_row (nx':=20) 10 qTA 2).fit (by simp [fitL,Res.eqv,qAA,conc])⟩,?_⟩
  rintro⟨k,ecs,oX,cX,g'⟩ ⟨hkk,hgg,hE⟩
  repeat((conv=>whnf);first|apply qza|apply qzb|apply qzc|apply qzd|apply qze|intro(_:Nat)|intro(_:OA)_)
  conv=>whnf
  refine⟨fun hlt=>?_,fun hlt=>?_⟩
  ·have h':k<s.clusters.length:=by have:=of_decide_eq_true hlt;omega
   obtain⟨x,hx⟩:=qDA h'
   obtain⟨x1,x2⟩:=List.getElem?_eq_some_iff.1 hx
   have hxc:=hcl x (List.mem_of_getElem? hx)
   obtain⟨a,rfl,ec,hec,⟨hv,rfl,_,_,⟨oh,ch,rfl,t1,t2,_⟩⟩,hc⟩:=hk1 k x hx
   repeat((conv=>whnf);first|apply qza|apply qzb|apply qzc|apply qzd|apply qze|intro(_:Nat)|intro(_:OA)_)
   conv=>whnf
   refine⟨a,rfl,⟨by omega,by omega⟩,?_⟩
   conv=>whnf
   refine⟨_,⟨rfl,hc.mono hgg⟩,?_⟩
   repeat((conv=>whnf);first|apply qza|apply qzb|apply qzc|apply qzd|apply qze|intro(_:Nat)|intro(_:OA)_)
   rename_i qc qg
   conv=>whnf
   refine⟨Nat×List (List Value)×Option Addr×Nat×GW,fun (n,_,_,_,_)=>[.v (.int .i64 n)],fun (n,ecs2,oE,cE,g2)=>⟨g2,[.row 30 oE n cE qeA 3 ecs2.flatten,.blk 21 qg qTA [.v (.int .u64 0),.row 30 oE n cE],.blk 20 qc qKC [.v (.string x.name),.v (.int .i64 x.policy),.v (.int .i64 x.slots),.v (.slice oh x.health.length ch)],.row 10 oX k cX qTA 2 ecs.flatten,.blk 2 q2 qCA [.v (.slice oa s.listens.length ca),.v (.slice ob s.rules.length cb),.v (.slice (some a) s.clusters.length cd),.row 10 oX k cX,.v (.bool false)],.blk 1 q1 qCA [.v (.slice none 0 0),.v (.slice none 0 0),.v (.slice none 0 0),.v (.slice none 0 0),.v (.bool false)],.blk 0 q0 qbA [.v (.slice oa s.listens.length ca),.v (.slice ob s.rules.length cb),.v (.slice (some a) s.clusters.length cd)]],40,g.w.heap.size⟩,fun (n,ecs2,_,_,g2)=>n≤x.health.length∧g'≤g2∧rEls 3 rEn g2 ecs2 ((x.health.take n).map fun _=>qgB x.slots.toNat),fun (n,_,_,_,_)=>x.health.length-n,fun fr w hw=>⟨(0,[],none,0,g'),rfl,⟨Nat.zero_le _,GW.refl _,qZI _⟩,(hw.nil_row (nx':=40) 30 qeA 3).fit (by simp [fitL,Res.eqv,qAA,conc])⟩,?_⟩
   rintro⟨n,ecs2,oE,cE,g2⟩ ⟨hn,hg2,hE2⟩
   repeat((conv=>whnf);first|apply qza|apply qzb|apply qzc|apply qzd|apply qze|intro(_:Nat)|intro(_:OA)_)
   conv=>whnf
   refine⟨fun hln=>?_,fun hln=>?_⟩
   ·have h2:n<x.health.length:=by have:=of_decide_eq_true hln;omega
    repeat((conv=>whnf);first|apply qza|apply qzb|apply qzc|apply qzd|apply qze|intro(_:Nat)|intro(_:OA)_)
    refine .inr ((q3N _).mono fun v g3 hg3 hF=>?_)
    rcases hF with ⟨_,oF,cF,rfl,hF⟩|⟨hF,_⟩
    rotate_left
    ·exact absurd hxc.1 hF
    have hEn:=qHO hxc.1 hF
    have hT:((x.health.take (n+1)).map fun _=>qgB x.slots.toNat)=((x.health.take n).map fun _=>qgB x.slots.toNat)++[qgB x.slots.toNat]:=by
     rw [List.take_succ_eq_append_getElem h2,List.map_append];rfl
    repeat((conv=>whnf);first|apply qza|apply qzb|apply qzc|apply qzd|apply qze|intro(_:Nat)|intro(_:OA)_)
    conv=>whnf
    refine⟨fun h=>(nomatch h),fun _=>?_⟩
    repeat((conv=>whnf);first|apply qza|apply qzb|apply qzc|apply qzd|apply qze|intro(_:Nat)|intro(_:OA)_)
    conv=>whnf
    refine⟨⟨by unfold maxLen;omega,by omega⟩,fun oa2 cap2=>?_⟩
    repeat((conv=>whnf);first|apply qza|apply qzb|apply qzc|apply qzd|apply qze|intro(_:Nat)|intro(_:OA)_)
    conv=>whnf
    refine fun fr w hw=>⟨(n+1,ecs2++[[.int .u64 1,.slice oF x.slots.toNat cF,.int .i64 0]],oa2,cap2,g3),congrArg (fun z=>[Value.int .i64 z]) (wr1 h2 t1 t2).symm,⟨h2,GW.trans hg2 hg3,by rw [hT];exact qxG (q3F qUF hg3 hE2) rfl hEn⟩,dec h2,hw.fit (by simp [fitL,Res.eqv,qAA,conc])⟩
   have hnL:n=x.health.length:=by have:=of_decide_eq_false hln;omega
   subst hnL
   rw [List.take_length] at hE2
   have hT:((s.clusters.take (k+1)).map fun c=>(⟨0,c.health.map fun _=>qgB c.slots.toNat⟩:Group))=((s.clusters.take k).map fun c=>(⟨0,c.health.map fun _=>qgB c.slots.toNat⟩:Group))++[⟨0,x.health.map fun _=>qgB x.slots.toNat⟩]:=by
    rw [List.take_succ_eq_append_getElem x1,List.map_append,x2];rfl
   repeat((conv=>whnf);first|apply qza|apply qzb|apply qzc|apply qzd|apply qze|intro(_:Nat)|intro(_:OA)_)
   conv=>whnf
   refine fun g3 hg3 hn3 hp3=>?_
   have hSl:=qjK (q3F qUF hg3 hE2) hp3 (by simp)
   repeat((conv=>whnf);first|apply qza|apply qzb|apply qzc|apply qzd|apply qze|intro(_:Nat)|intro(_:OA)_)
   conv=>whnf
   refine⟨⟨by unfold maxLen;omega,by omega⟩,fun oa2 cap2=>?_⟩
   repeat((conv=>whnf);first|apply qza|apply qzb|apply qzc|apply qzd|apply qze|intro(_:Nat)|intro(_:OA)_)
   conv=>whnf
   refine fun fr w hw=>⟨(k+1,ecs++[[.int .u64 0,.slice oE x.health.length cE]],oa2,cap2,g3),congrArg (fun z=>[Value.int .i64 z]) (wr1 h' d1 d2).symm,⟨h',GW.trans hgg (GW.trans hg2 hg3),by rw [hT];exact qxG (q3F qcD (GW.trans hg2 hg3) hE) rfl ⟨_,rfl,show InU 0 by decide,hSl⟩⟩,dec h',hw.fit (by simp [fitL,Res.eqv,qAA,conc])⟩
  have hkL:k=s.clusters.length:=by have:=of_decide_eq_false hlt;omega
  subst hkL
  rw [List.take_length] at hE
  repeat((conv=>whnf);first|apply qza|apply qzb|apply qzc|apply qzd|apply qze|intro(_:Nat)|intro(_:OA)_)
  conv=>whnf
  refine fun g3 hg3 hn3 hp3=>?_
  have hSl:=qjK (q3F qcD hg3 hE) hp3 (by simp)
  repeat((conv=>whnf);first|apply qza|apply qzb|apply qzc|apply qzd|apply qze|intro(_:Nat)|intro(_:OA)_)
  conv=>whnf
  intro g2 hg
  exact .inl ⟨hz,_,_,_,_,_,_,rfl,⟨_,_,_,_,rfl,qhC _ _ _ _ (GW.trans hgg (GW.trans hg3 hg)) hs0,hSl.mono qcD hg⟩⟩)
/- Worlds: counts of a new world. -/
open Go.Proofs.Ytkbbljngpglnkaa.Sx Go.RowKit
def qHQ (n:Int) (v:Value) (g':GW):Prop :=
 ((1≤n∧n≤8)∧∃ oa cap,v=.tuple #[.slice oa n.toNat cap,.int .i64 0]∧rSl 1 rRow g' (.slice oa n.toNat cap) (qVD n.toNat)) ∨
 (¬ (1≤n∧n≤8)∧v=.tuple #[.slice none 0 0,.int .i64 1])
theorem qrK (g:GW) {n:Int}:Ok Try.prog qzK [.int .i64 n] g (qHQ n) :=
 Ok.of_fn hm noT 0 qZK (args:=[.v (.int .i64 n)]) (by
  repeat((conv=>whnf);first|apply qza|apply qzb|apply qzc|apply qzd|apply qze|intro(_:Nat))
  conv=>whnf
  refine⟨fun z1=>?_,fun z1=>?_⟩
  ·repeat((conv=>whnf);first|apply qza|apply qzb|apply qzc|apply qzd|apply qze|intro(_:Nat))
   conv=>whnf
   intro g2 hg
   exact .inr ⟨by have:=of_decide_eq_true z1;omega,rfl⟩
  repeat((conv=>whnf);first|apply qza|apply qzb|apply qzc|apply qzd|apply qze|intro(_:Nat))
  conv=>whnf
  refine⟨fun z2=>?_,fun z2=>?_⟩
  ·repeat((conv=>whnf);first|apply qza|apply qzb|apply qzc|apply qzd|apply qze|intro(_:Nat))
   conv=>whnf
   intro g2 hg
   exact .inr ⟨by have:=of_decide_eq_true z2;omega,rfl⟩
  have k1:=of_decide_eq_false z1
  have k2:=of_decide_eq_false z2
  obtain⟨N,rfl⟩:=Int.eq_ofNat_of_zero_le (show 0≤n by omega)
  repeat((conv=>whnf);first|apply qza|apply qzb|apply qzc|apply qzd|apply qze|intro(_:Nat))
  conv=>whnf
  refine⟨⟨by omega,by omega,by omega,by omega⟩,fun _=>?_⟩
  repeat((conv=>whnf);first|apply qza|apply qzb|apply qzc|apply qzd|apply qze|intro(_:Nat))
  rename_i q1
  conv=>whnf
  refine⟨Nat×List (List Value)×GW,fun (k,_,_)=>[.v (.int .i64 k)],fun (k,ecs,g')=>⟨g',[.row 0 (some ⟨q1,0,none⟩) N N qEB 1 (rowK ecs [.slice none 0 0] (N-k))],10,g.w.heap.size⟩,fun (k,ecs,g')=>k≤N∧g≤g'∧rEls 1 rRow g' ecs (qVD k),fun (k,_,_)=>N-k,fun fr w hw=>⟨(0,[],g),rfl,⟨Nat.zero_le _,GW.refl _,qZI _⟩,hw.fit (by simp [fitL,Res.eqv,qAA,conc,rowK])⟩,?_⟩
  rintro⟨k,ecs,g'⟩ ⟨hk,hgg,hE⟩
  have hel:ecs.length=k:=by have:=hE.1.1;simpa [qVD] using this
  have hlen:=qYE (m:=N-k) (z:=[.slice none 0 0]) hE.1.2 rfl
  repeat((conv=>whnf);first|apply qza|apply qzb|apply qzc|apply qzd|apply qze|intro(_:Nat))
  conv=>whnf
  refine⟨fun hlt=>?_,fun hlt=>?_⟩
  ·have h':k<N:=by have:=of_decide_eq_true hlt;omega
   repeat((conv=>whnf);first|apply qza|apply qzb|apply qzc|apply qzd|apply qze|intro(_:Nat))
   conv=>whnf
   refine⟨⟨by decide,by decide,by decide,by decide⟩,fun _=>?_⟩
   repeat((conv=>whnf);first|apply qza|apply qzb|apply qzc|apply qzd|apply qze|intro(_:Nat))
   conv=>whnf
   refine⟨⟨by omega,by omega⟩,?_⟩
   repeat((conv=>whnf);first|apply qza|apply qzb|apply qzc|apply qzd|apply qze|intro(_:Nat))
   rename_i q2
   conv=>whnf
   refine fun g2 hg2 hn2 hp2=>?_
   have hrow:rSl 1 rU64 g2 (.slice (some ⟨q2,0,none⟩) 6 6) [0,0,0,0,0,0]:=qnC hp2.rd [0,0,0,0,0,0] (fun x=>.int .u64 x) rfl fun x hx=>⟨rfl,by simp at hx;subst hx;decide⟩
   have hset:=qXE (m:=N-k) (z:=[.slice none 0 0]) hE.1.2 rfl (by omega) (ec:=[.slice (some ⟨q2,0,none⟩) 6 6]) rfl hel.symm
   have hT:qVD (k+1)=qVD k++[[0,0,0,0,0,0]]:=by simp [qVD,List.range_succ]
   repeat((conv=>whnf);first|apply qza|apply qzb|apply qzc|apply qzd|apply qze|intro(_:Nat))
   conv=>whnf
   refine⟨⟨by rw [hlen,hel];simp;omega,by decide⟩,?_⟩
   repeat((conv=>whnf);first|apply qza|apply qzb|apply qzc|apply qzd|apply qze|intro(_:Nat))
   conv=>whnf
   refine fun fr w hw=>⟨(k+1,ecs++[[.slice (some ⟨q2,0,none⟩) 6 6]],g2),congrArg (fun z=>[Value.int .i64 z]) (by rw [wr (show InR ((k:Int)+1) by unfold InR;omega)];omega),⟨h',GW.trans hgg hg2,by rw [hT];exact qxG (q3F qWA hg2 hE) rfl ⟨_,rfl,hrow⟩⟩,dec h',hw.fit ?_⟩
   rw [show N-(k+1)=N-k-1 by omega,← hset]
   simp [fitL,Res.eqv,qAA,conc]
  have hkN:k=N:=by have:=of_decide_eq_false hlt;omega
  subst hkN
  repeat((conv=>whnf);first|apply qza|apply qzb|apply qzc|apply qzd|apply qze|intro(_:Nat))
  conv=>whnf
  refine fun g2 hg2 hn2 hp2=>?_
  rw [Nat.sub_self,qAE] at hp2
  have hSl:=qjK (q3F qWA hg2 hE) hp2 (by simp [qVD])
  repeat((conv=>whnf);first|apply qza|apply qzb|apply qzc|apply qzd|apply qze|intro(_:Nat))
  conv=>whnf
  intro g2 hg
  exact .inl ⟨⟨by omega,by omega⟩,_,_,rfl,hSl.mono qWA hg⟩)
end Go.Proofs.Ytkbbljngpglnkaa
