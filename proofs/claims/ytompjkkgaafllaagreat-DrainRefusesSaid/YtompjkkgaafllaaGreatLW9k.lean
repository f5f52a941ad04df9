/- Worlds: what is cloned: endpoints, groups, versions, rows. -/
import Derived.Test.YtompjkkgaafllaaGreatLW9o
import Derived.Test.YtompjkkgaafllaaGreatLB1
import Derived.Test.YtompjkkgaafllaaGreatLK5b
import Derived.Test.YtompjkkgaafllaaGreatPl
set_option linter.unusedVariables false
set_option linter.unusedSimpArgs false
namespace Go.Proofs.YtompjkkgaafllaaGreat
open Go.Proofs.YtompjkkgaafllaaGreat.Sx Go.RowKit
set_option maxHeartbeats 16000000
set_option maxRecDepth 100000
theorem qcT (g0 g:GW) (h0:g0≤g) {cs:List Value} {x:EndC} (hx:rEn g cs x):Ok Tryz.prog qFC [.agg ⟨[]⟩,.agg ⟨cs⟩] g fun v g'=>∃ cs',v=.agg ⟨cs'⟩∧oEn wT true g' g0.w.heap.size (NEW g g') cs' x:=by
 obtain⟨⟨n,rfl,hH,hA,hN⟩,hsz⟩:=hx
 obtain⟨oa,ca,rfl,a1,a2,a0,hr⟩:=id hN
 exact Ok.of_fn hm noT 0 q6G (args:=[.v (.agg ⟨[]⟩),.v (.agg ⟨[.int .u64 x.head,.slice oa x.next.length ca,.int .i64 x.active]⟩)]) (by
  repeat((conv=>whnf);first|apply qza|apply qzb|apply qzc|apply qzd|apply qze|intro(_:Nat))
  refine .inr ((qGR g0 _ h0 hN hsz).mono fun v g1 hg1 hO=>?_)
  obtain⟨oV,cV,rfl⟩:=qSA hO
  repeat((conv=>whnf);first|apply qza|apply qzb|apply qzc|apply qzd|apply qze|intro(_:Nat))
  conv=>whnf
  intro g2 hg
  exact⟨_,rfl,_,rfl,⟨hH,hA,hsz⟩,.inl (qRF (q5A qaC) hg hO)⟩)
theorem qaT (g0 g:GW) (h0:g0≤g) {v:Value} {l:List EndC} (hl:rSl 3 rEn g v l) (hlen:l.length≤1000000) :Ok Tryz.prog qdC [v,.func (.func qFC) #[] #[],.agg ⟨[]⟩] g fun v' g'=>oSl qtA 3 (oEn wT true) g' g0.w.heap.size (NEW g g') v' l:=by
 obtain⟨oa,ca,rfl,a1,a2,a0,hr⟩:=id hl
 exact Ok.of_fn hm noT 0 qXC (args:=[.v (.slice oa l.length ca),.v (.func (.func qFC) #[] #[]),.v (.agg ⟨[]⟩)]) (by
  repeat((conv=>whnf);first|apply qza|apply qzb|apply qzc|apply qzd|apply qze|intro(_:Nat))
  conv=>whnf
  refine⟨⟨by omega,by omega,by omega,by omega⟩,fun _=>?_⟩
  repeat((conv=>whnf);first|apply qza|apply qzb|apply qzc|apply qzd|apply qze|intro(_:Nat))
  rename_i q0 q1
  conv=>whnf
  refine⟨Nat×List (List Value)×GW,fun (k,_,_)=>[.v (.int .i64 k)],fun (k,ecs,g')=>⟨g',[.row 1 (some ⟨q1,0,none⟩) l.length l.length qtA 3 (rowK ecs [.int .u64 0,.slice none 0 0,.int .i64 0] (l.length-k)),.blk 0 q0 qVC []],10,g.w.heap.size⟩,fun (k,ecs,g')=>k≤l.length∧g≤g'∧oEls 3 (oEn wT true) g g' g0.w.heap.size ecs (l.take k),fun (k,_,_)=>l.length-k,fun fr w hw=>⟨(0,[],g),rfl,⟨Nat.zero_le _,GW.refl _,qIJ _ _ _⟩,hw.fit (by simp [fitL,Res.eqv,qAA,conc,rowK])⟩,?_⟩
  rintro⟨k,ecs,g'⟩ ⟨hk,hgg,hE⟩
  have hE0:=hE
  obtain⟨_,⟨hel,hes⟩,_⟩:=hE0
  rw [List.length_take,Nat.min_eq_left hk] at hel
  repeat((conv=>whnf);first|apply qza|apply qzb|apply qzc|apply qzd|apply qze|intro(_:Nat))
  conv=>whnf
  refine⟨fun hlt=>?_,fun hlt=>?_⟩
  ·have h':k<l.length:=by have:=of_decide_eq_true hlt;omega
   obtain⟨x,hx⟩:=qBA h'
   obtain⟨x1,x2⟩:=List.getElem?_eq_some_iff.1 hx
   obtain⟨a,rfl,ec,hec,hxe,hc⟩:=hr k x hx
   have hxe0:=hxe
   obtain⟨⟨nx,rfl,u1,u2,⟨oN,cN,rfl,_⟩⟩,u3⟩:=hxe
   repeat((conv=>whnf);first|apply qza|apply qzb|apply qzc|apply qzd|apply qze|intro(_:Nat))
   conv=>whnf
   refine⟨a,rfl,⟨by omega,by omega⟩,?_⟩
   conv=>whnf
   refine⟨_,⟨rfl,hc.mono hgg⟩,?_⟩
   repeat((conv=>whnf);first|apply qza|apply qzb|apply qzc|apply qzd|apply qze|intro(_:Nat))
   conv=>whnf
   refine⟨.of (by kernel_rfl),?_⟩
   refine .inr ((qcT g0 _ (GW.trans h0 hgg) (qCE _ _ _ _ hgg hxe0)).mono fun v g1 hg1 hO=>?_)
   obtain⟨cs',rfl,hO⟩:=hO
   have hO0:=hO
   obtain⟨nv,rfl,_,hO1⟩:=hO0
   obtain⟨oW,cW,rfl,_⟩:=q3S hO1
   have hlenR:=qSG (m:=l.length-k) (z:=[.int .u64 0,.slice none 0 0,.int .i64 0]) hes rfl
   have hT:l.take (k+1)=l.take k++[x]:=by rw [List.take_succ_eq_append_getElem x1,x2]
   have hset:=qRG (m:=l.length-k) (z:=[.int .u64 0,.slice none 0 0,.int .i64 0]) hes rfl (by omega) (ec:=[.int .u64 x.head,.slice oW x.next.length cW,.int .i64 x.active]) rfl hel.symm
   repeat((conv=>whnf);first|apply qza|apply qzb|apply qzc|apply qzd|apply qze|intro(_:Nat))
   conv=>whnf
   refine⟨⟨by omega,by omega⟩,?_⟩
   repeat((conv=>whnf);first|apply qza|apply qzb|apply qzc|apply qzd|apply qze|intro(_:Nat))
   conv=>whnf
   refine⟨⟨by rw [hlenR,hel];simp;omega,by decide⟩,?_⟩
   repeat((conv=>whnf);first|apply qza|apply qzb|apply qzc|apply qzd|apply qze|intro(_:Nat))
   conv=>whnf
   refine fun fr w hw=>⟨(k+1,ecs++[[.int .u64 x.head,.slice oW x.next.length cW,.int .i64 x.active]],g1),congrArg (fun z=>[Value.int .i64 z]) (wr1 h' a1 a2).symm,⟨h',GW.trans hgg hg1,by rw [hT];exact qrH qqJ hgg hg1 hE rfl hO⟩,dec h',hw.fit ?_⟩
   rw [show l.length-(k+1)=l.length-k-1 by omega]
   simp [fitL,Res.eqv,qAA,conc,← hset]
  have hkL:k=l.length:=by have:=of_decide_eq_false hlt;omega
  subst hkL
  rw [List.take_length] at hE
  repeat((conv=>whnf);first|apply qza|apply qzb|apply qzc|apply qzd|apply qze|intro(_:Nat))
  conv=>whnf
  refine fun g1 hg1 hn1 hp1=>?_
  rw [Nat.sub_self,qwF] at hp1
  conv=>whnf
  intro g2 hg
  exact qRF qqJ hg (q2F qqJ hE hgg hg1 (hp1.lo_le h0.1) rfl hn1))
theorem qHR (g0 g:GW) (h0:g0≤g) {cs:List Value} {x:Group} (hx:rGr g cs x) (hb:BgG 1000000 x):Ok Tryz.prog qeB [.agg ⟨[]⟩,.agg ⟨cs⟩] g fun v g'=>∃ cs',v=.agg ⟨cs'⟩∧oGr wT true g' g0.w.heap.size (NEW g g') cs' x:=by
 obtain⟨n,rfl,hH,hN⟩:=hx
 obtain⟨oa,ca,rfl,a1,a2,a0,hr⟩:=id hN
 exact Ok.of_fn hm noT 0 qnF (args:=[.v (.agg ⟨[]⟩),.v (.agg ⟨[.int .u64 x.ticket,.slice oa x.ends.length ca]⟩)]) (by
  repeat((conv=>whnf);first|apply qza|apply qzb|apply qzc|apply qzd|apply qze|intro(_:Nat))
  refine .inr ((qaT g0 _ h0 hN hb).mono fun v g1 hg1 hO=>?_)
  obtain⟨oV,cV,rfl⟩:=qSA hO
  repeat((conv=>whnf);first|apply qza|apply qzb|apply qzc|apply qzd|apply qze|intro(_:Nat))
  conv=>whnf
  intro g2 hg
  exact⟨_,rfl,_,rfl,hH,qRF qqJ hg hO⟩)
theorem qFR (g0 g:GW) (h0:g0≤g) {v:Value} {l:List Group} (hl:rSl 2 rGr g v l) (hlen:l.length≤1000000) (hb:∀ y∈l,BgG 1000000 y):Ok Tryz.prog qDC [v,.func (.func qeB) #[] #[],.agg ⟨[]⟩] g fun v' g'=>oSl qcA 2 (oGr wT true) g' g0.w.heap.size (NEW g g') v' l:=by
 obtain⟨oa,ca,rfl,a1,a2,a0,hr⟩:=id hl
 exact Ok.of_fn hm noT 0 qBC (args:=[.v (.slice oa l.length ca),.v (.func (.func qeB) #[] #[]),.v (.agg ⟨[]⟩)]) (by
  repeat((conv=>whnf);first|apply qza|apply qzb|apply qzc|apply qzd|apply qze|intro(_:Nat))
  conv=>whnf
  refine⟨⟨by omega,by omega,by omega,by omega⟩,fun _=>?_⟩
  repeat((conv=>whnf);first|apply qza|apply qzb|apply qzc|apply qzd|apply qze|intro(_:Nat))
  rename_i q0 q1
  conv=>whnf
  refine⟨Nat×List (List Value)×GW,fun (k,_,_)=>[.v (.int .i64 k)],fun (k,ecs,g')=>⟨g',[.row 1 (some ⟨q1,0,none⟩) l.length l.length qcA 2 (rowK ecs [.int .u64 0,.slice none 0 0] (l.length-k)),.blk 0 q0 qVC []],10,g.w.heap.size⟩,fun (k,ecs,g')=>k≤l.length∧g≤g'∧oEls 2 (oGr wT true) g g' g0.w.heap.size ecs (l.take k),fun (k,_,_)=>l.length-k,fun fr w hw=>⟨(0,[],g),rfl,⟨Nat.zero_le _,GW.refl _,qIJ _ _ _⟩,hw.fit (by simp [fitL,Res.eqv,qAA,conc,rowK])⟩,?_⟩
  rintro⟨k,ecs,g'⟩ ⟨hk,hgg,hE⟩
  have hE0:=hE
  obtain⟨_,⟨hel,hes⟩,_⟩:=hE0
  rw [List.length_take,Nat.min_eq_left hk] at hel
  repeat((conv=>whnf);first|apply qza|apply qzb|apply qzc|apply qzd|apply qze|intro(_:Nat))
  conv=>whnf
  refine⟨fun hlt=>?_,fun hlt=>?_⟩
  ·have h':k<l.length:=by have:=of_decide_eq_true hlt;omega
   obtain⟨x,hx⟩:=qBA h'
   obtain⟨x1,x2⟩:=List.getElem?_eq_some_iff.1 hx
   obtain⟨a,rfl,ec,hec,hxe,hc⟩:=hr k x hx
   have hxe0:=hxe
   obtain⟨nx,rfl,u1,⟨oN,cN,rfl,_⟩⟩:=hxe
   repeat((conv=>whnf);first|apply qza|apply qzb|apply qzc|apply qzd|apply qze|intro(_:Nat))
   conv=>whnf
   refine⟨a,rfl,⟨by omega,by omega⟩,?_⟩
   conv=>whnf
   refine⟨_,⟨rfl,hc.mono hgg⟩,?_⟩
   repeat((conv=>whnf);first|apply qza|apply qzb|apply qzc|apply qzd|apply qze|intro(_:Nat))
   conv=>whnf
   refine⟨.of (by kernel_rfl),?_⟩
   refine .inr ((qHR g0 _ (GW.trans h0 hgg) (q1E _ _ _ _ hgg hxe0) (hb x (List.mem_of_getElem? hx))).mono fun v g1 hg1 hO=>?_)
   obtain⟨cs',rfl,hO⟩:=hO
   have hO0:=hO
   obtain⟨nv,rfl,_,hO1⟩:=hO0
   obtain⟨oW,cW,rfl⟩:=qSA hO1
   have hlenR:=qSG (m:=l.length-k) (z:=[.int .u64 0,.slice none 0 0]) hes rfl
   have hT:l.take (k+1)=l.take k++[x]:=by rw [List.take_succ_eq_append_getElem x1,x2]
   have hset:=qRG (m:=l.length-k) (z:=[.int .u64 0,.slice none 0 0]) hes rfl (by omega) (ec:=[.int .u64 x.ticket,.slice oW x.ends.length cW]) rfl hel.symm
   repeat((conv=>whnf);first|apply qza|apply qzb|apply qzc|apply qzd|apply qze|intro(_:Nat))
   conv=>whnf
   refine⟨⟨by omega,by omega⟩,?_⟩
   repeat((conv=>whnf);first|apply qza|apply qzb|apply qzc|apply qzd|apply qze|intro(_:Nat))
   conv=>whnf
   refine⟨⟨by rw [hlenR,hel];simp;omega,by decide⟩,?_⟩
   repeat((conv=>whnf);first|apply qza|apply qzb|apply qzc|apply qzd|apply qze|intro(_:Nat))
   conv=>whnf
   refine fun fr w hw=>⟨(k+1,ecs++[[.int .u64 x.ticket,.slice oW x.ends.length cW]],g1),congrArg (fun z=>[Value.int .i64 z]) (wr1 h' a1 a2).symm,⟨h',GW.trans hgg hg1,by rw [hT];exact qrH q5K hgg hg1 hE rfl hO⟩,dec h',hw.fit ?_⟩
   rw [show l.length-(k+1)=l.length-k-1 by omega]
   simp [fitL,Res.eqv,qAA,conc,← hset]
  have hkL:k=l.length:=by have:=of_decide_eq_false hlt;omega
  subst hkL
  rw [List.take_length] at hE
  repeat((conv=>whnf);first|apply qza|apply qzb|apply qzc|apply qzd|apply qze|intro(_:Nat))
  conv=>whnf
  refine fun g1 hg1 hn1 hp1=>?_
  rw [Nat.sub_self,qwF] at hp1
  conv=>whnf
  intro g2 hg
  exact qRF q5K hg (q2F q5K hE hgg hg1 (hp1.lo_le h0.1) rfl hn1))
theorem qaO (g0 g:GW) (h0:g0≤g) {cs:List Value} {x:Version} (hx:rVe g0 cs x) (hb:BgV 1000000 x):Ok Tryz.prog qKB [.agg ⟨[]⟩,.agg ⟨cs⟩] g fun v g'=>∃ cs',v=.agg ⟨cs'⟩∧oVe wT true g' g0.w.heap.size (NEW g g') cs' x:=by
 obtain⟨a,b,d,n,rfl,hS,hN⟩:=hx
 have hS0:=hS
 obtain⟨_,_,_,he,⟨oa',ca',rfl,_⟩,⟨ob',cb',rfl,_⟩,⟨od',cd',rfl,_⟩⟩:=hS
 cases he
 obtain⟨oa,ca,rfl,a1,a2,a0,hr⟩:=id hN
 exact Ok.of_fn hm noT 0 quE (args:=[.v (.agg ⟨[]⟩),.v (.agg ⟨[.slice oa' x.snap.listens.length ca',.slice ob' x.snap.rules.length cb',.slice od' x.snap.clusters.length cd',.slice oa x.groups.length ca,.bool x.freed]⟩)]) (by
  repeat((conv=>whnf);first|apply qza|apply qzb|apply qzc|apply qzd|apply qze|intro(_:Nat))
  refine .inr ((qFR g0 _ h0 (hN.mono q1E h0) hb.1 hb.2).mono fun v g1 hg1 hO=>?_)
  obtain⟨oV,cV,rfl⟩:=qSA hO
  repeat((conv=>whnf);first|apply qza|apply qzb|apply qzc|apply qzd|apply qze|intro(_:Nat))
  conv=>whnf
  intro g2 hg
  exact⟨_,rfl,_,_,_,_,rfl,q2C _ _ _ _ (GW.le_vw (GW.trans h0 (GW.trans hg1 hg)) (Nat.le_refl _)) hS0,qRF q5K hg hO⟩)
theorem qZO (g0 g:GW) (h0:g0≤g) {v:Value} {l:List Version} (hl:rSl 5 rVe g0 v l) (hlen:l.length≤1000000) (hb:∀ y∈l,BgV 1000000 y):Ok Tryz.prog q0B [v,.func (.func qKB) #[] #[],.agg ⟨[]⟩] g fun v' g'=>oSl qEA 5 (oVe wT true) g' g0.w.heap.size (NEW g g') v' l:=by
 obtain⟨oa,ca,rfl,a1,a2,a0,hr⟩:=id hl
 exact Ok.of_fn hm noT 0 qyB (args:=[.v (.slice oa l.length ca),.v (.func (.func qKB) #[] #[]),.v (.agg ⟨[]⟩)]) (by
  repeat((conv=>whnf);first|apply qza|apply qzb|apply qzc|apply qzd|apply qze|intro(_:Nat))
  conv=>whnf
  refine⟨⟨by omega,by omega,by omega,by omega⟩,fun _=>?_⟩
  repeat((conv=>whnf);first|apply qza|apply qzb|apply qzc|apply qzd|apply qze|intro(_:Nat))
  rename_i q0 q1
  conv=>whnf
  refine⟨Nat×List (List Value)×GW,fun (k,_,_)=>[.v (.int .i64 k)],fun (k,ecs,g')=>⟨g',[.row 1 (some ⟨q1,0,none⟩) l.length l.length qEA 5 (rowK ecs [.slice none 0 0,.slice none 0 0,.slice none 0 0,.slice none 0 0,.bool false] (l.length-k)),.blk 0 q0 qVC []],10,g.w.heap.size⟩,fun (k,ecs,g')=>k≤l.length∧g≤g'∧oEls 5 (oVe wT true) g g' g0.w.heap.size ecs (l.take k),fun (k,_,_)=>l.length-k,fun fr w hw=>⟨(0,[],g),rfl,⟨Nat.zero_le _,GW.refl _,qIJ _ _ _⟩,hw.fit (by simp [fitL,Res.eqv,qAA,conc,rowK])⟩,?_⟩
  rintro⟨k,ecs,g'⟩ ⟨hk,hgg,hE⟩
  have hE0:=hE
  obtain⟨_,⟨hel,hes⟩,_⟩:=hE0
  rw [List.length_take,Nat.min_eq_left hk] at hel
  repeat((conv=>whnf);first|apply qza|apply qzb|apply qzc|apply qzd|apply qze|intro(_:Nat))
  conv=>whnf
  refine⟨fun hlt=>?_,fun hlt=>?_⟩
  ·have h':k<l.length:=by have:=of_decide_eq_true hlt;omega
   obtain⟨x,hx⟩:=qBA h'
   obtain⟨x1,x2⟩:=List.getElem?_eq_some_iff.1 hx
   obtain⟨a,rfl,ec,hec,hxe,hc⟩:=hr k x hx
   have hxe0:=hxe
   obtain⟨sa,sb,sd,nx,rfl,⟨_,_,_,hee,⟨oa',ca',rfl,_⟩,⟨ob',cb',rfl,_⟩,⟨od',cd',rfl,_⟩⟩,⟨oN,cN,rfl,_⟩⟩:=hxe
   cases hee
   repeat((conv=>whnf);first|apply qza|apply qzb|apply qzc|apply qzd|apply qze|intro(_:Nat))
   conv=>whnf
   refine⟨a,rfl,⟨by omega,by omega⟩,?_⟩
   conv=>whnf
   refine⟨_,⟨rfl,hc.mono (GW.trans h0 hgg)⟩,?_⟩
   repeat((conv=>whnf);first|apply qza|apply qzb|apply qzc|apply qzd|apply qze|intro(_:Nat))
   conv=>whnf
   refine⟨.of (by kernel_rfl),?_⟩
   refine .inr ((qaO g0 _ (GW.trans h0 hgg) hxe0 (hb x (List.mem_of_getElem? hx))).mono fun v g1 hg1 hO=>?_)
   obtain⟨cs',rfl,hO⟩:=hO
   have hO0:=hO
   obtain⟨ua,ub,ud,nv,rfl,⟨_,_,_,hee,⟨oa2,ca2,rfl,_⟩,⟨ob2,cb2,rfl,_⟩,⟨od2,cd2,rfl,_⟩⟩,hO1⟩:=hO0
   cases hee
   obtain⟨oW,cW,rfl⟩:=qSA hO1
   have hlenR:=qSG (m:=l.length-k) (z:=[.slice none 0 0,.slice none 0 0,.slice none 0 0,.slice none 0 0,.bool false]) hes rfl
   have hT:l.take (k+1)=l.take k++[x]:=by rw [List.take_succ_eq_append_getElem x1,x2]
   have hset:=qRG (m:=l.length-k) (z:=[.slice none 0 0,.slice none 0 0,.slice none 0 0,.slice none 0 0,.bool false]) hes rfl (by omega) (ec:=[.slice oa2 x.snap.listens.length ca2,.slice ob2 x.snap.rules.length cb2,.slice od2 x.snap.clusters.length cd2,.slice oW x.groups.length cW,.bool x.freed]) rfl hel.symm
   repeat((conv=>whnf);first|apply qza|apply qzb|apply qzc|apply qzd|apply qze|intro(_:Nat))
   conv=>whnf
   refine⟨⟨by omega,by omega⟩,?_⟩
   repeat((conv=>whnf);first|apply qza|apply qzb|apply qzc|apply qzd|apply qze|intro(_:Nat))
   conv=>whnf
   refine⟨⟨by rw [hlenR,hel];simp;omega,by decide⟩,?_⟩
   repeat((conv=>whnf);first|apply qza|apply qzb|apply qzc|apply qzd|apply qze|intro(_:Nat))
   conv=>whnf
   refine fun fr w hw=>⟨(k+1,ecs++[[.slice oa2 x.snap.listens.length ca2,.slice ob2 x.snap.rules.length cb2,.slice od2 x.snap.clusters.length cd2,.slice oW x.groups.length cW,.bool x.freed]],g1),congrArg (fun z=>[Value.int .i64 z]) (wr1 h' a1 a2).symm,⟨h',GW.trans hgg hg1,by rw [hT];exact qrH qyI hgg hg1 hE rfl hO⟩,dec h',hw.fit ?_⟩
   rw [show l.length-(k+1)=l.length-k-1 by omega]
   simp [fitL,Res.eqv,qAA,conc,← hset]
  have hkL:k=l.length:=by have:=of_decide_eq_false hlt;omega
  subst hkL
  rw [List.take_length] at hE
  repeat((conv=>whnf);first|apply qza|apply qzb|apply qzc|apply qzd|apply qze|intro(_:Nat))
  conv=>whnf
  refine fun g1 hg1 hn1 hp1=>?_
  rw [Nat.sub_self,qwF] at hp1
  conv=>whnf
  intro g2 hg
  exact qRF qyI hg (q2F qyI hE hgg hg1 (hp1.lo_le h0.1) rfl hn1))
theorem qbT (g0 g:GW) (h0:g0≤g) {v:Value} {x:List Int} (hx:rSl 1 rU64 g v x) (hb:x.length≤17592186044416):Ok Tryz.prog qEC [.agg ⟨[]⟩,v] g fun v' g'=>oSl qTE 1 (oLf rU64) g' g0.w.heap.size (NEW g g') v' x:=by
 obtain⟨oa,ca,rfl,a1,a2,a0,hr⟩:=id hx
 exact Ok.of_fn hm noT 0 q5G (args:=[.v (.agg ⟨[]⟩),.v (.slice oa x.length ca)]) (by
  repeat((conv=>whnf);first|apply qza|apply qzb|apply qzc|apply qzd|apply qze|intro(_:Nat))
  refine .inr ((ok_cU g0 _ h0 hx hb).mono fun v g1 hg1 hO=>?_)
  obtain⟨oV,cV,rfl⟩:=qSA hO
  repeat((conv=>whnf);first|apply qza|apply qzb|apply qzc|apply qzd|apply qze|intro(_:Nat))
  conv=>whnf
  intro g2 hg
  exact qRF (q5A qTG) hg hO)
theorem qZT (g0 g:GW) (h0:g0≤g) {v:Value} {l:List (List Int)} (hl:rSl 1 rRow g v l) (hlen:l.length≤1000000) (hb:∀ y∈l,y.length≤1000000):Ok Tryz.prog qSC [v,.func (.func qEC) #[] #[],.agg ⟨[]⟩] g fun v' g'=>oSl qZB 1 (oRo wT) g' g0.w.heap.size (NEW g g') v' l:=by
 obtain⟨oa,ca,rfl,a1,a2,a0,hr⟩:=id hl
 exact Ok.of_fn hm noT 0 qRC (args:=[.v (.slice oa l.length ca),.v (.func (.func qEC) #[] #[]),.v (.agg ⟨[]⟩)]) (by
  repeat((conv=>whnf);first|apply qza|apply qzb|apply qzc|apply qzd|apply qze|intro(_:Nat))
  conv=>whnf
  refine⟨⟨by omega,by omega,by omega,by omega⟩,fun _=>?_⟩
  repeat((conv=>whnf);first|apply qza|apply qzb|apply qzc|apply qzd|apply qze|intro(_:Nat))
  rename_i q0 q1
  conv=>whnf
  refine⟨Nat×List (List Value)×GW,fun (k,_,_)=>[.v (.int .i64 k)],fun (k,ecs,g')=>⟨g',[.row 1 (some ⟨q1,0,none⟩) l.length l.length qZB 1 (rowK ecs [.slice none 0 0] (l.length-k)),.blk 0 q0 qVC []],10,g.w.heap.size⟩,fun (k,ecs,g')=>k≤l.length∧g≤g'∧oEls 1 (oRo wT) g g' g0.w.heap.size ecs (l.take k),fun (k,_,_)=>l.length-k,fun fr w hw=>⟨(0,[],g),rfl,⟨Nat.zero_le _,GW.refl _,qIJ _ _ _⟩,hw.fit (by simp [fitL,Res.eqv,qAA,conc,rowK])⟩,?_⟩
  rintro⟨k,ecs,g'⟩ ⟨hk,hgg,hE⟩
  have hE0:=hE
  obtain⟨_,⟨hel,hes⟩,_⟩:=hE0
  rw [List.length_take,Nat.min_eq_left hk] at hel
  repeat((conv=>whnf);first|apply qza|apply qzb|apply qzc|apply qzd|apply qze|intro(_:Nat))
  conv=>whnf
  refine⟨fun hlt=>?_,fun hlt=>?_⟩
  ·have h':k<l.length:=by have:=of_decide_eq_true hlt;omega
   obtain⟨x,hx⟩:=qBA h'
   obtain⟨x1,x2⟩:=List.getElem?_eq_some_iff.1 hx
   obtain⟨a,rfl,ec,hec,hxe,hc⟩:=hr k x hx
   have hxe0:=hxe
   obtain⟨nx,rfl,hN⟩:=hxe
   have hN0:=hN
   obtain⟨oN,cN,rfl,_⟩:=hN
   repeat((conv=>whnf);first|apply qza|apply qzb|apply qzc|apply qzd|apply qze|intro(_:Nat))
   conv=>whnf
   refine⟨a,rfl,⟨by omega,by omega⟩,?_⟩
   conv=>whnf
   refine⟨_,hc.mono hgg 0 _ rfl,?_⟩
   repeat((conv=>whnf);first|apply qza|apply qzb|apply qzc|apply qzd|apply qze|intro(_:Nat))
   conv=>whnf
   refine⟨.of (by kernel_rfl),?_⟩
   refine .inr ((qbT g0 _ (GW.trans h0 hgg) (hN0.mono qeJ hgg) (by have:=hb x (List.mem_of_getElem? hx);omega)).mono fun v g1 hg1 hO=>?_)
   obtain⟨oW,cW,rfl⟩:=qSA hO
   have hlenR:=qSG (m:=l.length-k) (z:=[.slice none 0 0]) hes rfl
   have hT:l.take (k+1)=l.take k++[x]:=by rw [List.take_succ_eq_append_getElem x1,x2]
   have hset:=qRG (m:=l.length-k) (z:=[.slice none 0 0]) hes rfl (by omega) (ec:=[.slice oW x.length cW]) rfl hel.symm
   repeat((conv=>whnf);first|apply qza|apply qzb|apply qzc|apply qzd|apply qze|intro(_:Nat))
   conv=>whnf
   refine⟨⟨by omega,by omega⟩,?_⟩
   repeat((conv=>whnf);first|apply qza|apply qzb|apply qzc|apply qzd|apply qze|intro(_:Nat))
   conv=>whnf
   refine⟨⟨by rw [hlenR,hel];simp;omega,by decide⟩,?_⟩
   repeat((conv=>whnf);first|apply qza|apply qzb|apply qzc|apply qzd|apply qze|intro(_:Nat))
   conv=>whnf
   refine fun fr w hw=>⟨(k+1,ecs++[[.slice oW x.length cW]],g1),congrArg (fun z=>[Value.int .i64 z]) (wr1 h' a1 a2).symm,⟨h',GW.trans hgg hg1,by rw [hT];exact qrH qzI hgg hg1 hE rfl ⟨_,rfl,hO⟩⟩,dec h',hw.fit ?_⟩
   rw [show l.length-(k+1)=l.length-k-1 by omega]
   simp [fitL,Res.eqv,qAA,conc,← hset]
  have hkL:k=l.length:=by have:=of_decide_eq_false hlt;omega
  subst hkL
  rw [List.take_length] at hE
  repeat((conv=>whnf);first|apply qza|apply qzb|apply qzc|apply qzd|apply qze|intro(_:Nat))
  conv=>whnf
  refine fun g1 hg1 hn1 hp1=>?_
  rw [Nat.sub_self,qwF] at hp1
  conv=>whnf
  intro g2 hg
  exact qRF qzI hg (q2F qzI hE hgg hg1 (hp1.lo_le h0.1) rfl hn1))
/- Worlds: clones. -/
open Go.Proofs.YtompjkkgaafllaaGreat.Sx Go.RowKit
def q8U (g:GW) (w:Wd) (v:Value) (g':GW):Prop:=∃ cs T,v=.agg ⟨cs⟩∧oWo wT true g' g.w.heap.size T cs w
def T5 (g1 g2 g3 g4 g5 g6:GW):Nat→Nat→Prop:=fun i n=>match i with
 | 0=>NEW g1 g2 n
 | 1=>NEW g2 g3 n
 | 2=>NEW g3 g4 n
 | 3=>NEW g4 g5 n
 | 4=>NEW g5 g6 n
 | _=>False
theorem q6T {g1 g2 g3 g4 g5 g6:GW} (h1:g1≤g2) (h2:g2≤g3) (h3:g3≤g4) (h4:g4≤g5) (i j n:Nat) (p:T5 g1 g2 g3 g4 g5 g6 i n) (q:T5 g1 g2 g3 g4 g5 g6 j n):i=j:=by
 have e3:=GW.trans h2 h3
 have e4:=GW.trans e3 h4
 have e5:=GW.trans h3 h4
 have key:∀ {a b c d:GW},b≤c→NEW a b n→NEW c d n→False:=fun k p q=>q.2 (k.2 n p.1).1
 match i,j,p,q with
 | 0,0,_,_=>rfl
 | 1,1,_,_=>rfl
 | 2,2,_,_=>rfl
 | 3,3,_,_=>rfl
 | 4,4,_,_=>rfl
 | 0,1,p,q=>exact(key (GW.refl _) p q).elim
 | 0,2,p,q=>exact(key h2 p q).elim
 | 0,3,p,q=>exact(key e3 p q).elim
 | 0,4,p,q=>exact(key e4 p q).elim
 | 1,2,p,q=>exact(key (GW.refl _) p q).elim
 | 1,3,p,q=>exact(key h3 p q).elim
 | 1,4,p,q=>exact(key e5 p q).elim
 | 2,3,p,q=>exact(key (GW.refl _) p q).elim
 | 2,4,p,q=>exact(key h4 p q).elim
 | 3,4,p,q=>exact(key (GW.refl _) p q).elim
 | 1,0,p,q=>exact(key (GW.refl _) q p).elim
 | 2,0,p,q=>exact(key h2 q p).elim
 | 3,0,p,q=>exact(key e3 q p).elim
 | 4,0,p,q=>exact(key e4 q p).elim
 | 2,1,p,q=>exact(key (GW.refl _) q p).elim
 | 3,1,p,q=>exact(key h3 q p).elim
 | 4,1,p,q=>exact(key e5 q p).elim
 | 3,2,p,q=>exact(key (GW.refl _) q p).elim
 | 4,2,p,q=>exact(key h4 q p).elim
 | 4,3,p,q=>exact(key (GW.refl _) q p).elim
 | _+5,_,p,_=>exact p.elim
 | _,_+5,_,q=>exact q.elim
theorem qhA (g:GW) {cs:List Value} {w:Wd} (hw:rWo g cs w) (hb:BgW 1000000 w):Ok Tryz.prog q0L [.agg ⟨cs⟩] g (q8U g w):=by
 obtain⟨a,b,c,d,e,rfl,⟨i1,i2,i3⟩,hP,hV,hL,hC,hR⟩:=hw
 obtain⟨⟨z1,z2,z3,z4,z5⟩,z6,z7⟩:=hb
 obtain⟨oa,ca,rfl,a1,a2,a0,hP1⟩:=id hP
 obtain⟨ob,cb,rfl,b1,b2,b0,hV1⟩:=id hV
 obtain⟨oc,cc,rfl,c1,c2,c0,hL1⟩:=id hL
 obtain⟨od,cd,rfl,d1,d2,d0,hC1⟩:=id hC
 obtain⟨oe,ce,rfl,e1,e2,e0,hR1⟩:=id hR
 exact Ok.of_fn hm noT 0 qRL (args:=[.v (.agg ⟨wQ w oa ca ob cb oc cc od cd oe ce⟩)]) (by
  repeat((conv=>whnf);first|apply qza|apply qzb|apply qzc|apply qzd|apply qze|intro(_:Nat))
  refine .inr ((qGR g _ (GW.refl _) hP (by omega)).mono fun v1 r1 k1 o1=>?_)
  obtain⟨p1,q1,rfl⟩:=qSA o1
  repeat((conv=>whnf);first|apply qza|apply qzb|apply qzc|apply qzd|apply qze|intro(_:Nat))
  refine .inr ((qZO g _ k1 hV z2 z7).mono fun v2 r2 k2 o2=>?_)
  obtain⟨p2,q2,rfl⟩:=qSA o2
  have m2:=GW.trans k1 k2
  repeat((conv=>whnf);first|apply qza|apply qzb|apply qzc|apply qzd|apply qze|intro(_:Nat))
  refine .inr ((qfU g _ m2 (hL.mono qKC m2) z3).mono fun v3 r3 k3 o3=>?_)
  obtain⟨p3,q3,rfl⟩:=qSA o3
  have m3:=GW.trans m2 k3
  repeat((conv=>whnf);first|apply qza|apply qzb|apply qzc|apply qzd|apply qze|intro(_:Nat))
  refine .inr ((qZT g _ m3 (hC.mono qZC m3) z4 z6).mono fun v4 r4 k4 o4=>?_)
  obtain⟨p4,q4,rfl⟩:=qSA o4
  have m4:=GW.trans m3 k4
  repeat((conv=>whnf);first|apply qza|apply qzb|apply qzc|apply qzd|apply qze|intro(_:Nat))
  refine .inr ((qeU g _ m4 (hR.mono qdD m4) z5).mono fun v5 r5 k5 o5=>?_)
  obtain⟨p5,q5,rfl⟩:=qSA o5
  repeat((conv=>whnf);first|apply qza|apply qzb|apply qzc|apply qzd|apply qze|intro(_:Nat))
  conv=>whnf
  intro g2 hg
  have n5:=hg
  have n4:=GW.trans k5 n5
  have n3:=GW.trans k4 n4
  have n2:=GW.trans k3 n3
  have n1:=GW.trans k2 n2
  exact⟨_,T5 g r1 r2 r3 r4 r5,rfl,_,_,_,_,_,rfl,⟨i1,i2,i3⟩,q6T k1 k2 k3 k4,q8A (q5A qaC) (GW.vw_up n1 _ _) o1,q8A qyI (GW.vw_up n2 _ _) o2,q8A (q5A qcB) (GW.vw_up n3 _ _) o3,q8A qzI (GW.vw_up n4 _ _) o4,q8A (q5A qFB) (GW.vw_up n5 _ _) o5⟩)
/- Worlds: clones,the document's answer. -/
open Go.Proofs.YtompjkkgaafllaaGreat.Sx Go.RowKit
/- Pins: a thread is pinned no more. -/
open Go.Proofs.YtompjkkgaafllaaGreat.Sx Go.RowKit
def OffP (w:Wd) (m:Mach) (v:Value) (g':GW):Prop:=∃ cs,v=.tuple #[.agg ⟨cs⟩,.agg ⟨(offE w m).cs⟩]∧rWo g' cs (offW w m)
theorem qgU (g:GW) {cs ms:List Value} {w:Wd} {m:Mach} (hw:rWo g cs w) (hM:qRB g ms m) (hsn:SnW w) (hb:BgW 1000000 w):Ok Tryz.prog qRR [.agg ⟨cs⟩,.agg ⟨ms⟩] g (OffP w m):=by
 have hw0:=hw
 have hM0:=hM
 obtain⟨a,b,c,d,e,rfl,⟨i1,i2,i3⟩,hP,hV,hL,hC,hR⟩:=hw
 obtain⟨oa,ca,rfl,a1,a2,a0,hP1⟩:=id hP
 obtain⟨ob,cb,rfl,b1,b2,b0,hV1⟩:=id hV
 obtain⟨oc,cc,rfl,c1,c2,c0,hL1⟩:=id hL
 obtain⟨od,cd,rfl,d1,d2,d0,hC1⟩:=id hC
 obtain⟨oe,ce,rfl,e1,e2,e0,hR1⟩:=id hR
 obtain⟨ma,mb,md,rfl,hok,_,⟨_,_,_,he,⟨o1,t1,rfl,_⟩,⟨o2,t2,rfl,_⟩,⟨o3,t3,rfl,_⟩⟩⟩:=hM
 cases he
 exact Ok.of_fn hm noT 0 qnQ (args:=[.v (.agg ⟨wQ w oa ca ob cb oc cc od cd oe ce⟩),.v (.agg ⟨mQ m o1 t1 o2 t2 o3 t3⟩)]) (by
  repeat((conv=>whnf);first|apply qza|apply qzb|apply qzc|apply qzd|apply qze|intro(_:Nat))
  conv=>whnf
  refine .inl ⟨_,qbA _ hw0 hM0 hsn hb,?_⟩
  repeat((conv=>whnf);first|apply qza|apply qzb|apply qzc|apply qzd|apply qze|intro(_:Nat))
  conv=>whnf
  refine⟨fun z1=>?_,fun z1=>?_⟩
  ·repeat((conv=>whnf);first|apply qza|apply qzb|apply qzc|apply qzd|apply qze|intro(_:Nat))
   conv=>whnf
   intro g2 hg
   have hf:=nb1 z1
   refine⟨(wQ w oa ca ob cb oc cc od cd oe ce),?_,?_⟩
   ·rw [offE,hf,if_neg (by simp)];rfl
   ·rw [offW,hf,if_neg (by simp)];exact qGA _ _ _ _ hg hw0
  have hs:=nb0 z1
  obtain⟨v0,gr0,en0,hS⟩:=suitB_iff.1 hs
  have hth:=hS.thread
  obtain⟨x,hx⟩:=qBA (l:=w.pins) (i:=m.thread.toNat) (by omega)
  repeat((conv=>whnf);first|apply qza|apply qzb|apply qzc|apply qzd|apply qze|intro(_:Nat))
  refine .inr ((qhA _ hw0 hb).mono fun v g1 hg1 hO=>?_)
  obtain⟨cs,T,rfl,hT⟩:=hO
  have hT0:=hT
  obtain⟨p,q,r,s,t,rfl,_,_,h0,h1,h2,h3,h4⟩:=hT0
  obtain⟨oa',ca',rfl⟩:=qSA h0
  obtain⟨ob',cb',rfl⟩:=qSA h1
  obtain⟨oc',cc',rfl⟩:=qSA h2
  obtain⟨od',cd',rfl⟩:=qSA h3
  obtain⟨oe',ce',rfl⟩:=qSA h4
  obtain⟨bk,cap,hv,b5,j5,bc,ty5,⟨hA,p1,p2,p3,p4⟩,_,hk5⟩:=qLR hT hx (x':=0) (by decide)
  cases hv
  cases hA
  repeat((conv=>whnf);first|apply qza|apply qzb|apply qzc|apply qzd|apply qze|intro(_:Nat))
  conv=>whnf
  refine⟨_,rfl,⟨by omega,by omega⟩,?_⟩
  repeat((conv=>whnf);first|apply qza|apply qzb|apply qzc|apply qzd|apply qze|intro(_:Nat))
  conv=>whnf
  refine⟨bk,m.thread.toNat,bc,ty5,⟨by simp [qjA],p1,p2,p3,p4⟩,?_⟩
  repeat((conv=>whnf);first|apply qza|apply qzb|apply qzc|apply qzd|apply qze|intro(_:Nat))
  conv=>whnf
  refine fun g6 u6=>?_
  have hF:=qsA (hk5 g6 u6)
  repeat((conv=>whnf);first|apply qza|apply qzb|apply qzc|apply qzd|apply qze|intro(_:Nat))
  conv=>whnf
  intro g2 hg
  refine⟨[.int .i64 w.epoch,.int .i64 w.current,.int .i64 w.lock,.slice (some ⟨bk,0,none⟩) w.pins.length ca',.slice ob' w.versions.length cb',.slice oc' w.listens.length cc',.slice od' w.counts.length cd',.slice oe' w.limbo.length ce'],?_,?_⟩
  ·rw [offE,hs,if_pos rfl];rfl
  ·rw [offW,hs,if_pos rfl];exact qGA _ _ _ _ hg hF)
/- Pins: a thread is pinned no more;the document's answer. -/
open Go.Proofs.YtompjkkgaafllaaGreat.Sx Go.RowKit
/- Requests: turns,draws,words;what is found;the document's events. -/
open Go.Proofs.YtompjkkgaafllaaGreat.Sx Go.RowKit
theorem qnS (s:Snap) (l h p:BA):∃ c e:Int,qPQ s l h p=.tuple #[.int .i64 c,.int .i64 e]∧((e=0∧qQM s l h p=some c)∨(e≠0∧qQM s l h p=none)):=by
 unfold qPQ qQM
 split
 ·exact⟨_,_,rfl,.inr ⟨by decide,rfl⟩⟩
 ·cases hb:qfM (fitR (idxI (idxO (fun x=>bs x==bs l) s.listens)) h p) s.rules with
  | none=>exact⟨_,_,rfl,.inr ⟨by decide,rfl⟩⟩
  | some j =>
   obtain⟨r,q1,q2,_⟩:=bestO_some.1 hb
   exact⟨_,_,rfl,.inl ⟨rfl,by simp [q1]⟩⟩
def qAC (c:Cluster) (k:Nat):List Int:=((List.range k).filter fun i=>(c.health[i]?).getD false).map fun (i:Nat)=>(i:Int)
theorem qMQ {c:Cluster} {k:Nat} {b:Bool} (h:c.health[k]?=some b):qAC c (k+1)=if b then qAC c k++[(k:Int)] else qAC c k:=by
 unfold qAC
 rw [List.range_succ,List.filter_append,List.map_append]
 cases b<;>simp [h]
theorem qdN (c:Cluster) (k:Nat):(qAC c k).length≤k:=by
 unfold qAC
 rw [List.length_map]
 exact Nat.le_trans (List.length_filter_le _ _) (by simp)
theorem qyO (c:Cluster) (k:Nat) (hk:k≤17592186044416):∀ x∈qAC c k,InR x:=by
 intro x hx
 unfold qAC at hx
 simp only [List.mem_map,List.mem_filter,List.mem_range] at hx
 obtain⟨i,⟨hi,_⟩,rfl⟩:=hx
 unfold InR;omega
/- Requests: who is healthy;turns and draws. -/
open Go.Proofs.YtompjkkgaafllaaGreat.Sx Go.RowKit
def tHe:List (Nat×FnI):=[(qtJ,qFG),(qeI,qmE)]
theorem qKU:qOG Tryz.prog tHe:=by
 intro x hx
 simp only [tHe,List.mem_cons,List.not_mem_nil,or_false] at hx
 rcases hx with rfl|rfl
 ·exact⟨_,_,qRJ⟩
 ·exact⟨_,_,qSI⟩
theorem qyN:∀ l:List Int,cInt l=(l.map fun x=>[Value.int .i64 x]).flatten
 | []=>rfl
 | x :: r=>congrArg (Value.int .i64 x :: ·) (qyN r)
def HeP (c:Cluster) (v:Value) (g':GW):Prop:=∃ oa cap,v=.slice oa (qCA c).length cap∧rSl 1 rInt g' (.slice oa (qCA c).length cap) (qCA c)
theorem q4K (g:GW) {cs:List Value} {c:Cluster} (hc:qbC g cs c) (hsz:c.health.length≤17592186044416):Ok Tryz.prog quJ [.agg ⟨cs⟩] g (HeP c):=by
 obtain⟨vh,rfl,hp,hl,hh⟩:=hc
 obtain⟨oa,ca,rfl,a1,a2,a0,hr⟩:=id hh
 exact Ok.of_fn hm qKU 2 qSJ (args:=[.v (.agg ⟨[.string c.name,.int .i64 c.policy,.int .i64 c.slots,.slice oa c.health.length ca]⟩)]) (by
  repeat((conv=>whnf);first|apply qza|apply qzb|apply qzc|apply qzd|apply qze|intro(_:Nat)|intro(_:OA)_)
  conv=>whnf
  refine⟨qhI,fun lp rr=>?_⟩
  repeat((conv=>whnf);first|apply qza|apply qzb|apply qzc|apply qzd|apply qze|intro(_:Nat)|intro(_:OA)_)
  rename_i q0 q1 q2
  conv=>whnf
  refine⟨Nat×Option Addr×Nat,fun (k,_,_)=>[.v (.int .i64 k)],fun (k,oX,cX)=>⟨g,[.row 7 oX (qAC c k).length cX quA 1 (cInt (qAC c k)),.lp 3 lp rr .ready,.blk 2 q2 qkA [.v (.string c.name),.v (.int .i64 c.policy),.v (.int .i64 c.slots),.v (.slice oa c.health.length ca)],.blk 1 q1 qmD [.row 7 oX (qAC c k).length cX],.blk 0 q0 qkA [.v (.string c.name),.v (.int .i64 c.policy),.v (.int .i64 c.slots),.v (.slice oa c.health.length ca)]],40,g.w.heap.size⟩,fun (k,_,_)=>k≤c.health.length,fun (k,_,_)=>c.health.length-k,?_,?_⟩
  ·intro fr w hw
   exact⟨(0,none,0),rfl,Nat.zero_le _,(hw.nil_row (nx':=40) 7 quA 1).fit (by simp [fitL,Res.eqv,qAA,conc,qAC])⟩
  rintro⟨k,oX,cX⟩ hk
  have hk:k≤c.health.length:=hk
  have hlen:=qdN c k
  conv=>whnf
  refine⟨fun hlt=>?_,fun hlt=>?_⟩
  ·have h':k<c.health.length:=by have:=of_decide_eq_true hlt;omega
   obtain⟨x,hx⟩:=qBA h'
   obtain⟨a,rfl,ec,hec,rfl,hcc⟩:=hr k x hx
   have hst:=qMQ hx
   repeat((conv=>whnf);first|apply qza|apply qzb|apply qzc|apply qzd|apply qze|intro(_:Nat)|intro(_:OA)_)
   conv=>whnf
   refine⟨a,rfl,⟨by omega,by omega⟩,?_⟩
   repeat((conv=>whnf);first|apply qza|apply qzb|apply qzc|apply qzd|apply qze|intro(_:Nat)|intro(_:OA)_)
   conv=>whnf
   refine⟨_,hcc 0 _ rfl,?_⟩
   repeat((conv=>whnf);first|apply qza|apply qzb|apply qzc|apply qzd|apply qze|intro(_:Nat)|intro(_:OA)_)
   conv=>whnf
   refine⟨fun hb=>?_,fun hb=>?_⟩
   ·subst hb
    repeat((conv=>whnf);first|apply qza|apply qzb|apply qzc|apply qzd|apply qze|intro(_:Nat)|intro(_:OA)_)
    conv=>whnf
    refine⟨⟨by unfold maxLen;omega,by omega⟩,fun oa2 cap2=>?_⟩
    repeat((conv=>whnf);first|apply qza|apply qzb|apply qzc|apply qzd|apply qze|intro(_:Nat)|intro(_:OA)_)
    conv=>whnf
    refine fun fr w hw=>⟨(k+1,oa2,cap2),congrArg (fun z=>[Value.int .i64 z]) (wr1 h' a1 a2).symm,h',dec h',hw.fit ?_⟩
    simp only [hst,if_true]
    simp [fitL,Res.eqv,qAA,conc]
   ·subst hb
    repeat((conv=>whnf);first|apply qza|apply qzb|apply qzc|apply qzd|apply qze|intro(_:Nat)|intro(_:OA)_)
    conv=>whnf
    refine fun fr w hw=>⟨(k+1,oX,cX),congrArg (fun z=>[Value.int .i64 z]) (wr1 h' a1 a2).symm,h',dec h',hw.fit ?_⟩
    simp only [hst]
    simp [fitL,Res.eqv,qAA,conc]
  have hz1:k=c.health.length:=by have:=of_decide_eq_false hlt;omega
  subst hz1
  repeat((conv=>whnf);first|apply qza|apply qzb|apply qzc|apply qzd|apply qze|intro(_:Nat)|intro(_:OA)_)
  conv=>whnf
  refine fun g1 hg1 hn1 hp1=>?_
  conv=>whnf
  intro g2 hg
  refine⟨_,_,rfl,?_⟩
  exact((qnL hp1.rd (qCA c) (fun x=>[Value.int .i64 x]) (qyN _) rfl (fun _ _=>rfl) fun x hx=>⟨rfl,qyO c _ hsz x hx⟩).mono qOB hg))
theorem qAK (c:Cluster) (h:c.health.length≤17592186044416):(qCA c).length≤17592186044416:=Nat.le_trans (qxO c) h
theorem qGU {t n:Int} (ht:InU t) (hn:0<n):0≤t.tmod n∧t.tmod n<n∧t.tmod n=t % n:=by
 rw [Int.tmod_eq_emod_of_nonneg ht.1]
 exact⟨Int.emod_nonneg t (by omega),Int.emod_lt_of_pos t hn,rfl⟩
abbrev hErr (c:Cluster):Int:=if qCA c=[] then 5 else 0
theorem qdT (g:GW) {cs:List Value} {c:Cluster} (hc:qbC g cs c) (hsz:c.health.length≤17592186044416) {t:Int} (ht:InU t):OkV Tryz.prog qIN [.agg ⟨cs⟩,.int .u64 t] g (.tuple #[.int .i64 (qME c t),.int .i64 (hErr c)]):=by
 have hc0:=hc
 obtain⟨vh,rfl,hp,hl,hh⟩:=hc
 obtain⟨oa,ca,rfl,a1,a2,a0,hr⟩:=id hh
 exact Ok.of_fn hm noT 0 qoM (args:=[.v (.agg ⟨[.string c.name,.int .i64 c.policy,.int .i64 c.slots,.slice oa c.health.length ca]⟩),.v (.int .u64 t)]) (by
  repeat((conv=>whnf);first|apply qza|apply qzb|apply qzc|apply qzd|apply qze|intro(_:Nat))
  refine .inr ((q4K _ hc0 hsz).mono fun v g1 hg1 hH=>?_)
  obtain⟨oh,ch,rfl,hH⟩:=hH
  repeat((conv=>whnf);first|apply qza|apply qzb|apply qzc|apply qzd|apply qze|intro(_:Nat))
  conv=>whnf
  refine⟨fun hz=>?_,fun hz=>?_⟩
  ·have hn:qCA c=[]:=by
    have:=of_decide_eq_true hz
    exact List.length_eq_zero_iff.1 (by omega)
   repeat((conv=>whnf);first|apply qza|apply qzb|apply qzc|apply qzd|apply qze|intro(_:Nat))
   conv=>whnf
   intro g2 hg
   simp [qME,hErr,hn]
  have hpos:0<(qCA c).length:=by
   have h9:¬ _:=of_decide_eq_false hz
   omega
  have hsz2:=qAK c hsz
  have hu:IntKind.u64.wrap ((qCA c).length:Int)=(qCA c).length:=IntWalk.u64_in _ (by omega)
  obtain⟨u1,u2,u3⟩:=qGU ht (n:=(qCA c).length) (by omega)
  obtain⟨x,hx⟩:=qBA (l:=qCA c) (i:=(t % (qCA c).length).toNat) (by omega)
  obtain⟨ah,rfl⟩:=qJA hH hx
  obtain⟨hxr,hcx⟩:=qbN hH hx
  have hne:qCA c≠[]:=by intro h;rw [h] at hpos;cases hpos
  have hT:qME c t=x:=by unfold qME;rw [hx];rfl
  repeat((conv=>whnf);first|apply qza|apply qzb|apply qzc|apply qzd|apply qze|intro(_:Nat))
  conv=>whnf
  refine⟨by simp;omega,?_⟩
  repeat((conv=>whnf);first|apply qza|apply qzb|apply qzc|apply qzd|apply qze|intro(_:Nat))
  conv=>whnf
  refine⟨_,rfl,⟨by simp only [hu];omega,by simp only [hu];omega⟩,?_⟩
  repeat((conv=>whnf);first|apply qza|apply qzb|apply qzc|apply qzd|apply qze|intro(_:Nat))
  simp only [hu,u3]
  conv=>whnf
  refine⟨_,hcx 0 _ rfl,?_⟩
  repeat((conv=>whnf);first|apply qza|apply qzb|apply qzc|apply qzd|apply qze|intro(_:Nat))
  conv=>whnf
  intro g2 hg
  simp [hT,hErr,hne])
theorem qfT (g:GW) {a x b y:Int}:OkV Tryz.prog qON [.int .i64 a,.int .i64 x,.int .i64 b,.int .i64 y] g (.int .i64 (q5F a x b y)) :=
 Ok.of_fn hm noT 0 quM (args:=[.v (.int .i64 a),.v (.int .i64 x),.v (.int .i64 b),.v (.int .i64 y)]) (by
  repeat((conv=>whnf);first|apply qza|apply qzb|apply qzc|apply qzd|apply qze|intro(_:Nat))
  conv=>whnf
  refine⟨fun z=>?_,fun z=>?_⟩
  ·repeat((conv=>whnf);first|apply qza|apply qzb|apply qzc|apply qzd|apply qze|intro(_:Nat))
   conv=>whnf
   intro g2 hg
   unfold q5F;rw [if_pos (of_decide_eq_true z)]
  ·repeat((conv=>whnf);first|apply qza|apply qzb|apply qzc|apply qzd|apply qze|intro(_:Nat))
   conv=>whnf
   intro g2 hg
   unfold q5F;rw [if_neg (of_decide_eq_false z)])
/- Requests: draws. -/
open Go.Proofs.YtompjkkgaafllaaGreat.Sx Go.RowKit
theorem qgR {c:Cluster} (h:qCA c=[]) (d:Int):qHC c d=0:=by simp [qHC,h]
theorem qfR {c:Cluster} (d:Int) (h:0<(qCA c).length):(qCA c)[(d % (qCA c).length).toNat]?=some (qHC c d)∧0≤d % (qCA c).length∧d % (qCA c).length<(qCA c).length:=by
 have h1:=Int.emod_nonneg d (show((qCA c).length:Int)≠0 by omega)
 have h2:=Int.emod_lt_of_pos d (show(0:Int)<(qCA c).length by omega)
 obtain⟨x,hx⟩:=qBA (l:=qCA c) (i:=(d % (qCA c).length).toNat) (by omega)
 unfold qHC
 rw [hx]
 exact⟨rfl,h1,h2⟩
theorem qyR {d n:Int} (hn:0<n):-n≤d.tmod n∧d.tmod n<n:=by
 have h1:=Int.emod_nonneg d (show n≠0 by omega)
 have h2:=Int.emod_lt_of_pos d hn
 have h9:d.tmod n=d % n∨d.tmod n=d % n-n:=by
  rw [Int.tmod_eq_emod]
  split
  ·exact .inl (by omega)
  ·right
   have:(n.natAbs:Int)=n:=by omega
   omega
 generalize d.tmod n=r at h9 ⊢
 generalize d % n=q at h9 h1 h2
 omega
theorem qiT (g:GW) {cs:List Value} {c:Cluster} (hc:qbC g cs c) (hsz:c.health.length≤17592186044416) {d0 d1:Int} (h0:InR d0) (h1:InR d1):OkV Tryz.prog qPN [.agg ⟨cs⟩,.int .i64 d0,.int .i64 d1] g (.tuple #[.int .i64 (qHC c d0),.int .i64 (qHC c d1),.int .i64 (hErr c)]):=by
 have hc0:=hc
 obtain⟨vh,rfl,hp,hl,hh⟩:=hc
 obtain⟨oa,ca,rfl,a1,a2,a0,hr⟩:=id hh
 exact Ok.of_fn hm noT 0 qvM (args:=[.v (.agg ⟨[.string c.name,.int .i64 c.policy,.int .i64 c.slots,.slice oa c.health.length ca]⟩),.v (.int .i64 d0),.v (.int .i64 d1)]) (by
  repeat((conv=>whnf);first|apply qza|apply qzb|apply qzc|apply qzd|apply qze|intro(_:Nat))
  refine .inr ((q4K _ hc0 hsz).mono fun v g1 hg1 hH=>?_)
  obtain⟨oh,ch,rfl,hH⟩:=hH
  repeat((conv=>whnf);first|apply qza|apply qzb|apply qzc|apply qzd|apply qze|intro(_:Nat))
  conv=>whnf
  refine⟨fun hz=>?_,fun hz=>?_⟩
  ·have hn:qCA c=[]:=by
    have:=beqT hz
    exact List.length_eq_zero_iff.1 (by omega)
   repeat((conv=>whnf);first|apply qza|apply qzb|apply qzc|apply qzd|apply qze|intro(_:Nat))
   conv=>whnf
   intro g2 hg
   simp [qgR hn,hErr,hn]
  have hpos:0<(qCA c).length:=by
   have:=beqF hz
   omega
  have hsz2:=qAK c hsz
  have hne:qCA c≠[]:=by intro h;rw [h] at hpos;cases hpos
  obtain⟨x1,x2,x3⟩:=qfR (c:=c) d0 hpos
  obtain⟨y1,y2,y3⟩:=qfR (c:=c) d1 hpos
  obtain⟨ah,rfl⟩:=qJA hH x1
  obtain⟨hxr,hcx⟩:=qbN hH x1
  obtain⟨hyr,hcy⟩:=qbN hH y1
  repeat((conv=>whnf);first|apply qza|apply qzb|apply qzc|apply qzd|apply qze|intro(_:Nat))
  rename_i q0 q1
  conv=>whnf
  refine⟨Nat,fun k=>[.v (.int .i64 k)],fun k=>⟨g1,[.blk 1 q1 _ [.v (.int .i64 (if k=0 then d0 else qHC c d0)),.v (.int .i64 (if k≤1 then d1 else qHC c d1))],.blk 0 q0 qkA [.v (.string c.name),.v (.int .i64 c.policy),.v (.int .i64 c.slots),.v (.slice oa c.health.length ca)]],_,_⟩,fun k=>k≤2,fun k=>2-k,qMA 0 rfl (by decide) rfl,?_⟩
  intro k hk
  have hin:∀ d,InR d→InR (d.tmod (qCA c).length)∧InR (d.tmod (qCA c).length+(qCA c).length)∧(d.tmod (qCA c).length+(qCA c).length).tmod (qCA c).length=d % (qCA c).length:=fun d hd=>by
   have e1:=qMT (d:=d) (n:=(qCA c).length) (by omega)
   have e2:=qyR (d:=d) (n:=(qCA c).length) (by omega)
   have hb9:((qCA c).length:Int)≤17592186044416:=by omega
   generalize d.tmod ((qCA c).length:Int)=r at e1 e2 ⊢
   generalize ((qCA c).length:Int)=n at *
   refine⟨by unfold InR;omega,by unfold InR;omega,e1⟩
  rcases(by have:k≤2:=hk;omega:k=0∨k=1∨k=2) with rfl|rfl|rfl
  ·obtain⟨i1,i2,i3⟩:=hin d0 h0
   have w1:=wr i1
   have w2:=wr i2
   conv=>whnf
   refine⟨fun _=>?_,fun h=>nomatch h⟩
   repeat((conv=>whnf);first|apply qza|apply qzb|apply qzc|apply qzd|apply qze|intro(_:Nat))
   conv=>whnf
   refine⟨0,⟨rfl,by decide⟩,?_⟩
   repeat((conv=>whnf);first|apply qza|apply qzb|apply qzc|apply qzd|apply qze|intro(_:Nat))
   conv=>whnf
   refine⟨by simp;omega,?_⟩
   repeat((conv=>whnf);first|apply qza|apply qzb|apply qzc|apply qzd|apply qze|intro(_:Nat))
   conv=>whnf
   refine⟨by simp;omega,?_⟩
   repeat((conv=>whnf);first|apply qza|apply qzb|apply qzc|apply qzd|apply qze|intro(_:Nat))
   simp only [eq_self,Nat.le_refl,if_true,w1,w2,i3]
   conv=>whnf
   refine⟨_,rfl,⟨x2,x3⟩,?_⟩
   repeat((conv=>whnf);first|apply qza|apply qzb|apply qzc|apply qzd|apply qze|intro(_:Nat))
   conv=>whnf
   refine⟨_,hcx 0 _ rfl,?_⟩
   repeat((conv=>whnf);first|apply qza|apply qzb|apply qzc|apply qzd|apply qze|intro(_:Nat))
   conv=>whnf
   refine⟨0,⟨rfl,by decide⟩,?_⟩
   repeat((conv=>whnf);first|apply qza|apply qzb|apply qzc|apply qzd|apply qze|intro(_:Nat))
   conv=>whnf
   refine fun fr w hw=>⟨1,rfl,by decide,by decide,?_⟩
   exact hw.fit (by simp [fitL,Res.eqv,qAA,conc])
  ·obtain⟨i1,i2,i3⟩:=hin d1 h1
   have w1:=wr i1
   have w2:=wr i2
   conv=>whnf
   refine⟨fun _=>?_,fun h=>nomatch h⟩
   repeat((conv=>whnf);first|apply qza|apply qzb|apply qzc|apply qzd|apply qze|intro(_:Nat))
   conv=>whnf
   refine⟨1,⟨rfl,by decide⟩,?_⟩
   repeat((conv=>whnf);first|apply qza|apply qzb|apply qzc|apply qzd|apply qze|intro(_:Nat))
   conv=>whnf
   refine⟨by simp;omega,?_⟩
   repeat((conv=>whnf);first|apply qza|apply qzb|apply qzc|apply qzd|apply qze|intro(_:Nat))
   conv=>whnf
   refine⟨by simp;omega,?_⟩
   repeat((conv=>whnf);first|apply qza|apply qzb|apply qzc|apply qzd|apply qze|intro(_:Nat))
   simp only [eq_self,Nat.le_refl,if_true,w1,w2,i3]
   conv=>whnf
   refine⟨_,rfl,⟨y2,y3⟩,?_⟩
   repeat((conv=>whnf);first|apply qza|apply qzb|apply qzc|apply qzd|apply qze|intro(_:Nat))
   conv=>whnf
   refine⟨_,hcy 0 _ rfl,?_⟩
   repeat((conv=>whnf);first|apply qza|apply qzb|apply qzc|apply qzd|apply qze|intro(_:Nat))
   conv=>whnf
   refine⟨1,⟨rfl,by decide⟩,?_⟩
   repeat((conv=>whnf);first|apply qza|apply qzb|apply qzc|apply qzd|apply qze|intro(_:Nat))
   conv=>whnf
   refine fun fr w hw=>⟨2,rfl,by decide,by decide,?_⟩
   exact hw.fit (by simp [fitL,Res.eqv,qAA,conc])
  ·conv=>whnf
   refine⟨fun h=>(nomatch h),fun _=>?_⟩
   repeat((conv=>whnf);first|apply qza|apply qzb|apply qzc|apply qzd|apply qze|intro(_:Nat))
   conv=>whnf
   refine⟨0,⟨rfl,by decide⟩,?_⟩
   repeat((conv=>whnf);first|apply qza|apply qzb|apply qzc|apply qzd|apply qze|intro(_:Nat))
   conv=>whnf
   refine⟨1,⟨rfl,by decide⟩,?_⟩
   repeat((conv=>whnf);first|apply qza|apply qzb|apply qzc|apply qzd|apply qze|intro(_:Nat))
   conv=>whnf
   intro g2 hg
   simp [hErr,hne])
/- Pins: the steps' table. -/
open Go.Proofs.YtompjkkgaafllaaGreat.Sx Go.RowKit
def qtR (w:Wd) (m:Mach) (v:Value) (g':GW):Prop:=∃ cs ms,v=.tuple #[.agg ⟨cs⟩,.agg ⟨ms⟩,.agg ⟨(pinE w m).cs⟩]∧rWo g' cs (pinW w m)∧qRB g' ms (pinM w m)
def tPi:List (Nat×FnI):=[(qxJ,qKK),(qBF,qBI),(qAF,qAI),(q9E,q9H),(qGQ,qJL)]
theorem qEP:qOG Tryz.prog tPi:=by
 intro x hx
 simp only [tPi,List.mem_cons,List.not_mem_nil,or_false] at hx
 rcases hx with rfl|rfl|rfl|rfl|rfl
 ·exact⟨_,_,qVJ⟩
 ·exact⟨_,_,qaL⟩
 ·exact⟨_,_,qZL⟩
 ·exact⟨_,_,qYL⟩
 ·exact⟨_,_,qpP⟩
def q9P:List (Int×Value):=[(0,.agg #[.func (.func qBF) #[] #[]]),(1,.agg #[.func (.func qAF) #[] #[]]),(2,.agg #[.func (.func q9E) #[] #[]])]
theorem qHJ (g:GW):Ok Tryz.prog qxJ [] g fun v g'=>∃ r,v=.map (some r)∧FzM g' r .i64 q9P :=
 Ok.of_fn hm noT 0 qVJ (args:=[]) (by
  repeat((conv=>whnf);first|apply qza|apply qzb|apply qzc|apply qzd|apply qze|intro(_:Nat))
  conv=>whnf
  refine fun g1 hg1 hf=>?_
  repeat((conv=>whnf);first|apply qza|apply qzb|apply qzc|apply qzd|apply qze|intro(_:Nat))
  conv=>whnf
  intro g2 hg
  exact⟨_,rfl,hf.mono hg⟩)
/- Pins: a step,another place. -/
open Go.Proofs.YtompjkkgaafllaaGreat.Sx Go.RowKit
theorem qOS (g:GW) {cs ms:List Value} {w:Wd} {m:Mach} (hw:rWo g cs w) (hM:qRB g ms m) (hsn:SnW w) (hb:BgW 1000000 w) (hp:m.pc≠0∧m.pc≠1∧m.pc≠2):Ok Tryz.prog qiE [.agg ⟨cs⟩,.agg ⟨ms⟩] g (qtR w m):=by
 obtain⟨oa,ca,ob,cb,oc,cc,od,cd,oe,ce,o1,t1,o2,t2,o3,t3,rfl,rfl,hw0,hM0,⟨i1,i2,i3⟩,hP,hV,hL,hC,hR,⟨a1,a2,a0,hP1⟩,⟨b1,b2,b0,hV1⟩,⟨c1,c2,c0,hL1⟩,⟨d1,d2,d0,hC1⟩,⟨e1,e2,e0,hR1⟩,hok,hop,hcf⟩:=qLE hw hM
 exact Ok.of_fn hm qEP 3 qQG (args:=[.v (.agg ⟨wQ w oa ca ob cb oc cc od cd oe ce⟩),.v (.agg ⟨mQ m o1 t1 o2 t2 o3 t3⟩)]) (by
  repeat((conv=>whnf);first|apply qza|apply qzb|apply qzc|apply qzd|apply qze|intro(_:Nat))
  refine .inr ((qHJ _).mono fun v g1 hg1 hF=>?_)
  obtain⟨r,rfl,hF⟩:=hF
  repeat((conv=>whnf);first|apply qza|apply qzb|apply qzc|apply qzd|apply qze|intro(_:Nat))
  conv=>whnf
  refine⟨q9P,⟨rfl,hF⟩,?_⟩
  have q0:(m.pc==0)=false:=by simp;omega
  have q1:(m.pc==1)=false:=by simp;omega
  have q2:(m.pc==2)=false:=by simp;omega
  conv=>whnf
  refine⟨none,by simp only [q9P,mGet,q0,q1,q2],?_⟩
  repeat((conv=>whnf);first|apply qza|apply qzb|apply qzc|apply qzd|apply qze|intro(_:Nat))
  conv=>whnf
  refine⟨fun _=>?_,fun h=>nomatch h⟩
  repeat((conv=>whnf);first|apply qza|apply qzb|apply qzc|apply qzd|apply qze|intro(_:Nat))
  conv=>whnf
  intro g2 hg
  have hE:pinE w m=ev0:=by unfold pinE;split;rw [if_neg (by omega),if_neg (by omega)];rfl
  have hWd:pinW w m=w:=by unfold pinW;rw [if_neg (by omega)]
  have hMm:pinM w m=m:=by unfold pinM;split;rw [if_neg (by omega),if_neg (by omega),if_neg (by omega)];rfl
  exact⟨_,_,by rw [hE];rfl,by rw [hWd];exact qGA _ _ _ _ (GW.trans hg1 hg) hw0,by rw [hMm];exact qgA _ _ _ _ (GW.trans hg1 hg) hM0⟩)
end Go.Proofs.YtompjkkgaafllaaGreat
