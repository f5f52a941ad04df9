/- Worlds: what is cloned: endpoints, groups, versions, rows. -/
import Derived.Test.YtkbbljngpglnkaaLW9o
import Derived.Test.YtkbbljngpglnkaaLW9e
import Derived.Test.YtkbbljngpglnkaaPl
set_option linter.unusedVariables false
set_option linter.unusedSimpArgs false
namespace Go.Proofs.Ytkbbljngpglnkaa
open Go.Proofs.Ytkbbljngpglnkaa.Sx Go.RowKit
set_option maxHeartbeats 16000000
set_option maxRecDepth 100000
theorem qEQ (g0 g:GW) (h0:g0≤g) {cs:List Value} {x:EndC} (hx:rEn g cs x):Ok Try.prog q4B [.agg ⟨[]⟩,.agg ⟨cs⟩] g fun v g'=>∃ cs',v=.agg ⟨cs'⟩∧oEn wT true g' g0.w.heap.size (NEW g g') cs' x:=by
 obtain⟨⟨n,rfl,hH,hA,hN⟩,hsz⟩:=hx
 obtain⟨oa,ca,rfl,a1,a2,a0,hr⟩:=id hN
 exact Ok.of_fn hm noT 0 qyF (args:=[.v (.agg ⟨[]⟩),.v (.agg ⟨[.int .u64 x.head,.slice oa x.next.length ca,.int .i64 x.active]⟩)]) (by
  repeat((conv=>whnf);first|apply qza|apply qzb|apply qzc|apply qzd|apply qze|intro(_:Nat))
  refine .inr ((qCO g0 _ h0 hN hsz).mono fun v g1 hg1 hO=>?_)
  obtain⟨oV,cV,rfl⟩:=qxC hO
  repeat((conv=>whnf);first|apply qza|apply qzb|apply qzc|apply qzd|apply qze|intro(_:Nat))
  conv=>whnf
  intro g2 hg
  exact⟨_,rfl,_,rfl,⟨hH,hA,hsz⟩,.inl (qlE (qDB qiC) hg hO)⟩)
theorem qBQ (g0 g:GW) (h0:g0≤g) {v:Value} {l:List EndC} (hl:rSl 3 rEn g v l) (hlen:l.length≤1000000) :Ok Try.prog qMC [v,.func (.func q4B) #[] #[],.agg ⟨[]⟩] g fun v' g'=>oSl qZA 3 (oEn wT true) g' g0.w.heap.size (NEW g g') v' l:=by
 obtain⟨oa,ca,rfl,a1,a2,a0,hr⟩:=id hl
 exact Ok.of_fn hm noT 0 qIC (args:=[.v (.slice oa l.length ca),.v (.func (.func q4B) #[] #[]),.v (.agg ⟨[]⟩)]) (by
  repeat((conv=>whnf);first|apply qza|apply qzb|apply qzc|apply qzd|apply qze|intro(_:Nat))
  conv=>whnf
  refine⟨⟨by omega,by omega,by omega,by omega⟩,fun _=>?_⟩
  repeat((conv=>whnf);first|apply qza|apply qzb|apply qzc|apply qzd|apply qze|intro(_:Nat))
  rename_i q0 q1
  conv=>whnf
  refine⟨Nat×List (List Value)×GW,fun (k,_,_)=>[.v (.int .i64 k)],fun (k,ecs,g')=>⟨g',[.row 1 (some ⟨q1,0,none⟩) l.length l.length qZA 3 (rowK ecs [.int .u64 0,.slice none 0 0,.int .i64 0] (l.length-k)),.blk 0 q0 qHC []],10,g.w.heap.size⟩,fun (k,ecs,g')=>k≤l.length∧g≤g'∧oEls 3 (oEn wT true) g g' g0.w.heap.size ecs (l.take k),fun (k,_,_)=>l.length-k,fun fr w hw=>⟨(0,[],g),rfl,⟨Nat.zero_le _,GW.refl _,qdH _ _ _⟩,hw.fit (by simp [fitL,Res.eqv,qAA,conc,rowK])⟩,?_⟩
  rintro⟨k,ecs,g'⟩ ⟨hk,hgg,hE⟩
  have hE0:=hE
  obtain⟨_,⟨hel,hes⟩,_⟩:=hE0
  rw [List.length_take,Nat.min_eq_left hk] at hel
  repeat((conv=>whnf);first|apply qza|apply qzb|apply qzc|apply qzd|apply qze|intro(_:Nat))
  conv=>whnf
  refine⟨fun hlt=>?_,fun hlt=>?_⟩
  ·have h':k<l.length:=by have:=of_decide_eq_true hlt;omega
   obtain⟨x,hx⟩:=qDA h'
   obtain⟨x1,x2⟩:=List.getElem?_eq_some_iff.1 hx
   obtain⟨a,rfl,ec,hec,hxe,hc⟩:=hr k x hx
   have hxe0:=hxe
   obtain⟨⟨nx,rfl,u1,u2,⟨oN,cN,rfl,_⟩⟩,u3⟩:=hxe
   repeat((conv=>whnf);first|apply qza|apply qzb|apply qzc|apply qzd|apply qze|intro(_:Nat))
   conv=>whnf
   refine⟨a,rfl,⟨by omega,by omega⟩,?_⟩
   conv=>whnf
   refine⟨_,⟨rfl,hc.mono hgg⟩,?_⟩
   repeat((conv=>whnf);first|apply qza|apply qzb|apply qzc|apply qzd|apply qze|intro(_:Nat))
   conv=>whnf
   refine⟨.of (by kernel_rfl),?_⟩
   refine .inr ((qEQ g0 _ (GW.trans h0 hgg) (qSE _ _ _ _ hgg hxe0)).mono fun v g1 hg1 hO=>?_)
   obtain⟨cs',rfl,hO⟩:=hO
   have hO0:=hO
   obtain⟨nv,rfl,_,hO1⟩:=hO0
   obtain⟨oW,cW,rfl,_⟩:=qlP hO1
   have hlenR:=qQF (m:=l.length-k) (z:=[.int .u64 0,.slice none 0 0,.int .i64 0]) hes rfl
   have hT:l.take (k+1)=l.take k++[x]:=by rw [List.take_succ_eq_append_getElem x1,x2]
   have hset:=qPF (m:=l.length-k) (z:=[.int .u64 0,.slice none 0 0,.int .i64 0]) hes rfl (by omega) (ec:=[.int .u64 x.head,.slice oW x.next.length cW,.int .i64 x.active]) rfl hel.symm
   repeat((conv=>whnf);first|apply qza|apply qzb|apply qzc|apply qzd|apply qze|intro(_:Nat))
   conv=>whnf
   refine⟨⟨by omega,by omega⟩,?_⟩
   repeat((conv=>whnf);first|apply qza|apply qzb|apply qzc|apply qzd|apply qze|intro(_:Nat))
   conv=>whnf
   refine⟨⟨by rw [hlenR,hel];simp;omega,by decide⟩,?_⟩
   repeat((conv=>whnf);first|apply qza|apply qzb|apply qzc|apply qzd|apply qze|intro(_:Nat))
   conv=>whnf
   refine fun fr w hw=>⟨(k+1,ecs++[[.int .u64 x.head,.slice oW x.next.length cW,.int .i64 x.active]],g1),congrArg (fun z=>[Value.int .i64 z]) (wr1 h' a1 a2).symm,⟨h',GW.trans hgg hg1,by rw [hT];exact qYG qnK hgg hg1 hE rfl hO⟩,dec h',hw.fit ?_⟩
   rw [show l.length-(k+1)=l.length-k-1 by omega]
   simp [fitL,Res.eqv,qAA,conc,← hset]
  have hkL:k=l.length:=by have:=of_decide_eq_false hlt;omega
  subst hkL
  rw [List.take_length] at hE
  repeat((conv=>whnf);first|apply qza|apply qzb|apply qzc|apply qzd|apply qze|intro(_:Nat))
  conv=>whnf
  refine fun g1 hg1 hn1 hp1=>?_
  rw [Nat.sub_self,q5E] at hp1
  conv=>whnf
  intro g2 hg
  exact qlE qnK hg (qAF qnK hE hgg hg1 (hp1.lo_le h0.1) rfl hn1))
theorem qDO (g0 g:GW) (h0:g0≤g) {cs:List Value} {x:Group} (hx:rGr g cs x) (hb:BgG 1000000 x):Ok Try.prog qPB [.agg ⟨[]⟩,.agg ⟨cs⟩] g fun v g'=>∃ cs',v=.agg ⟨cs'⟩∧oGr wT true g' g0.w.heap.size (NEW g g') cs' x:=by
 obtain⟨n,rfl,hH,hN⟩:=hx
 obtain⟨oa,ca,rfl,a1,a2,a0,hr⟩:=id hN
 exact Ok.of_fn hm noT 0 q0E (args:=[.v (.agg ⟨[]⟩),.v (.agg ⟨[.int .u64 x.ticket,.slice oa x.ends.length ca]⟩)]) (by
  repeat((conv=>whnf);first|apply qza|apply qzb|apply qzc|apply qzd|apply qze|intro(_:Nat))
  refine .inr ((qBQ g0 _ h0 hN hb).mono fun v g1 hg1 hO=>?_)
  obtain⟨oV,cV,rfl⟩:=qxC hO
  repeat((conv=>whnf);first|apply qza|apply qzb|apply qzc|apply qzd|apply qze|intro(_:Nat))
  conv=>whnf
  intro g2 hg
  exact⟨_,rfl,_,rfl,hH,qlE qnK hg hO⟩)
theorem qBO (g0 g:GW) (h0:g0≤g) {v:Value} {l:List Group} (hl:rSl 2 rGr g v l) (hlen:l.length≤1000000) (hb:∀ y∈l,BgG 1000000 y):Ok Try.prog q2B [v,.func (.func qPB) #[] #[],.agg ⟨[]⟩] g fun v' g'=>oSl qWA 2 (oGr wT true) g' g0.w.heap.size (NEW g g') v' l:=by
 obtain⟨oa,ca,rfl,a1,a2,a0,hr⟩:=id hl
 exact Ok.of_fn hm noT 0 q0B (args:=[.v (.slice oa l.length ca),.v (.func (.func qPB) #[] #[]),.v (.agg ⟨[]⟩)]) (by
  repeat((conv=>whnf);first|apply qza|apply qzb|apply qzc|apply qzd|apply qze|intro(_:Nat))
  conv=>whnf
  refine⟨⟨by omega,by omega,by omega,by omega⟩,fun _=>?_⟩
  repeat((conv=>whnf);first|apply qza|apply qzb|apply qzc|apply qzd|apply qze|intro(_:Nat))
  rename_i q0 q1
  conv=>whnf
  refine⟨Nat×List (List Value)×GW,fun (k,_,_)=>[.v (.int .i64 k)],fun (k,ecs,g')=>⟨g',[.row 1 (some ⟨q1,0,none⟩) l.length l.length qWA 2 (rowK ecs [.int .u64 0,.slice none 0 0] (l.length-k)),.blk 0 q0 qHC []],10,g.w.heap.size⟩,fun (k,ecs,g')=>k≤l.length∧g≤g'∧oEls 2 (oGr wT true) g g' g0.w.heap.size ecs (l.take k),fun (k,_,_)=>l.length-k,fun fr w hw=>⟨(0,[],g),rfl,⟨Nat.zero_le _,GW.refl _,qdH _ _ _⟩,hw.fit (by simp [fitL,Res.eqv,qAA,conc,rowK])⟩,?_⟩
  rintro⟨k,ecs,g'⟩ ⟨hk,hgg,hE⟩
  have hE0:=hE
  obtain⟨_,⟨hel,hes⟩,_⟩:=hE0
  rw [List.length_take,Nat.min_eq_left hk] at hel
  repeat((conv=>whnf);first|apply qza|apply qzb|apply qzc|apply qzd|apply qze|intro(_:Nat))
  conv=>whnf
  refine⟨fun hlt=>?_,fun hlt=>?_⟩
  ·have h':k<l.length:=by have:=of_decide_eq_true hlt;omega
   obtain⟨x,hx⟩:=qDA h'
   obtain⟨x1,x2⟩:=List.getElem?_eq_some_iff.1 hx
   obtain⟨a,rfl,ec,hec,hxe,hc⟩:=hr k x hx
   have hxe0:=hxe
   obtain⟨nx,rfl,u1,⟨oN,cN,rfl,_⟩⟩:=hxe
   repeat((conv=>whnf);first|apply qza|apply qzb|apply qzc|apply qzd|apply qze|intro(_:Nat))
   conv=>whnf
   refine⟨a,rfl,⟨by omega,by omega⟩,?_⟩
   conv=>whnf
   refine⟨_,⟨rfl,hc.mono hgg⟩,?_⟩
   repeat((conv=>whnf);first|apply qza|apply qzb|apply qzc|apply qzd|apply qze|intro(_:Nat))
   conv=>whnf
   refine⟨.of (by kernel_rfl),?_⟩
   refine .inr ((qDO g0 _ (GW.trans h0 hgg) (qRE _ _ _ _ hgg hxe0) (hb x (List.mem_of_getElem? hx))).mono fun v g1 hg1 hO=>?_)
   obtain⟨cs',rfl,hO⟩:=hO
   have hO0:=hO
   obtain⟨nv,rfl,_,hO1⟩:=hO0
   obtain⟨oW,cW,rfl⟩:=qxC hO1
   have hlenR:=qQF (m:=l.length-k) (z:=[.int .u64 0,.slice none 0 0]) hes rfl
   have hT:l.take (k+1)=l.take k++[x]:=by rw [List.take_succ_eq_append_getElem x1,x2]
   have hset:=qPF (m:=l.length-k) (z:=[.int .u64 0,.slice none 0 0]) hes rfl (by omega) (ec:=[.int .u64 x.ticket,.slice oW x.ends.length cW]) rfl hel.symm
   repeat((conv=>whnf);first|apply qza|apply qzb|apply qzc|apply qzd|apply qze|intro(_:Nat))
   conv=>whnf
   refine⟨⟨by omega,by omega⟩,?_⟩
   repeat((conv=>whnf);first|apply qza|apply qzb|apply qzc|apply qzd|apply qze|intro(_:Nat))
   conv=>whnf
   refine⟨⟨by rw [hlenR,hel];simp;omega,by decide⟩,?_⟩
   repeat((conv=>whnf);first|apply qza|apply qzb|apply qzc|apply qzd|apply qze|intro(_:Nat))
   conv=>whnf
   refine fun fr w hw=>⟨(k+1,ecs++[[.int .u64 x.ticket,.slice oW x.ends.length cW]],g1),congrArg (fun z=>[Value.int .i64 z]) (wr1 h' a1 a2).symm,⟨h',GW.trans hgg hg1,by rw [hT];exact qYG q9I hgg hg1 hE rfl hO⟩,dec h',hw.fit ?_⟩
   rw [show l.length-(k+1)=l.length-k-1 by omega]
   simp [fitL,Res.eqv,qAA,conc,← hset]
  have hkL:k=l.length:=by have:=of_decide_eq_false hlt;omega
  subst hkL
  rw [List.take_length] at hE
  repeat((conv=>whnf);first|apply qza|apply qzb|apply qzc|apply qzd|apply qze|intro(_:Nat))
  conv=>whnf
  refine fun g1 hg1 hn1 hp1=>?_
  rw [Nat.sub_self,q5E] at hp1
  conv=>whnf
  intro g2 hg
  exact qlE q9I hg (qAF q9I hE hgg hg1 (hp1.lo_le h0.1) rfl hn1))
theorem qvL (g0 g:GW) (h0:g0≤g) {cs:List Value} {x:Version} (hx:rVe g0 cs x) (hb:BgV 1000000 x):Ok Try.prog q1A [.agg ⟨[]⟩,.agg ⟨cs⟩] g fun v g'=>∃ cs',v=.agg ⟨cs'⟩∧oVe wT true g' g0.w.heap.size (NEW g g') cs' x:=by
 obtain⟨a,b,d,n,rfl,hS,hN⟩:=hx
 have hS0:=hS
 obtain⟨_,_,_,he,⟨oa',ca',rfl,_⟩,⟨ob',cb',rfl,_⟩,⟨od',cd',rfl,_⟩⟩:=hS
 cases he
 obtain⟨oa,ca,rfl,a1,a2,a0,hr⟩:=id hN
 exact Ok.of_fn hm noT 0 qNE (args:=[.v (.agg ⟨[]⟩),.v (.agg ⟨[.slice oa' x.snap.listens.length ca',.slice ob' x.snap.rules.length cb',.slice od' x.snap.clusters.length cd',.slice oa x.groups.length ca,.bool x.freed]⟩)]) (by
  repeat((conv=>whnf);first|apply qza|apply qzb|apply qzc|apply qzd|apply qze|intro(_:Nat))
  refine .inr ((qBO g0 _ h0 (hN.mono qRE h0) hb.1 hb.2).mono fun v g1 hg1 hO=>?_)
  obtain⟨oV,cV,rfl⟩:=qxC hO
  repeat((conv=>whnf);first|apply qza|apply qzb|apply qzc|apply qzd|apply qze|intro(_:Nat))
  conv=>whnf
  intro g2 hg
  exact⟨_,rfl,_,_,_,_,rfl,qaC _ _ _ _ (GW.le_vw (GW.trans h0 (GW.trans hg1 hg)) (Nat.le_refl _)) hS0,qlE q9I hg hO⟩)
theorem quL (g0 g:GW) (h0:g0≤g) {v:Value} {l:List Version} (hl:rSl 5 rVe g0 v l) (hlen:l.length≤1000000) (hb:∀ y∈l,BgV 1000000 y):Ok Try.prog qhB [v,.func (.func q1A) #[] #[],.agg ⟨[]⟩] g fun v' g'=>oSl qBA 5 (oVe wT true) g' g0.w.heap.size (NEW g g') v' l:=by
 obtain⟨oa,ca,rfl,a1,a2,a0,hr⟩:=id hl
 exact Ok.of_fn hm noT 0 qgB (args:=[.v (.slice oa l.length ca),.v (.func (.func q1A) #[] #[]),.v (.agg ⟨[]⟩)]) (by
  repeat((conv=>whnf);first|apply qza|apply qzb|apply qzc|apply qzd|apply qze|intro(_:Nat))
  conv=>whnf
  refine⟨⟨by omega,by omega,by omega,by omega⟩,fun _=>?_⟩
  repeat((conv=>whnf);first|apply qza|apply qzb|apply qzc|apply qzd|apply qze|intro(_:Nat))
  rename_i q0 q1
  conv=>whnf
  refine⟨Nat×List (List Value)×GW,fun (k,_,_)=>[.v (.int .i64 k)],fun (k,ecs,g')=>⟨g',[.row 1 (some ⟨q1,0,none⟩) l.length l.length qBA 5 (rowK ecs [.slice none 0 0,.slice none 0 0,.slice none 0 0,.slice none 0 0,.bool false] (l.length-k)),.blk 0 q0 qHC []],10,g.w.heap.size⟩,fun (k,ecs,g')=>k≤l.length∧g≤g'∧oEls 5 (oVe wT true) g g' g0.w.heap.size ecs (l.take k),fun (k,_,_)=>l.length-k,fun fr w hw=>⟨(0,[],g),rfl,⟨Nat.zero_le _,GW.refl _,qdH _ _ _⟩,hw.fit (by simp [fitL,Res.eqv,qAA,conc,rowK])⟩,?_⟩
  rintro⟨k,ecs,g'⟩ ⟨hk,hgg,hE⟩
  have hE0:=hE
  obtain⟨_,⟨hel,hes⟩,_⟩:=hE0
  rw [List.length_take,Nat.min_eq_left hk] at hel
  repeat((conv=>whnf);first|apply qza|apply qzb|apply qzc|apply qzd|apply qze|intro(_:Nat))
  conv=>whnf
  refine⟨fun hlt=>?_,fun hlt=>?_⟩
  ·have h':k<l.length:=by have:=of_decide_eq_true hlt;omega
   obtain⟨x,hx⟩:=qDA h'
   obtain⟨x1,x2⟩:=List.getElem?_eq_some_iff.1 hx
   obtain⟨a,rfl,ec,hec,hxe,hc⟩:=hr k x hx
   have hxe0:=hxe
   obtain⟨sa,sb,sd,nx,rfl,⟨_,_,_,hee,⟨oa',ca',rfl,_⟩,⟨ob',cb',rfl,_⟩,⟨od',cd',rfl,_⟩⟩,⟨oN,cN,rfl,_⟩⟩:=hxe
   cases hee
   repeat((conv=>whnf);first|apply qza|apply qzb|apply qzc|apply qzd|apply qze|intro(_:Nat))
   conv=>whnf
   refine⟨a,rfl,⟨by omega,by omega⟩,?_⟩
   conv=>whnf
   refine⟨_,⟨rfl,hc.mono (GW.trans h0 hgg)⟩,?_⟩
   repeat((conv=>whnf);first|apply qza|apply qzb|apply qzc|apply qzd|apply qze|intro(_:Nat))
   conv=>whnf
   refine⟨.of (by kernel_rfl),?_⟩
   refine .inr ((qvL g0 _ (GW.trans h0 hgg) hxe0 (hb x (List.mem_of_getElem? hx))).mono fun v g1 hg1 hO=>?_)
   obtain⟨cs',rfl,hO⟩:=hO
   have hO0:=hO
   obtain⟨ua,ub,ud,nv,rfl,⟨_,_,_,hee,⟨oa2,ca2,rfl,_⟩,⟨ob2,cb2,rfl,_⟩,⟨od2,cd2,rfl,_⟩⟩,hO1⟩:=hO0
   cases hee
   obtain⟨oW,cW,rfl⟩:=qxC hO1
   have hlenR:=qQF (m:=l.length-k) (z:=[.slice none 0 0,.slice none 0 0,.slice none 0 0,.slice none 0 0,.bool false]) hes rfl
   have hT:l.take (k+1)=l.take k++[x]:=by rw [List.take_succ_eq_append_getElem x1,x2]
   have hset:=qPF (m:=l.length-k) (z:=[.slice none 0 0,.slice none 0 0,.slice none 0 0,.slice none 0 0,.bool false]) hes rfl (by omega) (ec:=[.slice oa2 x.snap.listens.length ca2,.slice ob2 x.snap.rules.length cb2,.slice od2 x.snap.clusters.length cd2,.slice oW x.groups.length cW,.bool x.freed]) rfl hel.symm
   repeat((conv=>whnf);first|apply qza|apply qzb|apply qzc|apply qzd|apply qze|intro(_:Nat))
   conv=>whnf
   refine⟨⟨by omega,by omega⟩,?_⟩
   repeat((conv=>whnf);first|apply qza|apply qzb|apply qzc|apply qzd|apply qze|intro(_:Nat))
   conv=>whnf
   refine⟨⟨by rw [hlenR,hel];simp;omega,by decide⟩,?_⟩
   repeat((conv=>whnf);first|apply qza|apply qzb|apply qzc|apply qzd|apply qze|intro(_:Nat))
   conv=>whnf
   refine fun fr w hw=>⟨(k+1,ecs++[[.slice oa2 x.snap.listens.length ca2,.slice ob2 x.snap.rules.length cb2,.slice od2 x.snap.clusters.length cd2,.slice oW x.groups.length cW,.bool x.freed]],g1),congrArg (fun z=>[Value.int .i64 z]) (wr1 h' a1 a2).symm,⟨h',GW.trans hgg hg1,by rw [hT];exact qYG q6H hgg hg1 hE rfl hO⟩,dec h',hw.fit ?_⟩
   rw [show l.length-(k+1)=l.length-k-1 by omega]
   simp [fitL,Res.eqv,qAA,conc,← hset]
  have hkL:k=l.length:=by have:=of_decide_eq_false hlt;omega
  subst hkL
  rw [List.take_length] at hE
  repeat((conv=>whnf);first|apply qza|apply qzb|apply qzc|apply qzd|apply qze|intro(_:Nat))
  conv=>whnf
  refine fun g1 hg1 hn1 hp1=>?_
  rw [Nat.sub_self,q5E] at hp1
  conv=>whnf
  intro g2 hg
  exact qlE q6H hg (qAF q6H hE hgg hg1 (hp1.lo_le h0.1) rfl hn1))
theorem qDQ (g0 g:GW) (h0:g0≤g) {v:Value} {x:List Int} (hx:rSl 1 rU64 g v x) (hb:x.length≤17592186044416):Ok Try.prog q3B [.agg ⟨[]⟩,v] g fun v' g'=>oSl qxD 1 (oLf rU64) g' g0.w.heap.size (NEW g g') v' x:=by
 obtain⟨oa,ca,rfl,a1,a2,a0,hr⟩:=id hx
 exact Ok.of_fn hm noT 0 qxF (args:=[.v (.agg ⟨[]⟩),.v (.slice oa x.length ca)]) (by
  repeat((conv=>whnf);first|apply qza|apply qzb|apply qzc|apply qzd|apply qze|intro(_:Nat))
  refine .inr ((ok_cU g0 _ h0 hx hb).mono fun v g1 hg1 hO=>?_)
  obtain⟨oV,cV,rfl⟩:=qxC hO
  repeat((conv=>whnf);first|apply qza|apply qzb|apply qzc|apply qzd|apply qze|intro(_:Nat))
  conv=>whnf
  intro g2 hg
  exact qlE (qDB qTG) hg hO)
theorem qAQ (g0 g:GW) (h0:g0≤g) {v:Value} {l:List (List Int)} (hl:rSl 1 rRow g v l) (hlen:l.length≤1000000) (hb:∀ y∈l,y.length≤1000000):Ok Try.prog qEC [v,.func (.func q3B) #[] #[],.agg ⟨[]⟩] g fun v' g'=>oSl qJB 1 (oRo wT) g' g0.w.heap.size (NEW g g') v' l:=by
 obtain⟨oa,ca,rfl,a1,a2,a0,hr⟩:=id hl
 exact Ok.of_fn hm noT 0 qCC (args:=[.v (.slice oa l.length ca),.v (.func (.func q3B) #[] #[]),.v (.agg ⟨[]⟩)]) (by
  repeat((conv=>whnf);first|apply qza|apply qzb|apply qzc|apply qzd|apply qze|intro(_:Nat))
  conv=>whnf
  refine⟨⟨by omega,by omega,by omega,by omega⟩,fun _=>?_⟩
  repeat((conv=>whnf);first|apply qza|apply qzb|apply qzc|apply qzd|apply qze|intro(_:Nat))
  rename_i q0 q1
  conv=>whnf
  refine⟨Nat×List (List Value)×GW,fun (k,_,_)=>[.v (.int .i64 k)],fun (k,ecs,g')=>⟨g',[.row 1 (some ⟨q1,0,none⟩) l.length l.length qJB 1 (rowK ecs [.slice none 0 0] (l.length-k)),.blk 0 q0 qHC []],10,g.w.heap.size⟩,fun (k,ecs,g')=>k≤l.length∧g≤g'∧oEls 1 (oRo wT) g g' g0.w.heap.size ecs (l.take k),fun (k,_,_)=>l.length-k,fun fr w hw=>⟨(0,[],g),rfl,⟨Nat.zero_le _,GW.refl _,qdH _ _ _⟩,hw.fit (by simp [fitL,Res.eqv,qAA,conc,rowK])⟩,?_⟩
  rintro⟨k,ecs,g'⟩ ⟨hk,hgg,hE⟩
  have hE0:=hE
  obtain⟨_,⟨hel,hes⟩,_⟩:=hE0
  rw [List.length_take,Nat.min_eq_left hk] at hel
  repeat((conv=>whnf);first|apply qza|apply qzb|apply qzc|apply qzd|apply qze|intro(_:Nat))
  conv=>whnf
  refine⟨fun hlt=>?_,fun hlt=>?_⟩
  ·have h':k<l.length:=by have:=of_decide_eq_true hlt;omega
   obtain⟨x,hx⟩:=qDA h'
   obtain⟨x1,x2⟩:=List.getElem?_eq_some_iff.1 hx
   obtain⟨a,rfl,ec,hec,hxe,hc⟩:=hr k x hx
   have hxe0:=hxe
   obtain⟨nx,rfl,hN⟩:=hxe
   have hN0:=hN
   obtain⟨oN,cN,rfl,_⟩:=hN
   repeat((conv=>whnf);first|apply qza|apply qzb|apply qzc|apply qzd|apply qze|intro(_:Nat))
   conv=>whnf
   refine⟨a,rfl,⟨by omega,by omega⟩,?_⟩
   conv=>whnf
   refine⟨_,hc.mono hgg 0 _ rfl,?_⟩
   repeat((conv=>whnf);first|apply qza|apply qzb|apply qzc|apply qzd|apply qze|intro(_:Nat))
   conv=>whnf
   refine⟨.of (by kernel_rfl),?_⟩
   refine .inr ((qDQ g0 _ (GW.trans h0 hgg) (hN0.mono quH hgg) (by have:=hb x (List.mem_of_getElem? hx);omega)).mono fun v g1 hg1 hO=>?_)
   obtain⟨oW,cW,rfl⟩:=qxC hO
   have hlenR:=qQF (m:=l.length-k) (z:=[.slice none 0 0]) hes rfl
   have hT:l.take (k+1)=l.take k++[x]:=by rw [List.take_succ_eq_append_getElem x1,x2]
   have hset:=qPF (m:=l.length-k) (z:=[.slice none 0 0]) hes rfl (by omega) (ec:=[.slice oW x.length cW]) rfl hel.symm
   repeat((conv=>whnf);first|apply qza|apply qzb|apply qzc|apply qzd|apply qze|intro(_:Nat))
   conv=>whnf
   refine⟨⟨by omega,by omega⟩,?_⟩
   repeat((conv=>whnf);first|apply qza|apply qzb|apply qzc|apply qzd|apply qze|intro(_:Nat))
   conv=>whnf
   refine⟨⟨by rw [hlenR,hel];simp;omega,by decide⟩,?_⟩
   repeat((conv=>whnf);first|apply qza|apply qzb|apply qzc|apply qzd|apply qze|intro(_:Nat))
   conv=>whnf
   refine fun fr w hw=>⟨(k+1,ecs++[[.slice oW x.length cW]],g1),congrArg (fun z=>[Value.int .i64 z]) (wr1 h' a1 a2).symm,⟨h',GW.trans hgg hg1,by rw [hT];exact qYG q8H hgg hg1 hE rfl ⟨_,rfl,hO⟩⟩,dec h',hw.fit ?_⟩
   rw [show l.length-(k+1)=l.length-k-1 by omega]
   simp [fitL,Res.eqv,qAA,conc,← hset]
  have hkL:k=l.length:=by have:=of_decide_eq_false hlt;omega
  subst hkL
  rw [List.take_length] at hE
  repeat((conv=>whnf);first|apply qza|apply qzb|apply qzc|apply qzd|apply qze|intro(_:Nat))
  conv=>whnf
  refine fun g1 hg1 hn1 hp1=>?_
  rw [Nat.sub_self,q5E] at hp1
  conv=>whnf
  intro g2 hg
  exact qlE q8H hg (qAF q8H hE hgg hg1 (hp1.lo_le h0.1) rfl hn1))
/- Worlds: clones. -/
open Go.Proofs.Ytkbbljngpglnkaa.Sx Go.RowKit
def qfR (g:GW) (w:Wd) (v:Value) (g':GW):Prop:=∃ cs T,v=.agg ⟨cs⟩∧oWo wT true g' g.w.heap.size T cs w
def T5 (g1 g2 g3 g4 g5 g6:GW):Nat→Nat→Prop:=fun i n=>match i with
 | 0=>NEW g1 g2 n
 | 1=>NEW g2 g3 n
 | 2=>NEW g3 g4 n
 | 3=>NEW g4 g5 n
 | 4=>NEW g5 g6 n
 | _=>False
theorem qdQ {g1 g2 g3 g4 g5 g6:GW} (h1:g1≤g2) (h2:g2≤g3) (h3:g3≤g4) (h4:g4≤g5) (i j n:Nat) (p:T5 g1 g2 g3 g4 g5 g6 i n) (q:T5 g1 g2 g3 g4 g5 g6 j n):i=j:=by
 have e3:=GW.trans h2 h3
 have e4:=GW.trans e3 h4
 have e5:=GW.trans h3 h4
 have key:∀ {a b c d:GW},b≤c→NEW a b n→NEW c d n→False:=fun k p q=>q.2 (k.2 n p.1).1
 match i,j,p,q with
 | 0,0,_,_=>rfl
 | 1,1,_,_=>rfl
 | 2,2,_,_=>rfl
 | 3,3,_,_=>rfl
 | 4,4,_,_=>rfl
 | 0,1,p,q=>exact(key (GW.refl _) p q).elim
 | 0,2,p,q=>exact(key h2 p q).elim
 | 0,3,p,q=>exact(key e3 p q).elim
 | 0,4,p,q=>exact(key e4 p q).elim
 | 1,2,p,q=>exact(key (GW.refl _) p q).elim
 | 1,3,p,q=>exact(key h3 p q).elim
 | 1,4,p,q=>exact(key e5 p q).elim
 | 2,3,p,q=>exact(key (GW.refl _) p q).elim
 | 2,4,p,q=>exact(key h4 p q).elim
 | 3,4,p,q=>exact(key (GW.refl _) p q).elim
 | 1,0,p,q=>exact(key (GW.refl _) q p).elim
 | 2,0,p,q=>exact(key h2 q p).elim
 | 3,0,p,q=>exact(key e3 q p).elim
 | 4,0,p,q=>exact(key e4 q p).elim
 | 2,1,p,q=>exact(key (GW.refl _) q p).elim
 | 3,1,p,q=>exact(key h3 q p).elim
 | 4,1,p,q=>exact(key e5 q p).elim
 | 3,2,p,q=>exact(key (GW.refl _) q p).elim
 | 4,2,p,q=>exact(key h4 q p).elim
 | 4,3,p,q=>exact(key (GW.refl _) q p).elim
 | _+5,_,p,_=>exact p.elim
 | _,_+5,_,q=>exact q.elim
theorem qLC (g:GW) {cs:List Value} {w:Wd} (hw:rWo g cs w) (hb:BgW 1000000 w):Ok Try.prog qnJ [.agg ⟨cs⟩] g (qfR g w):=by
 obtain⟨a,b,c,d,e,rfl,⟨i1,i2,i3⟩,hP,hV,hL,hC,hR⟩:=hw
 obtain⟨⟨z1,z2,z3,z4,z5⟩,z6,z7⟩:=hb
 obtain⟨oa,ca,rfl,a1,a2,a0,hP1⟩:=id hP
 obtain⟨ob,cb,rfl,b1,b2,b0,hV1⟩:=id hV
 obtain⟨oc,cc,rfl,c1,c2,c0,hL1⟩:=id hL
 obtain⟨od,cd,rfl,d1,d2,d0,hC1⟩:=id hC
 obtain⟨oe,ce,rfl,e1,e2,e0,hR1⟩:=id hR
 exact Ok.of_fn hm noT 0 qUJ (args:=[.v (.agg ⟨wQ w oa ca ob cb oc cc od cd oe ce⟩)]) (by
  repeat((conv=>whnf);first|apply qza|apply qzb|apply qzc|apply qzd|apply qze|intro(_:Nat))
  refine .inr ((qCO g _ (GW.refl _) hP (by omega)).mono fun v1 r1 k1 o1=>?_)
  obtain⟨p1,q1,rfl⟩:=qxC o1
  repeat((conv=>whnf);first|apply qza|apply qzb|apply qzc|apply qzd|apply qze|intro(_:Nat))
  refine .inr ((quL g _ k1 hV z2 z7).mono fun v2 r2 k2 o2=>?_)
  obtain⟨p2,q2,rfl⟩:=qxC o2
  have m2:=GW.trans k1 k2
  repeat((conv=>whnf);first|apply qza|apply qzb|apply qzc|apply qzd|apply qze|intro(_:Nat))
  refine .inr ((qAR g _ m2 (hL.mono q7B m2) z3).mono fun v3 r3 k3 o3=>?_)
  obtain⟨p3,q3,rfl⟩:=qxC o3
  have m3:=GW.trans m2 k3
  repeat((conv=>whnf);first|apply qza|apply qzb|apply qzc|apply qzd|apply qze|intro(_:Nat))
  refine .inr ((qAQ g _ m3 (hC.mono q6A m3) z4 z6).mono fun v4 r4 k4 o4=>?_)
  obtain⟨p4,q4,rfl⟩:=qxC o4
  have m4:=GW.trans m3 k4
  repeat((conv=>whnf);first|apply qza|apply qzb|apply qzc|apply qzd|apply qze|intro(_:Nat))
  refine .inr ((q9Q g _ m4 (hR.mono q9C m4) z5).mono fun v5 r5 k5 o5=>?_)
  obtain⟨p5,q5,rfl⟩:=qxC o5
  repeat((conv=>whnf);first|apply qza|apply qzb|apply qzc|apply qzd|apply qze|intro(_:Nat))
  conv=>whnf
  intro g2 hg
  have n5:=hg
  have n4:=GW.trans k5 n5
  have n3:=GW.trans k4 n4
  have n2:=GW.trans k3 n3
  have n1:=GW.trans k2 n2
  exact⟨_,T5 g r1 r2 r3 r4 r5,rfl,_,_,_,_,_,rfl,⟨i1,i2,i3⟩,qdQ k1 k2 k3 k4,qOB (qDB qiC) (GW.vw_up n1 _ _) o1,qOB q6H (GW.vw_up n2 _ _) o2,qOB (qDB q1B) (GW.vw_up n3 _ _) o3,qOB q8H (GW.vw_up n4 _ _) o4,qOB (qDB qMB) (GW.vw_up n5 _ _) o5⟩)
/- Collectors: the steps' table. -/
open Go.Proofs.Ytkbbljngpglnkaa.Sx Go.RowKit
def CoP (w:Wd) (m:Mach) (v:Value) (g':GW):Prop:=∃ cs ms,v=.tuple #[.agg ⟨cs⟩,.agg ⟨ms⟩,.agg ⟨(csE w m).cs⟩]∧rWo g' cs (csW w m)∧qnC g' ms (csM w m)
def tCo:List (Nat×FnI):=[(qzC,q2C),(qtB,qxB),(qOC,qRC),(q9B,qBC),(qsB,qwB),(qcB,qfB),(q0C,q3C),(quB,qyB),(qbB,qeB),(qyC,q1C),(qhF,q4C),(qrC,qvC),(qdG,qfD)]
theorem qiE:qaH Try.prog tCo:=by
 intro x hx
 simp only [tCo,List.mem_cons,List.not_mem_nil,or_false] at hx
 rcases hx with rfl|rfl|rfl|rfl|rfl|rfl|rfl|rfl|rfl|rfl|rfl|rfl|rfl
 ·exact⟨_,_,qcF⟩
 ·exact⟨_,_,qmD⟩
 ·exact⟨_,_,qQE⟩
 ·exact⟨_,_,q4D⟩
 ·exact⟨_,_,qlD⟩
 ·exact⟨_,_,qUD⟩
 ·exact⟨_,_,qdF⟩
 ·exact⟨_,_,qnD⟩
 ·exact⟨_,_,qTD⟩
 ·exact⟨_,_,qbF⟩
 ·exact⟨_,_,qeF⟩
 ·exact⟨_,_,qmC⟩
 ·exact⟨_,_,qPG⟩
abbrev xC (bw bm:Nat):Value:=.agg ⟨[.pointer (some ⟨bw,0,none⟩),.pointer (some ⟨bm,0,none⟩)]⟩
theorem qGA (g:GW) {bw bm:Nat} {t a c v:Int} (h1:Rc g ⟨bm,10,none⟩ (.int .i64 t)):OkV Try.prog qrC [xC bw bm,.int .i64 a,.int .i64 c,.int .i64 v] g (.agg ⟨(⟨t,0,a,c,-1,false,v,false,false,false,ans0⟩:Ev).cs⟩) :=
 Ok.of_fn hm noT 0 qmC (args:=[.v (xC bw bm),.v (.int .i64 a),.v (.int .i64 c),.v (.int .i64 v)]) (by
  repeat((conv=>whnf);first|apply qza|apply qzb|apply qzc|apply qzd|apply qze|intro(_:Nat))
  conv=>whnf
  refine⟨_,h1,?_⟩
  repeat((conv=>whnf);first|apply qza|apply qzb|apply qzc|apply qzd|apply qze|intro(_:Nat))
  conv=>whnf
  intro g2 hg
  rfl)
theorem qNQ {g:GW} {e0 e1 e2 a b c d e:Value} {w:Wd} (h:rWo g [e0,e1,e2,a,b,c,d,e] w) {i:Nat} {x:Listen} (hx:w.listens[i]?=some x):InR x.active:=by
 obtain⟨_,_,hq,_,_,_,hr⟩:=qkL h
 obtain⟨_,_,_,_,hR,_⟩:=hr i x hx
 exact hR.2
/- Collectors: what is safe by an epoch. -/
open Go.Proofs.Ytkbbljngpglnkaa.Sx Go.RowKit
theorem qEO (g:GW) {a n:Int} (ha:InR a):OkV Try.prog qvK [.int .i64 a,.int .i64 n] g (.bool (decide (qUK a n))) :=
 Ok.of_fn hm noT 0 qPK (args:=[.v (.int .i64 a),.v (.int .i64 n)]) (by
  repeat((conv=>whnf);first|apply qza|apply qzb|apply qzc|apply qzd|apply qze|intro(_:Nat))
  conv=>whnf
  refine⟨fun z=>?_,fun z=>?_⟩
  ·have z:a≤9223372036854775805:=of_decide_eq_true z
   have hw1:IntKind.i64.wrap (a+2)=a+2:=by unfold InR at ha;rw [IntKind.wrap_i64];omega
   repeat((conv=>whnf);first|apply qza|apply qzb|apply qzc|apply qzd|apply qze|intro(_:Nat))
   conv=>whnf
   intro g2 hg
   have:qUK a n↔a+2≤n:=⟨fun h=>h.2,fun h=>⟨z,h⟩⟩
   show Value.bool (decide (IntKind.i64.wrap (a+2)≤n))=_
   rw [hw1]
   simp only [this]
  ·have z:¬ a≤9223372036854775805:=of_decide_eq_false z
   repeat((conv=>whnf);first|apply qza|apply qzb|apply qzc|apply qzd|apply qze|intro(_:Nat))
   conv=>whnf
   intro g2 hg
   rw [decide_eq_false fun h:qUK a n=>z h.1])
theorem qjO {m:Mach} (h:m.answer.ok):(ansC m).ok:=⟨by show InR 11;decide,z0,z0,z0,z0,z0,h.n,qNL⟩
theorem qhP {g:GW} {a:Addr} {n cap:Nat} {l:List Retired} (h:rSl 3 qpA g (.slice (some a) n cap) l) {i:Nat} {x:Retired} (hx:l[i]?=some x):(InR x.version∧InR x.at_)∧Rcs g (a.add (i*3)) [.int .i64 x.version,.int .i64 x.at_,.bool x.gone]:=by
 obtain⟨ec,_,⟨rfl,h2⟩,h3⟩:=qZK h hx
 exact⟨h2,h3⟩
/- Collectors: the program's step,place 0. -/
open Go.Proofs.Ytkbbljngpglnkaa.Sx Go.RowKit
theorem q8Q (g:GW) {cs ms:List Value} {w:Wd} {m:Mach} (hw:rWo g cs w) (hM:qnC g ms m) (hsn:SnW w) (hb:BgW 1000000 w) (hgo:cGo w m) (h0:m.pc=0):Ok Try.prog qKA [.agg ⟨cs⟩,.agg ⟨ms⟩] g (CoP w m):=by
 obtain⟨hW9,hM9,hE9⟩:=qXI hgo
 have hs:=hgo.1
 have hmay:=qDE hgo.2.1
 obtain⟨v,gr,en,hS⟩:=id (suitB_iff.1 hs)
 obtain⟨oa,ca,ob,cb,oc,cc,od,cd,oe,ce,o1,t1,o2,t2,o3,t3,rfl,rfl,hw0,hM0,⟨i1,i2,i3⟩,hP,hV,hL,hC,hR,⟨a1,a2,a0,hP1⟩,⟨b1,b2,b0,hV1⟩,⟨c1,c2,c0,hL1⟩,⟨d1,d2,d0,hC1⟩,⟨e1,e2,e0,hR1⟩,hok,hop,hcf⟩:=qRH hw hM
 obtain⟨mop,mth,mpc,mep,mve,mli,mcl,men,mot,msl,mwo,mlk,mi,mk,msu,mdo,man,mco⟩:=m
 simp only at h0
 subst h0
 obtain⟨kW,kM,kE⟩:=cb0 (w:=w) (m:=⟨mop,mth,0,mep,mve,mli,mcl,men,mot,msl,mwo,mlk,mi,mk,msu,mdo,man,mco⟩) rfl
 rw [kW] at hW9
 rw [kM] at hM9
 rw [kE] at hE9
 clear kW kM kE
 exact Ok.of_fn hm qiE 5 qMA (args:=[.v (.agg ⟨wQ w oa ca ob cb oc cc od cd oe ce⟩),.v (.agg ⟨Mach.cs (.slice o1 mop.config.listens.length t1) (.slice o2 mop.config.routes.length t2) (.slice o3 mop.config.clusters.length t3) ⟨mop,mth,0,mep,mve,mli,mcl,men,mot,msl,mwo,mlk,mi,mk,msu,mdo,man,mco⟩⟩)]) (by
  repeat((conv=>whnf);first|apply qza|apply qzb|apply qzc|apply qzd|apply qze|intro(_:Nat))
  conv=>whnf
  refine .inl ⟨_,qVB _ hw0 hM0 hsn hb,?_⟩
  repeat((conv=>whnf);first|apply qza|apply qzb|apply qzc|apply qzd|apply qze|intro(_:Nat))
  conv=>whnf
  refine⟨fun hx=>absurd (hs.symm.trans (nb1 hx)) (by decide),fun _=>?_⟩
  repeat((conv=>whnf);first|apply qza|apply qzb|apply qzc|apply qzd|apply qze|intro(_:Nat))
  conv=>whnf
  refine .inl ⟨_,qkE _ hw0 hM0 hs hb,?_⟩
  repeat((conv=>whnf);first|apply qza|apply qzb|apply qzc|apply qzd|apply qze|intro(_:Nat))
  conv=>whnf
  refine⟨fun hx=>absurd (hmay.symm.trans (nb1 hx)) (by decide),fun _=>?_⟩
  repeat((conv=>whnf);first|apply qza|apply qzb|apply qzc|apply qzd|apply qze|intro(_:Nat))
  refine .inr ((qLC _ hw0 hb).mono fun v g3 hg3 hO=>?_)
  obtain⟨cs,T,rfl,hT⟩:=hO
  have hF:=qAE hT
  obtain⟨oa',ca',ob',cb',oc',cc',od',cd',oe',ce',rfl⟩:=qfA hF
  repeat((conv=>whnf);first|apply qza|apply qzb|apply qzc|apply qzd|apply qze|intro(_:Nat))
  rename_i q7 q8 qx qm
  conv=>whnf
  refine⟨some (.func (.func qzC) ⟨[xC q7 q8]⟩ ⟨[]⟩),rfl,?_⟩
  conv=>whnf
  refine⟨fun h=>(nomatch h),fun _=>?_⟩
  repeat((conv=>whnf);first|apply qza|apply qzb|apply qzc|apply qzd|apply qze|intro(_:Nat))
  conv=>whnf
  refine⟨qjF,[.agg [.p 5 q7 0,.p 6 q8 0]],[],⟨rfl,rfl⟩,?_⟩
  repeat((conv=>whnf);first|apply qza|apply qzb|apply qzc|apply qzd|apply qze|intro(_:Nat))
  refine And.intro (fun z=>?_) (fun z=>?_)
  ·have z:¬ w.lock=0:=bneT z
   rw [if_neg z] at hW9 hM9 hE9
   repeat'((conv=>whnf);first|apply qza|apply qzb|apply qzc|apply qzd|apply qze|intro(_:Nat)|refine⟨_,fun gp hle hin=>qGA gp (hin.cel (id:=6) rfl 10 rfl),?_⟩|refine And.intro ?_ ?_|fail)
   all_goals (conv=>whnf)
   all_goals (first|exact Eq.refl _|(
    intro g2 hg
    refine⟨_,_,by rw [hE9]<;>rfl,by rw [hW9];exact qHA _ _ _ _ hg hF,?_⟩
    rw [hM9]
    exact⟨_,_,_,rfl,{hok with answer:=qcQ (by decide)},hop,qCA _ _ _ _ (GW.trans hg3 hg) hcf⟩))
  ·have z:w.lock=0:=bneF z
   rw [if_pos z] at hW9 hM9 hE9
   have hF1:=qbH hF (x:=1) (by decide)
   repeat'((conv=>whnf);first|apply qza|apply qzb|apply qzc|apply qzd|apply qze|intro(_:Nat)|refine⟨_,fun gp hle hin=>qGA gp (hin.cel (id:=6) rfl 10 rfl),?_⟩|refine And.intro ?_ ?_|fail)
   all_goals (conv=>whnf)
   all_goals (first|exact Eq.refl _|(
    intro g2 hg
    refine⟨_,_,by rw [hE9]<;>rfl,by rw [hW9];exact qHA _ _ _ _ hg hF1,?_⟩
    rw [hM9]
    exact⟨_,_,_,rfl,{hok with pc:=show InR (1:Int) by decide},hop,qCA _ _ _ _ (GW.trans hg3 hg) hcf⟩)))
/- Collectors: the program's step,place 1. -/
open Go.Proofs.Ytkbbljngpglnkaa.Sx Go.RowKit
theorem q7Q (g:GW) {cs ms:List Value} {w:Wd} {m:Mach} (hw:rWo g cs w) (hM:qnC g ms m) (hsn:SnW w) (hb:BgW 1000000 w) (hgo:cGo w m) (h0:m.pc=1):Ok Try.prog qKA [.agg ⟨cs⟩,.agg ⟨ms⟩] g (CoP w m):=by
 obtain⟨hW9,hM9,hE9⟩:=qXI hgo
 have hs:=hgo.1
 have hmay:=qDE hgo.2.1
 obtain⟨v,gr,en,hS⟩:=id (suitB_iff.1 hs)
 obtain⟨oa,ca,ob,cb,oc,cc,od,cd,oe,ce,o1,t1,o2,t2,o3,t3,rfl,rfl,hw0,hM0,⟨i1,i2,i3⟩,hP,hV,hL,hC,hR,⟨a1,a2,a0,hP1⟩,⟨b1,b2,b0,hV1⟩,⟨c1,c2,c0,hL1⟩,⟨d1,d2,d0,hC1⟩,⟨e1,e2,e0,hR1⟩,hok,hop,hcf⟩:=qRH hw hM
 obtain⟨mop,mth,mpc,mep,mve,mli,mcl,men,mot,msl,mwo,mlk,mi,mk,msu,mdo,man,mco⟩:=m
 simp only at h0
 subst h0
 exact Ok.of_fn hm qiE 5 qMA (args:=[.v (.agg ⟨wQ w oa ca ob cb oc cc od cd oe ce⟩),.v (.agg ⟨Mach.cs (.slice o1 mop.config.listens.length t1) (.slice o2 mop.config.routes.length t2) (.slice o3 mop.config.clusters.length t3) ⟨mop,mth,1,mep,mve,mli,mcl,men,mot,msl,mwo,mlk,mi,mk,msu,mdo,man,mco⟩⟩)]) (by
  repeat((conv=>whnf);first|apply qza|apply qzb|apply qzc|apply qzd|apply qze|intro(_:Nat))
  conv=>whnf
  refine .inl ⟨_,qVB _ hw0 hM0 hsn hb,?_⟩
  repeat((conv=>whnf);first|apply qza|apply qzb|apply qzc|apply qzd|apply qze|intro(_:Nat))
  conv=>whnf
  refine⟨fun hx=>absurd (hs.symm.trans (nb1 hx)) (by decide),fun _=>?_⟩
  repeat((conv=>whnf);first|apply qza|apply qzb|apply qzc|apply qzd|apply qze|intro(_:Nat))
  conv=>whnf
  refine .inl ⟨_,qkE _ hw0 hM0 hs hb,?_⟩
  repeat((conv=>whnf);first|apply qza|apply qzb|apply qzc|apply qzd|apply qze|intro(_:Nat))
  conv=>whnf
  refine⟨fun hx=>absurd (hmay.symm.trans (nb1 hx)) (by decide),fun _=>?_⟩
  repeat((conv=>whnf);first|apply qza|apply qzb|apply qzc|apply qzd|apply qze|intro(_:Nat))
  refine .inr ((qLC _ hw0 hb).mono fun v g3 hg3 hO=>?_)
  obtain⟨cs,T,rfl,hT⟩:=hO
  have hF:=qAE hT
  obtain⟨oa',ca',ob',cb',oc',cc',od',cd',oe',ce',rfl⟩:=qfA hF
  repeat((conv=>whnf);first|apply qza|apply qzb|apply qzc|apply qzd|apply qze|intro(_:Nat))
  rename_i q7 q8 qx qm
  conv=>whnf
  refine⟨some (.func (.func qtB) ⟨[xC q7 q8]⟩ ⟨[]⟩),rfl,?_⟩
  conv=>whnf
  refine⟨fun h=>(nomatch h),fun _=>?_⟩
  repeat((conv=>whnf);first|apply qza|apply qzb|apply qzc|apply qzd|apply qze|intro(_:Nat))
  conv=>whnf
  refine⟨qrD,[.agg [.p 5 q7 0,.p 6 q8 0]],[],⟨rfl,rfl⟩,?_⟩
  repeat'((conv=>whnf);first|apply qza|apply qzb|apply qzc|apply qzd|apply qze|intro(_:Nat)|refine⟨_,fun gp hle hin=>qGA gp (hin.cel (id:=6) rfl 10 rfl),?_⟩|refine And.intro ?_ ?_|fail)
  all_goals (conv=>whnf)
  all_goals (first|exact Eq.refl _|(
   intro g2 hg
   obtain⟨kW,kM,kE⟩:=cb1 (w:=w) (m:=⟨mop,mth,1,mep,mve,mli,mcl,men,mot,msl,mwo,mlk,mi,mk,msu,mdo,man,mco⟩) rfl
   refine⟨_,_,by rw [hE9,kE]<;>rfl,by rw [hW9,kW];exact qHA _ _ _ _ hg hF,?_⟩
   rw [hM9,kM]
   exact⟨_,_,_,rfl,{hok with epoch:=i1,pc:=show InR (2:Int) by decide,i:=z0},hop,qCA _ _ _ _ (GW.trans hg3 hg) hcf⟩)))
/- Collectors: the program's step,place 2. -/
open Go.Proofs.Ytkbbljngpglnkaa.Sx Go.RowKit
theorem q6Q (g:GW) {cs ms:List Value} {w:Wd} {m:Mach} (hw:rWo g cs w) (hM:qnC g ms m) (hsn:SnW w) (hb:BgW 1000000 w) (hgo:cGo w m) (h0:m.pc=2):Ok Try.prog qKA [.agg ⟨cs⟩,.agg ⟨ms⟩] g (CoP w m):=by
 obtain⟨hW9,hM9,hE9⟩:=qXI hgo
 have hs:=hgo.1
 have hmay:=qDE hgo.2.1
 obtain⟨v,gr,en,hS⟩:=id (suitB_iff.1 hs)
 obtain⟨oa,ca,ob,cb,oc,cc,od,cd,oe,ce,o1,t1,o2,t2,o3,t3,rfl,rfl,hw0,hM0,⟨i1,i2,i3⟩,hP,hV,hL,hC,hR,⟨a1,a2,a0,hP1⟩,⟨b1,b2,b0,hV1⟩,⟨c1,c2,c0,hL1⟩,⟨d1,d2,d0,hC1⟩,⟨e1,e2,e0,hR1⟩,hok,hop,hcf⟩:=qRH hw hM
 obtain⟨mop,mth,mpc,mep,mve,mli,mcl,men,mot,msl,mwo,mlk,mi,mk,msu,mdo,man,mco⟩:=m
 simp only at h0
 subst h0
 obtain⟨kW,kM,kE⟩:=cb2 (w:=w) (m:=⟨mop,mth,2,mep,mve,mli,mcl,men,mot,msl,mwo,mlk,mi,mk,msu,mdo,man,mco⟩) rfl
 rw [kW] at hW9
 rw [kM] at hM9
 rw [kE] at hE9
 clear kW kM kE
 exact Ok.of_fn hm qiE 5 qMA (args:=[.v (.agg ⟨wQ w oa ca ob cb oc cc od cd oe ce⟩),.v (.agg ⟨Mach.cs (.slice o1 mop.config.listens.length t1) (.slice o2 mop.config.routes.length t2) (.slice o3 mop.config.clusters.length t3) ⟨mop,mth,2,mep,mve,mli,mcl,men,mot,msl,mwo,mlk,mi,mk,msu,mdo,man,mco⟩⟩)]) (by
  repeat((conv=>whnf);first|apply qza|apply qzb|apply qzc|apply qzd|apply qze|intro(_:Nat))
  conv=>whnf
  refine .inl ⟨_,qVB _ hw0 hM0 hsn hb,?_⟩
  repeat((conv=>whnf);first|apply qza|apply qzb|apply qzc|apply qzd|apply qze|intro(_:Nat))
  conv=>whnf
  refine⟨fun hx=>absurd (hs.symm.trans (nb1 hx)) (by decide),fun _=>?_⟩
  repeat((conv=>whnf);first|apply qza|apply qzb|apply qzc|apply qzd|apply qze|intro(_:Nat))
  conv=>whnf
  refine .inl ⟨_,qkE _ hw0 hM0 hs hb,?_⟩
  repeat((conv=>whnf);first|apply qza|apply qzb|apply qzc|apply qzd|apply qze|intro(_:Nat))
  conv=>whnf
  refine⟨fun hx=>absurd (hmay.symm.trans (nb1 hx)) (by decide),fun _=>?_⟩
  repeat((conv=>whnf);first|apply qza|apply qzb|apply qzc|apply qzd|apply qze|intro(_:Nat))
  refine .inr ((qLC _ hw0 hb).mono fun v g3 hg3 hO=>?_)
  obtain⟨cs,T,rfl,hT⟩:=hO
  have hF:=qAE hT
  obtain⟨oa',ca',ob',cb',oc',cc',od',cd',oe',ce',rfl⟩:=qfA hF
  repeat((conv=>whnf);first|apply qza|apply qzb|apply qzc|apply qzd|apply qze|intro(_:Nat))
  rename_i q7 q8 qx qm
  conv=>whnf
  refine⟨some (.func (.func qOC) ⟨[xC q7 q8]⟩ ⟨[]⟩),rfl,?_⟩
  conv=>whnf
  refine⟨fun h=>(nomatch h),fun _=>?_⟩
  repeat((conv=>whnf);first|apply qza|apply qzb|apply qzc|apply qzd|apply qze|intro(_:Nat))
  conv=>whnf
  refine⟨qZE,[.agg [.p 5 q7 0,.p 6 q8 0]],[],⟨rfl,rfl⟩,?_⟩
  have hi0:0≤mi:=hS.i
  have hi1:mi<w.pins.length:=hgo.2.1.1 rfl
  have hll:=hb.1.1
  obtain⟨pp,hpp⟩:=qDA (l:=w.pins) (i:=mi.toNat) (by omega)
  rw [qsQ hpp] at hM9 hE9
  have hFp:=qpQ hF
  obtain⟨ap,rfl⟩:=qUB hFp hpp
  obtain⟨hip,hcp⟩:=qKR hFp hpp
  have hw1:mi+1=IntKind.i64.wrap (mi+1):=by rw [IntKind.wrap_i64];omega
  repeat'((conv=>whnf);first|apply qza|apply qzb|apply qzc|apply qzd|apply qze|intro(_:Nat)|refine⟨_,rfl,⟨by omega,by omega⟩,?_⟩|refine⟨_,hcp 0 _ rfl,?_⟩|fail)
  refine And.intro (fun z1=>?_) (fun z1=>?_)
  ·have z1:pp≠0:=bneT z1
   repeat((conv=>whnf);first|apply qza|apply qzb|apply qzc|apply qzd|apply qze|intro(_:Nat))
   refine And.intro (fun z2=>?_) (fun z2=>?_)
   ·have z2:pp≠wI (mep+1):=bneT z2
    rw [if_pos ⟨z1,z2⟩] at hM9
    repeat'((conv=>whnf);first|apply qza|apply qzb|apply qzc|apply qzd|apply qze|intro(_:Nat)|refine⟨_,fun gp hle hin=>qGA gp (hin.cel (id:=6) rfl 10 rfl),?_⟩|refine And.intro ?_ ?_|fail)
    all_goals (conv=>whnf)
    all_goals (first|exact Eq.refl _|(
     intro g2 hg
     refine⟨_,_,by rw [hE9]<;>rfl,by rw [hW9];exact qHA _ _ _ _ hg hF,?_⟩
     rw [hM9]
     exact⟨_,_,_,rfl,{hok with pc:=show InR (4:Int) by decide,i:=z0},hop,qCA _ _ _ _ (GW.trans hg3 hg) hcf⟩))
   ·have z2:pp=wI (mep+1):=bneF z2
    repeat((conv=>whnf);first|apply qza|apply qzb|apply qzc|apply qzd|apply qze|intro(_:Nat))
    refine And.intro (fun z3=>?_) (fun z3=>?_)
    ·have z3:mi+1<w.pins.length:=by rw [hw1];exact of_decide_eq_true z3
     rw [if_neg (fun h=>h.2 z2),if_pos z3] at hM9
     simp only at hM9
     rw [hw1] at hM9
     repeat'((conv=>whnf);first|apply qza|apply qzb|apply qzc|apply qzd|apply qze|intro(_:Nat)|refine⟨_,fun gp hle hin=>qGA gp (hin.cel (id:=6) rfl 10 rfl),?_⟩|refine And.intro ?_ ?_|fail)
     all_goals (conv=>whnf)
     all_goals (first|exact Eq.refl _|(
      intro g2 hg
      refine⟨_,_,by rw [hE9]<;>rfl,by rw [hW9];exact qHA _ _ _ _ hg hF,?_⟩
      rw [hM9]
      exact⟨_,_,_,rfl,{hok with i:=qAB _},hop,qCA _ _ _ _ (GW.trans hg3 hg) hcf⟩))
    ·have z3:¬ mi+1<w.pins.length:=by rw [hw1];exact of_decide_eq_false z3
     rw [if_neg (fun h=>h.2 z2),if_neg z3] at hM9
     simp only at hM9
     rw [hw1] at hM9
     repeat'((conv=>whnf);first|apply qza|apply qzb|apply qzc|apply qzd|apply qze|intro(_:Nat)|refine⟨_,fun gp hle hin=>qGA gp (hin.cel (id:=6) rfl 10 rfl),?_⟩|refine And.intro ?_ ?_|fail)
     all_goals (conv=>whnf)
     all_goals (first|exact Eq.refl _|(
      intro g2 hg
      refine⟨_,_,by rw [hE9]<;>rfl,by rw [hW9];exact qHA _ _ _ _ hg hF,?_⟩
      rw [hM9]
      exact⟨_,_,_,rfl,{hok with pc:=show InR (3:Int) by decide,i:=qAB _},hop,qCA _ _ _ _ (GW.trans hg3 hg) hcf⟩))
  ·have z1:pp=0:=bneF z1
   repeat((conv=>whnf);first|apply qza|apply qzb|apply qzc|apply qzd|apply qze|intro(_:Nat))
   refine And.intro (fun z3=>?_) (fun z3=>?_)
   ·have z3:mi+1<w.pins.length:=by rw [hw1];exact of_decide_eq_true z3
    rw [if_neg (fun h=>h.1 z1),if_pos z3] at hM9
    simp only at hM9
    rw [hw1] at hM9
    repeat'((conv=>whnf);first|apply qza|apply qzb|apply qzc|apply qzd|apply qze|intro(_:Nat)|refine⟨_,fun gp hle hin=>qGA gp (hin.cel (id:=6) rfl 10 rfl),?_⟩|refine And.intro ?_ ?_|fail)
    all_goals (conv=>whnf)
    all_goals (first|exact Eq.refl _|(
     intro g2 hg
     refine⟨_,_,by rw [hE9]<;>rfl,by rw [hW9];exact qHA _ _ _ _ hg hF,?_⟩
     rw [hM9]
     exact⟨_,_,_,rfl,{hok with i:=qAB _},hop,qCA _ _ _ _ (GW.trans hg3 hg) hcf⟩))
   ·have z3:¬ mi+1<w.pins.length:=by rw [hw1];exact of_decide_eq_false z3
    rw [if_neg (fun h=>h.1 z1),if_neg z3] at hM9
    simp only at hM9
    rw [hw1] at hM9
    repeat'((conv=>whnf);first|apply qza|apply qzb|apply qzc|apply qzd|apply qze|intro(_:Nat)|refine⟨_,fun gp hle hin=>qGA gp (hin.cel (id:=6) rfl 10 rfl),?_⟩|refine And.intro ?_ ?_|fail)
    all_goals (conv=>whnf)
    all_goals (first|exact Eq.refl _|(
     intro g2 hg
     refine⟨_,_,by rw [hE9]<;>rfl,by rw [hW9];exact qHA _ _ _ _ hg hF,?_⟩
     rw [hM9]
     exact⟨_,_,_,rfl,{hok with pc:=show InR (3:Int) by decide,i:=qAB _},hop,qCA _ _ _ _ (GW.trans hg3 hg) hcf⟩)))
/- Collectors: the program's step,place 3. -/
open Go.Proofs.Ytkbbljngpglnkaa.Sx Go.RowKit
theorem q5Q (g:GW) {cs ms:List Value} {w:Wd} {m:Mach} (hw:rWo g cs w) (hM:qnC g ms m) (hsn:SnW w) (hb:BgW 1000000 w) (hgo:cGo w m) (h0:m.pc=3):Ok Try.prog qKA [.agg ⟨cs⟩,.agg ⟨ms⟩] g (CoP w m):=by
 obtain⟨hW9,hM9,hE9⟩:=qXI hgo
 have hs:=hgo.1
 have hmay:=qDE hgo.2.1
 obtain⟨v,gr,en,hS⟩:=id (suitB_iff.1 hs)
 obtain⟨oa,ca,ob,cb,oc,cc,od,cd,oe,ce,o1,t1,o2,t2,o3,t3,rfl,rfl,hw0,hM0,⟨i1,i2,i3⟩,hP,hV,hL,hC,hR,⟨a1,a2,a0,hP1⟩,⟨b1,b2,b0,hV1⟩,⟨c1,c2,c0,hL1⟩,⟨d1,d2,d0,hC1⟩,⟨e1,e2,e0,hR1⟩,hok,hop,hcf⟩:=qRH hw hM
 obtain⟨mop,mth,mpc,mep,mve,mli,mcl,men,mot,msl,mwo,mlk,mi,mk,msu,mdo,man,mco⟩:=m
 simp only at h0
 subst h0
 obtain⟨kW,kM,kE⟩:=cb3 (w:=w) (m:=⟨mop,mth,3,mep,mve,mli,mcl,men,mot,msl,mwo,mlk,mi,mk,msu,mdo,man,mco⟩) rfl
 rw [kW] at hW9
 rw [kM] at hM9
 rw [kE] at hE9
 clear kW kM kE
 exact Ok.of_fn hm qiE 5 qMA (args:=[.v (.agg ⟨wQ w oa ca ob cb oc cc od cd oe ce⟩),.v (.agg ⟨Mach.cs (.slice o1 mop.config.listens.length t1) (.slice o2 mop.config.routes.length t2) (.slice o3 mop.config.clusters.length t3) ⟨mop,mth,3,mep,mve,mli,mcl,men,mot,msl,mwo,mlk,mi,mk,msu,mdo,man,mco⟩⟩)]) (by
  repeat((conv=>whnf);first|apply qza|apply qzb|apply qzc|apply qzd|apply qze|intro(_:Nat))
  conv=>whnf
  refine .inl ⟨_,qVB _ hw0 hM0 hsn hb,?_⟩
  repeat((conv=>whnf);first|apply qza|apply qzb|apply qzc|apply qzd|apply qze|intro(_:Nat))
  conv=>whnf
  refine⟨fun hx=>absurd (hs.symm.trans (nb1 hx)) (by decide),fun _=>?_⟩
  repeat((conv=>whnf);first|apply qza|apply qzb|apply qzc|apply qzd|apply qze|intro(_:Nat))
  conv=>whnf
  refine .inl ⟨_,qkE _ hw0 hM0 hs hb,?_⟩
  repeat((conv=>whnf);first|apply qza|apply qzb|apply qzc|apply qzd|apply qze|intro(_:Nat))
  conv=>whnf
  refine⟨fun hx=>absurd (hmay.symm.trans (nb1 hx)) (by decide),fun _=>?_⟩
  repeat((conv=>whnf);first|apply qza|apply qzb|apply qzc|apply qzd|apply qze|intro(_:Nat))
  refine .inr ((qLC _ hw0 hb).mono fun v g3 hg3 hO=>?_)
  obtain⟨cs,T,rfl,hT⟩:=hO
  have hF:=qAE hT
  obtain⟨oa',ca',ob',cb',oc',cc',od',cd',oe',ce',rfl⟩:=qfA hF
  repeat((conv=>whnf);first|apply qza|apply qzb|apply qzc|apply qzd|apply qze|intro(_:Nat))
  rename_i q7 q8 qx qm
  conv=>whnf
  refine⟨some (.func (.func q9B) ⟨[xC q7 q8]⟩ ⟨[]⟩),rfl,?_⟩
  conv=>whnf
  refine⟨fun h=>(nomatch h),fun _=>?_⟩
  repeat((conv=>whnf);first|apply qza|apply qzb|apply qzc|apply qzd|apply qze|intro(_:Nat))
  conv=>whnf
  refine⟨qEE,[.agg [.p 5 q7 0,.p 6 q8 0]],[],⟨rfl,rfl⟩,?_⟩
  repeat((conv=>whnf);first|apply qza|apply qzb|apply qzc|apply qzd|apply qze|intro(_:Nat))
  refine And.intro (fun z1=>?_) (fun z1=>?_)
  ·have z1:w.epoch=mep:=of_decide_eq_true z1
   repeat((conv=>whnf);first|apply qza|apply qzb|apply qzc|apply qzd|apply qze|intro(_:Nat))
   refine And.intro (fun z2=>?_) (fun z2=>?_)
   ·have z2:w.epoch<1000000000000:=of_decide_eq_true z2
    rw [if_pos ⟨z1,z2⟩] at hW9 hM9 hE9
    have hep:=hS.right
    have hw1:w.epoch+1=IntKind.i64.wrap (w.epoch+1):=by unfold InR at i1;rw [IntKind.wrap_i64];omega
    rw [hw1] at hW9 hM9 hE9
    have hF1:=qzN hF (x:=IntKind.i64.wrap (w.epoch+1)) (qAB _)
    repeat'((conv=>whnf);first|apply qza|apply qzb|apply qzc|apply qzd|apply qze|intro(_:Nat)|refine⟨_,fun gp hle hin=>qGA gp (hin.cel (id:=6) rfl 10 rfl),?_⟩|refine And.intro ?_ ?_|fail)
    all_goals (conv=>whnf)
    all_goals (first|exact Eq.refl _|(
     intro g2 hg
     refine⟨_,_,by rw [hE9]<;>rfl,by rw [hW9];exact qHA _ _ _ _ hg hF1,?_⟩
     rw [hM9]
     exact⟨_,_,_,rfl,{hok with epoch:=qAB _,pc:=show InR (4:Int) by decide,i:=z0},hop,qCA _ _ _ _ (GW.trans hg3 hg) hcf⟩))
   ·have z2:¬ w.epoch<1000000000000:=of_decide_eq_false z2
    rw [if_neg fun h=>z2 h.2] at hW9 hM9 hE9
    repeat'((conv=>whnf);first|apply qza|apply qzb|apply qzc|apply qzd|apply qze|intro(_:Nat)|refine⟨_,fun gp hle hin=>qGA gp (hin.cel (id:=6) rfl 10 rfl),?_⟩|refine And.intro ?_ ?_|fail)
    all_goals (conv=>whnf)
    all_goals (first|exact Eq.refl _|(
     intro g2 hg
     refine⟨_,_,by rw [hE9]<;>rfl,by rw [hW9];exact qHA _ _ _ _ hg hF,?_⟩
     rw [hM9]
     exact⟨_,_,_,rfl,{hok with pc:=show InR (4:Int) by decide,i:=z0},hop,qCA _ _ _ _ (GW.trans hg3 hg) hcf⟩))
  ·have z1:¬ w.epoch=mep:=of_decide_eq_false z1
   rw [if_neg fun h=>z1 h.1] at hW9 hM9 hE9
   repeat'((conv=>whnf);first|apply qza|apply qzb|apply qzc|apply qzd|apply qze|intro(_:Nat)|refine⟨_,fun gp hle hin=>qGA gp (hin.cel (id:=6) rfl 10 rfl),?_⟩|refine And.intro ?_ ?_|fail)
   all_goals (conv=>whnf)
   all_goals (first|exact Eq.refl _|(
    intro g2 hg
    refine⟨_,_,by rw [hE9]<;>rfl,by rw [hW9];exact qHA _ _ _ _ hg hF,?_⟩
    rw [hM9]
    exact⟨_,_,_,rfl,{hok with pc:=show InR (4:Int) by decide,i:=z0},hop,qCA _ _ _ _ (GW.trans hg3 hg) hcf⟩)))
end Go.Proofs.Ytkbbljngpglnkaa
