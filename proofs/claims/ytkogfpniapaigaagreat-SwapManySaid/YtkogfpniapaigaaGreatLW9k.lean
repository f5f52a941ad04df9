/- Worlds: what is cloned: endpoints, groups, versions, rows. -/
import Derived.Test.YtkogfpniapaigaaGreatLW9p
import Derived.Test.YtkogfpniapaigaaGreatPl
import Derived.Test.YtkogfpniapaigaaGreatLK5b
import Derived.Test.YtkogfpniapaigaaGreatLS7
set_option linter.unusedVariables false
set_option linter.unusedSimpArgs false
namespace Go.Proofs.YtkogfpniapaigaaGreat
open Go.Proofs.YtkogfpniapaigaaGreat.Sx Go.RowKit
set_option maxHeartbeats 16000000
set_option maxRecDepth 100000
theorem qbU (g0 g:GW) (h0:g0≤g) {cs:List Value} {x:EndC} (hx:rEn g cs x):Ok Tryz.prog qFC [.agg ⟨[]⟩,.agg ⟨cs⟩] g fun v g'=>∃ cs',v=.agg ⟨cs'⟩∧oEn wT true g' g0.w.heap.size (NEW g g') cs' x:=by
 obtain⟨⟨n,rfl,hH,hA,hN⟩,hsz⟩:=hx
 obtain⟨oa,ca,rfl,a1,a2,a0,hr⟩:=id hN
 exact Ok.of_fn hm noT 0 qIH (args:=[.v (.agg ⟨[]⟩),.v (.agg ⟨[.int .u64 x.head,.slice oa x.next.length ca,.int .i64 x.active]⟩)]) (by
  repeat((conv=>whnf);first|apply qza|apply qzb|apply qzc|apply qzd|apply qze|intro(_:Nat))
  refine .inr ((q8R g0 _ h0 hN hsz).mono fun v g1 hg1 hO=>?_)
  obtain⟨oV,cV,rfl⟩:=qCD hO
  repeat((conv=>whnf);first|apply qza|apply qzb|apply qzc|apply qzd|apply qze|intro(_:Nat))
  conv=>whnf
  intro g2 hg
  exact⟨_,rfl,_,rfl,⟨hH,hA,hsz⟩,.inl (q4E (qNB qlB) hg hO)⟩)
theorem qZU (g0 g:GW) (h0:g0≤g) {v:Value} {l:List EndC} (hl:rSl 3 rEn g v l) (hlen:l.length≤1000000) :Ok Tryz.prog qYC [v,.func (.func qFC) #[] #[],.agg ⟨[]⟩] g fun v' g'=>oSl qSA 3 (oEn wT true) g' g0.w.heap.size (NEW g g') v' l:=by
 obtain⟨oa,ca,rfl,a1,a2,a0,hr⟩:=id hl
 exact Ok.of_fn hm noT 0 qUC (args:=[.v (.slice oa l.length ca),.v (.func (.func qFC) #[] #[]),.v (.agg ⟨[]⟩)]) (by
  repeat((conv=>whnf);first|apply qza|apply qzb|apply qzc|apply qzd|apply qze|intro(_:Nat))
  conv=>whnf
  refine⟨⟨by omega,by omega,by omega,by omega⟩,fun _=>?_⟩
  repeat((conv=>whnf);first|apply qza|apply qzb|apply qzc|apply qzd|apply qze|intro(_:Nat))
  rename_i q0 q1
  conv=>whnf
  refine⟨Nat×List (List Value)×GW,fun (k,_,_)=>[.v (.int .i64 k)],fun (k,ecs,g')=>⟨g',[.row 1 (some ⟨q1,0,none⟩) l.length l.length qSA 3 (rowK ecs [.int .u64 0,.slice none 0 0,.int .i64 0] (l.length-k)),.blk 0 q0 qTC []],10,g.w.heap.size⟩,fun (k,ecs,g')=>k≤l.length∧g≤g'∧oEls 3 (oEn wT true) g g' g0.w.heap.size ecs (l.take k),fun (k,_,_)=>l.length-k,fun fr w hw=>⟨(0,[],g),rfl,⟨Nat.zero_le _,GW.refl _,qmD _ _ _⟩,hw.fit (by simp [fitL,Res.eqv,qAA,conc,rowK])⟩,?_⟩
  rintro⟨k,ecs,g'⟩ ⟨hk,hgg,hE⟩
  have hE0:=hE
  obtain⟨_,⟨hel,hes⟩,_⟩:=hE0
  rw [List.length_take,Nat.min_eq_left hk] at hel
  repeat((conv=>whnf);first|apply qza|apply qzb|apply qzc|apply qzd|apply qze|intro(_:Nat))
  conv=>whnf
  refine⟨fun hlt=>?_,fun hlt=>?_⟩
  ·have h':k<l.length:=by have:=of_decide_eq_true hlt;omega
   obtain⟨x,hx⟩:=qBA h'
   obtain⟨x1,x2⟩:=List.getElem?_eq_some_iff.1 hx
   obtain⟨a,rfl,ec,hec,hxe,hc⟩:=hr k x hx
   have hxe0:=hxe
   obtain⟨⟨nx,rfl,u1,u2,⟨oN,cN,rfl,_⟩⟩,u3⟩:=hxe
   repeat((conv=>whnf);first|apply qza|apply qzb|apply qzc|apply qzd|apply qze|intro(_:Nat))
   conv=>whnf
   refine⟨a,rfl,⟨by omega,by omega⟩,?_⟩
   conv=>whnf
   refine⟨_,⟨rfl,hc.mono hgg⟩,?_⟩
   repeat((conv=>whnf);first|apply qza|apply qzb|apply qzc|apply qzd|apply qze|intro(_:Nat))
   conv=>whnf
   refine⟨.of (by kernel_rfl),?_⟩
   refine .inr ((qbU g0 _ (GW.trans h0 hgg) (qxC _ _ _ _ hgg hxe0)).mono fun v g1 hg1 hO=>?_)
   obtain⟨cs',rfl,hO⟩:=hO
   have hO0:=hO
   obtain⟨nv,rfl,_,hO1⟩:=hO0
   obtain⟨oW,cW,rfl,_⟩:=qvT hO1
   have hlenR:=qFG (m:=l.length-k) (z:=[.int .u64 0,.slice none 0 0,.int .i64 0]) hes rfl
   have hT:l.take (k+1)=l.take k++[x]:=by rw [List.take_succ_eq_append_getElem x1,x2]
   have hset:=qEG (m:=l.length-k) (z:=[.int .u64 0,.slice none 0 0,.int .i64 0]) hes rfl (by omega) (ec:=[.int .u64 x.head,.slice oW x.next.length cW,.int .i64 x.active]) rfl hel.symm
   repeat((conv=>whnf);first|apply qza|apply qzb|apply qzc|apply qzd|apply qze|intro(_:Nat))
   conv=>whnf
   refine⟨⟨by omega,by omega⟩,?_⟩
   repeat((conv=>whnf);first|apply qza|apply qzb|apply qzc|apply qzd|apply qze|intro(_:Nat))
   conv=>whnf
   refine⟨⟨by rw [hlenR,hel];simp;omega,by decide⟩,?_⟩
   repeat((conv=>whnf);first|apply qza|apply qzb|apply qzc|apply qzd|apply qze|intro(_:Nat))
   conv=>whnf
   refine fun fr w hw=>⟨(k+1,ecs++[[.int .u64 x.head,.slice oW x.next.length cW,.int .i64 x.active]],g1),congrArg (fun z=>[Value.int .i64 z]) (wr1 h' a1 a2).symm,⟨h',GW.trans hgg hg1,by rw [hT];exact q4C q2K hgg hg1 hE rfl hO⟩,dec h',hw.fit ?_⟩
   rw [show l.length-(k+1)=l.length-k-1 by omega]
   simp [fitL,Res.eqv,qAA,conc,← hset]
  have hkL:k=l.length:=by have:=of_decide_eq_false hlt;omega
  subst hkL
  rw [List.take_length] at hE
  repeat((conv=>whnf);first|apply qza|apply qzb|apply qzc|apply qzd|apply qze|intro(_:Nat))
  conv=>whnf
  refine fun g1 hg1 hn1 hp1=>?_
  rw [Nat.sub_self,qlF] at hp1
  conv=>whnf
  intro g2 hg
  exact q4E q2K hg (qDD q2K hE hgg hg1 (hp1.lo_le h0.1) rfl hn1))
theorem q9R (g0 g:GW) (h0:g0≤g) {cs:List Value} {x:Group} (hx:rGr g cs x) (hb:BgG 1000000 x):Ok Tryz.prog qgB [.agg ⟨[]⟩,.agg ⟨cs⟩] g fun v g'=>∃ cs',v=.agg ⟨cs'⟩∧oGr wT true g' g0.w.heap.size (NEW g g') cs' x:=by
 obtain⟨n,rfl,hH,hN⟩:=hx
 obtain⟨oa,ca,rfl,a1,a2,a0,hr⟩:=id hN
 exact Ok.of_fn hm noT 0 qcF (args:=[.v (.agg ⟨[]⟩),.v (.agg ⟨[.int .u64 x.ticket,.slice oa x.ends.length ca]⟩)]) (by
  repeat((conv=>whnf);first|apply qza|apply qzb|apply qzc|apply qzd|apply qze|intro(_:Nat))
  refine .inr ((qZU g0 _ h0 hN hb).mono fun v g1 hg1 hO=>?_)
  obtain⟨oV,cV,rfl⟩:=qCD hO
  repeat((conv=>whnf);first|apply qza|apply qzb|apply qzc|apply qzd|apply qze|intro(_:Nat))
  conv=>whnf
  intro g2 hg
  exact⟨_,rfl,_,rfl,hH,q4E q2K hg hO⟩)
theorem q7R (g0 g:GW) (h0:g0≤g) {v:Value} {l:List Group} (hl:rSl 2 rGr g v l) (hlen:l.length≤1000000) (hb:∀ y∈l,BgG 1000000 y):Ok Tryz.prog qDC [v,.func (.func qgB) #[] #[],.agg ⟨[]⟩] g fun v' g'=>oSl qLA 2 (oGr wT true) g' g0.w.heap.size (NEW g g') v' l:=by
 obtain⟨oa,ca,rfl,a1,a2,a0,hr⟩:=id hl
 exact Ok.of_fn hm noT 0 qCC (args:=[.v (.slice oa l.length ca),.v (.func (.func qgB) #[] #[]),.v (.agg ⟨[]⟩)]) (by
  repeat((conv=>whnf);first|apply qza|apply qzb|apply qzc|apply qzd|apply qze|intro(_:Nat))
  conv=>whnf
  refine⟨⟨by omega,by omega,by omega,by omega⟩,fun _=>?_⟩
  repeat((conv=>whnf);first|apply qza|apply qzb|apply qzc|apply qzd|apply qze|intro(_:Nat))
  rename_i q0 q1
  conv=>whnf
  refine⟨Nat×List (List Value)×GW,fun (k,_,_)=>[.v (.int .i64 k)],fun (k,ecs,g')=>⟨g',[.row 1 (some ⟨q1,0,none⟩) l.length l.length qLA 2 (rowK ecs [.int .u64 0,.slice none 0 0] (l.length-k)),.blk 0 q0 qTC []],10,g.w.heap.size⟩,fun (k,ecs,g')=>k≤l.length∧g≤g'∧oEls 2 (oGr wT true) g g' g0.w.heap.size ecs (l.take k),fun (k,_,_)=>l.length-k,fun fr w hw=>⟨(0,[],g),rfl,⟨Nat.zero_le _,GW.refl _,qmD _ _ _⟩,hw.fit (by simp [fitL,Res.eqv,qAA,conc,rowK])⟩,?_⟩
  rintro⟨k,ecs,g'⟩ ⟨hk,hgg,hE⟩
  have hE0:=hE
  obtain⟨_,⟨hel,hes⟩,_⟩:=hE0
  rw [List.length_take,Nat.min_eq_left hk] at hel
  repeat((conv=>whnf);first|apply qza|apply qzb|apply qzc|apply qzd|apply qze|intro(_:Nat))
  conv=>whnf
  refine⟨fun hlt=>?_,fun hlt=>?_⟩
  ·have h':k<l.length:=by have:=of_decide_eq_true hlt;omega
   obtain⟨x,hx⟩:=qBA h'
   obtain⟨x1,x2⟩:=List.getElem?_eq_some_iff.1 hx
   obtain⟨a,rfl,ec,hec,hxe,hc⟩:=hr k x hx
   have hxe0:=hxe
   obtain⟨nx,rfl,u1,⟨oN,cN,rfl,_⟩⟩:=hxe
   repeat((conv=>whnf);first|apply qza|apply qzb|apply qzc|apply qzd|apply qze|intro(_:Nat))
   conv=>whnf
   refine⟨a,rfl,⟨by omega,by omega⟩,?_⟩
   conv=>whnf
   refine⟨_,⟨rfl,hc.mono hgg⟩,?_⟩
   repeat((conv=>whnf);first|apply qza|apply qzb|apply qzc|apply qzd|apply qze|intro(_:Nat))
   conv=>whnf
   refine⟨.of (by kernel_rfl),?_⟩
   refine .inr ((q9R g0 _ (GW.trans h0 hgg) (qwC _ _ _ _ hgg hxe0) (hb x (List.mem_of_getElem? hx))).mono fun v g1 hg1 hO=>?_)
   obtain⟨cs',rfl,hO⟩:=hO
   have hO0:=hO
   obtain⟨nv,rfl,_,hO1⟩:=hO0
   obtain⟨oW,cW,rfl⟩:=qCD hO1
   have hlenR:=qFG (m:=l.length-k) (z:=[.int .u64 0,.slice none 0 0]) hes rfl
   have hT:l.take (k+1)=l.take k++[x]:=by rw [List.take_succ_eq_append_getElem x1,x2]
   have hset:=qEG (m:=l.length-k) (z:=[.int .u64 0,.slice none 0 0]) hes rfl (by omega) (ec:=[.int .u64 x.ticket,.slice oW x.ends.length cW]) rfl hel.symm
   repeat((conv=>whnf);first|apply qza|apply qzb|apply qzc|apply qzd|apply qze|intro(_:Nat))
   conv=>whnf
   refine⟨⟨by omega,by omega⟩,?_⟩
   repeat((conv=>whnf);first|apply qza|apply qzb|apply qzc|apply qzd|apply qze|intro(_:Nat))
   conv=>whnf
   refine⟨⟨by rw [hlenR,hel];simp;omega,by decide⟩,?_⟩
   repeat((conv=>whnf);first|apply qza|apply qzb|apply qzc|apply qzd|apply qze|intro(_:Nat))
   conv=>whnf
   refine fun fr w hw=>⟨(k+1,ecs++[[.int .u64 x.ticket,.slice oW x.ends.length cW]],g1),congrArg (fun z=>[Value.int .i64 z]) (wr1 h' a1 a2).symm,⟨h',GW.trans hgg hg1,by rw [hT];exact q4C q1K hgg hg1 hE rfl hO⟩,dec h',hw.fit ?_⟩
   rw [show l.length-(k+1)=l.length-k-1 by omega]
   simp [fitL,Res.eqv,qAA,conc,← hset]
  have hkL:k=l.length:=by have:=of_decide_eq_false hlt;omega
  subst hkL
  rw [List.take_length] at hE
  repeat((conv=>whnf);first|apply qza|apply qzb|apply qzc|apply qzd|apply qze|intro(_:Nat))
  conv=>whnf
  refine fun g1 hg1 hn1 hp1=>?_
  rw [Nat.sub_self,qlF] at hp1
  conv=>whnf
  intro g2 hg
  exact q4E q1K hg (qDD q1K hE hgg hg1 (hp1.lo_le h0.1) rfl hn1))
theorem qQP (g0 g:GW) (h0:g0≤g) {cs:List Value} {x:Version} (hx:rVe g0 cs x) (hb:BgV 1000000 x):Ok Tryz.prog qQB [.agg ⟨[]⟩,.agg ⟨cs⟩] g fun v g'=>∃ cs',v=.agg ⟨cs'⟩∧oVe wT true g' g0.w.heap.size (NEW g g') cs' x:=by
 obtain⟨a,b,d,n,rfl,hS,hN⟩:=hx
 have hS0:=hS
 obtain⟨_,_,_,he,⟨oa',ca',rfl,_⟩,⟨ob',cb',rfl,_⟩,⟨od',cd',rfl,_⟩⟩:=hS
 cases he
 obtain⟨oa,ca,rfl,a1,a2,a0,hr⟩:=id hN
 exact Ok.of_fn hm noT 0 qcE (args:=[.v (.agg ⟨[]⟩),.v (.agg ⟨[.slice oa' x.snap.listens.length ca',.slice ob' x.snap.rules.length cb',.slice od' x.snap.clusters.length cd',.slice oa x.groups.length ca,.bool x.freed]⟩)]) (by
  repeat((conv=>whnf);first|apply qza|apply qzb|apply qzc|apply qzd|apply qze|intro(_:Nat))
  refine .inr ((q7R g0 _ h0 (hN.mono qwC h0) hb.1 hb.2).mono fun v g1 hg1 hO=>?_)
  obtain⟨oV,cV,rfl⟩:=qCD hO
  repeat((conv=>whnf);first|apply qza|apply qzb|apply qzc|apply qzd|apply qze|intro(_:Nat))
  conv=>whnf
  intro g2 hg
  exact⟨_,rfl,_,_,_,_,rfl,qkB _ _ _ _ (GW.le_vw (GW.trans h0 (GW.trans hg1 hg)) (Nat.le_refl _)) hS0,q4E q1K hg hO⟩)
theorem qPP (g0 g:GW) (h0:g0≤g) {v:Value} {l:List Version} (hl:rSl 5 rVe g0 v l) (hlen:l.length≤1000000) (hb:∀ y∈l,BgV 1000000 y):Ok Tryz.prog qyB [v,.func (.func qQB) #[] #[],.agg ⟨[]⟩] g fun v' g'=>oSl qCA 5 (oVe wT true) g' g0.w.heap.size (NEW g g') v' l:=by
 obtain⟨oa,ca,rfl,a1,a2,a0,hr⟩:=id hl
 exact Ok.of_fn hm noT 0 qwB (args:=[.v (.slice oa l.length ca),.v (.func (.func qQB) #[] #[]),.v (.agg ⟨[]⟩)]) (by
  repeat((conv=>whnf);first|apply qza|apply qzb|apply qzc|apply qzd|apply qze|intro(_:Nat))
  conv=>whnf
  refine⟨⟨by omega,by omega,by omega,by omega⟩,fun _=>?_⟩
  repeat((conv=>whnf);first|apply qza|apply qzb|apply qzc|apply qzd|apply qze|intro(_:Nat))
  rename_i q0 q1
  conv=>whnf
  refine⟨Nat×List (List Value)×GW,fun (k,_,_)=>[.v (.int .i64 k)],fun (k,ecs,g')=>⟨g',[.row 1 (some ⟨q1,0,none⟩) l.length l.length qCA 5 (rowK ecs [.slice none 0 0,.slice none 0 0,.slice none 0 0,.slice none 0 0,.bool false] (l.length-k)),.blk 0 q0 qTC []],10,g.w.heap.size⟩,fun (k,ecs,g')=>k≤l.length∧g≤g'∧oEls 5 (oVe wT true) g g' g0.w.heap.size ecs (l.take k),fun (k,_,_)=>l.length-k,fun fr w hw=>⟨(0,[],g),rfl,⟨Nat.zero_le _,GW.refl _,qmD _ _ _⟩,hw.fit (by simp [fitL,Res.eqv,qAA,conc,rowK])⟩,?_⟩
  rintro⟨k,ecs,g'⟩ ⟨hk,hgg,hE⟩
  have hE0:=hE
  obtain⟨_,⟨hel,hes⟩,_⟩:=hE0
  rw [List.length_take,Nat.min_eq_left hk] at hel
  repeat((conv=>whnf);first|apply qza|apply qzb|apply qzc|apply qzd|apply qze|intro(_:Nat))
  conv=>whnf
  refine⟨fun hlt=>?_,fun hlt=>?_⟩
  ·have h':k<l.length:=by have:=of_decide_eq_true hlt;omega
   obtain⟨x,hx⟩:=qBA h'
   obtain⟨x1,x2⟩:=List.getElem?_eq_some_iff.1 hx
   obtain⟨a,rfl,ec,hec,hxe,hc⟩:=hr k x hx
   have hxe0:=hxe
   obtain⟨sa,sb,sd,nx,rfl,⟨_,_,_,hee,⟨oa',ca',rfl,_⟩,⟨ob',cb',rfl,_⟩,⟨od',cd',rfl,_⟩⟩,⟨oN,cN,rfl,_⟩⟩:=hxe
   cases hee
   repeat((conv=>whnf);first|apply qza|apply qzb|apply qzc|apply qzd|apply qze|intro(_:Nat))
   conv=>whnf
   refine⟨a,rfl,⟨by omega,by omega⟩,?_⟩
   conv=>whnf
   refine⟨_,⟨rfl,hc.mono (GW.trans h0 hgg)⟩,?_⟩
   repeat((conv=>whnf);first|apply qza|apply qzb|apply qzc|apply qzd|apply qze|intro(_:Nat))
   conv=>whnf
   refine⟨.of (by kernel_rfl),?_⟩
   refine .inr ((qQP g0 _ (GW.trans h0 hgg) hxe0 (hb x (List.mem_of_getElem? hx))).mono fun v g1 hg1 hO=>?_)
   obtain⟨cs',rfl,hO⟩:=hO
   have hO0:=hO
   obtain⟨ua,ub,ud,nv,rfl,⟨_,_,_,hee,⟨oa2,ca2,rfl,_⟩,⟨ob2,cb2,rfl,_⟩,⟨od2,cd2,rfl,_⟩⟩,hO1⟩:=hO0
   cases hee
   obtain⟨oW,cW,rfl⟩:=qCD hO1
   have hlenR:=qFG (m:=l.length-k) (z:=[.slice none 0 0,.slice none 0 0,.slice none 0 0,.slice none 0 0,.bool false]) hes rfl
   have hT:l.take (k+1)=l.take k++[x]:=by rw [List.take_succ_eq_append_getElem x1,x2]
   have hset:=qEG (m:=l.length-k) (z:=[.slice none 0 0,.slice none 0 0,.slice none 0 0,.slice none 0 0,.bool false]) hes rfl (by omega) (ec:=[.slice oa2 x.snap.listens.length ca2,.slice ob2 x.snap.rules.length cb2,.slice od2 x.snap.clusters.length cd2,.slice oW x.groups.length cW,.bool x.freed]) rfl hel.symm
   repeat((conv=>whnf);first|apply qza|apply qzb|apply qzc|apply qzd|apply qze|intro(_:Nat))
   conv=>whnf
   refine⟨⟨by omega,by omega⟩,?_⟩
   repeat((conv=>whnf);first|apply qza|apply qzb|apply qzc|apply qzd|apply qze|intro(_:Nat))
   conv=>whnf
   refine⟨⟨by rw [hlenR,hel];simp;omega,by decide⟩,?_⟩
   repeat((conv=>whnf);first|apply qza|apply qzb|apply qzc|apply qzd|apply qze|intro(_:Nat))
   conv=>whnf
   refine fun fr w hw=>⟨(k+1,ecs++[[.slice oa2 x.snap.listens.length ca2,.slice ob2 x.snap.rules.length cb2,.slice od2 x.snap.clusters.length cd2,.slice oW x.groups.length cW,.bool x.freed]],g1),congrArg (fun z=>[Value.int .i64 z]) (wr1 h' a1 a2).symm,⟨h',GW.trans hgg hg1,by rw [hT];exact q4C q3J hgg hg1 hE rfl hO⟩,dec h',hw.fit ?_⟩
   rw [show l.length-(k+1)=l.length-k-1 by omega]
   simp [fitL,Res.eqv,qAA,conc,← hset]
  have hkL:k=l.length:=by have:=of_decide_eq_false hlt;omega
  subst hkL
  rw [List.take_length] at hE
  repeat((conv=>whnf);first|apply qza|apply qzb|apply qzc|apply qzd|apply qze|intro(_:Nat))
  conv=>whnf
  refine fun g1 hg1 hn1 hp1=>?_
  rw [Nat.sub_self,qlF] at hp1
  conv=>whnf
  intro g2 hg
  exact q4E q3J hg (qDD q3J hE hgg hg1 (hp1.lo_le h0.1) rfl hn1))
theorem qaU (g0 g:GW) (h0:g0≤g) {v:Value} {x:List Int} (hx:rSl 1 rU64 g v x) (hb:x.length≤17592186044416):Ok Tryz.prog qEC [.agg ⟨[]⟩,v] g fun v' g'=>oSl q0C 1 (oLf rU64) g' g0.w.heap.size (NEW g g') v' x:=by
 obtain⟨oa,ca,rfl,a1,a2,a0,hr⟩:=id hx
 exact Ok.of_fn hm noT 0 qHH (args:=[.v (.agg ⟨[]⟩),.v (.slice oa x.length ca)]) (by
  repeat((conv=>whnf);first|apply qza|apply qzb|apply qzc|apply qzd|apply qze|intro(_:Nat))
  refine .inr ((ok_cU g0 _ h0 hx hb).mono fun v g1 hg1 hO=>?_)
  obtain⟨oV,cV,rfl⟩:=qCD hO
  repeat((conv=>whnf);first|apply qza|apply qzb|apply qzc|apply qzd|apply qze|intro(_:Nat))
  conv=>whnf
  intro g2 hg
  exact q4E (qNB qHG) hg hO)
theorem qYU (g0 g:GW) (h0:g0≤g) {v:Value} {l:List (List Int)} (hl:rSl 1 rRow g v l) (hlen:l.length≤1000000) (hb:∀ y∈l,y.length≤1000000):Ok Tryz.prog qQC [v,.func (.func qEC) #[] #[],.agg ⟨[]⟩] g fun v' g'=>oSl qKB 1 (oRo wT) g' g0.w.heap.size (NEW g g') v' l:=by
 obtain⟨oa,ca,rfl,a1,a2,a0,hr⟩:=id hl
 exact Ok.of_fn hm noT 0 qOC (args:=[.v (.slice oa l.length ca),.v (.func (.func qEC) #[] #[]),.v (.agg ⟨[]⟩)]) (by
  repeat((conv=>whnf);first|apply qza|apply qzb|apply qzc|apply qzd|apply qze|intro(_:Nat))
  conv=>whnf
  refine⟨⟨by omega,by omega,by omega,by omega⟩,fun _=>?_⟩
  repeat((conv=>whnf);first|apply qza|apply qzb|apply qzc|apply qzd|apply qze|intro(_:Nat))
  rename_i q0 q1
  conv=>whnf
  refine⟨Nat×List (List Value)×GW,fun (k,_,_)=>[.v (.int .i64 k)],fun (k,ecs,g')=>⟨g',[.row 1 (some ⟨q1,0,none⟩) l.length l.length qKB 1 (rowK ecs [.slice none 0 0] (l.length-k)),.blk 0 q0 qTC []],10,g.w.heap.size⟩,fun (k,ecs,g')=>k≤l.length∧g≤g'∧oEls 1 (oRo wT) g g' g0.w.heap.size ecs (l.take k),fun (k,_,_)=>l.length-k,fun fr w hw=>⟨(0,[],g),rfl,⟨Nat.zero_le _,GW.refl _,qmD _ _ _⟩,hw.fit (by simp [fitL,Res.eqv,qAA,conc,rowK])⟩,?_⟩
  rintro⟨k,ecs,g'⟩ ⟨hk,hgg,hE⟩
  have hE0:=hE
  obtain⟨_,⟨hel,hes⟩,_⟩:=hE0
  rw [List.length_take,Nat.min_eq_left hk] at hel
  repeat((conv=>whnf);first|apply qza|apply qzb|apply qzc|apply qzd|apply qze|intro(_:Nat))
  conv=>whnf
  refine⟨fun hlt=>?_,fun hlt=>?_⟩
  ·have h':k<l.length:=by have:=of_decide_eq_true hlt;omega
   obtain⟨x,hx⟩:=qBA h'
   obtain⟨x1,x2⟩:=List.getElem?_eq_some_iff.1 hx
   obtain⟨a,rfl,ec,hec,hxe,hc⟩:=hr k x hx
   have hxe0:=hxe
   obtain⟨nx,rfl,hN⟩:=hxe
   have hN0:=hN
   obtain⟨oN,cN,rfl,_⟩:=hN
   repeat((conv=>whnf);first|apply qza|apply qzb|apply qzc|apply qzd|apply qze|intro(_:Nat))
   conv=>whnf
   refine⟨a,rfl,⟨by omega,by omega⟩,?_⟩
   conv=>whnf
   refine⟨_,hc.mono hgg 0 _ rfl,?_⟩
   repeat((conv=>whnf);first|apply qza|apply qzb|apply qzc|apply qzd|apply qze|intro(_:Nat))
   conv=>whnf
   refine⟨.of (by kernel_rfl),?_⟩
   refine .inr ((qaU g0 _ (GW.trans h0 hgg) (hN0.mono qqK hgg) (by have:=hb x (List.mem_of_getElem? hx);omega)).mono fun v g1 hg1 hO=>?_)
   obtain⟨oW,cW,rfl⟩:=qCD hO
   have hlenR:=qFG (m:=l.length-k) (z:=[.slice none 0 0]) hes rfl
   have hT:l.take (k+1)=l.take k++[x]:=by rw [List.take_succ_eq_append_getElem x1,x2]
   have hset:=qEG (m:=l.length-k) (z:=[.slice none 0 0]) hes rfl (by omega) (ec:=[.slice oW x.length cW]) rfl hel.symm
   repeat((conv=>whnf);first|apply qza|apply qzb|apply qzc|apply qzd|apply qze|intro(_:Nat))
   conv=>whnf
   refine⟨⟨by omega,by omega⟩,?_⟩
   repeat((conv=>whnf);first|apply qza|apply qzb|apply qzc|apply qzd|apply qze|intro(_:Nat))
   conv=>whnf
   refine⟨⟨by rw [hlenR,hel];simp;omega,by decide⟩,?_⟩
   repeat((conv=>whnf);first|apply qza|apply qzb|apply qzc|apply qzd|apply qze|intro(_:Nat))
   conv=>whnf
   refine fun fr w hw=>⟨(k+1,ecs++[[.slice oW x.length cW]],g1),congrArg (fun z=>[Value.int .i64 z]) (wr1 h' a1 a2).symm,⟨h',GW.trans hgg hg1,by rw [hT];exact q4C q4J hgg hg1 hE rfl ⟨_,rfl,hO⟩⟩,dec h',hw.fit ?_⟩
   rw [show l.length-(k+1)=l.length-k-1 by omega]
   simp [fitL,Res.eqv,qAA,conc,← hset]
  have hkL:k=l.length:=by have:=of_decide_eq_false hlt;omega
  subst hkL
  rw [List.take_length] at hE
  repeat((conv=>whnf);first|apply qza|apply qzb|apply qzc|apply qzd|apply qze|intro(_:Nat))
  conv=>whnf
  refine fun g1 hg1 hn1 hp1=>?_
  rw [Nat.sub_self,qlF] at hp1
  conv=>whnf
  intro g2 hg
  exact q4E q4J hg (qDD q4J hE hgg hg1 (hp1.lo_le h0.1) rfl hn1))
/- Worlds: clones. -/
open Go.Proofs.YtkogfpniapaigaaGreat.Sx Go.RowKit
def q4T (g:GW) (w:Wd) (v:Value) (g':GW):Prop:=∃ cs T,v=.agg ⟨cs⟩∧oWo wT true g' g.w.heap.size T cs w
def T5 (g1 g2 g3 g4 g5 g6:GW):Nat→Nat→Prop:=fun i n=>match i with
 | 0=>NEW g1 g2 n
 | 1=>NEW g2 g3 n
 | 2=>NEW g3 g4 n
 | 3=>NEW g4 g5 n
 | 4=>NEW g5 g6 n
 | _=>False
theorem qzU {g1 g2 g3 g4 g5 g6:GW} (h1:g1≤g2) (h2:g2≤g3) (h3:g3≤g4) (h4:g4≤g5) (i j n:Nat) (p:T5 g1 g2 g3 g4 g5 g6 i n) (q:T5 g1 g2 g3 g4 g5 g6 j n):i=j:=by
 have e3:=GW.trans h2 h3
 have e4:=GW.trans e3 h4
 have e5:=GW.trans h3 h4
 have key:∀ {a b c d:GW},b≤c→NEW a b n→NEW c d n→False:=fun k p q=>q.2 (k.2 n p.1).1
 match i,j,p,q with
 | 0,0,_,_=>rfl
 | 1,1,_,_=>rfl
 | 2,2,_,_=>rfl
 | 3,3,_,_=>rfl
 | 4,4,_,_=>rfl
 | 0,1,p,q=>exact(key (GW.refl _) p q).elim
 | 0,2,p,q=>exact(key h2 p q).elim
 | 0,3,p,q=>exact(key e3 p q).elim
 | 0,4,p,q=>exact(key e4 p q).elim
 | 1,2,p,q=>exact(key (GW.refl _) p q).elim
 | 1,3,p,q=>exact(key h3 p q).elim
 | 1,4,p,q=>exact(key e5 p q).elim
 | 2,3,p,q=>exact(key (GW.refl _) p q).elim
 | 2,4,p,q=>exact(key h4 p q).elim
 | 3,4,p,q=>exact(key (GW.refl _) p q).elim
 | 1,0,p,q=>exact(key (GW.refl _) q p).elim
 | 2,0,p,q=>exact(key h2 q p).elim
 | 3,0,p,q=>exact(key e3 q p).elim
 | 4,0,p,q=>exact(key e4 q p).elim
 | 2,1,p,q=>exact(key (GW.refl _) q p).elim
 | 3,1,p,q=>exact(key h3 q p).elim
 | 4,1,p,q=>exact(key e5 q p).elim
 | 3,2,p,q=>exact(key (GW.refl _) q p).elim
 | 4,2,p,q=>exact(key h4 q p).elim
 | 4,3,p,q=>exact(key (GW.refl _) q p).elim
 | _+5,_,p,_=>exact p.elim
 | _,_+5,_,q=>exact q.elim
theorem qEQ (g:GW) {cs:List Value} {w:Wd} (hw:rWo g cs w) (hb:BgW 1000000 w):Ok Tryz.prog qyM [.agg ⟨cs⟩] g (q4T g w):=by
 obtain⟨a,b,c,d,e,rfl,⟨i1,i2,i3⟩,hP,hV,hL,hC,hR⟩:=hw
 obtain⟨⟨z1,z2,z3,z4,z5⟩,z6,z7⟩:=hb
 obtain⟨oa,ca,rfl,a1,a2,a0,hP1⟩:=id hP
 obtain⟨ob,cb,rfl,b1,b2,b0,hV1⟩:=id hV
 obtain⟨oc,cc,rfl,c1,c2,c0,hL1⟩:=id hL
 obtain⟨od,cd,rfl,d1,d2,d0,hC1⟩:=id hC
 obtain⟨oe,ce,rfl,e1,e2,e0,hR1⟩:=id hR
 exact Ok.of_fn hm noT 0 qUM (args:=[.v (.agg ⟨wQ w oa ca ob cb oc cc od cd oe ce⟩)]) (by
  repeat((conv=>whnf);first|apply qza|apply qzb|apply qzc|apply qzd|apply qze|intro(_:Nat))
  refine .inr ((q8R g _ (GW.refl _) hP (by omega)).mono fun v1 r1 k1 o1=>?_)
  obtain⟨p1,q1,rfl⟩:=qCD o1
  repeat((conv=>whnf);first|apply qza|apply qzb|apply qzc|apply qzd|apply qze|intro(_:Nat))
  refine .inr ((qPP g _ k1 hV z2 z7).mono fun v2 r2 k2 o2=>?_)
  obtain⟨p2,q2,rfl⟩:=qCD o2
  have m2:=GW.trans k1 k2
  repeat((conv=>whnf);first|apply qza|apply qzb|apply qzc|apply qzd|apply qze|intro(_:Nat))
  refine .inr ((qYV g _ m2 (hL.mono qjA m2) z3).mono fun v3 r3 k3 o3=>?_)
  obtain⟨p3,q3,rfl⟩:=qCD o3
  have m3:=GW.trans m2 k3
  repeat((conv=>whnf);first|apply qza|apply qzb|apply qzc|apply qzd|apply qze|intro(_:Nat))
  refine .inr ((qYU g _ m3 (hC.mono q1A m3) z4 z6).mono fun v4 r4 k4 o4=>?_)
  obtain⟨p4,q4,rfl⟩:=qCD o4
  have m4:=GW.trans m3 k4
  repeat((conv=>whnf);first|apply qza|apply qzb|apply qzc|apply qzd|apply qze|intro(_:Nat))
  refine .inr ((qXV g _ m4 (hR.mono qvA m4) z5).mono fun v5 r5 k5 o5=>?_)
  obtain⟨p5,q5,rfl⟩:=qCD o5
  repeat((conv=>whnf);first|apply qza|apply qzb|apply qzc|apply qzd|apply qze|intro(_:Nat))
  conv=>whnf
  intro g2 hg
  have n5:=hg
  have n4:=GW.trans k5 n5
  have n3:=GW.trans k4 n4
  have n2:=GW.trans k3 n3
  have n1:=GW.trans k2 n2
  exact⟨_,T5 g r1 r2 r3 r4 r5,rfl,_,_,_,_,_,rfl,⟨i1,i2,i3⟩,qzU k1 k2 k3 k4,qKC (qNB qlB) (GW.vw_up n1 _ _) o1,qKC q3J (GW.vw_up n2 _ _) o2,qKC (qNB qPB) (GW.vw_up n3 _ _) o3,qKC q4J (GW.vw_up n4 _ _) o4,qKC (qNB q5A) (GW.vw_up n5 _ _) o5⟩)
/- Worlds: clones,the document's answer. -/
open Go.Proofs.YtkogfpniapaigaaGreat.Sx Go.RowKit
def chG (a b c d e f h i:GW):Nat→GW
 | 0=>a
 | 1=>b
 | 2=>c
 | 3=>d
 | 4=>e
 | 5=>f
 | 6=>h
 | _=>i
def labR:Nat→Nat
 | 0=>1
 | 1=>3
 | 2=>0
 | 3=>1
 | 4=>2
 | 5=>3
 | _=>4
theorem qoV {a b c d e f h i:GW} (k1:a≤b) (k2:b≤c) (k3:c≤d) (k4:d≤e) (k5:e≤f) (k6:f≤h) (k7:h≤i):∀ n,n<7→chG a b c d e f h i n≤chG a b c d e f h i (n+1)
 | 0,_=>k1
 | 1,_=>k2
 | 2,_=>k3
 | 3,_=>k4
 | 4,_=>k5
 | 5,_=>k6
 | 6,_=>k7
 | n+7,h=>absurd h (by omega)
theorem qxK (g:GW) {cs:List Value} {w:Wd} (hw:rWo g cs w) (hb:BgW 1000000 w):Ok Tryz.prog qhG [.agg ⟨cs⟩] g (q4T g w):=by
 obtain⟨a,b,c,d,e,rfl,⟨i1,i2,i3⟩,hP,hV,hL,hC,hR⟩:=hw
 obtain⟨⟨z1,z2,z3,z4,z5⟩,z6,z7⟩:=hb
 obtain⟨oa,ca,rfl,a1,a2,a0,hP1⟩:=id hP
 obtain⟨ob,cb,rfl,b1,b2,b0,hV1⟩:=id hV
 obtain⟨oc,cc,rfl,c1,c2,c0,hL1⟩:=id hL
 obtain⟨od,cd,rfl,d1,d2,d0,hC1⟩:=id hC
 obtain⟨oe,ce,rfl,e1,e2,e0,hR1⟩:=id hR
 have rdP:=qZI hP cI1 fun _ _ h=>h.1
 have rdL:=qZI hL cLi fun _ _ h=>h.1
 have rdR:=qZI hR cRe fun _ _ h=>h.1
 exact Ok.of_fn hm noT 0 qSG (args:=[.v (.agg ⟨wQ w oa ca ob cb oc cc od cd oe ce⟩)]) (by
  repeat((conv=>whnf);first|apply qza|apply qzb|apply qzc|apply qzd|apply qze|intro(_:Nat)|intro(_:OA)_)
  conv=>whnf
  refine⟨⟨rfl,rfl,rfl,rfl,Nat.zero_le _⟩,?_⟩
  conv=>whnf
  refine⟨_,⟨rdP,qoM fun _ _=>rfl⟩,?_⟩
  repeat((conv=>whnf);first|apply qza|apply qzb|apply qzc|apply qzd|apply qze|intro(_:Nat)|intro(_:OA)_)
  conv=>whnf
  refine⟨⟨by unfold maxLen;omega,by omega⟩,fun oP cP=>?_⟩
  repeat((conv=>whnf);first|apply qza|apply qzb|apply qzc|apply qzd|apply qze|intro(_:Nat)|intro(_:OA)_)
  rename_i q0 q1 q2 qP qV
  conv=>whnf
  refine⟨Nat×List (List Value)×Option Addr×Nat×GW,fun (k,_,_,_,_)=>[.v (.int .i64 k)],fun (k,ecs,oX,cX,g')=>⟨g',[.row 10 oX k cX qCA 5 ecs.flatten,.row 4 oP w.pins.length cP qNA 1 (w.pins.map cI1).flatten,.blk 2 q2 qEA [.v (.int .i64 w.epoch),.v (.int .i64 w.current),.v (.int .i64 w.lock),.row 4 oP w.pins.length cP,.row 10 oX k cX,.v (.slice oc w.listens.length cc),.v (.slice od w.counts.length cd),.v (.slice oe w.limbo.length ce)],.blk 1 q1 qEA [.v (.int .i64 0),.v (.int .i64 0),.v (.int .i64 0),.v (.slice none 0 0),.v (.slice none 0 0),.v (.slice none 0 0),.v (.slice none 0 0),.v (.slice none 0 0)],.blk 0 q0 qEA [.v (.int .i64 w.epoch),.v (.int .i64 w.current),.v (.int .i64 w.lock),.v (.slice oa w.pins.length ca),.v (.slice ob w.versions.length cb),.v (.slice oc w.listens.length cc),.v (.slice od w.counts.length cd),.v (.slice oe w.limbo.length ce)]],20,g.w.heap.size⟩,fun (k,ecs,_,_,g')=>k≤w.versions.length∧g≤g'∧oEls 5 (oVe wT true) g g' g.w.heap.size ecs (w.versions.take k),fun (k,_,_,_,_)=>w.versions.length-k,fun fr w' hw=>⟨(0,[],some ⟨qV,0,none⟩,0,g),rfl,⟨Nat.zero_le _,GW.refl _,qmD _ _ _⟩,(hw.blk_row (nx':=20) (id':=10) 0 5 rfl (Nat.zero_le _)).fit (by simp [fitL,Res.eqv,qAA,conc])⟩,?_⟩
  rintro⟨k,ecs,oX,cX,g'⟩ ⟨hk,hgg,hE⟩
  repeat((conv=>whnf);first|apply qza|apply qzb|apply qzc|apply qzd|apply qze|intro(_:Nat)|intro(_:OA)_)
  conv=>whnf
  refine⟨fun hlt=>?_,fun hlt=>?_⟩
  ·have h':k<w.versions.length:=by have:=of_decide_eq_true hlt;omega
   obtain⟨x,hx⟩:=qBA h'
   obtain⟨x1,x2⟩:=List.getElem?_eq_some_iff.1 hx
   obtain⟨a,rfl,ec,hec,⟨va,vb,vd,nx,rfl,hS,hG⟩,hc⟩:=hV1 k x hx
   have hS0:=hS
   obtain⟨_,_,_,hee,⟨sa,ta,rfl,_⟩,⟨sb,tb,rfl,_⟩,⟨sd,td,rfl,_⟩⟩:=hS
   cases hee
   obtain⟨og,cg,rfl,f1,f2,f0,hG1⟩:=id hG
   have hbV:=z7 x (List.mem_of_getElem? hx)
   have hbV1:=hbV.1
   repeat((conv=>whnf);first|apply qza|apply qzb|apply qzc|apply qzd|apply qze|intro(_:Nat)|intro(_:OA)_)
   conv=>whnf
   refine⟨a,rfl,⟨by omega,by omega⟩,?_⟩
   conv=>whnf
   refine⟨_,⟨rfl,hc.mono hgg⟩,?_⟩
   repeat((conv=>whnf);first|apply qza|apply qzb|apply qzc|apply qzd|apply qze|intro(_:Nat)|intro(_:OA)_)
   rename_i qv qg
   conv=>whnf
   refine⟨Nat×List (List Value)×Option Addr×Nat×GW,fun (j,_,_,_,_)=>[.v (.int .i64 j)],fun (j,ecs2,oG,cG,g2)=>⟨g2,[.row 30 oG j cG qLA 2 ecs2.flatten,.blk 20 qv qCA [.v (.slice sa x.snap.listens.length ta),.v (.slice sb x.snap.rules.length tb),.v (.slice sd x.snap.clusters.length td),.row 30 oG j cG,.v (.bool x.freed)],.row 10 oX k cX qCA 5 ecs.flatten,.row 4 oP w.pins.length cP qNA 1 (w.pins.map cI1).flatten,.blk 2 q2 qEA [.v (.int .i64 w.epoch),.v (.int .i64 w.current),.v (.int .i64 w.lock),.row 4 oP w.pins.length cP,.row 10 oX k cX,.v (.slice oc w.listens.length cc),.v (.slice od w.counts.length cd),.v (.slice oe w.limbo.length ce)],.blk 1 q1 qEA [.v (.int .i64 0),.v (.int .i64 0),.v (.int .i64 0),.v (.slice none 0 0),.v (.slice none 0 0),.v (.slice none 0 0),.v (.slice none 0 0),.v (.slice none 0 0)],.blk 0 q0 qEA [.v (.int .i64 w.epoch),.v (.int .i64 w.current),.v (.int .i64 w.lock),.v (.slice oa w.pins.length ca),.v (.slice (some a) w.versions.length cb),.v (.slice oc w.listens.length cc),.v (.slice od w.counts.length cd),.v (.slice oe w.limbo.length ce)]],40,g.w.heap.size⟩,fun (j,ecs2,_,_,g2)=>j≤x.groups.length∧g'≤g2∧oEls 2 (oGr wT true) g' g2 g.w.heap.size ecs2 (x.groups.take j),fun (j,_,_,_,_)=>x.groups.length-j,fun fr w' hw=>⟨(0,[],some ⟨qg,0,none⟩,0,g'),rfl,⟨Nat.zero_le _,GW.refl _,qmD _ _ _⟩,(hw.blk_row (nx':=40) (id':=30) 0 2 rfl (Nat.zero_le _)).fit (by simp [fitL,Res.eqv,qAA,conc])⟩,?_⟩
   rintro⟨j,ecs2,oG,cG,g2⟩ ⟨hj,hg2,hE2⟩
   have hgg2:=GW.trans hgg hg2
   repeat((conv=>whnf);first|apply qza|apply qzb|apply qzc|apply qzd|apply qze|intro(_:Nat)|intro(_:OA)_)
   conv=>whnf
   refine⟨a,rfl,⟨by omega,by omega⟩,?_⟩
   conv=>whnf
   refine⟨_,hc.mono hgg2 3 _ rfl,?_⟩
   repeat((conv=>whnf);first|apply qza|apply qzb|apply qzc|apply qzd|apply qze|intro(_:Nat)|intro(_:OA)_)
   conv=>whnf
   refine⟨fun hlt2=>?_,fun hlt2=>?_⟩
   ·have h2:j<x.groups.length:=by have:=of_decide_eq_true hlt2;omega
    obtain⟨y,hy⟩:=qBA h2
    obtain⟨y1,y2⟩:=List.getElem?_eq_some_iff.1 hy
    obtain⟨aG,rfl,ecG,hecG,⟨nE,rfl,ht,hEn⟩,hcG⟩:=hG1 j y hy
    obtain⟨oe2,ce2,rfl,p1,p2,p0,hEn1⟩:=id hEn
    have hbG:y.ends.length≤1000000:=hbV.2 y (List.mem_of_getElem? hy)
    repeat((conv=>whnf);first|apply qza|apply qzb|apply qzc|apply qzd|apply qze|intro(_:Nat)|intro(_:OA)_)
    conv=>whnf
    refine⟨a,rfl,⟨by omega,by omega⟩,?_⟩
    conv=>whnf
    refine⟨_,hc.mono hgg2 3 _ rfl,?_⟩
    repeat((conv=>whnf);first|apply qza|apply qzb|apply qzc|apply qzd|apply qze|intro(_:Nat)|intro(_:OA)_)
    conv=>whnf
    refine⟨aG,rfl,⟨by omega,by omega⟩,?_⟩
    conv=>whnf
    refine⟨_,⟨rfl,hcG.mono hgg2⟩,?_⟩
    repeat((conv=>whnf);first|apply qza|apply qzb|apply qzc|apply qzd|apply qze|intro(_:Nat)|intro(_:OA)_)
    rename_i qgr qe
    conv=>whnf
    refine⟨Nat×List (List Value)×Option Addr×Nat×GW,fun (n,_,_,_,_)=>[.v (.int .i64 n)],fun (n,ecs3,oE,cE,g3)=>⟨g3,[.row 50 oE n cE qSA 3 ecs3.flatten,.blk 40 qgr qLA [.v (.int .u64 y.ticket),.row 50 oE n cE],.row 30 oG j cG qLA 2 ecs2.flatten,.blk 20 qv qCA [.v (.slice sa x.snap.listens.length ta),.v (.slice sb x.snap.rules.length tb),.v (.slice sd x.snap.clusters.length td),.row 30 oG j cG,.v (.bool x.freed)],.row 10 oX k cX qCA 5 ecs.flatten,.row 4 oP w.pins.length cP qNA 1 (w.pins.map cI1).flatten,.blk 2 q2 qEA [.v (.int .i64 w.epoch),.v (.int .i64 w.current),.v (.int .i64 w.lock),.row 4 oP w.pins.length cP,.row 10 oX k cX,.v (.slice oc w.listens.length cc),.v (.slice od w.counts.length cd),.v (.slice oe w.limbo.length ce)],.blk 1 q1 qEA [.v (.int .i64 0),.v (.int .i64 0),.v (.int .i64 0),.v (.slice none 0 0),.v (.slice none 0 0),.v (.slice none 0 0),.v (.slice none 0 0),.v (.slice none 0 0)],.blk 0 q0 qEA [.v (.int .i64 w.epoch),.v (.int .i64 w.current),.v (.int .i64 w.lock),.v (.slice oa w.pins.length ca),.v (.slice (some a) w.versions.length cb),.v (.slice oc w.listens.length cc),.v (.slice od w.counts.length cd),.v (.slice oe w.limbo.length ce)]],60,g.w.heap.size⟩,fun (n,ecs3,_,_,g3)=>n≤y.ends.length∧g2≤g3∧oEls 3 (oEn wT true) g2 g3 g.w.heap.size ecs3 (y.ends.take n),fun (n,_,_,_,_)=>y.ends.length-n,fun fr w' hw=>⟨(0,[],some ⟨qe,0,none⟩,0,g2),rfl,⟨Nat.zero_le _,GW.refl _,qmD _ _ _⟩,(hw.blk_row (nx':=60) (id':=50) 0 3 rfl (Nat.zero_le _)).fit (by simp [fitL,Res.eqv,qAA,conc])⟩,?_⟩
    rintro⟨n,ecs3,oE,cE,g3⟩ ⟨hn,hg3,hE3⟩
    have hgg3:=GW.trans hgg2 hg3
    repeat((conv=>whnf);first|apply qza|apply qzb|apply qzc|apply qzd|apply qze|intro(_:Nat)|intro(_:OA)_)
    conv=>whnf
    refine⟨a,rfl,⟨by omega,by omega⟩,?_⟩
    conv=>whnf
    refine⟨_,hc.mono hgg3 3 _ rfl,?_⟩
    repeat((conv=>whnf);first|apply qza|apply qzb|apply qzc|apply qzd|apply qze|intro(_:Nat)|intro(_:OA)_)
    conv=>whnf
    refine⟨aG,rfl,⟨by omega,by omega⟩,?_⟩
    conv=>whnf
    refine⟨_,hcG.mono hgg3 1 _ rfl,?_⟩
    repeat((conv=>whnf);first|apply qza|apply qzb|apply qzc|apply qzd|apply qze|intro(_:Nat)|intro(_:OA)_)
    conv=>whnf
    refine⟨fun hlt3=>?_,fun hlt3=>?_⟩
    ·have h3:n<y.ends.length:=by have:=of_decide_eq_true hlt3;omega
     obtain⟨e,he⟩:=qBA h3
     obtain⟨w1,w2⟩:=List.getElem?_eq_some_iff.1 he
     obtain⟨aE,rfl,ecE,hecE,⟨⟨nN,rfl,u1,u2,hN⟩,u3⟩,hcE⟩:=hEn1 n e he
     obtain⟨oN,cN,rfl,n1,n2,n0,hN1⟩:=id hN
     have rdN:=(qZI hN cI1 fun _ _ h=>h.1).mono hgg3
     repeat((conv=>whnf);first|apply qza|apply qzb|apply qzc|apply qzd|apply qze|intro(_:Nat)|intro(_:OA)_)
     conv=>whnf
     refine⟨a,rfl,⟨by omega,by omega⟩,?_⟩
     conv=>whnf
     refine⟨_,hc.mono hgg3 3 _ rfl,?_⟩
     repeat((conv=>whnf);first|apply qza|apply qzb|apply qzc|apply qzd|apply qze|intro(_:Nat)|intro(_:OA)_)
     conv=>whnf
     refine⟨aG,rfl,⟨by omega,by omega⟩,?_⟩
     conv=>whnf
     refine⟨_,hcG.mono hgg3 1 _ rfl,?_⟩
     repeat((conv=>whnf);first|apply qza|apply qzb|apply qzc|apply qzd|apply qze|intro(_:Nat)|intro(_:OA)_)
     conv=>whnf
     refine⟨aE,rfl,⟨by omega,by omega⟩,?_⟩
     conv=>whnf
     refine⟨_,⟨rfl,hcE.mono hgg3⟩,?_⟩
     repeat((conv=>whnf);first|apply qza|apply qzb|apply qzc|apply qzd|apply qze|intro(_:Nat)|intro(_:OA)_)
     conv=>whnf
     refine⟨⟨rfl,rfl,rfl,rfl,Nat.zero_le _⟩,?_⟩
     conv=>whnf
     refine⟨_,⟨rdN,qoM fun _ _=>rfl⟩,?_⟩
     repeat((conv=>whnf);first|apply qza|apply qzb|apply qzc|apply qzd|apply qze|intro(_:Nat)|intro(_:OA)_)
     conv=>whnf
     refine⟨⟨by unfold maxLen;omega,by omega⟩,fun oM cM=>?_⟩
     repeat((conv=>whnf);first|apply qza|apply qzb|apply qzc|apply qzd|apply qze|intro(_:Nat)|intro(_:OA)_)
     conv=>whnf
     refine fun g4 hg4 hn4 hp4=>?_
     simp only [Nat.zero_add,List.nil_append] at hp4
     have hInt:∀ z∈e.next,(cI1 z).length=1∧rInt g3 (cI1 z) z:=fun z hz=>by
      obtain⟨m,hm'⟩:=List.getElem?_of_mem hz
      obtain⟨_,_,_,_,⟨_,hh⟩,_⟩:=hN1 m z hm'
      exact⟨rfl,rfl,hh⟩
     have hO4:=qDD (qNB qlB) (qXC (sz:=1) (r:=rInt) g3 g3 g.w.heap.size cI1 e.next hInt) (GW.refl _) hg4 hp4 rfl hn4
     have hT3:y.ends.take (n+1)=y.ends.take n++[e]:=by rw [List.take_succ_eq_append_getElem w1,w2]
     have hE4:=q4C q2K hg3 hg4 hE3 (ec:=[.int .u64 e.head,.slice oM e.next.length cM,.int .i64 e.active]) (x:=e) rfl ⟨_,rfl,⟨u1,u2,u3⟩,.inl hO4⟩
     repeat((conv=>whnf);first|apply qza|apply qzb|apply qzc|apply qzd|apply qze|intro(_:Nat)|intro(_:OA)_)
     conv=>whnf
     refine⟨⟨by unfold maxLen;omega,by omega⟩,fun oa2 cap2=>?_⟩
     repeat((conv=>whnf);first|apply qza|apply qzb|apply qzc|apply qzd|apply qze|intro(_:Nat)|intro(_:OA)_)
     conv=>whnf
     refine fun fr w' hw=>⟨(n+1,ecs3++[[.int .u64 e.head,.slice oM e.next.length cM,.int .i64 e.active]],oa2,cap2,g4),congrArg (fun z=>[Value.int .i64 z]) (wr1 h3 p1 p2).symm,⟨h3,GW.trans hg3 hg4,by rw [hT3];exact hE4⟩,dec h3,hw.fit (by simp [fitL,Res.eqv,qAA,conc])⟩
    have hnL:n=y.ends.length:=by have:=of_decide_eq_false hlt3;omega
    subst hnL
    rw [List.take_length] at hE3
    repeat((conv=>whnf);first|apply qza|apply qzb|apply qzc|apply qzd|apply qze|intro(_:Nat)|intro(_:OA)_)
    conv=>whnf
    refine fun g4 hg4 hn4 hp4=>?_
    have hO4:=qDD q2K hE3 hg3 hg4 hp4 rfl hn4
    have hT2:x.groups.take (j+1)=x.groups.take j++[y]:=by rw [List.take_succ_eq_append_getElem y1,y2]
    have hE4:=q4C q1K hg2 (GW.trans hg3 hg4) hE2 (ec:=[.int .u64 y.ticket,.slice oE y.ends.length cE]) (x:=y) rfl ⟨_,rfl,ht,hO4⟩
    repeat((conv=>whnf);first|apply qza|apply qzb|apply qzc|apply qzd|apply qze|intro(_:Nat)|intro(_:OA)_)
    conv=>whnf
    refine⟨⟨by unfold maxLen;omega,by omega⟩,fun oa2 cap2=>?_⟩
    repeat((conv=>whnf);first|apply qza|apply qzb|apply qzc|apply qzd|apply qze|intro(_:Nat)|intro(_:OA)_)
    conv=>whnf
    refine fun fr w' hw=>⟨(j+1,ecs2++[[.int .u64 y.ticket,.slice oE y.ends.length cE]],oa2,cap2,g4),congrArg (fun z=>[Value.int .i64 z]) (wr1 h2 f1 f2).symm,⟨h2,GW.trans hg2 (GW.trans hg3 hg4),by rw [hT2];exact hE4⟩,dec h2,hw.fit (by simp [fitL,Res.eqv,qAA,conc])⟩
   have hjL:j=x.groups.length:=by have:=of_decide_eq_false hlt2;omega
   subst hjL
   rw [List.take_length] at hE2
   repeat((conv=>whnf);first|apply qza|apply qzb|apply qzc|apply qzd|apply qze|intro(_:Nat)|intro(_:OA)_)
   conv=>whnf
   refine fun g4 hg4 hn4 hp4=>?_
   have hO4:=qDD q1K hE2 hg2 hg4 hp4 rfl hn4
   have hT1:w.versions.take (k+1)=w.versions.take k++[x]:=by rw [List.take_succ_eq_append_getElem x1,x2]
   have hE4:=q4C q3J hgg (GW.trans hg2 hg4) hE (ec:=[.slice sa x.snap.listens.length ta,.slice sb x.snap.rules.length tb,.slice sd x.snap.clusters.length td,.slice oG x.groups.length cG,.bool x.freed]) (x:=x) rfl ⟨_,_,_,_,rfl,qkB _ _ _ _ (GW.le_vw (GW.trans hgg2 hg4) (Nat.le_refl _)) hS0,hO4⟩
   repeat((conv=>whnf);first|apply qza|apply qzb|apply qzc|apply qzd|apply qze|intro(_:Nat)|intro(_:OA)_)
   conv=>whnf
   refine⟨⟨by unfold maxLen;omega,by omega⟩,fun oa2 cap2=>?_⟩
   repeat((conv=>whnf);first|apply qza|apply qzb|apply qzc|apply qzd|apply qze|intro(_:Nat)|intro(_:OA)_)
   conv=>whnf
   refine fun fr w' hw=>⟨(k+1,ecs++[[.slice sa x.snap.listens.length ta,.slice sb x.snap.rules.length tb,.slice sd x.snap.clusters.length td,.slice oG x.groups.length cG,.bool x.freed]],oa2,cap2,g4),congrArg (fun z=>[Value.int .i64 z]) (wr1 h' b1 b2).symm,⟨h',GW.trans hgg (GW.trans hg2 hg4),by rw [hT1];exact hE4⟩,dec h',hw.fit (by simp [fitL,Res.eqv,qAA,conc])⟩
  have hkL:k=w.versions.length:=by have:=of_decide_eq_false hlt;omega
  subst hkL
  rw [List.take_length] at hE
  clear hlt hk
  repeat((conv=>whnf);first|apply qza|apply qzb|apply qzc|apply qzd|apply qze|intro(_:Nat)|intro(_:OA)_)
  conv=>whnf
  refine⟨⟨rfl,rfl,rfl,rfl,Nat.zero_le _⟩,?_⟩
  conv=>whnf
  refine⟨_,⟨rdL.mono hgg,qoM fun _ _=>rfl⟩,?_⟩
  repeat((conv=>whnf);first|apply qza|apply qzb|apply qzc|apply qzd|apply qze|intro(_:Nat)|intro(_:OA)_)
  conv=>whnf
  refine⟨⟨by unfold maxLen;omega,by omega⟩,fun oL cL=>?_⟩
  repeat((conv=>whnf);first|apply qza|apply qzb|apply qzc|apply qzd|apply qze|intro(_:Nat)|intro(_:OA)_)
  rename_i qL qC
  conv=>whnf
  refine⟨Nat×List (List Value)×Option Addr×Nat×GW,fun (k,_,_,_,_)=>[.v (.int .i64 k)],fun (k,ecs4,oC,cC,g5)=>⟨g5,[.row 70 oC k cC qKB 1 ecs4.flatten,.row 21 oL w.listens.length cL qbA 4 (w.listens.map cLi).flatten,.row 10 oX w.versions.length cX qCA 5 ecs.flatten,.row 4 oP w.pins.length cP qNA 1 (w.pins.map cI1).flatten,.blk 2 q2 qEA [.v (.int .i64 w.epoch),.v (.int .i64 w.current),.v (.int .i64 w.lock),.row 4 oP w.pins.length cP,.row 10 oX w.versions.length cX,.row 21 oL w.listens.length cL,.row 70 oC k cC,.v (.slice oe w.limbo.length ce)],.blk 1 q1 qEA [.v (.int .i64 0),.v (.int .i64 0),.v (.int .i64 0),.v (.slice none 0 0),.v (.slice none 0 0),.v (.slice none 0 0),.v (.slice none 0 0),.v (.slice none 0 0)],.blk 0 q0 qEA [.v (.int .i64 w.epoch),.v (.int .i64 w.current),.v (.int .i64 w.lock),.v (.slice oa w.pins.length ca),.v (.slice ob w.versions.length cb),.v (.slice oc w.listens.length cc),.v (.slice od w.counts.length cd),.v (.slice oe w.limbo.length ce)]],80,g.w.heap.size⟩,fun (k,ecs4,_,_,g5)=>k≤w.counts.length∧g'≤g5∧oEls 1 (oRo wT) g' g5 g.w.heap.size ecs4 (w.counts.take k),fun (k,_,_,_,_)=>w.counts.length-k,fun fr w' hw=>⟨(0,[],some ⟨qC,0,none⟩,0,g'),rfl,⟨Nat.zero_le _,GW.refl _,qmD _ _ _⟩,(hw.blk_row (nx':=80) (id':=70) 0 1 rfl (Nat.zero_le _)).fit (by simp [fitL,Res.eqv,qAA,conc])⟩,?_⟩
  rintro⟨k,ecs4,oC,cC,g5⟩ ⟨hk,hg5,hE5⟩
  have hgg5:=GW.trans hgg hg5
  repeat((conv=>whnf);first|apply qza|apply qzb|apply qzc|apply qzd|apply qze|intro(_:Nat)|intro(_:OA)_)
  conv=>whnf
  refine⟨fun hlt=>?_,fun hlt=>?_⟩
  ·have h':k<w.counts.length:=by have:=of_decide_eq_true hlt;omega
   obtain⟨x,hx⟩:=qBA h'
   obtain⟨x1,x2⟩:=List.getElem?_eq_some_iff.1 hx
   obtain⟨a,rfl,ec,hec,⟨nx,rfl,hN⟩,hc⟩:=hC1 k x hx
   obtain⟨oN,cN,rfl,n1,n2,n0,hN1⟩:=id hN
   have hbx:=z6 x (List.mem_of_getElem? hx)
   have rdN:=(qZI hN cU1 fun _ _ h=>h.1).mono hgg5
   repeat((conv=>whnf);first|apply qza|apply qzb|apply qzc|apply qzd|apply qze|intro(_:Nat)|intro(_:OA)_)
   conv=>whnf
   refine⟨a,rfl,⟨by omega,by omega⟩,?_⟩
   conv=>whnf
   refine⟨_,hc.mono hgg5 0 _ rfl,?_⟩
   repeat((conv=>whnf);first|apply qza|apply qzb|apply qzc|apply qzd|apply qze|intro(_:Nat)|intro(_:OA)_)
   conv=>whnf
   refine⟨⟨rfl,rfl,rfl,rfl,Nat.zero_le _⟩,?_⟩
   conv=>whnf
   refine⟨_,⟨rdN,qoM fun _ _=>rfl⟩,?_⟩
   repeat((conv=>whnf);first|apply qza|apply qzb|apply qzc|apply qzd|apply qze|intro(_:Nat)|intro(_:OA)_)
   conv=>whnf
   refine⟨⟨by unfold maxLen;omega,by omega⟩,fun oM cM=>?_⟩
   repeat((conv=>whnf);first|apply qza|apply qzb|apply qzc|apply qzd|apply qze|intro(_:Nat)|intro(_:OA)_)
   conv=>whnf
   refine fun g6 hg6 hn6 hp6=>?_
   simp only [Nat.zero_add,List.nil_append] at hp6
   have hInt:∀ z∈x,(cU1 z).length=1∧rU64 g5 (cU1 z) z:=fun z hz=>by
    obtain⟨m,hm'⟩:=List.getElem?_of_mem hz
    obtain⟨_,_,_,_,⟨_,hh⟩,_⟩:=hN1 m z hm'
    exact⟨rfl,rfl,hh⟩
   have hO6:=qDD (qNB qHG) (qXC (sz:=1) (r:=rU64) g5 g5 g.w.heap.size cU1 x hInt) (GW.refl _) hg6 hp6 rfl hn6
   have hT1:w.counts.take (k+1)=w.counts.take k++[x]:=by rw [List.take_succ_eq_append_getElem x1,x2]
   have hE6:=q4C q4J hg5 hg6 hE5 (ec:=[.slice oM x.length cM]) (x:=x) rfl ⟨_,rfl,hO6⟩
   repeat((conv=>whnf);first|apply qza|apply qzb|apply qzc|apply qzd|apply qze|intro(_:Nat)|intro(_:OA)_)
   conv=>whnf
   refine⟨⟨by unfold maxLen;omega,by omega⟩,fun oa2 cap2=>?_⟩
   repeat((conv=>whnf);first|apply qza|apply qzb|apply qzc|apply qzd|apply qze|intro(_:Nat)|intro(_:OA)_)
   conv=>whnf
   refine fun fr w' hw=>⟨(k+1,ecs4++[[.slice oM x.length cM]],oa2,cap2,g6),congrArg (fun z=>[Value.int .i64 z]) (wr1 h' d1 d2).symm,⟨h',GW.trans hg5 hg6,by rw [hT1];exact hE6⟩,dec h',hw.fit (by simp [fitL,Res.eqv,qAA,conc])⟩
  have hkL:k=w.counts.length:=by have:=of_decide_eq_false hlt;omega
  subst hkL
  rw [List.take_length] at hE5
  clear hlt hk
  repeat((conv=>whnf);first|apply qza|apply qzb|apply qzc|apply qzd|apply qze|intro(_:Nat)|intro(_:OA)_)
  conv=>whnf
  refine⟨⟨rfl,rfl,rfl,rfl,Nat.zero_le _⟩,?_⟩
  conv=>whnf
  refine⟨_,⟨rdR.mono hgg5,qoM fun _ _=>rfl⟩,?_⟩
  repeat((conv=>whnf);first|apply qza|apply qzb|apply qzc|apply qzd|apply qze|intro(_:Nat)|intro(_:OA)_)
  conv=>whnf
  refine⟨⟨by unfold maxLen;omega,by omega⟩,fun oR cR=>?_⟩
  repeat((conv=>whnf);first|apply qza|apply qzb|apply qzc|apply qzd|apply qze|intro(_:Nat)|intro(_:OA)_)
  conv=>whnf
  refine fun gA kA nA pA=>?_
  repeat((conv=>whnf);first|apply qza|apply qzb|apply qzc|apply qzd|apply qze|intro(_:Nat)|intro(_:OA)_)
  conv=>whnf
  refine fun gB kB nB pB=>?_
  repeat((conv=>whnf);first|apply qza|apply qzb|apply qzc|apply qzd|apply qze|intro(_:Nat)|intro(_:OA)_)
  conv=>whnf
  refine fun gC kC nC pC=>?_
  repeat((conv=>whnf);first|apply qza|apply qzb|apply qzc|apply qzd|apply qze|intro(_:Nat)|intro(_:OA)_)
  conv=>whnf
  refine fun gD kD nD pD=>?_
  repeat((conv=>whnf);first|apply qza|apply qzb|apply qzc|apply qzd|apply qze|intro(_:Nat)|intro(_:OA)_)
  conv=>whnf
  refine fun gE kE nE pE=>?_
  conv=>whnf
  intro g2 hg
  have k5:=hg
  have mA:=GW.trans hg5 kA
  have mB:=GW.trans mA kB
  have mC:=GW.trans kB kC
  have uA:=GW.trans kB (GW.trans kC (GW.trans kD (GW.trans kE hg)))
  have uB:=GW.trans kC (GW.trans kD (GW.trans kE hg))
  have uC:=GW.trans kD (GW.trans kE hg)
  have uD:=GW.trans kE hg
  have up:∀ {a b:GW} {n:Nat},a≤b→¬ b.g n→¬ a.g n:=fun h k q=>k (h.2 _ q).1
  have lP:∀ z∈w.pins,(cI1 z).length=1∧rInt g5 (cI1 z) z:=fun z hz=>by
   obtain⟨m,hm'⟩:=List.getElem?_of_mem hz
   obtain⟨_,_,_,_,⟨_,hh⟩,_⟩:=hP1 m z hm'
   exact⟨rfl,rfl,hh⟩
  have lL:∀ z∈w.listens,(cLi z).length=4∧qpA gB (cLi z) z:=fun z hz=>by
   obtain⟨m,hm'⟩:=List.getElem?_of_mem hz
   obtain⟨_,_,_,_,⟨_,hh⟩,_⟩:=hL1 m z hm'
   exact⟨rfl,rfl,hh⟩
  have lR:∀ z∈w.limbo,(cRe z).length=3∧qUA gD (cRe z) z:=fun z hz=>by
   obtain⟨m,hm'⟩:=List.getElem?_of_mem hz
   obtain⟨_,_,_,_,⟨_,hh⟩,_⟩:=hR1 m z hm'
   exact⟨rfl,rfl,hh⟩
  rw [Nat.zero_add] at pE ⊢
  rw [List.nil_append] at pE
  exact⟨_,Ch (chG g g' g5 gA gB gC gD gE) labR 7,rfl,_,_,_,_,_,rfl,⟨i1,i2,i3⟩,q3U (qoV hgg hg5 kA kB kC kD kE),
   qKC (qNB qlB) (GW.vw_up uA _ _) (qeI (qNB qlB) (qXC (sz:=1) (r:=rInt) g5 g5 g.w.heap.size cI1 w.pins lP) kA pA rfl nA (fun n q=>(q.2 q.1).elim) fun a ha=>⟨2,by decide,rfl,pA.new nA a ha⟩),
   qKC q3J (GW.vw_up uB _ _) (qeI q3J hE mB pB rfl (fun a ha=>up mA (nB a ha)) (fun n q=>⟨0,by decide,rfl,q⟩) fun a ha=>⟨3,by decide,rfl,pB.new nB a ha⟩),
   qKC (qNB qPB) (GW.vw_up uC _ _) (qeI (qNB qPB) (qXC (sz:=4) (r:=qpA) gB gB g.w.heap.size cLi w.listens lL) kC pC rfl nC (fun n q=>(q.2 q.1).elim) fun a ha=>⟨4,by decide,rfl,pC.new nC a ha⟩),
   qKC q4J (GW.vw_up uD _ _) (qeI q4J hE5 (GW.trans kA (GW.trans mC kD)) pD rfl (fun a ha=>up (GW.trans kA mC) (nD a ha)) (fun n q=>⟨1,by decide,rfl,q⟩) fun a ha=>⟨5,by decide,rfl,pD.new nD a ha⟩),
   qKC (qNB q5A) (GW.vw_up hg _ _) (qeI (qNB q5A) (qXC (sz:=3) (r:=qUA) gD gD g.w.heap.size cRe w.limbo lR) kE pE rfl nE (fun n q=>(q.2 q.1).elim) fun a ha=>⟨6,by decide,rfl,pE.new nE a ha⟩)⟩)
/- Pins: a thread is pinned no more. -/
open Go.Proofs.YtkogfpniapaigaaGreat.Sx Go.RowKit
/- Pins: a thread is pinned no more;the document's answer. -/
open Go.Proofs.YtkogfpniapaigaaGreat.Sx Go.RowKit
/- Machines: events of no version,ends;the document's. -/
open Go.Proofs.YtkogfpniapaigaaGreat.Sx Go.RowKit
theorem qJG (g:GW) (m:Mach) {o1 o2 o3:Option Addr} {l1 l2 l3 t1 t2 t3:Nat} (a c v:Int):OkV Tryz.prog qeG [.agg ⟨m.cs (.slice o1 l1 t1) (.slice o2 l2 t2) (.slice o3 l3 t3)⟩,.int .i64 a,.int .i64 c,.int .i64 v] g (.agg ⟨(⟨m.thread,0,a,c,-1,false,v,false,false,false,ans0⟩:Ev).cs⟩) :=
 Ok.of_fn hm noT 0 qPG (args:=[.v (.agg ⟨m.cs (.slice o1 l1 t1) (.slice o2 l2 t2) (.slice o3 l3 t3)⟩),.v (.int .i64 a),.v (.int .i64 c),.v (.int .i64 v)]) (by
  repeat((conv=>whnf);first|apply qza|apply qzb|apply qzc|apply qzd|apply qze|intro(_:Nat))
  conv=>whnf
  intro g2 hg
  rfl)
theorem quM (g:GW) (m:Mach) (e:Ev) (a:Ans) {o1 o2 o3:Option Addr} {l1 l2 l3 t1 t2 t3:Nat}:OkV Tryz.prog qmH [.agg ⟨m.cs (.slice o1 l1 t1) (.slice o2 l2 t2) (.slice o3 l3 t3)⟩,.agg ⟨e.cs⟩,.agg ⟨a.cs⟩] g (.tuple #[.agg ⟨Mach.cs (.slice o1 l1 t1) (.slice o2 l2 t2) (.slice o3 l3 t3) {m with done:=true,answer:=a}⟩,.agg ⟨({e with done:=true,answer:=a}:Ev).cs⟩]) :=
 Ok.of_fn hm noT 0 qOH (args:=[.v (.agg ⟨m.cs (.slice o1 l1 t1) (.slice o2 l2 t2) (.slice o3 l3 t3)⟩),.v (.agg ⟨e.cs⟩),.v (.agg ⟨a.cs⟩)]) (by
  repeat((conv=>whnf);first|apply qza|apply qzb|apply qzc|apply qzd|apply qze|intro(_:Nat))
  conv=>whnf
  intro g2 hg
  rfl)
/- Whether a configuration may be: what the laws ask first. -/
open Go.Proofs.YtkogfpniapaigaaGreat.Sx Go.RowKit
/- Snapshots: what the laws ask first. -/
open Go.Proofs.YtkogfpniapaigaaGreat.Sx Go.RowKit
end Go.Proofs.YtkogfpniapaigaaGreat
