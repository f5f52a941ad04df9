/- Collectors: all endpoints of a version. -/
import Derived.Test.YtkbbljngpglnkaaGreatLW9b
import Derived.Test.YtkbbljngpglnkaaGreatPl
set_option linter.unusedVariables false
set_option linter.unusedSimpArgs false
namespace Go.Proofs.YtkbbljngpglnkaaGreat
open Go.Proofs.YtkbbljngpglnkaaGreat.Sx Go.RowKit
set_option maxHeartbeats 16000000
set_option maxRecDepth 100000
def EndsP (v:Version) (x:Value) (g':GW):Prop:=∃ oa cap,x=.slice oa (q3A v).length cap∧rSl 3 rEn g' (.slice oa (q3A v).length cap) (q3A v)
def qSD (v:Version) (k:Nat):List EndC:=(v.groups.take k).flatMap fun g=>g.ends
theorem qwI {v:Version} (hb:BgV 1000000 v):∀ k,k≤v.groups.length→(qSD v k).length≤k*1000000
 | 0,_=>by simp [qSD]
 | k+1,h=>by
  obtain⟨x,hx⟩:=qBA (l:=v.groups) (i:=k) (by omega)
  have h1:=qwI hb k (by omega)
  have h2:x.ends.length≤1000000:=hb.2 x (List.mem_of_getElem? hx)
  have:qSD v (k+1)=qSD v k++x.ends:=by
   unfold qSD
   rw [List.take_add_one,hx];simp
  rw [this,List.length_append,Nat.succ_mul];omega
theorem qsK {v:Version} {k:Nat} {x:Group} (hx:v.groups[k]?=some x):qSD v (k+1)=qSD v k++x.ends:=by
 unfold qSD
 rw [List.take_add_one,hx];simp
def ecR (g:GW) (ecs:List (List Value)) (l:List EndC):Prop:=ecs.length=l.length∧(∀ e∈ecs,e.length=3)∧∀ (i:Nat) x ec,l[i]?=some x→ecs[i]?=some ec→rEn g ec x
theorem ecR.app {g:GW} {e1 e2:List (List Value)} {l1 l2:List EndC} (h1:ecR g e1 l1) (h2:ecR g e2 l2):ecR g (e1++e2) (l1++l2):=by
 obtain⟨a1,b1,c1⟩:=h1
 obtain⟨a2,b2,c2⟩:=h2
 refine⟨by simp [a1,a2],fun e he=>(List.mem_append.1 he).elim (b1 e) (b2 e),fun i x ec hx hec=>?_⟩
 rcases Nat.lt_or_ge i l1.length with h|h
 ·rw [List.getElem?_append_left h] at hx
  rw [List.getElem?_append_left (by omega)] at hec
  exact c1 i x ec hx hec
 ·rw [List.getElem?_append_right h] at hx
  rw [List.getElem?_append_right (by omega),a1] at hec
  exact c2 _ x ec hx hec
theorem ecR.one {g:GW} {ecs:List (List Value)} {l:List EndC} (h:ecR g ecs l):∀ u∈ecs.flatten,u.oneCell'=true:=fun u hu=>by
 obtain⟨e,he,hue⟩:=List.mem_flatten.1 hu
 obtain⟨i,hi⟩:=List.mem_iff_getElem?.1 he
 have hl:=(List.getElem?_eq_some_iff.1 hi).1
 obtain⟨x,hx⟩:=qBA (l:=l) (i:=i) (by rw [← h.1];exact hl)
 obtain⟨⟨n,rfl,_,_,⟨_,_,rfl,_⟩⟩,_⟩:=h.2.2 i x e hx hi
 simp only [List.mem_cons,List.not_mem_nil,or_false] at hue
 rcases hue with rfl|rfl|rfl<;>rfl
theorem qaO (g:GW) {cs:List Value} {v:Version} (hv:rVe g cs v) (hb:BgV 1000000 v):Ok Tryz.prog qDK [.agg ⟨cs⟩] g (EndsP v):=by
 obtain⟨va,vb,vd,vn,rfl,hsn,hG⟩:=hv
 obtain⟨og,cg,rfl,p1,p2,p0,hG1⟩:=id hG
 obtain⟨_,_,_,he2,⟨sa,ta,rfl,_⟩,⟨sb,tb,rfl,_⟩,⟨sd,td,rfl,_⟩⟩:=hsn
 cases he2
 have hgl:=hb.1
 exact Ok.of_fn hm noT 0 q1J (args:=[.v (.agg ⟨[.slice sa v.snap.listens.length ta,.slice sb v.snap.rules.length tb,.slice sd v.snap.clusters.length td,.slice og v.groups.length cg,.bool v.freed]⟩)]) (by
  repeat((conv=>whnf);first|apply qza|apply qzb|apply qzc|apply qzd|apply qze|intro(_:Nat)|intro(_:OA)_)
  rename_i q0
  conv=>whnf
  refine⟨Nat×(Option Addr×Nat×List (List Value)),fun (k,oX,cX,ecs)=>[.row 20 oX (qSD v k).length cX,.v (.int .i64 k)],fun (k,oX,cX,ecs)=>⟨g,.row 20 oX (qSD v k).length cX qeA 3 ecs.flatten :: .blk 0 q0 qCA [.v (.slice sa v.snap.listens.length ta),.v (.slice sb v.snap.rules.length tb),.v (.slice sd v.snap.clusters.length td),.v (.slice og v.groups.length cg),.v (.bool v.freed)] :: [],40,g.w.heap.size⟩,fun (k,oX,cX,ecs)=>k≤v.groups.length∧ecR g ecs (qSD v k),fun (k,_)=>v.groups.length-k,?_,?_⟩
  ·intro fr w hw
   exact⟨(0,none,0,[]),rfl,⟨Nat.zero_le _,rfl,by simp,fun i x ec hx=>by simp [qSD] at hx⟩,(hw.nil_row (nx':=40) 20 qeA 3).fit (by simp [fitL,Res.eqv,qAA,conc,qSD])⟩
  rintro⟨k,oX,cX,ecs⟩ ⟨hk,hR⟩
  have hk:k≤v.groups.length:=hk
  have hR:ecR g ecs (qSD v k):=hR
  have hlen:=qwI hb k hk
  conv=>whnf
  refine⟨fun hlt=>?_,fun hlt=>?_⟩
  ·have h':k<v.groups.length:=by have h9:(k:Int)<v.groups.length:=of_decide_eq_true hlt;omega
   obtain⟨x,hx⟩:=qBA h'
   obtain⟨a,rfl,ec,hec,⟨xn,rfl,hti,hE⟩,hcc⟩:=hG1 k x hx
   have hxl:x.ends.length≤1000000:=hb.2 x (List.mem_of_getElem? hx)
   obtain⟨on,cn,rfl,r1,r2,r0,hE1⟩:=id hE
   obtain⟨ecx,hrd,hcl,hcs,hcR⟩:=qgN hE
   have hRx:ecR g ecx x.ends:=⟨hcl,hcs,hcR⟩
   repeat((conv=>whnf);first|apply qza|apply qzb|apply qzc|apply qzd|apply qze|intro(_:Nat)|intro(_:OA)_)
   conv=>whnf
   refine⟨a,rfl,⟨by show(0:Int)≤k;omega,by show(k:Int)<v.groups.length;omega⟩,?_⟩
   repeat((conv=>whnf);first|apply qza|apply qzb|apply qzc|apply qzd|apply qze|intro(_:Nat)|intro(_:OA)_)
   conv=>whnf
   refine⟨_,⟨rfl,hcc⟩,?_⟩
   repeat((conv=>whnf);first|apply qza|apply qzb|apply qzc|apply qzd|apply qze|intro(_:Nat)|intro(_:OA)_)
   rename_i q1
   conv=>whnf
   refine⟨ecx.flatten,⟨hrd,hRx.one⟩,?_⟩
   repeat((conv=>whnf);first|apply qza|apply qzb|apply qzc|apply qzd|apply qze|intro(_:Nat)|intro(_:OA)_)
   conv=>whnf
   refine⟨⟨by unfold maxLen;omega,by omega⟩,fun oa2 cap2=>?_⟩
   repeat((conv=>whnf);first|apply qza|apply qzb|apply qzc|apply qzd|apply qze|intro(_:Nat)|intro(_:OA)_)
   conv=>whnf
   refine fun fr w hw=>⟨(k+1,oa2,cap2,ecs++ecx),?_,⟨h',by rw [qsK hx];exact hR.app hRx⟩,dec h',hw.fit ?_⟩
   ·simp only [qsK hx,List.length_append]
    exact congrArg (fun z=>[Value.slice oa2 ((qSD v k).length+x.ends.length) cap2,.int .i64 z]) (wr1 h' p1 p2).symm
   ·simp only [qsK hx,List.length_append,List.flatten_append]
    simp [fitL,Res.eqv,qAA,conc]
  have hz1:k=v.groups.length:=by have h9:¬ (k:Int)<v.groups.length:=of_decide_eq_false hlt;omega
  subst hz1
  have hte:qSD v v.groups.length=q3A v:=by unfold qSD q3A;rw [List.take_length]
  rw [hte] at hR
  repeat((conv=>whnf);first|apply qza|apply qzb|apply qzc|apply qzd|apply qze|intro(_:Nat)|intro(_:OA)_)
  conv=>whnf
  refine fun g1 hg1 hn1 hp1=>?_
  conv=>whnf
  intro g2 hg
  rw [hte] at *
  refine⟨_,_,rfl,?_⟩
  exact(qEF hp1.rd (q3A v) ecs rfl hR.2.1 rfl hR.1 fun i x ec hx hec=>qvE _ _ _ _ hg1 (hR.2.2 i x ec hx hec)).mono qvE hg)
theorem qbO (g:GW) {cs:List Value} {v:Version} (hv:rVe g cs v) (hb:BgV 1000000 v):OkV Tryz.prog qTG [.agg ⟨cs⟩] g (.int .i64 (q3A v).length):=by
 have hv0:=hv
 obtain⟨va,vb,vd,vn,rfl,hsn,hG⟩:=hv
 obtain⟨og,cg,rfl,p1,p2,p0,hG1⟩:=id hG
 obtain⟨_,_,_,he2,⟨sa,ta,rfl,_⟩,⟨sb,tb,rfl,_⟩,⟨sd,td,rfl,_⟩⟩:=hsn
 cases he2
 exact Ok.of_fn hm noT 0 q2J (args:=[.v (.agg ⟨[.slice sa v.snap.listens.length ta,.slice sb v.snap.rules.length tb,.slice sd v.snap.clusters.length td,.slice og v.groups.length cg,.bool v.freed]⟩)]) (by
  repeat((conv=>whnf);first|apply qza|apply qzb|apply qzc|apply qzd|apply qze|intro(_:Nat))
  refine .inr ((qaO _ hv0 hb).mono fun x g1 hg1 hE=>?_)
  obtain⟨oe,ce,rfl,hEs⟩:=hE
  repeat((conv=>whnf);first|apply qza|apply qzb|apply qzc|apply qzd|apply qze|intro(_:Nat))
  conv=>whnf
  intro g2 hg
  rfl)
/- Worlds: those that are the same are found the same. -/
open Go.Proofs.YtkbbljngpglnkaaGreat.Sx Go.RowKit
theorem qoN (g:GW) {v v':Value} {l:List Int} (hl:rSl 1 rInt g v l) (hl':rSl 1 rInt g v' l):OkV Tryz.prog q1E [v,v'] g (.bool true) :=
 Ok.of_fn hm noT 0 qrE (args:=[.v v,.v v']) (by
  obtain⟨oa,ca,rfl,a1,a2,a0,ha⟩:=hl
  obtain⟨ob,cb,rfl,b1,b2,b0,hb⟩:=hl'
  repeat((conv=>whnf);first|apply qza|apply qzb|apply qzc|apply qzd|apply qze|intro(_:Nat))
  conv=>whnf
  refine⟨fun hx=>absurd hx (by simp),fun _=>?_⟩
  repeat((conv=>whnf);first|apply qza|apply qzb|apply qzc|apply qzd|apply qze|intro(_:Nat))
  conv=>whnf
  refine⟨Nat,fun k=>[.v (.int .i64 k)],fun _=>⟨g,_,_,_⟩,fun k=>k≤l.length,fun k=>l.length-k,qFA 0 rfl (Nat.zero_le _) rfl,?_⟩
  intro k hk
  repeat((conv=>whnf);first|apply qza|apply qzb|apply qzc|apply qzd|apply qze|intro(_:Nat))
  conv=>whnf
  refine⟨fun hlt=>?_,fun hlt=>?_⟩
  ·have h':k<l.length:=by have:=of_decide_eq_true hlt;omega
   obtain⟨x,hx⟩:=qBA h'
   obtain⟨a,rfl,ec,hec,⟨rfl,_⟩,hc⟩:=ha k x hx
   obtain⟨b,rfl,ec',hec',⟨rfl,_⟩,hc'⟩:=hb k x hx
   repeat((conv=>whnf);first|apply qza|apply qzb|apply qzc|apply qzd|apply qze|intro(_:Nat))
   conv=>whnf
   refine⟨a,rfl,⟨by omega,by omega⟩,?_⟩
   conv=>whnf
   refine⟨_,hc 0 _ rfl,?_⟩
   repeat((conv=>whnf);first|apply qza|apply qzb|apply qzc|apply qzd|apply qze|intro(_:Nat))
   conv=>whnf
   refine⟨b,rfl,⟨by omega,by omega⟩,?_⟩
   conv=>whnf
   refine⟨_,hc' 0 _ rfl,?_⟩
   repeat((conv=>whnf);first|apply qza|apply qzb|apply qzc|apply qzd|apply qze|intro(_:Nat))
   conv=>whnf
   refine⟨fun hx=>absurd hx (by simp),fun _=>?_⟩
   repeat((conv=>whnf);first|apply qza|apply qzb|apply qzc|apply qzd|apply qze|intro(_:Nat))
   conv=>whnf
   refine fun fr w hw=>⟨k+1,congrArg (fun z=>[Value.int .i64 z]) (wr1 h' a1 a2).symm,h',dec h',?_⟩
   exact hw.fit (by simp [fitL,Res.eqv,qAA,conc])
  ·repeat((conv=>whnf);first|apply qza|apply qzb|apply qzc|apply qzd|apply qze|intro(_:Nat))
   conv=>whnf
   intro g2 hg
   rfl)
theorem qSM (g:GW) {v v':Value} {l:List Retired} (hl:rSl 3 qfA g v l) (hl':rSl 3 qfA g v' l):OkV Tryz.prog quG [v,v'] g (.bool true) :=
 Ok.of_fn hm noT 0 qgG (args:=[.v v,.v v']) (by
  obtain⟨oa,ca,rfl,a1,a2,a0,ha⟩:=hl
  obtain⟨ob,cb,rfl,b1,b2,b0,hb⟩:=hl'
  repeat((conv=>whnf);first|apply qza|apply qzb|apply qzc|apply qzd|apply qze|intro(_:Nat))
  conv=>whnf
  refine⟨fun hx=>absurd hx (by simp),fun _=>?_⟩
  repeat((conv=>whnf);first|apply qza|apply qzb|apply qzc|apply qzd|apply qze|intro(_:Nat))
  conv=>whnf
  refine⟨Nat,fun k=>[.v (.int .i64 k)],fun _=>⟨g,_,_,_⟩,fun k=>k≤l.length,fun k=>l.length-k,qFA 0 rfl (Nat.zero_le _) rfl,?_⟩
  intro k hk
  repeat((conv=>whnf);first|apply qza|apply qzb|apply qzc|apply qzd|apply qze|intro(_:Nat))
  conv=>whnf
  refine⟨fun hlt=>?_,fun hlt=>?_⟩
  ·have h':k<l.length:=by have:=of_decide_eq_true hlt;omega
   obtain⟨x,hx⟩:=qBA h'
   obtain⟨a,rfl,ec,hec,⟨rfl,_⟩,hc⟩:=ha k x hx
   obtain⟨b,rfl,ec',hec',⟨rfl,_⟩,hc'⟩:=hb k x hx
   repeat((conv=>whnf);first|apply qza|apply qzb|apply qzc|apply qzd|apply qze|intro(_:Nat))
   conv=>whnf
   refine⟨a,rfl,⟨by omega,by omega⟩,?_⟩
   conv=>whnf
   refine⟨_,⟨rfl,hc⟩,?_⟩
   repeat((conv=>whnf);first|apply qza|apply qzb|apply qzc|apply qzd|apply qze|intro(_:Nat))
   conv=>whnf
   refine⟨b,rfl,⟨by omega,by omega⟩,?_⟩
   conv=>whnf
   refine⟨_,⟨rfl,hc'⟩,?_⟩
   repeat((conv=>whnf);first|apply qza|apply qzb|apply qzc|apply qzd|apply qze|intro(_:Nat))
   conv=>whnf
   refine⟨fun hx=>absurd hx (by simp),fun _=>?_⟩
   repeat((conv=>whnf);first|apply qza|apply qzb|apply qzc|apply qzd|apply qze|intro(_:Nat))
   conv=>whnf
   refine fun fr w hw=>⟨k+1,congrArg (fun z=>[Value.int .i64 z]) (wr1 h' a1 a2).symm,h',dec h',?_⟩
   exact hw.fit (by simp [fitL,Res.eqv,qAA,conc])
  ·repeat((conv=>whnf);first|apply qza|apply qzb|apply qzc|apply qzd|apply qze|intro(_:Nat))
   conv=>whnf
   intro g2 hg
   rfl)
theorem qGL (g:GW) {v v':Value} {l:List (List Int)} (hl:rSl 1 rRow g v l) (hl':rSl 1 rRow g v' l):OkV Tryz.prog qwG [v,v'] g (.bool true) :=
 Ok.of_fn hm noT 0 qiG (args:=[.v v,.v v']) (by
  obtain⟨oa,ca,rfl,a1,a2,a0,ha⟩:=hl
  obtain⟨ob,cb,rfl,b1,b2,b0,hb⟩:=hl'
  repeat((conv=>whnf);first|apply qza|apply qzb|apply qzc|apply qzd|apply qze|intro(_:Nat))
  conv=>whnf
  refine⟨fun hx=>absurd hx (by simp),fun _=>?_⟩
  repeat((conv=>whnf);first|apply qza|apply qzb|apply qzc|apply qzd|apply qze|intro(_:Nat))
  conv=>whnf
  refine⟨Nat,fun k=>[.v (.int .i64 k)],fun _=>⟨g,_,_,_⟩,fun k=>k≤l.length,fun k=>l.length-k,qFA 0 rfl (Nat.zero_le _) rfl,?_⟩
  intro k hk
  repeat((conv=>whnf);first|apply qza|apply qzb|apply qzc|apply qzd|apply qze|intro(_:Nat))
  conv=>whnf
  refine⟨fun hlt=>?_,fun hlt=>?_⟩
  ·have h':k<l.length:=by have:=of_decide_eq_true hlt;omega
   obtain⟨x,hx⟩:=qBA h'
   obtain⟨a,rfl,ec,hec,⟨n,rfl,hn⟩,hc⟩:=ha k x hx
   obtain⟨b,rfl,ec',hec',⟨n',rfl,hn'⟩,hc'⟩:=hb k x hx
   obtain⟨oc,cc,rfl,c1,c2,c0,hn1⟩:=hn
   obtain⟨od,cd,rfl,d1,d2,d0,hn1'⟩:=hn'
   repeat((conv=>whnf);first|apply qza|apply qzb|apply qzc|apply qzd|apply qze|intro(_:Nat))
   conv=>whnf
   refine⟨a,rfl,⟨by omega,by omega⟩,?_⟩
   conv=>whnf
   refine⟨_,hc 0 _ rfl,?_⟩
   repeat((conv=>whnf);first|apply qza|apply qzb|apply qzc|apply qzd|apply qze|intro(_:Nat))
   conv=>whnf
   refine⟨b,rfl,⟨by omega,by omega⟩,?_⟩
   conv=>whnf
   refine⟨_,hc' 0 _ rfl,?_⟩
   repeat((conv=>whnf);first|apply qza|apply qzb|apply qzc|apply qzd|apply qze|intro(_:Nat))
   conv=>whnf
   refine⟨fun hx=>absurd hx (by simp),fun _=>?_⟩
   repeat((conv=>whnf);first|apply qza|apply qzb|apply qzc|apply qzd|apply qze|intro(_:Nat))
   conv=>whnf
   refine⟨Nat,fun n=>[.v (.int .i64 n)],fun _=>⟨g,_,_,_⟩,fun n=>n≤x.length,fun n=>x.length-n,qFA 0 rfl (Nat.zero_le _) rfl,?_⟩
   intro n hn
   repeat((conv=>whnf);first|apply qza|apply qzb|apply qzc|apply qzd|apply qze|intro(_:Nat))
   conv=>whnf
   refine⟨a,rfl,⟨by omega,by omega⟩,?_⟩
   conv=>whnf
   refine⟨_,hc 0 _ rfl,?_⟩
   repeat((conv=>whnf);first|apply qza|apply qzb|apply qzc|apply qzd|apply qze|intro(_:Nat))
   conv=>whnf
   refine⟨fun hln=>?_,fun hln=>?_⟩
   ·have h2:n<x.length:=by have:=of_decide_eq_true hln;omega
    obtain⟨y,hy⟩:=qBA h2
    obtain⟨a3,rfl,ec3,hec3,⟨rfl,_⟩,hc3⟩:=hn1 n y hy
    obtain⟨b3,rfl,ec4,hec4,⟨rfl,_⟩,hc4⟩:=hn1' n y hy
    repeat((conv=>whnf);first|apply qza|apply qzb|apply qzc|apply qzd|apply qze|intro(_:Nat))
    conv=>whnf
    refine⟨a,rfl,⟨by omega,by omega⟩,?_⟩
    conv=>whnf
    refine⟨_,hc 0 _ rfl,?_⟩
    repeat((conv=>whnf);first|apply qza|apply qzb|apply qzc|apply qzd|apply qze|intro(_:Nat))
    conv=>whnf
    refine⟨a3,rfl,⟨by omega,by omega⟩,?_⟩
    conv=>whnf
    refine⟨_,hc3 0 _ rfl,?_⟩
    repeat((conv=>whnf);first|apply qza|apply qzb|apply qzc|apply qzd|apply qze|intro(_:Nat))
    conv=>whnf
    refine⟨b,rfl,⟨by omega,by omega⟩,?_⟩
    conv=>whnf
    refine⟨_,hc' 0 _ rfl,?_⟩
    repeat((conv=>whnf);first|apply qza|apply qzb|apply qzc|apply qzd|apply qze|intro(_:Nat))
    conv=>whnf
    refine⟨b3,rfl,⟨by omega,by omega⟩,?_⟩
    conv=>whnf
    refine⟨_,hc4 0 _ rfl,?_⟩
    repeat((conv=>whnf);first|apply qza|apply qzb|apply qzc|apply qzd|apply qze|intro(_:Nat))
    conv=>whnf
    refine⟨fun hx=>absurd hx (by simp),fun _=>?_⟩
    repeat((conv=>whnf);first|apply qza|apply qzb|apply qzc|apply qzd|apply qze|intro(_:Nat))
    conv=>whnf
    refine fun fr w hw=>⟨n+1,congrArg (fun z=>[Value.int .i64 z]) (wr1 h2 c1 c2).symm,h2,dec h2,?_⟩
    exact hw.fit (by simp [fitL,Res.eqv,qAA,conc])
   ·repeat((conv=>whnf);first|apply qza|apply qzb|apply qzc|apply qzd|apply qze|intro(_:Nat))
    conv=>whnf
    refine fun fr w hw=>⟨k+1,congrArg (fun z=>[Value.int .i64 z]) (wr1 h' a1 a2).symm,h',dec h',?_⟩
    exact hw.fit (by simp [fitL,Res.eqv,qAA,conc])
  ·repeat((conv=>whnf);first|apply qza|apply qzb|apply qzc|apply qzd|apply qze|intro(_:Nat))
   conv=>whnf
   intro g2 hg
   rfl)
theorem qOP (g:GW) {cs cs':List Value} {x:EndC} (hx:rEn g cs x) (hx':rEn g cs' x):OkV Tryz.prog qvG [.agg ⟨cs⟩,.agg ⟨cs'⟩] g (.bool true):=by
 obtain⟨⟨n,rfl,_,_,hn⟩,_⟩:=hx
 obtain⟨⟨n',rfl,_,_,hn'⟩,_⟩:=hx'
 obtain⟨oa,ca,rfl,a1,a2,a0,ha⟩:=hn
 obtain⟨ob,cb,rfl,b1,b2,b0,hb⟩:=hn'
 exact Ok.of_fn hm noT 0 qhG (args:=[.v (.agg ⟨[.int .u64 x.head,.slice oa x.next.length ca,.int .i64 x.active]⟩),.v (.agg ⟨[.int .u64 x.head,.slice ob x.next.length cb,.int .i64 x.active]⟩)]) (by
  repeat((conv=>whnf);first|apply qza|apply qzb|apply qzc|apply qzd|apply qze|intro(_:Nat))
  conv=>whnf
  refine⟨fun hx=>absurd hx (by simp),fun _=>?_⟩
  repeat((conv=>whnf);first|apply qza|apply qzb|apply qzc|apply qzd|apply qze|intro(_:Nat))
  conv=>whnf
  refine⟨fun hx=>absurd hx (by simp),fun _=>?_⟩
  repeat((conv=>whnf);first|apply qza|apply qzb|apply qzc|apply qzd|apply qze|intro(_:Nat))
  conv=>whnf
  refine⟨fun hx=>absurd hx (by simp),fun _=>?_⟩
  repeat((conv=>whnf);first|apply qza|apply qzb|apply qzc|apply qzd|apply qze|intro(_:Nat))
  conv=>whnf
  refine⟨Nat,fun k=>[.v (.int .i64 k)],fun _=>⟨g,_,_,_⟩,fun k=>k≤x.next.length,fun k=>x.next.length-k,qFA 0 rfl (Nat.zero_le _) rfl,?_⟩
  intro k hk
  repeat((conv=>whnf);first|apply qza|apply qzb|apply qzc|apply qzd|apply qze|intro(_:Nat))
  conv=>whnf
  refine⟨fun hlt=>?_,fun hlt=>?_⟩
  ·have h':k<x.next.length:=by have:=of_decide_eq_true hlt;omega
   obtain⟨y,hy⟩:=qBA h'
   obtain⟨a,rfl,ec,hec,⟨rfl,_⟩,hc⟩:=ha k y hy
   obtain⟨b,rfl,ec',hec',⟨rfl,_⟩,hc'⟩:=hb k y hy
   repeat((conv=>whnf);first|apply qza|apply qzb|apply qzc|apply qzd|apply qze|intro(_:Nat))
   conv=>whnf
   refine⟨a,rfl,⟨by omega,by omega⟩,?_⟩
   conv=>whnf
   refine⟨_,hc 0 _ rfl,?_⟩
   repeat((conv=>whnf);first|apply qza|apply qzb|apply qzc|apply qzd|apply qze|intro(_:Nat))
   conv=>whnf
   refine⟨b,rfl,⟨by omega,by omega⟩,?_⟩
   conv=>whnf
   refine⟨_,hc' 0 _ rfl,?_⟩
   repeat((conv=>whnf);first|apply qza|apply qzb|apply qzc|apply qzd|apply qze|intro(_:Nat))
   conv=>whnf
   refine⟨fun hx=>absurd hx (by simp),fun _=>?_⟩
   repeat((conv=>whnf);first|apply qza|apply qzb|apply qzc|apply qzd|apply qze|intro(_:Nat))
   conv=>whnf
   refine fun fr w hw=>⟨k+1,congrArg (fun z=>[Value.int .i64 z]) (wr1 h' a1 a2).symm,h',dec h',?_⟩
   exact hw.fit (by simp [fitL,Res.eqv,qAA,conc])
  ·repeat((conv=>whnf);first|apply qza|apply qzb|apply qzc|apply qzd|apply qze|intro(_:Nat))
   conv=>whnf
   intro g2 hg
   rfl)
theorem q8J (g:GW) {cs cs':List Value} {x:Version} (hx:rVe g cs x) (hx':rVe g cs' x):OkV Tryz.prog qZD [.agg ⟨cs⟩,.agg ⟨cs'⟩] g (.bool true):=by
 obtain⟨va,vb,vd,vn,rfl,hS,hG⟩:=hx
 obtain⟨va',vb',vd',vn',rfl,hS',hG'⟩:=hx'
 have hS0:=hS
 have hS0':=hS'
 obtain⟨_,_,_,he,⟨sa,ta,rfl,_⟩,⟨sb,tb,rfl,_⟩,⟨sd,td,rfl,_⟩⟩:=hS
 cases he
 obtain⟨_,_,_,he,⟨sa',ta',rfl,_⟩,⟨sb',tb',rfl,_⟩,⟨sd',td',rfl,_⟩⟩:=hS'
 cases he
 obtain⟨oa,ca,rfl,a1,a2,a0,ha⟩:=hG
 obtain⟨ob,cb,rfl,b1,b2,b0,hb⟩:=hG'
 exact Ok.of_fn hm noT 0 qTD (args:=[.v (.agg ⟨[.slice sa x.snap.listens.length ta,.slice sb x.snap.rules.length tb,.slice sd x.snap.clusters.length td,.slice oa x.groups.length ca,.bool x.freed]⟩),.v (.agg ⟨[.slice sa' x.snap.listens.length ta',.slice sb' x.snap.rules.length tb',.slice sd' x.snap.clusters.length td',.slice ob x.groups.length cb,.bool x.freed]⟩)]) (by
  repeat((conv=>whnf);first|apply qza|apply qzb|apply qzc|apply qzd|apply qze|intro(_:Nat))
  conv=>whnf
  refine .inl ⟨_,(qfS _ hS0 hS0').to (congrArg Value.bool (qqL rfl)),?_⟩
  repeat((conv=>whnf);first|apply qza|apply qzb|apply qzc|apply qzd|apply qze|intro(_:Nat))
  conv=>whnf
  refine⟨fun h=>(nomatch h),fun _=>?_⟩
  repeat((conv=>whnf);first|apply qza|apply qzb|apply qzc|apply qzd|apply qze|intro(_:Nat))
  conv=>whnf
  refine⟨fun hx=>absurd hx (by simp),fun _=>?_⟩
  repeat((conv=>whnf);first|apply qza|apply qzb|apply qzc|apply qzd|apply qze|intro(_:Nat))
  conv=>whnf
  refine⟨fun hx=>absurd hx (by simp),fun _=>?_⟩
  repeat((conv=>whnf);first|apply qza|apply qzb|apply qzc|apply qzd|apply qze|intro(_:Nat))
  conv=>whnf
  refine⟨Nat,fun k=>[.v (.int .i64 k)],fun _=>⟨g,_,_,_⟩,fun k=>k≤x.groups.length,fun k=>x.groups.length-k,qFA 0 rfl (Nat.zero_le _) rfl,?_⟩
  intro k hk
  repeat((conv=>whnf);first|apply qza|apply qzb|apply qzc|apply qzd|apply qze|intro(_:Nat))
  conv=>whnf
  refine⟨fun hlt=>?_,fun hlt=>?_⟩
  ·have h':k<x.groups.length:=by have:=of_decide_eq_true hlt;omega
   obtain⟨y,hy⟩:=qBA h'
   obtain⟨a,rfl,ec,hec,⟨n,rfl,_,hn⟩,hc⟩:=ha k y hy
   obtain⟨b,rfl,ec',hec',⟨n',rfl,_,hn'⟩,hc'⟩:=hb k y hy
   obtain⟨oc,cc,rfl,c1,c2,c0,hn1⟩:=hn
   obtain⟨od,cd,rfl,d1,d2,d0,hn1'⟩:=hn'
   repeat((conv=>whnf);first|apply qza|apply qzb|apply qzc|apply qzd|apply qze|intro(_:Nat))
   conv=>whnf
   refine⟨a,rfl,⟨by omega,by omega⟩,?_⟩
   conv=>whnf
   refine⟨_,hc 0 _ rfl,?_⟩
   repeat((conv=>whnf);first|apply qza|apply qzb|apply qzc|apply qzd|apply qze|intro(_:Nat))
   conv=>whnf
   refine⟨b,rfl,⟨by omega,by omega⟩,?_⟩
   conv=>whnf
   refine⟨_,hc' 0 _ rfl,?_⟩
   repeat((conv=>whnf);first|apply qza|apply qzb|apply qzc|apply qzd|apply qze|intro(_:Nat))
   conv=>whnf
   refine⟨fun hx=>absurd hx (by simp),fun _=>?_⟩
   repeat((conv=>whnf);first|apply qza|apply qzb|apply qzc|apply qzd|apply qze|intro(_:Nat))
   conv=>whnf
   refine⟨a,rfl,⟨by omega,by omega⟩,?_⟩
   conv=>whnf
   refine⟨_,hc 1 _ rfl,?_⟩
   repeat((conv=>whnf);first|apply qza|apply qzb|apply qzc|apply qzd|apply qze|intro(_:Nat))
   conv=>whnf
   refine⟨b,rfl,⟨by omega,by omega⟩,?_⟩
   conv=>whnf
   refine⟨_,hc' 1 _ rfl,?_⟩
   repeat((conv=>whnf);first|apply qza|apply qzb|apply qzc|apply qzd|apply qze|intro(_:Nat))
   conv=>whnf
   refine⟨fun hx=>absurd hx (by simp),fun _=>?_⟩
   repeat((conv=>whnf);first|apply qza|apply qzb|apply qzc|apply qzd|apply qze|intro(_:Nat))
   conv=>whnf
   refine⟨Nat,fun n=>[.v (.int .i64 n)],fun _=>⟨g,_,_,_⟩,fun n=>n≤y.ends.length,fun n=>y.ends.length-n,qFA 0 rfl (Nat.zero_le _) rfl,?_⟩
   intro n hn
   repeat((conv=>whnf);first|apply qza|apply qzb|apply qzc|apply qzd|apply qze|intro(_:Nat))
   conv=>whnf
   refine⟨a,rfl,⟨by omega,by omega⟩,?_⟩
   conv=>whnf
   refine⟨_,hc 1 _ rfl,?_⟩
   repeat((conv=>whnf);first|apply qza|apply qzb|apply qzc|apply qzd|apply qze|intro(_:Nat))
   conv=>whnf
   refine⟨fun hln=>?_,fun hln=>?_⟩
   ·have h2:n<y.ends.length:=by have:=of_decide_eq_true hln;omega
    obtain⟨z,hz⟩:=qBA h2
    obtain⟨a3,rfl,ec3,hec3,hz3,hc3⟩:=hn1 n z hz
    obtain⟨b3,rfl,ec4,hec4,hz4,hc4⟩:=hn1' n z hz
    have hz30:=hz3
    have hz40:=hz4
    obtain⟨⟨m,rfl,_,_,⟨om,cm,rfl,_⟩⟩,_⟩:=hz3
    obtain⟨⟨m',rfl,_,_,⟨om',cm',rfl,_⟩⟩,_⟩:=hz4
    repeat((conv=>whnf);first|apply qza|apply qzb|apply qzc|apply qzd|apply qze|intro(_:Nat))
    conv=>whnf
    refine⟨a,rfl,⟨by omega,by omega⟩,?_⟩
    conv=>whnf
    refine⟨_,hc 1 _ rfl,?_⟩
    repeat((conv=>whnf);first|apply qza|apply qzb|apply qzc|apply qzd|apply qze|intro(_:Nat))
    conv=>whnf
    refine⟨a3,rfl,⟨by omega,by omega⟩,?_⟩
    conv=>whnf
    refine⟨_,⟨rfl,hc3⟩,?_⟩
    repeat((conv=>whnf);first|apply qza|apply qzb|apply qzc|apply qzd|apply qze|intro(_:Nat))
    conv=>whnf
    refine⟨b,rfl,⟨by omega,by omega⟩,?_⟩
    conv=>whnf
    refine⟨_,hc' 1 _ rfl,?_⟩
    repeat((conv=>whnf);first|apply qza|apply qzb|apply qzc|apply qzd|apply qze|intro(_:Nat))
    conv=>whnf
    refine⟨b3,rfl,⟨by omega,by omega⟩,?_⟩
    conv=>whnf
    refine⟨_,⟨rfl,hc4⟩,?_⟩
    repeat((conv=>whnf);first|apply qza|apply qzb|apply qzc|apply qzd|apply qze|intro(_:Nat))
    conv=>whnf
    refine .inl ⟨_,qOP _ hz30 hz40,?_⟩
    repeat((conv=>whnf);first|apply qza|apply qzb|apply qzc|apply qzd|apply qze|intro(_:Nat))
    conv=>whnf
    refine⟨fun h=>(nomatch h),fun _=>?_⟩
    repeat((conv=>whnf);first|apply qza|apply qzb|apply qzc|apply qzd|apply qze|intro(_:Nat))
    conv=>whnf
    refine fun fr w hw=>⟨n+1,congrArg (fun z=>[Value.int .i64 z]) (wr1 h2 c1 c2).symm,h2,dec h2,?_⟩
    exact hw.fit (by simp [fitL,Res.eqv,qAA,conc])
   ·repeat((conv=>whnf);first|apply qza|apply qzb|apply qzc|apply qzd|apply qze|intro(_:Nat))
    conv=>whnf
    refine fun fr w hw=>⟨k+1,congrArg (fun z=>[Value.int .i64 z]) (wr1 h' a1 a2).symm,h',dec h',?_⟩
    exact hw.fit (by simp [fitL,Res.eqv,qAA,conc])
  ·repeat((conv=>whnf);first|apply qza|apply qzb|apply qzc|apply qzd|apply qze|intro(_:Nat))
   conv=>whnf
   intro g2 hg
   rfl)
theorem qFL (g:GW) {cs cs':List Value} {w:Wd} (hw:rWo g cs w) (hw':rWo g cs' w):OkV Tryz.prog qsG [.agg ⟨cs⟩,.agg ⟨cs'⟩] g (.bool true):=by
 obtain⟨a,b,c,d,e,rfl,_,hP,hV,hL,hC,hR⟩:=hw
 obtain⟨a',b',c',d',e',rfl,_,hP',hV',hL',hC',hR'⟩:=hw'
 obtain⟨oa,ca,rfl,_⟩:=id hP
 obtain⟨ob,cb,rfl,b1,b2,b0,hV1⟩:=id hV
 obtain⟨oc,cc,rfl,c1,c2,c0,hL1⟩:=id hL
 obtain⟨od,cd,rfl,_⟩:=id hC
 obtain⟨oe,ce,rfl,_⟩:=id hR
 obtain⟨oa',ca',rfl,_⟩:=id hP'
 obtain⟨ob',cb',rfl,b1',b2',b0',hV1'⟩:=id hV'
 obtain⟨oc',cc',rfl,c1',c2',c0',hL1'⟩:=id hL'
 obtain⟨od',cd',rfl,_⟩:=id hC'
 obtain⟨oe',ce',rfl,_⟩:=id hR'
 exact Ok.of_fn hm noT 0 qeG (args:=[.v (.agg ⟨wQ w oa ca ob cb oc cc od cd oe ce⟩),.v (.agg ⟨[.int .i64 w.epoch,.int .i64 w.current,.int .i64 w.lock,.slice oa' w.pins.length ca',.slice ob' w.versions.length cb',.slice oc' w.listens.length cc',.slice od' w.counts.length cd',.slice oe' w.limbo.length ce']⟩)]) (by
  repeat((conv=>whnf);first|apply qza|apply qzb|apply qzc|apply qzd|apply qze|intro(_:Nat))
  conv=>whnf
  refine⟨fun hx=>absurd hx (by simp),fun _=>?_⟩
  repeat((conv=>whnf);first|apply qza|apply qzb|apply qzc|apply qzd|apply qze|intro(_:Nat))
  conv=>whnf
  refine⟨fun hx=>absurd hx (by simp),fun _=>?_⟩
  repeat((conv=>whnf);first|apply qza|apply qzb|apply qzc|apply qzd|apply qze|intro(_:Nat))
  conv=>whnf
  refine⟨fun hx=>absurd hx (by simp),fun _=>?_⟩
  repeat((conv=>whnf);first|apply qza|apply qzb|apply qzc|apply qzd|apply qze|intro(_:Nat))
  conv=>whnf
  refine .inl ⟨_,qoN _ hP hP',?_⟩
  repeat((conv=>whnf);first|apply qza|apply qzb|apply qzc|apply qzd|apply qze|intro(_:Nat))
  conv=>whnf
  refine⟨fun h=>(nomatch h),fun _=>?_⟩
  repeat((conv=>whnf);first|apply qza|apply qzb|apply qzc|apply qzd|apply qze|intro(_:Nat))
  conv=>whnf
  refine⟨fun hx=>absurd hx (by simp),fun _=>?_⟩
  repeat((conv=>whnf);first|apply qza|apply qzb|apply qzc|apply qzd|apply qze|intro(_:Nat))
  conv=>whnf
  refine⟨fun hx=>absurd hx (by simp),fun _=>?_⟩
  repeat((conv=>whnf);first|apply qza|apply qzb|apply qzc|apply qzd|apply qze|intro(_:Nat))
  conv=>whnf
  refine .inl ⟨_,qGL _ hC hC',?_⟩
  repeat((conv=>whnf);first|apply qza|apply qzb|apply qzc|apply qzd|apply qze|intro(_:Nat))
  conv=>whnf
  refine⟨fun h=>(nomatch h),fun _=>?_⟩
  repeat((conv=>whnf);first|apply qza|apply qzb|apply qzc|apply qzd|apply qze|intro(_:Nat))
  conv=>whnf
  refine .inl ⟨_,qSM _ hR hR',?_⟩
  repeat((conv=>whnf);first|apply qza|apply qzb|apply qzc|apply qzd|apply qze|intro(_:Nat))
  conv=>whnf
  refine⟨fun h=>(nomatch h),fun _=>?_⟩
  repeat((conv=>whnf);first|apply qza|apply qzb|apply qzc|apply qzd|apply qze|intro(_:Nat))
  conv=>whnf
  refine⟨Nat,fun k=>[.v (.int .i64 k)],fun _=>⟨g,_,_,_⟩,fun k=>k≤w.versions.length,fun k=>w.versions.length-k,qFA 0 rfl (Nat.zero_le _) rfl,?_⟩
  intro k hk
  repeat((conv=>whnf);first|apply qza|apply qzb|apply qzc|apply qzd|apply qze|intro(_:Nat))
  conv=>whnf
  refine⟨fun hlt=>?_,fun hlt=>?_⟩
  ·have h':k<w.versions.length:=by have:=of_decide_eq_true hlt;omega
   obtain⟨x,hx⟩:=qBA h'
   obtain⟨a,rfl,ec,hec,hxe,hc⟩:=hV1 k x hx
   obtain⟨b,rfl,ec',hec',hxe',hc'⟩:=hV1' k x hx
   have h10:=hxe
   have h20:=hxe'
   obtain⟨va,vb,vd,vn,rfl,⟨_,_,_,he,⟨sa,ta,rfl,_⟩,⟨sb,tb,rfl,_⟩,⟨sd,td,rfl,_⟩⟩,⟨sn,tn,rfl,_⟩⟩:=hxe
   cases he
   obtain⟨va',vb',vd',vn',rfl,⟨_,_,_,he,⟨sa',ta',rfl,_⟩,⟨sb',tb',rfl,_⟩,⟨sd',td',rfl,_⟩⟩,⟨sn',tn',rfl,_⟩⟩:=hxe'
   cases he
   repeat((conv=>whnf);first|apply qza|apply qzb|apply qzc|apply qzd|apply qze|intro(_:Nat))
   conv=>whnf
   refine⟨a,rfl,⟨by omega,by omega⟩,?_⟩
   conv=>whnf
   refine⟨_,⟨rfl,hc⟩,?_⟩
   repeat((conv=>whnf);first|apply qza|apply qzb|apply qzc|apply qzd|apply qze|intro(_:Nat))
   conv=>whnf
   refine⟨b,rfl,⟨by omega,by omega⟩,?_⟩
   conv=>whnf
   refine⟨_,⟨rfl,hc'⟩,?_⟩
   repeat((conv=>whnf);first|apply qza|apply qzb|apply qzc|apply qzd|apply qze|intro(_:Nat))
   conv=>whnf
   refine .inl ⟨_,q8J _ h10 h20,?_⟩
   repeat((conv=>whnf);first|apply qza|apply qzb|apply qzc|apply qzd|apply qze|intro(_:Nat))
   conv=>whnf
   refine⟨fun h=>(nomatch h),fun _=>?_⟩
   repeat((conv=>whnf);first|apply qza|apply qzb|apply qzc|apply qzd|apply qze|intro(_:Nat))
   conv=>whnf
   refine fun fr w' hw=>⟨k+1,congrArg (fun z=>[Value.int .i64 z]) (wr1 h' b1 b2).symm,h',dec h',?_⟩
   exact hw.fit (by simp [fitL,Res.eqv,qAA,conc])
  clear hlt hk
  repeat((conv=>whnf);first|apply qza|apply qzb|apply qzc|apply qzd|apply qze|intro(_:Nat))
  conv=>whnf
  refine⟨Nat,fun k=>[.v (.int .i64 k)],fun _=>⟨g,_,_,_⟩,fun k=>k≤w.listens.length,fun k=>w.listens.length-k,qFA 0 rfl (Nat.zero_le _) rfl,?_⟩
  intro k hk
  repeat((conv=>whnf);first|apply qza|apply qzb|apply qzc|apply qzd|apply qze|intro(_:Nat))
  conv=>whnf
  refine⟨fun hlt=>?_,fun hlt=>?_⟩
  ·have h':k<w.listens.length:=by have:=of_decide_eq_true hlt;omega
   obtain⟨x,hx⟩:=qBA h'
   obtain⟨a,rfl,ec,hec,⟨rfl,_⟩,hc⟩:=hL1 k x hx
   obtain⟨b,rfl,ec',hec',⟨rfl,_⟩,hc'⟩:=hL1' k x hx
   repeat((conv=>whnf);first|apply qza|apply qzb|apply qzc|apply qzd|apply qze|intro(_:Nat))
   conv=>whnf
   refine⟨a,rfl,⟨by omega,by omega⟩,?_⟩
   conv=>whnf
   refine⟨_,⟨rfl,hc⟩,?_⟩
   repeat((conv=>whnf);first|apply qza|apply qzb|apply qzc|apply qzd|apply qze|intro(_:Nat))
   conv=>whnf
   refine⟨b,rfl,⟨by omega,by omega⟩,?_⟩
   conv=>whnf
   refine⟨_,⟨rfl,hc'⟩,?_⟩
   repeat((conv=>whnf);first|apply qza|apply qzb|apply qzc|apply qzd|apply qze|intro(_:Nat))
   conv=>whnf
   refine⟨fun hx=>absurd hx (by simp),fun _=>?_⟩
   repeat((conv=>whnf);first|apply qza|apply qzb|apply qzc|apply qzd|apply qze|intro(_:Nat))
   conv=>whnf
   refine fun fr w' hw=>⟨k+1,congrArg (fun z=>[Value.int .i64 z]) (wr1 h' c1 c2).symm,h',dec h',?_⟩
   exact hw.fit (by simp [fitL,Res.eqv,qAA,conc])
  repeat((conv=>whnf);first|apply qza|apply qzb|apply qzc|apply qzd|apply qze|intro(_:Nat))
  conv=>whnf
  intro g2 hg
  rfl)
/- Worlds: what is too much to be looked at. -/
open Go.Proofs.YtkbbljngpglnkaaGreat.Sx Go.RowKit
theorem q4S {l:List Rule} (hb:bigR l=false):l.length≤50∧∀ r∈l,r.host.size≤100∧r.path.size≤100:=by
 simp only [bigR,Bool.or_eq_false_iff,decide_eq_false_iff_not] at hb
 refine⟨by omega,fun r hr=>?_⟩
 have:=List.any_eq_false.1 hb.2 r hr
 simp only [qZL,Bool.or_eq_true,decide_eq_true_eq] at this
 omega
theorem qRR (g:GW) {cs:List Value} {s:Snap} (hs:q7H g cs s):Ok Tryz.prog qLF [.agg ⟨cs⟩] g fun v _=>∃ b,v=.bool b∧(b=false→SnS s):=by
 obtain⟨a,b,d,rfl,hl,hr,hk⟩:=hs
 obtain⟨oa,ca,rfl,a1,a2,a0,hl1⟩:=id hl
 obtain⟨ob,cb,rfl,b1,b2,b0,hr1⟩:=id hr
 obtain⟨od,cd,rfl,d1,d2,d0,hk1⟩:=id hk
 exact Ok.of_fn hm noT 0 qJF (args:=[.v (.agg ⟨[.slice oa s.listens.length ca,.slice ob s.rules.length cb,.slice od s.clusters.length cd]⟩)]) (by
  repeat((conv=>whnf);first|apply qza|apply qzb|apply qzc|apply qzd|apply qze|intro(_:Nat))
  conv=>whnf
  refine⟨fun z1=>?_,fun z1=>?_⟩
  ·repeat((conv=>whnf);first|apply qza|apply qzb|apply qzc|apply qzd|apply qze|intro(_:Nat))
   conv=>whnf
   intro g2 hg
   exact⟨_,rfl,fun h=>by cases h⟩
  repeat((conv=>whnf);first|apply qza|apply qzb|apply qzc|apply qzd|apply qze|intro(_:Nat))
  conv=>whnf
  refine⟨fun z2=>?_,fun z2=>?_⟩
  ·repeat((conv=>whnf);first|apply qza|apply qzb|apply qzc|apply qzd|apply qze|intro(_:Nat))
   conv=>whnf
   intro g2 hg
   exact⟨_,rfl,fun h=>by cases h⟩
  repeat((conv=>whnf);first|apply qza|apply qzb|apply qzc|apply qzd|apply qze|intro(_:Nat))
  conv=>whnf
  refine .inl ⟨_,qYS _ hr,?_⟩
  repeat((conv=>whnf);first|apply qza|apply qzb|apply qzc|apply qzd|apply qze|intro(_:Nat))
  conv=>whnf
  refine⟨fun z3=>?_,fun z3=>?_⟩
  ·repeat((conv=>whnf);first|apply qza|apply qzb|apply qzc|apply qzd|apply qze|intro(_:Nat))
   conv=>whnf
   intro g2 hg
   exact⟨_,rfl,fun h=>by cases h⟩
  have hS:SnS s:=by
   obtain⟨k1,k2⟩:=q4S z3
   exact⟨by omega,k2⟩
  repeat((conv=>whnf);first|apply qza|apply qzb|apply qzc|apply qzd|apply qze|intro(_:Nat))
  conv=>whnf
  refine⟨Nat,fun k=>[.v (.int .i64 k)],fun _=>⟨g,_,_,_⟩,fun k=>k≤s.clusters.length,fun k=>s.clusters.length-k,qFA 0 rfl (Nat.zero_le _) rfl,?_⟩
  intro k hk
  repeat((conv=>whnf);first|apply qza|apply qzb|apply qzc|apply qzd|apply qze|intro(_:Nat))
  conv=>whnf
  refine⟨fun hlt=>?_,fun hlt=>?_⟩
  ·have h':k<s.clusters.length:=by have:=of_decide_eq_true hlt;omega
   obtain⟨x,hx⟩:=qBA h'
   obtain⟨a,rfl,ec,hec,⟨hv,rfl,_,_,⟨oh,ch,rfl,_⟩⟩,hc⟩:=hk1 k x hx
   repeat((conv=>whnf);first|apply qza|apply qzb|apply qzc|apply qzd|apply qze|intro(_:Nat))
   conv=>whnf
   refine⟨a,rfl,⟨by omega,by omega⟩,?_⟩
   conv=>whnf
   refine⟨_,hc 3 _ rfl,?_⟩
   repeat((conv=>whnf);first|apply qza|apply qzb|apply qzc|apply qzd|apply qze|intro(_:Nat))
   conv=>whnf
   refine⟨fun y1=>?_,fun y1=>?_⟩
   ·repeat((conv=>whnf);first|apply qza|apply qzb|apply qzc|apply qzd|apply qze|intro(_:Nat))
    conv=>whnf
    intro g2 hg
    exact⟨_,rfl,fun h=>by cases h⟩
   repeat((conv=>whnf);first|apply qza|apply qzb|apply qzc|apply qzd|apply qze|intro(_:Nat))
   conv=>whnf
   refine⟨a,rfl,⟨by omega,by omega⟩,?_⟩
   conv=>whnf
   refine⟨_,hc 0 _ rfl,?_⟩
   repeat((conv=>whnf);first|apply qza|apply qzb|apply qzc|apply qzd|apply qze|intro(_:Nat))
   conv=>whnf
   refine⟨fun y2=>?_,fun y2=>?_⟩
   ·repeat((conv=>whnf);first|apply qza|apply qzb|apply qzc|apply qzd|apply qze|intro(_:Nat))
    conv=>whnf
    intro g2 hg
    exact⟨_,rfl,fun h=>by cases h⟩
   repeat((conv=>whnf);first|apply qza|apply qzb|apply qzc|apply qzd|apply qze|intro(_:Nat))
   conv=>whnf
   refine fun fr w hw=>⟨k+1,congrArg (fun z=>[Value.int .i64 z]) (wr1 h' d1 d2).symm,h',dec h',?_⟩
   exact hw.fit (by simp [fitL,Res.eqv,qAA,conc])
  ·repeat((conv=>whnf);first|apply qza|apply qzb|apply qzc|apply qzd|apply qze|intro(_:Nat))
   conv=>whnf
   intro g2 hg
   exact⟨_,rfl,fun _=>hS⟩)
theorem qSR (g:GW) {v:Value} {l:List (List Int)} (hl:rSl 1 rRow g v l):Ok Tryz.prog qcH [v] g fun v _=>∃ b,v=.bool b∧(b=false→l.length≤60∧∀ r∈l,r.length≤60) :=
 Ok.of_fn hm noT 0 qNH (args:=[.v v]) (by
  obtain⟨oa,cap,rfl,h1,h2,h0,hr⟩:=hl
  repeat((conv=>whnf);first|apply qza|apply qzb|apply qzc|apply qzd|apply qze|intro(_:Nat))
  conv=>whnf
  refine⟨Nat,fun k=>[.v (.int .i64 k)],fun _=>⟨g,_,_,_⟩,fun k=>k≤l.length∧∀ r∈l.take k,r.length≤60,fun k=>l.length-k,qFA 0 rfl ⟨Nat.zero_le _,by simp⟩ rfl,?_⟩
  rintro k ⟨hk,hp⟩
  repeat((conv=>whnf);first|apply qza|apply qzb|apply qzc|apply qzd|apply qze|intro(_:Nat))
  conv=>whnf
  refine⟨fun hlt=>?_,fun hlt=>?_⟩
  ·have h':k<l.length:=by have:=of_decide_eq_true hlt;omega
   obtain⟨x,hx⟩:=qBA h'
   obtain⟨x1,x2⟩:=List.getElem?_eq_some_iff.1 hx
   obtain⟨a,rfl,ec,hec,⟨n,rfl,⟨ox,cx,rfl,_⟩⟩,hc⟩:=hr k x hx
   repeat((conv=>whnf);first|apply qza|apply qzb|apply qzc|apply qzd|apply qze|intro(_:Nat))
   conv=>whnf
   refine⟨fun y1=>?_,fun y1=>?_⟩
   ·repeat((conv=>whnf);first|apply qza|apply qzb|apply qzc|apply qzd|apply qze|intro(_:Nat))
    conv=>whnf
    refine⟨a,rfl,⟨by omega,by omega⟩,?_⟩
    conv=>whnf
    refine⟨_,hc 0 _ rfl,?_⟩
    repeat((conv=>whnf);first|apply qza|apply qzb|apply qzc|apply qzd|apply qze|intro(_:Nat))
    conv=>whnf
    refine⟨fun y2=>?_,fun y2=>?_⟩
    ·repeat((conv=>whnf);first|apply qza|apply qzb|apply qzc|apply qzd|apply qze|intro(_:Nat))
     conv=>whnf
     intro g2 hg
     exact⟨_,rfl,fun h=>by cases h⟩
    have y2':=of_decide_eq_false y2
    repeat((conv=>whnf);first|apply qza|apply qzb|apply qzc|apply qzd|apply qze|intro(_:Nat))
    conv=>whnf
    refine fun fr w hw=>⟨k+1,congrArg (fun z=>[Value.int .i64 z]) (wr1 h' h1 h2).symm,⟨h',fun r hr=>?_⟩,dec h',?_⟩
    ·rw [List.take_succ_eq_append_getElem x1,x2] at hr
     rcases List.mem_append.1 hr with hr|hr
     ·exact hp r hr
     ·simp at hr;subst hr;omega
    ·exact hw.fit (by simp [fitL,Res.eqv,qAA,conc])
   ·have y1':=of_decide_eq_false y1
    repeat((conv=>whnf);first|apply qza|apply qzb|apply qzc|apply qzd|apply qze|intro(_:Nat))
    conv=>whnf
    intro g2 hg
    exact⟨_,rfl,fun h=>absurd h (by simp;omega)⟩
  ·have hkL:=of_decide_eq_false hlt
   rw [List.take_of_length_le (by omega)] at hp
   repeat((conv=>whnf);first|apply qza|apply qzb|apply qzc|apply qzd|apply qze|intro(_:Nat))
   conv=>whnf
   intro g2 hg
   exact⟨_,rfl,fun h=>⟨by have:=of_decide_eq_false h;omega,hp⟩⟩)
theorem qxR {l:List Version} {k:Nat} {x:Version} (hx:l[k]?=some x) {P:Version→Prop} (h:∀ v∈l.take k,P v) (h':P x):∀ v∈l.take (k+1),P v:=fun v hv=>by
 obtain⟨x1,x2⟩:=List.getElem?_eq_some_iff.1 hx
 rw [List.take_succ_eq_append_getElem x1,x2] at hv
 rcases List.mem_append.1 hv with hv|hv
 ·exact h v hv
 ·simp at hv;subst hv;exact h'
theorem qIL (g:GW) {cs:List Value} {w:Wd} (hw:rWo g cs w):Ok Tryz.prog qbH [.agg ⟨cs⟩] g fun v _=>∃ b,v=.bool b∧(b=false→BgW 60 w∧SnW w):=by
 obtain⟨a,b,c,d,e,rfl,⟨i1,i2,i3⟩,hP,hV,hL,hC,hR⟩:=hw
 obtain⟨oa,ca,rfl,a1,a2,a0,hP1⟩:=id hP
 obtain⟨ob,cb,rfl,b1,b2,b0,hV1⟩:=id hV
 obtain⟨oc,cc,rfl,c1,c2,c0,hL1⟩:=id hL
 obtain⟨od,cd,rfl,d1,d2,d0,hC1⟩:=id hC
 obtain⟨oe,ce,rfl,e1,e2,e0,hR1⟩:=id hR
 exact Ok.of_fn hm noT 0 qMH (args:=[.v (.agg ⟨wQ w oa ca ob cb oc cc od cd oe ce⟩)]) (by
  repeat((conv=>whnf);first|apply qza|apply qzb|apply qzc|apply qzd|apply qze|intro(_:Nat))
  conv=>whnf
  refine⟨fun z1=>?_,fun z1=>?_⟩
  ·repeat((conv=>whnf);first|apply qza|apply qzb|apply qzc|apply qzd|apply qze|intro(_:Nat))
   conv=>whnf
   intro g2 hg
   exact⟨_,rfl,fun h=>by cases h⟩
  repeat((conv=>whnf);first|apply qza|apply qzb|apply qzc|apply qzd|apply qze|intro(_:Nat))
  conv=>whnf
  refine⟨fun z2=>?_,fun z2=>?_⟩
  ·repeat((conv=>whnf);first|apply qza|apply qzb|apply qzc|apply qzd|apply qze|intro(_:Nat))
   conv=>whnf
   intro g2 hg
   exact⟨_,rfl,fun h=>by cases h⟩
  repeat((conv=>whnf);first|apply qza|apply qzb|apply qzc|apply qzd|apply qze|intro(_:Nat))
  conv=>whnf
  refine⟨fun z3=>?_,fun z3=>?_⟩
  ·repeat((conv=>whnf);first|apply qza|apply qzb|apply qzc|apply qzd|apply qze|intro(_:Nat))
   conv=>whnf
   intro g2 hg
   exact⟨_,rfl,fun h=>by cases h⟩
  repeat((conv=>whnf);first|apply qza|apply qzb|apply qzc|apply qzd|apply qze|intro(_:Nat))
  refine .inr ((qSR _ hC).mono fun v ga ka hB=>?_)
  obtain⟨bb,rfl,hB⟩:=hB
  repeat((conv=>whnf);first|apply qza|apply qzb|apply qzc|apply qzd|apply qze|intro(_:Nat))
  conv=>whnf
  refine⟨fun z4=>?_,fun z4=>?_⟩
  ·repeat((conv=>whnf);first|apply qza|apply qzb|apply qzc|apply qzd|apply qze|intro(_:Nat))
   conv=>whnf
   intro g2 hg
   exact⟨_,rfl,fun h=>by cases h⟩
  repeat((conv=>whnf);first|apply qza|apply qzb|apply qzc|apply qzd|apply qze|intro(_:Nat))
  conv=>whnf
  refine⟨fun z5=>?_,fun z5=>?_⟩
  ·repeat((conv=>whnf);first|apply qza|apply qzb|apply qzc|apply qzd|apply qze|intro(_:Nat))
   conv=>whnf
   intro g2 hg
   exact⟨_,rfl,fun h=>by cases h⟩
  have k1:=of_decide_eq_false z1
  have k2:=of_decide_eq_false z2
  have k3:=of_decide_eq_false z3
  have k4:=hB z4
  have k5:=of_decide_eq_false z5
  clear z1 z2 z3 z4 z5 hB
  repeat((conv=>whnf);first|apply qza|apply qzb|apply qzc|apply qzd|apply qze|intro(_:Nat))
  rename_i q0
  conv=>whnf
  refine⟨Nat×GW,fun (k,_)=>[.v (.int .i64 k)],fun (_,g')=>⟨g',[.blk 0 q0 qIA [.v (.int .i64 w.epoch),.v (.int .i64 w.current),.v (.int .i64 w.lock),.v (.slice oa w.pins.length ca),.v (.slice ob w.versions.length cb),.v (.slice oc w.listens.length cc),.v (.slice od w.counts.length cd),.v (.slice oe w.limbo.length ce)]],10,g.w.heap.size⟩,fun (k,g')=>k≤w.versions.length∧g≤g'∧(∀ v∈w.versions.take k,BgV 60 v∧SnS v.snap),fun (k,_)=>w.versions.length-k,fun fr w' hw=>⟨(0,ga),rfl,⟨Nat.zero_le _,ka,by simp⟩,hw.fit (by simp [fitL,Res.eqv,qAA,conc])⟩,?_⟩
  rintro⟨k,g'⟩ ⟨hk,hgg,hp⟩
  repeat((conv=>whnf);first|apply qza|apply qzb|apply qzc|apply qzd|apply qze|intro(_:Nat))
  conv=>whnf
  refine⟨fun hlt=>?_,fun hlt=>?_⟩
  ·have h':k<w.versions.length:=by have:=of_decide_eq_true hlt;omega
   obtain⟨x,hx⟩:=qBA h'
   obtain⟨a,rfl,ec,hec,⟨va,vb,vd,vn,rfl,hS,hG⟩,hc⟩:=hV1 k x hx
   have hS0:=hS
   obtain⟨_,_,_,hee,⟨sa,ta,rfl,_⟩,⟨sb,tb,rfl,_⟩,⟨sd,td,rfl,_⟩⟩:=hS
   cases hee
   obtain⟨on,cn,rfl,n1,n2,n0,hG1⟩:=id hG
   repeat((conv=>whnf);first|apply qza|apply qzb|apply qzc|apply qzd|apply qze|intro(_:Nat))
   conv=>whnf
   refine⟨a,rfl,⟨by omega,by omega⟩,?_⟩
   conv=>whnf
   refine⟨_,⟨rfl,hc.mono hgg⟩,?_⟩
   repeat((conv=>whnf);first|apply qza|apply qzb|apply qzc|apply qzd|apply qze|intro(_:Nat))
   refine .inr ((qRR _ (qiC _ _ _ _ hgg hS0)).mono fun v gb kb hB=>?_)
   obtain⟨bb,rfl,hB⟩:=hB
   repeat((conv=>whnf);first|apply qza|apply qzb|apply qzc|apply qzd|apply qze|intro(_:Nat))
   conv=>whnf
   refine⟨fun y1=>?_,fun y1=>?_⟩
   ·repeat((conv=>whnf);first|apply qza|apply qzb|apply qzc|apply qzd|apply qze|intro(_:Nat))
    conv=>whnf
    intro g2 hg
    exact⟨_,rfl,fun h=>by cases h⟩
   repeat((conv=>whnf);first|apply qza|apply qzb|apply qzc|apply qzd|apply qze|intro(_:Nat))
   conv=>whnf
   refine⟨fun y2=>?_,fun y2=>?_⟩
   ·repeat((conv=>whnf);first|apply qza|apply qzb|apply qzc|apply qzd|apply qze|intro(_:Nat))
    conv=>whnf
    intro g2 hg
    exact⟨_,rfl,fun h=>by cases h⟩
   have y2':=of_decide_eq_false y2
   have hSn:=hB y1
   have hgb:=GW.trans hgg kb
   repeat((conv=>whnf);first|apply qza|apply qzb|apply qzc|apply qzd|apply qze|intro(_:Nat))
   rename_i q1
   conv=>whnf
   refine⟨Nat,fun j=>[.v (.int .i64 j)],fun _=>⟨gb,_,_,_⟩,fun j=>j≤x.groups.length∧∀ y∈x.groups.take j,BgG 60 y,fun j=>x.groups.length-j,qFA 0 rfl ⟨Nat.zero_le _,by simp⟩ rfl,?_⟩
   rintro j ⟨hj,hq⟩
   repeat((conv=>whnf);first|apply qza|apply qzb|apply qzc|apply qzd|apply qze|intro(_:Nat))
   conv=>whnf
   refine⟨fun hlt2=>?_,fun hlt2=>?_⟩
   ·have h2:j<x.groups.length:=by have:=of_decide_eq_true hlt2;omega
    obtain⟨y,hy⟩:=qBA h2
    obtain⟨y1',y2''⟩:=List.getElem?_eq_some_iff.1 hy
    obtain⟨a2',rfl,ec2,hec2,⟨nn,rfl,_,⟨oy,cy,rfl,_⟩⟩,hc2⟩:=hG1 j y hy
    repeat((conv=>whnf);first|apply qza|apply qzb|apply qzc|apply qzd|apply qze|intro(_:Nat))
    conv=>whnf
    refine⟨a2',rfl,⟨by omega,by omega⟩,?_⟩
    conv=>whnf
    refine⟨_,hc2.mono hgb 1 _ rfl,?_⟩
    repeat((conv=>whnf);first|apply qza|apply qzb|apply qzc|apply qzd|apply qze|intro(_:Nat))
    conv=>whnf
    refine⟨fun y3=>?_,fun y3=>?_⟩
    ·repeat((conv=>whnf);first|apply qza|apply qzb|apply qzc|apply qzd|apply qze|intro(_:Nat))
     conv=>whnf
     intro g2 hg
     exact⟨_,rfl,fun h=>by cases h⟩
    have y3':=of_decide_eq_false y3
    repeat((conv=>whnf);first|apply qza|apply qzb|apply qzc|apply qzd|apply qze|intro(_:Nat))
    conv=>whnf
    refine fun fr w' hw=>⟨j+1,congrArg (fun z=>[Value.int .i64 z]) (wr1 h2 n1 n2).symm,⟨h2,fun z hz=>?_⟩,dec h2,?_⟩
    ·rw [List.take_succ_eq_append_getElem y1',y2''] at hz
     rcases List.mem_append.1 hz with hz|hz
     ·exact hq z hz
     ·simp at hz;subst hz;unfold BgG;omega
    ·exact hw.fit (by simp [fitL,Res.eqv,qAA,conc])
   have hjL:=of_decide_eq_false hlt2
   rw [List.take_of_length_le (by omega)] at hq
   repeat((conv=>whnf);first|apply qza|apply qzb|apply qzc|apply qzd|apply qze|intro(_:Nat))
   conv=>whnf
   refine fun fr w' hw=>⟨(k+1,gb),congrArg (fun z=>[Value.int .i64 z]) (wr1 h' b1 b2).symm,⟨h',hgb,qxR hx hp ⟨⟨by omega,hq⟩,hSn⟩⟩,dec h',?_⟩
   exact hw.fit (by simp [fitL,Res.eqv,qAA,conc])
  ·have hkL:=of_decide_eq_false hlt
   rw [List.take_of_length_le (by omega)] at hp
   repeat((conv=>whnf);first|apply qza|apply qzb|apply qzc|apply qzd|apply qze|intro(_:Nat))
   conv=>whnf
   intro g2 hg
   exact⟨_,rfl,fun _=>⟨⟨⟨by omega,by omega,by omega,k4.1,by omega⟩,k4.2,fun v hv=>(hp v hv).1⟩,fun v hv=>(hp v hv).2⟩⟩)
end Go.Proofs.YtkbbljngpglnkaaGreat
