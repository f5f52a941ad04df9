/- Law 21's example. -/
import Derived.Test.YthonngjhelcpeaaGreatLW21a
import Derived.Test.YthonngjhelcpeaaGreatPP42
set_option linter.unusedVariables false
set_option linter.unusedSimpArgs false
namespace Go.Proofs.YthonngjhelcpeaaGreat
open Go.Proofs.YthonngjhelcpeaaGreat.Sx Go.RowKit
set_option maxHeartbeats 16000000
set_option maxRecDepth 100000
theorem FWay.sn:∀ {k:Nat} {w:Wd} {m:Mach} {x:Wd} {m':Mach},FWay k w m x m'→SnW w→SnW x
 | 0,_,_,_,_,⟨h1,_⟩,hb=>by rw [h1];exact hb
 | _+1,_,_,_,_,⟨_,h⟩,hb=>FWay.sn h (q8D (K:=0) hb fsW_kept)
theorem qqS (g:GW):Ok Tryz.prog q9H [] g fun v g'=>∃ cs,v=.agg ⟨cs⟩∧rWo g' cs w1 :=
 Ok.of_fn hm noT 0 qyH (args:=[]) (by
  repeat((conv=>whnf);first|apply qza|apply qzb|apply qzc|apply qzd|apply qze|intro(_:Nat))
  conv=>whnf
  refine⟨1,rfl,by unfold maxLen;omega,fun g1 hg1 hn1 hp1=>?_⟩
  repeat((conv=>whnf);first|apply qza|apply qzb|apply qzc|apply qzd|apply qze|intro(_:Nat))
  conv=>whnf
  refine⟨4,rfl,by unfold maxLen;omega,fun g2 hg2 hn2 hp2=>?_⟩
  repeat((conv=>whnf);first|apply qza|apply qzb|apply qzc|apply qzd|apply qze|intro(_:Nat))
  conv=>whnf
  refine⟨1,rfl,by unfold maxLen;omega,fun g3 hg3 hn3 hp3=>?_⟩
  repeat((conv=>whnf);first|apply qza|apply qzb|apply qzc|apply qzd|apply qze|intro(_:Nat))
  conv=>whnf
  refine⟨4,rfl,by unfold maxLen;omega,fun g4 hg4 hn4 hp4=>?_⟩
  repeat((conv=>whnf);first|apply qza|apply qzb|apply qzc|apply qzd|apply qze|intro(_:Nat))
  conv=>whnf
  refine⟨1,rfl,by unfold maxLen;omega,fun g5 hg5 hn5 hp5=>?_⟩
  have hs:=qlR (n:=1) (h:=[true]) (hp1.mono (GW.trans hg2 (GW.trans hg3 (GW.trans hg4 hg5)))) (hp2.mono (GW.trans hg3 (GW.trans hg4 hg5))) (hp4.mono hg5) (hp3.mono (GW.trans hg4 hg5)) (by decide)
  have hl:=qBG (R:=rStr) hp5.rd [sInW] .string rfl fun _ _=>rfl
  conv=>whnf
  refine .inr ((qnV _ hs hl (t:=1) (by decide) (by decide)).mono fun v g6 hg6 hN=>?_)
  rcases hN with ⟨_,cs,rfl,hw⟩|⟨h,_⟩
  rotate_left
  ·exact absurd qyV h
  obtain⟨_,_,_,_,_,_,_,_,_,_,rfl⟩:=qGA hw
  repeat((conv=>whnf);first|apply qza|apply qzb|apply qzc|apply qzd|apply qze|intro(_:Nat))
  conv=>whnf
  intro g2 hg
  exact⟨_,rfl,qBA _ _ _ _ hg hw⟩)
theorem rOp_H (g:GW) (l p:BA):rOp g [.int .i64 1,.string l,.string sX,.string p,.int .i64 0,.int .i64 0,.int .i64 0,.slice none 0 0,.slice none 0 0,.slice none 0 0] {op0 with kind:=1,listen:=l,host:=sX,path:=p} :=
 ⟨_,_,_,rfl,⟨(by decide:InR 1),z0,z0,z0⟩,qwI g⟩
theorem qhG {k:Int} (hk:InR k):(ansK k 0).ok:=⟨hk,z0,z0,z0,z0,z0,z0,qaI⟩
theorem qOA (g:GW):OkV Tryz.prog qPG [] g (.bool true) :=
 Ok.of_fn hm noT 0 q6F (args:=[]) (by
  repeat((conv=>whnf);first|apply qza|apply qzb|apply qzc|apply qzd|apply qze|intro(_:Nat))
  refine .inr ((qqS _).mono fun v g1 hg1 hO=>?_)
  obtain⟨cs,rfl,hw1⟩:=hO
  obtain⟨_,_,_,_,_,_,_,_,_,_,rfl⟩:=qGA hw1
  repeat((conv=>whnf);first|apply qza|apply qzb|apply qzc|apply qzd|apply qze|intro(_:Nat))
  refine .inr ((qQH _ hw1 z0 (rOp_H _ sInW sSl) (by rw [qLS];exact qKS) (by rw [qLS];exact q8O (by decide) rfl) ⟨by decide,by decide⟩ (by rw [← qUX];exact hway1.1) (congrArg Prod.fst e1) (by decide)).mono fun v g2 hg2 hO=>?_)
  obtain⟨csa,rfl,hwa,hoa⟩:=hO
  obtain⟨_,_,_,_,_,_,_,_,_,_,rfl⟩:=qGA hwa
  have k1:=congrArg Prod.snd e1
  replace k1:(gIt 14 w1 (mH sInW sSl)).2.answer=ansK 1 0:=k1
  rw [k1] at hoa ⊢
  obtain⟨y,n5,way5,hd5,hans5,hold5,hheld5,hlis5,hpins5,_⟩:=wH1_hold.fin (by decide) (t:=0) (by decide) rfl
  obtain⟨n6,way6,hd6,hans6⟩:=qlO (w:=wH1) (a:=ansK 4 0) hway1.2 (t:=0) (by decide) (by decide) rfl
  have hyl:y.listens=[⟨sInW,false,0,false⟩]:=by rw [hlis5];rfl
  have hbg:BgW 1000 wH1:=q8O (by decide) rfl
  have hbg6:BgW 1000000 wH1:=q8O (by decide) rfl
  have hsn:SnW wH1:=qKS
  have hby:=way5.kept hbg
  repeat((conv=>whnf);first|apply qza|apply qzb|apply qzc|apply qzd|apply qze|intro(_:Nat))
  conv=>whnf
  refine .inl ⟨_,qdD _ z0 hoa,?_⟩
  repeat((conv=>whnf);first|apply qza|apply qzb|apply qzc|apply qzd|apply qze|intro(_:Nat))
  refine .inr ((qBE _ hwa (qtB _ z0 hoa) hsn hbg6 way5 hd5 (by decide)).mono fun v g3 hg3 hO=>?_)
  obtain⟨csb,rfl,hwb,hob⟩:=hO
  obtain⟨_,_,_,_,_,_,_,_,_,_,rfl⟩:=qGA hwb
  rw [hans5] at hob ⊢
  repeat((conv=>whnf);first|apply qza|apply qzb|apply qzc|apply qzd|apply qze|intro(_:Nat))
  conv=>whnf
  refine .inl ⟨_,qdD _ (a:=ansK 4 0) z0 (qhG (by decide)),?_⟩
  repeat((conv=>whnf);first|apply qza|apply qzb|apply qzc|apply qzd|apply qze|intro(_:Nat))
  refine .inr ((qBE _ (qBA _ _ _ _ hg3 hwa) (qtB _ z0 (qhG (by decide))) hsn hbg6 way6 hd6 (by decide)).mono fun v g4 hg4 hO=>?_)
  obtain⟨csc,rfl,hwc,hoc⟩:=hO
  obtain⟨_,_,_,_,_,_,_,_,_,_,rfl⟩:=qGA hwc
  rw [hans6] at hoc ⊢
  repeat((conv=>whnf);first|apply qza|apply qzb|apply qzc|apply qzd|apply qze|intro(_:Nat))
  conv=>whnf
  refine⟨fun hx=>absurd (by rw [hyl];rfl) (bneT hx),fun _=>?_⟩
  repeat((conv=>whnf);first|apply qza|apply qzb|apply qzc|apply qzd|apply qze|intro(_:Nat))
  refine .inr ((qAB _ (qBA _ _ _ _ (GW.trans hg3 hg4) hwa) hbg).mono fun v g5 hg5 hO=>?_)
  subst hO
  repeat((conv=>whnf);first|apply qza|apply qzb|apply qzc|apply qzd|apply qze|intro(_:Nat))
  conv=>whnf
  refine⟨fun _=>?_,fun hx=>absurd qhR (beqF hx)⟩
  repeat((conv=>whnf);first|apply qza|apply qzb|apply qzc|apply qzd|apply qze|intro(_:Nat))
  refine .inr ((qAB _ (qBA _ _ _ _ (GW.trans hg4 hg5) hwb) hby).mono fun v g6 hg6 hO=>?_)
  subst hO
  have hheld6:qSB y=0:=by have:=qhR;omega
  have hFl:=quG (qBA _ _ _ _ (GW.trans hg4 (GW.trans hg5 hg6)) hwb)
  have hy0:y.listens[0]?=some ⟨sInW,false,0,false⟩:=by rw [hyl];rfl
  obtain⟨al,rfl⟩:=qEA hFl hy0
  obtain⟨_,hcl⟩:=qoD hFl hy0
  repeat((conv=>whnf);first|apply qza|apply qzb|apply qzc|apply qzd|apply qze|intro(_:Nat))
  conv=>whnf
  refine⟨fun _=>?_,fun hx=>absurd hheld6 (beqF hx)⟩
  repeat((conv=>whnf);first|apply qza|apply qzb|apply qzc|apply qzd|apply qze|intro(_:Nat))
  conv=>whnf
  refine⟨_,rfl,⟨by decide,by rw [hyl];decide⟩,?_⟩
  repeat((conv=>whnf);first|apply qza|apply qzb|apply qzc|apply qzd|apply qze|intro(_:Nat))
  conv=>whnf
  refine⟨_,hcl 2 _ rfl,?_⟩
  repeat((conv=>whnf);first|apply qza|apply qzb|apply qzc|apply qzd|apply qze|intro(_:Nat))
  conv=>whnf
  refine⟨fun _=>?_,fun h=>nomatch h⟩
  repeat((conv=>whnf);first|apply qza|apply qzb|apply qzc|apply qzd|apply qze|intro(_:Nat))
  conv=>whnf
  refine⟨fun _=>?_,fun hx=>absurd hx (by simp [ansK,c60])⟩
  repeat((conv=>whnf);first|apply qza|apply qzb|apply qzc|apply qzd|apply qze|intro(_:Nat))
  conv=>whnf
  refine⟨fun _=>?_,fun hx=>absurd hx (by decide)⟩
  repeat((conv=>whnf);first|apply qza|apply qzb|apply qzc|apply qzd|apply qze|intro(_:Nat))
  conv=>whnf
  refine⟨fun _=>?_,fun hx=>absurd hx (by simp [ansK,c60])⟩
  repeat((conv=>whnf);first|apply qza|apply qzb|apply qzc|apply qzd|apply qze|intro(_:Nat))
  conv=>whnf
  intro g2 hg
  rfl)
end Go.Proofs.YthonngjhelcpeaaGreat
