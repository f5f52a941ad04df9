/- Which rule a request goes by: the program's and the document's answers. -/
import Derived.Test.YthonngjhelcpeaaGreatLK5c
import Derived.Test.YthonngjhelcpeaaGreatPl
set_option linter.unusedVariables false
set_option linter.unusedSimpArgs false
namespace Go.Proofs.YthonngjhelcpeaaGreat
open Go.Proofs.YthonngjhelcpeaaGreat.Sx
set_option maxHeartbeats 16000000
set_option maxRecDepth 100000
abbrev qZT (r:Rule):List Value:=[.int .i64 r.listen,.string r.host,.string r.path,.int .i64 r.cluster]
abbrev SmR (r:Rule):Prop:=Sm r.host∧Sm r.path
theorem qZY (g:GW) (r:Rule) (n:Int) (h p:BA) (hs:SmR r∧Sm h∧Sm p):OkV Tryz.prog qYQ [.agg ⟨qZT r⟩,.int .i64 n,.string h,.string p] g (.bool (fitR n h p r)) :=
 Ok.of_fn hm noT 0 qxP (args:=[.v (.agg ⟨qZT r⟩),.v (.int .i64 n),.v (.string h),.v (.string p)]) (by
  repeat'((conv=>whnf);first|apply qza|apply qzb|apply qzc|apply qzd|apply qze|intro(_:Nat)|refine .inl ⟨_,q9W _ _ _ ⟨hs.1.1,hs.2.1⟩,?_⟩|refine .inl ⟨_,q4W _ _ _ ⟨hs.2.2,hs.1.2⟩,?_⟩|refine⟨fun _=>?_,fun _=>?_⟩|fail)
  all_goals (conv=>whnf)
  all_goals (intro g2 hg)
  all_goals (rename_i h1;simp only [fitR];simp_all))
theorem qoT (g:GW) (r:Rule) (n:Int) (h p:BA) (hs:SmR r∧Sm h∧Sm p):OkV Tryz.prog qEK [.agg ⟨qZT r⟩,.int .i64 n,.string h,.string p] g (.bool (fitR n h p r)) :=
 Ok.of_fn hm noT 0 qhJ (args:=[.v (.agg ⟨qZT r⟩),.v (.int .i64 n),.v (.string h),.v (.string p)]) (by
  repeat'((conv=>whnf);first|apply qza|apply qzb|apply qzc|apply qzd|apply qze|intro(_:Nat)|refine .inl ⟨_,qmV _ _ _ ⟨hs.1.1,hs.2.1⟩,?_⟩|refine .inl ⟨_,qkV _ _ _ ⟨hs.2.2,hs.1.2⟩,?_⟩|refine⟨fun _=>?_,fun _=>?_⟩|fail)
  all_goals (conv=>whnf)
  all_goals (intro g2 hg)
  all_goals (rename_i h1;simp only [fitR];simp_all))
def tR:List (Nat×FnI):=[(qMN,qXG),(qRL,q4E)]
theorem tR_ok:q3G Tryz.prog tR:=by
 intro x hx
 simp only [tR,List.mem_cons,List.not_mem_nil,or_false] at hx
 rcases hx with rfl|rfl
 ·exact⟨_,_,qHN⟩
 ·exact⟨_,_,qzK⟩
def qAV:Option Nat→Value
 | some i=>.tuple #[.int .i64 i,.int .i64 0]
 | none=>.tuple #[.int .i64 0,.int .i64 5]
def qDP:Option Nat→Int
 | none=>-1
 | some j=>j
abbrev SmL (l:List Rule):Prop:=∀ r∈l,SmR r
theorem qwV (g:GW) {v:Value} {l:List Rule} (hl:rSl 4 qCQ g v l) (n:Int) (h p:BA) (hs:SmL l∧Sm h∧Sm p) :
  OkV Tryz.prog qZQ [v,.int .i64 n,.string h,.string p] g (qAV (qAM (fitR n h p) l)) :=
 Ok.of_fn hm tR_ok 2 qyP (args:=[.v v,.v (.int .i64 n),.v (.string h),.v (.string p)]) (by
  obtain⟨oa,cap,rfl,h1,h2,h0,hr⟩:=hl
  repeat((conv=>whnf);first|refine qz ?_|intro(_:Nat))
  conv=>whnf
  refine⟨qfL,fun lp rr=>?_⟩
  repeat((conv=>whnf);first|refine qz ?_|intro(_:Nat))
  conv=>whnf
  refine⟨Nat,fun i=>[.v (.int .i64 i)],fun i=>⟨g,[.lp 6 lp rr .ready,.blk 5 _ _ [.v (.string p)],.blk 4 _ _ [.v (.string h)],.blk 3 _ _ [.v (.int .i64 n)],.blk 2 _ _ [.v (.slice oa l.length cap)],.blk 1 _ _ [.v (.int .i64 (qDP (qRG (fitR n h p) l i)))],.blk 0 _ _ [.v (.slice oa l.length cap)]],_,_⟩,fun i=>i≤l.length,fun i=>l.length-i,qHA 0 rfl (Nat.zero_le _) rfl,?_⟩
  intro i hi
  conv=>whnf
  refine⟨fun hlt=>?_,fun hlt=>?_⟩
  ·have h':i<l.length:=by have:=of_decide_eq_true hlt;omega
   obtain⟨r,hri⟩:=qAA h'
   obtain⟨a,rfl,ec,hec,⟨rfl,hI1,hI2⟩,hc⟩:=hr i r hri
   have hsr:=hs.1 r (List.mem_of_getElem? hri)
   have hbp:∀ b,(match qRG (fitR n h p) l i with|none=>some i|some j=>match l[j]? with|some q=>if betR r q then some i else some j|none=>some i)=b→fitR n h p r=true→qRG (fitR n h p) l (i+1)=b:=fun b hb hf=>by
    simp only [qRG,hri,hf,if_true];exact hb
   conv=>whnf
   refine⟨a,rfl,⟨by omega,by omega⟩,?_⟩
   conv=>whnf
   refine⟨qZT r,⟨rfl,hc⟩,?_⟩
   repeat((conv=>whnf);first|refine qz ?_|intro(_:Nat))
   conv=>whnf
   refine .inl ⟨_,qZY _ _ _ _ _ ⟨hsr,hs.2⟩,?_⟩
   have next:∀ (b:Option Nat),qRG (fitR n h p) l (i+1)=b→[Value.int .i64 (IntKind.i64.wrap ((i:Int)+1))]=[Value.int .i64 ((i+1:Nat):Int)]:=fun _ _=>congrArg (fun z=>[Value.int .i64 z]) (wr1 h' h1 h2)
   conv=>whnf
   refine⟨fun hf=>?_,fun hf=>?_⟩
   ·repeat((conv=>whnf);first|refine qz ?_|intro(_:Nat))
    cases hb:qRG (fitR n h p) l i with
    | none =>
     have hb1:=hbp (some i) (by rw [hb]) hf
     conv=>whnf
     refine⟨fun _=>?_,fun h=>nomatch h⟩
     repeat((conv=>whnf);first|refine qz ?_|intro(_:Nat))
     conv=>whnf
     refine fun fr w hw=>⟨i+1,(next _ hb1).symm,h',dec h',?_⟩
     exact hw.fit (by simp [fitL,Res.eqv,qBA,conc,hb1,qDP])
    | some j =>
     obtain⟨q,hq,_,hfq,_⟩:=(qzM (fit:=fitR n h p) l i hi).1 j hb
     obtain⟨a',ha',ecq,hecq,⟨rfl,_,_⟩,hcq⟩:=hr j q hq
     cases ha'
     have hjl:=(List.getElem?_eq_some_iff.1 hq).1
     conv=>whnf
     refine⟨fun hx=>absurd (of_decide_eq_true hx) (by simp only [qDP];omega),fun _=>?_⟩
     repeat((conv=>whnf);first|refine qz ?_|intro(_:Nat))
     conv=>whnf
     refine⟨a,rfl,⟨by simp only [qDP];omega,by simp only [qDP];omega⟩,?_⟩
     repeat((conv=>whnf);first|refine qz ?_|intro(_:Nat))
     conv=>whnf
     refine⟨_,hcq 1 _ rfl,?_⟩
     repeat((conv=>whnf);first|refine qz ?_|intro(_:Nat))
     conv=>whnf
     refine⟨a,rfl,⟨by simp only [qDP];omega,by simp only [qDP];omega⟩,?_⟩
     repeat((conv=>whnf);first|refine qz ?_|intro(_:Nat))
     conv=>whnf
     refine⟨_,hcq 2 _ rfl,?_⟩
     repeat((conv=>whnf);first|refine qz ?_|intro(_:Nat))
     conv=>whnf
     refine .inl ⟨_,qvV _ _ _ _ _,?_⟩
     conv=>whnf
     refine⟨fun hbt=>?_,fun hbt=>?_⟩
     ·have hb1:=hbp (some i) (by rw [hb];simp only [hq];rw [show betR r q=true from hbt];rfl) hf
      repeat((conv=>whnf);first|refine qz ?_|intro(_:Nat))
      conv=>whnf
      refine fun fr w hw=>⟨i+1,(next _ hb1).symm,h',dec h',?_⟩
      exact hw.fit (by simp [fitL,Res.eqv,qBA,conc,hb1,qDP])
     ·have hb1:=hbp (some j) (by rw [hb];simp only [hq];rw [show betR r q=false from hbt];rfl) hf
      repeat((conv=>whnf);first|refine qz ?_|intro(_:Nat))
      conv=>whnf
      refine fun fr w hw=>⟨i+1,(next _ hb1).symm,h',dec h',?_⟩
      exact hw.fit (by simp [fitL,Res.eqv,qBA,conc,hb1,qDP])
   ·conv=>whnf
    refine fun fr w hw=>⟨i+1,?_,h',dec h',?_⟩
    ·exact congrArg (fun z=>[Value.int .i64 z]) (wr1 h' h1 h2).symm
    ·have:qRG (fitR n h p) l (i+1)=qRG (fitR n h p) l i:=by simp [qRG,hri,hf]
     exact hw.fit (by simp [fitL,Res.eqv,qBA,conc,this])
  ·have hi':i=l.length:=by have:=of_decide_eq_false hlt;omega
   subst hi'
   repeat((conv=>whnf);first|refine qz ?_|intro(_:Nat))
   cases hb:qRG (fitR n h p) l l.length with
   | none =>
    conv=>whnf
    refine⟨fun _=>?_,fun h=>nomatch h⟩
    conv=>whnf
    intro g2 hg
    rw [show qAM (fitR n h p) l=none from hb];rfl
   | some j =>
    conv=>whnf
    refine⟨fun hx=>absurd (of_decide_eq_true hx) (by simp only [qDP];omega),fun _=>?_⟩
    repeat((conv=>whnf);first|refine qz ?_|intro(_:Nat))
    conv=>whnf
    intro g2 hg
    rw [show qAM (fitR n h p) l=some j from hb];rfl)
theorem qtV (g:GW) {v:Value} {l:List Rule} (hl:rSl 4 qCQ g v l) (i:Nat) {r:Rule} (hri:l[i]?=some r) (n:Int) (h p:BA) (hs:SmL l∧Sm h∧Sm p) :
  OkV Tryz.prog qYH [v,.int .i64 i,.int .i64 n,.string h,.string p] g (.bool (qcO (fitR n h p) l r)) :=
 Ok.of_fn hm noT 0 qDH (args:=[.v v,.v (.int .i64 i),.v (.int .i64 n),.v (.string h),.v (.string p)]) (by
  obtain⟨oa,cap,rfl,h1,h2,h0,hr⟩:=hl
  obtain⟨a,rfl,ec,hec,⟨rfl,_,_⟩,hc⟩:=hr i r hri
  have hi:=(List.getElem?_eq_some_iff.1 hri).1
  have hsr:=hs.1 r (List.mem_of_getElem? hri)
  repeat((conv=>whnf);first|refine qz ?_|intro(_:Nat))
  conv=>whnf
  refine⟨Nat,fun k=>[.v (.int .i64 k)],fun k=>⟨g,[],_,_⟩,fun k=>k≤l.length∧(l.take k).any (fun q=>fitR n h p q&&betR q r)=false,fun k=>l.length-k,qHA 0 rfl ⟨Nat.zero_le _,rfl⟩ rfl,?_⟩
  rintro k ⟨hk,hall⟩
  conv=>whnf
  refine⟨fun hlt=>?_,fun hlt=>?_⟩
  ·have h':k<l.length:=by have:=of_decide_eq_true hlt;omega
   obtain⟨q,hq⟩:=qAA h'
   obtain⟨a',ha',ecq,hecq,⟨rfl,_,_⟩,hcq⟩:=hr k q hq
   cases ha'
   have hsq:=hs.1 q (List.mem_of_getElem? hq)
   have hg:∀ b,(fitR n h p q&&betR q r)=b→(l.take (k+1)).any (fun q=>fitR n h p q&&betR q r)=b:=fun b hb=>by
    obtain⟨_,hge⟩:=List.getElem?_eq_some_iff.1 hq
    rw [List.take_succ_eq_append_getElem h',List.any_append,hall,hge]
    simp [hb]
   have hbe:(fitR n h p q&&betR q r)=true→qcO (fitR n h p) l r=true:=fun hb=>List.any_eq_true.2 ⟨q,List.mem_of_getElem? hq,hb⟩
   conv=>whnf
   refine⟨a,rfl,⟨by omega,by omega⟩,?_⟩
   conv=>whnf
   refine⟨qZT q,⟨rfl,hcq⟩,?_⟩
   conv=>whnf
   refine .inl ⟨_,qoT _ _ _ _ _ ⟨hsq,hs.2⟩,?_⟩
   conv=>whnf
   refine⟨fun hf=>?_,fun hf=>?_⟩
   ·conv=>whnf
    refine⟨a,rfl,⟨by omega,by omega⟩,?_⟩
    conv=>whnf
    refine⟨_,hcq 1 _ rfl,?_⟩
    conv=>whnf
    refine⟨a,rfl,⟨by omega,by omega⟩,?_⟩
    conv=>whnf
    refine⟨_,hcq 2 _ rfl,?_⟩
    conv=>whnf
    refine⟨a,rfl,⟨by omega,by omega⟩,?_⟩
    conv=>whnf
    refine⟨_,hc 1 _ rfl,?_⟩
    conv=>whnf
    refine⟨a,rfl,⟨by omega,by omega⟩,?_⟩
    conv=>whnf
    refine⟨_,hc 2 _ rfl,?_⟩
    conv=>whnf
    refine .inl ⟨_,qgU _ _ _ _ _ ⟨hsq.1,hsr.1⟩,?_⟩
    conv=>whnf
    refine⟨fun hb=>?_,fun hb=>?_⟩
    ·conv=>whnf
     intro g2 hg
     have hb':betR q r=true:=hb
     rw [hbe (by rw [hf,hb'];rfl)]
    ·have hb':betR q r=false:=hb
     conv=>whnf
     refine fun fr w hw=>⟨k+1,congrArg (fun z=>[Value.int .i64 z]) (wr1 h' h1 h2).symm,⟨h',hg _ (by rw [hb'];simp)⟩,dec h',hw⟩
   ·conv=>whnf
    refine fun fr w hw=>⟨k+1,congrArg (fun z=>[Value.int .i64 z]) (wr1 h' h1 h2).symm,⟨h',hg _ (by rw [hf];rfl)⟩,dec h',hw⟩
  ·conv=>whnf
   intro g2 hg
   have:k=l.length:=by have:=of_decide_eq_false hlt;omega
   rw [this,List.take_length] at hall
   rw [show qcO (fitR n h p) l r=false from hall])
theorem qpT (g:GW) {v:Value} {l:List Rule} (hl:rSl 4 qCQ g v l) (n:Int) (h p:BA) (hs:SmL l∧Sm h∧Sm p) :
  OkV Tryz.prog qFK [v,.int .i64 n,.string h,.string p] g (qAV (qAM (fitR n h p) l)) :=
 Ok.of_fn hm noT 0 qiJ (args:=[.v v,.v (.int .i64 n),.v (.string h),.v (.string p)]) (by
  have hl0:=hl
  obtain⟨oa,cap,rfl,h1,h2,h0,hr⟩:=hl
  repeat((conv=>whnf);first|refine qz ?_|intro(_:Nat))
  conv=>whnf
  refine⟨Nat,fun k=>[.v (.int .i64 k)],fun k=>⟨g,[],_,_⟩,fun k=>k≤l.length∧∀ j,j<k→∀ q,l[j]?=some q→(fitR n h p q&&!qcO (fitR n h p) l q)=false,fun k=>l.length-k,qHA 0 rfl ⟨Nat.zero_le _,fun j hj=>by omega⟩ rfl,?_⟩
  rintro k ⟨hk,hall⟩
  conv=>whnf
  refine⟨fun hlt=>?_,fun hlt=>?_⟩
  ·have h':k<l.length:=by have:=of_decide_eq_true hlt;omega
   obtain⟨q,hq⟩:=qAA h'
   obtain⟨a,rfl,ecq,hecq,⟨rfl,_,_⟩,hcq⟩:=hr k q hq
   have hsq:=hs.1 q (List.mem_of_getElem? hq)
   have next:(fitR n h p q&&!qcO (fitR n h p) l q)=false→∀ j,j<k+1→∀ q,l[j]?=some q→(fitR n h p q&&!qcO (fitR n h p) l q)=false:=fun hn j hj x hx=>by
    rcases Nat.lt_or_ge j k with c|c
    ·exact hall j c x hx
    ·obtain rfl:j=k:=by omega
     rw [hq] at hx;cases hx;exact hn
   conv=>whnf
   refine⟨a,rfl,⟨by omega,by omega⟩,?_⟩
   conv=>whnf
   refine⟨qZT q,⟨rfl,hcq⟩,?_⟩
   conv=>whnf
   refine .inl ⟨_,qoT _ _ _ _ _ ⟨hsq,hs.2⟩,?_⟩
   conv=>whnf
   refine⟨fun hf=>?_,fun hf=>?_⟩
   ·conv=>whnf
    refine .inl ⟨_,qtV _ hl0 k hq _ _ _ hs,?_⟩
    conv=>whnf
    refine⟨fun hb=>?_,fun hb=>?_⟩
    ·conv=>whnf
     intro g2 hg
     rw [qXX hq hf (nb1 hb) hall];rfl
    ·conv=>whnf
     refine fun fr w hw=>⟨k+1,congrArg (fun z=>[Value.int .i64 z]) (wr1 h' h1 h2).symm,⟨h',next (by rw [nb0 hb];simp)⟩,dec h',hw⟩
   ·conv=>whnf
    refine fun fr w hw=>⟨k+1,congrArg (fun z=>[Value.int .i64 z]) (wr1 h' h1 h2).symm,⟨h',next (by rw [hf];rfl)⟩,dec h',hw⟩
  ·conv=>whnf
   intro g2 hg
   have:k=l.length:=by have:=of_decide_eq_false hlt;omega
   subst this
   rw [q6Q fun j q hj=>hall j (List.getElem?_eq_some_iff.1 hj).1 q hj];rfl)
def qhQ (r:Rule):Bool:=decide (100<r.host.size)||decide (100<r.path.size)
def bigR (l:List Rule):Bool:=decide (50<l.length)||l.any qhQ
theorem qAY (g:GW) {v:Value} {l:List Rule} (hl:rSl 4 qCQ g v l):OkV Tryz.prog qZL [v] g (.bool (bigR l)) :=
 Ok.of_fn hm noT 0 q7K (args:=[.v v]) (by
  obtain⟨oa,cap,rfl,h1,h2,h0,hr⟩:=hl
  repeat((conv=>whnf);first|refine qz ?_|intro(_:Nat))
  conv=>whnf
  refine⟨Nat,fun k=>[.v (.int .i64 k)],fun k=>⟨g,[],_,_⟩,fun k=>k≤l.length∧(l.take k).any qhQ=false,fun k=>l.length-k,qHA 0 rfl ⟨Nat.zero_le _,rfl⟩ rfl,?_⟩
  rintro k ⟨hk,hall⟩
  conv=>whnf
  refine⟨fun hlt=>?_,fun hlt=>?_⟩
  ·have h':k<l.length:=by have:=of_decide_eq_true hlt;omega
   conv=>whnf
   refine⟨fun h50=>?_,fun h50=>?_⟩
   ·obtain⟨q,hq⟩:=qAA h'
    obtain⟨a,rfl,ecq,hecq,⟨rfl,_,_⟩,hcq⟩:=hr k q hq
    have hg:∀ b,qhQ q=b→(l.take (k+1)).any qhQ=b:=fun b hb=>by
     obtain⟨_,hge⟩:=List.getElem?_eq_some_iff.1 hq
     rw [List.take_succ_eq_append_getElem h',List.any_append,hall,hge]
     simp [hb]
    have hbe:qhQ q=true→bigR l=true:=fun hb=>by
     rw [bigR,List.any_eq_true.2 ⟨q,List.mem_of_getElem? hq,hb⟩,Bool.or_true]
    conv=>whnf
    refine⟨a,rfl,⟨by omega,by omega⟩,?_⟩
    conv=>whnf
    refine⟨_,hcq 1 _ rfl,?_⟩
    conv=>whnf
    refine⟨fun ha=>?_,fun ha=>?_⟩
    ·conv=>whnf
     intro g2 hg
     rw [hbe (by simp at ha;simp [qhQ];omega)]
    ·conv=>whnf
     refine⟨a,rfl,⟨by omega,by omega⟩,?_⟩
     conv=>whnf
     refine⟨_,hcq 2 _ rfl,?_⟩
     conv=>whnf
     refine⟨fun hb=>?_,fun hb=>?_⟩
     ·conv=>whnf
      intro g2 hg
      rw [hbe (by simp at hb;simp [qhQ];omega)]
     ·conv=>whnf
      refine fun fr w hw=>⟨k+1,congrArg (fun z=>[Value.int .i64 z]) (wr1 h' h1 h2).symm,⟨h',hg _ (by simp at ha hb;simp [qhQ];omega)⟩,dec h',hw⟩
   ·conv=>whnf
    intro g2 hg
    have:=of_decide_eq_false h50
    rw [bigR,decide_eq_true (show 50<l.length by omega),decide_eq_true (show(50:Int)<l.length by omega)];rfl
  ·conv=>whnf
   intro g2 hg
   have:k=l.length:=by have:=of_decide_eq_false hlt;omega
   rw [this,List.take_length] at hall
   rw [bigR,hall,Bool.or_false]
   exact congrArg Value.bool (decide_eq_decide.2 (by omega)))
/- Snapshots: what is built,and their configurations: the program's and the document's answers. -/
open Go.Proofs.YthonngjhelcpeaaGreat.Sx Go.RowKit
def tS:List (Nat×FnI):=[(qyJ,qcE),(qbM,qgF)]
theorem tS_ok:q3G Tryz.prog tS:=by
 intro x hx
 simp only [tS,List.mem_cons,List.not_mem_nil,or_false] at hx
 rcases hx with rfl|rfl
 ·exact⟨_,_,qRJ⟩
 ·exact⟨_,_,qGM⟩
theorem qxS (g:GW) {v:Value} {l:List BA} (hl:rSl 1 rStr g v l) (s:BA):OkV Tryz.prog qCO [v,.string s] g (.int .i64 (idxI (idxO (fun x=>bs x==bs s) l))) :=
 Ok.of_fn hm tS_ok 2 qlN (args:=[.v v,.v (.string s)]) (by
  obtain⟨oa,cap,rfl,h1,h2,h0,hr⟩:=hl
  repeat((conv=>whnf);first|refine qz ?_|intro(_:Nat))
  conv=>whnf
  refine⟨Nat,fun k=>[.v (.int .i64 k)],fun k=>⟨g,[.blk 0 _ _ [.v (.string s)]],_,_⟩,fun k=>k≤l.length∧Pass (idxF fun x=>bs x==bs s) l k,fun k=>l.length-k,qHA 0 rfl ⟨Nat.zero_le _,Pass.zero _ _⟩ rfl,?_⟩
  rintro k ⟨hk,hp⟩
  conv=>whnf
  refine⟨fun hlt=>?_,fun hlt=>?_⟩
  ·have h':k<l.length:=by have:=of_decide_eq_true hlt;omega
   obtain⟨x,hx⟩:=qAA h'
   obtain⟨a,rfl,ec,hec,rfl,hc⟩:=hr k x hx
   conv=>whnf
   refine⟨a,rfl,⟨by omega,by omega⟩,?_⟩
   conv=>whnf
   refine⟨_,hc 0 _ rfl,?_⟩
   conv=>whnf
   refine⟨qlM,?_⟩
   repeat((conv=>whnf);first|refine qz ?_|intro(_:Nat))
   conv=>whnf
   refine⟨fun he=>?_,fun he=>?_⟩
   ·conv=>whnf
    intro g2 hg
    rw [qGE hp hx he]
   ·conv=>whnf
    refine fun fr w hw=>⟨k+1,congrArg (fun z=>[Value.int .i64 z]) (wr1 h' h1 h2).symm,⟨h',qFE hp hx he⟩,dec h',?_⟩
    exact hw.fit (by simp [fitL,Res.eqv,qBA,conc])
  ·conv=>whnf
   intro g2 hg
   have:=of_decide_eq_false hlt
   rw [q4C hp (by omega)])
theorem q7V {α:Type} {f:α→Bool} {l:List α} (h:l.length≤maxLen):InR (idxI (idxO f l)):=by
 unfold maxLen at h
 cases hi:idxO f l with
 | none=>exact⟨by decide,by decide⟩
 | some i=>have:=qgY hi;exact⟨by simp only [idxI];omega,by simp only [idxI];omega⟩
theorem qbT {α β:Type} {l:List α} {f:α→List β} {k:Nat} {x:α} (hx:l[k]?=some x):((l.take (k+1)).map f).flatten=((l.take k).map f).flatten++f x:=by
 obtain⟨h1,h2⟩:=List.getElem?_eq_some_iff.1 hx
 rw [List.take_succ_eq_append_getElem h1,h2];simp
/- Snapshots: the configuration of one. -/
open Go.Proofs.YthonngjhelcpeaaGreat.Sx Go.RowKit
abbrev cRou (s:Snap) (r:Rule):List Value:=qJW (qEB s r)
theorem quV (g:GW) {a b d:Value} {s:Snap} (hs:qRH g [a,b,d] s) (hsz:s.rules.length≤1000000):Ok Tryz.prog qVQ [.agg ⟨[a,b,d]⟩] g fun v g'=>∃ oa n cap,v=.agg ⟨[a,.slice oa n cap,d]⟩∧rSl 4 qNP g' (.slice oa n cap) (qVD s).routes:=by
 obtain⟨_,_,_,he,hl,hr,hk⟩:=hs
 cases he
 obtain⟨oa,ca,rfl,a1,a2,a0,hl1⟩:=id hl
 obtain⟨ob,cb,rfl,b1,b2,b0,hr1⟩:=id hr
 obtain⟨od,cd,rfl,d1,d2,d0,hk1⟩:=id hk
 exact Ok.of_fn hm noT 0 quP (args:=[.v (.agg ⟨[.slice oa s.listens.length ca,.slice ob s.rules.length cb,.slice od s.clusters.length cd]⟩)]) (by
  repeat((conv=>whnf);first|refine qz ?_|intro(_:Nat)|intro(_:OA)_)
  rename_i p0 p1 p2
  conv=>whnf
  refine⟨Nat×Option Addr×Nat,fun (k,_,_)=>[.v (.int .i64 k)],fun (k,oR,cR)=>⟨g,[.row 10 oR k cR qeC 4 ((s.rules.take k).map (cRou s)).flatten,.blk 2 p2 q2B [.v (.slice oa s.listens.length ca),.row 10 oR k cR,.v (.slice od s.clusters.length cd)],.blk 1 p1 q2B [.v (.slice none 0 0),.v (.slice none 0 0),.v (.slice none 0 0)],.blk 0 p0 qyA [.v (.slice oa s.listens.length ca),.v (.slice ob s.rules.length cb),.v (.slice od s.clusters.length cd)]],40,g.w.heap.size⟩,fun (k,_,_)=>k≤s.rules.length,fun (k,_,_)=>s.rules.length-k,?_,?_⟩
  ·intro fr w hw
   exact⟨(0,none,0),rfl,Nat.zero_le _,(hw.nil_row (nx':=40) 10 qeC 4).fit (by simp [fitL,Res.eqv,qBA,conc])⟩
  rintro⟨k,oR,cR⟩ hkk
  have hkk:k≤s.rules.length:=hkk
  repeat((conv=>whnf);first|refine qz ?_|intro(_:Nat)|intro(_:OA)_)
  conv=>whnf
  refine⟨fun hlt=>?_,fun hlt=>?_⟩
  ·have h':k<s.rules.length:=by have:=of_decide_eq_true hlt;omega
   obtain⟨⟨rl,rh,rp,rc⟩,hx⟩:=qAA h'
   obtain⟨a,rfl,ec,hec,⟨rfl,_,_⟩,hc⟩:=hr1 k _ hx
   have hT:=qbT (f:=cRou s) hx
   repeat((conv=>whnf);first|refine qz ?_|intro(_:Nat)|intro(_:OA)_)
   conv=>whnf
   refine⟨a,rfl,⟨by omega,by omega⟩,?_⟩
   conv=>whnf
   refine⟨_,⟨rfl,hc⟩,?_⟩
   repeat((conv=>whnf);first|refine qz ?_|intro(_:Nat)|intro(_:OA)_)
   by_cases hA:0≤rl∧rl<s.listens.length
   ·obtain⟨n,rfl⟩:=Int.eq_ofNat_of_zero_le hA.1
    obtain⟨y,hy⟩:=qAA (show n<s.listens.length by omega)
    obtain⟨aL,rfl,ecL,hecL,rfl,hcL⟩:=hl1 n y hy
    have hAn:qQL s.listens (n:Int)=y:=by unfold qQL;rw [if_pos hA];simp [hy]
    conv=>whnf
    refine⟨fun _=>?_,fun hx=>absurd (((decide_eq_true hA.1)).symm.trans hx) (by decide)⟩
    repeat((conv=>whnf);first|refine qz ?_|intro(_:Nat)|intro(_:OA)_)
    conv=>whnf
    refine⟨fun _=>?_,fun hx=>absurd (((decide_eq_true hA.2)).symm.trans hx) (by decide)⟩
    repeat((conv=>whnf);first|refine qz ?_|intro(_:Nat)|intro(_:OA)_)
    conv=>whnf
    refine⟨aL,rfl,⟨hA.1,hA.2⟩,?_⟩
    conv=>whnf
    refine⟨_,hcL 0 _ rfl,?_⟩
    repeat((conv=>whnf);first|refine qz ?_|intro(_:Nat)|intro(_:OA)_)
    by_cases hC:0≤rc∧rc<s.clusters.length
    ·obtain⟨m,rfl⟩:=Int.eq_ofNat_of_zero_le hC.1
     obtain⟨z,hz⟩:=qAA (show m<s.clusters.length by omega)
     obtain⟨aC,rfl,ecC,hecC,⟨hv,rfl,_,_,_,_,rfl,_⟩,hcC⟩:=hk1 m z hz
     have hCn:qaB s.clusters (m:Int)=z.name:=by unfold qaB;rw [if_pos hC];simp [hz]
     conv=>whnf
     refine⟨fun _=>?_,fun hx=>absurd (((decide_eq_true hC.1)).symm.trans hx) (by decide)⟩
     repeat((conv=>whnf);first|refine qz ?_|intro(_:Nat)|intro(_:OA)_)
     conv=>whnf
     refine⟨fun _=>?_,fun hx=>absurd (((decide_eq_true hC.2)).symm.trans hx) (by decide)⟩
     repeat((conv=>whnf);first|refine qz ?_|intro(_:Nat)|intro(_:OA)_)
     conv=>whnf
     refine⟨aC,rfl,⟨hC.1,hC.2⟩,?_⟩
     conv=>whnf
     refine⟨_,hcC 0 _ rfl,?_⟩
     repeat((conv=>whnf);first|refine qz ?_|intro(_:Nat)|intro(_:OA)_)
     conv=>whnf
     refine⟨⟨by unfold maxLen;omega,by omega⟩,fun oa2 cap2=>?_⟩
     repeat((conv=>whnf);first|refine qz ?_|intro(_:Nat)|intro(_:OA)_)
     conv=>whnf
     refine fun fr w hw=>⟨(k+1,oa2,cap2),congrArg (fun z=>[Value.int .i64 z]) (wr1 h' b1 b2).symm,h',dec h',hw.fit ?_⟩
     simp only [hT]
     simp [fitL,Res.eqv,qBA,conc,qEB,hAn,hCn]
    have hCn:qaB s.clusters rc=⟨#[]⟩:=by unfold qaB;rw [if_neg hC]
    by_cases hC0:0≤rc
    ·conv=>whnf
     refine⟨fun _=>?_,fun hx=>absurd (((decide_eq_true hC0)).symm.trans hx) (by decide)⟩
     repeat((conv=>whnf);first|refine qz ?_|intro(_:Nat)|intro(_:OA)_)
     conv=>whnf
     refine⟨fun hx=>absurd (hx.symm.trans ((decide_eq_false (show ¬ rc<s.clusters.length from fun h=>hC ⟨hC0,h⟩)))) (by decide),fun _=>?_⟩
     repeat((conv=>whnf);first|refine qz ?_|intro(_:Nat)|intro(_:OA)_)
     conv=>whnf
     refine⟨⟨by unfold maxLen;omega,by omega⟩,fun oa2 cap2=>?_⟩
     repeat((conv=>whnf);first|refine qz ?_|intro(_:Nat)|intro(_:OA)_)
     conv=>whnf
     refine fun fr w hw=>⟨(k+1,oa2,cap2),congrArg (fun z=>[Value.int .i64 z]) (wr1 h' b1 b2).symm,h',dec h',hw.fit ?_⟩
     simp only [hT]
     simp [fitL,Res.eqv,qBA,conc,qEB,hAn,hCn]
    ·conv=>whnf
     refine⟨fun hx=>absurd (hx.symm.trans ((decide_eq_false hC0))) (by decide),fun _=>?_⟩
     repeat((conv=>whnf);first|refine qz ?_|intro(_:Nat)|intro(_:OA)_)
     conv=>whnf
     refine⟨⟨by unfold maxLen;omega,by omega⟩,fun oa2 cap2=>?_⟩
     repeat((conv=>whnf);first|refine qz ?_|intro(_:Nat)|intro(_:OA)_)
     conv=>whnf
     refine fun fr w hw=>⟨(k+1,oa2,cap2),congrArg (fun z=>[Value.int .i64 z]) (wr1 h' b1 b2).symm,h',dec h',hw.fit ?_⟩
     simp only [hT]
     simp [fitL,Res.eqv,qBA,conc,qEB,hAn,hCn]
   have hAn:qQL s.listens rl=⟨#[]⟩:=by unfold qQL;rw [if_neg hA]
   by_cases hA0:0≤rl
   ·conv=>whnf
    refine⟨fun _=>?_,fun hx=>absurd (((decide_eq_true hA0)).symm.trans hx) (by decide)⟩
    repeat((conv=>whnf);first|refine qz ?_|intro(_:Nat)|intro(_:OA)_)
    conv=>whnf
    refine⟨fun hx=>absurd (hx.symm.trans ((decide_eq_false (show ¬ rl<s.listens.length from fun h=>hA ⟨hA0,h⟩)))) (by decide),fun _=>?_⟩
    repeat((conv=>whnf);first|refine qz ?_|intro(_:Nat)|intro(_:OA)_)
    by_cases hC:0≤rc∧rc<s.clusters.length
    ·obtain⟨m,rfl⟩:=Int.eq_ofNat_of_zero_le hC.1
     obtain⟨z,hz⟩:=qAA (show m<s.clusters.length by omega)
     obtain⟨aC,rfl,ecC,hecC,⟨hv,rfl,_,_,_,_,rfl,_⟩,hcC⟩:=hk1 m z hz
     have hCn:qaB s.clusters (m:Int)=z.name:=by unfold qaB;rw [if_pos hC];simp [hz]
     conv=>whnf
     refine⟨fun _=>?_,fun hx=>absurd (((decide_eq_true hC.1)).symm.trans hx) (by decide)⟩
     repeat((conv=>whnf);first|refine qz ?_|intro(_:Nat)|intro(_:OA)_)
     conv=>whnf
     refine⟨fun _=>?_,fun hx=>absurd (((decide_eq_true hC.2)).symm.trans hx) (by decide)⟩
     repeat((conv=>whnf);first|refine qz ?_|intro(_:Nat)|intro(_:OA)_)
     conv=>whnf
     refine⟨aC,rfl,⟨hC.1,hC.2⟩,?_⟩
     conv=>whnf
     refine⟨_,hcC 0 _ rfl,?_⟩
     repeat((conv=>whnf);first|refine qz ?_|intro(_:Nat)|intro(_:OA)_)
     conv=>whnf
     refine⟨⟨by unfold maxLen;omega,by omega⟩,fun oa2 cap2=>?_⟩
     repeat((conv=>whnf);first|refine qz ?_|intro(_:Nat)|intro(_:OA)_)
     conv=>whnf
     refine fun fr w hw=>⟨(k+1,oa2,cap2),congrArg (fun z=>[Value.int .i64 z]) (wr1 h' b1 b2).symm,h',dec h',hw.fit ?_⟩
     simp only [hT]
     simp [fitL,Res.eqv,qBA,conc,qEB,hAn,hCn]
    have hCn:qaB s.clusters rc=⟨#[]⟩:=by unfold qaB;rw [if_neg hC]
    by_cases hC0:0≤rc
    ·conv=>whnf
     refine⟨fun _=>?_,fun hx=>absurd (((decide_eq_true hC0)).symm.trans hx) (by decide)⟩
     repeat((conv=>whnf);first|refine qz ?_|intro(_:Nat)|intro(_:OA)_)
     conv=>whnf
     refine⟨fun hx=>absurd (hx.symm.trans ((decide_eq_false (show ¬ rc<s.clusters.length from fun h=>hC ⟨hC0,h⟩)))) (by decide),fun _=>?_⟩
     repeat((conv=>whnf);first|refine qz ?_|intro(_:Nat)|intro(_:OA)_)
     conv=>whnf
     refine⟨⟨by unfold maxLen;omega,by omega⟩,fun oa2 cap2=>?_⟩
     repeat((conv=>whnf);first|refine qz ?_|intro(_:Nat)|intro(_:OA)_)
     conv=>whnf
     refine fun fr w hw=>⟨(k+1,oa2,cap2),congrArg (fun z=>[Value.int .i64 z]) (wr1 h' b1 b2).symm,h',dec h',hw.fit ?_⟩
     simp only [hT]
     simp [fitL,Res.eqv,qBA,conc,qEB,hAn,hCn]
    ·conv=>whnf
     refine⟨fun hx=>absurd (hx.symm.trans ((decide_eq_false hC0))) (by decide),fun _=>?_⟩
     repeat((conv=>whnf);first|refine qz ?_|intro(_:Nat)|intro(_:OA)_)
     conv=>whnf
     refine⟨⟨by unfold maxLen;omega,by omega⟩,fun oa2 cap2=>?_⟩
     repeat((conv=>whnf);first|refine qz ?_|intro(_:Nat)|intro(_:OA)_)
     conv=>whnf
     refine fun fr w hw=>⟨(k+1,oa2,cap2),congrArg (fun z=>[Value.int .i64 z]) (wr1 h' b1 b2).symm,h',dec h',hw.fit ?_⟩
     simp only [hT]
     simp [fitL,Res.eqv,qBA,conc,qEB,hAn,hCn]
   ·conv=>whnf
    refine⟨fun hx=>absurd (hx.symm.trans ((decide_eq_false hA0))) (by decide),fun _=>?_⟩
    repeat((conv=>whnf);first|refine qz ?_|intro(_:Nat)|intro(_:OA)_)
    by_cases hC:0≤rc∧rc<s.clusters.length
    ·obtain⟨m,rfl⟩:=Int.eq_ofNat_of_zero_le hC.1
     obtain⟨z,hz⟩:=qAA (show m<s.clusters.length by omega)
     obtain⟨aC,rfl,ecC,hecC,⟨hv,rfl,_,_,_,_,rfl,_⟩,hcC⟩:=hk1 m z hz
     have hCn:qaB s.clusters (m:Int)=z.name:=by unfold qaB;rw [if_pos hC];simp [hz]
     conv=>whnf
     refine⟨fun _=>?_,fun hx=>absurd (((decide_eq_true hC.1)).symm.trans hx) (by decide)⟩
     repeat((conv=>whnf);first|refine qz ?_|intro(_:Nat)|intro(_:OA)_)
     conv=>whnf
     refine⟨fun _=>?_,fun hx=>absurd (((decide_eq_true hC.2)).symm.trans hx) (by decide)⟩
     repeat((conv=>whnf);first|refine qz ?_|intro(_:Nat)|intro(_:OA)_)
     conv=>whnf
     refine⟨aC,rfl,⟨hC.1,hC.2⟩,?_⟩
     conv=>whnf
     refine⟨_,hcC 0 _ rfl,?_⟩
     repeat((conv=>whnf);first|refine qz ?_|intro(_:Nat)|intro(_:OA)_)
     conv=>whnf
     refine⟨⟨by unfold maxLen;omega,by omega⟩,fun oa2 cap2=>?_⟩
     repeat((conv=>whnf);first|refine qz ?_|intro(_:Nat)|intro(_:OA)_)
     conv=>whnf
     refine fun fr w hw=>⟨(k+1,oa2,cap2),congrArg (fun z=>[Value.int .i64 z]) (wr1 h' b1 b2).symm,h',dec h',hw.fit ?_⟩
     simp only [hT]
     simp [fitL,Res.eqv,qBA,conc,qEB,hAn,hCn]
    have hCn:qaB s.clusters rc=⟨#[]⟩:=by unfold qaB;rw [if_neg hC]
    by_cases hC0:0≤rc
    ·conv=>whnf
     refine⟨fun _=>?_,fun hx=>absurd (((decide_eq_true hC0)).symm.trans hx) (by decide)⟩
     repeat((conv=>whnf);first|refine qz ?_|intro(_:Nat)|intro(_:OA)_)
     conv=>whnf
     refine⟨fun hx=>absurd (hx.symm.trans ((decide_eq_false (show ¬ rc<s.clusters.length from fun h=>hC ⟨hC0,h⟩)))) (by decide),fun _=>?_⟩
     repeat((conv=>whnf);first|refine qz ?_|intro(_:Nat)|intro(_:OA)_)
     conv=>whnf
     refine⟨⟨by unfold maxLen;omega,by omega⟩,fun oa2 cap2=>?_⟩
     repeat((conv=>whnf);first|refine qz ?_|intro(_:Nat)|intro(_:OA)_)
     conv=>whnf
     refine fun fr w hw=>⟨(k+1,oa2,cap2),congrArg (fun z=>[Value.int .i64 z]) (wr1 h' b1 b2).symm,h',dec h',hw.fit ?_⟩
     simp only [hT]
     simp [fitL,Res.eqv,qBA,conc,qEB,hAn,hCn]
    ·conv=>whnf
     refine⟨fun hx=>absurd (hx.symm.trans ((decide_eq_false hC0))) (by decide),fun _=>?_⟩
     repeat((conv=>whnf);first|refine qz ?_|intro(_:Nat)|intro(_:OA)_)
     conv=>whnf
     refine⟨⟨by unfold maxLen;omega,by omega⟩,fun oa2 cap2=>?_⟩
     repeat((conv=>whnf);first|refine qz ?_|intro(_:Nat)|intro(_:OA)_)
     conv=>whnf
     refine fun fr w hw=>⟨(k+1,oa2,cap2),congrArg (fun z=>[Value.int .i64 z]) (wr1 h' b1 b2).symm,h',dec h',hw.fit ?_⟩
     simp only [hT]
     simp [fitL,Res.eqv,qBA,conc,qEB,hAn,hCn]
  have hz1:k=s.rules.length:=by have:=of_decide_eq_false hlt;omega
  subst hz1
  repeat((conv=>whnf);first|refine qz ?_|intro(_:Nat)|intro(_:OA)_)
  conv=>whnf
  refine fun g1 hg1 hn1 hp1=>?_
  conv=>whnf
  intro g2 hg
  refine⟨_,_,_,rfl,(qSM hp1.rd (qVD s).routes qJW ?_ (by simp [qVD]) (fun _ _=>rfl) fun _ _=>rfl).mono qsJ hg⟩
  rw [List.take_of_length_le (Nat.le_refl _)];simp [qVD,List.map_map,Function.comp_def])
/- What is the same. -/
open Go.Proofs.YthonngjhelcpeaaGreat.Sx Go.RowKit
theorem qrP {α:Type} {l m:List α} {k:Nat} {x y:α} (h:l.take k=m.take k) (hx:l[k]?=some x) (hy:m[k]?=some y) (e:x=y):l.take (k+1)=m.take (k+1):=by
 obtain⟨h1,h2⟩:=List.getElem?_eq_some_iff.1 hx
 obtain⟨h3,h4⟩:=List.getElem?_eq_some_iff.1 hy
 rw [List.take_succ_eq_append_getElem h1,List.take_succ_eq_append_getElem h3,h,h2,h4,e]
theorem qaW {a b:Snap} (h1:a.listens=b.listens) (h2:a.rules=b.rules) (h3:a.clusters=b.clusters):a=b:=by
 cases a;cases b;simp_all
theorem qaR (g:GW) {v v':Value} {l m:List BA} (hl:rSl 1 rStr g v l) (hm':rSl 1 rStr g v' m):OkV Tryz.prog qYF [v,v'] g (.bool (eqB l m)):=by
 obtain⟨oa,ca,rfl,a1,a2,a0,hl1⟩:=id hl
 obtain⟨ob,cb,rfl,b1,b2,b0,hr1⟩:=id hm'
 exact Ok.of_fn hm noT 0 qLF (args:=[.v (.slice oa l.length ca),.v (.slice ob m.length cb)]) (by
  repeat((conv=>whnf);first|refine qz ?_|intro(_:Nat))
  conv=>whnf
  refine⟨fun k3=>?_,fun k3=>?_⟩
  ·conv=>whnf
   intro g2 hg
   rw [qCP (fun e=>by rw [e] at k3;simp at k3)]
  have k3:l.length=m.length:=by simp at k3;omega
  repeat((conv=>whnf);first|refine qz ?_|intro(_:Nat))
  conv=>whnf
  refine⟨Nat,fun k=>[.v (.int .i64 k)],fun _=>⟨g,[],_,_⟩,fun k=>k≤l.length∧l.take k=m.take k,fun k=>l.length-k,qHA 0 rfl ⟨Nat.zero_le _,rfl⟩ rfl,?_⟩
  rintro k ⟨hkk,hp⟩
  repeat((conv=>whnf);first|refine qz ?_|intro(_:Nat))
  conv=>whnf
  refine⟨fun hlt=>?_,fun hlt=>?_⟩
  ·have h':k<l.length:=by have:=of_decide_eq_true hlt;omega
   obtain⟨u,hu⟩:=qAA h'
   obtain⟨v,hv⟩:=qAA (show k<m.length by omega)
   obtain⟨a,rfl,ec,hec,rfl,hc⟩:=hl1 k u hu
   obtain⟨a',rfl,ec',hec',rfl,hc'⟩:=hr1 k v hv
   repeat((conv=>whnf);first|refine qz ?_|intro(_:Nat))
   conv=>whnf
   refine⟨a,rfl,⟨by omega,by omega⟩,?_⟩
   conv=>whnf
   refine⟨_,hc 0 _ rfl,?_⟩
   repeat((conv=>whnf);first|refine qz ?_|intro(_:Nat))
   conv=>whnf
   refine⟨a',rfl,⟨by omega,by omega⟩,?_⟩
   conv=>whnf
   refine⟨_,hc' 0 _ rfl,?_⟩
   repeat((conv=>whnf);first|refine qz ?_|intro(_:Nat))
   conv=>whnf
   refine⟨fun he=>?_,fun he=>?_⟩
   ·conv=>whnf
    intro g2 hg
    rw [qCP (fun e=>?_)]
    rw [← e,hu] at hv
    cases hv
    simp at he
   ·have huv:u=v:=qRS (by simpa using he)
    conv=>whnf
    refine fun fr w hw=>⟨k+1,congrArg (fun z=>[Value.int .i64 z]) (wr1 h' a1 a2).symm,⟨h',qrP hp hu hv huv⟩,dec h',hw⟩
  ·conv=>whnf
   intro g2 hg
   have:=of_decide_eq_false hlt
   rw [List.take_of_length_le (by omega),List.take_of_length_le (by omega)] at hp
   rw [qBP hp])
theorem q2N (g:GW) {v v':Value} {l m:List Cluster} (hl:rSl 4 qIB g v l) (hm':rSl 4 qIB g v' m):OkV Tryz.prog qaE [v,v'] g (.bool (eqB l m)):=by
 obtain⟨oa,ca,rfl,a1,a2,a0,hl1⟩:=id hl
 obtain⟨ob,cb,rfl,b1,b2,b0,hr1⟩:=id hm'
 exact Ok.of_fn hm noT 0 qRE (args:=[.v (.slice oa l.length ca),.v (.slice ob m.length cb)]) (by
  repeat((conv=>whnf);first|refine qz ?_|intro(_:Nat))
  conv=>whnf
  refine⟨fun k3=>?_,fun k3=>?_⟩
  ·conv=>whnf
   intro g2 hg
   rw [qCP (fun e=>by rw [e] at k3;simp at k3)]
  have k3:l.length=m.length:=by simp at k3;omega
  repeat((conv=>whnf);first|refine qz ?_|intro(_:Nat))
  conv=>whnf
  refine⟨Nat,fun k=>[.v (.int .i64 k)],fun _=>⟨g,[],_,_⟩,fun k=>k≤l.length∧l.take k=m.take k,fun k=>l.length-k,qHA 0 rfl ⟨Nat.zero_le _,rfl⟩ rfl,?_⟩
  rintro k ⟨hkk,hp⟩
  repeat((conv=>whnf);first|refine qz ?_|intro(_:Nat))
  conv=>whnf
  refine⟨fun hlt=>?_,fun hlt=>?_⟩
  rotate_left
  ·conv=>whnf
   intro g2 hg
   have:=of_decide_eq_false hlt
   rw [List.take_of_length_le (by omega),List.take_of_length_le (by omega)] at hp
   rw [qBP hp]
  have h':k<l.length:=by have:=of_decide_eq_true hlt;omega
  obtain⟨u,hu⟩:=qAA h'
  obtain⟨v,hv⟩:=qAA (show k<m.length by omega)
  obtain⟨a,rfl,ec,hec,⟨hvu,rfl,_,_,ohu,chu,rfl,q1,q2,q0,hq⟩,hc⟩:=hl1 k u hu
  obtain⟨a',rfl,ec',hec',⟨hvv,rfl,_,_,ohv,chv,rfl,r1,r2,r0,hr⟩,hc'⟩:=hr1 k v hv
  have ne:u≠v→eqB l m=false:=fun h=>qCP fun e=>h (by rw [e,hv] at hu;cases hu;rfl)
  repeat((conv=>whnf);first|refine qz ?_|intro(_:Nat))
  conv=>whnf
  refine⟨a,rfl,⟨by omega,by omega⟩,?_⟩
  conv=>whnf
  refine⟨_,hc 0 _ rfl,?_⟩
  repeat((conv=>whnf);first|refine qz ?_|intro(_:Nat))
  conv=>whnf
  refine⟨a',rfl,⟨by omega,by omega⟩,?_⟩
  conv=>whnf
  refine⟨_,hc' 0 _ rfl,?_⟩
  repeat((conv=>whnf);first|refine qz ?_|intro(_:Nat))
  conv=>whnf
  refine⟨fun c0=>?_,fun c0=>?_⟩
  ·conv=>whnf
   intro g2 hg
   rw [ne fun e=>by subst e;simp at c0]
  repeat((conv=>whnf);first|refine qz ?_|intro(_:Nat))
  conv=>whnf
  refine⟨a,rfl,⟨by omega,by omega⟩,?_⟩
  conv=>whnf
  refine⟨_,hc 1 _ rfl,?_⟩
  repeat((conv=>whnf);first|refine qz ?_|intro(_:Nat))
  conv=>whnf
  refine⟨a',rfl,⟨by omega,by omega⟩,?_⟩
  conv=>whnf
  refine⟨_,hc' 1 _ rfl,?_⟩
  repeat((conv=>whnf);first|refine qz ?_|intro(_:Nat))
  conv=>whnf
  refine⟨fun c1=>?_,fun c1=>?_⟩
  ·conv=>whnf
   intro g2 hg
   rw [ne fun e=>by subst e;simp at c1]
  repeat((conv=>whnf);first|refine qz ?_|intro(_:Nat))
  conv=>whnf
  refine⟨a,rfl,⟨by omega,by omega⟩,?_⟩
  conv=>whnf
  refine⟨_,hc 2 _ rfl,?_⟩
  repeat((conv=>whnf);first|refine qz ?_|intro(_:Nat))
  conv=>whnf
  refine⟨a',rfl,⟨by omega,by omega⟩,?_⟩
  conv=>whnf
  refine⟨_,hc' 2 _ rfl,?_⟩
  repeat((conv=>whnf);first|refine qz ?_|intro(_:Nat))
  conv=>whnf
  refine⟨fun c2=>?_,fun c2=>?_⟩
  ·conv=>whnf
   intro g2 hg
   rw [ne fun e=>by subst e;simp at c2]
  repeat((conv=>whnf);first|refine qz ?_|intro(_:Nat))
  conv=>whnf
  refine⟨a,rfl,⟨by omega,by omega⟩,?_⟩
  conv=>whnf
  refine⟨_,hc 3 _ rfl,?_⟩
  repeat((conv=>whnf);first|refine qz ?_|intro(_:Nat))
  conv=>whnf
  refine⟨a',rfl,⟨by omega,by omega⟩,?_⟩
  conv=>whnf
  refine⟨_,hc' 3 _ rfl,?_⟩
  repeat((conv=>whnf);first|refine qz ?_|intro(_:Nat))
  conv=>whnf
  refine⟨fun c3=>?_,fun c3=>?_⟩
  ·conv=>whnf
   intro g2 hg
   rw [ne fun e=>by subst e;simp at c3]
  have d0:u.name=v.name:=qRS (by simpa using c0)
  have d1:u.policy=v.policy:=by simpa using c1
  have d2:u.slots=v.slots:=by simpa using c2
  have d3:u.health.length=v.health.length:=by simp at c3;omega
  clear c0 c1 c2 c3
  repeat((conv=>whnf);first|refine qz ?_|intro(_:Nat))
  conv=>whnf
  refine⟨Nat,fun n=>[.v (.int .i64 n)],fun _=>⟨g,[],_,_⟩,fun n=>n≤u.health.length∧u.health.take n=v.health.take n,fun n=>u.health.length-n,qHA 0 rfl ⟨Nat.zero_le _,rfl⟩ rfl,?_⟩
  rintro n ⟨hnn,hpn⟩
  repeat((conv=>whnf);first|refine qz ?_|intro(_:Nat))
  conv=>whnf
  refine⟨a,rfl,⟨by omega,by omega⟩,?_⟩
  conv=>whnf
  refine⟨_,hc 3 _ rfl,?_⟩
  repeat((conv=>whnf);first|refine qz ?_|intro(_:Nat))
  conv=>whnf
  refine⟨fun hltn=>?_,fun hltn=>?_⟩
  ·have hn':n<u.health.length:=by have:=of_decide_eq_true hltn;omega
   obtain⟨p,hp'⟩:=qAA hn'
   obtain⟨q,hq'⟩:=qAA (show n<v.health.length by omega)
   obtain⟨aa,rfl,ecc,hecc,rfl,hcc⟩:=hq n p hp'
   obtain⟨aa',rfl,ecc',hecc',rfl,hcc'⟩:=hr n q hq'
   conv=>whnf
   refine⟨a,rfl,⟨by omega,by omega⟩,?_⟩
   conv=>whnf
   refine⟨_,hc 3 _ rfl,?_⟩
   repeat((conv=>whnf);first|refine qz ?_|intro(_:Nat))
   conv=>whnf
   refine⟨aa,rfl,⟨by omega,by omega⟩,?_⟩
   conv=>whnf
   refine⟨_,hcc 0 _ rfl,?_⟩
   repeat((conv=>whnf);first|refine qz ?_|intro(_:Nat))
   conv=>whnf
   refine⟨a',rfl,⟨by omega,by omega⟩,?_⟩
   conv=>whnf
   refine⟨_,hc' 3 _ rfl,?_⟩
   repeat((conv=>whnf);first|refine qz ?_|intro(_:Nat))
   conv=>whnf
   refine⟨aa',rfl,⟨by omega,by omega⟩,?_⟩
   conv=>whnf
   refine⟨_,hcc' 0 _ rfl,?_⟩
   repeat((conv=>whnf);first|refine qz ?_|intro(_:Nat))
   conv=>whnf
   refine⟨fun he=>?_,fun he=>?_⟩
   ·conv=>whnf
    intro g2 hg
    rw [ne fun e=>?_]
    subst e
    rw [hp'] at hq'
    cases hq'
    simp at he
   ·conv=>whnf
    refine fun fr w hw=>⟨n+1,congrArg (fun z=>[Value.int .i64 z]) (wr1 hn' q1 q2).symm,⟨hn',qrP hpn hp' hq' (by simpa using he)⟩,dec hn',hw⟩
  have huv:u=v:=qXT d0 d1 d2 (by
   have:=of_decide_eq_false hltn
   rwa [List.take_of_length_le (by omega),List.take_of_length_le (by omega)] at hpn)
  conv=>whnf
  refine fun fr w hw=>⟨k+1,congrArg (fun z=>[Value.int .i64 z]) (wr1 h' a1 a2).symm,⟨h',qrP hp hu hv huv⟩,dec h',hw⟩)
theorem qWY (g:GW) {cs cs':List Value} {x y:Snap} (hx:qRH g cs x) (hy:qRH g cs' y):OkV Tryz.prog qCK [.agg ⟨cs⟩,.agg ⟨cs'⟩] g (.bool (eqB x y)):=by
 obtain⟨a,b,d,rfl,hl,hr,hk⟩:=hx
 obtain⟨a',b',d',rfl,hl',hr',hk'⟩:=hy
 obtain⟨oa,ca,rfl,a1,a2,a0,hl1⟩:=id hl
 obtain⟨ob,cb,rfl,b1,b2,b0,hr1⟩:=id hr
 obtain⟨od,cd,rfl,d1,d2,d0,hk1⟩:=id hk
 obtain⟨oe,ce,rfl,e1,e2,e0,hl1'⟩:=id hl'
 obtain⟨og,cg,rfl,f1,f2,f0,hr1'⟩:=id hr'
 obtain⟨oh,ch,rfl,g1,g2,g0,hk1'⟩:=id hk'
 exact Ok.of_fn hm noT 0 qfJ (args:=[.v (.agg ⟨[.slice oa x.listens.length ca,.slice ob x.rules.length cb,.slice od x.clusters.length cd]⟩),.v (.agg ⟨[.slice oe y.listens.length ce,.slice og y.rules.length cg,.slice oh y.clusters.length ch]⟩)]) (by
  repeat((conv=>whnf);first|refine qz ?_|intro(_:Nat))
  conv=>whnf
  refine .inl ⟨_,qaR _ hl hl',?_⟩
  conv=>whnf
  refine⟨fun k1=>?_,fun k1=>?_⟩
  ·conv=>whnf
   intro g2 hg
   rw [qCP (fun e=>by rw [e,qBP rfl] at k1;cases k1)]
  have k1:=eqB_iff.1 (nb0 k1)
  repeat((conv=>whnf);first|refine qz ?_|intro(_:Nat))
  conv=>whnf
  refine .inl ⟨_,q2N _ hk hk',?_⟩
  conv=>whnf
  refine⟨fun k2=>?_,fun k2=>?_⟩
  ·conv=>whnf
   intro g2 hg
   rw [qCP (fun e=>by rw [e,qBP rfl] at k2;cases k2)]
  have k2:=eqB_iff.1 (nb0 k2)
  repeat((conv=>whnf);first|refine qz ?_|intro(_:Nat))
  conv=>whnf
  refine⟨fun k3=>?_,fun k3=>?_⟩
  ·conv=>whnf
   intro g2 hg
   rw [qCP (fun e=>by rw [e] at k3;simp at k3)]
  have k3:x.rules.length=y.rules.length:=by simp at k3;omega
  repeat((conv=>whnf);first|refine qz ?_|intro(_:Nat))
  conv=>whnf
  refine⟨Nat,fun k=>[.v (.int .i64 k)],fun _=>⟨g,[.blk 1 _ _ [.v (.slice oe y.listens.length ce),.v (.slice og y.rules.length cg),.v (.slice oh y.clusters.length ch)],.blk 0 _ _ [.v (.slice oa x.listens.length ca),.v (.slice ob x.rules.length cb),.v (.slice od x.clusters.length cd)]],_,_⟩,fun k=>k≤x.rules.length∧x.rules.take k=y.rules.take k,fun k=>x.rules.length-k,qHA 0 rfl ⟨Nat.zero_le _,rfl⟩ rfl,?_⟩
  rintro k ⟨hkk,hp⟩
  repeat((conv=>whnf);first|refine qz ?_|intro(_:Nat))
  conv=>whnf
  refine⟨fun hlt=>?_,fun hlt=>?_⟩
  ·have h':k<x.rules.length:=by have:=of_decide_eq_true hlt;omega
   obtain⟨u,hu⟩:=qAA h'
   obtain⟨v,hv⟩:=qAA (show k<y.rules.length by omega)
   obtain⟨a,rfl,ec,hec,⟨rfl,_,_⟩,hc⟩:=hr1 k u hu
   obtain⟨a',rfl,ec',hec',⟨rfl,_,_⟩,hc'⟩:=hr1' k v hv
   repeat((conv=>whnf);first|refine qz ?_|intro(_:Nat))
   conv=>whnf
   refine⟨a,rfl,⟨by omega,by omega⟩,?_⟩
   conv=>whnf
   refine⟨_,⟨rfl,hc⟩,?_⟩
   repeat((conv=>whnf);first|refine qz ?_|intro(_:Nat))
   conv=>whnf
   refine⟨a',rfl,⟨by omega,by omega⟩,?_⟩
   conv=>whnf
   refine⟨_,⟨rfl,hc'⟩,?_⟩
   repeat((conv=>whnf);first|refine qz ?_|intro(_:Nat))
   conv=>whnf
   refine⟨fun he=>?_,fun he=>?_⟩
   ·conv=>whnf
    intro g2 hg
    rw [qCP (fun e=>?_)]
    rw [← e,hu] at hv
    cases hv
    simp at he
   ·have huv:u=v:=by simp only [Bool.and_eq_true,beq_iff_eq,Bool.not_eq_false'] at he;exact qfW (by simpa using he.1) (qRS (by simpa using he.2.1)) (qRS (by simpa using he.2.2.1)) (by simpa using he.2.2.2)
    conv=>whnf
    refine fun fr w hw=>⟨k+1,congrArg (fun z=>[Value.int .i64 z]) (wr1 h' b1 b2).symm,⟨h',qrP hp hu hv huv⟩,dec h',?_⟩
    exact hw.fit (by simp [fitL,Res.eqv,qBA,conc])
  ·conv=>whnf
   intro g2 hg
   have:=of_decide_eq_false hlt
   rw [qBP (show x=y from ?_)]
   rw [List.take_of_length_le (by omega),List.take_of_length_le (by omega)] at hp
   exact qaW k1 hp k2)
end Go.Proofs.YthonngjhelcpeaaGreat
