import Derived.Test.YtlmhpamhhgogaaaGreatP0
set_option linter.all false
set_option maxHeartbeats 16000000
set_option maxRecDepth 100000
open Bool renaming false→zb,true→I
open Classical renaming propDecidable→zBb
open Go renaming Value→zg
open Go.IntKind renaming i64→zAj,wrap_i64→zBz
open Option renaming some→O,none→zc
open _root_ renaming List→F,Nat→Z,Int→zt,Option→zy,Bool→zO,False→zX
namespace Go.Proofs.YtlmhpamhhgogaaaGreat.Sx
structure AQ(k:zt)(w:Wd)(m:Ah)(n:zt):Prop where
 AA:qzA w m=I
 pc:m.pc=k
 la:∀x∈w.Aa,x.Ae<=n+1/\(k<=4->x.Ae<=n)
 ea:∀v∈w.Ab,∀g∈v.Aj,∀e∈g.ends,e.Ae<=n+1/\(k<=12->e.Ae<=n)
 range:0<=k/\k<=23/\¬(12<k/\k<20):=by omega
 lst:k=4\/k=5\/k=22->0<=m.listen:=by intros;omega
 pin:k<3->FF w m:=by intros;omega
 ver:4<=k->m.Ac=w.current:=by intros;omega
 nul:4<=k->k<=8->m.slot=0:=by intros;omega
 nu2:4<=k->k<=5->m.Ak=0/\m.other=0:=by intros;omega
 lis:5<=k->k<=22->0<=m.listen->1<=(mL w m).Ae:=by intros;omega
 hd:10<=k->k<=11->m.word=(mE w m m.Ak).head/\m.slot=AX m.word:=by intros;omega
 lk:k=11->m.link=DM (mE w m m.Ak).next m.slot:=by intros;omega
 kd:20<=k->1<=m.answer.kind/\m.answer.kind<=5:=by intros;omega
def AQ.go{k}{w}{m:Ah}{n}(h:AQ k w m n):hGo w m:=
 ⟨h.AA,by rw[h.pc];exact h.range,by rw[h.pc];intro q;have:=h.lst q.2;omega⟩
structure GF(w:Wd)(m:Ah)(w':Wd)(m':Ah)(e:Ev):Prop where
 acc:e.access≠0
 thr:e.Al=m.Al
 right:wdB w'=I
 cur:w'.current=w.current
 ep:w'.Ai=w.Ai
 thr':m'.Al=m.Al
 op:m'.op=m.op
 ver:0<=e.Ac->e.Ac=w.current/\e.Ba=zb
 done:e.done=m'.done
 ans:e.done=I->e.answer=m'.answer
def Ay.AA{w}{m:Ah}{v}{gr}{en}(h:Ay w m v gr en):qzA w m=I:=Am.2 ⟨v,gr,en,h⟩
def Ay.mE{w:Wd}{m:Ah}{v:AM}{gr:Bi}{en:Bw}(h:Ay w m v gr en):mE w m m.Ak=en:=h.at_.2.2
def Ay.BJ{w}{m m':Ah}{v}{gr}{en}(h:Ay w m v gr en)(q:m'.Al=m.Al)(k2:m'.done=m.done)(k3:m'.Ac=m.Ac)(u:m'.Af=m.Af)(A:m'.Ak=m.Ak)(k6:m'.other=m.other)(B:m'.slot=m.slot)(C:m'.listen=m.listen)(D:0<=m'.i)(E:m'.k=m.k):Ay w m' v gr en:=
 ⟨h.right,by rw[q];exact h.Al,by rw[k2];exact h.done,by rw[k3];exact h.ver,by rw[u];exact h.clu,by rw[A];exact h.Ak,by rw[k6];exact h.other,by rw[B];exact h.slot,by rw[C];exact h.listen,D,by rw[E];exact h.k⟩
section
variable{k n:zt}{w:Wd}{m:Ah}
def AQ.Ba(h:AQ k w m n)(u:4<=k):m.Ac=w.current/\(mV w m).Ba=zb:=by
 obtain⟨v,C,D,q⟩:=Am.1 h.AA;obtain⟨E,A,B,_⟩:=qHK q.right;have hm:=h.ver u;refine⟨hm,?_⟩;rw[q.at_.1];have:=q.ver.2;rw[hm,A]at this;cases this;exact B
def qPE(h:AQ k w m n)(q:4<=k){a c x}(u:a≠0){w'}{m':Ah}(A:wdB w'=I)(B:w'.current=w.current)(C:w'.Ai=w.Ai)(D:m'.Al=m.Al)(E:m'.op=m.op)(hd:m'.done=zb):GF w m w' m' (evV w m a c x):=by
 obtain⟨H,L⟩:=h.Ba q;exact⟨u,rfl,A,B,C,D,E,λ_=>⟨H,L⟩,hd.symm,λP=>by cases P⟩
def qeD{a c x}(q:a≠0){w'}{m':Ah}(u:wdB w'=I)(A:w'.current=w.current)(B:w'.Ai=w.Ai)(C:m'.Al=m.Al)(D:m'.op=m.op)(hd:m'.done=zb):GF w m w' m' (evO m a c x):=
 ⟨q,rfl,u,A,B,C,D,λh=>by have:(-1:zt)>=0:=h;omega,hd.symm,λh=>by cases h⟩
def qZN{a c x}(q:a≠0){w'}{m':Ah}(u:wdB w'=I)(A:w'.current=w.current)(B:w'.Ai=w.Ai)(C:m'.Al=m.Al)(D:m'.op=m.op)(hd:m'.done=zb):GF w m w' m' {evO m a c x with EE:=I}:=
 ⟨q,rfl,u,A,B,C,D,λh=>by have:(-1:zt)>=0:=h;omega,hd.symm,λh=>by cases h⟩
end
abbrev q4C(w:Wd)(m:Ah)(n:zt):Prop:=GF w m (hsW w m) (hsM w m) (hsE w m)/\∃k,AQ k (hsW w m) (hsM w m) n
def Ay.zero{w}{m:Ah}{v}{gr}{en}(h:Ay w m v gr en){i j}{v'}{q}(u:0<=i/\w.Ab[i.toNat]?=O v')(A:0<=j/\v'.Aj[j.toNat]?=O q){k o}(D:0<=k/\k<q.ends.length)(E:0<=o/\o<q.ends.length)(m':Ah)(H:m'.Al=m.Al)(k2:m'.done=m.done)(k3:m'.Ac=i)(L:m'.Af=j)(P:m'.Ak=k)(k6:m'.other=o)(Q:m'.slot=0)(R:-1<=m'.listen/\m'.listen<w.Aa.length)(T:m'.i=m.i)(U:m'.k=m.k):qzA w m'=I:=by
 have V:=qaC h.right u.2;obtain⟨c,_,_,_,_,_,W⟩:=V.ends A.2;obtain⟨B,C⟩:=qEA (l:=q.ends) (i:=k.toNat) sa;have Y:=(W B (zh C)).2;exact Ay.AA (v:=v') (gr:=q) (en:=B) ⟨h.right,by rw[H];exact h.Al,by rw[k2];exact h.done,by rw[k3];exact u,by rw[L];exact A,by rw[P];exact⟨D.1,C⟩,by rw[k6];exact E,by rw[Q];omega,R,by rw[T];exact h.i,by rw[U];exact h.k⟩
def q8S(l)(s):-1<=qlA l s/\qlA l s<l.length:=by
 rcases Int.lt_or_le (qlA l s) 0 with h|h
 .refine⟨?_,sa⟩;unfold qlA at h⊢;cases q:BM (λ(x:AI)=>bs x.name==bs s) l with
  |none=>rw[q]at h;exact(by decide:(-1:zt)<= -1)
  |some j=>rw[q]at h;simp only[Cz]at h;omega
 .obtain⟨_,_,u⟩:=qfR h;omega
section
variable{n:zt}{w:Wd}{m:Ah}
def AQ.s3(h:AQ 3 w m n):q4C w m n:=by
 obtain⟨H,L,P⟩:=qmB h.go (by rw[h.pc];decide);obtain⟨Q,R,kE⟩:=ha3 h.pc;unfold q4C;rw[H,L,P,Q,R,kE];obtain⟨v,V,W,q⟩:=Am.1 h.AA;obtain⟨T,u,_,U,Y⟩:=qHK q.right;have D:=qaC q.right u;obtain⟨aa,A⟩:=qEA (l:=T.Aj) (i:=0) (by have:=D.Aj;omega);obtain⟨c,_,_,ab,_,_,ac⟩:=D.ends A;have E:=q8S w.Aa m.op.listen;have S:=q.zero (i:=w.current) (j:=0) ⟨U,u⟩ ⟨zAS _,A⟩ (k:=0) (o:=0) sa sa;unfold hM3;split
 .exact⟨qZN sb q.right rfl rfl rfl rfl q.done,20,{AA:=S _ rfl rfl rfl rfl rfl rfl rfl E rfl rfl,pc:=rfl,la:=λx B=>⟨(h.la x B).1,sg⟩,ea:=λv u g A e C=>⟨(h.ea v u g A e C).1,sg⟩,ver:=λ_=>rfl,lis:=λ_ _(B:0<=qlA w.Aa m.op.listen)=>sa,kd:=λ_=>show(1:zt)<=2/\(2:zt)<=5 by decide}⟩
 .rename_i ad;exact⟨qZN sb q.right rfl rfl rfl rfl q.done,4,{AA:=S _ rfl rfl rfl rfl rfl rfl rfl E rfl rfl,pc:=rfl,la:=λx B=>⟨(h.la x B).1,λ_=>(h.la x B).2 sb⟩,ea:=λv u g A e C=>⟨(h.ea v u g A e C).1,λ_=>(h.ea v u g A e C).2 sb⟩,lst:=λ_=>by show 0<=qlA w.Aa m.op.listen;omega,ver:=λ_=>rfl,nul:=λ_ _=>rfl,nu2:=λ_ _=>⟨rfl,rfl⟩}⟩
def q9Y{x x'}(h:w.Aa[m.listen.toNat]?=O x):mL (BG w m x') m=x':=by
 unfold mL;show((w.Aa.set m.listen.toNat x')[m.listen.toNat]?).getD _=_;rw[qpA h];rfl
def Di{x}:qpJ x=I<->qDE (bs x.name)=I/\0<=x.Ae/\(x.drain||!x.closed)=I:=by
 unfold qpJ;simp only[zl,zF,and_assoc]
def qAO{x}(h:InR x):wI x=x:=wr h
def AQ.s4(h:AQ 4 w m n)(V:0<=n/\n<=2000000):q4C w m n:=by
 obtain⟨L,P,Q⟩:=qmB h.go (by rw[h.pc];decide);obtain⟨R,T,kE⟩:=ha4 h.pc;unfold q4C;rw[L,P,Q,R,T,kE];obtain⟨v,W,Y,q⟩:=Am.1 h.AA;have C:=h.lst (.inl rfl);obtain⟨A,u⟩:=q.lis C;have aa:=(h.la _ (zh A)).2 sb;obtain⟨g1,g2,g3⟩:=Di.1 u;have U:wI ((mL w m).Ae+1)=(mL w m).Ae+1:=qAO si;rw[U];have D:=qiE q.right A (x':={mL w m with Ae:=(mL w m).Ae+1}) rfl (Di.2 ⟨g1,by show 0<=(mL w m).Ae+1;omega,g3⟩);refine⟨qeD sb D rfl rfl rfl rfl q.done,5,{AA:=((q.BG D).BJ (m':={m with pc:=5}) rfl rfl rfl rfl rfl rfl rfl rfl q.i rfl).AA,pc:=rfl,la:=λy B=>⟨?_,sg⟩,ea:=λv E g u e H=>⟨(h.ea v E g u e H).1,λ_=>(h.ea v E g u e H).2 sb⟩,lst:=λ_=>C,ver:=λ_=>h.ver sb,nul:=λ_ _=>h.nul sb sb,nu2:=λ_ _=>h.nu2 sb sb,lis:=λ_ _ _=>?_}⟩
 .rcases zAf B with B|rfl
  .exact(h.la y B).1
  .show(mL w m).Ae+1<=n+1;omega
 .rw[show mL (BG w m {mL w m with Ae:=(mL w m).Ae+1}) {m with pc:=5}={mL w m with Ae:=(mL w m).Ae+1}from q9Y (w:=w) (m:=m) A];show 1<=(mL w m).Ae+1;omega
def qHd{v}(q:mV w m=v){c}{h}(u:v.Aw.Ad[c.toNat]?=O h):mC w {m with Af:=c}=h:=by
 unfold mC;rw[show mV w {m with Af:=c}=v from q];show(v.Aw.Ad[c.toNat]?).getD _=_;rw[u];rfl
def qIK{c}(t)(h:1<=c.Az.length):0<=qvD c t/\qvD c t<c.Az.length:=by
 by_cases q:qFA c=[]
 .have:qvD c t=0:=by simp[qvD,q]
  omega
 .exact qIU q
def AQ.s5(h:AQ 5 w m n):q4C w m n:=by
 obtain⟨ab,ac,ad⟩:=qmB h.go (by rw[h.pc];decide);obtain⟨ae,af,kE⟩:=ha5 h.pc;unfold q4C;rw[ab,ac,ad,ae,af,kE];obtain⟨v,an,ao,q⟩:=Am.1 h.AA;have E:∀x∈w.Aa,x.Ae<=n+1:=λx C=>(h.la x C).1;have H:∀v∈w.Ab,∀g∈v.Aj,∀e∈g.ends,e.Ae<=n+1:=λv u g A e B=>(h.ea v u g A e B).1;have T:∀v∈w.Ab,∀g∈v.Aj,∀e∈g.ends,e.Ae<=n:=λv u g A e B=>(h.ea v u g A e B).2 sb;have L:=h.ver sb;have P:=h.lis sb sb;have Q:=h.nul sb sb;obtain⟨U,V⟩:=h.nu2 sb sb;unfold hM5 hE5;split
 .exact⟨qZN sb q.right rfl rfl rfl rfl q.done,20,{AA:=(q.BJ (m':=qjH m 5) rfl rfl rfl rfl rfl rfl rfl rfl q.i rfl).AA,pc:=rfl,la:=λx C=>⟨E x C,sg⟩,ea:=λv u g A e B=>⟨H v u g A e B,sg⟩,ver:=λ_=>L,lis:=λ_ _=>P,kd:=λ_=>show(1:zt)<=5/\(5:zt)<=5 by decide}⟩
 .unfold Cr;rw[q.at_.1];split
  .exact⟨qeD sb q.right rfl rfl rfl rfl q.done,20,{AA:=(q.BJ (m':=qjH m 2) rfl rfl rfl rfl rfl rfl rfl rfl q.i rfl).AA,pc:=rfl,la:=λx C=>⟨E x C,sg⟩,ea:=λv u g A e B=>⟨H v u g A e B,sg⟩,ver:=λ_=>L,lis:=λ_ _=>P,kd:=λ_=>show(1:zt)<=2/\(2:zt)<=5 by decide}⟩
  .rename_i c ag;have R:=qaC q.right q.ver.2;have ah:=q3J R.AJ ag;obtain⟨W,Y⟩:=qEA (l:=v.Aj) (i:=c.toNat) (by have:=R.len;omega);obtain⟨D,ai,aa,ap,aq,_,_⟩:=R.ends Y;rw[qHd q.at_.1 ai];have S:=λ(k o:zt)(aj:0<=k/\k<W.ends.length)(ak:0<=o/\o<W.ends.length)=>q.zero (i:=m.Ac) (j:=c) q.ver ⟨ah.1,Y⟩ aj ak;split
   .exact⟨qeD sb q.right rfl rfl rfl rfl q.done,20,{AA:=S 0 0 sa sa (qjH {m with Af:=c} 3) rfl rfl rfl rfl U V Q q.listen rfl rfl,pc:=rfl,la:=λx C=>⟨E x C,sg⟩,ea:=λv u g A e B=>⟨H v u g A e B,sg⟩,ver:=λ_=>L,lis:=λ_ _=>P,kd:=λ_=>show(1:zt)<=3/\(3:zt)<=5 by decide}⟩
   .split
    .exact⟨qeD sb q.right rfl rfl rfl rfl q.done,6,{AA:=S 0 0 sa sa {m with Af:=c,pc:=6} rfl rfl rfl rfl U V Q q.listen rfl rfl,pc:=rfl,la:=λx C=>⟨E x C,sg⟩,ea:=λv u g A e B=>⟨H v u g A e B,λ_=>T v u g A e B⟩,ver:=λ_=>L,nul:=λ_ _=>Q,lis:=λ_ _=>P}⟩
    .have al:=qIK (c:=D) m.op.d0 sa;have am:=qIK (c:=D) m.op.d1 sa;exact⟨qeD sb q.right rfl rfl rfl rfl q.done,7,{AA:=S (qeC D m.op.d0) (qeC D m.op.d1) (by rw[aa];exact al) (by rw[aa];exact am) {m with Af:=c,Ak:=qeC D m.op.d0,other:=qeC D m.op.d1,pc:=7} rfl rfl rfl rfl rfl rfl Q q.listen rfl rfl,pc:=rfl,la:=λx C=>⟨E x C,sg⟩,ea:=λv u g A e B=>⟨H v u g A e B,λ_=>T v u g A e B⟩,ver:=λ_=>L,nul:=λ_ _=>Q,lis:=λ_ _=>P}⟩
def AQ.s6(h:AQ 6 w m n):q4C w m n:=by
 obtain⟨P,Q,R⟩:=qmB h.go (by rw[h.pc];decide);obtain⟨T,U,kE⟩:=ha6 h.pc;unfold q4C;rw[P,Q,R,T,U,kE];obtain⟨v,u,aa,q⟩:=Am.1 h.AA;obtain⟨V,W,ab⟩:=q.at_;rw[V,W];have C:=q.HX (wU (u.AF+1));have ac:=q.cl;obtain⟨_,_,_,ad,ae,_,_⟩:=(qaC q.right q.ver.2).ends q.clu.2;have af:=qIK (c:=mC w m) u.AF sa;refine⟨qPE h sb sb C.right rfl rfl rfl rfl q.done,9,{AA:=C.zero C.ver C.clu (k:=qvD (mC w m) u.AF) (o:=m.other) (by show 0<=_/\_<((u.ends.length:Z):zt);omega) q.other {m with Ak:=qvD (mC w m) u.AF,pc:=9} rfl rfl rfl rfl rfl rfl (h.nul sb sb) q.listen rfl rfl,pc:=rfl,la:=λx Y=>⟨(h.la x Y).1,sg⟩,ea:=λH D g A e B=>?_,ver:=λ_=>h.ver sb,lis:=λ_ _=>h.lis sb sb}⟩;rcases zAf D with D|rfl
 .exact⟨(h.ea H D g A e B).1,λ_=>(h.ea H D g A e B).2 sb⟩
 .have E:=zh q.ver.2;rcases zAf A with A|rfl
  .exact⟨(h.ea v E g A e B).1,λ_=>(h.ea v E g A e B).2 sb⟩
  .have L:=zh q.clu.2;exact⟨(h.ea v E u L e B).1,λ_=>(h.ea v E u L e B).2 sb⟩
def AQ.s7(h:AQ 7 w m n):q4C w m n:=by
 obtain⟨D,E,H⟩:=qmB h.go (by rw[h.pc];decide);obtain⟨L,P,kE⟩:=ha7 h.pc;unfold q4C;rw[D,E,H,L,P,kE];obtain⟨v,T,Q,q⟩:=Am.1 h.AA;rw[q.mE];exact⟨qPE h sb sb q.right rfl rfl rfl rfl q.done,8,{AA:=(q.BJ (m':={m with i:=Q.Ae,pc:=8}) rfl rfl rfl rfl rfl rfl rfl rfl (qjB q.BH).2.2.2 rfl).AA,pc:=rfl,la:=λx R=>⟨(h.la x R).1,sg⟩,ea:=λu A g B e C=>⟨(h.ea u A g B e C).1,λ_=>(h.ea u A g B e C).2 sb⟩,ver:=λ_=>h.ver sb,nul:=λ_ _=>h.nul sb sb,lis:=λ_ _=>h.lis sb sb}⟩
def qgV{a x b y k}(h:0<=a/\a<k)(q:0<=b/\b<k):0<=qwF a x b y/\qwF a x b y<k:=by unfold qwF;split<;>assumption
def AQ.s8(h:AQ 8 w m n):q4C w m n:=by
 obtain⟨D,E,H⟩:=qmB h.go (by rw[h.pc];decide);obtain⟨L,P,kE⟩:=ha8 h.pc;unfold q4C;rw[D,E,H,L,P,kE];obtain⟨v,Q,U,q⟩:=Am.1 h.AA;have V:=(ze.1 q.Ak.2).1;have R:=qgV (x:=m.i) (y:=(mE w m m.other).Ae) (k:=Q.ends.length) ⟨q.Ak.1,sa⟩ q.other;exact⟨qPE h sb sb q.right rfl rfl rfl rfl q.done,9,{AA:=q.zero q.ver q.clu (k:=qwF m.Ak m.i m.other (mE w m m.other).Ae) (o:=m.other) R q.other {m with Ak:=qwF m.Ak m.i m.other (mE w m m.other).Ae,pc:=9} rfl rfl rfl rfl rfl rfl (h.nul sb sb) q.listen rfl rfl,pc:=rfl,la:=λx T=>⟨(h.la x T).1,sg⟩,ea:=λu A g B e C=>⟨(h.ea u A g B e C).1,λ_=>(h.ea u A g B e C).2 sb⟩,ver:=λ_=>h.ver sb,lis:=λ_ _=>h.lis sb sb}⟩
def AQ.s9(h:AQ 9 w m n):q4C w m n:=by
 obtain⟨L,P,Q⟩:=qmB h.go (by rw[h.pc];decide);obtain⟨R,T,kE⟩:=ha9 h.pc;unfold q4C;rw[L,P,Q,R,T,kE];obtain⟨v,U,u,q⟩:=Am.1 h.AA;have V:=q.mE;unfold hM9;rw[V];split
 .rename_i W;have H:Ay w {m with word:=u.head,slot:=AX u.head,pc:=10} v U u:=⟨q.right,q.Al,q.done,q.ver,q.clu,q.Ak,q.other,W,q.listen,q.i,q.k⟩;exact⟨qPE h sb sb q.right rfl rfl rfl rfl q.done,10,{AA:=H.AA,pc:=rfl,la:=λx E=>⟨(h.la x E).1,sg⟩,ea:=λA B g C e D=>⟨(h.ea A B g C e D).1,λ_=>(h.ea A B g C e D).2 sb⟩,ver:=λ_=>h.ver sb,lis:=λ_ _=>h.lis sb sb,hd:=λ_ _=>⟨by rw[H.mE],rfl⟩}⟩
 .exact⟨qPE h sb sb q.right rfl rfl rfl rfl q.done,20,{AA:=(q.BJ (m':=qjH {m with word:=u.head} 4) rfl rfl rfl rfl rfl rfl rfl rfl q.i rfl).AA,pc:=rfl,la:=λx E=>⟨(h.la x E).1,sg⟩,ea:=λA B g C e D=>⟨(h.ea A B g C e D).1,sg⟩,ver:=λ_=>h.ver sb,lis:=λ_ _=>h.lis sb sb,kd:=λ_=>show(1:zt)<=4/\(4:zt)<=5 by decide}⟩
def AQ.s10(h:AQ 10 w m n):q4C w m n:=by
 obtain⟨D,E,H⟩:=qmB h.go (by rw[h.pc];decide);obtain⟨L,P,kE⟩:=HN h.pc;unfold q4C;rw[D,E,H,L,P,kE];obtain⟨v,R,T,q⟩:=Am.1 h.AA;exact⟨qPE h sb sb q.right rfl rfl rfl rfl q.done,11,{AA:=(q.BJ (m':={m with link:=((mE w m m.Ak).next[m.slot.toNat]?).getD 0,pc:=11}) rfl rfl rfl rfl rfl rfl rfl rfl q.i rfl).AA,pc:=rfl,la:=λx Q=>⟨(h.la x Q).1,sg⟩,ea:=λu A g B e C=>⟨(h.ea u A g B e C).1,λ_=>(h.ea u A g B e C).2 sb⟩,ver:=λ_=>h.ver sb,lis:=λ_ _=>h.lis sb sb,hd:=λ_ _=>h.hd sb sb,lk:=λ_=>rfl}⟩
def AQ.pop(h:AQ 11 w m n){v}{gr}{en}(q:Ay w m v gr en):∃r,qHB en=O (m.slot::r)/\casB w m=I/\{en with head:=qxB m.word m.link}=CN en/\BH (CN en)=I/\qWF (CN en)=qWF en+1:=by
 obtain⟨u,D⟩:=h.hd sb sb;have A:=h.lk rfl;rw[q.mE]at u A;obtain⟨l,B⟩:=(qjB q.BH).1;rw[u]at D;rcases qbI B with⟨_,Q⟩|⟨x,r,rfl,E,_⟩
 .have:=q.slot;omega
 .obtain⟨H,L,R,T,P,_⟩:=qvY q.BH B;have C:m.slot=x:=by rw[D,E]
  refine⟨r,by rw[C];exact B,?_,?_,H,L⟩
  .unfold casB q6C;rw[q.mE,u,A,C];simp only[zl,zF,zBL];exact P
  .unfold CN;rw[u,A,C,E]
def qIZ{P:Bw->Prop}{v:AM}{gr:Bi}{en en':Bw}(B:Ay w m v gr en)(h:∀v∈w.Ab,∀g∈v.Aj,∀e∈g.ends,P e)(D:P en'):∀v'∈(BN w m.Ac.toNat m.Af.toNat v {gr with ends:=gr.ends.set m.Ak.toNat en'}).Ab,∀g∈v'.Aj,∀e∈g.ends,P e:=by
 intro v' A g u e q;rcases zAf A with A|rfl
 .exact h v' A g u e q
 .have C:=zh B.ver.2;rcases zAf u with u|rfl
  .exact h v C g u e q
  .rcases zAf q with q|rfl
   .exact h v C gr (zh B.clu.2) e q
   .exact D
def AQ.s11(h:AQ 11 w m n):q4C w m n:=by
 obtain⟨L,Q,R⟩:=qmB h.go (by rw[h.pc];decide);obtain⟨T,U,kE⟩:=HM h.pc;unfold q4C;rw[L,Q,R,T,U,kE];obtain⟨v,V,A,q⟩:=Am.1 h.AA;obtain⟨r,af,W,Y,u,_⟩:=h.pop q;obtain⟨aa,ab,ac⟩:=q.at_;simp only[W,zBA,Cm,aa,ab,ac,Y];have B:=qvI q.right q.ver.2 q.clu.2 q.Ak.2 u rfl;have ad:=q.F4 (en':=CN A) rfl B;have C:=h.ea v (zh q.ver.2) V (zh q.clu.2) A (zh q.Ak.2);exact⟨qPE h sb sb B rfl rfl rfl rfl q.done,12,{AA:=(ad.BJ (m':={m with pc:=12}) rfl rfl rfl rfl rfl rfl rfl rfl q.i rfl).AA,pc:=rfl,la:=λx ae=>⟨(h.la x ae).1,sg⟩,ea:=qIZ (P:=λe=>e.Ae<=n+1/\((12:zt)<=12->e.Ae<=n)) q (λD E g H e u=>⟨(h.ea D E g H e u).1,λ_=>(h.ea D E g H e u).2 sb⟩) ⟨C.1,λ_=>C.2 sb⟩,ver:=λ_=>h.ver sb,lis:=λ_ _=>h.lis sb sb}⟩
def qlP{en}(h:BH en=I){a}(u:0<=a):BH {en with Ae:=a}=I/\qWF {en with Ae:=a}=qWF en:=by
 obtain⟨⟨l,A⟩,B,C,_⟩:=qjB h;have q:qHB {en with Ae:=a}=qHB en:=rfl
 have:BH {en with Ae:=a}=I:=by
  unfold BH;rw[q,A];simp only[zl,zF,zB7,zBL];exact⟨⟨B,C⟩,u⟩
 refine⟨this,?_⟩;unfold qWF;rw[this,h,q]
def AQ.s12(h:AQ 12 w m n)(ae:0<=n/\n<=2000000):q4C w m n:=by
 obtain⟨C,D,E⟩:=qmB h.go (by rw[h.pc];decide);obtain⟨H,L,kE⟩:=HL h.pc;unfold q4C;rw[C,D,E,H,L,kE];obtain⟨v,Q,u,q⟩:=Am.1 h.AA;obtain⟨R,T,U⟩:=q.at_;have V:=h.ea v (zh q.ver.2) Q (zh q.clu.2) u (zh q.Ak.2);have af:=(qjB q.BH).2.2.2;have ag:=V.2 sb;have W:wI (u.Ae+1)=u.Ae+1:=qAO si;simp only[Cm,R,T,U,W];obtain⟨A,_⟩:=qlP q.BH (a:=u.Ae+1) sa;have B:=qvI q.right q.ver.2 q.clu.2 q.Ak.2 A rfl;have Y:=q.F4 (en':={u with Ae:=u.Ae+1}) rfl B;exact⟨qPE h sb sb B rfl rfl rfl rfl q.done,20,{AA:=(Y.BJ (m':={m with answer:=⟨1,m.Ac,m.Af,m.Ak,m.slot,m.listen,0,c60⟩,pc:=20}) rfl rfl rfl rfl rfl rfl rfl rfl q.i rfl).AA,pc:=rfl,la:=λx aa=>⟨(h.la x aa).1,sg⟩,ea:=qIZ (P:=λe=>e.Ae<=n+1/\((20:zt)<=12->e.Ae<=n)) q (λab ac g ad e A=>⟨(h.ea ab ac g ad e A).1,sg⟩) ⟨by show u.Ae+1<=n+1;omega,sg⟩,ver:=λ_=>h.ver sb,lis:=λ_ _=>h.lis sb sb,kd:=λ_=>show(1:zt)<=1/\(1:zt)<=5 by decide}⟩
def Ay.Bh{v:AM}{gr:Bi}{en:Bw}(h:Ay w m v gr en)(k:zt):wdB (Bh w m.Al k)=I/\Ay (Bh w m.Al k) m v gr en:=by
 obtain⟨row,q,A⟩:=h.row;have u:wdB (Go.Proofs.YtlmhpamhhgogaaaGreat.Sx.Bh w m.Al k)=I:=qjS h.right q (by rw[q];simpa using A);exact⟨u,h.H6 u⟩
def AQ.s20(h:AQ 20 w m n):q4C w m n:=by
 obtain⟨u,A,B⟩:=qmB h.go (by rw[h.pc];decide);obtain⟨C,D,kE⟩:=HK h.pc;unfold q4C;rw[u,A,B,C,D,kE];obtain⟨v,U,V,q⟩:=Am.1 h.AA;obtain⟨E,H⟩:=q.Bh (qEH m);exact⟨qeD sb E rfl rfl rfl rfl q.done,21,{AA:=(H.BJ (m':={m with pc:=21}) rfl rfl rfl rfl rfl rfl rfl rfl q.i rfl).AA,pc:=rfl,la:=λx L=>⟨(h.la x L).1,sg⟩,ea:=λP Q g R e T=>⟨(h.ea P Q g R e T).1,sg⟩,ver:=λ_=>h.ver sb,lis:=λ_ _=>h.lis sb sb,kd:=λ_=>h.kd sb}⟩
def AQ.s21(h:AQ 21 w m n):q4C w m n:=by
 obtain⟨P,Q,R⟩:=qmB h.go (by rw[h.pc];decide);obtain⟨T,U,kE⟩:=HJ h.pc;unfold q4C;rw[P,Q,R,T,U,kE];obtain⟨v,V,W,q⟩:=Am.1 h.AA;obtain⟨E,H⟩:=q.Bh 0;by_cases L:m.answer.kind=1\/m.listen<0
 .rw[zk L];exact⟨qeD sb E rfl rfl rfl rfl q.done,23,{AA:=(H.BJ (m':={m with pc:=23}) rfl rfl rfl rfl rfl rfl rfl rfl q.i rfl).AA,pc:=rfl,la:=λx u=>⟨(h.la x u).1,sg⟩,ea:=λA B g C e D=>⟨(h.ea A B g C e D).1,sg⟩,ver:=λ_=>h.ver sb,kd:=λ_=>h.kd sb}⟩
 .rw[zj L];exact⟨qeD sb E rfl rfl rfl rfl q.done,22,{AA:=(H.BJ (m':={m with pc:=22}) rfl rfl rfl rfl rfl rfl rfl rfl q.i rfl).AA,pc:=rfl,la:=λx u=>⟨(h.la x u).1,sg⟩,ea:=λA B g C e D=>⟨(h.ea A B g C e D).1,sg⟩,lst:=λ_=>by show 0<=m.listen;omega,ver:=λ_=>h.ver sb,lis:=λ_ _=>h.lis sb sb,kd:=λ_=>h.kd sb}⟩
def AQ.s22(h:AQ 22 w m n)(V:0<=n/\n<=2000000):q4C w m n:=by
 obtain⟨E,H,L⟩:=qmB h.go (by rw[h.pc];decide);obtain⟨P,Q,kE⟩:=HI h.pc;unfold q4C;rw[E,H,L,P,Q,kE];obtain⟨v,W,Y,q⟩:=Am.1 h.AA;have B:=h.lst (.inr (.inr rfl));obtain⟨C,u⟩:=q.lis B;have aa:=(h.la _ (zh C)).1;have ab:=h.lis sb sb B;obtain⟨g1,g2,g3⟩:=Di.1 u;have R:wI ((mL w m).Ae-1)=(mL w m).Ae-1:=qAO si;rw[R];have D:=qiE q.right C (x':={mL w m with Ae:=(mL w m).Ae-1}) rfl (Di.2 ⟨g1,by show 0<=(mL w m).Ae-1;omega,g3⟩);refine⟨qeD sb D rfl rfl rfl rfl q.done,23,{AA:=((q.BG D).BJ (m':={m with pc:=23}) rfl rfl rfl rfl rfl rfl rfl rfl q.i rfl).AA,pc:=rfl,la:=λy A=>⟨?_,sg⟩,ea:=λv T g u e U=>⟨(h.ea v T g u e U).1,sg⟩,ver:=λ_=>h.ver sb,kd:=λ_=>h.kd sb}⟩;rcases zAf A with A|rfl
 .exact(h.la y A).1
 .show(mL w m).Ae-1<=n+1;omega
def AQ.s23(h:AQ 23 w m n):GF w m (hsW w m) (hsM w m) (hsE w m)/\(hsM w m)={m with done:=I}/\hsW w m={w with pins:=w.pins.set m.Al.toNat 0}:=by
 obtain⟨u,A,B⟩:=qmB h.go (by rw[h.pc];decide);obtain⟨C,D,kE⟩:=If h.pc;rw[u,A,B,C,D,kE];obtain⟨v,H,L,q⟩:=Am.1 h.AA;unfold GZ HC;rw[h.AA];have P:=qUG q.right;rw[zk rfl,zk rfl];exact⟨⟨show(2:zt)≠0 by decide,rfl,q3P q.right (x:=0) sa,rfl,rfl,rfl,rfl,λE=>by have:(-1:zt)>=0:=E;omega,rfl,λ_=>rfl⟩,rfl,rfl⟩
def AQ.sp{k}(h:AQ k w m n)(Y:k<3):q4C w m n:=by
 have P:=h.pin Y;have ay:=h.range;obtain⟨aa,ab,ac⟩:=q6O (w:=w) (m:=m) (by rw[h.pc];omega);unfold q4C;rw[aa,ab,ac];obtain⟨v,ad,ae,u⟩:=Am.1 h.AA;obtain⟨R,af,T,ag,ah,U,V,az,aA,ai⟩:=P.step
 have E:(CO w m).Al=m.Al/\(CO w m).Ac=-1/\(CO w m).done=zb:=by
  rcases P.pc with A|A|A
  .rw[(q3I h.AA).1 (.inl A)];exact⟨rfl,rfl,rfl⟩
  .rw[(q3I h.AA).2.1 A];exact⟨rfl,rfl,rfl⟩
  .rw[(q3I h.AA).1 (.inr A)];exact⟨rfl,rfl,rfl⟩
 have aj:(BC w m).op=m.op/\(BC w m).done=m.done/\(BC w m).Ac=m.Ac/\(BC w m).Af=m.Af/\(BC w m).Ak=m.Ak/\(BC w m).other=m.other/\(BC w m).slot=m.slot/\(BC w m).listen=m.listen/\(BC w m).i=m.i/\(BC w m).k=m.k:=by
  rcases P.pc with A|A|A
  .rw[(qUD h.AA).1 A];exact⟨rfl,rfl,rfl,rfl,rfl,rfl,rfl,rfl,rfl,rfl⟩
  .rw[(qUD h.AA).2.1 A];exact⟨rfl,rfl,rfl,rfl,rfl,rfl,rfl,rfl,rfl,rfl⟩
  .rw[(qUD h.AA).2.2.1 A];exact⟨rfl,rfl,rfl,rfl,rfl,rfl,rfl,rfl,rfl,rfl⟩
 have ak:(BL w m).current=w.current:=by unfold BL;split<;>rfl
 obtain⟨al,W,am,an,ao,ap,aq,ar,au,av⟩:=aj;have aw:Ay (BL w m) (BC w m) v ad ae:=⟨R,by rw[T,ah];exact u.Al,by rw[W];exact u.done,by rw[am,U];exact u.ver,by rw[an];exact u.clu,by rw[ao];exact u.Ak,by rw[ap];exact u.other,by rw[aq];exact u.slot,by rw[ar,V];exact u.listen,by rw[au];exact u.i,by rw[av];exact u.k⟩;refine⟨⟨ag,E.1,R,ak,af,T,al,λq=>by rw[E.2.1]at q;omega,by rw[E.2.2,W,u.done],λq=>by rw[E.2.2]at q;cases q⟩,?_⟩;have H:∀x∈(BL w m).Aa,x.Ae<=n+1/\x.Ae<=n:=λx q=>by rw[V]at q;exact⟨(h.la x q).1,(h.la x q).2 sa⟩
 have L:∀v∈(BL w m).Ab,∀g∈v.Aj,∀e∈g.ends,e.Ae<=n+1/\e.Ae<=n:=λv B g C e D=>by rw[U]at B;exact⟨(h.ea v B g C e D).1,(h.ea v B g C e D).2 sa⟩
 rcases ai with Q|⟨ax,_⟩
 .have aB:=Q.pc;exact⟨(BC w m).pc,{AA:=Q.AA,pc:=rfl,la:=λx q=>⟨(H x q).1,λ_=>(H x q).2⟩,ea:=λv B g C e D=>⟨(L v B g C e D).1,λ_=>(L v B g C e D).2⟩,range:=sa,pin:=λ_=>Q}⟩
 .exact⟨3,{AA:=aw.AA,pc:=ax,la:=λx q=>⟨(H x q).1,λ_=>(H x q).2⟩,ea:=λv B g C e D=>⟨(L v B g C e D).1,λ_=>(L v B g C e D).2⟩}⟩
end
def AQ.step{k n}{w}{m:Ah}(h:AQ k w m n)(A:0<=n/\n<=2000000):GF w m (hsW w m) (hsM w m) (hsE w m)/\(((hsM w m).done=zb/\∃k,AQ k (hsW w m) (hsM w m) n)\/(hsM w m).done=I):=by
 have q:q4C w m n->GF w m (hsW w m) (hsM w m) (hsE w m)/\(((hsM w m).done=zb/\∃k,AQ k (hsW w m) (hsM w m) n)\/(hsM w m).done=I):=λ⟨B,C,u⟩=>by
  obtain⟨_,_,_,D⟩:=Am.1 u.AA;exact⟨B,.inl ⟨D.done,C,u⟩⟩
 have H:=h.range;by_cases E:k<3
 .exact q (h.sp E)
 .rcases(by omega:k=3\/k=4\/k=5\/k=6\/k=7\/k=8\/k=9\/k=10\/k=11\/k=12\/k=20\/k=21\/k=22\/k=23)with rfl|rfl|rfl|rfl|rfl|rfl|rfl|rfl|rfl|rfl|rfl|rfl|rfl|rfl
  .exact q h.s3
  .exact q (h.s4 A)
  .exact q h.s5
  .exact q h.s6
  .exact q h.s7
  .exact q h.s8
  .exact q h.s9
  .exact q h.s10
  .exact q h.s11
  .exact q (h.s12 A)
  .exact q h.s20
  .exact q h.s21
  .exact q (h.s22 A)
  .obtain⟨B,u,_⟩:=h.s23;exact⟨B,.inr (by rw[u])⟩
section
variable{K:Z}{w:Wd}{m:Ah}
def qPW(h:BgW K w){i j}{v}{x x'}(D:w.Ab[i]?=O v)(E:v.Aj[j]?=O x)(H:x'.ends.length=x.ends.length):BgW K (BN w i j v x')/\∀v'∈(BN w i j v x').Ab,∃u∈w.Ab,u.Aw=v'.Aw:=by
 obtain⟨L,P,B⟩:=h;have C:=zh D;refine⟨⟨by show _/\(w.Ab.set i _).length<=K/\_;rw[zAd];exact L,P,λv' q=>?_⟩,λv' q=>?_⟩
 .rcases zAf q with q|rfl
  .exact B v' q
  .obtain⟨g1,g2⟩:=B v C;refine⟨by show(v.Aj.set j x').length<=K;rw[zAd];exact g1,λy A=>?_⟩;rcases zAf A with A|rfl
   .exact g2 y A
   .have:=g2 x (zh E);unfold BgG at this⊢;rw[H];exact this
 .rcases zAf q with q|rfl
  .exact⟨v',q,rfl⟩
  .exact⟨v,C,rfl⟩
abbrev Bt(K:Z)(w w':Wd):Prop:=(BgW K w->BgW K w')/\∀h∈w'.Ab,∃q∈w.Ab,q.Aw=h.Aw
def Bt.refl(w):Bt K w w:=⟨id,λh q=>⟨h,q,rfl⟩⟩
def q1J(x):Bt K w (BG w m x):=⟨λ⟨h,q,u⟩=>⟨by show _/\_/\(w.Aa.set _ _).length<=K/\_;rw[zAd];exact h,q,u⟩,λA B=>⟨A,B,rfl⟩⟩
def q3O(p)(h:p.length=w.pins.length):Bt K w {w with pins:=p}:=⟨λ⟨q,u,A⟩=>⟨by show p.length<=K/\_;rw[h];exact q,u,A⟩,λB C=>⟨B,C,rfl⟩⟩
def q3R(i k):Bt K w (Bh w i k):=by
 refine⟨λ⟨u,q,A⟩=>⟨by show _/\_/\_/\(w.counts.set _ _).length<=K/\_;rw[zAd];exact u,λr h=>?_,A⟩,λB C=>⟨B,C,rfl⟩⟩;rcases zAf h with h|rfl
 .exact q r h
 .rw[zAd];cases D:w.counts[i.toNat]? with
  |none=>exact zJ _
  |some row=>exact q row (zh D)
def FV:Bt K w (hsW w m):=by
 unfold hsW;split;rotate_left
 .exact Bt.refl w
 rename_i D;split
 .unfold BL;split
  .exact q3O _ se
  .exact Bt.refl w
 rename_i P;obtain⟨v,E,Q,q⟩:=Am.1 D.1;obtain⟨u,A,R⟩:=q.at_;have T:=D.2.1
 have G:∀B:Bi,B.ends.length=E.ends.length->Bt K w (BN w m.Ac.toNat m.Af.toNat v B):=λB H=>by
  refine⟨λh=>(qPW h q.ver.2 q.clu.2 H).1,λL C=>?_⟩;rcases zAf C with C|rfl
  .exact⟨L,C,rfl⟩
  .exact⟨v,zh q.ver.2,rfl⟩
 rcases(by omega:m.pc=3\/m.pc=4\/m.pc=5\/m.pc=6\/m.pc=7\/m.pc=8\/m.pc=9\/m.pc=10\/m.pc=11\/m.pc=12\/m.pc=20\/m.pc=21\/m.pc=22\/m.pc=23)with h|h|h|h|h|h|h|h|h|h|h|h|h|h
 .rw[(ha3 h).1];exact Bt.refl w
 .rw[(ha4 h).1];exact q1J _
 .rw[(ha5 h).1];exact Bt.refl w
 .rw[(ha6 h).1,u,A];exact G _ rfl
 .rw[(ha7 h).1];exact Bt.refl w
 .rw[(ha8 h).1];exact Bt.refl w
 .rw[(ha9 h).1];exact Bt.refl w
 .rw[(HN h).1];exact Bt.refl w
 .rw[(HM h).1];split
  .rw[Cm,u,A];exact G _ se
  .exact Bt.refl w
 .rw[(HL h).1,Cm,u,A];exact G _ se
 .rw[(HK h).1];exact q3R _ _
 .rw[(HJ h).1];exact q3R _ _
 .rw[(HI h).1];exact q1J _
 .rw[(If h).1];unfold GZ;split
  .exact q3O _ se
  .exact Bt.refl w
end
def B2:Z->Wd->Ah->Wd->Ah->Prop
 |0,w,m,h,q=>h=w/\q=m
 |n+1,w,m,h,q=>(hsE w m).access≠0/\B2 n (hsW w m) (hsM w m) h q
def B2.trans{b}{w1 u}{A B:Ah}:∀{a:Z}{w:Wd}{m:Ah},B2 a w m w1 A->B2 b w1 A u B->B2 (a+b) w m u B
 |0,w,m,⟨h,q⟩,k=>by subst h;subst q;rw[zAr];exact k
 |a+1,w,m,⟨h,q⟩,k=>by rw[zCT];exact⟨h,q.trans k⟩
def B2.one{w w'}{m m':Ah}(h:(hsE w m).access≠0)(q:hsW w m=w')(u:hsM w m=m'):B2 1 w m w' m':=⟨h,q.symm,u.symm⟩
def qTM{w}{m:Ah}(h:m.done=I):(hsE w m).access=0:=by
 have:¬hGo w m:=λq=>by
  obtain⟨_,_,_,u⟩:=Am.1 q.1;rw[u.done]at h;cases h
 rw[(qua this).2.2];rfl
def qSd{w}{m:Ah}:(hsM w m).op=m.op:=by
 unfold hsM;split;rotate_left
 .rfl
 rename_i q;have u:=q.2.1;split
 .rename_i A;rcases(by omega:m.pc=0\/m.pc=1\/m.pc=2)with h|h|h
  .rw[(qUD q.1).1 h]
  .rw[(qUD q.1).2.1 h]
  .rw[(qUD q.1).2.2.1 h]
 rcases(by omega:m.pc=3\/m.pc=4\/m.pc=5\/m.pc=6\/m.pc=7\/m.pc=8\/m.pc=9\/m.pc=10\/m.pc=11\/m.pc=12\/m.pc=20\/m.pc=21\/m.pc=22\/m.pc=23)with h|h|h|h|h|h|h|h|h|h|h|h|h|h
 .rw[(ha3 h).2.1];unfold hM3;split<;>rfl
 .rw[(ha4 h).2.1]
 .rw[(ha5 h).2.1];unfold hM5 Cr;split
  .rfl
  .split
   .rfl
   .split
    .rfl
    .split<;>rfl
 .rw[(ha6 h).2.1]
 .rw[(ha7 h).2.1]
 .rw[(ha8 h).2.1]
 .rw[(ha9 h).2.1];unfold hM9;split<;>rfl
 .rw[(HN h).2.1]
 .rw[(HM h).2.1]
 .rw[(HL h).2.1]
 .rw[(HK h).2.1]
 .rw[(HJ h).2.1]
 .rw[(HI h).2.1]
 .rw[(If h).2.1]
def AQ.nxt{k n}{w}{m:Ah}(h:AQ k w m n)(A:0<=n/\n<=2000000){w'}{m':Ah}(e1:hsW w m=w')(e2:hsM w m=m')(hd:m'.done=zb){k'}(B:m'.pc=k'):B2 1 w m w' m'/\AQ k' w' m' n:=by
 obtain⟨t,q⟩:=h.step A;refine⟨B2.one t.acc e1 e2,?_⟩;rcases q with⟨_,i,u⟩|q
 .rw[e1,e2]at u;rwa [<-B,u.pc]
 .rw[e2,hd]at q;cases q
abbrev GS(w:Wd)(m:Ah):Wd:={w with pins:=w.pins.set m.Al.toNat (w.Ai+1)}
section
variable{n:zt}{w:Wd}{m:Ah}
def AQ.w3(h:AQ 0 w m n)(q:0<=n/\n<=2000000):B2 3 w m (GS w m) {m with Ai:=w.Ai,pc:=3}/\AQ 3 (GS w m) {m with Ai:=w.Ai,pc:=3} n:=by
 obtain⟨A,B,Y,C,D,aa,E,H,ab⟩:=quU h.AA h.pc;obtain⟨_,_,_,u⟩:=Am.1 h.AA;obtain⟨L,P,_⟩:=q6O (w:=w) (m:=m) (by rw[h.pc];decide);obtain⟨Q,R⟩:=h.nxt q (L.trans A) (P.trans B) u.done (k':=1) rfl;obtain⟨c1,c2,_⟩:=q6O (w:=w) (m:={m with Ai:=w.Ai,pc:=1}) (show(0:zt)<=1/\(1:zt)<3 by decide);obtain⟨T,U⟩:=R.nxt q (c1.trans C) (c2.trans D) u.done (k':=2) rfl;obtain⟨d1,d2,_⟩:=q6O (w:=GS w m) (m:={m with Ai:=w.Ai,pc:=2}) (show(0:zt)<=2/\(2:zt)<3 by decide);obtain⟨V,W⟩:=U.nxt q (d1.trans E) (d2.trans H) u.done (k':=3) rfl;exact⟨(Q.trans T).trans V,W⟩
def qsB{h:Type}(l:F h)(i:Z)(x y:h):(l.set i x).set i y=l.set i y:=List.set_set ..
def AQ.w10(h:AQ 10 w m n)(q:0<=n/\n<=2000000){v}{gr}{en}(u:Ay w m v gr en):∃l,B2 1 w m w {m with link:=l,pc:=11}/\AQ 11 w {m with link:=l,pc:=11} n:=by
 obtain⟨A,B,_⟩:=qmB h.go (by rw[h.pc];decide);obtain⟨C,D,_⟩:=HN h.pc;exact⟨_,h.nxt q (A.trans C) (B.trans D) u.done (k':=11) rfl⟩
def AQ.w11(h:AQ 11 w m n)(B:0<=n/\n<=2000000){v}{gr}{en}(q:Ay w m v gr en):B2 1 w m (BN w m.Ac.toNat m.Af.toNat v {gr with ends:=gr.ends.set m.Ak.toNat (CN en)}) {m with pc:=12}/\AQ 12 (BN w m.Ac.toNat m.Af.toNat v {gr with ends:=gr.ends.set m.Ak.toNat (CN en)}) {m with pc:=12} n:=by
 obtain⟨C,D,_⟩:=qmB h.go (by rw[h.pc];decide);obtain⟨u,A,_⟩:=HM (w:=w) h.pc;obtain⟨R,T,E,H,U,V⟩:=h.pop q;obtain⟨L,P,Q⟩:=q.at_;simp only[E,zBA,Cm,L,P,Q]at u A;rw[H]at u;exact h.nxt B (C.trans u) (D.trans A) q.done (k':=12) rfl
def AQ.w12(h:AQ 12 w m n)(A:0<=n/\n<=2000000){v}{gr}{en}(q:Ay w m v gr en):B2 1 w m (BN w m.Ac.toNat m.Af.toNat v {gr with ends:=gr.ends.set m.Ak.toNat {en with Ae:=en.Ae+1}}) {m with answer:=⟨1,m.Ac,m.Af,m.Ak,m.slot,m.listen,0,c60⟩,pc:=20}/\AQ 20 (BN w m.Ac.toNat m.Af.toNat v {gr with ends:=gr.ends.set m.Ak.toNat {en with Ae:=en.Ae+1}}) {m with answer:=⟨1,m.Ac,m.Af,m.Ak,m.slot,m.listen,0,c60⟩,pc:=20} n:=by
 obtain⟨B,C,_⟩:=qmB h.go (by rw[h.pc];decide);obtain⟨u,D,_⟩:=HL (w:=w) h.pc;obtain⟨E,H,L⟩:=q.at_;have Q:=h.ea v (zh q.ver.2) gr (zh q.clu.2) en (zh q.Ak.2);have R:=(qjB q.BH).2.2.2;have P:wI (en.Ae+1)=en.Ae+1:=qAO si;simp only[Cm,E,H,L,P]at u;exact h.nxt A (B.trans u) (C.trans D) q.done (k':=20) rfl
def AQ.w9(h:AQ 9 w m n)(u:0<=n/\n<=2000000){v}{gr}{en}(q:Ay w m v gr en):∃k w' m',k<=4/\B2 k w m w' m'/\AQ 20 w' m' n/\m'.Al=m.Al/\m'.listen=m.listen/\m'.Ac=m.Ac/\m'.Af=m.Af/\m'.Ak=m.Ak/\((m'.answer.kind=4/\qHB en=O []/\w'=w)\/(m'.answer=⟨1,m.Ac,m.Af,m.Ak,m'.slot,m.listen,0,c60⟩/\(∃r,qHB en=O (m'.slot::r))/\w'=BN w m.Ac.toNat m.Af.toNat v {gr with ends:=gr.ends.set m.Ak.toNat {CN en with Ae:=en.Ae+1}})):=by
 obtain⟨A,B,_⟩:=qmB h.go (by rw[h.pc];decide);obtain⟨T,U,_⟩:=ha9 h.pc;rw[T]at A;rw[U]at B;have P:=q.mE;obtain⟨l,C⟩:=(qjB q.BH).1;rcases qbI C with⟨rfl,ah⟩|⟨x,r,rfl,V,W,_⟩
 .have D:hM9 w m=qjH {m with word:=en.head} 4:=by unfold hM9;rw[P,zj sa]
  obtain⟨E,H⟩:=h.nxt u A (B.trans D) q.done (k':=20) rfl;exact⟨1,_,_,sb,E,H,rfl,rfl,rfl,rfl,rfl,.inl ⟨rfl,C,rfl⟩⟩
 .have D:hM9 w m={m with word:=en.head,slot:=x,pc:=10}:=by unfold hM9;rw[P,zk sa,V]
  obtain⟨E,H⟩:=h.nxt u A (B.trans D) q.done (k':=10) rfl;have Q:Ay w {m with word:=en.head,slot:=x,pc:=10} v gr en:=⟨q.right,q.Al,q.done,q.ver,q.clu,q.Ak,q.other,W,q.listen,q.i,q.k⟩;obtain⟨l,Y,R⟩:=H.w10 u Q;have L:=Q.BJ (m':={m with word:=en.head,slot:=x,link:=l,pc:=11}) rfl rfl rfl rfl rfl rfl rfl rfl q.i rfl;obtain⟨ai,aj,ak,al,aa,am⟩:=R.pop L;obtain⟨ab,ac⟩:=R.w11 u L;have ad:=qvI q.right q.ver.2 q.clu.2 q.Ak.2 aa rfl;have ae:=(L.F4 (en':=CN en) rfl ad).BJ (m':={m with word:=en.head,slot:=x,link:=l,pc:=12}) rfl rfl rfl rfl rfl rfl rfl rfl q.i rfl;obtain⟨af,ag⟩:=ac.w12 u ae;refine⟨4,_,_,sb,((E.trans Y).trans ab).trans af,ag,rfl,rfl,rfl,rfl,rfl,.inr ⟨rfl,⟨r,C⟩,?_⟩⟩;show({w with Ab:=(w.Ab.set m.Ac.toNat _).set m.Ac.toNat {v with Aj:=(v.Aj.set m.Af.toNat _).set m.Af.toNat {gr with ends:=(gr.ends.set m.Ak.toNat _).set m.Ak.toNat _}}}:Wd)=_;rw[qsB,qsB,qsB];rfl
end
def qhY(w:Wd)(v:AM)(gr q:Bi)(m m':Ah)(w':Wd):Prop:=
 ∃h,(0<=m'.Ak/\gr.ends[m'.Ak.toNat]?=O h)/\
  ((m'.answer.kind=4/\qHB h=O []/\w'=BN w m.Ac.toNat m.Af.toNat v q)\/
   (m'.answer=⟨1,m.Ac,m.Af,m'.Ak,m'.slot,m.listen,0,c60⟩/\(∃r,qHB h=O (m'.slot::r))/\w'=BN w m.Ac.toNat m.Af.toNat v {q with ends:=q.ends.set m'.Ak.toNat {CN h with Ae:=h.Ae+1}}))
section
variable{n:zt}{w:Wd}{m:Ah}
def AQ.w6(h:AQ 6 w m n)(E:0<=n/\n<=2000000){v}{gr}{en}(A:Ay w m v gr en):∃k w' m',k<=5/\B2 k w m w' m'/\AQ 20 w' m' n/\m'.Al=m.Al/\m'.listen=m.listen/\m'.Ac=m.Ac/\m'.Af=m.Af/\m'.Ak=qvD (mC w m) gr.AF/\qhY w v gr {gr with AF:=wU (gr.AF+1)} m m' w':=by
 obtain⟨T,U,_⟩:=qmB h.go (by rw[h.pc];decide);obtain⟨H,L,_⟩:=ha6 (w:=w) h.pc;obtain⟨V,P,aj⟩:=A.at_;rw[V,P]at H;rw[P]at L;obtain⟨W,Q⟩:=h.nxt E (T.trans H) (U.trans L) A.done (k':=9) rfl;obtain⟨Y,aa,ab,q⟩:=Am.1 Q.AA;have R:=A.HX (wU (gr.AF+1));have e1:Y={v with Aj:=v.Aj.set m.Af.toNat {gr with AF:=wU (gr.AF+1)}}:=zn (q.ver.2.symm.trans R.ver.2);subst e1;have e2:aa={gr with AF:=wU (gr.AF+1)}:=zn (q.clu.2.symm.trans R.clu.2);subst e2;obtain⟨k,w',m',ak,ac,ad,ae,af,ag,ah,u,ai⟩:=Q.w9 E q;refine⟨1+k,w',m',sa,W.trans ac,ad,ae,af,ag,ah,u,ab,by rw[u];exact q.Ak,?_⟩;rcases ai with⟨B,C,D⟩|⟨B,C,D⟩
 .exact .inl ⟨B,C,D⟩
 .refine .inr ⟨by rw[u];exact B,C,?_⟩;rw[D,u];show({w with Ab:=(w.Ab.set m.Ac.toNat _).set m.Ac.toNat {v with Aj:=(v.Aj.set m.Af.toNat _).set m.Af.toNat _}}:Wd)=_;rw[qsB,qsB]
def Gl(gr:Bi)(k:zt):zt:=((gr.ends[k.toNat]?).getD enD).Ae
def AQ.w7(h:AQ 7 w m n)(B:0<=n/\n<=2000000){v}{gr}{en}(q:Ay w m v gr en):∃k w' m',k<=6/\B2 k w m w' m'/\AQ 20 w' m' n/\m'.Al=m.Al/\m'.listen=m.listen/\m'.Ac=m.Ac/\m'.Af=m.Af/\m'.Ak=qwF m.Ak (Gl gr m.Ak) m.other (Gl gr m.other)/\qhY w v gr gr m m' w':=by
 obtain⟨T,U,_⟩:=qmB h.go (by rw[h.pc];decide);obtain⟨V,P,_⟩:=ha7 (w:=w) h.pc;obtain⟨ap,W,Y⟩:=q.at_;rw[Y]at P;obtain⟨aa,C⟩:=h.nxt B (T.trans V) (U.trans P) q.done (k':=8) rfl;obtain⟨fW,fM,_⟩:=qmB C.go (show ¬(8:zt)<3 by decide);obtain⟨ab,ac,_⟩:=ha8 (w:=w) C.pc;have ad:en.Ae=Gl gr m.Ak:=by unfold Gl;rw[q.Ak.2];rfl
 have ae:(mE w {m with i:=en.Ae,pc:=8} m.other).Ae=Gl gr m.other:=by unfold mE Gl;rw[show mG w {m with i:=en.Ae,pc:=8}=gr from W]
 have af:hM w {m with i:=en.Ae,pc:=8}={m with i:=en.Ae,Ak:=qwF m.Ak (Gl gr m.Ak) m.other (Gl gr m.other),pc:=9}:=by
  rw[ac];show({m with i:=en.Ae,Ak:=qwF m.Ak en.Ae m.other (mE w {m with i:=en.Ae,pc:=8} m.other).Ae,pc:=9}:Ah)=_;rw[ae,<-ad]
 obtain⟨ag,Q⟩:=C.nxt B (fW.trans ab) (fM.trans af) q.done (k':=9) rfl;obtain⟨D,R,ah,u⟩:=Am.1 Q.AA;have e1:D=v:=zn (u.ver.2.symm.trans q.ver.2);subst e1;have e2:R=gr:=zn (u.clu.2.symm.trans q.clu.2);subst e2;obtain⟨k,w',m',aq,ai,aj,ak,al,am,an,A,ao⟩:=Q.w9 B u;refine⟨1+1+k,w',m',sa,(aa.trans ag).trans ai,aj,ak,al,am,an,A,ah,by rw[A];exact u.Ak,?_⟩;rcases ao with⟨E,H,L⟩|⟨E,H,L⟩
 .refine .inl ⟨E,H,?_⟩;rw[L];show w={w with Ab:=w.Ab.set m.Ac.toNat {D with Aj:=D.Aj.set m.Af.toNat R}};rw[qqG q.clu.2,qqG q.ver.2]
 .exact .inr ⟨by rw[A];exact E,H,by rw[L,A]⟩
end
structure Jp(w0:Wd)(m0 m:Ah)(v:AM)(c:zt)(ck:AW)(gr gr':Bi):Prop where
 ver:w0.Ab[w0.current.toNat]?=O v
 find:q4D v.Aw m0.op.listen m0.op.Bb m0.op.path=O c
 c0:0<=c
 grp:v.Aj[c.toNat]?=O gr
 cl:v.Aw.Ad[c.toNat]?=O ck
 JL:qFA ck≠[]
 mver:m.Ac=w0.current
 mclu:m.Af=c
 pick:(ck.AY=1/\m.Ak=qvD ck gr.AF/\gr'={gr with AF:=wU (gr.AF+1)})\/
  (ck.AY≠1/\m.Ak=qwF (qeC ck m0.op.d0) (Gl gr (qeC ck m0.op.d0)) (qeC ck m0.op.d1) (Gl gr (qeC ck m0.op.d1))/\gr'=gr)
abbrev KD(w0:Wd)(v:AM)(c:zt)(g:Bi):F AM:=w0.Ab.set w0.current.toNat {v with Aj:=v.Aj.set c.toNat g}
def GR(s:Ej)(o:OpD):zt:=match q4D s o.listen o.Bb o.path with
 |none=>2
 |some c=>if qFA ((s.Ad[c.toNat]?).getD ⟨⟨#[]⟩,0,0,[]⟩)=[]then 3 else 0
def Hx(w:Wd)(o:OpD):zt:=if qlA w.Aa o.listen<0 then 2 else if((w.Aa[(qlA w.Aa o.listen).toNat]?).getD ⟨⟨#[]⟩,zb,0,zb⟩).drain then 5 else GR ((w.Ab[w.current.toNat]?).getD vZ).Aw o
def Hh(y k:zt):Prop:=if y=0 then k=1\/k=4 else k=y
def qFK{s}{o}(h:q4D s o.listen o.Bb o.path=zc):GR s o=2:=by unfold GR;rw[h]
def qEK{s}{o}{c}{q}(h:q4D s o.listen o.Bb o.path=O c)(u:s.Ad[c.toNat]?=O q):GR s o=if qFA q=[]then 3 else 0:=by
 unfold GR;rw[h];show(if qFA ((s.Ad[c.toNat]?).getD _)=[]then _ else _)=_;rw[u];rfl
def qcI{y}(h:y≠0):Hh y y:=(zj h).mpr rfl
structure Hu(w0:Wd)(m0:Ah)(w:Wd)(m:Ah):Prop where
 thr:m.Al=m0.Al
 pins:w.pins=w0.pins.set m0.Al.toNat (w0.Ai+1)
 counts:w.counts=w0.counts
 ep:w.Ai=w0.Ai
 cur:w.current=w0.current
 An:w.An=w0.An
 lis:(m.listen<0/\w.Aa=w0.Aa)\/∃x,0<=m.listen/\w0.Aa[m.listen.toNat]?=O x/\w.Aa=w0.Aa.set m.listen.toNat {x with Ae:=x.Ae+1}
 out:((m.answer.kind=2\/m.answer.kind=3\/m.answer.kind=5)/\w.Ab=w0.Ab)\/
  ∃v c ck gr gr' en,Jp w0 m0 m v c ck gr gr'/\(0<=m.Ak/\gr.ends[m.Ak.toNat]?=O en)/\
   ((m.answer.kind=4/\qHB en=O []/\w.Ab=KD w0 v c gr')\/
    (m.answer=⟨1,w0.current,c,m.Ak,m.slot,m.listen,0,c60⟩/\(∃r,qHB en=O (m.slot::r))/\w.Ab=KD w0 v c {gr' with ends:=gr'.ends.set m.Ak.toNat {CN en with Ae:=en.Ae+1}}))
 why:Hh (Hx w0 m0.op) m.answer.kind
section
variable{n:zt}{w:Wd}{m:Ah}
def AQ.w5(h:AQ 5 w m n)(D:0<=n/\n<=2000000){v}{gr}{en}(A:Ay w m v gr en):∃k w' m',k<=7/\B2 k w m w' m'/\AQ 20 w' m' n/\m'.Al=m.Al/\m'.listen=m.listen/\Hh (if(mL w m).drain then 5 else GR v.Aw m.op) m'.answer.kind/\(((m'.answer.kind=2\/m'.answer.kind=3\/m'.answer.kind=5)/\w'=w)\/∃c q gr Q,q4D v.Aw m.op.listen m.op.Bb m.op.path=O c/\0<=c/\v.Aj[c.toNat]?=O gr/\v.Aw.Ad[c.toNat]?=O q/\qFA q≠[]/\m'.Ac=m.Ac/\m'.Af=c/\((q.AY=1/\m'.Ak=qvD q gr.AF/\Q={gr with AF:=wU (gr.AF+1)})\/(q.AY≠1/\m'.Ak=qwF (qeC q m.op.d0) (Gl gr (qeC q m.op.d0)) (qeC q m.op.d1) (Gl gr (qeC q m.op.d1))/\Q=gr))/\∃E:Ah,E.Ac=m.Ac/\E.Af=c/\E.listen=m.listen/\qhY w v gr Q E m' w'):=by
 obtain⟨R,T,_⟩:=qmB h.go (by rw[h.pc];decide);obtain⟨av,aw,_⟩:=ha5 (w:=w) h.pc;rw[av]at R;rw[aw]at T;have W:=A.at_.1;by_cases U:(mL w m).drain=I
 .have V:hM5 w m=qjH m 5:=by unfold hM5;rw[zk U]
  obtain⟨B,u⟩:=h.nxt D R (T.trans V) A.done (k':=20) rfl;exact⟨1,_,_,sb,B,u,rfl,rfl,by rw[zk U];exact qcI sb,.inl ⟨.inr (.inr rfl),rfl⟩⟩
 have V:hM5 w m=Cr w m:=by unfold hM5;rw[zj U]
 cases C:q4D v.Aw m.op.listen m.op.Bb m.op.path with
 |none=>
  have H:Cr w m=qjH m 2:=by unfold Cr;rw[W,C]
  obtain⟨B,u⟩:=h.nxt D R ((T.trans V).trans H) A.done (k':=20) rfl;exact⟨1,_,_,sb,B,u,rfl,rfl,by rw[zj U,qFK C];exact qcI sb,.inl ⟨.inl rfl,rfl⟩⟩
 |some c=>
  have ag:=qaC A.right A.ver.2;have aq:=q3J ag.AJ C;obtain⟨ar,Y⟩:=qEA (l:=v.Aj) (i:=c.toNat) (by have:=ag.len;omega);obtain⟨q,aa,_,_,_,_,_⟩:=ag.ends Y;have ad:=qHd (w:=w) (m:=m) W aa;by_cases L:qFA q=[]
  .have H:Cr w m=qjH {m with Af:=c} 3:=by unfold Cr;rw[W,C];show(if qFA (mC w {m with Af:=c})=[]then _ else _)=_;rw[ad,zk L]
   obtain⟨B,u⟩:=h.nxt D R ((T.trans V).trans H) A.done (k':=20) rfl;exact⟨1,_,_,sb,B,u,rfl,rfl,by rw[zj U,qEK C aa,zk L];exact qcI sb,.inl ⟨.inr (.inl rfl),rfl⟩⟩
  have au:∀(E:Ah)(gr Q:Bi)(w':Wd)(m':Ah),qhY w v gr Q E m' w'->Hh (if(mL w m).drain then 5 else GR v.Aw m.op) m'.answer.kind:=λE gr Q w' m' ax=>by
   rw[zj U,qEK C aa,zj L];show if(0:zt)=0 then _ else _;rw[zk rfl];obtain⟨_,_,⟨ay,_⟩|⟨az,_⟩⟩:=ax
   .exact .inr ay
   .rw[az];exact .inl rfl
  by_cases ae:q.AY=1
  .have H:Cr w m={m with Af:=c,pc:=6}:=by unfold Cr;rw[W,C];show(if qFA (mC w {m with Af:=c})=[]then _ else _)=_;rw[ad,zj L,zk ae]
   obtain⟨B,u⟩:=h.nxt D R ((T.trans V).trans H) A.done (k':=6) rfl;obtain⟨ah,ab,aA,P⟩:=Am.1 u.AA;have ai:ah=v:=zn (P.ver.2.symm.trans A.ver.2);subst ai;have aj:ab=ar:=zn (P.clu.2.symm.trans Y);subst aj;obtain⟨k,w',m',aB,ak,al,am,an,ao,ap,af,ac⟩:=u.w6 D P;rw[show mC w {m with Af:=c,pc:=6}=q from ad]at af;exact⟨1+k,w',m',sa,B.trans ak,al,am,an,au _ _ _ _ _ ac,.inr ⟨c,q,ab,_,rfl,aq.1,Y,aa,L,ao,ap,.inl ⟨ae,af,rfl⟩,{m with Af:=c,pc:=6},rfl,rfl,rfl,ac⟩⟩
  .have H:Cr w m={m with Af:=c,Ak:=qeC q m.op.d0,other:=qeC q m.op.d1,pc:=7}:=by unfold Cr;rw[W,C];show(if qFA (mC w {m with Af:=c})=[]then _ else _)=_;rw[ad,zj L,zj ae]
   obtain⟨B,u⟩:=h.nxt D R ((T.trans V).trans H) A.done (k':=7) rfl;obtain⟨ah,ab,aA,P⟩:=Am.1 u.AA;have ai:ah=v:=zn (P.ver.2.symm.trans A.ver.2);subst ai;have aj:ab=ar:=zn (P.clu.2.symm.trans Y);subst aj;obtain⟨k,w',m',aB,ak,al,am,an,ao,ap,af,ac⟩:=u.w7 D P;exact⟨1+k,w',m',sa,B.trans ak,al,am,an,au _ _ _ _ _ ac,.inr ⟨c,q,ab,_,rfl,aq.1,Y,aa,L,ao,ap,.inr ⟨ae,af,rfl⟩,{m with Af:=c,Ak:=qeC q m.op.d0,other:=qeC q m.op.d1,pc:=7},rfl,rfl,rfl,ac⟩⟩
def AQ.mid(h:AQ 0 w m n)(u:0<=n/\n<=2000000):∃k w' m',k<=12/\B2 k w m w' m'/\AQ 20 w' m' n/\Hu w m w' m':=by
 obtain⟨ab,A⟩:=h.w3 u;obtain⟨v3,gr3,aJ,ac⟩:=Am.1 A.AA;obtain⟨ad,ae,_⟩:=qmB A.go (show ¬(3:zt)<3 by decide);obtain⟨af,ag,_⟩:=ha3 (w:=GS w m) A.pc;by_cases B:qlA w.Aa m.op.listen<0
 .have e3:hM3 (GS w m) {m with Ai:=w.Ai,pc:=3}=qjH {m with Ai:=w.Ai,Ac:=w.current,Af:=0,Ak:=0,other:=0,slot:=0,listen:=qlA w.Aa m.op.listen} 2:=zk B;obtain⟨L,q⟩:=A.nxt u (ad.trans af) ((ae.trans ag).trans e3) ac.done (k':=20) rfl;exact⟨3+1,_,_,sb,ab.trans L,q,rfl,rfl,rfl,rfl,rfl,rfl,.inl ⟨B,rfl⟩,.inl ⟨.inl rfl,rfl⟩,by unfold Hx;rw[zk B];exact qcI sb⟩
 have e3:hM3 (GS w m) {m with Ai:=w.Ai,pc:=3}={m with Ai:=w.Ai,Ac:=w.current,Af:=0,Ak:=0,other:=0,slot:=0,listen:=qlA w.Aa m.op.listen,pc:=4}:=zj B;obtain⟨L,q⟩:=A.nxt u (ad.trans af) ((ae.trans ag).trans e3) ac.done (k':=4) rfl;obtain⟨aK,aL,aM,ah⟩:=Am.1 q.AA;obtain⟨fW,fM,_⟩:=qmB q.go (show ¬(4:zt)<3 by decide);obtain⟨ai,aq,_⟩:=ha4 (w:=GS w m) q.pc;obtain⟨C,ar⟩:=ah.lis (show 0<=qlA w.Aa m.op.listen by omega);have aN:=(q.la _ (zh C)).2 sb;obtain⟨g1,g2,g3⟩:=Di.1 ar;generalize aO:mL (GS w m) {m with Ai:=w.Ai,Ac:=w.current,Af:=0,Ak:=0,other:=0,slot:=0,listen:=qlA w.Aa m.op.listen,pc:=4}=X at*;have au:wI (X.Ae+1)=X.Ae+1:=qAO si;rw[au]at ai;obtain⟨av,aj⟩:=q.nxt u (fW.trans ai) (fM.trans aq) ah.done (k':=5) rfl;obtain⟨D,aP,aQ,ak⟩:=Am.1 aj.AA;obtain⟨k,w',m',aR,aw,ax,P,E,ay,az⟩:=aj.w5 u ak;have al:w.Ab[w.current.toNat]?=O D:=ak.ver.2
 have Q:∀H:F AI,H=w.Aa.set (qlA w.Aa m.op.listen).toNat {X with Ae:=X.Ae+1}->(m'.listen<0/\H=w.Aa)\/∃x,0<=m'.listen/\w.Aa[m'.listen.toNat]?=O x/\H=w.Aa.set m'.listen.toNat {x with Ae:=x.Ae+1}:=λH aA=>by
  refine .inr ⟨X,?_,?_,?_⟩
  .rw[E];show 0<=qlA w.Aa m.op.listen;omega
  .rw[E];exact C
  .rw[E];exact aA
 have R:Hh (Hx w m.op) m'.answer.kind:=by
  unfold Hx;rw[zj B,al,C];refine(zI (λb=>Hh (if b=I then 5 else _) m'.answer.kind) ?_).mp ay;exact Eq.trans (zI AI.drain (q9Y (x':={X with Ae:=X.Ae+1}) (w:=GS w m) (m:={m with Ai:=w.Ai,Ac:=w.current,Af:=0,Ak:=0,other:=0,slot:=0,listen:=qlA w.Aa m.op.listen,pc:=4}) C)) rfl
 refine⟨3+1+1+k,w',m',sa,((ab.trans L).trans av).trans aw,ax,?_⟩;rcases az with⟨T,rfl⟩|⟨c,U,V,W,T,aB,aC,aD,aE,aF,aG,aH,am,c1,c2,c3,an,ao,aI⟩
 .exact⟨P,rfl,rfl,rfl,rfl,rfl,Q _ rfl,.inl ⟨T,rfl⟩,R⟩
 .have ap:Jp w m m' D c U V W:=⟨al,T,aB,aC,aD,aE,aF,aG,aH⟩;have d1:am.Ac.toNat=w.current.toNat:=by rw[c1]
  have d2:am.Af.toNat=c.toNat:=by rw[c2]
  rcases aI with⟨Y,aa,rfl⟩|⟨Y,aa,rfl⟩
  .exact⟨P,rfl,rfl,rfl,rfl,rfl,Q _ rfl,.inr ⟨D,c,U,V,W,an,ap,ao,.inl ⟨Y,aa,by rw[d1,d2]⟩⟩,R⟩
  .exact⟨P,rfl,rfl,rfl,rfl,rfl,Q _ rfl,.inr ⟨D,c,U,V,W,an,ap,ao,.inr ⟨by rw[Y,c1,c2,c3,E],aa,by rw[d1,d2]⟩⟩,R⟩
end
structure Jk(w:Wd)(m:Ah)(x:Wd)(n:Ah):Prop where
 done:n.done=I
 right:wdB x=I
 pins:x.pins=w.pins.set m.Al.toNat 0
 Ab:x.Ab=w.Ab
 counts:x.counts=(Bh (Bh w m.Al (qEH m)) m.Al 0).counts
 lis:((m.answer.kind=1\/m.listen<0)/\x.Aa=w.Aa)\/((¬(m.answer.kind=1\/m.listen<0))/\x.Aa=w.Aa.set m.listen.toNat {mL w m with Ae:=(mL w m).Ae-1})
 answer:n.answer=m.answer
 Ac:n.Ac=m.Ac
 Af:n.Af=m.Af
 Ak:n.Ak=m.Ak
 slot:n.slot=m.slot
def AQ.last{n}{w}{m:Ah}(h:AQ 23 w m n):B2 1 w m {w with pins:=w.pins.set m.Al.toNat 0} {m with done:=I}/\wdB {w with pins:=w.pins.set m.Al.toNat 0}=I:=by
 obtain⟨t,e1,e2⟩:=h.s23;exact⟨B2.one t.acc e2 e1,by rw[<-e2];exact t.right⟩
def AQ.fin{n}{w}{m:Ah}(h:AQ 20 w m n)(A:0<=n/\n<=2000000):∃k x m',k<=4/\B2 k w m x m'/\Jk w m x m':=by
 obtain⟨v,ao,ap,W⟩:=Am.1 h.AA;obtain⟨Y,aa,_⟩:=qmB h.go (by rw[h.pc];decide);obtain⟨ab,ac,_⟩:=HK (w:=w) h.pc;obtain⟨L,u⟩:=h.nxt A (Y.trans ab) (aa.trans ac) W.done (k':=21) rfl;obtain⟨aq,ar,au,P⟩:=Am.1 u.AA;obtain⟨fW,fM,_⟩:=qmB u.go (show ¬(21:zt)<3 by decide);obtain⟨Q,R,_⟩:=HJ (w:=Bh w m.Al (qEH m)) u.pc;by_cases B:m.answer.kind=1\/m.listen<0
 .have C:hM (Bh w m.Al (qEH m)) {m with pc:=21}={m with pc:=23}:=by
   rw[R];show({m with pc:=if m.answer.kind=1\/m.listen<0 then 23 else 22}:Ah)=_;rw[zk B]
  obtain⟨D,q⟩:=u.nxt A (fW.trans Q) (fM.trans C) P.done (k':=23) rfl;obtain⟨E,H⟩:=q.last;exact⟨1+1+1,_,_,sb,(L.trans D).trans E,⟨rfl,H,rfl,rfl,rfl,.inl ⟨B,rfl⟩,rfl,rfl,rfl,rfl,rfl⟩⟩
 .have C:hM (Bh w m.Al (qEH m)) {m with pc:=21}={m with pc:=22}:=by
   rw[R];show({m with pc:=if m.answer.kind=1\/m.listen<0 then 23 else 22}:Ah)=_;rw[zj B]
  obtain⟨D,q⟩:=u.nxt A (fW.trans Q) (fM.trans C) P.done (k':=22) rfl;obtain⟨av,aw,ax,T⟩:=Am.1 q.AA;obtain⟨ad,ae,_⟩:=qmB q.go (show ¬(22:zt)<3 by decide);obtain⟨af,ag,_⟩:=HI q.pc;have U:=q.lst (.inr (.inr rfl));obtain⟨ah,ay⟩:=T.lis U;have ai:=(q.la _ (zh ah)).1;have aj:=q.lis sb sb U;have V:mL (Bh (Bh w m.Al (qEH m)) m.Al 0) {m with pc:=22}=mL w m:=rfl;have ak:wI ((mL w m).Ae-1)=(mL w m).Ae-1:=qAO (by rw[V]at ai aj;unfold InR;omega)
  have al:hW (Bh (Bh w m.Al (qEH m)) m.Al 0) {m with pc:=22}=BG (Bh (Bh w m.Al (qEH m)) m.Al 0) m {mL w m with Ae:=(mL w m).Ae-1}:=by
   refine af.trans ?_;rw[V,ak]
  obtain⟨E,am⟩:=q.nxt A (ad.trans al) (ae.trans ag) T.done (k':=23) rfl;obtain⟨an,H⟩:=am.last;exact⟨1+1+1+1,_,_,sb,((L.trans D).trans E).trans an,⟨rfl,H,rfl,rfl,rfl,.inr ⟨B,rfl⟩,rfl,rfl,rfl,rfl,rfl⟩⟩
def AQ.whole{n}{w}{m:Ah}(h:AQ 0 w m n)(u:0<=n/\n<=2000000):∃k x m' w1 q,k<=16/\B2 k w m x m'/\Hu w m w1 q/\(1<=q.answer.kind/\q.answer.kind<=5)/\Jk w1 q x m':=by
 obtain⟨B,w1,q,L,C,A,hm⟩:=h.mid u;obtain⟨D,x,m',P,E,H⟩:=A.fin u;exact⟨B+D,x,m',w1,q,sa,C.trans E,hm,A.kd sb,H⟩
def AQ.on{k n}{w}{m:Ah}(h:AQ k w m n)(q:w.Ai<1000000000000):AQ k {w with Ai:=w.Ai+1} m n:=by
 obtain⟨v,A,B,u⟩:=Am.1 h.AA;exact{AA:=(u.keep (qGK u.right q) rfl rfl rfl rfl rfl rfl rfl rfl rfl rfl rfl rfl rfl:Ay {w with Ai:=w.Ai+1} m v A B).AA,pc:=h.pc,la:=h.la,ea:=h.ea,range:=h.range,lst:=h.lst,pin:=λC=>(h.pin C).on q,ver:=h.ver,nul:=h.nul,nu2:=h.nu2,lis:=h.lis,hd:=h.hd,lk:=h.lk,kd:=h.kd}
def qFI{g}{cs}{o}(h:rOp g cs o):∃q t1 u t2 A B,cs=[.int .i64 o.kind,.string o.listen,.string o.Bb,.string o.path,.int .i64 o.d0,.int .i64 o.d1,.int .i64 o.n,.slice q o.Ao.Aa.length t1,.slice u o.Ao.Ar.length t2,.slice A o.Ao.Ad.length B]:=by
 obtain⟨_,_,_,rfl,_,_,_,_,C,⟨q,t1,rfl,_⟩,⟨u,t2,rfl,_⟩,⟨A,B,rfl,_⟩⟩:=h;cases C;exact⟨_,_,_,_,_,_,rfl⟩
def q1F{q:Type}(f:q->zt){l}{i}{x y:q}(h:l[i]?=O x):Ge f (l.set i y)=Ge f l-f x+f y:=q4H f h
def qlV{gr q}(h:q.ends=gr.ends):qFH q=qFH gr:=by unfold qFH;rw[h]
def qMT{w}{m C:Ah}{w1}(h:Hu w m w1 C)(hs:qzA w m=I):qmH w1=qmH w+(if C.answer.kind=1 then 1 else 0):=by
 obtain⟨_,_,_,Q⟩:=Am.1 hs;unfold qmH;rcases h.out with⟨R,B⟩|⟨v,c,ab,D,q,u,A,E,T⟩
 .rw[B,zj sa];omega
 have H:q.ends=D.ends:=by rcases A.pick with⟨_,_,rfl⟩|⟨_,_,rfl⟩<;>rfl
 have L:BH u=I:=by
  obtain⟨_,_,_,U⟩:=(qaC Q.right A.ver).grp _ _ A.grp;exact(U u (zh E.2)).1
 rcases T with⟨R,P,B⟩|⟨V,⟨r,P⟩,B⟩
 .rw[B,zj sa,q1F qXI A.ver]
  have:qXI {v with Aj:=v.Aj.set c.toNat q}=qXI v:=by
   unfold qXI;show Ge qFH (v.Aj.set c.toNat q)=_;rw[q1F qFH A.grp,qlV H];omega
  rw[this];omega
 .obtain⟨W,Y,_⟩:=qvY L P;have aa:=(qlP W (a:=u.Ae+1) (by have:=(qjB L).2.2.2;omega)).2;rw[B,zk (by rw[V]),q1F qXI A.ver]
  have e1:qFH {q with ends:=q.ends.set C.Ak.toNat {CN u with Ae:=u.Ae+1}}=qFH D+1:=by
   unfold qFH;show Ge qWF (q.ends.set _ _)=_;rw[H,q1F qWF E.2,aa,Y];omega
  have:qXI {v with Aj:=v.Aj.set c.toNat {q with ends:=q.ends.set C.Ak.toNat {CN u with Ae:=u.Ae+1}}}=qXI v+1:=by
   unfold qXI;show Ge qFH (v.Aj.set c.toNat _)=_;rw[q1F qFH A.grp,e1];omega
  rw[this];omega
def qyT{w}{m q m':Ah}{w1 x}(h:Hu w m w1 q)(C:Jk w1 q x m'):x.Aa.length=w.Aa.length/\(q.answer.kind≠1->x.Aa=w.Aa):=by
 rcases h.lis with⟨D,u⟩|⟨y,D,u,B⟩
 .rcases C.lis with⟨_,k⟩|⟨k,_⟩
  .rw[k,u];exact⟨rfl,λ_=>rfl⟩
  .exact absurd (.inr D) k
 .rcases C.lis with⟨A,k⟩|⟨_,k⟩
  .rw[k,B,zAd];refine⟨rfl,λE=>?_⟩;rcases A with A|A
   .exact absurd A E
   .omega
  .rw[k,B];refine⟨se,λ_=>?_⟩;have hm:mL w1 q={y with Ae:=y.Ae+1}:=by unfold mL;rw[B,qpA u];rfl
   rw[hm,qsB]
   have:({({y with Ae:=y.Ae+1}:AI)with Ae:=({y with Ae:=y.Ae+1}:AI).Ae-1}:AI)=y:=by
    cases y;simp
   rw[this];exact qqG u
def B2.kept{K}:∀{k:Z}{w:Wd}{m:Ah}{x:Wd}{m':Ah},B2 k w m x m'->BgW K w->BgW K x
 |0,_,_,_,_,⟨q,_⟩,h=>by rw[q];exact h
 |_+1,_,_,_,_,⟨_,u⟩,h=>B2.kept u (FV.1 h)
def qiS{w}{m q m':Ah}{w1 x}(h:Hu w m w1 q)(u:Jk w1 q x m'):x.pins=w.pins.set m.Al.toNat 0:=by
 rw[u.pins,h.pins,h.thr,qsB]
noncomputable def fsW(w:Wd)(m:Ah):Wd:=if fGo w m then fW w m else w
noncomputable def fsM(w:Wd)(m:Ah):Ah:=if fGo w m then fM w m else m
noncomputable def fsE(w:Wd)(m:Ah):Ev:=if fGo w m then fE w m else ev0
def q1a{w}{m:Ah}(h:¬fGo w m):fsW w m=w/\fsM w m=m/\fsE w m=ev0:=by
 unfold fsW fsM fsE;rw[zj h,zj h,zj h];exact⟨rfl,rfl,rfl⟩
def q9I{w}{m:Ah}(h:fGo w m):fsW w m=fW w m/\fsM w m=fM w m/\fsE w m=fE w m:=by
 unfold fsW fsM fsE;rw[zk h,zk h,zk h];exact⟨rfl,rfl,rfl⟩
section
variable{w:Wd}{m:Ah}
def fa0(h:m.pc=0):fW w m=w/\fM w m={m with word:=(mE w m m.Ak).head,pc:=1}/\fE w m=evV w m 1 8 (AX (mE w m m.Ak).head):=by simp[fW,fM,fE,h]
def fa1(h:m.pc=1):fW w m=Cm w m {mE w m m.Ak with next:=(mE w m m.Ak).next.set m.slot.toNat (AX m.word)}/\fM w m={m with pc:=2}/\fE w m=evV w m 2 9 (AX m.word):=by simp[fW,fM,fE,h]
def fa2(h:m.pc=2):fW w m=(if(mE w m m.Ak).head=m.word then Cm w m {mE w m m.Ak with head:=qxB m.word m.slot}else w)/\fM w m={m with pc:=if(mE w m m.Ak).head=m.word then 3 else 0}/\fE w m=(if(mE w m m.Ak).head=m.word then{evV w m 4 8 m.slot with EE:=I}else evV w m 5 8 (AX (mE w m m.Ak).head)):=by simp[fW,fM,fE,h]
def fa3(h:m.pc=3):fW w m=Cm w m {mE w m m.Ak with Ae:=wI ((mE w m m.Ak).Ae-1)}/\fM w m={m with pc:=4}/\fE w m=evV w m 3 7 (wI ((mE w m m.Ak).Ae-1)):=by simp[fW,fM,fE,h]
def fa4(h:m.pc=4):fW w m=BG w m {mL w m with Ae:=wI ((mL w m).Ae-1)}/\fM w m={m with done:=I,answer:=⟨6,m.Ac,m.Af,m.Ak,m.slot,m.listen,0,c60⟩}/\fE w m={evO m 3 5 (wI ((mL w m).Ae-1))with done:=I,answer:=⟨6,m.Ac,m.Af,m.Ak,m.slot,m.listen,0,c60⟩}:=by simp[fW,fM,fE,Ih,h]
def fa9(h:m.pc=9):fW w m=w/\fM w m={m with done:=I,answer:=Dl 7 0}/\fE w m={evO m 1 0 0 with done:=I,answer:=Dl 7 0}:=by simp[fW,fM,fE,Ih,h]
end
def BS:Z->Wd->Ah->Wd->Ah->Prop
 |0,w,m,h,q=>h=w/\q=m
 |n+1,w,m,h,q=>m.done=zb/\BS n (fsW w m) (fsM w m) h q
def BS.one{w}{m:Ah}{w'}{m':Ah}(hd:m.done=zb)(e1:fsW w m=w')(e2:fsM w m=m'):BS 1 w m w' m':=⟨hd,e1.symm,e2.symm⟩
def BS.trans:∀{a b:Z}{w:Wd}{m:Ah}{w1:Wd}{h:Ah}{q:Wd}{u:Ah},BS a w m w1 h->BS b w1 h q u->BS (a+b) w m q u
 |0,b,_,_,_,_,_,_,⟨A,B⟩,k=>by rw[zAr];subst A;subst B;exact k
 |a+1,b,_,_,_,_,_,_,⟨C,D⟩,k=>by rw[zCT];exact⟨C,BS.trans D k⟩
section
variable{K:Z}{w:Wd}{m:Ah}
def FX:Bt K w (fsW w m):=by
 unfold fsW;split;rotate_left
 .exact Bt.refl w
 rename_i D;obtain⟨v,E,P,q⟩:=Am.1 D.1;obtain⟨u,A,Q⟩:=q.at_;have R:=D.2.1
 have G:∀B:Bi,B.ends.length=E.ends.length->Bt K w (BN w m.Ac.toNat m.Af.toNat v B):=λB H=>by
  refine⟨λh=>(qPW h q.ver.2 q.clu.2 H).1,λL C=>?_⟩;rcases zAf C with C|rfl
  .exact⟨L,C,rfl⟩
  .exact⟨v,zh q.ver.2,rfl⟩
 rcases(by omega:m.pc=0\/m.pc=1\/m.pc=2\/m.pc=3\/m.pc=4\/m.pc=9)with h|h|h|h|h|h
 .rw[(fa0 h).1];exact Bt.refl w
 .rw[(fa1 h).1,Cm,u,A];exact G _ se
 .rw[(fa2 h).1];split
  .rw[Cm,u,A];exact G _ se
  .exact Bt.refl w
 .rw[(fa3 h).1,Cm,u,A];exact G _ se
 .rw[(fa4 h).1];exact q1J _
 .rw[(fa9 h).1];exact Bt.refl w
end
def BS.kept{K}:∀{k:Z}{w:Wd}{m:Ah}{x:Wd}{m':Ah},BS k w m x m'->BgW K w->BgW K x
 |0,_,_,_,_,⟨q,_⟩,h=>by rw[q];exact h
 |_+1,_,_,_,_,⟨_,u⟩,h=>BS.kept u (FX.1 h)
def Ch(t:zt)(a:Ans):Ah:=⟨⟨2,⟨#[]⟩,⟨#[]⟩,⟨#[]⟩,0,0,0,⟨[],[],[]⟩⟩,t,if a.kind=1 then 0 else 9,0,a.Ac,if a.kind=1 then a.listen else -1,a.Af,a.Ak,0,a.slot,0,0,0,0,0,zb,BY,c60⟩
def qvC(e:Bw)(s:zt):Bw:=⟨qxB e.head s,e.next.set s.toNat (AX e.head),e.Ae-1⟩
def qqU{e}(h:BH e=I){l}(u:qHB e=O l){s:zt}(hs:0<=s/\s<e.next.length)(B:s∉l)(H:1<=e.Ae):qHB (qvC e s)=O (s::l)/\BH (qvC e s)=I/\qWF (qvC e s)=qWF e-1:=by
 have L:=(qjB h).2.2.1;have C:-1<=s/\s<=2147483646:=sa
 have q:=qBP u hs B (qWI (w:=e.head) C) (e.Ae-1)
 have A:BH (qvC e s)=I:=by
  obtain⟨_,D,E,P⟩:=qjB h;unfold BH;rw[show qHB (qvC e s)=O (s::l)from q];simp only[zl,zF,zB7,zBL];refine⟨⟨?_,?_⟩,?_⟩
  .show 1<=(e.next.set _ _).length;rw[zAd];exact D
  .show(e.next.set _ _).length<=4;rw[zAd];exact E
  .show 0<=e.Ae-1;omega
 refine⟨q,A,?_⟩;unfold qWF;rw[A,h,show qHB (qvC e s)=O (s::l)from q,u];show((((e.next.set _ _).length:Z):zt)-_)=_;rw[zAd];simp only[zBA,zAG,zBy];omega
def qka{e}(h:BH e=I){l}(u:qHB e=O l){s}(hs:0<=s)(A:s∉l)(x):qHB {e with next:=e.next.set s.toNat x}=O l/\BH {e with next:=e.next.set s.toNat x}=I:=by
 obtain⟨B,C⟩:=B3.1 u;have q:qHB {e with next:=e.next.set s.toNat x}=O l:=B3.2 ⟨qlH hs B A,C⟩;obtain⟨_,D,E,H⟩:=qjB h;refine⟨q,?_⟩;unfold BH;rw[q];simp only[zl,zF,zB7,zBL,zAd];exact⟨⟨D,E⟩,H⟩
def q5a{w}{m:Ah}{v}{gr}{en}(h:Ay w m v gr en)(ac:m.pc=0){l}(P:qHB en=O l)(Q:m.slot∉l)(an:1<=en.Ae/\en.Ae<=1000000000)(A:0<=m.listen)(aO:1<=(mL w m).Ae/\(mL w m).Ae<=1000000000):∃m',BS 5 w m (BG (BN w m.Ac.toNat m.Af.toNat v {gr with ends:=gr.ends.set m.Ak.toNat (qvC en m.slot)}) m {mL w m with Ae:=(mL w m).Ae-1}) m'/\m'.done=I/\m'.answer=⟨6,m.Ac,m.Af,m.Ak,m.slot,m.listen,0,c60⟩/\wdB (BG (BN w m.Ac.toNat m.Af.toNat v {gr with ends:=gr.ends.set m.Ak.toNat (qvC en m.slot)}) m {mL w m with Ae:=(mL w m).Ae-1})=I:=by
 have go:∀{ad:Wd}{m':Ah},qzA ad m'=I->∀p:zt,m'.pc=p->(0<=p/\p<=4)->0<=m'.listen->fGo ad m':=λhs p ao R A=>⟨hs,.inl (by rw[ao];exact R),λaP=>sa⟩;have H:=h.BH;have T:=h.slot;obtain⟨ap,aq,_⟩:=q9I (go h.AA 0 ac sb A);obtain⟨ar,ae,_⟩:=fa0 (w:=w) ac;rw[h.mE]at ae;have au:=BS.one h.done (ap.trans ar) (aq.trans ae);have L:Ay w {m with word:=en.head,pc:=1} v gr en:=h.BJ rfl rfl rfl rfl rfl rfl rfl rfl h.i rfl;obtain⟨aQ,e2⟩:=qka H P T.1 Q (AX en.head);have av:=qvI h.right h.ver.2 h.clu.2 h.Ak.2 (en':={en with next:=en.next.set m.slot.toNat (AX en.head)}) e2 se;have q:=(L.F4 (en':={en with next:=en.next.set m.slot.toNat (AX en.head)}) se av).BJ (m':={m with word:=en.head,pc:=2}) rfl rfl rfl rfl rfl rfl rfl rfl h.i rfl;obtain⟨c1,c2,_⟩:=q9I (go L.AA 1 rfl sb A);obtain⟨d1,d2,_⟩:=fa1 (w:=w) (m:={m with word:=en.head,pc:=1}) rfl;obtain⟨aw,ax,ay⟩:=L.at_;rw[Cm,aw,ax,ay]at d1;have U:=BS.one L.done (c1.trans d1) (c2.trans d2);generalize af:BN w m.Ac.toNat m.Af.toNat v {gr with ends:=gr.ends.set m.Ak.toNat {en with next:=en.next.set m.slot.toNat (AX en.head)}}=C at*;have U:BS 1 w {m with word:=en.head,pc:=1} C {m with word:=en.head,pc:=2}:=U;have q:Ay C {m with word:=en.head,pc:=2} {v with Aj:=v.Aj.set m.Af.toNat {gr with ends:=gr.ends.set m.Ak.toNat {en with next:=en.next.set m.slot.toNat (AX en.head)}}} {gr with ends:=gr.ends.set m.Ak.toNat {en with next:=en.next.set m.slot.toNat (AX en.head)}} {en with next:=en.next.set m.slot.toNat (AX en.head)}:=q;have aR:=(qjB H).2.2.1;have az:-1<=m.slot/\m.slot<=2147483646:=sa
 have aA:qHB {en with next:=en.next.set m.slot.toNat (AX en.head),head:=qxB en.head m.slot}=O (m.slot::l):=qBP P T Q (qWI az) en.Ae
 have e3:BH {en with next:=en.next.set m.slot.toNat (AX en.head),head:=qxB en.head m.slot}=I:=by
  obtain⟨_,aB,aC,aD⟩:=qjB H;unfold BH;rw[aA];simp only[zl,zF,zB7,zBL,zAd];exact⟨⟨aB,aC⟩,aD⟩
 obtain⟨aE,aF,ag⟩:=q.at_;have ah:=qvI q.right q.ver.2 q.clu.2 q.Ak.2 (en':={en with next:=en.next.set m.slot.toNat (AX en.head),head:=qxB en.head m.slot}) e3 rfl;have u:=(q.F4 (en':={en with next:=en.next.set m.slot.toNat (AX en.head),head:=qxB en.head m.slot}) rfl ah).BJ (m':={m with word:=en.head,pc:=3}) rfl rfl rfl rfl rfl rfl rfl rfl h.i rfl;obtain⟨aG,aH,_⟩:=q9I (go q.AA 2 rfl sb A);obtain⟨ai,aj,_⟩:=fa2 (w:=C) (m:={m with word:=en.head,pc:=2}) rfl;rw[Cm,aE,aF,ag,zk rfl]at ai;rw[ag,zk rfl]at aj;have V:=BS.one q.done (aG.trans ai) (aH.trans aj)
 have E:BN C m.Ac.toNat m.Af.toNat {v with Aj:=v.Aj.set m.Af.toNat {gr with ends:=gr.ends.set m.Ak.toNat {en with next:=en.next.set m.slot.toNat (AX en.head)}}} {gr with ends:=(gr.ends.set m.Ak.toNat {en with next:=en.next.set m.slot.toNat (AX en.head)}).set m.Ak.toNat {en with next:=en.next.set m.slot.toNat (AX en.head),head:=qxB en.head m.slot}}=BN w m.Ac.toNat m.Af.toNat v {gr with ends:=gr.ends.set m.Ak.toNat {en with next:=en.next.set m.slot.toNat (AX en.head),head:=qxB en.head m.slot}}:=by
  rw[<-af];show({w with Ab:=(w.Ab.set m.Ac.toNat _).set m.Ac.toNat {v with Aj:=(v.Aj.set m.Af.toNat _).set m.Af.toNat {gr with ends:=(gr.ends.set m.Ak.toNat _).set m.Ak.toNat _}}}:Wd)=_;rw[qsB,qsB,qsB]
 have V:BS 1 C {m with word:=en.head,pc:=2} (BN w m.Ac.toNat m.Af.toNat v {gr with ends:=gr.ends.set m.Ak.toNat {en with next:=en.next.set m.slot.toNat (AX en.head),head:=qxB en.head m.slot}}) {m with word:=en.head,pc:=3}:=by rw[<-E];exact V
 have u:Ay (BN w m.Ac.toNat m.Af.toNat v {gr with ends:=gr.ends.set m.Ak.toNat {en with next:=en.next.set m.slot.toNat (AX en.head),head:=qxB en.head m.slot}}) {m with word:=en.head,pc:=3} {v with Aj:=v.Aj.set m.Af.toNat {gr with ends:=gr.ends.set m.Ak.toNat {en with next:=en.next.set m.slot.toNat (AX en.head),head:=qxB en.head m.slot}}} {gr with ends:=gr.ends.set m.Ak.toNat {en with next:=en.next.set m.slot.toNat (AX en.head),head:=qxB en.head m.slot}} {en with next:=en.next.set m.slot.toNat (AX en.head),head:=qxB en.head m.slot}:=by
  have:=u;rw[show BN C ({m with word:=en.head,pc:=2}:Ah).Ac.toNat ({m with word:=en.head,pc:=2}:Ah).Af.toNat _ _=_ from E]at this;simp only[qsB]at this;exact this
 clear E q ah af;obtain⟨aT,e4,_⟩:=qqU H P T Q an.1;generalize E:BN w m.Ac.toNat m.Af.toNat v {gr with ends:=gr.ends.set m.Ak.toNat {en with next:=en.next.set m.slot.toNat (AX en.head),head:=qxB en.head m.slot}}=w3 at*;obtain⟨W,Y,_⟩:=q9I (go u.AA 3 rfl sb A);obtain⟨B,aa,_⟩:=fa3 (w:=w3) (m:={m with word:=en.head,pc:=3}) rfl;obtain⟨aI,aJ,aK⟩:=u.at_;rw[Cm,aI,aJ,aK]at B;rw[show wI (({en with next:=en.next.set m.slot.toNat (AX en.head),head:=qxB en.head m.slot}:Bw).Ae-1)=en.Ae-1 from qAO (by show InR (en.Ae-1);unfold InR;omega)]at B;have ab:=BS.one u.done (W.trans B) (Y.trans aa);have aL:=qvI u.right u.ver.2 u.clu.2 u.Ak.2 (en':=qvC en m.slot) e4 rfl;have D:=(u.F4 (en':=qvC en m.slot) rfl aL).BJ (m':={m with word:=en.head,pc:=4}) rfl rfl rfl rfl rfl rfl rfl rfl h.i rfl
 have ak:BN w3 m.Ac.toNat m.Af.toNat {v with Aj:=v.Aj.set m.Af.toNat {gr with ends:=gr.ends.set m.Ak.toNat {en with next:=en.next.set m.slot.toNat (AX en.head),head:=qxB en.head m.slot}}} {gr with ends:=(gr.ends.set m.Ak.toNat {en with next:=en.next.set m.slot.toNat (AX en.head),head:=qxB en.head m.slot}).set m.Ak.toNat (qvC en m.slot)}=BN w m.Ac.toNat m.Af.toNat v {gr with ends:=gr.ends.set m.Ak.toNat (qvC en m.slot)}:=by
  rw[<-E];show({w with Ab:=(w.Ab.set m.Ac.toNat _).set m.Ac.toNat {v with Aj:=(v.Aj.set m.Af.toNat _).set m.Af.toNat {gr with ends:=(gr.ends.set m.Ak.toNat _).set m.Ak.toNat _}}}:Wd)=_;rw[qsB,qsB,qsB]
 have ab:BS 1 w3 {m with word:=en.head,pc:=3} (BN w m.Ac.toNat m.Af.toNat v {gr with ends:=gr.ends.set m.Ak.toNat (qvC en m.slot)}) {m with word:=en.head,pc:=4}:=by rw[<-ak];exact ab
 have D:Ay (BN w m.Ac.toNat m.Af.toNat v {gr with ends:=gr.ends.set m.Ak.toNat (qvC en m.slot)}) {m with word:=en.head,pc:=4} {v with Aj:=v.Aj.set m.Af.toNat {gr with ends:=gr.ends.set m.Ak.toNat (qvC en m.slot)}} {gr with ends:=gr.ends.set m.Ak.toNat (qvC en m.slot)} (qvC en m.slot):=by
  have:=D;rw[show BN w3 ({m with word:=en.head,pc:=3}:Ah).Ac.toNat ({m with word:=en.head,pc:=3}:Ah).Af.toNat _ _=_ from ak]at this;simp only[qsB]at this;exact this
 obtain⟨W,Y,_⟩:=q9I (go D.AA 4 rfl sb A);obtain⟨B,aa,_⟩:=fa4 (w:=BN w m.Ac.toNat m.Af.toNat v {gr with ends:=gr.ends.set m.Ak.toNat (qvC en m.slot)}) (m:={m with word:=en.head,pc:=4}) rfl;obtain⟨al,am⟩:=D.lis A;have aM:mL (BN w m.Ac.toNat m.Af.toNat v {gr with ends:=gr.ends.set m.Ak.toNat (qvC en m.slot)}) {m with word:=en.head,pc:=4}=mL w m:=rfl;rw[aM]at B al am;obtain⟨g1,g2,g3⟩:=Di.1 am;have R:=qiE D.right al (x':={mL w m with Ae:=(mL w m).Ae-1}) rfl (Di.2 ⟨g1,by show 0<=(mL w m).Ae-1;omega,g3⟩);rw[qAO (x:=(mL w m).Ae-1) si]at B;have aN:=BS.one D.done (W.trans B) (Y.trans aa);exact⟨_,(((au.trans U).trans V).trans ab).trans aN,rfl,rfl,R⟩
def qPY{w}{m:Ah}(hs:qzA w m=I)(h:m.pc=9):∃m',BS 1 w m w m'/\m'.done=I/\m'.answer=Dl 7 0:=by
 obtain⟨_,_,_,q⟩:=Am.1 hs;obtain⟨u,A,_⟩:=q9I (w:=w) (m:=m) ⟨hs,.inr h,sa⟩;obtain⟨B,C,_⟩:=fa9 (w:=w) h;exact⟨_,BS.one q.done (u.trans B) (A.trans C),rfl,rfl⟩
def q5B(v:AM):F Bw:=v.Aj.flatMap λg=>g.ends
def qiJ(a now:zt):Prop:=a<=9223372036854775805/\a+2<=now
instance(a now:zt):Decidable (qiJ a now):=by unfold qiJ;infer_instance
def pnI(w:Wd)(m:Ah):zt:=(w.pins[m.i.toNat]?).getD 0
def lbR(w:Wd)(m:Ah):Bo:=(w.An[m.i.toNat]?).getD ⟨0,0,zb⟩
def lsL(w:Wd)(m:Ah):AI:=(w.Aa[m.i.toNat]?).getD ⟨⟨#[]⟩,zb,0,zb⟩
def kE(w:Wd)(m:Ah):Bw:=((q5B (mV w m))[m.k.toNat]?).getD enD
def Et(w:Wd)(m:Ah):Prop:=
 (m.pc=2->m.i<w.pins.length)/\(m.pc=5->m.k<(q5B (mV w m)).length)/\
 (m.pc=6->m.i<w.An.length/\(lbR w m).Ac=m.Ac/\(lbR w m).gone=zb)/\
 (m.pc=9->m.i<w.Aa.length)/\(m.pc=10->m.i<w.Aa.length/\(lsL w m).drain=I)
abbrev cGo(w:Wd)(m:Ah):Prop:=qzA w m=I/\Et w m/\(0<=m.pc/\m.pc<=10/\m.pc≠7)
abbrev upE(w:Wd)(m:Ah):Prop:=w.Ai=m.Ai/\w.Ai<1000000000000
def cdW(w:Wd)(m:Ah):Wd:=if(w.Aa.length:zt)<=m.i then{w with AL:=0}else w
def JU(m:Ah):Ans:=⟨11,0,0,0,0,0,m.answer.n,c60⟩
def cdM(w:Wd)(m:Ah):Ah:=
 if(w.Aa.length:zt)<=m.i then{m with done:=I,answer:=JU m}
 else if(lsL w m).drain=I/\(lsL w m).closed=zb then{m with pc:=9}else{m with i:=m.i+1}
def cdE(w:Wd)(m:Ah):Ev:=
 if(w.Aa.length:zt)<=m.i then{evO m 2 14 0 with done:=I,answer:=JU m}
 else evO m 1 4 (if(lsL w m).drain then 1 else 0)
def cW(w:Wd)(m:Ah):Wd:=
 if m.pc=0 then(if w.AL=0 then{w with AL:=1}else w)
 else if m.pc=3 then(if upE w m then{w with Ai:=w.Ai+1}else w)
 else if m.pc=4 then(if(w.An.length:zt)<=m.i then cdW w {m with i:=0,pc:=8}else w)
 else if m.pc=6 then{w with Ab:=w.Ab.set m.Ac.toNat {mV w m with Ba:=I},An:=w.An.set m.i.toNat {lbR w m with gone:=I}}
 else if m.pc=8 then cdW w m
 else if m.pc=10 then{w with Aa:=w.Aa.set m.i.toNat {lsL w m with closed:=I}}
 else w
def cM(w:Wd)(m:Ah):Ah:=
 if m.pc=0 then(if w.AL=0 then{m with pc:=1}else{m with done:=I,answer:=Dl 12 0})
 else if m.pc=1 then{m with Ai:=w.Ai,pc:=2,i:=0}
 else if m.pc=2 then
  (if pnI w m≠0/\pnI w m≠wI (m.Ai+1)then{m with pc:=4,i:=0}
   else if m.i+1<w.pins.length then{m with i:=m.i+1}else{m with pc:=3,i:=m.i+1})
 else if m.pc=3 then(if upE w m then{m with Ai:=w.Ai+1,pc:=4,i:=0}else{m with pc:=4,i:=0})
 else if m.pc=4 then
  (if(w.An.length:zt)<=m.i then cdM w {m with i:=0,pc:=8}
   else if(lbR w m).gone=I\/¬qiJ (lbR w m).at_ m.Ai then{m with i:=m.i+1}
   else{m with Ac:=(lbR w m).Ac,Af:=0,Ak:=0,other:=0,slot:=0,k:=0,pc:=5})
 else if m.pc=5 then
  (if(kE w m).Ae≠0 then{m with pc:=4,i:=wI (m.i+1)}
   else if m.k+1<(q5B (mV w m)).length then{m with k:=m.k+1}else{m with k:=m.k+1,pc:=6})
 else if m.pc=6 then{m with answer:={m.answer with n:=wI (m.answer.n+1)},pc:=4,i:=m.i+1}
 else if m.pc=8 then cdM w m
 else if m.pc=9 then(if(lsL w m).Ae=0 then{m with pc:=10}else{m with pc:=8,i:=m.i+1})
 else{m with pc:=8,i:=m.i+1}
def cE(w:Wd)(m:Ah):Ev:=
 if m.pc=0 then(if w.AL=0 then evO m 4 14 1 else{evO m 5 14 1 with done:=I,answer:=Dl 12 0})
 else if m.pc=1 then evO m 1 1 w.Ai
 else if m.pc=2 then evO m 1 2 (pnI w m)
 else if m.pc=3 then(if upE w m then evO m 4 1 (w.Ai+1)else evO m 5 1 w.Ai)
 else if m.pc=4 then(if(w.An.length:zt)<=m.i then cdE w {m with i:=0,pc:=8}else evO m 1 11 (lbR w m).Ac)
 else if m.pc=5 then evV w m 1 7 (kE w m).Ae
 else if m.pc=6 then evO m 2 12 m.Ac
 else if m.pc=8 then cdE w m
 else if m.pc=9 then evO m 1 5 (lsL w m).Ae
 else evO m 2 13 1
noncomputable def csW(w:Wd)(m:Ah):Wd:=@ite _ (cGo w m) (zBb _) (cW w m) w
noncomputable def csM(w:Wd)(m:Ah):Ah:=@ite _ (cGo w m) (zBb _) (cM w m) m
noncomputable def csE(w:Wd)(m:Ah):Ev:=@ite _ (cGo w m) (zBb _) (cE w m) ev0
def qDb{w}{m:Ah}(h:¬cGo w m):csW w m=w/\csM w m=m/\csE w m=ev0:=by
 unfold csW csM csE;rw[zj h,zj h,zj h];exact⟨rfl,rfl,rfl⟩
def qqH{w}{m:Ah}(h:cGo w m):csW w m=cW w m/\csM w m=cM w m/\csE w m=cE w m:=by
 unfold csW csM csE;rw[zk h,zk h,zk h];exact⟨rfl,rfl,rfl⟩
section
variable{w:Wd}{m:Ah}
def qLH{r}(h:w.An[m.i.toNat]?=O r):lbR w m=r:=by unfold lbR;rw[h];rfl
def qJH{r}(h:w.Aa[m.i.toNat]?=O r):lsL w m=r:=by unfold lsL;rw[h];rfl
def qwY{r}(h:w.pins[m.i.toNat]?=O r):pnI w m=r:=by unfold pnI;rw[h];rfl
def qMd{r}(h:(q5B (mV w m))[m.k.toNat]?=O r):kE w m=r:=by unfold kE;rw[h];rfl
def qzT(h:wdB w=I){x}(q:x=0\/x=1):wdB {w with AL:=x}=I:=by
 unfold wdB qGB Dj Dg at*;simp only[zl,zF]at*;obtain⟨⟨⟨⟨⟨⟨⟨⟨⟨⟨⟨⟨⟨u,A⟩,B⟩,C⟩,D⟩,E⟩,V⟩,H⟩,L⟩,P⟩,Q⟩,R⟩,T⟩,U⟩:=h;exact⟨⟨⟨⟨⟨⟨⟨⟨⟨⟨⟨⟨⟨u,A⟩,B⟩,C⟩,D⟩,E⟩,q⟩,H⟩,L⟩,P⟩,Q⟩,R⟩,T⟩,U⟩
end
section
variable{w:Wd}{m:Ah}
def cb0(h:m.pc=0):cW w m=(if w.AL=0 then{w with AL:=1}else w)/\cM w m=(if w.AL=0 then{m with pc:=1}else{m with done:=I,answer:=Dl 12 0})/\cE w m=(if w.AL=0 then evO m 4 14 1 else{evO m 5 14 1 with done:=I,answer:=Dl 12 0}):=by simp[cW,cM,cE,h]
def cb1(h:m.pc=1):cW w m=w/\cM w m={m with Ai:=w.Ai,pc:=2,i:=0}/\cE w m=evO m 1 1 w.Ai:=by simp[cW,cM,cE,h]
def cb2(h:m.pc=2):cW w m=w/\cM w m=(if pnI w m≠0/\pnI w m≠wI (m.Ai+1)then{m with pc:=4,i:=0}else if m.i+1<w.pins.length then{m with i:=m.i+1}else{m with pc:=3,i:=m.i+1})/\cE w m=evO m 1 2 (pnI w m):=by simp[cW,cM,cE,h]
def cb3(h:m.pc=3):cW w m=(if upE w m then{w with Ai:=w.Ai+1}else w)/\cM w m=(if upE w m then{m with Ai:=w.Ai+1,pc:=4,i:=0}else{m with pc:=4,i:=0})/\cE w m=(if upE w m then evO m 4 1 (w.Ai+1)else evO m 5 1 w.Ai):=by simp[cW,cM,cE,h]
def cb4(h:m.pc=4):cW w m=(if(w.An.length:zt)<=m.i then cdW w {m with i:=0,pc:=8}else w)/\cM w m=(if(w.An.length:zt)<=m.i then cdM w {m with i:=0,pc:=8}else if(lbR w m).gone=I\/¬qiJ (lbR w m).at_ m.Ai then{m with i:=m.i+1}else{m with Ac:=(lbR w m).Ac,Af:=0,Ak:=0,other:=0,slot:=0,k:=0,pc:=5})/\cE w m=(if(w.An.length:zt)<=m.i then cdE w {m with i:=0,pc:=8}else evO m 1 11 (lbR w m).Ac):=by simp[cW,cM,cE,h]
def cb5(h:m.pc=5):cW w m=w/\cM w m=(if(kE w m).Ae≠0 then{m with pc:=4,i:=wI (m.i+1)}else if m.k+1<(q5B (mV w m)).length then{m with k:=m.k+1}else{m with k:=m.k+1,pc:=6})/\cE w m=evV w m 1 7 (kE w m).Ae:=by simp[cW,cM,cE,h]
def cb6(h:m.pc=6):cW w m={w with Ab:=w.Ab.set m.Ac.toNat {mV w m with Ba:=I},An:=w.An.set m.i.toNat {lbR w m with gone:=I}}/\cM w m={m with answer:={m.answer with n:=wI (m.answer.n+1)},pc:=4,i:=m.i+1}/\cE w m=evO m 2 12 m.Ac:=by simp[cW,cM,cE,h]
def cb8(h:m.pc=8):cW w m=cdW w m/\cM w m=cdM w m/\cE w m=cdE w m:=by simp[cW,cM,cE,h]
def cb9(h:m.pc=9):cW w m=w/\cM w m=(if(lsL w m).Ae=0 then{m with pc:=10}else{m with pc:=8,i:=m.i+1})/\cE w m=evO m 1 5 (lsL w m).Ae:=by simp[cW,cM,cE,h]
def Im(h:m.pc=10):cW w m={w with Aa:=w.Aa.set m.i.toNat {lsL w m with closed:=I}}/\cM w m={m with pc:=8,i:=m.i+1}/\cE w m=evO m 2 13 1:=by simp[cW,cM,cE,h]
end
def F7{l}{n}:qXF l n=I<->∃(j:Z)(x:Bo),l[j]?=O x/\x.Ac=n/\x.gone=I:=by
 unfold qXF;rw[zBY];constructor
 .rintro⟨x,u,h⟩;obtain⟨j,q⟩:=zCo.1 u;simp only[zl,beq_iff_eq]at h;exact⟨j,x,q,h.1,h.2⟩
 .rintro⟨j,x,q,A,B⟩;exact⟨x,zh q,by simp[A,B]⟩
def qIY{l}{i}{r}(B:l[i]?=O r)(n)(E:r.gone=zb):qXF (l.set i {r with gone:=I}) n=if n=r.Ac then I else qXF l n:=by
 have D:=(ze.1 B).1;rw[zCf,F7];constructor
 .rintro⟨j,x,h,u,A⟩;by_cases q:n=r.Ac
  .rw[zk q]
  .rw[zj q,F7];rw[zAE]at h;split at h
   .cases h;exact absurd u.symm q
   .exact⟨j,x,h,u,A⟩
 .intro C;split at C
  .rename_i q;exact⟨i,{r with gone:=I},by rw[zAE];simp[D],q.symm,rfl⟩
  .rename_i q;obtain⟨j,x,h,u,A⟩:=F7.1 C;refine⟨j,x,?_,u,A⟩;rw[zAE,zj ?_]
   .exact h
   .rintro rfl;rw[B]at h;cases h;exact q u.symm
def qfV{l}{i}{r}(h:qOE l=I)(u:l[i]?=O r):qOE (l.set i {r with gone:=I})=I:=by
 have hm:(l.set i {r with gone:=I}).map (·.Ac)=l.map (·.Ac):=by
  apply zBU;intro j;rw[zAy,zAy,zAE];split
  .rename_i A;subst A;have:=(ze.1 u).1;rw[zk this,u];rfl
  .rfl
 have B:∀(l:F Bo)(j:Z)(k:zt),((l.take j).any λx=>x.Ac==k)=((l.map (·.Ac)).take j).any (·==k):=λl j k=>by
  rw[<-List.map_take,List.any_map];rfl
 unfold qOE at*;rw[AO]at*;intro j x q
 have C:∀y,l[j]?=O y->x.Ac=y.Ac->x.at_=y.at_->FR (l.set i {r with gone:=I}) j x=I:=λy D e1 e2=>by
  have:=h j y D;unfold FR at*;rw[B,hm,<-B,e1,e2];exact this
 rw[zAE]at q;split at q
 .rename_i A;subst A;split at q
  .cases q;exact C r u rfl rfl
  .cases q
 .exact C x q rfl rfl
def qpW{w}(h:wdB w=I){i}{r}{v}(u:w.An[i]?=O r)(H:r.gone=zb)(L:w.Ab[r.Ac.toNat]?=O v):wdB {w with Ab:=w.Ab.set r.Ac.toNat {v with Ba:=I},An:=w.An.set i {r with gone:=I}}=I:=by
 obtain⟨P,B,C,Q,D,R⟩:=qNC h;have T:=zh u;have A:=C;unfold qOE at A;rw[AO]at A
 have W:0<=r.Ac:=by
  have:=A i r u;unfold FR at this;simp only[zl,zF]at this;exact this.1.1
 refine qJR ⟨P,⟨B.1,by show w.current<(w.Ab.set _ _).length;rw[zAd];exact B.2⟩,qfV C u,?_,?_,R⟩
 .rw[zAs]at*;intro x q
  have E:∀y∈w.An,x.Ac=y.Ac->x.at_=y.at_->Dj {w with Ab:=w.Ab.set r.Ac.toNat {v with Ba:=I},An:=w.An.set i {r with gone:=I}} x=I:=λy U e1 e2=>by
   have:=Q y U;unfold Dj at*;rw[e1,e2];simpa only[zAd]using this
  rcases zAf q with q|rfl
  .exact E x q rfl rfl
  .exact E r T rfl rfl
 .rw[AO]at*;intro j x q;show Dg _ j x=I;unfold Dg;show(qVB x&&(x.Ba==qXF (w.An.set i {r with gone:=I}) j))=I;rw[qIY u _ H];rw[zAE]at q;split at q
  .rename_i V;split at q
   .cases q;have:=D _ v L;unfold Dg at this;simp only[zl]at this;rw[zk sa];simp only[zl];exact⟨this.1,rfl⟩
   .cases q
  .rename_i V;have:=D j x q;unfold Dg at this;rw[zj sa];exact this
def CR:Z->Wd->Ah->Wd->Ah->Prop
 |0,w,m,w',m'=>w'=w/\m'=m
 |n+1,w,m,w',m'=>m.done=zb/\cGo w m/\CR n (cW w m) (cM w m) w' m'
def CR.one{w}{m:Ah}{w'}{m':Ah}(h:cGo w m)(hd:m.done=zb)(e1:cW w m=w')(e2:cM w m=m'):CR 1 w m w' m':=⟨hd,h,e1.symm,e2.symm⟩
def CR.trans:∀{a b:Z}{w:Wd}{m:Ah}{w1:Wd}{h:Ah}{q:Wd}{u:Ah},CR a w m w1 h->CR b w1 h q u->CR (a+b) w m q u
 |0,b,_,_,_,_,_,_,⟨A,B⟩,k=>by rw[zAr];subst A;subst B;exact k
 |a+1,b,_,_,_,_,_,_,⟨C,D,E⟩,k=>by rw[zCT];exact⟨C,D,CR.trans E k⟩
section
variable{w w':Wd}{m m':Ah}{v v':AM}{gr:Bi}{en:Bw}
def Ay.move(h:Ay w m v gr en)(q:wdB w'=I)(u:w'.pins=w.pins)(A:w'.Ab[m.Ac.toNat]?=O v')(B:v'.Aj=v.Aj)(C:w'.Aa.length=w.Aa.length)(D:m'.Al=m.Al)(k2:m'.done=m.done)(k3:m'.Ac=m.Ac)(E:m'.Af=m.Af)(H:m'.Ak=m.Ak)(k6:m'.other=m.other)(L:m'.slot=m.slot)(P:m'.listen=m.listen)(Q:0<=m'.i)(R:0<=m'.k):Ay w' m' v' gr en:=
 ⟨q,by rw[D,u];exact h.Al,by rw[k2];exact h.done,by rw[k3];exact⟨h.ver.1,A⟩,by rw[E,B];exact h.clu,by rw[H];exact h.Ak,by rw[k6];exact h.other,by rw[L];exact h.slot,by rw[P,C];exact h.listen,Q,R⟩
def Ay.Ef(h:Ay w m v gr en)(q:m'.Al=m.Al)(k2:m'.done=m.done)(k3:m'.Ac=m.Ac)(u:m'.Af=m.Af)(A:m'.Ak=m.Ak)(k6:m'.other=m.other)(B:m'.slot=m.slot)(C:m'.listen=m.listen)(D:0<=m'.i)(E:0<=m'.k):Ay w m' v gr en:=
 h.move h.right rfl h.ver.2 rfl rfl q k2 k3 u A k6 B C D E
def Hq.first{i}(h:Hq w i v):∃gr en,v.Aj[0]?=O gr/\gr.ends[0]?=O en/\1<=en.next.length/\1<=gr.ends.length:=by
 obtain⟨gr,q⟩:=qEA (l:=v.Aj) (i:=0) (by have:=h.Aj.1;omega);obtain⟨_,_,_,A,_,_,B⟩:=h.ends q;obtain⟨en,u⟩:=qEA (l:=gr.ends) (i:=0) sa;exact⟨gr,en,q,u,(B en (zh u)).2,A⟩
def Ay.first(h:Ay w m v gr en){x}(A:0<=x){u}(q:w.Ab[x.toNat]?=O u)(B:m'.Al=m.Al)(k2:m'.done=m.done)(k3:m'.Ac=x)(C:m'.Af=0)(D:m'.Ak=0)(k6:m'.other=0)(E:m'.slot=0)(H:m'.listen=m.listen)(L:0<=m'.i)(P:0<=m'.k):qzA w m'=I:=by
 obtain⟨Q,R,T,U,V,W⟩:=(qaC h.right q).first;exact Am.2 ⟨u,Q,R,h.right,by rw[B];exact h.Al,by rw[k2];exact h.done,by rw[k3];exact⟨A,q⟩,by rw[C];exact⟨zAS _,T⟩,by rw[D];exact⟨zAS _,U⟩,by rw[k6];omega,by rw[E];omega,by rw[H];exact h.listen,L,P⟩
end
section
variable{K:Z}{w:Wd}{m:Ah}
def qGW(q:wdB w=I):Bt K w (cdW w m)/\wdB (cdW w m)=I:=by
 unfold cdW;split
 .exact⟨⟨λh=>h,λu h=>⟨u,h,rfl⟩⟩,qzT q (.inl rfl)⟩
 .exact⟨Bt.refl w,q⟩
def qhG(E:cGo w m):Bt K w (cW w m)/\wdB (cW w m)=I:=by
 obtain⟨v,ae,af,C⟩:=Am.1 E.1;have q:=C.right;have ag:=E.2.2;have V:=E.2.1;have ah:=C.i;rcases(by omega:m.pc=0\/m.pc=1\/m.pc=2\/m.pc=3\/m.pc=4\/m.pc=5\/m.pc=6\/m.pc=8\/m.pc=9\/m.pc=10)with h|h|h|h|h|h|h|h|h|h
 .rw[(cb0 h).1];split
  .exact⟨⟨λh=>h,λu h=>⟨u,h,rfl⟩⟩,qzT q (.inr rfl)⟩
  .exact⟨Bt.refl w,q⟩
 .rw[(cb1 h).1];exact⟨Bt.refl w,q⟩
 .rw[(cb2 h).1];exact⟨Bt.refl w,q⟩
 .rw[(cb3 h).1];split
  .rename_i ac;exact⟨⟨λh=>h,λu h=>⟨u,h,rfl⟩⟩,qGK q ac.2⟩
  .exact⟨Bt.refl w,q⟩
 .rw[(cb4 h).1];split
  .exact qGW q
  .exact⟨Bt.refl w,q⟩
 .rw[(cb5 h).1];exact⟨Bt.refl w,q⟩
 .rw[(cb6 h).1];obtain⟨ad,B,W⟩:=V.2.2.1 h;obtain⟨r,Y⟩:=qEA (l:=w.An) (i:=m.i.toNat) sa;rw[qLH Y]at B W⊢;have H:w.Ab[r.Ac.toNat]?=O v:=by rw[B];exact C.ver.2
  rw[C.at_.1,<-B];refine⟨⟨λ⟨⟨L,P,Q,R,T⟩,k6,D⟩=>⟨⟨L,by show(w.Ab.set _ _).length<=K;rw[zAd];exact P,Q,R,by show(w.An.set _ _).length<=K;rw[zAd];exact T⟩,k6,λu A=>?_⟩,λu A=>?_⟩,qpW q Y W H⟩
  .rcases zAf A with A|rfl
   .exact D u A
   .exact D v (zh H)
  .rcases zAf A with A|rfl
   .exact⟨u,A,rfl⟩
   .exact⟨v,zh H,rfl⟩
 .rw[(cb8 h).1];exact qGW q
 .rw[(cb9 h).1];exact⟨Bt.refl w,q⟩
 .rw[(Im h).1];obtain⟨ad,B⟩:=V.2.2.2.2 h;obtain⟨x,U⟩:=qEA (l:=w.Aa) (i:=m.i.toNat) sa;rw[qJH U]at B⊢;refine⟨⟨λ⟨⟨L,P,Q,R,T⟩,k6,D⟩=>⟨⟨L,P,by show(w.Aa.set _ _).length<=K;rw[zAd];exact Q,R,T⟩,k6,D⟩,λu h=>⟨u,h,rfl⟩⟩,qiE q U rfl ?_⟩;have aa:=(qNC q).2.2.2.2.2;rw[AO]at aa;have:=aa _ x U;unfold qvB at this;simp only[zl]at this;have ab:=this.1;unfold qpJ at*;simp only[B,Bool.true_or,Bool.and_true]at ab⊢;exact ab
end
def qSN(w:Wd)(m:Ah):zO:=w.An.any (λr=>r.Ac==m.Ac)||(m.Ac==w.current)||decide (m.Ai<0)||decide (w.Ai<m.Ai)
abbrev En(w:Wd)(m:Ah):Prop:=qzA w m=I/\(m.pc=0\/m.pc=1\/m.pc=2)/\(m.pc=2->qSN w m=zb)
def qoF(w:Wd)(c:Bn):Wd:={w with Ab:=w.Ab++[qRA (qiA c)],current:=w.Ab.length}
def qQJ(w:Wd)(m:Ah):Ah:={m with Ac:=w.current,Af:=0,Ak:=0,other:=0,slot:=0,i:=w.Ab.length,pc:=1}
def HQ(k n:zt):Ans:=⟨k,0,0,0,0,0,n,c60⟩
def G4(k n:zt):Ans:=⟨k,n,0,0,0,0,0,c60⟩
noncomputable def swW(w:Wd)(m:Ah):Wd:=if En w m then(if m.pc=0 then(match qOA m.op.Ao with|none=>qoF w m.op.Ao|some _=>w)else if m.pc=1 then w else{w with An:=w.An++[⟨m.Ac,m.Ai,zb⟩]})else w
noncomputable def swM(w:Wd)(m:Ah):Ah:=if En w m then(if m.pc=0 then(match qOA m.op.Ao with|none=>qQJ w m|some (e,_)=>{m with done:=I,answer:=HQ 9 e})else if m.pc=1 then{m with Ai:=w.Ai,pc:=2}else{m with done:=I,answer:=G4 8 m.i})else m
noncomputable def swE(w:Wd)(m:Ah):Ev:=if En w m then(if m.pc=0 then(match qOA m.op.Ao with|none=>⟨m.Al,0,6,3,-1,zb,w.Ab.length,zb,I,zb,BY⟩|some (e,_)=>⟨m.Al,0,1,3,-1,zb,w.current,zb,I,I,HQ 9 e⟩)else if m.pc=1 then⟨m.Al,0,1,1,-1,zb,w.Ai,zb,zb,zb,BY⟩else⟨m.Al,0,2,11,-1,zb,m.Ac,zb,zb,I,G4 8 m.i⟩)else ev0
def Kv{w}{m:Ah}(h:¬En w m):swW w m=w/\swM w m=m/\swE w m=ev0:=by
 unfold swW swM swE;rw[zj h,zj h,zj h];exact⟨rfl,rfl,rfl⟩
def qoY{w}{m:Ah}(h:En w m)(q:m.pc=0)(u:qOA m.op.Ao=zc):swW w m=qoF w m.op.Ao/\swM w m=qQJ w m/\swE w m=⟨m.Al,0,6,3,-1,zb,w.Ab.length,zb,I,zb,BY⟩:=by
 unfold swW swM swE;rw[zk h,zk h,zk h,zk q,zk q,zk q,u];exact⟨rfl,rfl,rfl⟩
def qOU{w}{m:Ah}(h:En w m)(q:m.pc=0){e i}(u:qOA m.op.Ao=O (e,i)):swW w m=w/\swM w m={m with done:=I,answer:=HQ 9 e}/\swE w m=⟨m.Al,0,1,3,-1,zb,w.current,zb,I,I,HQ 9 e⟩:=by
 unfold swW swM swE;rw[zk h,zk h,zk h,zk q,zk q,zk q,u];exact⟨rfl,rfl,rfl⟩
def sw1{w}{m:Ah}(h:En w m)(q:m.pc=1):swW w m=w/\swM w m={m with Ai:=w.Ai,pc:=2}/\swE w m=⟨m.Al,0,1,1,-1,zb,w.Ai,zb,zb,zb,BY⟩:=by
 have u:¬m.pc=0:=sa
 unfold swW swM swE;rw[zk h,zk h,zk h,zj u,zj u,zj u,zk q,zk q,zk q];exact⟨rfl,rfl,rfl⟩
def sw2{w}{m:Ah}(h:En w m)(A:m.pc=2):swW w m={w with An:=w.An++[⟨m.Ac,m.Ai,zb⟩]}/\swM w m={m with done:=I,answer:=G4 8 m.i}/\swE w m=⟨m.Al,0,2,11,-1,zb,m.Ac,zb,zb,I,G4 8 m.i⟩:=by
 have q:¬m.pc=0:=sa
 have u:¬m.pc=1:=sa
 unfold swW swM swE;rw[zk h,zk h,zk h,zj q,zj q,zj q,zj u,zj u,zj u];exact⟨rfl,rfl,rfl⟩
def qUb{k n}(h:InR k/\InR n):(HQ k n).ok:=⟨h.1,z0,z0,z0,z0,z0,h.2,qiG⟩
def quN{k n}(h:InR k/\InR n):(G4 k n).ok:=⟨h.1,h.2,z0,z0,z0,z0,z0,qiG⟩
def qAL{c}(h:qOA c=zc):qOA (qfD (qiA c))=zc:=by rw[qFJ (AZ.1 h)];exact h
section
variable{w:Wd}{m:Ah}
def qEW{v}{gr}{en}(h:Ay w m v gr en)(hd:(cdM w m).done=zb):cdW w m=w/\qzA w (cdM w m)=I:=by
 have A:=h.i;have q:=h.k;have B:=h.done;unfold cdM at*;unfold cdW;split at hd
 .cases hd
 .rename_i u;rw[zj u,zj u];refine⟨rfl,?_⟩;split
  .exact Ay.AA (h.Ef rfl rfl rfl rfl rfl rfl rfl rfl A q)
  .exact Ay.AA (h.Ef rfl rfl rfl rfl rfl rfl rfl rfl (by show 0<=m.i+1;omega) q)
def qIb(C:cGo w m)(T:m.pc=5->m.i<9223372036854775807)(hd:(cM w m).done=zb):qzA (cW w m) (cM w m)=I:=by
 obtain⟨v,aa,ab,h⟩:=Am.1 C.1;have U:=h.right;have ac:=C.2.2;have ad:=C.2.1;have D:=h.i;have u:=h.k;have A:=(qhG (K:=0) C).2;rcases(by omega:m.pc=0\/m.pc=1\/m.pc=2\/m.pc=3\/m.pc=4\/m.pc=5\/m.pc=6\/m.pc=8\/m.pc=9\/m.pc=10)with q|q|q|q|q|q|q|q|q|q
 .obtain⟨e1,e2,_⟩:=cb0 (w:=w) q;rw[e1]at A⊢;rw[e2]at hd⊢;by_cases B:w.AL=0
  .rw[zk B]at A hd⊢;rw[zk B];exact Ay.AA (h.move A rfl h.ver.2 rfl rfl rfl rfl rfl rfl rfl rfl rfl rfl D u)
  .rw[zj B]at hd;cases hd
 .obtain⟨e1,e2,_⟩:=cb1 (w:=w) q;rw[e1,e2];exact Ay.AA (h.Ef rfl rfl rfl rfl rfl rfl rfl rfl (zAS _) u)
 .obtain⟨e1,e2,_⟩:=cb2 (w:=w) q;rw[e1,e2];split
  .exact Ay.AA (h.Ef rfl rfl rfl rfl rfl rfl rfl rfl (zAS _) u)
  .split<;>exact Ay.AA (h.Ef rfl rfl rfl rfl rfl rfl rfl rfl (by show 0<=m.i+1;omega) u)
 .obtain⟨e1,e2,_⟩:=cb3 (w:=w) q;rw[e1]at A⊢;rw[e2];by_cases B:upE w m
  .rw[zk B]at A⊢;rw[zk B];exact Ay.AA (h.move A rfl h.ver.2 rfl rfl rfl rfl rfl rfl rfl rfl rfl rfl (zAS _) u)
  .rw[zj B,zj B];exact Ay.AA (h.Ef rfl rfl rfl rfl rfl rfl rfl rfl (zAS _) u)
 .obtain⟨e1,e2,_⟩:=cb4 (w:=w) q;rw[e1]at A⊢;rw[e2]at hd⊢;by_cases B:(w.An.length:zt)<=m.i
  .rw[zk B]at A hd⊢;rw[zk B];obtain⟨E,H⟩:=qEW (h.Ef (m':={m with i:=0,pc:=8}) rfl rfl rfl rfl rfl rfl rfl rfl (zAS _) u) hd;rw[E];exact H
  .rw[zj B,zj B];split
   .exact Ay.AA (h.Ef rfl rfl rfl rfl rfl rfl rfl rfl (by show 0<=m.i+1;omega) u)
   .obtain⟨r,L⟩:=qEA (l:=w.An) (i:=m.i.toNat) sa;rw[qLH L];obtain⟨_,_,P,V,_⟩:=qNC U;unfold qOE at P;rw[AO]at P;have Q:=P _ r L;unfold FR at Q;simp only[zl,zF]at Q;have R:=(zAs.1 V) r (zh L);unfold Dj at R;simp only[zl,zF]at R;obtain⟨ae,W⟩:=qEA (l:=w.Ab) (i:=r.Ac.toNat) sa;exact h.first Q.1.1 W rfl rfl rfl rfl rfl rfl rfl rfl D (zAS _)
 .obtain⟨e1,e2,_⟩:=cb5 (w:=w) q;rw[e1,e2];split
  .refine Ay.AA (h.Ef rfl rfl rfl rfl rfl rfl rfl rfl ?_ u);show 0<=wI (m.i+1);have:=T q;show 0<=zAj.wrap (m.i+1);rw[zBz];omega
  .split<;>exact Ay.AA (h.Ef rfl rfl rfl rfl rfl rfl rfl rfl D (by show 0<=m.k+1;omega))
 .obtain⟨e1,e2,_⟩:=cb6 (w:=w) q;rw[e1]at A⊢;rw[e2];rw[h.at_.1]at A⊢;have Y:=(ze.1 h.ver.2).1;exact Ay.AA (h.move (v':={v with Ba:=I}) A rfl (by show(w.Ab.set _ _)[_]?=_;rw[zAE];simp[Y]) rfl rfl rfl rfl rfl rfl rfl rfl rfl rfl (by show 0<=m.i+1;omega) u)
 .obtain⟨e1,e2,_⟩:=cb8 (w:=w) q;rw[e2]at hd⊢;obtain⟨E,H⟩:=qEW h hd;rw[e1,E];exact H
 .obtain⟨e1,e2,_⟩:=cb9 (w:=w) q;rw[e1,e2];split
  .exact Ay.AA (h.Ef rfl rfl rfl rfl rfl rfl rfl rfl D u)
  .exact Ay.AA (h.Ef rfl rfl rfl rfl rfl rfl rfl rfl (by show 0<=m.i+1;omega) u)
 .obtain⟨e1,e2,_⟩:=Im (w:=w) q;rw[e1]at A⊢;rw[e2];exact Ay.AA (h.move A rfl h.ver.2 rfl (by show(w.Aa.set _ _).length=_;rw[zAd]) rfl rfl rfl rfl rfl rfl rfl rfl (by show 0<=m.i+1;omega) u)
end
structure HZ(m:Ah):Prop where
 z:m.answer.kind≠1->m.answer=Dl m.answer.kind 0
 l:4<=m.pc->m.pc<=12->0<=m.listen
 r:m.answer.kind=1->0<=m.answer.listen
def HZ.ends{m:Ah}(k)(q:k≠1):HZ (qjH m k):=⟨λ_=>rfl,λ_ h=>absurd h (show ¬(20:zt)<=12 by decide),λh=>absurd h q⟩
def HZ.move{m m':Ah}(h:HZ m)(q:m'.answer=m.answer)(u:4<=m'.pc->m'.pc<=12->0<=m'.listen):HZ m':=
 ⟨by rw[q];exact h.z,u,by rw[q];exact h.r⟩
def HZ.step{w}{m:Ah}(h:HZ m):HZ (hsM w m):=by
 unfold hsM;split;rotate_left
 .exact h
 rename_i B;have D:=B.2.1;split
 .unfold BC;split
  .split
   .exact h.move rfl λu=>absurd u (show ¬(4:zt)<=1 by decide)
   .split
    .exact h.move rfl λu=>absurd u (show ¬(4:zt)<=2 by decide)
    .split
     .refine h.move rfl λu=>?_;have u:4<=(if w.Ai=m.Ai then(3:zt)else 1):=u;split at u<;>omega
     .exact h
  .exact h
 rcases(by omega:m.pc=3\/m.pc=4\/m.pc=5\/m.pc=6\/m.pc=7\/m.pc=8\/m.pc=9\/m.pc=10\/m.pc=11\/m.pc=12\/m.pc=20\/m.pc=21\/m.pc=22\/m.pc=23)with k|k|k|k|k|k|k|k|k|k|k|k|k|k
 .rw[(ha3 k).2.1];unfold hM3;split
  .exact HZ.ends 2 sb
  .rename_i A;exact h.move rfl λ_ _=>by show 0<=qlA w.Aa m.op.listen;omega
 .rw[(ha4 k).2.1];exact h.move rfl λ_ _=>h.l sa sa
 .rw[(ha5 k).2.1];have A:=h.l sa sa;unfold hM5;split
  .exact HZ.ends 5 sb
  .unfold Cr;split
   .exact HZ.ends 2 sb
   .split
    .exact HZ.ends 3 sb
    .split
     .exact h.move rfl λ_ _=>A
     .exact h.move rfl λ_ _=>A
 .rw[(ha6 k).2.1];exact h.move rfl λ_ _=>h.l sa sa
 .rw[(ha7 k).2.1];exact h.move rfl λ_ _=>h.l sa sa
 .rw[(ha8 k).2.1];exact h.move rfl λ_ _=>h.l sa sa
 .rw[(ha9 k).2.1];have A:=h.l sa sa;unfold hM9;split
  .exact h.move rfl λ_ _=>A
  .exact HZ.ends 4 sb
 .rw[(HN k).2.1];exact h.move rfl λ_ _=>h.l sa sa
 .rw[(HM k).2.1];exact h.move rfl λ_ _=>h.l sa sa
 .rw[(HL k).2.1];exact⟨λC=>absurd rfl C,λ_ q=>absurd q (show ¬(20:zt)<=12 by decide),λ_=>h.l sa sa⟩
 .rw[(HK k).2.1];exact h.move rfl λ_ q=>absurd q (show ¬(21:zt)<=12 by decide)
 .rw[(HJ k).2.1];refine h.move rfl λ_ q=>?_;have q:(if m.answer.kind=1\/m.listen<0 then(23:zt)else 22)<=12:=q;split at q<;>omega
 .rw[(HI k).2.1];exact h.move rfl λ_ q=>absurd q (show ¬(23:zt)<=12 by decide)
 .rw[(If k).2.1];exact h.move rfl λ_ q=>absurd (show m.pc<=12 from q) sa
def B2.z:∀{k:Z}{w:Wd}{m:Ah}{x:Wd}{m':Ah},B2 k w m x m'->HZ m->HZ m'
 |0,_,_,_,_,⟨_,q⟩,h=>by rw[q];exact h
 |_+1,_,_,_,_,⟨_,k⟩,h=>B2.z k h.step
structure HoldA(w:Wd)(a:Ans)(v:AM)(gr:Bi)(en:Bw)(l:F zt)(L:AI):Prop where
 ver:0<=a.Ac/\w.Ab[a.Ac.toNat]?=O v
 clu:0<=a.Af/\v.Aj[a.Af.toNat]?=O gr
 Ak:0<=a.Ak/\gr.ends[a.Ak.toNat]? =O en
 slot:0<=a.slot/\a.slot<en.next.length
 free:qHB en=O l
 out:a.slot∉l
 lis:0<=a.listen/\w.Aa[a.listen.toNat]?=O L
def Ci(w:Wd)(i j k:Z):zy Bw:=(w.Ab[i]?).bind λv=>(v.Aj[j]?).bind λg=>g.ends[k]?
def qeN{w}{i j k}{v}{gr}{en}(h:w.Ab[i]?=O v)(q:v.Aj[j]?=O gr)(u:gr.ends[k]?=O en):Ci w i j k=O en:=by
 unfold Ci;rw[h];show(v.Aj[j]?).bind _=_;rw[q];exact u
def qdN{w}{i j k}{en}(h:Ci w i j k=O en):∃v gr,w.Ab[i]?=O v/\v.Aj[j]?=O gr/\gr.ends[k]?=O en:=by
 unfold Ci at h;obtain⟨v,q,h⟩:=zAC.1 h;obtain⟨gr,u,h⟩:=zAC.1 h;exact⟨v,gr,q,u,h⟩
def qGS{w w'}{i j}{v}{gr g'}(B:w.Ab[i]?=O v)(C:v.Aj[j]?=O gr)(D:w'.Ab=w.Ab.set i {v with Aj:=v.Aj.set j g'})(q j' k'):Ci w' q j' k'=if q=i/\j'=j then g'.ends[k']? else Ci w q j' k':=by
 unfold Ci;rw[D];by_cases u:q=i
 .subst u;rw[qpA B,B];show((v.Aj.set j g')[j']?).bind _=_;by_cases A:j'=j
  .subst A;rw[qpA C,zk ⟨rfl,rfl⟩];rfl
  .rw[zB9 (λh=>A h.symm),zj (λh=>A h.2)];rfl
 .rw[zB9 (λh=>u h.symm),zj (λh=>u h.1)]
def qyV{w w'}{i j}{v}{gr g'}(h:w.Ab[i]?=O v)(q:v.Aj[j]?=O gr)(B:w'.Ab=w.Ab.set i {v with Aj:=v.Aj.set j g'})(C:g'.ends=gr.ends)(u j' k'):Ci w' u j' k'=Ci w u j' k':=by
 rw[qGS h q B];split
 .rename_i A;rw[A.1,A.2,C];unfold Ci;rw[h];show _=(v.Aj[j]?).bind _;rw[q];rfl
 .rfl
def qHS{w w'}{i j k}{v}{gr g'}{en en'}(A:w.Ab[i]?=O v)(B:v.Aj[j]?=O gr)(C:gr.ends[k]?=O en)(D:w'.Ab=w.Ab.set i {v with Aj:=v.Aj.set j g'})(E:g'.ends=gr.ends.set k en')(q j' k'):Ci w' q j' k'=if q=i/\j'=j/\k'=k then O en' else Ci w q j' k':=by
 rw[qGS A B D];by_cases h:q=i/\j'=j
 .rw[zk h,E];by_cases u:k'=k
  .subst u;rw[zk ⟨h.1,h.2,rfl⟩,qpA C]
  .rw[zj (λx=>u x.2.2),zB9 (λx=>u x.symm),h.1,h.2];unfold Ci;rw[A];show _=(v.Aj[j]?).bind _;rw[B];rfl
 .rw[zj h,zj (λx=>h ⟨x.1,x.2.1⟩)]
def K1:AI:=⟨⟨#[]⟩,zb,0,zb⟩
def G5(l:F AI)(i:zt)(s:zt):F AI:=l.set i.toNat {(l[i.toNat]?).getD K1 with Ae:=((l[i.toNat]?).getD K1).Ae+s}
def qPL{l}{i s}{x}(h:l[i.toNat]?=O x):G5 l i s=l.set i.toNat {x with Ae:=x.Ae+s}:=by
 unfold G5;rw[h];rfl
def qXS{l}{i s}{x}(h:l[i.toNat]?=O x)(k):(G5 l i s)[k]?=if k=i.toNat then O {x with Ae:=x.Ae+s}else l[k]?:=by
 rw[qPL h];by_cases q:k=i.toNat
 .rw[zk q,q,qpA h]
 .rw[zj q,zB9 (λe=>q e.symm)]
def Ju(l:F AI)(a:Ans)(s:zt):F AI:=if a.kind=1 then G5 l a.listen s else l
def FP(a b:Ans):zO:=decide (a.Ac=b.Ac)&&decide (a.Af=b.Af)&&decide (a.Ak=b.Ak)
def Cg{a b:Ans}:FP a b=I<->a.Ac=b.Ac/\a.Af=b.Af/\a.Ak=b.Ak:=by
 unfold FP;simp only[zl,zF,and_assoc]
abbrev CU(A:F Ans)(a:Ans):zt:=(A.countP (FP a):Z)
abbrev C4(A:F Ans)(a:Ans):zt:=(A.countP (λb=>decide (a.listen=b.listen)):Z)
def qpE{a b:Ans}(h:FP a b=I):FP b a=I:=by rw[Cg]at h⊢;exact⟨h.1.symm,h.2.1.symm,h.2.2.symm⟩
def qBW{A}{a b:Ans}(h:FP a b=I):CU A a=CU A b:=by
 have:FP a=FP b:=by
  funext c;rw[Cg]at h;unfold FP;rw[h.1,h.2.1,h.2.2]
 unfold CU;rw[this]
def q9V{A}{a b:Ans}(h:a.listen=b.listen):C4 A a=C4 A b:=by unfold C4;rw[h]
structure Jo(w:Wd)(A:F Ans)(a:Ans)(en:Bw)(l:F zt)(L:AI):Prop where
 pos:0<=a.Ac/\0<=a.Af/\0<=a.Ak/\0<=a.listen
 Ak:Ci w a.Ac.toNat a.Af.toNat a.Ak.toNat=O en
 free:qHB en=O l
 slot:0<=a.slot/\a.slot<en.next.length
 out:a.slot∉l
 lis:w.Aa[a.listen.toNat]?=O L
 cE:CU A a<=en.Ae
 cL:C4 A a<=L.Ae
structure AU(B:zt)(w:Wd)(A:F Ans):Prop where
 right:wdB w=I
 each:∀a∈A,∃en l L,Jo w A a en l L
 Hi:A.Pairwise λa b=>¬(FP a b=I/\a.slot=b.slot)
 la:∀x∈w.Aa,x.Ae<=B
 ea:∀i j k en,Ci w i j k=O en->en.Ae<=B
def AU.swap{B}{w}{a b:Ans}{A}(h:AU B w (a::b::A)):AU B w (b::a::A):=by
 have q:(a::b::A).Perm (b::a::A):=List.Perm.swap ..;refine⟨h.right,λc C=>?_,?_,h.la,h.ea⟩
 .obtain⟨D,l,E,k⟩:=h.each c (q.mem_iff.2 C);exact⟨D,l,E,{k with cE:=by have:=k.cE;unfold CU at this⊢;rw[<-q.countP_eq];exact this,cL:=by have:=k.cL;unfold C4 at this⊢;rw[<-q.countP_eq];exact this}⟩
 .refine(q.pairwise_iff ?_).1 h.Hi;exact λH u=>H ⟨qpE u.1,u.2.symm⟩
def qjC{a b:zt}(h:0<=a)(q:0<=b):a.toNat=b.toNat<->a=b:=sa
def AU.back{B}{w y}{a:Ans}{A}(h:AU B w (a::A)){en}{l}{L}(k:Jo w (a::A) a en l L)(ab:wdB y=I)(hE:∀H j' k',Ci y H j' k'=if H=a.Ac.toNat/\j'=a.Af.toNat/\k'=a.Ak.toNat then O (qvC en a.slot)else Ci w H j' k')(Q:y.Aa=G5 w.Aa a.listen (-1))(ac:qHB (qvC en a.slot)=O (a.slot::l)):AU B y A:=by
 obtain⟨ad,ae⟩:=List.pairwise_cons.1 h.Hi;refine⟨ab,λb R=>?_,ae,λx C=>?_,λi j k' e D=>?_⟩
 .obtain⟨T,P,U,q⟩:=h.each b (zAF _ R)
  have af:∃u,y.Aa[b.listen.toNat]?=O u/\C4 A b<=u.Ae:=by
   rw[Q,qXS k.lis];by_cases E:b.listen=a.listen
   .have e1:L=U:=by have:=q.lis;rw[E,k.lis]at this;exact zn this
    rw[zk (by rw[E])];refine⟨_,rfl,?_⟩;have c1:=q.cL;have:C4 (a::A) b=C4 A b+1:=by unfold C4;rw[zBS (by simp[E])];rfl
    show C4 A b<=L.Ae+-1;rw[e1];omega
   .rw[zj (by have:=qjC q.pos.2.2.2 k.pos.2.2.2;omega)];refine⟨U,q.lis,?_⟩;have c1:=q.cL;have:C4 (a::A) b=C4 A b:=by unfold C4;rw[zCB (by simp[E])]
    omega
  obtain⟨u,V,W⟩:=af;by_cases hs:FP a b=I
  .obtain⟨Y,aa,s3⟩:=Cg.1 hs;have e1:en=T:=by have:=q.Ak;rw[<-Y,<-aa,<-s3,k.Ak]at this;exact zn this
   subst e1;have e2:P=l:=zn (q.free.symm.trans k.free);subst e2;have ag:b.slot≠a.slot:=λe=>ad b R ⟨hs,e.symm⟩;refine⟨qvC en a.slot,a.slot::P,u,q.pos,by rw[hE,zk ⟨by rw[Y],by rw[aa],by rw[s3]⟩],ac,?_,?_,V,?_,W⟩
   .show 0<=b.slot/\b.slot<((en.next.set a.slot.toNat (AX en.head)).length:Z);rw[zAd];exact q.slot
   .intro hm;rcases zs.1 hm with hm|hm
    .exact ag hm
    .exact q.out hm
   .have c1:=q.cE;have:CU (a::A) b=CU A b+1:=by unfold CU;rw[zBS (qpE hs)];rfl
    show CU A b<=en.Ae-1;omega
  .refine⟨T,P,u,q.pos,?_,q.free,q.slot,q.out,V,?_,W⟩
   .rw[hE,zj]
    .exact q.Ak
    .rintro⟨ah,ai,aj⟩;exact hs (Cg.2 ⟨((qjC q.pos.1 k.pos.1).1 ah).symm,((qjC q.pos.2.1 k.pos.2.1).1 ai).symm,((qjC q.pos.2.2.1 k.pos.2.2.1).1 aj).symm⟩)
   .have c1:=q.cE;have:CU (a::A) b=CU A b:=by unfold CU;rw[zCB (λe=>hs (qpE e))]
    omega
 .rw[Q,qPL k.lis]at C;have hm:=h.la L (zh k.lis);rcases zAf C with C|rfl
  .exact h.la x C
  .show L.Ae+-1<=B;omega
 .rw[hE]at D;split at D
  .cases D;have:=h.ea _ _ _ _ k.Ak;show en.Ae-1<=B;omega
  .exact h.ea _ _ _ _ D
def AU.take{B}{w x}{a:Ans}{A}(h:AU B w A){en}{r}{L}(an:wdB x=I)(H:0<=a.Ac/\0<=a.Af/\0<=a.Ak/\0<=a.listen)(U:Ci w a.Ac.toNat a.Af.toNat a.Ak.toNat=O en)(E:BH en=I)(af:qHB en=O (a.slot::r))(P:w.Aa[a.listen.toNat]?=O L)(ao:0<=L.Ae)(hE:∀ag j' k',Ci x ag j' k'=if ag=a.Ac.toNat/\j'=a.Af.toNat/\k'=a.Ak.toNat then O {CN en with Ae:=en.Ae+1}else Ci w ag j' k')(ai:x.Aa=G5 w.Aa a.listen 1)(aj:qHB ({CN en with Ae:=en.Ae+1}:Bw)=O r):AU (B+1) x (a::A):=by
 have ak:=B3.1 af;have ap:=(zBo.1 ak.2).1;have aq:0<=a.slot/\a.slot<en.next.length:=qUF ak.1 a.slot (zAH ..);have ar:=(qjB E).2.2.2
 have al:∀b:Ans,0<=b.listen->∀u,w.Aa[b.listen.toNat]?=O u->C4 A b<=u.Ae->∃am,x.Aa[b.listen.toNat]?=O am/\C4 (a::A) b<=am.Ae:=λb au u ah C=>by
  rw[ai,qXS P];by_cases V:b.listen=a.listen
  .have e1:L=u:=by rw[V,P]at ah;exact zn ah
   rw[zk (by rw[V])];refine⟨_,rfl,?_⟩;have:C4 (a::A) b=C4 A b+1:=by unfold C4;rw[zBS (by simp[V])];rfl
   show C4 (a::A) b<=L.Ae+1;rw[this,e1];omega
  .rw[zj (by have:=qjC au H.2.2.2;omega)];refine⟨u,ah,?_⟩;have:C4 (a::A) b=C4 A b:=by unfold C4;rw[zCB (by simp[V])]
   omega
 refine⟨an,λb E=>?_,List.pairwise_cons.2 ⟨λb E D=>?_,h.Hi⟩,λy W=>?_,λi j k' e Y=>?_⟩
 .rcases zs.1 E with rfl|E
  .have aB:CU A b<=en.Ae:=by
    by_cases D:∃c∈A,FP b c=I
    .obtain⟨c,C,hs⟩:=D;obtain⟨av,_,_,T⟩:=h.each c C;obtain⟨Q,R,s3⟩:=Cg.1 hs;have:en=av:=by have:=T.Ak;rw[<-Q,<-R,<-s3,U]at this;exact zn this
     rw[qBW hs,this];exact T.cE
    .have:A.countP (FP b)=0:=List.countP_eq_zero.2 λc C hs=>D ⟨c,C,hs⟩;unfold CU;rw[this];exact ar
   have aw:C4 A b<=L.Ae:=by
    by_cases D:∃c∈A,b.listen=c.listen
    .obtain⟨c,C,hs⟩:=D;obtain⟨_,_,ax,T⟩:=h.each c C;have:L=ax:=by have:=T.lis;rw[<-hs,P]at this;exact zn this
     rw[q9V hs,this];exact T.cL
    .have:A.countP (λc=>decide (b.listen=c.listen))=0:=List.countP_eq_zero.2 λc C hs=>D ⟨c,C,by simpa using hs⟩;unfold C4;rw[this];exact ao
   obtain⟨aa,ab,ac⟩:=al b H.2.2.2 L P aw;refine⟨_,r,aa,H,by rw[hE,zk ⟨rfl,rfl,rfl⟩],aj,aq,ap,ab,?_,ac⟩;have:CU (b::A) b=CU A b+1:=by unfold CU;rw[zBS (Cg.2 ⟨rfl,rfl,rfl⟩)];rfl
   show CU (b::A) b<=en.Ae+1;omega
  .obtain⟨ad,ae,u,q⟩:=h.each b E;obtain⟨aa,ab,ac⟩:=al b q.pos.2.2.2 u q.lis q.cL;by_cases hs:FP a b=I
   .obtain⟨Q,R,s3⟩:=Cg.1 hs;have e1:en=ad:=by have:=q.Ak;rw[<-Q,<-R,<-s3,U]at this;exact zn this
    subst e1;have e2:ae=a.slot::r:=zn (q.free.symm.trans af);subst e2;refine⟨_,r,aa,q.pos,by rw[hE,zk ⟨by rw[Q],by rw[R],by rw[s3]⟩],aj,q.slot,λhm=>q.out (zAF _ hm),ab,?_,ac⟩;have c1:=q.cE;have:CU (a::A) b=CU A b+1:=by unfold CU;rw[zBS (qpE hs)];rfl
    show CU (a::A) b<=en.Ae+1;omega
   .refine⟨ad,ae,aa,q.pos,?_,q.free,q.slot,q.out,ab,?_,ac⟩
    .rw[hE,zj]
     .exact q.Ak
     .rintro⟨ay,az,aA⟩;exact hs (Cg.2 ⟨((qjC q.pos.1 H.1).1 ay).symm,((qjC q.pos.2.1 H.2.1).1 az).symm,((qjC q.pos.2.2.1 H.2.2.1).1 aA).symm⟩)
    .have c1:=q.cE;have:CU (a::A) b=CU A b:=by unfold CU;rw[zCB (λe=>hs (qpE e))]
     omega
 .obtain⟨ad,ae,u,q⟩:=h.each b E;obtain⟨Q,R,s3⟩:=Cg.1 D.1;have e1:en=ad:=by have:=q.Ak;rw[<-Q,<-R,<-s3,U]at this;exact zn this
  subst e1;have e2:ae=a.slot::r:=zn (q.free.symm.trans af);subst e2;exact q.out (by rw[<-D.2];exact zAH ..)
 .rw[ai,qPL P]at W;have hm:=h.la L (zh P);rcases zAf W with W|rfl
  .have:=h.la y W;omega
  .show L.Ae+1<=B+1;omega
 .rw[hE]at Y;split at Y
  .cases Y;have:=h.ea _ _ _ _ U;show en.Ae+1<=B+1;omega
  .have:=h.ea _ _ _ _ Y;omega
def gW(w:Wd)(m:Ah):Wd:=
 if m.pc=1 then{w with pins:=w.pins.set m.Al.toNat (zAj.wrap (m.Ai+1))}
 else if m.pc=4 then BG w m {mL w m with Ae:=wI ((mL w m).Ae+1)}
 else if m.pc=6 then BN w m.Ac.toNat m.Af.toNat (mV w m) {mG w m with AF:=wU ((mG w m).AF+1)}
 else if m.pc=11 then(if casB w m then Cm w m {mE w m m.Ak with head:=qxB m.word m.link}else w)
 else if m.pc=12 then Cm w m {mE w m m.Ak with Ae:=wI ((mE w m m.Ak).Ae+1)}
 else if m.pc=20 then Bh w m.Al (qEH m)
 else if m.pc=21 then Bh w m.Al 0
 else if m.pc=22 then BG w m {mL w m with Ae:=wI ((mL w m).Ae-1)}
 else if m.pc=23 then{w with pins:=w.pins.set m.Al.toNat 0}
 else w
def gM(w:Wd)(m:Ah):Ah:=
 if m.pc=0 then{m with Ai:=w.Ai,pc:=1}else if m.pc=1 then{m with pc:=2}else if m.pc=2 then{m with pc:=if w.Ai=m.Ai then 3 else 1,Ai:=w.Ai}else hM w m
def gIt:Z->Wd->Ah->Wd×Ah
 |0,w,m=>(w,m)
 |k+1,w,m=>gIt k (gW w m) (gM w m)
def qnV:Z->Wd->Ah->zO
 |0,_,_=>I
 |k+1,w,m=>!m.done&&qnV k (gW w m) (gM w m)
def qUd{w}{m:Ah}{n}(hs:qzA w m=I)(q:m.pc=0)(u:∀x∈w.Aa,x.Ae<=n)(A:∀v∈w.Ab,∀g∈v.Aj,∀e∈g.ends,e.Ae<=n):AQ 0 w m n:=
 {AA:=hs,pc:=q,la:=λx h=>⟨by have:=u x h;omega,λ_=>u x h⟩,ea:=λv B g C e h=>⟨by have:=A v B g C e h;omega,λ_=>A v B g C e h⟩,pin:=λ_=>⟨hs,.inl q,λD=>absurd q D,λD=>sa⟩}
def qGO{w}(h:wdB w=I){m:Ah}(C:0<=m.Al/\m.Al<w.pins.length)(hd:m.done=zb)(e1:m.Ac=0)(e2:m.Af=0)(e3:m.Ak=0)(e4:m.other=0)(D:m.slot=0)(E:-1<=m.listen/\m.listen<w.Aa.length)(H:0<=m.i)(L:0<=m.k):qzA w m=I:=by
 obtain⟨_,_,_,Q,R⟩:=qHK h;obtain⟨v,q⟩:=qEA (l:=w.Ab) (i:=0) sa;have u:=qaC h q;obtain⟨gr,A⟩:=qEA (l:=v.Aj) (i:=0) (by have:=u.Aj;omega);obtain⟨c,_,_,g1,_,_,P⟩:=u.ends A;obtain⟨en,B⟩:=qEA (l:=gr.ends) (i:=0) sa;have T:=(P en (zh B)).2;exact Ay.AA (v:=v) (gr:=gr) (en:=en) ⟨h,C,hd,by rw[e1];exact⟨zAS _,q⟩,by rw[e2];exact⟨zAS _,A⟩,by rw[e3];exact⟨zAS _,B⟩,by rw[e4];omega,by rw[D];omega,E,H,L⟩
def qRX{e}{x}{r}(h:qHB e=O (x::r))(C:e.next.length<=4)(a):qHB ({CN e with Ae:=a}:Bw)=O r:=by
 rcases qbI h with⟨q,_⟩|⟨D,E,u,A,H,_⟩
 .cases q
 .cases u;have L:=qCP h;have B:-1<=DM e.next x/\DM e.next x<=2147483646:=sa
  unfold CN;rw[A];exact q9R h (qWI B) a
def q8X{w}(h:wdB w=I){i:Z}{x}(u:w.Aa[i]?=O x):0<=x.Ae:=by
 obtain⟨_,_,_,_,_,q⟩:=qNC h;rw[AO]at q;have:=q _ _ u;unfold qvB at this;simp only[zl]at this;exact(Di.1 this.1).2.1
def AU.eaM{B}{w}{A}(h:AU B w A):∀v∈w.Ab,∀g∈v.Aj,∀e∈g.ends,e.Ae<=B:=λv q g u e C=>by
 obtain⟨i,D,rfl⟩:=zDb.1 q;obtain⟨j,E,rfl⟩:=zDb.1 u;obtain⟨k,H,rfl⟩:=zDb.1 C;exact h.ea i j k _ (qeN (zAa D) (zAa E) (zAa H))
def AU.nil{B}{w}(h:wdB w=I)(q:∀x∈w.Aa,x.Ae<=B)(u:∀v∈w.Ab,∀g∈v.Aj,∀e∈g.ends,e.Ae<=B):AU B w []:=
 ⟨h,λ_ A=>(by cases A),List.Pairwise.nil,q,λi j k C D=>by
  obtain⟨v,E,H,L,P⟩:=qdN D
  exact u v (zh H) E (zh L) C (zh P)⟩
abbrev IR(a:Ans)(A:F Ans):F Ans:=if a.kind=1 then a::A else A
structure JY(B:zt)(w:Wd)(A:F Ans)(x:Wd)(a:Ans):Prop where
 kind:1<=a.kind/\a.kind<=5
 zc:a.kind≠1->a=Dl a.kind 0
 hold:AU (B+1) x (IR a A)
 held:qmH x=qmH w+if a.kind=1 then 1 else 0
 lis:x.Aa=Ju w.Aa a 1
 pins:x.pins.length=w.pins.length
 got:a.kind=1->a.n=0/\a.counts=c60/\∃en r,Ci w a.Ac.toNat a.Af.toNat a.Ak.toNat=O en/\qHB en=O (a.slot::r)/\Ci x a.Ac.toNat a.Af.toNat a.Ak.toNat=O {CN en with Ae:=en.Ae+1}/\qHB ({CN en with Ae:=en.Ae+1}:Bw)=O r
def AU.Cr{B}{w}{A}(h:AU B w A)(aI:0<=B/\B<=1500000){m:Ah}(hs:qzA w m=I)(ap:m.pc=0)(aq:HZ m):∃k x n,k<=16/\B2 k w m x n/\n.done=I/\JY B w A x n.answer/\∃w1 E,Hu w m w1 E/\n.answer=E.answer:=by
 have ar:=qUd (n:=B) hs ap h.la h.eaM;obtain⟨k,x,u,w1,E,au,ag,P,av,C⟩:=ar.whole sa;have ah:=ag.z aq;have H:=C.answer;have aw:=qiS P C;obtain⟨aJ,ax⟩:=qyT P C
 have ai:qmH x=qmH w+if u.answer.kind=1 then 1 else 0:=by
  rw[H,<-qMT P hs];unfold qmH;rw[C.Ab]
 refine⟨k,x,u,au,ag,C.done,?_,w1,E,P,H⟩;replace H:=C.answer;have aj:1<=u.answer.kind/\u.answer.kind<=5:=by rw[H];exact av
 have ak:x.pins.length=w.pins.length:=by rw[aw,zAd]
 by_cases L:u.answer.kind=1
 .have U:E.answer.kind=1:=by rw[<-H];exact L
  rcases P.out with⟨ay,_⟩|⟨v,c,az,aa,Q,q,D,V,⟨ay,_⟩|⟨W,⟨r,ab⟩,Y⟩⟩
  .omega
  .omega
  rw[W]at H;have ac:Q.ends=aa.ends:=by rcases D.pick with⟨_,_,rfl⟩|⟨_,_,rfl⟩<;>rfl
  have aA:=(qHK h.right).choose_spec.2.2.1;have aB:0<=E.listen:=by have:=ah.r L;rw[H]at this;exact this
  have al:BH q=I:=by
   obtain⟨_,_,_,ad⟩:=(qaC h.right D.ver).grp _ _ D.grp;exact(ad q (zh V.2)).1
  obtain⟨y,R,aC⟩:∃y,w.Aa[E.listen.toNat]?=O y/\w1.Aa=w.Aa.set E.listen.toNat {y with Ae:=y.Ae+1}:=by
   rcases P.lis with⟨aK,_⟩|⟨y,_,aD,ad⟩
   .omega
   .exact⟨y,aD,ad⟩
  have T:x.Aa=G5 w.Aa E.listen 1:=by
   rw[qPL R];rcases C.lis with⟨_,aE⟩|⟨aF,_⟩
   .rw[aE,aC]
   .exact absurd (.inl U) aF
  have hE:=qHS (w':=x) (g':={Q with ends:=Q.ends.set E.Ak.toNat {CN q with Ae:=q.Ae+1}}) D.ver D.grp V.2 (by rw[C.Ab,Y]) (by show Q.ends.set _ _=_;rw[ac]);have am:=qRX ab (qjB al).2.2.1 (q.Ae+1);have an:=qeN D.ver D.grp V.2
  have aG:u.answer.kind=1->u.answer.n=0/\u.answer.counts=c60/\∃q r,Ci w u.answer.Ac.toNat u.answer.Af.toNat u.answer.Ak.toNat=O q/\qHB q=O (u.answer.slot::r)/\Ci x u.answer.Ac.toNat u.answer.Af.toNat u.answer.Ak.toNat=O {CN q with Ae:=q.Ae+1}/\qHB ({CN q with Ae:=q.Ae+1}:Bw)=O r:=λ_=>by
   rw[H];exact⟨rfl,rfl,q,r,an,ab,by rw[hE,zk ⟨rfl,rfl,rfl⟩],am⟩
  refine⟨aj,λae=>absurd L ae,?_,ai,?_,ak,aG⟩
  .rw[IR,zk L,H];exact h.take C.right ⟨aA,D.c0,V.1,aB⟩ an al ab R (q8X h.right R) hE T am
  .rw[Ju,zk L,H];exact T
 .have U:E.answer.kind≠1:=by rw[<-H];exact L
  have T:=ax U
  have hE:∀i j k,Ci x i j k=Ci w i j k:=by
   rcases P.out with⟨_,Y⟩|⟨v,c,az,aa,Q,q,D,V,⟨_,_,Y⟩|⟨W,_⟩⟩
   .intro i j k;unfold Ci;rw[C.Ab,Y]
   .have ac:Q.ends=aa.ends:=by rcases D.pick with⟨_,_,rfl⟩|⟨_,_,rfl⟩<;>rfl
    exact qyV D.ver D.grp (by rw[C.Ab,Y]) ac
   .rw[W]at U;exact absurd rfl U
  refine⟨aj,ah.z,?_,ai,by rw[Ju,zj L];exact T,ak,λae=>absurd ae L⟩;rw[IR,zj L];refine⟨C.right,λa W=>?_,h.Hi,λy R=>?_,λi j k e ao=>?_⟩
  .obtain⟨q,l,aH,af⟩:=h.each a W;exact⟨q,l,aH,{af with Ak:=by rw[hE];exact af.Ak,lis:=by rw[T];exact af.lis}⟩
  .rw[T]at R;have:=h.la y R;omega
  .rw[hE]at ao;have:=h.ea i j k e ao;omega
def AU.fin{B:zt}{w}{a:Ans}{A}(h:AU B w (a::A))(ae:B<=1000000000){t:zt}(W:0<=t/\t<w.pins.length)(L:a.kind=1):∃y n,BS 5 w (Ch t a) y n/\n.done=I/\n.answer=⟨6,a.Ac,a.Af,a.Ak,a.slot,a.listen,0,c60⟩/\AU B y A/\qmH y=qmH w-1/\y.Aa=G5 w.Aa a.listen (-1)/\y.pins=w.pins/\∃en l,Ci w a.Ac.toNat a.Af.toNat a.Ak.toNat=O en/\qHB en=O l/\Ci y a.Ac.toNat a.Af.toNat a.Ak.toNat=O (qvC en a.slot)/\qHB (qvC en a.slot)=O (a.slot::l):=by
 obtain⟨en,l,P,k⟩:=h.each a (zAH ..);obtain⟨v,q,E,H,C⟩:=qdN k.Ak;have af:=(ze.1 C).1;have ag:=(ze.1 k.lis).1;have D:=k.pos;have Y:(Ch t a).pc=0:=by show(if a.kind=1 then(0:zt)else 9)=0;rw[zk L]
 have u:(Ch t a).listen=a.listen:=by show(if a.kind=1 then a.listen else -1)=_;rw[zk L]
 have Q:Ay w (Ch t a) v q en:=⟨h.right,W,rfl,⟨D.1,E⟩,⟨D.2.1,H⟩,⟨D.2.2.1,C⟩,by show(0:zt)<=0/\(0:zt)<_;omega,k.slot,by rw[u];omega,zAS _,zAS _⟩;have R:mL w (Ch t a)=P:=by unfold mL;rw[u,k.lis];rfl
 have c1:1<=CU (a::A) a:=by unfold CU;rw[zBS (Cg.2 ⟨rfl,rfl,rfl⟩)];omega
 have c2:1<=C4 (a::A) a:=by unfold C4;rw[zBS se];omega
 have ah:=h.ea _ _ _ _ k.Ak;have ai:=h.la P (zh k.lis);have aj:=k.cE;have ak:=k.cL;obtain⟨n,aa,ab,T,ac⟩:=q5a Q Y k.free k.out ⟨sa,sa⟩ (by rw[u];exact D.2.2.2) (by rw[R];omega);obtain⟨U,al,ad⟩:=qqU Q.BH k.free k.slot k.out sa;rw[u]at T
 have V:(BG (BN w (Ch t a).Ac.toNat (Ch t a).Af.toNat v {q with ends:=q.ends.set (Ch t a).Ak.toNat (qvC en (Ch t a).slot)}) (Ch t a) {mL w (Ch t a)with Ae:=(mL w (Ch t a)).Ae-1}).Aa=G5 w.Aa a.listen (-1):=by
  show w.Aa.set (Ch t a).listen.toNat {mL w (Ch t a)with Ae:=(mL w (Ch t a)).Ae-1}=_;rw[R,u,qPL k.lis];rfl
 have hE:=qHS (w':=BG (BN w (Ch t a).Ac.toNat (Ch t a).Af.toNat v {q with ends:=q.ends.set (Ch t a).Ak.toNat (qvC en (Ch t a).slot)}) (Ch t a) {mL w (Ch t a)with Ae:=(mL w (Ch t a)).Ae-1}) (g':={q with ends:=q.ends.set a.Ak.toNat (qvC en a.slot)}) E H C rfl rfl;refine⟨_,n,aa,ab,T,h.back k ac hE V U,?_,V,rfl,en,l,k.Ak,k.free,by rw[hE,zk ⟨rfl,rfl,rfl⟩],U⟩;have:=qHY E H C (en':=qvC en a.slot);show qmH {w with Ab:=w.Ab.set a.Ac.toNat {v with Aj:=v.Aj.set a.Af.toNat {q with ends:=q.ends.set a.Ak.toNat (qvC en a.slot)}}}=_;rw[this,ad];omega
def qOY{w}{a:Ans}(h:wdB w=I){t:zt}(A:0<=t/\t<w.pins.length)(u:a.kind≠1)(q:a=Dl a.kind 0):∃n,BS 1 w (Ch t a) w n/\n.done=I/\n.answer=Dl 7 0:=by
 have B:(Ch t a).listen=-1:=by show(if a.kind=1 then a.listen else -1)=_;rw[zj u]
 refine qPY (qGO h A rfl ?_ ?_ ?_ rfl ?_ (by rw[B];omega) (zAS _) (zAS _)) (by show(if a.kind=1 then(0:zt)else 9)=9;rw[zj u])
 .show a.Ac=0;rw[q];rfl
 .show a.Af=0;rw[q];rfl
 .show a.Ak=0;rw[q];rfl
 .show a.slot=0;rw[q];rfl

def qiH(A B:Ans):zO:=1==B.kind&&(A.Ac==B.Ac&&(A.Af==B.Af&&(A.Ak==B.Ak&&(A.slot==B.slot&&A.listen==B.listen))))
abbrev qtO(given:F Ans)(A:Ans)(n:Z):zO:=match given[n]? with
 |some h=>qiH A h
 |none=>zb
def Gg(given:F Ans)(out:F Z)(i:Z)(A:Ans):F Z:=
 if A.kind=1 then out++[i]else if A.kind=6 then(match out.findIdx? (qtO given A)with
  |some k=>out.eraseIdx k
  |none=>out)else out
def opL(given:F Ans):Z->F Z
 |0=>[]
 |i+1=>match given[i]? with
  |some h=>Gg given (opL given i) i h
  |none=>opL given i
def qaD{given}{i}{A:Ans}(h:given[i]?=O A):opL given (i+1)=Gg given (opL given i) i A:=by simp only[opL,h]
def GP{A B:Ans}:qiH A B=I<->B.kind=1/\A.Ac=B.Ac/\A.Af=B.Af/\A.Ak=B.Ak/\A.slot=B.slot/\A.listen=B.listen:=by
 unfold qiH;simp only[zl,beq_iff_eq];exact⟨λ⟨h,r⟩=>⟨h.symm,r⟩,λ⟨h,r⟩=>⟨h.symm,r⟩⟩
def qXN{q:Type}{p:q->zO}:∀{l:F q}{k:Z}{x:q},(l.take k).any p=zb->l[k]?=O x->p x=I->l.findIdx? p=O k
 |[],k,x,_,h,_=>by simp at h
 |y::l,0,x,_,h,u=>by simp at h;subst h;simp[zCk,u]
 |y::l,k+1,x,A,h,u=>by
  simp only[zBu,List.any_cons,Bool.or_eq_false_iff]at A;rw[zCk,A.1];simp[qXN A.2 (by simpa using h) u]
def qtV{q:Type}{p:q->zO}{l:F q}(h:l.any p=zb):l.findIdx? p=zc:=by
 rw[List.findIdx?_eq_none_iff];intro x u;have:=zBr.1 h x u;simpa using this
def qVX{given}{out}{i k}{A:Ans}(q:A.kind≠1)(u:A.kind=6)(h:out.findIdx? (qtO given A)=O k):Gg given out i A=out.eraseIdx k:=by
 unfold Gg;rw[zj q,zk u,h]
def q0U{given}{out}{i}{A:Ans}(q:A.kind≠1)(u:A.kind=6)(h:out.findIdx? (qtO given A)=zc):Gg given out i A=out:=by
 unfold Gg;rw[zj q,zk u,h]
def map_set{q B:Type}{f:q->B}{l:F q}{i:Z}{x':q}(h:∀x,l[i]?=O x->f x'=f x):(l.set i x').map f=l.map f:=by
 rw[List.map_set];apply zBU;intro j;rw[zAE];split
 .rename_i C;subst C;rw[zAy];split
  .rename_i u;obtain⟨x,A⟩:=qEA (l:=l) (i:=i) (by simpa using u);rw[A,h x A];rfl
  .rename_i u;rw[zBG (by simpa using u)];rfl
 .rfl
structure Bx(w x:Wd):Prop where
 AL:x.AL=w.AL
 ep:x.Ai=w.Ai
 cur:x.current=w.current
 An:x.An=w.An
 pins:x.pins.length=w.pins.length
 AN:x.Ab.map (·.Aw)=w.Ab.map (·.Aw)
 lis:x.Aa.map (λl=>(l.name,l.drain))=w.Aa.map (λl=>(l.name,l.drain))
def Bx.refl(w):Bx w w:=⟨rfl,rfl,rfl,rfl,rfl,rfl,rfl⟩
def Bx.trans{a b c}(h:Bx a b)(k:Bx b c):Bx a c:=
 ⟨k.AL.trans h.AL,k.ep.trans h.ep,k.cur.trans h.cur,k.An.trans h.An,k.pins.trans h.pins,k.AN.trans h.AN,k.lis.trans h.lis⟩
section
variable{w:Wd}{m:Ah}
def qCN(x):Bx w (BG w m {mL w m with Ae:=x}):=
 ⟨rfl,rfl,rfl,rfl,rfl,rfl,map_set λy h=>by unfold mL;rw[h];rfl⟩
def qSO(p)(h:p.length=w.pins.length):Bx w {w with pins:=p}:=⟨rfl,rfl,rfl,rfl,h,rfl,rfl⟩
def qcR(i k):Bx w (Bh w i k):=⟨rfl,rfl,rfl,rfl,rfl,rfl,rfl⟩
def qrG{i j}{v}(q:w.Ab[i]?=O v)(x'):Bx w (BN w i j v x'):=
 ⟨rfl,rfl,rfl,rfl,rfl,map_set λy h=>by rw[q]at h;cases h;rfl,rfl⟩
def IK:Bx w (hsW w m):=by
 unfold hsW;split;rotate_left
 .exact Bx.refl w
 rename_i A;split
 .unfold BL;split
  .exact qSO _ se
  .exact Bx.refl w
 obtain⟨v,B,C,q⟩:=Am.1 A.1;obtain⟨u,_,_⟩:=q.at_;have D:=A.2.1;rcases(by omega:m.pc=3\/m.pc=4\/m.pc=5\/m.pc=6\/m.pc=7\/m.pc=8\/m.pc=9\/m.pc=10\/m.pc=11\/m.pc=12\/m.pc=20\/m.pc=21\/m.pc=22\/m.pc=23)with h|h|h|h|h|h|h|h|h|h|h|h|h|h
 .rw[(ha3 h).1];exact Bx.refl w
 .rw[(ha4 h).1];exact qCN _
 .rw[(ha5 h).1];exact Bx.refl w
 .rw[(ha6 h).1,u];exact qrG q.ver.2 _
 .rw[(ha7 h).1];exact Bx.refl w
 .rw[(ha8 h).1];exact Bx.refl w
 .rw[(ha9 h).1];exact Bx.refl w
 .rw[(HN h).1];exact Bx.refl w
 .rw[(HM h).1];split
  .rw[Cm,u];exact qrG q.ver.2 _
  .exact Bx.refl w
 .rw[(HL h).1,Cm,u];exact qrG q.ver.2 _
 .rw[(HK h).1];exact qcR _ _
 .rw[(HJ h).1];exact qcR _ _
 .rw[(HI h).1];exact qCN _
 .rw[(If h).1];unfold GZ;split
  .exact qSO _ se
  .exact Bx.refl w
def IL:Bx w (fsW w m):=by
 unfold fsW;split;rotate_left
 .exact Bx.refl w
 rename_i A;obtain⟨v,B,C,q⟩:=Am.1 A.1;obtain⟨u,_,_⟩:=q.at_;have D:=A.2.1;rcases(by omega:m.pc=0\/m.pc=1\/m.pc=2\/m.pc=3\/m.pc=4\/m.pc=9)with h|h|h|h|h|h
 .rw[(fa0 h).1];exact Bx.refl w
 .rw[(fa1 h).1,Cm,u];exact qrG q.ver.2 _
 .rw[(fa2 h).1];split
  .rw[Cm,u];exact qrG q.ver.2 _
  .exact Bx.refl w
 .rw[(fa3 h).1,Cm,u];exact qrG q.ver.2 _
 .rw[(fa4 h).1];exact qCN _
 .rw[(fa9 h).1];exact Bx.refl w
end
def B2.same:∀{k:Z}{w:Wd}{m:Ah}{x:Wd}{m':Ah},B2 k w m x m'->Bx w x
 |0,_,_,_,_,⟨h,_⟩=>by rw[h];exact Bx.refl _
 |_+1,_,_,_,_,⟨_,q⟩=>IK.trans (B2.same q)
def BS.same:∀{k:Z}{w:Wd}{m:Ah}{x:Wd}{m':Ah},BS k w m x m'->Bx w x
 |0,_,_,_,_,⟨h,_⟩=>by rw[h];exact Bx.refl _
 |_+1,_,_,_,_,⟨_,q⟩=>IL.trans (BS.same q)
def quM{c}{t}(h:qFA c≠[]):qvD c t∈qFA c:=by
 have u:0<(qFA c).length:=zDi.2 h;have A:=zBR t (show((qFA c).length:zt)≠0 by omega);have B:=zBD t (show(0:zt)<(qFA c).length by omega);obtain⟨x,q⟩:=qEA (l:=qFA c) (i:=(t%(qFA c).length).toNat) sa;unfold qvD;rw[q];exact zh q
structure LA(w:Wd)(o:OpD)(a:Ans):Prop where
 ver:a.Ac=w.current
 goes:∃v ck,w.Ab[w.current.toNat]?=O v/\q4D v.Aw o.listen o.Bb o.path=O a.Af/\v.Aw.Ad[a.Af.toNat]?=O ck/\a.Ak∈qFA ck
def Hu.one{w w1}{m u:Ah}(h:Hu w m w1 u)(D:u.answer.kind=1):LA w m.op u.answer:=by
 rcases h.out with⟨A,_⟩|⟨v,c,B,E,H,L,q,_,⟨A,_⟩|⟨C,_⟩⟩
 .omega
 .omega
 .rw[C];refine⟨rfl,v,B,q.ver,q.find,q.cl,?_⟩;show u.Ak∈_;rcases q.pick with⟨_,e,_⟩|⟨_,e,_⟩
  .rw[e];exact quM q.JL
  .rw[e];unfold qwF;split
   .exact quM (t:=m.op.d1) q.JL
   .exact quM (t:=m.op.d0) q.JL
def qWZ{w}(h:wdB w=I){c}(D:qOA c=zc):wdB (qoF w c)=I:=by
 obtain⟨E,⟨Q,R⟩,H,u,C,L⟩:=qNC h;rw[zAs]at u;refine qJR ⟨E,⟨by show(0:zt)<=(w.Ab.length:zt);omega,by show(w.Ab.length:zt)<((w.Ab++[qRA (qiA c)]).length:zt);simp;omega⟩,H,?_,?_,L⟩
 .rw[zAs];intro r A;have:=u r A;unfold Dj at this⊢;simp only[zl,zF]at this⊢;refine⟨⟨by show r.Ac<((w.Ab++[qRA (qiA c)]).length:zt);simp;omega,by show r.Ac≠(w.Ab.length:zt);omega⟩,this.2⟩
 .rw[AO]at C⊢;intro i x q;have q:(w.Ab++[qRA (qiA c)])[i]?=O x:=q;rcases zAJ i w.Ab.length with B|B
  .rw[zAc B]at q;exact C i x q
  .rw[zBg B]at q
   have P:i=w.Ab.length:=by
    rcases zAJ (i-w.Ab.length) 1 with h|h
    .omega
    .rw[zBG (by simpa using h)]at q;cases q
   subst P;simp at q;subst q;unfold Dg;rw[qCL (qAL D)]
   have:qXF w.An (w.Ab.length:zt)=zb:=by
    unfold qXF;rw[zBr];intro r A;have:=u r A;unfold Dj at this;simp only[zl,zF]at this;have:(r.Ac==(w.Ab.length:zt))=zb:=by simpa using(show r.Ac≠(w.Ab.length:zt) by omega)
    rw[this];simp
   show(I&&((qRA (qiA c)).Ba==qXF w.An (w.Ab.length:zt)))=I;rw[this];rfl
def qnW{w}(h:wdB w=I){v e:zt}(C:0<=v/\v<w.Ab.length)(L:v≠w.current)(D:0<=e/\e<=w.Ai)(P:w.An.any (λr=>r.Ac==v)=zb):wdB {w with An:=w.An++[⟨v,e,zb⟩]}=I:=by
 obtain⟨Q,⟨R,T⟩,A,E,H,U⟩:=qNC h;rw[zAs]at E;refine qJR ⟨Q,⟨R,T⟩,?_,?_,?_,U⟩
 .unfold qOE at A⊢;rw[AO]at A⊢;intro i x q;have q:(w.An++[⟨v,e,zb⟩])[i]?=O x:=q;rcases zAJ i w.An.length with B|B
  .rw[zAc B]at q;have:=A i x q;unfold FR at this⊢;rw[zCe sa];exact this
  .rw[zBg B]at q
   have V:i=w.An.length:=by
    rcases zAJ (i-w.An.length) 1 with h|h
    .omega
    .rw[zBG (by simpa using h)]at q;cases q
   subst V;simp at q;subst q;unfold FR;rw[show(w.An++[(⟨v,e,zb⟩:Bo)]).take w.An.length=w.An by simp];simp only[zl,zF,zC0];exact⟨⟨C.1,D.1⟩,P⟩
 .rw[zAs];intro r u;have u:r∈w.An++[⟨v,e,zb⟩]:=u;rw[zN]at u;rcases u with u|u
  .exact E r u
  .simp at u;subst u;unfold Dj;simp only[zl,zF];exact⟨⟨C.2,L⟩,D.2⟩
 .rw[AO]at H⊢;intro i x q;have:=H i x q;unfold Dg at this⊢
  have W:qXF (w.An++[⟨v,e,zb⟩]) i=qXF w.An i:=by
   unfold qXF;rw[zDI];simp
  show(qVB x&&(x.Ba==qXF (w.An++[⟨v,e,zb⟩]) i))=I;rw[W];exact this
def Fv(w:Wd)(c:Bn):Wd:=match qOA c with
 |none=>{w with Ab:=w.Ab++[qRA (qiA c)],current:=w.Ab.length,An:=w.An++[⟨w.current,w.Ai,zb⟩]}
 |some _=>w
def GX(w:Wd)(c:Bn):Ans:=match qOA c with
 |none=>G4 8 w.Ab.length
 |some (e,_)=>HQ 9 e
def Iw(c:Bn):Z:=match qOA c with
 |none=>3
 |some _=>1
def HR:Z->Wd->Ah->Wd->Ah->Prop
 |0,w,m,h,q=>h=w/\q=m
 |n+1,w,m,h,q=>m.done=zb/\En w m/\HR n (swW w m) (swM w m) h q
def qna{w}(h:wdB w=I):w.An.any (λr=>r.Ac==w.current)=zb:=by
 obtain⟨_,_,_,q,_,_⟩:=qNC h;rw[zAs]at q;rw[zBr];intro r u;have:=q r u;unfold Dj at this;simp only[zl,zF]at this;simpa using this.1.2
def q0T{w}(h:wdB w=I):0<=w.Ai:=by
 have q:=qbC h;unfold qGB at q;simp only[zl,zF]at q;omega
def qxb{w}{m:Ah}(hs:qzA w m=I)(u:m.pc=0):wdB (Fv w m.op.Ao)=I/\∃n,HR (Iw m.op.Ao) w m (Fv w m.op.Ao) n/\n.done=I/\n.answer=GX w m.op.Ao:=by
 obtain⟨v,U,V,h⟩:=Am.1 hs;have q:En w m:=⟨hs,.inl u,λC=>sa⟩;unfold Fv GX Iw;cases A:qOA m.op.Ao with
 |some p=>
  obtain⟨e,i⟩:=p;obtain⟨hW,hM,_⟩:=qOU q u A;exact⟨h.right,{m with done:=I,answer:=HQ 9 e},⟨h.done,q,hW.symm,hM.symm⟩,rfl,rfl⟩
 |none=>
  obtain⟨hW,hM,_⟩:=qoY q u A;have D:=qWZ h.right A;obtain⟨ah,⟨B,ai⟩,_⟩:=qNC h.right;obtain⟨E,W⟩:=qEA (l:=w.Ab) (i:=w.current.toNat) sa
  have H:(qoF w m.op.Ao).Ab[w.current.toNat]?=O E:=by
   show(w.Ab++_)[w.current.toNat]?=O E;rw[zAc sa];exact W
  have L:Ay (qoF w m.op.Ao) m v U V:=h.move D rfl (by show(w.Ab++_)[m.Ac.toNat]?=O v;rw[zAc (ze.1 h.ver.2).1];exact h.ver.2) rfl rfl rfl rfl rfl rfl rfl rfl rfl rfl h.i h.k;have Y:qzA (qoF w m.op.Ao) (qQJ w m)=I:=L.first B H rfl rfl rfl rfl rfl rfl rfl rfl (by show(0:zt)<=(w.Ab.length:zt);omega) h.k;have P:En (qoF w m.op.Ao) (qQJ w m):=⟨Y,.inr (.inl rfl),λC=>by cases C⟩;obtain⟨aa,ab,_⟩:=sw1 P rfl;have ac:qzA (qoF w m.op.Ao) {qQJ w m with Ai:=w.Ai,pc:=2}=I:=L.first B H rfl rfl rfl rfl rfl rfl rfl rfl (by show(0:zt)<=(w.Ab.length:zt);omega) h.k;have Q:=qna h.right;have ad:=q0T h.right;have R:w.current≠(w.Ab.length:zt):=sa
  have ae:qSN (qoF w m.op.Ao) {qQJ w m with Ai:=w.Ai,pc:=2}=zb:=by
   show(w.An.any (λr=>r.Ac==w.current)||(w.current==(w.Ab.length:zt))||decide (w.Ai<0)||decide (w.Ai<w.Ai))=zb;rw[Q,show(w.current==(w.Ab.length:zt))=zb by simpa using R,zT sa,zT sa];rfl
  have T:En (qoF w m.op.Ao) {qQJ w m with Ai:=w.Ai,pc:=2}:=⟨ac,.inr (.inr rfl),λ_=>ae⟩;obtain⟨af,ag,_⟩:=sw2 T rfl;refine⟨?_,{qQJ w m with Ai:=w.Ai,pc:=2,done:=I,answer:=G4 8 w.Ab.length},⟨h.done,q,?_⟩,rfl,rfl⟩
  .exact qnW (w:=qoF w m.op.Ao) D (v:=w.current) (e:=w.Ai) ⟨B,by show w.current<((w.Ab++[qRA (qiA m.op.Ao)]).length:zt);simp;omega⟩ R ⟨ad,zAS _⟩ Q
  .rw[hW,hM];refine⟨h.done,P,?_⟩;rw[aa,ab];refine⟨h.done,T,?_⟩;exact⟨af.symm,ag.symm⟩
def Ku(w)(m:Ah):(swM w m).op=m.op:=by
 unfold swM;split
 .split
  .split<;>rfl
  .split<;>rfl
 .rfl
def qWY{K}(B:4<=K){c}(u:qOA c=zc):BgV K (qRA (qiA c)):=by
 have h:=AZ.1 u;have C:=h.size.2.2.2;refine⟨by show(c.Ad.map _).length<=K;simp;omega,λx q=>?_⟩;simp only[qRA,qiA,zU]at q;obtain⟨k,A,rfl⟩:=q;obtain⟨_,_,_,D⟩:=h.cl k A;show(k.Az.map _).length<=K;simp;omega
def BgV.up{K K'}{v}(h:BgV K v)(k:K<=K'):BgV K' v:=⟨zY h.1 k,λy q=>zY (h.2 y q) k⟩
def qqd{K}(D:4<=K){w}{c}(u:qOA c=zc)(h:BgW K w):BgW (K+1) (qoF w c):=by
 obtain⟨⟨E,H,L,P,Q⟩,A,B⟩:=h;refine⟨⟨by show w.pins.length<=K+1;omega,by show(w.Ab++_).length<=K+1;simp;omega,by show w.Aa.length<=K+1;omega,by show w.counts.length<=K+1;omega,by show w.An.length<=K+1;omega⟩,λr C=>zBQ (A r C),λv q=>?_⟩;have q:v∈w.Ab++[qRA (qiA c)]:=q;rw[zN]at q;rcases q with q|q
 .exact(B v q).up (zDJ _)
 .simp at q;subst q;exact qWY sa u
def qrd{K}{w}{r}(h:BgW K w):BgW (K+1) {w with An:=w.An++[r]}:=by
 obtain⟨⟨C,D,E,H,L⟩,q,u⟩:=h;exact⟨⟨by show w.pins.length<=K+1;omega,by show w.Ab.length<=K+1;omega,by show w.Aa.length<=K+1;omega,by show w.counts.length<=K+1;omega,by show(w.An++[r]).length<=K+1;simp;omega⟩,λr A=>zBQ (q r A),λv B=>(u v B).up (zDJ _)⟩
def qpd{K}(u:4<=K){w}{m:Ah}(h:BgW K w):BgW (K+1) (swW w m):=by
 have q:BgW (K+1) w:=⟨⟨zBQ h.1.1,zBQ h.1.2.1,zBQ h.1.2.2.1,zBQ h.1.2.2.2.1,zBQ h.1.2.2.2.2⟩,λr A=>zBQ (h.2.1 r A),λv B=>(h.2.2 v B).up (zDJ _)⟩;unfold swW;split
 .split
  .split
   .rename_i C;exact qqd u C h
   .exact q
  .split
   .exact q
   .exact qrd h
 .exact q
def qdb{w}{m:Ah}{v}(h:v∈(swW w m).Ab):v∈w.Ab\/(qOA m.op.Ao=zc/\v=qRA (qiA m.op.Ao)):=by
 unfold swW at h;split at h
 .split at h
  .split at h
   .rename_i q;have h:v∈w.Ab++[qRA (qiA m.op.Ao)]:=h;rw[zN]at h;rcases h with h|h
    .exact .inl h
    .simp at h;exact .inr ⟨q,h⟩
   .exact .inl h
  .split at h<;>exact .inl h
 .exact .inl h
abbrev FZ:Bn:=⟨[Eb],[⟨Eb,⟨#[42]⟩,⟨#[47]⟩,⟨#[97]⟩⟩],[⟨⟨#[97]⟩,1,1,[I]⟩]⟩
def wS:Wd:=CJ (qvS 1 [I]) [Eb] 1
def HR.bg{K}(q:4<=K):∀{k:Z}{w:Wd}{m:Ah}{x:Wd}{n:Ah},HR k w m x n->BgW K w->BgW (K+k) x
 |0,_,_,_,_,⟨u,_⟩,h=>by subst u;exact h
 |k+1,w,m,x,n,⟨_,_,A⟩,h=>by
  have:=HR.bg (K:=K+1) sa A (qpd q h);rwa [show K+1+k=K+(k+1) by omega]at this
end Go.Proofs.YtlmhpamhhgogaaaGreat.Sx
namespace Go.Proofs.YtlmhpamhhgogaaaGreat.Sx
open Go.RowKit
abbrev sX:BA:=⟨#[120]⟩
abbrev sSl:BA:=⟨#[47]⟩
abbrev sQ:BA:=⟨#[113]⟩
def mH(l p:BA):Ah:={mP 0 0 with Al:=0,op:={op0 with kind:=1,listen:=l,Bb:=sX,path:=p}}
def wH(t h a:zt)(c:F zt):Wd:={w1 with Ab:=[⟨qvS 1 [I],[⟨t,[⟨h,[-1],a⟩]⟩],zb⟩],Aa:=[⟨Eb,zb,a,zb⟩],counts:=[c]}
abbrev wH1:Wd:=wH 1 4294967296 1 [1,1,0,0,0,0]
abbrev wH2:Wd:=wH 2 4294967296 1 [2,1,0,0,1,0]
abbrev wH3:Wd:=wH 2 4294967296 1 [3,1,1,0,1,0]
def g1:(gIt 14 w1 (mH Eb sSl)).1=wH1:=sd
def g2:(gIt 12 wH1 (mH Eb sSl)).1=wH2:=sd
def g3:(gIt 10 wH2 (mH Eb sQ)).1=wH3:=sd
def d1:qnV 14 w1 (mH Eb sSl)=I:=sd
def d2:qnV 12 wH1 (mH Eb sSl)=I:=sd
def d3:qnV 10 wH2 (mH Eb sQ)=I:=sd
def d4:qnV 7 wH3 (mH Jx sQ)=I:=sd
def e1:((gIt 14 w1 (mH Eb sSl)).2.done,(gIt 14 w1 (mH Eb sSl)).2.answer)=(I,Dl 1 0):=sd
def e2:((gIt 12 wH1 (mH Eb sSl)).2.done,(gIt 12 wH1 (mH Eb sSl)).2.answer.kind)=(I,4):=sd
def e3:((gIt 10 wH2 (mH Eb sQ)).2.done,(gIt 10 wH2 (mH Eb sQ)).2.answer.kind)=(I,2):=sd
def e4:((gIt 7 wH3 (mH Jx sQ)).2.done,(gIt 7 wH3 (mH Jx sQ)).2.answer.kind)=(I,2):=sd
instance(w:Wd)(m:Ah):Decidable (Et w m):=by unfold Et;infer_instance
def CR.kept{K}:∀{k:Z}{w:Wd}{m:Ah}{w':Wd}{m':Ah},CR k w m w' m'->BgW K w->BgW K w'
 |0,_,_,_,_,⟨q,_⟩,h=>by rw[q];exact h
 |_+1,_,_,_,_,⟨_,u,A⟩,h=>CR.kept A ((qhG (K:=K) u).1.1 h)
def CR.right:∀{k:Z}{w:Wd}{m:Ah}{w':Wd}{m':Ah},CR k w m w' m'->wdB w=I->wdB w'=I
 |0,_,_,_,_,⟨q,_⟩,h=>by rw[q];exact h
 |_+1,_,_,_,_,⟨_,u,A⟩,h=>CR.right A (qhG (K:=0) u).2
end Go.Proofs.YtlmhpamhhgogaaaGreat.Sx
namespace Go.Proofs.YtlmhpamhhgogaaaGreat.Sx
def qkd{w}{m:Ah}(h:cGo w m):(cE w m).access≠0:=by
 have q:(cdE w m).access≠0/\(cdE w {m with i:=0,pc:=8}).access≠0:=by
  unfold cdE;constructor<;>(split<;>simp[evO])
 have u:=h.2.2;unfold cE
 repeat' split
 all_goals(first|exact q.1|exact q.2|simp[evO,evV])
structure AtC(w:Wd)(m:Ah)(pc i e n:zt):Prop where
 AA:qzA w m=I
 done:m.done=zb
 pc:m.pc=pc
 i:m.i=i
 ep:m.Ai=e
 n:m.answer.n=n
section
variable{w:Wd}{m:Ah}{pc i e n:zt}
def AtC.step(h:AtC w m pc i e n)(u:Et w m)(A:0<=pc/\pc<=10/\pc≠7)(B:pc=5->i<9223372036854775807)(hd:(cM w m).done=zb):CR 1 w m (cW w m) (cM w m)/\qzA (cW w m) (cM w m)=I:=by
 have q:cGo w m:=⟨h.AA,u,by rw[h.pc];exact A⟩;exact⟨⟨h.done,q,rfl,rfl⟩,qIb q (by rw[h.pc,h.i];exact B) hd⟩
def qvE(h:m.pc=pc)(q:pc=2->m.i<w.pins.length)(u:pc=5->m.k<(q5B (mV w m)).length)(A:pc=6->m.i<w.An.length/\(lbR w m).Ac=m.Ac/\(lbR w m).gone=zb)(B:pc=9->m.i<w.Aa.length)(C:pc=10->m.i<w.Aa.length/\(lsL w m).drain=I):Et w m:=by
 subst h;exact⟨q,u,A,B,C⟩
end
def Hl(l:F zt)(e:zt):zO:=l.all λp=>decide (p=0)||decide (p=e+1)
def upW(w:Wd)(b:zO):Wd:=if b then{w with Ai:=w.Ai+1}else w
def upI(e:zt)(b:zO):zt:=if b then e+1 else e
def qsM{x}(h:-1000000000000000<=x/\x<=1000000000000000):wI x=x:=by
 show zAj.wrap x=x;rw[zBz];omega
def qvQ{q:Type}{l:F q}{i:Z}{x:q}(h:l[i]?=O x):l.drop i=x::l.drop (i+1):=by
 have u:=(ze.1 h);rw[zB5 u.1,u.2]
def qhR{e n}(L:0<=e/\e<1000000000000):∀(d:Z){i:Z}{w:Wd}{m:Ah},w.Ai=e->AtC w m 2 i e n->i+d+1=w.pins.length->∃(k:Z)(m':Ah),k<=d+2/\CR k w m (upW w (Hl (w.pins.drop i) e)) m'/\AtC (upW w (Hl (w.pins.drop i) e)) m' 4 0 (upI e (Hl (w.pins.drop i) e)) n
 |d,i,w,m,q,h,A=>by
  obtain⟨p,P⟩:=qEA (l:=w.pins) (i:=i) sa;have R:pnI w m=p:=qwY (by rw[h.i];exact P);have B:Et w m:=qvE h.pc (λ_=>by rw[h.i];omega) (λh=>absurd h sb) (λh=>absurd h sb) (λh=>absurd h sb) (λh=>absurd h sb);obtain⟨c1,c2,_⟩:=cb2 (w:=w) h.pc;have T:wI (m.Ai+1)=e+1:=by rw[h.ep];exact qsM sa
  have C:Hl (w.pins.drop i) e=((decide (p=0)||decide (p=e+1))&&Hl (w.pins.drop (i+1)) e):=by rw[qvQ P];rfl
  rw[R,T]at c2;by_cases u:p≠0/\p≠e+1
  .rw[zk u]at c2;have U:Hl (w.pins.drop i) e=zb:=by rw[C,zT u.1,zT u.2];rfl
   have hs:=h.step B sb (λh=>absurd h sb) (by rw[c2];exact h.done);rw[c1,c2]at hs;rw[U];exact⟨1,_,sa,hs.1,hs.2,h.done,rfl,rfl,h.ep,h.n⟩
  .rw[zj u]at c2
   have V:(decide (p=0)||decide (p=e+1))=I:=by
    simp only[zCQ,zF];omega
   rw[V,zCP]at C;rw[C]
   match d,A with
   |0,A=>
    rw[zj (by rw[h.i];omega)]at c2;have hs:=h.step B sb (λh=>absurd h sb) (by rw[c2];exact h.done);rw[c1,c2]at hs;have W:w.pins.drop (i+1)=[]:=zCj sa;rw[W];have D:AtC w {m with pc:=3,i:=m.i+1} 3 (m.i+1) e n:=⟨hs.2,h.done,rfl,rfl,h.ep,h.n⟩;obtain⟨Q,E,_⟩:=cb3 (w:=w) D.pc;have Y:upE w {m with pc:=3,i:=m.i+1}:=⟨by show w.Ai=m.Ai;rw[q,h.ep],by rw[q];exact L.2⟩;rw[zk Y]at Q E;have H:=D.step (qvE D.pc (λh=>absurd h sb) (λh=>absurd h sb) (λh=>absurd h sb) (λh=>absurd h sb) (λh=>absurd h sb)) sb (λh=>absurd h sb) (by rw[E];exact h.done);rw[Q,E]at H;exact⟨1+1,_,sa,hs.1.trans H.1,H.2,h.done,rfl,rfl,by show w.Ai+1=e+1;rw[q],h.n⟩
   |d+1,A=>
    rw[zk (by rw[h.i];omega)]at c2;have hs:=h.step B sb (λh=>absurd h sb) (by rw[c2];exact h.done);rw[c1,c2]at hs;obtain⟨k,m',ac,aa,ab⟩:=qhR L d (i:=i+1) (m:={m with i:=m.i+1}) q ⟨hs.2,h.done,h.pc,by show m.i+1=_;rw[h.i];omega,h.ep,h.n⟩ sa;exact⟨1+k,m',sa,hs.1.trans aa,ab⟩
def qkV(v:AM):zO:=(q5B v).all λe=>decide (e.Ae=0)
def qQY{w}{i}{v}(h:Hq w i v):1<=(q5B v).length/\(q5B v).length<=16:=by
 have H:=h.Aj
 have B:∀l:F Bi,(∀x∈l,1<=x.ends.length/\x.ends.length<=4)->l.length<=(l.flatMap λg=>g.ends).length/\(l.flatMap λg=>g.ends).length<=4*l.length:=by
  intro l
  induction l with
  |nil=>intro _;exact⟨zH _,zH _⟩
  |cons x r C=>
   intro q;have u:=q x se;have A:=C λy D=>q y (by simp[D]);rw[zCr,zAx,zBy];omega
 have:=B v.Aj λx q=>by
  obtain⟨j,E⟩:=zCo.1 q;obtain⟨_,_,_,u,A,_⟩:=h.ends E;exact⟨u,A⟩
 unfold q5B;omega
def qaW{e n:zt}{i:Z}(H:i<1000000){v}:∀(d:Z){k:Z}{w:Wd}{m:Ah},AtC w m 5 i e n->mV w m=v->m.k=k->k+d+1=(q5B v).length->∃(K:Z)(m':Ah),K<=d+1/\CR K w m w m'/\(((q5B v).drop k).all (λe=>decide (e.Ae=0))=I->AtC w m' 6 i e n/\m'.Ac=m.Ac)/\(((q5B v).drop k).all (λe=>decide (e.Ae=0))=zb->AtC w m' 4 (i+1) e n)
 |d,k,w,m,h,u,q,A=>by
  obtain⟨x,D⟩:=qEA (l:=q5B v) (i:=k) sa;have L:kE w m=x:=qMd (by rw[u,q];exact D);have B:Et w m:=qvE h.pc (λh=>absurd h sb) (λ_=>by rw[u,q];omega) (λh=>absurd h sb) (λh=>absurd h sb) (λh=>absurd h sb);obtain⟨c1,c2,_⟩:=cb5 (w:=w) h.pc;rw[L,u]at c2;have E:((q5B v).drop k).all (λe=>decide (e.Ae=0))=(decide (x.Ae=0)&&((q5B v).drop (k+1)).all (λe=>decide (e.Ae=0))):=by rw[qvQ D];rfl
  by_cases C:x.Ae≠0
  .rw[zk C]at c2;have hs:=h.step B sb (λ_=>sa) (by rw[c2];exact h.done);rw[c1,c2]at hs;rw[E,zT C];exact⟨1,_,sa,hs.1,λh=>by simp at h,λ_=>⟨hs.2,h.done,rfl,by show wI (m.i+1)=_;rw[h.i];exact qsM sa,h.ep,h.n⟩⟩
  .rw[zj C]at c2;have P:x.Ae=0:=sa
   rw[E,zR P,zCP]
   match d,A with
   |0,A=>
    rw[zj (by rw[q];omega)]at c2;have hs:=h.step B sb (λ_=>sa) (by rw[c2];exact h.done);rw[c1,c2]at hs;have Q:(q5B v).drop (k+1)=[]:=zCj sa;rw[Q];exact⟨1,_,sa,hs.1,λ_=>⟨⟨hs.2,h.done,rfl,h.i,h.ep,h.n⟩,rfl⟩,λh=>by simp at h⟩
   |d+1,A=>
    rw[zk (by rw[q];omega)]at c2;have hs:=h.step B sb (λ_=>sa) (by rw[c2];exact h.done);rw[c1,c2]at hs;obtain⟨K,m',V,R,T,U⟩:=qaW H d (k:=k+1) (m:={m with k:=m.k+1}) ⟨hs.2,h.done,h.pc,h.i,h.ep,h.n⟩ u (by show m.k+1=_;rw[q];omega) sa;exact⟨1+K,m',sa,hs.1.trans R,T,U⟩
def DD(e:zt)(w:Wd)(i:Z):zO:=match w.An[i]? with
 |some r=>match w.Ab[r.Ac.toNat]? with
  |some v=>!r.gone&&(decide (qiJ r.at_ e)&&qkV v)
  |none=>zb
 |none=>zb
def qVG(w:Wd)(i:Z):Wd:=match w.An[i]? with
 |some r=>match w.Ab[r.Ac.toNat]? with
  |some v=>{w with Ab:=w.Ab.set r.Ac.toNat {v with Ba:=I},An:=w.An.set i {r with gone:=I}}
  |none=>w
 |none=>w
def qKC(e:zt)(w:Wd)(i:Z):Wd:=if DD e w i then qVG w i else w
def CM(e:zt)(w:Wd):Z->Wd
 |0=>w
 |j+1=>qKC e (CM e w j) j
def Il(e:zt)(w:Wd):Z->Z
 |0=>0
 |j+1=>Il e w j+if DD e (CM e w j) j then 1 else 0
def qma{w}(B:wdB w=I){i:Z}{r}(h:w.An[i]?=O r):∃v,w.Ab[r.Ac.toNat]?=O v/\0<=r.Ac/\0<=r.at_/\r.at_<=w.Ai/\r.Ac≠w.current:=by
 obtain⟨_,_,A,C,_⟩:=qNC B;unfold qOE at A;rw[AO]at A;have q:=A _ r h;unfold FR at q;simp only[zl,zF]at q;have u:=(zAs.1 C) r (zh h);unfold Dj at u;simp only[zl,zF]at u;obtain⟨D,E⟩:=qEA (l:=w.Ab) (i:=r.Ac.toNat) sa;exact⟨D,E,q.1.1,q.1.2,u.2,u.1.2⟩
def AtC.right{w}{m:Ah}{pc i e n}(h:AtC w m pc i e n):wdB w=I:=by
 obtain⟨_,_,_,q⟩:=Am.1 h.AA;exact q.right
def qla{e n:zt}{i:Z}(ae:i<1000000)(an:0<=n/\n<1000000){w}{m:Ah}(h:AtC w m 4 i e n)(af:i<w.An.length):∃(K:Z)(m':Ah),K<=18/\CR K w m (qKC e w i) m'/\AtC (qKC e w i) m' 4 (i+1) e (n+if DD e w i then 1 else 0):=by
 obtain⟨r,E⟩:=qEA (l:=w.An) (i:=i) af;have T:=h.right;obtain⟨B,H,ao,_⟩:=qma T E;have A:DD e w i=(!r.gone&&(decide (qiJ r.at_ e)&&qkV B)):=by unfold DD;rw[E];simp only;rw[H]
 have ag:lbR w m=r:=qLH (by rw[h.i];exact E);have U:Et w m:=qvE h.pc (λh=>absurd h sb) (λh=>absurd h sb) (λh=>absurd h sb) (λh=>absurd h sb) (λh=>absurd h sb);obtain⟨c1,c2,_⟩:=cb4 (w:=w) h.pc;rw[zj (by rw[h.i];omega)]at c1 c2;rw[ag]at c2;by_cases q:r.gone=I\/¬qiJ r.at_ m.Ai
 .rw[zk q]at c2;rw[h.ep]at q;have hs:=h.step U sb (λh=>absurd h sb) (by rw[c2];exact h.done);rw[c1,c2]at hs
  have V:DD e w i=zb:=by
   rw[A];rcases q with q|q
   .rw[q];rfl
   .rw[zT q];simp
  have L:qKC e w i=w:=by unfold qKC;rw[V];rfl
  rw[L,V];exact⟨1,_,sa,hs.1,hs.2,h.done,h.pc,by show m.i+1=_;rw[h.i],h.ep,by show m.answer.n=_;rw[h.n];simp⟩
 .rw[zj q]at c2;rw[h.ep]at q
  have W:r.gone=zb:=by cases ah:r.gone with
   |false=>rfl
   |true=>exact absurd (.inl ah) q
  have ai:qiJ r.at_ e:=zB6 λk=>q (.inr k);have hs:=h.step U sb (λh=>absurd h sb) (by rw[c2];exact h.done);rw[c1,c2]at hs;rw[W,zR ai]at A;simp only[Bool.not_false,zCP]at A;have aj:AtC w {m with Ac:=r.Ac,Af:=0,Ak:=0,other:=0,slot:=0,k:=0,pc:=5} 5 i e n:=⟨hs.2,h.done,rfl,h.i,h.ep,h.n⟩;have ap:=qQY (qaC T H);have ak:mV w {m with Ac:=r.Ac,Af:=0,Ak:=0,other:=0,slot:=0,k:=0,pc:=5}=B:=by unfold mV;show(w.Ab[r.Ac.toNat]?).getD _=B;rw[H];rfl
  obtain⟨K,m',aq,Y,aa,ab⟩:=qaW ae ((q5B B).length-1) (k:=0) aj ak rfl sa;rw[zBx]at aa ab;by_cases C:qkV B=I
  .obtain⟨u,P⟩:=aa C;have P:m'.Ac=r.Ac:=P;have Q:lbR w m'=r:=qLH (by rw[u.i];exact E);have al:mV w m'=B:=by unfold mV;rw[P,H];rfl
   obtain⟨ac,ad,_⟩:=cb6 (w:=w) u.pc;rw[al,Q,P,u.i]at ac;have R:=u.step (qvE u.pc (λh=>absurd h sb) (λh=>absurd h sb) (λ_=>⟨by rw[u.i];omega,by rw[Q,P],by rw[Q];exact W⟩) (λh=>absurd h sb) (λh=>absurd h sb)) sb (λh=>absurd h sb) (by rw[ad];exact u.done);rw[ac,ad]at R;rw[C]at A;have am:qVG w i={w with Ab:=w.Ab.set r.Ac.toNat {B with Ba:=I},An:=w.An.set (i:zt).toNat {r with gone:=I}}:=by unfold qVG;rw[E];simp only;rw[H];rfl
   have L:qKC e w i=qVG w i:=by unfold qKC;rw[A];rfl
   rw[L,am,A];exact⟨1+K+1,_,sa,(hs.1.trans Y).trans R.1,R.2,u.done,rfl,by show m'.i+1=_;rw[u.i],u.ep,by show wI (m'.answer.n+1)=_;rw[u.n,qsM sa];rfl⟩
  .have C:qkV B=zb:=by simpa using C
   have D:=ab C;rw[C]at A;have L:qKC e w i=w:=by unfold qKC;rw[A];rfl
   rw[L,A];exact⟨1+K,_,sa,hs.1.trans Y,D.AA,D.done,D.pc,D.i,D.ep,by rw[D.n];simp⟩
def qpQ(w)(i):(qVG w i).Ai=w.Ai/\(qVG w i).current=w.current/\(qVG w i).AL=w.AL/\(qVG w i).pins=w.pins/\(qVG w i).Aa=w.Aa/\(qVG w i).counts=w.counts/\(qVG w i).An.length=w.An.length/\(qVG w i).Ab.length=w.Ab.length:=by
 unfold qVG;split
 .split
  .refine⟨rfl,rfl,rfl,rfl,rfl,rfl,?_,?_⟩
   .show(w.An.set _ _).length=_;rw[zAd]
   .show(w.Ab.set _ _).length=_;rw[zAd]
  .exact⟨rfl,rfl,rfl,rfl,rfl,rfl,rfl,rfl⟩
 .exact⟨rfl,rfl,rfl,rfl,rfl,rfl,rfl,rfl⟩
def qWO(e)(w)(i):(qKC e w i).Ai=w.Ai/\(qKC e w i).current=w.current/\(qKC e w i).AL=w.AL/\(qKC e w i).pins=w.pins/\(qKC e w i).Aa=w.Aa/\(qKC e w i).counts=w.counts/\(qKC e w i).An.length=w.An.length/\(qKC e w i).Ab.length=w.Ab.length:=by
 unfold qKC;split
 .exact qpQ w i
 .exact⟨rfl,rfl,rfl,rfl,rfl,rfl,rfl,rfl⟩
def qrE(e)(w):∀j,(CM e w j).Ai=w.Ai/\(CM e w j).current=w.current/\(CM e w j).AL=w.AL/\(CM e w j).pins=w.pins/\(CM e w j).Aa=w.Aa/\(CM e w j).counts=w.counts/\(CM e w j).An.length=w.An.length/\(CM e w j).Ab.length=w.Ab.length
 |0=>⟨rfl,rfl,rfl,rfl,rfl,rfl,rfl,rfl⟩
 |j+1=>by
  obtain⟨h,q,u,A,B,C,D,E⟩:=qrE e w j;obtain⟨H,L,P,Q,R,T,U,V⟩:=qWO e (CM e w j) j;exact⟨H.trans h,L.trans q,P.trans u,Q.trans A,R.trans B,T.trans C,U.trans D,V.trans E⟩
def qAW(e)(w):∀j,Il e w j<=j
 |0=>zH _
 |j+1=>by
  have:=qAW e w j;unfold Il;split<;>omega
def q2O{e}:∀(j:Z){w:Wd}{m:Ah},AtC w m 4 0 e 0->j<=w.An.length->w.An.length<1000->∃(K:Z)(m':Ah),K<=18*j/\CR K w m (CM e w j) m'/\AtC (CM e w j) m' 4 j e (Il e w j)
 |0,w,m,q,_,_=>⟨0,m,zH _,⟨rfl,rfl⟩,q⟩
 |j+1,w,m,q,E,u=>by
  obtain⟨K,H,L,A,B⟩:=q2O j q sa u;obtain⟨_,_,_,_,_,_,P,_⟩:=qrE e w j;have Q:=qAW e w j;obtain⟨K2,C,R,D,h⟩:=qla (i:=j) sa sa B sa;refine⟨K+K2,C,sa,A.trans D,h.AA,h.done,h.pc,h.i,h.ep,?_⟩;rw[h.n];show _=((Il e w j+(if DD e (CM e w j) j=I then 1 else 0):Z):zt);split<;>simp
def qzC(x:AI):AI:=if x.drain=I/\x.Ae=0/\x.closed=zb then{x with closed:=I}else x
def Hk(i:Z)(l:F AI):F AI:=l.take i++(l.drop i).map qzC
def q9K{l}{i}{x}(h:l[i]?=O x):Hk i l=Hk (i+1) (l.set i (qzC x)):=by
 have q:=(ze.1 h).1;unfold Hk;rw[qvQ h,zB0,zDe sa,zC1,zAE,List.take_set,List.set_eq_of_length_le sf];simp[q]
def qVY{l}{i}(h:l.length<=i):Hk i l=l:=by
 unfold Hk;rw[zAz h,zCj h];simp
def qfI{e n}:∀(d:Z){i:Z}{w:Wd}{m:Ah},AtC w m 8 i e n->i+d=w.Aa.length->∃(K:Z)(m':Ah),1<=K/\K<=3*d+1/\CR K w m {w with Aa:=Hk i w.Aa,AL:=0} m'/\m'.done=I/\m'.answer=⟨11,0,0,0,0,0,n,c60⟩
 |0,i,w,m,h,ad=>by
  have Q:Et w m:=qvE h.pc (λh=>absurd h sb) (λh=>absurd h sb) (λh=>absurd h sb) (λh=>absurd h sb) (λh=>absurd h sb);have ae:cGo w m:=⟨h.AA,Q,by rw[h.pc];decide⟩;obtain⟨c1,c2,_⟩:=cb8 (w:=w) h.pc;unfold cdW at c1;unfold cdM at c2;rw[zk (by rw[h.i];omega)]at c1 c2;rw[qVY sa];refine⟨1,_,zH _,zH _,⟨h.done,ae,c1.symm,c2.symm⟩,rfl,?_⟩;show(⟨11,0,0,0,0,0,m.answer.n,c60⟩:Ans)=_;rw[h.n]
 |d+1,i,w,m,h,ad=>by
  obtain⟨x,q⟩:=qEA (l:=w.Aa) (i:=i) sa;have Q:Et w m:=qvE h.pc (λh=>absurd h sb) (λh=>absurd h sb) (λh=>absurd h sb) (λh=>absurd h sb) (λh=>absurd h sb);obtain⟨c1,c2,_⟩:=cb8 (w:=w) h.pc;unfold cdW at c1;unfold cdM at c2;rw[zj (by rw[h.i];omega)]at c1 c2;rw[qJH (r:=x) (by rw[h.i];exact q)]at c2;by_cases B:x.drain=I/\x.closed=zb
  .rw[zk B]at c2;have hs:=h.step Q sb (λh=>absurd h sb) (by rw[c2];exact h.done);rw[c1,c2]at hs;have C:AtC w {m with pc:=9} 9 i e n:=⟨hs.2,h.done,rfl,h.i,h.ep,h.n⟩;obtain⟨U,u,_⟩:=cb9 (w:=w) C.pc;rw[qJH (r:=x) (by rw[C.i];exact q)]at u;have V:Et w {m with pc:=9}:=qvE C.pc (λh=>absurd h sb) (λh=>absurd h sb) (λh=>absurd h sb) (λ_=>by rw[C.i];omega) (λh=>absurd h sb);by_cases R:x.Ae=0
   .rw[zk R]at u;have A:=C.step V sb (λh=>absurd h sb) (by rw[u];exact h.done);rw[U,u]at A;have D:AtC w {m with pc:=10} 10 i e n:=⟨A.2,h.done,rfl,h.i,h.ep,h.n⟩;obtain⟨W,Y,_⟩:=Im (w:=w) D.pc;have aa:lsL w {m with pc:=10}=x:=qJH (r:=x) (by rw[D.i];exact q);have af:({m with pc:=10}:Ah).i.toNat=i:=by show m.i.toNat=i;rw[h.i];rfl
    rw[aa,af]at W;have T:=D.step (qvE D.pc (λh=>absurd h sb) (λh=>absurd h sb) (λh=>absurd h sb) (λh=>absurd h sb) (λ_=>⟨by rw[D.i];omega,by rw[aa];exact B.1⟩)) sb (λh=>absurd h sb) (by rw[Y];exact h.done);rw[W,Y]at T;obtain⟨K,m',ab,ac,E,H,L⟩:=qfI (e:=e) (n:=n) d (i:=i+1) (w:={w with Aa:=w.Aa.set i {x with closed:=I}}) (m:={m with pc:=8,i:=m.i+1}) ⟨T.2,h.done,rfl,by show m.i+1=_;rw[h.i];omega,h.ep,h.n⟩ (by show _=(w.Aa.set _ _).length;rw[zAd];omega);have P:qzC x={x with closed:=I}:=by unfold qzC;rw[zk ⟨B.1,R,B.2⟩]
    rw[q9K q,P];exact⟨1+1+1+K,m',sa,sa,((hs.1.trans A.1).trans T.1).trans E,H,L⟩
   .rw[zj R]at u;have A:=C.step V sb (λh=>absurd h sb) (by rw[u];exact h.done);rw[U,u]at A;obtain⟨K,m',ab,ac,E,H,L⟩:=qfI (e:=e) (n:=n) d (i:=i+1) (w:=w) (m:={m with pc:=8,i:=m.i+1}) ⟨A.2,h.done,rfl,by show m.i+1=_;rw[h.i];omega,h.ep,h.n⟩ sa;have P:qzC x=x:=by unfold qzC;rw[zj λh=>R h.2.1]
    rw[q9K q,P,qqG q];exact⟨1+1+K,m',sa,sa,(hs.1.trans A.1).trans E,H,L⟩
  .rw[zj B]at c2;have hs:=h.step Q sb (λh=>absurd h sb) (by rw[c2];exact h.done);rw[c1,c2]at hs;obtain⟨K,m',ab,ac,E,H,L⟩:=qfI (e:=e) (n:=n) d (i:=i+1) (w:=w) (m:={m with i:=m.i+1}) ⟨hs.2,h.done,h.pc,by show m.i+1=_;rw[h.i];omega,h.ep,h.n⟩ sa;have P:qzC x=x:=by unfold qzC;rw[zj λh=>B ⟨h.1,h.2.2⟩]
   rw[q9K q,P,qqG q];exact⟨1+K,m',sa,sa,hs.1.trans E,H,L⟩
structure LC(m:Ah):Prop where
 done:m.done=zb
 pc:m.pc=0
 n:m.answer.n=0
def Ee(w:Wd):zt:=upI w.Ai (Hl w.pins w.Ai)
def qCD(w:Wd):Wd:=upW {w with AL:=1} (Hl w.pins w.Ai)
def DE(w:Wd):Wd:={CM (Ee w) (qCD w) w.An.length with Aa:=w.Aa.map qzC,AL:=0}
def Li(w:Wd):Z:=Il (Ee w) (qCD w) w.An.length
def qFb{w}{m:Ah}(hs:qzA w m=I)(A:LC m)(ae:w.AL=0)(af:w.Ai<1000000000000)(ap:w.An.length<=60)(aq:w.Aa.length<=60):∃(K:Z)(m':Ah),K<3000/\CR K w m (DE w) m'/\m'.done=I/\m'.answer=⟨11,0,0,0,0,0,Li w,c60⟩:=by
 obtain⟨v,ar,au,U⟩:=Am.1 hs
 have av:1<=w.pins.length/\w.pins.length<=8:=by
  obtain⟨q,_⟩:=qNC U.right;unfold qGB at q;simp only[zl,zF]at q;exact⟨q.1.1.1.1.1.1.1,q.1.1.1.1.1.1.2⟩
 have ag:0<=w.Ai:=by
  obtain⟨q,_⟩:=qNC U.right;unfold qGB at q;simp only[zl,zF]at q;exact q.1.1.1.2
 have B:AtC w m 0 m.i m.Ai 0:=⟨hs,A.done,A.pc,rfl,rfl,A.n⟩;obtain⟨V,E,_⟩:=cb0 (w:=w) B.pc;rw[zk ae]at V E;have H:=B.step (qvE B.pc (λh=>absurd h sb) (λh=>absurd h sb) (λh=>absurd h sb) (λh=>absurd h sb) (λh=>absurd h sb)) sb (λh=>absurd h sb) (by rw[E];exact B.done);rw[V,E]at H;have q:AtC {w with AL:=1} {m with pc:=1} 1 m.i m.Ai 0:=⟨H.2,A.done,rfl,rfl,rfl,A.n⟩;obtain⟨ah,W,_⟩:=cb1 (w:={w with AL:=1}) q.pc;have L:=q.step (qvE q.pc (λh=>absurd h sb) (λh=>absurd h sb) (λh=>absurd h sb) (λh=>absurd h sb) (λh=>absurd h sb)) sb (λh=>absurd h sb) (by rw[W];exact B.done);rw[ah,W]at L;obtain⟨K2,Y,aw,P,Q⟩:=qhR (e:=w.Ai) (n:=0) ⟨ag,af⟩ (w.pins.length-1) (i:=0) (w:={w with AL:=1}) rfl ⟨L.2,A.done,rfl,rfl,rfl,A.n⟩ (by show _=w.pins.length;omega);have Q:AtC (qCD w) Y 4 0 (Ee w) 0:=Q;have P:CR K2 {w with AL:=1} _ (qCD w) Y:=P;have C:(qCD w).An=w.An/\(qCD w).Aa=w.Aa:=by unfold qCD upW;split<;>exact⟨rfl,rfl⟩
 obtain⟨ai,R,ax,aj,u⟩:=q2O w.An.length Q (by rw[C.1];exact zH _) (by rw[C.1];omega);obtain⟨_,_,_,_,aa,_,ak,_⟩:=qrE (Ee w) (qCD w) w.An.length
 have ab:AtC (CM (Ee w) (qCD w) w.An.length) {R with i:=0,pc:=8} 8 (0:Z) (Ee w) (Li w):=by
  obtain⟨v3,g3,e3,ac⟩:=Am.1 u.AA;exact⟨Ay.AA (ac.Ef rfl rfl rfl rfl rfl rfl rfl rfl (zAS _) ac.k),u.done,rfl,rfl,u.ep,u.n⟩
 obtain⟨D,ad,ay,az,T,al,am⟩:=qfI w.Aa.length ab (by rw[aa,C.2];omega);obtain⟨D,rfl⟩:∃j,D=j+1:=⟨D-1,sa⟩;obtain⟨_,_,T⟩:=T;obtain⟨c1,c2,_⟩:=cb4 (w:=CM (Ee w) (qCD w) w.An.length) u.pc;rw[zk (by rw[u.i,ak,C.1];omega)]at c1 c2;obtain⟨d1,d2,_⟩:=cb8 (w:=CM (Ee w) (qCD w) w.An.length) ab.pc;have an:cGo (CM (Ee w) (qCD w) w.An.length) R:=⟨u.AA,qvE u.pc (λh=>absurd h sb) (λh=>absurd h sb) (λh=>absurd h sb) (λh=>absurd h sb) (λh=>absurd h sb),by rw[u.pc];decide⟩
 have ao:CR (D+1) (CM (Ee w) (qCD w) w.An.length) R (DE w) ad:=by
  refine⟨u.done,an,?_⟩;rw[c1,c2,<-d1,<-d2]
  have e1:(DE w)={CM (Ee w) (qCD w) w.An.length with Aa:=Hk 0 (CM (Ee w) (qCD w) w.An.length).Aa,AL:=0}:=by
   unfold DE Hk;rw[aa,C.2];simp
  rw[e1];exact T
 exact⟨1+1+K2+ai+(D+1),ad,sa,(((H.1.trans L.1).trans P).trans aj).trans ao,al,am⟩
structure Bl(w w':Wd):Prop where
 pins:w'.pins=w.pins
 lis:w'.Aa.length=w.Aa.length
 cur:w'.current=w.current
 ver:∀(i:Z)v,w.Ab[i]?=O v->∃v',w'.Ab[i]?=O v'/\v'.Aj=v.Aj/\v'.Aw=v.Aw
def Bl.refl(w):Bl w w:=⟨rfl,rfl,rfl,λ_ v h=>⟨v,h,rfl,rfl⟩⟩
def Bl.trans{a b c}(h:Bl a b)(k:Bl b c):Bl a c:=
 ⟨k.pins.trans h.pins,k.lis.trans h.lis,k.cur.trans h.cur,λi v q=>by
  obtain⟨u,A,e1,B⟩:=h.ver i v q;obtain⟨C,D,e2,E⟩:=k.ver i u A
  exact⟨C,D,e2.trans e1,E.trans B⟩⟩
def Bl.of{w w'}(h:w'.pins=w.pins)(q:w'.Aa.length=w.Aa.length)(u:w'.current=w.current)(A:w'.Ab=w.Ab):Bl w w':=⟨h,q,u,λi v B=>⟨v,by rw[A];exact B,rfl,rfl⟩⟩
def Bl.free{w}{i}{v}(q:w.Ab[i]?=O v)(l):Bl w {w with Ab:=w.Ab.set i {v with Ba:=I},An:=l}:=
 ⟨rfl,rfl,rfl,λj A h=>by
  by_cases u:i=j
  .subst u;rw[q]at h;cases h;exact⟨{v with Ba:=I},by show(w.Ab.set _ _)[_]?=_;rw[zAE];simp[(ze.1 q).1],rfl,rfl⟩
  .exact⟨A,by show(w.Ab.set _ _)[_]?=_;rw[zAE,zj u];exact h,rfl,rfl⟩⟩
section
variable{w:Wd}{m:Ah}
def qQS:Bl w (cdW w m):=by
 unfold cdW;split
 .exact Bl.of rfl rfl rfl rfl
 .exact Bl.refl w
def qSS(q:cGo w m):Bl w (cW w m):=by
 obtain⟨v,A,B,u⟩:=Am.1 q.1;have C:=q.2.2;rcases(by omega:m.pc=0\/m.pc=1\/m.pc=2\/m.pc=3\/m.pc=4\/m.pc=5\/m.pc=6\/m.pc=8\/m.pc=9\/m.pc=10)with h|h|h|h|h|h|h|h|h|h
 .rw[(cb0 h).1];split
  .exact Bl.of rfl rfl rfl rfl
  .exact Bl.refl w
 .rw[(cb1 h).1];exact Bl.refl w
 .rw[(cb2 h).1];exact Bl.refl w
 .rw[(cb3 h).1];split
  .exact Bl.of rfl rfl rfl rfl
  .exact Bl.refl w
 .rw[(cb4 h).1];split
  .exact qQS
  .exact Bl.refl w
 .rw[(cb5 h).1];exact Bl.refl w
 .rw[(cb6 h).1,u.at_.1];exact Bl.free u.ver.2 _
 .rw[(cb8 h).1];exact qQS
 .rw[(cb9 h).1];exact Bl.refl w
 .rw[(Im h).1];exact Bl.of rfl (by show(w.Aa.set _ _).length=_;rw[zAd]) rfl rfl
def qFW(hd:m.done=zb)(h:m.pc≠0):((cdM w m).done=I/\(cdW w m).AL=0)\/((cdM w m).done=zb/\(cdM w m).pc≠0/\(cdW w m).AL=w.AL):=by
 unfold cdM cdW;split
 .exact .inl ⟨rfl,rfl⟩
 .refine .inr ⟨?_,?_,rfl⟩
  .split<;>exact hd
  .split
   .exact(by decide:(9:zt)≠0)
   .exact h
def qNZ(B:cGo w m)(u:m.pc≠0):((cM w m).done=I/\(cW w m).AL=0)\/((cM w m).done=zb/\(cM w m).pc≠0/\(cW w m).AL=w.AL):=by
 obtain⟨v,D,E,C⟩:=Am.1 B.1;have q:=C.done;have H:=B.2.2;rcases(by omega:m.pc=1\/m.pc=2\/m.pc=3\/m.pc=4\/m.pc=5\/m.pc=6\/m.pc=8\/m.pc=9\/m.pc=10)with h|h|h|h|h|h|h|h|h
 .obtain⟨e1,e2,_⟩:=cb1 (w:=w) h;rw[e1,e2];exact .inr ⟨q,(by decide:(2:zt)≠0),rfl⟩
 .obtain⟨e1,e2,_⟩:=cb2 (w:=w) h;rw[e1,e2];refine .inr ⟨?_,?_,rfl⟩
  .split
   .exact q
   .split<;>exact q
  .split
   .exact(by decide:(4:zt)≠0)
   .split
    .exact u
    .exact(by decide:(3:zt)≠0)
 .obtain⟨e1,e2,_⟩:=cb3 (w:=w) h;rw[e1,e2];refine .inr ⟨?_,?_,?_⟩
  .split<;>exact q
  .split<;>exact(by decide:(4:zt)≠0)
  .split<;>rfl
 .obtain⟨e1,e2,_⟩:=cb4 (w:=w) h;rw[e1,e2];by_cases A:(w.An.length:zt)<=m.i
  .rw[zk A,zk A];have:=qFW (w:=w) (m:={m with i:=0,pc:=8}) q (by decide:(8:zt)≠0);exact this
  .rw[zj A,zj A];refine .inr ⟨?_,?_,rfl⟩
   .split<;>exact q
   .split
    .exact u
    .exact(by decide:(5:zt)≠0)
 .obtain⟨e1,e2,_⟩:=cb5 (w:=w) h;rw[e1,e2];refine .inr ⟨?_,?_,rfl⟩
  .split
   .exact q
   .split<;>exact q
  .split
   .exact(by decide:(4:zt)≠0)
   .split
    .exact u
    .exact(by decide:(6:zt)≠0)
 .obtain⟨e1,e2,_⟩:=cb6 (w:=w) h;rw[e1,e2];exact .inr ⟨q,(by decide:(4:zt)≠0),rfl⟩
 .obtain⟨e1,e2,_⟩:=cb8 (w:=w) h;rw[e1,e2];exact qFW q u
 .obtain⟨e1,e2,_⟩:=cb9 (w:=w) h;rw[e1,e2];refine .inr ⟨?_,?_,rfl⟩
  .split<;>exact q
  .split
   .exact(by decide:(10:zt)≠0)
   .exact(by decide:(8:zt)≠0)
 .obtain⟨e1,e2,_⟩:=Im (w:=w) h;rw[e1,e2];exact .inr ⟨q,(by decide:(8:zt)≠0),rfl⟩
end
structure BuS(w0 w:Wd)(m:Ah):Prop where
 keep:Bl w0 w
 right:wdB w=I
 Ak:m.done=I->w.AL=0
 on:m.done=zb->w.AL=1/\m.pc≠0
def BuS.first{w}{m:Ah}(hs:qzA w m=I)(q:LC m)(C:w.AL=0):BuS w (csW w m) (csM w m):=by
 have u:cGo w m:=⟨hs,qvE q.pc (λh=>absurd h sb) (λh=>absurd h sb) (λh=>absurd h sb) (λh=>absurd h sb) (λh=>absurd h sb),by rw[q.pc];decide⟩;obtain⟨e1,e2,_⟩:=qqH u;obtain⟨B,A,_⟩:=cb0 (w:=w) q.pc;rw[zk C]at B A;have D:=qSS u;have E:=(qhG (K:=0) u).2;rw[e1,e2];refine⟨D,E,λh=>?_,λ_=>?_⟩
 .rw[A]at h;have:m.done=I:=h;rw[q.done]at this;cases this
 .rw[B,A];exact⟨rfl,(by decide:(1:zt)≠0)⟩
def BuS.step{w0 w}{m:Ah}(h:BuS w0 w m)(hd:m.done=zb):BuS w0 (csW w m) (csM w m):=by
 by_cases q:cGo w m
 .obtain⟨e1,e2,_⟩:=qqH q;rw[e1,e2];refine⟨h.keep.trans (qSS q),(qhG (K:=0) q).2,λu=>?_,λu=>?_⟩
  .rcases qNZ q (h.on hd).2 with⟨_,A⟩|⟨B,_⟩
   .exact A
   .rw[B]at u;cases u
  .rcases qNZ q (h.on hd).2 with⟨B,_⟩|⟨_,A,C⟩
   .rw[B]at u;cases u
   .exact⟨C.trans (h.on hd).1,A⟩
 .obtain⟨e1,e2,_⟩:=qDb q;rw[e1,e2];exact h
def Bl.AA{w w'}{m:Ah}(h:Bl w w')(u:wdB w'=I)(hs:qzA w m=I):qzA w' m=I:=by
 obtain⟨v,C,D,q⟩:=Am.1 hs;obtain⟨E,A,B,_⟩:=h.ver _ v q.ver.2;exact Ay.AA (q.move u h.pins A B h.lis rfl rfl rfl rfl rfl rfl rfl rfl q.i q.k)
def qST(w)(i):Bl w (qVG w i):=by
 unfold qVG;split
 .split
  .rename_i v h;exact Bl.free h _
  .exact Bl.refl w
 .exact Bl.refl w
def qJQ(e)(w)(i):Bl w (qKC e w i):=by
 unfold qKC;split
 .exact qST w i
 .exact Bl.refl w
def qBI(e)(w):∀j,Bl w (CM e w j)
 |0=>Bl.refl w
 |j+1=>(qBI e w j).trans (qJQ e _ j)
def qFP{v v'}(h:v'.Aj=v.Aj):q5B v'=q5B v:=by unfold q5B;rw[h]
def qzV{e}{w w'}(h:Bl w w')(C:w'.Ab.length=w.Ab.length){i}(u:w'.An[i]?=w.An[i]?):DD e w' i=DD e w i:=by
 unfold DD;rw[u];split
 .rename_i r D;cases q:w.Ab[r.Ac.toNat]? with
  |none=>
   have:w'.Ab[r.Ac.toNat]?=zc:=by rw[zB4]at q⊢;omega
   rw[this]
  |some v=>
   obtain⟨E,A,B,_⟩:=h.ver _ v q;rw[A];simp only;unfold qkV;rw[qFP B]
 .rfl
def qpV(w)(i j):(qVG w i).An[j]?=if j=i then(w.An[i]?).map (λr=>if(w.Ab[r.Ac.toNat]?).isSome then{r with gone:=I}else r)else w.An[j]?:=by
 unfold qVG;split
 .rename_i r q;split
  .rename_i v u;show(w.An.set i _)[j]?=_;rw[zAE];by_cases h:i=j
   .subst h;rw[zk rfl,zk rfl,zk (ze.1 q).1,q];simp only[zBv,u,zB7,zBA]
   .rw[zj h,zj (zBs h)]
  .rename_i u;by_cases h:j=i
   .subst h;rw[zk rfl,q];simp only[zBv,u,Option.isSome_none];rfl
   .rw[zj h]
 .rename_i q;by_cases h:j=i
  .subst h;rw[zk rfl,q];rfl
  .rw[zj h]
def qdR(e)(w):∀(j i:Z),(CM e w j).An[i]?=if i<j then(w.An[i]?).map (λr=>if DD e w i then{r with gone:=I}else r)else w.An[i]?
 |0,i=>by simp[CM]
 |j+1,i=>by
  have B:=qdR e w j;have D:(CM e w j).An[j]?=w.An[j]?:=by rw[B j,zj sa]
  have E:DD e (CM e w j) j=DD e w j:=qzV (qBI e w j) (qrE e w j).2.2.2.2.2.2.2 D;show(qKC e (CM e w j) j).An[i]?=_;unfold qKC;rw[E];by_cases h:DD e w j=I
  .rw[zk h,qpV,D];by_cases u:i=j
   .subst u;rw[zk rfl,zk sa];unfold DD at h;cases C:w.An[i]? with
    |none=>rw[C]at h;cases h
    |some r=>
     rw[C]at h;simp only at h;cases A:w.Ab[r.Ac.toNat]? with
     |none=>rw[A]at h;cases h
     |some v=>
      obtain⟨P,H,_⟩:=(qBI e w i).ver _ v A;have L:DD e w i=I:=by unfold DD;rw[C];simp only;rw[A];rw[A]at h;exact h
      simp only[H,zBv,L,zBA,zB7]
   .rw[zj u,B i];by_cases q:i<j
    .rw[zk q,zk sa]
    .rw[zj q,zj sa]
  .have h:DD e w j=zb:=by simpa using h
   rw[h,zj sb,B i];by_cases u:i=j
   .subst u;rw[zj sa,zk sa,h];cases w.An[i]?<;>simp
   .by_cases q:i<j
    .rw[zk q,zk sa]
    .rw[zj q,zj sa]
def qtH(w):(qCD w).An=w.An/\(qCD w).Ab=w.Ab/\(qCD w).Aa=w.Aa/\(qCD w).pins=w.pins/\(qCD w).current=w.current/\(qCD w).counts=w.counts/\(qCD w).Ai=Ee w:=by
 unfold qCD upW Ee upI;split<;>exact⟨rfl,rfl,rfl,rfl,rfl,rfl,rfl⟩
def qbd(e)(w)(i):DD e (qCD w) i=DD e w i:=by
 obtain⟨h,q,u,A,B,_⟩:=qtH w;unfold DD;rw[h,q]
def qjN(w):(DE w).Ai=Ee w/\(DE w).AL=0/\(DE w).An.length=w.An.length/\(DE w).Ab.length=w.Ab.length/\(DE w).Aa=w.Aa.map qzC/\(DE w).pins=w.pins/\(∀i:Z,(DE w).An[i]?=(w.An[i]?).map λr=>if DD (Ee w) w i then{r with gone:=I}else r):=by
 obtain⟨h,u,L,A,P,Q,B⟩:=qtH w;obtain⟨C,R,T,D,U,V,E,H⟩:=qrE (Ee w) (qCD w) w.An.length;refine⟨C.trans B,rfl,by rw[<-h];exact E,by rw[<-u];exact H,rfl,D.trans A,λi=>?_⟩;show(CM (Ee w) (qCD w) w.An.length).An[i]?=_;rw[qdR,h,qbd];by_cases q:i<w.An.length
 .rw[zk q]
 .rw[zj q];have:w.An[i]?=zc:=by rw[zB4];omega
  rw[this];rfl
def qIP(w):Bl w (DE w):=by
 obtain⟨E,h,H,q,u,L,P⟩:=qtH w;obtain⟨A,Q,B,C⟩:=qBI (Ee w) (qCD w) w.An.length;refine⟨A.trans q,by show(w.Aa.map qzC).length=_;rw[zBa],B.trans u,λi v D=>C i v (by rw[h];exact D)⟩
def isB(l:F zt)(k:zt)(j:Z):zO:=(l.take j).any λx=>x==k
def AU.perm{B}{w}{A u}(h:AU B w A)(q:A.Perm u):AU B w u:=by
 refine⟨h.right,λc D=>?_,?_,h.la,h.ea⟩
 .obtain⟨E,l,H,k⟩:=h.each c (q.mem_iff.2 D);exact⟨E,l,H,{k with cE:=by have:=k.cE;unfold CU at this⊢;rw[<-q.countP_eq];exact this,cL:=by have:=k.cL;unfold C4 at this⊢;rw[<-q.countP_eq];exact this}⟩
 .refine(q.pairwise_iff ?_).1 h.Hi;exact λL C=>L ⟨qpE C.1,C.2.symm⟩
def AU.up{B q}{w}{A}(h:AU B w A)(u:B<=q):AU q w A:=
 ⟨h.right,h.each,h.Hi,λx C=>Int.le_trans (h.la x C) u,λi j k D E=>Int.le_trans (h.ea i j k D E) u⟩
def AU.move{B}{w x}{A}(h:AU B w A)(u:wdB x=I)(hE:∀i j k en,Ci w i j k=O en->Ci x i j k=O en)(C:∀i j k en,Ci x i j k=O en->en.Ae<=B)(D:∀(i:Z)(L:AI),w.Aa[i]?=O L->∃q:AI,x.Aa[i]?=O q/\q.Ae=L.Ae)(E:∀y∈x.Aa,y.Ae<=B):AU B x A:=by
 refine⟨u,λa H=>?_,h.Hi,E,C⟩;obtain⟨en,l,L,k⟩:=h.each a H;obtain⟨q,P,Q⟩:=D _ _ k.lis;exact⟨en,l,q,{k with Ak:=hE _ _ _ _ k.Ak,lis:=P,cL:=by rw[Q];exact k.cL}⟩
def AU.Kt{B}{w}{A}(h:AU B w A)(P:0<=B)(c)(D:wdB (Fv w c)=I):AU B (Fv w c) A:=by
 unfold Fv at D⊢;split at D;rotate_left
 .exact h
 refine h.move D ?_ ?_ (λi Q R=>⟨Q,R,rfl⟩) h.la
 .intro i j k L E;obtain⟨v,T,q,u,C⟩:=qdN E;refine qeN (v:=v) ?_ u C;show(w.Ab++_)[i]?=_;rw[zAc (ze.1 q).1];exact q
 .intro i j k L E;obtain⟨v,T,q,u,C⟩:=qdN E;have q:(w.Ab++[qRA (qiA c)])[i]?=O v:=q;rcases zAJ i w.Ab.length with H|H
  .rw[zAc H]at q;exact h.ea i j k L (qeN q u C)
  .rw[zBg H]at q;have hm:=zh q;rw[zA3]at hm;subst hm;have u:=zh u;simp only[qRA,zU]at u;obtain⟨U,_,rfl⟩:=u;have C:=zh C;simp only[zU]at C;obtain⟨_,_,rfl⟩:=C;exact P
def AU.DE{B:zt}{w:Wd}{A:F Ans}(h:AU B w A)(H:wdB (DE w)=I):AU B (DE w) A:=by
 have L:=qIP w;have u:=qjN w
 have hE:∀i j k,Ci (Go.Proofs.YtlmhpamhhgogaaaGreat.Sx.DE w) i j k=Ci w i j k:=λi j k=>by
  unfold Ci;cases C:w.Ab[i]? with
  |none=>
   have:(Go.Proofs.YtlmhpamhhgogaaaGreat.Sx.DE w).Ab[i]?=zc:=zBG (by rw[u.2.2.2.1];exact zB4.1 C);rw[this]
  |some v=>
   obtain⟨P,Q,R,_⟩:=L.ver i v C;rw[Q];show(P.Aj[j]?).bind _=(v.Aj[j]?).bind _;rw[R]
 refine h.move H (λi j k D q=>by rw[hE];exact q) (λi j k D q=>by rw[hE]at q;exact h.ea i j k D q) (λi T U=>⟨qzC T,?_,?_⟩) λy E=>?_
 .rw[u.2.2.2.2.1,zAy,U];rfl
 .unfold qzC;split<;>rfl
 .rw[u.2.2.2.2.1,zU]at E;obtain⟨z,V,rfl⟩:=E;have:=h.la z V;unfold qzC;split<;>exact this
def AU.drain{B}{w}{A}(h:AU B w A){i}{x}(q:w.Aa[i]?=O x):AU B {w with Aa:=w.Aa.set i (drL x)} A:=by
 refine h.move (qiE h.right q rfl (qRY h.right q)) (λ_ _ _ _ E=>E) h.ea (λj H u=>?_) λy C=>?_
 .by_cases D:i=j
  .subst D;rw[q]at u;cases u;exact⟨drL x,qpA q,rfl⟩
  .exact⟨H,by show(w.Aa.set i _)[j]?=_;rw[zB9 D];exact u,rfl⟩
 .rcases zAf C with C|rfl
  .exact h.la y C
  .exact h.la x (zh q)
def qAJ{h:Type}{p q:h->zO}:∀{l:F h},(∀x∈l,p x=q x)->l.findIdx? p=l.findIdx? q
 |[],_=>rfl
 |x::l,u=>by
  rw[zCk,zCk,u x (zAH ..),qAJ λy A=>u y (zAF _ A)]
abbrev qsJ(given:F Ans)(k:Z):Ans:=(given[k]?).getD BY
def opA(given:F Ans):F Ans:=(opL given given.length).map (qsJ given)
def qCM{given}:∀{i:Z},i<=given.length->∀n∈opL given i,n<i/\∃A,given[n]?=O A/\A.kind=1
 |0,_,n,h=>by cases h
 |i+1,E,n,h=>by
  obtain⟨A,u⟩:=qEA (l:=given) (i:=i) sa;rw[qaD u]at h
  have q:n∈opL given i->n<i+1/\∃A,given[n]?=O A/\A.kind=1:=λC=>by
   obtain⟨B,D⟩:=qCM (i:=i) sa n C;exact⟨sa,D⟩
  unfold Gg at h;split at h
  .rename_i B;rcases zN.1 h with h|h
   .exact q h
   .obtain rfl:=zA3.1 h;exact⟨sa,A,u,B⟩
  .split at h
   .split at h
    .exact q (List.mem_of_mem_eraseIdx h)
    .exact q h
   .exact q h
def q2U{given}(B:Ans):∀{i:Z},i<=given.length->opL (given++[B]) i=opL given i
 |0,_=>rfl
 |i+1,C=>by
  obtain⟨A,h⟩:=qEA (l:=given) (i:=i) sa;rw[qaD h,qaD (given:=given++[B]) (A:=A) (by rw[zAc sa];exact h),q2U B (i:=i) sa];unfold Gg;rw[qAJ (q:=qtO given A) λx u=>?_];have:=(qCM (i:=i) sa x u).1;show(match(given++[B])[x]? with|some B=>qiH A B|none=>zb)=_;rw[zAc sa]
  try rfl
def qPG{h q:Type}(f:h->q):∀(l:F h)(k:Z),(l.eraseIdx k).map f=(l.map f).eraseIdx k
 |[],_=>rfl
 |_::_,0=>rfl
 |x::l,k+1=>by simp[List.eraseIdx,qPG f l k]
def GY(out:F Ans)(A:Ans):F Ans:=if A.kind=1 then out++[A]else if A.kind=6 then(match out.findIdx? (qiH A)with
 |some k=>out.eraseIdx k
 |none=>out)else out
def qYX(given)(A:Ans):opA (given++[A])=GY (opA given) A:=by
 have B:∀n∈opL given given.length,qsJ (given++[A]) n=qsJ given n:=λn h=>by
  have:=(qCM (zH _) n h).1;unfold qsJ;rw[zAc sa]
 have hm:(opL given given.length).map (qsJ (given++[A]))=opA given:=zDh B;have q:(given++[A])[given.length]?=O A:=se
 unfold opA;rw[zAx,List.length_singleton,qaD q,q2U A (zH _)]
 have C:(opL given given.length).findIdx? (qtO (given++[A]) A)=(opA given).findIdx? (qiH A):=by
  unfold opA;rw[List.findIdx?_map];refine qAJ λn h=>?_;obtain⟨E,u,D,_⟩:=qCM (zH _) n h;show(match(given++[A])[n]? with|some u=>qiH A u|none=>zb)=qiH A (qsJ given n);unfold qsJ;rw[zAc sa,D];rfl
 unfold Gg GY;rw[C];split
 .rw[zBE,hm];show opA given++[qsJ (given++[A]) given.length]=opA given++[A];unfold qsJ;rw[q];rfl
 .split
  .show List.map _ (match(opA given).findIdx? (qiH A)with|some k=>_|none=>_)=match(opA given).findIdx? (qiH A)with|some k=>_|none=>_
   cases(opA given).findIdx? (qiH A)with
   |none=>exact hm
   |some k=>show List.map _ ((opL given given.length).eraseIdx k)=(opA given).eraseIdx k;rw[qPG,hm]
  .exact hm
def q5Z{given}:∀a∈opA given,a.kind=1:=λa h=>by
 unfold opA at h;obtain⟨n,q,rfl⟩:=zU.1 h;obtain⟨_,B,u,A⟩:=qCM (zH _) n q;unfold qsJ;rw[u];exact A
def qWX{B}{w}{A}(h:AU B w A)(u:∀a∈A,a.kind=1){k}{a:Ans}(q:A[k]?=O a):GY A ⟨6,a.Ac,a.Af,a.Ak,a.slot,a.listen,0,c60⟩=A.eraseIdx k:=by
 unfold GY;rw[zj (show ¬(6:zt)=1 by decide),zk (show(6:zt)=6 from rfl)];have C:=List.pairwise_iff_getElem.1 h.Hi;obtain⟨D,E⟩:=ze.1 q;rw[qXN (p:=qiH ⟨6,a.Ac,a.Af,a.Ak,a.slot,a.listen,0,c60⟩) (k:=k) (x:=a) ?_ q (GP.2 ⟨u a (zh q),rfl,rfl,rfl,rfl,rfl⟩)];rw[zBr];intro b H hm;obtain⟨j,T,rfl⟩:=List.mem_take_iff_getElem.1 H;obtain⟨_,L,P,Q,R,_⟩:=GP.1 hm;have:=C j k sa D sa;rw[E]at this;exact this ⟨Cg.2 ⟨L.symm,P.symm,Q.symm⟩,R.symm⟩
def q9L{q:Type}:∀{l:F q}{k:Z}{a:q},l[k]?=O a->l.Perm (a::l.eraseIdx k)
 |[],_,_,h=>by simp at h
 |x::l,0,a,h=>by simp at h;subst h;exact List.Perm.refl _
 |x::l,k+1,a,h=>by
  have:=q9L (l:=l) (k:=k) (by simpa using h);exact(this.cons x).trans (List.Perm.swap ..)
structure CZ where
 AN:F Ej
 now:zt
 Bc:F BA
abbrev CZ.Aw(M:CZ):Ej:=(M.AN[M.now.toNat]?).getD ⟨[],[],[]⟩
def IX(M:CZ)(o:OpD):zt:=if Dk M.Bc o.listen then 5 else GR M.Aw o
def E4{l}{s}:Dk l s=I<->s∈l:=by
 unfold Dk;rw[zBY];exact⟨λ⟨x,q,h⟩=>by rw[<-qZM (by simpa using h:bs x=bs s)];exact q,λh=>⟨s,h,se⟩⟩
def qYb(M:CZ)(o:OpD)(a:Ans):Prop:=Hh (IX M o) a.kind/\(a.kind=1->a.Ac=M.now/\∃h,q4D M.Aw o.listen o.Bb o.path=O a.Af/\M.Aw.Ad[a.Af.toNat]?=O h/\a.Ak∈qFA h)
def qcW(M:CZ)(o:OpD)(a:Ans)(h:CZ):Prop:=
 (o.kind=1/\qYb M o a/\h=M)\/
 (o.kind=3/\((∃e i,qOA o.Ao=O (e,i)/\a.kind=9/\a.n=e/\h=M)\/(qOA o.Ao=zc/\a.kind=8/\a.Ac=M.AN.length/\h=⟨M.AN++[qiA o.Ao],M.AN.length,M.Bc⟩)))\/
 (o.kind=4/\((a.kind=10/\h=⟨M.AN,M.now,o.listen::M.Bc⟩)\/(a.kind=7/\h=M)))\/
 (o.kind≠1/\o.kind≠3/\o.kind≠4/\h=M)
def Dm:CZ->F OpD->F Ans->CZ->Prop
 |M,o::l,a::as,h=>∃q,qcW M o a q/\Dm q l as h
 |M,[],[],h=>h=M
 |_,[],_::_,_=>zX
 |_,_::_,[],_=>zX
def Dm.snoc{o}{a:Ans}{q}:∀{l:F OpD}{as:F Ans}{M u:CZ},Dm M l as u->qcW u o a q->Dm M (l++[o]) (as++[a]) q
 |[],[],_,_,h,k=>by cases h;exact⟨_,k,rfl⟩
 |_::_,_::_,_,_,⟨A,B,C⟩,k=>⟨A,B,Dm.snoc C k⟩
 |[],_::_,_,_,h,_=>h.elim
 |_::_,[],_,_,h,_=>h.elim
structure BU(N:F BA)(W:Wd)(M:CZ):Prop where
 AN:W.Ab.map (·.Aw)=M.AN
 now:W.current=M.now
 names:W.Aa.map (·.name)=N
 Bc:∀L∈W.Aa,(L.drain=I<->L.name∈M.Bc)
 known:∀n∈M.Bc,n∈N
 has:∀s∈M.AN,∀n∈s.Aa,n∈N
def qgR{l}{s}(h:0<=qlA l s):∃x,l[(qlA l s).toNat]?=O x/\x.name=s:=by
 unfold qlA at h⊢;cases q:BM (λ(x:AI)=>bs x.name==bs s) l with
 |none=>rw[q]at h;simp[Cz]at h
 |some i=>
  obtain⟨x,u,A,_⟩:=q1D q;exact⟨x,by simpa[Cz]using u,qZM (by simpa using A)⟩
def qSX{l}{s}(h:qlA l s<0):s∉l.map (·.name):=by
 unfold qlA at h;cases q:BM (λ(x:AI)=>bs x.name==bs s) l with
 |some i=>rw[q]at h;simp only[Cz]at h;omega
 |none=>
  have:=zBr.1 (C3.1 q);intro hm;obtain⟨x,u,rfl⟩:=zU.1 hm;exact this x u se
def q4a{s}{l h p}(q:l∉s.Aa):q4D s l h p=zc:=by
 unfold q4D;rw[zk]
 have:BM (λx=>bs x==bs l) s.Aa=zc:=by
  rw[C3,zBr];intro x u A;exact q (by rw[<-qZM (by simpa using A:bs x=bs l)];exact u)
 rw[this];decide
def BU.cur{N}{W}{M}(h:BU N W M)(u:wdB W=I):∃v,W.Ab[W.current.toNat]?=O v/\M.Aw=v.Aw/\v.Aw∈M.AN:=by
 obtain⟨v,q,_⟩:=qHK u;have:M.AN[M.now.toNat]?=O v.Aw:=by rw[<-h.AN,<-h.now,zAy,q];rfl
 exact⟨v,q,by show(M.AN[M.now.toNat]?).getD _=_;rw[this];rfl,zh this⟩
def BU.why{N}{W}{M}(h:BU N W M)(H:wdB W=I)(o):Hx W o=IX M o:=by
 obtain⟨v,L,e,hm⟩:=h.cur H;unfold Hx IX;by_cases A:qlA W.Aa o.listen<0
 .have C:o.listen∉N:=by rw[<-h.names];exact qSX A
  rw[zk A,zj (λq=>C (h.known _ (E4.1 q))),e,qFK (q4a λP=>C (h.has _ hm _ P))]
 .obtain⟨B,D,E⟩:=qgR (by omega:0<=qlA W.Aa o.listen);have q:=h.Bc B (zh D);rw[zj A,D,L];show(if B.drain=I then(5:zt)else GR v.Aw o)=_;by_cases u:B.drain=I
  .rw[zk u,zk (E4.2 (by rw[<-E];exact q.1 u))]
  .rw[zj u,zj (λh=>u (q.2 (by rw[E];exact E4.1 h))),e]
def BU.same{N}{W X}{M}(h:BU N W M)(k:Bx W X):BU N X M:=by
 refine⟨k.AN.trans h.AN,k.cur.trans h.now,?_,λq A=>?_,h.known,h.has⟩
 .have:=zI (List.map (·.1)) k.lis;rw[zCK,zCK]at this;exact this.trans h.names
 .have hm:(q.name,q.drain)∈W.Aa.map (λl=>(l.name,l.drain)):=by rw[<-k.lis];exact zU.2 ⟨q,A,rfl⟩
  obtain⟨u,B,e⟩:=zU.1 hm;have e1:u.name=q.name:=zI (·.1) e;have e2:u.drain=q.drain:=zI (·.2) e;rw[<-e1,<-e2];exact h.Bc u B
def BU.hand{N}{W}{M}(h:BU N W M)(q:wdB W=I){o}{a:Ans}(A:Hh (Hx W o) a.kind)(B:a.kind=1->LA W o a):qYb M o a:=by
 obtain⟨v,C,e,hm⟩:=h.cur q;refine⟨by rw[<-h.why q];exact A,λD=>?_⟩;obtain⟨E,R,H,u,L,P,Q⟩:=B D;rw[C]at u;cases u;rw[e];exact⟨E.trans h.now,H,L,P,Q⟩
def BU.swap{N}{W}{M}(h:BU N W M){c}(q:qOA c=zc)(u:∀n∈c.Aa,n∈N):BU N (Fv W c) ⟨M.AN++[qiA c],M.AN.length,M.Bc⟩:=by
 unfold Fv;rw[q];refine⟨?_,?_,h.names,h.Bc,h.known,λs hs=>?_⟩
 .show(W.Ab++[qRA (qiA c)]).map _=_;rw[zBE,h.AN];rfl
 .show(W.Ab.length:zt)=M.AN.length;rw[<-h.AN,zBa]
 .rcases zN.1 hs with hs|hs
  .exact h.has s hs
  .obtain rfl:=zA3.1 hs;exact u
def BU.drain{N}{W}{M}(h:BU N W M)(L:wdB W=I){i}{x}(u:W.Aa[i]?=O x):BU N {W with Aa:=W.Aa.set i (drL x)} ⟨M.AN,M.now,x.name::M.Bc⟩:=by
 have C:=(qNC L).2.2.2.2.2;rw[AO]at C
 have D:∀(j:Z)(y:AI),W.Aa[j]?=O y->qlA W.Aa y.name=j:=λj y P=>by
  have:=C j y P;unfold qvB at this;simp only[zl,zF]at this;exact this.2
 refine⟨h.AN,h.now,(qpO u (x':=drL x) rfl).trans h.names,λA Q=>?_,λn B=>?_,h.has⟩
 .obtain⟨j,q⟩:=zCo.1 Q;have q:(W.Aa.set i (drL x))[j]?=O A:=q;by_cases E:i=j
  .subst E;rw[qpA u]at q;cases q;exact⟨λ_=>zAH ..,λ_=>rfl⟩
  .rw[zB9 E]at q;have H:=h.Bc A (zh q)
   have R:A.name≠x.name:=λe=>by
    have T:=D j A q;have U:=D i x u;rw[e,U]at T;omega
   exact⟨λh=>zAF _ (H.1 h),λh=>H.2 ((zs.1 h).resolve_left R)⟩
 .rcases zs.1 B with rfl|B
  .rw[<-h.names];exact zU.2 ⟨x,zh u,rfl⟩
  .exact h.known n B
def BU.DE{N:F BA}{W:Wd}{M:CZ}(h:BU N W M):BU N (DE W) M:=by
 have A:=qIP W;have u:=qjN W;refine⟨?_,A.cur.trans h.now,?_,λB C=>?_,h.known,h.has⟩
 .rw[<-h.AN];apply zBU;intro i;rw[zAy,zAy];cases D:W.Ab[i]? with
  |none=>rw[zBG (by rw[u.2.2.2.1];exact zB4.1 D)]
  |some v=>
   obtain⟨E,H,_,L⟩:=A.ver i v D;rw[H];show O E.Aw=O v.Aw;rw[L]
 .rw[u.2.2.2.2.1,zCK,<-h.names];refine zDh λB _=>?_;show(qzC B).name=_;unfold qzC;split<;>rfl
 .rw[u.2.2.2.2.1]at C;obtain⟨q,P,rfl⟩:=zU.1 C;have:(qzC q).name=q.name/\(qzC q).drain=q.drain:=by unfold qzC;split<;>exact⟨rfl,rfl⟩
  rw[this.1,this.2];exact h.Bc q P
def BU.first{N}{s}{t}(q:∀n∈s.Aa,n∈N):BU N (CJ s N t) ⟨[s],0,[]⟩:=by
 refine⟨rfl,rfl,?_,λu A=>?_,λn B=>(by cases B),λx C=>?_⟩
 .show(CK N).map _=N;unfold CK;rw[zCK];exact List.map_id' _
 .obtain⟨n,_,rfl⟩:=zU.1 (show u∈N.map _ from A);exact⟨λh=>(by cases h),λh=>(by cases h)⟩
 .obtain rfl:=zA3.1 C;exact q
def q1U{p:Prop}[Decidable p]{a b:Ah}{o}(h:a.op=o)(q:b.op=o):(if p then a else b).op=o:=by split<;>assumption
def Lp{w}{m:Ah}:(cM w m).op=m.op:=by
 have h:∀m:Ah,(cdM w m).op=m.op:=λm=>q1U rfl (q1U rfl rfl);unfold cM
 repeat' apply q1U
 all_goals first|rfl|exact h _
def qVd{w}{m:Ah}:(fsM w m).op=m.op:=by
 unfold fsM fM
 repeat' split
 all_goals rfl
def q8R{w}{m:Ah}(o):fsW w {m with op:=o}=fsW w m/\fsM w {m with op:=o}={fsM w m with op:=o}:=by
 have hs:qzA w {m with op:=o}=qzA w m:=by
  rw[zCf,Am,Am];exact⟨λ⟨v,u,A,h⟩=>⟨v,u,A,h.right,h.Al,h.done,h.ver,h.clu,h.Ak,h.other,h.slot,h.listen,h.i,h.k⟩,λ⟨v,u,A,h⟩=>⟨v,u,A,h.right,h.Al,h.done,h.ver,h.clu,h.Ak,h.other,h.slot,h.listen,h.i,h.k⟩⟩
 have q:fGo w {m with op:=o}=fGo w m:=by unfold fGo;rw[hs]
 refine⟨?_,?_⟩
 .unfold fsW;by_cases h:fGo w m
  .rw[zk h,zk (q▸h)];rfl
  .rw[zj h,zj (q▸h)]
 .unfold fsM;by_cases h:fGo w m
  .rw[zk h,zk (q▸h)];by_cases B:m.pc=0
   .rw[(fa0 B).2.1];exact(fa0 (m:={m with op:=o}) B).2.1
   by_cases C:m.pc=1
   .rw[(fa1 C).2.1];exact(fa1 (m:={m with op:=o}) C).2.1
   by_cases D:m.pc=2
   .rw[(fa2 D).2.1];exact(fa2 (m:={m with op:=o}) D).2.1
   by_cases E:m.pc=3
   .rw[(fa3 E).2.1];exact(fa3 (m:={m with op:=o}) E).2.1
   .simp[fM,B,C,D,E,Ih]
  .rw[zj h,zj (q▸h)]
def BS.other(o):∀{k:Z}{w:Wd}{m:Ah}{x:Wd}{n:Ah},BS k w m x n->BS k w {m with op:=o} x {n with op:=o}
 |0,_,_,_,_,⟨h,q⟩=>⟨h,by rw[q]⟩
 |_+1,_,_,_,_,⟨h,q⟩=>⟨h,by rw[(q8R o).1,(q8R o).2];exact BS.other o q⟩
def BS.stuck{w}{m:Ah}(q:¬fGo w m):∀{k:Z}{x:Wd}{n:Ah},BS k w m x n->n=m
 |0,_,_,⟨_,h⟩=>h
 |_+1,_,_,⟨_,h⟩=>by rw[(q1a q).1,(q1a q).2.1]at h;exact BS.stuck q h
def qZd{w}{m:Ah}:(fE w m).access≠0:=by
 unfold fE
 repeat' split
 all_goals simp[evO,evV]
def qgZ{w}{m:Ah}(h:En w m):(swE w m).access≠0:=by
 unfold swE;rw[zk h]
 repeat' split
 all_goals simp
def qvN{n}:∀{l out:F BA},n∈Bv out l<->n∈out\/n∈l
 |[],out=>by simp[Bv]
 |x::r,out=>by
  show n∈Bv (if Dk out x then out else out++[x]) r<->_;rw[qvN (l:=r),zs];split
  .rename_i h;have:=E4.1 h;exact⟨λh=>h.elim .inl λh=>.inr (.inr h),λh=>h.elim .inl λh=>h.elim (λe=>.inl (e▸this)) .inr⟩
  .rw[zN,zA3];exact⟨λh=>h.elim (λh=>h.elim .inl λh=>.inr (.inl h)) λh=>.inr (.inr h),λh=>h.elim (λh=>.inl (.inl h)) λh=>h.elim (λh=>.inl (.inr h)) .inr⟩
def qkR{n}:∀{l:F OpD}{out:F BA},n∈l.foldl opN out<->n∈out\/∃o∈l,(o.kind=3/\qOA o.Ao=zc)/\n∈o.Ao.Aa
 |[],out=>se
 |o::r,out=>by
  rw[zCC,qkR (l:=r)];unfold opN;split
  .rename_i A;rw[qvN];constructor
   .rintro((h|h)|⟨u,q,h⟩)
    .exact .inl h
    .exact .inr ⟨o,zAH ..,A,h⟩
    .exact .inr ⟨u,zAF _ q,h⟩
   .rintro(h|⟨u,q,h⟩)
    .exact .inl (.inl h)
    .rcases zs.1 q with rfl|q
     .exact .inl (.inr h.2)
     .exact .inr ⟨u,q,h⟩
  .rename_i A;constructor
   .rintro(h|⟨u,q,h⟩)
    .exact .inl h
    .exact .inr ⟨u,zAF _ q,h⟩
   .rintro(h|⟨u,q,h⟩)
    .exact .inl h
    .rcases zs.1 q with rfl|q
     .exact absurd h.1 A
     .exact .inr ⟨u,q,h⟩
def qzU:∀{l:F OpD}{out:F BA},Uq out->Uq (l.foldl opN out)
 |[],_,h=>h
 |o::r,out,h=>by
  rw[zCC];refine qzU ?_;unfold opN;split
  .exact qYW h
  .exact h
abbrev GH(c:Bn)(l:F OpD):F9:=⟨c,[l],[]⟩
def FA{c}{l}{n}:n∈quE (GH c l)<->n∈c.Aa\/∃o∈l,(o.kind=3/\qOA o.Ao=zc)/\n∈o.Ao.Aa:=by
 show n∈l.foldl opN (Bv [] c.Aa)<->_;rw[qkR,qvN];simp
def qGT{c}{l}(h:qOA c=zc):(quE (GH c l)).length<=4+4*l.length:=by
 have u:=qIN (out:=Bv [] c.Aa) (l:=l);have q:=qqI (out:=[]) (l:=c.Aa);have A:=(AZ.1 h).size.1.2;simp only[zCq]at q;show(l.foldl opN (Bv [] c.Aa)).length<=_;omega
def qHM{c}{l}(h:qOA c=zc):qyH (qLB c) (quE (GH c l)) 1:=by
 have B:qLB c=qiA c:=by unfold qLB;rw[h]
 refine⟨by rw[B,qFJ (AZ.1 h)];exact h,⟨sb,sb⟩,?_⟩;rw[AO];intro i n A;have hm:=FA.1 (zh A);unfold Fa;rw[zl,zF];refine⟨?_,?_⟩
 .rcases hm with q|⟨o,_,⟨_,C⟩,q⟩
  .exact(AZ.1 h).ln n q
  .exact(AZ.1 C).ln n q
 .have D:Uq (quE (GH c l)):=qzU (qYW λi j x y _ u _=>by simp at u);unfold qlA
  have:BM (λ(x:AI)=>bs x.name==bs n) (CK ((quE (GH c l)).take i))=zc:=by
   rw[C3,zBr];intro x u;obtain⟨y,E,rfl⟩:=zU.1 (show x∈List.map _ _ from u);obtain⟨j,H,rfl⟩:=List.mem_take_iff_getElem.1 E;have:=D j i _ n sa (zAa sa) A;simpa using this
  rw[this];exact(by decide:(-1:zt)<0)
def qBZ{a b}(h:a≠b):C2 a b=zb:=by
 cases q:C2 a b with
 |true=>exact absurd (BQ.1 q) h
 |false=>rfl
def qyO{k}{v}:∀{es:F (Ky×zg)},B5 k (CB k v es)=O v
 |[]=>by simp[CB,B5,BQ.2 rfl]
 |(m,q)::r=>by
  cases h:C2 k m with
  |true=>simp[CB,B5,h,BQ.2 rfl]
  |false=>simp[CB,B5,h,qyO (es:=r)]
def qcV{n k}{v}(h:n≠k):∀{es:F (Ky×zg)},B5 n (CB k v es)=B5 n es
 |[]=>by simp[CB,B5,qBZ h]
 |(m,A)::r=>by
  cases q:C2 k m with
  |true=>
   obtain rfl:=BQ.1 q;simp[CB,B5,q,qBZ h]
  |false=>
   simp only[CB,q];cases u:C2 n m with
   |true=>simp[B5,u]
   |false=>simp[B5,u,qcV h (es:=r)]
def Hw(es:F (Ky×zg))(l:F BA):Prop:=∀s,B5 (.s s) es=if Dk l s then O (.bool I)else zc
def Hw.nil:Hw [] []:=λ_=>rfl
def Hw.add{es}{l}(h:Hw es l)(s):Hw (CB (.s s) (.bool I) es) (s::l):=λt=>by
 have q:Dk (s::l) t=I<->t∈s::l:=E4;have u:Dk l t=I<->t∈l:=E4;rw[zs]at q;by_cases e:t=s
 .subst e;rw[qyO,zk (q.2 (.inl rfl))]
 .rw[qcV (λh=>e (by injection h)),h t];by_cases m:t∈l
  .rw[zk (u.2 m),zk (q.2 (.inr m))]
  .rw[zj (λh=>m (u.1 h)),zj (λh=>(q.1 h).elim e m)]
end Go.Proofs.YtlmhpamhhgogaaaGreat.Sx
