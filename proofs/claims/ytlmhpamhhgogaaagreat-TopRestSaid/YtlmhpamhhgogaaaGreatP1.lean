import Derived.Test.YtlmhpamhhgogaaaGreatP0
set_option linter.all false
set_option maxHeartbeats 16000000
set_option maxRecDepth 100000
open Bool renaming false→zb,true→I
open Go renaming Value→zg
open Go.IntKind renaming i64→zAf,wrap_i64→zBB
open Go.Value renaming int→zD
open List renaming replicate→zA5,range→zBf
open Option renaming some→O,none→zc
open _root_ renaming List→F,Nat→Z,Int→zn,Option→zs,Bool→zM
namespace Go.Proofs.YtlmhpamhhgogaaaGreat.Sx
def qKY{w}(h:wdB w=I){c}(D:qTA c=zc):wdB (qxK w c)=I:=by
 obtain⟨E,⟨P,Q⟩,H,u,C,L⟩:=q0B h;rw[zAh]at u;refine qoP ⟨E,⟨by show(0:zn)<=(w.Ab.length:zn);omega,by show(w.Ab.length:zn)<((w.Ab++[qjC (qGC c)]).length:zn);simp;omega⟩,H,?_,?_,L⟩
 .rw[zAh];intro r A;have:=u r A;unfold C2 at this⊢;simp only[zj,zx]at this⊢;refine⟨⟨by show r.Ac<((w.Ab++[qjC (qGC c)]).length:zn);simp;omega,by show r.Ac≠(w.Ab.length:zn);omega⟩,this.2⟩
 .rw[AK]at C⊢;intro i x q;have q:(w.Ab++[qjC (qGC c)])[i]?=O x:=q;rcases zAL i w.Ab.length with B|B
  .rw[zAc B]at q;exact C i x q
  .rw[zA4 B]at q
   have M:i=w.Ab.length:=by
    rcases zAL (i-w.Ab.length) 1 with h|h
    .omega
    .rw[zBQ (by simpa using h)]at q;cases q
   subst M;simp at q;subst q;unfold De;rw[qKK (qFH D)]
   have:qIE w.Ai (w.Ab.length:zn)=zb:=by
    unfold qIE;rw[zBK];intro r A;have:=u r A;unfold C2 at this;simp only[zj,zx]at this;have:(r.Ac==(w.Ab.length:zn))=zb:=by simpa using(show r.Ac≠(w.Ab.length:zn) by omega)
    rw[this];simp
   show(I&&((qjC (qGC c)).AV==qIE w.Ai (w.Ab.length:zn)))=I;rw[this];rfl
def qlV{w}(h:wdB w=I){v e:zn}(C:0<=v/\v<w.Ab.length)(hc:v≠w.current)(D:0<=e/\e<=w.Al)(L:w.Ai.any (λr=>r.Ac==v)=zb):wdB {w with Ai:=w.Ai++[⟨v,e,zb⟩]}=I:=by
 obtain⟨M,⟨P,Q⟩,A,E,H,R⟩:=q0B h;rw[zAh]at E;refine qoP ⟨M,⟨P,Q⟩,?_,?_,?_,R⟩
 .unfold q7D at A⊢;rw[AK]at A⊢;intro i x q;have q:(w.Ai++[⟨v,e,zb⟩])[i]?=O x:=q;rcases zAL i w.Ai.length with B|B
  .rw[zAc B]at q;have:=A i x q;unfold F2 at this⊢;rw[zBV sa];exact this
  .rw[zA4 B]at q
   have T:i=w.Ai.length:=by
    rcases zAL (i-w.Ai.length) 1 with h|h
    .omega
    .rw[zBQ (by simpa using h)]at q;cases q
   subst T;simp at q;subst q;unfold F2;rw[show(w.Ai++[(⟨v,e,zb⟩:Ba)]).take w.Ai.length=w.Ai by simp];simp only[zj,zx,zC6];exact⟨⟨C.1,D.1⟩,L⟩
 .rw[zAh];intro r u;have u:r∈w.Ai++[⟨v,e,zb⟩]:=u;rw[zL]at u;rcases u with u|u
  .exact E r u
  .simp at u;subst u;unfold C2;simp only[zj,zx];exact⟨⟨C.2,hc⟩,D.2⟩
 .rw[AK]at H⊢;intro i x q;have:=H i x q;unfold De at this⊢
  have U:qIE (w.Ai++[⟨v,e,zb⟩]) i=qIE w.Ai i:=by
   unfold qIE;rw[zDZ];simp
  show(qNB x&&(x.AV==qIE (w.Ai++[⟨v,e,zb⟩]) i))=I;rw[U];exact this

end Go.Proofs.YtlmhpamhhgogaaaGreat.Sx
namespace Go.Proofs.YtlmhpamhhgogaaaGreat.Sx
open Go.RowKit
instance(w:Wd)(m:Aj):Decidable (Ez w m):=by unfold Ez;infer_instance
def EC.right:∀{k:Z}{w:Wd}{m:Aj}{w':Wd}{m':Aj},EC k w m w' m'->wdB w=I->wdB w'=I
 |0,_,_,_,_,⟨q,_⟩,h=>by rw[q];exact h
 |_+1,_,_,_,_,⟨_,u,A⟩,h=>EC.right A (qRK (K:=0) u).2
end Go.Proofs.YtlmhpamhhgogaaaGreat.Sx
namespace Go.Proofs.YtlmhpamhhgogaaaGreat.Sx
def qbc{w}{m:Aj}(h:cGo w m):(cE w m).access≠0:=by
 have q:(cdE w m).access≠0/\(cdE w {m with i:=0,pc:=8}).access≠0:=by
  unfold cdE;constructor<;>(split<;>simp[evO])
 have u:=h.2.2;unfold cE
 repeat' split
 all_goals(first|exact q.1|exact q.2|simp[evO,evV])
structure AtC(w:Wd)(m:Aj)(pc i e n:zn):Prop where
 AZ:qXB w m=I
 done:m.done=zb
 pc:m.pc=pc
 i:m.i=i
 ep:m.Al=e
 n:m.answer.n=n
section
variable{w:Wd}{m:Aj}{pc i e n:zn}
def AtC.step(h:AtC w m pc i e n)(u:Ez w m)(hp:0<=pc/\pc<=10/\pc≠7)(A:pc=5->i<9223372036854775807)(hd:(cM w m).done=zb):EC 1 w m (cW w m) (cM w m)/\qXB (cW w m) (cM w m)=I:=by
 have q:cGo w m:=⟨h.AZ,u,by rw[h.pc];exact hp⟩;exact⟨⟨h.done,q,rfl,rfl⟩,qDV q (by rw[h.pc,h.i];exact A) hd⟩
def qSF(h:m.pc=pc)(h2:pc=2->m.i<w.pins.length)(q:pc=5->m.k<(qOB (mV w m)).length)(u:pc=6->m.i<w.Ai.length/\(lbR w m).Ac=m.Ac/\(lbR w m).gone=zb)(A:pc=9->m.i<w.Aa.length)(B:pc=10->m.i<w.Aa.length/\(lsL w m).drain=I):Ez w m:=by
 subst h;exact⟨h2,q,u,A,B⟩
end
def Iy(l:F zn)(e:zn):zM:=l.all λp=>decide (p=0)||decide (p=e+1)
def upW(w:Wd)(b:zM):Wd:=if b then{w with Al:=w.Al+1}else w
def upI(e:zn)(b:zM):zn:=if b then e+1 else e
def qsE{x}(h:-1000000000000000<=x/\x<=1000000000000000):wI x=x:=by
 show zAf.wrap x=x;rw[zBB];omega
def qJP{q:Type}{l:F q}{i:Z}{x:q}(h:l[i]?=O x):l.drop i=x::l.drop (i+1):=by
 have u:=(zd.1 h);rw[zCR u.1,u.2]
def qLQ{e n}(L:0<=e/\e<1000000000000):∀(d:Z){i:Z}{w:Wd}{m:Aj},w.Al=e->AtC w m 2 i e n->i+d+1=w.pins.length->∃(k:Z)(m':Aj),k<=d+2/\EC k w m (upW w (Iy (w.pins.drop i) e)) m'/\AtC (upW w (Iy (w.pins.drop i) e)) m' 4 0 (upI e (Iy (w.pins.drop i) e)) n
 |d,i,w,m,q,h,A=>by
  obtain⟨p,M⟩:=qBA (l:=w.pins) (i:=i) sa;have Q:pnI w m=p:=qgX (by rw[h.i];exact M);have B:Ez w m:=qSF h.pc (λ_=>by rw[h.i];omega) (λh=>absurd h sb) (λh=>absurd h sb) (λh=>absurd h sb) (λh=>absurd h sb);obtain⟨c1,c2,_⟩:=cb2 (w:=w) h.pc;have R:wI (m.Al+1)=e+1:=by rw[h.ep];exact qsE sa
  have C:Iy (w.pins.drop i) e=((decide (p=0)||decide (p=e+1))&&Iy (w.pins.drop (i+1)) e):=by rw[qJP M];rfl
  rw[Q,R]at c2;by_cases u:p≠0/\p≠e+1
  .rw[zk u]at c2;have T:Iy (w.pins.drop i) e=zb:=by rw[C,zE u.1,zE u.2];rfl
   have hs:=h.step B sb (λh=>absurd h sb) (by rw[c2];exact h.done);rw[c1,c2]at hs;rw[T];exact⟨1,_,sa,hs.1,hs.2,h.done,rfl,rfl,h.ep,h.n⟩
  .rw[zh u]at c2
   have U:(decide (p=0)||decide (p=e+1))=I:=by
    simp only[zCX,zx];omega
   rw[U,zCE]at C;rw[C]
   match d,A with
   |0,A=>
    rw[zh (by rw[h.i];omega)]at c2;have hs:=h.step B sb (λh=>absurd h sb) (by rw[c2];exact h.done);rw[c1,c2]at hs;have V:w.pins.drop (i+1)=[]:=zC9 sa;rw[V];have D:AtC w {m with pc:=3,i:=m.i+1} 3 (m.i+1) e n:=⟨hs.2,h.done,rfl,rfl,h.ep,h.n⟩;obtain⟨P,E,_⟩:=cb3 (w:=w) D.pc;have W:upE w {m with pc:=3,i:=m.i+1}:=⟨by show w.Al=m.Al;rw[q,h.ep],by rw[q];exact L.2⟩;rw[zk W]at P E;have H:=D.step (qSF D.pc (λh=>absurd h sb) (λh=>absurd h sb) (λh=>absurd h sb) (λh=>absurd h sb) (λh=>absurd h sb)) sb (λh=>absurd h sb) (by rw[E];exact h.done);rw[P,E]at H;exact⟨1+1,_,sa,hs.1.trans H.1,H.2,h.done,rfl,rfl,by show w.Al+1=e+1;rw[q],h.n⟩
   |d+1,A=>
    rw[zk (by rw[h.i];omega)]at c2;have hs:=h.step B sb (λh=>absurd h sb) (by rw[c2];exact h.done);rw[c1,c2]at hs;obtain⟨k,m',ab,Y,aa⟩:=qLQ L d (i:=i+1) (m:={m with i:=m.i+1}) q ⟨hs.2,h.done,h.pc,by show m.i+1=_;rw[h.i];omega,h.ep,h.n⟩ sa;exact⟨1+k,m',sa,hs.1.trans Y,aa⟩
def q9O(v:AL):zM:=(qOB v).all λe=>decide (e.Ah=0)
def qJJ{w}{i}{v}(h:I7 w i v):1<=(qOB v).length/\(qOB v).length<=16:=by
 have H:=h.Am
 have B:∀l:F Bm,(∀x∈l,1<=x.ends.length/\x.ends.length<=4)->l.length<=(l.flatMap λg=>g.ends).length/\(l.flatMap λg=>g.ends).length<=4*l.length:=by
  intro l
  induction l with
  |nil=>intro _;exact⟨zG _,zG _⟩
  |cons x r C=>
   intro q;have u:=q x sd;have A:=C λy D=>q y (by simp[D]);rw[zB5,zAq,zBb];omega
 have:=B v.Am λx q=>by
  obtain⟨j,E⟩:=zT.1 q;obtain⟨_,_,_,u,A,_⟩:=h.ends E;exact⟨u,A⟩
 unfold qOB;omega
def qaV{e n:zn}{i:Z}(H:i<1000000){v}:∀(d:Z){k:Z}{w:Wd}{m:Aj},AtC w m 5 i e n->mV w m=v->m.k=k->k+d+1=(qOB v).length->∃(K:Z)(m':Aj),K<=d+1/\EC K w m w m'/\(((qOB v).drop k).all (λe=>decide (e.Ah=0))=I->AtC w m' 6 i e n/\m'.Ac=m.Ac)/\(((qOB v).drop k).all (λe=>decide (e.Ah=0))=zb->AtC w m' 4 (i+1) e n)
 |d,k,w,m,h,u,q,A=>by
  obtain⟨x,D⟩:=qBA (l:=qOB v) (i:=k) sa;have L:kE w m=x:=qCc (by rw[u,q];exact D);have B:Ez w m:=qSF h.pc (λh=>absurd h sb) (λ_=>by rw[u,q];omega) (λh=>absurd h sb) (λh=>absurd h sb) (λh=>absurd h sb);obtain⟨c1,c2,_⟩:=cb5 (w:=w) h.pc;rw[L,u]at c2;have E:((qOB v).drop k).all (λe=>decide (e.Ah=0))=(decide (x.Ah=0)&&((qOB v).drop (k+1)).all (λe=>decide (e.Ah=0))):=by rw[qJP D];rfl
  by_cases C:x.Ah≠0
  .rw[zk C]at c2;have hs:=h.step B sb (λ_=>sa) (by rw[c2];exact h.done);rw[c1,c2]at hs;rw[E,zE C];exact⟨1,_,sa,hs.1,λh=>by simp at h,λ_=>⟨hs.2,h.done,rfl,by show wI (m.i+1)=_;rw[h.i];exact qsE sa,h.ep,h.n⟩⟩
  .rw[zh C]at c2;have M:x.Ah=0:=sa
   rw[E,zC M,zCE]
   match d,A with
   |0,A=>
    rw[zh (by rw[q];omega)]at c2;have hs:=h.step B sb (λ_=>sa) (by rw[c2];exact h.done);rw[c1,c2]at hs;have P:(qOB v).drop (k+1)=[]:=zC9 sa;rw[P];exact⟨1,_,sa,hs.1,λ_=>⟨⟨hs.2,h.done,rfl,h.i,h.ep,h.n⟩,rfl⟩,λh=>by simp at h⟩
   |d+1,A=>
    rw[zk (by rw[q];omega)]at c2;have hs:=h.step B sb (λ_=>sa) (by rw[c2];exact h.done);rw[c1,c2]at hs;obtain⟨K,m',U,Q,R,T⟩:=qaV H d (k:=k+1) (m:={m with k:=m.k+1}) ⟨hs.2,h.done,h.pc,h.i,h.ep,h.n⟩ u (by show m.k+1=_;rw[q];omega) sa;exact⟨1+K,m',sa,hs.1.trans Q,R,T⟩
def Dh(e:zn)(w:Wd)(i:Z):zM:=match w.Ai[i]? with
 |some r=>match w.Ab[r.Ac.toNat]? with
  |some v=>!r.gone&&(decide (qTH r.at_ e)&&q9O v)
  |none=>zb
 |none=>zb
def qyF(w:Wd)(i:Z):Wd:=match w.Ai[i]? with
 |some r=>match w.Ab[r.Ac.toNat]? with
  |some v=>{w with Ab:=w.Ab.set r.Ac.toNat {v with AV:=I},Ai:=w.Ai.set i {r with gone:=I}}
  |none=>w
 |none=>w
def qFC(e:zn)(w:Wd)(i:Z):Wd:=if Dh e w i then qyF w i else w
def CL(e:zn)(w:Wd):Z->Wd
 |0=>w
 |j+1=>qFC e (CL e w j) j
def Kb(e:zn)(w:Wd):Z->Z
 |0=>0
 |j+1=>Kb e w j+if Dh e (CL e w j) j then 1 else 0
def q0O{w}(B:wdB w=I){i:Z}{r}(h:w.Ai[i]?=O r):∃v,w.Ab[r.Ac.toNat]?=O v/\0<=r.Ac/\0<=r.at_/\r.at_<=w.Al/\r.Ac≠w.current:=by
 obtain⟨_,_,A,C,_⟩:=q0B B;unfold q7D at A;rw[AK]at A;have q:=A _ r h;unfold F2 at q;simp only[zj,zx]at q;have u:=(zAh.1 C) r (zl h);unfold C2 at u;simp only[zj,zx]at u;obtain⟨D,E⟩:=qBA (l:=w.Ab) (i:=r.Ac.toNat) sa;exact⟨D,E,q.1.1,q.1.2,u.2,u.1.2⟩
def AtC.right{w}{m:Aj}{pc i e n}(h:AtC w m pc i e n):wdB w=I:=by
 obtain⟨_,_,_,q⟩:=Ar.1 h.AZ;exact q.right
def qfZ{e n:zn}{i:Z}(ad:i<1000000)(al:0<=n/\n<1000000){w}{m:Aj}(h:AtC w m 4 i e n)(hl:i<w.Ai.length):∃(K:Z)(m':Aj),K<=18/\EC K w m (qFC e w i) m'/\AtC (qFC e w i) m' 4 (i+1) e (n+if Dh e w i then 1 else 0):=by
 obtain⟨r,E⟩:=qBA (l:=w.Ai) (i:=i) hl;have R:=h.right;obtain⟨B,H,an,_⟩:=q0O R E;have A:Dh e w i=(!r.gone&&(decide (qTH r.at_ e)&&q9O B)):=by unfold Dh;rw[E];simp only;rw[H]
 have ae:lbR w m=r:=qnD (by rw[h.i];exact E);have T:Ez w m:=qSF h.pc (λh=>absurd h sb) (λh=>absurd h sb) (λh=>absurd h sb) (λh=>absurd h sb) (λh=>absurd h sb);obtain⟨c1,c2,_⟩:=cb4 (w:=w) h.pc;rw[zh (by rw[h.i];omega)]at c1 c2;rw[ae]at c2;by_cases q:r.gone=I\/¬qTH r.at_ m.Al
 .rw[zk q]at c2;rw[h.ep]at q;have hs:=h.step T sb (λh=>absurd h sb) (by rw[c2];exact h.done);rw[c1,c2]at hs
  have U:Dh e w i=zb:=by
   rw[A];rcases q with q|q
   .rw[q];rfl
   .rw[zE q];simp
  have L:qFC e w i=w:=by unfold qFC;rw[U];rfl
  rw[L,U];exact⟨1,_,sa,hs.1,hs.2,h.done,h.pc,by show m.i+1=_;rw[h.i],h.ep,by show m.answer.n=_;rw[h.n];simp⟩
 .rw[zh q]at c2;rw[h.ep]at q
  have V:r.gone=zb:=by cases af:r.gone with
   |false=>rfl
   |true=>exact absurd (.inl af) q
  have ag:qTH r.at_ e:=zA3 λk=>q (.inr k);have hs:=h.step T sb (λh=>absurd h sb) (by rw[c2];exact h.done);rw[c1,c2]at hs;rw[V,zC ag]at A;simp only[Bool.not_false,zCE]at A;have ah:AtC w {m with Ac:=r.Ac,Ak:=0,An:=0,other:=0,slot:=0,k:=0,pc:=5} 5 i e n:=⟨hs.2,h.done,rfl,h.i,h.ep,h.n⟩;have ao:=qJJ (qkB R H);have ai:mV w {m with Ac:=r.Ac,Ak:=0,An:=0,other:=0,slot:=0,k:=0,pc:=5}=B:=by unfold mV;show(w.Ab[r.Ac.toNat]?).getD _=B;rw[H];rfl
  obtain⟨K,m',ap,W,Y,aa⟩:=qaV ad ((qOB B).length-1) (k:=0) ah ai rfl sa;rw[zC4]at Y aa;by_cases C:q9O B=I
  .obtain⟨u,M⟩:=Y C;have M:m'.Ac=r.Ac:=M;have P:lbR w m'=r:=qnD (by rw[u.i];exact E);have aj:mV w m'=B:=by unfold mV;rw[M,H];rfl
   obtain⟨ab,ac,_⟩:=cb6 (w:=w) u.pc;rw[aj,P,M,u.i]at ab;have Q:=u.step (qSF u.pc (λh=>absurd h sb) (λh=>absurd h sb) (λ_=>⟨by rw[u.i];omega,by rw[P,M],by rw[P];exact V⟩) (λh=>absurd h sb) (λh=>absurd h sb)) sb (λh=>absurd h sb) (by rw[ac];exact u.done);rw[ab,ac]at Q;rw[C]at A;have ak:qyF w i={w with Ab:=w.Ab.set r.Ac.toNat {B with AV:=I},Ai:=w.Ai.set (i:zn).toNat {r with gone:=I}}:=by unfold qyF;rw[E];simp only;rw[H];rfl
   have L:qFC e w i=qyF w i:=by unfold qFC;rw[A];rfl
   rw[L,ak,A];exact⟨1+K+1,_,sa,(hs.1.trans W).trans Q.1,Q.2,u.done,rfl,by show m'.i+1=_;rw[u.i],u.ep,by show wI (m'.answer.n+1)=_;rw[u.n,qsE sa];rfl⟩
  .have C:q9O B=zb:=by simpa using C
   have D:=aa C;rw[C]at A;have L:qFC e w i=w:=by unfold qFC;rw[A];rfl
   rw[L,A];exact⟨1+K,_,sa,hs.1.trans W,D.AZ,D.done,D.pc,D.i,D.ep,by rw[D.n];simp⟩
def qEP(w)(i):(qyF w i).Al=w.Al/\(qyF w i).current=w.current/\(qyF w i).AH=w.AH/\(qyF w i).pins=w.pins/\(qyF w i).Aa=w.Aa/\(qyF w i).counts=w.counts/\(qyF w i).Ai.length=w.Ai.length/\(qyF w i).Ab.length=w.Ab.length:=by
 unfold qyF;split
 .split
  .refine⟨rfl,rfl,rfl,rfl,rfl,rfl,?_,?_⟩
   .show(w.Ai.set _ _).length=_;rw[zX]
   .show(w.Ab.set _ _).length=_;rw[zX]
  .exact⟨rfl,rfl,rfl,rfl,rfl,rfl,rfl,rfl⟩
 .exact⟨rfl,rfl,rfl,rfl,rfl,rfl,rfl,rfl⟩
def qyM(e)(w)(i):(qFC e w i).Al=w.Al/\(qFC e w i).current=w.current/\(qFC e w i).AH=w.AH/\(qFC e w i).pins=w.pins/\(qFC e w i).Aa=w.Aa/\(qFC e w i).counts=w.counts/\(qFC e w i).Ai.length=w.Ai.length/\(qFC e w i).Ab.length=w.Ab.length:=by
 unfold qFC;split
 .exact qEP w i
 .exact⟨rfl,rfl,rfl,rfl,rfl,rfl,rfl,rfl⟩
def qWE(e)(w):∀j,(CL e w j).Al=w.Al/\(CL e w j).current=w.current/\(CL e w j).AH=w.AH/\(CL e w j).pins=w.pins/\(CL e w j).Aa=w.Aa/\(CL e w j).counts=w.counts/\(CL e w j).Ai.length=w.Ai.length/\(CL e w j).Ab.length=w.Ab.length
 |0=>⟨rfl,rfl,rfl,rfl,rfl,rfl,rfl,rfl⟩
 |j+1=>by
  obtain⟨h,q,u,A,B,C,D,E⟩:=qWE e w j;obtain⟨b1,H,L,M,P,Q,R,T⟩:=qyM e (CL e w j) j;exact⟨b1.trans h,H.trans q,L.trans u,M.trans A,P.trans B,Q.trans C,R.trans D,T.trans E⟩
def qxU(e)(w):∀j,Kb e w j<=j
 |0=>zG _
 |j+1=>by
  have:=qxU e w j;unfold Kb;split<;>omega
def qVN{e}:∀(j:Z){w:Wd}{m:Aj},AtC w m 4 0 e 0->j<=w.Ai.length->w.Ai.length<1000->∃(K:Z)(m':Aj),K<=18*j/\EC K w m (CL e w j) m'/\AtC (CL e w j) m' 4 j e (Kb e w j)
 |0,w,m,q,_,_=>⟨0,m,zG _,⟨rfl,rfl⟩,q⟩
 |j+1,w,m,q,E,u=>by
  obtain⟨K,H,L,A,B⟩:=qVN j q sa u;obtain⟨_,_,_,_,_,_,M,_⟩:=qWE e w j;have P:=qxU e w j;obtain⟨K2,C,Q,D,h⟩:=qfZ (i:=j) sa sa B sa;refine⟨K+K2,C,sa,A.trans D,h.AZ,h.done,h.pc,h.i,h.ep,?_⟩;rw[h.n];show _=((Kb e w j+(if Dh e (CL e w j) j=I then 1 else 0):Z):zn);split<;>simp
def qDD(x:AY):AY:=if x.drain=I/\x.Ah=0/\x.closed=zb then{x with closed:=I}else x
def I2(i:Z)(l:F AY):F AY:=l.take i++(l.drop i).map qDD
def qIK{l}{i}{x}(h:l[i]?=O x):I2 i l=I2 (i+1) (l.set i (qDD x)):=by
 have q:=(zd.1 h).1;unfold I2;rw[qJP h,zBP,zDl sa,zDA,zAF,List.take_set,List.set_eq_of_length_le sf];simp[q]
def qJX{l}{i}(h:l.length<=i):I2 i l=l:=by
 unfold I2;rw[zAw h,zC9 h];simp
def quH{e n}:∀(d:Z){i:Z}{w:Wd}{m:Aj},AtC w m 8 i e n->i+d=w.Aa.length->∃(K:Z)(m':Aj),1<=K/\K<=3*d+1/\EC K w m {w with Aa:=I2 i w.Aa,AH:=0} m'/\m'.done=I/\m'.answer=⟨11,0,0,0,0,0,n,c60⟩
 |0,i,w,m,h,ac=>by
  have P:Ez w m:=qSF h.pc (λh=>absurd h sb) (λh=>absurd h sb) (λh=>absurd h sb) (λh=>absurd h sb) (λh=>absurd h sb);have ad:cGo w m:=⟨h.AZ,P,by rw[h.pc];decide⟩;obtain⟨c1,c2,_⟩:=cb8 (w:=w) h.pc;unfold cdW at c1;unfold cdM at c2;rw[zk (by rw[h.i];omega)]at c1 c2;rw[qJX sa];refine⟨1,_,zG _,zG _,⟨h.done,ad,c1.symm,c2.symm⟩,rfl,?_⟩;show(⟨11,0,0,0,0,0,m.answer.n,c60⟩:Ans)=_;rw[h.n]
 |d+1,i,w,m,h,ac=>by
  obtain⟨x,q⟩:=qBA (l:=w.Aa) (i:=i) sa;have P:Ez w m:=qSF h.pc (λh=>absurd h sb) (λh=>absurd h sb) (λh=>absurd h sb) (λh=>absurd h sb) (λh=>absurd h sb);obtain⟨c1,c2,_⟩:=cb8 (w:=w) h.pc;unfold cdW at c1;unfold cdM at c2;rw[zh (by rw[h.i];omega)]at c1 c2;rw[qcE (r:=x) (by rw[h.i];exact q)]at c2;by_cases B:x.drain=I/\x.closed=zb
  .rw[zk B]at c2;have hs:=h.step P sb (λh=>absurd h sb) (by rw[c2];exact h.done);rw[c1,c2]at hs;have C:AtC w {m with pc:=9} 9 i e n:=⟨hs.2,h.done,rfl,h.i,h.ep,h.n⟩;obtain⟨T,u,_⟩:=cb9 (w:=w) C.pc;rw[qcE (r:=x) (by rw[C.i];exact q)]at u;have U:Ez w {m with pc:=9}:=qSF C.pc (λh=>absurd h sb) (λh=>absurd h sb) (λh=>absurd h sb) (λ_=>by rw[C.i];omega) (λh=>absurd h sb);by_cases Q:x.Ah=0
   .rw[zk Q]at u;have A:=C.step U sb (λh=>absurd h sb) (by rw[u];exact h.done);rw[T,u]at A;have D:AtC w {m with pc:=10} 10 i e n:=⟨A.2,h.done,rfl,h.i,h.ep,h.n⟩;obtain⟨V,W,_⟩:=I3 (w:=w) D.pc;have Y:lsL w {m with pc:=10}=x:=qcE (r:=x) (by rw[D.i];exact q);have ae:({m with pc:=10}:Aj).i.toNat=i:=by show m.i.toNat=i;rw[h.i];rfl
    rw[Y,ae]at V;have R:=D.step (qSF D.pc (λh=>absurd h sb) (λh=>absurd h sb) (λh=>absurd h sb) (λh=>absurd h sb) (λ_=>⟨by rw[D.i];omega,by rw[Y];exact B.1⟩)) sb (λh=>absurd h sb) (by rw[W];exact h.done);rw[V,W]at R;obtain⟨K,m',aa,ab,E,H,L⟩:=quH (e:=e) (n:=n) d (i:=i+1) (w:={w with Aa:=w.Aa.set i {x with closed:=I}}) (m:={m with pc:=8,i:=m.i+1}) ⟨R.2,h.done,rfl,by show m.i+1=_;rw[h.i];omega,h.ep,h.n⟩ (by show _=(w.Aa.set _ _).length;rw[zX];omega);have M:qDD x={x with closed:=I}:=by unfold qDD;rw[zk ⟨B.1,Q,B.2⟩]
    rw[qIK q,M];exact⟨1+1+1+K,m',sa,sa,((hs.1.trans A.1).trans R.1).trans E,H,L⟩
   .rw[zh Q]at u;have A:=C.step U sb (λh=>absurd h sb) (by rw[u];exact h.done);rw[T,u]at A;obtain⟨K,m',aa,ab,E,H,L⟩:=quH (e:=e) (n:=n) d (i:=i+1) (w:=w) (m:={m with pc:=8,i:=m.i+1}) ⟨A.2,h.done,rfl,by show m.i+1=_;rw[h.i];omega,h.ep,h.n⟩ sa;have M:qDD x=x:=by unfold qDD;rw[zh λh=>Q h.2.1]
    rw[qIK q,M,q7I q];exact⟨1+1+K,m',sa,sa,(hs.1.trans A.1).trans E,H,L⟩
  .rw[zh B]at c2;have hs:=h.step P sb (λh=>absurd h sb) (by rw[c2];exact h.done);rw[c1,c2]at hs;obtain⟨K,m',aa,ab,E,H,L⟩:=quH (e:=e) (n:=n) d (i:=i+1) (w:=w) (m:={m with i:=m.i+1}) ⟨hs.2,h.done,h.pc,by show m.i+1=_;rw[h.i];omega,h.ep,h.n⟩ sa;have M:qDD x=x:=by unfold qDD;rw[zh λh=>B ⟨h.1,h.2.2⟩]
   rw[qIK q,M,q7I q];exact⟨1+K,m',sa,sa,hs.1.trans E,H,L⟩
structure OF(m:Aj):Prop where
 done:m.done=zb
 pc:m.pc=0
 n:m.answer.n=0
def Dv(w:Wd):zn:=upI w.Al (Iy w.pins w.Al)
def qwC(w:Wd):Wd:=upW {w with AH:=1} (Iy w.pins w.Al)
def BG(w:Wd):Wd:={CL (Dv w) (qwC w) w.Ai.length with Aa:=w.Aa.map qDD,AH:=0}
def Nl(w:Wd):Z:=Kb (Dv w) (qwC w) w.Ai.length
def qBa{w}{m:Aj}(hs:qXB w m=I)(A:OF m)(hk:w.AH=0)(ad:w.Al<1000000000000)(aq:w.Ai.length<=60)(ar:w.Aa.length<=60):∃(K:Z)(m':Aj),K<3000/\EC K w m (BG w) m'/\m'.done=I/\m'.answer=⟨11,0,0,0,0,0,Nl w,c60⟩:=by
 obtain⟨v,au,av,T⟩:=Ar.1 hs
 have aw:1<=w.pins.length/\w.pins.length<=8:=by
  obtain⟨q,_⟩:=q0B T.right;unfold q6A at q;simp only[zj,zx]at q;exact⟨q.1.1.1.1.1.1.1,q.1.1.1.1.1.1.2⟩
 have ae:0<=w.Al:=by
  obtain⟨q,_⟩:=q0B T.right;unfold q6A at q;simp only[zj,zx]at q;exact q.1.1.1.2
 have B:AtC w m 0 m.i m.Al 0:=⟨hs,A.done,A.pc,rfl,rfl,A.n⟩;obtain⟨U,E,_⟩:=cb0 (w:=w) B.pc;rw[zk hk]at U E;have H:=B.step (qSF B.pc (λh=>absurd h sb) (λh=>absurd h sb) (λh=>absurd h sb) (λh=>absurd h sb) (λh=>absurd h sb)) sb (λh=>absurd h sb) (by rw[E];exact B.done);rw[U,E]at H;have q:AtC {w with AH:=1} {m with pc:=1} 1 m.i m.Al 0:=⟨H.2,A.done,rfl,rfl,rfl,A.n⟩;obtain⟨b1,V,_⟩:=cb1 (w:={w with AH:=1}) q.pc;have L:=q.step (qSF q.pc (λh=>absurd h sb) (λh=>absurd h sb) (λh=>absurd h sb) (λh=>absurd h sb) (λh=>absurd h sb)) sb (λh=>absurd h sb) (by rw[V];exact B.done);rw[b1,V]at L;obtain⟨K2,W,ax,M,P⟩:=qLQ (e:=w.Al) (n:=0) ⟨ae,ad⟩ (w.pins.length-1) (i:=0) (w:={w with AH:=1}) rfl ⟨L.2,A.done,rfl,rfl,rfl,A.n⟩ (by show _=w.pins.length;omega);have P:AtC (qwC w) W 4 0 (Dv w) 0:=P;have M:EC K2 {w with AH:=1} _ (qwC w) W:=M;have C:(qwC w).Ai=w.Ai/\(qwC w).Aa=w.Aa:=by unfold qwC upW;split<;>exact⟨rfl,rfl⟩
 obtain⟨af,Q,ay,ag,u⟩:=qVN w.Ai.length P (by rw[C.1];exact zG _) (by rw[C.1];omega);obtain⟨_,_,_,_,Y,_,ah,_⟩:=qWE (Dv w) (qwC w) w.Ai.length
 have aa:AtC (CL (Dv w) (qwC w) w.Ai.length) {Q with i:=0,pc:=8} 8 (0:Z) (Dv w) (Nl w):=by
  obtain⟨az,aA,aB,ab⟩:=Ar.1 u.AZ;exact⟨Ay.AZ (ab.DT (zAI _) ab.k),u.done,rfl,rfl,u.ep,u.n⟩
 obtain⟨D,ac,aC,aD,R,ai,aj⟩:=quH w.Aa.length aa (by rw[Y,C.2];omega);obtain⟨D,rfl⟩:∃j,D=j+1:=⟨D-1,sa⟩;obtain⟨_,_,R⟩:=R;obtain⟨c1,c2,_⟩:=cb4 (w:=CL (Dv w) (qwC w) w.Ai.length) u.pc;rw[zk (by rw[u.i,ah,C.1];omega)]at c1 c2;obtain⟨ak,al,_⟩:=cb8 (w:=CL (Dv w) (qwC w) w.Ai.length) aa.pc;have an:cGo (CL (Dv w) (qwC w) w.Ai.length) Q:=⟨u.AZ,qSF u.pc (λh=>absurd h sb) (λh=>absurd h sb) (λh=>absurd h sb) (λh=>absurd h sb) (λh=>absurd h sb),by rw[u.pc];decide⟩
 have ao:EC (D+1) (CL (Dv w) (qwC w) w.Ai.length) Q (BG w) ac:=by
  refine⟨u.done,an,?_⟩;rw[c1,c2,<-ak,<-al]
  have ap:(BG w)={CL (Dv w) (qwC w) w.Ai.length with Aa:=I2 0 (CL (Dv w) (qwC w) w.Ai.length).Aa,AH:=0}:=by
   unfold BG I2;rw[Y,C.2];simp
  rw[ap];exact R
 exact⟨1+1+K2+af+(D+1),ac,sa,(((H.1.trans L.1).trans M).trans ag).trans ao,ai,aj⟩
structure Bo(w w':Wd):Prop where
 pins:w'.pins=w.pins
 lis:w'.Aa.length=w.Aa.length
 cur:w'.current=w.current
 ver:∀(i:Z)v,w.Ab[i]?=O v->∃v',w'.Ab[i]?=O v'/\v'.Am=v.Am/\v'.AO=v.AO
def Bo.refl(w):Bo w w:=⟨rfl,rfl,rfl,λ_ v h=>⟨v,h,rfl,rfl⟩⟩
def Bo.trans{a b c}(h:Bo a b)(k:Bo b c):Bo a c:=
 ⟨k.pins.trans h.pins,k.lis.trans h.lis,k.cur.trans h.cur,λi v q=>by
  obtain⟨u,A,B,C⟩:=h.ver i v q;obtain⟨D,E,H,L⟩:=k.ver i u A
  exact⟨D,E,H.trans B,L.trans C⟩⟩
def Bo.of{w w'}(h:w'.pins=w.pins)(h2:w'.Aa.length=w.Aa.length)(q:w'.current=w.current)(u:w'.Ab=w.Ab):Bo w w':=⟨h,h2,q,λi v A=>⟨v,by rw[u];exact A,rfl,rfl⟩⟩
def Bo.free{w}{i}{v}(q:w.Ab[i]?=O v)(l):Bo w {w with Ab:=w.Ab.set i {v with AV:=I},Ai:=l}:=
 ⟨rfl,rfl,rfl,λj A h=>by
  by_cases u:i=j
  .subst u;rw[q]at h;cases h;exact⟨{v with AV:=I},by show(w.Ab.set _ _)[_]?=_;rw[zAF];simp[(zd.1 q).1],rfl,rfl⟩
  .exact⟨A,by show(w.Ab.set _ _)[_]?=_;rw[zAF,zh u];exact h,rfl,rfl⟩⟩
section
variable{w:Wd}{m:Aj}
def qER:Bo w (cdW w m):=by
 unfold cdW;split
 .exact Bo.of rfl rfl rfl rfl
 .exact Bo.refl w
def qGR(q:cGo w m):Bo w (cW w m):=by
 obtain⟨v,A,B,u⟩:=Ar.1 q.1;have C:=q.2.2;rcases(by omega:m.pc=0\/m.pc=1\/m.pc=2\/m.pc=3\/m.pc=4\/m.pc=5\/m.pc=6\/m.pc=8\/m.pc=9\/m.pc=10)with h|h|h|h|h|h|h|h|h|h
 .rw[(cb0 h).1];split
  .exact Bo.of rfl rfl rfl rfl
  .exact Bo.refl w
 .rw[(cb1 h).1];exact Bo.refl w
 .rw[(cb2 h).1];exact Bo.refl w
 .rw[(cb3 h).1];split
  .exact Bo.of rfl rfl rfl rfl
  .exact Bo.refl w
 .rw[(cb4 h).1];split
  .exact qER
  .exact Bo.refl w
 .rw[(cb5 h).1];exact Bo.refl w
 .rw[(cb6 h).1,u.at_.1];exact Bo.free u.ver.2 _
 .rw[(cb8 h).1];exact qER
 .rw[(cb9 h).1];exact Bo.refl w
 .rw[(I3 h).1];exact Bo.of rfl (by show(w.Aa.set _ _).length=_;rw[zX]) rfl rfl
end
def qBS(w)(i):Bo w (qyF w i):=by
 unfold qyF;split
 .split
  .rename_i v h;exact Bo.free h _
  .exact Bo.refl w
 .exact Bo.refl w
def qbO(e)(w)(i):Bo w (qFC e w i):=by
 unfold qFC;split
 .exact qBS w i
 .exact Bo.refl w
def qWH(e)(w):∀j,Bo w (CL e w j)
 |0=>Bo.refl w
 |j+1=>(qWH e w j).trans (qbO e _ j)
def qlN{v v'}(h:v'.Am=v.Am):qOB v'=qOB v:=by unfold qOB;rw[h]
def qpU{e}{w w'}(h:Bo w w')(hl:w'.Ab.length=w.Ab.length){i}(u:w'.Ai[i]?=w.Ai[i]?):Dh e w' i=Dh e w i:=by
 unfold Dh;rw[u];split
 .rename_i r C;cases q:w.Ab[r.Ac.toNat]? with
  |none=>
   have:w'.Ab[r.Ac.toNat]?=zc:=by rw[zCq]at q⊢;omega
   rw[this]
  |some v=>
   obtain⟨D,A,B,_⟩:=h.ver _ v q;rw[A];simp only;unfold q9O;rw[qlN B]
 .rfl
def qbU(w)(i j):(qyF w i).Ai[j]?=if j=i then(w.Ai[i]?).map (λr=>if(w.Ab[r.Ac.toNat]?).isSome then{r with gone:=I}else r)else w.Ai[j]?:=by
 unfold qyF;split
 .rename_i r q;split
  .rename_i v u;show(w.Ai.set i _)[j]?=_;rw[zAF];by_cases h:i=j
   .subst h;rw[zk rfl,zk rfl,zk (zd.1 q).1,q];simp only[zBx,u,zCh,zBp]
   .rw[zh h,zh (zBw h)]
  .rename_i u;by_cases h:j=i
   .subst h;rw[zk rfl,q];simp only[zBx,u,Option.isSome_none];rfl
   .rw[zh h]
 .rename_i q;by_cases h:j=i
  .subst h;rw[zk rfl,q];rfl
  .rw[zh h]
def qGQ(e)(w):∀(j i:Z),(CL e w j).Ai[i]?=if i<j then(w.Ai[i]?).map (λr=>if Dh e w i then{r with gone:=I}else r)else w.Ai[i]?
 |0,i=>by simp[CL]
 |j+1,i=>by
  have B:=qGQ e w j;have D:(CL e w j).Ai[j]?=w.Ai[j]?:=by rw[B j,zh sa]
  have E:Dh e (CL e w j) j=Dh e w j:=qpU (qWH e w j) (qWE e w j).2.2.2.2.2.2.2 D;show(qFC e (CL e w j) j).Ai[i]?=_;unfold qFC;rw[E];by_cases h:Dh e w j=I
  .rw[zk h,qbU,D];by_cases u:i=j
   .subst u;rw[zk rfl,zk sa];unfold Dh at h;cases C:w.Ai[i]? with
    |none=>rw[C]at h;cases h
    |some r=>
     rw[C]at h;simp only at h;cases A:w.Ab[r.Ac.toNat]? with
     |none=>rw[A]at h;cases h
     |some v=>
      obtain⟨M,H,_⟩:=(qWH e w i).ver _ v A;have L:Dh e w i=I:=by unfold Dh;rw[C];simp only;rw[A];rw[A]at h;exact h
      simp only[H,zBx,L,zBp,zCh]
   .rw[zh u,B i];by_cases q:i<j
    .rw[zk q,zk sa]
    .rw[zh q,zh sa]
  .have h:Dh e w j=zb:=by simpa using h
   rw[h,zh sb,B i];by_cases u:i=j
   .subst u;rw[zh sa,zk sa,h];cases w.Ai[i]?<;>simp
   .by_cases q:i<j
    .rw[zk q,zk sa]
    .rw[zh q,zh sa]
def qDH(w):(qwC w).Ai=w.Ai/\(qwC w).Ab=w.Ab/\(qwC w).Aa=w.Aa/\(qwC w).pins=w.pins/\(qwC w).current=w.current/\(qwC w).counts=w.counts/\(qwC w).Al=Dv w:=by
 unfold qwC upW Dv upI;split<;>exact⟨rfl,rfl,rfl,rfl,rfl,rfl,rfl⟩
def qQc(e)(w)(i):Dh e (qwC w) i=Dh e w i:=by
 obtain⟨h,q,u,A,B,_⟩:=qDH w;unfold Dh;rw[h,q]
def qcB(w):(BG w).Al=Dv w/\(BG w).AH=0/\(BG w).Ai.length=w.Ai.length/\(BG w).Ab.length=w.Ab.length/\(BG w).Aa=w.Aa.map qDD/\(BG w).pins=w.pins/\(∀i:Z,(BG w).Ai[i]?=(w.Ai[i]?).map λr=>if Dh (Dv w) w i then{r with gone:=I}else r):=by
 obtain⟨h,u,L,A,M,P,B⟩:=qDH w;obtain⟨C,Q,R,D,T,U,E,H⟩:=qWE (Dv w) (qwC w) w.Ai.length;refine⟨C.trans B,rfl,by rw[<-h];exact E,by rw[<-u];exact H,rfl,D.trans A,λi=>?_⟩;show(CL (Dv w) (qwC w) w.Ai.length).Ai[i]?=_;rw[qGQ,h,qQc];by_cases q:i<w.Ai.length
 .rw[zk q]
 .rw[zh q];have:w.Ai[i]?=zc:=by rw[zCq];omega
  rw[this];rfl
def qoN(w):Bo w (BG w):=by
 obtain⟨E,h,H,q,u,L,M⟩:=qDH w;obtain⟨A,P,B,C⟩:=qWH (Dv w) (qwC w) w.Ai.length;refine⟨A.trans q,by show(w.Aa.map qDD).length=_;rw[zAA],B.trans u,λi v D=>C i v (by rw[h];exact D)⟩


def qNI{h:Type}{p q:h->zM}:∀{l:F h},(∀x∈l,p x=q x)->l.findIdx? p=l.findIdx? q
 |[],_=>rfl
 |x::l,u=>by
  rw[zCg,zCg,u x (zAm ..),qNI λy w=>u y (zAl _ w)]
abbrev qgM(given:F Ans)(k:Z):Ans:=(given[k]?).getD BO
def opA(given:F Ans):F Ans:=(opL given given.length).map (qgM given)
def qRQ{given}:∀{i:Z},i<=given.length->∀n∈opL given i,n<i/\∃A,given[n]?=O A/\A.kind=1
 |0,_,n,h=>by cases h
 |i+1,D,n,h=>by
  obtain⟨A,u⟩:=qBA (l:=given) (i:=i) sa;rw[qND u]at h
  have q:n∈opL given i->n<i+1/\∃A,given[n]?=O A/\A.kind=1:=λB=>by
   obtain⟨w,C⟩:=qRQ (i:=i) sa n B;exact⟨sa,C⟩
  unfold Gw at h;split at h
  .rename_i w;rcases zL.1 h with h|h
   .exact q h
   .obtain rfl:=zA9.1 h;exact⟨sa,A,u,w⟩
  .split at h
   .split at h
    .exact q (zCZ h)
    .exact q h
   .exact q h
def qpT{given}(B:Ans):∀{i:Z},i<=given.length->opL (given++[B]) i=opL given i
 |0,_=>rfl
 |i+1,w=>by
  obtain⟨A,h⟩:=qBA (l:=given) (i:=i) sa;rw[qND h,qND (given:=given++[B]) (A:=A) (by rw[zAc sa];exact h),qpT B (i:=i) sa];unfold Gw;rw[qNI (q:=qPN given A) λx u=>?_];have:=(qRQ (i:=i) sa x u).1;show(match(given++[B])[x]? with|some B=>q3G A B|none=>zb)=_;rw[zAc sa]
  try rfl
def qsF{h q:Type}(f:h->q):∀(l:F h)(k:Z),(l.eraseIdx k).map f=(l.map f).eraseIdx k
 |[],_=>rfl
 |_::_,0=>rfl
 |x::l,k+1=>by simp[List.eraseIdx,qsF f l k]
def FK(out:F Ans)(A:Ans):F Ans:=if A.kind=1 then out++[A]else if A.kind=6 then(match out.findIdx? (q3G A)with
 |some k=>out.eraseIdx k
 |none=>out)else out
def qTQ(given)(A:Ans):opA (given++[A])=FK (opA given) A:=by
 have w:∀n∈opL given given.length,qgM (given++[A]) n=qgM given n:=λn h=>by
  have:=(qRQ (zG _) n h).1;unfold qgM;rw[zAc sa]
 have hm:(opL given given.length).map (qgM (given++[A]))=opA given:=List.map_congr_left w;have q:(given++[A])[given.length]?=O A:=sd
 unfold opA;rw[zAq,zCJ,qND q,qpT A (zG _)]
 have B:(opL given given.length).findIdx? (qPN (given++[A]) A)=(opA given).findIdx? (q3G A):=by
  unfold opA;rw[List.findIdx?_map];refine qNI λn h=>?_;obtain⟨D,u,C,_⟩:=qRQ (zG _) n h;show(match(given++[A])[n]? with|some u=>q3G A u|none=>zb)=q3G A (qgM given n);unfold qgM;rw[zAc sa,C];rfl
 unfold Gw FK;rw[B];split
 .rw[zBo,hm];show opA given++[qgM (given++[A]) given.length]=opA given++[A];unfold qgM;rw[q];rfl
 .split
  .show List.map _ (match(opA given).findIdx? (q3G A)with|some k=>_|none=>_)=match(opA given).findIdx? (q3G A)with|some k=>_|none=>_
   cases(opA given).findIdx? (q3G A)with
   |none=>exact hm
   |some k=>show List.map _ ((opL given given.length).eraseIdx k)=(opA given).eraseIdx k;rw[qsF,hm]
  .exact hm
def q8K{q:Type}:∀{l:F q}{k:Z}{a:q},l[k]?=O a->l.Perm (a::l.eraseIdx k)
 |[],_,_,h=>by simp at h
 |x::l,0,a,h=>by simp at h;subst h;exact List.Perm.refl _
 |x::l,k+1,a,h=>by
  have:=q8K (l:=l) (k:=k) (by simpa using h);exact(this.cons x).trans (List.Perm.swap ..)
noncomputable def psW(w:Wd)(m:Aj):Wd:=if m.op.kind=1 then hsW w m else if m.op.kind=2 then fsW w m else if m.op.kind=3 then swW w m else if m.op.kind=4 then drW w m else if m.op.kind=5 then csW w m else w
noncomputable def psM(w:Wd)(m:Aj):Aj:=if m.op.kind=1 then hsM w m else if m.op.kind=2 then fsM w m else if m.op.kind=3 then swM w m else if m.op.kind=4 then drM w m else if m.op.kind=5 then csM w m else qgK w m
noncomputable def psE(w:Wd)(m:Aj):Ev:=if m.op.kind=1 then hsE w m else if m.op.kind=2 then fsE w m else if m.op.kind=3 then swE w m else if m.op.kind=4 then drE w m else if m.op.kind=5 then csE w m else qrL w m
def mPl(o:OpD)(t:zn):Aj:=⟨o,t,0,0,0,-1,0,0,0,0,0,0,0,0,0,zb,BO,c60⟩
def Gy(given:F Ans)(o:OpD):Ans:=if 0<=o.n/\o.n<(opL given given.length).length then(given[((opL given given.length)[o.n.toNat]?).getD 0]?).getD BO else BO
def qmB(t:zn)(given:F Ans)(o:OpD):Aj:=if o.kind=2 then{HT t (Gy given o)with op:=o}else mPl o t
abbrev K7(given:F Ans)(o:OpD):Aj:=qmB 0 given o
def mZ:Aj:=⟨op0,0,0,0,0,0,0,0,0,0,0,0,0,0,0,zb,BO,c60⟩
structure ThD where
 ops:F OpD
 done:Z
 on:zM
 m:Aj
 given:F Ans
def ThD.alive(x:ThD):zM:=decide (x.done<x.ops.length)
def ThD.op(x:ThD):OpD:=(x.ops[x.done]?).getD op0
def ThD.Br(x:ThD)(t:zn):Aj:=if x.on then x.m else qmB t x.given x.op
def ThD.An(x:ThD)(n:Aj):ThD:=if n.done then⟨x.ops,x.done+1,zb,n,x.given++[n.answer]⟩else⟨x.ops,x.done,I,n,x.given⟩
structure KP where
 snaps:F FL
 now:zn
 Lb:F BA
def K9{l}{s}:E2 l s=I<->s∈l:=by
 unfold E2;rw[zBY];exact⟨λ⟨x,q,h⟩=>by rw[<-qHR (by simpa using h:bs x=bs s)];exact q,λh=>⟨s,h,sd⟩⟩
def qnT{p:Prop}[Decidable p]{a b:Aj}{o}(ha:a.op=o)(hb:b.op=o):(if p then a else b).op=o:=by split<;>assumption
def Nu{w}{m:Aj}:(cM w m).op=m.op:=by
 have h:∀m:Aj,(cdM w m).op=m.op:=λm=>qnT rfl (qnT rfl rfl);unfold cM
 repeat' apply qnT
 all_goals first|rfl|exact h _
def oz{P:Prop}(h:P:=by(try simp only[zX,zBL,zA6,implies_true,qyO,EQ])<;>intros<;>omega):P:=h
def amA(m:Aj):Ans:=⟨1,m.Ac,m.Ak,m.An,m.slot,m.listen,0,c60⟩
def le1{a:zn}:a<=a+1:=sa
def atE(i j k:Z)(a:Ans):zM:=decide (a.Ac=i/\a.Ak=j/\a.An=k)
def atS(i j k:Z)(s:zn)(a:Ans):zM:=atE i j k a&&decide (a.slot=s)
def atL(i:Z)(a:Ans):zM:=decide (a.listen=i)
def b1(b:zM):zn:=if b then 1 else 0
def sgA(m:Aj):zn:=if m.op.kind=1/\20<=m.pc/\m.answer.kind=1 then 1 else if m.op.kind=2/\m.pc=4 then -1 else 0
def sgS(m:Aj):zn:=if m.op.kind=1/\(m.pc=12\/20<=m.pc/\m.answer.kind=1)then 1 else if m.op.kind=2/\3<=m.pc/\m.pc<=4 then -1 else 0
def sgL(m:Aj):zn:=if m.op.kind=1/\(5<=m.pc/\m.pc<=22\/m.pc=23/\m.answer.kind=1)then 1 else 0
def cO(p:Ans->zM)(l:F Ans):zn:=(l.countP p:Z)
def con(s:Aj->zn)(p:Ans->zM)(x:ThD):zn:=cO p (opA x.given)+if x.on then s x.m*b1 (p (amA x.m))else 0
def cV(i:Z)(x:ThD):zn:=if x.on=I/\x.m.op.kind=3/\1<=x.m.pc/\x.m.Ac=i then 1 else 0
def cK(x:ThD):zn:=if x.on=I/\x.m.op.kind=5/\1<=x.m.pc then 1 else 0
def frI(e:Bz)(s:zn):zn:=b1 (((qMC e).getD []).contains s)
def lbC(l:F Ba)(i:Z):zn:=(l.countP λr=>decide (r.Ac=(i:zn)):Z)
structure Gau(w:Wd)(l:F ThD):Prop where
 ac:∀i j k e,AT w i j k=O e->e.Ah=AD (con sgA (atE i j k)) l
 sl:∀i j k e,AT w i j k=O e->∀s:zn,0<=s->s<e.next.length->frI e s+AD (con sgS (atS i j k s)) l=1
 li:∀(i:Z)x,w.Aa[i]?=O x->x.Ah=AD (con sgL (atL i)) l
 vr:∀i:Z,i<w.Ab.length->b1 (decide (w.current=i))+lbC w.Ai i+AD (cV i) l=1
 lk:w.AH=AD cK l
structure AnP(w:Wd)(a:Ans):Prop where
 pos:0<=a.Ac/\0<=a.Ak/\0<=a.An
 An:∃e,AT w a.Ac.toNat a.Ak.toNat a.An.toNat=O e/\0<=a.slot/\a.slot<e.next.length
 lis:0<=a.listen/\a.listen<w.Aa.length
 nul:a.kind=1/\a.n=0/\a.counts=c60
def HdP(w:Wd)(m:Aj):Prop:=(mE w m m.An).head=m.word\/BQ m.word<BQ (mE w m m.An).head
structure HWy(w:Wd)(m:Aj):Prop where
 pc:0<=m.pc/\m.pc<=23/\¬(12<m.pc/\m.pc<20):=by exact oz
 ep:1<=m.pc->m.pc<=2->0<=m.Al/\m.Al<=w.Al:=by exact oz
 lst:4<=m.pc->m.pc<=12\/m.pc=22->0<=m.listen:=by exact oz
 nul:4<=m.pc->m.pc<=8->m.slot=0:=by exact oz
 nu2:4<=m.pc->m.pc<=5->m.An=0/\m.other=0:=by exact oz
 hd:10<=m.pc->m.pc<=11->HdP w m/\m.slot=By m.word:=by exact oz
 lk:m.pc=11->(mE w m m.An).head=m.word->m.link=CM (mE w m m.An).next m.slot:=by exact oz
 kd:20<=m.pc->1<=m.answer.kind/\m.answer.kind<=5:=by exact oz
 ka:20<=m.pc->m.answer.kind=1->m.answer=amA m/\0<=m.listen:=by exact oz
 k22:m.pc=22->m.answer.kind≠1:=by exact oz
structure FWy(w:Wd)(m:Aj):Prop where
 pc:0<=m.pc/\m.pc<=4\/m.pc=9:=by exact oz
 lk:m.pc=2->CM (mE w m m.An).next m.slot=By m.word:=by exact oz
structure CWy(w:Wd)(m:Aj):Prop where
 pc:0<=m.pc/\m.pc<=10/\m.pc≠7:=by exact oz
 may:Ez w m:=by exact oz
 li:m.pc=5->m.i<w.Ai.length/\(lbR w m).Ac=m.Ac/\(lbR w m).gone=zb:=by exact oz
 i4:m.pc=4->m.i<=w.Ai.length:=by exact oz
 i8:m.pc=8->m.i<=w.Aa.length:=by exact oz
 k6:m.pc=6->m.k<=16:=by exact oz
 d9:m.pc=9->(lsL w m).drain=I:=by exact oz
structure Way(w:Wd)(m:Aj):Prop where
 h:m.op.kind=1->HWy w m:=by exact oz
 f:m.op.kind=2->FWy w m:=by exact oz
 s:m.op.kind=3->0<=m.pc/\m.pc<=2/\(m.pc=2->0<=m.Al/\m.Al<=w.Al):=by exact oz
 d:m.op.kind=4->m.pc=0:=by exact oz
 c:m.op.kind=5->CWy w m:=by exact oz
 a:m.op.kind=6->m.pc=0/\m.k<=5/\m.i<w.counts.length:=by exact oz
structure Thr(w:Wd)(t:Z)(x:ThD):Prop where
 op:∀a∈opA x.given,AnP w a
 on:x.on=I->x.done<x.ops.length/\x.m.op=x.op/\x.m.Ag=t/\qXB w x.m=I/\Way w x.m
 fin:x.on=I->x.m.op.kind=2->x.m.pc≠9->amA x.m∈opA x.given
 pn:¬(x.on=I/\x.m.op.kind=1/\1<=x.m.pc)->w.pins[t]?=O 0
structure Oth(w w':Wd)(t:Z)(x:ThD):Prop where
 right:wdB w'=I
 pl:w'.pins.length=w.pins.length:=by first|rfl|simp
 po:∀i,i≠t->w'.pins[i]?=w.pins[i]?:=by exact λ_ _=>rfl
 ep:w.Al<=w'.Al/\w'.Al<=w.Al+1:=by exact⟨zAI _,le1⟩
 ll:w'.Aa.length=w.Aa.length:=by first|rfl|simp
 ld:∀(i:Z)x,w.Aa[i]?=O x->∃x',w'.Aa[i]?=O x'/\(x.drain=I->x'.drain=I)/\x'.Ah<=x.Ah+1:=by exact λi x h=>⟨x,h,id,le1⟩
 cl:w'.counts.length=w.counts.length:=by first|rfl|simp
 vs:∀(i:Z)v,w.Ab[i]?=O v->∃v',w'.Ab[i]?=O v'/\(qOB v').length=(qOB v).length:=by exact λi v h=>⟨v,h,rfl⟩
 vl:w'.Ab.length<=w.Ab.length+1:=by first|exact zD0 _|simp
 en:∀i j k e,AT w i j k=O e->∃e',AT w' i j k=O e'/\e'.next.length=e.next.length/\e'.Ah<=e.Ah+1/\(e'.head=e.head\/BQ e'.head=BQ e.head+1)/\∀s:zn,0<=s->s<e.next.length->CM e'.next s≠CM e.next s->1<=con sgS (atS i j k s) x:=by exact λi j k e h=>⟨e,h,rfl,le1,.inl rfl,λs _ _ hn=>absurd rfl hn⟩
 lb:∀(i:Z)r,w.Ai[i]?=O r->∃r',w'.Ai[i]?=O r'/\r'.Ac=r.Ac/\(r'.gone≠r.gone->1<=cK x):=by exact λi r h=>⟨r,h,rfl,λhn=>absurd rfl hn⟩
 lbl:w'.Ai.length<=w.Ai.length+1:=by first|exact zD0 _|simp
def Oth.refl{w}(h:wdB w=I)(t x):Oth w w t x:={right:=h}
def q9H{h:Type}{f:h->zn}:∀{l:F h},(∀x∈l,0<=f x)->0<=AD f l
 |[],_=>by simp[AD]
 |x::l,q=>by
  have B:=q x (zAm ..);have C:=q9H (l:=l) λy A=>q y (zAl _ A);have e:AD f (x::l)=f x+AD f l:=by simp[AD]
  omega
def q6I{A:Type}{f:A->zn}{l}{i:Z}{x:A}(h:∀x∈l,0<=f x)(q:l[i]?=O x):f x<=AD f l:=by
 induction l generalizing i with
 |nil=>simp at q
 |cons z l C=>
  have E:=h z (zAm ..);have B:=λy D=>h y (zAl _ D);have e:AD f (z::l)=f z+AD f l:=by simp[AD]
  cases i with
  |zero=>simp at q;subst q;have:=q9H B;omega
  |succ i=>have:=C B (i:=i) (by simpa using q);omega
def q3P{C:Type}{f:C->zn}{l}{i j:Z}{x y:C}(h:∀x∈l,0<=f x)(q:l[i]?=O x)(A:l[j]?=O y)(D:i≠j):f x+f y<=AD f l:=by
 induction l generalizing i j with
 |nil=>simp at q
 |cons z l E=>
  have L:=h z (zAm ..);have B:=λy H=>h y (zAl _ H);have e:AD f (z::l)=f z+AD f l:=by simp[AD]
  match i,j,D with
  |0,j+1,_=>simp at q;subst q;have:=q6I B (i:=j) (x:=y) (by simpa using A);omega
  |i+1,0,_=>simp at A;subst A;have:=q6I B (i:=i) (x:=x) (by simpa using q);omega
  |i+1,j+1,D=>have:=E B (i:=i) (j:=j) (by simpa using q) (by simpa using A) sa;omega
def qhc(b):0<=b1 b/\b1 b<=1:=by cases b<;>decide
def qYL{p:Ans->zM}{l}{a}(h:a∈l):b1 (p a)<=cO p l:=by
 unfold b1 cO;split
 .rename_i q;have:=List.countP_pos_iff.2 ⟨a,h,q⟩;omega
 .omega
section
variable{w w':Wd}{t:Z}{x:ThD}
def Thr.AZ(h:Thr w t x)(q:x.on=I):∃v gr en,Ay w x.m v gr en:=Ar.1 (h.on q).2.2.2.1
def q8Q{s:Aj->zn}(hs:∀m,-1<=s m/\(s m<0->m.op.kind=2/\m.pc≠9))(h:Thr w t x)(p):0<=con s p x:=by
 unfold con;have D:0<=cO p (opA x.given):=zCi _;split
 .rename_i B;have C:=qhc (p (amA x.m));obtain⟨E,q⟩:=hs x.m;by_cases A:s x.m<0
  .have hm:=qYL (p:=p) (h.fin B (q A).1 (q A).2);have:s x.m=-1:=sa
   rw[this];omega
  .have:=Int.mul_nonneg (show 0<=s x.m by omega) C.1;omega
 .omega
def q2a(m:Aj):-1<=sgA m/\(sgA m<0->m.op.kind=2/\m.pc≠9):=by unfold sgA;split;omega;split<;>omega
def qHT(m:Aj):-1<=sgS m/\(sgS m<0->m.op.kind=2/\m.pc≠9):=by unfold sgS;split;omega;split<;>omega
def q1a(m:Aj):-1<=sgL m/\(sgL m<0->m.op.kind=2/\m.pc≠9):=by unfold sgL;split<;>omega
def qGa(x):0<=cK x:=by unfold cK;split<;>omega
def OG(i x):0<=cV i x:=by unfold cV;split<;>omega
def q2Z{i j k e}(h:AT w i j k=O e):i<w.Ab.length:=by
 obtain⟨v,A,q,_⟩:=q1F h;exact(zd.1 q).1
def Ay.AT{m:Aj}{v gr en}(h:Ay w m v gr en):AT w m.Ac.toNat m.Ak.toNat m.An.toNat=O en:=q2F h.ver.2 h.clu.2 h.An.2
def q5S{m:Aj}{en}(H:wdB w=I)(L:0<=m.Ag/\m.Ag<w.pins.length)(h2:m.done=zb)(h:0<=m.Ac/\0<=m.Ak/\0<=m.An/\0<=m.other)(M:Go.Proofs.YtlmhpamhhgogaaaGreat.Sx.AT w m.Ac.toNat m.Ak.toNat m.An.toNat=O en)(q:∃A,Go.Proofs.YtlmhpamhhgogaaaGreat.Sx.AT w m.Ac.toNat m.Ak.toNat m.other.toNat=O A)(P:0<=m.slot/\m.slot<en.next.length)(Q:-1<=m.listen/\m.listen<w.Aa.length)(R:0<=m.i)(T:0<=m.k):qXB w m=I:=by
 obtain⟨v,U,B,C,V⟩:=q1F M;obtain⟨A,q⟩:=q;obtain⟨Y,aa,D,E,W⟩:=q1F q;rw[B]at D;cases D;rw[C]at E;cases E;have:=(zd.1 W).1;exact Ar.2 ⟨v,U,en,H,L,h2,⟨h.1,B⟩,⟨h.2.1,C⟩,⟨h.2.2.1,V⟩,⟨h.2.2.2,sa⟩,P,Q,R,T⟩
def Ay.oth{m:Aj}{v gr en}(h:Ay w m v gr en):∃q,Go.Proofs.YtlmhpamhhgogaaaGreat.Sx.AT w m.Ac.toNat m.Ak.toNat m.other.toNat=O q:=by
 obtain⟨q,A⟩:=qBA (l:=gr.ends) (i:=m.other.toNat) (by have:=h.other;omega);exact⟨q,q2F h.ver.2 h.clu.2 A⟩
def Oth.AZ(o:Oth w w' t x){m:Aj}{v gr e}(h:Ay w m v gr e):∃v' A q,Ay w' m v' A q/\q.next.length=e.next.length/\(q.head=e.head\/BQ q.head=BQ e.head+1)/\∀s:zn,0<=s->s<e.next.length->CM q.next s≠CM e.next s->1<=con sgS (atS m.Ac.toNat m.Ak.toNat m.An.toNat s) x:=by
 obtain⟨q,B,C,_,E,H⟩:=o.en _ _ _ _ h.AT;obtain⟨Q,L⟩:=h.oth;obtain⟨M,P,_⟩:=o.en _ _ _ _ L;have hs:=q5S (m:=m) o.right (by rw[o.pl];exact h.Ag) h.done ⟨h.ver.1,h.clu.1,h.An.1,h.other.1⟩ B ⟨M,P⟩ (by rw[C];exact h.slot) (by rw[o.ll];exact h.listen) h.i h.k;obtain⟨v',A,R,D⟩:=Ar.1 hs;have:=D.AT;rw[B]at this;cases this;exact⟨v',A,q,D,C,E,H⟩
def Ay.am{m:Aj}{v gr e}(h:Ay w m v gr e):atE m.Ac.toNat m.Ak.toNat m.An.toNat (amA m)=I/\atS m.Ac.toNat m.Ak.toNat m.An.toNat m.slot (amA m)=I:=by
 have q:atE m.Ac.toNat m.Ak.toNat m.An.toNat (amA m)=I:=zC ⟨(zAK h.ver.1).symm,(zAK h.clu.1).symm,(zAK h.An.1).symm⟩;exact⟨q,by unfold atS;rw[q];exact zC rfl⟩
def qvZ{e}{s}(hb:Bv e=I)(hs:0<=s)(h:By e.head=s):frI e s=1:=by
 obtain⟨l,q⟩:=(qCC hb).1;rcases q6J q with⟨_,A⟩|⟨y,r,rfl,A,_⟩
 .omega
 .unfold frI;rw[q,show y=s by omega];simp[b1]
def M9(o:Oth w w' t x):w.Ai.length<=w'.Ai.length:=by
 apply zA3;intro A;obtain⟨r,h⟩:=qBA (l:=w.Ai) (i:=w'.Ai.length) sa;obtain⟨B,q,_⟩:=o.lb _ _ h;have:=(zd.1 q).1;omega
variable{y:ThD}{u:Z}
def Oth.thr(o:Oth w w' t x)(hs:∀i j k e,AT w i j k=O e->∀s:zn,0<=s->s<e.next.length->1<=con sgS (atS i j k s) x->frI e s<=0/\con sgS (atS i j k s) y<=0)(hk:1<=cK x->cK y<=0)(av:u≠t)(h:Thr w u y):Thr w' u y:=by
 refine⟨λa aw=>?_,λR=>?_,h.fin,λU=>by rw[o.po u av];exact h.pn U⟩
 .obtain⟨V,⟨e,W,Y⟩,aa,ax⟩:=h.op a aw;obtain⟨ab,ay,az,_⟩:=o.en _ _ _ _ W;exact⟨V,⟨ab,ay,by rw[az];exact Y⟩,by rw[o.ll];exact aa,ax⟩
 obtain⟨V,W,Y,aa,E⟩:=h.on R;obtain⟨v,aK,e,q⟩:=Ar.1 aa;obtain⟨aL,aM,ab,H,aN,C,ak⟩:=o.AZ q;refine⟨V,W,Y,H.AZ,?_,?_,?_,E.d,?_,?_⟩
 .intro aA;have k:=E.h aA;have T:=k.hd;have L:=k.lk;unfold HdP at T;rw[q.mE]at T L;have aO:=o.ep;refine⟨k.pc,λp ac=>by have:=k.ep p ac;omega,k.lst,k.nul,k.nu2,λp ac=>?_,λp M=>?_,k.kd,k.ka,k.k22⟩
  .obtain⟨D,ad⟩:=T p ac;refine⟨?_,ad⟩;unfold HdP;rw[H.mE];rcases C with C|C
   .rw[C];exact D
   .right;rcases D with D|D
    .rw[<-D];omega
    .omega
  .rw[H.mE]at M⊢;obtain⟨D,ad⟩:=T sa sa
   have aB:ab.head=e.head:=by
    rcases C with C|C
    .exact C
    .exfalso;rw[M]at C;rcases D with D|D
     .rw[D]at C;omega
     .omega
   rw[aB]at M;rw[L p M];apply zA3;intro P;have c:=ak y.m.slot q.slot.1 q.slot.2 (λh=>P h.symm);have:=(hs _ _ _ _ q.AT _ q.slot.1 q.slot.2 c).1;rw[qvZ q.Bv q.slot.1 (by rw[M];exact ad.symm)]at this;omega
 .intro al;have k:=E.f al;have L:=k.lk;rw[q.mE]at L;refine⟨k.pc,λp=>?_⟩;rw[H.mE,<-L p];apply zA3;intro P;have c:=ak y.m.slot q.slot.1 q.slot.2 P;have c2:=(hs _ _ _ _ q.AT _ q.slot.1 q.slot.2 c).2;have hm:=qYL (p:=atS y.m.Ac.toNat y.m.Ak.toNat y.m.An.toNat y.m.slot) (h.fin R al sa);have aC:sgS y.m=0:=by unfold sgS;rw[zh sa,zh sa]
  unfold con at c2;rw[zk R,aC]at c2;rw[q.am.2]at hm;simp only[b1,zBp]at hm;omega
 .intro aD;obtain⟨ae,af,ag⟩:=E.s aD;have:=o.ep;exact⟨ae,af,λp=>by have:=ag p;omega⟩
 .intro an;have k:=E.c an
  have ao:1<=y.m.pc->y.m.i<w.Ai.length->y.m.i<w'.Ai.length/\(lbR w' y.m).Ac=(lbR w y.m).Ac/\(lbR w' y.m).gone=(lbR w y.m).gone:=λU aP=>by
   have:=q.i;obtain⟨r,ap⟩:=qBA (l:=w.Ai) (i:=y.m.i.toNat) sa;obtain⟨aQ,A,B,Q⟩:=o.lb _ _ ap;have aR:=(zd.1 A).1;rw[qnD ap,qnD A];refine⟨sa,B,?_⟩;apply zA3;intro P;have:=hk (Q P);unfold cK at this;rw[zk ⟨R,an,U⟩]at this;omega
  have aq:y.m.i<w.Aa.length->(lsL w y.m).drain=I->(lsL w' y.m).drain=I:=λA B=>by
   have:=q.i;obtain⟨z,ar⟩:=qBA (l:=w.Aa) (i:=y.m.i.toNat) sa;obtain⟨aT,z1,aE,_⟩:=o.ld _ _ ar;rw[qcE ar]at B;rw[qcE z1];exact aE B
  obtain⟨aF,aG,aH,au,aI⟩:=k.may;refine⟨k.pc,⟨λp=>by rw[o.pl];exact aF p,λp=>?_,λp=>?_,λp=>by rw[o.ll];exact au p,λp=>?_⟩,λp=>?_,λp=>?_,λp=>by rw[o.ll];exact k.i8 p,k.k6,λp=>aq (au p) (k.d9 p)⟩
  .obtain⟨aU,A,B⟩:=o.vs _ _ q.ver.2;have:=H.ver.2;rw[A]at this;cases this;have:=aG p;rw[q.at_.1]at this;rw[H.at_.1,B];exact this
  .obtain⟨A,B,Q⟩:=aH p;obtain⟨ah,ai,aj⟩:=ao sa A;exact⟨ah,ai.trans B,aj.trans Q⟩
  .obtain⟨A,B⟩:=aI p;exact⟨by rw[o.ll];exact A,aq A B⟩
  .obtain⟨A,B,Q⟩:=k.li p;obtain⟨ah,ai,aj⟩:=ao sa A;exact⟨ah,ai.trans B,aj.trans Q⟩
  .have:=k.i4 p;have:=M9 o;omega
 .intro aJ;obtain⟨ae,af,ag⟩:=E.a aJ;exact⟨ae,af,by rw[o.cl];exact ag⟩
end
structure Dlt(w w':Wd)(x x':ThD):Prop where
 ac:∀i j k e',AT w' i j k=O e'->(∃e,AT w i j k=O e/\e'.Ah=e.Ah+con sgA (atE i j k) x'-con sgA (atE i j k) x/\∀s:zn,0<=s->s<e.next.length->frI e' s+con sgS (atS i j k s) x'=frI e s+con sgS (atS i j k s) x)\/
  (w.Ab.length=i/\(∃n:Z,1<=n/\n<=4/\e'=qsB n)/\con sgA (atE i j k) x'=con sgA (atE i j k) x/\∀s,con sgS (atS i j k s) x'=con sgS (atS i j k s) x)
 li:∀(i:Z)y y',w.Aa[i]?=O y->w'.Aa[i]?=O y'->y'.Ah=y.Ah+con sgL (atL i) x'-con sgL (atL i) x
 vr:∀i:Z,i<w.Ab.length->b1 (decide (w'.current=i))+lbC w'.Ai i+cV i x'=b1 (decide (w.current=i))+lbC w.Ai i+cV i x
 vn:w'.Ab.length=w.Ab.length\/w'.Ab.length=w.Ab.length+1/\w'.current=w.Ab.length/\w'.Ai=w.Ai/\cV w.Ab.length x'=0
 lk:w'.AH=w.AH+cK x'-cK x
structure Bd(N:Z)(w:Wd):Prop where
 ep:w.Al<=N
 la:∀x∈w.Aa,x.Ah<=N
 ea:∀i j k e,AT w i j k=O e->e.Ah<=N/\0<=BQ e.head/\BQ e.head<=N
 lb:w.Ai.length<=N
 vl:w.Ab.length<=N+1
def qgN(n):BQ (qsB n).head=0:=by show(1:zn) / 4294967296=0;decide
section
variable{w w':Wd}{t:Z}{x x':ThD}{l:F ThD}{N:Z}
def Bd.step(o:Oth w w' t x)(d:Dlt w w' x x')(h:Bd N w):Bd (N+1) w':=by
 refine⟨by have:=h.ep;have:=o.ep;omega,λz E=>?_,λi j k e A=>?_,by have:=h.lb;have:=o.lbl;omega,by have:=h.vl;have:=o.vl;omega⟩
 .obtain⟨i,B⟩:=zT.1 E;have L:=(zd.1 B).1;obtain⟨y,C⟩:=qBA (l:=w.Aa) (i:=i) (by have:=o.ll;omega);obtain⟨M,q,_,H⟩:=o.ld _ _ C;rw[B]at q;cases q;have:=h.la y (zl C);omega
 .rcases d.ac i j k e A with⟨P,D,_⟩|⟨_,⟨n,_,_,rfl⟩,_⟩
  .obtain⟨Q,q,_,H,u,_⟩:=o.en _ _ _ _ D;rw[A]at q;cases q;have:=h.ea _ _ _ _ D;rcases u with u|u
   .rw[u];omega
   .omega
  .rw[qgN];show(0:zn)<=_/\_;omega
def qFa{p:Ans->zM}{l}(h:∀a∈l,p a=zb):cO p l=0:=by
 unfold cO;rw[zDn.2 λa q=>by rw[h a q];exact zAi];rfl
def qAa(h:Thr w t x)(s:Aj->zn){p:Ans->zM}(hp:∀a:Ans,0<=a.Ac->a.Ac<w.Ab.length->p a=zb):con s p x=0:=by
 unfold con;rw[qFa λa u=>?_]
 .split
  .rename_i A;obtain⟨v,D,e,q⟩:=h.AZ A;have:=(zd.1 q.ver.2).1;rw[hp (amA x.m) q.ver.1 (by show x.m.Ac<_;have:=q.ver.1;omega)];show 0+s x.m*0=0;omega
  .rfl
 .obtain⟨B,⟨e,C,_⟩,_⟩:=h.op a u;have:=q2Z C;exact hp a B.1 sa
def qAY(h:Thr w t x):cV w.Ab.length x=0:=by
 unfold cV;rw[zh];rintro⟨q,_,_,A⟩;obtain⟨v,B,e,u⟩:=h.AZ q;have:=(zd.1 u.ver.2).1;omega
def qtQ{n:Z}(h:1<=n/\n<=4){s:zn}(q:0<=s)(u:s<(qsB n).next.length):frI (qsB n) s=1:=by
 rw[qhN]at u;have A:∀n:Z,n<5->1<=n->∀k:Z,k<n->frI (qsB n) k=1:=sb
 have:=A n sa h.1 s.toNat sa;rwa [zAK q]at this
def Gau.step(o:Oth w w' t x)(d:Dlt w w' x x')(ab:wdB w=I)(R:l[t]?=O x)(H:∀(u:Z)y,l[u]?=O y->Thr w u y)(h:Gau w l):Gau w' (l.set t x'):=by
 have B:∀f:ThD->zn,AD f (l.set t x')=AD f l-f x+f x':=λf=>qJG f R
 have zer:∀(s:Aj->zn)(p:Ans->zM),(∀a:Ans,0<=a.Ac->a.Ac<w.Ab.length->p a=zb)->AD (con s p) l=0:=λs p ad=>q7C λy A=>by
  obtain⟨u,L⟩:=zT.1 A;exact qAa (H u y L) s ad
 have T:∀(i j k:Z)(a:Ans),w.Ab.length=i->0<=a.Ac->a.Ac<w.Ab.length->atE i j k a=zb:=λi j k a ae U al=>by
  unfold atE;exact zE sa
 refine⟨λi j k M E=>?_,λi j k M E s P U=>?_,λi an A=>?_,λi ae=>?_,by rw[B,d.lk,h.lk];omega⟩
 .rw[B];rcases d.ac i j k M E with⟨e,q,C,_⟩|⟨q,⟨n,_,_,rfl⟩,D,_⟩
  .rw[C,h.ac _ _ _ _ q];omega
  .rw[zer _ _ λa=>T i j k a q,D];show(0:zn)=_;omega
 .rw[B];rcases d.ac i j k M E with⟨e,q,_,C⟩|⟨q,⟨n,af,ag,rfl⟩,_,D⟩
  .obtain⟨ao,V,ap,_⟩:=o.en _ _ _ _ q;rw[E]at V;cases V;have:=C s P sa;have:=h.sl _ _ _ _ q s P sa;omega
  .rw[zer _ _ λa Q ah=>by unfold atS;rw[T i j k a q Q ah];rfl,D,qtQ ⟨af,ag⟩ P U];omega
 .rw[B];have aq:=(zd.1 A).1;obtain⟨y,W⟩:=qBA (l:=w.Aa) (i:=i) (by have:=o.ll;omega);rw[d.li _ _ _ W A,h.li _ _ W];omega
 .rw[B];by_cases Y:i<w.Ab.length
  .have:=d.vr i Y;have:=h.vr i Y;omega
  .rcases d.vn with ar|⟨q,C,D,Q⟩
   .omega
   .obtain rfl:i=w.Ab.length:=sa
    rw[C,D,Q,qAY (H t x R)]
    have ai:AD (cV w.Ab.length) l=0:=q7C λy A=>by
     obtain⟨u,L⟩:=zT.1 A;exact qAY (H u y L)
    have aj:lbC w.Ai w.Ab.length=0:=by
     unfold lbC;rw[zDn.2 ?_];rfl;intro r ak;have aa:=(zAh.1 (q0B ab).2.2.2.1) r ak;unfold C2 at aa;simp only[zj,zx]at aa;simp only[zx];omega
    rw[ai,aj];simp[b1]
end
def EJ(x:ThD):Z:=x.ops.length-x.done-(if x.on then 1 else 0)
def dM(m:Aj):zn:=if m.op.kind=1/\m.pc<=11\/m.op.kind=2/\m.pc<=2\/m.op.kind=3\/m.op.kind=5/\m.pc<=3 then 1 else 0
def dTo(x:ThD):zn:=EJ x+if x.on then dM x.m else 0
def D8(w:Wd)(m:Aj):zn:=if m.op.kind=1/\(1<=m.pc/\m.pc<=2/\m.Al≠w.Al\/10<=m.pc/\m.pc<=11/\(mE w m m.An).head≠m.word)\/m.op.kind=2/\1<=m.pc/\m.pc<=2/\(mE w m m.An).head≠m.word then 1 else 0
def Gl(w:Wd)(gF:zn)(m:Aj):zn:=
 if m.pc<=1 then 18*(w.Ai.length+gF)+3*w.Aa.length+5+w.pins.length-m.pc
 else if m.pc=2 then 18*(w.Ai.length+gF)+3*w.Aa.length+3+w.pins.length-m.i
 else if m.pc=3 then 18*(w.Ai.length+gF)+3*w.Aa.length+3
 else if m.pc=4 then 18*(w.Ai.length+gF-m.i)+3*w.Aa.length+2
 else if m.pc<=6 then 18*(w.Ai.length+gF-m.i)+3*w.Aa.length+1-m.k
 else if m.pc=8 then 3*(w.Aa.length-m.i)+1
 else 3*(w.Aa.length-m.i)+9-m.pc
def rho(w:Wd)(gF:zn)(m:Aj):zn:=
 if m.op.kind=1 then 30-m.pc+3*D8 w m+3*gF
 else if m.op.kind=2 then(if m.pc=9 then 1 else 10-m.pc+3*D8 w m+3*gF)
 else if m.op.kind=3 then 3-m.pc
 else if m.op.kind=4 then 1
 else if m.op.kind=5 then Gl w gF m
 else 6*w.counts.length-(6*m.i+m.k)
def rhT(B:zn)(w:Wd)(gF:zn)(x:ThD):zn:=B*EJ x+if x.on then rho w gF x.m else 0
def phi(B:zn)(w:Wd)(l:F ThD):zn:=AD (rhT B w (AD dTo l)) l
def qnL{q:Type}{f g:q->zn}:∀{l:F q}{t:Z}{x:q},(∀(i:Z)y,i≠t->l[i]?=O y->f y<=g y)->l[t]?=O x->AD f l-f x<=AD g l-g x
 |[],_,_,_,h=>by simp at h
 |z::l,t,x,h,B=>by
  have e:∀f:q->zn,AD f (z::l)=f z+AD f l:=λf=>by simp[AD]
  rw[e,e];cases t with
  |zero=>
   simp at B;subst B
   have C:∀{l:F q},(∀(i:Z)y,l[i]?=O y->f y<=g y)->AD f l<=AD g l:=by
    intro l
    induction l with
    |nil=>intro _;exact zAI _
    |cons z l D=>
     intro h;have e:∀f:q->zn,AD f (z::l)=f z+AD f l:=λf=>by simp[AD]
     have E:=h 0 z rfl;have H:=D λi y A=>h (i+1) y (by simpa using A);rw[e,e];omega
   have:=C (l:=l) λi y A=>h (i+1) y sa (by simpa using A);omega
  |succ t=>
   have E:=h 0 z sa rfl;have H:=qnL (l:=l) (t:=t) (x:=x) (λi y L A=>h (i+1) y sa (by simpa using A)) (by simpa using B);omega
def q7Z(m):0<=dM m/\dM m<=1:=by unfold dM;split<;>omega
def qGX(x):0<=dTo x:=by unfold dTo;have:=q7Z x.m;split<;>omega
def qMP(w m):0<=D8 w m/\D8 w m<=1:=by unfold D8;split<;>omega
def Qt(w w':Wd):Prop:=w'.Al=w.Al/\(∀i j k e h,AT w i j k=O e->AT w' i j k=O h->h.head=e.head)/\w'.Ai.length=w.Ai.length
def Qt.of{w w'}(h:w'.Al=w.Al:=by exact rfl)(h2:∀i j k,AT w' i j k=AT w i j k:=by exact λ_ _ _=>rfl)(q:w'.Ai.length=w.Ai.length:=by exact rfl):Qt w w':=⟨h,λi j k e A a b=>by rw[h2,a]at b;cases b;rfl,q⟩
structure Stp(w:Wd)(t:Z)(x:ThD)(w':Wd)(m':Aj):Prop where
 o:Oth w w' t x
 d:Dlt w w' x (x.An m')
 th:Thr w' t (x.An m')
 dq:Qt w w'/\dTo (x.An m')<=dTo x\/dTo (x.An m')+1<=dTo x
 pd:∀gF gF':zn,0<=gF'->gF'+dTo x=gF+dTo (x.An m')->(if m'.done then 1 else rho w' gF' m'+1)<=rho w gF x.m
section
variable{w w':Wd}{t u:Z}{x y:ThD}{m':Aj}{l:F ThD}{N:Z}{n gF gF':zn}
def qgY(s:Stp w t x w' m')(B:Thr w u y)(C:Thr w' u y)(h:y.on=I)(H:gF'+dTo x=gF+dTo (x.An m')):rho w' gF' y.m<=rho w gF y.m:=by
 obtain⟨v,L,e,q⟩:=B.AZ h;obtain⟨M,P,Q,A⟩:=C.AZ h;have R:=qMP w y.m;have T:=qMP w' y.m;have U:=s.o.lbl
 have V:3*D8 w' y.m+3*gF'<=3*D8 w y.m+3*gF/\(w'.Ai.length:zn)+gF'<=w.Ai.length+gF:=by
  rcases s.dq with⟨⟨D,E,W⟩,Y⟩|aa
  .have:D8 w' y.m=D8 w y.m:=by
    unfold D8;rw[D,q.mE,A.mE,E _ _ _ _ _ q.AT A.AT]
   omega
  .omega
 unfold rho;rw[s.o.cl];split
 .omega
 split
 .split<;>omega
 split
 .omega
 split
 .omega
 split
 .unfold Gl;rw[s.o.ll,s.o.pl]
  repeat' split
  all_goals omega
 .omega
def qBW{m:Aj}(h:gF'<=gF):rho w gF' m<=rho w gF m:=by
 unfold rho Gl
 repeat' split
 all_goals omega
def qPT(h:Thr w t x)(B:x.on=I)(hk:1<=x.m.op.kind/\x.m.op.kind<=6)(D:0<=gF):1<=rho w gF x.m:=by
 obtain⟨_,_,_,_,q⟩:=h.on B;obtain⟨v,E,e,A⟩:=h.AZ B;have H:=qMP w x.m;unfold rho;split
 .have:=(q.h ‹_›).pc;omega
 split
 .have:=(q.f ‹_›).pc;split<;>omega
 split
 .have:=q.s ‹_›;omega
 split
 .omega
 split
 .have k:=q.c ‹_›;have:=k.pc;have:=k.i4;have:=k.i8;have:=k.k6;have:=k.li;obtain⟨L,C,M,P,Q⟩:=k.may;have R:=(qJJ (qkB A.right A.ver.2)).2;rw[A.at_.1]at C;unfold Gl
  repeat' split
  all_goals omega
 .have:=q.a sa;omega
structure Cv(n:zn)(N:Z)(w:Wd)(l:F ThD):Prop where
 right:wdB w=I
 bd:Bd N w
 gau:Gau w l
 thr:∀(t:Z)x,l[t]?=O x->Thr w t x
 kin:∀(t:Z)x,l[t]?=O x->∀o∈x.ops,(1<=o.kind/\o.kind<=6)/\(o.kind=5->w.Aa.length<=4*n)
 lim:w.Ai.length+AD dTo l<=n
 tl:w.pins.length=l.length
def qNC{q:Type}{l:F q}{t:Z}{x y:q}(B:l[t]?=O x){i:Z}{z:q}(h:(l.set t y)[i]?=O z):i=t/\z=y\/i≠t/\l[i]?=O z:=by
 by_cases A:i=t
 .subst A;rw[qhA B]at h;cases h;exact .inl ⟨rfl,rfl⟩
 .rw[zBi (λe=>A e.symm)]at h;exact .inr ⟨A,h⟩
def qxE{h:Type}{l:F h}{k:Z}{a b:h}{Q:h->h->Prop}(ha:l[k]?=O a)(B:Q a b)(h2:∀x,Q x x)(i:Z)(x)(q:l[i]?=O x):∃x',(l.set k b)[i]?=O x'/\Q x x':=by
 by_cases A:k=i
 .subst A;cases ha.symm.trans q;exact⟨b,qhA ha,B⟩
 .exact⟨x,by rw[zBi A];exact q,h2 x⟩
def q1Z(x:ThD)(m'):(x.An m').ops=x.ops:=by unfold ThD.An;split<;>rfl
def q0Z(h:x.on=I)(m'):EJ (x.An m')=EJ x:=by
 unfold EJ ThD.An;rw[h];split
 .show x.ops.length-(x.done+1)-0=_-_-1;omega
 .rfl
def qQT(B)(a):B*((a+1:Z):zn)=B*a+B:=by rw[zCp,Int.mul_add];simp
def Cv.step(h:Cv n N w l)(A:l[t]?=O x)(L:x.on=I)(s:Stp w t x w' m')(B):Cv n (N+1) w' (l.set t (x.An m'))/\phi B w' (l.set t (x.An m'))+1<=phi B w l:=by
 have M:∀f:ThD->zn,(∀(u:Z)y,Thr w u y->0<=f y)->∀y∈l,0<=f y:=λf R y q=>by
  obtain⟨u,C⟩:=zT.1 q;exact R u y (h.thr u y C)
 have P:∀(u:Z)y,u≠t->l[u]?=O y->Thr w' u y:=λu y C q=>by
  refine s.o.thr (λi j k e T E U V W=>?_) (λW=>?_) C (h.thr u y q)
  .have:=h.gau.sl i j k e T E U V;have:=q3P (M (con sgS (atS i j k E)) λu y q=>q8Q qHT q _) A q (λe=>C e.symm);have:0<=frI e E:=(qhc _).1;have:=q8Q qHT (h.thr u y q) (atS i j k E);omega
  .have:=h.gau.lk;have:=q3P (f:=cK) (M _ λ_ y _=>qGa y) A q (λe=>C e.symm);have:=qGa y;have H:=q4B h.right;unfold q6A at H;simp only[zj,zx]at H;have:=H.1.2;omega
 have ad:=qJG dTo (y:=x.An m') A;have Y:0<=AD dTo (l.set t (x.An m')):=q9H λy _=>qGX y;refine⟨⟨s.o.right,h.bd.step s.o s.d,h.gau.step s.o s.d h.right A h.thr,λi z D=>?_,λi z D=>?_,?_,by rw[zX,s.o.pl];exact h.tl⟩,?_⟩
 .rcases qNC A D with⟨rfl,rfl⟩|⟨Q,D⟩
  .exact s.th
  .exact P i z Q D
 .rw[s.o.ll];rcases qNC A D with⟨rfl,rfl⟩|⟨Q,D⟩
  .rw[q1Z];exact h.kin _ x A
  .exact h.kin i z D
 .have:=h.lim;have:=s.o.lbl;rcases s.dq with⟨⟨_,_,ae⟩,aa⟩|aa<;>omega
 .unfold phi;generalize af:AD dTo (l.set t (x.An m'))=gF' at*;rw[qJG _ A];have ag:=qnL (f:=rhT B w' gF') (g:=rhT B w (AD dTo l)) (x:=x) (λu y C q=>?_) A
  .have ab:=s.pd (AD dTo l) gF' Y sa
   have ac:rhT B w' gF' (x.An m')=B*EJ x+if m'.done then 0 else rho w' gF' m':=by
    unfold rhT;rw[q0Z L];unfold ThD.An;split<;>rfl
   have ah:rhT B w (AD dTo l) x=B*EJ x+rho w (AD dTo l) x.m:=by unfold rhT;rw[zk L]
   rw[ac];split at ab<;>split<;>first|omega|(rename_i a b;exact absurd a b)|(rename_i a b;exact absurd b a)
  .unfold rhT;split
   .have:=qgY (y:=y) s (h.thr u y q) (P u y C q) ‹_› (gF:=AD dTo l) (gF':=gF') sa;omega
   .omega
end
abbrev thO(ops:F OpD)(d:Z)(given:F Ans)(m:Aj):ThD:=⟨ops,d,I,m,given⟩
def qfB(s:Aj->zn)(p)(ops d given m):con s p (thO ops d given m)=cO p (opA given)+s m*b1 (p (amA m)):=rfl
def qwU(s:Aj->zn)(p)(ops d given m):con s p ⟨ops,d,zb,m,given⟩=cO p (opA given):=zCN _
def Cn(x x':ThD):Prop:=(∀p,con sgA p x'=con sgA p x/\con sgS p x'=con sgS p x)/\∀i,con sgL (atL i) x'=con sgL (atL i) x
section
variable{w w':Wd}{t u:Z}{x x':ThD}{m m':Aj}{l:F ThD}{N:Z}{n gF gF':zn}{ops:F OpD}{d:Z}{given:F Ans}
def Dlt.of(hE:∀i j k,AT w' i j k=AT w i j k:=by exact λ_ _ _=>rfl)(hl:∀(i:Z)y q,w.Aa[i]?=O y->w'.Aa[i]?=O q->q.Ah=y.Ah:=by exact λ_ _ _ h k=>by cases h.symm.trans k;rfl)
  (hc:Cn x x')(A:w'.Ab.length=w.Ab.length:=by first|rfl|simp)(hb:∀i:Z,b1 (decide (w'.current=i))+lbC w'.Ai i+cV i x'=b1 (decide (w.current=i))+lbC w.Ai i+cV i x)(hk:w'.AH=w.AH+cK x'-cK x):Dlt w w' x x':=
 ⟨λi j k e h=>by rw[hE]at h;exact .inl ⟨e,h,by rw[(hc.1 _).1];omega,λs _ _=>by rw[(hc.1 _).2]⟩,λi y q h B=>by rw[hc.2,hl i y q h B];omega,λi _=>hb i,.inl A,hk⟩
def Oth.anp(o:Oth w w' t x){a}(h:AnP w a):AnP w' a:=by
 obtain⟨q,⟨e,A,B⟩,C,D⟩:=h;obtain⟨E,H,L,_⟩:=o.en _ _ _ _ A;exact⟨q,⟨E,H,by rw[L];exact B⟩,by rw[o.ll];exact C,D⟩
def Stp.on(h:Thr w t (thO ops d given m))(o:Oth w w' t (thO ops d given m))(E:Dlt w w' (thO ops d given m) (thO ops d given m'))(hs:qXB w' m'=I)(way:Way w' m')(dq:Qt w w'/\dM m'<=dM m\/dM m'+1<=dM m)
  (pd:∀gF gF':zn,0<=gF'->gF'+dM m=gF+dM m'->rho w' gF' m'+1<=rho w gF m)(hop:m'.op=m.op/\m'.Ag=m.Ag:=by exact⟨rfl,rfl⟩)(H:m.op.kind=2->m'.pc≠9->m.pc≠9/\amA m'=amA m:=by exact oz)(hp:¬(m.op.kind=1/\1<=m'.pc)->w'.pins[t]?=O 0:=by intro;first|assumption|omega):Stp w t (thO ops d given m) w' m':=by
 obtain⟨_,_,_,C⟩:=Ar.1 hs;obtain⟨L,M,P,_⟩:=h.on rfl;have e:(thO ops d given m).An m'=thO ops d given m':=by unfold ThD.An;rw[C.done];rfl
 have A:∀B,dTo (thO ops d given B)=((ops.length-d-1:Z):zn)+dM B:=λB=>rfl;refine⟨o,by rw[e];exact E,?_,by rw[e,A,A];rcases dq with⟨a,b⟩|b;exact .inl ⟨a,sa⟩;exact .inr sa,λgF gF' a b=>?_⟩
 .rw[e];refine⟨λa Q=>o.anp (h.op a Q),λ_=>⟨L,hop.1.trans M,hop.2.trans P,hs,way⟩,λ_ q R=>?_,λT=>hp λD=>T ⟨rfl,by show m'.op.kind=1;rw[hop.1];exact D.1,D.2⟩⟩;have q:m'.op.kind=2:=q;rw[hop.1]at q;obtain⟨U,V⟩:=H q R;show amA m'∈_;rw[V];exact h.fin rfl q U
 .rw[e,A,A]at b;rw[C.done];exact pd gF gF' a sa
def Stp.off(hd:m'.done=I)(o:Oth w w' t (thO ops d given m))(D:Dlt w w' (thO ops d given m) ⟨ops,d+1,zb,m',given++[m'.answer]⟩)(op:∀a∈FK (opA given) m'.answer,a∈opA given\/AnP w' a)(E:w'.pins[t]?=O 0)(dq:Qt w w'\/1<=dM m)(h:Thr w t (thO ops d given m))(hk:1<=m.op.kind/\m.op.kind<=6):Stp w t (thO ops d given m) w' m':=by
 have e:(thO ops d given m).An m'=⟨ops,d+1,zb,m',given++[m'.answer]⟩:=by unfold ThD.An;rw[hd];rfl
 have A:dTo (thO ops d given m)=((ops.length-d-1:Z):zn)+dM m:=rfl;have B:dTo ⟨ops,d+1,zb,m',given++[m'.answer]⟩=((ops.length-(d+1)-0:Z):zn)+0:=rfl;have L:=q7Z m;refine⟨o,by rw[e];exact D,?_,?_,λgF gF' M H=>?_⟩
 .rw[e];refine⟨λa C=>?_,λh=>(by cases h),λh=>(by cases h),λ_=>E⟩;rw[show opA (⟨ops,d+1,zb,m',given++[m'.answer]⟩:ThD).given=FK (opA given) m'.answer from qTQ ..]at C;rcases op a C with q|q
  .exact o.anp (h.op a q)
  .exact q
 .rw[e,A,B];rcases dq with a|k
  .exact .inl ⟨a,sa⟩
  .exact .inr sa
 .rw[hd];rw[e,A,B]at H;exact qPT h rfl hk sa
def Thr.got(h:Thr w t (thO ops d given m)):qXB w m=I/\Way w m/\(m.op.kind=2->m.pc≠9->amA m∈opA given)/\(¬(m.op.kind=1/\1<=m.pc)->w.pins[t]?=O 0)/\m.Ag=t:=
 ⟨(h.on rfl).2.2.2.1,(h.on rfl).2.2.2.2,h.fin rfl,λq=>h.pn λA=>q A.2,(h.on rfl).2.2.1⟩
def qQX(given)(o):Gy given o=BO\/Gy given o∈opA given:=by
 unfold Gy;split
 .right;obtain⟨k,h⟩:=qBA (l:=opL given given.length) (i:=o.n.toNat) sa;rw[h];exact zAb.2 ⟨k,zl h,rfl⟩
 .exact .inl rfl
def Ans.am{a:Ans}(h:AnP w a):a=⟨1,a.Ac,a.Ak,a.An,a.slot,a.listen,0,c60⟩:=by
 obtain⟨_,_,_,q,A,B⟩:=h;cases a;simp only at q A B;subst q;subst A;subst B;rfl
def qLR(t)(given o):(qmB t given o).op=o/\(qmB t given o).Ag=t/\(qmB t given o).done=zb/\((qmB t given o).pc=0\/o.kind=2/\(qmB t given o).pc=9)/\(qmB t given o).i=0/\(qmB t given o).k=0:=by
 unfold qmB;split
 .refine⟨rfl,rfl,rfl,?_,rfl,rfl⟩;unfold HT;by_cases h:(Gy given o).kind=1
  .simp[h]
  .simp[h];assumption
 .exact⟨rfl,rfl,rfl,.inl rfl,rfl,rfl⟩
def qwL(h:m.pc=0\/m.op.kind=2/\m.pc=9\/3<=m.op.kind):sgA m=0/\sgS m=0/\sgL m=0:=by
 unfold sgA sgS sgL;refine⟨?_,?_,?_⟩<;>repeat' split
 all_goals omega
def Thr.begin(q:wdB w=I)(ad:t<w.pins.length)(h:Thr w t x)(M:x.on=zb)(ha:x.done<x.ops.length)(hk:1<=x.op.kind/\x.op.kind<=6):Thr w t (thO x.ops x.done x.given (qmB t x.given x.op)):=by
 have ae:=qBC q;obtain⟨b1,P,af,ag,ah,ai⟩:=qLR t x.given x.op;have Q:Fin 7->(qmB t x.given x.op).op.kind=x.op.kind:=λ_=>by rw[b1]
 have aj:=Q 0;have way:Way w (qmB t x.given x.op):={h:=λ_=>{},f:=λ_=>{},c:=λ_=>{may:=⟨oz,oz,oz,oz,oz⟩}}
 have C:qXB w (qmB t x.given x.op)=I/\((qmB t x.given x.op).op.kind=2->(qmB t x.given x.op).pc≠9->amA (qmB t x.given x.op)∈opA x.given):=by
  have th:∀m:Aj,m.Ag=(t:zn)->0<=m.Ag/\m.Ag<w.pins.length:=λm e=>sa
  unfold qmB;split
  .rcases qQX x.given x.op with e|hm
   .rw[e];exact⟨qUJ q (th _ rfl) rfl rfl rfl rfl rfl rfl ⟨zAI _,by show(-1:zn)<_;omega⟩ (zAI _) (zAI _),λ_ A=>absurd rfl A⟩
   .have D:=h.op _ hm;obtain⟨B,⟨e,E,R⟩,T,H,_⟩:=id D;unfold HT;rw[zk H,zk H];refine⟨q5S (en:=e) q (th _ rfl) rfl ⟨B.1,B.2.1,B.2.2,zAI _⟩ E ?_ R ⟨by show -1<=(Gy x.given x.op).listen;omega,T.2⟩ (zAI _) (zAI _),λ_ _=>?_⟩
    .obtain⟨v,U,V,W,Y⟩:=q1F E;obtain⟨aa,ab⟩:=qBA (l:=U.ends) (i:=0) (by have:=(zd.1 Y).1;omega);exact⟨aa,q2F V W ab⟩
    .rw[Ans.am D]at hm;exact hm
  .rename_i ac;exact⟨qUJ q (th _ rfl) rfl rfl rfl rfl rfl rfl ⟨zAI _,by show(-1:zn)<_;omega⟩ (zAI _) (zAI _),λA=>absurd A ac⟩
 refine⟨h.op,λ_=>⟨ha,b1,P,C.1,way⟩,λ_=>C.2,λA=>h.pn λL=>by rw[M]at L;cases L.1⟩
def Cv.begin(h:Cv n N w l)(q:l[t]?=O x)(C:x.on=zb)(ha:x.done<x.ops.length)(U:n<=8){B}(V:B=23*n+6*l.length+60):Cv n N w (l.set t (thO x.ops x.done x.given (qmB t x.given x.op)))/\phi B w (l.set t (thO x.ops x.done x.given (qmB t x.given x.op)))<=phi B w l:=by
 have L:t<w.pins.length:=by have:=(zd.1 q).1;have:=h.tl;omega
 have M:x.op∈x.ops:=by
  obtain⟨o,H⟩:=qBA ha;unfold ThD.op;rw[H];exact zl H
 obtain⟨hk,W⟩:=h.kin t x q _ M;obtain⟨b1,Y,aa,ab,ac,ad⟩:=qLR t x.given x.op;have P:=(h.thr t x q).begin h.right L C ha hk;generalize hm:qmB t x.given x.op=m at*;have E:=qwL (m:=m) (by rw[b1];omega);have ae:=qBC h.right;have af:1<=l.length:=by have:=(zd.1 q).1;omega
 have hc:∀(s:Aj->zn)p,s m=0->con s p (thO x.ops x.done x.given m)=con s p x:=λs p e=>by
  rw[qfB,e];unfold con;rw[C];show _+0*_=_+(0:zn);omega
 have Q:Dlt w w x (thO x.ops x.done x.given m):=by
  refine Dlt.of (hc:=⟨λp=>⟨hc _ _ E.1,hc _ _ E.2.1⟩,λi=>hc _ _ E.2.2⟩) (hb:=λi=>?_) (hk:=?_)
  .have:cV i (thO x.ops x.done x.given m)=cV i x:=by
    unfold cV;rw[C,zh (λA=>by have:m.op.kind=3:=A.2.1;have:1<=m.pc:=A.2.2.1;rw[b1]at*;omega),zh (λA=>by cases A.1)]
   rw[this]
  .have:cK (thO x.ops x.done x.given m)=cK x:=by
    unfold cK;rw[C,zh (λA=>by have:m.op.kind=5:=A.2.1;have:1<=m.pc:=A.2.2;rw[b1]at*;omega),zh (λA=>by cases A.1)]
   rw[this];omega
 have R:EJ x=EJ (thO x.ops x.done x.given m)+1:=by
  unfold EJ;rw[C];show x.ops.length-x.done-0=x.ops.length-x.done-1+1;omega
 have ag:dTo x=EJ x:=by unfold dTo;rw[C];exact zCN _
 have ah:dTo (thO x.ops x.done x.given m)=EJ (thO x.ops x.done x.given m)+dM m:=rfl;have ai:=q7Z m;have hs:=qJG dTo (y:=thO x.ops x.done x.given m) q;have aj:0<=AD dTo (l.set t (thO x.ops x.done x.given m)):=q9H λy _=>qGX y;have ak:=h.lim;refine⟨⟨h.right,h.bd,h.gau.step (Oth.refl h.right t x) Q h.right q h.thr,λi z D=>?_,λi z D=>?_,sa,by rw[zX];exact h.tl⟩,?_⟩
 .rcases qNC q D with⟨rfl,rfl⟩|⟨_,D⟩
  .exact P
  .exact h.thr i z D
 .rcases qNC q D with⟨rfl,rfl⟩|⟨_,D⟩
  .exact h.kin _ x q
  .exact h.kin i z D
 .unfold phi;generalize al:AD dTo (l.set t (thO x.ops x.done x.given m))=gF' at*;rw[qJG _ q];have an:=qnL (f:=rhT B w gF') (g:=rhT B w (AD dTo l)) (x:=x) (λu y ao ap=>?_) q
  .have aq:rhT B w (AD dTo l) x=B*EJ (thO x.ops x.done x.given m)+B:=by
    unfold rhT;rw[C,R,qQT];exact zCN _
   have ar:rhT B w gF' (thO x.ops x.done x.given m)=B*EJ (thO x.ops x.done x.given m)+rho w gF' m:=rfl
   have au:rho w gF' m<=B:=by
    unfold rho Gl;rw[b1];have T:m.pc=0\/m.pc=9->D8 w m=0:=λA=>by unfold D8;rw[zh sa]
    have av:=h.tl
    repeat' split
    all_goals first|omega|(rw[T sa];omega)
   omega
  .unfold rhT;split
   .have:=qBW (w:=w) (m:=y.m) (gF':=gF') (gF:=AD dTo l) sa;omega
   .omega
end
section
variable{w w':Wd}{t:Z}{m m':Aj}{ops:F OpD}{d:Z}{given:F Ans}
def qHX(h:3<=m.op.kind)(q:m'.op=m.op):Cn (thO ops d given m) (thO ops d given m'):=by
 obtain⟨a,b,c⟩:=qwL (m:=m) sa;obtain⟨u,A,B⟩:=qwL (m:=m') (by rw[q];omega);refine⟨λp=>?_,λi=>?_⟩
 .rw[qfB,qfB,qfB,qfB,a,b,u,A];omega
 .rw[qfB,qfB,c,B];omega
def qmJ(q){A:Ans}(h:A.kind≠1/\A.kind≠6):FK q A=q:=by unfold FK;rw[zh h.1,zh h.2]
def qEK(s:Aj->zn)(p)(m'):con s p ⟨ops,d+1,zb,m',given++[m'.answer]⟩=cO p (FK (opA given) m'.answer):=by rw[qwU,qTQ]
def q7X(h:sgA m=0/\sgS m=0/\sgL m=0)(hk:m'.answer.kind≠1/\m'.answer.kind≠6):Cn (thO ops d given m) ⟨ops,d+1,zb,m',given++[m'.answer]⟩:=by
 obtain⟨a,b,c⟩:=h;refine⟨λp=>?_,λi=>?_⟩
 .rw[qEK,qEK,qfB,qfB,a,b,qmJ _ hk];omega
 .rw[qEK,qfB,c,qmJ _ hk];omega
def qmT(hk:m'.answer.kind≠1/\m'.answer.kind≠6):∀a∈FK (opA given) m'.answer,a∈opA given\/AnP w' a:=λa h=>by
 rw[qmJ _ hk]at h;exact .inl h
def qAV(i x g e):cV i ⟨ops,x,zb,e,g⟩=0:=by unfold cV;rw[zh λh=>by cases h.1]
def qEV(x g e):cK ⟨ops,x,zb,e,g⟩=0:=by unfold cK;rw[zh λh=>by cases h.1]
def qhZ(l)(r:Ba)(i):lbC (l++[r]) i=lbC l i+if r.Ac=(i:zn)then 1 else 0:=by
 unfold lbC;rw[zDv,List.countP_singleton];split<;>simp_all
def ow{P:Prop}(h:P:=by(try simp only[cV,cK,b1,thO,qhZ,qAV,qEV,zx,zAS,zCV,zCd,zBL,zA6,or_true,true_or,zBp,dM,rho,sgA,sgS,sgL,implies_true])<;>intros<;>omega):P:=h
def Stp.Jq(h:Thr w t (thO ops d given m))(o:Oth w w' t (thO ops d given m))(hl:∀(i:Z)y u,w.Aa[i]?=O y->w'.Aa[i]?=O u->u.Ah=y.Ah:=by exact λ_ _ _ h k=>by cases h.symm.trans k;rfl)(hd:m'.done=I:=by exact rfl)(ha:m'.answer.kind≠1/\m'.answer.kind≠6:=by exact⟨ze rfl,ze rfl⟩)
  (hE:∀i j k,AT w' i j k=AT w i j k:=by exact λ_ _ _=>rfl)(A:w'.Ab.length=w.Ab.length:=by first|rfl|simp)(hb:∀i:Z,b1 (decide (w'.current=i))+lbC w'.Ai i=b1 (decide (w.current=i))+lbC w.Ai i+cV i (thO ops d given m):=by exact ow)(hk:w'.AH=w.AH-cK (thO ops d given m):=by exact ow)(hp:(¬(m.op.kind=1/\1<=m.pc)->w.pins[t]?=O 0)->w'.pins[t]?=O 0:=by exact λq=>q (by omega))(dq:Qt w w'\/1<=dM m:=by exact .inl .of)(B:sgA m=0/\sgS m=0/\sgL m=0:=by exact⟨ow,ow,ow⟩)(C:1<=m.op.kind/\m.op.kind<=6:=by omega):Stp w t (thO ops d given m) w' m':=
 Stp.off hd o (.of hE hl (q7X B ha) A (λi=>by rw[qAV,hb];omega) (by rw[qEV];omega)) (qmT ha) (hp h.got.2.2.2.1) dq h C
def NP(h:Thr w t (thO ops d given m))(D:wdB w=I)(hk:m.op.kind=6):Stp w t (thO ops d given m) w (qgK w m):=by
 obtain⟨hs,E,_,A,_⟩:=h.got;obtain⟨v,P,e,q⟩:=Ar.1 hs;obtain⟨H,L,M⟩:=E.a hk;have B:qeI w m:=⟨hs,H,L,M⟩;have o:=Oth.refl D t (thO ops d given m);have u:=q.i;have Q:=q.k;replace A:=A sa;by_cases u:qSE m=w.counts.length
 .rw[(qOH B u).1];exact .Jq h o
 .rw[(qNH B u).1]
  have C:qSE m<=w.counts.length/\0<=qSE m/\0<=qPH m/\qPH m<=5/\6*qSE m+qPH m=6*m.i+m.k+1:=by
   unfold qSE qPH;split<;>omega
  exact .on h o (.of (hc:=qHX sa rfl) (hb:=ow) (hk:=ow)) (q.DT C.2.1 C.2.2.1).AZ {} (.inl ⟨.of,zAI _⟩) ow
def NR(h:Thr w t (thO ops d given m))(A:wdB w=I)(hk:m.op.kind=4):Stp w t (thO ops d given m) (drW w m) (drM w m):=by
 obtain⟨hs,L,_⟩:=h.got;have E:GQ w m:=⟨hs,L.d hk⟩;rcases zDK (drI w m) 0 with u|u
 .obtain⟨B,C,_⟩:=qLP E u;rw[B,C];exact .Jq h (.refl A ..)
 .obtain⟨x,q,_⟩:=qCJ u;have q:w.Aa[(drI w m).toNat]?=O x:=q;obtain⟨B,C,_⟩:=qKP E u q;rw[B,C];refine .Jq h {right:=q7H A q rfl (qEX A q),ld:=qxE q ⟨λ_=>rfl,le1⟩ λ_=>⟨id,le1⟩} λi y M H D=>?_;rcases qNC q D with⟨rfl,rfl⟩|⟨_,D⟩
  .cases q.symm.trans H;rfl
  .cases H.symm.trans D;rfl
def q2O{l}{v}(q:0<=v)(h:lbC l v.toNat=0):l.any (λr=>r.Ac==v)=zb:=by
 unfold lbC at h;have:=zDn.1 (Int.ofNat.inj h);rw[zBK];intro r u A;refine this r u (zC ?_);rw[zAK q];simpa using A
def qOM{c}(i j k):(∀e,AT w i j k=O e->AT {w with Ab:=w.Ab++[c],current:=w.Ab.length} i j k=O e)/\∀e,AT {w with Ab:=w.Ab++[c],current:=w.Ab.length} i j k=O e->AT w i j k=O e\/w.Ab.length=i/\∃gr,c.Am[j]?=O gr/\gr.ends[k]?=O e:=by
 constructor
 .intro e A;obtain⟨v,gr,h,q,u⟩:=q1F A;exact q2F (by show(w.Ab++[c])[i]?=O v;rw[zAc (zd.1 h).1];exact h) q u
 .intro e A;obtain⟨v,gr,h,q,u⟩:=q1F A;have h:(w.Ab++[c])[i]?=O v:=h;rcases zAL i w.Ab.length with B|B
  .rw[zAc B]at h;exact .inl (q2F h q u)
  .have C:=(zd.1 h).1;rw[zAq,zCJ]at C;have:i=w.Ab.length:=sa
   subst this;rw[zA4 (zG _),zCc]at h;cases h;exact .inr ⟨rfl,gr,q,u⟩
def qLK{c}(A:qTA c=zc){j k:Z}{gr e}(h:(qjC (qGC c)).Am[j]?=O gr)(q:gr.ends[k]?=O e):∃n:Z,1<=n/\n<=4/\e=qsB n:=by
 simp only[qjC,zAv,zU]at h;obtain⟨u,B,rfl⟩:=h;simp only[zAv,zU]at q;obtain⟨_,_,rfl⟩:=q;obtain⟨_,_,C,_⟩:=(Bh.1 (qFH A)).cl u (zl B);exact⟨u.Au.toNat,sa,sa,rfl⟩
def cV3(hk:m.op.kind=3)(i):cV i (thO ops d given m)=b1 (decide (1<=m.pc/\m.Ac=i)):=ow
def NS(h:Thr w t (thO ops d given m))(D:wdB w=I)(hk:m.op.kind=3)(L:1<=m.pc->m.Ac≠w.current/\lbC w.Ai m.Ac.toNat=0):Stp w t (thO ops d given m) (swW w m) (swM w m):=by
 obtain⟨hs,ag,_,W,_⟩:=h.got;obtain⟨v,ah,en,q⟩:=Ar.1 hs;obtain⟨an,ao,Y⟩:=ag.s hk;replace W:=W sa
 have aa:m.pc=2->qzJ w m=zb:=λai=>by
  obtain⟨u,H⟩:=L sa;obtain⟨ab,ap⟩:=Y ai;unfold qzJ;rw[q2O q.ver.1 H,zE sa,zE sa];simpa using u
 have M:FH w m:=⟨hs,sa,aa⟩;clear aa;obtain⟨aq,aj,_,ak,ar⟩:=qJO D;have au:=qxF D;have ac:=q.ver.1;have av:=(zd.1 q.ver.2).1;rcases(by omega:m.pc=0\/m.pc=1\/m.pc=2)with A|A|A
 .cases P:qTA m.op.Ap with
  |some ad=>
   obtain⟨B,C,_⟩:=qUO (e:=ad.1) (i:=ad.2) M A P;rw[B,C];exact .Jq h (.refl D ..)
  |none=>
   obtain⟨B,C,_⟩:=q4S M A P;rw[B,C];unfold qxK qoM;have ae:=qKY D P
   have Q:∀(i:Z)R,w.Ab[i]?=O R->(qxK w m.op.Ap).Ab[i]?=O R:=λi R af=>by
    show(w.Ab++_)[i]?=_;rw[zAc (zd.1 af).1];exact af
   have al:Ay (qxK w m.op.Ap) m v ah en:=q.move ae (Q _ _ q.ver.2) q.i q.k;have E:=qHX (ops:=ops) (d:=d) (given:=given) (m:=m) (m':=qoM w m) sa rfl;unfold qoM at E;refine .on h {right:=ae,vs:=λi v L=>⟨v,Q i v L,rfl⟩,vl:=by show(w.Ab++_).length<=_;simp,en:=λi j k e T=>⟨e,(qOM i j k).1 e T,rfl,le1,.inl rfl,λs _ _ U=>absurd rfl U⟩} ⟨λi j k e T=>?_,λi y aw a b=>?_,λi V=>ow,.inr ⟨by show(w.Ab++_).length=_;simp,rfl,rfl,ow⟩,ow⟩ (al.first ak (Q _ _ aj) (by show(0:zn)<=(w.Ab.length:zn);omega) q.k) {s:=λ_=>ow} (.inl ⟨⟨rfl,λi j k e ax a b=>?_,rfl⟩,ow⟩) ow
   .rcases(qOM i j k).2 e T with u|⟨u,ay,H,ab⟩
    .exact .inl ⟨e,u,by rw[(E.1 _).1];omega,λs _ _=>by rw[(E.1 _).2]⟩
    .exact .inr ⟨u,qLK P H ab,(E.1 _).1,λs=>(E.1 _).2⟩
   .cases a.symm.trans b;rw[E.2];omega
   .cases((qOM i j k).1 e a).symm.trans b;rfl
 .obtain⟨B,C,_⟩:=sw1 M A;rw[B,C];exact .on h (.refl D ..) (.of (hc:=qHX sa rfl) (hb:=ow) (hk:=ow)) q.Br.AZ {} (.inl ⟨.of,ow⟩) ow
 .obtain⟨B,C,_⟩:=sw2 M A;obtain⟨u,H⟩:=L sa;rw[B,C];refine .Jq h {right:=qlV D ⟨ac,sa⟩ u (Y A) (q2O ac H),lb:=λi r V=>⟨r,?_,rfl,λU=>absurd rfl U⟩,lbl:=by show(w.Ai++_).length<=_;simp} (dq:=.inr ow);show(w.Ai++_)[i]?=_;rw[zAc (zd.1 V).1];exact V
end
section
variable{w w':Wd}{t:Z}{x:ThD}{m m':Aj}{ops:F OpD}{d:Z}{given:F Ans}
def q9U(q:cGo w m):(∃e l,cW w m={w with Al:=e,AH:=l}/\w.Al<=e/\e<=w.Al+1)\/(m.pc=6/\∃r v,w.Ai[m.i.toNat]?=O r/\w.Ab[m.Ac.toNat]?=O v/\cW w m={w with Ab:=w.Ab.set m.Ac.toNat {v with AV:=I},Ai:=w.Ai.set m.i.toNat {r with gone:=I}})\/(∃y,w.Aa[m.i.toNat]?=O y/\cW w m={w with Aa:=w.Aa.set m.i.toNat {y with closed:=I}}):=by
 obtain⟨v,H,L,u⟩:=Ar.1 q.1;have M:=u.i;have P:=q.2.2;have same:∃e l,w={w with Al:=e,AH:=l}/\w.Al<=e/\e<=w.Al+1:=⟨w.Al,w.AH,rfl,sa,sa⟩
 have A:∀B:Aj,∃e l,cdW w B={w with Al:=e,AH:=l}/\w.Al<=e/\e<=w.Al+1:=λB=>by
  unfold cdW;split
  .exact⟨w.Al,0,rfl,sa,sa⟩
  .exact same
 rcases(by omega:m.pc=0\/m.pc=1\/m.pc=2\/m.pc=3\/m.pc=4\/m.pc=5\/m.pc=6\/m.pc=8\/m.pc=9\/m.pc=10)with h|h|h|h|h|h|h|h|h|h
 .rw[(cb0 h).1];split
  .exact .inl ⟨w.Al,1,rfl,sa,sa⟩
  .exact .inl same
 .rw[(cb1 h).1];exact .inl same
 .rw[(cb2 h).1];exact .inl same
 .rw[(cb3 h).1];split
  .exact .inl ⟨w.Al+1,w.AH,rfl,sa,sa⟩
  .exact .inl same
 .rw[(cb4 h).1];split
  .exact .inl (A _)
  .exact .inl same
 .rw[(cb5 h).1];exact .inl same
 .obtain⟨E,_⟩:=q.2.1.2.2.1 h;obtain⟨r,C⟩:=qBA (l:=w.Ai) (i:=m.i.toNat) sa;rw[(cb6 h).1,qnD C,u.at_.1];exact .inr (.inl ⟨h,r,v,C,u.ver.2,rfl⟩)
 .rw[(cb8 h).1];exact .inl (A _)
 .rw[(cb9 h).1];exact .inl same
 .obtain⟨E,_⟩:=q.2.1.2.2.2.2 h;obtain⟨y,D⟩:=qBA (l:=w.Aa) (i:=m.i.toNat) sa;rw[(I3 h).1,qcE D];exact .inr (.inr ⟨y,D,rfl⟩)
def qAK{i}{v}(h:w.Ab[i]?=O v)(l)(a b c):AT {w with Ab:=w.Ab.set i {v with AV:=I},Ai:=l} a b c=AT w a b c:=by
 unfold AT;show((w.Ab.set i _)[a]?).bind _=_;by_cases q:i=a
 .subst q;rw[qhA h,h];rfl
 .rw[zBi q]
def q8X(C:cGo w m)(D:m.pc=6->1<=cK x):Oth w (cW w m) t x:=by
 have h:=(qRK (K:=0) C).2;rcases q9U C with⟨e,l,q,u,A⟩|⟨E,r,v,u,A,q⟩|⟨y,u,q⟩
 .rw[q]at h⊢;exact{right:=h,ep:=⟨u,A⟩}
 .rw[q]at h⊢;exact{right:=h,vs:=qxE A rfl λ_=>rfl,vl:=sd,en:=λi j k e H=>⟨e,by rw[qAK A];exact H,rfl,le1,.inl rfl,λs _ _ B=>absurd rfl B⟩,lb:=qxE u ⟨rfl,λ_=>D E⟩ λ_=>⟨rfl,λB=>absurd rfl B⟩,lbl:=by simp}
 .rw[q]at h⊢;exact{right:=h,ld:=qxE u ⟨id,le1⟩ λ_=>⟨id,le1⟩}
def q9X(E:cGo w m){x x'}(hc:Cn x x')(u:∀i,cV i x'=cV i x)(hk:(cW w m).AH=w.AH+cK x'-cK x):Dlt w (cW w m) x x':=by
 rcases q9U E with⟨e,l,h,q,C⟩|⟨H,r,v,q,C,h⟩|⟨y,q,h⟩
 .rw[h]at hk⊢;exact Dlt.of (hc:=hc) (hb:=λi=>by rw[u]) (hk:=hk)
 .rw[h]at hk⊢;refine Dlt.of (hE:=qAK C _) (hc:=hc) (hb:=λi=>?_) (hk:=hk);rw[u];show b1 (decide (w.current=i))+lbC (w.Ai.set m.i.toNat {r with gone:=I}) i+_=_
  have:lbC (w.Ai.set m.i.toNat {r with gone:=I}) i=lbC w.Ai i:=by
   have e:∀l:F Ba,lbC l i=((l.map (·.Ac)).countP λv=>decide (v=(i:zn)):Z):=λl=>by unfold lbC;rw[List.countP_map];rfl
   rw[e,e,map_set λL D=>by rw[q]at D;cases D;rfl]
  rw[this]
 .rw[h]at hk⊢;refine Dlt.of (hl:=λi z M A B=>?_) (hc:=hc) (hb:=λi=>by rw[u]) (hk:=hk);rcases qNC q B with⟨rfl,rfl⟩|⟨_,B⟩
  .rw[q]at A;cases A;rfl
  .cases A.symm.trans B;rfl
def cK5(h:m.op.kind=5):cK (thO ops d given m)=b1 (decide (1<=m.pc)):=ow
def qFV(A:cGo w m):∀i j k e q,AT w i j k=O e->AT (cW w m) i j k=O q->q.head=e.head:=λi j k e q h u=>by
 have:AT (cW w m) i j k=AT w i j k:=by
  rcases q9U A with⟨_,_,h,_⟩|⟨_,r,v,B,C,h⟩|⟨y,B,h⟩
  .rw[h];rfl
  .rw[h,qAK C]
  .rw[h];rfl
 rw[this,h]at u;cases u;rfl
end
section
variable{w w':Wd}{t:Z}{m m':Aj}{ops:F OpD}{d:Z}{given:F Ans}
def b1f{p:Prop}[Decidable p](h:¬p):b1 (decide p)=0:=by rw[zE h];rfl
def b1t{p:Prop}[Decidable p](h:p):b1 (decide p)=1:=by rw[zC h];rfl
def cwy(p:0<=m.pc/\m.pc<=10/\m.pc≠7:=by exact oz)(a:m.pc=2->m.i<w.pins.length:=by exact oz)(b:m.pc=5->m.k<(qOB (mV w m)).length:=by exact oz)(c:m.pc=6->m.i<w.Ai.length/\(lbR w m).Ac=m.Ac/\(lbR w m).gone=zb:=by exact oz)(e:m.pc=9->m.i<w.Aa.length/\(lsL w m).drain=I:=by exact oz)
  (f:m.pc=10->m.i<w.Aa.length/\(lsL w m).drain=I:=by exact oz)(g:m.pc=5->m.i<w.Ai.length/\(lbR w m).Ac=m.Ac/\(lbR w m).gone=zb:=by exact oz)(i:m.pc=4->m.i<=w.Ai.length:=by exact oz)(j:m.pc=8->m.i<=w.Aa.length:=by exact oz)(k:m.pc=6->m.k<=16:=by exact oz):CWy w m:=
 ⟨p,⟨a,b,c,λh=>(e h).1,f⟩,g,i,j,k,λh=>(e h).2⟩
def q2U{gF}(u:0<=m.i)(A:m.pc=8/\m.i<=w.Aa.length)(hd:(cdM w m).done=zb):(cdM w m).op=m.op/\(cdM w m).Ag=m.Ag/\cdW w m=w/\CWy w (cdM w m)/\3<(cdM w m).pc/\Gl w gF (cdM w m)<=3*(w.Aa.length-m.i):=by
 unfold cdM at hd⊢;unfold cdW;split at hd
 .cases hd
 rename_i h;rw[zh h,zh h];split
 .rename_i q;exact⟨rfl,rfl,rfl,cwy (e:=λ_=>⟨by show m.i<_;omega,q.1⟩),ze rfl,by unfold Gl;exact oz⟩
 .exact⟨rfl,rfl,rfl,cwy,by show 3<m.pc;omega,by unfold Gl;exact oz⟩
def qgG(h:Thr w t (thO ops d given m))(hk:m.op.kind=5)(q:cGo w m)(hb:w.Ai.length<=1000000)(e1:cW w m=w')(e2:cM w m=m')(hd:m'.done=zb)(A:CWy w' m':=by exact cwy)(B:m.pc=5->m.i<w.Ai.length:=by exact oz)(hop:m'.op=m.op/\m'.Ag=m.Ag:=by exact⟨rfl,rfl⟩)
  (E:w'.AH=w.AH+(if 1<=m'.pc then 1 else 0)-(if 1<=m.pc then 1 else 0):=by exact oz)
  (hdm:w'.Al=w.Al/\w'.Ai.length=w.Ai.length/\(m.pc<=3\/3<m'.pc)\/m.pc<=3/\3<m'.pc:=by exact oz)
  (pd:∀gF gF':zn,0<=gF'->gF'+(if m.pc<=3 then 1 else 0)=gF+(if m'.pc<=3 then 1 else 0)->Gl w' gF' m'+1<=Gl w gF m:=by unfold Gl;exact oz):Stp w t (thO ops d given m) (csW w m) (csM w m):=by
 obtain⟨c1,c2,_⟩:=qjG q;obtain⟨_,_,_,u,_⟩:=h.got;replace u:=u sa;subst e1;subst e2;rw[c1,c2];have H:(cM w m).op.kind=5:=by rw[hop.1];exact hk
 refine .on h (q8X q λhp=>ow) (q9X q (qHX sa hop.1) (λi=>ow) ow) (qDV q (λhp=>by have:=B hp;omega) hd) {c:=λ_=>A} ?_ (λgF gF' C D=>?_) hop (hp:=λ_=>by rw[(qGR q).pins];exact u)
 .rcases hdm with⟨a,b,c⟩|⟨a,b⟩
  .exact .inl ⟨⟨a,qFV q,b⟩,ow⟩
  .exact .inr ow
 .simp only[dM]at D;have:=pd gF gF' C sa;exact ow
def qxa(h:Thr w t (thO ops d given m))(hk:m.op.kind=5)(q:cGo w m)(e1:cW w m=w')(e2:cM w m=m')(u:w'.AH=w.AH-(if 1<=m.pc then 1 else 0):=by exact oz)(hd:m'.done=I:=by exact rfl)(ha:m'.answer.kind≠1/\m'.answer.kind≠6:=by exact⟨ze rfl,ze rfl⟩)(hdm:w'.Al=w.Al/\w'.Ai.length=w.Ai.length:=by exact⟨rfl,rfl⟩):Stp w t (thO ops d given m) (csW w m) (csM w m):=by
 obtain⟨c1,c2,_⟩:=qjG q;subst e1;subst e2;rw[c1,c2];exact .off hd (q8X q λA=>ow) (q9X q (q7X (qwL sa) ha) (λi=>ow) ow) (qmT ha) (by rw[(qGR q).pins];exact h.got.2.2.2.1 sa) (.inl ⟨hdm.1,qFV q,hdm.2⟩) h sa
def qYc(hd:m.done=zb)(h:(cdM w m).done=I):(w.Aa.length:zn)<=m.i:=by
 apply zA3;intro q;unfold cdM at h;rw[zh q]at h;split at h<;>exact absurd (hd.symm.trans h) sb
def NQ(h:Thr w t (thO ops d given m))(H:wdB w=I)(hk:m.op.kind=5)(Y:1<=m.pc->w.AH=1)(hb:w.Ai.length<=1000000):Stp w t (thO ops d given m) (csW w m) (csM w m):=by
 obtain⟨hs,aa,_,_,_⟩:=h.got;obtain⟨v,aw,ax,D⟩:=Ar.1 hs;have k:=aa.c hk;have B:cGo w m:=⟨hs,k.may,k.pc⟩;have ab:=D.i;have ay:=D.k;have C:=D.done;have az:=qBC H;have aA:=k.pc
 have lst:∀n:Aj,n.op=m.op->n.Ag=m.Ag->n.done=zb->n.pc=8/\0<=n.i/\n.i<=w.Aa.length->cW w m=cdW w n->cM w m=cdM w n->4<=m.pc->m.pc≠5->w.AH=1->(∀gF L:zn,L+0=gF+0->0<=L->3*(w.Aa.length-n.i)+1<=Gl w gF m)->Stp w t (thO ops d given m) (csW w m) (csM w m):=λn ac ad ae E u q T U aB af=>by
  cases Q:(cdM w n).done with
  |false=>
   obtain⟨ag,ah,ai,aj,ak,_⟩:=q2U (gF:=0) E.2.1 ⟨E.1,E.2.2⟩ Q;refine qgG h hk B hb (u.trans ai) q Q aj (hop:=⟨ag.trans ac,ah.trans ad⟩) (hdm:=.inl ⟨rfl,rfl,.inr ak⟩) (pd:=λgF L al aC=>?_);have aD:=(q2U (gF:=L) E.2.1 ⟨E.1,E.2.2⟩ Q).2.2.2.2.2;have:=af gF L sa al;omega
  |true=>
   have an:=qYc ae Q;unfold cdW at u;unfold cdM at q;rw[zk an]at u q;exact qxa h hk B u q (ha:=⟨show(11:zn)≠1 by decide,show(11:zn)≠6 by decide⟩)
 have aE:m.pc=0\/w.AH=1:=sa
 clear Y;rcases(by omega:m.pc=0\/m.pc=1\/m.pc=2\/m.pc=3\/m.pc=4\/m.pc=5\/m.pc=6\/m.pc=8\/m.pc=9\/m.pc=10)with A|A|A|A|A|A|A|A|A|A
 .obtain⟨u,q,_⟩:=cb0 (w:=w) A;by_cases M:w.AH=0
  .rw[zk M]at u q;exact qgG h hk B hb u q C
  .rw[zh M]at u q;exact qxa h hk B u q
 .obtain⟨u,q,_⟩:=cb1 (w:=w) A;exact qgG h hk B hb u q C
 .obtain⟨u,q,_⟩:=cb2 (w:=w) A;have aF:=k.may.1 A;split at q
  .exact qgG h hk B hb u q C
  split at q<;>exact qgG h hk B hb u q C
 .obtain⟨u,q,_⟩:=cb3 (w:=w) A;by_cases P:upE w m
  .rw[zk P]at u q;exact qgG h hk B hb u q C
  .rw[zh P]at u q;exact qgG h hk B hb u q C
 .obtain⟨u,q,_⟩:=cb4 (w:=w) A;by_cases M:(w.Ai.length:zn)<=m.i
  .rw[zk M]at u q;have:=k.i4 A;exact lst {m with i:=0,pc:=8} rfl rfl C ⟨rfl,oz,oz⟩ u q oz oz oz (by unfold Gl;exact oz)
  .rw[zh M]at u q;split at q
   .exact qgG h hk B hb u q C
   .rename_i V;obtain⟨r,R⟩:=qBA (l:=w.Ai) (i:=m.i.toNat) sa;rw[qnD R]at q V;have T:=AK.1 (q0B H).2.2.1 _ r R;unfold F2 at T;simp only[zj,zx]at T;have U:=(zAh.1 (q0B H).2.2.2.1) r (zl R);unfold C2 at U;simp only[zj,zx]at U;obtain⟨ao,P⟩:=qBA (l:=w.Ab) (i:=r.Ac.toNat) sa;have ap:=qJJ (qkB H P);have aq:r.gone=zb:=by simpa using λar=>V (.inl ar)
    refine qgG h hk B hb u q C (cwy (b:=λ_=>?_) (g:=λ_=>?_))
    .unfold mV;show(0:zn)<(qOB ((w.Ab[r.Ac.toNat]?).getD vZ)).length;rw[P];show(0:zn)<(qOB ao).length;omega
    .rw[show lbR w {m with Ac:=r.Ac,Ak:=0,An:=0,other:=0,slot:=0,k:=0,pc:=5}=r from qnD R];exact⟨show m.i<_ by omega,rfl,aq⟩
 .obtain⟨u,q,_⟩:=cb5 (w:=w) A;have W:=k.li A;have au:=k.may.2.1 A;rw[D.at_.1]at au q;have ap:=qJJ (qkB H D.ver.2);split at q
  .rw[qsE (show -1000000000000000<=m.i+1/\m.i+1<=1000000000000000 by omega)]at q;exact qgG h hk B hb u q C
  split at q
  .exact qgG h hk B hb u q C (cwy (b:=λ_=>by rw[show mV w {m with k:=m.k+1}=v from D.at_.1];assumption) (g:=λ_=>W))
  .exact qgG h hk B hb u q C (cwy (c:=λ_=>W))
 .obtain⟨u,q,_⟩:=cb6 (w:=w) A;have:=k.may.2.2.1 A;have:=k.k6 A;exact qgG h hk B hb u q C
 .obtain⟨u,q,_⟩:=cb8 (w:=w) A;exact lst m rfl rfl C ⟨A,ab,k.i8 A⟩ u q oz oz oz (by unfold Gl;exact oz)
 .obtain⟨u,q,_⟩:=cb9 (w:=w) A;have av:=k.may.2.2.2.1 A;split at q
  .exact qgG h hk B hb u q C (cwy (f:=λ_=>⟨av,k.d9 A⟩))
  .exact qgG h hk B hb u q C
 .obtain⟨u,q,_⟩:=I3 (w:=w) A;have:=k.may.2.2.2.2 A;exact qgG h hk B hb u q C
end
def qxP{w i}(h:-1<=i/\i<=2147483646)(q:0<=BQ w/\BQ w<=1000000):BQ (qHD w i)=BQ w+1:=by
 unfold qHD;generalize BQ w=a at*;rw[zCs sa sa];unfold BQ;omega
section
variable{w w':Wd}{t:Z}{x:ThD}{m m':Aj}{ops:F OpD}{d:Z}{given:F Ans}{v:AL}{gr:Bm}{en en':Bz}
abbrev wE(w:Wd)(m:Aj)(v:AL)(gr:Bm)(en':Bz):Wd:=Gu w m.Ac.toNat m.Ak.toNat v {gr with ends:=gr.ends.set m.An.toNat en'}
def qkN{j k:Z}(q:v.Am[j]?=O gr){g'}(hl:g'.ends.length=gr.ends.length):(qOB {v with Am:=v.Am.set j g'}).length=(qOB v).length:=by
 unfold qOB;rw[List.length_flatMap,List.length_flatMap];show((v.Am.set j g').map λg=>g.ends.length).sum=_;rw[map_set λy h=>by rw[q]at h;cases h;exact hl]
def Ay.LR(h:Ay w m v gr en)(i j k):Go.Proofs.YtlmhpamhhgogaaaGreat.Sx.AT (wE w m v gr en') i j k=if i=m.Ac.toNat/\j=m.Ak.toNat/\k=m.An.toNat then O en' else Go.Proofs.YtlmhpamhhgogaaaGreat.Sx.AT w i j k:=qDX h.ver.2 h.clu.2 h.An.2 rfl rfl i j k
def Oth.end(h:Ay w m v gr en)(B:Bv en'=I)(hl:en'.next.length=en.next.length)(ha:en'.Ah<=en.Ah+1)(C:en'.head=en.head\/BQ en'.head=BQ en.head+1)(q:∀s:zn,0<=s->s<en.next.length->CM en'.next s≠CM en.next s->1<=con sgS (atS m.Ac.toNat m.Ak.toNat m.An.toNat s) x):Oth w (wE w m v gr en') t x:=by
 refine{right:=qMY h.right h.ver.2 h.clu.2 h.An.2 B hl,vs:=qxE h.ver.2 (qkN (k:=0) h.clu.2 sd) λ_=>rfl,vl:=by show(w.Ab.set _ _).length<=_;simp,en:=λi j k e u=>?_};rw[h.LR];by_cases A:i=m.Ac.toNat/\j=m.Ak.toNat/\k=m.An.toNat
 .obtain⟨rfl,rfl,rfl⟩:=A;rw[h.AT]at u;cases u;rw[zk ⟨rfl,rfl,rfl⟩];exact⟨en',rfl,hl,ha,C,q⟩
 .rw[zh A];exact⟨e,u,rfl,le1,.inl rfl,λs _ _ q=>absurd rfl q⟩
def Ay.LS(h:Ay w m v gr en)(c i j k):Go.Proofs.YtlmhpamhhgogaaaGreat.Sx.AT (Gu w m.Ac.toNat m.Ak.toNat v {gr with AQ:=c}) i j k=Go.Proofs.YtlmhpamhhgogaaaGreat.Sx.AT w i j k:=qoU (g':={gr with AQ:=c}) h.ver.2 h.clu.2 rfl rfl i j k
def Oth.NJ(h:Ay w m v gr en)(c:zn):Oth w (Gu w m.Ac.toNat m.Ak.toNat v {gr with AQ:=c}) t x:={right:=(h.JL c).right,vs:=qxE h.ver.2 (qkN (k:=0) h.clu.2 rfl) λ_=>rfl,vl:=by show(w.Ab.set _ _).length<=_;simp,en:=λi j k e q=>⟨e,by rw[h.LS];exact q,rfl,le1,.inl rfl,λs _ _ u=>absurd rfl u⟩}
def Oth.lis{i:Z}{y:AY}(q:wdB w=I)(h:w.Aa[i]?=O y){a:zn}(u:0<=a)(ha:a<=y.Ah+1):Oth w {w with Aa:=w.Aa.set i {y with Ah:=a}} t x:=by
 refine{ld:=qxE h ⟨id,ha⟩ λ_=>⟨id,le1⟩,right:=q7H q h rfl (Hu.2 ?_)};have:=(q0B q).2.2.2.2.2;rw[AK]at this;have:=this _ y h;unfold qoB at this;simp only[zj]at this;obtain⟨A,C,B⟩:=Hu.1 this.1;exact⟨A,u,B⟩
def Oth.pin(h:wdB w=I){p:zn}(hp:0<=p/\p<=w.Al+1):Oth w {w with pins:=w.pins.set t p} t x:={right:=qLY h hp,po:=λi q=>by show(w.pins.set t p)[i]?=_;rw[zBi λe=>q e.symm]}
def qMR(h:0<=m.Ac/\0<=m.Ak/\0<=m.An)(i j k):atE i j k (amA m)=decide (i=m.Ac.toNat/\j=m.Ak.toNat/\k=m.An.toNat):=by
 unfold atE;rw[decide_eq_decide];show m.Ac=i/\m.Ak=j/\m.An=k<->_;omega
def q5F(h:amA m'=amA m)(s:Aj->zn)(p):con s p (thO ops d given m')=con s p (thO ops d given m)+(s m'*b1 (p (amA m))-s m*b1 (p (amA m))):=by
 rw[qfB,qfB,h];omega
def Dlt.end(u:Ay w m v gr en)(hs:∀s:zn,0<=s->s<en.next.length->frI en' s+(if m.slot=s then sgS m' else 0)=frI en s+(if m.slot=s then sgS m else 0))(A:amA m'=amA m:=by exact rfl)(D:m'.op=m.op:=by exact rfl)(hk:m.op.kind≠3/\m.op.kind≠5:=by omega)(hA:en'.Ah=en.Ah+sgA m'-sgA m:=by exact ow)(E:sgL m'=sgL m:=by exact ow):Dlt w (wE w m v gr en') (thO ops d given m) (thO ops d given m'):=by
 have C:0<=m.Ac/\0<=m.Ak/\0<=m.An:=⟨u.ver.1,u.clu.1,u.An.1⟩;refine⟨λi j k e B=>?_,λi y Q H L=>?_,λi _=>?_,.inl sd,?_⟩
 .left;rw[u.LR]at B;by_cases h:i=m.Ac.toNat/\j=m.Ak.toNat/\k=m.An.toNat
  .rw[zk h]at B;cases B;refine⟨en,by rw[h.1,h.2.1,h.2.2];exact u.AT,?_,λs M P=>?_⟩
   .rw[q5F A,qMR C,zC h,hA];simp only[b1,zBp];omega
   .have:=hs s M P;rw[q5F A];unfold atS;rw[qMR C,zC h,zCE];by_cases q:m.slot=s
    .rw[zk q,zk q]at this;rw[show decide ((amA m).slot=s)=I from zC q];simp only[b1,zBp];omega
    .rw[zh q,zh q]at this;rw[show decide ((amA m).slot=s)=zb from zE q];show frI en' s+(_+(sgS m'*0-sgS m*0))=_;omega
  .rw[zh h]at B;refine⟨e,B,?_,λs _ _=>?_⟩
   .rw[q5F A,qMR C,zE h];show _=_+(_+(sgA m'*0-sgA m*0))-_;omega
   .rw[q5F A];unfold atS;rw[qMR C,zE h,Bool.false_and];show _+(_+(sgS m'*0-sgS m*0))=_;omega
 .cases H.symm.trans L;rw[q5F A,E];omega
 .simp only[cV,thO,D];omega
 .simp only[cK,thO,D];omega
def Dlt.lis{y}(u:w.Aa[m.listen.toNat]?=O y)(C:0<=m.listen){a}(h:amA m'=amA m:=by exact rfl)(A:m'.op=m.op:=by exact rfl)(hk:m.op.kind≠3/\m.op.kind≠5:=by omega)(hA:sgA m'=sgA m:=by exact ow)(D:sgS m'=sgS m:=by exact ow)(H:a=y.Ah+sgL m'-sgL m:=by exact ow):
  Dlt w {w with Aa:=w.Aa.set m.listen.toNat {y with Ah:=a}} (thO ops d given m) (thO ops d given m'):=by
 refine⟨λi j k e E=>.inl ⟨e,E,by rw[q5F h,hA];omega,λs _ _=>by rw[q5F h,D];omega⟩,λi z L B q=>?_,λi _=>?_,.inl rfl,?_⟩
 .rw[q5F h];rcases qNC u q with⟨rfl,rfl⟩|⟨M,q⟩
  .cases u.symm.trans B;rw[show atL m.listen.toNat (amA m)=I from zC (zAK C).symm];show a=_;simp only[b1,zBp];omega
  .cases B.symm.trans q;rw[show atL i (amA m)=zb from zE (by show ¬m.listen=i;omega)];show _=_+(_+(sgL m'*0-sgL m*0))-_;omega
 .simp only[cV,thO,A];omega
 .simp only[cK,thO,A];omega
def Dlt.none(hc:Cn (thO ops d given m) (thO ops d given m'))(h:m'.op=m.op:=by exact rfl)(hk:m.op.kind≠3/\m.op.kind≠5:=by omega)(hE:∀i j k,AT w' i j k=AT w i j k:=by exact λ_ _ _=>rfl)(hl:w'.Aa=w.Aa:=by exact rfl)(u:w'.Ab.length=w.Ab.length:=by first|rfl|simp)(A:w'.current=w.current/\w'.Ai=w.Ai/\w'.AH=w.AH:=by exact⟨rfl,rfl,rfl⟩):Dlt w w' (thO ops d given m) (thO ops d given m'):=by
 obtain⟨c1,c2,c3⟩:=A;refine .of hE (λi y C B q=>by rw[hl]at q;cases B.symm.trans q;rfl) hc u (λi=>?_) ?_
 .simp only[cV,thO,h,c1,c2];omega
 .simp only[cK,thO,h,c3];omega
def MD(h:sgL m=0\/m.listen<0)(i):sgL m*b1 (atL i (amA m))=0:=by
 rcases h with h|h
 .rw[h];omega
 .rw[show atL i (amA m)=zb from zE (by show ¬m.listen=i;omega)];exact Int.mul_zero _
def oy{P:Prop}(h:P:=by(try simp only[zBL,zA6,or_true,true_or,D8,qyO,EQ,dM,sgA,sgS,sgL])<;>intros<;>omega):P:=h
def Nn(hA:sgA m'=0/\sgA m=0/\sgS m'=0/\sgS m=0:=by exact oy)(u:m'.listen=m.listen/\sgL m'=sgL m\/(sgL m=0\/m.listen<0)/\(sgL m'=0\/m'.listen<0):=by exact oy):Cn (thO ops d given m) (thO ops d given m'):=by
 obtain⟨a,b,c,e⟩:=hA;refine⟨λp=>?_,λi=>?_⟩
 .rw[qfB,qfB,qfB,qfB,a,b,c,e];omega
 .rw[qfB,qfB];rcases u with⟨h,q⟩|⟨h,q⟩
  .rw[q,show atL i (amA m')=atL i (amA m) by unfold atL;rw[show(amA m').listen=(amA m).listen from h]]
  .rw[MD h,MD q]
def qyU(q:amA m'=amA m:=by exact rfl)(hA:sgA m'=sgA m:=by exact oy)(u:sgS m'=sgS m:=by exact oy)(h:sgL m'=sgL m\/m.listen<0:=by exact oy):Cn (thO ops d given m) (thO ops d given m'):=by
 refine⟨λp=>?_,λi=>?_⟩
 .rw[q5F q,q5F q,hA,u];omega
 .rw[q5F q];rcases h with h|h
  .rw[h];omega
  .rw[show atL i (amA m)=zb from zE (by show ¬m.listen=i;omega)];show _+(sgL m'*0-sgL m*0)=_;omega
end
section
variable{w w':Wd}{t:Z}{m m':Aj}{ops:F OpD}{d:Z}{given:F Ans}{k k':zn}{v:AL}{gr:Bm}{en:Bz}
def dE(h:Ay w m v gr en):D8 w m=if m.op.kind=1/\(1<=m.pc/\m.pc<=2/\m.Al≠w.Al\/10<=m.pc/\m.pc<=11/\en.head≠m.word)\/m.op.kind=2/\1<=m.pc/\m.pc<=2/\en.head≠m.word then 1 else 0:=by
 unfold D8;rw[h.mE]
def Qt.end{en'}(h:Ay w m v gr en)(u:en'.head=en.head:=by exact rfl):Qt w (wE w m v gr en'):=⟨rfl,λi j k e A a b=>by
 rw[h.LR]at b;by_cases q:i=m.Ac.toNat/\j=m.Ak.toNat/\k=m.An.toNat
 .obtain⟨rfl,rfl,rfl⟩:=q;rw[zk ⟨rfl,rfl,rfl⟩]at b;rw[h.AT]at a;cases a;cases b;exact u
 .rw[zh q,a]at b;cases b;rfl,rfl⟩
def Ir(h:Thr w t (thO ops d given m))(hk:m.op.kind=1)(o:Oth w w' t (thO ops d given m))(q:Dlt w w' (thO ops d given m) (thO ops d given m'))(hs:qXB w' m'=I)(u:HWy w' m':=by exact{})(dq:Qt w w'/\(m.pc<=11\/11<m'.pc)\/m.pc<=11/\11<m'.pc:=by exact .inl ⟨.of,oy⟩)(pd:m.pc+3*D8 w' m'+1<=m'.pc+3*D8 w m:=by exact oy)(hp:1<=m'.pc:=by exact oy)(hop:m'.op=m.op/\m'.Ag=m.Ag:=by exact⟨rfl,rfl⟩):Stp w t (thO ops d given m) w' m':=by
 have B:m'.op.kind=1:=by rw[hop.1];exact hk
 have A:dM m'<=dM m:=by rcases dq with⟨_,b⟩|b<;>exact ow
 refine .on h o q hs {h:=λ_=>u} ?_ (λC D E H=>ow) hop;rcases dq with⟨a,_⟩|b
 .exact .inl ⟨a,A⟩
 .exact .inr ow
def qyG(h:Thr w t (thO ops d given m))(q:wdB w=I)(hk:m.op.kind=1)(hs:qXB w m'=I)(u:HWy w m':=by exact{})(hc:Cn (thO ops d given m) (thO ops d given m'):=by exact Nn)(pd:m.pc+3*D8 w m'+1<=m'.pc+3*D8 w m:=by exact oy)(hp:1<=m'.pc/\(m.pc<=11\/11<m'.pc):=by exact oy)(hop:m'.op=m.op/\m'.Ag=m.Ag:=by exact⟨rfl,rfl⟩):Stp w t (thO ops d given m) w m':=
 Ir h hk (.refl q ..) (.none hc hop.1) hs u (.inl ⟨.of,hp.2⟩) pd hp.1 hop
def sgk(h:m.op.kind=1)(hp:m.pc=k):sgA m=(if 20<=k/\m.answer.kind=1 then 1 else 0)/\sgS m=(if k=12\/20<=k/\m.answer.kind=1 then 1 else 0)/\sgL m=if 5<=k/\k<=22\/k=23/\m.answer.kind=1 then 1 else 0:=by
 subst hp;exact⟨ow,ow,ow⟩
def Mx(h:Thr w t (thO ops d given m))(A:wdB w=I)(hk:m.op.kind=1)(hp:m.pc<3):Stp w t (thO ops d given m) (hsW w m) (hsM w m):=by
 obtain⟨hs,C,_,_,D⟩:=h.got;obtain⟨v,gr,en,q⟩:=Ar.1 hs;have y:=C.h hk;have H:=y.pc;obtain⟨c1,c2,_⟩:=qXU (w:=w) (m:=m) ⟨sa,hp⟩;have L:=qxF A;rw[c1,c2];rcases(by omega:m.pc=0\/m.pc=1\/m.pc=2)with u|u|u
 .rw[(qgO hs).1 sa,(qFI hs).1 u];exact qyG h A hk q.Br.AZ
 .obtain⟨E,M⟩:=y.ep sa sa;rw[(qgO hs).2 u,wrE ⟨E,sa⟩,D,zBn,(qFI hs).2.1 u];have o:=Oth.pin (t:=t) (x:=thO ops d given m) A (p:=m.Al+1) sa;exact Ir h hk o (.none qyU) (q.move o.right q.ver.2 q.i q.k).Br.AZ
 .rw[(qgO hs).1 sa,(qFI hs).2.2.1 u];by_cases B:w.Al=m.Al
  .rw[zk B];exact qyG h A hk q.Br.AZ
  .rw[zh B];exact qyG h A hk q.Br.AZ
end
section
variable{w w':Wd}{t:Z}{m m':Aj}{ops:F OpD}{d:Z}{given:F Ans}{k k':zn}{v:AL}{gr:Bm}{en:Bz}
def Ay.zer(h:Ay w m v gr en){v'}{u}(A:w.Ab[m'.Ac.toNat]?=O v')(B:v'.Am[m'.Ak.toNat]?=O u)(q:(0<=m'.Ac/\0<=m'.Ak/\0<=m'.An/\m'.An<u.ends.length/\0<=m'.other/\m'.other<u.ends.length)/\m'.slot=0/\(-1<=m'.listen/\m'.listen<w.Aa.length)/\0<=m'.i:=by exact oz)(k:m'.Ag=m.Ag/\m'.done=m.done/\m'.k=m.k:=by exact⟨rfl,rfl,rfl⟩):qXB w m'=I:=by
 have D:=qkB h.right A;obtain⟨c,_,_,_,_,_,E⟩:=D.ends B;obtain⟨⟨H,L,M,U,P⟩,V,Q,R⟩:=q;obtain⟨T,C⟩:=qBA (l:=u.ends) (i:=m'.An.toNat) sa;have W:=(E T (zl C)).2;exact Ay.AZ ⟨h.right,by rw[k.1];exact h.Ag,by rw[k.2.1];exact h.done,⟨H,A⟩,⟨L,B⟩,⟨M,C⟩,P,sa,Q,R,by rw[k.2.2];exact h.k⟩
def Mz(h:Thr w t (thO ops d given m))(q:Ay w m v gr en)(hk:m.op.kind=1)(y:HWy w m)(U:hGo w m)(hp:m.pc=3\/5<=m.pc/\m.pc<=10):Stp w t (thO ops d given m) (hsW w m) (hsM w m):=by
 have u:=q.right;obtain⟨c1,c2,_⟩:=qVF U sa;rw[c1,c2];obtain⟨E,V,R⟩:=q.at_;have ad:=q.i;have ae:=q.other;have af:=q.ver.1;have ag:=q.clu.1;have ah:=q.listen;rcases hp with A|hp
 .obtain⟨B,C,_⟩:=ha3 (w:=w) A;rw[B,C];obtain⟨ai,T,_,aj,ak⟩:=qJO u;obtain⟨al,an,W,ao,ap,aq⟩:=(qkB u T).first;have ar:=qpR w.Aa m.op.listen;unfold hM3;split<;>exact qyG h u hk (q.zer T W)
 have au:=y.lst sa sa;obtain⟨_,_,_,Y,aa,_,_⟩:=(qkB u q.ver.2).ends q.clu.2;rcases(by omega:m.pc=5\/m.pc=6\/m.pc=7\/m.pc=8\/m.pc=9\/m.pc=10)with A|A|A|A|A|A
 .obtain⟨B,C,_⟩:=ha5 (w:=w) A;have H:=y.nul sa sa;obtain⟨av,aw⟩:=y.nu2 sa sa;rw[B,C];unfold hM5 qFQ;rw[E];split
  .exact qyG h u hk q.Br.AZ
  split
  .exact qyG h u hk q.Br.AZ
  .rename_i c ab;have L:=qkB u q.ver.2;have ax:=q0Q L.AJ ab;obtain⟨ay,D⟩:=qBA (l:=v.Am) (i:=c.toNat) (by have:=L.len;omega);obtain⟨M,ac,az,Y,aa,_,_⟩:=L.ends D;rw[M7 E ac];split
   .exact qyG h u hk (q.zer q.ver.2 D)
   split
   .exact qyG h u hk (q.zer q.ver.2 D)
   .have hd:∀x,0<=q3F M x/\q3F M x<M.AA.length:=λx=>qkM x sa;have:=hd m.op.d0;have:=hd m.op.d1;exact qyG h u hk (q.zer q.ver.2 D)
 .obtain⟨B,C,_⟩:=ha6 (w:=w) A;have H:=y.nul sa sa;rw[B,C,E,V];have P:=q.JL (wU (gr.AQ+1));have aA:=q.cl.2;have aB:=qkM (c:=mC w m) gr.AQ sa;exact Ir h hk (.NJ q _) (.none Nn (hE:=q.LS _)) (P.zer P.ver.2 P.clu.2) (dq:=.inl ⟨.of (h2:=q.LS _),oy⟩)
 .obtain⟨B,C,_⟩:=ha7 (w:=w) A;have H:=y.nul sa sa;rw[B,C,R];exact qyG h u hk (q.Br λ_=>(qCC q.Bv).2.2.2).AZ
 .obtain⟨B,C,_⟩:=ha8 (w:=w) A;have H:=y.nul sa sa;rw[B,C];have aC:=(zd.1 q.An.2).1;have aD:=qUU (x:=m.i) (y:=(mE w m m.other).Ah) (k:=gr.ends.length) ⟨q.An.1,sa⟩ q.other;exact qyG h u hk (q.zer q.ver.2 q.clu.2)
 .obtain⟨B,C,_⟩:=ha9 (w:=w) A;rw[B,C];unfold hM9;rw[R];split
  .have Q:Ay w {m with word:=en.head,slot:=By en.head,pc:=10} v gr en:=⟨u,q.Ag,q.done,q.ver,q.clu,q.An,q.other,‹_›,q.listen,q.i,q.k⟩;exact qyG h u hk Q.AZ {hd:=λ_ _=>⟨.inl (by rw[Q.mE]),rfl⟩} (pd:=by rw[dE q,dE Q];exact oy)
  .exact qyG h u hk q.Br.AZ
 .obtain⟨B,C,_⟩:=LO (w:=w) A;rw[B,C];exact qyG h u hk q.Br.AZ {hd:=λ_ _=>y.hd sa sa,lk:=λ_ _=>rfl} (pd:=by rw[dE q,dE q.Br];exact oy)
end
def qLL{e}{l}(h:qMC e=O l)(s):frI e s=b1 (decide (s∈l)):=by
 unfold frI;rw[h];show b1 (l.contains s)=_;rw[List.contains_eq_mem]
def qvQ{e q:Bz}{x}{l}(h:qMC e=O (x::l))(u:qMC q=O l)(A:x∉l)(s):frI e s=frI q s+if x=s then 1 else 0:=by
 rw[qLL h,qLL u];by_cases hs:x=s
 .subst hs;rw[zk rfl,zE A,zC (zAm ..)];rfl
 .rw[zh hs,show decide (s∈x::l)=decide (s∈l) by
   rw[decide_eq_decide,zJ]
   exact⟨λh=>h.elim (λe=>absurd e.symm hs) id,.inr⟩]
  omega
section
variable{w w':Wd}{t:Z}{m m':Aj}{ops:F OpD}{d:Z}{given:F Ans}{k k':zn}{v:AL}{gr:Bm}{en:Bz}
def quZ(h:wdB w=I){i:Z}{x}(q:w.Aa[i]?=O x):0<=x.Ah:=by
 have:=(q0B h).2.2.2.2.2;rw[AK]at this;have:=this _ x q;unfold qoB at this;simp only[zj]at this;exact(Hu.1 this.1).2.1
def qmS{x}(h:-1<=x/\x<=1000001):wI x=x:=qsE sa
def My(h:Thr w t (thO ops d given m))(q:Ay w m v gr en)(hk:m.op.kind=1)(y:HWy w m)(ab:hGo w m)(hp:m.pc=4\/11<=m.pc/\m.pc<=22)(ac:en.Ah<=1000000/\0<=BQ en.head/\BQ en.head<=1000000)(hM:∀x∈w.Aa,x.Ah<=1000000)(ad:m.pc=22->1<=(mL w m).Ah):Stp w t (thO ops d given m) (hsW w m) (hsM w m):=by
 have M:=q.right;have an:=y.pc;obtain⟨c1,c2,_⟩:=qVF ab sa;rw[c1,c2];obtain⟨W,Y,E⟩:=q.at_;have act:=(qCC q.Bv).2.2.2;rcases(by omega:m.pc=20\/m.pc=21\/m.pc=4\/m.pc=11\/m.pc=12\/m.pc=22)with A|A|A|A|A|A
 .obtain⟨u,B,_⟩:=LL (w:=w) A;obtain⟨Q,R⟩:=q.CQ (qWN m);have:=y.kd sa;rw[u,B];exact Ir h hk {right:=Q} (.none qyU) R.Br.AZ {ka:=λ_=>y.ka sa}
 .obtain⟨u,B,_⟩:=LK (w:=w) A;obtain⟨Q,R⟩:=q.CQ 0;have:=y.kd sa;rw[u,B];split<;>exact Ir h hk {right:=Q} (.none qyU) R.Br.AZ {ka:=λ_=>y.ka sa}
 all_goals have H:=y.lst sa sa
 .obtain⟨u,B,_⟩:=ha4 (w:=w) A;obtain⟨C,_⟩:=q.lis H;have ae:=quZ M C;have af:=hM _ (zl C);have ao:=y.nul sa sa;obtain⟨ap,aq⟩:=y.nu2 sa sa;rw[u,B,qmS sa];have o:=Oth.lis (t:=t) (x:=thO ops d given m) M C (a:=(mL w m).Ah+1) sa (zAI _);exact Ir h hk o (.lis C H) (q.DI o.right).Br.AZ
 .obtain⟨u,B,_⟩:=LN (w:=w) A;obtain⟨ar,ag⟩:=y.hd sa sa;have L:=y.lk A;rw[E]at L;by_cases D:en.head=m.word
  .replace L:=L D;obtain⟨l,P⟩:=(qCC q.Bv).1;have au:=q.slot;rcases q6J P with⟨_,ah⟩|⟨x,r,rfl,C,_,_,ai,_⟩
   .rw[D]at ah;omega
   obtain⟨aj,_,_,av,T,_⟩:=qHb q.Bv P;have aa:m.slot=x:=by rw[ag,<-D,C]
   have U:Hv w m=I:=by
    unfold Hv qoC;rw[E,D,L,aa];simp only[zj,zx,zBL];exact T
   have ak:{en with head:=qHD m.word m.link}=GN en:=by
    unfold GN;rw[L,<-D,aa,C]
   simp only[U,zBp,Es,W,Y,E,ak]at u B;rw[u,B];have o:=Oth.end (t:=t) (x:=thO ops d given m) q aj rfl le1 (.inr (by unfold GN;rw[C];exact qxP T ac.2)) λs _ _ V=>absurd rfl V
   have al:qMC (GN en)=O r:=by
    unfold GN;rw[C];exact quQ P (q2J T) en.Ah
   exact Ir h hk o (.end q (λs _ _=>by have:=qvQ P al ai s;exact ow) (hA:=by show en.Ah=_;exact ow)) (q.Hm o.right).Br.AZ (dq:=.inr oy)
  .have U:Hv w m=zb:=by unfold Hv;rw[E,zE D];rfl
   simp only[U,zAS,zCd]at u B;rw[u,B];exact qyG h M hk q.Br.AZ (pd:=by rw[dE q,dE q.Br];exact oy)
 .obtain⟨u,B,_⟩:=LM (w:=w) A;simp only[Es,W,Y,E,qmS (show -1<=en.Ah+1/\en.Ah+1<=1000001 by omega)]at u;rw[u,B];have o:=Oth.end (t:=t) (x:=thO ops d given m) q (qGO q.Bv (a:=en.Ah+1) sa).1 rfl (zAI _) (.inl rfl) λs _ _ V=>absurd rfl V;exact Ir h hk o (.end q λs _ _=>by show frI en s+_=_;exact ow) (q.Hm o.right).Br.AZ {ka:=λ_ _=>⟨rfl,H⟩} (.inl ⟨.end q,oy⟩)
 .obtain⟨u,B,_⟩:=LJ (w:=w) A;obtain⟨C,_⟩:=q.lis H;have ae:=ad A;have af:=hM _ (zl C);have aw:=y.k22 A;have:=y.kd sa;rw[u,B,qmS sa];have o:=Oth.lis (t:=t) (x:=thO ops d given m) M C (a:=(mL w m).Ah-1) sa sa;exact Ir h hk o (.lis C H) (q.DI o.right).Br.AZ {ka:=λ_=>y.ka sa}
def Mw(h:Thr w t (thO ops d given m))(u:Ay w m v gr en)(hk:m.op.kind=1)(y:HWy w m)(H:hGo w m)(L:m.Ag=t)(q:m.pc=23):Stp w t (thO ops d given m) (hsW w m) (hsM w m):=by
 have E:=u.right;obtain⟨c1,c2,_⟩:=qVF H sa;obtain⟨B,M,_⟩:=LI (w:=w) q;have T:=qxF E;have U:=y.kd sa;have P:=y.ka sa;unfold Jp at B;rw[u.AZ,zk rfl,L,zBn]at B;rw[c1.trans B,c2.trans M];have o:=Oth.pin (t:=t) (x:=thO ops d given m) E (p:=0) sa;have V:=u.Ag;have hp:(w.pins.set t 0)[t]?=O 0:=by rw[zBu sa]
 by_cases C:m.answer.kind=1
 .obtain⟨Q,R⟩:=P C
  have e:FK (opA given) m.answer=opA given++[amA m]:=by
   unfold FK;rw[zk C,<-Q]
  have D:∀s p,con s p ⟨ops,d+1,zb,{m with done:=I},given++[m.answer]⟩=cO p (opA given)+b1 (p (amA m)):=λs p=>(qEK s p {m with done:=I}).trans (by
   show cO p (FK (opA given) m.answer)=_;rw[e];unfold cO b1;rw[zDv,List.countP_singleton]
   split<;>omega)
  refine .off rfl o (.of (hc:=⟨λp=>?_,λi=>?_⟩) (hb:=ow) (hk:=ow)) (λx A=>?_) hp (.inl (Qt.of (w':={w with pins:=w.pins.set t 0}))) h sa
  .rw[D,D,qfB,qfB,show sgA m=1 from ow,show sgS m=1 from ow];omega
  .rw[D,qfB,show sgL m=1 from ow];omega
  .replace A:x∈FK (opA given) m.answer:=A;rw[e]at A;rcases zL.1 A with A|A
   .exact .inl A
   .right;rw[zA9.1 A];exact⟨⟨u.ver.1,u.clu.1,u.An.1⟩,⟨en,u.AT,u.slot⟩,⟨R,u.listen.2⟩,rfl,rfl,rfl⟩
 .exact .Jq h o (ha:=⟨C,show m.answer.kind≠6 by omega⟩) (hp:=λ_=>hp)
def NU(h:Thr w t (thO ops d given m))(A:wdB w=I)(hk:m.op.kind=1)(hE:∀i j k e,AT w i j k=O e->e.Ah<=1000000/\0<=BQ e.head/\BQ e.head<=1000000)(hM:∀x∈w.Aa,x.Ah<=1000000)(B:m.pc=22->1<=(mL w m).Ah):Stp w t (thO ops d given m) (hsW w m) (hsM w m):=by
 obtain⟨hs,C,_,_,D⟩:=h.got;obtain⟨v,gr,en,q⟩:=Ar.1 hs;have y:=C.h hk;have E:=y.pc;have P:=y.lst;have u:hGo w m:=⟨hs,E,sa⟩;by_cases H:m.pc<3
 .exact Mx h A hk H
 by_cases L:m.pc=23
 .exact Mw h q hk y u D L
 by_cases M:m.pc=3\/5<=m.pc/\m.pc<=10
 .exact Mz h q hk y u M
 .exact My h q hk y u sa (hE _ _ _ _ q.AT) hM B
end
section
variable{w w':Wd}{t:Z}{m m':Aj}{ops:F OpD}{d:Z}{given:F Ans}{k k':zn}{v:AL}{gr:Bm}{en:Bz}
def sg2(h:m.op.kind=2)(hp:m.pc=k):sgA m=(if k=4 then -1 else 0)/\sgS m=(if 3<=k/\k<=4 then -1 else 0)/\sgL m=0:=by
 subst hp;exact⟨ow,ow,ow⟩
def Km(h:Thr w t (thO ops d given m))(hk:m.op.kind=2)(o:Oth w w' t (thO ops d given m))(q:Dlt w w' (thO ops d given m) (thO ops d given m'))(hs:qXB w' m'=I)(dq:Qt w w'/\(m.pc<=2\/2<m'.pc)\/m.pc<=2/\2<m'.pc:=by exact .inl ⟨.of,oy⟩)(lk:m'.pc=2->CM (mE w' m' m'.An).next m'.slot=By m'.word:=by exact oz)(pd:m.pc+3*D8 w' m'+1<=m'.pc+3*D8 w m:=by exact oy)(hp:m.pc<=4/\0<=m'.pc/\m'.pc<=4:=by exact oy)(u:w'.pins=w.pins:=by exact rfl)(hop:m'.op=m.op/\m'.Ag=m.Ag:=by exact⟨rfl,rfl⟩)(A:amA m'=amA m:=by exact rfl):Stp w t (thO ops d given m) w' m':=by
 have C:m'.op.kind=2:=by rw[hop.1];exact hk
 refine .on h o q hs {f:=λ_=>{lk:=lk}} ?_ (λD E H B=>?_) hop (λ_ _=>⟨sa,A⟩) λ_=>by rw[u];exact h.got.2.2.2.1 sa
 .rcases dq with⟨a,_⟩|b
  .exact .inl ⟨a,ow⟩
  .exact .inr ow
 .simp only[dM]at B;exact ow
def qzX{l}{s}(hl:qMC en=O l)(h:frI en s<=0):s∉l:=λhm=>by
 rw[qLL hl,zC hm]at h;exact absurd h sb
def qxY{A:Ans}(hA:A={amA m with kind:=6})(hm:amA m∈opA given)(hp:∀a∈opA given,AnP w a):∃l,FK (opA given) A=l/\(∀p,cO p l=cO p (opA given)-b1 (p (amA m)))/\∀a∈l,a∈opA given:=by
 obtain⟨i,u,e⟩:∃i,(opA given)[i]?=O (amA m)/\FK (opA given) A=(opA given).eraseIdx i:=by
  unfold FK;rw[zh (show ¬A.kind=1 by rw[hA];exact ze rfl),zk (show A.kind=6 by rw[hA])];cases h:(opA given).findIdx? (q3G A)with
  |none=>
   have:=List.findIdx?_eq_none_iff.1 h _ hm;rw[(HY (A:=A) (B:=amA m)).2 (by rw[hA];exact⟨rfl,rfl,rfl,rfl,rfl,rfl⟩)]at this;cases this
  |some i=>
   obtain⟨q,hm,_⟩:=List.findIdx?_eq_some_iff_getElem.1 h;refine⟨i,?_,rfl⟩;rw[zAe q];obtain⟨_,C,D,E,H,L⟩:=HY.1 hm;have M:=Ans.am (hp _ (zDb q));generalize(opA given)[i]=z at*;rw[M,<-C,<-D,<-E,<-H,<-L,hA];rfl
 refine⟨_,e,λp=>?_,λa P=>zCZ P⟩;have:=(q8K u).countP_eq p;rw[List.countP_cons]at this;unfold cO b1;rw[this];split<;>omega
def NT(h:Thr w t (thO ops d given m))(q:Ay w m v gr en)(hk:m.op.kind=2)(ak:en.Ah<=1000000/\0<=BQ en.head/\BQ en.head<=1000000)(hM:∀x∈w.Aa,x.Ah<=1000000)(al:m.pc=4->1<=(mL w m).Ah)(hA:m.pc=3->1<=en.Ah)(af:1<=m.pc->m.pc<=2->frI en m.slot<=0):Stp w t (thO ops d given m) (fsW w m) (fsM w m):=by
 have P:=q.right;obtain⟨hs,an,ao,_⟩:=h.got;have y:=an.f hk;have ap:=y.pc;obtain⟨U,V,H⟩:=q.at_;have act:=(qCC q.Bv).2.2.2;have W:=q.slot;have Y:=ao hk
 have aq:fGo w m:=⟨hs,ap,λu=>by
  have:=(h.op _ (Y sa)).lis.1;have:0<=m.listen:=this
  omega⟩
 obtain⟨c1,c2,_⟩:=qfN aq;rw[c1,c2];obtain⟨l,D⟩:=(qCC q.Bv).1;rcases(by omega:m.pc=0\/m.pc=1\/m.pc=2\/m.pc=3\/m.pc=4\/m.pc=9)with u|u|u|u|u|u
 .obtain⟨A,B,_⟩:=fa0 (w:=w) u;rw[A,B,H];exact Km h hk (.refl P ..) (.none qyU) q.Br.AZ (pd:=by rw[dE q,dE q.Br];exact oy)
 .obtain⟨A,B,_⟩:=fa1 (w:=w) u;rw[A,B,Es,U,V,H];have Q:=qzX D (af sa sa);obtain⟨ar,au⟩:=qeZ q.Bv D W.1 Q (By m.word)
  have av:1<=con sgS (atS m.Ac.toNat m.Ak.toNat m.An.toNat m.slot) (thO ops d given m):=by
   have:=qYL (p:=atS m.Ac.toNat m.Ak.toNat m.An.toNat m.slot) (Y sa);rw[q.am.2]at this;have:(1:zn)<=cO _ (opA given):=this;rw[qfB,show sgS m=0 from ow];omega
  have o:Oth w (wE w m v gr {en with next:=en.next.set m.slot.toNat (By m.word)}) t (thO ops d given m):=.end q au sd le1 (.inl rfl) λs ag aa L=>by
   by_cases C:s=m.slot
   .rw[C];exact av
   .exact absurd (qiQ W.1 ⟨ag,aa⟩ C) L
  have ab:=(q.Hm o.right).Br (m':={m with pc:=2});refine Km h hk o (.end q λs _ _=>?_) ab.AZ (.inl ⟨.end q,oy⟩) (λ_=>?_) (by rw[dE q,dE ab];exact oy)
  .rw[qLL D,qLL ar,show sgS m=0 from ow,show sgS {m with pc:=2}=0 from ow]
  .rw[ab.mE];unfold CM;show((en.next.set m.slot.toNat _)[m.slot.toNat]?).getD 0=_;rw[zBu sa];rfl
 .obtain⟨A,B,_⟩:=fa2 (w:=w) u;rw[A,B,Es,U,V,H];by_cases C:en.head=m.word
  .rw[zk C,zk C];have Q:=qzX D (af sa sa);have R:=y.lk u;rw[H,<-C]at R;have aD:=(qCC q.Bv).2.2.1;have ah:-1<=m.slot/\m.slot<=2147483646:=sa
   have aw:en.next.set m.slot.toNat (By en.head)=en.next:=by
    obtain⟨z,M⟩:=qBA (l:=en.next) (i:=m.slot.toNat) sa;have:z=By en.head:=by unfold CM at R;rw[M]at R;exact R
    rw[<-this];exact q7I M
   have ac:=qZU D W Q (q2J (w:=en.head) ah) en.Ah;rw[aw,C]at ac
   have ax:Bv {en with head:=qHD m.word m.slot}=I:=by
    obtain⟨_,ay,az,aA⟩:=qCC q.Bv;unfold Bv;rw[show qMC {en with head:=qHD m.word m.slot}=_ from ac];simp only[zj,zx,zCh,zBL];exact⟨⟨ay,az⟩,aA⟩
   have o:=Oth.end (t:=t) (x:=thO ops d given m) q ax rfl le1 (.inr (by rw[C];exact qxP ah (by rw[<-C];exact ak.2))) λs _ _ L=>absurd rfl L;exact Km h hk o (.end q λs _ _=>by have:=qvQ ac D Q s;exact ow) (q.Hm o.right).Br.AZ (.inr oy)
  .rw[zh C,zh C];exact Km h hk (.refl P ..) (.none qyU) q.Br.AZ (pd:=by rw[dE q,dE q.Br];exact oy)
 .obtain⟨A,B,_⟩:=fa3 (w:=w) u;have aa:=hA u;rw[A,B,Es,U,V,H,qmS (show -1<=en.Ah-1/\en.Ah-1<=1000001 by omega)];have o:=Oth.end (t:=t) (x:=thO ops d given m) q (qGO q.Bv (a:=en.Ah-1) sa).1 rfl (by show en.Ah-1<=_;omega) (.inl rfl) λs _ _ L=>absurd rfl L;exact Km h hk o (.end q λs _ _=>by show frI en s+_=_;exact ow) (q.Hm o.right).Br.AZ (.inl ⟨.end q,oy⟩)
 .obtain⟨A,B,_⟩:=fa4 (w:=w) u;have ai:=Y sa;have aj:0<=m.listen:=(h.op _ ai).lis.1;obtain⟨E,_⟩:=q.lis aj;have ag:=al u;have aa:=hM _ (zl E);rw[A,B,qmS sa];have o:=Oth.lis (t:=t) (x:=thO ops d given m) P E (a:=(mL w m).Ah-1) sa sa;generalize hA:(⟨6,m.Ac,m.Ak,m.An,m.slot,m.listen,0,c60⟩:Ans)=T;obtain⟨l,e,aB,sub⟩:=qxY hA.symm ai h.op
  have ad:∀s p,con s p ⟨ops,d+1,zb,{m with done:=I,answer:=T},given++[T]⟩=cO p (opA given)-b1 (p (amA m)):=λs p=>(qEK s p {m with done:=I,answer:=T}).trans (by
   show cO p (FK (opA given) T)=_
   rw[e,aB])
  refine .off rfl o ⟨λi j k f aC=>.inl ⟨f,aC,?_,λs _ _=>?_⟩,λj z aE M ae=>?_,λi _=>ow,.inl rfl,ow⟩ (λx E=>.inl (sub x (by rw[<-e];exact E))) (h.got.2.2.2.1 sa) (.inl (Qt.of (w':={w with Aa:=w.Aa.set m.listen.toNat {mL w m with Ah:=(mL w m).Ah-1}}))) h sa
  .rw[ad,qfB,show sgA m=-1 from ow];omega
  .rw[ad,qfB,show sgS m=-1 from ow];omega
  .rw[ad,qfB,show sgL m=0 from ow];rcases qNC E ae with⟨rfl,rfl⟩|⟨aF,ae⟩
   .cases E.symm.trans M;rw[show atL m.listen.toNat (amA m)=I from zC (zAK aj).symm];show(mL w m).Ah-1=(mL w m).Ah+(_-1)-(_+0*1);omega
   .cases M.symm.trans ae;rw[show atL j (amA m)=zb from zE (by show ¬m.listen=j;omega)];show _=_+(_-0)-(_+0*0);omega
 .obtain⟨A,B,_⟩:=fa9 (w:=w) u;rw[A,B];exact .Jq h (.refl P ..)
end
section
variable{w w':Wd}{t:Z}{x:ThD}{m:Aj}{l:F ThD}{ops:F OpD}{d:Z}{given:F Ans}{N:Z}{n:zn}
def Cv.all(h:Cv n N w l){f}(q:∀(u:Z)y,Thr w u y->0<=f y)(A:l[t]?=O x):f x<=AD f l:=q6I (λy B=>by
 obtain⟨u,C⟩:=zT.1 B
 exact q u y (h.thr u y C)) A
def Cv.lis(h:Cv n N w l)(u:l[t]?=O (thO ops d given m))(hl:0<=m.listen){y}(q:w.Aa[m.listen.toNat]?=O y):cO (atL m.listen.toNat) (opA given)+sgL m<=y.Ah:=by
 have B:=h.gau.li _ _ q;have A:=h.all (f:=con sgL (atL m.listen.toNat)) (λC y q=>q8Q q1a q _) u;rw[qfB,show atL m.listen.toNat (amA m)=I from zC (zAK hl).symm]at A;have:sgL m*b1 I=sgL m:=Int.mul_one _;omega
def Cv.kop(h:Cv n N w l)(u:l[t]?=O (thO ops d given m)):1<=m.op.kind/\m.op.kind<=6:=by
 obtain⟨B,q,_⟩:=(h.thr t _ u).on rfl;have q:m.op=(thO ops d given m).op:=q;obtain⟨o,A⟩:=qBA (show d<ops.length from B);refine(h.kin t _ u _ ?_).1;rw[q];unfold ThD.op;show(ops[d]?).getD op0∈_;rw[A];exact zl A
def Cv.sw(h:Cv n N w l)(u:l[t]?=O (thO ops d given m))(B:m.op.kind=3)(q:1<=m.pc):m.Ac≠w.current/\lbC w.Ai m.Ac.toNat=0:=by
 obtain⟨v,L,M,A⟩:=Ar.1 (h.thr t _ u).got.1;have C:=A.ver.1;have D:=(zd.1 A.ver.2).1;have E:=h.gau.vr _ D;have H:=h.all (f:=cV m.Ac.toNat) (λP y _=>OG _ y) u;rw[cV3 B,b1t ⟨q,(zAK C).symm⟩]at H;have Q:=qhc (decide (w.current=m.Ac.toNat));have R:0<=lbC w.Ai m.Ac.toNat:=zCi _;refine⟨λe=>?_,sa⟩;rw[b1t sa]at E;omega
def Cv.stp(h:Cv n N w l)(ah:N<=1000000)(D:l[t]?=O (thO ops d given m)):Stp w t (thO ops d given m) (psW w m) (psM w m):=by
 have B:=h.thr t _ D;obtain⟨hs,Y,Q,_,_⟩:=B.got;obtain⟨v,ai,aj,u⟩:=Ar.1 hs;have H:=h.right;have ak:=h.kop D;have aa:=h.bd.ea;have hE:∀i j k e,AT w i j k=O e->e.Ah<=1000000/\0<=BQ e.head/\BQ e.head<=1000000:=λi j k e ab=>by have:=aa i j k e ab;omega
 have hM:∀x∈w.Aa,x.Ah<=1000000:=λy R=>by have:=h.bd.la y R;omega
 unfold psW psM;by_cases E:m.op.kind=1
 .rw[zk E,zk E];refine NU B H E hE hM λC=>?_;have V:=(Y.h E).lst sa (.inr C);have:=h.lis D V (u.lis V).1;have:=(sgk E C).2.2;rw[zk (.inl sb)]at this;have:0<=cO (atL m.listen.toNat) (opA given):=zCi _;omega
 rw[zh E,zh E];by_cases q:m.op.kind=2
 .rw[zk q,zk q]
  have cS:∀(s:Aj->zn)(hs:∀m,-1<=s m/\(s m<0->m.op.kind=2/\m.pc≠9))(p:Ans->zM),m.pc≠9->p (amA m)=I->s m=0->1<=AD (con s p) l:=λs hs p ad ae af=>by
   have W:=h.all (f:=con s p) (λag y R=>q8Q hs R _) D;have A:=qYL (p:=p) (Q q ad);rw[qfB,af]at W;rw[ae]at A;have A:1<=cO p (opA given):=A;omega
  refine NT B u q (hE _ _ _ _ u.AT) hM (λC=>?_) (λC=>?_) (λal an=>?_)
  .have T:0<=m.listen:=(B.op _ (Q q sa)).lis.1;have:=h.lis D T (u.lis T).1;have A:=qYL (p:=atL m.listen.toNat) (Q q sa);rw[show atL m.listen.toNat (amA m)=I from zC (zAK T).symm]at A;have A:1<=cO (atL m.listen.toNat) (opA given):=A;have:=(sg2 q C).2.2;omega
  .have:=h.gau.ac _ _ _ _ u.AT;have:=cS sgA q2a _ sa u.am.1 (by have:=(sg2 q C).1;rw[zh sa]at this;exact this);omega
  .have:=h.gau.sl _ _ _ _ u.AT _ u.slot.1 u.slot.2;have:=cS sgS qHT _ sa u.am.2 (by have:=(sg2 q rfl).2.1;rw[zh sa]at this;exact this);omega
 rw[zh q,zh q];by_cases L:m.op.kind=3
 .rw[zk L,zk L];exact NS B H L (h.sw D L)
 rw[zh L,zh L];by_cases P:m.op.kind=4
 .rw[zk P,zk P];exact NR B H P
 rw[zh P,zh P];by_cases M:m.op.kind=5
 .rw[zk M,zk M];refine NQ B H M (λC=>?_) (by have:=h.bd.lb;omega);have W:=h.gau.lk;have A:=h.all (f:=cK) (λag y _=>qGa y) D;rw[cK5 M,b1t C]at A;have U:=q4B H;unfold q6A at U;simp only[zj,zx]at U;have:=U.1.2;omega
 rw[zh M,zh M];exact NP B H sa
def Cv.next(h:Cv n N w l)(A:N<=1000000)(E:n<=8){B}(H:B=23*n+6*l.length+60)(q:l[t]?=O x)(ha:x.done<x.ops.length):Cv n (N+1) (psW w (x.Br t)) (l.set t (x.An (psM w (x.Br t))))/\phi B (psW w (x.Br t)) (l.set t (x.An (psM w (x.Br t))))+1<=phi B w l:=by
 obtain⟨ops,d,on,m,given⟩:=x;cases on with
 |true=>exact h.step q rfl (h.stp A q) B
 |false=>
  obtain⟨C,L⟩:=h.begin q rfl ha E H;have D:=qhA (y:=thO ops d given (qmB t given (ThD.op ⟨ops,d,zb,m,given⟩))) q;have u:=C.step D rfl (C.stp A D) B;rw[qLD]at u;exact⟨u.1,zDI u.2 L⟩
end
def qhM{n}:∀{l out:F BA},n∈BC out l<->n∈out\/n∈l
 |[],out=>by simp[BC]
 |x::r,out=>by
  show n∈BC (if E2 out x then out else out++[x]) r<->_;rw[qhM (l:=r),zJ];split
  .rename_i h;have:=K9.1 h;exact⟨λh=>h.elim .inl λh=>.inr (.inr h),λh=>h.elim .inl λh=>h.elim (λe=>.inl (e▸this)) .inr⟩
  .rw[zL,zA9];exact⟨λh=>h.elim (λh=>h.elim .inl λh=>.inr (.inl h)) λh=>.inr (.inr h),λh=>h.elim (λh=>.inl (.inl h)) λh=>h.elim (λh=>.inl (.inr h)) .inr⟩
def qNQ{n}:∀{l:F OpD}{out:F BA},n∈l.foldl opN out<->n∈out\/∃o∈l,(o.kind=3/\qTA o.Ap=zc)/\n∈o.Ap.Aa
 |[],out=>sd
 |o::r,out=>by
  rw[zBU,qNQ (l:=r)];unfold opN;split
  .rename_i w;rw[qhM];constructor
   .rintro((h|h)|⟨u,q,h⟩)
    .exact .inl h
    .exact .inr ⟨o,zAm ..,w,h⟩
    .exact .inr ⟨u,zAl _ q,h⟩
   .rintro(h|⟨u,q,h⟩)
    .exact .inl (.inl h)
    .rcases zJ.1 q with rfl|q
     .exact .inl (.inr h.2)
     .exact .inr ⟨u,q,h⟩
  .rename_i w;constructor
   .rintro(h|⟨u,q,h⟩)
    .exact .inl h
    .exact .inr ⟨u,zAl _ q,h⟩
   .rintro(h|⟨u,q,h⟩)
    .exact .inl h
    .rcases zJ.1 q with rfl|q
     .exact absurd h.1 w
     .exact .inr ⟨u,q,h⟩
def qkT:∀{l:F OpD}{out:F BA},Uq out->Uq (l.foldl opN out)
 |[],_,h=>h
 |o::r,out,h=>by
  rw[zBU];refine qkT ?_;unfold opN;split
  .exact qYV h
  .exact h
abbrev JW(c:BB)(l:F OpD):CB:=⟨c,[l],[]⟩
def Jt{c}{l}{n}:n∈qZC (JW c l)<->n∈c.Aa\/∃o∈l,(o.kind=3/\qTA o.Ap=zc)/\n∈o.Ap.Aa:=by
 show n∈l.foldl opN (BC [] c.Aa)<->_;rw[qNQ,qhM];simp
def qzR{c}{l}(h:qTA c=zc):qbI (qjB c) (qZC (JW c l)) 1:=by
 have A:qjB c=qGC c:=by unfold qjB;rw[h]
 refine⟨by rw[A,qRL (Bh.1 h)];exact h,⟨sb,sb⟩,?_⟩;rw[AK];intro i n w;have hm:=Jt.1 (zl w);unfold HR;rw[zj,zx];refine⟨?_,?_⟩
 .rcases hm with q|⟨o,_,⟨_,B⟩,q⟩
  .exact(Bh.1 h).ln n q
  .exact(Bh.1 B).ln n q
 .have C:Uq (qZC (JW c l)):=qkT (qYV λi j x y _ u _=>by simp at u);unfold qrB
  have:BN (λ(x:AY)=>bs x.name==bs n) (EM ((qZC (JW c l)).take i))=zc:=by
   rw[Ew,zBK];intro x u;obtain⟨y,D,rfl⟩:=zAb.1 (show x∈List.map _ _ from u);obtain⟨j,E,rfl⟩:=List.mem_take_iff_getElem.1 D;have:=C j i _ n sa (zAe sa) w;simpa using this
  rw[this];exact(by decide:(-1:zn)<0)
def CP(l:F ThD):F Z:=(zBf l.length).filter λi=>((l[i]?).map ThD.alive).getD zb
def plT(l:F ThD)(p:zn):zs Z:=(CP l)[p.toNat%(CP l).length]?
structure PlW where
 w:Wd
 ths:F ThD
def PlW.th(s:PlW)(t:Z):ThD:=(s.ths[t]?).getD ⟨[],0,zb,mZ,[]⟩
noncomputable def PlW.go(s:PlW)(t:Z):PlW:=⟨psW s.w ((s.th t).Br t),s.ths.set t ((s.th t).An (psM s.w ((s.th t).Br t)))⟩
noncomputable def PlW.ev(s:PlW)(t:Z):Ev:={psE s.w ((s.th t).Br t)with op:=(s.th t).done,EP:=!(s.th t).on}
noncomputable def PlW.next(s:PlW)(p:zn):PlW:=match plT s.ths p with
 |some t=>s.go t
 |none=>s
noncomputable def plN(s:PlW)(l:F zn):PlW:=l.foldl PlW.next s
def qaE{l}{p}{t}(h:plT l p=O t):∃x,l[t]?=O x/\x.done<x.ops.length:=by
 have hm:=zl h;unfold CP at hm;rw[zAG,zB4]at hm;obtain⟨x,q⟩:=qBA hm.1;rw[q]at hm;exact⟨x,q,ze hm.2⟩
def qVV{l}(h:CP l=[]){t:Z}{x}(q:l[t]?=O x):¬x.done<x.ops.length:=λu=>by
 have hm:t∈CP l:=by
  unfold CP;rw[zAG,zB4,q];exact⟨(zd.1 q).1,zC u⟩
 rw[h]at hm;cases hm
def qKQ{l}{p}(h:plT l p=zc):CP l=[]:=by
 apply zA3;intro q;have u:=zCU.2 q;have:=zDB p.toNat u;obtain⟨t,w⟩:=qBA this;unfold plT at h;rw[w]at h;cases h
section
variable{n:zn}{N:Z}{s:PlW}
def Cv.up(h:Cv n N s.w s.ths):Cv n (N+1) s.w s.ths:=
 ⟨h.right,⟨by have:=h.bd.ep;omega,λx q=>by have:=h.bd.la x q;omega,λi j k e u=>by have:=h.bd.ea i j k e u;omega,by have:=h.bd.lb;omega,by have:=h.bd.vl;omega⟩,h.gau,h.thr,h.kin,h.lim,h.tl⟩
def Cv.go(h:Cv n N s.w s.ths)(u:N<=1000000)(A:n<=8){t}{x}(q:s.ths[t]?=O x)(ha:x.done<x.ops.length):Cv n (N+1) (s.go t).w (s.go t).ths/\phi (23*n+6*s.ths.length+60) (s.go t).w (s.go t).ths+1<=phi (23*n+6*s.ths.length+60) s.w s.ths/\(s.go t).ths.length=s.ths.length:=by
 have e:s.th t=x:=by unfold PlW.th;rw[q];rfl
 have:=h.next u A rfl q ha;unfold PlW.go;rw[e];exact⟨this.1,this.2,sd⟩
def qtY(h:Cv n N s.w s.ths)(ab:0<=n)(R:CP s.ths≠[]):1<=phi (23*n+6*s.ths.length+60) s.w s.ths:=by
 have T:0<=AD dTo s.ths:=q9H λy _=>qGX y;generalize ac:23*n+6*(s.ths.length:zn)+60=u;have ad:1<=u:=sa
 have C:∀a:Z,0<=u*(a:zn):=λa=>Int.mul_nonneg sa (zCi _)
 have D:∀(q:Z)y,s.ths[q]?=O y->y.on=I->1<=rho s.w (AD dTo s.ths) y.m:=λq y A B=>by
  have E:=h.thr q y A;obtain⟨H,L,_⟩:=E.on B;refine qPT E B ?_ T;rw[L];obtain⟨o,M⟩:=qBA H;have:=h.kin q y A o (zl M);unfold ThD.op;rw[M];exact this.1
 have U:∀y∈s.ths,0<=rhT u s.w (AD dTo s.ths) y:=λy V=>by
  obtain⟨q,A⟩:=zT.1 V;have:=C (EJ y);unfold rhT;split
  .have:=D q y A ‹_›;omega
  .omega
 obtain⟨t,W⟩:=zCW _ R;obtain⟨i,P⟩:=zT.1 W;have Y:=(zd.1 P).1;obtain⟨x,Q,ae⟩:=qaE (l:=s.ths) (p:=(i:zn)) (t:=t) (by unfold plT;rw[zBn,Nat.mod_eq_of_lt Y];exact P);have H:=q6I U Q
 have L:1<=rhT u s.w (AD dTo s.ths) x:=by
  unfold rhT;have:=C (EJ x);split
  .have:=D t x Q ‹_›;omega
  .rename_i B;have aa:EJ x=(x.ops.length-x.done-1)+1:=by unfold EJ;rw[zh B];omega
   rw[aa,qQT];have:=C (x.ops.length-x.done-1);omega
 unfold phi;omega
def qfO(A:0<=n/\n<=8):∀(l:F zn){N:Z}{s:PlW},Cv n N s.w s.ths->N+l.length<=1000000->Cv n (N+l.length) (plN s l).w (plN s l).ths/\(plN s l).ths.length=s.ths.length/\(CP (plN s l).ths=[]\/phi (23*n+6*s.ths.length+60) (plN s l).w (plN s l).ths+l.length<=phi (23*n+6*s.ths.length+60) s.w s.ths)
 |[],N,s,q,_=>⟨q,rfl,.inr (Int.le_of_eq (zCN _))⟩
 |p::r,N,s,q,L=>by
  rw[zBb]at L⊢;have M:N+(r.length+1)=(N+1)+r.length:=sa
  rw[M];have e:plN s (p::r)=plN (s.next p) r:=rfl;rw[e];cases u:plT s.ths p with
  |none=>
   have hs:s.next p=s:=by unfold PlW.next;rw[u]
   rw[hs];obtain⟨B,C,h⟩:=qfO A r q.up sa;refine⟨B,C,.inl ?_⟩;have E:=qKQ u
   have P:∀(r:F zn),plN s r=s:=by
    intro r
    induction r with
    |nil=>rfl
    |cons D r Q=>
     have R:plN s (D::r)=plN (s.next D) r:=rfl
     have:s.next D=s:=by
      unfold PlW.next plT;rw[E];rfl
     rw[R,this];exact Q
   rw[P r];exact E
  |some t=>
   have hs:s.next p=s.go t:=by unfold PlW.next;rw[u]
   rw[hs];obtain⟨x,T,U⟩:=qaE u;obtain⟨V,W,H⟩:=q.go sa A.2 T U;obtain⟨B,C,h⟩:=qfO A r V sa;refine⟨B,C.trans H,?_⟩;rw[H]at h;rcases h with h|h
   .exact .inl h
   .right;rw[zCp];omega
end
noncomputable def plI(s:CB):PlW:=⟨EK (qjB s.first) (qZC s) s.Af.length,s.Af.map λl=>⟨l,0,zb,mZ,[]⟩⟩
def Cf(s:CB):Z:=(s.Af.map List.length).sum
def qEL(s):qZC s=qZC (JW s.first s.Af.flatten):=by
 show s.Af.foldl (λout l=>l.foldl opN out) _=s.Af.flatten.foldl opN _;rw[List.foldl_flatten]
def qPQ:∀{l:F OpD}{out:F BA},(l.foldl opN out).length<=out.length+4*l.countP λo=>decide (o.kind=3)
 |[],_=>Nat.le_add_right _ _
 |o::r,out=>by
  rw[zBU,List.countP_cons];have q:=qPQ (l:=r) (out:=opN out o);unfold opN at q⊢;split at q
  .rename_i h;rw[zk h,zk (zC h.1)];have w:=qeG (out:=out) (l:=o.Ap.Aa);have u:=(Bh.1 h.2).size.1.2;have u:o.Ap.Aa.length<=4:=sa
   omega
  .rename_i h;rw[zh h];split<;>omega
def qLN{s}(h:qTA s.first=zc)(w:1<=s.Af.length/\s.Af.length<=8):qbI (qjB s.first) (qZC s) s.Af.length:=by
 rw[qEL];obtain⟨q,_,u⟩:=qzR (c:=s.first) (l:=s.Af.flatten) h;exact⟨q,sa,u⟩
def qqV(s):s.Af.flatten.length=Cf s:=by rw[List.length_flatten];rfl
def qtJ{s}(q:qTA s.first=zc):(qZC s).length<=4+4*Cf s/\((∃l∈s.Af,∃o∈l,o.kind=5)->(qZC s).length<=4*Cf s):=by
 rw[qEL,<-qqV];have h:=qPQ (l:=s.Af.flatten) (out:=BC [] s.first.Aa);have u:=qeG (out:=[]) (l:=s.first.Aa);have w:=(Bh.1 q).size.1.2;have w:s.first.Aa.length<=4:=sa
 simp only[zCo]at u;have D:=List.countP_le_length (p:=λo:OpD=>decide (o.kind=3)) (l:=s.Af.flatten);have h:(qZC (JW s.first s.Af.flatten)).length<=_:=h;refine⟨sa,?_⟩;rintro⟨l,A,o,B,E⟩
 have:s.Af.flatten.countP (λo:OpD=>decide (o.kind=3))<s.Af.flatten.length:=by
  apply zA3;intro H;have C:=List.countP_eq_length.1 (show s.Af.flatten.countP (λo:OpD=>decide (o.kind=3))=s.Af.flatten.length by omega);have:=ze (C o (zCP.2 ⟨l,A,B⟩));omega
 omega
def q4P{q h:Type}(f:h->zn)(g:q->h)(l):AD f (l.map g)=AD (λx=>f (g x)) l:=by unfold AD;rw[zCM];rfl
def q5P(l)(B):AD (λx:F OpD=>B*(x.length:zn)) l=B*((l.map List.length).sum:Z):=by
 unfold AD
 induction l with
 |nil=>simp
 |cons x r h=>
  simp only[zBP,zDz,h,zCp,Int.mul_add]
def qTM(s p)(l):con s p ⟨l,0,zb,mZ,[]⟩=0:=by rw[qwU];rfl
def qfT{s}(D:qTA s.first=zc)(T:1<=s.Af.length/\s.Af.length<=8)(hk:∀l∈s.Af,∀o∈l,1<=o.kind/\o.kind<=6):Cv (Cf s) 0 (plI s).w (plI s).ths/\phi (23*Cf s+6*s.Af.length+60) (plI s).w (plI s).ths=(23*Cf s+6*s.Af.length+60)*Cf s:=by
 have P:=qLN D T
 have U:wdB (plI s).w=I:=by
  have:=qyR P;rw[zBn]at this;exact this
 have aj:qTA (qRD (qjB s.first))=zc:=P.1
 have hE:∀i j k e,AT (plI s).w i j k=O e->i=0/\∃m:Z,1<=m/\m<=4/\e=qsB m:=λi j k e q=>by
  obtain⟨v,ak,u,A,H⟩:=q1F q;have B:=(zd.1 u).1;have B:i<1:=B;obtain rfl:i=0:=sa
  cases u;have V:qjB s.first=qGC s.first:=by unfold qjB;rw[D]
  rw[V]at A;exact⟨rfl,qLK D A H⟩
 have L:∀(t:Z)x,(plI s).ths[t]?=O x->∃l∈s.Af,x=⟨l,0,zb,mZ,[]⟩:=λt x h=>by
  have:(s.Af.map λl=>(⟨l,0,zb,mZ,[]⟩:ThD))[t]?=O x:=h;rw[zAv,zU]at this;obtain⟨l,u,A⟩:=this;exact⟨l,zl u,A.symm⟩
 have C:∀f:ThD->zn,(∀l,f ⟨l,0,zb,mZ,[]⟩=0)->AD f (plI s).ths=0:=λf W=>q7C λy Y=>by
  obtain⟨aa,ab⟩:=zT.1 Y;obtain⟨l,_,rfl⟩:=L aa y ab;exact W l
 have Q:∀x∈(plI s).w.Aa,x.Ah=0:=λx h=>by
  have h:x∈(qZC s).map λn=>(⟨n,zb,0,zb⟩:AY):=h;obtain⟨_,_,rfl⟩:=zAb.1 h;rfl
 have ac:∀l,EJ ⟨l,0,zb,mZ,[]⟩=l.length:=λl=>rfl
 have ad:AD dTo (plI s).ths=Cf s:=by
  show AD dTo (s.Af.map λl=>(⟨l,0,zb,mZ,[]⟩:ThD))=_;rw[q4P];have:=q5P s.Af 1;rw[show(Cf s:zn)=1*((s.Af.map List.length).sum:Z)from(Int.one_mul _).symm,<-this];refine zK (λf=>AD f _) (funext λl=>?_);show((l.length:Z):zn)+0=1*(l.length:zn);omega
 have ae:Bd 0 (plI s).w:=by
  refine⟨show(0:zn)<=(0:Z) by decide,λx h=>by rw[Q x h];decide,λi j k e q=>?_,show(0:Z)<=0 by decide,show(1:Z)<=0+1 by decide⟩;obtain⟨_,m,_,_,rfl⟩:=hE i j k e q;rw[qgN];exact⟨show(0:zn)<=(0:Z) by decide,zAI _,show(0:zn)<=(0:Z) by decide⟩
 refine⟨⟨U,ae,⟨λi j k e q=>?_,λi j k e q al af u=>?_,λi x h=>?_,λi B=>?_,?_⟩,λt x h=>?_,λt x h o E=>?_,?_,?_⟩,?_⟩
 .obtain⟨_,m,_,_,rfl⟩:=hE i j k e q;rw[C _ λl=>qTM ..];rfl
 .obtain⟨_,m,A,H,rfl⟩:=hE i j k e q;rw[C _ λl=>qTM ..,qtQ ⟨A,H⟩ af u];rfl
 .rw[C _ λl=>qTM ..,Q x (zl h)]
 .rw[C _ λl=>qAV ..];have B:i<1:=B;obtain rfl:i=0:=sa
  show b1 (decide ((0:zn)=((0:Z):zn)))+lbC [] 0+0=1;decide
 .rw[C _ λl=>qEV ..];rfl
 .obtain⟨l,_,rfl⟩:=L t x h;refine⟨λa ag=>(by cases ag),λM=>(by cases M),λM=>(by cases M),λ_=>?_⟩
  have ah:t<s.Af.length:=by
   have:=(zd.1 h).1;have e:(plI s).ths.length=s.Af.length:=zAA _;omega
  show(zA5 s.Af.length (0:zn))[t]?=O 0;rw[List.getElem?_replicate,zk ah]
 .obtain⟨l,R,rfl⟩:=L t x h;have E:o∈l:=E;refine⟨hk l R o E,λai=>?_⟩;have:=(qtJ D).2 ⟨l,R,o,E,ai⟩;show(((qZC s).map _).length:zn)<=_;rw[zAA];omega
 .rw[ad];show((0:Z):zn)+(Cf s:zn)<=_;omega
 .show(zA5 s.Af.length (0:zn)).length=(s.Af.map _).length;simp
 .unfold phi;show AD _ (s.Af.map λl=>(⟨l,0,zb,mZ,[]⟩:ThD))=_;rw[q4P];refine Eq.trans ?_ (q5P s.Af _);refine zK (λf=>AD f _) (funext λl=>?_);unfold rhT;rw[ac];exact zCN _

def opC:OpD:={op0 with kind:=5}
def J2(l:F ThD):F Ans:=l.flatMap λx=>opA x.given
structure Rst(w:Wd)(aO:F Ans):Prop where
 right:wdB w=I
 AH:w.AH=0
 pins:∀p∈w.pins,p=0
 ac:∀i j k e,AT w i j k=O e->e.Ah=cO (atE i j k) aO
 sl:∀i j k e,AT w i j k=O e->∀s:zn,0<=s->s<e.next.length->frI e s+cO (atS i j k s) aO=1
 li:∀(i:Z)x,w.Aa[i]?=O x->x.Ah=cO (atL i) aO
 vr:∀i:Z,i<w.Ab.length->w.current≠i->∃r∈w.Ai,r.Ac=i
 op:∀a∈aO,AnP w a
 ep:w.Al<=999999999990
 ln:w.Ai.length<=60/\w.Aa.length<=60
def qaP(p:Ans->zM)(l)(s:Aj->zn)(h:∀x∈l,x.on=zb):AD (con s p) l=cO p (J2 l):=by
 induction l with
 |nil=>rfl
 |cons x r q=>
  have e:AD (con s p) (x::r)=con s p x+AD (con s p) r:=by simp[AD]
  rw[e,q λy u=>h y (zAl _ u)];unfold con J2 cO;rw[h x (zAm ..),zB5,zDv];simp
def Cv.rest{n}{N}{w}{l}(h:Cv n N w l)(ha:CP l=[])(Y:N<=1000000)(aa:n<=8)(hl:w.Aa.length<=60):Rst w (J2 l):=by
 have B:∀x∈l,x.on=zb:=λx q=>by
  obtain⟨t,A⟩:=zT.1 q;cases C:x.on with
  |false=>rfl
  |true=>exact absurd ((h.thr t x A).on C).1 (qVV ha A)
 have H:∀f:ThD->zn,(∀x∈l,x.on=zb->f x=0)->AD f l=0:=λf L=>q7C λx q=>L x q (B x q);refine⟨h.right,?_,λp M=>?_,λi j k e E=>?_,λi j k e E s P D=>?_,λi x q=>?_,λi Q R=>?_,λa ha=>?_,by have:=h.bd.ep;omega,?_,hl⟩
 .rw[h.gau.lk];exact H _ λx _ C=>by unfold cK;rw[zh λu=>by rw[C]at u;cases u.1]
 .obtain⟨t,A⟩:=zT.1 M;obtain⟨x,q⟩:=qBA (l:=l) (i:=t) (by have:=(zd.1 A).1;have:=h.tl;omega);have:=(h.thr t x q).pn λu=>by rw[B x (zl q)]at u;cases u.1
  rw[A]at this;exact zv this
 .rw[h.gau.ac _ _ _ _ E,qaP _ _ _ B]
 .rw[<-h.gau.sl _ _ _ _ E s P D,qaP _ _ _ B]
 .rw[h.gau.li _ _ q,qaP _ _ _ B]
 .have D:=h.gau.vr i Q;rw[b1f R,H (cV i) λx _ C=>by unfold cV;rw[zh λu=>by rw[C]at u;cases u.1]]at D;have T:0<w.Ai.countP λr=>decide (r.Ac=(i:zn)):=by unfold lbC at D;omega
  obtain⟨r,U,V⟩:=List.countP_pos_iff.1 T;exact⟨r,U,ze V⟩
 .obtain⟨x,q,W⟩:=zBA.1 ha;obtain⟨t,A⟩:=zT.1 q;exact(h.thr t x A).op a W
 .have:=h.lim;have:0<=AD dTo l:=q9H λy _=>qGX y;omega
section
variable{w:Wd}{aO:F Ans}
def qFK(w)(i j k):AT (BG w) i j k=AT w i j k:=by
 unfold AT;cases h:w.Ab[i]? with
 |none=>
  have:(BG w).Ab[i]?=zc:=zBQ (by rw[(qcB w).2.2.2.1];exact zCq.1 h);rw[this]
 |some v=>
  obtain⟨q,u,A,_⟩:=(qoN w).ver i v h;rw[u];show(q.Am[j]?).bind _=(v.Am[j]?).bind _;rw[A]
def Rst.now(h:Rst w aO):Dv w=w.Al+1:=by
 unfold Dv upI;rw[zk];unfold Iy;rw[zAh];intro p q;rw[h.pins p q];rfl
def Rst.way(h:Rst w aO):∃(K:Z)(m':Aj),K<3000/\EC K w (mPl opC 0) (BG w) m'/\m'.done=I:=by
 have B:=qBC h.right;obtain⟨K,m',q,u,A,_⟩:=qBa (w:=w) (m:=mPl opC 0) (qUJ h.right ⟨zAI _,show(0:zn)<_ by omega⟩ rfl rfl rfl rfl rfl rfl ⟨zAI _,show(-1:zn)<_ by omega⟩ (zAI _) (zAI _)) ⟨rfl,rfl,rfl⟩ h.AH (by have:=h.ep;omega) h.ln.1 h.ln.2;exact⟨K,m',q,u,A⟩
def qUL(x):(qDD x).Ah=x.Ah/\(qDD x).drain=x.drain/\(qDD x).name=x.name/\(x.closed=I->(qDD x).closed=I)/\(x.Ah=0->x.drain=I->(qDD x).closed=I):=by
 unfold qDD;split
 .exact⟨rfl,rfl,rfl,λ_=>rfl,λ_ _=>rfl⟩
 .rename_i h;refine⟨rfl,rfl,rfl,id,λq u=>?_⟩;cases A:x.closed with
  |true=>rfl
  |false=>exact absurd ⟨u,q,A⟩ h
def Rst.col(h:Rst w aO)(ab:w.Al<999999999990):Rst (BG w) aO:=by
 obtain⟨K,ad,_,D,_⟩:=h.way;obtain⟨c1,c2,c3,E,u,H,L⟩:=qcB w;have M:=(qoN w).cur;refine⟨D.right h.right,c2,by rw[H];exact h.pins,λi j k e q=>?_,λi j k e q=>?_,λi x A=>?_,λi B C=>?_,λa P=>?_,by rw[c1,h.now];omega,by rw[c3];exact h.ln.1,by rw[u,zAA];exact h.ln.2⟩
 .rw[qFK]at q;exact h.ac _ _ _ _ q
 .rw[qFK]at q;exact h.sl _ _ _ _ q
 .rw[u,zAv,zU]at A;obtain⟨y,Q,rfl⟩:=A;rw[(qUL y).1];exact h.li _ _ Q
 .rw[M]at C;rw[E]at B;obtain⟨r,R,T⟩:=h.vr i B C;obtain⟨j,U⟩:=zT.1 R;have:=L j;rw[U]at this;refine⟨_,zl this,?_⟩;show(if _ then _ else _:Ba).Ac=_;split<;>exact T
 .obtain⟨V,W,Y,aa⟩:=h.op a P;exact⟨V,by rw[qFK];exact W,by rw[u,zAA];exact Y,aa⟩
def qIs(w:Wd):zM:=((decide (w.AH=0)&&w.pins.all λp=>decide (p=0))&&(w.Ab.all λv=>v.Am.all λg=>g.ends.all λe=>decide (e.Ah=0)))&&((w.Ai.all λr=>r.gone)&&w.Aa.all λl=>decide (l.Ah=0)&&(!l.drain||l.closed))
abbrev GS(w:Wd):Wd:=BG (BG (BG w))
def Rst.gone(h:Rst w [])(Y:w.Al<=1000000):∀r∈(GS w).Ai,r.gone=I:=by
 have B:=h.col sa;have M:(BG w).Al=w.Al+1:=by rw[(qcB w).1,h.now]
 have aa:=B.col sa;intro r P;obtain⟨i,q⟩:=zT.1 P;rw[(qcB (BG (BG w))).2.2.2.2.2.2,(qcB (BG w)).2.2.2.2.2.2,(qcB w).2.2.2.2.2.2]at q;cases C:w.Ai[i]? with
 |none=>rw[C]at q;cases q
 |some u=>
  rw[C]at q;simp only[zBx,zAk]at q;obtain⟨v,_,_,_,ab,_⟩:=q0O h.right C;have H:(BG w).Ai[i]?=O (if Dh (Dv w) w i then{u with gone:=I}else u):=by rw[(qcB w).2.2.2.2.2.2,C];rfl
  generalize Q:(if Dh (Dv w) w i then{u with gone:=I}else u)=A at*;have ad:A.at_=u.at_/\A.Ac=u.Ac:=by rw[<-Q];split<;>exact⟨rfl,rfl⟩
  obtain⟨R,L,_⟩:=q0O B.right H
  have T:q9O R=I:=by
   unfold q9O qOB;rw[zAh];intro e D;obtain⟨g,E,D⟩:=zBA.1 D;obtain⟨j,U⟩:=zT.1 E;obtain⟨k,V⟩:=zT.1 D;rw[B.ac _ _ _ _ (q2F L U V)];rfl
  have W:Dh (Dv (BG w)) (BG w) i=!A.gone:=by
   unfold Dh;rw[H];simp only;rw[L];simp only;rw[B.now,M,T,zC (show qTH A.at_ (w.Al+1+1) by unfold qTH;omega)];simp
  rw[W]at q;rw[<-q];cases E:A.gone with
  |false=>simp only[Bool.not_false,zBp];split<;>rfl
  |true=>
   simp only[Bool.not_true,zAS,zCd];split
   .rfl
   .exact E
def Rst.quiet(h:Rst w aO)(Q:w.Al<=1000000):qIs (GS w)=decide (aO=[]):=by
 have E:=h.col sa;have R:(BG w).Al=w.Al+1:=by rw[(qcB w).1,h.now]
 have H:=E.col sa;have aj:(BG (BG w)).Al=w.Al+1+1:=by rw[(qcB (BG w)).1,E.now,R]
 have q:=H.col sa;by_cases A:aO=[]
 .subst A;rw[zC rfl];unfold qIs;simp only[zj,zAh,zx];refine⟨⟨⟨q.AH,q.pins⟩,λv T g U e u=>?_⟩,h.gone Q,λx L=>?_⟩
  .obtain⟨i,B⟩:=zT.1 T;obtain⟨j,V⟩:=zT.1 U;obtain⟨k,W⟩:=zT.1 u;exact q.ac _ _ _ _ (q2F B V W)
  .rw[(qcB _).2.2.2.2.1,zAb]at L;obtain⟨y,Y,rfl⟩:=L;obtain⟨i,B⟩:=zT.1 Y;have M:y.Ah=0:=H.li i y B;obtain⟨aa,ab,_,_,ad⟩:=qUL y;refine⟨aa.trans M,?_⟩;rw[ab];cases ae:y.drain with
   |false=>rfl
   |true=>rw[ad M ae];rfl
 .rw[zE A];obtain⟨a,P⟩:=zCW _ A;obtain⟨C,⟨e,u,_⟩,_⟩:=q.op a P;have ak:=q.ac _ _ _ _ u;have hm:=qYL (p:=atE a.Ac.toNat a.Ak.toNat a.An.toNat) P;rw[show atE a.Ac.toNat a.Ak.toNat a.An.toNat a=I from zC ⟨(zAK C.1).symm,(zAK C.2.1).symm,(zAK C.2.2).symm⟩]at hm;have hm:1<=cO (atE a.Ac.toNat a.Ak.toNat a.An.toNat) aO:=hm;cases D:qIs (GS w)with
  |false=>rfl
  |true=>
   exfalso;unfold qIs at D;simp only[zj,zAh,zx]at D;obtain⟨v,af,ag,ah,ai⟩:=q1F u;have:=D.1.2 v (zl ag) af (zl ah) e (zl ai);omega
def Rst.AV(h:Rst w [])(C:w.Al<=1000000){i:Z}{v}(B:(GS w).Ab[i]?=O v):v.AV=decide ((GS w).current≠i):=by
 have D:=((h.col sa).col (by rw[(qcB w).1,h.now];omega));have A:=D.col (by rw[(qcB (BG w)).1,(h.col sa).now,(qcB w).1,h.now];omega);rw[(qkB A.right B).AV];by_cases q:(GS w).current=i
 .rw[zE (λE=>E q)];unfold qIE;rw[zBK];intro r u;have:=(zAh.1 (q0B A.right).2.2.2.1) r u;unfold C2 at this;simp only[zj,zx]at this;rw[show(r.Ac==(i:zn))=zb by simpa using λe=>this.1.2 (e.trans q.symm)];exact zAi
 .rw[zC q];obtain⟨r,u,H⟩:=A.vr i (zd.1 B).1 q;unfold qIE;rw[zBY];exact⟨r,u,by rw[h.gone C r u,H];simp⟩
def qeP:∀{n:Z}{l:F zn},(∀k:Z,k<n->(k:zn)∈l)->n<=l.length
 |0,_,_=>zF _
 |n+1,l,h=>by
  have q:=h n sa;have u:=qeP (n:=n) (l:=l.erase (n:zn)) λk A=>(List.mem_erase_of_ne sa).2 (h k sa);rw[List.length_erase_of_mem q]at u;have:=List.length_pos_of_mem q;omega
def Rst.held(h:Rst w []):qqZ w=0:=by
 unfold qqZ;refine q7C λv E=>q7C λg H=>q7C λe u=>?_;obtain⟨i,A⟩:=zT.1 E;obtain⟨j,B⟩:=zT.1 H;obtain⟨k,L⟩:=zT.1 u
 have C:Bv e=I:=by
  obtain⟨_,_,_,M⟩:=(qkB h.right A).grp _ _ B;exact(M e u).1
 obtain⟨l,q⟩:=(qCC C).1;have hs:=h.sl _ _ _ _ (q2F A B L);unfold qAD;rw[C,zk rfl,q];have P:=qIJ q
 have Q:e.next.length<=l.length:=qeP λy R=>by
  have:=hs y sa sa;rw[qLL q]at this;cases D:decide ((y:zn)∈l)with
  |true=>exact ze D
  |false=>
   rw[D]at this;have:(0:zn)+0=1:=this;omega
 show(e.next.length:zn)-((l.length:Z):zn)=0;omega
end
section
variable{α:Type}{n:Z}
def q6C:∀{L:F (F α)},(∀x∈L,x.length=n)->L.flatten.length=L.length*n
 |[],_=>sd
 |c::L,h=>by
  rw[zBC,zAq,h c (zAm ..),q6C λx q=>h x (zAl _ q),zBb,zBM,Nat.one_mul,zDH]
def qgC:∀{L:F (F α)}{t off:Z}{c:F α}{u:α},(∀x∈L,x.length=n)->L[t]?=O c->c[off]?=O u->L.flatten[t*n+off]?=O u
 |[],t,_,_,_,_,h,_=>by simp at h
 |c0::L,0,off,c,u,h,q,w=>by
  simp at q;subst q;rw[zDj,zAu,zBC,zAc (zd.1 w).1];exact w
 |c0::L,t+1,off,c,u,h,q,w=>by
  have A:=h c0 (zAm ..);rw[zBC,zA4 (by rw[A,zBM];omega),A,show(t+1)*n+off-n=t*n+off by rw[zBM];omega];exact qgC (λx B=>h x (zAl _ B)) (by simpa using q) w
def q5C:∀{L:F (F α)}{t off size:Z}{c vs:F α},(∀x∈L,x.length=n)->L[t]?=O c->vs.length=size->off+size<=n->L.flatten.take (t*n+off)++vs++L.flatten.drop (t*n+off+size)=(L.set t (c.take off++vs++c.drop (off+size))).flatten
 |[],t,_,_,_,_,_,h,_,_=>by simp at h
 |c0::L,0,off,size,c,vs,h,q,w,A=>by
  simp at q;subst q;have u:=h c0 (zAm ..);rw[zDj,zAu,zBC,zBV sa,zCa sa];simp
 |c0::L,t+1,off,size,c,vs,h,q,w,A=>by
  have u:=h c0 (zAm ..);have B:=q5C (L:=L) (t:=t) (c:=c) (vs:=vs) (λx C=>h x (zAl _ C)) (by simpa using q) w A;have D:(t+1)*n+off=c0.length+(t*n+off):=by rw[u,zBM];omega
  have E:(t+1)*n+off+size=c0.length+(t*n+off+size):=by rw[u,zBM];omega
  rw[zBC,D,zDX,show c0.length+(t*n+off)+size=c0.length+(t*n+off+size) by omega,zDY,zB3,zBC,<-B];simp
end
noncomputable def plS(z:PlW×F Ev)(p:zn):PlW×F Ev:=match plT z.1.ths p with
 |some t=>(z.1.go t,z.2++[z.1.ev t])
 |none=>z
noncomputable def plX(s:PlW)(l:F zn):PlW×F Ev:=l.foldl plS (s,[])
def qdT{s:PlW}{l:F zn}{k:Z}{p}(h:l[k]?=O p):plX s (l.take (k+1))=plS (plX s (l.take k)) p:=by
 obtain⟨q,u⟩:=zd.1 h;unfold plX;rw[zY q,u,zCH];rfl
def q6L(s)(l):(plX s l).1=plN s l:=by
 have u:∀(l:F zn)(s:PlW)(h:F Ev),(l.foldl plS (s,h)).1=l.foldl PlW.next s:=by
  intro l
  induction l with
  |nil=>intro s h;rfl
  |cons p r q=>
   intro s h;rw[zBU,zBU];unfold plS PlW.next;show(r.foldl plS (match plT s.ths p with|some t=>(s.go t,h++[s.ev t])|none=>(s,h))).1=r.foldl PlW.next (match plT s.ths p with|some t=>s.go t|none=>s);cases plT s.ths p with
   |none=>exact q s h
   |some t=>exact q _ _
 exact u l s []
def qrY{s}{l}{k}(h:CP (plX s (l.take k)).1.ths=[]):plX s (l.take k)=plX s l:=by
 have u:∀(r:F zn)(z:PlW×F Ev),CP z.1.ths=[]->r.foldl plS z=z:=by
  intro r
  induction r with
  |nil=>intro z _;rfl
  |cons p r w=>
   intro z q;have:plS z p=z:=by unfold plS plT;rw[q];rfl
   rw[zBU,this];exact w z q
 have e:plX s l=(l.drop k).foldl plS (plX s (l.take k)):=by
  unfold plX;rw[<-zCH,zCF]
 rw[e,u _ _ h]
def qeT(s)(l):(plX s l).2.length<=l.length:=by
 have h:∀(l:F zn)(z:PlW×F Ev),(l.foldl plS z).2.length<=z.2.length+l.length:=by
  intro l
  induction l with
  |nil=>intro z;exact zG _
  |cons p r q=>
   intro z;rw[zBU,zBb];have u:=q (plS z p)
   have w:(plS z p).2.length<=z.2.length+1:=by
    unfold plS;split
    .simp
    .exact zD0 _
   omega
 have:=h l (s,[]);unfold plX;simpa using this
def qWV(l):(CP l).length<=l.length:=by
 unfold CP;exact zZ (zCI _ _) (by rw[zDy];exact zG _)
def qlc{l}{i}(h:i∈CP l):i<l.length:=by
 unfold CP at h;exact zB4.1 (zAG.1 h).1
def qkc{l:F ThD}{i:Z}{x}(h:l[i]?=O x):CP (l.take (i+1))=if x.done<x.ops.length then CP (l.take i)++[i]else CP (l.take i):=by
 have D:=(zd.1 h).1;unfold CP;have u:(l.take (i+1)).length=i+1:=by rw[zAN];omega
 have w:(l.take i).length=i:=by rw[zAN];omega
 rw[u,w,zDg,zDu]
 have A:(zBf i).filter (λj=>(((l.take (i+1))[j]?).map ThD.alive).getD zb)=(zBf i).filter (λj=>(((l.take i)[j]?).map ThD.alive).getD zb):=by
  apply List.filter_congr;intro j B;have:=zB4.1 B;rw[zA7,zA7,zk sa,zk sa]
 rw[A];have C:(l.take (i+1))[i]?=O x:=by rw[zA7,zk sa];exact h
 rw[zDG,C];show _++(if(decide (x.done<x.ops.length))=I then _ else _)=_;by_cases q:x.done<x.ops.length
 .rw[zk q,zk (zC q)];rfl
 .rw[zh q,zh (by simpa using q)];simp
def EvT(e:Ev)(m m':Aj):Prop:=e.Ag=m.Ag/\e.done=m'.done/\(e.done=I->e.answer=m'.answer)
section
variable{w:Wd}{t:Z}{m:Aj}{ops:F OpD}{d:Z}{given:F Ans}
def evN{e m'}(hd:m.done=zb)(q:e.Ag=m.Ag:=by rfl)(h2:e.done=zb:=by rfl)(u:m'.done=m.done:=by rfl):EvT e m m':=⟨q,h2.trans (u.trans hd).symm,λh=>by rw[h2]at h;cases h⟩
def evA{W B:Wd}{q u:Aj}{E A:Ev}(h:W=B/\q=u/\E=A)(k:EvT A m u):EvT E m q:=by rw[h.2.1,h.2.2];exact k
def evB{W B:Wd}{u A:Aj}{E q:Ev}(hd:m.done=zb)(h:W=B/\u=A/\E=q)(C:q.Ag=m.Ag:=by rfl)(h2:q.done=zb:=by rfl)(D:A.done=m.done:=by rfl):EvT E m u:=evA h (evN hd C h2 D)
def evY{W B:Wd}{A u:Aj}{E q:Ev}(h:W=B/\A=u/\E=q)(k:q.Ag=m.Ag/\q.done=u.done/\q.answer=u.answer:=by exact⟨rfl,rfl,rfl⟩):EvT E m A:=evA h ⟨k.1,k.2.1,λ_=>k.2.2⟩
def Oq(hs:qXB w m=I)(y:HWy w m):EvT (hsE w m) m (hsM w m):=by
 have A:=y.pc;have C:=y.lst;obtain⟨v,D,E,B⟩:=Ar.1 hs;have q:=B.done;by_cases u:m.pc<3
 .refine evA (qXU ⟨sa,u⟩) ?_;rcases(by omega:m.pc=0\/m.pc=1\/m.pc=2)with h|h|h
  .rw[(qFI hs).1 h,(qhO hs).1 (.inl h)];exact evN q
  .rw[(qFI hs).2.1 h,(qhO hs).2.1 h];exact evN q
  .rw[(qFI hs).2.2.1 h,(qhO hs).1 (.inr h)];exact evN q
 refine evA (qVF ⟨hs,A,sa⟩ u) ?_;rcases(by omega:m.pc=3\/m.pc=4\/m.pc=5\/m.pc=6\/m.pc=7\/m.pc=8\/m.pc=9\/m.pc=10\/m.pc=11\/m.pc=12\/m.pc=20\/m.pc=21\/m.pc=22\/m.pc=23)with h|h|h|h|h|h|h|h|h|h|h|h|h|h
 .refine evA (ha3 h) ?_;unfold hM3;split<;>exact evN q
 .exact evB q (ha4 h)
 .refine evA (ha5 h) ?_;unfold hM5 hE5 qFQ
  repeat' split
  all_goals exact evN q
 .exact evB q (ha6 h)
 .exact evB q (ha7 h)
 .exact evB q (ha8 h)
 .refine evA (ha9 h) ?_;unfold hM9;split<;>exact evN q
 .exact evB q (LO h)
 .refine evA (LN h) ?_;split<;>exact evN q
 .exact evB q (LM h)
 .exact evB q (LL h)
 .exact evB q (LK h)
 .exact evB q (LJ h)
 .refine evA (LI h) ?_;unfold Jr;rw[hs,zk rfl];exact⟨rfl,rfl,λ_=>rfl⟩
def Ot(hs:qXB w m=I)(hp:0<=m.pc/\m.pc<=4\/m.pc=9)(hl:m.pc=4->0<=m.listen):EvT (fsE w m) m (fsM w m):=by
 obtain⟨v,A,B,u⟩:=Ar.1 hs;have q:=u.done;refine evA (qfN ⟨hs,hp,λh=>by have:=hl h.1;omega⟩) ?_;rcases(by omega:m.pc=0\/m.pc=1\/m.pc=2\/m.pc=3\/m.pc=4\/m.pc=9)with h|h|h|h|h|h
 .exact evB q (fa0 h)
 .exact evB q (fa1 h)
 .refine evA (fa2 h) ?_;split<;>exact evN q
 .exact evB q (fa3 h)
 .exact evY (fa4 h)
 .exact evY (fa9 h)
def Oo(q:FH w m)(hd:m.done=zb):EvT (swE w m) m (swM w m):=by
 rcases q.2.1 with h|h|h
 .cases u:qTA m.op.Ap with
  |none=>exact evB hd (q4S q h u)
  |some A=>exact evY (qUO (e:=A.1) (i:=A.2) q h u)
 .exact evB hd (sw1 q h)
 .exact evY (sw2 q h)
def qOc(hd:m.done=zb):EvT (cdE w m) m (cdM w m):=by
 unfold cdE cdM;split
 .exact⟨rfl,rfl,λ_=>rfl⟩
 .repeat' split
  all_goals exact evN hd
def Ou(q:cGo w m)(hd:m.done=zb):EvT (csE w m) m (csM w m):=by
 refine evA (qjG q) ?_;have u:=q.2.2;rcases(by omega:m.pc=0\/m.pc=1\/m.pc=2\/m.pc=3\/m.pc=4\/m.pc=5\/m.pc=6\/m.pc=8\/m.pc=9\/m.pc=10)with h|h|h|h|h|h|h|h|h|h
 .refine evA (cb0 h) ?_;split
  .exact evN hd
  .exact⟨rfl,rfl,λ_=>rfl⟩
 .exact evB hd (cb1 h)
 .refine evA (cb2 h) ?_
  repeat' split
  all_goals exact evN hd
 .refine evA (cb3 h) ?_;split<;>exact evN hd
 .refine evA (cb4 h) ?_;split
  .exact qOc (m:={m with i:=0,pc:=8}) hd
  .split<;>exact evN hd
 .refine evA (cb5 h) ?_
  repeat' split
  all_goals exact evN hd
 .exact evB hd (cb6 h)
 .exact evA (cb8 h) (qOc hd)
 .refine evA (cb9 h) ?_;split<;>exact evN hd
 .exact evB hd (I3 h)
def Cv.evT{l}{n}{N}(h:Cv n N w l)(L:l[t]?=O (thO ops d given m)):EvT (psE w m) m (psM w m)/\m.Ag=t:=by
 have P:=h.thr t _ L;obtain⟨hs,q,T,_,U⟩:=P.got;obtain⟨v,af,ag,Q⟩:=Ar.1 hs;have M:=Q.done;have ah:=h.kop L;refine⟨?_,U⟩;unfold psE psM;by_cases D:m.op.kind=1
 .rw[zk D,zk D];exact Oq hs (q.h D)
 rw[zh D,zh D];by_cases A:m.op.kind=2
 .rw[zk A,zk A];exact Ot hs (q.f A).pc λR=>(P.op _ (T A sa)).lis.1
 rw[zh A,zh A];by_cases B:m.op.kind=3
 .rw[zk B,zk B];obtain⟨ai,aj,V⟩:=q.s B;refine Oo ⟨hs,sa,λR=>?_⟩ M;obtain⟨Y,aa⟩:=h.sw L B sa;obtain⟨ak,k6⟩:=V R;unfold qzJ;rw[q2O Q.ver.1 aa,zE sa,zE sa];simpa using Y
 rw[zh B,zh B];by_cases E:m.op.kind=4
 .rw[zk E,zk E];have H:GQ w m:=⟨hs,q.d E⟩;rcases zDK (drI w m) 0 with u|u
  .exact evY (qLP H u)
  .obtain⟨y,ab,_⟩:=qCJ u;exact evY (qKP H u ab)
 rw[zh E,zh E];by_cases C:m.op.kind=5
 .rw[zk C,zk C];exact Ou ⟨hs,(q.c C).may,(q.c C).pc⟩ M
 rw[zh C,zh C];obtain⟨ac,ad,ae⟩:=q.a sa;have H:qeI w m:=⟨hs,ac,ad,ae⟩;by_cases u:qSE m=w.counts.length
 .exact evY (W:=w) ⟨rfl,qOH H u⟩
 .exact evB (W:=w) M ⟨rfl,qNH H u⟩
end
def Cv.evG{n:zn}{N:Z}{s:PlW}(h:Cv n N s.w s.ths)(A:n<=8){t:Z}{x:ThD}(q:s.ths[t]?=O x)(ha:x.done<x.ops.length):(s.ev t).Ag=t/\(s.ev t).op=x.done/\(s.ev t).EP=!x.on/\(s.ev t).done=(psM s.w (x.Br t)).done/\((s.ev t).done=I->(s.ev t).answer=(psM s.w (x.Br t)).answer):=by
 have e:s.th t=x:=by unfold PlW.th;rw[q];rfl
 unfold PlW.ev;rw[e];obtain⟨ops,d,on,m,given⟩:=x;cases on with
 |true=>
  obtain⟨⟨u,B,C⟩,D⟩:=h.evT q;exact⟨u.trans D,rfl,rfl,B,C⟩
 |false=>
  obtain⟨u,_⟩:=h.begin q rfl ha A rfl;obtain⟨⟨E,H,L⟩,M⟩:=u.evT (qhA q);exact⟨E.trans M,rfl,rfl,H,L⟩
structure BK where
 Ag:zn
 op:zn
 from_:zn
 BL:zn
 to:zn
 answer:Ans
abbrev BK.cs(c:BK):F zg:=.int .i64 c.Ag::.int .i64 c.op::.int .i64 c.from_::.int .i64 c.BL::.int .i64 c.to::c.answer.cs
structure Bk where
 l:F BK
 of:F (Ky×zg)
 busy:F (Ky×zg)
def vI:zs zg->zn
 |some (.int _ n)=>n
 |_=>0
def gI(k:Ky)(es:F (Ky×zg)):zn:=vI (Bs k es)
def Ow:BK:=⟨0,0,0,0,0,BO⟩
def Jz(i:zn)(e:Ev):BK:=⟨e.Ag,e.op,i,-1,-1,BO⟩
def Dj(c:BK)(i:zn)(e:Ev):BK:=⟨c.Ag,c.op,c.from_,if e.BL then i else c.BL,if e.done then i else c.to,if e.done then e.answer else c.answer⟩
abbrev bk1(B:Bk)(i:zn)(e:Ev):Bk:=⟨B.l++[Jz i e],BT (.p e.Ag e.op) (.int .i64 ((B.l.length+1:Z):zn)) B.of,BT (.i e.Ag) (.int .i64 ((B.l.length+1:Z):zn)) B.busy⟩
def bkA(B:Bk)(i:zn)(e:Ev):zs Bk:=match e.EP with
 |true=>match decide (0<gI (.p e.Ag e.op) B.of)||decide (0<gI (.i e.Ag) B.busy)with
  |true=>zc
  |false=>O (bk1 B i e)
 |false=>O B
def bkB(B:Bk)(i:zn)(e:Ev):zs Bk:=match decide (gI (.p e.Ag e.op) B.of=0)||!decide (gI (.i e.Ag) B.busy=gI (.p e.Ag e.op) B.of)with
 |true=>zc
 |false=>O ⟨B.l.set (gI (.p e.Ag e.op) B.of-1).toNat (Dj ((B.l[(gI (.p e.Ag e.op) B.of-1).toNat]?).getD Ow) i e),B.of,match e.done with
  |true=>BT (.i e.Ag) (.int .i64 0) B.busy
  |false=>B.busy⟩
def bkE(B:Bk)(i:zn)(e:Ev):zs Bk:=match bkA B i e with
 |some B=>bkB B i e
 |none=>zc
def bkN(l:F Ev):Z->zs Bk
 |0=>O ⟨[],[],[]⟩
 |i+1=>match bkN l i with
  |some h=>match l[i]? with
   |some e=>bkE h i e
   |none=>O h
  |none=>zc
def IF(n:Z)(es:F (Ky×zg)):Prop:=∀k v,Bs k es=O v->∃z:zn,v=.int .i64 z/\0<=z/\z<=n
def IF.set{n u:Z}{es k}{z:zn}(h:IF n es)(C:n<=u)(w:0<=z)(A:z<=u):IF u (BT k (.int .i64 z) es):=λB v q=>by
 rw[qlD]at q;split at q
 .cases q;exact⟨z,rfl,w,A⟩
 .obtain⟨y,e,a,b⟩:=h B v q;exact⟨y,e,a,sa⟩
instance:DecidableEq Ky:=λ_ _=>decidable_of_iff _ Bx
def qoI(k k')(z)(es):gI k (BT k' (.int .i64 z) es)=if k=k' then z else gI k es:=by
 unfold gI;rw[qlD];by_cases h:k=k'
 .rw[zk h,zk (Bx.2 h)];rfl
 .rw[zh h,zh λq=>h (Bx.1 q)]
def IF.g{n es}(h:IF n es)(k):0<=gI k es/\gI k es<=n:=by
 unfold gI;cases hm:Bs k es with
 |none=>exact⟨zAI _,zCi _⟩
 |some v=>
  obtain⟨z,rfl,a,b⟩:=h k v hm;exact⟨a,b⟩
structure Ja(B:Bk):Prop where
 of:IF B.l.length B.of
 busy:IF B.l.length B.busy
def qKV{B q}{i e}(h:Ja B)(hb:bkA B i e=O q):Ja q/\q.l.length<=B.l.length+1:=by
 unfold bkA at hb;split at hb
 .split at hb
  .cases hb
  .cases hb;have u:(bk1 B i e).l.length=B.l.length+1:=sd
   exact⟨⟨by rw[u];exact h.of.set sa sa sa,by rw[u];exact h.busy.set sa sa sa⟩,Nat.le_of_eq u⟩
 .cases hb;exact⟨h,zD0 _⟩
def qDY{B q}{i e}(h:Ja B)(hb:bkB B i e=O q):Ja q/\q.l.length=B.l.length:=by
 unfold bkB at hb;split at hb
 .cases hb
 .cases hb;have u:∀a b,(B.l.set a b).length=B.l.length:=λ_ _=>zX ..;refine⟨⟨by rw[u];exact h.of,?_⟩,u ..⟩;rw[u];dsimp only;split
  .exact h.busy.set (zG _) (zAI _) sa
  .exact h.busy
def qHV{l}:∀{i:Z}{B:Bk},bkN l i=O B->Ja B/\B.l.length<=i
 |0,B,h=>by
  cases h;exact⟨⟨λk v h=>(by cases h),λk v h=>(by cases h)⟩,zG _⟩
 |i+1,B,h=>by
  unfold bkN at h;split at h
  .rename_i D u;obtain⟨q,E⟩:=qHV u;split at h
   .rename_i e H;unfold bkE at h;split at h
    .rename_i L w;obtain⟨A,M⟩:=qKV q w;obtain⟨C,P⟩:=qDY A h;exact⟨C,sa⟩
    .cases h
   .cases h;exact⟨q,sa⟩
  .cases h
def qec{l}{i}{B q}{e}(h:bkN l i=O B)(u:l[i]?=O e)(hb:bkE B i e=O q):bkN l (i+1)=O q:=by
 show(match bkN l i with|some B=>_|none=>_)=_;rw[h];show(match l[i]? with|some e=>bkE B i e|none=>O B)=_;rw[u];exact hb
def qIV{l}{e}:∀{i:Z},i<=l.length->bkN (l++[e]) i=bkN l i
 |0,_=>rfl
 |i+1,q=>by
  show(match bkN (l++[e]) i with|some h=>_|none=>_)=(match bkN l i with|some h=>_|none=>_);rw[qIV sa,zAc sa]
def fil(t:zn)(l:F BK):F BK:=l.filter λc=>decide (c.Ag=t)
def Cmp(l:F BK)(g:F Ans):Prop:=l.map (·.answer)=g/\∀z∈l,0<=z.to
def qKM(t)(a b):fil t (a++b)=fil t a++fil t b:=by unfold fil;exact zDu ..
def qjU{t}{l}(h:∀z∈l,z.Ag≠t):fil t l=[]:=by
 unfold fil;rw[List.filter_eq_nil_iff];intro z q;simpa using h z q
def qHP{t}(c):fil t [c]=if c.Ag=t then[c]else[]:=by
 unfold fil;by_cases h:c.Ag=t
 .rw[zk h];simp[h]
 .rw[zh h];simp[h]
def qiU{t}{l}{j}{c c'}(h:l[j]?=O c)(q:c.Ag≠t)(h2:c'.Ag≠t):fil t (l.set j c')=fil t l:=by
 induction l generalizing j with
 |nil=>simp at h
 |cons z l u=>
  cases j with
  |zero=>
   simp at h;subst h;unfold fil;rw[List.set_cons_zero,List.filter_cons_of_neg (by simpa using h2),List.filter_cons_of_neg (by simpa using q)]
  |succ j=>
   have:=u (j:=j) (by simpa using h);unfold fil at this⊢;rw[zB3,zDG,zDG,this]
structure ThB(B:Bk)(t:Z)(x:ThD):Prop where
 of0:∀d:Z,x.done+(if x.on then 1 else 0)<=d->gI (.p t d) B.of=0
 off:x.on=zb->gI (.i t) B.busy=0/\Cmp (fil t B.l) x.given
 on:x.on=I->∃(l1:F BK)(c:BK)(l2:F BK),B.l=l1++c::l2/\gI (.p t x.done) B.of=((l1.length+1:Z):zn)/\gI (.i t) B.busy=((l1.length+1:Z):zn)/\c.Ag=(t:zn)/\(∀z∈l2,z.Ag≠(t:zn))/\Cmp (fil t l1) x.given
structure BkI(s:PlW)(B:Bk):Prop where
 ok:Ja B
 thr:∀c∈B.l,∃t:Z,c.Ag=(t:zn)/\t<s.ths.length
 each:∀(t:Z)x,s.ths[t]?=O x->ThB B t x
def ThB.beg{B}{t}{x}(h:ThB B t x)(i:zn)(e:Ev)(q:e.Ag=t)(hd:e.op=x.done)(u:x.on=zb)(m:Aj):ThB (bk1 B i e) t ⟨x.ops,x.done,I,m,x.given⟩:=by
 obtain⟨H,A⟩:=h.off u;refine⟨λd w=>?_,λh=>(by cases h),λ_=>⟨B.l,Jz i e,[],rfl,?_,?_,q,λz C=>(by cases C),A⟩⟩
 .have w:x.done+1<=d:=w;rw[qoI,zh (λD=>by injection D with _ E;rw[hd]at E;omega)];exact h.of0 d (by rw[u];show x.done+0<=d;omega)
 .rw[qoI,q,hd,zk rfl]
 .rw[qoI,q,zk rfl]
def ThB.Lf{B}{t u:Z}{x}(h:ThB B u x)(i:zn)(e:Ev)(w:e.Ag=t)(ab:u≠t):ThB (bk1 B i e) u x:=by
 have E:∀d:zn,gI (.p u d) (bk1 B i e).of=gI (.p u d) B.of:=λd=>by
  rw[qoI,zh (λA=>by injection A with C _;rw[w]at C;omega)]
 have H:gI (.i u) (bk1 B i e).busy=gI (.i u) B.busy:=by
  rw[qoI,zh (λA=>by injection A with C;rw[w]at C;omega)]
 have L:(Jz i e).Ag≠u:=by show e.Ag≠u;rw[w];omega
 refine⟨λd M=>by rw[E];exact h.of0 d M,λD=>?_,λD=>?_⟩
 .obtain⟨P,Q⟩:=h.off D;refine⟨H.trans P,?_⟩;show Cmp (fil u (B.l++[Jz i e])) _;rw[qKM,qHP,zh L,zDi];exact Q
 .obtain⟨R,c,T,U,V,W,Y,aa,k6⟩:=h.on D;refine⟨R,c,T++[Jz i e],?_,(E _).trans V,H.trans W,Y,λz q=>?_,k6⟩
  .show B.l++[Jz i e]=_;rw[U];simp
  .rcases zL.1 q with q|q
   .exact aa z q
   .rw[zA9.1 q];exact L
def qcY{h:Type}(a)(c:h)(b)(c':h):(a++c::b).set a.length c'=a++c'::b:=sd
def BkI.step{s:PlW}{B:Bk}(h:BkI s B){t:Z}{x:ThD}(U:s.ths[t]?=O x){e:Ev}{n:Aj}{w':Wd}(i:Z)(L:e.Ag=t)(h2:e.op=x.done)(al:e.EP=!x.on)(aC:e.done=n.done)(aD:e.done=I->e.answer=n.answer):∃an,bkE B i e=O an/\BkI ⟨w',s.ths.set t (x.An n)⟩ an:=by
 have ao:=(zd.1 U).1
 obtain⟨u,aE,aa,P⟩:∃u,bkA B i e=O u/\BkI ⟨s.w,s.ths.set t ⟨x.ops,x.done,I,n,x.given⟩⟩ u/\True:=by
  have P:=h.each t x U;unfold bkA;rw[al];cases E:x.on with
  |true=>
   refine⟨B,rfl,⟨h.ok,λc Q=>?_,λD z q=>?_⟩,trivial⟩
   .obtain⟨v,C,H⟩:=h.thr c Q;exact⟨v,C,by simpa using H⟩
   .rcases qNC U q with⟨rfl,rfl⟩|⟨ab,q⟩
    .have M:=P.of0;rw[E]at M;exact⟨M,λR=>(by cases R),λ_=>P.on E⟩
    .exact h.each D z q
  |false=>
   obtain⟨M,W⟩:=P.off E;have Y:=P.of0 x.done (by rw[E];exact zG _);rw[L,h2,Y,M];refine⟨_,rfl,⟨?_,λc Q=>?_,λD z q=>?_⟩,trivial⟩
   .refine(qKV (B:=B) (i:=i) (e:=e) h.ok ?_).1;unfold bkA;rw[al,E,L,h2,Y,M];rfl
   .rcases zL.1 Q with Q|Q
    .obtain⟨v,C,H⟩:=h.thr c Q;exact⟨v,C,by simpa using H⟩
    .rw[zA9.1 Q];exact⟨t,L,by simpa using ao⟩
   .rcases qNC U q with⟨rfl,rfl⟩|⟨ab,q⟩
    .exact P.beg i e L h2 E n
    .exact(h.each D z q).Lf i e L ab
 clear P;have aF:(s.ths.set t ⟨x.ops,x.done,I,n,x.given⟩)[t]?=O ⟨x.ops,x.done,I,n,x.given⟩:=qhA U;have ap:=aa.each t _ aF;obtain⟨A,c,ac,M,W,aq,ar,au,k6⟩:=ap.on rfl;have W:gI (.p t x.done) u.of=((A.length+1:Z):zn):=W;have aG:(((A.length+1:Z):zn)-1).toNat=A.length:=sa
 have V:u.l[A.length]?=O c:=by rw[M,zA4 (zG _),zCc];rfl
 have av:bkB u i e=O ⟨u.l.set A.length (Dj c i e),u.of,match e.done with
  |true=>BT (.i e.Ag) (.int .i64 0) u.busy
  |false=>u.busy⟩:=by
  unfold bkB;rw[L,h2,W,aq,aG,V,zE sa,zC rfl];rfl
 have ad:(Dj c i e).Ag=t:=ar;refine⟨_,by unfold bkE;rw[aE];exact av,(qDY aa.ok av).1,λz q=>?_,λD z q=>?_⟩
 .rcases zBc q with q|rfl
  .obtain⟨v,C,H⟩:=aa.thr z q;exact⟨v,C,by simpa using H⟩
  .exact⟨t,ad,by simpa using ao⟩
 .rcases qNC U q with⟨rfl,rfl⟩|⟨ab,q⟩
  .have aw:u.l.set A.length (Dj c i e)=A++Dj c i e::ac:=by rw[M,qcY]
   have Y:=ap.of0;unfold ThD.An;rw[<-aC];cases ae:e.done with
   |false=>
    exact⟨Y,λR=>(by cases R),λ_=>⟨A,Dj c i e,ac,aw,W,aq,ad,au,k6⟩⟩
   |true=>
    refine⟨λd aH=>Y d aH,λ_=>⟨?_,?_⟩,λR=>(by cases R)⟩
    .show gI (.i D) (BT (.i e.Ag) (.int .i64 0) u.busy)=0;rw[qoI,L,zk rfl]
    .show Cmp (fil D (u.l.set A.length (Dj c i e))) (x.given++[n.answer]);rw[aw,qKM,show Dj c i e::ac=[Dj c i e]++ac from rfl,qKM,qHP,zk ad,qjU au,zDi];refine⟨?_,λz q=>?_⟩
     .rw[zBo,k6.1];show x.given++[(Dj c i e).answer]=_;unfold Dj;rw[ae,<-aD ae];rfl
     .rcases zL.1 q with q|q
      .exact k6.2 z q
      .rw[zA9.1 q];show 0<=(if e.done then(i:zn)else c.to);rw[ae];exact zCi _
  .have af:=aa.each D z (by show(s.ths.set t _)[D]?=_;rw[zBi (λe=>ab e.symm)];exact q)
   have ag:gI (.i D) (match e.done with|true=>BT (.i e.Ag) (.int .i64 0) u.busy|false=>u.busy)=gI (.i D) u.busy:=by
    split
    .rw[qoI,zh (λR=>by injection R with C;rw[L]at C;omega)]
    .rfl
   have ah:c.Ag≠(D:zn):=by rw[ar];omega
   have ai:(Dj c i e).Ag≠(D:zn):=by rw[ad];omega
   refine⟨af.of0,λE=>?_,λE=>?_⟩
   .obtain⟨C,H⟩:=af.off E;refine⟨ag.trans C,?_⟩;show Cmp (fil D (u.l.set A.length _)) _;rw[qiU V ah ai];exact H
   .obtain⟨T,b,ax,C,H,ay,aj,az,aA⟩:=af.on E;rcases zAL A.length T.length with aB|aI
    .refine⟨T.set A.length (Dj c i e),b,ax,?_,by rw[zX];exact H,by rw[zX];exact ag.trans ay,aj,az,?_⟩
     .show u.l.set _ _=_;rw[C,List.set_append_left _ _ aB]
     .rw[qiU (c:=c) (by rw[C,zAc aB]at V;exact V) ah ai];exact aA
    .have aJ:A.length≠T.length:=λe=>by
      rw[C,e,zA4 (zG _),zCc]at V;cases V;exact ah aj
     refine⟨T,b,ax.set (A.length-T.length-1) (Dj c i e),?_,H,ag.trans ay,aj,λy ak=>?_,aA⟩
     .show u.l.set _ _=_;rw[C,List.set_append_right _ _ aI,show A.length-T.length=(A.length-T.length-1)+1 by omega,zB3];rfl
     .rcases zBc ak with ak|rfl
      .exact az y ak
      .exact ai
section
variable{n:zn}{s0:PlW}
structure PlA(n:zn)(k:Z)(z:PlW×F Ev):Prop where
 inv:Cv n k z.1.w z.1.ths
 bk:∃B,bkN z.2 z.2.length=O B/\BkI z.1 B
def PlA.next{k}{z}(h:PlA n k z)(u:n<=8)(hk:k<=1000000)(p):PlA n (k+1) (plS z p):=by
 unfold plS;cases C:plT z.1.ths p with
 |none=>exact⟨h.inv.up,h.bk⟩
 |some t=>
  obtain⟨x,q,A⟩:=qaE C;obtain⟨D,_,_⟩:=h.inv.go hk u q A;obtain⟨W,E,H⟩:=h.bk;obtain⟨L,M,P,Q,R⟩:=h.inv.evG u q A;obtain⟨B,T,U⟩:=H.step (n:=psM z.1.w (x.Br t)) (w':=psW z.1.w (x.Br t)) q z.2.length L M P Q R;have V:z.1.th t=x:=by unfold PlW.th;rw[q];rfl
  refine⟨D,B,?_,?_⟩
  .show bkN (z.2++[z.1.ev t]) (z.2++[z.1.ev t]).length=_;rw[zAq,zCJ];exact qec ((qIV (zG _)).trans E) sd T
  .show BkI (z.1.go t) B;unfold PlW.go;rw[V];exact U
def PlA.at{l:F zn}(h:PlA n 0 (s0,[]))(q:n<=8)(hl:l.length<=1000000):∀{k:Z},k<=l.length->PlA n k (plX s0 (l.take k))
 |0,_=>h
 |k+1,w=>by
  obtain⟨p,u⟩:=qBA (show k<l.length by omega);rw[qdT u];exact(PlA.at h q hl (k:=k) sa).next q sa p
end
def qsY{s}(u:qTA s.first=zc)(w:1<=s.Af.length/\s.Af.length<=8)(hk:∀l∈s.Af,∀o∈l,1<=o.kind/\o.kind<=6):PlA (Cf s) 0 (plI s,[]):=by
 refine⟨(qfT u w hk).1,⟨[],[],[]⟩,rfl,⟨⟨λk v h=>(by cases h),λk v h=>(by cases h)⟩,λc A=>(by cases A),λt x q=>?_⟩⟩;have q:(s.Af.map λl=>(⟨l,0,zb,mZ,[]⟩:ThD))[t]?=O x:=q;rw[zAv,zU]at q;obtain⟨l,_,rfl⟩:=q;exact⟨λd _=>rfl,λ_=>⟨rfl,rfl,λz u=>by cases u⟩,λh=>(by cases h)⟩
structure PlZ(s:CB)(w:Wd)(E:F Ev)(aO:F Ans)(B:Bk):Prop where
 rst:Rst w aO
 ep:w.Al<=1000000
 bk:bkN E E.length=O B
 to:∀c∈B.l,0<=c.to
 opn:(∀t:zn,opA ((fil t B.l).map (·.answer))=[])<->aO=[]
 thr:∀c∈B.l,0<=c.Ag/\c.Ag<8
 giv:∀c∈B.l,∃x∈(plX (plI s) s.Ax).1.ths,c.answer∈x.given
section
variable{s:CB}
def qJQ(u:qTA s.first=zc)(E:1<=s.Af.length/\s.Af.length<=8)(hk:∀l∈s.Af,∀o∈l,1<=o.kind/\o.kind<=6)(Q:Cf s<=8)(hl:s.Ax.length<=1000000):∀k,k<=s.Ax.length->(plX (plI s) (s.Ax.take k)).1.w.Aa.length<=60/\(plX (plI s) (s.Ax.take k)).1.ths.map ThD.ops=s.Af:=by
 intro k
 induction k with
 |zero=>
  intro _;refine⟨?_,?_⟩
  .have:=(qtJ u).1;show((qZC s).map _).length<=60;rw[zAA];omega
  .show(s.Af.map λl=>(⟨l,0,zb,mZ,[]⟩:ThD)).map ThD.ops=_;rw[zCM];exact List.map_id' s.Af
 |succ k H=>
  intro R;obtain⟨q,A⟩:=H sa;obtain⟨p,L⟩:=qBA (show k<s.Ax.length by omega);rw[qdT L];have B:=(qsY u E hk).at (l:=s.Ax) sa hl (k:=k) sa;generalize plX (plI s) (s.Ax.take k)=z at*;unfold plS;cases M:plT z.1.ths p with
  |none=>exact⟨q,A⟩
  |some t=>
   obtain⟨x,h,P⟩:=qaE M;have C:z.1.th t=x:=by unfold PlW.th;rw[h];rfl
   refine⟨?_,?_⟩
   .show(psW z.1.w ((z.1.th t).Br t)).Aa.length<=_;rw[C];obtain⟨T,d,on,m,U⟩:=x;cases on with
    |true=>exact zZ (Nat.le_of_eq (B.inv.stp sa h).o.ll) q
    |false=>
     obtain⟨b1,_⟩:=B.inv.begin h rfl P sa rfl;exact zZ (Nat.le_of_eq (b1.stp sa (qhA h)).o.ll) q
   .show(z.1.ths.set t ((z.1.th t).An _)).map ThD.ops=_;rw[map_set λy D=>?_]
    .exact A
    .rw[h]at D;cases D;rw[C];unfold ThD.An;split<;>rfl
def MR(H:qTA s.first=zc)(Q:1<=s.Af.length/\s.Af.length<=8)(hk:∀l∈s.Af,∀o∈l,1<=o.kind/\o.kind<=6)(V:Cf s<=8)(hl:s.Ax.length<=1000000)(R:CP (plX (plI s) s.Ax).1.ths=[]):∃W B,PlZ s (plX (plI s) s.Ax).1.w (plX (plI s) s.Ax).2 W B:=by
 have D:=(qsY H Q hk).at (l:=s.Ax) sa hl (zG _);have L:=qJQ H Q hk V hl s.Ax.length (zG _);rw[zAB]at D L;obtain⟨L,Y⟩:=L;have M:(plX (plI s) s.Ax).1.ths.length=s.Af.length:=by rw[<-Y,zAA]
 obtain⟨B,aa,u⟩:=D.bk
 have P:∀(t:Z)x,(plX (plI s) s.Ax).1.ths[t]?=O x->x.on=zb:=λt x h=>by
  cases ab:x.on with
  |false=>rfl
  |true=>exact absurd ((D.inv.thr t x h).on ab).1 (qVV R h)
 refine⟨J2 (plX (plI s) s.Ax).1.ths,B,D.inv.rest R hl sa L,by have:=D.inv.bd.ep;omega,aa,λc q=>?_,⟨λE=>?_,λE t=>?_⟩,λc q=>?_,λc q=>?_⟩
 .obtain⟨t,A,C⟩:=u.thr c q;obtain⟨x,h⟩:=qBA C;exact((u.each t x h).off (P t x h)).2.2 c (zAG.2 ⟨q,zC A⟩)
 .unfold J2;rw[List.flatMap_eq_nil_iff];intro x h;obtain⟨t,T⟩:=zT.1 h;have:=E t;rw[((u.each t x T).off (P t x T)).2.1]at this;exact this
 .by_cases M:∃c∈B.l,c.Ag=t
  .obtain⟨c,q,ac⟩:=M;obtain⟨U,A,C⟩:=u.thr c q;obtain⟨x,h⟩:=qBA C;rw[<-ac,A,((u.each U x h).off (P U x h)).2.1];unfold J2 at E;rw[List.flatMap_eq_nil_iff]at E;exact E x (zl h)
  .rw[qjU λz H ad=>M ⟨z,H,ad⟩];rfl
 .obtain⟨t,A,C⟩:=u.thr c q;rw[M]at C;rw[A];omega
 .obtain⟨t,A,C⟩:=u.thr c q;obtain⟨x,h⟩:=qBA C;refine⟨x,zl h,?_⟩;rw[<-((u.each t x h).off (P t x h)).2.1];exact zAb.2 ⟨c,zAG.2 ⟨q,zC A⟩,rfl⟩
def plZ(q:qTA s.first=zc)(u:1<=s.Af.length/\s.Af.length<=8)(hk:∀l∈s.Af,∀o∈l,1<=o.kind/\o.kind<=6)(H:Cf s<=8)(hp:(s.Ax.length:zn)>=Cf s*(23*Cf s+6*s.Af.length+60))(hl:s.Ax.length<=1000000):∃L B,PlZ s (plX (plI s) s.Ax).1.w (plX (plI s) s.Ax).2 L B:=by
 refine MR q u hk H hl ?_;obtain⟨M,P⟩:=qfT q u hk;obtain⟨A,C,h⟩:=qfO (n:=Cf s) sa s.Ax M sa;rw[<-q6L]at A C h;have D:(plI s).ths.length=s.Af.length:=zAA _;apply zA3;intro E;rcases h with h|h
 .exact E h
 .have:=qtY A sa E;rw[C,D]at this;rw[D,P]at h;have e:(23*(Cf s:zn)+6*s.Af.length+60)*Cf s=Cf s*(23*Cf s+6*s.Af.length+60):=Int.mul_comm _ _;rw[e]at h;omega
end
def qKa{l}{i}{q}(h:bkN l (i+1)=O q):∃B,bkN l i=O B:=by
 unfold bkN at h;split at h
 .rename_i B u;exact⟨B,u⟩
 .cases h
def qJV{l}{q}:∀{n i:Z},bkN l n=O q->i<=n->∃B,bkN l i=O B
 |0,i,h,w=>by
  obtain rfl:i=0:=sa
  exact⟨q,h⟩
 |n+1,i,h,w=>by
  rcases zAL n i with u|u
  .obtain rfl:i=n+1:=sa
   exact⟨q,h⟩
  .obtain⟨_,A⟩:=qKa h;exact qJV A u
def qLa{l}{n i}{B w}{e}(h:bkN l n=O w)(hb:bkN l i=O B)(A:l[i]?=O e)(C:i<n):∃u,bkE B i e=O u/\bkN l (i+1)=O u:=by
 obtain⟨u,q⟩:=qJV (i:=i+1) h C;refine⟨u,?_,q⟩;unfold bkN at q;rw[hb]at q;dsimp only at q;rw[A]at q;exact q
def Kd(es:F (Ky×zg)):Prop:=∀k v,Bs k es=O v->∃z:zn,v=.int .i64 z/\0<z
def qMa{B A}{i e}(h:Kd B.of)(hb:bkE B i e=O A):Kd A.of:=by
 have C:∀w,bkA B i e=O w->Kd w.of:=λw q=>by
  unfold bkA at q;split at q
  .split at q
   .cases q
   .cases q;intro k v u;replace u:Bs k (BT _ _ B.of)=O v:=u;rw[qlD]at u;split at u
    .cases u;exact⟨_,rfl,sa⟩
    .exact h k v u
  .cases q;exact h
 unfold bkE at hb;split at hb
 .rename_i w q;unfold bkB at hb;split at hb
  .cases hb
  .cases hb;exact C w q
 .cases hb
def qcP{l}:∀{i:Z}{B:Bk},bkN l i=O B->Kd B.of
 |0,B,h=>by cases h;exact λk v h=>(by cases h)
 |i+1,B,h=>by
  unfold bkN at h;split at h
  .rename_i u q;split at h
   .exact qMa (qcP q) h
   .cases h;exact qcP q
  .cases h
def Kd.no{es}{k}(h:Kd es)(q:¬0<gI k es):Bs k es=zc:=by
 unfold gI at q;cases hm:Bs k es with
 |none=>rfl
 |some v=>
  obtain⟨z,rfl,a⟩:=h k v hm;rw[hm]at q;exact absurd a q
def qmQ{n}{es k}(h:IF n es):Bs k es=O (.int .i64 (gI k es))\/(Bs k es=zc/\gI k es=0):=by
 unfold gI;cases hm:Bs k es with
 |none=>exact .inr ⟨rfl,rfl⟩
 |some v=>
  obtain⟨z,rfl,a⟩:=h k v hm;exact .inl rfl
def qwO{k}{z v}:∀{es:F (Ky×zg)},Bs k es=zc->DY es.length v (es++[(k,z)])=BT k v es
 |[],_=>rfl
 |(m,q)::r,h=>by
  unfold Bs at h;split at h
  .cases h
  .rename_i u;show(m,q)::DY r.length v (r++[(k,z)])=BT k v ((m,q)::r);rw[qwO h];simp only[BT,u]
def qvO{k}{v u}:∀{es:F (Ky×zg)},Bs k es=O u->DY (mIx k es) v es=BT k v es/\mIx k es<es.length
 |[],h=>by cases h
 |(m,A)::r,h=>by
  unfold Bs at h;split at h
  .rename_i q;obtain rfl:=Bx.1 q;simp only[mIx,BT,q];exact⟨rfl,sd⟩
  .rename_i q;obtain⟨w,B⟩:=qvO (v:=v) h;simp only[mIx,BT,q,DY];exact⟨by rw[w],sf⟩
def qJR{B q}{i}{e}(h:Ja B)(hb:bkB B i e=O q):∃k c,gI (.p e.Ag e.op) B.of=((k+1:Z):zn)/\gI (.i e.Ag) B.busy=((k+1:Z):zn)/\B.l[k]?=O c/\q=⟨B.l.set k (Dj c i e),B.of,match e.done with
  |true=>BT (.i e.Ag) (.int .i64 0) B.busy
  |false=>B.busy⟩:=by
 unfold bkB at hb;obtain⟨D,E⟩:=h.of.g (.p e.Ag e.op);split at hb
 .cases hb
 .rename_i u;simp only[zDf,zC2,Bool.not_eq_false',zx]at u;obtain⟨k,w⟩:∃k:Z,gI (.p e.Ag e.op) B.of=((k+1:Z):zn):=⟨(gI (.p e.Ag e.op) B.of).toNat-1,sa⟩;have C:(gI (.p e.Ag e.op) B.of-1).toNat=k:=sa
  rw[C]at hb;cases hb;have A:k<B.l.length:=sa
  exact⟨k,B.l[k],w,u.2.trans w,zAe A,by rw[zAe A];rfl⟩
def qnQ{n:Z}{es k}{z:zn}(h:IF n es)(q:gI k es=z){K:zg->Prop}(hk:K (.int .i64 z)):∃o,Bs k es=o/\match o with
  |some v=>K v
  |none=>K (.int .i64 0):=by
 subst q;rcases qmQ (k:=k) h with e|⟨e,u⟩
 .exact⟨_,e,hk⟩
 .refine⟨zc,e,?_⟩;rw[u]at hk;exact hk
def q7U(L:F BK):∀x∈L.map BK.cs,x.length=18:=λx h=>by
 obtain⟨c,_,rfl⟩:=zAb.1 h;rfl
def qZP{cells:F zg}{L:F BK}{k off size:Z}{c c':BK}{vs:F zg}(h:cells=(L.map BK.cs).flatten)(hc:L[k]?=O c)(q:vs.length=size)(u:off+size<=18)(e:c.cs.take off++vs++c.cs.drop (off+size)=c'.cs):cells.take (k*18+off)++vs++cells.drop (k*18+off+size)=((L.set k c').map BK.cs).flatten:=by
 subst h;rw[q5C (q7U L) (by rw[zAv,hc];rfl) q u,e,zDL]
def qbM{cells:F zg}{L:F BK}{k off:Z}(q:cells=(L.map BK.cs).flatten)(h:k<L.length)(u:off<=18):k*18+off<=cells.length:=by
 subst q;rw[q6C (q7U L),zAA];omega
abbrev Np(c:BK)(i:zn):BK:=⟨c.Ag,c.op,c.from_,c.BL,i,c.answer⟩
def qbY{q:Type}{L:F q}{k:Z}{c:q}(h:L[k]?=O c):L.set k c=L:=by
 apply zBT;intro i;by_cases u:k=i
 .subst u;rw[zBu (zd.1 h).1,h]
 .rw[zBi u]
abbrev GU(c:BK)(i:zn)(p:zM):BK:=⟨c.Ag,c.op,c.from_,if p then i else c.BL,c.to,c.answer⟩
def BZ(t:zn)(l:F BK):F Ans:=(fil t l).map (·.answer)
def qdG(t)(l)(c):BZ t (l++[c])=if c.Ag=t then BZ t l++[c.answer]else BZ t l:=by
 unfold BZ;rw[qKM,qHP];split
 .rw[zBo];rfl
 .rw[zDi]
def qPR(t)(l):(BZ t l).length<=l.length:=by
 unfold BZ fil;rw[zAA];exact zCI ..
def qUX{t}{l}{A:Ans}(h:A∈BZ t l):∃c∈l,c.answer=A:=by
 obtain⟨c,q,e⟩:=zAb.1 h;exact⟨c,(zAG.1 q).1,e⟩
def qTX{t}{l}(h:BZ t l≠[]):∃c∈l,c.Ag=t:=by
 obtain⟨B,q⟩:=zCW _ h;obtain⟨c,u,_⟩:=zAb.1 q;obtain⟨w,A⟩:=zAG.1 u;exact⟨c,w,ze A⟩
def qoT(given):∀k:Z,(opL given k).length<=k
 |0=>zG _
 |k+1=>by
  have h:=qoT given k;unfold opL;split
  .unfold Gw;split
   .rw[zAq,zCJ];omega
   .split
    .split
     .rename_i i _;have:=List.length_eraseIdx_le (opL given k) i;omega
     .omega
    .omega
  .omega
def JM{l}:opA l=[]<->(opL l l.length).length=0:=by
 unfold opA;rw[List.map_eq_nil_iff,zBd]
def qKN:∀{n:Z}{l:F zn},l.Nodup->(∀x∈l,0<=x/\x<n)->l.length<=n
 |0,l,_,h=>by
  cases l with
  |nil=>exact zG _
  |cons x l=>have:=h x (zAm ..);omega
 |n+1,l,u,h=>by
  have A:(l.erase (n:zn)).Nodup:=u.erase _
  have B:=qKN A (n:=n) λx q=>by
   have w:=h x (List.mem_of_mem_erase q)
   have C:x≠(n:zn):=λe=>by
    rw[e]at q;exact(List.Nodup.mem_erase_iff u).1 q|>.1 rfl
   omega
  have w:=List.length_erase (a:=(n:zn)) (l:=l);split at w<;>omega
def swp(l:F zn)(j:Z)(a b:zn):F zn:=(l.set (j+1) a).set j b
def qWY(l)(j a b):(swp l j a b).length=l.length:=by
 unfold swp;rw[zX,zX]
def qVY{l}{j}{a b}(ha:l[j]?=O a)(hb:l[j+1]?=O b)(x):x∈swp l j a b<->x∈l:=by
 have B:=(zd.1 ha).1;have C:=(zd.1 hb).1
 have e:∀i:Z,(swp l j a b)[i]?=if i=j then O b else if i=j+1 then O a else l[i]?:=λi=>by
  unfold swp;by_cases h:j=i
  .subst h;rw[zBu (by rw[zX];exact B),zk rfl]
  .rw[zBi h,zh λq=>h q.symm];by_cases u:j+1=i
   .subst u;rw[zBu C,zk rfl]
   .rw[zBi u,zh λq=>u q.symm]
 rw[zT,zT];constructor
 .rintro⟨i,h⟩;rw[e]at h;split at h
  .exact⟨j+1,hb.trans h⟩
  .split at h
   .exact⟨j,ha.trans h⟩
   .exact⟨i,h⟩
 .rintro⟨i,h⟩;by_cases w:i=j
  .subst w;refine⟨i+1,?_⟩;rw[e,zh sa,zk rfl,<-ha,h]
  .by_cases A:i=j+1
   .subst A;refine⟨j,?_⟩;rw[e,zk rfl,<-hb,h]
   .refine⟨i,?_⟩;rw[e,zh w,zh A,h]
def qZT{l:F zn}{j:Z}(v:zn)(h:j<l.length):(l.map (zD .i64)).take (j*1)++[.int .i64 v]++(l.map (zD .i64)).drop (j*1+1)=(l.set j v).map (zD .i64):=by
 rw[zCb,zDL,zC7,zk (by rw[zAA];exact h)];simp
end Go.Proofs.YtlmhpamhhgogaaaGreat.Sx
namespace Go.Proofs.YtlmhpamhhgogaaaGreat.Sx
open Go.RowKit
abbrev sX:BA:=⟨#[120]⟩
abbrev sSl:BA:=⟨#[47]⟩
end Go.Proofs.YtlmhpamhhgogaaaGreat.Sx
