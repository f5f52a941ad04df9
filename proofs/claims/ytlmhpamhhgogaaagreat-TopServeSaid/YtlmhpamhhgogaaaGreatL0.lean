import Derived.Lib.Walk
import Derived.Lib.Strings
import Derived.Test.YtlmhpamhhgogaaaGreatF1
import Derived.Test.YtlmhpamhhgogaaaGreatF2
import Derived.Test.YtlmhpamhhgogaaaGreatP0
set_option linter.all false
set_option maxHeartbeats 16000000
set_option maxRecDepth 100000
open And renaming intro→zG
open Bool renaming false→zb,true→I
open Eq renaming refl→zAu
open Go renaming Value→zg,World→zp,Program→zv,execOp→zx,maxLen→zAp,TypeId→zAw,Addr→zAI,Act→zDz,Oper→zDA
open Go.Deferred renaming ofValue→zBH
open Go.IntKind renaming i64→zAj,u64→zBP
open Go.Region renaming wanted→zAl
open Go.Value renaming int→zK,oneCell'→zAY,bool→zBt
open List renaming replicate→zAT,range→zA8
open Option renaming some→O,none→zc
open _root_ renaming List→F,Nat→Z,Int→zt,Option→zy,Bool→zO,Array→zS,False→zX
namespace Go.Proofs.YtlmhpamhhgogaaaGreat
open Go.Proofs.YtlmhpamhhgogaaaGreat.Sx
def hm:Tryz.prog.follows .mixedOrders=I:=sd
def noT:q6B Tryz.prog []:=λ_ h=>nomatch h
def q2Y(g)(c):OkV Tryz.prog 110 [.int .u8 c] g (.bool (Ic c)):=
 Ok.Aq hm noT 0 N4.2 (args:=[.v (.int .u8 c)]) (by
  repeat'((conv=>whnf);apply zG<;>intro _)
  all_goals((conv=>whnf);intro g2 h;simp_all [Ic]<;>omega))
def qoR(g)(c):OkV Tryz.prog 143 [.int .u8 c] g (.bool (qDK c)):=
 Ok.Aq hm noT 0 Nc.2 (args:=[.v (.int .u8 c)]) (by
  refine zw ?_;refine .inl ⟨_,q2Y _ _,?_⟩
  repeat'((conv=>whnf);apply zG<;>intro _)
  all_goals((conv=>whnf);intro g2 h;simp_all [qDK]<;>omega))
def tN:F (Z×FnI):=[(111,FL.1),(112,CV.1)]
def qob:q6B Tryz.prog tN:=by
 intro x h;simp only[tN,zs,zC,zAt]at h;rcases h with rfl|rfl
 .exact⟨_,_,FL.2⟩
 .exact⟨_,_,CV.2⟩
def qhH(g)(s):OkV Tryz.prog 65 [.string s] g (.bool (qDE (bs s))):=
 Ok.Aq hm qob 1 NJ.2 (args:=[.v (.string s)]) (by
  refine zw ?_;refine⟨λC=>?_,λC=>?_⟩
  .refine zw ?_;refine⟨λD=>?_,λD=>?_⟩
   .have aa:=zd C;have ab:=zd D;rw[qmA]at aa ab;obtain⟨A,Q⟩:∃A,(bs s)[0]?=O A:=⟨(bs s)[0]'sa,zAa sa⟩;have R:(bs s).head?.any (λc=>Ic c.toNat)=Ic A.toNat:=by rw[zC4,Q];rfl
    refine zw ?_;refine⟨A,⟨sa,Q⟩,zw ?_⟩;refine .inl ⟨_,q2Y _ _,zw ?_⟩;refine⟨λE=>?_,λE=>?_⟩
    .refine zw ?_;intro ac;refine zw ?_;refine⟨rfl,zw ?_⟩;refine⟨rfl,zw ?_⟩;intro ad;refine zw ?_;refine⟨Z,λi=>[.v (.int .i64 i)],λ_=>⟨g,[.blk 1 ad _ [.v (.func (.func 143) #[] #[])],.blk 0 ac _ [.v (.func (.func 143) #[] #[])]],_,_⟩,λi=>i<=(bs s).length/\((bs s).take i).all (λc=>qDK c.toNat)=I,λi=>(bs s).length-i,λ_ _ q=>⟨0,rfl,⟨zJ _,rfl⟩,q⟩,?_⟩;intro i T;have ae:=T.1;have H:=T.2;refine zw ?_;refine⟨λL=>?_,λL=>?_⟩
     .have h:i<(bs s).length:=by have:=zd L;rw[qmA]at this;omega
      obtain⟨c,U,V⟩:∃c,(bs s)[i]=c/\(bs s)[i]?=O c:=⟨_,rfl,zAa h⟩;have W:∀b,qDK c.toNat=b->((bs s).take (i+1)).all (λc=>qDK c.toNat)=b:=λb u=>by rw[qnD h,H,U,u];rfl
      have Y:zAj.wrap ((i:zt)+1)=((i+1:Z):zt):=by rw[wr sa];simp
      refine zw ?_;refine⟨c,⟨sa,V⟩,zw ?_⟩;refine⟨λP=>?_,λP=>?_⟩
      .refine zw ?_;refine⟨rfl,zw ?_⟩;refine⟨c,⟨sa,V⟩,zw ?_⟩;refine⟨kF,zw ?_⟩;refine .inl ⟨_,qoR _ _,zw ?_⟩;refine⟨λu=>?_,λu=>?_⟩
       .refine zw ?_;intro g2 B;rw[qDE,qyB h (by rw[U];simpa using u)];simp
       .refine zw ?_;refine λ_ _ q=>⟨i+1,zI (λz=>[zK .i64 z]) Y.symm,⟨h,W _ (by simpa using u)⟩,dec h,q⟩
      .refine zw ?_;refine λ_ _ q=>⟨i+1,zI (λz=>[zK .i64 z]) Y.symm,⟨h,W _ (by simp at P;simp[qDK,P])⟩,dec h,q⟩
     .refine zw ?_;intro g2 B;have:i=(bs s).length:=by have:=zf L;rw[qmA]at this;omega
      rw[this,zAX]at H;rw[qDE,H,R,E,zR (p:=0<(bs s).length) sa,zR (p:=(bs s).length<=16) sa];rfl
    .refine zw ?_;intro g2 B;simp[qDE,R,E]
   .refine zw ?_;intro g2 B;have:=zf D;rw[qmA]at this;rw[qDE,zT (p:=(bs s).length<=16) sa];simp
  .refine zw ?_;intro g2 B;have:=zf C;rw[qmA]at this
   rw[qDE,zT (p:=0<(bs s).length) sa];simp)
section
variable{H:Type}{enc:zAw×zg->H}{W:zp}
def qkO:Rds enc Tryz.prog W 153 q6L:=qKX (tS:=9) sd sd sd
def qnL:Rds enc Tryz.prog W 151 qTC:=q5S (tS:=9) (tI:=3) (tL:=149) (tB:=4) sd sd sd sd sd sd sd
def Ft:Rds enc Tryz.prog W 26 qBB:=by
 intro fuel cs x h
 obtain⟨a,b,d,rfl,⟨q,u⟩,⟨A,B⟩,C,D⟩:=qJX (t0:=22) (t1:=23) (t2:=24) (e0:=9) (e1:=153) (e2:=151) (z0:=1) (z1:=4) (z2:=4)
  sd sd sd sd sd sd sd sd sa sa sa (q4L sd) qkO qnL h
 exact⟨⟨q,A,C⟩,a,b,d,rfl,u,B,D⟩
end
section
variable{H:Type}{enc:zAw×zg->H}{W:zp}
end
end Go.Proofs.YtlmhpamhhgogaaaGreat
namespace Go.Proofs.YtlmhpamhhgogaaaGreat
open Go.Conc (G)
open Go.RowKit Go.Lib Go.Proofs.YtlmhpamhhgogaaaGreat.Sx
def qSH{P}(a):∀(n:Z)(h:ByteArray),(Extern.Bytes.loadBytes a n h).Calm P
 |0,_=>qIA _
 |n+1,h=>by
  unfold Extern.Bytes.loadBytes;refine qDA (qRD _ _) λv=>?_;split
  .exact qSH _ n _
  .exact qQA _
def qYP{P}(v):(Extern.Bytes.bytesOf v).Calm P:=by
 unfold Extern.Bytes.bytesOf;split<;>first|exact qIA _|exact qQA _|exact qSH ..
def q5Q{P}(v):(Extern.Bytes.asByte v).Calm P:=by
 unfold Extern.Bytes.asByte;split<;>first|exact qIA _|exact qQA _
def qqL{P}(xs):(Extern.BytealgIndexByte.indexByte xs).Calm P:=by
 rcases xs with⟨_|⟨a,_|⟨b,_|⟨c,l⟩⟩⟩⟩<;>try exact qQA _
 show Sem.Calm P (Extern.Bytes.bytesOf a>>=_);refine qDA (qYP _) λ_=>qDA (q5Q _) λ_=>?_;split<;>exact qIA _
def q4Q{P}{f}{fn}{e}(q:P.funcs[f]? =O fn)(h:(fn.name== "runtime.NumGoroutine")=zb)(u:fn.body.isNone=I)(A:Extern.findNext fn=zc)(B:Extern.find fn=O e)(args)(C:(e args).Calm P):(callFunc f args).Calm P:=by
 have E:fn.name≠ "runtime.NumGoroutine" :=by simpa using h
 have D:fn.body=zc:=by simpa using u
 unfold callFunc;refine qAB ?_;simp only[q,h,zA2,zCD,D,Option.isNone_none,zBA,A,B];refine qDA (s:=mark _) ⟨se,se,trivial⟩ λ_=>qDA C λ_=>qIA _
def qKL{P:zv}{E:Env P}{r:zy Z}{o:zDA}{a:zDz}{w:zp}{K:zDz->zp->Prop}{v:zg}(h:(o.semAt r a.eval).Calm P)(q:(o.semAt r a.eval).run P w=.ok (.value v) w)(u:K (a.put o.dst v) w):o.atX E r a w K:=by
 refine⟨h,?_⟩;rw[q];exact⟨.refl _,u⟩
def qsd{P:zv}{E:Env P}{r:zy Z}{o:zDA}{a:zDz}{w:zp}{K:zDz->zp->Prop}{v:zg}{s:Sem Next}(e:o.semAt r a.eval=s)(h:s.Calm P)(q:s.run P w=.ok (.value v) w)(u:K (a.put o.dst v) w):o.atX E r a w K:=
 qKL (e▸h) (e▸q) u
def qGG{P:zv}{E:Env P}{r:zy Z}{ops:zS zDA}{i:Z}{l:F Z}{o:zDA}{a:zDz}{w:zp}{K:zDz->zp->Prop}(q:ops[i]?=O o)(u:zAl o (yielded ops a.tmps)=I)(h:∀d,o.atX E r a (w.at d) (qhE E r ops K l)):qhE E r ops K (i::l) a w:=by
 simp only[qhE,qMC,q,u,zBA];exact h
def ib(s:ByteArray)(c:zt)(w:zp)(E:Env Tryz.prog):BI E 253 #[.string s,.int .u8 c] w λe w'=>e=.returned (.int .i64 (Lib.indexByte s.data.toList c.toNat.toUInt8))/\Below w.heap.size w w':=by
 refine qgG Tryz.func253 rfl ?_;simp only[Tryz.ntmps253,zDq,zBy,zCq,Nat.reduceAdd,Nat.reduceSub,Array.replicate_succ,Array.replicate_zero,List.push_toArray,List.append_toArray,zA9,zBi];refine qtI (qgE (qGG (l:=[]) rfl rfl (λd=>qKL (qDA (qIA _) λ_=>qIA _) rfl ?_)));refine λd2=>qtI (qgE ?_);refine qGG rfl rfl (λd=>qKL (qIA _) rfl ?_);refine qGG rfl rfl (λd=>qKL (qIA _) rfl ?_)
 have hx:∀(a:zDz),a.eval (.tmp 5)=.string s->a.eval (.tmp 6)=.int .u8 c->Oper.semAt zc a.eval {dst:=O 7,op:=Op.call {callee:=Callee.value (Operand.func 258),args:=#[Operand.tmp 5,Operand.tmp 6],argTypes:=#[9,5]},type:=3,pos:= "strings.go:25",after:=#[{on:=0,ground:=Ground.data},{on:=1,ground:=Ground.data}],guard:=zc}=callFunc 258 #[.string s,.int .u8 c]:=by
  intro a h1 h2;simp only[Act.eval]at h1 h2;simp[Oper.semAt,zx,resolve,zBH,invoke,Act.eval,h1,h2]
 refine qGG rfl rfl (λd=>qsd (v:=.int .i64 (Lib.indexByte s.data.toList c.toNat.toUInt8)) (hx _ rfl rfl) ?_ ?_ ?_)
 .exact q4Q Tryz.func258 sd sd sd (e:=Extern.BytealgIndexByte.indexByte) sd _ (qqL _)
 .rw[run_callFunc_extern Tryz.func258 sd sd sd (e:=Extern.BytealgIndexByte.indexByte) sd,Lib.run_indexByteString];rfl
 refine qGG rfl rfl (λd=>qKL (qDA (qIA _) λ_=>qIA _) rfl ?_);refine λd=>qqM ?_;refine λd=>⟨_,results_tmp rfl _ _ _,rfl,?_⟩;exact⟨rfl,rfl,rfl,zH _,λ_ _=>rfl⟩
end Go.Proofs.YtlmhpamhhgogaaaGreat
namespace Go.Proofs.YtlmhpamhhgogaaaGreat
open Go.Proofs.YtlmhpamhhgogaaaGreat.Sx
def KQ(g)(s)(c):OkV Tryz.prog 253 [.string s,.int .u8 c] g (.int .i64 (Lib.indexByte (bs s) c.toNat.toUInt8)):=
 Ok.of_same λw h=>ib s c w h
def qnO(g)(s)(c):OkV Tryz.prog 233 [.string s,.int .u8 c] g (.int .i64 (Lib.indexByte (bs s) c.toNat.toUInt8)):=
 Ok.Aq hm noT 0 ML.2 (args:=[.v (.string s),.v (.int .u8 c)]) (by
  refine zw ?_;refine .inl ⟨_,KQ _ _ _,zw ?_⟩;intro g2 h
  rfl)
def tH:F (Z×FnI):=[(195,Fq.1),(232,EB.1)]
def Kq:q6B Tryz.prog tH:=by
 intro x h;simp only[tH,zs,zC,zAt]at h;rcases h with rfl|rfl
 .exact⟨_,_,Fq.2⟩
 .exact⟨_,_,EB.2⟩
def qWQ(g)(s):OkV Tryz.prog 162 [.string s] g (.bool (qoJ (bs s))):=
 Ok.Aq hm Kq 2 NK.2 (args:=[.v (.string s)]) (by
  refine zw ?_;intro W;refine zw ?_;refine⟨λu=>?_,λu=>?_⟩
  .refine zw ?_;refine⟨rfl,zw ?_⟩;refine⟨rfl,zw ?_⟩;intro g2 D;have:=zd u;rw[qmA]at this;rw[qoJ,zT sa];rfl
  .refine zw ?_;intro Y;refine zw ?_;intro aa;refine zw ?_;refine⟨kF,λl ab=>zw ?_⟩;refine⟨ByteArray,λ_=>[],λt=>⟨g,[.lp 3 l ab .ready,.blk 2 aa _ [.v (.int .u8 46)],.blk 1 Y _ [.v (.string t)],.blk 0 W _ [.v (.bool zb)]],_,_⟩,λt=>t.size<=32/\(qMD 46 (bs t)).all qDE=(qMD 46 (bs s)).all qDE,λt=>t.size,λ_ _ E=>⟨s,rfl,⟨by have:=zf u;omega,rfl⟩,E⟩,?_⟩;intro t Q;have B:=Q.2;have ad:=Q.1
   have R:Lib.indexByte (bs t) (46:zt).toNat.toUInt8<0->qMD 46 (bs t)=[bs t]:=λH=>by
    rcases qFG 46 (bs t)with⟨_,q⟩|⟨i,_,q,_⟩
    .exact q
    .rw[show(46:zt).toNat.toUInt8=46 from rfl,q]at H;omega
   refine zw ?_;refine⟨rfl,zw ?_⟩;refine⟨rfl,zw ?_⟩;refine .inl ⟨_,qnO _ _ _,zw ?_⟩;refine⟨λq=>?_,λq=>?_⟩
   .refine zw ?_;refine⟨rfl,zw ?_⟩;refine⟨rfl,zw ?_⟩;refine⟨⟨rfl,rfl⟩,zw ?_⟩;refine⟨rfl,zw ?_⟩;refine .inl ⟨_,qhH _ _,zw ?_⟩;refine⟨λh=>?_,λh=>?_⟩
    .refine zw ?_;refine⟨rfl,zw ?_⟩;refine⟨rfl,zw ?_⟩;refine⟨rfl,zw ?_⟩;refine⟨rfl,zw ?_⟩;intro g2 D;have A:(qMD 46 (bs t)).all qDE=zb:=by rw[R (zd q)];simp at h;simp[h]
     rw[qoJ,<-B,A];simp
    .refine zw ?_;refine⟨rfl,zw ?_⟩;refine⟨rfl,zw ?_⟩;refine⟨rfl,zw ?_⟩;refine⟨rfl,zw ?_⟩;intro g2 D;have A:(qMD 46 (bs t)).all qDE=I:=by rw[R (zd q)];simp at h;simp[h]
     have:=zf u;rw[qmA]at this;rw[qoJ,<-B,A,zR sa];rfl
   .have ac:=zf q
    obtain⟨i,ae,C,T⟩:∃i:Z,i<(bs t).length/\Lib.indexByte (bs t) (46:zt).toNat.toUInt8=i/\qMD 46 (bs t)=(bs t).take i::qMD 46 ((bs t).drop (i+1)):=by
     rcases qFG 46 (bs t)with⟨u,_⟩|H
     .rw[show(46:zt).toNat.toUInt8=46 from rfl,u]at ac;omega
     .exact H
    have U:=qmA t;refine zw ?_;refine⟨rfl,zw ?_⟩;refine⟨⟨by rw[C];omega,by rw[C];omega⟩,zw ?_⟩;refine⟨rfl,zw ?_⟩;refine⟨⟨rfl,rfl⟩,zw ?_⟩;refine⟨rfl,zw ?_⟩;refine .inl ⟨_,qhH _ _,?_⟩;have V:bs (t.extract 0 (Lib.indexByte (bs t) (46:zt).toNat.toUInt8).toNat)=(bs t).take i:=by rw[qtD,C];simp
    refine zw ?_;refine⟨λh=>?_,λh=>?_⟩
    .refine zw ?_;refine⟨rfl,zw ?_⟩;refine⟨rfl,zw ?_⟩;refine⟨rfl,zw ?_⟩;refine⟨rfl,zw ?_⟩;intro g2 D;rw[V]at h;have A:(qMD 46 (bs t)).all qDE=zb:=by rw[T];simp at h;simp[h]
     rw[qoJ,<-B,A];simp
    .refine zw ?_;refine⟨rfl,zw ?_⟩;refine⟨rfl,?_⟩;have L:zAj.wrap (Lib.indexByte (bs t) (46:zt).toNat.toUInt8+1)=((i+1:Z):zt):=by rw[C,wr sa];simp
     have P:bs (t.extract (zAj.wrap (Lib.indexByte (bs t) (46:zt).toNat.toUInt8+1)).toNat t.size)=(bs t).drop (i+1):=by
      rw[qtD,L,zBB,U];exact zAz se
     refine zw ?_;refine⟨⟨by rw[L];omega,by rw[L];omega⟩,zw ?_⟩;refine⟨rfl,zw ?_⟩;refine λ_ _ E=>⟨_,rfl,⟨?_,?_⟩,?_,E⟩
     .rw[qmA,P,zBN];omega
     .rw[V]at h;rw[<-B,T,P];simp at h;simp[h]
     .show ByteArray.size _<t.size
      rw[qmA,P,U,zBN];omega)
def qoO(g)(s p):OkV Tryz.prog 231 [.string s,.string p] g (.bool (Ed (bs p) (bs s))):=
 Ok.Aq hm noT 0 Mz.2 (args:=[.v (.string s),.v (.string p)]) (by
  refine zw ?_;refine⟨λh=>?_,λh=>?_⟩
  .have q:=zd h;refine zw ?_;refine⟨⟨sa,sa⟩,zw ?_⟩;intro g2 u;rw[qMQ];have e1:bs (s.extract 0 (p.size:zt).toNat)=(bs s).take (bs p).length:=by rw[qtD,qmA];simp
   have:=qmA s;have:=qmA p
   rw[zR (show(bs p).length<=(bs s).length by omega),<-e1];rfl
  .refine zw ?_;intro g2 u;have q:=zf h;have:=qmA s;have:=qmA p
   rw[qMQ,zT (show ¬(bs p).length<=(bs s).length by omega)];rfl)
def qKN(g)(s t)(hs:s.size<=200000000000000/\t.size<=200000000000000):OkV Tryz.prog 254 [.string s,.string t] g (.bool (Hz (bs t) (bs s))):=
 Ok.Aq hm noT 0 My.2 (args:=[.v (.string s),.v (.string t)]) (by
  refine zw ?_;refine⟨λh=>?_,λh=>?_⟩
  .have u:=zd h;have q:zAj.wrap ((s.size:zt)-(t.size:zt))=((s.size-t.size:Z):zt):=by rw[wr sa];omega
   refine zw ?_;refine⟨⟨by rw[q];omega,by rw[q];omega⟩,zw ?_⟩;intro g2 A;rw[qQU];have:=qmA s;have:=qmA t
   have e1:bs (s.extract (zAj.wrap ((s.size:zt)-(t.size:zt))).toNat s.size)=(bs s).drop ((bs s).length-(bs t).length):=by
    rw[qtD,q,zBB,qmA s,qmA t];exact zAz se
   rw[zR (show(bs t).length<=(bs s).length by omega),<-e1];rfl
  .refine zw ?_;intro g2 A;have u:=zf h;have:=qmA s;have:=qmA t
   rw[qQU,zT (show ¬(bs t).length<=(bs s).length by omega)];rfl)
def qVJ(g)(s t)(hs:s.size<=200000000000000/\t.size<=200000000000000):OkV Tryz.prog 235 [.string s,.string t] g (.bool (Hz (bs t) (bs s))):=
 Ok.Aq hm noT 0 MM.2 (args:=[.v (.string s),.v (.string t)]) (by
  refine zw ?_;refine .inl ⟨_,qKN _ _ _ hs,zw ?_⟩;intro g2 h
  rfl)
def Gj(s p:BA):BA:=if Ed (bs p) (bs s)then s.extract p.size s.size else s
def qgN{s p}(h:Ed (bs p) (bs s)=I):bs (Gj s p)=(bs s).drop (bs p).length:=by
 unfold Gj;rw[zk h,qtD,qmA s,qmA p];exact zAz se
def qMN(g)(s p):OkV Tryz.prog 194 [.string s,.string p] g (.tuple #[.string (Gj s p),.bool (Ed (bs p) (bs s))]):=
 Ok.Aq hm noT 0 MA.2 (args:=[.v (.string s),.v (.string p)]) (by
  refine zw ?_;refine .inl ⟨_,qoO _ _ _,zw ?_⟩;refine⟨λq=>?_,λq=>?_⟩
  .have h:Ed (bs p) (bs s)=zb:=by simpa using q
   refine zw ?_;intro g2 u;unfold Gj;rw[h];rfl
  .have h:Ed (bs p) (bs s)=I:=by simpa using q
   have A:p.size<=s.size:=by
    rw[qMQ]at h;simp only[zl,zF]at h;have:=qmA s;have:=qmA p;omega
   refine zw ?_;refine⟨⟨sa,sa⟩,zw ?_⟩;intro g2 u;unfold Gj
   rw[h];rfl)
def qLE(g)(s p):OkV Tryz.prog 161 [.string s,.string p] g (.tuple #[.string (Gj s p),.bool (Ed (bs p) (bs s))]):=
 Ok.Aq hm noT 0 MN.2 (args:=[.v (.string s),.v (.string p)]) (by
  refine zw ?_;refine .inl ⟨_,qMN _ _ _,zw ?_⟩;intro g2 h
  rfl)
def q4I(g)(s):OkV Tryz.prog 139 [.string s] g (.bool (qtB (bs s))):=
 Ok.Aq hm noT 0 MZ.2 (args:=[.v (.string s)]) (by
  refine zw ?_;refine .inl ⟨_,qLE _ _ _,zw ?_⟩;refine⟨λh=>?_,λh=>?_⟩
  .have q:Ed [42,46] (bs s)=I:=h;refine zw ?_;refine .inl ⟨_,qWQ _ _,zw ?_⟩;intro g2 A;rw[qtB,q,qgN h];rfl
  .have q:Ed [42,46] (bs s)=zb:=h;refine zw ?_;refine⟨λk=>?_,λk=>?_⟩
   .refine zw ?_;intro g2 A;rw[qtB,q];have u:(bs s==[42])=I:=k;rw[u];rfl
   .refine zw ?_;refine .inl ⟨_,qWQ _ _,zw ?_⟩;intro g2 A;rw[qtB,q];have u:(bs s==[42])=zb:=k
    rw[u];rfl)
def qUQ(g)(s):OkV Tryz.prog 140 [.string s] g (.bool (qDH (bs s))):=
 Ok.Aq hm qob 1 NI.2 (args:=[.v (.string s)]) (by
  have ac:=qmA s;refine zw ?_;refine⟨λD=>?_,λD=>?_⟩
  .refine zw ?_;refine⟨λE=>?_,λE=>?_⟩
   .have ad:=zd D;have ae:=zd E;obtain⟨B,Q⟩:∃B,(bs s)[0]?=O B:=qEA sa;have R:(bs s).head?.any (λc=>(c.toNat:zt)==47)=((B.toNat:zt)==47):=by rw[zC4,Q];rfl
    refine zw ?_;refine⟨B,⟨sa,Q⟩,zw ?_⟩;refine⟨λH=>?_,λH=>?_⟩
    .refine zw ?_;intro aa;refine zw ?_;refine⟨rfl,zw ?_⟩;refine⟨rfl,zw ?_⟩;intro ab;refine zw ?_;refine⟨Z,λi=>[.v (.int .i64 i)],λ_=>⟨g,[.blk 1 ab _ [.v (.func (.func 143) #[] #[])],.blk 0 aa _ [.v (.func (.func 143) #[] #[])]],_,_⟩,λi=>i<=(bs s).length/\((bs s).take i).all (λc=>(c.toNat:zt)==47||qDK c.toNat)=I,λi=>(bs s).length-i,λ_ _ u=>⟨0,rfl,⟨zJ _,rfl⟩,u⟩,?_⟩;intro i T;have af:=T.1;have L:=T.2;refine zw ?_;refine⟨λP=>?_,λP=>?_⟩
     .have h:i<(bs s).length:=by have:=zd P;omega
      obtain⟨c,U,V⟩:∃c,(bs s)[i]=c/\(bs s)[i]?=O c:=⟨_,rfl,zAa h⟩;have W:∀b,((c.toNat:zt)==47||qDK c.toNat)=b->((bs s).take (i+1)).all (λc=>(c.toNat:zt)==47||qDK c.toNat)=b:=λb q=>by rw[qnD h,L,U,q];rfl
      have Y:zAj.wrap ((i:zt)+1)=((i+1:Z):zt):=by rw[wr sa];simp
      refine zw ?_;refine⟨c,⟨sa,V⟩,zw ?_⟩;refine⟨λA=>?_,λA=>?_⟩
      .refine zw ?_;refine⟨rfl,zw ?_⟩;refine⟨c,⟨sa,V⟩,zw ?_⟩;refine⟨kF,zw ?_⟩;refine .inl ⟨_,qoR _ _,zw ?_⟩;refine⟨λq=>?_,λq=>?_⟩
       .refine zw ?_;intro g2 C;simp at A q;rw[qDH,qyB h (by rw[U];simp[A,q])];simp
       .refine zw ?_;refine λ_ _ u=>⟨i+1,zI (λz=>[zK .i64 z]) Y.symm,⟨h,W _ (by simp at q;simp[q])⟩,dec h,u⟩
      .refine zw ?_;refine λ_ _ u=>⟨i+1,zI (λz=>[zK .i64 z]) Y.symm,⟨h,W _ (by simp at A;simp[A])⟩,dec h,u⟩
     .refine zw ?_;intro g2 C;have:i=(bs s).length:=by have:=zf P;omega
      rw[this,zAX]at L;rw[qDH,L,R,H,zR (p:=0<(bs s).length) sa,zR (p:=(bs s).length<=32) sa];rfl
    .refine zw ?_;intro g2 C;simp[qDH,R,H]
   .refine zw ?_;intro g2 C;have:=zf E;rw[qDH,zT (p:=(bs s).length<=32) sa];simp
  .refine zw ?_;intro g2 C;have:=zf D
   rw[qDH,zT (p:=0<(bs s).length) sa];simp)
def qtX(g){v}{l}(C:rSl 1 E8 g v l)(s):OkV Tryz.prog 67 [v,.string s] g (.int .i64 (Cz (BM (λx=>bs s==bs x) l))):=
 Ok.Aq hm noT 0 Mp.2 (args:=[.v v,.v (.string s)]) (by
  obtain⟨R,cap,rfl,D,E,T,H⟩:=C;refine zq ?_;intros;refine⟨Z,λk=>[.v (.int .i64 k)],λk=>⟨g,[],_,_⟩,λk=>k<=l.length/\Cj (Eg λx=>bs s==bs x) l k,λk=>l.length-k,qfA 0 rfl ⟨zJ _,Cj.zero _ _⟩ rfl,?_⟩;rintro k ⟨U,q⟩;refine zw ?_;refine⟨λu=>?_,λu=>?_⟩
  .have h:k<l.length:=by have:=zd u;omega
   obtain⟨x,A⟩:=qEA h;obtain⟨a,rfl,V,W,rfl,L⟩:=H k x A;refine zw ?_;refine⟨a,rfl,⟨sa,sa⟩,zw ?_⟩;refine⟨_,L 0 _ rfl,zw ?_⟩;refine⟨λB=>?_,λB=>?_⟩
   .refine zw ?_;intro g2 P;rw[q0G q A B]
   .refine zw ?_;refine λY w Q=>⟨k+1,zI (λz=>[zK .i64 z]) (wr1 h D E).symm,⟨h,qVF q A B⟩,dec h,Q⟩
  .refine zw ?_;intro g2 P;have:=zf u
   rw[q2D q sa])
def qPF(g){v}{l}(h:rSl 1 E8 g v l)(s):OkV Tryz.prog 31 [v,.string s] g (.bool (Dk l s)):=
 Ok.Aq hm noT 0 Mo.2 (args:=[.v v,.v (.string s)]) (by
  refine zw ?_;refine .inl ⟨_,qtX _ h _,zw ?_⟩;intro g2 q;rw[qUN];have:(λx=>bs s==bs x)=λx=>bs x==bs s:=by funext x;exact qSW _ _
  rw[this];rfl)
def tC:F (Z×FnI):=[(159,AV.1),(193,Bf.1),(160,D8.1)]
def Ks:q6B Tryz.prog tC:=by
 intro x h;simp only[tC,zs,zC,zAt]at h;rcases h with rfl|rfl|rfl
 .exact⟨_,_,AV.2⟩
 .exact⟨_,_,Bf.2⟩
 .exact⟨_,_,D8.2⟩
def qrR(g){v}{l}(D:rSl 4 qTC g v l)(s):OkV Tryz.prog 138 [v,.string s] g (.bool (Gy l s)):=
 Ok.Aq hm Ks 3 Nk.2 (args:=[.v v,.v (.string s)]) (by
  obtain⟨T,cap,rfl,E,H,U,L⟩:=D;refine zq ?_;intros;refine⟨Z,λk=>[.v (.int .i64 k)],λk=>⟨g,[.blk 0 _ _ [.v (.string s)]],_,_⟩,λk=>k<=l.length/\Cj (Eg λ(x:AW)=>bs x.name==bs s) l k,λk=>l.length-k,qfA 0 rfl ⟨zJ _,Cj.zero _ _⟩ rfl,?_⟩;rintro k ⟨V,B⟩;refine zw ?_;refine⟨λq=>?_,λq=>?_⟩
  .have h:k<l.length:=by have:=zd q;omega
   obtain⟨x,u⟩:=qEA h;obtain⟨a,rfl,W,Y,⟨aa,rfl,_,_,_,_,rfl,_⟩,P⟩:=L k x u;refine zw ?_;refine⟨a,rfl,⟨sa,sa⟩,zw ?_⟩;refine⟨_,⟨rfl,P⟩,zw ?_⟩;refine⟨kF,zq ?_⟩;intros;refine⟨λA=>?_,λA=>?_⟩
   .refine zw ?_;intro g2 Q;have:Gy l s=I:=zBY.2 ⟨x,zh u,A⟩;rw[this];simp
   .refine zw ?_;refine λab w R=>⟨k+1,zI (λz=>[zK .i64 z]) (wr1 h E H).symm,⟨h,qVF B u A⟩,dec h,?_⟩;exact R.fit sc
  .refine zw ?_;intro g2 Q;have:=zf q;have C:=qUN (λ(x:AW)=>bs x.name==bs s) l;rw[q2D B sa]at C
   rw[show Gy l s=zb from by rw[Gy,<-C];rfl];rfl)
def qlO(g)(n a b):OkV Tryz.prog 137 [.int .i64 n,.int .i64 a,.int .i64 b] g (.bool (decide (a<=n)&&decide (n<=b))):=
 Ok.Aq hm noT 0 M4.2 (args:=[.v (.int .i64 n),.v (.int .i64 a),.v (.int .i64 b)]) (by
  refine zq ?_;intros
  repeat'((first|refine .inl ⟨_,rfl,zq ?_⟩|refine⟨λ_=>zq ?_,λ_=>zq ?_⟩|rfl)<;>intros)
  all_goals(conv=>whnf)
  all_goals(intro g2 h)
  all_goals(first|(simp_all;done)|(simp_all;omega)))
def qsR(g){cs}{c}(h:qBB g cs c):OkV Tryz.prog 98 [.agg ⟨cs⟩] g (eiT (qmL c)):=by
 obtain⟨a,b,d,rfl,q,u,A⟩:=h;obtain⟨B,C,rfl,P,Q,R,T⟩:=id q;obtain⟨D,E,rfl,U,V,W,Y⟩:=id u;obtain⟨H,L,rfl,d1,d2,aa,ab⟩:=id A
 exact Ok.Aq hm noT 0 MD.2 (args:=[.v (.agg ⟨[.slice B c.Aa.length C,.slice D c.Ar.length E,.slice H c.Ad.length L]⟩)]) (by
  refine zq ?_;intros
  repeat'((first|refine .inl ⟨_,qlO _ _ _ _,zq ?_⟩|refine⟨λ_=>zq ?_,λ_=>zq ?_⟩|rfl)<;>intros)
  all_goals(conv=>whnf)
  all_goals(intro g2 ac)
  all_goals first|(rw[show qmL c=O (6,0)from zj (by simp_all;try omega)];rfl;done)|(rw[show qmL c=zc from zk (by simp_all;try omega)];rfl))
def qlK(g){cs}{c}(B:qBB g cs c):OkV Tryz.prog 99 [.agg ⟨cs⟩] g (eiT (qcD c)):=by
 obtain⟨a,b,d,rfl,D,V,E⟩:=B;obtain⟨H,L,rfl,W,Y,ac,aa⟩:=id D;obtain⟨P,Q,rfl,ad,ae,af,ag⟩:=id V;obtain⟨R,T,rfl,d1,d2,ah,ai⟩:=id E
 exact Ok.Aq hm noT 0 Mt.2 (args:=[.v (.agg ⟨[.slice H c.Aa.length L,.slice P c.Ar.length Q,.slice R c.Ad.length T]⟩)]) (by
  refine zq ?_;intros;refine⟨Z,λk=>[.v (.int .i64 k)],λk=>⟨g,[.blk 0 _ _ [.v (.slice H c.Aa.length L),.v (.slice P c.Ar.length Q),.v (.slice R c.Ad.length T)]],_,_⟩,λk=>k<=c.Aa.length/\Cj (qSF c.Aa) c.Aa k,λk=>c.Aa.length-k,qfA 0 rfl ⟨zJ _,Cj.zero _ _⟩ rfl,?_⟩;rintro k ⟨E,q⟩;refine zw ?_;refine⟨λC=>?_,λC=>?_⟩
  .have h:k<c.Aa.length:=by have:=zd C;omega
   obtain⟨x,u⟩:=qEA h;obtain⟨a,rfl,aj,ak,rfl,B⟩:=aa k x u;refine zw ?_;refine⟨a,rfl,⟨sa,sa⟩,zw ?_⟩;refine⟨_,B 0 _ rfl,zq ?_⟩;intros;refine .inl ⟨_,qhH _ _,zw ?_⟩;refine⟨λA=>?_,λA=>?_⟩
   .refine zw ?_;intro g2 U;rw[show qcD c=O ((3,k):EI)from q.hit u (by rw[qSF,zj (by simp[nb1 A])])];rfl
   .refine zq ?_;intros;refine⟨⟨sa,sa⟩,zq ?_⟩;intros;refine .inl ⟨_,qPF _ (D.take (zCW h)) _,zw ?_⟩;refine⟨λhs=>?_,λhs=>?_⟩
    .refine zw ?_;intro g2 U;rw[show qcD c=O ((4,k):EI)from q.hit u (by rw[qSF,zk (nb0 A),zk hs])];rfl
    .refine zw ?_;refine λal w ab=>⟨k+1,zI (λz=>[zK .i64 z]) (wr1 h W Y).symm,⟨h,q.succ u (by rw[qSF,zk (nb0 A),zj (by simp[hs])])⟩,dec h,?_⟩;exact ab.fit sc
  .refine zw ?_;intro g2 U;have:=zf C
   rw[show qcD c=zc from q.done sa];rfl)
def qUJ(g){cs}{c}(E:qBB g cs c):OkV Tryz.prog 100 [.agg ⟨cs⟩] g (eiT (qOD c)):=by
 obtain⟨a,b,d,rfl,Y,aa,P⟩:=E;obtain⟨Q,R,rfl,aj,ak,al,am⟩:=id Y;obtain⟨T,U,rfl,an,ao,ap,aq⟩:=id aa;obtain⟨V,W,rfl,d1,d2,ar,ab⟩:=id P
 exact Ok.Aq hm noT 0 Ms.2 (args:=[.v (.agg ⟨[.slice Q c.Aa.length R,.slice T c.Ar.length U,.slice V c.Ad.length W]⟩)]) (by
  refine zq ?_;intros;refine⟨Z,λk=>[.v (.int .i64 k)],λk=>⟨g,[.blk 0 _ _ [.v (.slice Q c.Aa.length R),.v (.slice T c.Ar.length U),.v (.slice V c.Ad.length W)]],_,_⟩,λk=>k<=c.Ad.length/\Cj (qcB c.Ad) c.Ad k,λk=>c.Ad.length-k,qfA 0 rfl ⟨zJ _,Cj.zero _ _⟩ rfl,?_⟩;rintro k ⟨au,C⟩;refine zw ?_;refine⟨λD=>?_,λD=>?_⟩
  .have u:k<c.Ad.length:=by have:=zd D;omega
   obtain⟨x,H⟩:=qEA u;obtain⟨a,rfl,av,aw,⟨ax,rfl,_,_,_,_,rfl,_⟩,E⟩:=ab k x H;have hit:∀e:EI,qcB c.Ad k x=O e->qOD c=O e:=λe ac=>C.hit H ac;refine zw ?_;refine⟨a,rfl,⟨sa,sa⟩,zw ?_⟩;refine⟨_,⟨rfl,E⟩,zq ?_⟩;intros;refine .inl ⟨_,qhH _ _,zw ?_⟩;refine⟨λh=>?_,λh=>?_⟩
   .refine zw ?_;intro g2 A;rw[hit (3,k) (by rw[qcB,zj (by simp[nb1 h])])];rfl
   have h:=nb0 h;refine zq ?_;intros;refine⟨⟨sa,sa⟩,zq ?_⟩;intros;refine .inl ⟨_,qrR _ (P.take (zCW u)) _,zw ?_⟩;refine⟨λhs=>?_,λhs=>?_⟩
   .refine zw ?_;intro g2 A;rw[hit (4,k) (by rw[qcB,zk h,zk hs])];rfl
   have ad:¬(x.AY=1\/x.AY=2)->qcB c.Ad k x=O (9,(k:zt)):=λq=>by rw[qcB,zk h,zj (by simp[hs]),zj q]
   have ae:(x.AY=1\/x.AY=2)->¬(1<=x.As/\x.As<=4)->qcB c.Ad k x=O (10,(k:zt)):=λq B=>by rw[qcB,zk h,zj (by simp[hs]),zk q,zj B]
   have af:(x.AY=1\/x.AY=2)->(1<=x.As/\x.As<=4)->¬(1<=x.Az.length/\x.Az.length<=4)->qcB c.Ad k x=O (6,(k:zt)):=λq B L=>by rw[qcB,zk h,zj (by simp[hs]),zk q,zk B,zj L]
   have ag:(x.AY=1\/x.AY=2)->(1<=x.As/\x.As<=4)->(1<=x.Az.length/\x.Az.length<=4)->qcB c.Ad k x=zc:=λq B L=>by rw[qcB,zk h,zj (by simp[hs]),zk q,zk B,zk L]
   have ah:=λe=>C.succ H e;clear D C;refine zq ?_;intros
   repeat'((first|refine .inl ⟨_,qlO _ _ _ _,zq ?_⟩|refine⟨λ_=>zq ?_,λ_=>zq ?_⟩|rfl)<;>intros)
   all_goals(conv=>whnf)
   all_goals(try simp only[bne_iff_ne,ne_eq,bne_eq_false_iff_eq,zC0,Bool.not_eq_false',zl,Bool.and_eq_false_iff,zF,decide_eq_false_iff_not]at*)
   all_goals first
    |(intro g2 A;rw[hit (9,k) (ad sa)];rfl;done)
    |(intro g2 A;rw[hit (10,k) (ae sa sa)];rfl;done)
    |(intro g2 A;rw[hit (6,k) (af sa sa sa)];rfl;done)
    |refine λay w ai=>⟨k+1,zI (λz=>[zK .i64 z]) (wr1 u d1 d2).symm,⟨u,ah (ag sa sa sa)⟩,dec u,?_⟩
   all_goals(exact ai.fit sc)
  .refine zw ?_;intro g2 A;have:=zf D
   rw[show qOD c=zc from C.done sa];rfl)
def qFM(g){cs}{c}(H:qBB g cs c):OkV Tryz.prog 101 [.agg ⟨cs⟩] g (eiT (q7F c)):=by
 obtain⟨a,b,d,rfl,ad,al,ae⟩:=H;obtain⟨L,P,rfl,ap,aq,ar,au⟩:=id ad;obtain⟨af,Q,rfl,ag,ah,av,ai⟩:=id al;obtain⟨R,T,rfl,d1,d2,aw,ax⟩:=id ae
 exact Ok.Aq hm noT 0 Mw.2 (args:=[.v (.agg ⟨[.slice L c.Aa.length P,.slice af c.Ar.length Q,.slice R c.Ad.length T]⟩)]) (by
  refine zq ?_;intros;refine⟨Z,λk=>[.v (.int .i64 k)],λk=>⟨g,[.blk 0 _ _ [.v (.slice L c.Aa.length P),.v (.slice af c.Ar.length Q),.v (.slice R c.Ad.length T)]],_,_⟩,λk=>k<=c.Ar.length/\Cj (qqE c) c.Ar k,λk=>c.Ar.length-k,qfA 0 rfl ⟨zJ _,Cj.zero _ _⟩ rfl,?_⟩;rintro k ⟨ay,U⟩;refine zw ?_;refine⟨λV=>?_,λV=>?_⟩
  .have C:k<c.Ar.length:=by have:=zd V;omega
   obtain⟨x,W⟩:=qEA C;obtain⟨a,rfl,az,aA,rfl,H⟩:=ai k x W;have hit:∀e:EI,qqE c k x=O e->q7F c=O e:=λe h=>U.hit W h;refine zw ?_;refine⟨a,rfl,⟨sa,sa⟩,zw ?_⟩;refine⟨_,⟨rfl,H⟩,zq ?_⟩;intros;refine .inl ⟨_,qPF _ ad _,zw ?_⟩;refine⟨λq=>?_,λq=>?_⟩
   .refine zw ?_;intro g2 D;rw[hit (5,k) (by rw[qqE,zj (by simp[nb1 q])])];rfl
   have q:=nb0 q;refine zq ?_;intros;refine .inl ⟨_,q4I _ _,zw ?_⟩;refine⟨λu=>?_,λu=>?_⟩
   .refine zw ?_;intro g2 D;rw[hit (7,k) (by rw[qqE,zk q,zj (by simp[nb1 u])])];rfl
   have u:=nb0 u;refine zq ?_;intros;refine .inl ⟨_,qUQ _ _,zw ?_⟩;refine⟨λA=>?_,λA=>?_⟩
   .refine zw ?_;intro g2 D;rw[hit (8,k) (by rw[qqE,zk q,zk u,zj (by simp[nb1 A])])];rfl
   have A:=nb0 A;refine zq ?_;intros;refine .inl ⟨_,qrR _ ae _,zw ?_⟩;refine⟨λB=>?_,λB=>?_⟩
   .refine zw ?_;intro g2 D;rw[hit (5,k) (by rw[qqE,zk q,zk u,zk A,zj (by simp[nb1 B])])];rfl
   have B:=nb0 B;refine zq ?_;intros;refine⟨⟨sa,sa⟩,zq ?_⟩;intros;refine⟨Z,λm=>[.v (.int .i64 m)],λm=>⟨g,[.blk 1 _ _ [.v (.string x.listen),.v (.string x.Bb),.v (.string x.path),.v (.string ⟨#[]⟩)],.blk 0 _ _ [.v (.slice L c.Aa.length P),.v (.slice (O a) c.Ar.length Q),.v (.slice R c.Ad.length T)]],_,_⟩,λm=>m<=k/\(∀j y,j<m->c.Ar[j]?=O y->G2 y x=zb),λm=>k-m,qfA 0 rfl ⟨zJ _,λj y aj=>sa⟩ rfl,?_⟩;rintro m ⟨aB,ak⟩;refine zw ?_;refine⟨λY=>?_,λY=>?_⟩
   .have E:m<k:=by have:=zd Y;simp at this;omega
    obtain⟨y,aa⟩:=qEA (show m<c.Ar.length by omega);obtain⟨aC,am,aD,aE,rfl,an⟩:=ai m y aa;cases am;refine zw ?_;refine⟨a,rfl,⟨sa,sf⟩,zw ?_⟩;refine⟨_,⟨rfl,an⟩,zq ?_⟩;intros;refine⟨λh=>?_,λh=>?_⟩
    .refine zw ?_;intro g2 D;have h:G2 y x=I:=by simpa[G2,Bool.and_assoc]using h
     rw[hit (4,k) (by rw[qqE,zk q,zk u,zk A,zk B,zk];exact zBY.2 ⟨y,zh (show(c.Ar.take k)[m]?=O y by rw[zBd,zk E];exact aa),h⟩)];rfl
    .refine zw ?_;refine λao w ab=>⟨m+1,zI (λz=>[zK .i64 z]) (wr1 E (zCW (zQ C ag)) ah).symm,⟨E,?_⟩,dec E,?_⟩
     .have h:G2 y x=zb:=by simpa[G2,Bool.and_assoc]using h
      intro j z aj ac;rcases zAJ j m with c1|c1
      .exact ak j z c1 ac
      .obtain rfl:j=m:=sa
       rw[aa]at ac;cases ac;exact h
     .exact ab.fit sc
   .refine zw ?_;refine λao w ab=>⟨k+1,zI (λz=>[zK .i64 z]) (wr1 C ag ah).symm,⟨C,U.succ W (by rw[qqE,zk q,zk u,zk A,zk B,zj];have:=zf Y;rw[CP.2 λj y aj=>ak j y sa];simp)⟩,dec C,?_⟩;exact ab.fit sc
  .refine zw ?_;intro g2 D;have:=zf V
   rw[show q7F c=zc from U.done sa];rfl)
def q4K(o):(o=zc/\eiT o=.tuple #[.int .i64 0,.int .i64 0])\/∃e i,o=O (e,i)/\eiT o=.tuple #[.int .i64 e,.int .i64 i]:=by
 cases o with
 |none=>exact .inl ⟨rfl,rfl⟩
 |some x=>exact .inr ⟨x.1,x.2,rfl,rfl⟩
def qzG(g){cs}{c}(ab:qBB g cs c):OkV Tryz.prog 54 [.agg ⟨cs⟩] g (eiT (qOA c)):=by
 have B:=ab;obtain⟨a,b,d,rfl,ac,ad,ae⟩:=ab;obtain⟨C,D,rfl,ag,ah,ai,aj⟩:=id ac;obtain⟨E,H,rfl,ak,al,am,an⟩:=id ad;obtain⟨L,P,rfl,d1,d2,ao,ap⟩:=id ae
 exact Ok.Aq hm noT 0 Nl.2 (args:=[.v (.agg ⟨[.slice C c.Aa.length D,.slice E c.Ar.length H,.slice L c.Ad.length P]⟩)]) (by
  refine zq ?_;intros;refine⟨Z,λk=>[.v (.int .i64 k)],λ_=>⟨g,[.blk 2 _ _ [.fn (.func 98) [.agg [.v (.slice C c.Aa.length D),.v (.slice E c.Ar.length H),.v (.slice L c.Ad.length P)]] [],.fn (.func 99) [.agg [.v (.slice C c.Aa.length D),.v (.slice E c.Ar.length H),.v (.slice L c.Ad.length P)]] [],.fn (.func 100) [.agg [.v (.slice C c.Aa.length D),.v (.slice E c.Ar.length H),.v (.slice L c.Ad.length P)]] [],.fn (.func 101) [.agg [.v (.slice C c.Aa.length D),.v (.slice E c.Ar.length H),.v (.slice L c.Ad.length P)]] []],.blk 1 _ _ [.v (.slice C c.Aa.length D),.v (.slice E c.Ar.length H),.v (.slice L c.Ad.length P)],.blk 0 _ _ [.v (.slice C c.Aa.length D),.v (.slice E c.Ar.length H),.v (.slice L c.Ad.length P)]],_,_⟩,λk=>k<=4/\(1<=k->qmL c=zc)/\(2<=k->qcD c=zc)/\(3<=k->qOD c=zc)/\(4<=k->q7F c=zc),λk=>4-k,qfA 0 rfl ⟨sa,sa,sa,sa,sa⟩ rfl,?_⟩;rintro k ⟨aq,Q,U,W,af⟩;obtain rfl|rfl|rfl|rfl|rfl:k=0\/k=1\/k=2\/k=3\/k=4:=sa
  .obtain⟨q,u⟩|⟨e,i,q,u⟩:=q4K (qmL c)
   .refine zw ?_;refine⟨λ_=>zw ?_,λh=>nomatch h⟩;refine⟨0,⟨rfl,sb⟩,zq ?_⟩;intros;refine⟨kF,zw ?_⟩;refine .inl ⟨_,(qsR _ B).to u,zw ?_⟩;refine⟨λh=>(nomatch h),λ_=>zw ?_⟩;refine λY w R=>⟨1,rfl,⟨sa,λ_=>q,λh=>absurd h sa,λh=>absurd h sa,λh=>absurd h sa⟩,sb,?_⟩;exact R.fit sc
   .have A:qOA c=O (e,i):=by rw[qOA,q]
    have aa:=q0C A;refine zw ?_;refine⟨λ_=>zw ?_,λh=>nomatch h⟩;refine⟨0,⟨rfl,sb⟩,zq ?_⟩;intros;refine⟨kF,zw ?_⟩;refine .inl ⟨_,(qsR _ B).to u,zw ?_⟩;refine⟨λ_=>zw ?_,λT=>absurd T sf⟩;intro g2 V;rw[A];rfl
  .obtain⟨q,u⟩|⟨e,i,q,u⟩:=q4K (qcD c)
   .refine zw ?_;refine⟨λ_=>zw ?_,λh=>nomatch h⟩;refine⟨1,⟨rfl,sb⟩,zq ?_⟩;intros;refine⟨kF,zw ?_⟩;refine .inl ⟨_,(qlK _ B).to u,zw ?_⟩;refine⟨λh=>(nomatch h),λ_=>zw ?_⟩;refine λY w R=>⟨2,rfl,⟨sa,λ_=>Q sa,λ_=>q,λh=>absurd h sa,λh=>absurd h sa⟩,sb,?_⟩;exact R.fit sc
   .have A:qOA c=O (e,i):=by rw[qOA,Q sa,q]
    have aa:=q0C A;refine zw ?_;refine⟨λ_=>zw ?_,λh=>nomatch h⟩;refine⟨1,⟨rfl,sb⟩,zq ?_⟩;intros;refine⟨kF,zw ?_⟩;refine .inl ⟨_,(qlK _ B).to u,zw ?_⟩;refine⟨λ_=>zw ?_,λT=>absurd T sf⟩;intro g2 V;rw[A];rfl
  .obtain⟨q,u⟩|⟨e,i,q,u⟩:=q4K (qOD c)
   .refine zw ?_;refine⟨λ_=>zw ?_,λh=>nomatch h⟩;refine⟨2,⟨rfl,sb⟩,zq ?_⟩;intros;refine⟨kF,zw ?_⟩;refine .inl ⟨_,(qUJ _ B).to u,zw ?_⟩;refine⟨λh=>(nomatch h),λ_=>zw ?_⟩;refine λY w R=>⟨3,rfl,⟨sa,λ_=>Q sa,λ_=>U sa,λ_=>q,λh=>absurd h sa⟩,sb,?_⟩;exact R.fit sc
   .have A:qOA c=O (e,i):=by rw[qOA,Q sa,U sa,q]
    have aa:=q0C A;refine zw ?_;refine⟨λ_=>zw ?_,λh=>nomatch h⟩;refine⟨2,⟨rfl,sb⟩,zq ?_⟩;intros;refine⟨kF,zw ?_⟩;refine .inl ⟨_,(qUJ _ B).to u,zw ?_⟩;refine⟨λ_=>zw ?_,λT=>absurd T sf⟩;intro g2 V;rw[A];rfl
  .obtain⟨q,u⟩|⟨e,i,q,u⟩:=q4K (q7F c)
   .refine zw ?_;refine⟨λ_=>zw ?_,λh=>nomatch h⟩;refine⟨3,⟨rfl,sb⟩,zq ?_⟩;intros;refine⟨kF,zw ?_⟩;refine .inl ⟨_,(qFM _ B).to u,zw ?_⟩;refine⟨λh=>(nomatch h),λ_=>zw ?_⟩;refine λY w R=>⟨4,rfl,⟨sa,λ_=>Q sa,λ_=>U sa,λ_=>W sa,λ_=>q⟩,sb,?_⟩;exact R.fit sc
   .have A:qOA c=O (e,i):=by rw[qOA,Q sa,U sa,W sa,q]
    have aa:=q0C A;refine zw ?_;refine⟨λ_=>zw ?_,λh=>nomatch h⟩;refine⟨3,⟨rfl,sb⟩,zq ?_⟩;intros;refine⟨kF,zw ?_⟩;refine .inl ⟨_,(qFM _ B).to u,zw ?_⟩;refine⟨λ_=>zw ?_,λT=>absurd T sf⟩;intro g2 V;rw[A];rfl
  .refine zw ?_;refine⟨λh=>(nomatch h),λ_=>zw ?_⟩;intro g2 V
   rw[show qOA c=zc from by rw[qOA,Q sa,U sa,W sa,af sa]];rfl)

abbrev qOZ(r:F2):F zg:=[.string r.listen,.string r.Bb,.string r.path,.string r.Af]
def qVS{q:Type}{f:q->zO}{l:F q}{k:Z}{x:q}(h:(l.take k).any f=zb)(u:l[k]?=O x)(A:f x=zb):(l.take (k+1)).any f=zb:=by
 obtain⟨B,C⟩:=ze.1 u;rw[zAo B,zDI,h,C];simp[A]
abbrev Sm(s:BA):Prop:=s.size<=140737488355328
def qJZ{s p}:(Gj s p).size<=s.size:=by
 unfold Gj;split
 .rw[qmA,qtD,qmA s];simp
 .exact zH _
def qsX(g)(p h)(hs:Sm p/\Sm h):OkV Tryz.prog 197 [.string p,.string h] g (.bool (qOI (bs p) (bs h))):=
 Ok.Aq hm noT 0 Ny.2 (args:=[.v (.string p),.v (.string h)]) (by
  refine zw ?_;refine .inl ⟨_,q4I _ _,zw ?_⟩;refine⟨λL=>?_,λL=>?_⟩
  .refine zw ?_;intro g2 A;have q:qtB (bs p)=zb:=by simpa using L
   rw[qOI,q];rfl
  have q:qtB (bs p)=I:=by simpa using L
  refine zw ?_;refine .inl ⟨_,qWQ _ _,zw ?_⟩;refine⟨λP=>?_,λP=>?_⟩
  .refine zw ?_;intro g2 A;have u:qoJ (bs h)=zb:=by simpa using P
   rw[qOI,u];simp
  have u:qoJ (bs h)=I:=by simpa using P
  refine zw ?_;refine .inl ⟨_,qLE _ _ _,zw ?_⟩;refine⟨λQ=>?_,λQ=>?_⟩
  .refine zw ?_;intro g2 A;have B:(bs p==bs h)=I:=Q;rw[qOI,q,u,B];rfl
  have B:(bs p==bs h)=zb:=Q;refine zw ?_;refine⟨λC=>?_,λC=>?_⟩
  .have D:Ed [42] (bs p)=I:=C;have E:bs (Gj p ⟨#[42]⟩)=(bs p).drop 1:=qgN C;refine zw ?_;refine⟨λR=>?_,λR=>?_⟩
   .refine zw ?_;intro g2 A;have H:((bs p).drop 1==[])=I:=by rw[<-E];exact R
    rw[qOI,q,u,B,D,qyW,H];rfl
   have H:((bs p).drop 1==[])=zb:=by rw[<-E];exact R
   have W:(Gj p ⟨#[42]⟩).size=((bs p).drop 1).length:=by rw[qmA,E]
   have Y:(Gj p ⟨⟨[42]⟩⟩).size=((bs p).drop 1).length:=W;have aa:=qmA h;refine zw ?_;refine⟨λ_=>zw ?_,λT=>absurd ((C).symm.trans T) sb⟩;refine⟨λU=>?_,λU=>?_⟩
   .have V:decide (((bs p).drop 1).length<(bs h).length)=I:=by
     have:=zd U;exact zR sa
    refine zw ?_;refine .inl ⟨_,qVJ _ _ _ ⟨by have:=hs.2;unfold Sm at this;omega,by have:=hs.1;unfold Sm at this;have:=@qJZ p ⟨#[42]⟩;have:=@qJZ p ⟨⟨[42]⟩⟩;omega⟩,zw ?_⟩;intro g2 A;rw[E,qOI,q,u,B,D,qyW,H,V];rfl
   .refine zw ?_;intro g2 A
    have V:decide (((bs p).drop 1).length<(bs h).length)=zb:=by
     have:=zf U;exact zT sa
    rw[qOI,q,u,B,D,qyW,H,V];rfl
  .refine zw ?_;refine⟨λT=>absurd (T.symm.trans (C)) sb,λ_=>zw ?_⟩;intro g2 A;have D:Ed [42] (bs p)=zb:=C
   rw[qOI,q,u,B,D];rfl)
def qkX(g)(a b)(hs:Sm a/\Sm b):OkV Tryz.prog 198 [.string a,.string b] g (.bool (qOJ (bs a) (bs b))):=
 Ok.Aq hm noT 0 Nx.2 (args:=[.v (.string a),.v (.string b)]) (by
  have U:=hs.1;have V:=hs.2
  unfold Sm at U V;refine zw ?_;refine .inl ⟨_,qUQ _ _,zw ?_⟩;refine⟨λD=>?_,λD=>?_⟩
  .refine zw ?_;intro g2 u;have h:qDH (bs a)=zb:=by simpa using D
   rw[qOJ,h];rfl
  have h:qDH (bs a)=I:=by simpa using D
  refine zw ?_;refine .inl ⟨_,qUQ _ _,zw ?_⟩;refine⟨λE=>?_,λE=>?_⟩
  .refine zw ?_;intro g2 u;have q:qDH (bs b)=zb:=by simpa using E
   rw[qOJ,q];simp
  have q:qDH (bs b)=I:=by simpa using E
  refine zw ?_;refine .inl ⟨_,qLE _ _ _,zw ?_⟩;refine⟨λC=>?_,λC=>?_⟩
  .have A:Ed (bs b) (bs a)=I:=C;have H:=qgN C;refine zw ?_;refine⟨λL=>?_,λL=>?_⟩
   .refine zw ?_;intro g2 u;have B:((bs a).drop (bs b).length==[])=I:=by rw[<-H];exact L
    rw[qOJ,h,q,A,B];rfl
   have B:((bs a).drop (bs b).length==[])=zb:=by rw[<-H];exact L
   refine zw ?_;refine .inl ⟨_,qVJ _ _ _ ⟨sa,sb⟩,zw ?_⟩;refine⟨λP=>?_,λP=>?_⟩
   .refine zw ?_;intro g2 u;have Q:Hz [47] (bs b)=I:=P;rw[qOJ,h,q,A,B,Q];rfl
   have Q:Hz [47] (bs b)=zb:=P;have W:(bs a).drop (bs b).length≠[]:=by simpa using B
   obtain⟨c,R⟩:∃c,((bs a).drop (bs b).length)[0]?=O c:=qEA (zDi.2 W);refine zw ?_;refine⟨c,⟨sa,by show(bs (Gj a b))[0]?=_;rw[H];exact R⟩,zw ?_⟩;intro g2 u;rw[qOJ,h,q,A,B,Q,zC4,R];simp only[zCP,Bool.false_or];refine zI zBt ?_;rw[zCf];simp only[beq_iff_eq,zAh];exact⟨λT=>UInt8.toNat_inj.1 (by show c.toNat=47;omega),λT=>by rw[T];rfl⟩
  .refine zw ?_;intro g2 u;have A:Ed (bs b) (bs a)=zb:=C
   rw[qOJ,h,q,A];rfl)
def qmO(g)(p):OkV Tryz.prog 167 [.string p] g (.int .i64 (qOB (bs p))):=
 Ok.Aq hm noT 0 Ng.2 (args:=[.v (.string p)]) (by
  refine zw ?_;refine .inl ⟨_,q4I _ _,zw ?_⟩;refine⟨λA=>?_,λA=>?_⟩
  .refine zw ?_;intro g2 B;have h:qtB (bs p)=zb:=by simpa using A
   rw[qOB,h];rfl
  have h:qtB (bs p)=I:=by simpa using A
  refine zw ?_;refine .inl ⟨_,qLE _ _ _,zw ?_⟩;refine⟨λq=>?_,λq=>?_⟩
  .refine zw ?_;intro g2 B;have u:Ed [42,46] (bs p)=I:=q;rw[qOB,h,u,qmA,qgN q];rfl
  have u:Ed [42,46] (bs p)=zb:=q;refine zw ?_;refine⟨λC=>?_,λC=>?_⟩
  .refine zw ?_;intro g2 B;have D:(bs p==[42])=I:=C;rw[qOB,h,u,D];rfl
  .refine zw ?_;intro g2 B;have D:(bs p==[42])=zb:=C
   rw[qOB,h,u,D];rfl)
def qOV(g)(a p b q):OkV Tryz.prog 145 [.string a,.string p,.string b,.string q] g (.bool (qIJ (bs a) (bs p) (bs b) (bs q))):=
 Ok.Aq hm noT 0 Nh.2 (args:=[.v (.string a),.v (.string p),.v (.string b),.v (.string q)]) (by
  refine zw ?_;refine .inl ⟨_,qmO _ _,zw ?_⟩;refine .inl ⟨_,qmO _ _,zw ?_⟩;refine⟨λh=>?_,λh=>?_⟩
  .refine zw ?_;intro g2 u;rw[qIJ,h];rfl
  .refine zw ?_;intro g2 u;rw[qIJ,h,qmA p,qmA q]
   simp)
abbrev qKW(r:FE):F zg:=[.int .i64 r.listen,.string r.Bb,.string r.path,.int .i64 r.Af]
abbrev SmR(r:FE):Prop:=Sm r.Bb/\Sm r.path
def qSa(g)(r)(n)(h p)(hs:SmR r/\Sm h/\Sm p):OkV Tryz.prog 166 [.agg ⟨qKW r⟩,.int .i64 n,.string h,.string p] g (.bool (Es n h p r)):=
 Ok.Aq hm noT 0 Nu.2 (args:=[.v (.agg ⟨qKW r⟩),.v (.int .i64 n),.v (.string h),.v (.string p)]) (by
  refine zq ?_;intros
  repeat'((first|refine .inl ⟨_,qsX _ _ _ ⟨hs.1.1,hs.2.1⟩,zq ?_⟩|refine .inl ⟨_,qkX _ _ _ ⟨hs.2.2,hs.1.2⟩,zq ?_⟩|refine⟨λ_=>zq ?_,λ_=>zq ?_⟩|rfl)<;>intros)
  all_goals(conv=>whnf)
  all_goals(intro g2 q)
  all_goals(rename_i u;simp only[Es];simp_all))
def tR:F (Z×FnI):=[(144,DX.1),(165,Dw.1)]
def Ki:q6B Tryz.prog tR:=by
 intro x h;simp only[tR,zs,zC,zAt]at h;rcases h with rfl|rfl
 .exact⟨_,_,DX.2⟩
 .exact⟨_,_,Dw.2⟩
def qOb:zy Z->zg
 |some i=>.tuple #[.int .i64 i,.int .i64 0]
 |none=>.tuple #[.int .i64 0,.int .i64 5]
def quL:zy Z->zt
 |none=>-1
 |some j=>j
abbrev SmL(l:F FE):Prop:=∀r∈l,SmR r
def qPV(g){v}{l}(ab:rSl 4 qLX g v l)(n)(h p)(hs:SmL l/\Sm h/\Sm p):OkV Tryz.prog 116 [v,.int .i64 n,.string h,.string p] g (qOb (qrN (Es n h p) l)):=
 Ok.Aq hm Ki 2 Nv.2 (args:=[.v v,.v (.int .i64 n),.v (.string h),.v (.string p)]) (by
  obtain⟨U,cap,rfl,V,W,aj,Y⟩:=ab;refine zq ?_;intros;refine⟨kF,λlp ac=>zq ?_⟩;intros;refine⟨Z,λi=>[.v (.int .i64 i)],λi=>⟨g,[.lp 6 lp ac .ready,.blk 5 _ _ [.v (.string p)],.blk 4 _ _ [.v (.string h)],.blk 3 _ _ [.v (.int .i64 n)],.blk 2 _ _ [.v (.slice U l.length cap)],.blk 1 _ _ [.v (.int .i64 (quL (qhF (Es n h p) l i)))],.blk 0 _ _ [.v (.slice U l.length cap)]],_,_⟩,λi=>i<=l.length,λi=>l.length-i,qfA 0 rfl (zJ _) rfl,?_⟩;intro i ad;refine zw ?_;refine⟨λL=>?_,λL=>?_⟩
  .have q:i<l.length:=by have:=zd L;omega
   obtain⟨r,E⟩:=qEA q;obtain⟨a,rfl,ak,al,⟨rfl,am,an⟩,ae⟩:=Y i r E;have af:=hs.1 r (zh E)
   have P:∀b,(match qhF (Es n h p) l i with|none=>O i|some j=>match l[j]? with|some D=>if EZ r D then O i else O j|none=>O i)=b->Es n h p r=I->qhF (Es n h p) l (i+1)=b:=λb u B=>by
    simp only[qhF,E,B,zBA];exact u
   refine zw ?_;refine⟨a,rfl,⟨sa,sa⟩,zw ?_⟩;refine⟨qKW r,⟨rfl,ae⟩,zq ?_⟩;intros;refine .inl ⟨_,qSa _ _ _ _ _ ⟨af,hs.2⟩,?_⟩;have next:∀(b:zy Z),qhF (Es n h p) l (i+1)=b->[zK .i64 (zAj.wrap ((i:zt)+1))]=[zK .i64 ((i+1:Z):zt)]:=λ_ _=>zI (λz=>[zK .i64 z]) (wr1 q V W);refine zw ?_;refine⟨λB=>?_,λB=>?_⟩
   .refine zq ?_;intros;cases u:qhF (Es n h p) l i with
    |none=>
     have A:=P (O i) (by rw[u]) B;refine zw ?_;refine⟨λ_=>zq ?_,λh=>nomatch h⟩;intros;refine λQ w C=>⟨i+1,(next _ A).symm,q,dec q,?_⟩;exact C.fit (by simp[AB,Res.eqv,qCA,Ag,A,quL])
    |some j=>
     obtain⟨D,H,_,ao,_⟩:=(qKJ (fit:=Es n h p) l i ad).1 j u;obtain⟨ap,ag,aq,ar,⟨rfl,_,_⟩,aa⟩:=Y j D H;cases ag;have au:=(ze.1 H).1;refine zw ?_;refine⟨λR=>absurd (zd R) su,λ_=>zq ?_⟩;intros;refine⟨a,rfl,⟨su,su⟩,zq ?_⟩;intros;refine⟨_,aa 1 _ rfl,zq ?_⟩;intros;refine⟨a,rfl,⟨su,su⟩,zq ?_⟩;intros;refine⟨_,aa 2 _ rfl,zq ?_⟩;intros;refine .inl ⟨_,qOV _ _ _ _ _,zw ?_⟩;refine⟨λT=>?_,λT=>?_⟩
     .have A:=P (O i) (by rw[u];simp only[H];rw[show EZ r D=I from T];rfl) B;refine zq ?_;intros;refine λQ w C=>⟨i+1,(next _ A).symm,q,dec q,?_⟩;exact C.fit (by simp[AB,Res.eqv,qCA,Ag,A,quL])
     .have A:=P (O j) (by rw[u];simp only[H];rw[show EZ r D=zb from T];rfl) B;refine zq ?_;intros;refine λQ w C=>⟨i+1,(next _ A).symm,q,dec q,?_⟩;exact C.fit (by simp[AB,Res.eqv,qCA,Ag,A,quL])
   .refine zw ?_;refine λQ w C=>⟨i+1,?_,q,dec q,?_⟩
    .exact zI (λz=>[zK .i64 z]) (wr1 q V W).symm
    .have:qhF (Es n h p) l (i+1)=qhF (Es n h p) l i:=by simp[qhF,E,B]
     exact C.fit (by simp[AB,Res.eqv,qCA,Ag,this])
  .have ah:i=l.length:=by have:=zf L;omega
   subst ah;refine zq ?_;intros;cases u:qhF (Es n h p) l l.length with
   |none=>
    refine zw ?_;refine⟨λ_=>zw ?_,λh=>nomatch h⟩;intro g2 ai;rw[show qrN (Es n h p) l=zc from u];rfl
   |some j=>
    refine zw ?_;refine⟨λR=>absurd (zd R) su,λ_=>zq ?_⟩;intros;intro g2 ai
    rw[show qrN (Es n h p) l=O j from u];rfl)
end Go.Proofs.YtlmhpamhhgogaaaGreat
namespace Go.Proofs.YtlmhpamhhgogaaaGreat
open Go.Proofs.YtlmhpamhhgogaaaGreat.Sx Go.RowKit
def tS:F (Z×FnI):=[(105,Do.1),(106,DJ.1)]
def Kh:q6B Tryz.prog tS:=by
 intro x h;simp only[tS,zs,zC,zAt]at h;rcases h with rfl|rfl
 .exact⟨_,_,Do.2⟩
 .exact⟨_,_,DJ.2⟩
def tK:F (Z×FnI):=[(107,Ct.1),(108,DV.1)]
def Kn:q6B Tryz.prog tK:=by
 intro x h;simp only[tK,zs,zC,zAt]at h;rcases h with rfl|rfl
 .exact⟨_,_,Ct.2⟩
 .exact⟨_,_,DV.2⟩
def qjK(g){v}{l}(C:rSl 1 E8 g v l)(s):OkV Tryz.prog 61 [v,.string s] g (.int .i64 (Cz (BM (λx=>bs x==bs s) l))):=
 Ok.Aq hm Kh 2 MY.2 (args:=[.v v,.v (.string s)]) (by
  obtain⟨R,cap,rfl,D,E,T,H⟩:=C;refine zq ?_;intros;refine⟨Z,λk=>[.v (.int .i64 k)],λk=>⟨g,[.blk 0 _ _ [.v (.string s)]],_,_⟩,λk=>k<=l.length/\Cj (Eg λx=>bs x==bs s) l k,λk=>l.length-k,qfA 0 rfl ⟨zJ _,Cj.zero _ _⟩ rfl,?_⟩;rintro k ⟨U,q⟩;refine zw ?_;refine⟨λu=>?_,λu=>?_⟩
  .have h:k<l.length:=by have:=zd u;omega
   obtain⟨x,A⟩:=qEA h;obtain⟨a,rfl,V,W,rfl,L⟩:=H k x A;refine zw ?_;refine⟨a,rfl,⟨sa,sa⟩,zw ?_⟩;refine⟨_,L 0 _ rfl,zw ?_⟩;refine⟨kF,zq ?_⟩;intros;refine⟨λB=>?_,λB=>?_⟩
   .refine zw ?_;intro g2 P;rw[q0G q A B]
   .refine zw ?_;refine λY w Q=>⟨k+1,zI (λz=>[zK .i64 z]) (wr1 h D E).symm,⟨h,qVF q A B⟩,dec h,?_⟩;exact Q.fit sc
  .refine zw ?_;intro g2 P;have:=zf u
   rw[q2D q sa])
def qPQ(g){v}{l}(C:rSl 4 qTC g v l)(s):OkV Tryz.prog 62 [v,.string s] g (.int .i64 (Cz (BM (λ(x:AW)=>bs x.name==bs s) l))):=
 Ok.Aq hm Kn 2 M8.2 (args:=[.v v,.v (.string s)]) (by
  obtain⟨R,cap,rfl,D,E,T,H⟩:=C;refine zq ?_;intros;refine⟨Z,λk=>[.v (.int .i64 k)],λk=>⟨g,[.blk 0 _ _ [.v (.string s)]],_,_⟩,λk=>k<=l.length/\Cj (Eg λ(x:AW)=>bs x.name==bs s) l k,λk=>l.length-k,qfA 0 rfl ⟨zJ _,Cj.zero _ _⟩ rfl,?_⟩;rintro k ⟨U,q⟩;refine zw ?_;refine⟨λu=>?_,λu=>?_⟩
  .have h:k<l.length:=by have:=zd u;omega
   obtain⟨x,A⟩:=qEA h;obtain⟨a,rfl,V,W,⟨Y,rfl,_,_,_,_,rfl,_⟩,L⟩:=H k x A;refine zw ?_;refine⟨a,rfl,⟨sa,sa⟩,zw ?_⟩;refine⟨_,⟨rfl,L⟩,zq ?_⟩;intros;refine⟨kF,zq ?_⟩;intros;refine⟨λB=>?_,λB=>?_⟩
   .refine zw ?_;intro g2 P;rw[q0G q A B]
   .refine zw ?_;refine λaa w Q=>⟨k+1,zI (λz=>[zK .i64 z]) (wr1 h D E).symm,⟨h,qVF q A B⟩,dec h,?_⟩;exact Q.fit sc
  .refine zw ?_;intro g2 P;have:=zf u
   rw[q2D q sa])
def qkQ{q:Type}{f:q->zO}{l}(h:l.length<=zAp):InR (Cz (BM f l)):=by
 unfold zAp at h;cases u:BM f l with
 |none=>exact⟨sb,sb⟩
 |some i=>have:=qta u;exact⟨by simp only[Cz];omega,by simp only[Cz];omega⟩
def qQR{h q:Type}{l:F h}{f:h->F q}{k:Z}{x:h}(u:l[k]?=O x):((l.take (k+1)).map f).flatten=((l.take k).map f).flatten++f x:=by
 obtain⟨A,B⟩:=ze.1 u;rw[zAo A,B];simp
def qVZ(g:GW)(c:Bn)(a d v:zg)(g':GW):Prop:=
 (qOA c=zc/\∃h n cap,v=.tuple #[.agg ⟨[a,.slice h n cap,d]⟩,.int .i64 0,.int .i64 0]/\rSl 4 qLX g' (.slice h n cap) (qiA c).AE/\∀x,h=O x->¬g.g x.block)\/
 ∃e i,qOA c=O (e,i)/\v=.tuple #[.agg ⟨[.slice zc 0 0,.slice zc 0 0,.slice zc 0 0]⟩,.int .i64 e,.int .i64 i]
abbrev Ll(c:Bn)(r:F2):F zg:=qKW (qUO c r)
def qME(g){a b d}{c}(u:qBB g [a,b,d] c):Ok Tryz.prog 27 [.agg ⟨[a,b,d]⟩] g (qVZ g c a d):=by
 have V:=u;obtain⟨_,_,_,ad,W,C,Y⟩:=u;cases ad;obtain⟨D,E,rfl,au,av,aw,ax⟩:=id W;obtain⟨aa,ab,rfl,ae,af,ay,ag⟩:=id C;obtain⟨H,L,rfl,d1,d2,az,aA⟩:=id Y
 exact Ok.Aq hm noT 0 NF.2 (args:=[.v (.agg ⟨[.slice D c.Aa.length E,.slice aa c.Ar.length ab,.slice H c.Ad.length L]⟩)]) (by
  rcases q4K (qOA c)with⟨q,P⟩|⟨e,i,q,P⟩
  rotate_left
  .have aB:=q0C q;refine zq ?_;intros;refine .inl ⟨_,(qzG _ V).to P,zw ?_⟩;refine⟨λ_=>zq ?_,λh=>absurd h sf⟩;intros;intro g2 A;exact .inr ⟨e,i,q,rfl⟩
  have G:=AZ.1 q;have aC:=G.size;refine zq ?_;intros;refine .inl ⟨_,(qzG _ V).to P,zw ?_⟩;refine⟨λah=>(nomatch ah),λ_=>zq ?_⟩;intros;rename_i ai aj _ ak;refine zw ?_;refine⟨Z×zy zAI×Z,λ(k,_,_)=>[.v (.int .i64 k)],λ(k,Q,R)=>⟨g,[.row 10 Q k R 161 4 ((c.Ar.take k).map (Ll c)).flatten,.blk 2 ak 68 [.v (.slice D c.Aa.length E),.row 10 Q k R,.v (.slice H c.Ad.length L)],.blk 1 aj 68 [.v (.slice zc 0 0),.v (.slice zc 0 0),.v (.slice zc 0 0)],.blk 0 ai 26 [.v (.slice D c.Aa.length E),.v (.slice aa c.Ar.length ab),.v (.slice H c.Ad.length L)]],40,g.w.heap.size⟩,λ(k,_,_)=>k<=c.Ar.length,λ(k,_,_)=>c.Ar.length-k,?_,?_⟩
  .intro al w T;exact⟨(0,zc,0),rfl,zJ _,(T.DK (nx':=40) 10 161 4).fit sc⟩
  rintro⟨k,Q,R⟩ ac;have ac:k<=c.Ar.length:=ac;refine zq ?_;intros;refine⟨λU=>?_,λU=>?_⟩
  .have B:k<c.Ar.length:=by have:=zd U;omega
   obtain⟨x,h⟩:=qEA B;obtain⟨a,rfl,aD,aE,rfl,u⟩:=ag k x h;have am:=qQR (f:=Ll c) h;refine zq ?_;intros;refine⟨a,rfl,⟨sa,sa⟩,zw ?_⟩;refine⟨_,⟨rfl,u⟩,zq ?_⟩;intros;refine .inl ⟨_,qjK _ W _,zq ?_⟩;intros;refine .inl ⟨_,qPQ _ Y _,zq ?_⟩;intros;refine⟨⟨by unfold zAp;omega,sa⟩,λan ao=>zq ?_⟩;intros;refine λal w T=>⟨(k+1,an,ao),zI (λz=>[zK .i64 z]) (wr1 B ae af).symm,B,dec B,T.fit ?_⟩;simp only[am];simp[AB,Res.eqv,qCA,Ag,qUO]
  have ap:k=c.Ar.length:=by have:=zf U;omega
  subst ap;refine zq ?_;intros;refine λg1 aF aq ar=>zw ?_;intro g2 A;refine .inl ⟨q,_,_,_,rfl,?_,λx h A=>aq x h A⟩;refine((q7C ar.rd (qiA c).AE qKW ?_ (by simp[qiA]) (λ_ _=>rfl) λr C=>?_).mono q5L A)
  .rw[zAz (zH _)];simp[qiA,zCK,zCc]
  .obtain⟨aG,_,rfl⟩:=zU.1 C
   exact⟨rfl,qkQ sa,qkQ sa⟩)
abbrev Lm(s:Ej)(r:FE):F zg:=qOZ (qcC s r)
def qNV(g){a b d}{s}(hs:qDI g [a,b,d] s)(aI:s.AE.length<=1000000):Ok Tryz.prog 114 [.agg ⟨[a,b,d]⟩] g λv g'=>∃oa n cap,v=.agg ⟨[a,.slice oa n cap,d]⟩/\rSl 4 q6L g' (.slice oa n cap) (qfD s).Ar:=by
 obtain⟨_,_,_,ar,au,av,aw⟩:=hs;cases ar;obtain⟨oa,ac,rfl,aJ,aK,aL,ax⟩:=id au;obtain⟨ak,al,rfl,P,Q,aM,ay⟩:=id av;obtain⟨ad,ae,rfl,d1,d2,aN,af⟩:=id aw
 exact Ok.Aq hm noT 0 Ns.2 (args:=[.v (.agg ⟨[.slice oa s.Aa.length ac,.slice ak s.AE.length al,.slice ad s.Ad.length ae]⟩)]) (by
  refine zq ?_;intros;rename_i az aA aB;refine zw ?_;refine⟨Z×zy zAI×Z,λ(k,_,_)=>[.v (.int .i64 k)],λ(k,ag,ah)=>⟨g,[.row 10 ag k ah 153 4 ((s.AE.take k).map (Lm s)).flatten,.blk 2 aB 26 [.v (.slice oa s.Aa.length ac),.row 10 ag k ah,.v (.slice ad s.Ad.length ae)],.blk 1 aA 26 [.v (.slice zc 0 0),.v (.slice zc 0 0),.v (.slice zc 0 0)],.blk 0 az 68 [.v (.slice oa s.Aa.length ac),.v (.slice ak s.AE.length al),.v (.slice ad s.Ad.length ae)]],40,g.w.heap.size⟩,λ(k,_,_)=>k<=s.AE.length,λ(k,_,_)=>s.AE.length-k,?_,?_⟩
  .intro R w A;exact⟨(0,zc,0),rfl,zJ _,(A.DK (nx':=40) 10 153 4).fit sc⟩
  rintro⟨k,ag,ah⟩ am;have am:k<=s.AE.length:=am;refine zq ?_;intros;refine⟨λai=>?_,λai=>?_⟩
  .have q:k<s.AE.length:=by have:=zd ai;omega
   obtain⟨⟨Y,aO,aP,D⟩,h⟩:=qEA q;obtain⟨a,rfl,aQ,aR,⟨rfl,_,_⟩,aC⟩:=ay k _ h;have T:=qQR (f:=Lm s) h;refine zq ?_;intros;refine⟨a,rfl,⟨sa,sa⟩,zw ?_⟩;refine⟨_,⟨rfl,aC⟩,zq ?_⟩;intros;by_cases U:0<=Y/\Y<s.Aa.length
   .obtain⟨n,rfl⟩:=zBh U.1;obtain⟨y,an⟩:=qEA (show n<s.Aa.length by omega);obtain⟨aD,rfl,aT,aU,rfl,aE⟩:=ax n y an;have L:qpK s.Aa (n:zt)=y:=by unfold qpK;rw[zk U];simp[an]
    refine zw ?_;refine⟨λ_=>zq ?_,λh=>absurd (((zR U.1)).symm.trans h) sb⟩;intros;refine⟨λ_=>zq ?_,λh=>absurd (((zR U.2)).symm.trans h) sb⟩;intros;refine⟨aD,rfl,⟨U.1,U.2⟩,zw ?_⟩;refine⟨_,aE 0 _ rfl,zq ?_⟩;intros;by_cases u:0<=D/\D<s.Ad.length
    .obtain⟨m,rfl⟩:=zBh u.1;obtain⟨z,V⟩:=qEA (show m<s.Ad.length by omega);obtain⟨aa,rfl,ao,ap,⟨aq,rfl,_,_,_,_,rfl,_⟩,ab⟩:=af m z V;have E:qPD s.Ad (m:zt)=z.name:=by unfold qPD;rw[zk u];simp[V]
     refine zw ?_;refine⟨λ_=>zq ?_,λh=>absurd (((zR u.1)).symm.trans h) sb⟩;intros;refine⟨λ_=>zq ?_,λh=>absurd (((zR u.2)).symm.trans h) sb⟩;intros;refine⟨aa,rfl,⟨u.1,u.2⟩,zw ?_⟩;refine⟨_,ab 0 _ rfl,zq ?_⟩;intros;refine⟨⟨by unfold zAp;omega,sa⟩,λB C=>zq ?_⟩;intros;refine λR w A=>⟨(k+1,B,C),zI (λz=>[zK .i64 z]) (wr1 q P Q).symm,q,dec q,A.fit ?_⟩;simp only[T];simp[AB,Res.eqv,qCA,Ag,qcC,L,E]
    have E:qPD s.Ad D=⟨#[]⟩:=by unfold qPD;rw[zj u]
    by_cases H:0<=D
    .refine zw ?_;refine⟨λ_=>zq ?_,λh=>absurd (((zR H)).symm.trans h) sb⟩;intros;refine⟨λh=>absurd (h.symm.trans ((zT (show ¬D<s.Ad.length from λW=>u ⟨H,W⟩)))) sb,λ_=>zq ?_⟩;intros;refine⟨⟨by unfold zAp;omega,sa⟩,λB C=>zq ?_⟩;intros;refine λR w A=>⟨(k+1,B,C),zI (λz=>[zK .i64 z]) (wr1 q P Q).symm,q,dec q,A.fit ?_⟩;simp only[T];simp[AB,Res.eqv,qCA,Ag,qcC,L,E]
    .refine zw ?_;refine⟨λh=>absurd (h.symm.trans ((zT H))) sb,λ_=>zq ?_⟩;intros;refine⟨⟨by unfold zAp;omega,sa⟩,λB C=>zq ?_⟩;intros;refine λR w A=>⟨(k+1,B,C),zI (λz=>[zK .i64 z]) (wr1 q P Q).symm,q,dec q,A.fit ?_⟩;simp only[T];simp[AB,Res.eqv,qCA,Ag,qcC,L,E]
   have L:qpK s.Aa Y=⟨#[]⟩:=by unfold qpK;rw[zj U]
   by_cases aj:0<=Y
   .refine zw ?_;refine⟨λ_=>zq ?_,λh=>absurd (((zR aj)).symm.trans h) sb⟩;intros;refine⟨λh=>absurd (h.symm.trans ((zT (show ¬Y<s.Aa.length from λW=>U ⟨aj,W⟩)))) sb,λ_=>zq ?_⟩;intros;by_cases u:0<=D/\D<s.Ad.length
    .obtain⟨m,rfl⟩:=zBh u.1;obtain⟨z,V⟩:=qEA (show m<s.Ad.length by omega);obtain⟨aa,rfl,ao,ap,⟨aq,rfl,_,_,_,_,rfl,_⟩,ab⟩:=af m z V;have E:qPD s.Ad (m:zt)=z.name:=by unfold qPD;rw[zk u];simp[V]
     refine zw ?_;refine⟨λ_=>zq ?_,λh=>absurd (((zR u.1)).symm.trans h) sb⟩;intros;refine⟨λ_=>zq ?_,λh=>absurd (((zR u.2)).symm.trans h) sb⟩;intros;refine⟨aa,rfl,⟨u.1,u.2⟩,zw ?_⟩;refine⟨_,ab 0 _ rfl,zq ?_⟩;intros;refine⟨⟨by unfold zAp;omega,sa⟩,λB C=>zq ?_⟩;intros;refine λR w A=>⟨(k+1,B,C),zI (λz=>[zK .i64 z]) (wr1 q P Q).symm,q,dec q,A.fit ?_⟩;simp only[T];simp[AB,Res.eqv,qCA,Ag,qcC,L,E]
    have E:qPD s.Ad D=⟨#[]⟩:=by unfold qPD;rw[zj u]
    by_cases H:0<=D
    .refine zw ?_;refine⟨λ_=>zq ?_,λh=>absurd (((zR H)).symm.trans h) sb⟩;intros;refine⟨λh=>absurd (h.symm.trans ((zT (show ¬D<s.Ad.length from λW=>u ⟨H,W⟩)))) sb,λ_=>zq ?_⟩;intros;refine⟨⟨by unfold zAp;omega,sa⟩,λB C=>zq ?_⟩;intros;refine λR w A=>⟨(k+1,B,C),zI (λz=>[zK .i64 z]) (wr1 q P Q).symm,q,dec q,A.fit ?_⟩;simp only[T];simp[AB,Res.eqv,qCA,Ag,qcC,L,E]
    .refine zw ?_;refine⟨λh=>absurd (h.symm.trans ((zT H))) sb,λ_=>zq ?_⟩;intros;refine⟨⟨by unfold zAp;omega,sa⟩,λB C=>zq ?_⟩;intros;refine λR w A=>⟨(k+1,B,C),zI (λz=>[zK .i64 z]) (wr1 q P Q).symm,q,dec q,A.fit ?_⟩;simp only[T];simp[AB,Res.eqv,qCA,Ag,qcC,L,E]
   .refine zw ?_;refine⟨λh=>absurd (h.symm.trans ((zT aj))) sb,λ_=>zq ?_⟩;intros;by_cases u:0<=D/\D<s.Ad.length
    .obtain⟨m,rfl⟩:=zBh u.1;obtain⟨z,V⟩:=qEA (show m<s.Ad.length by omega);obtain⟨aa,rfl,ao,ap,⟨aq,rfl,_,_,_,_,rfl,_⟩,ab⟩:=af m z V;have E:qPD s.Ad (m:zt)=z.name:=by unfold qPD;rw[zk u];simp[V]
     refine zw ?_;refine⟨λ_=>zq ?_,λh=>absurd (((zR u.1)).symm.trans h) sb⟩;intros;refine⟨λ_=>zq ?_,λh=>absurd (((zR u.2)).symm.trans h) sb⟩;intros;refine⟨aa,rfl,⟨u.1,u.2⟩,zw ?_⟩;refine⟨_,ab 0 _ rfl,zq ?_⟩;intros;refine⟨⟨by unfold zAp;omega,sa⟩,λB C=>zq ?_⟩;intros;refine λR w A=>⟨(k+1,B,C),zI (λz=>[zK .i64 z]) (wr1 q P Q).symm,q,dec q,A.fit ?_⟩;simp only[T];simp[AB,Res.eqv,qCA,Ag,qcC,L,E]
    have E:qPD s.Ad D=⟨#[]⟩:=by unfold qPD;rw[zj u]
    by_cases H:0<=D
    .refine zw ?_;refine⟨λ_=>zq ?_,λh=>absurd (((zR H)).symm.trans h) sb⟩;intros;refine⟨λh=>absurd (h.symm.trans ((zT (show ¬D<s.Ad.length from λW=>u ⟨H,W⟩)))) sb,λ_=>zq ?_⟩;intros;refine⟨⟨by unfold zAp;omega,sa⟩,λB C=>zq ?_⟩;intros;refine λR w A=>⟨(k+1,B,C),zI (λz=>[zK .i64 z]) (wr1 q P Q).symm,q,dec q,A.fit ?_⟩;simp only[T];simp[AB,Res.eqv,qCA,Ag,qcC,L,E]
    .refine zw ?_;refine⟨λh=>absurd (h.symm.trans ((zT H))) sb,λ_=>zq ?_⟩;intros;refine⟨⟨by unfold zAp;omega,sa⟩,λB C=>zq ?_⟩;intros;refine λR w A=>⟨(k+1,B,C),zI (λz=>[zK .i64 z]) (wr1 q P Q).symm,q,dec q,A.fit ?_⟩;simp only[T];simp[AB,Res.eqv,qCA,Ag,qcC,L,E]
  have aF:k=s.AE.length:=by have:=zf ai;omega
  subst aF;refine zq ?_;intros;refine λg1 aW aX aG=>zw ?_;intro g2 aH;refine⟨_,_,_,rfl,(q7C aG.rd (qfD s).Ar qOZ ?_ (by simp[qfD]) (λ_ _=>rfl) λ_ _=>rfl).mono qdK aH⟩
  rw[zAz (zH _)];simp[qfD,zCK,zCc])

def q1Y(g){cs}{s}(hs:qDI g cs s)(P:s.AE.length<=1000000):OkV Tryz.prog 71 [.agg ⟨cs⟩] g (.bool (eqB (qOA (qfD s)) zc)):=by
 have Q:=hs;obtain⟨a,b,d,rfl,u,R,A⟩:=hs;obtain⟨B,C,rfl,ac,ad,ae,af⟩:=id u;obtain⟨T,U,rfl,ag,ah,ai,aj⟩:=id R;obtain⟨D,E,rfl,d1,d2,ak,al⟩:=id A
 exact Ok.Aq hm noT 0 Oh.2 (args:=[.v (.agg ⟨[.slice B s.Aa.length C,.slice T s.AE.length U,.slice D s.Ad.length E]⟩)]) (by
  refine zq ?_;intros;refine zw ?_;refine .inr ((qNV g Q P).mono λv g1 H V=>?_);obtain⟨W,n,Y,rfl,aa⟩:=V;have L:qBB g1 [.slice B s.Aa.length C,.slice W n Y,.slice D s.Ad.length E] (qfD s):=⟨_,_,_,rfl,u.mono qsE H,aa,A.mono qZD H⟩;rcases q4K (qOA (qfD s))with⟨h,q⟩|⟨e,i,h,q⟩
  .refine zw ?_;refine .inl ⟨_,(qzG _ L).to q,zw ?_⟩;intro g2 ab;rw[qxV h];rfl
  .have am:=q0C h;refine zw ?_;refine .inl ⟨_,(qzG _ L).to q,zw ?_⟩;intro g2 ab;rw[qad (by rw[h];simp)]
   exact zI zBt sf)
def qoL(s:Ej)(l h p:BA):zg:=
 if Cz (BM (λx=>bs x==bs l) s.Aa)<0 then .tuple #[.int .i64 0,.int .i64 3]else
 match qrN (Es (Cz (BM (λx=>bs x==bs l) s.Aa)) h p) s.AE with
 |none=>.tuple #[.int .i64 0,.int .i64 5]
 |some j=>.tuple #[.int .i64 ((s.AE[j]?).map (·.Af)).get!,.int .i64 0]
def qLN(g){cs}{s}(hs:qDI g cs s)(l h p)(B:SmL s.AE/\Sm h/\Sm p):OkV Tryz.prog 76 [.agg ⟨cs⟩,.string l,.string h,.string p] g (qoL s l h p):=by
 have Y:=hs;obtain⟨a,b,d,rfl,C,A,H⟩:=hs;obtain⟨L,P,rfl,aa,ab,ac,ad⟩:=id C;obtain⟨Q,R,rfl,ae,af,ag,T⟩:=id A;obtain⟨U,V,rfl,d1,d2,ah,ai⟩:=id H
 exact Ok.Aq hm noT 0 NU.2 (args:=[.v (.agg ⟨[.slice L s.Aa.length P,.slice Q s.AE.length R,.slice U s.Ad.length V]⟩),.v (.string l),.v (.string h),.v (.string p)]) (by
  refine zq ?_;intros;refine .inl ⟨_,qjK _ C _,zw ?_⟩;refine⟨λq=>?_,λq=>?_⟩
  .refine zw ?_;intro g2 D;rw[qoL,zk (zd q)]
  have q:=zf q;refine zq ?_;intros;cases u:qrN (Es (Cz (BM (λx=>bs x==bs l) s.Aa)) h p) s.AE with
  |none=>
   refine zw ?_;refine .inl ⟨_,(qPV _ A _ _ _ B).to (zI qOb u),zw ?_⟩;refine⟨λ_=>zw ?_,λh=>nomatch h⟩;intro g2 D;rw[qoL,zj q,u]
  |some j=>
   refine zw ?_;refine .inl ⟨_,(qPV _ A _ _ _ B).to (zI qOb u),zw ?_⟩;refine⟨λh=>(nomatch h),λ_=>?_⟩;obtain⟨r,E,aj,_⟩:=Eu.1 u;obtain⟨a,rfl,ak,al,⟨rfl,_,_⟩,W⟩:=T j r E;refine zq ?_;intros;refine⟨a,rfl,⟨sa,sa⟩,zw ?_⟩;refine⟨_,W 3 _ rfl,zw ?_⟩;intro g2 D;rw[qoL,zj q,u]
   simp[E])
abbrev sIn:BA:=⟨#[105,110]⟩

def I0{h:Type}(sz)(R:RP h)(g):rSl sz R g (.slice zc 0 0) []:=⟨zc,0,rfl,zH _,zJ _,λ_=>⟨rfl,rfl⟩,λi x q=>by simp at q⟩
def qoC{g g'}{a b d v}{c}(A:qBB g [a,b,d] c)(u:g<=g')(h:qVZ g c a d v g'):∃x y z e i,v=.tuple #[.agg ⟨[x,y,z]⟩,.int .i64 e,.int .i64 i]/\qDI g' [x,y,z] (qLB c)/\eiT (qOA c)=.tuple #[.int .i64 e,.int .i64 i]/\((e=0/\i=0/\qOA c=zc/\x=a/\z=d)\/(e≠0/\qOA c≠zc/\x=.slice zc 0 0/\y=.slice zc 0 0/\z=.slice zc 0 0)):=by
 rcases h with⟨q,H,n,cap,rfl,B,_⟩|⟨e,i,q,rfl⟩
 .obtain⟨_,_,_,C,D,_,E⟩:=A;cases C;refine⟨_,_,_,0,0,rfl,?_,by rw[q];rfl,.inl ⟨rfl,rfl,q,rfl,rfl⟩⟩;rw[qLB,q];exact⟨_,_,_,rfl,D.mono qsE u,B,E.mono qZD u⟩
 .have L:=q0C q;refine⟨_,_,_,e,i,rfl,?_,by rw[q];rfl,.inr ⟨sa,by rw[q];simp,rfl,rfl,rfl⟩⟩;rw[qLB,q];exact⟨_,_,_,rfl,I0 _ _ _,I0 _ _ _,I0 _ _ _⟩
def SnS(s:Ej):Prop:=s.AE.length<=1000000/\∀r∈s.AE,r.Bb.size<=100/\r.path.size<=100
def qab{w}(h:InU w):IntKind.u32.wrap w=w%4294967296:=by
 rw[IntKind.wrap_u32]
def IJ{w}:InR (w%4294967296)/\InR (w%4294967296-1):=by
 have h:=zBR w (show(4294967296:zt)≠0 by decide);have q:=zBD w (show(0:zt)<4294967296 by decide);unfold InR;omega
def q4B(g){w}(h:InU w):OkV Tryz.prog 136 [.int .u64 w] g (.int .i64 (AX w)):=
 Ok.Aq hm noT 0 NR.2 (args:=[.v (.int .u64 w)]) (by
  refine zq ?_;intros;intro g2 q
  rw[qab h,wr IJ.1,show w%4294967296+-1=w%4294967296-1 from rfl,wr IJ.2];rfl)
def qTc{t i}(q:0<=t/\t<4294967296)(u:0<=i/\i<4294967296):qlT .or .u64 (t*4294967296) i=t*4294967296+i:=by
 obtain⟨a,rfl⟩:=zBh q.1;obtain⟨b,rfl⟩:=zBh u.1;have h:=Nat.shiftLeft_add_eq_or_of_lt (i:=32) (b:=b) sa a;rw[Nat.shiftLeft_eq,show(2:Z)^32=4294967296 by decide]at h;rw[show(a:zt)*4294967296=((a*4294967296:Z):zt) by omega]
 have e1:(BitVec.ofInt 64 ((a*4294967296:Z):zt)).toNat=a*4294967296:=by
  rw[BitVec.ofInt_natCast,BitVec.toNat_ofNat];omega
 have e2:(BitVec.ofInt 64 (b:zt)).toNat=b:=by
  rw[BitVec.ofInt_natCast,BitVec.toNat_ofNat];omega
 show zBP.wrap ((BitVec.ofInt 64 ((a*4294967296:Z):zt)|||BitVec.ofInt 64 (b:zt)).toNat:zt)=_;rw[BitVec.toNat_or,e1,e2,<-h,IntWalk.u64_in _ sa];omega
def qJN(g){t i}(A:0<=t/\t<4294967296)(B:InR i):OkV Tryz.prog 142 [.int .u32 t,.int .i64 i] g (.tuple #[.int .u64 (if q6C i then t*4294967296+(i+1)else 0),.int .i64 (if q6C i then 0 else 1)]):=
 Ok.Aq hm noT 0 N7.2 (args:=[.v (.int .u32 t),.v (.int .i64 i)]) (by
  refine zq ?_;intros;refine⟨λq=>?_,λq=>?_⟩
  .refine zq ?_;intros;intro g2 u;have:q6C i=zb:=by unfold q6C;have:=zd q;simp;omega
   rw[this];rfl
  .refine zq ?_;intros;refine⟨λh=>?_,λh=>?_⟩
   .refine zq ?_;intros;intro g2 u;have:q6C i=zb:=by unfold q6C;have:=zd h;simp;omega
    rw[this];rfl
   .refine zq ?_;intros;refine⟨sb,zq ?_⟩;intros;intro g2 u;have C:=zf q;have h:=zf h;have:q6C i=I:=by unfold q6C;simp;omega
    rw[this];have e1:zBP.wrap t=t:=IntWalk.u64_in t sa
    have e2:zBP.wrap (t*2^min (Int.toNat 32) zBP.bits)=t*4294967296:=by
     rw[show(2:zt)^min (Int.toNat 32) zBP.bits=4294967296 by decide];exact IntWalk.u64_in _ sa
    have e3:zBP.wrap (zAj.wrap (i - -1))=i+1:=by rw[wr si];exact IntWalk.u64_in _ sa
    rw[e1,e2,e3,qTc A sa];rfl)
def tCh:F (Z×FnI):=[(97,Ff.1),(135,Ez.1)]
def qvb:q6B Tryz.prog tCh:=by
 intro x h;simp only[tCh,zs,zC,zAt]at h;rcases h with rfl|rfl
 .exact⟨_,_,Ff.2⟩
 .exact⟨_,_,Ez.2⟩
def qrT(e:Bw)(v:zg)(g':GW):Prop:=match qHB e with
 |none=>v=.tuple #[.slice zc 0 0,.int .i64 11]
 |some l=>∃h cap,v=.tuple #[.slice h l.length cap,.int .i64 0]/\rSl 1 BX g' (.slice h l.length cap) l
abbrev JP(l:F zt):F zg:=l.map λx=>zK .i64 x
def qeX(g){cs}{e}(af:rEn g cs e):Ok Tryz.prog 52 [.agg ⟨cs⟩] g (qrT e):=by
 obtain⟨⟨n,rfl,ag,aG,ah⟩,aH⟩:=af;obtain⟨L,P,rfl,aI,aJ,aK,ai⟩:=id ah
 exact Ok.Aq hm qvb 2 NG.2 (args:=[.v (.agg ⟨[.int .u64 e.head,.slice L e.next.length P,.int .i64 e.Ae]⟩)]) (by
  refine zq ?_;intros;refine⟨kF,λlp aj=>zq ?_⟩;intros;refine⟨⟨sa,sa,sa,sa⟩,λ_=>zq ?_⟩;intros;refine .inl ⟨_,q4B _ ag,?_⟩;rename_i ak al am an ao ap;refine zq ?_;intros;refine⟨zt×F zt×zy zAI×Z,λ(i,_,_,_)=>[.v (.int .i64 i)],λ(_,out,B,C)=>⟨g,[.row 7 B out.length C 3 1 (JP out),.row 6 (O ⟨ap,0,zc⟩) e.next.length e.next.length 4 1 (q3F e.next.length out),.lp 5 lp aj .ready,.blk 4 ao 141 [.v (.int .u64 e.head),.v (.slice L e.next.length P),.v (.int .i64 e.Ae)],.blk 3 an 29 [.row 7 B out.length C],.blk 2 am 35 [.v (.int .i64 0)],.blk 1 al 29 [.v (.slice zc 0 0)],.blk 0 ak 141 [.v (.int .u64 e.head),.v (.slice L e.next.length P),.v (.int .i64 e.Ae)]],40,g.w.heap.size⟩,λ(i,out,_,_)=>InR i/\out.Nodup/\(∀x∈out,0<=x/\x<e.next.length)/\qZG e.next (e.next.length+1-out.length) out i=qHB e,λ(_,out,_,_)=>e.next.length-out.length,?_,?_⟩
  .intro aq w Q;exact⟨(AX e.head,[],zc,0),rfl,⟨by have:=q5R e.head;unfold InR;omega,zBW,se,rfl⟩,(Q.DK (nx':=40) 7 3 1).fit (by simp[AB,Res.eqv,qCA,Ag,qbU])⟩
  rintro⟨i,out,B,C⟩ ⟨aL,R,D,u⟩;refine zq ?_;intros;refine⟨λT=>?_,λT=>?_⟩
  .have aa:i≠-1:=by simpa using T
   have U:(i<0\/(e.next.length:zt)<=i\/i∈out)->qHB e=zc:=λE=>by
    have ar:=qNG R D;rw[show e.next.length+1-out.length=(e.next.length-out.length)+1 by omega]at u;simp only[qZG,zj aa,zk E]at u;exact u.symm
   refine zq ?_;intros;refine⟨λV=>?_,λV=>?_⟩
   .refine zq ?_;intros;refine⟨λ_=>zq ?_,λh=>nomatch h⟩;intros;intro g2 H;unfold qrT;rw[U (.inl (by simpa using V))]
   .refine zq ?_;intros;refine⟨λW=>?_,λW=>?_⟩
    .refine zq ?_;intros;refine⟨λ_=>zq ?_,λh=>nomatch h⟩;intros;intro g2 H;unfold qrT;rw[U (.inr (.inl (by simpa using W)))]
    .have A:0<=i/\i<e.next.length:=by simp at V W;omega
     have au:=qcU (n:=e.next.length) (out:=out) A;obtain⟨y,ab⟩:=qEA (l:=e.next) (i:=i.toNat) sa;obtain⟨a,rfl,aM,aN,⟨rfl,av⟩,aw⟩:=ai i.toNat y ab;refine zq ?_;intros;refine⟨A,zq ?_⟩;intros;refine⟨_,by simpa using au,zq ?_⟩;intros;refine⟨λY=>?_,λY=>?_⟩
     .refine zq ?_;intros;refine⟨λ_=>zq ?_,λh=>nomatch h⟩;intros;intro g2 H;unfold qrT;rw[U (.inr (.inr (by simpa using Y)))]
     .have ac:i∉out:=by simpa using Y
      have ad:(out++[i]).Nodup:=zBk.2 ⟨R,se,λa ax b E ay=>ac (by simp at E;rw[<-E,<-ay];exact ax)⟩
      have ae:∀x∈out++[i],0<=x/\x<e.next.length:=λx q=>by
       rcases zN.1 q with q|q
       .exact D x q
       .simp at q;subst q;exact A
      have az:=qNG ad ae;have aA:=qaU (out:=out) A;simp only[zAx,zBy,zCq]at az;refine zq ?_;intros;refine⟨A,zq ?_⟩;intros;refine⟨⟨by rw[qRO];omega,sb⟩,zq ?_⟩;intros;refine⟨λq=>absurd q sf,λ_=>zq ?_⟩;intros;refine⟨λq=>absurd q sf,λ_=>zq ?_⟩;intros;refine⟨⟨by unfold zAp;omega,sa⟩,λaB aC=>zq ?_⟩;intros;refine⟨a,rfl,A,zw ?_⟩;refine⟨_,aw 0 _ rfl,zq ?_⟩;intros;refine λaq w Q=>⟨(y,out++[i],aB,aC),rfl,⟨av,ad,ae,?_⟩,by simp only[zAx,zBy,zCq];omega,?_⟩
      .rw[show e.next.length+1-out.length=(e.next.length+1-(out++[i]).length)+1 by simp;omega]at u;simp only[qZG,zj aa,zj (show ¬(i<0\/(e.next.length:zt)<=i\/i∈out) by rintro(h|h|h);omega;omega;exact ac h)]at u;rw[<-u];unfold DM;rw[ab];rfl
      .have aD:List.take i.toNat (q3F e.next.length out)++zBt I::List.drop (i.toNat+1) (q3F e.next.length out)=q3F e.next.length (out++[i]):=by rw[<-aA];simp
       exact Q.fit (by simp[AB,Res.eqv,qCA,Ag,aD])
  .have aE:i=-1:=by simpa using T
   subst aE;have ar:=qNG R D;rw[show e.next.length+1-out.length=(e.next.length-out.length)+1 by omega]at u;simp only[qZG,zBA]at u;refine zq ?_;intros;refine⟨λh=>(nomatch h),λ_=>zw ?_⟩;refine⟨λ_=>zq ?_,λh=>nomatch h⟩;intros;refine λg1 aO aP aF=>zq ?_;intros;intro g2 H;unfold qrT;rw[<-u]
   exact⟨B,C,rfl,(qOC aF.rd out (λx=>.int .i64 x) rfl λx q=>⟨rfl,by have:=D x q;unfold InR;omega⟩).mono quA H⟩)
def q7Z(g){cs}{e}(C:rEn g cs e):OkV Tryz.prog 53 [.agg ⟨cs⟩] g (.bool (BH e)):=by
 have E:=C;obtain⟨⟨n,rfl,T,U,H⟩,V⟩:=C;obtain⟨L,P,rfl,W,Y,aa,ab⟩:=id H
 exact Ok.Aq hm noT 0 N8.2 (args:=[.v (.agg ⟨[.int .u64 e.head,.slice L e.next.length P,.int .i64 e.Ae]⟩)]) (by
  refine zq ?_;intros;refine .inr ((qeX _ E).mono λv g1 ac h=>?_);unfold qrT at h;unfold BH;cases D:qHB e with
  |none=>
   rw[D]at h;subst h;refine zq ?_;intros;refine⟨λq=>(nomatch q),λ_=>zq ?_⟩;intros;intro g2 u;rfl
  |some l=>
   rw[D]at h;obtain⟨ad,ae,rfl,_⟩:=h;refine zq ?_;intros;refine⟨λ_=>zq ?_,λq=>nomatch q⟩;intros;refine⟨λA=>?_,λA=>?_⟩
   .refine zq ?_;intros;refine⟨λB=>?_,λB=>?_⟩
    .refine zq ?_;intros;intro g2 u;have Q:=zd A;have R:=zd B;rw[zR (show 1<=e.next.length by omega),zR (show e.next.length<=4 by omega)];rfl
    .refine zq ?_;intros;intro g2 u;have R:=zf B;rw[zT (show ¬e.next.length<=4 by omega)];simp
   .refine zq ?_;intros;intro g2 u;have Q:=zf A
    rw[zT (show ¬1<=e.next.length by omega)];simp)
def tPl:F (Z×FnI):=[(74,AH.1),(75,EC.1)]
def qlb:q6B Tryz.prog tPl:=by
 intro x h;simp only[tPl,zs,zC,zAt]at h;rcases h with rfl|rfl
 .exact⟨_,_,AH.2⟩
 .exact⟨_,_,EC.2⟩
def qIG(g){v}{l}(C:rSl 4 qeB g v l)(s):OkV Tryz.prog 36 [v,.string s] g (.int .i64 (qlA l s)):=
 Ok.Aq hm qlb 2 Nz.2 (args:=[.v v,.v (.string s)]) (by
  obtain⟨R,cap,rfl,D,E,T,H⟩:=C;refine zq ?_;intros;refine⟨Z,λk=>[.v (.int .i64 k)],λk=>⟨g,[.blk 0 _ _ [.v (.string s)]],_,_⟩,λk=>k<=l.length/\Cj (Eg λ(x:AI)=>bs x.name==bs s) l k,λk=>l.length-k,qfA 0 rfl ⟨zJ _,Cj.zero _ _⟩ rfl,?_⟩;rintro k ⟨U,q⟩;refine zw ?_;refine⟨λu=>?_,λu=>?_⟩
  .have h:k<l.length:=by have:=zd u;omega
   obtain⟨x,A⟩:=qEA h;obtain⟨a,rfl,V,W,⟨rfl,_⟩,L⟩:=H k x A;refine zw ?_;refine⟨a,rfl,⟨sa,sa⟩,zw ?_⟩;refine⟨_,⟨rfl,L⟩,zw ?_⟩;refine⟨kF,zq ?_⟩;intros;refine⟨λB=>?_,λB=>?_⟩
   .refine zw ?_;intro g2 P;rw[qlA,q0G q A B]
   .refine zw ?_;refine λY w Q=>⟨k+1,zI (λz=>[zK .i64 z]) (wr1 h D E).symm,⟨h,qVF q A B⟩,dec h,?_⟩;exact Q.fit sc
  .refine zw ?_;intro g2 P;have:=zf u
   rw[qlA,q2D q sa])
def qlc(g){cs}{x}(h:qeB g cs x):OkV Tryz.prog 35 [.agg ⟨cs⟩] g (.bool (qpJ x)):=by
 obtain⟨rfl,q⟩:=h
 exact Ok.Aq hm noT 0 Od.2 (args:=[.v (.agg ⟨[.string x.name,.bool x.drain,.int .i64 x.Ae,.bool x.closed]⟩)]) (by
  refine zq ?_;intros;refine zq ?_;intros
  repeat'((first|refine .inl ⟨_,qhH _ _,zq ?_⟩|refine⟨λ_=>zq ?_,λ_=>zq ?_⟩|rfl)<;>intros)
  all_goals(conv=>whnf)
  all_goals(intro g2 u)
  all_goals(unfold qpJ;simp_all;try(intros;omega)))
def qxS{c}{r}(q:r∈c)(h:r.length≠6):qHE c=zb:=by
 unfold qHE;rw[show(c.all λr=>decide (r.length=6))=zb from List.all_eq_false.2 ⟨r,q,by simpa using h⟩];rfl
def qkc(g){v}{l}(E:rSl 1 Fy g v l):OkV Tryz.prog 68 [v] g (.bool (qHE l)):=
 Ok.Aq hm noT 0 N9.2 (args:=[.v v]) (by
  obtain⟨U,cap,rfl,H,L,V,P⟩:=E;refine zq ?_;intros;refine⟨Z,λk=>[.v (.int .i64 k)],λk=>⟨g,[],_,_⟩,λk=>k<=l.length/\(l.take k).all (λr=>decide (r.length=6))=I,λk=>l.length-k,qfA 0 rfl ⟨zJ _,se⟩ rfl,?_⟩;rintro k ⟨W,h⟩;refine zq ?_;intros;refine⟨λu=>?_,λu=>?_⟩
  .have q:k<l.length:=by have:=zd u;omega
   obtain⟨x,A⟩:=qEA q;obtain⟨a,rfl,Y,aa,⟨n,rfl,Q⟩,R⟩:=P k x A;obtain⟨ab,ac,rfl,ad,ae,af,ag⟩:=id Q;refine zq ?_;intros;refine⟨a,rfl,⟨sa,sa⟩,zw ?_⟩;refine⟨_,R 0 _ rfl,zq ?_⟩;intros;refine⟨λB=>?_,λB=>?_⟩
   .refine zq ?_;intros;intro g2 D;rw[qxS (zh A) (by have ah:(x.length:zt)≠6:=FB B;omega)]
   .refine zq ?_;intros;refine λai w T=>⟨k+1,zI (λz=>[zK .i64 z]) (wr1 q H L).symm,⟨q,?_⟩,dec q,T⟩;obtain⟨c1,c2⟩:=ze.1 A;rw[qnD c1,h,c2];have:(x.length:zt)=6:=by simpa using B
    simp;omega
  .have aj:=zf u;rw[zAz sa]at h;refine zq ?_;intros;refine⟨λC=>?_,λC=>?_⟩
   .refine zq ?_;intros;intro g2 D;have:=zd C;unfold qHE;rw[h,zR (show 1<=l.length by omega)];simp;omega
   .refine zq ?_;intros;intro g2 D;have:=zf C;unfold qHE
    rw[h,zT (show ¬1<=l.length by omega)];rfl)
def tLh:F (Z×FnI):=[(93,Au.1),(134,Ax.1),(113,Fs.1)]
def qpb:q6B Tryz.prog tLh:=by
 intro x h;simp only[tLh,zs,zC,zAt]at h;rcases h with rfl|rfl|rfl
 .exact⟨_,_,Au.2⟩
 .exact⟨_,_,Ax.2⟩
 .exact⟨_,_,Fs.2⟩
def qAa(g){v}{l}(D:rSl 3 qFB g v l)(n):OkV Tryz.prog 70 [v,.int .i64 n] g (.bool (l.any λr=>r.Ac==n)):=
 Ok.Aq hm qpb 3 N5.2 (args:=[.v v,.v (.int .i64 n)]) (by
  obtain⟨T,cap,rfl,E,H,U,L⟩:=D;refine zq ?_;intros;refine⟨Z,λk=>[.v (.int .i64 k)],λk=>⟨g,[.blk 0 _ _ [.v (.int .i64 n)]],_,_⟩,λk=>k<=l.length/\Cj (Eg λ(x:Bo)=>x.Ac==n) l k,λk=>l.length-k,qfA 0 rfl ⟨zJ _,Cj.zero _ _⟩ rfl,?_⟩;rintro k ⟨V,B⟩;refine zw ?_;refine⟨λq=>?_,λq=>?_⟩
  .have h:k<l.length:=by have:=zd q;omega
   obtain⟨x,u⟩:=qEA h;obtain⟨a,rfl,W,Y,⟨rfl,_⟩,P⟩:=L k x u;refine zw ?_;refine⟨a,rfl,⟨sa,sa⟩,zw ?_⟩;refine⟨_,⟨rfl,P⟩,zw ?_⟩;refine⟨kF,zq ?_⟩;intros;refine⟨λA=>?_,λA=>?_⟩
   .refine zw ?_;intro g2 Q;have:(l.any λr=>r.Ac==n)=I:=zBY.2 ⟨x,zh u,A⟩;rw[this];simp
   .refine zw ?_;refine λaa w R=>⟨k+1,zI (λz=>[zK .i64 z]) (wr1 h E H).symm,⟨h,qVF B u A⟩,dec h,?_⟩;exact R.fit sc
  .refine zw ?_;intro g2 Q;have:=zf q;have C:=qUN (λ(x:Bo)=>x.Ac==n) l;rw[q2D B sa]at C
   rw[<-C])
def qac(g){v}{l}(E:rSl 3 qFB g v l):OkV Tryz.prog 33 [v] g (.bool (qOE l)):=
 Ok.Aq hm noT 0 Oc.2 (args:=[.v v]) (by
  obtain⟨Y,cap,rfl,L,P,aa,Q⟩:=id E;refine zq ?_;intros;refine⟨Z,λk=>[.v (.int .i64 k)],λk=>⟨g,[],_,_⟩,λk=>k<=l.length/\Ek (FR l) l k,λk=>l.length-k,qfA 0 rfl ⟨zJ _,Ek.zero _ _⟩ rfl,?_⟩;rintro k ⟨R,H⟩;refine zw ?_;refine⟨λu=>?_,λu=>?_⟩
  .have q:k<l.length:=by have:=zd u;omega
   obtain⟨x,h⟩:=qEA q;obtain⟨a,rfl,ab,ac,⟨rfl,_⟩,T⟩:=Q k x h;refine zq ?_;intros;refine⟨a,rfl,⟨sa,sa⟩,zw ?_⟩;refine⟨_,⟨rfl,T⟩,zq ?_⟩;intros;refine⟨λA=>?_,λA=>?_⟩
   .refine zq ?_;intros;intro g2 B;have U:=zd A;exact zI zBt (qnB h (by unfold FR;rw[zT sa];rfl)).symm
   .have U:=zf A;refine zq ?_;intros;refine⟨λC=>?_,λC=>?_⟩
    .refine zq ?_;intros;intro g2 B;have V:=zd C;exact zI zBt (qnB h (by unfold FR;rw[zT (show ¬0<=x.at_ by omega)];simp)).symm
    .have V:=zf C;refine zq ?_;intros;refine⟨⟨sa,sa⟩,zq ?_⟩;intros;refine .inl ⟨_,qAa _ (rSl.take E R) _,zq ?_⟩;intros;refine⟨λD=>?_,λD=>?_⟩
     .refine zq ?_;intros;intro g2 B;exact zI zBt (qnB h (by unfold FR;rw[D];simp)).symm
     .refine zq ?_;intros;refine λad w W=>⟨k+1,zI (λz=>[zK .i64 z]) (wr1 q L P).symm,⟨q,H.succ h ?_⟩,dec q,?_⟩
      .unfold FR;rw[D,zR (show 0<=x.Ac by omega),zR (show 0<=x.at_ by omega)];rfl
      .exact W.fit sc
  .refine zq ?_;intros;intro g2 B;have:=zf u
   exact zI zBt (H.done sa).symm)
def tV:F (Z×FnI):=[(73,AK.1),(115,AP.1),(72,DG.1)]
def Ke:q6B Tryz.prog tV:=by
 intro x h;simp only[tV,zs,zC,zAt]at h;rcases h with rfl|rfl|rfl
 .exact⟨_,_,AK.2⟩
 .exact⟨_,_,AP.2⟩
 .exact⟨_,_,DG.2⟩
def q5P{v}(h:eqB (qOA (qfD v.Aw)) zc=zb):qVB v=zb:=by unfold qVB;rw[h];rfl
def q4P{v}(h:v.Aj.length≠v.Aw.Ad.length):qVB v=zb:=by unfold qVB;rw[zT h];simp
def qcH{v}{k}{x}(q:v.Aj[k]?=O x)(h:qTG v.Aw.Ad k x=zb):qVB v=zb:=by unfold qVB;rw[qnB q h];simp
def qlS{v}{k}(q:eqB (qOA (qfD v.Aw)) zc=I)(u:v.Aj.length=v.Aw.Ad.length)(h:Ek (qTG v.Aw.Ad) v.Aj k)(A:v.Aj.length<=k):qVB v=I:=by
 unfold qVB;rw[q,zR u,h.done A];rfl
def quQ{c}{e}:q3K c e=(BH e&&decide ((e.next.length:zt)=c.As)):=rfl
def qOQ(g){cs}{x}(q:rVe g cs x)(ap:SnS x.Aw):OkV Tryz.prog 34 [.agg ⟨cs⟩] g (.bool (qVB x)):=by
 obtain⟨a,b,d,n,rfl,af,aq⟩:=q;have ar:=af;obtain⟨_,_,_,au,av,aw,ax⟩:=af;cases au;obtain⟨E,H,rfl,aT,aU,aW,aX⟩:=id av;obtain⟨L,P,rfl,aY,aZ,a0,a1⟩:=id aw;obtain⟨ag,Q,rfl,d1,d2,a2,ay⟩:=id ax;obtain⟨ah,R,rfl,g1,g2,a3,az⟩:=id aq
 exact Ok.Aq hm Ke 3 MW.2 (args:=[.v (.agg ⟨[.slice E x.Aw.Aa.length H,.slice L x.Aw.AE.length P,.slice ag x.Aw.Ad.length Q,.slice ah x.Aj.length R,.bool x.Ba]⟩)]) (by
  refine zq ?_;intros;refine .inl ⟨_,q1Y _ ar ap.1,zq ?_⟩;intros;refine⟨λz1=>?_,λz1=>?_⟩
  .refine zq ?_;intros;intro g2 u;rw[q5P (nb1 z1)]
  .have aA:=nb0 z1;refine zq ?_;intros;refine⟨λT=>?_,λT=>?_⟩
   .refine zq ?_;intros;intro g2 u;rw[q4P (JH T)]
   .have aB:x.Aj.length=x.Aw.Ad.length:=JI T;refine zq ?_;intros;rename_i ai;refine zw ?_;refine⟨Z,λk=>[.v (.int .i64 k)],λk=>⟨g,[.blk 0 ai 71 [.v (.slice E x.Aw.Aa.length H),.v (.slice L x.Aw.AE.length P),.v (.slice ag x.Aw.Ad.length Q),.v (.slice ah x.Aj.length R),.v (.bool x.Ba)]],10,g.w.heap.size⟩,λk=>k<=x.Aj.length/\Ek (qTG x.Aw.Ad) x.Aj k,λk=>x.Aj.length-k,λU w h=>⟨0,rfl,⟨zJ _,Ek.zero _ _⟩,h.fit sc⟩,?_⟩;rintro k ⟨a4,aj⟩;refine zq ?_;intros;refine⟨λV=>?_,λV=>?_⟩
    .have B:k<x.Aj.length:=by have:=zd V;omega
     obtain⟨y,A⟩:=qEA B;obtain⟨ak,rfl,a5,a6,⟨a7,rfl,a8,hE⟩,aC⟩:=az k y A;obtain⟨aD,aE,rfl,e1,e2,a9,aF⟩:=id hE;obtain⟨c,al⟩:=qEA (l:=x.Aw.Ad) (i:=k) sa;obtain⟨am,rfl,ba,bb,⟨bc,rfl,c1,c2,aG⟩,aH⟩:=ay k c al;obtain⟨aI,aJ,rfl,bd,be,bf,bh⟩:=id aG;have C:qTG x.Aw.Ad k y=(decide (y.ends.length=c.Az.length)&&y.ends.all (q3K c)):=by unfold qTG;rw[al]
     refine zq ?_;intros;refine⟨ak,rfl,⟨sa,sa⟩,zw ?_⟩;refine⟨_,⟨rfl,aC⟩,zq ?_⟩;intros;refine⟨am,rfl,⟨sa,sa⟩,zw ?_⟩;refine⟨_,⟨rfl,aH⟩,zq ?_⟩;intros;refine⟨λW=>?_,λW=>?_⟩
     .refine zq ?_;intros;intro g2 u;refine zI zBt (qcH A ?_).symm;rw[C,zT (JH W)];rfl
     .have aK:y.ends.length=c.Az.length:=JI W;refine zq ?_;intros;rename_i aL aM;refine zw ?_;refine⟨Z,λn=>[.v (.int .i64 n)],λn=>⟨g,[.blk 11 aM 151 [.v (.string c.name),.v (.int .i64 c.AY),.v (.int .i64 c.As),.v (.slice aI c.Az.length aJ)],.blk 10 aL 139 [.v (.int .u64 y.AF),.v (.slice aD y.ends.length aE)],.blk 0 ai 71 [.v (.slice E x.Aw.Aa.length H),.v (.slice L x.Aw.AE.length P),.v (.slice (O am) x.Aw.Ad.length Q),.v (.slice (O ak) x.Aj.length R),.v (.bool x.Ba)]],20,g.w.heap.size⟩,λn=>n<=y.ends.length/\(y.ends.take n).all (q3K c)=I,λn=>y.ends.length-n,λU w h=>⟨0,rfl,⟨zJ _,se⟩,h.fit sc⟩,?_⟩;rintro n ⟨bi,Y⟩;refine zq ?_;intros;refine⟨λaa=>?_,λaa=>?_⟩
      .have D:n<y.ends.length:=by have:=zd aa;omega
       obtain⟨e,an⟩:=qEA D;obtain⟨aN,rfl,bj,bl,ao,aO⟩:=aF n e an;have aP:=ao;obtain⟨⟨bm,rfl,bn,bo,aQ⟩,bp⟩:=ao;obtain⟨bq,br,rfl,bt,bu,bv,bw⟩:=id aQ;obtain⟨ab,ac⟩:=ze.1 an;refine zq ?_;intros;refine⟨aN,rfl,⟨sa,sa⟩,zw ?_⟩;refine⟨_,⟨rfl,aO⟩,zq ?_⟩;intros;refine⟨kF,zq ?_⟩;intros;refine .inl ⟨_,q7Z _ aP,zq ?_⟩;intros;refine⟨λad=>?_,λad=>?_⟩
       .refine zq ?_;intros;refine⟨λ_=>zq ?_,λq=>absurd (((zR (show(0:zt)<=(n:zt) by omega))).symm.trans q) sb⟩;intros;intro g2 u;refine zI zBt (qcH A ?_).symm;rw[C,qyB ab (by rw[ac,quQ,nb1 ad];rfl)];simp
       .refine zq ?_;intros;refine⟨λae=>?_,λae=>?_⟩
        .refine zq ?_;intros;refine⟨λ_=>zq ?_,λq=>absurd (((zR (show(0:zt)<=(n:zt) by omega))).symm.trans q) sb⟩;intros;intro g2 u;refine zI zBt (qcH A ?_).symm;rw[C,qyB ab (by rw[ac,quQ,zT (FB ae)];simp)];simp
        .refine zq ?_;intros;refine λU w h=>⟨n+1,zI (λz=>[zK .i64 z]) (wr1 D e1 e2).symm,⟨D,by rw[qnD ab,Y,ac,quQ,nb0 ad,zR (F1 ae)];rfl⟩,dec D,?_⟩;exact h.fit sc
      .have bx:=zf aa;rw[zAz sa]at Y;refine zq ?_;intros;refine⟨λaR=>(nomatch aR),λ_=>zq ?_⟩;intros;refine λU w h=>⟨k+1,zI (λz=>[zK .i64 z]) (wr1 B g1 g2).symm,⟨B,aj.succ A (by rw[C,zR aK,Y];rfl)⟩,dec B,?_⟩;exact h.fit sc
    .refine zq ?_;intros;intro g2 u;have:=zf V
     rw[qlS aA aB aj sa])

def tGr:F (Z×FnI):=[(23,AG.1),(56,AD.1),(69,DU.1)]
def qtb:q6B Tryz.prog tGr:=by
 intro x h;simp only[tGr,zs,zC,zAt]at h;rcases h with rfl|rfl|rfl
 .exact⟨_,_,AG.2⟩
 .exact⟨_,_,AD.2⟩
 .exact⟨_,_,DU.2⟩
def GrP(w:Wd):Prop:=1<=w.pins.length/\w.pins.length<=8/\w.counts.length=w.pins.length/\qHE w.counts=I/\0<=w.Ai/\w.Ai<=1000000000000/\(w.AL=0\/w.AL=1)
def qHN(w:Wd)(p:zt):zO:=decide (0<=p)&&decide (p<=w.Ai+1)
def EV{w}:qGB w=I<->GrP w/\w.pins.all (qHN w)=I:=by
 unfold qGB GrP qHN;simp only[zl,zF];constructor
 .rintro⟨⟨⟨⟨⟨⟨⟨h,q⟩,u⟩,A⟩,B⟩,C⟩,D⟩,E⟩;exact⟨⟨h,q,u,A,B,C,D⟩,E⟩
 .rintro⟨⟨h,q,u,A,B,C,D⟩,E⟩;exact⟨⟨⟨⟨⟨⟨⟨h,q⟩,u⟩,A⟩,B⟩,C⟩,D⟩,E⟩
def q3D{w}(h:¬GrP w):qGB w=zb:=by
 rw[zCH];intro q;exact h (EV.1 q).1
def q9O{w}(h:w.pins.all (qHN w)=zb):qGB w=zb:=by
 rw[zCH];intro q;rw[(EV.1 q).2]at h;cases h
def qCV(g){cs}{w}(P:rWo g cs w):OkV Tryz.prog 32 [.agg ⟨cs⟩] g (.bool (qGB w)):=by
 obtain⟨a,b,c,d,e,rfl,⟨aE,aF,aG⟩,ae,af,ag,aa,ah⟩:=P;obtain⟨ai,aj,rfl,ak,al,aH,am⟩:=id ae;obtain⟨an,ao,rfl,aI,aJ,aK,aL⟩:=id af;obtain⟨ap,aq,rfl,c1,c2,aM,aN⟩:=id ag;obtain⟨ar,au,rfl,d1,d2,aO,aP⟩:=id aa;obtain⟨av,aw,rfl,e1,e2,aQ,aR⟩:=id ah
 exact Ok.Aq hm qtb 3 M6.2 (args:=[.v (.agg ⟨wQ w ai aj an ao ap aq ar au av aw⟩)]) (by
  refine zq ?_;intros;refine⟨λz1=>?_,λz1=>?_⟩
  .refine zq ?_;intros;intro g2 q;rw[q3D λh=>by have:=zd z1;have:=h.1;omega]
  refine zq ?_;intros;refine⟨λB=>?_,λB=>?_⟩
  .refine zq ?_;intros;intro g2 q;rw[q3D λh=>by have:=zd B;have:=h.2.1;omega]
  refine zq ?_;intros;refine⟨λC=>?_,λC=>?_⟩
  .refine zq ?_;intros;intro g2 q;rw[q3D λh=>JH C h.2.2.1]
  refine zq ?_;intros;refine .inl ⟨_,qkc _ aa,zq ?_⟩;intros;refine⟨λu=>?_,λu=>?_⟩
  .refine zq ?_;intros;intro g2 q;rw[q3D λh=>by rw[h.2.2.2.1]at u;cases u]
  refine zq ?_;intros;refine⟨λD=>?_,λD=>?_⟩
  .refine zq ?_;intros;intro g2 q;rw[q3D λh=>by have:=zd D;have:=h.2.2.2.2.1;omega]
  refine zq ?_;intros;refine⟨λE=>?_,λE=>?_⟩
  .refine zq ?_;intros;intro g2 q;rw[q3D λh=>by have:=zd E;have:=h.2.2.2.2.2.1;omega]
  refine zq ?_;intros;have aT:=zf z1;have aU:=zf B;have ax:=JI C;have ay:=nb0 u;have aW:=zf D;have k6:=zf E;clear z1 B C u D E;refine zw ?_;refine⟨λA=>?_,λA=>?_⟩
  case' refine_1=>
   have ab:=FB A;refine zq ?_;intros;refine⟨λH=>?_,λH=>?_⟩
   case' refine_1=>
    have az:=FB H;refine zq ?_;intros;intro g2 q;rw[q3D λh=>by rcases h.2.2.2.2.2.2 with h|h;exact ab h;exact az h]
   have ac:w.AL=0\/w.AL=1:=.inr (F1 H);clear A H ab
  case' refine_2=>
   have ac:w.AL=0\/w.AL=1:=.inl (F1 A);clear A
  all_goals
   have aA:GrP w:=⟨sa,sa,ax,ay,sa,sa,ac⟩;refine zq ?_;intros;refine⟨Z,λk=>[.v (.int .i64 k)],λ_=>⟨g,_,_,_⟩,λk=>k<=w.pins.length/\(w.pins.take k).all (qHN w)=I,λk=>w.pins.length-k,qfA 0 rfl ⟨zJ _,se⟩ rfl,?_⟩;rintro k ⟨aX,Q⟩;refine zq ?_;intros;refine⟨λR=>?_,λR=>?_⟩
   case' refine_1=>
    have L:k<w.pins.length:=by have:=zd R;omega
    obtain⟨x,ad⟩:=qEA L;obtain⟨a,rfl,aY,aZ,⟨rfl,a0⟩,aB⟩:=am k x ad;obtain⟨T,U⟩:=ze.1 ad;have aC:(w.pins.take (k+1)).all (qHN w)=qHN w x:=by rw[qnD T,Q,U];rfl
    refine zq ?_;intros;refine⟨a,rfl,⟨sa,sa⟩,zw ?_⟩;refine⟨_,aB 0 _ rfl,zq ?_⟩;intros;refine⟨kF,zq ?_⟩;intros;refine⟨λV=>?_,λV=>?_⟩
    case' refine_1=>
     refine zq ?_;intros;intro g2 q;rw[zR (show(0:zt)<=(k:zt) by omega)];have aD:=zd V;rw[q9O (qyB T (by rw[U];unfold qHN;rw[zT sa];rfl))];rfl
    have aD:=zf V;refine zq ?_;intros;refine⟨λW=>?_,λW=>?_⟩
    case' refine_1=>
     refine zq ?_;intros;intro g2 q;rw[zR (show(0:zt)<=(k:zt) by omega)];have Y:=zd W;rw[wr si]at Y;rw[q9O (qyB T (by rw[U];unfold qHN;rw[zT (show ¬x<=w.Ai+1 by omega)];simp))];rfl
    have Y:=zf W;rw[wr si]at Y;refine zq ?_;intros;refine λa1 a2 P=>⟨k+1,zI (λz=>[zK .i64 z]) (wr1 L ak al).symm,⟨L,by rw[aC];unfold qHN;rw[zR (show 0<=x by omega),zR (show x<=w.Ai+1 by omega)];rfl⟩,dec L,?_⟩;exact P.fit sc
   have:=zf R;rw[zAz sa]at Q;refine zq ?_;intros;intro g2 q
   rw[EV.2 ⟨aA,Q⟩];rfl)
def SnW(w:Wd):Prop:=∀v∈w.Ab,SnS v.Aw
def HV{w}:wdB w=I<->qGB w=I/\(0<=w.current/\w.current<w.Ab.length)/\qOE w.An=I/\w.An.all (Dj w)=I/\allI (Dg w) w.Ab=I/\allI (qvB w.Aa) w.Aa=I:=by
 unfold wdB;simp only[zl,zF];constructor
 .rintro⟨⟨⟨⟨⟨⟨h,q⟩,u⟩,A⟩,B⟩,C⟩,D⟩;exact⟨h,⟨q,u⟩,A,B,C,D⟩
 .rintro⟨h,⟨q,u⟩,A,B,C,D⟩;exact⟨⟨⟨⟨⟨⟨h,q⟩,u⟩,A⟩,B⟩,C⟩,D⟩
def qeJ{w}(h:¬(qGB w=I/\(0<=w.current/\w.current<w.Ab.length)/\qOE w.An=I/\w.An.all (Dj w)=I/\allI (Dg w) w.Ab=I/\allI (qvB w.Aa) w.Aa=I)):wdB w=zb:=by
 rw[zCH];intro q;exact h (HV.1 q)
def q5U(g){cs}{w}(A:rWo g cs w)(aD:SnW w):OkV Tryz.prog 10 [.agg ⟨cs⟩] g (.bool (wdB w)):=by
 have aE:=A;obtain⟨a,b,c,d,e,rfl,⟨aY,aZ,a0⟩,aF,aG,au,aH,av⟩:=A;obtain⟨V,W,rfl,a1,a2,a3,a4⟩:=id aF;obtain⟨Y,aa,rfl,aw,ax,a5,aI⟩:=id aG;obtain⟨ab,ac,rfl,c1,c2,a6,aJ⟩:=id au;obtain⟨ad,ae,rfl,d1,d2,a7,a8⟩:=id aH;obtain⟨af,ag,rfl,e1,e2,a9,aK⟩:=id av
 exact Ok.Aq hm noT 0 N6.2 (args:=[.v (.agg ⟨wQ w V W Y aa ab ac ad ae af ag⟩)]) (by
  refine zq ?_;intros;refine .inl ⟨_,qCV _ aE,zq ?_⟩;intros;refine⟨λz1=>?_,λz1=>?_⟩
  .refine zq ?_;intros;intro g2 H;rw[qeJ λh=>by rw[h.1]at z1;cases z1]
  refine zq ?_;intros;refine⟨λah=>?_,λah=>?_⟩
  .refine zq ?_;intros;intro g2 H;rw[qeJ λh=>by have:=zd ah;have:=h.2.1;omega]
  refine zq ?_;intros;refine⟨λai=>?_,λai=>?_⟩
  .refine zq ?_;intros;intro g2 H;rw[qeJ λh=>by have:=zd ai;have:=h.2.1;omega]
  refine zq ?_;intros;refine .inl ⟨_,qac _ av,zq ?_⟩;intros;refine⟨λT=>?_,λT=>?_⟩
  .refine zq ?_;intros;intro g2 H;rw[qeJ λh=>by rw[h.2.2.1]at T;cases T]
  have aL:=nb0 z1;have ba:=zf ah;have bb:=zf ai;have ay:=nb0 T;clear z1 ah ai T;refine zq ?_;intros;rename_i am an;refine zw ?_;refine⟨Z,λk=>[.v (.int .i64 k)],λk=>⟨g,[.mp 1 an .i64 (qnJ (w.An.take k)),.blk 0 am 44 [.v (.int .i64 w.Ai),.v (.int .i64 w.current),.v (.int .i64 w.AL),.v (.slice V w.pins.length W),.v (.slice Y w.Ab.length aa),.v (.slice ab w.Aa.length ac),.v (.slice ad w.counts.length ae),.v (.slice af w.An.length ag)]],10,g.w.heap.size⟩,λk=>k<=w.An.length/\(w.An.take k).all (Dj w)=I,λk=>w.An.length-k,λQ R A=>⟨0,rfl,⟨zJ _,se⟩,A.fit (by simp[AB,Res.eqv,qCA,Ag,qnJ])⟩,?_⟩;rintro k ⟨aj,ao⟩;refine zq ?_;intros;refine⟨λE=>?_,λE=>?_⟩
  .have u:k<w.An.length:=by have:=zd E;omega
   obtain⟨x,B⟩:=qEA u;obtain⟨a,rfl,az,aA,⟨rfl,bc,bd⟩,U⟩:=aK k x B;obtain⟨ak,al⟩:=ze.1 B;have aM:(w.An.take (k+1)).all (Dj w)=Dj w x:=by rw[qnD ak,ao,al];rfl
   have aN:=qIM B;refine zq ?_;intros;refine⟨a,rfl,⟨sa,sa⟩,zw ?_⟩;refine⟨_,⟨rfl,U⟩,zq ?_⟩;intros;refine⟨λD=>?_,λD=>?_⟩
   .refine zq ?_;intros;intro g2 H;have aO:=zd D;rw[qeJ λh=>by have q:=h.2.2.2.1;rw[qyB ak (by rw[al];unfold Dj;rw[zT sa];rfl)]at q;cases q]
   have aO:=zf D;refine zq ?_;intros;refine⟨λC=>?_,λC=>?_⟩
   .refine zq ?_;intros;intro g2 H;have ap:=Cn C;rw[qeJ λh=>by have q:=h.2.2.2.1;rw[qyB ak (by rw[al];unfold Dj;rw[zT (show ¬x.Ac≠w.current by simpa using ap)];simp)]at q;cases q]
   have ap:=Ei C;refine zq ?_;intros;refine⟨λaq=>?_,λaq=>?_⟩
   .refine zq ?_;intros;intro g2 H;have aP:=zd aq;rw[qeJ λh=>by have q:=h.2.2.2.1;rw[qyB ak (by rw[al];unfold Dj;rw[zT (show ¬x.at_<=w.Ai by omega)];simp)]at q;cases q]
   have aP:=zf aq;refine zq ?_;intros;refine λQ R A=>⟨k+1,zI (λz=>[zK .i64 z]) (wr1 u e1 e2).symm,⟨u,by rw[aM];unfold Dj;rw[zR (show x.Ac<w.Ab.length by omega),zR ap,zR (show x.at_<=w.Ai by omega)];rfl⟩,dec u,A.fit ?_⟩;simp only[aN];simp[AB,Res.eqv,qCA,Ag]
  have aQ:=zf E;rw[zAz sa]at ao;obtain rfl:k=w.An.length:=sa
  have ar:=λn=>qJM (n:=n) (q9X ay) (zH w.An.length);rw[zAX]at ar;simp only[zAX];clear E aQ aj;refine zq ?_;intros;refine⟨Z,λk=>[.v (.int .i64 k)],λ_=>⟨g,[.mp 1 an .i64 (qnJ w.An),.blk 0 am 44 [.v (.int .i64 w.Ai),.v (.int .i64 w.current),.v (.int .i64 w.AL),.v (.slice V w.pins.length W),.v (.slice Y w.Ab.length aa),.v (.slice ab w.Aa.length ac),.v (.slice ad w.counts.length ae),.v (.slice af w.An.length ag)]],10,g.w.heap.size⟩,λk=>k<=w.Ab.length/\Ek (Dg w) w.Ab k,λk=>w.Ab.length-k,λQ R A=>⟨0,rfl,⟨zJ _,Ek.zero _ _⟩,A.fit sc⟩,?_⟩;rintro k ⟨aj,P⟩;refine zq ?_;intros;refine⟨λE=>?_,λE=>?_⟩
  .have u:k<w.Ab.length:=by have:=zd E;omega
   obtain⟨x,B⟩:=qEA u;obtain⟨a,rfl,az,aA,aB,U⟩:=aI k x B;have aR:=aB;obtain⟨be,bf,bh,bi,rfl,⟨_,_,_,aT,⟨bj,bl,rfl,_⟩,⟨bm,bn,rfl,_⟩,⟨bo,bp,rfl,_⟩⟩,⟨bq,br,rfl,_⟩⟩:=aB;cases aT;refine zq ?_;intros;refine⟨a,rfl,⟨sa,sa⟩,zw ?_⟩;refine⟨_,⟨rfl,U⟩,zq ?_⟩;intros;refine .inl ⟨_,qOQ _ aR (aD x (zh B)),zq ?_⟩;intros;refine⟨λD=>?_,λD=>?_⟩
   .refine zq ?_;intros;intro g2 H;rw[qeJ λh=>by have q:=h.2.2.2.2.1;rw[qnB B (by unfold Dg;rw[nb1 D];rfl)]at q;cases q]
   refine zq ?_;intros;rcases aC:B5 (.i (k:zt)) (qnJ w.An)with _|bt
   .have L:=ar (k:zt);rw[aC]at L;simp only[q0O,Value.bool.injEq]at L;refine zw ?_;refine⟨zc,rfl,zq ?_⟩;intros;refine⟨λC=>?_,λC=>?_⟩
    .refine zq ?_;intros;intro g2 H;rw[qeJ λh=>by have q:=h.2.2.2.2.1;rw[qnB B (by unfold Dg;rw[nb0 D,<-L];simpa using C)]at q;cases q]
    refine zq ?_;intros;refine λQ R A=>⟨k+1,zI (λz=>[zK .i64 z]) (wr1 u aw ax).symm,⟨u,P.succ B (by unfold Dg;rw[nb0 D,<-L];simpa using C)⟩,dec u,?_⟩;exact A.fit sc
   .have L:=ar (k:zt);rw[aC]at L;simp only[q0O]at L;subst L;refine zw ?_;refine⟨_,rfl,zq ?_⟩;intros;refine⟨λC=>?_,λC=>?_⟩
    .refine zq ?_;intros;intro g2 H;rw[qeJ λh=>by have q:=h.2.2.2.2.1;rw[qnB B (by unfold Dg;rw[nb0 D];simpa using C)]at q;cases q]
    refine zq ?_;intros;refine λQ R A=>⟨k+1,zI (λz=>[zK .i64 z]) (wr1 u aw ax).symm,⟨u,P.succ B (by unfold Dg;rw[nb0 D];simpa using C)⟩,dec u,?_⟩;exact A.fit sc
  have aU:=P.done (by have:=zf E;omega);clear E aj P;refine zq ?_;intros;refine⟨Z,λk=>[.v (.int .i64 k)],λ_=>⟨g,[.mp 1 an .i64 (qnJ w.An),.blk 0 am 44 [.v (.int .i64 w.Ai),.v (.int .i64 w.current),.v (.int .i64 w.AL),.v (.slice V w.pins.length W),.v (.slice Y w.Ab.length aa),.v (.slice ab w.Aa.length ac),.v (.slice ad w.counts.length ae),.v (.slice af w.An.length ag)]],10,g.w.heap.size⟩,λk=>k<=w.Aa.length/\Ek (qvB w.Aa) w.Aa k,λk=>w.Aa.length-k,λQ R A=>⟨0,rfl,⟨zJ _,Ek.zero _ _⟩,A.fit sc⟩,?_⟩;rintro k ⟨aj,P⟩;refine zq ?_;intros;refine⟨λE=>?_,λE=>?_⟩
  .have u:k<w.Aa.length:=by have:=zd E;omega
   obtain⟨x,B⟩:=qEA u;obtain⟨a,rfl,az,aA,⟨rfl,aW⟩,U⟩:=aJ k x B;refine zq ?_;intros;refine⟨a,rfl,⟨sa,sa⟩,zw ?_⟩;refine⟨_,⟨rfl,U⟩,zq ?_⟩;intros;refine .inl ⟨_,qlc _ (x:=x) ⟨rfl,aW⟩,zq ?_⟩;intros;refine⟨λD=>?_,λD=>?_⟩
   .refine zq ?_;intros;intro g2 H;rw[qeJ λh=>by have q:=h.2.2.2.2.2;rw[qnB B (by unfold qvB;rw[nb1 D];rfl)]at q;cases q]
   refine zq ?_;intros;refine .inl ⟨_,qIG _ au _,zq ?_⟩;intros;refine⟨λC=>?_,λC=>?_⟩
   .refine zq ?_;intros;intro g2 H;rw[qeJ λh=>by have q:=h.2.2.2.2.2;rw[qnB B (by unfold qvB;rw[zT (FB C)];simp)]at q;cases q]
   refine zq ?_;intros;refine λQ R A=>⟨k+1,zI (λz=>[zK .i64 z]) (wr1 u c1 c2).symm,⟨u,P.succ B (by unfold qvB;rw[nb0 D,zR (F1 C)];rfl)⟩,dec u,?_⟩;exact A.fit sc
  have aX:=P.done (by have:=zf E;omega);refine zq ?_;intros;intro g2 H
  rw[HV.2 ⟨aL,⟨sa,sa⟩,ay,ao,aU,aX⟩])

def qxd(n:zt)(v:zg)(g':GW):Prop:=
 ((1<=n/\n<=4)/\∃h cap,v=.tuple #[.agg ⟨[.int .u64 1,.slice h n.toNat cap,.int .i64 0]⟩,.int .i64 0]/\rSl 1 BX g' (.slice h n.toNat cap) (qlC n.toNat).next)\/
 (¬(1<=n/\n<=4)/\v=.tuple #[.agg ⟨[.int .u64 0,.slice zc 0 0,.int .i64 0]⟩,.int .i64 1])
abbrev upE(k:Z):F (F zg):=(zA8 k).map λ(i:Z)=>[zK .i64 ((i:zt)+1)]
def qsW(k):upE (k+1)=upE k++[[zK .i64 ((k:zt)+1)]]:=by simp[upE,zDc]
def qlY{k}:∀e∈upE k,e.length=1:=λe h=>by
 obtain⟨x,_,rfl⟩:=zU.1 h;rfl
def quX(g){n}:Ok Tryz.prog 109 [.int .i64 n] g (qxd n):=
 Ok.Aq hm noT 0 Nt.2 (args:=[.v (.int .i64 n)]) (by
  refine zq ?_;intros;refine⟨λz1=>?_,λz1=>?_⟩
  .refine zq ?_;intros;intro g2 h;exact .inr ⟨by have:=zd z1;omega,rfl⟩
  refine zq ?_;intros;refine⟨λq=>?_,λq=>?_⟩
  .refine zq ?_;intros;intro g2 h;exact .inr ⟨by have:=zd q;omega,rfl⟩
  have W:=zf z1;have Y:=zf q;obtain⟨N,rfl⟩:=zBh (show 0<=n by omega);refine zq ?_;intros;refine⟨⟨sa,sa,sa,sa⟩,λ_=>zq ?_⟩;intros;rename_i L D P;refine zw ?_;refine⟨Z,λk=>[.v (.int .i64 k)],λk=>⟨g,[.blk 2 P 141 [.v (.int .u64 0),.row 1 (O ⟨D,0,zc⟩) N N,.v (.int .i64 0)],.row 1 (O ⟨D,0,zc⟩) N N 3 1 (Ec (upE k) [.int .i64 0] (N-k)),.blk 0 L 141 [.v (.int .u64 0),.v (.slice zc 0 0),.v (.int .i64 0)]],3,g.w.heap.size⟩,λk=>k<=N,λk=>N-k,λQ w u=>⟨0,rfl,zJ _,u.fit (by simp[AB,Res.eqv,qCA,Ag,Ec,upE])⟩,?_⟩;intro k aa;have A:=quG (m:=N-k) (z:=[.int .i64 0]) (qlY (k:=k)) rfl;have B:(upE k).length=k:=by simp[upE]
  refine zq ?_;intros;refine⟨λC=>?_,λC=>?_⟩
  .have E:k<N:=by have:=zd C;omega
   have H:=qtG (m:=N-k) (z:=[.int .i64 0]) (qlY (k:=k)) rfl sa (ec:=[.int .i64 ((k:zt)+1)]) rfl B.symm;rw[<-qsW]at H;refine zq ?_;intros;refine⟨⟨sa,sa⟩,zq ?_⟩;intros;refine⟨⟨by rw[A,B];simp;omega,sb⟩,zq ?_⟩;intros;refine λQ w u=>⟨k+1,zI (λz=>[zK .i64 z]) (by rw[wr (show InR ((k:zt)+1) by unfold InR;omega)];omega),E,dec E,u.fit ?_⟩;rw[show N-(k+1)=N-k-1 by omega,<-H];simp[AB,Res.eqv,qCA,Ag,wr (show InR ((k:zt)+1) by unfold InR;omega)]
  have R:k=N:=by have:=zf C;omega
  subst R;rw[zCL,B]at A;refine zq ?_;intros;refine⟨⟨by rw[wr si];omega,by rw[wr si];omega⟩,zq ?_⟩;intros;refine⟨⟨by rw[zCL,A,wr si];simp;omega,sb⟩,zq ?_⟩;intros;refine .inl ⟨_,(qJN _ (t:=0) (i:=0) sb sb).to (show _=Value.tuple #[.int .u64 1,.int .i64 0]from rfl),zq ?_⟩;intros;refine λg1 ab ac T=>zq ?_;intros;intro g2 h;refine .inl ⟨⟨sa,sa⟩,_,_,rfl,?_⟩;have U:k=1\/k=2\/k=3\/k=4:=sa
  rcases U with rfl|rfl|rfl|rfl
  all_goals exact(qOC T.rd (qlC _).next (λx=>.int .i64 x) rfl λx V=>⟨rfl,by simp[qlC,zA8,List.range.loop]at V;unfold InR;omega⟩).mono quA h)
def qJY{g}{n:zt}{oa}{cap:Z}(h:1<=n/\n<=4)(q:rSl 1 BX g (.slice oa n.toNat cap) (qlC n.toNat).next):rEn g [.int .u64 1,.slice oa n.toNat cap,.int .i64 0] (qlC n.toNat):=
 ⟨⟨_,rfl,show InU 1 by decide,show InR 0 by decide,q⟩,by simp[qlC];omega⟩
def q1d(s:Ej)(v:zg)(g':GW):Prop:=
 (qOA (qfD s)=zc/\∃a b d h n cap,v=.tuple #[.agg ⟨[a,b,d,.slice h n cap,.bool zb]⟩,.int .i64 0]/\rVe g' [a,b,d,.slice h n cap,.bool zb] (qRA s))\/
 (qOA (qfD s)≠zc/\v=.tuple #[.agg ⟨[.slice zc 0 0,.slice zc 0 0,.slice zc 0 0,.slice zc 0 0,.bool zb]⟩,.int .i64 1])
def qxR(g){cs}{s}(hs:qDI g cs s)(av:s.AE.length<=1000000):Ok Tryz.prog 63 [.agg ⟨cs⟩] g (q1d s):=by
 have an:=hs;obtain⟨a,b,d,rfl,aw,ax,ay⟩:=hs;obtain⟨B,C,rfl,aP,aQ,aR,aT⟩:=id aw;obtain⟨D,E,rfl,aU,aW,aX,aY⟩:=id ax;obtain⟨Y,H,rfl,d1,d2,aZ,az⟩:=id ay
 exact Ok.Aq hm noT 0 Nr.2 (args:=[.v (.agg ⟨[.slice B s.Aa.length C,.slice D s.AE.length E,.slice Y s.Ad.length H]⟩)]) (by
  refine zq ?_;intros;refine .inl ⟨_,q1Y _ an av,zq ?_⟩;intros;refine⟨λz1=>?_,λz1=>?_⟩
  .refine zq ?_;intros;intro g2 aa;refine .inr ⟨λab=>?_,rfl⟩;rw[qxV ab]at z1;cases z1
  have ao:=DL.1 (nb0 z1);have G:=AZ.1 ao;have a0:s.Ad.length<=4:=G.size.2.2.2;have aA:∀x∈s.Ad,(1<=x.As/\x.As<=4)/\(1<=x.Az.length/\x.Az.length<=4):=λx L=>(G.cl x L).2.2;refine zq ?_;intros;rename_i ap aq ar;refine zw ?_;refine⟨Z×F (F zg)×zy zAI×Z×GW,λ(k,_,_,_,_)=>[.v (.int .i64 k)],λ(k,A,P,Q,q)=>⟨q,[.row 10 P k Q 139 2 A.flatten,.blk 2 ar 71 [.v (.slice B s.Aa.length C),.v (.slice D s.AE.length E),.v (.slice Y s.Ad.length H),.row 10 P k Q,.v (.bool zb)],.blk 1 aq 71 [.v (.slice zc 0 0),.v (.slice zc 0 0),.v (.slice zc 0 0),.v (.slice zc 0 0),.v (.bool zb)],.blk 0 ap 68 [.v (.slice B s.Aa.length C),.v (.slice D s.AE.length E),.v (.slice Y s.Ad.length H)]],20,g.w.heap.size⟩,λ(k,A,_,_,q)=>k<=s.Ad.length/\g<=q/\Fz 2 rGr q A ((s.Ad.take k).map λc=>(⟨0,c.Az.map λ_=>qlC c.As.toNat⟩:Bi)),λ(k,_,_,_,_)=>s.Ad.length-k,λac w u=>⟨(0,[],zc,0,g),rfl,⟨zJ _,GW.refl _,qwJ _⟩,(u.DK (nx':=20) 10 139 2).fit sc⟩,?_⟩;rintro⟨k,A,P,Q,q⟩ ⟨a1,ad,hE⟩;refine zq ?_;intros;refine⟨λae=>?_,λae=>?_⟩
  .have U:k<s.Ad.length:=by have:=zd ae;omega
   obtain⟨x,L⟩:=qEA U;obtain⟨aB,aC⟩:=ze.1 L;have au:=aA x (zh L);obtain⟨a,rfl,a2,a3,⟨a4,rfl,_,_,⟨aD,aE,rfl,aF,aG,_⟩⟩,aH⟩:=az k x L;refine zq ?_;intros;refine⟨a,rfl,⟨sa,sa⟩,zw ?_⟩;refine⟨_,⟨rfl,aH.mono ad⟩,zq ?_⟩;intros;rename_i aI aJ;refine zw ?_;refine⟨Z×F (F zg)×zy zAI×Z×GW,λ(n,_,_,_,_)=>[.v (.int .i64 n)],λ(n,R,V,cE,g2)=>⟨g2,[.row 30 V n cE 141 3 R.flatten,.blk 21 aJ 139 [.v (.int .u64 0),.row 30 V n cE],.blk 20 aI 151 [.v (.string x.name),.v (.int .i64 x.AY),.v (.int .i64 x.As),.v (.slice aD x.Az.length aE)],.row 10 P k Q 139 2 A.flatten,.blk 2 ar 71 [.v (.slice B s.Aa.length C),.v (.slice D s.AE.length E),.v (.slice (O a) s.Ad.length H),.row 10 P k Q,.v (.bool zb)],.blk 1 aq 71 [.v (.slice zc 0 0),.v (.slice zc 0 0),.v (.slice zc 0 0),.v (.slice zc 0 0),.v (.bool zb)],.blk 0 ap 68 [.v (.slice B s.Aa.length C),.v (.slice D s.AE.length E),.v (.slice (O a) s.Ad.length H)]],40,g.w.heap.size⟩,λ(n,R,_,_,g2)=>n<=x.Az.length/\q<=g2/\Fz 3 rEn g2 R ((x.Az.take n).map λ_=>qlC x.As.toNat),λ(n,_,_,_,_)=>x.Az.length-n,λac w u=>⟨(0,[],zc,0,q),rfl,⟨zJ _,GW.refl _,qwJ _⟩,(u.DK (nx':=40) 30 141 3).fit sc⟩,?_⟩;rintro⟨n,R,V,cE,g2⟩ ⟨a5,af,ag⟩;refine zq ?_;intros;refine⟨λah=>?_,λah=>?_⟩
   .have W:n<x.Az.length:=by have:=zd ah;omega
    refine zq ?_;intros;refine .inr ((quX _).mono λv g3 h T=>?_);rcases T with⟨_,aK,cF,rfl,T⟩|⟨T,_⟩
    rotate_left
    .exact absurd au.1 T
    have aL:=qJY au.1 T
    have ai:((x.Az.take (n+1)).map λ_=>qlC x.As.toNat)=((x.Az.take n).map λ_=>qlC x.As.toNat)++[qlC x.As.toNat]:=by
     rw[zAo W,zBE];rfl
    refine zq ?_;intros;refine⟨λab=>(nomatch ab),λ_=>zq ?_⟩;intros;refine⟨⟨by unfold zAp;omega,sa⟩,λaj ak=>zq ?_⟩;intros;refine λac w u=>⟨(n+1,R++[[.int .u64 1,.slice aK x.As.toNat cF,.int .i64 0]],aj,ak,g3),zI (λz=>[zK .i64 z]) (wr1 W aF aG).symm,⟨W,GW.trans af h,by rw[ai];exact qCG (qBG qMF h ag) rfl aL⟩,dec W,u.fit sc⟩
   have aM:n=x.Az.length:=by have:=zf ah;omega
   subst aM;rw[zAX]at ag
   have ai:((s.Ad.take (k+1)).map λc=>(⟨0,c.Az.map λ_=>qlC c.As.toNat⟩:Bi))=((s.Ad.take k).map λc=>(⟨0,c.Az.map λ_=>qlC c.As.toNat⟩:Bi))++[⟨0,x.Az.map λ_=>qlC x.As.toNat⟩]:=by
    rw[zAo aB,zBE,aC];rfl
   refine zq ?_;intros;refine λg3 h aN al=>?_;have am:=qeK (qBG qMF h ag) al se;refine zq ?_;intros;refine⟨⟨by unfold zAp;omega,sa⟩,λaj ak=>zq ?_⟩;intros;refine λac w u=>⟨(k+1,A++[[.int .u64 0,.slice V x.Az.length cE]],aj,ak,g3),zI (λz=>[zK .i64 z]) (wr1 U d1 d2).symm,⟨U,GW.trans ad (GW.trans af h),by rw[ai];exact qCG (qBG qLF (GW.trans af h) hE) rfl ⟨_,rfl,show InU 0 by decide,am⟩⟩,dec U,u.fit sc⟩
  have aO:k=s.Ad.length:=by have:=zf ae;omega
  subst aO;rw[zAX]at hE;refine zq ?_;intros;refine λg3 h aN al=>?_;have am:=qeK (qBG qLF h hE) al se;refine zq ?_;intros;intro g2 aa
  exact .inl ⟨ao,_,_,_,_,_,_,rfl,⟨_,_,_,_,rfl,qlB _ _ _ _ (GW.trans ad (GW.trans h aa)) an,am.mono qLF aa⟩⟩)
def qud(n:zt)(v:zg)(g':GW):Prop:=
 ((1<=n/\n<=8)/\∃h cap,v=.tuple #[.slice h n.toNat cap,.int .i64 0]/\rSl 1 Fy g' (.slice h n.toNat cap) (qTD n.toNat))\/
 (¬(1<=n/\n<=8)/\v=.tuple #[.slice zc 0 0,.int .i64 1])
def qTQ(g){n}:Ok Tryz.prog 64 [.int .i64 n] g (qud n):=
 Ok.Aq hm noT 0 NV.2 (args:=[.v (.int .i64 n)]) (by
  refine zq ?_;intros;refine⟨λz1=>?_,λz1=>?_⟩
  .refine zq ?_;intros;intro g2 B;exact .inr ⟨by have:=zd z1;omega,rfl⟩
  refine zq ?_;intros;refine⟨λC=>?_,λC=>?_⟩
  .refine zq ?_;intros;intro g2 B;exact .inr ⟨by have:=zd C;omega,rfl⟩
  have ae:=zf z1;have af:=zf C;obtain⟨N,rfl⟩:=zBh (show 0<=n by omega);refine zq ?_;intros;refine⟨⟨sa,sa,sa,sa⟩,λ_=>zq ?_⟩;intros;rename_i R;refine zw ?_;refine⟨Z×F (F zg)×GW,λ(k,_,_)=>[.v (.int .i64 k)],λ(k,h,q)=>⟨q,[.row 0 (O ⟨R,0,zc⟩) N N 213 1 (Ec h [.slice zc 0 0] (N-k))],10,g.w.heap.size⟩,λ(k,h,q)=>k<=N/\g<=q/\Fz 1 Fy q h (qTD k),λ(k,_,_)=>N-k,λT w D=>⟨(0,[],g),rfl,⟨zJ _,GW.refl _,qwJ _⟩,D.fit ss⟩,?_⟩;rintro⟨k,h,q⟩ ⟨ag,U,hE⟩;have L:h.length=k:=by have:=hE.1.1;simpa[qTD]using this
  have V:=quG (m:=N-k) (z:=[.slice zc 0 0]) hE.1.2 rfl;refine zq ?_;intros;refine⟨λE=>?_,λE=>?_⟩
  .have P:k<N:=by have:=zd E;omega
   refine zq ?_;intros;refine⟨⟨sb,sb,sb,sb⟩,λ_=>zq ?_⟩;intros;refine⟨⟨sa,sa⟩,zq ?_⟩;intros;rename_i H;refine zw ?_;refine λg2 u W A=>?_;have Y:rSl 1 Gu g2 (.slice (O ⟨H,0,zc⟩) 6 6) [0,0,0,0,0,0]:=qOC A.rd [0,0,0,0,0,0] (λx=>.int .u64 x) rfl λx Q=>⟨rfl,by simp at Q;subst Q;decide⟩;have aa:=qtG (m:=N-k) (z:=[.slice zc 0 0]) hE.1.2 rfl sa (ec:=[.slice (O ⟨H,0,zc⟩) 6 6]) rfl L.symm;have ab:qTD (k+1)=qTD k++[[0,0,0,0,0,0]]:=by simp[qTD,zDc]
   refine zq ?_;intros;refine⟨⟨by rw[V,L];simp;omega,sb⟩,zq ?_⟩;intros;refine λT w D=>⟨(k+1,h++[[.slice (O ⟨H,0,zc⟩) 6 6]],g2),zI (λz=>[zK .i64 z]) (by rw[wr (show InR ((k:zt)+1) by unfold InR;omega)];omega),⟨P,GW.trans U u,by rw[ab];exact qCG (qBG qPB u hE) rfl ⟨_,rfl,Y⟩⟩,dec P,D.fit ?_⟩;rw[show N-(k+1)=N-k-1 by omega,<-aa];simp[AB,Res.eqv,qCA,Ag]
  have ac:k=N:=by have:=zf E;omega
  subst ac;refine zq ?_;intros;refine λg2 u W A=>?_;rw[zCL,q6F]at A;have ad:=qeK (qBG qPB u hE) A (by simp[qTD]);refine zq ?_;intros;intro g2 B
  exact .inl ⟨⟨sa,sa⟩,_,_,rfl,ad.mono qPB B⟩)
abbrev wT:WTy:=⟨3,141,139,71,104,52,213,101⟩
abbrev cI1(x:zt):F zg:=[.int .i64 x]
abbrev cU1(x:zt):F zg:=[.int .u64 x]
abbrev cLi(x:AI):F zg:=[.string x.name,.bool x.drain,.int .i64 x.Ae,.bool x.closed]
abbrev cRe(x:Bo):F zg:=[.int .i64 x.Ac,.int .i64 x.at_,.bool x.gone]
def qaX{q:Type}{l:F q}{f:q->F zg}(h:∀x∈l,(f x).all zAY=I):∀u∈(l.map f).flatten,u.oneCell'=I:=LX h
def qHV(g0 g)(D:g0<=g){v}{l}(u:rSl 1 BX g v l)(V:l.length<=17592186044416):Ok Tryz.prog 215 [v] g λv' g'=>oSl 3 1 (oLf BX) g' g0.w.heap.size (NEW g g') v' l:=by
 obtain⟨A,E,rfl,W,Y,H,L⟩:=id u
 have P:∀x∈l,InR x:=λx q=>by
  obtain⟨i,Q⟩:=zBC q;obtain⟨_,_,_,_,⟨_,h⟩,_⟩:=L i x Q;exact h
 have R:=qcO u cI1 λ_ _ h=>h.1
 exact Ok.Aq hm noT 0 Mv.2 (args:=[.v (.slice A l.length E)]) (by
  cases A with
  |none=>
   refine zq ?_;intros;refine⟨λ_=>zq ?_,λh=>nomatch h⟩;intros;intro g2 B;exact .inl ⟨zA4.1 (H rfl).1,zc,rfl⟩
  |some a=>
   refine zq ?_;intros;refine⟨λh=>(nomatch h),λ_=>zq ?_⟩;intros;refine⟨⟨rfl,rfl,rfl,rfl,zJ _⟩,zw ?_⟩;refine⟨_,⟨R,qaX λ_ _=>rfl⟩,zq ?_⟩;intros;refine⟨⟨by unfold zAp;omega,sa⟩,λaa ab=>zq ?_⟩;intros;refine λg1 T U C=>zw ?_;intro g2 B;simp only[zAr,zA9]at C;have hE:=qMI (sz:=1) (r:=BX) g g g0.w.heap.size cI1 l λx q=>⟨rfl,rfl,P x q⟩;have:=qrF (q5A qaB) B (qMG (q5A qaB) hE (GW.refl _) T (C.Gd D.1) rfl U)
   rwa [zAr])
def KR(g0 g)(D:g0<=g){v}{l}(u:rSl 1 Gu g v l)(V:l.length<=17592186044416):Ok Tryz.prog 252 [v] g λv' g'=>oSl 52 1 (oLf Gu) g' g0.w.heap.size (NEW g g') v' l:=by
 obtain⟨A,E,rfl,W,Y,H,L⟩:=id u
 have P:∀x∈l,InU x:=λx q=>by
  obtain⟨i,Q⟩:=zBC q;obtain⟨_,_,_,_,⟨_,h⟩,_⟩:=L i x Q;exact h
 have R:=qcO u cU1 λ_ _ h=>h.1
 exact Ok.Aq hm noT 0 Mq.2 (args:=[.v (.slice A l.length E)]) (by
  cases A with
  |none=>
   refine zq ?_;intros;refine⟨λ_=>zq ?_,λh=>nomatch h⟩;intros;intro g2 B;exact .inl ⟨zA4.1 (H rfl).1,zc,rfl⟩
  |some a=>
   refine zq ?_;intros;refine⟨λh=>(nomatch h),λ_=>zq ?_⟩;intros;refine⟨⟨rfl,rfl,rfl,rfl,zJ _⟩,zw ?_⟩;refine⟨_,⟨R,qaX λ_ _=>rfl⟩,zq ?_⟩;intros;refine⟨⟨by unfold zAp;omega,sa⟩,λaa ab=>zq ?_⟩;intros;refine λg1 T U C=>zw ?_;intro g2 B;simp only[zAr,zA9]at C;have hE:=qMI (sz:=1) (r:=Gu) g g g0.w.heap.size cU1 l λx q=>⟨rfl,rfl,P x q⟩;have:=qrF (q5A qwG) B (qMG (q5A qwG) hE (GW.refl _) T (C.Gd D.1) rfl U)
   rwa [zAr])
def q6c(g0 g)(D:g0<=g){v}{l}(u:rSl 4 qeB g v l)(V:l.length<=1000000):Ok Tryz.prog 218 [v] g λv' g'=>oSl 104 4 (oLf qeB) g' g0.w.heap.size (NEW g g') v' l:=by
 obtain⟨A,E,rfl,W,Y,H,L⟩:=id u
 have P:∀x∈l,InR x.Ae:=λx q=>by
  obtain⟨i,Q⟩:=zBC q;obtain⟨_,_,_,_,⟨_,h⟩,_⟩:=L i x Q;exact h
 have R:=qcO u cLi λ_ _ h=>h.1
 exact Ok.Aq hm noT 0 Mi.2 (args:=[.v (.slice A l.length E)]) (by
  cases A with
  |none=>
   refine zq ?_;intros;refine⟨λ_=>zq ?_,λh=>nomatch h⟩;intros;intro g2 B;exact .inl ⟨zA4.1 (H rfl).1,zc,rfl⟩
  |some a=>
   refine zq ?_;intros;refine⟨λh=>(nomatch h),λ_=>zq ?_⟩;intros;refine⟨⟨rfl,rfl,rfl,rfl,zJ _⟩,zw ?_⟩;refine⟨_,⟨R,qaX λ_ _=>rfl⟩,zq ?_⟩;intros;refine⟨⟨by unfold zAp;omega,sa⟩,λaa ab=>zq ?_⟩;intros;refine λg1 T U C=>zw ?_;intro g2 B;simp only[zAr,zA9]at C;have hE:=qMI (sz:=4) (r:=qeB) g g g0.w.heap.size cLi l λx q=>⟨rfl,rfl,P x q⟩;have:=qrF (q5A q8A) B (qMG (q5A q8A) hE (GW.refl _) T (C.Gd D.1) rfl U)
   rwa [zAr])
def q5c(g0 g)(D:g0<=g){v}{l}(u:rSl 3 qFB g v l)(V:l.length<=1000000):Ok Tryz.prog 221 [v] g λv' g'=>oSl 101 3 (oLf qFB) g' g0.w.heap.size (NEW g g') v' l:=by
 obtain⟨A,E,rfl,W,Y,H,L⟩:=id u
 have P:∀x∈l,InR x.Ac/\InR x.at_:=λx q=>by
  obtain⟨i,Q⟩:=zBC q;obtain⟨_,_,_,_,⟨_,h⟩,_⟩:=L i x Q;exact h
 have R:=qcO u cRe λ_ _ h=>h.1
 exact Ok.Aq hm noT 0 Mh.2 (args:=[.v (.slice A l.length E)]) (by
  cases A with
  |none=>
   refine zq ?_;intros;refine⟨λ_=>zq ?_,λh=>nomatch h⟩;intros;intro g2 B;exact .inl ⟨zA4.1 (H rfl).1,zc,rfl⟩
  |some a=>
   refine zq ?_;intros;refine⟨λh=>(nomatch h),λ_=>zq ?_⟩;intros;refine⟨⟨rfl,rfl,rfl,rfl,zJ _⟩,zw ?_⟩;refine⟨_,⟨R,qaX λ_ _=>rfl⟩,zq ?_⟩;intros;refine⟨⟨by unfold zAp;omega,sa⟩,λaa ab=>zq ?_⟩;intros;refine λg1 T U C=>zw ?_;intro g2 B;simp only[zAr,zA9]at C;have hE:=qMI (sz:=3) (r:=qFB) g g g0.w.heap.size cRe l λx q=>⟨rfl,rfl,P x q⟩;have:=qrF (q5A qtA) B (qMG (q5A qtA) hE (GW.refl _) T (C.Gd D.1) rfl U)
   rwa [zAr])
abbrev zWs:F zg:=[.int .i64 0,.int .i64 0,.int .i64 0,.slice zc 0 0,.slice zc 0 0,.slice zc 0 0,.slice zc 0 0,.slice zc 0 0]
def LB(s:Ej)(l:F BA)(t:zt)(v:zg)(g':GW):Prop:=
 (qyH s l t/\∃cs,v=.tuple #[.agg ⟨cs⟩,.int .i64 0]/\rWo g' cs (CJ s l t.toNat))\/(¬qyH s l t/\v=.tuple #[.agg ⟨zWs⟩,.int .i64 1])
def q3Y(g){cs}{s}{v}{l}{t}(hs:qDI g cs s)(bl:rSl 1 E8 g v l)(bm:s.AE.length<=1000000)(bF:l.length<=1000000):Ok Tryz.prog 28 [.agg ⟨cs⟩,v,.int .i64 t] g (LB s l t):=by
 have bn:=hs;obtain⟨a,b,d,rfl,⟨ag,ah,rfl,_⟩,⟨ai,aj,rfl,_⟩,⟨ak,al,rfl,_⟩⟩:=hs;obtain⟨bo,cl,rfl,aO,aP,bG,be⟩:=id bl
 exact Ok.Aq hm noT 0 NQ.2 (args:=[.v (.agg ⟨[.slice ag s.Aa.length ah,.slice ai s.AE.length aj,.slice ak s.Ad.length al]⟩),.v (.slice bo l.length cl),.v (.int .i64 t)]) (by
  refine zq ?_;intros;rename_i aD aE;refine .inr ((qxR _ bn bm).mono λv g1 bp bq=>?_);rcases bq with⟨aQ,bH,bI,bJ,oV,nV,H,rfl,bf⟩|⟨aQ,rfl⟩
  rotate_left
  .refine zq ?_;intros;refine⟨λ_=>zq ?_,λu=>nomatch u⟩;intros;intro g2 V;exact .inr ⟨λu=>aQ u.1,rfl⟩
  have bh:=bf;obtain⟨_,_,_,_,A,⟨_,_,_,br,⟨L,P,rfl,_⟩,⟨Q,R,rfl,_⟩,⟨T,U,rfl,_⟩⟩,bK⟩:=bf;simp only[zAA,zA6]at A;obtain⟨rfl,rfl,rfl,rfl,_⟩:=A;cases br;refine zq ?_;intros;rename_i aF;refine zw ?_;refine⟨λu=>(nomatch u),λ_=>zq ?_⟩;intros;refine .inr ((qTQ _).mono λv g2 aT bt=>?_);rcases bt with⟨aR,aG,cS,rfl,bi⟩|⟨aR,rfl⟩
  rotate_left
  .refine zq ?_;intros;refine⟨λ_=>zq ?_,λu=>nomatch u⟩;intros;intro g2 V;exact .inr ⟨λu=>aR u.2.1,rfl⟩
  obtain⟨N,rfl⟩:=zBh (show 0<=t by omega);have bj:=GW.trans bp aT;refine zq ?_;intros;refine⟨λu=>(nomatch u),λ_=>zq ?_⟩;intros;refine⟨?_,?_⟩
  .refine zq ?_;intros;refine⟨⟨sa,sa,sa,sa⟩,λ_=>zq ?_⟩;intros;rename_i W Y am;refine zw ?_;refine⟨Z×zy zAI×Z×Z×GW,λ(k,_,_,_,_)=>[.v (.int .i64 k)],λ(k,aa,q,ac,B)=>⟨B,[.blk 5 am 44 [.v (.int .i64 0),.v (.int .i64 0),.v (.int .i64 0),.row 4 (O ⟨Y,0,zc⟩) N N,.sl 3 W 0 1 1,.v (.slice aa q ac),.v (.slice aG N cS),.v (.slice zc 0 0)],.row 4 (O ⟨Y,0,zc⟩) N N 3 1 (zAT N [zK .i64 0]).flatten,.blk 3 W 71 [.v (.slice L (qRA s).Aw.Aa.length P),.v (.slice Q (qRA s).Aw.AE.length R),.v (.slice T (qRA s).Aw.Ad.length U),.v (.slice oV nV H),.v (.bool zb)],.blk 2 aF 71 [.v (.slice L (qRA s).Aw.Aa.length P),.v (.slice Q (qRA s).Aw.AE.length R),.v (.slice T (qRA s).Aw.Ad.length U),.v (.slice oV nV H),.v (.bool zb)],.blk 1 aE 44 [.v (.int .i64 0),.v (.int .i64 0),.v (.int .i64 0),.v (.slice zc 0 0),.v (.slice zc 0 0),.v (.slice zc 0 0),.v (.slice zc 0 0),.v (.slice zc 0 0)],.blk 0 aD 68 [.v (.slice ag s.Aa.length ah),.v (.slice ai s.AE.length aj),.v (.slice ak s.Ad.length al)]],20,g.w.heap.size⟩,λ(k,aa,q,ac,B)=>k<=l.length/\g2<=B/\q=k/\Br B g.w.heap.size 104 4 (.slice aa q ac) q ((CK (l.take k)).map cLi).flatten/\(∀a,aa=O a->¬g2.g a.block)/\Ek (Fa l) l k,λ(k,_,_,_,_)=>l.length-k,λae w ad=>⟨(0,zc,0,0,g2),rfl,⟨zJ _,GW.refl _,rfl,⟨rfl,.inl ⟨rfl,rfl⟩,λbu aU=>by cases aU⟩,(λa u=>by cases u),Ek.zero _ _⟩,ad.fit sc⟩,?_⟩;rintro⟨k,aa,q,ac,B⟩ ⟨bv,ab,bw,af,aW,an⟩;have bx:(CK (l.take k)).length=k:=by simp[CK];omega
   have ao:rSl 4 qeB B (.slice aa q ac) (CK (l.take k)):=q7C af.rd (CK (l.take k)) cLi rfl sa (λ_ _=>rfl) λx h=>by
    obtain⟨y,_,rfl⟩:=zU.1 h;exact⟨rfl,show InR 0 by decide⟩
   refine zq ?_;intros;refine⟨λap=>?_,λap=>?_⟩
   .have C:k<l.length:=by have:=zd ap;omega
    obtain⟨x,h⟩:=qEA C;obtain⟨a,rfl,aX,aq,rfl,aY⟩:=be k x h;have aH:Fa l k x=zb->¬qyH s l N:=λaZ u=>by have aI:=u.2.2;rw[qnB h aZ]at aI;cases aI
    refine zq ?_;intros;refine⟨a,rfl,⟨sa,sa⟩,zw ?_⟩;refine⟨_,(aY.mono (GW.trans bj ab)) 0 _ rfl,zq ?_⟩;intros;refine .inl ⟨_,qhH _ _,zq ?_⟩;intros;refine⟨λar=>?_,λar=>?_⟩
    .refine zq ?_;intros;intro g2 V;exact .inr ⟨aH (by unfold Fa;rw[nb1 ar];rfl),rfl⟩
    refine zq ?_;intros;refine .inl ⟨_,qIG _ ao _,zq ?_⟩;intros;refine⟨λau=>?_,λau=>?_⟩
    .refine zq ?_;intros;intro g2 V;exact .inr ⟨aH (by unfold Fa;rw[zT (by have:=zd au;omega)];simp),rfl⟩
    have aJ:Fa l k x=I:=by unfold Fa;rw[nb0 ar,zR (by have:=zf au;omega)];rfl
    have aK:=q1O h;rcases af.2.1 with⟨A,bz⟩|⟨bk,bA,a0,A,aL,a1,a2,a3,a4⟩
    .cases A;have a5:k=0:=sa
     subst a5;refine zq ?_;intros;refine⟨⟨by unfold zAp;omega,sa⟩,λD E=>zq ?_⟩;intros
     refine λae w ad=>by
      have av:Ap ae ⟨B,.row 70 D (1) E 104 4 (cLi ⟨x,zb,0,zb⟩)::[.blk 5 am 44 [.v (.int .i64 0),.v (.int .i64 0),.v (.int .i64 0),.row 4 (O ⟨Y,0,zc⟩) N N,.sl 3 W 0 1 1,.v (.slice D (1) E),.v (.slice aG N cS),.v (.slice zc 0 0)],.row 4 (O ⟨Y,0,zc⟩) N N 3 1 (zAT N [zK .i64 0]).flatten,.blk 3 W 71 [.v (.slice L (qRA s).Aw.Aa.length P),.v (.slice Q (qRA s).Aw.AE.length R),.v (.slice T (qRA s).Aw.Ad.length U),.v (.slice oV nV H),.v (.bool zb)],.blk 2 aF 71 [.v (.slice L (qRA s).Aw.Aa.length P),.v (.slice Q (qRA s).Aw.AE.length R),.v (.slice T (qRA s).Aw.Ad.length U),.v (.slice oV nV H),.v (.bool zb)],.blk 1 aE 44 [.v (.int .i64 0),.v (.int .i64 0),.v (.int .i64 0),.v (.slice zc 0 0),.v (.slice zc 0 0),.v (.slice zc 0 0),.v (.slice zc 0 0),.v (.slice zc 0 0)],.blk 0 aD 68 [.v (.slice ag s.Aa.length ah),.v (.slice ai s.AE.length aj),.v (.slice ak s.Ad.length al)]],80,g.w.heap.size⟩ w:=ad.fit sc;obtain⟨aw,ax,ay,az,aA⟩:=av.BW;refine⟨(0+1,D,1,E,aw),zI (λz=>[zK .i64 z]) (wr1 C aO aP).symm,⟨C,GW.trans ab ax,rfl,?_,λa aB aC=>ay a aB (ab.2 _ aC).1,an.succ h aJ⟩,dec C,aA.fit sc⟩;rw[aK];exact az
    .cases A;have a6:¬g2.g bk:=aW _ rfl;refine zq ?_;intros;refine .inr (.inl ⟨bk,_,a0,⟨rfl,aL.1,aL.2,a1,af.1,af.2.2,a2,a3,a4,by unfold zAp;omega,sa⟩,λa7 a8 D E=>zq ?_⟩);intros
     refine λae w ad=>by
      have av:Ap ae ⟨a7,.row 70 D (q+1) E 104 4 (((CK (l.take k)).map cLi).flatten++cLi ⟨x,zb,0,zb⟩)::[.blk 5 am 44 [.v (.int .i64 0),.v (.int .i64 0),.v (.int .i64 0),.row 4 (O ⟨Y,0,zc⟩) N N,.sl 3 W 0 1 1,.v (.slice D (q+1) E),.v (.slice aG N cS),.v (.slice zc 0 0)],.row 4 (O ⟨Y,0,zc⟩) N N 3 1 (zAT N [zK .i64 0]).flatten,.blk 3 W 71 [.v (.slice L (qRA s).Aw.Aa.length P),.v (.slice Q (qRA s).Aw.AE.length R),.v (.slice T (qRA s).Aw.Ad.length U),.v (.slice oV nV H),.v (.bool zb)],.blk 2 aF 71 [.v (.slice L (qRA s).Aw.Aa.length P),.v (.slice Q (qRA s).Aw.AE.length R),.v (.slice T (qRA s).Aw.Ad.length U),.v (.slice oV nV H),.v (.bool zb)],.blk 1 aE 44 [.v (.int .i64 0),.v (.int .i64 0),.v (.int .i64 0),.v (.slice zc 0 0),.v (.slice zc 0 0),.v (.slice zc 0 0),.v (.slice zc 0 0),.v (.slice zc 0 0)],.blk 0 aD 68 [.v (.slice ag s.Aa.length ah),.v (.slice ai s.AE.length aj),.v (.slice ak s.Ad.length al)]],80,g.w.heap.size⟩ w:=ad.fit sc;obtain⟨aw,ax,ay,az,aA⟩:=av.BW;have aM:=a8.le ab a6;refine⟨(k+1,D,q+1,E,aw),zI (λz=>[zK .i64 z]) (wr1 C aO aP).symm,⟨C,GW.trans aM ax,sa,?_,λa aB aC=>ay a aB (aM.2 _ aC).1,an.succ h aJ⟩,dec C,aA.fit sc⟩;rw[aK];simpa using az
   have a9:k=l.length:=by have:=zf ap;omega
   subst a9;have ba:qyH s l N:=⟨aQ,aR,an.done (zH _)⟩;rw[zAX]at ao;refine zq ?_;intros;refine λbB bb bC bc=>zq ?_;intros;refine⟨5,rfl,by unfold zAp;omega,λbD aN bE bd=>zq ?_⟩;intros;intro g2 V;have mA:=GW.trans bb (GW.trans aN V);refine .inl ⟨ba,_,rfl,_,_,_,_,_,rfl,⟨show InR 0 by decide,show InR 0 by decide,show InR 0 by decide⟩,?_,?_,ao.mono q4A mA,bi.mono qPB (GW.trans ab mA),⟨zc,0,rfl,zH _,zJ _,λ_=>⟨rfl,rfl⟩,λi x h=>by simp[CJ]at h⟩⟩
   .exact(qOC bc.rd (zAT N 0) (λx=>.int .i64 x) (by simp[zC6]) λx h=>⟨rfl,by rw[zCR h];decide⟩).mono quA (GW.trans aN V)
   .refine qbK (bd.rd.mono V) [qRA s] [[.slice L (qRA s).Aw.Aa.length P,.slice Q (qRA s).Aw.AE.length R,.slice T (qRA s).Aw.Ad.length U,.slice oV nV H,.bool zb]] rfl (λe A=>?_) rfl rfl λi x aX h aq=>?_
    .simp at A;subst A;rfl
    .cases i with
     |zero=>
      simp at h aq;subst h;subst aq;exact quC _ _ _ _ (GW.trans aT (GW.trans ab mA)) bh
     |succ i=>simp at h
  .refine zq ?_;intros;refine⟨⟨sa,sa,sa,sa⟩,λ_=>zq ?_⟩;intros;rename_i Y W am;refine zw ?_;refine⟨Z×zy zAI×Z×Z×GW,λ(k,_,_,_,_)=>[.v (.int .i64 k)],λ(k,aa,q,ac,B)=>⟨B,[.blk 5 am 44 [.v (.int .i64 0),.v (.int .i64 0),.v (.int .i64 0),.row 3 (O ⟨Y,0,zc⟩) N N,.sl 4 W 0 1 1,.v (.slice aa q ac),.v (.slice aG N cS),.v (.slice zc 0 0)],.blk 4 W 71 [.v (.slice L (qRA s).Aw.Aa.length P),.v (.slice Q (qRA s).Aw.AE.length R),.v (.slice T (qRA s).Aw.Ad.length U),.v (.slice oV nV H),.v (.bool zb)],.row 3 (O ⟨Y,0,zc⟩) N N 3 1 (zAT N [zK .i64 0]).flatten,.blk 2 aF 71 [.v (.slice L (qRA s).Aw.Aa.length P),.v (.slice Q (qRA s).Aw.AE.length R),.v (.slice T (qRA s).Aw.Ad.length U),.v (.slice oV nV H),.v (.bool zb)],.blk 1 aE 44 [.v (.int .i64 0),.v (.int .i64 0),.v (.int .i64 0),.v (.slice zc 0 0),.v (.slice zc 0 0),.v (.slice zc 0 0),.v (.slice zc 0 0),.v (.slice zc 0 0)],.blk 0 aD 68 [.v (.slice ag s.Aa.length ah),.v (.slice ai s.AE.length aj),.v (.slice ak s.Ad.length al)]],20,g.w.heap.size⟩,λ(k,aa,q,ac,B)=>k<=l.length/\g2<=B/\q=k/\Br B g.w.heap.size 104 4 (.slice aa q ac) q ((CK (l.take k)).map cLi).flatten/\(∀a,aa=O a->¬g2.g a.block)/\Ek (Fa l) l k,λ(k,_,_,_,_)=>l.length-k,λae w ad=>⟨(0,zc,0,0,g2),rfl,⟨zJ _,GW.refl _,rfl,⟨rfl,.inl ⟨rfl,rfl⟩,λbu aU=>by cases aU⟩,(λa u=>by cases u),Ek.zero _ _⟩,ad.fit sc⟩,?_⟩;rintro⟨k,aa,q,ac,B⟩ ⟨bv,ab,bw,af,aW,an⟩;have bx:(CK (l.take k)).length=k:=by simp[CK];omega
   have ao:rSl 4 qeB B (.slice aa q ac) (CK (l.take k)):=q7C af.rd (CK (l.take k)) cLi rfl sa (λ_ _=>rfl) λx h=>by
    obtain⟨y,_,rfl⟩:=zU.1 h;exact⟨rfl,show InR 0 by decide⟩
   refine zq ?_;intros;refine⟨λap=>?_,λap=>?_⟩
   .have C:k<l.length:=by have:=zd ap;omega
    obtain⟨x,h⟩:=qEA C;obtain⟨a,rfl,aX,aq,rfl,aY⟩:=be k x h;have aH:Fa l k x=zb->¬qyH s l N:=λaZ u=>by have aI:=u.2.2;rw[qnB h aZ]at aI;cases aI
    refine zq ?_;intros;refine⟨a,rfl,⟨sa,sa⟩,zw ?_⟩;refine⟨_,(aY.mono (GW.trans bj ab)) 0 _ rfl,zq ?_⟩;intros;refine .inl ⟨_,qhH _ _,zq ?_⟩;intros;refine⟨λar=>?_,λar=>?_⟩
    .refine zq ?_;intros;intro g2 V;exact .inr ⟨aH (by unfold Fa;rw[nb1 ar];rfl),rfl⟩
    refine zq ?_;intros;refine .inl ⟨_,qIG _ ao _,zq ?_⟩;intros;refine⟨λau=>?_,λau=>?_⟩
    .refine zq ?_;intros;intro g2 V;exact .inr ⟨aH (by unfold Fa;rw[zT (by have:=zd au;omega)];simp),rfl⟩
    have aJ:Fa l k x=I:=by unfold Fa;rw[nb0 ar,zR (by have:=zf au;omega)];rfl
    have aK:=q1O h;rcases af.2.1 with⟨A,bz⟩|⟨bk,bA,a0,A,aL,a1,a2,a3,a4⟩
    .cases A;have a5:k=0:=sa
     subst a5;refine zq ?_;intros;refine⟨⟨by unfold zAp;omega,sa⟩,λD E=>zq ?_⟩;intros
     refine λae w ad=>by
      have av:Ap ae ⟨B,.row 70 D (1) E 104 4 (cLi ⟨x,zb,0,zb⟩)::[.blk 5 am 44 [.v (.int .i64 0),.v (.int .i64 0),.v (.int .i64 0),.row 3 (O ⟨Y,0,zc⟩) N N,.sl 4 W 0 1 1,.v (.slice D (1) E),.v (.slice aG N cS),.v (.slice zc 0 0)],.blk 4 W 71 [.v (.slice L (qRA s).Aw.Aa.length P),.v (.slice Q (qRA s).Aw.AE.length R),.v (.slice T (qRA s).Aw.Ad.length U),.v (.slice oV nV H),.v (.bool zb)],.row 3 (O ⟨Y,0,zc⟩) N N 3 1 (zAT N [zK .i64 0]).flatten,.blk 2 aF 71 [.v (.slice L (qRA s).Aw.Aa.length P),.v (.slice Q (qRA s).Aw.AE.length R),.v (.slice T (qRA s).Aw.Ad.length U),.v (.slice oV nV H),.v (.bool zb)],.blk 1 aE 44 [.v (.int .i64 0),.v (.int .i64 0),.v (.int .i64 0),.v (.slice zc 0 0),.v (.slice zc 0 0),.v (.slice zc 0 0),.v (.slice zc 0 0),.v (.slice zc 0 0)],.blk 0 aD 68 [.v (.slice ag s.Aa.length ah),.v (.slice ai s.AE.length aj),.v (.slice ak s.Ad.length al)]],80,g.w.heap.size⟩ w:=ad.fit sc;obtain⟨aw,ax,ay,az,aA⟩:=av.BW;refine⟨(0+1,D,1,E,aw),zI (λz=>[zK .i64 z]) (wr1 C aO aP).symm,⟨C,GW.trans ab ax,rfl,?_,λa aB aC=>ay a aB (ab.2 _ aC).1,an.succ h aJ⟩,dec C,aA.fit sc⟩;rw[aK];exact az
    .cases A;have a6:¬g2.g bk:=aW _ rfl;refine zq ?_;intros;refine .inr (.inl ⟨bk,_,a0,⟨rfl,aL.1,aL.2,a1,af.1,af.2.2,a2,a3,a4,by unfold zAp;omega,sa⟩,λa7 a8 D E=>zq ?_⟩);intros
     refine λae w ad=>by
      have av:Ap ae ⟨a7,.row 70 D (q+1) E 104 4 (((CK (l.take k)).map cLi).flatten++cLi ⟨x,zb,0,zb⟩)::[.blk 5 am 44 [.v (.int .i64 0),.v (.int .i64 0),.v (.int .i64 0),.row 3 (O ⟨Y,0,zc⟩) N N,.sl 4 W 0 1 1,.v (.slice D (q+1) E),.v (.slice aG N cS),.v (.slice zc 0 0)],.blk 4 W 71 [.v (.slice L (qRA s).Aw.Aa.length P),.v (.slice Q (qRA s).Aw.AE.length R),.v (.slice T (qRA s).Aw.Ad.length U),.v (.slice oV nV H),.v (.bool zb)],.row 3 (O ⟨Y,0,zc⟩) N N 3 1 (zAT N [zK .i64 0]).flatten,.blk 2 aF 71 [.v (.slice L (qRA s).Aw.Aa.length P),.v (.slice Q (qRA s).Aw.AE.length R),.v (.slice T (qRA s).Aw.Ad.length U),.v (.slice oV nV H),.v (.bool zb)],.blk 1 aE 44 [.v (.int .i64 0),.v (.int .i64 0),.v (.int .i64 0),.v (.slice zc 0 0),.v (.slice zc 0 0),.v (.slice zc 0 0),.v (.slice zc 0 0),.v (.slice zc 0 0)],.blk 0 aD 68 [.v (.slice ag s.Aa.length ah),.v (.slice ai s.AE.length aj),.v (.slice ak s.Ad.length al)]],80,g.w.heap.size⟩ w:=ad.fit sc;obtain⟨aw,ax,ay,az,aA⟩:=av.BW;have aM:=a8.le ab a6;refine⟨(k+1,D,q+1,E,aw),zI (λz=>[zK .i64 z]) (wr1 C aO aP).symm,⟨C,GW.trans aM ax,sa,?_,λa aB aC=>ay a aB (aM.2 _ aC).1,an.succ h aJ⟩,dec C,aA.fit sc⟩;rw[aK];simpa using az
   have a9:k=l.length:=by have:=zf ap;omega
   subst a9;have ba:qyH s l N:=⟨aQ,aR,an.done (zH _)⟩;rw[zAX]at ao;refine zq ?_;intros;refine λbB bb bC bc=>zq ?_;intros;refine⟨5,rfl,by unfold zAp;omega,λbD aN bE bd=>zq ?_⟩;intros;intro g2 V;have mA:=GW.trans bb (GW.trans aN V);refine .inl ⟨ba,_,rfl,_,_,_,_,_,rfl,⟨show InR 0 by decide,show InR 0 by decide,show InR 0 by decide⟩,?_,?_,ao.mono q4A mA,bi.mono qPB (GW.trans ab mA),⟨zc,0,rfl,zH _,zJ _,λ_=>⟨rfl,rfl⟩,λi x h=>by simp[CJ]at h⟩⟩
   .exact(qOC bc.rd (zAT N 0) (λx=>.int .i64 x) (by simp[zC6]) λx h=>⟨rfl,by rw[zCR h];decide⟩).mono quA (GW.trans aN V)
   .refine qbK (bd.rd.mono V) [qRA s] [[.slice L (qRA s).Aw.Aa.length P,.slice Q (qRA s).Aw.AE.length R,.slice T (qRA s).Aw.Ad.length U,.slice oV nV H,.bool zb]] rfl (λe A=>?_) rfl rfl λi x aX h aq=>?_
    .simp at A;subst A;rfl
    .cases i with
     |zero=>
      simp at h aq;subst h;subst aq;exact quC _ _ _ _ (GW.trans aT (GW.trans ab mA)) bh
     |succ i=>simp at h)
def qMa(g0 g)(B:g0<=g){cs}{x}(C:rEn g cs x):Ok Tryz.prog 257 [.agg ⟨[]⟩,.agg ⟨cs⟩] g λv g'=>∃h,v=.agg ⟨h⟩/\oEn wT I g' g0.w.heap.size (NEW g g') h x:=by
 obtain⟨⟨n,rfl,D,E,q⟩,u⟩:=C;obtain⟨H,L,rfl,Q,R,T,U⟩:=id q
 exact Ok.Aq hm noT 0 MK.2 (args:=[.v (.agg ⟨[]⟩),.v (.agg ⟨[.int .u64 x.head,.slice H x.next.length L,.int .i64 x.Ae]⟩)]) (by
  refine zq ?_;intros;refine .inr ((qHV g0 _ B q u).mono λv g1 V A=>?_);obtain⟨oV,W,rfl⟩:=qqA A;refine zq ?_;intros;intro g2 P
  exact⟨_,rfl,_,rfl,⟨D,E,u⟩,.inl (qrF (q5A qaB) P A)⟩)
def qJa(g0 g)(H:g0<=g){v}{l}(U:rSl 3 rEn g v l)(av:l.length<=1000000):Ok Tryz.prog 256 [v,.func (.func 257) #[] #[],.agg ⟨[]⟩] g λv' g'=>oSl 141 3 (oEn wT I) g' g0.w.heap.size (NEW g g') v' l:=by
 obtain⟨V,W,rfl,Y,aa,aw,ab⟩:=id U
 exact Ok.Aq hm noT 0 Mn.2 (args:=[.v (.slice V l.length W),.v (.func (.func 257) #[] #[]),.v (.agg ⟨[]⟩)]) (by
  refine zq ?_;intros;refine⟨⟨sa,sa,sa,sa⟩,λ_=>zq ?_⟩;intros;rename_i ac ad;refine zw ?_;refine⟨Z×F (F zg)×GW,λ(k,_,_)=>[.v (.int .i64 k)],λ(k,q,g')=>⟨g',[.row 1 (O ⟨ad,0,zc⟩) l.length l.length 141 3 (Ec q [.int .u64 0,.slice zc 0 0,.int .i64 0] (l.length-k)),.blk 0 ac 312 []],10,g.w.heap.size⟩,λ(k,q,g')=>k<=l.length/\g<=g'/\G0 3 (oEn wT I) g g' g0.w.heap.size q (l.take k),λ(k,_,_)=>l.length-k,λae w C=>⟨(0,[],g),rfl,⟨zJ _,GW.refl _,qzJ _ _ _⟩,C.fit ss⟩,?_⟩;rintro⟨k,q,g'⟩ ⟨af,h,hE⟩;have ag:=hE;obtain⟨_,⟨D,L⟩,_⟩:=ag;rw[zBe,zCb af]at D;refine zq ?_;intros;refine⟨λE=>?_,λE=>?_⟩
  .have u:k<l.length:=by have:=zd E;omega
   obtain⟨x,P⟩:=qEA u;obtain⟨ah,ai⟩:=ze.1 P;obtain⟨a,rfl,ec,ax,Q,aj⟩:=ab k x P;have ak:=Q;obtain⟨⟨ay,rfl,az,aA,⟨aB,aC,rfl,_⟩⟩,aD⟩:=Q;refine zq ?_;intros;refine⟨a,rfl,⟨sa,sa⟩,zw ?_⟩;refine⟨_,⟨rfl,aj.mono h⟩,zq ?_⟩;intros;refine⟨.of sd,?_⟩;refine .inr ((qMa g0 _ (GW.trans H h) (qMF _ _ _ _ h ak)).mono λv g1 A B=>?_);obtain⟨aE,rfl,B⟩:=B;have al:=B;obtain⟨aF,rfl,_,am⟩:=al;obtain⟨R,cW,rfl,_⟩:=q4Y am;have an:=quG (m:=l.length-k) (z:=[.int .u64 0,.slice zc 0 0,.int .i64 0]) L rfl;have ao:l.take (k+1)=l.take k++[x]:=by rw[zAo ah,ai]
   have ap:=qtG (m:=l.length-k) (z:=[.int .u64 0,.slice zc 0 0,.int .i64 0]) L rfl sa (ec:=[.int .u64 x.head,.slice R x.next.length cW,.int .i64 x.Ae]) rfl D.symm;refine zq ?_;intros;refine⟨⟨sa,sa⟩,zq ?_⟩;intros;refine⟨⟨by rw[an,D];simp;omega,sb⟩,zq ?_⟩;intros;refine λae w C=>⟨(k+1,q++[[.int .u64 x.head,.slice R x.next.length cW,.int .i64 x.Ae]],g1),zI (λz=>[zK .i64 z]) (wr1 u Y aa).symm,⟨u,GW.trans h A,by rw[ao];exact qLI qWJ h A hE rfl B⟩,dec u,C.fit ?_⟩;rw[show l.length-(k+1)=l.length-k-1 by omega];simp[AB,Res.eqv,qCA,Ag,<-ap]
  have aq:k=l.length:=by have:=zf E;omega
  subst aq;rw[zAX]at hE;refine zq ?_;intros;refine λg1 A ar T=>?_;rw[zCL,q6F]at T;refine zw ?_;intro g2 au
  exact qrF qWJ au (qMG qWJ hE h A (T.Gd H.1) rfl ar))
def qIV(g0 g)(A:g0<=g){cs}{x}(B:rGr g cs x)(C:BgG 1000000 x):Ok Tryz.prog 251 [.agg ⟨[]⟩,.agg ⟨cs⟩] g λv g'=>∃h,v=.agg ⟨h⟩/\oGr wT I g' g0.w.heap.size (NEW g g') h x:=by
 obtain⟨n,rfl,D,q⟩:=B;obtain⟨E,H,rfl,P,Q,R,T⟩:=id q
 exact Ok.Aq hm noT 0 MF.2 (args:=[.v (.agg ⟨[]⟩),.v (.agg ⟨[.int .u64 x.AF,.slice E x.ends.length H]⟩)]) (by
  refine zq ?_;intros;refine .inr ((qJa g0 _ A q C).mono λv g1 U u=>?_);obtain⟨oV,V,rfl⟩:=qqA u;refine zq ?_;intros;intro g2 L
  exact⟨_,rfl,_,rfl,D,qrF qWJ L u⟩)
def qEV(g0 g)(L:g0<=g){v}{l}(U:rSl 2 rGr g v l)(aw:l.length<=1000000)(V:∀y∈l,BgG 1000000 y):Ok Tryz.prog 250 [v,.func (.func 251) #[] #[],.agg ⟨[]⟩] g λv' g'=>oSl 139 2 (oGr wT I) g' g0.w.heap.size (NEW g g') v' l:=by
 obtain⟨W,Y,rfl,aa,ab,ax,ac⟩:=id U
 exact Ok.Aq hm noT 0 Ml.2 (args:=[.v (.slice W l.length Y),.v (.func (.func 251) #[] #[]),.v (.agg ⟨[]⟩)]) (by
  refine zq ?_;intros;refine⟨⟨sa,sa,sa,sa⟩,λ_=>zq ?_⟩;intros;rename_i ad ae;refine zw ?_;refine⟨Z×F (F zg)×GW,λ(k,_,_)=>[.v (.int .i64 k)],λ(k,q,g')=>⟨g',[.row 1 (O ⟨ae,0,zc⟩) l.length l.length 139 2 (Ec q [.int .u64 0,.slice zc 0 0] (l.length-k)),.blk 0 ad 312 []],10,g.w.heap.size⟩,λ(k,q,g')=>k<=l.length/\g<=g'/\G0 2 (oGr wT I) g g' g0.w.heap.size q (l.take k),λ(k,_,_)=>l.length-k,λaf w C=>⟨(0,[],g),rfl,⟨zJ _,GW.refl _,qzJ _ _ _⟩,C.fit ss⟩,?_⟩;rintro⟨k,q,g'⟩ ⟨ag,h,hE⟩;have ah:=hE;obtain⟨_,⟨D,P⟩,_⟩:=ah;rw[zBe,zCb ag]at D;refine zq ?_;intros;refine⟨λE=>?_,λE=>?_⟩
  .have u:k<l.length:=by have:=zd E;omega
   obtain⟨x,H⟩:=qEA u;obtain⟨ai,aj⟩:=ze.1 H;obtain⟨a,rfl,ec,ay,Q,ak⟩:=ac k x H;have al:=Q;obtain⟨az,rfl,aA,⟨aB,aC,rfl,_⟩⟩:=Q;refine zq ?_;intros;refine⟨a,rfl,⟨sa,sa⟩,zw ?_⟩;refine⟨_,⟨rfl,ak.mono h⟩,zq ?_⟩;intros;refine⟨.of sd,?_⟩;refine .inr ((qIV g0 _ (GW.trans L h) (qLF _ _ _ _ h al) (V x (zh H))).mono λv g1 A B=>?_);obtain⟨aD,rfl,B⟩:=B;have am:=B;obtain⟨aE,rfl,_,an⟩:=am;obtain⟨R,cW,rfl⟩:=qqA an;have ao:=quG (m:=l.length-k) (z:=[.int .u64 0,.slice zc 0 0]) P rfl;have ap:l.take (k+1)=l.take k++[x]:=by rw[zAo ai,aj]
   have aq:=qtG (m:=l.length-k) (z:=[.int .u64 0,.slice zc 0 0]) P rfl sa (ec:=[.int .u64 x.AF,.slice R x.ends.length cW]) rfl D.symm;refine zq ?_;intros;refine⟨⟨sa,sa⟩,zq ?_⟩;intros;refine⟨⟨by rw[ao,D];simp;omega,sb⟩,zq ?_⟩;intros;refine λaf w C=>⟨(k+1,q++[[.int .u64 x.AF,.slice R x.ends.length cW]],g1),zI (λz=>[zK .i64 z]) (wr1 u aa ab).symm,⟨u,GW.trans h A,by rw[ap];exact qLI qnK h A hE rfl B⟩,dec u,C.fit ?_⟩;rw[show l.length-(k+1)=l.length-k-1 by omega];simp[AB,Res.eqv,qCA,Ag,<-aq]
  have ar:k=l.length:=by have:=zf E;omega
  subst ar;rw[zAX]at hE;refine zq ?_;intros;refine λg1 A au T=>?_;rw[zCL,q6F]at T;refine zw ?_;intro g2 av
  exact qrF qnK av (qMG qnK hE h A (T.Gd L.1) rfl au))
def qRQ(g0 g)(h:g0<=g){cs}{x}(E:rVe g0 cs x)(q:BgV 1000000 x):Ok Tryz.prog 217 [.agg ⟨[]⟩,.agg ⟨cs⟩] g λv g'=>∃u,v=.agg ⟨u⟩/\oVe wT I g' g0.w.heap.size (NEW g g') u x:=by
 obtain⟨a,b,d,n,rfl,A,B⟩:=E;have H:=A;obtain⟨_,_,_,L,⟨P,Q,rfl,_⟩,⟨R,T,rfl,_⟩,⟨U,V,rfl,_⟩⟩:=A;cases L;obtain⟨W,Y,rfl,ab,ac,ad,ae⟩:=id B
 exact Ok.Aq hm noT 0 Mx.2 (args:=[.v (.agg ⟨[]⟩),.v (.agg ⟨[.slice P x.Aw.Aa.length Q,.slice R x.Aw.AE.length T,.slice U x.Aw.Ad.length V,.slice W x.Aj.length Y,.bool x.Ba]⟩)]) (by
  refine zq ?_;intros;refine .inr ((qEV g0 _ h (B.mono qLF h) q.1 q.2).mono λv g1 aa C=>?_);obtain⟨oV,af,rfl⟩:=qqA C;refine zq ?_;intros;intro g2 D
  exact⟨_,rfl,_,_,_,_,rfl,qlB _ _ _ _ (GW.K6 (GW.trans h (GW.trans aa D)) (zH _)) H,qrF qnK D C⟩)
def qQQ(g0 g)(C:g0<=g){v}{l}(ac:rSl 5 rVe g0 v l)(aC:l.length<=1000000)(ad:∀y∈l,BgV 1000000 y):Ok Tryz.prog 216 [v,.func (.func 217) #[] #[],.agg ⟨[]⟩] g λv' g'=>oSl 71 5 (oVe wT I) g' g0.w.heap.size (NEW g g') v' l:=by
 obtain⟨ae,af,rfl,ag,ah,aD,ai⟩:=id ac
 exact Ok.Aq hm noT 0 Mj.2 (args:=[.v (.slice ae l.length af),.v (.func (.func 217) #[] #[]),.v (.agg ⟨[]⟩)]) (by
  refine zq ?_;intros;refine⟨⟨sa,sa,sa,sa⟩,λ_=>zq ?_⟩;intros;rename_i aj ak;refine zw ?_;refine⟨Z×F (F zg)×GW,λ(k,_,_)=>[.v (.int .i64 k)],λ(k,h,g')=>⟨g',[.row 1 (O ⟨ak,0,zc⟩) l.length l.length 71 5 (Ec h [.slice zc 0 0,.slice zc 0 0,.slice zc 0 0,.slice zc 0 0,.bool zb] (l.length-k)),.blk 0 aj 312 []],10,g.w.heap.size⟩,λ(k,h,g')=>k<=l.length/\g<=g'/\G0 5 (oVe wT I) g g' g0.w.heap.size h (l.take k),λ(k,_,_)=>l.length-k,λal w D=>⟨(0,[],g),rfl,⟨zJ _,GW.refl _,qzJ _ _ _⟩,D.fit ss⟩,?_⟩;rintro⟨k,h,g'⟩ ⟨am,q,hE⟩;have an:=hE;obtain⟨_,⟨E,Q⟩,_⟩:=an;rw[zBe,zCb am]at E;refine zq ?_;intros;refine⟨λH=>?_,λH=>?_⟩
  .have u:k<l.length:=by have:=zd H;omega
   obtain⟨x,L⟩:=qEA u;obtain⟨ao,ap⟩:=ze.1 L;obtain⟨a,rfl,ec,aE,R,aq⟩:=ai k x L;have ar:=R;obtain⟨aF,aG,aH,aI,rfl,⟨_,_,_,P,⟨aJ,aK,rfl,_⟩,⟨aL,aM,rfl,_⟩,⟨aN,aO,rfl,_⟩⟩,⟨aP,aQ,rfl,_⟩⟩:=R;cases P;refine zq ?_;intros;refine⟨a,rfl,⟨sa,sa⟩,zw ?_⟩;refine⟨_,⟨rfl,aq.mono (GW.trans C q)⟩,zq ?_⟩;intros;refine⟨.of sd,?_⟩;refine .inr ((qRQ g0 _ (GW.trans C q) ar (ad x (zh L))).mono λv g1 A B=>?_);obtain⟨aR,rfl,B⟩:=B;have au:=B;obtain⟨aT,aU,aW,aX,rfl,⟨_,_,_,P,⟨T,U,rfl,_⟩,⟨V,cb2,rfl,_⟩,⟨W,Y,rfl,_⟩⟩,av⟩:=au;cases P;obtain⟨aa,cW,rfl⟩:=qqA av;have aw:=quG (m:=l.length-k) (z:=[.slice zc 0 0,.slice zc 0 0,.slice zc 0 0,.slice zc 0 0,.bool zb]) Q rfl;have ax:l.take (k+1)=l.take k++[x]:=by rw[zAo ao,ap]
   have ay:=qtG (m:=l.length-k) (z:=[.slice zc 0 0,.slice zc 0 0,.slice zc 0 0,.slice zc 0 0,.bool zb]) Q rfl sa (ec:=[.slice T x.Aw.Aa.length U,.slice V x.Aw.AE.length cb2,.slice W x.Aw.Ad.length Y,.slice aa x.Aj.length cW,.bool x.Ba]) rfl E.symm;refine zq ?_;intros;refine⟨⟨sa,sa⟩,zq ?_⟩;intros;refine⟨⟨by rw[aw,E];simp;omega,sb⟩,zq ?_⟩;intros;refine λal w D=>⟨(k+1,h++[[.slice T x.Aw.Aa.length U,.slice V x.Aw.AE.length cb2,.slice W x.Aw.Ad.length Y,.slice aa x.Aj.length cW,.bool x.Ba]],g1),zI (λz=>[zK .i64 z]) (wr1 u ag ah).symm,⟨u,GW.trans q A,by rw[ax];exact qLI qJG q A hE rfl B⟩,dec u,D.fit ?_⟩;rw[show l.length-(k+1)=l.length-k-1 by omega];simp[AB,Res.eqv,qCA,Ag,<-ay]
  have az:k=l.length:=by have:=zf H;omega
  subst az;rw[zAX]at hE;refine zq ?_;intros;refine λg1 A aA ab=>?_;rw[zCL,q6F]at ab;refine zw ?_;intro g2 aB
  exact qrF qJG aB (qMG qJG hE q A (ab.Gd C.1) rfl aA))
def qLa(g0 g)(u:g0<=g){v}{x}(h:rSl 1 Gu g v x)(A:x.length<=17592186044416):Ok Tryz.prog 220 [.agg ⟨[]⟩,v] g λv' g'=>oSl 52 1 (oLf Gu) g' g0.w.heap.size (NEW g g') v' x:=by
 obtain⟨B,C,rfl,E,H,L,P⟩:=id h
 exact Ok.Aq hm noT 0 MJ.2 (args:=[.v (.agg ⟨[]⟩),.v (.slice B x.length C)]) (by
  refine zq ?_;intros;refine .inr ((KR g0 _ u h A).mono λv g1 Q q=>?_);obtain⟨oV,R,rfl⟩:=qqA q;refine zq ?_;intros;intro g2 D
  exact qrF (q5A qwG) D q)
def qIa(g0 g)(H:g0<=g){v}{l}(V:rSl 1 Fy g v l)(av:l.length<=1000000)(W:∀y∈l,y.length<=1000000):Ok Tryz.prog 219 [v,.func (.func 220) #[] #[],.agg ⟨[]⟩] g λv' g'=>oSl 213 1 (oRo wT) g' g0.w.heap.size (NEW g g') v' l:=by
 obtain⟨Y,aa,rfl,ab,ac,aw,ad⟩:=id V
 exact Ok.Aq hm noT 0 Mm.2 (args:=[.v (.slice Y l.length aa),.v (.func (.func 220) #[] #[]),.v (.agg ⟨[]⟩)]) (by
  refine zq ?_;intros;refine⟨⟨sa,sa,sa,sa⟩,λ_=>zq ?_⟩;intros;rename_i ae af;refine zw ?_;refine⟨Z×F (F zg)×GW,λ(k,_,_)=>[.v (.int .i64 k)],λ(k,q,g')=>⟨g',[.row 1 (O ⟨af,0,zc⟩) l.length l.length 213 1 (Ec q [.slice zc 0 0] (l.length-k)),.blk 0 ae 312 []],10,g.w.heap.size⟩,λ(k,q,g')=>k<=l.length/\g<=g'/\G0 1 (oRo wT) g g' g0.w.heap.size q (l.take k),λ(k,_,_)=>l.length-k,λag w B=>⟨(0,[],g),rfl,⟨zJ _,GW.refl _,qzJ _ _ _⟩,B.fit ss⟩,?_⟩;rintro⟨k,q,g'⟩ ⟨ah,h,hE⟩;have ai:=hE;obtain⟨_,⟨C,L⟩,_⟩:=ai;rw[zBe,zCb ah]at C;refine zq ?_;intros;refine⟨λD=>?_,λD=>?_⟩
  .have u:k<l.length:=by have:=zd D;omega
   obtain⟨x,E⟩:=qEA u;obtain⟨aj,ak⟩:=ze.1 E;obtain⟨a,rfl,ec,ax,P,al⟩:=ad k x E;have ay:=P;obtain⟨az,rfl,Q⟩:=P;have am:=Q;obtain⟨aA,aB,rfl,_⟩:=Q;refine zq ?_;intros;refine⟨a,rfl,⟨sa,sa⟩,zw ?_⟩;refine⟨_,al.mono h 0 _ rfl,zq ?_⟩;intros;refine⟨.of sd,?_⟩;refine .inr ((qLa g0 _ (GW.trans H h) (am.mono qaK h) (by have:=W x (zh E);omega)).mono λv g1 A R=>?_);obtain⟨T,cW,rfl⟩:=qqA R;have an:=quG (m:=l.length-k) (z:=[.slice zc 0 0]) L rfl;have ao:l.take (k+1)=l.take k++[x]:=by rw[zAo aj,ak]
   have ap:=qtG (m:=l.length-k) (z:=[.slice zc 0 0]) L rfl sa (ec:=[.slice T x.length cW]) rfl C.symm;refine zq ?_;intros;refine⟨⟨sa,sa⟩,zq ?_⟩;intros;refine⟨⟨by rw[an,C];simp;omega,sb⟩,zq ?_⟩;intros;refine λag w B=>⟨(k+1,q++[[.slice T x.length cW]],g1),zI (λz=>[zK .i64 z]) (wr1 u ab ac).symm,⟨u,GW.trans h A,by rw[ao];exact qLI qKG h A hE rfl ⟨_,rfl,R⟩⟩,dec u,B.fit ?_⟩;rw[show l.length-(k+1)=l.length-k-1 by omega];simp[AB,Res.eqv,qCA,Ag,<-ap]
  have aq:k=l.length:=by have:=zf D;omega
  subst aq;rw[zAX]at hE;refine zq ?_;intros;refine λg1 A ar U=>?_;rw[zCL,q6F]at U;refine zw ?_;intro g2 au
  exact qrF qKG au (qMG qKG hE h A (U.Gd H.1) rfl ar))
def q0d(g:GW)(w:Wd)(v:zg)(g':GW):Prop:=∃cs h,v=.agg ⟨cs⟩/\oWo wT I g' g.w.heap.size h cs w
def T5(g1 g2 g3 h q u:GW):Z->Z->Prop:=λi n=>match i with
 |0=>NEW g1 g2 n
 |1=>NEW g2 g3 n
 |2=>NEW g3 h n
 |3=>NEW h q n
 |4=>NEW q u n
 |_=>zX
def qWb{g1 g2 g3 u C E}(L:g1<=g2)(D:g2<=g3)(A:g3<=u)(B:u<=C)(i j n)(p:T5 g1 g2 g3 u C E i n)(q:T5 g1 g2 g3 u C E j n):i=j:=by
 have e3:=GW.trans D A;have e4:=GW.trans e3 B;have H:=GW.trans A B;have h:∀{a b c d:GW},b<=c->NEW a b n->NEW c d n->zX:=λk p q=>q.2 (k.2 n p.1).1
 match i,j,p,q with
 |0,0,_,_=>rfl
 |1,1,_,_=>rfl
 |2,2,_,_=>rfl
 |3,3,_,_=>rfl
 |4,4,_,_=>rfl
 |0,1,p,q=>exact(h (GW.refl _) p q).elim
 |0,2,p,q=>exact(h D p q).elim
 |0,3,p,q=>exact(h e3 p q).elim
 |0,4,p,q=>exact(h e4 p q).elim
 |1,2,p,q=>exact(h (GW.refl _) p q).elim
 |1,3,p,q=>exact(h A p q).elim
 |1,4,p,q=>exact(h H p q).elim
 |2,3,p,q=>exact(h (GW.refl _) p q).elim
 |2,4,p,q=>exact(h B p q).elim
 |3,4,p,q=>exact(h (GW.refl _) p q).elim
 |1,0,p,q=>exact(h (GW.refl _) q p).elim
 |2,0,p,q=>exact(h D q p).elim
 |3,0,p,q=>exact(h e3 q p).elim
 |4,0,p,q=>exact(h e4 q p).elim
 |2,1,p,q=>exact(h (GW.refl _) q p).elim
 |3,1,p,q=>exact(h A q p).elim
 |4,1,p,q=>exact(h H q p).elim
 |3,2,p,q=>exact(h (GW.refl _) q p).elim
 |4,2,p,q=>exact(h B q p).elim
 |4,3,p,q=>exact(h (GW.refl _) q p).elim
 |_+5,_,p,_=>exact p.elim
 |_,_+5,_,q=>exact q.elim
def qSA(g){cs}{w}(ad:rWo g cs w)(ae:BgW 1000000 w):Ok Tryz.prog 171 [.agg ⟨cs⟩] g (q0d g w):=by
 obtain⟨a,b,c,d,e,rfl,⟨af,ag,ah⟩,D,E,H,L,P⟩:=ad;obtain⟨⟨z1,ai,aj,ak,al⟩,am,an⟩:=ae;obtain⟨ao,ap,rfl,aI,aJ,aK,aL⟩:=id D;obtain⟨aq,ar,rfl,aM,aN,aO,aP⟩:=id E;obtain⟨au,av,rfl,c1,c2,aQ,aR⟩:=id H;obtain⟨aw,ax,rfl,d1,d2,aT,aU⟩:=id L;obtain⟨ay,az,rfl,e1,e2,aW,aX⟩:=id P
 exact Ok.Aq hm noT 0 Nq.2 (args:=[.v (.agg ⟨wQ w ao ap aq ar au av aw ax ay az⟩)]) (by
  refine zq ?_;intros;refine .inr ((qHV g _ (GW.refl _) D sa).mono λaY aA h Q=>?_);obtain⟨aZ,a0,rfl⟩:=qqA Q;refine zq ?_;intros;refine .inr ((qQQ g _ h E ai an).mono λa1 aB q R=>?_);obtain⟨a2,a3,rfl⟩:=qqA R;have u:=GW.trans h q;refine zq ?_;intros;refine .inr ((q6c g _ u (H.mono q4A u) aj).mono λv3 aC A T=>?_);obtain⟨a4,a5,rfl⟩:=qqA T;have B:=GW.trans u A;refine zq ?_;intros;refine .inr ((qIa g _ B (L.mono qPB B) ak am).mono λa6 aD C U=>?_);obtain⟨a7,a8,rfl⟩:=qqA U;have V:=GW.trans B C;refine zq ?_;intros;refine .inr ((q5c g _ V (P.mono qEB V) al).mono λa9 aE aF W=>?_);obtain⟨ba,bb,rfl⟩:=qqA W;refine zq ?_;intros;intro g2 aG;have Y:=aG;have aa:=GW.trans aF Y;have ab:=GW.trans C aa;have ac:=GW.trans A ab;have aH:=GW.trans q ac
  exact⟨_,T5 g aA aB aC aD aE,rfl,_,_,_,_,_,rfl,⟨af,ag,ah⟩,qWb h q A C,qvA (q5A qaB) (GW.D9 aH _ _) Q,qvA qJG (GW.D9 ac _ _) R,qvA (q5A q8A) (GW.D9 ab _ _) T,qvA qKG (GW.D9 aa _ _) U,qvA (q5A qtA) (GW.D9 Y _ _) W⟩)


def qkC{g}{cs}{s}(h:qDI g cs s):∃oa ca q u A B,cs=[.slice oa s.Aa.length ca,.slice q s.AE.length u,.slice A s.Ad.length B]:=by
 obtain⟨a,b,d,rfl,⟨oa,ca,rfl,_⟩,⟨q,u,rfl,_⟩,⟨C,D,rfl,_⟩⟩:=h;exact⟨_,_,_,_,_,_,rfl⟩
def q6Y{s}{l}{t}{v}{g}(h:LB s l t v g)(k:qyH s l t):∃cs,v=.tuple #[.agg ⟨cs⟩,.int .i64 0]/\rWo g cs (CJ s l t.toNat):=by
 rcases h with⟨_,h⟩|⟨h,_⟩
 .exact h
 .exact absurd k h
def q6U(g){w}(q:InU w):OkV Tryz.prog 222 [.int .u64 w] g (.int .u32 (FO w)):=
 Ok.Aq hm noT 0 Og.2 (args:=[.v (.int .u64 w)]) (by
  refine zq ?_;intros;refine⟨sb,zq ?_⟩;intros;intro g2 u
  have h:0<=FO w/\FO w<4294967296:=by
   unfold FO;obtain⟨a,b⟩:=q;constructor<;>omega
  have e2:w.fdiv (2^min (Int.toNat 32) zBP.bits)=FO w:=by
   rw[show(2:zt)^min (Int.toNat 32) zBP.bits=4294967296 by decide,Int.fdiv_eq_ediv_of_nonneg _ sb];rfl
  rw[e2,IntKind.wrap_u32,zCG h.1 h.2])
def qpR(g){w i}(h:InU w)(B:-1<=i/\i<=2147483646):OkV Tryz.prog 173 [.int .u64 w,.int .i64 i] g (.tuple #[.int .u64 (qxB w i),.int .i64 0]):=
 Ok.Aq hm noT 0 M7.2 (args:=[.v (.int .u64 w),.v (.int .i64 i)]) (by
  have q:=zBR (FO w+1) (show(4294967296:zt)≠0 by decide);have u:=zBD (FO w+1) (show(0:zt)<4294967296 by decide);have A:q6C i=I:=by unfold q6C;simp;omega
  refine zq ?_;intros;refine .inl ⟨_,q6U _ h,zq ?_⟩;intros;refine .inl ⟨_,(qJN _ (t:=IntKind.u32.wrap (FO w+1)) (i:=i) (by rw[IntKind.wrap_u32];exact⟨q,u⟩) si),zq ?_⟩;intros;intro g2 C
  rw[A,IntKind.wrap_u32];rfl)

def qyD(g)(i n):OkV Tryz.prog 200 [.int .i64 i,.int .i64 n] g (.bool (inB i n)):=
 Ok.Aq hm noT 0 Oj.2 (args:=[.v (.int .i64 i),.v (.int .i64 n)]) (by
  refine zq ?_;intros;refine⟨λh=>?_,λh=>?_⟩
  .refine zq ?_;intros;intro g2 q;unfold inB;rw[h];rfl
  .refine zq ?_;intros;intro g2 q
   unfold inB;rw[h];rfl)
def qUA(g){cs ac}{w}{m:Ah}(ad:rWo g cs w)(hM:qdA g ac m)(ag:SnW w)(ah:BgW 1000000 w):OkV Tryz.prog 169 [.agg ⟨cs⟩,.agg ⟨ac⟩] g (.bool (qzA w m)):=by
 have ai:=ad;obtain⟨a,b,c,d,e,rfl,⟨a0,a1,a2⟩,aj,ak,al,am,an⟩:=ad;obtain⟨ao,ap,rfl,a3,a4,a5,a6⟩:=id aj;obtain⟨aq,ar,rfl,a7,a8,a9,au⟩:=id ak;obtain⟨av,aw,rfl,c1,c2,ba,bb⟩:=id al;obtain⟨ax,ay,rfl,d1,d2,bc,bd⟩:=id am;obtain⟨az,aA,rfl,e1,e2,be,bf⟩:=id an;obtain⟨bh,bi,bj,rfl,aB,_,⟨_,_,_,aC,⟨aD,aE,rfl,_⟩,⟨aF,aG,rfl,_⟩,⟨aH,aI,rfl,_⟩⟩⟩:=hM;cases aC;have bl:=ah.1.2.2.1
 exact Ok.Aq hm noT 0 N0.2 (args:=[.v (.agg ⟨wQ w ao ap aq ar av aw ax ay az aA⟩),.v (.agg ⟨mQ m aD aE aF aG aH aI⟩)]) (by
  refine zq ?_;intros;refine .inl ⟨_,q5U _ ai ag,zq ?_⟩;intros;refine⟨λz1=>?_,λz1=>?_⟩
  .refine zq ?_;intros;intro g2 q;rw[qwD λ⟨v,A,u,h⟩=>by rw[h.right]at z1;cases z1]
  refine zq ?_;intros;refine .inl ⟨_,qyD _ _ _,zq ?_⟩;intros;refine⟨λH=>?_,λH=>?_⟩
  .refine zq ?_;intros;intro g2 q;rw[qwD λ⟨v,A,u,h⟩=>by rw[B7.2 h.Al]at H;cases H]
  refine zq ?_;intros;refine⟨λL=>?_,λL=>?_⟩
  .refine zq ?_;intros;intro g2 q;rw[qwD λ⟨v,A,u,h⟩=>by rw[h.done]at L;cases L]
  refine zq ?_;intros;refine .inl ⟨_,qyD _ _ _,zq ?_⟩;intros;refine⟨λP=>?_,λP=>?_⟩
  .refine zq ?_;intros;intro g2 q
   rw[qwD λ⟨v,A,u,h⟩=>by
    have:=(ze.1 h.ver.2).1
    rw[B7.2 ⟨h.ver.1,by have:=h.ver.1;omega⟩]at P;cases P]
  have aJ:=B7.1 (nb0 P);obtain⟨v,B⟩:=qEA (l:=w.Ab) (i:=m.Ac.toNat) sa;obtain⟨aV,rfl,bm,bn,⟨bo,bp,bq,br,rfl,bt,aK⟩,aL⟩:=au _ v B;obtain⟨bu,bv,rfl,g1,g2,bw,aM⟩:=id aK;refine zq ?_;intros;refine⟨aV,rfl,⟨sa,sa⟩,zw ?_⟩;refine⟨_,aL 3 _ rfl,zq ?_⟩;intros;refine .inl ⟨_,qyD _ _ _,zq ?_⟩;intros;refine⟨λQ=>?_,λQ=>?_⟩
  .refine zq ?_;intros;intro g2 q
   rw[qwD λ⟨C,A,u,h⟩=>by
    have:=h.ver.2;rw[B]at this;cases this;have:=(ze.1 h.clu.2).1
    rw[B7.2 ⟨h.clu.1,by have:=h.clu.1;omega⟩]at Q;cases Q]
  have aN:=B7.1 (nb0 Q);obtain⟨A,D⟩:=qEA (l:=v.Aj) (i:=m.Af.toNat) sa;obtain⟨aO,rfl,bx,bz,⟨bA,rfl,_,hE⟩,aP⟩:=aM _ A D;obtain⟨bB,bC,rfl,bD,bE,bF,aQ⟩:=id hE;refine zq ?_;intros;refine⟨aO,rfl,⟨sa,sa⟩,zw ?_⟩;refine⟨_,aP 1 _ rfl,zq ?_⟩;intros;refine .inl ⟨_,qyD _ _ _,zq ?_⟩;intros;refine⟨λR=>?_,λR=>?_⟩
  .refine zq ?_;intros;intro g2 q
   rw[qwD λ⟨C,E,u,h⟩=>by
    have:=h.ver.2;rw[B]at this;cases this;have:=h.clu.2;rw[D]at this;cases this;have:=(ze.1 h.Ak.2).1
    rw[B7.2 ⟨h.Ak.1,by have:=h.Ak.1;omega⟩]at R;cases R]
  have k6:=B7.1 (nb0 R);refine zq ?_;intros;refine .inl ⟨_,qyD _ _ _,zq ?_⟩;intros;refine⟨λT=>?_,λT=>?_⟩
  .refine zq ?_;intros;intro g2 q
   rw[qwD λ⟨C,E,u,h⟩=>by
    have:=h.ver.2;rw[B]at this;cases this;have:=h.clu.2;rw[D]at this;cases this
    rw[B7.2 h.other]at T;cases T]
  have aR:=B7.1 (nb0 T);obtain⟨u,Y⟩:=qEA (l:=A.ends) (i:=m.Ak.toNat) sa;obtain⟨aT,rfl,bG,bH,⟨⟨bI,rfl,_,_,aU⟩,_⟩,aW⟩:=aQ _ u Y;obtain⟨bJ,bK,rfl,bL,bM,bN,bO⟩:=id aU;refine zq ?_;intros;refine⟨aT,rfl,⟨sa,sa⟩,zw ?_⟩;refine⟨_,aW 1 _ rfl,zq ?_⟩;intros;refine .inl ⟨_,qyD _ _ _,zq ?_⟩;intros;refine⟨λU=>?_,λU=>?_⟩
  .refine zq ?_;intros;intro g2 q
   rw[qwD λ⟨C,E,aa,h⟩=>by
    have:=h.ver.2;rw[B]at this;cases this;have:=h.clu.2;rw[D]at this;cases this;have:=h.Ak.2;rw[Y]at this;cases this
    rw[B7.2 h.slot]at U;cases U]
  have aX:=B7.1 (nb0 U);have ae:zAj.wrap ((w.Aa.length:zt)+1)=(w.Aa.length:zt)+1:=wr si;have af:=aB.listen
  have bP:(zAj.wrap (m.listen+1)=m.listen+1\/zAj.wrap (m.listen+1)<0):=by
   rcases Int.lt_or_le m.listen 9223372036854775807 with h|h
   .exact .inl (wr (by unfold InR at af⊢;omega))
   .obtain h:m.listen=9223372036854775807:=by unfold InR at af;omega
    rw[h];exact .inr sb
  refine zq ?_;intros;refine .inl ⟨_,qyD _ _ _,zq ?_⟩;intros;refine⟨λV=>?_,λV=>?_⟩
  case' refine_2=>
   refine zq ?_;intros;intro g2 q
   rw[qwD λ⟨C,E,aa,h⟩=>by
    rw[B7.2 (by rw[ae,wr (by have:=h.listen;unfold InR;omega)];have:=h.listen;omega)]at V;cases V]
  have aY:=B7.1 V;rw[ae]at aY;refine zq ?_;intros;refine⟨λab=>?_,λab=>?_⟩
  case' refine_2=>
   refine zq ?_;intros;intro g2 q;have:=zf ab;rw[qwD λ⟨C,E,aa,h⟩=>by have:=h.i;omega]
  have aZ:=zd ab;refine zq ?_;intros;intro g2 q;by_cases W:0<=m.k
  .rw[zR W,Am.2 ⟨v,A,u,⟨nb0 z1,B7.1 (nb0 H),L,⟨aJ.1,B⟩,⟨aN.1,D⟩,⟨k6.1,Y⟩,aR,aX,⟨sa,sa⟩,aZ,W⟩⟩]
  .rw[zT W,qwD λ⟨C,E,aa,h⟩=>W h.k])


def Md(w:Wd)(m:Ah)(v:zg)(g':GW):Prop:=∃cs,v=.tuple #[.agg ⟨cs⟩,.agg ⟨(HC w m).cs⟩]/\rWo g' cs (GZ w m)
def q8c(g){cs u}{w}{m:Ah}(A:rWo g cs w)(hM:qdA g u m)(Y:SnW w)(B:BgW 1000000 w):Ok Tryz.prog 249 [.agg ⟨cs⟩,.agg ⟨u⟩] g (Md w m):=by
 have h:=A;have aa:=hM;obtain⟨a,b,c,d,e,rfl,⟨aU,aW,aX⟩,ab,ac,ad,ae,af⟩:=A;obtain⟨C,D,rfl,aY,aZ,a0,a1⟩:=id ab;obtain⟨E,H,rfl,a2,a3,a4,a5⟩:=id ac;obtain⟨L,P,rfl,c1,c2,a6,a7⟩:=id ad;obtain⟨Q,R,rfl,d1,d2,a8,a9⟩:=id ae;obtain⟨T,U,rfl,e1,e2,ba,bb⟩:=id af;obtain⟨bc,bd,be,rfl,bf,_,⟨_,_,_,ag,⟨ah,ai,rfl,_⟩,⟨aj,ak,rfl,_⟩,⟨al,am,rfl,_⟩⟩⟩:=hM;cases ag
 exact Ok.Aq hm noT 0 Oi.2 (args:=[.v (.agg ⟨wQ w C D E H L P Q R T U⟩),.v (.agg ⟨mQ m ah ai aj ak al am⟩)]) (by
  refine zq ?_;intros;refine .inl ⟨_,qUA _ h aa Y B,zq ?_⟩;intros;refine⟨λz1=>?_,λz1=>?_⟩
  .refine zq ?_;intros;intro g2 q;have V:=nb1 z1;refine⟨(wQ w C D E H L P Q R T U),?_,?_⟩
   .rw[HC,V,zj se];rfl
   .rw[GZ,V,zj se];exact qBA _ _ _ _ q h
  have hs:=nb0 z1;obtain⟨bh,bi,bj,an⟩:=Am.1 hs;have bl:=an.Al;obtain⟨x,ao⟩:=qEA (l:=w.pins) (i:=m.Al.toNat) sa;refine zq ?_;intros;refine .inr ((qSA _ h B).mono λv g1 bm ap=>?_);obtain⟨cs,bn,rfl,W⟩:=ap;have aq:=W;obtain⟨p,bo,r,s,t,rfl,_,_,ar,au,av,aw,ax⟩:=aq;obtain⟨bp,ay,rfl⟩:=qqA ar;obtain⟨az,aA,rfl⟩:=qqA au;obtain⟨aB,aC,rfl⟩:=qqA av;obtain⟨aD,aE,rfl⟩:=qqA aw;obtain⟨aF,aG,rfl⟩:=qqA ax;obtain⟨bk,cap,aH,bq,br,aI,aJ,⟨aK,aL,aM,aN,aO⟩,_,aP⟩:=qQV W ao (x':=0) sb;cases aH;cases aK;refine zq ?_;intros;refine⟨_,rfl,⟨sa,sa⟩,zq ?_⟩;intros;refine⟨bk,m.Al.toNat,aI,aJ,⟨by simp[qoA],aL,aM,aN,aO⟩,zq ?_⟩;intros;refine λaQ aR=>?_;have aT:=qbA (aP aQ aR);refine zq ?_;intros;intro g2 q;refine⟨[.int .i64 w.Ai,.int .i64 w.current,.int .i64 w.AL,.slice (O ⟨bk,0,zc⟩) w.pins.length ay,.slice az w.Ab.length aA,.slice aB w.Aa.length aC,.slice aD w.counts.length aE,.slice aF w.An.length aG],?_,?_⟩
  .rw[HC,hs,zk rfl];rfl
  .rw[GZ,hs,zk rfl];exact qBA _ _ _ _ q aT)

def qNY(s)(l h p):∃c e:zt,qoL s l h p=.tuple #[.int .i64 c,.int .i64 e]/\((e=0/\q4D s l h p=O c)\/(e≠0/\q4D s l h p=zc)):=by
 unfold qoL q4D;split
 .exact⟨_,_,rfl,.inr ⟨sb,rfl⟩⟩
 .cases q:qrN (Es (Cz (BM (λx=>bs x==bs l) s.Aa)) h p) s.AE with
  |none=>exact⟨_,_,rfl,.inr ⟨sb,rfl⟩⟩
  |some j=>
   obtain⟨r,u,A,_⟩:=Eu.1 q;exact⟨_,_,rfl,.inl ⟨rfl,by simp[u]⟩⟩
def qUC(c:AW)(k:Z):F zt:=((zA8 k).filter λi=>(c.Az[i]?).getD zb).map λ(i:Z)=>(i:zt)
def qNT{c}{k}{b}(h:c.Az[k]?=O b):qUC c (k+1)=if b then qUC c k++[(k:zt)]else qUC c k:=by
 unfold qUC;rw[zDc,List.filter_append,zBE];cases b<;>simp[h]
def q8O(c)(k):(qUC c k).length<=k:=by
 unfold qUC;rw[zBa];exact zY (List.length_filter_le _ _) se
def qnQ(c)(k)(q:k<=17592186044416):∀x∈qUC c k,InR x:=by
 intro x h;unfold qUC at h;simp only[zU,zAZ,zCZ]at h;obtain⟨i,⟨u,_⟩,rfl⟩:=h;unfold InR;omega
def tHe:F (Z×FnI):=[(117,Ey.1),(146,DI.1)]
def qsb:q6B Tryz.prog tHe:=by
 intro x h;simp only[tHe,zs,zC,zAt]at h;rcases h with rfl|rfl
 .exact⟨_,_,Ey.2⟩
 .exact⟨_,_,DI.2⟩
def qdP:∀l:F zt,JP l=(l.map λx=>[zK .i64 x]).flatten
 |[]=>rfl
 |x::r=>zI (zK .i64 x::·) (qdP r)
def HeP(c:AW)(v:zg)(g':GW):Prop:=∃h cap,v=.slice h (qFA c).length cap/\rSl 1 BX g' (.slice h (qFA c).length cap) (qFA c)
def qyG(g){cs}{c}(U:qTC g cs c)(V:c.Az.length<=17592186044416):Ok Tryz.prog 77 [.agg ⟨cs⟩] g (HeP c):=by
 obtain⟨ak,rfl,al,am,W⟩:=U;obtain⟨C,D,rfl,L,P,an,Y⟩:=id W
 exact Ok.Aq hm qsb 2 MX.2 (args:=[.v (.agg ⟨[.string c.name,.int .i64 c.AY,.int .i64 c.As,.slice C c.Az.length D]⟩)]) (by
  refine zq ?_;intros;refine⟨kF,λlp aa=>zq ?_⟩;intros;rename_i ab ac ad;refine zw ?_;refine⟨Z×zy zAI×Z,λ(k,_,_)=>[.v (.int .i64 k)],λ(k,u,A)=>⟨g,[.row 7 u (qUC c k).length A 3 1 (JP (qUC c k)),.lp 3 lp aa .ready,.blk 2 ad 151 [.v (.string c.name),.v (.int .i64 c.AY),.v (.int .i64 c.As),.v (.slice C c.Az.length D)],.blk 1 ac 29 [.row 7 u (qUC c k).length A],.blk 0 ab 151 [.v (.string c.name),.v (.int .i64 c.AY),.v (.int .i64 c.As),.v (.slice C c.Az.length D)]],40,g.w.heap.size⟩,λ(k,_,_)=>k<=c.Az.length,λ(k,_,_)=>c.Az.length-k,?_,?_⟩
  .intro Q w q;exact⟨(0,zc,0),rfl,zJ _,(q.DK (nx':=40) 7 3 1).fit (by simp[AB,Res.eqv,qCA,Ag,qUC])⟩
  rintro⟨k,u,A⟩ R;have R:k<=c.Az.length:=R;have ao:=q8O c k;refine zw ?_;refine⟨λE=>?_,λE=>?_⟩
  .have h:k<c.Az.length:=by have:=zd E;omega
   obtain⟨x,B⟩:=qEA h;obtain⟨a,rfl,ap,aq,rfl,ae⟩:=Y k x B;have T:=qNT B;refine zq ?_;intros;refine⟨a,rfl,⟨sa,sa⟩,zq ?_⟩;intros;refine⟨_,ae 0 _ rfl,zq ?_⟩;intros;refine⟨λH=>?_,λH=>?_⟩
   .subst H;refine zq ?_;intros;refine⟨⟨by unfold zAp;omega,sa⟩,λaf ag=>zq ?_⟩;intros;refine λQ w q=>⟨(k+1,af,ag),zI (λz=>[zK .i64 z]) (wr1 h L P).symm,h,dec h,q.fit ?_⟩;simp only[T,zBA];simp[AB,Res.eqv,qCA,Ag]
   .subst H;refine zq ?_;intros;refine λQ w q=>⟨(k+1,u,A),zI (λz=>[zK .i64 z]) (wr1 h L P).symm,h,dec h,q.fit ?_⟩;simp only[T];simp[AB,Res.eqv,qCA,Ag]
  have ah:k=c.Az.length:=by have:=zf E;omega
  subst ah;refine zq ?_;intros;refine λg1 ar au ai=>zw ?_;intro g2 aj;refine⟨_,_,rfl,?_⟩
  exact((q7C ai.rd (qFA c) (λx=>[zK .i64 x]) (qdP _) rfl (λ_ _=>rfl) λx B=>⟨rfl,qnQ c _ V x B⟩).mono quA aj))
def qyK(c)(h:c.Az.length<=17592186044416):(qFA c).length<=17592186044416:=zY (qmQ c) h
def qgb{t n}(h:InU t)(q:0<n):0<=t.tmod n/\t.tmod n<n/\t.tmod n=t%n:=by
 rw[zB3 h.1];exact⟨zBR t sa,zBD t q,rfl⟩
abbrev Hf(c:AW):zt:=if qFA c=[]then 5 else 0
def qNa(g){cs}{c}(B:qTC g cs c)(C:c.Az.length<=17592186044416){t}(E:InU t):OkV Tryz.prog 244 [.agg ⟨cs⟩,.int .u64 t] g (.tuple #[.int .i64 (qvD c t),.int .i64 (Hf c)]):=by
 have H:=B;obtain⟨ab,rfl,ac,ad,L⟩:=B;obtain⟨P,Q,rfl,ae,af,ag,ah⟩:=id L
 exact Ok.Aq hm noT 0 ND.2 (args:=[.v (.agg ⟨[.string c.name,.int .i64 c.AY,.int .i64 c.As,.slice P c.Az.length Q]⟩),.v (.int .u64 t)]) (by
  refine zq ?_;intros;refine .inr ((qyG _ H C).mono λv g1 ai h=>?_);obtain⟨aj,ak,rfl,h⟩:=h;refine zq ?_;intros;refine⟨λq=>?_,λq=>?_⟩
  .have R:qFA c=[]:=by
    have:=zd q;exact zA4.1 sa
   refine zq ?_;intros;intro g2 T;simp[qvD,Hf,R]
  have D:0<(qFA c).length:=by
   have al:¬_:=zf q;omega
  have am:=qyK c C;have u:zBP.wrap ((qFA c).length:zt)=(qFA c).length:=IntWalk.u64_in _ sa;obtain⟨an,ao,U⟩:=qgb E (n:=(qFA c).length) sa;obtain⟨x,A⟩:=qEA (l:=qFA c) (i:=(t%(qFA c).length).toNat) sa;obtain⟨ap,rfl⟩:=qVA h A;obtain⟨aq,V⟩:=qMM h A;have W:qFA c≠[]:=by intro Y;rw[Y]at D;cases D
  have aa:qvD c t=x:=by unfold qvD;rw[A];rfl
  refine zq ?_;intros;refine⟨sf,zq ?_⟩;intros;refine⟨_,rfl,⟨by simp only[u];omega,by simp only[u];omega⟩,zq ?_⟩;intros;simp only[u,U];refine zw ?_;refine⟨_,V 0 _ rfl,zq ?_⟩;intros;intro g2 T
  simp[aa,Hf,W])
def qRa(g){a x b y}:OkV Tryz.prog 248 [.int .i64 a,.int .i64 x,.int .i64 b,.int .i64 y] g (.int .i64 (qwF a x b y)):=
 Ok.Aq hm noT 0 NL.2 (args:=[.v (.int .i64 a),.v (.int .i64 x),.v (.int .i64 b),.v (.int .i64 y)]) (by
  refine zq ?_;intros;refine⟨λz=>?_,λz=>?_⟩
  .refine zq ?_;intros;intro g2 h;unfold qwF;rw[zk (zd z)]
  .refine zq ?_;intros;intro g2 h
   unfold qwF;rw[zj (zf z)])
def q1V{c}(h:qFA c=[])(d):qeC c d=0:=by simp[qeC,h]
def q0V{c}(d:zt)(h:0<(qFA c).length):(qFA c)[(d%(qFA c).length).toNat]?=O (qeC c d)/\0<=d%(qFA c).length/\d%(qFA c).length<(qFA c).length:=by
 have q:=zBR d (show((qFA c).length:zt)≠0 by omega);have u:=zBD d (show(0:zt)<(qFA c).length by omega);obtain⟨x,A⟩:=qEA (l:=qFA c) (i:=(d%(qFA c).length).toNat) sa;unfold qeC;rw[A];exact⟨rfl,q,u⟩
def qvW{d n:zt}(q:0<n):-n<=d.tmod n/\d.tmod n<n:=by
 have u:=zBR d (show n≠0 by omega);have A:=zBD d q
 have h:d.tmod n=d%n\/d.tmod n=d%n-n:=by
  rw[Int.tmod_eq_emod];split
  .exact .inl sa
  .right;have:(n.natAbs:zt)=n:=sa
   omega
 generalize d.tmod n=r at h⊢;generalize d%n=B at h u A;omega
def qTa(g){cs}{c}(P:qTC g cs c)(Q:c.Az.length<=17592186044416){h d1}(Y:InR h)(aa:InR d1):OkV Tryz.prog 255 [.agg ⟨cs⟩,.int .i64 h,.int .i64 d1] g (.tuple #[.int .i64 (qeC c h),.int .i64 (qeC c d1),.int .i64 (Hf c)]):=by
 have ab:=P;obtain⟨aq,rfl,ar,au,ac⟩:=P;obtain⟨R,T,rfl,av,aw,ax,ay⟩:=id ac
 exact Ok.Aq hm noT 0 NM.2 (args:=[.v (.agg ⟨[.string c.name,.int .i64 c.AY,.int .i64 c.As,.slice R c.Az.length T]⟩),.v (.int .i64 h),.v (.int .i64 d1)]) (by
  refine zq ?_;intros;refine .inr ((qyG _ ab Q).mono λv g1 az u=>?_);obtain⟨aA,aB,rfl,u⟩:=u;refine zq ?_;intros;refine⟨λB=>?_,λB=>?_⟩
  .have U:qFA c=[]:=by
    have:=Cn B;exact zA4.1 sa
   refine zq ?_;intros;intro g2 ad;simp[q1V U,Hf,U]
  have A:0<(qFA c).length:=by
   have:=Ei B;omega
  have aC:=qyK c Q;have ae:qFA c≠[]:=by intro q;rw[q]at A;cases A
  obtain⟨V,af,ag⟩:=q0V (c:=c) h A;obtain⟨ah,ai,aj⟩:=q0V (c:=c) d1 A;obtain⟨aD,rfl⟩:=qVA u V;obtain⟨aE,ak⟩:=qMM u V;obtain⟨aF,al⟩:=qMM u ah;refine zq ?_;intros;rename_i am an;refine zw ?_;refine⟨Z,λk=>[.v (.int .i64 k)],λk=>⟨g1,[.blk 1 an _ [.v (.int .i64 (if k=0 then h else qeC c h)),.v (.int .i64 (if k<=1 then d1 else qeC c d1))],.blk 0 am 151 [.v (.string c.name),.v (.int .i64 c.AY),.v (.int .i64 c.As),.v (.slice R c.Az.length T)]],_,_⟩,λk=>k<=2,λk=>2-k,qfA 0 rfl sb rfl,?_⟩;intro k ao
  have W:∀d,InR d->InR (d.tmod (qFA c).length)/\InR (d.tmod (qFA c).length+(qFA c).length)/\(d.tmod (qFA c).length+(qFA c).length).tmod (qFA c).length=d%(qFA c).length:=λd aG=>by
   have e1:=qpZ (d:=d) (n:=(qFA c).length) sa;have e2:=qvW (d:=d) (n:=(qFA c).length) sa;have aH:((qFA c).length:zt)<=17592186044416:=sa
   generalize d.tmod ((qFA c).length:zt)=r at e1 e2⊢;generalize((qFA c).length:zt)=n at*;refine⟨si,si,e1⟩
  rcases(by have:k<=2:=ao;omega:k=0\/k=1\/k=2)with rfl|rfl|rfl
  .obtain⟨C,D,E⟩:=W h Y;have w1:=wr C;have H:=wr D;refine zw ?_;refine⟨λ_=>zq ?_,λq=>nomatch q⟩;intros;refine⟨0,⟨rfl,sb⟩,zq ?_⟩;intros;refine⟨sf,zq ?_⟩;intros;refine⟨sf,zq ?_⟩;intros;simp only[eq_self,zH,zBA,w1,H,E];refine zw ?_;refine⟨_,rfl,⟨af,ag⟩,zq ?_⟩;intros;refine⟨_,ak 0 _ rfl,zq ?_⟩;intros;refine⟨0,⟨rfl,sb⟩,zq ?_⟩;intros;refine λap w L=>⟨1,rfl,sb,sb,?_⟩;exact L.fit sc
  .obtain⟨C,D,E⟩:=W d1 aa;have w1:=wr C;have H:=wr D;refine zw ?_;refine⟨λ_=>zq ?_,λq=>nomatch q⟩;intros;refine⟨1,⟨rfl,sb⟩,zq ?_⟩;intros;refine⟨sf,zq ?_⟩;intros;refine⟨sf,zq ?_⟩;intros;simp only[eq_self,zH,zBA,w1,H,E];refine zw ?_;refine⟨_,rfl,⟨ai,aj⟩,zq ?_⟩;intros;refine⟨_,al 0 _ rfl,zq ?_⟩;intros;refine⟨1,⟨rfl,sb⟩,zq ?_⟩;intros;refine λap w L=>⟨2,rfl,sb,sb,?_⟩;exact L.fit sc
  .refine zw ?_;refine⟨λq=>(nomatch q),λ_=>zq ?_⟩;intros;refine⟨0,⟨rfl,sb⟩,zq ?_⟩;intros;refine⟨1,⟨rfl,sb⟩,zq ?_⟩;intros;intro g2 ad
   simp[Hf,ae])
def qdW(w:Wd)(m:Ah)(v:zg)(g':GW):Prop:=∃cs h,v=.tuple #[.agg ⟨cs⟩,.agg ⟨h⟩,.agg ⟨(CO w m).cs⟩]/\rWo g' cs (BL w m)/\qdA g' h (BC w m)
def tPi:F (Z×FnI):=[(199,EP.1),(236,Fp.1),(238,Fo.1),(239,Fl.1),(237,Gq.1)]
def qSR:q6B Tryz.prog tPi:=by
 intro x h;simp only[tPi,zs,zC,zAt]at h;rcases h with rfl|rfl|rfl|rfl|rfl
 .exact⟨_,_,EP.2⟩
 .exact⟨_,_,Fp.2⟩
 .exact⟨_,_,Fo.2⟩
 .exact⟨_,_,Fl.2⟩
 .exact⟨_,_,Gq.2⟩
def q9S:F (Ky×zg):=[(.i 0,.agg #[.func (.func 236) #[] #[]]),(.i 1,.agg #[.func (.func 238) #[] #[]]),(.i 2,.agg #[.func (.func 239) #[] #[]])]
def qyJ(g):Ok Tryz.prog 199 [] g λv g'=>∃r,v=.map (O r)/\FzM g' r .i64 q9S:=
 Ok.Aq hm noT 0 EP.2 (args:=[]) (by
  refine zq ?_;intros;refine λg1 u h=>zq ?_;intros;intro g2 q
  exact⟨_,rfl,h.mono q⟩)
def qlX(g){cs q}{w}{m:Ah}(B:rWo g cs w)(hM:qdA g q m)(al:SnW w)(am:BgW 1000000 w)(an:m.pc≠0/\m.pc≠1/\m.pc≠2):Ok Tryz.prog 168 [.agg ⟨cs⟩,.agg ⟨q⟩] g (qdW w m):=by
 obtain⟨C,D,E,H,L,P,Q,R,T,U,V,W,Y,aa,ab,ac,rfl,rfl,ad,ae,⟨ao,ap,aq⟩,ar,au,av,aw,ax,⟨ay,az,aA,aB⟩,⟨aC,aD,aE,aF⟩,⟨c1,c2,aG,aH⟩,⟨d1,d2,aI,aJ⟩,⟨e1,e2,aK,aL⟩,aM,aN,aO⟩:=qhB B hM
 exact Ok.Aq hm qSR 3 MB.2 (args:=[.v (.agg ⟨wQ w C D E H L P Q R T U⟩),.v (.agg ⟨mQ m V W Y aa ab ac⟩)]) (by
  refine zq ?_;intros;refine .inr ((qyJ _).mono λv g1 u h=>?_);obtain⟨r,rfl,h⟩:=h;refine zq ?_;intros;refine⟨q9S,⟨rfl,h⟩,?_⟩;have af:(m.pc==0)=zb:=sf
  have ag:(m.pc==1)=zb:=sf
  have ah:(m.pc==2)=zb:=sf
  refine zw ?_;refine⟨zc,by simp only[q9S,B5,C2,af,ag,ah],zq ?_⟩;intros;refine⟨λ_=>zq ?_,λai=>nomatch ai⟩;intros;intro g2 A;have hE:CO w m=ev0:=by unfold CO;split;rw[zj sa,zj sa];rfl
  have aj:BL w m=w:=by unfold BL;rw[zj sa]
  have ak:BC w m=m:=by unfold BC;split;rw[zj sa,zj sa,zj sa];rfl
  exact⟨_,_,sk,by rw[aj];exact qBA _ _ _ _ (GW.trans u A) ad,by rw[ak];exact qTA _ _ _ _ (GW.trans u A) ae⟩)
def qoX(g){cs H}{w}{m:Ah}(ab:rWo g cs w)(hM:qdA g H m)(ac:SnW w)(L:BgW 1000000 w)(P:m.pc=0):Ok Tryz.prog 168 [.agg ⟨cs⟩,.agg ⟨H⟩] g (qdW w m):=by
 obtain⟨ad,ae,af,ag,ah,ai,aj,ak,al,am,an,ao,ap,aq,ar,au,rfl,rfl,Q,av,⟨aw,aT,aU⟩,ax,ay,az,aA,aB,⟨aW,aX,aC,aD⟩,⟨aY,aZ,aE,aF⟩,⟨c1,c2,aG,aH⟩,⟨d1,d2,aI,aJ⟩,⟨e1,e2,aK,aL⟩,aM,aN,aO⟩:=qhB ab hM
 exact Ok.Aq hm qSR 3 MB.2 (args:=[.v (.agg ⟨wQ w ad ae af ag ah ai aj ak al am⟩),.v (.agg ⟨mQ m an ao ap aq ar au⟩)]) (by
  refine zq ?_;intros;refine .inr ((qyJ _).mono λv g1 q u=>?_);obtain⟨r,rfl,u⟩:=u;refine zq ?_;intros;refine⟨q9S,⟨rfl,u⟩,?_⟩;have A:=qBA _ _ _ _ q Q;have R:=qTA _ _ _ _ q av;refine zw ?_;refine⟨O (.agg #[.func (.func 236) #[] #[]]),by rw[P];rfl,zq ?_⟩;intros;refine⟨λB=>(nomatch B),λ_=>zq ?_⟩;intros;refine .inl ⟨_,qUA _ A R ac L,zq ?_⟩;intros;refine⟨λz1=>?_,λz1=>?_⟩
  .refine zq ?_;intros;intro g2 h;have C:=nb1 z1;have hE:CO w m=ev0:=by unfold CO;rw[zj (by rw[C];exact Bool.noConfusion)]
   have D:BL w m=w:=by unfold BL;rw[zj (by rw[C];exact λB=>Bool.noConfusion B.1)]
   have E:BC w m=m:=by unfold BC;rw[zj (by rw[C];exact Bool.noConfusion)]
   exact⟨_,_,sk,by rw[D];exact qBA _ _ _ _ h A,by rw[E];exact qTA _ _ _ _ h R⟩
  have hs:=nb0 z1;refine zq ?_;intros;refine .inr ((qSA _ A L).mono λv g3 aP aQ=>?_);obtain⟨cs,a0,rfl,T⟩:=aQ;have aR:=T;obtain⟨p,a1,a2,a3,a4,rfl,_,_,U,V,W,Y,aa⟩:=aR;obtain⟨a5,a6,rfl⟩:=qqA U;obtain⟨a7,a8,rfl⟩:=qqA V;obtain⟨a9,ba,rfl⟩:=qqA W;obtain⟨bb,bc,rfl⟩:=qqA Y;obtain⟨bd,be,rfl⟩:=qqA aa;clear Q ax ay az aA aB aD aF aH aJ aL aC aE aG aI aK V W Y aa U;refine zq ?_;intros;refine⟨kF,zq ?_⟩;intros;intro g2 h;have hE:CO w m=⟨m.Al,0,1,1,-1,zb,w.Ai,zb,zb,zb,BY⟩:=by unfold CO;rw[zk hs,zj sa,zk sa]
  have D:BL w m=w:=by unfold BL;rw[zj sa]
  have E:BC w m={m with Ai:=w.Ai,pc:=1}:=by unfold BC;rw[zk hs,zk P]
  refine⟨_,_,sk,by rw[D];exact qBA _ _ _ _ h (qbA T),?_⟩;rw[E]
  exact⟨_,_,_,rfl,{aM with Ai:=aw,pc:=show InR (1:zt) by decide},aN,qAA _ _ _ _ (GW.trans (GW.trans q aP) h) aO⟩)
def qnX(g){cs L}{w}{m:Ah}(ad:rWo g cs w)(hM:qdA g L m)(ae:SnW w)(P:BgW 1000000 w)(A:m.pc=1):Ok Tryz.prog 168 [.agg ⟨cs⟩,.agg ⟨L⟩] g (qdW w m):=by
 obtain⟨af,ag,ah,ai,aj,ak,al,am,an,ao,ap,aq,ar,au,av,aw,rfl,rfl,Q,ax,⟨a6,a7,a8⟩,ay,az,aA,aB,aC,⟨a9,ba,aD,aE⟩,⟨bb,bc,aF,aG⟩,⟨c1,c2,aH,aI⟩,⟨d1,d2,aJ,aK⟩,⟨e1,e2,aL,aM⟩,aN,aO,aP⟩:=qhB ad hM
 exact Ok.Aq hm qSR 3 MB.2 (args:=[.v (.agg ⟨wQ w af ag ah ai aj ak al am an ao⟩),.v (.agg ⟨mQ m ap aq ar au av aw⟩)]) (by
  refine zq ?_;intros;refine .inr ((qyJ _).mono λv g1 B h=>?_);obtain⟨r,rfl,h⟩:=h;refine zq ?_;intros;refine⟨q9S,⟨rfl,h⟩,?_⟩;have C:=qBA _ _ _ _ B Q;have R:=qTA _ _ _ _ B ax;refine zw ?_;refine⟨O (.agg #[.func (.func 238) #[] #[]]),by rw[A];rfl,zq ?_⟩;intros;refine⟨λq=>(nomatch q),λ_=>zq ?_⟩;intros;refine .inl ⟨_,qUA _ C R ae P,zq ?_⟩;intros;refine⟨λz1=>?_,λz1=>?_⟩
  .refine zq ?_;intros;intro g2 u;have D:=nb1 z1;have hE:CO w m=ev0:=by unfold CO;rw[zj (by rw[D];exact Bool.noConfusion)]
   have E:BL w m=w:=by unfold BL;rw[zj (by rw[D];exact λq=>Bool.noConfusion q.1)]
   have H:BC w m=m:=by unfold BC;rw[zj (by rw[D];exact Bool.noConfusion)]
   exact⟨_,_,sk,by rw[E];exact qBA _ _ _ _ u C,by rw[H];exact qTA _ _ _ _ u R⟩
  have hs:=nb0 z1;refine zq ?_;intros;refine .inr ((qSA _ C P).mono λv g3 aQ aR=>?_);obtain⟨cs,bd,rfl,T⟩:=aR;have aT:=T;obtain⟨p,be,bf,bh,bi,rfl,_,_,U,V,W,Y,aa⟩:=aT;obtain⟨bj,bl,rfl⟩:=qqA U;obtain⟨bm,bn,rfl⟩:=qqA V;obtain⟨bo,bp,rfl⟩:=qqA W;obtain⟨bq,br,rfl⟩:=qqA Y;obtain⟨bt,bu,rfl⟩:=qqA aa;have bv:=(Am.1 hs).choose_spec.choose_spec.choose_spec.Al;obtain⟨x,aU⟩:=qEA (l:=w.pins) (i:=m.Al.toNat) sa;obtain⟨bk,cap,aW,bw,bx,aX,aY,⟨aZ,a0,a1,a2,a3⟩,_,a4⟩:=qQV T aU (x':=zAj.wrap (m.Ai+1)) (qDB _);cases aW;cases aZ;clear Q ay az aA aB aC aE aG aI aK aM aD aF aH aJ aL V W Y aa U;refine zq ?_;intros;refine⟨kF,zq ?_⟩;intros;refine⟨_,rfl,⟨sa,sa⟩,zq ?_⟩;intros;refine⟨bk,m.Al.toNat,aX,aY,⟨by simp[qoA],zY B.1 a0,a1,a2,a3⟩,zq ?_⟩;intros;refine λab ac=>?_;have h:=qbA (a4 ab ac);have a5:g1<=ab:=ac.le aQ (λq=>by have:=g1.wf _ q;omega);refine zq ?_;intros;intro g2 u;have hE:CO w m=⟨m.Al,0,2,2,-1,zb,zAj.wrap (m.Ai+1),zb,zb,zb,BY⟩:=by unfold CO;rw[zk hs,zk A]
  have E:BL w m={w with pins:=w.pins.set m.Al.toNat (zAj.wrap (m.Ai+1))}:=by unfold BL;rw[zk ⟨hs,A⟩]
  have H:BC w m={m with pc:=2}:=by unfold BC;rw[zk hs,zj sa,zk A]
  refine⟨_,_,sk,by rw[E];exact qBA _ _ _ _ u h,?_⟩;rw[H]
  exact⟨_,_,_,rfl,{aN with pc:=show InR (2:zt) by decide},aO,qAA _ _ _ _ (GW.trans (GW.trans B a5) u) aP⟩)
def qmX(g){cs Q}{w}{m:Ah}(ah:rWo g cs w)(hM:qdA g Q m)(ai:SnW w)(R:BgW 1000000 w)(B:m.pc=2):Ok Tryz.prog 168 [.agg ⟨cs⟩,.agg ⟨Q⟩] g (qdW w m):=by
 obtain⟨aj,ak,al,am,an,ao,ap,aq,ar,au,av,aw,ax,ay,az,aA,rfl,rfl,T,aB,⟨U,aU,aW⟩,aC,aD,aE,aF,aG,⟨aX,aY,aH,aI⟩,⟨aZ,a0,aJ,aK⟩,⟨c1,c2,aL,aM⟩,⟨d1,d2,aN,aO⟩,⟨e1,e2,aP,aQ⟩,V,W,Y⟩:=qhB ah hM
 exact Ok.Aq hm qSR 3 MB.2 (args:=[.v (.agg ⟨wQ w aj ak al am an ao ap aq ar au⟩),.v (.agg ⟨mQ m av aw ax ay az aA⟩)]) (by
  refine zq ?_;intros;refine .inr ((qyJ _).mono λv g1 A C=>?_);obtain⟨r,rfl,C⟩:=C;refine zq ?_;intros;refine⟨q9S,⟨rfl,C⟩,?_⟩;have D:=qBA _ _ _ _ A T;have aa:=qTA _ _ _ _ A aB;refine zw ?_;refine⟨O (.agg #[.func (.func 239) #[] #[]]),by rw[B];rfl,zq ?_⟩;intros;refine⟨λE=>(nomatch E),λ_=>zq ?_⟩;intros;refine .inl ⟨_,qUA _ D aa ai R,zq ?_⟩;intros;refine⟨λz1=>?_,λz1=>?_⟩
  .refine zq ?_;intros;intro g2 h;have H:=nb1 z1;have hE:CO w m=ev0:=by unfold CO;rw[zj (by rw[H];exact Bool.noConfusion)]
   have q:BL w m=w:=by unfold BL;rw[zj (by rw[H];exact λE=>Bool.noConfusion E.1)]
   have u:BC w m=m:=by unfold BC;rw[zj (by rw[H];exact Bool.noConfusion)]
   exact⟨_,_,sk,by rw[q];exact qBA _ _ _ _ h D,by rw[u];exact qTA _ _ _ _ h aa⟩
  have hs:=nb0 z1;refine zq ?_;intros;refine .inr ((qSA _ D R).mono λv g3 ab aR=>?_);obtain⟨cs,a1,rfl,L⟩:=aR;have aT:=L;obtain⟨p,a2,a3,a4,a5,rfl,_,_,ac,ad,ae,af,ag⟩:=aT;obtain⟨a6,a7,rfl⟩:=qqA ac;obtain⟨a8,a9,rfl⟩:=qqA ad;obtain⟨ba,bb,rfl⟩:=qqA ae;obtain⟨bc,bd,rfl⟩:=qqA af;obtain⟨be,bf,rfl⟩:=qqA ag;clear T aC aD aE aF aG aI aK aM aO aQ aH aJ aL aN aP ad ae af ag ac;refine zq ?_;intros;refine⟨kF,zq ?_⟩;intros;refine⟨λP=>?_,λP=>?_⟩
  .refine zq ?_;intros;intro g2 h;have hE:CO w m=⟨m.Al,0,1,1,-1,zb,w.Ai,zb,zb,zb,BY⟩:=by unfold CO;rw[zk hs,zj sa,zk sa]
   have q:BL w m=w:=by unfold BL;rw[zj sa]
   have u:BC w m={m with Ai:=w.Ai,pc:=3}:=by unfold BC;rw[zk hs,zj sa,zj sa,zk B,zk (by simpa using P)]
   refine⟨_,_,sk,by rw[q];exact qBA _ _ _ _ h (qbA L),?_⟩;rw[u];exact⟨_,_,_,rfl,{V with Ai:=U,pc:=show InR (3:zt) by decide},W,qAA _ _ _ _ (GW.trans (GW.trans A ab) h) Y⟩
  .refine zq ?_;intros;intro g2 h;have hE:CO w m=⟨m.Al,0,1,1,-1,zb,w.Ai,zb,zb,zb,BY⟩:=by unfold CO;rw[zk hs,zj sa,zk sa]
   have q:BL w m=w:=by unfold BL;rw[zj sa]
   have u:BC w m={m with Ai:=w.Ai,pc:=1}:=by unfold BC;rw[zk hs,zj sa,zj sa,zk B,zj (by simpa using P)]
   refine⟨_,_,sk,by rw[q];exact qBA _ _ _ _ h (qbA L),?_⟩;rw[u]
   exact⟨_,_,_,rfl,{V with Ai:=U,pc:=show InR (1:zt) by decide},W,qAA _ _ _ _ (GW.trans (GW.trans A ab) h) Y⟩)
def qOa(g){cs A}{w}{m:Ah}(h:rWo g cs w)(hM:qdA g A m)(q:SnW w)(u:BgW 1000000 w):Ok Tryz.prog 168 [.agg ⟨cs⟩,.agg ⟨A⟩] g (qdW w m):=by
 by_cases B:m.pc=0
 .exact qoX g h hM q u B
 .by_cases C:m.pc=1
  .exact qnX g h hM q u C
  .by_cases D:m.pc=2
   .exact qmX g h hM q u D
   .exact qlX g h hM q u ⟨B,C,D⟩

def HaP(w:Wd)(m:Ah)(v:zg)(g':GW):Prop:=∃cs h,v=.tuple #[.agg ⟨cs⟩,.agg ⟨h⟩,.agg ⟨(hsE w m).cs⟩]/\rWo g' cs (hsW w m)/\qdA g' h (hsM w m)
abbrev SmO(m:Ah):Prop:=Sm m.op.Bb/\Sm m.op.path
def tHa:F (Z×FnI):=[(201,Cb.1),(202,Db.1),(203,Cv.1),(204,CW.1),(205,Cc.1),(206,Ca.1),(207,CF.1),(208,CE.1),(209,CL.1),(210,CX.1),(211,Cw.1),(212,CG.1),(213,Da.1),(214,C8.1),(241,Dp.1),(242,C9.1)]
def qVD:q6B Tryz.prog tHa:=by
 intro x h;simp only[tHa,zs,zC,zAt]at h;rcases h with rfl|rfl|rfl|rfl|rfl|rfl|rfl|rfl|rfl|rfl|rfl|rfl|rfl|rfl|rfl|rfl
 .exact⟨_,_,Cb.2⟩
 .exact⟨_,_,Db.2⟩
 .exact⟨_,_,Cv.2⟩
 .exact⟨_,_,CW.2⟩
 .exact⟨_,_,Cc.2⟩
 .exact⟨_,_,Ca.2⟩
 .exact⟨_,_,CF.2⟩
 .exact⟨_,_,CE.2⟩
 .exact⟨_,_,CL.2⟩
 .exact⟨_,_,CX.2⟩
 .exact⟨_,_,Cw.2⟩
 .exact⟨_,_,CG.2⟩
 .exact⟨_,_,Da.2⟩
 .exact⟨_,_,C8.2⟩
 .exact⟨_,_,Dp.2⟩
 .exact⟨_,_,C9.2⟩
def LH:zg:=.agg #[.nilFunc,.nilFunc,.nilFunc,.func (.func 201) #[] #[],.func (.func 202) #[] #[],.func (.func 203) #[] #[],.func (.func 204) #[] #[],.func (.func 205) #[] #[],.func (.func 206) #[] #[],.func (.func 207) #[] #[],.func (.func 208) #[] #[],.func (.func 209) #[] #[],.func (.func 210) #[] #[],.nilFunc,.nilFunc,.nilFunc,.nilFunc,.nilFunc,.nilFunc,.nilFunc,.func (.func 211) #[] #[],.func (.func 212) #[] #[],.func (.func 213) #[] #[],.func (.func 214) #[] #[]]
def qiB(g):OkV Tryz.prog 170 [] g LH:=
 Ok.Aq hm noT 0 Ni.2 (args:=[]) (by
  refine zq ?_;intros;intro g2 h
  rfl)
def q7U(g){w i}(h:InU w)(q:InR i):OkV Tryz.prog 173 [.int .u64 w,.int .i64 i] g (.tuple #[.int .u64 (if q6C i then qxB w i else 0),.int .i64 (if q6C i then 0 else 1)]):=
 Ok.Aq hm noT 0 M7.2 (args:=[.v (.int .u64 w),.v (.int .i64 i)]) (by
  have u:=zBR (FO w+1) (show(4294967296:zt)≠0 by decide);have A:=zBD (FO w+1) (show(0:zt)<4294967296 by decide);refine zq ?_;intros;refine .inl ⟨_,q6U _ h,zq ?_⟩;intros;refine .inl ⟨_,(qJN _ (t:=IntKind.u32.wrap (FO w+1)) (i:=i) (by rw[IntKind.wrap_u32];exact⟨u,A⟩) q),zq ?_⟩;intros;intro g2 B
  rw[IntKind.wrap_u32];rfl)
def qNR{c}{t}(h:c.Az.length<=17592186044416):InR (qvD c t):=by
 by_cases q:qFA c=[]
 .have:qvD c t=0:=by simp[qvD,q]
  rw[this];decide
 .have:=qIU (t:=t) q;unfold InR;omega
def qIS{c}{t}(h:c.Az.length<=17592186044416):InR (qeC c t):=qNR h
abbrev xW(h q:Z):zg:=.agg ⟨[.pointer (O ⟨h,0,zc⟩),.pointer (O ⟨q,0,zc⟩)]⟩
def qQB(g){q h}{t a c v}(u:Rc g ⟨h,10,zc⟩ (.int .i64 t)):OkV Tryz.prog 240 [xW q h,.int .i64 a,.int .i64 c,.int .i64 v] g (.agg ⟨(⟨t,0,a,c,-1,zb,v,zb,zb,zb,BY⟩:Ev).cs⟩):=
 Ok.Aq hm noT 0 MH.2 (args:=[.v (xW q h),.v (.int .i64 a),.v (.int .i64 c),.v (.int .i64 v)]) (by
  refine zq ?_;intros;refine⟨_,u,zq ?_⟩;intros;intro g2 A
  rfl)
def qzD(g){q h}{t i a c v}{u}{A B}{C D E H}{fr}(L:Rc g ⟨h,10,zc⟩ (.int .i64 t))(P:Rc g ⟨h,13,zc⟩ (.int .i64 i))(Q:Rc g ⟨q,4,zc⟩ (.slice (O u) A B))(R:0<=i/\i<A)(T:Rcs g (u.add (i.toNat*5)) [C,D,E,H,.bool fr]):OkV Tryz.prog 246 [xW q h,.int .i64 a,.int .i64 c,.int .i64 v] g (.agg ⟨(⟨t,0,a,c,i,fr,v,zb,zb,zb,BY⟩:Ev).cs⟩):=
 Ok.Aq hm noT 0 MR.2 (args:=[.v (xW q h),.v (.int .i64 a),.v (.int .i64 c),.v (.int .i64 v)]) (by
  refine zq ?_;intros
  repeat'((first|refine .inl ⟨_,qQB _ L,?_⟩|refine⟨_,P,?_⟩|refine⟨_,Q,?_⟩|refine⟨_,rfl,R,?_⟩|refine⟨_,T 4 _ rfl,?_⟩|refine zG ?_ ?_|fail)<;>first|(refine zq ?_;intros)|rfl)
  all_goals(conv=>whnf)
  all_goals(first|exact zAu _|(intro g2 U;rfl)))
def qkK(g){q h}{i j}{u A}{B D C E}{H L P Q}(R:Rc g ⟨h,13,zc⟩ (.int .i64 i))(T:Rc g ⟨h,15,zc⟩ (.int .i64 j))(U:Rc g ⟨q,4,zc⟩ (.slice (O u) B D))(V:0<=i/\i<B)(W:Rcs g (u.add (i.toNat*5)) [H,L,P,.slice (O A) C E,Q])(Y:0<=j/\j<C):OkV Tryz.prog 243 [xW q h] g (.pointer (O (A.add (j.toNat*2)))):=
 Ok.Aq hm noT 0 MI.2 (args:=[.v (xW q h)]) (by
  refine zq ?_;intros
  repeat'((first|refine⟨_,R,?_⟩|refine⟨_,U,?_⟩|refine⟨_,T,?_⟩|refine⟨_,rfl,V,?_⟩|refine⟨_,W 3 _ rfl,?_⟩|refine⟨_,rfl,Y,?_⟩|refine zG ?_ ?_|fail)<;>first|(refine zq ?_;intros)|rfl)
  all_goals(conv=>whnf)
  all_goals(first|exact zAu _|(intro g2 aa;rfl)))
def qOF(g){q h}{i j}{u A}{B P C Q}{R T U V}{D}{E sl}{H}{nh L}(W:Rc g ⟨h,13,zc⟩ (.int .i64 i))(Y:Rc g ⟨h,15,zc⟩ (.int .i64 j))(aa:Rc g ⟨q,4,zc⟩ (.slice (O u) B P))(ab:0<=i/\i<B)(ac:Rcs g (u.add (i.toNat*5)) [R,T,.slice (O A) C Q,U,V])(ad:0<=j/\j<C)(ae:Rcs g (A.add (j.toNat*4)) [.string D,.int .i64 E,.int .i64 sl,.slice H nh L]):OkV Tryz.prog 245 [xW q h] g (.agg ⟨[.string D,.int .i64 E,.int .i64 sl,.slice H nh L]⟩):=
 Ok.Aq hm noT 0 MC.2 (args:=[.v (xW q h)]) (by
  refine zq ?_;intros
  repeat'((first|refine⟨_,W,?_⟩|refine⟨_,aa,?_⟩|refine⟨_,Y,?_⟩|refine⟨_,rfl,ab,?_⟩|refine⟨_,ac 2 _ rfl,?_⟩|refine⟨_,rfl,ad,?_⟩|refine⟨_,⟨rfl,ae⟩,?_⟩|refine zG ?_ ?_|fail)<;>first|(refine zq ?_;intros)|rfl)
  all_goals(conv=>whnf)
  all_goals(first|exact zAu _|(intro g2 af;rfl)))
def qdC(g){q h}{i j k}{u A B}{C H D L ne P}{Q R T U V}(W:Rc g ⟨h,13,zc⟩ (.int .i64 i))(Y:Rc g ⟨h,15,zc⟩ (.int .i64 j))(aa:Rc g ⟨h,16,zc⟩ (.int .i64 k))(ab:Rc g ⟨q,4,zc⟩ (.slice (O u) C H))(ac:0<=i/\i<C)(ad:Rcs g (u.add (i.toNat*5)) [Q,R,T,.slice (O A) D L,U])(ae:0<=j/\j<D)(E:Rcs g (A.add (j.toNat*2)) [V,.slice (O B) ne P])(af:0<=k/\k<ne):OkV Tryz.prog 247 [xW q h] g (.pointer (O (B.add (k.toNat*3)))):=
 Ok.Aq hm noT 0 MT.2 (args:=[.v (xW q h)]) (by
  refine zq ?_;intros
  repeat'((first|refine .inl ⟨_,qkK _ W Y ab ac ad ae,?_⟩|refine⟨_,aa,?_⟩|refine⟨_,E 1 _ rfl,?_⟩|refine⟨_,rfl,af,?_⟩|refine zG ?_ ?_|fail)<;>first|(refine zq ?_;intros)|rfl)
  all_goals(conv=>whnf)
  all_goals(first|exact zAu _|(intro g2 E;rfl)))
def qbc(g){cs q}{w}{m:Ah}(B:rWo g cs w)(hM:qdA g q m)(C:SnW w)(D:BgW 1000000 w)(E:0<=m.pc/\m.pc<3):Ok Tryz.prog 147 [.agg ⟨cs⟩,.agg ⟨q⟩] g (HaP w m):=by
 obtain⟨H,L,P,Q,R,T,U,V,W,Y,aa,ab,ac,ad,ae,af,rfl,rfl,ag,ah,⟨al,am,an⟩,ao,ap,aq,ar,au,⟨av,aw,ax,ay⟩,⟨az,aA,aB,aC⟩,⟨c1,c2,aD,aE⟩,⟨d1,d2,aF,aG⟩,⟨e1,e2,aH,aI⟩,aJ,aK,aL⟩:=qhB B hM
 exact Ok.Aq hm qVD 5 Me.2 (args:=[.v (.agg ⟨wQ w H L P Q R T U V W Y⟩),.v (.agg ⟨mQ m aa ab ac ad ae af⟩)]) (by
  refine zq ?_;intros;refine dT sa (zq ?_);intros;refine dT sa (zq ?_);intros;refine .inr ((qOa _ ag ah C D).mono λaM aN aO h=>?_);obtain⟨aP,aQ,rfl,h,u⟩:=h;obtain⟨_,_,_,_,_,_,_,_,_,_,rfl⟩:=qLA h;obtain⟨_,_,_,_,_,_,rfl⟩:=q1B u;refine zq ?_;intros;intro g2 A;obtain⟨ai,aj,ak⟩:=q6O E
  exact⟨_,_,by rw[ak],by rw[ai];exact qBA _ _ _ _ A h,by rw[aj];exact qTA _ _ _ _ A u⟩)
def qcc(g){cs q}{w}{m:Ah}(ak:rWo g cs w)(hM:qdA g q m)(al:SnW w)(am:BgW 1000000 w)(au:¬(0<=m.pc/\m.pc<3))(A:¬hGo w m):Ok Tryz.prog 147 [.agg ⟨cs⟩,.agg ⟨q⟩] g (HaP w m):=by
 obtain⟨H,L,P,Q,R,T,U,V,W,Y,aa,ab,ac,ad,ae,af,rfl,rfl,ag,ah,⟨av,aw,ax⟩,ay,az,aA,aB,aC,⟨aD,aE,aF,aG⟩,⟨aH,aI,aJ,aK⟩,⟨c1,c2,aL,aM⟩,⟨d1,d2,aN,aO⟩,⟨e1,e2,aP,aQ⟩,aR,aT,aU⟩:=qhB ak hM
 exact Ok.Aq hm qVD 5 Me.2 (args:=[.v (.agg ⟨wQ w H L P Q R T U V W Y⟩),.v (.agg ⟨mQ m aa ab ac ad ae af⟩)]) (by
  refine zq ?_;intros
  have fin:∀g2,g<=g2->∃cs q,Value.tuple #[.agg ⟨wQ w H L P Q R T U V W Y⟩,.agg ⟨mQ m aa ab ac ad ae af⟩,.agg ⟨ev0.cs⟩]=.tuple #[.agg ⟨cs⟩,.agg ⟨q⟩,.agg ⟨(hsE w m).cs⟩]/\rWo g2 cs (hsW w m)/\qdA g2 q (hsM w m):=by
   intro g2 ai;obtain⟨an,ao,ap⟩:=qua A;exact⟨_,_,by rw[ap]<;>rfl,by rw[an];exact qBA _ _ _ _ ai ag,by rw[ao];exact qTA _ _ _ _ ai ah⟩
  refine zG (λz1=>?_) (λz1=>?_);rotate_left
  .have z1:=zf z1;refine zq ?_;intros;refine dT sa (zq ?_);intros;refine fin
  have z1:=zd z1;refine zq ?_;intros;refine dF sa (zq ?_);intros;refine dF sa (zq ?_);intros;refine zG (λB=>?_) (λB=>?_)
  .refine zq ?_;intros;refine fin
  have B:=zf B;refine zq ?_;intros;refine .inl ⟨_,qUA _ ag ah al am,zq ?_⟩;intros;refine zG (λaj=>?_) (λaj=>?_)
  .refine zq ?_;intros;refine fin
  have hs:=nb0 aj;refine zq ?_;intros;refine zG (λu=>?_) (λu=>?_)
  .have u:=zd u;refine zq ?_;intros;refine zG (λC=>?_) (λC=>?_)
   .refine zq ?_;intros;refine fin
   have C:=Ei C;refine zq ?_;intros;refine zG (λD=>?_) (λD=>?_)
   .refine zq ?_;intros;refine fin
   have D:=Ei D;refine zq ?_;intros;refine zG (λE=>?_) (λE=>?_)
   .refine zq ?_;intros;refine fin
   have E:=Ei E
   have aq:12<m.pc/\m.pc<20:=by
    apply zB6;intro ar;exact A ⟨hs,sa,sa⟩
   refine zq ?_;intros;refine .inl ⟨_,qiB _,zq ?_⟩;intros;rcases(by omega:m.pc=13\/m.pc=14\/m.pc=15\/m.pc=16\/m.pc=17\/m.pc=18\/m.pc=19)with h|h|h|h|h|h|h
   .refine zw ?_;refine⟨13,⟨h,sb⟩,zq ?_⟩;intros;refine⟨λ_=>zq ?_,λh=>nomatch h⟩;intros;refine fin
   .refine zw ?_;refine⟨14,⟨h,sb⟩,zq ?_⟩;intros;refine⟨λ_=>zq ?_,λh=>nomatch h⟩;intros;refine fin
   .refine zw ?_;refine⟨15,⟨h,sb⟩,zq ?_⟩;intros;refine⟨λ_=>zq ?_,λh=>nomatch h⟩;intros;refine fin
   .refine zw ?_;refine⟨16,⟨h,sb⟩,zq ?_⟩;intros;refine⟨λ_=>zq ?_,λh=>nomatch h⟩;intros;refine fin
   .refine zw ?_;refine⟨17,⟨h,sb⟩,zq ?_⟩;intros;refine⟨λ_=>zq ?_,λh=>nomatch h⟩;intros;refine fin
   .refine zw ?_;refine⟨18,⟨h,sb⟩,zq ?_⟩;intros;refine⟨λ_=>zq ?_,λh=>nomatch h⟩;intros;refine fin
   .refine zw ?_;refine⟨19,⟨h,sb⟩,zq ?_⟩;intros;refine⟨λ_=>zq ?_,λh=>nomatch h⟩;intros;refine fin
  .have u:=zf u
   have aq:12<m.pc/\m.pc<20:=by
    apply zB6;intro ar;exact A ⟨hs,sa,sa⟩
   refine zq ?_;intros;refine .inl ⟨_,qiB _,zq ?_⟩;intros;rcases(by omega:m.pc=13\/m.pc=14\/m.pc=15\/m.pc=16\/m.pc=17\/m.pc=18\/m.pc=19)with h|h|h|h|h|h|h
   .refine zw ?_;refine⟨13,⟨h,sb⟩,zq ?_⟩;intros;refine⟨λ_=>zq ?_,λh=>nomatch h⟩;intros;refine fin
   .refine zw ?_;refine⟨14,⟨h,sb⟩,zq ?_⟩;intros;refine⟨λ_=>zq ?_,λh=>nomatch h⟩;intros;refine fin
   .refine zw ?_;refine⟨15,⟨h,sb⟩,zq ?_⟩;intros;refine⟨λ_=>zq ?_,λh=>nomatch h⟩;intros;refine fin
   .refine zw ?_;refine⟨16,⟨h,sb⟩,zq ?_⟩;intros;refine⟨λ_=>zq ?_,λh=>nomatch h⟩;intros;refine fin
   .refine zw ?_;refine⟨17,⟨h,sb⟩,zq ?_⟩;intros;refine⟨λ_=>zq ?_,λh=>nomatch h⟩;intros;refine fin
   .refine zw ?_;refine⟨18,⟨h,sb⟩,zq ?_⟩;intros;refine⟨λ_=>zq ?_,λh=>nomatch h⟩;intros;refine fin
   .refine zw ?_;refine⟨19,⟨h,sb⟩,zq ?_⟩;intros;refine⟨λ_=>zq ?_,λh=>nomatch h⟩;intros
    refine fin)
def qjc(g){cs E}{w}{m:Ah}(aa:rWo g cs w)(hM:qdA g E m)(ab:SnW w)(B:BgW 1000000 w)(aB:SmO m)(H:hGo w m)(q:m.pc=3):Ok Tryz.prog 147 [.agg ⟨cs⟩,.agg ⟨E⟩] g (HaP w m):=by
 obtain⟨C,hM9,D⟩:=qmB H sa;obtain⟨L,P,kE⟩:=ha3 q;rw[L]at C;rw[P]at hM9;rw[kE]at D;clear L P kE;have hs:=H.1;obtain⟨v,aC,aD,aE⟩:=id (Am.1 hs);obtain⟨ac,ad,ae,af,ag,ah,ai,aj,ak,al,am,an,ao,ap,aq,ar,rfl,rfl,Q,au,⟨aF,R,aG⟩,aH,aI,aJ,aK,aL,⟨aM,aN,aO,aP⟩,⟨aQ,aR,aT,aU⟩,⟨c1,c2,aW,aX⟩,⟨d1,d2,aY,aZ⟩,⟨e1,e2,a0,a1⟩,T,U,V⟩:=qhB aa hM
 exact Ok.Aq hm qVD 5 Me.2 (args:=[.v (.agg ⟨wQ w ac ad ae af ag ah ai aj ak al⟩),.v (.agg ⟨mQ m am an ao ap aq ar⟩)]) (by
  refine zq ?_;intros;refine dT sa (zq ?_);intros;refine dF sa (zq ?_);intros;refine dF sa (zq ?_);intros;refine dF sa (zq ?_);intros;refine .inl ⟨_,qUA _ Q au ab B,zq ?_⟩;intros;refine⟨λh=>absurd (hs.symm.trans (nb1 h)) sb,λ_=>zq ?_⟩;intros;refine⟨λ_=>?_,λ_=>?_⟩
  case' refine_1=>
   refine zq ?_;intros;refine⟨λh=>absurd h (by simp[q]),λ_=>zq ?_⟩;intros;refine⟨λh=>absurd h (by simp[q]),λ_=>zq ?_⟩;intros;refine⟨λh=>absurd h (by simp[q]),λ_=>?_⟩
  all_goals(
   refine zq ?_;intros;refine .inl ⟨_,qiB _,zq ?_⟩;intros;refine⟨3,⟨q,sb⟩,zq ?_⟩;intros;refine⟨λav=>(nomatch av),λ_=>zq ?_⟩;intros;refine .inr ((qSA _ Q B).mono λv g3 W aw=>?_);obtain⟨cs,a2,rfl,ax⟩:=aw;have A:=qbA ax;obtain⟨a3,a4,a5,a6,a7,a8,a9,ba,bb,bc,rfl⟩:=qLA A;unfold hM3 at hM9;have ay:=qzI A;have Y:InR (qlA w.Aa m.op.listen):=qkQ (by have:=B.1.2.2.1;omega);refine zq ?_;intros;refine⟨kF,zq ?_⟩;intros
   repeat'((first|refine⟨_,λaz bd aA=>qQB az (aA.cel (id:=6) rfl 10 rfl),?_⟩|refine .inl ⟨_,qIG _ ay _,?_⟩|refine zG ?_ ?_|fail)<;>first|(refine zq ?_;intros)|rfl)
   all_goals(try exact zAu _)
   .intro z;rw[zk (zd z)]at hM9;refine zq ?_;intros;intro g2 u;refine⟨_,_,by rw[D]<;>rfl,by rw[C];exact qBA _ _ _ _ u A,?_⟩;rw[hM9];exact⟨_,_,_,rfl,{T with Ac:=R,Af:=z0,Ak:=z0,other:=z0,slot:=z0,listen:=Y,pc:=show InR (20:zt) by decide,answer:=qjF sb},U,qAA _ _ _ _ (GW.trans W u) V⟩
   .intro z;rw[zj (zf z)]at hM9;refine zq ?_;intros;intro g2 u;refine⟨_,_,by rw[D]<;>rfl,by rw[C];exact qBA _ _ _ _ u A,?_⟩;rw[hM9]
    exact⟨_,_,_,rfl,{T with Ac:=R,Af:=z0,Ak:=z0,other:=z0,slot:=z0,listen:=Y,pc:=show InR (4:zt) by decide},U,qAA _ _ _ _ (GW.trans W u) V⟩))
def qic(g){cs C}{w}{m:Ah}(aa:rWo g cs w)(hM:qdA g C m)(ab:SnW w)(D:BgW 1000000 w)(aR:SmO m)(q:hGo w m)(E:m.pc=4):Ok Tryz.prog 147 [.agg ⟨cs⟩,.agg ⟨C⟩] g (HaP w m):=by
 obtain⟨u,hM9,A⟩:=qmB q sa;obtain⟨H,L,kE⟩:=ha4 E;rw[H]at u;rw[L]at hM9;rw[kE]at A;clear H L kE;have hs:=q.1;obtain⟨v,aT,aU,P⟩:=id (Am.1 hs);obtain⟨ac,ad,ae,af,ag,ah,ai,aj,ak,al,am,an,ao,ap,aq,ar,rfl,rfl,Q,au,⟨aW,aX,aY⟩,aZ,a0,a1,a2,a3,⟨a4,a5,a6,a7⟩,⟨a8,a9,ba,bb⟩,⟨c1,c2,bc,bd⟩,⟨d1,d2,be,bf⟩,⟨e1,e2,bh,bi⟩,av,aw,ax⟩:=qhB aa hM
 exact Ok.Aq hm qVD 5 Me.2 (args:=[.v (.agg ⟨wQ w ac ad ae af ag ah ai aj ak al⟩),.v (.agg ⟨mQ m am an ao ap aq ar⟩)]) (by
  refine zq ?_;intros;refine dT sa (zq ?_);intros;refine dF sa (zq ?_);intros;refine dF sa (zq ?_);intros;refine dF sa (zq ?_);intros;refine .inl ⟨_,qUA _ Q au ab D,zq ?_⟩;intros;refine⟨λh=>absurd (hs.symm.trans (nb1 h)) sb,λ_=>zq ?_⟩;intros;have bj:0<=m.listen:=by have:=q.2.2;omega
  refine zw ?_;refine dF sa (zq ?_);intros;refine zq ?_;intros;refine .inl ⟨_,qiB _,zq ?_⟩;intros;refine⟨4,⟨E,sb⟩,zq ?_⟩;intros;refine⟨λB=>(nomatch B),λ_=>zq ?_⟩;intros;refine .inr ((qSA _ Q D).mono λv g3 ay az=>?_);obtain⟨cs,bl,rfl,R⟩:=az;have T:=qbA R;obtain⟨bm,bn,bo,bp,bq,br,bt,bu,bv,bw,rfl⟩:=qLA T;obtain⟨x,h⟩:=qEA (l:=w.Aa) (i:=m.listen.toNat) (by have:=P.listen;omega);have aA:mL w m=x:=by unfold mL;rw[h];rfl
  rw[aA]at u A;have bx:=P.listen;obtain⟨bk,cap,aB,bz,aC,aD,aE,aF,⟨aG,aH,aI,aJ,aK⟩,_,aL⟩:=qmK R h (x':={x with Ae:=wI (x.Ae+1)}) (o:=2) (vs:=[.int .i64 (wI (x.Ae+1))]) se (by simp[zAY]) rfl (qDB _);cases aB;obtain⟨bA,aM⟩:=qKH (qzI T) h;refine zq ?_;intros;refine⟨kF,zq ?_⟩;intros;refine⟨_,rfl,⟨sa,sa⟩,zq ?_⟩;intros;refine⟨_,aM 2 _ rfl,zq ?_⟩;intros;refine⟨aC,aD,aE,aF,⟨aG,aH,aI,aJ,aK⟩,zq ?_⟩;intros;refine λU V=>?_;have W:=qbA (aL U V);have aN:g<=U:=V.le ay (λB=>by have:=g.wf _ B;omega);obtain⟨_,aO⟩:=qKH (qzI W) (i:=m.listen.toNat) (x:={x with Ae:=wI (x.Ae+1)}) (by simp only[zAE];simp;omega);refine zq ?_;intros;refine⟨_,aO 2 _ rfl,zq ?_⟩;intros;refine⟨_,λaP bB aQ=>qQB aP (aQ.2.2.1 10 _ rfl),zq ?_⟩;intros;intro g2 Y;refine⟨_,_,by rw[A];rfl,by rw[u];exact qBA _ _ _ _ Y W,?_⟩;rw[hM9]
  exact⟨_,_,_,rfl,{av with pc:=show InR (5:zt) by decide},aw,qAA _ _ _ _ (GW.trans aN Y) ax⟩)
def qhc(g){cs aj}{w}{m:Ah}(aC:rWo g cs w)(hM:qdA g aj m)(ak:SnW w)(al:BgW 1000000 w)(aD:SmO m)(ae:hGo w m)(am:m.pc=5):Ok Tryz.prog 147 [.agg ⟨cs⟩,.agg ⟨aj⟩] g (HaP w m):=by
 obtain⟨P,hM9,C⟩:=qmB ae sa;obtain⟨an,ao,kE⟩:=ha5 am;rw[an]at P;rw[ao]at hM9;rw[kE]at C;clear an ao kE;have hs:=ae.1;obtain⟨v,be,bf,A⟩:=id (Am.1 hs);obtain⟨aE,aF,aG,aH,aI,aJ,aK,aL,aM,aN,aO,aP,aQ,aR,aT,aU,rfl,rfl,ap,aW,⟨bh,bi,bj⟩,bl,bm,bn,bo,bp,⟨bq,br,bt,bu⟩,⟨bv,bw,bx,bz⟩,⟨c1,c2,bA,bB⟩,⟨d1,d2,bC,bD⟩,⟨e1,e2,bE,bF⟩,R,H,T⟩:=qhB aC hM
 exact Ok.Aq hm qVD 5 Me.2 (args:=[.v (.agg ⟨wQ w aE aF aG aH aI aJ aK aL aM aN⟩),.v (.agg ⟨mQ m aO aP aQ aR aT aU⟩)]) (by
  refine zq ?_;intros;refine dT sa (zq ?_);intros;refine dF sa (zq ?_);intros;refine dF sa (zq ?_);intros;refine dF sa (zq ?_);intros;refine .inl ⟨_,qUA _ ap aW ak al,zq ?_⟩;intros;refine⟨λD=>absurd (hs.symm.trans (nb1 D)) sb,λ_=>zq ?_⟩;intros;have bG:0<=m.listen:=by have:=ae.2.2;omega
  refine zw ?_;refine dF sa (zq ?_);intros;refine zq ?_;intros;refine .inl ⟨_,qiB _,zq ?_⟩;intros;refine⟨5,⟨am,sb⟩,zq ?_⟩;intros;refine⟨λU=>(nomatch U),λ_=>zq ?_⟩;intros;refine .inr ((qSA _ ap al).mono λv g3 V aX=>?_);obtain⟨cs,bH,rfl,aY⟩:=aX;have E:=qbA aY;obtain⟨bI,bJ,bK,bL,bM,bN,bO,bP,bQ,bR,rfl⟩:=qLA E;obtain⟨x,D⟩:=qEA (l:=w.Aa) (i:=m.listen.toNat) (by have:=A.listen;omega);have aZ:mL w m=x:=by unfold mL;rw[D];rfl
  have bT:=A.listen;have a0:0<=m.listen/\m.listen<w.Aa.length:=sa
  have aq:=qzI E;obtain⟨bU,rfl⟩:=qVA aq D;obtain⟨bW,a1⟩:=qKH aq D;unfold hM5 at hM9;unfold hE5 at C;rw[aZ]at hM9 C;refine zq ?_;intros;refine⟨kF,zq ?_⟩;intros
  repeat'((first|refine⟨_,rfl,a0,zq ?_⟩|refine⟨_,a1 1 _ rfl,zq ?_⟩|rfl)<;>intros)
  refine zG (λz=>?_) (λz=>?_)
  .rw[zk z]at hM9 C;refine zq ?_;intros
   repeat'((first|refine⟨_,λq B h=>qQB q (h.cel (id:=6) rfl 10 rfl),?_⟩|refine zG ?_ ?_|fail)<;>first|(refine zq ?_;intros)|rfl)
   all_goals(conv=>whnf)
   all_goals(first|exact zAu _|(
   intro g2 u;refine⟨_,_,by rw[C]<;>rfl,by rw[P];exact qBA _ _ _ _ u E,?_⟩;rw[hM9]
   exact⟨_,_,_,rfl,{R with pc:=show InR (20:zt) by decide,answer:=qjF sb},H,qAA _ _ _ _ (GW.trans V u) T⟩))
  .rw[zj (by rw[z];decide)]at hM9 C;have ar:=qZK E;obtain⟨bX,rfl⟩:=qVA ar A.ver.2;obtain⟨bY,bZ,b0,b1,b2,b3,b4,b5,Y,a2,au,av⟩:=qzF ar A.ver.2;obtain⟨b6,rfl⟩:=qVA av A.clu.2;obtain⟨b7,cE,b8,b9,aw⟩:=qYI av A.clu.2;obtain⟨ca,rfl⟩:=qVA aw A.Ak.2;obtain⟨cb,cc,cd,ce,cf⟩:=qNH aw A.Ak.2;obtain⟨aa,cg,ch⟩:=A.idx;obtain⟨ax,ci,cj⟩:=A.at_;simp only[Cr,ax]at hM9;have ay:=ak v (zh A.ver.2);obtain⟨Q,ck,a3,a4⟩:=qNY v.Aw m.op.listen m.op.Bb m.op.path;have a5:=(qLN g3 a2 m.op.listen m.op.Bb m.op.path ⟨λr az=>⟨by have:=(ay.2 r az).1;omega,by have:=(ay.2 r az).2;omega⟩,aD⟩).to a3;have a6:=Y.sub 0 3;refine zq ?_;intros
   repeat'((first|refine⟨_,rfl,aa,zq ?_⟩|refine⟨_,⟨rfl,a6⟩,zq ?_⟩|refine .inl ⟨_,a5,zq ?_⟩|rfl)<;>intros)
   rcases a4 with⟨rfl,ab⟩|⟨a7,ab⟩
   rotate_left
   .refine zG (λ_=>?_) (λD=>absurd D (by simpa using a7));simp only[ab]at hM9;refine zq ?_;intros
    repeat'((first|refine⟨_,λq B h=>qQB q (h.cel (id:=6) rfl 10 rfl),?_⟩|refine zG ?_ ?_|fail)<;>first|(refine zq ?_;intros)|rfl)
    all_goals(conv=>whnf)
    all_goals(first|exact zAu _|(
    intro g2 u;refine⟨_,_,by rw[C]<;>rfl,by rw[P];exact qBA _ _ _ _ u E,?_⟩;rw[hM9]
    exact⟨_,_,_,rfl,{R with pc:=show InR (20:zt) by decide,answer:=qjF sb},H,qAA _ _ _ _ (GW.trans V u) T⟩))
   refine zG (λD=>absurd D se) (λ_=>?_);have W:=qaC A.right A.ver.2;have af:=q3J W.AJ ab;obtain⟨L,ac⟩:=qEA (l:=v.Aw.Ad) (i:=Q.toNat) sa;obtain⟨cm,a8⟩:=qEA (l:=v.Aj) (i:=Q.toNat) (by have:=W.len;omega);have a9:mC w {m with Af:=Q}=L:=by unfold mC;rw[show mV w {m with Af:=Q}=v from ax];show(v.Aw.Ad[Q.toNat]?).getD _=_;rw[ac];rfl
   simp only[ab,a9]at hM9;obtain⟨cn,ba,co,_,cp,_,_⟩:=W.ends a8;cases ac.symm.trans ba;have ag:L.Az.length<=17592186044416:=sa
   obtain⟨cq,rfl⟩:=qVA au ac;obtain⟨_,_,aA,ah⟩:=qEI au ac;obtain⟨cr,rfl,ct,_,bb⟩:=id aA;obtain⟨cu,cv,rfl,_⟩:=id bb;have ai:InR Q:=by have:=W.len;have:=W.Aj;unfold InR;omega
   have aB:=qTa g3 aA ag H.2.1 H.2.2.1;by_cases ad:qFA L=[]
   .have bc:=aB.to (v':=.tuple #[.int .i64 (qeC L m.op.d0),.int .i64 (qeC L m.op.d1),.int .i64 5]) (by simp[Hf,ad]);rw[zk ad]at hM9;refine zq ?_;intros
    repeat'((first|refine⟨_,λq B h=>qOF q (h.cel (id:=6) rfl 13 rfl) (h.cel (id:=6) rfl 15 rfl) (h.cel (id:=5) rfl 4 rfl) aa (Y.mono B) af (ah.mono B),zq ?_⟩|refine .inl ⟨_,bc,zq ?_⟩|rfl)<;>intros)
    refine⟨λ_=>zq ?_,λU=>nomatch U⟩;intros
    repeat'((first|refine⟨_,λq B h=>qQB q (h.cel (id:=6) rfl 10 rfl),?_⟩|refine zG ?_ ?_|fail)<;>first|(refine zq ?_;intros)|rfl)
    all_goals(conv=>whnf)
    all_goals(first|exact zAu _|(
    intro g2 u;refine⟨_,_,by rw[C]<;>rfl,by rw[P];exact qBA _ _ _ _ u E,?_⟩;rw[hM9]
    exact⟨_,_,_,rfl,{R with Af:=ai,pc:=show InR (20:zt) by decide,answer:=qjF sb},H,qAA _ _ _ _ (GW.trans V u) T⟩))
   .have bd:=aB.to (v':=.tuple #[.int .i64 (qeC L m.op.d0),.int .i64 (qeC L m.op.d1),.int .i64 0]) (by simp[Hf,ad]);rw[zj ad]at hM9;refine zq ?_;intros
    repeat'((first|refine⟨_,λq B h=>qOF q (h.cel (id:=6) rfl 13 rfl) (h.cel (id:=6) rfl 15 rfl) (h.cel (id:=5) rfl 4 rfl) aa (Y.mono B) af (ah.mono B),zq ?_⟩|refine .inl ⟨_,bd,zq ?_⟩|rfl)<;>intros)
    refine⟨λU=>(nomatch U),λ_=>zq ?_⟩;intros
    repeat'((first|refine⟨_,λq B h=>qOF q (h.cel (id:=6) rfl 13 rfl) (h.cel (id:=6) rfl 15 rfl) (h.cel (id:=5) rfl 4 rfl) aa (Y.mono B) af (ah.mono B),zq ?_⟩|rfl)<;>intros)
    refine zG (λz=>?_) (λz=>?_)
    .rw[zk (Cn z)]at hM9;refine zq ?_;intros
     repeat'((first|refine⟨_,λq B h=>qQB q (h.cel (id:=6) rfl 10 rfl),?_⟩|refine zG ?_ ?_|fail)<;>first|(refine zq ?_;intros)|rfl)
     all_goals(conv=>whnf)
     all_goals(first|exact zAu _|(
     intro g2 u;refine⟨_,_,by rw[C]<;>rfl,by rw[P];exact qBA _ _ _ _ u E,?_⟩;rw[hM9]
     exact⟨_,_,_,rfl,{R with Af:=ai,pc:=show InR (6:zt) by decide},H,qAA _ _ _ _ (GW.trans V u) T⟩))
    .rw[zj (Ei z)]at hM9;refine zq ?_;intros
     repeat'((first|refine⟨_,λq B h=>qQB q (h.cel (id:=6) rfl 10 rfl),?_⟩|refine zG ?_ ?_|fail)<;>first|(refine zq ?_;intros)|rfl)
     all_goals(conv=>whnf)
     all_goals(first|exact zAu _|(
     intro g2 u;refine⟨_,_,by rw[C]<;>rfl,by rw[P];exact qBA _ _ _ _ u E,?_⟩;rw[hM9]
     exact⟨_,_,_,rfl,{R with Af:=ai,Ak:=qIS ag,other:=qIS ag,pc:=show InR (7:zt) by decide},H,qAA _ _ _ _ (GW.trans V u) T⟩)))
def qgc(g){cs U}{w}{m:Ah}(ar:rWo g cs w)(hM:qdA g U m)(au:SnW w)(V:BgW 1000000 w)(Q:SmO m)(W:hGo w m)(C:m.pc=6):Ok Tryz.prog 147 [.agg ⟨cs⟩,.agg ⟨U⟩] g (HaP w m):=by
 obtain⟨E,hM9,H⟩:=qmB W sa;obtain⟨Y,aa,kE⟩:=ha6 C;rw[Y]at E;rw[aa]at hM9;rw[kE]at H;clear Y aa kE;have hs:=W.1;obtain⟨v,u,bh,h⟩:=id (Am.1 hs);obtain⟨av,aw,ax,ay,az,aA,aB,aC,aD,aE,aF,aG,aH,aI,aJ,aK,rfl,rfl,ab,aL,⟨bi,bj,bl⟩,bm,bn,bo,bp,bq,⟨br,bt,bu,bv⟩,⟨aM,aN,bw,bx⟩,⟨c1,c2,bz,bA⟩,⟨d1,d2,bB,bC⟩,⟨e1,e2,bD,bE⟩,aO,aP,aQ⟩:=qhB ar hM
 exact Ok.Aq hm qVD 5 Me.2 (args:=[.v (.agg ⟨wQ w av aw ax ay az aA aB aC aD aE⟩),.v (.agg ⟨mQ m aF aG aH aI aJ aK⟩)]) (by
  refine zq ?_;intros;refine dT sa (zq ?_);intros;refine dF sa (zq ?_);intros;refine dF sa (zq ?_);intros;refine dF sa (zq ?_);intros;refine .inl ⟨_,qUA _ ab aL au V,zq ?_⟩;intros;refine⟨λA=>absurd (hs.symm.trans (nb1 A)) sb,λ_=>zq ?_⟩;intros;refine⟨λ_=>?_,λ_=>?_⟩
  case' refine_1=>
   refine zq ?_;intros;refine⟨λA=>absurd A (by simp[C]),λ_=>zq ?_⟩;intros;refine⟨λA=>absurd A (by simp[C]),λ_=>zq ?_⟩;intros;refine⟨λA=>absurd A (by simp[C]),λ_=>?_⟩
  all_goals(
   refine zq ?_;intros;refine .inl ⟨_,qiB _,zq ?_⟩;intros;refine⟨6,⟨C,sb⟩,zq ?_⟩;intros;refine⟨λR=>(nomatch R),λ_=>zq ?_⟩;intros;refine .inr ((qSA _ ab V).mono λv g3 aR aT=>?_);obtain⟨cs,bF,rfl,ac⟩:=aT;have ad:=qbA ac;obtain⟨bG,bH,bI,bJ,bK,bL,bM,bN,bO,bP,rfl⟩:=qLA ad;obtain⟨aM,bQ,aN,bR,bT,bU,bW,bX,bY,aU,aW,aX,aY,bZ,aZ,_⟩:=qQF ac h.ver.2 h.clu.2;cases aU;have b0:=(q3H ad h.ver.2 h.clu.2 h.Ak.2).1;obtain⟨a0,a1,a2,a3,⟨L,a4,ae,a5,af⟩,_,a6⟩:=aZ (wU (u.AF+1)) (q6T _);obtain⟨ag,ah,b1⟩:=h.idx;obtain⟨a7,a8,b2⟩:=h.at_;have P:=h.cl;rw[a8]at E hM9 H;simp only[evV,a7]at E H;refine zq ?_;intros;refine⟨kF,zq ?_⟩;intros
   repeat'((first|refine⟨_,λD B q=>qkK D (q.cel (id:=6) rfl 13 rfl) (q.cel (id:=6) rfl 15 rfl) (q.cel (id:=5) rfl 4 rfl) ag (aW.mono B) ah,?_⟩|refine⟨_,aX 0 _ rfl,?_⟩|refine zG ?_ ?_|fail)<;>first|(refine zq ?_;intros)|rfl)
   refine⟨a0,a1,a2,a3,⟨by first|exact L|(rw[<-L];rfl)|(rw[<-L,qoB]),a4,ae,a5,af⟩,zq ?_⟩;intros;refine λai T=>?_;have aj:=qbA (a6 ai T);have a9:g<=ai:=T.le aR (λR=>by have:=g.wf _ R;omega);have ba:=T.rd ae af;rw[<-L]at ba;have bb:=qpA (y:=({v with Aj:=v.Aj.set m.Af.toNat ({u with AF:=wU (u.AF+1)}:Bi)}:AM)) h.ver.2;have ak:=qpA (y:=({u with AF:=wU (u.AF+1)}:Bi)) h.clu.2;have bc:=qZK aj;obtain⟨b3,b4,b5,b6,b7,b8,b9,ca,al,cb,am,an⟩:=qzF bc bb;obtain⟨cc,rfl⟩:=qVA an ak;obtain⟨cd,ce,cf,_,cg⟩:=qYI an ak;have ao:0<=m.Ac/\m.Ac<w.Ab.length:=ag;have ch:0<=m.Af/\m.Af<((v.Aj.set m.Af.toNat ({u with AF:=wU (u.AF+1)}:Bi)).length:Z):=by simpa only[zAd]using ah
   obtain⟨ci,rfl⟩:=qVA am P.1;obtain⟨_,_,ap,bd⟩:=qEI am P.1;obtain⟨cj,rfl,_,_,be⟩:=id ap;obtain⟨ck,cm,rfl,_⟩:=id be;have bf:0<=m.Af/\m.Af<v.Aw.Ad.length:=⟨h.clu.1,by have:=(ze.1 P.1).1;omega⟩;obtain⟨_,_,_,_,cn,_⟩:=(qaC h.right h.ver.2).ends h.clu.2;have Q:(mC w m).Az.length<=17592186044416:=by have:=P.2;omega
   refine zq ?_;intros
   repeat'((first|refine⟨_,λD B q=>qOF D (q.cel (id:=6) rfl 13 rfl) (q.cel (id:=6) rfl 15 rfl) (q.cel (id:=5) rfl 4 rfl) ao (al.mono B) bf (bd.mono B),?_⟩|refine .inl ⟨_,qNa _ ap Q aY,?_⟩|refine⟨_,λD B q=>qzD D (q.cel (id:=6) rfl 10 rfl) (q.cel (id:=6) rfl 13 rfl) (q.cel (id:=5) rfl 4 rfl) ao (al.mono B),?_⟩|refine zG ?_ ?_|fail)<;>first|(refine zq ?_;intros)|rfl)
   all_goals(conv=>whnf)
   all_goals(first|exact zAu _|(
   intro g2 aq;refine⟨_,_,by rw[H]<;>rfl,by rw[E];exact qBA _ _ _ _ aq aj,?_⟩;rw[hM9]
   exact⟨_,_,_,rfl,{aO with Ak:=qNR Q,pc:=show InR (9:zt) by decide},aP,qAA _ _ _ _ (GW.trans a9 aq) aQ⟩))))
def qfc(g){cs H}{w}{m:Ah}(ad:rWo g cs w)(hM:qdA g H m)(ae:SnW w)(L:BgW 1000000 w)(aM:SmO m)(P:hGo w m)(A:m.pc=7):Ok Tryz.prog 147 [.agg ⟨cs⟩,.agg ⟨H⟩] g (HaP w m):=by
 obtain⟨Q,hM9,B⟩:=qmB P sa;obtain⟨R,T,kE⟩:=ha7 A;rw[R]at Q;rw[T]at hM9;rw[kE]at B;clear R T kE;have hs:=P.1;obtain⟨v,aN,aO,h⟩:=id (Am.1 hs);obtain⟨af,ag,ah,ai,aj,ak,al,am,an,ao,ap,aq,ar,au,av,aw,rfl,rfl,U,ax,⟨aP,aQ,aR⟩,aT,aU,aW,aX,aY,⟨aZ,a0,a1,a2⟩,⟨a3,a4,a5,a6⟩,⟨c1,c2,a7,a8⟩,⟨d1,d2,a9,ba⟩,⟨e1,e2,bb,bc⟩,ay,az,aA⟩:=qhB ad hM
 exact Ok.Aq hm qVD 5 Me.2 (args:=[.v (.agg ⟨wQ w af ag ah ai aj ak al am an ao⟩),.v (.agg ⟨mQ m ap aq ar au av aw⟩)]) (by
  refine zq ?_;intros;refine dT sa (zq ?_);intros;refine dF sa (zq ?_);intros;refine dF sa (zq ?_);intros;refine dF sa (zq ?_);intros;refine .inl ⟨_,qUA _ U ax ae L,zq ?_⟩;intros;refine⟨λu=>absurd (hs.symm.trans (nb1 u)) sb,λ_=>zq ?_⟩;intros;refine⟨λ_=>?_,λ_=>?_⟩
  case' refine_1=>
   refine zq ?_;intros;refine⟨λu=>absurd u (by simp[A]),λ_=>zq ?_⟩;intros;refine⟨λu=>absurd u (by simp[A]),λ_=>zq ?_⟩;intros;refine⟨λu=>absurd u (by simp[A]),λ_=>?_⟩
  all_goals(
   refine zq ?_;intros;refine .inl ⟨_,qiB _,zq ?_⟩;intros;refine⟨7,⟨A,sb⟩,zq ?_⟩;intros;refine⟨λaB=>(nomatch aB),λ_=>zq ?_⟩;intros;refine .inr ((qSA _ U L).mono λv g3 aC aD=>?_);obtain⟨cs,bd,rfl,aE⟩:=aD;have D:=qbA aE;obtain⟨be,bf,bh,bi,bj,bl,bm,bn,bo,bp,rfl⟩:=qLA D;have V:=qZK D;obtain⟨bq,rfl⟩:=qVA V h.ver.2;obtain⟨br,bt,bu,bv,bw,bx,bz,bA,W,bB,bC,Y⟩:=qzF V h.ver.2;obtain⟨bD,rfl⟩:=qVA Y h.clu.2;obtain⟨bE,cE,aF,bF,aa⟩:=qYI Y h.clu.2;obtain⟨bG,rfl⟩:=qVA aa h.Ak.2;obtain⟨bH,bI,aG,aH,bJ⟩:=qNH aa h.Ak.2;obtain⟨ab,aI,aJ⟩:=h.idx;obtain⟨aK,bK,aL⟩:=h.at_;rw[aL]at hM9 B;simp only[evV,aK]at B;refine zq ?_;intros;refine⟨kF,zq ?_⟩;intros
   repeat'((first|refine⟨_,λE C q=>qdC E (q.cel (id:=6) rfl 13 rfl) (q.cel (id:=6) rfl 15 rfl) (q.cel (id:=6) rfl 16 rfl) (q.cel (id:=5) rfl 4 rfl) ab (W.mono C) aI (aF.mono C) aJ,?_⟩|refine⟨_,aG 2 _ rfl,?_⟩|refine⟨_,λE C q=>qzD E (q.cel (id:=6) rfl 10 rfl) (q.cel (id:=6) rfl 13 rfl) (q.cel (id:=5) rfl 4 rfl) ab (W.mono C),?_⟩|refine zG ?_ ?_|fail)<;>first|(refine zq ?_;intros)|rfl)
   all_goals(conv=>whnf)
   all_goals(first|exact zAu _|(
   intro g2 ac;refine⟨_,_,by rw[B]<;>rfl,by rw[Q];exact qBA _ _ _ _ ac D,?_⟩;rw[hM9]
   exact⟨_,_,_,rfl,{ay with i:=aH.2.1,pc:=show InR (8:zt) by decide},az,qAA _ _ _ _ (GW.trans aC ac) aA⟩))))
def qec(g){cs P}{w}{m:Ah}(af:rWo g cs w)(hM:qdA g P m)(ag:SnW w)(Q:BgW 1000000 w)(aP:SmO m)(R:hGo w m)(A:m.pc=8):Ok Tryz.prog 147 [.agg ⟨cs⟩,.agg ⟨P⟩] g (HaP w m):=by
 obtain⟨T,hM9,B⟩:=qmB R sa;obtain⟨U,V,kE⟩:=ha8 A;rw[U]at T;rw[V]at hM9;rw[kE]at B;clear U V kE;have hs:=R.1;obtain⟨v,ah,aQ,h⟩:=id (Am.1 hs);obtain⟨ai,aj,ak,al,am,an,ao,ap,aq,ar,au,av,aw,ax,ay,az,rfl,rfl,W,aA,⟨aR,aT,aU⟩,aW,aX,aY,aZ,a0,⟨a1,a2,a3,a4⟩,⟨a5,a6,a7,a8⟩,⟨c1,c2,a9,ba⟩,⟨d1,d2,bb,bc⟩,⟨e1,e2,bd,be⟩,C,aB,aC⟩:=qhB af hM
 exact Ok.Aq hm qVD 5 Me.2 (args:=[.v (.agg ⟨wQ w ai aj ak al am an ao ap aq ar⟩),.v (.agg ⟨mQ m au av aw ax ay az⟩)]) (by
  refine zq ?_;intros;refine dT sa (zq ?_);intros;refine dF sa (zq ?_);intros;refine dF sa (zq ?_);intros;refine dF sa (zq ?_);intros;refine .inl ⟨_,qUA _ W aA ag Q,zq ?_⟩;intros;refine⟨λq=>absurd (hs.symm.trans (nb1 q)) sb,λ_=>zq ?_⟩;intros;refine⟨λ_=>?_,λ_=>?_⟩
  case' refine_1=>
   refine zq ?_;intros;refine⟨λq=>absurd q (by simp[A]),λ_=>zq ?_⟩;intros;refine⟨λq=>absurd q (by simp[A]),λ_=>zq ?_⟩;intros;refine⟨λq=>absurd q (by simp[A]),λ_=>?_⟩
  all_goals(
   refine zq ?_;intros;refine .inl ⟨_,qiB _,zq ?_⟩;intros;refine⟨8,⟨A,sb⟩,zq ?_⟩;intros;refine⟨λaD=>(nomatch aD),λ_=>zq ?_⟩;intros;refine .inr ((qSA _ W Q).mono λv g3 aE aF=>?_);obtain⟨cs,bf,rfl,aG⟩:=aF;have D:=qbA aG;obtain⟨bh,bi,bj,bl,bm,bn,bo,bp,bq,br,rfl⟩:=qLA D;have Y:=qZK D;obtain⟨bt,rfl⟩:=qVA Y h.ver.2;obtain⟨bu,bv,bw,bx,bz,bA,bB,bC,aa,bD,bE,ab⟩:=qzF Y h.ver.2;obtain⟨bF,rfl⟩:=qVA ab h.clu.2;obtain⟨bG,cE,aH,bH,E⟩:=qYI ab h.clu.2;obtain⟨bI,rfl⟩:=qVA E h.Ak.2;obtain⟨bJ,bK,bL,bM,bN⟩:=qNH E h.Ak.2;obtain⟨ac,aI,bO⟩:=h.idx;obtain⟨aJ,aK,bP⟩:=h.at_;obtain⟨aL,ad⟩:=qEA (l:=ah.ends) (i:=m.other.toNat) (by have:=h.other;omega);obtain⟨bQ,bR,aM,bT,_⟩:=qNH E ad;have aN:mE w m m.other=aL:=by unfold mE;rw[aK,ad];rfl
   have aO:=h.other;rw[aN]at hM9 B;simp only[evV,aJ]at B;refine zq ?_;intros;refine⟨kF,zq ?_⟩;intros
   repeat'((first|refine⟨_,λH L u=>qkK H (u.cel (id:=6) rfl 13 rfl) (u.cel (id:=6) rfl 15 rfl) (u.cel (id:=5) rfl 4 rfl) ac (aa.mono L) aI,?_⟩|refine⟨_,aH 1 _ rfl,?_⟩|refine⟨_,rfl,aO,?_⟩|refine⟨_,aM 2 _ rfl,?_⟩|refine .inl ⟨_,qRa _,?_⟩|refine⟨_,λH L u=>qzD H (u.cel (id:=6) rfl 10 rfl) (u.cel (id:=6) rfl 13 rfl) (u.cel (id:=5) rfl 4 rfl) ac (aa.mono L),?_⟩|refine zG ?_ ?_|fail)<;>first|(refine zq ?_;intros)|rfl)
   all_goals(conv=>whnf)
   all_goals(first|exact zAu _|(
   intro g2 ae;refine⟨_,_,by rw[B]<;>rfl,by rw[T];exact qBA _ _ _ _ ae D,?_⟩;rw[hM9]
   exact⟨_,_,_,rfl,{C with Ak:=qAY C.Ak C.other,pc:=show InR (9:zt) by decide},aB,qAA _ _ _ _ (GW.trans aE ae) aC⟩))))
def qdc(g){cs ae}{w}{m:Ah}(ao:rWo g cs w)(hM:qdA g ae m)(ap:SnW w)(af:BgW 1000000 w)(aO:SmO m)(ag:hGo w m)(L:m.pc=9):Ok Tryz.prog 147 [.agg ⟨cs⟩,.agg ⟨ae⟩] g (HaP w m):=by
 obtain⟨Y,hM9,H⟩:=qmB ag sa;obtain⟨ah,ai,kE⟩:=ha9 L;rw[ah]at Y;rw[ai]at hM9;rw[kE]at H;clear ah ai kE;have hs:=ag.1;obtain⟨v,aP,aj,A⟩:=id (Am.1 hs);obtain⟨aq,ar,au,av,aw,ax,ay,az,aA,aB,aC,aD,aE,aF,aG,aH,rfl,rfl,ak,aI,⟨aQ,aR,aT⟩,aU,aW,aX,aY,aZ,⟨a0,a1,a2,a3⟩,⟨a4,a5,a6,a7⟩,⟨c1,c2,a8,a9⟩,⟨d1,d2,ba,bb⟩,⟨e1,e2,bc,bd⟩,aa,ab,ac⟩:=qhB ao hM
 exact Ok.Aq hm qVD 5 Me.2 (args:=[.v (.agg ⟨wQ w aq ar au av aw ax ay az aA aB⟩),.v (.agg ⟨mQ m aC aD aE aF aG aH⟩)]) (by
  refine zq ?_;intros;refine dT sa (zq ?_);intros;refine dF sa (zq ?_);intros;refine dF sa (zq ?_);intros;refine dF sa (zq ?_);intros;refine .inl ⟨_,qUA _ ak aI ap af,zq ?_⟩;intros;refine⟨λE=>absurd (hs.symm.trans (nb1 E)) sb,λ_=>zq ?_⟩;intros;refine⟨λ_=>?_,λ_=>?_⟩
  case' refine_1=>
   refine zq ?_;intros;refine⟨λE=>absurd E (by simp[L]),λ_=>zq ?_⟩;intros;refine⟨λE=>absurd E (by simp[L]),λ_=>zq ?_⟩;intros;refine⟨λE=>absurd E (by simp[L]),λ_=>?_⟩
  all_goals(
   refine zq ?_;intros;refine .inl ⟨_,qiB _,zq ?_⟩;intros;refine⟨9,⟨L,sb⟩,zq ?_⟩;intros;refine⟨λaJ=>(nomatch aJ),λ_=>zq ?_⟩;intros;refine .inr ((qSA _ ak af).mono λv g3 ad aK=>?_);obtain⟨cs,be,rfl,aL⟩:=aK;have P:=qbA aL;obtain⟨bf,bh,bi,bj,bl,bm,bn,bo,bp,bq,rfl⟩:=qLA P;have al:=qZK P;obtain⟨br,rfl⟩:=qVA al A.ver.2;obtain⟨bt,bu,bv,bw,bx,bz,bA,bB,B,bC,bD,am⟩:=qzF al A.ver.2;obtain⟨bE,rfl⟩:=qVA am A.clu.2;obtain⟨bF,cE,Q,bG,an⟩:=qYI am A.clu.2;obtain⟨bH,rfl⟩:=qVA an A.Ak.2;obtain⟨bI,bJ,R,T,bK⟩:=qNH an A.Ak.2;obtain⟨C,U,V⟩:=A.idx;obtain⟨aM,bL,aN⟩:=A.at_;unfold Go.Proofs.YtlmhpamhhgogaaaGreat.Sx.hM9 at hM9;rw[aN]at hM9 H;simp only[evV,aM]at H;have bM:=q5R aj.head;have bN:=T.2.2;refine zq ?_;intros;refine⟨kF,zq ?_⟩;intros
   repeat'((first|refine⟨_,λu q h=>qdC u (h.cel (id:=6) rfl 13 rfl) (h.cel (id:=6) rfl 15 rfl) (h.cel (id:=6) rfl 16 rfl) (h.cel (id:=5) rfl 4 rfl) C (B.mono q) U (Q.mono q) V,?_⟩|refine⟨_,R 0 _ rfl,?_⟩|refine .inl ⟨_,q4B _ T.1,?_⟩|refine zG ?_ ?_|fail)<;>first|(refine zq ?_;intros)|rfl)
   all_goals(try exact zAu _)
   .intro z;have z:=zd z;rw[zj sa]at hM9;refine zq ?_;intros
    repeat'((first|refine⟨_,λu q h=>qdC u (h.cel (id:=6) rfl 13 rfl) (h.cel (id:=6) rfl 15 rfl) (h.cel (id:=6) rfl 16 rfl) (h.cel (id:=5) rfl 4 rfl) C (B.mono q) U (Q.mono q) V,?_⟩|refine⟨_,R 0 _ rfl,?_⟩|refine⟨_,λu q h=>qzD u (h.cel (id:=6) rfl 10 rfl) (h.cel (id:=6) rfl 13 rfl) (h.cel (id:=5) rfl 4 rfl) C (B.mono q),?_⟩|refine zG ?_ ?_|fail)<;>first|(refine zq ?_;intros)|rfl)
    all_goals(conv=>whnf)
    all_goals(first|exact zAu _|(
    intro g2 D;refine⟨_,_,by rw[H]<;>rfl,by rw[Y];exact qBA _ _ _ _ D P,?_⟩;rw[hM9]
    exact⟨_,_,_,rfl,{aa with word:=T.1,pc:=show InR (20:zt) by decide,answer:=qjF sb},ab,qAA _ _ _ _ (GW.trans ad D) ac⟩))
   .intro z;have z:=zf z;refine zq ?_;intros
    repeat'((first|refine⟨_,λu q h=>qdC u (h.cel (id:=6) rfl 13 rfl) (h.cel (id:=6) rfl 15 rfl) (h.cel (id:=6) rfl 16 rfl) (h.cel (id:=5) rfl 4 rfl) C (B.mono q) U (Q.mono q) V,zq ?_⟩|refine⟨_,R 1 _ rfl,zq ?_⟩|rfl)<;>intros)
    refine zG (λW=>?_) (λW=>?_)
    .have W:=zd W;rw[zj sa]at hM9;refine zq ?_;intros
     repeat'((first|refine⟨_,λu q h=>qdC u (h.cel (id:=6) rfl 13 rfl) (h.cel (id:=6) rfl 15 rfl) (h.cel (id:=6) rfl 16 rfl) (h.cel (id:=5) rfl 4 rfl) C (B.mono q) U (Q.mono q) V,?_⟩|refine⟨_,R 0 _ rfl,?_⟩|refine⟨_,λu q h=>qzD u (h.cel (id:=6) rfl 10 rfl) (h.cel (id:=6) rfl 13 rfl) (h.cel (id:=5) rfl 4 rfl) C (B.mono q),?_⟩|refine zG ?_ ?_|fail)<;>first|(refine zq ?_;intros)|rfl)
     all_goals(conv=>whnf)
     all_goals(first|exact zAu _|(
     intro g2 D;refine⟨_,_,by rw[H]<;>rfl,by rw[Y];exact qBA _ _ _ _ D P,?_⟩;rw[hM9]
     exact⟨_,_,_,rfl,{aa with word:=T.1,pc:=show InR (20:zt) by decide,answer:=qjF sb},ab,qAA _ _ _ _ (GW.trans ad D) ac⟩))
    .have W:=zf W;rw[zk sa]at hM9;refine zq ?_;intros
     repeat'((first|refine⟨_,λu q h=>qdC u (h.cel (id:=6) rfl 13 rfl) (h.cel (id:=6) rfl 15 rfl) (h.cel (id:=6) rfl 16 rfl) (h.cel (id:=5) rfl 4 rfl) C (B.mono q) U (Q.mono q) V,?_⟩|refine⟨_,R 0 _ rfl,?_⟩|refine⟨_,λu q h=>qzD u (h.cel (id:=6) rfl 10 rfl) (h.cel (id:=6) rfl 13 rfl) (h.cel (id:=5) rfl 4 rfl) C (B.mono q),?_⟩|refine zG ?_ ?_|fail)<;>first|(refine zq ?_;intros)|rfl)
     all_goals(conv=>whnf)
     all_goals(first|exact zAu _|(
     intro g2 D;refine⟨_,_,by rw[H]<;>rfl,by rw[Y];exact qBA _ _ _ _ D P,?_⟩;rw[hM9]
     exact⟨_,_,_,rfl,{aa with word:=T.1,slot:=show InR (AX aj.head) by unfold InR;omega,pc:=show InR (10:zt) by decide},ab,qAA _ _ _ _ (GW.trans ad D) ac⟩))))
def qHa(g){cs L}{w}{m:Ah}(af:rWo g cs w)(hM:qdA g L m)(ag:SnW w)(P:BgW 1000000 w)(aR:SmO m)(Q:hGo w m)(A:m.pc=10):Ok Tryz.prog 147 [.agg ⟨cs⟩,.agg ⟨L⟩] g (HaP w m):=by
 obtain⟨R,hM9,B⟩:=qmB Q sa;obtain⟨T,U,kE⟩:=HN A;rw[T]at R;rw[U]at hM9;rw[kE]at B;clear T U kE;have hs:=Q.1;obtain⟨v,aT,ah,h⟩:=id (Am.1 hs);obtain⟨ai,aj,ak,al,am,an,ao,ap,aq,ar,au,av,aw,ax,ay,az,rfl,rfl,V,aA,⟨aU,aW,aX⟩,aY,aZ,a0,a1,a2,⟨a3,a4,a5,a6⟩,⟨a7,a8,a9,ba⟩,⟨c1,c2,bb,bc⟩,⟨d1,d2,bd,be⟩,⟨e1,e2,bf,bh⟩,aB,aC,aD⟩:=qhB af hM
 exact Ok.Aq hm qVD 5 Me.2 (args:=[.v (.agg ⟨wQ w ai aj ak al am an ao ap aq ar⟩),.v (.agg ⟨mQ m au av aw ax ay az⟩)]) (by
  refine zq ?_;intros;refine dT sa (zq ?_);intros;refine dF sa (zq ?_);intros;refine dF sa (zq ?_);intros;refine dF sa (zq ?_);intros;refine .inl ⟨_,qUA _ V aA ag P,zq ?_⟩;intros;refine⟨λu=>absurd (hs.symm.trans (nb1 u)) sb,λ_=>zq ?_⟩;intros;refine⟨λ_=>?_,λ_=>?_⟩
  case' refine_1=>
   refine zq ?_;intros;refine⟨λu=>absurd u (by simp[A]),λ_=>zq ?_⟩;intros;refine⟨λu=>absurd u (by simp[A]),λ_=>zq ?_⟩;intros;refine⟨λu=>absurd u (by simp[A]),λ_=>?_⟩
  all_goals(
   refine zq ?_;intros;refine .inl ⟨_,qiB _,zq ?_⟩;intros;refine⟨10,⟨A,sb⟩,zq ?_⟩;intros;refine⟨λaE=>(nomatch aE),λ_=>zq ?_⟩;intros;refine .inr ((qSA _ V P).mono λv g3 aF aG=>?_);obtain⟨cs,bi,rfl,aH⟩:=aG;have D:=qbA aH;obtain⟨bj,bl,bm,bn,bo,bp,bq,br,bt,bu,rfl⟩:=qLA D;have W:=qZK D;obtain⟨bv,rfl⟩:=qVA W h.ver.2;obtain⟨bw,bx,bz,bA,bB,bC,bD,bE,Y,bF,bG,aa⟩:=qzF W h.ver.2;obtain⟨bH,rfl⟩:=qVA aa h.clu.2;obtain⟨bI,cE,aI,bJ,ab⟩:=qYI aa h.clu.2;obtain⟨bK,rfl⟩:=qVA ab h.Ak.2;obtain⟨bL,bM,aJ,bN,ac⟩:=qNH ab h.Ak.2;obtain⟨ad,aK,aL⟩:=h.idx;obtain⟨aM,bO,aN⟩:=h.at_;obtain⟨y,E⟩:=qEA (l:=ah.next) (i:=m.slot.toNat) (by have:=h.slot;omega);obtain⟨bP,rfl⟩:=qVA ac E;obtain⟨aO,aP⟩:=qMM ac E;have aQ:=h.slot;rw[aN,E]at hM9 B;simp only[evV,aM,zAG]at B hM9;refine zq ?_;intros;refine⟨kF,zq ?_⟩;intros
   repeat'((first|refine⟨_,λH C q=>qdC H (q.cel (id:=6) rfl 13 rfl) (q.cel (id:=6) rfl 15 rfl) (q.cel (id:=6) rfl 16 rfl) (q.cel (id:=5) rfl 4 rfl) ad (Y.mono C) aK (aI.mono C) aL,?_⟩|refine⟨_,aJ 1 _ rfl,?_⟩|refine⟨_,rfl,aQ,?_⟩|refine⟨_,aP 0 _ rfl,?_⟩|refine⟨_,λH C q=>qzD H (q.cel (id:=6) rfl 10 rfl) (q.cel (id:=6) rfl 13 rfl) (q.cel (id:=5) rfl 4 rfl) ad (Y.mono C),?_⟩|refine zG ?_ ?_|fail)<;>first|(refine zq ?_;intros)|rfl)
   all_goals(conv=>whnf)
   all_goals(first|exact zAu _|(
   intro g2 ae;refine⟨_,_,by rw[B]<;>rfl,by rw[R];exact qBA _ _ _ _ ae D,?_⟩;rw[hM9]
   exact⟨_,_,_,rfl,{aB with link:=aO,pc:=show InR (11:zt) by decide},aC,qAA _ _ _ _ (GW.trans aF ae) aD⟩))))
end Go.Proofs.YtlmhpamhhgogaaaGreat
