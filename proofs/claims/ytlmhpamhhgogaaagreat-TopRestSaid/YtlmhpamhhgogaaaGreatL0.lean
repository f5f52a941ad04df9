import Derived.Lib.Walk
import Derived.Lib.Strings
import Derived.Test.YtlmhpamhhgogaaaGreatF1
import Derived.Test.YtlmhpamhhgogaaaGreatF2
import Derived.Test.YtlmhpamhhgogaaaGreatP0
set_option linter.all false
set_option maxHeartbeats 16000000
set_option maxRecDepth 100000
open And renaming intro→zI
open Bool renaming false→zb,true→I
open Classical renaming propDecidable→zDR
open Eq renaming refl→zAx
open Go renaming Value→zg,World→zp,Program→zt,execOp→zy,maxLen→zAr,TypeId→zAy,Addr→zAH,Act→zDN,Oper→zDO
open Go.Deferred renaming ofValue→zBH
open Go.IntKind renaming i64→zAf,wrap_i64→zBB,u64→zBO
open Go.Proofs.Tryz renaming prog→X0
open Go.Region renaming wanted→zAs
open Go.Value renaming int→zD,oneCell'→zA0,bool→zBm
open Go.Value.slice renaming injEq→zAp
open List renaming replicate→zA5,range→zBf
open Option renaming some→O,none→zc
open _root_ renaming List→F,Nat→Z,Int→zn,Option→zs,Bool→zM,Array→zR,False→zV
namespace Go.Proofs.YtlmhpamhhgogaaaGreat
open Go.Proofs.YtlmhpamhhgogaaaGreat.Sx
def hm:X0.follows .mixedOrders=I:=se
def noT:qqB X0 []:=λ_ h=>nomatch h
def qPA{n:Z}{f:FnI}{o u}{l:F (Z×FnI)}(h:F1 X0 n o u=O f)(k:qqB X0 l):qqB X0 ((n,f)::l):=λx q=>by
 rcases zJ.1 q with rfl|q
 .exact⟨o,u,h⟩
 .exact k x q
def qnX(g)(c):OkV X0 110 [.int .u8 c] g (.bool (J3 c)):=
 Ok.Ao hm noT 0 IS.2 (args:=[.v (.int .u8 c)]) (by
  repeat'((conv=>whnf);apply zI<;>intro _)
  all_goals((conv=>whnf);intro h q;simp_all [J3]<;>omega))
def qVQ(g)(c):OkV X0 143 [.int .u8 c] g (.bool (qNJ c)):=
 Ok.Ao hm noT 0 G9.2 (args:=[.v (.int .u8 c)]) (by
  refine zw ?_;refine .inl ⟨_,qnX _ _,?_⟩
  repeat'((conv=>whnf);apply zI<;>intro _)
  all_goals((conv=>whnf);intro h q;simp_all [qNJ]<;>omega))
def tN:F (Z×FnI):=[(111,Gg.1),(112,CS.1)]
def qna:qqB X0 tN:=qPA Gg.2 (qPA CS.2 noT)
def qHI(g)(s):OkV X0 65 [.string s] g (.bool (qxD (bs s))):=
 Ok.Ao hm qna 1 Ig.2 (args:=[.v (.string s)]) (by
  refine zw ?_;refine⟨λB=>?_,λB=>?_⟩
  .refine zw ?_;refine⟨λC=>?_,λC=>?_⟩
   .have W:=ze B;have Y:=ze C;rw[qkA]at W Y;obtain⟨c0,M⟩:∃c0,(bs s)[0]?=O c0:=⟨(bs s)[0]'sa,zAe sa⟩;have P:(bs s).head?.any (λc=>J3 c.toNat)=J3 c0.toNat:=by rw[zC8,M];rfl
    refine zw ?_;refine⟨c0,⟨sa,M⟩,zw ?_⟩;refine .inl ⟨_,qnX _ _,zw ?_⟩;refine⟨λD=>?_,λD=>?_⟩
    .refine zw ?_;intro b1;refine zw ?_;refine⟨rfl,zw ?_⟩;refine⟨rfl,zw ?_⟩;intro aa;refine zw ?_;refine⟨Z,λi=>[.v (.int .i64 i)],λ_=>⟨g,[.blk 1 aa _ [.v (.func (.func 143) #[] #[])],.blk 0 b1 _ [.v (.func (.func 143) #[] #[])]],_,_⟩,λi=>i<=(bs s).length/\((bs s).take i).all (λc=>qNJ c.toNat)=I,λi=>(bs s).length-i,λ_ _ q=>⟨0,rfl,⟨zF _,rfl⟩,q⟩,?_⟩;intro i Q;have ab:=Q.1;have E:=Q.2;refine zw ?_;refine⟨λH=>?_,λH=>?_⟩
     .have h:i<(bs s).length:=by have:=ze H;rw[qkA]at this;omega
      obtain⟨c,R,T⟩:∃c,(bs s)[i]=c/\(bs s)[i]?=O c:=⟨_,rfl,zAe h⟩;have U:∀b,qNJ c.toNat=b->((bs s).take (i+1)).all (λc=>qNJ c.toNat)=b:=λb u=>by rw[qYD h,E,R,u];rfl
      have V:zAf.wrap ((i:zn)+1)=((i+1:Z):zn):=by rw[wr sa];simp
      refine zw ?_;refine⟨c,⟨sa,T⟩,zw ?_⟩;refine⟨λL=>?_,λL=>?_⟩
      .refine zw ?_;refine⟨rfl,zw ?_⟩;refine⟨c,⟨sa,T⟩,zw ?_⟩;refine⟨kF,zw ?_⟩;refine .inl ⟨_,qVQ _ _,zw ?_⟩;refine⟨λu=>?_,λu=>?_⟩
       .refine zw ?_;intro w A;rw[qxD,qtB h (by rw[R];simpa using u)];simp
       .refine zw ?_;refine λ_ _ q=>⟨i+1,zK (λz=>[zD .i64 z]) V.symm,⟨h,U _ (by simpa using u)⟩,dec h,q⟩
      .refine zw ?_;refine λ_ _ q=>⟨i+1,zK (λz=>[zD .i64 z]) V.symm,⟨h,U _ (by simp at L;simp[qNJ,L])⟩,dec h,q⟩
     .refine zw ?_;intro w A;have:i=(bs s).length:=by have:=zf H;rw[qkA]at this;omega
      rw[this,zAB]at E;rw[qxD,E,P,D,zC (p:=0<(bs s).length) sa,zC (p:=(bs s).length<=16) sa];rfl
    .refine zw ?_;intro w A;simp[qxD,P,D]
   .refine zw ?_;intro w A;have:=zf C;rw[qkA]at this;rw[qxD,zE (p:=(bs s).length<=16) sa];simp
  .refine zw ?_;intro w A;have:=zf B;rw[qkA]at this
   rw[qxD,zE (p:=0<(bs s).length) sa];simp)
section
variable{H:Type}{enc:zAy×zg->H}{W:zp}
def qCN:Rds enc X0 W 153 q4K:=qFW (tS:=9) se se se
def qiK:Rds enc X0 W 151 qOC:=qmR (tS:=9) (tI:=3) (tL:=149) (tB:=4) se se se se se se se
def FX:Rds enc X0 W 26 qHB:=by
 intro fuel cs x h
 obtain⟨a,b,d,rfl,⟨q,u⟩,⟨w,A⟩,B,C⟩:=qEW (t0:=22) (t1:=23) (t2:=24) (e0:=9) (e1:=153) (e2:=151) (z0:=1) (z1:=4) (z2:=4)
  se se se se se se se se sa sa sa (q0K se) qCN qiK h
 exact⟨⟨q,w,B⟩,a,b,d,rfl,u,A,C⟩
end
section
variable{H:Type}{enc:zAy×zg->H}{W:zp}
end
end Go.Proofs.YtlmhpamhhgogaaaGreat
namespace Go.Proofs.YtlmhpamhhgogaaaGreat
open Go.Conc (G)
open Go.RowKit Go.Lib Go.Proofs.YtlmhpamhhgogaaaGreat.Sx
def quG{P}(a):∀(n:Z)(h:ByteArray),(Extern.Bytes.loadBytes a n h).Calm P
 |0,_=>qHA _
 |n+1,h=>by
  unfold Extern.Bytes.loadBytes;refine qEA (qFD _ _) λv=>?_;split
  .exact quG _ n _
  .exact qRA _
def q3N{P}(v):(Extern.Bytes.bytesOf v).Calm P:=by
 unfold Extern.Bytes.bytesOf;split<;>first|exact qHA _|exact qRA _|exact quG ..
def qWP{P}(v):(Extern.Bytes.asByte v).Calm P:=by
 unfold Extern.Bytes.asByte;split<;>first|exact qHA _|exact qRA _
def qlK{P}(xs):(Extern.BytealgIndexByte.indexByte xs).Calm P:=by
 rcases xs with⟨_|⟨a,_|⟨b,_|⟨c,l⟩⟩⟩⟩<;>try exact qRA _
 show Sem.Calm P (Extern.Bytes.bytesOf a>>=_);refine qEA (q3N _) λ_=>qEA (qWP _) λ_=>?_;split<;>exact qHA _
def qVP{P}{f}{fn}{e}(q:P.funcs[f]? =O fn)(h:(fn.name== "runtime.NumGoroutine")=zb)(hb:fn.body.isNone=I)(u:Extern.findNext fn=zc)(w:Extern.find fn=O e)(args)(hc:(e args).Calm P):(callFunc f args).Calm P:=by
 have B:fn.name≠ "runtime.NumGoroutine" :=by simpa using h
 have A:fn.body=zc:=by simpa using hb
 unfold callFunc;refine q5A ?_;simp only[q,h,zAS,zCd,A,Option.isNone_none,zBp,u,w];refine qEA (s:=mark _) ⟨sd,sd,trivial⟩ λ_=>qEA hc λ_=>qHA _
def qUK{P:zt}{E:Env P}{r:zs Z}{o:zDO}{a:zDN}{w:zp}{K:zDN->zp->Prop}{v:zg}(hc:(o.semAt r a.eval).Calm P)(h:(o.semAt r a.eval).run P w=.ok (.value v) w)(q:K (a.put o.dst v) w):o.atX E r a w K:=by
 refine⟨hc,?_⟩;rw[h];exact⟨.refl _,q⟩
def qic{P:zt}{E:Env P}{r:zs Z}{o:zDO}{a:zDN}{w:zp}{K:zDN->zp->Prop}{v:zg}{s:Sem Next}(e:o.semAt r a.eval=s)(hc:s.Calm P)(h:s.run P w=.ok (.value v) w)(q:K (a.put o.dst v) w):o.atX E r a w K:=
 qUK (e▸hc) (e▸h) q
def qkF{P:zt}{E:Env P}{r:zs Z}{ops:zR zDO}{i:Z}{l:F Z}{o:zDO}{a:zDN}{w:zp}{K:zDN->zp->Prop}(q:ops[i]?=O o)(u:zAs o (yielded ops a.tmps)=I)(h:∀d,o.atX E r a (w.at d) (qNE E r ops K l)):qNE E r ops K (i::l) a w:=by
 simp only[qNE,qHC,q,u,zBp];exact h
def ib(s:ByteArray)(c:zn)(w:zp)(E:Env X0):BH E 253 #[.string s,.int .u8 c] w λe w'=>e=.returned (.int .i64 (Lib.indexByte s.data.toList c.toNat.toUInt8))/\Below w.heap.size w w':=by
 refine qDG Tryz.func253 rfl ?_;simp only[Tryz.ntmps253,zDw,zBb,zCo,Nat.reduceAdd,Nat.reduceSub,Array.replicate_succ,Array.replicate_zero,List.push_toArray,List.append_toArray,zB0,zCx];refine q6H (qME (qkF (l:=[]) rfl rfl (λd=>qUK (qEA (qHA _) λ_=>qHA _) rfl ?_)));refine λd2=>q6H (qME ?_);refine qkF rfl rfl (λd=>qUK (qHA _) rfl ?_);refine qkF rfl rfl (λd=>qUK (qHA _) rfl ?_)
 have hx:∀(a:zDN),a.eval (.tmp 5)=.string s->a.eval (.tmp 6)=.int .u8 c->Oper.semAt zc a.eval {dst:=O 7,op:=Op.call {callee:=Callee.value (Operand.func 258),args:=#[Operand.tmp 5,Operand.tmp 6],argTypes:=#[9,5]},type:=3,pos:= "strings.go:25",after:=#[{on:=0,ground:=Ground.data},{on:=1,ground:=Ground.data}],guard:=zc}=callFunc 258 #[.string s,.int .u8 c]:=by
  intro a h1 h2;simp only[Act.eval]at h1 h2;simp[Oper.semAt,zy,resolve,zBH,invoke,Act.eval,h1,h2]
 refine qkF rfl rfl (λd=>qic (v:=.int .i64 (Lib.indexByte s.data.toList c.toNat.toUInt8)) (hx _ rfl rfl) ?_ ?_ ?_)
 .exact qVP Tryz.func258 se se se (e:=Extern.BytealgIndexByte.indexByte) se _ (qlK _)
 .rw[run_callFunc_extern Tryz.func258 se se se (e:=Extern.BytealgIndexByte.indexByte) se,Lib.run_indexByteString];rfl
 refine qkF rfl rfl (λd=>qUK (qEA (qHA _) λ_=>qHA _) rfl ?_);refine λd=>qdL ?_;refine λd=>⟨_,results_tmp rfl _ _ _,rfl,?_⟩;exact⟨rfl,rfl,rfl,zG _,λ_ _=>rfl⟩
end Go.Proofs.YtlmhpamhhgogaaaGreat
namespace Go.Proofs.YtlmhpamhhgogaaaGreat
open Go.Proofs.YtlmhpamhhgogaaaGreat.Sx
def MX(g)(s)(c):OkV X0 253 [.string s,.int .u8 c] g (.int .i64 (Lib.indexByte (bs s) c.toNat.toUInt8)):=
 Ok.of_same λh q=>ib s c h q
def qIN(g)(s)(c):OkV X0 233 [.string s,.int .u8 c] g (.int .i64 (Lib.indexByte (bs s) c.toNat.toUInt8)):=
 Ok.Ao hm noT 0 FB.2 (args:=[.v (.string s),.v (.int .u8 c)]) (by
  refine zw ?_;refine .inl ⟨_,MX _ _ _,zw ?_⟩;intro h q
  rfl)
def tH:F (Z×FnI):=[(195,FV.1),(232,EV.1)]
def Ms:qqB X0 tH:=qPA FV.2 (qPA EV.2 noT)
def qqO(g)(s):OkV X0 162 [.string s] g (.bool (q3I (bs s))):=
 Ok.Ao hm Ms 2 Ih.2 (args:=[.v (.string s)]) (by
  refine zw ?_;intro V;refine zw ?_;refine⟨λu=>?_,λu=>?_⟩
  .refine zw ?_;refine⟨rfl,zw ?_⟩;refine⟨rfl,zw ?_⟩;intro C D;have:=ze u;rw[qkA]at this;rw[q3I,zE sa];rfl
  .refine zw ?_;intro b1;refine zw ?_;intro W;refine zw ?_;refine⟨kF,λl Y=>zw ?_⟩;refine⟨ByteArray,λ_=>[],λt=>⟨g,[.lp 3 l Y .ready,.blk 2 W _ [.v (.int .u8 46)],.blk 1 b1 _ [.v (.string t)],.blk 0 V _ [.v (.bool zb)]],_,_⟩,λt=>t.size<=32/\(q8C 46 (bs t)).all qxD=(q8C 46 (bs s)).all qxD,λt=>t.size,λ_ _ E=>⟨s,rfl,⟨by have:=zf u;omega,rfl⟩,E⟩,?_⟩;intro t P;have A:=P.2;have ab:=P.1
   have Q:Lib.indexByte (bs t) (46:zn).toNat.toUInt8<0->q8C 46 (bs t)=[bs t]:=λH=>by
    rcases qjF 46 (bs t)with⟨_,q⟩|⟨i,_,q,_⟩
    .exact q
    .rw[show(46:zn).toNat.toUInt8=46 from rfl,q]at H;omega
   refine zw ?_;refine⟨rfl,zw ?_⟩;refine⟨rfl,zw ?_⟩;refine .inl ⟨_,qIN _ _ _,zw ?_⟩;refine⟨λq=>?_,λq=>?_⟩
   .refine zw ?_;refine⟨rfl,zw ?_⟩;refine⟨rfl,zw ?_⟩;refine⟨⟨rfl,rfl⟩,zw ?_⟩;refine⟨rfl,zw ?_⟩;refine .inl ⟨_,qHI _ _,zw ?_⟩;refine⟨λh=>?_,λh=>?_⟩
    .refine zw ?_;refine⟨rfl,zw ?_⟩;refine⟨rfl,zw ?_⟩;refine⟨rfl,zw ?_⟩;refine⟨rfl,zw ?_⟩;intro C D;have w:(q8C 46 (bs t)).all qxD=zb:=by rw[Q (ze q)];simp at h;simp[h]
     rw[q3I,<-A,w];simp
    .refine zw ?_;refine⟨rfl,zw ?_⟩;refine⟨rfl,zw ?_⟩;refine⟨rfl,zw ?_⟩;refine⟨rfl,zw ?_⟩;intro C D;have w:(q8C 46 (bs t)).all qxD=I:=by rw[Q (ze q)];simp at h;simp[h]
     have:=zf u;rw[qkA]at this;rw[q3I,<-A,w,zC sa];rfl
   .have aa:=zf q
    obtain⟨i,ac,B,R⟩:∃i:Z,i<(bs t).length/\Lib.indexByte (bs t) (46:zn).toNat.toUInt8=i/\q8C 46 (bs t)=(bs t).take i::q8C 46 ((bs t).drop (i+1)):=by
     rcases qjF 46 (bs t)with⟨u,_⟩|H
     .rw[show(46:zn).toNat.toUInt8=46 from rfl,u]at aa;omega
     .exact H
    have T:=qkA t;refine zw ?_;refine⟨rfl,zw ?_⟩;refine⟨⟨by rw[B];omega,by rw[B];omega⟩,zw ?_⟩;refine⟨rfl,zw ?_⟩;refine⟨⟨rfl,rfl⟩,zw ?_⟩;refine⟨rfl,zw ?_⟩;refine .inl ⟨_,qHI _ _,?_⟩;have U:bs (t.extract 0 (Lib.indexByte (bs t) (46:zn).toNat.toUInt8).toNat)=(bs t).take i:=by rw[qeD,B];simp
    refine zw ?_;refine⟨λh=>?_,λh=>?_⟩
    .refine zw ?_;refine⟨rfl,zw ?_⟩;refine⟨rfl,zw ?_⟩;refine⟨rfl,zw ?_⟩;refine⟨rfl,zw ?_⟩;intro C D;rw[U]at h;have w:(q8C 46 (bs t)).all qxD=zb:=by rw[R];simp at h;simp[h]
     rw[q3I,<-A,w];simp
    .refine zw ?_;refine⟨rfl,zw ?_⟩;refine⟨rfl,?_⟩;have L:zAf.wrap (Lib.indexByte (bs t) (46:zn).toNat.toUInt8+1)=((i+1:Z):zn):=by rw[B,wr sa];simp
     have M:bs (t.extract (zAf.wrap (Lib.indexByte (bs t) (46:zn).toNat.toUInt8+1)).toNat t.size)=(bs t).drop (i+1):=by
      rw[qeD,L,zBn,T];exact zAw sd
     refine zw ?_;refine⟨⟨by rw[L];omega,by rw[L];omega⟩,zw ?_⟩;refine⟨rfl,zw ?_⟩;refine λ_ _ E=>⟨_,rfl,⟨?_,?_⟩,?_,E⟩
     .rw[qkA,M,zB2];omega
     .rw[U]at h;rw[<-A,R,M];simp at h;simp[h]
     .show ByteArray.size _<t.size
      rw[qkA,M,T,zB2];omega)
def qJN(g)(s p):OkV X0 231 [.string s,.string p] g (.bool (Eu (bs p) (bs s))):=
 Ok.Ao hm noT 0 Eh.2 (args:=[.v (.string s),.v (.string p)]) (by
  refine zw ?_;refine⟨λh=>?_,λh=>?_⟩
  .have q:=ze h;refine zw ?_;refine⟨⟨sa,sa⟩,zw ?_⟩;intro u w;rw[qeO];have A:bs (s.extract 0 (p.size:zn).toNat)=(bs s).take (bs p).length:=by rw[qeD,qkA];simp
   have:=qkA s;have:=qkA p
   rw[zC (show(bs p).length<=(bs s).length by omega),<-A];rfl
  .refine zw ?_;intro u w;have q:=zf h;have:=qkA s;have:=qkA p
   rw[qeO,zE (show ¬(bs p).length<=(bs s).length by omega)];rfl)
def q9L(g)(s t)(hs:s.size<=200000000000000/\t.size<=200000000000000):OkV X0 254 [.string s,.string t] g (.bool (Jl (bs t) (bs s))):=
 Ok.Ao hm noT 0 Eg.2 (args:=[.v (.string s),.v (.string t)]) (by
  refine zw ?_;refine⟨λh=>?_,λh=>?_⟩
  .have u:=ze h;have q:zAf.wrap ((s.size:zn)-(t.size:zn))=((s.size-t.size:Z):zn):=by rw[wr sa];omega
   refine zw ?_;refine⟨⟨by rw[q];omega,by rw[q];omega⟩,zw ?_⟩;intro w A;rw[q6S];have:=qkA s;have:=qkA t
   have B:bs (s.extract (zAf.wrap ((s.size:zn)-(t.size:zn))).toNat s.size)=(bs s).drop ((bs s).length-(bs t).length):=by
    rw[qeD,q,zBn,qkA s,qkA t];exact zAw sd
   rw[zC (show(bs t).length<=(bs s).length by omega),<-B];rfl
  .refine zw ?_;intro w A;have u:=zf h;have:=qkA s;have:=qkA t
   rw[q6S,zE (show ¬(bs t).length<=(bs s).length by omega)];rfl)
def qlI(g)(s t)(hs:s.size<=200000000000000/\t.size<=200000000000000):OkV X0 235 [.string s,.string t] g (.bool (Jl (bs t) (bs s))):=
 Ok.Ao hm noT 0 FC.2 (args:=[.v (.string s),.v (.string t)]) (by
  refine zw ?_;refine .inl ⟨_,q9L _ _ _ hs,zw ?_⟩;intro h q
  rfl)
def GR(s p:BA):BA:=if Eu (bs p) (bs s)then s.extract p.size s.size else s
def qQM{s p}(h:Eu (bs p) (bs s)=I):bs (GR s p)=(bs s).drop (bs p).length:=by
 unfold GR;rw[zk h,qeD,qkA s,qkA p];exact zAw sd
def qAM(g)(s p):OkV X0 194 [.string s,.string p] g (.tuple #[.string (GR s p),.bool (Eu (bs p) (bs s))]):=
 Ok.Ao hm noT 0 Ei.2 (args:=[.v (.string s),.v (.string p)]) (by
  refine zw ?_;refine .inl ⟨_,qJN _ _ _,zw ?_⟩;refine⟨λq=>?_,λq=>?_⟩
  .have h:Eu (bs p) (bs s)=zb:=by simpa using q
   refine zw ?_;intro u w;unfold GR;rw[h];rfl
  .have h:Eu (bs p) (bs s)=I:=by simpa using q
   have A:p.size<=s.size:=by
    rw[qeO]at h;simp only[zj,zx]at h;have:=qkA s;have:=qkA p;omega
   refine zw ?_;refine⟨⟨sa,sa⟩,zw ?_⟩;intro u w;unfold GR
   rw[h];rfl)
def q5D(g)(s p):OkV X0 161 [.string s,.string p] g (.tuple #[.string (GR s p),.bool (Eu (bs p) (bs s))]):=
 Ok.Ao hm noT 0 FD.2 (args:=[.v (.string s),.v (.string p)]) (by
  refine zw ?_;refine .inl ⟨_,qAM _ _ _,zw ?_⟩;intro h q
  rfl)
def qGI(g)(s):OkV X0 139 [.string s] g (.bool (qlB (bs s))):=
 Ok.Ao hm noT 0 GI.2 (args:=[.v (.string s)]) (by
  refine zw ?_;refine .inl ⟨_,q5D _ _ _,zw ?_⟩;refine⟨λh=>?_,λh=>?_⟩
  .have q:Eu [42,46] (bs s)=I:=h;refine zw ?_;refine .inl ⟨_,qqO _ _,zw ?_⟩;intro w A;rw[qlB,q,qQM h];rfl
  .have q:Eu [42,46] (bs s)=zb:=h;refine zw ?_;refine⟨λk=>?_,λk=>?_⟩
   .refine zw ?_;intro w A;rw[qlB,q];have u:(bs s==[42])=I:=k;rw[u];rfl
   .refine zw ?_;refine .inl ⟨_,qqO _ _,zw ?_⟩;intro w A;rw[qlB,q];have u:(bs s==[42])=zb:=k
    rw[u];rfl)
def qpO(g)(s):OkV X0 140 [.string s] g (.bool (qhG (bs s))):=
 Ok.Ao hm qna 1 If.2 (args:=[.v (.string s)]) (by
  have Y:=qkA s;refine zw ?_;refine⟨λC=>?_,λC=>?_⟩
  .refine zw ?_;refine⟨λD=>?_,λD=>?_⟩
   .have aa:=ze C;have ab:=ze D;obtain⟨c0,M⟩:∃c0,(bs s)[0]?=O c0:=qBA sa;have P:(bs s).head?.any (λc=>(c.toNat:zn)==47)=((c0.toNat:zn)==47):=by rw[zC8,M];rfl
    refine zw ?_;refine⟨c0,⟨sa,M⟩,zw ?_⟩;refine⟨λE=>?_,λE=>?_⟩
    .refine zw ?_;intro b1;refine zw ?_;refine⟨rfl,zw ?_⟩;refine⟨rfl,zw ?_⟩;intro W;refine zw ?_;refine⟨Z,λi=>[.v (.int .i64 i)],λ_=>⟨g,[.blk 1 W _ [.v (.func (.func 143) #[] #[])],.blk 0 b1 _ [.v (.func (.func 143) #[] #[])]],_,_⟩,λi=>i<=(bs s).length/\((bs s).take i).all (λc=>(c.toNat:zn)==47||qNJ c.toNat)=I,λi=>(bs s).length-i,λ_ _ u=>⟨0,rfl,⟨zF _,rfl⟩,u⟩,?_⟩;intro i Q;have ac:=Q.1;have H:=Q.2;refine zw ?_;refine⟨λL=>?_,λL=>?_⟩
     .have h:i<(bs s).length:=by have:=ze L;omega
      obtain⟨c,R,T⟩:∃c,(bs s)[i]=c/\(bs s)[i]?=O c:=⟨_,rfl,zAe h⟩;have U:∀b,((c.toNat:zn)==47||qNJ c.toNat)=b->((bs s).take (i+1)).all (λc=>(c.toNat:zn)==47||qNJ c.toNat)=b:=λb q=>by rw[qYD h,H,R,q];rfl
      have V:zAf.wrap ((i:zn)+1)=((i+1:Z):zn):=by rw[wr sa];simp
      refine zw ?_;refine⟨c,⟨sa,T⟩,zw ?_⟩;refine⟨λw=>?_,λw=>?_⟩
      .refine zw ?_;refine⟨rfl,zw ?_⟩;refine⟨c,⟨sa,T⟩,zw ?_⟩;refine⟨kF,zw ?_⟩;refine .inl ⟨_,qVQ _ _,zw ?_⟩;refine⟨λq=>?_,λq=>?_⟩
       .refine zw ?_;intro A B;simp at w q;rw[qhG,qtB h (by rw[R];simp[w,q])];simp
       .refine zw ?_;refine λ_ _ u=>⟨i+1,zK (λz=>[zD .i64 z]) V.symm,⟨h,U _ (by simp at q;simp[q])⟩,dec h,u⟩
      .refine zw ?_;refine λ_ _ u=>⟨i+1,zK (λz=>[zD .i64 z]) V.symm,⟨h,U _ (by simp at w;simp[w])⟩,dec h,u⟩
     .refine zw ?_;intro A B;have:i=(bs s).length:=by have:=zf L;omega
      rw[this,zAB]at H;rw[qhG,H,P,E,zC (p:=0<(bs s).length) sa,zC (p:=(bs s).length<=32) sa];rfl
    .refine zw ?_;intro A B;simp[qhG,P,E]
   .refine zw ?_;intro A B;have:=zf D;rw[qhG,zE (p:=(bs s).length<=32) sa];simp
  .refine zw ?_;intro A B;have:=zf C
   rw[qhG,zE (p:=0<(bs s).length) sa];simp)
def qlW(g){v}{l}(hl:rSl 1 FJ g v l)(s):OkV X0 67 [v,.string s] g (.int .i64 (CN (BN (λx=>bs s==bs x) l))):=
 Ok.Ao hm noT 0 CY.2 (args:=[.v v,.v (.string s)]) (by
  obtain⟨P,cap,rfl,B,C,Q,D⟩:=hl;refine zq ?_;intros;refine⟨Z,λk=>[.v (.int .i64 k)],λk=>⟨g,[],_,_⟩,λk=>k<=l.length/\Ca (Ey λx=>bs s==bs x) l k,λk=>l.length-k,qMA 0 rfl ⟨zF _,Ca.zero _ _⟩ rfl,?_⟩;rintro k ⟨R,q⟩;refine zw ?_;refine⟨λu=>?_,λu=>?_⟩
  .have h:k<l.length:=by have:=ze u;omega
   obtain⟨x,w⟩:=qBA h;obtain⟨a,rfl,T,U,rfl,E⟩:=D k x w;refine zw ?_;refine⟨a,rfl,⟨sa,sa⟩,zw ?_⟩;refine⟨_,E 0 _ rfl,zw ?_⟩;refine⟨λA=>?_,λA=>?_⟩
   .refine zw ?_;intro H L;rw[qTG q w A]
   .refine zw ?_;refine λV W M=>⟨k+1,zK (λz=>[zD .i64 z]) (wr1 h B C).symm,⟨h,q8E q w A⟩,dec h,M⟩
  .refine zw ?_;intro H L;have:=zf u
   rw[qoD q sa])
def q3E(g){v}{l}(hl:rSl 1 FJ g v l)(s):OkV X0 31 [v,.string s] g (.bool (E2 l s)):=
 Ok.Ao hm noT 0 CJ.2 (args:=[.v v,.v (.string s)]) (by
  refine zw ?_;refine .inl ⟨_,qlW _ hl _,zw ?_⟩;intro h q;rw[qGM];have:(λx=>bs s==bs x)=λx=>bs x==bs s:=by funext x;exact qPV _ _
  rw[this];rfl)
def tC:F (Z×FnI):=[(159,AW.1),(193,Bf.1),(160,Eo.1)]
def Mt:qqB X0 tC:=qPA AW.2 (qPA Bf.2 (qPA Eo.2 noT))
def qaQ(g){v}{l}(hl:rSl 4 qOC g v l)(s):OkV X0 138 [v,.string s] g (.bool (Ht l s)):=
 Ok.Ao hm Mt 3 Hf.2 (args:=[.v v,.v (.string s)]) (by
  obtain⟨Q,cap,rfl,C,D,R,E⟩:=hl;refine zq ?_;intros;refine⟨Z,λk=>[.v (.int .i64 k)],λk=>⟨g,[.blk 0 _ _ [.v (.string s)]],_,_⟩,λk=>k<=l.length/\Ca (Ey λ(x:Bb)=>bs x.name==bs s) l k,λk=>l.length-k,qMA 0 rfl ⟨zF _,Ca.zero _ _⟩ rfl,?_⟩;rintro k ⟨T,A⟩;refine zw ?_;refine⟨λq=>?_,λq=>?_⟩
  .have h:k<l.length:=by have:=ze q;omega
   obtain⟨x,u⟩:=qBA h;obtain⟨a,rfl,U,V,⟨W,rfl,_,_,_,_,rfl,_⟩,H⟩:=E k x u;refine zw ?_;refine⟨a,rfl,⟨sa,sa⟩,zw ?_⟩;refine⟨_,⟨rfl,H⟩,zw ?_⟩;refine⟨kF,zq ?_⟩;intros;refine⟨λw=>?_,λw=>?_⟩
   .refine zw ?_;intro L M;have:Ht l s=I:=zBY.2 ⟨x,zl u,w⟩;rw[this];simp
   .refine zw ?_;refine λY aa P=>⟨k+1,zK (λz=>[zD .i64 z]) (wr1 h C D).symm,⟨h,q8E A u w⟩,dec h,?_⟩;exact P.fit sc
  .refine zw ?_;intro L M;have:=zf q;have B:=qGM (λ(x:Bb)=>bs x.name==bs s) l;rw[qoD A sa]at B
   rw[show Ht l s=zb from by rw[Ht,<-B];rfl];rfl)
def qDN(g)(n a b):OkV X0 137 [.int .i64 n,.int .i64 a,.int .i64 b] g (.bool (decide (a<=n)&&decide (n<=b))):=
 Ok.Ao hm noT 0 GJ.2 (args:=[.v (.int .i64 n),.v (.int .i64 a),.v (.int .i64 b)]) (by
  refine zq ?_;intros
  repeat'((first|refine .inl ⟨_,rfl,zq ?_⟩|refine⟨λ_=>zq ?_,λ_=>zq ?_⟩|rfl)<;>intros)
  all_goals(conv=>whnf)
  all_goals(intro h q)
  all_goals(first|(simp_all;done)|(simp_all;omega)))
def qbQ(g){cs}{c}(hc:qHB g cs c):OkV X0 98 [.agg ⟨cs⟩] g (eiT (qhK c)):=by
 obtain⟨a,b,d,rfl,h,q,u⟩:=hc;obtain⟨w,A,rfl,H,L,M,P⟩:=id h;obtain⟨B,C,rfl,b1,Q,R,T⟩:=id q;obtain⟨D,E,rfl,U,V,W,Y⟩:=id u
 exact Ok.Ao hm noT 0 EG.2 (args:=[.v (.agg ⟨[.slice w c.Aa.length A,.slice B c.As.length C,.slice D c.Ad.length E]⟩)]) (by
  refine zq ?_;intros
  repeat'((first|refine .inl ⟨_,qDN _ _ _ _,zq ?_⟩|refine⟨λ_=>zq ?_,λ_=>zq ?_⟩|rfl)<;>intros)
  all_goals(conv=>whnf)
  all_goals(intro aa ab)
  all_goals first|(rw[show qhK c=O (6,0)from zh (by simp_all;try omega)];rfl;done)|(rw[show qhK c=zc from zk (by simp_all;try omega)];rfl))
def qpJ(g){cs}{c}(hc:qHB g cs c):OkV X0 99 [.agg ⟨cs⟩] g (eiT (qPD c)):=by
 obtain⟨a,b,d,rfl,B,T,C⟩:=hc;obtain⟨D,E,rfl,U,V,aa,W⟩:=id B;obtain⟨H,L,rfl,b1,ab,ac,ad⟩:=id T;obtain⟨M,P,rfl,ae,af,ag,ah⟩:=id C
 exact Ok.Ao hm noT 0 DK.2 (args:=[.v (.agg ⟨[.slice D c.Aa.length E,.slice H c.As.length L,.slice M c.Ad.length P]⟩)]) (by
  refine zq ?_;intros;refine⟨Z,λk=>[.v (.int .i64 k)],λk=>⟨g,[.blk 0 _ _ [.v (.slice D c.Aa.length E),.v (.slice H c.As.length L),.v (.slice M c.Ad.length P)]],_,_⟩,λk=>k<=c.Aa.length/\Ca (q6E c.Aa) c.Aa k,λk=>c.Aa.length-k,qMA 0 rfl ⟨zF _,Ca.zero _ _⟩ rfl,?_⟩;rintro k ⟨C,q⟩;refine zw ?_;refine⟨λA=>?_,λA=>?_⟩
  .have h:k<c.Aa.length:=by have:=ze A;omega
   obtain⟨x,u⟩:=qBA h;obtain⟨a,rfl,ai,aj,rfl,hc⟩:=W k x u;refine zw ?_;refine⟨a,rfl,⟨sa,sa⟩,zw ?_⟩;refine⟨_,hc 0 _ rfl,zq ?_⟩;intros;refine .inl ⟨_,qHI _ _,zw ?_⟩;refine⟨λw=>?_,λw=>?_⟩
   .refine zw ?_;intro Q R;rw[show qPD c=O ((3,k):EI)from q.hit u (by rw[q6E,zh (by simp[nb1 w])])];rfl
   .refine zq ?_;intros;refine⟨⟨sa,sa⟩,zq ?_⟩;intros;refine .inl ⟨_,q3E _ (B.take (zC1 h)) _,zw ?_⟩;refine⟨λhs=>?_,λhs=>?_⟩
    .refine zw ?_;intro Q R;rw[show qPD c=O ((4,k):EI)from q.hit u (by rw[q6E,zk (nb0 w),zk hs])];rfl
    .refine zw ?_;refine λak al Y=>⟨k+1,zK (λz=>[zD .i64 z]) (wr1 h U V).symm,⟨h,q.succ u (by rw[q6E,zk (nb0 w),zh (by simp[hs])])⟩,dec h,?_⟩;exact Y.fit sc
  .refine zw ?_;intro Q R;have:=zf A
   rw[show qPD c=zc from q.done sa];rfl)
def qkI(g){cs}{c}(hc:qHB g cs c):OkV X0 100 [.agg ⟨cs⟩] g (eiT (qBD c)):=by
 obtain⟨a,b,d,rfl,V,W,L⟩:=hc;obtain⟨M,P,rfl,aj,ak,al,an⟩:=id V;obtain⟨Q,R,rfl,b1,ao,ap,aq⟩:=id W;obtain⟨T,U,rfl,Y,aa,ar,ab⟩:=id L
 exact Ok.Ao hm noT 0 DF.2 (args:=[.v (.agg ⟨[.slice M c.Aa.length P,.slice Q c.As.length R,.slice T c.Ad.length U]⟩)]) (by
  refine zq ?_;intros;refine⟨Z,λk=>[.v (.int .i64 k)],λk=>⟨g,[.blk 0 _ _ [.v (.slice M c.Aa.length P),.v (.slice Q c.As.length R),.v (.slice T c.Ad.length U)]],_,_⟩,λk=>k<=c.Ad.length/\Ca (qVB c.Ad) c.Ad k,λk=>c.Ad.length-k,qMA 0 rfl ⟨zF _,Ca.zero _ _⟩ rfl,?_⟩;rintro k ⟨au,C⟩;refine zw ?_;refine⟨λD=>?_,λD=>?_⟩
  .have u:k<c.Ad.length:=by have:=ze D;omega
   obtain⟨x,E⟩:=qBA u;obtain⟨a,rfl,av,aw,⟨ax,rfl,_,_,_,_,rfl,_⟩,hc⟩:=ab k x E;have hit:∀e:EI,qVB c.Ad k x=O e->qBD c=O e:=λe ac=>C.hit E ac;refine zw ?_;refine⟨a,rfl,⟨sa,sa⟩,zw ?_⟩;refine⟨_,⟨rfl,hc⟩,zq ?_⟩;intros;refine .inl ⟨_,qHI _ _,zw ?_⟩;refine⟨λh=>?_,λh=>?_⟩
   .refine zw ?_;intro w A;rw[hit (3,k) (by rw[qVB,zh (by simp[nb1 h])])];rfl
   have h:=nb0 h;refine zq ?_;intros;refine⟨⟨sa,sa⟩,zq ?_⟩;intros;refine .inl ⟨_,qaQ _ (L.take (zC1 u)) _,zw ?_⟩;refine⟨λhs=>?_,λhs=>?_⟩
   .refine zw ?_;intro w A;rw[hit (4,k) (by rw[qVB,zk h,zk hs])];rfl
   have ad:¬(x.Bl=1\/x.Bl=2)->qVB c.Ad k x=O (9,(k:zn)):=λq=>by rw[qVB,zk h,zh (by simp[hs]),zh q]
   have ae:(x.Bl=1\/x.Bl=2)->¬(1<=x.Au/\x.Au<=4)->qVB c.Ad k x=O (10,(k:zn)):=λq B=>by rw[qVB,zk h,zh (by simp[hs]),zk q,zh B]
   have af:(x.Bl=1\/x.Bl=2)->(1<=x.Au/\x.Au<=4)->¬(1<=x.AA.length/\x.AA.length<=4)->qVB c.Ad k x=O (6,(k:zn)):=λq B H=>by rw[qVB,zk h,zh (by simp[hs]),zk q,zk B,zh H]
   have ag:(x.Bl=1\/x.Bl=2)->(1<=x.Au/\x.Au<=4)->(1<=x.AA.length/\x.AA.length<=4)->qVB c.Ad k x=zc:=λq B H=>by rw[qVB,zk h,zh (by simp[hs]),zk q,zk B,zk H]
   have ah:=λe=>C.succ E e;clear D C;refine zq ?_;intros
   repeat'((first|refine .inl ⟨_,qDN _ _ _ _,zq ?_⟩|refine⟨λ_=>zq ?_,λ_=>zq ?_⟩|rfl)<;>intros)
   all_goals(conv=>whnf)
   all_goals(try simp only[bne_iff_ne,ne_eq,bne_eq_false_iff_eq,zC6,Bool.not_eq_false',zj,Bool.and_eq_false_iff,zx,zC2]at*)
   all_goals first
    |(intro w A;rw[hit (9,k) (ad sa)];rfl;done)
    |(intro w A;rw[hit (10,k) (ae sa sa)];rfl;done)
    |(intro w A;rw[hit (6,k) (af sa sa sa)];rfl;done)
    |refine λay az ai=>⟨k+1,zK (λz=>[zD .i64 z]) (wr1 u Y aa).symm,⟨u,ah (ag sa sa sa)⟩,dec u,?_⟩
   all_goals(exact ai.fit sc)
  .refine zw ?_;intro w A;have:=zf D
   rw[show qBD c=zc from C.done sa];rfl)
def qCL(g){cs}{c}(hc:qHB g cs c):OkV X0 101 [.agg ⟨cs⟩] g (eiT (qeF c)):=by
 obtain⟨a,b,d,rfl,ab,ai,ac⟩:=hc;obtain⟨H,L,rfl,ao,ap,aq,ar⟩:=id ab;obtain⟨ad,M,rfl,b1,ae,au,af⟩:=id ai;obtain⟨P,Q,rfl,av,aw,ax,ay⟩:=id ac
 exact Ok.Ao hm noT 0 DX.2 (args:=[.v (.agg ⟨[.slice H c.Aa.length L,.slice ad c.As.length M,.slice P c.Ad.length Q]⟩)]) (by
  refine zq ?_;intros;refine⟨Z,λk=>[.v (.int .i64 k)],λk=>⟨g,[.blk 0 _ _ [.v (.slice H c.Aa.length L),.v (.slice ad c.As.length M),.v (.slice P c.Ad.length Q)]],_,_⟩,λk=>k<=c.As.length/\Ca (qVE c) c.As k,λk=>c.As.length-k,qMA 0 rfl ⟨zF _,Ca.zero _ _⟩ rfl,?_⟩;rintro k ⟨az,R⟩;refine zw ?_;refine⟨λT=>?_,λT=>?_⟩
  .have B:k<c.As.length:=by have:=ze T;omega
   obtain⟨x,U⟩:=qBA B;obtain⟨a,rfl,aA,aB,rfl,hc⟩:=af k x U;have hit:∀e:EI,qVE c k x=O e->qeF c=O e:=λe h=>R.hit U h;refine zw ?_;refine⟨a,rfl,⟨sa,sa⟩,zw ?_⟩;refine⟨_,⟨rfl,hc⟩,zq ?_⟩;intros;refine .inl ⟨_,q3E _ ab _,zw ?_⟩;refine⟨λq=>?_,λq=>?_⟩
   .refine zw ?_;intro C D;rw[hit (5,k) (by rw[qVE,zh (by simp[nb1 q])])];rfl
   have q:=nb0 q;refine zq ?_;intros;refine .inl ⟨_,qGI _ _,zw ?_⟩;refine⟨λu=>?_,λu=>?_⟩
   .refine zw ?_;intro C D;rw[hit (7,k) (by rw[qVE,zk q,zh (by simp[nb1 u])])];rfl
   have u:=nb0 u;refine zq ?_;intros;refine .inl ⟨_,qpO _ _,zw ?_⟩;refine⟨λw=>?_,λw=>?_⟩
   .refine zw ?_;intro C D;rw[hit (8,k) (by rw[qVE,zk q,zk u,zh (by simp[nb1 w])])];rfl
   have w:=nb0 w;refine zq ?_;intros;refine .inl ⟨_,qaQ _ ac _,zw ?_⟩;refine⟨λA=>?_,λA=>?_⟩
   .refine zw ?_;intro C D;rw[hit (5,k) (by rw[qVE,zk q,zk u,zk w,zh (by simp[nb1 A])])];rfl
   have A:=nb0 A;refine zq ?_;intros;refine⟨⟨sa,sa⟩,zq ?_⟩;intros;refine⟨Z,λm=>[.v (.int .i64 m)],λm=>⟨g,[.blk 1 _ _ [.v (.string x.listen),.v (.string x.Bp),.v (.string x.path),.v (.string ⟨#[]⟩)],.blk 0 _ _ [.v (.slice H c.Aa.length L),.v (.slice (O a) c.As.length M),.v (.slice P c.Ad.length Q)]],_,_⟩,λm=>m<=k/\(∀j y,j<m->c.As[j]?=O y->Iw y x=zb),λm=>k-m,qMA 0 rfl ⟨zF _,λj y ag=>sa⟩ rfl,?_⟩;rintro m ⟨aC,ah⟩;refine zw ?_;refine⟨λV=>?_,λV=>?_⟩
   .have E:m<k:=by have:=ze V;simp at this;omega
    obtain⟨y,W⟩:=qBA (show m<c.As.length by omega);obtain⟨aD,aj,aE,aF,rfl,ak⟩:=af m y W;cases aj;refine zw ?_;refine⟨a,rfl,⟨sa,sf⟩,zw ?_⟩;refine⟨_,⟨rfl,ak⟩,zq ?_⟩;intros;refine⟨λh=>?_,λh=>?_⟩
    .refine zw ?_;intro C D;have h:Iw y x=I:=by simpa[Iw,Bool.and_assoc]using h
     rw[hit (4,k) (by rw[qVE,zk q,zk u,zk w,zk A,zk];exact zBY.2 ⟨y,zl (show(c.As.take k)[m]?=O y by rw[zA7,zk E];exact W),h⟩)];rfl
    .refine zw ?_;refine λal an Y=>⟨m+1,zK (λz=>[zD .i64 z]) (wr1 E (zC1 (zQ B b1)) ae).symm,⟨E,?_⟩,dec E,?_⟩
     .have h:Iw y x=zb:=by simpa[Iw,Bool.and_assoc]using h
      intro j z ag aa;rcases zAL j m with c1|c1
      .exact ah j z c1 aa
      .obtain rfl:j=m:=sa
       rw[W]at aa;cases aa;exact h
     .exact Y.fit sc
   .refine zw ?_;refine λal an Y=>⟨k+1,zK (λz=>[zD .i64 z]) (wr1 B b1 ae).symm,⟨B,R.succ U (by rw[qVE,zk q,zk u,zk w,zk A,zh];have:=zf V;rw[CO.2 λj y ag=>ah j y sa];simp)⟩,dec B,?_⟩;exact Y.fit sc
  .refine zw ?_;intro C D;have:=zf T
   rw[show qeF c=zc from R.done sa];rfl)
def qBK(o):(o=zc/\eiT o=.tuple #[.int .i64 0,.int .i64 0])\/∃e i,o=O (e,i)/\eiT o=.tuple #[.int .i64 e,.int .i64 i]:=by
 cases o with
 |none=>exact .inl ⟨rfl,rfl⟩
 |some x=>exact .inr ⟨x.1,x.2,rfl,rfl⟩
def qSG(g){cs}{c}(hc:qHB g cs c):OkV X0 54 [.agg ⟨cs⟩] g (eiT (qTA c)):=by
 have A:=hc;obtain⟨a,b,d,rfl,ab,ac,ad⟩:=hc;obtain⟨B,C,rfl,af,ag,ah,ai⟩:=id ab;obtain⟨D,E,rfl,b1,aj,ak,al⟩:=id ac;obtain⟨H,L,rfl,an,ao,ap,aq⟩:=id ad
 exact Ok.Ao hm noT 0 Hg.2 (args:=[.v (.agg ⟨[.slice B c.Aa.length C,.slice D c.As.length E,.slice H c.Ad.length L]⟩)]) (by
  refine zq ?_;intros;refine⟨Z,λk=>[.v (.int .i64 k)],λ_=>⟨g,[.blk 2 _ _ [.fn (.func 98) [.agg [.v (.slice B c.Aa.length C),.v (.slice D c.As.length E),.v (.slice H c.Ad.length L)]] [],.fn (.func 99) [.agg [.v (.slice B c.Aa.length C),.v (.slice D c.As.length E),.v (.slice H c.Ad.length L)]] [],.fn (.func 100) [.agg [.v (.slice B c.Aa.length C),.v (.slice D c.As.length E),.v (.slice H c.Ad.length L)]] [],.fn (.func 101) [.agg [.v (.slice B c.Aa.length C),.v (.slice D c.As.length E),.v (.slice H c.Ad.length L)]] []],.blk 1 _ _ [.v (.slice B c.Aa.length C),.v (.slice D c.As.length E),.v (.slice H c.Ad.length L)],.blk 0 _ _ [.v (.slice B c.Aa.length C),.v (.slice D c.As.length E),.v (.slice H c.Ad.length L)]],_,_⟩,λk=>k<=4/\(1<=k->qhK c=zc)/\(2<=k->qPD c=zc)/\(3<=k->qBD c=zc)/\(4<=k->qeF c=zc),λk=>4-k,qMA 0 rfl ⟨sa,sa,sa,sa,sa⟩ rfl,?_⟩;rintro k ⟨ar,M,R,V,ae⟩;obtain rfl|rfl|rfl|rfl|rfl:k=0\/k=1\/k=2\/k=3\/k=4:=sa
  .obtain⟨q,u⟩|⟨e,i,q,u⟩:=qBK (qhK c)
   .refine zw ?_;refine⟨λ_=>zw ?_,λh=>nomatch h⟩;refine⟨0,⟨rfl,sb⟩,zq ?_⟩;intros;refine⟨kF,zw ?_⟩;refine .inl ⟨_,(qbQ _ A).to u,zw ?_⟩;refine⟨λh=>(nomatch h),λ_=>zw ?_⟩;refine λW Y P=>⟨1,rfl,⟨sa,λ_=>q,λh=>absurd h sa,λh=>absurd h sa,λh=>absurd h sa⟩,sb,?_⟩;exact P.fit sc
   .have w:qTA c=O (e,i):=by rw[qTA,q]
    have aa:=qiC w;refine zw ?_;refine⟨λ_=>zw ?_,λh=>nomatch h⟩;refine⟨0,⟨rfl,sb⟩,zq ?_⟩;intros;refine⟨kF,zw ?_⟩;refine .inl ⟨_,(qbQ _ A).to u,zw ?_⟩;refine⟨λ_=>zw ?_,λQ=>absurd Q sf⟩;intro T U;rw[w];rfl
  .obtain⟨q,u⟩|⟨e,i,q,u⟩:=qBK (qPD c)
   .refine zw ?_;refine⟨λ_=>zw ?_,λh=>nomatch h⟩;refine⟨1,⟨rfl,sb⟩,zq ?_⟩;intros;refine⟨kF,zw ?_⟩;refine .inl ⟨_,(qpJ _ A).to u,zw ?_⟩;refine⟨λh=>(nomatch h),λ_=>zw ?_⟩;refine λW Y P=>⟨2,rfl,⟨sa,λ_=>M sa,λ_=>q,λh=>absurd h sa,λh=>absurd h sa⟩,sb,?_⟩;exact P.fit sc
   .have w:qTA c=O (e,i):=by rw[qTA,M sa,q]
    have aa:=qiC w;refine zw ?_;refine⟨λ_=>zw ?_,λh=>nomatch h⟩;refine⟨1,⟨rfl,sb⟩,zq ?_⟩;intros;refine⟨kF,zw ?_⟩;refine .inl ⟨_,(qpJ _ A).to u,zw ?_⟩;refine⟨λ_=>zw ?_,λQ=>absurd Q sf⟩;intro T U;rw[w];rfl
  .obtain⟨q,u⟩|⟨e,i,q,u⟩:=qBK (qBD c)
   .refine zw ?_;refine⟨λ_=>zw ?_,λh=>nomatch h⟩;refine⟨2,⟨rfl,sb⟩,zq ?_⟩;intros;refine⟨kF,zw ?_⟩;refine .inl ⟨_,(qkI _ A).to u,zw ?_⟩;refine⟨λh=>(nomatch h),λ_=>zw ?_⟩;refine λW Y P=>⟨3,rfl,⟨sa,λ_=>M sa,λ_=>R sa,λ_=>q,λh=>absurd h sa⟩,sb,?_⟩;exact P.fit sc
   .have w:qTA c=O (e,i):=by rw[qTA,M sa,R sa,q]
    have aa:=qiC w;refine zw ?_;refine⟨λ_=>zw ?_,λh=>nomatch h⟩;refine⟨2,⟨rfl,sb⟩,zq ?_⟩;intros;refine⟨kF,zw ?_⟩;refine .inl ⟨_,(qkI _ A).to u,zw ?_⟩;refine⟨λ_=>zw ?_,λQ=>absurd Q sf⟩;intro T U;rw[w];rfl
  .obtain⟨q,u⟩|⟨e,i,q,u⟩:=qBK (qeF c)
   .refine zw ?_;refine⟨λ_=>zw ?_,λh=>nomatch h⟩;refine⟨3,⟨rfl,sb⟩,zq ?_⟩;intros;refine⟨kF,zw ?_⟩;refine .inl ⟨_,(qCL _ A).to u,zw ?_⟩;refine⟨λh=>(nomatch h),λ_=>zw ?_⟩;refine λW Y P=>⟨4,rfl,⟨sa,λ_=>M sa,λ_=>R sa,λ_=>V sa,λ_=>q⟩,sb,?_⟩;exact P.fit sc
   .have w:qTA c=O (e,i):=by rw[qTA,M sa,R sa,V sa,q]
    have aa:=qiC w;refine zw ?_;refine⟨λ_=>zw ?_,λh=>nomatch h⟩;refine⟨3,⟨rfl,sb⟩,zq ?_⟩;intros;refine⟨kF,zw ?_⟩;refine .inl ⟨_,(qCL _ A).to u,zw ?_⟩;refine⟨λ_=>zw ?_,λQ=>absurd Q sf⟩;intro T U;rw[w];rfl
  .refine zw ?_;refine⟨λh=>(nomatch h),λ_=>zw ?_⟩;intro T U
   rw[show qTA c=zc from by rw[qTA,M sa,R sa,V sa,ae sa]];rfl)

abbrev qBY(r:Gs):F zg:=[.string r.listen,.string r.Bp,.string r.path,.string r.Ak]
def qNR{q:Type}{f:q->zM}{l:F q}{k:Z}{x:q}(h:(l.take k).any f=zb)(u:l[k]?=O x)(w:f x=zb):(l.take (k+1)).any f=zb:=by
 obtain⟨A,B⟩:=zd.1 u;rw[zY A,zDZ,h,B];simp[w]
abbrev Sm(s:BA):Prop:=s.size<=140737488355328
def q3X{s p}:(GR s p).size<=s.size:=by
 unfold GR;split
 .rw[qkA,qeD,qkA s];simp
 .exact zG _
def qkW(g)(p h)(hs:Sm p/\Sm h):OkV X0 197 [.string p,.string h] g (.bool (qiH (bs p) (bs h))):=
 Ok.Ao hm noT 0 HK.2 (args:=[.v (.string p),.v (.string h)]) (by
  refine zw ?_;refine .inl ⟨_,qGI _ _,zw ?_⟩;refine⟨λL=>?_,λL=>?_⟩
  .refine zw ?_;intro w A;have q:qlB (bs p)=zb:=by simpa using L
   rw[qiH,q];rfl
  have q:qlB (bs p)=I:=by simpa using L
  refine zw ?_;refine .inl ⟨_,qqO _ _,zw ?_⟩;refine⟨λM=>?_,λM=>?_⟩
  .refine zw ?_;intro w A;have u:q3I (bs h)=zb:=by simpa using M
   rw[qiH,u];simp
  have u:q3I (bs h)=I:=by simpa using M
  refine zw ?_;refine .inl ⟨_,q5D _ _ _,zw ?_⟩;refine⟨λP=>?_,λP=>?_⟩
  .refine zw ?_;intro w A;have B:(bs p==bs h)=I:=P;rw[qiH,q,u,B];rfl
  have B:(bs p==bs h)=zb:=P;refine zw ?_;refine⟨λC=>?_,λC=>?_⟩
  .have D:Eu [42] (bs p)=I:=C;have E:bs (GR p ⟨#[42]⟩)=(bs p).drop 1:=qQM C;refine zw ?_;refine⟨λQ=>?_,λQ=>?_⟩
   .refine zw ?_;intro w A;have H:((bs p).drop 1==[])=I:=by rw[<-E];exact Q
    rw[qiH,q,u,B,D,qtV,H];rfl
   have H:((bs p).drop 1==[])=zb:=by rw[<-E];exact Q
   have V:(GR p ⟨#[42]⟩).size=((bs p).drop 1).length:=by rw[qkA,E]
   have W:(GR p ⟨⟨[42]⟩⟩).size=((bs p).drop 1).length:=V;have Y:=qkA h;refine zw ?_;refine⟨λ_=>zw ?_,λR=>absurd ((C).symm.trans R) sb⟩;refine⟨λT=>?_,λT=>?_⟩
   .have U:decide (((bs p).drop 1).length<(bs h).length)=I:=by
     have:=ze T;exact zC sa
    refine zw ?_;refine .inl ⟨_,qlI _ _ _ ⟨by have:=hs.2;unfold Sm at this;omega,by have:=hs.1;unfold Sm at this;have:=@q3X p ⟨#[42]⟩;have:=@q3X p ⟨⟨[42]⟩⟩;omega⟩,zw ?_⟩;intro w A;rw[E,qiH,q,u,B,D,qtV,H,U];rfl
   .refine zw ?_;intro w A
    have U:decide (((bs p).drop 1).length<(bs h).length)=zb:=by
     have:=zf T;exact zE sa
    rw[qiH,q,u,B,D,qtV,H,U];rfl
  .refine zw ?_;refine⟨λR=>absurd (R.symm.trans (C)) sb,λ_=>zw ?_⟩;intro w A;have D:Eu [42] (bs p)=zb:=C
   rw[qiH,q,u,B,D];rfl)
def qbW(g)(a b)(hs:Sm a/\Sm b):OkV X0 198 [.string a,.string b] g (.bool (qcI (bs a) (bs b))):=
 Ok.Ao hm noT 0 HJ.2 (args:=[.v (.string a),.v (.string b)]) (by
  have T:=hs.1;have U:=hs.2
  unfold Sm at T U;refine zw ?_;refine .inl ⟨_,qpO _ _,zw ?_⟩;refine⟨λD=>?_,λD=>?_⟩
  .refine zw ?_;intro u w;have h:qhG (bs a)=zb:=by simpa using D
   rw[qcI,h];rfl
  have h:qhG (bs a)=I:=by simpa using D
  refine zw ?_;refine .inl ⟨_,qpO _ _,zw ?_⟩;refine⟨λE=>?_,λE=>?_⟩
  .refine zw ?_;intro u w;have q:qhG (bs b)=zb:=by simpa using E
   rw[qcI,q];simp
  have q:qhG (bs b)=I:=by simpa using E
  refine zw ?_;refine .inl ⟨_,q5D _ _ _,zw ?_⟩;refine⟨λC=>?_,λC=>?_⟩
  .have A:Eu (bs b) (bs a)=I:=C;have H:=qQM C;refine zw ?_;refine⟨λL=>?_,λL=>?_⟩
   .refine zw ?_;intro u w;have B:((bs a).drop (bs b).length==[])=I:=by rw[<-H];exact L
    rw[qcI,h,q,A,B];rfl
   have B:((bs a).drop (bs b).length==[])=zb:=by rw[<-H];exact L
   refine zw ?_;refine .inl ⟨_,qlI _ _ _ ⟨sa,sb⟩,zw ?_⟩;refine⟨λM=>?_,λM=>?_⟩
   .refine zw ?_;intro u w;have P:Jl [47] (bs b)=I:=M;rw[qcI,h,q,A,B,P];rfl
   have P:Jl [47] (bs b)=zb:=M;have V:(bs a).drop (bs b).length≠[]:=by simpa using B
   obtain⟨c,Q⟩:∃c,((bs a).drop (bs b).length)[0]?=O c:=qBA (zCU.2 V);refine zw ?_;refine⟨c,⟨sa,by show(bs (GR a b))[0]?=_;rw[H];exact Q⟩,zw ?_⟩;intro u w;rw[qcI,h,q,A,B,P,zC8,Q];simp only[zCE,Bool.false_or];refine zK zBm ?_;rw[zCn];simp only[beq_iff_eq,zAk];exact⟨λR=>UInt8.toNat_inj.1 (by show c.toNat=47;omega),λR=>by rw[R];rfl⟩
  .refine zw ?_;intro u w;have A:Eu (bs b) (bs a)=zb:=C
   rw[qcI,h,q,A];rfl)
def qFN(g)(p):OkV X0 167 [.string p] g (.int .i64 (qGB (bs p))):=
 Ok.Ao hm noT 0 Hb.2 (args:=[.v (.string p)]) (by
  refine zw ?_;refine .inl ⟨_,qGI _ _,zw ?_⟩;refine⟨λw=>?_,λw=>?_⟩
  .refine zw ?_;intro A B;have h:qlB (bs p)=zb:=by simpa using w
   rw[qGB,h];rfl
  have h:qlB (bs p)=I:=by simpa using w
  refine zw ?_;refine .inl ⟨_,q5D _ _ _,zw ?_⟩;refine⟨λq=>?_,λq=>?_⟩
  .refine zw ?_;intro A B;have u:Eu [42,46] (bs p)=I:=q;rw[qGB,h,u,qkA,qQM q];rfl
  have u:Eu [42,46] (bs p)=zb:=q;refine zw ?_;refine⟨λC=>?_,λC=>?_⟩
  .refine zw ?_;intro A B;have D:(bs p==[42])=I:=C;rw[qGB,h,u,D];rfl
  .refine zw ?_;intro A B;have D:(bs p==[42])=zb:=C
   rw[qGB,h,u,D];rfl)
def qBU(g)(a p b q):OkV X0 145 [.string a,.string p,.string b,.string q] g (.bool (qVI (bs a) (bs p) (bs b) (bs q))):=
 Ok.Ao hm noT 0 Hc.2 (args:=[.v (.string a),.v (.string p),.v (.string b),.v (.string q)]) (by
  refine zw ?_;refine .inl ⟨_,qFN _ _,zw ?_⟩;refine .inl ⟨_,qFN _ _,zw ?_⟩;refine⟨λh=>?_,λh=>?_⟩
  .refine zw ?_;intro u w;rw[qVI,h];rfl
  .refine zw ?_;intro u w;rw[qVI,h,qkA p,qkA q]
   simp)
abbrev qBV(r:Gb):F zg:=[.int .i64 r.listen,.string r.Bp,.string r.path,.int .i64 r.Ak]
abbrev SmR(r:Gb):Prop:=Sm r.Bp/\Sm r.path
def qPZ(g)(r)(n)(h p)(hs:SmR r/\Sm h/\Sm p):OkV X0 166 [.agg ⟨qBV r⟩,.int .i64 n,.string h,.string p] g (.bool (EO n h p r)):=
 Ok.Ao hm noT 0 HF.2 (args:=[.v (.agg ⟨qBV r⟩),.v (.int .i64 n),.v (.string h),.v (.string p)]) (by
  refine zq ?_;intros
  repeat'((first|refine .inl ⟨_,qkW _ _ _ ⟨hs.1.1,hs.2.1⟩,zq ?_⟩|refine .inl ⟨_,qbW _ _ _ ⟨hs.2.2,hs.1.2⟩,zq ?_⟩|refine⟨λ_=>zq ?_,λ_=>zq ?_⟩|rfl)<;>intros)
  all_goals(conv=>whnf)
  all_goals(intro q u)
  all_goals(rename_i w;simp only[EO];simp_all))
def tR:F (Z×FnI):=[(144,El.1),(165,DD.1)]
def Ml:qqB X0 tR:=qPA El.2 (qPA DD.2 noT)
def qPa:zs Z->zg
 |some i=>.tuple #[.int .i64 i,.int .i64 0]
 |none=>.tuple #[.int .i64 0,.int .i64 5]
def qpK:zs Z->zn
 |none=>-1
 |some j=>j
abbrev SmL(l:F Gb):Prop:=∀r∈l,SmR r
def qCU(g){v}{l}(hl:rSl 4 qGW g v l)(n)(h p)(hs:SmL l/\Sm h/\Sm p):OkV X0 116 [v,.int .i64 n,.string h,.string p] g (qPa (qdM (EO n h p) l)):=
 Ok.Ao hm Ml 2 HG.2 (args:=[.v v,.v (.int .i64 n),.v (.string h),.v (.string p)]) (by
  obtain⟨T,cap,rfl,U,V,ai,W⟩:=hl;refine zq ?_;intros;refine⟨kF,λlp aa=>zq ?_⟩;intros;refine⟨Z,λi=>[.v (.int .i64 i)],λi=>⟨g,[.lp 6 lp aa .ready,.blk 5 _ _ [.v (.string p)],.blk 4 _ _ [.v (.string h)],.blk 3 _ _ [.v (.int .i64 n)],.blk 2 _ _ [.v (.slice T l.length cap)],.blk 1 _ _ [.v (.int .i64 (qpK (qIF (EO n h p) l i)))],.blk 0 _ _ [.v (.slice T l.length cap)]],_,_⟩,λi=>i<=l.length,λi=>l.length-i,qMA 0 rfl (zF _) rfl,?_⟩;intro i ab;refine zw ?_;refine⟨λH=>?_,λH=>?_⟩
  .have q:i<l.length:=by have:=ze H;omega
   obtain⟨r,D⟩:=qBA q;obtain⟨a,rfl,aj,ak,⟨rfl,al,an⟩,ac⟩:=W i r D;have ad:=hs.1 r (zl D)
   have L:∀b,(match qIF (EO n h p) l i with|none=>O i|some j=>match l[j]? with|some C=>if Fu r C then O i else O j|none=>O i)=b->EO n h p r=I->qIF (EO n h p) l (i+1)=b:=λb u A=>by
    simp only[qIF,D,A,zBp];exact u
   refine zw ?_;refine⟨a,rfl,⟨sa,sa⟩,zw ?_⟩;refine⟨qBV r,⟨rfl,ac⟩,zq ?_⟩;intros;refine .inl ⟨_,qPZ _ _ _ _ _ ⟨ad,hs.2⟩,?_⟩;have next:∀(b:zs Z),qIF (EO n h p) l (i+1)=b->[zD .i64 (zAf.wrap ((i:zn)+1))]=[zD .i64 ((i+1:Z):zn)]:=λ_ _=>zK (λz=>[zD .i64 z]) (wr1 q U V);refine zw ?_;refine⟨λA=>?_,λA=>?_⟩
   .refine zq ?_;intros;cases u:qIF (EO n h p) l i with
    |none=>
     have w:=L (O i) (by rw[u]) A;refine zw ?_;refine⟨λ_=>zq ?_,λh=>nomatch h⟩;intros;refine λM P B=>⟨i+1,(next _ w).symm,q,dec q,?_⟩;exact B.fit (by simp[Az,Res.eqv,qDA,Ae,w,qpK])
    |some j=>
     obtain⟨C,E,_,ao,_⟩:=(qXI (fit:=EO n h p) l i ab).1 j u;obtain⟨ap,ae,aq,ar,⟨rfl,_,_⟩,Y⟩:=W j C E;cases ae;have au:=(zd.1 E).1;refine zw ?_;refine⟨λQ=>absurd (ze Q) su,λ_=>zq ?_⟩;intros;refine⟨a,rfl,⟨su,su⟩,zq ?_⟩;intros;refine⟨_,Y 1 _ rfl,zq ?_⟩;intros;refine⟨a,rfl,⟨su,su⟩,zq ?_⟩;intros;refine⟨_,Y 2 _ rfl,zq ?_⟩;intros;refine .inl ⟨_,qBU _ _ _ _ _,zw ?_⟩;refine⟨λR=>?_,λR=>?_⟩
     .have w:=L (O i) (by rw[u];simp only[E];rw[show Fu r C=I from R];rfl) A;refine zq ?_;intros;refine λM P B=>⟨i+1,(next _ w).symm,q,dec q,?_⟩;exact B.fit (by simp[Az,Res.eqv,qDA,Ae,w,qpK])
     .have w:=L (O j) (by rw[u];simp only[E];rw[show Fu r C=zb from R];rfl) A;refine zq ?_;intros;refine λM P B=>⟨i+1,(next _ w).symm,q,dec q,?_⟩;exact B.fit (by simp[Az,Res.eqv,qDA,Ae,w,qpK])
   .refine zw ?_;refine λM P B=>⟨i+1,?_,q,dec q,?_⟩
    .exact zK (λz=>[zD .i64 z]) (wr1 q U V).symm
    .have:qIF (EO n h p) l (i+1)=qIF (EO n h p) l i:=by simp[qIF,D,A]
     exact B.fit (by simp[Az,Res.eqv,qDA,Ae,this])
  .have af:i=l.length:=by have:=zf H;omega
   subst af;refine zq ?_;intros;cases u:qIF (EO n h p) l l.length with
   |none=>
    refine zw ?_;refine⟨λ_=>zw ?_,λh=>nomatch h⟩;intro ag ah;rw[show qdM (EO n h p) l=zc from u];rfl
   |some j=>
    refine zw ?_;refine⟨λQ=>absurd (ze Q) su,λ_=>zq ?_⟩;intros;intro ag ah
    rw[show qdM (EO n h p) l=O j from u];rfl)
end Go.Proofs.YtlmhpamhhgogaaaGreat
namespace Go.Proofs.YtlmhpamhhgogaaaGreat
open Go.Proofs.YtlmhpamhhgogaaaGreat.Sx Go.RowKit
def tS:F (Z×FnI):=[(105,Dn.1),(106,DR.1)]
def Mj:qqB X0 tS:=qPA Dn.2 (qPA DR.2 noT)
def tK:F (Z×FnI):=[(107,Cp.1),(108,Ej.1)]
def Mp:qqB X0 tK:=qPA Cp.2 (qPA Ej.2 noT)
def qnJ(g){v}{l}(hl:rSl 1 FJ g v l)(s):OkV X0 61 [v,.string s] g (.int .i64 (CN (BN (λx=>bs x==bs s) l))):=
 Ok.Ao hm Mj 2 GH.2 (args:=[.v v,.v (.string s)]) (by
  obtain⟨P,cap,rfl,B,C,Q,D⟩:=hl;refine zq ?_;intros;refine⟨Z,λk=>[.v (.int .i64 k)],λk=>⟨g,[.blk 0 _ _ [.v (.string s)]],_,_⟩,λk=>k<=l.length/\Ca (Ey λx=>bs x==bs s) l k,λk=>l.length-k,qMA 0 rfl ⟨zF _,Ca.zero _ _⟩ rfl,?_⟩;rintro k ⟨R,q⟩;refine zw ?_;refine⟨λu=>?_,λu=>?_⟩
  .have h:k<l.length:=by have:=ze u;omega
   obtain⟨x,w⟩:=qBA h;obtain⟨a,rfl,T,U,rfl,E⟩:=D k x w;refine zw ?_;refine⟨a,rfl,⟨sa,sa⟩,zw ?_⟩;refine⟨_,E 0 _ rfl,zw ?_⟩;refine⟨kF,zq ?_⟩;intros;refine⟨λA=>?_,λA=>?_⟩
   .refine zw ?_;intro H L;rw[qTG q w A]
   .refine zw ?_;refine λV W M=>⟨k+1,zK (λz=>[zD .i64 z]) (wr1 h B C).symm,⟨h,q8E q w A⟩,dec h,?_⟩;exact M.fit sc
  .refine zw ?_;intro H L;have:=zf u
   rw[qoD q sa])
def qkO(g){v}{l}(hl:rSl 4 qOC g v l)(s):OkV X0 62 [v,.string s] g (.int .i64 (CN (BN (λ(x:Bb)=>bs x.name==bs s) l))):=
 Ok.Ao hm Mp 2 G4.2 (args:=[.v v,.v (.string s)]) (by
  obtain⟨P,cap,rfl,B,C,Q,D⟩:=hl;refine zq ?_;intros;refine⟨Z,λk=>[.v (.int .i64 k)],λk=>⟨g,[.blk 0 _ _ [.v (.string s)]],_,_⟩,λk=>k<=l.length/\Ca (Ey λ(x:Bb)=>bs x.name==bs s) l k,λk=>l.length-k,qMA 0 rfl ⟨zF _,Ca.zero _ _⟩ rfl,?_⟩;rintro k ⟨R,q⟩;refine zw ?_;refine⟨λu=>?_,λu=>?_⟩
  .have h:k<l.length:=by have:=ze u;omega
   obtain⟨x,w⟩:=qBA h;obtain⟨a,rfl,T,U,⟨V,rfl,_,_,_,_,rfl,_⟩,E⟩:=D k x w;refine zw ?_;refine⟨a,rfl,⟨sa,sa⟩,zw ?_⟩;refine⟨_,⟨rfl,E⟩,zq ?_⟩;intros;refine⟨kF,zq ?_⟩;intros;refine⟨λA=>?_,λA=>?_⟩
   .refine zw ?_;intro H L;rw[qTG q w A]
   .refine zw ?_;refine λW Y M=>⟨k+1,zK (λz=>[zD .i64 z]) (wr1 h B C).symm,⟨h,q8E q w A⟩,dec h,?_⟩;exact M.fit sc
  .refine zw ?_;intro H L;have:=zf u
   rw[qoD q sa])
def q8O{q:Type}{f:q->zM}{l}(h:l.length<=zAr):InR (CN (BN f l)):=by
 unfold zAr at h;cases u:BN f l with
 |none=>exact⟨sb,sb⟩
 |some i=>have:=qnZ u;exact⟨by simp only[CN];omega,by simp only[CN];omega⟩
def qwP{h q:Type}{l:F h}{f:h->F q}{k:Z}{x:h}(u:l[k]?=O x):((l.take (k+1)).map f).flatten=((l.take k).map f).flatten++f x:=by
 obtain⟨w,A⟩:=zd.1 u;rw[zY w,A];simp
def qJY(g:GW)(c:BB)(a d v:zg)(g':GW):Prop:=
 (qTA c=zc/\∃h n cap,v=.tuple #[.agg ⟨[a,.slice h n cap,d]⟩,.int .i64 0,.int .i64 0]/\rSl 4 qGW g' (.slice h n cap) (qGC c).AN/\∀x,h=O x->¬g.g x.block)\/
 ∃e i,qTA c=O (e,i)/\v=.tuple #[.agg ⟨[.slice zc 0 0,.slice zc 0 0,.slice zc 0 0]⟩,.int .i64 e,.int .i64 i]
abbrev Nr(c:BB)(r:Gs):F zg:=qBV (qwM c r)
def qdH(g){a b d}{c}(hc:qHB g [a,b,d] c):Ok X0 27 [.agg ⟨[a,b,d]⟩] g (qJY g c a d):=by
 have T:=hc;obtain⟨_,_,_,ab,U,B,V⟩:=hc;cases ab;obtain⟨C,D,rfl,au,av,aw,ax⟩:=id U;obtain⟨W,Y,rfl,b1,ac,ay,ad⟩:=id B;obtain⟨E,H,rfl,az,aA,aB,aC⟩:=id V
 exact Ok.Ao hm noT 0 H7.2 (args:=[.v (.agg ⟨[.slice C c.Aa.length D,.slice W c.As.length Y,.slice E c.Ad.length H]⟩)]) (by
  rcases qBK (qTA c)with⟨q,L⟩|⟨e,i,q,L⟩
  rotate_left
  .have aD:=qiC q;refine zq ?_;intros;refine .inl ⟨_,(qSG _ T).to L,zw ?_⟩;refine⟨λ_=>zq ?_,λh=>absurd h sf⟩;intros;intro ae u;exact .inr ⟨e,i,q,rfl⟩
  have G:=Bh.1 q;have aE:=G.size;refine zq ?_;intros;refine .inl ⟨_,(qSG _ T).to L,zw ?_⟩;refine⟨λaf=>(nomatch af),λ_=>zq ?_⟩;intros;rename_i ag ah _ ai;refine zw ?_;refine⟨Z×zs zAH×Z,λ(k,_,_)=>[.v (.int .i64 k)],λ(k,M,P)=>⟨g,[.row 10 M k P 161 4 ((c.As.take k).map (Nr c)).flatten,.blk 2 ai 68 [.v (.slice C c.Aa.length D),.row 10 M k P,.v (.slice E c.Ad.length H)],.blk 1 ah 68 [.v (.slice zc 0 0),.v (.slice zc 0 0),.v (.slice zc 0 0)],.blk 0 ag 26 [.v (.slice C c.Aa.length D),.v (.slice W c.As.length Y),.v (.slice E c.Ad.length H)]],40,g.w.heap.size⟩,λ(k,_,_)=>k<=c.As.length,λ(k,_,_)=>c.As.length-k,?_,?_⟩
  .intro aj ak Q;exact⟨(0,zc,0),rfl,zF _,(Q.Cx (nx':=40) 10 161 4).fit sc⟩
  rintro⟨k,M,P⟩ aa;have aa:k<=c.As.length:=aa;refine zq ?_;intros;refine⟨λR=>?_,λR=>?_⟩
  .have A:k<c.As.length:=by have:=ze R;omega
   obtain⟨x,h⟩:=qBA A;obtain⟨a,rfl,aF,aG,rfl,hc⟩:=ad k x h;have al:=qwP (f:=Nr c) h;refine zq ?_;intros;refine⟨a,rfl,⟨sa,sa⟩,zw ?_⟩;refine⟨_,⟨rfl,hc⟩,zq ?_⟩;intros;refine .inl ⟨_,qnJ _ U _,zq ?_⟩;intros;refine .inl ⟨_,qkO _ V _,zq ?_⟩;intros;refine⟨⟨by unfold zAr;omega,sa⟩,λan ao=>zq ?_⟩;intros;refine λaj ak Q=>⟨(k+1,an,ao),zK (λz=>[zD .i64 z]) (wr1 A b1 ac).symm,A,dec A,Q.fit ?_⟩;simp only[al];simp[Az,Res.eqv,qDA,Ae,qwM]
  have ap:k=c.As.length:=by have:=zf R;omega
  subst ap;refine zq ?_;intros;refine λaH aI aq ar=>zw ?_;intro ae u;refine .inl ⟨q,_,_,_,rfl,?_,λx h u=>aq x h u⟩;refine((qiD ar.rd (qGC c).AN qBV ?_ (by simp[qGC]) (λ_ _=>rfl) λr B=>?_).mono q3K u)
  .rw[zAw (zG _)];simp[qGC,zCM,zB8]
  .obtain⟨aJ,_,rfl⟩:=zAb.1 B
   exact⟨rfl,q8O sa,q8O sa⟩)
abbrev Ns(s:FL)(r:Gb):F zg:=qBY (q1B s r)
def qAU(g){a b d}{s}(hs:qfJ g [a,b,d] s)(aI:s.AN.length<=1000000):Ok X0 114 [.agg ⟨[a,b,d]⟩] g λv g'=>∃oa n cap,v=.agg ⟨[a,.slice oa n cap,d]⟩/\rSl 4 q4K g' (.slice oa n cap) (qRD s).As:=by
 obtain⟨_,_,_,ar,au,av,aw⟩:=hs;cases ar;obtain⟨oa,ab,rfl,aJ,aK,aL,ax⟩:=id au;obtain⟨aj,ak,rfl,b1,M,aM,ay⟩:=id av;obtain⟨ac,ad,rfl,aN,aO,aP,ae⟩:=id aw
 exact Ok.Ao hm noT 0 HD.2 (args:=[.v (.agg ⟨[.slice oa s.Aa.length ab,.slice aj s.AN.length ak,.slice ac s.Ad.length ad]⟩)]) (by
  refine zq ?_;intros;rename_i az aA aB;refine zw ?_;refine⟨Z×zs zAH×Z,λ(k,_,_)=>[.v (.int .i64 k)],λ(k,af,ag)=>⟨g,[.row 10 af k ag 153 4 ((s.AN.take k).map (Ns s)).flatten,.blk 2 aB 26 [.v (.slice oa s.Aa.length ab),.row 10 af k ag,.v (.slice ac s.Ad.length ad)],.blk 1 aA 26 [.v (.slice zc 0 0),.v (.slice zc 0 0),.v (.slice zc 0 0)],.blk 0 az 68 [.v (.slice oa s.Aa.length ab),.v (.slice aj s.AN.length ak),.v (.slice ac s.Ad.length ad)]],40,g.w.heap.size⟩,λ(k,_,_)=>k<=s.AN.length,λ(k,_,_)=>s.AN.length-k,?_,?_⟩
  .intro P Q A;exact⟨(0,zc,0),rfl,zF _,(A.Cx (nx':=40) 10 153 4).fit sc⟩
  rintro⟨k,af,ag⟩ al;have al:k<=s.AN.length:=al;refine zq ?_;intros;refine⟨λah=>?_,λah=>?_⟩
  .have q:k<s.AN.length:=by have:=ze ah;omega
   obtain⟨⟨W,aQ,aR,D⟩,h⟩:=qBA q;obtain⟨a,rfl,aT,aU,⟨rfl,_,_⟩,aC⟩:=ay k _ h;have R:=qwP (f:=Ns s) h;refine zq ?_;intros;refine⟨a,rfl,⟨sa,sa⟩,zw ?_⟩;refine⟨_,⟨rfl,aC⟩,zq ?_⟩;intros;by_cases T:0<=W/\W<s.Aa.length
   .obtain⟨n,rfl⟩:=zBj T.1;obtain⟨y,an⟩:=qBA (show n<s.Aa.length by omega);obtain⟨aD,rfl,aV,aW,rfl,aE⟩:=ax n y an;have L:quJ s.Aa (n:zn)=y:=by unfold quJ;rw[zk T];simp[an]
    refine zw ?_;refine⟨λ_=>zq ?_,λh=>absurd (((zC T.1)).symm.trans h) sb⟩;intros;refine⟨λ_=>zq ?_,λh=>absurd (((zC T.2)).symm.trans h) sb⟩;intros;refine⟨aD,rfl,⟨T.1,T.2⟩,zw ?_⟩;refine⟨_,aE 0 _ rfl,zq ?_⟩;intros;by_cases u:0<=D/\D<s.Ad.length
    .obtain⟨m,rfl⟩:=zBj u.1;obtain⟨z,U⟩:=qBA (show m<s.Ad.length by omega);obtain⟨Y,rfl,ao,ap,⟨aq,rfl,_,_,_,_,rfl,_⟩,aa⟩:=ae m z U;have E:qCD s.Ad (m:zn)=z.name:=by unfold qCD;rw[zk u];simp[U]
     refine zw ?_;refine⟨λ_=>zq ?_,λh=>absurd (((zC u.1)).symm.trans h) sb⟩;intros;refine⟨λ_=>zq ?_,λh=>absurd (((zC u.2)).symm.trans h) sb⟩;intros;refine⟨Y,rfl,⟨u.1,u.2⟩,zw ?_⟩;refine⟨_,aa 0 _ rfl,zq ?_⟩;intros;refine⟨⟨by unfold zAr;omega,sa⟩,λB C=>zq ?_⟩;intros;refine λP Q A=>⟨(k+1,B,C),zK (λz=>[zD .i64 z]) (wr1 q b1 M).symm,q,dec q,A.fit ?_⟩;simp only[R];simp[Az,Res.eqv,qDA,Ae,q1B,L,E]
    have E:qCD s.Ad D=⟨#[]⟩:=by unfold qCD;rw[zh u]
    by_cases H:0<=D
    .refine zw ?_;refine⟨λ_=>zq ?_,λh=>absurd (((zC H)).symm.trans h) sb⟩;intros;refine⟨λh=>absurd (h.symm.trans ((zE (show ¬D<s.Ad.length from λV=>u ⟨H,V⟩)))) sb,λ_=>zq ?_⟩;intros;refine⟨⟨by unfold zAr;omega,sa⟩,λB C=>zq ?_⟩;intros;refine λP Q A=>⟨(k+1,B,C),zK (λz=>[zD .i64 z]) (wr1 q b1 M).symm,q,dec q,A.fit ?_⟩;simp only[R];simp[Az,Res.eqv,qDA,Ae,q1B,L,E]
    .refine zw ?_;refine⟨λh=>absurd (h.symm.trans ((zE H))) sb,λ_=>zq ?_⟩;intros;refine⟨⟨by unfold zAr;omega,sa⟩,λB C=>zq ?_⟩;intros;refine λP Q A=>⟨(k+1,B,C),zK (λz=>[zD .i64 z]) (wr1 q b1 M).symm,q,dec q,A.fit ?_⟩;simp only[R];simp[Az,Res.eqv,qDA,Ae,q1B,L,E]
   have L:quJ s.Aa W=⟨#[]⟩:=by unfold quJ;rw[zh T]
   by_cases ai:0<=W
   .refine zw ?_;refine⟨λ_=>zq ?_,λh=>absurd (((zC ai)).symm.trans h) sb⟩;intros;refine⟨λh=>absurd (h.symm.trans ((zE (show ¬W<s.Aa.length from λV=>T ⟨ai,V⟩)))) sb,λ_=>zq ?_⟩;intros;by_cases u:0<=D/\D<s.Ad.length
    .obtain⟨m,rfl⟩:=zBj u.1;obtain⟨z,U⟩:=qBA (show m<s.Ad.length by omega);obtain⟨Y,rfl,ao,ap,⟨aq,rfl,_,_,_,_,rfl,_⟩,aa⟩:=ae m z U;have E:qCD s.Ad (m:zn)=z.name:=by unfold qCD;rw[zk u];simp[U]
     refine zw ?_;refine⟨λ_=>zq ?_,λh=>absurd (((zC u.1)).symm.trans h) sb⟩;intros;refine⟨λ_=>zq ?_,λh=>absurd (((zC u.2)).symm.trans h) sb⟩;intros;refine⟨Y,rfl,⟨u.1,u.2⟩,zw ?_⟩;refine⟨_,aa 0 _ rfl,zq ?_⟩;intros;refine⟨⟨by unfold zAr;omega,sa⟩,λB C=>zq ?_⟩;intros;refine λP Q A=>⟨(k+1,B,C),zK (λz=>[zD .i64 z]) (wr1 q b1 M).symm,q,dec q,A.fit ?_⟩;simp only[R];simp[Az,Res.eqv,qDA,Ae,q1B,L,E]
    have E:qCD s.Ad D=⟨#[]⟩:=by unfold qCD;rw[zh u]
    by_cases H:0<=D
    .refine zw ?_;refine⟨λ_=>zq ?_,λh=>absurd (((zC H)).symm.trans h) sb⟩;intros;refine⟨λh=>absurd (h.symm.trans ((zE (show ¬D<s.Ad.length from λV=>u ⟨H,V⟩)))) sb,λ_=>zq ?_⟩;intros;refine⟨⟨by unfold zAr;omega,sa⟩,λB C=>zq ?_⟩;intros;refine λP Q A=>⟨(k+1,B,C),zK (λz=>[zD .i64 z]) (wr1 q b1 M).symm,q,dec q,A.fit ?_⟩;simp only[R];simp[Az,Res.eqv,qDA,Ae,q1B,L,E]
    .refine zw ?_;refine⟨λh=>absurd (h.symm.trans ((zE H))) sb,λ_=>zq ?_⟩;intros;refine⟨⟨by unfold zAr;omega,sa⟩,λB C=>zq ?_⟩;intros;refine λP Q A=>⟨(k+1,B,C),zK (λz=>[zD .i64 z]) (wr1 q b1 M).symm,q,dec q,A.fit ?_⟩;simp only[R];simp[Az,Res.eqv,qDA,Ae,q1B,L,E]
   .refine zw ?_;refine⟨λh=>absurd (h.symm.trans ((zE ai))) sb,λ_=>zq ?_⟩;intros;by_cases u:0<=D/\D<s.Ad.length
    .obtain⟨m,rfl⟩:=zBj u.1;obtain⟨z,U⟩:=qBA (show m<s.Ad.length by omega);obtain⟨Y,rfl,ao,ap,⟨aq,rfl,_,_,_,_,rfl,_⟩,aa⟩:=ae m z U;have E:qCD s.Ad (m:zn)=z.name:=by unfold qCD;rw[zk u];simp[U]
     refine zw ?_;refine⟨λ_=>zq ?_,λh=>absurd (((zC u.1)).symm.trans h) sb⟩;intros;refine⟨λ_=>zq ?_,λh=>absurd (((zC u.2)).symm.trans h) sb⟩;intros;refine⟨Y,rfl,⟨u.1,u.2⟩,zw ?_⟩;refine⟨_,aa 0 _ rfl,zq ?_⟩;intros;refine⟨⟨by unfold zAr;omega,sa⟩,λB C=>zq ?_⟩;intros;refine λP Q A=>⟨(k+1,B,C),zK (λz=>[zD .i64 z]) (wr1 q b1 M).symm,q,dec q,A.fit ?_⟩;simp only[R];simp[Az,Res.eqv,qDA,Ae,q1B,L,E]
    have E:qCD s.Ad D=⟨#[]⟩:=by unfold qCD;rw[zh u]
    by_cases H:0<=D
    .refine zw ?_;refine⟨λ_=>zq ?_,λh=>absurd (((zC H)).symm.trans h) sb⟩;intros;refine⟨λh=>absurd (h.symm.trans ((zE (show ¬D<s.Ad.length from λV=>u ⟨H,V⟩)))) sb,λ_=>zq ?_⟩;intros;refine⟨⟨by unfold zAr;omega,sa⟩,λB C=>zq ?_⟩;intros;refine λP Q A=>⟨(k+1,B,C),zK (λz=>[zD .i64 z]) (wr1 q b1 M).symm,q,dec q,A.fit ?_⟩;simp only[R];simp[Az,Res.eqv,qDA,Ae,q1B,L,E]
    .refine zw ?_;refine⟨λh=>absurd (h.symm.trans ((zE H))) sb,λ_=>zq ?_⟩;intros;refine⟨⟨by unfold zAr;omega,sa⟩,λB C=>zq ?_⟩;intros;refine λP Q A=>⟨(k+1,B,C),zK (λz=>[zD .i64 z]) (wr1 q b1 M).symm,q,dec q,A.fit ?_⟩;simp only[R];simp[Az,Res.eqv,qDA,Ae,q1B,L,E]
  have aF:k=s.AN.length:=by have:=zf ah;omega
  subst aF;refine zq ?_;intros;refine λaX aY aZ aG=>zw ?_;intro a0 aH;refine⟨_,_,_,rfl,(qiD aG.rd (qRD s).As qBY ?_ (by simp[qRD]) (λ_ _=>rfl) λ_ _=>rfl).mono qgJ aH⟩
  rw[zAw (zG _)];simp[qRD,zCM,zB8])

def qmX(g){cs}{s}(hs:qfJ g cs s)(L:s.AN.length<=1000000):OkV X0 71 [.agg ⟨cs⟩] g (.bool (eqB (qTA (qRD s)) zc)):=by
 have M:=hs;obtain⟨a,b,d,rfl,u,P,w⟩:=hs;obtain⟨A,B,rfl,ac,ad,ae,af⟩:=id u;obtain⟨Q,R,rfl,b1,ag,ah,ai⟩:=id P;obtain⟨C,D,rfl,aj,ak,al,an⟩:=id w
 exact Ok.Ao hm noT 0 JR.2 (args:=[.v (.agg ⟨[.slice A s.Aa.length B,.slice Q s.AN.length R,.slice C s.Ad.length D]⟩)]) (by
  refine zq ?_;intros;refine zw ?_;refine .inr ((qAU g M L).mono λv T E U=>?_);obtain⟨V,n,W,rfl,Y⟩:=U;have H:qHB T [.slice A s.Aa.length B,.slice V n W,.slice C s.Ad.length D] (qRD s):=⟨_,_,_,rfl,u.mono qXE E,Y,w.mono qMD E⟩;rcases qBK (qTA (qRD s))with⟨h,q⟩|⟨e,i,h,q⟩
  .refine zw ?_;refine .inl ⟨_,(qSG _ H).to q,zw ?_⟩;intro aa ab;rw[qnU h];rfl
  .have ao:=qiC h;refine zw ?_;refine .inl ⟨_,(qSG _ H).to q,zw ?_⟩;intro aa ab;rw[qPc (by rw[h];simp)]
   exact zK zBm sf)
def qES(s:FL)(l h p:BA):zg:=
 if CN (BN (λx=>bs x==bs l) s.Aa)<0 then .tuple #[.int .i64 0,.int .i64 3]else
 match qdM (EO (CN (BN (λx=>bs x==bs l) s.Aa)) h p) s.AN with
 |none=>.tuple #[.int .i64 0,.int .i64 5]
 |some j=>.tuple #[.int .i64 ((s.AN[j]?).map (·.Ak)).get!,.int .i64 0]
def q9T(g){cs}{s}(hs:qfJ g cs s)(l h p)(A:SmL s.AN/\Sm h/\Sm p):OkV X0 76 [.agg ⟨cs⟩,.string l,.string h,.string p] g (qES s l h p):=by
 have W:=hs;obtain⟨a,b,d,rfl,B,w,H⟩:=hs;obtain⟨L,M,rfl,Y,aa,ab,ac⟩:=id B;obtain⟨P,Q,rfl,b1,ad,ae,R⟩:=id w;obtain⟨T,U,rfl,af,ag,ah,ai⟩:=id H
 exact Ok.Ao hm noT 0 IK.2 (args:=[.v (.agg ⟨[.slice L s.Aa.length M,.slice P s.AN.length Q,.slice T s.Ad.length U]⟩),.v (.string l),.v (.string h),.v (.string p)]) (by
  refine zq ?_;intros;refine .inl ⟨_,qnJ _ B _,zw ?_⟩;refine⟨λq=>?_,λq=>?_⟩
  .refine zw ?_;intro C D;rw[qES,zk (ze q)]
  have q:=zf q;refine zq ?_;intros;cases u:qdM (EO (CN (BN (λx=>bs x==bs l) s.Aa)) h p) s.AN with
  |none=>
   refine zw ?_;refine .inl ⟨_,(qCU _ w _ _ _ A).to (zK qPa u),zw ?_⟩;refine⟨λ_=>zw ?_,λh=>nomatch h⟩;intro C D;rw[qES,zh q,u]
  |some j=>
   refine zw ?_;refine .inl ⟨_,(qCU _ w _ _ _ A).to (zK qPa u),zw ?_⟩;refine⟨λh=>(nomatch h),λ_=>?_⟩;obtain⟨r,E,aj,_⟩:=F8.1 u;obtain⟨a,rfl,ak,al,⟨rfl,_,_⟩,V⟩:=R j r E;refine zq ?_;intros;refine⟨a,rfl,⟨sa,sa⟩,zw ?_⟩;refine⟨_,V 3 _ rfl,zw ?_⟩;intro C D;rw[qES,zh q,u]
   simp[E])
abbrev sIn:BA:=⟨#[105,110]⟩

def Lw{h:Type}(sz)(R:RP h)(g):rSl sz R g (.slice zc 0 0) []:=⟨zc,0,rfl,zG _,zF _,λ_=>⟨rfl,rfl⟩,λi x q=>by simp at q⟩
def qpE{g g'}{a b d v}{c}(hc:qHB g [a,b,d] c)(u:g<=g')(h:qJY g c a d v g'):∃x y z e i,v=.tuple #[.agg ⟨[x,y,z]⟩,.int .i64 e,.int .i64 i]/\qfJ g' [x,y,z] (qjB c)/\eiT (qTA c)=.tuple #[.int .i64 e,.int .i64 i]/\((e=0/\i=0/\qTA c=zc/\x=a/\z=d)\/(e≠0/\qTA c≠zc/\x=.slice zc 0 0/\y=.slice zc 0 0/\z=.slice zc 0 0)):=by
 rcases h with⟨q,D,n,cap,rfl,w,_⟩|⟨e,i,q,rfl⟩
 .obtain⟨_,_,_,A,B,_,C⟩:=hc;cases A;refine⟨_,_,_,0,0,rfl,?_,by rw[q];rfl,.inl ⟨rfl,rfl,q,rfl,rfl⟩⟩;rw[qjB,q];exact⟨_,_,_,rfl,B.mono qXE u,w,C.mono qMD u⟩
 .have E:=qiC q;refine⟨_,_,_,e,i,rfl,?_,by rw[q];rfl,.inr ⟨sa,by rw[q];simp,rfl,rfl,rfl⟩⟩;rw[qjB,q];exact⟨_,_,_,rfl,Lw _ _ _,Lw _ _ _,Lw _ _ _⟩
def SnS(s:FL):Prop:=s.AN.length<=1000000/\∀r∈s.AN,r.Bp.size<=100/\r.path.size<=100
def qba{w}(h:InU w):IntKind.u32.wrap w=w%4294967296:=by
 rw[IntKind.wrap_u32]
def KD{w}:InR (w%4294967296)/\InR (w%4294967296-1):=by
 have h:=zBW w (show(4294967296:zn)≠0 by decide);have q:=zBN w (show(0:zn)<4294967296 by decide);unfold InR;omega
def q2B(g){w}(h:InU w):OkV X0 136 [.int .u64 w] g (.int .i64 (By w)):=
 Ok.Ao hm noT 0 IH.2 (args:=[.v (.int .u64 w)]) (by
  refine zq ?_;intros;intro q u
  rw[qba h,wr KD.1,show w%4294967296+-1=w%4294967296-1 from rfl,wr KD.2];rfl)
def qLb{t i}(q:0<=t/\t<4294967296)(u:0<=i/\i<4294967296):qVS .or .u64 (t*4294967296) i=t*4294967296+i:=by
 obtain⟨a,rfl⟩:=zBj q.1;obtain⟨b,rfl⟩:=zBj u.1;have h:=Nat.shiftLeft_add_eq_or_of_lt (i:=32) (b:=b) sa a;rw[Nat.shiftLeft_eq,show(2:Z)^32=4294967296 by decide]at h;rw[show(a:zn)*4294967296=((a*4294967296:Z):zn) by omega]
 have w:(BitVec.ofInt 64 ((a*4294967296:Z):zn)).toNat=a*4294967296:=by
  rw[BitVec.ofInt_natCast,BitVec.toNat_ofNat];omega
 have A:(BitVec.ofInt 64 (b:zn)).toNat=b:=by
  rw[BitVec.ofInt_natCast,BitVec.toNat_ofNat];omega
 show zBO.wrap ((BitVec.ofInt 64 ((a*4294967296:Z):zn)|||BitVec.ofInt 64 (b:zn)).toNat:zn)=_;rw[BitVec.toNat_or,w,A,<-h,IntWalk.u64_in _ sa];omega
def q8L(g){t i}(A:0<=t/\t<4294967296)(E:InR i):OkV X0 142 [.int .u32 t,.int .i64 i] g (.tuple #[.int .u64 (if qoC i then t*4294967296+(i+1)else 0),.int .i64 (if qoC i then 0 else 1)]):=
 Ok.Ao hm noT 0 Jc.2 (args:=[.v (.int .u32 t),.v (.int .i64 i)]) (by
  refine zq ?_;intros;refine⟨λq=>?_,λq=>?_⟩
  .refine zq ?_;intros;intro u w;have:qoC i=zb:=by unfold qoC;have:=ze q;simp;omega
   rw[this];rfl
  .refine zq ?_;intros;refine⟨λh=>?_,λh=>?_⟩
   .refine zq ?_;intros;intro u w;have:qoC i=zb:=by unfold qoC;have:=ze h;simp;omega
    rw[this];rfl
   .refine zq ?_;intros;refine⟨sb,zq ?_⟩;intros;intro u w;have H:=zf q;have h:=zf h;have:qoC i=I:=by unfold qoC;simp;omega
    rw[this];have B:zBO.wrap t=t:=IntWalk.u64_in t sa
    have C:zBO.wrap (t*2^min (Int.toNat 32) zBO.bits)=t*4294967296:=by
     rw[show(2:zn)^min (Int.toNat 32) zBO.bits=4294967296 by decide];exact IntWalk.u64_in _ sa
    have D:zBO.wrap (zAf.wrap (i - -1))=i+1:=by rw[wr sg];exact IntWalk.u64_in _ sa
    rw[B,C,D,qLb A sa];rfl)
def tCh:F (Z×FnI):=[(97,FO.1),(135,ET.1)]
def qta:qqB X0 tCh:=qPA FO.2 (qPA ET.2 noT)
def qhP(e:Bz)(v:zg)(g':GW):Prop:=match qMC e with
 |none=>v=.tuple #[.slice zc 0 0,.int .i64 11]
 |some l=>∃h cap,v=.tuple #[.slice h l.length cap,.int .i64 0]/\rSl 1 BS g' (.slice h l.length cap) l
abbrev LW(l:F zn):F zg:=l.map λx=>zD .i64 x
def qXQ(g){cs}{e}(af:rEn g cs e):Ok X0 52 [.agg ⟨cs⟩] g (qhP e):=by
 obtain⟨⟨n,rfl,ag,aI,ah⟩,aJ⟩:=af;obtain⟨L,M,rfl,aK,aL,aM,ai⟩:=id ah
 exact Ok.Ao hm qta 2 H8.2 (args:=[.v (.agg ⟨[.int .u64 e.head,.slice L e.next.length M,.int .i64 e.Ah]⟩)]) (by
  refine zq ?_;intros;refine⟨kF,λlp aj=>zq ?_⟩;intros;refine⟨⟨sa,sa,sa,sa⟩,λ_=>zq ?_⟩;intros;refine .inl ⟨_,q2B _ ag,?_⟩;rename_i ak al an ao ap aq;refine zq ?_;intros;refine⟨zn×F zn×zs zAH×Z,λ(i,_,_,_)=>[.v (.int .i64 i)],λ(_,out,B,C)=>⟨g,[.row 7 B out.length C 3 1 (LW out),.row 6 (O ⟨aq,0,zc⟩) e.next.length e.next.length 4 1 (qaF e.next.length out),.lp 5 lp aj .ready,.blk 4 ap 141 [.v (.int .u64 e.head),.v (.slice L e.next.length M),.v (.int .i64 e.Ah)],.blk 3 ao 29 [.row 7 B out.length C],.blk 2 an 35 [.v (.int .i64 0)],.blk 1 al 29 [.v (.slice zc 0 0)],.blk 0 ak 141 [.v (.int .u64 e.head),.v (.slice L e.next.length M),.v (.int .i64 e.Ah)]],40,g.w.heap.size⟩,λ(i,out,_,_)=>InR i/\out.Nodup/\(∀x∈out,0<=x/\x<e.next.length)/\q6F e.next (e.next.length+1-out.length) out i=qMC e,λ(_,out,_,_)=>e.next.length-out.length,?_,?_⟩
  .intro ar au P;exact⟨(By e.head,[],zc,0),rfl,⟨by have:=qpQ e.head;unfold InR;omega,zBR,sd,rfl⟩,(P.Cx (nx':=40) 7 3 1).fit (by simp[Az,Res.eqv,qDA,Ae,qKT])⟩
  rintro⟨i,out,B,C⟩ ⟨aN,Q,D,u⟩;refine zq ?_;intros;refine⟨λR=>?_,λR=>?_⟩
  .have aa:i≠-1:=by simpa using R
   have T:(i<0\/(e.next.length:zn)<=i\/i∈out)->qMC e=zc:=λE=>by
    have av:=qqF Q D;rw[show e.next.length+1-out.length=(e.next.length-out.length)+1 by omega]at u;simp only[q6F,zh aa,zk E]at u;exact u.symm
   refine zq ?_;intros;refine⟨λU=>?_,λU=>?_⟩
   .refine zq ?_;intros;refine⟨λ_=>zq ?_,λh=>nomatch h⟩;intros;intro V H;unfold qhP;rw[T (.inl (by simpa using U))]
   .refine zq ?_;intros;refine⟨λW=>?_,λW=>?_⟩
    .refine zq ?_;intros;refine⟨λ_=>zq ?_,λh=>nomatch h⟩;intros;intro V H;unfold qhP;rw[T (.inr (.inl (by simpa using W)))]
    .have A:0<=i/\i<e.next.length:=by simp at U W;omega
     have aw:=qLT (n:=e.next.length) (out:=out) A;obtain⟨y,ab⟩:=qBA (l:=e.next) (i:=i.toNat) sa;obtain⟨a,rfl,aO,aP,⟨rfl,ax⟩,ay⟩:=ai i.toNat y ab;refine zq ?_;intros;refine⟨A,zq ?_⟩;intros;refine⟨_,by simpa using aw,zq ?_⟩;intros;refine⟨λY=>?_,λY=>?_⟩
     .refine zq ?_;intros;refine⟨λ_=>zq ?_,λh=>nomatch h⟩;intros;intro V H;unfold qhP;rw[T (.inr (.inr (by simpa using Y)))]
     .have ac:i∉out:=by simpa using Y
      have ad:(out++[i]).Nodup:=zBk.2 ⟨Q,sd,λa az b E aA=>ac (by simp at E;rw[<-E,<-aA];exact az)⟩
      have ae:∀x∈out++[i],0<=x/\x<e.next.length:=λx q=>by
       rcases zL.1 q with q|q
       .exact D x q
       .simp at q;subst q;exact A
      have aB:=qqF ad ae;have aC:=qJT (out:=out) A;simp only[zAq,zBb,zCo]at aB;refine zq ?_;intros;refine⟨A,zq ?_⟩;intros;refine⟨⟨by rw[qvM];omega,sb⟩,zq ?_⟩;intros;refine⟨λq=>absurd q sf,λ_=>zq ?_⟩;intros;refine⟨λq=>absurd q sf,λ_=>zq ?_⟩;intros;refine⟨⟨by unfold zAr;omega,sa⟩,λaD aE=>zq ?_⟩;intros;refine⟨a,rfl,A,zw ?_⟩;refine⟨_,ay 0 _ rfl,zq ?_⟩;intros;refine λar au P=>⟨(y,out++[i],aD,aE),rfl,⟨ax,ad,ae,?_⟩,by simp only[zAq,zBb,zCo];omega,?_⟩
      .rw[show e.next.length+1-out.length=(e.next.length+1-(out++[i]).length)+1 by simp;omega]at u;simp only[q6F,zh aa,zh (show ¬(i<0\/(e.next.length:zn)<=i\/i∈out) by rintro(h|h|h);omega;omega;exact ac h)]at u;rw[<-u];unfold CM;rw[ab];rfl
      .have aF:List.take i.toNat (qaF e.next.length out)++zBm I::List.drop (i.toNat+1) (qaF e.next.length out)=qaF e.next.length (out++[i]):=by rw[<-aC];simp
       exact P.fit (by simp[Az,Res.eqv,qDA,Ae,aF])
  .have aG:i=-1:=by simpa using R
   subst aG;have av:=qqF Q D;rw[show e.next.length+1-out.length=(e.next.length-out.length)+1 by omega]at u;simp only[q6F,zBp]at u;refine zq ?_;intros;refine⟨λh=>(nomatch h),λ_=>zw ?_⟩;refine⟨λ_=>zq ?_,λh=>nomatch h⟩;intros;refine λaQ aR aT aH=>zq ?_;intros;intro V H;unfold qhP;rw[<-u]
   exact⟨B,C,rfl,(qqC aH.rd out (λx=>.int .i64 x) rfl λx q=>⟨rfl,by have:=D x q;unfold InR;omega⟩).mono qxA H⟩)
def qlO(g){cs}{e}(C:rEn g cs e):OkV X0 53 [.agg ⟨cs⟩] g (.bool (Bv e)):=by
 have E:=C;obtain⟨⟨n,rfl,R,T,H⟩,U⟩:=C;obtain⟨L,M,rfl,V,W,Y,aa⟩:=id H
 exact Ok.Ao hm noT 0 Jd.2 (args:=[.v (.agg ⟨[.int .u64 e.head,.slice L e.next.length M,.int .i64 e.Ah]⟩)]) (by
  refine zq ?_;intros;refine .inr ((qXQ _ E).mono λv ab ac h=>?_);unfold qhP at h;unfold Bv;cases D:qMC e with
  |none=>
   rw[D]at h;subst h;refine zq ?_;intros;refine⟨λq=>(nomatch q),λ_=>zq ?_⟩;intros;intro u w;rfl
  |some l=>
   rw[D]at h;obtain⟨ad,ae,rfl,_⟩:=h;refine zq ?_;intros;refine⟨λ_=>zq ?_,λq=>nomatch q⟩;intros;refine⟨λA=>?_,λA=>?_⟩
   .refine zq ?_;intros;refine⟨λB=>?_,λB=>?_⟩
    .refine zq ?_;intros;intro u w;have P:=ze A;have Q:=ze B;rw[zC (show 1<=e.next.length by omega),zC (show e.next.length<=4 by omega)];rfl
    .refine zq ?_;intros;intro u w;have Q:=zf B;rw[zE (show ¬e.next.length<=4 by omega)];simp
   .refine zq ?_;intros;intro u w;have P:=zf A
    rw[zE (show ¬1<=e.next.length by omega)];simp)
def tPl:F (Z×FnI):=[(74,AF.1),(75,EW.1)]
def qka:qqB X0 tPl:=qPA AF.2 (qPA EW.2 noT)
def qcH(g){v}{l}(hl:rSl 4 qeB g v l)(s):OkV X0 36 [v,.string s] g (.int .i64 (qrB l s)):=
 Ok.Ao hm qka 2 HL.2 (args:=[.v v,.v (.string s)]) (by
  obtain⟨P,cap,rfl,B,C,Q,D⟩:=hl;refine zq ?_;intros;refine⟨Z,λk=>[.v (.int .i64 k)],λk=>⟨g,[.blk 0 _ _ [.v (.string s)]],_,_⟩,λk=>k<=l.length/\Ca (Ey λ(x:AY)=>bs x.name==bs s) l k,λk=>l.length-k,qMA 0 rfl ⟨zF _,Ca.zero _ _⟩ rfl,?_⟩;rintro k ⟨R,q⟩;refine zw ?_;refine⟨λu=>?_,λu=>?_⟩
  .have h:k<l.length:=by have:=ze u;omega
   obtain⟨x,w⟩:=qBA h;obtain⟨a,rfl,T,U,⟨rfl,_⟩,E⟩:=D k x w;refine zw ?_;refine⟨a,rfl,⟨sa,sa⟩,zw ?_⟩;refine⟨_,⟨rfl,E⟩,zw ?_⟩;refine⟨kF,zq ?_⟩;intros;refine⟨λA=>?_,λA=>?_⟩
   .refine zw ?_;intro H L;rw[qrB,qTG q w A]
   .refine zw ?_;refine λV W M=>⟨k+1,zK (λz=>[zD .i64 z]) (wr1 h B C).symm,⟨h,q8E q w A⟩,dec h,?_⟩;exact M.fit sc
  .refine zw ?_;intro H L;have:=zf u
   rw[qrB,qoD q sa])
def qdb(g){cs}{x}(h:qeB g cs x):OkV X0 35 [.agg ⟨cs⟩] g (.bool (q4I x)):=by
 obtain⟨rfl,q⟩:=h
 exact Ok.Ao hm noT 0 Ji.2 (args:=[.v (.agg ⟨[.string x.name,.bool x.drain,.int .i64 x.Ah,.bool x.closed]⟩)]) (by
  refine zq ?_;intros;refine zq ?_;intros
  repeat'((first|refine .inl ⟨_,qHI _ _,zq ?_⟩|refine⟨λ_=>zq ?_,λ_=>zq ?_⟩|rfl)<;>intros)
  all_goals(conv=>whnf)
  all_goals(intro u w)
  all_goals(unfold q4I;simp_all;try(intros;omega)))
def qfR{c}{r}(q:r∈c)(h:r.length≠6):qgD c=zb:=by
 unfold qgD;rw[show(c.all λr=>decide (r.length=6))=zb from zDx.2 ⟨r,q,by simpa using h⟩];rfl
def qcb(g){v}{l}(hl:rSl 1 F5 g v l):OkV X0 68 [v] g (.bool (qgD l)):=
 Ok.Ao hm noT 0 Je.2 (args:=[.v v]) (by
  obtain⟨R,cap,rfl,E,H,T,L⟩:=hl;refine zq ?_;intros;refine⟨Z,λk=>[.v (.int .i64 k)],λk=>⟨g,[],_,_⟩,λk=>k<=l.length/\(l.take k).all (λr=>decide (r.length=6))=I,λk=>l.length-k,qMA 0 rfl ⟨zF _,sd⟩ rfl,?_⟩;rintro k ⟨U,h⟩;refine zq ?_;intros;refine⟨λu=>?_,λu=>?_⟩
  .have q:k<l.length:=by have:=ze u;omega
   obtain⟨x,w⟩:=qBA q;obtain⟨a,rfl,V,W,⟨n,rfl,M⟩,P⟩:=L k x w;obtain⟨Y,aa,rfl,ab,ac,ad,ae⟩:=id M;refine zq ?_;intros;refine⟨a,rfl,⟨sa,sa⟩,zw ?_⟩;refine⟨_,P 0 _ rfl,zq ?_⟩;intros;refine⟨λA=>?_,λA=>?_⟩
   .refine zq ?_;intros;intro C D;rw[qfR (zl w) (by have af:(x.length:zn)≠6:=E3 A;omega)]
   .refine zq ?_;intros;refine λag ah Q=>⟨k+1,zK (λz=>[zD .i64 z]) (wr1 q E H).symm,⟨q,?_⟩,dec q,Q⟩;obtain⟨c1,c2⟩:=zd.1 w;rw[qYD c1,h,c2];have:(x.length:zn)=6:=by simpa using A
    simp;omega
  .have ai:=zf u;rw[zAw sa]at h;refine zq ?_;intros;refine⟨λB=>?_,λB=>?_⟩
   .refine zq ?_;intros;intro C D;have:=ze B;unfold qgD;rw[h,zC (show 1<=l.length by omega)];simp;omega
   .refine zq ?_;intros;intro C D;have:=zf B;unfold qgD
    rw[h,zE (show ¬1<=l.length by omega)];rfl)
def tLh:F (Z×FnI):=[(93,Av.1),(134,Aw.1),(113,FW.1)]
def qoa:qqB X0 tLh:=qPA Av.2 (qPA Aw.2 (qPA FW.2 noT))
def q3Y(g){v}{l}(hl:rSl 3 qAB g v l)(n):OkV X0 70 [v,.int .i64 n] g (.bool (l.any λr=>r.Ac==n)):=
 Ok.Ao hm qoa 3 IT.2 (args:=[.v v,.v (.int .i64 n)]) (by
  obtain⟨Q,cap,rfl,C,D,R,E⟩:=hl;refine zq ?_;intros;refine⟨Z,λk=>[.v (.int .i64 k)],λk=>⟨g,[.blk 0 _ _ [.v (.int .i64 n)]],_,_⟩,λk=>k<=l.length/\Ca (Ey λ(x:Ba)=>x.Ac==n) l k,λk=>l.length-k,qMA 0 rfl ⟨zF _,Ca.zero _ _⟩ rfl,?_⟩;rintro k ⟨T,A⟩;refine zw ?_;refine⟨λq=>?_,λq=>?_⟩
  .have h:k<l.length:=by have:=ze q;omega
   obtain⟨x,u⟩:=qBA h;obtain⟨a,rfl,U,V,⟨rfl,_⟩,H⟩:=E k x u;refine zw ?_;refine⟨a,rfl,⟨sa,sa⟩,zw ?_⟩;refine⟨_,⟨rfl,H⟩,zw ?_⟩;refine⟨kF,zq ?_⟩;intros;refine⟨λw=>?_,λw=>?_⟩
   .refine zw ?_;intro L M;have:(l.any λr=>r.Ac==n)=I:=zBY.2 ⟨x,zl u,w⟩;rw[this];simp
   .refine zw ?_;refine λW Y P=>⟨k+1,zK (λz=>[zD .i64 z]) (wr1 h C D).symm,⟨h,q8E A u w⟩,dec h,?_⟩;exact P.fit sc
  .refine zw ?_;intro L M;have:=zf q;have B:=qGM (λ(x:Ba)=>x.Ac==n) l;rw[qoD A sa]at B
   rw[<-B])
def qSb(g){v}{l}(hl:rSl 3 qAB g v l):OkV X0 33 [v] g (.bool (q7D l)):=
 Ok.Ao hm noT 0 Jh.2 (args:=[.v v]) (by
  obtain⟨U,cap,rfl,E,H,V,L⟩:=id hl;refine zq ?_;intros;refine⟨Z,λk=>[.v (.int .i64 k)],λk=>⟨g,[],_,_⟩,λk=>k<=l.length/\E4 (F2 l) l k,λk=>l.length-k,qMA 0 rfl ⟨zF _,E4.zero _ _⟩ rfl,?_⟩;rintro k ⟨M,D⟩;refine zw ?_;refine⟨λu=>?_,λu=>?_⟩
  .have q:k<l.length:=by have:=ze u;omega
   obtain⟨x,h⟩:=qBA q;obtain⟨a,rfl,W,Y,⟨rfl,_⟩,P⟩:=L k x h;refine zq ?_;intros;refine⟨a,rfl,⟨sa,sa⟩,zw ?_⟩;refine⟨_,⟨rfl,P⟩,zq ?_⟩;intros;refine⟨λb1=>?_,λb1=>?_⟩
   .refine zq ?_;intros;intro w A;have Q:=ze b1;exact zK zBm (qzB h (by unfold F2;rw[zE sa];rfl)).symm
   .have Q:=zf b1;refine zq ?_;intros;refine⟨λB=>?_,λB=>?_⟩
    .refine zq ?_;intros;intro w A;have R:=ze B;exact zK zBm (qzB h (by unfold F2;rw[zE (show ¬0<=x.at_ by omega)];simp)).symm
    .have R:=zf B;refine zq ?_;intros;refine⟨⟨sa,sa⟩,zq ?_⟩;intros;refine .inl ⟨_,q3Y _ (rSl.take hl M) _,zq ?_⟩;intros;refine⟨λC=>?_,λC=>?_⟩
     .refine zq ?_;intros;intro w A;exact zK zBm (qzB h (by unfold F2;rw[C];simp)).symm
     .refine zq ?_;intros;refine λaa ab T=>⟨k+1,zK (λz=>[zD .i64 z]) (wr1 q E H).symm,⟨q,D.succ h ?_⟩,dec q,?_⟩
      .unfold F2;rw[C,zC (show 0<=x.Ac by omega),zC (show 0<=x.at_ by omega)];rfl
      .exact T.fit sc
  .refine zq ?_;intros;intro w A;have:=zf u
   exact zK zBm (D.done sa).symm)
def tV:F (Z×FnI):=[(73,AI.1),(115,AM.1),(72,DN.1)]
def Mi:qqB X0 tV:=qPA AI.2 (qPA AM.2 (qPA DN.2 noT))
def qLO{v}(h:eqB (qTA (qRD v.AO)) zc=zb):qNB v=zb:=by unfold qNB;rw[h];rfl
def qKO{v}(h:v.Am.length≠v.AO.Ad.length):qNB v=zb:=by unfold qNB;rw[zE h];simp
def qxG{v}{k}{x}(q:v.Am[k]?=O x)(h:qwF v.AO.Ad k x=zb):qNB v=zb:=by unfold qNB;rw[qzB q h];simp
def qUR{v}{k}(q:eqB (qTA (qRD v.AO)) zc=I)(h2:v.Am.length=v.AO.Ad.length)(h:E4 (qwF v.AO.Ad) v.Am k)(hk:v.Am.length<=k):qNB v=I:=by
 unfold qNB;rw[q,zC h2,h.done hk];rfl
def qIP{c}{e}:q9J c e=(Bv e&&decide ((e.next.length:zn)=c.Au)):=rfl
def qjO(g){cs}{x}(u:rVe g cs x)(ar:SnS x.AO):OkV X0 34 [.agg ⟨cs⟩] g (.bool (qNB x)):=by
 obtain⟨a,b,d,n,rfl,ag,au⟩:=u;have av:=ag;obtain⟨_,_,_,aw,ax,ay,az⟩:=ag;cases aw;obtain⟨H,L,rfl,aY,aZ,a0,a1⟩:=id ax;obtain⟨M,P,rfl,b1,a2,a3,a4⟩:=id ay;obtain⟨ah,Q,rfl,a5,a6,a7,aA⟩:=id az;obtain⟨ai,R,rfl,aB,h,a8,aC⟩:=id au
 exact Ok.Ao hm Mi 3 GF.2 (args:=[.v (.agg ⟨[.slice H x.AO.Aa.length L,.slice M x.AO.AN.length P,.slice ah x.AO.Ad.length Q,.slice ai x.Am.length R,.bool x.AV]⟩)]) (by
  refine zq ?_;intros;refine .inl ⟨_,qmX _ av ar.1,zq ?_⟩;intros;refine⟨λz1=>?_,λz1=>?_⟩
  .refine zq ?_;intros;intro h A;rw[qLO (nb1 z1)]
  .have aD:=nb0 z1;refine zq ?_;intros;refine⟨λT=>?_,λT=>?_⟩
   .refine zq ?_;intros;intro h A;rw[qKO (LD T)]
   .have aE:x.Am.length=x.AO.Ad.length:=LF T;refine zq ?_;intros;rename_i aj;refine zw ?_;refine⟨Z,λk=>[.v (.int .i64 k)],λk=>⟨g,[.blk 0 aj 71 [.v (.slice H x.AO.Aa.length L),.v (.slice M x.AO.AN.length P),.v (.slice ah x.AO.Ad.length Q),.v (.slice ai x.Am.length R),.v (.bool x.AV)]],10,g.w.heap.size⟩,λk=>k<=x.Am.length/\E4 (qwF x.AO.Ad) x.Am k,λk=>x.Am.length-k,λU V q=>⟨0,rfl,⟨zF _,E4.zero _ _⟩,q.fit sc⟩,?_⟩;rintro k ⟨a9,ak⟩;refine zq ?_;intros;refine⟨λW=>?_,λW=>?_⟩
    .have C:k<x.Am.length:=by have:=ze W;omega
     obtain⟨y,B⟩:=qBA C;obtain⟨al,rfl,ba,bb,⟨bc,rfl,bd,hE⟩,aF⟩:=aC k y B;obtain⟨aG,aH,rfl,aI,aJ,be,aK⟩:=id hE;obtain⟨c,an⟩:=qBA (l:=x.AO.Ad) (i:=k) sa;obtain⟨ao,rfl,bf,bg,⟨bh,rfl,c1,c2,aL⟩,aM⟩:=aA k c an;obtain⟨aN,aO,rfl,bi,bj,bl,bm⟩:=id aL;have D:qwF x.AO.Ad k y=(decide (y.ends.length=c.AA.length)&&y.ends.all (q9J c)):=by unfold qwF;rw[an]
     refine zq ?_;intros;refine⟨al,rfl,⟨sa,sa⟩,zw ?_⟩;refine⟨_,⟨rfl,aF⟩,zq ?_⟩;intros;refine⟨ao,rfl,⟨sa,sa⟩,zw ?_⟩;refine⟨_,⟨rfl,aM⟩,zq ?_⟩;intros;refine⟨λY=>?_,λY=>?_⟩
     .refine zq ?_;intros;intro h A;refine zK zBm (qxG B ?_).symm;rw[D,zE (LD Y)];rfl
     .have aP:y.ends.length=c.AA.length:=LF Y;refine zq ?_;intros;rename_i aQ aR;refine zw ?_;refine⟨Z,λn=>[.v (.int .i64 n)],λn=>⟨g,[.blk 11 aR 151 [.v (.string c.name),.v (.int .i64 c.Bl),.v (.int .i64 c.Au),.v (.slice aN c.AA.length aO)],.blk 10 aQ 139 [.v (.int .u64 y.AQ),.v (.slice aG y.ends.length aH)],.blk 0 aj 71 [.v (.slice H x.AO.Aa.length L),.v (.slice M x.AO.AN.length P),.v (.slice (O ao) x.AO.Ad.length Q),.v (.slice (O al) x.Am.length R),.v (.bool x.AV)]],20,g.w.heap.size⟩,λn=>n<=y.ends.length/\(y.ends.take n).all (q9J c)=I,λn=>y.ends.length-n,λU V q=>⟨0,rfl,⟨zF _,sd⟩,q.fit sc⟩,?_⟩;rintro n ⟨bn,aa⟩;refine zq ?_;intros;refine⟨λab=>?_,λab=>?_⟩
      .have E:n<y.ends.length:=by have:=ze ab;omega
       obtain⟨e,ap⟩:=qBA E;obtain⟨aT,rfl,bo,bp,aq,aU⟩:=aK n e ap;have aV:=aq;obtain⟨⟨bq,rfl,br,bt,aW⟩,bu⟩:=aq;obtain⟨bv,bw,rfl,bx,bz,bA,bB⟩:=id aW;obtain⟨ac,ad⟩:=zd.1 ap;refine zq ?_;intros;refine⟨aT,rfl,⟨sa,sa⟩,zw ?_⟩;refine⟨_,⟨rfl,aU⟩,zq ?_⟩;intros;refine⟨kF,zq ?_⟩;intros;refine .inl ⟨_,qlO _ aV,zq ?_⟩;intros;refine⟨λae=>?_,λae=>?_⟩
       .refine zq ?_;intros;refine⟨λ_=>zq ?_,λu=>absurd (((zC (show(0:zn)<=(n:zn) by omega))).symm.trans u) sb⟩;intros;intro h A;refine zK zBm (qxG B ?_).symm;rw[D,qtB ac (by rw[ad,qIP,nb1 ae];rfl)];simp
       .refine zq ?_;intros;refine⟨λaf=>?_,λaf=>?_⟩
        .refine zq ?_;intros;refine⟨λ_=>zq ?_,λu=>absurd (((zC (show(0:zn)<=(n:zn) by omega))).symm.trans u) sb⟩;intros;intro h A;refine zK zBm (qxG B ?_).symm;rw[D,qtB ac (by rw[ad,qIP,zE (E3 af)];simp)];simp
        .refine zq ?_;intros;refine λU V q=>⟨n+1,zK (λz=>[zD .i64 z]) (wr1 E aI aJ).symm,⟨E,by rw[qYD ac,aa,ad,qIP,nb0 ae,zC (Ft af)];rfl⟩,dec E,?_⟩;exact q.fit sc
      .have bC:=zf ab;rw[zAw sa]at aa;refine zq ?_;intros;refine⟨λaX=>(nomatch aX),λ_=>zq ?_⟩;intros;refine λU V q=>⟨k+1,zK (λz=>[zD .i64 z]) (wr1 C aB h).symm,⟨C,ak.succ B (by rw[D,zC aP,aa];rfl)⟩,dec C,?_⟩;exact q.fit sc
    .refine zq ?_;intros;intro h A;have:=zf W
     rw[qUR aD aE ak sa])

def tGr:F (Z×FnI):=[(23,AE.1),(56,AC.1),(69,Ee.1)]
def qra:qqB X0 tGr:=qPA AE.2 (qPA AC.2 (qPA Ee.2 noT))
def GrP(w:Wd):Prop:=1<=w.pins.length/\w.pins.length<=8/\w.counts.length=w.pins.length/\qgD w.counts=I/\0<=w.Al/\w.Al<=1000000000000/\(w.AH=0\/w.AH=1)
def q7L(w:Wd)(p:zn):zM:=decide (0<=p)&&decide (p<=w.Al+1)
def Fo{w}:q6A w=I<->GrP w/\w.pins.all (q7L w)=I:=by
 unfold q6A GrP q7L;simp only[zj,zx];constructor
 .rintro⟨⟨⟨⟨⟨⟨⟨h,q⟩,u⟩,A⟩,B⟩,C⟩,D⟩,E⟩;exact⟨⟨h,q,u,A,B,C,D⟩,E⟩
 .rintro⟨⟨h,q,u,A,B,C,D⟩,E⟩;exact⟨⟨⟨⟨⟨⟨⟨h,q⟩,u⟩,A⟩,B⟩,C⟩,D⟩,E⟩
def qpD{w}(h:¬GrP w):q6A w=zb:=by
 rw[zCG];intro q;exact h (Fo.1 q).1
def qdN{w}(h:w.pins.all (q7L w)=zb):q6A w=zb:=by
 rw[zCG];intro q;rw[(Fo.1 q).2]at h;cases h
def qyT(g){cs}{w}(P:rWo g cs w):OkV X0 32 [.agg ⟨cs⟩] g (.bool (q6A w)):=by
 obtain⟨a,b,c,d,e,rfl,⟨aF,aG,aH⟩,ae,af,ag,aa,ah⟩:=P;obtain⟨ai,aj,rfl,ak,al,aI,an⟩:=id ae;obtain⟨ao,ap,rfl,b1,aJ,aK,aL⟩:=id af;obtain⟨aq,ar,rfl,c1,c2,c0,aM⟩:=id ag;obtain⟨au,av,rfl,aN,aO,aP,aQ⟩:=id aa;obtain⟨aw,ax,rfl,aR,aT,aU,aV⟩:=id ah
 exact Ok.Ao hm qra 3 G2.2 (args:=[.v (.agg ⟨wQ w ai aj ao ap aq ar au av aw ax⟩)]) (by
  refine zq ?_;intros;refine⟨λz1=>?_,λz1=>?_⟩
  .refine zq ?_;intros;intro q u;rw[qpD λh=>by have:=ze z1;have:=h.1;omega]
  refine zq ?_;intros;refine⟨λC=>?_,λC=>?_⟩
  .refine zq ?_;intros;intro q u;rw[qpD λh=>by have:=ze C;have:=h.2.1;omega]
  refine zq ?_;intros;refine⟨λD=>?_,λD=>?_⟩
  .refine zq ?_;intros;intro q u;rw[qpD λh=>LD D h.2.2.1]
  refine zq ?_;intros;refine .inl ⟨_,qcb _ aa,zq ?_⟩;intros;refine⟨λA=>?_,λA=>?_⟩
  .refine zq ?_;intros;intro q u;rw[qpD λh=>by rw[h.2.2.2.1]at A;cases A]
  refine zq ?_;intros;refine⟨λE=>?_,λE=>?_⟩
  .refine zq ?_;intros;intro q u;rw[qpD λh=>by have:=ze E;have:=h.2.2.2.2.1;omega]
  refine zq ?_;intros;refine⟨λH=>?_,λH=>?_⟩
  .refine zq ?_;intros;intro q u;rw[qpD λh=>by have:=ze H;have:=h.2.2.2.2.2.1;omega]
  refine zq ?_;intros;have aW:=zf z1;have aX:=zf C;have ay:=LF D;have az:=nb0 A;have aY:=zf E;have k6:=zf H;clear z1 C D A E H;refine zw ?_;refine⟨λB=>?_,λB=>?_⟩
  case' refine_1=>
   have ab:=E3 B;refine zq ?_;intros;refine⟨λL=>?_,λL=>?_⟩
   case' refine_1=>
    have aA:=E3 L;refine zq ?_;intros;intro q u;rw[qpD λh=>by rcases h.2.2.2.2.2.2 with h|h;exact ab h;exact aA h]
   have ac:w.AH=0\/w.AH=1:=.inr (Ft L);clear B L ab
  case' refine_2=>
   have ac:w.AH=0\/w.AH=1:=.inl (Ft B);clear B
  all_goals
   have aB:GrP w:=⟨sa,sa,ay,az,sa,sa,ac⟩;refine zq ?_;intros;refine⟨Z,λk=>[.v (.int .i64 k)],λ_=>⟨g,_,_,_⟩,λk=>k<=w.pins.length/\(w.pins.take k).all (q7L w)=I,λk=>w.pins.length-k,qMA 0 rfl ⟨zF _,sd⟩ rfl,?_⟩;rintro k ⟨aZ,Q⟩;refine zq ?_;intros;refine⟨λR=>?_,λR=>?_⟩
   case' refine_1=>
    have M:k<w.pins.length:=by have:=ze R;omega
    obtain⟨x,ad⟩:=qBA M;obtain⟨a,rfl,a0,a1,⟨rfl,a2⟩,aC⟩:=an k x ad;obtain⟨T,U⟩:=zd.1 ad;have aD:(w.pins.take (k+1)).all (q7L w)=q7L w x:=by rw[qYD T,Q,U];rfl
    refine zq ?_;intros;refine⟨a,rfl,⟨sa,sa⟩,zw ?_⟩;refine⟨_,aC 0 _ rfl,zq ?_⟩;intros;refine⟨kF,zq ?_⟩;intros;refine⟨λV=>?_,λV=>?_⟩
    case' refine_1=>
     refine zq ?_;intros;intro q u;rw[zC (show(0:zn)<=(k:zn) by omega)];have aE:=ze V;rw[qdN (qtB T (by rw[U];unfold q7L;rw[zE sa];rfl))];rfl
    have aE:=zf V;refine zq ?_;intros;refine⟨λW=>?_,λW=>?_⟩
    case' refine_1=>
     refine zq ?_;intros;intro q u;rw[zC (show(0:zn)<=(k:zn) by omega)];have Y:=ze W;rw[wr sg]at Y;rw[qdN (qtB T (by rw[U];unfold q7L;rw[zE (show ¬x<=w.Al+1 by omega)];simp))];rfl
    have Y:=zf W;rw[wr sg]at Y;refine zq ?_;intros;refine λa3 a4 P=>⟨k+1,zK (λz=>[zD .i64 z]) (wr1 M ak al).symm,⟨M,by rw[aD];unfold q7L;rw[zC (show 0<=x by omega),zC (show x<=w.Al+1 by omega)];rfl⟩,dec M,?_⟩;exact P.fit sc
   have:=zf R;rw[zAw sa]at Q;refine zq ?_;intros;intro q u
   rw[Fo.2 ⟨aB,Q⟩];rfl)
def SnW(w:Wd):Prop:=∀v∈w.Ab,SnS v.AO
def JK{w}:wdB w=I<->q6A w=I/\(0<=w.current/\w.current<w.Ab.length)/\q7D w.Ai=I/\w.Ai.all (C2 w)=I/\allI (De w) w.Ab=I/\allI (qoB w.Aa) w.Aa=I:=by
 unfold wdB;simp only[zj,zx];constructor
 .rintro⟨⟨⟨⟨⟨⟨h,q⟩,u⟩,A⟩,B⟩,C⟩,D⟩;exact⟨h,⟨q,u⟩,A,B,C,D⟩
 .rintro⟨h,⟨q,u⟩,A,B,C,D⟩;exact⟨⟨⟨⟨⟨⟨h,q⟩,u⟩,A⟩,B⟩,C⟩,D⟩
def qvI{w}(h:¬(q6A w=I/\(0<=w.current/\w.current<w.Ab.length)/\q7D w.Ai=I/\w.Ai.all (C2 w)=I/\allI (De w) w.Ab=I/\allI (qoB w.Aa) w.Aa=I)):wdB w=zb:=by
 rw[zCG];intro q;exact h (JK.1 q)
def qlX(g){cs}{w}(A:rWo g cs w)(aD:SnW w):OkV X0 10 [.agg ⟨cs⟩] g (.bool (wdB w)):=by
 have aE:=A;obtain⟨a,b,c,d,e,rfl,⟨aZ,a0,a1⟩,aF,aG,av,aH,aw⟩:=A;obtain⟨V,W,rfl,a2,a3,a4,a5⟩:=id aF;obtain⟨Y,aa,rfl,b1,ax,a6,aI⟩:=id aG;obtain⟨ab,ac,rfl,c1,c2,c0,aJ⟩:=id av;obtain⟨ad,ae,rfl,a7,a8,a9,ba⟩:=id aH;obtain⟨af,ag,rfl,aK,aL,bb,aM⟩:=id aw
 exact Ok.Ao hm noT 0 Jb.2 (args:=[.v (.agg ⟨wQ w V W Y aa ab ac ad ae af ag⟩)]) (by
  refine zq ?_;intros;refine .inl ⟨_,qyT _ aE,zq ?_⟩;intros;refine⟨λz1=>?_,λz1=>?_⟩
  .refine zq ?_;intros;intro H L;rw[qvI λh=>by rw[h.1]at z1;cases z1]
  refine zq ?_;intros;refine⟨λah=>?_,λah=>?_⟩
  .refine zq ?_;intros;intro H L;rw[qvI λh=>by have:=ze ah;have:=h.2.1;omega]
  refine zq ?_;intros;refine⟨λai=>?_,λai=>?_⟩
  .refine zq ?_;intros;intro H L;rw[qvI λh=>by have:=ze ai;have:=h.2.1;omega]
  refine zq ?_;intros;refine .inl ⟨_,qSb _ aw,zq ?_⟩;intros;refine⟨λT=>?_,λT=>?_⟩
  .refine zq ?_;intros;intro H L;rw[qvI λh=>by rw[h.2.2.1]at T;cases T]
  have aN:=nb0 z1;have bc:=zf ah;have bd:=zf ai;have ay:=nb0 T;clear z1 ah ai T;refine zq ?_;intros;rename_i an ao;refine zw ?_;refine⟨Z,λk=>[.v (.int .i64 k)],λk=>⟨g,[.mp 1 ao .i64 (q2I (w.Ai.take k)),.blk 0 an 44 [.v (.int .i64 w.Al),.v (.int .i64 w.current),.v (.int .i64 w.AH),.v (.slice V w.pins.length W),.v (.slice Y w.Ab.length aa),.v (.slice ab w.Aa.length ac),.v (.slice ad w.counts.length ae),.v (.slice af w.Ai.length ag)]],10,g.w.heap.size⟩,λk=>k<=w.Ai.length/\(w.Ai.take k).all (C2 w)=I,λk=>w.Ai.length-k,λQ R A=>⟨0,rfl,⟨zF _,sd⟩,A.fit (by simp[Az,Res.eqv,qDA,Ae,q2I])⟩,?_⟩;rintro k ⟨aj,ap⟩;refine zq ?_;intros;refine⟨λE=>?_,λE=>?_⟩
  .have u:k<w.Ai.length:=by have:=ze E;omega
   obtain⟨x,B⟩:=qBA u;obtain⟨a,rfl,az,aA,⟨rfl,be,bf⟩,U⟩:=aM k x B;obtain⟨ak,al⟩:=zd.1 B;have aO:(w.Ai.take (k+1)).all (C2 w)=C2 w x:=by rw[qYD ak,ap,al];rfl
   have aP:=qFL B;refine zq ?_;intros;refine⟨a,rfl,⟨sa,sa⟩,zw ?_⟩;refine⟨_,⟨rfl,U⟩,zq ?_⟩;intros;refine⟨λD=>?_,λD=>?_⟩
   .refine zq ?_;intros;intro H L;have aQ:=ze D;rw[qvI λh=>by have q:=h.2.2.2.1;rw[qtB ak (by rw[al];unfold C2;rw[zE sa];rfl)]at q;cases q]
   have aQ:=zf D;refine zq ?_;intros;refine⟨λC=>?_,λC=>?_⟩
   .refine zq ?_;intros;intro H L;have aq:=B9 C;rw[qvI λh=>by have q:=h.2.2.2.1;rw[qtB ak (by rw[al];unfold C2;rw[zE (show ¬x.Ac≠w.current by simpa using aq)];simp)]at q;cases q]
   have aq:=Ea C;refine zq ?_;intros;refine⟨λar=>?_,λar=>?_⟩
   .refine zq ?_;intros;intro H L;have aR:=ze ar;rw[qvI λh=>by have q:=h.2.2.2.1;rw[qtB ak (by rw[al];unfold C2;rw[zE (show ¬x.at_<=w.Al by omega)];simp)]at q;cases q]
   have aR:=zf ar;refine zq ?_;intros;refine λQ R A=>⟨k+1,zK (λz=>[zD .i64 z]) (wr1 u aK aL).symm,⟨u,by rw[aO];unfold C2;rw[zC (show x.Ac<w.Ab.length by omega),zC aq,zC (show x.at_<=w.Al by omega)];rfl⟩,dec u,A.fit ?_⟩;simp only[aP];simp[Az,Res.eqv,qDA,Ae]
  have aT:=zf E;rw[zAw sa]at ap;obtain rfl:k=w.Ai.length:=sa
  have au:=λn=>qGL (n:=n) (q0W ay) (zG w.Ai.length);rw[zAB]at au;simp only[zAB];clear E aT aj;refine zq ?_;intros;refine⟨Z,λk=>[.v (.int .i64 k)],λ_=>⟨g,[.mp 1 ao .i64 (q2I w.Ai),.blk 0 an 44 [.v (.int .i64 w.Al),.v (.int .i64 w.current),.v (.int .i64 w.AH),.v (.slice V w.pins.length W),.v (.slice Y w.Ab.length aa),.v (.slice ab w.Aa.length ac),.v (.slice ad w.counts.length ae),.v (.slice af w.Ai.length ag)]],10,g.w.heap.size⟩,λk=>k<=w.Ab.length/\E4 (De w) w.Ab k,λk=>w.Ab.length-k,λQ R A=>⟨0,rfl,⟨zF _,E4.zero _ _⟩,A.fit sc⟩,?_⟩;rintro k ⟨aj,P⟩;refine zq ?_;intros;refine⟨λE=>?_,λE=>?_⟩
  .have u:k<w.Ab.length:=by have:=ze E;omega
   obtain⟨x,B⟩:=qBA u;obtain⟨a,rfl,az,aA,aB,U⟩:=aI k x B;have aU:=aB;obtain⟨bg,bh,bi,bj,rfl,⟨_,_,_,aV,⟨bl,bm,rfl,_⟩,⟨bn,bo,rfl,_⟩,⟨bp,bq,rfl,_⟩⟩,⟨br,bt,rfl,_⟩⟩:=aB;cases aV;refine zq ?_;intros;refine⟨a,rfl,⟨sa,sa⟩,zw ?_⟩;refine⟨_,⟨rfl,U⟩,zq ?_⟩;intros;refine .inl ⟨_,qjO _ aU (aD x (zl B)),zq ?_⟩;intros;refine⟨λD=>?_,λD=>?_⟩
   .refine zq ?_;intros;intro H L;rw[qvI λh=>by have q:=h.2.2.2.2.1;rw[qzB B (by unfold De;rw[nb1 D];rfl)]at q;cases q]
   refine zq ?_;intros;rcases aC:Bs (.i (k:zn)) (q2I w.Ai)with _|bu
   .have M:=au (k:zn);rw[aC]at M;simp only[qUN,Value.bool.injEq]at M;refine zw ?_;refine⟨zc,rfl,zq ?_⟩;intros;refine⟨λC=>?_,λC=>?_⟩
    .refine zq ?_;intros;intro H L;rw[qvI λh=>by have q:=h.2.2.2.2.1;rw[qzB B (by unfold De;rw[nb0 D,<-M];simpa using C)]at q;cases q]
    refine zq ?_;intros;refine λQ R A=>⟨k+1,zK (λz=>[zD .i64 z]) (wr1 u b1 ax).symm,⟨u,P.succ B (by unfold De;rw[nb0 D,<-M];simpa using C)⟩,dec u,?_⟩;exact A.fit sc
   .have M:=au (k:zn);rw[aC]at M;simp only[qUN]at M;subst M;refine zw ?_;refine⟨_,rfl,zq ?_⟩;intros;refine⟨λC=>?_,λC=>?_⟩
    .refine zq ?_;intros;intro H L;rw[qvI λh=>by have q:=h.2.2.2.2.1;rw[qzB B (by unfold De;rw[nb0 D];simpa using C)]at q;cases q]
    refine zq ?_;intros;refine λQ R A=>⟨k+1,zK (λz=>[zD .i64 z]) (wr1 u b1 ax).symm,⟨u,P.succ B (by unfold De;rw[nb0 D];simpa using C)⟩,dec u,?_⟩;exact A.fit sc
  have aW:=P.done (by have:=zf E;omega);clear E aj P;refine zq ?_;intros;refine⟨Z,λk=>[.v (.int .i64 k)],λ_=>⟨g,[.mp 1 ao .i64 (q2I w.Ai),.blk 0 an 44 [.v (.int .i64 w.Al),.v (.int .i64 w.current),.v (.int .i64 w.AH),.v (.slice V w.pins.length W),.v (.slice Y w.Ab.length aa),.v (.slice ab w.Aa.length ac),.v (.slice ad w.counts.length ae),.v (.slice af w.Ai.length ag)]],10,g.w.heap.size⟩,λk=>k<=w.Aa.length/\E4 (qoB w.Aa) w.Aa k,λk=>w.Aa.length-k,λQ R A=>⟨0,rfl,⟨zF _,E4.zero _ _⟩,A.fit sc⟩,?_⟩;rintro k ⟨aj,P⟩;refine zq ?_;intros;refine⟨λE=>?_,λE=>?_⟩
  .have u:k<w.Aa.length:=by have:=ze E;omega
   obtain⟨x,B⟩:=qBA u;obtain⟨a,rfl,az,aA,⟨rfl,aX⟩,U⟩:=aJ k x B;refine zq ?_;intros;refine⟨a,rfl,⟨sa,sa⟩,zw ?_⟩;refine⟨_,⟨rfl,U⟩,zq ?_⟩;intros;refine .inl ⟨_,qdb _ (x:=x) ⟨rfl,aX⟩,zq ?_⟩;intros;refine⟨λD=>?_,λD=>?_⟩
   .refine zq ?_;intros;intro H L;rw[qvI λh=>by have q:=h.2.2.2.2.2;rw[qzB B (by unfold qoB;rw[nb1 D];rfl)]at q;cases q]
   refine zq ?_;intros;refine .inl ⟨_,qcH _ av _,zq ?_⟩;intros;refine⟨λC=>?_,λC=>?_⟩
   .refine zq ?_;intros;intro H L;rw[qvI λh=>by have q:=h.2.2.2.2.2;rw[qzB B (by unfold qoB;rw[zE (E3 C)];simp)]at q;cases q]
   refine zq ?_;intros;refine λQ R A=>⟨k+1,zK (λz=>[zD .i64 z]) (wr1 u c1 c2).symm,⟨u,P.succ B (by unfold qoB;rw[nb0 D,zC (Ft C)];rfl)⟩,dec u,?_⟩;exact A.fit sc
  have aY:=P.done (by have:=zf E;omega);refine zq ?_;intros;intro H L
  rw[JK.2 ⟨aN,⟨sa,sa⟩,ay,ap,aW,aY⟩])

def qpc(n:zn)(v:zg)(g':GW):Prop:=
 ((1<=n/\n<=4)/\∃h cap,v=.tuple #[.agg ⟨[.int .u64 1,.slice h n.toNat cap,.int .i64 0]⟩,.int .i64 0]/\rSl 1 BS g' (.slice h n.toNat cap) (qsB n.toNat).next)\/
 (¬(1<=n/\n<=4)/\v=.tuple #[.agg ⟨[.int .u64 0,.slice zc 0 0,.int .i64 0]⟩,.int .i64 1])
abbrev upE(k:Z):F (F zg):=(zBf k).map λ(i:Z)=>[zD .i64 ((i:zn)+1)]
def qpV(k):upE (k+1)=upE k++[[zD .i64 ((k:zn)+1)]]:=by simp[upE,zDg]
def qZX{k}:∀e∈upE k,e.length=1:=λe h=>by
 obtain⟨x,_,rfl⟩:=zAb.1 h;rfl
def qmW(g){n}:Ok X0 109 [.int .i64 n] g (qpc n):=
 Ok.Ao hm noT 0 HE.2 (args:=[.v (.int .i64 n)]) (by
  refine zq ?_;intros;refine⟨λz1=>?_,λz1=>?_⟩
  .refine zq ?_;intros;intro D h;exact .inr ⟨by have:=ze z1;omega,rfl⟩
  refine zq ?_;intros;refine⟨λq=>?_,λq=>?_⟩
  .refine zq ?_;intros;intro D h;exact .inr ⟨by have:=ze q;omega,rfl⟩
  have Y:=zf z1;have aa:=zf q;obtain⟨N,rfl⟩:=zBj (show 0<=n by omega);refine zq ?_;intros;refine⟨⟨sa,sa,sa,sa⟩,λ_=>zq ?_⟩;intros;rename_i M E P;refine zw ?_;refine⟨Z,λk=>[.v (.int .i64 k)],λk=>⟨g,[.blk 2 P 141 [.v (.int .u64 0),.row 1 (O ⟨E,0,zc⟩) N N,.v (.int .i64 0)],.row 1 (O ⟨E,0,zc⟩) N N 3 1 (Et (upE k) [.int .i64 0] (N-k)),.blk 0 M 141 [.v (.int .u64 0),.v (.slice zc 0 0),.v (.int .i64 0)]],3,g.w.heap.size⟩,λk=>k<=N,λk=>N-k,λQ R u=>⟨0,rfl,zF _,u.fit (by simp[Az,Res.eqv,qDA,Ae,Et,upE])⟩,?_⟩;intro k ab;have A:=qNG (m:=N-k) (z:=[.int .i64 0]) (qZX (k:=k)) rfl;have B:(upE k).length=k:=by simp[upE]
  refine zq ?_;intros;refine⟨λC=>?_,λC=>?_⟩
  .have H:k<N:=by have:=ze C;omega
   have L:=qMG (m:=N-k) (z:=[.int .i64 0]) (qZX (k:=k)) rfl sa (ec:=[.int .i64 ((k:zn)+1)]) rfl B.symm;rw[<-qpV]at L;refine zq ?_;intros;refine⟨⟨sa,sa⟩,zq ?_⟩;intros;refine⟨⟨by rw[A,B];simp;omega,sb⟩,zq ?_⟩;intros;refine λQ R u=>⟨k+1,zK (λz=>[zD .i64 z]) (by rw[wr (show InR ((k:zn)+1) by unfold InR;omega)];omega),H,dec H,u.fit ?_⟩;rw[show N-(k+1)=N-k-1 by omega,<-L];simp[Az,Res.eqv,qDA,Ae,wr (show InR ((k:zn)+1) by unfold InR;omega)]
  have T:k=N:=by have:=zf C;omega
  subst T;rw[zCc,B]at A;refine zq ?_;intros;refine⟨⟨by rw[wr sg];omega,by rw[wr sg];omega⟩,zq ?_⟩;intros;refine⟨⟨by rw[zCc,A,wr sg];simp;omega,sb⟩,zq ?_⟩;intros;refine .inl ⟨_,(q8L _ (t:=0) (i:=0) sb sb).to (show _=Value.tuple #[.int .u64 1,.int .i64 0]from rfl),zq ?_⟩;intros;refine λac ad ae U=>zq ?_;intros;intro D h;refine .inl ⟨⟨sa,sa⟩,_,_,rfl,?_⟩;have V:k=1\/k=2\/k=3\/k=4:=sa
  rcases V with rfl|rfl|rfl|rfl
  all_goals exact(qqC U.rd (qsB _).next (λx=>.int .i64 x) rfl λx W=>⟨rfl,by simp[qsB,zBf,List.range.loop]at W;unfold InR;omega⟩).mono qxA h)
def qAX{g}{n:zn}{oa}{cap:Z}(h:1<=n/\n<=4)(q:rSl 1 BS g (.slice oa n.toNat cap) (qsB n.toNat).next):rEn g [.int .u64 1,.slice oa n.toNat cap,.int .i64 0] (qsB n.toNat):=
 ⟨⟨_,rfl,show InU 1 by decide,show InR 0 by decide,q⟩,by simp[qsB];omega⟩
def qsc(s:FL)(v:zg)(g':GW):Prop:=
 (qTA (qRD s)=zc/\∃a b d h n cap,v=.tuple #[.agg ⟨[a,b,d,.slice h n cap,.bool zb]⟩,.int .i64 0]/\rVe g' [a,b,d,.slice h n cap,.bool zb] (qjC s))\/
 (qTA (qRD s)≠zc/\v=.tuple #[.agg ⟨[.slice zc 0 0,.slice zc 0 0,.slice zc 0 0,.slice zc 0 0,.bool zb]⟩,.int .i64 1])
def qfQ(g){cs}{s}(hs:qfJ g cs s)(ay:s.AN.length<=1000000):Ok X0 63 [.agg ⟨cs⟩] g (qsc s):=by
 have aq:=hs;obtain⟨a,b,d,rfl,az,aA,aB⟩:=hs;obtain⟨C,D,rfl,aV,aW,aX,aY⟩:=id az;obtain⟨E,H,rfl,b1,aZ,a0,a1⟩:=id aA;obtain⟨aa,L,rfl,aC,aD,a2,aE⟩:=id aB
 exact Ok.Ao hm noT 0 HC.2 (args:=[.v (.agg ⟨[.slice C s.Aa.length D,.slice E s.AN.length H,.slice aa s.Ad.length L]⟩)]) (by
  refine zq ?_;intros;refine .inl ⟨_,qmX _ aq ay,zq ?_⟩;intros;refine⟨λz1=>?_,λz1=>?_⟩
  .refine zq ?_;intros;intro q ab;refine .inr ⟨λac=>?_,rfl⟩;rw[qnU ac]at z1;cases z1
  have ar:=DU.1 (nb0 z1);have G:=Bh.1 ar;have a3:s.Ad.length<=4:=G.size.2.2.2;have aF:∀x∈s.Ad,(1<=x.Au/\x.Au<=4)/\(1<=x.AA.length/\x.AA.length<=4):=λx M=>(G.cl x M).2.2;refine zq ?_;intros;rename_i au av aw;refine zw ?_;refine⟨Z×F (F zg)×zs zAH×Z×GW,λ(k,_,_,_,_)=>[.v (.int .i64 k)],λ(k,B,P,Q,u)=>⟨u,[.row 10 P k Q 139 2 B.flatten,.blk 2 aw 71 [.v (.slice C s.Aa.length D),.v (.slice E s.AN.length H),.v (.slice aa s.Ad.length L),.row 10 P k Q,.v (.bool zb)],.blk 1 av 71 [.v (.slice zc 0 0),.v (.slice zc 0 0),.v (.slice zc 0 0),.v (.slice zc 0 0),.v (.bool zb)],.blk 0 au 68 [.v (.slice C s.Aa.length D),.v (.slice E s.AN.length H),.v (.slice aa s.Ad.length L)]],20,g.w.heap.size⟩,λ(k,B,_,_,u)=>k<=s.Ad.length/\g<=u/\F6 2 rGr u B ((s.Ad.take k).map λc=>(⟨0,c.AA.map λ_=>qsB c.Au.toNat⟩:Bm)),λ(k,_,_,_,_)=>s.Ad.length-k,λad ae A=>⟨(0,[],zc,0,g),rfl,⟨zF _,GW.refl _,qBJ _⟩,(A.Cx (nx':=20) 10 139 2).fit sc⟩,?_⟩;rintro⟨k,B,P,Q,u⟩ ⟨a4,af,hE⟩;refine zq ?_;intros;refine⟨λag=>?_,λag=>?_⟩
  .have U:k<s.Ad.length:=by have:=ze ag;omega
   obtain⟨x,M⟩:=qBA U;obtain⟨aG,aH⟩:=zd.1 M;have ax:=aF x (zl M);obtain⟨a,rfl,a5,a6,⟨a7,rfl,_,_,⟨aI,aJ,rfl,aK,aL,_⟩⟩,aM⟩:=aE k x M;refine zq ?_;intros;refine⟨a,rfl,⟨sa,sa⟩,zw ?_⟩;refine⟨_,⟨rfl,aM.mono af⟩,zq ?_⟩;intros;rename_i aN aO;refine zw ?_;refine⟨Z×F (F zg)×zs zAH×Z×GW,λ(n,_,_,_,_)=>[.v (.int .i64 n)],λ(n,R,V,cE,q)=>⟨q,[.row 30 V n cE 141 3 R.flatten,.blk 21 aO 139 [.v (.int .u64 0),.row 30 V n cE],.blk 20 aN 151 [.v (.string x.name),.v (.int .i64 x.Bl),.v (.int .i64 x.Au),.v (.slice aI x.AA.length aJ)],.row 10 P k Q 139 2 B.flatten,.blk 2 aw 71 [.v (.slice C s.Aa.length D),.v (.slice E s.AN.length H),.v (.slice (O a) s.Ad.length L),.row 10 P k Q,.v (.bool zb)],.blk 1 av 71 [.v (.slice zc 0 0),.v (.slice zc 0 0),.v (.slice zc 0 0),.v (.slice zc 0 0),.v (.bool zb)],.blk 0 au 68 [.v (.slice C s.Aa.length D),.v (.slice E s.AN.length H),.v (.slice (O a) s.Ad.length L)]],40,g.w.heap.size⟩,λ(n,R,_,_,q)=>n<=x.AA.length/\u<=q/\F6 3 rEn q R ((x.AA.take n).map λ_=>qsB x.Au.toNat),λ(n,_,_,_,_)=>x.AA.length-n,λad ae A=>⟨(0,[],zc,0,u),rfl,⟨zF _,GW.refl _,qBJ _⟩,(A.Cx (nx':=40) 30 141 3).fit sc⟩,?_⟩;rintro⟨n,R,V,cE,q⟩ ⟨a8,ah,ai⟩;refine zq ?_;intros;refine⟨λaj=>?_,λaj=>?_⟩
   .have W:n<x.AA.length:=by have:=ze aj;omega
    refine zq ?_;intros;refine .inr ((qmW _).mono λv Y h T=>?_);rcases T with⟨_,aP,cF,rfl,T⟩|⟨T,_⟩
    rotate_left
    .exact absurd ax.1 T
    have aQ:=qAX ax.1 T
    have ak:((x.AA.take (n+1)).map λ_=>qsB x.Au.toNat)=((x.AA.take n).map λ_=>qsB x.Au.toNat)++[qsB x.Au.toNat]:=by
     rw[zY W,zBo];rfl
    refine zq ?_;intros;refine⟨λac=>(nomatch ac),λ_=>zq ?_⟩;intros;refine⟨⟨by unfold zAr;omega,sa⟩,λal an=>zq ?_⟩;intros;refine λad ae A=>⟨(n+1,R++[[.int .u64 1,.slice aP x.Au.toNat cF,.int .i64 0]],al,an,Y),zK (λz=>[zD .i64 z]) (wr1 W aK aL).symm,⟨W,GW.trans ah h,by rw[ak];exact qhF (qgF q4C h ai) rfl aQ⟩,dec W,A.fit sc⟩
   have aR:n=x.AA.length:=by have:=zf aj;omega
   subst aR;rw[zAB]at ai
   have ak:((s.Ad.take (k+1)).map λc=>(⟨0,c.AA.map λ_=>qsB c.Au.toNat⟩:Bm))=((s.Ad.take k).map λc=>(⟨0,c.AA.map λ_=>qsB c.Au.toNat⟩:Bm))++[⟨0,x.AA.map λ_=>qsB x.Au.toNat⟩]:=by
    rw[zY aG,zBo,aH];rfl
   refine zq ?_;intros;refine λY h aT ao=>?_;have ap:=qhJ (qgF q4C h ai) ao sd;refine zq ?_;intros;refine⟨⟨by unfold zAr;omega,sa⟩,λal an=>zq ?_⟩;intros;refine λad ae A=>⟨(k+1,B++[[.int .u64 0,.slice V x.AA.length cE]],al,an,Y),zK (λz=>[zD .i64 z]) (wr1 U aC aD).symm,⟨U,GW.trans af (GW.trans ah h),by rw[ak];exact qhF (qgF q0E (GW.trans ah h) hE) rfl ⟨_,rfl,show InU 0 by decide,ap⟩⟩,dec U,A.fit sc⟩
  have aU:k=s.Ad.length:=by have:=zf ag;omega
  subst aU;rw[zAB]at hE;refine zq ?_;intros;refine λY h aT ao=>?_;have ap:=qhJ (qgF q0E h hE) ao sd;refine zq ?_;intros;intro q ab
  exact .inl ⟨ar,_,_,_,_,_,_,rfl,⟨_,_,_,_,rfl,qYC _ _ _ _ (GW.trans af (GW.trans h ab)) aq,ap.mono q0E ab⟩⟩)
def qmc(n:zn)(v:zg)(g':GW):Prop:=
 ((1<=n/\n<=8)/\∃h cap,v=.tuple #[.slice h n.toNat cap,.int .i64 0]/\rSl 1 F5 g' (.slice h n.toNat cap) (qrE n.toNat))\/
 (¬(1<=n/\n<=8)/\v=.tuple #[.slice zc 0 0,.int .i64 1])
def qoO(g){n}:Ok X0 64 [.int .i64 n] g (qmc n):=
 Ok.Ao hm noT 0 IL.2 (args:=[.v (.int .i64 n)]) (by
  refine zq ?_;intros;refine⟨λz1=>?_,λz1=>?_⟩
  .refine zq ?_;intros;intro h C;exact .inr ⟨by have:=ze z1;omega,rfl⟩
  refine zq ?_;intros;refine⟨λD=>?_,λD=>?_⟩
  .refine zq ?_;intros;intro h C;exact .inr ⟨by have:=ze D;omega,rfl⟩
  have af:=zf z1;have ag:=zf D;obtain⟨N,rfl⟩:=zBj (show 0<=n by omega);refine zq ?_;intros;refine⟨⟨sa,sa,sa,sa⟩,λ_=>zq ?_⟩;intros;rename_i R;refine zw ?_;refine⟨Z×F (F zg)×GW,λ(k,_,_)=>[.v (.int .i64 k)],λ(k,q,u)=>⟨u,[.row 0 (O ⟨R,0,zc⟩) N N 213 1 (Et q [.slice zc 0 0] (N-k))],10,g.w.heap.size⟩,λ(k,q,u)=>k<=N/\g<=u/\F6 1 F5 u q (qrE k),λ(k,_,_)=>N-k,λT U E=>⟨(0,[],g),rfl,⟨zF _,GW.refl _,qBJ _⟩,E.fit ss⟩,?_⟩;rintro⟨k,q,u⟩ ⟨ah,V,hE⟩;have M:q.length=k:=by have:=hE.1.1;simpa[qrE]using this
  have W:=qNG (m:=N-k) (z:=[.slice zc 0 0]) hE.1.2 rfl;refine zq ?_;intros;refine⟨λH=>?_,λH=>?_⟩
  .have P:k<N:=by have:=ze H;omega
   refine zq ?_;intros;refine⟨⟨sb,sb,sb,sb⟩,λ_=>zq ?_⟩;intros;refine⟨⟨sa,sa⟩,zq ?_⟩;intros;rename_i L;refine zw ?_;refine λh A Y B=>?_;have aa:rSl 1 Hp h (.slice (O ⟨L,0,zc⟩) 6 6) [0,0,0,0,0,0]:=qqC B.rd [0,0,0,0,0,0] (λx=>.int .u64 x) rfl λx Q=>⟨rfl,by simp at Q;subst Q;decide⟩;have ab:=qMG (m:=N-k) (z:=[.slice zc 0 0]) hE.1.2 rfl sa (ec:=[.slice (O ⟨L,0,zc⟩) 6 6]) rfl M.symm;have ac:qrE (k+1)=qrE k++[[0,0,0,0,0,0]]:=by simp[qrE,zDg]
   refine zq ?_;intros;refine⟨⟨by rw[W,M];simp;omega,sb⟩,zq ?_⟩;intros;refine λT U E=>⟨(k+1,q++[[.slice (O ⟨L,0,zc⟩) 6 6]],h),zK (λz=>[zD .i64 z]) (by rw[wr (show InR ((k:zn)+1) by unfold InR;omega)];omega),⟨P,GW.trans V A,by rw[ac];exact qhF (qgF qSB A hE) rfl ⟨_,rfl,aa⟩⟩,dec P,E.fit ?_⟩;rw[show N-(k+1)=N-k-1 by omega,<-ab];simp[Az,Res.eqv,qDA,Ae]
  have ad:k=N:=by have:=zf H;omega
  subst ad;refine zq ?_;intros;refine λh A Y B=>?_;rw[zCc,qdF]at B;have ae:=qhJ (qgF qSB A hE) B (by simp[qrE]);refine zq ?_;intros;intro h C
  exact .inl ⟨⟨sa,sa⟩,_,_,rfl,ae.mono qSB C⟩)
abbrev wT:WTy:=⟨3,141,139,71,104,52,213,101⟩
abbrev cI1(x:zn):F zg:=[.int .i64 x]
abbrev cU1(x:zn):F zg:=[.int .u64 x]
abbrev cLi(x:AY):F zg:=[.string x.name,.bool x.drain,.int .i64 x.Ah,.bool x.closed]
abbrev cRe(x:Ba):F zg:=[.int .i64 x.Ac,.int .i64 x.at_,.bool x.gone]
def qQW{q:Type}{l:F q}{f:q->F zg}(h:∀x∈l,(f x).all zA0=I):∀u∈(l.map f).flatten,u.oneCell'=I:=Ob h
def q3T(g0 g)(C:g0<=g){v}{l}(hl:rSl 1 BS g v l)(U:l.length<=17592186044416):Ok X0 215 [v] g λv' g'=>oSl 3 1 (oLf BS) g' g0.w.heap.size (NEW g g') v' l:=by
 obtain⟨u,D,rfl,V,W,E,H⟩:=id hl
 have L:∀x∈l,InR x:=λx q=>by
  obtain⟨i,M⟩:=zBE q;obtain⟨_,_,_,_,⟨_,h⟩,_⟩:=H i x M;exact h
 have P:=q4M hl cI1 λ_ _ h=>h.1
 exact Ok.Ao hm noT 0 DW.2 (args:=[.v (.slice u l.length D)]) (by
  cases u with
  |none=>
   refine zq ?_;intros;refine⟨λ_=>zq ?_,λh=>nomatch h⟩;intros;intro Q A;exact .inl ⟨zBd.1 (E rfl).1,zc,rfl⟩
  |some a=>
   refine zq ?_;intros;refine⟨λh=>(nomatch h),λ_=>zq ?_⟩;intros;refine⟨⟨rfl,rfl,rfl,rfl,zF _⟩,zw ?_⟩;refine⟨_,⟨P,qQW λ_ _=>rfl⟩,zq ?_⟩;intros;refine⟨⟨by unfold zAr;omega,sa⟩,λY aa=>zq ?_⟩;intros;refine λab R T B=>zw ?_;intro Q A;simp only[zAu,zB0]at B;have hE:=qgH (sz:=1) (r:=BS) g g g0.w.heap.size cI1 l λx q=>⟨rfl,rfl,L x q⟩;have:=qRF (qzA qTB) A (qpF (qzA qTB) hE (GW.refl _) R (B.GD C.1) rfl T)
   rwa [zAu])
def MY(g0 g)(C:g0<=g){v}{l}(hl:rSl 1 Hp g v l)(U:l.length<=17592186044416):Ok X0 252 [v] g λv' g'=>oSl 52 1 (oLf Hp) g' g0.w.heap.size (NEW g g') v' l:=by
 obtain⟨u,D,rfl,V,W,E,H⟩:=id hl
 have L:∀x∈l,InU x:=λx q=>by
  obtain⟨i,M⟩:=zBE q;obtain⟨_,_,_,_,⟨_,h⟩,_⟩:=H i x M;exact h
 have P:=q4M hl cU1 λ_ _ h=>h.1
 exact Ok.Ao hm noT 0 CZ.2 (args:=[.v (.slice u l.length D)]) (by
  cases u with
  |none=>
   refine zq ?_;intros;refine⟨λ_=>zq ?_,λh=>nomatch h⟩;intros;intro Q A;exact .inl ⟨zBd.1 (E rfl).1,zc,rfl⟩
  |some a=>
   refine zq ?_;intros;refine⟨λh=>(nomatch h),λ_=>zq ?_⟩;intros;refine⟨⟨rfl,rfl,rfl,rfl,zF _⟩,zw ?_⟩;refine⟨_,⟨P,qQW λ_ _=>rfl⟩,zq ?_⟩;intros;refine⟨⟨by unfold zAr;omega,sa⟩,λY aa=>zq ?_⟩;intros;refine λab R T B=>zw ?_;intro Q A;simp only[zAu,zB0]at B;have hE:=qgH (sz:=1) (r:=Hp) g g g0.w.heap.size cU1 l λx q=>⟨rfl,rfl,L x q⟩;have:=qRF (qzA qPG) A (qpF (qzA qPG) hE (GW.refl _) R (B.GD C.1) rfl T)
   rwa [zAu])
def qxb(g0 g)(C:g0<=g){v}{l}(hl:rSl 4 qeB g v l)(U:l.length<=1000000):Ok X0 218 [v] g λv' g'=>oSl 104 4 (oLf qeB) g' g0.w.heap.size (NEW g g') v' l:=by
 obtain⟨u,D,rfl,V,W,E,H⟩:=id hl
 have L:∀x∈l,InR x.Ah:=λx q=>by
  obtain⟨i,M⟩:=zBE q;obtain⟨_,_,_,_,⟨_,h⟩,_⟩:=H i x M;exact h
 have P:=q4M hl cLi λ_ _ h=>h.1
 exact Ok.Ao hm noT 0 B3.2 (args:=[.v (.slice u l.length D)]) (by
  cases u with
  |none=>
   refine zq ?_;intros;refine⟨λ_=>zq ?_,λh=>nomatch h⟩;intros;intro Q A;exact .inl ⟨zBd.1 (E rfl).1,zc,rfl⟩
  |some a=>
   refine zq ?_;intros;refine⟨λh=>(nomatch h),λ_=>zq ?_⟩;intros;refine⟨⟨rfl,rfl,rfl,rfl,zF _⟩,zw ?_⟩;refine⟨_,⟨P,qQW λ_ _=>rfl⟩,zq ?_⟩;intros;refine⟨⟨by unfold zAr;omega,sa⟩,λY aa=>zq ?_⟩;intros;refine λab R T B=>zw ?_;intro Q A;simp only[zAu,zB0]at B;have hE:=qgH (sz:=4) (r:=qeB) g g g0.w.heap.size cLi l λx q=>⟨rfl,rfl,L x q⟩;have:=qRF (qzA q2A) A (qpF (qzA q2A) hE (GW.refl _) R (B.GD C.1) rfl T)
   rwa [zAu])
def qwb(g0 g)(C:g0<=g){v}{l}(hl:rSl 3 qAB g v l)(U:l.length<=1000000):Ok X0 221 [v] g λv' g'=>oSl 101 3 (oLf qAB) g' g0.w.heap.size (NEW g g') v' l:=by
 obtain⟨u,D,rfl,V,W,E,H⟩:=id hl
 have L:∀x∈l,InR x.Ac/\InR x.at_:=λx q=>by
  obtain⟨i,M⟩:=zBE q;obtain⟨_,_,_,_,⟨_,h⟩,_⟩:=H i x M;exact h
 have P:=q4M hl cRe λ_ _ h=>h.1
 exact Ok.Ao hm noT 0 BU.2 (args:=[.v (.slice u l.length D)]) (by
  cases u with
  |none=>
   refine zq ?_;intros;refine⟨λ_=>zq ?_,λh=>nomatch h⟩;intros;intro Q A;exact .inl ⟨zBd.1 (E rfl).1,zc,rfl⟩
  |some a=>
   refine zq ?_;intros;refine⟨λh=>(nomatch h),λ_=>zq ?_⟩;intros;refine⟨⟨rfl,rfl,rfl,rfl,zF _⟩,zw ?_⟩;refine⟨_,⟨P,qQW λ_ _=>rfl⟩,zq ?_⟩;intros;refine⟨⟨by unfold zAr;omega,sa⟩,λY aa=>zq ?_⟩;intros;refine λab R T B=>zw ?_;intro Q A;simp only[zAu,zB0]at B;have hE:=qgH (sz:=3) (r:=qAB) g g g0.w.heap.size cRe l λx q=>⟨rfl,rfl,L x q⟩;have:=qRF (qzA qpA) A (qpF (qzA qpA) hE (GW.refl _) R (B.GD C.1) rfl T)
   rwa [zAu])
abbrev zWs:F zg:=[.int .i64 0,.int .i64 0,.int .i64 0,.slice zc 0 0,.slice zc 0 0,.slice zc 0 0,.slice zc 0 0,.slice zc 0 0]
def NF(s:FL)(l:F BA)(t:zn)(v:zg)(g':GW):Prop:=
 (qbI s l t/\∃cs,v=.tuple #[.agg ⟨cs⟩,.int .i64 0]/\rWo g' cs (EK s l t.toNat))\/(¬qbI s l t/\v=.tuple #[.agg ⟨zWs⟩,.int .i64 1])
def qpX(g){cs}{s}{v}{l}{t}(hs:qfJ g cs s)(hl:rSl 1 FJ g v l)(aC:s.AN.length<=1000000)(bi:l.length<=1000000):Ok X0 28 [.agg ⟨cs⟩,v,.int .i64 t] g (NF s l t):=by
 have aD:=hs;obtain⟨a,b,d,rfl,⟨aE,aF,rfl,_⟩,⟨aG,aH,rfl,_⟩,⟨aI,aJ,rfl,_⟩⟩:=hs;obtain⟨aK,cl,rfl,an,ao,bj,aL⟩:=id hl
 exact Ok.Ao hm noT 0 IG.2 (args:=[.v (.agg ⟨[.slice aE s.Aa.length aF,.slice aG s.AN.length aH,.slice aI s.Ad.length aJ]⟩),.v (.slice aK l.length cl),.v (.int .i64 t)]) (by
  refine zq ?_;intros;rename_i bl bm;refine .inr ((qfQ _ aD aC).mono λv bn aM aN=>?_);rcases aN with⟨R,bo,bp,bq,oV,nV,cV,rfl,ap⟩|⟨R,rfl⟩
  rotate_left
  .refine zq ?_;intros;refine⟨λ_=>zq ?_,λh=>nomatch h⟩;intros;intro u C;exact .inr ⟨λh=>R h.1,rfl⟩
  have aO:=ap;obtain⟨_,_,_,_,A,⟨_,_,_,aP,⟨aQ,aR,rfl,_⟩,⟨aT,aU,rfl,_⟩,⟨aV,aW,rfl,_⟩⟩,br⟩:=ap;simp only[zAJ,zA6]at A;obtain⟨rfl,rfl,rfl,rfl,_⟩:=A;cases aP;refine zq ?_;intros;rename_i bt;refine zw ?_;refine⟨λh=>(nomatch h),λ_=>zq ?_⟩;intros;refine .inr ((qoO _).mono λv u aq aX=>?_);rcases aX with⟨T,bu,cS,rfl,aY⟩|⟨T,rfl⟩
  rotate_left
  .refine zq ?_;intros;refine⟨λ_=>zq ?_,λh=>nomatch h⟩;intros;intro u C;exact .inr ⟨λh=>T h.2.1,rfl⟩
  obtain⟨N,rfl⟩:=zBj (show 0<=t by omega);have aZ:=GW.trans aM aq;refine zq ?_;intros;refine⟨λh=>(nomatch h),λ_=>zq ?_⟩;intros;refine⟨?_,?_⟩
  all_goals
   refine zq ?_;intros;refine⟨⟨sa,sa,sa,sa⟩,λ_=>zq ?_⟩;intros;rename_i a0;refine zw ?_;refine⟨Z×zs zAH×Z×Z×GW,λ(k,_,_,_,_)=>[.v (.int .i64 k)],λ(k,E,B,M,H)=>⟨H,.blk 5 a0 44 [.v (.int .i64 0),.v (.int .i64 0),.v (.int .i64 0),_,_,.v (.slice E B M),_,_]::_,_,_⟩,λ(k,E,B,M,H)=>k<=l.length/\u<=H/\B=k/\AX H g.w.heap.size 104 4 (.slice E B M) B ((EM (l.take k)).map cLi).flatten/\(∀a,E=O a->¬u.g a.block)/\E4 (HR l) l k,λ(k,_,_,_,_)=>l.length-k,λar au P=>⟨(0,zc,0,0,u),rfl,⟨zF _,GW.refl _,rfl,⟨rfl,.inl ⟨rfl,rfl⟩,λbv a1=>by cases a1⟩,(λa h=>by cases h),E4.zero _ _⟩,P⟩,?_⟩;rintro⟨k,E,B,M,H⟩ ⟨bw,L,bx,Q,a2,U⟩;have bz:(EM (l.take k)).length=k:=by simp[EM];omega
   have V:rSl 4 qeB H (.slice E B M) (EM (l.take k)):=qiD Q.rd (EM (l.take k)) cLi rfl sa (λ_ _=>rfl) λx q=>by
    obtain⟨y,_,rfl⟩:=zAb.1 q;exact⟨rfl,show InR 0 by decide⟩
   refine zq ?_;intros;refine⟨λW=>?_,λW=>?_⟩
   .have D:k<l.length:=by have:=ze W;omega
    obtain⟨x,q⟩:=qBA D;obtain⟨a,rfl,a3,Y,rfl,a4⟩:=aL k x q;have av:HR l k x=zb->¬qbI s l N:=λa5 h=>by have aw:=h.2.2;rw[qzB q a5]at aw;cases aw
    refine zq ?_;intros;refine⟨a,rfl,⟨sa,sa⟩,zw ?_⟩;refine⟨_,(a4.mono (GW.trans aZ L)) 0 _ rfl,zq ?_⟩;intros;refine .inl ⟨_,qHI _ _,zq ?_⟩;intros;refine⟨λaa=>?_,λaa=>?_⟩
    .refine zq ?_;intros;intro u C;exact .inr ⟨av (by unfold HR;rw[nb1 aa];rfl),rfl⟩
    refine zq ?_;intros;refine .inl ⟨_,qcH _ V _,zq ?_⟩;intros;refine⟨λab=>?_,λab=>?_⟩
    .refine zq ?_;intros;intro u C;exact .inr ⟨av (by unfold HR;rw[zE (by have:=ze ab;omega)];simp),rfl⟩
    have ax:HR l k x=I:=by unfold HR;rw[nb0 aa,zC (by have:=zf ab;omega)];rfl
    have ay:=qSU q;rcases Q.2.1 with⟨A,bA⟩|⟨bk,bB,rest,A,az,a6,a7,a8,a9⟩
    .cases A;have ba:k=0:=sa
     subst ba;refine zq ?_;intros;refine⟨⟨by unfold zAr;omega,sa⟩,λac ad=>zq ?_⟩;intros
     refine λar au P=>by
      obtain⟨ae,af,ag,ah,ai⟩:=P.Cw;refine⟨(0+1,ac,1,ad,ae),zK (λz=>[zD .i64 z]) (wr1 D an ao).symm,⟨D,GW.trans L af,rfl,?_,λa aj ak=>ag a aj (L.2 _ ak).1,U.succ q ax⟩,dec D,ai.fit sc⟩;rw[ay];exact ah
    .cases A;have bb:¬u.g bk:=a2 _ rfl;refine zq ?_;intros;refine .inr (.inl ⟨bk,_,rest,⟨rfl,az.1,az.2,a6,Q.1,Q.2.2,a7,a8,a9,by unfold zAr;omega,sa⟩,λbC bc ac ad=>zq ?_⟩);intros
     refine λar au P=>by
      obtain⟨ae,af,ag,ah,ai⟩:=P.Cw;have aA:=bc.le L bb;refine⟨(k+1,ac,B+1,ad,ae),zK (λz=>[zD .i64 z]) (wr1 D an ao).symm,⟨D,GW.trans aA af,sa,?_,λa aj ak=>ag a aj (aA.2 _ ak).1,U.succ q ax⟩,dec D,ai.fit sc⟩;rw[ay];simpa using ah
   have bd:k=l.length:=by have:=zf W;omega
   subst bd;have be:qbI s l N:=⟨R,T,U.done (zG _)⟩;rw[zAB]at V;refine zq ?_;intros;refine λbD bf bE bg=>zq ?_;intros;refine⟨5,rfl,by unfold zAr;omega,λbF aB bG bh=>zq ?_⟩;intros;intro u C;have al:=GW.trans bf (GW.trans aB C);refine .inl ⟨be,_,rfl,_,_,_,_,_,rfl,⟨show InR 0 by decide,show InR 0 by decide,show InR 0 by decide⟩,?_,?_,V.mono q3A al,aY.mono qSB (GW.trans L al),⟨zc,0,rfl,zG _,zF _,λ_=>⟨rfl,rfl⟩,λi x q=>by simp[EK]at q⟩⟩
   .exact(qqC bg.rd (zA5 N 0) (λx=>.int .i64 x) (by simp[List.flatten_replicate_singleton]) λx q=>⟨rfl,by rw[zCY q];decide⟩).mono qxA (GW.trans aB C)
   .refine q1K (bh.rd.mono C) [qjC s] [[.slice aQ (qjC s).AO.Aa.length aR,.slice aT (qjC s).AO.AN.length aU,.slice aV (qjC s).AO.Ad.length aW,.slice oV nV cV,.bool zb]] rfl (λe A=>?_) rfl rfl λi x a3 q Y=>?_
    .simp at A;subst A;rfl
    .cases i with
     |zero=>
      simp at q Y;subst q;subst Y;exact q3C _ _ _ _ (GW.trans aq (GW.trans L al)) aO
     |succ i=>simp at q)
def qHZ(g0 g)(B:g0<=g){cs}{x}(C:rEn g cs x):Ok X0 257 [.agg ⟨[]⟩,.agg ⟨cs⟩] g λv g'=>∃h,v=.agg ⟨h⟩/\oEn wT I g' g0.w.heap.size (NEW g g') h x:=by
 obtain⟨⟨n,rfl,D,E,q⟩,u⟩:=C;obtain⟨H,L,rfl,P,Q,R,T⟩:=id q
 exact Ok.Ao hm noT 0 FA.2 (args:=[.v (.agg ⟨[]⟩),.v (.agg ⟨[.int .u64 x.head,.slice H x.next.length L,.int .i64 x.Ah]⟩)]) (by
  refine zq ?_;intros;refine .inr ((q3T g0 _ B q u).mono λv U V A=>?_);obtain⟨oV,cV,rfl⟩:=qmA A;refine zq ?_;intros;intro W M
  exact⟨_,rfl,_,rfl,⟨D,E,u⟩,.inl (qRF (qzA qTB) M A)⟩)
def qEZ(g0 g)(H:g0<=g){v}{l}(hl:rSl 3 rEn g v l)(aw:l.length<=1000000):Ok X0 256 [v,.func (.func 257) #[] #[],.agg ⟨[]⟩] g λv' g'=>oSl 141 3 (oEn wT I) g' g0.w.heap.size (NEW g g') v' l:=by
 obtain⟨U,V,rfl,W,Y,ax,aa⟩:=id hl
 exact Ok.Ao hm noT 0 CI.2 (args:=[.v (.slice U l.length V),.v (.func (.func 257) #[] #[]),.v (.agg ⟨[]⟩)]) (by
  refine zq ?_;intros;refine⟨⟨sa,sa,sa,sa⟩,λ_=>zq ?_⟩;intros;rename_i ab ac;refine zw ?_;refine⟨Z×F (F zg)×GW,λ(k,_,_)=>[.v (.int .i64 k)],λ(k,q,g')=>⟨g',[.row 1 (O ⟨ac,0,zc⟩) l.length l.length 141 3 (Et q [.int .u64 0,.slice zc 0 0,.int .i64 0] (l.length-k)),.blk 0 ab 312 []],10,g.w.heap.size⟩,λ(k,q,g')=>k<=l.length/\g<=g'/\Iu 3 (oEn wT I) g g' g0.w.heap.size q (l.take k),λ(k,_,_)=>l.length-k,λad ae C=>⟨(0,[],g),rfl,⟨zF _,GW.refl _,qFJ _ _ _⟩,C.fit ss⟩,?_⟩;rintro⟨k,q,g'⟩ ⟨af,h,hE⟩;have ag:=hE;obtain⟨_,⟨D,L⟩,_⟩:=ag;rw[zAN,zB7 af]at D;refine zq ?_;intros;refine⟨λE=>?_,λE=>?_⟩
  .have u:k<l.length:=by have:=ze E;omega
   obtain⟨x,M⟩:=qBA u;obtain⟨ah,ai⟩:=zd.1 M;obtain⟨a,rfl,ec,ay,P,aj⟩:=aa k x M;have ak:=P;obtain⟨⟨az,rfl,aA,aB,⟨aC,aD,rfl,_⟩⟩,aE⟩:=P;refine zq ?_;intros;refine⟨a,rfl,⟨sa,sa⟩,zw ?_⟩;refine⟨_,⟨rfl,aj.mono h⟩,zq ?_⟩;intros;refine⟨.of se,?_⟩;refine .inr ((qHZ g0 _ (GW.trans H h) (q4C _ _ _ _ h ak)).mono λv Q A B=>?_);obtain⟨aF,rfl,B⟩:=B;have al:=B;obtain⟨aG,rfl,_,an⟩:=al;obtain⟨R,cW,rfl,_⟩:=qqX an;have ao:=qNG (m:=l.length-k) (z:=[.int .u64 0,.slice zc 0 0,.int .i64 0]) L rfl;have ap:l.take (k+1)=l.take k++[x]:=by rw[zY ah,ai]
   have aq:=qMG (m:=l.length-k) (z:=[.int .u64 0,.slice zc 0 0,.int .i64 0]) L rfl sa (ec:=[.int .u64 x.head,.slice R x.next.length cW,.int .i64 x.Ah]) rfl D.symm;refine zq ?_;intros;refine⟨⟨sa,sa⟩,zq ?_⟩;intros;refine⟨⟨by rw[ao,D];simp;omega,sb⟩,zq ?_⟩;intros;refine λad ae C=>⟨(k+1,q++[[.int .u64 x.head,.slice R x.next.length cW,.int .i64 x.Ah]],Q),zK (λz=>[zD .i64 z]) (wr1 u W Y).symm,⟨u,GW.trans h A,by rw[ap];exact qfH qmI h A hE rfl B⟩,dec u,C.fit ?_⟩;rw[show l.length-(k+1)=l.length-k-1 by omega];simp[Az,Res.eqv,qDA,Ae,<-aq]
  have ar:k=l.length:=by have:=zf E;omega
  subst ar;rw[zAB]at hE;refine zq ?_;intros;refine λQ A au T=>?_;rw[zCc,qdF]at T;refine zw ?_;intro aH av
  exact qRF qmI av (qpF qmI hE h A (T.GD H.1) rfl au))
def q4T(g0 g)(A:g0<=g){cs}{x}(B:rGr g cs x)(hb:BgG 1000000 x):Ok X0 251 [.agg ⟨[]⟩,.agg ⟨cs⟩] g λv g'=>∃h,v=.agg ⟨h⟩/\oGr wT I g' g0.w.heap.size (NEW g g') h x:=by
 obtain⟨n,rfl,C,q⟩:=B;obtain⟨D,E,rfl,L,M,P,Q⟩:=id q
 exact Ok.Ao hm noT 0 EY.2 (args:=[.v (.agg ⟨[]⟩),.v (.agg ⟨[.int .u64 x.AQ,.slice D x.ends.length E]⟩)]) (by
  refine zq ?_;intros;refine .inr ((qEZ g0 _ A q hb).mono λv R T u=>?_);obtain⟨oV,cV,rfl⟩:=qmA u;refine zq ?_;intros;intro U H
  exact⟨_,rfl,_,rfl,C,qRF qmI H u⟩)
def q0T(g0 g)(L:g0<=g){v}{l}(hl:rSl 2 rGr g v l)(aw:l.length<=1000000)(hb:∀y∈l,BgG 1000000 y):Ok X0 250 [v,.func (.func 251) #[] #[],.agg ⟨[]⟩] g λv' g'=>oSl 139 2 (oGr wT I) g' g0.w.heap.size (NEW g g') v' l:=by
 obtain⟨U,V,rfl,W,Y,ax,aa⟩:=id hl
 exact Ok.Ao hm noT 0 Co.2 (args:=[.v (.slice U l.length V),.v (.func (.func 251) #[] #[]),.v (.agg ⟨[]⟩)]) (by
  refine zq ?_;intros;refine⟨⟨sa,sa,sa,sa⟩,λ_=>zq ?_⟩;intros;rename_i ab ac;refine zw ?_;refine⟨Z×F (F zg)×GW,λ(k,_,_)=>[.v (.int .i64 k)],λ(k,q,g')=>⟨g',[.row 1 (O ⟨ac,0,zc⟩) l.length l.length 139 2 (Et q [.int .u64 0,.slice zc 0 0] (l.length-k)),.blk 0 ab 312 []],10,g.w.heap.size⟩,λ(k,q,g')=>k<=l.length/\g<=g'/\Iu 2 (oGr wT I) g g' g0.w.heap.size q (l.take k),λ(k,_,_)=>l.length-k,λad ae C=>⟨(0,[],g),rfl,⟨zF _,GW.refl _,qFJ _ _ _⟩,C.fit ss⟩,?_⟩;rintro⟨k,q,g'⟩ ⟨af,h,hE⟩;have ag:=hE;obtain⟨_,⟨D,M⟩,_⟩:=ag;rw[zAN,zB7 af]at D;refine zq ?_;intros;refine⟨λE=>?_,λE=>?_⟩
  .have u:k<l.length:=by have:=ze E;omega
   obtain⟨x,H⟩:=qBA u;obtain⟨ah,ai⟩:=zd.1 H;obtain⟨a,rfl,ec,ay,P,aj⟩:=aa k x H;have ak:=P;obtain⟨az,rfl,aA,⟨aB,aC,rfl,_⟩⟩:=P;refine zq ?_;intros;refine⟨a,rfl,⟨sa,sa⟩,zw ?_⟩;refine⟨_,⟨rfl,aj.mono h⟩,zq ?_⟩;intros;refine⟨.of se,?_⟩;refine .inr ((q4T g0 _ (GW.trans L h) (q0E _ _ _ _ h ak) (hb x (zl H))).mono λv Q A B=>?_);obtain⟨aD,rfl,B⟩:=B;have al:=B;obtain⟨aE,rfl,_,an⟩:=al;obtain⟨R,cW,rfl⟩:=qmA an;have ao:=qNG (m:=l.length-k) (z:=[.int .u64 0,.slice zc 0 0]) M rfl;have ap:l.take (k+1)=l.take k++[x]:=by rw[zY ah,ai]
   have aq:=qMG (m:=l.length-k) (z:=[.int .u64 0,.slice zc 0 0]) M rfl sa (ec:=[.int .u64 x.AQ,.slice R x.ends.length cW]) rfl D.symm;refine zq ?_;intros;refine⟨⟨sa,sa⟩,zq ?_⟩;intros;refine⟨⟨by rw[ao,D];simp;omega,sb⟩,zq ?_⟩;intros;refine λad ae C=>⟨(k+1,q++[[.int .u64 x.AQ,.slice R x.ends.length cW]],Q),zK (λz=>[zD .i64 z]) (wr1 u W Y).symm,⟨u,GW.trans h A,by rw[ap];exact qfH qrJ h A hE rfl B⟩,dec u,C.fit ?_⟩;rw[show l.length-(k+1)=l.length-k-1 by omega];simp[Az,Res.eqv,qDA,Ae,<-aq]
  have ar:k=l.length:=by have:=zf E;omega
  subst ar;rw[zAB]at hE;refine zq ?_;intros;refine λQ A au T=>?_;rw[zCc,qdF]at T;refine zw ?_;intro aF av
  exact qRF qrJ av (qpF qrJ hE h A (T.GD L.1) rfl au))
def qnO(g0 g)(h:g0<=g){cs}{x}(D:rVe g0 cs x)(hb:BgV 1000000 x):Ok X0 217 [.agg ⟨[]⟩,.agg ⟨cs⟩] g λv g'=>∃q,v=.agg ⟨q⟩/\oVe wT I g' g0.w.heap.size (NEW g g') q x:=by
 obtain⟨a,b,d,n,rfl,u,A⟩:=D;have E:=u;obtain⟨_,_,_,H,⟨L,M,rfl,_⟩,⟨P,Q,rfl,_⟩,⟨R,T,rfl,_⟩⟩:=u;cases H;obtain⟨U,V,rfl,Y,aa,ab,ac⟩:=id A
 exact Ok.Ao hm noT 0 Ef.2 (args:=[.v (.agg ⟨[]⟩),.v (.agg ⟨[.slice L x.AO.Aa.length M,.slice P x.AO.AN.length Q,.slice R x.AO.Ad.length T,.slice U x.Am.length V,.bool x.AV]⟩)]) (by
  refine zq ?_;intros;refine .inr ((q0T g0 _ h (A.mono q0E h) hb.1 hb.2).mono λv ad W B=>?_);obtain⟨oV,cV,rfl⟩:=qmA B;refine zq ?_;intros;intro ae C
  exact⟨_,rfl,_,_,_,_,rfl,qYC _ _ _ _ (GW.Na (GW.trans h (GW.trans W C)) (zG _)) E,qRF qrJ C B⟩)
def qmO(g0 g)(C:g0<=g){v}{l}(hl:rSl 5 rVe g0 v l)(aC:l.length<=1000000)(hb:∀y∈l,BgV 1000000 y):Ok X0 216 [v,.func (.func 217) #[] #[],.agg ⟨[]⟩] g λv' g'=>oSl 71 5 (oVe wT I) g' g0.w.heap.size (NEW g g') v' l:=by
 obtain⟨ac,ad,rfl,ae,af,aD,ag⟩:=id hl
 exact Ok.Ao hm noT 0 Cc.2 (args:=[.v (.slice ac l.length ad),.v (.func (.func 217) #[] #[]),.v (.agg ⟨[]⟩)]) (by
  refine zq ?_;intros;refine⟨⟨sa,sa,sa,sa⟩,λ_=>zq ?_⟩;intros;rename_i ah ai;refine zw ?_;refine⟨Z×F (F zg)×GW,λ(k,_,_)=>[.v (.int .i64 k)],λ(k,h,g')=>⟨g',[.row 1 (O ⟨ai,0,zc⟩) l.length l.length 71 5 (Et h [.slice zc 0 0,.slice zc 0 0,.slice zc 0 0,.slice zc 0 0,.bool zb] (l.length-k)),.blk 0 ah 312 []],10,g.w.heap.size⟩,λ(k,h,g')=>k<=l.length/\g<=g'/\Iu 5 (oVe wT I) g g' g0.w.heap.size h (l.take k),λ(k,_,_)=>l.length-k,λaj ak D=>⟨(0,[],g),rfl,⟨zF _,GW.refl _,qFJ _ _ _⟩,D.fit ss⟩,?_⟩;rintro⟨k,h,g'⟩ ⟨al,q,hE⟩;have an:=hE;obtain⟨_,⟨E,P⟩,_⟩:=an;rw[zAN,zB7 al]at E;refine zq ?_;intros;refine⟨λH=>?_,λH=>?_⟩
  .have u:k<l.length:=by have:=ze H;omega
   obtain⟨x,L⟩:=qBA u;obtain⟨ao,ap⟩:=zd.1 L;obtain⟨a,rfl,ec,aE,Q,aq⟩:=ag k x L;have ar:=Q;obtain⟨aF,aG,aH,aI,rfl,⟨_,_,_,M,⟨aJ,aK,rfl,_⟩,⟨aL,aM,rfl,_⟩,⟨aN,aO,rfl,_⟩⟩,⟨aP,aQ,rfl,_⟩⟩:=Q;cases M;refine zq ?_;intros;refine⟨a,rfl,⟨sa,sa⟩,zw ?_⟩;refine⟨_,⟨rfl,aq.mono (GW.trans C q)⟩,zq ?_⟩;intros;refine⟨.of se,?_⟩;refine .inr ((qnO g0 _ (GW.trans C q) ar (hb x (zl L))).mono λv R A B=>?_);obtain⟨aR,rfl,B⟩:=B;have au:=B;obtain⟨aT,aU,aV,aW,rfl,⟨_,_,_,M,⟨T,U,rfl,_⟩,⟨V,cb2,rfl,_⟩,⟨W,Y,rfl,_⟩⟩,av⟩:=au;cases M;obtain⟨aa,cW,rfl⟩:=qmA av;have aw:=qNG (m:=l.length-k) (z:=[.slice zc 0 0,.slice zc 0 0,.slice zc 0 0,.slice zc 0 0,.bool zb]) P rfl;have ax:l.take (k+1)=l.take k++[x]:=by rw[zY ao,ap]
   have ay:=qMG (m:=l.length-k) (z:=[.slice zc 0 0,.slice zc 0 0,.slice zc 0 0,.slice zc 0 0,.bool zb]) P rfl sa (ec:=[.slice T x.AO.Aa.length U,.slice V x.AO.AN.length cb2,.slice W x.AO.Ad.length Y,.slice aa x.Am.length cW,.bool x.AV]) rfl E.symm;refine zq ?_;intros;refine⟨⟨sa,sa⟩,zq ?_⟩;intros;refine⟨⟨by rw[aw,E];simp;omega,sb⟩,zq ?_⟩;intros;refine λaj ak D=>⟨(k+1,h++[[.slice T x.AO.Aa.length U,.slice V x.AO.AN.length cb2,.slice W x.AO.Ad.length Y,.slice aa x.Am.length cW,.bool x.AV]],R),zK (λz=>[zD .i64 z]) (wr1 u ae af).symm,⟨u,GW.trans q A,by rw[ax];exact qfH qmF q A hE rfl B⟩,dec u,D.fit ?_⟩;rw[show l.length-(k+1)=l.length-k-1 by omega];simp[Az,Res.eqv,qDA,Ae,<-ay]
  have az:k=l.length:=by have:=zf H;omega
  subst az;rw[zAB]at hE;refine zq ?_;intros;refine λR A aA ab=>?_;rw[zCc,qdF]at ab;refine zw ?_;intro aX aB
  exact qRF qmF aB (qpF qmF hE q A (ab.GD C.1) rfl aA))
def qGZ(g0 g)(u:g0<=g){v}{x}(h:rSl 1 Hp g v x)(hb:x.length<=17592186044416):Ok X0 220 [.agg ⟨[]⟩,v] g λv' g'=>oSl 52 1 (oLf Hp) g' g0.w.heap.size (NEW g g') v' x:=by
 obtain⟨A,B,rfl,D,E,H,L⟩:=id h
 exact Ok.Ao hm noT 0 Fz.2 (args:=[.v (.agg ⟨[]⟩),.v (.slice A x.length B)]) (by
  refine zq ?_;intros;refine .inr ((MY g0 _ u h hb).mono λv M P q=>?_);obtain⟨oV,cV,rfl⟩:=qmA q;refine zq ?_;intros;intro Q C
  exact qRF (qzA qPG) C q)
def qDZ(g0 g)(H:g0<=g){v}{l}(hl:rSl 1 F5 g v l)(av:l.length<=1000000)(hb:∀y∈l,y.length<=1000000):Ok X0 219 [v,.func (.func 220) #[] #[],.agg ⟨[]⟩] g λv' g'=>oSl 213 1 (oRo wT) g' g0.w.heap.size (NEW g g') v' l:=by
 obtain⟨V,W,rfl,Y,aa,aw,ab⟩:=id hl
 exact Ok.Ao hm noT 0 Cy.2 (args:=[.v (.slice V l.length W),.v (.func (.func 220) #[] #[]),.v (.agg ⟨[]⟩)]) (by
  refine zq ?_;intros;refine⟨⟨sa,sa,sa,sa⟩,λ_=>zq ?_⟩;intros;rename_i ac ad;refine zw ?_;refine⟨Z×F (F zg)×GW,λ(k,_,_)=>[.v (.int .i64 k)],λ(k,q,g')=>⟨g',[.row 1 (O ⟨ad,0,zc⟩) l.length l.length 213 1 (Et q [.slice zc 0 0] (l.length-k)),.blk 0 ac 312 []],10,g.w.heap.size⟩,λ(k,q,g')=>k<=l.length/\g<=g'/\Iu 1 (oRo wT) g g' g0.w.heap.size q (l.take k),λ(k,_,_)=>l.length-k,λae af B=>⟨(0,[],g),rfl,⟨zF _,GW.refl _,qFJ _ _ _⟩,B.fit ss⟩,?_⟩;rintro⟨k,q,g'⟩ ⟨ag,h,hE⟩;have ah:=hE;obtain⟨_,⟨C,L⟩,_⟩:=ah;rw[zAN,zB7 ag]at C;refine zq ?_;intros;refine⟨λD=>?_,λD=>?_⟩
  .have u:k<l.length:=by have:=ze D;omega
   obtain⟨x,E⟩:=qBA u;obtain⟨ai,aj⟩:=zd.1 E;obtain⟨a,rfl,ec,ax,M,ak⟩:=ab k x E;have ay:=M;obtain⟨az,rfl,P⟩:=M;have al:=P;obtain⟨aA,aB,rfl,_⟩:=P;refine zq ?_;intros;refine⟨a,rfl,⟨sa,sa⟩,zw ?_⟩;refine⟨_,ak.mono h 0 _ rfl,zq ?_⟩;intros;refine⟨.of se,?_⟩;refine .inr ((qGZ g0 _ (GW.trans H h) (al.mono qeJ h) (by have:=hb x (zl E);omega)).mono λv Q A R=>?_);obtain⟨T,cW,rfl⟩:=qmA R;have an:=qNG (m:=l.length-k) (z:=[.slice zc 0 0]) L rfl;have ao:l.take (k+1)=l.take k++[x]:=by rw[zY ai,aj]
   have ap:=qMG (m:=l.length-k) (z:=[.slice zc 0 0]) L rfl sa (ec:=[.slice T x.length cW]) rfl C.symm;refine zq ?_;intros;refine⟨⟨sa,sa⟩,zq ?_⟩;intros;refine⟨⟨by rw[an,C];simp;omega,sb⟩,zq ?_⟩;intros;refine λae af B=>⟨(k+1,q++[[.slice T x.length cW]],Q),zK (λz=>[zD .i64 z]) (wr1 u Y aa).symm,⟨u,GW.trans h A,by rw[ao];exact qfH qnF h A hE rfl ⟨_,rfl,R⟩⟩,dec u,B.fit ?_⟩;rw[show l.length-(k+1)=l.length-k-1 by omega];simp[Az,Res.eqv,qDA,Ae,<-ap]
  have aq:k=l.length:=by have:=zf D;omega
  subst aq;rw[zAB]at hE;refine zq ?_;intros;refine λQ A ar U=>?_;rw[zCc,qdF]at U;refine zw ?_;intro aC au
  exact qRF qnF au (qpF qnF hE h A (U.GD H.1) rfl ar))
def qrc(g:GW)(w:Wd)(v:zg)(g':GW):Prop:=∃cs h,v=.agg ⟨cs⟩/\oWo wT I g' g.w.heap.size h cs w
def T5(A h q u w B:GW):Z->Z->Prop:=λi n=>match i with
 |0=>NEW A h n
 |1=>NEW h q n
 |2=>NEW q u n
 |3=>NEW u w n
 |4=>NEW w B n
 |_=>zV
def qXa{D u w A E L}(Q:D<=u)(h2:u<=w)(B:w<=A)(C:A<=E)(i j n)(p:T5 D u w A E L i n)(q:T5 D u w A E L j n):i=j:=by
 have H:=GW.trans h2 B;have M:=GW.trans H C;have P:=GW.trans B C;have h:∀{a b c d:GW},b<=c->NEW a b n->NEW c d n->zV:=λk p q=>q.2 (k.2 n p.1).1
 match i,j,p,q with
 |0,0,_,_=>rfl
 |1,1,_,_=>rfl
 |2,2,_,_=>rfl
 |3,3,_,_=>rfl
 |4,4,_,_=>rfl
 |0,1,p,q=>exact(h (GW.refl _) p q).elim
 |0,2,p,q=>exact(h h2 p q).elim
 |0,3,p,q=>exact(h H p q).elim
 |0,4,p,q=>exact(h M p q).elim
 |1,2,p,q=>exact(h (GW.refl _) p q).elim
 |1,3,p,q=>exact(h B p q).elim
 |1,4,p,q=>exact(h P p q).elim
 |2,3,p,q=>exact(h (GW.refl _) p q).elim
 |2,4,p,q=>exact(h C p q).elim
 |3,4,p,q=>exact(h (GW.refl _) p q).elim
 |1,0,p,q=>exact(h (GW.refl _) q p).elim
 |2,0,p,q=>exact(h h2 q p).elim
 |3,0,p,q=>exact(h H q p).elim
 |4,0,p,q=>exact(h M q p).elim
 |2,1,p,q=>exact(h (GW.refl _) q p).elim
 |3,1,p,q=>exact(h B q p).elim
 |4,1,p,q=>exact(h P q p).elim
 |3,2,p,q=>exact(h (GW.refl _) q p).elim
 |4,2,p,q=>exact(h C q p).elim
 |4,3,p,q=>exact(h (GW.refl _) q p).elim
 |_+5,_,p,_=>exact p.elim
 |_,_+5,_,q=>exact q.elim
def qSA(g){cs}{w}(ac:rWo g cs w)(hb:BgW 1000000 w):Ok X0 171 [.agg ⟨cs⟩] g (qrc g w):=by
 obtain⟨a,b,c,d,e,rfl,⟨ad,ae,af⟩,D,E,H,L,M⟩:=ac;obtain⟨⟨z1,ag,ah,ai,aj⟩,ak,al⟩:=hb;obtain⟨an,ao,rfl,aH,aI,aJ,aK⟩:=id D;obtain⟨ap,aq,rfl,b1,aL,aM,aN⟩:=id E;obtain⟨ar,au,rfl,c1,c2,c0,aO⟩:=id H;obtain⟨av,aw,rfl,aP,aQ,aR,aT⟩:=id L;obtain⟨ax,ay,rfl,aU,aV,aW,aX⟩:=id M
 exact Ok.Ao hm noT 0 HB.2 (args:=[.v (.agg ⟨wQ w an ao ap aq ar au av aw ax ay⟩)]) (by
  refine zq ?_;intros;refine .inr ((q3T g _ (GW.refl _) D sa).mono λaY az h P=>?_);obtain⟨aZ,a0,rfl⟩:=qmA P;refine zq ?_;intros;refine .inr ((qmO g _ h E ag al).mono λa1 aA q Q=>?_);obtain⟨a2,a3,rfl⟩:=qmA Q;have u:=GW.trans h q;refine zq ?_;intros;refine .inr ((qxb g _ u (H.mono q3A u) ah).mono λa4 aB A R=>?_);obtain⟨a5,a6,rfl⟩:=qmA R;have B:=GW.trans u A;refine zq ?_;intros;refine .inr ((qDZ g _ B (L.mono qSB B) ai ak).mono λa7 aC C T=>?_);obtain⟨a8,a9,rfl⟩:=qmA T;have U:=GW.trans B C;refine zq ?_;intros;refine .inr ((qwb g _ U (M.mono q9A U) aj).mono λba aD aE V=>?_);obtain⟨bb,bc,rfl⟩:=qmA V;refine zq ?_;intros;intro bd aF;have W:=aF;have Y:=GW.trans aE W;have aa:=GW.trans C Y;have ab:=GW.trans A aa;have aG:=GW.trans q ab
  exact⟨_,T5 g az aA aB aC aD,rfl,_,_,_,_,_,rfl,⟨ad,ae,af⟩,qXa h q A C,qqA (qzA qTB) (GW.Ep aG _ _) P,qqA qmF (GW.Ep ab _ _) Q,qqA (qzA q2A) (GW.Ep aa _ _) R,qqA qnF (GW.Ep Y _ _) T,qqA (qzA qpA) (GW.Ep W _ _) V⟩)

def Lt{h:Type}(f:h->zn)(l:F h)(s:zn):s+AD f (l.take 0)=s:=by simp[AD]
def qOZ(g){cs}{w}(ap:rWo g cs w)(hb:BgW 1000 w):Ok X0 19 [.agg ⟨cs⟩] g λv _=>v=.int .i64 (qqZ w):=by
 obtain⟨a,b,c,d,e,rfl,⟨a4,a5,a6⟩,aq,ar,au,av,aw⟩:=ap;obtain⟨ax,ay,rfl,a7,a8,a9,ba⟩:=id aq;obtain⟨az,aA,rfl,b1,aB,bb,aC⟩:=id ar;obtain⟨aD,aE,rfl,c1,c2,c0,bc⟩:=id au;obtain⟨aF,aG,rfl,bd,be,bf,bg⟩:=id av;obtain⟨aH,aI,rfl,bh,bi,bj,bl⟩:=id aw;obtain⟨⟨_,bm,_,_,_⟩,_,aj⟩:=hb
 exact Ok.Ao hm noT 0 H3.2 (args:=[.v (.agg ⟨wQ w ax ay az aA aD aE aF aG aH aI⟩)]) (by
  refine zq ?_;intros;refine⟨Z×GW,λ(i,_)=>[.v (.int .i64 (0+AD qiG (w.Ab.take i))),.v (.int .i64 i)],λ(_,q)=>⟨q,_,_,_⟩,λ(i,q)=>i<=w.Ab.length/\g<=q,λ(i,_)=>w.Ab.length-i,qMA (0,g) (zK (λz=>[zD .i64 z,.int .i64 0]) (Lt _ _ _)) ⟨zF _,GW.refl _⟩ rfl,?_⟩;rintro⟨i,ak⟩ ⟨bn,L⟩;have bo:=qYF (f:=qiG) (c:=4*1000*1000) (l:=w.Ab) (λy Y=>q8W (aj y Y)) i;have bp:(w.Ab.take i).length<=1000:=by rw[zAN];omega
  refine zq ?_;intros;refine⟨λaa=>?_,λaa=>?_⟩
  .have al:i<w.Ab.length:=by have C:(i:zn)<w.Ab.length:=ze aa;omega
   obtain⟨v,ab⟩:=qBA al;have ac:=aj v (zl ab);obtain⟨bq,rfl,br,bt,⟨bu,bv,bw,bx,rfl,aJ,aK⟩,aL⟩:=aC i v ab;obtain⟨bz,bA,rfl,bB,aM,bC,aN⟩:=id aK;obtain⟨_,_,_,aO,⟨bD,bE,rfl,_⟩,⟨bF,bG,rfl,_⟩,⟨bH,bI,rfl,_⟩⟩:=aJ;cases aO;refine zq ?_;intros;refine⟨_,rfl,⟨by show(0:zn)<=i;omega,by show(i:zn)<w.Ab.length;omega⟩,zq ?_⟩;intros;refine⟨_,⟨rfl,aL.mono L⟩,zq ?_⟩;intros;refine⟨Z×GW,λ(j,_)=>[.v (.int .i64 (0+AD qiG (w.Ab.take i)+AD q7G (v.Am.take j))),.v (.int .i64 j)],λ(_,q)=>⟨q,_,_,_⟩,λ(j,q)=>j<=v.Am.length/\ak<=q,λ(j,_)=>v.Am.length-j,qMA (0,ak) (zK (λz=>[zD .i64 z,.int .i64 0]) (Lt _ _ _)) ⟨zF _,GW.refl _⟩ rfl,?_⟩;rintro⟨j,M⟩ ⟨bJ,P⟩;have bK:=qYF (f:=q7G) (c:=4*1000) (l:=v.Am) (λy Y=>qrQ (ac.2 y Y)) j;have bL:(v.Am.take j).length<=1000:=by have:=ac.1;rw[zAN];omega
   refine zq ?_;intros;refine⟨λad=>?_,λad=>?_⟩
   .have an:j<v.Am.length:=by have C:(j:zn)<v.Am.length:=ze ad;omega
    obtain⟨x,ae⟩:=qBA an;have aP:=ac.2 x (zl ae);obtain⟨bM,rfl,bN,bO,⟨xn,rfl,bP,hE⟩,aQ⟩:=aN j x ae;obtain⟨on,bQ,rfl,bR,aR,bT,aT⟩:=id hE;refine zq ?_;intros;refine⟨_,rfl,⟨by show(0:zn)<=j;omega,by show(j:zn)<v.Am.length;omega⟩,zq ?_⟩;intros;refine⟨_,⟨rfl,aQ.mono (GW.trans L P)⟩,zq ?_⟩;intros;refine⟨Z×GW,λ(k,_)=>[.v (.int .i64 (0+AD qiG (w.Ab.take i)+AD q7G (v.Am.take j)+AD qAD (x.ends.take k))),.v (.int .i64 k)],λ(_,q)=>⟨q,_,_,_⟩,λ(k,q)=>k<=x.ends.length/\M<=q,λ(k,_)=>x.ends.length-k,qMA (0,M) (zK (λz=>[zD .i64 z,.int .i64 0]) (Lt _ _ _)) ⟨zF _,GW.refl _⟩ rfl,?_⟩;rintro⟨k,aU⟩ ⟨bU,D⟩;have bW:=qYF (f:=qAD) (c:=4) (l:=x.ends) (λy _=>qIM y) k;have bX:(x.ends.take k).length<=1000:=by unfold BgG at aP;rw[zAN];omega
    refine zq ?_;intros;refine⟨λaf=>?_,λaf=>?_⟩
    .have Q:k<x.ends.length:=by have C:(k:zn)<x.ends.length:=ze af;omega
     obtain⟨h,ao⟩:=qBA Q;obtain⟨bY,rfl,bZ,b0,R,aV⟩:=aT k h ao;have aW:=R;obtain⟨⟨n,rfl,b2,b3,aX⟩,b4⟩:=aW;obtain⟨b5,b6,rfl,b7,b8,b9,ca⟩:=id aX;have T:=GW.trans L (GW.trans P D);refine zq ?_;intros;refine⟨_,rfl,⟨by show(0:zn)<=k;omega,by show(k:zn)<x.ends.length;omega⟩,zq ?_⟩;intros;refine⟨_,⟨rfl,aV.mono T⟩,zq ?_⟩;intros;refine .inr ((qXQ _ (q4C _ _ _ _ T R)).mono λcb ag E B=>?_);have aY:=qTJ qAD ao;have cc:=qIM h
     have ah:∀z:zn,z=qAD h->[zD .i64 (0+AD qiG (w.Ab.take i)+AD q7G (v.Am.take j)+AD qAD (x.ends.take (k+1))),zD .i64 ((k+1:Z):zn)]=[zD .i64 (0+AD qiG (w.Ab.take i)+AD q7G (v.Am.take j)+AD qAD (x.ends.take k)+z),zD .i64 (zAf.wrap ((k:zn)+1))]:=λz A=>by
      rw[aY,A,wr (x:=(k:zn)+1) (by unfold InR;unfold zAr at aR;omega)];simp only[Int.add_assoc,zCp,zDh]
     unfold qhP at B;cases H:qMC h with
     |none=>
      rw[H]at B;subst B;have U:Bv h=zb:=by unfold Bv;rw[H];rfl
      have A:qAD h=0:=by unfold qAD;rw[U];rfl
      refine zq ?_;intros;refine .inl ⟨_,(qlO _ (q4C _ _ _ _ (GW.trans T E) R)).to (zK zBm U),zq ?_⟩;intros;refine⟨λaZ=>(nomatch aZ),λ_=>zq ?_⟩;intros;refine λV W u=>⟨(k+1,ag),(ah 0 A.symm).trans (zK (λz=>[zD .i64 z,zD .i64 (zAf.wrap ((k:zn)+1))]) (zCN _)),⟨Q,GW.trans D E⟩,by show x.ends.length-(k+1)<x.ends.length-k;omega,u.fit sc⟩
     |some l=>
      rw[H]at B;obtain⟨cd,cF,rfl,B⟩:=B;have ce:=qIJ H;refine zq ?_;intros;refine .inl ⟨_,(qlO _ (q4C _ _ _ _ (GW.trans T E) R)),zq ?_⟩;intros;refine⟨λai=>?_,λai=>?_⟩
      .have a0:Bv h=I:=ai;have A:qAD h=h.next.length-(l.length:Z):=by unfold qAD;rw[a0,H];rfl
       refine zq ?_;intros;refine λV W u=>⟨(k+1,ag),(ah _ A.symm).trans (zK (λz=>[zD .i64 z,zD .i64 (zAf.wrap ((k:zn)+1))]) (by rw[wr (x:=(h.next.length:zn)-l.length) sg,wr (x:=0+AD qiG (w.Ab.take i)+AD q7G (v.Am.take j)+AD qAD (x.ends.take k)+((h.next.length:zn)-l.length)) sg])),⟨Q,GW.trans D E⟩,by show x.ends.length-(k+1)<x.ends.length-k;omega,u.fit sc⟩
      .have U:Bv h=zb:=ai;have A:qAD h=0:=by unfold qAD;rw[U];rfl
       refine zq ?_;intros;refine λV W u=>⟨(k+1,ag),(ah 0 A.symm).trans (zK (λz=>[zD .i64 z,zD .i64 (zAf.wrap ((k:zn)+1))]) (zCN _)),⟨Q,GW.trans D E⟩,by show x.ends.length-(k+1)<x.ends.length-k;omega,u.fit sc⟩
    have a1:k=x.ends.length:=by have C:¬(k:zn)<x.ends.length:=zf af;omega
    subst a1;refine zq ?_;intros;refine λV W u=>⟨(j+1,aU),(show[zD .i64 (0+AD qiG (w.Ab.take i)+AD q7G (v.Am.take (j+1))),zD .i64 ((j+1:Z):zn)]=[zD .i64 (0+AD qiG (w.Ab.take i)+AD q7G (v.Am.take j)+AD qAD (x.ends.take x.ends.length)),zD .i64 (zAf.wrap ((j:zn)+1))] by rw[qTJ q7G ae,wr (x:=(j:zn)+1) (by unfold InR;unfold zAr at aM;omega),zAB];simp only[Int.add_assoc,zCp,zDh];rfl),⟨an,GW.trans P D⟩,by show v.Am.length-(j+1)<v.Am.length-j;omega,u.fit sc⟩
   have a2:j=v.Am.length:=by have C:¬(j:zn)<v.Am.length:=zf ad;omega
   subst a2;refine zq ?_;intros;refine λV W u=>⟨(i+1,M),(show[zD .i64 (0+AD qiG (w.Ab.take (i+1))),zD .i64 ((i+1:Z):zn)]=[zD .i64 (0+AD qiG (w.Ab.take i)+AD q7G (v.Am.take v.Am.length)),zD .i64 (zAf.wrap ((i:zn)+1))] by rw[qTJ qiG ab,wr (x:=(i:zn)+1) (by unfold InR;unfold zAr at aB;omega),zAB];simp only[Int.add_assoc,zCp,zDh];rfl),⟨al,GW.trans L P⟩,by show w.Ab.length-(i+1)<w.Ab.length-i;omega,u.fit sc⟩
  have a3:i=w.Ab.length:=by have C:¬(i:zn)<w.Ab.length:=zf aa;omega
  subst a3;refine zq ?_;intros;intro M cf;show zD .i64 (0+AD qiG (w.Ab.take w.Ab.length))=_
  rw[zAB,Int.zero_add];rfl)
def qQG{g}{cs}{s}(h:qfJ g cs s):∃oa ca q u w A,cs=[.slice oa s.Aa.length ca,.slice q s.AN.length u,.slice w s.Ad.length A]:=by
 obtain⟨a,b,d,rfl,⟨oa,ca,rfl,_⟩,⟨q,u,rfl,_⟩,⟨B,C,rfl,_⟩⟩:=h;exact⟨_,_,_,_,_,_,rfl⟩
def qsX{s}{l}{t}{v}{g}(h:NF s l t v g)(k:qbI s l t):∃cs,v=.tuple #[.agg ⟨cs⟩,.int .i64 0]/\rWo g cs (EK s l t.toNat):=by
 rcases h with⟨_,h⟩|⟨h,_⟩
 .exact h
 .exact absurd k h
def qsT(g){w}(q:InU w):OkV X0 222 [.int .u64 w] g (.int .u32 (BQ w)):=
 Ok.Ao hm noT 0 JP.2 (args:=[.v (.int .u64 w)]) (by
  refine zq ?_;intros;refine⟨sb,zq ?_⟩;intros;intro A B
  have h:0<=BQ w/\BQ w<4294967296:=by
   unfold BQ;obtain⟨a,b⟩:=q;constructor<;>omega
  have u:w.fdiv (2^min (Int.toNat 32) zBO.bits)=BQ w:=by
   rw[show(2:zn)^min (Int.toNat 32) zBO.bits=4294967296 by decide,Int.fdiv_eq_ediv_of_nonneg _ sb];rfl
  rw[u,IntKind.wrap_u32,zCs h.1 h.2])
def qWQ(g){w i}(h:InU w)(B:-1<=i/\i<=2147483646):OkV X0 173 [.int .u64 w,.int .i64 i] g (.tuple #[.int .u64 (qHD w i),.int .i64 0]):=
 Ok.Ao hm noT 0 G3.2 (args:=[.v (.int .u64 w),.v (.int .i64 i)]) (by
  have q:=zBW (BQ w+1) (show(4294967296:zn)≠0 by decide);have u:=zBN (BQ w+1) (show(0:zn)<4294967296 by decide);have A:qoC i=I:=by unfold qoC;simp;omega
  refine zq ?_;intros;refine .inl ⟨_,qsT _ h,zq ?_⟩;intros;refine .inl ⟨_,(q8L _ (t:=IntKind.u32.wrap (BQ w+1)) (i:=i) (by rw[IntKind.wrap_u32];exact⟨q,u⟩) sg),zq ?_⟩;intros;intro C D
  rw[A,IntKind.wrap_u32];rfl)

def qjD(g)(i n):OkV X0 200 [.int .i64 i,.int .i64 n] g (.bool (inB i n)):=
 Ok.Ao hm noT 0 Ki.2 (args:=[.v (.int .i64 i),.v (.int .i64 n)]) (by
  refine zq ?_;intros;refine⟨λh=>?_,λh=>?_⟩
  .refine zq ?_;intros;intro q u;unfold inB;rw[h];rfl
  .refine zq ?_;intros;intro q u
   unfold inB;rw[h];rfl)
def qVA(g){cs ac}{w}{m:Aj}(ad:rWo g cs w)(hM:qeA g ac m)(ag:SnW w)(hb:BgW 1000000 w):OkV X0 169 [.agg ⟨cs⟩,.agg ⟨ac⟩] g (.bool (qXB w m)):=by
 have ah:=ad;obtain⟨a,b,c,d,e,rfl,⟨a0,a1,a2⟩,ai,aj,ak,al,an⟩:=ad;obtain⟨ao,ap,rfl,a3,a4,a5,a6⟩:=id ai;obtain⟨aq,ar,rfl,b1,a7,a8,au⟩:=id aj;obtain⟨av,aw,rfl,c1,c2,c0,a9⟩:=id ak;obtain⟨ax,ay,rfl,ba,bb,bc,bd⟩:=id al;obtain⟨az,aA,rfl,be,bf,bg,bh⟩:=id an;obtain⟨bi,bj,bl,rfl,aB,_,⟨_,_,_,aC,⟨aD,aE,rfl,_⟩,⟨aF,aG,rfl,_⟩,⟨aH,aI,rfl,_⟩⟩⟩:=hM;cases aC;have bm:=hb.1.2.2.1
 exact Ok.Ao hm noT 0 IR.2 (args:=[.v (.agg ⟨wQ w ao ap aq ar av aw ax ay az aA⟩),.v (.agg ⟨mQ m aD aE aF aG aH aI⟩)]) (by
  refine zq ?_;intros;refine .inl ⟨_,qlX _ ah ag,zq ?_⟩;intros;refine⟨λz1=>?_,λz1=>?_⟩
  .refine zq ?_;intros;intro q u;rw[qfD λ⟨v,B,A,h⟩=>by rw[h.right]at z1;cases z1]
  refine zq ?_;intros;refine .inl ⟨_,qjD _ _ _,zq ?_⟩;intros;refine⟨λL=>?_,λL=>?_⟩
  .refine zq ?_;intros;intro q u;rw[qfD λ⟨v,B,A,h⟩=>by rw[BX.2 h.Ag]at L;cases L]
  refine zq ?_;intros;refine⟨λM=>?_,λM=>?_⟩
  .refine zq ?_;intros;intro q u;rw[qfD λ⟨v,B,A,h⟩=>by rw[h.done]at M;cases M]
  refine zq ?_;intros;refine .inl ⟨_,qjD _ _ _,zq ?_⟩;intros;refine⟨λP=>?_,λP=>?_⟩
  .refine zq ?_;intros;intro q u
   rw[qfD λ⟨v,B,A,h⟩=>by
    have:=(zd.1 h.ver.2).1
    rw[BX.2 ⟨h.ver.1,by have:=h.ver.1;omega⟩]at P;cases P]
  have aJ:=BX.1 (nb0 P);obtain⟨v,C⟩:=qBA (l:=w.Ab) (i:=m.Ac.toNat) sa;obtain⟨aK,rfl,bn,bo,⟨bp,bq,br,bt,rfl,bu,aL⟩,aM⟩:=au _ v C;obtain⟨bv,bw,rfl,bx,q,bz,aN⟩:=id aL;refine zq ?_;intros;refine⟨aK,rfl,⟨sa,sa⟩,zw ?_⟩;refine⟨_,aM 3 _ rfl,zq ?_⟩;intros;refine .inl ⟨_,qjD _ _ _,zq ?_⟩;intros;refine⟨λQ=>?_,λQ=>?_⟩
  .refine zq ?_;intros;intro q u
   rw[qfD λ⟨D,B,A,h⟩=>by
    have:=h.ver.2;rw[C]at this;cases this;have:=(zd.1 h.clu.2).1
    rw[BX.2 ⟨h.clu.1,by have:=h.clu.1;omega⟩]at Q;cases Q]
  have aO:=BX.1 (nb0 Q);obtain⟨B,E⟩:=qBA (l:=v.Am) (i:=m.Ak.toNat) sa;obtain⟨aP,rfl,bA,bB,⟨bC,rfl,_,hE⟩,aQ⟩:=aN _ B E;obtain⟨bD,bE,rfl,bF,bG,bH,aR⟩:=id hE;refine zq ?_;intros;refine⟨aP,rfl,⟨sa,sa⟩,zw ?_⟩;refine⟨_,aQ 1 _ rfl,zq ?_⟩;intros;refine .inl ⟨_,qjD _ _ _,zq ?_⟩;intros;refine⟨λR=>?_,λR=>?_⟩
  .refine zq ?_;intros;intro q u
   rw[qfD λ⟨D,H,A,h⟩=>by
    have:=h.ver.2;rw[C]at this;cases this;have:=h.clu.2;rw[E]at this;cases this;have:=(zd.1 h.An.2).1
    rw[BX.2 ⟨h.An.1,by have:=h.An.1;omega⟩]at R;cases R]
  have k6:=BX.1 (nb0 R);refine zq ?_;intros;refine .inl ⟨_,qjD _ _ _,zq ?_⟩;intros;refine⟨λT=>?_,λT=>?_⟩
  .refine zq ?_;intros;intro q u
   rw[qfD λ⟨D,H,A,h⟩=>by
    have:=h.ver.2;rw[C]at this;cases this;have:=h.clu.2;rw[E]at this;cases this
    rw[BX.2 h.other]at T;cases T]
  have aT:=BX.1 (nb0 T);obtain⟨A,Y⟩:=qBA (l:=B.ends) (i:=m.An.toNat) sa;obtain⟨aU,rfl,bI,bJ,⟨⟨bK,rfl,_,_,aV⟩,_⟩,aW⟩:=aR _ A Y;obtain⟨bL,bM,rfl,bN,bO,bP,bQ⟩:=id aV;refine zq ?_;intros;refine⟨aU,rfl,⟨sa,sa⟩,zw ?_⟩;refine⟨_,aW 1 _ rfl,zq ?_⟩;intros;refine .inl ⟨_,qjD _ _ _,zq ?_⟩;intros;refine⟨λU=>?_,λU=>?_⟩
  .refine zq ?_;intros;intro q u
   rw[qfD λ⟨D,H,aa,h⟩=>by
    have:=h.ver.2;rw[C]at this;cases this;have:=h.clu.2;rw[E]at this;cases this;have:=h.An.2;rw[Y]at this;cases this
    rw[BX.2 h.slot]at U;cases U]
  have aX:=BX.1 (nb0 U);have ae:zAf.wrap ((w.Aa.length:zn)+1)=(w.Aa.length:zn)+1:=wr sg;have af:=aB.listen
  have bR:(zAf.wrap (m.listen+1)=m.listen+1\/zAf.wrap (m.listen+1)<0):=by
   rcases zDK m.listen 9223372036854775807 with h|h
   .exact .inl (wr (by unfold InR at af⊢;omega))
   .obtain h:m.listen=9223372036854775807:=by unfold InR at af;omega
    rw[h];exact .inr sb
  refine zq ?_;intros;refine .inl ⟨_,qjD _ _ _,zq ?_⟩;intros;refine⟨λV=>?_,λV=>?_⟩
  case' refine_2=>
   refine zq ?_;intros;intro q u
   rw[qfD λ⟨D,H,aa,h⟩=>by
    rw[BX.2 (by rw[ae,wr (by have:=h.listen;unfold InR;omega)];have:=h.listen;omega)]at V;cases V]
  have aY:=BX.1 V;rw[ae]at aY;refine zq ?_;intros;refine⟨λab=>?_,λab=>?_⟩
  case' refine_2=>
   refine zq ?_;intros;intro q u;have:=zf ab;rw[qfD λ⟨D,H,aa,h⟩=>by have:=h.i;omega]
  have aZ:=ze ab;refine zq ?_;intros;intro q u;by_cases W:0<=m.k
  .rw[zC W,Ar.2 ⟨v,B,A,⟨nb0 z1,BX.1 (nb0 L),M,⟨aJ.1,C⟩,⟨aO.1,E⟩,⟨k6.1,Y⟩,aT,aX,⟨sa,sa⟩,aZ,W⟩⟩]
  .rw[zE W,qfD λ⟨D,H,aa,h⟩=>W h.k])


def OE(w:Wd)(m:Aj)(v:zg)(g':GW):Prop:=∃cs,v=.tuple #[.agg ⟨cs⟩,.agg ⟨(Jr w m).cs⟩]/\rWo g' cs (Jp w m)
def qyb(g){cs u}{w}{m:Aj}(A:rWo g cs w)(hM:qeA g u m)(V:SnW w)(hb:BgW 1000000 w):Ok X0 249 [.agg ⟨cs⟩,.agg ⟨u⟩] g (OE w m):=by
 have h:=A;have W:=hM;obtain⟨a,b,c,d,e,rfl,⟨aU,aV,aW⟩,Y,aa,ab,ac,ad⟩:=A;obtain⟨B,C,rfl,aX,aY,aZ,a0⟩:=id Y;obtain⟨D,E,rfl,b1,a1,a2,a3⟩:=id aa;obtain⟨H,L,rfl,c1,c2,c0,a4⟩:=id ab;obtain⟨M,P,rfl,a5,a6,a7,a8⟩:=id ac;obtain⟨Q,R,rfl,a9,ba,bb,bc⟩:=id ad;obtain⟨bd,be,bf,rfl,bg,_,⟨_,_,_,ae,⟨af,ag,rfl,_⟩,⟨ah,ai,rfl,_⟩,⟨aj,ak,rfl,_⟩⟩⟩:=hM;cases ae
 exact Ok.Ao hm noT 0 JS.2 (args:=[.v (.agg ⟨wQ w B C D E H L M P Q R⟩),.v (.agg ⟨mQ m af ag ah ai aj ak⟩)]) (by
  refine zq ?_;intros;refine .inl ⟨_,qVA _ h W V hb,zq ?_⟩;intros;refine⟨λz1=>?_,λz1=>?_⟩
  .refine zq ?_;intros;intro al q;have T:=nb1 z1;refine⟨(wQ w B C D E H L M P Q R),?_,?_⟩
   .rw[Jr,T,zh sd];rfl
   .rw[Jp,T,zh sd];exact qCA _ _ _ _ q h
  have hs:=nb0 z1;obtain⟨bh,bi,bj,an⟩:=Ar.1 hs;have bl:=an.Ag;obtain⟨x,ao⟩:=qBA (l:=w.pins) (i:=m.Ag.toNat) sa;refine zq ?_;intros;refine .inr ((qSA _ h hb).mono λv bm bn ap=>?_);obtain⟨cs,bo,rfl,U⟩:=ap;have aq:=U;obtain⟨p,bp,r,s,t,rfl,_,_,ar,au,av,aw,ax⟩:=aq;obtain⟨bq,ay,rfl⟩:=qmA ar;obtain⟨az,aA,rfl⟩:=qmA au;obtain⟨aB,aC,rfl⟩:=qmA av;obtain⟨aD,aE,rfl⟩:=qmA aw;obtain⟨aF,aG,rfl⟩:=qmA ax;obtain⟨bk,cap,aH,br,bt,aI,aJ,⟨aK,aL,aM,aN,aO⟩,_,aP⟩:=qDU U ao (x':=0) sb;cases aH;cases aK;refine zq ?_;intros;refine⟨_,rfl,⟨sa,sa⟩,zq ?_⟩;intros;refine⟨bk,m.Ag.toNat,aI,aJ,⟨by simp[qlA],aL,aM,aN,aO⟩,zq ?_⟩;intros;refine λaQ aR=>?_;have aT:=qcA (aP aQ aR);refine zq ?_;intros;intro al q;refine⟨[.int .i64 w.Al,.int .i64 w.current,.int .i64 w.AH,.slice (O ⟨bk,0,zc⟩) w.pins.length ay,.slice az w.Ab.length aA,.slice aB w.Aa.length aC,.slice aD w.counts.length aE,.slice aF w.Ai.length aG],?_,?_⟩
  .rw[Jr,hs,zk rfl];rfl
  .rw[Jp,hs,zk rfl];exact qCA _ _ _ _ q aT)

def qCX(s)(l h p):∃c e:zn,qES s l h p=.tuple #[.int .i64 c,.int .i64 e]/\((e=0/\qFS s l h p=O c)\/(e≠0/\qFS s l h p=zc)):=by
 unfold qES qFS;split
 .exact⟨_,_,rfl,.inr ⟨sb,rfl⟩⟩
 .cases q:qdM (EO (CN (BN (λx=>bs x==bs l) s.Aa)) h p) s.AN with
  |none=>exact⟨_,_,rfl,.inr ⟨sb,rfl⟩⟩
  |some j=>
   obtain⟨r,u,w,_⟩:=F8.1 q;exact⟨_,_,rfl,.inl ⟨rfl,by simp[u]⟩⟩
def qPC(c:Bb)(k:Z):F zn:=((zBf k).filter λi=>(c.AA[i]?).getD zb).map λ(i:Z)=>(i:zn)
def q7R{c}{k}{b}(h:c.AA[k]?=O b):qPC c (k+1)=if b then qPC c k++[(k:zn)]else qPC c k:=by
 unfold qPC;rw[zDg,zDu,zBo];cases b<;>simp[h]
def qcN(c)(k):(qPC c k).length<=k:=by
 unfold qPC;rw[zAA];exact zZ (zCI _ _) sd
def qCP(c)(k)(hk:k<=17592186044416):∀x∈qPC c k,InR x:=by
 intro x h;unfold qPC at h;simp only[zAb,zAG,zB4]at h;obtain⟨i,⟨q,_⟩,rfl⟩:=h;unfold InR;omega
def tHe:F (Z×FnI):=[(117,ES.1),(146,DO.1)]
def qqa:qqB X0 tHe:=qPA ES.2 (qPA DO.2 noT)
def q8N:∀l:F zn,LW l=(l.map λx=>[zD .i64 x]).flatten
 |[]=>rfl
 |x::r=>zK (zD .i64 x::·) (q8N r)
def HeP(c:Bb)(v:zg)(g':GW):Prop:=∃h cap,v=.slice h (qLA c).length cap/\rSl 1 BS g' (.slice h (qLA c).length cap) (qLA c)
def qII(g){cs}{c}(hc:qOC g cs c)(U:c.AA.length<=17592186044416):Ok X0 77 [.agg ⟨cs⟩] g (HeP c):=by
 obtain⟨aj,rfl,ak,al,V⟩:=hc;obtain⟨C,D,rfl,L,M,an,W⟩:=id V
 exact Ok.Ao hm qqa 2 GG.2 (args:=[.v (.agg ⟨[.string c.name,.int .i64 c.Bl,.int .i64 c.Au,.slice C c.AA.length D]⟩)]) (by
  refine zq ?_;intros;refine⟨kF,λlp Y=>zq ?_⟩;intros;rename_i aa ab ac;refine zw ?_;refine⟨Z×zs zAH×Z,λ(k,_,_)=>[.v (.int .i64 k)],λ(k,u,A)=>⟨g,[.row 7 u (qPC c k).length A 3 1 (LW (qPC c k)),.lp 3 lp Y .ready,.blk 2 ac 151 [.v (.string c.name),.v (.int .i64 c.Bl),.v (.int .i64 c.Au),.v (.slice C c.AA.length D)],.blk 1 ab 29 [.row 7 u (qPC c k).length A],.blk 0 aa 151 [.v (.string c.name),.v (.int .i64 c.Bl),.v (.int .i64 c.Au),.v (.slice C c.AA.length D)]],40,g.w.heap.size⟩,λ(k,_,_)=>k<=c.AA.length,λ(k,_,_)=>c.AA.length-k,?_,?_⟩
  .intro P Q q;exact⟨(0,zc,0),rfl,zF _,(q.Cx (nx':=40) 7 3 1).fit (by simp[Az,Res.eqv,qDA,Ae,qPC])⟩
  rintro⟨k,u,A⟩ R;have R:k<=c.AA.length:=R;have ao:=qcN c k;refine zw ?_;refine⟨λE=>?_,λE=>?_⟩
  .have h:k<c.AA.length:=by have:=ze E;omega
   obtain⟨x,B⟩:=qBA h;obtain⟨a,rfl,ap,aq,rfl,ad⟩:=W k x B;have T:=q7R B;refine zq ?_;intros;refine⟨a,rfl,⟨sa,sa⟩,zq ?_⟩;intros;refine⟨_,ad 0 _ rfl,zq ?_⟩;intros;refine⟨λH=>?_,λH=>?_⟩
   .subst H;refine zq ?_;intros;refine⟨⟨by unfold zAr;omega,sa⟩,λae af=>zq ?_⟩;intros;refine λP Q q=>⟨(k+1,ae,af),zK (λz=>[zD .i64 z]) (wr1 h L M).symm,h,dec h,q.fit ?_⟩;simp only[T,zBp];simp[Az,Res.eqv,qDA,Ae]
   .subst H;refine zq ?_;intros;refine λP Q q=>⟨(k+1,u,A),zK (λz=>[zD .i64 z]) (wr1 h L M).symm,h,dec h,q.fit ?_⟩;simp only[T];simp[Az,Res.eqv,qDA,Ae]
  have ag:k=c.AA.length:=by have:=zf E;omega
  subst ag;refine zq ?_;intros;refine λar au av ah=>zw ?_;intro aw ai;refine⟨_,_,rfl,?_⟩
  exact((qiD ah.rd (qLA c) (λx=>[zD .i64 x]) (q8N _) rfl (λ_ _=>rfl) λx B=>⟨rfl,qCP c _ U x B⟩).mono qxA ai))
def q3J(c)(h:c.AA.length<=17592186044416):(qLA c).length<=17592186044416:=zZ (qBP c) h
def qga{t n}(h:InU t)(q:0<n):0<=t.tmod n/\t.tmod n<n/\t.tmod n=t%n:=by
 rw[zB1 h.1];exact⟨zBW t sa,zBN t q,rfl⟩
abbrev IZ(c:Bb):zn:=if qLA c=[]then 5 else 0
def qIZ(g){cs}{c}(hc:qOC g cs c)(A:c.AA.length<=17592186044416){t}(C:InU t):OkV X0 244 [.agg ⟨cs⟩,.int .u64 t] g (.tuple #[.int .i64 (qfG c t),.int .i64 (IZ c)]):=by
 have D:=hc;obtain⟨Y,rfl,aa,ab,E⟩:=hc;obtain⟨H,L,rfl,ac,ad,ae,af⟩:=id E
 exact Ok.Ao hm noT 0 H5.2 (args:=[.v (.agg ⟨[.string c.name,.int .i64 c.Bl,.int .i64 c.Au,.slice H c.AA.length L]⟩),.v (.int .u64 t)]) (by
  refine zq ?_;intros;refine .inr ((qII _ D A).mono λv ag ah h=>?_);obtain⟨ai,aj,rfl,h⟩:=h;refine zq ?_;intros;refine⟨λq=>?_,λq=>?_⟩
  .have M:qLA c=[]:=by
    have:=ze q;exact zBd.1 sa
   refine zq ?_;intros;intro P Q;simp[qfG,IZ,M]
  have B:0<(qLA c).length:=by
   have ak:¬_:=zf q;omega
  have al:=q3J c A;have u:zBO.wrap ((qLA c).length:zn)=(qLA c).length:=IntWalk.u64_in _ sa;obtain⟨an,ao,R⟩:=qga C (n:=(qLA c).length) sa;obtain⟨x,w⟩:=qBA (l:=qLA c) (i:=(t%(qLA c).length).toNat) sa;obtain⟨ap,rfl⟩:=qYA h w;obtain⟨aq,T⟩:=qJL h w;have U:qLA c≠[]:=by intro V;rw[V]at B;cases B
  have W:qfG c t=x:=by unfold qfG;rw[w];rfl
  refine zq ?_;intros;refine⟨sf,zq ?_⟩;intros;refine⟨_,rfl,⟨by simp only[u];omega,by simp only[u];omega⟩,zq ?_⟩;intros;simp only[u,R];refine zw ?_;refine⟨_,T 0 _ rfl,zq ?_⟩;intros;intro P Q
  simp[W,IZ,U])
def qNZ(g){a x b y}:OkV X0 248 [.int .i64 a,.int .i64 x,.int .i64 b,.int .i64 y] g (.int .i64 (qjK a x b y)):=
 Ok.Ao hm noT 0 Ii.2 (args:=[.v (.int .i64 a),.v (.int .i64 x),.v (.int .i64 b),.v (.int .i64 y)]) (by
  refine zq ?_;intros;refine⟨λz=>?_,λz=>?_⟩
  .refine zq ?_;intros;intro h q;unfold qjK;rw[zk (ze z)]
  .refine zq ?_;intros;intro h q
   unfold qjK;rw[zh (zf z)])
def qrU{c}(h:qLA c=[])(d):q3F c d=0:=by simp[q3F,h]
def qqU{c}(d:zn)(h:0<(qLA c).length):(qLA c)[(d%(qLA c).length).toNat]?=O (q3F c d)/\0<=d%(qLA c).length/\d%(qLA c).length<(qLA c).length:=by
 have q:=zBW d (show((qLA c).length:zn)≠0 by omega);have u:=zBN d (show(0:zn)<(qLA c).length by omega);obtain⟨x,w⟩:=qBA (l:=qLA c) (i:=(d%(qLA c).length).toNat) sa;unfold q3F;rw[w];exact⟨rfl,q,u⟩
def qrV{d n:zn}(q:0<n):-n<=d.tmod n/\d.tmod n<n:=by
 have u:=zBW d (show n≠0 by omega);have w:=zBN d q
 have h:d.tmod n=d%n\/d.tmod n=d%n-n:=by
  rw[Int.tmod_eq_emod];split
  .exact .inl sa
  .right;have:(n.natAbs:zn)=n:=sa
   omega
 generalize d.tmod n=r at h⊢;generalize d%n=A at h u w;omega
def qQZ(g){cs}{c}(hc:qOC g cs c)(P:c.AA.length<=17592186044416){h q}(Y:InR h)(aa:InR q):OkV X0 255 [.agg ⟨cs⟩,.int .i64 h,.int .i64 q] g (.tuple #[.int .i64 (q3F c h),.int .i64 (q3F c q),.int .i64 (IZ c)]):=by
 have ab:=hc;obtain⟨ax,rfl,ay,az,ac⟩:=hc;obtain⟨Q,R,rfl,aA,aB,aC,aD⟩:=id ac
 exact Ok.Ao hm noT 0 Ij.2 (args:=[.v (.agg ⟨[.string c.name,.int .i64 c.Bl,.int .i64 c.Au,.slice Q c.AA.length R]⟩),.v (.int .i64 h),.v (.int .i64 q)]) (by
  refine zq ?_;intros;refine .inr ((qII _ ab P).mono λv ad aE w=>?_);obtain⟨aF,aG,rfl,w⟩:=w;refine zq ?_;intros;refine⟨λB=>?_,λB=>?_⟩
  .have T:qLA c=[]:=by
    have:=B9 B;exact zBd.1 sa
   refine zq ?_;intros;intro ae af;simp[qrU T,IZ,T]
  have A:0<(qLA c).length:=by
   have:=Ea B;omega
  have aH:=q3J c P;have ag:qLA c≠[]:=by intro u;rw[u]at A;cases A
  obtain⟨U,ah,ai⟩:=qqU (c:=c) h A;obtain⟨aj,ak,al⟩:=qqU (c:=c) q A;obtain⟨aI,rfl⟩:=qYA w U;obtain⟨aJ,an⟩:=qJL w U;obtain⟨aK,ao⟩:=qJL w aj;refine zq ?_;intros;rename_i ap aq;refine zw ?_;refine⟨Z,λk=>[.v (.int .i64 k)],λk=>⟨ad,[.blk 1 aq _ [.v (.int .i64 (if k=0 then h else q3F c h)),.v (.int .i64 (if k<=1 then q else q3F c q))],.blk 0 ap 151 [.v (.string c.name),.v (.int .i64 c.Bl),.v (.int .i64 c.Au),.v (.slice Q c.AA.length R)]],_,_⟩,λk=>k<=2,λk=>2-k,qMA 0 rfl sb rfl,?_⟩;intro k ar
  have V:∀d,InR d->InR (d.tmod (qLA c).length)/\InR (d.tmod (qLA c).length+(qLA c).length)/\(d.tmod (qLA c).length+(qLA c).length).tmod (qLA c).length=d%(qLA c).length:=λd aL=>by
   have W:=qiY (d:=d) (n:=(qLA c).length) sa;have au:=qrV (d:=d) (n:=(qLA c).length) sa;have aM:((qLA c).length:zn)<=17592186044416:=sa
   generalize d.tmod ((qLA c).length:zn)=r at W au⊢;generalize((qLA c).length:zn)=n at*;refine⟨sg,sg,W⟩
  rcases(by have:k<=2:=ar;omega:k=0\/k=1\/k=2)with rfl|rfl|rfl
  .obtain⟨C,D,E⟩:=V h Y;have H:=wr C;have L:=wr D;refine zw ?_;refine⟨λ_=>zq ?_,λu=>nomatch u⟩;intros;refine⟨0,⟨rfl,sb⟩,zq ?_⟩;intros;refine⟨sf,zq ?_⟩;intros;refine⟨sf,zq ?_⟩;intros;simp only[eq_self,zG,zBp,H,L,E];refine zw ?_;refine⟨_,rfl,⟨ah,ai⟩,zq ?_⟩;intros;refine⟨_,an 0 _ rfl,zq ?_⟩;intros;refine⟨0,⟨rfl,sb⟩,zq ?_⟩;intros;refine λav aw M=>⟨1,rfl,sb,sb,?_⟩;exact M.fit sc
  .obtain⟨C,D,E⟩:=V q aa;have H:=wr C;have L:=wr D;refine zw ?_;refine⟨λ_=>zq ?_,λu=>nomatch u⟩;intros;refine⟨1,⟨rfl,sb⟩,zq ?_⟩;intros;refine⟨sf,zq ?_⟩;intros;refine⟨sf,zq ?_⟩;intros;simp only[eq_self,zG,zBp,H,L,E];refine zw ?_;refine⟨_,rfl,⟨ak,al⟩,zq ?_⟩;intros;refine⟨_,ao 0 _ rfl,zq ?_⟩;intros;refine⟨1,⟨rfl,sb⟩,zq ?_⟩;intros;refine λav aw M=>⟨2,rfl,sb,sb,?_⟩;exact M.fit sc
  .refine zw ?_;refine⟨λu=>(nomatch u),λ_=>zq ?_⟩;intros;refine⟨0,⟨rfl,sb⟩,zq ?_⟩;intros;refine⟨1,⟨rfl,sb⟩,zq ?_⟩;intros;intro ae af
   simp[IZ,ag])
def qcV(w:Wd)(m:Aj)(v:zg)(g':GW):Prop:=∃cs h,v=.tuple #[.agg ⟨cs⟩,.agg ⟨h⟩,.agg ⟨(Dk w m).cs⟩]/\rWo g' cs (Du w m)/\qeA g' h (Dg w m)
def tPi:F (Z×FnI):=[(199,Fb.1),(236,FU.1),(238,FT.1),(239,GE.1),(237,G8.1)]
def q0P:qqB X0 tPi:=qPA Fb.2 (qPA FU.2 (qPA FT.2 (qPA GE.2 (qPA G8.2 noT))))
def qqR:F (Ky×zg):=[(.i 0,.agg #[.func (.func 236) #[] #[]]),(.i 1,.agg #[.func (.func 238) #[] #[]]),(.i 2,.agg #[.func (.func 239) #[] #[]])]
def qEJ(g):Ok X0 199 [] g λv g'=>∃r,v=.map (O r)/\FzM g' r .i64 qqR:=
 Ok.Ao hm noT 0 Fb.2 (args:=[]) (by
  refine zq ?_;intros;refine λu w h=>zq ?_;intros;intro A q
  exact⟨_,rfl,h.mono q⟩)
def qcW(g){cs q}{w}{m:Aj}(B:rWo g cs w)(hM:qeA g q m)(ak:SnW w)(hb:BgW 1000000 w)(hp:m.pc≠0/\m.pc≠1/\m.pc≠2):Ok X0 168 [.agg ⟨cs⟩,.agg ⟨q⟩] g (qcV w m):=by
 obtain⟨C,D,E,H,L,M,P,Q,R,T,U,V,W,Y,aa,ab,rfl,rfl,ac,ad,⟨al,an,ao⟩,ap,aq,ar,au,av,⟨aw,ax,ay,az⟩,⟨b1,aA,aB,aC⟩,⟨c1,c2,c0,aD⟩,⟨aE,aF,aG,aH⟩,⟨aI,aJ,aK,aL⟩,aM,aN,aO⟩:=qaB B hM
 exact Ok.Ao hm q0P 3 EE.2 (args:=[.v (.agg ⟨wQ w C D E H L M P Q R T⟩),.v (.agg ⟨mQ m U V W Y aa ab⟩)]) (by
  refine zq ?_;intros;refine .inr ((qEJ _).mono λv aP u h=>?_);obtain⟨r,rfl,h⟩:=h;refine zq ?_;intros;refine⟨qqR,⟨rfl,h⟩,?_⟩;have ae:(m.pc==0)=zb:=sf
  have af:(m.pc==1)=zb:=sf
  have ag:(m.pc==2)=zb:=sf
  refine zw ?_;refine⟨zc,by simp only[qqR,Bs,DL,ae,af,ag],zq ?_⟩;intros;refine⟨λ_=>zq ?_,λah=>nomatch ah⟩;intros;intro aQ A;have hE:Dk w m=ev0:=by unfold Dk;split;rw[zh sa,zh sa];rfl
  have ai:Du w m=w:=by unfold Du;rw[zh sa]
  have aj:Dg w m=m:=by unfold Dg;split;rw[zh sa,zh sa,zh sa];rfl
  exact⟨_,_,sj,by rw[ai];exact qCA _ _ _ _ (GW.trans u A) ac,by rw[aj];exact qUA _ _ _ _ (GW.trans u A) ad⟩)
def qfW(g){cs H}{w}{m:Aj}(Y:rWo g cs w)(hM:qeA g H m)(aa:SnW w)(hb:BgW 1000000 w)(L:m.pc=0):Ok X0 168 [.agg ⟨cs⟩,.agg ⟨H⟩] g (qcV w m):=by
 obtain⟨ab,ac,ad,ae,af,ag,ah,ai,aj,ak,al,an,ao,ap,aq,ar,rfl,rfl,M,au,⟨av,aR,aT⟩,aw,ax,ay,az,aA,⟨aU,aV,aB,aC⟩,⟨b1,aW,aD,aE⟩,⟨c1,c2,c0,aF⟩,⟨aX,aY,aG,aH⟩,⟨aZ,a0,aI,aJ⟩,aK,aL,aM⟩:=qaB Y hM
 exact Ok.Ao hm q0P 3 EE.2 (args:=[.v (.agg ⟨wQ w ab ac ad ae af ag ah ai aj ak⟩),.v (.agg ⟨mQ m al an ao ap aq ar⟩)]) (by
  refine zq ?_;intros;refine .inr ((qEJ _).mono λv a1 q u=>?_);obtain⟨r,rfl,u⟩:=u;refine zq ?_;intros;refine⟨qqR,⟨rfl,u⟩,?_⟩;have A:=qCA _ _ _ _ q M;have P:=qUA _ _ _ _ q au;refine zw ?_;refine⟨O (.agg #[.func (.func 236) #[] #[]]),by rw[L];rfl,zq ?_⟩;intros;refine⟨λB=>(nomatch B),λ_=>zq ?_⟩;intros;refine .inl ⟨_,qVA _ A P aa hb,zq ?_⟩;intros;refine⟨λz1=>?_,λz1=>?_⟩
  .refine zq ?_;intros;intro aN h;have C:=nb1 z1;have hE:Dk w m=ev0:=by unfold Dk;rw[zh (by rw[C];exact Bool.noConfusion)]
   have D:Du w m=w:=by unfold Du;rw[zh (by rw[C];exact λB=>Bool.noConfusion B.1)]
   have E:Dg w m=m:=by unfold Dg;rw[zh (by rw[C];exact Bool.noConfusion)]
   exact⟨_,_,sj,by rw[D];exact qCA _ _ _ _ h A,by rw[E];exact qUA _ _ _ _ h P⟩
  have hs:=nb0 z1;refine zq ?_;intros;refine .inr ((qSA _ A hb).mono λv a2 aO aP=>?_);obtain⟨cs,a3,rfl,Q⟩:=aP;have aQ:=Q;obtain⟨p,a4,a5,a6,a7,rfl,_,_,R,T,U,V,W⟩:=aQ;obtain⟨a8,a9,rfl⟩:=qmA R;obtain⟨ba,bb,rfl⟩:=qmA T;obtain⟨bc,bd,rfl⟩:=qmA U;obtain⟨be,bf,rfl⟩:=qmA V;obtain⟨bg,bh,rfl⟩:=qmA W;clear M aw ax ay az aA aC aE aF aH aJ aB aD c0 aG aI T U V W R;refine zq ?_;intros;refine⟨kF,zq ?_⟩;intros;intro aN h;have hE:Dk w m=⟨m.Ag,0,1,1,-1,zb,w.Al,zb,zb,zb,BO⟩:=by unfold Dk;rw[zk hs,zh sa,zk sa]
  have D:Du w m=w:=by unfold Du;rw[zh sa]
  have E:Dg w m={m with Al:=w.Al,pc:=1}:=by unfold Dg;rw[zk hs,zk L]
  refine⟨_,_,sj,by rw[D];exact qCA _ _ _ _ h (qcA Q),?_⟩;rw[E]
  exact⟨_,_,_,rfl,{aK with Al:=av,pc:=show InR (1:zn) by decide},aL,qAA _ _ _ _ (GW.trans (GW.trans q aO) h) aM⟩)
def qeW(g){cs L}{w}{m:Aj}(ac:rWo g cs w)(hM:qeA g L m)(ad:SnW w)(hb:BgW 1000000 w)(A:m.pc=1):Ok X0 168 [.agg ⟨cs⟩,.agg ⟨L⟩] g (qcV w m):=by
 obtain⟨ae,af,ag,ah,ai,aj,ak,al,an,ao,ap,aq,ar,au,av,aw,rfl,rfl,M,ax,⟨a5,a6,a7⟩,ay,az,aA,aB,aC,⟨a8,a9,aD,aE⟩,⟨b1,ba,aF,aG⟩,⟨c1,c2,c0,aH⟩,⟨bb,bc,aI,aJ⟩,⟨bd,be,aK,aL⟩,aM,aN,aO⟩:=qaB ac hM
 exact Ok.Ao hm q0P 3 EE.2 (args:=[.v (.agg ⟨wQ w ae af ag ah ai aj ak al an ao⟩),.v (.agg ⟨mQ m ap aq ar au av aw⟩)]) (by
  refine zq ?_;intros;refine .inr ((qEJ _).mono λv P B h=>?_);obtain⟨r,rfl,h⟩:=h;refine zq ?_;intros;refine⟨qqR,⟨rfl,h⟩,?_⟩;have C:=qCA _ _ _ _ B M;have Q:=qUA _ _ _ _ B ax;refine zw ?_;refine⟨O (.agg #[.func (.func 238) #[] #[]]),by rw[A];rfl,zq ?_⟩;intros;refine⟨λq=>(nomatch q),λ_=>zq ?_⟩;intros;refine .inl ⟨_,qVA _ C Q ad hb,zq ?_⟩;intros;refine⟨λz1=>?_,λz1=>?_⟩
  .refine zq ?_;intros;intro aP u;have D:=nb1 z1;have hE:Dk w m=ev0:=by unfold Dk;rw[zh (by rw[D];exact Bool.noConfusion)]
   have E:Du w m=w:=by unfold Du;rw[zh (by rw[D];exact λq=>Bool.noConfusion q.1)]
   have H:Dg w m=m:=by unfold Dg;rw[zh (by rw[D];exact Bool.noConfusion)]
   exact⟨_,_,sj,by rw[E];exact qCA _ _ _ _ u C,by rw[H];exact qUA _ _ _ _ u Q⟩
  have hs:=nb0 z1;refine zq ?_;intros;refine .inr ((qSA _ C hb).mono λv bf aQ aR=>?_);obtain⟨cs,bg,rfl,R⟩:=aR;have aT:=R;obtain⟨p,bh,bi,bj,bl,rfl,_,_,T,U,V,W,Y⟩:=aT;obtain⟨bm,bn,rfl⟩:=qmA T;obtain⟨bo,bp,rfl⟩:=qmA U;obtain⟨bq,br,rfl⟩:=qmA V;obtain⟨bt,bu,rfl⟩:=qmA W;obtain⟨bv,bw,rfl⟩:=qmA Y;have bx:=(Ar.1 hs).choose_spec.choose_spec.choose_spec.Ag;obtain⟨x,aU⟩:=qBA (l:=w.pins) (i:=m.Ag.toNat) sa;obtain⟨bk,cap,aV,bz,bA,aW,aX,⟨aY,aZ,a0,a1,a2⟩,_,a3⟩:=qDU R aU (x':=zAf.wrap (m.Al+1)) (q8A _);cases aV;cases aY;clear M ay az aA aB aC aE aG aH aJ aL aD aF c0 aI aK U V W Y T;refine zq ?_;intros;refine⟨kF,zq ?_⟩;intros;refine⟨_,rfl,⟨sa,sa⟩,zq ?_⟩;intros;refine⟨bk,m.Ag.toNat,aW,aX,⟨by simp[qlA],zZ B.1 aZ,a0,a1,a2⟩,zq ?_⟩;intros;refine λaa ab=>?_;have h:=qcA (a3 aa ab);have a4:P<=aa:=ab.le aQ (λq=>by have:=P.wf _ q;omega);refine zq ?_;intros;intro aP u;have hE:Dk w m=⟨m.Ag,0,2,2,-1,zb,zAf.wrap (m.Al+1),zb,zb,zb,BO⟩:=by unfold Dk;rw[zk hs,zk A]
  have E:Du w m={w with pins:=w.pins.set m.Ag.toNat (zAf.wrap (m.Al+1))}:=by unfold Du;rw[zk ⟨hs,A⟩]
  have H:Dg w m={m with pc:=2}:=by unfold Dg;rw[zk hs,zh sa,zk A]
  refine⟨_,_,sj,by rw[E];exact qCA _ _ _ _ u h,?_⟩;rw[H]
  exact⟨_,_,_,rfl,{aM with pc:=show InR (2:zn) by decide},aN,qAA _ _ _ _ (GW.trans (GW.trans B a4) u) aO⟩)
def qdW(g){cs P}{w}{m:Aj}(ag:rWo g cs w)(hM:qeA g P m)(ah:SnW w)(hb:BgW 1000000 w)(B:m.pc=2):Ok X0 168 [.agg ⟨cs⟩,.agg ⟨P⟩] g (qcV w m):=by
 obtain⟨ai,aj,ak,al,an,ao,ap,aq,ar,au,av,aw,ax,ay,az,aA,rfl,rfl,Q,aB,⟨R,aT,aU⟩,aC,aD,aE,aF,aG,⟨aV,aW,aH,aI⟩,⟨b1,aX,aJ,aK⟩,⟨c1,c2,c0,aL⟩,⟨aY,aZ,aM,aN⟩,⟨a0,a1,aO,aP⟩,T,U,V⟩:=qaB ag hM
 exact Ok.Ao hm q0P 3 EE.2 (args:=[.v (.agg ⟨wQ w ai aj ak al an ao ap aq ar au⟩),.v (.agg ⟨mQ m av aw ax ay az aA⟩)]) (by
  refine zq ?_;intros;refine .inr ((qEJ _).mono λv a2 A C=>?_);obtain⟨r,rfl,C⟩:=C;refine zq ?_;intros;refine⟨qqR,⟨rfl,C⟩,?_⟩;have D:=qCA _ _ _ _ A Q;have W:=qUA _ _ _ _ A aB;refine zw ?_;refine⟨O (.agg #[.func (.func 239) #[] #[]]),by rw[B];rfl,zq ?_⟩;intros;refine⟨λE=>(nomatch E),λ_=>zq ?_⟩;intros;refine .inl ⟨_,qVA _ D W ah hb,zq ?_⟩;intros;refine⟨λz1=>?_,λz1=>?_⟩
  .refine zq ?_;intros;intro Y h;have H:=nb1 z1;have hE:Dk w m=ev0:=by unfold Dk;rw[zh (by rw[H];exact Bool.noConfusion)]
   have q:Du w m=w:=by unfold Du;rw[zh (by rw[H];exact λE=>Bool.noConfusion E.1)]
   have u:Dg w m=m:=by unfold Dg;rw[zh (by rw[H];exact Bool.noConfusion)]
   exact⟨_,_,sj,by rw[q];exact qCA _ _ _ _ h D,by rw[u];exact qUA _ _ _ _ h W⟩
  have hs:=nb0 z1;refine zq ?_;intros;refine .inr ((qSA _ D hb).mono λv a3 aa aQ=>?_);obtain⟨cs,a4,rfl,L⟩:=aQ;have aR:=L;obtain⟨p,a5,a6,a7,a8,rfl,_,_,ab,ac,ad,ae,af⟩:=aR;obtain⟨a9,ba,rfl⟩:=qmA ab;obtain⟨bb,bc,rfl⟩:=qmA ac;obtain⟨bd,be,rfl⟩:=qmA ad;obtain⟨bf,bg,rfl⟩:=qmA ae;obtain⟨bh,bi,rfl⟩:=qmA af;clear Q aC aD aE aF aG aI aK aL aN aP aH aJ c0 aM aO ac ad ae af ab;refine zq ?_;intros;refine⟨kF,zq ?_⟩;intros;refine⟨λM=>?_,λM=>?_⟩
  .refine zq ?_;intros;intro Y h;have hE:Dk w m=⟨m.Ag,0,1,1,-1,zb,w.Al,zb,zb,zb,BO⟩:=by unfold Dk;rw[zk hs,zh sa,zk sa]
   have q:Du w m=w:=by unfold Du;rw[zh sa]
   have u:Dg w m={m with Al:=w.Al,pc:=3}:=by unfold Dg;rw[zk hs,zh sa,zh sa,zk B,zk (by simpa using M)]
   refine⟨_,_,sj,by rw[q];exact qCA _ _ _ _ h (qcA L),?_⟩;rw[u];exact⟨_,_,_,rfl,{T with Al:=R,pc:=show InR (3:zn) by decide},U,qAA _ _ _ _ (GW.trans (GW.trans A aa) h) V⟩
  .refine zq ?_;intros;intro Y h;have hE:Dk w m=⟨m.Ag,0,1,1,-1,zb,w.Al,zb,zb,zb,BO⟩:=by unfold Dk;rw[zk hs,zh sa,zk sa]
   have q:Du w m=w:=by unfold Du;rw[zh sa]
   have u:Dg w m={m with Al:=w.Al,pc:=1}:=by unfold Dg;rw[zk hs,zh sa,zh sa,zk B,zh (by simpa using M)]
   refine⟨_,_,sj,by rw[q];exact qCA _ _ _ _ h (qcA L),?_⟩;rw[u]
   exact⟨_,_,_,rfl,{T with Al:=R,pc:=show InR (1:zn) by decide},U,qAA _ _ _ _ (GW.trans (GW.trans A aa) h) V⟩)
def qJZ(g){cs u}{w}{m:Aj}(h:rWo g cs w)(hM:qeA g u m)(q:SnW w)(hb:BgW 1000000 w):Ok X0 168 [.agg ⟨cs⟩,.agg ⟨u⟩] g (qcV w m):=by
 by_cases A:m.pc=0
 .exact qfW g h hM q hb A
 .by_cases B:m.pc=1
  .exact qeW g h hM q hb B
  .by_cases C:m.pc=2
   .exact qdW g h hM q hb C
   .exact qcW g h hM q hb ⟨A,B,C⟩

def HaP(w:Wd)(m:Aj)(v:zg)(g':GW):Prop:=∃cs h,v=.tuple #[.agg ⟨cs⟩,.agg ⟨h⟩,.agg ⟨(hsE w m).cs⟩]/\rWo g' cs (hsW w m)/\qeA g' h (hsM w m)
abbrev SmO(m:Aj):Prop:=Sm m.op.Bp/\Sm m.op.path
def tHa:F (Z×FnI):=[(201,B5.1),(202,C9.1),(203,Cr.1),(204,CV.1),(205,B6.1),(206,B4.1),(207,CE.1),(208,CD.1),(209,CK.1),(210,CW.1),(211,Cs.1),(212,CF.1),(213,C8.1),(214,C5.1),(241,Dq.1),(242,C7.1)]
def qID:qqB X0 tHa:=qPA B5.2 (qPA C9.2 (qPA Cr.2 (qPA CV.2 (qPA B6.2 (qPA B4.2 (qPA CE.2 (qPA CD.2 (qPA CK.2 (qPA CW.2 (qPA Cs.2 (qPA CF.2 (qPA C8.2 (qPA C5.2 (qPA Dq.2 (qPA C7.2 noT)))))))))))))))
def NK:zg:=.agg #[.nilFunc,.nilFunc,.nilFunc,.func (.func 201) #[] #[],.func (.func 202) #[] #[],.func (.func 203) #[] #[],.func (.func 204) #[] #[],.func (.func 205) #[] #[],.func (.func 206) #[] #[],.func (.func 207) #[] #[],.func (.func 208) #[] #[],.func (.func 209) #[] #[],.func (.func 210) #[] #[],.nilFunc,.nilFunc,.nilFunc,.nilFunc,.nilFunc,.nilFunc,.nilFunc,.func (.func 211) #[] #[],.func (.func 212) #[] #[],.func (.func 213) #[] #[],.func (.func 214) #[] #[]]
def qbB(g):OkV X0 170 [] g NK:=
 Ok.Ao hm noT 0 Hd.2 (args:=[]) (by
  refine zq ?_;intros;intro h q
  rfl)
def qtT(g){w i}(h:InU w)(q:InR i):OkV X0 173 [.int .u64 w,.int .i64 i] g (.tuple #[.int .u64 (if qoC i then qHD w i else 0),.int .i64 (if qoC i then 0 else 1)]):=
 Ok.Ao hm noT 0 G3.2 (args:=[.v (.int .u64 w),.v (.int .i64 i)]) (by
  have u:=zBW (BQ w+1) (show(4294967296:zn)≠0 by decide);have A:=zBN (BQ w+1) (show(0:zn)<4294967296 by decide);refine zq ?_;intros;refine .inl ⟨_,qsT _ h,zq ?_⟩;intros;refine .inl ⟨_,(q8L _ (t:=IntKind.u32.wrap (BQ w+1)) (i:=i) (by rw[IntKind.wrap_u32];exact⟨u,A⟩) q),zq ?_⟩;intros;intro B C
  rw[IntKind.wrap_u32];rfl)
def qsP{c}{t}(h:c.AA.length<=17592186044416):InR (qfG c t):=by
 by_cases q:qLA c=[]
 .have:qfG c t=0:=by simp[qfG,q]
  rw[this];decide
 .have:=qwS (t:=t) q;unfold InR;omega
def q5Q{c}{t}(h:c.AA.length<=17592186044416):InR (q3F c t):=qsP h
abbrev xW(h q:Z):zg:=.agg ⟨[.pointer (O ⟨h,0,zc⟩),.pointer (O ⟨q,0,zc⟩)]⟩
def qIB(g){q h}{t a c v}(u:Rc g ⟨h,10,zc⟩ (.int .i64 t)):OkV X0 240 [xW q h,.int .i64 a,.int .i64 c,.int .i64 v] g (.agg ⟨(⟨t,0,a,c,-1,zb,v,zb,zb,zb,BO⟩:Ev).cs⟩):=
 Ok.Ao hm noT 0 Fe.2 (args:=[.v (xW q h),.v (.int .i64 a),.v (.int .i64 c),.v (.int .i64 v)]) (by
  refine zq ?_;intros;refine⟨_,u,zq ?_⟩;intros;intro w A
  rfl)
def qkD(g){q h}{t i a c v}{u}{w A}{B C D E}{fr}(H:Rc g ⟨h,10,zc⟩ (.int .i64 t))(h2:Rc g ⟨h,13,zc⟩ (.int .i64 i))(L:Rc g ⟨q,4,zc⟩ (.slice (O u) w A))(M:0<=i/\i<w)(P:Rcs g (u.add (i.toNat*5)) [B,C,D,E,.bool fr]):OkV X0 246 [xW q h,.int .i64 a,.int .i64 c,.int .i64 v] g (.agg ⟨(⟨t,0,a,c,i,fr,v,zb,zb,zb,BO⟩:Ev).cs⟩):=
 Ok.Ao hm noT 0 FZ.2 (args:=[.v (xW q h),.v (.int .i64 a),.v (.int .i64 c),.v (.int .i64 v)]) (by
  refine zq ?_;intros
  repeat'((first|refine .inl ⟨_,qIB _ H,?_⟩|refine⟨_,h2,?_⟩|refine⟨_,L,?_⟩|refine⟨_,rfl,M,?_⟩|refine⟨_,P 4 _ rfl,?_⟩|refine zI ?_ ?_|fail)<;>first|(refine zq ?_;intros)|rfl)
  all_goals(conv=>whnf)
  all_goals(first|exact zAx _|(intro Q R;rfl)))
def qoJ(g){q h}{i j}{u w}{A C B D}{E H L M}(h2:Rc g ⟨h,13,zc⟩ (.int .i64 i))(P:Rc g ⟨h,15,zc⟩ (.int .i64 j))(Q:Rc g ⟨q,4,zc⟩ (.slice (O u) A C))(R:0<=i/\i<A)(T:Rcs g (u.add (i.toNat*5)) [E,H,L,.slice (O w) B D,M])(U:0<=j/\j<B):OkV X0 243 [xW q h] g (.pointer (O (w.add (j.toNat*2)))):=
 Ok.Ao hm noT 0 Ff.2 (args:=[.v (xW q h)]) (by
  refine zq ?_;intros
  repeat'((first|refine⟨_,h2,?_⟩|refine⟨_,Q,?_⟩|refine⟨_,P,?_⟩|refine⟨_,rfl,R,?_⟩|refine⟨_,T 3 _ rfl,?_⟩|refine⟨_,rfl,U,?_⟩|refine zI ?_ ?_|fail)<;>first|(refine zq ?_;intros)|rfl)
  all_goals(conv=>whnf)
  all_goals(first|exact zAx _|(intro V W;rfl)))
def q2E(g){q h}{i j}{u w}{A H B L}{M P Q R}{C}{po sl}{D}{nh E}(h2:Rc g ⟨h,13,zc⟩ (.int .i64 i))(T:Rc g ⟨h,15,zc⟩ (.int .i64 j))(U:Rc g ⟨q,4,zc⟩ (.slice (O u) A H))(V:0<=i/\i<A)(W:Rcs g (u.add (i.toNat*5)) [M,P,.slice (O w) B L,Q,R])(Y:0<=j/\j<B)(hk:Rcs g (w.add (j.toNat*4)) [.string C,.int .i64 po,.int .i64 sl,.slice D nh E]):OkV X0 245 [xW q h] g (.agg ⟨[.string C,.int .i64 po,.int .i64 sl,.slice D nh E]⟩):=
 Ok.Ao hm noT 0 EF.2 (args:=[.v (xW q h)]) (by
  refine zq ?_;intros
  repeat'((first|refine⟨_,h2,?_⟩|refine⟨_,U,?_⟩|refine⟨_,T,?_⟩|refine⟨_,rfl,V,?_⟩|refine⟨_,W 2 _ rfl,?_⟩|refine⟨_,rfl,Y,?_⟩|refine⟨_,⟨rfl,hk⟩,?_⟩|refine zI ?_ ?_|fail)<;>first|(refine zq ?_;intros)|rfl)
  all_goals(conv=>whnf)
  all_goals(first|exact zAx _|(intro aa ab;rfl)))
def qUC(g){q h}{i j k}{u w A}{B H C L D M}{P Q R T U}(h2:Rc g ⟨h,13,zc⟩ (.int .i64 i))(V:Rc g ⟨h,15,zc⟩ (.int .i64 j))(W:Rc g ⟨h,16,zc⟩ (.int .i64 k))(Y:Rc g ⟨q,4,zc⟩ (.slice (O u) B H))(aa:0<=i/\i<B)(ab:Rcs g (u.add (i.toNat*5)) [P,Q,R,.slice (O w) C L,T])(ac:0<=j/\j<C)(E:Rcs g (w.add (j.toNat*2)) [U,.slice (O A) D M])(hk:0<=k/\k<D):OkV X0 247 [xW q h] g (.pointer (O (A.add (k.toNat*3)))):=
 Ok.Ao hm noT 0 F0.2 (args:=[.v (xW q h)]) (by
  refine zq ?_;intros
  repeat'((first|refine .inl ⟨_,qoJ _ h2 V Y aa ab ac,?_⟩|refine⟨_,W,?_⟩|refine⟨_,E 1 _ rfl,?_⟩|refine⟨_,rfl,hk,?_⟩|refine zI ?_ ?_|fail)<;>first|(refine zq ?_;intros)|rfl)
  all_goals(conv=>whnf)
  all_goals(first|exact zAx _|(intro ad E;rfl)))
def qTb(g){cs q}{w}{m:Aj}(B:rWo g cs w)(hM:qeA g q m)(C:SnW w)(hb:BgW 1000000 w)(hp:0<=m.pc/\m.pc<3):Ok X0 147 [.agg ⟨cs⟩,.agg ⟨q⟩] g (HaP w m):=by
 obtain⟨D,E,H,L,M,P,Q,R,T,U,V,W,Y,aa,ab,ac,rfl,rfl,ad,ae,⟨ai,aj,ak⟩,al,an,ao,ap,aq,⟨ar,au,av,aw⟩,⟨b1,ax,ay,az⟩,⟨c1,c2,c0,aA⟩,⟨aB,aC,aD,aE⟩,⟨aF,aG,aH,aI⟩,aJ,aK,aL⟩:=qaB B hM
 exact Ok.Ao hm qID 5 AG.2 (args:=[.v (.agg ⟨wQ w D E H L M P Q R T U⟩),.v (.agg ⟨mQ m V W Y aa ab ac⟩)]) (by
  refine zq ?_;intros;refine dT sa (zq ?_);intros;refine dT sa (zq ?_);intros;refine .inr ((qJZ _ ad ae C hb).mono λaM aN aO h=>?_);obtain⟨aP,aQ,rfl,h,u⟩:=h;obtain⟨_,_,_,_,_,_,_,_,_,_,rfl⟩:=qJA h;obtain⟨_,_,_,_,_,_,rfl⟩:=qwB u;refine zq ?_;intros;intro aR A;obtain⟨af,ag,ah⟩:=qXU hp
  exact⟨_,_,by rw[ah],by rw[af];exact qCA _ _ _ _ A h,by rw[ag];exact qUA _ _ _ _ A u⟩)
def qUb(g){cs u}{w}{m:Aj}(al:rWo g cs w)(hM:qeA g u m)(an:SnW w)(hb:BgW 1000000 w)(hp:¬(0<=m.pc/\m.pc<3))(C:¬hGo w m):Ok X0 147 [.agg ⟨cs⟩,.agg ⟨u⟩] g (HaP w m):=by
 obtain⟨M,P,Q,R,T,U,V,W,Y,aa,ab,ac,ad,ae,af,ag,rfl,rfl,ah,ai,⟨av,aw,ax⟩,ay,az,aA,aB,aC,⟨aD,aE,aF,aG⟩,⟨b1,aH,aI,aJ⟩,⟨c1,c2,c0,aK⟩,⟨aL,aM,aN,aO⟩,⟨aP,aQ,aR,aT⟩,aU,aV,aW⟩:=qaB al hM
 exact Ok.Ao hm qID 5 AG.2 (args:=[.v (.agg ⟨wQ w M P Q R T U V W Y aa⟩),.v (.agg ⟨mQ m ab ac ad ae af ag⟩)]) (by
  refine zq ?_;intros
  have q:∀B,g<=B->∃cs u,Value.tuple #[.agg ⟨wQ w M P Q R T U V W Y aa⟩,.agg ⟨mQ m ab ac ad ae af ag⟩,.agg ⟨ev0.cs⟩]=.tuple #[.agg ⟨cs⟩,.agg ⟨u⟩,.agg ⟨(hsE w m).cs⟩]/\rWo B cs (hsW w m)/\qeA B u (hsM w m):=by
   intro B aj;obtain⟨ao,ap,aq⟩:=qIc C;exact⟨_,_,by rw[aq]<;>rfl,by rw[ao];exact qCA _ _ _ _ aj ah,by rw[ap];exact qUA _ _ _ _ aj ai⟩
  refine zI (λz1=>?_) (λz1=>?_);rotate_left
  .have z1:=zf z1;refine zq ?_;intros;refine dT sa (zq ?_);intros;refine q
  have z1:=ze z1;refine zq ?_;intros;refine dF sa (zq ?_);intros;refine dF sa (zq ?_);intros;refine zI (λD=>?_) (λD=>?_)
  .refine zq ?_;intros;refine q
  have D:=zf D;refine zq ?_;intros;refine .inl ⟨_,qVA _ ah ai an hb,zq ?_⟩;intros;refine zI (λak=>?_) (λak=>?_)
  .refine zq ?_;intros;refine q
  have hs:=nb0 ak;refine zq ?_;intros;refine zI (λA=>?_) (λA=>?_)
  .have A:=ze A;refine zq ?_;intros;refine zI (λE=>?_) (λE=>?_)
   .refine zq ?_;intros;refine q
   have E:=Ea E;refine zq ?_;intros;refine zI (λH=>?_) (λH=>?_)
   .refine zq ?_;intros;refine q
   have H:=Ea H;refine zq ?_;intros;refine zI (λL=>?_) (λL=>?_)
   .refine zq ?_;intros;refine q
   have L:=Ea L
   have ar:12<m.pc/\m.pc<20:=by
    apply zA3;intro au;exact C ⟨hs,sa,sa⟩
   refine zq ?_;intros;refine .inl ⟨_,qbB _,zq ?_⟩;intros;rcases(by omega:m.pc=13\/m.pc=14\/m.pc=15\/m.pc=16\/m.pc=17\/m.pc=18\/m.pc=19)with h|h|h|h|h|h|h
   .refine zw ?_;refine⟨13,⟨h,sb⟩,zq ?_⟩;intros;refine⟨λ_=>zq ?_,λh=>nomatch h⟩;intros;refine q
   .refine zw ?_;refine⟨14,⟨h,sb⟩,zq ?_⟩;intros;refine⟨λ_=>zq ?_,λh=>nomatch h⟩;intros;refine q
   .refine zw ?_;refine⟨15,⟨h,sb⟩,zq ?_⟩;intros;refine⟨λ_=>zq ?_,λh=>nomatch h⟩;intros;refine q
   .refine zw ?_;refine⟨16,⟨h,sb⟩,zq ?_⟩;intros;refine⟨λ_=>zq ?_,λh=>nomatch h⟩;intros;refine q
   .refine zw ?_;refine⟨17,⟨h,sb⟩,zq ?_⟩;intros;refine⟨λ_=>zq ?_,λh=>nomatch h⟩;intros;refine q
   .refine zw ?_;refine⟨18,⟨h,sb⟩,zq ?_⟩;intros;refine⟨λ_=>zq ?_,λh=>nomatch h⟩;intros;refine q
   .refine zw ?_;refine⟨19,⟨h,sb⟩,zq ?_⟩;intros;refine⟨λ_=>zq ?_,λh=>nomatch h⟩;intros;refine q
  .have A:=zf A
   have ar:12<m.pc/\m.pc<20:=by
    apply zA3;intro au;exact C ⟨hs,sa,sa⟩
   refine zq ?_;intros;refine .inl ⟨_,qbB _,zq ?_⟩;intros;rcases(by omega:m.pc=13\/m.pc=14\/m.pc=15\/m.pc=16\/m.pc=17\/m.pc=18\/m.pc=19)with h|h|h|h|h|h|h
   .refine zw ?_;refine⟨13,⟨h,sb⟩,zq ?_⟩;intros;refine⟨λ_=>zq ?_,λh=>nomatch h⟩;intros;refine q
   .refine zw ?_;refine⟨14,⟨h,sb⟩,zq ?_⟩;intros;refine⟨λ_=>zq ?_,λh=>nomatch h⟩;intros;refine q
   .refine zw ?_;refine⟨15,⟨h,sb⟩,zq ?_⟩;intros;refine⟨λ_=>zq ?_,λh=>nomatch h⟩;intros;refine q
   .refine zw ?_;refine⟨16,⟨h,sb⟩,zq ?_⟩;intros;refine⟨λ_=>zq ?_,λh=>nomatch h⟩;intros;refine q
   .refine zw ?_;refine⟨17,⟨h,sb⟩,zq ?_⟩;intros;refine⟨λ_=>zq ?_,λh=>nomatch h⟩;intros;refine q
   .refine zw ?_;refine⟨18,⟨h,sb⟩,zq ?_⟩;intros;refine⟨λ_=>zq ?_,λh=>nomatch h⟩;intros;refine q
   .refine zw ?_;refine⟨19,⟨h,sb⟩,zq ?_⟩;intros;refine⟨λ_=>zq ?_,λh=>nomatch h⟩;intros
    refine q)
def qbb(g){cs D}{w}{m:Aj}(W:rWo g cs w)(hM:qeA g D m)(Y:SnW w)(hb:BgW 1000000 w)(aB:SmO m)(E:hGo w m)(q:m.pc=3):Ok X0 147 [.agg ⟨cs⟩,.agg ⟨D⟩] g (HaP w m):=by
 obtain⟨B,hM9,C⟩:=qVF E sa;obtain⟨H,L,kE⟩:=ha3 q;rw[H]at B;rw[L]at hM9;rw[kE]at C;clear H L kE;have hs:=E.1;obtain⟨v,aC,aD,aE⟩:=id (Ar.1 hs);obtain⟨aa,ab,ac,ad,ae,af,ag,ah,ai,aj,ak,al,an,ao,ap,aq,rfl,rfl,M,ar,⟨aF,P,aG⟩,aH,aI,aJ,aK,aL,⟨aM,aN,aO,aP⟩,⟨b1,aQ,aR,aT⟩,⟨c1,c2,c0,aU⟩,⟨aV,aW,aX,aY⟩,⟨aZ,a0,a1,a2⟩,Q,R,T⟩:=qaB W hM
 exact Ok.Ao hm qID 5 AG.2 (args:=[.v (.agg ⟨wQ w aa ab ac ad ae af ag ah ai aj⟩),.v (.agg ⟨mQ m ak al an ao ap aq⟩)]) (by
  refine zq ?_;intros;refine dT sa (zq ?_);intros;refine dF sa (zq ?_);intros;refine dF sa (zq ?_);intros;refine dF sa (zq ?_);intros;refine .inl ⟨_,qVA _ M ar Y hb,zq ?_⟩;intros;refine⟨λh=>absurd (hs.symm.trans (nb1 h)) sb,λ_=>zq ?_⟩;intros;refine⟨λ_=>?_,λ_=>?_⟩
  case' refine_1=>
   refine zq ?_;intros;refine⟨λh=>absurd h (by simp[q]),λ_=>zq ?_⟩;intros;refine⟨λh=>absurd h (by simp[q]),λ_=>zq ?_⟩;intros;refine⟨λh=>absurd h (by simp[q]),λ_=>?_⟩
  all_goals(
   refine zq ?_;intros;refine .inl ⟨_,qbB _,zq ?_⟩;intros;refine⟨3,⟨q,sb⟩,zq ?_⟩;intros;refine⟨λau=>(nomatch au),λ_=>zq ?_⟩;intros;refine .inr ((qSA _ M hb).mono λv a3 U av=>?_);obtain⟨cs,a4,rfl,aw⟩:=av;have A:=qcA aw;obtain⟨a5,a6,a7,a8,a9,ba,bb,bc,bd,be,rfl⟩:=qJA A;unfold hM3 at hM9;have ax:=qDI A;have V:InR (qrB w.Aa m.op.listen):=q8O (by have:=hb.1.2.2.1;omega);refine zq ?_;intros;refine⟨kF,zq ?_⟩;intros
   repeat'((first|refine⟨_,λay bf az=>qIB ay (az.cel (id:=6) rfl 10 rfl),?_⟩|refine .inl ⟨_,qcH _ ax _,?_⟩|refine zI ?_ ?_|fail)<;>first|(refine zq ?_;intros)|rfl)
   all_goals(try exact zAx _)
   .intro z;rw[zk (ze z)]at hM9;refine zq ?_;intros;intro aA u;refine⟨_,_,by rw[C]<;>rfl,by rw[B];exact qCA _ _ _ _ u A,?_⟩;rw[hM9];exact⟨_,_,_,rfl,{Q with Ac:=P,Ak:=z0,An:=z0,other:=z0,slot:=z0,listen:=V,pc:=show InR (20:zn) by decide,answer:=qKF sb},R,qAA _ _ _ _ (GW.trans U u) T⟩
   .intro z;rw[zh (zf z)]at hM9;refine zq ?_;intros;intro aA u;refine⟨_,_,by rw[C]<;>rfl,by rw[B];exact qCA _ _ _ _ u A,?_⟩;rw[hM9]
    exact⟨_,_,_,rfl,{Q with Ac:=P,Ak:=z0,An:=z0,other:=z0,slot:=z0,listen:=V,pc:=show InR (4:zn) by decide},R,qAA _ _ _ _ (GW.trans U u) T⟩))
def qab(g){cs C}{w}{m:Aj}(W:rWo g cs w)(hM:qeA g C m)(Y:SnW w)(hb:BgW 1000000 w)(aQ:SmO m)(q:hGo w m)(D:m.pc=4):Ok X0 147 [.agg ⟨cs⟩,.agg ⟨C⟩] g (HaP w m):=by
 obtain⟨u,hM9,A⟩:=qVF q sa;obtain⟨E,H,kE⟩:=ha4 D;rw[E]at u;rw[H]at hM9;rw[kE]at A;clear E H kE;have hs:=q.1;obtain⟨v,aR,aT,L⟩:=id (Ar.1 hs);obtain⟨aa,ab,ac,ad,ae,af,ag,ah,ai,aj,ak,al,an,ao,ap,aq,rfl,rfl,M,ar,⟨aU,aV,aW⟩,aX,aY,aZ,a0,a1,⟨a2,a3,a4,a5⟩,⟨b1,a6,a7,a8⟩,⟨c1,c2,c0,a9⟩,⟨ba,bb,bc,bd⟩,⟨be,bf,bg,bh⟩,au,av,aw⟩:=qaB W hM
 exact Ok.Ao hm qID 5 AG.2 (args:=[.v (.agg ⟨wQ w aa ab ac ad ae af ag ah ai aj⟩),.v (.agg ⟨mQ m ak al an ao ap aq⟩)]) (by
  refine zq ?_;intros;refine dT sa (zq ?_);intros;refine dF sa (zq ?_);intros;refine dF sa (zq ?_);intros;refine dF sa (zq ?_);intros;refine .inl ⟨_,qVA _ M ar Y hb,zq ?_⟩;intros;refine⟨λh=>absurd (hs.symm.trans (nb1 h)) sb,λ_=>zq ?_⟩;intros;have bi:0<=m.listen:=by have:=q.2.2;omega
  refine zw ?_;refine dF sa (zq ?_);intros;refine zq ?_;intros;refine .inl ⟨_,qbB _,zq ?_⟩;intros;refine⟨4,⟨D,sb⟩,zq ?_⟩;intros;refine⟨λB=>(nomatch B),λ_=>zq ?_⟩;intros;refine .inr ((qSA _ M hb).mono λv bj ax ay=>?_);obtain⟨cs,bl,rfl,P⟩:=ay;have Q:=qcA P;obtain⟨bm,bn,bo,bp,bq,br,bt,bu,bv,bw,rfl⟩:=qJA Q;obtain⟨x,h⟩:=qBA (l:=w.Aa) (i:=m.listen.toNat) (by have:=L.listen;omega);have az:mL w m=x:=by unfold mL;rw[h];rfl
  rw[az]at u A;have bx:=L.listen;obtain⟨bk,cap,aA,bz,aB,aC,aD,aE,⟨aF,aG,aH,aI,aJ⟩,_,aK⟩:=qqJ P h (x':={x with Ah:=wI (x.Ah+1)}) (o:=2) (vs:=[.int .i64 (wI (x.Ah+1))]) sd (by simp[zA0]) rfl (q8A _);cases aA;obtain⟨bA,aL⟩:=qnG (qDI Q) h;refine zq ?_;intros;refine⟨kF,zq ?_⟩;intros;refine⟨_,rfl,⟨sa,sa⟩,zq ?_⟩;intros;refine⟨_,aL 2 _ rfl,zq ?_⟩;intros;refine⟨aB,aC,aD,aE,⟨aF,aG,aH,aI,aJ⟩,zq ?_⟩;intros;refine λR T=>?_;have U:=qcA (aK R T);have aM:g<=R:=T.le ax (λB=>by have:=g.wf _ B;omega);obtain⟨_,aN⟩:=qnG (qDI U) (i:=m.listen.toNat) (x:={x with Ah:=wI (x.Ah+1)}) (by simp only[zAF];simp;omega);refine zq ?_;intros;refine⟨_,aN 2 _ rfl,zq ?_⟩;intros;refine⟨_,λaO bB aP=>qIB aO (aP.2.2.1 10 _ rfl),zq ?_⟩;intros;intro bC V;refine⟨_,_,by rw[A];rfl,by rw[u];exact qCA _ _ _ _ V U,?_⟩;rw[hM9]
  exact⟨_,_,_,rfl,{au with pc:=show InR (5:zn) by decide},av,qAA _ _ _ _ (GW.trans aM V) aw⟩)
def qZb(g){cs aj}{w}{m:Aj}(aD:rWo g cs w)(hM:qeA g aj m)(ak:SnW w)(hb:BgW 1000000 w)(aE:SmO m)(ae:hGo w m)(al:m.pc=5):Ok X0 147 [.agg ⟨cs⟩,.agg ⟨aj⟩] g (HaP w m):=by
 obtain⟨M,hM9,C⟩:=qVF ae sa;obtain⟨an,ao,kE⟩:=ha5 al;rw[an]at M;rw[ao]at hM9;rw[kE]at C;clear an ao kE;have hs:=ae.1;obtain⟨v,be,bf,A⟩:=id (Ar.1 hs);obtain⟨aF,aG,aH,aI,aJ,aK,aL,aM,aN,aO,aP,aQ,aR,aT,aU,aV,rfl,rfl,ap,aW,⟨bg,bh,bi⟩,bj,bl,bm,bn,bo,⟨bp,bq,br,bt⟩,⟨b1,bu,bv,bw⟩,⟨c1,c2,c0,bx⟩,⟨bz,bA,bB,bC⟩,⟨bD,bE,bF,bG⟩,Q,H,R⟩:=qaB aD hM
 exact Ok.Ao hm qID 5 AG.2 (args:=[.v (.agg ⟨wQ w aF aG aH aI aJ aK aL aM aN aO⟩),.v (.agg ⟨mQ m aP aQ aR aT aU aV⟩)]) (by
  refine zq ?_;intros;refine dT sa (zq ?_);intros;refine dF sa (zq ?_);intros;refine dF sa (zq ?_);intros;refine dF sa (zq ?_);intros;refine .inl ⟨_,qVA _ ap aW ak hb,zq ?_⟩;intros;refine⟨λD=>absurd (hs.symm.trans (nb1 D)) sb,λ_=>zq ?_⟩;intros;have bH:0<=m.listen:=by have:=ae.2.2;omega
  refine zw ?_;refine dF sa (zq ?_);intros;refine zq ?_;intros;refine .inl ⟨_,qbB _,zq ?_⟩;intros;refine⟨5,⟨al,sb⟩,zq ?_⟩;intros;refine⟨λT=>(nomatch T),λ_=>zq ?_⟩;intros;refine .inr ((qSA _ ap hb).mono λv aq U aX=>?_);obtain⟨cs,bI,rfl,aY⟩:=aX;have E:=qcA aY;obtain⟨bJ,bK,bL,bM,bN,bO,bP,bQ,bR,bT,rfl⟩:=qJA E;obtain⟨x,D⟩:=qBA (l:=w.Aa) (i:=m.listen.toNat) (by have:=A.listen;omega);have aZ:mL w m=x:=by unfold mL;rw[D];rfl
  have bU:=A.listen;have a0:0<=m.listen/\m.listen<w.Aa.length:=sa
  have ar:=qDI E;obtain⟨bW,rfl⟩:=qYA ar D;obtain⟨bX,a1⟩:=qnG ar D;unfold hM5 at hM9;unfold hE5 at C;rw[aZ]at hM9 C;refine zq ?_;intros;refine⟨kF,zq ?_⟩;intros
  repeat'((first|refine⟨_,rfl,a0,zq ?_⟩|refine⟨_,a1 1 _ rfl,zq ?_⟩|rfl)<;>intros)
  refine zI (λz=>?_) (λz=>?_)
  .rw[zk z]at hM9 C;refine zq ?_;intros
   repeat'((first|refine⟨_,λq B h=>qIB q (h.cel (id:=6) rfl 10 rfl),?_⟩|refine zI ?_ ?_|fail)<;>first|(refine zq ?_;intros)|rfl)
   all_goals(conv=>whnf)
   all_goals(first|exact zAx _|(
   intro W u;refine⟨_,_,by rw[C]<;>rfl,by rw[M];exact qCA _ _ _ _ u E,?_⟩;rw[hM9]
   exact⟨_,_,_,rfl,{Q with pc:=show InR (20:zn) by decide,answer:=qKF sb},H,qAA _ _ _ _ (GW.trans U u) R⟩))
  .rw[zh (by rw[z];decide)]at hM9 C;have au:=qdJ E;obtain⟨bY,rfl⟩:=qYA au A.ver.2;obtain⟨bZ,b0,b2,b3,b4,b5,b6,b7,Y,a2,av,aw⟩:=qWF au A.ver.2;obtain⟨b8,rfl⟩:=qYA aw A.clu.2;obtain⟨b9,cE,ca,cb,ax⟩:=qqH aw A.clu.2;obtain⟨cc,rfl⟩:=qYA ax A.An.2;obtain⟨cd,ce,cf,cg,ch⟩:=qpG ax A.An.2;obtain⟨aa,ci,cj⟩:=A.idx;obtain⟨ay,ck,cm⟩:=A.at_;simp only[qFQ,ay]at hM9;have az:=ak v (zl A.ver.2);obtain⟨P,cn,a3,a4⟩:=qCX v.AO m.op.listen m.op.Bp m.op.path;have a5:=(q9T aq a2 m.op.listen m.op.Bp m.op.path ⟨λr aA=>⟨by have:=(az.2 r aA).1;omega,by have:=(az.2 r aA).2;omega⟩,aE⟩).to a3;have a6:=Y.sub 0 3;refine zq ?_;intros
   repeat'((first|refine⟨_,rfl,aa,zq ?_⟩|refine⟨_,⟨rfl,a6⟩,zq ?_⟩|refine .inl ⟨_,a5,zq ?_⟩|rfl)<;>intros)
   rcases a4 with⟨rfl,ab⟩|⟨a7,ab⟩
   rotate_left
   .refine zI (λ_=>?_) (λD=>absurd D (by simpa using a7));simp only[ab]at hM9;refine zq ?_;intros
    repeat'((first|refine⟨_,λq B h=>qIB q (h.cel (id:=6) rfl 10 rfl),?_⟩|refine zI ?_ ?_|fail)<;>first|(refine zq ?_;intros)|rfl)
    all_goals(conv=>whnf)
    all_goals(first|exact zAx _|(
    intro W u;refine⟨_,_,by rw[C]<;>rfl,by rw[M];exact qCA _ _ _ _ u E,?_⟩;rw[hM9]
    exact⟨_,_,_,rfl,{Q with pc:=show InR (20:zn) by decide,answer:=qKF sb},H,qAA _ _ _ _ (GW.trans U u) R⟩))
   refine zI (λD=>absurd D sd) (λ_=>?_);have V:=qkB A.right A.ver.2;have af:=q0Q V.AJ ab;obtain⟨L,ac⟩:=qBA (l:=v.AO.Ad) (i:=P.toNat) sa;obtain⟨co,a8⟩:=qBA (l:=v.Am) (i:=P.toNat) (by have:=V.len;omega);have a9:mC w {m with Ak:=P}=L:=by unfold mC;rw[show mV w {m with Ak:=P}=v from ay];show(v.AO.Ad[P.toNat]?).getD _=_;rw[ac];rfl
   simp only[ab,a9]at hM9;obtain⟨cp,ba,cq,_,cr,_,_⟩:=V.ends a8;cases ac.symm.trans ba;have ag:L.AA.length<=17592186044416:=sa
   obtain⟨ct,rfl⟩:=qYA av ac;obtain⟨_,_,aB,ah⟩:=qgI av ac;obtain⟨cu,rfl,cv,_,bb⟩:=id aB;obtain⟨cw,cx,rfl,_⟩:=id bb;have ai:InR P:=by have:=V.len;have:=V.Am;unfold InR;omega
   have aC:=qQZ aq aB ag H.2.1 H.2.2.1;by_cases ad:qLA L=[]
   .have bc:=aC.to (v':=.tuple #[.int .i64 (q3F L m.op.d0),.int .i64 (q3F L m.op.d1),.int .i64 5]) (by simp[IZ,ad]);rw[zk ad]at hM9;refine zq ?_;intros
    repeat'((first|refine⟨_,λq B h=>q2E q (h.cel (id:=6) rfl 13 rfl) (h.cel (id:=6) rfl 15 rfl) (h.cel (id:=5) rfl 4 rfl) aa (Y.mono B) af (ah.mono B),zq ?_⟩|refine .inl ⟨_,bc,zq ?_⟩|rfl)<;>intros)
    refine⟨λ_=>zq ?_,λT=>nomatch T⟩;intros
    repeat'((first|refine⟨_,λq B h=>qIB q (h.cel (id:=6) rfl 10 rfl),?_⟩|refine zI ?_ ?_|fail)<;>first|(refine zq ?_;intros)|rfl)
    all_goals(conv=>whnf)
    all_goals(first|exact zAx _|(
    intro W u;refine⟨_,_,by rw[C]<;>rfl,by rw[M];exact qCA _ _ _ _ u E,?_⟩;rw[hM9]
    exact⟨_,_,_,rfl,{Q with Ak:=ai,pc:=show InR (20:zn) by decide,answer:=qKF sb},H,qAA _ _ _ _ (GW.trans U u) R⟩))
   .have bd:=aC.to (v':=.tuple #[.int .i64 (q3F L m.op.d0),.int .i64 (q3F L m.op.d1),.int .i64 0]) (by simp[IZ,ad]);rw[zh ad]at hM9;refine zq ?_;intros
    repeat'((first|refine⟨_,λq B h=>q2E q (h.cel (id:=6) rfl 13 rfl) (h.cel (id:=6) rfl 15 rfl) (h.cel (id:=5) rfl 4 rfl) aa (Y.mono B) af (ah.mono B),zq ?_⟩|refine .inl ⟨_,bd,zq ?_⟩|rfl)<;>intros)
    refine⟨λT=>(nomatch T),λ_=>zq ?_⟩;intros
    repeat'((first|refine⟨_,λq B h=>q2E q (h.cel (id:=6) rfl 13 rfl) (h.cel (id:=6) rfl 15 rfl) (h.cel (id:=5) rfl 4 rfl) aa (Y.mono B) af (ah.mono B),zq ?_⟩|rfl)<;>intros)
    refine zI (λz=>?_) (λz=>?_)
    .rw[zk (B9 z)]at hM9;refine zq ?_;intros
     repeat'((first|refine⟨_,λq B h=>qIB q (h.cel (id:=6) rfl 10 rfl),?_⟩|refine zI ?_ ?_|fail)<;>first|(refine zq ?_;intros)|rfl)
     all_goals(conv=>whnf)
     all_goals(first|exact zAx _|(
     intro W u;refine⟨_,_,by rw[C]<;>rfl,by rw[M];exact qCA _ _ _ _ u E,?_⟩;rw[hM9]
     exact⟨_,_,_,rfl,{Q with Ak:=ai,pc:=show InR (6:zn) by decide},H,qAA _ _ _ _ (GW.trans U u) R⟩))
    .rw[zh (Ea z)]at hM9;refine zq ?_;intros
     repeat'((first|refine⟨_,λq B h=>qIB q (h.cel (id:=6) rfl 10 rfl),?_⟩|refine zI ?_ ?_|fail)<;>first|(refine zq ?_;intros)|rfl)
     all_goals(conv=>whnf)
     all_goals(first|exact zAx _|(
     intro W u;refine⟨_,_,by rw[C]<;>rfl,by rw[M];exact qCA _ _ _ _ u E,?_⟩;rw[hM9]
     exact⟨_,_,_,rfl,{Q with Ak:=ai,An:=q5Q ag,other:=q5Q ag,pc:=show InR (7:zn) by decide},H,qAA _ _ _ _ (GW.trans U u) R⟩)))
def qYb(g){cs T}{w}{m:Aj}(aq:rWo g cs w)(hM:qeA g T m)(ar:SnW w)(hb:BgW 1000000 w)(P:SmO m)(U:hGo w m)(C:m.pc=6):Ok X0 147 [.agg ⟨cs⟩,.agg ⟨T⟩] g (HaP w m):=by
 obtain⟨E,hM9,H⟩:=qVF U sa;obtain⟨V,W,kE⟩:=ha6 C;rw[V]at E;rw[W]at hM9;rw[kE]at H;clear V W kE;have hs:=U.1;obtain⟨v,u,bd,h⟩:=id (Ar.1 hs);obtain⟨au,av,aw,ax,ay,az,aA,aB,aC,aD,aE,aF,aG,aH,aI,aJ,rfl,rfl,Y,aK,⟨be,bf,bg⟩,bh,bi,bj,bl,bm,⟨bn,bo,bp,bq⟩,⟨b1,aL,br,bt⟩,⟨c1,c2,c0,bu⟩,⟨bv,bw,bx,bz⟩,⟨bA,bB,bC,bD⟩,aM,aN,aO⟩:=qaB aq hM
 exact Ok.Ao hm qID 5 AG.2 (args:=[.v (.agg ⟨wQ w au av aw ax ay az aA aB aC aD⟩),.v (.agg ⟨mQ m aE aF aG aH aI aJ⟩)]) (by
  refine zq ?_;intros;refine dT sa (zq ?_);intros;refine dF sa (zq ?_);intros;refine dF sa (zq ?_);intros;refine dF sa (zq ?_);intros;refine .inl ⟨_,qVA _ Y aK ar hb,zq ?_⟩;intros;refine⟨λA=>absurd (hs.symm.trans (nb1 A)) sb,λ_=>zq ?_⟩;intros;refine⟨λ_=>?_,λ_=>?_⟩
  case' refine_1=>
   refine zq ?_;intros;refine⟨λA=>absurd A (by simp[C]),λ_=>zq ?_⟩;intros;refine⟨λA=>absurd A (by simp[C]),λ_=>zq ?_⟩;intros;refine⟨λA=>absurd A (by simp[C]),λ_=>?_⟩
  all_goals(
   refine zq ?_;intros;refine .inl ⟨_,qbB _,zq ?_⟩;intros;refine⟨6,⟨C,sb⟩,zq ?_⟩;intros;refine⟨λQ=>(nomatch Q),λ_=>zq ?_⟩;intros;refine .inr ((qSA _ Y hb).mono λv bE aP aQ=>?_);obtain⟨cs,bF,rfl,aa⟩:=aQ;have ab:=qcA aa;obtain⟨bG,bH,bI,bJ,bK,bL,bM,bN,bO,bP,rfl⟩:=qJA ab;obtain⟨b1,bQ,aL,bR,bT,bU,bW,bX,bY,aR,aT,aU,aV,bZ,aW,_⟩:=q4E aa h.ver.2 h.clu.2;cases aR;have b0:=(qMH ab h.ver.2 h.clu.2 h.An.2).1;obtain⟨aX,aY,aZ,a0,⟨L,a1,ac,a2,ad⟩,_,a3⟩:=aW (wU (u.AQ+1)) (qlS _);obtain⟨ae,af,b2⟩:=h.idx;obtain⟨a4,a5,b3⟩:=h.at_;have M:=h.cl;rw[a5]at E hM9 H;simp only[evV,a4]at E H;refine zq ?_;intros;refine⟨kF,zq ?_⟩;intros
   repeat'((first|refine⟨_,λD B q=>qoJ D (q.cel (id:=6) rfl 13 rfl) (q.cel (id:=6) rfl 15 rfl) (q.cel (id:=5) rfl 4 rfl) ae (aT.mono B) af,?_⟩|refine⟨_,aU 0 _ rfl,?_⟩|refine zI ?_ ?_|fail)<;>first|(refine zq ?_;intros)|rfl)
   refine⟨aX,aY,aZ,a0,⟨by first|exact L|(rw[<-L];rfl)|(rw[<-L,qgB]),a1,ac,a2,ad⟩,zq ?_⟩;intros;refine λag R=>?_;have ah:=qcA (a3 ag R);have a6:g<=ag:=R.le aP (λQ=>by have:=g.wf _ Q;omega);have a7:=R.rd ac ad;rw[<-L]at a7;have a8:=qhA (y:=({v with Am:=v.Am.set m.Ak.toNat ({u with AQ:=wU (u.AQ+1)}:Bm)}:AL)) h.ver.2;have ai:=qhA (y:=({u with AQ:=wU (u.AQ+1)}:Bm)) h.clu.2;have a9:=qdJ ah;obtain⟨b4,b5,b6,b7,b8,b9,ca,cb,aj,cc,ak,al⟩:=qWF a9 a8;obtain⟨cd,rfl⟩:=qYA al ai;obtain⟨ce,cf,cg,_,ch⟩:=qqH al ai;have an:0<=m.Ac/\m.Ac<w.Ab.length:=ae;have ci:0<=m.Ak/\m.Ak<((v.Am.set m.Ak.toNat ({u with AQ:=wU (u.AQ+1)}:Bm)).length:Z):=by simpa only[zX]using af
   obtain⟨cj,rfl⟩:=qYA ak M.1;obtain⟨_,_,ao,ba⟩:=qgI ak M.1;obtain⟨ck,rfl,_,_,bb⟩:=id ao;obtain⟨cm,cn,rfl,_⟩:=id bb;have bc:0<=m.Ak/\m.Ak<v.AO.Ad.length:=⟨h.clu.1,by have:=(zd.1 M.1).1;omega⟩;obtain⟨_,_,_,_,co,_⟩:=(qkB h.right h.ver.2).ends h.clu.2;have P:(mC w m).AA.length<=17592186044416:=by have:=M.2;omega
   refine zq ?_;intros
   repeat'((first|refine⟨_,λD B q=>q2E D (q.cel (id:=6) rfl 13 rfl) (q.cel (id:=6) rfl 15 rfl) (q.cel (id:=5) rfl 4 rfl) an (aj.mono B) bc (ba.mono B),?_⟩|refine .inl ⟨_,qIZ _ ao P aV,?_⟩|refine⟨_,λD B q=>qkD D (q.cel (id:=6) rfl 10 rfl) (q.cel (id:=6) rfl 13 rfl) (q.cel (id:=5) rfl 4 rfl) an (aj.mono B),?_⟩|refine zI ?_ ?_|fail)<;>first|(refine zq ?_;intros)|rfl)
   all_goals(conv=>whnf)
   all_goals(first|exact zAx _|(
   intro cp ap;refine⟨_,_,by rw[H]<;>rfl,by rw[E];exact qCA _ _ _ _ ap ah,?_⟩;rw[hM9]
   exact⟨_,_,_,rfl,{aM with An:=qsP P,pc:=show InR (9:zn) by decide},aN,qAA _ _ _ _ (GW.trans a6 ap) aO⟩))))
def qXb(g){cs H}{w}{m:Aj}(ab:rWo g cs w)(hM:qeA g H m)(ac:SnW w)(hb:BgW 1000000 w)(aL:SmO m)(L:hGo w m)(A:m.pc=7):Ok X0 147 [.agg ⟨cs⟩,.agg ⟨H⟩] g (HaP w m):=by
 obtain⟨M,hM9,B⟩:=qVF L sa;obtain⟨P,Q,kE⟩:=ha7 A;rw[P]at M;rw[Q]at hM9;rw[kE]at B;clear P Q kE;have hs:=L.1;obtain⟨v,aM,aN,h⟩:=id (Ar.1 hs);obtain⟨ad,ae,af,ag,ah,ai,aj,ak,al,an,ao,ap,aq,ar,au,av,rfl,rfl,R,aw,⟨aO,aP,aQ⟩,aR,aT,aU,aV,aW,⟨aX,aY,aZ,a0⟩,⟨b1,a1,a2,a3⟩,⟨c1,c2,c0,a4⟩,⟨a5,a6,a7,a8⟩,⟨a9,ba,bb,bc⟩,ax,ay,az⟩:=qaB ab hM
 exact Ok.Ao hm qID 5 AG.2 (args:=[.v (.agg ⟨wQ w ad ae af ag ah ai aj ak al an⟩),.v (.agg ⟨mQ m ao ap aq ar au av⟩)]) (by
  refine zq ?_;intros;refine dT sa (zq ?_);intros;refine dF sa (zq ?_);intros;refine dF sa (zq ?_);intros;refine dF sa (zq ?_);intros;refine .inl ⟨_,qVA _ R aw ac hb,zq ?_⟩;intros;refine⟨λu=>absurd (hs.symm.trans (nb1 u)) sb,λ_=>zq ?_⟩;intros;refine⟨λ_=>?_,λ_=>?_⟩
  case' refine_1=>
   refine zq ?_;intros;refine⟨λu=>absurd u (by simp[A]),λ_=>zq ?_⟩;intros;refine⟨λu=>absurd u (by simp[A]),λ_=>zq ?_⟩;intros;refine⟨λu=>absurd u (by simp[A]),λ_=>?_⟩
  all_goals(
   refine zq ?_;intros;refine .inl ⟨_,qbB _,zq ?_⟩;intros;refine⟨7,⟨A,sb⟩,zq ?_⟩;intros;refine⟨λaA=>(nomatch aA),λ_=>zq ?_⟩;intros;refine .inr ((qSA _ R hb).mono λv bd aB aC=>?_);obtain⟨cs,be,rfl,aD⟩:=aC;have D:=qcA aD;obtain⟨bf,bg,bh,bi,bj,bl,bm,bn,bo,bp,rfl⟩:=qJA D;have T:=qdJ D;obtain⟨bq,rfl⟩:=qYA T h.ver.2;obtain⟨br,bt,bu,bv,bw,bx,bz,bA,U,bB,bC,V⟩:=qWF T h.ver.2;obtain⟨bD,rfl⟩:=qYA V h.clu.2;obtain⟨bE,cE,aE,bF,W⟩:=qqH V h.clu.2;obtain⟨bG,rfl⟩:=qYA W h.An.2;obtain⟨bH,bI,aF,aG,bJ⟩:=qpG W h.An.2;obtain⟨Y,aH,aI⟩:=h.idx;obtain⟨aJ,bK,aK⟩:=h.at_;rw[aK]at hM9 B;simp only[evV,aJ]at B;refine zq ?_;intros;refine⟨kF,zq ?_⟩;intros
   repeat'((first|refine⟨_,λE C q=>qUC E (q.cel (id:=6) rfl 13 rfl) (q.cel (id:=6) rfl 15 rfl) (q.cel (id:=6) rfl 16 rfl) (q.cel (id:=5) rfl 4 rfl) Y (U.mono C) aH (aE.mono C) aI,?_⟩|refine⟨_,aF 2 _ rfl,?_⟩|refine⟨_,λE C q=>qkD E (q.cel (id:=6) rfl 10 rfl) (q.cel (id:=6) rfl 13 rfl) (q.cel (id:=5) rfl 4 rfl) Y (U.mono C),?_⟩|refine zI ?_ ?_|fail)<;>first|(refine zq ?_;intros)|rfl)
   all_goals(conv=>whnf)
   all_goals(first|exact zAx _|(
   intro bL aa;refine⟨_,_,by rw[B]<;>rfl,by rw[M];exact qCA _ _ _ _ aa D,?_⟩;rw[hM9]
   exact⟨_,_,_,rfl,{ax with i:=aG.2.1,pc:=show InR (8:zn) by decide},ay,qAA _ _ _ _ (GW.trans aB aa) az⟩))))
def qWb(g){cs M}{w}{m:Aj}(ad:rWo g cs w)(hM:qeA g M m)(ae:SnW w)(hb:BgW 1000000 w)(aO:SmO m)(P:hGo w m)(A:m.pc=8):Ok X0 147 [.agg ⟨cs⟩,.agg ⟨M⟩] g (HaP w m):=by
 obtain⟨Q,hM9,B⟩:=qVF P sa;obtain⟨R,T,kE⟩:=ha8 A;rw[R]at Q;rw[T]at hM9;rw[kE]at B;clear R T kE;have hs:=P.1;obtain⟨v,af,aP,h⟩:=id (Ar.1 hs);obtain⟨ag,ah,ai,aj,ak,al,an,ao,ap,aq,ar,au,av,aw,ax,ay,rfl,rfl,U,az,⟨aQ,aR,aT⟩,aU,aV,aW,aX,aY,⟨aZ,a0,a1,a2⟩,⟨b1,a3,a4,a5⟩,⟨c1,c2,c0,a6⟩,⟨a7,a8,a9,ba⟩,⟨bb,bc,bd,be⟩,C,aA,aB⟩:=qaB ad hM
 exact Ok.Ao hm qID 5 AG.2 (args:=[.v (.agg ⟨wQ w ag ah ai aj ak al an ao ap aq⟩),.v (.agg ⟨mQ m ar au av aw ax ay⟩)]) (by
  refine zq ?_;intros;refine dT sa (zq ?_);intros;refine dF sa (zq ?_);intros;refine dF sa (zq ?_);intros;refine dF sa (zq ?_);intros;refine .inl ⟨_,qVA _ U az ae hb,zq ?_⟩;intros;refine⟨λq=>absurd (hs.symm.trans (nb1 q)) sb,λ_=>zq ?_⟩;intros;refine⟨λ_=>?_,λ_=>?_⟩
  case' refine_1=>
   refine zq ?_;intros;refine⟨λq=>absurd q (by simp[A]),λ_=>zq ?_⟩;intros;refine⟨λq=>absurd q (by simp[A]),λ_=>zq ?_⟩;intros;refine⟨λq=>absurd q (by simp[A]),λ_=>?_⟩
  all_goals(
   refine zq ?_;intros;refine .inl ⟨_,qbB _,zq ?_⟩;intros;refine⟨8,⟨A,sb⟩,zq ?_⟩;intros;refine⟨λaC=>(nomatch aC),λ_=>zq ?_⟩;intros;refine .inr ((qSA _ U hb).mono λv bf aD aE=>?_);obtain⟨cs,bg,rfl,aF⟩:=aE;have D:=qcA aF;obtain⟨bh,bi,bj,bl,bm,bn,bo,bp,bq,br,rfl⟩:=qJA D;have V:=qdJ D;obtain⟨bt,rfl⟩:=qYA V h.ver.2;obtain⟨bu,bv,bw,bx,bz,bA,bB,bC,W,bD,bE,Y⟩:=qWF V h.ver.2;obtain⟨bF,rfl⟩:=qYA Y h.clu.2;obtain⟨bG,cE,aG,bH,E⟩:=qqH Y h.clu.2;obtain⟨bI,rfl⟩:=qYA E h.An.2;obtain⟨bJ,bK,bL,bM,bN⟩:=qpG E h.An.2;obtain⟨aa,aH,bO⟩:=h.idx;obtain⟨aI,aJ,bP⟩:=h.at_;obtain⟨aK,ab⟩:=qBA (l:=af.ends) (i:=m.other.toNat) (by have:=h.other;omega);obtain⟨bQ,bR,aL,bT,_⟩:=qpG E ab;have aM:mE w m m.other=aK:=by unfold mE;rw[aJ,ab];rfl
   have aN:=h.other;rw[aM]at hM9 B;simp only[evV,aI]at B;refine zq ?_;intros;refine⟨kF,zq ?_⟩;intros
   repeat'((first|refine⟨_,λH L u=>qoJ H (u.cel (id:=6) rfl 13 rfl) (u.cel (id:=6) rfl 15 rfl) (u.cel (id:=5) rfl 4 rfl) aa (W.mono L) aH,?_⟩|refine⟨_,aG 1 _ rfl,?_⟩|refine⟨_,rfl,aN,?_⟩|refine⟨_,aL 2 _ rfl,?_⟩|refine .inl ⟨_,qNZ _,?_⟩|refine⟨_,λH L u=>qkD H (u.cel (id:=6) rfl 10 rfl) (u.cel (id:=6) rfl 13 rfl) (u.cel (id:=5) rfl 4 rfl) aa (W.mono L),?_⟩|refine zI ?_ ?_|fail)<;>first|(refine zq ?_;intros)|rfl)
   all_goals(conv=>whnf)
   all_goals(first|exact zAx _|(
   intro bU ac;refine⟨_,_,by rw[B]<;>rfl,by rw[Q];exact qCA _ _ _ _ ac D,?_⟩;rw[hM9]
   exact⟨_,_,_,rfl,{C with An:=q1W C.An C.other,pc:=show InR (9:zn) by decide},aA,qAA _ _ _ _ (GW.trans aD ac) aB⟩))))
def qVb(g){cs ad}{w}{m:Aj}(ao:rWo g cs w)(hM:qeA g ad m)(ap:SnW w)(hb:BgW 1000000 w)(aO:SmO m)(ae:hGo w m)(L:m.pc=9):Ok X0 147 [.agg ⟨cs⟩,.agg ⟨ad⟩] g (HaP w m):=by
 obtain⟨W,hM9,H⟩:=qVF ae sa;obtain⟨af,ag,kE⟩:=ha9 L;rw[af]at W;rw[ag]at hM9;rw[kE]at H;clear af ag kE;have hs:=ae.1;obtain⟨v,aP,ah,A⟩:=id (Ar.1 hs);obtain⟨aq,ar,au,av,aw,ax,ay,az,aA,aB,aC,aD,aE,aF,aG,aH,rfl,rfl,ai,aI,⟨aQ,aR,aT⟩,aU,aV,aW,aX,aY,⟨aZ,a0,a1,a2⟩,⟨b1,a3,a4,a5⟩,⟨c1,c2,c0,a6⟩,⟨a7,a8,a9,ba⟩,⟨bb,bc,bd,be⟩,Y,aa,ab⟩:=qaB ao hM
 exact Ok.Ao hm qID 5 AG.2 (args:=[.v (.agg ⟨wQ w aq ar au av aw ax ay az aA aB⟩),.v (.agg ⟨mQ m aC aD aE aF aG aH⟩)]) (by
  refine zq ?_;intros;refine dT sa (zq ?_);intros;refine dF sa (zq ?_);intros;refine dF sa (zq ?_);intros;refine dF sa (zq ?_);intros;refine .inl ⟨_,qVA _ ai aI ap hb,zq ?_⟩;intros;refine⟨λE=>absurd (hs.symm.trans (nb1 E)) sb,λ_=>zq ?_⟩;intros;refine⟨λ_=>?_,λ_=>?_⟩
  case' refine_1=>
   refine zq ?_;intros;refine⟨λE=>absurd E (by simp[L]),λ_=>zq ?_⟩;intros;refine⟨λE=>absurd E (by simp[L]),λ_=>zq ?_⟩;intros;refine⟨λE=>absurd E (by simp[L]),λ_=>?_⟩
  all_goals(
   refine zq ?_;intros;refine .inl ⟨_,qbB _,zq ?_⟩;intros;refine⟨9,⟨L,sb⟩,zq ?_⟩;intros;refine⟨λaJ=>(nomatch aJ),λ_=>zq ?_⟩;intros;refine .inr ((qSA _ ai hb).mono λv bf ac aK=>?_);obtain⟨cs,bg,rfl,aL⟩:=aK;have M:=qcA aL;obtain⟨bh,bi,bj,bl,bm,bn,bo,bp,bq,br,rfl⟩:=qJA M;have aj:=qdJ M;obtain⟨bt,rfl⟩:=qYA aj A.ver.2;obtain⟨bu,bv,bw,bx,bz,bA,bB,bC,B,bD,bE,ak⟩:=qWF aj A.ver.2;obtain⟨bF,rfl⟩:=qYA ak A.clu.2;obtain⟨bG,cE,P,bH,al⟩:=qqH ak A.clu.2;obtain⟨bI,rfl⟩:=qYA al A.An.2;obtain⟨bJ,bK,Q,R,bL⟩:=qpG al A.An.2;obtain⟨C,T,U⟩:=A.idx;obtain⟨aM,bM,aN⟩:=A.at_;unfold Go.Proofs.YtlmhpamhhgogaaaGreat.Sx.hM9 at hM9;rw[aN]at hM9 H;simp only[evV,aM]at H;have bN:=qpQ ah.head;have bO:=R.2.2;refine zq ?_;intros;refine⟨kF,zq ?_⟩;intros
   repeat'((first|refine⟨_,λu q h=>qUC u (h.cel (id:=6) rfl 13 rfl) (h.cel (id:=6) rfl 15 rfl) (h.cel (id:=6) rfl 16 rfl) (h.cel (id:=5) rfl 4 rfl) C (B.mono q) T (P.mono q) U,?_⟩|refine⟨_,Q 0 _ rfl,?_⟩|refine .inl ⟨_,q2B _ R.1,?_⟩|refine zI ?_ ?_|fail)<;>first|(refine zq ?_;intros)|rfl)
   all_goals(try exact zAx _)
   .intro z;have z:=ze z;rw[zh sa]at hM9;refine zq ?_;intros
    repeat'((first|refine⟨_,λu q h=>qUC u (h.cel (id:=6) rfl 13 rfl) (h.cel (id:=6) rfl 15 rfl) (h.cel (id:=6) rfl 16 rfl) (h.cel (id:=5) rfl 4 rfl) C (B.mono q) T (P.mono q) U,?_⟩|refine⟨_,Q 0 _ rfl,?_⟩|refine⟨_,λu q h=>qkD u (h.cel (id:=6) rfl 10 rfl) (h.cel (id:=6) rfl 13 rfl) (h.cel (id:=5) rfl 4 rfl) C (B.mono q),?_⟩|refine zI ?_ ?_|fail)<;>first|(refine zq ?_;intros)|rfl)
    all_goals(conv=>whnf)
    all_goals(first|exact zAx _|(
    intro an D;refine⟨_,_,by rw[H]<;>rfl,by rw[W];exact qCA _ _ _ _ D M,?_⟩;rw[hM9]
    exact⟨_,_,_,rfl,{Y with word:=R.1,pc:=show InR (20:zn) by decide,answer:=qKF sb},aa,qAA _ _ _ _ (GW.trans ac D) ab⟩))
   .intro z;have z:=zf z;refine zq ?_;intros
    repeat'((first|refine⟨_,λu q h=>qUC u (h.cel (id:=6) rfl 13 rfl) (h.cel (id:=6) rfl 15 rfl) (h.cel (id:=6) rfl 16 rfl) (h.cel (id:=5) rfl 4 rfl) C (B.mono q) T (P.mono q) U,zq ?_⟩|refine⟨_,Q 1 _ rfl,zq ?_⟩|rfl)<;>intros)
    refine zI (λV=>?_) (λV=>?_)
    .have V:=ze V;rw[zh sa]at hM9;refine zq ?_;intros
     repeat'((first|refine⟨_,λu q h=>qUC u (h.cel (id:=6) rfl 13 rfl) (h.cel (id:=6) rfl 15 rfl) (h.cel (id:=6) rfl 16 rfl) (h.cel (id:=5) rfl 4 rfl) C (B.mono q) T (P.mono q) U,?_⟩|refine⟨_,Q 0 _ rfl,?_⟩|refine⟨_,λu q h=>qkD u (h.cel (id:=6) rfl 10 rfl) (h.cel (id:=6) rfl 13 rfl) (h.cel (id:=5) rfl 4 rfl) C (B.mono q),?_⟩|refine zI ?_ ?_|fail)<;>first|(refine zq ?_;intros)|rfl)
     all_goals(conv=>whnf)
     all_goals(first|exact zAx _|(
     intro an D;refine⟨_,_,by rw[H]<;>rfl,by rw[W];exact qCA _ _ _ _ D M,?_⟩;rw[hM9]
     exact⟨_,_,_,rfl,{Y with word:=R.1,pc:=show InR (20:zn) by decide,answer:=qKF sb},aa,qAA _ _ _ _ (GW.trans ac D) ab⟩))
    .have V:=zf V;rw[zk sa]at hM9;refine zq ?_;intros
     repeat'((first|refine⟨_,λu q h=>qUC u (h.cel (id:=6) rfl 13 rfl) (h.cel (id:=6) rfl 15 rfl) (h.cel (id:=6) rfl 16 rfl) (h.cel (id:=5) rfl 4 rfl) C (B.mono q) T (P.mono q) U,?_⟩|refine⟨_,Q 0 _ rfl,?_⟩|refine⟨_,λu q h=>qkD u (h.cel (id:=6) rfl 10 rfl) (h.cel (id:=6) rfl 13 rfl) (h.cel (id:=5) rfl 4 rfl) C (B.mono q),?_⟩|refine zI ?_ ?_|fail)<;>first|(refine zq ?_;intros)|rfl)
     all_goals(conv=>whnf)
     all_goals(first|exact zAx _|(
     intro an D;refine⟨_,_,by rw[H]<;>rfl,by rw[W];exact qCA _ _ _ _ D M,?_⟩;rw[hM9]
     exact⟨_,_,_,rfl,{Y with word:=R.1,slot:=show InR (By ah.head) by unfold InR;omega,pc:=show InR (10:zn) by decide},aa,qAA _ _ _ _ (GW.trans ac D) ab⟩))))
def qBZ(g){cs L}{w}{m:Aj}(ad:rWo g cs w)(hM:qeA g L m)(ae:SnW w)(hb:BgW 1000000 w)(aQ:SmO m)(M:hGo w m)(A:m.pc=10):Ok X0 147 [.agg ⟨cs⟩,.agg ⟨L⟩] g (HaP w m):=by
 obtain⟨P,hM9,B⟩:=qVF M sa;obtain⟨Q,R,kE⟩:=LO A;rw[Q]at P;rw[R]at hM9;rw[kE]at B;clear Q R kE;have hs:=M.1;obtain⟨v,aR,af,h⟩:=id (Ar.1 hs);obtain⟨ag,ah,ai,aj,ak,al,an,ao,ap,aq,ar,au,av,aw,ax,ay,rfl,rfl,T,az,⟨aT,aU,aV⟩,aW,aX,aY,aZ,a0,⟨a1,a2,a3,a4⟩,⟨b1,a5,a6,a7⟩,⟨c1,c2,c0,a8⟩,⟨a9,ba,bb,bc⟩,⟨bd,be,bf,bg⟩,aA,aB,aC⟩:=qaB ad hM
 exact Ok.Ao hm qID 5 AG.2 (args:=[.v (.agg ⟨wQ w ag ah ai aj ak al an ao ap aq⟩),.v (.agg ⟨mQ m ar au av aw ax ay⟩)]) (by
  refine zq ?_;intros;refine dT sa (zq ?_);intros;refine dF sa (zq ?_);intros;refine dF sa (zq ?_);intros;refine dF sa (zq ?_);intros;refine .inl ⟨_,qVA _ T az ae hb,zq ?_⟩;intros;refine⟨λu=>absurd (hs.symm.trans (nb1 u)) sb,λ_=>zq ?_⟩;intros;refine⟨λ_=>?_,λ_=>?_⟩
  case' refine_1=>
   refine zq ?_;intros;refine⟨λu=>absurd u (by simp[A]),λ_=>zq ?_⟩;intros;refine⟨λu=>absurd u (by simp[A]),λ_=>zq ?_⟩;intros;refine⟨λu=>absurd u (by simp[A]),λ_=>?_⟩
  all_goals(
   refine zq ?_;intros;refine .inl ⟨_,qbB _,zq ?_⟩;intros;refine⟨10,⟨A,sb⟩,zq ?_⟩;intros;refine⟨λaD=>(nomatch aD),λ_=>zq ?_⟩;intros;refine .inr ((qSA _ T hb).mono λv bh aE aF=>?_);obtain⟨cs,bi,rfl,aG⟩:=aF;have D:=qcA aG;obtain⟨bj,bl,bm,bn,bo,bp,bq,br,bt,bu,rfl⟩:=qJA D;have U:=qdJ D;obtain⟨bv,rfl⟩:=qYA U h.ver.2;obtain⟨bw,bx,bz,bA,bB,bC,bD,bE,V,bF,bG,W⟩:=qWF U h.ver.2;obtain⟨bH,rfl⟩:=qYA W h.clu.2;obtain⟨bI,cE,aH,bJ,Y⟩:=qqH W h.clu.2;obtain⟨bK,rfl⟩:=qYA Y h.An.2;obtain⟨bL,bM,aI,bN,aa⟩:=qpG Y h.An.2;obtain⟨ab,aJ,aK⟩:=h.idx;obtain⟨aL,bO,aM⟩:=h.at_;obtain⟨y,E⟩:=qBA (l:=af.next) (i:=m.slot.toNat) (by have:=h.slot;omega);obtain⟨bP,rfl⟩:=qYA aa E;obtain⟨aN,aO⟩:=qJL aa E;have aP:=h.slot;rw[aM,E]at hM9 B;simp only[evV,aL,zAM]at B hM9;refine zq ?_;intros;refine⟨kF,zq ?_⟩;intros
   repeat'((first|refine⟨_,λH C q=>qUC H (q.cel (id:=6) rfl 13 rfl) (q.cel (id:=6) rfl 15 rfl) (q.cel (id:=6) rfl 16 rfl) (q.cel (id:=5) rfl 4 rfl) ab (V.mono C) aJ (aH.mono C) aK,?_⟩|refine⟨_,aI 1 _ rfl,?_⟩|refine⟨_,rfl,aP,?_⟩|refine⟨_,aO 0 _ rfl,?_⟩|refine⟨_,λH C q=>qkD H (q.cel (id:=6) rfl 10 rfl) (q.cel (id:=6) rfl 13 rfl) (q.cel (id:=5) rfl 4 rfl) ab (V.mono C),?_⟩|refine zI ?_ ?_|fail)<;>first|(refine zq ?_;intros)|rfl)
   all_goals(conv=>whnf)
   all_goals(first|exact zAx _|(
   intro bQ ac;refine⟨_,_,by rw[B]<;>rfl,by rw[P];exact qCA _ _ _ _ ac D,?_⟩;rw[hM9]
   exact⟨_,_,_,rfl,{aA with link:=aN,pc:=show InR (11:zn) by decide},aB,qAA _ _ _ _ (GW.trans aE ac) aC⟩))))
def qAZ(g){cs al}{w}{m:Aj}(aH:rWo g cs w)(hM:qeA g al m)(aI:SnW w)(hb:BgW 1000000 w)(bt:SmO m)(an:hGo w m)(W:m.pc=11):Ok X0 147 [.agg ⟨cs⟩,.agg ⟨al⟩] g (HaP w m):=by
 obtain⟨L,hM9,M⟩:=qVF an sa;obtain⟨ao,ap,kE⟩:=LN W;rw[ao]at L;rw[ap]at hM9;rw[kE]at M;clear ao ap kE;have hs:=an.1;obtain⟨v,P,C,B⟩:=id (Ar.1 hs);obtain⟨aJ,aK,aL,aM,aN,aO,aP,aQ,aR,aT,aU,aV,aW,aX,aY,aZ,rfl,rfl,aq,a0,⟨bu,bv,bw⟩,bx,bz,bA,bB,bC,⟨bD,bE,bF,bG⟩,⟨b1,a1,bH,bI⟩,⟨c1,c2,c0,bJ⟩,⟨bK,bL,bM,bN⟩,⟨bO,bP,bQ,bR⟩,Y,ad,ae⟩:=qaB aH hM
 exact Ok.Ao hm qID 5 AG.2 (args:=[.v (.agg ⟨wQ w aJ aK aL aM aN aO aP aQ aR aT⟩),.v (.agg ⟨mQ m aU aV aW aX aY aZ⟩)]) (by
  refine zq ?_;intros;refine dT sa (zq ?_);intros;refine dF sa (zq ?_);intros;refine dF sa (zq ?_);intros;refine dF sa (zq ?_);intros;refine .inl ⟨_,qVA _ aq a0 aI hb,zq ?_⟩;intros;refine⟨λA=>absurd (hs.symm.trans (nb1 A)) sb,λ_=>zq ?_⟩;intros;refine⟨λ_=>?_,λ_=>?_⟩
  case' refine_1=>
   refine zq ?_;intros;refine⟨λA=>absurd A (by simp[W]),λ_=>zq ?_⟩;intros;refine⟨λA=>absurd A (by simp[W]),λ_=>zq ?_⟩;intros;refine⟨λA=>absurd A (by simp[W]),λ_=>?_⟩
  all_goals(
   refine zq ?_;intros;refine .inl ⟨_,qbB _,zq ?_⟩;intros;refine⟨11,⟨W,sb⟩,zq ?_⟩;intros;refine⟨λaf=>(nomatch af),λ_=>zq ?_⟩;intros;refine .inr ((qSA _ aq hb).mono λv bT ag a2=>?_);obtain⟨cs,bU,rfl,ar⟩:=a2;have ab:=qcA ar;obtain⟨bW,bX,bY,bZ,b0,b2,b3,b4,b5,b6,rfl⟩:=qJA ab;obtain⟨b1,b7,a1,b8,b9,ca,cb,cc,cd,a3,E,V,ce,au,_,a4⟩:=q4E ar B.ver.2 B.clu.2;cases a3;have aa:=(qMH ab B.ver.2 B.clu.2 B.An.2).1;obtain⟨D,Q,R⟩:=B.idx;obtain⟨a5,a6,a7⟩:=B.at_;have av:=Y.word;simp only[Hv,a7,evV,Es,a5,a6]at L hM9 M;by_cases T:(decide (C.head=m.word)&&qoC m.link)=I
   .rw[zk T]at L M;rw[T]at hM9;simp only[zj,zx]at T;obtain⟨ah,ai⟩:=T;have aw:-1<=m.link/\m.link<=2147483646:=by simpa[qoC]using ai
    obtain⟨a8,a9,ba,bb,aj,U,bc,ax⟩:=qfC au B.An.2 (en':={C with head:=qHD m.word m.link}) (o:=0) (vs:=[.int .u64 (qHD m.word m.link)]) sd (by simp[zA0]) (λn=>rfl) rfl ⟨qrO aw,aa.2.1⟩;subst aj;obtain⟨bd,be,bf,bg,⟨ac,bh,ay,bi,az⟩,_,bj⟩:=a4 _ _ _ ax;refine zq ?_;intros;refine⟨kF,?_⟩;simp only[zBp]at hM9;refine zq ?_;intros
    repeat'((first|refine .inl ⟨_,qWQ _ av aw,zq ?_⟩|refine⟨_,λu q h=>qUC u (h.cel (id:=6) rfl 13 rfl) (h.cel (id:=6) rfl 15 rfl) (h.cel (id:=6) rfl 16 rfl) (h.cel (id:=5) rfl 4 rfl) D (E.mono q) Q (V.mono q) R,zq ?_⟩|refine⟨_,U 0 _ rfl,zq ?_⟩|rfl)<;>intros)
    refine zI (λA=>absurd A (by simp[ah])) (λ_=>zq ?_);intros
    repeat'((first|refine⟨_,λu q h=>qUC u (h.cel (id:=6) rfl 13 rfl) (h.cel (id:=6) rfl 15 rfl) (h.cel (id:=6) rfl 16 rfl) (h.cel (id:=5) rfl 4 rfl) D (E.mono q) Q (V.mono q) R,zq ?_⟩|refine⟨_,U 0 _ rfl,zq ?_⟩|rfl)<;>intros)
    refine zI (λA=>absurd A sb) (λ_=>zq ?_);intros
    repeat'((first|refine⟨_,λu q h=>qUC u (h.cel (id:=6) rfl 13 rfl) (h.cel (id:=6) rfl 15 rfl) (h.cel (id:=6) rfl 16 rfl) (h.cel (id:=5) rfl 4 rfl) D (E.mono q) Q (V.mono q) R,zq ?_⟩|refine⟨_,U 0 _ rfl,zq ?_⟩|rfl)<;>intros)
    refine⟨bd,be,bf,bg,⟨by first|exact ac|(rw[<-ac];rfl)|(rw[<-ac,qgB]),bh,ay,bi,az⟩,zq ?_⟩;intros;refine λaA ak=>?_;have aB:=qcA (bj aA ak);have bl:g<=aA:=ak.le ag (λaf=>by have:=g.wf _ af;omega);have bm:=ak.rd ay az;rw[<-ac]at bm;have bn:=qhA (y:=({v with Am:=v.Am.set m.Ak.toNat ({P with ends:=P.ends.set m.An.toNat ({C with head:=qHD m.word m.link}:Bz)}:Bm)}:AL)) B.ver.2;have aC:=qhA (y:=({P with ends:=P.ends.set m.An.toNat ({C with head:=qHD m.word m.link}:Bz)}:Bm)) B.clu.2;have bo:=qdJ aB;obtain⟨cf,cg,ch,ci,cj,ck,cm,cn,bp,co,cp,aD⟩:=qWF bo bn;obtain⟨cq,rfl⟩:=qYA aD aC;obtain⟨cr,ct,cu,_,aE⟩:=qqH aD aC;have bq:0<=m.Ac/\m.Ac<w.Ab.length:=D;have cv:0<=m.Ak/\m.Ak<((v.Am.set m.Ak.toNat ({P with ends:=P.ends.set m.An.toNat ({C with head:=qHD m.word m.link}:Bz)}:Bm)).length:Z):=by simpa only[zX]using Q
    have aF:=qhA (y:=({C with head:=qHD m.word m.link}:Bz)) B.An.2;obtain⟨cw,rfl⟩:=qYA aE aF;obtain⟨cx,cy,cz,_,cA⟩:=qpG aE aF;have cB:0<=m.An/\m.An<((P.ends.set m.An.toNat ({C with head:=qHD m.word m.link}:Bz)).length:Z):=by simpa only[zX]using R
    refine zq ?_;intros
    repeat'((first|refine⟨_,λu q h=>qkD u (h.cel (id:=6) rfl 10 rfl) (h.cel (id:=6) rfl 13 rfl) (h.cel (id:=5) rfl 4 rfl) bq (bp.mono q),?_⟩|refine zI ?_ ?_|fail)<;>first|(refine zq ?_;intros)|rfl)
    all_goals(conv=>whnf)
    all_goals(first|exact zAx _|(
    intro aG H;refine⟨_,_,by rw[M]<;>rfl,by rw[L];exact qCA _ _ _ _ H aB,?_⟩;rw[hM9]
    exact⟨_,_,_,rfl,{Y with pc:=show InR (12:zn) by decide},ad,qAA _ _ _ _ (GW.trans bl H) ae⟩))
   .rw[zh T]at L M;rw[zh T]at hM9;obtain⟨a8,a9,ba,bb,aj,U,bc,ax⟩:=qfC au B.An.2 (en':=C) (o:=0) (vs:=[.int .u64 C.head]) sd (by simp[zA0]) (λn=>rfl) rfl ⟨aa.1,aa.2.1⟩;subst aj;refine zq ?_;intros;refine⟨kF,zq ?_⟩;intros
    repeat'((first|refine .inl ⟨_,qtT _ av Y.link,zq ?_⟩|refine⟨_,λu q h=>qUC u (h.cel (id:=6) rfl 13 rfl) (h.cel (id:=6) rfl 15 rfl) (h.cel (id:=6) rfl 16 rfl) (h.cel (id:=5) rfl 4 rfl) D (E.mono q) Q (V.mono q) R,zq ?_⟩|refine⟨_,U 0 _ rfl,zq ?_⟩|rfl)<;>intros)
    refine zI (λ_=>?_) (λz=>?_)
    .refine zq ?_;intros
     repeat'((first|refine⟨_,λu q h=>qUC u (h.cel (id:=6) rfl 13 rfl) (h.cel (id:=6) rfl 15 rfl) (h.cel (id:=6) rfl 16 rfl) (h.cel (id:=5) rfl 4 rfl) D (E.mono q) Q (V.mono q) R,?_⟩|refine⟨_,U 0 _ rfl,?_⟩|refine .inl ⟨_,q2B _ aa.1,?_⟩|refine⟨_,λu q h=>qkD u (h.cel (id:=6) rfl 10 rfl) (h.cel (id:=6) rfl 13 rfl) (h.cel (id:=5) rfl 4 rfl) D (E.mono q),?_⟩|refine zI ?_ ?_|fail)<;>first|(refine zq ?_;intros)|rfl)
     all_goals(conv=>whnf)
     all_goals(first|exact zAx _|(
     intro aG H;refine⟨_,_,by rw[M]<;>rfl,by rw[L];exact qCA _ _ _ _ H ab,?_⟩;rw[hM9]
     exact⟨_,_,_,rfl,{Y with pc:=show InR (9:zn) by decide},ad,qAA _ _ _ _ (GW.trans ag H) ae⟩))
    .have ah:C.head=m.word:=by simpa using z
     have ai:qoC m.link=zb:=by
      cases br:qoC m.link
      .rfl
      .exact absurd (by simp[ah,br]) T
     refine zq ?_;intros;refine zI (λ_=>zq ?_) (λA=>absurd A (by simp[ai]));intros
     repeat'((first|refine⟨_,λu q h=>qUC u (h.cel (id:=6) rfl 13 rfl) (h.cel (id:=6) rfl 15 rfl) (h.cel (id:=6) rfl 16 rfl) (h.cel (id:=5) rfl 4 rfl) D (E.mono q) Q (V.mono q) R,?_⟩|refine⟨_,U 0 _ rfl,?_⟩|refine .inl ⟨_,q2B _ aa.1,?_⟩|refine⟨_,λu q h=>qkD u (h.cel (id:=6) rfl 10 rfl) (h.cel (id:=6) rfl 13 rfl) (h.cel (id:=5) rfl 4 rfl) D (E.mono q),?_⟩|refine zI ?_ ?_|fail)<;>first|(refine zq ?_;intros)|rfl)
     all_goals(conv=>whnf)
     all_goals(first|exact zAx _|(
     intro aG H;refine⟨_,_,by rw[M]<;>rfl,by rw[L];exact qCA _ _ _ _ H ab,?_⟩;rw[hM9]
     exact⟨_,_,_,rfl,{Y with pc:=show InR (9:zn) by decide},ad,qAA _ _ _ _ (GW.trans ag H) ae⟩))))
def q9Y(g){cs T}{w}{m:Aj}(au:rWo g cs w)(hM:qeA g T m)(av:SnW w)(hb:BgW 1000000 w)(bj:SmO m)(U:hGo w m)(E:m.pc=12):Ok X0 147 [.agg ⟨cs⟩,.agg ⟨T⟩] g (HaP w m):=by
 obtain⟨L,hM9,M⟩:=qVF U sa;obtain⟨V,W,kE⟩:=LM E;rw[V]at L;rw[W]at hM9;rw[kE]at M;clear V W kE;have hs:=U.1;obtain⟨v,A,h,u⟩:=id (Ar.1 hs);obtain⟨aw,ax,ay,az,aA,aB,aC,aD,aE,aF,aG,aH,aI,aJ,aK,aL,rfl,rfl,Y,aM,⟨bl,bm,bn⟩,bo,bp,bq,br,bt,⟨bu,bv,bw,bx⟩,⟨b1,aN,bz,bA⟩,⟨c1,c2,c0,bB⟩,⟨bC,bD,bE,bF⟩,⟨bG,bH,bI,bJ⟩,D,aO,aP⟩:=qaB au hM
 exact Ok.Ao hm qID 5 AG.2 (args:=[.v (.agg ⟨wQ w aw ax ay az aA aB aC aD aE aF⟩),.v (.agg ⟨mQ m aG aH aI aJ aK aL⟩)]) (by
  refine zq ?_;intros;refine dT sa (zq ?_);intros;refine dF sa (zq ?_);intros;refine dF sa (zq ?_);intros;refine dF sa (zq ?_);intros;refine .inl ⟨_,qVA _ Y aM av hb,zq ?_⟩;intros;refine⟨λB=>absurd (hs.symm.trans (nb1 B)) sb,λ_=>zq ?_⟩;intros;refine⟨λ_=>?_,λ_=>?_⟩
  case' refine_1=>
   refine zq ?_;intros;refine⟨λB=>absurd B (by simp[E]),λ_=>zq ?_⟩;intros;refine⟨λB=>absurd B (by simp[E]),λ_=>zq ?_⟩;intros;refine⟨λB=>absurd B (by simp[E]),λ_=>?_⟩
  all_goals(
   refine zq ?_;intros;refine .inl ⟨_,qbB _,zq ?_⟩;intros;refine⟨12,⟨E,sb⟩,zq ?_⟩;intros;refine⟨λQ=>(nomatch Q),λ_=>zq ?_⟩;intros;refine .inr ((qSA _ Y hb).mono λv bK aQ aR=>?_);obtain⟨cs,bL,rfl,aa⟩:=aR;have ab:=qcA aa;obtain⟨bM,bN,bO,bP,bQ,bR,bT,bU,bW,bX,rfl⟩:=qJA ab;obtain⟨b1,bY,aN,bZ,b0,b2,b3,b4,b5,aT,aU,aV,b6,aW,_,aX⟩:=q4E aa u.ver.2 u.clu.2;cases aT;have aY:=(qMH ab u.ver.2 u.clu.2 u.An.2).1;obtain⟨b7,b8,b9,ca,aZ,a0,cb,a1⟩:=qfC aW u.An.2 (en':={h with Ah:=wI (h.Ah+1)}) (o:=2) (vs:=[.int .i64 (wI (h.Ah+1))]) sd (by simp[zA0]) (λn=>rfl) rfl ⟨aY.1,q8A _⟩;subst aZ;obtain⟨a2,a3,a4,a5,⟨P,a6,ac,a7,ad⟩,_,a8⟩:=aX _ _ _ a1;obtain⟨ae,af,ag⟩:=u.idx;obtain⟨ah,a9,ba⟩:=u.at_;rw[ba]at L M;simp only[Es,ah,a9]at L;simp only[evV,ah]at M;refine zq ?_;intros;refine⟨kF,zq ?_⟩;intros
   repeat'((first|refine⟨_,λH C q=>qUC H (q.cel (id:=6) rfl 13 rfl) (q.cel (id:=6) rfl 15 rfl) (q.cel (id:=6) rfl 16 rfl) (q.cel (id:=5) rfl 4 rfl) ae (aU.mono C) af (aV.mono C) ag,zq ?_⟩|refine⟨_,a0 2 _ rfl,zq ?_⟩|rfl)<;>intros)
   refine⟨a2,a3,a4,a5,⟨by first|exact P|(rw[<-P];rfl)|(rw[<-P,qgB]),a6,ac,a7,ad⟩,zq ?_⟩;intros;refine λai R=>?_;have aj:=qcA (a8 ai R);have bb:g<=ai:=R.le aQ (λQ=>by have:=g.wf _ Q;omega);have bc:=R.rd ac ad;rw[<-P]at bc;have bd:=qhA (y:=({v with Am:=v.Am.set m.Ak.toNat ({A with ends:=A.ends.set m.An.toNat ({h with Ah:=wI (h.Ah+1)}:Bz)}:Bm)}:AL)) u.ver.2;have ak:=qhA (y:=({A with ends:=A.ends.set m.An.toNat ({h with Ah:=wI (h.Ah+1)}:Bz)}:Bm)) u.clu.2;have be:=qdJ aj;obtain⟨cc,cd,ce,cf,cg,ch,ci,cj,al,ck,cm,an⟩:=qWF be bd;obtain⟨cn,rfl⟩:=qYA an ak;obtain⟨co,cp,bf,_,ao⟩:=qqH an ak;have ap:0<=m.Ac/\m.Ac<w.Ab.length:=ae;have bg:0<=m.Ak/\m.Ak<((v.Am.set m.Ak.toNat ({A with ends:=A.ends.set m.An.toNat ({h with Ah:=wI (h.Ah+1)}:Bz)}:Bm)).length:Z):=by simpa only[zX]using af
   have aq:=qhA (y:=({h with Ah:=wI (h.Ah+1)}:Bz)) u.An.2;obtain⟨cq,rfl⟩:=qYA ao aq;obtain⟨cr,ct,bh,_,cu⟩:=qpG ao aq;have bi:0<=m.An/\m.An<((A.ends.set m.An.toNat ({h with Ah:=wI (h.Ah+1)}:Bz)).length:Z):=by simpa only[zX]using ag
   refine zq ?_;intros
   repeat'((first|refine⟨_,λH C q=>qUC H (q.cel (id:=6) rfl 13 rfl) (q.cel (id:=6) rfl 15 rfl) (q.cel (id:=6) rfl 16 rfl) (q.cel (id:=5) rfl 4 rfl) ap (al.mono C) bg (bf.mono C) bi,?_⟩|refine⟨_,bh 2 _ rfl,?_⟩|refine⟨_,λH C q=>qkD H (q.cel (id:=6) rfl 10 rfl) (q.cel (id:=6) rfl 13 rfl) (q.cel (id:=5) rfl 4 rfl) ap (al.mono C),?_⟩|refine zI ?_ ?_|fail)<;>first|(refine zq ?_;intros)|rfl)
   all_goals(conv=>whnf)
   all_goals(first|exact zAx _|(
   intro cv ar;refine⟨_,_,by rw[M]<;>rfl,by rw[L];exact qCA _ _ _ _ ar aj,?_⟩;rw[hM9]
   exact⟨_,_,_,rfl,{D with pc:=show InR (20:zn) by decide,answer:=⟨z1,D.Ac,D.Ak,D.An,D.slot,D.listen,z0,qEG⟩},aO,qAA _ _ _ _ (GW.trans bb ar) aP⟩))))
def q8Y(g){cs aA}{w}{m:Aj}(aK:rWo g cs w)(hM:qeA g aA m)(aL:SnW w)(hb:BgW 1000000 w)(a6:SmO m)(aB:hGo w m)(R:m.pc=20):Ok X0 147 [.agg ⟨cs⟩,.agg ⟨aA⟩] g (HaP w m):=by
 obtain⟨A,hM9,L⟩:=qVF aB sa;obtain⟨aC,aD,kE⟩:=LL R;rw[aC]at A;rw[aD]at hM9;rw[kE]at L;clear aC aD kE;have hs:=aB.1;obtain⟨v,a7,a8,Q⟩:=id (Ar.1 hs);obtain⟨aM,aN,aO,aP,aQ,aR,aT,aU,aV,aW,aX,aY,aZ,a0,a1,a2,rfl,rfl,aE,a3,⟨a9,ba,bb⟩,bc,bd,be,bf,bg,⟨bh,bi,bj,bl⟩,⟨b1,av,bm,bn⟩,⟨c1,c2,c0,bo⟩,⟨bp,bq,br,bt⟩,⟨bu,bv,bw,bx⟩,aw,ax,ay⟩:=qaB aK hM
 exact Ok.Ao hm qID 5 AG.2 (args:=[.v (.agg ⟨wQ w aM aN aO aP aQ aR aT aU aV aW⟩),.v (.agg ⟨mQ m aX aY aZ a0 a1 a2⟩)]) (by
  refine zq ?_;intros;refine dT sa (zq ?_);intros;refine dF sa (zq ?_);intros;refine dF sa (zq ?_);intros;refine dF sa (zq ?_);intros;refine .inl ⟨_,qVA _ aE a3 aL hb,zq ?_⟩;intros;refine⟨λM=>absurd (hs.symm.trans (nb1 M)) sb,λ_=>zq ?_⟩;intros;refine⟨λ_=>?_,λ_=>?_⟩
  case' refine_1=>
   refine zq ?_;intros;refine⟨λM=>absurd M (by simp[R]),λ_=>zq ?_⟩;intros;refine⟨λM=>absurd M (by simp[R]),λ_=>zq ?_⟩;intros;refine⟨λM=>absurd M (by simp[R]),λ_=>?_⟩
  all_goals(
   refine zq ?_;intros;refine .inl ⟨_,qbB _,zq ?_⟩;intros;refine⟨20,⟨R,sb⟩,zq ?_⟩;intros;refine⟨λP=>(nomatch P),λ_=>zq ?_⟩;intros;refine .inr ((qSA _ aE hb).mono λv bz az a4=>?_);obtain⟨cs,bA,rfl,au⟩:=a4;have a5:=qcA au;obtain⟨bB,bC,bD,bE,bF,bG,bH,bI,bJ,bK,rfl⟩:=qJA a5;refine zq ?_;intros;refine⟨kF,zq ?_⟩;intros;refine zI (λz=>?_) (λz=>?_)
   .have z:=ze z;have T:qWN m=0:=zh sa;obtain⟨row,h,aF⟩:=Q.row;obtain⟨y,B⟩:=qBA (l:=row) (i:=(0:zn).toNat) sa;have U:cnt w m.Ag (0:zn)=y:=by unfold cnt;rw[h,zAM,B];rfl
    have V:(w.counts[m.Ag.toNat]?).getD []=row:=by rw[h];rfl
    rw[T]at A L;simp only[CQ,U,V]at A;obtain⟨b1,aG,av,aH,W,Y,aa,ab,ac,ad,ae,⟨q,af,C,ag,D⟩,_,ah⟩:=qeH au h B (qlS (y+1));cases W;have ai:=Q.Ag;have aj:0<=m.Ag/\m.Ag<w.counts.length:=⟨ai.1,by have:=(zd.1 h).1;omega⟩;have ak:0<=(0:zn)/\(0:zn)<(row.length:Z):=sa
    refine zq ?_;intros
    repeat'((first|refine⟨_,rfl,aj,?_⟩|refine⟨_,Y 0 _ rfl,?_⟩|refine⟨_,rfl,ak,?_⟩|refine⟨_,aa 0 _ rfl,?_⟩|refine zI ?_ ?_|fail)<;>first|(refine zq ?_;intros)|rfl)
    refine⟨ab,ac,ad,ae,⟨by first|exact q|(rw[<-q];rfl)|(rw[<-q,qgB]),af,C,ag,D⟩,zq ?_⟩;intros;refine λE u=>?_;have al:=qcA (ah E u);have an:g<=E:=u.le az (λP=>by have:=g.wf _ P;omega);have ao:=u.rd C D;rw[<-q]at ao;refine zq ?_;intros
    repeat'((first|refine⟨_,λap aI aq=>qIB ap (aq.cel (id:=6) rfl 10 rfl),?_⟩|refine zI ?_ ?_|fail)<;>first|(refine zq ?_;intros)|rfl)
    all_goals(conv=>whnf)
    all_goals(first|exact zAx _|(
    intro aJ H;refine⟨_,_,by rw[L]<;>rfl,by rw[A];exact qCA _ _ _ _ H al,?_⟩;rw[hM9]
    exact⟨_,_,_,rfl,{aw with pc:=show InR (21:zn) by decide},ax,qAA _ _ _ _ (GW.trans an H) ay⟩))
   .have z:=zf z;refine zq ?_;intros;refine zI (λar=>?_) (λar=>?_)
    .have ar:=ze ar;have T:qWN m=0:=zh sa;obtain⟨row,h,aF⟩:=Q.row;obtain⟨y,B⟩:=qBA (l:=row) (i:=(0:zn).toNat) sa;have U:cnt w m.Ag (0:zn)=y:=by unfold cnt;rw[h,zAM,B];rfl
     have V:(w.counts[m.Ag.toNat]?).getD []=row:=by rw[h];rfl
     rw[T]at A L;simp only[CQ,U,V]at A;obtain⟨b1,aG,av,aH,W,Y,aa,ab,ac,ad,ae,⟨q,af,C,ag,D⟩,_,ah⟩:=qeH au h B (qlS (y+1));cases W;have ai:=Q.Ag;have aj:0<=m.Ag/\m.Ag<w.counts.length:=⟨ai.1,by have:=(zd.1 h).1;omega⟩;have ak:0<=(0:zn)/\(0:zn)<(row.length:Z):=sa
     refine zq ?_;intros
     repeat'((first|refine⟨_,rfl,aj,?_⟩|refine⟨_,Y 0 _ rfl,?_⟩|refine⟨_,rfl,ak,?_⟩|refine⟨_,aa 0 _ rfl,?_⟩|refine zI ?_ ?_|fail)<;>first|(refine zq ?_;intros)|rfl)
     refine⟨ab,ac,ad,ae,⟨by first|exact q|(rw[<-q];rfl)|(rw[<-q,qgB]),af,C,ag,D⟩,zq ?_⟩;intros;refine λE u=>?_;have al:=qcA (ah E u);have an:g<=E:=u.le az (λP=>by have:=g.wf _ P;omega);have ao:=u.rd C D;rw[<-q]at ao;refine zq ?_;intros
     repeat'((first|refine⟨_,λap aI aq=>qIB ap (aq.cel (id:=6) rfl 10 rfl),?_⟩|refine zI ?_ ?_|fail)<;>first|(refine zq ?_;intros)|rfl)
     all_goals(conv=>whnf)
     all_goals(first|exact zAx _|(
     intro aJ H;refine⟨_,_,by rw[L]<;>rfl,by rw[A];exact qCA _ _ _ _ H al,?_⟩;rw[hM9]
     exact⟨_,_,_,rfl,{aw with pc:=show InR (21:zn) by decide},ax,qAA _ _ _ _ (GW.trans an H) ay⟩))
    .have ar:=zf ar;have T:qWN m=m.answer.kind:=zk sa;obtain⟨row,h,aF⟩:=Q.row;obtain⟨y,B⟩:=qBA (l:=row) (i:=(m.answer.kind).toNat) sa;have U:cnt w m.Ag (m.answer.kind)=y:=by unfold cnt;rw[h,zAM,B];rfl
     have V:(w.counts[m.Ag.toNat]?).getD []=row:=by rw[h];rfl
     rw[T]at A L;simp only[CQ,U,V]at A;obtain⟨b1,aG,av,aH,W,Y,aa,ab,ac,ad,ae,⟨q,af,C,ag,D⟩,_,ah⟩:=qeH au h B (qlS (y+1));cases W;have ai:=Q.Ag;have aj:0<=m.Ag/\m.Ag<w.counts.length:=⟨ai.1,by have:=(zd.1 h).1;omega⟩;have ak:0<=(m.answer.kind)/\(m.answer.kind)<(row.length:Z):=sa
     refine zq ?_;intros
     repeat'((first|refine⟨_,rfl,aj,?_⟩|refine⟨_,Y 0 _ rfl,?_⟩|refine⟨_,rfl,ak,?_⟩|refine⟨_,aa 0 _ rfl,?_⟩|refine zI ?_ ?_|fail)<;>first|(refine zq ?_;intros)|rfl)
     refine⟨ab,ac,ad,ae,⟨by first|exact q|(rw[<-q];rfl)|(rw[<-q,qgB]),af,C,ag,D⟩,zq ?_⟩;intros;refine λE u=>?_;have al:=qcA (ah E u);have an:g<=E:=u.le az (λP=>by have:=g.wf _ P;omega);have ao:=u.rd C D;rw[<-q]at ao;refine zq ?_;intros
     repeat'((first|refine⟨_,λap aI aq=>qIB ap (aq.cel (id:=6) rfl 10 rfl),?_⟩|refine zI ?_ ?_|fail)<;>first|(refine zq ?_;intros)|rfl)
     all_goals(conv=>whnf)
     all_goals(first|exact zAx _|(
     intro aJ H;refine⟨_,_,by rw[L]<;>rfl,by rw[A];exact qCA _ _ _ _ H al,?_⟩;rw[hM9]
     exact⟨_,_,_,rfl,{aw with pc:=show InR (21:zn) by decide},ax,qAA _ _ _ _ (GW.trans an H) ay⟩))))
def q7Y(g){cs W}{w}{m:Aj}(al:rWo g cs w)(hM:qeA g W m)(an:SnW w)(hb:BgW 1000000 w)(a2:SmO m)(Y:hGo w m)(A:m.pc=21):Ok X0 147 [.agg ⟨cs⟩,.agg ⟨W⟩] g (HaP w m):=by
 obtain⟨B,hM9,E⟩:=qVF Y sa;obtain⟨aa,ab,kE⟩:=LK A;rw[aa]at B;rw[ab]at hM9;rw[kE]at E;clear aa ab kE;have hs:=Y.1;obtain⟨v,a3,a4,ac⟩:=id (Ar.1 hs);obtain⟨ao,ap,aq,ar,au,av,aw,ax,ay,az,aA,aB,aC,aD,aE,aF,rfl,rfl,ad,aG,⟨a5,a6,a7⟩,a8,a9,ba,bb,bc,⟨bd,be,bf,bg⟩,⟨b1,aH,bh,bi⟩,⟨c1,c2,c0,bj⟩,⟨bl,bm,bn,bo⟩,⟨bp,bq,br,bt⟩,M,P,Q⟩:=qaB al hM
 exact Ok.Ao hm qID 5 AG.2 (args:=[.v (.agg ⟨wQ w ao ap aq ar au av aw ax ay az⟩),.v (.agg ⟨mQ m aA aB aC aD aE aF⟩)]) (by
  refine zq ?_;intros;refine dT sa (zq ?_);intros;refine dF sa (zq ?_);intros;refine dF sa (zq ?_);intros;refine dF sa (zq ?_);intros;refine .inl ⟨_,qVA _ ad aG an hb,zq ?_⟩;intros;refine⟨λq=>absurd (hs.symm.trans (nb1 q)) sb,λ_=>zq ?_⟩;intros;refine⟨λ_=>?_,λ_=>?_⟩
  case' refine_1=>
   refine zq ?_;intros;refine⟨λq=>absurd q (by simp[A]),λ_=>zq ?_⟩;intros;refine⟨λq=>absurd q (by simp[A]),λ_=>zq ?_⟩;intros;refine⟨λq=>absurd q (by simp[A]),λ_=>?_⟩
  all_goals(
   refine zq ?_;intros;refine .inl ⟨_,qbB _,zq ?_⟩;intros;refine⟨21,⟨A,sb⟩,zq ?_⟩;intros;refine⟨λR=>(nomatch R),λ_=>zq ?_⟩;intros;refine .inr ((qSA _ ad hb).mono λv bu aI aJ=>?_);obtain⟨cs,bv,rfl,ae⟩:=aJ;have aK:=qcA ae;obtain⟨bw,bx,bz,bA,bB,bC,bD,bE,bF,bG,rfl⟩:=qJA aK;obtain⟨row,H,bH⟩:=ac.row;obtain⟨y,af⟩:=qBA (l:=row) (i:=(0:zn).toNat) sa;have aL:cnt w m.Ag (0:zn)=y:=by unfold cnt;rw[H,zAM,af];rfl
   have aM:(w.counts[m.Ag.toNat]?).getD []=row:=by rw[H];rfl
   simp only[CQ,aL,aM]at B;obtain⟨b1,bI,aH,bJ,aN,aO,aP,aQ,aR,aT,aU,⟨L,aV,ag,aW,ah⟩,_,aX⟩:=qeH ae H af (qlS (y+1));cases aN;have aY:=ac.Ag;have aZ:0<=m.Ag/\m.Ag<w.counts.length:=⟨aY.1,by have:=(zd.1 H).1;omega⟩;have a0:0<=(0:zn)/\(0:zn)<(row.length:Z):=sa
   refine zq ?_;intros;refine⟨kF,zq ?_⟩;intros
   repeat'((first|refine⟨_,rfl,aZ,?_⟩|refine⟨_,aO 0 _ rfl,?_⟩|refine⟨_,rfl,a0,?_⟩|refine⟨_,aP 0 _ rfl,?_⟩|refine zI ?_ ?_|fail)<;>first|(refine zq ?_;intros)|rfl)
   refine⟨aQ,aR,aT,aU,⟨by first|exact L|(rw[<-L];rfl)|(rw[<-L,qgB]),aV,ag,aW,ah⟩,zq ?_⟩;intros;refine λai T=>?_;have U:=qcA (aX ai T);have V:g<=ai:=T.le aI (λR=>by have:=g.wf _ R;omega);have a1:=T.rd ag ah;rw[<-L]at a1;refine zq ?_;intros;refine zI (λz=>?_) (λz=>?_)
   .have z:=B9 z;rw[zk (.inl z)]at hM9;refine zq ?_;intros
    repeat'((first|refine⟨_,λC aj D=>qIB C (D.cel (id:=6) rfl 10 rfl),?_⟩|refine zI ?_ ?_|fail)<;>first|(refine zq ?_;intros)|rfl)
    all_goals(conv=>whnf)
    all_goals(first|exact zAx _|(
    intro ak h;refine⟨_,_,by rw[E]<;>rfl,by rw[B];exact qCA _ _ _ _ h U,?_⟩;rw[hM9]
    exact⟨_,_,_,rfl,{M with pc:=show InR (23:zn) by decide},P,qAA _ _ _ _ (GW.trans V h) Q⟩))
   .have z:=Ea z;refine zq ?_;intros;refine zI (λu=>?_) (λu=>?_)
    .have u:=ze u;rw[zk (.inr u)]at hM9;refine zq ?_;intros
     repeat'((first|refine⟨_,λC aj D=>qIB C (D.cel (id:=6) rfl 10 rfl),?_⟩|refine zI ?_ ?_|fail)<;>first|(refine zq ?_;intros)|rfl)
     all_goals(conv=>whnf)
     all_goals(first|exact zAx _|(
     intro ak h;refine⟨_,_,by rw[E]<;>rfl,by rw[B];exact qCA _ _ _ _ h U,?_⟩;rw[hM9]
     exact⟨_,_,_,rfl,{M with pc:=show InR (23:zn) by decide},P,qAA _ _ _ _ (GW.trans V h) Q⟩))
    .have u:=zf u;rw[zh sa]at hM9;refine zq ?_;intros
     repeat'((first|refine⟨_,λC aj D=>qIB C (D.cel (id:=6) rfl 10 rfl),?_⟩|refine zI ?_ ?_|fail)<;>first|(refine zq ?_;intros)|rfl)
     all_goals(conv=>whnf)
     all_goals(first|exact zAx _|(
     intro ak h;refine⟨_,_,by rw[E]<;>rfl,by rw[B];exact qCA _ _ _ _ h U,?_⟩;rw[hM9]
     exact⟨_,_,_,rfl,{M with pc:=show InR (22:zn) by decide},P,qAA _ _ _ _ (GW.trans V h) Q⟩))))
def q6Y(g){cs C}{w}{m:Aj}(W:rWo g cs w)(hM:qeA g C m)(Y:SnW w)(hb:BgW 1000000 w)(aQ:SmO m)(q:hGo w m)(D:m.pc=22):Ok X0 147 [.agg ⟨cs⟩,.agg ⟨C⟩] g (HaP w m):=by
 obtain⟨u,hM9,A⟩:=qVF q sa;obtain⟨E,H,kE⟩:=LJ D;rw[E]at u;rw[H]at hM9;rw[kE]at A;clear E H kE;have hs:=q.1;obtain⟨v,aR,aT,L⟩:=id (Ar.1 hs);obtain⟨aa,ab,ac,ad,ae,af,ag,ah,ai,aj,ak,al,an,ao,ap,aq,rfl,rfl,M,ar,⟨aU,aV,aW⟩,aX,aY,aZ,a0,a1,⟨a2,a3,a4,a5⟩,⟨b1,a6,a7,a8⟩,⟨c1,c2,c0,a9⟩,⟨ba,bb,bc,bd⟩,⟨be,bf,bg,bh⟩,au,av,aw⟩:=qaB W hM
 exact Ok.Ao hm qID 5 AG.2 (args:=[.v (.agg ⟨wQ w aa ab ac ad ae af ag ah ai aj⟩),.v (.agg ⟨mQ m ak al an ao ap aq⟩)]) (by
  refine zq ?_;intros;refine dT sa (zq ?_);intros;refine dF sa (zq ?_);intros;refine dF sa (zq ?_);intros;refine dF sa (zq ?_);intros;refine .inl ⟨_,qVA _ M ar Y hb,zq ?_⟩;intros;refine⟨λh=>absurd (hs.symm.trans (nb1 h)) sb,λ_=>zq ?_⟩;intros;have bi:0<=m.listen:=by have:=q.2.2;omega
  refine zw ?_;refine dF sa (zq ?_);intros;refine zq ?_;intros;refine .inl ⟨_,qbB _,zq ?_⟩;intros;refine⟨22,⟨D,sb⟩,zq ?_⟩;intros;refine⟨λB=>(nomatch B),λ_=>zq ?_⟩;intros;refine .inr ((qSA _ M hb).mono λv bj ax ay=>?_);obtain⟨cs,bl,rfl,P⟩:=ay;have Q:=qcA P;obtain⟨bm,bn,bo,bp,bq,br,bt,bu,bv,bw,rfl⟩:=qJA Q;obtain⟨x,h⟩:=qBA (l:=w.Aa) (i:=m.listen.toNat) (by have:=L.listen;omega);have az:mL w m=x:=by unfold mL;rw[h];rfl
  rw[az]at u A;have bx:=L.listen;obtain⟨bk,cap,aA,bz,aB,aC,aD,aE,⟨aF,aG,aH,aI,aJ⟩,_,aK⟩:=qqJ P h (x':={x with Ah:=wI (x.Ah-1)}) (o:=2) (vs:=[.int .i64 (wI (x.Ah-1))]) sd (by simp[zA0]) rfl (q8A _);cases aA;obtain⟨bA,aL⟩:=qnG (qDI Q) h;refine zq ?_;intros;refine⟨kF,zq ?_⟩;intros;refine⟨_,rfl,⟨sa,sa⟩,zq ?_⟩;intros;refine⟨_,aL 2 _ rfl,zq ?_⟩;intros;refine⟨aB,aC,aD,aE,⟨aF,aG,aH,aI,aJ⟩,zq ?_⟩;intros;refine λR T=>?_;have U:=qcA (aK R T);have aM:g<=R:=T.le ax (λB=>by have:=g.wf _ B;omega);obtain⟨_,aN⟩:=qnG (qDI U) (i:=m.listen.toNat) (x:={x with Ah:=wI (x.Ah-1)}) (by simp only[zAF];simp;omega);refine zq ?_;intros;refine⟨_,aN 2 _ rfl,zq ?_⟩;intros;refine⟨_,λaO bB aP=>qIB aO (aP.2.2.1 10 _ rfl),zq ?_⟩;intros;intro bC V;refine⟨_,_,by rw[A];rfl,by rw[u];exact qCA _ _ _ _ V U,?_⟩;rw[hM9]
  exact⟨_,_,_,rfl,{au with pc:=show InR (23:zn) by decide},av,qAA _ _ _ _ (GW.trans aM V) aw⟩)
def q5Y(g){cs A}{w}{m:Aj}(U:rWo g cs w)(hM:qeA g A m)(B:SnW w)(hb:BgW 1000000 w)(aw:SmO m)(C:hGo w m)(u:m.pc=23):Ok X0 147 [.agg ⟨cs⟩,.agg ⟨A⟩] g (HaP w m):=by
 obtain⟨D,hM9,E⟩:=qVF C sa;obtain⟨H,L,kE⟩:=LI u;rw[H]at D;rw[L]at hM9;rw[kE]at E;clear H L kE;have hs:=C.1;obtain⟨v,ax,ay,az⟩:=id (Ar.1 hs);obtain⟨V,W,Y,aa,ab,ac,ad,ae,af,ag,ah,ai,aj,ak,al,an,rfl,rfl,M,P,⟨aA,aB,aC⟩,aD,aE,aF,aG,aH,⟨aI,aJ,aK,aL⟩,⟨b1,aM,aN,aO⟩,⟨c1,c2,c0,aP⟩,⟨aQ,aR,aT,aU⟩,⟨aV,aW,aX,aY⟩,ao,ap,aq⟩:=qaB U hM
 exact Ok.Ao hm qID 5 AG.2 (args:=[.v (.agg ⟨wQ w V W Y aa ab ac ad ae af ag⟩),.v (.agg ⟨mQ m ah ai aj ak al an⟩)]) (by
  refine zq ?_;intros;refine dT sa (zq ?_);intros;refine dF sa (zq ?_);intros;refine dF sa (zq ?_);intros;refine dF sa (zq ?_);intros;refine .inl ⟨_,qVA _ M P B hb,zq ?_⟩;intros;refine⟨λh=>absurd (hs.symm.trans (nb1 h)) sb,λ_=>zq ?_⟩;intros;refine⟨λ_=>?_,λ_=>?_⟩
  case' refine_1=>
   refine zq ?_;intros;refine⟨λh=>absurd h (by simp[u]),λ_=>zq ?_⟩;intros;refine⟨λh=>absurd h (by simp[u]),λ_=>zq ?_⟩;intros;refine⟨λh=>absurd h (by simp[u]),λ_=>?_⟩
  all_goals(
   refine zq ?_;intros;refine .inl ⟨_,qbB _,zq ?_⟩;intros;refine⟨23,⟨u,sb⟩,zq ?_⟩;intros;refine⟨λar=>(nomatch ar),λ_=>zq ?_⟩;intros;refine .inr ((qSA _ M hb).mono λv aZ Q q=>?_);obtain⟨cs,a0,rfl,au⟩:=q;have R:=qcA au;obtain⟨a1,a2,a3,a4,a5,a6,a7,a8,a9,ba,rfl⟩:=qJA R;refine zq ?_;intros;refine⟨kF,zq ?_⟩;intros;refine .inr ((qyb _ R (qUA _ _ _ _ Q P) B hb).mono λbb bc av q=>?_);obtain⟨bd,rfl,q⟩:=q;obtain⟨_,_,_,_,_,_,_,_,_,_,rfl⟩:=qJA q;refine zq ?_;intros
   repeat'((first|refine zI ?_ ?_|fail)<;>first|(refine zq ?_;intros)|rfl)
   all_goals(conv=>whnf)
   all_goals(first|exact zAx _|(
   intro be T;refine⟨_,_,by rw[E]<;>rfl,by rw[D];exact qCA _ _ _ _ T q,?_⟩;rw[hM9]
   exact⟨_,_,_,rfl,{ao with},ap,qAA _ _ _ _ (GW.trans (GW.trans Q av) T) aq⟩))))



















def qoZ{m:Aj}(h:0<=m.pc/\m.pc<=23/\¬(12<m.pc/\m.pc<20))(q:¬m.pc<3):m.pc=3\/m.pc=4\/m.pc=5\/m.pc=6\/m.pc=7\/m.pc=8\/m.pc=9\/m.pc=10\/m.pc=11\/m.pc=12\/m.pc=20\/m.pc=21\/m.pc=22\/m.pc=23:=sa
def qWW(g){cs C}{w}{m:Aj}(u:rWo g cs w)(hM:qeA g C m)(A:SnW w)(hb:BgW 1000000 w)(B:SmO m):Ok X0 147 [.agg ⟨cs⟩,.agg ⟨C⟩] g (HaP w m):=by
 by_cases D:0<=m.pc/\m.pc<3
 .exact qTb g u hM A hb D
 .by_cases q:hGo w m
  .rcases qoZ q.2.1 (by have:=q.2.1;omega)with h|h|h|h|h|h|h|h|h|h|h|h|h|h
   .exact qbb g u hM A hb B q h
   .exact qab g u hM A hb B q h
   .exact qZb g u hM A hb B q h
   .exact qYb g u hM A hb B q h
   .exact qXb g u hM A hb B q h
   .exact qWb g u hM A hb B q h
   .exact qVb g u hM A hb B q h
   .exact qBZ g u hM A hb B q h
   .exact qAZ g u hM A hb B q h
   .exact q9Y g u hM A hb B q h
   .exact q8Y g u hM A hb B q h
   .exact q7Y g u hM A hb B q h
   .exact q6Y g u hM A hb B q h
   .exact q5Y g u hM A hb B q h
  .exact qUb g u hM A hb D q
def FiP(w:Wd)(m:Aj)(v:zg)(g':GW):Prop:=∃cs h,v=.tuple #[.agg ⟨cs⟩,.agg ⟨h⟩,.agg ⟨(fsE w m).cs⟩]/\rWo g' cs (fsW w m)/\qeA g' h (fsM w m)
def qmZ{w}(_h:InU w):InR (By w):=by
 unfold By InR;omega
def q2G(g){cs q}{w}{m:Aj}{a c x}(u:rWo g cs w)(hM:qeA g q m)(B:0<=m.Ac/\m.Ac<w.Ab.length):OkV X0 172 [.agg ⟨cs⟩,.agg ⟨q⟩,.int .i64 a,.int .i64 c,.int .i64 x] g (.agg ⟨(evV w m a c x).cs⟩):=by
 obtain⟨C,D,ae,E,H,L,M,P,Q,R,rfl⟩:=qJA u;obtain⟨T,U,V,W,Y,aa,rfl⟩:=qwB hM;obtain⟨v,h⟩:=qBA (l:=w.Ab) (i:=m.Ac.toNat) sa;have ab:mV w m=v:=by unfold mV;rw[h];rfl
 have A:=qdJ u;obtain⟨ac,rfl⟩:=qYA A h;obtain⟨af,ag,ah,ai,aj,ak,al,an,ad,_,_,_⟩:=qWF A h;unfold evV;rw[ab]
 exact Ok.Ao hm noT 0 Ik.2 (args:=[.v (.agg ⟨[.int .i64 w.Al,.int .i64 w.current,.int .i64 w.AH,.slice C w.pins.length D,.slice (O ac) w.Ab.length E,.slice H w.Aa.length L,.slice M w.counts.length P,.slice Q w.Ai.length R]⟩),.v (.agg ⟨mQ m T U V W Y aa⟩),.v (.int .i64 a),.v (.int .i64 c),.v (.int .i64 x)]) (by
  refine zq ?_;intros
  repeat'((first|refine⟨_,rfl,B,?_⟩|refine⟨_,ad 4 _ rfl,?_⟩|refine zI ?_ ?_|fail)<;>first|(refine zq ?_;intros)|rfl)
  all_goals(conv=>whnf)
  all_goals(first|exact zAx _|(intro ao ap;rfl)))
def qkb(g){cs H}{w}{m:Aj}(ab:rWo g cs w)(hM:qeA g H m)(ac:SnW w)(hb:BgW 1000000 w)(L:fGo w m)(A:m.pc=0):Ok X0 148 [.agg ⟨cs⟩,.agg ⟨H⟩] g (FiP w m):=by
 obtain⟨M,hM9,B⟩:=qfN L;obtain⟨P,Q,kE⟩:=fa0 (w:=w) A;rw[P]at M;rw[Q]at hM9;rw[kE]at B;clear P Q kE;have hs:=L.1;obtain⟨v,aL,R,h⟩:=id (Ar.1 hs);obtain⟨ad,ae,af,ag,ah,ai,aj,ak,al,an,ao,ap,aq,ar,au,av,rfl,rfl,C,T,⟨aM,aN,aO⟩,aP,aQ,aR,aT,aU,⟨aV,aW,aX,aY⟩,⟨b1,aw,aZ,a0⟩,⟨c1,c2,c0,a1⟩,⟨a2,a3,a4,a5⟩,⟨a6,a7,a8,a9⟩,U,ax,ay⟩:=qaB ab hM
 exact Ok.Ao hm noT 0 BJ.2 (args:=[.v (.agg ⟨wQ w ad ae af ag ah ai aj ak al an⟩),.v (.agg ⟨mQ m ao ap aq ar au av⟩)]) (by
  refine zq ?_;intros;refine dF sa (zq ?_);intros;refine dF sa (zq ?_);intros;refine .inl ⟨_,qVA _ C T ac hb,zq ?_⟩;intros;refine⟨λq=>absurd (hs.symm.trans (nb1 q)) sb,λ_=>zq ?_⟩;intros;refine⟨λq=>absurd (B9 q) sa,λ_=>zq ?_⟩;intros;refine .inr ((qSA _ C hb).mono λv ba D az=>?_);obtain⟨cs,bb,rfl,V⟩:=az;have E:=qcA V;obtain⟨bc,bd,be,bf,bg,bh,bi,bj,bl,bm,rfl⟩:=qJA E;have aA:=U.word;have aB:=qCA _ _ _ _ D C;have hM3:=qUA _ _ _ _ D T;obtain⟨b1,bn,aw,bo,bp,bq,br,bt,bu,aC,aD,aE,bv,aF,_,bw⟩:=q4E V h.ver.2 h.clu.2;cases aC;have u:=(qMH E h.ver.2 h.clu.2 h.An.2).1;obtain⟨W,aG,aH⟩:=h.idx;obtain⟨bx,bz,aI⟩:=h.at_;have aJ:zAf.wrap (m.pc+1)=1:=by rw[A];rfl
  obtain⟨bA,bB,bC,bD,aK,Y,bE,bF⟩:=qfC aF h.An.2 (en':=R) (o:=0) (vs:=[.int .u64 R.head]) sd (by simp[zA0]) (λn=>rfl) rfl ⟨u.1,u.2.1⟩;subst aK;rw[aI]at hM9 B;refine zq ?_;intros
  repeat'((first|refine⟨_,rfl,W,zq ?_⟩|refine⟨_,aD 3 _ rfl,zq ?_⟩|refine⟨_,rfl,aG,zq ?_⟩|refine⟨_,aE 1 _ rfl,zq ?_⟩|refine⟨_,rfl,aH,zq ?_⟩|refine .inl ⟨_,q2B _ aA,zq ?_⟩|refine .inl ⟨_,q2B _ u.1,zq ?_⟩|refine⟨_,Y 0 _ rfl,zq ?_⟩|refine .inl ⟨_,q2G _ aB hM3 W,zq ?_⟩|rfl)<;>intros)
  refine⟨λ_=>zq ?_,λq=>absurd A (Ea q)⟩;intros
  repeat'((first|refine⟨_,Y 0 _ rfl,?_⟩|refine zI ?_ ?_|fail)<;>first|(refine zq ?_;intros)|rfl)
  all_goals(conv=>whnf)
  all_goals(first|exact zAx _|(
   intro bG aa;refine⟨_,_,by rw[B]<;>rfl,by rw[M];exact qCA _ _ _ _ aa E,?_⟩;rw[hM9,aJ]
   exact⟨_,_,_,rfl,{U with pc:=show InR (1:zn) by decide,word:=u.1},ax,qAA _ _ _ _ (GW.trans D aa) ay⟩)))
def qjb(g){cs H}{w}{m:Aj}(af:rWo g cs w)(hM:qeA g H m)(ag:SnW w)(hb:BgW 1000000 w)(L:fGo w m)(u:m.pc=1):Ok X0 148 [.agg ⟨cs⟩,.agg ⟨H⟩] g (FiP w m):=by
 obtain⟨B,hM9,M⟩:=qfN L;obtain⟨P,Q,kE⟩:=fa1 (w:=w) u;rw[P]at B;rw[Q]at hM9;rw[kE]at M;clear P Q kE;have hs:=L.1;obtain⟨v,a8,ah,h⟩:=id (Ar.1 hs);obtain⟨ai,aj,ak,al,an,ao,ap,aq,ar,au,av,aw,ax,ay,az,aA,rfl,rfl,C,R,⟨a9,ba,bb⟩,bc,bd,be,bf,bg,⟨bh,bi,bj,bl⟩,⟨b1,aB,bm,bn⟩,⟨c1,c2,c0,bo⟩,⟨bp,bq,br,bt⟩,⟨bu,bv,bw,bx⟩,T,aC,aD⟩:=qaB af hM
 exact Ok.Ao hm noT 0 BJ.2 (args:=[.v (.agg ⟨wQ w ai aj ak al an ao ap aq ar au⟩),.v (.agg ⟨mQ m av aw ax ay az aA⟩)]) (by
  refine zq ?_;intros;refine dF sa (zq ?_);intros;refine dF sa (zq ?_);intros;refine .inl ⟨_,qVA _ C R ag hb,zq ?_⟩;intros;refine⟨λq=>absurd (hs.symm.trans (nb1 q)) sb,λ_=>zq ?_⟩;intros;refine⟨λq=>absurd (B9 q) sa,λ_=>zq ?_⟩;intros;refine .inr ((qSA _ C hb).mono λv bz D aE=>?_);obtain⟨cs,bA,rfl,U⟩:=aE;have V:=qcA U;obtain⟨bB,bC,bD,bE,bF,bG,bH,bI,bJ,bK,rfl⟩:=qJA V;have W:=T.word;have aF:=qCA _ _ _ _ D C;have hM3:=qUA _ _ _ _ D R;obtain⟨b1,bL,aB,bM,bN,bO,bP,bQ,bR,aG,aH,aI,bT,aJ,_,aK⟩:=q4E U h.ver.2 h.clu.2;cases aG;have aL:=(qMH V h.ver.2 h.clu.2 h.An.2).1;obtain⟨Y,aM,aN⟩:=h.idx;obtain⟨aO,aP,aQ⟩:=h.at_;have aR:zAf.wrap (m.pc+1)=2:=by rw[u];rfl
  have aT:=h.slot;obtain⟨y,aU⟩:=qBA (l:=ah.next) (i:=m.slot.toNat) sa;obtain⟨bU,bW,bX,bY,aV,aa,aW⟩:=qxR aJ h.An.2 (s:=m.slot.toNat) aU (qmZ W);subst aV;obtain⟨aX,aY,aZ,a0,⟨A,a1,ab,a2,ac⟩,_,a3⟩:=aK _ _ _ aW;rw[aQ,Es,aO,aP]at B;refine zq ?_;intros
  repeat'((first|refine⟨_,rfl,Y,zq ?_⟩|refine⟨_,aH 3 _ rfl,zq ?_⟩|refine⟨_,rfl,aM,zq ?_⟩|refine⟨_,aI 1 _ rfl,zq ?_⟩|refine⟨_,rfl,aN,zq ?_⟩|refine .inl ⟨_,q2B _ W,zq ?_⟩|refine .inl ⟨_,q2B _ aL.1,zq ?_⟩|refine⟨_,aa 0 _ rfl,zq ?_⟩|refine .inl ⟨_,q2G _ aF hM3 Y,zq ?_⟩|rfl)<;>intros)
  refine⟨λq=>absurd ((B9 q).symm.trans u) sb,λ_=>zq ?_⟩;intros;refine⟨λ_=>zq ?_,λq=>absurd u (Ea q)⟩;intros
  repeat'((first|refine⟨_,aa 1 _ rfl,zq ?_⟩|refine⟨_,rfl,aT,zq ?_⟩|rfl)<;>intros)
  refine⟨aX,aY,aZ,a0,⟨by first|exact A|(rw[<-A];rfl)|(rw[<-A,qgB]),a1,ab,a2,ac⟩,zq ?_⟩;intros;refine λad E=>?_;have a4:=qcA (a3 ad E);have a5:g<=ad:=E.le D (λa6=>by have:=g.wf _ a6;omega);have a7:=E.rd ab ac;rw[<-A]at a7;refine zq ?_;intros
  repeat'((first|refine zI ?_ ?_|fail)<;>first|(refine zq ?_;intros)|rfl)
  all_goals(conv=>whnf)
  all_goals(first|exact zAx _|(
   intro bZ ae;refine⟨_,_,by rw[M]<;>rfl,by rw[B];exact qCA _ _ _ _ ae a4,?_⟩;rw[hM9,aR]
   exact⟨_,_,_,rfl,{T with pc:=show InR (2:zn) by decide},aC,qAA _ _ _ _ (GW.trans a5 ae) aD⟩)))
def qib(g){cs aa}{w}{m:Aj}(ax:rWo g cs w)(hM:qeA g aa m)(ay:SnW w)(hb:BgW 1000000 w)(ab:fGo w m)(u:m.pc=2):Ok X0 148 [.agg ⟨cs⟩,.agg ⟨aa⟩] g (FiP w m):=by
 obtain⟨A,hM9,B⟩:=qfN ab;obtain⟨ac,ad,kE⟩:=fa2 (w:=w) u;rw[ac]at A;rw[ad]at hM9;rw[kE]at B;clear ac ad kE;have hs:=ab.1;obtain⟨v,be,C,q⟩:=id (Ar.1 hs);obtain⟨az,aA,aB,aC,aD,aE,aF,aG,aH,aI,aJ,aK,aL,aM,aN,aO,rfl,rfl,R,ae,⟨bf,bg,bh⟩,bi,bj,bl,bm,bn,⟨bo,bp,bq,br⟩,⟨b1,aP,bt,bu⟩,⟨c1,c2,c0,bv⟩,⟨bw,bx,bz,bA⟩,⟨bB,bC,bD,bE⟩,T,af,ag⟩:=qaB ax hM
 exact Ok.Ao hm noT 0 BJ.2 (args:=[.v (.agg ⟨wQ w az aA aB aC aD aE aF aG aH aI⟩),.v (.agg ⟨mQ m aJ aK aL aM aN aO⟩)]) (by
  refine zq ?_;intros;refine dF sa (zq ?_);intros;refine dF sa (zq ?_);intros;refine .inl ⟨_,qVA _ R ae ay hb,zq ?_⟩;intros;refine⟨λh=>absurd (hs.symm.trans (nb1 h)) sb,λ_=>zq ?_⟩;intros;refine⟨λh=>absurd (B9 h) sa,λ_=>zq ?_⟩;intros;refine .inr ((qSA _ R hb).mono λv bF L aQ=>?_);obtain⟨cs,bG,rfl,ah⟩:=aQ;have U:=qcA ah;obtain⟨bH,bI,bJ,bK,bL,bM,bN,bO,bP,bQ,rfl⟩:=qJA U;have V:=T.word;have ai:=qCA _ _ _ _ L R;have hM3:=qUA _ _ _ _ L ae;obtain⟨b1,bR,aP,bT,bU,bW,bX,bY,bZ,aR,aj,ak,b0,al,_,aT⟩:=q4E ah q.ver.2 q.clu.2;cases aR;have D:=(qMH U q.ver.2 q.clu.2 q.An.2).1;obtain⟨M,an,ao⟩:=q.idx;obtain⟨aU,aV,ap⟩:=q.at_;have b2:=q.slot;obtain⟨y,b3⟩:=qBA (l:=C.next) (i:=m.slot.toNat) sa;have b4:=(qCC q.Bv).2.2.1;have aq:-1<=m.slot/\m.slot<=2147483646:=sa
  rw[ap,Es,aU,aV]at A;rw[ap]at hM9 B;by_cases P:C.head=m.word
  .have aW:zAf.wrap (m.pc+1)=3:=by rw[u];rfl
   rw[zk P]at A hM9 B;obtain⟨aX,aY,aZ,a0,W,E,a1,ar⟩:=qfC al q.An.2 (en':={C with head:=qHD m.word m.slot}) (o:=0) (vs:=[.int .u64 (qHD m.word m.slot)]) sd (by simp[zA0]) (λn=>rfl) rfl ⟨qrO aq,D.2.1⟩;subst W;obtain⟨a2,a3,a4,a5,⟨Q,a6,au,a7,av⟩,_,a8⟩:=aT _ _ _ ar;refine zq ?_;intros
   repeat'((first|refine⟨_,rfl,M,zq ?_⟩|refine⟨_,aj 3 _ rfl,zq ?_⟩|refine⟨_,rfl,an,zq ?_⟩|refine⟨_,ak 1 _ rfl,zq ?_⟩|refine⟨_,rfl,ao,zq ?_⟩|refine .inl ⟨_,q2B _ V,zq ?_⟩|refine .inl ⟨_,q2B _ D.1,zq ?_⟩|refine⟨_,E 0 _ rfl,zq ?_⟩|refine .inl ⟨_,q2G _ ai hM3 M,zq ?_⟩|rfl)<;>intros)
   refine⟨λh=>absurd ((B9 h).symm.trans u) sb,λ_=>zq ?_⟩;intros;refine⟨λh=>absurd ((B9 h).symm.trans u) sb,λ_=>zq ?_⟩;intros;refine⟨λ_=>zq ?_,λh=>absurd u (Ea h)⟩;intros
   repeat'((first|refine⟨_,E 0 _ rfl,zq ?_⟩|rfl)<;>intros)
   refine⟨λh=>absurd P (E3 h),λ_=>zq ?_⟩;intros
   repeat'((first|refine .inl ⟨_,qWQ _ V aq,zq ?_⟩|rfl)<;>intros)
   refine⟨a2,a3,a4,a5,⟨by first|exact Q|(rw[<-Q];rfl)|(rw[<-Q,qgB]),a6,au,a7,av⟩,zq ?_⟩;intros;refine λaw Y=>?_;have a9:=qcA (a8 aw Y);have ba:g<=aw:=Y.le L (λbb=>by have:=g.wf _ bb;omega);have bc:=Y.rd au av;rw[<-Q]at bc;refine zq ?_;intros
   repeat'((first|refine zI ?_ ?_|fail)<;>first|(refine zq ?_;intros)|rfl)
   all_goals(conv=>whnf)
   all_goals(first|exact zAx _|(
    intro bd H;refine⟨_,_,by rw[B]<;>rfl,by rw[A];exact qCA _ _ _ _ H a9,?_⟩;rw[hM9,aW]
    exact⟨_,_,_,rfl,{T with pc:=show InR (3:zn) by decide},af,qAA _ _ _ _ (GW.trans ba H) ag⟩))
  .rw[zh P]at A hM9 B;obtain⟨aX,aY,aZ,a0,W,E,a1,ar⟩:=qfC al q.An.2 (en':=C) (o:=0) (vs:=[.int .u64 C.head]) sd (by simp[zA0]) (λn=>rfl) rfl ⟨D.1,D.2.1⟩;subst W;refine zq ?_;intros
   repeat'((first|refine⟨_,rfl,M,zq ?_⟩|refine⟨_,aj 3 _ rfl,zq ?_⟩|refine⟨_,rfl,an,zq ?_⟩|refine⟨_,ak 1 _ rfl,zq ?_⟩|refine⟨_,rfl,ao,zq ?_⟩|refine .inl ⟨_,q2B _ V,zq ?_⟩|refine .inl ⟨_,q2B _ D.1,zq ?_⟩|refine⟨_,E 0 _ rfl,zq ?_⟩|refine .inl ⟨_,q2G _ ai hM3 M,zq ?_⟩|rfl)<;>intros)
   refine⟨λh=>absurd ((B9 h).symm.trans u) sb,λ_=>zq ?_⟩;intros;refine⟨λh=>absurd ((B9 h).symm.trans u) sb,λ_=>zq ?_⟩;intros;refine⟨λ_=>zq ?_,λh=>absurd u (Ea h)⟩;intros
   repeat'((first|refine⟨_,E 0 _ rfl,zq ?_⟩|rfl)<;>intros)
   refine⟨λ_=>zq ?_,λh=>absurd (Ft h) P⟩;intros
   repeat'((first|refine zI ?_ ?_|fail)<;>first|(refine zq ?_;intros)|rfl)
   all_goals(conv=>whnf)
   all_goals(first|exact zAx _|(
    intro bd H;refine⟨_,_,by rw[B]<;>rfl,by rw[A];exact qCA _ _ _ _ H U,?_⟩;rw[hM9]
    exact⟨_,_,_,rfl,{T with pc:=show InR (0:zn) by decide},af,qAA _ _ _ _ (GW.trans L H) ag⟩)))
def qhb(g){cs P}{w}{m:Aj}(ah:rWo g cs w)(hM:qeA g P m)(ai:SnW w)(hb:BgW 1000000 w)(Q:fGo w m)(u:m.pc=3):Ok X0 148 [.agg ⟨cs⟩,.agg ⟨P⟩] g (FiP w m):=by
 obtain⟨A,hM9,D⟩:=qfN Q;obtain⟨R,T,kE⟩:=fa3 (w:=w) u;rw[R]at A;rw[T]at hM9;rw[kE]at D;clear R T kE;have hs:=Q.1;obtain⟨v,a8,B,q⟩:=id (Ar.1 hs);obtain⟨aj,ak,al,an,ao,ap,aq,ar,au,av,aw,ax,ay,az,aA,aB,rfl,rfl,E,U,⟨a9,ba,bb⟩,bc,bd,be,bf,bg,⟨bh,bi,bj,bl⟩,⟨b1,aC,bm,bn⟩,⟨c1,c2,c0,bo⟩,⟨bp,bq,br,bt⟩,⟨bu,bv,bw,bx⟩,V,aD,aE⟩:=qaB ah hM
 exact Ok.Ao hm noT 0 BJ.2 (args:=[.v (.agg ⟨wQ w aj ak al an ao ap aq ar au av⟩),.v (.agg ⟨mQ m aw ax ay az aA aB⟩)]) (by
  refine zq ?_;intros;refine dF sa (zq ?_);intros;refine dF sa (zq ?_);intros;refine .inl ⟨_,qVA _ E U ai hb,zq ?_⟩;intros;refine⟨λh=>absurd (hs.symm.trans (nb1 h)) sb,λ_=>zq ?_⟩;intros;refine⟨λh=>absurd (B9 h) sa,λ_=>zq ?_⟩;intros;refine .inr ((qSA _ E hb).mono λv bz H aF=>?_);obtain⟨cs,bA,rfl,W⟩:=aF;have Y:=qcA W;obtain⟨bB,bC,bD,bE,bF,bG,bH,bI,bJ,bK,rfl⟩:=qJA Y;have aG:=V.word;have aH:=qCA _ _ _ _ H E;have hM3:=qUA _ _ _ _ H U;obtain⟨b1,bL,aC,bM,bN,bO,bP,bQ,bR,aI,aJ,aK,bT,aL,_,aM⟩:=q4E W q.ver.2 q.clu.2;cases aI;have aa:=(qMH Y q.ver.2 q.clu.2 q.An.2).1;obtain⟨ab,aN,aO⟩:=q.idx;obtain⟨aP,aQ,aR⟩:=q.at_;have aT:zAf.wrap (m.pc+1)=4:=by rw[u];rfl
  obtain⟨aU,bU,bW,bX,aV,ac,bY,aW⟩:=qfC aL q.An.2 (en':={B with Ah:=wI (B.Ah-1)}) (o:=2) (vs:=[.int .i64 (wI (B.Ah-1))]) sd (by simp[zA0]) (λn=>rfl) rfl ⟨aa.1,q8A _⟩;subst aV;obtain⟨aX,aY,aZ,a0,⟨C,a1,ad,a2,ae⟩,_,a3⟩:=aM _ _ _ aW;rw[aR]at A D;rw[Es,aP,aQ]at A;refine zq ?_;intros
  repeat'((first|refine⟨_,rfl,ab,zq ?_⟩|refine⟨_,aJ 3 _ rfl,zq ?_⟩|refine⟨_,rfl,aN,zq ?_⟩|refine⟨_,aK 1 _ rfl,zq ?_⟩|refine⟨_,rfl,aO,zq ?_⟩|refine .inl ⟨_,q2B _ aG,zq ?_⟩|refine .inl ⟨_,q2B _ aa.1,zq ?_⟩|refine⟨_,ac 0 _ rfl,zq ?_⟩|refine .inl ⟨_,q2G _ aH hM3 ab,zq ?_⟩|rfl)<;>intros)
  refine⟨λh=>absurd ((B9 h).symm.trans u) sb,λ_=>zq ?_⟩;intros;refine⟨λh=>absurd ((B9 h).symm.trans u) sb,λ_=>zq ?_⟩;intros;refine⟨λh=>absurd ((B9 h).symm.trans u) sb,λ_=>zq ?_⟩;intros;refine⟨λ_=>zq ?_,λh=>absurd u (Ea h)⟩;intros
  repeat'((first|refine⟨_,ac 2 _ rfl,zq ?_⟩|rfl)<;>intros)
  refine⟨aX,aY,aZ,a0,⟨by first|exact C|(rw[<-C];rfl)|(rw[<-C,qgB]),a1,ad,a2,ae⟩,zq ?_⟩;intros;refine λL M=>?_;have a4:=qcA (a3 L M);have a5:g<=L:=M.le H (λa6=>by have:=g.wf _ a6;omega);have af:=M.rd ad ae;rw[<-C]at af;have a7:Rc L (((⟨aU,0,zc⟩:zAH).add (m.An.toNat*3)).add 2) (.int .i64 (wI (B.Ah-1))):=af 0 _ rfl;refine zq ?_;intros
  repeat'((first|refine⟨_,a7,?_⟩|refine zI ?_ ?_|fail)<;>first|(refine zq ?_;intros)|rfl)
  all_goals(conv=>whnf)
  all_goals(first|exact zAx _|(
   intro bZ ag;refine⟨_,_,by rw[D]<;>rfl,by rw[A];exact qCA _ _ _ _ ag a4,?_⟩;rw[hM9,aT]
   exact⟨_,_,_,rfl,{V with pc:=show InR (4:zn) by decide},aD,qAA _ _ _ _ (GW.trans a5 ag) aE⟩)))
def qgb(g){cs Q}{w}{m:Aj}(ad:rWo g cs w)(hM:qeA g Q m)(ae:SnW w)(hb:BgW 1000000 w)(B:fGo w m)(u:m.pc=4):Ok X0 148 [.agg ⟨cs⟩,.agg ⟨Q⟩] g (FiP w m):=by
 obtain⟨C,hM9,D⟩:=qfN B;obtain⟨R,T,kE⟩:=fa4 (w:=w) u;rw[R]at C;rw[T]at hM9;rw[kE]at D;clear R T kE;have hs:=B.1;obtain⟨v,a3,U,q⟩:=id (Ar.1 hs);obtain⟨af,ag,ah,ai,aj,ak,al,an,ao,ap,aq,ar,au,av,aw,ax,rfl,rfl,E,V,⟨a4,a5,a6⟩,a7,a8,a9,ba,bb,⟨bc,bd,be,bf⟩,⟨b1,ay,bg,bh⟩,⟨c1,c2,c0,bi⟩,⟨bj,bl,bm,bn⟩,⟨bo,bp,bq,br⟩,A,az,aA⟩:=qaB ad hM
 exact Ok.Ao hm noT 0 BJ.2 (args:=[.v (.agg ⟨wQ w af ag ah ai aj ak al an ao ap⟩),.v (.agg ⟨mQ m aq ar au av aw ax⟩)]) (by
  refine zq ?_;intros;refine dF sa (zq ?_);intros;refine dF sa (zq ?_);intros;refine .inl ⟨_,qVA _ E V ae hb,zq ?_⟩;intros;refine⟨λh=>absurd (hs.symm.trans (nb1 h)) sb,λ_=>zq ?_⟩;intros;have bt:0<=m.listen:=by have:=B.2.2;omega
  refine zw ?_;refine⟨λ_=>zq ?_,λh=>absurd u (Ea h)⟩;intros;refine dF sa (zq ?_);intros;refine .inr ((qSA _ E hb).mono λv bu H aB=>?_);obtain⟨cs,bv,rfl,L⟩:=aB;have M:=qcA L;obtain⟨bw,bx,bz,bA,bB,bC,bD,bE,bF,bG,rfl⟩:=qJA M;have aC:=A.word;have aD:=qCA _ _ _ _ H E;have hM3:=qUA _ _ _ _ H V;obtain⟨b1,bH,ay,bI,bJ,bK,bL,bM,bN,aE,aF,aG,bO,aH,_,bP⟩:=q4E L q.ver.2 q.clu.2;cases aE;have P:=(qMH M q.ver.2 q.clu.2 q.An.2).1;obtain⟨W,aI,aJ⟩:=q.idx;obtain⟨bQ,bR,bT⟩:=q.at_;obtain⟨bU,bW,bX,bY,aK,aL,bZ,b0⟩:=qfC aH q.An.2 (en':=U) (o:=0) (vs:=[.int .u64 U.head]) sd (by simp[zA0]) (λn=>rfl) rfl ⟨P.1,P.2.1⟩;subst aK;obtain⟨x,h⟩:=qBA (l:=w.Aa) (i:=m.listen.toNat) (by have:=q.listen;omega);have aM:mL w m=x:=by unfold mL;rw[h];rfl
  rw[aM]at C D;have b2:=q.listen;obtain⟨bk,cap,aN,b3,aO,aP,aQ,aR,⟨aT,aU,aV,aW,aX⟩,_,aY⟩:=qqJ L h (x':={x with Ah:=wI (x.Ah-1)}) (o:=2) (vs:=[.int .i64 (wI (x.Ah-1))]) sd (by simp[zA0]) rfl (q8A _);cases aN;obtain⟨b4,aZ⟩:=qnG (qDI M) h;refine zq ?_;intros
  repeat'((first|refine⟨_,rfl,W,zq ?_⟩|refine⟨_,aF 3 _ rfl,zq ?_⟩|refine⟨_,rfl,aI,zq ?_⟩|refine⟨_,aG 1 _ rfl,zq ?_⟩|refine⟨_,rfl,aJ,zq ?_⟩|refine .inl ⟨_,q2B _ aC,zq ?_⟩|refine .inl ⟨_,q2B _ P.1,zq ?_⟩|refine⟨_,aL 0 _ rfl,zq ?_⟩|refine .inl ⟨_,q2G _ aD hM3 W,zq ?_⟩|rfl)<;>intros)
  refine⟨λh=>absurd ((B9 h).symm.trans u) sb,λ_=>zq ?_⟩;intros;refine⟨λh=>absurd ((B9 h).symm.trans u) sb,λ_=>zq ?_⟩;intros;refine⟨λh=>absurd ((B9 h).symm.trans u) sb,λ_=>zq ?_⟩;intros;refine⟨λh=>absurd ((B9 h).symm.trans u) sb,λ_=>zq ?_⟩;intros;refine⟨λ_=>zq ?_,λh=>absurd u (Ea h)⟩;intros
  repeat'((first|refine⟨_,rfl,⟨sa,sa⟩,zq ?_⟩|refine⟨_,aZ 2 _ rfl,zq ?_⟩|rfl)<;>intros)
  refine⟨aO,aP,aQ,aR,⟨aT,aU,aV,aW,aX⟩,zq ?_⟩;intros;refine λY aa=>?_;have ab:=qcA (aY Y aa);have a0:g<=Y:=aa.le H (λa1=>by have:=g.wf _ a1;omega);obtain⟨_,a2⟩:=qnG (qDI ab) (i:=m.listen.toNat) (x:={x with Ah:=wI (x.Ah-1)}) (by simp only[zAF];simp;omega);refine zq ?_;intros
  repeat'((first|refine⟨_,a2 2 _ rfl,?_⟩|refine zI ?_ ?_|fail)<;>first|(refine zq ?_;intros)|rfl)
  all_goals(conv=>whnf)
  all_goals(first|exact zAx _|(
   intro b5 ac;refine⟨_,_,by rw[D]<;>rfl,by rw[C];exact qCA _ _ _ _ ac ab,?_⟩;rw[hM9]
   exact⟨_,_,_,rfl,{A with answer:=⟨(by decide:InR 6),A.Ac,A.Ak,A.An,A.slot,A.listen,z0,qEG⟩},az,qAA _ _ _ _ (GW.trans a0 ac) aA⟩)))
def qfb(g){cs E}{w}{m:Aj}(aa:rWo g cs w)(hM:qeA g E m)(ab:SnW w)(hb:BgW 1000000 w)(H:fGo w m)(u:m.pc=9):Ok X0 148 [.agg ⟨cs⟩,.agg ⟨E⟩] g (FiP w m):=by
 obtain⟨L,hM9,M⟩:=qfN H;obtain⟨P,Q,kE⟩:=fa9 (w:=w) u;rw[P]at L;rw[Q]at hM9;rw[kE]at M;clear P Q kE;have hs:=H.1;obtain⟨v,aJ,R,q⟩:=id (Ar.1 hs);obtain⟨ac,ad,ae,af,ag,ah,ai,aj,ak,al,an,ao,ap,aq,ar,au,rfl,rfl,A,T,⟨aK,aL,aM⟩,aN,aO,aP,aQ,aR,⟨aT,aU,aV,aW⟩,⟨b1,av,aX,aY⟩,⟨c1,c2,c0,aZ⟩,⟨a0,a1,a2,a3⟩,⟨a4,a5,a6,a7⟩,U,aw,ax⟩:=qaB aa hM
 exact Ok.Ao hm noT 0 BJ.2 (args:=[.v (.agg ⟨wQ w ac ad ae af ag ah ai aj ak al⟩),.v (.agg ⟨mQ m an ao ap aq ar au⟩)]) (by
  refine zq ?_;intros;refine dF sa (zq ?_);intros;refine dT sa (zq ?_);intros;refine⟨λh=>absurd u (E3 h),λ_=>zq ?_⟩;intros;refine .inl ⟨_,qVA _ A T ab hb,zq ?_⟩;intros;refine⟨λh=>absurd (hs.symm.trans (nb1 h)) sb,λ_=>zq ?_⟩;intros;refine⟨λh=>absurd (B9 h) sa,λ_=>zq ?_⟩;intros;refine .inr ((qSA _ A hb).mono λv a8 B ay=>?_);obtain⟨cs,a9,rfl,V⟩:=ay;have C:=qcA V;obtain⟨ba,bb,bc,bd,be,bf,bg,bh,bi,bj,rfl⟩:=qJA C;have az:=U.word;have aA:=qCA _ _ _ _ B A;have hM3:=qUA _ _ _ _ B T;obtain⟨b1,bl,av,bm,bn,bo,bp,bq,br,aB,aC,aD,bt,aE,_,bu⟩:=q4E V q.ver.2 q.clu.2;cases aB;have D:=(qMH C q.ver.2 q.clu.2 q.An.2).1;obtain⟨W,aF,aG⟩:=q.idx;obtain⟨bv,bw,bx⟩:=q.at_;obtain⟨bz,bA,bB,bC,aH,aI,bD,bE⟩:=qfC aE q.An.2 (en':=R) (o:=0) (vs:=[.int .u64 R.head]) sd (by simp[zA0]) (λn=>rfl) rfl ⟨D.1,D.2.1⟩;subst aH;refine zq ?_;intros
  repeat'((first|refine⟨_,rfl,W,zq ?_⟩|refine⟨_,aC 3 _ rfl,zq ?_⟩|refine⟨_,rfl,aF,zq ?_⟩|refine⟨_,aD 1 _ rfl,zq ?_⟩|refine⟨_,rfl,aG,zq ?_⟩|refine .inl ⟨_,q2B _ az,zq ?_⟩|refine .inl ⟨_,q2B _ D.1,zq ?_⟩|refine⟨_,aI 0 _ rfl,zq ?_⟩|refine .inl ⟨_,q2G _ aA hM3 W,zq ?_⟩|rfl)<;>intros)
  refine⟨λh=>absurd ((B9 h).symm.trans u) sb,λ_=>zq ?_⟩;intros;refine⟨λh=>absurd ((B9 h).symm.trans u) sb,λ_=>zq ?_⟩;intros;refine⟨λh=>absurd ((B9 h).symm.trans u) sb,λ_=>zq ?_⟩;intros;refine⟨λh=>absurd ((B9 h).symm.trans u) sb,λ_=>zq ?_⟩;intros;refine⟨λh=>absurd ((B9 h).symm.trans u) sb,λ_=>zq ?_⟩;intros
  repeat'((first|refine zI ?_ ?_|fail)<;>first|(refine zq ?_;intros)|rfl)
  all_goals(conv=>whnf)
  all_goals(first|exact zAx _|(
   intro bF Y;refine⟨_,_,by rw[M]<;>rfl,by rw[L];exact qCA _ _ _ _ Y C,?_⟩;rw[hM9]
   exact⟨_,_,_,rfl,{U with answer:=⟨(by decide:InR 7),z0,z0,z0,z0,z0,z0,qEG⟩},aw,qAA _ _ _ _ (GW.trans B Y) ax⟩)))
def qeb(g){cs E}{w}{m:Aj}(al:rWo g cs w)(hM:qeA g E m)(an:SnW w)(hb:BgW 1000000 w)(A:¬fGo w m):Ok X0 148 [.agg ⟨cs⟩,.agg ⟨E⟩] g (FiP w m):=by
 obtain⟨H,L,M,P,Q,R,T,U,V,W,Y,aa,ab,ac,ad,ae,rfl,rfl,af,ag,⟨ar,au,av⟩,aw,ax,ay,az,aA,⟨aB,aC,aD,aE⟩,⟨b1,aF,aG,aH⟩,⟨c1,c2,c0,aI⟩,⟨aJ,aK,aL,aM⟩,⟨aN,aO,aP,aQ⟩,aR,aT,aU⟩:=qaB al hM
 exact Ok.Ao hm noT 0 BJ.2 (args:=[.v (.agg ⟨wQ w H L M P Q R T U V W⟩),.v (.agg ⟨mQ m Y aa ab ac ad ae⟩)]) (by
  have h:∀B,g<=B->FiP w m (.tuple #[.agg ⟨wQ w H L M P Q R T U V W⟩,.agg ⟨mQ m Y aa ab ac ad ae⟩,.agg ⟨ev0.cs⟩]) B:=by
   intro B ah;obtain⟨ao,ap,aq⟩:=Ng A;exact⟨_,_,by rw[aq]<;>rfl,by rw[ao];exact qCA _ _ _ _ ah af,by rw[ap];exact qUA _ _ _ _ ah ag⟩
  refine zq ?_;intros;refine zI (λz1=>?_) (λz1=>?_)
  .refine zq ?_;intros
   repeat'((first|refine zI ?_ ?_|fail)<;>first|(refine zq ?_;intros)|rfl)
   all_goals(conv=>whnf)
   all_goals(first|exact zAx _|exact h)
  have z1:=zf z1;refine zq ?_;intros;refine zI (λq=>?_) (λq=>?_)
  case' refine_1=>
   have q:=ze q;refine zq ?_;intros;refine zI (λai=>?_) (λai=>?_)
   .refine zq ?_;intros
    repeat'((first|refine zI ?_ ?_|fail)<;>first|(refine zq ?_;intros)|rfl)
    all_goals(conv=>whnf)
    all_goals(first|exact zAx _|exact h)
   have C:(0<=m.pc/\m.pc<=4)\/m.pc=9:=.inr (Ft ai)
  case' refine_2=>have C:(0<=m.pc/\m.pc<=4)\/m.pc=9:=.inl (by have:=zf q;omega)
  all_goals(
   refine zq ?_;intros;refine .inl ⟨_,qVA _ af ag an hb,zq ?_⟩;intros;refine zI (λaj=>?_) (λaj=>?_)
   .refine zq ?_;intros
    repeat'((first|refine zI ?_ ?_|fail)<;>first|(refine zq ?_;intros)|rfl)
    all_goals(conv=>whnf)
    all_goals(first|exact zAx _|exact h)
   have hs:=nb0 aj;refine zq ?_;intros;refine zI (λu=>?_) (λu=>?_)
   .have u:=B9 u;refine zq ?_;intros;refine zI (λak=>?_) (λak=>?_)
    .refine zq ?_;intros
     repeat'((first|refine zI ?_ ?_|fail)<;>first|(refine zq ?_;intros)|rfl)
     all_goals(conv=>whnf)
     all_goals(first|exact zAx _|exact h)
    .exact absurd ⟨hs,C,λD=>absurd D.2 (by have:=zf ak;omega)⟩ A
   .exact absurd ⟨hs,C,λD=>absurd D.1 (Ea u)⟩ A))
def qXW(g){cs B}{w}{m:Aj}(u:rWo g cs w)(hM:qeA g B m)(A:SnW w)(hb:BgW 1000000 w):Ok X0 148 [.agg ⟨cs⟩,.agg ⟨B⟩] g (FiP w m):=by
 by_cases q:fGo w m
 .rcases(show m.pc=0\/m.pc=1\/m.pc=2\/m.pc=3\/m.pc=4\/m.pc=9 by have:=q.2.1;omega)with h|h|h|h|h|h
  .exact qkb g u hM A hb q h
  .exact qjb g u hM A hb q h
  .exact qib g u hM A hb q h
  .exact qhb g u hM A hb q h
  .exact qgb g u hM A hb q h
  .exact qfb g u hM A hb q h
 .exact qeb g u hM A hb q
def tLa:F (Z×FnI):=[(93,Av.1),(134,Aw.1),(223,FM.1)]
def qpa:qqB X0 tLa:=qPA Av.2 (qPA Aw.2 (qPA FM.2 noT))
def q2Y(g){cs P}{w}{m:Aj}(A:rWo g cs w)(hM:qeA g P m):OkV X0 174 [.agg ⟨cs⟩,.agg ⟨P⟩] g (.bool (qzJ w m)):=by
 obtain⟨a,b,c,d,e,rfl,⟨aw,ax,ay⟩,Q,R,T,U,V⟩:=A;obtain⟨W,Y,rfl,az,aA,aB,aC⟩:=id Q;obtain⟨aa,ab,rfl,b1,aD,aE,aF⟩:=id R;obtain⟨ac,ad,rfl,c1,c2,c0,aG⟩:=id T;obtain⟨ae,af,rfl,aH,aI,aJ,aK⟩:=id U;obtain⟨ag,ah,rfl,ai,aj,aL,ak⟩:=id V;obtain⟨aM,aN,aO,rfl,aP,_,⟨_,_,_,h,⟨al,an,rfl,_⟩,⟨ao,ap,rfl,_⟩,⟨aq,ar,rfl,_⟩⟩⟩:=hM;cases h
 exact Ok.Ao hm qpa 4 II.2 (args:=[.v (.agg ⟨wQ w W Y aa ab ac ad ae af ag ah⟩),.v (.agg ⟨mQ m al an ao ap aq ar⟩)]) (by
  refine zq ?_;intros;refine⟨Z,λk=>[.v (.int .i64 k)],λk=>⟨g,_,_,_⟩,λk=>k<=w.Ai.length/\(w.Ai.take k).any (λr=>r.Ac==m.Ac)=zb,λk=>w.Ai.length-k,qMA 0 rfl ⟨zF _,rfl⟩ rfl,?_⟩;rintro k ⟨aQ,B⟩;refine zq ?_;intros;refine⟨λC=>?_,λC=>?_⟩
  .have q:k<w.Ai.length:=by have:=ze C;omega
   obtain⟨x,D⟩:=qBA q;obtain⟨a,rfl,aR,aT,⟨rfl,aU⟩,au⟩:=ak k x D;refine zq ?_;intros;refine⟨a,rfl,⟨sa,sa⟩,zw ?_⟩;refine⟨_,⟨rfl,au⟩,zq ?_⟩;intros;refine⟨kF,zq ?_⟩;intros;refine⟨λh=>?_,λh=>?_⟩
   .have E:qzJ w m=I:=by
     unfold qzJ;rw[zBY.2 ⟨x,zl D,by simpa using h⟩];rfl
    rw[E];refine zq ?_;intros;refine dT sa (zq ?_);intros;intro H L;rfl
   .refine zq ?_;intros;refine λaV w A=>⟨k+1,zK (λz=>[zD .i64 z]) (wr1 q ai aj).symm,⟨q,qNR B D (by simpa using h)⟩,dec q,?_⟩;exact A.fit sc
  have av:k=w.Ai.length:=by have:=zf C;omega
  rw[av,zAB]at B;have E:qzJ w m=((m.Ac==w.current)||decide (m.Al<0)||decide (w.Al<m.Al)):=by unfold qzJ;rw[B];simp
  rw[E];refine zq ?_;intros;refine dF sa (zq ?_);intros;refine⟨λu=>?_,λu=>?_⟩
  .refine zq ?_;intros;intro H L;rw[u];rfl
  refine zq ?_;intros;refine⟨λM=>?_,λM=>?_⟩
  .refine zq ?_;intros;intro H L;rw[u,M];rfl
  refine zq ?_;intros;intro H L
  rw[u,M];rfl)
def SwP(w:Wd)(m:Aj)(v:zg)(g':GW):Prop:=∃cs h,v=.tuple #[.agg ⟨cs⟩,.agg ⟨h⟩,.agg ⟨(swE w m).cs⟩]/\rWo g' cs (swW w m)/\qeA g' h (swM w m)
def tSw:F (Z×FnI):=[(176,FN.1),(177,ED.1)]
def qia:qqB X0 tSw:=qPA FN.2 (qPA ED.2 noT)
def qrT(g){h}{t a c v}(q:Rc g ⟨h,10,zc⟩ (.int .i64 t)):OkV X0 177 [.pointer (O ⟨h,0,zc⟩),.int .i64 a,.int .i64 c,.int .i64 v] g (.agg ⟨(⟨t,0,a,c,-1,zb,v,zb,zb,zb,BO⟩:Ev).cs⟩):=
 Ok.Ao hm noT 0 ED.2 (args:=[.v (.pointer (O ⟨h,0,zc⟩)),.v (.int .i64 a),.v (.int .i64 c),.v (.int .i64 v)]) (by
  refine zq ?_;intros
  repeat'((first|refine⟨_,q,zq ?_⟩|rfl)<;>intros)
  intro u w
  rfl)
def qRW(g){cs aW}{w}{m:Aj}(be:rWo g cs w)(hM:qeA g aW m)(bf:SnW w)(hb:BgW 1000000 w):Ok X0 149 [.agg ⟨cs⟩,.agg ⟨aW⟩] g (SwP w m):=by
 obtain⟨aX,aY,aZ,a0,a1,a2,a3,a4,a5,a6,ar,au,av,aw,ax,ay,rfl,rfl,ae,az,⟨ak,al,aA⟩,bQ,bR,bT,an,bU,⟨bW,bX,bY,bZ⟩,⟨b1,b0,b2,b3⟩,⟨c1,c2,c0,b4⟩,⟨b5,b6,b7,b8⟩,⟨b9,af,ca,cb⟩,C,ag,T⟩:=qaB be hM
 have ao:¬FH w m->∀A,g<=A->SwP w m (.tuple #[.agg ⟨wQ w aX aY aZ a0 a1 a2 a3 a4 a5 a6⟩,.agg ⟨mQ m ar au av aw ax ay⟩,.agg ⟨ev0.cs⟩]) A:=λh A q=>by
  obtain⟨D,E,hE⟩:=Mu (w:=w) (m:=m) h;exact⟨_,_,by rw[hE],by rw[D];exact qCA _ _ _ _ q ae,by rw[E];exact qUA _ _ _ _ q az⟩
 exact Ok.Lz hm qia 4 qhL IJ.2 (args:=[.v (.agg ⟨wQ w aX aY aZ a0 a1 a2 a3 a4 a5 a6⟩),.v (.agg ⟨mQ m ar au av aw ax ay⟩)]) (by
  refine zq ?_;intros;refine⟨λz1=>?_,λz1=>?_⟩
  .have z1:m.pc<0:=ze z1;refine zq ?_;intros;intro A q;exact ao (λh=>by have:=h.2.1;omega) _ q
  have z1:¬m.pc<0:=zf z1;refine zq ?_;intros;refine⟨λah=>?_,λah=>?_⟩
  .have ah:2<m.pc:=ze ah;refine zq ?_;intros;intro A q;exact ao (λh=>by have:=h.2.1;omega) _ q
  have ah:¬2<m.pc:=zf ah;refine zq ?_;intros;refine .inl ⟨_,qVA _ ae az bf hb,zq ?_⟩;intros;refine⟨λY=>?_,λY=>?_⟩
  .have Y:=nb1 Y;refine zq ?_;intros;intro A q;exact ao (λh=>by rw[h.1]at Y;cases Y) _ q
  have hs:=nb0 Y;refine zq ?_;intros;refine⟨λM=>?_,λM=>?_⟩
  .have M:m.pc=2:=ze M;refine zq ?_;intros;refine .inl ⟨_,q2Y _ ae az,zq ?_⟩;intros;refine⟨λU=>?_,λU=>?_⟩
   .have U:qzJ w m=I:=U;refine zq ?_;intros;intro A q;exact ao (λh=>by have:=h.2.2 M;rw[U]at this;cases this) _ q
   have U:qzJ w m=zb:=U;have ai:FH w m:=⟨hs,.inr (.inr M),λ_=>U⟩;obtain⟨D,E,hE⟩:=sw2 ai M;refine zq ?_;intros;refine .inr ((qSA _ ae hb).mono λv P V aB=>?_);obtain⟨cs,bg,rfl,aa⟩:=aB;have Q:=qcA aa;obtain⟨aC,aD,aE,aF,aG,aH,aI,aJ,a7,bh,rfl⟩:=qJA Q;refine zq ?_;intros;refine dF sa (zq ?_);intros;refine dF sa ?_;have cc:=hb.1.2.2.2.2;rcases qpW aa with⟨bi,cd,H⟩|⟨bk,cap,aK,rest,H,u,aL⟩
   .simp only[zAp]at H;obtain⟨rfl,a8,rfl⟩:=H
    have bj:F6 3 qAB P [] w.Ai/\rSl 1 BS P (.slice aC w.pins.length aD) w.pins/\rSl 5 rVe P (.slice aE w.Ab.length aF) w.Ab/\rSl 4 qeB P (.slice aG w.Aa.length aH) w.Aa/\rSl 1 F5 P (.slice aI w.counts.length aJ) w.counts:=
     ⟨by rw[bi];exact qBJ _,qEb Q,qdJ Q,qDI Q,MI Q⟩
    have a9:∀{v:zg}(L A:GW),P<=L->AX L g.w.heap.size 101 3 v 1 [.int .i64 m.Ac,.int .i64 m.Al,.bool zb]->L<=A->SwP w m (.tuple #[.agg ⟨[.int .i64 w.Al,.int .i64 w.current,.int .i64 w.AH,.slice aC w.pins.length aD,.slice aE w.Ab.length aF,.slice aG w.Aa.length aH,.slice aI w.counts.length aJ,v]⟩,.agg ⟨Aj.cs (.slice ar m.op.Ap.Aa.length au) (.slice av m.op.Ap.As.length aw) (.slice ax m.op.Ap.Ad.length ay) {m with done:=I,answer:=JA 8 m.i}⟩,.agg ⟨Ev.cs ⟨m.Ag,0,2,11,-1,zb,m.Ac,zb,zb,I,JA 8 m.i⟩⟩]) A:=λ{v}L A B R q=>by
     refine⟨_,_,by rw[hE],by rw[D];exact qCA _ _ _ _ q (q2M (x:=⟨m.Ac,m.Al,zb⟩) ⟨ak,al,aA⟩ bj B (by rw[a8];exact R) ⟨C.Ac,C.Al⟩),?_⟩;rw[E];exact⟨_,_,_,rfl,{C with answer:=qTV ⟨sb,C.i⟩},ag,qAA _ _ _ _ (GW.trans V (GW.trans B q)) T⟩
    rw[a8];cases a7 with
    |none=>
     refine zq ?_;intros;refine⟨⟨by unfold zAr;omega,sa⟩,λaM ap=>zq ?_⟩;intros;refine λL B aN R=>zq ?_;intros;intro A q;exact a9 L _ B R q
    |some bl=>
     refine zq ?_;intros;refine .inl ⟨[],⟨⟨rfl,O bl,0,rfl,zG _,zF _,(λh=>nomatch h),λi bm aO=>by simp at aO⟩,λbm aO=>by cases aO⟩,λh=>absurd h sb,λ_=>⟨⟨sb,by unfold zAr;omega,sa⟩,λaM ap=>zq ?_⟩⟩;intros;refine λL B aN R=>zq ?_;intros;intro A q;exact a9 L _ B R q
   .simp only[zAp,zBL]at H;obtain⟨rfl,rfl⟩:=H;refine zq ?_;intros;refine .inr (.inl ⟨bk,aK.flatten,rest,⟨rfl,u.1,u.2.1,u.2.2.1,u.2.2.2.1,u.2.2.2.2.1,u.2.2.2.2.2.1,u.2.2.2.2.2.2.1,u.2.2.2.2.2.2.2,by unfold zAr;omega,sa⟩,λaP ab aM ap=>zq ?_⟩);intros;refine λL B aN R=>zq ?_;intros;intro A q;have aQ:=ab.le V (λh=>by have:=g.wf _ h;omega);refine⟨_,_,by rw[hE]<;>rfl,by rw[D];exact qCA _ _ _ _ q (q2M (x:=⟨m.Ac,m.Al,zb⟩) ⟨ak,al,aA⟩ (aL aP ab) B R ⟨C.Ac,C.Al⟩),?_⟩;rw[E];exact⟨_,_,_,rfl,{C with answer:=qTV ⟨sb,C.i⟩},ag,qAA _ _ _ _ (GW.trans aQ (GW.trans B q)) T⟩
  have M:¬m.pc=2:=zf M;have ai:FH w m:=⟨hs,sa,λh=>absurd h M⟩;refine zq ?_;intros;refine .inr ((qSA _ ae hb).mono λv P V aB=>?_);obtain⟨cs,bg,rfl,aa⟩:=aB;have Q:=qcA aa;obtain⟨aC,aD,aE,aF,aG,aH,aI,aJ,a7,bh,rfl⟩:=qJA Q;refine zq ?_;intros;refine⟨λW=>?_,λW=>?_⟩;rotate_left
  .have W:¬m.pc=0:=zf W;have bn:m.pc=1:=sa
   obtain⟨D,E,hE⟩:=sw1 ai bn;refine zq ?_;intros;refine dT sa (zq ?_);intros
   repeat'((first|refine⟨_,λbo ce bp=>qrT bo (bp.2.2.2.2.1 10 _ rfl),?_⟩|refine zI ?_ ?_|fail)<;>first|(refine zq ?_;intros)|rfl)
   all_goals(conv=>whnf)
   all_goals(first|exact zAx _|(
    intro A q;refine⟨_,_,by rw[hE]<;>rfl,by rw[D];exact qCA _ _ _ _ q Q,?_⟩;rw[E]
    exact⟨_,_,_,rfl,{C with pc:=show InR (2:zn) by decide,Al:=ak},ag,qAA _ _ _ _ (GW.trans V q) T⟩))
  have W:m.pc=0:=ze W;refine zq ?_;intros;refine .inr ((Ok.sub V ((qdH g T).mono λv bq ba aR=>(⟨ba,qpE T ba aR⟩:g<=bq/\_))).mono λv cf aj aR=>?_);obtain⟨br,bt,bu,cg,x,y,z,bv,ch,rfl,aT,aU,bw⟩:=aR;rcases bw with⟨rfl,rfl,ac,rfl,rfl⟩|⟨bx,ac,rfl,rfl,rfl⟩
  .rw[show qjB m.op.Ap=qGC m.op.Ap by unfold qjB;rw[ac]]at aT;obtain⟨D,E,hE⟩:=q4S ai W ac;obtain⟨_,_,_,bz,⟨ci,cj,bA,_⟩,⟨ck,cm,rfl,_⟩,⟨cn,co,bB,_⟩⟩:=id aT;cases bz;cases bA;cases bB;refine zq ?_;intros;refine⟨λ_=>zq ?_,λh=>nomatch h⟩;intros;refine .inr ((Ok.sub bt (qfQ br aT (by have:=(Bh.1 ac).size.2.1.2;simp[qGC];omega))).mono λv cp bb an=>?_);obtain⟨bC,bD,bE,an⟩:=an;rcases an with⟨ad,cq,cr,ct,oV,nV,cV,rfl,bc⟩|⟨ad,rfl⟩
   rotate_left
   .exact absurd (qFH ac) ad
   obtain⟨_,_,_,_,aq,⟨_,_,_,bF,⟨cu,cv,rfl,_⟩,⟨cw,cx,rfl,_⟩,⟨cy,cz,rfl,_⟩⟩,⟨_,_,bG,_⟩⟩:=id bc;simp only[zAJ,zA6]at aq;obtain⟨rfl,rfl,rfl,rfl,_⟩:=aq;cases bF;cases bG;have bH:=q1b (GW.trans aj bb) aa
   have bd:w.Ab≠[]:=λh=>by
    obtain⟨cA,cB,cC,bI⟩:=Ar.1 hs;have:=bI.ver.2;rw[h]at this;simp at this
   have bJ:=hb.1.2.1;obtain⟨bk,cap,aK,rest,H,u,aL⟩:=qhQ bH bd
   have cD:bk<P.w.heap.size:=by
    obtain⟨cG,ap,_,_,aq,bK,_⟩:=qhQ aa bd;rw[aq]at H;simp only[zAp,zAk,Addr.mk.injEq]at H;have:=P.wf _ bK.2.1;omega
   simp only[zAp,zBL]at H;obtain⟨rfl,rfl⟩:=H;refine zq ?_;intros;refine⟨λ_=>zq ?_,λh=>nomatch h⟩;intros;refine⟨kF,zq ?_⟩;intros;refine .inr (.inl ⟨bk,aK.flatten,rest,⟨rfl,u.1,u.2.1,u.2.2.1,u.2.2.2.1,u.2.2.2.2.1,u.2.2.2.2.2.1,u.2.2.2.2.2.2.1,u.2.2.2.2.2.2.2,by unfold zAr;omega,sa⟩,λaP ab aM ap=>zq ?_⟩);intros;refine λL B aN R=>zq ?_;intros;intro A q
   have bL:¬bC.g bk:=λh=>by
    have cH:=u.1;rcases bE _ h with h|h
    .rcases bu _ h with h|h
     .have:=g.wf _ h;omega
     .omega
    .have:=aj.1;omega
   have aQ:=ab.le (GW.trans V (GW.trans aj bb)) (λh=>by have:=g.wf _ h;omega);have bM:=ab.le bD bL;refine⟨_,_,by rw[hE]<;>rfl,by rw[D];exact qCA _ _ _ _ q (qnY (x:=qjC (qGC m.op.Ap)) ⟨ak,al,aA⟩ bJ (aL aP ab) B R rfl (q3C _ _ _ _ (GW.trans bM B) bc)),?_⟩;rw[E];exact⟨_,_,_,rfl,{C with Ac:=al,Ak:=z0,An:=z0,other:=z0,slot:=z0,i:=show InR (w.Ab.length:zn) by unfold InR;omega,pc:=show InR (1:zn) by decide},ag,qAA _ _ _ _ (GW.trans aQ (GW.trans B q)) T⟩
  .obtain⟨af,aV,ad⟩:∃af aV,qTA m.op.Ap=O (af,aV):=by
    cases bN:qTA m.op.Ap with
    |none=>exact absurd bN ac
    |some p=>exact⟨p.1,p.2,rfl⟩
   have bO:bv=af:=by
    rw[ad]at aU;change Value.tuple #[.int .i64 af,.int .i64 aV]=_ at aU;injection aU with h
    have:=zK (λa:zR zg=>a[0]?) h;simpa using this.symm
   subst bO;obtain⟨D,E,hE⟩:=qUO ai W ad;refine zq ?_;intros;refine⟨λbP=>absurd (B9 bP) bx,λ_=>zq ?_⟩;intros;refine⟨kF,zq ?_⟩;intros;intro A q;have cI:=qiC ad;refine⟨_,_,by rw[hE]<;>rfl,by rw[D];exact qCA _ _ _ _ (GW.trans aj q) Q,?_⟩;rw[E]
   exact⟨_,_,_,rfl,{C with answer:=qVa ⟨sb,sg⟩},ag,qAA _ _ _ _ (GW.trans V (GW.trans aj q)) T⟩)
def DrP(w:Wd)(m:Aj)(v:zg)(g':GW):Prop:=∃cs h,v=.tuple #[.agg ⟨cs⟩,.agg ⟨h⟩,.agg ⟨(drE w m).cs⟩]/\rWo g' cs (drW w m)/\qeA g' h (drM w m)
def qzT(g)(x):OkV X0 179 [.agg ⟨I5 x⟩] g (.agg ⟨I5 (drL x)⟩):=
 Ok.Ao hm noT 0 HM.2 (args:=[.v (.agg ⟨I5 x⟩)]) (by
  refine zq ?_;intros;intro h q
  rfl)
def tDr:F (Z×FnI):=[(178,DE.1)]
def qsa:qqB X0 tDr:=qPA DE.2 noT
def qYW(g){cs P}{w}{m:Aj}(ae:rWo g cs w)(hM:qeA g P m)(af:SnW w)(hb:BgW 1000000 w):Ok X0 150 [.agg ⟨cs⟩,.agg ⟨P⟩] g (DrP w m):=by
 obtain⟨ag,ah,ai,aj,ak,al,an,ao,ap,aq,ar,au,av,aw,ax,ay,rfl,rfl,B,D,⟨aT,aU,aV⟩,aW,aX,aY,aZ,a0,⟨a1,a2,a3,a4⟩,⟨b1,a5,a6,a7⟩,⟨c1,c2,c0,a8⟩,⟨a9,ba,bb,bc⟩,⟨bd,be,bf,bg⟩,Q,R,T⟩:=qaB ae hM
 exact Ok.Ao hm qsa 2 Im.2 (args:=[.v (.agg ⟨wQ w ag ah ai aj ak al an ao ap aq⟩),.v (.agg ⟨mQ m ar au av aw ax ay⟩)]) (by
  refine zq ?_;intros;refine⟨λz1=>?_,λz1=>?_⟩
  .refine zq ?_;intros;intro E h;obtain⟨q,u,hE⟩:=qRc (w:=w) (m:=m) (λA=>E3 z1 A.2);exact⟨_,_,sj,by rw[q];exact qCA _ _ _ _ h B,by rw[u];exact qUA _ _ _ _ h D⟩
  refine zq ?_;intros;refine .inl ⟨_,qVA _ B D af hb,zq ?_⟩;intros;refine⟨λC=>?_,λC=>?_⟩
  .refine zq ?_;intros;intro E h;obtain⟨q,u,hE⟩:=qRc (w:=w) (m:=m) (λA=>by rw[A.1]at C;cases C);exact⟨_,_,sj,by rw[q];exact qCA _ _ _ _ h B,by rw[u];exact qUA _ _ _ _ h D⟩
  have hs:=nb0 C;have U:GQ w m:=⟨hs,Ft z1⟩;refine zq ?_;intros;refine .inr ((qSA _ B hb).mono λv bh V az=>?_);obtain⟨cs,bi,rfl,W⟩:=az;have H:=qcA W;obtain⟨bj,bl,bm,bn,bo,bp,bq,br,bt,bu,rfl⟩:=qJA H;obtain⟨_,_,_,_,_,Y,_,_,_,aa,_,_⟩:=id H;simp only[zAJ,zA6]at Y;obtain⟨_,_,_,_,_,rfl,_⟩:=Y;refine zq ?_;intros;refine .inl ⟨_,qcH _ aa _,zq ?_⟩;intros;refine⟨λL=>?_,λL=>?_⟩
  .obtain⟨q,u,hE⟩:=qLP U (show drI w m<0 from ze L);refine zq ?_;intros;intro E h;refine⟨_,_,sj,by rw[q];exact qCA _ _ _ _ h H,?_⟩;rw[u];exact⟨_,_,_,rfl,{Q with answer:=qKF sb},R,qAA _ _ _ _ (GW.trans V h) T⟩
  have ab:0<=drI w m:=by have bv:¬drI w m<0:=zf L;omega
  obtain⟨x,M,aA⟩:=qCJ (show 0<=qrB w.Aa m.op.listen from ab);have bw:drI w m<w.Aa.length:=aA;have bx:=hb.1.2.2.1;obtain⟨q,u,hE⟩:=qKP U ab M;obtain⟨_,_,aB,bz,bA,bB,aC⟩:=aa;cases aB;obtain⟨bC,rfl,bD,bE,⟨rfl,aD⟩,aE⟩:=aC _ x M;obtain⟨bk,cap,aF,bF,aG,aH,aI,aJ,⟨aK,aL,aM,aN,aO⟩,_,aP⟩:=qqJ W M (x':=drL x) (o:=0) (vs:=I5 (drL x)) sd (by simp[zA0]) rfl aD;cases aF;refine zq ?_;intros;refine⟨_,rfl,⟨by show 0<=drI w m;omega,by show drI w m<w.Aa.length;omega⟩,zq ?_⟩;intros;refine⟨_,⟨rfl,aE⟩,zq ?_⟩;intros;refine .inl ⟨_,qzT _ x,zq ?_⟩;intros;refine⟨_,rfl,⟨by show 0<=drI w m;omega,by show drI w m<w.Aa.length;omega⟩,zq ?_⟩;intros;refine⟨aG,aH,aI,aJ,⟨by rw[<-aK];rfl,aL,aM,aN,aO⟩,zq ?_⟩;intros;refine λac ad=>?_;have aQ:=qcA (aP ac ad);have aR:g<=ac:=ad.le V (λA=>by have:=g.wf _ A;omega);refine zq ?_;intros;intro E h;refine⟨_,_,sj,by rw[q];exact qCA _ _ _ _ h aQ,?_⟩;rw[u]
  exact⟨_,_,_,rfl,{Q with listen:=show InR (drI w m) by unfold InR;omega,answer:=qKF ⟨sb,sg⟩},R,qAA _ _ _ _ (GW.trans aR h) T⟩)
def NG(v:AL)(x:zg)(g':GW):Prop:=∃h cap,x=.slice h (qOB v).length cap/\rSl 3 rEn g' (.slice h (qOB v).length cap) (qOB v)
def qvE(v:AL)(k:Z):F Bz:=(v.Am.take k).flatMap λg=>g.ends
def qQJ{v}(hb:BgV 1000000 v):∀k,k<=v.Am.length->(qvE v k).length<=k*1000000
 |0,_=>by simp[qvE]
 |k+1,q=>by
  obtain⟨x,h⟩:=qBA (l:=v.Am) (i:=k) sa;have u:=qQJ hb k sa;have w:x.ends.length<=1000000:=hb.2 x (zl h)
  have:qvE v (k+1)=qvE v k++x.ends:=by
   unfold qvE;rw[zDA,h];simp
  rw[this,zAq,zCm];omega
def qQO{v}{k}{x}(h:v.Am[k]?=O x):qvE v (k+1)=qvE v k++x.ends:=by
 unfold qvE;rw[zDA,h];simp
def ecR(g:GW)(ecs:F (F zg))(l:F Bz):Prop:=ecs.length=l.length/\(∀e∈ecs,e.length=3)/\∀(i:Z)x h,l[i]?=O x->ecs[i]?=O h->rEn g h x
def ecR.app{g}{e1 e2}{u A}(D:ecR g e1 u)(h2:ecR g e2 A):ecR g (e1++e2) (u++A):=by
 obtain⟨B,b1,c1⟩:=D;obtain⟨E,H,c2⟩:=h2;refine⟨by simp[B,E],λe L=>(zL.1 L).elim (b1 e) (H e),λi x C h q=>?_⟩;rcases zAL i u.length with w|w
 .rw[zAc w]at h;rw[zAc sa]at q;exact c1 i x C h q
 .rw[zA4 w]at h;rw[zA4 sa,B]at q;exact c2 _ x C h q
def ecR.one{g}{ecs}{l}(h:ecR g ecs l):∀u∈ecs.flatten,u.oneCell'=I:=λu A=>by
 obtain⟨e,B,q⟩:=zCP.1 A;obtain⟨i,w⟩:=zT.1 B;have C:=(zd.1 w).1;obtain⟨x,D⟩:=qBA (l:=l) (i:=i) (by rw[<-h.1];exact C);obtain⟨⟨n,rfl,_,_,⟨_,_,rfl,_⟩⟩,_⟩:=h.2.2 i x e D w;simp only[zJ,zAd,zBh]at q;rcases q with rfl|rfl|rfl<;>rfl
def qcQ(g){cs}{v}(af:rVe g cs v)(hb:BgV 1000000 v):Ok X0 230 [.agg ⟨cs⟩] g (NG v):=by
 obtain⟨aC,aD,aE,aF,rfl,ag,ah⟩:=af;obtain⟨P,Q,rfl,ai,aj,aG,ak⟩:=id ah;obtain⟨_,_,_,al,⟨R,T,rfl,_⟩,⟨U,V,rfl,_⟩,⟨W,Y,rfl,_⟩⟩:=ag;cases al;have aH:=hb.1
 exact Ok.Ao hm noT 0 Hh.2 (args:=[.v (.agg ⟨[.slice R v.AO.Aa.length T,.slice U v.AO.AN.length V,.slice W v.AO.Ad.length Y,.slice P v.Am.length Q,.bool v.AV]⟩)]) (by
  refine zq ?_;intros;rename_i an;refine zw ?_;refine⟨Z×(zs zAH×Z×F (F zg)),λ(k,A,B,q)=>[.row 20 A (qvE v k).length B,.v (.int .i64 k)],λ(k,A,B,q)=>⟨g,.row 20 A (qvE v k).length B 141 3 q.flatten::.blk 0 an 71 [.v (.slice R v.AO.Aa.length T),.v (.slice U v.AO.AN.length V),.v (.slice W v.AO.Ad.length Y),.v (.slice P v.Am.length Q),.v (.bool v.AV)]::[],40,g.w.heap.size⟩,λ(k,A,B,q)=>k<=v.Am.length/\ecR g q (qvE v k),λ(k,_)=>v.Am.length-k,?_,?_⟩
  .intro ao ap D;exact⟨(0,zc,0,[]),rfl,⟨zF _,rfl,sd,λi x E h=>by simp[qvE]at h⟩,(D.Cx (nx':=40) 20 141 3).fit (by simp[Az,Res.eqv,qDA,Ae,qvE])⟩
  rintro⟨k,A,B,q⟩ ⟨H,u⟩;have H:k<=v.Am.length:=H;have u:ecR g q (qvE v k):=u;have aI:=qQJ hb k H;refine zw ?_;refine⟨λL=>?_,λL=>?_⟩
  .have C:k<v.Am.length:=by have aq:(k:zn)<v.Am.length:=ze L;omega
   obtain⟨x,h⟩:=qBA C;obtain⟨a,rfl,E,aa,⟨xn,rfl,aJ,hE⟩,ar⟩:=ak k x h;have aK:x.ends.length<=1000000:=hb.2 x (zl h);obtain⟨on,aL,rfl,aM,aN,aO,aP⟩:=id hE;obtain⟨M,au,av,aw,ax⟩:=qVT hE;have ab:ecR g M x.ends:=⟨av,aw,ax⟩;refine zq ?_;intros;refine⟨a,rfl,⟨by show(0:zn)<=k;omega,by show(k:zn)<v.Am.length;omega⟩,zq ?_⟩;intros;refine⟨_,⟨rfl,ar⟩,zq ?_⟩;intros;rename_i aQ;refine zw ?_;refine⟨M.flatten,⟨au,ab.one⟩,zq ?_⟩;intros;refine⟨⟨by unfold zAr;omega,sa⟩,λac ad=>zq ?_⟩;intros;refine λao ap D=>⟨(k+1,ac,ad,q++M),?_,⟨C,by rw[qQO h];exact u.app ab⟩,dec C,D.fit ?_⟩
   .simp only[qQO h,zAq];exact zK (λz=>[Value.slice ac ((qvE v k).length+x.ends.length) ad,.int .i64 z]) (wr1 C ai aj).symm
   .simp only[qQO h,zAq,List.flatten_append];simp[Az,Res.eqv,qDA,Ae]
  have ay:k=v.Am.length:=by have aq:¬(k:zn)<v.Am.length:=zf L;omega
  subst ay;have ae:qvE v v.Am.length=qOB v:=by unfold qvE qOB;rw[zAB]
  rw[ae]at u;refine zq ?_;intros;refine λaR az aT aA=>zw ?_;intro aU aB;rw[ae]at*;refine⟨_,_,rfl,?_⟩
  exact(q1K aA.rd (qOB v) q rfl u.2.1 rfl u.1 λi x E h aa=>q4C _ _ _ _ az (u.2.2 i x E h aa)).mono q4C aB)
def qaW(g){cs}{v}(h:rVe g cs v)(hb:BgV 1000000 v):OkV X0 225 [.agg ⟨cs⟩] g (.int .i64 (qOB v).length):=by
 have q:=h;obtain⟨Q,R,T,U,rfl,u,w⟩:=h;obtain⟨A,B,rfl,V,W,Y,aa⟩:=id w;obtain⟨_,_,_,C,⟨D,E,rfl,_⟩,⟨H,L,rfl,_⟩,⟨M,P,rfl,_⟩⟩:=u;cases C
 exact Ok.Ao hm noT 0 Hi.2 (args:=[.v (.agg ⟨[.slice D v.AO.Aa.length E,.slice H v.AO.AN.length L,.slice M v.AO.Ad.length P,.slice A v.Am.length B,.bool v.AV]⟩)]) (by
  refine zq ?_;intros;refine .inr ((qcQ _ q hb).mono λx ab ac hE=>?_);obtain⟨ad,ae,rfl,af⟩:=hE;refine zq ?_;intros;intro ag ah
  rfl)
noncomputable def Kv(w:Wd)(m:Aj):zM:=@decide (Ez w m) (zDR _)
def qbE{w}{m:Aj}(h:Ez w m):Kv w m=I:=@zC _ (zDR _) h
def qkQ{w}{m:Aj}(h:¬Ez w m):Kv w m=zb:=@zE _ (zDR _) h
def q8b{w}{m:Aj}(h:Kv w m=I):Ez w m:=@ze _ (zDR _) h
def qwJ{w}{m:Aj}{P:Prop}[Decidable P](h:Ez w m<->P):Kv w m=decide P:=by
 by_cases q:P
 .rw[qbE (h.2 q),zC q]
 .rw[qkQ λk=>q (h.1 k),zE q]
def qQF(g){cs V}{w}{m:Aj}(Y:rWo g cs w)(hM:qeA g V m)(hs:qXB w m=I)(hb:BgW 1000000 w):OkV X0 180 [.agg ⟨cs⟩,.agg ⟨V⟩] g (.bool (Kv w m)):=by
 obtain⟨a,b,c,d,e,rfl,⟨aM,aN,aO⟩,aa,ab,ac,ad,ae⟩:=Y;obtain⟨af,ag,rfl,aP,aQ,aR,aT⟩:=id aa;obtain⟨ah,ai,rfl,b1,aU,aV,aj⟩:=id ab;obtain⟨ak,al,rfl,c1,c2,c0,an⟩:=id ac;obtain⟨ao,ap,rfl,aW,aX,aY,aZ⟩:=id ad;obtain⟨aq,ar,rfl,a0,a1,a2,au⟩:=id ae;obtain⟨a3,a4,a5,rfl,a6,_,⟨_,_,_,av,⟨aw,ax,rfl,_⟩,⟨ay,az,rfl,_⟩,⟨aA,aB,rfl,_⟩⟩⟩:=hM;cases av;obtain⟨v,a7,a8,u⟩:=Ar.1 hs
 exact Ok.Ao hm noT 0 HN.2 (args:=[.v (.agg ⟨wQ w af ag ah ai ak al ao ap aq ar⟩),.v (.agg ⟨mQ m aw ax ay az aA aB⟩)]) (by
  refine zq ?_;intros;refine⟨λz1=>?_,λz1=>?_⟩
  .have z1:m.pc=2:=ze z1;refine zq ?_;intros;intro A B;rw[qwJ (P:=m.i<w.pins.length) ⟨λh=>h.1 z1,λh=>⟨λ_=>h,sa,sa,sa,sa⟩⟩]
  have z1:¬m.pc=2:=zf z1;refine zq ?_;intros;refine⟨λH=>?_,λH=>?_⟩
  .have H:m.pc=5:=ze H;obtain⟨a9,rfl,ba,bb,W,aC⟩:=aj _ v u.ver.2;have aD:=W;have aE:=hb.2.2 v (zl u.ver.2);have bc:=(zd.1 u.ver.2).1;have bd:=u.ver.1;obtain⟨be,bf,bg,bh,rfl,aF,aG⟩:=W;obtain⟨bi,bj,rfl,_⟩:=id aG;obtain⟨_,_,_,aH,⟨bl,bm,rfl,_⟩,⟨bn,bo,rfl,_⟩,⟨bp,bq,rfl,_⟩⟩:=aF;cases aH;refine zq ?_;intros
   repeat'((first|refine⟨_,rfl,⟨sa,sa⟩,zq ?_⟩|refine⟨_,⟨rfl,aC⟩,zq ?_⟩|refine .inl ⟨_,qaW _ aD aE,zq ?_⟩|rfl)<;>intros)
   intro A B;rw[qwJ (P:=m.k<(qOB v).length) ⟨λh=>by have:=h.2.1 H;rwa [u.at_.1]at this,λh=>⟨sa,λ_=>by rw[u.at_.1];exact h,sa,sa,sa⟩⟩]
  have H:¬m.pc=5:=zf H;refine zq ?_;intros;refine⟨λC=>?_,λC=>?_⟩
  .have C:m.pc=6:=ze C;have aI:=u.i;refine zq ?_;intros;refine⟨λQ=>?_,λQ=>?_⟩
   .have D:m.i<w.Ai.length:=ze Q;obtain⟨r,q⟩:=qBA (l:=w.Ai) (i:=m.i.toNat) sa;obtain⟨aJ,rfl,aK,aL,⟨rfl,_⟩,L⟩:=au _ r q;refine zq ?_;intros
    repeat'((first|refine⟨_,rfl,⟨sa,sa⟩,zq ?_⟩|refine⟨_,L 0 _ rfl,zq ?_⟩|refine⟨_,L 2 _ rfl,zq ?_⟩|rfl)<;>intros)
    refine⟨λR=>?_,λR=>?_⟩
    .have T:r.Ac=m.Ac:=ze R;refine zq ?_;intros
     repeat'((first|refine⟨_,rfl,⟨sa,sa⟩,zq ?_⟩|refine⟨_,L 0 _ rfl,zq ?_⟩|refine⟨_,L 2 _ rfl,zq ?_⟩|rfl)<;>intros)
     intro A B;rw[qwJ (P:=r.gone=zb) ⟨λh=>by have:=(h.2.2.1 C).2.2;rwa [qnD q]at this,λh=>⟨sa,sa,λ_=>⟨D,by rw[qnD q];exact T,by rw[qnD q];exact h⟩,sa,sa⟩⟩];cases r.gone<;>rfl
    .have T:¬r.Ac=m.Ac:=zf R;refine zq ?_;intros
     intro A B;rw[qkQ λh=>T (by have:=(h.2.2.1 C).2.1;rwa [qnD q]at this)]
   .have D:¬m.i<w.Ai.length:=zf Q;refine zq ?_;intros
    intro A B;rw[qkQ λh=>D (h.2.2.1 C).1]
  have C:¬m.pc=6:=zf C;refine zq ?_;intros;refine⟨λM=>?_,λM=>?_⟩
  .have M:m.pc=9:=ze M;refine zq ?_;intros;intro A B;rw[qwJ (P:=m.i<w.Aa.length) ⟨λh=>h.2.2.2.1 M,λh=>⟨sa,sa,sa,λ_=>h,sa⟩⟩]
  have M:¬m.pc=9:=zf M;refine zq ?_;intros;refine⟨λE=>?_,λE=>?_⟩
  .have E:m.pc=10:=ze E;refine zq ?_;intros;refine⟨λU=>?_,λU=>?_⟩
   .have D:m.i<w.Aa.length:=ze U;have aI:=u.i;obtain⟨r,q⟩:=qBA (l:=w.Aa) (i:=m.i.toNat) sa;obtain⟨aJ,rfl,aK,aL,⟨rfl,_⟩,L⟩:=an _ r q;refine zq ?_;intros;refine⟨_,rfl,⟨sa,sa⟩,zq ?_⟩;intros;refine⟨_,L 1 _ rfl,zq ?_⟩;intros;intro A B;rw[qwJ (P:=r.drain=I) ⟨λh=>by have:=(h.2.2.2.2 E).2;rwa [qcE q]at this,λh=>⟨sa,sa,sa,sa,λ_=>⟨D,by rw[qcE q];exact h⟩⟩⟩];cases r.drain<;>rfl
   .have D:¬m.i<w.Aa.length:=zf U;refine zq ?_;intros;intro A B;rw[qkQ λh=>D (h.2.2.2.2 E).1]
  have E:¬m.pc=10:=zf E;refine zq ?_;intros;intro A B
  rw[qbE ⟨sa,sa,sa,sa,sa⟩])
def CoP(w:Wd)(m:Aj)(v:zg)(g':GW):Prop:=∃cs h,v=.tuple #[.agg ⟨cs⟩,.agg ⟨h⟩,.agg ⟨(csE w m).cs⟩]/\rWo g' cs (csW w m)/\qeA g' h (csM w m)
def tCo:F (Z×FnI):=[(181,Db.1),(182,Cj.1),(183,CG.1),(184,Ct.1),(185,Ci.1),(186,B8.1),(187,Dc.1),(188,Ck.1),(189,B7.1),(190,Da.1),(226,Dd.1),(227,BV.1),(228,DG.1)]
def qOF:qqB X0 tCo:=qPA Db.2 (qPA Cj.2 (qPA CG.2 (qPA Ct.2 (qPA Ci.2 (qPA B8.2 (qPA Dc.2 (qPA Ck.2 (qPA B7.2 (qPA Da.2 (qPA Dd.2 (qPA BV.2 (qPA DG.2 noT))))))))))))
abbrev xC(h q:Z):zg:=.agg ⟨[.pointer (O ⟨h,0,zc⟩),.pointer (O ⟨q,0,zc⟩)]⟩
def qXA(g){q h}{t a c v}(u:Rc g ⟨h,10,zc⟩ (.int .i64 t)):OkV X0 227 [xC q h,.int .i64 a,.int .i64 c,.int .i64 v] g (.agg ⟨(⟨t,0,a,c,-1,zb,v,zb,zb,zb,BO⟩:Ev).cs⟩):=
 Ok.Ao hm noT 0 BV.2 (args:=[.v (xC q h),.v (.int .i64 a),.v (.int .i64 c),.v (.int .i64 v)]) (by
  refine zq ?_;intros;refine⟨_,u,zq ?_⟩;intros;intro w A
  rfl)
def qdZ{g}{e0 e1 e2 a b c d e}{w}(h:rWo g [e0,e1,e2,a,b,c,d,e] w){i:Z}{x}(q:w.Aa[i]?=O x):InR x.Ah:=by
 obtain⟨_,_,B,_,_,_,u⟩:=qDI h;obtain⟨_,_,_,_,A,_⟩:=u i x q;exact A.2
def q5T(g){a n}(ha:InR a):OkV X0 229 [.int .i64 a,.int .i64 n] g (.bool (decide (qTH a n))):=
 Ok.Ao hm noT 0 Il.2 (args:=[.v (.int .i64 a),.v (.int .i64 n)]) (by
  refine zq ?_;intros;refine⟨λz=>?_,λz=>?_⟩
  .have z:a<=9223372036854775805:=ze z;have q:zAf.wrap (a+2)=a+2:=by unfold InR at ha;rw[zBB];omega
   refine zq ?_;intros;intro u w;have:qTH a n<->a+2<=n:=⟨λh=>h.2,λh=>⟨z,h⟩⟩;show zBm (decide (zAf.wrap (a+2)<=n))=_;rw[q];simp only[this]
  .have z:¬a<=9223372036854775805:=zf z;refine zq ?_;intros;intro u w
   rw[zE λh:qTH a n=>z h.1])
def qUV{m:Aj}(h:m.answer.ok):(LZ m).ok:=⟨by show InR 11;decide,z0,z0,z0,z0,z0,h.n,qEG⟩
def qBb{g}{a}{n cap}{l}(h:rSl 3 qAB g (.slice (O a) n cap) l){i}{x}(q:l[i]?=O x):(InR x.Ac/\InR x.at_)/\Rcs g (a.add (i*3)) [.int .i64 x.Ac,.int .i64 x.at_,.bool x.gone]:=by
 obtain⟨A,_,⟨rfl,u⟩,w⟩:=qgI h q;exact⟨u,w⟩
def qvb(g){cs M}{w}{m:Aj}(aq:rWo g cs w)(hM:qeA g M m)(ar:SnW w)(hb:BgW 1000000 w)(B:cGo w m)(P:m.pc=0):Ok X0 151 [.agg ⟨cs⟩,.agg ⟨M⟩] g (CoP w m):=by
 obtain⟨h,hM9,q⟩:=qjG B;have hs:=B.1;have au:=qbE B.2.1;obtain⟨v,aR,aT,aU⟩:=id (Ar.1 hs);obtain⟨av,aw,ax,ay,az,aA,aB,aC,aD,aE,aF,aG,aH,aI,aJ,aK,rfl,rfl,C,Q,⟨aV,aW,aX⟩,aY,aZ,a0,a1,a2,⟨a3,a4,a5,a6⟩,⟨b1,a7,a8,a9⟩,⟨c1,c2,c0,ba⟩,⟨bb,bc,bd,be⟩,⟨bf,bg,bh,bi⟩,R,T,U⟩:=qaB aq hM;obtain⟨u,V,bj,W,Y,aa,ab,men,ac,msl,ad,ae,af,mk,ag,ah,ai,aj⟩:=m;simp only at P;subst P;obtain⟨ak,al,kE⟩:=cb0 (w:=w) (m:=⟨u,V,0,W,Y,aa,ab,men,ac,msl,ad,ae,af,mk,ag,ah,ai,aj⟩) rfl;rw[ak]at h;rw[al]at hM9;rw[kE]at q;clear ak al kE
 exact Ok.Ao hm qOF 5 AR.2 (args:=[.v (.agg ⟨wQ w av aw ax ay az aA aB aC aD aE⟩),.v (.agg ⟨Aj.cs (.slice aF u.Ap.Aa.length aG) (.slice aH u.Ap.As.length aI) (.slice aJ u.Ap.Ad.length aK) ⟨u,V,0,W,Y,aa,ab,men,ac,msl,ad,ae,af,mk,ag,ah,ai,aj⟩⟩)]) (by
  refine zq ?_;intros;refine .inl ⟨_,qVA _ C Q ar hb,zq ?_⟩;intros;refine⟨λD=>absurd (hs.symm.trans (nb1 D)) sb,λ_=>zq ?_⟩;intros;refine .inl ⟨_,qQF _ C Q hs hb,zq ?_⟩;intros;refine⟨λD=>absurd (au.symm.trans (nb1 D)) sb,λ_=>zq ?_⟩;intros;refine .inr ((qSA _ C hb).mono λv bl an aL=>?_);obtain⟨cs,bm,rfl,aM⟩:=aL;have E:=qcA aM;obtain⟨bn,bo,bp,bq,br,bt,bu,bv,bw,bx,rfl⟩:=qJA E;refine zq ?_;intros;rename_i ao ap bz bA;refine zw ?_;refine⟨O (.func (.func 181) ⟨[xC ao ap]⟩ ⟨[]⟩),rfl,zw ?_⟩;refine⟨λaN=>(nomatch aN),λ_=>zq ?_⟩;intros;refine⟨kF,[.agg [.p 5 ao 0,.p 6 ap 0]],[],⟨rfl,rfl⟩,zq ?_⟩;intros;refine zI (λz=>?_) (λz=>?_)
  .have z:¬w.AH=0:=E3 z;rw[zh z]at h hM9 q;refine zq ?_;intros
   repeat'((first|refine⟨_,λH aO L=>qXA H (L.cel (id:=6) rfl 10 rfl),?_⟩|refine zI ?_ ?_|fail)<;>first|(refine zq ?_;intros)|rfl)
   all_goals(conv=>whnf)
   all_goals(first|exact zAx _|(
    intro aP A;refine⟨_,_,by rw[q]<;>rfl,by rw[h];exact qCA _ _ _ _ A E,?_⟩;rw[hM9]
    exact⟨_,_,_,rfl,{R with answer:=qKF sb},T,qAA _ _ _ _ (GW.trans an A) U⟩))
  .have z:w.AH=0:=Ft z;rw[zk z]at h hM9 q;have aQ:=q3L E (x:=1) sb;refine zq ?_;intros
   repeat'((first|refine⟨_,λH aO L=>qXA H (L.cel (id:=6) rfl 10 rfl),?_⟩|refine zI ?_ ?_|fail)<;>first|(refine zq ?_;intros)|rfl)
   all_goals(conv=>whnf)
   all_goals(first|exact zAx _|(
    intro aP A;refine⟨_,_,by rw[q]<;>rfl,by rw[h];exact qCA _ _ _ _ A aQ,?_⟩;rw[hM9]
    exact⟨_,_,_,rfl,{R with pc:=show InR (1:zn) by decide},T,qAA _ _ _ _ (GW.trans an A) U⟩)))
def qub(g){cs B}{w}{m:Aj}(af:rWo g cs w)(hM:qeA g B m)(ag:SnW w)(hb:BgW 1000000 w)(q:cGo w m)(C:m.pc=1):Ok X0 151 [.agg ⟨cs⟩,.agg ⟨B⟩] g (CoP w m):=by
 obtain⟨ah,hM9,ai⟩:=qjG q;have hs:=q.1;have aj:=qbE q.2.1;obtain⟨v,aP,aQ,aR⟩:=id (Ar.1 hs);obtain⟨ak,al,an,ao,ap,aq,ar,au,av,aw,ax,ay,az,aA,aB,aC,rfl,rfl,u,D,⟨aD,aT,aU⟩,aV,aW,aX,aY,aZ,⟨a0,a1,a2,a3⟩,⟨b1,a4,a5,a6⟩,⟨c1,c2,c0,a7⟩,⟨a8,a9,ba,bb⟩,⟨bc,bd,be,bf⟩,aE,aF,aG⟩:=qaB af hM;obtain⟨h,E,bg,H,L,M,P,men,Q,msl,R,T,U,mk,V,W,Y,aa⟩:=m;simp only at C;subst C
 exact Ok.Ao hm qOF 5 AR.2 (args:=[.v (.agg ⟨wQ w ak al an ao ap aq ar au av aw⟩),.v (.agg ⟨Aj.cs (.slice ax h.Ap.Aa.length ay) (.slice az h.Ap.As.length aA) (.slice aB h.Ap.Ad.length aC) ⟨h,E,1,H,L,M,P,men,Q,msl,R,T,U,mk,V,W,Y,aa⟩⟩)]) (by
  refine zq ?_;intros;refine .inl ⟨_,qVA _ u D ag hb,zq ?_⟩;intros;refine⟨λA=>absurd (hs.symm.trans (nb1 A)) sb,λ_=>zq ?_⟩;intros;refine .inl ⟨_,qQF _ u D hs hb,zq ?_⟩;intros;refine⟨λA=>absurd (aj.symm.trans (nb1 A)) sb,λ_=>zq ?_⟩;intros;refine .inr ((qSA _ u hb).mono λv bh aH aI=>?_);obtain⟨cs,bi,rfl,aJ⟩:=aI;have ab:=qcA aJ;obtain⟨bj,bl,bm,bn,bo,bp,bq,br,bt,bu,rfl⟩:=qJA ab;refine zq ?_;intros;rename_i ac ad bv bw;refine zw ?_;refine⟨O (.func (.func 182) ⟨[xC ac ad]⟩ ⟨[]⟩),rfl,zw ?_⟩;refine⟨λaK=>(nomatch aK),λ_=>zq ?_⟩;intros;refine⟨kF,[.agg [.p 5 ac 0,.p 6 ad 0]],[],⟨rfl,rfl⟩,zq ?_⟩;intros
  repeat'((first|refine⟨_,λaL bx aM=>qXA aL (aM.cel (id:=6) rfl 10 rfl),?_⟩|refine zI ?_ ?_|fail)<;>first|(refine zq ?_;intros)|rfl)
  all_goals(conv=>whnf)
  all_goals(first|exact zAx _|(
   intro bz ae;obtain⟨aN,aO,kE⟩:=cb1 (w:=w) (m:=⟨h,E,1,H,L,M,P,men,Q,msl,R,T,U,mk,V,W,Y,aa⟩) rfl;refine⟨_,_,by rw[ai,kE]<;>rfl,by rw[ah,aN];exact qCA _ _ _ _ ae ab,?_⟩;rw[hM9,aO]
   exact⟨_,_,_,rfl,{aE with Al:=aD,pc:=show InR (2:zn) by decide,i:=z0},aF,qAA _ _ _ _ (GW.trans aH ae) aG⟩)))
def qtb(g){cs af}{w}{m:Aj}(aB:rWo g cs w)(hM:qeA g af m)(aC:SnW w)(hb:BgW 1000000 w)(V:cGo w m)(ag:m.pc=2):Ok X0 151 [.agg ⟨cs⟩,.agg ⟨af⟩] g (CoP w m):=by
 obtain⟨M,hM9,H⟩:=qjG V;have hs:=V.1;have aD:=qbE V.2.1;obtain⟨v,aZ,a0,aE⟩:=id (Ar.1 hs);obtain⟨aF,aG,aH,aI,aJ,aK,aL,aM,aN,aO,aP,aQ,aR,aT,aU,aV,rfl,rfl,ac,ah,⟨a1,a2,a3⟩,a4,a5,a6,a7,a8,⟨a9,ba,bb,bc⟩,⟨b1,bd,be,bf⟩,⟨c1,c2,c0,bg⟩,⟨bh,bi,bj,bl⟩,⟨bm,bn,bo,bp⟩,P,Q,R⟩:=qaB aB hM;obtain⟨T,ai,bq,W,aj,ak,al,men,an,msl,ao,ap,u,mk,aq,ar,au,av⟩:=m;simp only at ag;subst ag;obtain⟨aw,ax,kE⟩:=cb2 (w:=w) (m:=⟨T,ai,2,W,aj,ak,al,men,an,msl,ao,ap,u,mk,aq,ar,au,av⟩) rfl;rw[aw]at M;rw[ax]at hM9;rw[kE]at H;clear aw ax kE
 exact Ok.Ao hm qOF 5 AR.2 (args:=[.v (.agg ⟨wQ w aF aG aH aI aJ aK aL aM aN aO⟩),.v (.agg ⟨Aj.cs (.slice aP T.Ap.Aa.length aQ) (.slice aR T.Ap.As.length aT) (.slice aU T.Ap.Ad.length aV) ⟨T,ai,2,W,aj,ak,al,men,an,msl,ao,ap,u,mk,aq,ar,au,av⟩⟩)]) (by
  refine zq ?_;intros;refine .inl ⟨_,qVA _ ac ah aC hb,zq ?_⟩;intros;refine⟨λad=>absurd (hs.symm.trans (nb1 ad)) sb,λ_=>zq ?_⟩;intros;refine .inl ⟨_,qQF _ ac ah hs hb,zq ?_⟩;intros;refine⟨λad=>absurd (aD.symm.trans (nb1 ad)) sb,λ_=>zq ?_⟩;intros;refine .inr ((qSA _ ac hb).mono λv br U aW=>?_);obtain⟨cs,bt,rfl,aX⟩:=aW;have L:=qcA aX;obtain⟨bu,bv,bw,bx,bz,bA,bB,bC,bD,bE,rfl⟩:=qJA L;refine zq ?_;intros;rename_i ay az bF bG;refine zw ?_;refine⟨O (.func (.func 183) ⟨[xC ay az]⟩ ⟨[]⟩),rfl,zw ?_⟩;refine⟨λA=>(nomatch A),λ_=>zq ?_⟩;intros;refine⟨kF,[.agg [.p 5 ay 0,.p 6 az 0]],[],⟨rfl,rfl⟩,?_⟩;have bH:0<=u:=aE.i;have bI:u<w.pins.length:=V.2.1.1 rfl;have bJ:=hb.1.1;obtain⟨Y,ae⟩:=qBA (l:=w.pins) (i:=u.toNat) sa;rw[qgX ae]at hM9 H;have aA:=qEb L;obtain⟨bK,rfl⟩:=qYA aA ae;obtain⟨bL,aY⟩:=qJL aA ae;have D:u+1=zAf.wrap (u+1):=by rw[zBB];omega
  refine zq ?_;intros
  repeat'((first|refine⟨_,rfl,⟨sa,sa⟩,zq ?_⟩|refine⟨_,aY 0 _ rfl,zq ?_⟩|rfl)<;>intros)
  refine zI (λz1=>?_) (λz1=>?_)
  .have z1:Y≠0:=E3 z1;refine zq ?_;intros;refine zI (λE=>?_) (λE=>?_)
   .have E:Y≠wI (W+1):=E3 E;rw[zk ⟨z1,E⟩]at hM9;refine zq ?_;intros
    repeat'((first|refine⟨_,λB aa C=>qXA B (C.cel (id:=6) rfl 10 rfl),?_⟩|refine zI ?_ ?_|fail)<;>first|(refine zq ?_;intros)|rfl)
    all_goals(conv=>whnf)
    all_goals(first|exact zAx _|(
     intro ab q;refine⟨_,_,by rw[H]<;>rfl,by rw[M];exact qCA _ _ _ _ q L,?_⟩;rw[hM9]
     exact⟨_,_,_,rfl,{P with pc:=show InR (4:zn) by decide,i:=z0},Q,qAA _ _ _ _ (GW.trans U q) R⟩))
   .have E:Y=wI (W+1):=Ft E;refine zq ?_;intros;refine zI (λh=>?_) (λh=>?_)
    .have h:u+1<w.pins.length:=by rw[D];exact ze h
     rw[zh (λA=>A.2 E),zk h]at hM9;simp only at hM9;rw[D]at hM9;refine zq ?_;intros
     repeat'((first|refine⟨_,λB aa C=>qXA B (C.cel (id:=6) rfl 10 rfl),?_⟩|refine zI ?_ ?_|fail)<;>first|(refine zq ?_;intros)|rfl)
     all_goals(conv=>whnf)
     all_goals(first|exact zAx _|(
      intro ab q;refine⟨_,_,by rw[H]<;>rfl,by rw[M];exact qCA _ _ _ _ q L,?_⟩;rw[hM9]
      exact⟨_,_,_,rfl,{P with i:=q8A _},Q,qAA _ _ _ _ (GW.trans U q) R⟩))
    .have h:¬u+1<w.pins.length:=by rw[D];exact zf h
     rw[zh (λA=>A.2 E),zh h]at hM9;simp only at hM9;rw[D]at hM9;refine zq ?_;intros
     repeat'((first|refine⟨_,λB aa C=>qXA B (C.cel (id:=6) rfl 10 rfl),?_⟩|refine zI ?_ ?_|fail)<;>first|(refine zq ?_;intros)|rfl)
     all_goals(conv=>whnf)
     all_goals(first|exact zAx _|(
      intro ab q;refine⟨_,_,by rw[H]<;>rfl,by rw[M];exact qCA _ _ _ _ q L,?_⟩;rw[hM9]
      exact⟨_,_,_,rfl,{P with pc:=show InR (3:zn) by decide,i:=q8A _},Q,qAA _ _ _ _ (GW.trans U q) R⟩))
  .have z1:Y=0:=Ft z1;refine zq ?_;intros;refine zI (λh=>?_) (λh=>?_)
   .have h:u+1<w.pins.length:=by rw[D];exact ze h
    rw[zh (λA=>A.1 z1),zk h]at hM9;simp only at hM9;rw[D]at hM9;refine zq ?_;intros
    repeat'((first|refine⟨_,λB aa C=>qXA B (C.cel (id:=6) rfl 10 rfl),?_⟩|refine zI ?_ ?_|fail)<;>first|(refine zq ?_;intros)|rfl)
    all_goals(conv=>whnf)
    all_goals(first|exact zAx _|(
     intro ab q;refine⟨_,_,by rw[H]<;>rfl,by rw[M];exact qCA _ _ _ _ q L,?_⟩;rw[hM9]
     exact⟨_,_,_,rfl,{P with i:=q8A _},Q,qAA _ _ _ _ (GW.trans U q) R⟩))
   .have h:¬u+1<w.pins.length:=by rw[D];exact zf h
    rw[zh (λA=>A.1 z1),zh h]at hM9;simp only at hM9;rw[D]at hM9;refine zq ?_;intros
    repeat'((first|refine⟨_,λB aa C=>qXA B (C.cel (id:=6) rfl 10 rfl),?_⟩|refine zI ?_ ?_|fail)<;>first|(refine zq ?_;intros)|rfl)
    all_goals(conv=>whnf)
    all_goals(first|exact zAx _|(
     intro ab q;refine⟨_,_,by rw[H]<;>rfl,by rw[M];exact qCA _ _ _ _ q L,?_⟩;rw[hM9]
     exact⟨_,_,_,rfl,{P with pc:=show InR (3:zn) by decide,i:=q8A _},Q,qAA _ _ _ _ (GW.trans U q) R⟩)))
end Go.Proofs.YtlmhpamhhgogaaaGreat
