/- joined. -/
import Derived.Test.YtjaogfhcnmjkiaaGreatDoorSG20
import Derived.Deep.DeepHandedRow
import Derived.Lib.LaidTab
set_option linter.all false
set_option maxRecDepth 100000
set_option maxHeartbeats 0
namespace Go.Proofs.YtjaogfhcnmjkiaaGreatDoor
open Go.RowKit
open Go.Value renaming slice->aA,int->aB,agg->aC,string->aF,tuple->aG,pointer->aH,ownBlock->gTh
open Go.IntKind renaming i64->aI
open Option renaming none->aJ,some->aK
open Go.Ending renaming returned->aN
open Go.Obj renaming cells->aO
open Go.Proofs.Tryz
variable {W:World}{a b:Int}{c:Ca}{cpu i j k m n p q z:Nat}{cs:List Value}{g g':Option Nat}{l w' xs:List Int}{s t:Sy}{sp:Nat->Bool}
theorem rU (h:s.cs[i]? =aK c):s.sig[i]? =aK (c.ns,c.z):=by
 unfold Sy.sig;rw[List.getElem?_map,h];rfl
theorem rV {p:List (List UInt8)×Nat}(h:s.sig[i]? =aK p):∃c,s.cs[i]? =aK c/\c.ns=p.1/\c.z=p.2:=by
 unfold Sy.sig at h;rw[List.getElem?_map]at h;cases hc:s.cs[i]? with
 | none=>rw[hc]at h;cases h
 | some c=>
  rw[hc]at h;have a:=gP h;exact⟨c,rfl,congrArg Prod.fst a,congrArg Prod.snd a⟩
def Ei (s:Sy):Prop:=∀j,j<6->∃i c,s.cs[i]? =aK c/\s.named (kN (zz j))=aK i/\kN (zz j)∈c.ns/\c.z=zz j
theorem Ei.names (h:Ei s):ZI s:=λj b=>by
 obtain⟨i,_,_,a,_⟩:=h j b;exact⟨i,a⟩
theorem ZJ {ns:List (List UInt8)}(hj:j<6)(h:kN (zz j)∈ns):jY ns=true:=by
 unfold jY;rw[List.any_eq_true];refine⟨zz j,?_,List.contains_iff_mem.2 h⟩;obtain rfl | rfl | rfl | rfl | rfl | rfl:j=0∨j=1∨j=2∨j=3∨j=4∨j=5:=by omega
 all_goals decide
theorem SN (h:Hp):Ei (dK h 6):=λj a=>by
 obtain rfl | rfl | rfl | rfl | rfl | rfl:j=0∨j=1∨j=2∨j=3∨j=4∨j=5:=by omega
 all_goals exact⟨_,_,rfl,rfl,gTa.2 rfl,rfl⟩
theorem bQ.aBA (hk:bQ s)(hc:s.cs[i]? =aK c)(bJ:cpu<s.h.aAh)(h:s.one i cpu=aK (t,a)):bQ t/\∃k d,t.eF i k a/\t.cs[i]? =aK d/\d.ns=c.ns/\d.z=c.z:=by
 obtain⟨j,_⟩:=hk.one hc bJ h;obtain⟨_,g⟩:=hk.Ad hc bJ h;obtain⟨k,b⟩:=dI.1 ((g i a).2 (.inr ⟨rfl,rfl⟩));have e:=rU hc;rw[<- Kv h]at e;obtain⟨d,f,l,m⟩:=rV e;exact⟨j,k,d,b,f,l,m⟩
theorem bQ.dV (hk:bQ s)(hs:Ei s)(bJ:cpu<s.h.aAh)(h1:1<=n)(h2:n<=256)(h:s.dV cpu n=aK (t,a)):
 bQ t/\t.nss=s.nss/\t.h.aAh=s.h.aAh/\0<=a/\a<=4096/\∃m,t.dG a=aK m/\n<=m/\m<2*n+16:=by
 unfold Sy.dV at h;split at h
 ·rename_i hn;obtain⟨F,P,V,_⟩:=yB h1 hn;obtain⟨i,c,I,C,o,G⟩:=hs _ F;rw[C]at h;simp only at h;obtain⟨f,k,d,D,v,T,E⟩:=hk.aBA I bJ h;obtain⟨_,u,_⟩:=hk.one I bJ h;have B:t.fP a=aK (i,k,d):=by
   unfold Sy.fP;rw[f.qH D];simp only[v];rw[if_pos (ZJ F (by rw[T];exact o))]
  have g:0<=a/\a<=4096:=by
   obtain⟨W,x,M,U,N⟩:=D;have A:=gM U;have l:=f.ck _ (gM M);have q:=jK l.room N.1;obtain⟨b,hb,J,R⟩:=(l.sk x A).live;obtain⟨w,_,y,j⟩:=(f.hk.lv b hb).1;rw[R]at j w;rw[J]at j y;rcases JK w with e | e | e | e | e <;> rw[e]at j q <;> omega
  refine⟨f,TK h,u,g.1,g.2,d.z,?_,by rw[E,G];exact P,by rw[E,G];omega⟩;unfold Sy.dG;rw[B]
 ·rename_i hn;obtain⟨w,O,y,j,_⟩:=zI (show 33<=n by omega) h2;unfold Sy.WI at h;cases hal:s.h.alloc cpu (tK n) 0 false false with
  | none=>rw[hal]at h;cases h
  | some r=>
   obtain⟨L,p⟩:=r;rw[hal]at h;have q:=gP h;rw[Prod.mk.injEq]at q;obtain⟨rfl,rfl⟩:=q;obtain⟨f,K,u,_,S⟩:=hk.ZH bJ O (by decide) hal;have H:=(u ⟨p,tK n,0⟩).2 (.inl rfl);have Q:=zL (f.kZ H);have B:({s with h:=L}:Sy).fP (16*(p:Int))=aJ:=by
    unfold Sy.fP;rw[Q]
   refine⟨f,rfl,K,by omega,by have:=S.2.2.1;omega,16*2^tK n,?_,y,j⟩;unfold Sy.dG;rw[B];simp only[f.DV H];rfl
def Sy.nY (s:Sy)(a:Int)(m:Nat):Prop:=(∃i k c,s.eF i k a/\s.cs[i]? =aK c/\m<=c.z)∨(∃b,s.whole b/\a=16*(b.a:Int)/\m<=16*2^b.o)
theorem PI (h1:iC c p a=true)(h2:iC c p b=true)(hne:a≠b):a+c.z<=b∨b+c.z<=a:=by
 obtain⟨_,_,g⟩:=jV h1;obtain⟨_,_,l⟩:=jV h2;obtain⟨i,k⟩:=Int.dvd_of_emod_eq_zero g;obtain⟨j,m⟩:=Int.dvd_of_emod_eq_zero l;have d:i≠j:=λe=>hne (by rw[e]at k;omega)
 rcases Int.lt_or_gt_of_ne d with h | h
 ·left;have f:(c.z:Int)*(i+1)<=c.z*j:=Int.mul_le_mul_of_nonneg_left (by omega) (by omega);rw[Int.mul_add,Int.mul_one]at f;omega
 ·right;have f:(c.z:Int)*(j+1)<=c.z*i:=Int.mul_le_mul_of_nonneg_left (by omega) (by omega);rw[Int.mul_add,Int.mul_one]at f;omega
theorem qJ.yE (h:qJ s c)(ho:iC c p a=true):16*(p:Int)<=a/\a+c.z<=16*((p:Int)+(2^c.o:Nat)):=by
 obtain⟨g,j,e⟩:=jV ho;obtain⟨i,n⟩:=Int.dvd_of_emod_eq_zero e;have b:=h.room;have u:=h.z.1;have l:i<c.r:=by
  apply Decidable.byContradiction;intro t;have k:(c.z:Int)*c.r<=c.z*i:=Int.mul_le_mul_of_nonneg_left (by omega) (by omega);have f:(c.z:Int)*c.r=c.r*c.z:=Int.mul_comm _ _;omega
 have d:(c.z:Int)*(i+1)<=c.z*c.r:=Int.mul_le_mul_of_nonneg_left (by omega) (by omega);rw[Int.mul_add,Int.mul_one]at d;have f:(c.z:Int)*c.r=((c.r*c.z:Nat):Int):=by rw[Int.mul_comm];exact(Int.natCast_mul ..).symm
 refine⟨g,?_⟩;rw[f]at d;generalize c.r*c.z=q at*;generalize 2^c.o=m at*;omega
theorem bQ.CV (hk:bQ s)(h:s.nY a m):∃b∈s.h.live,16*(b.a:Int)<=a/\a+m<=16*((b.a:Int)+(2^b.o:Nat)):=by
 rcases h with ⟨i,k,c,⟨t,x,f,n,p⟩,g,j⟩ | ⟨b,hb,rfl,j⟩
 ·rw[g]at f;obtain rfl:=gP f;have d:=hk.ck c (gM g);obtain⟨b,hb,e,q⟩:=(d.sk x (gM n)).live;obtain⟨l,r⟩:=d.yE p.1;refine⟨b,hb,by rw[e];exact l,?_⟩;rw[e,q];omega
 ·refine⟨b,hb.1,Int.le_refl _,?_⟩;have:((16*2^b.o:Nat):Int)=16*((2^b.o:Nat):Int):=Int.natCast_mul ..;omega
theorem bQ.xG (hk:bQ s)(h:s.nY a m):0<=a/\a+m<=4096:=by
 obtain⟨b,hb,i,c⟩:=hk.CV h;obtain⟨f,_,g,d⟩:=(hk.hk.lv b hb).1;rcases JK f with e | e | e | e | e <;> rw[e]at d c <;> omega
theorem bQ.PK (hk:bQ s)(h:s.nY a m){d:Ca}{y:Sl}(hd:d∈s.cs)(hy:y∈d.sl)(hl:follow s.w y.h d.r=aK l)(hb:b∈l)(ho:iC d y.p b=true):b<a∨a+m<=b:=by
 have n:=hk.ck d hd;obtain⟨e,V,D,T⟩:=(n.sk y hy).live;obtain⟨g1,g2⟩:=n.yE ho;have hz:=n.z.1;rcases h with ⟨i,k,c,⟨c',x,R,O,J⟩,B,Z⟩ | ⟨P,A,rfl,Z⟩
 ·rw[B]at R;obtain rfl:=gP R;have E:=gM B;have g:=gM O;have t:=hk.ck c E;by_cases C:x.p=y.p
  ·obtain⟨j,M,L⟩:=List.mem_iff_getElem.1 hd;obtain⟨k',H,W⟩:=List.mem_iff_getElem.1 hy;have G:i=j:=by
    obtain⟨U,S⟩:=gK.1 B;rcases Nat.lt_trichotomy i j with q | q | q
    ·exact absurd C (gN.1 hk.pd i j U M q x (by rw[S];exact g) y (by rw[L];exact hy))
    ·exact q
    ·exact absurd C.symm (gN.1 hk.pd j i M U q y (by rw[L];exact hy) x (by rw[S];exact g))
   subst G;have N:c=d:=by
    rw[gJ M,L]at B;exact(gP B).symm
   subst N;have I:x=y:=by
    obtain⟨F,v⟩:=gK.1 O;have:=aC1 t.sr F H (by rw[v,W];exact C);subst this;rw[<- v,<- W]
   subst I;have f:a≠b:=λe=>J.2 l hl (e▸hb)
   rcases PI J.1 ho f with q | q
   ·right;omega
   ·left;omega
  ·obtain⟨b2,K,Q,Y⟩:=(t.sk x g).live;obtain⟨g3,g4⟩:=t.yE J.1;have u:=kK hk.hk K V (by rw[Q,D];exact C);unfold apartB Bk.fin at u;rw[Q,Y,D,T]at u;generalize 2^c.o=X at*;generalize 2^d.o=q2 at*;omega
 ·have f:P.a≠e.a:=λq=>A.2 d hd y hy (by rw[<- D];exact q.symm)
  have u:=kK hk.hk A.1 V f;unfold apartB Bk.fin at u;rw[D,T]at u;generalize 2^P.o=X at*;generalize 2^d.o=q2 at*;omega
theorem bQ.write (hk:bQ s)(h:s.nY a m)(hl:w'.length=s.w.length)(hw:∀q:Nat,(q:Int)<a∨a+m<=q->w'.getD q 0=s.w.getD q 0):
 bQ {s with w:=w'}/\(∀i k b,({s with w:=w'}:Sy).eF i k b↔s.eF i k b)/\∀b,({s with w:=w'}:Sy).whole b↔s.whole b:=by
 have p:∀d∈s.cs,∀y∈d.sl,follow w' y.h d.r=follow s.w y.h d.r:=λd g y n=>by
  obtain⟨l,e,f,j⟩:=((hk.ck d g).sk y n).chain;rw[e];have o:=aAB.1 e;rw[aAB,hl];refine⟨o.1.move λb hb=> ?_,o.2⟩;have u:=hk.PK h g n e hb (j b hb);have t:=(o.2.1 b hb).1;exact hw b.toNat (by omega)
 refine⟨⟨by show w'.length=4096;rw[hl];exact hk.wl,hk.hk,hk.cl,λd g=> ?_,hk.zd,hk.nd,hk.pd⟩,λi k b=> ?_,λb=>Iff.rfl⟩
 ·refine(hk.ck d g).move rfl λy n=>⟨((hk.ck d g).sk y n).live,?_⟩
  obtain⟨l,e,f,j⟩:=((hk.ck d g).sk y n).chain;exact⟨l,by rw[<- e];exact p d g y n,f,j⟩
 ·unfold Sy.eF;constructor
  ·rintro⟨c,x,e,f,j⟩;exact⟨c,x,e,f,(xX (p c (gM e) x (gM f)) b).1 j⟩
  ·rintro⟨c,x,e,f,j⟩;exact⟨c,x,e,f,(xX (p c (gM e) x (gM f)) b).2 j⟩
theorem bQ.MG (hk:bQ s)(h1:s.nY a m)(h2:s.nY b n)(hne:a≠b):a+m<=b∨b+n<=a:=by
 rcases h1 with ⟨i,k,c,⟨c',x,T,Z,Q⟩,J,hm⟩ | ⟨K,B,rfl,hm⟩
 ·rw[J]at T;obtain rfl:=gP T;have C:=gM J;have w:=gM Z;have E:=hk.ck c C;obtain⟨e,X,I,S⟩:=(E.sk x w).live;obtain⟨g1,g2⟩:=E.yE Q.1;rcases h2 with ⟨j,k2,d,⟨d',y,u,A,F⟩,z,N⟩ | ⟨H,v,rfl,N⟩
  ·rw[z]at u;obtain rfl:=gP u;have t:=gM z;have g:=gM A;have l:=hk.ck d t;obtain⟨f,M,D,O⟩:=(l.sk y g).live;obtain⟨g3,g4⟩:=l.yE F.1;by_cases G:x.p=y.p
   ·obtain⟨W,R⟩:=gK.1 J;obtain⟨Y,U⟩:=gK.1 z;have L:i=j:=by
     rcases Nat.lt_trichotomy i j with q | q | q
     ·exact absurd G (gN.1 hk.pd i j W Y q x (by rw[R];exact w) y (by rw[U];exact g))
     ·exact q
     ·exact absurd G.symm (gN.1 hk.pd j i Y W q y (by rw[U];exact g) x (by rw[R];exact w))
    subst L;have P:c=d:=by rw[J]at z;exact gP z
    subst P;have V:=F.1;rw[<- G]at V;rcases PI Q.1 V hne with q | q
    ·left;omega
    ·right;omega
   ·have r:=kK hk.hk X M (by rw[I,D];exact G);unfold apartB Bk.fin at r;rw[I,S,D,O]at r;generalize 2^c.o=u at*;generalize 2^d.o=A at*;omega
  ·have h:e.a≠H.a:=λq=>v.2 c C x w (by rw[<- I];exact q)
   have r:=kK hk.hk X v.1 h;unfold apartB Bk.fin at r;rw[I,S]at r;generalize 2^c.o=u at*;generalize 2^H.o=A at*;omega
 ·rcases h2 with ⟨j,k2,d,⟨d',y,u,A,F⟩,z,N⟩ | ⟨H,v,rfl,N⟩
  ·rw[z]at u;obtain rfl:=gP u;have t:=gM z;have g:=gM A;have l:=hk.ck d t;obtain⟨f,M,D,O⟩:=(l.sk y g).live;obtain⟨g3,g4⟩:=l.yE F.1;have h:K.a≠f.a:=λq=>B.2 d t y g (by rw[<- D];exact q.symm)
   have r:=kK hk.hk B.1 M h;unfold apartB Bk.fin at r;rw[D,O]at r;generalize 2^K.o=u at*;generalize 2^d.o=A at*;omega
  ·have r:=kK hk.hk B.1 v.1 (λq=>hne (by rw[q]));unfold apartB Bk.fin at r;generalize 2^K.o=u at*;generalize 2^H.o=A at*;omega
theorem DW {a:Nat}(hj:j≠i):(s.push i k a).cs[j]? =s.cs[j]? :=by
 unfold Sy.push;cases hc:s.cs[i]? with
 | none=>rfl
 | some c=>
  simp only;cases hx:c.sl[k]? with
  | none=>rfl
  | some x=>exact List.getElem?_set_ne λe=>hj e.symm
theorem Iq (hj:j≠i):(s.discard i k cpu).cs[j]? =s.cs[j]? :=by
 unfold Sy.discard;cases hc:s.cs[i]? with
 | none=>rfl
 | some c=>
  simp only;cases hx:c.sl[k]? with
  | none=>rfl
  | some x=>
   simp only;cases hb:s.h.live[lb s.h.live x.p]? with
   | none=>rfl
   | some b=>exact List.getElem?_set_ne λe=>hj e.symm
theorem SQ {a:Nat}(hj:j≠i):(s.free i k a cpu).cs[j]? =s.cs[j]? :=by
 unfold Sy.free;split
 ·rw[Iq hj,DW hj]
 ·exact DW hj
theorem getD_set_ne {u d:Int}(h:j≠i):(l.set i u).getD j d=l.getD j d:=by
 rw[List.getD_eq_getElem?_getD,List.getElem?_set_ne (λe=>h e.symm),<- List.getD_eq_getElem?_getD]
def bt200:Bt:=⟨[⟨0,200⟩],[]⟩
def goH:Hp:=newH (iJ bt200) 64 0 2
def aEk (h:Hp)(z:Nat):Sy:={dK h 6 with cs:=(dK h 6).cs++[⟨[[120,97]],z,aAC z,fG z,[],List.replicate h.aAh (-1)⟩]}
theorem SV (h:Hp)(z:Nat):(aEk h z).named [120,97]=aK 6:=rfl
structure Go6 (t:Sy)(z:Nat)(l:List Int):Prop where
 ok:bQ t
 ns:t.nss=(aEk goH z).nss
 cp:t.h.aAh=2
 aw:∀b,t.away 6 b↔b∈l
 nd:l.Nodup
 wh:∀b,¬t.whole b
 ot:∀j,j≠6->∀c,t.cs[j]? =aK c->c.sl=[]
theorem Go6.step (h:Go6 t z (a::l)):∃c k x,t.cs[6]? =aK c/\c.sl[k]? =aK x/\mX t.w c x a/\0<=a/\Go6 (t.free 6 k a.toNat 0) z l:=by
 obtain⟨c,v,x,C,p⟩:=(h.aw a).2 (by simp);obtain⟨k,o,e⟩:=List.mem_iff_getElem.1 C;have i:c.sl[k]? =aK x:=by rw[gJ o,e]
 have u:0<=a:=by
  have:=(jV p.1).1;omega
 have g:((a.toNat:Nat):Int)=a:=Int.toNat_of_nonneg u;have q:mX t.w c x (a.toNat:Nat):=by rw[g];exact p
 have m:0<t.h.aAh:=by rw[h.cp];decide
 obtain⟨B,y,D,A,_⟩:=h.ok.free v i q m;refine⟨c,k,x,v,i,p,u,B,(Zj).trans h.ns,by rw[D];exact h.cp,λb=> ?_,(List.nodup_cons.1 h.nd).2,λb hb=>h.wh b ((A b).1 hb),λj s d r=> ?_⟩
 ·rw[y,h.aw,g];constructor
  ·rintro⟨f,n⟩;rcases gY.1 f with rfl | f
   ·exact absurd ⟨rfl,rfl⟩ n
   ·exact f
  ·intro f;refine⟨List.mem_cons_of_mem _ f,λn=> ?_⟩;rw[n.2]at f;exact(List.nodup_cons.1 h.nd).1 f
 ·rw[SQ s]at r;exact h.ot j s d r
theorem Go6.at (h:Go6 t z l):∃c,t.cs[6]? =aK c/\c.ns=[[120,97]]/\t.cs.length=7/\t.named [120,97]=aK 6:=by
 have b:=h.ns;have e:t.cs.length=7:=by
  have:=congrArg List.length b;unfold Sy.nss at this;rw[gTe,gTe]at this;exact this
 have d:t.cs[6]? =aK (t.cs[6]'(by omega)):=gJ _;refine⟨_,d,?_,e,?_⟩
 ·have a:=congrArg (·[6]?) b;unfold Sy.nss at a;simp only[List.getElem?_map,d,Option.map_some]at a;have f:((aEk goH z).cs[6]?).map (·.ns)=aK [[120,97]]:=rfl;rw[f]at a;exact gP a
 ·rw[kX,b,<- kX];exact SV goH z
def Sy.holds (s:Sy)(a:Int)(g:Option Nat)(m:Nat):Prop:=match g with
 | some i=>s.away i a/\∃c,s.cs[i]? =aK c/\m=c.z
 | none=>∃b,s.whole b/\a=16*(b.a:Int)/\m=16*2^b.o
theorem oM (h:s.holds a g m):s.nY a m:=by
 cases g with
 | some i=>
  obtain⟨d,c,j,rfl⟩:=h;obtain⟨k,e⟩:=dI.1 d;exact .inl ⟨i,k,c,e,j,gT _⟩
 | none=>
  obtain⟨b,d,f,rfl⟩:=h;exact .inr ⟨b,d,f,gT _⟩
theorem bQ.holds_one (hk:bQ s){m':Nat}(h:s.holds a g m)(h':s.holds a g' m'):g=g'/\m=m':=by
 cases g with
 | some i=>
  obtain⟨o,c,r,rfl⟩:=h;obtain⟨k,n⟩:=dI.1 o;cases g' with
  | some j=>
   obtain⟨l,d,p,rfl⟩:=h';obtain⟨q,f⟩:=dI.1 l;obtain⟨rfl,_⟩:=hk.vF n f;rw[r]at p;rw[gP p];exact⟨rfl,rfl⟩
  | none=>
   obtain⟨b,l,rfl,_⟩:=h';exact absurd n (hk.kZ l i k)
 | none=>
  obtain⟨b,o,rfl,rfl⟩:=h;cases g' with
  | some j=>
   obtain⟨l,_⟩:=h';obtain⟨q,f⟩:=dI.1 l;exact absurd f (hk.kZ o j q)
  | none=>
   obtain⟨t,l,e,rfl⟩:=h';have:=hk.Gt o.1 l.1 (by omega);rw[this];exact⟨rfl,rfl⟩
theorem bQ.xH (hk:bQ s){m':Nat}(h:s.holds a g m)(h':s.holds b g' m')(hne:a≠b):a+m<=b∨b+m'<=a:=hk.MG (oM h) (oM h') hne
theorem bQ.lC (hk:bQ s)(h:s.holds a g m):1<=m/\0<=a/\a+m<=4096:=by
 obtain⟨e,d⟩:=hk.xG (oM h);refine⟨?_,e,d⟩;cases g with
 | some i=>
  obtain⟨_,c,f,rfl⟩:=h;exact(hk.ck c (gM f)).z.1
 | none=>
  obtain⟨b,_,_,rfl⟩:=h;have:=Nat.two_pow_pos b.o;omega
theorem bQ.PL (hk:bQ s)(h:s.holds a g m)(h1:a<=q)(h2:(q:Int)<a+m):s.lw q:=by
 obtain⟨b,hb,d,c⟩:=hk.CV (oM h);refine⟨b,hb,?_,?_⟩
 ·omega
 ·generalize 2^b.o=r at*;omega
structure Step (s t:Sy)(add:List (Int×Option Nat×Nat))(del:Option Int):Prop where
 ok:bQ t
 cp:t.h.aAh=s.h.aAh
 sg:t.sig=s.sig
 hd:∀a g m,t.holds a g m↔(s.holds a g m/\del≠aK a)∨(a,g,m)∈add
 nw:∀x∈add,∀g m,¬s.holds x.1 g m
 wd:∀(q:Nat) a g m,s.holds a g m->del≠aK a->a<=q->(q:Int)<a+m->t.w.getD q 0=s.w.getD q 0
theorem tY (hs:t.sig=s.sig)(h:s.holds a (aK i) m)(ha:t.away i a):t.holds a (aK i) m:=by
 obtain⟨_,c,g,rfl⟩:=h;have b:=rU g;rw[<- hs]at b;obtain⟨d,f,_,e⟩:=rV b;exact⟨ha,d,f,e.symm⟩
theorem zO (hs:t.sig=s.sig)(h:t.holds a (aK i) m)(ha:s.away i a):s.holds a (aK i) m:=tY hs.symm h ha
theorem Step.refl (hk:bQ s):Step s s [] aJ:=⟨hk,rfl,rfl,λa g m=>by simp,λx b=>by simp at b,λ_ _ _ _ _ _ _ _=>rfl⟩
theorem bQ.Ez (hk:bQ s)(hc:s.cs[i]? =aK c)(bJ:cpu<s.h.aAh)(h:s.one i cpu=aK (t,a)):Step s t [(a,aK i,c.z)] aJ:=by
 obtain⟨v,C,_⟩:=hk.one hc bJ h;obtain⟨E,w⟩:=hk.Ad hc bJ h;obtain⟨y,B⟩:=hk.Ws hc bJ h;have p:=Kv h;have f:t.holds a (aK i) c.z:=by
  have l:=rU hc;rw[<- p]at l;obtain⟨d,A,_,e⟩:=rV l;exact⟨(w i a).2 (.inr ⟨rfl,rfl⟩),d,A,e.symm⟩
 refine⟨v,C,p,λb g m=> ?_,λx D g m n=> ?_,λq b g m n _ l o=>B q (hk.PL n l o)⟩
 ·simp only[gTa,Prod.mk.injEq];cases g with
  | none=>
   constructor
   ·rintro⟨r,l,o⟩;exact .inl ⟨⟨r,(y r).1 l,o⟩,by simp⟩
   ·rintro(⟨⟨r,l,o⟩,_⟩ | ⟨_,h,_⟩)
    ·exact⟨r,(y r).2 l,o⟩
    ·cases h
  | some j=>
   constructor
   ·intro n;rcases(w j b).1 n.1 with l | ⟨rfl,rfl⟩
    ·exact .inl ⟨zO p n l,by simp⟩
    ·exact .inr ⟨rfl,rfl,(v.holds_one n f).2⟩
   ·rintro(⟨n,_⟩ | ⟨rfl,o,rfl⟩)
    ·exact tY p n ((w j b).2 (.inl n.1))
    ·rw[o];exact f
 ·obtain rfl:=gTa.1 D;have F:=v.lC f;cases g with
  | some j=>
   have l:t.holds a (aK j) m:=tY p n ((w j a).2 (.inl n.1));obtain⟨o,_⟩:=v.holds_one l f;obtain rfl:=gP o;exact E n.1
  | none=>
   obtain⟨r,l,o,_⟩:=n;obtain⟨k,u⟩:=dI.1 f.1;rw[show a=16*(r.a:Int)from o]at u;exact v.kZ ((y r).2 l) i k u
theorem bQ.Gv (hk:bQ s){a:Nat}{x:Sl}(hi:s.cs[i]? =aK c)(hx:c.sl[k]? =aK x)(ho:mX s.w c x a)(bJ:cpu<s.h.aAh):Step s (s.free i k a cpu) [] (aK (a:Int)):=by
 obtain⟨C,B,E,y,D⟩:=hk.free hi hx ho bJ;have o:(s.free i k a cpu).sig=s.sig:=OJ;have d:s.eF i k a:=⟨c,x,hi,hx,ho⟩
 refine⟨C,E,o,λb g m=> ?_,λx hx=>by simp at hx,λq b g m p n f l=>D q λe=> ?_⟩
 ·simp only[List.not_mem_nil,or_false];cases g with
  | none=>
   constructor
   ·rintro⟨r,f,l,A⟩;refine⟨⟨r,(y r).1 f,l,A⟩,λe=> ?_⟩;have u:=gP e;rw[<- u]at l;rw[l]at d
    exact hk.kZ ((y r).1 f) i k d
   ·rintro⟨⟨r,f,l⟩,_⟩;exact⟨r,(y r).2 f,l⟩
  | some j=>
   constructor
   ·intro p;obtain⟨f,l⟩:=(B j b).1 p.1;refine⟨zO o p f,λe=> ?_⟩;have u:=gP e;rw[<- u]at f;obtain⟨F,v⟩:=dI.1 f;obtain⟨rfl,_⟩:=hk.vF d v;exact l ⟨rfl,u.symm⟩
   ·rintro⟨p,n⟩;exact tY o p ((B j b).2 ⟨p.1,λe=>n (by rw[e.2])⟩)
 ·subst e;have t:s.holds (q:Int) (aK i) c.z:=⟨dI.2 ⟨k,d⟩,c,hi,rfl⟩
  rcases hk.xH p t (λe=>n (by rw[e]))with A | A
  ·omega
  ·have:=(hk.lC t).1;omega
theorem bQ.yF (hk:bQ s){h':Hp}{order t a:Nat}{u lo:Bool}(bJ:cpu<s.h.aAh)(ho:order<=4)(ht:t<3)(he:s.h.alloc cpu order t u lo=aK (h',a)):Step s {s with h:=h'} [(16*(a:Int),aJ,16*2^order)] aJ:=by
 obtain⟨p,l,k,n,z⟩:=hk.ZH bJ ho ht he;refine⟨p,l,rfl,λb g m=> ?_,λx q g m e=> ?_,λ_ _ _ _ _ _ _ _=>rfl⟩
 ·simp only[gTa,Prod.mk.injEq];cases g with
  | some j=>
   constructor
   ·exact λe=> .inl ⟨e,by simp⟩
   ·rintro(⟨e,_⟩ | ⟨_,h,_⟩)
    ·exact e
    ·cases h
  | none=>
   constructor
   ·rintro⟨i,d,c,f⟩;rcases(k i).1 d with rfl | d
    ·exact .inr ⟨c,rfl,f⟩
    ·exact .inl ⟨⟨i,d,c,f⟩,by simp⟩
   ·rintro(⟨⟨i,d,c⟩,_⟩ | ⟨c,_,f⟩)
    ·exact⟨i,(k i).2 (.inr d),c⟩
    ·exact⟨_,(k _).2 (.inl rfl),c,f⟩
 ·obtain rfl:=gTa.1 q;obtain⟨b,hb,d,c⟩:=hk.CV (oM e);have w:=(hk.lC e).1;have f:=n b hb;unfold apartB Bk.fin at f;have v:=Nat.two_pow_pos order;simp only at d c;generalize 2^order=r at*;generalize 2^b.o=y at*;omega
theorem bQ.CW (hk:bQ s){b:Bk}(bJ:cpu<s.h.aAh)(hb:s.whole b):Step s (s.iK cpu b) [] (aK (16*(b.a:Int))):=by
 obtain⟨w,v,u,_⟩:=hk.iK bJ hb;refine⟨w,v,rfl,λc g m=> ?_,λx y=>by simp at y,λ_ _ _ _ _ _ _ _=>rfl⟩;simp only[List.not_mem_nil,or_false];cases g with
 | some j=>
  constructor
  ·intro t;refine⟨t,λe=> ?_⟩;have r:=gP e;obtain⟨k,n⟩:=dI.1 t.1;have i:s.eF j k c:=n;rw[<- r]at i;exact hk.kZ hb j k i
  ·exact λh=>h.1
 | none=>
  constructor
  ·rintro⟨d,o,f,p⟩;obtain⟨q,i⟩:=(u d).1 o;refine⟨⟨d,q,f,p⟩,λe=>i (hk.Gt q.1 hb.1 ?_)⟩;have r:=gP e;omega
  ·rintro⟨⟨d,o,f,p⟩,l⟩;exact⟨d,(u d).2 ⟨o,λe=>l (by rw[f,e])⟩,f,p⟩
theorem Jz (hk:bQ t)(hc:t.h.aAh=s.h.aAh)(hs:t.sig=s.sig)(ha:∀j b,t.away j b↔s.away j b)(hw:∀b,t.whole b↔s.whole b)(hwd:∀(q:Nat),s.lw q->t.w.getD q 0=s.w.getD q 0)(hk0:bQ s):Step s t [] aJ:=by
 refine⟨hk,hc,hs,λb g m=> ?_,λx f=>by simp at f,λq b g m a _ d c=>hwd q (hk0.PL a d c)⟩;simp only[List.not_mem_nil,or_false];cases g with
 | some j=>
  constructor
  ·exact λa=>⟨zO hs a ((ha j b).1 a.1),by simp⟩
  ·exact λa=>tY hs a.1 ((ha j b).2 a.1.1)
 | none=>
  constructor
  ·rintro⟨e,d,c⟩;exact⟨⟨e,(hw e).1 d,c⟩,by simp⟩
  ·rintro⟨⟨e,d,c⟩,_⟩;exact⟨e,(hw e).2 d,c⟩
theorem bQ.yG (hk:bQ s):Step s {s with h:=s.h.drain} [] aJ:=by
 obtain⟨d,e,c,f,a⟩:=hk.hk.drain;refine Jz (hk.setH d c.aAh λb hb _=>by rw[a];exact hb) c.aAh rfl (λ_ _=>Iff.rfl) (λb=> ?_) (λ_ _=>rfl) hk;rw[cO,cO];show b∈s.h.drain.live/\_↔_;rw[a];exact Iff.rfl
theorem bQ.JA (hk:bQ s)(h:s.nY a m)(hl:w'.length=s.w.length)(hw:∀q:Nat,(q:Int)<a∨a+m<=q->w'.getD q 0=s.w.getD q 0):
 bQ {s with w:=w'}/\∀b g n,({s with w:=w'}:Sy).holds b g n↔s.holds b g n:=by
 obtain⟨d,c,f⟩:=hk.write h hl hw;refine⟨d,λb g n=> ?_⟩;cases g with
 | some j=>
  have e:({s with w:=w'}:Sy).away j b↔s.away j b:=by
   rw[dI,dI];exact⟨fun⟨k,h⟩=>⟨k,(c j k b).1 h⟩,fun⟨k,h⟩=>⟨k,(c j k b).2 h⟩⟩
  show _/\_↔_/\_;rw[e]
 | none=>exact Iff.rfl
theorem Step.snoc {u:Sy}{A B:List (Int×Option Nat×Nat)}(h1:Step s u A aJ)(h2:Step u t B aJ):Step s t (A++B) aJ:=by
 have b:∀a g m,s.holds a g m->u.holds a g m:=λa g m h=>(h1.hd a g m).2 (.inl ⟨h,by simp⟩)
 refine⟨h2.ok,h2.cp.trans h1.cp,h2.sg.trans h1.sg,λa g m=> ?_,λx f g m h=> ?_,λq a g m h _ d e=> ?_⟩
 ·rw[h2.hd,h1.hd,gZ];constructor
  ·rintro(⟨h | h,_⟩ | h)
   ·exact .inl h
   ·exact .inr (.inl h)
   ·exact .inr (.inr h)
  ·rintro(h | h | h)
   ·exact .inl ⟨.inl h,by simp⟩
   ·exact .inl ⟨.inr h,by simp⟩
   ·exact .inr h
 ·rcases gZ.1 f with c | c
  ·exact h1.nw x c g m h
  ·exact h2.nw x c g m (b _ _ _ h)
 ·rw[h2.wd q a g m (b a g m h) (by simp) d e];exact h1.wd q a g m h (by simp) d e
theorem bQ.Gy (hk:bQ s)(hc:s.cs[i]? =aK c)(bJ:cpu<s.h.aAh):∀{n:Nat} {t:Sy} {l:List Int},s.bulk i cpu n=aK (t,l)->Step s t (l.map λa=>(a,aK i,c.z)) aJ
 | 0,t,l,h=>by
  have h1:=gP h;rw[Prod.mk.injEq]at h1;obtain⟨rfl,rfl⟩:=h1;exact Step.refl hk
 | n+1,t,l,h=>by
  unfold Sy.bulk at h;cases hb:s.bulk i cpu n with
  | none=>rw[hb]at h;cases h
  | some r=>
   obtain⟨u,m⟩:=r;rw[hb]at h;simp only at h;have b:=hk.Gy hc bJ hb;cases ho:u.one i cpu with
   | none=>rw[ho]at h;cases h
   | some q=>
    obtain⟨k,a⟩:=q;rw[ho]at h;have f:=gP h;rw[Prod.mk.injEq]at f;obtain⟨rfl,rfl⟩:=f;have h1:=rU hc;rw[<- b.sg]at h1;obtain⟨d,j,_,e⟩:=rV h1;have g:=b.ok.Ez j (by rw[b.cp];exact bJ) ho;rw[e]at g;rw[List.map_append];exact b.snoc g
theorem WJ :(s.dQ i m).sig=s.sig:=by
 unfold Sy.dQ;cases hc:s.cs[i]? with
 | none=>rfl
 | some c=>exact iQ hc rfl
theorem WL :(s.lQ i k).sig=s.sig:=by
 unfold Sy.lQ;cases hc:s.cs[i]? with
 | none=>rfl
 | some c=>
  simp only;cases hx:c.sl[k]? with
  | none=>rfl
  | some x=>
   simp only;split
   ·exact wW
   ·rfl
theorem Ut :∀{m:Nat} {s:Sy},(s.shr i m).sig=s.sig
 | 0,_=>rfl
 | m+1,s=>(Ut (m:=m)).trans WL
theorem SY :(s.shrink i).sig=s.sig:=by
 unfold Sy.shrink;cases hc:s.cs[i]? with
 | none=>rfl
 | some c=>exact Ut.trans WJ
theorem bQ.Gz (hk:bQ s)(hi:i<s.cs.length):Step s (s.shrink i) [] aJ:=by
 obtain⟨c,a,e,_⟩:=hk.shrink hi;obtain⟨b,d⟩:=hk.LM hi;exact Jz c e SY a b (λ_ _=>by rw[d]) hk
theorem kU (h:s.dG a=aK m):∃g,s.holds a g m/\∀i c,g=aK i->s.cs[i]? =aK c->jY c.ns=true:=by
 unfold Sy.dG at h;cases hm:s.fP a with
 | some p=>
  obtain⟨i,k,c⟩:=p;rw[hm]at h;obtain rfl:=gP h;obtain⟨l,f,o⟩:=DX hm;refine⟨aK i,⟨dI.2 ⟨k,tV l⟩,c,f,rfl⟩,λj d e n=> ?_⟩;obtain rfl:=gP e;rw[f]at n;rw[<- gP n];exact o
 | none=>
  rw[hm]at h;simp only at h;cases hw:s.kT a with
  | none=>rw[hw]at h;cases h
  | some b=>
   rw[hw]at h;obtain rfl:=gP h;obtain⟨l,f⟩:=nX hw;exact⟨aJ,⟨b,l,f,rfl⟩,λi c e=>by cases e⟩
theorem bQ.uD (hk:bQ s)(h:s.holds a g m)(hm:∀i c,g=aK i->s.cs[i]? =aK c->jY c.ns=true):s.dG a=aK m:=by
 cases g with
 | some i=>
  obtain⟨d,c,j,rfl⟩:=h;obtain⟨k,f⟩:=dI.1 d;have e:s.fP a=aK (i,k,c):=by
   unfold Sy.fP;rw[hk.qH f];simp only[j];rw[if_pos (hm i c rfl j)]
  unfold Sy.dG;rw[e]
 | none=>
  obtain⟨b,d,rfl,rfl⟩:=h;have e:s.fP (16*(b.a:Int))=aJ:=by
   unfold Sy.fP;rw[zL (hk.kZ d)]
  unfold Sy.dG;rw[e];simp only[hk.DV d];rfl
theorem bQ.zQ (hk:bQ s)(h:∀g m,s.holds a g m->∃i c,g=aK i/\s.cs[i]? =aK c/\jY c.ns=false):s.dG a=aJ:=by
 cases hz:s.dG a with
 | none=>rfl
 | some m=>
  exfalso;obtain⟨g,f,d⟩:=kU hz;obtain⟨i,c,e,j,b⟩:=h g m f;rw[d i c e j]at b;cases b
theorem bQ.yH (hk:bQ s)(bJ:cpu<s.h.aAh)(h:s.dG a=aK m):∃u,s.fM cpu a=aK u/\Step s u [] (aK a):=by
 unfold Sy.dG at h;unfold Sy.fM;cases hm:s.fP a with
 | some p=>
  obtain⟨i,k,c⟩:=p;obtain⟨e,d,q⟩:=DX hm;obtain⟨o,x,j,n,l⟩:=tV e;rw[d]at j;obtain rfl:=gP j;have f:((a.toNat:Nat):Int)=a:=Int.toNat_of_nonneg (by have:=(jV l.1).1;omega);have g:=hk.Gv (k:=k) (a:=a.toNat) (cpu:=cpu) d n (by rw[f];exact l) bJ;rw[f]at g;exact⟨_,rfl,g⟩
 | none=>
  rw[hm]at h;simp only at h;cases hw:s.kT a with
  | none=>rw[hw]at h;cases h
  | some b=>
   obtain⟨e,d⟩:=nX hw;refine⟨s.iK cpu b,rfl,?_⟩;rw[d];exact hk.CW bJ e
theorem vK (h:s.dG a=aJ):s.fM cpu a=aJ:=by
 unfold Sy.dG at h;unfold Sy.fM;cases hm:s.fP a with
 | some p=>rw[hm]at h;cases h
 | none=>
  rw[hm]at h;simp only at h;cases hw:s.kT a with
  | none=>rfl
  | some b=>rw[hw]at h;cases h
theorem Ei.CX (h:Ei s)(hs:t.sig=s.sig):Ei t:=λj f=>by
 obtain⟨i,c,l,g,m,k⟩:=h j f;have a:=rU l;rw[<- hs]at a;obtain⟨d,b,e,n⟩:=rV a;exact⟨i,d,b,by rw[kX,lY hs,<- kX];exact g,by rw[e];exact m,by rw[n];exact k⟩
theorem bQ.zS (hk:bQ s)(hs:Ei s)(bJ:cpu<s.h.aAh)(h1:1<=n)(h2:n<=256)(h:s.dV cpu n=aK (t,a)):∃g m,Step s t [(a,g,m)] aJ/\n<=m/\t.dG a=aK m:=by
 obtain⟨v,_,_,_,_,m,j,y,_⟩:=hk.dV hs bJ h1 h2 h;obtain⟨g,o,_⟩:=kU j;have key:∀d e,Step s t [(a,d,e)] aJ->∃g m,Step s t [(a,g,m)] aJ/\n<=m/\t.dG a=aK m:=λd e b=>by
  have l:=(b.hd a d e).2 (.inr (by simp));obtain⟨w,u⟩:=v.holds_one l o;subst w u;exact⟨d,e,b,y,j⟩
 unfold Sy.dV at h;split at h
 ·rename_i hn;obtain⟨i,c,x,f,_⟩:=hs _ (yB h1 hn).1;rw[f]at h;exact key _ _ (hk.Ez x bJ h)
 ·rename_i hn;obtain⟨_,q,_⟩:=zI (show 33<=n by omega) h2;unfold Sy.WI at h;cases hal:s.h.alloc cpu (tK n) 0 false false with
  | none=>rw[hal]at h;cases h
  | some r=>
   obtain⟨z,p⟩:=r;rw[hal]at h;have k:=gP h;rw[Prod.mk.injEq]at k;obtain⟨rfl,rfl⟩:=k;exact key _ _ (hk.yF bJ q (by decide) hal)
def Sy.moved (t:Sy)(p q n:Nat):Sy:={t with w:=xI t.w p q n}
theorem WM (h1:p+n<=xs.length)(h2:q+n<=xs.length):(xI xs p q n).length=xs.length:=by
 unfold xI;simp only[gTb,gTc,gTd];omega
theorem WO (h1:p+n<=xs.length)(h2:q+n<=xs.length)(j:Nat):(xI xs p q n).getD j 0=if p<=j/\j<p+n then xs.getD (q+(j-p)) 0 else xs.getD j 0:=by
 unfold xI;rw[List.getD_eq_getElem?_getD,List.getD_eq_getElem?_getD,List.getD_eq_getElem?_getD];by_cases b:j<p
 ·rw[if_neg (by omega),List.append_assoc,List.getElem?_append_left (by rw[gTc];omega),List.getElem?_take_of_lt b]
 ·rw[List.append_assoc,List.getElem?_append_right (by rw[gTc];omega),gTc,Nat.min_eq_left (by omega)];by_cases a:j<p+n
  ·rw[if_pos ⟨by omega,a⟩,List.getElem?_append_left (by rw[gTc,gTd];omega),List.getElem?_take_of_lt (by omega),List.getElem?_drop]
  ·rw[if_neg (by omega),List.getElem?_append_right (by rw[gTc,gTd];omega),List.getElem?_drop,gTc,gTd];congr 2;omega
noncomputable def Sy.eP (s:Sy)(cpu:Nat)(a:Int)(n:Nat):Nat ⊕ (Sy×Int):=match s.dG a with
 | none=> .inl 4
 | some z=>if n<=z then .inr (s,a)else match s.dV cpu n with
  | none=> .inl 6
  | some (t,b)=>match (t.moved b.toNat a.toNat z).fM cpu a with
   | none=> .inl 4
   | some u=> .inr (u,b)
structure Moved (s:Sy)(cpu:Nat)(a:Int)(z:Nat)(t:Sy)(b:Int):Prop where
 ok:bQ (t.moved b.toNat a.toNat z)
 a0:0<=a/\a+z<=4096
 b0:0<=b/\b+z<=4096
 ne:a≠b
 sg:t.sig=s.sig
 cp:t.h.aAh=s.h.aAh
 sz:(t.moved b.toNat a.toNat z).dG a=aK z
 wl:t.w.length=4096
theorem bQ.moved (hk:bQ s)(hs:Ei s)(bJ:cpu<s.h.aAh)(h1:1<=n)(h2:n<=256)(hz:s.dG a=aK z)(hn:z<n)(h:s.dV cpu n=aK (t,b)):
 Moved s cpu a z t b/\∃u g m,(t.moved b.toNat a.toNat z).fM cpu a=aK u/\n<=m/\Step s u [(b,g,m)] (aK a)/\(∀j:Nat,j<z->u.w.getD (b.toNat+j) 0=s.w.getD (a.toNat+j) 0)/\u.dG b=aK m:=by
 obtain⟨g,m,f,V,L⟩:=hk.zS hs bJ h1 h2 h;obtain⟨A,U,N⟩:=kU hz;have hb:t.holds b g m:=(f.hd b g m).2 (.inr (by simp));have F:t.holds a A z:=(f.hd a A z).2 (.inl ⟨U,by simp⟩);have r:a≠b:=λe=>by
  subst e;exact f.nw _ (gTa.2 rfl) A z U
 have W:=f.ok.lC F;have Z:=f.ok.lC hb;have K:=f.ok.wl;have e1:((a.toNat:Nat):Int)=a:=Int.toNat_of_nonneg W.2.1;have e2:((b.toNat:Nat):Int)=b:=Int.toNat_of_nonneg Z.2.1;have R:(xI t.w b.toNat a.toNat z).length=t.w.length:=WM (by omega) (by omega);have l:=λj=>WO (xs:=t.w) (p:=b.toNat) (q:=a.toNat) (n:=z) (by omega) (by omega) j
 have Q:t.nY b m:=oM hb;obtain⟨I,E⟩:=f.ok.JA Q R λq hq=>by
  rw[l,if_neg (by omega)]
 have aOP:(t.moved b.toNat a.toNat z).sig=t.sig:=rfl;have B:(t.moved b.toNat a.toNat z).dG a=aK z:=by
  refine bQ.uD I ((E a A z).2 F) λi c e P=> ?_
  have k:s.sig[i]? =aK (c.ns,c.z):=by
   have h7:=rU P;have G:t.sig[i]? =aK (c.ns,c.z):=h7;rw[f.sg]at G;exact G
  obtain⟨d,hd,O,_⟩:=rV k;have X:d.ns=c.ns:=O;rw[<- X];exact N i d e hd
 refine⟨⟨I,⟨W.2.1,W.2.2⟩,⟨Z.2.1,by omega⟩,r,f.sg,f.cp,B,K⟩,?_⟩;have S:cpu<(t.moved b.toNat a.toNat z).h.aAh:=by show cpu<t.h.aAh;rw[f.cp];exact bJ
 obtain⟨u,hu,o⟩:=bQ.yH I S B;have J:u.holds b g m:=(o.hd b g m).2 (.inl ⟨(E b g m).2 hb,λe=>r (gP e)⟩);refine⟨u,g,m,hu,V,⟨o.ok,o.cp.trans f.cp,o.sg.trans f.sg,λc v y=> ?_,λx hx v y D=>f.nw x hx v y D,λq c v y D M Y f2=> ?_⟩,λj hj=> ?_,?_⟩
 ·rw[o.hd,E,f.hd];simp only[gTa,List.not_mem_nil,or_false];constructor
  ·rintro⟨⟨k,_⟩ | k,T⟩
   ·exact .inl ⟨k,T⟩
   ·exact .inr k
  ·rintro(⟨k,T⟩ | k)
   ·exact⟨.inl ⟨k,by simp⟩,T⟩
   ·refine⟨.inr k,λe=> ?_⟩;rw[Prod.mk.injEq]at k;exact r ((gP e).trans k.1)
 ·have C:t.holds c v y:=(f.hd c v y).2 (.inl ⟨D,by simp⟩);have H:c≠b:=λe=>f.nw _ (gTa.2 rfl) v y (e▸D)
  have k:=f.ok.xH C hb H;rw[o.wd q c v y ((E c v y).2 C) M Y f2];show(xI t.w b.toNat a.toNat z).getD q 0=_;rw[l,if_neg (by omega)];exact f.wd q c v y D (by simp) Y f2
 ·rw[o.wd (b.toNat+j) b g m ((E b g m).2 hb) (λe=>r (gP e)) (by omega) (by omega)];show(xI t.w b.toNat a.toNat z).getD (b.toNat+j) 0=_;rw[l,if_pos (by omega),Nat.add_sub_cancel_left];exact f.wd (a.toNat+j) a A z U (by simp) (by omega) (by omega)
 ·obtain⟨g9,q9,r9⟩:=kU L;obtain⟨rfl,_⟩:=f.ok.holds_one hb q9;refine o.ok.uD J λi c e P=> ?_
  have k:=rU P;rw[o.sg]at k;have G:t.sig[i]? =aK (c.ns,c.z):=k;obtain⟨d,hd,O,_⟩:=rV G;have X:d.ns=c.ns:=O;rw[<- X];exact r9 i d e hd
def aBF (v:Sc)(s':Sy)(G:Nat)(X:Nat->Prop)(w:World)(ev:Ending)(w':World):Prop:=ev=aN (aG #[])/\∃a,SS w' G X s' a/\Safe X w w'/\a.a2=v.a2
theorem Tc (v:Sc)(s:Sy)(G i:Nat)(X:Nat->Prop)(w:World)(hs:SS w G X s v)(hk:bQ s)(hi:i<v.ys.length):
 Calls prog 58 #[aH (aK ⟨G,0,aJ⟩),aB aI i] w (aBF v (s.shrink i) G X w):=by
 obtain⟨gc,ha2,o9,Lu,Rz,a⟩:=hs.r.TN hi;have hvl:v.ys.length<=20:=by have:=congrArg List.length hs.r.cy;rw[gTe]at this;rw[this];exact hk.cl
 have hvs:v.ys.length=s.cs.length:=by have:=congrArg List.length hs.r.cy;simpa using this
 have hii:(i:Int)<v.ys.length:=by omega
 have hcm:v.ys[i].c∈s.cs:=by rw[<- hs.r.cy];exact List.mem_map_of_mem (gL hi)
 have D:s.cs[i]? =aK v.ys[i].c:=by
  rw[<- hs.r.cy,List.getElem?_map,gJ hi];rfl
 have T:=hk.ck _ hcm;have Z:=hs.r.at.ca _ (gL hi);obtain⟨y,hy⟩:∃y,v.ys[i]=y:=⟨_,rfl⟩
 rw[hy]at a D T Z;have L:=Z.l2;have hl3:=Z.l3;have hsl:=T.mW hk.hk;have hac:=T.ac;have hcp:=hk.hk.cp.2;have hn3:y.n3<=4:=by omega
 have hn2:y.n2<=256:=by omega
 have b5:=(a 5 (by decide)).1;simp only[dX,vI,gC,gD,Nat.add_zero]at b5;have g6:=hs.k 6;unfold Sc.vals at g6;simp only[gB,gC,gD]at g6;rw[ha2]at g6;have HS:=gO hs;have HK:=gO hk;have DI:=gO D;have l:=gO hl3;have HL2:=gO L;have HA2:=gO ha2;have HIL:=gO (gK.1 D).1;have S:=gO (hk.dQ D);have HSH:Hid (s.shrink i=(s.dQ i y.c.ac.length).shr i y.c.sl.length):=by unfold Hid Sy.shrink;rw[D]
 have HVS:=gO hvs;clear hs hk a hy T hcm D Z L hl3 hsl hac hcp ha2 hvs hi;go_enter func58,ntmps58
 go_wp2_with fail
 go_loopw [5,18] (λs5 s18 wr=>∃(j:Nat) (Q:Sc),j<=y.n3/\s18=aB aI (j:Int)/\Hid (SS wr G X (s.fB i (y.c.dQ j)) Q)/\Hid (Safe X w wr)/\Hid (Q.a2=v.a2)) (λs5 s18 _=>y.n3-(intOf s18).toNat)
 case atStart=>
  refine⟨0,v,gU _,rfl,?_,Safe.refl _ _,rfl⟩;unfold Hid;rw[RJ];have e:s.fB i y.c=s:=by
   unfold Sy.fB;obtain⟨h1,h2⟩:=gK.1 DI.out;rw[<- h2,List.set_getElem_self]
  rw[e];exact HS.out
 case round=>
  obtain⟨j,Q,hj,rfl,O,HFr,HVr⟩:=hrel;have I:i<Q.ys.length:=by
   have h:=congrArg List.length O.out.r.cy;have h2:=HIL.out;simp only[gTe,Sy.fB,List.length_set]at h;omega
  obtain⟨gc',YX,aMU,_,_,a⟩:=O.out.r.TN I;obtain rfl:gc=gc':=by
   have h:=HVr.out;rw[YX,HA2.out]at h;simpa[eq_comm]using h
  have P:Q.ys[i].c=y.c.dQ j:=by
   have h1:=congrArg (·[i]?) O.out.r.cy;simp only[List.getElem?_map,gJ I,Option.map_some]at h1;have h2:(s.fB i (y.c.dQ j)).cs[i]? =aK (y.c.dQ j):=by
    show(s.cs.set i _)[i]? =_;rw[List.getElem?_set_self HIL.out]
   rw[h2]at h1;exact gP h1
  have WQ:=O.out.r.at.ca _ (gL I);obtain⟨J,g,q⟩:=O.out.r.y (gL I);obtain⟨E,N⟩:∃E,Q.ys[i]=E:=⟨_,rfl⟩
  rw[N]at a WQ P g q;have HY':=gO N;have ZP:=gO P;have aA9:E.n3=y.n3:=by rw[<- WQ.l3,P,Wp];exact l.out
  have b5':=(a 5 (by decide)).1;have b4':=(a 4 (by decide)).1;simp only[dX,vI,gC,gD,Nat.add_zero]at b5' b4';by_cases hlt:j<y.n3
  ·have hji:(j:Int)<E.n3:=by omega
   have aO1:(j:Int)<y.n3:=by omega
   have hja:j<E.c.ac.length:=by rw[WQ.l3];omega
   obtain⟨ga,hga,_,aGo,hca,hfa⟩:=mQ q j (by simpa[rX]using hja);rw[hga]at b5';obtain⟨ua,hua⟩:∃u,wr.cell? ⟨ga,j,aJ⟩=aK u:=⟨_,hca⟩
   have z:=O.out.Yn I N hga j (-1);have he:(s.fB i (y.c.dQ j)).fB i {E.c with ac:=E.c.ac.set j (-1)}=s.fB i (y.c.dQ (j+1)):=by
    unfold Sy.fB;simp only[List.set_set];have h9:({E.c with ac:=E.c.ac.set j (-1)}:Ca)=y.c.dQ (j+1):=by
     rw[P,RN (by have:=l.out;omega)];rfl
    rw[h9]
   rw[he]at z;unfold vI at z;have aBh:=gO z;clear z he hca hga J g q a WQ P YX b4' N hja aA9;go_wp2
   go_roundw
   case rel=>
    obtain⟨v'',t1,t2,t3⟩:=aBh.out;exact⟨j+1,v'',by omega,by go_num,t1,HFr.out.trans t2,t3.trans HVr.out⟩
   case measure=>simp[intOf];omega
  ·obtain rfl:j=y.n3:=by omega
   have hun:s.fB i (y.c.dQ y.n3)=s.dQ i y.c.ac.length:=by rw[OM DI.out,l.out]
   rw[hun]at O;have aHD:E.n2=y.n2:=by
    rw[<- WQ.l2,P];exact HL2.out
   have hnl:E.n2=(E.n2-1)+1∨E.n2=0:=by omega
   have HN0:Hid (AQ (s.dQ i y.c.ac.length) i y.n2):=by
    obtain⟨_,_,_,h4,_⟩:=S.out;refine⟨{y.c with ac:=List.replicate y.c.ac.length (-1)},by rw[h4,List.getElem?_set_self HIL.out],λb hb=>(List.mem_replicate.1 hb).2,?_⟩;show y.n2<=y.c.sl.length;rw[HL2.out];exact gT _
   have HSH2:Hid (s.shrink i=(s.dQ i y.c.ac.length).shr i y.n2):=by
    have h:=HSH.out;rw[HL2.out]at h;exact h
   have HUK:=gO S.out.1;have HUC:Hid ((s.dQ i y.c.ac.length).cs.length=s.cs.length):=by
    obtain⟨_,_,_,h4,_⟩:=S.out;unfold Hid;rw[h4,List.length_set]
   rw[aHD]at b4';obtain⟨s0,hs0⟩:∃s0,s.dQ i y.c.ac.length=s0:=⟨_,rfl⟩
   rw[hs0]at O HN0 HSH2 HUK HUC;clear J g q a WQ P YX b5' N aA9 hun ZP HY' aHD hnl HSH S hs0 HS HK DI l;go_wp2_with fail
   go_loopw [6] (λs6 wr=>∃(m:Nat) (o:Sy) (Q:Sc),m<=y.n2/\s6=aB aI ((m:Int)-1)/\Hid (s0.shr i y.n2=o.shr i m)/\Hid (bQ o)/\Hid (AQ o i m)/\Hid (o.cs.length=s.cs.length)/\Hid (SS wr G X o Q)/\Hid (Safe X w wr)/\Hid (Q.a2=v.a2)) (λs6 _=>(intOf s6+1).toNat)
   case atStart=>exact⟨y.n2,s0,Q,gT _,rfl,rfl,HUK,HN0,HUC,O,HFr,HVr⟩
   case round=>
    clear b4' HUK HN0 HUC O HFr HVr;obtain⟨m,o,v3,hm,rfl,A,F,HN3,l,p,M,R⟩:=hrel;cases m with
    | zero=>
     have HE:Hid (s.shrink i=o):=by
      unfold Hid;rw[HSH2.out,A.out];rfl
     go_wp2_with fail
     exact bodyPost_ret (v:=aG #[]) (by simp[results,results58,go_sem]) rfl ⟨rfl,v3,by rw[HE.out];exact p.out,M.out,R.out⟩
    | succ m=>
     have hmi:(((m+1:Nat):Int)-1)=(m:Int):=by omega
     rw[hmi];have aHE:s0.shr i y.n2=(o.lQ i m).shr i m:=A.out;obtain⟨g1,g2,g3,g4,g5,g6'⟩:=F.out.lQ HN3.out;have B:=gO aHE;have HK4:=gO g1;have V:=gO g4;have U:Hid ((o.lQ i m).cs.length=s.cs.length):=by unfold Hid;rw[g5];exact l.out
     clear aHE g1 g2 g3 g4 g5 g6' hmi;have hi3:i<v3.ys.length:=by
      have h:=congrArg List.length p.out.r.cy;have h1:=HIL.out;have h2:=l.out;simp only[gTe]at h;omega
     obtain⟨gc',ha3,aMV,_,_,a⟩:=p.out.r.TN hi3;obtain rfl:gc=gc':=by
      have h:=R.out;rw[ha3,HA2.out]at h;simpa[eq_comm]using h
     obtain⟨c',K,aHF,hcl'⟩:=HN3.out;have P:v3.ys[i].c=c':=by
      have h1:=congrArg (·[i]?) p.out.r.cy;simp only[List.getElem?_map,gJ hi3,Option.map_some]at h1;rw[K]at h1;exact gP h1
     have ZT:=F.out.ck c' (gM K);obtain⟨J,g,q⟩:=p.out.r.y (gL hi3);obtain⟨f,hy3⟩:∃f,v3.ys[i]=f:=⟨_,rfl⟩
     rw[hy3]at a g P;subst P;have H:m<f.c.sl.length:=by omega
     have L:f.c.sl.length=f.n2:=aZ aAv (by decide) g;have hmn:(m:Int)<f.n2:=by omega
     have x:m*3+1<(flat aY f.c.sl).length:=by rw[flat_length aAv];omega
     obtain⟨gs,hgs,_,OG,hsc,_⟩:=mQ g (m*3+1) x;have s1:wr.cell? ⟨gs,m*3+1,aJ⟩=aK (aB aI (f.c.sl[m].n:Int)):=by
      rw[hsc];have h:=flat_get aAv f.c.sl m H 1 (by decide);rw[gJ x]at h;exact h
     have x4:=(a 4 (by decide)).1;have x2:=(a 2 (by decide)).1;simp only[dX,vI,gC,gD,Nat.add_zero]at x4 x2;rw[hgs]at x4;have hx:f.c.sl[m]? =aK f.c.sl[m]:=gJ H;have C:o.lQ i m=if f.c.sl[m].n=f.c.r then o.discard i m 0 else o:=by
      unfold Sy.lQ;rw[K];simp only[hx]
     have hxn:f.c.sl[m].n<=64:=gQ (ZT.sk _ (gL H)).QE ZT.r64;have VY:=ZT.r64;have ZU:0<o.h.aAh:=F.out.hk.cp.1;have HDC:Hid (∀W,SS W G X o v3->Calls prog 79 #[aH (aK ⟨G,0,aJ⟩),aB aI i,aB aI m,aB aI 0] W (aCB v3 o i m 0 G X W)):=λW h=>DJ v3 o G i m 0 X W h F.out hi3 (by rw[hy3];exact H) ZU
     have aFJ:m<=256:=by omega
     have Y:=p;clear p;by_cases d:f.c.sl[m].n=f.c.r
     ·have hfi:(((f.c.sl[m].n:Nat):Int) == ((f.c.r:Nat):Int))=true:=by rw[beq_iff_eq,d]
      rw[if_pos d]at C;rw[C]at B HK4 V U;generalize f.c.sl[m].n=xn at*;clear a ZT J g q hy3 L x hsc hx C K aHF hcl' H hgs ha3 d A F HN3 l;go_upto_region 9 with fail
      go_quiet (fail)
      have t:=below_drewN (gX wr.heap.size wr) nq;have HS4:=gO (Y.out.below t);have HF4:=gO (M.out.then t);clear t s1 x4 x2 Y M;generalize wr.drewN nq=wq at*;go_wp2_with (first | (go_at_call 79;refine(HDC.out wq HS4.out).mono ?_;rintro ev w4 ⟨rfl,v4,hs4,hf4,hv4⟩))
      go_roundw
      case rel=>exact⟨m,_,v4,by omega,rfl,B,HK4,V,U,hs4,HF4.out.trans hf4,hv4.trans R.out⟩
      case measure=>simp[intOf]
     ·have hfi:(((f.c.sl[m].n:Nat):Int) == ((f.c.r:Nat):Int))=false:=by rw[beq_eq_false_iff_ne];omega
      rw[if_neg d]at C;rw[C]at B HK4 V U;generalize f.c.sl[m].n=xn at*;clear a ZT J g q hy3 L x hsc hx C K aHF hcl' H hgs ha3 d A F HN3 l HDC;go_upto_region 9 with fail
      go_quiet (fail)
      have t:=below_drewN (gX wr.heap.size wr) nq;have HS4:=gO (Y.out.below t);have HF4:=gO (M.out.then t);clear t s1 x4 x2 Y M;generalize wr.drewN nq=wq at*;go_wp2_with fail
      go_roundw
      case rel=>exact⟨m,o,v3,by omega,rfl,B,HK4,V,U,HS4,HF4,R⟩
      case measure=>simp[intOf]
theorem Td (v:Sc)(s:Sy)(n:List UInt8)(i:Nat)(w:World)(hs:lZ w v s)(hk:bQ s)(hf:∀c∈s.cs,c.ns.length<=1000)(hi:s.named n=aK i):
 Calls prog 22 #[aC #[aA v.a1 v.n1 v.c1,aA v.hc.az 2 v.hc.cz,aA v.hc.am 2 v.hc.cm,aB aI (s.h.aAh:Int),aA v.hc.al v.hc.lc.length v.hc.cl,aA v.hc.av s.h.live.length v.hc.cv,aA v.a2 v.ys.length v.c2],aF ⟨n.toArray⟩] w (okP (s.shrink i) w):=by
 obtain⟨I,Q⟩:∃I,s.shrink i=I:=⟨_,rfl⟩
 rw[Q];have Yt:=gO Q;have ZU:0<s.h.aAh:=hk.hk.cp.1;clear Q;obtain⟨L,V,F1,U,q,o⟩:=boxes2 w #[aA v.a1 v.n1 v.c1,aA v.hc.az 2 v.hc.cz,aA v.hc.am 2 v.hc.cm,aB aI (s.h.aAh:Int),aA v.hc.al v.hc.lc.length v.hc.cl,aA v.hc.av s.h.live.length v.hc.cv,aA v.a2 v.ys.length v.c2] 42 #[aA aJ 0 0,aA aJ 0 0,aA aJ 0 0,aB aI 0,aA aJ 0 0,aA aJ 0 0,aA aJ 0 0] 42;have Y:=gO (Eu v s n 0 i _ (hs.below o) hk hf hi ZU);obtain⟨k0,k1,k2,k3,k4,k5,k6⟩:=gA7 L;have HK:=gO hk;have HFN:=gO hf;have P:=gO hi;have B:=gO o;have p:=gO L;have t:=gO F1;have z:=gO V;have G:=gO U;clear hs hk hf hi L V F1 U o;go_enter func22,ntmps22
 go_upto_region 1 with fail
 generalize (w.alloc _).alloc _=w1 at*;have d:w.heap.size<w1.heap.size:=by omega
 go_upto_region 4 with (go_at_call 57;refine Y.out.mono ?_;rintro ev R ⟨a,he,l,e⟩;unfold YM Sc.vals at he;subst he;have x:=aAp p.out d e;have D:=aAt t.out d e;obtain⟨y0,y1,y2,y3,y4,y5,y6⟩:=gA7 x;obtain⟨f0,X,f2,f3,f4,Z,f6⟩:=gF7 D;skip)
 have E:=laid7 (T:=w.heap.size+1) B.out (Nat.lt_succ_self _) q p.out t.out z.out G.out e l;have u:=gO E.1;have F:=gO E.2.1;have H:=gO E.2.2.1;have m:=gO E.2.2.2;have A:w.heap.size+1<R.heap.size:=gI q e.size;have C:w.heap.size+1<(((((((R.setCell ⟨w.heap.size,0,aJ⟩ (aA a.a1 a.n1 a.c1)).setCell ⟨w.heap.size,1,aJ⟩ (aA a.hc.az 2 a.hc.cz)).setCell ⟨w.heap.size,2,aJ⟩ (aA a.hc.am 2 a.hc.cm)).setCell ⟨w.heap.size,3,aJ⟩ (aB aI (s.h.aAh:Int))).setCell ⟨w.heap.size,4,aJ⟩ (aA a.hc.al a.hc.lc.length a.hc.cl)).setCell ⟨w.heap.size,5,aJ⟩ (aA a.hc.av s.h.live.length a.hc.cv)).setCell ⟨w.heap.size,6,aJ⟩ (aA a.a2 a.ys.length a.c2)).heap.size:=by simpa using A
 clear x D y0 y1 y2 y3 y4 y5 y6 f0 X f2 f3 f4 Z f6 E l Y k0 k1 k2 k3 k4 k5 k6 p t z G e A B;generalize ((((((R.setCell _ _).setCell _ _).setCell _ _).setCell _ _).setCell _ _).setCell _ _).setCell _ _=w3 at*;clear q d;have M:i<a.ys.length:=by
  have h:=congrArg List.length u.out.r.cy;have K:=P.out;unfold Sy.named at K;rw[List.findIdx?_eq_some_iff_getElem]at K;obtain⟨h3,_⟩:=K;simp only[gTe]at h;omega
 have O:=gO (Tc a s w.heap.size i (λk=>k<w.heap.size∨k=w.heap.size+1) w3 u.out HK.out M);rw[Yt.out]at O;go_upto_region 5 with (go_at_call 58;refine O.out.mono ?_;rintro ev S ⟨rfl,b,y,f,N⟩;clear N)
 have g:=gO y;have j:=gO (f.box F.out C (.inr rfl));have tX:=gO (f.Xe H.out C (.inr rfl));have qL:Hid (Below w.heap.size w S):=Safe.after m.out f (λk hk=> .inl hk) m.out.size;clear F H m u y f O;have z0:=g.out.k 0;have z1:=g.out.k 1;have z2:=g.out.k 2;have z3:=g.out.k 3;have W:=g.out.k 4;have z5:=g.out.k 5;have z6:=g.out.k 6;unfold Sc.vals at z0 z1 z2 z3 W z5 z6;have q0:=j.out 0;have q1:=j.out 1;have q2:=j.out 2;have q3:=j.out 3;have q4:=j.out 4;have q5:=j.out 5;have q6:=j.out 6;obtain⟨f0,X,f2,f3,f4,Z,f6⟩:=gF7 tX.out;simp only[gB,gC,gD]at z0 z1 z2 z3 W z5 z6 q0 q1 q2 q3 q4 q5 q6;have J:=out7 g.out (T:=w.heap.size+1) (.inr rfl) (λk hk=> .inl hk) (Nat.lt_succ_self _) j.out qL.out;have KX:=J.1;have oI:=gO J.2.1;have jA:=gO J.2.2;clear J g j tX qL;go_wp2_with fail
 generalize ((((((S.setCell _ _).setCell _ _).setCell _ _).setCell _ _).setCell _ _).setCell _ _).setCell _ _=wx at*;exact bodyPost_ret (v:=aG #[aC #[aA b.a1 b.n1 b.c1,aA b.hc.az 2 b.hc.cz,aA b.hc.am 2 b.hc.cm,aB aI (I.h.aAh:Int),aA b.hc.al b.hc.lc.length b.hc.cl,aA b.hc.av I.h.live.length b.hc.cv,aA b.a2 b.ys.length b.c2],aB aI 0]) (by simp[results,results22,go_sem,KX]) rfl (⟨b,rfl,oI.out,jA.out⟩)
theorem bQ.aHH (hk:bQ s)(hi:s.cs[i]? =aK c){ns:List (List UInt8)}(hs:ns.Sublist c.ns)(hne:ns≠[]):
 bQ (s.fB i {c with ns:=ns})/\(∀j b,(s.fB i {c with ns:=ns}).away j b↔s.away j b)/\(s.fB i {c with ns:=ns}).nss=s.nss.set i ns/\(∀b,(s.fB i {c with ns:=ns}).whole b↔s.whole b):=by
 obtain⟨h,g⟩:=gK.1 hi;have u:=gM hi;have e:=hk.ck c u;have v:∀d∈s.cs,qJ (s.fB i {c with ns:=ns}) d:=λd n=>(hk.ck d n).move rfl λx q=>⟨((hk.ck d n).sk x q).live,((hk.ck d n).sk x q).chain⟩
 refine⟨⟨hk.wl,hk.hk,by show(s.cs.set i _).length<=20;rw[List.length_set];exact hk.cl,λd n=> ?_,BQ hk.zd (λj f l=> ?_) (λj f k=> ?_),BQ hk.nd (λj f l m t y=> ?_) (λj f k m t=> ?_),BQ hk.pd (λj f l=> ?_) (λj f k=> ?_)⟩,λj b=> ?_,?_,λb=> ?_⟩
 ·rcases List.mem_or_eq_of_mem_set n with w | rfl
  ·exact v d w
  ·exact⟨e.z,e.o,e.r,hne,λm t=>e.nm m (hs.subset t),e.nr.sublist hs,e.ac,e.sr,λx q=>⟨(e.sk x q).live,(e.sk x q).chain⟩,e.aw,e.ad⟩
 ·have:=gN.1 hk.zd j i f h l;rw[g]at this;exact this
 ·have:=gN.1 hk.zd i j h f k;rw[g]at this;exact this
 ·have:=gN.1 hk.nd j i f h l m t;rw[g]at this;exact this (hs.subset y)
 ·have:=gN.1 hk.nd i j h f k m;rw[g]at this;exact this (hs.subset t)
 ·have:=gN.1 hk.pd j i f h l;rw[g]at this;exact this
 ·have:=gN.1 hk.pd i j h f k;rw[g]at this;exact this
 ·have p:=pY (s':=s.fB i {c with ns:=ns}) (c':={c with ns:=ns}) hi rfl b;by_cases f:j=i
  ·subst f;rw[p.1,oC hi];exact Iff.rfl
  ·rw[p.2 j f];exact Iff.rfl
 ·show(s.cs.set i _).map (·.ns)=(s.cs.map (·.ns)).set i ns;rw[List.map_set]
 ·rw[cO,cO];have w:=wX (s':=s.fB i {c with ns:=ns}) hi rfl (λ_=>Iff.rfl) b.a;rw[w];exact Iff.rfl
structure Mg (h:Hp)(z:Nat)(s1 s2:Sy)(i:Nat)(ns ns':List (List UInt8)):Prop where
 n0:(dK h 6).named [120,97]=aJ
 c1:(dK h 6).create [120,97] z=aK s1
 n1:s1.named [120,98]=aJ
 c2:s1.create [120,98] z=aK s2
 l1:s1.cs.length=6∨s1.cs.length=7
 l2:s2.cs.length=s1.cs.length
 k1:bQ s1
 k2:bQ s2
 f1:∀c∈s1.cs,c.ns.length<=999
 f2:∀c∈s2.cs,c.ns.length<=999
 hh:s2.h=h
 i2:s2.nss[i]? =aK ns
 na:s2.nss.findIdx? (λl=>l.contains [120,97])=aK i
 nb:s2.nss.findIdx? (λl=>l.contains [120,98])=aK i
 er:ns.eraseIdx (Dk ns [120,97])=ns'
 ln:1<ns.length
 nb':(s2.nss.set i ns').findIdx? (λl=>l.contains [120,98])=aK i
 alw:1<ns'.length↔z∈[1,2,4,8,16,32]
 ne:ns'≠[]
theorem xJ {N:Nat}(h:s.nss.all (λl=>decide (l.length<=N))=true):∀c∈s.cs,c.ns.length<=N:=λc a=>by
 rw[List.all_eq_true]at h;exact of_decide_eq_true (h c.ns (List.mem_map_of_mem a))
theorem Mg.take {h:Hp}{s1 s2:Sy}{ns ns':List (List UInt8)}(m:Mg h z s1 s2 i ns ns')(ho:s2.one i 0=aK (t,a)):
 bQ t/\(∀c∈t.cs,c.ns.length<=999)/\t.named [120,97]=aK i/\t.named [120,98]=aK i/\t.h.aAh=h.aAh/\
 (∃(c:Ca) (k:Nat) (x:Sl),t.cs[i]? =aK c/\c.sl[k]? =aK x/\mX t.w c x a/\0<=a)/\
 ∃t1,t.destroy i [120,97]=aK t1/\bQ t1/\(∀c∈t1.cs,c.ns.length<=999)/\t1.named [120,98]=aK i/\
  ((t1.destroy i [120,98]=aJ/\z∉[1,2,4,8,16,32])∨(z∈[1,2,4,8,16,32]/\∃t2,t1.destroy i [120,98]=aK t2)):=by
 have D:0<s2.h.aAh:=by rw[m.hh];have:=m.k2.hk.cp.1;rw[m.hh]at this;exact this
 have v:∃c,s2.cs[i]? =aK c:=by
  have b:=m.i2;unfold Sy.nss at b;rw[List.getElem?_map]at b;cases e:s2.cs[i]? with
  | none=>rw[e]at b;cases b
  | some c=>exact⟨c,rfl⟩
 obtain⟨L,p⟩:=v;obtain⟨C,G,K,c,j⟩:=m.k2.one p D ho;obtain⟨M,F⟩:=m.k2.Ad p D ho;have r:=TK ho;have n:c.ns=ns:=by
  have b:=congrArg (·[i]?) r;simp only[m.i2]at b;unfold Sy.nss at b;rw[List.getElem?_map,j]at b;exact gP b
 have o:t.away i a:=(F i a).2 (.inr ⟨rfl,rfl⟩);have g:ns'.Sublist c.ns:=by rw[n,<- m.er];exact List.eraseIdx_sublist _ _
 obtain⟨B,J,H,_⟩:=C.aHH j g m.ne;have A:=(gK.1 j).1;have E:t.destroy i [120,97]=aK (t.fB i {c with ns:=ns'}):=by
  unfold Sy.destroy;rw[j];simp only;rw[n,if_pos m.ln,m.er]
 have l:(t.fB i {c with ns:=ns'}).cs[i]? =aK {c with ns:=ns'}:=List.getElem?_set_self A;have y:∀d∈t.cs,d.ns.length<=999:=uQ r m.f2;refine⟨C,y,by rw[kX,r];exact m.na,by rw[kX,r];exact m.nb,by rw[G,m.hh],?_,_,E,B,λd f=> ?_,by rw[kX,H,r];exact m.nb',?_⟩
 ·obtain⟨d,f,x,I,q⟩:=o;rw[j]at f;obtain rfl:=gP f;obtain⟨k,u,e⟩:=List.mem_iff_getElem.1 I;exact⟨c,k,x,j,by rw[gJ u,e],q,by have:=(jV q.1).1;omega⟩
 ·rcases List.mem_or_eq_of_mem_set f with b | rfl
  ·exact y d b
  ·exact gQ g.length_le (y c (gM j))
 ·by_cases s:z∈[1,2,4,8,16,32]
  ·refine .inr ⟨s,(t.fB i {c with ns:=ns'}).fB i {c with ns:=ns'.eraseIdx (Dk ns' [120,98])},?_⟩;unfold Sy.destroy;rw[l];simp only;rw[if_pos (m.alw.2 s)]
  ·refine .inl ⟨?_,s⟩;unfold Sy.destroy;rw[l];simp only;rw[if_neg (λh=>s (m.alw.1 h)),if_pos ((B.Zm l).2 ⟨a,(J i a).2 o⟩)]
theorem own:ownKnob prog.godebug=aJ:=by kernel_rfl
theorem aH1:prog.globalNamed "paddock/buddy.others" =aK 1:=by kernel_rfl
theorem aAn:(prog.globals[1]?).map (·.type)=aK 240:=by kernel_rfl
theorem gSz:prog.globalNamed "paddock/kmem.sizes" =aK 0:=by kernel_rfl
theorem aB2:(prog.globals[0]?).map (·.type)=aK 118:=by kernel_rfl
theorem cellsT3:prog.cellsOf 240=6:=by kernel_rfl
theorem cellsT2:prog.cellsOf 239=2:=by kernel_rfl
theorem cellsT6:prog.cellsOf 118=6:=by kernel_rfl
theorem Ql:prog.cellsOf 3=1:=by kernel_rfl
theorem Iw {H:Type}{enc:TypeId×Value->H}{P:Program}{w:World}{base:Nat}{sp:Nat->Bool}{held:Bool}{fuel:Nat}{t e f:TypeId}{n m:Nat}{k:IntKind}{cs:List Value}{zss:List (List Int)}{p:List MemPlace}
 (ht:P.underlying t=aK (.array n e)) (he:P.underlying e=aK (.array m f)) (hf:P.underlying f=aK (.int k)) (hcf:P.cellsOf f=1) (hce:P.cellsOf e=m) (hct:P.cellsOf t=n*m)
 (h:DataW.trod enc P w base sp held fuel t cs=aK (.agg (zss.map λzs=>Lib.tabData k zs),p)):∀i,i<n->∃zs,zss[i]? =aK zs/\(cs.drop (i*m)).take m=zs.map λz=>Value.int k z:=by
 cases fuel with
 | zero=>simp[DataW.trod]at h
 | succ fuel=>
  simp only[DataW.trod,ht,hce,hct]at h;split at h
  ·rename_i hl;obtain⟨l,o,r⟩:=Option.map_eq_some_iff.1 h;have j:l.map (·.1)=zss.map λzs=>(Lib.tabData k zs:DataW H):=by
    have:=congrArg Prod.fst r;simpa using this
   intro i q;obtain⟨b,hb,g⟩:=Lib.mapM_at o i i (by simp[q]);have c:(l.map (·.1))[i]? =aK b.1:=by simp[hb]
   rw[j]at c;simp only[List.getElem?_map,Option.map_eq_some_iff]at c;obtain⟨zs,d,a⟩:=c;obtain⟨s,u⟩:=b;simp only at a;subst a;exact⟨zs,d,Lib.cells_of_tab he hf hcf hce g⟩
  ·cases h
theorem oN (h:laidMetH prog [("math/bits.deBruijn32tab",Rows.laid_math_bits_deBruijn32tab),("math/bits.deBruijn64tab",Rows.laid_math_bits_deBruijn64tab),("internal/strconv.uint64pow10",Rows.laid_internal_strconv_uint64pow10),("paddock/buddy.others",Rows.laid_paddock_buddy_others),("paddock/kmem.sizes",Rows.laid_paddock_kmem_sizes)] W):sS W:=by
 obtain⟨J,⟨_,_,_,_,_,_,_,_,_,_,⟨_,_,_,_,_,_,_,_,_,_,⟨_,_,_,_,_,_,_,_,_,_,⟨L,I,g,A,p,q,j,m,f,E,_,_⟩,_⟩,_⟩,_⟩,_⟩:=h;obtain rfl:=gP (aH1.symm.trans j);obtain rfl:=gP (aAn.symm.trans m);have k:=Iw (zss:=[[2,1],[2,0],[0,1]]) underlying240 underlying239 underlying3 Ql cellsT2 cellsT3 E;have d:∀i v,g[i]? =aK v->W.cell? ⟨1,i,aJ⟩=aK v:=λi v c=>(World.var?_cell aH1 f i).trans c
 obtain⟨z0,o,F⟩:=k 0 (by decide);obtain⟨z1,s,H⟩:=k 1 (by decide);obtain⟨K,n,G⟩:=k 2 (by decide);simp only[gC,gD,Option.some.injEq]at o s n;subst o s n;have key:∀(l:List Value) (a b:Nat) (x y:Value),(l.drop a).take 2=[x,y]->l[a]? =aK x/\l[a+1]? =aK y:=by
  intro l a b x y h;have r:=congrArg (·[0]?) h;have z:=congrArg (·[1]?) h;simp[List.getElem?_drop]at r z;exact⟨r,z⟩
 obtain⟨B,C⟩:=key g.toList 0 0 _ _ F;obtain⟨D,t⟩:=key g.toList 2 0 _ _ H;obtain⟨w,u⟩:=key g.toList 4 0 _ _ G;rw[Array.getElem?_toList]at B C D t w u;have e:=d 0 _ B;refine⟨by have:=World.block_lt_of_cell? W _ e;exact this,λi v c=> ?_⟩;rcases i with _ | _ | _ | _ | _ | _ | i
 ·simp at c;subst c;exact e
 ·simp at c;subst c;exact d 1 _ C
 ·simp at c;subst c;exact d 2 _ D
 ·simp at c;subst c;exact d 3 _ t
 ·simp at c;subst c;exact d 4 _ w
 ·simp at c;subst c;exact d 5 _ u
 ·simp at c
theorem oO (h:laidMetH prog [("math/bits.deBruijn32tab",Rows.laid_math_bits_deBruijn32tab),("math/bits.deBruijn64tab",Rows.laid_math_bits_deBruijn64tab),("internal/strconv.uint64pow10",Rows.laid_internal_strconv_uint64pow10),("paddock/buddy.others",Rows.laid_paddock_buddy_others),("paddock/kmem.sizes",Rows.laid_paddock_kmem_sizes)] W):yD W:=by
 obtain⟨o,⟨_,_,_,_,_,_,_,_,_,_,⟨_,_,_,_,_,_,_,_,_,_,⟨_,_,_,_,_,_,_,_,_,_,⟨_,_,_,_,_,_,_,_,_,_,⟨r,n,f,g,p,q,c,d,a,l,_,_⟩,_⟩,_⟩,_⟩,_⟩,_⟩:=h;obtain rfl:=gP (gSz.symm.trans c);obtain rfl:=gP (aB2.symm.trans d);have m:=Lib.cells_of_tab (zs:=[1,2,4,8,16,32]) underlying118 underlying3 Ql cellsT6 l;have k:∀i v,f[i]? =aK v->W.cell? ⟨0,i,aJ⟩=aK v:=λi v e=>(World.var?_cell gSz a i).trans e
 have j:∀i:Nat,f[i]? =([1,2,4,8,16,32].map λz=>Value.int .i64 z)[i]? :=λi=>by rw[<- Array.getElem?_toList,m]
 have b:=k 0 (.int .i64 1) (by rw[j];rfl);refine⟨World.block_lt_of_cell? W _ b,λi v e=>k i v ?_⟩;rw[j,<- e];rcases i with _ | _ | _ | _ | _ | _ | i;all_goals rfl
def putCells (a:Array Value):Obj->Obj
 | .cells _ t frozen=> .cells a t frozen
 | o=>o
noncomputable def laidWorld (os:Os):World:=
 {World.holding prog os ⟨#[],#[],[]⟩with heap:=((((((World.holding prog os ⟨#[],#[],[]⟩).heap.modify 0 (putCells #[.int .i64 1,.int .i64 2,.int .i64 4,.int .i64 8,.int .i64 16,.int .i64 32])).modify 1 (putCells #[.int .i64 2,.int .i64 1,.int .i64 2,.int .i64 0,.int .i64 0,.int .i64 1])).modify 2 (putCells #[.int .u64 1,.int .u64 10,.int .u64 100,.int .u64 1000,.int .u64 10000,.int .u64 100000,.int .u64 1000000,.int .u64 10000000,.int .u64 100000000,.int .u64 1000000000,.int .u64 10000000000,.int .u64 100000000000,.int .u64 1000000000000,.int .u64 10000000000000,.int .u64 100000000000000,.int .u64 1000000000000000,.int .u64 10000000000000000,.int .u64 100000000000000000,.int .u64 1000000000000000000,.int .u64 10000000000000000000])).modify 3 (putCells #[.int .u8 0,.int .u8 1,.int .u8 28,.int .u8 2,.int .u8 29,.int .u8 14,.int .u8 24,.int .u8 3,.int .u8 30,.int .u8 22,.int .u8 20,.int .u8 15,.int .u8 25,.int .u8 17,.int .u8 4,.int .u8 8,.int .u8 31,.int .u8 27,.int .u8 13,.int .u8 23,.int .u8 21,.int .u8 19,.int .u8 16,.int .u8 7,.int .u8 26,.int .u8 12,.int .u8 18,.int .u8 6,.int .u8 11,.int .u8 5,.int .u8 10,.int .u8 9])).modify 4 (putCells #[.int .u8 0,.int .u8 1,.int .u8 56,.int .u8 2,.int .u8 57,.int .u8 49,.int .u8 28,.int .u8 3,.int .u8 61,.int .u8 58,.int .u8 42,.int .u8 50,.int .u8 38,.int .u8 29,.int .u8 17,.int .u8 4,.int .u8 62,.int .u8 47,.int .u8 59,.int .u8 36,.int .u8 45,.int .u8 43,.int .u8 51,.int .u8 22,.int .u8 53,.int .u8 39,.int .u8 33,.int .u8 30,.int .u8 24,.int .u8 18,.int .u8 12,.int .u8 5,.int .u8 63,.int .u8 55,.int .u8 48,.int .u8 27,.int .u8 60,.int .u8 41,.int .u8 37,.int .u8 16,.int .u8 46,.int .u8 35,.int .u8 44,.int .u8 21,.int .u8 52,.int .u8 32,.int .u8 23,.int .u8 11,.int .u8 54,.int .u8 26,.int .u8 40,.int .u8 15,.int .u8 34,.int .u8 20,.int .u8 31,.int .u8 10,.int .u8 25,.int .u8 14,.int .u8 19,.int .u8 9,.int .u8 13,.int .u8 8,.int .u8 7,.int .u8 6]))}
end Go.Proofs.YtjaogfhcnmjkiaaGreatDoor
