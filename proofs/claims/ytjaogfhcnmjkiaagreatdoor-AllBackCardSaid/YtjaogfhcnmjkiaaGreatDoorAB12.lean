/- joined. -/
import Derived.Test.YtjaogfhcnmjkiaaGreatDoorAB11
import Derived.Test.YtjaogfhcnmjkiaaGreatDoorAB9
import Derived.JoinedCond
import Derived.KernelRfl
import Derived.Maps.Views
import Derived.StringKeys
import Derived.Lib.Strings
set_option linter.all false
set_option maxRecDepth 100000
set_option maxHeartbeats 0
namespace Go.Proofs.YtjaogfhcnmjkiaaGreatDoor
open Go.RowKit
open Go.Value renaming slice->aA,int->aB,agg->aC,string->aF,tuple->aG,pointer->aH,ownBlock->gTh
open Go.IntKind renaming i64->aI
open Option renaming none->aJ,some->aK
open Go.Ending renaming returned->aN
open Go.Obj renaming cells->aO
open Go.Proofs.Tryz
variable {B c' cpu g gc i j k n' p z:Nat}{X':Nat->Prop}{a:Int}{a':Option Addr}{b:Bool}{c:Ca}{e:TypeId}{h h' h0:Hp}{hc':Hc}{key u v:Value}{l xs:List Int}{n:List UInt8}{r:Rs}{row:Option Nat}{s s' t:Sy}{vs:Array Value}{w w':World}{x:Sl}
theorem lH (hk:fG h){b b':Bk}(hb:b∈h.live)(hb':b'∈h.live)(hne:b.a≠b'.a):apartB b.a b.o b':=dU λq k g=>by
 obtain⟨i,n,e⟩:=List.mem_iff_getElem.1 hb;have p:=hk.one q;rw[dO]at p;have s:=BD n q;have l:b'∈h.live.eraseIdx i:=by
  obtain⟨j,f,c⟩:=List.mem_iff_getElem.1 hb';have d:j≠i:=λm=>by
   subst m;rw[e]at c;exact hne (by rw[c])
  rw[List.mem_eraseIdx_iff_getElem];exact⟨j,f,d,c⟩
 have r:0<cnt (h.live.eraseIdx i) q:=eG.2 ⟨b',l,g⟩;have t:hit h.live[i] q=1:=kR.2 (by rw[e];exact k);omega
theorem cZ.Nj (hk:cZ s){d:Ca}{y:Sl}(hc:c∈s.cs)(hd:d∈s.cs)(hx:x∈c.sl)(hy:y∈d.sl)(h1:iO c x.p a=true)(h2:iO d y.p a=true):x.p=y.p:=by
 obtain⟨b,hb,f,j⟩:=((hk.ck c hc).sk x hx).live;obtain⟨n,h,e,g⟩:=((hk.ck d hd).sk y hy).live;apply Decidable.byContradiction;intro i;have k:=lH hk.hk hb h (by rw[f,e];exact i);unfold apartB Bk.fin at k;rw[f,j,e,g]at k;have l:=kD (hk.ck c hc).room h1;have m:=kD (hk.ck d hd).room h2;generalize 2^c.o=q at*;generalize 2^d.o=r at*;omega
theorem cZ.only (hk:cZ s){l:Nat}(hi:i<s.cs.length)(hj:j<s.cs.length)(hki:k<s.cs[i].sl.length)(hlj:l<s.cs[j].sl.length)(h1:iO s.cs[i] s.cs[i].sl[k].p a=true)(h2:iO s.cs[j] s.cs[j].sl[l].p a=true):i=j/\k=l:=by
 have d:=hk.Nj (gL hi) (gL hj) (gL hki) (gL hlj) h1 h2;have c:i=j:=by
  rcases Nat.lt_trichotomy i j with h | h | h
  ·exact absurd d (gN.1 hk.pd i j hi hj h _ (gL hki) _ (gL hlj))
  ·exact h
  ·exact absurd d.symm (gN.1 hk.pd j i hj hi h _ (gL hlj) _ (gL hki))
 subst c;refine⟨rfl,?_⟩;have b:=(hk.ck _ (gL hi)).sr;rw[gN]at b;rcases Nat.lt_trichotomy k l with h | h | h
 ·have:=b k l hki hlj h;omega
 ·exact h
 ·have:=b l k hlj hki h;omega
theorem oW:∀{l m:List Int},l.Nodup->(∀a∈l,a∈m)->l.length<=m.length
 | [],_,_,_=>gU _
 | a::l,m,hd,hs=>by
  rw[List.nodup_cons]at hd;have h1:=hs a (by simp);have c:=oW (l:=l) (m:=m.erase a) hd.2 λb hb=>(List.mem_erase_of_ne (λe=>hd.1 (by rw[<- e];exact hb))).2 (hs b (List.mem_cons_of_mem _ hb))
  rw[List.length_erase_of_mem h1]at c;have d:=List.length_pos_of_mem h1;simp only[List.length_cons];omega
theorem XE {r:Nat}:a∈objs p z r↔∃j,j<r/\a=((p+j*z:Nat):Int):=by
 unfold objs;simp only[List.mem_map,List.mem_range];constructor
 ·rintro⟨j,b,e⟩;exact⟨j,b,e.symm⟩
 ·rintro⟨j,b,e⟩;exact⟨j,b,e.symm⟩
theorem BG (hz:1<=c.z):iO c p a=true↔a∈objs (16*p) c.z c.r:=by
 rw[XE];constructor
 ·intro h;obtain⟨f,l,b⟩:=kY h;obtain⟨d,g⟩:∃d:Nat,a-16*p=d:=⟨(a-16*p).toNat,by omega⟩
  rw[g]at b;have e:d%c.z=0:=by exact_mod_cast b
  have m:d<c.r*c.z:=by
   have:((d:Nat):Int)<((c.r*c.z:Nat):Int):=by push_cast;omega
   omega
  have i:d/c.z*c.z=d:=Nat.div_mul_cancel (Nat.dvd_of_mod_eq_zero e);refine⟨d/c.z,Nat.div_lt_of_lt_mul (by rw[Nat.mul_comm];exact m),?_⟩;rw[i]
  push_cast
  omega
 ·rintro⟨j,k,rfl⟩;unfold iO;simp only[decide_eq_true_eq];have f:((16*p+j*c.z:Nat):Int)-16*(p:Int)=(j:Int)*c.z:=by push_cast;omega
  rw[f];have l:(j:Int)*c.z=((j*c.z:Nat):Int):=by push_cast;rfl
  have b:(c.r:Int)*c.z=((c.r*c.z:Nat):Int):=by push_cast;rfl
  have e:j*c.z<c.r*c.z:=Nat.mul_lt_mul_of_pos_right k hz;exact⟨by omega,by omega,Int.mul_emod_left _ _⟩
theorem Qv {r:Nat}(hz:1<=z):(objs p z r).Nodup:=by
 unfold objs List.Nodup;rw[List.pairwise_map];refine List.Pairwise.imp ?_ (List.pairwise_lt_range (n:=r));intro a b c e;have f:p+a*z=p+b*z:=by exact_mod_cast e
 have d:a*z<b*z:=Nat.mul_lt_mul_of_pos_right c hz;omega
theorem IC (hz:1<=c.z)(hd:l.Nodup)(ho:∀a∈l,iO c p a=true):l.length<=c.r:=by
 have h:=oW hd λa b=>(BG hz).1 (ho a b)
 rwa [rC]at h
theorem IE {c:Ca}{p:Nat}{l:List Int}(hz:1<=c.z)(hd:l.Nodup)(ho:∀a∈l,iO c p a=true)(hl:c.r<=l.length){a:Int}(h:iO c p a=true):a∈l:=by
 apply Decidable.byContradiction;intro e;have d:=IC (l:=a::l) hz (List.nodup_cons.2 ⟨e,hd⟩) λb hb=>by
  rcases gY.1 hb with rfl | hb
  ·exact h
  ·exact ho b hb
 simp only[List.length_cons]at d;omega
theorem UG (hz:1<=c.z)(hl:l.length<c.r):∃a,iO c p a=true/\a∉l:=by
 apply Classical.byContradiction;intro f;have e:∀a∈objs (16*p) c.z c.r,a∈l:=λa b=>Decidable.byContradiction λh=>f ⟨a,(BG hz).2 b,h⟩
 have d:=oW (Qv hz) e;rw[rC]at d;omega
def nN (w:List Int)(c:Ca)(x:Sl)(a:Int):Prop:=iO c x.p a=true/\∀l,follow w x.h c.r=aK l->a∉l
def Sy.away (s:Sy)(i:Nat)(a:Int):Prop:=∃c,s.cs[i]? =aK c/\∃x∈c.sl,nN s.w c x a
theorem Qw {l:List Sl}(hk:k<l.length)(x':Sl)(P:Sl->Prop):(∃y∈l.set k x',P y)↔(∃j,∃h:j<l.length,j≠k/\P l[j])∨P x':=by
 constructor
 ·rintro⟨y,d,b⟩;obtain⟨j,c,e⟩:=List.mem_iff_getElem.1 d;rw[List.length_set]at c;rw[List.getElem_set]at e;split at e
  ·exact .inr (e▸b)
  ·rename_i a;exact .inl ⟨j,c,λf=>a f.symm,by rw[e];exact b⟩
 ·rintro(⟨j,c,a,b⟩ | b)
  ·refine⟨l[j],?_,b⟩;rw[List.mem_iff_getElem];exact⟨j,by simpa using c,by rw[List.getElem_set,if_neg λe=>a e.symm]⟩
  ·exact⟨x',List.mem_iff_getElem.2 ⟨k,by simpa using hk,by simp⟩,b⟩
theorem IG {l:List Sl}(hk:k<l.length)(P:Sl->Prop):(∃y∈l,P y)↔(∃j,∃h:j<l.length,j≠k/\P l[j])∨P l[k]:=by
 constructor
 ·rintro⟨y,c,a⟩;obtain⟨j,b,e⟩:=List.mem_iff_getElem.1 c;by_cases h:j=k
  ·subst h;exact .inr (e▸a)
  ·exact .inl ⟨j,b,h,by rw[e];exact a⟩
 ·rintro(⟨j,b,d,a⟩ | a)
  ·exact⟨l[j],gL b,a⟩
  ·exact⟨l[k],gL hk,a⟩
theorem Nk {l:List Sl}(P:Sl->Prop):(∃y∈l.eraseIdx k,P y)↔(∃j,∃h:j<l.length,j≠k/\P l[j]):=by
 constructor
 ·rintro⟨y,d,b⟩;rw[List.mem_eraseIdx_iff_getElem]at d;obtain⟨j,c,a,e⟩:=d;exact⟨j,c,a,by rw[e];exact b⟩
 ·rintro⟨j,c,a,b⟩;refine⟨l[j],?_,b⟩;rw[List.mem_eraseIdx_iff_getElem];exact⟨j,c,a,rfl⟩
theorem qN {c':Ca}(hi:s.cs[i]? =aK c)(hcs:s'.cs=s.cs.set i c')(b:Int):(s'.away i b↔∃x∈c'.sl,nN s'.w c' x b)/\∀j,j≠i->(s'.away j b↔∃d,s.cs[j]? =aK d/\∃x∈d.sl,nN s'.w d x b):=by
 have a:=(gK.1 hi).1;constructor
 ·unfold Sy.away;rw[hcs,List.getElem?_set_self a];constructor
  ·rintro⟨d,f,h⟩;obtain rfl:=gP f;exact h
  ·exact λh=>⟨c',rfl,h⟩
 ·intro j g;unfold Sy.away;rw[hcs,List.getElem?_set_ne λe=>g e.symm]
theorem oZ (hi:s.cs[i]? =aK c)(b:Int):s.away i b↔∃x∈c.sl,nN s.w c x b:=by
 unfold Sy.away;rw[hi];constructor
 ·rintro⟨d,a,h⟩;obtain rfl:=gP a;exact h
 ·exact λh=>⟨c,rfl,h⟩
theorem nT {w:List Int}(h:follow w x.h c.r=aK l)(a:Int):nN w c x a↔iO c x.p a=true/\a∉l:=by
 unfold nN;constructor
 ·exact λb=>⟨b.1,b.2 l h⟩
 ·rintro⟨b,e⟩;refine⟨b,λm d=> ?_⟩;rw[h]at d;obtain rfl:=gP d;exact e
theorem cZ.XF (hk:cZ s)(hi:s.cs[i]? =aK c)(hj:j<c.sl.length)(hkl:k<c.sl.length)(h1:iO c c.sl[j].p a=true)(h2:iO c c.sl[k].p a=true):j=k:=by
 obtain⟨b,e⟩:=gK.1 hi;subst e;exact(hk.only b b hj hkl h1 h2).2
theorem cZ.XG (hk:cZ s)(hi:s.cs[i]? =aK c)(hx:c.sl[k]? =aK x)(hn:0<x.n)(hp:s.pop i k=aK (s',a)):
 ¬s.away i a/\∀j b,s'.away j b↔s.away j b∨(j=i/\b=a):=by
 obtain⟨_,_,B,rfl,t⟩:=hk.pop hi hx hn hp;have z:=gM hx;obtain⟨d,e⟩:=gK.1 hx;obtain⟨m,r,H,C,G,I,D⟩:=hk.first (gM hi) z hn;have y:=(iP.1 r).2.2.2;have g:iO c x.p x.h=true:=C x.h (by simp);have A:x.h∉m:=(List.nodup_cons.1 y).1;have l:¬s.away i x.h:=by
  rw[oZ hi,IG d];rintro(⟨j,o,q,h,_⟩ | h)
  ·exact q (hk.XF hi o d h (by rw[e];exact g))
  ·rw[e,nT r]at h;exact h.2 (by simp)
 refine⟨l,λj b=> ?_⟩;have f:=qN (s':=s') (c':={c with sl:=c.sl.set k ⟨x.p,x.n-1,s.w.getD x.h.toNat 0⟩}) hi (by rw[t];rfl) b;by_cases o:j=i
 ·subst o;rw[f.1,oZ hi,Qw d,IG d,e,nT r,B];have E:nN s.w {c with sl:=c.sl.set k ⟨x.p,x.n-1,s.w.getD x.h.toNat 0⟩} ⟨x.p,x.n-1,s.w.getD x.h.toNat 0⟩ b↔iO c x.p b=true/\b∉m:=nT (x:=⟨x.p,x.n-1,s.w.getD x.h.toNat 0⟩) (c:={c with sl:=c.sl.set k ⟨x.p,x.n-1,s.w.getD x.h.toNat 0⟩}) D b;rw[E];have F:(∃j,∃h:j<c.sl.length,j≠k/\nN s.w {c with sl:=c.sl.set k ⟨x.p,x.n-1,s.w.getD x.h.toNat 0⟩} c.sl[j] b)↔(∃j,∃h:j<c.sl.length,j≠k/\nN s.w c c.sl[j] b):=Iff.rfl;rw[F,gY];constructor
  ·rintro(h | ⟨h,v⟩)
   ·exact .inl (.inl h)
   ·by_cases hb:b=x.h
    ·exact .inr ⟨rfl,hb⟩
    ·exact .inl (.inr ⟨h,λu=>u.elim hb v⟩)
  ·rintro((h | ⟨h,v⟩) | ⟨_,rfl⟩)
   ·exact .inl h
   ·exact .inr ⟨h,λu=>v (.inr u)⟩
   ·exact .inr ⟨g,A⟩
 ·rw[f.2 j o,B];constructor
  ·exact λh=> .inl h
  ·rintro(h | ⟨h,_⟩)
   ·exact h
   ·exact absurd h o
theorem sZ.Dk (h:sZ s c x)(hw:s'.w.length=s.w.length)(hs:∀a:Int,iO c x.p a=true->s'.w.getD a.toNat 0=s.w.getD a.toNat 0):follow s'.w x.h c.r=follow s.w x.h c.r:=by
 obtain⟨l,b,f,e⟩:=h.chain;rw[b];rw[iP]at b ⊢;rw[hw];exact⟨b.1.move λa d=>hs a (e a d),b.2⟩
theorem xR {w w':List Int}(h:follow w' x.h c.r=follow w x.h c.r)(a:Int):nN w' c x a↔nN w c x a:=by
 unfold nN;rw[h]
theorem cZ.aAL (hk:cZ s)(hi:s.cs[i]? =aK c)(dA:cpu<s.h.aP)(hg:s.grow i cpu c=aK (s',k)):
 ∃a,s'.w=chainTo s.w (16*a) c.z c.r c.r/\s'.cs=s.cs.set i {c with sl:=qL c.sl ⟨a,c.r,((16*a:Nat):Int)⟩}/\s'.h.live=dG s.h.live ⟨a,c.o,0⟩/\16*a+c.z*c.r<=s.w.length/\
  ∀d∈s.cs,∀x∈d.sl,x.p≠a/\∀o:Int,iO d x.p o=true->s'.w.getD o.toNat 0=s.w.getD o.toNat 0:=by
 have e:=hk.ck c (gM hi);have y:c.o<=4:=by rw[e.o];exact gQ (mM _) (by decide)
 unfold Sy.grow at hg;cases hal:s.h.alloc cpu c.o 0 false false with
 | none=>rw[hal]at hg;cases hg
 | some r=>
  obtain⟨G,a⟩:=r;rw[hal]at hg;have f:=gP hg;rw[Prod.mk.injEq]at f;obtain⟨rfl,rfl⟩:=f;obtain⟨M,E,C,g,j⟩:=hk.hk.alloc dA y (by decide) hal;have n:G.live=dG s.h.live ⟨a,c.o,0⟩:=g;have u:∀b∈s.h.live,apartB a c.o b:=λb hb=>dU λq f t=>by
   have A:=M.one q;rw[dO,n,tJ]at A;have H:0<cnt s.h.live q:=eG.2 ⟨b,hb,t⟩;have J:hit (⟨a,c.o,0⟩:Bk) q=1:=kR.2 f;omega
  have I:=Nat.two_pow_pos c.o;have v:16*a+c.z*c.r<=s.w.length:=by
   have f:=e.room;have t:a+2^c.o<=256:=by
    have A:c.o<=2:=by rw[e.o];exact mM _
    obtain⟨_,_,H,J⟩:=j;generalize c.o=o at*;obtain rfl | rfl | rfl:o=0∨o=1∨o=2:=by omega
    ·omega
    ·omega
    ·omega
   rw[Nat.mul_comm c.z,hk.wl];generalize c.r*c.z=m at*;generalize 2^c.o=q at*;omega
  refine⟨a,rfl,rfl,n,v,λd F x N=> ?_⟩;have l:=hk.ck d F;obtain⟨b,hb,D,B⟩:=(l.sk x N).live;have f:=u b hb;unfold apartB Bk.fin at f;rw[D,B]at f;have K:=Nat.two_pow_pos d.o;refine⟨by omega,λo L=>rF _ _ _ _ _ (gT _) _ ?_ e.z.1⟩;have t:=kD l.room L;have A:=e.room;rw[Nat.mul_comm c.z c.r];generalize c.r*c.z=m at*;generalize 2^c.o=q at*;generalize 2^d.o=O at*;omega
theorem cZ.UH (hk:cZ s)(hi:s.cs[i]? =aK c)(dA:cpu<s.h.aP)(hg:s.grow i cpu c=aK (s',k))(j:Nat)(b:Int):s'.away j b↔s.away j b:=by
 have g:=hk.ck c (gM hi);obtain⟨a,u,q,_,n,o⟩:=hk.aAL hi dA hg;have p:s'.w.length=s.w.length:=by rw[u];exact jB _ _ _ _ _
 have t:1<=c.r:=by rw[g.r];exact Nh g.z
 have m:=qN (s':=s') hi q b;have e:∀d∈s.cs,∀x∈d.sl,(nN s'.w d x b↔nN s.w d x b):=λd l x f=>xR (((hk.ck d l).sk x f).Dk p (o d l x f).2) b
 by_cases v:j=i
 ·subst v;rw[m.1,oZ hi];have y:=zN s.w (16*a) c.z c.r c.r g.z.1 t n (by omega);rw[if_pos (Int.le_refl _),<- u]at y;constructor
  ·rintro⟨x,f,h⟩;rcases o8.1 f with rfl | f
   ·exfalso;refine h.2 _ y ?_;exact(BG (c:=c) g.z.1).1 h.1
   ·exact⟨x,f,(e c (gM hi) x f).1 h⟩
  ·rintro⟨x,f,h⟩;exact⟨x,o8.2 (.inr f),(e c (gM hi) x f).2 h⟩
 ·rw[m.2 j v];unfold Sy.away;constructor
  ·rintro⟨d,l,x,f,h⟩;exact⟨d,l,x,f,(e d (gM l) x f).1 h⟩
  ·rintro⟨d,l,x,f,h⟩;exact⟨d,l,x,f,(e d (gM l) x f).2 h⟩
theorem II (s:Sy)(i cpu k j:Nat)(b:Int):(s.mine i cpu k).away j b↔s.away j b:=by
 unfold Sy.mine;cases hc:s.cs[i]? with
 | none=>rfl
 | some c=>
  simp only;cases hx:c.sl[k]? with
  | none=>rfl
  | some x=>
   have a:=qN (s':=s.fO i {c with ac:=c.ac.set cpu (x.p:Int)}) (c':={c with ac:=c.ac.set cpu (x.p:Int)}) hc rfl b;by_cases d:j=i
   ·subst d;rw[a.1,oZ hc];exact Iff.rfl
   ·rw[a.2 j d];exact Iff.rfl
theorem cZ.Nl (hk:cZ s)(hi:s.cs[i]? =aK c)(dA:cpu<s.h.aP)(hg:s.choose i cpu=aK (s',k))(j:Nat)(b:Int):s'.away j b↔s.away j b:=by
 unfold Sy.choose at hg;rw[hi]at hg;simp only at hg;split at hg
 ·have a:=gP hg;rw[Prod.mk.injEq]at a;rw[<- a.1]
 ·split at hg
  ·have a:=gP hg;rw[Prod.mk.injEq]at a;rw[<- a.1];exact II _ _ _ _ _ _
  ·split at hg
   ·rename_i heq;have a:=gP hg;rw[Prod.mk.injEq]at a;rw[<- a.1,II];exact hk.UH hi dA heq j b
   ·cases hg
theorem cZ.zV (hk:cZ s)(hi:s.cs[i]? =aK c)(dA:cpu<s.h.aP)(hg:s.one i cpu=aK (s',a)):¬s.away i a/\∀j b,s'.away j b↔s.away j b∨(j=i/\b=a):=by
 unfold Sy.one at hg;cases hch:s.choose i cpu with
 | none=>rw[hch]at hg;cases hg
 | some r=>
  obtain⟨o,k⟩:=r;rw[hch]at hg;simp only at hg;obtain⟨g,p,q,x,n,f,m⟩:=hk.choose hi dA hch;obtain⟨e,l⟩:=g.XG n f m hg;have d:=λj b=>hk.Nl hi dA hch j b
  exact⟨λh=>e ((d i a).2 h),λj b=>by rw[l,d]⟩
theorem cZ.xU (hk:cZ s)(hi:i<s.cs.length)(dA:cpu<s.h.aP):∀{n:Nat} {t:Sy} {l:List Int},s.bulk i cpu n=aK (t,l)->
 cZ t/\t.h.aP=s.h.aP/\t.cs.length=s.cs.length/\l.length=n/\l.Nodup/\(∀a∈l,¬s.away i a)/\∀j b,t.away j b↔s.away j b∨(j=i/\b∈l)
 | 0,t,l,h=>by
  have h1:=gP h;rw[Prod.mk.injEq]at h1;obtain⟨rfl,rfl⟩:=h1;exact⟨hk,rfl,rfl,rfl,List.nodup_nil,by simp,λj b=>by simp⟩
 | n+1,t,l,h=>by
  unfold Sy.bulk at h;cases hb:s.bulk i cpu n with
  | none=>rw[hb]at h;cases h
  | some r=>
   obtain⟨u,m⟩:=r;rw[hb]at h;simp only at h;obtain⟨h1,o,y,A,B,D,w⟩:=hk.xU hi dA hb;cases ho:u.one i cpu with
   | none=>rw[ho]at h;cases h
   | some q=>
    obtain⟨G,a⟩:=q;rw[ho]at h;have x:=gP h;rw[Prod.mk.injEq]at x;obtain⟨rfl,rfl⟩:=x;have k:u.cs[i]? =aK (u.cs[i]'(by rw[y];exact hi)):=gJ _;obtain⟨C,z,F,_⟩:=h1.one k (by rw[o];exact dA) ho;obtain⟨p,E⟩:=h1.zV k (by rw[o];exact dA) ho;rw[w]at p;refine⟨C,by rw[z,o],by rw[F,y],by simp[A],?_,λb f=> ?_,λj b=> ?_⟩
    ·rw[List.nodup_append];refine⟨B,by simp,λb f d v e=> ?_⟩;simp only[gTa]at v;subst v e;exact p (.inr ⟨rfl,f⟩)
    ·rcases gZ.1 f with g | g
     ·exact D b g
     ·simp only[gTa]at g;subst g;exact λg=>p (.inl g)
    ·rw[E,w,gZ,gTa];constructor
     ·rintro((h | ⟨h,c⟩) | ⟨h,c⟩)
      ·exact .inl h
      ·exact .inr ⟨h,.inl c⟩
      ·exact .inr ⟨h,.inr c⟩
     ·rintro(h | ⟨h,c | c⟩)
      ·exact .inl (.inl h)
      ·exact .inl (.inr ⟨h,c⟩)
      ·exact .inr ⟨h,c⟩
section
open Go.Maps (Keyed)
theorem yR {H:Type}{P:Program}(he:P.underlying e=aK .bool){z:DataW H×List MemPlace}(h:plainElem P e v=aK z):∃x,v= .bool x/\z=(.lit (.bool x),[]):=by
 unfold plainElem at h;rw[he]at h;cases v <;> simp at h;exact⟨_,rfl,h.symm⟩
def iF (w:World)(P:Program)(k e:TypeId)(B n:Nat)(S:Lit->Prop):Prop:=
 ∃D:DataW Unit,w.ownsMap P k (plainElem P e) B n D/\Maps.IsMap D/\∀a,WideAt.IsKeyLit a->(S a->D.atKey a (.lit (.bool false))= .lit (.bool true))/\(¬S a->D.atKey a (.lit (.bool false))= .lit (.bool false))
section
variable {w w':World}{P:Program}{t k e:TypeId}{B n:Nat}{S:Lit->Prop}
theorem iF.made (w:World)(P:Program)(k e:TypeId):iF (w.alloc (.map #[] 0)) P k e w.heap.size 0 λ_=>False:=
 ⟨.map [],World.ownsMap_made w P k _,Maps.isMap_empty,λa _=>⟨λh=>h.elim,λ_=>rfl⟩⟩
theorem iF.lt (h:iF w P k e B n S):B<w.heap.size:=by
 obtain⟨D,a,_⟩:=h;exact a.lt
theorem iF.kept (h:iF w P k e B n S)(hg:w.grownBy w' row)(hne:aK B≠row):iF w' P k e B n S:=by
 obtain⟨D,a,b⟩:=h;exact⟨D,a.kept hg hne,b⟩
theorem iF.below (h:iF w P k e B n S)(hb:Below w.heap.size w w'):iF w' P k e B n S:=
 h.kept (row:=aJ) ⟨hb.os,hb.tape,hb.output,hb.size,λj a _=>hb.block j a⟩ (by simp)
theorem iF.imp {S':Lit->Prop}(h:iF w P k e B n S)(hs:∀x,S x↔S' x):iF w P k e B n S':=by
 obtain⟨D,i,f,d⟩:=h;exact⟨D,i,f,λa c=>⟨λb=>(d a c).1 ((hs a).2 b),λb=>(d a c).2 λg=>b ((hs a).1 g)⟩⟩
theorem iF.out (h:iF w P k e B n S)(K:Keyed P k)(ht:P.underlying t=aK (.map k e))(he:P.underlying e=aK .bool)(hz:(zeroValue e).run P w= .ok (.bool false) w){kl:Lit}(hkey:keyOf P k key=aK kl)(hk:WideAt.IsKeyLit kl)(hno:¬S kl):
 (Instr.lookup t (.map (aK B)) key false).run P w= .ok (.bool false) w:=by
 obtain⟨D,f,_,g⟩:=h;obtain⟨v,i,a,c⟩:=f.lookup K ht hz (plainElem_bool he false) hkey;obtain⟨x,rfl,b⟩:=yR he c;have d:=(g kl hk).2 hno;rw[d]at b;simp only[Prod.mk.injEq,DataW.lit.injEq,Lit.bool.injEq]at b;rw[a,<- b.1]
theorem iF.put (h:iF w P k e B n S)(K:Keyed P k)(ht:P.underlying t=aK (.map k e))(he:P.underlying e=aK .bool)(hn:n<maxLen){kl:Lit}(hkey:keyOf P k key=aK kl)(hk:WideAt.IsKeyLit kl):
 ∃w',(Instr.mapUpdate t (.map (aK B)) key (.bool true)).run P w= .ok () w'/\iF w' P k e B (n+1) (λx=>x=kl∨S x)/\w.grownBy w' (aK B):=by
 obtain⟨D,i,c,d⟩:=h;obtain⟨w',b,g,l⟩:=i.update K ht hn hkey (plainElem_bool he true);refine⟨w',b,⟨_,g,c.put _ _,λx f=> ?_⟩,l⟩;by_cases a:x=kl
 ·subst a;exact⟨λ_=>Maps.atKey_put_same c hk _ _,λh=>absurd (Or.inl rfl) h⟩
 ·rw[Maps.atKey_put_other a];exact⟨λh=>(d x f).1 (h.resolve_left a),λh=>(d x f).2 λj=>h (Or.inr j)⟩
end
end
theorem XL:∀x:List UInt8,Go.Op.bytesLess x x=false
 | []=>rfl
 | a::x=>by
  rw[Go.Op.bytesLess,XL x];simp
theorem EM:∀{x y z:List UInt8},Go.Op.bytesLess x y=true->Go.Op.bytesLess y z=true->Go.Op.bytesLess x z=true
 | [],[],_,h,_=>by simp[Go.Op.bytesLess]at h
 | [],_::_,[],_,h=>by simp[Go.Op.bytesLess]at h
 | [],_::_,_::_,_,_=>rfl
 | _::_,[],_,h,_=>by simp[Go.Op.bytesLess]at h
 | _::_,_::_,[],_,h=>by simp[Go.Op.bytesLess]at h
 | a::x,b::y,c::z,h,k=>by
  simp only[Go.Op.bytesLess,Bool.or_eq_true,Bool.and_eq_true,decide_eq_true_eq,beq_iff_eq,UInt8.lt_iff_toNat_lt]at h k ⊢;rcases h with h | ⟨rfl,h⟩
  ·rcases k with k | ⟨rfl,k⟩
   ·exact .inl (by omega)
   ·exact .inl h
  ·rcases k with k | ⟨rfl,k⟩
   ·exact .inl k
   ·exact .inr ⟨rfl,EM h k⟩
theorem aAN {x y:List UInt8}(h:Go.Op.bytesLess x y=b):Go.Op.bytesLess (ByteArray.mk x.toArray).toList (ByteArray.mk y.toArray).toList=b:=by
 rw[Go.Lib.toList_data,Go.Lib.toList_data];exact h
theorem UK {x y:List UInt8}(w:World)(h:Go.Op.bytesLess x y=b):(binOp .geq 9 (.string ⟨x.toArray⟩) (.string ⟨y.toArray⟩)).run prog w= .ok (.bool (!b)) w:=by
 simp[binOp,Go.Op.stringOp];exact h
theorem Qz:(prog.info? 4).map (λi=>(i.zero,i.size,i.bytes))=aK (aK (.bool false),1,1):=by kernel_rfl
theorem EN (w:World):(zeroValue 4).run prog w= .ok (.bool false) w:=by
 obtain⟨i,a,b,c,hb⟩:=info_parts Qz;simp[zeroValue,typeInfo,a,b]
theorem tN {n:Nat}(hg:w.grownBy w' (aK B))(h1:n<=B)(h2:n<=w.heap.size):Below n w w':=
 ⟨hg.os,hg.tape,hg.output,hg.size,λk a=>hg.block k (by omega) (by simp;omega)⟩
theorem Td {b:Nat}(hk:∀o,w.cell? ⟨b,o,aJ⟩=vs[o]?)(hg:w.grownBy w' (aK B))(hb:b<w.heap.size)(hne:b≠B)(o:Nat):w'.cell? ⟨b,o,aJ⟩=vs[o]? :=
 (World.cell?_of_block (w:=w) (a:=⟨b,o,aJ⟩) (hg.block b hb (by simp;exact hne))).trans (hk o)
section
variable {w:World}{B n:Nat}{S:Lit->Prop}
theorem Nq (l:List UInt8)(hl:l.length<=1000):keyOf prog 9 (sV l)=aK (.string l):=by
 have h:=Go.WideMaps.keyOf_string_mk underlying9 (s:=ByteArray.mk l.toArray) (by unfold maxLen;show l.toArray.size<=_;simp;omega);simpa[sV]using h
theorem aCe (p:Nat)(hp:p<=1000):keyOf prog 3 (.int .i64 (p:Int))=aK (.int .i64 (p:Int)):=
 Go.Maps.keyOf_int_mk underlying3 (by
  show(decide (IntKind.i64.min<=(p:Int))&&decide ((p:Int)<=IntKind.i64.max))=true;rw[show IntKind.i64.min= -9223372036854775808 from rfl,show IntKind.i64.max=9223372036854775807 from rfl];simp;omega)
theorem Nr (h:iF w prog 9 4 B n S)(l:List UInt8)(hl:l.length<=1000)(hno:¬S (.string l)):(Instr.lookup 92 (.map (aK B)) (sV l) false).run prog w= .ok (.bool false) w:=
 h.out (Go.Maps.string_keyed underlying9) underlying92 underlying4 (EN w) (Nq l hl) trivial hno
theorem Ns (h:iF w prog 9 4 B n S)(hn:n<=1000000)(l:List UInt8)(hl:l.length<=1000):∃w',(Instr.mapUpdate 92 (.map (aK B)) (sV l) (.bool true)).run prog w= .ok () w'/\iF w' prog 9 4 B (n+1) (λx=>x= .string l∨S x)/\w.grownBy w' (aK B):=
 h.put (Go.Maps.string_keyed underlying9) underlying92 underlying4 (by unfold maxLen;omega) (Nq l hl) trivial
theorem XM (h:iF w prog 3 4 B n S)(p:Nat)(hp:p<=1000)(hno:¬S (.int .i64 (p:Int))):(Instr.lookup 93 (.map (aK B)) (.int .i64 (p:Int)) false).run prog w= .ok (.bool false) w:=
 h.out (Go.Maps.int_keyed underlying3) underlying93 underlying4 (EN w) (aCe p hp) trivial hno
theorem XO (h:iF w prog 3 4 B n S)(hn:n<=1000000)(p:Nat)(hp:p<=1000):∃w',(Instr.mapUpdate 93 (.map (aK B)) (.int .i64 (p:Int)) (.bool true)).run prog w= .ok () w'/\iF w' prog 3 4 B (n+1) (λx=>x= .int .i64 (p:Int)∨S x)/\w.grownBy w' (aK B):=
 h.put (Go.Maps.int_keyed underlying3) underlying93 underlying4 (by unfold maxLen;omega) (aCe p hp) trivial
end
theorem Nu:∀{x y:List UInt8},x≠y->Go.Op.bytesLess x y=false->Go.Op.bytesLess y x=true
 | [],[],h,_=>absurd rfl h
 | [],_::_,_,h=>by simp[Go.Op.bytesLess]at h
 | _::_,[],_,_=>rfl
 | a::x,b::y,hne,h=>by
  simp only[Go.Op.bytesLess,Bool.or_eq_false_iff,Bool.and_eq_false_iff,decide_eq_false_iff_not,beq_eq_false_iff_ne]at h;simp only[Go.Op.bytesLess,Bool.or_eq_true,Bool.and_eq_true,decide_eq_true_eq,beq_iff_eq];by_cases hab:a=b
  ·subst hab;refine .inr ⟨rfl,Nu (λe=>hne (by rw[e])) ?_⟩;rcases h.2 with h2 | h2
   ·exact absurd rfl h2
   ·exact h2
  ·left;have h1:=h.1;rw[UInt8.lt_iff_toNat_lt]at h1 ⊢;have c:a.toNat≠b.toNat:=λe=>hab (UInt8.toNat_inj.1 e)
   omega
theorem Tf {α:Type}(q:α->Bool)(l:List α):l.take (l.takeWhile q).length=l.takeWhile q/\l.drop (l.takeWhile q).length=l.dropWhile q:=by
 have h:l.takeWhile q++l.dropWhile q=l:=List.takeWhile_append_dropWhile;constructor
 ·conv=>lhs;arg 2;rw[<- h]
  exact List.take_left' rfl
 ·conv=>lhs;arg 2;rw[<- h]
  exact List.drop_left' rfl
theorem Ti {α:Type}{q:α->Bool}{y:α}:∀{l:List α},y∈l.takeWhile q->q y=true
 | [],h=>by simp at h
 | b::l,h=>by
  by_cases hb:q b=true
  ·rw[List.takeWhile_cons_of_pos hb]at h;rcases gY.1 h with rfl | h
   ·exact hb
   ·exact Ti h
  ·rw[List.takeWhile_cons_of_neg hb]at h;simp at h
theorem aCf :∀{l:List (List UInt8)},(l.Pairwise λx y=>Go.Op.bytesLess x y=true)->n∉l->∀y∈l.dropWhile (λx=>Go.Op.bytesLess x n),Go.Op.bytesLess n y=true
 | [],_,_,y,hy=>by simp at hy
 | b::l,hl,hn,y,hy=>by
  rw[List.pairwise_cons]at hl;cases hb:Go.Op.bytesLess b n with
  | true=>
   rw[List.dropWhile_cons_of_pos (p:=λx=>Go.Op.bytesLess x n) hb]at hy;exact aCf hl.2 (λh=>hn (List.mem_cons_of_mem _ h)) y hy
  | false=>
   rw[List.dropWhile_cons_of_neg (p:=λx=>Go.Op.bytesLess x n) (by simp[hb])]at hy;have h1:=Nu (x:=b) (y:=n) (λe=>hn (by rw[<- e];exact List.mem_cons_self)) hb;rcases gY.1 hy with rfl | hy
   ·exact h1
   ·exact EM h1 (hl.1 y hy)
def UL (l:List (List UInt8))(n:List UInt8):List (List UInt8):=l.take (Df l n)++n::l.drop (Df l n)
theorem UM {l:List (List UInt8)}(hl:l.Pairwise λx y=>Go.Op.bytesLess x y=true)(hn:n∉l):(UL l n).Pairwise λx y=>Go.Op.bytesLess x y=true:=by
 have h:l.takeWhile (λx=>Go.Op.bytesLess x n)++l.dropWhile (λx=>Go.Op.bytesLess x n)=l:=List.takeWhile_append_dropWhile;have c:=hl;rw[<- h,List.pairwise_append]at c;unfold UL Df;rw[(Tf _ l).1,(Tf _ l).2,List.pairwise_append,List.pairwise_cons];refine⟨c.1,⟨λy e=>aCf hl hn y e,c.2.1⟩,λa d b hb=> ?_⟩;rcases gY.1 hb with rfl | hb
 ·exact Ti (q:=λx=>Go.Op.bytesLess x b) d
 ·exact c.2.2 a d b hb
theorem zW {l:List (List UInt8)}{y:List UInt8}:y∈UL l n↔y=n∨y∈l:=by
 unfold UL
 conv=>rhs;rw[<- List.take_append_drop (Df l n) l]
 simp only[gZ,gY];constructor
 ·rintro(h | h | h)
  ·exact .inr (.inl h)
  ·exact .inl h
  ·exact .inr (.inr h)
 ·rintro(h | h | h)
  ·exact .inr (.inl h)
  ·exact .inl h
  ·exact .inr (.inr h)
theorem BJ {α:Type}{R:α->α->Prop}{l:List α}(h:l.Pairwise R){c:α}(h2:∀j (hj:j<l.length),j<i->R l[j] c)(h3:∀j (hj:j<l.length),i<j->R c l[j]):(l.set i c).Pairwise R:=by
 rw[gN]at h ⊢;intro j k hj b a;rw[List.length_set]at hj b;rw[List.getElem_set,List.getElem_set];split
 ·rename_i e;subst e;rw[if_neg (by omega)];exact h3 k b a
 ·split
  ·rename_i e;subst e;exact h2 j hj a
  ·exact h j k hj b a
theorem cZ.create (hk:cZ s)(hnm:nameB n=true)(hz:1<=z/\z<=64)(hno:s.named n=aJ)(h:s.create n z=aK s'):cZ s'/\s'.h=s.h/\s'.w=s.w:=by
 have p:∀c∈s.cs,n∉c.ns:=λc O M=>by
  unfold Sy.named at hno;rw[List.findIdx?_eq_none_iff]at hno;have B:=hno c O;rw[List.contains_iff_mem.2 M]at B;cases B
 unfold Sy.create at h;split at h
 ·rename_i i hfd;rw[List.findIdx?_eq_some_iff_getElem]at hfd;obtain⟨C,K,_⟩:=hfd;rw[gJ C]at h;simp only at h;obtain rfl:=gP h;have F:=gL C;have f:=hk.ck _ F;have H:∀d∈s.cs,qY (s.fO i {s.cs[i]with ns:=UL s.cs[i].ns n}) d:=λd D=>(hk.ck d D).move rfl λx A=>⟨((hk.ck d D).sk x A).live,((hk.ck d D).sk x A).chain⟩
  have G:=p _ F;refine⟨⟨hk.wl,hk.hk,by show(s.cs.set i _).length<=20;rw[List.length_set];exact hk.cl,λd D=> ?_,BJ hk.zd (λj q u=> ?_) (λj q t=> ?_),BJ hk.nd (λj q u m g v=> ?_) (λj q t m g=> ?_),BJ hk.pd (λj q u=> ?_) (λj q t=> ?_)⟩,rfl,rfl⟩
  ·rcases List.mem_or_eq_of_mem_set D with B | rfl
   ·exact H d B
   ·refine⟨f.z,f.o,f.r,λe=> ?_,λm g=> ?_,UM f.nr G,f.ac,f.sr,λx A=>⟨(f.sk x A).live,(f.sk x A).chain⟩,f.aw,f.ad⟩
    ·have I:=(zW (l:=s.cs[i].ns) (n:=n) (y:=n)).2 (.inl rfl);rw[show UL s.cs[i].ns n=[]from e]at I;simp at I
    ·rcases zW.1 g with rfl | g
     ·exact hnm
     ·exact f.nm m g
  ·exact gN.1 hk.zd j i q C u
  ·exact gN.1 hk.zd i j C q t
  ·rcases zW.1 v with rfl | v
   ·exact p _ (gL q) g
   ·exact gN.1 hk.nd j i q C u m g v
  ·rcases zW.1 g with rfl | g
   ·exact p _ (gL q)
   ·exact gN.1 hk.nd i j C q t m g
  ·exact gN.1 hk.pd j i q C u
  ·exact gN.1 hk.pd i j C q t
 ·rename_i hfd;split at h
  ·cases h
  ·rename_i hl;obtain rfl:=gP h;rw[List.findIdx?_eq_none_iff]at hfd;have N:=hk.cl;refine⟨⟨hk.wl,hk.hk,by simp;omega,λd D=> ?_,?_,?_,?_⟩,rfl,rfl⟩
   ·rcases gZ.1 D with B | B
    ·exact(hk.ck d B).move rfl λx A=>⟨((hk.ck d B).sk x A).live,((hk.ck d B).sk x A).chain⟩
    ·obtain rfl:=gTa.1 B;refine⟨hz,rfl,rfl,by simp,λm g=> ?_,by simp,by simp,List.Pairwise.nil,λx A=>by simp at A,λa E=> .inl (List.eq_of_mem_replicate E),?_⟩
     ·obtain rfl:=gTa.1 g;exact hnm
     ·rw[gN];intro j k q J _ _;simp
   ·show(s.cs++[_]).Pairwise _;rw[List.pairwise_append];refine⟨hk.zd,by simp,λa E b hb=> ?_⟩;obtain rfl:=gTa.1 hb;have:=hfd a E;simpa using this
   ·show(s.cs++[_]).Pairwise _;rw[List.pairwise_append];refine⟨hk.nd,by simp,λa E b hb m g v=> ?_⟩;obtain rfl:=gTa.1 hb;obtain rfl:=gTa.1 v;exact p a E g
   ·show(s.cs++[_]).Pairwise _;rw[List.pairwise_append];refine⟨hk.pd,by simp,λa E b hb x A y L=> ?_⟩;obtain rfl:=gTa.1 hb;simp at L
def kN (k:Nat):List UInt8:=match k with
 | 1=>[107,49]
 | 2=>[107,50]
 | 4=>[107,52]
 | 8=>[107,56]
 | 16=>[107,49,54]
 | _=>[107,51,50]
def aFu (aP k:Nat):Ca:=⟨[kN k],k,iR k,fV k,[],List.replicate aP (-1)⟩
def dW (h:Hp)(j:Nat):Sy:=⟨List.replicate 4096 0,h,([1,2,4,8,16,32].take j).map (aFu h.aP)⟩
theorem Nv (hk:fG h):cZ (dW h 0):=by
 have e:(dW h 0).cs=[]:=rfl;refine⟨List.length_replicate,hk,?_,λc a=> ?_,?_,?_,?_⟩
 ·rw[e];exact gU _
 ·rw[e]at a;cases a
 ·rw[e];exact List.Pairwise.nil
 ·rw[e];exact List.Pairwise.nil
 ·rw[e];exact List.Pairwise.nil
theorem yU (h:Hp)(hj:j<6):(dW h j).named (kN ([1,2,4,8,16,32].getD j 0))=aJ/\(dW h j).create (kN ([1,2,4,8,16,32].getD j 0)) ([1,2,4,8,16,32].getD j 0)=aK (dW h (j+1))/\nameB (kN ([1,2,4,8,16,32].getD j 0))=true:=by
 obtain rfl | rfl | rfl | rfl | rfl | rfl:j=0∨j=1∨j=2∨j=3∨j=4∨j=5:=by omega
 all_goals exact⟨rfl,rfl,by decide⟩
theorem aC6 {l:List Sl}(hl:l.Pairwise λa b=>a.p<b.p)(hj:j<l.length)(hk:k<l.length)(h:l[j].p=l[k].p):j=k:=by
 rw[gN]at hl;rcases Nat.lt_trichotomy j k with c | c | c
 ·have:=hl j k hj hk c;omega
 ·exact c
 ·have:=hl k j hk hj c;omega
theorem jJ {α β:Type}{f:α->β}{l:List α}{c c':α}(h:l[i]? =aK c)(he:f c'=f c):(l.set i c').map f=l.map f:=by
 obtain⟨g,a⟩:=gK.1 h;apply List.ext_getElem (by simp);intro j d b;simp only[List.getElem_map,List.getElem_set];split
 ·rename_i e;subst e;rw[he,a]
 ·rfl
def Sy.sig (s:Sy):List (List (List UInt8)×Nat):=s.cs.map λc=>(c.ns,c.z)
theorem Nw (s:Sy)(i cpu k:Nat):(s.mine i cpu k).sig=s.sig:=by
 unfold Sy.mine Sy.sig;cases hc:s.cs[i]? with
 | none=>rfl
 | some c=>
  simp only;cases hx:c.sl[k]? with
  | none=>rfl
  | some x=>exact jJ hc rfl
theorem aAO (h:s.pop i k=aK (t,a)):t.sig=s.sig:=by
 unfold Sy.pop at h;cases hc:s.cs[i]? with
 | none=>rw[hc]at h;cases h
 | some c=>
  rw[hc]at h;simp only at h;cases hx:c.sl[k]? with
  | none=>rw[hx]at h;cases h
  | some x=>
   rw[hx]at h;have b:=gP h;rw[Prod.mk.injEq]at b;rw[<- b.1];exact jJ hc rfl
theorem XP (hc:s.cs[i]? =aK c)(h:s.grow i cpu c=aK (t,k)):t.sig=s.sig:=by
 unfold Sy.grow at h;split at h
 ·have a:=gP h;rw[Prod.mk.injEq]at a;rw[<- a.1];exact jJ hc rfl
 ·cases h
theorem QA (h:s.choose i cpu=aK (t,k)):t.sig=s.sig:=by
 unfold Sy.choose at h;cases hc:s.cs[i]? with
 | none=>rw[hc]at h;cases h
 | some c=>
  rw[hc]at h;simp only at h;split at h
  ·have a:=gP h;rw[Prod.mk.injEq]at a;rw[<- a.1]
  ·split at h
   ·have a:=gP h;rw[Prod.mk.injEq]at a;rw[<- a.1];exact Nw _ _ _ _
   ·split at h
    ·rename_i heq;have a:=gP h;rw[Prod.mk.injEq]at a;rw[<- a.1,Nw];exact XP hc heq
    ·cases h
theorem JX (h:s.one i cpu=aK (t,a)):t.sig=s.sig:=by
 unfold Sy.one at h;cases hc:s.choose i cpu with
 | none=>rw[hc]at h;cases h
 | some r=>
  obtain⟨u,k⟩:=r;rw[hc]at h;exact(aAO h).trans (QA hc)
def Sy.nss (s:Sy):List (List (List UInt8)):=s.cs.map (·.ns)
theorem nC (h:t.sig=s.sig):t.nss=s.nss:=by
 have a:=congrArg (List.map Prod.fst) h;unfold Sy.sig at a;simp only[List.map_map]at a;exact a
theorem Tj (h:s.one i cpu=aK (t,a)):t.nss=s.nss:=nC (JX h)
theorem uO (h:t.nss=s.nss){N:Nat}(hs:∀c∈s.cs,c.ns.length<=N):∀c∈t.cs,c.ns.length<=N:=λc f=>by
 have a:c.ns∈t.nss:=List.mem_map_of_mem f;rw[h]at a;obtain⟨d,b,e⟩:=List.mem_map.1 a;rw[<- e];exact hs d b
def vS (v:Sc)(s:Sy):Rs:=⟨3,1,aA v.a1 v.n1 v.c1,v.n1,s.w.map vI⟩
def oD (v:Sc):Rs:=⟨67,6,aA v.a2 v.ys.length v.c2,v.ys.length,flat fD v.ys⟩
def tV (y:Cc):Rs:=⟨9,1,aA y.a1 y.n1 y.c1,y.n1,flat encS y.c.ns⟩
def oO (y:Cc):Rs:=⟨99,3,aA y.a2 y.n2 y.c2,y.n2,flat bQ y.c.sl⟩
def sO (y:Cc):Rs:=⟨3,1,aA y.a3 y.n3 y.c3,y.n3,y.c.ac.map vI⟩
def iU (y:Cc):List Rs:=[tV y,oO y,sO y]
def Sc.rows (v:Sc)(s:Sy):List Rs:=vS v s::oD v::v.ys.flatMap iU
def Sc.front (v:Sc)(s:Sy)(y:Cc)(ys:List Cc):List Rs:=vS v s::oD v::tV y::oO y::sO y::ys.flatMap iU
theorem Dw {α:Type}:∀{l:List α} {i:Nat} (hi:i<l.length),l.Perm (l[i]::l.eraseIdx i)
 | a::l,0,_=>List.Perm.refl _
 | a::l,i+1,hi=>by
  simp only[List.getElem_cons_succ,List.eraseIdx_cons_succ];exact((Dw (l:=l) (i:=i) (by simpa using hi)).cons a).trans (.swap _ _ _)
theorem BL (v:Sc)(s:Sy)(hi:i<v.ys.length):(v.rows s).Perm (v.front s v.ys[i] (v.ys.eraseIdx i)):=
 ((List.Perm.flatMap_right iU (Dw hi)).cons _).cons _
structure SR (W:World)(G:Nat)(X:Nat->Prop)(s:Sy)(v:Sc):Prop where
 own:dY W 0 (v.rows s)
 og:∀r∈v.rows s,∀g,r.v.ownBlock=aK g->g≠G/\¬X g
 hr:HR W G X s.h v.hc
 hd:∀r∈v.rows s,∀q∈v.hc.rows s.h++v.hc.reads s.h,r.off q
 cy:v.ys.map (·.c)=s.cs
structure SS (W:World)(G:Nat)(X:Nat->Prop)(s:Sy)(v:Sc):Prop where
 r:SR W G X s v
 k:∀o,W.cell? ⟨G,o,aJ⟩=(v.vals s)[o]?
 fz:∀o,W.frozen? ⟨G,o,aJ⟩=false
def iI (W:World)(B:Nat)(s:Sy)(v:Sc):Prop:=SR W B (λk=>k<B) s v
theorem tX {base:Nat}{size:Nat}{n:Nat}{xs:List Value}(h:w.ownsRow base e size v n xs)(hb:∀k,v.ownBlock=aK k->k<w.heap.size->w'.heap[k]? =w.heap[k]?):w'.ownsRow base e size v n xs:=by
 refine⟨h.1,?_⟩;rcases h.2 with i | ⟨g,d,c,f,j,a,b⟩
 ·exact .inl i
 ·refine .inr ⟨g,d,c,f,j,?_,b⟩;rw[hb g (by rw[f];rfl) (Array.getElem?_eq_some_iff.1 a).1];exact a
section
variable {W W':World}{G:Nat}{X Y:Nat->Prop}{h:Hp}{c:Hc}
theorem HR.kept (hs:HR W G X h c)(sf:Safe Y W W')(hy:∀q∈c.rows h++c.reads h,∀k,q.v.ownBlock=aK k->Y k):HR W' G X h c:=
 ⟨⟨λr d=>tX (hs.own.each r d) λk b a=>sf.block k a (hy r (List.mem_append_left _ d) k b),hs.own.GZ⟩,
  λr d=>tX (hs.ro r d) λk b a=>sf.block k a (hy r (List.mem_append_right _ d) k b),hs.ds,hs.og,hs.rg,hs.rx,gI hs.gs sf.size,hs.xg,λk b=>gI (hs.xs k b) sf.size,hs.e0,hs.e1,hs.ll⟩
theorem HR.lift (hs:HR W B (λk=>k<B) h c)(hG:G<B)(hX:∀k,X k->k<B)(hxg:¬X G):HR W G X h c:=
 ⟨hs.own,hs.ro,hs.ds,λr a g b=>by have:=(hs.og r a g b).2;exact⟨by omega,λe=>this (hX g e)⟩,λr a e=>hs.rx r a G e hG,λr a g b e=>hs.rx r a g b (hX g e),Nat.lt_trans hG hs.gs,hxg,λk d=>Nat.lt_trans (hX k d) hs.gs,hs.e0,hs.e1,hs.ll⟩
theorem HR.any {G':Nat}(hs:HR W G' X' h c)(hG:G<W.heap.size)(hq:∀q∈c.rows h++c.reads h,∀k,q.v.ownBlock=aK k->k≠G/\¬X k)(hX:∀k,X k->k<W.heap.size)(hxg:¬X G):HR W G X h c:=
 ⟨hs.own,hs.ro,hs.ds,λr a g b=>hq r (List.mem_append_left _ a) g b,λr a e=>(hq r (List.mem_append_right _ a) G e).1 rfl,λr a g b=>(hq r (List.mem_append_right _ a) g b).2,hG,hxg,hX,hs.e0,hs.e1,hs.ll⟩
theorem HR.lt (hs:HR W G X h c):∀q∈c.rows h++c.reads h,∀k,q.v.ownBlock=aK k->k<W.heap.size:=λq a k b=>by
 rcases gZ.1 a with a | a
 ·exact((hs.own.each q a).lt k b).2
 ·exact((hs.ro q a).lt k b).2
theorem HR.gne (hs:HR W G X h c):∀q∈c.rows h++c.reads h,q.v.ownBlock≠aK G:=λq a e=>by
 rcases gZ.1 a with a | a
 ·exact(hs.og q a G e).1 rfl
 ·exact hs.rg q a e
end
section
variable {W W' W1:World}{G:Nat}{X Y:Nat->Prop}{s s':Sy}{v v':Sc}
theorem SR.lt (hs:SR W G X s v):∀r∈v.rows s,∀g,r.v.ownBlock=aK g->g<W.heap.size:=λr b g a=>(hs.own.lt r b g a).2
theorem SR.below (hs:SR W G X s v)(hb:Below W.heap.size W W'):SR W' G X s v:=
 ⟨hs.own.below hb,hs.og,hs.hr.below hb,hs.hd,hs.cy⟩
theorem SS.below (hs:SS W G X s v)(hb:Below W.heap.size W W'):SS W' G X s v:=
 ⟨hs.r.below hb,aQ hs.k hs.r.hr.gs hb,aU hs.fz hs.r.hr.gs hb⟩
def Sc.blk (v:Sc)(s:Sy)(G k:Nat):Prop:=k=G∨∃r∈v.rows s,r.v.ownBlock=aK k
theorem SR.QN (hs:SR W G X s v)(hk:X k):¬v.blk s G k:=by
 rintro(rfl | ⟨r,hr,e⟩)
 ·exact hs.hr.xg hk
 ·exact(hs.og r hr k e).2 hk
def Sc.fr (v:Sc)(s:Sy)(G:Nat)(X:Nat->Prop)(g:Nat):Prop:=g≠G/\¬X g/\∀q∈v.hc.rows s.h++v.hc.reads s.h,q.v.ownBlock≠aK g
theorem SR.fresh (hs:SR W G X s v)(hg:W.heap.size<=g):v.fr s G X g:=
 ⟨λe=>by have:=hs.hr.gs;omega,λe=>by have:=hs.hr.xs g e;omega,λq a e=>by have:=hs.hr.lt q a g e;omega⟩
theorem SR.step (hs:SR W G X s v)(sf:Safe (λk=>¬v.blk s G k) W W')(hh:s'.h=s.h)(hc:v'.hc=v.hc)(own:dY W' 0 (v'.rows s'))(hb:∀r∈v'.rows s',∀g,r.v.ownBlock=aK g->(∃q∈v.rows s,q.v.ownBlock=aK g)∨v.fr s G X g)(cy:v'.ys.map (·.c)=s'.cs):SR W' G X s' v':=by
 refine⟨own,λr hr g j=> ?_,?_,λr hr q a g i f=> ?_,cy⟩
 ·rcases hb r hr g j with ⟨q,a,e⟩ | h
  ·exact hs.og q a g e
  ·exact⟨h.1,h.2.1⟩
 ·rw[hh,hc];refine hs.hr.kept sf λq a k d=> ?_
  rintro(rfl | ⟨r,hr,e⟩)
  ·exact hs.hr.gne q a d
  ·exact hs.hd r hr q a k e d
 ·rw[hh,hc]at a;rcases hb r hr g i with ⟨l,b,e⟩ | h
  ·exact hs.hd l b q a g e f
  ·exact h.2.2 q a f
theorem SR.heap (hs:SR W G X s v)(hb:Below W.heap.size W W1){c:Hc}(hn:lN W1 W.heap.size h c):SR W1 G X {s with h:=h} {v with hc:=c}:=by
 have a:({v with hc:=c}:Sc).rows {s with h:=h}=v.rows s:=rfl;refine⟨a▸hs.own.below hb,λr hr=>hs.og r (a▸hr),HR.lift hn hs.hr.gs hs.hr.xs hs.hr.xg,λr hr q b g f d=> ?_,hs.cy⟩;have e:=hs.lt r (a▸hr) g f;rcases gZ.1 b with b | b
 ·exact(hn.og q b g d).2 e
 ·exact hn.rx q b g d e
theorem SR.words (hs:SR W G X s v)(hb:Below W.heap.size W W1){a:Option Addr}{n c:Nat}(ho:W1.ownsRow W.heap.size 3 1 (aA a n c) n (xs.map vI)):SR W1 G X {s with w:=xs} {v with a1:=a,n1:=n,c1:=c}:=by
 have f:=hs.own.below hb;have e:dY W1 0 ((⟨3,1,aA a n c,n,xs.map vI⟩:Rs)::oD v::v.ys.flatMap iU):=
  dY.cons (f.sub (List.sublist_cons_self _ _)) (r':=⟨3,1,aA a n c,n,xs.map vI⟩) ho (gU _) λr b g d=>hs.lt r (List.mem_cons_of_mem _ b) g d
 refine hs.step (Safe.jT hb) rfl rfl e (λr b g d=> ?_) hs.cy;rcases gY.1 b with rfl | b
 ·exact .inr (hs.fresh (ho.lt g d).1)
 ·exact .inl ⟨r,List.mem_cons_of_mem _ b,d⟩
theorem SR.more (hs:SR W G X s v)(hy:∀k,Y k->k<W.heap.size/\¬v.blk s G k/\∀q∈v.hc.rows s.h++v.hc.reads s.h,q.v.ownBlock≠aK k):SR W G Y s v:=
 ⟨hs.own,λr hr g b=>⟨(hs.og r hr g b).1,λe=>(hy g e).2.1 (.inr ⟨r,hr,b⟩)⟩,hs.hr.more λk a=>⟨(hy k a).1,λe=>(hy k a).2.1 (.inl e),λr hr=>(hy k a).2.2 r (List.mem_append_left _ hr),λr hr=>(hy k a).2.2 r (List.mem_append_right _ hr)⟩,hs.hd,hs.cy⟩
theorem SS.more (hs:SS W G X s v)(hy:∀k,Y k->k<W.heap.size/\¬v.blk s G k/\∀q∈v.hc.rows s.h++v.hc.reads s.h,q.v.ownBlock≠aK k):SS W G Y s v:=⟨hs.r.more hy,hs.k,hs.fz⟩
theorem SS.new (hs:SS W G X s v)(hb:Below W.heap.size W W'):SS W' G (λk=>X k∨(W.heap.size<=k/\k<W'.heap.size)) s v:=
 (hs.below hb).more λk b=>by
  rcases b with b | ⟨d,c⟩
  ·refine⟨gI (hs.r.hr.xs k b) hb.size,hs.r.QN b,λq a e=> ?_⟩;rcases gZ.1 a with a | a
   ·exact(hs.r.hr.og q a k e).2 b
   ·exact hs.r.hr.rx q a k e b
  ·refine⟨c,?_,λq a e=> ?_⟩
   ·rintro(rfl | ⟨r,hr,e⟩)
    ·have:=hs.r.hr.gs;omega
    ·have:=hs.r.lt r hr k e;omega
   ·have:=hs.r.hr.lt q a k e;omega
theorem SS.sub (hs:SS W G X s v)(hy:∀k,Y k->X k):SS W G Y s v:=
 ⟨⟨hs.r.own,λr hr g a=>⟨(hs.r.og r hr g a).1,λe=>(hs.r.og r hr g a).2 (hy g e)⟩,hs.r.hr.sub hy,hs.r.hd,hs.r.cy⟩,hs.k,hs.fz⟩
theorem SR.lift (hs:iI W B s v)(hG:G<B)(hX:∀k,X k->k<B)(hxg:¬X G):SR W G X s v:=
 ⟨hs.own,λr hr g a=>by have:=(hs.og r hr g a).2;exact⟨by omega,λe=>this (hX g e)⟩,hs.hr.lift hG hX hxg,hs.hd,hs.cy⟩
theorem SR.far (hs:SR W G X s v)(hx:¬v.blk s G g)(hq:∀q∈v.hc.rows s.h++v.hc.reads s.h,q.v.ownBlock≠aK g)(i:Nat)(u:Value):SR (W.setCell ⟨g,i,aJ⟩ u) G X s v:=
 ⟨hs.own.far (λr hr e=>hx (.inr ⟨r,hr,e⟩)) i u,hs.og,hs.hr.kept (Y:=λk=>k≠g) ((Safe.refl _ W).set (by simp) i u) (λq h k a e=>hq q h (e▸a)),hs.hd,hs.cy⟩
theorem SS.dQ (hs:SS W G X s v)(hx:X g)(i:Nat)(u:Value):SS (W.setCell ⟨g,i,aJ⟩ u) G X s v:=
 ⟨hs.r.far (hs.r.QN hx) (λq a e=>by
  rcases gZ.1 a with a | a
  ·exact(hs.r.hr.og q a g e).2 hx
  ·exact hs.r.hr.rx q a g e hx) i u,aS hs.k (λe=>hs.r.hr.xg (e▸hx)) i u,aV hs.fz _ _⟩
theorem SR.iQ (hs:SR W G X s v)(i:Nat)(u:Value):SR (W.setCell ⟨G,i,aJ⟩ u) G X s v:=
 ⟨hs.own.far (λr hr e=>(hs.og r hr G e).1 rfl) i u,hs.og,hs.hr.iQ i u,hs.hd,hs.cy⟩
theorem SR.y (hs:SR W G X s v){y:Cc}(hy:y∈v.ys):(tV y).on W 0/\(oO y).on W 0/\(sO y).on W 0:=by
 have h:∀r∈iU y,r.on W 0:=λr a=>hs.own.each r (by
  unfold Sc.rows;exact List.mem_cons_of_mem _ (List.mem_cons_of_mem _ (List.mem_flatMap.2 ⟨y,hy,a⟩)))
 exact⟨h _ (by simp[iU]),h _ (by simp[iU]),h _ (by simp[iU])⟩
theorem SR.at (hs:SR W G X s v):nO W v s:=by
 have a:(vS v s).on W 0:=hs.own.each _ (by simp[Sc.rows]);have e:(oD v).on W 0:=hs.own.each _ (by simp[Sc.rows]);refine⟨?_,bJ a,hs.hr.at,bJ e,hs.cy,λy f=> ?_,eU a,eU e⟩
 ·have:=a.1;unfold vS at this;simpa using this
 ·obtain⟨c,b,d⟩:=hs.y f;refine⟨bT bW (by decide) c,bT aY (by decide) b,?_,bJ c,bJ b,bJ d,eU c,eU b,eU d⟩;have:=d.1;unfold sO at this;simpa using this
end
section
variable {W W' W9:World}{G:Nat}{X Y:Nat->Prop}{s s':Sy}{v v':Sc}
theorem jV (v:Sc)(s:Sy):oD v∈v.rows s:=by simp[Sc.rows]
theorem pY (v:Sc)(s:Sy):vS v s∈v.rows s:=by simp[Sc.rows]
theorem lT {v:Sc}{s:Sy}{y:Cc}(hy:y∈v.ys)(hr:r∈iU y):r∈v.rows s:=by
 unfold Sc.rows;exact List.mem_cons_of_mem _ (List.mem_cons_of_mem _ (List.mem_flatMap.2 ⟨y,hy,hr⟩))
theorem SS.aFL (hs:SS W G X s v){y:Cc}(hy:dY W 0 (sO y::oO y::tV y::v.rows s))(hfr:∀r∈iU y,∀g,r.v.ownBlock=aK g->v.fr s G X g){g9 cap9:Nat}(hg9:W.grownBy W9 (oD v).v.ownBlock)
 (ho9:W9.ownsRow 0 67 6 (aA (aK ⟨g9,0,aJ⟩) (v.ys.length+1) cap9) (v.ys.length+1) (flat fD (v.ys++[y]))) (hl9:(oD v).v.ownBlock=aK g9∨W.heap.size<=g9):
 SS (W9.setCell ⟨G,6,aJ⟩ (aA (aK ⟨g9,0,aJ⟩) (v.ys.length+1) cap9)) G X {s with cs:=s.cs++[y.c]} {v with a2:=aK ⟨g9,0,aJ⟩,c2:=cap9,ys:=v.ys++[y]}/\
 Safe X W (W9.setCell ⟨G,6,aJ⟩ (aA (aK ⟨g9,0,aJ⟩) (v.ys.length+1) cap9)):=by
 have b:(v.ys++[y]).length=v.ys.length+1:=by simp
 have j:dY W9 0 (sO y::oO y::tV y::vS v s::(⟨67,6,aA (aK ⟨g9,0,aJ⟩) (v.ys.length+1) cap9,v.ys.length+1,flat fD (v.ys++[y])⟩:Rs)::v.ys.flatMap iU):=
  hy.grown (i:=4) (by simp[Sc.rows]) hg9 (r':=⟨67,6,aA (aK ⟨g9,0,aJ⟩) (v.ys.length+1) cap9,v.ys.length+1,flat fD (v.ys++[y])⟩) ho9 (λg f=>by
   obtain rfl:g9=g:=by simpa[gTh]using f
   exact hl9)
 have o:oD {v with a2:=aK ⟨g9,0,aJ⟩,c2:=cap9,ys:=v.ys++[y]}=⟨67,6,aA (aK ⟨g9,0,aJ⟩) (v.ys.length+1) cap9,v.ys.length+1,flat fD (v.ys++[y])⟩:=by
  unfold oD;simp only[b]
 have a:({v with a2:=aK ⟨g9,0,aJ⟩,c2:=cap9,ys:=v.ys++[y]}:Sc).rows {s with cs:=s.cs++[y.c]}=vS v s::(⟨67,6,aA (aK ⟨g9,0,aJ⟩) (v.ys.length+1) cap9,v.ys.length+1,flat fD (v.ys++[y])⟩:Rs)::(v.ys.flatMap iU++[tV y,oO y,sO y]):=by
  unfold Sc.rows;rw[o];simp only[List.flatMap_append,List.flatMap_cons,List.flatMap_nil,List.append_nil];rfl
 have d:(sO y::oO y::tV y::vS v s::(⟨67,6,aA (aK ⟨g9,0,aJ⟩) (v.ys.length+1) cap9,v.ys.length+1,flat fD (v.ys++[y])⟩:Rs)::v.ys.flatMap iU).Perm (({v with a2:=aK ⟨g9,0,aJ⟩,c2:=cap9,ys:=v.ys++[y]}:Sc).rows {s with cs:=s.cs++[y.c]}):=by
  rw[a];have q:∀(l:List Rs),(sO y::oO y::tV y::l).Perm (l++[tV y,oO y,sO y]):=λl=>
   (List.perm_append_comm (l₁:=[sO y,oO y,tV y]) (l₂:=l)).trans (List.Perm.append_left l (List.reverse_perm [tV y,oO y,sO y]))
  exact q (_::_::v.ys.flatMap iU)
 have n:Safe (λk=>¬v.blk s G k) W W9:=Safe.o7 hg9 λk m e=>m (.inr ⟨oD v,jV v s,e.symm⟩)
 have t:=hs.r.step (s':={s with cs:=s.cs++[y.c]}) (v':={v with a2:=aK ⟨g9,0,aJ⟩,c2:=cap9,ys:=v.ys++[y]}) n rfl rfl (j.perm d) (λr hr g f=>by
  rw[a]at hr;rcases gY.1 hr with rfl | hr
  ·exact .inl ⟨_,pY v s,f⟩
  ·rcases gY.1 hr with rfl | hr
   ·obtain rfl:g9=g:=by simpa[gTh]using f
    rcases hl9 with h | h
    ·exact .inl ⟨_,jV v s,h⟩
    ·exact .inr (hs.r.fresh h)
   ·rcases gZ.1 hr with hr | hr
    ·exact .inl ⟨r,List.mem_cons_of_mem _ (List.mem_cons_of_mem _ hr),f⟩
    ·exact .inr (hfr r hr g f)) (by simp[hs.r.cy])
 have p:aK G≠(oD v).v.ownBlock:=λe=>(hs.r.og _ (jV v s) G e.symm).1 rfl
 have K:=aW (bV hs.k hs.r.hr.gs hg9 p) 6 (aA (aK ⟨g9,0,aJ⟩) (v.ys.length+1) cap9);have u:({v with a2:=aK ⟨g9,0,aJ⟩,c2:=cap9,ys:=v.ys++[y]}:Sc).vals {s with cs:=s.cs++[y.c]}=(v.vals s).setIfInBounds 6 (aA (aK ⟨g9,0,aJ⟩) (v.ys.length+1) cap9):=by
  unfold Sc.vals;simp only[b];rfl
 rw[<- u]at K;exact⟨⟨t.iQ 6 _,K,aV (bY hs.fz hs.r.hr.gs hg9 p) _ _⟩,(Safe.o7 hg9 λk m e=>(hs.r.og _ (jV v s) k e.symm).2 m).set hs.r.hr.xg 6 _⟩
theorem SS.three {w5 wd wa wb wc:World}{T:Nat}(hs:SS w5 G X s v)(hX:X T)(hd:Below w5.heap.size w5 wd)(hba:Below wd.heap.size wd wa)(hbb:Below wa.heap.size wa wb)(hbc:Below wb.heap.size wb wc){y:Cc}
 (hoa:wa.ownsRow wd.heap.size 9 1 (aA y.a1 y.n1 y.c1) y.n1 (flat encS y.c.ns)) (hob:wb.ownsRow wa.heap.size 99 3 (aA y.a2 y.n2 y.c2) y.n2 (flat bQ y.c.sl)) (hoc:wc.ownsRow wb.heap.size 3 1 (aA y.a3 y.n3 y.c3) y.n3 (flat encI y.c.ac)) (i1 i2 i3:Nat) (u1 u2 u3:Value):
 SS (((wc.setCell ⟨T,i1,aJ⟩ u1).setCell ⟨T,i2,aJ⟩ u2).setCell ⟨T,i3,aJ⟩ u3) G X s v/\dY (((wc.setCell ⟨T,i1,aJ⟩ u1).setCell ⟨T,i2,aJ⟩ u2).setCell ⟨T,i3,aJ⟩ u3) 0 (sO y::oO y::tV y::v.rows s)/\(∀r∈iU y,∀g,r.v.ownBlock=aK g->v.fr s G X g):=by
 rw[oM]at hoc;have f:=gW hd hba;have n:T<w5.heap.size:=hs.r.hr.xs T hX;have h:=hd.size;have k:=hba.size;have m:=hbb.size;have j:dY wa 0 (tV y::v.rows s):=(hs.r.own.below f).cons (r':=tV y) hoa (gU _) λr hr g a=>gI (hs.r.lt r hr g a) h
 have i:dY wb 0 (oO y::tV y::v.rows s):=(j.below hbb).cons (r':=oO y) hob (gU _) λr hr g a=>(j.lt r hr g a).2
 have l:dY wc 0 (sO y::oO y::tV y::v.rows s):=(i.below hbc).cons (r':=sO y) hoc (gU _) λr hr g a=>(i.lt r hr g a).2
 have b:∀r∈iU y,∀g,r.v.ownBlock=aK g->w5.heap.size<=g:=λr hr g a=>by
  simp only[iU,gY,List.not_mem_nil,or_false]at hr;rcases hr with rfl | rfl | rfl
  ·have:=(hoa.lt g a).1;omega
  ·have:=(hob.lt g a).1;omega
  ·have:=(hoc.lt g a).1;omega
 have d:∀r∈sO y::oO y::tV y::v.rows s,r.v.ownBlock≠aK T:=λr hr e=>by
  simp only[gY]at hr;rcases hr with rfl | rfl | rfl | hr
  ·have:=b (sO y) (by simp[iU]) T e;omega
  ·have:=b (oO y) (by simp[iU]) T e;omega
  ·have:=b (tV y) (by simp[iU]) T e;omega
  ·exact(hs.r.og r hr T e).2 hX
 exact⟨(((hs.below (gW f (gW hbb hbc))).dQ hX i1 u1).dQ hX i2 u2).dQ hX i3 u3,((l.far d i1 u1).far d i2 u2).far d i3 u3,λr hr g a=>hs.r.fresh (b r hr g a)⟩
theorem SR.toX (hs:SR W G X s v)(hB:X B)(hy:∀k,Y k->X k)(hn:¬Y B):SR W B Y s v:=
 ⟨hs.own,λr hr g c=>⟨λe=>(hs.og r hr g c).2 (e▸hB),λe=>(hs.og r hr g c).2 (hy g e)⟩,hs.hr.any (hs.hr.xs B hB) (λq a k b=>by
  have h:¬X k:=λe=>by
   rcases gZ.1 a with a | a
   ·exact(hs.hr.og q a k b).2 e
   ·exact hs.hr.rx q a k b e
  exact⟨λe=>h (e▸hB),λe=>h (hy k e)⟩) (λk b=>hs.hr.xs k (hy k b)) hn,hs.hd,hs.cy⟩
theorem SR.dQ (hs:SR W G X s v)(hx:X g)(i:Nat)(u:Value):SR (W.setCell ⟨g,i,aJ⟩ u) G X s v:=
 hs.far (hs.QN hx) (λq a e=>by
  rcases gZ.1 a with a | a
  ·exact(hs.hr.og q a g e).2 hx
  ·exact hs.hr.rx q a g e hx) i u
end
theorem tY {α:Type}{enc:α->List Value}(hk:∀x,(enc x).length=k)(hi:i<k){x:α}:∀(l:List α) (j:Nat) (hj:j<l.length),enc x=(enc l[j]).set i u->(flat enc l).set (j*k+i) u=flat enc (l.set j x)
 | a::l,0,_,hx=>by
  rw[eX,gG,eX,Nat.zero_mul,Nat.zero_add,List.set_append_left _ _ (by rw[hk];exact hi)];rw[show enc x=(enc a).set i u from hx]
 | a::l,j+1,hj,hx=>by
  rw[eX,gH,eX,List.set_append_right _ _ (by rw[hk,Nat.add_mul];omega),hk,show(j+1)*k+i-k=j*k+i by rw[Nat.add_mul];omega,tY hk hi l j (by simpa using hj) hx]
theorem BM {α:Type}{enc:α->List Value}{x:α}:∀(l:List α) (j:Nat) (hj:j<l.length),enc x=enc l[j]->flat enc (l.set j x)=flat enc l
 | a::l,0,_,hx=>by rw[gG,eX,eX,show enc x=enc a from hx]
 | a::l,j+1,hj,hx=>by rw[gH,eX,eX,BM l j (by simpa using hj) hx]
section
variable {W W' W1 W2 W9:World}{G:Nat}{X Y:Nat->Prop}{s s':Sy}{v v':Sc}
def Sc.fA (v:Sc)(i:Nat)(y:Cc):Sc:={v with ys:=v.ys.set i y}
theorem xZ (v:Sc)(s:Sy)(i:Nat)(y:Cc)(c:Ca):(v.fA i y).vals (s.fO i c)=v.vals s:=by
 unfold Sc.vals Sc.fA;simp only[List.length_set];rfl
theorem SR.upC (hs:SR W G X s v)(hi:i<v.ys.length){y':Cc}(sf:Safe (λk=>¬v.blk s G k) W W')
 (own:dY W' 0 (vS v s::oD (v.fA i y')::tV y'::oO y'::sO y'::(v.ys.eraseIdx i).flatMap iU))
 (hb:∀r∈iU y',∀g,r.v.ownBlock=aK g->(∃q∈v.rows s,q.v.ownBlock=aK g)∨v.fr s G X g):SR W' G X (s.fO i y'.c) (v.fA i y'):=by
 have f:i<(v.fA i y').ys.length:=by
  unfold Sc.fA;simpa using hi
 have e:=BL (v.fA i y') (s.fO i y'.c) f;have j:(v.fA i y').ys[i]=y':=by simp[Sc.fA]
 have n:(v.fA i y').ys.eraseIdx i=v.ys.eraseIdx i:=by
  unfold Sc.fA;exact List.eraseIdx_set_eq
 have h:(v.fA i y').front (s.fO i y'.c) (v.fA i y').ys[i] ((v.fA i y').ys.eraseIdx i)=vS v s::oD (v.fA i y')::tV y'::oO y'::sO y'::(v.ys.eraseIdx i).flatMap iU:=by
  rw[j,n];rfl
 rw[h]at e;refine hs.step sf rfl rfl (own.perm e.symm) (λr m g b=> ?_) ?_
 ·have a:=e.mem_iff.1 m;have d:∀q,q∈(v.front s v.ys[i] (v.ys.eraseIdx i))->q∈v.rows s:=λq l=>(BL v s hi).mem_iff.2 l
  simp only[gY]at a;rcases a with rfl | rfl | rfl | rfl | rfl | a
  ·exact .inl ⟨_,pY v s,b⟩
  ·refine .inl ⟨_,jV v s,?_⟩;rw[<- b];unfold oD Sc.fA;simp only[List.length_set]
  ·exact hb _ (by simp[iU]) g b
  ·exact hb _ (by simp[iU]) g b
  ·exact hb _ (by simp[iU]) g b
  ·exact .inl ⟨r,d r (by unfold Sc.front;simp only[gY];exact .inr (.inr (.inr (.inr (.inr a))))),b⟩
 ·unfold Sc.fA Sy.fO;simp only;rw[List.map_set,hs.cy]
theorem SR.QO (hs:SR W G X s v)(hi:i<v.ys.length):dY W 0 (vS v s::oD v::tV v.ys[i]::oO v.ys[i]::sO v.ys[i]::(v.ys.eraseIdx i).flatMap iU):=hs.own.perm (BL v s hi)
theorem SR.Vl (hs:SR W G X s v)(hi:i<v.ys.length):∃g,v.a2=aK ⟨g,0,aJ⟩/\g<W.heap.size/\g≠G/\¬X g/\(∀j,j<6->W.cell? ⟨g,i*6+j,aJ⟩=(fD v.ys[i])[j]? /\W.frozen? ⟨g,i*6+j,aJ⟩=false):=by
 have f:(oD v).on W 0:=hs.own.each _ (jV v s);have a:=flat_length eY v.ys;obtain⟨g,u,b,_,l,_,_⟩:=iJ f (i*6) (by rw[show(oD v).xs=flat fD v.ys from rfl,a];omega);have n:(oD v).v.ownBlock=aK g:=by unfold oD;rw[b];rfl
 have d:=hs.og _ (jV v s) g n;refine⟨g,b,l,d.1,d.2,λj k=> ?_⟩;have c:i*6+j<(oD v).xs.length:=by rw[show(oD v).xs=flat fD v.ys from rfl,a];omega
 obtain⟨o,e,_,_,h,m⟩:=oI f (i*6+j) c;rw[b]at e;obtain rfl:g=o:=by simpa using e
 refine⟨?_,m⟩;rw[h,<- flat_get eY v.ys i hi j k];exact(gJ c).symm
theorem SR.Ej (hs:SR W G X s v)(hr:r∈v.rows s)(hg:r.v.ownBlock=aK g)(i:Nat)(u:Value):Safe (λk=>¬v.blk s G k) W (W.setCell ⟨g,i,aJ⟩ u):=
 (Safe.refl _ W).set (λh=>h (.inr ⟨r,hr,hg⟩)) i u
theorem SS.Yh (hs:SS W G X s v)(hg:g≠G)(i:Nat)(u:Value):(∀o,(W.setCell ⟨g,i,aJ⟩ u).cell? ⟨G,o,aJ⟩=(v.vals s)[o]?)/\∀o,(W.setCell ⟨g,i,aJ⟩ u).frozen? ⟨G,o,aJ⟩=false:=
 ⟨aS hs.k (λe=>hg e.symm) i u,aV hs.fz _ _⟩
theorem SS.aFN (hs:SS W G X s v)(hi:i<v.ys.length)(hg:v.ys[i].a3=aK ⟨g,0,aJ⟩)(cpu:Nat)(p:Int):
 SS (W.setCell ⟨g,cpu,aJ⟩ (vI p)) G X (s.fO i {v.ys[i].c with ac:=v.ys[i].c.ac.set cpu p}) (v.fA i {v.ys[i]with c:={v.ys[i].c with ac:=v.ys[i].c.ac.set cpu p}})/\Safe X W (W.setCell ⟨g,cpu,aJ⟩ (vI p)):=by
 have a:sO v.ys[i]∈v.rows s:=lT (gL hi) (by simp[iU]);have hb:(sO v.ys[i]).v.ownBlock=aK g:=by unfold sO;rw[hg];rfl
 have h:=hs.r.og _ a g hb;have k:=(hs.r.QO hi).cell (i:=4) (by simp) (g:=g) (c:=v.ys[i].c3) (by show(sO v.ys[i]).v=_;unfold sO;rw[hg];rfl) cpu (vI p) rfl;have j:({sO v.ys[i]with xs:=(sO v.ys[i]).xs.set cpu (vI p)}:Rs)=sO {v.ys[i]with c:={v.ys[i].c with ac:=v.ys[i].c.ac.set cpu p}}:=by
  unfold sO;simp only[List.map_set]
 have m:oD (v.fA i {v.ys[i]with c:={v.ys[i].c with ac:=v.ys[i].c.ac.set cpu p}})=oD v:=by
  have e:flat fD (v.ys.set i {v.ys[i]with c:={v.ys[i].c with ac:=v.ys[i].c.ac.set cpu p}})=flat fD v.ys:=BM v.ys i hi rfl;unfold oD Sc.fA;simp only[List.length_set];rw[e]
 have l:=hs.r.upC hi (y':={v.ys[i]with c:={v.ys[i].c with ac:=v.ys[i].c.ac.set cpu p}}) (hs.r.Ej a hb cpu (vI p)) (by
  rw[m,<- j];exact k) (λr d n b=> .inl (by
  simp only[iU,gY,List.not_mem_nil,or_false]at d;rcases d with rfl | rfl | rfl
  ·exact⟨tV v.ys[i],lT (gL hi) (by simp[iU]),b⟩
  ·exact⟨oO v.ys[i],lT (gL hi) (by simp[iU]),b⟩
  ·exact⟨sO v.ys[i],a,b⟩))
 have f:=hs.Yh h.1 cpu (vI p);rw[<- xZ v s i]at f;exact⟨⟨l,f.1,f.2⟩,(Safe.refl X W).set h.2 cpu (vI p)⟩
theorem SS.Tq (hs:SS W G X s v)(hi:i<v.ys.length)(hg:v.ys[i].a2=aK ⟨g,0,aJ⟩)(hk:k<v.ys[i].c.sl.length){x':Sl}(hj:j<3)(hu:bQ x'=(bQ v.ys[i].c.sl[k]).set j u)(h1:u.oneCell'=true):
 SS (W.setCell ⟨g,k*3+j,aJ⟩ u) G X (s.fO i {v.ys[i].c with sl:=v.ys[i].c.sl.set k x'}) (v.fA i {v.ys[i]with c:={v.ys[i].c with sl:=v.ys[i].c.sl.set k x'}})/\Safe X W (W.setCell ⟨g,k*3+j,aJ⟩ u):=by
 have a:oO v.ys[i]∈v.rows s:=lT (gL hi) (by simp[iU]);have hb:(oO v.ys[i]).v.ownBlock=aK g:=by unfold oO;rw[hg];rfl
 have f:=hs.r.og _ a g hb;have m:=(hs.r.QO hi).cell (i:=3) (by simp) (g:=g) (c:=v.ys[i].c2) (by show(oO v.ys[i]).v=_;unfold oO;rw[hg];rfl) (k*3+j) u h1;have h:({oO v.ys[i]with xs:=(oO v.ys[i]).xs.set (k*3+j) u}:Rs)=oO {v.ys[i]with c:={v.ys[i].c with sl:=v.ys[i].c.sl.set k x'}}:=by
  unfold oO;simp only;rw[tY aY hj v.ys[i].c.sl k hk hu]
 have n:oD (v.fA i {v.ys[i]with c:={v.ys[i].c with sl:=v.ys[i].c.sl.set k x'}})=oD v:=by
  have e:flat fD (v.ys.set i {v.ys[i]with c:={v.ys[i].c with sl:=v.ys[i].c.sl.set k x'}})=flat fD v.ys:=BM v.ys i hi rfl;unfold oD Sc.fA;simp only[List.length_set];rw[e]
 have l:=hs.r.upC hi (y':={v.ys[i]with c:={v.ys[i].c with sl:=v.ys[i].c.sl.set k x'}}) (hs.r.Ej a hb (k*3+j) u) (by
  rw[n,<- h];exact m) (λr d o b=> .inl (by
  simp only[iU,gY,List.not_mem_nil,or_false]at d;rcases d with rfl | rfl | rfl
  ·exact⟨tV v.ys[i],lT (gL hi) (by simp[iU]),b⟩
  ·exact⟨oO v.ys[i],a,b⟩
  ·exact⟨sO v.ys[i],lT (gL hi) (by simp[iU]),b⟩))
 have hk:=hs.Yh f.1 (k*3+j) u;rw[<- xZ v s i]at hk;exact⟨⟨l,hk.1,hk.2⟩,(Safe.refl X W).set f.2 (k*3+j) u⟩
theorem SS.aFO (hs:SS W G X s v)(hi:i<v.ys.length){l':List Sl}(hown:W2.ownsRow 0 99 3 (aA a' n' c') n' (flat bQ l'))(hg:W.grownBy W2 (oO v.ys[i]).v.ownBlock)
 (hl:∀k,(aA a' n' c').ownBlock=aK k->(oO v.ys[i]).v.ownBlock=aK k∨W.heap.size<=k) {gc:Nat} (hgc:v.a2=aK ⟨gc,0,aJ⟩):
 SS (W2.setCell ⟨gc,i*6+4,aJ⟩ (aA a' n' c')) G X (s.fO i {v.ys[i].c with sl:=l'}) (v.fA i {v.ys[i]with a2:=a',n2:=n',c2:=c',c:={v.ys[i].c with sl:=l'}})/\Safe X W (W2.setCell ⟨gc,i*6+4,aJ⟩ (aA a' n' c')):=by
 have a:oO v.ys[i]∈v.rows s:=lT (gL hi) (by simp[iU]);have d:(oD v).v.ownBlock=aK gc:=by unfold oD;rw[hgc];rfl
 have n:=hs.r.og _ (jV v s) gc d;have u:=(hs.r.QO hi).grown (i:=3) (by simp) hg (r':=oO {v.ys[i]with a2:=a',n2:=n',c2:=c',c:={v.ys[i].c with sl:=l'}}) hown hl;have t:=u.cell (i:=1) (by simp) (g:=gc) (c:=v.c2) (by show(oD v).v=_;unfold oD;rw[hgc];rfl) (i*6+4) (aA a' n' c') rfl;have w:({oD v with xs:=(oD v).xs.set (i*6+4) (aA a' n' c')}:Rs)=oD (v.fA i {v.ys[i]with a2:=a',n2:=n',c2:=c',c:={v.ys[i].c with sl:=l'}}):=by
  unfold oD Sc.fA;simp only[List.length_set];rw[tY eY (by decide) v.ys i hi (x:={v.ys[i]with a2:=a',n2:=n',c2:=c',c:={v.ys[i].c with sl:=l'}}) rfl]
 have p:Safe (λk=>¬v.blk s G k) W W2:=Safe.o7 hg λk m e=>m (.inr ⟨_,a,e.symm⟩)
 have hr:=hs.r.upC hi (y':={v.ys[i]with a2:=a',n2:=n',c2:=c',c:={v.ys[i].c with sl:=l'}}) (p.set (λh=>h (.inr ⟨_,jV v s,d⟩)) (i*6+4) (aA a' n' c')) (by
  rw[<- w];exact t) (λr j q b=>by
  simp only[iU,gY,List.not_mem_nil,or_false]at j;rcases j with rfl | rfl | rfl
  ·exact .inl ⟨tV v.ys[i],lT (gL hi) (by simp[iU]),b⟩
  ·rcases hl q b with h | h
   ·exact .inl ⟨oO v.ys[i],a,h⟩
   ·exact .inr (hs.r.fresh h)
  ·exact .inl ⟨sO v.ys[i],lT (gL hi) (by simp[iU]),b⟩)
 have o:aK G≠(oO v.ys[i]).v.ownBlock:=λe=>(hs.r.og _ a G e.symm).1 rfl
 have f:=aS (bV hs.k hs.r.hr.gs hg o) (c:=gc) (λe=>n.1 e.symm) (i*6+4) (aA a' n' c');have l:=aV (bY hs.fz hs.r.hr.gs hg o) ⟨gc,i*6+4,aJ⟩ (aA a' n' c');rw[<- xZ v s i]at f;exact⟨⟨hr,f,l⟩,(Safe.o7 hg λk m e=>(hs.r.og _ a k e.symm).2 m).set n.2 (i*6+4) _⟩
theorem SS.aFP (hs:SS W G X s v)(hi:i<v.ys.length){l':List (List UInt8)}(hown:W2.ownsRow 0 9 1 (aA a' n' c') n' (flat encS l'))(hg:W.grownBy W2 (tV v.ys[i]).v.ownBlock)
 (hl:∀k,(aA a' n' c').ownBlock=aK k->(tV v.ys[i]).v.ownBlock=aK k∨W.heap.size<=k) {gc:Nat} (hgc:v.a2=aK ⟨gc,0,aJ⟩):
 SS (W2.setCell ⟨gc,i*6,aJ⟩ (aA a' n' c')) G X (s.fO i {v.ys[i].c with ns:=l'}) (v.fA i {v.ys[i]with a1:=a',n1:=n',c1:=c',c:={v.ys[i].c with ns:=l'}})/\Safe X W (W2.setCell ⟨gc,i*6,aJ⟩ (aA a' n' c')):=by
 have a:tV v.ys[i]∈v.rows s:=lT (gL hi) (by simp[iU]);have d:(oD v).v.ownBlock=aK gc:=by unfold oD;rw[hgc];rfl
 have n:=hs.r.og _ (jV v s) gc d;have u:=(hs.r.QO hi).grown (i:=2) (by simp) hg (r':=tV {v.ys[i]with a1:=a',n1:=n',c1:=c',c:={v.ys[i].c with ns:=l'}}) hown hl;have t:=u.cell (i:=1) (by simp) (g:=gc) (c:=v.c2) (by show(oD v).v=_;unfold oD;rw[hgc];rfl) (i*6+0) (aA a' n' c') rfl;have w:({oD v with xs:=(oD v).xs.set (i*6+0) (aA a' n' c')}:Rs)=oD (v.fA i {v.ys[i]with a1:=a',n1:=n',c1:=c',c:={v.ys[i].c with ns:=l'}}):=by
  unfold oD Sc.fA;simp only[List.length_set];rw[tY eY (by decide) v.ys i hi (x:={v.ys[i]with a1:=a',n1:=n',c1:=c',c:={v.ys[i].c with ns:=l'}}) rfl]
 have p:Safe (λk=>¬v.blk s G k) W W2:=Safe.o7 hg λk m e=>m (.inr ⟨_,a,e.symm⟩)
 have hr:=hs.r.upC hi (y':={v.ys[i]with a1:=a',n1:=n',c1:=c',c:={v.ys[i].c with ns:=l'}}) (p.set (λh=>h (.inr ⟨_,jV v s,d⟩)) (i*6+0) (aA a' n' c')) (by
  rw[<- w];exact t) (λr j q b=>by
  simp only[iU,gY,List.not_mem_nil,or_false]at j;rcases j with rfl | rfl | rfl
  ·rcases hl q b with h | h
   ·exact .inl ⟨tV v.ys[i],a,h⟩
   ·exact .inr (hs.r.fresh h)
  ·exact .inl ⟨oO v.ys[i],lT (gL hi) (by simp[iU]),b⟩
  ·exact .inl ⟨sO v.ys[i],lT (gL hi) (by simp[iU]),b⟩)
 have o:aK G≠(tV v.ys[i]).v.ownBlock:=λe=>(hs.r.og _ a G e.symm).1 rfl
 have f:=aS (bV hs.k hs.r.hr.gs hg o) (c:=gc) (λe=>n.1 e.symm) (i*6+0) (aA a' n' c');have l:=aV (bY hs.fz hs.r.hr.gs hg o) ⟨gc,i*6+0,aJ⟩ (aA a' n' c');rw[<- xZ v s i]at f;exact⟨⟨hr,f,l⟩,(Safe.o7 hg λk m e=>(hs.r.og _ a k e.symm).2 m).set n.2 (i*6+0) _⟩
theorem SS.aFQ (hs:SS W G X s v)(hb:Below W.heap.size W W1)(hn:lN W1 W.heap.size h' hc')(hb2:Below W1.heap.size W1 W2){a:Option Addr}{n c:Nat}(ho:W2.ownsRow W1.heap.size 3 1 (aA a n c) n (xs.map vI)):
 SS ((((((W2.setCell ⟨G,1,aJ⟩ (aA hc'.az 2 hc'.cz)).setCell ⟨G,2,aJ⟩ (aA hc'.am 2 hc'.cm)).setCell ⟨G,3,aJ⟩ (aB aI (h'.aP:Int))).setCell ⟨G,4,aJ⟩ (aA hc'.al hc'.lc.length hc'.cl)).setCell ⟨G,5,aJ⟩ (aA hc'.av h'.live.length hc'.cv)).setCell ⟨G,0,aJ⟩ (aA a n c)) G X {s with w:=xs,h:=h'} {v with a1:=a,n1:=n,c1:=c,hc:=hc'}/\
 Safe X W ((((((W2.setCell ⟨G,1,aJ⟩ (aA hc'.az 2 hc'.cz)).setCell ⟨G,2,aJ⟩ (aA hc'.am 2 hc'.cm)).setCell ⟨G,3,aJ⟩ (aB aI (h'.aP:Int))).setCell ⟨G,4,aJ⟩ (aA hc'.al hc'.lc.length hc'.cl)).setCell ⟨G,5,aJ⟩ (aA hc'.av h'.live.length hc'.cv)).setCell ⟨G,0,aJ⟩ (aA a n c)):=by
 have j:=hs.r.heap hb hn;have e:=j.words hb2 ho;have K:=aQ hs.k hs.r.hr.gs (gW hb hb2);have F:=aU hs.fz hs.r.hr.gs (gW hb hb2);have d:=aW K 1 (aA hc'.az 2 hc'.cz);have t:=aW d 2 (aA hc'.am 2 hc'.cm);have l:=aW t 3 (aB aI (h'.aP:Int));have p:=aW l 4 (aA hc'.al hc'.lc.length hc'.cl);have m:=aW p 5 (aA hc'.av h'.live.length hc'.cv);have b:=aW m 0 (aA a n c);have f:=aV F ⟨G,1,aJ⟩ (aA hc'.az 2 hc'.cz);have o:=aV f ⟨G,2,aJ⟩ (aA hc'.am 2 hc'.cm);have g:=aV o ⟨G,3,aJ⟩ (aB aI (h'.aP:Int));have u:=aV g ⟨G,4,aJ⟩ (aA hc'.al hc'.lc.length hc'.cl);have q:=aV u ⟨G,5,aJ⟩ (aA hc'.av h'.live.length hc'.cv);have i:=aV q ⟨G,0,aJ⟩ (aA a n c);unfold Sc.vals at b;simp only[gE,gG,gH]at b;exact⟨⟨(((((e.iQ 1 _).iQ 2 _).iQ 3 _).iQ 4 _).iQ 5 _).iQ 0 _,b,i⟩,((((((Safe.jT (gW hb hb2)).set hs.r.hr.xg 1 _).set hs.r.hr.xg 2 _).set hs.r.hr.xg 3 _).set hs.r.hr.xg 4 _).set hs.r.hr.xg 5 _).set hs.r.hr.xg 0 _⟩
theorem SS.Yi (hs:SS W G X s v)(hi:i<v.ys.length){y:Cc}(hy:v.ys[i]=y){l':List Sl}(hown:W2.ownsRow 0 99 3 (aA a' n' c') n' (flat bQ l'))(hg:W.grownBy W2 (oO y).v.ownBlock)
 (hl:∀k,(aA a' n' c').ownBlock=aK k->(oO y).v.ownBlock=aK k∨W.heap.size<=k) {gc:Nat} (hgc:v.a2=aK ⟨gc,0,aJ⟩):
 ∃v',SS (W2.setCell ⟨gc,i*6+4,aJ⟩ (aA a' n' c')) G X (s.fO i {y.c with sl:=l'}) v'/\Safe X W (W2.setCell ⟨gc,i*6+4,aJ⟩ (aA a' n' c'))/\v'.a2=v.a2:=by
 subst hy;have h:=hs.aFO hi hown hg hl hgc;exact⟨_,h.1,h.2,rfl⟩
theorem SR.aCs (hs:SR W G X s v)(hi:i<v.ys.length){y:Cc}(hy:v.ys[i]=y)(hgc:v.a2=aK ⟨gc,0,aJ⟩):(oO y).v.ownBlock≠aK gc:=λe=>by
 subst hy;have h:=(hs.QO hi).off (i:=1) (j:=3) (by simp) (by simp) (by decide) gc (by show(oD v).v.ownBlock=_;unfold oD;rw[hgc];rfl);exact h e
theorem SS.Yj (hs:SS W G X s v)(hi:i<v.ys.length){y:Cc}(hy:v.ys[i]=y)(hg:y.a3=aK ⟨g,0,aJ⟩)(cpu:Nat)(p:Int):
 ∃v',SS (W.setCell ⟨g,cpu,aJ⟩ (vI p)) G X (s.fO i {y.c with ac:=y.c.ac.set cpu p}) v'/\Safe X W (W.setCell ⟨g,cpu,aJ⟩ (vI p))/\v'.a2=v.a2:=by
 subst hy;have h:=hs.aFN hi hg cpu p;exact⟨_,h.1,h.2,rfl⟩
theorem SS.aJh (hs:SS W G X s v)(hi:i<v.ys.length){y:Cc}(hy:v.ys[i]=y)(hg:y.a2=aK ⟨g,0,aJ⟩)(hk:k<y.c.sl.length)(h':Int){n':Nat}:
 ∃v',SS ((W.setCell ⟨g,k*3+2,aJ⟩ (vI h')).setCell ⟨g,k*3+1,aJ⟩ (vI n')) G X (s.fO i {y.c with sl:=y.c.sl.set k ⟨y.c.sl[k].p,n',h'⟩}) v'/\Safe X W ((W.setCell ⟨g,k*3+2,aJ⟩ (vI h')).setCell ⟨g,k*3+1,aJ⟩ (vI n'))/\v'.a2=v.a2:=by
 subst hy;have e:=hs.Tq hi hg hk (x':=⟨v.ys[i].c.sl[k].p,v.ys[i].c.sl[k].n,h'⟩) (j:=2) (by decide) (u:=vI h') rfl rfl;have b:i<(v.fA i {v.ys[i]with c:={v.ys[i].c with sl:=v.ys[i].c.sl.set k ⟨v.ys[i].c.sl[k].p,v.ys[i].c.sl[k].n,h'⟩}}).ys.length:=by
  unfold Sc.fA;simpa using hi
 have a:(v.fA i {v.ys[i]with c:={v.ys[i].c with sl:=v.ys[i].c.sl.set k ⟨v.ys[i].c.sl[k].p,v.ys[i].c.sl[k].n,h'⟩}}).ys[i]={v.ys[i]with c:={v.ys[i].c with sl:=v.ys[i].c.sl.set k ⟨v.ys[i].c.sl[k].p,v.ys[i].c.sl[k].n,h'⟩}}:=by simp[Sc.fA]
 have d:=e.1.Tq b (g:=g) (by rw[a];exact hg) (k:=k) (by rw[a];simpa using hk) (x':=⟨v.ys[i].c.sl[k].p,n',h'⟩) (j:=1) (by decide) (u:=vI n') (by
  simp only[a,List.getElem_set_self];rfl) rfl
 have f:=d.1;have h:(s.fO i {v.ys[i].c with sl:=v.ys[i].c.sl.set k ⟨v.ys[i].c.sl[k].p,v.ys[i].c.sl[k].n,h'⟩}).fO i {(v.fA i {v.ys[i]with c:={v.ys[i].c with sl:=v.ys[i].c.sl.set k ⟨v.ys[i].c.sl[k].p,v.ys[i].c.sl[k].n,h'⟩}}).ys[i].c with sl:=(v.fA i {v.ys[i]with c:={v.ys[i].c with sl:=v.ys[i].c.sl.set k ⟨v.ys[i].c.sl[k].p,v.ys[i].c.sl[k].n,h'⟩}}).ys[i].c.sl.set k ⟨v.ys[i].c.sl[k].p,n',h'⟩}=s.fO i {v.ys[i].c with sl:=v.ys[i].c.sl.set k ⟨v.ys[i].c.sl[k].p,n',h'⟩}:=by
  unfold Sy.fO;simp only[a,List.set_set]
 rw[h]at f;exact⟨_,f,e.2.trans d.2,rfl⟩
end
section
variable {w W W':World}{G B T U:Nat}{E:Array Value}
theorem dX {b:Nat}(hb:Below b w W)(hT:b<=T)(v2:Sc)(s2:Sy):Below b w (((((((W.setCell ⟨T,0,aJ⟩ (aA v2.a1 v2.n1 v2.c1)).setCell ⟨T,1,aJ⟩ (aA v2.hc.az 2 v2.hc.cz)).setCell ⟨T,2,aJ⟩ (aA v2.hc.am 2 v2.hc.cm)).setCell ⟨T,3,aJ⟩ (aB aI (s2.h.aP:Int))).setCell ⟨T,4,aJ⟩ (aA v2.hc.al v2.hc.lc.length v2.hc.cl)).setCell ⟨T,5,aJ⟩ (aA v2.hc.av s2.h.live.length v2.hc.cv)).setCell ⟨T,6,aJ⟩ (aA v2.a2 v2.ys.length v2.c2)):=
 gS (gS (gS (gS (gS (gS (gS hb T 0 hT _) T 1 hT _) T 2 hT _) T 3 hT _) T 4 hT _) T 5 hT _) T 6 hT _
theorem qU {a0 a1 a2 a3 a4 a5 a6:Value}(K:∀o,W.cell? ⟨T,o,aJ⟩=(#[a0,a1,a2,a3,a4,a5,a6]:Array Value)[o]?)(v:Sc)(s:Sy):∀o,(((((((W.setCell ⟨T,0,aJ⟩ (aA v.a1 v.n1 v.c1)).setCell ⟨T,1,aJ⟩ (aA v.hc.az 2 v.hc.cz)).setCell ⟨T,2,aJ⟩ (aA v.hc.am 2 v.hc.cm)).setCell ⟨T,3,aJ⟩ (aB aI (s.h.aP:Int))).setCell ⟨T,4,aJ⟩ (aA v.hc.al v.hc.lc.length v.hc.cl)).setCell ⟨T,5,aJ⟩ (aA v.hc.av s.h.live.length v.hc.cv)).setCell ⟨T,6,aJ⟩ (aA v.a2 v.ys.length v.c2)).cell? ⟨T,o,aJ⟩=(#[aA v.a1 v.n1 v.c1,aA v.hc.az 2 v.hc.cz,aA v.hc.am 2 v.hc.cm,aB aI (s.h.aP:Int),aA v.hc.al v.hc.lc.length v.hc.cl,aA v.hc.av s.h.live.length v.hc.cv,aA v.a2 v.ys.length v.c2]:Array Value)[o]? :=by
 have a:=(aW (aW (aW (aW (aW (aW (aW K 0 (aA v.a1 v.n1 v.c1)) 1 (aA v.hc.az 2 v.hc.cz)) 2 (aA v.hc.am 2 v.hc.cm)) 3 (aB aI (s.h.aP:Int))) 4 (aA v.hc.al v.hc.lc.length v.hc.cl)) 5 (aA v.hc.av s.h.live.length v.hc.cv)) 6 (aA v.a2 v.ys.length v.c2))
 simp only[gE,gG,gH]at a;exact a
theorem mX (K:∀o,W.cell? ⟨U,o,aJ⟩=E[o]?)(hne:U≠T)(v:Sc)(s:Sy):∀o,(((((((W.setCell ⟨T,0,aJ⟩ (aA v.a1 v.n1 v.c1)).setCell ⟨T,1,aJ⟩ (aA v.hc.az 2 v.hc.cz)).setCell ⟨T,2,aJ⟩ (aA v.hc.am 2 v.hc.cm)).setCell ⟨T,3,aJ⟩ (aB aI (s.h.aP:Int))).setCell ⟨T,4,aJ⟩ (aA v.hc.al v.hc.lc.length v.hc.cl)).setCell ⟨T,5,aJ⟩ (aA v.hc.av s.h.live.length v.hc.cv)).setCell ⟨T,6,aJ⟩ (aA v.a2 v.ys.length v.c2)).cell? ⟨U,o,aJ⟩=E[o]? :=
 aS (aS (aS (aS (aS (aS (aS K hne 0 _) hne 1 _) hne 2 _) hne 3 _) hne 4 _) hne 5 _) hne 6 _
theorem Ci (F:∀o,W.frozen? ⟨U,o,aJ⟩=false)(v:Sc)(s:Sy):∀o,(((((((W.setCell ⟨T,0,aJ⟩ (aA v.a1 v.n1 v.c1)).setCell ⟨T,1,aJ⟩ (aA v.hc.az 2 v.hc.cz)).setCell ⟨T,2,aJ⟩ (aA v.hc.am 2 v.hc.cm)).setCell ⟨T,3,aJ⟩ (aB aI (s.h.aP:Int))).setCell ⟨T,4,aJ⟩ (aA v.hc.al v.hc.lc.length v.hc.cl)).setCell ⟨T,5,aJ⟩ (aA v.hc.av s.h.live.length v.hc.cv)).setCell ⟨T,6,aJ⟩ (aA v.a2 v.ys.length v.c2)).frozen? ⟨U,o,aJ⟩=false:=
 aV (aV (aV (aV (aV (aV (aV F ⟨T,0,aJ⟩ _) ⟨T,1,aJ⟩ _) ⟨T,2,aJ⟩ _) ⟨T,3,aJ⟩ _) ⟨T,4,aJ⟩ _) ⟨T,5,aJ⟩ _) ⟨T,6,aJ⟩ _
end
theorem fG.erase (hk:fG h)(hi:i<h.live.length):
 fG {h with live:=h.live.eraseIdx i}/\∀q,cnt ({h with live:=h.live.eraseIdx i}:Hp).all q+hit ⟨h.live[i].a,h.live[i].o,0⟩ q=cnt h.all q:=by
 have c:∀q,cnt ({h with live:=h.live.eraseIdx i}:Hp).all q+hit ⟨h.live[i].a,h.live[i].o,0⟩ q=cnt h.all q:=λq=>by
  have e:=BD hi q;have d:hit ⟨h.live[i].a,h.live[i].o,0⟩ q=hit h.live[i] q:=rfl;rw[dO,dO,d];simp only;omega
 exact⟨⟨hk.o0,hk.o1,hk.f0,hk.e0,hk.e1,hk.m0,hk.m1,hk.cp,hk.lk,hk.lr,λb hb=>hk.lv b ((List.eraseIdx_sublist _ _).subset hb),hk.vs.sublist (List.eraseIdx_sublist _ _),λq=>by have:=c q;have:=hk.one q;omega⟩,c⟩
theorem VB {b:Bk}(ho:0<b.o):h.fZ cpu i b=({h with live:=h.live.eraseIdx i}:Hp).jY b.a b.o:=by
 unfold Hp.fZ;simp only;rw[if_pos ho]
theorem VD {b:Bk}(ho:b.o=0):h.fZ cpu i b=({h with live:=h.live.eraseIdx i}:Hp).give cpu b.a:=by
 unfold Hp.fZ;simp only;rw[if_neg (by omega)]
def Hp.typ (h:Hp)(p:Nat):Nat:=(h.zone (h.jX p)).y.getD ((p-(h.zone (h.jX p)).f)/8) 0
theorem fG.YB (hk:fG h)(p:Nat):h.typ p<3:=by
 unfold Hp.typ;have a:=(hk.zone (h.jX p)).1.typ;rw[List.getD_eq_getElem?_getD];cases hg:(h.zone (h.jX p)).y[(p-(h.zone (h.jX p)).f)/8]? with
 | none=>simp
 | some u=>exact a u (gM hg)
theorem fG.giving (hk:fG h)(hc:cpu<h.aP)(hp:p<256)(hd:∀q,cnt h.all q+hit ⟨p,0,0⟩ q<=1){l:Ls}(hl:l=⟨cpu,h.jX p,h.typ p,[]⟩):
 (l.c<h.aP/\l.z<2/\l.t<3)/\mJ (cO h.ls l p)/\(∀y∈cO h.ls l p,y.z<2/\y.t<3)/\(cO h.ls l p).length<=24/\sW (cO h.ls l p) l.key=true/\
 ∃x,(cO h.ls l p)[kS (cO h.ls l p) l.key]? =aK x/\x.key=l.key/\x.p.length<=9/\h.give cpu p=(if 8<x.p.length then{Go.Proofs.YtjaogfhcnmjkiaaGreatDoor.bK {h with ls:=cO h.ls l p} (x.p.take 4)with ls:=(cO h.ls l p).set (kS (cO h.ls l p) l.key) {x with p:=x.p.drop 4}}else{h with ls:=cO h.ls l p})/\(∀q∈x.p,q<256)/\(∀q,cnt ({h with ls:=[]}:Hp).all q+cnt (mG x.p) q<=1)/\
  ∀j (hj:j<x.p.length),(∀(m:List Ls),(({Go.Proofs.YtjaogfhcnmjkiaaGreatDoor.bK {h with ls:=cO h.ls l p} (x.p.take j)with ls:=m}:Hp).zone (({Go.Proofs.YtjaogfhcnmjkiaaGreatDoor.bK {h with ls:=cO h.ls l p} (x.p.take j)with ls:=m}:Hp).jX x.p[j])).ok/\dM (({Go.Proofs.YtjaogfhcnmjkiaaGreatDoor.bK {h with ls:=cO h.ls l p} (x.p.take j)with ls:=m}:Hp).zone (({Go.Proofs.YtjaogfhcnmjkiaaGreatDoor.bK {h with ls:=cO h.ls l p} (x.p.take j)with ls:=m}:Hp).jX x.p[j])).f (({Go.Proofs.YtjaogfhcnmjkiaaGreatDoor.bK {h with ls:=cO h.ls l p} (x.p.take j)with ls:=m}:Hp).zone (({Go.Proofs.YtjaogfhcnmjkiaaGreatDoor.bK {h with ls:=cO h.ls l p} (x.p.take j)with ls:=m}:Hp).jX x.p[j])).e x.p[j] 0/\∀b∈(({Go.Proofs.YtjaogfhcnmjkiaaGreatDoor.bK {h with ls:=cO h.ls l p} (x.p.take j)with ls:=m}:Hp).zone (({Go.Proofs.YtjaogfhcnmjkiaaGreatDoor.bK {h with ls:=cO h.ls l p} (x.p.take j)with ls:=m}:Hp).jX x.p[j])).l,apartB x.p[j] 0 b):=by
 have G:=hk.YB p;have B:h.jX p<2:=by unfold Hp.jX;split <;> omega
 have D:p<h.z0.e↔h.jX p=0:=by unfold Hp.jX;split <;> simp_all
 have o:l.c<h.aP/\l.z<2/\l.t<3:=by rw[hl];exact⟨hc,B,G⟩
 have A:p<256/\(p<h.z0.e↔l.z=0):=by rw[hl];exact⟨hp,D⟩
 obtain⟨x,g,n,K⟩:=SN hk.lk l p;have I:=SQ (k:=l.key) (λx g=>(hk.lr x g).2.2.2.2.1);have s:=JI (N:=8) (M:=9) hk.lr o A (by omega) (by omega) (λy d _=>by have:=(hk.lr y d).2.2.2.2.1;omega);obtain⟨J,r⟩:=gK.1 g;have E:x∈cO h.ls l p:=by rw[<- r];exact gL J
 obtain⟨W,q2,Y,Z,Q,u⟩:=s x E;have a:∀q,cnt ({h with ls:=[]}:Hp).all q+cnt (mG x.p) q<=1:=λq=>by
  have L:=cnt_push h.ls l p q;have H:=yM J q;rw[r]at H;have C:=hd q;rw[dO]at C;rw[dO];simp only[lsB,cnt];omega
 refine⟨o,nI hk.lk l p,λy d=>⟨(s y d).2.1,(s y d).2.2.1⟩,?_,?_,x,g,n,Q,?_,λq v=>(u q v).1,?_,λj hj m=> ?_⟩
 ·have R:=nI hk.lk l p;refine Oi (N:=24) R λy d=> ?_
  obtain⟨g1,T,g3,_⟩:=s y d;have:=hk.cp.2;unfold Ls.key;omega
 ·unfold sW;rw[g];exact gTg n
 ·unfold Hp.give;have e:(⟨cpu,h.jX p,(h.zone (h.jX p)).y.getD ((p-(h.zone (h.jX p)).f)/8) 0,[]⟩:Ls)=l:=hl.symm;rw[e];simp only;rw[g]
 ·exact a
 ·have i:∀q,cnt (mG x.p) q=cnt (mG (x.p.take j)) q+cnt (mG (x.p.drop j)) q:=λq=>by rw[<- jZ,List.take_append_drop]
  have w:fG {h with ls:=[]}:=hk.JJ;obtain⟨k1,k2,U,k4,X⟩:=w.bK (x.p.take j) (λq v=>(u q (List.mem_of_mem_take v)).1) (λq=>by have:=a q;have:=i q;omega);have F:∀q,cnt (Go.Proofs.YtjaogfhcnmjkiaaGreatDoor.bK ({h with ls:=[]}:Hp) (x.p.take j)).all q+hit ⟨x.p[j],0,0⟩ q<=1:=λq=>by
   rw[k2];have L:=a q;have H:=i q;have C:x.p.drop j=x.p[j]::x.p.drop (j+1):=List.drop_eq_getElem_cons hj;have V:cnt (mG (x.p.drop j)) q=hit ⟨x.p[j],0,0⟩ q+cnt (mG (x.p.drop (j+1))) q:=by rw[C];rfl
   omega
  have O:=yO k1 m (tH (u _ (gL hj)).1) F;have e:({Go.Proofs.YtjaogfhcnmjkiaaGreatDoor.bK ({h with ls:=[]}:Hp) (x.p.take j)with ls:=m}:Hp)={Go.Proofs.YtjaogfhcnmjkiaaGreatDoor.bK {h with ls:=cO h.ls l p} (x.p.take j)with ls:=m}:=by
   have S:=lG (x.p.take j) h [];have P:=lG (x.p.take j) h (cO h.ls l p);rw[S,P]
  rw[<- e];exact O
structure vT (h0 h:Hp)(away:List Bk):Prop where
 ok:fG h
 same:Same h0 h
 cn:∀q,cnt h.all q=cnt h0.all q
 lv:(away.map iZ).Perm (h.live.map iZ)
 t0:∀b∈away,b.t=0
theorem TI:∀{l:List Bk} {k N:Nat},rW l->(∀x∈l,k<=x.a/\x.a<N)->l.length+k<=N∨l=[]
 | [],_,_,_,_=> .inr rfl
 | c::m,k,N,q1,q2=>by
  have q3:=List.pairwise_cons.1 q1;have d:=q2 c (by simp);rcases TI (k:=c.a+1) (N:=N) q3.2 λx b=>⟨q3.1 x b,(q2 x (by simp[b])).2⟩with q5 | rfl
  ·simp only[List.length_cons];exact .inl (by omega)
  ·simp only[List.length_cons,List.length_nil];exact .inl (by omega)
theorem fG.jM (hk:fG h):h.live.length<=256:=by
 rcases TI (k:=0) (N:=256) hk.vs λx a=>⟨gU _,(hk.lv x a).1.2.2.1⟩with h1 | h1
 ·omega
 ·rw[h1];exact gU _
theorem vT.len {away:List Bk}(hp:vT h0 h away):away.length=h.live.length/\away.length<=256:=by
 have a:=hp.lv.length_eq;have b:=hp.ok.jM;simp only[gTe]at a;omega
theorem vT.start (hk:fG h0)(hl:h0.live=[]):vT h0 h0 []:=⟨hk,Same.refl h0,λ_=>rfl,by rw[hl],by simp⟩
theorem Fj {α:Type}(l:List α)(hi:i<l.length):l.Perm (l[i]::l.eraseIdx i):=by
 have h:l=l.take i++l[i]::l.drop (i+1):=by rw[List.getElem_cons_drop,List.take_append_drop]
 rw[List.eraseIdx_eq_take_drop_succ];exact(List.Perm.of_eq h).trans List.perm_middle
theorem vT.has {away:List Bk}(hp:vT h0 h away)(hj:j<away.length):
 ∃hi:lb h.live away[j].a<h.live.length,h.live[lb h.live away[j].a].a=away[j].a/\h.live[lb h.live away[j].a].o=away[j].o/\hasB h.live away[j].a=true/\away[j].a<256:=by
 have g:iZ away[j]∈h.live.map iZ:=hp.lv.mem_iff.1 (List.mem_map_of_mem (gL hj));obtain⟨b,hb,e⟩:=List.mem_map.1 g;simp only[iZ,Prod.mk.injEq]at e;obtain⟨c,i⟩:=e;have d:=lZ hp.ok.vs hb;rw[c]at d;obtain⟨hi,f⟩:=gK.1 d;refine⟨hi,by rw[f,c],by rw[f,i],?_,by have:=(hp.ok.lv b hb).1.2.2.1;omega⟩;exact List.any_eq_true.2 ⟨b,hb,gTg c⟩
theorem vT.free {away:List Bk}(hp:vT h0 h away)(hc:cpu<h0.aP)(hj:j<away.length)(hi:lb h.live away[j].a<h.live.length):
 vT h0 (h.fZ cpu (lb h.live away[j].a) h.live[lb h.live away[j].a]) (away.eraseIdx j):=by
 have c:cpu<h.aP:=by rw[hp.same.aP];exact hc
 obtain⟨k1,k2,k,m⟩:=hp.ok.fZ c hi;obtain⟨_,i,f,_,_⟩:=hp.has hj;refine⟨k1,hp.same.trans k,λq=>by rw[k2,hp.cn],?_,λb hb=>hp.t0 b ((List.eraseIdx_sublist _ _).subset hb)⟩;rw[m];have g:=(Fj away hj).map iZ;have l:=(Fj h.live hi).map iZ;have d:=(g.symm.trans hp.lv).trans l;have e:iZ h.live[lb h.live away[j].a]=iZ away[j]:=by unfold iZ;rw[i,f]
 simp only[List.map_cons,e]at d;exact d.cons_inv
theorem vT.drain {away:List Bk}(hp:vT h0 h away):vT h0 h.drain away:=by
 obtain⟨k1,k2,a,c,b⟩:=hp.ok.drain;exact⟨k1,hp.same.trans a,λq=>by rw[k2,hp.cn],by rw[b];exact hp.lv,hp.t0⟩
theorem vT.alloc {away:List Bk}(hp:vT h0 h away){order t a:Nat}{u lo:Bool}(hc:cpu<h0.aP)(ho:order<=4)(ht:t<3)(he:h.alloc cpu order t u lo=aK (h',a)):vT h0 h' (away++[⟨a,order,0⟩]):=by
 obtain⟨k1,k2,e,f,g⟩:=hp.ok.alloc (by rw[hp.same.aP];exact hc) ho ht he;refine⟨k1,hp.same.trans e,λq=>by rw[k2,hp.cn],?_,λb hb=> ?_⟩
 ·rw[f,List.map_append];unfold dG;rw[List.map_append,List.map_cons];have d:((List.map iZ (h.live.take (lb h.live a)))++iZ ⟨a,order,t⟩::List.map iZ (h.live.drop (lb h.live a))).Perm (iZ ⟨a,order,t⟩::(List.map iZ (h.live.take (lb h.live a))++List.map iZ (h.live.drop (lb h.live a)))):=List.perm_middle;rw[<- List.map_append,List.take_append_drop]at d;refine List.Perm.trans ?_ d.symm;refine(List.perm_append_comm).trans ?_;exact List.Perm.cons _ hp.lv
 ·rcases gZ.1 hb with c | c
  ·exact hp.t0 b c
  ·rw[gTa.1 c]
theorem yA (w:World)(o:Obj):w.heap.size<(w.alloc o).heap.size:=by simp
theorem sZ.at (h:sZ s c x)(hk:fG s.h):∃hi:lb s.h.live x.p<s.h.live.length,s.h.live[lb s.h.live x.p].o=c.o/\hasB s.h.live x.p=true:=by
 obtain⟨b,hb,a,e⟩:=h.live;have d:=lZ hk.vs hb;rw[a]at d;obtain⟨hi,f⟩:=gK.1 d;exact⟨hi,by rw[f];exact e,List.any_eq_true.2 ⟨b,hb,gTg a⟩⟩
theorem YC (v:Sc)(s:Sy)(y:Cc)(w:World)(hs:nO w v s)(hk:fG s.h)(hw:s.w.length=4096)(hy:JW w y)(hc:qY s y.c):
 Calls prog 31 #[aC #[aA v.a1 v.n1 v.c1,aA v.hc.az 2 v.hc.cz,aA v.hc.am 2 v.hc.cm,aB aI s.h.aP,aA v.hc.al v.hc.lc.length v.hc.cl,aA v.hc.av s.h.live.length v.hc.cv,aA v.a2 v.ys.length v.c2],aC #[aA y.a1 y.n1 y.c1,aB aI y.c.z,aB aI y.c.r,aB aI y.c.o,aA y.a2 y.n2 y.c2,aA y.a3 y.n3 y.c3]] w λev w'=>ev=aN (.bool true)/\Below w.heap.size w w':=by
 obtain⟨K0,K1,F0,F1,d,hbw⟩:=boxes2 w #[aA v.a1 v.n1 v.c1,aA v.hc.az 2 v.hc.cz,aA v.hc.am 2 v.hc.cm,aB aI (s.h.aP:Int),aA v.hc.al v.hc.lc.length v.hc.cl,aA v.hc.av s.h.live.length v.hc.cv,aA v.a2 v.ys.length v.c2] 42 #[aA y.a1 y.n1 y.c1,aB aI (y.c.z:Int),aB aI (y.c.r:Int),aB aI (y.c.o:Int),aA y.a2 y.n2 y.c2,aA y.a3 y.n3 y.c3] 67;have HS:=gO (hs.below hbw);have HY:=gO (hy.below hbw);have HB:=gO hbw;have HK:=gO hk;have N:=gO hc;have k:=gO K0;have g:=gO K1;have hz:=hc.z;have ho:=hc.o;have hr:=hc.r;have hn2:y.n2<=256:=by rw[<- hy.l2];exact hc.nS hk
 have hn3:y.n3=s.h.aP:=by rw[<- hy.l3];exact hc.ac
 have hcp:=hk.cp;have aOl:y.n3<=4:=by rw[hn3];exact hk.cp.2
 have hlv:=hs.hh.nv;have hn1:0<y.n1:=by rw[<- hy.l1];exact List.length_pos_iff.2 hc.ns
 have c0:=K0 3;have c1:=K1 0;have c2:=K1 1;have c3:=K1 2;have c4:=K1 3;have c5:=K1 5;have c6:=K1 4;simp only[gB,gC,gD]at c0 c1 c2 c3 c4 c5 c6;have q1:((y.c.o:Int) != (fV y.c.z:Nat))=false:=by rw[ho];simp
 have q2:((y.c.r:Int) != (iR y.c.z:Nat))=false:=by rw[hr];simp
 have q3:((y.n1:Int) == 0)=false:=by rw[beq_eq_false_iff_ne];omega
 have q4:((y.n3:Int) != (s.h.aP:Int))=false:=by rw[hn3];simp
 have HOO:=gO ho;have HRR:=gO hr;clear hs hy hbw K0 K1 F0 F1 hk hc ho hr hn3;go_enter func31,ntmps31
 go_wp2_with fail
 generalize (w.alloc _).alloc _=w2 at*;refine(Fh y.c.z w2 hz.1 hz.2).mono ?_;rintro ev _ ⟨rfl,rfl⟩;go_wp2_with fail
 go_loopw [55] (λs55 wr=>∃i:Nat,i<=y.n2/\s55=aB aI (i:Int)/\Hid (Below w2.heap.size w2 wr)) (λs55 _=>y.n2-(intOf s55).toNat)
 case atStart=>exact⟨0,gU _,rfl,gX _ _⟩
 case round=>
  obtain⟨i,hi,rfl,oH⟩:=hrel;by_cases hlt:i<y.n2
  ·have Hg:(i:Int)<y.n2:=by omega
   have hi2:i<y.c.sl.length:=by rw[HY.out.l2];exact hlt
   obtain⟨bb,off,I,hbb,hbc⟩:=aZ aY (by decide) (HY.out.r2.below oH.out) hi2;obtain⟨e0,e1,e2⟩:=iK hbc;have HX:=gO (N.out.sk _ (gL hi2));have HPV:Hid (∀m (hm:m<i),(y.c.sl[m]'(by omega)).p<(y.c.sl[i]).p):=λm hm=>gN.1 N.out.sr m i (by omega) hi2 hm
   obtain⟨x,hx⟩:∃x,y.c.sl[i]=x:=⟨_,rfl⟩
   simp only[hx]at e0 e1 e2 HX HPV;obtain⟨hil,Uw,hhas⟩:=HX.out.at HK.out;obtain⟨cl,D⟩:=HX.out.chain;have hxp:=HX.out.BF HK.out;have HA2:=gO I;rw[I]at c6 ⊢;clear hbc I hx;go_upto_region 7 with fail
   have hb3:=aT wr (aO #[aB aI (x.p:Int),aB aI (x.n:Int),aB aI x.h] 99);have KX:=bI wr #[aB aI (x.p:Int),aB aI (x.n:Int),aB aI x.h] 99;have hsx:=yA wr (aO #[aB aI (x.p:Int),aB aI (x.n:Int),aB aI x.h] 99);have HB3:=gO (gW oH.out hb3);clear hb3 oH e0 e1 e2 hbb;obtain⟨we,rfl⟩:∃we,we=wr:=⟨_,rfl⟩
   generalize we.alloc _=w3 at*;obtain⟨BX,hBX⟩:∃B,we.heap.size=B:=⟨_,rfl⟩
   rw[hBX]at KX hsx ⊢;clear hBX;have g0:=KX 0;have q:=(aQ k.out (by omega) HB3.out) 5;simp only[gB,gC,gD]at g0 q;have hs3:w.heap.size+1<w3.heap.size:=gI d HB3.out.size;go_wp2_with fail
   refine(KI _ _ _ s.h.live x.p w3 rfl (gQ HK.out.jM (by decide)) (HS.out.hh.vr.below HB3.out) HK.out.vs (λb hb=>by have:=(HK.out.lv b hb).1.2.2.1;omega) (by omega)).mono ?_;rintro ev w4 ⟨rfl,hb4⟩;rw[hhas];have A:=gO (gW HB3.out hb4);have O:=aQ KX hsx hb4;have VE:=gI hsx hb4.size;clear g0 q hb4 KX hsx hs3;obtain⟨lbk,aOm,hla,aOn,hlc⟩:=aZ aX (by decide) (HS.out.hh.vr.below A.out) hil;obtain⟨l0,l1,l2⟩:=bZ hlc;rw[Uw]at l1;have q:=(aQ k.out (by omega) A.out) 5;have t:=(aQ g.out d A.out) 4;have d1:=O 0;simp only[gB,gC,gD]at q t d1;rw[hla]at q;rw[HA2.out]at t;rw[HOO.out]at l1;have aJG:=hil;clear hla hlc l0 l2 Uw;obtain⟨L,hL⟩:∃L,lb s.h.live x.p=L:=⟨_,rfl⟩
   rw[hL]at l1 aJG ⊢;clear hL hil;have hs4:w.heap.size+1<w4.heap.size:=gI d A.out.size;have hLi:(L:Int)<s.h.live.length:=by omega
   by_cases hi0:i=0
   ·subst hi0;go_wp2_with fail
    go_quiet (fail)
    have C:=below_drewN (gX w4.heap.size w4) nq;have l:=gO (gW A.out C);have E:=aQ O VE C;have aJH:=gI VE C.size;clear A O VE C d1 l1 q t;generalize w4.drewN nq=w5 at*;have g0:=E 0;have g1:=E 1;have g2:=E 2;have V:=(aQ k.out (by omega) l.out) 0;have S:=(aQ k.out (by omega) l.out) 1;have R:=(aQ k.out (by omega) l.out) 2;have U:=(aQ k.out (by omega) l.out) 3;have Q:=(aQ k.out (by omega) l.out) 4;have q:=(aQ k.out (by omega) l.out) 5;have T:=(aQ k.out (by omega) l.out) 6;have F:=(aQ g.out d l.out) 0;have G:=(aQ g.out d l.out) 1;have J:=(aQ g.out d l.out) 2;have H:=(aQ g.out d l.out) 3;have t:=(aQ g.out d l.out) 4;have u:=(aQ g.out d l.out) 5;simp only[gB,gC,gD]at g0 g1 g2 V S R U Q q T F G J H t u;have hs2:=d;go_wp2_with fail
    refine(Ah _ _ _ _ _ _ _ _ _ _ _ _ _ _ _ _ s.h.aP s.w y x cl w5 (HS.out.lw) (by have:=HS.out.lw;omega) (HS.out.rw.below l.out) hz.1 (by have:=N.out.rz;omega) (by omega) D.1 D.2.1 D.2.2 (λa ha=>by have h9:=kY (D.2.2 a ha);have:=N.out.rz;have h8:((y.c.r*y.c.z:Nat):Int)=(y.c.r:Int)*(y.c.z:Int):=Int.natCast_mul _ _;omega) (by have:=HX.out.Nb;have:=N.out.r64;omega)).mono ?_;rintro ev w6 ⟨a',c',rfl,_,hb6⟩;have HB6:=gO (gW l.out hb6);clear g0 g1 g2 V S R U Q q T F G J H t u;go_wp2_with fail
    go_roundw
    case measure=>simp[intOf];omega
    case rel=>exact⟨1,by omega,by go_num,HB6⟩
   ·obtain⟨m,rfl⟩:∃m,i=m+1:=⟨i-1,by omega⟩
    have hm1:((m+1:Nat):Int)-1=(m:Int):=by omega
    have hml:m<y.c.sl.length:=by omega
    have hpv:=HPV.out m (by omega);obtain⟨bb2,off2,aDK,_,hbc2⟩:=aZ aY (by decide) (HY.out.r2.below A.out) hml;rw[HA2.out]at aDK;simp only[Option.some.injEq,Addr.mk.injEq,and_true]at aDK;obtain⟨rfl,rfl⟩:=aDK;obtain⟨p0,_,_⟩:=iK hbc2;obtain⟨xq,hxq⟩:∃x',(y.c.sl[m]).p=x':=⟨_,rfl⟩
    rw[hxq]at p0;simp only[hxq]at hpv;have hge:¬(x.p:Int)<=xq:=by omega
    have aOo:decide ((x.p:Int)<=xq)=false:=gV hge;clear hbc2 hxq;have hmi:(m:Int)<y.n2:=by omega
    go_wp2_with fail
    go_quiet (fail)
    have C:=below_drewN (gX w4.heap.size w4) nq;have l:=gO (gW A.out C);have E:=aQ O VE C;have aJH:=gI VE C.size;clear A O VE C d1 l1 q t p0;generalize w4.drewN nq=w5 at*;have g0:=E 0;have g1:=E 1;have g2:=E 2;have V:=(aQ k.out (by omega) l.out) 0;have S:=(aQ k.out (by omega) l.out) 1;have R:=(aQ k.out (by omega) l.out) 2;have U:=(aQ k.out (by omega) l.out) 3;have Q:=(aQ k.out (by omega) l.out) 4;have q:=(aQ k.out (by omega) l.out) 5;have T:=(aQ k.out (by omega) l.out) 6;have F:=(aQ g.out d l.out) 0;have G:=(aQ g.out d l.out) 1;have J:=(aQ g.out d l.out) 2;have H:=(aQ g.out d l.out) 3;have t:=(aQ g.out d l.out) 4;have u:=(aQ g.out d l.out) 5;simp only[gB,gC,gD]at g0 g1 g2 V S R U Q q T F G J H t u;have hs2:=d;go_wp2_with fail
    refine(Ah _ _ _ _ _ _ _ _ _ _ _ _ _ _ _ _ s.h.aP s.w y x cl w5 (HS.out.lw) (by have:=HS.out.lw;omega) (HS.out.rw.below l.out) hz.1 (by have:=N.out.rz;omega) (by omega) D.1 D.2.1 D.2.2 (λa ha=>by have h9:=kY (D.2.2 a ha);have:=N.out.rz;have h8:((y.c.r*y.c.z:Nat):Int)=(y.c.r:Int)*(y.c.z:Int):=Int.natCast_mul _ _;omega) (by have:=HX.out.Nb;have:=N.out.r64;omega)).mono ?_;rintro ev w6 ⟨a',c',rfl,_,hb6⟩;have HB6:=gO (gW l.out hb6);clear g0 g1 g2 V S R U Q q T F G J H t u;go_wp2_with fail
    go_roundw
    case measure=>simp[intOf];omega
    case rel=>exact⟨m+1+1,by omega,by go_num,HB6⟩
  ·have hie:i=y.n2:=by omega
   subst hie;have u:=(aQ g.out d oH.out) 5;simp only[gB,gC,gD]at u;have XV:w.heap.size+1<wr.heap.size:=gI d oH.out.size;clear c6;obtain⟨w8,rfl⟩:∃w8,w8=wr:=⟨_,rfl⟩
   go_wp2_with fail
   clear u;go_loopw [111] (λP wr=>∃j:Nat,j<=y.n3/\P=aB aI (j:Int)/\Hid (Below w2.heap.size w2 wr)) (λP _=>y.n3-(intOf P).toNat)
   case atStart=>exact⟨0,gU _,rfl,oH⟩
   case round=>
    obtain⟨j,hj,rfl,M⟩:=hrel;by_cases hjl:j<y.n3
    ·have aOp:(j:Int)<y.n3:=by omega
     have hj2:j<y.c.ac.length:=by rw[HY.out.l3];exact hjl
     obtain⟨bb,off,I,hbb,e0⟩:=Ez (HY.out.r3.below M.out) hj2;have HA3:=gO I;have haw:=N.out.aw _ (gL hj2);have hno:∀m (hm:m<j),y.c.ac[j]≠ -1->(y.c.ac[m]'(by omega))≠y.c.ac[j]:=λm hm h1 h2=>h1 (h2▸gN.1 N.out.ad m j (by omega) hj2 hm h2)
     obtain⟨a,ha⟩:∃a,y.c.ac[j]=a:=⟨_,rfl⟩
     rw[ha]at e0 haw;simp only[ha]at hno;have Yu:=gO hno;have HAW:=gO haw;rw[I];clear I hno haw;by_cases Z:a= -1
     ·subst Z;go_wp2_with fail
      go_roundw
      case rel=>exact⟨j+1,by omega,by go_num,M⟩
      case measure=>simp[intOf];omega
     ·have aOq:(a == -1)=false:=by rw[beq_eq_false_iff_ne];exact Z
      have F:=(aQ g.out d M.out) 0;have G:=(aQ g.out d M.out) 1;have J:=(aQ g.out d M.out) 2;have H:=(aQ g.out d M.out) 3;have t:=(aQ g.out d M.out) 4;have u:=(aQ g.out d M.out) 5;simp only[gB,gC,gD]at F G J H t u;have hpre:Row wr y.a3 ((y.c.ac.take j).map vI):=λi v h=>HY.out.r3.below M.out i v (by
       rw[List.map_take,List.getElem?_take]at h;split at h
       ·exact h
       ·cases h)
      have K:=kQ y.a3 y.c3 (y.c.ac.take j) a wr (by rw[gTc];omega) hpre;rw[gTc,Nat.min_eq_left (by omega)]at K;have Y:vO (y.c.ac.take j) a=false:=by
       unfold vO;rw[List.contains_eq_any_beq,List.any_eq_false];intro x hx;obtain⟨m,hm,e⟩:=List.mem_take_iff_getElem.1 hx;have:=Yu.out m (by omega) Z;rw[e]at this;simpa using λh=>this h.symm
      rw[Y]at K;obtain⟨x,hxm,hxa⟩:∃x∈y.c.sl,(x.p:Int)=a:=HAW.out.resolve_left Z;have hxp:=(N.out.sk x hxm).BF HK.out;have X:=fun(W:World) (hW:Below wr.heap.size wr W)=>Tm y a W (HY.out.below (gW M.out hW)) (by omega) (λx hx=>by have:=(N.out.sk x hx).BF HK.out;omega) (by omega)
      have hpos:¬dV (λx=>decide ((x.p:Int)=a)) y.c.sl<0:=by
       have h9:=jI (λx:Sl=>decide ((x.p:Int)=a)) y.c.sl;rw[show(y.c.sl.any λx=>decide ((x.p:Int)=a))=true from List.any_eq_true.2 ⟨x,hxm,gTg hxa⟩]at h9;have:=of_decide_eq_true h9;omega
      have Fp:=gO K;have HFI:=gO X;have aGg:w.heap.size+1<wr.heap.size:=gI d M.out.size;rw[HA3.out]at u;rw[HA3.out]at Fp;clear hpre K Y X hxa;obtain⟨fi,hfi⟩:∃f,dV (λx=>decide ((x.p:Int)=a)) y.c.sl=f:=⟨_,rfl⟩
      simp only[hfi]at HFI hpos;clear hfi;rw[HA3.out]at HFI;have hjc:(j:Int)<=y.c3:=by have:=HY.out.k3;omega
      have aOr:j<=y.c3:=by have:=HY.out.k3;omega
      go_wp2_with (first | (go_at_call 45;refine Fp.out.mono ?_;rintro e w' ⟨rfl,rfl⟩) | (go_at_call 71;refine(HFI.out _ (gX _ _)).mono ?_;rintro e w' ⟨rfl,hb'⟩))
      have WZ:=gO (gW M.out hb');go_roundw
      case rel=>exact⟨j+1,by omega,by go_num,WZ⟩
      case measure=>simp[intOf];omega
    ·obtain rfl:j=y.n3:=by omega
     have HBE:=gO (gW HB.out M.out);go_wp2
     go_ret
     exact⟨rfl,HBE.out⟩
section
variable {W W' W1 W2:World}{G:Nat}{X Y:Nat->Prop}{s s':Sy}{v v':Sc}
theorem SS.aKd (hs:SS W G X s v)(hb:Below W.heap.size W W1)(hn:lN W1 W.heap.size h' hc'):
 SS (((((W1.setCell ⟨G,1,aJ⟩ (aA hc'.az 2 hc'.cz)).setCell ⟨G,2,aJ⟩ (aA hc'.am 2 hc'.cm)).setCell ⟨G,3,aJ⟩ (aB aI (h'.aP:Int))).setCell ⟨G,4,aJ⟩ (aA hc'.al hc'.lc.length hc'.cl)).setCell ⟨G,5,aJ⟩ (aA hc'.av h'.live.length hc'.cv)) G X {s with h:=h'} {v with hc:=hc'}/\Safe X W (((((W1.setCell ⟨G,1,aJ⟩ (aA hc'.az 2 hc'.cz)).setCell ⟨G,2,aJ⟩ (aA hc'.am 2 hc'.cm)).setCell ⟨G,3,aJ⟩ (aB aI (h'.aP:Int))).setCell ⟨G,4,aJ⟩ (aA hc'.al hc'.lc.length hc'.cl)).setCell ⟨G,5,aJ⟩ (aA hc'.av h'.live.length hc'.cv)):=by
 have g:=hs.r.heap hb hn;have b:=aQ hs.k hs.r.hr.gs hb;have c:=aU hs.fz hs.r.hr.gs hb;have d:=aW b 1 (aA hc'.az 2 hc'.cz);have e:=aV c ⟨G,1,aJ⟩ (aA hc'.az 2 hc'.cz);have n:=aW d 2 (aA hc'.am 2 hc'.cm);have j:=aV e ⟨G,2,aJ⟩ (aA hc'.am 2 hc'.cm);have i:=aW n 3 (aB aI (h'.aP:Int));have f:=aV j ⟨G,3,aJ⟩ (aB aI (h'.aP:Int));have l:=aW i 4 (aA hc'.al hc'.lc.length hc'.cl);have o:=aV f ⟨G,4,aJ⟩ (aA hc'.al hc'.lc.length hc'.cl);have a:=aW l 5 (aA hc'.av h'.live.length hc'.cv);have m:=aV o ⟨G,5,aJ⟩ (aA hc'.av h'.live.length hc'.cv);unfold Sc.vals at a;simp only[gE,gG,gH]at a;exact⟨⟨(((((g.iQ 1 _).iQ 2 _).iQ 3 _).iQ 4 _).iQ 5 _),a,m⟩,((((((Safe.jT hb).set hs.r.hr.xg 1 _).set hs.r.hr.xg 2 _).set hs.r.hr.xg 3 _).set hs.r.hr.xg 4 _).set hs.r.hr.xg 5 _)⟩
end
theorem Zp {α:Type}{q:α->Bool}:∀{l:List α},(∀i j (hi:i<l.length) (hj:j<l.length),i<j->q l[j]=true->q l[i]=true)->∀k (hk:k<l.length),k<(l.takeWhile q).length↔q l[k]=true
 | [],_,k,hk=>by simp at hk
 | a::l,h,k,hk=>by
  by_cases ha:q a=true
  ·rw[List.takeWhile_cons_of_pos ha];cases k with
   | zero=>simpa using ha
   | succ k=>
    have ih:=Zp (l:=l) (λi j hi hj c b=>h (i+1) (j+1) (by simpa using hi) (by simpa using hj) (by omega) b) k (by simpa using hk);simpa using ih
  ·rw[List.takeWhile_cons_of_neg ha];cases k with
   | zero=>simpa using ha
   | succ k=>
    simp only[List.length_nil,Nat.not_lt_zero,false_iff,List.getElem_cons_succ];intro b;exact ha (h 0 (k+1) (by simp) hk (by omega) b)
theorem aBs {l:List (List UInt8)}{v:List UInt8}(hl:l.Pairwise λa b=>Go.Op.bytesLess a b=true)(hk:k<l.length):k<Df l v↔Go.Op.bytesLess l[k] v=true:=
 Zp (q:=λx=>Go.Op.bytesLess x v) (λi j f e c d=>EM (gN.1 hl i j f e c) d) k hk
theorem Zq (l:List (List UInt8))(v:List UInt8):Df l v<=l.length:=(List.takeWhile_sublist _).length_le
theorem VW {x y:List UInt8}(w:World)(h:Go.Op.bytesLess x y=b):(binOp .lss 9 (aF ⟨x.toArray⟩) (aF ⟨y.toArray⟩)).run prog w= .ok (.bool b) w:=by
 simp[binOp,Go.Op.stringOp];exact h
theorem Jh (x:List UInt8)(w:World):(binOp .neq 9 (aF ⟨x.toArray⟩) (aF ⟨x.toArray⟩)).run prog w= .ok (.bool false) w:=by
 simp[binOp,Go.Op.stringOp]
theorem aBt (x:List UInt8)(w:World):Calls prog 150 #[aF ⟨x.toArray⟩] w λev w'=>ev=aN (.bool false)/\w=w':=by
 have h:=Jh x w;go_enter func150,ntmps150
 go_wp2
 go_ret
 exact⟨rfl,rfl⟩
theorem TT (x:List UInt8)(w:World):Calls prog 131 #[aF ⟨x.toArray⟩] w λev w'=>ev=aN (.bool false)/\w=w':=by
 have h:=Jh x w;go_enter func131,ntmps131
 go_wp2
 go_ret
 exact⟨rfl,rfl⟩
theorem OQ (x y:List UInt8)(w:World):Calls prog 130 #[aF ⟨x.toArray⟩,aF ⟨y.toArray⟩] w λev w'=>ev=aN (.bool (Go.Op.bytesLess x y))/\w=w':=by
 have h:=VW (x:=x) (y:=y) w rfl;go_enter func130,ntmps130
 go_wp2_with (go_at_call 150;refine(aBt x _).mono ?_;rintro ev w' ⟨rfl,rfl⟩)
 go_ret
 exact⟨rfl,rfl⟩
def aKE (l:List (List UInt8))(v:List UInt8)(w:World)(e:Ending)(w':World):Prop:=∃b:Bool,e=aN (aG #[aB aI (Df l v:Int),.bool b])/\w=w'
theorem aBu (a:Option Addr)(n cap:Nat)(l:List (List UInt8))(v:List UInt8)(w:World)(hn:l.length=n)(hl:n<=1000)(hr:Row w a (flat encS l))(hrise:l.Pairwise λa b=>Go.Op.bytesLess a b=true):
 Calls prog 101 #[aA a n cap,aF ⟨v.toArray⟩] w (aKE l v w):=by
 subst hn;have s:=Zq l v;go_enter func101,ntmps101
 go_wp2
 go_loopw [7,8,9] (λr p _ wr=>wr=w/\∃i j:Nat,i<=Df l v/\Df l v<=j/\j<=l.length/\r=aB aI i/\p=aB aI j) (λr p _ _=>(intOf p).toNat-(intOf r).toNat)
 case atStart=>exact⟨rfl,0,l.length,gU _,s,gT _,rfl,rfl⟩
 case round=>
  obtain⟨rfl,i,j,C,x,E,rfl,rfl⟩:=hrel;by_cases u:i<j
  ·have t:(i+j)/2<l.length:=by omega
   have d:=gO (aBs hrise (v:=v) t);obtain⟨b,off,rfl,hb,g⟩:=aZ bW (by decide) hr t;have e:=qO g;rw[Nat.mul_one]at e;clear hr g;generalize l[(i+j)/2]=y at*;cases hb2:Go.Op.bytesLess y v with
   | true=>
    have B:=d.out.2 hb2;have f:=gO (OQ y v wr);rw[hb2]at f;clear hb2;go_wp2_with (go_at_call 130;refine f.out.mono ?_;rintro q o ⟨rfl,rfl⟩)
    go_roundw
    case rel=>exact⟨by first | rfl | trivial,(i+j)/2+1,j,by omega,x,E,by go_num,rfl⟩
    case measure=>simp[intOf];omega
   | false=>
    have B:¬(i+j)/2<Df l v:=λh=>by rw[d.out.1 h]at hb2;cases hb2
    have f:=gO (OQ y v wr);rw[hb2]at f;clear hb2;go_wp2_with (go_at_call 130;refine f.out.mono ?_;rintro q o ⟨rfl,rfl⟩)
    go_roundw
    case rel=>exact⟨by first | rfl | trivial,i,(i+j)/2,C,by omega,by omega,rfl,by go_num⟩
    case measure=>simp[intOf];omega
  ·obtain rfl:i=Df l v:=by omega
   have z:(Df l v:Int)<=l.length:=by omega
   by_cases A:Df l v<l.length
   ·obtain⟨b,off,rfl,hb,g⟩:=aZ bW (by decide) hr A;have e:=qO g;rw[Nat.mul_one]at e;have m:(Df l v:Int)<l.length:=by omega
    clear hr g;generalize l[Df l v]=y at*;generalize c:Df l v=K at*;have k:=gO c;clear c;cases hvx:y == v with
    | true=>
     have D:=(bytes_eq y v).trans hvx;go_wp2_with (go_at_call 131;refine(TT _ _).mono ?_;rintro q o ⟨rfl,rfl⟩)
     exact bodyPost_ret (v:=aG #[aB aI (K:Int),.bool true]) (by simp[results,results101,go_sem]) rfl ⟨true,by rw[k.out],rfl⟩
    | false=>
     have D:=(bytes_eq y v).trans hvx;go_wp2_with (go_at_call 131;refine(TT _ _).mono ?_;rintro q o ⟨rfl,rfl⟩)
     exact bodyPost_ret (v:=aG #[aB aI (K:Int),.bool false]) (by simp[results,results101,go_sem]) rfl ⟨false,by rw[k.out],rfl⟩
   ·have m:¬(Df l v:Int)<l.length:=by omega
    clear hr;generalize c:Df l v=K at*;have k:=gO c;clear c;go_wp2
    exact bodyPost_ret (v:=aG #[aB aI (K:Int),.bool false]) (by simp[results,results101,go_sem]) rfl ⟨false,by rw[k.out],rfl⟩
section
variable {W W' W1 W2:World}{G:Nat}{X Y:Nat->Prop}{s s':Sy}{v v':Sc}
theorem SS.aEb (hs:SS W G X s v)(hi:i<v.ys.length){y:Cc}(hy:v.ys[i]=y){l':List (List UInt8)}(hown:W2.ownsRow 0 9 1 (aA a' n' c') n' (flat encS l'))(hg:W.grownBy W2 (tV y).v.ownBlock)
 (hl:∀k,(aA a' n' c').ownBlock=aK k->(tV y).v.ownBlock=aK k∨W.heap.size<=k) {gc:Nat} (hgc:v.a2=aK ⟨gc,0,aJ⟩):
 ∃v',SS (W2.setCell ⟨gc,i*6,aJ⟩ (aA a' n' c')) G X (s.fO i {y.c with ns:=l'}) v'/\Safe X W (W2.setCell ⟨gc,i*6,aJ⟩ (aA a' n' c'))/\v'.a2=v.a2:=by
 subst hy;have h:=hs.aFP hi hown hg hl hgc;exact⟨_,h.1,h.2,rfl⟩
theorem SR.aG7 (hs:SR W G X s v)(hi:i<v.ys.length){y:Cc}(hy:v.ys[i]=y)(hgc:v.a2=aK ⟨gc,0,aJ⟩):(tV y).v.ownBlock≠aK gc:=λe=>by
 subst hy;have h:=(hs.QO hi).off (i:=1) (j:=2) (by simp) (by simp) (by decide) gc (by show(oD v).v.ownBlock=_;unfold oD;rw[hgc];rfl);exact h e
end
theorem pF {z:Zn}{n:Nat}(h:z.ok)(hd:∀q,p<=q->q<p+n->¬fJ z.l q)(hp:z.f<=p)(hn:p+n<=z.e):∀i,i<=n->(fH z p i).ok/\(fH z p i).f=z.f/\(fH z p i).e=z.e/\∀q,fJ (fH z p i).l q↔(fJ z.l q∨(p<=q/\q<p+i))
 | 0,_=>⟨h,rfl,rfl,λq=>by
  show fJ z.l q↔_;constructor
  ·exact .inl
  ·rintro(h | h)
   ·exact h
   ·omega⟩
 | i+1,hi=>by
  obtain⟨g1,g2,g3,g4⟩:=pF h hd hp hn i (by omega);have a:dM (fH z p i).f (fH z p i).e (p+i) 0:=by rw[g2,g3];exact⟨by omega,by omega,by omega,by simp[Nat.mod_one]⟩
  have c:∀x∈(fH z p i).l,apartB (p+i) 0 x:=λx g=>dU λq d b=>by
   unfold inB at d;simp only[Nat.pow_zero]at d;rcases(g4 q).1 ⟨x,g,b⟩with h1 | h1
   ·exact hd q (by omega) (by omega) h1
   ·omega
  obtain⟨k1,k2⟩:=Zn.uM g1 a c;refine⟨k1,g2,g3,λq=> ?_⟩;show fJ ((fH z p i).back (p+i) 0).l q↔_;rw[k2,g4];unfold inB;simp only[Nat.pow_zero,or_assoc];constructor
  ·rintro(h | h | h)
   ·exact .inl h
   ·exact .inr (by omega)
   ·exact .inr (by omega)
  ·rintro(h | h)
   ·exact .inl h
   ·exact .inr (by omega)
theorem RQ {z:Zn}{n:Nat}(h:z.ok)(hd:∀q,p<=q->q<p+n->¬fJ z.l q)(hp:z.f<=p)(hn:p+n<=z.e)(hi:i<n):dM (fH z p i).f (fH z p i).e (p+i) 0/\∀x∈(fH z p i).l,apartB (p+i) 0 x:=by
 obtain⟨k,d,j,c⟩:=pF h hd hp hn i (by omega);refine⟨by rw[d,j];exact⟨by omega,by omega,by omega,by simp[Nat.mod_one]⟩,λx g=>dU λq b a=> ?_⟩;unfold inB at b;simp only[Nat.pow_zero]at b;rcases(c q).1 ⟨x,g,a⟩with h1 | h1
 ·exact hd q (by omega) (by omega) h1
 ·omega
section
variable {W W' W1 W2:World}{G:Nat}{X Y:Nat->Prop}{s s':Sy}{v v':Sc}
theorem SR.wAt (hs:SR W G X s v){a:Nat}(ha:a<s.w.length):∃g,v.a1=aK ⟨g,0,aJ⟩/\g<W.heap.size/\g≠G/\¬X g/\W.cell? ⟨g,a,aJ⟩=aK (vI s.w[a])/\W.frozen? ⟨g,a,aJ⟩=false:=by
 have e:(vS v s).on W 0:=hs.own.each _ (pY v s);have d:a<(vS v s).xs.length:=by show a<(s.w.map vI).length;rw[gTe];exact ha
 obtain⟨g,b,_,h,j,i⟩:=oI e a d;have c:=hs.og _ (pY v s) g (by show(vS v s).v.ownBlock=_;unfold vS;rw[b];rfl);refine⟨g,b,h,c.1,c.2,?_,i⟩;rw[j];have f:(s.w.map vI)[a]? =aK (vI s.w[a]):=by rw[List.getElem?_map,gJ ha];rfl
 rw[<- f];exact(gJ d).symm
theorem SS.setW (hs:SS W G X s v)(hg:v.a1=aK ⟨g,0,aJ⟩)(a:Nat)(u:Int):
 SS (W.setCell ⟨g,a,aJ⟩ (vI u)) G X {s with w:=s.w.set a u} v/\Safe X W (W.setCell ⟨g,a,aJ⟩ (vI u)):=by
 have hb:(vS v s).v.ownBlock=aK g:=by unfold vS;rw[hg];rfl
 have f:=hs.r.og _ (pY v s) g hb;have k:=hs.r.own.cell (i:=0) (by simp[Sc.rows]) (g:=g) (c:=v.c1) (by show(vS v s).v=_;unfold vS;rw[hg];rfl) a (vI u) rfl;have h:({vS v s with xs:=(vS v s).xs.set a (vI u)}:Rs)=vS v {s with w:=s.w.set a u}:=by
  unfold vS;simp only[List.map_set]
 have k2:dY (W.setCell ⟨g,a,aJ⟩ (vI u)) 0 (v.rows {s with w:=s.w.set a u}):=by
  have l:v.rows {s with w:=s.w.set a u}=vS v {s with w:=s.w.set a u}::oD v::v.ys.flatMap iU:=rfl;rw[l,<- h];exact k
 have j:=hs.r.step (s':={s with w:=s.w.set a u}) (v':=v) (hs.r.Ej (pY v s) hb a (vI u)) rfl rfl k2 (λr b m d=> .inl (by
  rcases gY.1 b with rfl | b
  ·exact⟨vS v s,pY v s,d⟩
  ·exact⟨r,List.mem_cons_of_mem _ b,d⟩)) hs.r.cy
 have e:=hs.Yh f.1 a (vI u);exact⟨⟨j,e.1,e.2⟩,(Safe.refl X W).set f.2 a (vI u)⟩
theorem SS.aHv (hs:SS W G X s v)(hi:i<v.ys.length){y:Cc}(hy:v.ys[i]=y)(hg:y.a2=aK ⟨g,0,aJ⟩)(hk:k<y.c.sl.length){gw:Nat}(hgw:v.a1=aK ⟨gw,0,aJ⟩)(a:Nat)(u h':Int){n':Nat}:
 SS (((W.setCell ⟨gw,a,aJ⟩ (vI u)).setCell ⟨g,k*3+2,aJ⟩ (vI h')).setCell ⟨g,k*3+1,aJ⟩ (vI n')) G X {s with w:=s.w.set a u,cs:=s.cs.set i {y.c with sl:=y.c.sl.set k ⟨y.c.sl[k].p,n',h'⟩}} (v.fA i {y with c:={y.c with sl:=y.c.sl.set k ⟨y.c.sl[k].p,n',h'⟩}})/\
 Safe X W (((W.setCell ⟨gw,a,aJ⟩ (vI u)).setCell ⟨g,k*3+2,aJ⟩ (vI h')).setCell ⟨g,k*3+1,aJ⟩ (vI n')):=by
 subst hy;have l:=hs.setW hgw a u;have h:=l.1.Tq hi hg hk (x':=⟨v.ys[i].c.sl[k].p,v.ys[i].c.sl[k].n,h'⟩) (j:=2) (by decide) (u:=vI h') rfl rfl;have e:i<(v.fA i {v.ys[i]with c:={v.ys[i].c with sl:=v.ys[i].c.sl.set k ⟨v.ys[i].c.sl[k].p,v.ys[i].c.sl[k].n,h'⟩}}).ys.length:=by
  unfold Sc.fA;simpa using hi
 have d:(v.fA i {v.ys[i]with c:={v.ys[i].c with sl:=v.ys[i].c.sl.set k ⟨v.ys[i].c.sl[k].p,v.ys[i].c.sl[k].n,h'⟩}}).ys[i]={v.ys[i]with c:={v.ys[i].c with sl:=v.ys[i].c.sl.set k ⟨v.ys[i].c.sl[k].p,v.ys[i].c.sl[k].n,h'⟩}}:=by simp[Sc.fA]
 have f:=h.1.Tq e (g:=g) (by rw[d];exact hg) (k:=k) (by rw[d];simpa using hk) (x':=⟨v.ys[i].c.sl[k].p,n',h'⟩) (j:=1) (by decide) (u:=vI n') (by
  simp only[d,List.getElem_set_self];rfl) rfl
 have m:=f.1;rw[d]at m;have q:(({s with w:=s.w.set a u}:Sy).fO i {v.ys[i].c with sl:=v.ys[i].c.sl.set k ⟨v.ys[i].c.sl[k].p,v.ys[i].c.sl[k].n,h'⟩}).fO i {v.ys[i].c with sl:=(v.ys[i].c.sl.set k ⟨v.ys[i].c.sl[k].p,v.ys[i].c.sl[k].n,h'⟩).set k ⟨v.ys[i].c.sl[k].p,n',h'⟩}={s with w:=s.w.set a u,cs:=s.cs.set i {v.ys[i].c with sl:=v.ys[i].c.sl.set k ⟨v.ys[i].c.sl[k].p,n',h'⟩}}:=by
  unfold Sy.fO;simp only[List.set_set]
 have o:(v.fA i {v.ys[i]with c:={v.ys[i].c with sl:=v.ys[i].c.sl.set k ⟨v.ys[i].c.sl[k].p,v.ys[i].c.sl[k].n,h'⟩}}).fA i {v.ys[i]with c:={v.ys[i].c with sl:=(v.ys[i].c.sl.set k ⟨v.ys[i].c.sl[k].p,v.ys[i].c.sl[k].n,h'⟩).set k ⟨v.ys[i].c.sl[k].p,n',h'⟩}}=v.fA i {v.ys[i]with c:={v.ys[i].c with sl:=v.ys[i].c.sl.set k ⟨v.ys[i].c.sl[k].p,n',h'⟩}}:=by
  unfold Sc.fA;simp only[List.set_set]
 have b:=m;simp only at b;rw[q,o]at b;exact⟨b,(l.2.trans h.2).trans f.2⟩
end
structure Rw where
 k:Int
 a:Int
 b:Int
 c:Int
def yQ (r:Rw):List Value:=[vI r.k,vI r.a,vI r.b,vI r.c]
theorem vG (r:Rw):(yQ r).length=4:=rfl
theorem Qb {b o:Nat}{r:Rw}(hc:∀i v,(yQ r)[i]? =aK v->w.cell? ⟨b,o+i,aJ⟩=aK v):w.cell? ⟨b,o,aJ⟩=aK (aB aI r.k)/\w.cell? ⟨b,o+1,aJ⟩=aK (aB aI r.a)/\w.cell? ⟨b,o+2,aJ⟩=aK (aB aI r.b)/\w.cell? ⟨b,o+3,aJ⟩=aK (aB aI r.c):=⟨hc 0 _ rfl,hc 1 _ rfl,hc 2 _ rfl,hc 3 _ rfl⟩
def in64 (x:Int):Prop:= -9223372036854775808<=x/\x<=9223372036854775807
def Rw.wf (r:Rw):Prop:=in64 r.k/\in64 r.a/\in64 r.b/\in64 r.c
theorem vT.aAh {d:Hp}(hp:vT h0 d [])(hd:d.ls=[])(hk0:fG h0)(hl:h0.ls=[])(hv:h0.live=[]):d.live=[]/\∀i,i<2->(d.zone i).l.map iZ=(h0.zone i).l.map iZ:=by
 have q:d.live=[]:=by
  have c:=hp.lv.length_eq;simp only[List.map_nil,List.length_nil,gTe]at c;exact List.eq_nil_of_length_eq_zero c.symm
 refine⟨q,λi x=> ?_⟩;have k:∀p,cnt d.z0.l p+cnt d.z1.l p=cnt h0.z0.l p+cnt h0.z1.l p:=λp=>by
  have c:=hp.cn p;rw[dO,dO,hd,hl,q,hv]at c;simpa[lsB,cnt]using c
 have r:=hp.same.split;have a:=hp.ok;have lo:∀{g:Hp},fG g->∀p,fJ g.z0.l p->p<g.z0.e:=fun{g} m p ⟨b,hb,hp⟩=>by
  have c:=(m.o0.2.fit b hb).1;have j:=vY m.o0.1.e16 c;unfold inB at hp;omega
 have s:∀{g:Hp},fG g->∀p,fJ g.z1.l p->g.z0.e<=p:=fun{g} m p ⟨b,hb,hp⟩=>by
  have c:=(m.o1.2.fit b hb).1;have j:=c.2.1;rw[m.e0];unfold inB at hp;omega
 have e0:∀p,fJ d.z0.l p↔fJ h0.z0.l p:=λp=>by
  have c:=k p;rw[<- eG,<- eG];have t:=λh=>lo a p (eG.1 h)
  have u:=λh=>s a p (eG.1 h)
  have v:=λh=>lo hk0 p (eG.1 h)
  have w:=λh=>s hk0 p (eG.1 h)
  rw[r]at t u;constructor <;> intro h <;> omega
 have e1:∀p,fJ d.z1.l p↔fJ h0.z1.l p:=λp=>by
  have c:=k p;rw[<- eG,<- eG];have t:=λh=>lo a p (eG.1 h)
  have u:=λh=>s a p (eG.1 h)
  have v:=λh=>lo hk0 p (eG.1 h)
  have w:=λh=>s hk0 p (eG.1 h)
  rw[r]at t u;constructor <;> intro h <;> omega
 rcases(show i=0∨i=1 by omega)with rfl | rfl
 ·have c:=a.o0;have j:=hk0.o0;have o:=c.2;rw[a.f0,r]at o;have n:=j.2;rw[hk0.f0]at n;exact Dc (f:=0) (e:=h0.z0.e) (by decide) j.1.e16 o n e0
 ·have c:=a.o1;have j:=hk0.o1;have o:=c.2;rw[<- a.e0,a.e1,r]at o;have n:=j.2;rw[<- hk0.e0,hk0.e1]at n;exact Dc (f:=h0.z0.e) (e:=256) (by rw[hk0.e0];exact j.1.f16) (by decide) o n e1
theorem HAt.zcA {W:World}{az am al av:Option Addr}{nl nv:Nat}{y0 y1:Zc}{lc:List Lc}(hh:HAt W az am al av nl nv y0 y1 lc h)(hi:i<2):
 ∃(b off:Nat) (y:Zc),az=aK ⟨b,off,aJ⟩/\b<W.heap.size/\(W.cell? ⟨b,off+i*4,aJ⟩=aK (aB aI (h.zone i).f)/\W.cell? ⟨b,off+i*4+1,aJ⟩=aK (aB aI (h.zone i).e)/\W.cell? ⟨b,off+i*4+2,aJ⟩=aK (aA y.a1 y.n1 y.c1)/\W.cell? ⟨b,off+i*4+3,aJ⟩=aK (aA y.a2 y.n2 y.c2))/\IJ W y.a1 y.a2 y.n1 y.n2 (h.zone i):=by
 obtain⟨b,off,d,c,g⟩:=aZ iV (by decide) hh.zr (j:=i) (by simpa using hi);have a:=lK g;rcases(show i=0∨i=1 by omega)with rfl | rfl
 ·simp only[List.getElem_cons_zero,hh.e0]at a;exact⟨b,off,y0,d,c,a,hh.t0⟩
 ·simp only[List.getElem_cons_succ,List.getElem_cons_zero,hh.e1]at a;exact⟨b,off,y1,d,c,a,hh.t1⟩
theorem aCc (x y:Bk)(w:World)(h:iZ x=iZ y):
 Calls prog 25 #[aC #[aB aI x.a,aB aI x.o,aB aI x.t],aC #[aB aI y.a,aB aI y.o,aB aI y.t]] w λev w'=>ev=aN (.bool true)/\Below w.heap.size w w':=by
 unfold iZ at h;simp only[Prod.mk.injEq]at h;obtain⟨e,d⟩:=h;obtain⟨c,f,i⟩:=x;obtain⟨n,q,g⟩:=y;simp only at e d;subst e d;obtain⟨k,m,l,p,j,b⟩:=boxes2 w #[aB aI (c:Int),aB aI (f:Int),aB aI (i:Int)] 82 #[aB aI (c:Int),aB aI (f:Int),aB aI (g:Int)] 82;go_enter func25,ntmps25
 go_wp2
 go_ret
 exact⟨rfl,b⟩
theorem JA (a a2:Option Addr)(n1 n2 c1 c2:Nat)(xs ys:List Bk)(w:World)(e1:xs.length=n1)(e2:ys.length=n2)(hl:n1<=1000)(hr:Row w a (flat bC xs))(hr2:Row w a2 (flat bC ys))(hk:xs.map iZ=ys.map iZ):
 Calls prog 24 #[aA a n1 c1,aA a2 n2 c2,.func (.func 25) #[] #[]] w λev w'=>ev=aN (.bool true)/\Below w.heap.size w w':=by
 obtain rfl:n1=n2:=by rw[<- e1,<- e2];simpa using congrArg List.length hk
 have I:∀c w,(callFunc 25 c).run prog w= .ok (.enter 25 c) w:=enters_of func25 (by kernel_rfl) rfl;go_enter func24,ntmps24
 go_wp2
 go_loopw [7,17] (λ_ f wr=>∃k:Nat,k<=n1/\f=aB aI (k:Int)/\Hid (Below w.heap.size w wr)) (λ_ f _=>n1-(intOf f).toNat)
 case atStart=>exact⟨0,gU _,rfl,gX _ _⟩
 case round=>
  obtain⟨k,s,rfl,hb⟩:=hrel;by_cases u:k<n1
  ·have p:k<xs.length:=by omega
   have m:k<ys.length:=by omega
   obtain⟨b,off,rfl,D,q⟩:=aZ aX (by decide) (hr.below hb.out) p;obtain⟨z,H,E⟩:=bZ q;obtain⟨J,n,rfl,B,h⟩:=aZ aX (by decide) (hr2.below hb.out) m;obtain⟨G,C,r⟩:=bZ h;have d:iZ xs[k]=iZ ys[k]:=by
    have i:(xs.map iZ)[k]? =aK (iZ xs[k]):=by simp[p]
    rw[hk]at i;have v:(ys.map iZ)[k]? =aK (iZ ys[k]):=by simp[m]
    rw[v]at i;exact(gP i).symm
   have F:=gO d;clear hr hr2 q h d hk;generalize xs[k]=x at*;generalize ys[k]=y at*;have K:(k:Int)<n1:=by omega
   have g:=aT wr (aO #[aB aI (x.a:Int),aB aI (x.o:Int),aB aI (x.t:Int)] 82);have l:=aT (wr.alloc (aO #[aB aI (x.a:Int),aB aI (x.o:Int),aB aI (x.t:Int)] 82)) (aO #[aB aI (y.a:Int),aB aI (y.o:Int),aB aI (y.t:Int)] 82);have A:=gO (gW hb.out (gW g l));clear g l;go_wp2_with (go_at_fn 25;refine(aCc x y _ F.out).mono ?_;rintro e w' ⟨rfl,j⟩)
   go_roundw
   case rel=>exact⟨k+1,by omega,by go_num,gW A.out j⟩
   case measure=>simp[intOf];omega
  ·obtain rfl:k=n1:=by omega
   go_wp2
   go_ret
   exact⟨rfl,hb.out⟩
section
open Go.ChangeShapes Go.WideShapes Go.ChangeAt Go.RowKit
theorem WT {P:Program}{f:FuncId}{fn:Func}{s:ChangeSpec}{c:OpenClaim}
 (h1:c.wf (OpenSpec.ofChange s)=true) (h2:laidOutB P=true) (h3:mapsRowed P=true) (h4:fn.params.all (P.readableRec ·)=true) (h5:namedTie P c.named s.vars=true)
 (h6:(c.stops == [])=true) (h7:(P.stops == [])=true) (h8:(c.knobs == [])=true) (h9:(P.stopKnobs == [])=true)
 (h10:(c.inPlace == P.inPlace f)=true) (h11:(c.unfollowed == P.unfollowed f)=true) (h12:(c.recurses == P.recurses f)=true) (h13:(c.named == P.varsNamed f)=true)
 (h14:(c.maps == (fn.params.toList++s.plain.varTypes P).any (P.mapsRec ·))=true) (h15:(c.ifaces == (fn.params.toList++s.plain.varTypes P).any (P.ifacesRec ·))=true) (h16:(c.mapsOut == P.mapsAmong fn.resultTypes.toList)=true)
 (h17:(c.loops == (fn.params.toList++s.plain.varTypes P).any (P.loopsFrom ·))=true) (h18:(c.wideKeys == (fn.params.toList++s.plain.varTypes P++fn.resultTypes.toList).any (P.wideKeysFrom ·))=true)
 (h19:s.vars.all (P.varReadable ·)=true) (h20:fn.resultTypes.all (λt=>P.readableRec t&&decide (t<P.types.size))=true) (h21:(c.ifacesOut == fn.resultTypes.toList.any (P.ifacesRec ·))=true) (h22:(c.loopsOut == fn.resultTypes.toList.any (P.loopsFrom ·))=true) (h23:(c.plainKeys == P.plainKeys)=true) (h24:c.shortTexts.isNone=true) (h25:P.stopsHeard=true) (h26:P.mayEnter=true) (h27:(c.lifted == P.liftsFinal)=true) (h28:(P.make ==aK c.make)=true)
 (h29:(c.kinds == (if c.domain.isEmpty then[]else fn.params.toList.map λt=>match P.underlying t with | some (.int k)=>aK k | _=>aJ))=true) (h30:(c.pinned == c.pinnedBy)=true)
 (h31:(c.veiled == (fn.params.toList++s.plain.varTypes P++fn.resultTypes.toList).any (P.veiledRec ·))=true) (h32:c.veiledFits P fn.params.toList (fn.params.toList++s.plain.varTypes P++fn.resultTypes.toList)=true):joinedFacts P f fn s c=true:=by
 unfold joinedFacts;simp only[Bool.and_eq_true];exact⟨⟨⟨⟨⟨⟨⟨⟨⟨⟨⟨⟨⟨⟨⟨⟨⟨⟨⟨⟨⟨⟨⟨⟨⟨⟨⟨⟨⟨⟨⟨h1,h2⟩,h3⟩,h4⟩,h5⟩,h6⟩,h7⟩,h8⟩,h9⟩,h10⟩,h11⟩,h12⟩,h13⟩,h14⟩,h15⟩,h16⟩,h17⟩,h18⟩,h19⟩,h20⟩,h21⟩,h22⟩,h23⟩,h24⟩,h25⟩,h26⟩,h27⟩,h28⟩,h29⟩,h30⟩,h31⟩,h32⟩
theorem aIg:mapsRowed prog=true:=by kernel_rfl
theorem aEG:prog.stopsHeard=true:=by kernel_rfl
theorem aEH:prog.mayEnter=true:=by kernel_rfl
theorem aEI:(Rows.systemGoodRow.lifted == prog.liftsFinal)=true:=by kernel_rfl
theorem aIh:(prog.make ==aK Rows.systemGoodRow.make)=true:=by kernel_rfl
theorem aIi:(Rows.systemGoodRow.plainKeys == prog.plainKeys)=true:=by kernel_rfl
end
end Go.Proofs.YtjaogfhcnmjkiaaGreatDoor
