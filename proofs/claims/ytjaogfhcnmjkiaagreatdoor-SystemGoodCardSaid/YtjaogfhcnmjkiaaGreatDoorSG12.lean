/- joined. -/
import Derived.Test.YtjaogfhcnmjkiaaGreatDoorSG11
set_option linter.all false
set_option maxRecDepth 100000
set_option maxHeartbeats 0
namespace Go.Proofs.YtjaogfhcnmjkiaaGreatDoor
open Go.RowKit
open Go.Value renaming slice->aA,int->aB,agg->aC,string->aF,tuple->aG,pointer->aH,ownBlock->gTh
open Go.IntKind renaming i64->aI
open Option renaming none->aJ,some->aK
open Go.Ending renaming returned->aN
open Go.Obj renaming cells->aO
open Go.Proofs.Tryz
variable {a:Int}{c:Ca}{cpu i k p:Nat}{l w:List Int}{s s':Sy}{x:Sl}
theorem rG:∀{l m:List Int},l.Nodup->(∀a∈l,a∈m)->l.length<=m.length
 | [],_,_,_=>gU _
 | a::l,m,hd,hs=>by
  rw[List.nodup_cons]at hd;have h1:=hs a (by simp);have c:=rG (l:=l) (m:=m.erase a) hd.2 λb hb=>(List.mem_erase_of_ne (λe=>hd.1 (by rw[<- e];exact hb))).2 (hs b (List.mem_cons_of_mem _ hb))
  rw[List.length_erase_of_mem h1]at c;have d:=List.length_pos_of_mem h1;simp only[List.length_cons];omega
theorem XJ {z r:Nat}:a∈objs p z r↔∃j,j<r/\a=((p+j*z:Nat):Int):=by
 unfold objs;simp only[List.mem_map,List.mem_range];constructor
 ·rintro⟨j,b,e⟩;exact⟨j,b,e.symm⟩
 ·rintro⟨j,b,e⟩;exact⟨j,b,e.symm⟩
theorem BN (hz:1<=c.z):iC c p a=true↔a∈objs (16*p) c.z c.r:=by
 rw[XJ];constructor
 ·intro h;obtain⟨f,l,b⟩:=jV h;obtain⟨d,g⟩:∃d:Nat,a-16*p=d:=⟨(a-16*p).toNat,by omega⟩
  rw[g]at b;have e:d%c.z=0:=by exact_mod_cast b
  have m:d<c.r*c.z:=by
   have:((d:Nat):Int)<((c.r*c.z:Nat):Int):=by push_cast;omega
   omega
  have i:d/c.z*c.z=d:=Nat.div_mul_cancel (Nat.dvd_of_mod_eq_zero e);refine⟨d/c.z,Nat.div_lt_of_lt_mul (by rw[Nat.mul_comm];exact m),?_⟩;rw[i]
  push_cast
  omega
 ·rintro⟨j,k,rfl⟩;unfold iC;simp only[decide_eq_true_eq];have f:((16*p+j*c.z:Nat):Int)-16*(p:Int)=(j:Int)*c.z:=by push_cast;omega
  rw[f];have l:(j:Int)*c.z=((j*c.z:Nat):Int):=by push_cast;rfl
  have b:(c.r:Int)*c.z=((c.r*c.z:Nat):Int):=by push_cast;rfl
  have e:j*c.z<c.r*c.z:=Nat.mul_lt_mul_of_pos_right k hz;exact⟨by omega,by omega,Int.mul_emod_left _ _⟩
theorem QG {z r:Nat}(hz:1<=z):(objs p z r).Nodup:=by
 unfold objs List.Nodup;rw[List.pairwise_map];refine List.Pairwise.imp ?_ (List.pairwise_lt_range (n:=r));intro a b c e;have f:p+a*z=p+b*z:=by exact_mod_cast e
 have d:a*z<b*z:=Nat.mul_lt_mul_of_pos_right c hz;omega
theorem IV (hz:1<=c.z)(hd:l.Nodup)(ho:∀a∈l,iC c p a=true):l.length<=c.r:=by
 have h:=rG hd λa b=>(BN hz).1 (ho a b)
 rwa [qM]at h
theorem IW {c:Ca}{p:Nat}{l:List Int}(hz:1<=c.z)(hd:l.Nodup)(ho:∀a∈l,iC c p a=true)(hl:c.r<=l.length){a:Int}(h:iC c p a=true):a∈l:=by
 apply Decidable.byContradiction;intro e;have d:=IV (l:=a::l) hz (List.nodup_cons.2 ⟨e,hd⟩) λb hb=>by
  rcases gY.1 hb with rfl | hb
  ·exact h
  ·exact ho b hb
 simp only[List.length_cons]at d;omega
theorem UY (hz:1<=c.z)(hl:l.length<c.r):∃a,iC c p a=true/\a∉l:=by
 apply Classical.byContradiction;intro f;have e:∀a∈objs (16*p) c.z c.r,a∈l:=λa b=>Decidable.byContradiction λh=>f ⟨a,(BN hz).2 b,h⟩
 have d:=rG (QG hz) e;rw[qM]at d;omega
def mX (w:List Int)(c:Ca)(x:Sl)(a:Int):Prop:=iC c x.p a=true/\∀l,follow w x.h c.r=aK l->a∉l
def Sy.away (s:Sy)(i:Nat)(a:Int):Prop:=∃c,s.cs[i]? =aK c/\∃x∈c.sl,mX s.w c x a
theorem QH {l:List Sl}(hk:k<l.length)(x':Sl)(P:Sl->Prop):(∃y∈l.set k x',P y)↔(∃j,∃h:j<l.length,j≠k/\P l[j])∨P x':=by
 constructor
 ·rintro⟨y,d,b⟩;obtain⟨j,c,e⟩:=List.mem_iff_getElem.1 d;rw[List.length_set]at c;rw[List.getElem_set]at e;split at e
  ·exact .inr (e▸b)
  ·rename_i a;exact .inl ⟨j,c,λf=>a f.symm,by rw[e];exact b⟩
 ·rintro(⟨j,c,a,b⟩ | b)
  ·refine⟨l[j],?_,b⟩;rw[List.mem_iff_getElem];exact⟨j,by simpa using c,by rw[List.getElem_set,if_neg λe=>a e.symm]⟩
  ·exact⟨x',List.mem_iff_getElem.2 ⟨k,by simpa using hk,by simp⟩,b⟩
theorem IX {l:List Sl}(hk:k<l.length)(P:Sl->Prop):(∃y∈l,P y)↔(∃j,∃h:j<l.length,j≠k/\P l[j])∨P l[k]:=by
 constructor
 ·rintro⟨y,c,a⟩;obtain⟨j,b,e⟩:=List.mem_iff_getElem.1 c;by_cases h:j=k
  ·subst h;exact .inr (e▸a)
  ·exact .inl ⟨j,b,h,by rw[e];exact a⟩
 ·rintro(⟨j,b,d,a⟩ | a)
  ·exact⟨l[j],gL b,a⟩
  ·exact⟨l[k],gL hk,a⟩
theorem Nw {l:List Sl}(P:Sl->Prop):(∃y∈l.eraseIdx k,P y)↔(∃j,∃h:j<l.length,j≠k/\P l[j]):=by
 constructor
 ·rintro⟨y,d,b⟩;rw[List.mem_eraseIdx_iff_getElem]at d;obtain⟨j,c,a,e⟩:=d;exact⟨j,c,a,by rw[e];exact b⟩
 ·rintro⟨j,c,a,b⟩;refine⟨l[j],?_,b⟩;rw[List.mem_eraseIdx_iff_getElem];exact⟨j,c,a,rfl⟩
theorem pY {c':Ca}(hi:s.cs[i]? =aK c)(hcs:s'.cs=s.cs.set i c')(b:Int):(s'.away i b↔∃x∈c'.sl,mX s'.w c' x b)/\∀j,j≠i->(s'.away j b↔∃d,s.cs[j]? =aK d/\∃x∈d.sl,mX s'.w d x b):=by
 have a:=(gK.1 hi).1;constructor
 ·unfold Sy.away;rw[hcs,List.getElem?_set_self a];constructor
  ·rintro⟨d,f,h⟩;obtain rfl:=gP f;exact h
  ·exact λh=>⟨c',rfl,h⟩
 ·intro j g;unfold Sy.away;rw[hcs,List.getElem?_set_ne λe=>g e.symm]
theorem oC (hi:s.cs[i]? =aK c)(b:Int):s.away i b↔∃x∈c.sl,mX s.w c x b:=by
 unfold Sy.away;rw[hi];constructor
 ·rintro⟨d,a,h⟩;obtain rfl:=gP a;exact h
 ·exact λh=>⟨c,rfl,h⟩
theorem mY (h:follow w x.h c.r=aK l)(a:Int):mX w c x a↔iC c x.p a=true/\a∉l:=by
 unfold mX;constructor
 ·exact λb=>⟨b.1,b.2 l h⟩
 ·rintro⟨b,e⟩;refine⟨b,λm d=> ?_⟩;rw[h]at d;obtain rfl:=gP d;exact e
theorem bQ.XK (hk:bQ s){j:Nat}(hi:s.cs[i]? =aK c)(hj:j<c.sl.length)(hkl:k<c.sl.length)(h1:iC c c.sl[j].p a=true)(h2:iC c c.sl[k].p a=true):j=k:=by
 obtain⟨b,e⟩:=gK.1 hi;subst e;exact(hk.only b b hj hkl h1 h2).2
theorem bQ.XL (hk:bQ s)(hi:s.cs[i]? =aK c)(hx:c.sl[k]? =aK x)(hn:0<x.n)(hp:s.pop i k=aK (s',a)):
 ¬s.away i a/\∀j b,s'.away j b↔s.away j b∨(j=i/\b=a):=by
 obtain⟨_,_,B,rfl,t⟩:=hk.pop hi hx hn hp;have z:=gM hx;obtain⟨d,e⟩:=gK.1 hx;obtain⟨m,r,H,C,G,I,D⟩:=hk.first (gM hi) z hn;have y:=(aAB.1 r).2.2.2;have g:iC c x.p x.h=true:=C x.h (by simp);have A:x.h∉m:=(List.nodup_cons.1 y).1;have l:¬s.away i x.h:=by
  rw[oC hi,IX d];rintro(⟨j,o,q,h,_⟩ | h)
  ·exact q (hk.XK hi o d h (by rw[e];exact g))
  ·rw[e,mY r]at h;exact h.2 (by simp)
 refine⟨l,λj b=> ?_⟩;have f:=pY (s':=s') (c':={c with sl:=c.sl.set k ⟨x.p,x.n-1,s.w.getD x.h.toNat 0⟩}) hi (by rw[t];rfl) b;by_cases o:j=i
 ·subst o;rw[f.1,oC hi,QH d,IX d,e,mY r,B];have E:mX s.w {c with sl:=c.sl.set k ⟨x.p,x.n-1,s.w.getD x.h.toNat 0⟩} ⟨x.p,x.n-1,s.w.getD x.h.toNat 0⟩ b↔iC c x.p b=true/\b∉m:=mY (x:=⟨x.p,x.n-1,s.w.getD x.h.toNat 0⟩) (c:={c with sl:=c.sl.set k ⟨x.p,x.n-1,s.w.getD x.h.toNat 0⟩}) D b;rw[E];have F:(∃j,∃h:j<c.sl.length,j≠k/\mX s.w {c with sl:=c.sl.set k ⟨x.p,x.n-1,s.w.getD x.h.toNat 0⟩} c.sl[j] b)↔(∃j,∃h:j<c.sl.length,j≠k/\mX s.w c c.sl[j] b):=Iff.rfl;rw[F,gY];constructor
  ·rintro(h | ⟨h,v⟩)
   ·exact .inl (.inl h)
   ·by_cases hb:b=x.h
    ·exact .inr ⟨rfl,hb⟩
    ·exact .inl (.inr ⟨h,λu=>u.elim hb v⟩)
  ·rintro((h | ⟨h,v⟩) | ⟨_,rfl⟩)
   ·exact .inl h
   ·exact .inr ⟨h,λu=>v (.inr u)⟩
   ·exact .inr ⟨g,A⟩
 ·rw[f.2 j o,B];constructor
  ·exact λh=> .inl h
  ·rintro(h | ⟨h,_⟩)
   ·exact h
   ·exact absurd h o
theorem vV.Dt (h:vV s c x)(hw:s'.w.length=s.w.length)(hs:∀a:Int,iC c x.p a=true->s'.w.getD a.toNat 0=s.w.getD a.toNat 0):follow s'.w x.h c.r=follow s.w x.h c.r:=by
 obtain⟨l,b,f,e⟩:=h.chain;rw[b];rw[aAB]at b ⊢;rw[hw];exact⟨b.1.move λa d=>hs a (e a d),b.2⟩
theorem xX {w':List Int}(h:follow w' x.h c.r=follow w x.h c.r)(a:Int):mX w' c x a↔mX w c x a:=by
 unfold mX;rw[h]
theorem bQ.aAI (hk:bQ s)(hi:s.cs[i]? =aK c)(bJ:cpu<s.h.aAh)(hg:s.grow i cpu c=aK (s',k)):
 ∃a,s'.w=chainTo s.w (16*a) c.z c.r c.r/\s'.cs=s.cs.set i {c with sl:=pW c.sl ⟨a,c.r,((16*a:Nat):Int)⟩}/\s'.h.live=bI s.h.live ⟨a,c.o,0⟩/\16*a+c.z*c.r<=s.w.length/\
  ∀d∈s.cs,∀x∈d.sl,x.p≠a/\∀o:Int,iC d x.p o=true->s'.w.getD o.toNat 0=s.w.getD o.toNat 0:=by
 have e:=hk.ck c (gM hi);have y:c.o<=4:=by rw[e.o];exact gQ (lK _) (by decide)
 unfold Sy.grow at hg;cases hal:s.h.alloc cpu c.o 0 false false with
 | none=>rw[hal]at hg;cases hg
 | some r=>
  obtain⟨G,a⟩:=r;rw[hal]at hg;have f:=gP hg;rw[Prod.mk.injEq]at f;obtain⟨rfl,rfl⟩:=f;obtain⟨M,E,C,g,j⟩:=hk.hk.alloc bJ y (by decide) hal;have n:G.live=bI s.h.live ⟨a,c.o,0⟩:=g;have u:∀b∈s.h.live,apartB a c.o b:=λb hb=>dH λq f t=>by
   have A:=M.one q;rw[dJ,n,sJ]at A;have H:0<cnt s.h.live q:=jC.2 ⟨b,hb,t⟩;have J:hit (⟨a,c.o,0⟩:Bk) q=1:=jT.2 f;omega
  have I:=Nat.two_pow_pos c.o;have v:16*a+c.z*c.r<=s.w.length:=by
   have f:=e.room;have t:a+2^c.o<=256:=by
    have A:c.o<=2:=by rw[e.o];exact lK _
    obtain⟨_,_,H,J⟩:=j;generalize c.o=o at*;obtain rfl | rfl | rfl:o=0∨o=1∨o=2:=by omega
    ·omega
    ·omega
    ·omega
   rw[Nat.mul_comm c.z,hk.wl];generalize c.r*c.z=m at*;generalize 2^c.o=q at*;omega
  refine⟨a,rfl,rfl,n,v,λd F x N=> ?_⟩;have l:=hk.ck d F;obtain⟨b,hb,D,B⟩:=(l.sk x N).live;have f:=u b hb;unfold apartB Bk.fin at f;rw[D,B]at f;have K:=Nat.two_pow_pos d.o;refine⟨by omega,λo L=>qP _ _ _ _ _ (gT _) _ ?_ e.z.1⟩;have t:=jK l.room L;have A:=e.room;rw[Nat.mul_comm c.z c.r];generalize c.r*c.z=m at*;generalize 2^c.o=q at*;generalize 2^d.o=O at*;omega
theorem bQ.UZ (hk:bQ s)(hi:s.cs[i]? =aK c)(bJ:cpu<s.h.aAh)(hg:s.grow i cpu c=aK (s',k))(j:Nat)(b:Int):s'.away j b↔s.away j b:=by
 have g:=hk.ck c (gM hi);obtain⟨a,u,q,_,n,o⟩:=hk.aAI hi bJ hg;have p:s'.w.length=s.w.length:=by rw[u];exact iG _ _ _ _ _
 have t:1<=c.r:=by rw[g.r];exact Nu g.z
 have m:=pY (s':=s') hi q b;have e:∀d∈s.cs,∀x∈d.sl,(mX s'.w d x b↔mX s.w d x b):=λd l x f=>xX (((hk.ck d l).sk x f).Dt p (o d l x f).2) b
 by_cases v:j=i
 ·subst v;rw[m.1,oC hi];have y:=zU s.w (16*a) c.z c.r c.r g.z.1 t n (by omega);rw[if_pos (Int.le_refl _),<- u]at y;constructor
  ·rintro⟨x,f,h⟩;rcases oG.1 f with rfl | f
   ·exfalso;refine h.2 _ y ?_;exact(BN (c:=c) g.z.1).1 h.1
   ·exact⟨x,f,(e c (gM hi) x f).1 h⟩
  ·rintro⟨x,f,h⟩;exact⟨x,oG.2 (.inr f),(e c (gM hi) x f).2 h⟩
 ·rw[m.2 j v];unfold Sy.away;constructor
  ·rintro⟨d,l,x,f,h⟩;exact⟨d,l,x,f,(e d (gM l) x f).1 h⟩
  ·rintro⟨d,l,x,f,h⟩;exact⟨d,l,x,f,(e d (gM l) x f).2 h⟩
theorem IY (s:Sy)(i cpu k j:Nat)(b:Int):(s.mine i cpu k).away j b↔s.away j b:=by
 unfold Sy.mine;cases hc:s.cs[i]? with
 | none=>rfl
 | some c=>
  simp only;cases hx:c.sl[k]? with
  | none=>rfl
  | some x=>
   have a:=pY (s':=s.fB i {c with ac:=c.ac.set cpu (x.p:Int)}) (c':={c with ac:=c.ac.set cpu (x.p:Int)}) hc rfl b;by_cases d:j=i
   ·subst d;rw[a.1,oC hc];exact Iff.rfl
   ·rw[a.2 j d];exact Iff.rfl
theorem bQ.Ny (hk:bQ s)(hi:s.cs[i]? =aK c)(bJ:cpu<s.h.aAh)(hg:s.choose i cpu=aK (s',k))(j:Nat)(b:Int):s'.away j b↔s.away j b:=by
 unfold Sy.choose at hg;rw[hi]at hg;simp only at hg;split at hg
 ·have a:=gP hg;rw[Prod.mk.injEq]at a;rw[<- a.1]
 ·split at hg
  ·have a:=gP hg;rw[Prod.mk.injEq]at a;rw[<- a.1];exact IY _ _ _ _ _ _
  ·split at hg
   ·rename_i heq;have a:=gP hg;rw[Prod.mk.injEq]at a;rw[<- a.1,IY];exact hk.UZ hi bJ heq j b
   ·cases hg
theorem bQ.Ad (hk:bQ s)(hi:s.cs[i]? =aK c)(bJ:cpu<s.h.aAh)(hg:s.one i cpu=aK (s',a)):¬s.away i a/\∀j b,s'.away j b↔s.away j b∨(j=i/\b=a):=by
 unfold Sy.one at hg;cases hch:s.choose i cpu with
 | none=>rw[hch]at hg;cases hg
 | some r=>
  obtain⟨o,k⟩:=r;rw[hch]at hg;simp only at hg;obtain⟨g,p,q,x,n,f,m⟩:=hk.choose hi bJ hch;obtain⟨e,l⟩:=g.XL n f m hg;have d:=λj b=>hk.Ny hi bJ hch j b
  exact⟨λh=>e ((d i a).2 h),λj b=>by rw[l,d]⟩
theorem bQ.BO (hk:bQ s)(hi:i<s.cs.length)(bJ:cpu<s.h.aAh):∀{n:Nat} {t:Sy} {l:List Int},s.bulk i cpu n=aK (t,l)->
 bQ t/\t.h.aAh=s.h.aAh/\t.cs.length=s.cs.length/\l.length=n/\l.Nodup/\(∀a∈l,¬s.away i a)/\∀j b,t.away j b↔s.away j b∨(j=i/\b∈l)
 | 0,t,l,h=>by
  have h1:=gP h;rw[Prod.mk.injEq]at h1;obtain⟨rfl,rfl⟩:=h1;exact⟨hk,rfl,rfl,rfl,List.nodup_nil,by simp,λj b=>by simp⟩
 | n+1,t,l,h=>by
  unfold Sy.bulk at h;cases hb:s.bulk i cpu n with
  | none=>rw[hb]at h;cases h
  | some r=>
   obtain⟨u,m⟩:=r;rw[hb]at h;simp only at h;obtain⟨h1,o,y,A,B,D,w⟩:=hk.BO hi bJ hb;cases ho:u.one i cpu with
   | none=>rw[ho]at h;cases h
   | some q=>
    obtain⟨G,a⟩:=q;rw[ho]at h;have x:=gP h;rw[Prod.mk.injEq]at x;obtain⟨rfl,rfl⟩:=x;have k:u.cs[i]? =aK (u.cs[i]'(by rw[y];exact hi)):=gJ _;obtain⟨C,z,F,_⟩:=h1.one k (by rw[o];exact bJ) ho;obtain⟨p,E⟩:=h1.Ad k (by rw[o];exact bJ) ho;rw[w]at p;refine⟨C,by rw[z,o],by rw[F,y],by simp[A],?_,λb f=> ?_,λj b=> ?_⟩
    ·rw[List.nodup_append];refine⟨B,by simp,λb f d v e=> ?_⟩;simp only[gTa]at v;subst v e;exact p (.inr ⟨rfl,f⟩)
    ·rcases gZ.1 f with g | g
     ·exact D b g
     ·simp only[gTa]at g;subst g;exact λg=>p (.inl g)
    ·rw[E,w,gZ,gTa];constructor
     ·rintro((h | ⟨h,c⟩) | ⟨h,c⟩)
      ·exact .inl h
      ·exact .inr ⟨h,.inl c⟩
      ·exact .inr ⟨h,.inr c⟩
     ·rintro(h | ⟨h,c | c⟩)
      ·exact .inl (.inl h)
      ·exact .inl (.inr ⟨h,c⟩)
      ·exact .inr ⟨h,c⟩
theorem YD (l:List Int):∀u∈flat encI l,u.oneCell'=true:=by
 intro u a;simp only[flat,List.mem_flatMap]at a;obtain⟨r,_,b⟩:=a;simp only[encI,gY,List.not_mem_nil,or_false]at b;rcases b with rfl <;> rfl
theorem cloneS (a:Option Addr)(n cap:Nat)(xs:List (List UInt8))(w:World)(hn:xs.length=n)(hl:n*16<=140737488355328)(hr:Row w a (flat encS xs)):
 Calls prog 37 #[aA a n cap] w λe w'=>∃a' c',e=aN (aA a' n c')/\w'.ownsRow w.heap.size 9 1 (aA a' n c') n (flat encS xs)/\Below w.heap.size w w':=by
 have m:∀(w:World) (a:Option Addr) (n c g c':Nat),(binOp .eql 64 (aA a n c) (aA aJ g c')).run prog w= .ok (.bool a.isNone) w:=λw a n c g c'=>Lib.run_eql_slice_nil w _ _ a n c g c' underlying64
 subst hn;cases a with
 | none=>
  have o:xs=[]:=by
   cases xs with
   | nil=>rfl
   | cons u l=>obtain⟨b,off,i,_⟩:=aAw bF (by decide) hr (j:=0) (by simp);cases i
  subst o;go_enter func37,ntmps37
  go_wp2
  go_ret
  exact⟨aJ,0,rfl,World.ownsRow_nil _ _ _ _,gX _ _⟩
 | some ad=>
  go_enter func37,ntmps37
  go_wp2_with (at_builtin;refine iV rfl _ _ 64 rfl w.heap.size 9 (.string ByteArray.empty) 1 16 underlying64 Rh rfl (by decide) (by decide) _ _ _ _ rfl (World.ownsRow_made w #[] 0 (gT _) (gU _) (by simp)) (aK ad) xs.length cap (flat encS xs) rfl ?q1 ?q2 ?q3 ?q4 ?q5 ?_)
  case q1=>exact flat_length bF xs
  case q2=>exact hr.below (aAq _ _)
  case q3=>exact Fe xs
  case q4=>rw[Nat.zero_add];exact hl
  case q5=>simp
  intro a' c' p f d;go_wp2
  go_ret
  exact⟨a',c',rfl,f,(aAq w _).grown d (by simp) (by intro k h;simp[gTh]at h;omega)⟩
theorem aA7 (a:Option Addr)(n cap:Nat)(xs:List Sl)(w:World)(hn:xs.length=n)(hl:n*24<=140737488355328)(hr:Row w a (flat aY xs)):
 Calls prog 38 #[aA a n cap] w λe w'=>∃a' c',e=aN (aA a' n c')/\w'.ownsRow w.heap.size 99 3 (aA a' n c') n (flat aY xs)/\Below w.heap.size w w':=by
 have m:∀(w:World) (a:Option Addr) (n c g c':Nat),(binOp .eql 65 (aA a n c) (aA aJ g c')).run prog w= .ok (.bool a.isNone) w:=λw a n c g c'=>Lib.run_eql_slice_nil w _ _ a n c g c' underlying65
 subst hn;cases a with
 | none=>
  have o:xs=[]:=by
   cases xs with
   | nil=>rfl
   | cons u l=>obtain⟨b,off,i,_⟩:=aAw aAv (by decide) hr (j:=0) (by simp);cases i
  subst o;go_enter func38,ntmps38
  go_wp2
  go_ret
  exact⟨aJ,0,rfl,World.ownsRow_nil _ _ _ _,gX _ _⟩
 | some ad=>
  go_enter func38,ntmps38
  go_wp2_with (at_builtin;refine iV rfl _ _ 65 rfl w.heap.size 99 (aC #[aB aI 0,aB aI 0,aB aI 0]) 3 24 underlying65 Aw rfl (by decide) (by decide) _ _ _ _ rfl (World.ownsRow_made w #[] 0 (gT _) (gU _) (by simp)) (aK ad) xs.length cap (flat aY xs) rfl ?q1 ?q2 ?q3 ?q4 ?q5 ?_)
  case q1=>exact flat_length aAv xs
  case q2=>exact hr.below (aAq _ _)
  case q3=>exact xZ xs
  case q4=>rw[Nat.zero_add];exact hl
  case q5=>simp
  intro a' c' p f d;go_wp2
  go_ret
  exact⟨a',c',rfl,f,(aAq w _).grown d (by simp) (by intro k h;simp[gTh]at h;omega)⟩
theorem YE (a:Option Addr)(n cap:Nat)(xs:List Int)(w:World)(hn:xs.length=n)(hl:n*8<=140737488355328)(hr:Row w a (flat encI xs)):
 Calls prog 35 #[aA a n cap] w λe w'=>∃a' c',e=aN (aA a' n c')/\w'.ownsRow w.heap.size 3 1 (aA a' n c') n (flat encI xs)/\Below w.heap.size w w':=by
 have m:∀(w:World) (a:Option Addr) (n c g c':Nat),(binOp .eql 34 (aA a n c) (aA aJ g c')).run prog w= .ok (.bool a.isNone) w:=λw a n c g c'=>Lib.run_eql_slice_nil w _ _ a n c g c' underlying34
 subst hn;cases a with
 | none=>
  have o:xs=[]:=by
   cases xs with
   | nil=>rfl
   | cons u l=>obtain⟨b,off,i,_⟩:=aAw wR (by decide) hr (j:=0) (by simp);cases i
  subst o;go_enter func35,ntmps35
  go_wp2
  go_ret
  exact⟨aJ,0,rfl,World.ownsRow_nil _ _ _ _,gX _ _⟩
 | some ad=>
  go_enter func35,ntmps35
  go_wp2_with (at_builtin;refine iV rfl _ _ 34 rfl w.heap.size 3 (aB aI 0) 1 8 underlying34 lM rfl (by decide) (by decide) _ _ _ _ rfl (World.ownsRow_made w #[] 0 (gT _) (gU _) (by simp)) (aK ad) xs.length cap (flat encI xs) rfl ?q1 ?q2 ?q3 ?q4 ?q5 ?_)
  case q1=>exact flat_length wR xs
  case q2=>exact hr.below (aAq _ _)
  case q3=>exact YD xs
  case q4=>rw[Nat.zero_add];exact hl
  case q5=>simp
  intro a' c' p f d;go_wp2
  go_ret
  exact⟨a',c',rfl,f,(aAq w _).grown d (by simp) (by intro k h;simp[gTh]at h;omega)⟩
section
variable {w W W':World}{G B T U:Nat}{E:Array Value}
theorem aAz {b:Nat}(hb:Below b w W)(hT:b<=T)(v2:Sc)(s2:Sy):Below b w (((((((W.setCell ⟨T,0,aJ⟩ (aA v2.a1 v2.n1 v2.c1)).setCell ⟨T,1,aJ⟩ (aA v2.hc.az 2 v2.hc.cz)).setCell ⟨T,2,aJ⟩ (aA v2.hc.am 2 v2.hc.cm)).setCell ⟨T,3,aJ⟩ (aB aI (s2.h.aAh:Int))).setCell ⟨T,4,aJ⟩ (aA v2.hc.al v2.hc.lc.length v2.hc.cl)).setCell ⟨T,5,aJ⟩ (aA v2.hc.av s2.h.live.length v2.hc.cv)).setCell ⟨T,6,aJ⟩ (aA v2.a2 v2.ys.length v2.c2)):=
 gS (gS (gS (gS (gS (gS (gS hb T 0 hT _) T 1 hT _) T 2 hT _) T 3 hT _) T 4 hT _) T 5 hT _) T 6 hT _
theorem CU {a0 a1 a2 a3 a4 a5 a6:Value}(K:∀o,W.cell? ⟨T,o,aJ⟩=(#[a0,a1,a2,a3,a4,a5,a6]:Array Value)[o]?)(v:Sc)(s:Sy):∀o,(((((((W.setCell ⟨T,0,aJ⟩ (aA v.a1 v.n1 v.c1)).setCell ⟨T,1,aJ⟩ (aA v.hc.az 2 v.hc.cz)).setCell ⟨T,2,aJ⟩ (aA v.hc.am 2 v.hc.cm)).setCell ⟨T,3,aJ⟩ (aB aI (s.h.aAh:Int))).setCell ⟨T,4,aJ⟩ (aA v.hc.al v.hc.lc.length v.hc.cl)).setCell ⟨T,5,aJ⟩ (aA v.hc.av s.h.live.length v.hc.cv)).setCell ⟨T,6,aJ⟩ (aA v.a2 v.ys.length v.c2)).cell? ⟨T,o,aJ⟩=(#[aA v.a1 v.n1 v.c1,aA v.hc.az 2 v.hc.cz,aA v.hc.am 2 v.hc.cm,aB aI (s.h.aAh:Int),aA v.hc.al v.hc.lc.length v.hc.cl,aA v.hc.av s.h.live.length v.hc.cv,aA v.a2 v.ys.length v.c2]:Array Value)[o]? :=by
 have a:=(aAr (aAr (aAr (aAr (aAr (aAr (aAr K 0 (aA v.a1 v.n1 v.c1)) 1 (aA v.hc.az 2 v.hc.cz)) 2 (aA v.hc.am 2 v.hc.cm)) 3 (aB aI (s.h.aAh:Int))) 4 (aA v.hc.al v.hc.lc.length v.hc.cl)) 5 (aA v.hc.av s.h.live.length v.hc.cv)) 6 (aA v.a2 v.ys.length v.c2))
 simp only[gE,gG,gH]at a;exact a
theorem lW (K:∀o,W.cell? ⟨U,o,aJ⟩=E[o]?)(hne:U≠T)(v:Sc)(s:Sy):∀o,(((((((W.setCell ⟨T,0,aJ⟩ (aA v.a1 v.n1 v.c1)).setCell ⟨T,1,aJ⟩ (aA v.hc.az 2 v.hc.cz)).setCell ⟨T,2,aJ⟩ (aA v.hc.am 2 v.hc.cm)).setCell ⟨T,3,aJ⟩ (aB aI (s.h.aAh:Int))).setCell ⟨T,4,aJ⟩ (aA v.hc.al v.hc.lc.length v.hc.cl)).setCell ⟨T,5,aJ⟩ (aA v.hc.av s.h.live.length v.hc.cv)).setCell ⟨T,6,aJ⟩ (aA v.a2 v.ys.length v.c2)).cell? ⟨U,o,aJ⟩=E[o]? :=
 aAc (aAc (aAc (aAc (aAc (aAc (aAc K hne 0 _) hne 1 _) hne 2 _) hne 3 _) hne 4 _) hne 5 _) hne 6 _
theorem Gu (F:∀o,W.frozen? ⟨U,o,aJ⟩=false)(v:Sc)(s:Sy):∀o,(((((((W.setCell ⟨T,0,aJ⟩ (aA v.a1 v.n1 v.c1)).setCell ⟨T,1,aJ⟩ (aA v.hc.az 2 v.hc.cz)).setCell ⟨T,2,aJ⟩ (aA v.hc.am 2 v.hc.cm)).setCell ⟨T,3,aJ⟩ (aB aI (s.h.aAh:Int))).setCell ⟨T,4,aJ⟩ (aA v.hc.al v.hc.lc.length v.hc.cl)).setCell ⟨T,5,aJ⟩ (aA v.hc.av s.h.live.length v.hc.cv)).setCell ⟨T,6,aJ⟩ (aA v.a2 v.ys.length v.c2)).frozen? ⟨U,o,aJ⟩=false:=
 aAs (aAs (aAs (aAs (aAs (aAs (aAs F ⟨T,0,aJ⟩ _) ⟨T,1,aJ⟩ _) ⟨T,2,aJ⟩ _) ⟨T,3,aJ⟩ _) ⟨T,4,aJ⟩ _) ⟨T,5,aJ⟩ _) ⟨T,6,aJ⟩ _
end
def Res (r:Option (Hp×Nat))(G:Nat)(X:Nat->Prop)(h:Hp)(c:Hc)(w:World)(ev:Ending)(w':World):Prop:=
 (r=aJ/\ev=aN (aG #[aB aI 0,.bool false])/\HS w' G X h c/\Safe X w w')∨
 (∃b a d,r=aK (b,a)/\ev=aN (aG #[aB aI (a:Nat),.bool true])/\HS w' G X b d/\Safe X w w')
theorem CP (G cpu z t flags:Nat)(X:Nat->Prop)(h:Hp)(c:Hc)(w:World)(hs:HS w G X h c)(hk:eY h)(hc:cpu<h.aAh)(hz:z<2)(ht:t<3)(hf:flags<=15)(ho:sS w)(hx0:X 1):
 Calls prog 135 #[aH (aK ⟨G,0,aJ⟩),aB aI cpu,aB aI z,aB aI t,aB aI flags] w (Res (h.single ⟨cpu,z,t,[]⟩ (h.held z (decide (flags/8%2=1)) (decide (flags%2=1)))) G X h c w):=by
 obtain⟨K4,F4,hsz,hbw⟩:=boxes1 w #[aB aI (cpu:Int),aB aI (z:Int),aB aI (t:Int),aA aJ 0 0] 160;have R:=gO (hs.new hbw);have HSF0:=gO (Safe.jD (X:=X) hbw);have HO0:=gO (ho.below hbw);have HK:=gO hk;have hG0:G<(w.alloc (aO #[aB aI (cpu:Int),aB aI (z:Int),aB aI (t:Int),aA aJ 0 0] 160)).heap.size:=R.out.r.gs;obtain⟨k0,k1,k2,k3,k4⟩:=R.out.words;have b0:=K4 0;have b1:=K4 1;have b2:=K4 2;have b3:=K4 3;simp only[gB,gC,gD]at b0 b1 b2 b3;have Xf:=hs.r.gs;have HXW:=gO hs.r.xs;have Rt:=hk.oQ;have TY:=gO (CG hs.r);have hc24:c.lc.length<=24:=by rw[TY.out];exact Rt
 clear hs hk hbw ho;go_enter func135,ntmps135
 go_wp2_with fail
 generalize w.alloc _=y at*;refine aU (by kernel_rfl) (by kernel_rfl) ?_
 repeat (go_big_quiet_step ((go_at_call 90;exact Calls.bV (TQ _ _ _ _ _ _ _ _ _ _ _ _ _ h ⟨cpu,z,t,[]⟩ aJ 0 0 _ (R.out.r.at.below (aT y _)) HK.out ⟨hz,ht⟩ (by omega)))))
 refine wpQuiet_nil ?_;rintro _ ⟨wx,rfl⟩;have o:=gO (R.out.below (aT y wx));have M:=gO (HSF0.out.then (aT y wx));have HO1:=gO (HO0.out.below (aT y wx));have K4':=gO (aAp K4 hsz (aT y wx));have F4':=gO (aAt F4 hsz (aT y wx));have hsz1:w.heap.size<(ext y wx).heap.size:=gI hsz (aT y wx).size;have aCp:y.heap.size<=(ext y wx).heap.size:=(aT y wx).size;clear k0 k1 k2 k3 k4 b0 b1 b2 b3 K4 F4 R HSF0 HO0;generalize ext y wx=N at*;obtain⟨D,hD⟩:∃D,h.held z (decide (flags/8%2=1)) (decide (flags%2=1))=D:=⟨_,rfl⟩
 have HD:=gO hD;rw[hD];clear hD;cases hh:sG h.ls (Ls.key ⟨cpu,z,t,[]⟩)with
 | true=>
  obtain⟨I,hI,O,HSI⟩:∃I,jU h.ls (Ls.key ⟨cpu,z,t,[]⟩)=I/\∃hi:I<h.ls.length,Hid (h.single ⟨cpu,z,t,[]⟩ D=aK ({h with ls:=if h.ls[I].p.length=1 then h.ls.eraseIdx I else h.ls.set I {h.ls[I]with p:=h.ls[I].p.dropLast}},h.ls[I].p.getLastD 0)):=by
   obtain⟨O,hkey⟩:=IU hh;exact⟨_,rfl,O,JU hh O⟩
  rw[hI];clear hI hh;have h6:I<c.lc.length:=by rw[TY.out];exact O
  have h7:=gO (Lh o.out.r h6 O);obtain⟨V,hgl,CJ,aDy,aDz,Lj⟩:=o.out.r.uY (by omega);have C:=o.out.r.lI _ (gL h6);have hlen:=zB C;have hok:=HK.out.lr _ (gL O);have hpos:=hok.2.2.2.1;have h8:=hok.2.2.2.2.1;rw[h7.out]at hlen;obtain⟨K,hKn⟩:∃K,c.lc[I].n=K+1:=⟨c.lc[I].n-1,by omega⟩
  have VX:=gO hKn;obtain⟨k0,k1,k2,k3,k4⟩:=o.out.words;rw[hgl]at k3;obtain⟨x0,x1,x2,x3⟩:=o.out.r.zD hgl h6;rw[hKn]at x3;have hKp:K<h.ls[I].p.length:=by omega
  obtain⟨pb,l7,hpa,hpb,hpc⟩:=aAw bU (by decide) (aV C) (j:=K) (by show K<(c.lc[I]).l.p.length;rw[h7.out];exact hKp);have hp0:=iZ hpc;rw[Nat.mul_one]at hp0;have HPA:=gO hpa;rw[hpa]at x3;have hcap:=dR C;rw[hKn]at hcap;have HOWN:=gO C;obtain⟨P,hP⟩:∃P,(c.lc[I]).l.p[K]'(by rw[h7.out];exact hKp)=P:=⟨_,rfl⟩
  have HP:Hid (h.ls[I].p[K]? =aK P):=by
   unfold Hid;rw[<- hP];simp only[<- h7.out];exact gJ _
  simp only[hP]at hp0;have hfz:=Lj (I*4+3) (by omega);have MV:=gO hgl;have hKi:(K:Int)<(K:Int)+1:=by omega
  have hI2:(I:Int)<c.lc.length:=by omega
  have hcap2:(K:Int)<=(c.lc[I].c:Int):=by omega
  have aFY:G<N.heap.size:=o.out.r.gs;obtain⟨CC,hCC⟩:∃CC,c.lc[I].c=CC:=⟨_,rfl⟩
  rw[hCC]at x3 hcap hcap2;have HCC:=gO hCC;clear hpc hpa C hok hKn hP hgl Lj k0 k1 k2 k4 x0 x1 x2 hlen hCC;go_wp2_with fail
  go_still_tail 17,(by kernel_rfl)
  change wpList _ _ _ _ _ N.drew;have A:=gO (o.out.below ((gX N.heap.size N).drew));have f:=gO (M.out.then ((gX N.heap.size N).drew));have q:=own_below HOWN.out ((gX N.heap.size N).drew) (gT _);have hdw:N.drew.heap.size=N.heap.size:=rfl;have aOc:V<N.drew.heap.size:=CJ;have aJf:G<N.drew.heap.size:=aFY;clear hfz x3 k3 hp0;generalize N.drew=Z at*;have x3:=(A.out.r.zD MV.out h6).2.2.2;obtain⟨_,Ib,_,_,_,hf3⟩:=A.out.r.uY (by omega);have hfz:Z.frozen? ⟨V,I*4+3,aJ⟩=false:=by
   rw[MV.out]at Ib;obtain rfl:V=_:=by simpa using Ib
   exact hf3 _ (by omega)
  clear Ib hf3;have ho4:(kQ ⟨{h.ls[I]with p:=h.ls[I].p.dropLast},aK ⟨pb,l7,aJ⟩,K,CC⟩).on Z 0:=by
   have h1:=iY q (i:=K) (by show K<=c.lc[I].n;rw[VX.out];omega);have h2:=fC bU c.lc[I].l.p K;unfold Rs.on kQ;simp only;have h3:(kQ c.lc[I]).xs.take (K*1)=flat iF h.ls[I].p.dropLast:=by
    show(flat iF c.lc[I].l.p).take (K*1)=_;rw[h2,h7.out,List.dropLast_eq_take];congr 2;have:=zB q;rw[h7.out,VX.out]at this;omega
   have h4:=h1;rw[show(kQ c.lc[I]).k=1 from rfl,h3,HPA.out,HCC.out]at h4;exact h4
  obtain⟨B,s⟩:=A.out.page h6 (World.grownBy.refl Z _) ho4 (by rw[h7.out];exact⟨rfl,rfl,rfl⟩) (λk hk=> .inl (by simpa[kQ,gTh,HPA.out]using hk)) MV.out;have a:Hid (HS (Z.setCell ⟨V,I*4+3,aJ⟩ (aA (aK ⟨pb,l7,aJ⟩) K CC)) G (λk=>X k∨(w.heap.size<=k/\k<y.heap.size)) {h with ls:=h.ls.set I {h.ls[I]with p:=h.ls[I].p.dropLast}} {c with lc:=c.lc.set I ⟨{h.ls[I]with p:=h.ls[I].p.dropLast},aK ⟨pb,l7,aJ⟩,K,CC⟩}):=B;have d:Hid (Safe X w (Z.setCell ⟨V,I*4+3,aJ⟩ (aA (aK ⟨pb,l7,aJ⟩) K CC))):=f.out.trans (s.sub λk _ hk=> .inl hk);have F:Hid (h.ls[I].p.length=K+1):=by
   have hl:=zB q;rw[h7.out,VX.out]at hl;exact hl
  have HLG:Hid (h.ls[I].p.getLastD 0=P):=by
   unfold Hid;rw[List.getLastD_eq_getLast?,List.getLast?_eq_getElem?,F.out,Nat.add_sub_cancel,HP.out];rfl
  clear B s ho4 q HOWN hKp hpos h8;by_cases hK0:K=0
  ·subst hK0;obtain⟨_,_,_,q3,_⟩:=a.out.words;simp only[List.length_set]at q3;rw[MV.out]at q3;have HHS:Hid ((h.ls.set I {h.ls[I]with p:=h.ls[I].p.dropLast}).eraseIdx I=h.ls.eraseIdx I):=List.eraseIdx_set_eq;go_wp2_with fail
   generalize hW4:Z.setCell ⟨V,I*4+3,aJ⟩ (aA (aK ⟨pb,l7,aJ⟩) 0 CC)=w4 at*;clear hW4;obtain⟨J,U⟩:∃J:Hc,({c with lc:=c.lc.set I ⟨{h.ls[I]with p:=h.ls[I].p.dropLast},aK ⟨pb,l7,aJ⟩,0,CC⟩}:Hc)=J:=⟨_,rfl⟩
   have aDM:J.al=aK ⟨V,0,aJ⟩:=by rw[<- U];exact MV.out
   have aDN:J.cl=c.cl:=by rw[<- U]
   have aDO:J.lc.length=c.lc.length:=by rw[<- U];simp
   rw[U]at a;have Ef:=gO aDM;have HLN4:=gO aDO;have b:=a.out.r.lsr;unfold rW at b;unfold Rs.on at b;simp only[aDM,aDN,aDO]at b;have HOWN4:=gO b;have Xg:=gO aDN;clear b U aDM aDN aDO;refine(VJ 0 (aK ⟨V,0,aJ⟩) c.lc.length c.cl J.lc I w4 HOWN4.out h6 (by omega) (gU _)).mono ?_;rintro ev w5 ⟨rfl,ho5,W⟩;have hle:(J.lc.eraseIdx I).length=c.lc.length-1:=by rw[List.length_eraseIdx_of_lt (by rw[HLN4.out];exact h6),HLN4.out]
   have hlb:(rW J).v.ownBlock=aK V:=by unfold rW;rw[Ef.out];rfl
   have hG4:G<w4.heap.size:=a.out.r.gs;have yM:(aA (aK ⟨V,0,aJ⟩) c.lc.length c.cl).ownBlock≠aK G:=λe=>(a.out.r.og _ (jE J _) G (by rw[hlb];simpa[gTh]using e)).1 rfl
   have q5:=(bD a.out.k hG4 W (λe=>yM e.symm) 3).trans (show _=aK (aA J.al J.lc.length J.cl)from rfl);have f5:=bG a.out.fz hG4 W (λe=>yM e.symm) 3;have hG5:G<w5.heap.size:=gI hG4 W.size;have hpo:dL w4 0 ((J.lc.eraseIdx I).map kQ):=a.out.r.own.sub (by
    unfold Hc.rows;refine(((List.sublist_cons_self _ _).trans (List.sublist_cons_self _ _)).trans (List.sublist_cons_self _ _)) |> λh=>List.Sublist.trans ?_ h
    exact(List.eraseIdx_sublist _ _).map kQ)
   obtain⟨hs6,sf6⟩:=a.out.lists (W':=w5) (by rw[hlb];simpa[gTh]using W) (al':=aK ⟨V,0,aJ⟩) (cl':=c.cl) (uX:=J.lc.eraseIdx I) (by rw[hle];exact ho5) (λk hk=> .inl (by rw[hlb];simpa[gTh]using hk)) hpo (λr hr g hg=> .inl ⟨r,((List.eraseIdx_sublist _ _).map kQ).subset hr,hg⟩);rw[hle]at hs6 sf6;have aGh:(J.lc.eraseIdx I).map Lc.l=h.ls.eraseIdx I:=by
    rw[List.eraseIdx_eq_take_drop_succ,List.map_append,List.map_take,List.map_drop,<- List.eraseIdx_eq_take_drop_succ,a.out.r.ll];exact HHS.out
   rw[aGh]at hs6;have HS6:=gO hs6;have HSF6:=gO (d.out.trans (sf6.sub λk _ hk=> .inl hk));clear hs6 sf6 hpo aGh ho5 W hlb hle yM q3;go_wp2
   go_ret2
   refine .inr ⟨_,P,_,?_,rfl,HS6.out.sub λk hk=> .inl hk,HSF6.out⟩;rw[HD.out,HSI.out,HLG.out,if_pos (by rw[F.out])]
  ·have d0:((K:Int) == 0)=false:=by rw[beq_eq_false_iff_ne];omega
   go_wp2
   go_ret2
   refine .inr ⟨_,P,_,?_,rfl,a.out.sub λk hk=> .inl hk,d.out⟩;rw[HD.out,HSI.out,HLG.out,if_neg (by rw[F.out];omega)]
 | false=>
  have HSN:=gO (QF (hd:=D) hh);have aGi:=gO (pX HK.out.lk (EO hh));clear hh;go_wp2_with fail
  refine(AA G z 0 t flags (λk=>X k∨(w.heap.size<=k/\k<y.heap.size)) h c N o.out HK.out hz (by omega) ht hf HO1.out).mono ?_;rintro ev Z (⟨H,rfl,Q,E⟩ | ⟨h1,a1,y0,y1,u,rfl,Q,E⟩)
  ·rw[HD.out]at H;have VI:=gO H;have A:=gO Q;have f:=gO (M.out.trans (E.sub λk _ hk=> .inl hk));clear Q E H;go_wp2_with fail
   go_loopw [19] (λT wr=>T=aB aI 1/\wr=Z) (λ_ _=>0)
   case atStart=>exact⟨rfl,rfl⟩
   case round=>
    obtain⟨rfl,rfl⟩:=hrel;go_wp2
    go_ret2
    exact .inl ⟨by rw[HD.out,HSN.out,VI.out];rfl,rfl,A.out.sub λk hk=> .inl hk,f.out⟩
  ·rw[HD.out]at u;have HSO:=gO u;obtain⟨hT,aGj,hz1⟩:=HK.out.mF (by omega) ht hz u;have A:=gO Q;have f:=gO (M.out.trans (E.sub λk _ hk=> .inl hk));have HO3:=gO (HO1.out.safe E (Or.inl hx0));have hXB:(λk=>X k∨(w.heap.size<=k/\k<y.heap.size)) w.heap.size:= .inr ⟨gT _,hsz⟩;have K5:=gO (E.box K4'.out hsz1 hXB);have hsz3:w.heap.size<Z.heap.size:=gI hsz1 E.size;have HT:=gO hT;have HM8:Hid (∀x∈h1.ls,x.key=(Ls.key ⟨cpu,z,t,[]⟩)->x.p.length+3<=8):=λx hx hkey=>absurd hkey (aGi.out x (by rw[<- aGj];exact hx))
   have HXB:=gO hXB;clear Q E u hT aGj hz1 o M HO1 K4' F4' hXB;go_wp2_with fail
   go_loopw [19] (λT wr=>∃(j:Nat) (Y:Hp) (cj:Hc),j<=3/\T=aB aI (1+j:Int)/\Hid (HS wr G (λk=>X k∨(w.heap.size<=k/\k<y.heap.size)) Y cj)/\Hid (Safe (λk=>X k∨(w.heap.size<=k/\k<y.heap.size)) Z wr)/\Hid (eY Y)/\Hid (Same h Y)/\Hid (h1.fill ⟨cpu,z,t,[]⟩ D 3=Y.fill ⟨cpu,z,t,[]⟩ D (3-j))/\Hid (∀x∈Y.ls,x.key=(Ls.key ⟨cpu,z,t,[]⟩)->x.p.length+(3-j)<=8)) (λT _=>4-(intOf T).toNat)
   case atStart=>exact⟨0,h1,_,gU _,rfl,A,Safe.refl _ _,HT.out.ok,HT.out.same,rfl,HM8⟩
   case round=>
    obtain⟨j,Y,cj,hj3,rfl,qK,L,BA,aDQ,HFj,H8j⟩:=hrel;clear A HM8;have K6:=gO (L.out.box K5.out hsz3 HXB.out);have aF8:w.heap.size<wr.heap.size:=gI hsz3 L.out.size;by_cases hlt:j<3
    ·have hlt2:(1:Int)+j<4:=by omega
     have HDj:=gO ((UQ HK.out BA.out aDQ.out z (decide (flags/8%2=1)) (decide (flags%2=1))).trans HD.out);have HOj:=gO (HO3.out.safe L.out (Or.inl hx0));obtain⟨m,hm⟩:∃m,3-j=m+1:=⟨2-j,by omega⟩
     have YK:=gO hm;have hm3:m+1<=3:=by omega
     clear hm;go_wp2_with fail
     refine(AA G z 0 t flags (λk=>X k∨(w.heap.size<=k/\k<y.heap.size)) Y cj wr qK.out BA.out hz (by omega) ht hf HOj.out).mono ?_;rintro ev w4 (⟨H,rfl,B,s⟩ | ⟨h2,a2,y0',y1',u,rfl,B,s⟩)
     ·rw[HDj.out]at H;have S:Hid (h1.fill ⟨cpu,z,t,[]⟩ D 3=Y):=by
       unfold Hid;rw[HFj.out,YK.out];unfold Hp.fill;simp only[H]
      have a:=gO B;have d:=gO (f.out.trans ((L.out.trans s).sub λk _ hk=> .inl hk));clear B s H;go_wp2
      go_ret2
      exact .inr ⟨_,a1,_,by rw[HD.out,HSN.out,HSO.out];simp only[Option.map_some];rw[S.out],rfl,a.out.sub λk hk=> .inl hk,d.out⟩
     ·rw[HDj.out]at u;have bJ:cpu<Y.aAh:=by rw[aDQ.out.aAh];exact hc
      obtain⟨g1,g2,g3,g4⟩:=BA.out.UR (l:=⟨cpu,z,t,[]⟩) (n:=m) ⟨bJ,hz,ht⟩ (by rw[<- YK.out];exact H8j.out) (by omega) u;have S:Hid (h1.fill ⟨cpu,z,t,[]⟩ D 3=Hp.fill {h2 with ls:=bK h2.ls ⟨cpu,z,t,[]⟩ a2} ⟨cpu,z,t,[]⟩ D m):=by
       unfold Hid;rw[HFj.out,YK.out,Hp.fill];simp only[u]
      have a:=gO B;have SF4:=gO (L.out.trans s);have K7:=gO (s.box K6.out aF8 HXB.out);have G1:=gO g1;have G2:=gO g2;have G3:=gO g3;have G4:=gO (aDQ.out.trans g4);have b0:=K7.out 0;have b1:=K7.out 1;have b2:=K7.out 2;have b3:=K7.out 3;simp only[gB,gC,gD]at b0 b1 b2 b3;have hmj:m=3-(j+1):=by have:=YK.out;omega
      clear B s u g1 g2 g3 g4 qK L HFj H8j K6 K7;go_wp2_with fail
      refine(TW G a2 ⟨cpu,z,t,[]⟩ aJ 0 0 (λk=>X k∨(w.heap.size<=k/\k<y.heap.size)) h2 _ w4 a.out G1.out ⟨hz,ht⟩).mono ?_;rintro ev w5 ⟨rfl,⟨al',cl',uX,hs5⟩,sf5⟩;have HS5:=gO hs5;have SF5:=gO (SF4.out.trans sf5);clear hs5 sf5 b0 b1 b2 b3;subst hmj;go_wp2
      go_roundw
      case rel=>exact⟨j+1,_,_,by omega,by go_num,HS5,SF5,G2,G4,S,G3⟩
      case measure=>simp[intOf];omega
    ·obtain rfl:j=3:=by omega
     have S:Hid (h1.fill ⟨cpu,z,t,[]⟩ D 3=Y):=HFj.out;have d:=gO (f.out.trans (L.out.sub λk _ hk=> .inl hk));go_wp2
     go_ret2
     exact .inr ⟨_,a1,_,by rw[HD.out,HSN.out,HSO.out];simp only[Option.map_some];rw[S.out],rfl,qK.out.sub λk hk=> .inl hk,d.out⟩
def Hp.tries (h:Hp)(cpu order t:Nat)(u lo:Bool):Nat->Option (Hp×Nat)
 | 0=>aJ
 | r+1=>match h.ask cpu r order t u lo with
  | some x=>aK x
  | none=>Hp.tries h cpu order t u lo r
theorem Ic (h:Hp)(cpu order t:Nat)(u lo:Bool):h.attempt cpu order t u lo=h.tries cpu order t u lo (if lo then 1 else 2):=by
 unfold Hp.attempt;cases lo with
 | true=>
  simp only[if_true,Hp.tries];cases h.ask cpu 0 order t u true <;> rfl
 | false=>
  simp only[Bool.false_eq_true,if_false,Hp.tries];cases h.ask cpu 1 order t u false with
  | some x=>rfl
  | none=>simp only;cases h.ask cpu 0 order t u false <;> rfl
theorem FQ (G cpu order t flags:Nat)(X:Nat->Prop)(h:Hp)(c:Hc)(w:World)(hs:HS w G X h c)(hk:eY h)(hc:cpu<h.aAh)(hor:order<=4)(ht:t<3)(hf:flags<=15)(ho:sS w)(hx0:X 1):
 Calls prog 105 #[aH (aK ⟨G,0,aJ⟩),aB aI cpu,aB aI order,aB aI t,aB aI flags] w (Res (h.attempt cpu order t (decide (flags/8%2=1)) (decide (flags%2=1))) G X h c w):=by
 obtain⟨V,W,F,E⟩:=boxes1 w #[aB aI 1,aB aI 0] 3;have P:=gO (hs.new E);have n:=gO (Safe.jD (X:=X) E);have Q:=gO (ho.below E);have J:=gO hk;have U:=gO V;have Z:=gO hs.r.xs;obtain⟨hb8,S⟩:=Oa flags hf;have T:=gO (Ic h cpu order t (decide (flags/8%2=1)) (decide (flags%2=1)));clear hs hk E ho V W;by_cases H:flags%2=1
 ·rw[if_pos H]at S;have D:Hid (h.attempt cpu order t (decide (flags/8%2=1)) (decide (flags%2=1))=h.tries cpu order t (decide (flags/8%2=1)) (decide (flags%2=1)) 1):=by
   unfold Hid;rw[T.out];congr 1;simp[H]
  go_enter func105,ntmps105
  go_wp2_with fail
  generalize w.alloc _=u at*;go_loopw [25] (λz wr=>∃i:Nat,i<=1/\z=aB aI (i:Int)/\Hid (HS wr G (λk=>X k∨(w.heap.size<=k/\k<u.heap.size)) h c)/\Hid (Safe (λk=>X k∨(w.heap.size<=k/\k<u.heap.size)) u wr)/\Hid (h.attempt cpu order t (decide (flags/8%2=1)) (decide (flags%2=1))=h.tries cpu order t (decide (flags/8%2=1)) (decide (flags%2=1)) (1-i))) (λz _=>1-(intOf z).toNat)
  case atStart=>exact⟨0,by omega,rfl,P,Safe.refl _ _,D⟩
  case round=>
   obtain⟨i,hi,rfl,I,q,C⟩:=hrel;clear T D;have v:=gO (Q.out.safe q.out (Or.inl hx0));have y:=q.out.box U.out F (show(λk=>X k∨(w.heap.size<=k/\k<u.heap.size)) w.heap.size from .inr ⟨gT _,F⟩);have z0:=y 0;have z1:=y 1;simp only[gB,gC,gD]at z0 z1;clear y;obtain rfl | rfl:i=0∨i=1:=by omega
   ·skip
    have B:Hid (h.attempt cpu order t (decide (flags/8%2=1)) (decide (flags%2=1))=match h.ask cpu 0 order t (decide (flags/8%2=1)) (decide (flags%2=1))with
     | some x=>aK x
     | none=>h.tries cpu order t (decide (flags/8%2=1)) (decide (flags%2=1)) 0):=C.out
    by_cases A:order=0
    ·have O:((order:Int) == 0)=true:=by rw[beq_iff_eq];omega
     have s:=gO A;clear A;go_wp2_with fail
     refine(CP G cpu 0 t flags (λk=>X k∨(w.heap.size<=k/\k<u.heap.size)) h c wr I.out J.out hc (by omega) ht hf v.out (Or.inl hx0)).mono ?_;rintro N K (⟨g,rfl,b,l⟩ | ⟨o,a,L,m,rfl,b,l⟩)
     ·have p:Hid (h.ask cpu 0 order t (decide (flags/8%2=1)) (decide (flags%2=1))=aJ):=by
       unfold Hid Hp.ask;rw[if_pos s.out];exact g
      have j:Hid (h.attempt cpu order t (decide (flags/8%2=1)) (decide (flags%2=1))=h.tries cpu order t (decide (flags/8%2=1)) (decide (flags%2=1)) (1-1)):=by
       unfold Hid;rw[B.out,p.out]
      have d:=gO b;have f:=gO (q.out.trans l);clear g b l;go_wp2
      go_roundw
      case rel=>exact⟨1,by omega,by go_num,d,f,j⟩
      case measure=>simp[intOf]
     ·have p:Hid (h.attempt cpu order t (decide (flags/8%2=1)) (decide (flags%2=1))=aK (o,a)):=by
       have e:h.ask cpu 0 order t (decide (flags/8%2=1)) (decide (flags%2=1))=aK (o,a):=by
        unfold Hp.ask;rw[if_pos s.out];exact m
       unfold Hid;rw[B.out,e]
      have d:=gO (b.sub (Y:=X) λk hk=> .inl hk);have f:=gO (n.out.trans ((q.out.trans l).sub λk _ hk=> .inl hk));clear m b l;go_wp2
      go_ret2
      exact .inr ⟨o,a,L,p.out,rfl,d.out,f.out⟩
    ·have O:((order:Int) == 0)=false:=by rw[beq_eq_false_iff_ne];omega
     have s:=gO A;clear A;go_wp2_with fail
     refine(AA G 0 order t flags (λk=>X k∨(w.heap.size<=k/\k<u.heap.size)) h c wr I.out J.out (by omega) hor ht hf v.out).mono ?_;rintro N K (⟨g,rfl,b,l⟩ | ⟨o,a,M,R,m,rfl,b,l⟩)
     ·have p:Hid (h.ask cpu 0 order t (decide (flags/8%2=1)) (decide (flags%2=1))=aJ):=by
       unfold Hid Hp.ask;rw[if_neg s.out];exact g
      have j:Hid (h.attempt cpu order t (decide (flags/8%2=1)) (decide (flags%2=1))=h.tries cpu order t (decide (flags/8%2=1)) (decide (flags%2=1)) (1-1)):=by
       unfold Hid;rw[B.out,p.out]
      have d:=gO b;have f:=gO (q.out.trans l);clear g b l;go_wp2
      go_roundw
      case rel=>exact⟨1,by omega,by go_num,d,f,j⟩
      case measure=>simp[intOf]
     ·have p:Hid (h.attempt cpu order t (decide (flags/8%2=1)) (decide (flags%2=1))=aK (o,a)):=by
       have e:h.ask cpu 0 order t (decide (flags/8%2=1)) (decide (flags%2=1))=aK (o,a):=by
        unfold Hp.ask;rw[if_neg s.out];exact m
       unfold Hid;rw[B.out,e]
      have d:=gO (b.sub (Y:=X) λk hk=> .inl hk);have f:=gO (n.out.trans ((q.out.trans l).sub λk _ hk=> .inl hk));clear m b l;go_wp2
      go_ret2
      exact .inr ⟨o,a,_,p.out,rfl,d.out,f.out⟩
   ·have d:=gO (I.out.sub (Y:=X) λk hk=> .inl hk);have f:=gO (n.out.trans (q.out.sub λk _ hk=> .inl hk));go_wp2
    go_ret2
    exact .inl ⟨C.out,rfl,d.out,f.out⟩
 ·rw[if_neg H]at S;have D:Hid (h.attempt cpu order t (decide (flags/8%2=1)) (decide (flags%2=1))=h.tries cpu order t (decide (flags/8%2=1)) (decide (flags%2=1)) 2):=by
   unfold Hid;rw[T.out];congr 1;simp[H]
  go_enter func105,ntmps105
  go_wp2_with fail
  generalize w.alloc _=u at*;go_loopw [25] (λz wr=>∃i:Nat,i<=2/\z=aB aI (i:Int)/\Hid (HS wr G (λk=>X k∨(w.heap.size<=k/\k<u.heap.size)) h c)/\Hid (Safe (λk=>X k∨(w.heap.size<=k/\k<u.heap.size)) u wr)/\Hid (h.attempt cpu order t (decide (flags/8%2=1)) (decide (flags%2=1))=h.tries cpu order t (decide (flags/8%2=1)) (decide (flags%2=1)) (2-i))) (λz _=>2-(intOf z).toNat)
  case atStart=>exact⟨0,by omega,rfl,P,Safe.refl _ _,D⟩
  case round=>
   obtain⟨i,hi,rfl,I,q,C⟩:=hrel;clear T D;have v:=gO (Q.out.safe q.out (Or.inl hx0));have y:=q.out.box U.out F (show(λk=>X k∨(w.heap.size<=k/\k<u.heap.size)) w.heap.size from .inr ⟨gT _,F⟩);have z0:=y 0;have z1:=y 1;simp only[gB,gC,gD]at z0 z1;clear y;obtain rfl | rfl | rfl:i=0∨i=1∨i=2:=by omega
   ·skip
    have B:Hid (h.attempt cpu order t (decide (flags/8%2=1)) (decide (flags%2=1))=match h.ask cpu 1 order t (decide (flags/8%2=1)) (decide (flags%2=1))with
     | some x=>aK x
     | none=>h.tries cpu order t (decide (flags/8%2=1)) (decide (flags%2=1)) 1):=C.out
    by_cases A:order=0
    ·have O:((order:Int) == 0)=true:=by rw[beq_iff_eq];omega
     have s:=gO A;clear A;go_wp2_with fail
     refine(CP G cpu 1 t flags (λk=>X k∨(w.heap.size<=k/\k<u.heap.size)) h c wr I.out J.out hc (by omega) ht hf v.out (Or.inl hx0)).mono ?_;rintro N K (⟨g,rfl,b,l⟩ | ⟨o,a,L,m,rfl,b,l⟩)
     ·have p:Hid (h.ask cpu 1 order t (decide (flags/8%2=1)) (decide (flags%2=1))=aJ):=by
       unfold Hid Hp.ask;rw[if_pos s.out];exact g
      have j:Hid (h.attempt cpu order t (decide (flags/8%2=1)) (decide (flags%2=1))=h.tries cpu order t (decide (flags/8%2=1)) (decide (flags%2=1)) (2-1)):=by
       unfold Hid;rw[B.out,p.out]
      have d:=gO b;have f:=gO (q.out.trans l);clear g b l;go_wp2
      go_roundw
      case rel=>exact⟨1,by omega,by go_num,d,f,j⟩
      case measure=>simp[intOf]
     ·have p:Hid (h.attempt cpu order t (decide (flags/8%2=1)) (decide (flags%2=1))=aK (o,a)):=by
       have e:h.ask cpu 1 order t (decide (flags/8%2=1)) (decide (flags%2=1))=aK (o,a):=by
        unfold Hp.ask;rw[if_pos s.out];exact m
       unfold Hid;rw[B.out,e]
      have d:=gO (b.sub (Y:=X) λk hk=> .inl hk);have f:=gO (n.out.trans ((q.out.trans l).sub λk _ hk=> .inl hk));clear m b l;go_wp2
      go_ret2
      exact .inr ⟨o,a,L,p.out,rfl,d.out,f.out⟩
    ·have O:((order:Int) == 0)=false:=by rw[beq_eq_false_iff_ne];omega
     have s:=gO A;clear A;go_wp2_with fail
     refine(AA G 1 order t flags (λk=>X k∨(w.heap.size<=k/\k<u.heap.size)) h c wr I.out J.out (by omega) hor ht hf v.out).mono ?_;rintro N K (⟨g,rfl,b,l⟩ | ⟨o,a,M,R,m,rfl,b,l⟩)
     ·have p:Hid (h.ask cpu 1 order t (decide (flags/8%2=1)) (decide (flags%2=1))=aJ):=by
       unfold Hid Hp.ask;rw[if_neg s.out];exact g
      have j:Hid (h.attempt cpu order t (decide (flags/8%2=1)) (decide (flags%2=1))=h.tries cpu order t (decide (flags/8%2=1)) (decide (flags%2=1)) (2-1)):=by
       unfold Hid;rw[B.out,p.out]
      have d:=gO b;have f:=gO (q.out.trans l);clear g b l;go_wp2
      go_roundw
      case rel=>exact⟨1,by omega,by go_num,d,f,j⟩
      case measure=>simp[intOf]
     ·have p:Hid (h.attempt cpu order t (decide (flags/8%2=1)) (decide (flags%2=1))=aK (o,a)):=by
       have e:h.ask cpu 1 order t (decide (flags/8%2=1)) (decide (flags%2=1))=aK (o,a):=by
        unfold Hp.ask;rw[if_neg s.out];exact m
       unfold Hid;rw[B.out,e]
      have d:=gO (b.sub (Y:=X) λk hk=> .inl hk);have f:=gO (n.out.trans ((q.out.trans l).sub λk _ hk=> .inl hk));clear m b l;go_wp2
      go_ret2
      exact .inr ⟨o,a,_,p.out,rfl,d.out,f.out⟩
   ·skip
    have B:Hid (h.attempt cpu order t (decide (flags/8%2=1)) (decide (flags%2=1))=match h.ask cpu 0 order t (decide (flags/8%2=1)) (decide (flags%2=1))with
     | some x=>aK x
     | none=>h.tries cpu order t (decide (flags/8%2=1)) (decide (flags%2=1)) 0):=C.out
    by_cases A:order=0
    ·have O:((order:Int) == 0)=true:=by rw[beq_iff_eq];omega
     have s:=gO A;clear A;go_wp2_with fail
     refine(CP G cpu 0 t flags (λk=>X k∨(w.heap.size<=k/\k<u.heap.size)) h c wr I.out J.out hc (by omega) ht hf v.out (Or.inl hx0)).mono ?_;rintro N K (⟨g,rfl,b,l⟩ | ⟨o,a,L,m,rfl,b,l⟩)
     ·have p:Hid (h.ask cpu 0 order t (decide (flags/8%2=1)) (decide (flags%2=1))=aJ):=by
       unfold Hid Hp.ask;rw[if_pos s.out];exact g
      have j:Hid (h.attempt cpu order t (decide (flags/8%2=1)) (decide (flags%2=1))=h.tries cpu order t (decide (flags/8%2=1)) (decide (flags%2=1)) (2-2)):=by
       unfold Hid;rw[B.out,p.out]
      have d:=gO b;have f:=gO (q.out.trans l);clear g b l;go_wp2
      go_roundw
      case rel=>exact⟨2,by omega,by go_num,d,f,j⟩
      case measure=>simp[intOf]
     ·have p:Hid (h.attempt cpu order t (decide (flags/8%2=1)) (decide (flags%2=1))=aK (o,a)):=by
       have e:h.ask cpu 0 order t (decide (flags/8%2=1)) (decide (flags%2=1))=aK (o,a):=by
        unfold Hp.ask;rw[if_pos s.out];exact m
       unfold Hid;rw[B.out,e]
      have d:=gO (b.sub (Y:=X) λk hk=> .inl hk);have f:=gO (n.out.trans ((q.out.trans l).sub λk _ hk=> .inl hk));clear m b l;go_wp2
      go_ret2
      exact .inr ⟨o,a,L,p.out,rfl,d.out,f.out⟩
    ·have O:((order:Int) == 0)=false:=by rw[beq_eq_false_iff_ne];omega
     have s:=gO A;clear A;go_wp2_with fail
     refine(AA G 0 order t flags (λk=>X k∨(w.heap.size<=k/\k<u.heap.size)) h c wr I.out J.out (by omega) hor ht hf v.out).mono ?_;rintro N K (⟨g,rfl,b,l⟩ | ⟨o,a,M,R,m,rfl,b,l⟩)
     ·have p:Hid (h.ask cpu 0 order t (decide (flags/8%2=1)) (decide (flags%2=1))=aJ):=by
       unfold Hid Hp.ask;rw[if_neg s.out];exact g
      have j:Hid (h.attempt cpu order t (decide (flags/8%2=1)) (decide (flags%2=1))=h.tries cpu order t (decide (flags/8%2=1)) (decide (flags%2=1)) (2-2)):=by
       unfold Hid;rw[B.out,p.out]
      have d:=gO b;have f:=gO (q.out.trans l);clear g b l;go_wp2
      go_roundw
      case rel=>exact⟨2,by omega,by go_num,d,f,j⟩
      case measure=>simp[intOf]
     ·have p:Hid (h.attempt cpu order t (decide (flags/8%2=1)) (decide (flags%2=1))=aK (o,a)):=by
       have e:h.ask cpu 0 order t (decide (flags/8%2=1)) (decide (flags%2=1))=aK (o,a):=by
        unfold Hp.ask;rw[if_neg s.out];exact m
       unfold Hid;rw[B.out,e]
      have d:=gO (b.sub (Y:=X) λk hk=> .inl hk);have f:=gO (n.out.trans ((q.out.trans l).sub λk _ hk=> .inl hk));clear m b l;go_wp2
      go_ret2
      exact .inr ⟨o,a,_,p.out,rfl,d.out,f.out⟩
   ·have d:=gO (I.out.sub (Y:=X) λk hk=> .inl hk);have f:=gO (n.out.trans (q.out.sub λk _ hk=> .inl hk));go_wp2
    go_ret2
    exact .inl ⟨C.out,rfl,d.out,f.out⟩
theorem Ji (az am al av:Option Addr)(cz cm cl cv nl nv:Nat)(y0 y1:Zc)(lc:List Lc)(h:Hp)(w:World)(hh:HAt w az am al av nl nv y0 y1 lc h)(hk:eY h)(hnl:nl<=1000)(Rk:nv<=1000):
 Calls prog 23 #[aC #[aA az 2 cz,aA am 2 cm,aB aI h.aAh,aA al nl cl,aA av nv cv]] w λev w'=>∃c':Hc,ev=aN (aG #[.agg (c'.vals h.drain),aB aI 0])/\kR w' w.heap.size h.drain c'/\Below w.heap.size w w':=by
 obtain⟨x,K2,F1,F2,z,u⟩:=boxes2 w #[aA az 2 cz,aA am 2 cm,aB aI (h.aAh:Int),aA al nl cl,aA av nv cv] 39 #[aA aJ 0 0,aA aJ 0 0,aB aI 0,aA aJ 0 0,aA aJ 0 0] 39;have HH:=gO (hh.below u);have HK:=gO hk;have P:=gO u;have G:h.drain.aAh=h.aAh:=hk.drain.2.2.1.aAh;have Hf:=gO G;have b:=x 0;have d:=x 1;have i:=x 2;have e:=x 3;have f:=x 4;simp only[gB,gC,gD]at b d i e f;clear hh hk u G;go_enter func23,ntmps23
 go_wp2_with fail
 generalize (w.alloc _).alloc _=w1 at*;refine(yA _ _ _ _ _ _ _ _ _ _ _ _ _ h w1 HH.out HK.out hnl Rk).mono ?_;rintro ev F ⟨rfl,n⟩;have D:=aAp x (by omega) n;have N:=aAt F1 (by omega) n;have U:=aAp K2 z n;have M:=aAt F2 z n;have V:=gO (HH.out.below n);have Z:=gO (Below.trans P.out (n.mono P.out.size));have s:w.heap.size+1<F.heap.size:=gI z n.size;clear b d i e f n x F1 K2 F2;have b:=D 0;have d:=D 1;have i:=D 2;have e:=D 3;have f:=D 4;simp only[gB,gC,gD]at b d i e f;go_wp2_with fail
 refine(AO _ _ _ _ _ _ _ _ _ _ _ _ _ h F V.out HK.out Rk).mono ?_;rintro ev w3 ⟨g,c,rfl,I,hg3,q⟩;have y:=aAp D (by omega) q;have A:=aAt N (by omega) q;have T:=gO (aAp U s q);have K:=gO (aAt M s q);have H:=gO (I.move (B:=w.heap.size) (show w.heap.size<F.heap.size by omega) y A);have L:=gO (Below.trans Z.out (q.mono Z.out.size));clear b d i e f D N U M I HH V hg3;have b:=y 0;have d:=y 1;have i:=y 2;have e:=y 3;have f:=y 4;have X:=A 0;have Q:=A 1;have O:=A 2;have f13:=A 3;have J:=A 4;simp only[gB,gC,gD]at b d i e f;unfold Hc.vals;go_wp2_with fail
 have Ie:Hid (HS (((((w3.setCell ⟨w.heap.size,0,aJ⟩ (aA c.az 2 c.cz)).setCell ⟨w.heap.size,1,aJ⟩ (aA c.am 2 c.cm)).setCell ⟨w.heap.size,2,aJ⟩ (aB aI (h.aAh:Int))).setCell ⟨w.heap.size,3,aJ⟩ (aA c.al c.lc.length c.cl)).setCell ⟨w.heap.size,4,aJ⟩ (aA c.av h.live.length c.cv)) w.heap.size (λk=>k<F.heap.size/\k≠w.heap.size) h c):=H;have j:w.heap.size+1≠w.heap.size:=by omega
 have Y:=gO (aAc (aAc (aAc (aAc (aAc T.out j 0 (aA c.az 2 c.cz)) j 1 (aA c.am 2 c.cm)) j 2 (aB aI (h.aAh:Int))) j 3 (aA c.al c.lc.length c.cl)) j 4 (aA c.av h.live.length c.cv));have S:=gO (aAs (aAs (aAs (aAs (aAs K.out ⟨w.heap.size,0,aJ⟩ (aA c.az 2 c.cz)) ⟨w.heap.size,1,aJ⟩ (aA c.am 2 c.cm)) ⟨w.heap.size,2,aJ⟩ (aB aI (h.aAh:Int))) ⟨w.heap.size,3,aJ⟩ (aA c.al c.lc.length c.cl)) ⟨w.heap.size,4,aJ⟩ (aA c.av h.live.length c.cv));have m:w.heap.size<=w.heap.size:=gT _;have R:=gO (gS (gS (gS (gS (gS L.out w.heap.size 0 m (aA c.az 2 c.cz)) w.heap.size 1 m (aA c.am 2 c.cm)) w.heap.size 2 m (aB aI (h.aAh:Int))) w.heap.size 3 m (aA c.al c.lc.length c.cl)) w.heap.size 4 m (aA c.av h.live.length c.cv));have qG:w.heap.size+1<(((((w3.setCell ⟨w.heap.size,0,aJ⟩ (aA c.az 2 c.cz)).setCell ⟨w.heap.size,1,aJ⟩ (aA c.am 2 c.cm)).setCell ⟨w.heap.size,2,aJ⟩ (aB aI (h.aAh:Int))).setCell ⟨w.heap.size,3,aJ⟩ (aA c.al c.lc.length c.cl)).setCell ⟨w.heap.size,4,aJ⟩ (aA c.av h.live.length c.cv)).heap.size:=by have:=q.size;simp;omega
 clear b d i e f X Q O f13 J y A T K H q L;generalize (((((w3.setCell _ _).setCell _ _).setCell _ _).setCell _ _).setCell _ _)=w4 at*;have p:(λk=>k<F.heap.size/\k≠w.heap.size) (w.heap.size+1):=⟨s,j⟩
 refine(Ov w.heap.size (λk=>k<F.heap.size/\k≠w.heap.size) h c w4 Ie.out HK.out).mono ?_;rintro ev w5 ⟨rfl,⟨a,C⟩,t⟩;have E:=t.box Y.out qG p;have W:=t.Xe S.out qG p;have HB5:=gO (Safe.after R.out t (B:=w.heap.size) (λk hk=>⟨by omega,by omega⟩) (by omega));obtain⟨q0,q1,q2,q3,q4⟩:=C.words;have oI:=gO (((((C.far p 0 (aA a.az 2 a.cz)).far p 1 (aA a.am 2 a.cm)).far p 2 (aB aI (h.drain.aAh:Int))).far p 3 (aA a.al a.lc.length a.cl)).far p 4 (aA a.av h.drain.live.length a.cv));have l:w.heap.size<=w.heap.size+1:=Nat.le_succ _;have jA:=gO (gS (gS (gS (gS (gS HB5.out (w.heap.size+1) 0 l (aA a.az 2 a.cz)) (w.heap.size+1) 1 l (aA a.am 2 a.cm)) (w.heap.size+1) 2 l (aB aI (h.drain.aAh:Int))) (w.heap.size+1) 3 l (aA a.al a.lc.length a.cl)) (w.heap.size+1) 4 l (aA a.av h.drain.live.length a.cv));have KX:=aAr (aAr (aAr (aAr (aAr E 0 (aA a.az 2 a.cz)) 1 (aA a.am 2 a.cm)) 2 (aB aI (h.drain.aAh:Int))) 3 (aA a.al a.lc.length a.cl)) 4 (aA a.av h.drain.live.length a.cv);have b:=E 0;have d:=E 1;have i:=E 2;have e:=E 3;have f:=E 4;have X:=W 0;have Q:=W 1;have O:=W 2;have f13:=W 3;have J:=W 4;simp only[gB,gC,gD]at b d i e f;clear C t Ie Y S R;go_wp2
 generalize (((((w5.setCell _ _).setCell _ _).setCell _ _).setCell _ _).setCell _ _)=wx at*;change ∀o,wx.cell? ⟨w.heap.size+1,o,aJ⟩=(#[aA a.az 2 a.cz,aA a.am 2 a.cm,aB aI (h.drain.aAh:Int),aA a.al a.lc.length a.cl,aA a.av h.drain.live.length a.cv]:Array Value)[o]? at KX;refine bodyPost_ret (v:=aG #[aC #[aA a.az 2 a.cz,aA a.am 2 a.cm,aB aI (h.drain.aAh:Int),aA a.al a.lc.length a.cl,aA a.av h.drain.live.length a.cv],aB aI 0]) (by simp[results,results23,go_sem,KX]) rfl ⟨a,rfl,oI.out.r.sub (λk hk=>⟨by omega,by omega⟩),jA.out⟩
theorem zN {h:Hp}(hk:eY h):∀j,j<=6->bQ (dK h j)
 | 0,_=>NI hk
 | j+1,hj=>by
  obtain⟨h1,h2,h3⟩:=yZ h (j:=j) (by omega);have a:1<=[1,2,4,8,16,32].getD j 0/\[1,2,4,8,16,32].getD j 0<=64:=by
   obtain rfl | rfl | rfl | rfl | rfl | rfl:j=0∨j=1∨j=2∨j=3∨j=4∨j=5:=by omega
   all_goals decide
  exact((zN hk j (by omega)).create h3 a h1 h2).1
def zT (a b c:Int):Bt:=⟨[⟨pk a 20,40+pk b 60⟩,⟨130+pk c 10,16+pk a 90⟩],[⟨pk a 20+pk c 30,1+pk a 7⟩,⟨150+pk b 9,1+pk c 5⟩]⟩
theorem fA (n:Int){m:Int}(h:1<=m):0<=pk n m/\pk n m<m:=⟨xU n m h,Tj n m h⟩
theorem GN (a b c:Int):dM (zT a b c).m=true/\dM (zT a b c).r=true:=by
 have j:=fA a (m:=20) (by decide);have h:=fA b (m:=60) (by decide);have n:=fA c (m:=10) (by decide);have i:=fA a (m:=90) (by decide);have l:=fA c (m:=30) (by decide);have f:=fA a (m:=7) (by decide);have k:=fA b (m:=9) (by decide);have g:=fA c (m:=5) (by decide);have d:dF aJ (zT a b c).m=true:=by
  simp[zT,dF,LV,zJ];omega
 have e:dF aJ (zT a b c).r=true:=by
  simp[zT,dF,LV,zJ];omega
 exact⟨by unfold dM;rw[d];rfl,by unfold dM;rw[e];rfl⟩
theorem JG (a b c:Int)(w:World)(ha: -9223372036854775808<=a/\a<=9223372036854775807)(hb: -9223372036854775808<=b/\b<=9223372036854775807)(hc: -9223372036854775808<=c/\c<=9223372036854775807):
 Calls prog 26 #[aB aI a,aB aI b,aB aI c] w λev w'=>∃g1 g2,ev=aN (aC #[aA (aK ⟨g1,0,aJ⟩) 2 2,aA (aK ⟨g2,0,aJ⟩) 2 2,aB aI (16*pk a 9),aB aI (pk b 12),aB aI (1+pk c 4)])/\vZ w' (aK ⟨g1,0,aJ⟩) (aK ⟨g2,0,aJ⟩) 2 2 (zT a b c)/\Below w.heap.size w w'/\w.heap.size<=g1/\w.heap.size<=g2:=by
 have z:=fA a (m:=20) (by decide);have x:=fA b (m:=60) (by decide);have D:=fA c (m:=10) (by decide);have y:=fA a (m:=90) (by decide);have B:=fA c (m:=30) (by decide);have E:=fA a (m:=7) (by decide);have A:=fA b (m:=9) (by decide);have C:=fA c (m:=5) (by decide);have F:=fA a (m:=9) (by decide);have p:=fA b (m:=12) (by decide);have q:=fA c (m:=4) (by decide);go_enter func26,ntmps26
 go_wp2_with (go_at_call 13;refine(yU _ _ _ (by omega) (by omega) (by decide) (by decide)).mono ?_;rintro e w' ⟨rfl,rfl⟩)
 have o:=aAq w (aO #[aA (aK ⟨w.heap.size+1+1,0,aJ⟩) 2 2,aA (aK ⟨w.heap.size+1+1+1,0,aJ⟩) 2 2,aB aI (16*pk a 9),aB aI (pk b 12),aB aI (1+pk c 4)] 29);have k1:=aQ w #[aA (aK ⟨w.heap.size+1+1,0,aJ⟩) 2 2,aA (aK ⟨w.heap.size+1+1+1,0,aJ⟩) 2 2,aB aI (16*pk a 9),aB aI (pk b 12),aB aI (1+pk c 4)] 29;have z1:(w.alloc (aO #[aA (aK ⟨w.heap.size+1+1,0,aJ⟩) 2 2,aA (aK ⟨w.heap.size+1+1+1,0,aJ⟩) 2 2,aB aI (16*pk a 9),aB aI (pk b 12),aB aI (1+pk c 4)] 29)).heap.size=w.heap.size+1:=by simp
 generalize w.alloc _=g at*;have n:=aAq g (aO #[aA (aK ⟨w.heap.size+1+1,0,aJ⟩) 2 2,aA (aK ⟨w.heap.size+1+1+1,0,aJ⟩) 2 2,aB aI (16*pk a 9),aB aI (pk b 12),aB aI (1+pk c 4)] 29);have l:(g.alloc (aO #[aA (aK ⟨w.heap.size+1+1,0,aJ⟩) 2 2,aA (aK ⟨w.heap.size+1+1+1,0,aJ⟩) 2 2,aB aI (16*pk a 9),aB aI (pk b 12),aB aI (1+pk c 4)] 29)).heap.size=w.heap.size+1+1:=by simp[z1]
 generalize g.alloc _=d at*;have i:=Ey d (flat iI (zT a b c).m) 133;have j:=aAq d (.cells (flat iI (zT a b c).m).toArray 133);have s:(d.alloc (.cells (flat iI (zT a b c).m).toArray 133)).heap.size=w.heap.size+1+1+1:=by simp[l]
 rw[show d.alloc (aO #[aB aI (pk a 20),aB aI (40+pk b 60),aB aI (130+pk c 10),aB aI (16+pk a 90)] 133)=d.alloc (.cells (flat iI (zT a b c).m).toArray 133)from rfl];generalize d.alloc _=f at*;have k:=Ey f (flat iI (zT a b c).r) 133;have h:=aAq f (.cells (flat iI (zT a b c).r).toArray 133);rw[show f.alloc (aO #[aB aI (pk a 20+pk c 30),aB aI (1+pk a 7),aB aI (150+pk b 9),aB aI (1+pk c 5)] 133)=f.alloc (.cells (flat iI (zT a b c).r).toArray 133)from rfl];generalize f.alloc _=u at*;rw[l]at i;rw[s]at k;have t:=aAp (aAp (aAp k1 (by omega) n) (by omega) j) (by omega) h;refine bodyPost_ret (v:=aC #[aA (aK ⟨w.heap.size+1+1,0,aJ⟩) 2 2,aA (aK ⟨w.heap.size+1+1+1,0,aJ⟩) 2 2,aB aI (16*pk a 9),aB aI (pk b 12),aB aI (1+pk c 4)]) (by simp[results,results26,go_sem,t]) rfl ⟨_,_,rfl,⟨rfl,rfl,i.below h,k⟩,gW (gW (gW o n) j) h,by omega,by omega⟩
theorem aAj (a b c:Int)(w:World)(ha: -9223372036854775808<=a/\a<=9223372036854775807)(hb: -9223372036854775808<=b/\b<=9223372036854775807)(hc: -9223372036854775808<=c/\c<=9223372036854775807):
 Calls prog 26 #[aB aI a,aB aI b,aB aI c] w λev w'=>∃a1 c1 a2 c2,ev=aN (aC #[aA a1 2 c1,aA a2 2 c2,aB aI (16*pk a 9),aB aI (pk b 12),aB aI (1+pk c 4)])/\vZ w' a1 a2 2 2 (zT a b c)/\Below w.heap.size w w':=
 (JG a b c w ha hb hc).mono λev w' ⟨h,g,e,d,f,_⟩=>⟨_,_,_,_,e,d,f⟩
theorem vZ.set {w:World}{g1 g2 n1 n2:Nat}{b:Bt}(h:vZ w (aK ⟨g1,0,aJ⟩) (aK ⟨g2,0,aJ⟩) n1 n2 b){g:Nat}(h1:g1≠g)(h2:g2≠g)(i:Nat)(u:Value):vZ (w.setCell ⟨g,i,aJ⟩ u) (aK ⟨g1,0,aJ⟩) (aK ⟨g2,0,aJ⟩) n1 n2 b:=by
 have key:∀{q:Nat} {c:List Value},q≠g->Row w (aK ⟨q,0,aJ⟩) c->Row (w.setCell ⟨g,i,aJ⟩ u) (aK ⟨q,0,aJ⟩) c:=fun{q c} n f j v d=>by
  obtain⟨a,off,e,hb,l⟩:=f j v d;refine⟨a,off,e,by rw[World.size_setCell];exact hb,?_⟩;have m:(⟨g,i,aJ⟩:Addr)≠⟨a,off+j,aJ⟩:=λk=>by
   have p:g=a:=congrArg Addr.block k;have o:q=a:=congrArg Addr.block (gP e);omega
  exact(World.cell?_setCell_other _ _ _ _ m).trans l
 exact⟨h.l1,h.l2,key h1 h.r1,key h2 h.r2⟩
end Go.Proofs.YtjaogfhcnmjkiaaGreatDoor
