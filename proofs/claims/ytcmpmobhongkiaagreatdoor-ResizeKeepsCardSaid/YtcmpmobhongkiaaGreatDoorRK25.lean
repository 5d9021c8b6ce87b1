/- joined. -/
import Derived.Test.YtcmpmobhongkiaaGreatDoorRK0
import Derived.Test.YtcmpmobhongkiaaGreatDoorRK18
import Derived.Test.YtcmpmobhongkiaaGreatDoorRK24
import Derived.Test.YtcmpmobhongkiaaGreatDoorRK4
import Derived.Test.YtcmpmobhongkiaaGreatDoorRK8
set_option linter.unusedVariables false
set_option linter.unusedSimpArgs false
namespace Go.Proofs.YtcmpmobhongkiaaGreatDoor
section
theorem jW {h:Hp}(hk:dZ h){b b':Bk}(hb:b∈h.live)(hb':b'∈h.live)(hne:b.a≠b'.a):apartB b.a b.o b':=dG fun q h1 h2=>by
 obtain⟨i,hi,e⟩:=List.mem_iff_getElem.1 hb;have h3:=hk.one q;rw[dI]at h3;have h4:=zG hi q;have h5:b'∈h.live.eraseIdx i:=by
  obtain⟨j,hj,e'⟩:=List.mem_iff_getElem.1 hb';have hij:j≠i:=fun e2=>by
   subst e2;rw[e]at e';exact hne (by rw[e'])
  rw[List.mem_eraseIdx_iff_getElem];exact⟨j,hj,hij,e'⟩
 have h6:0<cnt (h.live.eraseIdx i) q:=iL.2 ⟨b',h5,h2⟩;have h7:hit h.live[i] q=1:=jI.2 (by rw[e];exact h1);omega
theorem bK.JD {s:Sy}(hk:bK s){c d:Ca}{x y:Sl}{a:Int}(hc:c∈s.cs)(hd:d∈s.cs)(hx:x∈c.sl)(hy:y∈d.sl)(h1:fU c x.p a=true)(h2:fU d y.p a=true):x.p=y.p:=by
 obtain⟨b,hb,hb1,hb2⟩:=((hk.ck c hc).sk x hx).live;obtain⟨b',hb',hb1',hb2'⟩:=((hk.ck d hd).sk y hy).live;apply Decidable.byContradiction;intro hne;have h3:=jW hk.hk hb hb' (by rw[hb1,hb1'];exact hne);unfold apartB Bk.fin at h3;rw[hb1,hb2,hb1',hb2']at h3;have h4:=iV (hk.ck c hc).room h1;have h5:=iV (hk.ck d hd).room h2;generalize 2^c.o=q at*;generalize 2^d.o=q' at*;omega
theorem bK.only {s:Sy}(hk:bK s){i j k l:Nat}{a:Int}(hi:i<s.cs.length)(hj:j<s.cs.length)(hki:k<s.cs[i].sl.length)(hlj:l<s.cs[j].sl.length)(h1:fU s.cs[i] s.cs[i].sl[k].p a=true)(h2:fU s.cs[j] s.cs[j].sl[l].p a=true):i=j/\k=l:=by
 have hp:=hk.JD (gL hi) (gL hj) (gL hki) (gL hlj) h1 h2;have hij:i=j:=by
  rcases Nat.lt_trichotomy i j with h | h | h
  ·exact absurd hp (List.pairwise_iff_getElem.1 hk.pd i j hi hj h _ (gL hki) _ (gL hlj))
  ·exact h
  ·exact absurd hp.symm (List.pairwise_iff_getElem.1 hk.pd j i hj hi h _ (gL hlj) _ (gL hki))
 subst hij;refine⟨rfl,?_⟩;have hsr:=(hk.ck _ (gL hi)).sr;rw[gN]at hsr;rcases Nat.lt_trichotomy k l with h | h | h
 ·have:=hsr k l hki hlj h;omega
 ·exact h
 ·have:=hsr l k hlj hki h;omega
end
section
theorem qE:∀{l m:List Int},l.Nodup->(∀a∈l,a∈m)->l.length<=m.length
 | [],_,_,_=>Nat.zero_le _
 | a::l,m,hd,hs=>by
  rw[List.nodup_cons]at hd;have h1:=hs a (by simp);have h2:=qE (l:=l) (m:=m.erase a) hd.2 fun b hb=>(List.mem_erase_of_ne (fun e=>hd.1 (by rw[<- e];exact hb))).2 (hs b (List.mem_cons_of_mem _ hb))
  rw[List.length_erase_of_mem h1]at h2;have h3:=List.length_pos_of_mem h1;simp only[List.length_cons];omega
theorem UJ {p z r:Nat}{a:Int}:a∈objs p z r↔∃j,j<r/\a=((p+j*z:Nat):Int):=by
 unfold objs;simp only[List.mem_map,List.mem_range];constructor
 ·rintro⟨j,hj,e⟩;exact⟨j,hj,e.symm⟩
 ·rintro⟨j,hj,e⟩;exact⟨j,hj,e.symm⟩
theorem zI {c:Ca}{p:Nat}{a:Int}(hz:1<=c.z):fU c p a=true↔a∈objs (16*p) c.z c.r:=by
 rw[UJ];constructor
 ·intro h;obtain⟨h1,h2,h3⟩:=kG h;obtain⟨d,hd⟩:∃d:Nat,a-16*p=d:=⟨(a-16*p).toNat,by omega⟩
  rw[hd]at h3;have h4:d%c.z=0:=by exact_mod_cast h3
  have h5:d<c.r*c.z:=by
   have:((d:Nat):Int)<((c.r*c.z:Nat):Int):=by push_cast;omega
   omega
  have h6:d/c.z*c.z=d:=Nat.div_mul_cancel (Nat.dvd_of_mod_eq_zero h4);refine⟨d/c.z,Nat.div_lt_of_lt_mul (by rw[Nat.mul_comm];exact h5),?_⟩;rw[h6]
  push_cast
  omega
 ·rintro⟨j,hj,rfl⟩;unfold fU;simp only[decide_eq_true_eq];have h1:((16*p+j*c.z:Nat):Int)-16*(p:Int)=(j:Int)*c.z:=by push_cast;omega
  rw[h1];have h2:(j:Int)*c.z=((j*c.z:Nat):Int):=by push_cast;rfl
  have h3:(c.r:Int)*c.z=((c.r*c.z:Nat):Int):=by push_cast;rfl
  have h4:j*c.z<c.r*c.z:=Nat.mul_lt_mul_of_pos_right hj hz;exact⟨by omega,by omega,Int.mul_emod_left _ _⟩
theorem NY {p z r:Nat}(hz:1<=z):(objs p z r).Nodup:=by
 unfold objs List.Nodup;rw[List.pairwise_map];refine List.Pairwise.imp ?_ (List.pairwise_lt_range (n:=r));intro a b hab e;have h1:p+a*z=p+b*z:=by exact_mod_cast e
 have h2:a*z<b*z:=Nat.mul_lt_mul_of_pos_right hab hz;omega
theorem Fp {c:Ca}{p:Nat}{l:List Int}(hz:1<=c.z)(hd:l.Nodup)(ho:∀a∈l,fU c p a=true):l.length<=c.r:=by
 have h:=qE hd fun a ha=>(zI hz).1 (ho a ha)
 rwa [pF]at h
theorem Fv {c:Ca}{p:Nat}{l:List Int}(hz:1<=c.z)(hd:l.Nodup)(ho:∀a∈l,fU c p a=true)(hl:c.r<=l.length){a:Int}(h:fU c p a=true):a∈l:=by
 apply Decidable.byContradiction;intro hn;have h1:=Fp (l:=a::l) hz (List.nodup_cons.2 ⟨hn,hd⟩) fun b hb=>by
  rcases List.mem_cons.1 hb with rfl | hb
  ·exact h
  ·exact ho b hb
 simp only[List.length_cons]at h1;omega
theorem Rx {c:Ca}{p:Nat}{l:List Int}(hz:1<=c.z)(hl:l.length<c.r):∃a,fU c p a=true/\a∉l:=by
 apply Classical.byContradiction;intro hn;have h1:∀a∈objs (16*p) c.z c.r,a∈l:=fun a ha=>Decidable.byContradiction fun h=>hn ⟨a,(zI hz).2 ha,h⟩
 have h2:=qE (NY hz) h1;rw[pF]at h2;omega
def lS (w:List Int)(c:Ca)(x:Sl)(a:Int):Prop:=fU c x.p a=true/\∀l,follow w x.h c.r=some l->a∉l
def Sy.away (s:Sy)(i:Nat)(a:Int):Prop:=∃c,s.cs[i]? =some c/\∃x∈c.sl,lS s.w c x a
theorem NZ {l:List Sl}{k:Nat}(hk:k<l.length)(x':Sl)(P:Sl->Prop):(∃y∈l.set k x',P y)↔(∃j,∃h:j<l.length,j≠k/\P l[j])∨P x':=by
 constructor
 ·rintro⟨y,hy,hp⟩;obtain⟨j,hj,e⟩:=List.mem_iff_getElem.1 hy;rw[List.length_set]at hj;rw[List.getElem_set]at e;split at e
  ·exact .inr (e▸hp)
  ·rename_i hne;exact .inl ⟨j,hj,fun e'=>hne e'.symm,by rw[e];exact hp⟩
 ·rintro(⟨j,hj,hne,hp⟩ | hp)
  ·refine⟨l[j],?_,hp⟩;rw[List.mem_iff_getElem];exact⟨j,by simpa using hj,by rw[List.getElem_set,if_neg fun e=>hne e.symm]⟩
  ·exact⟨x',List.mem_iff_getElem.2 ⟨k,by simpa using hk,by simp⟩,hp⟩
theorem Fz {l:List Sl}{k:Nat}(hk:k<l.length)(P:Sl->Prop):(∃y∈l,P y)↔(∃j,∃h:j<l.length,j≠k/\P l[j])∨P l[k]:=by
 constructor
 ·rintro⟨y,hy,hp⟩;obtain⟨j,hj,e⟩:=List.mem_iff_getElem.1 hy;by_cases h:j=k
  ·subst h;exact .inr (e▸hp)
  ·exact .inl ⟨j,hj,h,by rw[e];exact hp⟩
 ·rintro(⟨j,hj,hne,hp⟩ | hp)
  ·exact⟨l[j],gL hj,hp⟩
  ·exact⟨l[k],gL hk,hp⟩
theorem JE {l:List Sl}{k:Nat}(P:Sl->Prop):(∃y∈l.eraseIdx k,P y)↔(∃j,∃h:j<l.length,j≠k/\P l[j]):=by
 constructor
 ·rintro⟨y,hy,hp⟩;rw[List.mem_eraseIdx_iff_getElem]at hy;obtain⟨j,hj,hne,e⟩:=hy;exact⟨j,hj,hne,by rw[e];exact hp⟩
 ·rintro⟨j,hj,hne,hp⟩;refine⟨l[j],?_,hp⟩;rw[List.mem_eraseIdx_iff_getElem];exact⟨j,hj,hne,rfl⟩
theorem oM {s s':Sy}{i:Nat}{c c':Ca}(hi:s.cs[i]? =some c)(hcs:s'.cs=s.cs.set i c')(b:Int):(s'.away i b↔∃x∈c'.sl,lS s'.w c' x b)/\∀j,j≠i->(s'.away j b↔∃d,s.cs[j]? =some d/\∃x∈d.sl,lS s'.w d x b):=by
 have hil:=(List.getElem?_eq_some_iff.1 hi).1;constructor
 ·unfold Sy.away;rw[hcs,List.getElem?_set_self hil];constructor
  ·rintro⟨d,hd,h⟩;obtain rfl:=gP hd;exact h
  ·exact fun h=>⟨c',rfl,h⟩
 ·intro j hj;unfold Sy.away;rw[hcs,List.getElem?_set_ne fun e=>hj e.symm]
theorem nH {s:Sy}{i:Nat}{c:Ca}(hi:s.cs[i]? =some c)(b:Int):s.away i b↔∃x∈c.sl,lS s.w c x b:=by
 unfold Sy.away;rw[hi];constructor
 ·rintro⟨d,hd,h⟩;obtain rfl:=gP hd;exact h
 ·exact fun h=>⟨c,rfl,h⟩
theorem lT {w:List Int}{c:Ca}{x:Sl}{l:List Int}(h:follow w x.h c.r=some l)(a:Int):lS w c x a↔fU c x.p a=true/\a∉l:=by
 unfold lS;constructor
 ·exact fun h1=>⟨h1.1,h1.2 l h⟩
 ·rintro⟨h1,h2⟩;refine⟨h1,fun m hm=> ?_⟩;rw[h]at hm;obtain rfl:=gP hm;exact h2
theorem bK.UK {s:Sy}(hk:bK s){i j k:Nat}{c:Ca}{a:Int}(hi:s.cs[i]? =some c)(hj:j<c.sl.length)(hkl:k<c.sl.length)(h1:fU c c.sl[j].p a=true)(h2:fU c c.sl[k].p a=true):j=k:=by
 obtain⟨hil,e⟩:=List.getElem?_eq_some_iff.1 hi;subst e;exact(hk.only hil hil hj hkl h1 h2).2
theorem bK.UL {s s':Sy}(hk:bK s){i k:Nat}{c:Ca}{x:Sl}{a:Int}(hi:s.cs[i]? =some c)(hx:c.sl[k]? =some x)(hn:0<x.n)(hp:s.pop i k=some (s',a)):
 ¬s.away i a/\∀j b,s'.away j b↔s.away j b∨(j=i/\b=a):=by
 obtain⟨_,_,hw,rfl,hs'⟩:=hk.pop hi hx hn hp;have hxm:=gM hx;obtain⟨hkl,hkx⟩:=List.getElem?_eq_some_iff.1 hx;obtain⟨m,h2,h3,h4,h5,h6,h7⟩:=hk.first (gM hi) hxm hn;have hnd:=(fJ.1 h2).2.2.2;have hob:fU c x.p x.h=true:=h4 x.h (by simp);have hnm:x.h∉m:=(List.nodup_cons.1 hnd).1;have hnot:¬s.away i x.h:=by
  rw[nH hi,Fz hkl];rintro(⟨j,hj,hne,h,_⟩ | h)
  ·exact hne (hk.UK hi hj hkl h (by rw[hkx];exact hob))
  ·rw[hkx,lT h2]at h;exact h.2 (by simp)
 refine⟨hnot,fun j b=> ?_⟩;have hst:=oM (s':=s') (c':={c with sl:=c.sl.set k ⟨x.p,x.n-1,s.w.getD x.h.toNat 0⟩}) hi (by rw[hs'];rfl) b;by_cases hj:j=i
 ·subst hj;rw[hst.1,nH hi,NZ hkl,Fz hkl,hkx,lT h2,hw];have h8:lS s.w {c with sl:=c.sl.set k ⟨x.p,x.n-1,s.w.getD x.h.toNat 0⟩} ⟨x.p,x.n-1,s.w.getD x.h.toNat 0⟩ b↔fU c x.p b=true/\b∉m:=lT (x:=⟨x.p,x.n-1,s.w.getD x.h.toNat 0⟩) (c:={c with sl:=c.sl.set k ⟨x.p,x.n-1,s.w.getD x.h.toNat 0⟩}) h7 b;rw[h8];have h9:(∃j,∃h:j<c.sl.length,j≠k/\lS s.w {c with sl:=c.sl.set k ⟨x.p,x.n-1,s.w.getD x.h.toNat 0⟩} c.sl[j] b)↔(∃j,∃h:j<c.sl.length,j≠k/\lS s.w c c.sl[j] b):=Iff.rfl;rw[h9,List.mem_cons];constructor
  ·rintro(h | ⟨h,h'⟩)
   ·exact .inl (.inl h)
   ·by_cases hb:b=x.h
    ·exact .inr ⟨rfl,hb⟩
    ·exact .inl (.inr ⟨h,fun h0=>h0.elim hb h'⟩)
  ·rintro((h | ⟨h,h'⟩) | ⟨_,rfl⟩)
   ·exact .inl h
   ·exact .inr ⟨h,fun h0=>h' (.inr h0)⟩
   ·exact .inr ⟨hob,hnm⟩
 ·rw[hst.2 j hj,hw];constructor
  ·exact fun h=> .inl h
  ·rintro(h | ⟨h,_⟩)
   ·exact h
   ·exact absurd h hj
theorem tX.AQ {s s':Sy}{c:Ca}{x:Sl}(h:tX s c x)(hw:s'.w.length=s.w.length)(hs:∀a:Int,fU c x.p a=true->s'.w.getD a.toNat 0=s.w.getD a.toNat 0):follow s'.w x.h c.r=follow s.w x.h c.r:=by
 obtain⟨l,h3,h4,h5⟩:=h.chain;rw[h3];rw[fJ]at h3 ⊢;rw[hw];exact⟨h3.1.move fun a ha=>hs a (h5 a ha),h3.2⟩
theorem vP {w w':List Int}{c:Ca}{x:Sl}(h:follow w' x.h c.r=follow w x.h c.r)(a:Int):lS w' c x a↔lS w c x a:=by
 unfold lS;rw[h]
theorem bK.XV {s s':Sy}(hk:bK s){i cpu k:Nat}{c:Ca}(hi:s.cs[i]? =some c)(bJ:cpu<s.h.aC)(hg:s.grow i cpu c=some (s',k)):
 ∃a,s'.w=chainTo s.w (16*a) c.z c.r c.r/\s'.cs=s.cs.set i {c with sl:=kP c.sl ⟨a,c.r,((16*a:Nat):Int)⟩}/\s'.h.live=bF s.h.live ⟨a,c.o,0⟩/\16*a+c.z*c.r<=s.w.length/\
  ∀d∈s.cs,∀x∈d.sl,x.p≠a/\∀o:Int,fU d x.p o=true->s'.w.getD o.toNat 0=s.w.getD o.toNat 0:=by
 have hck:=hk.ck c (gM hi);have hor:c.o<=4:=by rw[hck.o];exact gQ (kT _) (by decide)
 unfold Sy.grow at hg;cases hal:s.h.alloc cpu c.o 0 false false with
 | none=>rw[hal]at hg;cases hg
 | some r=>
  obtain⟨h',a⟩:=r;rw[hal]at hg;have h1:=gP hg;rw[Prod.mk.injEq]at h1;obtain⟨rfl,rfl⟩:=h1;obtain⟨hh,hcnt,hsame,hlive,hfit⟩:=hk.hk.alloc bJ hor (by decide) hal;have hcl:h'.live=bF s.h.live ⟨a,c.o,0⟩:=hlive;have hap:∀b∈s.h.live,apartB a c.o b:=fun b hb=>dG fun q h1 h2=>by
   have h3:=hh.one q;rw[dI,hcl,qU]at h3;have h4:0<cnt s.h.live q:=iL.2 ⟨b,hb,h2⟩;have h5:hit (⟨a,c.o,0⟩:Bk) q=1:=jI.2 h1;omega
  have hpp:=Nat.two_pow_pos c.o;have hin:16*a+c.z*c.r<=s.w.length:=by
   have h1:=hck.room;have h2:a+2^c.o<=256:=by
    have h3:c.o<=2:=by rw[hck.o];exact kT _
    obtain⟨_,_,h4,h5⟩:=hfit;generalize c.o=o at*;obtain rfl | rfl | rfl:o=0∨o=1∨o=2:=by omega
    ·omega
    ·omega
    ·omega
   rw[Nat.mul_comm c.z,hk.wl];generalize c.r*c.z=m at*;generalize 2^c.o=q at*;omega
  refine⟨a,rfl,rfl,hcl,hin,fun d hd x hx=> ?_⟩;have hdk:=hk.ck d hd;obtain⟨b,hb,hb1,hb2⟩:=(hdk.sk x hx).live;have h1:=hap b hb;unfold apartB Bk.fin at h1;rw[hb1,hb2]at h1;have hp2:=Nat.two_pow_pos d.o;refine⟨by omega,fun o ho=>pJ _ _ _ _ _ (Nat.le_refl _) _ ?_ hck.z.1⟩;have h2:=iV hdk.room ho;have h3:=hck.room;rw[Nat.mul_comm c.z c.r];generalize c.r*c.z=m at*;generalize 2^c.o=q at*;generalize 2^d.o=q' at*;omega
theorem bK.Ry {s s':Sy}(hk:bK s){i cpu k:Nat}{c:Ca}(hi:s.cs[i]? =some c)(bJ:cpu<s.h.aC)(hg:s.grow i cpu c=some (s',k))(j:Nat)(b:Int):s'.away j b↔s.away j b:=by
 have hck:=hk.ck c (gM hi);obtain⟨a,hw,hcs,_,hin,hsl⟩:=hk.XV hi bJ hg;have hwl:s'.w.length=s.w.length:=by rw[hw];exact gW _ _ _ _ _
 have hr1:1<=c.r:=by rw[hck.r];exact Cj hck.z
 have hst:=oM (s':=s') hi hcs b;have hsame:∀d∈s.cs,∀x∈d.sl,(lS s'.w d x b↔lS s.w d x b):=fun d hd x hx=>vP (((hk.ck d hd).sk x hx).AQ hwl (hsl d hd x hx).2) b
 by_cases hj:j=i
 ·subst hj;rw[hst.1,nH hi];have GY:=xP s.w (16*a) c.z c.r c.r hck.z.1 hr1 hin (by omega);rw[if_pos (Int.le_refl _),<- hw]at GY;constructor
  ·rintro⟨x,hx,h⟩;rcases nJ.1 hx with rfl | hx
   ·exfalso;refine h.2 _ GY ?_;exact(zI (c:=c) hck.z.1).1 h.1
   ·exact⟨x,hx,(hsame c (gM hi) x hx).1 h⟩
  ·rintro⟨x,hx,h⟩;exact⟨x,nJ.2 (.inr hx),(hsame c (gM hi) x hx).2 h⟩
 ·rw[hst.2 j hj];unfold Sy.away;constructor
  ·rintro⟨d,hd,x,hx,h⟩;exact⟨d,hd,x,hx,(hsame d (gM hd) x hx).1 h⟩
  ·rintro⟨d,hd,x,hx,h⟩;exact⟨d,hd,x,hx,(hsame d (gM hd) x hx).2 h⟩
theorem FH (s:Sy)(i cpu k j:Nat)(b:Int):(s.mine i cpu k).away j b↔s.away j b:=by
 unfold Sy.mine;cases hc:s.cs[i]? with
 | none=>rfl
 | some c=>
  simp only;cases hx:c.sl[k]? with
  | none=>rfl
  | some x=>
   have hst:=oM (s':=s.fH i {c with ac:=c.ac.set cpu (x.p:Int)}) (c':={c with ac:=c.ac.set cpu (x.p:Int)}) hc rfl b;by_cases hj:j=i
   ·subst hj;rw[hst.1,nH hc];exact Iff.rfl
   ·rw[hst.2 j hj];exact Iff.rfl
theorem bK.JF {s s':Sy}(hk:bK s){i cpu k:Nat}{c:Ca}(hi:s.cs[i]? =some c)(bJ:cpu<s.h.aC)(hg:s.choose i cpu=some (s',k))(j:Nat)(b:Int):s'.away j b↔s.away j b:=by
 unfold Sy.choose at hg;rw[hi]at hg;simp only at hg;split at hg
 ·have h1:=gP hg;rw[Prod.mk.injEq]at h1;rw[<- h1.1]
 ·split at hg
  ·have h1:=gP hg;rw[Prod.mk.injEq]at h1;rw[<- h1.1];exact FH _ _ _ _ _ _
  ·split at hg
   ·rename_i heq;have h1:=gP hg;rw[Prod.mk.injEq]at h1;rw[<- h1.1,FH];exact hk.Ry hi bJ heq j b
   ·cases hg
theorem bK.Cm {s s':Sy}(hk:bK s){i cpu:Nat}{c:Ca}{a:Int}(hi:s.cs[i]? =some c)(bJ:cpu<s.h.aC)(hg:s.one i cpu=some (s',a)):¬s.away i a/\∀j b,s'.away j b↔s.away j b∨(j=i/\b=a):=by
 unfold Sy.one at hg;cases hch:s.choose i cpu with
 | none=>rw[hch]at hg;cases hg
 | some r=>
  obtain⟨s2,k⟩:=r;rw[hch]at hg;simp only at hg;obtain⟨h1,h2,c',x,h3,h4,h5⟩:=hk.choose hi bJ hch;obtain⟨h6,h7⟩:=h1.UL h3 h4 h5 hg;have h8:=fun j b=>hk.JF hi bJ hch j b
  exact⟨fun h=>h6 ((h8 i a).2 h),fun j b=>by rw[h7,h8]⟩
end
section
theorem UZ {l:List Sl}(hl:l.Pairwise fun a b=>a.p<b.p){j k:Nat}(hj:j<l.length)(hk:k<l.length)(h:l[j].p=l[k].p):j=k:=by
 rw[gN]at hl;rcases Nat.lt_trichotomy j k with h1 | h1 | h1
 ·have:=hl j k hj hk h1;omega
 ·exact h1
 ·have:=hl k j hk hj h1;omega
theorem pop_some {s:Sy}{i k:Nat}{c:Ca}{x:Sl}(hc:s.cs[i]? =some c)(hx:c.sl[k]? =some x):∃t a,s.pop i k=some (t,a):=by
 unfold Sy.pop;rw[hc];simp only[hx];exact⟨_,_,rfl⟩
end
section
theorem jL {α β:Type}{f:α->β}{l:List α}{i:Nat}{c c':α}(h:l[i]? =some c)(he:f c'=f c):(l.set i c').map f=l.map f:=by
 obtain⟨hi,hc⟩:=List.getElem?_eq_some_iff.1 h;apply List.ext_getElem (by simp);intro j h1 h2;simp only[List.getElem_map,List.getElem_set];split
 ·rename_i e;subst e;rw[he,hc]
 ·rfl
def Sy.sig (s:Sy):List (List (List UInt8)×Nat):=s.cs.map fun c=>(c.ns,c.z)
theorem JL (s:Sy)(i cpu k:Nat):(s.mine i cpu k).sig=s.sig:=by
 unfold Sy.mine Sy.sig;cases hc:s.cs[i]? with
 | none=>rfl
 | some c=>
  simp only;cases hx:c.sl[k]? with
  | none=>rfl
  | some x=>exact jL hc rfl
theorem XZ {s t:Sy}{i k:Nat}{a:Int}(h:s.pop i k=some (t,a)):t.sig=s.sig:=by
 unfold Sy.pop at h;cases hc:s.cs[i]? with
 | none=>rw[hc]at h;cases h
 | some c=>
  rw[hc]at h;simp only at h;cases hx:c.sl[k]? with
  | none=>rw[hx]at h;cases h
  | some x=>
   rw[hx]at h;have h1:=gP h;rw[Prod.mk.injEq]at h1;rw[<- h1.1];exact jL hc rfl
theorem Va {s t:Sy}{i cpu k:Nat}{c:Ca}(hc:s.cs[i]? =some c)(h:s.grow i cpu c=some (t,k)):t.sig=s.sig:=by
 unfold Sy.grow at h;split at h
 ·have h1:=gP h;rw[Prod.mk.injEq]at h1;rw[<- h1.1];exact jL hc rfl
 ·cases h
theorem Oe {s t:Sy}{i cpu k:Nat}(h:s.choose i cpu=some (t,k)):t.sig=s.sig:=by
 unfold Sy.choose at h;cases hc:s.cs[i]? with
 | none=>rw[hc]at h;cases h
 | some c=>
  rw[hc]at h;simp only at h;split at h
  ·have h1:=gP h;rw[Prod.mk.injEq]at h1;rw[<- h1.1]
  ·split at h
   ·have h1:=gP h;rw[Prod.mk.injEq]at h1;rw[<- h1.1];exact JL _ _ _ _
   ·split at h
    ·rename_i heq;have h1:=gP h;rw[Prod.mk.injEq]at h1;rw[<- h1.1,JL];exact Va hc heq
    ·cases h
theorem Hu {s t:Sy}{i cpu:Nat}{a:Int}(h:s.one i cpu=some (t,a)):t.sig=s.sig:=by
 unfold Sy.one at h;cases hc:s.choose i cpu with
 | none=>rw[hc]at h;cases h
 | some r=>
  obtain⟨u,k⟩:=r;rw[hc]at h;exact(XZ h).trans (Oe hc)
def Sy.nss (s:Sy):List (List (List UInt8)):=s.cs.map (·.ns)
theorem kY {s t:Sy}(h:t.sig=s.sig):t.nss=s.nss:=by
 have h1:=congrArg (List.map Prod.fst) h;unfold Sy.sig at h1;simp only[List.map_map]at h1;exact h1
theorem Qo {s t:Sy}{i cpu:Nat}{a:Int}(h:s.one i cpu=some (t,a)):t.nss=s.nss:=kY (Hu h)
theorem rX {s t:Sy}(h:t.nss=s.nss){N:Nat}(hs:∀c∈s.cs,c.ns.length<=N):∀c∈t.cs,c.ns.length<=N:=fun c hc=>by
 have h1:c.ns∈t.nss:=List.mem_map_of_mem hc;rw[h]at h1;obtain⟨d,hd,e⟩:=List.mem_map.1 h1;rw[<- e];exact hs d hd
end
section
open Go.RowKit
section
variable {W W' W9:World}{G:Nat}{X Y:Nat->Prop}{s s':Sy}{v v':Sc}
theorem iP (v:Sc)(s:Sy):l9 v∈v.rows s:=by simp[Sc.rows]
theorem nX (v:Sc)(s:Sy):tY v s∈v.rows s:=by simp[Sc.rows]
theorem kH {v:Sc}{s:Sy}{y:Cc}(hy:y∈v.ys){r:Rs}(hr:r∈fP y):r∈v.rows s:=by
 unfold Sc.rows;exact List.mem_cons_of_mem _ (List.mem_cons_of_mem _ (List.mem_flatMap.2 ⟨y,hy,hr⟩))
theorem SS.aCR (hs:SS W G X s v){y:Cc}(hy:dJ W 0 (rC y::mX y::qZ y::v.rows s))(hfr:∀r∈fP y,∀g,r.v.ownBlock=some g->v.fr s G X g){g9 cap9:Nat}(hg9:W.grownBy W9 (l9 v).v.ownBlock)
 (ho9:W9.ownsRow 0 94 6 (.slice (some ⟨g9,0,none⟩) (v.ys.length+1) cap9) (v.ys.length+1) (flat dX (v.ys++[y]))) (hl9:(l9 v).v.ownBlock=some g9∨W.heap.size<=g9):
 SS (W9.setCell ⟨G,6,none⟩ (.slice (some ⟨g9,0,none⟩) (v.ys.length+1) cap9)) G X {s with cs:=s.cs++[y.c]} {v with a2:=some ⟨g9,0,none⟩,c2:=cap9,ys:=v.ys++[y]}/\
 Safe X W (W9.setCell ⟨G,6,none⟩ (.slice (some ⟨g9,0,none⟩) (v.ys.length+1) cap9)):=by
 have hlen:(v.ys++[y]).length=v.ys.length+1:=by simp
 have own9:dJ W9 0 (rC y::mX y::qZ y::tY v s::(⟨94,6,.slice (some ⟨g9,0,none⟩) (v.ys.length+1) cap9,v.ys.length+1,flat dX (v.ys++[y])⟩:Rs)::v.ys.flatMap fP):=
  hy.grown (i:=4) (by simp[Sc.rows]) hg9 (r':=⟨94,6,.slice (some ⟨g9,0,none⟩) (v.ys.length+1) cap9,v.ys.length+1,flat dX (v.ys++[y])⟩) ho9 (fun g hg=>by
   obtain rfl:g9=g:=by simpa[Value.ownBlock]using hg
   exact hl9)
 have hcs:l9 {v with a2:=some ⟨g9,0,none⟩,c2:=cap9,ys:=v.ys++[y]}=⟨94,6,.slice (some ⟨g9,0,none⟩) (v.ys.length+1) cap9,v.ys.length+1,flat dX (v.ys++[y])⟩:=by
  unfold l9;simp only[hlen]
 have hrows:({v with a2:=some ⟨g9,0,none⟩,c2:=cap9,ys:=v.ys++[y]}:Sc).rows {s with cs:=s.cs++[y.c]}=tY v s::(⟨94,6,.slice (some ⟨g9,0,none⟩) (v.ys.length+1) cap9,v.ys.length+1,flat dX (v.ys++[y])⟩:Rs)::(v.ys.flatMap fP++[qZ y,mX y,rC y]):=by
  unfold Sc.rows;rw[hcs];simp only[List.flatMap_append,List.flatMap_cons,List.flatMap_nil,List.append_nil];rfl
 have hperm:(rC y::mX y::qZ y::tY v s::(⟨94,6,.slice (some ⟨g9,0,none⟩) (v.ys.length+1) cap9,v.ys.length+1,flat dX (v.ys++[y])⟩:Rs)::v.ys.flatMap fP).Perm (({v with a2:=some ⟨g9,0,none⟩,c2:=cap9,ys:=v.ys++[y]}:Sc).rows {s with cs:=s.cs++[y.c]}):=by
  rw[hrows];have h1:∀(l:List Rs),(rC y::mX y::qZ y::l).Perm (l++[qZ y,mX y,rC y]):=fun l=>
   (List.perm_append_comm (l₁:=[rC y,mX y,qZ y]) (l₂:=l)).trans (List.Perm.append_left l (List.reverse_perm [qZ y,mX y,rC y]))
  exact h1 (_::_::v.ys.flatMap fP)
 have hsf:Safe (fun k=>¬v.blk s G k) W W9:=Safe.nI hg9 fun k hk e=>hk (.inr ⟨l9 v,iP v s,e.symm⟩)
 have h9:=hs.r.step (s':={s with cs:=s.cs++[y.c]}) (v':={v with a2:=some ⟨g9,0,none⟩,c2:=cap9,ys:=v.ys++[y]}) hsf rfl rfl (own9.perm hperm) (fun r hr g hg=>by
  rw[hrows]at hr;rcases List.mem_cons.1 hr with rfl | hr
  ·exact .inl ⟨_,nX v s,hg⟩
  ·rcases List.mem_cons.1 hr with rfl | hr
   ·obtain rfl:g9=g:=by simpa[Value.ownBlock]using hg
    rcases hl9 with h | h
    ·exact .inl ⟨_,iP v s,h⟩
    ·exact .inr (hs.r.fresh h)
   ·rcases List.mem_append.1 hr with hr | hr
    ·exact .inl ⟨r,List.mem_cons_of_mem _ (List.mem_cons_of_mem _ hr),hg⟩
    ·exact .inr (hfr r hr g hg)) (by simp[hs.r.cy])
 have hG:some G≠(l9 v).v.ownBlock:=fun e=>(hs.r.og _ (iP v s) G e.symm).1 rfl
 have K:=aI (bT hs.k hs.r.hr.gs hg9 hG) 6 (.slice (some ⟨g9,0,none⟩) (v.ys.length+1) cap9);have hv:({v with a2:=some ⟨g9,0,none⟩,c2:=cap9,ys:=v.ys++[y]}:Sc).vals {s with cs:=s.cs++[y.c]}=(v.vals s).setIfInBounds 6 (.slice (some ⟨g9,0,none⟩) (v.ys.length+1) cap9):=by
  unfold Sc.vals;simp only[hlen];rfl
 rw[<- hv]at K;exact⟨⟨h9.fO 6 _,K,aG (bU hs.fz hs.r.hr.gs hg9 hG) _ _⟩,(Safe.nI hg9 fun k hk e=>(hs.r.og _ (iP v s) k e.symm).2 hk).set hs.r.hr.xg 6 _⟩
theorem SS.three {w5 wd wa wb wc:World}{T:Nat}(hs:SS w5 G X s v)(hX:X T)(hd:Below w5.heap.size w5 wd)(hba:Below wd.heap.size wd wa)(hbb:Below wa.heap.size wa wb)(hbc:Below wb.heap.size wb wc){y:Cc}
 (hoa:wa.ownsRow wd.heap.size 9 1 (.slice y.a1 y.n1 y.c1) y.n1 (flat encS y.c.ns)) (hob:wb.ownsRow wa.heap.size 137 3 (.slice y.a2 y.n2 y.c2) y.n2 (flat aX y.c.sl)) (hoc:wc.ownsRow wb.heap.size 3 1 (.slice y.a3 y.n3 y.c3) y.n3 (flat encI y.c.ac)) (i1 i2 i3:Nat) (u1 u2 u3:Value):
 SS (((wc.setCell ⟨T,i1,none⟩ u1).setCell ⟨T,i2,none⟩ u2).setCell ⟨T,i3,none⟩ u3) G X s v/\dJ (((wc.setCell ⟨T,i1,none⟩ u1).setCell ⟨T,i2,none⟩ u2).setCell ⟨T,i3,none⟩ u3) 0 (rC y::mX y::qZ y::v.rows s)/\(∀r∈fP y,∀g,r.v.ownBlock=some g->v.fr s G X g):=by
 rw[mW]at hoc;have b5a:=Below.step hd hba;have hT:T<w5.heap.size:=hs.r.hr.xs T hX;have h5d:=hd.size;have hda:=hba.size;have hab:=hbb.size;have o1:dJ wa 0 (qZ y::v.rows s):=(hs.r.own.below b5a).cons (r':=qZ y) hoa (Nat.zero_le _) fun r hr g hg=>gI (hs.r.lt r hr g hg) h5d
 have o2:dJ wb 0 (mX y::qZ y::v.rows s):=(o1.below hbb).cons (r':=mX y) hob (Nat.zero_le _) fun r hr g hg=>(o1.lt r hr g hg).2
 have o3:dJ wc 0 (rC y::mX y::qZ y::v.rows s):=(o2.below hbc).cons (r':=rC y) hoc (Nat.zero_le _) fun r hr g hg=>(o2.lt r hr g hg).2
 have hge:∀r∈fP y,∀g,r.v.ownBlock=some g->w5.heap.size<=g:=fun r hr g hg=>by
  simp only[fP,List.mem_cons,List.not_mem_nil,or_false]at hr;rcases hr with rfl | rfl | rfl
  ·have:=(hoa.lt g hg).1;omega
  ·have:=(hob.lt g hg).1;omega
  ·have:=(hoc.lt g hg).1;omega
 have hne:∀r∈rC y::mX y::qZ y::v.rows s,r.v.ownBlock≠some T:=fun r hr e=>by
  simp only[List.mem_cons]at hr;rcases hr with rfl | rfl | rfl | hr
  ·have:=hge (rC y) (by simp[fP]) T e;omega
  ·have:=hge (mX y) (by simp[fP]) T e;omega
  ·have:=hge (qZ y) (by simp[fP]) T e;omega
  ·exact(hs.r.og r hr T e).2 hX
 exact⟨(((hs.below (Below.step b5a (Below.step hbb hbc))).dY hX i1 u1).dY hX i2 u2).dY hX i3 u3,((o3.far hne i1 u1).far hne i2 u2).far hne i3 u3,fun r hr g hg=>hs.r.fresh (hge r hr g hg)⟩
theorem SR.toX (hs:SR W G X s v){B:Nat}(hB:X B)(hy:∀k,Y k->X k)(hn:¬Y B):SR W B Y s v:=
 ⟨hs.own,fun r hr g hg=>⟨fun e=>(hs.og r hr g hg).2 (e▸hB),fun e=>(hs.og r hr g hg).2 (hy g e)⟩,hs.hr.any (hs.hr.xs B hB) (fun q hq k hk=>by
  have h:¬X k:=fun e=>by
   rcases List.mem_append.1 hq with hq | hq
   ·exact(hs.hr.og q hq k hk).2 e
   ·exact hs.hr.rx q hq k hk e
  exact⟨fun e=>h (e▸hB),fun e=>h (hy k e)⟩) (fun k hk=>hs.hr.xs k (hy k hk)) hn,hs.hd,hs.cy⟩
theorem SR.dY (hs:SR W G X s v){g:Nat}(hx:X g)(i:Nat)(u:Value):SR (W.setCell ⟨g,i,none⟩ u) G X s v:=
 hs.far (hs.Vs hx) (fun q hq e=>by
  rcases List.mem_append.1 hq with hq | hq
  ·exact(hs.hr.og q hq g e).2 hx
  ·exact hs.hr.rx q hq g e hx) i u
end
end
section
open Go.RowKit
theorem VL (l:List Int):∀u∈flat encI l,u.oneCell'=true:=by
 intro u hu;simp only[flat,List.mem_flatMap]at hu;obtain⟨r,_,hr⟩:=hu;simp only[encI,List.mem_cons,List.not_mem_nil,or_false]at hr;rcases hr with rfl <;> rfl
theorem cloneS (a:Option Addr)(n cap:Nat)(xs:List (List UInt8))(w:World)(hn:xs.length=n)(hl:n*16<=140737488355328)(hr:Row w a (flat encS xs)):
 Calls Tryz.prog 87 #[.slice a n cap] w fun e w'=>∃a' c',e= .returned (.slice a' n c')/\w'.ownsRow w.heap.size 9 1 (.slice a' n c') n (flat encS xs)/\Below w.heap.size w w':=by
 have q22:∀(w:World) (a:Option Addr) (n c n' c':Nat),(binOp .eql 91 (.slice a n c) (.slice none n' c')).run Tryz.prog w= .ok (.bool a.isNone) w:=fun w a n c n' c'=>Lib.run_eql_slice_nil w _ _ a n c n' c' Tryz.underlying91
 subst hn;cases a with
 | none=>
  have hx:xs=[]:=by
   cases xs with
   | nil=>rfl
   | cons u l=>obtain⟨b,off,e1,_⟩:=aN aZ (by decide) hr (j:=0) (by simp);cases e1
  subst hx;go_enter Tryz.func87,Tryz.ntmps87
  go_wp2
  go_ret
  exact⟨none,0,rfl,World.ownsRow_nil _ _ _ _,Below.refl _ _⟩
 | some ad=>
  go_enter Tryz.func87,Tryz.ntmps87
  go_wp2_with (at_builtin;refine iI rfl _ _ 91 rfl w.heap.size 9 (.string ByteArray.empty) 1 16 Tryz.underlying91 Oz rfl (by decide) (by decide) _ _ _ _ rfl (World.ownsRow_made w #[] 0 (Nat.le_refl _) (Nat.zero_le _) (by simp)) (some ad) xs.length cap (flat encS xs) rfl ?q1 ?q2 ?q3 ?q4 ?q5 ?_)
  case q1=>exact flat_length aZ xs
  case q2=>exact hr.below (aF _ _)
  case q3=>exact CX xs
  case q4=>rw[Nat.zero_add];exact hl
  case q5=>simp
  intro a' c' w1 hown hgrow;go_wp2
  go_ret
  exact⟨a',c',rfl,hown,(aF w _).grown hgrow (by simp) (by intro k hk;simp[Value.ownBlock]at hk;omega)⟩
theorem Yy (a:Option Addr)(n cap:Nat)(xs:List Sl)(w:World)(hn:xs.length=n)(hl:n*24<=140737488355328)(hr:Row w a (flat aX xs)):
 Calls Tryz.prog 88 #[.slice a n cap] w fun e w'=>∃a' c',e= .returned (.slice a' n c')/\w'.ownsRow w.heap.size 137 3 (.slice a' n c') n (flat aX xs)/\Below w.heap.size w w':=by
 have q22:∀(w:World) (a:Option Addr) (n c n' c':Nat),(binOp .eql 92 (.slice a n c) (.slice none n' c')).run Tryz.prog w= .ok (.bool a.isNone) w:=fun w a n c n' c'=>Lib.run_eql_slice_nil w _ _ a n c n' c' Tryz.underlying92
 subst hn;cases a with
 | none=>
  have hx:xs=[]:=by
   cases xs with
   | nil=>rfl
   | cons u l=>obtain⟨b,off,e1,_⟩:=aN aK (by decide) hr (j:=0) (by simp);cases e1
  subst hx;go_enter Tryz.func88,Tryz.ntmps88
  go_wp2
  go_ret
  exact⟨none,0,rfl,World.ownsRow_nil _ _ _ _,Below.refl _ _⟩
 | some ad=>
  go_enter Tryz.func88,Tryz.ntmps88
  go_wp2_with (at_builtin;refine iI rfl _ _ 92 rfl w.heap.size 137 (.agg #[.int .i64 0,.int .i64 0,.int .i64 0]) 3 24 Tryz.underlying92 yK rfl (by decide) (by decide) _ _ _ _ rfl (World.ownsRow_made w #[] 0 (Nat.le_refl _) (Nat.zero_le _) (by simp)) (some ad) xs.length cap (flat aX xs) rfl ?q1 ?q2 ?q3 ?q4 ?q5 ?_)
  case q1=>exact flat_length aK xs
  case q2=>exact hr.below (aF _ _)
  case q3=>exact vU xs
  case q4=>rw[Nat.zero_add];exact hl
  case q5=>simp
  intro a' c' w1 hown hgrow;go_wp2
  go_ret
  exact⟨a',c',rfl,hown,(aF w _).grown hgrow (by simp) (by intro k hk;simp[Value.ownBlock]at hk;omega)⟩
theorem VN (a:Option Addr)(n cap:Nat)(xs:List Int)(w:World)(hn:xs.length=n)(hl:n*8<=140737488355328)(hr:Row w a (flat encI xs)):
 Calls Tryz.prog 85 #[.slice a n cap] w fun e w'=>∃a' c',e= .returned (.slice a' n c')/\w'.ownsRow w.heap.size 3 1 (.slice a' n c') n (flat encI xs)/\Below w.heap.size w w':=by
 have q22:∀(w:World) (a:Option Addr) (n c n' c':Nat),(binOp .eql 39 (.slice a n c) (.slice none n' c')).run Tryz.prog w= .ok (.bool a.isNone) w:=fun w a n c n' c'=>Lib.run_eql_slice_nil w _ _ a n c n' c' Tryz.underlying39
 subst hn;cases a with
 | none=>
  have hx:xs=[]:=by
   cases xs with
   | nil=>rfl
   | cons u l=>obtain⟨b,off,e1,_⟩:=aN uU (by decide) hr (j:=0) (by simp);cases e1
  subst hx;go_enter Tryz.func85,Tryz.ntmps85
  go_wp2
  go_ret
  exact⟨none,0,rfl,World.ownsRow_nil _ _ _ _,Below.refl _ _⟩
 | some ad=>
  go_enter Tryz.func85,Tryz.ntmps85
  go_wp2_with (at_builtin;refine iI rfl _ _ 39 rfl w.heap.size 3 (.int .i64 0) 1 8 Tryz.underlying39 oN rfl (by decide) (by decide) _ _ _ _ rfl (World.ownsRow_made w #[] 0 (Nat.le_refl _) (Nat.zero_le _) (by simp)) (some ad) xs.length cap (flat encI xs) rfl ?q1 ?q2 ?q3 ?q4 ?q5 ?_)
  case q1=>exact flat_length uU xs
  case q2=>exact hr.below (aF _ _)
  case q3=>exact VL xs
  case q4=>rw[Nat.zero_add];exact hl
  case q5=>simp
  intro a' c' w1 hown hgrow;go_wp2
  go_ret
  exact⟨a',c',rfl,hown,(aF w _).grown hgrow (by simp) (by intro k hk;simp[Value.ownBlock]at hk;omega)⟩
end
section
open Go.RowKit
theorem Tt (a1 a2:Option Addr)(n1 n2 c1 c2:Nat)(z:Zn)(p:Nat)(w:World)(hat:Hf w a1 a2 n1 n2 z)(hz:z.ok)(h1:z.f<=p)(h2:p<z.e):
 Calls Tryz.prog 137 #[.agg #[.int .i64 z.f,.int .i64 z.e,.slice a1 n1 c1,.slice a2 n2 c2],.int .i64 p] w fun ev w'=>ev= .returned (.tuple #[.int .i64 (z.y.getD ((p-z.f)/8) 0:Nat),.int .i64 0])/\Below w.heap.size w w':=by
 have hee:=hz.1.e2;obtain⟨K1,F1,hsz,hbw⟩:=boxes1 w #[.int .i64 (z.f:Int),.int .i64 (z.e:Int),.slice a1 n1 c1,.slice a2 n2 c2] 102;have nU:=hat.below hbw;have l2:=hat.l2;have hj:(p-z.f)/8<z.y.length:=by rw[hz.1.len];have:=hz.1.f16;have:=hz.1.e16;omega
 have uV:z.y.getD ((p-z.f)/8) 0=z.y[(p-z.f)/8]:=by rw[List.getD_eq_getElem?_getD,gJ hj];rfl
 rw[uV];obtain⟨ty,hty⟩:∃ty,z.y[(p-z.f)/8]=ty:=⟨_,rfl⟩
 rw[hty];have HTY:=gO hty;clear hat uV hty;have d1:decide (p<z.f)=false:=decide_eq_false (by omega);have d2:(p:Int)<z.e:=by omega
 have d3:(z.f:Int)<=p:=by omega
 have ZH:((p:Int)-z.f)/8=(((p-z.f)/8:Nat):Int):=by omega
 have hjn:((((p-z.f)/8:Nat):Int))<n2:=by omega
 go_enter Tryz.func137,Tryz.ntmps137
 go_wp2_with fail
 generalize w.alloc _=w0 at*;refine(oP _ _ _ _ _ _ z _ nU hz).mono ?_;rintro ev w1 ⟨rfl,hb1⟩;have yZ:=aB K1 hsz hb1;have Ew:=nU.below hb1;obtain⟨tb,Hw,ht1,htb,htc⟩:=aN bQ (by decide) Ew.r2 hj;obtain rfl:=ht1;have yC:=iJ htc;rw[Nat.mul_one]at yC;have wV:=Below.step hbw hb1;clear htc Ew nU K1 F1 hb1 hbw;rw[HTY.out]at yC;clear HTY;generalize (p-z.f)/8=J at*;go_wp2
 go_ret2
 exact⟨rfl,wV⟩
end
end Go.Proofs.YtcmpmobhongkiaaGreatDoor
