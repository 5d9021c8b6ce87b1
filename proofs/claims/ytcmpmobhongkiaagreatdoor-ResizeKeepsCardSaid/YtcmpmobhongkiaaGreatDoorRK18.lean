/- joined. -/
import Derived.Test.YtcmpmobhongkiaaGreatDoorRK0
import Derived.Test.YtcmpmobhongkiaaGreatDoorRK1
import Derived.Test.YtcmpmobhongkiaaGreatDoorRK11
import Derived.Test.YtcmpmobhongkiaaGreatDoorRK13
import Derived.Test.YtcmpmobhongkiaaGreatDoorRK14
import Derived.Test.YtcmpmobhongkiaaGreatDoorRK15
import Derived.Test.YtcmpmobhongkiaaGreatDoorRK16
import Derived.Test.YtcmpmobhongkiaaGreatDoorRK17
import Derived.Test.YtcmpmobhongkiaaGreatDoorRK6
import Derived.Test.YtcmpmobhongkiaaGreatDoorRK7
import Derived.StringKeys
import Derived.Lib.Strings
import Derived.Maps.OwnOps
set_option linter.unusedVariables false
set_option linter.unusedSimpArgs false
namespace Go.Proofs.YtcmpmobhongkiaaGreatDoor
section
theorem JB {l:List Sl}{a:Nat}:l.take (Ji l a)=l.takeWhile (fun x=>decide (x.p<a))/\l.drop (Ji l a)=l.dropWhile (fun x=>decide (x.p<a)):=by
 have h:l.takeWhile (fun x=>decide (x.p<a))++l.dropWhile (fun x=>decide (x.p<a))=l:=List.takeWhile_append_dropWhile;unfold Ji;constructor
 ·conv=>lhs;rw[<- h]
  rw[List.take_left'];rw[h]
 ·conv=>lhs;rw[<- h]
  rw[List.drop_left'];rw[h]
theorem Qi (l:List Sl)(x:Sl):kP l x=l.takeWhile (fun y=>decide (y.p<x.p))++x::l.dropWhile (fun y=>decide (y.p<x.p)):=by
 unfold kP;rw[JB.1,JB.2]
theorem nJ {l:List Sl}{x y:Sl}:y∈kP l x↔y=x∨y∈l:=by
 rw[Qi];have h:l.takeWhile (fun y=>decide (y.p<x.p))++l.dropWhile (fun y=>decide (y.p<x.p))=l:=List.takeWhile_append_dropWhile
 conv=>rhs;rw[<- h]
 simp only[List.mem_append,List.mem_cons];constructor
 ·rintro(h | h | h)
  ·exact .inr (.inl h)
  ·exact .inl h
  ·exact .inr (.inr h)
 ·rintro(h | h | h)
  ·exact .inr (.inl h)
  ·exact .inl h
  ·exact .inr (.inr h)
theorem xY {a:Nat}:∀{l:List Sl},(l.Pairwise fun x y=>x.p<y.p)->∀y∈l.dropWhile (fun x=>decide (x.p<a)),a<=y.p
 | [],_,y,hy=>by simp at hy
 | b::l,hl,y,hy=>by
  rw[List.pairwise_cons]at hl;by_cases hb:b.p<a
  ·rw[List.dropWhile_cons_of_pos (by simpa using hb)]at hy;exact xY hl.2 y hy
  ·rw[List.dropWhile_cons_of_neg (by simpa using hb)]at hy;rcases List.mem_cons.1 hy with rfl | hy
   ·omega
   ·have:=hl.1 y hy;omega
theorem UH {q:Sl->Bool}{y:Sl}:∀{l:List Sl},y∈l.takeWhile q->q y=true
 | [],h=>by simp at h
 | b::l,h=>by
  by_cases hb:q b=true
  ·rw[List.takeWhile_cons_of_pos hb]at h;rcases List.mem_cons.1 h with rfl | h
   ·exact hb
   ·exact UH h
  ·rw[List.takeWhile_cons_of_neg hb]at h;simp at h
theorem Ru {l:List Sl}{x:Sl}(hl:l.Pairwise fun a b=>a.p<b.p)(hx:∀y∈l,y.p≠x.p):(kP l x).Pairwise fun a b=>a.p<b.p:=by
 have h:l.takeWhile (fun y=>decide (y.p<x.p))++l.dropWhile (fun y=>decide (y.p<x.p))=l:=List.takeWhile_append_dropWhile;have h1:∀y∈l.takeWhile (fun y=>decide (y.p<x.p)),y.p<x.p:=fun y hy=>by
  have:=UH hy;simpa using this
 have h2:=xY (a:=x.p) hl;have h3:=hl;rw[<- h,List.pairwise_append]at h3;rw[Qi,List.pairwise_append,List.pairwise_cons];refine⟨h3.1,⟨fun y hy=> ?_,h3.2.1⟩,fun a ha b hb=> ?_⟩
 ·have h4:=h2 y hy;have h5:=hx y (by rw[<- h];exact List.mem_append_right _ hy);omega
 ·rcases List.mem_cons.1 hb with rfl | hb
  ·exact h1 a ha
  ·exact h3.2.2 a ha b hb
theorem JC (l:List Sl)(x:Sl):(kP l x)[Ji l x.p]? =some x:=by
 have h:Ji l x.p<=l.length:=(List.takeWhile_sublist _).length_le;unfold kP;rw[List.getElem?_append_right (by rw[List.length_take];omega),List.length_take,Nat.min_eq_left h,Nat.sub_self];rfl
theorem Cj {k:Nat}(h:1<=k/\k<=64):1<=fB k:=by
 unfold fB;rw[Nat.le_div_iff_mul_le (by omega)];unfold dS;split
 ·rename_i h1;rw[Nat.le_div_iff_mul_le (by omega)]at h1;omega
 ·split
  ·rename_i h1;rw[Nat.le_div_iff_mul_le (by omega)]at h1;omega
  ·omega
theorem Rw (k:Nat):fB k*k<=16*2^dS k:=Nat.div_mul_le_self _ _
theorem kT (k:Nat):dS k<=2:=by unfold dS;split <;> (try split) <;> omega
theorem iV {c:Ca}{p:Nat}{a:Int}(hc:c.r*c.z<=16*2^c.o)(h:fU c p a=true):16*(p:Int)<=a/\a<16*((p+2^c.o:Nat):Int):=by
 have h1:=kG h;have h2:((c.r*c.z:Nat):Int)<=((16*2^c.o:Nat):Int):=by exact_mod_cast hc
 have h3:((c.r*c.z:Nat):Int)=(c.r:Int)*c.z:=by push_cast;rfl
 have h4:((16*2^c.o:Nat):Int)=16*((2^c.o:Nat):Int):=by push_cast;rfl
 have h5:((p+2^c.o:Nat):Int)=(p:Int)+((2^c.o:Nat):Int):=by push_cast;rfl
 generalize ((2^c.o:Nat):Int)=q at*;omega
theorem o8.room {s:Sy}{c:Ca}(h:o8 s c):c.r*c.z<=16*2^c.o:=by rw[h.r,h.o];exact Rw _
theorem pJ (xs:List Int)(p k n:Nat):∀(j:Nat),j<=n->∀i,(i<p∨p+k*n<=i)->1<=k->(chainTo xs p k n j).getD i 0=xs.getD i 0
 | 0,_,_,_,_=>rfl
 | j+1,hj,i,hi,hk=>by
  have ih:=pJ xs p k n j (by omega) i hi hk;have hne:p+j*k≠i:=by
   have h1:(j+1)*k<=n*k:=Nat.mul_le_mul_right k hj;have h2:n*k=k*n:=Nat.mul_comm _ _;rw[Nat.add_mul]at h1;omega
  unfold chainTo;rw[List.getD_eq_getElem?_getD,List.getElem?_set_ne hne,<- List.getD_eq_getElem?_getD];exact ih
theorem bK.grow {s s':Sy}(hk:bK s){i cpu k:Nat}{c:Ca}(hi:s.cs[i]? =some c)(bJ:cpu<s.h.aC)(hg:s.grow i cpu c=some (s',k)):
 bK s'/\s'.h.aC=s.h.aC/\∃(c':Ca) (x:Sl),s'.cs[i]? =some c'/\c'.sl[k]? =some x/\0<x.n/\(∀a∈c'.ac,a≠(x.p:Int)):=by
 have hil:=(List.getElem?_eq_some_iff.1 hi).1;have hck:=hk.ck c (gM hi);have hor:c.o<=4:=by rw[hck.o];exact gQ (kT _) (by decide)
 unfold Sy.grow at hg;cases hal:s.h.alloc cpu c.o 0 false false with
 | none=>rw[hal]at hg;cases hg
 | some r=>
  obtain⟨h',a⟩:=r;rw[hal]at hg;have h1:=gP hg;rw[Prod.mk.injEq]at h1;obtain⟨rfl,rfl⟩:=h1;obtain⟨hh,hcnt,hsame,hlive,hfit⟩:=hk.hk.alloc bJ hor (by decide) hal;have Qj:h'.aC=s.h.aC:=hsame.aC;have hcl:h'.live=bF s.h.live ⟨a,c.o,0⟩:=hlive
  -- the new block lies apart from all others
  have hap:∀b∈s.h.live,apartB a c.o b:=fun b hb=>dG fun q h1 h2=>by
   have h3:=hh.one q;rw[dI,hcl,qU]at h3;have h4:0<cnt s.h.live q:=iL.2 ⟨b,hb,h2⟩;have h5:hit (⟨a,c.o,0⟩:Bk) q=1:=jI.2 h1;omega
  have hpp:=Nat.two_pow_pos c.o;have hsl:∀d∈s.cs,∀x∈d.sl,x.p≠a/\∀o:Int,fU d x.p o=true->(chainTo s.w (16*a) c.z c.r c.r).getD o.toNat 0=s.w.getD o.toNat 0:=fun d hd x hx=>by
   have hdk:=hk.ck d hd;obtain⟨b,hb,hb1,hb2⟩:=(hdk.sk x hx).live;have h1:=hap b hb;unfold apartB Bk.fin at h1;rw[hb1,hb2]at h1;have hp2:=Nat.two_pow_pos d.o;refine⟨by omega,fun o ho=>pJ _ _ _ _ _ (Nat.le_refl _) _ ?_ hck.z.1⟩;have h2:=iV hdk.room ho;have h3:=hck.room;rw[Nat.mul_comm c.z c.r];generalize c.r*c.z=m at*;generalize 2^c.o=q at*;generalize 2^d.o=q' at*;omega
  have hwl:(chainTo s.w (16*a) c.z c.r c.r).length=s.w.length:=gW _ _ _ _ _;have hlv:∀b∈s.h.live,b∈h'.live:=fun b hb=>by
   rw[hcl];unfold bF;have h2:s.h.live.take (lb s.h.live a)++s.h.live.drop (lb s.h.live a)=s.h.live:=List.take_append_drop _ _;rw[<- h2]at hb;rcases List.mem_append.1 hb with h | h
   ·exact List.mem_append_left _ h
   ·exact List.mem_append_right _ (List.mem_cons_of_mem _ h)
  have hoth:∀d∈s.cs,∀x∈d.sl,tX {w:=chainTo s.w (16*a) c.z c.r c.r,h:=h',cs:=s.cs.set i {c with sl:=kP c.sl ⟨a,c.r,((16*a:Nat):Int)⟩}} d x:=fun d hd x hx=>
   ((hk.ck d hd).sk x hx).move rfl rfl rfl hlv hwl ((hsl d hd x hx).2)
  have hr1:1<=c.r:=by rw[hck.r];exact Cj hck.z
  have hin:16*a+c.z*c.r<=s.w.length:=by
   have h1:=hck.room;have h2:a+2^c.o<=256:=by
    have h3:c.o<=2:=by rw[hck.o];exact kT _
    obtain⟨_,_,h4,h5⟩:=hfit;generalize c.o=o at*;obtain rfl | rfl | rfl:o=0∨o=1∨o=2:=by omega
    ·omega
    ·omega
    ·omega
   rw[Nat.mul_comm c.z,hk.wl];generalize c.r*c.z=m at*;generalize 2^c.o=q at*;omega
  have hnew:tX {w:=chainTo s.w (16*a) c.z c.r c.r,h:=h',cs:=s.cs.set i {c with sl:=kP c.sl ⟨a,c.r,((16*a:Nat):Int)⟩}} {c with sl:=kP c.sl ⟨a,c.r,((16*a:Nat):Int)⟩} ⟨a,c.r,((16*a:Nat):Int)⟩:=by
   refine⟨⟨⟨a,c.o,0⟩,by rw[show h'.live=_ from hcl];unfold bF;simp,rfl,rfl⟩,objs (16*a) c.z c.r,?_,pF _ _ _,fun o ho=> ?_⟩
   ·have h1:=xP s.w (16*a) c.z c.r c.r hck.z.1 hr1 hin (by omega);rw[if_pos (Int.le_refl _)]at h1;exact h1
   ·unfold objs at ho;obtain⟨j,hj,rfl⟩:=List.mem_map.1 ho;rw[List.mem_range]at hj;unfold fU;simp only[decide_eq_true_eq];have h1:((16*a+j*c.z:Nat):Int)-16*(a:Int)=(j:Int)*c.z:=by push_cast;omega
    rw[h1];have h2:(j:Int)*c.z=((j*c.z:Nat):Int):=by push_cast;rfl
    have h3:(c.r:Int)*c.z=((c.r*c.z:Nat):Int):=by push_cast;rfl
    have h4:j*c.z<c.r*c.z:=Nat.mul_lt_mul_of_pos_right hj hck.z.1;refine⟨by omega,by omega,Int.mul_emod_left _ _⟩
  refine⟨hk.upd hi (c':={c with sl:=kP c.sl ⟨a,c.r,((16*a:Nat):Int)⟩}) (by show(chainTo s.w (16*a) c.z c.r c.r).length=4096;rw[hwl];exact hk.wl) hh rfl rfl rfl ?_ (fun d hd=>(hk.ck d hd).move Qj (hoth d hd)) (fun x hx=> ?_),Qj,{c with sl:=kP c.sl ⟨a,c.r,((16*a:Nat):Int)⟩},⟨a,c.r,((16*a:Nat):Int)⟩,?_,JC c.sl ⟨a,c.r,((16*a:Nat):Int)⟩,hr1,fun b hb e=> ?_⟩
  ·refine⟨hck.z,hck.o,hck.r,hck.ns,hck.nm,hck.nr,by rw[show _=_ from Qj];exact hck.ac,Ru hck.sr (fun y hy=>(hsl c (gM hi) y hy).1),fun x hx=> ?_,fun b hb=> ?_,hck.ad⟩
   ·rcases nJ.1 hx with rfl | hx
    ·exact hnew
    ·have h1:=hoth c (gM hi) x hx;exact⟨h1.live,h1.chain⟩
   ·rcases hck.aw b hb with h | ⟨x,hx,h⟩
    ·exact .inl h
    ·exact .inr ⟨x,nJ.2 (.inr hx),h⟩
  ·rcases nJ.1 hx with rfl | hx
   ·exact .inr fun d hd y hy=>(hsl d hd y hy).1
   ·exact .inl ⟨x,hx,rfl⟩
  ·show(s.cs.set i _)[i]? =_;rw[List.getElem?_set_self hil]
  ·rcases hck.aw b hb with h | ⟨x,hx,h⟩
   ·rw[h]at e;have e':(-1:Int)=(a:Int):=e;omega
   ·have h1:=(hsl c (gM hi) x hx).1;rw[<- h]at e;have e':(x.p:Int)=(a:Int):=e;omega
theorem bK.mine {s:Sy}(hk:bK s){i cpu k:Nat}{c:Ca}{x:Sl}(hi:s.cs[i]? =some c)(hx:c.sl[k]? =some x)(hn:∀a∈c.ac,a≠(x.p:Int)):
 bK (s.mine i cpu k)/\(s.mine i cpu k).h=s.h/\(s.mine i cpu k).w=s.w/\(s.mine i cpu k).cs[i]? =some {c with ac:=c.ac.set cpu (x.p:Int)}:=by
 have hil:=(List.getElem?_eq_some_iff.1 hi).1;have hcm:=gM hi;have hck:=hk.ck c hcm;have e:s.mine i cpu k=s.fH i {c with ac:=c.ac.set cpu (x.p:Int)}:=by
  unfold Sy.mine;rw[hi];simp only[hx]
 rw[e];refine⟨hk.upd hi (c':={c with ac:=c.ac.set cpu (x.p:Int)}) hk.wl hk.hk rfl rfl rfl ?_ (fun d hd=>(hk.ck d hd).move rfl (fun y hy=>⟨((hk.ck d hd).sk y hy).live,((hk.ck d hd).sk y hy).chain⟩)) (fun y hy=> .inl ⟨y,hy,rfl⟩),rfl,rfl,?_⟩
 ·refine⟨hck.z,hck.o,hck.r,hck.ns,hck.nm,hck.nr,by rw[List.length_set];exact hck.ac,hck.sr,fun y hy=>⟨(hck.sk y hy).live,(hck.sk y hy).chain⟩,fun a ha=> ?_,?_⟩
  ·rcases List.mem_or_eq_of_mem_set ha with h | rfl
   ·exact hck.aw a h
   ·exact .inr ⟨x,gM hx,rfl⟩
  ·have h1:=hck.ad;rw[gN]at h1 ⊢;intro j l hj hl hjl;have hj':j<c.ac.length:=by simpa using hj
   have hl':l<c.ac.length:=by simpa using hl
   simp only[List.getElem_set];split
   ·rename_i e1;rw[if_neg (by omega)];exact fun e2=>absurd e2.symm (hn _ (gL hl'))
   ·split
    ·exact fun e2=>absurd e2 (hn _ (gL hj'))
    ·exact h1 j l hj' hl' hjl
 ·show(s.cs.set i _)[i]? =_;rw[List.getElem?_set_self hil]
theorem bK.first {s:Sy}(hk:bK s){c:Ca}{x:Sl}(hc:c∈s.cs)(hx:x∈c.sl)(hn:0<x.n):∃m,follow s.w x.h c.r=some (x.h::m)/\m.length+1=x.n/\(∀a∈x.h::m,fU c x.p a=true)/\0<=x.h/\x.h<4096/\follow s.w (s.w.getD x.h.toNat 0) c.r=some m:=by
 obtain⟨l,h1,h2,h3⟩:=((hk.ck c hc).sk x hx).chain;have h4:=fJ.1 h1;cases l with
 | nil=>simp at h2;omega
 | cons a m=>
  obtain⟨⟨rfl,h5⟩,h6,h7,h8⟩:=h4;have h9:=h6 x.h (by simp);rw[hk.wl]at h9;refine⟨m,h1,by simpa using h2,h3,h9.1,by omega,fJ.2 ⟨h5,fun a ha=>h6 a (List.mem_cons_of_mem _ ha),fun _=> ?_,(List.nodup_cons.1 h8).2⟩⟩;have:=h7 (by simp);simp at this;omega
theorem bK.pop {s s':Sy}(hk:bK s){i k:Nat}{c:Ca}{x:Sl}{a:Int}(hi:s.cs[i]? =some c)(hx:c.sl[k]? =some x)(hn:0<x.n)(hp:s.pop i k=some (s',a)):
 bK s'/\s'.h=s.h/\s'.w=s.w/\a=x.h/\s'=s.fH i {c with sl:=c.sl.set k ⟨x.p,x.n-1,s.w.getD x.h.toNat 0⟩}:=by
 have hil:=(List.getElem?_eq_some_iff.1 hi).1;have hcm:=gM hi;have hxm:=gM hx;obtain⟨hkl,hkx⟩:=List.getElem?_eq_some_iff.1 hx;have hck:=hk.ck c hcm;unfold Sy.pop at hp;rw[hi]at hp;simp only[hx]at hp;have h1:=gP hp;rw[Prod.mk.injEq]at h1;obtain⟨rfl,rfl⟩:=h1;obtain⟨m,h2,h3,h4,h5,h6,h7⟩:=hk.first hcm hxm hn;have hmem:∀y∈c.sl.set k ⟨x.p,x.n-1,s.w.getD x.h.toNat 0⟩,y∈c.sl∨y=⟨x.p,x.n-1,s.w.getD x.h.toNat 0⟩:=fun y hy=>List.mem_or_eq_of_mem_set hy
 have hpm:∀y∈c.sl.set k ⟨x.p,x.n-1,s.w.getD x.h.toNat 0⟩,∃z∈c.sl,z.p=y.p:=fun y hy=>by
  rcases hmem y hy with h | rfl
  ·exact⟨y,h,rfl⟩
  ·exact⟨x,hxm,rfl⟩
 refine⟨hk.upd hi (c':={c with sl:=c.sl.set k ⟨x.p,x.n-1,s.w.getD x.h.toNat 0⟩}) hk.wl hk.hk rfl rfl rfl ?_ (fun d hd=>(hk.ck d hd).move rfl (fun y hy=>⟨((hk.ck d hd).sk y hy).live,((hk.ck d hd).sk y hy).chain⟩)) (fun y hy=> .inl (hpm y hy)),rfl,rfl,rfl,rfl⟩;refine⟨hck.z,hck.o,hck.r,hck.ns,hck.nm,hck.nr,hck.ac,?_,fun y hy=> ?_,fun b hb=> ?_,hck.ad⟩
 ·have h8:=hck.sr;rw[gN]at h8 ⊢;intro j l hj hl hjl;have hj':j<c.sl.length:=by simpa using hj
  have hl':l<c.sl.length:=by simpa using hl
  have h9:=h8 j l hj' hl' hjl;simp only[List.getElem_set];split
  ·rename_i e1;subst e1;rw[if_neg (by omega)];rw[hkx]at h9;exact h9
  ·split
   ·rename_i e1;subst e1;rw[hkx]at h9;exact h9
   ·exact h9
 ·rcases hmem y hy with h | rfl
  ·exact⟨(hck.sk y h).live,(hck.sk y h).chain⟩
  ·exact⟨(hck.sk x hxm).live,m,h7,by show m.length=x.n-1;omega,fun a ha=>h4 a (List.mem_cons_of_mem _ ha)⟩
 ·rcases hck.aw b hb with h | ⟨z,hz,h⟩
  ·exact .inl h
  ·refine .inr ?_;obtain⟨j,hj,e⟩:=List.mem_iff_getElem.1 hz;refine⟨(c.sl.set k ⟨x.p,x.n-1,s.w.getD x.h.toNat 0⟩)[j]'(by simpa using hj),gL _,?_⟩;rw[List.getElem_set];split
   ·rename_i e1;subst e1;rw[hkx]at e;rw[e];exact h
   ·rw[e];exact h
theorem bK.choose {s s':Sy}(hk:bK s){i cpu k:Nat}{c:Ca}(hi:s.cs[i]? =some c)(bJ:cpu<s.h.aC)(hg:s.choose i cpu=some (s',k)):
 bK s'/\s'.h.aC=s.h.aC/\∃(c':Ca) (x:Sl),s'.cs[i]? =some c'/\c'.sl[k]? =some x/\0<x.n:=by
 unfold Sy.choose at hg;rw[hi]at hg;simp only at hg;cases hown:c.own cpu with
 | some j=>
  rw[hown]at hg;have h1:=gP hg;rw[Prod.mk.injEq]at h1;obtain⟨rfl,rfl⟩:=h1;unfold Ca.own at hown;split at hown
  ·split at hown
   ·split at hown
    ·obtain rfl:=gP hown;exact⟨hk,rfl,c,_,hi,by assumption,by assumption⟩
    ·cases hown
   ·cases hown
  ·cases hown
 | none=>
  rw[hown]at hg;simp only at hg;cases qC:c.nobody with
  | some j=>
   rw[qC]at hg;have h1:=gP hg;rw[Prod.mk.injEq]at h1;obtain⟨rfl,rfl⟩:=h1;unfold Ca.nobody at qC;rw[List.findIdx?_eq_some_iff_getElem]at qC;obtain⟨hj,h2,_⟩:=qC;simp only[Bool.and_eq_true,decide_eq_true_eq,Bool.not_eq_true']at h2;have hx:c.sl[j]? =some c.sl[j]:=gJ hj;obtain⟨h3,h4,_,h5⟩:=hk.mine (cpu:=cpu) hi hx (fun a ha e=>by
    rw[<- e,List.contains_iff_mem.2 ha]at h2;cases h2.2)
   exact⟨h3,by rw[h4],_,c.sl[j],h5,hx,h2.1⟩
  | none=>
   rw[qC]at hg;simp only at hg;cases hgr:s.grow i cpu c with
   | none=>rw[hgr]at hg;cases hg
   | some r=>
    obtain⟨s2,j⟩:=r;rw[hgr]at hg;have h1:=gP hg;rw[Prod.mk.injEq]at h1;obtain⟨rfl,rfl⟩:=h1;obtain⟨h2,h3,c',x,h4,h5,h6,h7⟩:=hk.grow hi bJ hgr;obtain⟨h8,h9,_,h10⟩:=h2.mine (cpu:=cpu) h4 h5 h7;exact⟨h8,by rw[h9];exact h3,_,x,h10,h5,h6⟩
theorem bK.one {s s':Sy}(hk:bK s){i cpu:Nat}{c:Ca}{a:Int}(hi:s.cs[i]? =some c)(bJ:cpu<s.h.aC)(hg:s.one i cpu=some (s',a)):bK s'/\s'.h.aC=s.h.aC/\s'.cs.length=s.cs.length/\∃c',s'.cs[i]? =some c':=by
 unfold Sy.one at hg;cases hch:s.choose i cpu with
 | none=>rw[hch]at hg;cases hg
 | some r=>
  obtain⟨s2,k⟩:=r;rw[hch]at hg;simp only at hg;obtain⟨h1,h2,c',x,h3,h4,h5⟩:=hk.choose hi bJ hch;obtain⟨h6,h7,_,_,h8⟩:=h1.pop h3 h4 h5 hg;have hlen:s2.cs.length=s.cs.length:=by
   unfold Sy.choose at hch;rw[hi]at hch;simp only at hch;have hm:∀(t:Sy) (j:Nat),(t.mine i cpu j).cs.length=t.cs.length:=fun t j=>by
    unfold Sy.mine Sy.fH;split
    ·split
     ·simp
     ·rfl
    ·rfl
   split at hch
   ·have h:=gP hch;rw[Prod.mk.injEq]at h;rw[<- h.1]
   ·split at hch
    ·have h:=gP hch;rw[Prod.mk.injEq]at h;rw[<- h.1];exact hm _ _
    ·split at hch
     ·rename_i heq;have h:=gP hch;rw[Prod.mk.injEq]at h;rw[<- h.1,hm];unfold Sy.grow at heq;split at heq
      ·have h':=gP heq;rw[Prod.mk.injEq]at h';rw[<- h'.1];simp
      ·cases heq
     ·cases hch
  have hil:i<s2.cs.length:=(List.getElem?_eq_some_iff.1 h3).1;refine⟨h6,by rw[h7];exact h2,?_,?_⟩
  ·rw[h8];unfold Sy.fH;simp[hlen]
  ·rw[h8];exact⟨_,by show(s2.cs.set i _)[i]? =_;rw[List.getElem?_set_self hil]⟩
end
section
open Go.RowKit
theorem UU:∀x:List UInt8,Go.Op.bytesLess x x=false
 | []=>rfl
 | a::x=>by
  rw[Go.Op.bytesLess,UU x];simp
theorem CG:∀{x y z:List UInt8},Go.Op.bytesLess x y=true->Go.Op.bytesLess y z=true->Go.Op.bytesLess x z=true
 | [],[],_,h,_=>by simp[Go.Op.bytesLess]at h
 | [],_::_,[],_,h=>by simp[Go.Op.bytesLess]at h
 | [],_::_,_::_,_,_=>rfl
 | _::_,[],_,h,_=>by simp[Go.Op.bytesLess]at h
 | _::_,_::_,[],_,h=>by simp[Go.Op.bytesLess]at h
 | a::x,b::y,c::z,h,k=>by
  simp only[Go.Op.bytesLess,Bool.or_eq_true,Bool.and_eq_true,decide_eq_true_eq,beq_iff_eq,UInt8.lt_iff_toNat_lt]at h k ⊢;rcases h with h | ⟨rfl,h⟩
  ·rcases k with k | ⟨rfl,k⟩
   ·exact .inl (by omega)
   ·exact .inl h
  ·rcases k with k | ⟨rfl,k⟩
   ·exact .inl k
   ·exact .inr ⟨rfl,CG h k⟩
theorem XY {x y:List UInt8}{b:Bool}(h:Go.Op.bytesLess x y=b):Go.Op.bytesLess (ByteArray.mk x.toArray).toList (ByteArray.mk y.toArray).toList=b:=by
 rw[Go.Lib.toList_data,Go.Lib.toList_data];exact h
theorem RD {x y:List UInt8}(w:World){b:Bool}(h:Go.Op.bytesLess x y=b):(binOp .geq 9 (.string ⟨x.toArray⟩) (.string ⟨y.toArray⟩)).run Tryz.prog w= .ok (.bool (!b)) w:=by
 simp[binOp,Go.Op.stringOp];exact h
theorem Oc:(Tryz.prog.info? 4).map (fun i=>(i.zero,i.size,i.bytes))=some (some (.bool false),1,1):=by kernel_rfl
theorem CJ (w:World):(zeroValue 4).run Tryz.prog w= .ok (.bool false) w:=by
 obtain⟨i,hi,hz,hs,hb⟩:=info_parts Oc;simp[zeroValue,typeInfo,hi,hz]
theorem zK {w w':World}{B n:Nat}(hg:w.grownBy w' (some B))(h1:n<=B)(h2:n<=w.heap.size):Below n w w':=
 ⟨hg.os,hg.tape,hg.output,hg.size,fun k hk=>hg.block k (by omega) (by simp;omega)⟩
theorem Ql {w w':World}{B b:Nat}{vs:Array Value}(hk:∀o,w.cell? ⟨b,o,none⟩=vs[o]?)(hg:w.grownBy w' (some B))(hb:b<w.heap.size)(hne:b≠B)(o:Nat):w'.cell? ⟨b,o,none⟩=vs[o]? :=
 (World.cell?_of_block (w:=w) (a:=⟨b,o,none⟩) (hg.block b hb (by simp;exact hne))).trans (hk o)
section
variable {w:World}{B n:Nat}{S:Lit->Prop}
theorem Zt (l:List UInt8)(hl:l.length<=1000):keyOf Tryz.prog 9 (sV l)=some (.string l):=by
 have h:=Go.WideMaps.keyOf_string_mk Tryz.underlying9 (s:=ByteArray.mk l.toArray) (by unfold maxLen;show l.toArray.size<=_;simp;omega);simpa[sV]using h
theorem Zu (p:Nat)(hp:p<=1000):keyOf Tryz.prog 3 (.int .i64 (p:Int))=some (.int .i64 (p:Int)):=
 Go.Maps.keyOf_int_mk Tryz.underlying3 (by
  show(decide (IntKind.i64.min<=(p:Int))&&decide ((p:Int)<=IntKind.i64.max))=true;rw[show IntKind.i64.min= -9223372036854775808 from rfl,show IntKind.i64.max=9223372036854775807 from rfl];simp;omega)
theorem JH (h:eX w Tryz.prog 9 4 B n S)(l:List UInt8)(hl:l.length<=1000)(hno:¬S (.string l)):(Instr.lookup 147 (.map (some B)) (sV l) false).run Tryz.prog w= .ok (.bool false) w:=
 h.out (Go.Maps.string_keyed Tryz.underlying9) Tryz.underlying147 Tryz.underlying4 (CJ w) (Zt l hl) trivial hno
theorem JI (h:eX w Tryz.prog 9 4 B n S)(hn:n<=1000000)(l:List UInt8)(hl:l.length<=1000):∃w',(Instr.mapUpdate 147 (.map (some B)) (sV l) (.bool true)).run Tryz.prog w= .ok () w'/\eX w' Tryz.prog 9 4 B (n+1) (fun x=>x= .string l∨S x)/\w.grownBy w' (some B):=
 h.put (Go.Maps.string_keyed Tryz.underlying9) Tryz.underlying147 Tryz.underlying4 (by unfold maxLen;omega) (Zt l hl) trivial
theorem UW (h:eX w Tryz.prog 3 4 B n S)(p:Nat)(hp:p<=1000)(hno:¬S (.int .i64 (p:Int))):(Instr.lookup 148 (.map (some B)) (.int .i64 (p:Int)) false).run Tryz.prog w= .ok (.bool false) w:=
 h.out (Go.Maps.int_keyed Tryz.underlying3) Tryz.underlying148 Tryz.underlying4 (CJ w) (Zu p hp) trivial hno
theorem UY (h:eX w Tryz.prog 3 4 B n S)(hn:n<=1000000)(p:Nat)(hp:p<=1000):∃w',(Instr.mapUpdate 148 (.map (some B)) (.int .i64 (p:Int)) (.bool true)).run Tryz.prog w= .ok () w'/\eX w' Tryz.prog 3 4 B (n+1) (fun x=>x= .int .i64 (p:Int)∨S x)/\w.grownBy w' (some B):=
 h.put (Go.Maps.int_keyed Tryz.underlying3) Tryz.underlying148 Tryz.underlying4 (by unfold maxLen;omega) (Zu p hp) trivial
end
end
section
theorem JJ:∀{x y:List UInt8},x≠y->Go.Op.bytesLess x y=false->Go.Op.bytesLess y x=true
 | [],[],h,_=>absurd rfl h
 | [],_::_,_,h=>by simp[Go.Op.bytesLess]at h
 | _::_,[],_,_=>rfl
 | a::x,b::y,hne,h=>by
  simp only[Go.Op.bytesLess,Bool.or_eq_false_iff,Bool.and_eq_false_iff,decide_eq_false_iff_not,beq_eq_false_iff_ne]at h;simp only[Go.Op.bytesLess,Bool.or_eq_true,Bool.and_eq_true,decide_eq_true_eq,beq_iff_eq];by_cases hab:a=b
  ·subst hab;refine .inr ⟨rfl,JJ (fun e=>hne (by rw[e])) ?_⟩;rcases h.2 with h2 | h2
   ·exact absurd rfl h2
   ·exact h2
  ·left;have h1:=h.1;rw[UInt8.lt_iff_toNat_lt]at h1 ⊢;have h3:a.toNat≠b.toNat:=fun e=>hab (UInt8.toNat_inj.1 e)
   omega
theorem Qm {α:Type}(q:α->Bool)(l:List α):l.take (l.takeWhile q).length=l.takeWhile q/\l.drop (l.takeWhile q).length=l.dropWhile q:=by
 have h:l.takeWhile q++l.dropWhile q=l:=List.takeWhile_append_dropWhile;constructor
 ·conv=>lhs;arg 2;rw[<- h]
  exact List.take_left' rfl
 ·conv=>lhs;arg 2;rw[<- h]
  exact List.drop_left' rfl
theorem Qn {α:Type}{q:α->Bool}{y:α}:∀{l:List α},y∈l.takeWhile q->q y=true
 | [],h=>by simp at h
 | b::l,h=>by
  by_cases hb:q b=true
  ·rw[List.takeWhile_cons_of_pos hb]at h;rcases List.mem_cons.1 h with rfl | h
   ·exact hb
   ·exact Qn h
  ·rw[List.takeWhile_cons_of_neg hb]at h;simp at h
theorem Zv {n:List UInt8}:∀{l:List (List UInt8)},(l.Pairwise fun x y=>Go.Op.bytesLess x y=true)->n∉l->∀y∈l.dropWhile (fun x=>Go.Op.bytesLess x n),Go.Op.bytesLess n y=true
 | [],_,_,y,hy=>by simp at hy
 | b::l,hl,hn,y,hy=>by
  rw[List.pairwise_cons]at hl;cases hb:Go.Op.bytesLess b n with
  | true=>
   rw[List.dropWhile_cons_of_pos (p:=fun x=>Go.Op.bytesLess x n) hb]at hy;exact Zv hl.2 (fun h=>hn (List.mem_cons_of_mem _ h)) y hy
  | false=>
   rw[List.dropWhile_cons_of_neg (p:=fun x=>Go.Op.bytesLess x n) (by simp[hb])]at hy;have h1:=JJ (x:=b) (y:=n) (fun e=>hn (by rw[<- e];exact List.mem_cons_self)) hb;rcases List.mem_cons.1 hy with rfl | hy
   ·exact h1
   ·exact CG h1 (hl.1 y hy)
def RF (l:List (List UInt8))(n:List UInt8):List (List UInt8):=l.take (AB l n)++n::l.drop (AB l n)
theorem RG {l:List (List UInt8)}{n:List UInt8}(hl:l.Pairwise fun x y=>Go.Op.bytesLess x y=true)(hn:n∉l):(RF l n).Pairwise fun x y=>Go.Op.bytesLess x y=true:=by
 have h:l.takeWhile (fun x=>Go.Op.bytesLess x n)++l.dropWhile (fun x=>Go.Op.bytesLess x n)=l:=List.takeWhile_append_dropWhile;have h3:=hl;rw[<- h,List.pairwise_append]at h3;unfold RF AB;rw[(Qm _ l).1,(Qm _ l).2,List.pairwise_append,List.pairwise_cons];refine⟨h3.1,⟨fun y hy=>Zv hl hn y hy,h3.2.1⟩,fun a ha b hb=> ?_⟩;rcases List.mem_cons.1 hb with rfl | hb
 ·exact Qn (q:=fun x=>Go.Op.bytesLess x b) ha
 ·exact h3.2.2 a ha b hb
theorem xZ {l:List (List UInt8)}{n y:List UInt8}:y∈RF l n↔y=n∨y∈l:=by
 unfold RF
 conv=>rhs;rw[<- List.take_append_drop (AB l n) l]
 simp only[List.mem_append,List.mem_cons];constructor
 ·rintro(h | h | h)
  ·exact .inr (.inl h)
  ·exact .inl h
  ·exact .inr (.inr h)
 ·rintro(h | h | h)
  ·exact .inr (.inl h)
  ·exact .inl h
  ·exact .inr (.inr h)
theorem zL {α:Type}{R:α->α->Prop}{l:List α}(h:l.Pairwise R){i:Nat}{c:α}(h2:∀j (hj:j<l.length),j<i->R l[j] c)(h3:∀j (hj:j<l.length),i<j->R c l[j]):(l.set i c).Pairwise R:=by
 rw[gN]at h ⊢;intro j k hj hk hjk;rw[List.length_set]at hj hk;rw[List.getElem_set,List.getElem_set];split
 ·rename_i e;subst e;rw[if_neg (by omega)];exact h3 k hk hjk
 ·split
  ·rename_i e;subst e;exact h2 j hj hjk
  ·exact h j k hj hk hjk
theorem bK.create {s s':Sy}(hk:bK s){n:List UInt8}{z:Nat}(hnm:nameB n=true)(hz:1<=z/\z<=64)(hno:s.named n=none)(h:s.create n z=some s'):bK s'/\s'.h=s.h/\s'.w=s.w:=by
 have hall:∀c∈s.cs,n∉c.ns:=fun c hc hn=>by
  unfold Sy.named at hno;rw[List.findIdx?_eq_none_iff]at hno;have h1:=hno c hc;rw[List.contains_iff_mem.2 hn]at h1;cases h1
 unfold Sy.create at h;split at h
 ·rename_i i hfd;rw[List.findIdx?_eq_some_iff_getElem]at hfd;obtain⟨hi,hzi,_⟩:=hfd;rw[gJ hi]at h;simp only at h;obtain rfl:=gP h;have hcm:=gL hi;have hck:=hk.ck _ hcm;have hmv:∀d∈s.cs,o8 (s.fH i {s.cs[i]with ns:=RF s.cs[i].ns n}) d:=fun d hd=>(hk.ck d hd).move rfl fun x hx=>⟨((hk.ck d hd).sk x hx).live,((hk.ck d hd).sk x hx).chain⟩
  have hne:=hall _ hcm;refine⟨⟨hk.wl,hk.hk,by show(s.cs.set i _).length<=20;rw[List.length_set];exact hk.cl,fun d hd=> ?_,zL hk.zd (fun j hj hji=> ?_) (fun j hj hij=> ?_),zL hk.nd (fun j hj hji m hm hm2=> ?_) (fun j hj hij m hm=> ?_),zL hk.pd (fun j hj hji=> ?_) (fun j hj hij=> ?_)⟩,rfl,rfl⟩
  ·rcases List.mem_or_eq_of_mem_set hd with h1 | rfl
   ·exact hmv d h1
   ·refine⟨hck.z,hck.o,hck.r,fun e=> ?_,fun m hm=> ?_,RG hck.nr hne,hck.ac,hck.sr,fun x hx=>⟨(hck.sk x hx).live,(hck.sk x hx).chain⟩,hck.aw,hck.ad⟩
    ·have h2:=(xZ (l:=s.cs[i].ns) (n:=n) (y:=n)).2 (.inl rfl);rw[show RF s.cs[i].ns n=[]from e]at h2;simp at h2
    ·rcases xZ.1 hm with rfl | hm
     ·exact hnm
     ·exact hck.nm m hm
  ·exact List.pairwise_iff_getElem.1 hk.zd j i hj hi hji
  ·exact List.pairwise_iff_getElem.1 hk.zd i j hi hj hij
  ·rcases xZ.1 hm2 with rfl | hm2
   ·exact hall _ (gL hj) hm
   ·exact List.pairwise_iff_getElem.1 hk.nd j i hj hi hji m hm hm2
  ·rcases xZ.1 hm with rfl | hm
   ·exact hall _ (gL hj)
   ·exact List.pairwise_iff_getElem.1 hk.nd i j hi hj hij m hm
  ·exact List.pairwise_iff_getElem.1 hk.pd j i hj hi hji
  ·exact List.pairwise_iff_getElem.1 hk.pd i j hi hj hij
 ·rename_i hfd;split at h
  ·cases h
  ·rename_i hl;obtain rfl:=gP h;rw[List.findIdx?_eq_none_iff]at hfd;have hcl:=hk.cl;refine⟨⟨hk.wl,hk.hk,by simp;omega,fun d hd=> ?_,?_,?_,?_⟩,rfl,rfl⟩
   ·rcases List.mem_append.1 hd with h1 | h1
    ·exact(hk.ck d h1).move rfl fun x hx=>⟨((hk.ck d h1).sk x hx).live,((hk.ck d h1).sk x hx).chain⟩
    ·obtain rfl:=List.mem_singleton.1 h1;refine⟨hz,rfl,rfl,by simp,fun m hm=> ?_,by simp,by simp,List.Pairwise.nil,fun x hx=>by simp at hx,fun a ha=> .inl (List.eq_of_mem_replicate ha),?_⟩
     ·obtain rfl:=List.mem_singleton.1 hm;exact hnm
     ·rw[gN];intro j k hj hk' _ _;simp
   ·show(s.cs++[_]).Pairwise _;rw[List.pairwise_append];refine⟨hk.zd,by simp,fun a ha b hb=> ?_⟩;obtain rfl:=List.mem_singleton.1 hb;have:=hfd a ha;simpa using this
   ·show(s.cs++[_]).Pairwise _;rw[List.pairwise_append];refine⟨hk.nd,by simp,fun a ha b hb m hm hm2=> ?_⟩;obtain rfl:=List.mem_singleton.1 hb;obtain rfl:=List.mem_singleton.1 hm2;exact hall a ha hm
   ·show(s.cs++[_]).Pairwise _;rw[List.pairwise_append];refine⟨hk.pd,by simp,fun a ha b hb x hx y hy=> ?_⟩;obtain rfl:=List.mem_singleton.1 hb;simp at hy
def kN (k:Nat):List UInt8:=match k with
 | 1=>[107,49]
 | 2=>[107,50]
 | 4=>[107,52]
 | 8=>[107,56]
 | 16=>[107,49,54]
 | _=>[107,51,50]
def aCz (aC k:Nat):Ca:=⟨[kN k],k,fB k,dS k,[],List.replicate aC (-1)⟩
def dB (h:Hp)(j:Nat):Sy:=⟨List.replicate 4096 0,h,([1,2,4,8,16,32].take j).map (aCz h.aC)⟩
theorem JK {h:Hp}(hk:dZ h):bK (dB h 0):=by
 have e:(dB h 0).cs=[]:=rfl;refine⟨List.length_replicate,hk,?_,fun c hc=> ?_,?_,?_,?_⟩
 ·rw[e];exact Nat.zero_le _
 ·rw[e]at hc;cases hc
 ·rw[e];exact List.Pairwise.nil
 ·rw[e];exact List.Pairwise.nil
 ·rw[e];exact List.Pairwise.nil
theorem wU (h:Hp){j:Nat}(hj:j<6):(dB h j).named (kN ([1,2,4,8,16,32].getD j 0))=none/\(dB h j).create (kN ([1,2,4,8,16,32].getD j 0)) ([1,2,4,8,16,32].getD j 0)=some (dB h (j+1))/\nameB (kN ([1,2,4,8,16,32].getD j 0))=true:=by
 obtain rfl | rfl | rfl | rfl | rfl | rfl:j=0∨j=1∨j=2∨j=3∨j=4∨j=5:=by omega
 all_goals exact⟨rfl,rfl,by decide⟩
end
section
open Go.RowKit
def encI (t:Int):List Value:=[vI t]
theorem uU (t:Int):(encI t).length=1:=rfl
theorem Oi {w:World}{g o:Nat}{r:Int}(hc:∀i v,(encI r)[i]? =some v->w.cell? ⟨g,o+i,none⟩=some v):w.cell? ⟨g,o,none⟩=some (.int .i64 r):=hc 0 _ rfl
theorem mW (l:List Int):flat encI l=l.map vI:=by
 induction l with
 | nil=>rfl
 | cons x l ih=>rw[dM,ih];rfl
theorem Oj (a:Option Addr)(n cap:Nat)(l:List Int)(g:Nat)(lb:Array Value)(p:Int->Bool)(w:World)(hn:l.length=n)(hl:n<=9223372036854775807)(hr:Row w a (flat encI l))(eg:∀args w,(callFunc g args).run Tryz.prog w= .ok (.enter g args) w)
 (hp:∀W,Below w.heap.size w W->∀x∈l,Calls Tryz.prog g (#[.int .i64 x]++lb) W fun e w'=>e= .returned (.bool (p x))/\Below W.heap.size W w'):
 Calls Tryz.prog 156 #[.slice a n cap,.func (.func g) #[] lb] w fun e w'=>e= .returned (.int .i64 (dH p l))/\Below w.heap.size w w':=by
 subst hn;go_enter Tryz.func156,Tryz.ntmps156
 go_wp2
 go_loopw [5,8] (fun _ s8 wr=>∃k:Nat,k<=l.length/\s8= .int .i64 k/\Hid (∀x∈l.take k,p x=false)/\Below w.heap.size w wr) (fun _ s8 _=>l.length-(intOf s8).toNat)
 case atStart=>exact⟨0,Nat.zero_le _,rfl,by simp[Hid],Below.refl _ _⟩
 case round=>
  obtain⟨k,hk,rfl,hnot,hbw⟩:=hrel;by_cases hlt:k<l.length
  ·obtain⟨b,off,rfl,hb,hc⟩:=aN uU (by decide) (hr.below hbw) hlt;obtain hc0:=Oi hc;rw[Nat.mul_one]at hc0;have hcall:=hp wr hbw l[k] (gL hlt);clear hr hp hc;cases hv:p l[k]with
   | true=>
    have HH:=gO (mQ hlt hv hnot.out);rw[hv]at hcall;generalize l[k]=y at*;go_wp2_with (go_at_fn g;refine hcall.mono ?_;rintro e w' ⟨rfl,hb'⟩)
    go_ret
    exact⟨dP HH.out.symm,Below.step hbw hb'⟩
   | false=>
    rw[hv]at hcall;have HH:Hid (∀x∈l.take (k+1),p x=false):=fun x hx=>by
     rw[List.take_succ_eq_append_getElem hlt,List.mem_append,List.mem_singleton]at hx;rcases hx with hx | rfl
     ·exact hnot.out x hx
     ·exact hv
    generalize l[k]=y at*;go_wp2_with (go_at_fn g;refine hcall.mono ?_;rintro e w' ⟨rfl,hb'⟩)
    go_roundw
    case rel=>exact⟨k+1,by omega,by go_num,HH.out,Below.step hbw hb'⟩
    case measure=>simp[intOf];omega
  ·obtain rfl:k=l.length:=by omega
   go_wp2
   go_ret
   exact⟨dP (kX (by simpa[Hid]using hnot)).symm,hbw⟩
theorem Et (a:Option Addr)(n cap:Nat)(l:List Int)(g:Nat)(lb:Array Value)(p:Int->Bool)(w:World)(hn:l.length=n)(hl:n<=9223372036854775807)(hr:Row w a (flat encI l))(eg:∀args w,(callFunc g args).run Tryz.prog w= .ok (.enter g args) w)
 (hp:∀W,Below w.heap.size w W->∀x∈l,Calls Tryz.prog g (#[.int .i64 x]++lb) W fun e w'=>e= .returned (.bool (p x))/\Below W.heap.size W w'):
 Calls Tryz.prog 110 #[.slice a n cap,.func (.func g) #[] lb] w fun e w'=>e= .returned (.bool (l.any p))/\Below w.heap.size w w':=by
 go_enter Tryz.func110,Tryz.ntmps110
 go_wp2_with (go_at_call 156;refine(Oj _ _ _ l _ _ p _ hn hl hr eg hp).mono ?_;rintro e w' ⟨rfl,hb'⟩)
 go_ret
 exact⟨aV (iE p l),hb'⟩
set_option maxRecDepth 100000 in
theorem Qp (y:Cc)(p:Int)(w:World)(hy:Ht w y)(hn:y.n2<=1000000)(hs:∀x∈y.c.sl,x.p<=1000000)(hp: -1000000<=p/\p<=1000000):
 Calls Tryz.prog 131 #[.agg #[.slice y.a1 y.n1 y.c1,.int .i64 y.c.z,.int .i64 y.c.r,.int .i64 y.c.o,.slice y.a2 y.n2 y.c2,.slice y.a3 y.n3 y.c3],.int .i64 p] w fun ev w'=>ev= .returned (.int .i64 (dH (fun x=>decide ((x.p:Int)=p)) y.c.sl))/\Below w.heap.size w w':=by
 have eg:∀args w,(callFunc 166 args).run Tryz.prog w= .ok (.enter 166 args) w:=enters_of Tryz.func166 (by kernel_rfl) rfl;have hb1:=aF w (.cells #[.slice y.a1 y.n1 y.c1,.int .i64 (y.c.z:Int),.int .i64 (y.c.r:Int),.int .i64 (y.c.o:Int),.slice y.a2 y.n2 y.c2,.slice y.a3 y.n3 y.c3] 94);obtain⟨K1,K2,F1,F2,hsz,hbw⟩:=boxes2 w #[.slice y.a1 y.n1 y.c1,.int .i64 (y.c.z:Int),.int .i64 (y.c.r:Int),.int .i64 (y.c.o:Int),.slice y.a2 y.n2 y.c2,.slice y.a3 y.n3 y.c3] 94 #[.int .i64 p] 3;have k4:=K1 4;have p0:=K2 0;simp only[gB,gC,gD]at k4 p0;have HC:=gO (uT y.a2 y.n2 y.c2 y.c.sl 166 #[.pointer (some ⟨w.heap.size+1,0,none⟩)] (fun x=>decide ((x.p:Int)=p)) _ hy.l2 (by omega) (hy.r2.below hbw) eg (fun W hW x hx=>Ve x p (w.heap.size+1) W (hs x hx) hp (gI hsz hW.size) ((hW.cell (p:=⟨w.heap.size+1,0,none⟩) hsz).trans p0)));have HB:=gO hbw;clear eg hb1 K1 K2 F1 F2 hbw hy hs;go_enter Tryz.func131,Tryz.ntmps131
 go_wp2_with (go_at_call 125;refine HC.out.mono ?_;rintro e w' ⟨rfl,hb'⟩)
 go_ret
 exact⟨rfl,Below.step HB.out hb'⟩
set_option maxRecDepth 100000 in
set_option maxHeartbeats 4000000 in
theorem RQ (y:Cc)(x:Sl)(a:Int)(B C:Nat)(W:World)(hz:1<=y.c.z)(hrz:y.c.r*y.c.z<=100000)(hp:x.p<=1000)(ha1: -1000000000000<=a)(ha2:a<=1000000000000)
 (hB:B<W.heap.size) (hC:C<W.heap.size) (kB:∀o,W.cell? ⟨B,o,none⟩=(#[.slice y.a1 y.n1 y.c1,.int .i64 (y.c.z:Int),.int .i64 (y.c.r:Int),.int .i64 (y.c.o:Int),.slice y.a2 y.n2 y.c2,.slice y.a3 y.n3 y.c3]:Array Value)[o]?) (kC:∀o,W.cell? ⟨C,o,none⟩=(#[.int .i64 (x.p:Int),.int .i64 (x.n:Int),.int .i64 x.h]:Array Value)[o]?):
 Calls Tryz.prog 141 (#[.int .i64 a]++#[.pointer (some ⟨B,0,none⟩),.pointer (some ⟨C,0,none⟩)]) W fun ev w'=>ev= .returned (.bool (!fU y.c x.p a))/\Below W.heap.size W w':=by
 show Calls Tryz.prog 141 #[.int .i64 a,.pointer (some ⟨B,0,none⟩),.pointer (some ⟨C,0,none⟩)] W _;have b0:=kB 0;have b1:=kB 1;have b2:=kB 2;have b3:=kB 3;have b4:=kB 4;have b5:=kB 5;have c0:=kC 0;simp only[gB,gC,gD]at b0 b1 b2 b3 b4 b5 c0;have HC:=gO (wS y.c y.a1 y.a2 y.a3 y.n1 y.c1 y.n2 y.c2 y.n3 y.c3 x.p a W hz hrz hp ha1 ha2);clear kB kC;go_enter Tryz.func141,Tryz.ntmps141
 go_wp2_with (go_at_call 90;refine HC.out.mono ?_;rintro e w' ⟨rfl,hb'⟩)
 go_ret
 exact⟨rfl,hb'⟩
end
section
open Go.RowKit
structure Sc where
 a1:Option Addr
 n1:Nat
 c1:Nat
 hc:Hc
 a2:Option Addr
 c2:Nat
 ys:List Cc
structure nV (w:World)(v:Sc)(s:Sy):Prop where
 lw:s.w.length=v.n1
 rw:Row w v.a1 (s.w.map vI)
 hh:HAt w v.hc.az v.hc.am v.hc.al v.hc.av v.hc.lc.length s.h.live.length v.hc.y0 v.hc.y1 v.hc.lc s.h
 rc:Row w v.a2 (flat dX v.ys)
 cy:v.ys.map (·.c)=s.cs
 ca:∀y∈v.ys,Ht w y
 kw:v.n1<=v.c1
 kc:v.ys.length<=v.c2
theorem nV.below {w w':World}{v:Sc}{s:Sy}(h:nV w v s)(hb:Below w.heap.size w w'):nV w' v s:=⟨h.lw,h.rw.below hb,h.hh.below hb,h.rc.below hb,h.cy,fun y hy=>(h.ca y hy).below hb,h.kw,h.kc⟩
def Sc.vals (v:Sc)(s:Sy):Array Value:=#[.slice v.a1 v.n1 v.c1,.slice v.hc.az 2 v.hc.cz,.slice v.hc.am 2 v.hc.cm,.int .i64 (s.h.aC:Int),.slice v.hc.al v.hc.lc.length v.hc.cl,.slice v.hc.av s.h.live.length v.hc.cv,.slice v.a2 v.ys.length v.c2]
set_option maxHeartbeats 8000000 in
set_option maxRecDepth 100000 in
theorem yJ (a1 az am al av a2:Option Addr)(n1 c1 cz cm nl cl nv cv n2 c2:Nat)(aC:Int)(xs:List Int)(y:Cc)(x:Sl)(l:List Int)(w:World)(hn:xs.length=n1)(hn4:n1<=4096)(hr:Row w a1 (xs.map vI))
 (hz:1<=y.c.z) (hrz:y.c.r*y.c.z<=100000) (hp:x.p<=1000) (hf:follow xs x.h y.c.r=some l) (hl:l.length=x.n) (ho:∀a∈l,fU y.c x.p a=true) (hlb:∀a∈l,0<=a/\a<=1000000) (hxn:x.n<=1000000):
 Calls Tryz.prog 91 #[.agg #[.slice a1 n1 c1,.slice az 2 cz,.slice am 2 cm,.int .i64 aC,.slice al nl cl,.slice av nv cv,.slice a2 n2 c2],.agg #[.slice y.a1 y.n1 y.c1,.int .i64 y.c.z,.int .i64 y.c.r,.int .i64 y.c.o,.slice y.a2 y.n2 y.c2,.slice y.a3 y.n3 y.c3],.agg #[.int .i64 x.p,.int .i64 x.n,.int .i64 x.h]] w fun ev w'=>∃(a':Option Addr) (c':Nat),ev= .returned (.tuple #[.slice a' l.length c',.bool true])/\Row w' a' (l.map vI)/\Below w.heap.size w w':=by
 obtain⟨K0,K1,K2,F0,F1,F2,hsz,hbw⟩:=boxes3 w #[.slice a1 n1 c1,.slice az 2 cz,.slice am 2 cm,.int .i64 aC,.slice al nl cl,.slice av nv cv,.slice a2 n2 c2] 47 #[.slice y.a1 y.n1 y.c1,.int .i64 (y.c.z:Int),.int .i64 (y.c.r:Int),.int .i64 (y.c.o:Int),.slice y.a2 y.n2 y.c2,.slice y.a3 y.n3 y.c3] 94 #[.int .i64 (x.p:Int),.int .i64 (x.n:Int),.int .i64 x.h] 137;have eg:∀args w,(callFunc 141 args).run Tryz.prog w= .ok (.enter 141 args) w:=enters_of Tryz.func141 (by kernel_rfl) rfl;have k0:=K0 0;have k1:=K1 2;have k2:=K2 1;have k3:=K2 2;simp only[gB,gC,gD]at k0 k1 k2 k3;have HR:=gO (hr.below hbw);have HB:=gO hbw;have HEG:=gO eg;have HK1:=gO K1;have HK2:=gO K2;have HO:=gO ho;have HLB:=gO hlb;clear hr hbw eg K0 K1 K2 F0 F1 F2 ho hlb;go_enter Tryz.func91,Tryz.ntmps91
 go_wp2_with fail
 generalize ((w.alloc _).alloc _).alloc _=w3 at*;refine(Ju a1 n1 c1 xs x.h y.c.r w3 hn (by omega) HR.out l hf).mono ?_;rintro ev w4 ⟨a',c',rfl,hown,hb4⟩;have HRL:=gO (aY hown);have K14:=aB HK1.out (by omega) hb4;have K24:=aB HK2.out hsz hb4;have oV:=gI hsz hb4.size;have n4:=K24 1;simp only[gB,gC,gD]at n4;have HB4:=gO (Below.step HB.out hb4);have hcont:=Et a' l.length c' l 141 #[.pointer (some ⟨w.heap.size+1,0,none⟩),.pointer (some ⟨w.heap.size+1+1,0,none⟩)] (fun a=> !fU y.c x.p a) w4 rfl (by omega) (by rw[mW];exact HRL.out) HEG.out (fun W hW a ha=>RQ y x a (w.heap.size+1) (w.heap.size+1+1) W hz hrz hp (by have:=HLB.out a ha;omega) (by have:=HLB.out a ha;omega) (by have:=hW.size;omega) (gI oV hW.size) (aB K14 (by omega) hW) (aB K24 oV hW));have hany:(l.any fun a=> !fU y.c x.p a)=false:=by
  rw[List.any_eq_false];intro a ha;rw[HO.out a ha];decide
 rw[hany]at hcont;have HC:=gO hcont;have hln:((l.length:Int) == (x.n:Int))=true:=by rw[beq_iff_eq,hl]
 have aJS:((l.length:Int) != (x.n:Int))=false:=by rw[hl];simp
 have HL:=gO hl;have aJT:l.length<=1000000:=by omega
 clear hcont hany K14 K24 hown k0 k1 k2 k3 hb4 hl;go_wp2_with (go_at_call 110;refine HC.out.mono ?_;rintro ev w5 ⟨rfl,hb5⟩)
 have HB5:=gO (Below.step HB4.out hb5);have HRL5:=gO (HRL.out.below hb5)
 go_ret2
 exact⟨a',c',rfl,HRL5.out,HB5.out⟩
end
section
open Go.RowKit
def tY (v:Sc)(s:Sy):Rs:=⟨3,1,.slice v.a1 v.n1 v.c1,v.n1,s.w.map vI⟩
def l9 (v:Sc):Rs:=⟨94,6,.slice v.a2 v.ys.length v.c2,v.ys.length,flat dX v.ys⟩
def qZ (y:Cc):Rs:=⟨9,1,.slice y.a1 y.n1 y.c1,y.n1,flat encS y.c.ns⟩
def mX (y:Cc):Rs:=⟨137,3,.slice y.a2 y.n2 y.c2,y.n2,flat aX y.c.sl⟩
def rC (y:Cc):Rs:=⟨3,1,.slice y.a3 y.n3 y.c3,y.n3,y.c.ac.map vI⟩
def fP (y:Cc):List Rs:=[qZ y,mX y,rC y]
def Sc.rows (v:Sc)(s:Sy):List Rs:=tY v s::l9 v::v.ys.flatMap fP
def Sc.front (v:Sc)(s:Sy)(y:Cc)(ys:List Cc):List Rs:=tY v s::l9 v::qZ y::mX y::rC y::ys.flatMap fP
theorem Ba {α:Type}:∀{l:List α} {i:Nat} (hi:i<l.length),l.Perm (l[i]::l.eraseIdx i)
 | a::l,0,_=>List.Perm.refl _
 | a::l,i+1,hi=>by
  simp only[List.getElem_cons_succ,List.eraseIdx_cons_succ];exact((Ba (l:=l) (i:=i) (by simpa using hi)).cons a).trans (.swap _ _ _)
theorem zQ (v:Sc)(s:Sy){i:Nat}(hi:i<v.ys.length):(v.rows s).Perm (v.front s v.ys[i] (v.ys.eraseIdx i)):=
 ((List.Perm.flatMap_right fP (Ba hi)).cons _).cons _
structure SR (W:World)(G:Nat)(X:Nat->Prop)(s:Sy)(v:Sc):Prop where
 own:dJ W 0 (v.rows s)
 og:∀r∈v.rows s,∀g,r.v.ownBlock=some g->g≠G/\¬X g
 hr:HR W G X s.h v.hc
 hd:∀r∈v.rows s,∀q∈v.hc.rows s.h++v.hc.reads s.h,r.off q
 cy:v.ys.map (·.c)=s.cs
structure SS (W:World)(G:Nat)(X:Nat->Prop)(s:Sy)(v:Sc):Prop where
 r:SR W G X s v
 k:∀o,W.cell? ⟨G,o,none⟩=(v.vals s)[o]?
 fz:∀o,W.frozen? ⟨G,o,none⟩=false
def fQ (W:World)(B:Nat)(s:Sy)(v:Sc):Prop:=SR W B (fun k=>k<B) s v
theorem yL {w w':World}{base:Nat}{e:TypeId}{size:Nat}{v:Value}{n:Nat}{xs:List Value}(h:w.ownsRow base e size v n xs)(hb:∀k,v.ownBlock=some k->k<w.heap.size->w'.heap[k]? =w.heap[k]?):w'.ownsRow base e size v n xs:=by
 refine⟨h.1,?_⟩;rcases h.2 with h' | ⟨g,cap,cur,h1,h2,hgg,rest⟩
 ·exact .inl h'
 ·refine .inr ⟨g,cap,cur,h1,h2,?_,rest⟩;rw[hb g (by rw[h1];rfl) (Array.getElem?_eq_some_iff.1 hgg).1];exact hgg
section
variable {W W':World}{G:Nat}{X Y:Nat->Prop}{h:Hp}{c:Hc}
theorem HR.kept (hs:HR W G X h c)(sf:Safe Y W W')(hy:∀q∈c.rows h++c.reads h,∀k,q.v.ownBlock=some k->Y k):HR W' G X h c:=
 ⟨⟨fun r hr=>yL (hs.own.each r hr) fun k hk hlt=>sf.block k hlt (hy r (List.mem_append_left _ hr) k hk),hs.own.FP⟩,
  fun r hr=>yL (hs.ro r hr) fun k hk hlt=>sf.block k hlt (hy r (List.mem_append_right _ hr) k hk),hs.ds,hs.og,hs.rg,hs.rx,gI hs.gs sf.size,hs.xg,fun k hk=>gI (hs.xs k hk) sf.size,hs.e0,hs.e1,hs.ll⟩
theorem HR.lift {B:Nat}(hs:HR W B (fun k=>k<B) h c)(hG:G<B)(hX:∀k,X k->k<B)(hxg:¬X G):HR W G X h c:=
 ⟨hs.own,hs.ro,hs.ds,fun r hr g hg=>by have:=(hs.og r hr g hg).2;exact⟨by omega,fun e=>this (hX g e)⟩,fun r hr e=>hs.rx r hr G e hG,fun r hr g hg e=>hs.rx r hr g hg (hX g e),Nat.lt_trans hG hs.gs,hxg,fun k hk=>Nat.lt_trans (hX k hk) hs.gs,hs.e0,hs.e1,hs.ll⟩
theorem HR.any {G':Nat}{X':Nat->Prop}(hs:HR W G' X' h c)(hG:G<W.heap.size)(hq:∀q∈c.rows h++c.reads h,∀k,q.v.ownBlock=some k->k≠G/\¬X k)(hX:∀k,X k->k<W.heap.size)(hxg:¬X G):HR W G X h c:=
 ⟨hs.own,hs.ro,hs.ds,fun r hr g hg=>hq r (List.mem_append_left _ hr) g hg,fun r hr e=>(hq r (List.mem_append_right _ hr) G e).1 rfl,fun r hr g hg=>(hq r (List.mem_append_right _ hr) g hg).2,hG,hxg,hX,hs.e0,hs.e1,hs.ll⟩
theorem HR.lt (hs:HR W G X h c):∀q∈c.rows h++c.reads h,∀k,q.v.ownBlock=some k->k<W.heap.size:=fun q hq k hk=>by
 rcases List.mem_append.1 hq with hq | hq
 ·exact((hs.own.each q hq).lt k hk).2
 ·exact((hs.ro q hq).lt k hk).2
theorem HR.gne (hs:HR W G X h c):∀q∈c.rows h++c.reads h,q.v.ownBlock≠some G:=fun q hq e=>by
 rcases List.mem_append.1 hq with hq | hq
 ·exact(hs.og q hq G e).1 rfl
 ·exact hs.rg q hq e
end
section
variable {W W' W1:World}{G:Nat}{X Y:Nat->Prop}{s s':Sy}{v v':Sc}
theorem SR.lt (hs:SR W G X s v):∀r∈v.rows s,∀g,r.v.ownBlock=some g->g<W.heap.size:=fun r hr g hg=>(hs.own.lt r hr g hg).2
theorem SR.below (hs:SR W G X s v)(hb:Below W.heap.size W W'):SR W' G X s v:=
 ⟨hs.own.below hb,hs.og,hs.hr.below hb,hs.hd,hs.cy⟩
theorem SS.below (hs:SS W G X s v)(hb:Below W.heap.size W W'):SS W' G X s v:=
 ⟨hs.r.below hb,aB hs.k hs.r.hr.gs hb,aH hs.fz hs.r.hr.gs hb⟩
def Sc.blk (v:Sc)(s:Sy)(G k:Nat):Prop:=k=G∨∃r∈v.rows s,r.v.ownBlock=some k
theorem SR.Vs (hs:SR W G X s v){k:Nat}(hk:X k):¬v.blk s G k:=by
 rintro(rfl | ⟨r,hr,e⟩)
 ·exact hs.hr.xg hk
 ·exact(hs.og r hr k e).2 hk
def Sc.fr (v:Sc)(s:Sy)(G:Nat)(X:Nat->Prop)(g:Nat):Prop:=g≠G/\¬X g/\∀q∈v.hc.rows s.h++v.hc.reads s.h,q.v.ownBlock≠some g
theorem SR.fresh (hs:SR W G X s v){g:Nat}(hg:W.heap.size<=g):v.fr s G X g:=
 ⟨fun e=>by have:=hs.hr.gs;omega,fun e=>by have:=hs.hr.xs g e;omega,fun q hq e=>by have:=hs.hr.lt q hq g e;omega⟩
theorem SR.step (hs:SR W G X s v)(sf:Safe (fun k=>¬v.blk s G k) W W')(hh:s'.h=s.h)(hc:v'.hc=v.hc)(own:dJ W' 0 (v'.rows s'))(hb:∀r∈v'.rows s',∀g,r.v.ownBlock=some g->(∃q∈v.rows s,q.v.ownBlock=some g)∨v.fr s G X g)(cy:v'.ys.map (·.c)=s'.cs):SR W' G X s' v':=by
 refine⟨own,fun r hr g hg=> ?_,?_,fun r hr q hq g h1 h2=> ?_,cy⟩
 ·rcases hb r hr g hg with ⟨q,hq,e⟩ | h
  ·exact hs.og q hq g e
  ·exact⟨h.1,h.2.1⟩
 ·rw[hh,hc];refine hs.hr.kept sf fun q hq k hk=> ?_
  rintro(rfl | ⟨r,hr,e⟩)
  ·exact hs.hr.gne q hq hk
  ·exact hs.hd r hr q hq k e hk
 ·rw[hh,hc]at hq;rcases hb r hr g h1 with ⟨q',hq',e⟩ | h
  ·exact hs.hd q' hq' q hq g e h2
  ·exact h.2.2 q hq h2
theorem SR.heap (hs:SR W G X s v)(hb:Below W.heap.size W W1){h:Hp}{c:Hc}(hn:kU W1 W.heap.size h c):SR W1 G X {s with h:=h} {v with hc:=c}:=by
 have hrow:({v with hc:=c}:Sc).rows {s with h:=h}=v.rows s:=rfl;refine⟨hrow▸hs.own.below hb,fun r hr=>hs.og r (hrow▸hr),HR.lift hn hs.hr.gs hs.hr.xs hs.hr.xg,fun r hr q hq g h1 h2=> ?_,hs.cy⟩;have h3:=hs.lt r (hrow▸hr) g h1;rcases List.mem_append.1 hq with hq | hq
 ·exact(hn.og q hq g h2).2 h3
 ·exact hn.rx q hq g h2 h3
theorem SR.words (hs:SR W G X s v)(hb:Below W.heap.size W W1){xs:List Int}{a:Option Addr}{n c:Nat}(ho:W1.ownsRow W.heap.size 3 1 (.slice a n c) n (xs.map vI)):SR W1 G X {s with w:=xs} {v with a1:=a,n1:=n,c1:=c}:=by
 have h1:=hs.own.below hb;have h2:dJ W1 0 ((⟨3,1,.slice a n c,n,xs.map vI⟩:Rs)::l9 v::v.ys.flatMap fP):=
  dJ.cons (h1.sub (List.sublist_cons_self _ _)) (r':=⟨3,1,.slice a n c,n,xs.map vI⟩) ho (Nat.zero_le _) fun r hr g hg=>hs.lt r (List.mem_cons_of_mem _ hr) g hg
 refine hs.step (Safe.iM hb) rfl rfl h2 (fun r hr g hg=> ?_) hs.cy;rcases List.mem_cons.1 hr with rfl | hr
 ·exact .inr (hs.fresh (ho.lt g hg).1)
 ·exact .inl ⟨r,List.mem_cons_of_mem _ hr,hg⟩
theorem SR.more (hs:SR W G X s v)(hy:∀k,Y k->k<W.heap.size/\¬v.blk s G k/\∀q∈v.hc.rows s.h++v.hc.reads s.h,q.v.ownBlock≠some k):SR W G Y s v:=
 ⟨hs.own,fun r hr g hg=>⟨(hs.og r hr g hg).1,fun e=>(hy g e).2.1 (.inr ⟨r,hr,hg⟩)⟩,hs.hr.more fun k hk=>⟨(hy k hk).1,fun e=>(hy k hk).2.1 (.inl e),fun r hr=>(hy k hk).2.2 r (List.mem_append_left _ hr),fun r hr=>(hy k hk).2.2 r (List.mem_append_right _ hr)⟩,hs.hd,hs.cy⟩
theorem SS.more (hs:SS W G X s v)(hy:∀k,Y k->k<W.heap.size/\¬v.blk s G k/\∀q∈v.hc.rows s.h++v.hc.reads s.h,q.v.ownBlock≠some k):SS W G Y s v:=⟨hs.r.more hy,hs.k,hs.fz⟩
theorem SS.new (hs:SS W G X s v)(hb:Below W.heap.size W W'):SS W' G (fun k=>X k∨(W.heap.size<=k/\k<W'.heap.size)) s v:=
 (hs.below hb).more fun k hk=>by
  rcases hk with hk | ⟨h1,h2⟩
  ·refine⟨gI (hs.r.hr.xs k hk) hb.size,hs.r.Vs hk,fun q hq e=> ?_⟩;rcases List.mem_append.1 hq with hq | hq
   ·exact(hs.r.hr.og q hq k e).2 hk
   ·exact hs.r.hr.rx q hq k e hk
  ·refine⟨h2,?_,fun q hq e=> ?_⟩
   ·rintro(rfl | ⟨r,hr,e⟩)
    ·have:=hs.r.hr.gs;omega
    ·have:=hs.r.lt r hr k e;omega
   ·have:=hs.r.hr.lt q hq k e;omega
theorem SS.sub (hs:SS W G X s v)(hy:∀k,Y k->X k):SS W G Y s v:=
 ⟨⟨hs.r.own,fun r hr g hg=>⟨(hs.r.og r hr g hg).1,fun e=>(hs.r.og r hr g hg).2 (hy g e)⟩,hs.r.hr.sub hy,hs.r.hd,hs.r.cy⟩,hs.k,hs.fz⟩
theorem SR.lift {B:Nat}(hs:fQ W B s v)(hG:G<B)(hX:∀k,X k->k<B)(hxg:¬X G):SR W G X s v:=
 ⟨hs.own,fun r hr g hg=>by have:=(hs.og r hr g hg).2;exact⟨by omega,fun e=>this (hX g e)⟩,hs.hr.lift hG hX hxg,hs.hd,hs.cy⟩
theorem SR.far (hs:SR W G X s v){g:Nat}(hx:¬v.blk s G g)(hq:∀q∈v.hc.rows s.h++v.hc.reads s.h,q.v.ownBlock≠some g)(i:Nat)(u:Value):SR (W.setCell ⟨g,i,none⟩ u) G X s v:=
 ⟨hs.own.far (fun r hr e=>hx (.inr ⟨r,hr,e⟩)) i u,hs.og,hs.hr.kept (Y:=fun k=>k≠g) ((Safe.refl _ W).set (by simp) i u) (fun q h k hk e=>hq q h (e▸hk)),hs.hd,hs.cy⟩
theorem SS.dY (hs:SS W G X s v){g:Nat}(hx:X g)(i:Nat)(u:Value):SS (W.setCell ⟨g,i,none⟩ u) G X s v:=
 ⟨hs.r.far (hs.r.Vs hx) (fun q hq e=>by
  rcases List.mem_append.1 hq with hq | hq
  ·exact(hs.r.hr.og q hq g e).2 hx
  ·exact hs.r.hr.rx q hq g e hx) i u,aA hs.k (fun e=>hs.r.hr.xg (e▸hx)) i u,aG hs.fz _ _⟩
theorem SR.fO (hs:SR W G X s v)(i:Nat)(u:Value):SR (W.setCell ⟨G,i,none⟩ u) G X s v:=
 ⟨hs.own.far (fun r hr e=>(hs.og r hr G e).1 rfl) i u,hs.og,hs.hr.fO i u,hs.hd,hs.cy⟩
theorem SR.y (hs:SR W G X s v){y:Cc}(hy:y∈v.ys):(qZ y).on W 0/\(mX y).on W 0/\(rC y).on W 0:=by
 have h:∀r∈fP y,r.on W 0:=fun r hr=>hs.own.each r (by
  unfold Sc.rows;exact List.mem_cons_of_mem _ (List.mem_cons_of_mem _ (List.mem_flatMap.2 ⟨y,hy,hr⟩)))
 exact⟨h _ (by simp[fP]),h _ (by simp[fP]),h _ (by simp[fP])⟩
theorem SR.at (hs:SR W G X s v):nV W v s:=by
 have hw:(tY v s).on W 0:=hs.own.each _ (by simp[Sc.rows]);have hc:(l9 v).on W 0:=hs.own.each _ (by simp[Sc.rows]);refine⟨?_,aY hw,hs.hr.at,aY hc,hs.cy,fun y hy=> ?_,dQ hw,dQ hc⟩
 ·have:=hw.1;unfold tY at this;simpa using this
 ·obtain⟨h1,h2,h3⟩:=hs.y hy;refine⟨bC aZ (by decide) h1,bC aK (by decide) h2,?_,aY h1,aY h2,aY h3,dQ h1,dQ h2,dQ h3⟩;have:=h3.1;unfold rC at this;simpa using this
end
end
section
open Go.RowKit
theorem Dk (k:Nat)(w:World)(h1:1<=k)(h2:k<=64):
 Calls Tryz.prog 70 #[.int .i64 k] w fun e w'=>e= .returned (.tuple #[.int .i64 (dS k:Nat),.int .i64 (fB k:Nat),.int .i64 0])/\w=w':=by
 have e16:((16/k:Nat):Int)=16/(k:Int):=by simp
 have e32:((32/k:Nat):Int)=32/(k:Int):=by simp
 have e64:((64/k:Nat):Int)=64/(k:Int):=by simp
 by_cases h3:4<=16/k
 ·have hO:dS k=0:=by unfold dS;rw[if_pos h3]
  have hN:fB k=16/k:=by unfold fB;rw[hO]
  rw[hO,hN,e16];exact Ul k w (by omega) (by omega) (by omega)
 ·by_cases h4:4<=32/k
  ·have hO:dS k=1:=by unfold dS;rw[if_neg h3,if_pos h4]
   have hN:fB k=32/k:=by unfold fB;rw[hO]
   rw[hO,hN,e32];exact Um k w (by omega) (by omega) (by omega) (by omega)
  ·have hO:dS k=2:=by unfold dS;rw[if_neg h3,if_neg h4]
   have hN:fB k=64/k:=by unfold fB;rw[hO]
   rw[hO,hN,e64];exact Un k w (by omega) (by omega) (by omega) (by omega)
theorem FW (b:Bk)(p:Nat)(w:World)(ha:b.a<=1000)(hp:p<=1000):
 Calls Tryz.prog 130 #[.agg #[.int .i64 b.a,.int .i64 b.o,.int .i64 b.t],.int .i64 p] w fun e w'=>e= .returned (.int .i64 ((b.a:Int)-p))/\Below w.heap.size w w':=by
 go_enter Tryz.func130,Tryz.ntmps130
 go_wp2
 go_ret
 exact⟨rfl,aF _ _⟩
set_option maxRecDepth 100000 in
theorem Iq (a:Option Addr)(n cap:Nat)(l:List Bk)(p:Nat)(w:World)(hn:l.length=n)(hl:n<=1000)(hr:Row w a (flat aO l))(hrise:rU l)(ha:∀b∈l,b.a<=1000)(hp:p<=1000):
 Calls Tryz.prog 114 #[.slice a n cap,.int .i64 p,.func (.func 130) #[] #[]] w fun e w'=>e= .returned (.tuple #[.int .i64 (lb l p:Int),.bool (hasB l p)])/\Below w.heap.size w w':=by
 subst hn;have hle:=lD l p;have eg:∀args w,(callFunc 130 args).run Tryz.prog w= .ok (.enter 130 args) w:=enters_of Tryz.func130 (by kernel_rfl) rfl;go_enter Tryz.func114,Tryz.ntmps114
 go_wp2
 go_loopw [9,10,11] (fun s9 s10 _ wr=>∃i j:Nat,i<=lb l p/\lb l p<=j/\j<=l.length/\s9= .int .i64 i/\s10= .int .i64 j/\Below w.heap.size w wr) (fun s9 s10 _ _=>(intOf s10).toNat-(intOf s9).toNat)
 case atStart=>exact⟨0,l.length,Nat.zero_le _,hle,Nat.le_refl _,rfl,rfl,Below.refl _ _⟩
 case round=>
  obtain⟨i,j,h1,h2,h3,rfl,rfl,hb3⟩:=hrel;by_cases hlt:i<j
  ·have Jj:(i+j)/2<l.length:=by omega
   have hiff:=gO (GZ hrise (a:=p) Jj);obtain⟨b,off,rfl,hb,hc⟩:=aN aJ (by decide) (hr.below hb3) Jj;obtain⟨hc0,hc1,hc2⟩:=bD hc;have hal:=ha _ (gL Jj);clear hr hc;generalize l[(i+j)/2]=y at*;go_wp2_with fail
   refine(FW y p _ hal hp).mono ?_;rintro e w1 ⟨rfl,hb1⟩;have hb4:=Below.step hb3 hb1;clear hc0 hc1 hc2;by_cases hlt2:y.a<p
   ·have h4:=hiff.out.2 hlt2;have h5:(y.a:Int)-p<0:=by omega
    go_wp2
    go_roundw
    case rel=>exact⟨(i+j)/2+1,j,by omega,h2,h3,by go_num,rfl,hb4⟩
    case measure=>simp[intOf];omega
   ·have h4:¬(i+j)/2<lb l p:=fun h=>hlt2 (hiff.out.1 h)
    have h5:¬(y.a:Int)-p<0:=by omega
    go_wp2
    go_roundw
    case rel=>exact⟨i,(i+j)/2,h1,by omega,by omega,rfl,by go_num,hb4⟩
    case measure=>simp[intOf];omega
  ·obtain rfl:i=lb l p:=by omega
   have hkk:(lb l p:Int)<=l.length:=by omega
   by_cases hk:lb l p<l.length
   ·obtain⟨b,off,rfl,hb,hc⟩:=aN aJ (by decide) (hr.below hb3) hk;obtain⟨hc0,hc1,hc2⟩:=bD hc;have hal:=ha _ (gL hk);have hat:=gO (vS hrise (a:=p) hk);have hk2:(lb l p:Int)<l.length:=by omega
    clear hr hc;generalize l[lb l p]=y at*;generalize hK0:lb l p=K at*;have HK:=gO hK0;clear hK0;go_wp2_with fail
    refine(FW y p _ hal hp).mono ?_;rintro e w1 ⟨rfl,hb1⟩;have hb4:=Below.step hb3 hb1;clear hc0 hc1 hc2;by_cases hy:y.a=p
    ·have h5:((y.a:Int)-p == 0)=true:=by rw[beq_iff_eq];omega
     go_wp2
     go_ret2
     refine⟨?_,hb4⟩;rw[hat.out,HK.out,decide_eq_true hy];rfl
    ·have h5:((y.a:Int)-p == 0)=false:=by rw[beq_eq_false_iff_ne];omega
     go_wp2
     go_ret2
     refine⟨?_,hb4⟩;rw[hat.out,HK.out,decide_eq_false hy];rfl
   ·have hat:=gO (uM hrise (a:=p) (by omega));have hk2:¬(lb l p:Int)<l.length:=by omega
    clear hr;generalize hK0:lb l p=K at*;have HK:=gO hK0;clear hK0;go_wp2
    go_ret2
    refine⟨?_,hb3⟩;rw[hat.out,HK.out];rfl
end
section
open Go.RowKit
theorem WS {α:Type}{q:α->Bool}:∀{l:List α},(∀i j (hi:i<l.length) (hj:j<l.length),i<j->q l[j]=true->q l[i]=true)->∀k (hk:k<l.length),k<(l.takeWhile q).length↔q l[k]=true
 | [],_,k,hk=>by simp at hk
 | a::l,h,k,hk=>by
  by_cases ha:q a=true
  ·rw[List.takeWhile_cons_of_pos ha];cases k with
   | zero=>simpa using ha
   | succ k=>
    have ih:=WS (l:=l) (fun i j hi hj hij hq=>h (i+1) (j+1) (by simpa using hi) (by simpa using hj) (by omega) hq) k (by simpa using hk);simpa using ih
  ·rw[List.takeWhile_cons_of_neg ha];cases k with
   | zero=>simpa using ha
   | succ k=>
    simp only[List.length_nil,Nat.not_lt_zero,false_iff,List.getElem_cons_succ];intro hq;exact ha (h 0 (k+1) (by simp) hk (by omega) hq)
theorem YM {l:List (List UInt8)}{v:List UInt8}(hl:l.Pairwise fun a b=>Go.Op.bytesLess a b=true){k:Nat}(hk:k<l.length):k<AB l v↔Go.Op.bytesLess l[k] v=true:=
 WS (q:=fun x=>Go.Op.bytesLess x v) (fun i j hi hj hij hq=>CG (List.pairwise_iff_getElem.1 hl i j hi hj hij) hq) k hk
theorem WT (l:List (List UInt8))(v:List UInt8):AB l v<=l.length:=(List.takeWhile_sublist _).length_le
theorem TB {x y:List UInt8}(w:World){b:Bool}(h:Go.Op.bytesLess x y=b):(binOp .lss 9 (.string ⟨x.toArray⟩) (.string ⟨y.toArray⟩)).run Tryz.prog w= .ok (.bool b) w:=by
 simp[binOp,Go.Op.stringOp];exact h
theorem Gj (x:List UInt8)(w:World):(binOp .neq 9 (.string ⟨x.toArray⟩) (.string ⟨x.toArray⟩)).run Tryz.prog w= .ok (.bool false) w:=by
 simp[binOp,Go.Op.stringOp]
theorem YN (x:List UInt8)(w:World):Calls Tryz.prog 158 #[.string ⟨x.toArray⟩] w fun ev w'=>ev= .returned (.bool false)/\w=w':=by
 have h:=Gj x w;go_enter Tryz.func158,Tryz.ntmps158
 go_wp2
 go_ret
 exact⟨rfl,rfl⟩
theorem QJ (x:List UInt8)(w:World):Calls Tryz.prog 120 #[.string ⟨x.toArray⟩] w fun ev w'=>ev= .returned (.bool false)/\w=w':=by
 have h:=Gj x w;go_enter Tryz.func120,Tryz.ntmps120
 go_wp2
 go_ret
 exact⟨rfl,rfl⟩
theorem LV (x y:List UInt8)(w:World):Calls Tryz.prog 119 #[.string ⟨x.toArray⟩,.string ⟨y.toArray⟩] w fun ev w'=>ev= .returned (.bool (Go.Op.bytesLess x y))/\w=w':=by
 have h:=TB (x:=x) (y:=y) w rfl;go_enter Tryz.func119,Tryz.ntmps119
 go_wp2_with (go_at_call 158;refine(YN x _).mono ?_;rintro ev w' ⟨rfl,rfl⟩)
 go_ret
 exact⟨rfl,rfl⟩
def aG1 (l:List (List UInt8))(v:List UInt8)(w:World)(e:Ending)(w':World):Prop:=∃b:Bool,e= .returned (.tuple #[.int .i64 (AB l v:Int),.bool b])/\w=w'
set_option maxHeartbeats 4000000 in
set_option maxRecDepth 100000 in
theorem YO (a:Option Addr)(n cap:Nat)(l:List (List UInt8))(v:List UInt8)(w:World)(hn:l.length=n)(hl:n<=1000)(hr:Row w a (flat encS l))(hrise:l.Pairwise fun a b=>Go.Op.bytesLess a b=true):
 Calls Tryz.prog 68 #[.slice a n cap,.string ⟨v.toArray⟩] w (aG1 l v w):=by
 subst hn;have hle:=WT l v;go_enter Tryz.func68,Tryz.ntmps68
 go_wp2
 go_loopw [7,8,9] (fun s7 s8 _ wr=>wr=w/\∃i j:Nat,i<=AB l v/\AB l v<=j/\j<=l.length/\s7= .int .i64 i/\s8= .int .i64 j) (fun s7 s8 _ _=>(intOf s8).toNat-(intOf s7).toNat)
 case atStart=>exact⟨rfl,0,l.length,Nat.zero_le _,hle,Nat.le_refl _,rfl,rfl⟩
 case round=>
  obtain⟨rfl,i,j,h1,h2,h3,rfl,rfl⟩:=hrel;by_cases hlt:i<j
  ·have Jj:(i+j)/2<l.length:=by omega
   have hiff:=gO (YM hrise (v:=v) Jj);obtain⟨b,off,rfl,hb,hc⟩:=aN aZ (by decide) hr Jj;have hc0:=oO hc;rw[Nat.mul_one]at hc0;clear hr hc;generalize l[(i+j)/2]=y at*;cases hb2:Go.Op.bytesLess y v with
   | true=>
    have h4:=hiff.out.2 hb2;have HL:=gO (LV y v wr);rw[hb2]at HL;clear hb2;go_wp2_with (go_at_call 119;refine HL.out.mono ?_;rintro ev w' ⟨rfl,rfl⟩)
    go_roundw
    case rel=>exact⟨by first | rfl | trivial,(i+j)/2+1,j,by omega,h2,h3,by go_num,rfl⟩
    case measure=>simp[intOf];omega
   | false=>
    have h4:¬(i+j)/2<AB l v:=fun h=>by rw[hiff.out.1 h]at hb2;cases hb2
    have HL:=gO (LV y v wr);rw[hb2]at HL;clear hb2;go_wp2_with (go_at_call 119;refine HL.out.mono ?_;rintro ev w' ⟨rfl,rfl⟩)
    go_roundw
    case rel=>exact⟨by first | rfl | trivial,i,(i+j)/2,h1,by omega,by omega,rfl,by go_num⟩
    case measure=>simp[intOf];omega
  ·obtain rfl:i=AB l v:=by omega
   have hkk:(AB l v:Int)<=l.length:=by omega
   by_cases hk:AB l v<l.length
   ·obtain⟨b,off,rfl,hb,hc⟩:=aN aZ (by decide) hr hk;have hc0:=oO hc;rw[Nat.mul_one]at hc0;have hk2:(AB l v:Int)<l.length:=by omega
    clear hr hc;generalize l[AB l v]=y at*;generalize hK0:AB l v=K at*;have HK:=gO hK0;clear hK0;cases hvx:y == v with
    | true=>
     have h5:=(bytes_eq y v).trans hvx;go_wp2_with (go_at_call 120;refine(QJ _ _).mono ?_;rintro ev w' ⟨rfl,rfl⟩)
     exact bodyPost_ret (v:= .tuple #[.int .i64 (K:Int),.bool true]) (by simp[results,Tryz.results68,go_sem]) rfl ⟨true,by rw[HK.out],rfl⟩
    | false=>
     have h5:=(bytes_eq y v).trans hvx;go_wp2_with (go_at_call 120;refine(QJ _ _).mono ?_;rintro ev w' ⟨rfl,rfl⟩)
     exact bodyPost_ret (v:= .tuple #[.int .i64 (K:Int),.bool false]) (by simp[results,Tryz.results68,go_sem]) rfl ⟨false,by rw[HK.out],rfl⟩
   ·have hk2:¬(AB l v:Int)<l.length:=by omega
    clear hr;generalize hK0:AB l v=K at*;have HK:=gO hK0;clear hK0;go_wp2
    exact bodyPost_ret (v:= .tuple #[.int .i64 (K:Int),.bool false]) (by simp[results,Tryz.results68,go_sem]) rfl ⟨false,by rw[HK.out],rfl⟩
end
section
open Go.RowKit
theorem YT {z:Zn}(hz:z.ok):z.l.length<=256:=by
 refine gQ ?_ (UA hz);generalize z.l=l
 induction l with
 | nil=>simp
 | cons b l ih=>
  have:=dR b.o;simp only[szB,List.length_cons];omega
set_option maxHeartbeats 4000000 in
set_option maxRecDepth 100000 in
theorem MC (a1 a2:Option Addr)(n1 n2 c1 c2:Nat)(z:Zn)(p n:Nat)(w:World)(hat:Hf w a1 a2 n1 n2 z)(hz:z.ok)(hd0:∀q,p<=q->q<p+n->¬fG z.l q)(hp:z.f<=p)(hn:p+n<=z.e):
 Calls Tryz.prog 104 #[.agg #[.int .i64 z.f,.int .i64 z.e,.slice a1 n1 c1,.slice a2 n2 c2],.int .i64 p,.int .i64 n] w fun ev w'=>∃a1' a2' n1' c1' c2',ev= .returned (.tuple #[.agg #[.int .i64 z.f,.int .i64 z.e,.slice a1' n1' c1',.slice a2' n2 c2'],.int .i64 0])/\gY w' w.heap.size a1' a2' n1' n2 c1' c2' (dW z p n)/\Below w.heap.size w w':=by
 have hee:=hz.1.e2;have l1:=hat.l1;have l2:=hat.l2;have hl0:z.l.length<=256:=YT hz;have HD:=gO hd0;have hy32:z.y.length<=32:=by rw[hz.1.len];omega
 obtain⟨K3,K6,F3,F6,hsz,hbw⟩:=boxes2 w #[.int .i64 (z.f:Int),.int .i64 (z.e:Int),.slice a1 n1 c1,.slice a2 n2 c2] 102 #[.int .i64 0,.int .i64 0,.slice none 0 0,.slice none 0 0] 102;have nU:=hat.below hbw;have d1:decide (p<z.f)=false:=decide_eq_false (by omega);have d2:decide ((z.e:Int)<p)=false:=decide_eq_false (by omega);have d3:decide ((z.e:Int)-p<n)=false:=decide_eq_false (by omega);have d4:decide (z.e<p)=false:=decide_eq_false (by omega);have d5:(p:Int)<=z.e:=by omega
 clear hat hd0;go_enter Tryz.func104,Tryz.ntmps104
 go_wp2_with fail
 generalize (w.alloc _).alloc _=w0 at*;refine(oP _ _ _ _ _ _ z _ nU hz).mono ?_;rintro ev w1 ⟨rfl,hb1⟩;have Zx:=aB K3 (by omega) hb1;have Zy:=aB K6 (by omega) hb1;have Zz:=aH F3 (by omega) hb1;have ZA:=aH F6 (by omega) hb1;have Ew:=nU.below hb1;have wV:=Below.step hbw hb1;have hB:w.heap.size+2<=w1.heap.size:=by have:=hb1.size;omega
 clear K3 K6 F3 F6 hb1 nU hbw hsz;go_wp2_with fail
 refine(BH _ _ _ _ _ _ z.f z.e z _ Ew (by omega) (by omega)).mono ?_;rintro ev w5 ⟨a3,a4,c3,c4,rfl,hown,hb5⟩;have ZB:=aB Zx (by omega) hb5;have ZC:=aB Zy (by omega) hb5;have ZE:=aH Zz (by omega) hb5;have ZF:=aH ZA (by omega) hb5;have wE:=Below.step wV hb5;have hnn:=(hown.ne (g:=w.heap.size) (.inl (by omega)))
 have I1:GInv w ((((w5.setCell ⟨w.heap.size,0,none⟩ (.int .i64 z.f)).setCell ⟨w.heap.size,1,none⟩ (.int .i64 z.e)).setCell ⟨w.heap.size,2,none⟩ (.slice a3 n1 c3)).setCell ⟨w.heap.size,3,none⟩ (.slice a4 n2 c4)) a3 a4 n1 n2 c3 c4 z:=by
  have h5:=hb5.size;exact⟨aI (aI (aI (aI ZB 0 _) 1 _) 2 _) 3 _,aG (aG (aG (aG ZE _ _) _ _) _ _) _ _,aA (aA (aA (aA ZC (by omega) _ _) (by omega) _ _) (by omega) _ _) (by omega) _ _,aG (aG (aG (aG ZF _ _) _ _) _ _) _ _,(((((hown.base hB).set hnn _ _).set hnn _ _).set hnn _ _).set hnn _ _),by simp only[World.size_setCell];omega,Below.setCell (Below.setCell (Below.setCell (Below.setCell wE (by simp only;omega) _) (by simp only;omega) _) (by simp only;omega) _) (by simp only;omega) _⟩
 have HI:=gO I1;clear I1 ZC ZF hown wE Zx Zy Zz ZA Ew wV hb5 hnn d1 d2 d3 d4 d5;go_wp2
 clear ZB ZE;generalize (((w5.setCell _ _).setCell _ _).setCell _ _).setCell _ _=w6 at*;go_loopw [9] (fun s9 wr=>∃(i:Nat) (b1 b2:Option Addr) (m1 e1 e2:Nat),i<=n/\s9= .int .i64 ((p+i:Nat):Int)/\Hid (GInv w wr b1 b2 m1 n2 e1 e2 (dW z p i))) (fun s9 _=>p+n-(intOf s9).toNat)
 case atStart=>exact⟨0,a3,a4,n1,c3,c4,Nat.zero_le _,by simp,HI⟩
 case round=>
  obtain⟨i,b1,b2,m1,e1,e2,hin,rfl,HK⟩:=hrel;clear HI;by_cases hlt:i<n
  ·obtain⟨g1,g2,g3,g4⟩:=nM (p:=p) (n:=n) hz HD.out hp hn i (by omega);obtain⟨s1,s2⟩:=Pz (p:=p) (n:=n) hz HD.out hp hn (i:=i) hlt;have I:=HK.out;have hHi:=I.hi;have k0:=I.k3 0;have k1:=I.k3 1;have k2:=I.k3 2;have k3:=I.k3 3;simp only[gB,gC,gD]at k0 k1 k2 k3;have hwr:w.heap.size<wr.heap.size:=by omega
   have dl:decide ((p:Int)+i<p+n)=true:=decide_eq_true (by omega);have dl2:decide (p+i<p+n)=true:=decide_eq_true (by omega);have HGE:Hid (dW z p (i+1)=(dW z p i).back (p+i) 0):=rfl;have HS1:=gO s1;have HS2:=gO s2;have HG1:=gO g1;have HG2:=gO g2;have HG3:=gO g3;clear g4 s1 s2 g1 g2 g3;generalize dW z p i=y at*;have HK2:=gO I;clear I HK;go_wp2_with fail
   refine(rV _ _ _ _ _ _ y (p+i) 0 _ HK2.out.own.at HG1.out HS1.out HS2.out).mono ?_;rintro ev w7 ⟨b3,b4,m3,e3,e4,rfl,hown,hb7⟩;have Yd:=hb7.size;have HK4:=gO (HK2.out.below hb7);have AZ:gY w7 (w.heap.size+2) b3 b4 m3 n2 e3 e4 (y.back (p+i) 0):=hown.base hHi;have HK5:Hid (GInv w ((((w7.setCell ⟨w.heap.size,0,none⟩ (.int .i64 y.f)).setCell ⟨w.heap.size,1,none⟩ (.int .i64 y.e)).setCell ⟨w.heap.size,2,none⟩ (.slice b3 m3 e3)).setCell ⟨w.heap.size,3,none⟩ (.slice b4 n2 e4)) b3 b4 m3 n2 e3 e4 (y.back (p+i) 0)):=HK4.out.put AZ;have HK6:=gO (HK5.out.below (aF _ (.cells #[.int .i64 (y.f:Int),.int .i64 (y.e:Int),.slice b3 m3 e3,.slice b4 n2 e4] 102)));have ff3:=HK4.out.f3;have k30:=HK4.out.k3 0;have k31:=HK4.out.k3 1;have k32:=HK4.out.k3 2;have k33:=HK4.out.k3 3;simp only[gB,gC,gD]at k30 k31 k32 k33;have Vj:w.heap.size<w7.heap.size:=by omega
   clear hown AZ k0 k1 k2 k3 HK2 HK4 HK5 hb7;go_wp2
   go_roundw
   case rel=>exact⟨i+1,b3,b4,m3,e3,e4,by omega,by go_num,by rw[HGE.out];exact HK6⟩
   case measure=>simp[intOf];omega
  ·obtain rfl:i=n:=by omega
   have HG:=nM (p:=p) (n:=i) hz HD.out hp hn i (by omega);have I:=HK.out;have hHi:=I.hi;have k0:=I.k3 0;have k1:=I.k3 1;have k2:=I.k3 2;have k3:=I.k3 3;rw[HG.2.1,HG.2.2.1]at*;simp only[gB,gC,gD]at k0 k1 k2 k3;have x6:=I.k6;have xf6:=I.f6;have hwr:w.heap.size<wr.heap.size:=by omega
   have HK2:=gO I;clear I HK;go_wp2
   refine bodyPost_ret (v:= .tuple #[.agg #[.int .i64 z.f,.int .i64 z.e,.slice b1 m1 e1,.slice b2 n2 e2],.int .i64 0]) (by simp[results,Tryz.results104,go_sem,x6]) rfl ⟨b1,b2,m1,e1,e2,rfl,?_,?_⟩
   ·have no:=HK2.out.own.ne (g:=w.heap.size+1) (.inl (by omega));exact((((HK2.out.own.set no _ _).set no _ _).set no _ _).set no _ _).base (base':=w.heap.size) (by omega)
   ·have hbb:=HK2.out.bw;exact Below.setCell (Below.setCell (Below.setCell (Below.setCell hbb (by simp only;omega) _) (by simp only;omega) _) (by simp only;omega) _) (by simp only;omega) _
end
section
open Go.RowKit
def QN (z:Zn)(a1 a2:Option Addr)(n1 n2 c1 c2:Nat):Array Value:=#[.int .i64 z.f,.int .i64 z.e,.slice a1 n1 c1,.slice a2 n2 c2]
structure oC (W:World)(Z B:Nat)(X:Nat->Prop)(a1 a2:Option Addr)(n1 n2 c1 c2:Nat)(z:Zn):Prop where
 k:∀o,W.cell? ⟨B,o,none⟩=(QN z a1 a2 n1 n2 c1 c2)[o]?
 fz:∀o,W.frozen? ⟨B,o,none⟩=false
 own:gY W Z a1 a2 n1 n2 c1 c2 z
 lt:B<W.heap.size
 xs:∀k,X k->k<W.heap.size
 ne:∀g,X g->(Value.slice a1 n1 c1).ownBlock≠some g/\(Value.slice a2 n2 c2).ownBlock≠some g
section
variable {W W':World}{Z B:Nat}{X:Nat->Prop}{a1 a2:Option Addr}{n1 n2 c1 c2:Nat}{z:Zn}
theorem oC.below (h:oC W Z B X a1 a2 n1 n2 c1 c2 z)(hb:Below W.heap.size W W'):oC W' Z B X a1 a2 n1 n2 c1 c2 z:=
 ⟨aB h.k h.lt hb,aH h.fz h.lt hb,h.own.below hb,gI h.lt hb.size,fun k hk=>gI (h.xs k hk) hb.size,h.ne⟩
theorem oC.cells (h:oC W Z B X a1 a2 n1 n2 c1 c2 z):W.cell? ⟨B,0,none⟩=some (.int .i64 z.f)/\W.cell? ⟨B,1,none⟩=some (.int .i64 z.e)/\W.cell? ⟨B,2,none⟩=some (.slice a1 n1 c1)/\W.cell? ⟨B,3,none⟩=some (.slice a2 n2 c2):=⟨h.k 0,h.k 1,h.k 2,h.k 3⟩
theorem oC.far (h:oC W Z B X a1 a2 n1 n2 c1 c2 z){g:Nat}(hg:X g)(hne:B≠g)(i:Nat)(u:Value):oC (W.setCell ⟨g,i,none⟩ u) Z B X a1 a2 n1 n2 c1 c2 z:=
 ⟨aA h.k hne i u,aG h.fz _ _,h.own.set (h.ne g hg) i u,by simpa using h.lt,fun k hk=>by simpa using h.xs k hk,h.ne⟩
theorem oC.far4 (h:oC W Z B X a1 a2 n1 n2 c1 c2 z){g:Nat}(hg:X g)(hne:B≠g)(u0 u1 u2 u3:Value):oC ((((W.setCell ⟨g,0,none⟩ u0).setCell ⟨g,1,none⟩ u1).setCell ⟨g,2,none⟩ u2).setCell ⟨g,3,none⟩ u3) Z B X a1 a2 n1 n2 c1 c2 z:=
 (((h.far hg hne 0 u0).far hg hne 1 u1).far hg hne 2 u2).far hg hne 3 u3
theorem oC.put (h:oC W Z B X a1 a2 n1 n2 c1 c2 z)(hB:X B)(hZ:Z<=W.heap.size)(hb:Below W.heap.size W W'){b1 b2:Option Addr}{m1 m2 d1 d2:Nat}{y:Zn}(ho:gY W' W.heap.size b1 b2 m1 m2 d1 d2 y):
 oC ((((W'.setCell ⟨B,0,none⟩ (.int .i64 y.f)).setCell ⟨B,1,none⟩ (.int .i64 y.e)).setCell ⟨B,2,none⟩ (.slice b1 m1 d1)).setCell ⟨B,3,none⟩ (.slice b2 m2 d2)) Z B X b1 b2 m1 m2 d1 d2 y:=by
 have h':=h.below hb;have nn:∀g,X g->(Value.slice b1 m1 d1).ownBlock≠some g/\(Value.slice b2 m2 d2).ownBlock≠some g:=fun g hg=>ho.ne (.inl (h.xs g hg))
 have nB:=nn B hB;exact⟨aI (aI (aI (aI h'.k 0 (.int .i64 y.f)) 1 (.int .i64 y.e)) 2 (.slice b1 m1 d1)) 3 (.slice b2 m2 d2),aG (aG (aG (aG h'.fz _ _) _ _) _ _) _ _,((((ho.base hZ).set nB _ _).set nB _ _).set nB _ _).set nB _ _,by simpa using h'.lt,fun k hk=>by simpa using h'.xs k hk,nn⟩
theorem oC.new (h:oC W Z B X a1 a2 n1 n2 c1 c2 z)(hb:Below W.heap.size W W'){Y:Nat->Prop}(hY:∀k,Y k->X k∨(W.heap.size<=k/\k<W'.heap.size)):oC W' Z B Y a1 a2 n1 n2 c1 c2 z:=by
 have h':=h.below hb;refine⟨h'.k,h'.fz,h'.own,h'.lt,fun k hk=> ?_,fun g hg=> ?_⟩
 ·rcases hY k hk with h1 | h1
  ·exact h'.xs k h1
  ·exact h1.2
 ·rcases hY g hg with h1 | h1
  ·exact h'.ne g h1
  ·exact h.own.ne (.inr h1.1)
theorem MF {base:Nat}(ho:gY W base a1 a2 n1 n2 c1 c2 z)(hZ:Z<=base)(hX:∀k,X k->(k<base∨W.heap.size<=k)/\k<=W.heap.size):oC (W.alloc (.cells (QN z a1 a2 n1 n2 c1 c2) 102)) Z W.heap.size X a1 a2 n1 n2 c1 c2 z:=
 ⟨aW W _ _,eY W _ _,(ho.below (aF _ _)).base hZ,by simp,fun k hk=>by have:=(hX k hk).2;simp;omega,fun g hg=>ho.ne (hX g hg).1⟩
end
theorem QO (W:World){base:Nat}{e:TypeId}{size n:Nat}{xs:List Value}(hb:base<=W.heap.size)(hl:xs.length=n*size)(hn:n<=maxLen):(W.alloc (.cells xs.toArray e)).ownsRow base e size (.slice (some ⟨W.heap.size,0,none⟩) n n) n xs:=
 ⟨hl,.inr ⟨W.heap.size,n,xs.toArray,rfl,hb,heap_alloc_new W _,Nat.le_refl _,hn,by simp[hl],by simp[List.take_of_length_le,hl]⟩⟩
theorem YU {wx W5:World}{G N:Nat}{z0 z1:Zn}{x1 x2 y1 y2:Option Addr}{m1 m2 d1 d2 k1 k2 e1 e2 least:Nat}
 (r1:wx.ownsRow 0 102 4 (.slice (some ⟨N,0,none⟩) 2 2) 2 (flat mF [⟨z0,x1,x2,m1,m2,d1,d2⟩,⟨z1,y1,y2,k1,k2,e1,e2⟩]))
 (r2:wx.ownsRow 0 3 1 (.slice (some ⟨N+1,0,none⟩) 2 2) 2 (flat gV [least,least]))
 (t0:gY wx G x1 x2 m1 m2 d1 d2 z0) (t1:gY wx G y1 y2 k1 k2 e1 e2 z1) (u0:gY W5 G x1 x2 m1 m2 d1 d2 z0) (u1:gY W5 G y1 y2 k1 k2 e1 e2 z1) (hs:W5.heap.size=N)
 (n0:(Value.slice x1 m1 d1).ownBlock≠some G/\(Value.slice x2 m2 d2).ownBlock≠some G) (n1:(Value.slice y1 k1 e1).ownBlock≠some G/\(Value.slice y2 k2 e2).ownBlock≠some G) (hG:G<N) (hx:N<=wx.heap.size) (h:Hp)
 (q0:h.z0=z0) (q1:h.z1=z1) (q2:h.m0=least) (q3:h.m1=least) (q4:h.ls=[]) (q5:h.live=[]):
 kU wx G h ⟨some ⟨N,0,none⟩,2,some ⟨N+1,0,none⟩,2,none,0,none,0,⟨z0,x1,x2,m1,m2,d1,d2⟩,⟨z1,y1,y2,k1,k2,e1,e2⟩,[]⟩:=by
 have b0:=u0.o1.lt;have b1:=u0.o2.lt;have b2:=u1.o1.lt;have b3:=u1.o2.lt;refine⟨⟨fun r hr=> ?_,?_⟩,fun r hr=> ?_,fun r hr s hs' g hg1 hg2=> ?_,fun r hr g hg=> ?_,fun r hr e=> ?_,fun r hr g hg e=> ?_,gI hG hx,Nat.lt_irrefl _,fun k hk=>by have:k<G:=hk;omega,q0.symm,q1.symm,q4.symm⟩
 ·simp only[Hc.rows,List.map_nil,List.mem_cons,List.not_mem_nil,or_false]at hr;rcases hr with rfl | rfl | rfl
  ·exact r1
  ·exact⟨rfl,.inl ⟨rfl,rfl⟩⟩
  ·unfold yH Rs.on;rw[q5];exact⟨rfl,.inl ⟨rfl,rfl⟩⟩
 ·simp only[Hc.rows,List.map_nil];refine List.Pairwise.cons (fun s hs' g hg1 hg2=> ?_) (List.Pairwise.cons (fun s hs' g hg1 hg2=> ?_) (List.Pairwise.cons (fun s hs'=>by simp at hs') List.Pairwise.nil))
  ·simp only[List.mem_cons,List.not_mem_nil,or_false]at hs';rcases hs' with rfl | rfl <;> cases hg2
  ·cases hg1
 ·simp only[Hc.reads,List.mem_cons,List.not_mem_nil,or_false]at hr;rcases hr with rfl | rfl | rfl | rfl | rfl
  ·unfold Ye Rs.on;rw[q2,q3];exact r2
  ·exact own_base t0.o1 (Nat.zero_le _)
  ·exact own_base t0.o2 (Nat.zero_le _)
  ·exact own_base t1.o1 (Nat.zero_le _)
  ·exact own_base t1.o2 (Nat.zero_le _)
 ·simp only[Hc.rows,List.map_nil,List.mem_cons,List.not_mem_nil,or_false]at hs';rcases hs' with rfl | rfl | rfl
  ·obtain rfl:N=g:=by simpa[y7,Value.ownBlock]using hg2
   simp only[Hc.reads,List.mem_cons,List.not_mem_nil,or_false]at hr;rcases hr with rfl | rfl | rfl | rfl | rfl
   ·simp[Ye,Value.ownBlock]at hg1
   ·have:=(b0 _ hg1).2;omega
   ·have:=(b1 _ hg1).2;omega
   ·have:=(b2 _ hg1).2;omega
   ·have:=(b3 _ hg1).2;omega
  ·cases hg2
  ·cases hg2
 ·simp only[Hc.rows,List.map_nil,List.mem_cons,List.not_mem_nil,or_false]at hr;rcases hr with rfl | rfl | rfl
  ·obtain rfl:N=g:=by simpa[y7,Value.ownBlock]using hg
   exact⟨by omega,by omega⟩
  ·cases hg
  ·cases hg
 ·simp only[Hc.reads,List.mem_cons,List.not_mem_nil,or_false]at hr;rcases hr with rfl | rfl | rfl | rfl | rfl
  ·have:N+1=G:=by simpa[Ye,Value.ownBlock]using e
   omega
  ·exact n0.1 e
  ·exact n0.2 e
  ·exact n1.1 e
  ·exact n1.2 e
 ·have e:g<G:=e;simp only[Hc.reads,List.mem_cons,List.not_mem_nil,or_false]at hr;rcases hr with rfl | rfl | rfl | rfl | rfl
  ·have:N+1=g:=by simpa[Ye,Value.ownBlock]using hg
   omega
  ·have:=(b0 _ hg).1;omega
  ·have:=(b1 _ hg).1;omega
  ·have:=(b2 _ hg).1;omega
  ·have:=(b3 _ hg).1;omega
end
end Go.Proofs.YtcmpmobhongkiaaGreatDoor
