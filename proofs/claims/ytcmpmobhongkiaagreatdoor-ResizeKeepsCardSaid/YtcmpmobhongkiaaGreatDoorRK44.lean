/- joined. -/
import Derived.Test.YtcmpmobhongkiaaGreatDoorRK0
import Derived.Test.YtcmpmobhongkiaaGreatDoorRK18
import Derived.Test.YtcmpmobhongkiaaGreatDoorRK26
import Derived.Test.YtcmpmobhongkiaaGreatDoorRK32
import Derived.Test.YtcmpmobhongkiaaGreatDoorRK36
import Derived.Test.YtcmpmobhongkiaaGreatDoorRK39
import Derived.Test.YtcmpmobhongkiaaGreatDoorRK42
import Derived.Test.YtcmpmobhongkiaaGreatDoorRK43
import Derived.Test.YtcmpmobhongkiaaGreatDoorRK7
import Derived.Test.YtcmpmobhongkiaaGreatDoorRows
import Derived.WalkKit
import Derived.ProofKit
import Derived.OpenShut
import Derived.Deep.DeepHandedRow
import Derived.Lib.LaidTab
set_option linter.unusedVariables false
set_option linter.unusedSimpArgs false
namespace Go.Proofs.YtcmpmobhongkiaaGreatDoor
section
theorem qK {s:Sy}{i:Nat}{c:Ca}(h:s.cs[i]? =some c):s.sig[i]? =some (c.ns,c.z):=by
 unfold Sy.sig;rw[List.getElem?_map,h];rfl
theorem qL {s:Sy}{i:Nat}{p:List (List UInt8)×Nat}(h:s.sig[i]? =some p):∃c,s.cs[i]? =some c/\c.ns=p.1/\c.z=p.2:=by
 unfold Sy.sig at h;rw[List.getElem?_map]at h;cases hc:s.cs[i]? with
 | none=>rw[hc]at h;cases h
 | some c=>
  rw[hc]at h;have h1:=gP h;exact⟨c,rfl,congrArg Prod.fst h1,congrArg Prod.snd h1⟩
def Ag (s:Sy):Prop:=∀j,j<6->∃i c,s.cs[i]? =some c/\s.named (kN (zz j))=some i/\kN (zz j)∈c.ns/\c.z=zz j
theorem Ag.names {s:Sy}(h:Ag s):Xf s:=fun j hj=>by
 obtain⟨i,_,_,h1,_⟩:=h j hj;exact⟨i,h1⟩
theorem Xg {ns:List (List UInt8)}{j:Nat}(hj:j<6)(h:kN (zz j)∈ns):lY ns=true:=by
 unfold lY;rw[List.any_eq_true];refine⟨zz j,?_,List.contains_iff_mem.2 h⟩;obtain rfl | rfl | rfl | rfl | rfl | rfl:j=0∨j=1∨j=2∨j=3∨j=4∨j=5:=by omega
 all_goals decide
theorem PL (h:Hp):Ag (dB h 6):=fun j hj=>by
 obtain rfl | rfl | rfl | rfl | rfl | rfl:j=0∨j=1∨j=2∨j=3∨j=4∨j=5:=by omega
 all_goals exact⟨_,_,rfl,rfl,List.mem_singleton.2 rfl,rfl⟩
theorem bK.Zf {s t:Sy}(hk:bK s){i cpu:Nat}{c:Ca}{a:Int}(hc:s.cs[i]? =some c)(bJ:cpu<s.h.aC)(h:s.one i cpu=some (t,a)):bK t/\∃k d,t.fV i k a/\t.cs[i]? =some d/\d.ns=c.ns/\d.z=c.z:=by
 obtain⟨g1,_⟩:=hk.one hc bJ h;obtain⟨_,g2⟩:=hk.Cm hc bJ h;obtain⟨k,hk'⟩:=dL.1 ((g2 i a).2 (.inr ⟨rfl,rfl⟩));have h1:=qK hc;rw[<- Hu h]at h1;obtain⟨d,hd,e1,e2⟩:=qL h1;exact⟨g1,k,d,hk',hd,e1,e2⟩
theorem bK.fE {s t:Sy}(hk:bK s)(hs:Ag s){cpu n:Nat}{a:Int}(bJ:cpu<s.h.aC)(h1:1<=n)(h2:n<=256)(h:s.fE cpu n=some (t,a)):
 bK t/\t.nss=s.nss/\t.h.aC=s.h.aC/\0<=a/\a<=4096/\∃m,t.dV a=some m/\n<=m/\m<2*n+16:=by
 unfold Sy.fE at h;split at h
 ·rename_i hn;obtain⟨c1,c2,c3,_⟩:=mY h1 hn;obtain⟨i,c,hc,hnm,hmem,hz⟩:=hs _ c1;rw[hnm]at h;simp only at h;obtain⟨g1,k,d,hd,hdc,e1,e2⟩:=hk.Zf hc bJ h;obtain⟨_,g3,_⟩:=hk.one hc bJ h;have hm:t.eU a=some (i,k,d):=by
   unfold Sy.eU;rw[g1.xJ hd];simp only[hdc];rw[if_pos (Xg c1 (by rw[e1];exact hmem))]
  have hab:0<=a/\a<=4096:=by
   obtain⟨d',x,q1,q2,q3⟩:=hd;have hxm:=gM q2;have hdk:=g1.ck _ (gM q1);have h3:=iV hdk.room q3.1;obtain⟨b,hb,b1,b2⟩:=(hdk.sk x hxm).live;obtain⟨o1,_,o3,o4⟩:=(g1.hk.lv b hb).1;rw[b2]at o4 o1;rw[b1]at o4 o3;rcases GK o1 with e | e | e | e | e <;> rw[e]at o4 h3 <;> omega
  refine⟨g1,Qo h,g3,hab.1,hab.2,d.z,?_,by rw[e2,hz];exact c2,by rw[e2,hz];omega⟩;unfold Sy.dV;rw[hm]
 ·rename_i hn;obtain⟨o1,o2,o3,o4,_⟩:=xG (show 33<=n by omega) h2;unfold Sy.TR at h;cases hal:s.h.alloc cpu (mJ n) 0 false false with
  | none=>rw[hal]at h;cases h
  | some r=>
   obtain⟨h',p⟩:=r;rw[hal]at h;have h3:=gP h;rw[Prod.mk.injEq]at h3;obtain⟨rfl,rfl⟩:=h3;obtain⟨g1,g2,g3,_,g5⟩:=hk.Xe bJ o2 (by decide) hal;have hw:=(g3 ⟨p,mJ n,0⟩).2 (.inl rfl);have hf:=xK (g1.lK hw);have hm:({s with h:=h'}:Sy).eU (16*(p:Int))=none:=by
    unfold Sy.eU;rw[hf]
   refine⟨g1,rfl,g2,by omega,by have:=g5.2.2.1;omega,16*2^mJ n,?_,o3,o4⟩;unfold Sy.dV;rw[hm];simp only[g1.Bo hw];rfl
end
section
def Sy.oZ (s:Sy)(a:Int)(m:Nat):Prop:=(∃i k c,s.fV i k a/\s.cs[i]? =some c/\m<=c.z)∨(∃b,s.whole b/\a=16*(b.a:Int)/\m<=16*2^b.o)
theorem MO {c:Ca}{p:Nat}{a b:Int}(h1:fU c p a=true)(h2:fU c p b=true)(hne:a≠b):a+c.z<=b∨b+c.z<=a:=by
 obtain⟨_,_,e1⟩:=kG h1;obtain⟨_,_,e2⟩:=kG h2;obtain⟨i,hi⟩:=Int.dvd_of_emod_eq_zero e1;obtain⟨j,hj⟩:=Int.dvd_of_emod_eq_zero e2;have hij:i≠j:=fun e=>hne (by rw[e]at hi;omega)
 rcases Int.lt_or_gt_of_ne hij with h | h
 ·left;have h3:(c.z:Int)*(i+1)<=c.z*j:=Int.mul_le_mul_of_nonneg_left (by omega) (by omega);rw[Int.mul_add,Int.mul_one]at h3;omega
 ·right;have h3:(c.z:Int)*(j+1)<=c.z*i:=Int.mul_le_mul_of_nonneg_left (by omega) (by omega);rw[Int.mul_add,Int.mul_one]at h3;omega
theorem o8.vZ {s:Sy}{c:Ca}(h:o8 s c){p:Nat}{a:Int}(ho:fU c p a=true):16*(p:Int)<=a/\a+c.z<=16*((p:Int)+(2^c.o:Nat)):=by
 obtain⟨h1,h2,e⟩:=kG ho;obtain⟨i,hi⟩:=Int.dvd_of_emod_eq_zero e;have hroom:=h.room;have hz:=h.z.1;have h3:i<c.r:=by
  apply Decidable.byContradiction;intro hn;have h4:(c.z:Int)*c.r<=c.z*i:=Int.mul_le_mul_of_nonneg_left (by omega) (by omega);have h5:(c.z:Int)*c.r=c.r*c.z:=Int.mul_comm _ _;omega
 have h6:(c.z:Int)*(i+1)<=c.z*c.r:=Int.mul_le_mul_of_nonneg_left (by omega) (by omega);rw[Int.mul_add,Int.mul_one]at h6;have h5:(c.z:Int)*c.r=((c.r*c.z:Nat):Int):=by rw[Int.mul_comm];exact(Int.natCast_mul ..).symm
 refine⟨h1,?_⟩;rw[h5]at h6;generalize c.r*c.z=q at*;generalize 2^c.o=q2 at*;omega
theorem bK.Ah {s:Sy}(hk:bK s){a:Int}{m:Nat}(h:s.oZ a m):∃b∈s.h.live,16*(b.a:Int)<=a/\a+m<=16*((b.a:Int)+(2^b.o:Nat)):=by
 rcases h with ⟨i,k,c,⟨c',x,h1,h2,h3⟩,hc,hm⟩ | ⟨b,hb,rfl,hm⟩
 ·rw[hc]at h1;obtain rfl:=gP h1;have hck:=hk.ck c (gM hc);obtain⟨b,hb,e1,e2⟩:=(hck.sk x (gM h2)).live;obtain⟨g1,g2⟩:=hck.vZ h3.1;refine⟨b,hb,by rw[e1];exact g1,?_⟩;rw[e1,e2];omega
 ·refine⟨b,hb.1,Int.le_refl _,?_⟩;have:((16*2^b.o:Nat):Int)=16*((2^b.o:Nat):Int):=Int.natCast_mul ..;omega
theorem bK.MP {s:Sy}(hk:bK s){a:Int}{m:Nat}(h:s.oZ a m):0<=a/\a+m<=4096:=by
 obtain⟨b,hb,h1,h2⟩:=hk.Ah h;obtain⟨o1,_,o3,o4⟩:=(hk.hk.lv b hb).1;rcases GK o1 with e | e | e | e | e <;> rw[e]at o4 h2 <;> omega
theorem bK.MQ {s:Sy}(hk:bK s){a:Int}{m:Nat}(h:s.oZ a m){d:Ca}{y:Sl}{l:List Int}(hd:d∈s.cs)(hy:y∈d.sl)(hl:follow s.w y.h d.r=some l){b:Int}(hb:b∈l)(ho:fU d y.p b=true):b<a∨a+m<=b:=by
 have hdk:=hk.ck d hd;obtain⟨e,he,e1,e2⟩:=(hdk.sk y hy).live;obtain⟨g1,g2⟩:=hdk.vZ ho;have hz:=hdk.z.1;rcases h with ⟨i,k,c,⟨c',x,h1,h2,h3⟩,hc,hm⟩ | ⟨b',hb',rfl,hm⟩
 ·rw[hc]at h1;obtain rfl:=gP h1;have hcm:=gM hc;have hxm:=gM h2;have hck:=hk.ck c hcm;by_cases hp:x.p=y.p
  ·obtain⟨j,hj,ed⟩:=List.mem_iff_getElem.1 hd;obtain⟨k',hk',ey⟩:=List.mem_iff_getElem.1 hy;have hij:i=j:=by
    obtain⟨hi,ei⟩:=List.getElem?_eq_some_iff.1 hc;rcases Nat.lt_trichotomy i j with q | q | q
    ·exact absurd hp (List.pairwise_iff_getElem.1 hk.pd i j hi hj q x (by rw[ei];exact hxm) y (by rw[ed];exact hy))
    ·exact q
    ·exact absurd hp.symm (List.pairwise_iff_getElem.1 hk.pd j i hj hi q y (by rw[ed];exact hy) x (by rw[ei];exact hxm))
   subst hij;have hcd:c=d:=by
    rw[gJ hj,ed]at hc;exact(gP hc).symm
   subst hcd;have hxy:x=y:=by
    obtain⟨hkl,hkx⟩:=List.getElem?_eq_some_iff.1 h2;have:=UZ hck.sr hkl hk' (by rw[hkx,ey];exact hp);subst this;rw[<- hkx,<- ey]
   subst hxy;have hne:a≠b:=fun e=>h3.2 l hl (e▸hb)
   rcases MO h3.1 ho hne with q | q
   ·right;omega
   ·left;omega
  ·obtain⟨b2,hb2,f1,f2⟩:=(hck.sk x hxm).live;obtain⟨g3,g4⟩:=hck.vZ h3.1;have h5:=jW hk.hk hb2 he (by rw[f1,e1];exact hp);unfold apartB Bk.fin at h5;rw[f1,f2,e1,e2]at h5;generalize 2^c.o=q1 at*;generalize 2^d.o=q2 at*;omega
 ·have hne:b'.a≠e.a:=fun q=>hb'.2 d hd y hy (by rw[<- e1];exact q.symm)
  have h5:=jW hk.hk hb'.1 he hne;unfold apartB Bk.fin at h5;rw[e1,e2]at h5;generalize 2^b'.o=q1 at*;generalize 2^d.o=q2 at*;omega
theorem bK.write {s:Sy}(hk:bK s){a:Int}{m:Nat}(h:s.oZ a m){w':List Int}(hl:w'.length=s.w.length)(hw:∀q:Nat,(q:Int)<a∨a+m<=q->w'.getD q 0=s.w.getD q 0):
 bK {s with w:=w'}/\(∀i k b,({s with w:=w'}:Sy).fV i k b↔s.fV i k b)/\∀b,({s with w:=w'}:Sy).whole b↔s.whole b:=by
 have GY:∀d∈s.cs,∀y∈d.sl,follow w' y.h d.r=follow s.w y.h d.r:=fun d hd y hy=>by
  obtain⟨l,h1,h2,h3⟩:=((hk.ck d hd).sk y hy).chain;rw[h1];have h4:=fJ.1 h1;rw[fJ,hl];refine⟨h4.1.move fun b hb=> ?_,h4.2⟩;have h5:=hk.MQ h hd hy h1 hb (h3 b hb);have h6:=(h4.2.1 b hb).1;exact hw b.toNat (by omega)
 refine⟨⟨by show w'.length=4096;rw[hl];exact hk.wl,hk.hk,hk.cl,fun d hd=> ?_,hk.zd,hk.nd,hk.pd⟩,fun i k b=> ?_,fun b=>Iff.rfl⟩
 ·refine(hk.ck d hd).move rfl fun y hy=>⟨((hk.ck d hd).sk y hy).live,?_⟩
  obtain⟨l,h1,h2,h3⟩:=((hk.ck d hd).sk y hy).chain;exact⟨l,by rw[<- h1];exact GY d hd y hy,h2,h3⟩
 ·unfold Sy.fV;constructor
  ·rintro⟨c,x,h1,h2,h3⟩;exact⟨c,x,h1,h2,(vP (GY c (gM h1) x (gM h2)) b).1 h3⟩
  ·rintro⟨c,x,h1,h2,h3⟩;exact⟨c,x,h1,h2,(vP (GY c (gM h1) x (gM h2)) b).2 h3⟩
theorem bK.Jb {s:Sy}(hk:bK s){a b:Int}{m n:Nat}(h1:s.oZ a m)(h2:s.oZ b n)(hne:a≠b):a+m<=b∨b+n<=a:=by
 rcases h1 with ⟨i,k,c,⟨c',x,p1,p2,p3⟩,hc,hm⟩ | ⟨b1,hb1,rfl,hm⟩
 ·rw[hc]at p1;obtain rfl:=gP p1;have hcm:=gM hc;have hxm:=gM p2;have hck:=hk.ck c hcm;obtain⟨e,he,e1,e2⟩:=(hck.sk x hxm).live;obtain⟨g1,g2⟩:=hck.vZ p3.1;rcases h2 with ⟨j,k2,d,⟨d',y,q1,q2,q3⟩,hd,hn⟩ | ⟨b2,hb2,rfl,hn⟩
  ·rw[hd]at q1;obtain rfl:=gP q1;have hdm:=gM hd;have hym:=gM q2;have hdk:=hk.ck d hdm;obtain⟨f,hf,f1,f2⟩:=(hdk.sk y hym).live;obtain⟨g3,g4⟩:=hdk.vZ q3.1;by_cases hp:x.p=y.p
   ·obtain⟨hi,ei⟩:=List.getElem?_eq_some_iff.1 hc;obtain⟨hj,ej⟩:=List.getElem?_eq_some_iff.1 hd;have hij:i=j:=by
     rcases Nat.lt_trichotomy i j with q | q | q
     ·exact absurd hp (List.pairwise_iff_getElem.1 hk.pd i j hi hj q x (by rw[ei];exact hxm) y (by rw[ej];exact hym))
     ·exact q
     ·exact absurd hp.symm (List.pairwise_iff_getElem.1 hk.pd j i hj hi q y (by rw[ej];exact hym) x (by rw[ei];exact hxm))
    subst hij;have hcd:c=d:=by rw[hc]at hd;exact gP hd
    subst hcd;have q4:=q3.1;rw[<- hp]at q4;rcases MO p3.1 q4 hne with q | q
    ·left;omega
    ·right;omega
   ·have h5:=jW hk.hk he hf (by rw[e1,f1];exact hp);unfold apartB Bk.fin at h5;rw[e1,e2,f1,f2]at h5;generalize 2^c.o=q1 at*;generalize 2^d.o=q2 at*;omega
  ·have hne2:e.a≠b2.a:=fun q=>hb2.2 c hcm x hxm (by rw[<- e1];exact q)
   have h5:=jW hk.hk he hb2.1 hne2;unfold apartB Bk.fin at h5;rw[e1,e2]at h5;generalize 2^c.o=q1 at*;generalize 2^b2.o=q2 at*;omega
 ·rcases h2 with ⟨j,k2,d,⟨d',y,q1,q2,q3⟩,hd,hn⟩ | ⟨b2,hb2,rfl,hn⟩
  ·rw[hd]at q1;obtain rfl:=gP q1;have hdm:=gM hd;have hym:=gM q2;have hdk:=hk.ck d hdm;obtain⟨f,hf,f1,f2⟩:=(hdk.sk y hym).live;obtain⟨g3,g4⟩:=hdk.vZ q3.1;have hne2:b1.a≠f.a:=fun q=>hb1.2 d hdm y hym (by rw[<- f1];exact q.symm)
   have h5:=jW hk.hk hb1.1 hf hne2;unfold apartB Bk.fin at h5;rw[f1,f2]at h5;generalize 2^b1.o=q1 at*;generalize 2^d.o=q2 at*;omega
  ·have h5:=jW hk.hk hb1.1 hb2.1 (fun q=>hne (by rw[q]));unfold apartB Bk.fin at h5;generalize 2^b1.o=q1 at*;generalize 2^b2.o=q2 at*;omega
end
section
theorem Ec {s:Sy}{i cpu k j:Nat}(hj:j≠i):(s.mine i cpu k).cs[j]? =s.cs[j]? :=by
 unfold Sy.mine;cases hc:s.cs[i]? with
 | none=>rfl
 | some c=>
  simp only;cases hx:c.sl[k]? with
  | none=>rfl
  | some x=>exact List.getElem?_set_ne fun e=>hj e.symm
theorem TS {s t:Sy}{i cpu j:Nat}{a:Int}(hj:j≠i)(h:s.one i cpu=some (t,a)):t.cs[j]? =s.cs[j]? :=by
 unfold Sy.one at h;cases hch:s.choose i cpu with
 | none=>rw[hch]at h;cases h
 | some r=>
  obtain⟨s2,k⟩:=r;rw[hch]at h;simp only at h;obtain⟨c,x,_,_,rfl,_⟩:=IB h;have h1:(s2.fH i {c with sl:=c.sl.set k ⟨x.p,x.n-1,s2.w.getD x.h.toNat 0⟩}).cs[j]? =s2.cs[j]? :=List.getElem?_set_ne fun e=>hj e.symm
  rw[h1];unfold Sy.choose at hch;cases hc:s.cs[i]? with
  | none=>rw[hc]at hch;cases hch
  | some c0=>
   rw[hc]at hch;simp only at hch;split at hch
   ·have h2:=gP hch;rw[Prod.mk.injEq]at h2;rw[<- h2.1]
   ·split at hch
    ·have h2:=gP hch;rw[Prod.mk.injEq]at h2;rw[<- h2.1];exact Ec hj
    ·split at hch
     ·rename_i heq;have h2:=gP hch;rw[Prod.mk.injEq]at h2;rw[<- h2.1,Ec hj];obtain⟨_,_,_,rfl,_⟩:=Ad heq;exact List.getElem?_set_ne fun e=>hj e.symm
     ·cases hch
theorem Bq {s:Sy}{i k a j:Nat}(hj:j≠i):(s.push i k a).cs[j]? =s.cs[j]? :=by
 unfold Sy.push;cases hc:s.cs[i]? with
 | none=>rfl
 | some c=>
  simp only;cases hx:c.sl[k]? with
  | none=>rfl
  | some x=>exact List.getElem?_set_ne fun e=>hj e.symm
theorem ER {s:Sy}{i k cpu j:Nat}(hj:j≠i):(s.discard i k cpu).cs[j]? =s.cs[j]? :=by
 unfold Sy.discard;cases hc:s.cs[i]? with
 | none=>rfl
 | some c=>
  simp only;cases hx:c.sl[k]? with
  | none=>rfl
  | some x=>
   simp only;cases hb:s.h.live[lb s.h.live x.p]? with
   | none=>rfl
   | some b=>exact List.getElem?_set_ne fun e=>hj e.symm
theorem PN {s:Sy}{i k a cpu j:Nat}(hj:j≠i):(s.free i k a cpu).cs[j]? =s.cs[j]? :=by
 unfold Sy.free;split
 ·rw[ER hj,Bq hj]
 ·exact Bq hj
def NH (h:Hp)(cpu o:Nat):Nat->Option Hp
 | 0=>some h
 | m+1=>match NH h cpu o m with
  | some h1=>match h1.alloc cpu o 0 false false with
   | some (h2,_)=>some h2
   | none=>none
  | none=>none
def Ca.left (c:Ca):Nat:=(c.sl.map (·.n)).sum
theorem MR {x x':Sl}:∀{l:List Sl} {k:Nat},l[k]? =some x->0<x.n->x'.n=x.n-1->((l.set k x').map (·.n)).sum+1=(l.map (·.n)).sum
 | [],k,h,_,_=>by simp at h
 | y::l,0,h,h1,h2=>by
  obtain rfl:y=x:=by simpa using h
  simp only[gG,List.map_cons,List.sum_cons];omega
 | y::l,k+1,h,h1,h2=>by
  have ih:=MR (l:=l) (k:=k) (by simpa using h) h1 h2;simp only[gH,List.map_cons,List.sum_cons];omega
theorem Xh (l:List Sl)(x:Sl):((kP l x).map (·.n)).sum=x.n+(l.map (·.n)).sum:=by
 unfold kP
 conv=>rhs;arg 2;rw[<- List.take_append_drop (Ji l x.p) l]
 simp only[List.map_append,List.map_cons,List.sum_append,List.sum_cons];omega
theorem MS:∀{l:List Sl},(∀x∈l,x.n=0)->(l.map (·.n)).sum=0
 | [],_=>rfl
 | y::l,h=>by
  have h1:=MS (l:=l) fun x hx=>h x (List.mem_cons_of_mem _ hx)
  have h2:=h y List.mem_cons_self;simp only[List.map_cons,List.sum_cons];omega
def Gr (s:Sy)(h0:Hp)(i cpu z j m:Nat):Prop:=∃c,s.cs[i]? =some c/\c.z=z/\c.sl.length=m/\c.left+j=m*c.r/\NH h0 cpu (dS z) m=some s.h/\∀k,k≠cpu->c.ac.getD k (-1)= -1
theorem PO {s:Sy}{h0:Hp}{i cpu z j m k:Nat}{c:Ca}{x:Sl}(hg:Gr s h0 i cpu z j m)(hc:s.cs[i]? =some c)(hx:c.sl[k]? =some x)(hn:0<x.n):∃t a,s.pop i k=some (t,a)/\Gr t h0 i cpu z (j+1) m:=by
 obtain⟨t,a,h⟩:=pop_some hc hx;refine⟨t,a,h,?_⟩;obtain⟨c1,x1,h1,h2,rfl,_⟩:=IB h;obtain rfl:c=c1:=by rw[hc]at h1;exact gP h1
 obtain rfl:x=x1:=by rw[hx]at h2;exact gP h2
 obtain⟨c2,g1,g2,g3,g4,g5,g6⟩:=hg;obtain rfl:c=c2:=by rw[hc]at g1;exact gP g1
 have hil:=(List.getElem?_eq_some_iff.1 hc).1;refine⟨{c with sl:=c.sl.set k ⟨x.p,x.n-1,s.w.getD x.h.toNat 0⟩},?_,g2,?_,?_,g5,g6⟩
 ·show(s.cs.set i _)[i]? =_;rw[List.getElem?_set_self hil]
 ·show(c.sl.set k _).length=m;rw[List.length_set];exact g3
 ·have h3:=MR (x':=⟨x.p,x.n-1,s.w.getD x.h.toNat 0⟩) hx hn rfl;unfold Ca.left at g4 ⊢;show((c.sl.set k ⟨x.p,x.n-1,s.w.getD x.h.toNat 0⟩).map (·.n)).sum+(j+1)=m*c.r;omega
theorem Jc {s:Sy}{i cpu k:Nat}{c:Ca}{x:Sl}(hc:s.cs[i]? =some c)(hx:c.sl[k]? =some x):(s.mine i cpu k).cs[i]? =some {c with ac:=c.ac.set cpu (x.p:Int)}:=by
 have hil:=(List.getElem?_eq_some_iff.1 hc).1;unfold Sy.mine;rw[hc];simp only[hx];show(s.cs.set i _)[i]? =_;rw[List.getElem?_set_self hil]
theorem getD_set_ne {l:List Int}{i j:Nat}{u d:Int}(h:j≠i):(l.set i u).getD j d=l.getD j d:=by
 rw[List.getD_eq_getElem?_getD,List.getElem?_set_ne (fun e=>h e.symm),<- List.getD_eq_getElem?_getD]
theorem QT {s:Sy}{h0:Hp}{i cpu z j m k:Nat}{c:Ca}{x:Sl}(hg:Gr s h0 i cpu z j m)(hc:s.cs[i]? =some c)(hx:c.sl[k]? =some x):Gr (s.mine i cpu k) h0 i cpu z j m:=by
 obtain⟨c2,g1,g2,g3,g4,g5,g6⟩:=hg;obtain rfl:c=c2:=by rw[hc]at g1;exact gP g1
 refine⟨_,Jc hc hx,g2,g3,g4,?_,fun q hq=> ?_⟩
 ·rw[vY.1];exact g5
 ·show(c.ac.set cpu (x.p:Int)).getD q (-1)= -1;rw[getD_set_ne hq];exact g6 q hq
theorem PS {s:Sy}(hk:bK s){i cpu:Nat}{c:Ca}(hc:s.cs[i]? =some c)(h:∀k,k≠cpu->c.ac.getD k (-1)= -1)(h1:c.own cpu=none)(h2:c.nobody=none):∀x∈c.sl,x.n=0:=fun x hx=>by
 apply Decidable.byContradiction;intro hn;have hsr:=(hk.ck c (gM hc)).sr;unfold Ca.nobody at h2;rw[List.findIdx?_eq_none_iff]at h2;have h3:=h2 x hx;simp only[Bool.and_eq_false_iff,decide_eq_false_iff_not,Bool.not_eq_false']at h3;rcases h3 with h3 | h3
 ·omega
 ·obtain⟨q,hq,e⟩:=List.mem_iff_getElem.1 (List.contains_iff_mem.1 h3);have h4:c.ac.getD q (-1)=(x.p:Int):=by
   rw[List.getD_eq_getElem?_getD,gJ hq];exact e
  obtain rfl:q=cpu:=Decidable.byContradiction fun hne=>by
   have:=h q hne;omega
  unfold Ca.own Ca.find at h1;rw[h4]at h1;cases hf:c.sl.findIdx? (fun y=>decide ((y.p:Int)=(x.p:Int)))with
  | none=>
   rw[List.findIdx?_eq_none_iff]at hf;have:=hf x hx;simp at this
  | some k=>
   rw[hf]at h1;rw[List.findIdx?_eq_some_iff_getElem]at hf;obtain⟨hkl,hkp,_⟩:=hf;obtain⟨k',hk',e'⟩:=List.mem_iff_getElem.1 hx;have h5:k=k':=UZ hsr hkl hk' (by have:=of_decide_eq_true hkp;rw[e'];omega);subst h5;simp only[gJ hkl,e']at h1;rw[if_pos (by omega)]at h1;cases h1
theorem aBM {s:Sy}(hk:bK s){h0:Hp}{i cpu z j m:Nat}(hg:Gr s h0 i cpu z j m)(ha:m*fB z=j->(NH h0 cpu (dS z) (m+1)).isSome=true):
 ∃t a m',s.one i cpu=some (t,a)/\Gr t h0 i cpu z (j+1) m'/\(m'=m∨(m'=m+1/\m*fB z=j)):=by
 obtain⟨c,g1,g2,g3,g4,g5,g6⟩:=id hg;have hck:=hk.ck c (gM g1);have hil:=(List.getElem?_eq_some_iff.1 g1).1;have hcr:c.r=fB z:=by rw[hck.r,g2]
 have hco:c.o=dS z:=by rw[hck.o,g2]
 cases hown:c.own cpu with
 | some k=>
  obtain⟨_,hkl,hn⟩:=La rfl hown;obtain⟨t,a,h1,h2⟩:=PO hg g1 (gJ hkl) hn;refine⟨t,a,m,?_,h2,.inl rfl⟩;unfold Sy.one Sy.choose;rw[g1];simp only[hown];exact h1
 | none=>
  cases qC:c.nobody with
  | some k=>
   have hnb:=qC;unfold Ca.nobody at hnb;rw[List.findIdx?_eq_some_iff_getElem]at hnb;obtain⟨hkl,hkp,_⟩:=hnb;simp only[Bool.and_eq_true,decide_eq_true_eq]at hkp;have hx:c.sl[k]? =some c.sl[k]:=gJ hkl;obtain⟨t,a,h1,h2⟩:=PO (QT (cpu:=cpu) hg g1 hx) (Jc g1 hx) (x:=c.sl[k]) hx hkp.1;refine⟨t,a,m,?_,h2,.inl rfl⟩;unfold Sy.one Sy.choose;rw[g1];simp only[hown,qC];exact h1
  | none=>
   have hz:=PS hk g1 g6 hown qC;have h0':=MS hz;have hmj:m*fB z=j:=by
    unfold Ca.left at g4;rw[hcr]at g4;omega
   have hal:=ha hmj;unfold NH at hal;rw[g5]at hal;simp only at hal;cases hq:s.h.alloc cpu (dS z) 0 false false with
   | none=>rw[hq]at hal;cases hal
   | some r=>
    obtain⟨h',p⟩:=r;have hgr:s.grow i cpu c=some ({w:=chainTo s.w (16*p) c.z c.r c.r,h:=h',cs:=s.cs.set i {c with sl:=kP c.sl ⟨p,c.r,((16*p:Nat):Int)⟩}},Ji c.sl p):=by
     unfold Sy.grow;rw[hco,hq]
    have hG:Gr ({w:=chainTo s.w (16*p) c.z c.r c.r,h:=h',cs:=s.cs.set i {c with sl:=kP c.sl ⟨p,c.r,((16*p:Nat):Int)⟩}}:Sy) h0 i cpu z j (m+1):=by
     refine⟨{c with sl:=kP c.sl ⟨p,c.r,((16*p:Nat):Int)⟩},List.getElem?_set_self hil,g2,?_,?_,?_,g6⟩
     ·show(kP c.sl _).length=m+1;rw[(Lh _ _).1,g3]
     ·show((kP c.sl ⟨p,c.r,((16*p:Nat):Int)⟩).map (·.n)).sum+j=(m+1)*c.r;have e1:=Xh c.sl ⟨p,c.r,((16*p:Nat):Int)⟩;have e2:(m+1)*c.r=m*c.r+c.r:=Nat.succ_mul m c.r;have e3:m*c.r=j:=by rw[hcr];exact hmj
      simp only at e1;rw[e1,h0',e2,e3];omega
     ·unfold NH;rw[g5];simp only[hq]
    have hcg:({w:=chainTo s.w (16*p) c.z c.r c.r,h:=h',cs:=s.cs.set i {c with sl:=kP c.sl ⟨p,c.r,((16*p:Nat):Int)⟩}}:Sy).cs[i]? =some {c with sl:=kP c.sl ⟨p,c.r,((16*p:Nat):Int)⟩}:=List.getElem?_set_self hil;have hxg:({c with sl:=kP c.sl ⟨p,c.r,((16*p:Nat):Int)⟩}:Ca).sl[Ji c.sl p]? =some ⟨p,c.r,((16*p:Nat):Int)⟩:=JC _ _;have hr1:0<c.r:=by rw[hck.r];exact Cj hck.z
    obtain⟨t,a,h1,h2⟩:=PO (QT (cpu:=cpu) hG hcg hxg) (Jc hcg hxg) (x:=⟨p,c.r,((16*p:Nat):Int)⟩) hxg hr1;refine⟨t,a,m+1,?_,h2,.inr ⟨rfl,hmj⟩⟩;unfold Sy.one Sy.choose;rw[g1];simp only[hown,qC,hgr];exact h1
def bt200:Bt:=⟨[⟨0,200⟩],[]⟩
def goH:Hp:=newH (iC bt200) 64 0 2
def aBN (h:Hp)(z:Nat):Sy:={dB h 6 with cs:=(dB h 6).cs++[⟨[[120,97]],z,fB z,dS z,[],List.replicate h.aC (-1)⟩]}
theorem PU (h:Hp)(z:Nat):(aBN h z).named [120,97]=some 6:=rfl
structure Go6 (t:Sy)(z:Nat)(l:List Int):Prop where
 ok:bK t
 ns:t.nss=(aBN goH z).nss
 cp:t.h.aC=2
 aw:∀b,t.away 6 b↔b∈l
 nd:l.Nodup
 wh:∀b,¬t.whole b
 ot:∀j,j≠6->∀c,t.cs[j]? =some c->c.sl=[]
theorem Go6.step {t:Sy}{z:Nat}{a:Int}{l:List Int}(h:Go6 t z (a::l)):∃c k x,t.cs[6]? =some c/\c.sl[k]? =some x/\lS t.w c x a/\0<=a/\Go6 (t.free 6 k a.toNat 0) z l:=by
 obtain⟨c,hc,x,hx,ho⟩:=(h.aw a).2 (by simp);obtain⟨k,hkl,e⟩:=List.mem_iff_getElem.1 hx;have hxk:c.sl[k]? =some x:=by rw[gJ hkl,e]
 have ha:0<=a:=by
  have:=(kG ho.1).1;omega
 have hat:((a.toNat:Nat):Int)=a:=Int.toNat_of_nonneg ha;have ho':lS t.w c x (a.toNat:Nat):=by rw[hat];exact ho
 have hcp:0<t.h.aC:=by rw[h.cp];decide
 obtain⟨g1,g2,g3,g4,_⟩:=h.ok.free hc hxk ho' hcp;refine⟨c,k,x,hc,hxk,ho,ha,g1,(WG).trans h.ns,by rw[g3];exact h.cp,fun b=> ?_,(List.nodup_cons.1 h.nd).2,fun b hb=>h.wh b ((g4 b).1 hb),fun j hj d hd=> ?_⟩
 ·rw[g2,h.aw,hat];constructor
  ·rintro⟨h1,h2⟩;rcases List.mem_cons.1 h1 with rfl | h1
   ·exact absurd ⟨rfl,rfl⟩ h2
   ·exact h1
  ·intro h1;refine⟨List.mem_cons_of_mem _ h1,fun h2=> ?_⟩;rw[h2.2]at h1;exact(List.nodup_cons.1 h.nd).1 h1
 ·rw[PN hj]at hd;exact h.ot j hj d hd
theorem Go6.at {t:Sy}{z:Nat}{l:List Int}(h:Go6 t z l):∃c,t.cs[6]? =some c/\c.ns=[[120,97]]/\t.cs.length=7/\t.named [120,97]=some 6:=by
 have h1:=h.ns;have h2:t.cs.length=7:=by
  have:=congrArg List.length h1;unfold Sy.nss at this;rw[List.length_map,List.length_map]at this;exact this
 have h3:t.cs[6]? =some (t.cs[6]'(by omega)):=gJ _;refine⟨_,h3,?_,h2,?_⟩
 ·have h4:=congrArg (·[6]?) h1;unfold Sy.nss at h4;simp only[List.getElem?_map,h3,Option.map_some]at h4;have h5:((aBN goH z).cs[6]?).map (·.ns)=some [[120,97]]:=rfl;rw[h5]at h4;exact gP h4
 ·rw[kJ,h1,<- kJ];exact PU goH z
end
section
def Sy.holds (s:Sy)(a:Int)(g:Option Nat)(m:Nat):Prop:=match g with
 | some i=>s.away i a/\∃c,s.cs[i]? =some c/\m=c.z
 | none=>∃b,s.whole b/\a=16*(b.a:Int)/\m=16*2^b.o
theorem o7 {s:Sy}{a:Int}{g:Option Nat}{m:Nat}(h:s.holds a g m):s.oZ a m:=by
 cases g with
 | some i=>
  obtain⟨h1,c,hc,rfl⟩:=h;obtain⟨k,hk⟩:=dL.1 h1;exact .inl ⟨i,k,c,hk,hc,Nat.le_refl _⟩
 | none=>
  obtain⟨b,h1,h2,rfl⟩:=h;exact .inr ⟨b,h1,h2,Nat.le_refl _⟩
theorem bK.holds_one {s:Sy}(hk:bK s){a:Int}{g g':Option Nat}{m m':Nat}(h:s.holds a g m)(h':s.holds a g' m'):g=g'/\m=m':=by
 cases g with
 | some i=>
  obtain⟨h1,c,hc,rfl⟩:=h;obtain⟨k,hk1⟩:=dL.1 h1;cases g' with
  | some j=>
   obtain⟨h2,d,hd,rfl⟩:=h';obtain⟨k',hk2⟩:=dL.1 h2;obtain⟨rfl,_⟩:=hk.sO hk1 hk2;rw[hc]at hd;rw[gP hd];exact⟨rfl,rfl⟩
  | none=>
   obtain⟨b,h2,rfl,_⟩:=h';exact absurd hk1 (hk.lK h2 i k)
 | none=>
  obtain⟨b,h1,rfl,rfl⟩:=h;cases g' with
  | some j=>
   obtain⟨h2,_⟩:=h';obtain⟨k',hk2⟩:=dL.1 h2;exact absurd hk2 (hk.lK h1 j k')
  | none=>
   obtain⟨b',h2,e,rfl⟩:=h';have:=hk.DZ h1.1 h2.1 (by omega);rw[this];exact⟨rfl,rfl⟩
theorem bK.vM {s:Sy}(hk:bK s){a b:Int}{g g':Option Nat}{m m':Nat}(h:s.holds a g m)(h':s.holds b g' m')(hne:a≠b):a+m<=b∨b+m'<=a:=hk.Jb (o7 h) (o7 h') hne
theorem bK.kL {s:Sy}(hk:bK s){a:Int}{g:Option Nat}{m:Nat}(h:s.holds a g m):1<=m/\0<=a/\a+m<=4096:=by
 obtain⟨h1,h2⟩:=hk.MP (o7 h);refine⟨?_,h1,h2⟩;cases g with
 | some i=>
  obtain⟨_,c,hc,rfl⟩:=h;exact(hk.ck c (gM hc)).z.1
 | none=>
  obtain⟨b,_,_,rfl⟩:=h;have:=Nat.two_pow_pos b.o;omega
theorem bK.MV {s:Sy}(hk:bK s){a:Int}{g:Option Nat}{m:Nat}(h:s.holds a g m){q:Nat}(h1:a<=q)(h2:(q:Int)<a+m):s.lw q:=by
 obtain⟨b,hb,h3,h4⟩:=hk.Ah (o7 h);refine⟨b,hb,?_,?_⟩
 ·omega
 ·generalize 2^b.o=r at*;omega
structure Step (s t:Sy)(add:List (Int×Option Nat×Nat))(del:Option Int):Prop where
 ok:bK t
 cp:t.h.aC=s.h.aC
 sg:t.sig=s.sig
 hd:∀a g m,t.holds a g m↔(s.holds a g m/\del≠some a)∨(a,g,m)∈add
 nw:∀x∈add,∀g m,¬s.holds x.1 g m
 wd:∀(q:Nat) a g m,s.holds a g m->del≠some a->a<=q->(q:Int)<a+m->t.w.getD q 0=s.w.getD q 0
theorem rH {s t:Sy}(hs:t.sig=s.sig){i:Nat}{a:Int}{m:Nat}(h:s.holds a (some i) m)(ha:t.away i a):t.holds a (some i) m:=by
 obtain⟨_,c,hc,rfl⟩:=h;have h1:=qK hc;rw[<- hs]at h1;obtain⟨d,hd,_,e⟩:=qL h1;exact⟨ha,d,hd,e.symm⟩
theorem xM {s t:Sy}(hs:t.sig=s.sig){i:Nat}{a:Int}{m:Nat}(h:t.holds a (some i) m)(ha:s.away i a):s.holds a (some i) m:=rH hs.symm h ha
theorem Step.refl {s:Sy}(hk:bK s):Step s s [] none:=⟨hk,rfl,rfl,fun a g m=>by simp,fun x hx=>by simp at hx,fun _ _ _ _ _ _ _ _=>rfl⟩
theorem bK.BL {s t:Sy}(hk:bK s){i cpu:Nat}{c:Ca}{a:Int}(hc:s.cs[i]? =some c)(bJ:cpu<s.h.aC)(h:s.one i cpu=some (t,a)):Step s t [(a,some i,c.z)] none:=by
 obtain⟨g1,g2,_⟩:=hk.one hc bJ h;obtain⟨g3,g4⟩:=hk.Cm hc bJ h;obtain⟨g5,g6⟩:=hk.TA hc bJ h;have hsg:=Hu h;have hnew:t.holds a (some i) c.z:=by
  have h1:=qK hc;rw[<- hsg]at h1;obtain⟨d,hd,_,e⟩:=qL h1;exact⟨(g4 i a).2 (.inr ⟨rfl,rfl⟩),d,hd,e.symm⟩
 refine⟨g1,g2,hsg,fun b g m=> ?_,fun x hx g m hh=> ?_,fun q b g m hh _ h1 h2=>g6 q (hk.MV hh h1 h2)⟩
 ·simp only[List.mem_singleton,Prod.mk.injEq];cases g with
  | none=>
   constructor
   ·rintro⟨b',h1,h2⟩;exact .inl ⟨⟨b',(g5 b').1 h1,h2⟩,by simp⟩
   ·rintro(⟨⟨b',h1,h2⟩,_⟩ | ⟨_,h,_⟩)
    ·exact⟨b',(g5 b').2 h1,h2⟩
    ·cases h
  | some j=>
   constructor
   ·intro hh;rcases(g4 j b).1 hh.1 with h1 | ⟨rfl,rfl⟩
    ·exact .inl ⟨xM hsg hh h1,by simp⟩
    ·exact .inr ⟨rfl,rfl,(g1.holds_one hh hnew).2⟩
   ·rintro(⟨hh,_⟩ | ⟨rfl,h2,rfl⟩)
    ·exact rH hsg hh ((g4 j b).2 (.inl hh.1))
    ·rw[h2];exact hnew
 ·obtain rfl:=List.mem_singleton.1 hx;have hp:=g1.kL hnew;cases g with
  | some j=>
   have h1:t.holds a (some j) m:=rH hsg hh ((g4 j a).2 (.inl hh.1));obtain⟨h2,_⟩:=g1.holds_one h1 hnew;obtain rfl:=gP h2;exact g3 hh.1
  | none=>
   obtain⟨b',h1,h2,_⟩:=hh;obtain⟨k,hk2⟩:=dL.1 hnew.1;rw[show a=16*(b'.a:Int)from h2]at hk2;exact g1.lK ((g5 b').2 h1) i k hk2
theorem bK.MW {s:Sy}(hk:bK s){i k a cpu:Nat}{c:Ca}{x:Sl}(hi:s.cs[i]? =some c)(hx:c.sl[k]? =some x)(ho:lS s.w c x a)(bJ:cpu<s.h.aC):Step s (s.free i k a cpu) [] (some (a:Int)):=by
 obtain⟨g1,g2,g3,g4,g5⟩:=hk.free hi hx ho bJ;have hsg:(s.free i k a cpu).sig=s.sig:=Lr;have hat:s.fV i k a:=⟨c,x,hi,hx,ho⟩
 refine⟨g1,g3,hsg,fun b g m=> ?_,fun x hx=>by simp at hx,fun q b g m hh hne h1 h2=>g5 q fun e=> ?_⟩
 ·simp only[List.not_mem_nil,or_false];cases g with
  | none=>
   constructor
   ·rintro⟨b',h1,h2,h3⟩;refine⟨⟨b',(g4 b').1 h1,h2,h3⟩,fun e=> ?_⟩;have e':=gP e;rw[<- e']at h2;rw[h2]at hat
    exact hk.lK ((g4 b').1 h1) i k hat
   ·rintro⟨⟨b',h1,h2⟩,_⟩;exact⟨b',(g4 b').2 h1,h2⟩
  | some j=>
   constructor
   ·intro hh;obtain⟨h1,h2⟩:=(g2 j b).1 hh.1;refine⟨xM hsg hh h1,fun e=> ?_⟩;have e':=gP e;rw[<- e']at h1;obtain⟨k',hk'⟩:=dL.1 h1;obtain⟨rfl,_⟩:=hk.sO hat hk';exact h2 ⟨rfl,e'.symm⟩
   ·rintro⟨hh,hne⟩;exact rH hsg hh ((g2 j b).2 ⟨hh.1,fun e=>hne (by rw[e.2])⟩)
 ·subst e;have hha:s.holds (q:Int) (some i) c.z:=⟨dL.2 ⟨k,hat⟩,c,hi,rfl⟩
  rcases hk.vM hh hha (fun e=>hne (by rw[e]))with h3 | h3
  ·omega
  ·have:=(hk.kL hha).1;omega
theorem bK.Gt {s:Sy}(hk:bK s){h':Hp}{cpu order t a:Nat}{u lo:Bool}(bJ:cpu<s.h.aC)(ho:order<=4)(ht:t<3)(he:s.h.alloc cpu order t u lo=some (h',a)):Step s {s with h:=h'} [(16*(a:Int),none,16*2^order)] none:=by
 obtain⟨g1,g2,g3,g4,g5⟩:=hk.Xe bJ ho ht he;refine⟨g1,g2,rfl,fun b g m=> ?_,fun x hx g m hh=> ?_,fun _ _ _ _ _ _ _ _=>rfl⟩
 ·simp only[List.mem_singleton,Prod.mk.injEq];cases g with
  | some j=>
   constructor
   ·exact fun hh=> .inl ⟨hh,by simp⟩
   ·rintro(⟨hh,_⟩ | ⟨_,h,_⟩)
    ·exact hh
    ·cases h
  | none=>
   constructor
   ·rintro⟨b',h1,h2,h3⟩;rcases(g3 b').1 h1 with rfl | h1
    ·exact .inr ⟨h2,rfl,h3⟩
    ·exact .inl ⟨⟨b',h1,h2,h3⟩,by simp⟩
   ·rintro(⟨⟨b',h1,h2⟩,_⟩ | ⟨h2,_,h3⟩)
    ·exact⟨b',(g3 b').2 (.inr h1),h2⟩
    ·exact⟨_,(g3 _).2 (.inl rfl),h2,h3⟩
 ·obtain rfl:=List.mem_singleton.1 hx;obtain⟨b,hb,h1,h2⟩:=hk.Ah (o7 hh);have hp:=(hk.kL hh).1;have h3:=g4 b hb;unfold apartB Bk.fin at h3;have h4:=Nat.two_pow_pos order;simp only at h1 h2;generalize 2^order=r1 at*;generalize 2^b.o=r2 at*;omega
theorem bK.Gu {s:Sy}(hk:bK s){cpu:Nat}{b:Bk}(bJ:cpu<s.h.aC)(hb:s.whole b):Step s (s.jS cpu b) [] (some (16*(b.a:Int))):=by
 obtain⟨g1,g2,g3,_⟩:=hk.jS bJ hb;refine⟨g1,g2,rfl,fun c g m=> ?_,fun x hx=>by simp at hx,fun _ _ _ _ _ _ _ _=>rfl⟩;simp only[List.not_mem_nil,or_false];cases g with
 | some j=>
  constructor
  ·intro hh;refine⟨hh,fun e=> ?_⟩;have e':=gP e;obtain⟨k,hk'⟩:=dL.1 hh.1;have h5:s.fV j k c:=hk';rw[<- e']at h5;exact hk.lK hb j k h5
  ·exact fun h=>h.1
 | none=>
  constructor
  ·rintro⟨b',h1,h2,h3⟩;obtain⟨h4,h5⟩:=(g3 b').1 h1;refine⟨⟨b',h4,h2,h3⟩,fun e=>h5 (hk.DZ h4.1 hb.1 ?_)⟩;have e':=gP e;omega
  ·rintro⟨⟨b',h1,h2,h3⟩,hne⟩;exact⟨b',(g3 b').2 ⟨h1,fun e=>hne (by rw[h2,e])⟩,h2,h3⟩
theorem Gv {s t:Sy}(hk:bK t)(hc:t.h.aC=s.h.aC)(hs:t.sig=s.sig)(ha:∀j b,t.away j b↔s.away j b)(hw:∀b,t.whole b↔s.whole b)(hwd:∀(q:Nat),s.lw q->t.w.getD q 0=s.w.getD q 0)(hk0:bK s):Step s t [] none:=by
 refine⟨hk,hc,hs,fun b g m=> ?_,fun x hx=>by simp at hx,fun q b g m hh _ h1 h2=>hwd q (hk0.MV hh h1 h2)⟩;simp only[List.not_mem_nil,or_false];cases g with
 | some j=>
  constructor
  ·exact fun hh=>⟨xM hs hh ((ha j b).1 hh.1),by simp⟩
  ·exact fun hh=>rH hs hh.1 ((ha j b).2 hh.1.1)
 | none=>
  constructor
  ·rintro⟨b',h1,h2⟩;exact⟨⟨b',(hw b').1 h1,h2⟩,by simp⟩
  ·rintro⟨⟨b',h1,h2⟩,_⟩;exact⟨b',(hw b').2 h1,h2⟩
theorem bK.Ai {s:Sy}(hk:bK s):Step s {s with h:=s.h.drain} [] none:=by
 obtain⟨h1,h2,h3,h4,h5⟩:=hk.hk.drain;refine Gv (hk.setH h1 h3.aC fun b hb _=>by rw[h5];exact hb) h3.aC rfl (fun _ _=>Iff.rfl) (fun b=> ?_) (fun _ _=>rfl) hk;rw[cO,cO];show b∈s.h.drain.live/\_↔_;rw[h5];exact Iff.rfl
theorem bK.Gw {s:Sy}(hk:bK s){a:Int}{m:Nat}(h:s.oZ a m){w':List Int}(hl:w'.length=s.w.length)(hw:∀q:Nat,(q:Int)<a∨a+m<=q->w'.getD q 0=s.w.getD q 0):
 bK {s with w:=w'}/\∀b g n,({s with w:=w'}:Sy).holds b g n↔s.holds b g n:=by
 obtain⟨g1,g2,g3⟩:=hk.write h hl hw;refine⟨g1,fun b g n=> ?_⟩;cases g with
 | some j=>
  have h1:({s with w:=w'}:Sy).away j b↔s.away j b:=by
   rw[dL,dL];exact⟨fun⟨k,h⟩=>⟨k,(g2 j k b).1 h⟩,fun⟨k,h⟩=>⟨k,(g2 j k b).2 h⟩⟩
  show _/\_↔_/\_;rw[h1]
 | none=>exact Iff.rfl
end
section
theorem Step.snoc {s u t:Sy}{A B:List (Int×Option Nat×Nat)}(h1:Step s u A none)(h2:Step u t B none):Step s t (A++B) none:=by
 have hsu:∀a g m,s.holds a g m->u.holds a g m:=fun a g m h=>(h1.hd a g m).2 (.inl ⟨h,by simp⟩)
 refine⟨h2.ok,h2.cp.trans h1.cp,h2.sg.trans h1.sg,fun a g m=> ?_,fun x hx g m h=> ?_,fun q a g m h _ e1 e2=> ?_⟩
 ·rw[h2.hd,h1.hd,List.mem_append];constructor
  ·rintro(⟨h | h,_⟩ | h)
   ·exact .inl h
   ·exact .inr (.inl h)
   ·exact .inr (.inr h)
  ·rintro(h | h | h)
   ·exact .inl ⟨.inl h,by simp⟩
   ·exact .inl ⟨.inr h,by simp⟩
   ·exact .inr h
 ·rcases List.mem_append.1 hx with h' | h'
  ·exact h1.nw x h' g m h
  ·exact h2.nw x h' g m (hsu _ _ _ h)
 ·rw[h2.wd q a g m (hsu a g m h) (by simp) e1 e2];exact h1.wd q a g m h (by simp) e1 e2
theorem bK.Nb {s:Sy}(hk:bK s){i cpu:Nat}{c:Ca}(hc:s.cs[i]? =some c)(bJ:cpu<s.h.aC):∀{n:Nat} {t:Sy} {l:List Int},s.bulk i cpu n=some (t,l)->Step s t (l.map fun a=>(a,some i,c.z)) none
 | 0,t,l,h=>by
  have h1:=gP h;rw[Prod.mk.injEq]at h1;obtain⟨rfl,rfl⟩:=h1;exact Step.refl hk
 | n+1,t,l,h=>by
  unfold Sy.bulk at h;cases hb:s.bulk i cpu n with
  | none=>rw[hb]at h;cases h
  | some r=>
   obtain⟨u,m⟩:=r;rw[hb]at h;simp only at h;have ih:=hk.Nb hc bJ hb;cases ho:u.one i cpu with
   | none=>rw[ho]at h;cases h
   | some q=>
    obtain⟨t',a⟩:=q;rw[ho]at h;have h8:=gP h;rw[Prod.mk.injEq]at h8;obtain⟨rfl,rfl⟩:=h8;have h1:=qK hc;rw[<- ih.sg]at h1;obtain⟨d,hd,_,e⟩:=qL h1;have h2:=ih.ok.BL hd (by rw[ih.cp];exact bJ) ho;rw[e]at h2;rw[List.map_append];exact ih.snoc h2
theorem TT {s:Sy}{i m:Nat}:(s.jR i m).sig=s.sig:=by
 unfold Sy.jR;cases hc:s.cs[i]? with
 | none=>rfl
 | some c=>exact jL hc rfl
theorem TU {s:Sy}{i k:Nat}:(s.nR i k).sig=s.sig:=by
 unfold Sy.nR;cases hc:s.cs[i]? with
 | none=>rfl
 | some c=>
  simp only;cases hx:c.sl[k]? with
  | none=>rfl
  | some x=>
   simp only;split
   ·exact uZ
   ·rfl
theorem QU {i:Nat}:∀{m:Nat} {s:Sy},(s.shr i m).sig=s.sig
 | 0,_=>rfl
 | m+1,s=>(QU (m:=m)).trans TU
theorem PV {s:Sy}{i:Nat}:(s.shrink i).sig=s.sig:=by
 unfold Sy.shrink;cases hc:s.cs[i]? with
 | none=>rfl
 | some c=>exact QU.trans TT
theorem bK.PW {s:Sy}(hk:bK s){i:Nat}(hi:i<s.cs.length):Step s (s.shrink i) [] none:=by
 obtain⟨h1,h2,h3,_⟩:=hk.shrink hi;obtain⟨h4,h5⟩:=hk.IG hi;exact Gv h1 h3 PV h2 h4 (fun _ _=>by rw[h5]) hk
theorem kF {s:Sy}{a:Int}{m:Nat}(h:s.dV a=some m):∃g,s.holds a g m/\∀i c,g=some i->s.cs[i]? =some c->lY c.ns=true:=by
 unfold Sy.dV at h;cases hm:s.eU a with
 | some p=>
  obtain⟨i,k,c⟩:=p;rw[hm]at h;obtain rfl:=gP h;obtain⟨h1,h2,h3⟩:=Bv hm;refine⟨some i,⟨dL.2 ⟨k,rG h1⟩,c,h2,rfl⟩,fun j d e hd=> ?_⟩;obtain rfl:=gP e;rw[h2]at hd;rw[<- gP hd];exact h3
 | none=>
  rw[hm]at h;simp only at h;cases hw:s.kE a with
  | none=>rw[hw]at h;cases h
  | some b=>
   rw[hw]at h;obtain rfl:=gP h;obtain⟨h1,h2⟩:=nD hw;exact⟨none,⟨b,h1,h2,rfl⟩,fun i c e=>by cases e⟩
theorem bK.yU {s:Sy}(hk:bK s){a:Int}{g:Option Nat}{m:Nat}(h:s.holds a g m)(hm:∀i c,g=some i->s.cs[i]? =some c->lY c.ns=true):s.dV a=some m:=by
 cases g with
 | some i=>
  obtain⟨h1,c,hc,rfl⟩:=h;obtain⟨k,hk1⟩:=dL.1 h1;have h2:s.eU a=some (i,k,c):=by
   unfold Sy.eU;rw[hk.xJ hk1];simp only[hc];rw[if_pos (hm i c rfl hc)]
  unfold Sy.dV;rw[h2]
 | none=>
  obtain⟨b,h1,rfl,rfl⟩:=h;have h2:s.eU (16*(b.a:Int))=none:=by
   unfold Sy.eU;rw[xK (hk.lK h1)]
  unfold Sy.dV;rw[h2];simp only[hk.Bo h1];rfl
theorem bK.PX {s:Sy}(hk:bK s){a:Int}(h:∀g m,s.holds a g m->∃i c,g=some i/\s.cs[i]? =some c/\lY c.ns=false):s.dV a=none:=by
 cases hz:s.dV a with
 | none=>rfl
 | some m=>
  exfalso;obtain⟨g,h1,h2⟩:=kF hz;obtain⟨i,c,e,hc,hf⟩:=h g m h1;rw[h2 i c e hc]at hf;cases hf
theorem bK.Gy {s:Sy}(hk:bK s){cpu:Nat}{a:Int}{m:Nat}(bJ:cpu<s.h.aC)(h:s.dV a=some m):∃u,s.nO cpu a=some u/\Step s u [] (some a):=by
 unfold Sy.dV at h;unfold Sy.nO;cases hm:s.eU a with
 | some p=>
  obtain⟨i,k,c⟩:=p;obtain⟨h1,h2,h3⟩:=Bv hm;obtain⟨c',x,q1,q2,q3⟩:=rG h1;rw[h2]at q1;obtain rfl:=gP q1;have ha:((a.toNat:Nat):Int)=a:=Int.toNat_of_nonneg (by have:=(kG q3.1).1;omega);have h5:=hk.MW (k:=k) (a:=a.toNat) (cpu:=cpu) h2 q2 (by rw[ha];exact q3) bJ;rw[ha]at h5;exact⟨_,rfl,h5⟩
 | none=>
  rw[hm]at h;simp only at h;cases hw:s.kE a with
  | none=>rw[hw]at h;cases h
  | some b=>
   obtain⟨h1,h2⟩:=nD hw;refine⟨s.jS cpu b,rfl,?_⟩;rw[h2];exact hk.Gu bJ h1
theorem PY {s:Sy}{cpu:Nat}{a:Int}(h:s.dV a=none):s.nO cpu a=none:=by
 unfold Sy.dV at h;unfold Sy.nO;cases hm:s.eU a with
 | some p=>rw[hm]at h;cases h
 | none=>
  rw[hm]at h;simp only at h;cases hw:s.kE a with
  | none=>rfl
  | some b=>rw[hw]at h;cases h
theorem Ag.Jd {s t:Sy}(h:Ag s)(hs:t.sig=s.sig):Ag t:=fun j hj=>by
 obtain⟨i,c,h1,h2,h3,h4⟩:=h j hj;have h5:=qK h1;rw[<- hs]at h5;obtain⟨d,hd,e1,e2⟩:=qL h5;exact⟨i,d,hd,by rw[kJ,kY hs,<- kJ];exact h2,by rw[e1];exact h3,by rw[e2];exact h4⟩
theorem bK.xO {s t:Sy}(hk:bK s)(hs:Ag s){cpu n:Nat}{a:Int}(bJ:cpu<s.h.aC)(h1:1<=n)(h2:n<=256)(h:s.fE cpu n=some (t,a)):∃g m,Step s t [(a,g,m)] none/\n<=m/\t.dV a=some m:=by
 obtain⟨g1,_,_,_,_,m,q1,q2,_⟩:=hk.fE hs bJ h1 h2 h;obtain⟨g,q3,_⟩:=kF q1;have key:∀g' m',Step s t [(a,g',m')] none->∃g m,Step s t [(a,g,m)] none/\n<=m/\t.dV a=some m:=fun g' m' hst=>by
  have h5:=(hst.hd a g' m').2 (.inr (by simp));obtain⟨e1,e2⟩:=g1.holds_one h5 q3;subst e1 e2;exact⟨g',m',hst,q2,q1⟩
 unfold Sy.fE at h;split at h
 ·rename_i hn;obtain⟨i,c,hc,hnm,_⟩:=hs _ (mY h1 hn).1;rw[hnm]at h;exact key _ _ (hk.BL hc bJ h)
 ·rename_i hn;obtain⟨_,o2,_⟩:=xG (show 33<=n by omega) h2;unfold Sy.TR at h;cases hal:s.h.alloc cpu (mJ n) 0 false false with
  | none=>rw[hal]at h;cases h
  | some r=>
   obtain⟨h',p⟩:=r;rw[hal]at h;have h3:=gP h;rw[Prod.mk.injEq]at h3;obtain⟨rfl,rfl⟩:=h3;exact key _ _ (hk.Gt bJ o2 (by decide) hal)
def Sy.moved (t:Sy)(p q n:Nat):Sy:={t with w:=vN t.w p q n}
theorem TV {xs:List Int}{p q n:Nat}(h1:p+n<=xs.length)(h2:q+n<=xs.length):(vN xs p q n).length=xs.length:=by
 unfold vN;simp only[List.length_append,List.length_take,List.length_drop];omega
theorem TW {xs:List Int}{p q n:Nat}(h1:p+n<=xs.length)(h2:q+n<=xs.length)(j:Nat):(vN xs p q n).getD j 0=if p<=j/\j<p+n then xs.getD (q+(j-p)) 0 else xs.getD j 0:=by
 unfold vN;rw[List.getD_eq_getElem?_getD,List.getD_eq_getElem?_getD,List.getD_eq_getElem?_getD];by_cases hj1:j<p
 ·rw[if_neg (by omega),List.append_assoc,List.getElem?_append_left (by rw[List.length_take];omega),List.getElem?_take_of_lt hj1]
 ·rw[List.append_assoc,List.getElem?_append_right (by rw[List.length_take];omega),List.length_take,Nat.min_eq_left (by omega)];by_cases hj2:j<p+n
  ·rw[if_pos ⟨by omega,hj2⟩,List.getElem?_append_left (by rw[List.length_take,List.length_drop];omega),List.getElem?_take_of_lt (by omega),List.getElem?_drop]
  ·rw[if_neg (by omega),List.getElem?_append_right (by rw[List.length_take,List.length_drop];omega),List.getElem?_drop,List.length_take,List.length_drop];congr 2;omega
noncomputable def Sy.fF (s:Sy)(cpu:Nat)(a:Int)(n:Nat):Nat ⊕ (Sy×Int):=match s.dV a with
 | none=> .inl 4
 | some z=>if n<=z then .inr (s,a)else match s.fE cpu n with
  | none=> .inl 6
  | some (t,b)=>match (t.moved b.toNat a.toNat z).nO cpu a with
   | none=> .inl 4
   | some u=> .inr (u,b)
structure Moved (s:Sy)(cpu:Nat)(a:Int)(z:Nat)(t:Sy)(b:Int):Prop where
 ok:bK (t.moved b.toNat a.toNat z)
 a0:0<=a/\a+z<=4096
 b0:0<=b/\b+z<=4096
 ne:a≠b
 sg:t.sig=s.sig
 cp:t.h.aC=s.h.aC
 sz:(t.moved b.toNat a.toNat z).dV a=some z
 wl:t.w.length=4096
theorem bK.moved {s t:Sy}(hk:bK s)(hs:Ag s){cpu n z:Nat}{a b:Int}(bJ:cpu<s.h.aC)(h1:1<=n)(h2:n<=256)(hz:s.dV a=some z)(hn:z<n)(h:s.fE cpu n=some (t,b)):
 Moved s cpu a z t b/\∃u g m,(t.moved b.toNat a.toNat z).nO cpu a=some u/\n<=m/\Step s u [(b,g,m)] (some a)/\(∀j:Nat,j<z->u.w.getD (b.toNat+j) 0=s.w.getD (a.toNat+j) 0)/\u.dV b=some m:=by
 obtain⟨g,m,st,hnm,hbz⟩:=hk.xO hs bJ h1 h2 h;obtain⟨ga,ha,hma⟩:=kF hz;have hb:t.holds b g m:=(st.hd b g m).2 (.inr (by simp));have ha':t.holds a ga z:=(st.hd a ga z).2 (.inl ⟨ha,by simp⟩);have hne:a≠b:=fun e=>by
  subst e;exact st.nw _ (List.mem_singleton.2 rfl) ga z ha
 have pa:=st.ok.kL ha';have pb:=st.ok.kL hb;have hwl:=st.ok.wl;have e1:((a.toNat:Nat):Int)=a:=Int.toNat_of_nonneg pa.2.1;have e2:((b.toNat:Nat):Int)=b:=Int.toNat_of_nonneg pb.2.1;have hml:(vN t.w b.toNat a.toNat z).length=t.w.length:=TV (by omega) (by omega);have hget:=fun j=>TW (xs:=t.w) (p:=b.toNat) (q:=a.toNat) (n:=z) (by omega) (by omega) j
 have hin:t.oZ b m:=o7 hb;obtain⟨w1,w2⟩:=st.ok.Gw hin hml fun q hq=>by
  rw[hget,if_neg (by omega)]
 have aLi:(t.moved b.toNat a.toNat z).sig=t.sig:=rfl;have hzm:(t.moved b.toNat a.toNat z).dV a=some z:=by
  refine bK.yU w1 ((w2 a ga z).2 ha') fun i c e hc=> ?_
  have h5:s.sig[i]? =some (c.ns,c.z):=by
   have h7:=qK hc;have h8:t.sig[i]? =some (c.ns,c.z):=h7;rw[st.sg]at h8;exact h8
  obtain⟨d,hd,q1,_⟩:=qL h5;have q2:d.ns=c.ns:=q1;rw[<- q2];exact hma i d e hd
 refine⟨⟨w1,⟨pa.2.1,pa.2.2⟩,⟨pb.2.1,by omega⟩,hne,st.sg,st.cp,hzm,hwl⟩,?_⟩;have aHp:cpu<(t.moved b.toNat a.toNat z).h.aC:=by show cpu<t.h.aC;rw[st.cp];exact bJ
 obtain⟨u,hu,su⟩:=bK.Gy w1 aHp hzm;have hub:u.holds b g m:=(su.hd b g m).2 (.inl ⟨(w2 b g m).2 hb,fun e=>hne (gP e)⟩);refine⟨u,g,m,hu,hnm,⟨su.ok,su.cp.trans st.cp,su.sg.trans st.sg,fun c g' m'=> ?_,fun x hx g' m' hh=>st.nw x hx g' m' hh,fun q c g' m' hh hde f1 f2=> ?_⟩,fun j hj=> ?_,?_⟩
 ·rw[su.hd,w2,st.hd];simp only[List.mem_singleton,List.not_mem_nil,or_false];constructor
  ·rintro⟨⟨h5,_⟩ | h5,h6⟩
   ·exact .inl ⟨h5,h6⟩
   ·exact .inr h5
  ·rintro(⟨h5,h6⟩ | h5)
   ·exact⟨.inl ⟨h5,by simp⟩,h6⟩
   ·refine⟨.inr h5,fun e=> ?_⟩;rw[Prod.mk.injEq]at h5;exact hne ((gP e).trans h5.1)
 ·have hc':t.holds c g' m':=(st.hd c g' m').2 (.inl ⟨hh,by simp⟩);have hcb:c≠b:=fun e=>st.nw _ (List.mem_singleton.2 rfl) g' m' (e▸hh)
  have h5:=st.ok.vM hc' hb hcb;rw[su.wd q c g' m' ((w2 c g' m').2 hc') hde f1 f2];show(vN t.w b.toNat a.toNat z).getD q 0=_;rw[hget,if_neg (by omega)];exact st.wd q c g' m' hh (by simp) f1 f2
 ·rw[su.wd (b.toNat+j) b g m ((w2 b g m).2 hb) (fun e=>hne (gP e)) (by omega) (by omega)];show(vN t.w b.toNat a.toNat z).getD (b.toNat+j) 0=_;rw[hget,if_pos (by omega),Nat.add_sub_cancel_left];exact st.wd (a.toNat+j) a ga z ha (by simp) (by omega) (by omega)
 ·obtain⟨g9,q9,r9⟩:=kF hbz;obtain⟨rfl,_⟩:=st.ok.holds_one hb q9;refine su.ok.yU hub fun i c e hc=> ?_
  have h5:=qK hc;rw[su.sg]at h5;have h8:t.sig[i]? =some (c.ns,c.z):=h5;obtain⟨d,hd,q1,_⟩:=qL h8;have q2:d.ns=c.ns:=q1;rw[<- q2];exact r9 i d e hd
end
section
theorem bK.aEw {s:Sy}(hk:bK s){i:Nat}{c:Ca}(hi:s.cs[i]? =some c){ns:List (List UInt8)}(hs:ns.Sublist c.ns)(hne:ns≠[]):
 bK (s.fH i {c with ns:=ns})/\(∀j b,(s.fH i {c with ns:=ns}).away j b↔s.away j b)/\(s.fH i {c with ns:=ns}).nss=s.nss.set i ns/\(∀b,(s.fH i {c with ns:=ns}).whole b↔s.whole b):=by
 obtain⟨hil,hic⟩:=List.getElem?_eq_some_iff.1 hi;have hcm:=gM hi;have hck:=hk.ck c hcm;have hmv:∀d∈s.cs,o8 (s.fH i {c with ns:=ns}) d:=fun d hd=>(hk.ck d hd).move rfl fun x hx=>⟨((hk.ck d hd).sk x hx).live,((hk.ck d hd).sk x hx).chain⟩
 refine⟨⟨hk.wl,hk.hk,by show(s.cs.set i _).length<=20;rw[List.length_set];exact hk.cl,fun d hd=> ?_,zL hk.zd (fun j hj hji=> ?_) (fun j hj hij=> ?_),zL hk.nd (fun j hj hji m hm hm2=> ?_) (fun j hj hij m hm=> ?_),zL hk.pd (fun j hj hji=> ?_) (fun j hj hij=> ?_)⟩,fun j b=> ?_,?_,fun b=> ?_⟩
 ·rcases List.mem_or_eq_of_mem_set hd with h1 | rfl
  ·exact hmv d h1
  ·exact⟨hck.z,hck.o,hck.r,hne,fun m hm=>hck.nm m (hs.subset hm),hck.nr.sublist hs,hck.ac,hck.sr,fun x hx=>⟨(hck.sk x hx).live,(hck.sk x hx).chain⟩,hck.aw,hck.ad⟩
 ·have:=List.pairwise_iff_getElem.1 hk.zd j i hj hil hji;rw[hic]at this;exact this
 ·have:=List.pairwise_iff_getElem.1 hk.zd i j hil hj hij;rw[hic]at this;exact this
 ·have:=List.pairwise_iff_getElem.1 hk.nd j i hj hil hji m hm;rw[hic]at this;exact this (hs.subset hm2)
 ·have:=List.pairwise_iff_getElem.1 hk.nd i j hil hj hij m;rw[hic]at this;exact this (hs.subset hm)
 ·have:=List.pairwise_iff_getElem.1 hk.pd j i hj hil hji;rw[hic]at this;exact this
 ·have:=List.pairwise_iff_getElem.1 hk.pd i j hil hj hij;rw[hic]at this;exact this
 ·have hst:=oM (s':=s.fH i {c with ns:=ns}) (c':={c with ns:=ns}) hi rfl b;by_cases hj:j=i
  ·subst hj;rw[hst.1,nH hi];exact Iff.rfl
  ·rw[hst.2 j hj];exact Iff.rfl
 ·show(s.cs.set i _).map (·.ns)=(s.cs.map (·.ns)).set i ns;rw[List.map_set]
 ·rw[cO,cO];have h1:=vC (s':=s.fH i {c with ns:=ns}) hi rfl (fun _=>Iff.rfl) b.a;rw[h1];exact Iff.rfl
structure Mg (h:Hp)(z:Nat)(s1 s2:Sy)(i:Nat)(ns ns':List (List UInt8)):Prop where
 n0:(dB h 6).named [120,97]=none
 c1:(dB h 6).create [120,97] z=some s1
 n1:s1.named [120,98]=none
 c2:s1.create [120,98] z=some s2
 l1:s1.cs.length=6∨s1.cs.length=7
 l2:s2.cs.length=s1.cs.length
 k1:bK s1
 k2:bK s2
 f1:∀c∈s1.cs,c.ns.length<=999
 f2:∀c∈s2.cs,c.ns.length<=999
 hh:s2.h=h
 i2:s2.nss[i]? =some ns
 na:s2.nss.findIdx? (fun l=>l.contains [120,97])=some i
 nb:s2.nss.findIdx? (fun l=>l.contains [120,98])=some i
 er:ns.eraseIdx (AB ns [120,97])=ns'
 ln:1<ns.length
 nb':(s2.nss.set i ns').findIdx? (fun l=>l.contains [120,98])=some i
 alw:1<ns'.length↔z∈[1,2,4,8,16,32]
 ne:ns'≠[]
theorem Nj {s:Sy}{N:Nat}(h:s.nss.all (fun l=>decide (l.length<=N))=true):∀c∈s.cs,c.ns.length<=N:=fun c hc=>by
 rw[List.all_eq_true]at h;exact of_decide_eq_true (h c.ns (List.mem_map_of_mem hc))
theorem Mg.take {h:Hp}{z i:Nat}{s1 s2 t:Sy}{ns ns':List (List UInt8)}(m:Mg h z s1 s2 i ns ns'){a:Int}(ho:s2.one i 0=some (t,a)):
 bK t/\(∀c∈t.cs,c.ns.length<=999)/\t.named [120,97]=some i/\t.named [120,98]=some i/\t.h.aC=h.aC/\
 (∃(c:Ca) (k:Nat) (x:Sl),t.cs[i]? =some c/\c.sl[k]? =some x/\lS t.w c x a/\0<=a)/\
 ∃t1,t.destroy i [120,97]=some t1/\bK t1/\(∀c∈t1.cs,c.ns.length<=999)/\t1.named [120,98]=some i/\
  ((t1.destroy i [120,98]=none/\z∉[1,2,4,8,16,32])∨(z∈[1,2,4,8,16,32]/\∃t2,t1.destroy i [120,98]=some t2)):=by
 have bJ:0<s2.h.aC:=by rw[m.hh];have:=m.k2.hk.cp.1;rw[m.hh]at this;exact this
 have hi2:∃c,s2.cs[i]? =some c:=by
  have h1:=m.i2;unfold Sy.nss at h1;rw[List.getElem?_map]at h1;cases e:s2.cs[i]? with
  | none=>rw[e]at h1;cases h1
  | some c=>exact⟨c,rfl⟩
 obtain⟨c2,hc2⟩:=hi2;obtain⟨g1,g2,g3,c,hc⟩:=m.k2.one hc2 bJ ho;obtain⟨g5,g6⟩:=m.k2.Cm hc2 bJ ho;have hn:=Qo ho;have hcn:c.ns=ns:=by
  have h1:=congrArg (·[i]?) hn;simp only[m.i2]at h1;unfold Sy.nss at h1;rw[List.getElem?_map,hc]at h1;exact gP h1
 have haw:t.away i a:=(g6 i a).2 (.inr ⟨rfl,rfl⟩);have hsub:ns'.Sublist c.ns:=by rw[hcn,<- m.er];exact List.eraseIdx_sublist _ _
 obtain⟨q1,q2,q3,_⟩:=g1.aEw hc hsub m.ne;have hil:=(List.getElem?_eq_some_iff.1 hc).1;have hd:t.destroy i [120,97]=some (t.fH i {c with ns:=ns'}):=by
  unfold Sy.destroy;rw[hc];simp only;rw[hcn,if_pos m.ln,m.er]
 have hc1:(t.fH i {c with ns:=ns'}).cs[i]? =some {c with ns:=ns'}:=List.getElem?_set_self hil;have hf:∀d∈t.cs,d.ns.length<=999:=rX hn m.f2;refine⟨g1,hf,by rw[kJ,hn];exact m.na,by rw[kJ,hn];exact m.nb,by rw[g2,m.hh],?_,_,hd,q1,fun d hd'=> ?_,by rw[kJ,q3,hn];exact m.nb',?_⟩
 ·obtain⟨d,hd',x,hx,ho'⟩:=haw;rw[hc]at hd';obtain rfl:=gP hd';obtain⟨k,hkl,e⟩:=List.mem_iff_getElem.1 hx;exact⟨c,k,x,hc,by rw[gJ hkl,e],ho',by have:=(kG ho'.1).1;omega⟩
 ·rcases List.mem_or_eq_of_mem_set hd' with h1 | rfl
  ·exact hf d h1
  ·exact gQ hsub.length_le (hf c (gM hc))
 ·by_cases hz:z∈[1,2,4,8,16,32]
  ·refine .inr ⟨hz,(t.fH i {c with ns:=ns'}).fH i {c with ns:=ns'.eraseIdx (AB ns' [120,98])},?_⟩;unfold Sy.destroy;rw[hc1];simp only;rw[if_pos (m.alw.2 hz)]
  ·refine .inl ⟨?_,hz⟩;unfold Sy.destroy;rw[hc1];simp only;rw[if_neg (fun h=>hz (m.alw.1 h)),if_pos ((q1.WJ hc1).2 ⟨a,(q2 i a).2 haw⟩)]
end
section
open Go.RowKit
theorem own:ownKnob Tryz.prog.godebug=none:=by kernel_rfl
theorem aEL:Tryz.prog.globalNamed "paddock/buddy.others" =some 1:=by kernel_rfl
theorem XA:(Tryz.prog.globals[1]?).map (·.type)=some 251:=by kernel_rfl
theorem gSz:Tryz.prog.globalNamed "paddock/kmem.sizes" =some 0:=by kernel_rfl
theorem Zr:(Tryz.prog.globals[0]?).map (·.type)=some 117:=by kernel_rfl
theorem cellsT3:Tryz.prog.cellsOf 251=6:=by kernel_rfl
theorem cellsT2:Tryz.prog.cellsOf 250=2:=by kernel_rfl
theorem cellsT6:Tryz.prog.cellsOf 117=6:=by kernel_rfl
theorem Nv:Tryz.prog.cellsOf 3=1:=by kernel_rfl
theorem ES {H:Type}{enc:TypeId×Value->H}{P:Program}{w:World}{base:Nat}{sp:Nat->Bool}{held:Bool}{fuel:Nat}{t e f:TypeId}{n m:Nat}{k:IntKind}{cs:List Value}{zss:List (List Int)}{p:List MemPlace}
 (ht:P.underlying t=some (.array n e)) (he:P.underlying e=some (.array m f)) (hf:P.underlying f=some (.int k)) (hcf:P.cellsOf f=1) (hce:P.cellsOf e=m) (hct:P.cellsOf t=n*m)
 (h:DataW.trod enc P w base sp held fuel t cs=some (.agg (zss.map fun zs=>Lib.tabData k zs),p)):∀i,i<n->∃zs,zss[i]? =some zs/\(cs.drop (i*m)).take m=zs.map fun z=>Value.int k z:=by
 cases fuel with
 | zero=>simp[DataW.trod]at h
 | succ fuel=>
  simp only[DataW.trod,ht,hce,hct]at h;split at h
  ·rename_i hl;obtain⟨xs,hm,hx⟩:=Option.map_eq_some_iff.1 h;have hxs:xs.map (·.1)=zss.map fun zs=>(Lib.tabData k zs:DataW H):=by
    have:=congrArg Prod.fst hx;simpa using this
   intro i hi;obtain⟨b,hb,hfi⟩:=Lib.mapM_at hm i i (by simp[hi]);have h2:(xs.map (·.1))[i]? =some b.1:=by simp[hb]
   rw[hxs]at h2;simp only[List.getElem?_map,Option.map_eq_some_iff]at h2;obtain⟨zs,hz1,hz2⟩:=h2;obtain⟨b1,b2⟩:=b;simp only at hz2;subst hz2;exact⟨zs,hz1,Lib.cells_of_tab he hf hcf hce hfi⟩
  ·cases h
theorem Nw {W:World}(h:laidMetH Tryz.prog [("math/bits.deBruijn32tab",Rows.laid_math_bits_deBruijn32tab),("math/bits.deBruijn64tab",Rows.laid_math_bits_deBruijn64tab),("internal/strconv.uint64pow10",Rows.laid_internal_strconv_uint64pow10),("paddock/buddy.others",Rows.laid_paddock_buddy_others),("paddock/kmem.sizes",Rows.laid_paddock_kmem_sizes)] W):vT W:=by
 obtain⟨ps,⟨_,_,_,_,_,_,_,_,_,_,⟨_,_,_,_,_,_,_,_,_,_,⟨_,_,_,_,_,_,_,_,_,_,⟨g',t',cs,fuel,p,q,hg',ht',hvar,hd,_,_⟩,_⟩,_⟩,_⟩,_⟩:=h;obtain rfl:=gP (aEL.symm.trans hg');obtain rfl:=gP (XA.symm.trans ht');have hT:=ES (zss:=[[2,1],[2,0],[0,1]]) Tryz.underlying251 Tryz.underlying250 Tryz.underlying3 Nv cellsT2 cellsT3 hd;have hc:∀i v,cs[i]? =some v->W.cell? ⟨1,i,none⟩=some v:=fun i v hv=>(World.var?_cell aEL hvar i).trans hv
 obtain⟨z0,h0,e0⟩:=hT 0 (by decide);obtain⟨z1,h1,e1⟩:=hT 1 (by decide);obtain⟨z2,h2,e2⟩:=hT 2 (by decide);simp only[gC,gD,Option.some.injEq]at h0 h1 h2;subst h0 h1 h2;have key:∀(l:List Value) (a b:Nat) (x y:Value),(l.drop a).take 2=[x,y]->l[a]? =some x/\l[a+1]? =some y:=by
  intro l a b x y h;have g0:=congrArg (·[0]?) h;have g1:=congrArg (·[1]?) h;simp[List.getElem?_drop]at g0 g1;exact⟨g0,g1⟩
 obtain⟨a0,a1⟩:=key cs.toList 0 0 _ _ e0;obtain⟨a2,a3⟩:=key cs.toList 2 0 _ _ e1;obtain⟨a4,a5⟩:=key cs.toList 4 0 _ _ e2;rw[Array.getElem?_toList]at a0 a1 a2 a3 a4 a5;have hc0:=hc 0 _ a0;refine⟨by have:=World.block_lt_of_cell? W _ hc0;exact this,fun i v hv=> ?_⟩;rcases i with _ | _ | _ | _ | _ | _ | i
 ·simp at hv;subst hv;exact hc0
 ·simp at hv;subst hv;exact hc 1 _ a1
 ·simp at hv;subst hv;exact hc 2 _ a2
 ·simp at hv;subst hv;exact hc 3 _ a3
 ·simp at hv;subst hv;exact hc 4 _ a4
 ·simp at hv;subst hv;exact hc 5 _ a5
 ·simp at hv
theorem Ny {W:World}(h:laidMetH Tryz.prog [("math/bits.deBruijn32tab",Rows.laid_math_bits_deBruijn32tab),("math/bits.deBruijn64tab",Rows.laid_math_bits_deBruijn64tab),("internal/strconv.uint64pow10",Rows.laid_internal_strconv_uint64pow10),("paddock/buddy.others",Rows.laid_paddock_buddy_others),("paddock/kmem.sizes",Rows.laid_paddock_kmem_sizes)] W):Bl W:=by
 obtain⟨ps,⟨_,_,_,_,_,_,_,_,_,_,⟨_,_,_,_,_,_,_,_,_,_,⟨_,_,_,_,_,_,_,_,_,_,⟨_,_,_,_,_,_,_,_,_,_,⟨g',t',cs,fuel,p,q,hg',ht',hvar,hd,_,_⟩,_⟩,_⟩,_⟩,_⟩,_⟩:=h;obtain rfl:=gP (gSz.symm.trans hg');obtain rfl:=gP (Zr.symm.trans ht');have hT:=Lib.cells_of_tab (zs:=[1,2,4,8,16,32]) Tryz.underlying117 Tryz.underlying3 Nv cellsT6 hd;have hc:∀i v,cs[i]? =some v->W.cell? ⟨0,i,none⟩=some v:=fun i v hv=>(World.var?_cell gSz hvar i).trans hv
 have he:∀i:Nat,cs[i]? =([1,2,4,8,16,32].map fun z=>Value.int .i64 z)[i]? :=fun i=>by rw[<- Array.getElem?_toList,hT]
 have hc0:=hc 0 (.int .i64 1) (by rw[he];rfl);refine⟨World.block_lt_of_cell? W _ hc0,fun i v hv=>hc i v ?_⟩;rw[he,<- hv];rcases i with _ | _ | _ | _ | _ | _ | i;all_goals rfl
def putCells (a:Array Value):Obj->Obj
 | .cells _ t frozen=> .cells a t frozen
 | o=>o
noncomputable def laidWorld (os:Os):World:=
 {World.holding Tryz.prog os ⟨#[],#[],[]⟩with heap:=((((((World.holding Tryz.prog os ⟨#[],#[],[]⟩).heap.modify 0 (putCells #[.int .i64 1,.int .i64 2,.int .i64 4,.int .i64 8,.int .i64 16,.int .i64 32])).modify 1 (putCells #[.int .i64 2,.int .i64 1,.int .i64 2,.int .i64 0,.int .i64 0,.int .i64 1])).modify 2 (putCells #[.int .u64 1,.int .u64 10,.int .u64 100,.int .u64 1000,.int .u64 10000,.int .u64 100000,.int .u64 1000000,.int .u64 10000000,.int .u64 100000000,.int .u64 1000000000,.int .u64 10000000000,.int .u64 100000000000,.int .u64 1000000000000,.int .u64 10000000000000,.int .u64 100000000000000,.int .u64 1000000000000000,.int .u64 10000000000000000,.int .u64 100000000000000000,.int .u64 1000000000000000000,.int .u64 10000000000000000000])).modify 3 (putCells #[.int .u8 0,.int .u8 1,.int .u8 28,.int .u8 2,.int .u8 29,.int .u8 14,.int .u8 24,.int .u8 3,.int .u8 30,.int .u8 22,.int .u8 20,.int .u8 15,.int .u8 25,.int .u8 17,.int .u8 4,.int .u8 8,.int .u8 31,.int .u8 27,.int .u8 13,.int .u8 23,.int .u8 21,.int .u8 19,.int .u8 16,.int .u8 7,.int .u8 26,.int .u8 12,.int .u8 18,.int .u8 6,.int .u8 11,.int .u8 5,.int .u8 10,.int .u8 9])).modify 4 (putCells #[.int .u8 0,.int .u8 1,.int .u8 56,.int .u8 2,.int .u8 57,.int .u8 49,.int .u8 28,.int .u8 3,.int .u8 61,.int .u8 58,.int .u8 42,.int .u8 50,.int .u8 38,.int .u8 29,.int .u8 17,.int .u8 4,.int .u8 62,.int .u8 47,.int .u8 59,.int .u8 36,.int .u8 45,.int .u8 43,.int .u8 51,.int .u8 22,.int .u8 53,.int .u8 39,.int .u8 33,.int .u8 30,.int .u8 24,.int .u8 18,.int .u8 12,.int .u8 5,.int .u8 63,.int .u8 55,.int .u8 48,.int .u8 27,.int .u8 60,.int .u8 41,.int .u8 37,.int .u8 16,.int .u8 46,.int .u8 35,.int .u8 44,.int .u8 21,.int .u8 52,.int .u8 32,.int .u8 23,.int .u8 11,.int .u8 54,.int .u8 26,.int .u8 40,.int .u8 15,.int .u8 34,.int .u8 20,.int .u8 31,.int .u8 10,.int .u8 25,.int .u8 14,.int .u8 19,.int .u8 9,.int .u8 13,.int .u8 8,.int .u8 7,.int .u8 6]))}
end
end Go.Proofs.YtcmpmobhongkiaaGreatDoor
