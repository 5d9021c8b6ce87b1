/- joined. -/
import Derived.Test.YtcmpmobhongkiaaGreatDoorRK0
import Derived.Test.YtcmpmobhongkiaaGreatDoorRK1
import Derived.Test.YtcmpmobhongkiaaGreatDoorRK6
import Derived.Lib.SliceRun
import Derived.Deep.RegionHeld3
import Derived.Deep.DeepCutAuto
import Derived.StillTailTactics
import Derived.Maps.OwnOps
import Derived.Maps.Views
set_option linter.unusedVariables false
set_option linter.unusedSimpArgs false
namespace Go.Proofs.YtcmpmobhongkiaaGreatDoor
section
open Go.RowKit
def iK (xs:List Int)(most:Int):Nat->Int->List Int->Option (List Int)
 | 0,_,_=>none
 | f+1,p,out=>if p= -1 then some out else if(out.length:Int)>=most∨Uc xs.length p 1=false∨tN out p=true then none else iK xs most f (xs.getD p.toNat 0) (out++[p])
def follow (xs:List Int)(p most:Int):Option (List Int):=iK xs most (xs.length+2) p []
theorem BP:∀(n:Nat) (l:List Int),l.Nodup->(∀x∈l,0<=x/\x<n)->l.length<=n
 | 0,l,_,h=>by
  cases l with
  | nil=>simp
  | cons a l=>have:=h a (by simp);omega
 | n+1,l,hd,h=>by
  have h1:=BP n (l.erase (n:Int)) (hd.erase _) (fun x hx=>by
   have hm:=h x (List.mem_of_mem_erase hx);have hne:x≠(n:Int):=by
    intro e;subst e;exact(List.Nodup.not_mem_erase hd) hx
   omega)
  by_cases hn:(n:Int)∈l
  ·rw[List.length_erase_of_mem hn]at h1;omega
  ·rw[List.erase_of_not_mem hn]at h1;omega
def lenOf:Value->Nat | .slice _ n _=>n | _=>0
def BQ (w:World)(r:Option (List Int))(e:Ending)(w':World):Prop:=
 Below w.heap.size w w'/\match r with
  | some l=>∃a c,e= .returned (.tuple #[.slice a l.length c,.int .i64 0])/\w'.ownsRow w.heap.size 3 1 (.slice a l.length c) l.length (l.map vI)
  | none=>e= .returned (.tuple #[.slice none 0 0,.int .i64 8])
theorem NK (a:Option Addr)(cap:Nat)(xs:List Int)(p most:Int)(w:World)(hl:xs.length<=1000000)(hr:Row w a (xs.map vI)):
 Calls Tryz.prog 140 #[.slice a xs.length cap,.int .i64 p,.int .i64 most] w (BQ w (follow xs p most)):=by
 generalize hR:follow xs p most=R;go_enter Tryz.func140,Tryz.ntmps140
 go_wp2
 go_loopw [1,8] (fun u1 u8 wr=>∃(q:Int) (out:List Int) (a8:Option Addr) (c8 f:Nat),u1= .int .i64 q/\u8= .slice a8 out.length c8/\wr.ownsRow w.heap.size 3 1 (.slice a8 out.length c8) out.length (out.map vI)/\
  Below w.heap.size w wr/\Hid (iK xs most f q out=R)/\f+out.length=xs.length+2/\Hid (out.Nodup/\∀x∈out,0<=x/\x<xs.length)) (fun _ u8 _=>xs.length+2-lenOf u8)
 case atStart=>exact⟨p,[],none,0,xs.length+2,rfl,rfl,World.ownsRow_nil _ _ _ _,Below.refl _ _,hR,rfl,List.nodup_nil,by simp⟩
 case round=>
  obtain⟨q,out,a8,c8,f,rfl,rfl,hown,hbw,hF,hf,hnd⟩:=hrel;have hle:=BP xs.length out hnd.out.1 hnd.out.2;obtain⟨f,rfl⟩:∃f',f=f'+1:=⟨f-1,by omega⟩
  have hlo:out.length<=9223372036854775807:=by omega
  have HF:=hF.out;unfold iK at HF;by_cases h1:q= -1
  ·have hq:(q != -1)=false:=by simp[h1]
   rw[if_pos h1]at HF;have HO:=gO hown;clear hown h1 hR;go_wp2
   go_ret2
   subst HF;exact⟨hbw,_,_,rfl,HO.out⟩
  ·have hq:(q != -1)=true:=by simp[h1]
   rw[if_neg h1]at HF;have HO:=gO hown;clear hown hR hF;by_cases h2:most<=(out.length:Int)
   ·rw[if_pos (Or.inl h2)]at HF;subst HF;go_wp2_with fail
    go_ret2
    exact⟨hbw,rfl⟩
   ·cases h3:Uc xs.length q 1 with
    | false=>
     rw[if_pos (Or.inr (Or.inl h3))]at HF;subst HF;go_wp2_with (go_at_call 142;refine(BN _ _ _ _ _ _ (by omega) (by omega) (by omega)).mono ?_;rintro e w' ⟨rfl,rfl⟩)
     go_ret2
     exact⟨hbw,rfl⟩
    | true=>
     cases h4:tN out q with
     | true=>
      rw[if_pos (Or.inr (Or.inr h4))]at HF;subst HF;go_wp2_with (first | (go_at_call 142;refine(BN _ _ _ _ _ _ (by omega) (by omega) (by omega)).mono ?_;rintro e w' ⟨rfl,rfl⟩) | (go_at_call 35;refine(jH _ _ _ _ _ hlo (aY HO.out)).mono ?_;rintro e w' ⟨rfl,rfl⟩))
      go_ret2
      exact⟨hbw,rfl⟩
     | false=>
      rw[if_neg (by rw[h3,h4];simp;omega)]at HF;have hq2:0<=q/\q<xs.length:=by unfold Uc at h3;simp only[decide_eq_true_eq]at h3;omega
      obtain⟨k,rfl⟩:=Int.eq_ofNat_of_zero_le hq2.1;have hk:k<xs.length:=by omega
      rw[Int.toNat_natCast,List.getD_eq_getElem?_getD,gJ hk,Option.getD_some]at HF;have HFF:=gO HF;clear HF;have hrw:=hr.below hbw;have hsz:=hbw.size;have Au:Hid ((wr.alloc (.cells #[.int .i64 (k:Int)] 3)).ownsRow w.heap.size 3 1 (.slice a8 out.length c8) out.length (out.map vI)):=gO (own_below HO.out ((Below.refl _ _).alloc (Nat.le_refl _) _) (Nat.le_refl _));have tV:Hid (Row (wr.alloc (.cells #[.int .i64 (k:Int)] 3)) (some ⟨wr.heap.size,0,none⟩) [vI k]):=Uj _ _ _;go_wp2_with (first | (go_at_call 142;refine(BN _ _ _ _ _ _ (by omega) (by omega) (by omega)).mono ?_;rintro e w' ⟨rfl,rfl⟩) | (go_at_call 35;refine(jH _ _ _ _ _ hlo (aY HO.out)).mono ?_;rintro e w' ⟨rfl,rfl⟩) | (at_builtin;refine iI rfl _ _ 39 rfl w.heap.size 3 (.int .i64 0) 1 8 Tryz.underlying39 ET rfl (by decide) (by decide) a8 out.length c8 (out.map vI) rfl Au.out (some ⟨wr.heap.size,0,none⟩) 1 1 [vI k] rfl rfl tV.out (by simp[vI,Value.oneCell']) (by omega) (by simp;omega) ?_))
      intro a' c' w1 hown1 hgrow;have hb1:Below w.heap.size w w1:=below_grown (hbw.alloc hsz _) Au.out hgrow (Nat.le_refl _) (by simp;omega);obtain⟨b,off,rfl,hbb,hc⟩:=Ur (hr.below hb1) hk;have HO1:=gO hown1;clear hown1 Au tV hrw hgrow hr HO;go_wp2
      go_roundw
      case rel=>
       refine⟨xs[k],out++[(k:Int)],a',c',f,rfl,by simp,?_,hb1,HFF.out,by simp;omega,?_⟩
       ·have h:=HO1.out;simp only[List.length_append,List.length_cons,List.length_nil,List.map_append,List.map_cons,List.map_nil];exact h
       ·refine⟨?_,?_⟩
        ·rw[List.nodup_append];refine⟨hnd.out.1,by simp,?_⟩;intro x hx y hy;simp only[List.mem_singleton]at hy;subst hy;intro e;subst e;have:tN out (k:Int)=true:=by unfold tN;simpa using hx
         rw[this]at h4;cases h4
        ·intro x hx;rw[List.mem_append,List.mem_singleton]at hx;rcases hx with hx | rfl
         ·exact hnd.out.2 x hx
         ·omega
      case measure=>simp[lenOf];omega
theorem Us (a:Option Addr)(n cap:Nat)(xs:List Int)(p most:Int)(w:World)(hn:xs.length=n)(hl:n<=1000000)(hr:Row w a (xs.map vI)):
 Calls Tryz.prog 140 #[.slice a n cap,.int .i64 p,.int .i64 most] w (BQ w (follow xs p most)):=by
 subst hn;exact NK a cap xs p most w hl hr
theorem Ju (a:Option Addr)(n cap:Nat)(xs:List Int)(p most:Int)(w:World)(hn:xs.length=n)(hl:n<=1000000)(hr:Row w a (xs.map vI))(l:List Int)(hf:follow xs p most=some l):
 Calls Tryz.prog 140 #[.slice a n cap,.int .i64 p,.int .i64 most] w fun e w'=>∃a' c',e= .returned (.tuple #[.slice a' l.length c',.int .i64 0])/\w'.ownsRow w.heap.size 3 1 (.slice a' l.length c') l.length (l.map vI)/\Below w.heap.size w w':=by
 refine(Us a n cap xs p most w hn hl hr).mono fun e w' h=> ?_
 rw[hf]at h;obtain⟨hb,a',c',he,ho⟩:=h;exact⟨a',c',he,ho,hb⟩
end
section
open Go.RowKit
attribute [local go_sem ↓] jG
def chainTo (xs:List Int)(p k n:Nat):Nat->List Int
 | 0=>xs
 | i+1=>(chainTo xs p k n i).set (p+i*k) (if i+1<n then((p+(i+1)*k:Nat):Int)else-1)
theorem gW (xs:List Int)(p k n:Nat):∀i,(chainTo xs p k n i).length=xs.length
 | 0=>rfl
 | i+1=>by simp[chainTo,gW xs p k n i]
theorem Ut (a:Option Addr)(cap:Nat)(xs:List Int)(p k n:Nat)(w:World)(hl:xs.length<=1000000)(hr:Row w a (xs.map vI))(hk1:1<=k)(hk2:k<=64)(hn1:1<=n)(hn2:n<=xs.length)(hin:p+k*n<=xs.length):
 Calls Tryz.prog 181 #[.slice a xs.length cap,.int .i64 p,.int .i64 k,.int .i64 n] w fun e w'=>∃a' c',e= .returned (.tuple #[.slice a' xs.length c',.int .i64 0])/\w'.ownsRow w.heap.size 3 1 (.slice a' xs.length c') xs.length ((chainTo xs p k n n).map vI)/\Below w.heap.size w w':=by
 have hkn:0<=(k:Int)*(n:Int):=Int.mul_nonneg (by omega) (by omega);have hkn2:(k:Int)*(n:Int)<=xs.length-p:=by
  have:((k*n:Nat):Int)=(k:Int)*(n:Int):=by simp
  omega
 have HB:Hid (Uc xs.length p ((k:Int)*(n:Int))=true):=by unfold Uc;exact decide_eq_true (by omega)
 have d1:decide ((k:Int)<1)=false:=decide_eq_false (by omega);have d2:decide (64<(k:Int))=false:=decide_eq_false (by omega);have d3:decide ((n:Int)<1)=false:=decide_eq_false (by omega);go_enter Tryz.func181,Tryz.ntmps181
 go_wp2_with (first | (go_at_call 142;refine(BN _ _ _ _ _ _ (by omega) (by omega) (by omega)).mono ?_;rw[HB.out];rintro e w' ⟨rfl,rfl⟩) | (go_at_call 85;refine(EU _ _ _ _ (by omega) hr).mono ?_;rintro e w1 ⟨a',c',rfl,hown,hb⟩;have HO:=gO hown;clear hown))
 go_loopw [11,12,41] (fun _ _ s41 wr=>∃i:Nat,i<=n/\s41= .int .i64 i/\Hid (wr.ownsRow w.heap.size 3 1 (.slice a' xs.length c') xs.length ((chainTo xs p k n i).map vI))/\Below w.heap.size w wr) (fun _ _ s41 _=>n-(intOf s41).toNat)
 case atStart=>exact⟨0,Nat.zero_le _,rfl,HO,hb⟩
 case round=>
  obtain⟨i,hi,rfl,hown,hbw⟩:=hrel;by_cases hlt:i<n
  ·have hidx:p+i*k<xs.length:=by
    have:i*k+k<=k*n:=by rw[<- Nat.succ_mul,Nat.mul_comm];exact Nat.mul_le_mul_left _ hlt
    omega
   have hik:0<=(i:Int)*(k:Int):=Int.mul_nonneg (by omega) (by omega);have aJE:(p:Int)+(i:Int)*(k:Int)<xs.length:=by
    have:((p+i*k:Nat):Int)=(p:Int)+(i:Int)*(k:Int):=by simp
    omega
   obtain⟨g,v,rfl,hg,hgs,hc,hf⟩:=fA hown.out (p+i*k) (by rw[List.length_map,gW];exact hidx);have aJF:0<=((i:Int)+1)*(k:Int):=Int.mul_nonneg (by omega) (by omega);have aFi:((i:Int)+1)*(k:Int)=(i:Int)*(k:Int)+k:=by rw[Int.add_mul,Int.one_mul]
   have aJG:((i:Int)+1)*(k:Int)<=xs.length+64:=by omega
   clear aFi;by_cases hlast:i+1<n
   ·have hl2:(i:Int)<(n:Int)-1:=by omega
    go_wp2
    go_roundw
    case rel=>exact⟨i+1,by omega,by go_num,by
     have h:=(World.ownsRow.stored hown.out (p+i*k) (vI (p+((i:Int)+1)*k))).1;show World.ownsRow _ _ _ _ _ _ ((chainTo xs p k n (i+1)).map vI);unfold chainTo;rw[if_pos hlast,List.map_set];rw[show(((p+(i+1)*k:Nat):Int))=p+((i:Int)+1)*k from by simp];exact h,hbw.setCell hg _⟩
    case measure=>simp[intOf];omega
   ·have hl2:¬(i:Int)<(n:Int)-1:=by omega
    go_wp2
    go_roundw
    case rel=>exact⟨i+1,by omega,by go_num,by
     have h:=(World.ownsRow.stored hown.out (p+i*k) (vI (-1))).1;show World.ownsRow _ _ _ _ _ _ ((chainTo xs p k n (i+1)).map vI);unfold chainTo;rw[if_neg hlast,List.map_set];exact h,hbw.setCell hg _⟩
    case measure=>simp[intOf];omega
  ·obtain rfl:i=n:=by omega
   go_wp2
   go_ret2
   exact⟨a',c',rfl,hown.out,hbw⟩
end
section
def objs (p k i:Nat):List Int:=(List.range i).map fun j=>((p+j*k:Nat):Int)
theorem pF (p k i:Nat):(objs p k i).length=i:=by simp[objs]
theorem Ri (p k i:Nat):objs p k (i+1)=objs p k i++[((p+i*k:Nat):Int)]:=by simp[objs,List.range_succ]
theorem Az (xs:List Int)(p k n:Nat)(hk:1<=k)(hin:p+k*n<=xs.length):∀j,j<=n->∀i,i<j->(chainTo xs p k n j)[p+i*k]? =some (if i+1<n then((p+(i+1)*k:Nat):Int)else-1)
 | 0,_,i,hi=>by omega
 | j+1,hj,i,hi=>by
  have hlt:∀i,i<n->p+i*k<xs.length:=fun i hi=>by
   have:i*k+k<=k*n:=by rw[<- Nat.succ_mul,Nat.mul_comm];exact Nat.mul_le_mul_left _ hi
   omega
  unfold chainTo;by_cases e:i=j
  ·subst e;rw[List.getElem?_set_self (by rw[gW];exact hlt i (by omega))]
  ·have hne:p+j*k≠p+i*k:=by
    intro h;have h1:j*k=i*k:=by omega
    exact e (Nat.eq_of_mul_eq_mul_right (by omega) h1).symm
   rw[List.getElem?_set_ne hne];exact Az xs p k n hk hin j (by omega) i (by omega)
theorem zA (xs:List Int)(p k n:Nat)(most:Int)(hk:1<=k)(hn:1<=n)(hin:p+k*n<=xs.length):
 ∀d i f,i+d=n->1<=d->d+1<=f->(i:Int)<=most->iK (chainTo xs p k n n) most f ((p+i*k:Nat):Int) (objs p k i)=if(n:Int)<=most then some (objs p k n)else none:=by
 intro d
 induction d with
 | zero=>intro i f _ h;omega
 | succ d ih=>
  intro i f hid _ hf aHS;obtain⟨f,rfl⟩:∃f',f=f'+1:=⟨f-1,by omega⟩
  have hpos:((p+i*k:Nat):Int)≠ -1:=by omega
  have hlt:p+i*k<xs.length:=by
   have:i*k+k<=k*n:=by rw[<- Nat.succ_mul,Nat.mul_comm];exact Nat.mul_le_mul_left _ (by omega)
   omega
  unfold iK;rw[if_neg hpos,pF];by_cases hm:(i:Int)=most
  ·rw[if_pos (Or.inl (by omega)),if_neg (by omega)]
  ·have h2:Uc (chainTo xs p k n n).length ((p+i*k:Nat):Int) 1=true:=by
    unfold Uc;rw[gW];exact decide_eq_true (by omega)
   have h3:tN (objs p k i) ((p+i*k:Nat):Int)=false:=by
    unfold tN;rw[List.contains_eq_any_beq,List.any_eq_false];intro x hx;simp only[objs,List.mem_map,List.mem_range]at hx;obtain⟨j,hj,rfl⟩:=hx;simp only[beq_iff_eq];intro h;have h1:i*k=j*k:=by omega
    have:=Nat.eq_of_mul_eq_mul_right (by omega) h1;omega
   rw[if_neg (by rw[h2,h3];simp;omega),Int.toNat_natCast,List.getD_eq_getElem?_getD,Az xs p k n hk hin n (Nat.le_refl _) i (by omega),Option.getD_some,<- Ri];by_cases hl:i+1<n
   ·rw[if_pos hl];exact ih (i+1) f (by omega) (by omega) (by omega) (by omega)
   ·rw[if_neg hl];obtain rfl:n=i+1:=by omega
    obtain⟨f,rfl⟩:∃f',f=f'+1:=⟨f-1,by omega⟩
    unfold iK;rw[if_pos rfl,if_pos (by omega)]
theorem xP (xs:List Int)(p k n:Nat)(most:Int)(hk:1<=k)(hn:1<=n)(hin:p+k*n<=xs.length)(h0:0<=most):
 follow (chainTo xs p k n n) p most=if(n:Int)<=most then some (objs p k n)else none:=by
 have hkn:n<=k*n:=Nat.le_mul_of_pos_left _ (by omega);have h:=zA xs p k n most hk hn hin n 0 ((chainTo xs p k n n).length+2) (by omega) hn (by rw[gW];omega) (by omega);simpa[follow,objs]using h
end
section
structure Sl where
 p:Nat
 n:Nat
 h:Int
deriving DecidableEq
structure Ca where
 ns:List (List UInt8)
 z:Nat
 r:Nat
 o:Nat
 sl:List Sl
 ac:List Int
deriving DecidableEq
structure Sy where
 w:List Int
 h:Hp
 cs:List Ca
deriving DecidableEq
def dS (k:Nat):Nat:=if 4<=16/k then 0 else if 4<=32/k then 1 else 2
def fB (k:Nat):Nat:=16*2^dS k/k
def nameB (s:List UInt8):Bool:=decide (0<s.length/\s.length<=8)&&s.all fun c=>decide ((97<=c/\c<=122)∨(48<=c/\c<=57))
def fU (c:Ca)(p:Nat)(a:Int):Bool:=decide (0<=a-16*p/\a-16*p<c.r*c.z/\(a-16*p)%c.z=0)
structure tX (s:Sy)(c:Ca)(x:Sl):Prop where
 live:∃b∈s.h.live,b.a=x.p/\b.o=c.o
 chain:∃l,follow s.w x.h c.r=some l/\l.length=x.n/\∀a∈l,fU c x.p a=true
structure o8 (s:Sy)(c:Ca):Prop where
 z:1<=c.z/\c.z<=64
 o:c.o=dS c.z
 r:c.r=fB c.z
 ns:c.ns≠[]
 nm:∀n∈c.ns,nameB n=true
 nr:c.ns.Pairwise fun a b=>Go.Op.bytesLess a b=true
 ac:c.ac.length=s.h.aC
 sr:c.sl.Pairwise fun a b=>a.p<b.p
 sk:∀x∈c.sl,tX s c x
 aw:∀a∈c.ac,a= -1∨∃x∈c.sl,(x.p:Int)=a
 ad:c.ac.Pairwise fun a b=>a=b->a= -1
structure bK (s:Sy):Prop where
 wl:s.w.length=4096
 hk:dZ s.h
 cl:s.cs.length<=20
 ck:∀c∈s.cs,o8 s c
 zd:s.cs.Pairwise fun c d=>c.z≠d.z
 nd:s.cs.Pairwise fun c d=>∀n∈c.ns,n∉d.ns
 pd:s.cs.Pairwise fun c d=>∀x∈c.sl,∀y∈d.sl,x.p≠y.p
def Sy.named (s:Sy)(n:List UInt8):Option Nat:=s.cs.findIdx? fun c=>c.ns.contains n
def Sy.fH (s:Sy)(i:Nat)(c:Ca):Sy:={s with cs:=s.cs.set i c}
def Ca.find (c:Ca)(p:Int):Option Nat:=c.sl.findIdx? fun x=>decide ((x.p:Int)=p)
def Ji (l:List Sl)(p:Nat):Nat:=(l.takeWhile fun x=>decide (x.p<p)).length
def kP (l:List Sl)(x:Sl):List Sl:=l.take (Ji l x.p)++x::l.drop (Ji l x.p)
def Sy.grow (s:Sy)(i cpu:Nat)(c:Ca):Option (Sy×Nat):=match s.h.alloc cpu c.o 0 false false with
 | some (h',a)=>some ({w:=chainTo s.w (16*a) c.z c.r c.r,h:=h',cs:=s.cs.set i {c with sl:=kP c.sl ⟨a,c.r,((16*a:Nat):Int)⟩}},Ji c.sl a)
 | none=>none
def Ca.own (c:Ca)(cpu:Nat):Option Nat:=match c.find (c.ac.getD cpu (-1))with
 | some k=>match c.sl[k]? with
  | some x=>if 0<x.n then some k else none
  | none=>none
 | none=>none
def Ca.nobody (c:Ca):Option Nat:=c.sl.findIdx? fun x=>decide (0<x.n)&& !c.ac.contains (x.p:Int)
def Sy.mine (s:Sy)(i cpu k:Nat):Sy:=match s.cs[i]? with
 | some c=>match c.sl[k]? with
  | some x=>s.fH i {c with ac:=c.ac.set cpu (x.p:Int)}
  | none=>s
 | none=>s
def Sy.choose (s:Sy)(i cpu:Nat):Option (Sy×Nat):=match s.cs[i]? with
 | some c=>match c.own cpu with
  | some k=>some (s,k)
  | none=>match c.nobody with
   | some k=>some (s.mine i cpu k,k)
   | none=>match s.grow i cpu c with
    | some (s',k)=>some (s'.mine i cpu k,k)
    | none=>none
 | none=>none
def Sy.pop (s:Sy)(i k:Nat):Option (Sy×Int):=match s.cs[i]? with
 | some c=>match c.sl[k]? with
  | some x=>some (s.fH i {c with sl:=c.sl.set k ⟨x.p,x.n-1,s.w.getD x.h.toNat 0⟩},x.h)
  | none=>none
 | none=>none
def Sy.one (s:Sy)(i cpu:Nat):Option (Sy×Int):=match s.choose i cpu with
 | some (s',k)=>s'.pop i k
 | none=>none
def Sy.bulk (s:Sy)(i cpu:Nat):Nat->Option (Sy×List Int)
 | 0=>some (s,[])
 | n+1=>match s.bulk i cpu n with
  | some (s',l)=>match s'.one i cpu with
   | some (t,a)=>some (t,l++[a])
   | none=>none
  | none=>none
def AB (l:List (List UInt8))(n:List UInt8):Nat:=(l.takeWhile fun x=>Go.Op.bytesLess x n).length
def Sy.create (s:Sy)(n:List UInt8)(z:Nat):Option Sy:=match s.cs.findIdx? fun c=>decide (c.z=z)with
 | some i=>match s.cs[i]? with
  | some c=>some (s.fH i {c with ns:=c.ns.take (AB c.ns n)++n::c.ns.drop (AB c.ns n)})
  | none=>none
 | none=>if s.cs.length=20 then none else some {s with cs:=s.cs++[⟨[n],z,fB z,dS z,[],List.replicate s.h.aC (-1)⟩]}
end
section
theorem XU {k:Nat}:fB k*k<=64:=by
 unfold fB;refine gQ (Nat.div_mul_le_self _ _) ?_;have:dS k<=2:=by unfold dS;split <;> (try split) <;> omega
 rcases(show dS k=0∨dS k=1∨dS k=2 by omega)with h | h | h <;> rw[h] <;> decide
theorem AP (xs:List Int)(most:Int):∀(f:Nat) (p:Int) (out l:List Int),(out.length:Int)<=most->iK xs most f p out=some l->(l.length:Int)<=most
 | 0,_,_,_,_,h=>by simp[iK]at h
 | f+1,p,out,l,ho,h=>by
  unfold iK at h;split at h
  ·rw[<- gP h];exact ho
  ·split at h
   ·cases h
   ·rename_i h2;refine AP xs most f _ _ l ?_ h;simp only[List.length_append,List.length_cons,List.length_nil];have:¬(most<=(out.length:Int)):=fun h3=>h2 (.inl h3)
    omega
theorem NV {xs:List Int}{p most:Int}{l:List Int}(hm:0<=most)(h:follow xs p most=some l):(l.length:Int)<=most:=AP xs most _ p [] l (by simpa using hm) h
theorem o8.rz {s:Sy}{c:Ca}(h:o8 s c):c.r*c.z<=64:=by rw[h.r];exact XU
theorem o8.r64 {s:Sy}{c:Ca}(h:o8 s c):c.r<=64:=gQ (Nat.le_mul_of_pos_right _ h.z.1) h.rz
theorem tX.zH {s:Sy}{c:Ca}{x:Sl}(h:tX s c x)(hk:dZ s.h):x.p<256:=by
 obtain⟨b,hb,h1,_⟩:=h.live;have:=(hk.lv b hb).1.2.2.1;omega
theorem tX.Ro {s:Sy}{c:Ca}{x:Sl}(h:tX s c x):x.n<=c.r:=by
 obtain⟨l,h1,h2,_⟩:=h.chain;have:=NV (by omega) h1;omega
theorem kG {c:Ca}{p:Nat}{a:Int}(h:fU c p a=true):16*(p:Int)<=a/\a<16*p+c.r*c.z/\(a-16*p)%c.z=0:=by
 have:=of_decide_eq_true h;omega
theorem Fh:∀{l:List Sl} {k N:Nat},(l.Pairwise fun a b=>a.p<b.p)->(∀x∈l,k<=x.p/\x.p<N)->l.length+k<=N∨l=[]
 | [],_,_,_,_=> .inr rfl
 | c::m,k,N,q1,q2=>by
  have q3:=List.pairwise_cons.1 q1;have q4:=q2 c (by simp);rcases Fh (k:=c.p+1) (N:=N) q3.2 fun x hx=>⟨q3.1 x hx,(q2 x (by simp[hx])).2⟩with q5 | rfl
  ·simp only[List.length_cons];exact .inl (by omega)
  ·simp only[List.length_cons,List.length_nil];exact .inl (by omega)
theorem o8.mP {s:Sy}{c:Ca}(h:o8 s c)(hk:dZ s.h):c.sl.length<=256:=by
 rcases Fh (k:=0) (N:=256) h.sr fun x hx=>⟨Nat.zero_le _,(h.sk x hx).zH hk⟩with h1 | h1
 ·omega
 ·rw[h1];exact Nat.zero_le _
end
section
theorem Rq {h g:Hp}(hk:dZ h)(hg:dZ g)(hs:Same h g)(i:Nat)(u lo:Bool):g.held i u lo=h.held i u lo:=by
 have e1:g.z1.f=h.z1.f:=by rw[<- hg.e0,<- hk.e0,hs.split]
 have e2:g.z1.e=h.z1.e:=by rw[hg.e1,hk.e1]
 unfold Hp.held Hp.min;rw[e1,e2,hs.m0,hs.m1]
theorem dZ.Rt {h h':Hp}(hk:dZ h){l:Ls}{hd a n:Nat}(hl:l.c<h.aC/\l.z<2/\l.t<3)(h8:∀x∈h.ls,x.key=l.key->x.p.length+(n+1)<=8)(hn:n+1<=8)(he:h.lF l.z 0 l.t hd=some (h',a)):
 dZ h'/\dZ {h' with ls:=bG h'.ls l a}/\(∀x∈bG h'.ls l a,x.key=l.key->x.p.length+n<=8)/\Same h {h' with ls:=bG h'.ls l a}:=by
 obtain⟨hT,hls,hz⟩:=hk.lF (by omega) hl.2.2 hl.2.1 he;have hl':l.c<h'.aC/\l.z<2/\l.t<3:=by rw[hT.same.aC];exact hl
 obtain⟨g1,g2⟩:=hT.ok.push (l:=l) (p:=a) hl' ⟨hT.fit.2.2.1,by rw[hT.same.split];exact hz⟩ (fun x hx hk=>by rw[hls]at hx;have:=h8 x hx hk;omega) (fun q=>by rw[hT.c 0 q];exact hk.one q);refine⟨hT.ok,g1,fun x hx hkey=> ?_,Same.trans hT.same ⟨rfl,rfl,rfl,rfl⟩⟩;have:=Ce hT.ok.lk x hx hkey;have h2:xU h'.ls l.key+(n+1)<=8:=by
  unfold xU;cases hf:h'.ls.find? fun x=>decide (x.key=l.key)with
  | none=>simp only;omega
  | some y=>
   have hy:=List.mem_of_find?_eq_some hf;have hyk:=List.find?_some hf;rw[hls]at hy;exact h8 y hy (of_decide_eq_true hyk)
 omega
theorem Fj {ls:List Ls}{k:Nat}(h:qQ ls k=true):∃hi:jJ ls k<ls.length,ls[jJ ls k].key=k:=by
 unfold qQ at h;cases he:ls[jJ ls k]? with
 | none=>rw[he]at h;cases h
 | some x=>
  rw[he]at h;obtain⟨hi,hx⟩:=List.getElem?_eq_some_iff.1 he;exact⟨hi,by rw[hx];simpa using h⟩
theorem Ci {ls:List Ls}{k:Nat}(h:qQ ls k=false):∀y,ls[jJ ls k]? =some y->y.key≠k:=fun y hy=>by
 unfold qQ at h;rw[hy]at h;simpa using h
theorem GX {h:Hp}{l:Ls}{hd:Nat}(hh:qQ h.ls l.key=true)(hi:jJ h.ls l.key<h.ls.length):h.single l hd=some ({h with ls:=if h.ls[jJ h.ls l.key].p.length=1 then h.ls.eraseIdx (jJ h.ls l.key)else h.ls.set (jJ h.ls l.key) {h.ls[jJ h.ls l.key]with p:=h.ls[jJ h.ls l.key].p.dropLast}},h.ls[jJ h.ls l.key].p.getLastD 0):=by
 obtain⟨_,hx⟩:=Fj hh;unfold Hp.single;rw[gJ hi];simp only[hx,if_true]
theorem NW {h:Hp}{l:Ls}{hd:Nat}(hh:qQ h.ls l.key=false):h.single l hd=(h.lF l.z 0 l.t hd).map fun r=>(r.1.fill l hd 3,r.2):=by
 have h1:=Ci hh;unfold Hp.single;cases he:h.ls[jJ h.ls l.key]? with
 | none=>rfl
 | some x=>simp only[h1 x he,if_false]
end
section
def Link (xs:List Int):Int->List Int->Prop
 | p,[]=>p= -1
 | p,a::m=>p=a/\Link xs (xs.getD a.toNat 0) m
theorem Qh {n:Nat}{p:Int}:Uc n p 1=true↔0<=p/\p<n:=by
 unfold Uc;simp only[decide_eq_true_eq];omega
theorem xW {xs:List Int}{most:Int}:∀(f:Nat) (p:Int) (out l:List Int),iK xs most f p out=some l->∃m,l=out++m/\Link xs p m/\(∀a∈m,0<=a/\a<xs.length)/\(m≠[]->(l.length:Int)<=most)/\(out.Nodup->l.Nodup)
 | 0,_,_,_,h=>by simp[iK]at h
 | f+1,p,out,l,h=>by
  unfold iK at h;split at h
  ·rename_i hp;obtain rfl:=gP h;exact⟨[],by simp,hp,by simp,by simp,id⟩
  ·rename_i hp;split at h
   ·cases h
   ·rename_i hn;simp only[not_or,Bool.not_eq_false,Bool.not_eq_true]at hn;obtain⟨h1,h2,h3⟩:=hn;obtain⟨m,hm,hl,hr,hb,hd⟩:=xW f _ _ l h;have hpr:=Qh.1 h2;refine⟨p::m,by rw[hm];simp,⟨rfl,hl⟩,fun a ha=> ?_,fun _=> ?_,fun ho=>hd ?_⟩
    ·rcases List.mem_cons.1 ha with rfl | ha
     ·exact hpr
     ·exact hr a ha
    ·by_cases hme:m=[]
     ·subst hme;rw[hm];simp;omega
     ·exact hb hme
    ·rw[List.nodup_append];refine⟨ho,by simp,fun a ha b hb' e=> ?_⟩;simp only[List.mem_singleton]at hb';subst hb' e;unfold tN at h3;rw[List.contains_iff_mem.2 ha]at h3;cases h3
theorem xX {xs:List Int}{most:Int}:∀(m:List Int) (p:Int) (out:List Int) (f:Nat),Link xs p m->(∀a∈m,0<=a/\a<xs.length)->(m≠[]->((out++m).length:Int)<=most)->(out++m).Nodup->m.length+1<=f->iK xs most f p out=some (out++m)
 | [],p,out,f+1,hl,_,_,_,_=>by
  unfold iK;rw[if_pos (show p= -1 from hl),List.append_nil]
 | a::m,p,out,f+1,⟨hp,hl⟩,hr,hb,hd,hf=>by
  subst hp;have hpr:=hr p (by simp);have hb1:=hb (by simp);unfold iK;rw[if_neg (by omega),if_neg,xX m _ (out++[p]) f hl (fun a ha=>hr a (List.mem_cons_of_mem _ ha)) (fun _=>by simpa using hb1) (by simpa using hd) (by simpa using hf)]
  ·simp
  ·simp only[not_or,Bool.not_eq_false,Bool.not_eq_true];refine⟨by simp at hb1;omega,Qh.2 hpr,?_⟩;unfold tN;rw[<- Bool.not_eq_true,List.contains_iff_mem];intro hm;rw[List.nodup_append]at hd;exact hd.2.2 p hm p (by simp) rfl
 | [],_,_,0,_,_,_,_,h=>by simp at h
 | _::_,_,_,0,_,_,_,_,h=>by simp at h
theorem fJ {xs:List Int}{p most:Int}{l:List Int}:follow xs p most=some l↔Link xs p l/\(∀a∈l,0<=a/\a<xs.length)/\(l≠[]->(l.length:Int)<=most)/\l.Nodup:=by
 constructor
 ·intro h;obtain⟨m,hm,h1,h2,h3,h4⟩:=xW _ _ _ _ h;simp only[List.nil_append]at hm;subst hm;exact⟨h1,h2,h3,h4 (by simp)⟩
 ·rintro⟨h1,h2,h3,h4⟩;have h5:=BP xs.length l h4 h2;exact xX l p [] _ h1 h2 (by simpa using h3) (by simpa using h4) (by omega)
theorem Link.move {xs ys:List Int}:∀{m:List Int} {p:Int},Link xs p m->(∀a∈m,ys.getD a.toNat 0=xs.getD a.toNat 0)->Link ys p m
 | [],_,h,_=>h
 | a::m,_,⟨h1,h2⟩,he=>⟨h1,by rw[he a (by simp)];exact h2.move fun b hb=>he b (List.mem_cons_of_mem _ hb)⟩
theorem tX.move {s s':Sy}{c c':Ca}{x:Sl}(h:tX s c x)(hz:c'.z=c.z)(hr:c'.r=c.r)(ho:c'.o=c.o)(hl:∀b∈s.h.live,b∈s'.h.live)(hw:s'.w.length=s.w.length)(hs:∀a:Int,fU c x.p a=true->s'.w.getD a.toNat 0=s.w.getD a.toNat 0):tX s' c' x:=by
 obtain⟨b,hb,h1,h2⟩:=h.live;obtain⟨l,h3,h4,h5⟩:=h.chain;refine⟨⟨b,hl b hb,h1,by rw[ho];exact h2⟩,l,?_,h4,fun a ha=> ?_⟩
 ·rw[hr];rw[fJ]at h3 ⊢;rw[hw];exact⟨h3.1.move fun a ha=>hs a (h5 a ha),h3.2⟩
 ·have h6:=h5 a ha;unfold fU at h6 ⊢;rw[hz,hr];exact h6
theorem o8.move {s s':Sy}{c:Ca}(h:o8 s c)(hc:s'.h.aC=s.h.aC)(hs:∀x∈c.sl,tX s' c x):o8 s' c:=
 ⟨h.z,h.o,h.r,h.ns,h.nm,h.nr,by rw[hc];exact h.ac,h.sr,hs,h.aw,h.ad⟩
theorem bK.upd {s s':Sy}(hk:bK s){i:Nat}{c c':Ca}(hi:s.cs[i]? =some c)(hw:s'.w.length=4096)(hh:dZ s'.h)(hcs:s'.cs=s.cs.set i c')(hz:c'.z=c.z)(hn:c'.ns=c.ns)(hc:o8 s' c')(ho:∀d∈s.cs,o8 s' d)
 (hp:∀x∈c'.sl,(∃y∈c.sl,y.p=x.p)∨∀d∈s.cs,∀y∈d.sl,y.p≠x.p):bK s':=by
 obtain⟨hil,hic⟩:=List.getElem?_eq_some_iff.1 hi;have key:∀{R:Ca->Ca->Prop},s.cs.Pairwise R->(∀j (hj:j<s.cs.length),j<i->R s.cs[j] c->R s.cs[j] c')->(∀j (hj:j<s.cs.length),i<j->R c s.cs[j]->R c' s.cs[j])->s'.cs.Pairwise R:=fun{R} h1 h2 h3=>by
  rw[hcs];rw[gN]at h1 ⊢;intro j k hj hk' hjk;rw[List.length_set]at hj hk';have h4:=h1 j k hj hk' hjk;rw[List.getElem_set,List.getElem_set];split
  ·rename_i e;subst e;rw[if_neg (by omega)];exact h3 k hk' hjk (by rw[<- hic];exact h4)
  ·split
   ·rename_i e;subst e;exact h2 j hj hjk (by rw[<- hic];exact h4)
   ·exact h4
 refine⟨hw,hh,by rw[hcs,List.length_set];exact hk.cl,fun d hd=> ?_,key hk.zd (fun _ _ _ h=>by rw[hz];exact h) (fun _ _ _ h=>by rw[hz];exact h),key hk.nd (fun _ _ _ h=>by rw[hn];exact h) (fun _ _ _ h=>by rw[hn];exact h),key hk.pd (fun j hj _ h x hx y hy=> ?_) (fun j hj _ h x hx y hy=> ?_)⟩
 ·rw[hcs]at hd;rcases List.mem_or_eq_of_mem_set hd with h | rfl
  ·exact ho d h
  ·exact hc
 ·rcases hp y hy with ⟨y',hy',e⟩ | h'
  ·rw[<- e];exact h x hx y' hy'
  ·exact h' _ (gL hj) x hx
 ·rcases hp x hx with ⟨x',hx',e⟩ | h'
  ·rw[<- e];exact h x' hx' y hy
  ·exact fun e=>h' _ (gL hj) y hy e.symm
end
section
open Go.RowKit
open Go.Maps (Keyed)
theorem wQ {H:Type}{P:Program}{e:TypeId}(he:P.underlying e=some .bool){v:Value}{z:DataW H×List MemPlace}(h:plainElem P e v=some z):∃x,v= .bool x/\z=(.lit (.bool x),[]):=by
 unfold plainElem at h;rw[he]at h;cases v <;> simp at h;exact⟨_,rfl,h.symm⟩
def eX (w:World)(P:Program)(k e:TypeId)(B n:Nat)(S:Lit->Prop):Prop:=
 ∃D:DataW Unit,w.ownsMap P k (plainElem P e) B n D/\Maps.IsMap D/\∀kl,WideAt.IsKeyLit kl->(S kl->D.atKey kl (.lit (.bool false))= .lit (.bool true))/\(¬S kl->D.atKey kl (.lit (.bool false))= .lit (.bool false))
section
variable {w w':World}{P:Program}{t k e:TypeId}{B n:Nat}{S:Lit->Prop}
theorem eX.made (w:World)(P:Program)(k e:TypeId):eX (w.alloc (.map #[] 0)) P k e w.heap.size 0 fun _=>False:=
 ⟨.map [],World.ownsMap_made w P k _,Maps.isMap_empty,fun kl _=>⟨fun h=>h.elim,fun _=>rfl⟩⟩
theorem eX.lt (h:eX w P k e B n S):B<w.heap.size:=by
 obtain⟨D,h1,_⟩:=h;exact h1.lt
theorem eX.kept {row:Option Nat}(h:eX w P k e B n S)(hg:w.grownBy w' row)(hne:some B≠row):eX w' P k e B n S:=by
 obtain⟨D,h1,h2⟩:=h;exact⟨D,h1.kept hg hne,h2⟩
theorem eX.below (h:eX w P k e B n S)(hb:Below w.heap.size w w'):eX w' P k e B n S:=
 h.kept (row:=none) ⟨hb.os,hb.tape,hb.output,hb.size,fun j hj _=>hb.block j hj⟩ (by simp)
theorem eX.imp {S':Lit->Prop}(h:eX w P k e B n S)(hs:∀x,S x↔S' x):eX w P k e B n S':=by
 obtain⟨D,h1,h2,h3⟩:=h;exact⟨D,h1,h2,fun kl hk=>⟨fun hx=>(h3 kl hk).1 ((hs kl).2 hx),fun hx=>(h3 kl hk).2 fun hy=>hx ((hs kl).1 hy)⟩⟩
theorem eX.out (h:eX w P k e B n S)(K:Keyed P k)(ht:P.underlying t=some (.map k e))(he:P.underlying e=some .bool)(hz:(zeroValue e).run P w= .ok (.bool false) w){key:Value}{kl:Lit}(hkey:keyOf P k key=some kl)(hk:WideAt.IsKeyLit kl)(hno:¬S kl):
 (Instr.lookup t (.map (some B)) key false).run P w= .ok (.bool false) w:=by
 obtain⟨D,h1,_,h3⟩:=h;obtain⟨v,ps,hrun,hv⟩:=h1.lookup K ht hz (plainElem_bool he false) hkey;obtain⟨x,rfl,hx⟩:=wQ he hv;have h4:=(h3 kl hk).2 hno;rw[h4]at hx;simp only[Prod.mk.injEq,DataW.lit.injEq,Lit.bool.injEq]at hx;rw[hrun,<- hx.1]
theorem eX.put (h:eX w P k e B n S)(K:Keyed P k)(ht:P.underlying t=some (.map k e))(he:P.underlying e=some .bool)(hn:n<maxLen){key:Value}{kl:Lit}(hkey:keyOf P k key=some kl)(hk:WideAt.IsKeyLit kl):
 ∃w',(Instr.mapUpdate t (.map (some B)) key (.bool true)).run P w= .ok () w'/\eX w' P k e B (n+1) (fun x=>x=kl∨S x)/\w.grownBy w' (some B):=by
 obtain⟨D,h1,h2,h3⟩:=h;obtain⟨w',hrun,ho,hg⟩:=h1.update K ht hn hkey (plainElem_bool he true);refine⟨w',hrun,⟨_,ho,h2.put _ _,fun x hx=> ?_⟩,hg⟩;by_cases hxk:x=kl
 ·subst hxk;exact⟨fun _=>Maps.atKey_put_same h2 hk _ _,fun h=>absurd (Or.inl rfl) h⟩
 ·rw[Maps.atKey_put_other hxk];exact⟨fun h=>(h3 x hx).1 (h.resolve_left hxk),fun h=>(h3 x hx).2 fun hs=>h (Or.inr hs)⟩
end
end
section
open Go.RowKit
structure Rs where
 e:TypeId
 k:Nat
 v:Value
 n:Nat
 xs:List Value
def Rs.on (r:Rs)(W:World)(base:Nat):Prop:=W.ownsRow base r.e r.k r.v r.n r.xs
def Rs.off (a b:Rs):Prop:=∀g,a.v.ownBlock=some g->b.v.ownBlock≠some g
theorem Rs.off.symm {a b:Rs}(h:a.off b):b.off a:=fun g h1 h2=>h g h2 h1
structure dJ (W:World)(base:Nat)(rs:List Rs):Prop where
 each:∀r∈rs,r.on W base
 FP:rs.Pairwise Rs.off
section
variable {W W':World}{kQ:Nat}{rs:List Rs}
theorem dJ.below (h:dJ W kQ rs)(hb:Below W.heap.size W W'):dJ W' kQ rs:=⟨fun r hr=>own_below (h.each r hr) hb (Nat.le_refl _),h.FP⟩
theorem dJ.base {base':Nat}(h:dJ W kQ rs)(hb:base'<=kQ):dJ W base' rs:=⟨fun r hr=>own_base (h.each r hr) hb,h.FP⟩
theorem dJ.ne (h:dJ W kQ rs){g:Nat}(hg:g<kQ∨W.heap.size<=g):∀r∈rs,r.v.ownBlock≠some g:=fun r hr=>own_ne (h.each r hr) hg
theorem dJ.far (h:dJ W kQ rs){g:Nat}(hg:∀r∈rs,r.v.ownBlock≠some g)(i:Nat)(u:Value):dJ (W.setCell ⟨g,i,none⟩ u) kQ rs:=⟨fun r hr=>bI (h.each r hr) (hg r hr) u,h.FP⟩
theorem dJ.at (h:dJ W kQ rs){i:Nat}(hi:i<rs.length):rs[i].on W kQ:=h.each _ (gL hi)
theorem dJ.off (h:dJ W kQ rs){i j:Nat}(hi:i<rs.length)(hj:j<rs.length)(hne:i≠j):rs[i].off rs[j]:=by
 rcases Nat.lt_or_gt_of_ne hne with hlt | hgt
 ·exact List.pairwise_iff_getElem.1 h.FP i j hi hj hlt
 ·exact(List.pairwise_iff_getElem.1 h.FP j i hj hi hgt).symm
theorem Ib {rs:List Rs}{i:Nat}{r':Rs}(hd:rs.Pairwise Rs.off)(hi:i<rs.length)(h:∀j (hj:j<rs.length),j≠i->r'.off rs[j]):(rs.set i r').Pairwise Rs.off:=by
 rw[gN];intro a b ha hb hab;rw[List.length_set]at ha hb;rw[List.getElem_set,List.getElem_set];by_cases h1:i=a
 ·subst h1;rw[if_pos rfl,if_neg (by omega)];exact h b hb (by omega)
 ·rw[if_neg h1];by_cases h2:i=b
  ·subst h2;rw[if_pos rfl];exact(h a ha (by omega)).symm
  ·rw[if_neg h2];exact List.pairwise_iff_getElem.1 hd a b ha hb hab
theorem wY {rs:List Rs}{i:Nat}{r' r:Rs}(h:r∈rs.set i r'):r=r'∨∃j,∃(hj:j<rs.length),j≠i/\r=rs[j]:=by
 obtain⟨j,hj,rfl⟩:=List.getElem_of_mem h;rw[List.length_set]at hj;rw[List.getElem_set];by_cases h1:i=j
 ·rw[if_pos h1];exact .inl rfl
 ·rw[if_neg h1];exact .inr ⟨j,hj,fun e=>h1 e.symm,rfl⟩
theorem dJ.grown (h:dJ W kQ rs){i:Nat}(hi:i<rs.length){r':Rs}(hg:W.grownBy W' rs[i].v.ownBlock)(ho:r'.on W' kQ)(hn:∀g,r'.v.ownBlock=some g->rs[i].v.ownBlock=some g∨W.heap.size<=g):dJ W' kQ (rs.set i r'):=by
 have hoff:∀j (hj:j<rs.length),j≠i->r'.off rs[j]:=fun j hj hne g h1 h2=>by
  rcases hn g h1 with h3 | h3
  ·exact h.off hi hj (fun e=>hne e.symm) g h3 h2
  ·exact own_ne (h.at hj) (.inr h3) h2
 refine⟨fun r hr=> ?_,Ib h.FP hi hoff⟩;rcases wY hr with rfl | ⟨j,hj,hne,rfl⟩
 ·exact ho
 ·exact iW (h.at hj) hg (fun k hk e=>h.off hi hj (fun e=>hne e.symm) k e hk)
theorem dJ.swap (h:dJ W kQ rs){i:Nat}(hi:i<rs.length){r':Rs}{bs:Nat}(ho:r'.on W bs)(hb:kQ<=bs)(hbs:∀j (hj:j<rs.length),j≠i->∀g,rs[j].v.ownBlock=some g->g<bs):dJ W kQ (rs.set i r'):=by
 refine⟨fun r hr=> ?_,Ib h.FP hi fun j hj hne g h1 h2=> ?_⟩
 ·rcases wY hr with rfl | ⟨j,hj,hne,rfl⟩
  ·exact own_base ho hb
  ·exact h.at hj
 ·have h3:=hbs j hj hne g h2;have h4:=(ho.lt g h1).1;omega
theorem dJ.cell (h:dJ W kQ rs){i:Nat}(hi:i<rs.length){g:Nat}{c:Nat}(hv:rs[i].v= .slice (some ⟨g,0,none⟩) rs[i].n c)(j:Nat)(u:Value)(hu:u.oneCell'=true):dJ (W.setCell ⟨g,j,none⟩ u) kQ (rs.set i {rs[i]with xs:=rs[i].xs.set j u}):=by
 have hb:rs[i].v.ownBlock=some g:=by rw[hv];rfl
 refine⟨fun r hr=> ?_,Ib h.FP hi fun j' hj' hne=>h.off hi hj' (fun e=>hne e.symm)⟩;rcases wY hr with rfl | ⟨j',hj',hne,rfl⟩
 ·have h0:=h.at hi;unfold Rs.on at*;simp only;rw[hv]at h0;have h1:=(World.ownsRow.stored h0 j u).1;rw[hv];exact h1
 ·exact bI (h.at hj') (h.off hi hj' (fun e=>hne e.symm) g hb) u
theorem dJ.cons (h:dJ W kQ rs){r':Rs}{bs:Nat}(ho:r'.on W bs)(hb:kQ<=bs)(hbs:∀r∈rs,∀g,r.v.ownBlock=some g->g<bs):dJ W kQ (r'::rs):=
 ⟨fun r hr=>by
  rw[List.mem_cons]at hr;rcases hr with rfl | hr
  ·exact own_base ho hb
  ·exact h.each r hr,List.pairwise_cons.2 ⟨fun r hr g h1 h2=>by have h3:=hbs r hr g h2;have h4:=(ho.lt g h1).1;omega,h.FP⟩⟩
theorem dJ.sub {rs':List Rs}(h:dJ W kQ rs)(hs:rs'.Sublist rs):dJ W kQ rs':=⟨fun r hr=>h.each r (hs.subset hr),h.FP.sublist hs⟩
theorem dJ.perm {rs':List Rs}(h:dJ W kQ rs)(hp:rs.Perm rs'):dJ W kQ rs':=⟨fun r hr=>h.each r (hp.mem_iff.2 hr),(hp.pairwise_iff (fun h=>Rs.off.symm h)).1 h.FP⟩
theorem dJ.nil (W:World)(kQ:Nat):dJ W kQ []:=⟨fun r hr=>by simp at hr,List.Pairwise.nil⟩
theorem dJ.lt (h:dJ W kQ rs):∀r∈rs,∀g,r.v.ownBlock=some g->kQ<=g/\g<W.heap.size:=fun r hr g hg=>(h.each r hr).lt g hg
end
end
section
theorem uX:∀(a b:List Nat) (h:Hp),aU h (a++b)=aU (aU h a) b
 | [],_,_=>rfl
 | p::a,b,h=>by rw[List.cons_append,aU,aU,uX a b]
theorem wJ:∀(a b:List Ls) (h:Hp),bW h (a++b)=bW (bW h a) b
 | [],_,_=>rfl
 | l::a,b,h=>by rw[List.cons_append,bW,bW,wJ a b]
theorem yP (h:Hp)(l:List Nat){j:Nat}(hj:j<l.length):aU h (l.take (j+1))=(aU h (l.take j)).iT l[j] 0:=by
 rw[List.take_succ_eq_append_getElem hj,uX];rfl
theorem KN (h:Hp)(l:List Ls){i:Nat}(hi:i<l.length):bW h (l.take (i+1))=aU (bW h (l.take i)) l[i].p:=by
 rw[List.take_succ_eq_append_getElem hi,wJ];rfl
theorem OI {h:Hp}(hk:dZ h){a o:Nat}(hb:cZ 0 256 a o)(hd:∀p,cnt h.all p+hit ⟨a,o,0⟩ p<=1):(h.zone (h.iR a)).ok/\cZ (h.zone (h.iR a)).f (h.zone (h.iR a)).e a o/\∀x∈(h.zone (h.iR a)).l,apartB a o x:=
 ⟨hk.zone _,hk.fits hb,fun x hx=>dG fun p h1 h2=>by
  have g1:=hd p;have g2:=BU h (h.iR a) p;have g3:=iL.2 (show fG (h.zone (h.iR a)).l p from⟨x,hx,h2⟩);have g4:hit ⟨a,o,0⟩ p=1:=jI.2 h1;omega⟩
theorem wK {h:Hp}(hk:dZ h){a o:Nat}(m:List Ls)(hb:cZ 0 256 a o)(hd:∀p,cnt h.all p+hit ⟨a,o,0⟩ p<=1):(({h with ls:=m}:Hp).zone (({h with ls:=m}:Hp).iR a)).ok/\cZ (({h with ls:=m}:Hp).zone (({h with ls:=m}:Hp).iR a)).f (({h with ls:=m}:Hp).zone (({h with ls:=m}:Hp).iR a)).e a o/\∀x∈(({h with ls:=m}:Hp).zone (({h with ls:=m}:Hp).iR a)).l,apartB a o x:=OI hk hb hd
theorem Bd {h:Hp}(hk:dZ h){i:Nat}(hi:i<h.ls.length){j:Nat}(hj:j<h.ls[i].p.length):
 ((aU (bW h (h.ls.take i)) (h.ls[i].p.take j)).zone ((aU (bW h (h.ls.take i)) (h.ls[i].p.take j)).iR h.ls[i].p[j])).ok/\cZ ((aU (bW h (h.ls.take i)) (h.ls[i].p.take j)).zone ((aU (bW h (h.ls.take i)) (h.ls[i].p.take j)).iR h.ls[i].p[j])).f ((aU (bW h (h.ls.take i)) (h.ls[i].p.take j)).zone ((aU (bW h (h.ls.take i)) (h.ls[i].p.take j)).iR h.ls[i].p[j])).e h.ls[i].p[j] 0/\∀x∈((aU (bW h (h.ls.take i)) (h.ls[i].p.take j)).zone ((aU (bW h (h.ls.take i)) (h.ls[i].p.take j)).iR h.ls[i].p[j])).l,apartB h.ls[i].p[j] 0 x:=by
 have hp:∀l∈h.ls,∀p∈l.p,p<256:=fun l hl p hp=>((hk.lr l hl).2.2.2.2.2 p hp).1
 have hc:∀q,cnt ({h with ls:=[]}:Hp).all q+cnt (lsB h.ls) q=cnt h.all q:=fun q=>by
  rw[dI,dI];simp only[lsB,cnt];omega
 have hsp:∀q,cnt (lsB h.ls) q=cnt (lsB (h.ls.take i)) q+cnt (kR h.ls[i].p) q+cnt (lsB (h.ls.drop (i+1))) q:=fun q=>by
  have h1:=BZ hi;have h2:cnt (lsB h.ls) q=cnt (lsB (h.ls.take i++h.ls[i]::h.ls.drop (i+1))) q:=congrArg (fun l=>cnt (lsB l) q) h1;rw[jU,iD]at h2;omega
 have hpp:∀q,cnt (kR h.ls[i].p) q=cnt (kR (h.ls[i].p.take j)) q+hit ⟨h.ls[i].p[j],0,0⟩ q+cnt (kR (h.ls[i].p.drop (j+1))) q:=fun q=>by
  have h1:h.ls[i].p=h.ls[i].p.take j++([h.ls[i].p[j]]++h.ls[i].p.drop (j+1)):=by
   rw[List.singleton_append,List.getElem_cons_drop,List.take_append_drop]
  have h2:cnt (kR h.ls[i].p) q=cnt (kR (h.ls[i].p.take j++([h.ls[i].p[j]]++h.ls[i].p.drop (j+1)))) q:=congrArg (fun l=>cnt (kR l) q) h1;rw[iU,iU,AL]at h2;omega
 obtain⟨a1,a2,a3,a4,a5⟩:=hk.GV.bW (h.ls.take i) (fun l hl p hx=>hp l (List.mem_of_mem_take hl) p hx) (fun q=>by have h1:=hc q;have h2:=hsp q;have h3:=hk.one q;omega);obtain⟨b1,b2,b3,b4,b5⟩:=a1.aU (h.ls[i].p.take j) (fun p hx=>hp _ (gL hi) p (List.mem_of_mem_take hx)) (fun q=>by rw[a2];have h1:=hc q;have h2:=hsp q;have h3:=hk.one q;have h4:=hpp q;omega);have e:aU (bW h (h.ls.take i)) (h.ls[i].p.take j)={aU (bW {h with ls:=[]} (h.ls.take i)) (h.ls[i].p.take j)with ls:=h.ls}:=by
  rw[<- jV,<- zF]
 rw[e];exact wK b1 h.ls (qR (hp _ (gL hi) _ (gL hj))) (fun q=>by rw[b2,a2];have h1:=hc q;have h2:=hsp q;have h3:=hk.one q;have h4:=hpp q;omega)
theorem Dj (h:Hp)(l:List Ls):(bW h l).ls=h.ls/\(bW h l).live=h.live:=by
 have hB:∀(g:Hp) (a o:Nat),(g.iT a o).ls=g.ls/\(g.iT a o).live=g.live:=fun g a o=>by
  unfold Hp.iT Hp.jD;split <;> exact⟨rfl,rfl⟩
 have hA:∀(ps:List Nat) (g:Hp),(aU g ps).ls=g.ls/\(aU g ps).live=g.live:=by
  intro ps
  induction ps with
  | nil=>intro g;exact⟨rfl,rfl⟩
  | cons p ps ih=>intro g;rw[aU];exact⟨(ih _).1.trans (hB g p 0).1,(ih _).2.trans (hB g p 0).2⟩
 induction l generalizing h with
 | nil=>exact⟨rfl,rfl⟩
 | cons x l ih=>rw[bW];exact⟨(ih _).1.trans (hA _ _).1,(ih _).2.trans (hA _ _).2⟩
end
section
open Go.RowKit
def WZ (b:Bt)(p:Nat):Bool:=dA b.m p&& !dA b.r p
def iC (b:Bt):List Rg:=dK (WZ b)
set_option maxHeartbeats 2000000 in
set_option maxRecDepth 100000 in
theorem TI (a1 a2:Option Addr)(n1 n2 c1 c2:Nat)(b:Bt)(w:World)(hat:DW w a1 a2 n1 n2 b)(h1:dF b.m=true)(h2:dF b.r=true):
 Calls Tryz.prog 56 #[.agg #[.slice a1 n1 c1,.slice a2 n2 c2]] w fun e w'=>∃a' c',e= .returned (.tuple #[.slice a' (iC b).length c',.int .i64 0])/\w'.ownsRow w.heap.size 55 2 (.slice a' (iC b).length c') (iC b).length (flat gZ (iC b))/\Below w.heap.size w w':=by
 have hb1:=xI h1;have hb2:=xI h2;obtain⟨K0,F0,hsz,hbw⟩:=boxes1 w #[.slice a1 n1 c1,.slice a2 n2 c2] 27;obtain⟨l1,l2,q1,q2⟩:=hat.below hbw;have aEb:=sQ h1;have aEc:=sQ h2;have hok1:=mZ h1;have hok2:=mZ h2;generalize hF:iC b=F;have HF:=gO hF;clear hat hF;go_enter Tryz.func56,Tryz.ntmps56
 go_wp2_with fail
 generalize w.alloc _=w0 at*;refine(yR _ _ _ _ _ _ b.m b.r _ l1 l2 (by omega) (by omega) q1 q2 aEb aEc h1 h2).mono ?_;rintro e w1 ⟨rfl,hb1'⟩;have K0a:=aB K0 hsz hb1';have q1a:=q1.below hb1';have q2a:=q2.below hb1';have wV:=Below.step hbw hb1';have hsz1:w.heap.size<w1.heap.size:=gI hsz hb1'.size;clear K0 F0 q1 q2 aEb aEc hb1' h1 h2;have LK0:∀W,Below w1.heap.size w1 W->∀o,W.cell? ⟨w.heap.size,o,none⟩=(#[.slice a1 n1 c1,.slice a2 n2 c2]:Array Value)[o]? :=fun W h o=>aB K0a hsz1 h o
 go_upto_region 4 with fail
 go_cut [5,6] (fun s5 s6 wx=>∃(g5 g6:Nat) (c5 c6:Nat),s5= .slice (some ⟨g5,0,none⟩) 256 c5/\s6= .slice (some ⟨g6,0,none⟩) 256 c6/\wx.ownsRow w1.heap.size 4 1 (.slice (some ⟨g5,0,none⟩) 256 c5) 256 ((bl (dA b.m)).map vB)/\wx.ownsRow w1.heap.size 4 1 (.slice (some ⟨g6,0,none⟩) 256 c6) 256 ((bl (dA b.r)).map vB)/\g5≠g6/\Below w1.heap.size w1 wx)
 case first=>
  go_region_held3 (fun W=>Below w1.heap.size w1 W) ((repeat (first | assumption | exact Below.refl _ _ | apply Below.drew | refine Below.step ?_ (by assumption)))) (first | (go_at_call_of 101 (Value.slice a1 n1 c1);refine(Gl _ _ _ b.m _ l1 (q1a.below (by assumption)) hok1 (by omega)).mono ?_;rintro e wm ⟨am,cm,rfl,BF,hbm⟩) | (go_at_call_of 101 (Value.slice a2 n2 c2);refine(Gl _ _ _ b.r _ l2 (q2a.below (by assumption)) hok2 (by omega)).mono ?_;rintro e wr ⟨ar,cr,rfl,hor,hbr⟩))
  all_goals (go_wp2_with fail;go_meet)
  ·obtain⟨g5,_,rfl,hg5,hs5,_,_⟩:=fA BF 0 (by rw[List.length_map,kK];omega);obtain⟨g6,_,rfl,hg6,hs6,_,_⟩:=fA hor 0 (by rw[List.length_map,kK];omega);exact⟨g5,g6,cm,cr,rfl,rfl,own_base (own_below BF hbr (Nat.le_refl _)) (Nat.le_refl _),own_base hor (by have:=hbm.size;simpa using this),by omega,by assumption⟩
 case rest=>
  obtain⟨g5,g6,c5,c6,rfl,rfl,ho5,ho6,hne,hbx⟩:=hcut;have hbw2:=Below.step wV hbx;have HO5:=gO ho5;have HO6:=gO ho6;clear LK0 K0a q1a q2a hok1 hok2 ho5 ho6;go_wp2
  go_loopw [7,21] (fun _ s21 wq=>∃i:Nat,i<=256/\s21= .int .i64 i/\Hid (wq.ownsRow w1.heap.size 4 1 (.slice (some ⟨g5,0,none⟩) 256 c5) 256 ((bl (fun p=>dA b.m p&& !(decide (p<i)&&dA b.r p))).map vB))/\Hid (wq.ownsRow w1.heap.size 4 1 (.slice (some ⟨g6,0,none⟩) 256 c6) 256 ((bl (dA b.r)).map vB))/\Below w.heap.size w wq) (fun _ s21 _=>256-(intOf s21).toNat)
  case atStart=>
   refine⟨0,by omega,rfl,?_,HO6,hbw2⟩;rw[show bl (fun p=>dA b.m p&& !(decide (p<0)&&dA b.r p))=bl (dA b.m)from vF fun p _=>by simp];exact HO5
  case round=>
   obtain⟨i,hi,rfl,hown5,hown6,hb3⟩:=hrel;clear HO5 HO6;by_cases hlt:i<256
   ·obtain⟨b5,off5,e5,hb5,hc5⟩:=IU (aY hown5.out) hlt;obtain⟨rfl,rfl⟩:g5=b5/\0=off5:=by simpa using e5
    obtain⟨b6,off6,e6,hb6,hc6⟩:=IU (aY hown6.out) hlt;obtain⟨rfl,rfl⟩:g6=b6/\0=off6:=by simpa using e6
    obtain⟨g,v,eg,hg,hgs,hcg,hfg⟩:=fA hown5.out i (by rw[List.length_map,kK];omega);obtain rfl:g5=g:=by simpa using eg
    rw[decide_eq_false (show ¬i<i by omega),Bool.false_and,Bool.not_false,Bool.and_true,Nat.zero_add]at hc5;rw[Nat.zero_add]at hc6;have HN:Hid (∀v,v=(dA b.m i&& !dA b.r i)->((wr.setCell ⟨g5,i,none⟩ (.bool v)).ownsRow w1.heap.size 4 1 (.slice (some ⟨g5,0,none⟩) 256 c5) 256 ((bl (fun p=>dA b.m p&& !(decide (p<i+1)&&dA b.r p))).map vB))):=fun v hv=>by
     have h:=(World.ownsRow.stored hown5.out i (vB v)).1;rw[<- List.map_set,WX]at h;rw[show bl (fun p=>dA b.m p&& !(decide (p<i+1)&&dA b.r p))=bl (fun p=>if p=i then v else dA b.m p&& !(decide (p<i)&&dA b.r p))from vF fun p _=>by
      by_cases e:p=i
      ·subst e;rw[if_pos rfl,hv,decide_eq_true (Nat.lt_succ_self p),Bool.true_and]
      ·rw[if_neg e,decide_eq_decide.2 (show p<i+1↔p<i by omega)]]
     exact h
    have HM:Hid (∀v,((wr.setCell ⟨g5,i,none⟩ (.bool v)).ownsRow w1.heap.size 4 1 (.slice (some ⟨g6,0,none⟩) 256 c6) 256 ((bl (dA b.r)).map vB))):=fun v=>bI hown6.out (by simp[Value.ownBlock];exact fun h=>hne h.symm) _
    have hz:=wV.size;clear hown5 hown6 hcg e5 e6 eg;cases hm:dA b.m i with
    | false=>
     rw[hm]at hc5;go_wp2
     go_roundw
     case rel=>exact⟨i+1,by omega,by go_num,HN.out _ (by rw[hm];rfl),HM.out _,hb3.setCell (by simp only;omega) _⟩
     case measure=>simp[intOf];omega
    | true=>
     rw[hm]at hc5;cases hr:dA b.r i with
     | false=>
      rw[hr]at hc6;go_wp2
      go_roundw
      case rel=>exact⟨i+1,by omega,by go_num,HN.out _ (by rw[hm,hr];rfl),HM.out _,hb3.setCell (by simp only;omega) _⟩
      case measure=>simp[intOf];omega
     | true=>
      rw[hr]at hc6;go_wp2
      go_roundw
      case rel=>exact⟨i+1,by omega,by go_num,HN.out _ (by rw[hm,hr];rfl),HM.out _,hb3.setCell (by simp only;omega) _⟩
      case measure=>simp[intOf];omega
   ·obtain rfl:i=256:=by omega
    have hrow:=aY hown5.out;clear hown5 hown6;go_wp2_with fail
    refine(Me _ _ _ _ hrow).mono ?_;rw[show dK (fun p=>dA b.m p&& !(decide (p<256)&&dA b.r p))=F from by
     rw[<- HF.out];exact tH fun p hp=>by rw[decide_eq_true hp,Bool.true_and];rfl]
    rintro e w5 ⟨a',c',rfl,hown5,hb6⟩;have H5:=gO (own_base hown5 hb3.size);clear hown5;go_wp2
    go_ret2
    exact⟨a',c',rfl,H5.out,Below.step hb3 hb6⟩
end
section
theorem nM {z:Zn}{p n:Nat}(h:z.ok)(hd:∀q,p<=q->q<p+n->¬fG z.l q)(hp:z.f<=p)(hn:p+n<=z.e):∀i,i<=n->(dW z p i).ok/\(dW z p i).f=z.f/\(dW z p i).e=z.e/\∀q,fG (dW z p i).l q↔(fG z.l q∨(p<=q/\q<p+i))
 | 0,_=>⟨h,rfl,rfl,fun q=>by
  show fG z.l q↔_;constructor
  ·exact .inl
  ·rintro(h | h)
   ·exact h
   ·omega⟩
 | i+1,hi=>by
  obtain⟨g1,g2,g3,g4⟩:=nM h hd hp hn i (by omega);have hfit:cZ (dW z p i).f (dW z p i).e (p+i) 0:=by rw[g2,g3];exact⟨by omega,by omega,by omega,by simp[Nat.mod_one]⟩
  have hap:∀x∈(dW z p i).l,apartB (p+i) 0 x:=fun x hx=>dG fun q hq hxq=>by
   unfold inB at hq;simp only[Nat.pow_zero]at hq;rcases(g4 q).1 ⟨x,hx,hxq⟩with h1 | h1
   ·exact hd q (by omega) (by omega) h1
   ·omega
  obtain⟨k1,k2⟩:=Zn.rV g1 hfit hap;refine⟨k1,g2,g3,fun q=> ?_⟩;show fG ((dW z p i).back (p+i) 0).l q↔_;rw[k2,g4];unfold inB;simp only[Nat.pow_zero,or_assoc];constructor
  ·rintro(h | h | h)
   ·exact .inl h
   ·exact .inr (by omega)
   ·exact .inr (by omega)
  ·rintro(h | h)
   ·exact .inl h
   ·exact .inr (by omega)
theorem Pz {z:Zn}{p n i:Nat}(h:z.ok)(hd:∀q,p<=q->q<p+n->¬fG z.l q)(hp:z.f<=p)(hn:p+n<=z.e)(hi:i<n):cZ (dW z p i).f (dW z p i).e (p+i) 0/\∀x∈(dW z p i).l,apartB (p+i) 0 x:=by
 obtain⟨g1,g2,g3,g4⟩:=nM h hd hp hn i (by omega);refine⟨by rw[g2,g3];exact⟨by omega,by omega,by omega,by simp[Nat.mod_one]⟩,fun x hx=>dG fun q hq hxq=> ?_⟩;unfold inB at hq;simp only[Nat.pow_zero]at hq;rcases(g4 q).1 ⟨x,hx,hxq⟩with h1 | h1
 ·exact hd q (by omega) (by omega) h1
 ·omega
end
section
open Go.RowKit
attribute [local go_sem ↓] jG
def vN (xs:List Int)(p q n:Nat):List Int:=xs.take p++(xs.drop q).take n++xs.drop (p+n)
set_option maxRecDepth 100000 in
theorem Zj (a:Option Addr)(cap:Nat)(xs:List Int)(p q n:Nat)(w:World)(hl:xs.length<=1000000)(hcap:xs.length<=cap)(hr:Row w a (xs.map vI))(hp:p+n<=xs.length)(hq:q+n<=xs.length):
 Calls Tryz.prog 93 #[.slice a xs.length cap,.int .i64 p,.int .i64 q,.int .i64 n] w fun e w'=>∃a' c',e= .returned (.tuple #[.slice a' xs.length c',.int .i64 0])/\w'.ownsRow w.heap.size 3 1 (.slice a' xs.length c') xs.length ((vN xs p q n).map vI)/\Below w.heap.size w w':=by
 have h1:Uc xs.length p n=true:=decide_eq_true (by omega);have h2:Uc xs.length q n=true:=decide_eq_true (by omega);go_enter Tryz.func93,Tryz.ntmps93
 go_wp2_with (first | (go_at_call 142;refine(BN _ _ _ _ _ _ (by omega) (by omega) (by omega)).mono ?_;rintro e w' ⟨rfl,rfl⟩) | (go_at_call 85;refine(EU _ _ _ _ (by omega) hr).mono ?_;rintro e w1 ⟨a',c',rfl,hown,hb⟩;have HO:=gO hown;have hcc:=dQ hown;clear hown))
 have s1:IntKind.i64.wrap ((p:Int)+n)=(p:Int)+n:=IntWalk.i64_in _ (by omega);have s2:IntKind.i64.wrap ((q:Int)+n)=(q:Int)+n:=IntWalk.i64_in _ (by omega);have b1:(p:Int)+n<=(c':Int):=by omega
 have b2:(q:Int)+n<=(cap:Int):=by omega
 have b3:(p:Int)<=p+n:=by omega
 have b4:(q:Int)<=q+n:=by omega
 go_still_tail 12,(by kernel_rfl)
 change wpList _ _ _ _ _ w1.drew;have e1:((p:Int)+n).toNat-p=n:=by omega
 have e2:((q:Int)+n).toNat-q=n:=by omega
 rw[e1,e2];have hd:Below w.heap.size w w1.drew:=hb.drew;have HO2:=own_below HO.out ((Below.refl w1.heap.size w1).drew) (Nat.le_refl _);have hrow:=(hr.below hd).cut q cap 1 n (by omega);generalize w1.drew=w2 at hd HO2 hrow;have hsz:(Tryz.prog.info? 3).map (·.size)=some 1:=by kernel_rfl
 have hlen:(((xs.drop q).take n).map vI).length=n:=by simp;omega
 refine Rh rfl _ _ 39 39 rfl 3 Tryz.underlying39 1 hsz _ _ n _ n _ rfl rfl (((xs.drop q).take n).map vI) (by rw[hlen];simp) ?_ (Uo _) w.heap.size xs.length c' p a' (xs.map vI) HO2 ?_ ?_ (by rw[hlen];omega) ?_
 ·rw[Nat.mul_one,<- List.map_drop,<- List.map_take]at hrow;exact hrow
 ·intro h0;rw[hlen]at h0;unfold bY;rw[if_neg (by omega)]
 ·intro hn;by_cases h0:n=0
  ·subst h0;simp
  ·exfalso;unfold bY at hn;rw[if_neg (by omega)]at hn;obtain⟨g,e,_⟩:=oI HO2 0 (by simp;omega);rw[e]at hn;cases hn
 ·intro w3 hown hgrow;have hb3:Below w.heap.size w w3:=below_grown hd HO2 hgrow (Nat.le_refl _) hd.size;have H3:w3.ownsRow w.heap.size 3 1 (.slice a' xs.length c') xs.length ((vN xs p q n).map vI):=by
   rw[hlen]at hown;simp only[vN,List.map_append,List.map_take,List.map_drop,Nat.mul_one]at hown ⊢;exact hown
  have HH:=gO H3;clear H3 hown hgrow hrow HO HO2;go_wp2
  go_ret2
  exact⟨a',c',rfl,HH.out,hb3⟩
end
section
open Go.RowKit
def BM (a b c:Int):Bt:=⟨[⟨pk a 20,40+pk b 60⟩,⟨130+pk c 10,16+pk a 90⟩],[⟨pk a 20+pk c 30,1+pk a 7⟩,⟨150+pk b 9,1+pk c 5⟩]⟩
theorem jC (n:Int){m:Int}(h:1<=m):0<=pk n m/\pk n m<m:=⟨qN n m h,Uk n m h⟩
theorem Qa (a b c:Int):dF (BM a b c).m=true/\dF (BM a b c).r=true:=by
 have h1:=jC a (m:=20) (by decide);have h2:=jC b (m:=60) (by decide);have h3:=jC c (m:=10) (by decide);have h4:=jC a (m:=90) (by decide);have h5:=jC c (m:=30) (by decide);have h6:=jC a (m:=7) (by decide);have h7:=jC b (m:=9) (by decide);have h8:=jC c (m:=5) (by decide);have e1:dD none (BM a b c).m=true:=by
  simp[BM,dD,II,xH];omega
 have e2:dD none (BM a b c).r=true:=by
  simp[BM,dD,II,xH];omega
 exact⟨by unfold dF;rw[e1];rfl,by unfold dF;rw[e2];rfl⟩
set_option maxHeartbeats 4000000 in
set_option maxRecDepth 100000 in
theorem Xu (a b c:Int)(w:World)(ha: -9223372036854775808<=a/\a<=9223372036854775807)(hb: -9223372036854775808<=b/\b<=9223372036854775807)(hc: -9223372036854775808<=c/\c<=9223372036854775807):
 Calls Tryz.prog 26 #[.int .i64 a,.int .i64 b,.int .i64 c] w fun ev w'=>∃a1 c1 a2 c2,ev= .returned (.agg #[.slice a1 2 c1,.slice a2 2 c2,.int .i64 (16*pk a 9),.int .i64 (pk b 12),.int .i64 (1+pk c 4)])/\DW w' a1 a2 2 2 (BM a b c)/\Below w.heap.size w w':=by
 have h1:=jC a (m:=20) (by decide);have h2:=jC b (m:=60) (by decide);have h3:=jC c (m:=10) (by decide);have h4:=jC a (m:=90) (by decide);have h5:=jC c (m:=30) (by decide);have h6:=jC a (m:=7) (by decide);have h7:=jC b (m:=9) (by decide);have h8:=jC c (m:=5) (by decide);have h9:=jC a (m:=9) (by decide);have h10:=jC b (m:=12) (by decide);have h11:=jC c (m:=4) (by decide);go_enter Tryz.func26,Tryz.ntmps26
 go_wp2_with (go_at_call 28;refine(wP _ _ _ (by omega) (by omega) (by decide) (by decide)).mono ?_;rintro e w' ⟨rfl,rfl⟩)
 have b1:=aF w (.cells #[.slice (some ⟨w.heap.size+1+1,0,none⟩) 2 2,.slice (some ⟨w.heap.size+1+1+1,0,none⟩) 2 2,.int .i64 (16*pk a 9),.int .i64 (pk b 12),.int .i64 (1+pk c 4)] 29);have k1:=aW w #[.slice (some ⟨w.heap.size+1+1,0,none⟩) 2 2,.slice (some ⟨w.heap.size+1+1+1,0,none⟩) 2 2,.int .i64 (16*pk a 9),.int .i64 (pk b 12),.int .i64 (1+pk c 4)] 29;have z1:(w.alloc (.cells #[.slice (some ⟨w.heap.size+1+1,0,none⟩) 2 2,.slice (some ⟨w.heap.size+1+1+1,0,none⟩) 2 2,.int .i64 (16*pk a 9),.int .i64 (pk b 12),.int .i64 (1+pk c 4)] 29)).heap.size=w.heap.size+1:=by simp
 generalize w.alloc _=w1 at*;have b2:=aF w1 (.cells #[.slice (some ⟨w.heap.size+1+1,0,none⟩) 2 2,.slice (some ⟨w.heap.size+1+1+1,0,none⟩) 2 2,.int .i64 (16*pk a 9),.int .i64 (pk b 12),.int .i64 (1+pk c 4)] 29);have z2:(w1.alloc (.cells #[.slice (some ⟨w.heap.size+1+1,0,none⟩) 2 2,.slice (some ⟨w.heap.size+1+1+1,0,none⟩) 2 2,.int .i64 (16*pk a 9),.int .i64 (pk b 12),.int .i64 (1+pk c 4)] 29)).heap.size=w.heap.size+1+1:=by simp[z1]
 generalize w1.alloc _=w2 at*;have r3:=BK w2 (flat gZ (BM a b c).m) 55;have b3:=aF w2 (.cells (flat gZ (BM a b c).m).toArray 55);have z3:(w2.alloc (.cells (flat gZ (BM a b c).m).toArray 55)).heap.size=w.heap.size+1+1+1:=by simp[z2]
 rw[show w2.alloc (.cells #[.int .i64 (pk a 20),.int .i64 (40+pk b 60),.int .i64 (130+pk c 10),.int .i64 (16+pk a 90)] 55)=w2.alloc (.cells (flat gZ (BM a b c).m).toArray 55)from rfl];generalize w2.alloc _=w3 at*;have r4:=BK w3 (flat gZ (BM a b c).r) 55;have b4:=aF w3 (.cells (flat gZ (BM a b c).r).toArray 55);rw[show w3.alloc (.cells #[.int .i64 (pk a 20+pk c 30),.int .i64 (1+pk a 7),.int .i64 (150+pk b 9),.int .i64 (1+pk c 5)] 55)=w3.alloc (.cells (flat gZ (BM a b c).r).toArray 55)from rfl];generalize w3.alloc _=w4 at*;rw[z2]at r3;rw[z3]at r4;have k4:=aB (aB (aB k1 (by omega) b2) (by omega) b3) (by omega) b4;refine bodyPost_ret (v:= .agg #[.slice (some ⟨w.heap.size+1+1,0,none⟩) 2 2,.slice (some ⟨w.heap.size+1+1+1,0,none⟩) 2 2,.int .i64 (16*pk a 9),.int .i64 (pk b 12),.int .i64 (1+pk c 4)]) (by simp[results,Tryz.results26,go_sem,k4]) rfl ⟨_,_,_,_,rfl,⟨rfl,rfl,r3.below b4,r4⟩,Below.step (Below.step (Below.step b1 b2) b3) b4⟩
end
section
theorem QW (f:Nat->Bool)(r:Rg)(hf:0<=r.f)(hs:1<=r.s)(p:Nat):upd f r.f.toNat (r.f+r.s).toNat false p=(f p&& !pV r p):=by
 unfold upd pV;by_cases h:r.f<=(p:Int)/\(p:Int)<r.f+r.s
 ·rw[if_pos (by omega),decide_eq_true h];simp
 ·rw[if_neg (by omega),decide_eq_false h];simp
theorem Xv {m:List Rg}{r1 r2:Rg}(hm:dF m=true)(h1:0<=r1.f/\1<=r1.s)(h2:0<=r2.f/\1<=r2.s):(iC ⟨m,[r1,r2]⟩).length<=m.length+2:=by
 have e:∀p,p<256->WZ ⟨m,[r1,r2]⟩ p=upd (upd (dA m) r1.f.toNat (r1.f+r1.s).toNat false) r2.f.toNat (r2.f+r2.s).toNat false p:=fun p _=>by
  rw[QW _ r2 h2.1 h2.2,QW _ r1 h1.1 h1.2];unfold WZ dA;simp only[List.any_cons,List.any_nil,Bool.or_false,Bool.not_or,Bool.and_assoc]
 unfold iC;rw[tH e];have l1:=pW (upd (dA m) r1.f.toNat (r1.f+r1.s).toNat false) r2.f.toNat (r2.f+r2.s).toNat false (by omega);have l2:=pW (dA m) r1.f.toNat (r1.f+r1.s).toNat false (by omega);have l3:=congrArg List.length (DV hm);omega
theorem Nr (a b c:Int):dF (iC (BM a b c))=true:=by
 have hm:=(Qa a b c).1;have h1:=jC a (m:=20) (by decide);have h5:=jC c (m:=30) (by decide);have h6:=jC a (m:=7) (by decide);have h7:=jC b (m:=9) (by decide);have h8:=jC c (m:=5) (by decide);have h:=Xv (m:=(BM a b c).m) (r1:=⟨pk a 20+pk c 30,1+pk a 7⟩) (r2:=⟨150+pk b 9,1+pk c 5⟩) hm ⟨by simp only;omega,by simp only;omega⟩ ⟨by simp only;omega,by simp only;omega⟩;refine IL _ (gQ h ?_);show 2+2<=40;omega
theorem Zp (a b c:Int):∃split least aC:Nat,16*pk a 9=(split:Int)/\pk b 12=(least:Int)/\1+pk c 4=(aC:Int)/\split<=256/\split%16=0/\least<=256/\1<=aC/\aC<=4:=by
 have h1:=jC a (m:=9) (by decide);have h2:=jC b (m:=12) (by decide);have h3:=jC c (m:=4) (by decide);exact⟨(16*pk a 9).toNat,(pk b 12).toNat,(1+pk c 4).toNat,by omega,by omega,by omega,by omega,by omega,by omega,by omega,by omega⟩
end
end Go.Proofs.YtcmpmobhongkiaaGreatDoor
