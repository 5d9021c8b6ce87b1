/- joined. -/
import Derived.Test.YtcmpmobhongkiaaGreatDoorRK0
import Derived.Test.YtcmpmobhongkiaaGreatDoorRK26
import Derived.Test.YtcmpmobhongkiaaGreatDoorRK36
import Derived.Test.YtcmpmobhongkiaaGreatDoorRK37
import Derived.Test.YtcmpmobhongkiaaGreatDoorRK41
import Derived.Test.YtcmpmobhongkiaaGreatDoorRK42
set_option linter.unusedVariables false
set_option linter.unusedSimpArgs false
namespace Go.Proofs.YtcmpmobhongkiaaGreatDoor
section
open Classical in
noncomputable def Sy.nN (s:Sy)(a:Int):Option (Nat×Nat):=if h:∃p:Nat×Nat,s.fV p.1 p.2 a then some h.choose else none
theorem bK.xJ {s:Sy}(hk:bK s){i k:Nat}{a:Int}(h:s.fV i k a):s.nN a=some (i,k):=by
 have h1:∃p:Nat×Nat,s.fV p.1 p.2 a:=⟨(i,k),h⟩
 unfold Sy.nN;rw[dif_pos h1];have h2:=h1.choose_spec;obtain⟨e1,e2⟩:=hk.sO h2 h;rw[show h1.choose=(i,k)from Prod.ext e1 e2]
theorem xK {s:Sy}{a:Int}(h:∀i k,¬s.fV i k a):s.nN a=none:=by
 unfold Sy.nN;rw[dif_neg];rintro⟨p,hp⟩;exact h _ _ hp
theorem rG {s:Sy}{i k:Nat}{a:Int}(h:s.nN a=some (i,k)):s.fV i k a:=by
 unfold Sy.nN at h;split at h
 ·rename_i h1;have h2:=h1.choose_spec;rw[gP h]at h2;exact h2
 ·cases h
theorem TP {s:Sy}{a:Int}(h:s.nN a=none):∀i k,¬s.fV i k a:=fun i k hp=>by
 unfold Sy.nN at h;rw[dif_pos ⟨(i,k),hp⟩]at h;cases h
noncomputable def Sy.eU (s:Sy)(a:Int):Option (Nat×Nat×Ca):=match s.nN a with
 | some (i,k)=>match s.cs[i]? with
  | some c=>if lY c.ns then some (i,k,c)else none
  | none=>none
 | none=>none
open Classical in
noncomputable def Sy.kE (s:Sy)(a:Int):Option Bk:=if h:∃b,s.whole b/\a=16*(b.a:Int)then some h.choose else none
theorem bK.DZ {s:Sy}(hk:bK s){b b':Bk}(h1:b∈s.h.live)(h2:b'∈s.h.live)(h:b.a=b'.a):b=b':=by
 have e1:=lQ hk.hk.vs h1;have e2:=lQ hk.hk.vs h2;rw[h,e2]at e1;exact(gP e1).symm
theorem bK.Bo {s:Sy}(hk:bK s){b:Bk}(h:s.whole b):s.kE (16*(b.a:Int))=some b:=by
 have h1:∃b',s.whole b'/\(16*(b.a:Int))=16*(b'.a:Int):=⟨b,h,rfl⟩
 unfold Sy.kE;rw[dif_pos h1];obtain⟨h2,h3⟩:=h1.choose_spec;rw[hk.DZ h2.1 h.1 (by omega)]
theorem nD {s:Sy}{a:Int}{b:Bk}(h:s.kE a=some b):s.whole b/\a=16*(b.a:Int):=by
 unfold Sy.kE at h;split at h
 ·rename_i h1;have h2:=h1.choose_spec;rw[gP h]at h2;exact h2
 ·cases h
theorem PK {s:Sy}{a:Int}(h:s.kE a=none):∀b,s.whole b->a≠16*(b.a:Int):=fun b hb e=>by
 unfold Sy.kE at h;rw[dif_pos ⟨b,hb,e⟩]at h;cases h
noncomputable def Sy.dV (s:Sy)(a:Int):Option Nat:=match s.eU a with
 | some (_,_,c)=>some c.z
 | none=>(s.kE a).map fun b=>16*2^b.o
def Sy.jS (s:Sy)(cpu:Nat)(b:Bk):Sy:={s with h:=s.h.fZ cpu (lb s.h.live b.a) b}
noncomputable def Sy.nO (s:Sy)(cpu:Nat)(a:Int):Option Sy:=match s.eU a with
 | some (i,k,_)=>some (s.free i k a.toNat cpu)
 | none=>(s.kE a).map fun b=>s.jS cpu b
theorem bK.setH {s:Sy}(hk:bK s){h':Hp}(hh:dZ h')(hc:h'.aC=s.h.aC)(hl:∀b∈s.h.live,s.LD b.a->b∈h'.live):bK {s with h:=h'}:=by
 refine⟨hk.wl,hh,hk.cl,fun c hcm=> ?_,hk.zd,hk.nd,hk.pd⟩;refine(hk.ck c hcm).move hc fun x hx=> ?_
 obtain⟨b,hb,h1,h2⟩:=((hk.ck c hcm).sk x hx).live;exact⟨⟨b,hl b hb ⟨c,hcm,x,hx,h1.symm⟩,h1,h2⟩,((hk.ck c hcm).sk x hx).chain⟩
theorem bK.Xe {s:Sy}(hk:bK s){h':Hp}{cpu order t a:Nat}{u lo:Bool}(bJ:cpu<s.h.aC)(ho:order<=4)(ht:t<3)(he:s.h.alloc cpu order t u lo=some (h',a)):
 bK {s with h:=h'}/\h'.aC=s.h.aC/\(∀b,({s with h:=h'}:Sy).whole b↔b=⟨a,order,t⟩∨s.whole b)/\(∀b∈s.h.live,apartB a order b)/\cZ 0 256 a order:=by
 obtain⟨hh,hcnt,hsame,hlive,hfit⟩:=hk.hk.alloc bJ ho ht he;have hap:∀b∈s.h.live,apartB a order b:=fun b hb=>dG fun q h1 h2=>by
  have h3:=hh.one q;rw[dI,hlive,qU]at h3;have h4:0<cnt s.h.live q:=iL.2 ⟨b,hb,h2⟩;have h5:hit (⟨a,order,t⟩:Bk) q=1:=jI.2 h1;omega
 refine⟨hk.setH hh hsame.aC fun b hb _=>by rw[hlive];exact qI.2 (.inr hb),hsame.aC,fun b=> ?_,hap,hfit⟩;have hsl:∀p,({s with h:=h'}:Sy).LD p↔s.LD p:=fun p=>Iff.rfl
 rw[cO,cO,hsl];show b∈h'.live/\_↔_;rw[hlive,qI];constructor
 ·rintro⟨h1 | h1,h2⟩
  ·exact .inl h1
  ·exact .inr ⟨h1,h2⟩
 ·rintro(rfl | ⟨h1,h2⟩)
  ·refine⟨.inl rfl,fun⟨c,hc,x,hx,e⟩=> ?_⟩;obtain⟨b',hb',e1,_⟩:=((hk.ck c hc).sk x hx).live;have h6:=hap b' hb';unfold apartB Bk.fin at h6;have h7:=Nat.two_pow_pos order;have h8:=Nat.two_pow_pos b'.o;have e':x.p=a:=e;omega
  ·exact⟨.inr h1,h2⟩
theorem bK.jS {s:Sy}(hk:bK s){cpu:Nat}{b:Bk}(bJ:cpu<s.h.aC)(hb:s.whole b):
 bK (s.jS cpu b)/\(s.jS cpu b).h.aC=s.h.aC/\(∀x,(s.jS cpu b).whole x↔s.whole x/\x≠b)/\(∃hi:lb s.h.live b.a<s.h.live.length,s.h.live[lb s.h.live b.a]=b)/\hasB s.h.live b.a=true:=by
 have h1:=lQ hk.hk.vs hb.1;obtain⟨hi,e⟩:=List.getElem?_eq_some_iff.1 h1;obtain⟨g1,g2,g3,g4⟩:=hk.hk.fZ bJ hi;rw[e]at g1 g3 g4;have hlive:∀x,x∈(s.h.fZ cpu (lb s.h.live b.a) b).live↔x∈s.h.live/\x≠b:=fun x=>by
  rw[g4,List.mem_eraseIdx_iff_getElem];constructor
  ·rintro⟨j,hj,hne,e2⟩;refine⟨by rw[<- e2];exact gL hj,fun e3=>hne ?_⟩;have h5:=lQ hk.hk.vs (gL hj);have hvs:=hk.hk.vs;rw[gN]at hvs;have h6:s.h.live[j]=s.h.live[lb s.h.live b.a]:=by rw[e,e2,e3]
   rcases Nat.lt_trichotomy j (lb s.h.live b.a)with h | h | h
   ·have:=hvs j _ hj hi h;rw[h6]at this;omega
   ·exact h
   ·have:=hvs _ j hi hj h;rw[h6]at this;omega
  ·rintro⟨hx,hne⟩;obtain⟨j,hj,e2⟩:=List.mem_iff_getElem.1 hx;refine⟨j,hj,fun e3=> ?_,e2⟩;subst e3;rw[e]at e2;exact hne e2.symm
 refine⟨hk.setH g1 g3.aC fun x hx hs=>(hlive x).2 ⟨hx,fun e2=>(cO.1 hb).2 (e2▸hs)⟩,g3.aC,fun x=> ?_,⟨hi,e⟩,?_⟩
 ·have hsl:∀p,(s.jS cpu b).LD p↔s.LD p:=fun p=>Iff.rfl
  rw[cO,cO,hsl];show x∈(s.h.fZ cpu (lb s.h.live b.a) b).live/\_↔_;rw[hlive];constructor
  ·rintro⟨⟨h5,h6⟩,h7⟩;exact⟨⟨h5,h7⟩,h6⟩
  ·rintro⟨⟨h5,h7⟩,h6⟩;exact⟨⟨h5,h6⟩,h7⟩
 ·unfold hasB;exact List.any_eq_true.2 ⟨b,hb.1,decide_eq_true rfl⟩
theorem bK.lK {s:Sy}(hk:bK s){b:Bk}(hb:s.whole b):∀i k,¬s.fV i k (16*(b.a:Int)):=fun i k ⟨c,x,hc,hx,ho⟩=>by
 have hcm:=gM hc;have hxm:=gM hx;obtain⟨b',hb',e1,e2⟩:=((hk.ck c hcm).sk x hxm).live;have hne:b.a≠b'.a:=fun e=>hb.2 c hcm x hxm (by rw[<- e1];exact e.symm)
 have h1:=jW hk.hk hb.1 hb' hne;have h2:=iV (hk.ck c hcm).room ho.1;unfold apartB Bk.fin at h1;rw[e1,e2]at h1;have h3:=Nat.two_pow_pos b.o;generalize 2^b.o=q1 at*;generalize 2^c.o=q2 at*;omega
end
section
open Go.RowKit
theorem Ed {s:Sy}(hk:bK s){i k:Nat}{a:Int}(h:s.nN a=some (i,k)){ev:Ending}(hp:Bf s a ev):ev= .returned (.tuple #[.int .i64 (i:Int),.int .i64 (k:Int),.int .i64 0]):=by
 rcases hp with ⟨i',k',h1,rfl⟩ | ⟨h1,_⟩
 ·obtain⟨rfl,rfl⟩:=hk.sO h1 (rG h);rfl
 ·exact absurd (rG h) (h1 i k)
theorem Ee {s:Sy}{a:Int}(h:s.nN a=none){ev:Ending}(hp:Bf s a ev):ev= .returned (.tuple #[.int .i64 0,.int .i64 0,.int .i64 4]):=by
 rcases hp with ⟨i',k',h1,_⟩ | ⟨_,rfl⟩
 ·exact absurd h1 (TP h i' k')
 ·rfl
theorem qA {s:Sy}(hk:bK s){a:Int}{b:Bk}(h:s.kE a=some b){ev:Ending}(hp:vK s a ev):∃hi:lb s.h.live b.a<s.h.live.length,s.h.live[lb s.h.live b.a]=b/\ev= .returned (.tuple #[.int .i64 (lb s.h.live b.a:Int),.bool true]):=by
 obtain⟨h1,h2⟩:=nD h;rcases hp with ⟨p,h3,h4,h5,rfl⟩ | ⟨h3,_⟩
 ·obtain rfl:p=b.a:=by omega
  obtain⟨hi,e⟩:=List.getElem?_eq_some_iff.1 (lQ hk.hk.vs h1.1);exact⟨hi,e,rfl⟩
 ·exact absurd h2 (h3 b h1)
theorem qB {s:Sy}{a:Int}(h:s.kE a=none){ev:Ending}(hp:vK s a ev):∃i:Nat,ev= .returned (.tuple #[.int .i64 (i:Int),.bool false]):=by
 rcases hp with ⟨p,h3,h4,h5,_⟩ | ⟨_,h⟩
 ·exfalso;unfold hasB at h5;obtain⟨b,hb,e⟩:=List.any_eq_true.1 h5;have e':=of_decide_eq_true e;exact PK h b (cO.2 ⟨hb,by rw[e'];exact h4⟩) (by rw[e'];exact h3)
 ·exact h
theorem Bv {s:Sy}{a:Int}{i k:Nat}{c:Ca}(h:s.eU a=some (i,k,c)):s.nN a=some (i,k)/\s.cs[i]? =some c/\lY c.ns=true:=by
 unfold Sy.eU at h;cases hf:s.nN a with
 | none=>rw[hf]at h;cases h
 | some p=>
  obtain⟨i',k'⟩:=p;rw[hf]at h;simp only at h;cases hc:s.cs[i']? with
  | none=>rw[hc]at h;cases h
  | some c'=>
   rw[hc]at h;simp only at h;split at h
   ·rename_i hm;have h1:=gP h;simp only[Prod.mk.injEq]at h1;obtain⟨rfl,rfl,rfl⟩:=h1;exact⟨rfl,hc,hm⟩
   ·cases h
def Gx (r:Option Nat)(ev:Ending):Prop:=ev=match r with
 | some m=> .returned (.tuple #[.int .i64 (m:Int),.int .i64 0])
 | none=> .returned (.tuple #[.int .i64 0,.int .i64 4])
set_option maxHeartbeats 8000000 in
set_option maxRecDepth 100000 in
theorem Aj (v:Sc)(s:Sy)(a:Int)(w:World)(hs:nV w v s)(hk:bK s)(hf:∀c∈s.cs,c.ns.length<=1000)(hsz:Bl w)(hab: -1000000<=a/\a<=10000):
 Calls Tryz.prog 30 #[.agg #[.slice v.a1 v.n1 v.c1,.slice v.hc.az 2 v.hc.cz,.slice v.hc.am 2 v.hc.cm,.int .i64 (s.h.aC:Int),.slice v.hc.al v.hc.lc.length v.hc.cl,.slice v.hc.av s.h.live.length v.hc.cv,.slice v.a2 v.ys.length v.c2],.int .i64 a] w fun ev w'=>Gx (s.dV a) ev/\Below w.heap.size w w':=by
 obtain⟨K1,F1,hsz1,hbw⟩:=boxes1 w #[.slice v.a1 v.n1 v.c1,.slice v.hc.az 2 v.hc.cz,.slice v.hc.am 2 v.hc.cm,.int .i64 (s.h.aC:Int),.slice v.hc.al v.hc.lc.length v.hc.cl,.slice v.hc.av s.h.live.length v.hc.cv,.slice v.a2 v.ys.length v.c2] 47;have hs1:=hs.below hbw;obtain⟨rZ,Xj⟩:∃rZ,s.dV a=rZ:=⟨_,rfl⟩
 rw[Xj];generalize hw1:w.alloc (.cells #[.slice v.a1 v.n1 v.c1,.slice v.hc.az 2 v.hc.cz,.slice v.hc.am 2 v.hc.cm,.int .i64 (s.h.aC:Int),.slice v.hc.al v.hc.lc.length v.hc.cl,.slice v.hc.av s.h.live.length v.hc.cv,.slice v.a2 v.ys.length v.c2] 47)=w1 at*;have rP:=gO (lJ v s w1 hs1 hk hf);have Uf:Hid (∀W,Below w1.heap.size w1 W->Calls Tryz.prog 43 #[.agg #[.slice v.a1 v.n1 v.c1,.slice v.hc.az 2 v.hc.cz,.slice v.hc.am 2 v.hc.cm,.int .i64 (s.h.aC:Int),.slice v.hc.al v.hc.lc.length v.hc.cl,.slice v.hc.av s.h.live.length v.hc.cv,.slice v.a2 v.ys.length v.c2],.int .i64 a] W fun ev w'=>Bf s a ev/\Below W.heap.size W w'):=fun W hW=>Gi v s a W (hs1.below hW) hk hf (by omega)
 have Zh:Hid (∀W,Below w1.heap.size w1 W->Calls Tryz.prog 63 #[.agg #[.slice v.a1 v.n1 v.c1,.slice v.hc.az 2 v.hc.cz,.slice v.hc.am 2 v.hc.cm,.int .i64 (s.h.aC:Int),.slice v.hc.al v.hc.lc.length v.hc.cl,.slice v.hc.av s.h.live.length v.hc.cv,.slice v.a2 v.ys.length v.c2],.int .i64 a] W fun ev w'=>vK s a ev/\Below W.heap.size W w'):=fun W hW=>Gs v s a W (hs1.below hW) hk hab
 have HS1:=gO hs1;have HK:=gO hk;have HF:=gO hf;have jT:=gO (hsz.below hbw);have HB1:=gO hbw;have HK1:=gO K1;have wO:=gO Xj;obtain⟨k0,k1,k2,k3,k4,k5,k6⟩:=gA7 K1;clear hs hk hf hs1 K1 F1 hbw hsz Xj;go_enter Tryz.func30,Tryz.ntmps30
 go_upto_region 1 with fail
 try rw[hw1]
 clear hw1;go_upto_region 4 with (go_at_call 38;refine rP.out.mono ?_;rintro ev w2 ⟨rfl,hb2⟩)
 have K12:=aB HK1.out hsz1 hb2;clear k0 k1 k2 k3 k4 k5 k6 rP;have HFD2:=gO (Uf.out w2 hb2);have HB2:=gO hb2;obtain⟨k0,k1,k2,k3,k4,k5,k6⟩:=gA7 K12;clear K12 Uf hb2;cases hfo:s.nN a with
 | none=>
  have hm:s.eU a=none:=by
   unfold Sy.eU;rw[hfo]
  have HFN:Hid (Calls Tryz.prog 43 #[.agg #[.slice v.a1 v.n1 v.c1,.slice v.hc.az 2 v.hc.cz,.slice v.hc.am 2 v.hc.cm,.int .i64 (s.h.aC:Int),.slice v.hc.al v.hc.lc.length v.hc.cl,.slice v.hc.av s.h.live.length v.hc.cv,.slice v.a2 v.ys.length v.c2],.int .i64 a] w2 fun ev w'=>ev= .returned (.tuple #[.int .i64 0,.int .i64 0,.int .i64 4])/\Below w2.heap.size w2 w'):=by
   refine HFD2.out.mono ?_;rintro ev w' ⟨h,hb⟩;exact⟨Ee hfo h,hb⟩
  have HM:=gO hm;clear HFD2 hfo hm;go_upto_region 7 with (go_at_call 43;refine HFN.out.mono ?_;rintro ev w3 ⟨rfl,hb3⟩)
  have HB3:=gO (Below.step HB2.out hb3);clear HFN k0 k1 k2 k3 k4 k5 k6 hb3 HB2;have Xk:=aB HK1.out hsz1 HB3.out;obtain⟨k0,k1,k2,k3,k4,k5,k6⟩:=gA7 Xk;have HWH3:=gO (Zh.out w3 HB3.out);clear Xk Zh;cases hwo:s.kE a with
  | none=>
   have HE:Hid (rZ=none):=by
    unfold Hid;rw[<- wO.out];unfold Sy.dV;rw[HM.out];simp only[hwo];rfl
   have Xl:Hid (Calls Tryz.prog 63 #[.agg #[.slice v.a1 v.n1 v.c1,.slice v.hc.az 2 v.hc.cz,.slice v.hc.am 2 v.hc.cm,.int .i64 (s.h.aC:Int),.slice v.hc.al v.hc.lc.length v.hc.cl,.slice v.hc.av s.h.live.length v.hc.cv,.slice v.a2 v.ys.length v.c2],.int .i64 a] w3 fun ev w'=>(∃j:Nat,ev= .returned (.tuple #[.int .i64 (j:Int),.bool false]))/\Below w3.heap.size w3 w'):=by
    refine HWH3.out.mono ?_;rintro ev w' ⟨h,hb⟩;exact⟨qB hwo h,hb⟩
   clear HWH3 hwo;go_wp2_with (go_at_call 63;refine Xl.out.mono ?_;rintro ev w9 ⟨⟨j,rfl⟩,hb9⟩)
   exact bodyPost_ret (v:= .tuple #[.int .i64 0,.int .i64 4]) (by simp[results,Tryz.results30,go_sem]) rfl ⟨by unfold Gx;rw[HE.out],Below.step HB1.out (Below.step HB3.out hb9)⟩
  | some b=>
   have HE:Hid (rZ=some (16*2^b.o)):=by
    unfold Hid;rw[<- wO.out];unfold Sy.dV;rw[HM.out];simp only[hwo];rfl
   have hwb:=(nD hwo).1;obtain⟨hi0,hlb⟩:=List.getElem?_eq_some_iff.1 (lQ HK.out.hk.vs hwb.1);have Xm:Hid (Calls Tryz.prog 63 #[.agg #[.slice v.a1 v.n1 v.c1,.slice v.hc.az 2 v.hc.cz,.slice v.hc.am 2 v.hc.cm,.int .i64 (s.h.aC:Int),.slice v.hc.al v.hc.lc.length v.hc.cl,.slice v.hc.av s.h.live.length v.hc.cv,.slice v.a2 v.ys.length v.c2],.int .i64 a] w3 fun ev w'=>ev= .returned (.tuple #[.int .i64 (lb s.h.live b.a:Int),.bool true])/\Below w3.heap.size w3 w'):=by
    refine HWH3.out.mono ?_;rintro ev w' ⟨h,hb⟩;obtain⟨_,_,h3⟩:=qA HK.out hwo h;exact⟨h3,hb⟩
   have NP:b.o<=4:=(HK.out.hk.lv b hwb.1).1.1;have hsh:=shl16 NP;have hll:=HK.out.hk.iZ;generalize YZ:lb s.h.live b.a=L at hi0 hlb Xm;have hLi:(L:Int)<s.h.live.length:=by omega
   have HLB:=gO hlb;clear HWH3 hwo hwb hlb YZ;go_upto_region 9 with (go_at_call 63;refine Xm.out.mono ?_;rintro ev w9 ⟨rfl,hb9⟩)
   have hB9:=Below.step HB3.out hb9;have K19:=aB HK1.out hsz1 hB9;clear k0 k1 k2 k3 k4 k5 k6;obtain⟨k0,k1,k2,k3,k4,k5,k6⟩:=gA7 K19;obtain⟨ab,ao,hav,hal,hac⟩:=aN aJ (by decide) (HS1.out.below hB9).hh.vr hi0;rw[HLB.out]at hac;obtain⟨d0,d1,d2⟩:=bD hac;rw[hav]at k5;clear K19 hac;go_wp2_with fail
   rw[hsh];exact bodyPost_ret (v:= .tuple #[.int .i64 ((16*2^b.o:Nat):Int),.int .i64 0]) (by simp[results,Tryz.results30,go_sem]) rfl ⟨by unfold Gx;rw[HE.out],Below.step HB1.out hB9⟩
 | some p=>
  obtain⟨i,k⟩:=p;obtain⟨c,x,hc,hx,ho⟩:=rG hfo;have HFS:Hid (Calls Tryz.prog 43 #[.agg #[.slice v.a1 v.n1 v.c1,.slice v.hc.az 2 v.hc.cz,.slice v.hc.am 2 v.hc.cm,.int .i64 (s.h.aC:Int),.slice v.hc.al v.hc.lc.length v.hc.cl,.slice v.hc.av s.h.live.length v.hc.cv,.slice v.a2 v.ys.length v.c2],.int .i64 a] w2 fun ev w'=>ev= .returned (.tuple #[.int .i64 (i:Int),.int .i64 (k:Int),.int .i64 0])/\Below w2.heap.size w2 w'):=by
   refine HFD2.out.mono ?_;rintro ev w' ⟨h,hb⟩;exact⟨Ed HK.out hfo h,hb⟩
  have hil:=(List.getElem?_eq_some_iff.1 hc).1;have ZI:i<v.ys.length:=by
   have h:=congrArg List.length HS1.out.cy;rw[List.length_map]at h;omega
  have hyl:v.ys.length<=20:=by
   have h:=congrArg List.length HS1.out.cy;rw[List.length_map]at h;rw[h];exact HK.out.cl
  have Wy:v.ys[i].c=c:=by
   have h1:=congrArg (·[i]?) HS1.out.cy;simp only[List.getElem?_map,gJ ZI,Option.map_some]at h1;rw[hc]at h1;exact gP h1
  have hii:(i:Int)<v.ys.length:=by omega
  have HFO:=gO hfo;have Eo:=gO hc;have Zi:=gO Wy;clear HFD2 hfo hc hx ho hil Wy;go_upto_region 5 with (go_at_call 43;refine HFS.out.mono ?_;rintro ev w3 ⟨rfl,hb3⟩)
  have hB3:=Below.step HB2.out hb3;have HB3:=gO hB3;have K13:=aB HK1.out hsz1 hB3;clear HFS k0 k1 k2 k3 k4 k5 k6 hb3 HB2;obtain⟨k0,k1,k2,k3,k4,k5,k6⟩:=gA7 K13;have hs3:=HS1.out.below hB3;obtain⟨bb,off,hba,hbb,hbc⟩:=aN dU (by decide) hs3.rc ZI;have hcy:=hs3.ca _ (gL ZI);obtain⟨y,hy⟩:∃y,v.ys[i]=y:=⟨_,rfl⟩
  rw[hy]at hbc hcy Zi;obtain⟨e0,e1,e2,e3,e4,e5⟩:=jY hbc;rw[hba]at k6;have hyn:y.n1<=1000000:=by
   rw[<- hcy.l1,Zi.out];exact gQ (HF.out c (gM Eo.out)) (by decide)
  have Lj:=gO (ML y w3 hcy hyn (jT.out.below hB3));have hz:y.c.z=c.z:=by rw[Zi.out]
  have hmy:lY y.c.ns=lY c.ns:=by rw[Zi.out]
  rw[hmy]at Lj;clear hmy;have HBC:=gO (fun(W:World) (hW:Below w3.heap.size w3 W)=>(hW.cell (p:=⟨bb,off+i*6+1,none⟩) hbb).trans e1);have HK13:=gO K13;have hsz3:=gI hsz1 hB3.size;have LP:=gO hba;clear K13 hs3 hba hbc hcy hy hyn hB3;cases hmb:lY c.ns with
  | true=>
   rw[hmb]at Lj;have hm:s.eU a=some (i,k,c):=by
    unfold Sy.eU;rw[HFO.out];simp only[Eo.out,hmb,if_true]
   have HE:Hid (rZ=some y.c.z):=by
    unfold Hid;rw[<- wO.out,hz];unfold Sy.dV;rw[hm]
   clear hm hmb hz;go_upto_region 6 with (go_at_call 62;refine Lj.out.mono ?_;rintro ev w4 ⟨rfl,hb4⟩)
   have K14:=aB HK13.out hsz3 hb4;have e14:=HBC.out w4 hb4;clear k0 k1 k2 k3 k4 k5 k6 e0 e1 e2 e3 e4 e5;obtain⟨k0,k1,k2,k3,k4,k5,k6⟩:=gA7 K14;rw[LP.out]at k6;clear K14;go_wp2_with fail
   exact bodyPost_ret (v:= .tuple #[.int .i64 (y.c.z:Int),.int .i64 0]) (by simp[results,Tryz.results30,go_sem]) rfl ⟨by unfold Gx;rw[HE.out],Below.step HB1.out (Below.step HB3.out hb4)⟩
  | false=>
   rw[hmb]at Lj;have hm:s.eU a=none:=by
    unfold Sy.eU;rw[HFO.out];simp only[Eo.out,hmb];rfl
   have HM:=gO hm;clear hm hmb hz;go_upto_region 7 with (go_at_call 62;refine Lj.out.mono ?_;rintro ev w4 ⟨rfl,hb4⟩)
   have HB4:=gO (Below.step HB3.out hb4);clear k0 k1 k2 k3 k4 k5 k6 e0 e1 e2 e3 e4 e5 Lj HBC HK13 LP HB3 hb4;have Xk:=aB HK1.out hsz1 HB4.out;obtain⟨k0,k1,k2,k3,k4,k5,k6⟩:=gA7 Xk;have HWH3:=gO (Zh.out w4 HB4.out);clear Xk Zh;cases hwo:s.kE a with
   | none=>
    have HE:Hid (rZ=none):=by
     unfold Hid;rw[<- wO.out];unfold Sy.dV;rw[HM.out];simp only[hwo];rfl
    have Xl:Hid (Calls Tryz.prog 63 #[.agg #[.slice v.a1 v.n1 v.c1,.slice v.hc.az 2 v.hc.cz,.slice v.hc.am 2 v.hc.cm,.int .i64 (s.h.aC:Int),.slice v.hc.al v.hc.lc.length v.hc.cl,.slice v.hc.av s.h.live.length v.hc.cv,.slice v.a2 v.ys.length v.c2],.int .i64 a] w4 fun ev w'=>(∃j:Nat,ev= .returned (.tuple #[.int .i64 (j:Int),.bool false]))/\Below w4.heap.size w4 w'):=by
     refine HWH3.out.mono ?_;rintro ev w' ⟨h,hb⟩;exact⟨qB hwo h,hb⟩
    clear HWH3 hwo;go_wp2_with (go_at_call 63;refine Xl.out.mono ?_;rintro ev w9 ⟨⟨j,rfl⟩,hb9⟩)
    exact bodyPost_ret (v:= .tuple #[.int .i64 0,.int .i64 4]) (by simp[results,Tryz.results30,go_sem]) rfl ⟨by unfold Gx;rw[HE.out],Below.step HB1.out (Below.step HB4.out hb9)⟩
   | some b=>
    have HE:Hid (rZ=some (16*2^b.o)):=by
     unfold Hid;rw[<- wO.out];unfold Sy.dV;rw[HM.out];simp only[hwo];rfl
    have hwb:=(nD hwo).1;obtain⟨hi0,hlb⟩:=List.getElem?_eq_some_iff.1 (lQ HK.out.hk.vs hwb.1);have Xm:Hid (Calls Tryz.prog 63 #[.agg #[.slice v.a1 v.n1 v.c1,.slice v.hc.az 2 v.hc.cz,.slice v.hc.am 2 v.hc.cm,.int .i64 (s.h.aC:Int),.slice v.hc.al v.hc.lc.length v.hc.cl,.slice v.hc.av s.h.live.length v.hc.cv,.slice v.a2 v.ys.length v.c2],.int .i64 a] w4 fun ev w'=>ev= .returned (.tuple #[.int .i64 (lb s.h.live b.a:Int),.bool true])/\Below w4.heap.size w4 w'):=by
     refine HWH3.out.mono ?_;rintro ev w' ⟨h,hb⟩;obtain⟨_,_,h3⟩:=qA HK.out hwo h;exact⟨h3,hb⟩
    have NP:b.o<=4:=(HK.out.hk.lv b hwb.1).1.1;have hsh:=shl16 NP;have hll:=HK.out.hk.iZ;generalize YZ:lb s.h.live b.a=L at hi0 hlb Xm;have hLi:(L:Int)<s.h.live.length:=by omega
    have HLB:=gO hlb;clear HWH3 hwo hwb hlb YZ;go_upto_region 9 with (go_at_call 63;refine Xm.out.mono ?_;rintro ev w9 ⟨rfl,hb9⟩)
    have hB9:=Below.step HB4.out hb9;have K19:=aB HK1.out hsz1 hB9;clear k0 k1 k2 k3 k4 k5 k6;obtain⟨k0,k1,k2,k3,k4,k5,k6⟩:=gA7 K19;obtain⟨ab,ao,hav,hal,hac⟩:=aN aJ (by decide) (HS1.out.below hB9).hh.vr hi0;rw[HLB.out]at hac;obtain⟨d0,d1,d2⟩:=bD hac;rw[hav]at k5;clear K19 hac;go_wp2_with fail
    rw[hsh];exact bodyPost_ret (v:= .tuple #[.int .i64 ((16*2^b.o:Nat):Int),.int .i64 0]) (by simp[results,Tryz.results30,go_sem]) rfl ⟨by unfold Gx;rw[HE.out],Below.step HB1.out hB9⟩
end
end Go.Proofs.YtcmpmobhongkiaaGreatDoor
