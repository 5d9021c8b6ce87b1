/- joined. -/
import Derived.Test.YtcmpmobhongkiaaGreatDoorRK0
import Derived.Test.YtcmpmobhongkiaaGreatDoorRK26
import Derived.Test.YtcmpmobhongkiaaGreatDoorRK33
import Derived.Test.YtcmpmobhongkiaaGreatDoorRK35
import Derived.Test.YtcmpmobhongkiaaGreatDoorRK36
import Derived.Test.YtcmpmobhongkiaaGreatDoorRK37
import Derived.Test.YtcmpmobhongkiaaGreatDoorRK39
import Derived.Test.YtcmpmobhongkiaaGreatDoorRK42
import Derived.Test.YtcmpmobhongkiaaGreatDoorRK44
import Derived.Test.YtcmpmobhongkiaaGreatDoorRK46
import Derived.Deep.CutBlock
set_option linter.unusedVariables false
set_option linter.unusedSimpArgs false
namespace Go.Proofs.YtcmpmobhongkiaaGreatDoor
section
open Go.RowKit
def Jf (r:Nat ⊕ (Sy×Int))(w:World)(ev:Ending)(w':World):Prop:=(∃e,r= .inl e/\ev= .returned (.tuple #[.agg #[.slice none 0 0,.slice none 0 0,.slice none 0 0,.int .i64 0,.slice none 0 0,.slice none 0 0,.slice none 0 0],.int .i64 0,.int .i64 (e:Nat)])/\Below w.heap.size w w')∨(∃s' b v',r= .inr (s',b)/\ev= .returned (.tuple #[.agg (v'.vals s'),.int .i64 b,.int .i64 0])/\fQ w' w.heap.size s' v'/\Below w.heap.size w w')
theorem Ef (v:Sc)(s:Sy)(cpu n:Nat)(w:World)(hs:nV w v s)(hk:bK s)(hf:∀c∈s.cs,c.ns.length<=1000)(hkn:Ag s)(bJ:cpu<s.h.aC)(ho:vT w)(hsz:Bl w)(h1:1<=n)(h2:n<=256):
 Calls Tryz.prog 29 #[.agg #[.slice v.a1 v.n1 v.c1,.slice v.hc.az 2 v.hc.cz,.slice v.hc.am 2 v.hc.cm,.int .i64 (s.h.aC:Int),.slice v.hc.al v.hc.lc.length v.hc.cl,.slice v.hc.av s.h.live.length v.hc.cv,.slice v.a2 v.ys.length v.c2],.int .i64 cpu,.int .i64 n] w (Ae (s.fE cpu n) w):=by
 by_cases h32:n<=32
 ·exact EP v s cpu n w hs hk hf hkn.names bJ ho hsz h1 h32
 ·exact MX v s cpu n w hs hk hf bJ ho hsz (by omega) h2
section
variable {W W1:World}{G:Nat}{X:Nat->Prop}{s:Sy}{v:Sc}
theorem SS.aHw (hs:SS W G X s v)(hb:Below W.heap.size W W1){xs:List Int}{a:Option Addr}{n c:Nat}(ho:W1.ownsRow W.heap.size 3 1 (.slice a n c) n (xs.map vI)):
 SS (W1.setCell ⟨G,0,none⟩ (.slice a n c)) G X {s with w:=xs} {v with a1:=a,n1:=n,c1:=c}:=by
 have h1:=hs.below hb;have K:=aI h1.k 0 (.slice a n c);unfold Sc.vals at K;simp only[gE,gG]at K;exact⟨(hs.r.words hb ho).fO 0 _,K,aG h1.fz _ _⟩
end
set_option maxHeartbeats 8000000 in
set_option maxRecDepth 100000 in
theorem BA (v:Sc)(s:Sy)(cpu n:Nat)(a:Int)(w:World)(hs:nV w v s)(hk:bK s)(hf:∀c∈s.cs,c.ns.length<=1000)(hks:Ag s)(bJ:cpu<s.h.aC)(ho:vT w)(hsz:Bl w)(hn1:1<=n)(hn2:n<=256)(hab: -1000000<=a/\a<=10000):
 Calls Tryz.prog 45 #[.agg #[.slice v.a1 v.n1 v.c1,.slice v.hc.az 2 v.hc.cz,.slice v.hc.am 2 v.hc.cm,.int .i64 (s.h.aC:Int),.slice v.hc.al v.hc.lc.length v.hc.cl,.slice v.hc.av s.h.live.length v.hc.cv,.slice v.a2 v.ys.length v.c2],.int .i64 cpu,.int .i64 a,.int .i64 n] w (Jf (s.fF cpu a n) w):=by
 obtain⟨K1,K2,F1,F2,hsz2,hbw⟩:=boxes2 w #[.slice v.a1 v.n1 v.c1,.slice v.hc.az 2 v.hc.cz,.slice v.hc.am 2 v.hc.cm,.int .i64 (s.h.aC:Int),.slice v.hc.al v.hc.lc.length v.hc.cl,.slice v.hc.av s.h.live.length v.hc.cv,.slice v.a2 v.ys.length v.c2] 47 #[.slice none 0 0,.slice none 0 0,.slice none 0 0,.int .i64 0,.slice none 0 0,.slice none 0 0,.slice none 0 0] 47;have hs1:=hs.below hbw;obtain⟨rZ,Xj⟩:∃rZ,s.fF cpu a n=rZ:=⟨_,rfl⟩
 rw[Xj];generalize hw1:(w.alloc (.cells #[.slice v.a1 v.n1 v.c1,.slice v.hc.az 2 v.hc.cz,.slice v.hc.am 2 v.hc.cm,.int .i64 (s.h.aC:Int),.slice v.hc.al v.hc.lc.length v.hc.cl,.slice v.hc.av s.h.live.length v.hc.cv,.slice v.a2 v.ys.length v.c2] 47)).alloc (.cells #[.slice none 0 0,.slice none 0 0,.slice none 0 0,.int .i64 0,.slice none 0 0,.slice none 0 0,.slice none 0 0] 47)=w1 at*;have hsz1:w.heap.size<w1.heap.size:=by omega
 have Iu:=gO (Aj v s a w1 hs1 hk hf (hsz.below hbw) hab);have HS1:=gO hs1;have HK:=gO hk;have HF:=gO hf;have HKS:=gO hks;have HO1:=gO (ho.below hbw);have HSZ1:=gO (hsz.below hbw);have HSZ0:=gO hsz;have HB1:=gO hbw;have HK1:=gO K1;have HK2:=gO K2;have HF2:=gO F2;have wO:=gO Xj;have hc0:¬(cpu:Int)<0:=by omega
 have hc1:¬(s.h.aC:Int)<=cpu:=by omega
 have hc2:¬(n:Int)<1:=by omega
 obtain⟨k0,k1,k2,k3,k4,k5,k6⟩:=gA7 K1;clear hs hk hf hks hs1 K1 F1 K2 F2 hbw hsz ho Xj;go_enter Tryz.func45,Tryz.ntmps45
 go_upto_region 1 with fail
 try rw[hw1]
 clear hw1;cases hz:s.dV a with
 | none=>
  have HE:Hid (rZ= .inl 4):=by
   unfold Hid;rw[<- wO.out];unfold Sy.fF;rw[hz]
  rw[hz]at Iu;have HSN:Hid (Calls Tryz.prog 30 #[.agg #[.slice v.a1 v.n1 v.c1,.slice v.hc.az 2 v.hc.cz,.slice v.hc.am 2 v.hc.cm,.int .i64 (s.h.aC:Int),.slice v.hc.al v.hc.lc.length v.hc.cl,.slice v.hc.av s.h.live.length v.hc.cv,.slice v.a2 v.ys.length v.c2],.int .i64 a] w1 fun ev w'=>ev= .returned (.tuple #[.int .i64 0,.int .i64 4])/\Below w1.heap.size w1 w'):=Iu.out;clear Iu hz;go_upto_region 3 with (go_at_call 30;refine HSN.out.mono ?_;rintro ev w2 ⟨rfl,hb2⟩)
  have jE:=gO (aB HK2.out hsz2 hb2);have tJ:=gO (aH HF2.out hsz2 hb2);have tK:=gO (Below.step HB1.out hb2);clear hb2 HSN k0 k1 k2 k3 k4 k5 k6;obtain⟨q0,q1,q2,q3,q4,q5,q6⟩:=gA7 jE.out;obtain⟨f0,f1,f2,f3,f4,f5,f6⟩:=gF7 tJ.out;have jB:=nil7 jE.out tK.out (show w.heap.size<=w.heap.size+1 by omega);have KX:=jB.1;have jF:=gO jB.2;clear jB jE tJ tK;go_wp2_with fail
  generalize ((((((w2.setCell _ _).setCell _ _).setCell _ _).setCell _ _).setCell _ _).setCell _ _).setCell _ _=wx at*;exact bodyPost_ret (v:= .tuple #[.agg #[.slice none 0 0,.slice none 0 0,.slice none 0 0,.int .i64 0,.slice none 0 0,.slice none 0 0,.slice none 0 0],.int .i64 0,.int .i64 4]) (by simp[results,Tryz.results45,go_sem,KX]) rfl (.inl ⟨4,HE.out,rfl,jF.out⟩)
 | some z=>
  have HZ:=gO hz;rw[hz]at Iu;have Nz:Hid (Calls Tryz.prog 30 #[.agg #[.slice v.a1 v.n1 v.c1,.slice v.hc.az 2 v.hc.cz,.slice v.hc.am 2 v.hc.cm,.int .i64 (s.h.aC:Int),.slice v.hc.al v.hc.lc.length v.hc.cl,.slice v.hc.av s.h.live.length v.hc.cv,.slice v.a2 v.ys.length v.c2],.int .i64 a] w1 fun ev w'=>ev= .returned (.tuple #[.int .i64 (z:Int),.int .i64 0])/\Below w1.heap.size w1 w'):=Iu.out;clear Iu hz;go_upto_region 4 with (go_at_call 30;refine Nz.out.mono ?_;rintro ev w2 ⟨rfl,hb2⟩)
  have K12:=aB HK1.out hsz1 hb2;have HB2:=gO hb2;clear k0 k1 k2 k3 k4 k5 k6 Nz hb2;obtain⟨k0,k1,k2,k3,k4,k5,k6⟩:=gA7 K12;have HK12:=gO K12;clear K12;by_cases hnz:n<=z
  ·have HE:Hid (rZ= .inr (s,a)):=by
    unfold Hid;rw[<- wO.out];unfold Sy.fF;rw[HZ.out];simp only[if_pos hnz]
   have aHx:(n:Int)<=z:=by omega
   go_upto_region 7 with fail
   have wX:Hid (Calls Tryz.prog 39 #[.agg #[.slice v.a1 v.n1 v.c1,.slice v.hc.az 2 v.hc.cz,.slice v.hc.am 2 v.hc.cm,.int .i64 (s.h.aC:Int),.slice v.hc.al v.hc.lc.length v.hc.cl,.slice v.hc.av s.h.live.length v.hc.cv,.slice v.a2 v.ys.length v.c2]] w2 fun ev w'=>∃v2,ev= .returned (.agg #[.slice v2.a1 v2.n1 v2.c1,.slice v2.hc.az 2 v2.hc.cz,.slice v2.hc.am 2 v2.hc.cm,.int .i64 (s.h.aC:Int),.slice v2.hc.al v2.hc.lc.length v2.hc.cl,.slice v2.hc.av s.h.live.length v2.hc.cv,.slice v2.a2 v2.ys.length v2.c2])/\fQ w' w2.heap.size s v2/\Below w2.heap.size w2 w'):=rD v s w2 (HS1.out.below HB2.out) HK.out HF.out;have hT2:=gI hsz2 HB2.out.size;have HTD:=gO (aB HK2.out hsz2 HB2.out);have HUD:=gO (aH HF2.out hsz2 HB2.out);have Tq:=gO (Below.step HB1.out HB2.out);go_wp2_with (go_at_call 39;refine wX.out.mono ?_;rintro ev w5 ⟨v2,rfl,hn5,hb5⟩;have KT:=aB HTD.out hT2 hb5;have FT:=aH HUD.out hT2 hb5;obtain⟨y0,y1,y2,y3,y4,y5,y6⟩:=gA7 KT;obtain⟨f0,f1,f2,f3,f4,f5,f6⟩:=gF7 FT;skip)
   all_goals
    have KX:=Af KT v2 s;have nP:=gO (fQ.put7 (T:=w.heap.size+1) (G:=w.heap.size) hn5 hT2 (by omega));have jF:=gO (fK (T:=w.heap.size+1) (Below.step Tq.out hb5) (Nat.le_succ _) v2 s);clear KT FT y0 y1 y2 y3 y4 y5 y6 f0 f1 f2 f3 f4 f5 f6 hn5 hb5 k0 k1 k2 k3 k4 k5 k6;go_wp2_with fail
    generalize ((((((w5.setCell _ _).setCell _ _).setCell _ _).setCell _ _).setCell _ _).setCell _ _).setCell _ _=wx at*;exact bodyPost_ret (v:= .tuple #[.agg #[.slice v2.a1 v2.n1 v2.c1,.slice v2.hc.az 2 v2.hc.cz,.slice v2.hc.am 2 v2.hc.cm,.int .i64 (s.h.aC:Int),.slice v2.hc.al v2.hc.lc.length v2.hc.cl,.slice v2.hc.av s.h.live.length v2.hc.cv,.slice v2.a2 v2.ys.length v2.c2],.int .i64 a,.int .i64 0]) (by simp[results,Tryz.results45,go_sem,KX]) rfl (.inr ⟨s,a,v2,HE.out,rfl,nP.out,jF.out⟩)
  ·have aHx:¬(n:Int)<=z:=by omega
   go_upto_region 8 with fail
   have Au:=gO (Ef v s cpu n w2 (HS1.out.below HB2.out) HK.out HF.out HKS.out bJ (HO1.out.below HB2.out) (HSZ1.out.below HB2.out) hn1 hn2);have HT2:=gO (aB HK2.out hsz2 HB2.out);have HU2:=gO (aH HF2.out hsz2 HB2.out);have hT2:=gI hsz2 HB2.out.size;have Tq:=gO (Below.step HB1.out HB2.out);have HO2:=gO (HO1.out.below HB2.out);have HSZ2:=gO (HSZ1.out.below HB2.out);clear HS1 HO1 HSZ1 HK12 HK1 HK2 HF2;cases hka:s.fE cpu n with
   | none=>
    have HE:Hid (rZ= .inl 6):=by
     unfold Hid;rw[<- wO.out];unfold Sy.fF;rw[HZ.out];simp only[if_neg hnz];rw[hka]
    have HAN:Hid (Calls Tryz.prog 29 #[.agg #[.slice v.a1 v.n1 v.c1,.slice v.hc.az 2 v.hc.cz,.slice v.hc.am 2 v.hc.cm,.int .i64 (s.h.aC:Int),.slice v.hc.al v.hc.lc.length v.hc.cl,.slice v.hc.av s.h.live.length v.hc.cv,.slice v.a2 v.ys.length v.c2],.int .i64 cpu,.int .i64 n] w2 fun ev w'=>ev= .returned (.tuple #[.agg #[.slice none 0 0,.slice none 0 0,.slice none 0 0,.int .i64 0,.slice none 0 0,.slice none 0 0,.slice none 0 0],.int .i64 0,.int .i64 6])/\Below w2.heap.size w2 w'):=by
     refine Au.out.mono ?_;rintro ev w' (⟨_,h,hb⟩ | ⟨s',b',v'',h,_⟩)
     ·exact⟨h,hb⟩
     ·rw[hka]at h;cases h
    clear Au hka;go_upto_region 10 with (go_at_call 29;refine HAN.out.mono ?_;rintro ev w5 ⟨rfl,hb5⟩)
    have hb6:=Below.step hb5 (aF w5 (.cells #[.slice none 0 0,.slice none 0 0,.slice none 0 0,.int .i64 0,.slice none 0 0,.slice none 0 0,.slice none 0 0] 47));have jE:=gO (aB HT2.out hT2 hb6);have tJ:=gO (aH HU2.out hT2 hb6);have tK:=gO (Below.step Tq.out hb6);clear hb5 hb6 HAN k0 k1 k2 k3 k4 k5 k6 HT2 HU2;generalize w5.alloc _=w6 at*;obtain⟨q0,q1,q2,q3,q4,q5,q6⟩:=gA7 jE.out;obtain⟨f0,f1,f2,f3,f4,f5,f6⟩:=gF7 tJ.out;have jB:=nil7 jE.out tK.out (show w.heap.size<=w.heap.size+1 by omega);have KX:=jB.1;have jF:=gO jB.2;clear jB jE tJ tK;go_wp2_with fail
    generalize ((((((w6.setCell _ _).setCell _ _).setCell _ _).setCell _ _).setCell _ _).setCell _ _).setCell _ _=wx at*;exact bodyPost_ret (v:= .tuple #[.agg #[.slice none 0 0,.slice none 0 0,.slice none 0 0,.int .i64 0,.slice none 0 0,.slice none 0 0,.slice none 0 0],.int .i64 0,.int .i64 6]) (by simp[results,Tryz.results45,go_sem,KX]) rfl (.inl ⟨6,HE.out,rfl,jF.out⟩)
   | some r=>
    obtain⟨t,b⟩:=r;obtain⟨mv,u,gg,m,hku,hnm,hst,_,_⟩:=HK.out.moved HKS.out bJ hn1 hn2 HZ.out (by omega) hka;have HE:Hid (rZ= .inr (u,b)):=by
     unfold Hid;rw[<- wO.out];unfold Sy.fF;rw[HZ.out];simp only[if_neg hnz];rw[hka];simp only;rw[hku]
    have HAS:Hid (Calls Tryz.prog 29 #[.agg #[.slice v.a1 v.n1 v.c1,.slice v.hc.az 2 v.hc.cz,.slice v.hc.am 2 v.hc.cm,.int .i64 (s.h.aC:Int),.slice v.hc.al v.hc.lc.length v.hc.cl,.slice v.hc.av s.h.live.length v.hc.cv,.slice v.a2 v.ys.length v.c2],.int .i64 cpu,.int .i64 n] w2 fun ev w'=>∃v2,ev= .returned (.tuple #[.agg #[.slice v2.a1 v2.n1 v2.c1,.slice v2.hc.az 2 v2.hc.cz,.slice v2.hc.am 2 v2.hc.cm,.int .i64 (t.h.aC:Int),.slice v2.hc.al v2.hc.lc.length v2.hc.cl,.slice v2.hc.av t.h.live.length v2.hc.cv,.slice v2.a2 v2.ys.length v2.c2],.int .i64 b,.int .i64 0])/\fQ w' w2.heap.size t v2/\Below w2.heap.size w2 w'):=by
     refine Au.out.mono ?_;rintro ev w' (⟨h,_⟩ | ⟨s',b',v'',h,h1,h2,h3⟩)
     ·rw[hka]at h;cases h
     ·rw[hka]at h;obtain⟨rfl,rfl⟩:t=s'/\b=b':=by simpa using h
      exact⟨v'',h1,h2,h3⟩
    have HMV:=gO mv;have HKU:=gO hku;have hcp:cpu<t.h.aC:=by rw[mv.cp];exact bJ
    have HNT:=gO (rX (kY mv.sg) HF.out);clear Au hka mv hku hst hnm;go_upto_region 11 with (go_at_call 29;refine HAS.out.mono ?_;rintro ev w5 ⟨v2,rfl,hn5,hb5⟩)
    have bal:=aF w5 (.cells #[.slice v2.a1 v2.n1 v2.c1,.slice v2.hc.az 2 v2.hc.cz,.slice v2.hc.am 2 v2.hc.cm,.int .i64 (t.h.aC:Int),.slice v2.hc.al v2.hc.lc.length v2.hc.cl,.slice v2.hc.av t.h.live.length v2.hc.cv,.slice v2.a2 v2.ys.length v2.c2] 47);have hb6:=Below.step hb5 bal;have HS6:=gO (fQ.box hn5);have HBx:=gO (show w5.heap.size<(w5.alloc (.cells #[.slice v2.a1 v2.n1 v2.c1,.slice v2.hc.az 2 v2.hc.cz,.slice v2.hc.am 2 v2.hc.cm,.int .i64 (t.h.aC:Int),.slice v2.hc.al v2.hc.lc.length v2.hc.cl,.slice v2.hc.av t.h.live.length v2.hc.cv,.slice v2.a2 v2.ys.length v2.c2] 47)).heap.size by simp);have HGx:=gO (show w2.heap.size<=w5.heap.size from hb5.size);have HB6:=gO (Below.step Tq.out hb6);have HT6:=gO (aB HT2.out hT2 hb6);have HU6:=gO (aH HU2.out hT2 hb6);have hT6:=gI hT2 hb6.size;clear hb5 hb6 HAS k0 k1 k2 k3 k4 k5 k6 hn5 bal HT2 HU2 HO2 HSZ2 Tq HB2 HB1;generalize w5.alloc _=w6 at*;generalize w5.heap.size=Bx at*;obtain⟨g0,g1,g2,g3,g4,g5,g6⟩:=gA7 HS6.out.k;have hxs:t.w.length=v2.n1:=HS6.out.r.at.lw;have hwl:=HMV.out.wl;have hmo:=Zj v2.a1 v2.c1 t.w b.toNat a.toNat z w6 (by omega) (by have:=HS6.out.r.at.kw;omega) HS6.out.r.at.rw (by have:=HMV.out.b0;omega) (by have:=HMV.out.a0;omega);have ha0:=HMV.out.a0;have hb0:=HMV.out.b0;rw[Int.toNat_of_nonneg ha0.1,Int.toNat_of_nonneg hb0.1,hxs]at hmo;have HMO:=gO hmo;clear hmo hwl;go_upto_region 12 with (go_at_call 93;refine HMO.out.mono ?_;rintro ev w7 ⟨a7,c7,rfl,ho7,hb7⟩;have K7:=(HS6.out.below hb7).k;have F7:=(HS6.out.below hb7).fz;obtain⟨y0,y1,y2,y3,y4,y5,y6⟩:=gA7 K7;obtain⟨f0,f1,f2,f3,f4,f5,f6⟩:=gF7 F7;skip)
    have HS8:=gO (SS.aHw HS6.out hb7 ho7);have HT8:=gO (aA (aB HT6.out hT6 hb7) (show w.heap.size+1≠Bx by have:=HGx.out;omega) 0 (.slice a7 v2.n1 c7));have HU8:=gO (aG (aH HU6.out hT6 hb7) ⟨Bx,0,none⟩ (.slice a7 v2.n1 c7));have HB8:=gO (Below.setCell (Below.step HB6.out hb7) (show w.heap.size<=(⟨Bx,0,none⟩:Addr).block by have:=HGx.out;show w.heap.size<=Bx;omega) (.slice a7 v2.n1 c7));have hB8:Bx<(w7.setCell ⟨Bx,0,none⟩ (.slice a7 v2.n1 c7)).heap.size:=by
     have:=HBx.out;have:=hb7.size;have h9:(w7.setCell ⟨Bx,0,none⟩ (.slice a7 v2.n1 c7)).heap.size=w7.heap.size:=by simp
     omega
    have HBx8:=gO hB8;clear hb7 ho7 K7 F7 y0 y1 y2 y3 y4 y5 y6 f0 f1 f2 f3 f4 f5 f6 g0 g1 g2 g3 g4 g5 g6 HMO HS6 HT6 HU6 HB6 hT6 hB8;generalize w7.setCell _ _=w8 at*;obtain⟨g0,g1,g2,g3,g4,g5,g6⟩:=gA7 HS8.out.k;have HSZ8:=gO (HSZ0.out.below HB8.out);obtain⟨v3,hv3⟩:∃v3:Sc,v3={v2 with a1:=a7,n1:=v2.n1,c1:=c7}:=⟨_,rfl⟩
    obtain⟨tm,htm⟩:∃tm:Sy,tm=t.moved b.toNat a.toNat z:=⟨_,rfl⟩
    have hkf:=TY v3 tm cpu a w8 (by rw[hv3,htm];exact HS8.out.r.at) (by rw[htm];exact HMV.out.ok) (by rw[htm];exact HNT.out) (by rw[htm];exact hcp) HSZ8.out hab;have HKF:Hid (Calls Tryz.prog 42 #[.agg #[.slice a7 v2.n1 c7,.slice v2.hc.az 2 v2.hc.cz,.slice v2.hc.am 2 v2.hc.cm,.int .i64 (t.h.aC:Int),.slice v2.hc.al v2.hc.lc.length v2.hc.cl,.slice v2.hc.av t.h.live.length v2.hc.cv,.slice v2.a2 v2.ys.length v2.c2],.int .i64 cpu,.int .i64 a] w8 fun ev w'=>∃v4,ev= .returned (.tuple #[.agg #[.slice v4.a1 v4.n1 v4.c1,.slice v4.hc.az 2 v4.hc.cz,.slice v4.hc.am 2 v4.hc.cm,.int .i64 (u.h.aC:Int),.slice v4.hc.al v4.hc.lc.length v4.hc.cl,.slice v4.hc.av u.h.live.length v4.hc.cv,.slice v4.a2 v4.ys.length v4.c2],.int .i64 0])/\fQ w' w8.heap.size u v4/\Below w8.heap.size w8 w'):=by
     rw[hv3,htm]at hkf;refine Calls.mono hkf ?_;rintro ev w' (⟨h,_⟩ | ⟨s',v',h,h1,h2,h3⟩)
     ·rw[HKU.out]at h;cases h
     ·rw[HKU.out]at h;obtain rfl:=gP h;exact⟨v',h1,h2,h3⟩
    clear hkf hv3 htm;go_upto_region 13 with (go_at_call 42;refine HKF.out.mono ?_;rintro ev w9 ⟨v4,rfl,hn9,hb9⟩;have K9:=gO (aB HS8.out.k HBx8.out hb9);have F9:=gO (aH HS8.out.fz HBx8.out hb9);obtain⟨y0,y1,y2,y3,y4,y5,y6⟩:=gA7 K9.out;obtain⟨f0,f1,f2,f3,f4,f5,f6⟩:=gF7 F9.out;skip)
    have HS9:=gO (fQ.store hn9 HBx8.out (a0:= .slice a7 v2.n1 c7) (a1:= .slice v2.hc.az 2 v2.hc.cz) (a2:= .slice v2.hc.am 2 v2.hc.cm) (a3:= .int .i64 (t.h.aC:Int)) (a4:= .slice v2.hc.al v2.hc.lc.length v2.hc.cl) (a5:= .slice v2.hc.av t.h.live.length v2.hc.cv) (a6:= .slice v2.a2 v2.ys.length v2.c2) K9.out F9.out);have hT8:w.heap.size+1<w8.heap.size:=by
     have:=HBx8.out;have:=HGx.out;omega
    have hTB:w.heap.size+1≠Bx:=by have:=HGx.out;omega
    have HT9:=gO (oD (aB HT8.out hT8 hb9) hTB v4 u);have HU9:=gO (IZ (T:=Bx) (aH HU8.out hT8 hb9) v4 u);have HB9:=gO (fK (T:=Bx) (Below.step HB8.out hb9) (show w.heap.size<=Bx by have:=HGx.out;omega) v4 u);clear hn9 hb9 K9 F9 y0 y1 y2 y3 y4 y5 y6 f0 f1 f2 f3 f4 f5 f6 g0 g1 g2 g3 g4 g5 g6 HS8 HT8 HU8 HB8 HKF;generalize ((((((w9.setCell _ _).setCell _ _).setCell _ _).setCell _ _).setCell _ _).setCell _ _).setCell _ _=w10 at*;obtain⟨g0,g1,g2,g3,g4,g5,g6⟩:=gA7 HS9.out.k;obtain⟨q0,q1,q2,q3,q4,q5,q6⟩:=gA7 HT9.out;obtain⟨f0,f1,f2,f3,f4,f5,f6⟩:=gF7 HU9.out;go_wp2_with fail
    have KX:=Af (T:=w.heap.size+1) HT9.out v4 u;have nP:Hid (fQ (((((((w10.setCell ⟨w.heap.size+1,0,none⟩ (.slice v4.a1 v4.n1 v4.c1)).setCell ⟨w.heap.size+1,1,none⟩ (.slice v4.hc.az 2 v4.hc.cz)).setCell ⟨w.heap.size+1,2,none⟩ (.slice v4.hc.am 2 v4.hc.cm)).setCell ⟨w.heap.size+1,3,none⟩ (.int .i64 (u.h.aC:Int))).setCell ⟨w.heap.size+1,4,none⟩ (.slice v4.hc.al v4.hc.lc.length v4.hc.cl)).setCell ⟨w.heap.size+1,5,none⟩ (.slice v4.hc.av u.h.live.length v4.hc.cv)).setCell ⟨w.heap.size+1,6,none⟩ (.slice v4.a2 v4.ys.length v4.c2)) w.heap.size u v4):=(SR.put7 HS9.out.r (T:=w.heap.size+1) ⟨hT8,hTB⟩ v4 u).toX ⟨Nat.lt_of_succ_lt hT8,by have:=HGx.out;omega⟩ (fun k (hk:k<w.heap.size)=>⟨Nat.lt_trans hk (Nat.lt_of_succ_lt hT8),by have:=HGx.out;omega⟩) (Nat.lt_irrefl _);have jF:=gO (fK (T:=w.heap.size+1) HB9.out (Nat.le_succ _) v4 u);generalize ((((((w10.setCell _ _).setCell _ _).setCell _ _).setCell _ _).setCell _ _).setCell _ _).setCell _ _=wx at*;exact bodyPost_ret (v:= .tuple #[.agg #[.slice v4.a1 v4.n1 v4.c1,.slice v4.hc.az 2 v4.hc.cz,.slice v4.hc.am 2 v4.hc.cm,.int .i64 (u.h.aC:Int),.slice v4.hc.al v4.hc.lc.length v4.hc.cl,.slice v4.hc.av u.h.live.length v4.hc.cv,.slice v4.a2 v4.ys.length v4.c2],.int .i64 b,.int .i64 0]) (by simp[results,Tryz.results45,go_sem,KX]) rfl (.inr ⟨u,b,v4,HE.out,rfl,nP.out,jF.out⟩)
end
section
open Go.RowKit
def lay (w:World):List (Array Value×TypeId)->World
 | []=>w
 | p::l=>lay (w.alloc (.cells p.1 p.2)) l
theorem Gz (w:World):∀l,Below w.heap.size w (lay w l)/\(lay w l).heap.size=w.heap.size+l.length:=fun l=>by
 induction l generalizing w with
 | nil=>exact⟨Below.refl _ _,rfl⟩
 | cons p l ih=>
  obtain⟨h1,h2⟩:=ih (w.alloc (.cells p.1 p.2));refine⟨Below.step (aF _ _) h1,h2.trans ?_⟩;simp only[List.length_cons];have:(w.alloc (.cells p.1 p.2)).heap.size=w.heap.size+1:=by simp
  omega
theorem Ak (w:World):∀l i (hi:i<l.length),(∀o,(lay w l).cell? ⟨w.heap.size+i,o,none⟩=(l[i].1)[o]?)/\∀o,(lay w l).frozen? ⟨w.heap.size+i,o,none⟩=false:=fun l=>by
 induction l generalizing w with
 | nil=>intro i hi;simp at hi
 | cons p l ih=>
  intro i hi;have hsz:(w.alloc (.cells p.1 p.2)).heap.size=w.heap.size+1:=by simp
  cases i with
  | zero=>
   have hb:=(Gz (w.alloc (.cells p.1 p.2)) l).1;exact⟨aB (aW w p.1 p.2) (by omega) hb,aH (eY w p.1 p.2) (by omega) hb⟩
  | succ i=>
   have h:=ih (w.alloc (.cells p.1 p.2)) i (by simpa using hi);rw[hsz,show w.heap.size+1+i=w.heap.size+(i+1)by omega]at h;exact h
structure Ac where
 k:Int
 u:Int
 n:Int
 m:Int
 p:Int
 f:Int
 s:List UInt8
structure An where
 c:Nat
 n:Int
 l:List Int
def Sy.ans (s:Sy)(r:Option (Sy×Int)):Sy×An:=match r with
 | none=>(s,⟨6,0,[]⟩)
 | some (t,a)=>(t,⟨0,a,[]⟩)
noncomputable def Sy.aHA (s:Sy)(r:Option (Sy×List Int)):Sy×An:=match r with
 | none=>(s,⟨6,0,[]⟩)
 | some (t,l)=>(t,⟨0,0,l⟩)
def Sy.aHB (s:Sy)(r:Nat ⊕ (Sy×Int)):Sy×An:=match r with
 | .inl e=>(s,⟨e,0,[]⟩)
 | .inr (t,a)=>(t,⟨0,a,[]⟩)
def Sy.aHC (s:Sy)(r:Option (Hp×Nat)):Sy×An:=match r with
 | none=>(s,⟨6,0,[]⟩)
 | some (h,a)=>({s with h:=h},⟨0,(a:Nat),[]⟩)
inductive Dn (s:Sy):Ac->Sy×An->Prop where
 |pages (u o f:Nat) (h1:u<s.h.aC) (h2:o<=4) (h3:f<=15) (h4:¬(f/2%2=1/\f/4%2=1)):Dn s ⟨1,u,o,0,0,f,[]⟩ (s.aHC (s.h.alloc u o (pO f) (decide (f/8%2=1)) (decide (f%2=1))))
 |give (u:Nat) (b:Bk) (h1:u<s.h.aC) (h2:s.whole b):Dn s ⟨2,u,0,0,(b.a:Nat),0,[]⟩ (s.jS u b,⟨0,0,[]⟩)
 |ob (t:Sy) (h1:s.create [111,98] 5=some t) (h2:s.named [111,98]=none):Dn s ⟨3,0,5,1,0,0,[111,98]⟩ (t,⟨0,0,[]⟩)
 |pair (t:Sy) (h1:s.create [112,97,105,114] 2=some t) (h2:s.named [112,97,105,114]=none):Dn s ⟨3,0,2,2,0,0,[112,97,105,114]⟩ (t,⟨0,0,[]⟩)
 |new (u i:Nat) (n:List UInt8) (h1:u<s.h.aC) (h2:s.named n=some i):Dn s ⟨5,u,0,0,0,0,n⟩ (s.ans (s.one i u))
 |drop (u i k:Nat) (a:Int) (n:List UInt8) (h1:u<s.h.aC) (h2:s.named n=some i) (h3:s.fV i k a):Dn s ⟨6,u,0,0,a,0,n⟩ (s.free i k a.toNat u,⟨0,0,[]⟩)
 |shrink (u i:Nat) (n:List UInt8) (h2:s.named n=some i):Dn s ⟨7,u,0,0,0,0,n⟩ (s.shrink i,⟨0,0,[]⟩)
 |bulk (u i m:Nat) (n:List UInt8) (h1:u<s.h.aC) (h2:s.named n=some i) (h3:1<=m) (h4:m<=256):Dn s ⟨15,u,m,0,0,0,n⟩ (s.aHA (s.bulk i u m))
 |fE (u m:Nat) (h1:u<s.h.aC) (h3:1<=m) (h4:m<=256):Dn s ⟨8,u,m,0,0,0,[]⟩ (s.ans (s.fE u m))
 |nO (u:Nat) (a:Int) (t:Sy) (h1:u<s.h.aC) (h2:s.nO u a=some t) (h3:0<=a/\a<=4096):Dn s ⟨9,u,0,0,a,0,[]⟩ (t,⟨0,0,[]⟩)
 |resize (u m:Nat) (a:Int) (h1:u<s.h.aC) (h2:1<=m) (h3:m<=256) (h4:0<=a/\a<=4096):Dn s ⟨11,u,m,0,a,0,[]⟩ (s.aHB (s.fF u a m))
 |drain (u:Nat) (n:List UInt8):Dn s ⟨12,u,0,0,0,0,n⟩ ({s with h:=s.h.drain},⟨0,0,[]⟩)
 |write (u a:Nat) (m:Int) (h2:s.oZ a 1) (h3: -1099511627776<=m/\m<=1099511627776):Dn s ⟨13,u,0,m,a,0,[]⟩ ({s with w:=s.w.set a m},⟨0,0,[]⟩)
 |read (u a:Nat) (h2:s.oZ a 1):Dn s ⟨14,u,0,0,a,0,[]⟩ (s,⟨0,s.w.getD a 0,[]⟩)
structure Jt (s:Sy):Prop where
 ok:bK s
 nm:∀c∈s.cs,c.ns.length<=900
 sg:Ag s
def aBV (v:Sc)(s:Sy)(r:Sy×An)(w:World)(ev:Ending)(w':World):Prop:=
 ∃(v':Sc) (d:Option Addr) (cap:Nat),ev= .returned (.tuple #[.agg (v'.vals r.1),.agg #[.int .i64 (r.2.c:Int),.int .i64 r.2.n,.slice d r.2.l.length cap]])/\(∀G X,SR w G X s v->SR w' G X r.1 v')/\Below w.heap.size w w'/\w'.ownsRow w.heap.size 3 1 (.slice d r.2.l.length cap) r.2.l.length (r.2.l.map vI)
end
section
def Xp:List UInt8:=[111,98]
def BD:List UInt8:=[112,97,105,114]
def k4B:List UInt8:=[107,52]
structure Th where
 a:Int
 z:Int
 k:Int
 n:List UInt8
 w:Int
 b:Bool
inductive ThK (s:Sy)(a:Int)(m:Nat):Int->List UInt8->Prop where
 |num (h:s.dV a=some m):ThK s a m 8 []
 |pag (h:s.holds a none m):ThK s a m 1 []
 |obj (i:Nat) (n:List UInt8) (h1:s.named n=some i) (h2:s.holds a (some i) m) (h3:n=Xp∨n=BD):ThK s a m 5 n
structure Nh (s:Sy)(t:Th)(m:Nat):Prop where
 k:ThK s t.a m t.k t.n
 z:1<=t.z/\t.z<=m
 w:t.b=true->s.w.getD t.a.toNat 0=t.w
theorem ThK.held {s:Sy}{a:Int}{m:Nat}{k:Int}{n:List UInt8}(h:ThK s a m k n):∃g,s.holds a g m:=by
 cases h with
 | num h=>
  obtain⟨g,h1,_⟩:=kF h;exact⟨g,h1⟩
 | pag h=>exact⟨none,h⟩
 | obj i n h1 h2 h3=>exact⟨some i,h2⟩
structure Cs (s:Sy):Prop where
 ob:∃i c,s.named Xp=some i/\s.cs[i]? =some c/\c.z=5/\lY c.ns=false/\Xp∈c.ns
 pr:∃i c,s.named BD=some i/\s.cs[i]? =some c/\c.z=2/\lY c.ns=true/\BD∈c.ns
 k4:∃i,s.named k4B=some i
 mi:∀(i:Nat) (c:Ca),s.cs[i]? =some c->Xp∉c.ns->lY c.ns=true
structure lZ (s:Sy)(L:List Th):Prop where
 g:Jt s
 cs:Cs s
 th:∀t∈L,∃m,Nh s t m
 nd:(L.map (·.a)).Nodup
 all:∀a g m,s.holds a g m->∃t∈L,t.a=a
theorem oH {s t:Sy}(h:t.sig=s.sig)(n:List UInt8):t.named n=s.named n:=by rw[kJ,kY h,<- kJ]
theorem Cs.Jd {s t:Sy}(h:Cs s)(hs:t.sig=s.sig):Cs t:=by
 have key:∀(i:Nat) (c:Ca),s.cs[i]? =some c->∃d,t.cs[i]? =some d/\d.ns=c.ns/\d.z=c.z:=fun i c hc=>by
  have h5:=qK hc;rw[<- hs]at h5;exact qL h5
 have key2:∀(i:Nat) (c:Ca),t.cs[i]? =some c->∃d,s.cs[i]? =some d/\d.ns=c.ns/\d.z=c.z:=fun i c hc=>by
  have h5:=qK hc;rw[hs]at h5;exact qL h5
 refine⟨?_,?_,?_,fun i c hc hn=> ?_⟩
 ·obtain⟨i,c,h1,h2,h3,h4,h5⟩:=h.ob;obtain⟨d,hd,e1,e2⟩:=key i c h2;exact⟨i,d,by rw[oH hs];exact h1,hd,by rw[e2];exact h3,by rw[e1];exact h4,by rw[e1];exact h5⟩
 ·obtain⟨i,c,h1,h2,h3,h4,h5⟩:=h.pr;obtain⟨d,hd,e1,e2⟩:=key i c h2;exact⟨i,d,by rw[oH hs];exact h1,hd,by rw[e2];exact h3,by rw[e1];exact h4,by rw[e1];exact h5⟩
 ·obtain⟨i,h1⟩:=h.k4;exact⟨i,by rw[oH hs];exact h1⟩
 ·obtain⟨d,hd,e1,_⟩:=key2 i c hc;rw[<- e1];exact h.mi i d hd (by rw[e1];exact hn)
theorem Jt.of {s t:Sy}(h:Jt s)(hk:bK t)(hs:t.sig=s.sig):Jt t:=⟨hk,rX (kY hs) h.nm,h.sg.Jd hs⟩
theorem Step.dV {s t:Sy}{A:List (Int×Option Nat×Nat)}{d:Option Int}(h:Step s t A d){a:Int}{m:Nat}(hz:s.dV a=some m)(hd:d≠some a):t.dV a=some m:=by
 obtain⟨g,h1,h2⟩:=kF hz;refine h.ok.yU ((h.hd a g m).2 (.inl ⟨h1,hd⟩)) fun i c e hc=> ?_
 have h5:=qK hc;rw[h.sg]at h5;obtain⟨c',hc',e1,_⟩:=qL h5;have e1':c'.ns=c.ns:=e1;rw[<- e1'];exact h2 i c' e hc'
theorem Nh.step {s t:Sy}{A:List (Int×Option Nat×Nat)}{d:Option Int}(h:Step s t A d)(hk:bK s){x:Th}{m:Nat}(hx:Nh s x m)(hd:d≠some x.a):Nh t x m:=by
 obtain⟨g,hh⟩:=hx.k.held;have hp:=hk.kL hh;refine⟨?_,hx.z,fun hb=> ?_⟩
 ·obtain⟨a,z,k,n,w,b⟩:=x;have hk':=hx.k;simp only at hk' hd ⊢;cases hk' with
  | num h1=>exact .num (h.dV h1 hd)
  | pag h1=>exact .pag ((h.hd _ _ _).2 (.inl ⟨h1,hd⟩))
  | obj i n h1 h2 h3=>exact .obj i n (by rw[oH h.sg];exact h1) ((h.hd _ _ _).2 (.inl ⟨h2,hd⟩)) h3
 ·rw[h.wd x.a.toNat x.a g m hh hd (by omega) (by omega)];exact hx.w hb
theorem lZ.add {s t:Sy}{L:List Th}(h:lZ s L){A:List (Int×Option Nat×Nat)}(hs:Step s t A none){N:List Th}(hn:∀x∈N,∃m,Nh t x m)(hA:N.map (·.a)=A.map (·.1))(hd:(A.map (·.1)).Nodup):lZ t (L++N):=by
 refine⟨h.g.of hs.ok hs.sg,h.cs.Jd hs.sg,fun x hx=> ?_,?_,fun a g m hh=> ?_⟩
 ·rcases List.mem_append.1 hx with hx | hx
  ·obtain⟨m,hm⟩:=h.th x hx;exact⟨m,hm.step hs h.g.ok (by simp)⟩
  ·exact hn x hx
 ·rw[List.map_append,hA];refine List.nodup_append.2 ⟨h.nd,hd,fun a ha b hb e=> ?_⟩;obtain⟨x,hx,rfl⟩:=List.mem_map.1 ha;obtain⟨y,hy,rfl⟩:=List.mem_map.1 hb;obtain⟨m,hm⟩:=h.th x hx;obtain⟨g,hh⟩:=hm.k.held;exact hs.nw y hy g m (e▸hh)
 ·rcases(hs.hd a g m).1 hh with ⟨h1,_⟩ | h1
  ·obtain⟨x,hx,e⟩:=h.all a g m h1;exact⟨x,List.mem_append_left _ hx,e⟩
  ·have h2:a∈N.map (·.a):=by
    rw[hA];exact List.mem_map.2 ⟨_,h1,rfl⟩
   obtain⟨x,hx,e⟩:=List.mem_map.1 h2;exact⟨x,List.mem_append_right _ hx,e⟩
theorem Eh {L:List Th}(hn:(L.map (·.a)).Nodup){i j:Nat}{x y:Th}(hi:L[i]? =some x)(hj:L[j]? =some y)(he:x.a=y.a):i=j:=by
 obtain⟨h1,e1⟩:=List.getElem?_eq_some_iff.1 hi;obtain⟨h2,e2⟩:=List.getElem?_eq_some_iff.1 hj;have h:=List.pairwise_iff_getElem.1 hn;rcases Nat.lt_trichotomy i j with hl | hl | hl
 ·exact absurd (by rw[List.getElem_map,List.getElem_map,e1,e2];exact he) (h i j (by simpa using h1) (by simpa using h2) hl)
 ·exact hl
 ·exact absurd (by rw[List.getElem_map,List.getElem_map,e1,e2];exact he.symm) (h j i (by simpa using h2) (by simpa using h1) hl)
theorem lZ.del {s t:Sy}{L:List Th}(h:lZ s L){i:Nat}{x:Th}(hi:L[i]? =some x)(hs:Step s t [] (some x.a)):lZ t (L.eraseIdx i):=by
 refine⟨h.g.of hs.ok hs.sg,h.cs.Jd hs.sg,fun y hy=> ?_,?_,fun a g m hh=> ?_⟩
 ·obtain⟨j,hj,e⟩:=List.mem_eraseIdx_iff_getElem?.1 hy;obtain⟨m,hm⟩:=h.th y (gM e);exact⟨m,hm.step hs h.g.ok fun e'=>hj (Eh h.nd e hi (gP e').symm)⟩
 ·exact h.nd.sublist ((List.eraseIdx_sublist L i).map _)
 ·rcases(hs.hd a g m).1 hh with ⟨h1,h2⟩ | h1
  ·obtain⟨y,hy,e⟩:=h.all a g m h1;obtain⟨j,hj,ej⟩:=List.mem_iff_getElem.1 hy;refine⟨y,List.mem_eraseIdx_iff_getElem?.2 ⟨j,fun e'=> ?_,by rw[gJ hj,ej]⟩,e⟩;subst e';rw[gJ hj,ej]at hi;exact h2 (by rw[<- gP hi,e])
  ·cases h1
theorem lZ.upd {s t:Sy}{L:List Th}(h:lZ s L)(hg:Jt t)(hc:Cs t){i:Nat}{x x':Th}(hi:L[i]? =some x){m':Nat}(hx:Nh t x' m')
 (ho:∀y∈L,y.a≠x.a->y.a≠x'.a/\∀m,Nh s y m->Nh t y m) (hall:∀a g m,t.holds a g m->(a≠x.a/\∃g m,s.holds a g m)∨a=x'.a):lZ t (L.set i x'):=by
 obtain⟨hl,hie⟩:=List.getElem?_eq_some_iff.1 hi;have hmem:∀y∈L.set i x',y=x'∨∃j,j≠i/\L[j]? =some y:=fun y hy=>(rE hi).1 hy
 have hne:∀y j,j≠i->L[j]? =some y->y.a≠x.a:=fun y j hj e e'=>hj (Eh h.nd e hi e')
 refine⟨hg,hc,fun y hy=> ?_,?_,fun a g m hh=> ?_⟩
 ·rcases hmem y hy with rfl | ⟨j,hj,e⟩
  ·exact⟨m',hx⟩
  ·obtain⟨m,hm⟩:=h.th y (gM e);exact⟨m,(ho y (gM e) (hne y j hj e)).2 m hm⟩
 ·refine List.pairwise_iff_getElem.2 fun p q hp hq hpq=> ?_
  simp only[List.length_map,List.length_set]at hp hq;rw[List.getElem_map,List.getElem_map,List.getElem_set,List.getElem_set];have hd:=List.pairwise_iff_getElem.1 h.nd p q (by simpa using hp) (by simpa using hq) hpq;rw[List.getElem_map,List.getElem_map]at hd;split
  ·rename_i e;subst e;rw[if_neg (by omega)];exact fun e=>(ho L[q] (gL hq) (hne _ q (by omega) (gJ hq))).1 e.symm
  ·split
   ·rename_i e1 e;subst e;exact(ho L[p] (gL hp) (hne _ p (by omega) (gJ hp))).1
   ·exact hd
 ·rcases hall a g m hh with ⟨h1,g',m2,h2⟩ | h1
  ·obtain⟨y,hy,e⟩:=h.all a g' m2 h2;obtain⟨j,hj,ej⟩:=List.mem_iff_getElem.1 hy;refine⟨y,(rE hi).2 (.inr ⟨j,fun e'=> ?_,by rw[gJ hj,ej]⟩),e⟩;subst e';rw[gJ hj,ej]at hi;exact h1 (by rw[<- gP hi,e])
  ·exact⟨x',(rE hi).2 (.inl rfl),h1.symm⟩
end
section
inductive rM (cp:Nat):Ac->Int->Prop where
 |fE (u n:Nat) (h:u<cp) (h1:1<=n) (h2:n<=140):rM cp ⟨8,u,n,0,0,0,[]⟩ 0
 |nO (u:Nat) (f:Int) (h:u<cp) (h1:1<=f/\f<=9):rM cp ⟨9,u,0,0,0,0,[]⟩ f
 |resize (u n:Nat) (f:Int) (h:u<cp) (h1:1<=f/\f<=9) (h2:1<=n) (h3:n<=60):rM cp ⟨11,u,n,0,0,0,[]⟩ f
 |pages (u o f:Nat) (h:u<cp) (h1:o<=4) (h2:f=0∨f=2∨f=4∨f=1∨f=8∨f=3∨f=10):rM cp ⟨1,u,o,0,0,f,[]⟩ 0
 |give (u:Nat) (f:Int) (h:u<cp) (h1:1<=f/\f<=9):rM cp ⟨2,u,0,0,0,0,[]⟩ f
 |new (u:Nat) (n:List UInt8) (h:u<cp) (h1:n=Xp∨n=BD):rM cp ⟨5,u,0,0,0,0,n⟩ 0
 |drop (u:Nat) (n:List UInt8) (f:Int) (h:u<cp) (h1:n=Xp∨n=BD) (h2:1<=f/\f<=9):rM cp ⟨6,u,0,0,0,0,n⟩ f
 |drain (u:Nat) (n:List UInt8) (h:u<cp) (h1:n=Xp∨n=BD∨n=k4B):rM cp ⟨12,u,0,0,0,0,n⟩ 0
 |shrink (u:Nat) (n:List UInt8) (h:u<cp) (h1:n=Xp∨n=BD∨n=k4B):rM cp ⟨7,u,0,0,0,0,n⟩ 0
 |bulk (u m:Nat) (h:u<cp) (h1:1<=m) (h2:m<=30):rM cp ⟨15,u,m,0,0,0,Xp⟩ 0
 |write (u:Nat) (m f:Int) (h:u<cp) (h1:0<=m/\m<=1000) (h2:1<=f/\f<=9):rM cp ⟨13,u,0,m,0,0,[]⟩ f
 |read (u:Nat) (f:Int) (h:u<cp) (h2:1<=f/\f<=9):rM cp ⟨14,u,0,0,0,0,[]⟩ f
def fits (c:Ac)(t:Th):Prop:=(c.k=2/\t.k=1)∨(c.k=6/\t.n=c.s/\t.n≠[])∨((c.k=9∨c.k=11)/\t.k=8)∨c.k=13∨c.k=14
def Ac.at (c:Ac)(a:Int):Ac:={c with p:=if c.k=2 then a/16 else a}
theorem ThK.pos {s:Sy}(hk:bK s){a:Int}{m:Nat}{k:Int}{n:List UInt8}(h:ThK s a m k n):1<=m/\0<=a/\a+m<=4096:=by
 obtain⟨g,h1⟩:=h.held;exact hk.kL h1
theorem lZ.same {s:Sy}{L:List Th}(h:lZ s L){t:Sy}(hs:Step s t [] none):lZ t L:=by
 have:=h.add hs (N:=[]) (fun x hx=>by cases hx) rfl List.nodup_nil
 rwa [List.append_nil]at this
theorem Step.nm {s t:Sy}{A:List (Int×Option Nat×Nat)}{d:Option Int}(h:Step s t A d){n:List UInt8}{i:Nat}(hn:s.named n=some i):t.named n=some i:=by rw[oH h.sg];exact hn
def aHE (h:Hp):Sy:={dB h 6 with cs:=(dB h 6).cs++[⟨[Xp],5,fB 5,dS 5,[],List.replicate h.aC (-1)⟩]}
theorem yX {h:Hp}(hk:dZ h):Jt (dB h 6):=⟨Eb hk 6 (Nat.le_refl _),Nj (N:=900) rfl,PL h⟩
end
section
theorem lZ.room {s:Sy}{L:List Th}(h:lZ s L){x:Th}(hx:x∈L):0<=x.a/\1<=x.z/\x.a+x.z<=4096:=by
 obtain⟨m,hm⟩:=h.th x hx;have:=hm.k.pos h.g.ok;have:=hm.z;omega
theorem lZ.apart {s:Sy}{L:List Th}(h:lZ s L){i j:Nat}{x y:Th}(hi:L[i]? =some x)(hj:L[j]? =some y)(hne:i≠j):x.a+x.z<=y.a∨y.a+y.z<=x.a:=by
 obtain⟨m,hm⟩:=h.th x (gM hi);obtain⟨n,hn⟩:=h.th y (gM hj);obtain⟨g,h1⟩:=hm.k.held;obtain⟨g',h2⟩:=hn.k.held;have:=h.g.ok.vM h1 h2 fun e=>hne (Eh h.nd hi hj e)
 have:=hm.z;have:=hn.z;omega
theorem wB {s:Sy}{n:List UInt8}{i:Nat}(h:s.named n=some i):∃c,s.cs[i]? =some c/\n∈c.ns:=by
 unfold Sy.named at h;obtain⟨h1,h2,_⟩:=List.findIdx?_eq_some_iff_getElem.1 h;exact⟨_,gJ h1,List.contains_iff_mem.1 h2⟩
theorem lZ.found {s:Sy}{L:List Th}(h:lZ s L){x:Th}(hx:x∈L):(x.k=5->∃i k c,s.nN x.a=some (i,k)/\s.cs[i]? =some c/\x.n∈c.ns)/\(x.k=1->s.nN x.a=none):=by
 have hk:=h.g.ok;obtain⟨m,hm⟩:=h.th x hx;obtain⟨a,z,k,n,w,b⟩:=x;have hmk:=hm.k;simp only at hmk ⊢;cases hmk with
 | num hz=>exact⟨fun e=>(by cases e),fun e=>(by cases e)⟩
 | pag hh=>
  refine⟨fun e=>(by cases e),fun _=>xK fun i k hq=> ?_⟩;obtain⟨b',h1,h2,_⟩:=hh;rw[h2]at hq;exact hk.lK h1 i k hq
 | obj i n h1 h2 h3=>
  refine⟨fun _=> ?_,fun e=>(by cases e)⟩;obtain⟨kk,hka⟩:=dL.1 h2.1;obtain⟨c,q1,q2⟩:=wB h1;exact⟨i,kk,c,hk.xJ hka,q1,q2⟩
inductive Run (P:Sy->Ac->Sy×An->Prop)(e:Sy):Sy->List Ac->List An->Prop where
 |nil:Run P e e [] []
 |cons {s t:Sy} {l:List Ac} {m:List An} {c:Ac} {x:An} (hd:P s c (t,x)) (hg:Jt s) (h:Run P e t l m):Run P e s (c::l) (x::m)
theorem Run.len {P:Sy->Ac->Sy×An->Prop}{s e:Sy}{l:List Ac}{m:List An}(h:Run P e s l m):l.length=m.length:=by
 induction h with
 | nil=>rfl
 | cons _ _ _ ih=>simp[ih]
theorem Run.snoc {P:Sy->Ac->Sy×An->Prop}{s t u:Sy}{l:List Ac}{m:List An}{c:Ac}{x:An}(h:Run P t s l m)(hd:P t c (u,x))(hg:Jt t):Run P u s (l++[c]) (m++[x]):=by
 induction h with
 | nil=>exact .cons hd hg .nil
 | cons h1 h2 _ ih=>exact .cons h1 h2 ih
theorem Run.step {P:Sy->Ac->Sy×An->Prop}{s e:Sy}{l:List Ac}{m:List An}{j:Nat}(hj:j<l.length)(hm:j<m.length)(h:Run P e s (l.drop j) (m.drop j)):∃t,P s l[j] (t,m[j])/\Jt s/\Run P e t (l.drop (j+1)) (m.drop (j+1)):=by
 rw[List.drop_eq_getElem_cons hj,List.drop_eq_getElem_cons hm]at h;cases h with
 | cons hd hg h=>exact⟨_,hd,hg,h⟩
theorem Run.done {P:Sy->Ac->Sy×An->Prop}{s e:Sy}(h:Run P e s [] []):s=e:=by
 cases h;rfl
structure Pst (h:Hp)(j:Nat)(s:Sy)(L:List Th)(acts:List Ac)(tells:List An):Prop where
 r:Run Dn s (dB h 6) acts tells
 g:Jt s
 cp:s.h.aC=h.aC
 i0:j=0->s=dB h 6/\L=[]
 i1:j=1->s=aHE h/\L=[]
 i2:2<=j->lZ s L
theorem Dn.aC {s t:Sy}{c:Ac}{x:An}(h:Dn s c (t,x))(hg:Jt s):t.h.aC=s.h.aC:=by
 have hk:=hg.ok;generalize hr:(t,x)=r at h;cases h with
 | pages u o f h1 h2 h3 h4=>
  cases ha:s.h.alloc u o (pO f) (decide (f/8%2=1)) (decide (f%2=1))with
  | none=>
   rw[ha]at hr;exact congrArg (fun q:Sy×An=>q.1.h.aC) hr
  | some q=>
   obtain⟨h',a⟩:=q;rw[ha]at hr;have hfl:pO f<3:=by unfold pO;split <;> (try split) <;> omega
   exact(congrArg (fun q:Sy×An=>q.1.h.aC) hr).trans (hk.Gt h1 h2 hfl ha).cp
 | give u b h1 h2=>exact(congrArg (fun q:Sy×An=>q.1.h.aC) hr).trans (hk.Gu h1 h2).cp
 | ob t' h1 h2=>exact(congrArg (fun q:Sy×An=>q.1.h.aC) hr).trans (congrArg Hp.aC (hk.create (by decide) (by decide) h2 h1).2.1)
 | pair t' h1 h2=>exact(congrArg (fun q:Sy×An=>q.1.h.aC) hr).trans (congrArg Hp.aC (hk.create (by decide) (by decide) h2 h1).2.1)
 | new u i n h1 h2=>
  obtain⟨c,hc,_⟩:=wB h2;cases ha:s.one i u with
  | none=>
   rw[ha]at hr;exact congrArg (fun q:Sy×An=>q.1.h.aC) hr
  | some q=>
   obtain⟨t',a⟩:=q;rw[ha]at hr;exact(congrArg (fun q:Sy×An=>q.1.h.aC) hr).trans (hk.BL hc h1 ha).cp
 | drop u i k a n h1 h2 h3=>
  obtain⟨c,x',q1,q2,q3⟩:=h3;have ha:((a.toNat:Nat):Int)=a:=Int.toNat_of_nonneg (by have:=(kG q3.1).1;omega);exact(congrArg (fun q:Sy×An=>q.1.h.aC) hr).trans (hk.MW (a:=a.toNat) q1 q2 (by rw[ha];exact q3) h1).cp
 | shrink u i n h2=>
  obtain⟨c,hc,_⟩:=wB h2;exact(congrArg (fun q:Sy×An=>q.1.h.aC) hr).trans (hk.PW (List.getElem?_eq_some_iff.1 hc).1).cp
 | bulk u i m n h1 h2 h3 h4=>
  obtain⟨c,hc,_⟩:=wB h2;cases ha:s.bulk i u m with
  | none=>
   rw[ha]at hr;exact congrArg (fun q:Sy×An=>q.1.h.aC) hr
  | some q=>
   obtain⟨t',a⟩:=q;rw[ha]at hr;exact(congrArg (fun q:Sy×An=>q.1.h.aC) hr).trans (hk.Nb hc h1 ha).cp
 | fE u m h1 h3 h4=>
  cases ha:s.fE u m with
  | none=>
   rw[ha]at hr;exact congrArg (fun q:Sy×An=>q.1.h.aC) hr
  | some q=>
   obtain⟨t',a⟩:=q;rw[ha]at hr;obtain⟨_,_,st,_⟩:=hk.xO hg.sg h1 h3 h4 ha;exact(congrArg (fun q:Sy×An=>q.1.h.aC) hr).trans st.cp
 | nO u a t' h1 h2 h3=>
  cases hz:s.dV a with
  | none=>rw[PY hz]at h2;cases h2
  | some m=>
   obtain⟨u',q1,st⟩:=hk.Gy h1 hz;rw[h2]at q1;obtain rfl:=gP q1;exact(congrArg (fun q:Sy×An=>q.1.h.aC) hr).trans st.cp
 | resize u m a h1 h2 h3 h4=>
  cases hz:s.dV a with
  | none=>
   have e:s.fF u a m= .inl 4:=by unfold Sy.fF;rw[hz]
   rw[e]at hr;exact congrArg (fun q:Sy×An=>q.1.h.aC) hr
  | some z=>
   by_cases hn:m<=z
   ·have e:s.fF u a m= .inr (s,a):=by unfold Sy.fF;rw[hz];simp only[if_pos hn]
    rw[e]at hr;exact congrArg (fun q:Sy×An=>q.1.h.aC) hr
   ·cases ha:s.fE u m with
    | none=>
     have e:s.fF u a m= .inl 6:=by unfold Sy.fF;rw[hz];simp only[if_neg hn,ha]
     rw[e]at hr;exact congrArg (fun q:Sy×An=>q.1.h.aC) hr
    | some q=>
     obtain⟨t',b⟩:=q;obtain⟨_,u',_,_,ku,_,st,_⟩:=hk.moved hg.sg h1 h2 h3 hz (by omega) ha;have e:s.fF u a m= .inr (u',b):=by unfold Sy.fF;rw[hz];simp only[if_neg hn,ha,ku]
     rw[e]at hr;exact(congrArg (fun q:Sy×An=>q.1.h.aC) hr).trans st.cp
 | drain u n=>exact(congrArg (fun q:Sy×An=>q.1.h.aC) hr).trans hk.Ai.cp
 | write u a m h2 h3=>exact congrArg (fun q:Sy×An=>q.1.h.aC) hr
 | read u a h2=>exact congrArg (fun q:Sy×An=>q.1.h.aC) hr
theorem Pst.start {h:Hp}(hk:dZ h):Pst h 0 (dB h 6) [] [] []:=⟨.nil,yX hk,rfl,fun _=>⟨rfl,rfl⟩,fun e=>by omega,fun e=>by omega⟩
def aEy (cp j:Nat)(c:Ac)(f:Int):Prop:=(j=0->c=⟨3,0,5,1,0,0,Xp⟩/\f=0)/\(j=1->c=⟨3,0,2,2,0,0,BD⟩/\f=0)/\(2<=j->rM cp c f)
theorem Pst.skip {h:Hp}{j:Nat}{s:Sy}{L:List Th}{acts:List Ac}{tells:List An}(p:Pst h j s L acts tells){c:Ac}{f:Int}(ha:aEy h.aC j c f)(hf:0<f):Pst h (j+1) s L acts tells:=by
 have h0:j≠0:=fun e=>by have:=(ha.1 e).2;omega
 have h1:j≠1:=fun e=>by have:=(ha.2.1 e).2;omega
 exact⟨p.r,p.g,p.cp,fun e=>by omega,fun e=>by omega,fun _=>p.i2 (by omega)⟩
end
section
open Go.RowKit
def GH (c:Ac):List Value:=[.int .i64 c.k,.int .i64 c.u,.int .i64 c.n,.int .i64 c.m,.int .i64 c.p,.int .i64 c.f,.string ⟨c.s.toArray⟩]
theorem Jg (c:Ac):(GH c).length=7:=rfl
structure Aq where
 x:An
 d:Option Addr
 c:Nat
def Aq.sl (q:Aq):Value:= .slice q.d q.x.l.length q.c
def Xq (q:Aq):List Value:=[.int .i64 (q.x.c:Int),.int .i64 q.x.n,.slice q.d q.x.l.length q.c]
def l7 (W:World)(N:Nat->Prop)(qs:List Aq):Prop:=∀q∈qs,W.ownsRow 0 3 1 q.sl q.x.l.length (q.x.l.map vI)/\∀g,q.sl.ownBlock=some g->¬N g
theorem l7.nil (W:World)(N:Nat->Prop):l7 W N []:=fun q hq=>by cases hq
section
variable {W W':World}{N M:Nat->Prop}{qs:List Aq}
theorem l7.sub (h:l7 W N qs)(hs:∀k,M k->N k):l7 W M qs:=fun q hq=>⟨(h q hq).1,fun g hg hm=>(h q hq).2 g hg (hs g hm)⟩
theorem l7.lt (h:l7 W N qs){q:Aq}(hq:q∈qs){g:Nat}(hg:q.sl.ownBlock=some g):g<W.heap.size:=((h q hq).1.lt g hg).2
theorem l7.below (h:l7 W N qs)(hb:Below W.heap.size W W'):l7 W' N qs:=fun q hq=>⟨own_below (h q hq).1 hb (Nat.le_refl _),(h q hq).2⟩
theorem l7.more (h:l7 W N qs)(hm:∀k,M k->N k∨W.heap.size<=k):l7 W M qs:=fun q hq=>⟨(h q hq).1,fun g hg hk=>by
 rcases hm g hk with h1 | h1
 ·exact(h q hq).2 g hg h1
 ·have:=h.lt hq hg;omega⟩
theorem l7.set (h:l7 W N qs){b:Nat}(hb:N b)(i:Nat)(u:Value):l7 (W.setCell ⟨b,i,none⟩ u) N qs:=fun q hq=>⟨bI (h q hq).1 (fun e=>(h q hq).2 b e hb) u,(h q hq).2⟩
theorem l7.put7 (h:l7 W N qs){T:Nat}(hT:N T)(v:Sc)(s:Sy):l7 (((((((W.setCell ⟨T,0,none⟩ (.slice v.a1 v.n1 v.c1)).setCell ⟨T,1,none⟩ (.slice v.hc.az 2 v.hc.cz)).setCell ⟨T,2,none⟩ (.slice v.hc.am 2 v.hc.cm)).setCell ⟨T,3,none⟩ (.int .i64 (s.h.aC:Int))).setCell ⟨T,4,none⟩ (.slice v.hc.al v.hc.lc.length v.hc.cl)).setCell ⟨T,5,none⟩ (.slice v.hc.av s.h.live.length v.hc.cv)).setCell ⟨T,6,none⟩ (.slice v.a2 v.ys.length v.c2)) N qs:=((((((h.set hT 0 _).set hT 1 _).set hT 2 _).set hT 3 _).set hT 4 _).set hT 5 _).set hT 6 _
theorem l7.grown (h:l7 W N qs){d:Option Nat}(hg:W.grownBy W' d)(hd:∀g,d=some g->N g):l7 W' N qs:=fun q hq=>⟨yL (h q hq).1 fun k hk hlt=>hg.block k hlt fun e=>(h q hq).2 k hk (hd k (e.symm)),(h q hq).2⟩
theorem l7.snoc (h:l7 W N qs){q:Aq}(hq:W.ownsRow 0 3 1 q.sl q.x.l.length (q.x.l.map vI))(hn:∀g,q.sl.ownBlock=some g->¬N g):l7 W N (qs++[q]):=fun p hp=>by
 rcases List.mem_append.1 hp with hp | hp
 ·exact h p hp
 ·obtain rfl:=List.mem_singleton.1 hp;exact⟨hq,hn⟩
end
end
section
open Go.RowKit
theorem SR.sub {W:World}{G:Nat}{X Y:Nat->Prop}{s:Sy}{v:Sc}(hs:SR W G X s v)(hy:∀k,Y k->X k):SR W G Y s v:=
 ⟨hs.own,fun r hr g hg=>⟨(hs.og r hr g hg).1,fun e=>(hs.og r hr g hg).2 (hy g e)⟩,hs.hr.sub hy,hs.hd,hs.cy⟩
theorem SR.new {W W':World}{G:Nat}{X:Nat->Prop}{s:Sy}{v:Sc}(hs:SR W G X s v)(hb:Below W.heap.size W W'):SR W' G (fun k=>X k∨(W.heap.size<=k/\k<W'.heap.size)) s v:=
 (hs.below hb).more fun k hk=>by
  rcases hk with hk | ⟨h1,h2⟩
  ·refine⟨gI (hs.hr.xs k hk) hb.size,hs.Vs hk,fun q hq e=> ?_⟩;rcases List.mem_append.1 hq with hq | hq
   ·exact(hs.hr.og q hq k e).2 hk
   ·exact hs.hr.rx q hq k e hk
  ·refine⟨h2,?_,fun q hq e=> ?_⟩
   ·rintro(rfl | ⟨r,hr,e⟩)
    ·have:=hs.hr.gs;omega
    ·have:=hs.lt r hr k e;omega
   ·have:=hs.hr.lt q hq k e;omega
def Cl (w:World)(s:Sy)(v:Sc)(m:Nat)(w':World)(s':Sy)(v':Sc):Prop:=∀G X,SR w G X s v->SR w' G (fun k=>X k∨(w.heap.size<=k/\k<w.heap.size+m)) s' v'
theorem Cl.below {w w' w2:World}{s s':Sy}{v v':Sc}{m:Nat}(h:Cl w s v m w' s' v')(hb:Below w'.heap.size w' w2):Cl w s v m w2 s' v':=fun G X hr=>(h G X hr).below hb
theorem Cl.same {w w':World}{s:Sy}{v:Sc}{m:Nat}(hb:Below w.heap.size w w')(hm:w.heap.size+m<=w'.heap.size):Cl w s v m w' s v:=fun G X hr=>(hr.new hb).sub fun k hk=>by
 rcases hk with hk | hk
 ·exact .inl hk
 ·exact .inr ⟨hk.1,by omega⟩
theorem Cl.new {w w':World}{s s':Sy}{v v':Sc}{m B:Nat}(hn:fQ w' B s' v')(hB:w.heap.size+m<=B):Cl w s v m w' s' v':=fun G X hr=>
 SR.lift hn (by have:=hr.hr.gs;omega) (fun k hk=>by
  rcases hk with hk | hk
  ·have:=hr.hr.xs k hk;omega
  ·omega) (fun e=>by
  rcases e with e | e
  ·exact hr.hr.xg e
  ·have:=hr.hr.gs;omega)
structure Am (v:Sc)(s:Sy)(r:Sy×An)(w:World)(wc:World):Prop where
 b:Below w.heap.size w wc
 gs:w.heap.size+6<=wc.heap.size
 k0:∀o,wc.cell? ⟨w.heap.size,o,none⟩=(v.vals s)[o]?
 k2:∀o,wc.cell? ⟨w.heap.size+2,o,none⟩=(#[.slice none 0 0,.slice none 0 0,.slice none 0 0,.int .i64 0,.slice none 0 0,.slice none 0 0,.slice none 0 0]:Array Value)[o]?
 f2:∀o,wc.frozen? ⟨w.heap.size+2,o,none⟩=false
 k3:∀o,wc.cell? ⟨w.heap.size+3,o,none⟩=(#[.int .i64 0,.int .i64 0,.slice none 0 0]:Array Value)[o]?
 f3:∀o,wc.frozen? ⟨w.heap.size+3,o,none⟩=false
 x:∃(d:Option Addr) (cap:Nat),(∀o,wc.cell? ⟨w.heap.size+5,o,none⟩=(#[.int .i64 (r.2.c:Int),.int .i64 r.2.n,.slice d r.2.l.length cap]:Array Value)[o]?)/\wc.ownsRow (w.heap.size+6) 3 1 (.slice d r.2.l.length cap) r.2.l.length (r.2.l.map vI)
 no:r.2.c≠0->r.1=s
 ok:r.2.c=0->∃v':Sc,(∀o,wc.cell? ⟨w.heap.size+4,o,none⟩=(v'.vals r.1)[o]?)/\Cl w s v 6 wc r.1 v'
theorem Am.below {v:Sc}{s:Sy}{r:Sy×An}{w wc wd:World}(h:Am v s r w wc)(hb:Below wc.heap.size wc wd):Am v s r w wd:=by
 have hg:=h.gs;refine⟨Below.step h.b hb,gQ hg hb.size,aB h.k0 (by omega) hb,aB h.k2 (by omega) hb,aH h.f2 (by omega) hb,aB h.k3 (by omega) hb,aH h.f3 (by omega) hb,?_,h.no,fun e=> ?_⟩
 ·obtain⟨d,cap,h1,h2⟩:=h.x;exact⟨d,cap,aB h1 (by omega) hb,own_below h2 hb (Nat.le_refl _)⟩
 ·obtain⟨v',h1,h2⟩:=h.ok e;exact⟨v',aB h1 (by omega) hb,h2.below hb⟩
structure iH (v:Sc)(s:Sy)(w W:World)(A4 A5:Array Value):Prop where
 b:Below w.heap.size w W
 gs:w.heap.size+6<=W.heap.size
 k0:∀o,W.cell? ⟨w.heap.size,o,none⟩=(v.vals s)[o]?
 k2:∀o,W.cell? ⟨w.heap.size+2,o,none⟩=(#[.slice none 0 0,.slice none 0 0,.slice none 0 0,.int .i64 0,.slice none 0 0,.slice none 0 0,.slice none 0 0]:Array Value)[o]?
 f2:∀o,W.frozen? ⟨w.heap.size+2,o,none⟩=false
 k3:∀o,W.cell? ⟨w.heap.size+3,o,none⟩=(#[.int .i64 0,.int .i64 0,.slice none 0 0]:Array Value)[o]?
 f3:∀o,W.frozen? ⟨w.heap.size+3,o,none⟩=false
 k4:∀o,W.cell? ⟨w.heap.size+4,o,none⟩=A4[o]?
 f4:∀o,W.frozen? ⟨w.heap.size+4,o,none⟩=false
 k5:∀o,W.cell? ⟨w.heap.size+5,o,none⟩=A5[o]?
 f5:∀o,W.frozen? ⟨w.heap.size+5,o,none⟩=false
section
variable {v:Sc}{s:Sy}{w W W':World}{A4 A5:Array Value}
theorem iH.below (h:iH v s w W A4 A5)(hb:Below W.heap.size W W'):iH v s w W' A4 A5:=by
 have hg:=h.gs;exact⟨Below.step h.b hb,gQ hg hb.size,aB h.k0 (by omega) hb,aB h.k2 (by omega) hb,aH h.f2 (by omega) hb,aB h.k3 (by omega) hb,aH h.f3 (by omega) hb,aB h.k4 (by omega) hb,aH h.f4 (by omega) hb,aB h.k5 (by omega) hb,aH h.f5 (by omega) hb⟩
theorem iH.set4 (h:iH v s w W A4 A5)(i:Nat)(u:Value):iH v s w (W.setCell ⟨w.heap.size+4,i,none⟩ u) (A4.setIfInBounds i u) A5:=
 ⟨Below.setCell h.b (show w.heap.size<=w.heap.size+4 by omega) u,(by have h9:(W.setCell ⟨w.heap.size+4,i,none⟩ u).heap.size=W.heap.size:=(by simp);have:=h.gs;omega),aA h.k0 (by omega) i u,aA h.k2 (by omega) i u,aG h.f2 _ u,aA h.k3 (by omega) i u,aG h.f3 _ u,aI h.k4 i u,aG h.f4 _ u,aA h.k5 (by omega) i u,aG h.f5 _ u⟩
theorem iH.set5 (h:iH v s w W A4 A5)(i:Nat)(u:Value):iH v s w (W.setCell ⟨w.heap.size+5,i,none⟩ u) A4 (A5.setIfInBounds i u):=
 ⟨Below.setCell h.b (show w.heap.size<=w.heap.size+5 by omega) u,(by have h9:(W.setCell ⟨w.heap.size+5,i,none⟩ u).heap.size=W.heap.size:=(by simp);have:=h.gs;omega),aA h.k0 (by omega) i u,aA h.k2 (by omega) i u,aG h.f2 _ u,aA h.k3 (by omega) i u,aG h.f3 _ u,aA h.k4 (by omega) i u,aG h.f4 _ u,aI h.k5 i u,aG h.f5 _ u⟩
end
structure Xr (v:Sc)(s s':Sy)(v':Sc)(w W:World)(X0 X1 X2:Value)(e:TypeId)(n:Nat)(d:Value)(xs:List Value):Prop where
 k:∀o,W.cell? ⟨w.heap.size+2,o,none⟩=(#[.slice v'.a1 v'.n1 v'.c1,.slice v'.hc.az 2 v'.hc.cz,.slice v'.hc.am 2 v'.hc.cm,.int .i64 (s'.h.aC:Int),.slice v'.hc.al v'.hc.lc.length v'.hc.cl,.slice v'.hc.av s'.h.live.length v'.hc.cv,.slice v'.a2 v'.ys.length v'.c2]:Array Value)[o]?
 y:∀o,W.cell? ⟨w.heap.size+3,o,none⟩=(#[X0,X1,X2]:Array Value)[o]?
 c:∀G X,SR w G X s v->SR W G X s' v'
 b:Below w.heap.size w W
 o:W.ownsRow w.heap.size e 1 d n xs
theorem Nk {v v':Sc}{s s':Sy}{w wd:World}{X0 X1 X2:Value}(hb:Below w.heap.size w wd)(hg:w.heap.size+6<=wd.heap.size)(hc:Cl w s v 6 wd s' v'){a0 a1 a2 a3 a4 a5 a6 b0 b1 b2:Value}
 (K2:∀o,wd.cell? ⟨w.heap.size+2,o,none⟩=(#[a0,a1,a2,a3,a4,a5,a6]:Array Value)[o]?) (K3:∀o,wd.cell? ⟨w.heap.size+3,o,none⟩=(#[b0,b1,b2]:Array Value)[o]?) {e:TypeId} {n:Nat} {d:Value} {xs:List Value} (ho:wd.ownsRow (w.heap.size+6) e 1 d n xs):
 Xr v s s' v' w ((((((((((wd.setCell ⟨w.heap.size+2,0,none⟩ (.slice v'.a1 v'.n1 v'.c1)).setCell ⟨w.heap.size+2,1,none⟩ (.slice v'.hc.az 2 v'.hc.cz)).setCell ⟨w.heap.size+2,2,none⟩ (.slice v'.hc.am 2 v'.hc.cm)).setCell ⟨w.heap.size+2,3,none⟩ (.int .i64 (s'.h.aC:Int))).setCell ⟨w.heap.size+2,4,none⟩ (.slice v'.hc.al v'.hc.lc.length v'.hc.cl)).setCell ⟨w.heap.size+2,5,none⟩ (.slice v'.hc.av s'.h.live.length v'.hc.cv)).setCell ⟨w.heap.size+2,6,none⟩ (.slice v'.a2 v'.ys.length v'.c2)).setCell ⟨w.heap.size+3,0,none⟩ X0).setCell ⟨w.heap.size+3,1,none⟩ X1).setCell ⟨w.heap.size+3,2,none⟩ X2).drew X0 X1 X2 e n d xs:=by
 have hne:w.heap.size+2≠w.heap.size+3:=by omega
 have h2:∀o,(((((((wd.setCell ⟨w.heap.size+2,0,none⟩ (.slice v'.a1 v'.n1 v'.c1)).setCell ⟨w.heap.size+2,1,none⟩ (.slice v'.hc.az 2 v'.hc.cz)).setCell ⟨w.heap.size+2,2,none⟩ (.slice v'.hc.am 2 v'.hc.cm)).setCell ⟨w.heap.size+2,3,none⟩ (.int .i64 (s'.h.aC:Int))).setCell ⟨w.heap.size+2,4,none⟩ (.slice v'.hc.al v'.hc.lc.length v'.hc.cl)).setCell ⟨w.heap.size+2,5,none⟩ (.slice v'.hc.av s'.h.live.length v'.hc.cv)).setCell ⟨w.heap.size+2,6,none⟩ (.slice v'.a2 v'.ys.length v'.c2)).cell? ⟨w.heap.size+3,o,none⟩=(#[b0,b1,b2]:Array Value)[o]? :=oD K3 hne.symm v' s';have h3:=aI (aI (aI h2 0 X0) 1 X1) 2 X2;simp only[gE,gG,gH]at h3;have q1:=aA (aA (aA (Af K2 v' s') hne 0 X0) hne 1 X1) hne 2 X2;have q3:∀G X,SR w G X s v->SR ((((((((((wd.setCell ⟨w.heap.size+2,0,none⟩ (.slice v'.a1 v'.n1 v'.c1)).setCell ⟨w.heap.size+2,1,none⟩ (.slice v'.hc.az 2 v'.hc.cz)).setCell ⟨w.heap.size+2,2,none⟩ (.slice v'.hc.am 2 v'.hc.cm)).setCell ⟨w.heap.size+2,3,none⟩ (.int .i64 (s'.h.aC:Int))).setCell ⟨w.heap.size+2,4,none⟩ (.slice v'.hc.al v'.hc.lc.length v'.hc.cl)).setCell ⟨w.heap.size+2,5,none⟩ (.slice v'.hc.av s'.h.live.length v'.hc.cv)).setCell ⟨w.heap.size+2,6,none⟩ (.slice v'.a2 v'.ys.length v'.c2)).setCell ⟨w.heap.size+3,0,none⟩ X0).setCell ⟨w.heap.size+3,1,none⟩ X1).setCell ⟨w.heap.size+3,2,none⟩ X2) G X s' v':=fun G X hr=>by
  have h4:=hc G X hr;have hx3:X (w.heap.size+3)∨(w.heap.size<=w.heap.size+3/\w.heap.size+3<w.heap.size+6):= .inr (by omega);exact((((h4.put7 (T:=w.heap.size+2) (.inr (by omega)) v' s').dY hx3 0 X0).dY hx3 1 X1).dY hx3 2 X2).sub fun k hk=> .inl hk
 have q4:Below w.heap.size w ((((((((((wd.setCell ⟨w.heap.size+2,0,none⟩ (.slice v'.a1 v'.n1 v'.c1)).setCell ⟨w.heap.size+2,1,none⟩ (.slice v'.hc.az 2 v'.hc.cz)).setCell ⟨w.heap.size+2,2,none⟩ (.slice v'.hc.am 2 v'.hc.cm)).setCell ⟨w.heap.size+2,3,none⟩ (.int .i64 (s'.h.aC:Int))).setCell ⟨w.heap.size+2,4,none⟩ (.slice v'.hc.al v'.hc.lc.length v'.hc.cl)).setCell ⟨w.heap.size+2,5,none⟩ (.slice v'.hc.av s'.h.live.length v'.hc.cv)).setCell ⟨w.heap.size+2,6,none⟩ (.slice v'.a2 v'.ys.length v'.c2)).setCell ⟨w.heap.size+3,0,none⟩ X0).setCell ⟨w.heap.size+3,1,none⟩ X1).setCell ⟨w.heap.size+3,2,none⟩ X2):=Below.setCell (Below.setCell (Below.setCell (fK hb (by omega) v' s') (show w.heap.size<=(⟨w.heap.size+3,0,none⟩:Addr).block from by show w.heap.size<=w.heap.size+3;omega) X0) (show w.heap.size<=(⟨w.heap.size+3,1,none⟩:Addr).block from by show w.heap.size<=w.heap.size+3;omega) X1) (show w.heap.size<=(⟨w.heap.size+3,2,none⟩:Addr).block from by show w.heap.size<=w.heap.size+3;omega) X2;have n2:d.ownBlock≠some (w.heap.size+2):=fun e=>by have:=(ho.lt _ e).1;omega
 have n3:d.ownBlock≠some (w.heap.size+3):=fun e=>by have:=(ho.lt _ e).1;omega
 have q5:(((((((((((wd.setCell ⟨w.heap.size+2,0,none⟩ (.slice v'.a1 v'.n1 v'.c1)).setCell ⟨w.heap.size+2,1,none⟩ (.slice v'.hc.az 2 v'.hc.cz)).setCell ⟨w.heap.size+2,2,none⟩ (.slice v'.hc.am 2 v'.hc.cm)).setCell ⟨w.heap.size+2,3,none⟩ (.int .i64 (s'.h.aC:Int))).setCell ⟨w.heap.size+2,4,none⟩ (.slice v'.hc.al v'.hc.lc.length v'.hc.cl)).setCell ⟨w.heap.size+2,5,none⟩ (.slice v'.hc.av s'.h.live.length v'.hc.cv)).setCell ⟨w.heap.size+2,6,none⟩ (.slice v'.a2 v'.ys.length v'.c2)).setCell ⟨w.heap.size+3,0,none⟩ X0).setCell ⟨w.heap.size+3,1,none⟩ X1).setCell ⟨w.heap.size+3,2,none⟩ X2)).ownsRow w.heap.size e 1 d n xs:=own_base (bI (bI (bI (yV ho n2 v' s') n3 X0) n3 X1) n3 X2) (show w.heap.size<=w.heap.size+6 by omega);have q6:w.heap.size+6<=(((((((((((wd.setCell ⟨w.heap.size+2,0,none⟩ (.slice v'.a1 v'.n1 v'.c1)).setCell ⟨w.heap.size+2,1,none⟩ (.slice v'.hc.az 2 v'.hc.cz)).setCell ⟨w.heap.size+2,2,none⟩ (.slice v'.hc.am 2 v'.hc.cm)).setCell ⟨w.heap.size+2,3,none⟩ (.int .i64 (s'.h.aC:Int))).setCell ⟨w.heap.size+2,4,none⟩ (.slice v'.hc.al v'.hc.lc.length v'.hc.cl)).setCell ⟨w.heap.size+2,5,none⟩ (.slice v'.hc.av s'.h.live.length v'.hc.cv)).setCell ⟨w.heap.size+2,6,none⟩ (.slice v'.a2 v'.ys.length v'.c2)).setCell ⟨w.heap.size+3,0,none⟩ X0).setCell ⟨w.heap.size+3,1,none⟩ X1).setCell ⟨w.heap.size+3,2,none⟩ X2)).heap.size:=by
  have h9:(((((((((((wd.setCell ⟨w.heap.size+2,0,none⟩ (.slice v'.a1 v'.n1 v'.c1)).setCell ⟨w.heap.size+2,1,none⟩ (.slice v'.hc.az 2 v'.hc.cz)).setCell ⟨w.heap.size+2,2,none⟩ (.slice v'.hc.am 2 v'.hc.cm)).setCell ⟨w.heap.size+2,3,none⟩ (.int .i64 (s'.h.aC:Int))).setCell ⟨w.heap.size+2,4,none⟩ (.slice v'.hc.al v'.hc.lc.length v'.hc.cl)).setCell ⟨w.heap.size+2,5,none⟩ (.slice v'.hc.av s'.h.live.length v'.hc.cv)).setCell ⟨w.heap.size+2,6,none⟩ (.slice v'.a2 v'.ys.length v'.c2)).setCell ⟨w.heap.size+3,0,none⟩ X0).setCell ⟨w.heap.size+3,1,none⟩ X1).setCell ⟨w.heap.size+3,2,none⟩ X2)).heap.size=wd.heap.size:=by simp
  omega
 generalize ((((((((((wd.setCell _ _).setCell _ _).setCell _ _).setCell _ _).setCell _ _).setCell _ _).setCell _ _).setCell _ _).setCell _ _).setCell _ _)=wq at*;have hd:=(Below.refl wq.heap.size wq).drew;exact⟨aB q1 (by omega) hd,aB h3 (by omega) hd,fun G X hr=>(q3 G X hr).below hd,Below.step q4 hd,own_below q5 hd (Nat.le_refl _)⟩
section
variable {v:Sc}{s:Sy}{w W W':World}{A4 A5:Array Value}
theorem iH.put4 {a0 a1 a2 a3 a4 a5 a6:Value}(h:iH v s w W #[a0,a1,a2,a3,a4,a5,a6] A5)(v':Sc)(s':Sy):iH v s w (((((((W.setCell ⟨w.heap.size+4,0,none⟩ (.slice v'.a1 v'.n1 v'.c1)).setCell ⟨w.heap.size+4,1,none⟩ (.slice v'.hc.az 2 v'.hc.cz)).setCell ⟨w.heap.size+4,2,none⟩ (.slice v'.hc.am 2 v'.hc.cm)).setCell ⟨w.heap.size+4,3,none⟩ (.int .i64 (s'.h.aC:Int))).setCell ⟨w.heap.size+4,4,none⟩ (.slice v'.hc.al v'.hc.lc.length v'.hc.cl)).setCell ⟨w.heap.size+4,5,none⟩ (.slice v'.hc.av s'.h.live.length v'.hc.cv)).setCell ⟨w.heap.size+4,6,none⟩ (.slice v'.a2 v'.ys.length v'.c2)) #[.slice v'.a1 v'.n1 v'.c1,.slice v'.hc.az 2 v'.hc.cz,.slice v'.hc.am 2 v'.hc.cm,.int .i64 (s'.h.aC:Int),.slice v'.hc.al v'.hc.lc.length v'.hc.cl,.slice v'.hc.av s'.h.live.length v'.hc.cv,.slice v'.a2 v'.ys.length v'.c2] A5:=by
 have h7:=((((((h.set4 0 (.slice v'.a1 v'.n1 v'.c1)).set4 1 (.slice v'.hc.az 2 v'.hc.cz)).set4 2 (.slice v'.hc.am 2 v'.hc.cm)).set4 3 (.int .i64 (s'.h.aC:Int))).set4 4 (.slice v'.hc.al v'.hc.lc.length v'.hc.cl)).set4 5 (.slice v'.hc.av s'.h.live.length v'.hc.cv)).set4 6 (.slice v'.a2 v'.ys.length v'.c2);simpa only[gE,gG,gH]using h7
theorem iH.puth4 {a0 a1 a2 a3 a4 a5 a6:Value}(h:iH v s w W #[a0,a1,a2,a3,a4,a5,a6] A5)(b1 b2 b3 b4 b5:Value):iH v s w (((((W.setCell ⟨w.heap.size+4,1,none⟩ b1).setCell ⟨w.heap.size+4,2,none⟩ b2).setCell ⟨w.heap.size+4,3,none⟩ b3).setCell ⟨w.heap.size+4,4,none⟩ b4).setCell ⟨w.heap.size+4,5,none⟩ b5) #[a0,b1,b2,b3,b4,b5,a6] A5:=by
 have h7:=((((h.set4 1 b1).set4 2 b2).set4 3 b3).set4 4 b4).set4 5 b5;simpa only[gE,gG,gH]using h7
theorem iH.code5 {x0 x1 x2:Value}(h:iH v s w W A4 #[x0,x1,x2])(c:Value):iH v s w (W.setCell ⟨w.heap.size+5,0,none⟩ c) A4 #[c,x1,x2]:=by
 have h7:=h.set5 0 c;simpa only[gE,gG,gH]using h7
theorem iH.far (h:iH v s w W A4 A5){g:Nat}(hg:w.heap.size+6<=g)(i:Nat)(u:Value):iH v s w (W.setCell ⟨g,i,none⟩ u) A4 A5:=
 ⟨Below.setCell h.b (show w.heap.size<=g by omega) u,(by have h9:(W.setCell ⟨g,i,none⟩ u).heap.size=W.heap.size:=(by simp);have:=h.gs;omega),aA h.k0 (by omega) i u,aA h.k2 (by omega) i u,aG h.f2 _ u,aA h.k3 (by omega) i u,aG h.f3 _ u,aA h.k4 (by omega) i u,aG h.f4 _ u,aA h.k5 (by omega) i u,aG h.f5 _ u⟩
variable {s':Sy}{v':Sc}
theorem SR.setW {G:Nat}{X:Nat->Prop}(hs:SR W G X s v){g:Nat}(hg:v.a1=some ⟨g,0,none⟩)(a:Nat)(u:Int):SR (W.setCell ⟨g,a,none⟩ (vI u)) G X {s with w:=s.w.set a u} v:=by
 have hb:(tY v s).v.ownBlock=some g:=by unfold tY;rw[hg];rfl
 have k:=hs.own.cell (i:=0) (by simp[Sc.rows]) (g:=g) (c:=v.c1) (by show(tY v s).v=_;unfold tY;rw[hg];rfl) a (vI u) rfl;have e1:({tY v s with xs:=(tY v s).xs.set a (vI u)}:Rs)=tY v {s with w:=s.w.set a u}:=by
  unfold tY;simp only[List.map_set]
 have k2:dJ (W.setCell ⟨g,a,none⟩ (vI u)) 0 (v.rows {s with w:=s.w.set a u}):=by
  have e2:v.rows {s with w:=s.w.set a u}=tY v {s with w:=s.w.set a u}::l9 v::v.ys.flatMap fP:=rfl;rw[e2,<- e1];exact k
 exact hs.step (s':={s with w:=s.w.set a u}) (v':=v) (hs.BI (nX v s) hb a (vI u)) rfl rfl k2 (fun r hr' g' hg'=> .inl (by
  rcases List.mem_cons.1 hr' with rfl | hr'
  ·exact⟨tY v s,nX v s,hg'⟩
  ·exact⟨r,List.mem_cons_of_mem _ hr',hg'⟩)) hs.cy
theorem Cl.set (h:Cl w s v 6 W s' v')(k i:Nat)(u:Value)(hk:k<6):Cl w s v 6 (W.setCell ⟨w.heap.size+k,i,none⟩ u) s' v':=fun G X hr=>(h G X hr).dY (.inr ⟨by omega,by omega⟩) i u
theorem Cl.put4 (h:Cl w s v 6 W s' v')(v2:Sc)(s2:Sy):Cl w s v 6 (((((((W.setCell ⟨w.heap.size+4,0,none⟩ (.slice v2.a1 v2.n1 v2.c1)).setCell ⟨w.heap.size+4,1,none⟩ (.slice v2.hc.az 2 v2.hc.cz)).setCell ⟨w.heap.size+4,2,none⟩ (.slice v2.hc.am 2 v2.hc.cm)).setCell ⟨w.heap.size+4,3,none⟩ (.int .i64 (s2.h.aC:Int))).setCell ⟨w.heap.size+4,4,none⟩ (.slice v2.hc.al v2.hc.lc.length v2.hc.cl)).setCell ⟨w.heap.size+4,5,none⟩ (.slice v2.hc.av s2.h.live.length v2.hc.cv)).setCell ⟨w.heap.size+4,6,none⟩ (.slice v2.a2 v2.ys.length v2.c2)) s' v':=fun G X hr=>(h G X hr).put7 (.inr ⟨by omega,by omega⟩) v2 s2
theorem Cl.puth4 (h:Cl w s v 6 W s' v')(b1 b2 b3 b4 b5:Value):Cl w s v 6 (((((W.setCell ⟨w.heap.size+4,1,none⟩ b1).setCell ⟨w.heap.size+4,2,none⟩ b2).setCell ⟨w.heap.size+4,3,none⟩ b3).setCell ⟨w.heap.size+4,4,none⟩ b4).setCell ⟨w.heap.size+4,5,none⟩ b5) s' v':=((((h.set 4 1 b1 (by decide)).set 4 2 b2 (by decide)).set 4 3 b3 (by decide)).set 4 4 b4 (by decide)).set 4 5 b5 (by decide)
theorem Cl.heap {w1:World}(hb:Below w.heap.size w w1)(hz:w.heap.size+6<=w1.heap.size)(hb2:Below w1.heap.size w1 W){h':Hp}{c':Hc}(hn:kU W w1.heap.size h' c'):Cl w s v 6 W {s with h:=h'} {v with hc:=c'}:=fun G X hr=>
 SR.heap ((hr.new hb).sub fun k hk=>by
  rcases hk with hk | hk
  ·exact .inl hk
  ·exact .inr ⟨hk.1,by omega⟩) hb2 hn
theorem iH.done {r:Sy×An}{n:Int}(h:iH v s w W #[.slice v'.a1 v'.n1 v'.c1,.slice v'.hc.az 2 v'.hc.cz,.slice v'.hc.am 2 v'.hc.cm,.int .i64 (s'.h.aC:Int),.slice v'.hc.al v'.hc.lc.length v'.hc.cl,.slice v'.hc.av s'.h.live.length v'.hc.cv,.slice v'.a2 v'.ys.length v'.c2] #[.int .i64 0,.int .i64 n,.slice none 0 0])(hc:Cl w s v 6 W s' v')(hr:r=(s',⟨0,n,[]⟩)):Am v s r w W:=by
 subst hr;exact⟨h.b,h.gs,h.k0,h.k2,h.f2,h.k3,h.f3,⟨none,0,h.k5,World.ownsRow_nil _ _ _ _⟩,fun e=>absurd rfl e,fun _=>⟨v',h.k4,hc⟩⟩
theorem iH.aEz {r:Sy×An}{n:Int}{h':Hp}{c':Hc}(h:iH v s w W #[.slice v.a1 v.n1 v.c1,.slice c'.az 2 c'.cz,.slice c'.am 2 c'.cm,.int .i64 (h'.aC:Int),.slice c'.al c'.lc.length c'.cl,.slice c'.av h'.live.length c'.cv,.slice v.a2 v.ys.length v.c2] #[.int .i64 0,.int .i64 n,.slice none 0 0])(hc:Cl w s v 6 W {s with h:=h'} {v with hc:=c'})(hr:r=({s with h:=h'},⟨0,n,[]⟩)):Am v s r w W:=iH.done (s':={s with h:=h'}) (v':={v with hc:=c'}) h hc hr
end
section
variable {p:Program}{f:FuncId}{args:Array Value}{w:World}
def aEA (s':Sy)(n:Int)(w:World)(ev:Ending)(w':World):Prop:=∃v',ev= .returned (.tuple #[.agg #[.slice v'.a1 v'.n1 v'.c1,.slice v'.hc.az 2 v'.hc.cz,.slice v'.hc.am 2 v'.hc.cm,.int .i64 (s'.h.aC:Int),.slice v'.hc.al v'.hc.lc.length v'.hc.cl,.slice v'.hc.av s'.h.live.length v'.hc.cv,.slice v'.a2 v'.ys.length v'.c2],.int .i64 n,.int .i64 0])/\fQ w' w.heap.size s' v'/\Below w.heap.size w w'
def aHF (e:Nat)(w:World)(ev:Ending)(w':World):Prop:=ev= .returned (.tuple #[.agg #[.slice none 0 0,.slice none 0 0,.slice none 0 0,.int .i64 0,.slice none 0 0,.slice none 0 0,.slice none 0 0],.int .i64 0,.int .i64 (e:Int)])/\Below w.heap.size w w'
theorem Nl {t:Sy}{a:Int}(h:Calls p f args w (Ae (some (t,a)) w)):Calls p f args w (aEA t a w):=h.mono fun ev w' h=>by
 rcases h with ⟨h1,_⟩ | ⟨s',a',v',h1,h2,h3⟩
 ·cases h1
 ·have e:=gP h1;rw[Prod.mk.injEq]at e;obtain⟨rfl,rfl⟩:=e;exact⟨v',h2,h3⟩
theorem Np {e:Nat}(h:Calls p f args w (Jf (.inl e) w)):Calls p f args w (aHF e w):=h.mono fun ev w' h=>by
 rcases h with ⟨e',h1,h2,h3⟩ | ⟨_,_,_,h1,_⟩
 ·obtain rfl:=Sum.inl.inj h1;exact⟨h2,h3⟩
 ·cases h1
theorem PZ {t:Sy}{a:Int}(h:Calls p f args w (Jf (.inr (t,a)) w)):Calls p f args w (aEA t a w):=h.mono fun ev w' h=>by
 rcases h with ⟨_,h1,_⟩ | ⟨s',a',v',h1,h2,h3⟩
 ·cases h1
 ·have e:=Sum.inr.inj h1;rw[Prod.mk.injEq]at e;obtain⟨rfl,rfl⟩:=e;exact⟨v',h2,h3⟩
end
theorem iH.cells {v:Sc}{s:Sy}{w W:World}{a0 a1 a2 a3 a4 a5 a6 x0 x1 x2:Value}(h:iH v s w W #[a0,a1,a2,a3,a4,a5,a6] #[x0,x1,x2]):
 W.cell? ⟨w.heap.size+4,0,none⟩=some a0/\W.cell? ⟨w.heap.size+4,1,none⟩=some a1/\W.cell? ⟨w.heap.size+4,2,none⟩=some a2/\W.cell? ⟨w.heap.size+4,3,none⟩=some a3/\W.cell? ⟨w.heap.size+4,4,none⟩=some a4/\W.cell? ⟨w.heap.size+4,5,none⟩=some a5/\W.cell? ⟨w.heap.size+4,6,none⟩=some a6/\
 W.frozen? ⟨w.heap.size+4,0,none⟩=false/\W.frozen? ⟨w.heap.size+4,1,none⟩=false/\W.frozen? ⟨w.heap.size+4,2,none⟩=false/\W.frozen? ⟨w.heap.size+4,3,none⟩=false/\W.frozen? ⟨w.heap.size+4,4,none⟩=false/\W.frozen? ⟨w.heap.size+4,5,none⟩=false/\W.frozen? ⟨w.heap.size+4,6,none⟩=false/\
 W.cell? ⟨w.heap.size+5,0,none⟩=some x0/\W.cell? ⟨w.heap.size+5,1,none⟩=some x1/\W.cell? ⟨w.heap.size+5,2,none⟩=some x2/\W.frozen? ⟨w.heap.size+5,0,none⟩=false/\W.frozen? ⟨w.heap.size+5,1,none⟩=false/\W.frozen? ⟨w.heap.size+5,2,none⟩=false:=
 ⟨h.k4 0,h.k4 1,h.k4 2,h.k4 3,h.k4 4,h.k4 5,h.k4 6,h.f4 0,h.f4 1,h.f4 2,h.f4 3,h.f4 4,h.f4 5,h.f4 6,h.k5 0,h.k5 1,h.k5 2,h.f5 0,h.f5 1,h.f5 2⟩
end
section
open Go.RowKit
theorem Nq {w:World}{b o:Nat}{c:Ac}(hc:∀i v,(GH c)[i]? =some v->w.cell? ⟨b,o+i,none⟩=some v):w.cell? ⟨b,o,none⟩=some (.int .i64 c.k)/\w.cell? ⟨b,o+1,none⟩=some (.int .i64 c.u)/\w.cell? ⟨b,o+2,none⟩=some (.int .i64 c.n)/\w.cell? ⟨b,o+3,none⟩=some (.int .i64 c.m)/\w.cell? ⟨b,o+4,none⟩=some (.int .i64 c.p)/\w.cell? ⟨b,o+5,none⟩=some (.int .i64 c.f)/\w.cell? ⟨b,o+6,none⟩=some (.string ⟨c.s.toArray⟩):=⟨hc 0 _ rfl,hc 1 _ rfl,hc 2 _ rfl,hc 3 _ rfl,hc 4 _ rfl,hc 5 _ rfl,hc 6 _ rfl⟩
def aHG (tells:List An)(sE:Sy)(w:World)(ev:Ending)(w':World):Prop:=
 ∃(v':Sc) (qs:List Aq) (d:Option Addr) (cap:Nat),ev= .returned (.tuple #[.slice d tells.length cap,.agg #[.slice v'.a1 v'.n1 v'.c1,.slice v'.hc.az 2 v'.hc.cz,.slice v'.hc.am 2 v'.hc.cm,.int .i64 (sE.h.aC:Int),.slice v'.hc.al v'.hc.lc.length v'.hc.cl,.slice v'.hc.av sE.h.live.length v'.hc.cv,.slice v'.a2 v'.ys.length v'.c2],.int .i64 0])/\qs.map (·.x)=tells/\w'.ownsRow w.heap.size 57 3 (.slice d tells.length cap) tells.length (flat Xq qs)/\l7 w' (fun k=>(Value.slice d tells.length cap).ownBlock=some k) qs/\fQ w' w.heap.size sE v'/\Below w.heap.size w w'
def aAr (P:Sy->Ac->Sy×An->Prop):Prop:=∀(v:Sc) (s:Sy) (c:Ac) (r:Sy×An) (W:World),nV W v s->Jt s->vT W->Bl W->P s c r->Calls Tryz.prog 53 #[.agg #[.slice v.a1 v.n1 v.c1,.slice v.hc.az 2 v.hc.cz,.slice v.hc.am 2 v.hc.cm,.int .i64 (s.h.aC:Int),.slice v.hc.al v.hc.lc.length v.hc.cl,.slice v.hc.av s.h.live.length v.hc.cv,.slice v.a2 v.ys.length v.c2],.agg #[.int .i64 c.k,.int .i64 c.u,.int .i64 c.n,.int .i64 c.m,.int .i64 c.p,.int .i64 c.f,.string ⟨c.s.toArray⟩]] W (aBV v s r W)
theorem Zl:(Tryz.prog.info? 57).map (fun i=>(i.zero,i.size,i.bytes))=some (some (.agg #[.int .i64 0,.int .i64 0,.slice none 0 0]),3,40):=by kernel_rfl
set_option maxHeartbeats 8000000 in
set_option maxRecDepth 100000 in
theorem aBW (P:Sy->Ac->Sy×An->Prop)(h:Hp)(hk:dZ h)(u0 u1 u2 u3 u4:Value)(a:Option Addr)(n cap:Nat)(acts:List Ac)(tells:List An)(sE:Sy)(w:World)(ho:vT w)(hsz:Bl w)
 (hnew:∀W,Below w.heap.size w W->Calls Tryz.prog 27 #[.agg #[u0,u1,u2,u3,u4]] W (MJ h W)) (hl:acts.length=n) (hn:n<=300) (hr:Row w a (flat GH acts)) (hact:aAr P) (hrun:Run P sE (dB h 6) acts tells) (hge:Jt sE):
 Calls Tryz.prog 21 #[.agg #[u0,u1,u2,u3,u4],.slice a n cap] w (aHG tells sE w):=by
 obtain⟨K1,K2,F1,F2,hsb,hbw⟩:=boxes2 w #[u0,u1,u2,u3,u4] 29 #[.slice none 0 0,.slice none 0 0,.slice none 0 0,.int .i64 0,.slice none 0 0,.slice none 0 0,.slice none 0 0] 47;have tV:=gO (hnew _ hbw);have HN:=gO hnew;have HO:=gO (ho.below hbw);have jT:=gO (hsz.below hbw);have HR:=gO (hr.below hbw);have aHH:=gO hact;have Xt:=gO hrun;have HGE:=gO hge;have hlt:tells.length=n:=by rw[<- hrun.len,hl]
 have HLT:=gO hlt;have HL:=gO hl;have hn3:¬(300:Int)<n:=by omega
 have HB1:=gO hbw;have HK2:=gO K2;have HF2:=gO F2;unfold MJ at tV;obtain⟨k0,k1,k2,k3,k4⟩:=gA5 K1;clear K1 K2 F1 F2 hbw ho hsz hnew hr hact hrun hge hlt hl;have hwN:=yX hk;have Xl:=gO hwN;clear hwN;obtain⟨S0,hS0⟩:∃S0,dB h 6=S0:=⟨_,rfl⟩
 change Hid (Calls Tryz.prog 27 _ _ fun ev w'=>∃v',ev= .returned (.tuple #[.agg (v'.vals (dB h 6)),.int .i64 0])/\fQ w' _ (dB h 6) v'/\Below _ _ w')at tV;rw[hS0]at tV Xt Xl;clear hS0;go_enter Tryz.func21,Tryz.ntmps21
 go_upto_region 1 with fail
 generalize (w.alloc _).alloc _=w1 at*;go_upto_region 2 with (go_at_call 27;refine tV.out.mono ?_;rintro ev w2 ⟨v1,he,hn2,hb2⟩;(replace he:ev= .returned (.tuple #[.agg #[.slice v1.a1 v1.n1 v1.c1,.slice v1.hc.az 2 v1.hc.cz,.slice v1.hc.am 2 v1.hc.cm,.int .i64 (S0.h.aC:Int),.slice v1.hc.al v1.hc.lc.length v1.hc.cl,.slice v1.hc.av S0.h.live.length v1.hc.cv,.slice v1.a2 v1.ys.length v1.c2],.int .i64 0]):=he);subst he)
 clear k0 k1 k2 k3 k4 tV;have HS3:=gO (fQ.box hn2);have hb3:=Below.step hb2 (aF w2 (.cells #[.slice v1.a1 v1.n1 v1.c1,.slice v1.hc.az 2 v1.hc.cz,.slice v1.hc.am 2 v1.hc.cm,.int .i64 (S0.h.aC:Int),.slice v1.hc.al v1.hc.lc.length v1.hc.cl,.slice v1.hc.av S0.h.live.length v1.hc.cv,.slice v1.a2 v1.ys.length v1.c2] 47));have hbx:w2.heap.size<(w2.alloc (.cells #[.slice v1.a1 v1.n1 v1.c1,.slice v1.hc.az 2 v1.hc.cz,.slice v1.hc.am 2 v1.hc.cm,.int .i64 (S0.h.aC:Int),.slice v1.hc.al v1.hc.lc.length v1.hc.cl,.slice v1.hc.av S0.h.live.length v1.hc.cv,.slice v1.a2 v1.ys.length v1.c2] 47)).heap.size:=by simp
 have HB3:=gO hb3;have hsz2:=hb2.size;clear hn2 hb2 hb3;generalize w2.alloc _=w3 at*;generalize w2.heap.size=B at*;go_upto_region 7 with fail
 go_wp2_with fail
 go_loopw [9,28] (fun s9 s28 wr=>∃(j:Nat) (s:Sy) (v:Sc) (qs:List Aq) (d:Option Addr) (cp:Nat),j<=n/\s28= .int .i64 (j:Int)/\s9= .slice d j cp/\Hid (Run P sE s (acts.drop j) (tells.drop j))/\Hid (qs.map (·.x)=tells.take j)/\Hid (SS wr B (fun k=>k<w1.heap.size∨(Value.slice d j cp).ownBlock=some k) s v)/\Hid (wr.ownsRow w3.heap.size 57 3 (.slice d j cp) j (flat Xq qs))/\Hid (l7 wr (fun k=>(k<w1.heap.size∨k=B)∨(Value.slice d j cp).ownBlock=some k) qs)/\w3.heap.size<=wr.heap.size/\Hid (Below w1.heap.size w1 wr)) (fun _ s28 _=>n-(intOf s28).toNat)
 case atStart=>
  exact⟨0,S0,v1,[],none,0,Nat.zero_le _,rfl,rfl,Xt.out,rfl,HS3.out.sub (fun k hk=>hk.resolve_right (by simp[Value.ownBlock])),World.ownsRow_nil _ _ _ _,l7.nil _ _,Nat.le_refl _,HB3.out⟩
 case round=>
  obtain⟨j,s,v,qs,d,cp,hj,rfl,rfl,HRJ,HQJ,HSJ,EM,HLJ,hwj,Yz⟩:=hrel;clear HS3 HB3;by_cases hlt:j<n
  ·have hji:(j:Int)<n:=by omega
   have hja:j<acts.length:=by have:=HL.out;omega
   have hjt:j<tells.length:=by have:=HLT.out;omega
   obtain⟨bb,off,ha1,hbb,hbc⟩:=aN Jg (by decide) (HR.out.below Yz.out) hja;obtain rfl:=ha1;obtain⟨t,hd,hg,hrn⟩:=Run.step hja hjt HRJ.out;have HTK:=gO (show(qs.map (·.x))++[tells[j]]=tells.take (j+1)by rw[HQJ.out];exact List.take_append_getElem hjt);generalize acts[j]=c at*;generalize tells[j]=x at*;obtain⟨c0,c1,c2,c3,c4,c5,c6⟩:=Nq hbc;have HD:=gO hd;have HG:=gO hg;have HRN:=gO hrn;clear hd hg hrn hbc HRJ HQJ;go_upto_region 11 with fail
   obtain⟨KA,KX,FA,FX,hsx,Ua⟩:=boxes2 wr #[.int .i64 c.k,.int .i64 c.u,.int .i64 c.n,.int .i64 c.m,.int .i64 c.p,.int .i64 c.f,.string ⟨c.s.toArray⟩] 33 #[.int .i64 0,.int .i64 0,.slice none 0 0] 57;have HS4:=gO (HSJ.out.new Ua);have HO4:=gO (own_below EM.out Ua (Nat.le_refl _));have HL4:=gO ((HLJ.out.more (M:=fun k=>((k<w1.heap.size∨k=B)∨(Value.slice d j cp).ownBlock=some k)∨wr.heap.size<=k) fun k hk=>hk).below Ua);have hOl:∀g,(Value.slice d j cp).ownBlock=some g->w3.heap.size<=g/\g<wr.heap.size:=fun g e=>EM.out.lt g e
   have HOl:=gO hOl;clear hOl;have HB4:=gO (Below.step Yz.out Ua);have hw4:=Ua.size;have hBw:=HSJ.out.r.hr.gs;clear HSJ EM HLJ Yz c0 c1 c2 c3 c4 c5 c6 hbb Ua;generalize (wr.alloc _).alloc _=w4 at*;have QI:=gO KX;have HFX:=gO FX;obtain⟨q0,q1,q2,q3,q4,q5,q6⟩:=gA7 KA;obtain⟨g0,g1,g2,g3,g4,g5,g6⟩:=gA7 HS4.out.k;have HA:=gO (aHH.out v s c (t,x) w4 HS4.out.r.at HG.out (HO.out.below HB4.out) (jT.out.below HB4.out) HD.out);unfold aBV at HA;clear KX KA FA FX HD;go_upto_region 12 with (go_at_call 53;refine HA.out.mono ?_;rintro ev w5 ⟨v',d',cap',rfl,htr,hb5,ho5⟩;unfold Sc.vals;have KB:=gO (aB HS4.out.k HS4.out.r.hr.gs hb5);have FB:=gO (aH HS4.out.fz HS4.out.r.hr.gs hb5);have KT:=gO (aB QI.out hsx hb5);have FT:=gO (aH HFX.out hsx hb5);have y0:=KB.out 0;have y1:=KB.out 1;have y2:=KB.out 2;have y3:=KB.out 3;have y4:=KB.out 4;have y5:=KB.out 5;have y6:=KB.out 6;have f0:=FB.out 0;have f1:=FB.out 1;have f2:=FB.out 2;have f3:=FB.out 3;have f4:=FB.out 4;have f5:=FB.out 5;have f6:=FB.out 6;have z0:=KT.out 0;have z1:=KT.out 1;have z2:=KT.out 2;have e0:=FT.out 0;have e1:=FT.out 1;have e2:=FT.out 2;unfold Sc.vals at y0 y1 y2 y3 y4 y5 y6;simp only[gB,gC,gD]at y0 y1 y2 y3 y4 y5 y6 z0 z1 z2)
   have hBne:(Value.slice d j cp).ownBlock≠some B:=fun e=>by have:=(HOl.out _ e).1;omega
   have aBX:(Value.slice d j cp).ownBlock≠some (wr.heap.size+1):=fun e=>by have:=(HOl.out _ e).2;omega
   have Hr:=ho5.lt;have KX:=aI (aI (aI (oD (T:=B) KT.out (show wr.heap.size+1≠B by omega) v' t) 0 (.int .i64 (x.c:Int))) 1 (.int .i64 x.n)) 2 (.slice d' x.l.length cap');simp only[gE,gG,gH]at KX;have HS6:=gO ((((SS.put7 (htr B _ HS4.out.r) KB.out FB.out).dY (g:=wr.heap.size+1) (.inr ⟨Nat.le_succ _,hsx⟩) 0 (.int .i64 (x.c:Int))).dY (g:=wr.heap.size+1) (.inr ⟨Nat.le_succ _,hsx⟩) 1 (.int .i64 x.n)).dY (g:=wr.heap.size+1) (.inr ⟨Nat.le_succ _,hsx⟩) 2 (.slice d' x.l.length cap'));have HO6:=gO (bI (bI (bI (yV (own_below HO4.out hb5 (Nat.le_refl _)) hBne v' t) aBX (i:=0) (.int .i64 (x.c:Int))) aBX (i:=1) (.int .i64 x.n)) aBX (i:=2) (.slice d' x.l.length cap'));have hdB:(Value.slice d' x.l.length cap').ownBlock≠some B:=fun e=>by have:=(Hr _ e).1;omega
   have hdT:(Value.slice d' x.l.length cap').ownBlock≠some (wr.heap.size+1):=fun e=>by have:=(Hr _ e).1;omega
   have ho6:=own_base (bI (bI (bI (yV ho5 hdB v' t) hdT (i:=0) (.int .i64 (x.c:Int))) hdT (i:=1) (.int .i64 x.n)) hdT (i:=2) (.slice d' x.l.length cap')) (Nat.zero_le _);have HL6:=gO ((((((HL4.out.below hb5).put7 (T:=B) (.inl (.inl (.inr rfl))) v' t).set (b:=wr.heap.size+1) (.inr (Nat.le_succ _)) 0 (.int .i64 (x.c:Int))).set (b:=wr.heap.size+1) (.inr (Nat.le_succ _)) 1 (.int .i64 x.n)).set (b:=wr.heap.size+1) (.inr (Nat.le_succ _)) 2 (.slice d' x.l.length cap')).sub (M:=fun k=>(k<w1.heap.size∨k=B)∨(Value.slice d j cp).ownBlock=some k) fun k hk=> .inl hk);have aEC:=gO (HL6.out.snoc (q:=⟨x,d',cap'⟩) ho6 fun g hg hN=>by
    have h1:w4.heap.size<=g:=(Hr _ hg).1;rcases hN with (h2 | h2) | h2
    ·omega
    ·omega
    ·have:=(HOl.out _ h2).2;omega)
   have HB6:=gO (Below.setCell (Below.setCell (Below.setCell (fK (T:=B) (Below.step HB4.out hb5) hsz2 v' t) (show w1.heap.size<=(⟨wr.heap.size+1,0,none⟩:Addr).block by show w1.heap.size<=wr.heap.size+1;omega) (.int .i64 (x.c:Int))) (show w1.heap.size<=(⟨wr.heap.size+1,1,none⟩:Addr).block by show w1.heap.size<=wr.heap.size+1;omega) (.int .i64 x.n)) (show w1.heap.size<=(⟨wr.heap.size+1,2,none⟩:Addr).block by show w1.heap.size<=wr.heap.size+1;omega) (.slice d' x.l.length cap'));have hw6:w4.heap.size<=((((((((((w5.setCell ⟨B,0,none⟩ (.slice v'.a1 v'.n1 v'.c1)).setCell ⟨B,1,none⟩ (.slice v'.hc.az 2 v'.hc.cz)).setCell ⟨B,2,none⟩ (.slice v'.hc.am 2 v'.hc.cm)).setCell ⟨B,3,none⟩ (.int .i64 (t.h.aC:Int))).setCell ⟨B,4,none⟩ (.slice v'.hc.al v'.hc.lc.length v'.hc.cl)).setCell ⟨B,5,none⟩ (.slice v'.hc.av t.h.live.length v'.hc.cv)).setCell ⟨B,6,none⟩ (.slice v'.a2 v'.ys.length v'.c2)).setCell ⟨wr.heap.size+1,0,none⟩ (.int .i64 (x.c:Int))).setCell ⟨wr.heap.size+1,1,none⟩ (.int .i64 x.n)).setCell ⟨wr.heap.size+1,2,none⟩ (.slice d' x.l.length cap')).heap.size:=by
    have:=hb5.size;simp;omega
   clear hb5 ho5 htr KB FB KT FT y0 y1 y2 y3 y4 y5 y6 f0 f1 f2 f3 f4 f5 f6 e0 e1 e2 z0 z1 z2 HS4 HO4 HL4 HB4 HL6 hdB hdT ho6 Hr HA QI HFX;generalize (((((((((w5.setCell _ _).setCell _ _).setCell _ _).setCell _ _).setCell _ _).setCell _ _).setCell _ _).setCell _ _).setCell _ _).setCell _ _=w6 at*;clear w5;have z0:=KX 0;have z1:=KX 1;have z2:=KX 2;simp only[gB,gC,gD]at z0 z1 z2;have QI:=gO KX;clear KX;have ba:=aF w6 (.cells #[.int .i64 (x.c:Int),.int .i64 x.n,.slice d' x.l.length cap'] 57);have HS7:=gO (HS6.out.below ba);have HO7:=gO (own_below HO6.out ba (Nat.le_refl _));have HL7:=gO ((aEC.out.more (M:=fun k=>((k<w1.heap.size∨k=B)∨(Value.slice d j cp).ownBlock=some k)∨w6.heap.size<=k) fun k hk=>hk).below ba);have HB7:=gO (Below.step HB6.out ba);have OL:=gO (World.news_of_block (heap_alloc_new w6 (.cells #[.int .i64 (x.c:Int),.int .i64 x.n,.slice d' x.l.length cap'] 57)));have hw7:w3.heap.size<=(w6.alloc (.cells #[.int .i64 (x.c:Int),.int .i64 x.n,.slice d' x.l.length cap'] 57)).heap.size:=by have:=ba.size;omega
   have aBa:=ba.size;obtain⟨ti,hti,htz,hts,htb⟩:=info_parts Zl;clear ba HS6 HO6 aEC HB6;go_wp2_with (at_builtin;refine wpList_append_lies _ rfl _ _ 38 rfl w3.heap.size 57 ti (.agg #[.int .i64 0,.int .i64 0,.slice none 0 0]) 3 40 Tryz.underlying38 hti htz hts htb rfl (by decide) (.slice d j cp) j (flat Xq qs) rfl HO7.out ⟨w6.heap.size,0,none⟩ 1 1 [.int .i64 (x.c:Int),.int .i64 x.n,.slice d' x.l.length cap'] rfl rfl OL.out (by simp[Value.oneCell']) (by decide) (by unfold maxLen;omega) (by omega) hw7 _ rfl ?_;intro g7 cap7 w7 ho7 hg7 hl7 VK)
   have HS8:Hid (SS w7 B (fun k=>k<w1.heap.size∨(Value.slice (some ⟨g7,0,none⟩) (j+1) cap7).ownBlock=some k) t v'):=HS7.out.out hg7 (fun k e=> .inl (.inr e)) fun k hk=>by
    rcases hk with h | h
    ·exact .inl (.inl (.inl h))
    ·obtain rfl:g7=k:=by simpa[Value.ownBlock]using h
     rcases hl7 with h1 | h1
     ·exact .inl (.inl (.inr h1))
     ·exact .inr ⟨Nat.le_of_eq h1.symm,VK⟩
   have HL8:=gO ((HL7.out.grown hg7 fun g e=> .inl (.inr e)).sub (M:=fun k=>(k<w1.heap.size∨k=B)∨(Value.slice (some ⟨g7,0,none⟩) (j+1) cap7).ownBlock=some k) fun k hk=>by
    rcases hk with h | h
    ·exact .inl (.inl h)
    ·obtain rfl:g7=k:=by simpa[Value.ownBlock]using h
     rcases hl7 with h1 | h1
     ·exact .inl (.inr h1)
     ·exact .inr (by omega))
   have HB8:Hid (Below w1.heap.size w1 w7):=Below.grown HB7.out hg7 HB7.out.size fun k e=>by
    have:=(HOl.out k e).1;omega
   have aLu:=hg7.size;refine⟨⟨j+1,t,v',qs++[⟨x,d',cap'⟩],some ⟨g7,0,none⟩,cap7,by omega,by go_num,rfl,HRN.out,?_,HS8,?_,HL8,by omega,HB8⟩,by simp[intOf];omega⟩
   ·rw[List.map_append];exact HTK.out
   ·rw[aT];exact ho7
  ·obtain rfl:j=n:=by omega
   have hse:s=sE:=by
    have h9:=HRJ.out;rw[List.drop_eq_nil_of_le (by have:=HL.out;omega),List.drop_eq_nil_of_le (by have:=HLT.out;omega)]at h9;exact h9.done
   subst hse;have HQE:Hid (qs.map (·.x)=tells):=by
    have h9:=HQJ.out;rw[List.take_of_length_le (by have:=HLT.out;omega)]at h9;exact h9
   clear HRJ HQJ;obtain⟨g0,g1,g2,g3,g4,g5,g6⟩:=gA7 HSJ.out.k;have NC:Hid (Calls Tryz.prog 39 #[.agg #[.slice v.a1 v.n1 v.c1,.slice v.hc.az 2 v.hc.cz,.slice v.hc.am 2 v.hc.cm,.int .i64 (s.h.aC:Int),.slice v.hc.al v.hc.lc.length v.hc.cl,.slice v.hc.av s.h.live.length v.hc.cv,.slice v.a2 v.ys.length v.c2]] wr fun ev w'=>∃v',ev= .returned (.agg #[.slice v'.a1 v'.n1 v'.c1,.slice v'.hc.az 2 v'.hc.cz,.slice v'.hc.am 2 v'.hc.cm,.int .i64 (s.h.aC:Int),.slice v'.hc.al v'.hc.lc.length v'.hc.cl,.slice v'.hc.av s.h.live.length v'.hc.cv,.slice v'.a2 v'.ys.length v'.c2])/\fQ w' wr.heap.size s v'/\Below wr.heap.size wr w'):=rD v s wr HSJ.out.r.at HGE.out.ok (fun c hc=>gQ (HGE.out.nm c hc) (by decide));have HKR:=gO (aB HK2.out hsb Yz.out);have wX:=gO (aH HF2.out hsb Yz.out);have hsr:=gI hsb Yz.out.size;go_wp2_with (go_at_call 39;refine NC.out.mono ?_;rintro ev w5 ⟨v5,rfl,hn5,hb5⟩;have KT:=aB HKR.out hsr hb5;have FT:=aH wX.out hsr hb5;obtain⟨y0,y1,y2,y3,y4,y5,y6⟩:=gA7 KT;obtain⟨f0,f1,f2,f3,f4,f5,f6⟩:=gF7 FT;skip)
   all_goals
    have KX:=Af KT v5 s;have nP:=gO (fQ.put7 (T:=w.heap.size+1) (G:=w.heap.size) hn5 hsr (by omega));have jF:=gO (fK (T:=w.heap.size+1) (Below.step (Below.trans HB1.out (Yz.out.mono HB1.out.size)) hb5) (Nat.le_succ _) v5 s);have hOd:(Value.slice d j cp).ownBlock≠some (w.heap.size+1):=fun e=>by have:=(EM.out.lt _ e).1;omega
    have HOX:=gO (own_base (yV (T:=w.heap.size+1) (own_below EM.out hb5 (Nat.le_refl _)) hOd v5 s) (show w.heap.size<=w3.heap.size by omega));have HLX:=gO ((l7.put7 (T:=w.heap.size+1) (HLJ.out.below hb5) (.inl (.inl hsb)) v5 s).sub (M:=fun k=>(Value.slice d j cp).ownBlock=some k) fun k hk=> .inr hk);clear KT FT y0 y1 y2 y3 y4 y5 y6 f0 f1 f2 f3 f4 f5 f6 hn5 hb5;go_wp2_with fail
    generalize ((((((w5.setCell _ _).setCell _ _).setCell _ _).setCell _ _).setCell _ _).setCell _ _).setCell _ _=wx at*;exact bodyPost_ret (v:= .tuple #[.slice d j cp,.agg #[.slice v5.a1 v5.n1 v5.c1,.slice v5.hc.az 2 v5.hc.cz,.slice v5.hc.am 2 v5.hc.cm,.int .i64 (s.h.aC:Int),.slice v5.hc.al v5.hc.lc.length v5.hc.cl,.slice v5.hc.av s.h.live.length v5.hc.cv,.slice v5.a2 v5.ys.length v5.c2],.int .i64 0]) (by simp[results,Tryz.results21,go_sem,KX]) rfl ⟨v5,qs,d,cp,by rw[HLT.out],HQE.out,by rw[HLT.out];exact HOX.out,by rw[HLT.out];exact HLX.out,nP.out,jF.out⟩
end
end Go.Proofs.YtcmpmobhongkiaaGreatDoor
