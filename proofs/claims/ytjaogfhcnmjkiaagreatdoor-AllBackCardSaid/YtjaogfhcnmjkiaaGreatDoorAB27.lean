/- joined. -/
import Derived.Test.YtjaogfhcnmjkiaaGreatDoorAB26
import Derived.Deep.CutBlock
set_option linter.all false
set_option maxRecDepth 100000
set_option maxHeartbeats 0
namespace Go.Proofs.YtjaogfhcnmjkiaaGreatDoor
open Go.RowKit
open Go.Value renaming slice->aA,int->aB,agg->aC,string->aF,tuple->aG,pointer->aH,ownBlock->gTh
open Go.IntKind renaming i64->aI
open Option renaming none->aJ,some->aK
open Go.Ending renaming returned->aN
open Go.Obj renaming cells->aO
open Go.Proofs.Tryz
variable {G e g i j m:Nat}{W W2 W7 w w' wd:World}{X:Nat->Prop}{a f k:Int}{a0 a1 a2 a3 a4 a5 a6 x0 x1 x2:Value}{c':Hc}{d:Option Addr}{h h':Hp}{n:List UInt8}{s s' t:Sy}{v v':Sc}{xs:List Int}
def LW (r:Nat ⊕ (Sy×Int))(w:World)(ev:Ending)(w':World):Prop:=(∃e,r= .inl e/\ev=aN (aG #[aC #[aA aJ 0 0,aA aJ 0 0,aA aJ 0 0,aB aI 0,aA aJ 0 0,aA aJ 0 0,aA aJ 0 0],aB aI 0,aB aI (e:Nat)])/\Below w.heap.size w w')∨(∃a b c,r= .inr (a,b)/\ev=aN (aG #[.agg (c.vals a),aB aI b,aB aI 0])/\iI w' w.heap.size a c/\Below w.heap.size w w')
theorem Gv (v:Sc)(s:Sy)(cpu n:Nat)(w:World)(hs:nO w v s)(hk:cZ s)(hf:∀c∈s.cs,c.ns.length<=1000)(hkn:Ed s)(dA:cpu<s.h.aP)(ho:vP w)(hsz:Bg w)(h1:1<=n)(h2:n<=256):
 Calls prog 55 #[aC #[aA v.a1 v.n1 v.c1,aA v.hc.az 2 v.hc.cz,aA v.hc.am 2 v.hc.cm,aB aI (s.h.aP:Int),aA v.hc.al v.hc.lc.length v.hc.cl,aA v.hc.av s.h.live.length v.hc.cv,aA v.a2 v.ys.length v.c2],aB aI cpu,aB aI n] w (zH (s.dL cpu n) w):=by
 by_cases a:n<=32
 ·exact Ie v s cpu n w hs hk hf hkn.names dA ho hsz h1 a
 ·exact PE v s cpu n w hs hk hf dA ho hsz (by omega) h2
section
variable {W W1:World}{G:Nat}{X:Nat->Prop}{s:Sy}{v:Sc}
theorem SS.aLb (hs:SS W G X s v)(hb:Below W.heap.size W W1){a:Option Addr}{n c:Nat}(ho:W1.ownsRow W.heap.size 3 1 (aA a n c) n (xs.map vI)):
 SS (W1.setCell ⟨G,0,aJ⟩ (aA a n c)) G X {s with w:=xs} {v with a1:=a,n1:=n,c1:=c}:=by
 have b:=hs.below hb;have K:=aW b.k 0 (aA a n c);unfold Sc.vals at K;simp only[gE,gG]at K;exact⟨(hs.r.words hb ho).iQ 0 _,K,aV b.fz _ _⟩
end
theorem PK (v:Sc)(s:Sy)(cpu n:Nat)(a:Int)(w:World)(hs:nO w v s)(hk:cZ s)(hf:∀c∈s.cs,c.ns.length<=1000)(hks:Ed s)(dA:cpu<s.h.aP)(ho:vP w)(hsz:Bg w)(hn1:1<=n)(hn2:n<=256)(hab: -1000000<=a/\a<=10000):
 Calls prog 56 #[aC #[aA v.a1 v.n1 v.c1,aA v.hc.az 2 v.hc.cz,aA v.hc.am 2 v.hc.cm,aB aI (s.h.aP:Int),aA v.hc.al v.hc.lc.length v.hc.cl,aA v.hc.av s.h.live.length v.hc.cv,aA v.a2 v.ys.length v.c2],aB aI cpu,aB aI a,aB aI n] w (LW (s.fE cpu a n) w):=by
 obtain⟨K1,K2,F1,F2,g,E⟩:=boxes2 w #[aA v.a1 v.n1 v.c1,aA v.hc.az 2 v.hc.cz,aA v.hc.am 2 v.hc.cm,aB aI (s.h.aP:Int),aA v.hc.al v.hc.lc.length v.hc.cl,aA v.hc.av s.h.live.length v.hc.cv,aA v.a2 v.ys.length v.c2] 42 #[aA aJ 0 0,aA aJ 0 0,aA aJ 0 0,aB aI 0,aA aJ 0 0,aA aJ 0 0,aA aJ 0 0] 42;have hs1:=hs.below E;obtain⟨rZ,ZI⟩:∃rZ,s.fE cpu a n=rZ:=⟨_,rfl⟩
 rw[ZI];generalize hw1:(w.alloc (aO #[aA v.a1 v.n1 v.c1,aA v.hc.az 2 v.hc.cz,aA v.hc.am 2 v.hc.cm,aB aI (s.h.aP:Int),aA v.hc.al v.hc.lc.length v.hc.cl,aA v.hc.av s.h.live.length v.hc.cv,aA v.a2 v.ys.length v.c2] 42)).alloc (aO #[aA aJ 0 0,aA aJ 0 0,aA aJ 0 0,aB aI 0,aA aJ 0 0,aA aJ 0 0,aA aJ 0 0] 42)=w1 at*;have hsz1:w.heap.size<w1.heap.size:=by omega
 have TL:=gO (Wu v s a w1 hs1 hk hf (hsz.below E) hab);have HS1:=gO hs1;have HK:=gO hk;have HF:=gO hf;have HKS:=gO hks;have HO1:=gO (ho.below E);have J:=gO (hsz.below E);have HSZ0:=gO hsz;have R:=gO E;have HK1:=gO K1;have Q:=gO K2;have S:=gO F2;have Ue:=gO ZI;have hc0:¬(cpu:Int)<0:=by omega
 have hc1:¬(s.h.aP:Int)<=cpu:=by omega
 have hc2:¬(n:Int)<1:=by omega
 obtain⟨k0,k1,k2,k3,k4,k5,k6⟩:=gA7 K1;clear hs hk hf hks hs1 K1 F1 K2 F2 E hsz ho ZI;go_enter func56,ntmps56
 go_upto_region 1 with fail
 try rw[hw1]
 clear hw1;cases hz:s.iG a with
 | none=>
  have HE:Hid (rZ= .inl 4):=by
   unfold Hid;rw[<- Ue.out];unfold Sy.fE;rw[hz]
  rw[hz]at TL;have Oh:Hid (Calls prog 17 #[aC #[aA v.a1 v.n1 v.c1,aA v.hc.az 2 v.hc.cz,aA v.hc.am 2 v.hc.cm,aB aI (s.h.aP:Int),aA v.hc.al v.hc.lc.length v.hc.cl,aA v.hc.av s.h.live.length v.hc.cv,aA v.a2 v.ys.length v.c2],aB aI a] w1 λj x=>j=aN (aG #[aB aI 0,aB aI 4])/\Below w1.heap.size w1 x):=TL.out;clear TL hz;go_upto_region 3 with (go_at_call 17;refine Oh.out.mono ?_;rintro j A ⟨rfl,q⟩)
  have kG:=gO (aQ Q.out g q);have xB:=gO (aU S.out g q);have xC:=gO (gW R.out q);clear q Oh k0 k1 k2 k3 k4 k5 k6;obtain⟨q0,q1,q2,q3,q4,q5,q6⟩:=gA7 kG.out;obtain⟨f0,Y,V,f3,W,Z,X⟩:=gF7 xB.out;have lS:=nil7 kG.out xC.out (show w.heap.size<=w.heap.size+1 by omega);have KX:=lS.1;have kP:=gO lS.2;clear lS kG xB xC;go_wp2_with fail
  generalize ((((((A.setCell _ _).setCell _ _).setCell _ _).setCell _ _).setCell _ _).setCell _ _).setCell _ _=wx at*;exact bodyPost_ret (v:=aG #[aC #[aA aJ 0 0,aA aJ 0 0,aA aJ 0 0,aB aI 0,aA aJ 0 0,aA aJ 0 0,aA aJ 0 0],aB aI 0,aB aI 4]) (by simp[results,results56,go_sem,KX]) rfl (.inl ⟨4,HE.out,rfl,kP.out⟩)
 | some z=>
  have HZ:=gO hz;rw[hz]at TL;have NR:Hid (Calls prog 17 #[aC #[aA v.a1 v.n1 v.c1,aA v.hc.az 2 v.hc.cz,aA v.hc.am 2 v.hc.cm,aB aI (s.h.aP:Int),aA v.hc.al v.hc.lc.length v.hc.cl,aA v.hc.av s.h.live.length v.hc.cv,aA v.a2 v.ys.length v.c2],aB aI a] w1 λj x=>j=aN (aG #[aB aI (z:Int),aB aI 0])/\Below w1.heap.size w1 x):=TL.out;clear TL hz;go_upto_region 4 with (go_at_call 17;refine NR.out.mono ?_;rintro j A ⟨rfl,q⟩)
  have K12:=aQ HK1.out hsz1 q;have f:=gO q;clear k0 k1 k2 k3 k4 k5 k6 NR q;obtain⟨k0,k1,k2,k3,k4,k5,k6⟩:=gA7 K12;have HK12:=gO K12;clear K12;by_cases hnz:n<=z
  ·have HE:Hid (rZ= .inr (s,a)):=by
    unfold Hid;rw[<- Ue.out];unfold Sy.fE;rw[HZ.out];simp only[if_pos hnz]
   have aLc:(n:Int)<=z:=by omega
   go_upto_region 7 with fail
   have yX:Hid (Calls prog 12 #[aC #[aA v.a1 v.n1 v.c1,aA v.hc.az 2 v.hc.cz,aA v.hc.am 2 v.hc.cm,aB aI (s.h.aP:Int),aA v.hc.al v.hc.lc.length v.hc.cl,aA v.hc.av s.h.live.length v.hc.cv,aA v.a2 v.ys.length v.c2]] A λj x=>∃d,j=aN (aC #[aA d.a1 d.n1 d.c1,aA d.hc.az 2 d.hc.cz,aA d.hc.am 2 d.hc.cm,aB aI (s.h.aP:Int),aA d.hc.al d.hc.lc.length d.hc.cl,aA d.hc.av s.h.live.length d.hc.cv,aA d.a2 d.ys.length d.c2])/\iI x A.heap.size s d/\Below A.heap.size A x):=qV v s A (HS1.out.below f.out) HK.out HF.out;have o:=gI g f.out.size;have HTD:=gO (aQ Q.out g f.out);have HUD:=gO (aU S.out g f.out);have VL:=gO (gW R.out f.out);go_wp2_with (go_at_call 12;refine yX.out.mono ?_;rintro j N ⟨d,rfl,I,i⟩;have KT:=aQ HTD.out o i;have FT:=aU HUD.out o i;obtain⟨y0,y1,y2,y3,y4,y5,y6⟩:=gA7 KT;obtain⟨f0,Y,V,f3,W,Z,X⟩:=gF7 FT;skip)
   all_goals
    have KX:=qU KT d s;have pO:=gO (iI.put7 (T:=w.heap.size+1) (G:=w.heap.size) I o (by omega));have kP:=gO (dX (T:=w.heap.size+1) (gW VL.out i) (Nat.le_succ _) d s);clear KT FT y0 y1 y2 y3 y4 y5 y6 f0 Y V f3 W Z X I i k0 k1 k2 k3 k4 k5 k6;go_wp2_with fail
    generalize ((((((N.setCell _ _).setCell _ _).setCell _ _).setCell _ _).setCell _ _).setCell _ _).setCell _ _=wx at*;exact bodyPost_ret (v:=aG #[aC #[aA d.a1 d.n1 d.c1,aA d.hc.az 2 d.hc.cz,aA d.hc.am 2 d.hc.cm,aB aI (s.h.aP:Int),aA d.hc.al d.hc.lc.length d.hc.cl,aA d.hc.av s.h.live.length d.hc.cv,aA d.a2 d.ys.length d.c2],aB aI a,aB aI 0]) (by simp[results,results56,go_sem,KX]) rfl (.inr ⟨s,a,d,HE.out,rfl,pO.out,kP.out⟩)
  ·have aLc:¬(n:Int)<=z:=by omega
   go_upto_region 8 with fail
   have Ea:=gO (Gv v s cpu n A (HS1.out.below f.out) HK.out HF.out HKS.out dA (HO1.out.below f.out) (J.out.below f.out) hn1 hn2);have O:=gO (aQ Q.out g f.out);have P:=gO (aU S.out g f.out);have o:=gI g f.out.size;have VL:=gO (gW R.out f.out);have HO2:=gO (HO1.out.below f.out);have HSZ2:=gO (J.out.below f.out);clear HS1 HO1 J HK12 HK1 Q S;cases hka:s.dL cpu n with
   | none=>
    have HE:Hid (rZ= .inl 6):=by
     unfold Hid;rw[<- Ue.out];unfold Sy.fE;rw[HZ.out];simp only[if_neg hnz];rw[hka]
    have HAN:Hid (Calls prog 55 #[aC #[aA v.a1 v.n1 v.c1,aA v.hc.az 2 v.hc.cz,aA v.hc.am 2 v.hc.cm,aB aI (s.h.aP:Int),aA v.hc.al v.hc.lc.length v.hc.cl,aA v.hc.av s.h.live.length v.hc.cv,aA v.a2 v.ys.length v.c2],aB aI cpu,aB aI n] A λj x=>j=aN (aG #[aC #[aA aJ 0 0,aA aJ 0 0,aA aJ 0 0,aB aI 0,aA aJ 0 0,aA aJ 0 0,aA aJ 0 0],aB aI 0,aB aI 6])/\Below A.heap.size A x):=by
     refine Ea.out.mono ?_;rintro j x (⟨_,h,hb⟩ | ⟨s',b',v'',h,_⟩)
     ·exact⟨h,hb⟩
     ·rw[hka]at h;cases h
    clear Ea hka;go_upto_region 10 with (go_at_call 55;refine HAN.out.mono ?_;rintro j N ⟨rfl,i⟩)
    have l:=gW i (aT N (aO #[aA aJ 0 0,aA aJ 0 0,aA aJ 0 0,aB aI 0,aA aJ 0 0,aA aJ 0 0,aA aJ 0 0] 42));have kG:=gO (aQ O.out o l);have xB:=gO (aU P.out o l);have xC:=gO (gW VL.out l);clear i l HAN k0 k1 k2 k3 k4 k5 k6 O P;generalize N.alloc _=w6 at*;obtain⟨q0,q1,q2,q3,q4,q5,q6⟩:=gA7 kG.out;obtain⟨f0,Y,V,f3,W,Z,X⟩:=gF7 xB.out;have lS:=nil7 kG.out xC.out (show w.heap.size<=w.heap.size+1 by omega);have KX:=lS.1;have kP:=gO lS.2;clear lS kG xB xC;go_wp2_with fail
    generalize ((((((w6.setCell _ _).setCell _ _).setCell _ _).setCell _ _).setCell _ _).setCell _ _).setCell _ _=wx at*;exact bodyPost_ret (v:=aG #[aC #[aA aJ 0 0,aA aJ 0 0,aA aJ 0 0,aB aI 0,aA aJ 0 0,aA aJ 0 0,aA aJ 0 0],aB aI 0,aB aI 6]) (by simp[results,results56,go_sem,KX]) rfl (.inl ⟨6,HE.out,rfl,kP.out⟩)
   | some r=>
    obtain⟨t,b⟩:=r;obtain⟨mv,u,gg,m,hku,hnm,hst,_,_⟩:=HK.out.moved HKS.out dA hn1 hn2 HZ.out (by omega) hka;have HE:Hid (rZ= .inr (u,b)):=by
     unfold Hid;rw[<- Ue.out];unfold Sy.fE;rw[HZ.out];simp only[if_neg hnz];rw[hka];simp only;rw[hku]
    have HAS:Hid (Calls prog 55 #[aC #[aA v.a1 v.n1 v.c1,aA v.hc.az 2 v.hc.cz,aA v.hc.am 2 v.hc.cm,aB aI (s.h.aP:Int),aA v.hc.al v.hc.lc.length v.hc.cl,aA v.hc.av s.h.live.length v.hc.cv,aA v.a2 v.ys.length v.c2],aB aI cpu,aB aI n] A λj x=>∃d,j=aN (aG #[aC #[aA d.a1 d.n1 d.c1,aA d.hc.az 2 d.hc.cz,aA d.hc.am 2 d.hc.cm,aB aI (t.h.aP:Int),aA d.hc.al d.hc.lc.length d.hc.cl,aA d.hc.av t.h.live.length d.hc.cv,aA d.a2 d.ys.length d.c2],aB aI b,aB aI 0])/\iI x A.heap.size t d/\Below A.heap.size A x):=by
     refine Ea.out.mono ?_;rintro j x (⟨h,_⟩ | ⟨s',b',v'',h,h1,h2,h3⟩)
     ·rw[hka]at h;cases h
     ·rw[hka]at h;obtain⟨rfl,rfl⟩:t=s'/\b=b':=by simpa using h
      exact⟨v'',h1,h2,h3⟩
    have F:=gO mv;have HKU:=gO hku;have hcp:cpu<t.h.aP:=by rw[mv.cp];exact dA
    have HNT:=gO (uO (nC mv.sg) HF.out);clear Ea hka mv hku hst hnm;go_upto_region 11 with (go_at_call 55;refine HAS.out.mono ?_;rintro j N ⟨d,rfl,I,i⟩)
    have bal:=aT N (aO #[aA d.a1 d.n1 d.c1,aA d.hc.az 2 d.hc.cz,aA d.hc.am 2 d.hc.cm,aB aI (t.h.aP:Int),aA d.hc.al d.hc.lc.length d.hc.cl,aA d.hc.av t.h.live.length d.hc.cv,aA d.a2 d.ys.length d.c2] 42);have l:=gW i bal;have p:=gO (iI.box I);have HBx:=gO (show N.heap.size<(N.alloc (aO #[aA d.a1 d.n1 d.c1,aA d.hc.az 2 d.hc.cz,aA d.hc.am 2 d.hc.cm,aB aI (t.h.aP:Int),aA d.hc.al d.hc.lc.length d.hc.cl,aA d.hc.av t.h.live.length d.hc.cv,aA d.a2 d.ys.length d.c2] 42)).heap.size by simp);have B:=gO (show A.heap.size<=N.heap.size from i.size);have HB6:=gO (gW VL.out l);have HT6:=gO (aQ O.out o l);have HU6:=gO (aU P.out o l);have hT6:=gI o l.size;clear i l HAS k0 k1 k2 k3 k4 k5 k6 I bal O P HO2 HSZ2 VL f R;generalize N.alloc _=w6 at*;generalize N.heap.size=M at*;obtain⟨g0,g1,g2,g3,g4,g5,g6⟩:=gA7 p.out.k;have hxs:t.w.length=d.n1:=p.out.r.at.lw;have hwl:=F.out.wl;have hmo:=aBI d.a1 d.c1 t.w b.toNat a.toNat z w6 (by omega) (by have:=p.out.r.at.kw;omega) p.out.r.at.rw (by have:=F.out.b0;omega) (by have:=F.out.a0;omega);have ha0:=F.out.a0;have hb0:=F.out.b0;rw[Int.toNat_of_nonneg ha0.1,Int.toNat_of_nonneg hb0.1,hxs]at hmo;have HMO:=gO hmo;clear hmo hwl;go_upto_region 12 with (go_at_call 109;refine HMO.out.mono ?_;rintro j w7 ⟨U,c7,rfl,ho7,y⟩;have K7:=(p.out.below y).k;have F7:=(p.out.below y).fz;obtain⟨y0,y1,y2,y3,y4,y5,y6⟩:=gA7 K7;obtain⟨f0,Y,V,f3,W,Z,X⟩:=gF7 F7;skip)
    have K:=gO (SS.aLb p.out y ho7);have HT8:=gO (aS (aQ HT6.out hT6 y) (show w.heap.size+1≠M by have:=B.out;omega) 0 (aA U d.n1 c7));have HU8:=gO (aV (aU HU6.out hT6 y) ⟨M,0,aJ⟩ (aA U d.n1 c7));have HB8:=gO (Below.setCell (gW HB6.out y) (show w.heap.size<=(⟨M,0,aJ⟩:Addr).block by have:=B.out;show w.heap.size<=M;omega) (aA U d.n1 c7));have hB8:M<(w7.setCell ⟨M,0,aJ⟩ (aA U d.n1 c7)).heap.size:=by
     have:=HBx.out;have:=y.size;have h9:(w7.setCell ⟨M,0,aJ⟩ (aA U d.n1 c7)).heap.size=w7.heap.size:=by simp
     omega
    have C:=gO hB8;clear y ho7 K7 F7 y0 y1 y2 y3 y4 y5 y6 f0 Y V f3 W Z X g0 g1 g2 g3 g4 g5 g6 HMO p HT6 HU6 HB6 hT6 hB8;generalize w7.setCell _ _=w8 at*;obtain⟨g0,g1,g2,g3,g4,g5,g6⟩:=gA7 K.out.k;have HSZ8:=gO (HSZ0.out.below HB8.out);obtain⟨v3,hv3⟩:∃v3:Sc,v3={d with a1:=U,n1:=d.n1,c1:=c7}:=⟨_,rfl⟩
    obtain⟨tm,H⟩:∃tm:Sy,tm=t.moved b.toNat a.toNat z:=⟨_,rfl⟩
    have hkf:=Jt v3 tm cpu a w8 (by rw[hv3,H];exact K.out.r.at) (by rw[H];exact F.out.ok) (by rw[H];exact HNT.out) (by rw[H];exact hcp) HSZ8.out hab;have HKF:Hid (Calls prog 16 #[aC #[aA U d.n1 c7,aA d.hc.az 2 d.hc.cz,aA d.hc.am 2 d.hc.cm,aB aI (t.h.aP:Int),aA d.hc.al d.hc.lc.length d.hc.cl,aA d.hc.av t.h.live.length d.hc.cv,aA d.a2 d.ys.length d.c2],aB aI cpu,aB aI a] w8 λj x=>∃e,j=aN (aG #[aC #[aA e.a1 e.n1 e.c1,aA e.hc.az 2 e.hc.cz,aA e.hc.am 2 e.hc.cm,aB aI (u.h.aP:Int),aA e.hc.al e.hc.lc.length e.hc.cl,aA e.hc.av u.h.live.length e.hc.cv,aA e.a2 e.ys.length e.c2],aB aI 0])/\iI x w8.heap.size u e/\Below w8.heap.size w8 x):=by
     rw[hv3,H]at hkf;refine Calls.mono hkf ?_;rintro j x (⟨h,_⟩ | ⟨s',v',h,h1,h2,h3⟩)
     ·rw[HKU.out]at h;cases h
     ·rw[HKU.out]at h;obtain rfl:=gP h;exact⟨v',h1,h2,h3⟩
    clear hkf hv3 H;go_upto_region 13 with (go_at_call 16;refine HKF.out.mono ?_;rintro j w9 ⟨e,rfl,hn9,D⟩;have K9:=gO (aQ K.out.k C.out D);have F9:=gO (aU K.out.fz C.out D);obtain⟨y0,y1,y2,y3,y4,y5,y6⟩:=gA7 K9.out;obtain⟨f0,Y,V,f3,W,Z,X⟩:=gF7 F9.out;skip)
    have HS9:=gO (iI.store hn9 C.out (a0:=aA U d.n1 c7) (a1:=aA d.hc.az 2 d.hc.cz) (a2:=aA d.hc.am 2 d.hc.cm) (a3:=aB aI (t.h.aP:Int)) (a4:=aA d.hc.al d.hc.lc.length d.hc.cl) (a5:=aA d.hc.av t.h.live.length d.hc.cv) (a6:=aA d.a2 d.ys.length d.c2) K9.out F9.out);have L:w.heap.size+1<w8.heap.size:=by
     have:=C.out;have:=B.out;omega
    have hTB:w.heap.size+1≠M:=by have:=B.out;omega
    have HT9:=gO (mX (aQ HT8.out L D) hTB e u);have HU9:=gO (Ci (T:=M) (aU HU8.out L D) e u);have HB9:=gO (dX (T:=M) (gW HB8.out D) (show w.heap.size<=M by have:=B.out;omega) e u);clear hn9 D K9 F9 y0 y1 y2 y3 y4 y5 y6 f0 Y V f3 W Z X g0 g1 g2 g3 g4 g5 g6 K HT8 HU8 HB8 HKF;generalize ((((((w9.setCell _ _).setCell _ _).setCell _ _).setCell _ _).setCell _ _).setCell _ _).setCell _ _=w10 at*;obtain⟨g0,g1,g2,g3,g4,g5,g6⟩:=gA7 HS9.out.k;obtain⟨q0,q1,q2,q3,q4,q5,q6⟩:=gA7 HT9.out;obtain⟨f0,Y,V,f3,W,Z,X⟩:=gF7 HU9.out;go_wp2_with fail
    have KX:=qU (T:=w.heap.size+1) HT9.out e u;have pO:Hid (iI (((((((w10.setCell ⟨w.heap.size+1,0,aJ⟩ (aA e.a1 e.n1 e.c1)).setCell ⟨w.heap.size+1,1,aJ⟩ (aA e.hc.az 2 e.hc.cz)).setCell ⟨w.heap.size+1,2,aJ⟩ (aA e.hc.am 2 e.hc.cm)).setCell ⟨w.heap.size+1,3,aJ⟩ (aB aI (u.h.aP:Int))).setCell ⟨w.heap.size+1,4,aJ⟩ (aA e.hc.al e.hc.lc.length e.hc.cl)).setCell ⟨w.heap.size+1,5,aJ⟩ (aA e.hc.av u.h.live.length e.hc.cv)).setCell ⟨w.heap.size+1,6,aJ⟩ (aA e.a2 e.ys.length e.c2)) w.heap.size u e):=(SR.put7 HS9.out.r (T:=w.heap.size+1) ⟨L,hTB⟩ e u).toX ⟨Nat.lt_of_succ_lt L,by have:=B.out;omega⟩ (λk (hk:k<w.heap.size)=>⟨Nat.lt_trans hk (Nat.lt_of_succ_lt L),by have:=B.out;omega⟩) (Nat.lt_irrefl _);have kP:=gO (dX (T:=w.heap.size+1) HB9.out (Nat.le_succ _) e u);generalize ((((((w10.setCell _ _).setCell _ _).setCell _ _).setCell _ _).setCell _ _).setCell _ _).setCell _ _=wx at*;exact bodyPost_ret (v:=aG #[aC #[aA e.a1 e.n1 e.c1,aA e.hc.az 2 e.hc.cz,aA e.hc.am 2 e.hc.cm,aB aI (u.h.aP:Int),aA e.hc.al e.hc.lc.length e.hc.cl,aA e.hc.av u.h.live.length e.hc.cv,aA e.a2 e.ys.length e.c2],aB aI b,aB aI 0]) (by simp[results,results56,go_sem,KX]) rfl (.inr ⟨u,b,e,HE.out,rfl,pO.out,kP.out⟩)
def lay (w:World):List (Array Value×TypeId)->World
 | []=>w
 | p::l=>lay (w.alloc (.cells p.1 p.2)) l
theorem CS (w:World):∀l,Below w.heap.size w (lay w l)/\(lay w l).heap.size=w.heap.size+l.length:=λl=>by
 induction l generalizing w with
 | nil=>exact⟨gX _ _,rfl⟩
 | cons p l ih=>
  obtain⟨a,b⟩:=ih (w.alloc (.cells p.1 p.2));refine⟨gW (aT _ _) a,b.trans ?_⟩;simp only[List.length_cons];have:(w.alloc (.cells p.1 p.2)).heap.size=w.heap.size+1:=by simp
  omega
theorem pR (w:World):∀l i (hi:i<l.length),(∀o,(lay w l).cell? ⟨w.heap.size+i,o,aJ⟩=(l[i].1)[o]?)/\∀o,(lay w l).frozen? ⟨w.heap.size+i,o,aJ⟩=false:=λl=>by
 induction l generalizing w with
 | nil=>intro i hi;simp at hi
 | cons p l ih=>
  intro i hi;have a:(w.alloc (.cells p.1 p.2)).heap.size=w.heap.size+1:=by simp
  cases i with
  | zero=>
   have hb:=(CS (w.alloc (.cells p.1 p.2)) l).1;exact⟨aQ (bI w p.1 p.2) (by omega) hb,aU (fP w p.1 p.2) (by omega) hb⟩
  | succ i=>
   have h:=ih (w.alloc (.cells p.1 p.2)) i (by simpa using hi);rw[a,show w.heap.size+1+i=w.heap.size+(i+1)by omega]at h;exact h
structure Ac where
 k:Int
 u:Int
 n:Int
 m:Int
 p:Int
 f:Int
 s:List UInt8
structure An where
 c:Nat
 n:Int
 l:List Int
def Sy.ans (s:Sy)(r:Option (Sy×Int)):Sy×An:=match r with
 | none=>(s,⟨6,0,[]⟩)
 | some (t,a)=>(t,⟨0,a,[]⟩)
noncomputable def Sy.aBM (s:Sy)(r:Option (Sy×List Int)):Sy×An:=match r with
 | none=>(s,⟨6,0,[]⟩)
 | some (t,l)=>(t,⟨0,0,l⟩)
def Sy.aBN (s:Sy)(r:Nat ⊕ (Sy×Int)):Sy×An:=match r with
 | .inl e=>(s,⟨e,0,[]⟩)
 | .inr (t,a)=>(t,⟨0,a,[]⟩)
def Sy.aBO (s:Sy)(r:Option (Hp×Nat)):Sy×An:=match r with
 | none=>(s,⟨6,0,[]⟩)
 | some (h,a)=>({s with h:=h},⟨0,(a:Nat),[]⟩)
inductive Dn (s:Sy):Ac->Sy×An->Prop where
 |pages (u o f:Nat) (h1:u<s.h.aP) (h2:o<=4) (h3:f<=15) (h4:¬(f/2%2=1/\f/4%2=1)):Dn s ⟨1,u,o,0,0,f,[]⟩ (s.aBO (s.h.alloc u o (mP f) (decide (f/8%2=1)) (decide (f%2=1))))
 |give (u:Nat) (b:Bk) (h1:u<s.h.aP) (h2:s.whole b):Dn s ⟨2,u,0,0,(b.a:Nat),0,[]⟩ (s.jR u b,⟨0,0,[]⟩)
 |ob (t:Sy) (h1:s.create [111,98] 5=aK t) (h2:s.named [111,98]=aJ):Dn s ⟨3,0,5,1,0,0,[111,98]⟩ (t,⟨0,0,[]⟩)
 |pair (t:Sy) (h1:s.create [112,97,105,114] 2=aK t) (h2:s.named [112,97,105,114]=aJ):Dn s ⟨3,0,2,2,0,0,[112,97,105,114]⟩ (t,⟨0,0,[]⟩)
 |new (u i:Nat) (n:List UInt8) (h1:u<s.h.aP) (h2:s.named n=aK i):Dn s ⟨5,u,0,0,0,0,n⟩ (s.ans (s.one i u))
 |drop (u i k:Nat) (a:Int) (n:List UInt8) (h1:u<s.h.aP) (h2:s.named n=aK i) (h3:s.jD i k a):Dn s ⟨6,u,0,0,a,0,n⟩ (s.free i k a.toNat u,⟨0,0,[]⟩)
 |shrink (u i:Nat) (n:List UInt8) (h2:s.named n=aK i):Dn s ⟨7,u,0,0,0,0,n⟩ (s.shrink i,⟨0,0,[]⟩)
 |bulk (u i m:Nat) (n:List UInt8) (h1:u<s.h.aP) (h2:s.named n=aK i) (h3:1<=m) (h4:m<=256):Dn s ⟨15,u,m,0,0,0,n⟩ (s.aBM (s.bulk i u m))
 |dL (u m:Nat) (h1:u<s.h.aP) (h3:1<=m) (h4:m<=256):Dn s ⟨8,u,m,0,0,0,[]⟩ (s.ans (s.dL u m))
 |jG (u:Nat) (a:Int) (t:Sy) (h1:u<s.h.aP) (h2:s.jG u a=aK t) (h3:0<=a/\a<=4096):Dn s ⟨9,u,0,0,a,0,[]⟩ (t,⟨0,0,[]⟩)
 |resize (u m:Nat) (a:Int) (h1:u<s.h.aP) (h2:1<=m) (h3:m<=256) (h4:0<=a/\a<=4096):Dn s ⟨11,u,m,0,a,0,[]⟩ (s.aBN (s.fE u a m))
 |drain (u:Nat) (n:List UInt8):Dn s ⟨12,u,0,0,0,0,n⟩ ({s with h:=s.h.drain},⟨0,0,[]⟩)
 |write (u a:Nat) (m:Int) (h2:s.oU a 1) (h3: -1099511627776<=m/\m<=1099511627776):Dn s ⟨13,u,0,m,a,0,[]⟩ ({s with w:=s.w.set a m},⟨0,0,[]⟩)
 |read (u a:Nat) (h2:s.oU a 1):Dn s ⟨14,u,0,0,a,0,[]⟩ (s,⟨0,s.w.getD a 0,[]⟩)
structure Ii (s:Sy):Prop where
 ok:cZ s
 nm:∀c∈s.cs,c.ns.length<=900
 sg:Ed s
def aBP (v:Sc)(s:Sy)(r:Sy×An)(w:World)(ev:Ending)(w':World):Prop:=
 ∃(b:Sc) (d:Option Addr) (a:Nat),ev=aN (aG #[.agg (b.vals r.1),aC #[aB aI (r.2.c:Int),aB aI r.2.n,aA d r.2.l.length a]])/\(∀G X,SR w G X s v->SR w' G X r.1 b)/\Below w.heap.size w w'/\w'.ownsRow w.heap.size 3 1 (aA d r.2.l.length a) r.2.l.length (r.2.l.map vI)
def vX:List UInt8:=[111,98]
def kK:List UInt8:=[112,97,105,114]
def k4B:List UInt8:=[107,52]
structure Th where
 a:Int
 z:Int
 k:Int
 n:List UInt8
 w:Int
 b:Bool
inductive ThK (s:Sy)(a:Int)(m:Nat):Int->List UInt8->Prop where
 |num (h:s.iG a=aK m):ThK s a m 8 []
 |WG (h:s.holds a aJ m):ThK s a m 1 []
 |obj (i:Nat) (n:List UInt8) (h1:s.named n=aK i) (h2:s.holds a (aK i) m) (h3:n=vX∨n=kK):ThK s a m 5 n
structure PL (s:Sy)(t:Th)(m:Nat):Prop where
 k:ThK s t.a m t.k t.n
 z:1<=t.z/\t.z<=m
 w:t.b=true->s.w.getD t.a.toNat 0=t.w
theorem ThK.held (h:ThK s a m k n):∃g,s.holds a g m:=by
 cases h with
 | num h=>
  obtain⟨g,b,_⟩:=nM h;exact⟨g,b⟩
 | WG h=>exact⟨aJ,h⟩
 | obj i n b h2 h3=>exact⟨aK i,h2⟩
structure Cs (s:Sy):Prop where
 ob:∃i c,s.named vX=aK i/\s.cs[i]? =aK c/\c.z=5/\kZ c.ns=false/\vX∈c.ns
 pr:∃i c,s.named kK=aK i/\s.cs[i]? =aK c/\c.z=2/\kZ c.ns=true/\kK∈c.ns
 k4:∃i,s.named k4B=aK i
 mi:∀(i:Nat) (c:Ca),s.cs[i]? =aK c->vX∉c.ns->kZ c.ns=true
structure fK (s:Sy)(L:List Th):Prop where
 g:Ii s
 cs:Cs s
 th:∀t∈L,∃m,PL s t m
 nd:(L.map (·.a)).Nodup
 all:∀a g m,s.holds a g m->∃t∈L,t.a=a
theorem qG (h:t.sig=s.sig)(n:List UInt8):t.named n=s.named n:=by rw[lU,nC h,<- lU]
theorem Cs.CQ (h:Cs s)(hs:t.sig=s.sig):Cs t:=by
 have key:∀(i:Nat) (c:Ca),s.cs[i]? =aK c->∃d,t.cs[i]? =aK d/\d.ns=c.ns/\d.z=c.z:=λi c j=>by
  have a:=sJ j;rw[<- hs]at a;exact sK a
 have g:∀(i:Nat) (c:Ca),t.cs[i]? =aK c->∃d,s.cs[i]? =aK d/\d.ns=c.ns/\d.z=c.z:=λi c j=>by
  have a:=sJ j;rw[hs]at a;exact sK a
 refine⟨?_,?_,?_,λi c j o=> ?_⟩
 ·obtain⟨i,c,f,k,m,l,a⟩:=h.ob;obtain⟨d,e,b,n⟩:=key i c k;exact⟨i,d,by rw[qG hs];exact f,e,by rw[n];exact m,by rw[b];exact l,by rw[b];exact a⟩
 ·obtain⟨i,c,f,k,m,l,a⟩:=h.pr;obtain⟨d,e,b,n⟩:=key i c k;exact⟨i,d,by rw[qG hs];exact f,e,by rw[n];exact m,by rw[b];exact l,by rw[b];exact a⟩
 ·obtain⟨i,f⟩:=h.k4;exact⟨i,by rw[qG hs];exact f⟩
 ·obtain⟨d,e,b,_⟩:=g i c j;rw[<- b];exact h.mi i d e (by rw[b];exact o)
theorem Ii.of (h:Ii s)(hk:cZ t)(hs:t.sig=s.sig):Ii t:=⟨hk,uO (nC hs) h.nm,h.sg.CQ hs⟩
theorem Step.iG {A:List (Int×Option Nat×Nat)}{d:Option Int}(h:Step s t A d)(hz:s.iG a=aK m)(hd:d≠aK a):t.iG a=aK m:=by
 obtain⟨g,o,n⟩:=nM hz;refine h.ok.AO ((h.hd a g m).2 (.inl ⟨o,hd⟩)) λi c e p=> ?_
 have k:=sJ p;rw[h.sg]at k;obtain⟨j,b,l,_⟩:=sK k;have f:j.ns=c.ns:=l;rw[<- f];exact n i j e b
theorem PL.step {A:List (Int×Option Nat×Nat)}{d:Option Int}(h:Step s t A d)(hk:cZ s){x:Th}(hx:PL s x m)(hd:d≠aK x.a):PL t x m:=by
 obtain⟨g,e⟩:=hx.k.held;have f:=hk.lW e;refine⟨?_,hx.z,λhb=> ?_⟩
 ·obtain⟨a,z,k,n,w,b⟩:=x;have c:=hx.k;simp only at c hd ⊢;cases c with
  | num h1=>exact .num (h.iG h1 hd)
  | WG h1=>exact .WG ((h.hd _ _ _).2 (.inl ⟨h1,hd⟩))
  | obj i n h1 h2 h3=>exact .obj i n (by rw[qG h.sg];exact h1) ((h.hd _ _ _).2 (.inl ⟨h2,hd⟩)) h3
 ·rw[h.wd x.a.toNat x.a g m e hd (by omega) (by omega)];exact hx.w hb
theorem fK.add {L:List Th}(h:fK s L){A:List (Int×Option Nat×Nat)}(hs:Step s t A aJ){N:List Th}(hn:∀x∈N,∃m,PL t x m)(hA:N.map (·.a)=A.map (·.1))(hd:(A.map (·.1)).Nodup):fK t (L++N):=by
 refine⟨h.g.of hs.ok hs.sg,h.cs.CQ hs.sg,λx c=> ?_,?_,λa g m f=> ?_⟩
 ·rcases gZ.1 c with c | c
  ·obtain⟨m,d⟩:=h.th x c;exact⟨m,d.step hs h.g.ok (by simp)⟩
  ·exact hn x c
 ·rw[List.map_append,hA];refine List.nodup_append.2 ⟨h.nd,hd,λa j b hb e=> ?_⟩;obtain⟨x,c,rfl⟩:=List.mem_map.1 j;obtain⟨y,n,rfl⟩:=List.mem_map.1 hb;obtain⟨m,d⟩:=h.th x c;obtain⟨g,f⟩:=d.k.held;exact hs.nw y n g m (e▸f)
 ·rcases(hs.hd a g m).1 f with ⟨i,_⟩ | i
  ·obtain⟨x,c,e⟩:=h.all a g m i;exact⟨x,List.mem_append_left _ c,e⟩
  ·have l:a∈N.map (·.a):=by
    rw[hA];exact List.mem_map.2 ⟨_,i,rfl⟩
   obtain⟨x,c,e⟩:=List.mem_map.1 l;exact⟨x,List.mem_append_right _ c,e⟩
theorem Gx {L:List Th}(hn:(L.map (·.a)).Nodup){x y:Th}(hi:L[i]? =aK x)(hj:L[j]? =aK y)(he:x.a=y.a):i=j:=by
 obtain⟨e,c⟩:=gK.1 hi;obtain⟨d,f⟩:=gK.1 hj;have h:=gN.1 hn;rcases Nat.lt_trichotomy i j with b | b | b
 ·exact absurd (by rw[List.getElem_map,List.getElem_map,c,f];exact he) (h i j (by simpa using e) (by simpa using d) b)
 ·exact b
 ·exact absurd (by rw[List.getElem_map,List.getElem_map,c,f];exact he.symm) (h j i (by simpa using d) (by simpa using e) b)
theorem fK.del {L:List Th}(h:fK s L){x:Th}(hi:L[i]? =aK x)(hs:Step s t [] (aK x.a)):fK t (L.eraseIdx i):=by
 refine⟨h.g.of hs.ok hs.sg,h.cs.CQ hs.sg,λy c=> ?_,?_,λa g m o=> ?_⟩
 ·obtain⟨j,b,e⟩:=List.mem_eraseIdx_iff_getElem?.1 c;obtain⟨m,l⟩:=h.th y (gM e);exact⟨m,l.step hs h.g.ok λf=>b (Gx h.nd e hi (gP f).symm)⟩
 ·exact h.nd.sublist ((List.eraseIdx_sublist L i).map _)
 ·rcases(hs.hd a g m).1 o with ⟨d,n⟩ | d
  ·obtain⟨y,c,e⟩:=h.all a g m d;obtain⟨j,b,k⟩:=List.mem_iff_getElem.1 c;refine⟨y,List.mem_eraseIdx_iff_getElem?.2 ⟨j,λf=> ?_,by rw[gJ b,k]⟩,e⟩;subst f;rw[gJ b,k]at hi;exact n (by rw[<- gP hi,e])
  ·cases d
theorem fK.upd {L:List Th}(h:fK s L)(hg:Ii t)(hc:Cs t){x x':Th}(hi:L[i]? =aK x){m':Nat}(hx:PL t x' m')
 (ho:∀y∈L,y.a≠x.a->y.a≠x'.a/\∀m,PL s y m->PL t y m) (hall:∀a g m,t.holds a g m->(a≠x.a/\∃g m,s.holds a g m)∨a=x'.a):fK t (L.set i x'):=by
 obtain⟨E,D⟩:=gK.1 hi;have f:∀y∈L.set i x',y=x'∨∃j,j≠i/\L[j]? =aK y:=λy d=>(tZ hi).1 d
 have b:∀y j,j≠i->L[j]? =aK y->y.a≠x.a:=λy j c e r=>c (Gx h.nd e hi r)
 refine⟨hg,hc,λy d=> ?_,?_,λa g m B=> ?_⟩
 ·rcases f y d with rfl | ⟨j,c,e⟩
  ·exact⟨m',hx⟩
  ·obtain⟨m,C⟩:=h.th y (gM e);exact⟨m,(ho y (gM e) (b y j c e)).2 m C⟩
 ·refine gN.2 λp q l k n=> ?_
  simp only[gTe,List.length_set]at l k;rw[List.getElem_map,List.getElem_map,List.getElem_set,List.getElem_set];have u:=gN.1 h.nd p q (by simpa using l) (by simpa using k) n;rw[List.getElem_map,List.getElem_map]at u;split
  ·rename_i e;subst e;rw[if_neg (by omega)];exact λe=>(ho L[q] (gL k) (b _ q (by omega) (gJ k))).1 e.symm
  ·split
   ·rename_i e1 e;subst e;exact(ho L[p] (gL l) (b _ p (by omega) (gJ l))).1
   ·exact u
 ·rcases hall a g m B with ⟨o,A,w,z⟩ | o
  ·obtain⟨y,d,e⟩:=h.all a A w z;obtain⟨j,c,v⟩:=List.mem_iff_getElem.1 d;refine⟨y,(tZ hi).2 (.inr ⟨j,λr=> ?_,by rw[gJ c,v]⟩),e⟩;subst r;rw[gJ c,v]at hi;exact o (by rw[<- gP hi,e])
  ·exact⟨x',(tZ hi).2 (.inl rfl),o.symm⟩
inductive pJ (cp:Nat):Ac->Int->Prop where
 |dL (u n:Nat) (h:u<cp) (h1:1<=n) (h2:n<=140):pJ cp ⟨8,u,n,0,0,0,[]⟩ 0
 |jG (u:Nat) (f:Int) (h:u<cp) (h1:1<=f/\f<=9):pJ cp ⟨9,u,0,0,0,0,[]⟩ f
 |resize (u n:Nat) (f:Int) (h:u<cp) (h1:1<=f/\f<=9) (h2:1<=n) (h3:n<=60):pJ cp ⟨11,u,n,0,0,0,[]⟩ f
 |pages (u o f:Nat) (h:u<cp) (h1:o<=4) (h2:f=0∨f=2∨f=4∨f=1∨f=8∨f=3∨f=10):pJ cp ⟨1,u,o,0,0,f,[]⟩ 0
 |give (u:Nat) (f:Int) (h:u<cp) (h1:1<=f/\f<=9):pJ cp ⟨2,u,0,0,0,0,[]⟩ f
 |new (u:Nat) (n:List UInt8) (h:u<cp) (h1:n=vX∨n=kK):pJ cp ⟨5,u,0,0,0,0,n⟩ 0
 |drop (u:Nat) (n:List UInt8) (f:Int) (h:u<cp) (h1:n=vX∨n=kK) (h2:1<=f/\f<=9):pJ cp ⟨6,u,0,0,0,0,n⟩ f
 |drain (u:Nat) (n:List UInt8) (h:u<cp) (h1:n=vX∨n=kK∨n=k4B):pJ cp ⟨12,u,0,0,0,0,n⟩ 0
 |shrink (u:Nat) (n:List UInt8) (h:u<cp) (h1:n=vX∨n=kK∨n=k4B):pJ cp ⟨7,u,0,0,0,0,n⟩ 0
 |bulk (u m:Nat) (h:u<cp) (h1:1<=m) (h2:m<=30):pJ cp ⟨15,u,m,0,0,0,vX⟩ 0
 |write (u:Nat) (m f:Int) (h:u<cp) (h1:0<=m/\m<=1000) (h2:1<=f/\f<=9):pJ cp ⟨13,u,0,m,0,0,[]⟩ f
 |read (u:Nat) (f:Int) (h:u<cp) (h2:1<=f/\f<=9):pJ cp ⟨14,u,0,0,0,0,[]⟩ f
def fits (c:Ac)(t:Th):Prop:=(c.k=2/\t.k=1)∨(c.k=6/\t.n=c.s/\t.n≠[])∨((c.k=9∨c.k=11)/\t.k=8)∨c.k=13∨c.k=14
def Ac.at (c:Ac)(a:Int):Ac:={c with p:=if c.k=2 then a/16 else a}
def oC (n:List UInt8):Int:=if n=vX then 5 else if n=kK then 2 else 0
def lC (L:List Th)(c:Ac)(x:An)(i:Nat):List Th:=
 if c.k=8 then L++[⟨x.n,c.n,8,[],0,false⟩]
 else if c.k=1 then L++[⟨x.n*16,16*2^c.n.toNat,1,[],0,false⟩]
 else if c.k=5 then L++[⟨x.n,oC c.s,5,c.s,0,false⟩]
 else if c.k=15 then L++x.l.map λp=>⟨p,5,5,c.s,0,false⟩
 else if c.k=9∨c.k=2∨c.k=6 then L.eraseIdx i
 else if c.k=11 then(match L[i]? with | some t=>L.set i {t with a:=x.n,z:=c.n} | none=>L)
 else if c.k=13 then(match L[i]? with | some t=>L.set i {t with w:=c.m,b:=true} | none=>L)
 else L
def Stp (s:Sy)(L:List Th)(c:Ac)(i:Nat):Prop:=∃r,Dn s c r/\(r.2.c=0->fK r.1 (lC L c r.2 i))/\(r.2.c≠0->r.1=s)
theorem ThK.pos (hk:cZ s)(h:ThK s a m k n):1<=m/\0<=a/\a+m<=4096:=by
 obtain⟨g,b⟩:=h.held;exact hk.lW b
theorem fK.same {L:List Th}(h:fK s L)(hs:Step s t [] aJ):fK t L:=by
 have:=h.add hs (N:=[]) (λx a=>by cases a) rfl List.nodup_nil
 rwa [List.append_nil]at this
theorem fK.ZN {L:List Th}(h:fK s L)(hn:n=vX∨n=kK):∃i c,s.named n=aK i/\s.cs[i]? =aK c/\(c.z:Int)=oC n:=by
 rcases hn with rfl | rfl
 ·obtain⟨i,c,b,a,d,_⟩:=h.cs.ob;exact⟨i,c,b,a,by rw[d];rfl⟩
 ·obtain⟨i,c,b,a,d,_⟩:=h.cs.pr;exact⟨i,c,b,a,by rw[d];rfl⟩
theorem Step.nm {A:List (Int×Option Nat×Nat)}{d:Option Int}(h:Step s t A d)(hn:s.named n=aK i):t.named n=aK i:=by rw[qG h.sg];exact hn
theorem ZO {L:List Th}(h:fK s L){c:Ac}(hc:pJ s.h.aP c 0)(i:Nat):Stp s L c i:=by
 have v:=h.g.ok;obtain⟨f,I⟩:∃f:Int,f=0:=⟨_,rfl⟩
 rw[<- I]at hc;cases hc with
 | dL u n h0 h1 h2=>
  refine⟨_,.dL u n h0 h1 (by omega),?_⟩;cases hr:s.dL u n with
  | none=>exact⟨λe=>(by cases e),λ_=>rfl⟩
  | some r=>
   obtain⟨t,a⟩:=r;refine⟨λ_=> ?_,λe=>absurd rfl e⟩;obtain⟨g,m,b,M,E⟩:=v.zL h.g.sg h0 h1 (by omega) hr;exact h.add b (N:=[⟨a,n,8,[],0,false⟩]) (λx w=>by
    obtain rfl:=gTa.1 w;exact⟨m,.num E,by constructor <;> simp only <;> omega,λe=>(by cases e)⟩) rfl (List.nodup_cons.2 ⟨List.not_mem_nil,List.nodup_nil⟩)
 | pages u o f h0 h1 h2=>
  have B:mP f<3:=by rcases h2 with rfl | rfl | rfl | rfl | rfl | rfl | rfl <;> decide
  refine⟨_,.pages u o f h0 h1 (by omega) (by omega),?_⟩;cases hr:s.h.alloc u o (mP f) (decide (f/8%2=1)) (decide (f%2=1))with
  | none=>exact⟨λe=>(by cases e),λ_=>rfl⟩
  | some r=>
   obtain⟨J,a⟩:=r;refine⟨λ_=> ?_,λe=>absurd rfl e⟩;have b:=v.yD h0 h1 B hr;have y:=(b.hd (16*(a:Int)) aJ (16*2^o)).2 (.inr (by simp));have F:=Nat.two_pow_pos o;have k:((a:Int)*16)=16*(a:Int):=Int.mul_comm _ _;refine h.add b (N:=[⟨(a:Int)*16,16*2^o,1,[],0,false⟩]) (λx w=> ?_) (by simp[k]) (List.nodup_cons.2 ⟨List.not_mem_nil,List.nodup_nil⟩);obtain rfl:=gTa.1 w;refine⟨16*2^o,.WG (by rw[k];exact y),?_,λe=>(by cases e)⟩;have H:((16*2^o:Nat):Int)=16*2^o:=by simp
   simp only;rw[<- H];generalize 2^o=P at*;omega
 | new u n h0 h1=>
  obtain⟨j,c,d,A,D⟩:=h.ZN h1;refine⟨_,.new u j n h0 d,?_⟩;cases hr:s.one j u with
  | none=>exact⟨λe=>(by cases e),λ_=>rfl⟩
  | some r=>
   obtain⟨t,a⟩:=r;refine⟨λ_=> ?_,λe=>absurd rfl e⟩;have b:=v.Ep A h0 hr;have y:=(b.hd a (aK j) c.z).2 (.inr (by simp));refine h.add b (N:=[⟨a,oC n,5,n,0,false⟩]) (λx w=> ?_) rfl (List.nodup_cons.2 ⟨List.not_mem_nil,List.nodup_nil⟩);obtain rfl:=gTa.1 w;have E:=(b.ok.lW y).1;exact⟨c.z,.obj j n (b.nm d) y h1,by simp only;omega,λe=>(by cases e)⟩
 | bulk u m h0 h1 h2=>
  obtain⟨j,c,d,A,D⟩:=h.ZN (.inl rfl);refine⟨_,.bulk u j m vX h0 d h1 (by omega),?_⟩;cases hr:s.bulk j u m with
  | none=>exact⟨λe=>(by cases e),λ_=>rfl⟩
  | some r=>
   obtain⟨t,l⟩:=r;refine⟨λ_=> ?_,λe=>absurd rfl e⟩;have b:=v.Gt A h0 hr;have C:l.Nodup:=(v.xU (gK.1 A).1 h0 hr).2.2.2.2.1;have G:(l.map λa=>(a,aK j,c.z)).map (·.1)=l:=by rw[List.map_map];exact List.map_id' l
   refine h.add b (N:=l.map λp=>⟨p,5,5,vX,0,false⟩) (λx w=> ?_) (by rw[G,List.map_map];exact List.map_id' l) (by rw[G];exact C);obtain⟨p,F,rfl⟩:=List.mem_map.1 w;have y:=(b.hd p (aK j) c.z).2 (.inr (List.mem_map.2 ⟨p,F,rfl⟩));have K:(c.z:Int)=5:=D;exact⟨c.z,.obj j vX (b.nm d) y (.inl rfl),by simp only;omega,λe=>(by cases e)⟩
 | drain u n h0 h1=>exact⟨_,.drain u n,λ_=>h.same v.yE,λe=>absurd rfl e⟩
 | shrink u n h0 h1=>
  obtain⟨j,d⟩:∃j,s.named n=aK j:=by
   rcases h1 with rfl | rfl | rfl
   ·obtain⟨j,_,q,_⟩:=h.cs.ob;exact⟨j,q⟩
   ·obtain⟨j,_,q,_⟩:=h.cs.pr;exact⟨j,q⟩
   ·exact h.cs.k4
  refine⟨_,.shrink u j n d,λ_=>h.same (v.zK ?_),λe=>absurd rfl e⟩;unfold Sy.named at d;exact(List.findIdx?_eq_some_iff_getElem.1 d).1
 | jG u f h0 h1=>omega
 | resize u n f h0 h1 h2 h3=>omega
 | give u f h0 h1=>omega
 | drop u n f h0 h1 h2=>omega
 | write u m f h0 h1 h2=>omega
 | read u f h0 h1=>omega
theorem Ju {L:List Th}(h:fK s L){c:Ac}(hc:pJ s.h.aP c f)(hf:0<f){x:Th}(hi:L[i]? =aK x)(hx:fits c x):Stp s L (c.at x.a) i:=by
 have G:=h.g.ok;obtain⟨m,R⟩:=h.th x (gM hi);have H:=R.k.pos G;have hz:=R.z;obtain⟨a,z,k,nn,w,b⟩:=x;have A:=R.k;simp only at A hz H;cases hc with
 | dL u n h0 p h2=>omega
 | pages u o f h0 p h2=>omega
 | new u n h0 p=>omega
 | bulk u m h0 p h2=>omega
 | drain u n h0 p=>omega
 | shrink u n h0 p=>omega
 | jG u f h0 p=>
  have J:k=8:=by
   simp[fits]at hx;exact hx
  subst J;cases A with
  | num hsz=>
   obtain⟨t,ht,d⟩:=G.CP h0 hsz;exact⟨_,.jG u a t h0 ht ⟨H.2.1,by omega⟩,λ_=>h.del hi d,λe=>absurd rfl e⟩
 | resize u n f h0 p h2 h3=>
  have J:k=8:=by
   simp[fits]at hx;exact hx
  subst J;cases A with
  | num hsz=>
   refine⟨_,.resize u n a h0 h2 (by omega) ⟨H.2.1,by omega⟩,?_⟩;by_cases Q:n<=m
   ·have e:s.fE u a n= .inr (s,a):=by
     unfold Sy.fE;rw[hsz];simp only[if_pos Q]
    rw[e];refine⟨λ_=> ?_,λe=>absurd rfl e⟩;show fK s (match L[i]? with | some t=>L.set i {t with a:=a,z:=(n:Int)} | none=>L);rw[hi];refine h.upd h.g h.cs hi (m':=m) ⟨.num hsz,by constructor <;> simp only <;> omega,R.w⟩ (λy X C=>⟨C,λ_ E=>E⟩) λb g m F=> ?_
    by_cases hb:b=a
    ·exact .inr hb
    ·exact .inl ⟨hb,g,m,F⟩
   ·cases hr:s.dL u n with
    | none=>
     have e:s.fE u a n= .inl 6:=by
      unfold Sy.fE;rw[hsz];simp only[if_neg Q,hr]
     rw[e];exact⟨λe=>(by cases e),λ_=>rfl⟩
    | some r=>
     obtain⟨t,D⟩:=r;obtain⟨mv,u',g',m',ku,hnm,d,Y,N⟩:=G.moved h.g.sg h0 h2 (by omega) hsz (by omega) hr;have e:s.fE u a n= .inr (u',D):=by
      unfold Sy.fE;rw[hsz];simp only[if_neg Q,hr,ku]
     rw[e];refine⟨λ_=> ?_,λe=>absurd rfl e⟩;show fK u' (match L[i]? with | some t=>L.set i {t with a:=D,z:=(n:Int)} | none=>L);rw[hi];refine h.upd (h.g.of d.ok d.sg) (h.cs.CQ d.sg) hi (m':=m') ⟨.num N,by constructor <;> simp only <;> omega,λhb=> ?_⟩ (λy X C=>⟨λe=> ?_,λl E=>E.step d G λe=>C (gP e).symm⟩) λc g l F=> ?_
     ·have:=Y 0 (by omega);rw[Nat.add_zero,Nat.add_zero]at this;exact this.trans (R.w hb)
     ·obtain⟨l,E⟩:=h.th y X;obtain⟨P,hq2⟩:=E.k.held;exact d.nw _ (gTa.2 rfl) P l (by have e':y.a=D:=e;show s.holds D P l;rw[<- e'];exact hq2)
     ·rcases(d.hd c g l).1 F with ⟨v,B⟩ | v
      ·exact .inl ⟨λe=>B (by rw[e]),g,l,v⟩
      ·exact .inr (congrArg Prod.fst (gTa.1 v))
 | give u f h0 p=>
  have V:k=1:=by
   simp[fits]at hx;exact hx
  subst V;cases A with
  | WG F=>
   obtain⟨D,h5,h6,h7⟩:=F;have e:(⟨2,u,0,0,0,0,[]⟩:Ac).at a=⟨2,u,0,0,(D.a:Nat),0,[]⟩:=by
    simp only[Ac.at,if_true];congr 1;omega
   rw[e];refine⟨_,.give u D h0 h5,λ_=> ?_,λe=>absurd rfl e⟩;have d:=G.CO h0 h5;rw[<- h6]at d;exact h.del hi d
 | drop u n f h0 p h2=>
  have Q:nn=n:=by
   simp[fits]at hx;exact hx.1
  subst Q;cases A with
  | num hsz=>rcases p with p | p <;> cases p
  | WG F=>rcases p with p | p <;> cases p
  | obj j n v B K=>
   obtain⟨kk,U⟩:=eH.1 B.1;obtain⟨M,x',g1,P,g3⟩:=U;have d:=G.Gp (k:=kk) (a:=a.toNat) (cpu:=u) g1 P (by rw[Int.toNat_of_nonneg H.2.1];exact g3) h0;rw[Int.toNat_of_nonneg H.2.1]at d;exact⟨_,.drop u j kk a nn h0 v ⟨M,x',g1,P,g3⟩,λ_=>h.del hi d,λe=>absurd rfl e⟩
 | write u l f h0 p h2=>
  have I:s.oU ((a.toNat:Nat):Int) 1:=by
   obtain⟨g,F⟩:=A.held;rw[Int.toNat_of_nonneg H.2.1];rcases pI F with ⟨Z,T,M,v,B,K⟩ | ⟨D,v,B,K⟩
   ·exact .inl ⟨Z,T,M,v,B,by omega⟩
   ·exact .inr ⟨D,v,B,by omega⟩
  have e:(⟨13,u,0,l,0,0,[]⟩:Ac).at a=⟨13,u,0,l,(a.toNat:Nat),0,[]⟩:=by
   simp only[Ac.at];rw[if_neg (by decide),Int.toNat_of_nonneg H.2.1]
  rw[e];refine⟨_,.write u a.toNat l I ⟨by omega,by omega⟩,λ_=> ?_,λe=>absurd rfl e⟩;have hwl:=G.wl;obtain⟨w1,S⟩:=G.Jr I (w':=s.w.set a.toNat l) (by simp) λq E=>by
   rw[getD_set_ne (by omega)]
  have W:∀b m,s.iG b=aK m->({s with w:=s.w.set a.toNat l}:Sy).iG b=aK m:=λb m hb=>by
   obtain⟨g,v,B⟩:=nM hb;exact w1.AO ((S b g m).2 v) B
  have O:∀b m k n,ThK s b m k n->ThK {s with w:=s.w.set a.toNat l} b m k n:=λb m k n E=>by
   cases E with
   | num q=>exact .num (W _ _ q)
   | WG q=>exact .WG ((S _ _ _).2 q)
   | obj j n v B K=>exact .obj j n v ((S _ _ _).2 B) K
  show fK {s with w:=s.w.set a.toNat l} (match L[i]? with | some t=>L.set i {t with w:=l,b:=true} | none=>L);rw[hi];refine h.upd (h.g.of w1 rfl) (h.cs.CQ rfl) hi (m':=m) ⟨O _ _ _ _ A,hz,λ_=> ?_⟩ (λy X C=>⟨C,λm3 E=>⟨O _ _ _ _ E.k,E.z,λhb=> ?_⟩⟩) λD g m' F=> ?_
  ·show(s.w.set a.toNat l).getD a.toNat 0=l;rw[List.getD_eq_getElem?_getD,List.getElem?_set_self (by omega)];rfl
  ·have:=E.k.pos G;show(s.w.set a.toNat l).getD y.a.toNat 0=y.w;rw[getD_set_ne (by simp only at C;omega)];exact E.w hb
  ·by_cases hb:D=a
   ·exact .inr hb
   ·exact .inl ⟨hb,g,m',(S _ _ _).1 F⟩
 | read u f h0 h2=>
  have I:s.oU ((a.toNat:Nat):Int) 1:=by
   obtain⟨g,F⟩:=A.held;rw[Int.toNat_of_nonneg H.2.1];rcases pI F with ⟨Z,T,M,v,B,K⟩ | ⟨D,v,B,K⟩
   ·exact .inl ⟨Z,T,M,v,B,by omega⟩
   ·exact .inr ⟨D,v,B,by omega⟩
  have e:(⟨14,u,0,0,0,0,[]⟩:Ac).at a=⟨14,u,0,0,(a.toNat:Nat),0,[]⟩:=by
   simp only[Ac.at];rw[if_neg (by decide),Int.toNat_of_nonneg H.2.1]
  rw[e];exact⟨_,.read u a.toNat I,λ_=>h,λe=>absurd rfl e⟩
def LX (h:Hp):Sy:={dW h 6 with cs:=(dW h 6).cs++[⟨[vX],5,iR 5,fV 5,[],List.replicate h.aP (-1)⟩]}
def LY (h:Hp):Sy:={LX h with cs:=(LX h).cs.set 1 ⟨[[107,50],kK],2,iR 2,fV 2,[],List.replicate h.aP (-1)⟩}
theorem DU (h:Hp):(dW h 6).create vX 5=aK (LX h):=rfl
theorem DV (h:Hp):(LX h).create kK 2=aK (LY h):=rfl
theorem Jv (h:Hp):(dW h 6).named vX=aJ:=rfl
theorem Jw (h:Hp):(LX h).named kK=aJ:=rfl
theorem LZ (hk:fG h):Ii (dW h 6):=⟨zI hk 6 (gT _),xK (N:=900) rfl,Si h⟩
theorem ZP (hk:fG h):Ii (LX h):=by
 refine⟨((zI hk 6 (gT _)).create (n:=vX) (z:=5) (by decide) (by decide) (Jv h) (DU h)).1,xK (N:=900) rfl,λj a=> ?_⟩;obtain rfl | rfl | rfl | rfl | rfl | rfl:j=0∨j=1∨j=2∨j=3∨j=4∨j=5:=by omega
 all_goals exact⟨_,_,rfl,rfl,gTa.2 rfl,rfl⟩
theorem ZQ (hk:fG h):Ii (LY h):=by
 refine⟨((ZP hk).ok.create (n:=kK) (z:=2) (by decide) (by decide) (Jw h) (DV h)).1,xK (N:=900) rfl,λj a=> ?_⟩;obtain rfl | rfl | rfl | rfl | rfl | rfl:j=0∨j=1∨j=2∨j=3∨j=4∨j=5:=by omega
 all_goals exact⟨_,_,rfl,rfl,List.mem_cons_self ..,rfl⟩
theorem ZR (hk:fG h)(hl:h.live=[]):fK (LY h) []:=by
 have j:∀c∈(LY h).cs,c.sl=[]:=λc f=>by
  have:((LY h).cs.all λc=>c.sl.isEmpty)=true:=rfl;exact List.isEmpty_iff.1 (List.all_eq_true.1 this c f)
 refine⟨ZQ hk,⟨⟨6,_,rfl,rfl,rfl,(show kZ [vX]=false by decide),gTa.2 rfl⟩,⟨1,_,rfl,rfl,rfl,(show kZ [[107,50],kK]=true by decide),List.mem_cons_of_mem _ (gTa.2 rfl)⟩,⟨2,rfl⟩,λi c f q=> ?_⟩,λt p=>(by cases p),List.nodup_nil,λa g m k=> ?_⟩
 ·have:((LY h).cs.all λc=>c.ns.contains vX||kZ c.ns)=true:=by
   have e:((LY h).cs.all λc=>c.ns.contains vX||kZ c.ns)=((LY h).nss.all λl=>l.contains vX||kZ l):=by
    unfold Sy.nss;rw[List.all_map];rfl
   rw[e];show([[[107,49]],[[107,50],kK],[[107,52]],[[107,56]],[[107,49,54]],[[107,51,50]],[vX]].all λl=>l.contains vX||kZ l)=true;decide
  have d:=List.all_eq_true.1 this c (gM f);rw[Bool.or_eq_true]at d;rcases d with d | d
  ·exact absurd (List.contains_iff_mem.1 d) q
  ·exact d
 ·exfalso;cases g with
  | none=>
   obtain⟨b,o,_⟩:=k;have:b∈h.live:=o.1;rw[hl]at this;cases this
  | some i=>
   obtain⟨⟨c,f,x,n,_⟩,_⟩:=k;rw[j c (gM f)]at n;cases n
theorem fK.room {L:List Th}(h:fK s L){x:Th}(hx:x∈L):0<=x.a/\1<=x.z/\x.a+x.z<=4096:=by
 obtain⟨m,b⟩:=h.th x hx;have:=b.k.pos h.g.ok;have:=b.z;omega
theorem fK.apart {L:List Th}(h:fK s L){x y:Th}(hi:L[i]? =aK x)(hj:L[j]? =aK y)(hne:i≠j):x.a+x.z<=y.a∨y.a+y.z<=x.a:=by
 obtain⟨m,b⟩:=h.th x (gM hi);obtain⟨n,c⟩:=h.th y (gM hj);obtain⟨g,f⟩:=b.k.held;obtain⟨l,d⟩:=c.k.held;have:=h.g.ok.xG f d λe=>hne (Gx h.nd hi hj e)
 have:=b.z;have:=c.z;omega
theorem qH (h:s.named n=aK i):∃c,s.cs[i]? =aK c/\n∈c.ns:=by
 unfold Sy.named at h;obtain⟨a,b,_⟩:=List.findIdx?_eq_some_iff_getElem.1 h;exact⟨_,gJ a,List.contains_iff_mem.1 b⟩
theorem fK.found {L:List Th}(h:fK s L){x:Th}(hx:x∈L):(x.k=5->∃i k c,s.pG x.a=aK (i,k)/\s.cs[i]? =aK c/\x.n∈c.ns)/\(x.k=1->s.pG x.a=aJ):=by
 have o:=h.g.ok;obtain⟨m,t⟩:=h.th x hx;obtain⟨a,z,k,n,w,b⟩:=x;have d:=t.k;simp only at d ⊢;cases d with
 | num hz=>exact⟨λe=>(by cases e),λe=>(by cases e)⟩
 | WG hh=>
  refine⟨λe=>(by cases e),λ_=>zG λi k p=> ?_⟩;obtain⟨v,j,f,_⟩:=hh;rw[f]at p;exact o.nK j i k p
 | obj i n j f h3=>
  refine⟨λ_=> ?_,λe=>(by cases e)⟩;obtain⟨q,l⟩:=eH.1 f.1;obtain⟨c,r,u⟩:=qH j;exact⟨i,q,c,o.zF l,r,u⟩
inductive Run (P:Sy->Ac->Sy×An->Prop)(e:Sy):Sy->List Ac->List An->Prop where
 |nil:Run P e e [] []
 |cons {s t:Sy} {l:List Ac} {m:List An} {c:Ac} {x:An} (hd:P s c (t,x)) (hg:Ii s) (h:Run P e t l m):Run P e s (c::l) (x::m)
theorem Run.len {P:Sy->Ac->Sy×An->Prop}{e:Sy}{l:List Ac}{m:List An}(h:Run P e s l m):l.length=m.length:=by
 induction h with
 | nil=>rfl
 | cons _ _ _ ih=>simp[ih]
theorem Run.snoc {P:Sy->Ac->Sy×An->Prop}{u:Sy}{l:List Ac}{m:List An}{c:Ac}{x:An}(h:Run P t s l m)(hd:P t c (u,x))(hg:Ii t):Run P u s (l++[c]) (m++[x]):=by
 induction h with
 | nil=>exact .cons hd hg .nil
 | cons h1 h2 _ ih=>exact .cons h1 h2 ih
theorem Run.step {P:Sy->Ac->Sy×An->Prop}{e:Sy}{l:List Ac}{m:List An}(hj:j<l.length)(hm:j<m.length)(h:Run P e s (l.drop j) (m.drop j)):∃t,P s l[j] (t,m[j])/\Ii s/\Run P e t (l.drop (j+1)) (m.drop (j+1)):=by
 rw[List.drop_eq_getElem_cons hj,List.drop_eq_getElem_cons hm]at h;cases h with
 | cons hd hg h=>exact⟨_,hd,hg,h⟩
theorem Run.done {P:Sy->Ac->Sy×An->Prop}{e:Sy}(h:Run P e s [] []):s=e:=by
 cases h;rfl
structure Qj (h:Hp)(j:Nat)(s:Sy)(L:List Th)(acts:List Ac)(tells:List An):Prop where
 r:Run Dn s (dW h 6) acts tells
 g:Ii s
 cp:s.h.aP=h.aP
 i0:j=0->s=dW h 6/\L=[]
 i1:j=1->s=LX h/\L=[]
 i2:2<=j->fK s L
theorem Dn.aP {c:Ac}{x:An}(h:Dn s c (t,x))(hg:Ii s):t.h.aP=s.h.aP:=by
 have j:=hg.ok;generalize d:(t,x)=r at h;cases h with
 | pages u o f h1 h2 h3 h4=>
  cases g:s.h.alloc u o (mP f) (decide (f/8%2=1)) (decide (f%2=1))with
  | none=>
   rw[g]at d;exact congrArg (λq:Sy×An=>q.1.h.aP) d
  | some q=>
   obtain⟨F,a⟩:=q;rw[g]at d;have y:mP f<3:=by unfold mP;split <;> (try split) <;> omega
   exact(congrArg (λq:Sy×An=>q.1.h.aP) d).trans (j.yD h1 h2 y g).cp
 | give u b h1 h2=>exact(congrArg (λq:Sy×An=>q.1.h.aP) d).trans (j.CO h1 h2).cp
 | ob l h1 h2=>exact(congrArg (λq:Sy×An=>q.1.h.aP) d).trans (congrArg Hp.aP (j.create (by decide) (by decide) h2 h1).2.1)
 | pair l h1 h2=>exact(congrArg (λq:Sy×An=>q.1.h.aP) d).trans (congrArg Hp.aP (j.create (by decide) (by decide) h2 h1).2.1)
 | new u i n h1 h2=>
  obtain⟨c,v,_⟩:=qH h2;cases g:s.one i u with
  | none=>
   rw[g]at d;exact congrArg (λq:Sy×An=>q.1.h.aP) d
  | some q=>
   obtain⟨l,a⟩:=q;rw[g]at d;exact(congrArg (λq:Sy×An=>q.1.h.aP) d).trans (j.Ep v h1 g).cp
 | drop u i k a n h1 h2 h3=>
  obtain⟨c,G,w,E,B⟩:=h3;have g:((a.toNat:Nat):Int)=a:=Int.toNat_of_nonneg (by have:=(kY B.1).1;omega);exact(congrArg (λq:Sy×An=>q.1.h.aP) d).trans (j.Gp (a:=a.toNat) w E (by rw[g];exact B) h1).cp
 | shrink u i n h2=>
  obtain⟨c,v,_⟩:=qH h2;exact(congrArg (λq:Sy×An=>q.1.h.aP) d).trans (j.zK (gK.1 v).1).cp
 | bulk u i m n h1 h2 h3 h4=>
  obtain⟨c,v,_⟩:=qH h2;cases g:s.bulk i u m with
  | none=>
   rw[g]at d;exact congrArg (λq:Sy×An=>q.1.h.aP) d
  | some q=>
   obtain⟨l,a⟩:=q;rw[g]at d;exact(congrArg (λq:Sy×An=>q.1.h.aP) d).trans (j.Gt v h1 g).cp
 | dL u m h1 h3 h4=>
  cases g:s.dL u m with
  | none=>
   rw[g]at d;exact congrArg (λq:Sy×An=>q.1.h.aP) d
  | some q=>
   obtain⟨l,a⟩:=q;rw[g]at d;obtain⟨_,_,p,_⟩:=j.zL hg.sg h1 h3 h4 g;exact(congrArg (λq:Sy×An=>q.1.h.aP) d).trans p.cp
 | jG u a l h1 h2 h3=>
  cases hz:s.iG a with
  | none=>rw[Sv hz]at h2;cases h2
  | some m=>
   obtain⟨C,w,p⟩:=j.CP h1 hz;rw[h2]at w;obtain rfl:=gP w;exact(congrArg (λq:Sy×An=>q.1.h.aP) d).trans p.cp
 | resize u m a h1 h2 h3 h4=>
  cases hz:s.iG a with
  | none=>
   have e:s.fE u a m= .inl 4:=by unfold Sy.fE;rw[hz]
   rw[e]at d;exact congrArg (λq:Sy×An=>q.1.h.aP) d
  | some z=>
   by_cases A:m<=z
   ·have e:s.fE u a m= .inr (s,a):=by unfold Sy.fE;rw[hz];simp only[if_pos A]
    rw[e]at d;exact congrArg (λq:Sy×An=>q.1.h.aP) d
   ·cases g:s.dL u m with
    | none=>
     have e:s.fE u a m= .inl 6:=by unfold Sy.fE;rw[hz];simp only[if_neg A,g]
     rw[e]at d;exact congrArg (λq:Sy×An=>q.1.h.aP) d
    | some q=>
     obtain⟨l,b⟩:=q;obtain⟨_,C,_,_,D,_,p,_⟩:=j.moved hg.sg h1 h2 h3 hz (by omega) g;have e:s.fE u a m= .inr (C,b):=by unfold Sy.fE;rw[hz];simp only[if_neg A,g,D]
     rw[e]at d;exact(congrArg (λq:Sy×An=>q.1.h.aP) d).trans p.cp
 | drain u n=>exact(congrArg (λq:Sy×An=>q.1.h.aP) d).trans j.yE.cp
 | write u a m h2 h3=>exact congrArg (λq:Sy×An=>q.1.h.aP) d
 | read u a h2=>exact congrArg (λq:Sy×An=>q.1.h.aP) d
theorem Qj.start (hk:fG h):Qj h 0 (dW h 6) [] [] []:=⟨.nil,LZ hk,rfl,λ_=>⟨rfl,rfl⟩,λe=>by omega,λe=>by omega⟩
def rV (cp j:Nat)(c:Ac)(f:Int):Prop:=(j=0->c=⟨3,0,5,1,0,0,vX⟩/\f=0)/\(j=1->c=⟨3,0,2,2,0,0,kK⟩/\f=0)/\(2<=j->pJ cp c f)
theorem Qj.skip {L:List Th}{acts:List Ac}{tells:List An}(p:Qj h j s L acts tells){c:Ac}(ha:rV h.aP j c f)(hf:0<f):Qj h (j+1) s L acts tells:=by
 have b:j≠0:=λe=>by have:=(ha.1 e).2;omega
 have a:j≠1:=λe=>by have:=(ha.2.1 e).2;omega
 exact⟨p.r,p.g,p.cp,λe=>by omega,λe=>by omega,λ_=>p.i2 (by omega)⟩
theorem Qj.act (hk:fG h)(hl:h.live=[]){L:List Th}{acts:List Ac}{tells:List An}(p:Qj h j s L acts tells){c c':Ac}(ha:rV h.aP j c f){i:Nat}
 (hi:(f<=0/\c'=c)∨(0<f/\∃x,L[i]? =aK x/\fits c x/\c'=c.at x.a)):∃r,Dn s c' r/\Ii s/\Qj h (j+1) r.1 (if r.2.c=0 then lC L c' r.2 i else L) (acts++[c']) (tells++[r.2]):=by
 by_cases o:j=0
 ·obtain⟨t,z⟩:=ha.1 o;obtain⟨rfl,rfl⟩:=p.i0 o;subst o;rcases hi with ⟨_,rfl⟩ | ⟨k,_⟩
  ·subst t;have b:Dn (dW h 6) ⟨3,0,5,1,0,0,vX⟩ (LX h,⟨0,0,[]⟩):= .ob _ (DU h) (Jv h);exact⟨_,b,p.g,p.r.snoc b p.g,ZP hk,p.cp,λe=>by omega,λ_=>⟨rfl,rfl⟩,λe=>by omega⟩
  ·omega
 ·by_cases k:j=1
  ·obtain⟨t,z⟩:=ha.2.1 k;obtain⟨rfl,rfl⟩:=p.i1 k;subst k;rcases hi with ⟨_,rfl⟩ | ⟨k,_⟩
   ·subst t;have b:Dn (LX h) ⟨3,0,2,2,0,0,kK⟩ (LY h,⟨0,0,[]⟩):= .pair _ (DV h) (Jw h);exact⟨_,b,p.g,p.r.snoc b p.g,ZQ hk,p.cp,λe=>by omega,λe=>by omega,λ_=>ZR hk hl⟩
   ·omega
  ·have u:2<=j:=by omega
   have q:=p.i2 u;have m:=ha.2.2 u;rw[<- p.cp]at m;have B:Stp s L c' i:=by
    rcases hi with ⟨v,rfl⟩ | ⟨v,x,w,D,rfl⟩
    ·have A:f=0:=by
      cases m <;> omega
     subst A;exact ZO q m i
    ·exact Ju q m v w D
   obtain⟨r,b,y,C⟩:=B;have l:Dn s c' (r.1,r.2):=b;have d:fK r.1 (if r.2.c=0 then lC L c' r.2 i else L):=by
    by_cases n:r.2.c=0
    ·rw[if_pos n];exact y n
    ·rw[if_neg n,C n];exact q
   exact⟨r,b,p.g,p.r.snoc l p.g,d.g,(l.aP p.g).trans p.cp,λe=>by omega,λe=>by omega,λ_=>d⟩
def mW (c:Ac):List Value:=[aB aI c.k,aB aI c.u,aB aI c.n,aB aI c.m,aB aI c.p,aB aI c.f,aF ⟨c.s.toArray⟩]
theorem Mc (c:Ac):(mW c).length=7:=rfl
structure Aq where
 x:An
 d:Option Addr
 c:Nat
def Aq.sl (q:Aq):Value:=aA q.d q.x.l.length q.c
def xM (q:Aq):List Value:=[aB aI (q.x.c:Int),aB aI q.x.n,aA q.d q.x.l.length q.c]
def lY (t:Th):List Value:=[aB aI t.a,aB aI t.z,aB aI t.k,aF ⟨t.n.toArray⟩,aB aI t.w,.bool t.b]
theorem iW (t:Th):(lY t).length=6:=rfl
def lX (W:World)(N:Nat->Prop)(qs:List Aq):Prop:=∀q∈qs,W.ownsRow 0 3 1 q.sl q.x.l.length (q.x.l.map vI)/\∀g,q.sl.ownBlock=aK g->¬N g
theorem lX.nil (W:World)(N:Nat->Prop):lX W N []:=λq a=>by cases a
section
variable {W W':World}{N M:Nat->Prop}{qs:List Aq}
theorem lX.sub (h:lX W N qs)(hs:∀k,M k->N k):lX W M qs:=λq a=>⟨(h q a).1,λg c b=>(h q a).2 g c (hs g b)⟩
theorem lX.lt (h:lX W N qs){q:Aq}(hq:q∈qs)(hg:q.sl.ownBlock=aK g):g<W.heap.size:=((h q hq).1.lt g hg).2
theorem lX.below (h:lX W N qs)(hb:Below W.heap.size W W'):lX W' N qs:=λq a=>⟨own_below (h q a).1 hb (gT _),(h q a).2⟩
theorem lX.more (h:lX W N qs)(hm:∀k,M k->N k∨W.heap.size<=k):lX W M qs:=λq a=>⟨(h q a).1,λg c d=>by
 rcases hm g d with b | b
 ·exact(h q a).2 g c b
 ·have:=h.lt a c;omega⟩
theorem lX.set (h:lX W N qs){b:Nat}(hb:N b)(i:Nat)(u:Value):lX (W.setCell ⟨b,i,aJ⟩ u) N qs:=λq a=>⟨bU (h q a).1 (λe=>(h q a).2 b e hb) u,(h q a).2⟩
theorem lX.put7 (h:lX W N qs){T:Nat}(hT:N T)(v:Sc)(s:Sy):lX (((((((W.setCell ⟨T,0,aJ⟩ (aA v.a1 v.n1 v.c1)).setCell ⟨T,1,aJ⟩ (aA v.hc.az 2 v.hc.cz)).setCell ⟨T,2,aJ⟩ (aA v.hc.am 2 v.hc.cm)).setCell ⟨T,3,aJ⟩ (aB aI (s.h.aP:Int))).setCell ⟨T,4,aJ⟩ (aA v.hc.al v.hc.lc.length v.hc.cl)).setCell ⟨T,5,aJ⟩ (aA v.hc.av s.h.live.length v.hc.cv)).setCell ⟨T,6,aJ⟩ (aA v.a2 v.ys.length v.c2)) N qs:=((((((h.set hT 0 _).set hT 1 _).set hT 2 _).set hT 3 _).set hT 4 _).set hT 5 _).set hT 6 _
theorem lX.grown (h:lX W N qs){d:Option Nat}(hg:W.grownBy W' d)(hd:∀g,d=aK g->N g):lX W' N qs:=λq b=>⟨tX (h q b).1 λk c a=>hg.block k a λe=>(h q b).2 k c (hd k (e.symm)),(h q b).2⟩
theorem lX.snoc (h:lX W N qs){q:Aq}(hq:W.ownsRow 0 3 1 q.sl q.x.l.length (q.x.l.map vI))(hn:∀g,q.sl.ownBlock=aK g->¬N g):lX W N (qs++[q]):=λp a=>by
 rcases gZ.1 a with a | a
 ·exact h p a
 ·obtain rfl:=gTa.1 a;exact⟨hq,hn⟩
end
theorem SR.sub {Y:Nat->Prop}(hs:SR W G X s v)(hy:∀k,Y k->X k):SR W G Y s v:=
 ⟨hs.own,λr hr g a=>⟨(hs.og r hr g a).1,λe=>(hs.og r hr g a).2 (hy g e)⟩,hs.hr.sub hy,hs.hd,hs.cy⟩
theorem SR.new {W':World}(hs:SR W G X s v)(hb:Below W.heap.size W W'):SR W' G (λk=>X k∨(W.heap.size<=k/\k<W'.heap.size)) s v:=
 (hs.below hb).more λk b=>by
  rcases b with b | ⟨d,c⟩
  ·refine⟨gI (hs.hr.xs k b) hb.size,hs.QN b,λq a e=> ?_⟩;rcases gZ.1 a with a | a
   ·exact(hs.hr.og q a k e).2 b
   ·exact hs.hr.rx q a k e b
  ·refine⟨c,?_,λq a e=> ?_⟩
   ·rintro(rfl | ⟨r,hr,e⟩)
    ·have:=hs.hr.gs;omega
    ·have:=hs.lt r hr k e;omega
   ·have:=hs.hr.lt q a k e;omega
def Cl (w:World)(s:Sy)(v:Sc)(m:Nat)(w':World)(s':Sy)(v':Sc):Prop:=∀G X,SR w G X s v->SR w' G (λk=>X k∨(w.heap.size<=k/\k<w.heap.size+m)) s' v'
theorem Cl.below {w2:World}(h:Cl w s v m w' s' v')(hb:Below w'.heap.size w' w2):Cl w s v m w2 s' v':=λG X a=>(h G X a).below hb
theorem Cl.same (hb:Below w.heap.size w w')(hm:w.heap.size+m<=w'.heap.size):Cl w s v m w' s v:=λG X b=>(b.new hb).sub λk a=>by
 rcases a with a | a
 ·exact .inl a
 ·exact .inr ⟨a.1,by omega⟩
theorem Cl.new {B:Nat}(hn:iI w' B s' v')(hB:w.heap.size+m<=B):Cl w s v m w' s' v':=λG X hr=>
 SR.lift hn (by have:=hr.hr.gs;omega) (λk a=>by
  rcases a with a | a
  ·have:=hr.hr.xs k a;omega
  ·omega) (λe=>by
  rcases e with e | e
  ·exact hr.hr.xg e
  ·have:=hr.hr.gs;omega)
structure vF (v:Sc)(s:Sy)(r:Sy×An)(w:World)(wc:World):Prop where
 b:Below w.heap.size w wc
 gs:w.heap.size+6<=wc.heap.size
 k0:∀o,wc.cell? ⟨w.heap.size,o,aJ⟩=(v.vals s)[o]?
 k2:∀o,wc.cell? ⟨w.heap.size+2,o,aJ⟩=(#[aA aJ 0 0,aA aJ 0 0,aA aJ 0 0,aB aI 0,aA aJ 0 0,aA aJ 0 0,aA aJ 0 0]:Array Value)[o]?
 f2:∀o,wc.frozen? ⟨w.heap.size+2,o,aJ⟩=false
 k3:∀o,wc.cell? ⟨w.heap.size+3,o,aJ⟩=(#[aB aI 0,aB aI 0,aA aJ 0 0]:Array Value)[o]?
 f3:∀o,wc.frozen? ⟨w.heap.size+3,o,aJ⟩=false
 x:∃(d:Option Addr) (cap:Nat),(∀o,wc.cell? ⟨w.heap.size+5,o,aJ⟩=(#[aB aI (r.2.c:Int),aB aI r.2.n,aA d r.2.l.length cap]:Array Value)[o]?)/\wc.ownsRow (w.heap.size+6) 3 1 (aA d r.2.l.length cap) r.2.l.length (r.2.l.map vI)
 no:r.2.c≠0->r.1=s
 ok:r.2.c=0->∃v':Sc,(∀o,wc.cell? ⟨w.heap.size+4,o,aJ⟩=(v'.vals r.1)[o]?)/\Cl w s v 6 wc r.1 v'
theorem vF.below {r:Sy×An}{wc:World}(h:vF v s r w wc)(hb:Below wc.heap.size wc wd):vF v s r w wd:=by
 have i:=h.gs;refine⟨gW h.b hb,gQ i hb.size,aQ h.k0 (by omega) hb,aQ h.k2 (by omega) hb,aU h.f2 (by omega) hb,aQ h.k3 (by omega) hb,aU h.f3 (by omega) hb,?_,h.no,λe=> ?_⟩
 ·obtain⟨d,f,c,a⟩:=h.x;exact⟨d,f,aQ c (by omega) hb,own_below a hb (gT _)⟩
 ·obtain⟨g,c,a⟩:=h.ok e;exact⟨g,aQ c (by omega) hb,a.below hb⟩
structure eP (v:Sc)(s:Sy)(w W:World)(A4 A5:Array Value):Prop where
 b:Below w.heap.size w W
 gs:w.heap.size+6<=W.heap.size
 k0:∀o,W.cell? ⟨w.heap.size,o,aJ⟩=(v.vals s)[o]?
 k2:∀o,W.cell? ⟨w.heap.size+2,o,aJ⟩=(#[aA aJ 0 0,aA aJ 0 0,aA aJ 0 0,aB aI 0,aA aJ 0 0,aA aJ 0 0,aA aJ 0 0]:Array Value)[o]?
 f2:∀o,W.frozen? ⟨w.heap.size+2,o,aJ⟩=false
 k3:∀o,W.cell? ⟨w.heap.size+3,o,aJ⟩=(#[aB aI 0,aB aI 0,aA aJ 0 0]:Array Value)[o]?
 f3:∀o,W.frozen? ⟨w.heap.size+3,o,aJ⟩=false
 k4:∀o,W.cell? ⟨w.heap.size+4,o,aJ⟩=A4[o]?
 f4:∀o,W.frozen? ⟨w.heap.size+4,o,aJ⟩=false
 k5:∀o,W.cell? ⟨w.heap.size+5,o,aJ⟩=A5[o]?
 f5:∀o,W.frozen? ⟨w.heap.size+5,o,aJ⟩=false
section
variable {v:Sc}{s:Sy}{w W W':World}{A4 A5:Array Value}
theorem eP.below (h:eP v s w W A4 A5)(hb:Below W.heap.size W W'):eP v s w W' A4 A5:=by
 have a:=h.gs;exact⟨gW h.b hb,gQ a hb.size,aQ h.k0 (by omega) hb,aQ h.k2 (by omega) hb,aU h.f2 (by omega) hb,aQ h.k3 (by omega) hb,aU h.f3 (by omega) hb,aQ h.k4 (by omega) hb,aU h.f4 (by omega) hb,aQ h.k5 (by omega) hb,aU h.f5 (by omega) hb⟩
theorem eP.set4 (h:eP v s w W A4 A5)(i:Nat)(u:Value):eP v s w (W.setCell ⟨w.heap.size+4,i,aJ⟩ u) (A4.setIfInBounds i u) A5:=
 ⟨Below.setCell h.b (show w.heap.size<=w.heap.size+4 by omega) u,(by have a:(W.setCell ⟨w.heap.size+4,i,aJ⟩ u).heap.size=W.heap.size:=(by simp);have:=h.gs;omega),aS h.k0 (by omega) i u,aS h.k2 (by omega) i u,aV h.f2 _ u,aS h.k3 (by omega) i u,aV h.f3 _ u,aW h.k4 i u,aV h.f4 _ u,aS h.k5 (by omega) i u,aV h.f5 _ u⟩
theorem eP.set5 (h:eP v s w W A4 A5)(i:Nat)(u:Value):eP v s w (W.setCell ⟨w.heap.size+5,i,aJ⟩ u) A4 (A5.setIfInBounds i u):=
 ⟨Below.setCell h.b (show w.heap.size<=w.heap.size+5 by omega) u,(by have a:(W.setCell ⟨w.heap.size+5,i,aJ⟩ u).heap.size=W.heap.size:=(by simp);have:=h.gs;omega),aS h.k0 (by omega) i u,aS h.k2 (by omega) i u,aV h.f2 _ u,aS h.k3 (by omega) i u,aV h.f3 _ u,aS h.k4 (by omega) i u,aV h.f4 _ u,aW h.k5 i u,aV h.f5 _ u⟩
end
structure PN (v:Sc)(s s':Sy)(v':Sc)(w W:World)(X0 X1 X2:Value)(e:TypeId)(n:Nat)(d:Value)(xs:List Value):Prop where
 k:∀o,W.cell? ⟨w.heap.size+2,o,aJ⟩=(#[aA v'.a1 v'.n1 v'.c1,aA v'.hc.az 2 v'.hc.cz,aA v'.hc.am 2 v'.hc.cm,aB aI (s'.h.aP:Int),aA v'.hc.al v'.hc.lc.length v'.hc.cl,aA v'.hc.av s'.h.live.length v'.hc.cv,aA v'.a2 v'.ys.length v'.c2]:Array Value)[o]?
 y:∀o,W.cell? ⟨w.heap.size+3,o,aJ⟩=(#[X0,X1,X2]:Array Value)[o]?
 c:∀G X,SR w G X s v->SR W G X s' v'
 b:Below w.heap.size w W
 o:W.ownsRow w.heap.size e 1 d n xs
theorem AP {X0 X1 X2:Value}(hb:Below w.heap.size w wd)(hg:w.heap.size+6<=wd.heap.size)(hc:Cl w s v 6 wd s' v'){a0 a1 a2 a3 a4 a5 a6 b0 b1 b2:Value}
 (K2:∀o,wd.cell? ⟨w.heap.size+2,o,aJ⟩=(#[a0,a1,a2,a3,a4,a5,a6]:Array Value)[o]?) (K3:∀o,wd.cell? ⟨w.heap.size+3,o,aJ⟩=(#[b0,b1,b2]:Array Value)[o]?) {e:TypeId} {n:Nat} {d:Value} {xs:List Value} (ho:wd.ownsRow (w.heap.size+6) e 1 d n xs):
 PN v s s' v' w ((((((((((wd.setCell ⟨w.heap.size+2,0,aJ⟩ (aA v'.a1 v'.n1 v'.c1)).setCell ⟨w.heap.size+2,1,aJ⟩ (aA v'.hc.az 2 v'.hc.cz)).setCell ⟨w.heap.size+2,2,aJ⟩ (aA v'.hc.am 2 v'.hc.cm)).setCell ⟨w.heap.size+2,3,aJ⟩ (aB aI (s'.h.aP:Int))).setCell ⟨w.heap.size+2,4,aJ⟩ (aA v'.hc.al v'.hc.lc.length v'.hc.cl)).setCell ⟨w.heap.size+2,5,aJ⟩ (aA v'.hc.av s'.h.live.length v'.hc.cv)).setCell ⟨w.heap.size+2,6,aJ⟩ (aA v'.a2 v'.ys.length v'.c2)).setCell ⟨w.heap.size+3,0,aJ⟩ X0).setCell ⟨w.heap.size+3,1,aJ⟩ X1).setCell ⟨w.heap.size+3,2,aJ⟩ X2).drew X0 X1 X2 e n d xs:=by
 have a:w.heap.size+2≠w.heap.size+3:=by omega
 have l:∀o,(((((((wd.setCell ⟨w.heap.size+2,0,aJ⟩ (aA v'.a1 v'.n1 v'.c1)).setCell ⟨w.heap.size+2,1,aJ⟩ (aA v'.hc.az 2 v'.hc.cz)).setCell ⟨w.heap.size+2,2,aJ⟩ (aA v'.hc.am 2 v'.hc.cm)).setCell ⟨w.heap.size+2,3,aJ⟩ (aB aI (s'.h.aP:Int))).setCell ⟨w.heap.size+2,4,aJ⟩ (aA v'.hc.al v'.hc.lc.length v'.hc.cl)).setCell ⟨w.heap.size+2,5,aJ⟩ (aA v'.hc.av s'.h.live.length v'.hc.cv)).setCell ⟨w.heap.size+2,6,aJ⟩ (aA v'.a2 v'.ys.length v'.c2)).cell? ⟨w.heap.size+3,o,aJ⟩=(#[b0,b1,b2]:Array Value)[o]? :=mX K3 a.symm v' s';have j:=aW (aW (aW l 0 X0) 1 X1) 2 X2;simp only[gE,gG,gH]at j;have q:=aS (aS (aS (qU K2 v' s') a 0 X0) a 1 X1) a 2 X2;have r:∀G X,SR w G X s v->SR ((((((((((wd.setCell ⟨w.heap.size+2,0,aJ⟩ (aA v'.a1 v'.n1 v'.c1)).setCell ⟨w.heap.size+2,1,aJ⟩ (aA v'.hc.az 2 v'.hc.cz)).setCell ⟨w.heap.size+2,2,aJ⟩ (aA v'.hc.am 2 v'.hc.cm)).setCell ⟨w.heap.size+2,3,aJ⟩ (aB aI (s'.h.aP:Int))).setCell ⟨w.heap.size+2,4,aJ⟩ (aA v'.hc.al v'.hc.lc.length v'.hc.cl)).setCell ⟨w.heap.size+2,5,aJ⟩ (aA v'.hc.av s'.h.live.length v'.hc.cv)).setCell ⟨w.heap.size+2,6,aJ⟩ (aA v'.a2 v'.ys.length v'.c2)).setCell ⟨w.heap.size+3,0,aJ⟩ X0).setCell ⟨w.heap.size+3,1,aJ⟩ X1).setCell ⟨w.heap.size+3,2,aJ⟩ X2) G X s' v':=λG X g=>by
  have p:=hc G X g;have b:X (w.heap.size+3)∨(w.heap.size<=w.heap.size+3/\w.heap.size+3<w.heap.size+6):= .inr (by omega);exact((((p.put7 (T:=w.heap.size+2) (.inr (by omega)) v' s').dQ b 0 X0).dQ b 1 X1).dQ b 2 X2).sub λk m=> .inl m
 have u:Below w.heap.size w ((((((((((wd.setCell ⟨w.heap.size+2,0,aJ⟩ (aA v'.a1 v'.n1 v'.c1)).setCell ⟨w.heap.size+2,1,aJ⟩ (aA v'.hc.az 2 v'.hc.cz)).setCell ⟨w.heap.size+2,2,aJ⟩ (aA v'.hc.am 2 v'.hc.cm)).setCell ⟨w.heap.size+2,3,aJ⟩ (aB aI (s'.h.aP:Int))).setCell ⟨w.heap.size+2,4,aJ⟩ (aA v'.hc.al v'.hc.lc.length v'.hc.cl)).setCell ⟨w.heap.size+2,5,aJ⟩ (aA v'.hc.av s'.h.live.length v'.hc.cv)).setCell ⟨w.heap.size+2,6,aJ⟩ (aA v'.a2 v'.ys.length v'.c2)).setCell ⟨w.heap.size+3,0,aJ⟩ X0).setCell ⟨w.heap.size+3,1,aJ⟩ X1).setCell ⟨w.heap.size+3,2,aJ⟩ X2):=Below.setCell (Below.setCell (Below.setCell (dX hb (by omega) v' s') (show w.heap.size<=(⟨w.heap.size+3,0,aJ⟩:Addr).block from by show w.heap.size<=w.heap.size+3;omega) X0) (show w.heap.size<=(⟨w.heap.size+3,1,aJ⟩:Addr).block from by show w.heap.size<=w.heap.size+3;omega) X1) (show w.heap.size<=(⟨w.heap.size+3,2,aJ⟩:Addr).block from by show w.heap.size<=w.heap.size+3;omega) X2;have x:d.ownBlock≠aK (w.heap.size+2):=λe=>by have:=(ho.lt _ e).1;omega
 have f:d.ownBlock≠aK (w.heap.size+3):=λe=>by have:=(ho.lt _ e).1;omega
 have t:(((((((((((wd.setCell ⟨w.heap.size+2,0,aJ⟩ (aA v'.a1 v'.n1 v'.c1)).setCell ⟨w.heap.size+2,1,aJ⟩ (aA v'.hc.az 2 v'.hc.cz)).setCell ⟨w.heap.size+2,2,aJ⟩ (aA v'.hc.am 2 v'.hc.cm)).setCell ⟨w.heap.size+2,3,aJ⟩ (aB aI (s'.h.aP:Int))).setCell ⟨w.heap.size+2,4,aJ⟩ (aA v'.hc.al v'.hc.lc.length v'.hc.cl)).setCell ⟨w.heap.size+2,5,aJ⟩ (aA v'.hc.av s'.h.live.length v'.hc.cv)).setCell ⟨w.heap.size+2,6,aJ⟩ (aA v'.a2 v'.ys.length v'.c2)).setCell ⟨w.heap.size+3,0,aJ⟩ X0).setCell ⟨w.heap.size+3,1,aJ⟩ X1).setCell ⟨w.heap.size+3,2,aJ⟩ X2)).ownsRow w.heap.size e 1 d n xs:=own_base (bU (bU (bU (uH ho x v' s') f X0) f X1) f X2) (show w.heap.size<=w.heap.size+6 by omega);have y:w.heap.size+6<=(((((((((((wd.setCell ⟨w.heap.size+2,0,aJ⟩ (aA v'.a1 v'.n1 v'.c1)).setCell ⟨w.heap.size+2,1,aJ⟩ (aA v'.hc.az 2 v'.hc.cz)).setCell ⟨w.heap.size+2,2,aJ⟩ (aA v'.hc.am 2 v'.hc.cm)).setCell ⟨w.heap.size+2,3,aJ⟩ (aB aI (s'.h.aP:Int))).setCell ⟨w.heap.size+2,4,aJ⟩ (aA v'.hc.al v'.hc.lc.length v'.hc.cl)).setCell ⟨w.heap.size+2,5,aJ⟩ (aA v'.hc.av s'.h.live.length v'.hc.cv)).setCell ⟨w.heap.size+2,6,aJ⟩ (aA v'.a2 v'.ys.length v'.c2)).setCell ⟨w.heap.size+3,0,aJ⟩ X0).setCell ⟨w.heap.size+3,1,aJ⟩ X1).setCell ⟨w.heap.size+3,2,aJ⟩ X2)).heap.size:=by
  have z:(((((((((((wd.setCell ⟨w.heap.size+2,0,aJ⟩ (aA v'.a1 v'.n1 v'.c1)).setCell ⟨w.heap.size+2,1,aJ⟩ (aA v'.hc.az 2 v'.hc.cz)).setCell ⟨w.heap.size+2,2,aJ⟩ (aA v'.hc.am 2 v'.hc.cm)).setCell ⟨w.heap.size+2,3,aJ⟩ (aB aI (s'.h.aP:Int))).setCell ⟨w.heap.size+2,4,aJ⟩ (aA v'.hc.al v'.hc.lc.length v'.hc.cl)).setCell ⟨w.heap.size+2,5,aJ⟩ (aA v'.hc.av s'.h.live.length v'.hc.cv)).setCell ⟨w.heap.size+2,6,aJ⟩ (aA v'.a2 v'.ys.length v'.c2)).setCell ⟨w.heap.size+3,0,aJ⟩ X0).setCell ⟨w.heap.size+3,1,aJ⟩ X1).setCell ⟨w.heap.size+3,2,aJ⟩ X2)).heap.size=wd.heap.size:=by simp
  omega
 generalize ((((((((((wd.setCell _ _).setCell _ _).setCell _ _).setCell _ _).setCell _ _).setCell _ _).setCell _ _).setCell _ _).setCell _ _).setCell _ _)=i at*;have c:=(gX i.heap.size i).drew;exact⟨aQ q (by omega) c,aQ j (by omega) c,λG X g=>(r G X g).below c,gW u c,own_below t c (gT _)⟩
section
variable {v:Sc}{s:Sy}{w W W':World}{A4 A5:Array Value}
theorem eP.put4 (h:eP v s w W #[a0,a1,a2,a3,a4,a5,a6] A5)(v':Sc)(s':Sy):eP v s w (((((((W.setCell ⟨w.heap.size+4,0,aJ⟩ (aA v'.a1 v'.n1 v'.c1)).setCell ⟨w.heap.size+4,1,aJ⟩ (aA v'.hc.az 2 v'.hc.cz)).setCell ⟨w.heap.size+4,2,aJ⟩ (aA v'.hc.am 2 v'.hc.cm)).setCell ⟨w.heap.size+4,3,aJ⟩ (aB aI (s'.h.aP:Int))).setCell ⟨w.heap.size+4,4,aJ⟩ (aA v'.hc.al v'.hc.lc.length v'.hc.cl)).setCell ⟨w.heap.size+4,5,aJ⟩ (aA v'.hc.av s'.h.live.length v'.hc.cv)).setCell ⟨w.heap.size+4,6,aJ⟩ (aA v'.a2 v'.ys.length v'.c2)) #[aA v'.a1 v'.n1 v'.c1,aA v'.hc.az 2 v'.hc.cz,aA v'.hc.am 2 v'.hc.cm,aB aI (s'.h.aP:Int),aA v'.hc.al v'.hc.lc.length v'.hc.cl,aA v'.hc.av s'.h.live.length v'.hc.cv,aA v'.a2 v'.ys.length v'.c2] A5:=by
 have a:=((((((h.set4 0 (aA v'.a1 v'.n1 v'.c1)).set4 1 (aA v'.hc.az 2 v'.hc.cz)).set4 2 (aA v'.hc.am 2 v'.hc.cm)).set4 3 (aB aI (s'.h.aP:Int))).set4 4 (aA v'.hc.al v'.hc.lc.length v'.hc.cl)).set4 5 (aA v'.hc.av s'.h.live.length v'.hc.cv)).set4 6 (aA v'.a2 v'.ys.length v'.c2);simpa only[gE,gG,gH]using a
theorem eP.putz4 (h:eP v s w W #[a0,a1,a2,a3,a4,a5,a6] A5):eP v s w (((((((W.setCell ⟨w.heap.size+4,0,aJ⟩ (aA aJ 0 0)).setCell ⟨w.heap.size+4,1,aJ⟩ (aA aJ 0 0)).setCell ⟨w.heap.size+4,2,aJ⟩ (aA aJ 0 0)).setCell ⟨w.heap.size+4,3,aJ⟩ (aB aI 0)).setCell ⟨w.heap.size+4,4,aJ⟩ (aA aJ 0 0)).setCell ⟨w.heap.size+4,5,aJ⟩ (aA aJ 0 0)).setCell ⟨w.heap.size+4,6,aJ⟩ (aA aJ 0 0)) #[aA aJ 0 0,aA aJ 0 0,aA aJ 0 0,aB aI 0,aA aJ 0 0,aA aJ 0 0,aA aJ 0 0] A5:=by
 have a:=((((((h.set4 0 (aA aJ 0 0)).set4 1 (aA aJ 0 0)).set4 2 (aA aJ 0 0)).set4 3 (aB aI 0)).set4 4 (aA aJ 0 0)).set4 5 (aA aJ 0 0)).set4 6 (aA aJ 0 0);simpa only[gE,gG,gH]using a
theorem eP.puth4 (h:eP v s w W #[a0,a1,a2,a3,a4,a5,a6] A5)(b1 b2 b3 b4 b5:Value):eP v s w (((((W.setCell ⟨w.heap.size+4,1,aJ⟩ b1).setCell ⟨w.heap.size+4,2,aJ⟩ b2).setCell ⟨w.heap.size+4,3,aJ⟩ b3).setCell ⟨w.heap.size+4,4,aJ⟩ b4).setCell ⟨w.heap.size+4,5,aJ⟩ b5) #[a0,b1,b2,b3,b4,b5,a6] A5:=by
 have a:=((((h.set4 1 b1).set4 2 b2).set4 3 b3).set4 4 b4).set4 5 b5;simpa only[gE,gG,gH]using a
theorem eP.num5 (h:eP v s w W A4 #[x0,x1,x2])(n c:Value):eP v s w ((W.setCell ⟨w.heap.size+5,1,aJ⟩ n).setCell ⟨w.heap.size+5,0,aJ⟩ c) A4 #[c,n,x2]:=by
 have a:=(h.set5 1 n).set5 0 c;simpa only[gE,gG,gH]using a
theorem eP.code5 (h:eP v s w W A4 #[x0,x1,x2])(c:Value):eP v s w (W.setCell ⟨w.heap.size+5,0,aJ⟩ c) A4 #[c,x1,x2]:=by
 have a:=h.set5 0 c;simpa only[gE,gG,gH]using a
theorem eP.list5 (h:eP v s w W A4 #[x0,x1,x2])(l c:Value):eP v s w ((W.setCell ⟨w.heap.size+5,2,aJ⟩ l).setCell ⟨w.heap.size+5,0,aJ⟩ c) A4 #[c,x1,l]:=by
 have a:=(h.set5 2 l).set5 0 c;simpa only[gE,gG,gH]using a
theorem eP.numAt5 (h:eP v s w W A4 #[x0,x1,x2])(n:Value):eP v s w (W.setCell ⟨w.heap.size+5,1,aJ⟩ n) A4 #[x0,n,x2]:=by
 have a:=h.set5 1 n;simpa only[gE,gG,gH]using a
theorem eP.far (h:eP v s w W A4 A5)(hg:w.heap.size+6<=g)(i:Nat)(u:Value):eP v s w (W.setCell ⟨g,i,aJ⟩ u) A4 A5:=
 ⟨Below.setCell h.b (show w.heap.size<=g by omega) u,(by have a:(W.setCell ⟨g,i,aJ⟩ u).heap.size=W.heap.size:=(by simp);have:=h.gs;omega),aS h.k0 (by omega) i u,aS h.k2 (by omega) i u,aV h.f2 _ u,aS h.k3 (by omega) i u,aV h.f3 _ u,aS h.k4 (by omega) i u,aV h.f4 _ u,aS h.k5 (by omega) i u,aV h.f5 _ u⟩
variable {s':Sy}{v':Sc}
theorem SR.setW (hs:SR W G X s v)(hg:v.a1=aK ⟨g,0,aJ⟩)(a:Nat)(u:Int):SR (W.setCell ⟨g,a,aJ⟩ (vI u)) G X {s with w:=s.w.set a u} v:=by
 have hb:(vS v s).v.ownBlock=aK g:=by unfold vS;rw[hg];rfl
 have k:=hs.own.cell (i:=0) (by simp[Sc.rows]) (g:=g) (c:=v.c1) (by show(vS v s).v=_;unfold vS;rw[hg];rfl) a (vI u) rfl;have e:({vS v s with xs:=(vS v s).xs.set a (vI u)}:Rs)=vS v {s with w:=s.w.set a u}:=by
  unfold vS;simp only[List.map_set]
 have k2:dY (W.setCell ⟨g,a,aJ⟩ (vI u)) 0 (v.rows {s with w:=s.w.set a u}):=by
  have f:v.rows {s with w:=s.w.set a u}=vS v {s with w:=s.w.set a u}::oD v::v.ys.flatMap iU:=rfl;rw[f,<- e];exact k
 exact hs.step (s':={s with w:=s.w.set a u}) (v':=v) (hs.Ej (pY v s) hb a (vI u)) rfl rfl k2 (λr b h d=> .inl (by
  rcases gY.1 b with rfl | b
  ·exact⟨vS v s,pY v s,d⟩
  ·exact⟨r,List.mem_cons_of_mem _ b,d⟩)) hs.cy
theorem PO {u:Nat}(h:s.fE u a m= .inl e):e=4∨e=6:=by
 unfold Sy.fE at h;split at h
 ·exact .inl (Sum.inl.inj h).symm
 ·split at h
  ·cases h
  ·split at h
   ·exact .inr (Sum.inl.inj h).symm
   ·split at h
    ·exact .inl (Sum.inl.inj h).symm
    ·cases h
theorem Cl.set (h:Cl w s v 6 W s' v')(k i:Nat)(u:Value)(hk:k<6):Cl w s v 6 (W.setCell ⟨w.heap.size+k,i,aJ⟩ u) s' v':=λG X a=>(h G X a).dQ (.inr ⟨by omega,by omega⟩) i u
theorem Cl.put4 (h:Cl w s v 6 W s' v')(v2:Sc)(s2:Sy):Cl w s v 6 (((((((W.setCell ⟨w.heap.size+4,0,aJ⟩ (aA v2.a1 v2.n1 v2.c1)).setCell ⟨w.heap.size+4,1,aJ⟩ (aA v2.hc.az 2 v2.hc.cz)).setCell ⟨w.heap.size+4,2,aJ⟩ (aA v2.hc.am 2 v2.hc.cm)).setCell ⟨w.heap.size+4,3,aJ⟩ (aB aI (s2.h.aP:Int))).setCell ⟨w.heap.size+4,4,aJ⟩ (aA v2.hc.al v2.hc.lc.length v2.hc.cl)).setCell ⟨w.heap.size+4,5,aJ⟩ (aA v2.hc.av s2.h.live.length v2.hc.cv)).setCell ⟨w.heap.size+4,6,aJ⟩ (aA v2.a2 v2.ys.length v2.c2)) s' v':=λG X a=>(h G X a).put7 (.inr ⟨by omega,by omega⟩) v2 s2
theorem Cl.puth4 (h:Cl w s v 6 W s' v')(b1 b2 b3 b4 b5:Value):Cl w s v 6 (((((W.setCell ⟨w.heap.size+4,1,aJ⟩ b1).setCell ⟨w.heap.size+4,2,aJ⟩ b2).setCell ⟨w.heap.size+4,3,aJ⟩ b3).setCell ⟨w.heap.size+4,4,aJ⟩ b4).setCell ⟨w.heap.size+4,5,aJ⟩ b5) s' v':=((((h.set 4 1 b1 (by decide)).set 4 2 b2 (by decide)).set 4 3 b3 (by decide)).set 4 4 b4 (by decide)).set 4 5 b5 (by decide)
theorem Cl.heap {w1:World}(hb:Below w.heap.size w w1)(hz:w.heap.size+6<=w1.heap.size)(hb2:Below w1.heap.size w1 W)(hn:lN W w1.heap.size h' c'):Cl w s v 6 W {s with h:=h'} {v with hc:=c'}:=λG X b=>
 SR.heap ((b.new hb).sub λk a=>by
  rcases a with a | a
  ·exact .inl a
  ·exact .inr ⟨a.1,by omega⟩) hb2 hn
theorem eP.done {r:Sy×An}{n:Int}(h:eP v s w W #[aA v'.a1 v'.n1 v'.c1,aA v'.hc.az 2 v'.hc.cz,aA v'.hc.am 2 v'.hc.cm,aB aI (s'.h.aP:Int),aA v'.hc.al v'.hc.lc.length v'.hc.cl,aA v'.hc.av s'.h.live.length v'.hc.cv,aA v'.a2 v'.ys.length v'.c2] #[aB aI 0,aB aI n,aA aJ 0 0])(hc:Cl w s v 6 W s' v')(hr:r=(s',⟨0,n,[]⟩)):vF v s r w W:=by
 subst hr;exact⟨h.b,h.gs,h.k0,h.k2,h.f2,h.k3,h.f3,⟨aJ,0,h.k5,World.ownsRow_nil _ _ _ _⟩,λe=>absurd rfl e,λ_=>⟨v',h.k4,hc⟩⟩
theorem eP.Ug {r:Sy×An}{n:Int}(h:eP v s w W #[aA v.a1 v.n1 v.c1,aA c'.az 2 c'.cz,aA c'.am 2 c'.cm,aB aI (h'.aP:Int),aA c'.al c'.lc.length c'.cl,aA c'.av h'.live.length c'.cv,aA v.a2 v.ys.length v.c2] #[aB aI 0,aB aI n,aA aJ 0 0])(hc:Cl w s v 6 W {s with h:=h'} {v with hc:=c'})(hr:r=({s with h:=h'},⟨0,n,[]⟩)):vF v s r w W:=eP.done (s':={s with h:=h'}) (v':={v with hc:=c'}) h hc hr
theorem eP.Jy {r:Sy×An}{n:Int}(h:eP v s w W A4 #[aB aI (e:Int),aB aI n,aA aJ 0 0])(he:e≠0)(hr:r=(s,⟨e,n,[]⟩)):vF v s r w W:=by
 subst hr;exact⟨h.b,h.gs,h.k0,h.k2,h.f2,h.k3,h.f3,⟨aJ,0,h.k5,World.ownsRow_nil _ _ _ _⟩,λ_=>rfl,λa=>absurd a he⟩
theorem eP.aHU {r:Sy×An}{l:List Int}{cap:Nat}(h:eP v s w W #[aA v'.a1 v'.n1 v'.c1,aA v'.hc.az 2 v'.hc.cz,aA v'.hc.am 2 v'.hc.cm,aB aI (s'.h.aP:Int),aA v'.hc.al v'.hc.lc.length v'.hc.cl,aA v'.hc.av s'.h.live.length v'.hc.cv,aA v'.a2 v'.ys.length v'.c2] #[aB aI 0,aB aI 0,aA d l.length cap])(hc:Cl w s v 6 W s' v')(ho:W.ownsRow (w.heap.size+6) 3 1 (aA d l.length cap) l.length (l.map vI))(hr:r=(s',⟨0,0,l⟩)):vF v s r w W:=by
 subst hr;exact⟨h.b,h.gs,h.k0,h.k2,h.f2,h.k3,h.f3,⟨d,cap,h.k5,ho⟩,λe=>absurd rfl e,λ_=>⟨v',h.k4,hc⟩⟩
end
section
variable {p:Program}{f:FuncId}{args:Array Value}{w:World}
def ZT (s':Sy)(w:World)(ev:Ending)(w':World):Prop:=∃a,ev=aN (aG #[aC #[aA a.a1 a.n1 a.c1,aA a.hc.az 2 a.hc.cz,aA a.hc.am 2 a.hc.cm,aB aI (s'.h.aP:Int),aA a.hc.al a.hc.lc.length a.hc.cl,aA a.hc.av s'.h.live.length a.hc.cv,aA a.a2 a.ys.length a.c2],aB aI 0])/\iI w' w.heap.size s' a/\Below w.heap.size w w'
def aHV (s':Sy)(n:Int)(w:World)(ev:Ending)(w':World):Prop:=∃a,ev=aN (aG #[aC #[aA a.a1 a.n1 a.c1,aA a.hc.az 2 a.hc.cz,aA a.hc.am 2 a.hc.cm,aB aI (s'.h.aP:Int),aA a.hc.al a.hc.lc.length a.hc.cl,aA a.hc.av s'.h.live.length a.hc.cv,aA a.a2 a.ys.length a.c2],aB aI n,aB aI 0])/\iI w' w.heap.size s' a/\Below w.heap.size w w'
def aHW (e:Nat)(w:World)(ev:Ending)(w':World):Prop:=ev=aN (aG #[aC #[aA aJ 0 0,aA aJ 0 0,aA aJ 0 0,aB aI 0,aA aJ 0 0,aA aJ 0 0,aA aJ 0 0],aB aI 0,aB aI (e:Int)])/\Below w.heap.size w w'
theorem DW (h:Calls p f args w (zH aJ w)):Calls p f args w (aHW 6 w):=h.mono λc d h=>by
 rcases h with ⟨_,a,b⟩ | ⟨_,_,_,a,_⟩
 ·exact⟨a,b⟩
 ·cases a
theorem DX (h:Calls p f args w (zH (aK (t,a)) w)):Calls p f args w (aHV t a w):=h.mono λi k h=>by
 rcases h with ⟨b,_⟩ | ⟨j,l,c,b,d,g⟩
 ·cases b
 ·have e:=gP b;rw[Prod.mk.injEq]at e;obtain⟨rfl,rfl⟩:=e;exact⟨c,d,g⟩
theorem PS (h:Calls p f args w (LW (.inl e) w)):Calls p f args w (aHW e w):=h.mono λd g h=>by
 rcases h with ⟨i,a,b,c⟩ | ⟨_,_,_,a,_⟩
 ·obtain rfl:=Sum.inl.inj a;exact⟨b,c⟩
 ·cases a
theorem SE (h:Calls p f args w (LW (.inr (t,a)) w)):Calls p f args w (aHV t a w):=h.mono λi k h=>by
 rcases h with ⟨_,b,_⟩ | ⟨j,l,c,b,d,g⟩
 ·cases b
 ·have e:=Sum.inr.inj b;rw[Prod.mk.injEq]at e;obtain⟨rfl,rfl⟩:=e;exact⟨c,d,g⟩
theorem PU (h:Calls p f args w (ZK (aK t) w)):Calls p f args w (ZT t w):=h.mono λe i h=>by
 rcases h with ⟨a,_⟩ | ⟨g,b,a,c,d⟩
 ·cases a
 ·obtain rfl:=gP a;exact⟨b,c,d⟩
end
theorem eP.cells (h:eP v s w W #[a0,a1,a2,a3,a4,a5,a6] #[x0,x1,x2]):
 W.cell? ⟨w.heap.size+4,0,aJ⟩=aK a0/\W.cell? ⟨w.heap.size+4,1,aJ⟩=aK a1/\W.cell? ⟨w.heap.size+4,2,aJ⟩=aK a2/\W.cell? ⟨w.heap.size+4,3,aJ⟩=aK a3/\W.cell? ⟨w.heap.size+4,4,aJ⟩=aK a4/\W.cell? ⟨w.heap.size+4,5,aJ⟩=aK a5/\W.cell? ⟨w.heap.size+4,6,aJ⟩=aK a6/\
 W.frozen? ⟨w.heap.size+4,0,aJ⟩=false/\W.frozen? ⟨w.heap.size+4,1,aJ⟩=false/\W.frozen? ⟨w.heap.size+4,2,aJ⟩=false/\W.frozen? ⟨w.heap.size+4,3,aJ⟩=false/\W.frozen? ⟨w.heap.size+4,4,aJ⟩=false/\W.frozen? ⟨w.heap.size+4,5,aJ⟩=false/\W.frozen? ⟨w.heap.size+4,6,aJ⟩=false/\
 W.cell? ⟨w.heap.size+5,0,aJ⟩=aK x0/\W.cell? ⟨w.heap.size+5,1,aJ⟩=aK x1/\W.cell? ⟨w.heap.size+5,2,aJ⟩=aK x2/\W.frozen? ⟨w.heap.size+5,0,aJ⟩=false/\W.frozen? ⟨w.heap.size+5,1,aJ⟩=false/\W.frozen? ⟨w.heap.size+5,2,aJ⟩=false:=
 ⟨h.k4 0,h.k4 1,h.k4 2,h.k4 3,h.k4 4,h.k4 5,h.k4 6,h.f4 0,h.f4 1,h.f4 2,h.f4 3,h.f4 4,h.f4 5,h.f4 6,h.k5 0,h.k5 1,h.k5 2,h.f5 0,h.f5 1,h.f5 2⟩
section
attribute [local go_sem ↓] jP
theorem yF:(prog.info? 52).map (λi=>(i.zero,i.size,i.bytes))=aK (aK (aC #[aB aI 0,aB aI 0,aB aI 0,aF ⟨#[]⟩,aB aI 0,.bool false]),6,56):=by kernel_rfl
theorem aDP:Hu lY 45 52 6 56 (aC #[aB aI 0,aB aI 0,aB aI 0,aF ⟨#[]⟩,aB aI 0,.bool false]):=⟨iW,by decide,underlying45,yF,by decide,rfl,λx=>by simp[lY,Value.oneCell'],by simp[Value.cells,Value.oneCell'],Tryz.sizeOf52⟩
theorem WI (base:Nat)(a:Option Addr)(n c:Nat)(l:List (Th))(i:Nat)(w:World)(hown:w.ownsRow base 52 6 (aA a n c) n (flat lY l))(hi:i<n)(hn:n<=100000)(hbase:base<=w.heap.size):
 Calls prog 113 #[aA a n c,aB aI i,aB aI (i+1)] w λev w'=>ev=aN (aA a (n-1) c)/\w'.ownsRow base 52 6 (aA a (n-1) c) (n-1) (flat lY (l.eraseIdx i))/\w.grownBy w' (gTh (aA a n c)):=by
 obtain⟨f,x,o,b,g,d,e⟩:=aDP.del hown hi;have h:=eU hown;have r:(i:Int)<=n:=by omega
 have m:0<=(i:Int)+1:=by omega
 have p:((i:Int)+1).toNat=i+1:=by omega
 have k:(i:Int)+1<=n:=by omega
 have v:(i:Int)<=c:=by omega
 have q:(i:Int)+1<=c:=by omega
 have u:(n:Int)<=c:=by omega
 have t:(n:Int)-1<=n:=by omega
 have y:((n-1:Nat):Int)<=n:=by omega
 have s:n-(n-1)=1:=by omega
 clear hown;go_enter func113,ntmps113
 go_wp2_with fail
 go_still_tail 6,(by kernel_rfl)
 change wpList _ _ _ _ _ w.drew;generalize w.drew=j at*;refine lJ rfl _ _ 45 45 rfl _ _ rfl rfl b ?_;go_wp2
 go_ret
 exact⟨rfl,d.out,e.out⟩
end
structure Pl where
 a:Option Addr
 c:Nat
def PV (l:List Ac)(p:Pl):Rs:=⟨70,7,aA p.a l.length p.c,l.length,flat mW l⟩
def PW (l:List Aq)(p:Pl):Rs:=⟨72,3,aA p.a l.length p.c,l.length,flat xM l⟩
def pU (l:List Th)(p:Pl):Rs:=⟨52,6,aA p.a l.length p.c,l.length,flat lY l⟩
structure fF (W:World)(G N0:Nat)(s:Sy)(v:Sc)(rs:List Rs)(qs:List Aq):Prop where
 r:SR W G (λk=>k<N0∨∃r∈rs,r.v.ownBlock=aK k) s v
 k:∀o,W.cell? ⟨G,o,aJ⟩=(([aA v.a1 v.n1 v.c1,aA v.hc.az 2 v.hc.cz,aA v.hc.am 2 v.hc.cm,aB aI (s.h.aP:Int),aA v.hc.al v.hc.lc.length v.hc.cl,aA v.hc.av s.h.live.length v.hc.cv,aA v.a2 v.ys.length v.c2]:List Value)++rs.map (·.v)).toArray[o]?
 fz:∀o,W.frozen? ⟨G,o,aJ⟩=false
 o:dY W 0 rs
 og:∀r∈rs,∀g,r.v.ownBlock=aK g->g≠G/\N0<=g
 li:lX W (λk=>k=G∨∃r∈rs,r.v.ownBlock=aK k) qs
section
variable {W W':World}{G N0:Nat}{s s':Sy}{v v':Sc}{rs:List Rs}{qs:List Aq}
theorem fF.lt (h:fF W G N0 s v rs qs):G<W.heap.size:=h.r.hr.gs
theorem fF.below (h:fF W G N0 s v rs qs)(hb:Below W.heap.size W W'):fF W' G N0 s v rs qs:=
 ⟨h.r.below hb,aQ h.k h.lt hb,aU h.fz h.lt hb,h.o.below hb,h.og,h.li.below hb⟩
theorem fF.put (h:fF W G N0 s v rs qs)(hi:i<rs.length){r':Rs}(hg:W.grownBy W' rs[i].v.ownBlock)(ho:r'.on W' 0)(hn:∀g,r'.v.ownBlock=aK g->rs[i].v.ownBlock=aK g∨(W.heap.size<=g/\g<W'.heap.size))(hN:N0<=W.heap.size):
 fF (W'.setCell ⟨G,7+i,aJ⟩ r'.v) G N0 s v (rs.set i r') qs:=by
 have n:rs[i].v.ownBlock≠aK G:=λe=>(h.og _ (gL hi) G e).1 rfl
 have f:∀k,(∃r∈rs.set i r',r.v.ownBlock=aK k)->(∃r∈rs,r.v.ownBlock=aK k)∨(W.heap.size<=k/\k<W'.heap.size):=λk ⟨r,hr,e⟩=>by
  rcases oN hr with rfl | ⟨j,F,_,rfl⟩
  ·rcases hn k e with m | m
   ·exact .inl ⟨_,gL hi,m⟩
   ·exact .inr m
  ·exact .inl ⟨_,gL F,e⟩
 have H:SS W G (λk=>k<N0∨∃r∈rs,r.v.ownBlock=aK k) s v->True:=λ_=>trivial
 have x:SR W' G (λk=>k<N0∨∃r∈rs.set i r',r.v.ownBlock=aK k) s v:=by
  have A:Safe (λk=>rs[i].v.ownBlock≠aK k) W W':=⟨hg.os,hg.tape,hg.output,hg.size,λk a y=>hg.block k a λe=>y e.symm⟩
  have y:∀k,(k<N0∨∃r∈rs.set i r',r.v.ownBlock=aK k)->(k<N0∨∃r∈rs,r.v.ownBlock=aK k)∨(W.heap.size<=k/\k<W'.heap.size):=λk a=>by
   rcases a with a | a
   ·exact .inl (.inl a)
   ·rcases f k a with m | m
    ·exact .inl (.inr m)
    ·exact .inr m
  have t:∀k,v.blk s G k->rs[i].v.ownBlock≠aK k:=λk a e=>h.r.QN (k:=k) (.inr ⟨_,gL hi,e⟩) a
  have l:∀q∈v.hc.rows s.h++v.hc.reads s.h,∀k,q.v.ownBlock=aK k->rs[i].v.ownBlock≠aK k:=λq l k a e=>by
   have z:(λk=>k<N0∨∃r∈rs,r.v.ownBlock=aK k) k:= .inr ⟨_,gL hi,e⟩;rcases gZ.1 l with l | l
   ·exact(h.r.hr.og q l k a).2 z
   ·exact h.r.hr.rx q l k a z
  have m:SR W' G (λ_=>False) s v:=by
   refine⟨⟨λr hr=>tX (h.r.own.each r hr) λk a u=>A.block k u (t k (.inr ⟨r,hr,a⟩)),h.r.own.GZ⟩,λr hr g w=>⟨(h.r.og r hr g w).1,λe=>e⟩,?_,h.r.hd,h.r.cy⟩;exact(h.r.hr.kept A l).sub λ_ e=>e.elim
  refine m.more λk a=> ?_
  rcases y k a with d | d
  ·refine⟨gI (h.r.hr.xs k d) hg.size,λhb=>h.r.QN d hb,λq c e=> ?_⟩;rcases gZ.1 c with c | c
   ·exact(h.r.hr.og q c k e).2 d
   ·exact h.r.hr.rx q c k e d
  ·refine⟨d.2,?_,λq c e=>by have:=h.r.hr.lt q c k e;omega⟩;rintro(rfl | ⟨r,hr,e⟩)
   ·have:=h.lt;omega
   ·have:=h.r.lt r hr k e;omega
 have B:∀o,W'.cell? ⟨G,o,aJ⟩=(([aA v.a1 v.n1 v.c1,aA v.hc.az 2 v.hc.cz,aA v.hc.am 2 v.hc.cm,aB aI (s.h.aP:Int),aA v.hc.al v.hc.lc.length v.hc.cl,aA v.hc.av s.h.live.length v.hc.cv,aA v.a2 v.ys.length v.c2]:List Value)++rs.map (·.v)).toArray[o]? :=bV h.k h.lt hg (λe=>n e.symm);have D:∀o,W'.frozen? ⟨G,o,aJ⟩=false:=bY h.fz h.lt hg (λe=>n e.symm);have C:=h.o.grown hi hg ho λg e=>(hn g e).imp id λh=>h.1
 have p:∀r∈rs.set i r',∀g,r.v.ownBlock=aK g->g≠G/\N0<=g:=λr hr g e=>by
  rcases f g ⟨r,hr,e⟩with ⟨q,l,e'⟩ | d
  ·exact h.og q l g e'
  ·have:=h.lt;omega
 refine⟨x.iQ (7+i) r'.v,?_,aV D _ _,C.far (λr hr e=>(p r hr G e).1 rfl) _ _,p,?_⟩
 ·have d:=aW B (7+i) r'.v;intro o;rw[d o];congr 1;simp only[gE];congr 1;rw[List.set_append_right _ _ (by simp)];simp[List.map_set]
 ·have E:lX W' (λk=>(k=G∨∃r∈rs,r.v.ownBlock=aK k)∨W.heap.size<=k) qs:=(h.li.more λk a=>a).grown hg λg e=> .inl (.inr ⟨_,gL hi,e⟩)
  refine(E.set (b:=G) (.inl (.inl rfl)) (7+i) r'.v).sub λk a=> ?_
  rcases a with a | a
  ·exact .inl (.inl a)
  ·rcases f k a with d | d
   ·exact .inl (.inr d)
   ·exact .inr d.1
theorem fF.cell (h:fF W G N0 s v rs qs)(hi:i<rs.length){c:Nat}(hv:rs[i].v=aA (aK ⟨g,0,aJ⟩) rs[i].n c)(j:Nat)(u:Value)(hu:u.oneCell'=true):
 fF (W.setCell ⟨g,j,aJ⟩ u) G N0 s v (rs.set i {rs[i]with xs:=rs[i].xs.set j u}) qs:=by
 have hb:rs[i].v.ownBlock=aK g:=by rw[hv];rfl
 have p:=h.og _ (gL hi) g hb;have l:(rs.set i {rs[i]with xs:=rs[i].xs.set j u}).map (·.v)=rs.map (·.v):=jJ (gJ hi) rfl;have a:∀k,(∃r∈rs.set i {rs[i]with xs:=rs[i].xs.set j u},r.v.ownBlock=aK k)->∃r∈rs,r.v.ownBlock=aK k:=λk ⟨r,m,e⟩=>by
  rcases oN m with rfl | ⟨q,f,_,rfl⟩
  ·exact⟨_,gL hi,e⟩
  ·exact⟨_,gL f,e⟩
 have x:(λk=>k<N0∨∃r∈rs,r.v.ownBlock=aK k) g:= .inr ⟨_,gL hi,hb⟩;refine⟨(h.r.dQ x j u).sub λk d=>d.imp id (a k),?_,aV h.fz _ _,h.o.cell hi hv j u hu,λr m t e=> ?_,((h.li.set (b:=g) (.inr ⟨_,gL hi,hb⟩) j u).sub λk d=>d.imp id (a k))⟩
 ·rw[l];exact aS h.k (λe=>p.1 e.symm) j u
 ·obtain⟨q,f,w⟩:=a t ⟨r,m,e⟩;exact h.og q f t w
theorem fF.sys (h:fF W G N0 s v rs qs)(hb:Below W.heap.size W W')(hc:∀X,SR W G X s v->SR W' G X s' v'):fF (((((((W'.setCell ⟨G,0,aJ⟩ (aA v'.a1 v'.n1 v'.c1)).setCell ⟨G,1,aJ⟩ (aA v'.hc.az 2 v'.hc.cz)).setCell ⟨G,2,aJ⟩ (aA v'.hc.am 2 v'.hc.cm)).setCell ⟨G,3,aJ⟩ (aB aI (s'.h.aP:Int))).setCell ⟨G,4,aJ⟩ (aA v'.hc.al v'.hc.lc.length v'.hc.cl)).setCell ⟨G,5,aJ⟩ (aA v'.hc.av s'.h.live.length v'.hc.cv)).setCell ⟨G,6,aJ⟩ (aA v'.a2 v'.ys.length v'.c2)) G N0 s' v' rs qs:=by
 have b:=h.below hb;have c:=aW (aW (aW (aW (aW (aW (aW b.k 0 (aA v'.a1 v'.n1 v'.c1)) 1 (aA v'.hc.az 2 v'.hc.cz)) 2 (aA v'.hc.am 2 v'.hc.cm)) 3 (aB aI (s'.h.aP:Int))) 4 (aA v'.hc.al v'.hc.lc.length v'.hc.cl)) 5 (aA v'.hc.av s'.h.live.length v'.hc.cv)) 6 (aA v'.a2 v'.ys.length v'.c2);refine⟨(((((((hc _ h.r).iQ 0 _).iQ 1 _).iQ 2 _).iQ 3 _).iQ 4 _).iQ 5 _).iQ 6 _,?_,Ci b.fz v' s',?_,h.og,(b.li.put7 (.inl rfl) v' s')⟩
 ·simp only[gE,List.cons_append,List.nil_append,gG,gH]at c;exact c
 ·have a:∀r∈rs,r.v.ownBlock≠aK G:=λr d e=>(h.og r d G e).1 rfl
  exact((((((b.o.far a 0 _).far a 1 _).far a 2 _).far a 3 _).far a 4 _).far a 5 _).far a 6 _
theorem fF.list (h:fF W G N0 s v rs qs){q:Aq}(hq:W.ownsRow 0 3 1 q.sl q.x.l.length (q.x.l.map vI))(hn:∀g,q.sl.ownBlock=aK g->g≠G/\∀r∈rs,r.v.ownBlock≠aK g):fF W G N0 s v rs (qs++[q]):=
 ⟨h.r,h.k,h.fz,h.o,h.og,h.li.snoc hq λg a d=>by
  rcases d with c | ⟨r,b,e⟩
  ·exact(hn g a).1 c
  ·exact(hn g a).2 r b e⟩
end
def rws (acts:List Ac)(qs:List Aq)(L:List Th)(pa pt pw:Pl):List Rs:=[PV acts pa,PW qs pt,pU L pw]
theorem xO {N0:Nat}{acts:List Ac}{qs ys:List Aq}{L:List Th}{pa pt pw:Pl}(h:fF W2 G N0 s v (rws acts qs L pa pt pw) ys)(hN:N0<=W2.heap.size)(t:Th){g7 cap7:Nat}(ho7:W7.ownsRow 0 52 6 (aA (aK ⟨g7,0,aJ⟩) (L.length+1) cap7) (L.length+1) (flat lY L++lY t))(hg7:W2.grownBy W7 (aA pw.a L.length pw.c).ownBlock)(hl7:(aA pw.a L.length pw.c).ownBlock=aK g7∨g7=W2.heap.size)(mQ:g7<W7.heap.size):
 fF (W7.setCell ⟨G,9,aJ⟩ (aA (aK ⟨g7,0,aJ⟩) (L.length+1) cap7)) G N0 s v (rws acts qs (L++[t]) pa pt ⟨aK ⟨g7,0,aJ⟩,cap7⟩) ys:=by
 have b:(pU (L++[t]) ⟨aK ⟨g7,0,aJ⟩,cap7⟩).v=aA (aK ⟨g7,0,aJ⟩) (L.length+1) cap7:=by simp[pU]
 have f:=h.put (i:=2) (show 2<3 by decide) (r':=pU (L++[t]) ⟨aK ⟨g7,0,aJ⟩,cap7⟩) hg7 (by
  unfold Rs.on;rw[b];have j:(pU (L++[t]) ⟨aK ⟨g7,0,aJ⟩,cap7⟩).n=L.length+1:=by simp[pU]
  have k:(pU (L++[t]) ⟨aK ⟨g7,0,aJ⟩,cap7⟩).xs=flat lY L++lY t:=by simp[pU,bG,flat]
  rw[j,k];exact ho7) (λg e=>by
  rw[b]at e;obtain rfl:g7=g:=by simpa[gTh]using e
  rcases hl7 with d | d
  ·exact .inl d
  ·exact .inr ⟨by omega,mQ⟩) hN
 rw[b]at f;exact f
def AQ (G N0:Nat)(s:Sy)(v:Sc)(acts:List Ac)(qs ys:List Aq)(L:List Th)(pa pt:Pl)(w:World)(ev:Ending)(w':World):Prop:=∃a,ev=aN (aG #[])/\fF w' G N0 s v (rws acts qs L pa pt a) ys/\Below N0 w w'
theorem qI {N0:Nat}{acts:List Ac}{qs ys:List Aq}{L:List Th}{pa pt pw:Pl}(hb:Below N0 w W2)(hN:N0<=W2.heap.size)(h:fF W2 G N0 s v (rws acts qs L pa pt pw) ys)(hg7:W2.grownBy W7 (aA pw.a L.length pw.c).ownBlock)(Es:N0<=G)(u:Value):Below N0 w (W7.setCell ⟨G,9,aJ⟩ u):=
 gS (Below.grown hb hg7 hN λk e=>(h.og (pU L pw) (by simp[rws]) k e).2) G 9 Es u
theorem aEv (G N0:Nat)(s:Sy)(v:Sc)(acts:List Ac)(qs ys:List Aq)(L:List Th)(pa pt pw:Pl)(cu cn cm cp cf:Int)(cs:List UInt8)(x:An)(d:Option Addr)(cap i:Nat)(iv:Int)(w:World)(hg:fF w G N0 s v (rws acts qs L pa pt pw) ys)(hN:N0<=w.heap.size)(hL:L.length<=5000)(Es:N0<=G):
 Calls prog 62 #[aH (aK ⟨G,0,aJ⟩),aC #[aB aI 8,aB aI cu,aB aI cn,aB aI cm,aB aI cp,aB aI cf,aF ⟨cs.toArray⟩],aC #[aB aI (x.c:Int),aB aI x.n,aA d x.l.length cap],aB aI iv] w (AQ G N0 s v acts qs ys (lC L ⟨8,cu,cn,cm,cp,cf,cs⟩ x i) pa pt w):=by
 skip
 obtain⟨H,r,Q,K,P,p⟩:=boxes2 w #[aB aI 8,aB aI cu,aB aI cn,aB aI cm,aB aI cp,aB aI cf,aF ⟨cs.toArray⟩] 70 #[aB aI (x.c:Int),aB aI x.n,aA d x.l.length cap] 72;have j:=gO (hg.below p);have A:=gO (p.mono hN);have R:N0<=w.heap.size:=hN;obtain⟨Y,q1,q2,q3,q4,q5,q6⟩:=gA7 H;have z0:=r 0;have z1:=r 1;have M:=r 2;simp only[gB,gC,gD]at z0 z1 M;have TK:=gO (fun(g:Nat) (e:(aA pw.a L.length pw.c).ownBlock=aK g)=>(hg.o.lt (pU L pw) (by simp[rws]) g e).2);have WW:G<w.heap.size:=hg.lt;clear H r Q K p hg;go_enter func62,ntmps62
 go_upto_region 1 with fail
 generalize (w.alloc _).alloc _=f at*;have ZU:G<f.heap.size:=j.out.lt;have I:w.heap.size<f.heap.size:=by omega
 have Z:f.cell? ⟨G,9,aJ⟩=aK (aA pw.a L.length pw.c):=j.out.k 9;have J:(aA pw.a L.length pw.c).ownBlock≠aK G:=λe=>(j.out.og (pU L pw) (by simp[rws]) G e).1 rfl
 go_upto_region 3 with fail
 have m:Below f.heap.size f (f.alloc (aO #[aB aI x.n,aB aI cn,aB aI 8,aF ⟨#[]⟩,aB aI 0,.bool false] 52)).drew:=(aT f _).drew;have b:=gO (j.out.below m);have B:=gO (Below.trans A.out (m.mono (by omega:N0<=f.heap.size)));have S:=gO (World.news_of_block (w:=(f.alloc (aO #[aB aI x.n,aB aI cn,aB aI 8,aF ⟨#[]⟩,aB aI 0,.bool false] 52)).drew) (heap_alloc_new f _));have u:=gO (b.out.o.each (pU L pw) (by simp[rws]));obtain⟨T,z,t,D,E⟩:=info_parts yF;go_region_law (refine step_append_lies _ rfl _ _ 45 rfl 0 52 T (aC #[aB aI 0,aB aI 0,aB aI 0,aF ⟨#[]⟩,aB aI 0,.bool false]) 6 56 underlying45 z t D E rfl (by decide) (aA pw.a L.length pw.c) L.length (flat lY L) rfl u.out ⟨f.heap.size,0,aJ⟩ 1 1 [aB aI x.n,aB aI cn,aB aI 8,aF ⟨#[]⟩,aB aI 0,.bool false] rfl rfl S.out (by simp[Value.oneCell']) (by decide) (by unfold maxLen;omega) (by omega) (gU _) _ rfl ?_;intro O q F y h C W;have U:F.cell? ⟨G,9,aJ⟩=aK (aA pw.a L.length pw.c):=bV b.out.k b.out.lt h (λe=>J e.symm) 9;have N:F.frozen? ⟨G,9,aJ⟩=false:=bY b.out.fz b.out.lt h (λe=>J e.symm) 9)
 all_goals
  have V:=xO b.out (gQ (by omega:N0<=f.heap.size) m.size) (⟨x.n,cn,8,[],0,false⟩:Th) y h C W;have X:=qI B.out (gQ (by omega:N0<=f.heap.size) m.size) b.out h Es (aA (aK ⟨O,0,aJ⟩) (L.length+1) q);exact bodyPost_ret (v:=aG #[]) (by simp[results,results62,go_sem]) rfl ⟨_,rfl,V,X⟩
end Go.Proofs.YtjaogfhcnmjkiaaGreatDoor
