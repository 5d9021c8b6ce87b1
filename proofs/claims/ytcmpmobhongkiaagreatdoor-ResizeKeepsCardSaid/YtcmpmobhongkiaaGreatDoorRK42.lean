/- joined. -/
import Derived.Test.YtcmpmobhongkiaaGreatDoorRK0
import Derived.Test.YtcmpmobhongkiaaGreatDoorRK26
import Derived.Test.YtcmpmobhongkiaaGreatDoorRK35
import Derived.Test.YtcmpmobhongkiaaGreatDoorRK39
import Derived.Test.YtcmpmobhongkiaaGreatDoorRK40
set_option linter.unusedVariables false
set_option linter.unusedSimpArgs false
namespace Go.Proofs.YtcmpmobhongkiaaGreatDoor
section
open Go.RowKit
def Sy.TR (s:Sy)(r:Option (Hp×Nat)):Option (Sy×Int):=match r with
 | some (h',a)=>some ({s with h:=h'},16*(a:Int))
 | none=>none
def Sy.fE (s:Sy)(cpu n:Nat):Option (Sy×Int):=if n<=32 then(match s.named (kN (zz (nY n)))with
 | some i=>s.one i cpu
 | none=>none)else s.TR (s.h.alloc cpu (mJ n) 0 false false)
def Xf (s:Sy):Prop:=∀j,j<6->∃i,s.named (kN (zz j))=some i
set_option maxHeartbeats 8000000 in
set_option maxRecDepth 100000 in
theorem EP (v:Sc)(s:Sy)(cpu n:Nat)(w:World)(hs:nV w v s)(hk:bK s)(hf:∀c∈s.cs,c.ns.length<=1000)(hkn:Xf s)(bJ:cpu<s.h.aC)(ho:vT w)(hsz:Bl w)(h1:1<=n)(h2:n<=32):
 Calls Tryz.prog 29 #[.agg #[.slice v.a1 v.n1 v.c1,.slice v.hc.az 2 v.hc.cz,.slice v.hc.am 2 v.hc.cm,.int .i64 (s.h.aC:Int),.slice v.hc.al v.hc.lc.length v.hc.cl,.slice v.hc.av s.h.live.length v.hc.cv,.slice v.a2 v.ys.length v.c2],.int .i64 cpu,.int .i64 n] w (Ae (s.fE cpu n) w):=by
 obtain⟨K1,K2,F1,F2,hsz2,hbw⟩:=boxes2 w #[.slice v.a1 v.n1 v.c1,.slice v.hc.az 2 v.hc.cz,.slice v.hc.am 2 v.hc.cm,.int .i64 (s.h.aC:Int),.slice v.hc.al v.hc.lc.length v.hc.cl,.slice v.hc.av s.h.live.length v.hc.cv,.slice v.a2 v.ys.length v.c2] 47 #[.slice none 0 0,.slice none 0 0,.slice none 0 0,.int .i64 0,.slice none 0 0,.slice none 0 0,.slice none 0 0] 47;have hs1:=hs.below hbw;obtain⟨i,hi⟩:=hkn (nY n) (mY h1 h2).1;have hone:s.fE cpu n=s.one i cpu:=by
  unfold Sy.fE;rw[if_pos h2,hi]
 rw[hone];generalize hw1:(w.alloc (.cells #[.slice v.a1 v.n1 v.c1,.slice v.hc.az 2 v.hc.cz,.slice v.hc.am 2 v.hc.cm,.int .i64 (s.h.aC:Int),.slice v.hc.al v.hc.lc.length v.hc.cl,.slice v.hc.av s.h.live.length v.hc.cv,.slice v.a2 v.ys.length v.c2] 47)).alloc (.cells #[.slice none 0 0,.slice none 0 0,.slice none 0 0,.int .i64 0,.slice none 0 0,.slice none 0 0,.slice none 0 0] 47)=w1 at*;have rP:=gO (lJ v s w1 hs1 hk hf);have XF:Hid (∀W,Below w1.heap.size w1 W->Calls Tryz.prog 60 #[.int .i64 n] W fun ev w'=>ev= .returned (.tuple #[.string ⟨(kN (zz (nY n))).toArray⟩,.bool true])/\W=w'):=fun W hW=>TL n W ((hsz.below hbw).below hW) h1 h2
 have Au:Hid (∀W,Below w1.heap.size w1 W->Calls Tryz.prog 32 #[.agg #[.slice v.a1 v.n1 v.c1,.slice v.hc.az 2 v.hc.cz,.slice v.hc.am 2 v.hc.cm,.int .i64 (s.h.aC:Int),.slice v.hc.al v.hc.lc.length v.hc.cl,.slice v.hc.av s.h.live.length v.hc.cv,.slice v.a2 v.ys.length v.c2],.string ⟨(kN (zz (nY n))).toArray⟩,.int .i64 cpu] W (Ae (s.one i cpu) W)):=fun W hW=>TQ v s (kN (zz (nY n))) cpu i W (hs1.below hW) hk hf hi bJ ((ho.below hbw).below hW)
 generalize zz (nY n)=z at*;obtain⟨rA,Ui⟩:∃rA,s.one i cpu=rA:=⟨_,rfl⟩
 rw[Ui]at Au ⊢;obtain⟨k0,k1,k2,k3,k4,k5,k6⟩:=gA7 K1;have HB1:=gO hbw;have HK1:=gO K1;have HK2:=gO K2;have HF2:=gO F2;have hsz1:w.heap.size<w1.heap.size:=by omega
 have hn1:¬(n:Int)<1:=by omega
 clear hs hk hf hi hs1 K1 K2 F1 F2 hbw hkn ho hsz Ui hone;go_enter Tryz.func29,Tryz.ntmps29
 go_upto_region 1 with fail
 try rw[hw1]
 go_upto_region 7 with (first | (go_at_call 38;refine rP.out.mono ?_;rintro ev w2 ⟨rfl,hb2⟩) | (go_at_call 60;refine(XF.out _ hb2).mono ?_;rintro ev w' ⟨rfl,rfl⟩))
 have HB2:=gO hb2;have K12:=aB HK1.out hsz1 hb2;have MN:=gI hsz2 hb2.size;have HT2:=gO (aB HK2.out hsz2 hb2);have HU2:=gO (aH HF2.out hsz2 hb2);have HBB:=gO (Below.step HB1.out hb2);have hAL:=Au.out w2 hb2;have aLf:w.heap.size<=w2.heap.size:=HBB.out.size;clear k0 k1 k2 k3 k4 k5 k6 rP XF Au hb2 HB2;obtain⟨k0,k1,k2,k3,k4,k5,k6⟩:=gA7 K12;clear K12;cases rA with
 | none=>
  have HA:Hid (Calls Tryz.prog 32 #[.agg #[.slice v.a1 v.n1 v.c1,.slice v.hc.az 2 v.hc.cz,.slice v.hc.am 2 v.hc.cm,.int .i64 (s.h.aC:Int),.slice v.hc.al v.hc.lc.length v.hc.cl,.slice v.hc.av s.h.live.length v.hc.cv,.slice v.a2 v.ys.length v.c2],.string ⟨(kN z).toArray⟩,.int .i64 cpu] w2 fun ev w'=>ev= .returned (.tuple #[.agg #[.slice none 0 0,.slice none 0 0,.slice none 0 0,.int .i64 0,.slice none 0 0,.slice none 0 0,.slice none 0 0],.int .i64 0,.int .i64 6])/\Below w2.heap.size w2 w'):=by
   refine hAL.mono ?_;rintro ev w' (⟨_,h,hb⟩ | ⟨s',b',v'',h,_⟩)
   ·exact⟨h,hb⟩
   ·cases h
  clear hAL;go_wp2_with (go_at_call 32;refine HA.out.mono ?_;rintro ev w3 ⟨rfl,hb3⟩;have HT3:=aB HT2.out MN hb3;have HU3:=aH HU2.out MN hb3;obtain⟨y0,y1,y2,y3,y4,y5,y6⟩:=gA7 HT3;obtain⟨f0,f1,f2,f3,f4,f5,f6⟩:=gF7 HU3;skip)
  have jB:=nil7 HT3 (Below.step HBB.out hb3) (Nat.le_succ _);have KX:=jB.1;have jF:=gO jB.2;clear jB HT3 HU3 y0 y1 y2 y3 y4 y5 y6 f0 f1 f2 f3 f4 f5 f6;generalize ((((((w3.setCell _ _).setCell _ _).setCell _ _).setCell _ _).setCell _ _).setCell _ _).setCell _ _=wx at*;exact bodyPost_ret (v:= .tuple #[.agg #[.slice none 0 0,.slice none 0 0,.slice none 0 0,.int .i64 0,.slice none 0 0,.slice none 0 0,.slice none 0 0],.int .i64 0,.int .i64 6]) (by simp[results,Tryz.results29,go_sem,KX]) rfl (.inl ⟨rfl,rfl,jF.out⟩)
 | some r=>
  obtain⟨sF,b⟩:=r;have HA:Hid (Calls Tryz.prog 32 #[.agg #[.slice v.a1 v.n1 v.c1,.slice v.hc.az 2 v.hc.cz,.slice v.hc.am 2 v.hc.cm,.int .i64 (s.h.aC:Int),.slice v.hc.al v.hc.lc.length v.hc.cl,.slice v.hc.av s.h.live.length v.hc.cv,.slice v.a2 v.ys.length v.c2],.string ⟨(kN z).toArray⟩,.int .i64 cpu] w2 fun ev w'=>∃v2,ev= .returned (.tuple #[.agg #[.slice v2.a1 v2.n1 v2.c1,.slice v2.hc.az 2 v2.hc.cz,.slice v2.hc.am 2 v2.hc.cm,.int .i64 (sF.h.aC:Int),.slice v2.hc.al v2.hc.lc.length v2.hc.cl,.slice v2.hc.av sF.h.live.length v2.hc.cv,.slice v2.a2 v2.ys.length v2.c2],.int .i64 b,.int .i64 0])/\fQ w' w2.heap.size sF v2/\Below w2.heap.size w2 w'):=by
   refine hAL.mono ?_;rintro ev w' (⟨h,_⟩ | ⟨s',b',v'',h,h1,h2,h3⟩)
   ·cases h
   ·obtain⟨rfl,rfl⟩:sF=s'/\b=b':=by simpa using h
    exact⟨v'',h1,h2,h3⟩
  clear hAL;go_wp2_with (go_at_call 32;refine HA.out.mono ?_;rintro ev w3 ⟨v2,rfl,hn3,hb3⟩;have HT3:=aB HT2.out MN hb3;have HU3:=aH HU2.out MN hb3;obtain⟨y0,y1,y2,y3,y4,y5,y6⟩:=gA7 HT3;obtain⟨f0,f1,f2,f3,f4,f5,f6⟩:=gF7 HU3;skip)
  have KX:=Af HT3 v2 sF;have nP:=gO (fQ.put7 (T:=w.heap.size+1) (G:=w.heap.size) hn3 MN (by omega));have jF:=gO (fK (T:=w.heap.size+1) (Below.step HBB.out hb3) (Nat.le_succ _) v2 sF);clear HT3 HU3 y0 y1 y2 y3 y4 y5 y6 f0 f1 f2 f3 f4 f5 f6 hn3 hb3;generalize ((((((w3.setCell _ _).setCell _ _).setCell _ _).setCell _ _).setCell _ _).setCell _ _).setCell _ _=wx at*;exact bodyPost_ret (v:= .tuple #[.agg #[.slice v2.a1 v2.n1 v2.c1,.slice v2.hc.az 2 v2.hc.cz,.slice v2.hc.am 2 v2.hc.cm,.int .i64 (sF.h.aC:Int),.slice v2.hc.al v2.hc.lc.length v2.hc.cl,.slice v2.hc.av sF.h.live.length v2.hc.cv,.slice v2.a2 v2.ys.length v2.c2],.int .i64 b,.int .i64 0]) (by simp[results,Tryz.results29,go_sem,KX]) rfl (.inr ⟨sF,b,v2,rfl,rfl,nP.out,jF.out⟩)
end
section
open Go.RowKit
theorem shl16 {o:Nat}(h:o<=4):wrap64 (16*2^o)=((16*2^o:Nat):Int):=by
 obtain rfl | rfl | rfl | rfl | rfl:o=0∨o=1∨o=2∨o=3∨o=4:=by omega
 all_goals decide+kernel
set_option maxHeartbeats 8000000 in
set_option maxRecDepth 100000 in
theorem MX (v:Sc)(s:Sy)(cpu n:Nat)(w:World)(hs:nV w v s)(hk:bK s)(hf:∀c∈s.cs,c.ns.length<=1000)(bJ:cpu<s.h.aC)(ho:vT w)(hsz:Bl w)(h1:33<=n)(h2:n<=256):
 Calls Tryz.prog 29 #[.agg #[.slice v.a1 v.n1 v.c1,.slice v.hc.az 2 v.hc.cz,.slice v.hc.am 2 v.hc.cm,.int .i64 (s.h.aC:Int),.slice v.hc.al v.hc.lc.length v.hc.cl,.slice v.hc.av s.h.live.length v.hc.cv,.slice v.a2 v.ys.length v.c2],.int .i64 cpu,.int .i64 n] w (Ae (s.fE cpu n) w):=by
 obtain⟨K1,K2,F1,F2,hsz2,hbw⟩:=boxes2 w #[.slice v.a1 v.n1 v.c1,.slice v.hc.az 2 v.hc.cz,.slice v.hc.am 2 v.hc.cm,.int .i64 (s.h.aC:Int),.slice v.hc.al v.hc.lc.length v.hc.cl,.slice v.hc.av s.h.live.length v.hc.cv,.slice v.a2 v.ys.length v.c2] 47 #[.slice none 0 0,.slice none 0 0,.slice none 0 0,.int .i64 0,.slice none 0 0,.slice none 0 0,.slice none 0 0] 47;have hs1:=hs.below hbw;generalize hw1:(w.alloc (.cells #[.slice v.a1 v.n1 v.c1,.slice v.hc.az 2 v.hc.cz,.slice v.hc.am 2 v.hc.cm,.int .i64 (s.h.aC:Int),.slice v.hc.al v.hc.lc.length v.hc.cl,.slice v.hc.av s.h.live.length v.hc.cv,.slice v.a2 v.ys.length v.c2] 47)).alloc (.cells #[.slice none 0 0,.slice none 0 0,.slice none 0 0,.int .i64 0,.slice none 0 0,.slice none 0 0,.slice none 0 0] 47)=w1 at*;have rP:=gO (lJ v s w1 hs1 hk hf);have XF:Hid (∀W,Below w1.heap.size w1 W->Calls Tryz.prog 60 #[.int .i64 n] W fun ev w'=>ev= .returned (.tuple #[.string ⟨#[]⟩,.bool false])/\W=w'):=fun W hW=>MK n W ((hsz.below hbw).below hW) (by omega)
 obtain⟨hO2,hO4,hOn,_,hOl⟩:=xG h1 h2;obtain⟨rA,Ui⟩:∃rA,s.h.alloc cpu (mJ n) 0 false false=rA:=⟨_,rfl⟩
 have aEj:s.fE cpu n=s.TR rA:=by
  unfold Sy.fE;rw[if_neg (by omega),Ui]
 rw[aEj];have hA:∀h' a,rA=some (h',a)->a<=256:=fun h' a e=>by
  rw[<- Ui]at e;obtain⟨_,_,_,_,_,_,h5,_⟩:=hk.hk.alloc bJ (by omega) (by decide) e;omega
 have HA:=gO hA;clear hA;obtain⟨O,hO⟩:∃O,mJ n=O:=⟨_,rfl⟩
 rw[hO]at hO2 hO4 hOn hOl Ui;have HOL:=gO hOl;have HPA:Hid (∀W,Below w1.heap.size w1 W->Calls Tryz.prog 61 #[.agg #[.slice v.hc.az 2 v.hc.cz,.slice v.hc.am 2 v.hc.cm,.int .i64 (s.h.aC:Int),.slice v.hc.al v.hc.lc.length v.hc.cl,.slice v.hc.av s.h.live.length v.hc.cv],.int .i64 cpu,.int .i64 (O:Int),.int .i64 ((0:Nat):Int)] W fun ev w'=>Below W.heap.size W w'/\((rA=none/\ev= .returned (.tuple #[.agg #[.slice none 0 0,.slice none 0 0,.int .i64 0,.slice none 0 0,.slice none 0 0],.int .i64 0,.int .i64 6]))∨(∃(h':Hp) (a:Nat) (c':Hc),rA=some (h',a)/\ev= .returned (.tuple #[.agg (c'.vals h'),.int .i64 (a:Nat),.int .i64 0])/\kU w' W.heap.size h' c'))):=fun W hW=>by
  have h:=FZ v.hc.az v.hc.am v.hc.al v.hc.av v.hc.cz v.hc.cm v.hc.cl v.hc.cv v.hc.lc.length s.h.live.length v.hc.y0 v.hc.y1 v.hc.lc s.h cpu O 0 W (hs1.below hW).hh hk.hk (by have:=(hs1.hh.ll);have h9:=congrArg List.length this;rw[List.length_map]at h9;rw[h9];have:=hk.hk.oW;omega) (by have:=hk.hk.iZ;omega) bJ hO4 (by decide) (by decide) ((ho.below hbw).below hW);have e0:s.h.alloc cpu O (pO 0) (decide (0/8%2=1)) (decide (0%2=1))=rA:=Ui;rw[e0]at h;exact h
 obtain⟨k0,k1,k2,k3,k4,k5,k6⟩:=gA7 K1;have HB1:=gO hbw;have HK1:=gO K1;have HF1:=gO F1;have HK2:=gO K2;have HF2:=gO F2;have NC:Hid (∀W,Below w1.heap.size w1 W->Calls Tryz.prog 39 #[.agg #[.slice v.a1 v.n1 v.c1,.slice v.hc.az 2 v.hc.cz,.slice v.hc.am 2 v.hc.cm,.int .i64 (s.h.aC:Int),.slice v.hc.al v.hc.lc.length v.hc.cl,.slice v.hc.av s.h.live.length v.hc.cv,.slice v.a2 v.ys.length v.c2]] W fun ev w'=>∃v',ev= .returned (.agg #[.slice v'.a1 v'.n1 v'.c1,.slice v'.hc.az 2 v'.hc.cz,.slice v'.hc.am 2 v'.hc.cm,.int .i64 (s.h.aC:Int),.slice v'.hc.al v'.hc.lc.length v'.hc.cl,.slice v'.hc.av s.h.live.length v'.hc.cv,.slice v'.a2 v'.ys.length v'.c2])/\fQ w' W.heap.size s v'/\Below W.heap.size W w'):=fun W hW=>rD v s W (hs1.below hW) hk hf
 have hn1:¬(n:Int)<1:=by omega
 have hsz1:w.heap.size<w1.heap.size:=by omega
 clear hs hk hf hs1 K1 K2 F1 F2 hbw hsz aEj Ui hO hOl ho;go_enter Tryz.func29,Tryz.ntmps29
 go_upto_region 1 with fail
 try rw[hw1]
 go_upto_region 9 with (first | (go_at_call 38;refine rP.out.mono ?_;rintro ev w2 ⟨rfl,hb2⟩) | (go_at_call 60;refine(XF.out _ hb2).mono ?_;rintro ev w' ⟨rfl,rfl⟩))
 have HB12:=gO hb2;clear k0 k1 k2 k3 k4 k5 k6 rP XF hb2;go_wp2_with fail
 go_loopw [38] (fun s38 wr=>∃o:Nat,o<=O/\s38= .int .i64 (o:Int)/\wr=w2) (fun s38 _=>5-(intOf s38).toNat)
 case atStart=>exact⟨0,by omega,rfl,rfl⟩
 case round=>
  obtain⟨o,ho,rfl,rfl⟩:=hrel;have aLg:(o:Int)<5:=by omega
  have hsh:=shl16 (o:=o) (by omega);by_cases hlt:o<O
  ·have hP:=HOL.out o hlt;generalize ZP:16*2^o=P at hP;have hPi:(P:Int)<n:=by omega
   rw[ZP]at hsh;clear ZP;go_wp2
   go_roundw
   case rel=>exact⟨o+1,by omega,by go_num,by first | rfl | trivial⟩
   case measure=>simp[intOf];omega
  ·obtain rfl:o=O:=by omega
   generalize ZP:16*2^o=P at hOn;have hPi:¬(P:Int)<n:=by omega
   rw[ZP]at hsh;clear ZP;have eF:=HB12.out;have K12:=aB HK1.out hsz1 eF;obtain⟨k0,k1,k2,k3,k4,k5,k6⟩:=gA7 K12;have Zg:=HPA.out wr eF;clear HPA;have pY:w.heap.size<wr.heap.size:=gI hsz1 eF.size;have rJ:w.heap.size+1<wr.heap.size:=gI hsz2 eF.size;cases rA with
   | none=>
    have HPN:Hid (Calls Tryz.prog 61 #[.agg #[.slice v.hc.az 2 v.hc.cz,.slice v.hc.am 2 v.hc.cm,.int .i64 (s.h.aC:Int),.slice v.hc.al v.hc.lc.length v.hc.cl,.slice v.hc.av s.h.live.length v.hc.cv],.int .i64 cpu,.int .i64 (o:Int),.int .i64 0] wr fun ev w'=>ev= .returned (.tuple #[.agg #[.slice none 0 0,.slice none 0 0,.int .i64 0,.slice none 0 0,.slice none 0 0],.int .i64 0,.int .i64 6])/\Below wr.heap.size wr w'):=by
     refine Zg.mono ?_;rintro ev w' ⟨hb,(⟨_,h⟩ | ⟨h',a',c',h,_⟩)⟩
     ·exact⟨h,hb⟩
     ·cases h
    have HE:Hid (s.TR none=none):=rfl;clear Zg;go_upto_region 14 with (go_at_call 61;refine HPN.out.mono ?_;rintro ev w3 ⟨rfl,hb3⟩)
    have hb4:=Below.step hb3 (aF w3 (.cells #[.slice none 0 0,.slice none 0 0,.int .i64 0,.slice none 0 0,.slice none 0 0] 44));have jE:=gO (aB (aB HK2.out hsz2 eF) rJ hb4);have tJ:=gO (aH (aH HF2.out hsz2 eF) rJ hb4);have tK:=gO (Below.step (Below.step HB1.out eF) hb4);clear hb3 hb4 HK2 HF2 HK1 HF1 K12 k0 k1 k2 k3 k4 k5 k6 HPN NC;generalize w3.alloc _=w4 at*;generalize w3.heap.size=B14 at*;obtain⟨q0,q1,q2,q3,q4,q5,q6⟩:=gA7 jE.out;obtain⟨f0,f1,f2,f3,f4,f5,f6⟩:=gF7 tJ.out;have jB:=nil7 jE.out tK.out (show w.heap.size<=w.heap.size+1 by omega);have KX:=jB.1;have jF:=gO jB.2;clear jB jE tJ tK;go_wp2_with fail
    generalize ((((((w4.setCell _ _).setCell _ _).setCell _ _).setCell _ _).setCell _ _).setCell _ _).setCell _ _=wx at*;exact bodyPost_ret (v:= .tuple #[.agg #[.slice none 0 0,.slice none 0 0,.slice none 0 0,.int .i64 0,.slice none 0 0,.slice none 0 0,.slice none 0 0],.int .i64 0,.int .i64 6]) (by simp[results,Tryz.results29,go_sem,KX]) rfl (.inl ⟨HE.out,rfl,jF.out⟩)
   | some r=>
    obtain⟨h',a⟩:=r;have HPS:Hid (Calls Tryz.prog 61 #[.agg #[.slice v.hc.az 2 v.hc.cz,.slice v.hc.am 2 v.hc.cm,.int .i64 (s.h.aC:Int),.slice v.hc.al v.hc.lc.length v.hc.cl,.slice v.hc.av s.h.live.length v.hc.cv],.int .i64 cpu,.int .i64 (o:Int),.int .i64 0] wr fun ev w'=>∃c',ev= .returned (.tuple #[.agg #[.slice c'.az 2 c'.cz,.slice c'.am 2 c'.cm,.int .i64 (h'.aC:Int),.slice c'.al c'.lc.length c'.cl,.slice c'.av h'.live.length c'.cv],.int .i64 (a:Int),.int .i64 0])/\kU w' wr.heap.size h' c'/\Below wr.heap.size wr w'):=by
     refine Zg.mono ?_;rintro ev w' ⟨hb,(⟨h,_⟩ | ⟨h'',a',c',h,h1,h2⟩)⟩
     ·cases h
     ·obtain⟨rfl,rfl⟩:h'=h''/\a=a':=by simpa using h
      exact⟨c',h1,h2,hb⟩
    have HE:Hid (s.TR (some (h',a))=some ({s with h:=h'},16*(a:Int))):=rfl;clear Zg;go_upto_region 14 with (go_at_call 61;refine HPS.out.mono ?_;rintro ev w3 ⟨c',rfl,hn3,hb3⟩)
    have ba:=aF w3 (.cells #[.slice c'.az 2 c'.cz,.slice c'.am 2 c'.cm,.int .i64 (h'.aC:Int),.slice c'.al c'.lc.length c'.cl,.slice c'.av h'.live.length c'.cv] 44);have K14:=aW w3 #[.slice c'.az 2 c'.cz,.slice c'.am 2 c'.cm,.int .i64 (h'.aC:Int),.slice c'.al c'.lc.length c'.cl,.slice c'.av h'.live.length c'.cv] 44;have hb4:=Below.step hb3 ba;have MZ:w3.heap.size<(w3.alloc (.cells #[.slice c'.az 2 c'.cz,.slice c'.am 2 c'.cm,.int .i64 (h'.aC:Int),.slice c'.al c'.lc.length c'.cl,.slice c'.av h'.live.length c'.cv] 44)).heap.size:=by simp
    have aEk:wr.heap.size<=w3.heap.size:=hb3.size;have hX1:∀k,(k<w.heap.size∨k=w.heap.size+1)->k<wr.heap.size:=fun k hk=>by omega
    have hHR:HR (w3.alloc (.cells #[.slice c'.az 2 c'.cz,.slice c'.am 2 c'.cm,.int .i64 (h'.aC:Int),.slice c'.al c'.lc.length c'.cl,.slice c'.av h'.live.length c'.cv] 44)) w.heap.size (fun k=>k<w.heap.size∨k=w.heap.size+1) h' c':=(HR.lift hn3 pY hX1 (by omega)).below ba;have Xi:=gO hHR;have KG4:=gO (aB (aB HK1.out hsz1 eF) pY hb4);have FG4:=gO (aH (aH HF1.out hsz1 eF) pY hb4);have KT4:=gO (aB (aB HK2.out hsz2 eF) rJ hb4);have FT4:=gO (aH (aH HF2.out hsz2 eF) rJ hb4);have HB4:=gO (Below.step (Below.step HB1.out eF) hb4);have HCP4:=gO (NC.out _ (eF.trans (hb4.mono eF.size)));have Na:=gO K14;have hw4:wr.heap.size<=(w3.alloc (.cells #[.slice c'.az 2 c'.cz,.slice c'.am 2 c'.cm,.int .i64 (h'.aC:Int),.slice c'.al c'.lc.length c'.cl,.slice c'.av h'.live.length c'.cv] 44)).heap.size:=hb4.size;have hBne:w3.heap.size≠w.heap.size:=by omega
    clear hb3 hb4 ba hHR K14 hn3 HK1 HF1 HK2 HF2 HPS NC K12 k0 k1 k2 k3 k4 k5 k6;generalize w3.alloc _=w4 at*;generalize w3.heap.size=B14 at*;obtain⟨k0,k1,k2,k3,k4,k5,k6⟩:=gA7 KG4.out;have hs4:w.heap.size<w4.heap.size:=gI pY hw4;have hT4:w.heap.size+1<w4.heap.size:=gI rJ hw4;go_upto_region 17 with (go_at_call 39;refine HCP4.out.mono ?_;rintro ev w5 ⟨v1,rfl,hn5,hb5⟩;have K5:=aB KG4.out hs4 hb5;have F5:=aH FG4.out hs4 hb5;obtain⟨y0,y1,y2,y3,y4,y5,y6⟩:=gA7 K5;obtain⟨f0,f1,f2,f3,f4,f5,f6⟩:=gF7 F5;skip)
    have nS:SR w5 w.heap.size (fun k=>k<w.heap.size∨k=w.heap.size+1) s v1:=SR.lift hn5 hs4 (fun k hk=>gI (hX1 k hk) hw4) (by omega);have HS6:=gO (SS.put7 nS K5 F5);have hoff:=fQ.Ja hn5 Xi.out (Nat.le_refl _);have HR6:Hid (HR (((((((w5.setCell ⟨w.heap.size,0,none⟩ (.slice v1.a1 v1.n1 v1.c1)).setCell ⟨w.heap.size,1,none⟩ (.slice v1.hc.az 2 v1.hc.cz)).setCell ⟨w.heap.size,2,none⟩ (.slice v1.hc.am 2 v1.hc.cm)).setCell ⟨w.heap.size,3,none⟩ (.int .i64 (s.h.aC:Int))).setCell ⟨w.heap.size,4,none⟩ (.slice v1.hc.al v1.hc.lc.length v1.hc.cl)).setCell ⟨w.heap.size,5,none⟩ (.slice v1.hc.av s.h.live.length v1.hc.cv)).setCell ⟨w.heap.size,6,none⟩ (.slice v1.a2 v1.ys.length v1.c2)) w.heap.size (fun k=>k<w.heap.size∨k=w.heap.size+1) h' c'):=((((((((Xi.out.below hb5).fO 0 _).fO 1 _).fO 2 _).fO 3 _).fO 4 _).fO 5 _).fO 6 _)
    have HOF:=gO hoff;have KT6:=gO (oD (T:=w.heap.size) (aB KT4.out hT4 hb5) (by omega) v1 s);have FT6:=gO (IZ (T:=w.heap.size) (aH FT4.out hT4 hb5) v1 s);have K146:=gO (oD (T:=w.heap.size) (aB Na.out MZ hb5) hBne v1 s);have HB6:=gO (fK (T:=w.heap.size) (Below.step HB4.out hb5) (Nat.le_refl _) v1 s);clear K5 F5 y0 y1 y2 y3 y4 y5 y6 f0 f1 f2 f3 f4 f5 f6 k0 k1 k2 k3 k4 k5 k6 nS hoff hn5 hb5 HCP4 KG4 FG4 KT4 FT4 Xi Na HB4;generalize ((((((w5.setCell _ _).setCell _ _).setCell _ _).setCell _ _).setCell _ _).setCell _ _).setCell _ _=w6 at*;obtain⟨x0,x1,x2,x3,x4⟩:=gA5 K146.out;obtain⟨g0,g1,g2,g3,g4,g5,g6⟩:=gA7 HS6.out.k;obtain⟨f0,f1,f2,f3,f4,f5,f6⟩:=gF7 HS6.out.fz;go_upto_region 18 with fail
    have hput:=HS6.out.putH2 HR6.out HOF.out;have jT:=gO hput.1;have KT7:=(aA (aA (aA (aA (aA KT6.out (show w.heap.size+1≠w.heap.size by omega) 1 (.slice c'.az 2 c'.cz)) (show w.heap.size+1≠w.heap.size by omega) 2 (.slice c'.am 2 c'.cm)) (show w.heap.size+1≠w.heap.size by omega) 3 (.int .i64 (h'.aC:Int))) (show w.heap.size+1≠w.heap.size by omega) 4 (.slice c'.al c'.lc.length c'.cl)) (show w.heap.size+1≠w.heap.size by omega) 5 (.slice c'.av h'.live.length c'.cv))
    have jE:=gO KT7;have tJ:=gO (aG (aG (aG (aG (aG FT6.out ⟨w.heap.size,1,none⟩ (.slice c'.az 2 c'.cz)) ⟨w.heap.size,2,none⟩ (.slice c'.am 2 c'.cm)) ⟨w.heap.size,3,none⟩ (.int .i64 (h'.aC:Int))) ⟨w.heap.size,4,none⟩ (.slice c'.al c'.lc.length c'.cl)) ⟨w.heap.size,5,none⟩ (.slice c'.av h'.live.length c'.cv));have tK:Hid (Below w.heap.size w (((((w6.setCell ⟨w.heap.size,1,none⟩ (.slice c'.az 2 c'.cz)).setCell ⟨w.heap.size,2,none⟩ (.slice c'.am 2 c'.cm)).setCell ⟨w.heap.size,3,none⟩ (.int .i64 (h'.aC:Int))).setCell ⟨w.heap.size,4,none⟩ (.slice c'.al c'.lc.length c'.cl)).setCell ⟨w.heap.size,5,none⟩ (.slice c'.av h'.live.length c'.cv))):=Safe.after HB6.out hput.2 (fun k hk=> .inl hk) HB6.out.size;clear x0 x1 x2 x3 x4 g0 g1 g2 g3 g4 g5 g6 f0 f1 f2 f3 f4 f5 f6 hput KT7 HS6 HR6 HOF KT6 FT6 K146 HB6;generalize ((((w6.setCell _ _).setCell _ _).setCell _ _).setCell _ _).setCell _ _=w7 at*;obtain⟨z0,z1,z2,z3,z4,z5,z6⟩:=gA7 jT.out.k;obtain⟨q0,q1,q2,q3,q4,q5,q6⟩:=gA7 jE.out;obtain⟨f0,f1,f2,f3,f4,f5,f6⟩:=gF7 tJ.out;have eG:=out7 jT.out (T:=w.heap.size+1) (.inr rfl) (fun k hk=> .inl hk) (Nat.lt_succ_self _) jE.out tK.out
    dsimp only at eG
    have KX:=eG.1;have nP:=gO eG.2.1;have jF:=gO eG.2.2;have hw64:wrap64 (16*(a:Int))=16*(a:Int):=IntWalk.wrap64_in _ (by have:=HA.out h' a rfl;omega);have hmul:(a:Int)*16=16*(a:Int):=Int.mul_comm _ _;clear eG jT jE tJ tK;go_wp2_with fail
    try rw[hmul]
    generalize ((((((w7.setCell _ _).setCell _ _).setCell _ _).setCell _ _).setCell _ _).setCell _ _).setCell _ _=wx at*;exact bodyPost_ret (v:= .tuple #[.agg #[.slice v1.a1 v1.n1 v1.c1,.slice c'.az 2 c'.cz,.slice c'.am 2 c'.cm,.int .i64 (h'.aC:Int),.slice c'.al c'.lc.length c'.cl,.slice c'.av h'.live.length c'.cv,.slice v1.a2 v1.ys.length v1.c2],.int .i64 (16*(a:Int)),.int .i64 0]) (by simp[results,Tryz.results29,go_sem,KX,hmul,hw64]) rfl (.inr ⟨{s with h:=h'},16*(a:Int),{v1 with hc:=c'},HE.out,rfl,nP.out,jF.out⟩)
end
end Go.Proofs.YtcmpmobhongkiaaGreatDoor
