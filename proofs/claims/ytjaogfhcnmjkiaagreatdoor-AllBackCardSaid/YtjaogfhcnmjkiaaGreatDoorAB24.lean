/- joined. -/
import Derived.Test.YtjaogfhcnmjkiaaGreatDoorAB23
set_option linter.all false
set_option maxRecDepth 100000
set_option maxHeartbeats 0
namespace Go.Proofs.YtjaogfhcnmjkiaaGreatDoor
open Go.RowKit
open Go.Value renaming slice->aA,int->aB,agg->aC,string->aF,tuple->aG,pointer->aH,ownBlock->gTh
open Go.IntKind renaming i64->aI
open Option renaming none->aJ,some->aK
open Go.Ending renaming returned->aN
open Go.Obj renaming cells->aO
open Go.Proofs.Tryz
variable {a:Int}{s:Sy}
theorem shl16 {o:Nat}(h:o<=4):wrap64 (16*2^o)=((16*2^o:Nat):Int):=by
 obtain rfl | rfl | rfl | rfl | rfl:o=0∨o=1∨o=2∨o=3∨o=4:=by omega
 all_goals decide+kernel
theorem PE (v:Sc)(s:Sy)(cpu n:Nat)(w:World)(hs:nO w v s)(hk:cZ s)(hf:∀c∈s.cs,c.ns.length<=1000)(dA:cpu<s.h.aP)(ho:vP w)(hsz:Bg w)(h1:33<=n)(h2:n<=256):
 Calls prog 55 #[aC #[aA v.a1 v.n1 v.c1,aA v.hc.az 2 v.hc.cz,aA v.hc.am 2 v.hc.cm,aB aI (s.h.aP:Int),aA v.hc.al v.hc.lc.length v.hc.cl,aA v.hc.av s.h.live.length v.hc.cv,aA v.a2 v.ys.length v.c2],aB aI cpu,aB aI n] w (zH (s.dL cpu n) w):=by
 obtain⟨K1,K2,F1,F2,i,z⟩:=boxes2 w #[aA v.a1 v.n1 v.c1,aA v.hc.az 2 v.hc.cz,aA v.hc.am 2 v.hc.cm,aB aI (s.h.aP:Int),aA v.hc.al v.hc.lc.length v.hc.cl,aA v.hc.av s.h.live.length v.hc.cv,aA v.a2 v.ys.length v.c2] 42 #[aA aJ 0 0,aA aJ 0 0,aA aJ 0 0,aB aI 0,aA aJ 0 0,aA aJ 0 0,aA aJ 0 0] 42;have A:=hs.below z;generalize hw1:(w.alloc (aO #[aA v.a1 v.n1 v.c1,aA v.hc.az 2 v.hc.cz,aA v.hc.am 2 v.hc.cm,aB aI (s.h.aP:Int),aA v.hc.al v.hc.lc.length v.hc.cl,aA v.hc.av s.h.live.length v.hc.cv,aA v.a2 v.ys.length v.c2] 42)).alloc (aO #[aA aJ 0 0,aA aJ 0 0,aA aJ 0 0,aB aI 0,aA aJ 0 0,aA aJ 0 0,aA aJ 0 0] 42)=L at*;have uK:=gO (nJ v s L A hk hf);have WY:Hid (∀W,Below L.heap.size L W->Calls prog 108 #[aB aI n] W λj p=>j=aN (aG #[aF ⟨#[]⟩,.bool false])/\W=p):=λW hW=>Pq n W ((hsz.below z).below hW) (by omega)
 obtain⟨hO2,hO4,hOn,_,V⟩:=zB h1 h2;obtain⟨I,Xf⟩:∃I,s.h.alloc cpu (rM n) 0 false false=I:=⟨_,rfl⟩
 have aHx:s.dL cpu n=s.RZ I:=by
  unfold Sy.dL;rw[if_neg (by omega),Xf]
 rw[aHx];have hA:∀d a,I=aK (d,a)->a<=256:=λd a e=>by
  rw[<- Xf]at e;obtain⟨_,_,_,_,_,_,h5,_⟩:=hk.hk.alloc dA (by omega) (by decide) e;omega
 have HA:=gO hA;clear hA;obtain⟨O,hO⟩:∃O,rM n=O:=⟨_,rfl⟩
 rw[hO]at hO2 hO4 hOn V Xf;have HOL:=gO V;have HPA:Hid (∀W,Below L.heap.size L W->Calls prog 52 #[aC #[aA v.hc.az 2 v.hc.cz,aA v.hc.am 2 v.hc.cm,aB aI (s.h.aP:Int),aA v.hc.al v.hc.lc.length v.hc.cl,aA v.hc.av s.h.live.length v.hc.cv],aB aI cpu,aB aI (O:Int),aB aI ((0:Nat):Int)] W λj p=>Below W.heap.size W p/\((I=aJ/\j=aN (aG #[aC #[aA aJ 0 0,aA aJ 0 0,aB aI 0,aA aJ 0 0,aA aJ 0 0],aB aI 0,aB aI 6]))∨(∃(d:Hp) (a:Nat) (b:Hc),I=aK (d,a)/\j=aN (aG #[.agg (b.vals d),aB aI (a:Nat),aB aI 0])/\lN p W.heap.size d b))):=λW hW=>by
  have h:=CB v.hc.az v.hc.am v.hc.al v.hc.av v.hc.cz v.hc.cm v.hc.cl v.hc.cv v.hc.lc.length s.h.live.length v.hc.y0 v.hc.y1 v.hc.lc s.h cpu O 0 W (A.below hW).hh hk.hk (by have:=(A.hh.ll);have h9:=congrArg List.length this;rw[gTe]at h9;rw[h9];have:=hk.hk.pK;omega) (by have:=hk.hk.jM;omega) dA hO4 (by decide) (by decide) ((ho.below z).below hW);have e0:s.h.alloc cpu O (mP 0) (decide (0/8%2=1)) (decide (0%2=1))=I:=Xf;rw[e0]at h;exact h
 obtain⟨k0,k1,k2,k3,k4,k5,k6⟩:=gA7 K1;have HB1:=gO z;have C:=gO K1;have R:=gO F1;have F:=gO K2;have G:=gO F2;have Ot:Hid (∀W,Below L.heap.size L W->Calls prog 12 #[aC #[aA v.a1 v.n1 v.c1,aA v.hc.az 2 v.hc.cz,aA v.hc.am 2 v.hc.cm,aB aI (s.h.aP:Int),aA v.hc.al v.hc.lc.length v.hc.cl,aA v.hc.av s.h.live.length v.hc.cv,aA v.a2 v.ys.length v.c2]] W λj p=>∃m,j=aN (aC #[aA m.a1 m.n1 m.c1,aA m.hc.az 2 m.hc.cz,aA m.hc.am 2 m.hc.cm,aB aI (s.h.aP:Int),aA m.hc.al m.hc.lc.length m.hc.cl,aA m.hc.av s.h.live.length m.hc.cv,aA m.a2 m.ys.length m.c2])/\iI p W.heap.size s m/\Below W.heap.size W p):=λW hW=>qV v s W (A.below hW) hk hf
 have hn1:¬(n:Int)<1:=by omega
 have u:w.heap.size<L.heap.size:=by omega
 clear hs hk hf A K1 K2 F1 F2 z hsz aHx Xf hO V ho;go_enter func55,ntmps55
 go_upto_region 1 with fail
 try rw[hw1]
 go_upto_region 9 with (first | (go_at_call 11;refine uK.out.mono ?_;rintro j w2 ⟨rfl,Y⟩) | (go_at_call 108;refine(WY.out _ Y).mono ?_;rintro j p ⟨rfl,rfl⟩))
 have HB12:=gO Y;clear k0 k1 k2 k3 k4 k5 k6 uK WY Y;go_wp2_with fail
 go_loopw [38] (λX wr=>∃o:Nat,o<=O/\X=aB aI (o:Int)/\wr=w2) (λX _=>5-(intOf X).toNat)
 case atStart=>exact⟨0,by omega,rfl,rfl⟩
 case round=>
  obtain⟨o,ho,rfl,rfl⟩:=hrel;have aPb:(o:Int)<5:=by omega
  have hsh:=shl16 (o:=o) (by omega);by_cases hlt:o<O
  ·have hP:=HOL.out o hlt;generalize y:16*2^o=P at hP;have hPi:(P:Int)<n:=by omega
   rw[y]at hsh;clear y;go_wp2
   go_roundw
   case rel=>exact⟨o+1,by omega,by go_num,by first | rfl | trivial⟩
   case measure=>simp[intOf];omega
  ·obtain rfl:o=O:=by omega
   generalize y:16*2^o=P at hOn;have hPi:¬(P:Int)<n:=by omega
   rw[y]at hsh;clear y;have q:=HB12.out;have K12:=aQ C.out u q;obtain⟨k0,k1,k2,k3,k4,k5,k6⟩:=gA7 K12;have E:=HPA.out wr q;clear HPA;have AB:w.heap.size<wr.heap.size:=gI u q.size;have AL:w.heap.size+1<wr.heap.size:=gI i q.size;cases I with
   | none=>
    have HPN:Hid (Calls prog 52 #[aC #[aA v.hc.az 2 v.hc.cz,aA v.hc.am 2 v.hc.cm,aB aI (s.h.aP:Int),aA v.hc.al v.hc.lc.length v.hc.cl,aA v.hc.av s.h.live.length v.hc.cv],aB aI cpu,aB aI (o:Int),aB aI 0] wr λj p=>j=aN (aG #[aC #[aA aJ 0 0,aA aJ 0 0,aB aI 0,aA aJ 0 0,aA aJ 0 0],aB aI 0,aB aI 6])/\Below wr.heap.size wr p):=by
     refine E.mono ?_;rintro j p ⟨hb,(⟨_,h⟩ | ⟨d,a',b,h,_⟩)⟩
     ·exact⟨h,hb⟩
     ·cases h
    have HE:Hid (s.RZ aJ=aJ):=rfl;clear E;go_upto_region 14 with (go_at_call 52;refine HPN.out.mono ?_;rintro j t ⟨rfl,x⟩)
    have g:=gW x (aT t (aO #[aA aJ 0 0,aA aJ 0 0,aB aI 0,aA aJ 0 0,aA aJ 0 0] 39));have S:=gO (aQ (aQ F.out i q) AL g);have xB:=gO (aU (aU G.out i q) AL g);have xC:=gO (gW (gW HB1.out q) g);clear x g F G C R K12 k0 k1 k2 k3 k4 k5 k6 HPN Ot;generalize t.alloc _=w4 at*;generalize t.heap.size=B14 at*;obtain⟨q0,q1,q2,q3,q4,q5,q6⟩:=gA7 S.out;obtain⟨f0,f1,f2,f3,f4,f5,f6⟩:=gF7 xB.out;have lS:=nil7 S.out xC.out (show w.heap.size<=w.heap.size+1 by omega);have KX:=lS.1;have kP:=gO lS.2;clear lS S xB xC;go_wp2_with fail
    generalize ((((((w4.setCell _ _).setCell _ _).setCell _ _).setCell _ _).setCell _ _).setCell _ _).setCell _ _=wx at*;exact bodyPost_ret (v:=aG #[aC #[aA aJ 0 0,aA aJ 0 0,aA aJ 0 0,aB aI 0,aA aJ 0 0,aA aJ 0 0,aA aJ 0 0],aB aI 0,aB aI 6]) (by simp[results,results55,go_sem,KX]) rfl (.inl ⟨HE.out,rfl,kP.out⟩)
   | some r=>
    obtain⟨d,a⟩:=r;have Xg:Hid (Calls prog 52 #[aC #[aA v.hc.az 2 v.hc.cz,aA v.hc.am 2 v.hc.cm,aB aI (s.h.aP:Int),aA v.hc.al v.hc.lc.length v.hc.cl,aA v.hc.av s.h.live.length v.hc.cv],aB aI cpu,aB aI (o:Int),aB aI 0] wr λj p=>∃b,j=aN (aG #[aC #[aA b.az 2 b.cz,aA b.am 2 b.cm,aB aI (d.aP:Int),aA b.al b.lc.length b.cl,aA b.av d.live.length b.cv],aB aI (a:Int),aB aI 0])/\lN p wr.heap.size d b/\Below wr.heap.size wr p):=by
     refine E.mono ?_;rintro j p ⟨hb,(⟨h,_⟩ | ⟨h'',a',b,h,h1,h2⟩)⟩
     ·cases h
     ·obtain⟨rfl,rfl⟩:d=h''/\a=a':=by simpa using h
      exact⟨b,h1,h2,hb⟩
    have HE:Hid (s.RZ (aK (d,a))=aK ({s with h:=d},16*(a:Int))):=rfl;clear E;go_upto_region 14 with (go_at_call 52;refine Xg.out.mono ?_;rintro j t ⟨b,rfl,hn3,x⟩)
    have ba:=aT t (aO #[aA b.az 2 b.cz,aA b.am 2 b.cm,aB aI (d.aP:Int),aA b.al b.lc.length b.cl,aA b.av d.live.length b.cv] 39);have K14:=bI t #[aA b.az 2 b.cz,aA b.am 2 b.cm,aB aI (d.aP:Int),aA b.al b.lc.length b.cl,aA b.av d.live.length b.cv] 39;have g:=gW x ba;have ZG:t.heap.size<(t.alloc (aO #[aA b.az 2 b.cz,aA b.am 2 b.cm,aB aI (d.aP:Int),aA b.al b.lc.length b.cl,aA b.av d.live.length b.cv] 39)).heap.size:=by simp
    have aK3:wr.heap.size<=t.heap.size:=x.size;have hX1:∀k,(k<w.heap.size∨k=w.heap.size+1)->k<wr.heap.size:=λk hk=>by omega
    have hHR:HR (t.alloc (aO #[aA b.az 2 b.cz,aA b.am 2 b.cm,aB aI (d.aP:Int),aA b.al b.lc.length b.cl,aA b.av d.live.length b.cv] 39)) w.heap.size (λk=>k<w.heap.size∨k=w.heap.size+1) d b:=(HR.lift hn3 AB hX1 (by omega)).below ba;have HHR:=gO hHR;have Q:=gO (aQ (aQ C.out u q) AB g);have FG4:=gO (aU (aU R.out u q) AB g);have KT4:=gO (aQ (aQ F.out i q) AL g);have FT4:=gO (aU (aU G.out i q) AL g);have HB4:=gO (gW (gW HB1.out q) g);have M:=gO (Ot.out _ (q.trans (g.mono q.size)));have ZH:=gO K14;have N:wr.heap.size<=(t.alloc (aO #[aA b.az 2 b.cz,aA b.am 2 b.cm,aB aI (d.aP:Int),aA b.al b.lc.length b.cl,aA b.av d.live.length b.cv] 39)).heap.size:=g.size;have hBne:t.heap.size≠w.heap.size:=by omega
    clear x g ba hHR K14 hn3 C R F G Xg Ot K12 k0 k1 k2 k3 k4 k5 k6;generalize t.alloc _=w4 at*;generalize t.heap.size=B14 at*;obtain⟨k0,k1,k2,k3,k4,k5,k6⟩:=gA7 Q.out;have hs4:w.heap.size<w4.heap.size:=gI AB N;have hT4:w.heap.size+1<w4.heap.size:=gI AL N;go_upto_region 17 with (go_at_call 12;refine M.out.mono ?_;rintro j w5 ⟨f,rfl,Z,l⟩;have K5:=aQ Q.out hs4 l;have F5:=aU FG4.out hs4 l;obtain⟨y0,y1,y2,y3,y4,y5,y6⟩:=gA7 K5;obtain⟨f0,f1,f2,f3,f4,f5,f6⟩:=gF7 F5;skip)
    have pV:SR w5 w.heap.size (λk=>k<w.heap.size∨k=w.heap.size+1) s f:=SR.lift Z hs4 (λk hk=>gI (hX1 k hk) N) (by omega);have D:=gO (SS.put7 pV K5 F5);have H:=iI.Uc Z HHR.out (gT _);have HR6:Hid (HR (((((((w5.setCell ⟨w.heap.size,0,aJ⟩ (aA f.a1 f.n1 f.c1)).setCell ⟨w.heap.size,1,aJ⟩ (aA f.hc.az 2 f.hc.cz)).setCell ⟨w.heap.size,2,aJ⟩ (aA f.hc.am 2 f.hc.cm)).setCell ⟨w.heap.size,3,aJ⟩ (aB aI (s.h.aP:Int))).setCell ⟨w.heap.size,4,aJ⟩ (aA f.hc.al f.hc.lc.length f.hc.cl)).setCell ⟨w.heap.size,5,aJ⟩ (aA f.hc.av s.h.live.length f.hc.cv)).setCell ⟨w.heap.size,6,aJ⟩ (aA f.a2 f.ys.length f.c2)) w.heap.size (λk=>k<w.heap.size∨k=w.heap.size+1) d b):=((((((((HHR.out.below l).iQ 0 _).iQ 1 _).iQ 2 _).iQ 3 _).iQ 4 _).iQ 5 _).iQ 6 _)
    have HOF:=gO H;have KT6:=gO (mX (T:=w.heap.size) (aQ KT4.out hT4 l) (by omega) f s);have FT6:=gO (Ci (T:=w.heap.size) (aU FT4.out hT4 l) f s);have J:=gO (mX (T:=w.heap.size) (aQ ZH.out ZG l) hBne f s);have U:=gO (dX (T:=w.heap.size) (gW HB4.out l) (gT _) f s);clear K5 F5 y0 y1 y2 y3 y4 y5 y6 f0 f1 f2 f3 f4 f5 f6 k0 k1 k2 k3 k4 k5 k6 pV H Z l M Q FG4 KT4 FT4 HHR ZH HB4;generalize ((((((w5.setCell _ _).setCell _ _).setCell _ _).setCell _ _).setCell _ _).setCell _ _).setCell _ _=w6 at*;obtain⟨x0,x1,x2,x3,x4⟩:=gA5 J.out;obtain⟨g0,g1,g2,g3,g4,g5,g6⟩:=gA7 D.out.k;obtain⟨f0,f1,f2,f3,f4,f5,f6⟩:=gF7 D.out.fz;go_upto_region 18 with fail
    have B:=D.out.putH2 HR6.out HOF.out;have kH:=gO B.1;have KT7:=(aS (aS (aS (aS (aS KT6.out (show w.heap.size+1≠w.heap.size by omega) 1 (aA b.az 2 b.cz)) (show w.heap.size+1≠w.heap.size by omega) 2 (aA b.am 2 b.cm)) (show w.heap.size+1≠w.heap.size by omega) 3 (aB aI (d.aP:Int))) (show w.heap.size+1≠w.heap.size by omega) 4 (aA b.al b.lc.length b.cl)) (show w.heap.size+1≠w.heap.size by omega) 5 (aA b.av d.live.length b.cv))
    have S:=gO KT7;have xB:=gO (aV (aV (aV (aV (aV FT6.out ⟨w.heap.size,1,aJ⟩ (aA b.az 2 b.cz)) ⟨w.heap.size,2,aJ⟩ (aA b.am 2 b.cm)) ⟨w.heap.size,3,aJ⟩ (aB aI (d.aP:Int))) ⟨w.heap.size,4,aJ⟩ (aA b.al b.lc.length b.cl)) ⟨w.heap.size,5,aJ⟩ (aA b.av d.live.length b.cv));have xC:Hid (Below w.heap.size w (((((w6.setCell ⟨w.heap.size,1,aJ⟩ (aA b.az 2 b.cz)).setCell ⟨w.heap.size,2,aJ⟩ (aA b.am 2 b.cm)).setCell ⟨w.heap.size,3,aJ⟩ (aB aI (d.aP:Int))).setCell ⟨w.heap.size,4,aJ⟩ (aA b.al b.lc.length b.cl)).setCell ⟨w.heap.size,5,aJ⟩ (aA b.av d.live.length b.cv))):=Safe.after U.out B.2 (λk hk=> .inl hk) U.out.size;clear x0 x1 x2 x3 x4 g0 g1 g2 g3 g4 g5 g6 f0 f1 f2 f3 f4 f5 f6 B KT7 D HR6 HOF KT6 FT6 J U;generalize ((((w6.setCell _ _).setCell _ _).setCell _ _).setCell _ _).setCell _ _=w7 at*;obtain⟨z0,z1,z2,z3,z4,z5,z6⟩:=gA7 kH.out.k;obtain⟨q0,q1,q2,q3,q4,q5,q6⟩:=gA7 S.out;obtain⟨f0,f1,f2,f3,f4,f5,f6⟩:=gF7 xB.out;have iH:=out7 kH.out (T:=w.heap.size+1) (.inr rfl) (λk hk=> .inl hk) (Nat.lt_succ_self _) S.out xC.out
    dsimp only at iH
    have KX:=iH.1;have pO:=gO iH.2.1;have kP:=gO iH.2.2;have hw64:wrap64 (16*(a:Int))=16*(a:Int):=IntWalk.wrap64_in _ (by have:=HA.out d a rfl;omega);have K:(a:Int)*16=16*(a:Int):=Int.mul_comm _ _;clear iH kH S xB xC;go_wp2_with fail
    try rw[K]
    generalize ((((((w7.setCell _ _).setCell _ _).setCell _ _).setCell _ _).setCell _ _).setCell _ _).setCell _ _=wx at*;exact bodyPost_ret (v:=aG #[aC #[aA f.a1 f.n1 f.c1,aA b.az 2 b.cz,aA b.am 2 b.cm,aB aI (d.aP:Int),aA b.al b.lc.length b.cl,aA b.av d.live.length b.cv,aA f.a2 f.ys.length f.c2],aB aI (16*(a:Int)),aB aI 0]) (by simp[results,results55,go_sem,KX,K,hw64]) rfl (.inr ⟨{s with h:=d},16*(a:Int),{f with hc:=b},HE.out,rfl,pO.out,kP.out⟩)
theorem Gq (hk:cZ s){i k:Nat}(h:s.pG a=aK (i,k)){ev:Ending}(hp:DF s a ev):ev=aN (aG #[aB aI (i:Int),aB aI (k:Int),aB aI 0]):=by
 rcases hp with ⟨c,d,b,rfl⟩ | ⟨b,_⟩
 ·obtain⟨rfl,rfl⟩:=hk.uX b (uF h);rfl
 ·exact absurd (uF h) (b i k)
theorem Gs (h:s.pG a=aJ){ev:Ending}(hp:DF s a ev):ev=aN (aG #[aB aI 0,aB aI 0,aB aI 4]):=by
 rcases hp with ⟨c,d,b,_⟩ | ⟨_,rfl⟩
 ·exact absurd b (Ws h c d)
 ·rfl
theorem xH (hk:cZ s){b:Bk}(h:s.kX a=aK b){ev:Ending}(hp:wZ s a ev):∃hi:lb s.h.live b.a<s.h.live.length,s.h.live[lb s.h.live b.a]=b/\ev=aN (aG #[aB aI (lb s.h.live b.a:Int),.bool true]):=by
 obtain⟨c,f⟩:=qF h;rcases hp with ⟨p,d,g,i,rfl⟩ | ⟨d,_⟩
 ·obtain rfl:p=b.a:=by omega
  obtain⟨hi,e⟩:=gK.1 (lZ hk.hk.vs c.1);exact⟨hi,e,rfl⟩
 ·exact absurd f (d b c)
theorem xI (h:s.kX a=aJ){ev:Ending}(hp:wZ s a ev):∃i:Nat,ev=aN (aG #[aB aI (i:Int),.bool false]):=by
 rcases hp with ⟨p,g,f,c,_⟩ | ⟨_,h⟩
 ·exfalso;unfold hasB at c;obtain⟨b,hb,e⟩:=List.any_eq_true.1 c;have d:=of_decide_eq_true e;exact RY h b (dK.2 ⟨hb,by rw[d];exact f⟩) (by rw[d];exact g)
 ·exact h
theorem DT {i k:Nat}{c:Ca}(h:s.iE a=aK (i,k,c)):s.pG a=aK (i,k)/\s.cs[i]? =aK c/\kZ c.ns=true:=by
 unfold Sy.iE at h;cases hf:s.pG a with
 | none=>rw[hf]at h;cases h
 | some p=>
  obtain⟨d,e⟩:=p;rw[hf]at h;simp only at h;cases hc:s.cs[d]? with
  | none=>rw[hc]at h;cases h
  | some c'=>
   rw[hc]at h;simp only at h;split at h
   ·rename_i hm;have b:=gP h;simp only[Prod.mk.injEq]at b;obtain⟨rfl,rfl,rfl⟩:=b;exact⟨rfl,hc,hm⟩
   ·cases h
def Js (r:Option Nat)(ev:Ending):Prop:=ev=match r with
 | some m=> aN (aG #[aB aI (m:Int),aB aI 0])
 | none=> aN (aG #[aB aI 0,aB aI 4])
theorem Wu (v:Sc)(s:Sy)(a:Int)(w:World)(hs:nO w v s)(hk:cZ s)(hf:∀c∈s.cs,c.ns.length<=1000)(hsz:Bg w)(hab: -1000000<=a/\a<=10000):
 Calls prog 17 #[aC #[aA v.a1 v.n1 v.c1,aA v.hc.az 2 v.hc.cz,aA v.hc.am 2 v.hc.cm,aB aI (s.h.aP:Int),aA v.hc.al v.hc.lc.length v.hc.cl,aA v.hc.av s.h.live.length v.hc.cv,aA v.a2 v.ys.length v.c2],aB aI a] w λev w'=>Js (s.iG a) ev/\Below w.heap.size w w':=by
 obtain⟨K1,F1,e,S⟩:=boxes1 w #[aA v.a1 v.n1 v.c1,aA v.hc.az 2 v.hc.cz,aA v.hc.am 2 v.hc.cm,aB aI (s.h.aP:Int),aA v.hc.al v.hc.lc.length v.hc.cl,aA v.hc.av s.h.live.length v.hc.cv,aA v.a2 v.ys.length v.c2] 42;have I:=hs.below S;obtain⟨rZ,ZI⟩:∃rZ,s.iG a=rZ:=⟨_,rfl⟩
 rw[ZI];generalize hw1:w.alloc (aO #[aA v.a1 v.n1 v.c1,aA v.hc.az 2 v.hc.cz,aA v.hc.am 2 v.hc.cm,aB aI (s.h.aP:Int),aA v.hc.al v.hc.lc.length v.hc.cl,aA v.hc.av s.h.live.length v.hc.cv,aA v.a2 v.ys.length v.c2] 42)=w1 at*;have uK:=gO (nJ v s w1 I hk hf);have Xb:Hid (∀W,Below w1.heap.size w1 W->Calls prog 18 #[aC #[aA v.a1 v.n1 v.c1,aA v.hc.az 2 v.hc.cz,aA v.hc.am 2 v.hc.cm,aB aI (s.h.aP:Int),aA v.hc.al v.hc.lc.length v.hc.cl,aA v.hc.av s.h.live.length v.hc.cv,aA v.a2 v.ys.length v.c2],aB aI a] W λev w'=>DF s a ev/\Below W.heap.size W w'):=λW hW=>Jg v s a W (I.below hW) hk hf (by omega)
 have Y:Hid (∀W,Below w1.heap.size w1 W->Calls prog 41 #[aC #[aA v.a1 v.n1 v.c1,aA v.hc.az 2 v.hc.cz,aA v.hc.am 2 v.hc.cm,aB aI (s.h.aP:Int),aA v.hc.al v.hc.lc.length v.hc.cl,aA v.hc.av s.h.live.length v.hc.cv,aA v.a2 v.ys.length v.c2],aB aI a] W λev w'=>wZ s a ev/\Below W.heap.size W w'):=λW hW=>Jo v s a W (I.below hW) hk hab
 have D:=gO I;have Q:=gO hk;have HF:=gO hf;have kH:=gO (hsz.below S);have J:=gO S;have E:=gO K1;have Ue:=gO ZI;obtain⟨C,k1,k2,u,B,g,l⟩:=gA7 K1;clear hs hk hf I K1 F1 S hsz ZI;go_enter func17,ntmps17
 go_upto_region 1 with fail
 try rw[hw1]
 clear hw1;go_upto_region 4 with (go_at_call 11;refine uK.out.mono ?_;rintro ev w2 ⟨rfl,X⟩)
 have K12:=aQ E.out e X;clear C k1 k2 u B g l uK;have A:=gO (Xb.out w2 X);have V:=gO X;obtain⟨C,k1,k2,u,B,g,l⟩:=gA7 K12;clear K12 Xb X;cases hfo:s.pG a with
 | none=>
  have hm:s.iE a=aJ:=by
   unfold Sy.iE;rw[hfo]
  have HFN:Hid (Calls prog 18 #[aC #[aA v.a1 v.n1 v.c1,aA v.hc.az 2 v.hc.cz,aA v.hc.am 2 v.hc.cm,aB aI (s.h.aP:Int),aA v.hc.al v.hc.lc.length v.hc.cl,aA v.hc.av s.h.live.length v.hc.cv,aA v.a2 v.ys.length v.c2],aB aI a] w2 λev w'=>ev=aN (aG #[aB aI 0,aB aI 0,aB aI 4])/\Below w2.heap.size w2 w'):=by
   refine A.out.mono ?_;rintro ev w' ⟨h,hb⟩;exact⟨Gs hfo h,hb⟩
  have HM:=gO hm;clear A hfo hm;go_upto_region 7 with (go_at_call 18;refine HFN.out.mono ?_;rintro ev N ⟨rfl,P⟩)
  have f:=gO (gW V.out P);clear HFN C k1 k2 u B g l P V;have K:=aQ E.out e f.out;obtain⟨C,k1,k2,u,B,g,l⟩:=gA7 K;have d:=gO (Y.out N f.out);clear K Y;cases hwo:s.kX a with
  | none=>
   have Z:Hid (rZ=aJ):=by
    unfold Hid;rw[<- Ue.out];unfold Sy.iG;rw[HM.out];simp only[hwo];rfl
   have HWN:Hid (Calls prog 41 #[aC #[aA v.a1 v.n1 v.c1,aA v.hc.az 2 v.hc.cz,aA v.hc.am 2 v.hc.cm,aB aI (s.h.aP:Int),aA v.hc.al v.hc.lc.length v.hc.cl,aA v.hc.av s.h.live.length v.hc.cv,aA v.a2 v.ys.length v.c2],aB aI a] N λev w'=>(∃j:Nat,ev=aN (aG #[aB aI (j:Int),.bool false]))/\Below N.heap.size N w'):=by
    refine d.out.mono ?_;rintro ev w' ⟨h,hb⟩;exact⟨xI hwo h,hb⟩
   clear d hwo;go_wp2_with (go_at_call 41;refine HWN.out.mono ?_;rintro ev w9 ⟨⟨j,rfl⟩,q⟩)
   exact bodyPost_ret (v:=aG #[aB aI 0,aB aI 4]) (by simp[results,results17,go_sem]) rfl ⟨by unfold Js;rw[Z.out],gW J.out (gW f.out q)⟩
  | some b=>
   have Z:Hid (rZ=aK (16*2^b.o)):=by
    unfold Hid;rw[<- Ue.out];unfold Sy.iG;rw[HM.out];simp only[hwo];rfl
   have n:=(qF hwo).1;obtain⟨M,t⟩:=gK.1 (lZ Q.out.hk.vs n.1);have H:Hid (Calls prog 41 #[aC #[aA v.a1 v.n1 v.c1,aA v.hc.az 2 v.hc.cz,aA v.hc.am 2 v.hc.cm,aB aI (s.h.aP:Int),aA v.hc.al v.hc.lc.length v.hc.cl,aA v.hc.av s.h.live.length v.hc.cv,aA v.a2 v.ys.length v.c2],aB aI a] N λev w'=>ev=aN (aG #[aB aI (lb s.h.live b.a:Int),.bool true])/\Below N.heap.size N w'):=by
    refine d.out.mono ?_;rintro ev w' ⟨h,hb⟩;obtain⟨_,_,h3⟩:=xH Q.out hwo h;exact⟨h3,hb⟩
   have Uw:b.o<=4:=(Q.out.hk.lv b n.1).1.1;have hsh:=shl16 Uw;have hll:=Q.out.hk.jM;generalize Xe:lb s.h.live b.a=L at M t H;have hLi:(L:Int)<s.h.live.length:=by omega
   have HLB:=gO t;clear d hwo n t Xe;go_upto_region 9 with (go_at_call 41;refine H.out.mono ?_;rintro ev w9 ⟨rfl,q⟩)
   have r:=gW f.out q;have O:=aQ E.out e r;clear C k1 k2 u B g l;obtain⟨C,k1,k2,u,B,g,l⟩:=gA7 O;obtain⟨ab,ao,hav,hal,m⟩:=aZ aX (by decide) (D.out.below r).hh.vr M;rw[HLB.out]at m;obtain⟨d0,d1,d2⟩:=bZ m;rw[hav]at g;clear O m;go_wp2_with fail
   rw[hsh];exact bodyPost_ret (v:=aG #[aB aI ((16*2^b.o:Nat):Int),aB aI 0]) (by simp[results,results17,go_sem]) rfl ⟨by unfold Js;rw[Z.out],gW J.out r⟩
 | some p=>
  obtain⟨i,k⟩:=p;obtain⟨c,x,hc,hx,ho⟩:=uF hfo;have HFS:Hid (Calls prog 18 #[aC #[aA v.a1 v.n1 v.c1,aA v.hc.az 2 v.hc.cz,aA v.hc.am 2 v.hc.cm,aB aI (s.h.aP:Int),aA v.hc.al v.hc.lc.length v.hc.cl,aA v.hc.av s.h.live.length v.hc.cv,aA v.a2 v.ys.length v.c2],aB aI a] w2 λev w'=>ev=aN (aG #[aB aI (i:Int),aB aI (k:Int),aB aI 0])/\Below w2.heap.size w2 w'):=by
   refine A.out.mono ?_;rintro ev w' ⟨h,hb⟩;exact⟨Gq Q.out hfo h,hb⟩
  have hil:=(gK.1 hc).1;have hiy:i<v.ys.length:=by
   have h:=congrArg List.length D.out.cy;rw[gTe]at h;omega
  have hyl:v.ys.length<=20:=by
   have h:=congrArg List.length D.out.cy;rw[gTe]at h;rw[h];exact Q.out.cl
  have YW:v.ys[i].c=c:=by
   have h1:=congrArg (·[i]?) D.out.cy;simp only[List.getElem?_map,gJ hiy,Option.map_some]at h1;rw[hc]at h1;exact gP h1
  have hii:(i:Int)<v.ys.length:=by omega
  have HFO:=gO hfo;have Dz:=gO hc;have ZJ:=gO YW;clear A hfo hc hx ho hil YW;go_upto_region 5 with (go_at_call 18;refine HFS.out.mono ?_;rintro ev N ⟨rfl,P⟩)
  have F:=gW V.out P;have f:=gO F;have K13:=aQ E.out e F;clear HFS C k1 k2 u B g l P V;obtain⟨C,k1,k2,u,B,g,l⟩:=gA7 K13;have hs3:=D.out.below F;obtain⟨bb,off,hba,hbb,hbc⟩:=aZ eY (by decide) hs3.rc hiy;have U:=hs3.ca _ (gL hiy);obtain⟨y,hy⟩:∃y,v.ys[i]=y:=⟨_,rfl⟩
  rw[hy]at hbc U ZJ;obtain⟨e0,e1,e2,e3,e4,e5⟩:=kM hbc;rw[hba]at l;have hyn:y.n1<=1000000:=by
   rw[<- U.l1,ZJ.out];exact gQ (HF.out c (gM Dz.out)) (by decide)
  have OA:=gO (Pv y N U hyn (kH.out.below F));have hz:y.c.z=c.z:=by rw[ZJ.out]
  have hmy:kZ y.c.ns=kZ c.ns:=by rw[ZJ.out]
  rw[hmy]at OA;clear hmy;have HBC:=gO (fun(W:World) (hW:Below N.heap.size N W)=>(hW.cell (p:=⟨bb,off+i*6+1,aJ⟩) hbb).trans e1);have HK13:=gO K13;have hsz3:=gI e F.size;have Ia:=gO hba;clear K13 hs3 hba hbc U hy hyn F;cases hmb:kZ c.ns with
  | true=>
   rw[hmb]at OA;have hm:s.iE a=aK (i,k,c):=by
    unfold Sy.iE;rw[HFO.out];simp only[Dz.out,hmb,if_true]
   have Z:Hid (rZ=aK y.c.z):=by
    unfold Hid;rw[<- Ue.out,hz];unfold Sy.iG;rw[hm]
   clear hm hmb hz;go_upto_region 6 with (go_at_call 39;refine OA.out.mono ?_;rintro ev R ⟨rfl,G⟩)
   have K14:=aQ HK13.out hsz3 G;have e14:=HBC.out R G;clear C k1 k2 u B g l e0 e1 e2 e3 e4 e5;obtain⟨C,k1,k2,u,B,g,l⟩:=gA7 K14;rw[Ia.out]at l;clear K14;go_wp2_with fail
   exact bodyPost_ret (v:=aG #[aB aI (y.c.z:Int),aB aI 0]) (by simp[results,results17,go_sem]) rfl ⟨by unfold Js;rw[Z.out],gW J.out (gW f.out G)⟩
  | false=>
   rw[hmb]at OA;have hm:s.iE a=aJ:=by
    unfold Sy.iE;rw[HFO.out];simp only[Dz.out,hmb];rfl
   have HM:=gO hm;clear hm hmb hz;go_upto_region 7 with (go_at_call 39;refine OA.out.mono ?_;rintro ev R ⟨rfl,G⟩)
   have T:=gO (gW f.out G);clear C k1 k2 u B g l e0 e1 e2 e3 e4 e5 OA HBC HK13 Ia f G;have K:=aQ E.out e T.out;obtain⟨C,k1,k2,u,B,g,l⟩:=gA7 K;have d:=gO (Y.out R T.out);clear K Y;cases hwo:s.kX a with
   | none=>
    have Z:Hid (rZ=aJ):=by
     unfold Hid;rw[<- Ue.out];unfold Sy.iG;rw[HM.out];simp only[hwo];rfl
    have HWN:Hid (Calls prog 41 #[aC #[aA v.a1 v.n1 v.c1,aA v.hc.az 2 v.hc.cz,aA v.hc.am 2 v.hc.cm,aB aI (s.h.aP:Int),aA v.hc.al v.hc.lc.length v.hc.cl,aA v.hc.av s.h.live.length v.hc.cv,aA v.a2 v.ys.length v.c2],aB aI a] R λev w'=>(∃j:Nat,ev=aN (aG #[aB aI (j:Int),.bool false]))/\Below R.heap.size R w'):=by
     refine d.out.mono ?_;rintro ev w' ⟨h,hb⟩;exact⟨xI hwo h,hb⟩
    clear d hwo;go_wp2_with (go_at_call 41;refine HWN.out.mono ?_;rintro ev w9 ⟨⟨j,rfl⟩,q⟩)
    exact bodyPost_ret (v:=aG #[aB aI 0,aB aI 4]) (by simp[results,results17,go_sem]) rfl ⟨by unfold Js;rw[Z.out],gW J.out (gW T.out q)⟩
   | some b=>
    have Z:Hid (rZ=aK (16*2^b.o)):=by
     unfold Hid;rw[<- Ue.out];unfold Sy.iG;rw[HM.out];simp only[hwo];rfl
    have n:=(qF hwo).1;obtain⟨M,t⟩:=gK.1 (lZ Q.out.hk.vs n.1);have H:Hid (Calls prog 41 #[aC #[aA v.a1 v.n1 v.c1,aA v.hc.az 2 v.hc.cz,aA v.hc.am 2 v.hc.cm,aB aI (s.h.aP:Int),aA v.hc.al v.hc.lc.length v.hc.cl,aA v.hc.av s.h.live.length v.hc.cv,aA v.a2 v.ys.length v.c2],aB aI a] R λev w'=>ev=aN (aG #[aB aI (lb s.h.live b.a:Int),.bool true])/\Below R.heap.size R w'):=by
     refine d.out.mono ?_;rintro ev w' ⟨h,hb⟩;obtain⟨_,_,h3⟩:=xH Q.out hwo h;exact⟨h3,hb⟩
    have Uw:b.o<=4:=(Q.out.hk.lv b n.1).1.1;have hsh:=shl16 Uw;have hll:=Q.out.hk.jM;generalize Xe:lb s.h.live b.a=L at M t H;have hLi:(L:Int)<s.h.live.length:=by omega
    have HLB:=gO t;clear d hwo n t Xe;go_upto_region 9 with (go_at_call 41;refine H.out.mono ?_;rintro ev w9 ⟨rfl,q⟩)
    have r:=gW T.out q;have O:=aQ E.out e r;clear C k1 k2 u B g l;obtain⟨C,k1,k2,u,B,g,l⟩:=gA7 O;obtain⟨ab,ao,hav,hal,m⟩:=aZ aX (by decide) (D.out.below r).hh.vr M;rw[HLB.out]at m;obtain⟨d0,d1,d2⟩:=bZ m;rw[hav]at g;clear O m;go_wp2_with fail
    rw[hsh];exact bodyPost_ret (v:=aG #[aB aI ((16*2^b.o:Nat):Int),aB aI 0]) (by simp[results,results17,go_sem]) rfl ⟨by unfold Js;rw[Z.out],gW J.out r⟩
end Go.Proofs.YtjaogfhcnmjkiaaGreatDoor
