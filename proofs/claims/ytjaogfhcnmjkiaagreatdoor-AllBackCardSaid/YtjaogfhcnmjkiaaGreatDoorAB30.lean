/- joined. -/
import Derived.Test.YtjaogfhcnmjkiaaGreatDoorAB27
set_option linter.all false
set_option maxRecDepth 100000
set_option maxHeartbeats 0
namespace Go.Proofs.YtjaogfhcnmjkiaaGreatDoor
open Go.RowKit
open Go.Value renaming slice->aA,int->aB,agg->aC,string->aF,tuple->aG,pointer->aH,ownBlock->gTh
open Go.IntKind renaming i64->aI
open Option renaming none->aJ,some->aK
open Go.Ending renaming returned->aN
open Go.Obj renaming cells->aO
open Go.Proofs.Tryz
theorem Ui (v:Sc)(s:Sy)(ak au an am ap af:Int)(az:List UInt8)(r:Sy×An)(w:World)(hs:nO w v s)(hg:Ii s)(ho:vP w)(hsz:Bg w)(hd:Dn s ⟨ak,au,an,am,ap,af,az⟩ r):
 Calls prog 21 #[aC #[aA v.a1 v.n1 v.c1,aA v.hc.az 2 v.hc.cz,aA v.hc.am 2 v.hc.cm,aB aI (s.h.aP:Int),aA v.hc.al v.hc.lc.length v.hc.cl,aA v.hc.av s.h.live.length v.hc.cv,aA v.a2 v.ys.length v.c2],aC #[aB aI ak,aB aI au,aB aI an,aB aI am,aB aI ap,aB aI af,aF ⟨az.toArray⟩]] w (aBP v s r w):=by
 obtain⟨L,hL⟩:∃L:List (Array Value×TypeId),L=[(#[aA v.a1 v.n1 v.c1,aA v.hc.az 2 v.hc.cz,aA v.hc.am 2 v.hc.cm,aB aI (s.h.aP:Int),aA v.hc.al v.hc.lc.length v.hc.cl,aA v.hc.av s.h.live.length v.hc.cv,aA v.a2 v.ys.length v.c2],42),(#[aB aI ak,aB aI au,aB aI an,aB aI am,aB aI ap,aB aI af,aF ⟨az.toArray⟩],70),(#[aA aJ 0 0,aA aJ 0 0,aA aJ 0 0,aB aI 0,aA aJ 0 0,aA aJ 0 0,aA aJ 0 0],42),(#[aB aI 0,aB aI 0,aA aJ 0 0],72),(#[aA v.a1 v.n1 v.c1,aA v.hc.az 2 v.hc.cz,aA v.hc.am 2 v.hc.cm,aB aI (s.h.aP:Int),aA v.hc.al v.hc.lc.length v.hc.cl,aA v.hc.av s.h.live.length v.hc.cv,aA v.a2 v.ys.length v.c2],42),(#[aB aI 0,aB aI 0,aA aJ 0 0],72)]:=⟨_,rfl⟩
 have hw1:((((((w.alloc (aO #[aA v.a1 v.n1 v.c1,aA v.hc.az 2 v.hc.cz,aA v.hc.am 2 v.hc.cm,aB aI (s.h.aP:Int),aA v.hc.al v.hc.lc.length v.hc.cl,aA v.hc.av s.h.live.length v.hc.cv,aA v.a2 v.ys.length v.c2] 42)).alloc (aO #[aB aI ak,aB aI au,aB aI an,aB aI am,aB aI ap,aB aI af,aF ⟨az.toArray⟩] 70)).alloc (aO #[aA aJ 0 0,aA aJ 0 0,aA aJ 0 0,aB aI 0,aA aJ 0 0,aA aJ 0 0,aA aJ 0 0] 42)).alloc (aO #[aB aI 0,aB aI 0,aA aJ 0 0] 72)).alloc (aO #[aA v.a1 v.n1 v.c1,aA v.hc.az 2 v.hc.cz,aA v.hc.am 2 v.hc.cm,aB aI (s.h.aP:Int),aA v.hc.al v.hc.lc.length v.hc.cl,aA v.hc.av s.h.live.length v.hc.cv,aA v.a2 v.ys.length v.c2] 42)).alloc (aO #[aB aI 0,aB aI 0,aA aJ 0 0] 72))=lay w L:=by rw[hL];rfl
 have hl6:L.length=6:=by rw[hL];rfl
 obtain⟨hb1,hz1⟩:=CS w L;have B0:=pR w L 0 (by omega);have B1:=pR w L 1 (by omega);have B2:=pR w L 2 (by omega);have B3:=pR w L 3 (by omega);have B4:=pR w L 4 (by omega);have B5:=pR w L 5 (by omega);simp only[hL,List.getElem_cons_zero,List.getElem_cons_succ,Nat.add_zero]at B0 B1 B2 B3 B4 B5;rw[<- hL]at B0 B1 B2 B3 B4 B5;rw[hl6]at hz1;clear hL;have HW1:=gO hw1;clear hw1;generalize lay w L=z at*;have HB1:=gO hb1;have HB:=gO (And.intro B0 (And.intro B2 (And.intro B3 (And.intro B4 B5))));obtain⟨K1,F1⟩:=B1;obtain⟨K0,F0⟩:=B0;obtain⟨k0,k1,k2,k3,k4,k5,k6⟩:=gA7 K0;obtain⟨q0,q1,q2,q3,q4,q5,q6⟩:=gA7 K1;have HQ1:=gO K1;clear K0 K1 F0 F1 B2 B3 B4 B5 hb1;go_enter func21,ntmps21
 go_upto_region 3 with fail
 rw[HW1.out];clear HW1;rw[show w.heap.size+1+1+1+1+1=w.heap.size+5 from rfl,show w.heap.size+1+1+1+1=w.heap.size+4 from rfl,show w.heap.size+1+1+1=w.heap.size+3 from rfl,show w.heap.size+1+1=w.heap.size+2 from rfl];go_upto_block 0 with fail
 go_cut [] (λwx=>vF v s r w wx)
 case rest=>
  obtain⟨W,rfl⟩:∃W,W=wc:=⟨_,rfl⟩
  have A:=gO hcut;obtain⟨d,C,hk5,ho5⟩:=hcut.x;have x0:=hk5 0;simp only[gB,gC]at x0;have hno:=hcut.no;have hok:=hcut.ok;have HO5:=gO ho5;have HK5:=gO hk5;have HW:=gO (show w.heap.size+6<=W.heap.size from hcut.gs);obtain⟨s',x⟩:=r;obtain⟨c,xn,xl⟩:=x;simp only at x0 hno hok HO5 HK5;clear hcut hk5 ho5;by_cases hc:c=0
  ·obtain⟨v',hk4,hcl⟩:=hok hc;have hc':(c:Int)=0:=by omega
   have HK4:=gO hk4;have WY:=gO hcl;clear hok hno hk4 hcl;go_upto_region 33 with fail
   have g0:=HK4.out 0;have g1:=HK4.out 1;have g2:=HK4.out 2;have g3:=HK4.out 3;have g4:=HK4.out 4;have g5:=HK4.out 5;have g6:=HK4.out 6;unfold Sc.vals at g0 g1 g2 g3 g4 g5 g6;have y0:=HK5.out 0;have y1:=HK5.out 1;have M:=HK5.out 2;have q0:=A.out.k2 0;have q1:=A.out.k2 1;have q2:=A.out.k2 2;have q3:=A.out.k2 3;have q4:=A.out.k2 4;have q5:=A.out.k2 5;have q6:=A.out.k2 6;have z0:=A.out.k3 0;have z1:=A.out.k3 1;have K:=A.out.k3 2;have Y:=A.out.f2 0;have U:=A.out.f2 1;have f2:=A.out.f2 2;have f3:=A.out.f2 3;have Q:=A.out.f2 4;have X:=A.out.f2 5;have S:=A.out.f2 6;have P:=A.out.f3 0;have R:=A.out.f3 1;have V:=A.out.f3 2;simp only[gB,gC,gD]at g0 g1 g2 g3 g4 g5 g6 y0 y1 M q0 q1 q2 q3 q4 q5 q6 z0 z1 K;have Md:=gO (AP (X0:=aB aI (c:Int)) (X1:=aB aI xn) (X2:=aA d xl.length C) A.out.b A.out.gs WY.out A.out.k2 A.out.k3 HO5.out);have HC:=gO hc;clear hc' x0 hc;go_cut [] (λwx=>PN v s s' v' w wx (aB aI (c:Int)) (aB aI xn) (aA d xl.length C) 3 xl.length (aA d xl.length C) (xl.map vI))
   case first=>
    go_region_law fail
    all_goals (go_wp2_with fail)
    all_goals go_meet
    all_goals exact Md.out
   case rest=>
    have KX:=hcut.k;have KY:=hcut.y;have B:=gO hcut;clear hcut;go_wp2_with fail
    exact bodyPost_ret (v:=aG #[aC #[aA v'.a1 v'.n1 v'.c1,aA v'.hc.az 2 v'.hc.cz,aA v'.hc.am 2 v'.hc.cm,aB aI (s'.h.aP:Int),aA v'.hc.al v'.hc.lc.length v'.hc.cl,aA v'.hc.av s'.h.live.length v'.hc.cv,aA v'.a2 v'.ys.length v'.c2],aC #[aB aI (c:Int),aB aI xn,aA d xl.length C]]) (by simp[results,results21,go_sem,KX,KY]) rfl ⟨v',d,C,rfl,B.out.c,B.out.b,B.out.o⟩
  ·obtain rfl:s=s':=(hno hc).symm;clear hok hno;have hc':¬(c:Int)=0:=by omega
   go_upto_region 32 with fail
   have g0:=A.out.k0 0;have g1:=A.out.k0 1;have g2:=A.out.k0 2;have g3:=A.out.k0 3;have g4:=A.out.k0 4;have g5:=A.out.k0 5;have g6:=A.out.k0 6;unfold Sc.vals at g0 g1 g2 g3 g4 g5 g6;have y0:=HK5.out 0;have y1:=HK5.out 1;have M:=HK5.out 2;have q0:=A.out.k2 0;have q1:=A.out.k2 1;have q2:=A.out.k2 2;have q3:=A.out.k2 3;have q4:=A.out.k2 4;have q5:=A.out.k2 5;have q6:=A.out.k2 6;have z0:=A.out.k3 0;have z1:=A.out.k3 1;have K:=A.out.k3 2;have Y:=A.out.f2 0;have U:=A.out.f2 1;have f2:=A.out.f2 2;have f3:=A.out.f2 3;have Q:=A.out.f2 4;have X:=A.out.f2 5;have S:=A.out.f2 6;have P:=A.out.f3 0;have R:=A.out.f3 1;have V:=A.out.f3 2;simp only[gB,gC,gD]at g0 g1 g2 g3 g4 g5 g6 y0 y1 M q0 q1 q2 q3 q4 q5 q6 z0 z1 K;have Md:=gO (AP (X0:=aB aI (c:Int)) (X1:=aB aI xn) (X2:=aA d xl.length C) A.out.b A.out.gs (Cl.same (s:=s) (v:=v) A.out.b A.out.gs) A.out.k2 A.out.k3 HO5.out);clear hc' x0;go_cut [] (λwx=>PN v s s v w wx (aB aI (c:Int)) (aB aI xn) (aA d xl.length C) 3 xl.length (aA d xl.length C) (xl.map vI))
   case first=>
    go_region_law fail
    all_goals (go_wp2_with fail)
    all_goals go_meet
    all_goals exact Md.out
   case rest=>
    have KX:=hcut.k;have KY:=hcut.y;have B:=gO hcut;clear hcut;go_wp2_with fail
    exact bodyPost_ret (v:=aG #[aC #[aA v.a1 v.n1 v.c1,aA v.hc.az 2 v.hc.cz,aA v.hc.am 2 v.hc.cm,aB aI (s.h.aP:Int),aA v.hc.al v.hc.lc.length v.hc.cl,aA v.hc.av s.h.live.length v.hc.cv,aA v.a2 v.ys.length v.c2],aC #[aB aI (c:Int),aB aI xn,aA d xl.length C]]) (by simp[results,results21,go_sem,KX,KY]) rfl ⟨v,d,C,rfl,B.out.c,B.out.b,B.out.o⟩
 case first=>
  have G:=gO (hs.below HB1.out);have N:=gO hg;have HO1:=gO (ho.below HB1.out);have HZ1:=gO (hsz.below HB1.out);have hll:v.hc.lc.length<=1000:=by
   have h:=G.out.hh.ll;have h9:=congrArg List.length h;rw[gTe]at h9;rw[h9];have:=hg.ok.hk.pK;omega
  have hvl:s.h.live.length<=1000:=by have:=hg.ok.hk.jM;omega
  have D:eP v s w z #[aA v.a1 v.n1 v.c1,aA v.hc.az 2 v.hc.cz,aA v.hc.am 2 v.hc.cm,aB aI (s.h.aP:Int),aA v.hc.al v.hc.lc.length v.hc.cl,aA v.hc.av s.h.live.length v.hc.cv,aA v.a2 v.ys.length v.c2] #[aB aI 0,aB aI 0,aA aJ 0 0]:=⟨HB1.out,by omega,HB.out.1.1,HB.out.2.1.1,HB.out.2.1.2,HB.out.2.2.1.1,HB.out.2.2.1.2,HB.out.2.2.2.1.1,HB.out.2.2.2.1.2,HB.out.2.2.2.2.1,HB.out.2.2.2.2.2⟩
  have HP:=gO D;clear hs hg ho hsz D HB;have hnm:∀c∈s.cs,c.ns.length<=1000:=λc hc=>gQ (N.out.nm c hc) (by decide)
  have KN:=gO hnm;clear hnm;cases hd with
  | drain u n=>
   have B:Hid (Calls prog 23 #[aC #[aA v.hc.az 2 v.hc.cz,aA v.hc.am 2 v.hc.cm,aB aI (s.h.aP:Int),aA v.hc.al v.hc.lc.length v.hc.cl,aA v.hc.av s.h.live.length v.hc.cv]] z λF O=>∃p:Hc,F=aN (aG #[aC #[aA p.az 2 p.cz,aA p.am 2 p.cm,aB aI (s.h.drain.aP:Int),aA p.al p.lc.length p.cl,aA p.av s.h.drain.live.length p.cv],aB aI 0])/\lN O z.heap.size s.h.drain p/\Below z.heap.size z O):=
    Cm v.hc.az v.hc.am v.hc.al v.hc.av v.hc.cz v.hc.cm v.hc.cl v.hc.cv v.hc.lc.length s.h.live.length v.hc.y0 v.hc.y1 v.hc.lc s.h z G.out.hh N.out.ok.hk hll hvl
   go_wp2_with (go_at_call 23;refine B.out.mono ?_;rintro F w2 ⟨p,rfl,J,hb⟩;have j:=gO (HP.out.below hb);obtain⟨y0,y1,M,y3,y4,y5,y6,Y,U,f2,f3,Q,X,S,z0,z1,K,P,R,V⟩:=j.out.cells)
   all_goals go_meet
   all_goals
    have D:=(j.out.puth4 (aA p.az 2 p.cz) (aA p.am 2 p.cm) (aB aI (s.h.drain.aP:Int)) (aA p.al p.lc.length p.cl) (aA p.av s.h.drain.live.length p.cv)).code5 (aB aI 0);have I:=((Cl.heap (s:=s) (v:=v) HB1.out (by omega) hb J).puth4 (aA p.az 2 p.cz) (aA p.am 2 p.cm) (aB aI (s.h.drain.aP:Int)) (aA p.al p.lc.length p.cl) (aA p.av s.h.drain.live.length p.cv)).set 5 0 (aB aI 0) (by decide);exact D.Ug I rfl
  | new u i n Z H=>
   have E:=Jp v s az u i z G.out N.out.ok KN.out H Z HO1.out;cases hr:s.one i u with
   | none=>
    rw[hr]at E;have B:=gO (DW E);have HQ:=gO (congrArg s.ans hr);clear E hr;go_wp2_with (go_at_call 53;refine B.out.mono ?_;rintro F w2 ⟨rfl,hb⟩;have j:=gO (HP.out.below hb);obtain⟨y0,y1,M,y3,y4,y5,y6,Y,U,f2,f3,Q,X,S,z0,z1,K,P,R,V⟩:=j.out.cells)
    all_goals go_meet
    all_goals
     have D:=j.out.putz4.num5 (aB aI 0) (aB aI 6);exact D.Jy (by decide) HQ.out
   | some q=>
    obtain⟨t,a⟩:=q;rw[hr]at E;have B:=gO (DX E);have HQ:=gO (congrArg s.ans hr);clear E hr;go_wp2_with (go_at_call 53;refine B.out.mono ?_;rintro F w2 ⟨v',rfl,J,hb⟩;have j:=gO (HP.out.below hb);obtain⟨y0,y1,M,y3,y4,y5,y6,Y,U,f2,f3,Q,X,S,z0,z1,K,P,R,V⟩:=j.out.cells)
    all_goals go_meet
    all_goals
     have D:=(j.out.put4 v' t).num5 (aB aI a) (aB aI 0);have I:=(((Cl.new (s:=s) (v:=v) (m:=6) J (show w.heap.size+6<=z.heap.size by omega)).put4 v' t).set 5 1 (aB aI a) (by decide)).set 5 0 (aB aI 0) (by decide);exact D.done I HQ.out
  | shrink u i n H=>
   have B:Hid (Calls prog 22 #[aC #[aA v.a1 v.n1 v.c1,aA v.hc.az 2 v.hc.cz,aA v.hc.am 2 v.hc.cm,aB aI (s.h.aP:Int),aA v.hc.al v.hc.lc.length v.hc.cl,aA v.hc.av s.h.live.length v.hc.cv,aA v.a2 v.ys.length v.c2],aF ⟨az.toArray⟩] z (ZT (s.shrink i) z)):=Gw v s az i z G.out N.out.ok KN.out H;go_wp2_with (go_at_call 22;refine B.out.mono ?_;rintro F w2 ⟨v',rfl,J,hb⟩;have j:=gO (HP.out.below hb);obtain⟨y0,y1,M,y3,y4,y5,y6,Y,U,f2,f3,Q,X,S,z0,z1,K,P,R,V⟩:=j.out.cells)
   all_goals go_meet
   all_goals
    have D:=(j.out.put4 v' (s.shrink i)).code5 (aB aI 0);have I:=((Cl.new (s:=s) (v:=v) (m:=6) J (show w.heap.size+6<=z.heap.size by omega)).put4 v' (s.shrink i)).set 5 0 (aB aI 0) (by decide);exact D.done I rfl
  | pages u o f Z H h3 h4=>
   have E:=CB v.hc.az v.hc.am v.hc.al v.hc.av v.hc.cz v.hc.cm v.hc.cl v.hc.cv v.hc.lc.length s.h.live.length v.hc.y0 v.hc.y1 v.hc.lc s.h u o f z G.out.hh N.out.ok.hk hll hvl Z H h3 h4 HO1.out;cases hr:s.h.alloc u o (mP f) (decide (f/8%2=1)) (decide (f%2=1))with
   | none=>
    have B:Hid (Calls prog 52 #[aC #[aA v.hc.az 2 v.hc.cz,aA v.hc.am 2 v.hc.cm,aB aI (s.h.aP:Int),aA v.hc.al v.hc.lc.length v.hc.cl,aA v.hc.av s.h.live.length v.hc.cv],aB aI u,aB aI o,aB aI f] z λF O=>F=aN (aG #[aC #[aA aJ 0 0,aA aJ 0 0,aB aI 0,aA aJ 0 0,aA aJ 0 0],aB aI 0,aB aI 6])/\Below z.heap.size z O):=by
     refine Calls.mono E ?_;rintro F O ⟨hb,⟨_,h⟩ | ⟨_,_,_,h,_⟩⟩
     ·exact⟨h,hb⟩
     ·rw[hr]at h;cases h
    have HQ:=gO (congrArg s.aBO hr);clear E hr;go_wp2_with (go_at_call 52;refine B.out.mono ?_;rintro F w2 ⟨rfl,hb⟩;have j:=gO (HP.out.below hb);obtain⟨y0,y1,M,y3,y4,y5,y6,Y,U,f2,f3,Q,X,S,z0,z1,K,P,R,V⟩:=j.out.cells)
    all_goals go_meet
    all_goals
     have D:=(j.out.puth4 (aA aJ 0 0) (aA aJ 0 0) (aB aI 0) (aA aJ 0 0) (aA aJ 0 0)).num5 (aB aI 0) (aB aI 6);exact D.Jy (by decide) HQ.out
   | some q=>
    obtain⟨h',a⟩:=q;have B:Hid (Calls prog 52 #[aC #[aA v.hc.az 2 v.hc.cz,aA v.hc.am 2 v.hc.cm,aB aI (s.h.aP:Int),aA v.hc.al v.hc.lc.length v.hc.cl,aA v.hc.av s.h.live.length v.hc.cv],aB aI u,aB aI o,aB aI f] z λF O=>∃p:Hc,F=aN (aG #[aC #[aA p.az 2 p.cz,aA p.am 2 p.cm,aB aI (h'.aP:Int),aA p.al p.lc.length p.cl,aA p.av h'.live.length p.cv],aB aI (a:Nat),aB aI 0])/\lN O z.heap.size h' p/\Below z.heap.size z O):=by
     refine Calls.mono E ?_;rintro F O ⟨hb,⟨h,_⟩ | ⟨H,a2,c2,h,h3,h4⟩⟩
     ·rw[hr]at h;cases h
     ·rw[hr]at h;have e:=gP h;rw[Prod.mk.injEq]at e;obtain⟨rfl,rfl⟩:=e;exact⟨c2,h3,h4,hb⟩
    have HQ:=gO (congrArg s.aBO hr);clear E hr;go_wp2_with (go_at_call 52;refine B.out.mono ?_;rintro F w2 ⟨p,rfl,J,hb⟩;have j:=gO (HP.out.below hb);obtain⟨y0,y1,M,y3,y4,y5,y6,Y,U,f2,f3,Q,X,S,z0,z1,K,P,R,V⟩:=j.out.cells)
    all_goals go_meet
    all_goals
     have D:=(j.out.puth4 (aA p.az 2 p.cz) (aA p.am 2 p.cm) (aB aI (h'.aP:Int)) (aA p.al p.lc.length p.cl) (aA p.av h'.live.length p.cv)).num5 (aB aI (a:Nat)) (aB aI 0);have I:=(((Cl.heap (s:=s) (v:=v) HB1.out (by omega) hb J).puth4 (aA p.az 2 p.cz) (aA p.am 2 p.cm) (aB aI (h'.aP:Int)) (aA p.al p.lc.length p.cl) (aA p.av h'.live.length p.cv)).set 5 1 (aB aI (a:Nat)) (by decide)).set 5 0 (aB aI 0) (by decide);exact D.Ug I HQ.out
  | give u b Z H=>
   obtain⟨hi,e⟩:=gK.1 (lZ N.out.ok.hk.vs H.1);have hth:hasB s.h.live b.a=true:=by
    unfold hasB;rw[List.any_eq_true];exact⟨b,H.1,gTg rfl⟩
   have E:=FQ v.hc.az v.hc.am v.hc.al v.hc.av v.hc.cz v.hc.cm v.hc.cl v.hc.cv v.hc.lc.length s.h.live.length v.hc.y0 v.hc.y1 v.hc.lc s.h u b.a z G.out.hh N.out.ok.hk hll hvl Z (by have:=(N.out.ok.hk.lv b H.1).1;unfold dM at this;omega) hth;have B:Hid (Calls prog 42 #[aC #[aA v.hc.az 2 v.hc.cz,aA v.hc.am 2 v.hc.cm,aB aI (s.h.aP:Int),aA v.hc.al v.hc.lc.length v.hc.cl,aA v.hc.av s.h.live.length v.hc.cv],aB aI u,aB aI (b.a:Nat)] z λF O=>∃p:Hc,F=aN (aG #[aC #[aA p.az 2 p.cz,aA p.am 2 p.cm,aB aI ((s.jR u b).h.aP:Int),aA p.al p.lc.length p.cl,aA p.av (s.jR u b).h.live.length p.cv],aB aI 0])/\lN O z.heap.size (s.jR u b).h p/\Below z.heap.size z O):=by
    refine Calls.mono E ?_;rintro F O ⟨hb,p,hi',h3,h4⟩;rw[e]at h3 h4;exact⟨p,h3,h4,hb⟩
   clear E e hth;go_wp2_with (go_at_call 42;refine B.out.mono ?_;rintro F w2 ⟨p,rfl,J,hb⟩;have j:=gO (HP.out.below hb);obtain⟨y0,y1,M,y3,y4,y5,y6,Y,U,f2,f3,Q,X,S,z0,z1,K,P,R,V⟩:=j.out.cells)
   all_goals go_meet
   all_goals
    have D:=(j.out.puth4 (aA p.az 2 p.cz) (aA p.am 2 p.cm) (aB aI ((s.jR u b).h.aP:Int)) (aA p.al p.lc.length p.cl) (aA p.av (s.jR u b).h.live.length p.cv)).code5 (aB aI 0);have I:=((Cl.heap (s:=s) (v:=v) HB1.out (by omega) hb J).puth4 (aA p.az 2 p.cz) (aA p.am 2 p.cm) (aB aI ((s.jR u b).h.aP:Int)) (aA p.al p.lc.length p.cl) (aA p.av (s.jR u b).h.live.length p.cv)).set 5 0 (aB aI 0) (by decide);exact D.Ug I rfl
  | ob t Z H=>
   have B:Hid (Calls prog 50 #[aC #[aA v.a1 v.n1 v.c1,aA v.hc.az 2 v.hc.cz,aA v.hc.am 2 v.hc.cm,aB aI (s.h.aP:Int),aA v.hc.al v.hc.lc.length v.hc.cl,aA v.hc.av s.h.live.length v.hc.cv,aA v.a2 v.ys.length v.c2],aF ⟨#[111,98]⟩,aB aI 5,aB aI 1] z (ZT t z)):=Gf v s t [111,98] 5 z G.out N.out.ok (λc hc=>gQ (N.out.nm c hc) (by decide)) (by decide) (by decide) H Z;go_wp2_with (go_at_call 50;refine B.out.mono ?_;rintro F w2 ⟨v',rfl,J,hb⟩;have j:=gO (HP.out.below hb);obtain⟨y0,y1,M,y3,y4,y5,y6,Y,U,f2,f3,Q,X,S,z0,z1,K,P,R,V⟩:=j.out.cells)
   all_goals go_meet
   all_goals
    have D:=(j.out.put4 v' t).code5 (aB aI 0);have I:=((Cl.new (s:=s) (v:=v) (m:=6) J (show w.heap.size+6<=z.heap.size by omega)).put4 v' t).set 5 0 (aB aI 0) (by decide);exact D.done I rfl
  | pair t Z H=>
   have B:Hid (Calls prog 50 #[aC #[aA v.a1 v.n1 v.c1,aA v.hc.az 2 v.hc.cz,aA v.hc.am 2 v.hc.cm,aB aI (s.h.aP:Int),aA v.hc.al v.hc.lc.length v.hc.cl,aA v.hc.av s.h.live.length v.hc.cv,aA v.a2 v.ys.length v.c2],aF ⟨#[112,97,105,114]⟩,aB aI 2,aB aI 2] z (ZT t z)):=RH v s t [112,97,105,114] 2 z G.out N.out.ok (λc hc=>gQ (N.out.nm c hc) (by decide)) (by decide) (by decide) H Z (by decide);go_wp2_with (go_at_call 50;refine B.out.mono ?_;rintro F w2 ⟨v',rfl,J,hb⟩;have j:=gO (HP.out.below hb);obtain⟨y0,y1,M,y3,y4,y5,y6,Y,U,f2,f3,Q,X,S,z0,z1,K,P,R,V⟩:=j.out.cells)
   all_goals go_meet
   all_goals
    have D:=(j.out.put4 v' t).code5 (aB aI 0);have I:=((Cl.new (s:=s) (v:=v) (m:=6) J (show w.heap.size+6<=z.heap.size by omega)).put4 v' t).set 5 0 (aB aI 0) (by decide);exact D.done I rfl
  | drop u i k a n Z H h3=>
   obtain⟨c,x,g1,g2,g3⟩:=h3;have ha:((ap.toNat:Nat):Int)=ap:=Int.toNat_of_nonneg (by have:=(kY g3.1).1;omega);have E:=PG v s az u i k ap.toNat c x z G.out N.out.ok KN.out H Z g1 g2 (by rw[ha];exact g3);rw[ha]at E;have B:Hid (Calls prog 40 #[aC #[aA v.a1 v.n1 v.c1,aA v.hc.az 2 v.hc.cz,aA v.hc.am 2 v.hc.cm,aB aI (s.h.aP:Int),aA v.hc.al v.hc.lc.length v.hc.cl,aA v.hc.av s.h.live.length v.hc.cv,aA v.a2 v.ys.length v.c2],aF ⟨az.toArray⟩,aB aI u,aB aI ap] z (ZT (s.free i k ap.toNat u) z)):=E;clear E ha g1 g2 g3;go_wp2_with (go_at_call 40;refine B.out.mono ?_;rintro F w2 ⟨v',rfl,J,hb⟩;have j:=gO (HP.out.below hb);obtain⟨y0,y1,M,y3,y4,y5,y6,Y,U,f2,f3,Q,X,S,z0,z1,K,P,R,V⟩:=j.out.cells)
   all_goals go_meet
   all_goals
    have D:=(j.out.put4 v' (s.free i k ap.toNat u)).code5 (aB aI 0);have I:=((Cl.new (s:=s) (v:=v) (m:=6) J (show w.heap.size+6<=z.heap.size by omega)).put4 v' (s.free i k ap.toNat u)).set 5 0 (aB aI 0) (by decide);exact D.done I rfl
  | bulk u i m n Z H h3 h4=>
   have E:=YX v s az u i m z G.out N.out.ok KN.out H Z h3 h4 HO1.out;cases hr:s.bulk i u m with
   | none=>
    have B:Hid (Calls prog 54 #[aC #[aA v.a1 v.n1 v.c1,aA v.hc.az 2 v.hc.cz,aA v.hc.am 2 v.hc.cm,aB aI (s.h.aP:Int),aA v.hc.al v.hc.lc.length v.hc.cl,aA v.hc.av s.h.live.length v.hc.cv,aA v.a2 v.ys.length v.c2],aF ⟨az.toArray⟩,aB aI u,aB aI m] z λF O=>F=aN (aG #[aC #[aA aJ 0 0,aA aJ 0 0,aA aJ 0 0,aB aI 0,aA aJ 0 0,aA aJ 0 0,aA aJ 0 0],aA aJ 0 0,aB aI 6])/\Below z.heap.size z O):=by
     refine Calls.mono E ?_;rintro F O (⟨_,h,hb⟩ | ⟨_,_,_,_,_,h,_⟩)
     ·exact⟨h,hb⟩
     ·rw[hr]at h;cases h
    have HQ:=gO (congrArg s.aBM hr);clear E hr;go_wp2_with (go_at_call 54;refine B.out.mono ?_;rintro F w2 ⟨rfl,hb⟩;have j:=gO (HP.out.below hb);obtain⟨y0,y1,M,y3,y4,y5,y6,Y,U,f2,f3,Q,X,S,z0,z1,K,P,R,V⟩:=j.out.cells)
    all_goals go_meet
    all_goals
     have D:=j.out.putz4.list5 (aA aJ 0 0) (aB aI 6);exact D.Jy (by decide) HQ.out
   | some q=>
    obtain⟨t,l⟩:=q;have B:Hid (Calls prog 54 #[aC #[aA v.a1 v.n1 v.c1,aA v.hc.az 2 v.hc.cz,aA v.hc.am 2 v.hc.cm,aB aI (s.h.aP:Int),aA v.hc.al v.hc.lc.length v.hc.cl,aA v.hc.av s.h.live.length v.hc.cv,aA v.a2 v.ys.length v.c2],aF ⟨az.toArray⟩,aB aI u,aB aI m] z λF O=>∃(v':Sc) (d:Option Addr) (C:Nat),F=aN (aG #[aC #[aA v'.a1 v'.n1 v'.c1,aA v'.hc.az 2 v'.hc.cz,aA v'.hc.am 2 v'.hc.cm,aB aI (t.h.aP:Int),aA v'.hc.al v'.hc.lc.length v'.hc.cl,aA v'.hc.av t.h.live.length v'.hc.cv,aA v'.a2 v'.ys.length v'.c2],aA d l.length C,aB aI 0])/\iI O z.heap.size t v'/\Below z.heap.size z O/\O.ownsRow z.heap.size 3 1 (aA d l.length C) l.length (l.map vI)):=by
     refine Calls.mono E ?_;rintro F O (⟨h,_⟩ | ⟨s',l',v',d,C,h,Z,H,h3,h4,h5⟩)
     ·rw[hr]at h;cases h
     ·rw[hr]at h;have e:=gP h;rw[Prod.mk.injEq]at e;obtain⟨rfl,rfl⟩:=e;rw[<- h3]at Z h4;exact⟨v',d,C,Z,H,h5,h4⟩
    have HQ:=gO (congrArg s.aBM hr);clear E hr;go_wp2_with (go_at_call 54;refine B.out.mono ?_;rintro F w2 ⟨v',d,C,rfl,J,hb,ho⟩;have j:=gO (HP.out.below hb);obtain⟨y0,y1,M,y3,y4,y5,y6,Y,U,f2,f3,Q,X,S,z0,z1,K,P,R,V⟩:=j.out.cells)
    all_goals go_meet
    all_goals
     have D:=(j.out.put4 v' t).list5 (aA d l.length C) (aB aI 0);have I:=(((Cl.new (s:=s) (v:=v) (m:=6) J (show w.heap.size+6<=z.heap.size by omega)).put4 v' t).set 5 2 (aA d l.length C) (by decide)).set 5 0 (aB aI 0) (by decide);have n4:(aA d l.length C).ownBlock≠aK (w.heap.size+4):=λe=>by have:=(ho.lt _ e).1;omega
     have n5:(aA d l.length C).ownBlock≠aK (w.heap.size+5):=λe=>by have:=(ho.lt _ e).1;omega
     have hO:=own_base (bU (bU (uH ho n4 v' t) n5 (i:=2) (aA d l.length C)) n5 (i:=0) (aB aI 0)) (show w.heap.size+6<=z.heap.size by omega);exact D.aHU I hO HQ.out
  | dL u m Z h3 h4=>
   have E:=Gv v s u m z G.out N.out.ok KN.out N.out.sg Z HO1.out HZ1.out h3 h4;cases hr:s.dL u m with
   | none=>
    rw[hr]at E;have B:=gO (DW E);have HQ:=gO (congrArg s.ans hr);clear E hr;go_wp2_with (go_at_call 55;refine B.out.mono ?_;rintro F w2 ⟨rfl,hb⟩;have j:=gO (HP.out.below hb);obtain⟨y0,y1,M,y3,y4,y5,y6,Y,U,f2,f3,Q,X,S,z0,z1,K,P,R,V⟩:=j.out.cells)
    all_goals go_meet
    all_goals
     have D:=j.out.putz4.num5 (aB aI 0) (aB aI 6);exact D.Jy (by decide) HQ.out
   | some q=>
    obtain⟨t,a⟩:=q;rw[hr]at E;have B:=gO (DX E);have HQ:=gO (congrArg s.ans hr);clear E hr;go_wp2_with (go_at_call 55;refine B.out.mono ?_;rintro F w2 ⟨v',rfl,J,hb⟩;have j:=gO (HP.out.below hb);obtain⟨y0,y1,M,y3,y4,y5,y6,Y,U,f2,f3,Q,X,S,z0,z1,K,P,R,V⟩:=j.out.cells)
    all_goals go_meet
    all_goals
     have D:=(j.out.put4 v' t).num5 (aB aI a) (aB aI 0);have I:=(((Cl.new (s:=s) (v:=v) (m:=6) J (show w.heap.size+6<=z.heap.size by omega)).put4 v' t).set 5 1 (aB aI a) (by decide)).set 5 0 (aB aI 0) (by decide);exact D.done I HQ.out
  | jG u a t Z H h3=>
   have E:=Jt v s u ap z G.out N.out.ok KN.out Z HZ1.out (by omega);rw[H]at E;have B:=gO (PU E);clear E;go_wp2_with (go_at_call 16;refine B.out.mono ?_;rintro F w2 ⟨v',rfl,J,hb⟩;have j:=gO (HP.out.below hb);obtain⟨y0,y1,M,y3,y4,y5,y6,Y,U,f2,f3,Q,X,S,z0,z1,K,P,R,V⟩:=j.out.cells)
   all_goals go_meet
   all_goals
    have D:=(j.out.put4 v' t).code5 (aB aI 0);have I:=((Cl.new (s:=s) (v:=v) (m:=6) J (show w.heap.size+6<=z.heap.size by omega)).put4 v' t).set 5 0 (aB aI 0) (by decide);exact D.done I rfl
  | resize u m a Z H h3 h4=>
   have E:=PK v s u m ap z G.out N.out.ok KN.out N.out.sg Z HO1.out HZ1.out H h3 (by omega);cases hr:s.fE u ap m with
   | inl e=>
    have he:e=4∨e=6:=PO hr;rw[hr]at E;have B:=gO (PS E);have HQ:=gO (congrArg s.aBN hr);clear E hr;rcases he with rfl | rfl
    ·
     go_wp2_with (go_at_call 56;refine B.out.mono ?_;rintro F w2 ⟨rfl,hb⟩;have j:=gO (HP.out.below hb);obtain⟨y0,y1,M,y3,y4,y5,y6,Y,U,f2,f3,Q,X,S,z0,z1,K,P,R,V⟩:=j.out.cells)
     all_goals go_meet
     all_goals
      have D:=j.out.putz4.num5 (aB aI 0) (aB aI 4);exact D.Jy (by decide) HQ.out
    ·
     go_wp2_with (go_at_call 56;refine B.out.mono ?_;rintro F w2 ⟨rfl,hb⟩;have j:=gO (HP.out.below hb);obtain⟨y0,y1,M,y3,y4,y5,y6,Y,U,f2,f3,Q,X,S,z0,z1,K,P,R,V⟩:=j.out.cells)
     all_goals go_meet
     all_goals
      have D:=j.out.putz4.num5 (aB aI 0) (aB aI 6);exact D.Jy (by decide) HQ.out
   | inr q=>
    obtain⟨t,b⟩:=q;rw[hr]at E;have B:=gO (SE E);have HQ:=gO (congrArg s.aBN hr);clear E hr;go_wp2_with (go_at_call 56;refine B.out.mono ?_;rintro F w2 ⟨v',rfl,J,hb⟩;have j:=gO (HP.out.below hb);obtain⟨y0,y1,M,y3,y4,y5,y6,Y,U,f2,f3,Q,X,S,z0,z1,K,P,R,V⟩:=j.out.cells)
    all_goals go_meet
    all_goals
     have D:=(j.out.put4 v' t).num5 (aB aI b) (aB aI 0);have I:=(((Cl.new (s:=s) (v:=v) (m:=6) J (show w.heap.size+6<=z.heap.size by omega)).put4 v' t).set 5 1 (aB aI b) (by decide)).set 5 0 (aB aI 0) (by decide);exact D.done I HQ.out
  | write u a m H h3=>
   have hal:=N.out.ok.xE H;have hwl:=N.out.ok.wl;have B:Hid (Calls prog 12 #[aC #[aA v.a1 v.n1 v.c1,aA v.hc.az 2 v.hc.cz,aA v.hc.am 2 v.hc.cm,aB aI (s.h.aP:Int),aA v.hc.al v.hc.lc.length v.hc.cl,aA v.hc.av s.h.live.length v.hc.cv,aA v.a2 v.ys.length v.c2]] z λF O=>∃v2,F=aN (aC #[aA v2.a1 v2.n1 v2.c1,aA v2.hc.az 2 v2.hc.cz,aA v2.hc.am 2 v2.hc.cm,aB aI (s.h.aP:Int),aA v2.hc.al v2.hc.lc.length v2.hc.cl,aA v2.hc.av s.h.live.length v2.hc.cv,aA v2.a2 v2.ys.length v2.c2])/\iI O z.heap.size s v2/\Below z.heap.size z O):=qV v s z G.out N.out.ok KN.out;go_upto_region 28 with (go_at_call 12;refine B.out.mono ?_;rintro F w2 ⟨v',rfl,J,hb⟩;have j:=gO (HP.out.below hb);obtain⟨y0,y1,M,y3,y4,y5,y6,Y,U,f2,f3,Q,X,S,z0,z1,K,P,R,V⟩:=j.out.cells)
   have hz2:=hb.size;have HN2:=gO (show iI (((((((w2.setCell ⟨w.heap.size+4,0,aJ⟩ (aA v'.a1 v'.n1 v'.c1)).setCell ⟨w.heap.size+4,1,aJ⟩ (aA v'.hc.az 2 v'.hc.cz)).setCell ⟨w.heap.size+4,2,aJ⟩ (aA v'.hc.am 2 v'.hc.cm)).setCell ⟨w.heap.size+4,3,aJ⟩ (aB aI (s.h.aP:Int))).setCell ⟨w.heap.size+4,4,aJ⟩ (aA v'.hc.al v'.hc.lc.length v'.hc.cl)).setCell ⟨w.heap.size+4,5,aJ⟩ (aA v'.hc.av s.h.live.length v'.hc.cv)).setCell ⟨w.heap.size+4,6,aJ⟩ (aA v'.a2 v'.ys.length v'.c2)) z.heap.size s v' from SR.put7 J (show w.heap.size+4<z.heap.size by omega) v' s);have HP3:=gO (j.out.put4 v' s);have Q1:=aQ (HQ1.out) (by omega) hb;have q1x:=mX (T:=w.heap.size+4) Q1 (by omega) v' s;have q3:=q1x 3;have q4:=q1x 4;simp only[gB,gC,gD]at q3 q4;clear y0 y1 M y3 y4 y5 y6 Y U f2 f3 Q X S z0 z1 K P R V J hb Q1 q1x;generalize ((((((w2.setCell _ _).setCell _ _).setCell _ _).setCell _ _).setCell _ _).setCell _ _).setCell _ _=w3 at*;obtain⟨y0,y1,M,y3,y4,y5,y6,Y,U,f2,f3,Q,X,S,z0,z1,K,P,R,V⟩:=HP3.out.cells;obtain⟨g,hg,hgl,aEu,hgx,hgc,hgf⟩:=SR.wAt HN2.out (a:=a) (by omega);have hlw:=HN2.out.at.lw;rw[hg]at y0;have ha1:(a:Int)<v'.n1:=by omega
   go_wp2_with fail
   all_goals go_meet
   all_goals
    have D:=HP3.out.far (show w.heap.size+6<=g by omega) a (aB aI am);have I:=Cl.new (s:=s) (v:=v) (m:=6) (SR.setW HN2.out hg a am) (show w.heap.size+6<=z.heap.size by omega);exact eP.done (s':={s with w:=s.w.set a am}) (v':=v') D I rfl
  | read u a H=>
   have hal:=N.out.ok.xE H;have hwl:=N.out.ok.wl;have hlw:=G.out.lw;obtain⟨b,off,hba,hbl,hbc⟩:=Ez G.out.rw (k:=a) (by omega);obtain⟨y0,y1,M,y3,y4,y5,y6,Y,U,f2,f3,Q,X,S,z0,z1,K,P,R,V⟩:=HP.out.cells;rw[hba]at k0;have ha1:(a:Int)<v.n1:=by omega
   have hgd:s.w.getD a 0=s.w[a]:=by rw[List.getD_eq_getElem?_getD,gJ (by omega)];rfl
   go_wp2_with fail
   all_goals go_meet
   all_goals
    have D:=HP.out.numAt5 (aB aI s.w[a]);have I:=(Cl.same (s:=s) (v:=v) (m:=6) HB1.out (by omega)).set 5 1 (aB aI s.w[a]) (by decide);exact D.done I (by rw[hgd])
end Go.Proofs.YtjaogfhcnmjkiaaGreatDoor
