/- joined. -/
import Derived.Test.YtjaogfhcnmjkiaaGreatDoorAB20
import Derived.Test.YtjaogfhcnmjkiaaGreatDoorAB21
import Derived.Test.YtjaogfhcnmjkiaaGreatDoorAB22
set_option linter.all false
set_option maxRecDepth 100000
set_option maxHeartbeats 0
namespace Go.Proofs.YtjaogfhcnmjkiaaGreatDoor
open Go.RowKit
open Go.Value renaming slice->aA,int->aB,agg->aC,string->aF,tuple->aG,pointer->aH,ownBlock->gTh
open Go.IntKind renaming i64->aI
open Option renaming none->aJ,some->aK
open Go.Ending renaming returned->aN
open Go.Obj renaming cells->aO
open Go.Proofs.Tryz
variable {a:Int}{b:Bk}{c:Ca}{cpu i j m n p:Nat}{h h':Hp}{l w':List Int}{s t:Sy}{w:World}{xs:List Value}
theorem aBC (k:Nat):List.replicate k (aB aI 0)=(List.replicate k (0:Int)).map vI:=by
 rw[List.map_replicate];rfl
theorem Wj (w:World):Calls prog 49 #[aB aI 256] w λev w'=>∃(a':Option Addr) (c':Nat),ev=aN (aG #[aA a' 4096 c',aB aI 0])/\w'.ownsRow w.heap.size 3 1 (aA a' 4096 c') 4096 ((List.replicate 4096 (0:Int)).map vI)/\Below w.heap.size w w':=by
 obtain⟨f,i,j,c,e⟩:=info_parts mO;go_enter func49,ntmps49
 go_wp2_with (at_make;refine wpList_make_full _ rfl _ _ 34 rfl w.heap.size 3 f (aB aI 0) 1 underlying34 i j c .i64 .i64 _ _ 4096 rfl rfl rfl rfl ?q1 ?q2 ?q3 ?_)
 case q1=>rw[e];decide
 case q2=>unfold maxLen;omega
 case q3=>exact gT _
 intro k a b;rw[toList_madeCells_one,aBC]at a;have g:=gO a;have d:=(gX w.heap.size w).grown b (gT _) (by simp);have h:=gO d;clear a d b;go_wp2
 exact bodyPost_ret (v:=aG #[aA (aK ⟨w.heap.size,0,aJ⟩) 4096 4096,aB aI 0]) (by simp[results,results49,go_sem]) rfl ⟨_,_,rfl,g.out,h.out⟩
structure Bg (w:World):Prop where
 sz:0<w.heap.size
 c:∀i v,(#[aB aI 1,aB aI 2,aB aI 4,aB aI 8,aB aI 16,aB aI 32]:Array Value)[i]? =aK v->w.cell? ⟨0,i,aJ⟩=aK v
theorem Bg.below {w':World}(h:Bg w)(hb:Below w.heap.size w w'):Bg w':=
 ⟨gI h.sz hb.size,λi v a=>(hb.cell (p:=⟨0,i,aJ⟩) h.sz).trans (h.c i v a)⟩
theorem RV (hj:j<6)(w:World):Calls prog 51 #[aB aI (([1,2,4,8,16,32].getD j 0:Nat):Int)] w λev w'=>ev=aN (aF ⟨(kN ([1,2,4,8,16,32].getD j 0)).toArray⟩)/\w=w':=by
 obtain rfl | rfl | rfl | rfl | rfl | rfl:j=0∨j=1∨j=2∨j=3∨j=4∨j=5:=by omega
 ·exact kname1 w
 ·exact kname2 w
 ·exact kname4 w
 ·exact kname8 w
 ·exact kname16 w
 ·exact kname32 w
theorem Jl (hk:fG h):∀j,j<=6->cZ (dW h j)
 | 0,_=>Nv hk
 | j+1,hj=>by
  obtain⟨h1,h2,h3⟩:=yU h (j:=j) (by omega);have a:1<=[1,2,4,8,16,32].getD j 0/\[1,2,4,8,16,32].getD j 0<=64:=by
   obtain rfl | rfl | rfl | rfl | rfl | rfl:j=0∨j=1∨j=2∨j=3∨j=4∨j=5:=by omega
   all_goals decide
  exact((Jl hk j (by omega)).create h3 a h1 h2).1
theorem Po (h:Hp)(j:Nat):∀c∈(dW h j).cs,c.ns.length<=999:=λc a=>by
 unfold dW at a;obtain⟨k,_,rfl⟩:=List.mem_map.1 a;show[kN k].length<=999;simp
theorem Zz (hj:j<6)(w:World):(Instr.index 118 (aC #[aB aI 1,aB aI 2,aB aI 4,aB aI 8,aB aI 16,aB aI 32]) (aB aI (j:Int))).run prog w= .ok (aB aI (([1,2,4,8,16,32].getD j 0:Nat):Int)) w:=by
 obtain rfl | rfl | rfl | rfl | rfl | rfl:j=0∨j=1∨j=2∨j=3∨j=4∨j=5:=by omega
 all_goals kernel_rfl
def AA (h:Hp)(w:World)(ev:Ending)(w':World):Prop:=∃a,ev=aN (aG #[.agg (a.vals (dW h 6)),aB aI 0])/\iI w' w.heap.size (dW h 6) a/\Below w.heap.size w w'
theorem Ub (m1 m2:Option Addr)(n1 n2 d1 d2:Nat)(b:Bt)(split least aP:Nat)(w:World)(hbt:vW w m1 m2 n1 n2 b)(hm:dZ b.m=true)(hrr:dZ b.r=true)(hfr:dZ (jF b)=true)(h1:split<=256)(h2:split%16=0)(h3:least<=256)(h4:1<=aP/\aP<=4)(hsz:Bg w):
 Calls prog 20 #[aC #[aA m1 n1 d1,aA m2 n2 d2,aB aI (split:Int),aB aI (least:Int),aB aI (aP:Int)]] w (AA (newH (jF b) split least aP) w):=by
 obtain⟨K1,K2,F1,F2,hsb,hbw⟩:=boxes2 w #[aA m1 n1 d1,aA m2 n2 d2,aB aI (split:Int),aB aI (least:Int),aB aI (aP:Int)] 29 #[aA aJ 0 0,aA aJ 0 0,aA aJ 0 0,aB aI 0,aA aJ 0 0,aA aJ 0 0,aA aJ 0 0] 42;have YO:=gO (hbt.below hbw);have kH:=gO hsz;have HB1:=gO hbw;have yX:=gO hfr;have HM:=gO hm;have HRR:=gO hrr;have HH4:=gO h4;obtain⟨hk0,hc0⟩:=LH hfr h1 h2 h3 h4;have HK0:=gO hk0;have HK1:=gO K1;have HK2:=gO K2;have HF2:=gO F2;have K:w.heap.size<((w.alloc (aO #[aA m1 n1 d1,aA m2 n2 d2,aB aI (split:Int),aB aI (least:Int),aB aI (aP:Int)] 29)).alloc (aO #[aA aJ 0 0,aA aJ 0 0,aA aJ 0 0,aB aI 0,aA aJ 0 0,aA aJ 0 0,aA aJ 0 0] 42)).heap.size:=by omega
 have Q:=K1 0;have k1:=K1 1;simp only[gB,gC,gD]at Q k1;clear hbt hsz hbw hfr hm hrr h4 hk0 hc0 K1 K2 F1 F2;go_enter func20,ntmps20
 go_upto_region 1 with fail
 generalize (w.alloc _).alloc _=w2 at*;go_upto_region 4 with (go_at_call 47;refine(VZ m1 m2 n1 n2 d1 d2 b w2 YO.out HM.out HRR.out).mono ?_;rintro L w3 ⟨aR,cR,rfl,hoR,Z⟩)
 have Oo:=gO (bJ hoR);have H:=gO Z;have F:=aQ HK1.out K Z;have k2:=F 2;have M:=F 3;have O:=F 4;simp only[gB,gC,gD]at k2 M O;clear Q k1 F hoR Z;go_upto_region 7 with (go_at_call 48;refine(aBz aR (jF b).length cR (jF b) split least aP w3 rfl Oo.out yX.out h1 h2 h3 HH4.out).mono ?_;rintro L w4 ⟨d,he,hn4,hb4⟩;unfold Hc.vals at he;subst he)
 have HN4:=gO hn4;have HB4:=gO (gW H.out hb4);clear k2 M O hn4 hb4;have bA:=aT w4 (aO #[aA d.az 2 d.cz,aA d.am 2 d.cm,aB aI ((newH (jF b) split least aP).aP:Int),aA d.al d.lc.length d.cl,aA d.av (newH (jF b) split least aP).live.length d.cv] 39);have K6:=bI w4 #[aA d.az 2 d.cz,aA d.am 2 d.cm,aB aI ((newH (jF b) split least aP).aP:Int),aA d.al d.lc.length d.cl,aA d.av (newH (jF b) split least aP).live.length d.cv] 39;have s46:w4.heap.size<(w4.alloc (aO #[aA d.az 2 d.cz,aA d.am 2 d.cm,aB aI ((newH (jF b) split least aP).aP:Int),aA d.al d.lc.length d.cl,aA d.av (newH (jF b) split least aP).live.length d.cv] 39)).heap.size:=by simp
 have HKH:=gO K6;have HB5:=gO (gW HB4.out bA);have A:=gO (HR.below HN4.out bA);have aKU:=H.out.size;clear K6 bA;generalize hh:newH (jF b) split least aP=h at*;clear hh;go_upto_region 8 with (go_at_call 49;refine(Wj _).mono ?_;rintro L B ⟨X,cw,rfl,how,D⟩)
 have K66:=aQ HKH.out s46 D;obtain⟨Q,k1,k2,M,O⟩:=gA5 K66;clear K66;go_upto_region 9 with fail
 have b7:=aT B (aO #[aA X 4096 cw,aA d.az 2 d.cz,aA d.am 2 d.cm,aB aI (h.aP:Int),aA d.al d.lc.length d.cl,aA d.av h.live.length d.cv,aA aJ 0 0] 42);have aKV:=D.size;have hs2:=HB1.out.size;have aKW:=H.out.size;have aKX:=HB5.out.size;have s67:B.heap.size<(B.alloc (aO #[aA X 4096 cw,aA d.az 2 d.cz,aA d.am 2 d.cm,aB aI (h.aP:Int),aA d.al d.lc.length d.cl,aA d.av h.live.length d.cv,aA aJ 0 0] 42)).heap.size:=by simp
 have C:∀q∈d.rows h++d.reads h,∀k,q.v.ownBlock=aK k->w3.heap.size<=k/\k<(w4.alloc (aO #[aA d.az 2 d.cz,aA d.am 2 d.cm,aB aI (h.aP:Int),aA d.al d.lc.length d.cl,aA d.av h.live.length d.cv] 39)).heap.size:=λq E k e=>by
  refine⟨?_,HR.lt A.out q E k e⟩;rcases gZ.1 E with E | E
  ·exact Nat.le_of_not_lt (A.out.og q E k e).2
  ·exact Nat.le_of_not_lt (A.out.rx q E k e)
 have hstart:SR (B.alloc (aO #[aA X 4096 cw,aA d.az 2 d.cz,aA d.am 2 d.cm,aB aI (h.aP:Int),aA d.al d.lc.length d.cl,aA d.av h.live.length d.cv,aA aJ 0 0] 42)) B.heap.size (λk=>k<w.heap.size+2) ⟨List.replicate 4096 0,h,[]⟩ ⟨X,4096,cw,d,aJ,0,[]⟩:=
  SR.start (own_base (own_below how b7 (gT _)) (gU _)) ((HR.below (HR.below A.out D) b7).any s67 (λq E k e=>by
   have:=C q E k e;omega) (λk hk=>by omega) (by omega)) λg e=>by
   have h9:=how.lt g e;refine⟨by omega,by omega,λq E e2=> ?_⟩;have:=C q E g e2;omega
 have HS7:Hid (SS (B.alloc (aO #[aA X 4096 cw,aA d.az 2 d.cz,aA d.am 2 d.cm,aB aI (h.aP:Int),aA d.al d.lc.length d.cl,aA d.av h.live.length d.cv,aA aJ 0 0] 42)) B.heap.size (λk=>k<w.heap.size+2) (dW h 0) ⟨X,4096,cw,d,aJ,0,[]⟩):=⟨hstart,bI _ _ _,fP _ _ _⟩
 have G:Below w2.heap.size w2 (B.alloc (aO #[aA X 4096 cw,aA d.az 2 d.cz,aA d.am 2 d.cm,aB aI (h.aP:Int),aA d.al d.lc.length d.cl,aA d.av h.live.length d.cv,aA aJ 0 0] 42)):=gW HB5.out (gW D b7);have HR7:=gO (aQ HK2.out hsb G);have HU7:=gO (aU HF2.out hsb G);have HB7:=gO (HB1.out.trans (G.mono hs2));have u:=kH.out.below HB7.out;have z0:=u.c 0 _ rfl;have z1:=u.c 1 _ rfl;have z2:=u.c 2 _ rfl;have z3:=u.c 3 _ rfl;have z4:=u.c 4 _ rfl;have z5:=u.c 5 _ rfl;have aO7:w.heap.size+1<B.heap.size:=by omega
 clear b7 G hstart C how D Q k1 k2 M O HKH A HN4 HB4 HB5 H Oo YO u HK1 HK2 HF2 HB1 s46 aKU aKV aKW aKX K;generalize (B.alloc _)=w7 at*;generalize B.heap.size=p at*;go_wp2_with fail
 clear z0 z1 z2 z3 z4 z5;go_loopw [45] (λS wr=>∃(j:Nat) (f:Sc),j<=6/\S=aB aI (j:Int)/\Hid (SS wr p (λk=>k<w.heap.size+2) (dW h j) f)/\Hid (∀o,wr.cell? ⟨w.heap.size+1,o,aJ⟩=(#[aA aJ 0 0,aA aJ 0 0,aA aJ 0 0,aB aI 0,aA aJ 0 0,aA aJ 0 0,aA aJ 0 0]:Array Value)[o]?)/\Hid (∀o,wr.frozen? ⟨w.heap.size+1,o,aJ⟩=false)/\Hid (Below w.heap.size w wr)) (λS _=>6-(intOf S).toNat)
 case atStart=>exact⟨0,_,gU _,rfl,HS7,HR7,HU7,HB7⟩
 case round=>
  obtain⟨j,f,hj,rfl,n,i,Rl,rY⟩:=hrel;clear HS7 HR7 HU7 HB7;by_cases V:j<6
  ·have hji:(j:Int)<6:=by omega
   obtain⟨z,hz⟩:∃z,[1,2,4,8,16,32].getD j 0=z:=⟨_,rfl⟩
   have HZ:=gO hz;clear hz;have P:=Zz V wr;rw[HZ.out]at P;go_upto_region 12 with fail
   obtain⟨U,hcr,T⟩:=yU h V;rw[HZ.out]at U hcr T;have aKY:1<=z/\z<=64:=by
    rw[<- HZ.out];obtain rfl | rfl | rfl | rfl | rfl | rfl:j=0∨j=1∨j=2∨j=3∨j=4∨j=5:=by omega
    all_goals decide
   have hd:=(gX wr.heap.size wr).drew;have s:=gO (n.out.below hd);have HRd:=gO (aQ i.out (show w.heap.size+1<wr.heap.size by have:=n.out.r.hr.xs (w.heap.size+1) (by show w.heap.size+1<w.heap.size+2;omega);exact this) hd);have HUd:=gO (aU Rl.out (show w.heap.size+1<wr.heap.size by have:=n.out.r.hr.xs (w.heap.size+1) (by show w.heap.size+1<w.heap.size+2;omega);exact this) hd);have HBd:=gO (rY.out.trans (hd.mono (show w.heap.size<=wr.heap.size from rY.out.size)));have hwd:w.heap.size<=wr.drew.heap.size:=HBd.out.size;have VI:Hid (∀W,Calls prog 51 #[aB aI (z:Int)] W λL w'=>L=aN (aF ⟨(kN z).toArray⟩)/\W=w'):=λW=>by
    have h9:=RV V W;rw[HZ.out]at h9;exact h9
   have HCR:Hid (Calls prog 50 #[aC #[aA f.a1 f.n1 f.c1,aA f.hc.az 2 f.hc.cz,aA f.hc.am 2 f.hc.cm,aB aI (h.aP:Int),aA f.hc.al f.hc.lc.length f.hc.cl,aA f.hc.av h.live.length f.hc.cv,aA f.a2 f.ys.length f.c2],aF ⟨(kN z).toArray⟩,aB aI z,aB aI 1] wr.drew λL w'=>∃a,L=aN (aG #[aC #[aA a.a1 a.n1 a.c1,aA a.hc.az 2 a.hc.cz,aA a.hc.am 2 a.hc.cm,aB aI (h.aP:Int),aA a.hc.al a.hc.lc.length a.hc.cl,aA a.hc.av h.live.length a.hc.cv,aA a.a2 a.ys.length a.c2],aB aI 0])/\iI w' wr.drew.heap.size (dW h (j+1)) a/\Below wr.drew.heap.size wr.drew w'):=
    Gf f (dW h j) (dW h (j+1)) (kN z) z wr.drew s.out.r.at (Jl HK0.out j (by omega)) (Po h j) T aKY U hcr
   have Q:=n.out.k 0;have k1:=n.out.k 1;have k2:=n.out.k 2;have M:=n.out.k 3;have O:=n.out.k 4;have k5:=n.out.k 5;have k6:=n.out.k 6;unfold Sc.vals dW at Q k1 k2 M O k5 k6;simp only[gB,gC,gD]at Q k1 k2 M O k5 k6;have Y:p<wr.drew.heap.size:=s.out.r.hr.gs;have ZA:=s.out.r.hr.xg;have x:w.heap.size<=p:=Nat.le_of_not_lt λh9=>ZA (by show p<w.heap.size+2;omega)
   have htd:w.heap.size+1<wr.drew.heap.size:=s.out.r.hr.xs (w.heap.size+1) (by show w.heap.size+1<w.heap.size+2;omega);have RX:w.heap.size+1≠p:=λe=>ZA (by show p<w.heap.size+2;omega)
   have KD:=gO s.out.k;have FD:=gO s.out.fz;clear hd U hcr T P ZA n i Rl rY;go_region_law (first | (go_simp;go_at_call 51;refine(VI.out _).mono ?_;rintro L wn ⟨rfl,rfl⟩) | (go_simp;go_at_call 50;refine HCR.out.mono ?_;rintro L w5 ⟨a,rfl,R,y⟩;have J:=aQ KD.out Y y;have I:=aU FD.out Y y;have y0:=J 0;have y1:=J 1;have y2:=J 2;have y3:=J 3;have y4:=J 4;have y5:=J 5;have y6:=J 6;have f0:=I 0;have f1:=I 1;have f2:=I 2;have f3:=I 3;have f4:=I 4;have f5:=I 5;have f6:=I 6;unfold Sc.vals dW at y0 y1 y2 y3 y4 y5 y6;simp only[gB,gC,gD]at y0 y1 y2 y3 y4 y5 y6;have HK5:=gO J;have HF5:=gO I;clear J I))
   all_goals
    have pV:SR w5 p (λk=>k<w.heap.size+2) (dW h (j+1)) a:=SR.lift R Y (λk hk=>s.out.r.hr.xs k hk) s.out.r.hr.xg;have N:=SS.put7 pV (a0:=aA f.a1 f.n1 f.c1) (a1:=aA f.hc.az 2 f.hc.cz) (a2:=aA f.hc.am 2 f.hc.cm) (a3:=aB aI (h.aP:Int)) (a4:=aA f.hc.al f.hc.lc.length f.hc.cl) (a5:=aA f.hc.av h.live.length f.hc.cv) (a6:=aA f.a2 f.ys.length f.c2) HK5.out HF5.out;have HS6:=gO N;have R0:=aQ HRd.out htd y;have U0:=aU HUd.out htd y;have R1:=aS R0 RX 0 (aA a.a1 a.n1 a.c1);have U1:=aV U0 ⟨p,0,aJ⟩ (aA a.a1 a.n1 a.c1);have R2:=aS R1 RX 1 (aA a.hc.az 2 a.hc.cz);have U2:=aV U1 ⟨p,1,aJ⟩ (aA a.hc.az 2 a.hc.cz);have R3:=aS R2 RX 2 (aA a.hc.am 2 a.hc.cm);have U3:=aV U2 ⟨p,2,aJ⟩ (aA a.hc.am 2 a.hc.cm);have R4:=aS R3 RX 3 (aB aI (h.aP:Int));have U4:=aV U3 ⟨p,3,aJ⟩ (aB aI (h.aP:Int));have R5:=aS R4 RX 4 (aA a.hc.al a.hc.lc.length a.hc.cl);have U5:=aV U4 ⟨p,4,aJ⟩ (aA a.hc.al a.hc.lc.length a.hc.cl);have R6:=aS R5 RX 5 (aA a.hc.av h.live.length a.hc.cv);have U6:=aV U5 ⟨p,5,aJ⟩ (aA a.hc.av h.live.length a.hc.cv);have R7:=aS R6 RX 6 (aA a.a2 a.ys.length a.c2);have U7:=aV U6 ⟨p,6,aJ⟩ (aA a.a2 a.ys.length a.c2);have HR6:=gO R7;have HU6:=gO U7;have HB6:=gO (gS (gS (gS (gS (gS (gS (gS (HBd.out.trans (y.mono hwd)) p 0 x (aA a.a1 a.n1 a.c1)) p 1 x (aA a.hc.az 2 a.hc.cz)) p 2 x (aA a.hc.am 2 a.hc.cm)) p 3 x (aB aI (h.aP:Int))) p 4 x (aA a.hc.al a.hc.lc.length a.hc.cl)) p 5 x (aA a.hc.av h.live.length a.hc.cv)) p 6 x (aA a.a2 a.ys.length a.c2));clear pV N y0 y1 y2 y3 y4 y5 y6 f0 f1 f2 f3 f4 f5 f6 HK5 HF5 R0 R1 R2 R3 R4 R5 R6 R7 U0 U1 U2 U3 U4 U5 U6 U7 R y Q k1 k2 M O k5 k6 s HRd HUd HBd KD FD HCR VI;go_wp2
    go_roundw
    case rel=>exact⟨j+1,a,by omega,by go_num,HS6,HR6,HU6,HB6⟩
    case measure=>simp[intOf];omega
  ·obtain rfl:j=6:=by omega
   have x0:=n.out.k 0;have x1:=n.out.k 1;have x2:=n.out.k 2;have x3:=n.out.k 3;have x4:=n.out.k 4;have x5:=n.out.k 5;have x6:=n.out.k 6;have y0:=i.out 0;have y1:=i.out 1;have y2:=i.out 2;have y3:=i.out 3;have y4:=i.out 4;have y5:=i.out 5;have y6:=i.out 6;obtain⟨f0,f1,f2,f3,f4,f5,f6⟩:=gF7 Rl.out;unfold Sc.vals dW at x0 x1 x2 x3 x4 x5 x6;simp only[gB,gC,gD]at x0 x1 x2 x3 x4 x5 x6 y0 y1 y2 y3 y4 y5 y6;have l:w.heap.size<=w.heap.size+1:=by omega
   have KX:=(aW (aW (aW (aW (aW (aW (aW i.out 0 (aA f.a1 f.n1 f.c1)) 1 (aA f.hc.az 2 f.hc.cz)) 2 (aA f.hc.am 2 f.hc.cm)) 3 (aB aI (h.aP:Int))) 4 (aA f.hc.al f.hc.lc.length f.hc.cl)) 5 (aA f.hc.av h.live.length f.hc.cv)) 6 (aA f.a2 f.ys.length f.c2))
   simp only[gE,gG,gH]at KX;have t:(λk=>k<w.heap.size+2) (w.heap.size+1):=by show w.heap.size+1<w.heap.size+2;omega
   have A0:=n.out;have A1:=A0.dQ t 0 (aA f.a1 f.n1 f.c1);have A2:=A1.dQ t 1 (aA f.hc.az 2 f.hc.cz);have A3:=A2.dQ t 2 (aA f.hc.am 2 f.hc.cm);have A4:=A3.dQ t 3 (aB aI (h.aP:Int));have A5:=A4.dQ t 4 (aA f.hc.al f.hc.lc.length f.hc.cl);have A6:=A5.dQ t 5 (aA f.hc.av h.live.length f.hc.cv);have A7:=A6.dQ t 6 (aA f.a2 f.ys.length f.c2);have ZA:=n.out.r.hr.xg;have pO:=gO A7;have kP:=gO (gS (gS (gS (gS (gS (gS (gS rY.out (w.heap.size+1) 0 l (aA f.a1 f.n1 f.c1)) (w.heap.size+1) 1 l (aA f.hc.az 2 f.hc.cz)) (w.heap.size+1) 2 l (aA f.hc.am 2 f.hc.cm)) (w.heap.size+1) 3 l (aB aI (h.aP:Int))) (w.heap.size+1) 4 l (aA f.hc.al f.hc.lc.length f.hc.cl)) (w.heap.size+1) 5 l (aA f.hc.av h.live.length f.hc.cv)) (w.heap.size+1) 6 l (aA f.a2 f.ys.length f.c2));have hwX:w.heap.size<wr.heap.size:=Nat.lt_of_succ_lt (n.out.r.hr.xs (w.heap.size+1) (by show w.heap.size+1<w.heap.size+2;omega));clear A0 A1 A2 A3 A4 A5 A6 A7 t ZA n i Rl rY;go_wp2_with fail
   generalize ((((((wr.setCell _ _).setCell _ _).setCell _ _).setCell _ _).setCell _ _).setCell _ _).setCell _ _=wx at*;refine bodyPost_ret (v:=aG #[.agg (f.vals (dW h 6)),aB aI 0]) (by unfold Sc.vals dW;simp[results,results20,go_sem,KX]) rfl ⟨f,rfl,pO.out.r.toX (by show w.heap.size<w.heap.size+2;omega) (λk hk=>by show k<w.heap.size+2;omega) (Nat.lt_irrefl _),kP.out⟩
theorem Wn (n:Nat)(w:World)(hsz:Bg w)(h1:1<=n)(h2:n<=32):
 Calls prog 108 #[aB aI n] w λev w'=>ev=aN (aG #[aF ⟨(kN (zz (vV n))).toArray⟩,.bool true])/\w=w':=by
 obtain⟨i,d,_,e⟩:=yB h1 h2;have q:=hsz.c 0 _ rfl;have r:=hsz.c 1 _ rfl;have o:=hsz.c 2 _ rfl;have s:=hsz.c 3 _ rfl;have m:=hsz.c 4 _ rfl;have x:=hsz.c 5 _ rfl;have k:=hsz.sz;obtain⟨J,l⟩:∃J,vV n=J:=⟨_,rfl⟩
 rw[l]at i d e ⊢;clear l;have t:Hid (∀W,Calls prog 51 #[aB aI (zz J:Int)] W λev w'=>ev=aN (aF ⟨(kN (zz J)).toArray⟩)/\W=w'):=λW=>RV i W
 have b:=gO e;have f:=gO d;clear hsz e d;go_enter func108,ntmps108
 go_upto_region 2 with fail
 clear q r o s m x;go_loopw [7] (λa wr=>∃(j:Nat),j<=J/\a=aB aI (j:Int)/\wr=w) (λa _=>6-(intOf a).toNat)
 case atStart=>exact⟨0,gU _,rfl,rfl⟩
 case round=>
  obtain⟨j,y,rfl,rfl⟩:=hrel;have p:(j:Int)<6:=by omega
  have h:(Instr.index 118 (aC #[aB aI 1,aB aI 2,aB aI 4,aB aI 8,aB aI 16,aB aI 32]) (aB aI (j:Int))).run prog wr= .ok (aB aI (zz j:Int)) wr:=Zz (by omega) wr;by_cases u:j=J
  ·subst u;have g:(n:Int)<=(zz j:Int):=by have:=f.out;omega
   go_wp2_with (go_at_call 51;refine(t.out _).mono ?_;rintro ev w' ⟨rfl,rfl⟩)
   exact bodyPost_ret (v:=aG #[aF ⟨(kN (zz j)).toArray⟩,.bool true]) (by simp[results,results108,go_sem]) rfl ⟨rfl,rfl⟩
  ·have g:¬(n:Int)<=(zz j:Int):=by have:=b.out j (by omega);omega
   generalize zz j=z at*;go_wp2
   go_roundw
   case rel=>exact⟨j+1,by omega,by go_num,by first | rfl | trivial⟩
   case measure=>simp[intOf];omega
theorem Pq (n:Nat)(w:World)(hsz:Bg w)(h1:33<=n):
 Calls prog 108 #[aB aI n] w λev w'=>ev=aN (aG #[aF ⟨#[]⟩,.bool false])/\w=w':=by
 have l:=hsz.c 0 _ rfl;have m:=hsz.c 1 _ rfl;have h:=hsz.c 2 _ rfl;have f:=hsz.c 3 _ rfl;have g:=hsz.c 4 _ rfl;have o:=hsz.c 5 _ rfl;have b:=hsz.sz;clear hsz;go_enter func108,ntmps108
 go_upto_region 2 with fail
 clear l m h f g o;go_loopw [7] (λa wr=>∃(j:Nat),j<=6/\a=aB aI (j:Int)/\wr=w) (λa _=>6-(intOf a).toNat)
 case atStart=>exact⟨0,gU _,rfl,rfl⟩
 case round=>
  obtain⟨j,p,rfl,rfl⟩:=hrel;by_cases d:j<6
  ·have i:(j:Int)<6:=by omega
   have e:(Instr.index 118 (aC #[aB aI 1,aB aI 2,aB aI 4,aB aI 8,aB aI 16,aB aI 32]) (aB aI (j:Int))).run prog wr= .ok (aB aI (zz j:Int)) wr:=Zz d wr;have k:¬(n:Int)<=(zz j:Int):=by have:=(aG5 d).2;omega
   generalize zz j=z at*;go_wp2
   go_roundw
   case rel=>exact⟨j+1,by omega,by go_num,by first | rfl | trivial⟩
   case measure=>simp[intOf];omega
  ·obtain rfl:j=6:=by omega
   go_wp2
   exact bodyPost_ret (v:=aG #[aF ⟨#[]⟩,.bool false]) (by simp[results,results108,go_sem]) rfl ⟨rfl,rfl⟩
theorem Jm (b:Bk)(p:Nat)(w:World)(ha:b.a<=1000)(hp:p<=1000):
 Calls prog 83 #[aC #[aB aI b.a,aB aI b.o,aB aI b.t],aB aI p] w λe w'=>e=aN (aB aI ((b.a:Int)-p))/\Below w.heap.size w w':=by
 go_enter func83,ntmps83
 go_wp2
 go_ret
 exact⟨rfl,aT _ _⟩
theorem LM (a:Option Addr)(n cap:Nat)(l:List Bk)(p:Nat)(w:World)(hn:l.length=n)(hl:n<=1000)(hr:Row w a (flat bC l))(hrise:rW l)(ha:∀b∈l,b.a<=1000)(hp:p<=1000):
 Calls prog 69 #[aA a n cap,aB aI p,.func (.func 83) #[] #[]] w λe w'=>e=aN (aG #[aB aI (lb l p:Int),.bool (hasB l p)])/\Below w.heap.size w w':=by
 subst hn;have E:=vH l p;have P:∀k w,(callFunc 83 k).run prog w= .ok (.enter 83 k) w:=enters_of func83 (by kernel_rfl) rfl;go_enter func69,ntmps69
 go_wp2
 go_loopw [9,10,11] (λB s _ wr=>∃i j:Nat,i<=lb l p/\lb l p<=j/\j<=l.length/\B=aB aI i/\s=aB aI j/\Below w.heap.size w wr) (λB s _ _=>(intOf s).toNat-(intOf B).toNat)
 case atStart=>exact⟨0,l.length,gU _,E,gT _,rfl,rfl,gX _ _⟩
 case round=>
  obtain⟨i,j,N,J,O,rfl,rfl,f⟩:=hrel;by_cases I:i<j
  ·have F:(i+j)/2<l.length:=by omega
   have m:=gO (JM hrise (a:=p) F);obtain⟨b,off,rfl,hb,x⟩:=aZ aX (by decide) (hr.below f) F;obtain⟨q,v,r⟩:=bZ x;have t:=ha _ (gL F);clear hr x;generalize l[(i+j)/2]=y at*;go_wp2_with fail
   refine(Jm y p _ t hp).mono ?_;rintro e H ⟨rfl,u⟩;have d:=gW f u;clear q v r;by_cases o:y.a<p
   ·have M:=m.out.2 o;have D:(y.a:Int)-p<0:=by omega
    go_wp2
    go_roundw
    case rel=>exact⟨(i+j)/2+1,j,by omega,J,O,by go_num,rfl,d⟩
    case measure=>simp[intOf];omega
   ·have M:¬(i+j)/2<lb l p:=λh=>o (m.out.1 h)
    have D:¬(y.a:Int)-p<0:=by omega
    go_wp2
    go_roundw
    case rel=>exact⟨i,(i+j)/2,N,by omega,by omega,rfl,by go_num,d⟩
    case measure=>simp[intOf];omega
  ·obtain rfl:i=lb l p:=by omega
   have L:(lb l p:Int)<=l.length:=by omega
   by_cases C:lb l p<l.length
   ·obtain⟨b,off,rfl,hb,x⟩:=aZ aX (by decide) (hr.below f) C;obtain⟨q,v,r⟩:=bZ x;have t:=ha _ (gL C);have g:=gO (xW hrise (a:=p) C);have A:(lb l p:Int)<l.length:=by omega
    clear hr x;generalize l[lb l p]=y at*;generalize c:lb l p=K at*;have z:=gO c;clear c;go_wp2_with fail
    refine(Jm y p _ t hp).mono ?_;rintro e H ⟨rfl,u⟩;have d:=gW f u;clear q v r;by_cases G:y.a=p
    ·have D:((y.a:Int)-p == 0)=true:=by rw[beq_iff_eq];omega
     go_wp2
     go_ret2
     refine⟨?_,d⟩;rw[g.out,z.out,gTg G];rfl
    ·have D:((y.a:Int)-p == 0)=false:=by rw[beq_eq_false_iff_ne];omega
     go_wp2
     go_ret2
     refine⟨?_,d⟩;rw[g.out,z.out,gV G];rfl
   ·have g:=gO (wG hrise (a:=p) (by omega));have A:¬(lb l p:Int)<l.length:=by omega
    clear hr;generalize c:lb l p=K at*;have z:=gO c;clear c;go_wp2
    go_ret2
    refine⟨?_,f⟩;rw[g.out,z.out];rfl
def kZ (ns:List (List UInt8)):Bool:=[1,2,4,8,16,32].any λk=>ns.contains (kN k)
theorem aBE (h:Bg w):Row w (aK ⟨0,0,aJ⟩) (flat jA [1,2,4,8,16,32]):=λi v a=>by
 refine⟨0,0,rfl,h.sz,?_⟩;rw[Nat.zero_add];refine h.c i v ?_
 match i,a with
 | 0,a=>exact a
 | 1,a=>exact a
 | 2,a=>exact a
 | 3,a=>exact a
 | 4,a=>exact a
 | 5,a=>exact a
 | i+6,a=>simp[flat,jA]at a
theorem ZB (y:Cc)(k B:Nat)(W:World)(hk:∃j,j<6/\k=zz j)(hl:y.c.ns.length=y.n1)(hn:y.n1<=1000000)(hr:Row W y.a1 (flat encS y.c.ns))(hB:B<W.heap.size)(hc:W.cell? ⟨B,0,aJ⟩=aK (aA y.a1 y.n1 y.c1)):
 Calls prog 77 (#[aB aI (k:Int)]++#[aH (aK ⟨B,0,aJ⟩)]) W λev w'=>ev=aN (.bool (y.c.ns.contains (kN k)))/\Below W.heap.size W w':=by
 show Calls prog 77 #[aB aI (k:Int),aH (aK ⟨B,0,aJ⟩)] W _;obtain⟨j,d,rfl⟩:=hk;have b:Hid (∀W,Calls prog 51 #[aB aI (zz j:Int)] W λev w'=>ev=aN (aF ⟨(kN (zz j)).toArray⟩)/\W=w'):=λW=>RV d W
 have a:=(gX W.heap.size W).drew;have h:Hid (Calls prog 19 #[aA y.a1 y.n1 y.c1,aF ⟨(kN (zz j)).toArray⟩] W.drew λe w'=>e=aN (.bool (y.c.ns.contains (kN (zz j))))/\W.drew=w'):=zX y.a1 y.n1 y.c1 y.c.ns (kN (zz j)) W.drew hl hn (hr.below a);have g:=gO a;have f:=(a.cell (p:=⟨B,0,aJ⟩) hB).trans hc;generalize zz j=z at*;clear a hl hr;go_enter func77,ntmps77
 go_upto_region 1 with fail
 go_region_with (first | (go_at_call 51;refine(b.out _).mono ?_;rintro ev w' ⟨rfl,rfl⟩) | (go_at_call 19;refine h.out.mono ?_;rintro e w' ⟨rfl,rfl⟩))
 all_goals
  go_wp2
  go_ret
  exact⟨bP (by rw[Bool.eq_iff_iff];simp),g.out⟩
theorem Pv (y:Cc)(w:World)(hy:JW w y)(hn:y.n1<=1000000)(hsz:Bg w):
 Calls prog 39 #[aC #[aA y.a1 y.n1 y.c1,aB aI y.c.z,aB aI y.c.r,aB aI y.c.o,aA y.a2 y.n2 y.c2,aA y.a3 y.n3 y.c3]] w λev w'=>ev=aN (.bool (kZ y.c.ns))/\Below w.heap.size w w':=by
 have j:∀a w,(callFunc 77 a).run prog w= .ok (.enter 77 a) w:=enters_of func77 (by kernel_rfl) rfl;obtain⟨K,F,b,hb⟩:=boxes1 w #[aA y.a1 y.n1 y.c1,aB aI (y.c.z:Int),aB aI (y.c.r:Int),aB aI (y.c.o:Int),aA y.a2 y.n2 y.c2,aA y.a3 y.n3 y.c3] 67;have g:=K 0;simp only[gB,gC,gD]at g;have d:=hy.below hb;have l:=gO (rX (aK ⟨0,0,aJ⟩) 6 6 [1,2,4,8,16,32] 77 #[aH (aK ⟨w.heap.size,0,aJ⟩)] (λk=>y.c.ns.contains (kN k)) _ rfl (by decide) (aBE (hsz.below hb)) j (λW f k i=>ZB y k w.heap.size W (by
  simp only[gY,List.not_mem_nil,or_false]at i;rcases i with rfl | rfl | rfl | rfl | rfl | rfl
  ·exact⟨0,by decide,rfl⟩
  ·exact⟨1,by decide,rfl⟩
  ·exact⟨2,by decide,rfl⟩
  ·exact⟨3,by decide,rfl⟩
  ·exact⟨4,by decide,rfl⟩
  ·exact⟨5,by decide,rfl⟩) d.l1 hn (d.r1.below f) (gI b f.size) ((f.cell (p:=⟨w.heap.size,0,aJ⟩) b).trans g)))
 have m:([1,2,4,8,16,32].any λk=>y.c.ns.contains (kN k))=kZ y.c.ns:=rfl;rw[m]at l;generalize kZ y.c.ns=t at*;have n:=gO hb;have s:=(hsz.below hb).c 0 _ rfl;have q:=(hsz.below hb).sz;clear j K F hb d hy hsz g;go_enter func39,ntmps39
 go_wp2_with (go_at_call 64;refine l.out.mono ?_;rintro e w' ⟨rfl,h⟩)
 go_ret
 exact⟨rfl,gW n.out h⟩
theorem Wp (x:Sl)(p C:Nat)(W:World)(hx:x.p<=1000000)(hp:p<=1000000)(hC:C<W.heap.size)(hc:W.cell? ⟨C,0,aJ⟩=aK (aB aI (p:Int))):
 Calls prog 82 (#[.agg (bQ x).toArray]++#[aH (aK ⟨C,0,aJ⟩)]) W λev w'=>ev=aN (.bool (decide (x.p=p)))/\Below W.heap.size W w':=by
 show Calls prog 82 #[aC #[aB aI x.p,aB aI x.n,aB aI x.h],aH (aK ⟨C,0,aJ⟩)] W _;have hb:=aT W (aO #[aB aI (x.p:Int),aB aI (x.n:Int),aB aI x.h] 99);have a:=(hb.cell (p:=⟨C,0,aJ⟩) hC).trans hc;have b:C≠W.heap.size:=by omega
 have c:=gO hb;clear hb hc;go_enter func82,ntmps82
 go_wp2
 go_ret
 exact⟨bP (by rw[Bool.eq_iff_iff];simp only[beq_iff_eq,decide_eq_true_eq];omega),c.out⟩
theorem Wq (y:Cc)(p C:Nat)(W:World)(hy:JW W y)(hn:y.n2<=1000000)(hs:∀x∈y.c.sl,x.p<=1000000)(hp:p<=1000000)(hC:C<W.heap.size)(hc:W.cell? ⟨C,0,aJ⟩=aK (aB aI (p:Int))):
 Calls prog 80 (#[.agg (fD y).toArray]++#[aH (aK ⟨C,0,aJ⟩)]) W λev w'=>ev=aN (.bool (y.c.sl.any λx=>decide (x.p=p)))/\Below W.heap.size W w':=by
 show Calls prog 80 #[aC #[aA y.a1 y.n1 y.c1,aB aI y.c.z,aB aI y.c.r,aB aI y.c.o,aA y.a2 y.n2 y.c2,aA y.a3 y.n3 y.c3],aH (aK ⟨C,0,aJ⟩)] W _;have i:∀a w,(callFunc 82 a).run prog w= .ok (.enter 82 a) w:=enters_of func82 (by kernel_rfl) rfl;obtain⟨K,F,j,hb⟩:=boxes1 W #[aA y.a1 y.n1 y.c1,aB aI (y.c.z:Int),aB aI (y.c.r:Int),aB aI (y.c.o:Int),aA y.a2 y.n2 y.c2,aA y.a3 y.n3 y.c3] 67;have n:=K 4;simp only[gB,gC,gD]at n;have f:=(hb.cell (p:=⟨C,0,aJ⟩) hC).trans hc;have d:=gI hC hb.size;have b:=hy.below hb;have l:=gO (EO y.a2 y.n2 y.c2 y.c.sl 82 #[aH (aK ⟨C,0,aJ⟩)] (λx=>decide (x.p=p)) _ b.l2 (by omega) b.r2 i (λq h x m=>Wp x p C q (hs x m) hp (gI d h.size) ((h.cell (p:=⟨C,0,aJ⟩) d).trans f)));have k:=gO hb;clear i K F hb b hy hc f;go_enter func80,ntmps80
 go_wp2_with (go_at_call 81;refine l.out.mono ?_;rintro e w' ⟨rfl,g⟩)
 go_ret
 exact⟨rfl,gW k.out g⟩
def wZ (s:Sy)(a:Int)(ev:Ending):Prop:=(∃p:Nat,a=16*(p:Int)/\¬s.OI p/\hasB s.h.live p=true/\ev=aN (aG #[aB aI (lb s.h.live p:Int),.bool true]))∨((∀b,s.whole b->a≠16*(b.a:Int))/\∃i:Nat,ev=aN (aG #[aB aI (i:Int),.bool false]))
theorem aBF {v:Sc}(h:v.ys.map (·.c)=s.cs)(p:Nat):(v.ys.any λy=>y.c.sl.any λx=>decide (x.p=p))=true↔s.OI p:=by
 unfold Sy.OI;rw[<- h];simp only[List.any_eq_true,List.mem_map,decide_eq_true_eq];constructor
 ·rintro⟨y,a,x,b,e⟩;exact⟨y.c,⟨y,a,rfl⟩,x,b,e⟩
 ·rintro⟨c,⟨y,a,rfl⟩,x,b,e⟩;exact⟨y,a,x,b,e⟩
theorem Jo (v:Sc)(s:Sy)(a:Int)(w:World)(hs:nO w v s)(hk:cZ s)(hab: -1000000<=a/\a<=10000):
 Calls prog 41 #[aC #[aA v.a1 v.n1 v.c1,aA v.hc.az 2 v.hc.cz,aA v.hc.am 2 v.hc.cm,aB aI (s.h.aP:Int),aA v.hc.al v.hc.lc.length v.hc.cl,aA v.hc.av s.h.live.length v.hc.cv,aA v.a2 v.ys.length v.c2],aB aI a] w λev w'=>wZ s a ev/\Below w.heap.size w w':=by
 obtain⟨D,H,u,f⟩:=boxes1 w #[aA v.a1 v.n1 v.c1,aA v.hc.az 2 v.hc.cz,aA v.hc.am 2 v.hc.cm,aB aI (s.h.aP:Int),aA v.hc.al v.hc.lc.length v.hc.cl,aA v.hc.av s.h.live.length v.hc.cv,aA v.a2 v.ys.length v.c2] 42;by_cases Z:0<=a/\a%16=0
 ·obtain⟨p,rfl⟩:∃p:Nat,a=16*(p:Int):=⟨(a/16).toNat,by omega⟩
  have K:∀l w,(callFunc 80 l).run prog w= .ok (.enter 80 l) w:=enters_of func80 (by kernel_rfl) rfl;have X:¬(16*(p:Int))<0:=by omega
  have hp2:(16*(p:Int)).tmod 16=0:=by rw[Int.tmod_eq_emod_of_nonneg (by omega)];omega
  have hp3:(16*(p:Int)).tdiv 16=p:=by rw[Int.tdiv_eq_ediv_of_nonneg (by omega)];omega
  obtain⟨M,U,k,o⟩:=boxes1 (w.alloc (aO #[aA v.a1 v.n1 v.c1,aA v.hc.az 2 v.hc.cz,aA v.hc.am 2 v.hc.cm,aB aI (s.h.aP:Int),aA v.hc.al v.hc.lc.length v.hc.cl,aA v.hc.av s.h.live.length v.hc.cv,aA v.a2 v.ys.length v.c2] 42)) #[aB aI (p:Int)] 3;have m:=hs.below f;have g:=m.below o;have r:=M 0;simp only[gB,gC]at r;have hyl:v.ys.length<=20:=by have:=congrArg List.length hs.cy;rw[gTe]at this;rw[this];exact hk.cl
  have d:=gO (wK v.a2 v.ys.length v.c2 v.ys 80 #[aH (aK ⟨(w.alloc (aO #[aA v.a1 v.n1 v.c1,aA v.hc.az 2 v.hc.cz,aA v.hc.am 2 v.hc.cm,aB aI (s.h.aP:Int),aA v.hc.al v.hc.lc.length v.hc.cl,aA v.hc.av s.h.live.length v.hc.cv,aA v.a2 v.ys.length v.c2] 42)).heap.size,0,aJ⟩)] (λy=>y.c.sl.any λx=>decide (x.p=p)) _ rfl (by omega) g.rc K (λW B y O=>by
   have F:y.c∈s.cs:=by rw[<- hs.cy];exact List.mem_map_of_mem O
   have C:=hk.ck _ F;have h2:=(g.ca y O).l2;exact Wq y p _ W ((g.below B).ca y O) (by have:=C.nS hk.hk;omega) (λx hx=>by have:=(C.sk x hx).BF hk.hk;omega) (by omega) (gI k B.size) ((B.cell (p:=⟨(w.alloc (aO #[aA v.a1 v.n1 v.c1,aA v.hc.az 2 v.hc.cz,aA v.hc.am 2 v.hc.cm,aB aI (s.h.aP:Int),aA v.hc.al v.hc.lc.length v.hc.cl,aA v.hc.av s.h.live.length v.hc.cv,aA v.a2 v.ys.length v.c2] 42)).heap.size,0,aJ⟩) k).trans r)))
  have j:=aBF hs.cy p;have L:(w.alloc (aO #[aA v.a1 v.n1 v.c1,aA v.hc.az 2 v.hc.cz,aA v.hc.am 2 v.hc.cm,aB aI (s.h.aP:Int),aA v.hc.al v.hc.lc.length v.hc.cl,aA v.hc.av s.h.live.length v.hc.cv,aA v.a2 v.ys.length v.c2] 42)).heap.size=w.heap.size+1:=by simp
  have E:=aQ D u o;have A:=gI u o.size;obtain⟨R,k1,k2,Q,V,S,T⟩:=gA7 E;have I:=gO g;have t:=gO (gW f o);have P:=gO hk;rw[L]at d r k;cases hany:(v.ys.any λy=>y.c.sl.any λx=>decide (x.p=p))with
  | true=>
   rw[hany]at d;have q:Hid (wZ s (16*(p:Int)) (aN (aG #[aB aI 0,.bool false]))):= .inr ⟨λb hb e=>by
    obtain rfl:p=b.a:=by omega
    exact(dK.1 hb).2 (j.1 hany),0,rfl⟩
   clear j hany K hs m g f o D H M U E hk;go_enter func41,ntmps41
   go_upto_region 4 with fail
   generalize (w.alloc _).alloc _=w2 at*;go_wp2_with (go_at_call 32;refine d.out.mono ?_;rintro e w' ⟨rfl,n⟩)
   exact bodyPost_ret (v:=aG #[aB aI 0,.bool false]) (by simp[results,results41,go_sem]) rfl ⟨q.out,gW t.out n⟩
  | false=>
   rw[hany]at d;have q:Hid (wZ s (16*(p:Int)) (aN (aG #[aB aI (lb s.h.live p:Int),.bool (hasB s.h.live p)]))):=by
    cases hh:hasB s.h.live p with
    | true=>exact .inl ⟨p,rfl,(λe=>by rw[j.2 e]at hany;cases hany),hh,rfl⟩
    | false=>
     refine .inr ⟨λb hb e=> ?_,_,rfl⟩;obtain rfl:p=b.a:=by omega
     have h9:hasB s.h.live b.a=true:=by
      unfold hasB;exact List.any_eq_true.2 ⟨b,hb.1,gTg rfl⟩
     rw[h9]at hh;cases hh
   have z:Hid (∀W,Below ((w.alloc (aO #[aA v.a1 v.n1 v.c1,aA v.hc.az 2 v.hc.cz,aA v.hc.am 2 v.hc.cm,aB aI (s.h.aP:Int),aA v.hc.al v.hc.lc.length v.hc.cl,aA v.hc.av s.h.live.length v.hc.cv,aA v.a2 v.ys.length v.c2] 42)).alloc (aO #[aB aI (p:Int)] 3)).heap.size ((w.alloc (aO #[aA v.a1 v.n1 v.c1,aA v.hc.az 2 v.hc.cz,aA v.hc.am 2 v.hc.cm,aB aI (s.h.aP:Int),aA v.hc.al v.hc.lc.length v.hc.cl,aA v.hc.av s.h.live.length v.hc.cv,aA v.a2 v.ys.length v.c2] 42)).alloc (aO #[aB aI (p:Int)] 3)) W->Calls prog 69 #[aA v.hc.av s.h.live.length v.hc.cv,aB aI p,.func (.func 83) #[] #[]] W λe w'=>e=aN (aG #[aB aI (lb s.h.live p:Int),.bool (hasB s.h.live p)])/\Below W.heap.size W w'):=λW B=>LM v.hc.av s.h.live.length v.hc.cv s.h.live p W rfl (by have:=P.out.hk.jM;omega) ((I.out.below B).hh.vr) P.out.hk.vs (λb hb=>by
    obtain⟨_,_,h4,_⟩:=(P.out.hk.lv b hb).1;omega) (by omega)
   have J:=gO E;clear j hany K hs m g f o D H M U E hk;go_enter func41,ntmps41
   go_upto_region 4 with fail
   generalize (w.alloc _).alloc _=w2 at*;go_upto_region 6 with (go_at_call 32;refine d.out.mono ?_;rintro e Y ⟨rfl,i⟩)
   have K3:=aQ J.out A i;have ka3:=(i.cell (p:=⟨w.heap.size+1,0,aJ⟩) k).trans r;have N:=gO (z.out Y i);have G:=gO (gW t.out i);clear R k1 k2 Q V S T r i z d;obtain⟨R,k1,k2,Q,V,S,T⟩:=gA7 K3;go_wp2_with (go_at_call 69;refine N.out.mono ?_;rintro e w' ⟨rfl,n⟩)
   exact bodyPost_ret (v:=aG #[aB aI (lb s.h.live p:Int),.bool (hasB s.h.live p)]) (by simp[results,results41,go_sem]) rfl ⟨q.out,gW G.out n⟩
 ·have q:Hid (wZ s a (aN (aG #[aB aI 0,.bool false]))):= .inr ⟨λb hb e=>Z (by omega),0,rfl⟩;have t:=gO f;clear hs hk f D H;by_cases h0:a<0
  ·go_enter func41,ntmps41
   go_wp2
   exact bodyPost_ret (v:=aG #[aB aI 0,.bool false]) (by simp[results,results41,go_sem]) rfl ⟨q.out,t.out⟩
  ·have h1:¬a.tmod 16=0:=by rw[Int.tmod_eq_emod_of_nonneg (by omega)];omega
   go_enter func41,ntmps41
   go_wp2
   exact bodyPost_ret (v:=aG #[aB aI 0,.bool false]) (by simp[results,results41,go_sem]) rfl ⟨q.out,t.out⟩
section
open Classical in
noncomputable def Sy.pG (s:Sy)(a:Int):Option (Nat×Nat):=if h:∃p:Nat×Nat,s.jD p.1 p.2 a then aK h.choose else aJ
theorem cZ.zF (hk:cZ s){k:Nat}(h:s.jD i k a):s.pG a=aK (i,k):=by
 have b:∃p:Nat×Nat,s.jD p.1 p.2 a:=⟨(i,k),h⟩
 unfold Sy.pG;rw[dif_pos b];have d:=b.choose_spec;obtain⟨c,e⟩:=hk.uX d h;rw[show b.choose=(i,k)from Prod.ext c e]
theorem zG (h:∀i k,¬s.jD i k a):s.pG a=aJ:=by
 unfold Sy.pG;rw[dif_neg];rintro⟨p,b⟩;exact h _ _ b
theorem uF {k:Nat}(h:s.pG a=aK (i,k)):s.jD i k a:=by
 unfold Sy.pG at h;split at h
 ·rename_i h1;have b:=h1.choose_spec;rw[gP h]at b;exact b
 ·cases h
theorem Ws (h:s.pG a=aJ):∀i k,¬s.jD i k a:=λi k b=>by
 unfold Sy.pG at h;rw[dif_pos ⟨(i,k),b⟩]at h;cases h
noncomputable def Sy.iE (s:Sy)(a:Int):Option (Nat×Nat×Ca):=match s.pG a with
 | some (i,k)=>match s.cs[i]? with
  | some c=>if kZ c.ns then aK (i,k,c)else aJ
  | none=>aJ
 | none=>aJ
open Classical in
noncomputable def Sy.kX (s:Sy)(a:Int):Option Bk:=if h:∃b,s.whole b/\a=16*(b.a:Int)then aK h.choose else aJ
theorem cZ.Gn (hk:cZ s){b':Bk}(h1:b∈s.h.live)(h2:b'∈s.h.live)(h:b.a=b'.a):b=b':=by
 have c:=lZ hk.hk.vs h1;have d:=lZ hk.hk.vs h2;rw[h,d]at c;exact(gP c).symm
theorem cZ.DN (hk:cZ s)(h:s.whole b):s.kX (16*(b.a:Int))=aK b:=by
 have c:∃d,s.whole d/\(16*(b.a:Int))=16*(d.a:Int):=⟨b,h,rfl⟩
 unfold Sy.kX;rw[dif_pos c];obtain⟨e,f⟩:=c.choose_spec;rw[hk.Gn e.1 h.1 (by omega)]
theorem qF (h:s.kX a=aK b):s.whole b/\a=16*(b.a:Int):=by
 unfold Sy.kX at h;split at h
 ·rename_i h1;have c:=h1.choose_spec;rw[gP h]at c;exact c
 ·cases h
theorem RY (h:s.kX a=aJ):∀b,s.whole b->a≠16*(b.a:Int):=λb hb e=>by
 unfold Sy.kX at h;rw[dif_pos ⟨b,hb,e⟩]at h;cases h
noncomputable def Sy.iG (s:Sy)(a:Int):Option Nat:=match s.iE a with
 | some (_,_,c)=>aK c.z
 | none=>(s.kX a).map λb=>16*2^b.o
def Sy.jR (s:Sy)(cpu:Nat)(b:Bk):Sy:={s with h:=s.h.fZ cpu (lb s.h.live b.a) b}
noncomputable def Sy.jG (s:Sy)(cpu:Nat)(a:Int):Option Sy:=match s.iE a with
 | some (i,k,_)=>aK (s.free i k a.toNat cpu)
 | none=>(s.kX a).map λb=>s.jR cpu b
theorem cZ.setH (hk:cZ s)(hh:fG h')(hc:h'.aP=s.h.aP)(hl:∀b∈s.h.live,s.OI b.a->b∈h'.live):cZ {s with h:=h'}:=by
 refine⟨hk.wl,hh,hk.cl,λc d=> ?_,hk.zd,hk.nd,hk.pd⟩;refine(hk.ck c d).move hc λx e=> ?_
 obtain⟨b,hb,f,g⟩:=((hk.ck c d).sk x e).live;exact⟨⟨b,hl b hb ⟨c,d,x,e,f.symm⟩,f,g⟩,((hk.ck c d).sk x e).chain⟩
theorem cZ.ZC (hk:cZ s){order t a:Nat}{u lo:Bool}(dA:cpu<s.h.aP)(ho:order<=4)(ht:t<3)(he:s.h.alloc cpu order t u lo=aK (h',a)):
 cZ {s with h:=h'}/\h'.aP=s.h.aP/\(∀b,({s with h:=h'}:Sy).whole b↔b=⟨a,order,t⟩∨s.whole b)/\(∀b∈s.h.live,apartB a order b)/\dM 0 256 a order:=by
 obtain⟨v,n,f,d,k⟩:=hk.hk.alloc dA ho ht he;have j:∀b∈s.h.live,apartB a order b:=λb hb=>dU λq g i=>by
  have w:=v.one q;rw[dO,d,tJ]at w;have B:0<cnt s.h.live q:=eG.2 ⟨b,hb,i⟩;have D:hit (⟨a,order,t⟩:Bk) q=1:=kR.2 g;omega
 refine⟨hk.setH v f.aP λb hb _=>by rw[d];exact sG.2 (.inr hb),f.aP,λb=> ?_,j,k⟩;have l:∀p,({s with h:=h'}:Sy).OI p↔s.OI p:=λp=>Iff.rfl
 rw[dK,dK,l];show b∈h'.live/\_↔_;rw[d,sG];constructor
 ·rintro⟨g | g,i⟩
  ·exact .inl g
  ·exact .inr ⟨g,i⟩
 ·rintro(rfl | ⟨g,i⟩)
  ·refine⟨.inl rfl,fun⟨c,A,x,y,e⟩=> ?_⟩;obtain⟨r,m,G,_⟩:=((hk.ck c A).sk x y).live;have z:=j r m;unfold apartB Bk.fin at z;have C:=Nat.two_pow_pos order;have F:=Nat.two_pow_pos r.o;have E:x.p=a:=e;omega
  ·exact⟨.inr g,i⟩
theorem cZ.jR (hk:cZ s)(dA:cpu<s.h.aP)(hb:s.whole b):
 cZ (s.jR cpu b)/\(s.jR cpu b).h.aP=s.h.aP/\(∀x,(s.jR cpu b).whole x↔s.whole x/\x≠b)/\(∃hi:lb s.h.live b.a<s.h.live.length,s.h.live[lb s.h.live b.a]=b)/\hasB s.h.live b.a=true:=by
 have v:=lZ hk.hk.vs hb.1;obtain⟨hi,e⟩:=gK.1 v;obtain⟨u,y,r,t⟩:=hk.hk.fZ dA hi;rw[e]at u r t;have c:∀x,x∈(s.h.fZ cpu (lb s.h.live b.a) b).live↔x∈s.h.live/\x≠b:=λx=>by
  rw[t,List.mem_eraseIdx_iff_getElem];constructor
  ·rintro⟨j,k,f,d⟩;refine⟨by rw[<- d];exact gL k,λq=>f ?_⟩;have l:=lZ hk.hk.vs (gL k);have g:=hk.hk.vs;rw[gN]at g;have i:s.h.live[j]=s.h.live[lb s.h.live b.a]:=by rw[e,d,q]
   rcases Nat.lt_trichotomy j (lb s.h.live b.a)with h | h | h
   ·have:=g j _ k hi h;rw[i]at this;omega
   ·exact h
   ·have:=g _ j hi k h;rw[i]at this;omega
  ·rintro⟨o,f⟩;obtain⟨j,k,d⟩:=List.mem_iff_getElem.1 o;refine⟨j,k,λq=> ?_,d⟩;subst q;rw[e]at d;exact f d.symm
 refine⟨hk.setH u r.aP λx o w=>(c x).2 ⟨o,λd=>(dK.1 hb).2 (d▸w)⟩,r.aP,λx=> ?_,⟨hi,e⟩,?_⟩
 ·have m:∀p,(s.jR cpu b).OI p↔s.OI p:=λp=>Iff.rfl
  rw[dK,dK,m];show x∈(s.h.fZ cpu (lb s.h.live b.a) b).live/\_↔_;rw[c];constructor
  ·rintro⟨⟨l,i⟩,n⟩;exact⟨⟨l,n⟩,i⟩
  ·rintro⟨⟨l,n⟩,i⟩;exact⟨⟨l,i⟩,n⟩
 ·unfold hasB;exact List.any_eq_true.2 ⟨b,hb.1,gTg rfl⟩
theorem cZ.nK (hk:cZ s)(hb:s.whole b):∀i k,¬s.jD i k (16*(b.a:Int)):=λi k ⟨c,x,r,q,p⟩=>by
 have d:=gM r;have f:=gM q;obtain⟨m,h,l,n⟩:=((hk.ck c d).sk x f).live;have g:b.a≠m.a:=λe=>hb.2 c d x f (by rw[<- l];exact e.symm)
 have j:=lH hk.hk hb.1 h g;have t:=kD (hk.ck c d).room p.1;unfold apartB Bk.fin at j;rw[l,n]at j;have v:=Nat.two_pow_pos b.o;generalize 2^b.o=u at*;generalize 2^c.o=w at*;omega
end
def Sy.RZ (s:Sy)(r:Option (Hp×Nat)):Option (Sy×Int):=match r with
 | some (h',a)=>aK ({s with h:=h'},16*(a:Int))
 | none=>aJ
def Sy.dL (s:Sy)(cpu n:Nat):Option (Sy×Int):=if n<=32 then(match s.named (kN (zz (vV n)))with
 | some i=>s.one i cpu
 | none=>aJ)else s.RZ (s.h.alloc cpu (rM n) 0 false false)
def ZE (s:Sy):Prop:=∀j,j<6->∃i,s.named (kN (zz j))=aK i
theorem Ie (v:Sc)(s:Sy)(cpu n:Nat)(w:World)(hs:nO w v s)(hk:cZ s)(hf:∀c∈s.cs,c.ns.length<=1000)(hkn:ZE s)(dA:cpu<s.h.aP)(ho:vP w)(hsz:Bg w)(h1:1<=n)(h2:n<=32):
 Calls prog 55 #[aC #[aA v.a1 v.n1 v.c1,aA v.hc.az 2 v.hc.cz,aA v.hc.am 2 v.hc.cm,aB aI (s.h.aP:Int),aA v.hc.al v.hc.lc.length v.hc.cl,aA v.hc.av s.h.live.length v.hc.cv,aA v.a2 v.ys.length v.c2],aB aI cpu,aB aI n] w (zH (s.dL cpu n) w):=by
 obtain⟨K,K2,F1,F2,k,j⟩:=boxes2 w #[aA v.a1 v.n1 v.c1,aA v.hc.az 2 v.hc.cz,aA v.hc.am 2 v.hc.cm,aB aI (s.h.aP:Int),aA v.hc.al v.hc.lc.length v.hc.cl,aA v.hc.av s.h.live.length v.hc.cv,aA v.a2 v.ys.length v.c2] 42 #[aA aJ 0 0,aA aJ 0 0,aA aJ 0 0,aB aI 0,aA aJ 0 0,aA aJ 0 0,aA aJ 0 0] 42;have u:=hs.below j;obtain⟨i,X⟩:=hkn (vV n) (yB h1 h2).1;have t:s.dL cpu n=s.one i cpu:=by
  unfold Sy.dL;rw[if_pos h2,X]
 rw[t];generalize S:(w.alloc (aO #[aA v.a1 v.n1 v.c1,aA v.hc.az 2 v.hc.cz,aA v.hc.am 2 v.hc.cm,aB aI (s.h.aP:Int),aA v.hc.al v.hc.lc.length v.hc.cl,aA v.hc.av s.h.live.length v.hc.cv,aA v.a2 v.ys.length v.c2] 42)).alloc (aO #[aA aJ 0 0,aA aJ 0 0,aA aJ 0 0,aB aI 0,aA aJ 0 0,aA aJ 0 0,aA aJ 0 0] 42)=x at*;have uK:=gO (nJ v s x u hk hf);have WY:Hid (∀W,Below x.heap.size x W->Calls prog 108 #[aB aI n] W λg p=>g=aN (aG #[aF ⟨(kN (zz (vV n))).toArray⟩,.bool true])/\W=p):=λW H=>Wn n W ((hsz.below j).below H) h1 h2
 have Q:Hid (∀W,Below x.heap.size x W->Calls prog 53 #[aC #[aA v.a1 v.n1 v.c1,aA v.hc.az 2 v.hc.cz,aA v.hc.am 2 v.hc.cm,aB aI (s.h.aP:Int),aA v.hc.al v.hc.lc.length v.hc.cl,aA v.hc.av s.h.live.length v.hc.cv,aA v.a2 v.ys.length v.c2],aF ⟨(kN (zz (vV n))).toArray⟩,aB aI cpu] W (zH (s.one i cpu) W)):=λW H=>Jp v s (kN (zz (vV n))) cpu i W (u.below H) hk hf X dA ((ho.below j).below H)
 generalize zz (vV n)=z at*;obtain⟨rA,Xf⟩:∃rA,s.one i cpu=rA:=⟨_,rfl⟩
 rw[Xf]at Q ⊢;obtain⟨k0,k1,k2,k3,k4,k5,k6⟩:=gA7 K;have U:=gO j;have N:=gO K;have P:=gO K2;have HF2:=gO F2;have E:w.heap.size<x.heap.size:=by omega
 have hn1:¬(n:Int)<1:=by omega
 clear hs hk hf X u K K2 F1 F2 j hkn ho hsz Xf t;go_enter func55,ntmps55
 go_upto_region 1 with fail
 try rw[S]
 go_upto_region 7 with (first | (go_at_call 11;refine uK.out.mono ?_;rintro g q ⟨rfl,d⟩) | (go_at_call 108;refine(WY.out _ d).mono ?_;rintro g p ⟨rfl,rfl⟩))
 have HB2:=gO d;have y:=aQ N.out E d;have C:=gI k d.size;have B:=gO (aQ P.out k d);have F:=gO (aU HF2.out k d);have Ud:=gO (gW U.out d);have m:=Q.out q d;have aPa:w.heap.size<=q.heap.size:=Ud.out.size;clear k0 k1 k2 k3 k4 k5 k6 uK WY Q d HB2;obtain⟨k0,k1,k2,k3,k4,k5,k6⟩:=gA7 y;clear y;cases rA with
 | none=>
  have O:Hid (Calls prog 53 #[aC #[aA v.a1 v.n1 v.c1,aA v.hc.az 2 v.hc.cz,aA v.hc.am 2 v.hc.cm,aB aI (s.h.aP:Int),aA v.hc.al v.hc.lc.length v.hc.cl,aA v.hc.av s.h.live.length v.hc.cv,aA v.a2 v.ys.length v.c2],aF ⟨(kN z).toArray⟩,aB aI cpu] q λg p=>g=aN (aG #[aC #[aA aJ 0 0,aA aJ 0 0,aA aJ 0 0,aB aI 0,aA aJ 0 0,aA aJ 0 0,aA aJ 0 0],aB aI 0,aB aI 6])/\Below q.heap.size q p):=by
   refine m.mono ?_;rintro g p (⟨_,h,hb⟩ | ⟨s',b',A,h,_⟩)
   ·exact⟨h,hb⟩
   ·cases h
  clear m;go_wp2_with (go_at_call 53;refine O.out.mono ?_;rintro g w3 ⟨rfl,e⟩;have f:=aQ B.out C e;have l:=aU F.out C e;obtain⟨Z,y1,y2,J,y4,y5,y6⟩:=gA7 f;obtain⟨f0,M,Y,f3,f4,R,f6⟩:=gF7 l;skip)
  have L:=nil7 f (gW Ud.out e) (Nat.le_succ _);have I:=L.1;have V:=gO L.2;clear L f l Z y1 y2 J y4 y5 y6 f0 M Y f3 f4 R f6;generalize ((((((w3.setCell _ _).setCell _ _).setCell _ _).setCell _ _).setCell _ _).setCell _ _).setCell _ _=wx at*;exact bodyPost_ret (v:=aG #[aC #[aA aJ 0 0,aA aJ 0 0,aA aJ 0 0,aB aI 0,aA aJ 0 0,aA aJ 0 0,aA aJ 0 0],aB aI 0,aB aI 6]) (by simp[results,results55,go_sem,I]) rfl (.inl ⟨rfl,rfl,V.out⟩)
 | some r=>
  obtain⟨o,b⟩:=r;have O:Hid (Calls prog 53 #[aC #[aA v.a1 v.n1 v.c1,aA v.hc.az 2 v.hc.cz,aA v.hc.am 2 v.hc.cm,aB aI (s.h.aP:Int),aA v.hc.al v.hc.lc.length v.hc.cl,aA v.hc.av s.h.live.length v.hc.cv,aA v.a2 v.ys.length v.c2],aF ⟨(kN z).toArray⟩,aB aI cpu] q λg p=>∃a,g=aN (aG #[aC #[aA a.a1 a.n1 a.c1,aA a.hc.az 2 a.hc.cz,aA a.hc.am 2 a.hc.cm,aB aI (o.h.aP:Int),aA a.hc.al a.hc.lc.length a.hc.cl,aA a.hc.av o.h.live.length a.hc.cv,aA a.a2 a.ys.length a.c2],aB aI b,aB aI 0])/\iI p q.heap.size o a/\Below q.heap.size q p):=by
   refine m.mono ?_;rintro g p (⟨h,_⟩ | ⟨s',b',A,h,h1,h2,h3⟩)
   ·cases h
   ·obtain⟨rfl,rfl⟩:o=s'/\b=b':=by simpa using h
    exact⟨A,h1,h2,h3⟩
  clear m;go_wp2_with (go_at_call 53;refine O.out.mono ?_;rintro g w3 ⟨a,rfl,D,e⟩;have f:=aQ B.out C e;have l:=aU F.out C e;obtain⟨Z,y1,y2,J,y4,y5,y6⟩:=gA7 f;obtain⟨f0,M,Y,f3,f4,R,f6⟩:=gF7 l;skip)
  have I:=qU f a o;have pO:=gO (iI.put7 (T:=w.heap.size+1) (G:=w.heap.size) D C (by omega));have V:=gO (dX (T:=w.heap.size+1) (gW Ud.out e) (Nat.le_succ _) a o);clear f l Z y1 y2 J y4 y5 y6 f0 M Y f3 f4 R f6 D e;generalize ((((((w3.setCell _ _).setCell _ _).setCell _ _).setCell _ _).setCell _ _).setCell _ _).setCell _ _=wx at*;exact bodyPost_ret (v:=aG #[aC #[aA a.a1 a.n1 a.c1,aA a.hc.az 2 a.hc.cz,aA a.hc.am 2 a.hc.cm,aB aI (o.h.aP:Int),aA a.hc.al a.hc.lc.length a.hc.cl,aA a.hc.av o.h.live.length a.hc.cv,aA a.a2 a.ys.length a.c2],aB aI b,aB aI 0]) (by simp[results,results55,go_sem,I]) rfl (.inr ⟨o,b,a,rfl,rfl,pO.out,V.out⟩)
theorem sJ (h:s.cs[i]? =aK c):s.sig[i]? =aK (c.ns,c.z):=by
 unfold Sy.sig;rw[List.getElem?_map,h];rfl
theorem sK {p:List (List UInt8)×Nat}(h:s.sig[i]? =aK p):∃c,s.cs[i]? =aK c/\c.ns=p.1/\c.z=p.2:=by
 unfold Sy.sig at h;rw[List.getElem?_map]at h;cases hc:s.cs[i]? with
 | none=>rw[hc]at h;cases h
 | some c=>
  rw[hc]at h;have a:=gP h;exact⟨c,rfl,congrArg Prod.fst a,congrArg Prod.snd a⟩
def Ed (s:Sy):Prop:=∀j,j<6->∃i c,s.cs[i]? =aK c/\s.named (kN (zz j))=aK i/\kN (zz j)∈c.ns/\c.z=zz j
theorem Ed.names (h:Ed s):ZE s:=λj b=>by
 obtain⟨i,_,_,a,_⟩:=h j b;exact⟨i,a⟩
theorem ZF {ns:List (List UInt8)}(hj:j<6)(h:kN (zz j)∈ns):kZ ns=true:=by
 unfold kZ;rw[List.any_eq_true];refine⟨zz j,?_,List.contains_iff_mem.2 h⟩;obtain rfl | rfl | rfl | rfl | rfl | rfl:j=0∨j=1∨j=2∨j=3∨j=4∨j=5:=by omega
 all_goals decide
theorem Si (h:Hp):Ed (dW h 6):=λj a=>by
 obtain rfl | rfl | rfl | rfl | rfl | rfl:j=0∨j=1∨j=2∨j=3∨j=4∨j=5:=by omega
 all_goals exact⟨_,_,rfl,rfl,gTa.2 rfl,rfl⟩
theorem cZ.aBG (hk:cZ s)(hc:s.cs[i]? =aK c)(dA:cpu<s.h.aP)(h:s.one i cpu=aK (t,a)):cZ t/\∃k d,t.jD i k a/\t.cs[i]? =aK d/\d.ns=c.ns/\d.z=c.z:=by
 obtain⟨j,_⟩:=hk.one hc dA h;obtain⟨_,g⟩:=hk.zV hc dA h;obtain⟨k,b⟩:=eH.1 ((g i a).2 (.inr ⟨rfl,rfl⟩));have e:=sJ hc;rw[<- JX h]at e;obtain⟨d,f,l,m⟩:=sK e;exact⟨j,k,d,b,f,l,m⟩
theorem cZ.dL (hk:cZ s)(hs:Ed s)(dA:cpu<s.h.aP)(h1:1<=n)(h2:n<=256)(h:s.dL cpu n=aK (t,a)):
 cZ t/\t.nss=s.nss/\t.h.aP=s.h.aP/\0<=a/\a<=4096/\∃m,t.iG a=aK m/\n<=m/\m<2*n+16:=by
 unfold Sy.dL at h;split at h
 ·rename_i hn;obtain⟨F,P,V,_⟩:=yB h1 hn;obtain⟨i,c,I,C,o,G⟩:=hs _ F;rw[C]at h;simp only at h;obtain⟨f,k,d,D,v,T,E⟩:=hk.aBG I dA h;obtain⟨_,u,_⟩:=hk.one I dA h;have B:t.iE a=aK (i,k,d):=by
   unfold Sy.iE;rw[f.zF D];simp only[v];rw[if_pos (ZF F (by rw[T];exact o))]
  have g:0<=a/\a<=4096:=by
   obtain⟨W,x,M,U,N⟩:=D;have A:=gM U;have l:=f.ck _ (gM M);have q:=kD l.room N.1;obtain⟨b,hb,J,R⟩:=(l.sk x A).live;obtain⟨w,_,y,j⟩:=(f.hk.lv b hb).1;rw[R]at j w;rw[J]at j y;rcases JD w with e | e | e | e | e <;> rw[e]at j q <;> omega
  refine⟨f,Tj h,u,g.1,g.2,d.z,?_,by rw[E,G];exact P,by rw[E,G];omega⟩;unfold Sy.iG;rw[B]
 ·rename_i hn;obtain⟨w,O,y,j,_⟩:=zB (show 33<=n by omega) h2;unfold Sy.RZ at h;cases hal:s.h.alloc cpu (rM n) 0 false false with
  | none=>rw[hal]at h;cases h
  | some r=>
   obtain⟨L,p⟩:=r;rw[hal]at h;have q:=gP h;rw[Prod.mk.injEq]at q;obtain⟨rfl,rfl⟩:=q;obtain⟨f,K,u,_,S⟩:=hk.ZC dA O (by decide) hal;have H:=(u ⟨p,rM n,0⟩).2 (.inl rfl);have Q:=zG (f.nK H);have B:({s with h:=L}:Sy).iE (16*(p:Int))=aJ:=by
    unfold Sy.iE;rw[Q]
   refine⟨f,rfl,K,by omega,by have:=S.2.2.1;omega,16*2^rM n,?_,y,j⟩;unfold Sy.iG;rw[B];simp only[f.DN H];rfl
def Sy.oU (s:Sy)(a:Int)(m:Nat):Prop:=(∃i k c,s.jD i k a/\s.cs[i]? =aK c/\m<=c.z)∨(∃b,s.whole b/\a=16*(b.a:Int)/\m<=16*2^b.o)
theorem Py {b:Int}(h1:iO c p a=true)(h2:iO c p b=true)(hne:a≠b):a+c.z<=b∨b+c.z<=a:=by
 obtain⟨_,_,g⟩:=kY h1;obtain⟨_,_,l⟩:=kY h2;obtain⟨i,k⟩:=Int.dvd_of_emod_eq_zero g;obtain⟨j,m⟩:=Int.dvd_of_emod_eq_zero l;have d:i≠j:=λe=>hne (by rw[e]at k;omega)
 rcases Int.lt_or_gt_of_ne d with h | h
 ·left;have f:(c.z:Int)*(i+1)<=c.z*j:=Int.mul_le_mul_of_nonneg_left (by omega) (by omega);rw[Int.mul_add,Int.mul_one]at f;omega
 ·right;have f:(c.z:Int)*(j+1)<=c.z*i:=Int.mul_le_mul_of_nonneg_left (by omega) (by omega);rw[Int.mul_add,Int.mul_one]at f;omega
theorem qY.yC (h:qY s c)(ho:iO c p a=true):16*(p:Int)<=a/\a+c.z<=16*((p:Int)+(2^c.o:Nat)):=by
 obtain⟨g,j,e⟩:=kY ho;obtain⟨i,n⟩:=Int.dvd_of_emod_eq_zero e;have b:=h.room;have u:=h.z.1;have l:i<c.r:=by
  apply Decidable.byContradiction;intro t;have k:(c.z:Int)*c.r<=c.z*i:=Int.mul_le_mul_of_nonneg_left (by omega) (by omega);have f:(c.z:Int)*c.r=c.r*c.z:=Int.mul_comm _ _;omega
 have d:(c.z:Int)*(i+1)<=c.z*c.r:=Int.mul_le_mul_of_nonneg_left (by omega) (by omega);rw[Int.mul_add,Int.mul_one]at d;have f:(c.z:Int)*c.r=((c.r*c.z:Nat):Int):=by rw[Int.mul_comm];exact(Int.natCast_mul ..).symm
 refine⟨g,?_⟩;rw[f]at d;generalize c.r*c.z=q at*;generalize 2^c.o=m at*;omega
theorem cZ.CJ (hk:cZ s)(h:s.oU a m):∃b∈s.h.live,16*(b.a:Int)<=a/\a+m<=16*((b.a:Int)+(2^b.o:Nat)):=by
 rcases h with ⟨i,k,c,⟨t,x,f,n,p⟩,g,j⟩ | ⟨b,hb,rfl,j⟩
 ·rw[g]at f;obtain rfl:=gP f;have d:=hk.ck c (gM g);obtain⟨b,hb,e,q⟩:=(d.sk x (gM n)).live;obtain⟨l,r⟩:=d.yC p.1;refine⟨b,hb,by rw[e];exact l,?_⟩;rw[e,q];omega
 ·refine⟨b,hb.1,Int.le_refl _,?_⟩;have:((16*2^b.o:Nat):Int)=16*((2^b.o:Nat):Int):=Int.natCast_mul ..;omega
theorem cZ.xE (hk:cZ s)(h:s.oU a m):0<=a/\a+m<=4096:=by
 obtain⟨b,hb,i,c⟩:=hk.CJ h;obtain⟨f,_,g,d⟩:=(hk.hk.lv b hb).1;rcases JD f with e | e | e | e | e <;> rw[e]at d c <;> omega
theorem cZ.Pz (hk:cZ s)(h:s.oU a m){d:Ca}{y:Sl}(hd:d∈s.cs)(hy:y∈d.sl)(hl:follow s.w y.h d.r=aK l){b:Int}(hb:b∈l)(ho:iO d y.p b=true):b<a∨a+m<=b:=by
 have n:=hk.ck d hd;obtain⟨e,V,D,T⟩:=(n.sk y hy).live;obtain⟨g1,g2⟩:=n.yC ho;have hz:=n.z.1;rcases h with ⟨i,k,c,⟨c',x,R,O,J⟩,B,Z⟩ | ⟨P,A,rfl,Z⟩
 ·rw[B]at R;obtain rfl:=gP R;have E:=gM B;have g:=gM O;have t:=hk.ck c E;by_cases C:x.p=y.p
  ·obtain⟨j,M,L⟩:=List.mem_iff_getElem.1 hd;obtain⟨k',H,W⟩:=List.mem_iff_getElem.1 hy;have G:i=j:=by
    obtain⟨U,S⟩:=gK.1 B;rcases Nat.lt_trichotomy i j with q | q | q
    ·exact absurd C (gN.1 hk.pd i j U M q x (by rw[S];exact g) y (by rw[L];exact hy))
    ·exact q
    ·exact absurd C.symm (gN.1 hk.pd j i M U q y (by rw[L];exact hy) x (by rw[S];exact g))
   subst G;have N:c=d:=by
    rw[gJ M,L]at B;exact(gP B).symm
   subst N;have I:x=y:=by
    obtain⟨F,v⟩:=gK.1 O;have:=aC6 t.sr F H (by rw[v,W];exact C);subst this;rw[<- v,<- W]
   subst I;have f:a≠b:=λe=>J.2 l hl (e▸hb)
   rcases Py J.1 ho f with q | q
   ·right;omega
   ·left;omega
  ·obtain⟨b2,K,Q,Y⟩:=(t.sk x g).live;obtain⟨g3,g4⟩:=t.yC J.1;have u:=lH hk.hk K V (by rw[Q,D];exact C);unfold apartB Bk.fin at u;rw[Q,Y,D,T]at u;generalize 2^c.o=X at*;generalize 2^d.o=q2 at*;omega
 ·have f:P.a≠e.a:=λq=>A.2 d hd y hy (by rw[<- D];exact q.symm)
  have u:=lH hk.hk A.1 V f;unfold apartB Bk.fin at u;rw[D,T]at u;generalize 2^P.o=X at*;generalize 2^d.o=q2 at*;omega
theorem cZ.write (hk:cZ s)(h:s.oU a m)(hl:w'.length=s.w.length)(hw:∀q:Nat,(q:Int)<a∨a+m<=q->w'.getD q 0=s.w.getD q 0):
 cZ {s with w:=w'}/\(∀i k b,({s with w:=w'}:Sy).jD i k b↔s.jD i k b)/\∀b,({s with w:=w'}:Sy).whole b↔s.whole b:=by
 have p:∀d∈s.cs,∀y∈d.sl,follow w' y.h d.r=follow s.w y.h d.r:=λd g y n=>by
  obtain⟨l,e,f,j⟩:=((hk.ck d g).sk y n).chain;rw[e];have o:=iP.1 e;rw[iP,hl];refine⟨o.1.move λb hb=> ?_,o.2⟩;have u:=hk.Pz h g n e hb (j b hb);have t:=(o.2.1 b hb).1;exact hw b.toNat (by omega)
 refine⟨⟨by show w'.length=4096;rw[hl];exact hk.wl,hk.hk,hk.cl,λd g=> ?_,hk.zd,hk.nd,hk.pd⟩,λi k b=> ?_,λb=>Iff.rfl⟩
 ·refine(hk.ck d g).move rfl λy n=>⟨((hk.ck d g).sk y n).live,?_⟩
  obtain⟨l,e,f,j⟩:=((hk.ck d g).sk y n).chain;exact⟨l,by rw[<- e];exact p d g y n,f,j⟩
 ·unfold Sy.jD;constructor
  ·rintro⟨c,x,e,f,j⟩;exact⟨c,x,e,f,(xR (p c (gM e) x (gM f)) b).1 j⟩
  ·rintro⟨c,x,e,f,j⟩;exact⟨c,x,e,f,(xR (p c (gM e) x (gM f)) b).2 j⟩
theorem cZ.LP (hk:cZ s){b:Int}(h1:s.oU a m)(h2:s.oU b n)(hne:a≠b):a+m<=b∨b+n<=a:=by
 rcases h1 with ⟨i,k,c,⟨c',x,T,Z,Q⟩,J,hm⟩ | ⟨K,B,rfl,hm⟩
 ·rw[J]at T;obtain rfl:=gP T;have C:=gM J;have w:=gM Z;have E:=hk.ck c C;obtain⟨e,X,I,S⟩:=(E.sk x w).live;obtain⟨g1,g2⟩:=E.yC Q.1;rcases h2 with ⟨j,k2,d,⟨d',y,u,A,F⟩,z,N⟩ | ⟨H,v,rfl,N⟩
  ·rw[z]at u;obtain rfl:=gP u;have t:=gM z;have g:=gM A;have l:=hk.ck d t;obtain⟨f,M,D,O⟩:=(l.sk y g).live;obtain⟨g3,g4⟩:=l.yC F.1;by_cases G:x.p=y.p
   ·obtain⟨W,R⟩:=gK.1 J;obtain⟨Y,U⟩:=gK.1 z;have L:i=j:=by
     rcases Nat.lt_trichotomy i j with q | q | q
     ·exact absurd G (gN.1 hk.pd i j W Y q x (by rw[R];exact w) y (by rw[U];exact g))
     ·exact q
     ·exact absurd G.symm (gN.1 hk.pd j i Y W q y (by rw[U];exact g) x (by rw[R];exact w))
    subst L;have P:c=d:=by rw[J]at z;exact gP z
    subst P;have V:=F.1;rw[<- G]at V;rcases Py Q.1 V hne with q | q
    ·left;omega
    ·right;omega
   ·have r:=lH hk.hk X M (by rw[I,D];exact G);unfold apartB Bk.fin at r;rw[I,S,D,O]at r;generalize 2^c.o=u at*;generalize 2^d.o=A at*;omega
  ·have h:e.a≠H.a:=λq=>v.2 c C x w (by rw[<- I];exact q)
   have r:=lH hk.hk X v.1 h;unfold apartB Bk.fin at r;rw[I,S]at r;generalize 2^c.o=u at*;generalize 2^H.o=A at*;omega
 ·rcases h2 with ⟨j,k2,d,⟨d',y,u,A,F⟩,z,N⟩ | ⟨H,v,rfl,N⟩
  ·rw[z]at u;obtain rfl:=gP u;have t:=gM z;have g:=gM A;have l:=hk.ck d t;obtain⟨f,M,D,O⟩:=(l.sk y g).live;obtain⟨g3,g4⟩:=l.yC F.1;have h:K.a≠f.a:=λq=>B.2 d t y g (by rw[<- D];exact q.symm)
   have r:=lH hk.hk B.1 M h;unfold apartB Bk.fin at r;rw[D,O]at r;generalize 2^K.o=u at*;generalize 2^d.o=A at*;omega
  ·have r:=lH hk.hk B.1 v.1 (λq=>hne (by rw[q]));unfold apartB Bk.fin at r;generalize 2^K.o=u at*;generalize 2^H.o=A at*;omega
section
variable {w W W':World}{G B T U Bn:Nat}{X Y:Nat->Prop}{s s2:Sy}{v v2:Sc}{E:Array Value}
theorem SR.ge (hn:iI W Bn s v):(∀r∈v.rows s,∀g,r.v.ownBlock=aK g->Bn<=g)/\∀q∈v.hc.rows s.h++v.hc.reads s.h,∀g,q.v.ownBlock=aK g->Bn<=g:=by
 refine⟨λr hr g b=>Nat.le_of_not_lt λh=>(hn.og r hr g b).2 h,λq a g b=>Nat.le_of_not_lt λh=> ?_⟩;rcases gZ.1 a with a | a
 ·exact(hn.hr.og q a g b).2 h
 ·exact hn.hr.rx q a g b h
theorem SR.box (hn:SR W G X s v)(hY:∀k,Y k->X k/\k<W.heap.size):SS (W.alloc (aO #[aA v.a1 v.n1 v.c1,aA v.hc.az 2 v.hc.cz,aA v.hc.am 2 v.hc.cm,aB aI (s.h.aP:Int),aA v.hc.al v.hc.lc.length v.hc.cl,aA v.hc.av s.h.live.length v.hc.cv,aA v.a2 v.ys.length v.c2] 42)) W.heap.size Y s v:=by
 have hb:=aT W (aO #[aA v.a1 v.n1 v.c1,aA v.hc.az 2 v.hc.cz,aA v.hc.am 2 v.hc.cm,aB aI (s.h.aP:Int),aA v.hc.al v.hc.lc.length v.hc.cl,aA v.hc.av s.h.live.length v.hc.cv,aA v.a2 v.ys.length v.c2] 42);have d:=hn.below hb;have c:W.heap.size<(W.alloc (aO #[aA v.a1 v.n1 v.c1,aA v.hc.az 2 v.hc.cz,aA v.hc.am 2 v.hc.cm,aB aI (s.h.aP:Int),aA v.hc.al v.hc.lc.length v.hc.cl,aA v.hc.av s.h.live.length v.hc.cv,aA v.a2 v.ys.length v.c2] 42)).heap.size:=by simp
 refine⟨⟨d.own,λr hr g i=>⟨λe=>by have:=hn.lt r hr g i;omega,λe=>(hn.og r hr g i).2 (hY g e).1⟩,d.hr.any c (λq a k b=>⟨λe=>by have:=hn.hr.lt q a k b;omega,λe=> ?_⟩) (λk b=>Nat.lt_trans (hY k b).2 c) (λe=>by have:=(hY _ e).2;omega),d.hd,d.cy⟩,bI W _ _,fP W _ _⟩;have f:=(hY k e).1;rcases gZ.1 a with a | a
 ·exact(hn.hr.og q a k b).2 f
 ·exact hn.hr.rx q a k b f
theorem iI.box (hn:iI W Bn s v):SS (W.alloc (aO #[aA v.a1 v.n1 v.c1,aA v.hc.az 2 v.hc.cz,aA v.hc.am 2 v.hc.cm,aB aI (s.h.aP:Int),aA v.hc.al v.hc.lc.length v.hc.cl,aA v.hc.av s.h.live.length v.hc.cv,aA v.a2 v.ys.length v.c2] 42)) W.heap.size (λk=>k<Bn) s v:=SR.box hn λk a=>⟨a,Nat.lt_trans a hn.hr.gs⟩
theorem iI.store {a0 a1 a2 a3 a4 a5 a6:Value}(hn:iI W Bn s v)(hB:B<Bn)(K:∀o,W.cell? ⟨B,o,aJ⟩=(#[a0,a1,a2,a3,a4,a5,a6]:Array Value)[o]?)(F:∀o,W.frozen? ⟨B,o,aJ⟩=false):SS (((((((W.setCell ⟨B,0,aJ⟩ (aA v.a1 v.n1 v.c1)).setCell ⟨B,1,aJ⟩ (aA v.hc.az 2 v.hc.cz)).setCell ⟨B,2,aJ⟩ (aA v.hc.am 2 v.hc.cm)).setCell ⟨B,3,aJ⟩ (aB aI (s.h.aP:Int))).setCell ⟨B,4,aJ⟩ (aA v.hc.al v.hc.lc.length v.hc.cl)).setCell ⟨B,5,aJ⟩ (aA v.hc.av s.h.live.length v.hc.cv)).setCell ⟨B,6,aJ⟩ (aA v.a2 v.ys.length v.c2)) B (λk=>k<Bn/\k≠B) s v:=
 SS.put7 (SR.lift hn hB (λk a=>a.1) (λh=>h.2 rfl)) K F
theorem uH {b:Nat}{e:TypeId}{size:Nat}{a:Value}(h:W.ownsRow b e size a n xs)(hT:a.ownBlock≠aK T)(v:Sc)(s:Sy):(((((((W.setCell ⟨T,0,aJ⟩ (aA v.a1 v.n1 v.c1)).setCell ⟨T,1,aJ⟩ (aA v.hc.az 2 v.hc.cz)).setCell ⟨T,2,aJ⟩ (aA v.hc.am 2 v.hc.cm)).setCell ⟨T,3,aJ⟩ (aB aI (s.h.aP:Int))).setCell ⟨T,4,aJ⟩ (aA v.hc.al v.hc.lc.length v.hc.cl)).setCell ⟨T,5,aJ⟩ (aA v.hc.av s.h.live.length v.hc.cv)).setCell ⟨T,6,aJ⟩ (aA v.a2 v.ys.length v.c2)).ownsRow b e size a n xs:=
 bU (bU (bU (bU (bU (bU (bU h hT _) hT _) hT _) hT _) hT _) hT _) hT _
end
theorem cZ.aHT (hk:cZ s)(hi:s.cs[i]? =aK c){ns:List (List UInt8)}(hs:ns.Sublist c.ns)(hne:ns≠[]):
 cZ (s.fO i {c with ns:=ns})/\(∀j b,(s.fO i {c with ns:=ns}).away j b↔s.away j b)/\(s.fO i {c with ns:=ns}).nss=s.nss.set i ns/\(∀b,(s.fO i {c with ns:=ns}).whole b↔s.whole b):=by
 obtain⟨h,g⟩:=gK.1 hi;have u:=gM hi;have e:=hk.ck c u;have v:∀d∈s.cs,qY (s.fO i {c with ns:=ns}) d:=λd n=>(hk.ck d n).move rfl λx q=>⟨((hk.ck d n).sk x q).live,((hk.ck d n).sk x q).chain⟩
 refine⟨⟨hk.wl,hk.hk,by show(s.cs.set i _).length<=20;rw[List.length_set];exact hk.cl,λd n=> ?_,BJ hk.zd (λj f l=> ?_) (λj f k=> ?_),BJ hk.nd (λj f l m t y=> ?_) (λj f k m t=> ?_),BJ hk.pd (λj f l=> ?_) (λj f k=> ?_)⟩,λj b=> ?_,?_,λb=> ?_⟩
 ·rcases List.mem_or_eq_of_mem_set n with w | rfl
  ·exact v d w
  ·exact⟨e.z,e.o,e.r,hne,λm t=>e.nm m (hs.subset t),e.nr.sublist hs,e.ac,e.sr,λx q=>⟨(e.sk x q).live,(e.sk x q).chain⟩,e.aw,e.ad⟩
 ·have:=gN.1 hk.zd j i f h l;rw[g]at this;exact this
 ·have:=gN.1 hk.zd i j h f k;rw[g]at this;exact this
 ·have:=gN.1 hk.nd j i f h l m t;rw[g]at this;exact this (hs.subset y)
 ·have:=gN.1 hk.nd i j h f k m;rw[g]at this;exact this (hs.subset t)
 ·have:=gN.1 hk.pd j i f h l;rw[g]at this;exact this
 ·have:=gN.1 hk.pd i j h f k;rw[g]at this;exact this
 ·have p:=qN (s':=s.fO i {c with ns:=ns}) (c':={c with ns:=ns}) hi rfl b;by_cases f:j=i
  ·subst f;rw[p.1,oZ hi];exact Iff.rfl
  ·rw[p.2 j f];exact Iff.rfl
 ·show(s.cs.set i _).map (·.ns)=(s.cs.map (·.ns)).set i ns;rw[List.map_set]
 ·rw[dK,dK];have w:=wS (s':=s.fO i {c with ns:=ns}) hi rfl (λ_=>Iff.rfl) b.a;rw[w];exact Iff.rfl
structure Mg (h:Hp)(z:Nat)(s1 s2:Sy)(i:Nat)(ns ns':List (List UInt8)):Prop where
 n0:(dW h 6).named [120,97]=aJ
 c1:(dW h 6).create [120,97] z=aK s1
 n1:s1.named [120,98]=aJ
 c2:s1.create [120,98] z=aK s2
 l1:s1.cs.length=6∨s1.cs.length=7
 l2:s2.cs.length=s1.cs.length
 k1:cZ s1
 k2:cZ s2
 f1:∀c∈s1.cs,c.ns.length<=999
 f2:∀c∈s2.cs,c.ns.length<=999
 hh:s2.h=h
 i2:s2.nss[i]? =aK ns
 na:s2.nss.findIdx? (λl=>l.contains [120,97])=aK i
 nb:s2.nss.findIdx? (λl=>l.contains [120,98])=aK i
 er:ns.eraseIdx (Df ns [120,97])=ns'
 ln:1<ns.length
 nb':(s2.nss.set i ns').findIdx? (λl=>l.contains [120,98])=aK i
 alw:1<ns'.length↔z∈[1,2,4,8,16,32]
 ne:ns'≠[]
theorem xK {N:Nat}(h:s.nss.all (λl=>decide (l.length<=N))=true):∀c∈s.cs,c.ns.length<=N:=λc a=>by
 rw[List.all_eq_true]at h;exact of_decide_eq_true (h c.ns (List.mem_map_of_mem a))
theorem Mg.take {z:Nat}{s1 s2:Sy}{ns ns':List (List UInt8)}(m:Mg h z s1 s2 i ns ns')(ho:s2.one i 0=aK (t,a)):
 cZ t/\(∀c∈t.cs,c.ns.length<=999)/\t.named [120,97]=aK i/\t.named [120,98]=aK i/\t.h.aP=h.aP/\
 (∃(c:Ca) (k:Nat) (x:Sl),t.cs[i]? =aK c/\c.sl[k]? =aK x/\nN t.w c x a/\0<=a)/\
 ∃t1,t.destroy i [120,97]=aK t1/\cZ t1/\(∀c∈t1.cs,c.ns.length<=999)/\t1.named [120,98]=aK i/\
  ((t1.destroy i [120,98]=aJ/\z∉[1,2,4,8,16,32])∨(z∈[1,2,4,8,16,32]/\∃t2,t1.destroy i [120,98]=aK t2)):=by
 have B:0<s2.h.aP:=by rw[m.hh];have:=m.k2.hk.cp.1;rw[m.hh]at this;exact this
 have v:∃c,s2.cs[i]? =aK c:=by
  have b:=m.i2;unfold Sy.nss at b;rw[List.getElem?_map]at b;cases e:s2.cs[i]? with
  | none=>rw[e]at b;cases b
  | some c=>exact⟨c,rfl⟩
 obtain⟨L,p⟩:=v;obtain⟨D,G,K,c,j⟩:=m.k2.one p B ho;obtain⟨M,F⟩:=m.k2.zV p B ho;have r:=Tj ho;have n:c.ns=ns:=by
  have b:=congrArg (·[i]?) r;simp only[m.i2]at b;unfold Sy.nss at b;rw[List.getElem?_map,j]at b;exact gP b
 have o:t.away i a:=(F i a).2 (.inr ⟨rfl,rfl⟩);have g:ns'.Sublist c.ns:=by rw[n,<- m.er];exact List.eraseIdx_sublist _ _
 obtain⟨C,J,H,_⟩:=D.aHT j g m.ne;have A:=(gK.1 j).1;have E:t.destroy i [120,97]=aK (t.fO i {c with ns:=ns'}):=by
  unfold Sy.destroy;rw[j];simp only;rw[n,if_pos m.ln,m.er]
 have l:(t.fO i {c with ns:=ns'}).cs[i]? =aK {c with ns:=ns'}:=List.getElem?_set_self A;have y:∀d∈t.cs,d.ns.length<=999:=uO r m.f2;refine⟨D,y,by rw[lU,r];exact m.na,by rw[lU,r];exact m.nb,by rw[G,m.hh],?_,_,E,C,λd f=> ?_,by rw[lU,H,r];exact m.nb',?_⟩
 ·obtain⟨d,f,x,I,q⟩:=o;rw[j]at f;obtain rfl:=gP f;obtain⟨k,u,e⟩:=List.mem_iff_getElem.1 I;exact⟨c,k,x,j,by rw[gJ u,e],q,by have:=(kY q.1).1;omega⟩
 ·rcases List.mem_or_eq_of_mem_set f with b | rfl
  ·exact y d b
  ·exact gQ g.length_le (y c (gM j))
 ·by_cases s:z∈[1,2,4,8,16,32]
  ·refine .inr ⟨s,(t.fO i {c with ns:=ns'}).fO i {c with ns:=ns'.eraseIdx (Df ns' [120,98])},?_⟩;unfold Sy.destroy;rw[l];simp only;rw[if_pos (m.alw.2 s)]
  ·refine .inl ⟨?_,s⟩;unfold Sy.destroy;rw[l];simp only;rw[if_neg (λh=>s (m.alw.1 h)),if_pos ((C.Zi l).2 ⟨a,(J i a).2 o⟩)]
end Go.Proofs.YtjaogfhcnmjkiaaGreatDoor
