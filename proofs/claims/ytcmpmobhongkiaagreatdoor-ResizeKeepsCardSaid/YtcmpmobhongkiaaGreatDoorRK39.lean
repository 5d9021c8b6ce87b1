/- joined. -/
import Derived.Test.YtcmpmobhongkiaaGreatDoorRK0
import Derived.Test.YtcmpmobhongkiaaGreatDoorRK18
import Derived.Test.YtcmpmobhongkiaaGreatDoorRK26
import Derived.Test.YtcmpmobhongkiaaGreatDoorRK31
import Derived.Test.YtcmpmobhongkiaaGreatDoorRK38
import Derived.Test.YtcmpmobhongkiaaGreatDoorRK7
set_option linter.unusedVariables false
set_option linter.unusedSimpArgs false
namespace Go.Proofs.YtcmpmobhongkiaaGreatDoor
section
open Go.RowKit
theorem Pn (y:Cc)(z:Nat)(B:Nat)(W:World)(hB:B<W.heap.size)(hc:W.cell? ⟨B,0,none⟩=some (.int .i64 z)):
 Calls Tryz.prog 67 (#[.agg (dX y).toArray]++#[.pointer (some ⟨B,0,none⟩)]) W fun ev w'=>ev= .returned (.bool (decide (y.c.z=z)))/\Below W.heap.size W w':=by
 show Calls Tryz.prog 67 #[.agg #[.slice y.a1 y.n1 y.c1,.int .i64 y.c.z,.int .i64 y.c.r,.int .i64 y.c.o,.slice y.a2 y.n2 y.c2,.slice y.a3 y.n3 y.c3],.pointer (some ⟨B,0,none⟩)] W _;have hb:=aF W (.cells #[.slice y.a1 y.n1 y.c1,.int .i64 (y.c.z:Int),.int .i64 (y.c.r:Int),.int .i64 (y.c.o:Int),.slice y.a2 y.n2 y.c2,.slice y.a3 y.n3 y.c3] 94);have K:=aW W #[.slice y.a1 y.n1 y.c1,.int .i64 (y.c.z:Int),.int .i64 (y.c.r:Int),.int .i64 (y.c.o:Int),.slice y.a2 y.n2 y.c2,.slice y.a3 y.n3 y.c3] 94;have k1:=K 1;simp only[gB,gC,gD]at k1;have hc2:=(hb.cell (p:=⟨B,0,none⟩) hB).trans hc;have HB:=gO hb;clear hb K hc;go_enter Tryz.func67,Tryz.ntmps67
 go_wp2
 go_ret
 exact⟨aV (by rw[Bool.eq_iff_iff];simp only[beq_iff_eq,decide_eq_true_eq];omega),HB.out⟩
def YP (s':Sy)(w:World)(ev:Ending)(w':World):Prop:=∃v',ev= .returned (.tuple #[.agg (v'.vals s'),.int .i64 0])/\fQ w' w.heap.size s' v'/\Below w.heap.size w w'
set_option maxHeartbeats 8000000 in
set_option maxRecDepth 100000 in
theorem Po (v:Sc)(s s':Sy)(n:List UInt8)(z:Nat)(w:World)(hs:nV w v s)(hk:bK s)(hf:∀c∈s.cs,c.ns.length<=999)(hnm:nameB n=true)(hz:1<=z/\z<=64)(hno:s.named n=none)(hcr:s.create n z=some s'):
 Calls Tryz.prog 31 #[.agg #[.slice v.a1 v.n1 v.c1,.slice v.hc.az 2 v.hc.cz,.slice v.hc.am 2 v.hc.cm,.int .i64 (s.h.aC:Int),.slice v.hc.al v.hc.lc.length v.hc.cl,.slice v.hc.av s.h.live.length v.hc.cv,.slice v.a2 v.ys.length v.c2],.string ⟨n.toArray⟩,.int .i64 z,.int .i64 1] w (YP s' w):=by
 have hf2:∀c∈s.cs,c.ns.length<=1000:=fun c hc=>Nat.le_succ_of_le (hf c hc)
 obtain⟨K1,K2,K3,F1,F2,F3,hsz,hbw⟩:=boxes3 w #[.slice v.a1 v.n1 v.c1,.slice v.hc.az 2 v.hc.cz,.slice v.hc.am 2 v.hc.cm,.int .i64 (s.h.aC:Int),.slice v.hc.al v.hc.lc.length v.hc.cl,.slice v.hc.av s.h.live.length v.hc.cv,.slice v.a2 v.ys.length v.c2] 47 #[.int .i64 (z:Int)] 3 #[.slice none 0 0,.slice none 0 0,.slice none 0 0,.int .i64 0,.slice none 0 0,.slice none 0 0,.slice none 0 0] 47;have hs1:=hs.below hbw;have hyl:v.ys.length<=20:=by have:=congrArg List.length hs.cy;rw[List.length_map]at this;rw[this];exact hk.cl
 have hn8:n.length<=8:=by
  unfold nameB at hnm;simp only[Bool.and_eq_true,decide_eq_true_eq]at hnm;exact hnm.1.2
 have HNM:Hid (∀W,Calls Tryz.prog 64 #[.string ⟨n.toArray⟩] W fun ev w'=>ev= .returned (.bool true)/\Below W.heap.size W w'):=fun W=>by
  have h:=JM n W (by omega);rw[hnm]at h;exact h
 have hfi:dH (fun c:Ca=>c.ns.contains n) s.cs= -1:=by
  unfold Sy.named at hno;unfold dH;rw[hno]
 have rP:Hid (∀W,Below (((w.alloc (.cells #[.slice v.a1 v.n1 v.c1,.slice v.hc.az 2 v.hc.cz,.slice v.hc.am 2 v.hc.cm,.int .i64 (s.h.aC:Int),.slice v.hc.al v.hc.lc.length v.hc.cl,.slice v.hc.av s.h.live.length v.hc.cv,.slice v.a2 v.ys.length v.c2] 47)).alloc (.cells #[.int .i64 (z:Int)] 3)).alloc (.cells #[.slice none 0 0,.slice none 0 0,.slice none 0 0,.int .i64 0,.slice none 0 0,.slice none 0 0,.slice none 0 0] 47)).heap.size (((w.alloc (.cells #[.slice v.a1 v.n1 v.c1,.slice v.hc.az 2 v.hc.cz,.slice v.hc.am 2 v.hc.cm,.int .i64 (s.h.aC:Int),.slice v.hc.al v.hc.lc.length v.hc.cl,.slice v.hc.av s.h.live.length v.hc.cv,.slice v.a2 v.ys.length v.c2] 47)).alloc (.cells #[.int .i64 (z:Int)] 3)).alloc (.cells #[.slice none 0 0,.slice none 0 0,.slice none 0 0,.int .i64 0,.slice none 0 0,.slice none 0 0,.slice none 0 0] 47)) W->Calls Tryz.prog 38 #[.agg #[.slice v.a1 v.n1 v.c1,.slice v.hc.az 2 v.hc.cz,.slice v.hc.am 2 v.hc.cm,.int .i64 (s.h.aC:Int),.slice v.hc.al v.hc.lc.length v.hc.cl,.slice v.hc.av s.h.live.length v.hc.cv,.slice v.a2 v.ys.length v.c2]] W fun ev w'=>ev= .returned (.int .i64 0)/\Below W.heap.size W w'):=fun W hW=>lJ v s W (hs1.below hW) hk hf2
 have HNA:Hid (∀W,Below (((w.alloc (.cells #[.slice v.a1 v.n1 v.c1,.slice v.hc.az 2 v.hc.cz,.slice v.hc.am 2 v.hc.cm,.int .i64 (s.h.aC:Int),.slice v.hc.al v.hc.lc.length v.hc.cl,.slice v.hc.av s.h.live.length v.hc.cv,.slice v.a2 v.ys.length v.c2] 47)).alloc (.cells #[.int .i64 (z:Int)] 3)).alloc (.cells #[.slice none 0 0,.slice none 0 0,.slice none 0 0,.int .i64 0,.slice none 0 0,.slice none 0 0,.slice none 0 0] 47)).heap.size (((w.alloc (.cells #[.slice v.a1 v.n1 v.c1,.slice v.hc.az 2 v.hc.cz,.slice v.hc.am 2 v.hc.cm,.int .i64 (s.h.aC:Int),.slice v.hc.al v.hc.lc.length v.hc.cl,.slice v.hc.av s.h.live.length v.hc.cv,.slice v.a2 v.ys.length v.c2] 47)).alloc (.cells #[.int .i64 (z:Int)] 3)).alloc (.cells #[.slice none 0 0,.slice none 0 0,.slice none 0 0,.int .i64 0,.slice none 0 0,.slice none 0 0,.slice none 0 0] 47)) W->Calls Tryz.prog 65 #[.agg #[.slice v.a1 v.n1 v.c1,.slice v.hc.az 2 v.hc.cz,.slice v.hc.am 2 v.hc.cm,.int .i64 (s.h.aC:Int),.slice v.hc.al v.hc.lc.length v.hc.cl,.slice v.hc.av s.h.live.length v.hc.cv,.slice v.a2 v.ys.length v.c2],.string ⟨n.toArray⟩] W fun ev w'=>ev= .returned (.tuple #[.int .i64 (-1),.bool false])/\Below W.heap.size W w'):=fun W hW=>by
  have h:=FY v s n W (hs1.below hW) hf2 hyl;rw[hfi]at h;exact h
 have NC:Hid (∀W,Below w.heap.size w W->Calls Tryz.prog 39 #[.agg #[.slice v.a1 v.n1 v.c1,.slice v.hc.az 2 v.hc.cz,.slice v.hc.am 2 v.hc.cm,.int .i64 (s.h.aC:Int),.slice v.hc.al v.hc.lc.length v.hc.cl,.slice v.hc.av s.h.live.length v.hc.cv,.slice v.a2 v.ys.length v.c2]] W fun ev w'=>∃v',ev= .returned (.agg (v'.vals s))/\fQ w' W.heap.size s v'/\Below W.heap.size W w'):=fun W hW=>rD v s W (hs.below hW) hk hf2
 have HK:=gO hk;have HF:=gO hf;have HB1:=gO hbw;have HK1:=gO K1;have HF1:=gO F1;have HK2:=gO K2;have HF2:=gO F2;have HK3:=gO K3;have HF3:=gO F3;have hsz1:w.heap.size<(((w.alloc (.cells #[.slice v.a1 v.n1 v.c1,.slice v.hc.az 2 v.hc.cz,.slice v.hc.am 2 v.hc.cm,.int .i64 (s.h.aC:Int),.slice v.hc.al v.hc.lc.length v.hc.cl,.slice v.hc.av s.h.live.length v.hc.cv,.slice v.a2 v.ys.length v.c2] 47)).alloc (.cells #[.int .i64 (z:Int)] 3)).alloc (.cells #[.slice none 0 0,.slice none 0 0,.slice none 0 0,.int .i64 0,.slice none 0 0,.slice none 0 0,.slice none 0 0] 47)).heap.size:=by omega
 have hsz2:w.heap.size+1<(((w.alloc (.cells #[.slice v.a1 v.n1 v.c1,.slice v.hc.az 2 v.hc.cz,.slice v.hc.am 2 v.hc.cm,.int .i64 (s.h.aC:Int),.slice v.hc.al v.hc.lc.length v.hc.cl,.slice v.hc.av s.h.live.length v.hc.cv,.slice v.a2 v.ys.length v.c2] 47)).alloc (.cells #[.int .i64 (z:Int)] 3)).alloc (.cells #[.slice none 0 0,.slice none 0 0,.slice none 0 0,.int .i64 0,.slice none 0 0,.slice none 0 0,.slice none 0 0] 47)).heap.size:=by omega
 have HCR:=gO hcr;have HZ:=gO hz;have hz1:¬(z:Int)<1:=by omega
 have hz2:¬(64:Int)<z:=by omega
 have k0:=HK1.out 0;have k1:=HK1.out 1;have k2:=HK1.out 2;have k3:=HK1.out 3;have k4:=HK1.out 4;have k5:=HK1.out 5;have k6:=HK1.out 6;have q0:=HK2.out 0;simp only[gB,gC,gD]at k0 k1 k2 k3 k4 k5 k6 q0;clear hs hk hf hf2 hs1 hbw K1 K2 K3 F1 F2 F3 hno hfi hnm hcr hz;go_enter Tryz.func31,Tryz.ntmps31
 go_upto_region 1 with fail
 generalize ((w.alloc _).alloc _).alloc _=w3 at*;have LQ:∀W,Below w3.heap.size w3 W->W.cell? ⟨w.heap.size+1,0,none⟩=some (.int .i64 (z:Int)):=fun W h=>(h.cell (p:=⟨w.heap.size+1,0,none⟩) hsz2).trans q0
 go_upto_region 6 with (first | (go_at_call 38;refine(rP.out _ (Below.refl _ _)).mono ?_;rintro ev wa ⟨rfl,hba⟩) | (go_at_call 64;refine(HNM.out _).mono ?_;rintro ev wb ⟨rfl,hbb⟩))
 have YQ:=Below.step hba hbb;have qb:=LQ wb YQ;have Kb:=aB HK1.out hsz1 YQ;clear k0 k1 k2 k3 k4 k5 k6 q0;obtain⟨k0,k1,k2,k3,k4,k5,k6⟩:=gA7 Kb;have aBF:=gO YQ;clear Kb hba hbb YQ;go_upto_region 9 with (go_at_call 65;refine(HNA.out _ aBF.out).mono ?_;rintro ev wn ⟨rfl,hbn⟩)
 have DN:=gO (Below.step aBF.out hbn);have qn:=LQ wn DN.out;have fn:=(aH HF2.out hsz2 DN.out) 0;have Kn:=aB HK1.out hsz1 DN.out;clear k0 k1 k2 k3 k4 k5 k6 qb;obtain⟨k0,k1,k2,k3,k4,k5,k6⟩:=gA7 Kn;clear hbn;go_upto_region 12 with fail
 have hne01:w.heap.size≠w.heap.size+1:=by omega
 have hne1:w.heap.size+1≠w.heap.size:=by omega
 have hne2:w.heap.size+2≠w.heap.size:=by omega
 have aDV:w.heap.size+2≠w.heap.size+1:=by omega
 have hsw:w.heap.size<=w3.heap.size:=gR hsz1;have pR:=gO (Below.setCell (Below.trans HB1.out (DN.out.mono hsw)) (show w.heap.size<=(⟨w.heap.size+1,0,none⟩:Addr).block from Nat.le_succ _) (.int .i64 (z:Int)));have Kq:=aA Kn hne01 0 (.int .i64 (z:Int));have Fq:=aG (aH HF1.out hsz1 DN.out) ⟨w.heap.size+1,0,none⟩ (.int .i64 (z:Int));have K2q:=aI (aB HK2.out hsz2 DN.out) 0 (.int .i64 (z:Int));simp only[gE,gG]at K2q;have F2q:=aG (aH HF2.out hsz2 DN.out) ⟨w.heap.size+1,0,none⟩ (.int .i64 (z:Int));have K3q:=aA (aB HK3.out hsz DN.out) aDV 0 (.int .i64 (z:Int));have F3q:=aG (aH HF3.out hsz DN.out) ⟨w.heap.size+1,0,none⟩ (.int .i64 (z:Int));have aAW:w.heap.size+2<(wn.setCell ⟨w.heap.size+1,0,none⟩ (.int .i64 (z:Int))).heap.size:=by
  have:=DN.out.size;simp;omega
 have HKq:=gO Kq;have HFq:=gO Fq;have aDW:=gO K2q;have aDX:=gO F2q;have aDY:=gO K3q;have aDZ:=gO F3q;clear k0 k1 k2 k3 k4 k5 k6 qn fn Kn Kq Fq K2q F2q K3q F3q LQ HNA rP HNM DN aBF HK1 HF1 HK2 HF2 HK3 HF3;generalize wn.setCell _ _=wq at*;obtain⟨k0,k1,k2,k3,k4,k5,k6⟩:=gA7 HKq.out;have QK:w.heap.size<wq.heap.size:=by omega
 go_upto_region 13 with (go_at_call 39;refine(NC.out _ pR.out).mono ?_;rintro ev w5 ⟨v1,he,hnew,hb5⟩;unfold Sc.vals at he;subst he;have K15:=aB HKq.out QK hb5;have F15:=aH HFq.out QK hb5;obtain⟨y0,y1,y2,y3,y4,y5,y6⟩:=gA7 K15;obtain⟨f0,f1,f2,f3,f4,f5,f6⟩:=gF7 F15;skip)
 have nS:SR w5 w.heap.size (fun k=>k<w.heap.size∨k=w.heap.size+1∨k=w.heap.size+2) s v1:=SR.lift hnew QK (fun k hk=>by omega) (by omega);have hfin:=SS.put7 nS K15 F15;have HS6:=gO hfin;have aAe:w.heap.size+1<wq.heap.size:=by omega
 have P0:=aB aDW.out aAe hb5;have Q0:=aH aDX.out aAe hb5;have R0:=aB aDY.out aAW hb5;have U0:=aH aDZ.out aAW hb5;have P1:=aA P0 hne1 0 (.slice v1.a1 v1.n1 v1.c1);have Q1:=aG Q0 ⟨w.heap.size,0,none⟩ (.slice v1.a1 v1.n1 v1.c1);have R1:=aA R0 hne2 0 (.slice v1.a1 v1.n1 v1.c1);have U1:=aG U0 ⟨w.heap.size,0,none⟩ (.slice v1.a1 v1.n1 v1.c1);have P2:=aA P1 hne1 1 (.slice v1.hc.az 2 v1.hc.cz);have Q2:=aG Q1 ⟨w.heap.size,1,none⟩ (.slice v1.hc.az 2 v1.hc.cz);have R2:=aA R1 hne2 1 (.slice v1.hc.az 2 v1.hc.cz);have U2:=aG U1 ⟨w.heap.size,1,none⟩ (.slice v1.hc.az 2 v1.hc.cz);have P3:=aA P2 hne1 2 (.slice v1.hc.am 2 v1.hc.cm);have Q3:=aG Q2 ⟨w.heap.size,2,none⟩ (.slice v1.hc.am 2 v1.hc.cm);have R3:=aA R2 hne2 2 (.slice v1.hc.am 2 v1.hc.cm);have U3:=aG U2 ⟨w.heap.size,2,none⟩ (.slice v1.hc.am 2 v1.hc.cm);have P4:=aA P3 hne1 3 (.int .i64 (s.h.aC:Int));have Q4:=aG Q3 ⟨w.heap.size,3,none⟩ (.int .i64 (s.h.aC:Int));have R4:=aA R3 hne2 3 (.int .i64 (s.h.aC:Int));have U4:=aG U3 ⟨w.heap.size,3,none⟩ (.int .i64 (s.h.aC:Int));have P5:=aA P4 hne1 4 (.slice v1.hc.al v1.hc.lc.length v1.hc.cl);have Q5:=aG Q4 ⟨w.heap.size,4,none⟩ (.slice v1.hc.al v1.hc.lc.length v1.hc.cl);have R5:=aA R4 hne2 4 (.slice v1.hc.al v1.hc.lc.length v1.hc.cl);have U5:=aG U4 ⟨w.heap.size,4,none⟩ (.slice v1.hc.al v1.hc.lc.length v1.hc.cl);have P6:=aA P5 hne1 5 (.slice v1.hc.av s.h.live.length v1.hc.cv);have Q6:=aG Q5 ⟨w.heap.size,5,none⟩ (.slice v1.hc.av s.h.live.length v1.hc.cv);have R6:=aA R5 hne2 5 (.slice v1.hc.av s.h.live.length v1.hc.cv);have U6:=aG U5 ⟨w.heap.size,5,none⟩ (.slice v1.hc.av s.h.live.length v1.hc.cv);have P7:=aA P6 hne1 6 (.slice v1.a2 v1.ys.length v1.c2);have Q7:=aG Q6 ⟨w.heap.size,6,none⟩ (.slice v1.a2 v1.ys.length v1.c2);have R7:=aA R6 hne2 6 (.slice v1.a2 v1.ys.length v1.c2);have U7:=aG U6 ⟨w.heap.size,6,none⟩ (.slice v1.a2 v1.ys.length v1.c2);have HP:=gO P7;have HQ:=gO Q7;have HR:=gO R7;have HU:=gO U7;have HB5:=gO (Below.trans pR.out (hb5.mono (gR QK)));have HB6:=gO (Below.setCell (Below.setCell (Below.setCell (Below.setCell (Below.setCell (Below.setCell (Below.setCell HB5.out (show w.heap.size<=(⟨w.heap.size,0,none⟩:Addr).block from Nat.le_refl _) (.slice v1.a1 v1.n1 v1.c1)) (show w.heap.size<=(⟨w.heap.size,1,none⟩:Addr).block from Nat.le_refl _) (.slice v1.hc.az 2 v1.hc.cz)) (show w.heap.size<=(⟨w.heap.size,2,none⟩:Addr).block from Nat.le_refl _) (.slice v1.hc.am 2 v1.hc.cm)) (show w.heap.size<=(⟨w.heap.size,3,none⟩:Addr).block from Nat.le_refl _) (.int .i64 (s.h.aC:Int))) (show w.heap.size<=(⟨w.heap.size,4,none⟩:Addr).block from Nat.le_refl _) (.slice v1.hc.al v1.hc.lc.length v1.hc.cl)) (show w.heap.size<=(⟨w.heap.size,5,none⟩:Addr).block from Nat.le_refl _) (.slice v1.hc.av s.h.live.length v1.hc.cv)) (show w.heap.size<=(⟨w.heap.size,6,none⟩:Addr).block from Nat.le_refl _) (.slice v1.a2 v1.ys.length v1.c2));have SH:w.heap.size+2<((((((((w5.setCell ⟨w.heap.size,0,none⟩ (.slice v1.a1 v1.n1 v1.c1)).setCell ⟨w.heap.size,1,none⟩ (.slice v1.hc.az 2 v1.hc.cz)).setCell ⟨w.heap.size,2,none⟩ (.slice v1.hc.am 2 v1.hc.cm)).setCell ⟨w.heap.size,3,none⟩ (.int .i64 (s.h.aC:Int))).setCell ⟨w.heap.size,4,none⟩ (.slice v1.hc.al v1.hc.lc.length v1.hc.cl)).setCell ⟨w.heap.size,5,none⟩ (.slice v1.hc.av s.h.live.length v1.hc.cv)).setCell ⟨w.heap.size,6,none⟩ (.slice v1.a2 v1.ys.length v1.c2))).heap.size:=by
  have:=hb5.size;simp;omega
 clear y0 y1 y2 y3 y4 y5 y6 f0 f1 f2 f3 f4 f5 f6 K15 F15 nS hfin hnew k0 k1 k2 k3 k4 k5 k6 P0 P1 P2 P3 P4 P5 P6 P7 Q0 Q1 Q2 Q3 Q4 Q5 Q6 Q7 R0 R1 R2 R3 R4 R5 R6 R7 U0 U1 U2 U3 U4 U5 U6 U7 HB5 hb5 HKq HFq aDW aDX aDY aDZ NC pR;generalize ((((((w5.setCell _ _).setCell _ _).setCell _ _).setCell _ _).setCell _ _).setCell _ _).setCell _ _=w6 at*;have p0:=HP.out 0;have x6:=HS6.out.k 6;unfold Sc.vals at x6;simp only[gB,gC,gD]at p0 x6;have eg:∀args w,(callFunc 67 args).run Tryz.prog w= .ok (.enter 67 args) w:=enters_of Tryz.func67 (by kernel_rfl) rfl;have hv1:v1.ys.length<=20:=by
  have h:=congrArg List.length HS6.out.r.cy;simp only[List.length_map]at h;rw[h];exact HK.out.cl
 have hfz:dH (fun y:Cc=>decide (y.c.z=z)) v1.ys=dH (fun c:Ca=>decide (c.z=z)) s.cs:=by
  rw[<- HS6.out.r.cy];unfold dH;rw[List.findIdx?_map];rfl
 have aD0:=HS6.out.r.at
 have hcall:=uQ v1.a2 v1.ys.length v1.c2 v1.ys 67 #[.pointer (some ⟨w.heap.size+1,0,none⟩)] (fun y=>decide (y.c.z=z)) w6 rfl (by omega) aD0.rc eg (fun W hW y hy=>Pn y z (w.heap.size+1) W (by have:=hW.size;omega) ((hW.cell (p:=⟨w.heap.size+1,0,none⟩) (by show w.heap.size+1<w6.heap.size;omega)).trans p0));rw[hfz]at hcall;have HIX:=gO hcall;clear hcall eg aD0 hfz;go_upto_region 14 with (go_at_call 66;refine HIX.out.mono ?_;rintro ev w7 ⟨rfl,hb7⟩)
 have HS7:=gO (HS6.out.below hb7);have hw6:w.heap.size+1+1<w6.heap.size:=SH;have HR7:=gO (aB HR.out hw6 hb7);have HU7:=gO (aH HU.out hw6 hb7);have HP7:=gO (aB HP.out (show w.heap.size+1<w6.heap.size by omega) hb7);have HB7:=gO (HB6.out.trans (hb7.mono (show w.heap.size<=w6.heap.size by omega)));have hw7:w.heap.size+1+1<w7.heap.size:=gI hw6 hb7.size;clear HIX p0 x6 HS6 HP HQ HR HU HB6 SH hb7 hw6;cases hfd:s.cs.findIdx? (fun c=>decide (c.z=z))with
 | some i=>
  have hi:i<s.cs.length:=by
   rw[List.findIdx?_eq_some_iff_getElem]at hfd;exact hfd.1
  have hfe:dH (fun c:Ca=>decide (c.z=z)) s.cs=(i:Int):=by
   unfold dH;rw[hfd]
  have hi1:i<v1.ys.length:=by
   have h:=congrArg List.length HS7.out.r.cy;simp only[List.length_map]at h;omega
  have hci:v1.ys[i].c=s.cs[i]:=by
   have h1:=congrArg (·[i]?) HS7.out.r.cy;simp[hi1,hi]at h1;exact h1
  have hs':s'=s.fH i {s.cs[i]with ns:=s.cs[i].ns.take (AB s.cs[i].ns n)++n::s.cs[i].ns.drop (AB s.cs[i].ns n)}:=by
   have h:=HCR.out;unfold Sy.create at h;rw[hfd]at h;simp only[gJ hi]at h;exact(gP h).symm
  have hck:=HK.out.ck _ (gL hi);have hfn:=HF.out _ (gL hi);rw[<- hci]at hs' hck hfn;rw[hfe];obtain⟨gc,ha2,o9,OO,Wj,hcc⟩:=HS7.out.r.XD hi1;obtain⟨hr1,hr2,hr3⟩:=HS7.out.r.y (gL hi1);obtain⟨y,hy⟩:∃y,v1.ys[i]=y:=⟨_,rfl⟩
  have HY:=gO hy;rw[hy]at hcc hr1 hs' hck hfn;have aD1:=HS7.out.r.aDT hi1 hy ha2;have hl1:y.c.ns.length=y.n1:=bC aZ (by decide) hr1;have hn1:y.n1<=999:=by omega
  have b0:=(hcc 0 (by decide)).1;have f0:=(hcc 0 (by decide)).2;simp only[dX,vI,gC,gD,Nat.add_zero]at b0 f0;have x6:=HS7.out.k 6;unfold Sc.vals at x6;simp only[gB,gC,gD]at x6;rw[ha2]at x6;have hii:(i:Int)<v1.ys.length:=by omega
  have hi0:(0:Int)<=i:=by omega
  have NG:=gO (YO y.a1 y.n1 y.c1 y.c.ns n w7 hl1 (by omega) (aY hr1) hck.nr);have TD:=gO hs';have HR1:=gO hr1;have hle:=WT y.c.ns n;have HL1:=gO hl1;have HA2:=gO ha2;have HGN:=gO aD1;clear hr2 hr3 hcc hr1 hy hs' hck hfn hci hfe hl1 hfd ha2 aD1;go_upto_region 17 with (go_at_call 68;refine NG.out.mono ?_;rintro ev w8 ⟨bb,rfl,rfl⟩)
  obtain⟨K,hK⟩:∃K,AB y.c.ns n=K:=⟨_,rfl⟩
  rw[hK]at hle TD ⊢;clear NG hK;have ba:=aF w7 (.cells #[.string ⟨n.toArray⟩] 9);have HS8:=gO (HS7.out.below ba);have HR18:Hid ((qZ y).on (w7.alloc (.cells #[.string ⟨n.toArray⟩] 9)) 0):=own_below HR1.out ba (Nat.le_refl _);have XG:Hid ((w7.alloc (.cells #[.string ⟨n.toArray⟩] 9)).heap[w7.heap.size]? =some (.cells (encS n).toArray 9 (0,0))):=heap_alloc_new w7 _;have XH:Hid (some w7.heap.size≠Value.ownBlock (.slice y.a1 y.n1 y.c1)):=fun e=>(own_ne HR1.out (.inr (Nat.le_refl _))) e.symm
  have aD2:gc<(w7.alloc (.cells #[.string ⟨n.toArray⟩] 9)).heap.size:=gI o9 ba.size;have HX8:=gO ((ba.cell (p:=⟨gc,i*6,none⟩) o9).trans b0);have HY8:=gO ((ba.frozen (p:=⟨gc,i*6,none⟩) o9).trans f0);have HGS:Hid (some gc≠(Value.slice y.a1 y.n1 y.c1).ownBlock):=fun e=>HGN.out e.symm
  have hKn:K<=y.n1:=by rw[<- HL1.out];exact hle
  have LP:=gO ba;clear ba HR1;go_upto_region 18 with (go_at_call 69;refine(Vr 0 y.a1 y.n1 y.c1 w7.heap.size K y.c.ns n _ HR18.out hKn (by omega) (Nat.zero_le _) XG.out XH.out).mono ?_;rintro ev w9 ⟨an,cn,rfl,aAf,hg9,hl9⟩;have q4:=(World.cell?_of_block (w:=w7.alloc (.cells #[.string ⟨n.toArray⟩] 9)) (a:=⟨gc,i*6,none⟩) (hg9.block gc aD2 HGS.out)).trans HX8.out;have p4:=(World.frozen?_of_block (w:=w7.alloc (.cells #[.string ⟨n.toArray⟩] 9)) (a:=⟨gc,i*6,none⟩) (hg9.block gc aD2 HGS.out)).trans HY8.out)
  obtain⟨v2,t1,t2,t3⟩:=HS8.out.aBE hi1 HY.out aAf hg9 hl9 HA2.out;have hsf:=(Safe.iM (X:=fun k=>k<w.heap.size∨k=w.heap.size+1∨k=w.heap.size+2) LP.out).trans t2;have LW:=gO (hsf.box HR7.out hw7 (.inr (.inr rfl)));have HUe:=gO (hsf.XC HU7.out hw7 (.inr (.inr rfl)));have HBe:=gO (Safe.after HB7.out hsf (fun k hk=> .inl hk) HB7.out.size);rw[<- TD.out]at t1;have LX:=gO t1;clear t1 t2 t3 hsf q4 p4 aAf hg9 hl9 HS8 HR18 XG XH HX8 HY8 HGS LP HS7 HR7 HU7 HP7 HB7 b0 f0 x6 TD;generalize w9.setCell _ _=we at*;have x0:=LX.out.k 0;have x1:=LX.out.k 1;have x2:=LX.out.k 2;have x3:=LX.out.k 3;have x4:=LX.out.k 4;have x5:=LX.out.k 5;have x6:=LX.out.k 6;unfold Sc.vals at x0 x1 x2 x3 x4 x5 x6;have y0:=LW.out 0;have y1:=LW.out 1;have y2:=LW.out 2;have y3:=LW.out 3;have y4:=LW.out 4;have y5:=LW.out 5;have y6:=LW.out 6;obtain⟨f0,f1,f2,f3,f4,f5,f6⟩:=gF7 HUe.out;simp only[gB,gC,gD]at x0 x1 x2 x3 x4 x5 x6 y0 y1 y2 y3 y4 y5 y6;have hle2:w.heap.size<=w.heap.size+1+1:=by omega
  have KX:=(aI (aI (aI (aI (aI (aI (aI LW.out 0 (.slice v2.a1 v2.n1 v2.c1)) 1 (.slice v2.hc.az 2 v2.hc.cz)) 2 (.slice v2.hc.am 2 v2.hc.cm)) 3 (.int .i64 (s'.h.aC:Int))) 4 (.slice v2.hc.al v2.hc.lc.length v2.hc.cl)) 5 (.slice v2.hc.av s'.h.live.length v2.hc.cv)) 6 (.slice v2.a2 v2.ys.length v2.c2))
  simp only[gE,gG,gH]at KX;have hX8:(fun k=>k<w.heap.size∨k=w.heap.size+1∨k=w.heap.size+2) (w.heap.size+1+1):= .inr (.inr rfl);have A0:=LX.out;have A1:=A0.dY hX8 0 (.slice v2.a1 v2.n1 v2.c1);have A2:=A1.dY hX8 1 (.slice v2.hc.az 2 v2.hc.cz);have A3:=A2.dY hX8 2 (.slice v2.hc.am 2 v2.hc.cm);have A4:=A3.dY hX8 3 (.int .i64 (s'.h.aC:Int));have A5:=A4.dY hX8 4 (.slice v2.hc.al v2.hc.lc.length v2.hc.cl);have A6:=A5.dY hX8 5 (.slice v2.hc.av s'.h.live.length v2.hc.cv);have A7:=A6.dY hX8 6 (.slice v2.a2 v2.ys.length v2.c2);have nP:=gO (A7.sub (Y:=fun k=>k<w.heap.size) (fun k hk=> .inl hk)).r;have jF:=gO (Below.setCell (Below.setCell (Below.setCell (Below.setCell (Below.setCell (Below.setCell (Below.setCell HBe.out (show w.heap.size<=(⟨w.heap.size+1+1,0,none⟩:Addr).block from hle2) (.slice v2.a1 v2.n1 v2.c1)) (show w.heap.size<=(⟨w.heap.size+1+1,1,none⟩:Addr).block from hle2) (.slice v2.hc.az 2 v2.hc.cz)) (show w.heap.size<=(⟨w.heap.size+1+1,2,none⟩:Addr).block from hle2) (.slice v2.hc.am 2 v2.hc.cm)) (show w.heap.size<=(⟨w.heap.size+1+1,3,none⟩:Addr).block from hle2) (.int .i64 (s'.h.aC:Int))) (show w.heap.size<=(⟨w.heap.size+1+1,4,none⟩:Addr).block from hle2) (.slice v2.hc.al v2.hc.lc.length v2.hc.cl)) (show w.heap.size<=(⟨w.heap.size+1+1,5,none⟩:Addr).block from hle2) (.slice v2.hc.av s'.h.live.length v2.hc.cv)) (show w.heap.size<=(⟨w.heap.size+1+1,6,none⟩:Addr).block from hle2) (.slice v2.a2 v2.ys.length v2.c2));clear A0 A1 A2 A3 A4 A5 A6 A7 hX8;go_wp2_with fail
  generalize ((((((we.setCell _ _).setCell _ _).setCell _ _).setCell _ _).setCell _ _).setCell _ _).setCell _ _=wx at*;exact bodyPost_ret (v:= .tuple #[.agg #[.slice v2.a1 v2.n1 v2.c1,.slice v2.hc.az 2 v2.hc.cz,.slice v2.hc.am 2 v2.hc.cm,.int .i64 (s'.h.aC:Int),.slice v2.hc.al v2.hc.lc.length v2.hc.cl,.slice v2.hc.av s'.h.live.length v2.hc.cv,.slice v2.a2 v2.ys.length v2.c2],.int .i64 0]) (by simp[results,Tryz.results31,go_sem,KX]) rfl ⟨v2,rfl,nP.out,jF.out⟩
 | none=>
  have hfe:dH (fun c:Ca=>decide (c.z=z)) s.cs= -1:=by
   unfold dH;rw[hfd]
  have hcl:v1.ys.length=s.cs.length:=by
   have h:=congrArg List.length HS7.out.r.cy;simpa using h
  have aAg:s.cs.length≠20/\s'={s with cs:=s.cs++[⟨[n],z,fB z,dS z,[],List.replicate s.h.aC (-1)⟩]}:=by
   have h:=HCR.out;unfold Sy.create at h;rw[hfd]at h;simp only at h;split at h
   ·cases h
   ·exact⟨by assumption,(gP h).symm⟩
  have aG6:((v1.ys.length:Int) == 20)=false:=by
   rw[beq_eq_false_iff_ne];omega
  have TD:=gO aAg.2;rw[hfe];have x6:=HS7.out.k 6;have x3:=HS7.out.k 3;have p0:=HP7.out 0;unfold Sc.vals at x6 x3;simp only[gB,gC,gD]at x6 x3 p0;have HLY:=gO (Dk z w7 HZ.out.1 HZ.out.2);have aK1:=HK.out.hk.cp.2;have p0':=((aF w7 (.cells #[.string ⟨n.toArray⟩] 9)).cell (p:=⟨w.heap.size+1,0,none⟩) (by show w.heap.size+1<w7.heap.size;omega)).trans p0;clear hfe hfd aAg hcl;go_upto_region 23 with (go_at_call 70;refine HLY.out.mono ?_;rintro ev w8 ⟨rfl,rfl⟩)
  have ba:=aF w7 (.cells #[.string ⟨n.toArray⟩] 9);have bb:=aF (w7.alloc (.cells #[.string ⟨n.toArray⟩] 9)) (.cells #[.slice (some ⟨w7.heap.size,0,none⟩) 1 1,.int .i64 (z:Int),.int .i64 (fB z:Int),.int .i64 (dS z:Int),.slice none 0 0,.slice none 0 0] 94);have hbb:=Below.step ba bb;have hs8:(w7.alloc (.cells #[.string ⟨n.toArray⟩] 9)).heap.size=w7.heap.size+1:=by simp
  have KC:=aW (w7.alloc (.cells #[.string ⟨n.toArray⟩] 9)) #[.slice (some ⟨w7.heap.size,0,none⟩) 1 1,.int .i64 (z:Int),.int .i64 (fB z:Int),.int .i64 (dS z:Int),.slice none 0 0,.slice none 0 0] 94;have FC:=eY (w7.alloc (.cells #[.string ⟨n.toArray⟩] 9)) #[.slice (some ⟨w7.heap.size,0,none⟩) 1 1,.int .i64 (z:Int),.int .i64 (fB z:Int),.int .i64 (dS z:Int),.slice none 0 0,.slice none 0 0] 94;rw[hs8]at KC FC;have hs9:((w7.alloc (.cells #[.string ⟨n.toArray⟩] 9)).alloc (.cells #[.slice (some ⟨w7.heap.size,0,none⟩) 1 1,.int .i64 (z:Int),.int .i64 (fB z:Int),.int .i64 (dS z:Int),.slice none 0 0,.slice none 0 0] 94)).heap.size=w7.heap.size+2:=by simp
  have HN9:Hid (((w7.alloc (.cells #[.string ⟨n.toArray⟩] 9)).alloc (.cells #[.slice (some ⟨w7.heap.size,0,none⟩) 1 1,.int .i64 (z:Int),.int .i64 (fB z:Int),.int .i64 (dS z:Int),.slice none 0 0,.slice none 0 0] 94)).ownsRow w7.heap.size 9 1 (.slice (some ⟨w7.heap.size,0,none⟩) 1 1) 1 [.string ⟨n.toArray⟩]):=
   own_below ⟨by simp,.inr ⟨w7.heap.size,1,#[.string ⟨n.toArray⟩],rfl,Nat.le_refl _,heap_alloc_new w7 _,Nat.le_refl _,by unfold maxLen;omega,by simp,by simp⟩⟩ bb (Nat.le_refl _)
  have HS9:Hid (SS ((w7.alloc (.cells #[.string ⟨n.toArray⟩] 9)).alloc (.cells #[.slice (some ⟨w7.heap.size,0,none⟩) 1 1,.int .i64 (z:Int),.int .i64 (fB z:Int),.int .i64 (dS z:Int),.slice none 0 0,.slice none 0 0] 94)) w.heap.size (fun k=>(k<w.heap.size∨k=w.heap.size+1∨k=w.heap.size+2)∨k=w7.heap.size+1) s v1):=
   (HS7.out.new hbb).sub fun k hk=>hk.imp id fun e=>by rw[hs9];omega
  have HR9:=gO (aB HR7.out hw7 hbb);have HU9:=gO (aH HU7.out hw7 hbb);have HB9:=gO (HB7.out.trans (hbb.mono (gQ (gR (Nat.lt_of_succ_lt (Nat.lt_of_succ_lt hw7))) (Nat.le_refl _))));have HKC:=gO KC;have HFC:=gO FC;have x3':=(hbb.cell (p:=⟨w.heap.size,3,none⟩) (by show w.heap.size<w7.heap.size;omega)).trans x3;clear ba bb hbb KC FC x3 x6 p0 p0' HR7 HU7 HB7 HP7 HLY hs8;generalize (w7.alloc _).alloc _=w9 at*;go_wp2_with fail
  clear x3';go_loopw [122] (fun s122 wr=>∃(j:Nat) (a3:Option Addr) (c3:Nat),j<=s.h.aC/\s122= .int .i64 (j:Int)/\Hid (SS wr w.heap.size (fun k=>((k<w.heap.size∨k=w.heap.size+1∨k=w.heap.size+2)∨k=w7.heap.size+1)∨(Value.slice a3 j c3).ownBlock=some k) s v1)/\Hid (wr.ownsRow w7.heap.size 9 1 (.slice (some ⟨w7.heap.size,0,none⟩) 1 1) 1 [.string ⟨n.toArray⟩])/\Hid (wr.ownsRow w9.heap.size 3 1 (.slice a3 j c3) j ((List.replicate j (-1)).map vI))/\Hid (∀o,wr.cell? ⟨w7.heap.size+1,o,none⟩=(#[.slice (some ⟨w7.heap.size,0,none⟩) 1 1,.int .i64 (z:Int),.int .i64 (fB z:Int),.int .i64 (dS z:Int),.slice none 0 0,.slice a3 j c3]:Array Value)[o]?)/\Hid (∀o,wr.frozen? ⟨w7.heap.size+1,o,none⟩=false)/\Hid (∀o,wr.cell? ⟨w.heap.size+1+1,o,none⟩=(#[.slice none 0 0,.slice none 0 0,.slice none 0 0,.int .i64 0,.slice none 0 0,.slice none 0 0,.slice none 0 0]:Array Value)[o]?)/\Hid (∀o,wr.frozen? ⟨w.heap.size+1+1,o,none⟩=false)/\w9.heap.size<=wr.heap.size/\Hid (Below w.heap.size w wr)) (fun s122 _=>s.h.aC-(intOf s122).toNat)
  case atStart=>exact⟨0,none,0,Nat.zero_le _,rfl,HS9.out.sub (fun k hk=>hk.resolve_right (by simp[Value.ownBlock])),HN9,World.ownsRow_nil _ _ _ _,HKC,HFC,HR9,HU9,Nat.le_refl _,HB9⟩
  case round=>
   obtain⟨j,a3,c3,hj,rfl,wL,Tj,HAj,En,HFj,HRj,YR,hwj,uD⟩:=hrel;clear HS9 HN9 HKC HFC HR9 HU9 HB9;have hcj:w7.heap.size+1<wr.heap.size:=by omega
   have htj:w.heap.size+1+1<wr.heap.size:=by omega
   by_cases hlt:j<s.h.aC
   ·have hji:(j:Int)<s.h.aC:=by omega
    have ba:=aF wr (.cells #[.int .i64 (-1)] 3);have HS1:=gO (wL.out.below ba);have HN1:Hid ((wr.alloc (.cells #[.int .i64 (-1)] 3)).ownsRow w7.heap.size 9 1 (.slice (some ⟨w7.heap.size,0,none⟩) 1 1) 1 [.string ⟨n.toArray⟩]):=own_below Tj.out ba (Nat.le_refl _);have HA1:Hid ((wr.alloc (.cells #[.int .i64 (-1)] 3)).ownsRow w9.heap.size 3 1 (.slice a3 j c3) j ((List.replicate j (-1)).map vI)):=own_below HAj.out ba (Nat.le_refl _);have HK1:=gO (aB En.out hcj ba);have HF1:=gO (aH HFj.out hcj ba);have HR1:=gO (aB HRj.out htj ba);have HU1:=gO (aH YR.out htj ba);have aBG:=gO (Below.step uD.out ba);have hw1:w9.heap.size<=(wr.alloc (.cells #[.int .i64 (-1)] 3)).heap.size:=gQ hwj ba.size;have OL:=gO (World.news_of_block (heap_alloc_new wr (.cells #[.int .i64 (-1)] 3)));have k5:=En.out 5;simp only[gB,gC,gD]at k5;obtain⟨ti,hti,htz,hts,htb⟩:=info_parts oN;have hcs:w7.heap.size+1<(wr.alloc (.cells #[.int .i64 (-1)] 3)).heap.size:=gI hcj ba.size;have aD3:w.heap.size+1+1<(wr.alloc (.cells #[.int .i64 (-1)] 3)).heap.size:=gI htj ba.size;have aD4:some (w7.heap.size+1)≠(Value.slice a3 j c3).ownBlock:=fun e=>by
     have:=(HAj.out.lt _ e.symm).1;omega
    have aD5:some (w.heap.size+1+1)≠(Value.slice a3 j c3).ownBlock:=fun e=>by
     have:=(HAj.out.lt _ e.symm).1;omega
    have aD6:∀k,(Value.slice (some ⟨w7.heap.size,0,none⟩) 1 1).ownBlock=some k->(Value.slice a3 j c3).ownBlock≠some k:=fun k e e'=>by
     have h1:=(HAj.out.lt _ e').1;have h2:w7.heap.size=k:=by simpa[Value.ownBlock]using e
     omega
    have WU:=gO aD4;have aBH:=gO aD5;have aD7:=gO aD6;clear ba wL Tj HAj En HFj HRj YR uD aD4 aD5 aD6;go_wp2_with (at_builtin;refine wpList_append_lies _ rfl _ _ 39 rfl w9.heap.size 3 ti (.int .i64 0) 1 8 Tryz.underlying39 hti htz hts htb rfl (by decide) (.slice a3 j c3) j ((List.replicate j (-1)).map vI) rfl HA1.out ⟨wr.heap.size,0,none⟩ 1 1 [.int .i64 (-1)] rfl rfl OL.out (by simp[Value.oneCell']) (by decide) (by unfold maxLen;omega) (by omega) hw1 _ rfl ?_;intro g7 cap7 wg ho7 hg7 hl7 VK;have q5:=(bT HK1.out hcs hg7 WU.out 5).trans (show _=some (.slice a3 j c3)from rfl);have f5:=bU HF1.out hcs hg7 WU.out 5)
    have HSg:=HS1.out.out (Z:=fun k=>((k<w.heap.size∨k=w.heap.size+1∨k=w.heap.size+2)∨k=w7.heap.size+1)∨(Value.slice (some ⟨g7,0,none⟩) (j+1) cap7).ownBlock=some k) hg7 (fun k e=> .inr e) (fun k hk=>by
     rcases hk with h | h
     ·exact .inl (.inl h)
     ·obtain rfl:g7=k:=by simpa[Value.ownBlock]using h
      rcases hl7 with h1 | h1
      ·exact .inl (.inr h1)
      ·exact .inr ⟨Nat.le_of_eq h1.symm,VK⟩)
    have HS2:=gO (HSg.dY (g:=w7.heap.size+1) (.inl (.inr rfl)) 5 (.slice (some ⟨g7,0,none⟩) (j+1) cap7));have HA2:Hid ((wg.setCell ⟨w7.heap.size+1,5,none⟩ (.slice (some ⟨g7,0,none⟩) (j+1) cap7)).ownsRow w9.heap.size 3 1 (.slice (some ⟨g7,0,none⟩) (j+1) cap7) (j+1) ((List.replicate (j+1) (-1)).map vI)):=by
     unfold Hid;rw[List.replicate_succ',List.map_append];exact bI (i:=5) ho7 (fun e=>by have:=(ho7.lt _ e).1;omega) _
    have HN2:Hid ((wg.setCell ⟨w7.heap.size+1,5,none⟩ (.slice (some ⟨g7,0,none⟩) (j+1) cap7)).ownsRow w7.heap.size 9 1 (.slice (some ⟨w7.heap.size,0,none⟩) 1 1) 1 [.string ⟨n.toArray⟩]):=
     bI (i:=5) (iW HN1.out hg7 (fun k hk=>aD7.out k hk)) (by simp[Value.ownBlock]) _
    have K2':=aI (bT HK1.out hcs hg7 WU.out) 5 (.slice (some ⟨g7,0,none⟩) (j+1) cap7);simp only[gE,gG,gH]at K2';have aG8:=gO K2';have aG9:=gO (aG (bU HF1.out hcs hg7 WU.out) ⟨w7.heap.size+1,5,none⟩ (.slice (some ⟨g7,0,none⟩) (j+1) cap7));have aHa:=gO (aA (bT HR1.out aD3 hg7 aBH.out) (show w.heap.size+1+1≠w7.heap.size+1 by omega) 5 (.slice (some ⟨g7,0,none⟩) (j+1) cap7));have aHb:=gO (aG (bU HU1.out aD3 hg7 aBH.out) ⟨w7.heap.size+1,5,none⟩ (.slice (some ⟨g7,0,none⟩) (j+1) cap7));have aHc:Hid (Below w.heap.size w (wg.setCell ⟨w7.heap.size+1,5,none⟩ (.slice (some ⟨g7,0,none⟩) (j+1) cap7))):=Below.setCell (Below.grown aBG.out hg7 aBG.out.size fun k e=>by
     have:=(HA1.out.lt k e).1;omega) (show w.heap.size<=(⟨w7.heap.size+1,5,none⟩:Addr).block by show w.heap.size<=w7.heap.size+1;omega) _
    have hw2:w9.heap.size<=(wg.setCell ⟨w7.heap.size+1,5,none⟩ (.slice (some ⟨g7,0,none⟩) (j+1) cap7)).heap.size:=by
     have:=hg7.size;simp;omega
    clear ho7 hg7 hl7 VK HSg K2' HS1 HN1 HA1 HK1 HF1 HR1 HU1 aBG OL WU aBH aD7 q5 f5 k5;go_wp2
    go_roundw
    case rel=>exact⟨j+1,some ⟨g7,0,none⟩,cap7,by omega,by go_num,HS2,HN2,HA2,aG8,aG9,aHa,aHb,hw2,aHc⟩
    case measure=>simp[intOf];omega
   ·obtain rfl:j=s.h.aC:=by omega
    have ba:=aF wr (.cells #[.slice (some ⟨w7.heap.size,0,none⟩) 1 1,.int .i64 (z:Int),.int .i64 (fB z:Int),.int .i64 (dS z:Int),.slice none 0 0,.slice a3 s.h.aC c3] 94);have x6:=wL.out.k 6;have q0:=En.out 0;have q1:=En.out 1;have q2:=En.out 2;have q3:=En.out 3;have q4:=En.out 4;have q5:=En.out 5;unfold Sc.vals at x6;simp only[gB,gC,gD]at x6 q0 q1 q2 q3 q4 q5;have XM:Hid (SS (wr.alloc (.cells #[.slice (some ⟨w7.heap.size,0,none⟩) 1 1,.int .i64 (z:Int),.int .i64 (fB z:Int),.int .i64 (dS z:Int),.slice none 0 0,.slice a3 s.h.aC c3] 94)) w.heap.size (fun k=>k<w.heap.size∨k=w.heap.size+1∨k=w.heap.size+2) s v1):=(wL.out.below ba).sub fun k hk=> .inl (.inl hk)
    have HRA:=gO (aB HRj.out htj ba);have HUA:=gO (aH YR.out htj ba);have LP:=gO (Below.step uD.out ba);have htA:w.heap.size+1+1<(wr.alloc (.cells #[.slice (some ⟨w7.heap.size,0,none⟩) 1 1,.int .i64 (z:Int),.int .i64 (fB z:Int),.int .i64 (dS z:Int),.slice none 0 0,.slice a3 s.h.aC c3] 94)).heap.size:=gI htj ba.size;have o1:dJ (wr.alloc (.cells #[.slice (some ⟨w7.heap.size,0,none⟩) 1 1,.int .i64 (z:Int),.int .i64 (fB z:Int),.int .i64 (dS z:Int),.slice none 0 0,.slice a3 s.h.aC c3] 94)) 0 (qZ (⟨some ⟨w7.heap.size,0,none⟩,1,1,none,0,0,a3,s.h.aC,c3,⟨[n],z,fB z,dS z,[],List.replicate s.h.aC (-1)⟩⟩:Cc)::v1.rows s):=dJ.cons (bs:=w7.heap.size) XM.out.r.own (r':=qZ (⟨some ⟨w7.heap.size,0,none⟩,1,1,none,0,0,a3,s.h.aC,c3,⟨[n],z,fB z,dS z,[],List.replicate s.h.aC (-1)⟩⟩:Cc)) (own_below Tj.out ba (Nat.le_refl _)) (Nat.zero_le _) fun r hr g hg=>HS7.out.r.lt r hr g hg
    have o2:dJ (wr.alloc (.cells #[.slice (some ⟨w7.heap.size,0,none⟩) 1 1,.int .i64 (z:Int),.int .i64 (fB z:Int),.int .i64 (dS z:Int),.slice none 0 0,.slice a3 s.h.aC c3] 94)) 0 (mX (⟨some ⟨w7.heap.size,0,none⟩,1,1,none,0,0,a3,s.h.aC,c3,⟨[n],z,fB z,dS z,[],List.replicate s.h.aC (-1)⟩⟩:Cc)::qZ (⟨some ⟨w7.heap.size,0,none⟩,1,1,none,0,0,a3,s.h.aC,c3,⟨[n],z,fB z,dS z,[],List.replicate s.h.aC (-1)⟩⟩:Cc)::v1.rows s):=dJ.cons (bs:=(wr.alloc (.cells #[.slice (some ⟨w7.heap.size,0,none⟩) 1 1,.int .i64 (z:Int),.int .i64 (fB z:Int),.int .i64 (dS z:Int),.slice none 0 0,.slice a3 s.h.aC c3] 94)).heap.size) o1 (r':=mX (⟨some ⟨w7.heap.size,0,none⟩,1,1,none,0,0,a3,s.h.aC,c3,⟨[n],z,fB z,dS z,[],List.replicate s.h.aC (-1)⟩⟩:Cc)) (World.ownsRow_nil _ _ _ _) (Nat.zero_le _) fun r hr g hg=>(o1.lt r hr g hg).2
    have o3:dJ (wr.alloc (.cells #[.slice (some ⟨w7.heap.size,0,none⟩) 1 1,.int .i64 (z:Int),.int .i64 (fB z:Int),.int .i64 (dS z:Int),.slice none 0 0,.slice a3 s.h.aC c3] 94)) 0 (rC (⟨some ⟨w7.heap.size,0,none⟩,1,1,none,0,0,a3,s.h.aC,c3,⟨[n],z,fB z,dS z,[],List.replicate s.h.aC (-1)⟩⟩:Cc)::mX (⟨some ⟨w7.heap.size,0,none⟩,1,1,none,0,0,a3,s.h.aC,c3,⟨[n],z,fB z,dS z,[],List.replicate s.h.aC (-1)⟩⟩:Cc)::qZ (⟨some ⟨w7.heap.size,0,none⟩,1,1,none,0,0,a3,s.h.aC,c3,⟨[n],z,fB z,dS z,[],List.replicate s.h.aC (-1)⟩⟩:Cc)::v1.rows s):=dJ.cons (bs:=w9.heap.size) o2 (r':=rC (⟨some ⟨w7.heap.size,0,none⟩,1,1,none,0,0,a3,s.h.aC,c3,⟨[n],z,fB z,dS z,[],List.replicate s.h.aC (-1)⟩⟩:Cc)) (own_below HAj.out ba (Nat.le_refl _)) (Nat.zero_le _) fun r hr g hg=>by
     rcases List.mem_cons.1 hr with rfl | hr
     ·simp[mX,Value.ownBlock]at hg
     ·rcases List.mem_cons.1 hr with rfl | hr
      ·have:w7.heap.size=g:=by simpa[qZ,Value.ownBlock]using hg
       omega
      ·have:=HS7.out.r.lt r hr g hg;omega
    have hfr:∀r∈fP (⟨some ⟨w7.heap.size,0,none⟩,1,1,none,0,0,a3,s.h.aC,c3,⟨[n],z,fB z,dS z,[],List.replicate s.h.aC (-1)⟩⟩:Cc),∀g,r.v.ownBlock=some g->v1.fr s w.heap.size (fun k=>k<w.heap.size∨k=w.heap.size+1∨k=w.heap.size+2) g:=fun r hr g hg=>HS7.out.r.fresh (by
     simp only[fP,List.mem_cons,List.not_mem_nil,or_false]at hr;rcases hr with rfl | rfl | rfl
     ·have:w7.heap.size=g:=by simpa[qZ,Value.ownBlock]using hg
      omega
     ·simp[mX,Value.ownBlock]at hg
     ·have:=(HAj.out.lt g hg).1;omega)
    have HO3:=gO o3;have wX:=gO hfr;have HCS:Hid ((l9 v1).on (wr.alloc (.cells #[.slice (some ⟨w7.heap.size,0,none⟩) 1 1,.int .i64 (z:Int),.int .i64 (fB z:Int),.int .i64 (dS z:Int),.slice none 0 0,.slice a3 s.h.aC c3] 94)) 0):=XM.out.r.own.each _ (iP v1 _);have XI:Hid ((l9 v1).v.ownBlock≠some w.heap.size):=fun e=>(XM.out.r.og _ (iP v1 _) _ e).1 rfl
    have OL:=gO (World.news_of_block (heap_alloc_new wr (.cells #[.slice (some ⟨w7.heap.size,0,none⟩) 1 1,.int .i64 (z:Int),.int .i64 (fB z:Int),.int .i64 (dS z:Int),.slice none 0 0,.slice a3 s.h.aC c3] 94)));obtain⟨ti,hti,htz,hts,htb⟩:=info_parts QD;have hgs:=XM.out.r.hr.gs;clear o1 o2 o3 hfr ba wL Tj HAj En HFj HRj YR uD;go_upto_region 28 with (at_builtin;refine wpList_append_lies _ rfl _ _ 45 rfl 0 94 ti (.agg #[.slice none 0 0,.int .i64 0,.int .i64 0,.int .i64 0,.slice none 0 0,.slice none 0 0]) 6 96 Tryz.underlying45 hti htz hts htb rfl (by decide) (.slice v1.a2 v1.ys.length v1.c2) v1.ys.length (flat dX v1.ys) rfl HCS.out ⟨wr.heap.size,0,none⟩ 1 1 [.slice (some ⟨w7.heap.size,0,none⟩) 1 1,.int .i64 (z:Int),.int .i64 (fB z:Int),.int .i64 (dS z:Int),.slice none 0 0,.slice a3 s.h.aC c3] rfl rfl OL.out (by simp[Value.oneCell']) (by decide) (by unfold maxLen;omega) (by omega) (Nat.zero_le _) _ rfl ?_;intro g9 cap9 wg ho9 hg9 hl9 Yx;have q9:=(bT XM.out.k XM.out.r.hr.gs hg9 (fun e=>XI.out e.symm) 6).trans (show _=some (.slice v1.a2 v1.ys.length v1.c2)from rfl);have f9:=bU XM.out.fz XM.out.r.hr.gs hg9 (fun e=>XI.out e.symm) 6)
    obtain⟨aD8,sf9⟩:=XM.out.aCR (y:=(⟨some ⟨w7.heap.size,0,none⟩,1,1,none,0,0,a3,s.h.aC,c3,⟨[n],z,fB z,dS z,[],List.replicate s.h.aC (-1)⟩⟩:Cc)) HO3.out wX.out hg9 (by rw[aT,gX];exact ho9) (by
     rcases hl9 with h1 | h1
     ·exact .inl h1
     ·exact .inr (Nat.le_of_eq h1.symm))
    have hex:∃v2,SS (wg.setCell ⟨w.heap.size,6,none⟩ (.slice (some ⟨g9,0,none⟩) (v1.ys.length+1) cap9)) w.heap.size (fun k=>k<w.heap.size∨k=w.heap.size+1∨k=w.heap.size+2) s' v2:=⟨_,by rw[TD.out];exact aD8⟩
    obtain⟨v2,hse⟩:=hex;have LX:=gO hse;have LW:=gO (sf9.box HRA.out htA (.inr (.inr rfl)));have HUe:=gO (sf9.XC HUA.out htA (.inr (.inr rfl)));have HBe:=gO (Safe.after LP.out sf9 (fun k hk=> .inl hk) LP.out.size);clear aD8 sf9 hse ho9 hg9 hl9 Yx q9 f9 XM HRA HUA LP HO3 wX HCS XI OL x6 q0 q1 q2 q3 q4 q5 TD aG6 hs9;generalize wg.setCell _ _=we at*;have x0:=LX.out.k 0;have x1:=LX.out.k 1;have x2:=LX.out.k 2;have x3:=LX.out.k 3;have x4:=LX.out.k 4;have x5:=LX.out.k 5;have x6:=LX.out.k 6;unfold Sc.vals at x0 x1 x2 x3 x4 x5 x6;have y0:=LW.out 0;have y1:=LW.out 1;have y2:=LW.out 2;have y3:=LW.out 3;have y4:=LW.out 4;have y5:=LW.out 5;have y6:=LW.out 6;obtain⟨f0,f1,f2,f3,f4,f5,f6⟩:=gF7 HUe.out;simp only[gB,gC,gD]at x0 x1 x2 x3 x4 x5 x6 y0 y1 y2 y3 y4 y5 y6;have hle2:w.heap.size<=w.heap.size+1+1:=by omega
    have KX:=(aI (aI (aI (aI (aI (aI (aI LW.out 0 (.slice v2.a1 v2.n1 v2.c1)) 1 (.slice v2.hc.az 2 v2.hc.cz)) 2 (.slice v2.hc.am 2 v2.hc.cm)) 3 (.int .i64 (s'.h.aC:Int))) 4 (.slice v2.hc.al v2.hc.lc.length v2.hc.cl)) 5 (.slice v2.hc.av s'.h.live.length v2.hc.cv)) 6 (.slice v2.a2 v2.ys.length v2.c2))
    simp only[gE,gG,gH]at KX;have hX8:(fun k=>k<w.heap.size∨k=w.heap.size+1∨k=w.heap.size+2) (w.heap.size+1+1):= .inr (.inr rfl);have A0:=LX.out;have A1:=A0.dY hX8 0 (.slice v2.a1 v2.n1 v2.c1);have A2:=A1.dY hX8 1 (.slice v2.hc.az 2 v2.hc.cz);have A3:=A2.dY hX8 2 (.slice v2.hc.am 2 v2.hc.cm);have A4:=A3.dY hX8 3 (.int .i64 (s'.h.aC:Int));have A5:=A4.dY hX8 4 (.slice v2.hc.al v2.hc.lc.length v2.hc.cl);have A6:=A5.dY hX8 5 (.slice v2.hc.av s'.h.live.length v2.hc.cv);have A7:=A6.dY hX8 6 (.slice v2.a2 v2.ys.length v2.c2);have nP:=gO (A7.sub (Y:=fun k=>k<w.heap.size) (fun k hk=> .inl hk)).r;have jF:=gO (Below.setCell (Below.setCell (Below.setCell (Below.setCell (Below.setCell (Below.setCell (Below.setCell HBe.out (show w.heap.size<=(⟨w.heap.size+1+1,0,none⟩:Addr).block from hle2) (.slice v2.a1 v2.n1 v2.c1)) (show w.heap.size<=(⟨w.heap.size+1+1,1,none⟩:Addr).block from hle2) (.slice v2.hc.az 2 v2.hc.cz)) (show w.heap.size<=(⟨w.heap.size+1+1,2,none⟩:Addr).block from hle2) (.slice v2.hc.am 2 v2.hc.cm)) (show w.heap.size<=(⟨w.heap.size+1+1,3,none⟩:Addr).block from hle2) (.int .i64 (s'.h.aC:Int))) (show w.heap.size<=(⟨w.heap.size+1+1,4,none⟩:Addr).block from hle2) (.slice v2.hc.al v2.hc.lc.length v2.hc.cl)) (show w.heap.size<=(⟨w.heap.size+1+1,5,none⟩:Addr).block from hle2) (.slice v2.hc.av s'.h.live.length v2.hc.cv)) (show w.heap.size<=(⟨w.heap.size+1+1,6,none⟩:Addr).block from hle2) (.slice v2.a2 v2.ys.length v2.c2));clear A0 A1 A2 A3 A4 A5 A6 A7 hX8;go_wp2_with fail
    generalize ((((((we.setCell _ _).setCell _ _).setCell _ _).setCell _ _).setCell _ _).setCell _ _).setCell _ _=wx at*;exact bodyPost_ret (v:= .tuple #[.agg #[.slice v2.a1 v2.n1 v2.c1,.slice v2.hc.az 2 v2.hc.cz,.slice v2.hc.am 2 v2.hc.cm,.int .i64 (s'.h.aC:Int),.slice v2.hc.al v2.hc.lc.length v2.hc.cl,.slice v2.hc.av s'.h.live.length v2.hc.cv,.slice v2.a2 v2.ys.length v2.c2],.int .i64 0]) (by simp[results,Tryz.results31,go_sem,KX]) rfl ⟨v2,rfl,nP.out,jF.out⟩
end
section
open Go.RowKit
set_option maxRecDepth 100000 in
theorem small1 (w:World):Calls Tryz.prog 187 #[.int .i64 1] w fun ev w'=>ev= .returned (.string ⟨#[49]⟩)/\w=w':=by
 go_enter Tryz.func187,Tryz.ntmps187
 go_wp2
 go_ret
 exact⟨rfl,rfl⟩
set_option maxRecDepth 100000 in
theorem form1 (w:World):Calls Tryz.prog 174 #[.int .i64 1,.int .i64 10] w fun ev w'=>ev= .returned (.string ⟨#[49]⟩)/\w=w':=by
 go_enter Tryz.func174,Tryz.ntmps174
 go_wp2_with (go_at_call 187;refine(small1 _).mono ?_;rintro ev w' ⟨rfl,rfl⟩)
 go_ret
 exact⟨rfl,rfl⟩
set_option maxRecDepth 100000 in
theorem itoaI1 (w:World):Calls Tryz.prog 150 #[.int .i64 1] w fun ev w'=>ev= .returned (.string ⟨#[49]⟩)/\w=w':=by
 go_enter Tryz.func150,Tryz.ntmps150
 go_wp2_with (go_at_call 174;refine(form1 _).mono ?_;rintro ev w' ⟨rfl,rfl⟩)
 go_ret
 exact⟨rfl,rfl⟩
set_option maxRecDepth 100000 in
theorem itoa1 (w:World):Calls Tryz.prog 105 #[.int .i64 1] w fun ev w'=>ev= .returned (.string ⟨#[49]⟩)/\w=w':=by
 go_enter Tryz.func105,Tryz.ntmps105
 go_wp2_with (go_at_call 150;refine(itoaI1 _).mono ?_;rintro ev w' ⟨rfl,rfl⟩)
 go_ret
 exact⟨rfl,rfl⟩
set_option maxRecDepth 100000 in
theorem kname1 (w:World):Calls Tryz.prog 59 #[.int .i64 1] w fun ev w'=>ev= .returned (.string ⟨#[107,49]⟩)/\w=w':=by
 go_enter Tryz.func59,Tryz.ntmps59
 go_wp2_with (go_at_call 105;refine(itoa1 _).mono ?_;rintro ev w' ⟨rfl,rfl⟩)
 go_ret
 exact⟨rfl,rfl⟩
set_option maxRecDepth 100000 in
theorem small2 (w:World):Calls Tryz.prog 187 #[.int .i64 2] w fun ev w'=>ev= .returned (.string ⟨#[50]⟩)/\w=w':=by
 go_enter Tryz.func187,Tryz.ntmps187
 go_wp2
 go_ret
 exact⟨rfl,rfl⟩
set_option maxRecDepth 100000 in
theorem form2 (w:World):Calls Tryz.prog 174 #[.int .i64 2,.int .i64 10] w fun ev w'=>ev= .returned (.string ⟨#[50]⟩)/\w=w':=by
 go_enter Tryz.func174,Tryz.ntmps174
 go_wp2_with (go_at_call 187;refine(small2 _).mono ?_;rintro ev w' ⟨rfl,rfl⟩)
 go_ret
 exact⟨rfl,rfl⟩
set_option maxRecDepth 100000 in
theorem itoaI2 (w:World):Calls Tryz.prog 150 #[.int .i64 2] w fun ev w'=>ev= .returned (.string ⟨#[50]⟩)/\w=w':=by
 go_enter Tryz.func150,Tryz.ntmps150
 go_wp2_with (go_at_call 174;refine(form2 _).mono ?_;rintro ev w' ⟨rfl,rfl⟩)
 go_ret
 exact⟨rfl,rfl⟩
set_option maxRecDepth 100000 in
theorem itoa2 (w:World):Calls Tryz.prog 105 #[.int .i64 2] w fun ev w'=>ev= .returned (.string ⟨#[50]⟩)/\w=w':=by
 go_enter Tryz.func105,Tryz.ntmps105
 go_wp2_with (go_at_call 150;refine(itoaI2 _).mono ?_;rintro ev w' ⟨rfl,rfl⟩)
 go_ret
 exact⟨rfl,rfl⟩
set_option maxRecDepth 100000 in
theorem kname2 (w:World):Calls Tryz.prog 59 #[.int .i64 2] w fun ev w'=>ev= .returned (.string ⟨#[107,50]⟩)/\w=w':=by
 go_enter Tryz.func59,Tryz.ntmps59
 go_wp2_with (go_at_call 105;refine(itoa2 _).mono ?_;rintro ev w' ⟨rfl,rfl⟩)
 go_ret
 exact⟨rfl,rfl⟩
set_option maxRecDepth 100000 in
theorem small4 (w:World):Calls Tryz.prog 187 #[.int .i64 4] w fun ev w'=>ev= .returned (.string ⟨#[52]⟩)/\w=w':=by
 go_enter Tryz.func187,Tryz.ntmps187
 go_wp2
 go_ret
 exact⟨rfl,rfl⟩
set_option maxRecDepth 100000 in
theorem form4 (w:World):Calls Tryz.prog 174 #[.int .i64 4,.int .i64 10] w fun ev w'=>ev= .returned (.string ⟨#[52]⟩)/\w=w':=by
 go_enter Tryz.func174,Tryz.ntmps174
 go_wp2_with (go_at_call 187;refine(small4 _).mono ?_;rintro ev w' ⟨rfl,rfl⟩)
 go_ret
 exact⟨rfl,rfl⟩
set_option maxRecDepth 100000 in
theorem itoaI4 (w:World):Calls Tryz.prog 150 #[.int .i64 4] w fun ev w'=>ev= .returned (.string ⟨#[52]⟩)/\w=w':=by
 go_enter Tryz.func150,Tryz.ntmps150
 go_wp2_with (go_at_call 174;refine(form4 _).mono ?_;rintro ev w' ⟨rfl,rfl⟩)
 go_ret
 exact⟨rfl,rfl⟩
set_option maxRecDepth 100000 in
theorem itoa4 (w:World):Calls Tryz.prog 105 #[.int .i64 4] w fun ev w'=>ev= .returned (.string ⟨#[52]⟩)/\w=w':=by
 go_enter Tryz.func105,Tryz.ntmps105
 go_wp2_with (go_at_call 150;refine(itoaI4 _).mono ?_;rintro ev w' ⟨rfl,rfl⟩)
 go_ret
 exact⟨rfl,rfl⟩
set_option maxRecDepth 100000 in
theorem kname4 (w:World):Calls Tryz.prog 59 #[.int .i64 4] w fun ev w'=>ev= .returned (.string ⟨#[107,52]⟩)/\w=w':=by
 go_enter Tryz.func59,Tryz.ntmps59
 go_wp2_with (go_at_call 105;refine(itoa4 _).mono ?_;rintro ev w' ⟨rfl,rfl⟩)
 go_ret
 exact⟨rfl,rfl⟩
set_option maxRecDepth 100000 in
theorem small8 (w:World):Calls Tryz.prog 187 #[.int .i64 8] w fun ev w'=>ev= .returned (.string ⟨#[56]⟩)/\w=w':=by
 go_enter Tryz.func187,Tryz.ntmps187
 go_wp2
 go_ret
 exact⟨rfl,rfl⟩
set_option maxRecDepth 100000 in
theorem form8 (w:World):Calls Tryz.prog 174 #[.int .i64 8,.int .i64 10] w fun ev w'=>ev= .returned (.string ⟨#[56]⟩)/\w=w':=by
 go_enter Tryz.func174,Tryz.ntmps174
 go_wp2_with (go_at_call 187;refine(small8 _).mono ?_;rintro ev w' ⟨rfl,rfl⟩)
 go_ret
 exact⟨rfl,rfl⟩
set_option maxRecDepth 100000 in
theorem itoaI8 (w:World):Calls Tryz.prog 150 #[.int .i64 8] w fun ev w'=>ev= .returned (.string ⟨#[56]⟩)/\w=w':=by
 go_enter Tryz.func150,Tryz.ntmps150
 go_wp2_with (go_at_call 174;refine(form8 _).mono ?_;rintro ev w' ⟨rfl,rfl⟩)
 go_ret
 exact⟨rfl,rfl⟩
set_option maxRecDepth 100000 in
theorem itoa8 (w:World):Calls Tryz.prog 105 #[.int .i64 8] w fun ev w'=>ev= .returned (.string ⟨#[56]⟩)/\w=w':=by
 go_enter Tryz.func105,Tryz.ntmps105
 go_wp2_with (go_at_call 150;refine(itoaI8 _).mono ?_;rintro ev w' ⟨rfl,rfl⟩)
 go_ret
 exact⟨rfl,rfl⟩
set_option maxRecDepth 100000 in
theorem kname8 (w:World):Calls Tryz.prog 59 #[.int .i64 8] w fun ev w'=>ev= .returned (.string ⟨#[107,56]⟩)/\w=w':=by
 go_enter Tryz.func59,Tryz.ntmps59
 go_wp2_with (go_at_call 105;refine(itoa8 _).mono ?_;rintro ev w' ⟨rfl,rfl⟩)
 go_ret
 exact⟨rfl,rfl⟩
set_option maxRecDepth 100000 in
theorem small16 (w:World):Calls Tryz.prog 187 #[.int .i64 16] w fun ev w'=>ev= .returned (.string ⟨#[49,54]⟩)/\w=w':=by
 go_enter Tryz.func187,Tryz.ntmps187
 go_wp2
 go_ret
 exact⟨rfl,rfl⟩
set_option maxRecDepth 100000 in
theorem form16 (w:World):Calls Tryz.prog 174 #[.int .i64 16,.int .i64 10] w fun ev w'=>ev= .returned (.string ⟨#[49,54]⟩)/\w=w':=by
 go_enter Tryz.func174,Tryz.ntmps174
 go_wp2_with (go_at_call 187;refine(small16 _).mono ?_;rintro ev w' ⟨rfl,rfl⟩)
 go_ret
 exact⟨rfl,rfl⟩
set_option maxRecDepth 100000 in
theorem itoaI16 (w:World):Calls Tryz.prog 150 #[.int .i64 16] w fun ev w'=>ev= .returned (.string ⟨#[49,54]⟩)/\w=w':=by
 go_enter Tryz.func150,Tryz.ntmps150
 go_wp2_with (go_at_call 174;refine(form16 _).mono ?_;rintro ev w' ⟨rfl,rfl⟩)
 go_ret
 exact⟨rfl,rfl⟩
set_option maxRecDepth 100000 in
theorem itoa16 (w:World):Calls Tryz.prog 105 #[.int .i64 16] w fun ev w'=>ev= .returned (.string ⟨#[49,54]⟩)/\w=w':=by
 go_enter Tryz.func105,Tryz.ntmps105
 go_wp2_with (go_at_call 150;refine(itoaI16 _).mono ?_;rintro ev w' ⟨rfl,rfl⟩)
 go_ret
 exact⟨rfl,rfl⟩
set_option maxRecDepth 100000 in
theorem kname16 (w:World):Calls Tryz.prog 59 #[.int .i64 16] w fun ev w'=>ev= .returned (.string ⟨#[107,49,54]⟩)/\w=w':=by
 go_enter Tryz.func59,Tryz.ntmps59
 go_wp2_with (go_at_call 105;refine(itoa16 _).mono ?_;rintro ev w' ⟨rfl,rfl⟩)
 go_ret
 exact⟨rfl,rfl⟩
set_option maxRecDepth 100000 in
theorem small32 (w:World):Calls Tryz.prog 187 #[.int .i64 32] w fun ev w'=>ev= .returned (.string ⟨#[51,50]⟩)/\w=w':=by
 go_enter Tryz.func187,Tryz.ntmps187
 go_wp2
 go_ret
 exact⟨rfl,rfl⟩
set_option maxRecDepth 100000 in
theorem form32 (w:World):Calls Tryz.prog 174 #[.int .i64 32,.int .i64 10] w fun ev w'=>ev= .returned (.string ⟨#[51,50]⟩)/\w=w':=by
 go_enter Tryz.func174,Tryz.ntmps174
 go_wp2_with (go_at_call 187;refine(small32 _).mono ?_;rintro ev w' ⟨rfl,rfl⟩)
 go_ret
 exact⟨rfl,rfl⟩
set_option maxRecDepth 100000 in
theorem itoaI32 (w:World):Calls Tryz.prog 150 #[.int .i64 32] w fun ev w'=>ev= .returned (.string ⟨#[51,50]⟩)/\w=w':=by
 go_enter Tryz.func150,Tryz.ntmps150
 go_wp2_with (go_at_call 174;refine(form32 _).mono ?_;rintro ev w' ⟨rfl,rfl⟩)
 go_ret
 exact⟨rfl,rfl⟩
set_option maxRecDepth 100000 in
theorem itoa32 (w:World):Calls Tryz.prog 105 #[.int .i64 32] w fun ev w'=>ev= .returned (.string ⟨#[51,50]⟩)/\w=w':=by
 go_enter Tryz.func105,Tryz.ntmps105
 go_wp2_with (go_at_call 150;refine(itoaI32 _).mono ?_;rintro ev w' ⟨rfl,rfl⟩)
 go_ret
 exact⟨rfl,rfl⟩
set_option maxRecDepth 100000 in
theorem kname32 (w:World):Calls Tryz.prog 59 #[.int .i64 32] w fun ev w'=>ev= .returned (.string ⟨#[107,51,50]⟩)/\w=w':=by
 go_enter Tryz.func59,Tryz.ntmps59
 go_wp2_with (go_at_call 105;refine(itoa32 _).mono ?_;rintro ev w' ⟨rfl,rfl⟩)
 go_ret
 exact⟨rfl,rfl⟩
end
section
open Go.RowKit
theorem Za (k:Nat):List.replicate k (Value.int .i64 0)=(List.replicate k (0:Int)).map vI:=by
 rw[List.map_replicate];rfl
set_option maxRecDepth 100000 in
theorem TK (w:World):Calls Tryz.prog 58 #[.int .i64 256] w fun ev w'=>∃(a':Option Addr) (c':Nat),ev= .returned (.tuple #[.slice a' 4096 c',.int .i64 0])/\w'.ownsRow w.heap.size 3 1 (.slice a' 4096 c') 4096 ((List.replicate 4096 (0:Int)).map vI)/\Below w.heap.size w w':=by
 obtain⟨i0,hi,hz,hsize,hby⟩:=info_parts oN;go_enter Tryz.func58,Tryz.ntmps58
 go_wp2_with (at_make;refine wpList_make_full _ rfl _ _ 39 rfl w.heap.size 3 i0 (.int .i64 0) 1 Tryz.underlying39 hi hz hsize .i64 .i64 _ _ 4096 rfl rfl rfl rfl ?q1 ?q2 ?q3 ?_)
 case q1=>rw[hby];decide
 case q2=>unfold maxLen;omega
 case q3=>exact Nat.le_refl _
 intro w1 hown hgrow;rw[toList_madeCells_one,Za]at hown;have HO:=gO hown;have hbw:=(Below.refl w.heap.size w).grown hgrow (Nat.le_refl _) (by simp);have HB:=gO hbw;clear hown hbw hgrow;go_wp2
 exact bodyPost_ret (v:= .tuple #[.slice (some ⟨w.heap.size,0,none⟩) 4096 4096,.int .i64 0]) (by simp[results,Tryz.results58,go_sem]) rfl ⟨_,_,rfl,HO.out,HB.out⟩
structure Bl (w:World):Prop where
 sz:0<w.heap.size
 c:∀i v,(#[.int .i64 1,.int .i64 2,.int .i64 4,.int .i64 8,.int .i64 16,.int .i64 32]:Array Value)[i]? =some v->w.cell? ⟨0,i,none⟩=some v
theorem Bl.below {w w':World}(h:Bl w)(hb:Below w.heap.size w w'):Bl w':=
 ⟨gI h.sz hb.size,fun i v hv=>(hb.cell (p:=⟨0,i,none⟩) h.sz).trans (h.c i v hv)⟩
theorem PG {j:Nat}(hj:j<6)(w:World):Calls Tryz.prog 59 #[.int .i64 (([1,2,4,8,16,32].getD j 0:Nat):Int)] w fun ev w'=>ev= .returned (.string ⟨(kN ([1,2,4,8,16,32].getD j 0)).toArray⟩)/\w=w':=by
 obtain rfl | rfl | rfl | rfl | rfl | rfl:j=0∨j=1∨j=2∨j=3∨j=4∨j=5:=by omega
 ·exact kname1 w
 ·exact kname2 w
 ·exact kname4 w
 ·exact kname8 w
 ·exact kname16 w
 ·exact kname32 w
theorem Gp {h:Hp}(hk:dZ h):∀j,j<=6->bK (dB h j)
 | 0,_=>JK hk
 | j+1,hj=>by
  obtain⟨h1,h2,h3⟩:=wU h (j:=j) (by omega);have hz:1<=[1,2,4,8,16,32].getD j 0/\[1,2,4,8,16,32].getD j 0<=64:=by
   obtain rfl | rfl | rfl | rfl | rfl | rfl:j=0∨j=1∨j=2∨j=3∨j=4∨j=5:=by omega
   all_goals decide
  exact((Gp hk j (by omega)).create h3 hz h1 h2).1
theorem MI (h:Hp)(j:Nat):∀c∈(dB h j).cs,c.ns.length<=999:=fun c hc=>by
 unfold dB at hc;obtain⟨k,_,rfl⟩:=List.mem_map.1 hc;show[kN k].length<=999;simp
theorem Xb {j:Nat}(hj:j<6)(w:World):(Instr.index 117 (.agg #[.int .i64 1,.int .i64 2,.int .i64 4,.int .i64 8,.int .i64 16,.int .i64 32]) (.int .i64 (j:Int))).run Tryz.prog w= .ok (.int .i64 (([1,2,4,8,16,32].getD j 0:Nat):Int)) w:=by
 obtain rfl | rfl | rfl | rfl | rfl | rfl:j=0∨j=1∨j=2∨j=3∨j=4∨j=5:=by omega
 all_goals kernel_rfl
def MJ (h:Hp)(w:World)(ev:Ending)(w':World):Prop:=∃v',ev= .returned (.tuple #[.agg (v'.vals (dB h 6)),.int .i64 0])/\fQ w' w.heap.size (dB h 6) v'/\Below w.heap.size w w'
set_option maxHeartbeats 8000000 in
set_option maxRecDepth 100000 in
theorem QS (m1 m2:Option Addr)(n1 n2 d1 d2:Nat)(b:Bt)(split least aC:Nat)(w:World)(hbt:DW w m1 m2 n1 n2 b)(hm:dF b.m=true)(hrr:dF b.r=true)(hfr:dF (iC b)=true)(h1:split<=256)(h2:split%16=0)(h3:least<=256)(h4:1<=aC/\aC<=4)(hsz:Bl w):
 Calls Tryz.prog 27 #[.agg #[.slice m1 n1 d1,.slice m2 n2 d2,.int .i64 (split:Int),.int .i64 (least:Int),.int .i64 (aC:Int)]] w (MJ (newH (iC b) split least aC) w):=by
 obtain⟨K1,K2,F1,F2,hsb,hbw⟩:=boxes2 w #[.slice m1 n1 d1,.slice m2 n2 d2,.int .i64 (split:Int),.int .i64 (least:Int),.int .i64 (aC:Int)] 29 #[.slice none 0 0,.slice none 0 0,.slice none 0 0,.int .i64 0,.slice none 0 0,.slice none 0 0,.slice none 0 0] 47;have ZV:=gO (hbt.below hbw);have jT:=gO hsz;have HB1:=gO hbw;have wX:=gO hfr;have HM:=gO hm;have HRR:=gO hrr;have HH4:=gO h4;obtain⟨hk0,hc0⟩:=IW hfr h1 h2 h3 h4;have HK0:=gO hk0;have HK1:=gO K1;have HK2:=gO K2;have HF2:=gO F2;have hsb0:w.heap.size<((w.alloc (.cells #[.slice m1 n1 d1,.slice m2 n2 d2,.int .i64 (split:Int),.int .i64 (least:Int),.int .i64 (aC:Int)] 29)).alloc (.cells #[.slice none 0 0,.slice none 0 0,.slice none 0 0,.int .i64 0,.slice none 0 0,.slice none 0 0,.slice none 0 0] 47)).heap.size:=by omega
 have k0:=K1 0;have k1:=K1 1;simp only[gB,gC,gD]at k0 k1;clear hbt hsz hbw hfr hm hrr h4 hk0 hc0 K1 K2 F1 F2;go_enter Tryz.func27,Tryz.ntmps27
 go_upto_region 1 with fail
 generalize (w.alloc _).alloc _=w2 at*;go_upto_region 4 with (go_at_call 56;refine(TI m1 m2 n1 n2 d1 d2 b w2 ZV.out HM.out HRR.out).mono ?_;rintro ev w3 ⟨aR,cR,rfl,hoR,hb3⟩)
 have KP:=gO (aY hoR);have HB3:=gO hb3;have K13:=aB HK1.out hsb0 hb3;have k2:=K13 2;have k3:=K13 3;have k4:=K13 4;simp only[gB,gC,gD]at k2 k3 k4;clear k0 k1 K13 hoR hb3;go_upto_region 7 with (go_at_call 57;refine(YV aR (iC b).length cR (iC b) split least aC w3 rfl KP.out wX.out h1 h2 h3 HH4.out).mono ?_;rintro ev w4 ⟨c',he,hn4,hb4⟩;unfold Hc.vals at he;subst he)
 have HN4:=gO hn4;have HB4:=gO (Below.step HB3.out hb4);clear k2 k3 k4 hn4 hb4;have bA:=aF w4 (.cells #[.slice c'.az 2 c'.cz,.slice c'.am 2 c'.cm,.int .i64 ((newH (iC b) split least aC).aC:Int),.slice c'.al c'.lc.length c'.cl,.slice c'.av (newH (iC b) split least aC).live.length c'.cv] 44);have K6:=aW w4 #[.slice c'.az 2 c'.cz,.slice c'.am 2 c'.cm,.int .i64 ((newH (iC b) split least aC).aC:Int),.slice c'.al c'.lc.length c'.cl,.slice c'.av (newH (iC b) split least aC).live.length c'.cv] 44;have s46:w4.heap.size<(w4.alloc (.cells #[.slice c'.az 2 c'.cz,.slice c'.am 2 c'.cm,.int .i64 ((newH (iC b) split least aC).aC:Int),.slice c'.al c'.lc.length c'.cl,.slice c'.av (newH (iC b) split least aC).live.length c'.cv] 44)).heap.size:=by simp
 have HKH:=gO K6;have HB5:=gO (Below.step HB4.out bA);have HN5:=gO (HR.below HN4.out bA);have aHg:=HB3.out.size;clear K6 bA;generalize hh:newH (iC b) split least aC=h at*;clear hh;go_upto_region 8 with (go_at_call 58;refine(TK _).mono ?_;rintro ev w6 ⟨aw,cw,rfl,how,hb6⟩)
 have K66:=aB HKH.out s46 hb6;obtain⟨k0,k1,k2,k3,k4⟩:=gA5 K66;clear K66;go_upto_region 9 with fail
 have b7:=aF w6 (.cells #[.slice aw 4096 cw,.slice c'.az 2 c'.cz,.slice c'.am 2 c'.cm,.int .i64 (h.aC:Int),.slice c'.al c'.lc.length c'.cl,.slice c'.av h.live.length c'.cv,.slice none 0 0] 47);have aHh:=hb6.size;have hs2:=HB1.out.size;have aHi:=HB3.out.size;have aHj:=HB5.out.size;have s67:w6.heap.size<(w6.alloc (.cells #[.slice aw 4096 cw,.slice c'.az 2 c'.cz,.slice c'.am 2 c'.cm,.int .i64 (h.aC:Int),.slice c'.al c'.lc.length c'.cl,.slice c'.av h.live.length c'.cv,.slice none 0 0] 47)).heap.size:=by simp
 have hblk:∀q∈c'.rows h++c'.reads h,∀k,q.v.ownBlock=some k->w3.heap.size<=k/\k<(w4.alloc (.cells #[.slice c'.az 2 c'.cz,.slice c'.am 2 c'.cm,.int .i64 (h.aC:Int),.slice c'.al c'.lc.length c'.cl,.slice c'.av h.live.length c'.cv] 44)).heap.size:=fun q hq k e=>by
  refine⟨?_,HR.lt HN5.out q hq k e⟩;rcases List.mem_append.1 hq with hq | hq
  ·exact Nat.le_of_not_lt (HN5.out.og q hq k e).2
  ·exact Nat.le_of_not_lt (HN5.out.rx q hq k e)
 have hstart:SR (w6.alloc (.cells #[.slice aw 4096 cw,.slice c'.az 2 c'.cz,.slice c'.am 2 c'.cm,.int .i64 (h.aC:Int),.slice c'.al c'.lc.length c'.cl,.slice c'.av h.live.length c'.cv,.slice none 0 0] 47)) w6.heap.size (fun k=>k<w.heap.size+2) ⟨List.replicate 4096 0,h,[]⟩ ⟨aw,4096,cw,c',none,0,[]⟩:=
  SR.start (own_base (own_below how b7 (Nat.le_refl _)) (Nat.zero_le _)) ((HR.below (HR.below HN5.out hb6) b7).any s67 (fun q hq k e=>by
   have:=hblk q hq k e;omega) (fun k hk=>by omega) (by omega)) fun g e=>by
   have h9:=how.lt g e;refine⟨by omega,by omega,fun q hq e2=> ?_⟩;have:=hblk q hq g e2;omega
 have HS7:Hid (SS (w6.alloc (.cells #[.slice aw 4096 cw,.slice c'.az 2 c'.cz,.slice c'.am 2 c'.cm,.int .i64 (h.aC:Int),.slice c'.al c'.lc.length c'.cl,.slice c'.av h.live.length c'.cv,.slice none 0 0] 47)) w6.heap.size (fun k=>k<w.heap.size+2) (dB h 0) ⟨aw,4096,cw,c',none,0,[]⟩):=⟨hstart,aW _ _ _,eY _ _ _⟩
 have b27:Below w2.heap.size w2 (w6.alloc (.cells #[.slice aw 4096 cw,.slice c'.az 2 c'.cz,.slice c'.am 2 c'.cm,.int .i64 (h.aC:Int),.slice c'.al c'.lc.length c'.cl,.slice c'.av h.live.length c'.cv,.slice none 0 0] 47)):=Below.step HB5.out (Below.step hb6 b7);have HR7:=gO (aB HK2.out hsb b27);have HU7:=gO (aH HF2.out hsb b27);have HB7:=gO (HB1.out.trans (b27.mono hs2));have hZ7:=jT.out.below HB7.out;have z0:=hZ7.c 0 _ rfl;have z1:=hZ7.c 1 _ rfl;have z2:=hZ7.c 2 _ rfl;have z3:=hZ7.c 3 _ rfl;have z4:=hZ7.c 4 _ rfl;have z5:=hZ7.c 5 _ rfl;have aLb:w.heap.size+1<w6.heap.size:=by omega
 clear b7 b27 hstart hblk how hb6 k0 k1 k2 k3 k4 HKH HN5 HN4 HB4 HB5 HB3 KP ZV hZ7 HK1 HK2 HF2 HB1 s46 aHg aHh aHi aHj hsb0;generalize (w6.alloc _)=w7 at*;generalize w6.heap.size=B9 at*;go_wp2_with fail
 clear z0 z1 z2 z3 z4 z5;go_loopw [45] (fun s45 wr=>∃(j:Nat) (v':Sc),j<=6/\s45= .int .i64 (j:Int)/\Hid (SS wr B9 (fun k=>k<w.heap.size+2) (dB h j) v')/\Hid (∀o,wr.cell? ⟨w.heap.size+1,o,none⟩=(#[.slice none 0 0,.slice none 0 0,.slice none 0 0,.int .i64 0,.slice none 0 0,.slice none 0 0,.slice none 0 0]:Array Value)[o]?)/\Hid (∀o,wr.frozen? ⟨w.heap.size+1,o,none⟩=false)/\Hid (Below w.heap.size w wr)) (fun s45 _=>6-(intOf s45).toNat)
 case atStart=>exact⟨0,_,Nat.zero_le _,rfl,HS7,HR7,HU7,HB7⟩
 case round=>
  obtain⟨j,v',hj,rfl,wL,HRj,YR,uD⟩:=hrel;clear HS7 HR7 HU7 HB7;by_cases hlt:j<6
  ·have hji:(j:Int)<6:=by omega
   obtain⟨z,hz⟩:∃z,[1,2,4,8,16,32].getD j 0=z:=⟨_,rfl⟩
   have HZ:=gO hz;clear hz;have hidx:=Xb hlt wr;rw[HZ.out]at hidx;go_upto_region 12 with fail
   obtain⟨hno,hcr,hnm⟩:=wU h hlt;rw[HZ.out]at hno hcr hnm;have aHk:1<=z/\z<=64:=by
    rw[<- HZ.out];obtain rfl | rfl | rfl | rfl | rfl | rfl:j=0∨j=1∨j=2∨j=3∨j=4∨j=5:=by omega
    all_goals decide
   have hd:=(Below.refl wr.heap.size wr).drew;have Zb:=gO (wL.out.below hd);have HRd:=gO (aB HRj.out (show w.heap.size+1<wr.heap.size by have:=wL.out.r.hr.xs (w.heap.size+1) (by show w.heap.size+1<w.heap.size+2;omega);exact this) hd);have HUd:=gO (aH YR.out (show w.heap.size+1<wr.heap.size by have:=wL.out.r.hr.xs (w.heap.size+1) (by show w.heap.size+1<w.heap.size+2;omega);exact this) hd);have HBd:=gO (uD.out.trans (hd.mono (show w.heap.size<=wr.heap.size from uD.out.size)));have hwd:w.heap.size<=wr.drew.heap.size:=HBd.out.size;have ND:Hid (∀W,Calls Tryz.prog 59 #[.int .i64 (z:Int)] W fun ev w'=>ev= .returned (.string ⟨(kN z).toArray⟩)/\W=w'):=fun W=>by
    have h9:=PG hlt W;rw[HZ.out]at h9;exact h9
   have HCR:Hid (Calls Tryz.prog 31 #[.agg #[.slice v'.a1 v'.n1 v'.c1,.slice v'.hc.az 2 v'.hc.cz,.slice v'.hc.am 2 v'.hc.cm,.int .i64 (h.aC:Int),.slice v'.hc.al v'.hc.lc.length v'.hc.cl,.slice v'.hc.av h.live.length v'.hc.cv,.slice v'.a2 v'.ys.length v'.c2],.string ⟨(kN z).toArray⟩,.int .i64 z,.int .i64 1] wr.drew fun ev w'=>∃v'',ev= .returned (.tuple #[.agg #[.slice v''.a1 v''.n1 v''.c1,.slice v''.hc.az 2 v''.hc.cz,.slice v''.hc.am 2 v''.hc.cm,.int .i64 (h.aC:Int),.slice v''.hc.al v''.hc.lc.length v''.hc.cl,.slice v''.hc.av h.live.length v''.hc.cv,.slice v''.a2 v''.ys.length v''.c2],.int .i64 0])/\fQ w' wr.drew.heap.size (dB h (j+1)) v''/\Below wr.drew.heap.size wr.drew w'):=
    Po v' (dB h j) (dB h (j+1)) (kN z) z wr.drew Zb.out.r.at (Gp HK0.out j (by omega)) (MI h j) hnm aHk hno hcr
   have k0:=wL.out.k 0;have k1:=wL.out.k 1;have k2:=wL.out.k 2;have k3:=wL.out.k 3;have k4:=wL.out.k 4;have k5:=wL.out.k 5;have k6:=wL.out.k 6;unfold Sc.vals dB at k0 k1 k2 k3 k4 k5 k6;simp only[gB,gC,gD]at k0 k1 k2 k3 k4 k5 k6;have aBL:B9<wr.drew.heap.size:=Zb.out.r.hr.gs;have Xc:=Zb.out.r.hr.xg;have hB9:w.heap.size<=B9:=Nat.le_of_not_lt fun h9=>Xc (by show B9<w.heap.size+2;omega)
   have htd:w.heap.size+1<wr.drew.heap.size:=Zb.out.r.hr.xs (w.heap.size+1) (by show w.heap.size+1<w.heap.size+2;omega);have PI:w.heap.size+1≠B9:=fun e=>Xc (by show B9<w.heap.size+2;omega)
   have KD:=gO Zb.out.k;have FD:=gO Zb.out.fz;clear hd hno hcr hnm hidx Xc wL HRj YR uD;go_region_law (first | (go_simp;go_at_call 59;refine(ND.out _).mono ?_;rintro ev wn ⟨rfl,rfl⟩) | (go_simp;go_at_call 31;refine HCR.out.mono ?_;rintro ev w5 ⟨v'',rfl,hnew,hb5⟩;have K5:=aB KD.out aBL hb5;have F5:=aH FD.out aBL hb5;have y0:=K5 0;have y1:=K5 1;have y2:=K5 2;have y3:=K5 3;have y4:=K5 4;have y5:=K5 5;have y6:=K5 6;have f0:=F5 0;have f1:=F5 1;have f2:=F5 2;have f3:=F5 3;have f4:=F5 4;have f5:=F5 5;have f6:=F5 6;unfold Sc.vals dB at y0 y1 y2 y3 y4 y5 y6;simp only[gB,gC,gD]at y0 y1 y2 y3 y4 y5 y6;have HK5:=gO K5;have HF5:=gO F5;clear K5 F5))
   all_goals
    have nS:SR w5 B9 (fun k=>k<w.heap.size+2) (dB h (j+1)) v'':=SR.lift hnew aBL (fun k hk=>Zb.out.r.hr.xs k hk) Zb.out.r.hr.xg;have hfin:=SS.put7 nS (a0:= .slice v'.a1 v'.n1 v'.c1) (a1:= .slice v'.hc.az 2 v'.hc.cz) (a2:= .slice v'.hc.am 2 v'.hc.cm) (a3:= .int .i64 (h.aC:Int)) (a4:= .slice v'.hc.al v'.hc.lc.length v'.hc.cl) (a5:= .slice v'.hc.av h.live.length v'.hc.cv) (a6:= .slice v'.a2 v'.ys.length v'.c2) HK5.out HF5.out;have HS6:=gO hfin;have R0:=aB HRd.out htd hb5;have U0:=aH HUd.out htd hb5;have R1:=aA R0 PI 0 (.slice v''.a1 v''.n1 v''.c1);have U1:=aG U0 ⟨B9,0,none⟩ (.slice v''.a1 v''.n1 v''.c1);have R2:=aA R1 PI 1 (.slice v''.hc.az 2 v''.hc.cz);have U2:=aG U1 ⟨B9,1,none⟩ (.slice v''.hc.az 2 v''.hc.cz);have R3:=aA R2 PI 2 (.slice v''.hc.am 2 v''.hc.cm);have U3:=aG U2 ⟨B9,2,none⟩ (.slice v''.hc.am 2 v''.hc.cm);have R4:=aA R3 PI 3 (.int .i64 (h.aC:Int));have U4:=aG U3 ⟨B9,3,none⟩ (.int .i64 (h.aC:Int));have R5:=aA R4 PI 4 (.slice v''.hc.al v''.hc.lc.length v''.hc.cl);have U5:=aG U4 ⟨B9,4,none⟩ (.slice v''.hc.al v''.hc.lc.length v''.hc.cl);have R6:=aA R5 PI 5 (.slice v''.hc.av h.live.length v''.hc.cv);have U6:=aG U5 ⟨B9,5,none⟩ (.slice v''.hc.av h.live.length v''.hc.cv);have R7:=aA R6 PI 6 (.slice v''.a2 v''.ys.length v''.c2);have U7:=aG U6 ⟨B9,6,none⟩ (.slice v''.a2 v''.ys.length v''.c2);have HR6:=gO R7;have HU6:=gO U7;have HB6:=gO (Below.setCell (Below.setCell (Below.setCell (Below.setCell (Below.setCell (Below.setCell (Below.setCell (HBd.out.trans (hb5.mono hwd)) (show w.heap.size<=(⟨B9,0,none⟩:Addr).block from hB9) (.slice v''.a1 v''.n1 v''.c1)) (show w.heap.size<=(⟨B9,1,none⟩:Addr).block from hB9) (.slice v''.hc.az 2 v''.hc.cz)) (show w.heap.size<=(⟨B9,2,none⟩:Addr).block from hB9) (.slice v''.hc.am 2 v''.hc.cm)) (show w.heap.size<=(⟨B9,3,none⟩:Addr).block from hB9) (.int .i64 (h.aC:Int))) (show w.heap.size<=(⟨B9,4,none⟩:Addr).block from hB9) (.slice v''.hc.al v''.hc.lc.length v''.hc.cl)) (show w.heap.size<=(⟨B9,5,none⟩:Addr).block from hB9) (.slice v''.hc.av h.live.length v''.hc.cv)) (show w.heap.size<=(⟨B9,6,none⟩:Addr).block from hB9) (.slice v''.a2 v''.ys.length v''.c2));clear nS hfin y0 y1 y2 y3 y4 y5 y6 f0 f1 f2 f3 f4 f5 f6 HK5 HF5 R0 R1 R2 R3 R4 R5 R6 R7 U0 U1 U2 U3 U4 U5 U6 U7 hnew hb5 k0 k1 k2 k3 k4 k5 k6 Zb HRd HUd HBd KD FD HCR ND;go_wp2
    go_roundw
    case rel=>exact⟨j+1,v'',by omega,by go_num,HS6,HR6,HU6,HB6⟩
    case measure=>simp[intOf];omega
  ·obtain rfl:j=6:=by omega
   have x0:=wL.out.k 0;have x1:=wL.out.k 1;have x2:=wL.out.k 2;have x3:=wL.out.k 3;have x4:=wL.out.k 4;have x5:=wL.out.k 5;have x6:=wL.out.k 6;have y0:=HRj.out 0;have y1:=HRj.out 1;have y2:=HRj.out 2;have y3:=HRj.out 3;have y4:=HRj.out 4;have y5:=HRj.out 5;have y6:=HRj.out 6;obtain⟨f0,f1,f2,f3,f4,f5,f6⟩:=gF7 YR.out;unfold Sc.vals dB at x0 x1 x2 x3 x4 x5 x6;simp only[gB,gC,gD]at x0 x1 x2 x3 x4 x5 x6 y0 y1 y2 y3 y4 y5 y6;have hle2:w.heap.size<=w.heap.size+1:=by omega
   have KX:=(aI (aI (aI (aI (aI (aI (aI HRj.out 0 (.slice v'.a1 v'.n1 v'.c1)) 1 (.slice v'.hc.az 2 v'.hc.cz)) 2 (.slice v'.hc.am 2 v'.hc.cm)) 3 (.int .i64 (h.aC:Int))) 4 (.slice v'.hc.al v'.hc.lc.length v'.hc.cl)) 5 (.slice v'.hc.av h.live.length v'.hc.cv)) 6 (.slice v'.a2 v'.ys.length v'.c2))
   simp only[gE,gG,gH]at KX;have hX8:(fun k=>k<w.heap.size+2) (w.heap.size+1):=by show w.heap.size+1<w.heap.size+2;omega
   have A0:=wL.out;have A1:=A0.dY hX8 0 (.slice v'.a1 v'.n1 v'.c1);have A2:=A1.dY hX8 1 (.slice v'.hc.az 2 v'.hc.cz);have A3:=A2.dY hX8 2 (.slice v'.hc.am 2 v'.hc.cm);have A4:=A3.dY hX8 3 (.int .i64 (h.aC:Int));have A5:=A4.dY hX8 4 (.slice v'.hc.al v'.hc.lc.length v'.hc.cl);have A6:=A5.dY hX8 5 (.slice v'.hc.av h.live.length v'.hc.cv);have A7:=A6.dY hX8 6 (.slice v'.a2 v'.ys.length v'.c2);have Xc:=wL.out.r.hr.xg;have nP:=gO A7;have jF:=gO (Below.setCell (Below.setCell (Below.setCell (Below.setCell (Below.setCell (Below.setCell (Below.setCell uD.out (show w.heap.size<=(⟨w.heap.size+1,0,none⟩:Addr).block from hle2) (.slice v'.a1 v'.n1 v'.c1)) (show w.heap.size<=(⟨w.heap.size+1,1,none⟩:Addr).block from hle2) (.slice v'.hc.az 2 v'.hc.cz)) (show w.heap.size<=(⟨w.heap.size+1,2,none⟩:Addr).block from hle2) (.slice v'.hc.am 2 v'.hc.cm)) (show w.heap.size<=(⟨w.heap.size+1,3,none⟩:Addr).block from hle2) (.int .i64 (h.aC:Int))) (show w.heap.size<=(⟨w.heap.size+1,4,none⟩:Addr).block from hle2) (.slice v'.hc.al v'.hc.lc.length v'.hc.cl)) (show w.heap.size<=(⟨w.heap.size+1,5,none⟩:Addr).block from hle2) (.slice v'.hc.av h.live.length v'.hc.cv)) (show w.heap.size<=(⟨w.heap.size+1,6,none⟩:Addr).block from hle2) (.slice v'.a2 v'.ys.length v'.c2));have hwX:w.heap.size<wr.heap.size:=Nat.lt_of_succ_lt (wL.out.r.hr.xs (w.heap.size+1) (by show w.heap.size+1<w.heap.size+2;omega));clear A0 A1 A2 A3 A4 A5 A6 A7 hX8 Xc wL HRj YR uD;go_wp2_with fail
   generalize ((((((wr.setCell _ _).setCell _ _).setCell _ _).setCell _ _).setCell _ _).setCell _ _).setCell _ _=wx at*;refine bodyPost_ret (v:= .tuple #[.agg (v'.vals (dB h 6)),.int .i64 0]) (by unfold Sc.vals dB;simp[results,Tryz.results27,go_sem,KX]) rfl ⟨v',rfl,nP.out.r.toX (by show w.heap.size<w.heap.size+2;omega) (fun k hk=>by show k<w.heap.size+2;omega) (Nat.lt_irrefl _),jF.out⟩
end
end Go.Proofs.YtcmpmobhongkiaaGreatDoor
