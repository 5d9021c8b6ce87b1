/- joined. -/
import Derived.Test.YtcmpmobhongkiaaGreatDoorRK0
import Derived.Test.YtcmpmobhongkiaaGreatDoorRK18
import Derived.Test.YtcmpmobhongkiaaGreatDoorRK24
set_option linter.unusedVariables false
set_option linter.unusedSimpArgs false
namespace Go.Proofs.YtcmpmobhongkiaaGreatDoor
section
open Go.RowKit
set_option maxHeartbeats 8000000 in
set_option maxRecDepth 100000 in
theorem YV (a:Option Addr)(n cap:Nat)(l:List Rg)(split least aC:Nat)(w:World)(hn:l.length=n)(hr:Row w a (flat gZ l))(hl:dF l=true)(h1:split<=256)(h2:split%16=0)(h3:least<=256)(h4:1<=aC/\aC<=4):
 Calls Tryz.prog 57 #[.slice a n cap,.int .i64 split,.int .i64 least,.int .i64 aC] w fun ev w'=>∃c':Hc,ev= .returned (.tuple #[.agg (c'.vals (newH l split least aC)),.int .i64 0])/\kU w' w.heap.size (newH l split least aC) c'/\Below w.heap.size w w':=by
 obtain⟨K8,F8,hsz,hbw⟩:=boxes1 w #[.slice none 0 0,.slice none 0 0,.int .i64 0,.slice none 0 0,.slice none 0 0] 44;have aK5:=xI hl;have HL:=gO hl;have HR:=gO (hr.below hbw);have HRW:=gO hr;have HB1:=gO hbw;clear hr hbw;go_enter Tryz.func57,Tryz.ntmps57
 go_upto_region 1 with fail
 generalize w.alloc _=w1 at*;go_wp2_with fail
 refine(yR a none n 0 cap 0 l [] w1 hn rfl (by omega) (by omega) HR.out (Row.nil _ _) (sQ HL.out) (by simp) HL.out (by decide)).mono ?_;rintro ev w2 ⟨rfl,hb2⟩;have K8a:=aB K8 hsz hb2;have F8a:=aH F8 hsz hb2;have HR2:=gO (HR.out.below hb2);have HB2:=gO (Below.step HB1.out hb2);have hsz2:w.heap.size<w2.heap.size:=gI hsz hb2.size;clear K8 F8 HR HB1 hb2 hsz;go_wp2_with fail
 refine(Ol 0 split (split/8) w2 (Nat.zero_le _) h1 rfl h2 (by omega)).mono ?_;rintro ev w3 ⟨a2,c2,rfl,hz3,hb3⟩;have hX3:∀k,(k=w.heap.size∨k=w3.heap.size)->(k<w2.heap.size∨w3.heap.size<=k)/\k<=w3.heap.size:=fun k hk=>by have:=hb3.size;omega
 have HZ:=gO (MF (Z:=w.heap.size) hz3 (gR hsz2) hX3);unfold QN at HZ;have K8b:=aB K8a hsz2 hb3;have F8b:=aH F8a hsz2 hb3;have HR3:=gO (HR2.out.below hb3);have HB3:=gO (Below.step HB2.out hb3);have hsz3:w.heap.size<w3.heap.size:=gI hsz2 hb3.size;clear hX3;go_upto_region 4 with fail
 have hb4:=aF w3 (.cells #[.int .i64 (0:Nat),.int .i64 (split:Int),.slice none 0 0,.slice a2 (split/8) c2] 102);have K8c:=aB K8b hsz3 hb4;have F8c:=aH F8b hsz3 hb4;have HR4:=gO (HR3.out.below hb4);have HB4:=gO (Below.step HB3.out hb4);have oV:w.heap.size<(w3.alloc (.cells #[.int .i64 (0:Nat),.int .i64 (split:Int),.slice none 0 0,.slice a2 (split/8) c2] 102)).heap.size:=gI hsz3 hb4.size;have hwB:w.heap.size<w3.heap.size:=hsz3;obtain⟨B10,aBI⟩:∃B,w3.heap.size=B:=⟨_,rfl⟩
 rw[aBI]at HZ hwB ⊢;clear HR3 HB3 HR2 HB2 K8a F8a K8b F8b hsz2 hsz3 hb4 hz3 hb3;change Hid (oC (w3.alloc (.cells #[.int .i64 (0:Nat),.int .i64 (split:Int),.slice none 0 0,.slice a2 (split/8) c2] 102)) _ _ _ _ _ _ _ _ _ _)at HZ;rw[show(Value.int .i64 0)= .int .i64 ((0:Nat):Int)from rfl];generalize w3.alloc _=w4 at*;go_wp2_with fail
 refine(Ol split 256 ((256-split)/8) w4 h1 (Nat.le_refl _) h2 rfl rfl).mono ?_;rintro ev w5 ⟨a3,c3,rfl,hz5,hb5⟩;have hX5:∀k,(k=w.heap.size∨k=B10∨k=w5.heap.size)->(k<w4.heap.size∨w5.heap.size<=k)/\k<=w5.heap.size:=fun k hk=>by have:=hb5.size;have:=HZ.out.lt;omega
 have HY:=gO (MF (Z:=w.heap.size) hz5 (gR oV) hX5);unfold QN at HY;have hb6:=aF w5 (.cells #[.int .i64 (split:Int),.int .i64 (256:Nat),.slice none 0 0,.slice a3 ((256-split)/8) c3] 102);have PE:=Below.step hb5 hb6;have K8d:=aB K8c oV PE;have F8d:=aH F8c oV PE;have HR6:=gO (HR4.out.below PE);have HB6:=gO (Below.step HB4.out PE);have HZ6:=gO (HZ.out.new (Y:=fun k=>k=w.heap.size∨k=B10∨k=w5.heap.size) PE (fun k hk=>by have:=hb5.size;have:=hb6.size;simp at this;rcases hk with h | h | h;exact .inl (.inl h);exact .inl (.inr h);exact .inr (by simp;omega)));have SH:w.heap.size<(w5.alloc (.cells #[.int .i64 (split:Int),.int .i64 (256:Nat),.slice none 0 0,.slice a3 ((256-split)/8) c3] 102)).heap.size:=gI oV PE.size;have aAi:B10<w5.heap.size:=gI HZ.out.lt hb5.size;have hx1:decide ((least:Int)<0)=false:=decide_eq_false (by omega);have hx2:decide ((256:Int)<least)=false:=decide_eq_false (by omega);have hx3:decide ((aC:Int)<1)=false:=decide_eq_false (by omega);have hx4:decide ((4:Int)<aC)=false:=decide_eq_false (by omega);have hx5:decide (256<least)=false:=decide_eq_false (by omega);have hx6:decide (aC<1)=false:=decide_eq_false (by omega);have hx7:decide (4<aC)=false:=decide_eq_false (by omega);go_upto_region 5 with fail
 obtain⟨B12,aBJ⟩:∃B,w5.heap.size=B:=⟨_,rfl⟩
 rw[aBJ]at HY HZ6 aAi ⊢;clear HZ HR4 HB4 K8c F8c oV hb6 hz5 hb5 hX5 PE;change Hid (oC (w5.alloc (.cells #[.int .i64 (split:Int),.int .i64 (256:Nat),.slice none 0 0,.slice a3 ((256-split)/8) c3] 102)) _ _ _ _ _ _ _ _ _ _)at HY;rw[show(Value.int .i64 256)= .int .i64 ((256:Nat):Int)from rfl];generalize w5.alloc _=w6 at*;go_upto_region 7 with fail
 clear hx1 hx2 hx3 hx4 hx5 hx6 hx7 HR6;go_wp2_with fail
 go_loopw [57] (fun s57 wr=>∃(i:Nat) (x1 x2:Option Addr) (m1 m2 d1 d2:Nat) (y1 y2:Option Addr) (k1 k2 e1 e2:Nat),i<=n/\s57= .int .i64 (i:Int)/\Hid (oC wr w.heap.size B10 (fun k=>k=w.heap.size∨k=B10∨k=B12) x1 x2 m1 m2 d1 d2 (fD split (l.take i)).1)/\Hid (oC wr w.heap.size B12 (fun k=>k=w.heap.size∨k=B10∨k=B12) y1 y2 k1 k2 e1 e2 (fD split (l.take i)).2)/\Hid (Below w.heap.size w wr)/\Hid (∀o,wr.cell? ⟨w.heap.size,o,none⟩=(#[.slice none 0 0,.slice none 0 0,.int .i64 0,.slice none 0 0,.slice none 0 0]:Array Value)[o]?)/\Hid (∀o,wr.frozen? ⟨w.heap.size,o,none⟩=false)) (fun s57 _=>n-(intOf s57).toNat)
 case atStart=>exact⟨0,_,_,_,_,_,_,_,_,_,_,_,_,Nat.zero_le _,rfl,HZ6,HY,HB6,K8d,F8d⟩
 case round=>
  obtain⟨i,x1,x2,m1,m2,d1,d2,y1,y2,k1,k2,e1,e2,hi,rfl,XO,HYr,mG,YW,F8r⟩:=hrel;clear HZ6 HY HB6 K8d F8d SH;by_cases hlt:i<n
  ·have hil:i<l.length:=by omega
   have hlt2:(i:Int)<n:=by omega
   obtain⟨b,off,ha,hb,hc⟩:=aN jO (by decide) (HRW.out.below mG.out) hil;obtain rfl:=ha;have NS:=gO (TJ HL.out h1 h2 hil);have Uh:=gO (pX HL.out h1 h2 i (gR hil));have HNX:=gO (DY split l i hil);obtain⟨r,hrr⟩:∃r,l[i]=r:=⟨_,rfl⟩
   rw[hrr]at hc NS HNX;have c0:=hc 0 _ rfl;have c1:=hc 1 _ rfl;simp only[vI,Nat.add_zero]at c0 c1;rw[NS.out.f]at c0;rw[NS.out.s]at c1;have hfs:=NS.out.fs;have hs1:=NS.out.s1;have hlo:=NS.out.lo;have aEd:r.lo split=min (r.f.toNat+r.s.toNat) split-r.f.toNat:=rfl;have YX:=gO aEd;clear hc aEd hrr;generalize fD split (l.take i)=z at*;obtain⟨F,hF⟩:∃F,r.f.toNat=F:=⟨_,rfl⟩
   obtain⟨S,hS⟩:∃S,r.s.toNat=S:=⟨_,rfl⟩
   rw[hF]at c0 hfs YX;rw[hS]at c1 hfs hs1 hlo YX;have HF:=gO hF;have Nz:=gO hS;clear hF hS;go_upto_region 11 with fail
   obtain⟨M,hM⟩:∃M:Int,(if(split:Int)<(F:Int)+(S:Int)then(split:Int)else(F:Int)+(S:Int))=M:=⟨_,rfl⟩
   have hL:(if(F:Int)<M then M-(F:Int)else 0)=((r.lo split:Nat):Int):=by
    rw[YX.out,<- hM];by_cases q1:(split:Int)<(F:Int)+(S:Int)
    ·rw[if_pos q1];by_cases q2:(F:Int)<(split:Int)
     ·rw[if_pos q2];omega
     ·rw[if_neg q2];omega
    ·rw[if_neg q1];rw[if_pos (by omega)];omega
   rw[hM,hL];clear hL hM;have hbr:=aF wr (.cells #[.int .i64 (F:Int),.int .i64 (S:Int)] 55);have HZ1:=gO (XO.out.below hbr);have HY1:=gO (HYr.out.below hbr);have HB1:=gO (Below.step mG.out hbr);have hwr:w.heap.size<wr.heap.size:=XO.out.xs _ (.inl rfl);have K81:=gO (aB YW.out hwr hbr);have F81:=gO (aH F8r.out hwr hbr);have KR:Hid (∀o,(wr.alloc (.cells #[.int .i64 (F:Int),.int .i64 (S:Int)] 55)).cell? ⟨wr.heap.size,o,none⟩=(#[.int .i64 (F:Int),.int .i64 (S:Int)]:Array Value)[o]?):=aW wr _ _;have Xa:wr.heap.size<(wr.alloc (.cells #[.int .i64 (F:Int),.int .i64 (S:Int)] 55)).heap.size:=by simp
   have aHd:B10<wr.heap.size/\B12<wr.heap.size:=⟨XO.out.lt,HYr.out.lt⟩
   clear XO HYr mG YW F8r c0 c1 hb hbr;obtain⟨BR,hBR⟩:∃BR,wr.heap.size=BR:=⟨_,rfl⟩
   rw[hBR]at KR Xa aHd hwr ⊢;generalize wr.alloc _=w7 at*;obtain⟨L,YZ⟩:∃L,r.lo split=L:=⟨_,rfl⟩
   have Yi:=gO YZ;rw[YZ]at hlo ⊢;have hle:=NS.out.le;have hhi:=NS.out.hi;have hd0:=NS.out.d0;have hd1:=NS.out.d1;have hnx:=NS.out.next;unfold newStep at hnx;rw[HF.out,YZ]at hle hhi hd0 hd1 hnx;rw[Nz.out]at hhi hd1 hnx;have HD0:=gO hd0;have HD1:=gO hd1;have aK7:=gO hnx;have Bj:Hid (fD split (l.take (i+1))=(dW z.1 F L,dW z.2 (F+L) (S-L))):=by
    unfold Hid;rw[HNX.out];unfold newStep;rw[HF.out,Nz.out,YZ]
   clear hd0 hd1 hnx YZ HNX NS YX Yi
   go_upto_if 73 with fail
   go_cut [] (fun wx=>∃(x1 x2:Option Addr) (m1 m2 d1 d2:Nat),Hid (oC wx w.heap.size B10 (fun k=>k=w.heap.size∨k=B10∨k=B12) x1 x2 m1 m2 d1 d2 (dW z.1 F L))/\Hid (oC wx w.heap.size B12 (fun k=>k=w.heap.size∨k=B10∨k=B12) y1 y2 k1 k2 e1 e2 z.2)/\Hid (Below w.heap.size w wx)/\Hid (∀o,wx.cell? ⟨w.heap.size,o,none⟩=(#[.slice none 0 0,.slice none 0 0,.int .i64 0,.slice none 0 0,.slice none 0 0]:Array Value)[o]?)/\Hid (∀o,wx.frozen? ⟨w.heap.size,o,none⟩=false)/\Hid (∀o,wx.cell? ⟨BR,o,none⟩=(#[.int .i64 (F:Int),.int .i64 (S:Int)]:Array Value)[o]?)/\BR<wx.heap.size)
   case first=>
    by_cases hL0:0<L
    ·have aHe:(0:Int)<L:=by omega
     have aEe:=hle hL0;obtain⟨q0,q1,q2,q3⟩:=HZ1.out.cells;have u0:=KR.out 0;simp only[gB,gC]at u0;go_wp2_with fail
     refine(MC x1 x2 m1 m2 d1 d2 z.1 F L w7 HZ1.out.own.at Uh.out.o0 HD0.out (by rw[Uh.out.f0];exact Nat.zero_le _) (by rw[Uh.out.e0];exact aEe)).mono ?_;rintro ev w8 ⟨b1,b2,m8,e8,e9,rfl,ho8,hb8⟩;have HGF:=(nM Uh.out.o0 HD0.out (by rw[Uh.out.f0];exact Nat.zero_le _) (by rw[Uh.out.e0];exact aEe) L (Nat.le_refl _))
     have HZ2:=gO (HZ1.out.put (.inr (.inl rfl)) (by omega) hb8 ho8);rw[HGF.2.1,HGF.2.2.1]at HZ2;have hne:B12≠B10:=by omega
     have HY2:=gO (((HY1.out.below hb8).far4 (g:=B10) (.inr (.inl rfl)) hne (.int .i64 z.1.f) (.int .i64 z.1.e) (.slice b1 m8 e8) (.slice b2 m2 e9)));have hB:=HZ1.out.below hb8;obtain⟨p0,p1,p2,p3⟩:=hB.cells;have g0:=hB.fz 0;have g1:=hB.fz 1;have g2:=hB.fz 2;have g3:=hB.fz 3;have aBI:=hB.lt;have hwne:w.heap.size≠B10:=by omega
     have IX:BR≠B10:=by omega
     have K82:=gO (aA (aA (aA (aA (aB K81.out (by omega) hb8) hwne 0 (.int .i64 z.1.f)) hwne 1 (.int .i64 z.1.e)) hwne 2 (.slice b1 m8 e8)) hwne 3 (.slice b2 m2 e9));have F82:=gO (aG (aG (aG (aG (aH F81.out (by omega) hb8) ⟨B10,0,none⟩ (.int .i64 z.1.f)) ⟨B10,1,none⟩ (.int .i64 z.1.e)) ⟨B10,2,none⟩ (.slice b1 m8 e8)) ⟨B10,3,none⟩ (.slice b2 m2 e9));have KR2:=gO (aA (aA (aA (aA (aB KR.out Xa hb8) IX 0 (.int .i64 z.1.f)) IX 1 (.int .i64 z.1.e)) IX 2 (.slice b1 m8 e8)) IX 3 (.slice b2 m2 e9));have yT:w.heap.size<=B10:=gR hwB;have HB2:=gO (Below.setCell (Below.setCell (Below.setCell (Below.setCell (Below.step HB1.out hb8) (show w.heap.size<=(⟨B10,0,none⟩:Addr).block from yT) (.int .i64 z.1.f)) (show w.heap.size<=(⟨B10,1,none⟩:Addr).block from yT) (.int .i64 z.1.e)) (show w.heap.size<=(⟨B10,2,none⟩:Addr).block from yT) (.slice b1 m8 e8)) (show w.heap.size<=(⟨B10,3,none⟩:Addr).block from yT) (.slice b2 m2 e9));have aAl:BR<((((w8.setCell ⟨B10,0,none⟩ (.int .i64 z.1.f)).setCell ⟨B10,1,none⟩ (.int .i64 z.1.e)).setCell ⟨B10,2,none⟩ (.slice b1 m8 e8)).setCell ⟨B10,3,none⟩ (.slice b2 m2 e9)).heap.size:=by have:=hb8.size;simp;omega
     clear q0 q1 q2 q3 u0 hB ho8 hb8 HZ1 HY1 HB1 K81 F81 KR HGF;go_wp2_with fail
     go_meet
     case rel=>exact⟨b1,b2,m8,m2,e8,e9,HZ2,HY2,HB2,K82,F82,KR2,aAl⟩
    ·have aHe:¬(0:Int)<L:=by omega
     obtain rfl:L=0:=by omega
     go_wp2_with fail
     go_meet
     case rel=>exact⟨x1,x2,m1,m2,d1,d2,HZ1,HY1,HB1,K81,F81,KR,Xa⟩
   case rest=>
    obtain⟨x1,x2,m1,m2,d1,d2,HZ1,HY1,HB1,K81,F81,KR,Xa⟩:=hcut;have u1:=KR.out 1;simp only[gB,gC,gD]at u1
    go_upto_if 85 with fail
    clear hle;by_cases hSL:L<S
    ·have aHf:(L:Int)<S:=by omega
     have aEf:=hhi hSL;obtain⟨q0,q1,q2,q3⟩:=HY1.out.cells;have u0:=KR.out 0;simp only[gB,gC]at u0;have Gg:=MC y1 y2 k1 k2 e1 e2 z.2 (F+L) (S-L) wc HY1.out.own.at Uh.out.o1 HD1.out (by rw[Uh.out.f1];exact aEf) (by rw[Uh.out.e1];omega);rw[show((F+L:Nat):Int)=(F:Int)+L from by omega,show((S-L:Nat):Int)=(S:Int)-L from by omega]at Gg;go_wp2_with fail
     refine Gg.mono ?_;rintro ev w9 ⟨b1,b2,m8,e8,e9,rfl,ho8,hb8⟩;have ho8:gY w9 wc.heap.size b1 b2 m8 k2 e8 e9 (dW z.2 (F+L) (S-L)):=ho8;have HGF:=(nM Uh.out.o1 HD1.out (by rw[Uh.out.f1];exact aEf) (by rw[Uh.out.e1];omega) (S-L) (Nat.le_refl _))
     have HY2:=gO (HY1.out.put (.inr (.inr rfl)) (by omega) hb8 ho8);rw[HGF.2.1,HGF.2.2.1]at HY2;have hne:B10≠B12:=by omega
     have HZ2:=gO (((HZ1.out.below hb8).far4 (g:=B12) (.inr (.inr rfl)) hne (.int .i64 z.2.f) (.int .i64 z.2.e) (.slice b1 m8 e8) (.slice b2 k2 e9)));have hB:=HY1.out.below hb8;obtain⟨p0,p1,p2,p3⟩:=hB.cells;have g0:=hB.fz 0;have g1:=hB.fz 1;have g2:=hB.fz 2;have g3:=hB.fz 3;have aBJ:=hB.lt;have hwne:w.heap.size≠B12:=by omega
     have IX:BR≠B12:=by omega
     have K82:=gO (aA (aA (aA (aA (aB K81.out (by omega) hb8) hwne 0 (.int .i64 z.2.f)) hwne 1 (.int .i64 z.2.e)) hwne 2 (.slice b1 m8 e8)) hwne 3 (.slice b2 k2 e9));have F82:=gO (aG (aG (aG (aG (aH F81.out (by omega) hb8) ⟨B12,0,none⟩ (.int .i64 z.2.f)) ⟨B12,1,none⟩ (.int .i64 z.2.e)) ⟨B12,2,none⟩ (.slice b1 m8 e8)) ⟨B12,3,none⟩ (.slice b2 k2 e9));have KR2:=gO (aA (aA (aA (aA (aB KR.out Xa hb8) IX 0 (.int .i64 z.2.f)) IX 1 (.int .i64 z.2.e)) IX 2 (.slice b1 m8 e8)) IX 3 (.slice b2 k2 e9));have yT:w.heap.size<=B12:=gR (Nat.lt_trans hwB aAi);have HB2:=gO (Below.setCell (Below.setCell (Below.setCell (Below.setCell (Below.step HB1.out hb8) (show w.heap.size<=(⟨B12,0,none⟩:Addr).block from yT) (.int .i64 z.2.f)) (show w.heap.size<=(⟨B12,1,none⟩:Addr).block from yT) (.int .i64 z.2.e)) (show w.heap.size<=(⟨B12,2,none⟩:Addr).block from yT) (.slice b1 m8 e8)) (show w.heap.size<=(⟨B12,3,none⟩:Addr).block from yT) (.slice b2 k2 e9));have aAl:BR<((((w9.setCell ⟨B12,0,none⟩ (.int .i64 z.2.f)).setCell ⟨B12,1,none⟩ (.int .i64 z.2.e)).setCell ⟨B12,2,none⟩ (.slice b1 m8 e8)).setCell ⟨B12,3,none⟩ (.slice b2 k2 e9)).heap.size:=by have:=hb8.size;simp;omega
     clear q0 q1 q2 q3 u0 hB ho8 hb8 HY1 HZ1 HB1 K81 F81 KR HGF Gg;go_wp2_with fail
     go_roundw
     case rel=>first | exact⟨i+1,x1,x2,m1,m2,d1,d2,b1,b2,m8,k2,e8,e9,by omega,by go_num,by rw[Bj.out];exact HZ2,by rw[Bj.out];exact HY2,HB2,K82,F82⟩ | ((repeat apply Exists.intro);exact⟨⟨i+1,x1,x2,m1,m2,d1,d2,b1,b2,m8,k2,e8,e9,by omega,by go_num,by rw[Bj.out];exact HZ2,by rw[Bj.out];exact HY2,HB2,K82,F82⟩,rfl⟩)
     case measure=>simp[intOf];omega
    ·have aHf:¬(L:Int)<S:=by omega
     have aEg:S-L=0:=by omega
     go_wp2_with fail
     go_roundw
     case rel=>first | exact⟨i+1,x1,x2,m1,m2,d1,d2,y1,y2,k1,k2,e1,e2,by omega,by go_num,by rw[Bj.out];exact HZ1,by rw[Bj.out];rw[aEg];exact HY1,HB1,K81,F81⟩ | ((repeat apply Exists.intro);exact⟨⟨i+1,x1,x2,m1,m2,d1,d2,y1,y2,k1,k2,e1,e2,by omega,by go_num,by rw[Bj.out];exact HZ1,by rw[Bj.out];rw[aEg];exact HY1,HB1,K81,F81⟩,rfl⟩)
     case measure=>simp[intOf];omega
  ·obtain rfl:i=n:=by omega
   have e:l.take i=l:=List.take_of_length_le (by omega);rw[e]at XO HYr;obtain⟨p0,p1,p2,p3⟩:=XO.out.cells;obtain⟨q0,q1,q2,q3⟩:=HYr.out.cells;have k80:=YW.out 0;have k81:=YW.out 1;have k82:=YW.out 2;have k83:=YW.out 3;have k84:=YW.out 4;have f80:=F8r.out 0;have f81:=F8r.out 1;have f82:=F8r.out 2;have f83:=F8r.out 3;have f84:=F8r.out 4;simp only[gB,gC,gD]at k80 k81 k82 k83 k84;have aBI:=XO.out.lt;have aBJ:=HYr.out.lt;have hwr:w.heap.size<wr.heap.size:=XO.out.xs _ (.inl rfl);have MG:B10≠w.heap.size:=by omega
   have MH:B12≠w.heap.size:=by omega
   obtain⟨V0,hV0⟩:∃V:Value,V= .slice (some ⟨wr.heap.size,0,none⟩) 2 2:=⟨_,rfl⟩
   obtain⟨V1,hV1⟩:∃V:Value,V= .slice (some ⟨wr.heap.size+1,0,none⟩) 2 2:=⟨_,rfl⟩
   have HZ5:=gO (((((XO.out.far (.inl rfl) MG 0 V0).far (.inl rfl) MG 1 V1).far (.inl rfl) MG 2 (.int .i64 (aC:Int))).far (.inl rfl) MG 3 (.slice none 0 0)).far (.inl rfl) MG 4 (.slice none 0 0));have HY5:=gO (((((HYr.out.far (.inl rfl) MH 0 V0).far (.inl rfl) MH 1 V1).far (.inl rfl) MH 2 (.int .i64 (aC:Int))).far (.inl rfl) MH 3 (.slice none 0 0)).far (.inl rfl) MH 4 (.slice none 0 0));have K5:=gO (aI (aI (aI (aI (aI YW.out 0 V0) 1 V1) 2 (.int .i64 (aC:Int))) 3 (.slice none 0 0)) 4 (.slice none 0 0));have HB5:=gO (Below.setCell (Below.setCell (Below.setCell (Below.setCell (Below.setCell mG.out (show w.heap.size<=(⟨w.heap.size,0,none⟩:Addr).block from Nat.le_refl _) V0) (show w.heap.size<=(⟨w.heap.size,1,none⟩:Addr).block from Nat.le_refl _) V1) (show w.heap.size<=(⟨w.heap.size,2,none⟩:Addr).block from Nat.le_refl _) (.int .i64 (aC:Int))) (show w.heap.size<=(⟨w.heap.size,3,none⟩:Addr).block from Nat.le_refl _) (.slice none 0 0)) (show w.heap.size<=(⟨w.heap.size,4,none⟩:Addr).block from Nat.le_refl _) (.slice none 0 0));have jT:Hid ((((((wr.setCell ⟨w.heap.size,0,none⟩ V0).setCell ⟨w.heap.size,1,none⟩ V1).setCell ⟨w.heap.size,2,none⟩ (.int .i64 (aC:Int))).setCell ⟨w.heap.size,3,none⟩ (.slice none 0 0)).setCell ⟨w.heap.size,4,none⟩ (.slice none 0 0)).heap.size=wr.heap.size):=by simp[Hid]
   have HV0:=gO hV0;have HV1:=gO hV1;clear hV0 hV1 XO HYr YW F8r mG;go_wp2
   rw[<- HV0.out,<- HV1.out];generalize ((((wr.setCell _ _).setCell _ _).setCell _ _).setCell _ _).setCell _ _=W5 at*;have hs:=jT.out;have hb1:=aF W5 (.cells (flat mF [⟨(fD split l).1,x1,x2,m1,m2,d1,d2⟩,⟨(fD split l).2,y1,y2,k1,k2,e1,e2⟩]).toArray 102);have hb2:=aF (W5.alloc (.cells (flat mF [⟨(fD split l).1,x1,x2,m1,m2,d1,d2⟩,⟨(fD split l).2,y1,y2,k1,k2,e1,e2⟩]).toArray 102)) (.cells (flat gV [least,least]).toArray 3);have r1:((W5.alloc (.cells (flat mF [⟨(fD split l).1,x1,x2,m1,m2,d1,d2⟩,⟨(fD split l).2,y1,y2,k1,k2,e1,e2⟩]).toArray 102)).alloc (.cells (flat gV [least,least]).toArray 3)).ownsRow 0 102 4 (.slice (some ⟨wr.heap.size,0,none⟩) 2 2) 2 (flat mF [⟨(fD split l).1,x1,x2,m1,m2,d1,d2⟩,⟨(fD split l).2,y1,y2,k1,k2,e1,e2⟩]):=by
    rw[<- hs];exact own_below (QO W5 (Nat.zero_le _) rfl (by decide)) hb2 (Nat.le_refl _)
   have r2:((W5.alloc (.cells (flat mF [⟨(fD split l).1,x1,x2,m1,m2,d1,d2⟩,⟨(fD split l).2,y1,y2,k1,k2,e1,e2⟩]).toArray 102)).alloc (.cells (flat gV [least,least]).toArray 3)).ownsRow 0 3 1 (.slice (some ⟨wr.heap.size+1,0,none⟩) 2 2) 2 (flat gV [least,least]):=by
    rw[show wr.heap.size+1=(W5.alloc (.cells (flat mF [⟨(fD split l).1,x1,x2,m1,m2,d1,d2⟩,⟨(fD split l).2,y1,y2,k1,k2,e1,e2⟩]).toArray 102)).heap.size by simp[hs]];exact QO _ (Nat.zero_le _) rfl (by decide)
   have t0:=(HZ5.out.below hb1).below hb2;have t1:=(HY5.out.below hb1).below hb2;have t0l:=HZ5.out.own;have t1l:=HY5.out.own;have HRX:=YU r1 r2 t0.own t1.own (G:=w.heap.size) (N:=wr.heap.size) t0l t1l hs (HZ5.out.ne _ (.inl rfl)) (HY5.out.ne _ (.inl rfl)) hwr (by have h9:=hb1.size;have h8:=hb2.size;omega) (newH l split least aC) rfl rfl rfl rfl rfl rfl;have KX:=aB (aB K5.out (by omega) hb1) (by have:=hb1.size;omega) hb2;have jF:=Below.step (Below.step HB5.out hb1) hb2;have hwx:∃wx,wx=(W5.alloc (.cells (flat mF [⟨(fD split l).1,x1,x2,m1,m2,d1,d2⟩,⟨(fD split l).2,y1,y2,k1,k2,e1,e2⟩]).toArray 102)).alloc (.cells (flat gV [least,least]).toArray 3):=⟨_,rfl⟩
   obtain⟨wx,hwx⟩:=hwx;rw[<- hwx]at HRX KX jF;change wx=(W5.alloc (.cells #[.int .i64 ((fD split l).1.f:Int),.int .i64 ((fD split l).1.e:Int),.slice x1 m1 d1,.slice x2 m2 d2,.int .i64 ((fD split l).2.f:Int),.int .i64 ((fD split l).2.e:Int),.slice y1 k1 e1,.slice y2 k2 e2] 102)).alloc (.cells #[.int .i64 (least:Int),.int .i64 (least:Int)] 3)at hwx;rw[<- hwx];change ∀o,wx.cell? ⟨w.heap.size,o,none⟩=(#[V0,V1,.int .i64 (aC:Int),.slice none 0 0,.slice none 0 0]:Array Value)[o]? at KX;clear hwx hb1 hb2;refine bodyPost_ret (v:= .tuple #[.agg #[V0,V1,.int .i64 (aC:Int),.slice none 0 0,.slice none 0 0],.int .i64 0]) (by simp[results,Tryz.results57,go_sem,KX]) rfl ⟨⟨some ⟨wr.heap.size,0,none⟩,2,some ⟨wr.heap.size+1,0,none⟩,2,none,0,none,0,⟨(fD split l).1,x1,x2,m1,m2,d1,d2⟩,⟨(fD split l).2,y1,y2,k1,k2,e1,e2⟩,[]⟩,?_,HRX,jF⟩;rw[HV0.out,HV1.out];rfl
end
end Go.Proofs.YtcmpmobhongkiaaGreatDoor
