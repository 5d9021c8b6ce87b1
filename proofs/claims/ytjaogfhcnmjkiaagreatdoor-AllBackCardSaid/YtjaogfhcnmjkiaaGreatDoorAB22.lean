/- joined. -/
import Derived.Test.YtjaogfhcnmjkiaaGreatDoorAB19
set_option linter.all false
set_option maxRecDepth 100000
set_option maxHeartbeats 0
namespace Go.Proofs.YtjaogfhcnmjkiaaGreatDoor
open Go.RowKit
open Go.Value renaming slice->aA,int->aB,agg->aC,string->aF,tuple->aG,pointer->aH,ownBlock->gTh
open Go.IntKind renaming i64->aI
open Option renaming none->aJ,some->aK
open Go.Ending renaming returned->aN
open Go.Obj renaming cells->aO
open Go.Proofs.Tryz
theorem aBz (a:Option Addr)(n cap:Nat)(l:List Rg)(split least aP:Nat)(w:World)(hn:l.length=n)(hr:Row w a (flat jE l))(hl:dZ l=true)(h1:split<=256)(h2:split%16=0)(h3:least<=256)(h4:1<=aP/\aP<=4):
 Calls prog 48 #[aA a n cap,aB aI split,aB aI least,aB aI aP] w λev w'=>∃c':Hc,ev=aN (aG #[.agg (c'.vals (newH l split least aP)),aB aI 0])/\lN w' w.heap.size (newH l split least aP) c'/\Below w.heap.size w w':=by
 obtain⟨K8,F8,hsz,hbw⟩:=boxes1 w #[aA aJ 0 0,aA aJ 0 0,aB aI 0,aA aJ 0 0,aA aJ 0 0] 39;have aO1:=zD hl;have HL:=gO hl;have HR:=gO (hr.below hbw);have HRW:=gO hr;have u:=gO hbw;clear hr hbw;go_enter func48,ntmps48
 go_upto_region 1 with fail
 generalize w.alloc _=w1 at*;go_wp2_with fail
 refine(Au a aJ n 0 cap 0 l [] w1 hn rfl (by omega) (by omega) HR.out (Row.nil _ _) (uY HL.out) (by simp) HL.out (by decide)).mono ?_;rintro ev w2 ⟨rfl,p⟩;have K8a:=aQ K8 hsz p;have F8a:=aU F8 hsz p;have HR2:=gO (HR.out.below p);have HB2:=gO (gW u.out p);have O:w.heap.size<w2.heap.size:=gI hsz p.size;clear K8 F8 HR u p hsz;go_wp2_with fail
 refine(QF 0 split (split/8) w2 (gU _) h1 rfl h2 (by omega)).mono ?_;rintro ev w3 ⟨a2,c2,rfl,hz3,hb3⟩;have hX3:∀k,(k=w.heap.size∨k=w3.heap.size)->(k<w2.heap.size∨w3.heap.size<=k)/\k<=w3.heap.size:=λk hk=>by have:=hb3.size;omega
 have HZ:=gO (Pj (Z:=w.heap.size) hz3 (gR O) hX3);unfold TY at HZ;have K8b:=aQ K8a O hb3;have F8b:=aU F8a O hb3;have HR3:=gO (HR2.out.below hb3);have HB3:=gO (gW HB2.out hb3);have P:w.heap.size<w3.heap.size:=gI O hb3.size;clear hX3;go_upto_region 4 with fail
 have hb4:=aT w3 (aO #[aB aI (0:Nat),aB aI (split:Int),aA aJ 0 0,aA a2 (split/8) c2] 79);have K8c:=aQ K8b P hb4;have F8c:=aU F8b P hb4;have HR4:=gO (HR3.out.below hb4);have HB4:=gO (gW HB3.out hb4);have qR:w.heap.size<(w3.alloc (aO #[aB aI (0:Nat),aB aI (split:Int),aA aJ 0 0,aA a2 (split/8) c2] 79)).heap.size:=gI P hb4.size;have hwB:w.heap.size<w3.heap.size:=P;obtain⟨c,aEf⟩:∃B,w3.heap.size=B:=⟨_,rfl⟩
 rw[aEf]at HZ hwB ⊢;clear HR3 HB3 HR2 HB2 K8a F8a K8b F8b O P hb4 hz3 hb3;change Hid (qC (w3.alloc (aO #[aB aI (0:Nat),aB aI (split:Int),aA aJ 0 0,aA a2 (split/8) c2] 79)) _ _ _ _ _ _ _ _ _ _)at HZ;rw[show(aB aI 0)=aB aI ((0:Nat):Int)from rfl];generalize w3.alloc _=w4 at*;go_wp2_with fail
 refine(QF split 256 ((256-split)/8) w4 h1 (gT _) h2 rfl rfl).mono ?_;rintro ev w5 ⟨a3,c3,rfl,hz5,hb5⟩;have hX5:∀k,(k=w.heap.size∨k=c∨k=w5.heap.size)->(k<w4.heap.size∨w5.heap.size<=k)/\k<=w5.heap.size:=λk hk=>by have:=hb5.size;have:=HZ.out.lt;omega
 have HY:=gO (Pj (Z:=w.heap.size) hz5 (gR qR) hX5);unfold TY at HY;have hb6:=aT w5 (aO #[aB aI (split:Int),aB aI (256:Nat),aA aJ 0 0,aA a3 ((256-split)/8) c3] 79);have RU:=gW hb5 hb6;have K8d:=aQ K8c qR RU;have F8d:=aU F8c qR RU;have HR6:=gO (HR4.out.below RU);have HB6:=gO (gW HB4.out RU);have HZ6:=gO (HZ.out.new (Y:=λk=>k=w.heap.size∨k=c∨k=w5.heap.size) RU (λk hk=>by have:=hb5.size;have:=hb6.size;simp at this;rcases hk with h | h | h;exact .inl (.inl h);exact .inl (.inr h);exact .inr (by simp;omega)));have Vq:w.heap.size<(w5.alloc (aO #[aB aI (split:Int),aB aI (256:Nat),aA aJ 0 0,aA a3 ((256-split)/8) c3] 79)).heap.size:=gI qR RU.size;have aCP:c<w5.heap.size:=gI HZ.out.lt hb5.size;have hx1:decide ((least:Int)<0)=false:=gV (by omega);have hx2:decide ((256:Int)<least)=false:=gV (by omega);have hx3:decide ((aP:Int)<1)=false:=gV (by omega);have hx4:decide ((4:Int)<aP)=false:=gV (by omega);have hx5:decide (256<least)=false:=gV (by omega);have hx6:decide (aP<1)=false:=gV (by omega);have hx7:decide (4<aP)=false:=gV (by omega);go_upto_region 5 with fail
 obtain⟨d,aEg⟩:∃B,w5.heap.size=B:=⟨_,rfl⟩
 rw[aEg]at HY HZ6 aCP ⊢;clear HZ HR4 HB4 K8c F8c qR hb6 hz5 hb5 hX5 RU;change Hid (qC (w5.alloc (aO #[aB aI (split:Int),aB aI (256:Nat),aA aJ 0 0,aA a3 ((256-split)/8) c3] 79)) _ _ _ _ _ _ _ _ _ _)at HY;rw[show(aB aI 256)=aB aI ((256:Nat):Int)from rfl];generalize w5.alloc _=w6 at*;go_upto_region 7 with fail
 clear hx1 hx2 hx3 hx4 hx5 hx6 hx7 HR6;go_wp2_with fail
 go_loopw [57] (λs57 wr=>∃(i:Nat) (E C:Option Addr) (D q d1 A:Nat) (y1 y2:Option Addr) (k1 k2 e1 e2:Nat),i<=n/\s57=aB aI (i:Int)/\Hid (qC wr w.heap.size c (λk=>k=w.heap.size∨k=c∨k=d) E C D q d1 A (iL split (l.take i)).1)/\Hid (qC wr w.heap.size d (λk=>k=w.heap.size∨k=c∨k=d) y1 y2 k1 k2 e1 e2 (iL split (l.take i)).2)/\Hid (Below w.heap.size w wr)/\Hid (∀o,wr.cell? ⟨w.heap.size,o,aJ⟩=(#[aA aJ 0 0,aA aJ 0 0,aB aI 0,aA aJ 0 0,aA aJ 0 0]:Array Value)[o]?)/\Hid (∀o,wr.frozen? ⟨w.heap.size,o,aJ⟩=false)) (λs57 _=>n-(intOf s57).toNat)
 case atStart=>exact⟨0,_,_,_,_,_,_,_,_,_,_,_,_,gU _,rfl,HZ6,HY,HB6,K8d,F8d⟩
 case round=>
  obtain⟨i,E,C,D,q,d1,A,y1,y2,k1,k2,e1,e2,hi,rfl,y,K,oH,H,R⟩:=hrel;clear HZ6 HY HB6 K8d F8d Vq;by_cases hlt:i<n
  ·have hil:i<l.length:=by omega
   have hlt2:(i:Int)<n:=by omega
   obtain⟨b,off,ha,hb,hc⟩:=aZ kU (by decide) (HRW.out.below oH.out) hil;obtain rfl:=ha;have NS:=gO (Wi HL.out h1 h2 hil);have Xd:=gO (rU HL.out h1 h2 i (gR hil));have WX:=gO (Gm split l i hil);obtain⟨r,hrr⟩:∃r,l[i]=r:=⟨_,rfl⟩
   rw[hrr]at hc NS WX;have c0:=hc 0 _ rfl;have c1:=hc 1 _ rfl;simp only[vI,Nat.add_zero]at c0 c1;rw[NS.out.f]at c0;rw[NS.out.s]at c1;have hfs:=NS.out.fs;have hs1:=NS.out.s1;have hlo:=NS.out.lo;have aHr:r.lo split=min (r.f.toNat+r.s.toNat) split-r.f.toNat:=rfl;have aBB:=gO aHr;clear hc aHr hrr;generalize iL split (l.take i)=z at*;obtain⟨F,hF⟩:∃F,r.f.toNat=F:=⟨_,rfl⟩
   obtain⟨S,hS⟩:∃S,r.s.toNat=S:=⟨_,rfl⟩
   rw[hF]at c0 hfs aBB;rw[hS]at c1 hfs hs1 hlo aBB;have HF:=gO hF;have NR:=gO hS;clear hF hS;go_upto_region 11 with fail
   obtain⟨M,hM⟩:∃M:Int,(if(split:Int)<(F:Int)+(S:Int)then(split:Int)else(F:Int)+(S:Int))=M:=⟨_,rfl⟩
   have hL:(if(F:Int)<M then M-(F:Int)else 0)=((r.lo split:Nat):Int):=by
    rw[aBB.out,<- hM];by_cases q1:(split:Int)<(F:Int)+(S:Int)
    ·rw[if_pos q1];by_cases q2:(F:Int)<(split:Int)
     ·rw[if_pos q2];omega
     ·rw[if_neg q2];omega
    ·rw[if_neg q1];rw[if_pos (by omega)];omega
   rw[hM,hL];clear hL hM;have hbr:=aT wr (aO #[aB aI (F:Int),aB aI (S:Int)] 133);have x:=gO (y.out.below hbr);have t:=gO (K.out.below hbr);have u:=gO (gW oH.out hbr);have hwr:w.heap.size<wr.heap.size:=y.out.xs _ (.inl rfl);have T:=gO (aQ H.out hwr hbr);have I:=gO (aU R.out hwr hbr);have KR:Hid (∀o,(wr.alloc (aO #[aB aI (F:Int),aB aI (S:Int)] 133)).cell? ⟨wr.heap.size,o,aJ⟩=(#[aB aI (F:Int),aB aI (S:Int)]:Array Value)[o]?):=bI wr _ _;have Zy:wr.heap.size<(wr.alloc (aO #[aB aI (F:Int),aB aI (S:Int)] 133)).heap.size:=by simp
   have aKQ:c<wr.heap.size/\d<wr.heap.size:=⟨y.out.lt,K.out.lt⟩
   clear y K oH H R c0 c1 hb hbr;obtain⟨BR,hBR⟩:∃BR,wr.heap.size=BR:=⟨_,rfl⟩
   rw[hBR]at KR Zy aKQ hwr ⊢;generalize wr.alloc _=w7 at*;obtain⟨L,Xe⟩:∃L,r.lo split=L:=⟨_,rfl⟩
   have HLL:=gO Xe;rw[Xe]at hlo ⊢;have hle:=NS.out.le;have hhi:=NS.out.hi;have hd0:=NS.out.d0;have hd1:=NS.out.d1;have hnx:=NS.out.next;unfold newStep at hnx;rw[HF.out,Xe]at hle hhi hd0 hd1 hnx;rw[NR.out]at hhi hd1 hnx;have HD0:=gO hd0;have HD1:=gO hd1;have aO3:=gO hnx;have DL:Hid (iL split (l.take (i+1))=(fH z.1 F L,fH z.2 (F+L) (S-L))):=by
    unfold Hid;rw[WX.out];unfold newStep;rw[HF.out,NR.out,Xe]
   clear hd0 hd1 hnx Xe WX NS aBB HLL
   go_upto_if 73 with fail
   go_cut [] (λwx=>∃(E C:Option Addr) (D q d1 A:Nat),Hid (qC wx w.heap.size c (λk=>k=w.heap.size∨k=c∨k=d) E C D q d1 A (fH z.1 F L))/\Hid (qC wx w.heap.size d (λk=>k=w.heap.size∨k=c∨k=d) y1 y2 k1 k2 e1 e2 z.2)/\Hid (Below w.heap.size w wx)/\Hid (∀o,wx.cell? ⟨w.heap.size,o,aJ⟩=(#[aA aJ 0 0,aA aJ 0 0,aB aI 0,aA aJ 0 0,aA aJ 0 0]:Array Value)[o]?)/\Hid (∀o,wx.frozen? ⟨w.heap.size,o,aJ⟩=false)/\Hid (∀o,wx.cell? ⟨BR,o,aJ⟩=(#[aB aI (F:Int),aB aI (S:Int)]:Array Value)[o]?)/\BR<wx.heap.size)
   case first=>
    by_cases hL0:0<L
    ·have aKR:(0:Int)<L:=by omega
     have aHs:=hle hL0;obtain⟨q0,q1,q2,q3⟩:=x.out.cells;have u0:=KR.out 0;simp only[gB,gC]at u0;go_wp2_with fail
     refine(Ph E C D q d1 A z.1 F L w7 x.out.own.at Xd.out.o0 HD0.out (by rw[Xd.out.f0];exact gU _) (by rw[Xd.out.e0];exact aHs)).mono ?_;rintro ev w8 ⟨J,W,X,U,Q,rfl,ho8,j⟩;have HGF:=(pF Xd.out.o0 HD0.out (by rw[Xd.out.f0];exact gU _) (by rw[Xd.out.e0];exact aHs) L (gT _))
     have HZ2:=gO (x.out.put (.inr (.inl rfl)) (by omega) j ho8);rw[HGF.2.1,HGF.2.2.1]at HZ2;have hne:d≠c:=by omega
     have HY2:=gO (((t.out.below j).far4 (g:=c) (.inr (.inl rfl)) hne (aB aI z.1.f) (aB aI z.1.e) (aA J X U) (aA W q Q)));have hB:=x.out.below j;obtain⟨p0,p1,p2,p3⟩:=hB.cells;have g0:=hB.fz 0;have g1:=hB.fz 1;have g2:=hB.fz 2;have g3:=hB.fz 3;have aEf:=hB.lt;have m:w.heap.size≠c:=by omega
     have LJ:BR≠c:=by omega
     have K82:=gO (aS (aS (aS (aS (aQ T.out (by omega) j) m 0 (aB aI z.1.f)) m 1 (aB aI z.1.e)) m 2 (aA J X U)) m 3 (aA W q Q));have F82:=gO (aV (aV (aV (aV (aU I.out (by omega) j) ⟨c,0,aJ⟩ (aB aI z.1.f)) ⟨c,1,aJ⟩ (aB aI z.1.e)) ⟨c,2,aJ⟩ (aA J X U)) ⟨c,3,aJ⟩ (aA W q Q));have KR2:=gO (aS (aS (aS (aS (aQ KR.out Zy j) LJ 0 (aB aI z.1.f)) LJ 1 (aB aI z.1.e)) LJ 2 (aA J X U)) LJ 3 (aA W q Q));have Az:w.heap.size<=c:=gR hwB;have HB2:=gO (gS (gS (gS (gS (gW u.out j) c 0 Az (aB aI z.1.f)) c 1 Az (aB aI z.1.e)) c 2 Az (aA J X U)) c 3 Az (aA W q Q));have aCS:BR<((((w8.setCell ⟨c,0,aJ⟩ (aB aI z.1.f)).setCell ⟨c,1,aJ⟩ (aB aI z.1.e)).setCell ⟨c,2,aJ⟩ (aA J X U)).setCell ⟨c,3,aJ⟩ (aA W q Q)).heap.size:=by have:=j.size;simp;omega
     clear q0 q1 q2 q3 u0 hB ho8 j x t u T I KR HGF;go_wp2_with fail
     go_meet
     case rel=>exact⟨J,W,X,q,U,Q,HZ2,HY2,HB2,K82,F82,KR2,aCS⟩
    ·have aKR:¬(0:Int)<L:=by omega
     obtain rfl:L=0:=by omega
     go_wp2_with fail
     go_meet
     case rel=>exact⟨E,C,D,q,d1,A,x,t,u,T,I,KR,Zy⟩
   case rest=>
    obtain⟨E,C,D,q,d1,A,x,t,u,T,I,KR,Zy⟩:=hcut;have u1:=KR.out 1;simp only[gB,gC,gD]at u1
    go_upto_if 85 with fail
    clear hle;by_cases hSL:L<S
    ·have aKS:(L:Int)<S:=by omega
     have aHt:=hhi hSL;obtain⟨q0,q1,q2,q3⟩:=t.out.cells;have u0:=KR.out 0;simp only[gB,gC]at u0;have Jd:=Ph y1 y2 k1 k2 e1 e2 z.2 (F+L) (S-L) wc t.out.own.at Xd.out.o1 HD1.out (by rw[Xd.out.f1];exact aHt) (by rw[Xd.out.e1];omega);rw[show((F+L:Nat):Int)=(F:Int)+L from by omega,show((S-L:Nat):Int)=(S:Int)-L from by omega]at Jd;go_wp2_with fail
     refine Jd.mono ?_;rintro ev w9 ⟨J,W,X,U,Q,rfl,ho8,j⟩;have ho8:jC w9 wc.heap.size J W X k2 U Q (fH z.2 (F+L) (S-L)):=ho8;have HGF:=(pF Xd.out.o1 HD1.out (by rw[Xd.out.f1];exact aHt) (by rw[Xd.out.e1];omega) (S-L) (gT _))
     have HY2:=gO (t.out.put (.inr (.inr rfl)) (by omega) j ho8);rw[HGF.2.1,HGF.2.2.1]at HY2;have hne:c≠d:=by omega
     have HZ2:=gO (((x.out.below j).far4 (g:=d) (.inr (.inr rfl)) hne (aB aI z.2.f) (aB aI z.2.e) (aA J X U) (aA W k2 Q)));have hB:=t.out.below j;obtain⟨p0,p1,p2,p3⟩:=hB.cells;have g0:=hB.fz 0;have g1:=hB.fz 1;have g2:=hB.fz 2;have g3:=hB.fz 3;have aEg:=hB.lt;have m:w.heap.size≠d:=by omega
     have LJ:BR≠d:=by omega
     have K82:=gO (aS (aS (aS (aS (aQ T.out (by omega) j) m 0 (aB aI z.2.f)) m 1 (aB aI z.2.e)) m 2 (aA J X U)) m 3 (aA W k2 Q));have F82:=gO (aV (aV (aV (aV (aU I.out (by omega) j) ⟨d,0,aJ⟩ (aB aI z.2.f)) ⟨d,1,aJ⟩ (aB aI z.2.e)) ⟨d,2,aJ⟩ (aA J X U)) ⟨d,3,aJ⟩ (aA W k2 Q));have KR2:=gO (aS (aS (aS (aS (aQ KR.out Zy j) LJ 0 (aB aI z.2.f)) LJ 1 (aB aI z.2.e)) LJ 2 (aA J X U)) LJ 3 (aA W k2 Q));have Az:w.heap.size<=d:=gR (Nat.lt_trans hwB aCP);have HB2:=gO (gS (gS (gS (gS (gW u.out j) d 0 Az (aB aI z.2.f)) d 1 Az (aB aI z.2.e)) d 2 Az (aA J X U)) d 3 Az (aA W k2 Q));have aCS:BR<((((w9.setCell ⟨d,0,aJ⟩ (aB aI z.2.f)).setCell ⟨d,1,aJ⟩ (aB aI z.2.e)).setCell ⟨d,2,aJ⟩ (aA J X U)).setCell ⟨d,3,aJ⟩ (aA W k2 Q)).heap.size:=by have:=j.size;simp;omega
     clear q0 q1 q2 q3 u0 hB ho8 j t x u T I KR HGF Jd;go_wp2_with fail
     go_roundw
     case rel=>first | exact⟨i+1,E,C,D,q,d1,A,J,W,X,k2,U,Q,by omega,by go_num,by rw[DL.out];exact HZ2,by rw[DL.out];exact HY2,HB2,K82,F82⟩ | ((repeat apply Exists.intro);exact⟨⟨i+1,E,C,D,q,d1,A,J,W,X,k2,U,Q,by omega,by go_num,by rw[DL.out];exact HZ2,by rw[DL.out];exact HY2,HB2,K82,F82⟩,rfl⟩)
     case measure=>simp[intOf];omega
    ·have aKS:¬(L:Int)<S:=by omega
     have aHu:S-L=0:=by omega
     go_wp2_with fail
     go_roundw
     case rel=>first | exact⟨i+1,E,C,D,q,d1,A,y1,y2,k1,k2,e1,e2,by omega,by go_num,by rw[DL.out];exact x,by rw[DL.out];rw[aHu];exact t,u,T,I⟩ | ((repeat apply Exists.intro);exact⟨⟨i+1,E,C,D,q,d1,A,y1,y2,k1,k2,e1,e2,by omega,by go_num,by rw[DL.out];exact x,by rw[DL.out];rw[aHu];exact t,u,T,I⟩,rfl⟩)
     case measure=>simp[intOf];omega
  ·obtain rfl:i=n:=by omega
   have e:l.take i=l:=gTf (by omega);rw[e]at y K;obtain⟨p0,p1,p2,p3⟩:=y.out.cells;obtain⟨q0,q1,q2,q3⟩:=K.out.cells;have k80:=H.out 0;have k81:=H.out 1;have k82:=H.out 2;have k83:=H.out 3;have k84:=H.out 4;have f80:=R.out 0;have f81:=R.out 1;have f82:=R.out 2;have f83:=R.out 3;have f84:=R.out 4;simp only[gB,gC,gD]at k80 k81 k82 k83 k84;have aEf:=y.out.lt;have aEg:=K.out.lt;have hwr:w.heap.size<wr.heap.size:=y.out.xs _ (.inl rfl);have Pm:c≠w.heap.size:=by omega
   have Pn:d≠w.heap.size:=by omega
   obtain⟨V0,hV0⟩:∃V:Value,V=aA (aK ⟨wr.heap.size,0,aJ⟩) 2 2:=⟨_,rfl⟩
   obtain⟨V1,hV1⟩:∃V:Value,V=aA (aK ⟨wr.heap.size+1,0,aJ⟩) 2 2:=⟨_,rfl⟩
   have HZ5:=gO (((((y.out.far (.inl rfl) Pm 0 V0).far (.inl rfl) Pm 1 V1).far (.inl rfl) Pm 2 (aB aI (aP:Int))).far (.inl rfl) Pm 3 (aA aJ 0 0)).far (.inl rfl) Pm 4 (aA aJ 0 0));have HY5:=gO (((((K.out.far (.inl rfl) Pn 0 V0).far (.inl rfl) Pn 1 V1).far (.inl rfl) Pn 2 (aB aI (aP:Int))).far (.inl rfl) Pn 3 (aA aJ 0 0)).far (.inl rfl) Pn 4 (aA aJ 0 0));have K5:=gO (aW (aW (aW (aW (aW H.out 0 V0) 1 V1) 2 (aB aI (aP:Int))) 3 (aA aJ 0 0)) 4 (aA aJ 0 0));have HB5:=gO (gS (gS (gS (gS (gS oH.out w.heap.size 0 (gT _) V0) w.heap.size 1 (gT _) V1) w.heap.size 2 (gT _) (aB aI (aP:Int))) w.heap.size 3 (gT _) (aA aJ 0 0)) w.heap.size 4 (gT _) (aA aJ 0 0));have kH:Hid ((((((wr.setCell ⟨w.heap.size,0,aJ⟩ V0).setCell ⟨w.heap.size,1,aJ⟩ V1).setCell ⟨w.heap.size,2,aJ⟩ (aB aI (aP:Int))).setCell ⟨w.heap.size,3,aJ⟩ (aA aJ 0 0)).setCell ⟨w.heap.size,4,aJ⟩ (aA aJ 0 0)).heap.size=wr.heap.size):=by simp[Hid]
   have HV0:=gO hV0;have HV1:=gO hV1;clear hV0 hV1 y K H R oH;go_wp2
   rw[<- HV0.out,<- HV1.out];generalize ((((wr.setCell _ _).setCell _ _).setCell _ _).setCell _ _).setCell _ _=W5 at*;have hs:=kH.out;have hb1:=aT W5 (.cells (flat oG [⟨(iL split l).1,E,C,D,q,d1,A⟩,⟨(iL split l).2,y1,y2,k1,k2,e1,e2⟩]).toArray 79);have p:=aT (W5.alloc (.cells (flat oG [⟨(iL split l).1,E,C,D,q,d1,A⟩,⟨(iL split l).2,y1,y2,k1,k2,e1,e2⟩]).toArray 79)) (.cells (flat jA [least,least]).toArray 3);have r1:((W5.alloc (.cells (flat oG [⟨(iL split l).1,E,C,D,q,d1,A⟩,⟨(iL split l).2,y1,y2,k1,k2,e1,e2⟩]).toArray 79)).alloc (.cells (flat jA [least,least]).toArray 3)).ownsRow 0 79 4 (aA (aK ⟨wr.heap.size,0,aJ⟩) 2 2) 2 (flat oG [⟨(iL split l).1,E,C,D,q,d1,A⟩,⟨(iL split l).2,y1,y2,k1,k2,e1,e2⟩]):=by
    rw[<- hs];exact own_below (Ua W5 (gU _) rfl (by decide)) p (gT _)
   have r2:((W5.alloc (.cells (flat oG [⟨(iL split l).1,E,C,D,q,d1,A⟩,⟨(iL split l).2,y1,y2,k1,k2,e1,e2⟩]).toArray 79)).alloc (.cells (flat jA [least,least]).toArray 3)).ownsRow 0 3 1 (aA (aK ⟨wr.heap.size+1,0,aJ⟩) 2 2) 2 (flat jA [least,least]):=by
    rw[show wr.heap.size+1=(W5.alloc (.cells (flat oG [⟨(iL split l).1,E,C,D,q,d1,A⟩,⟨(iL split l).2,y1,y2,k1,k2,e1,e2⟩]).toArray 79)).heap.size by simp[hs]];exact Ua _ (gU _) rfl (by decide)
   have t0:=(HZ5.out.below hb1).below p;have t1:=(HY5.out.below hb1).below p;have t0l:=HZ5.out.own;have t1l:=HY5.out.own;have HRX:=aBy r1 r2 t0.own t1.own (G:=w.heap.size) (N:=wr.heap.size) t0l t1l hs (HZ5.out.ne _ (.inl rfl)) (HY5.out.ne _ (.inl rfl)) hwr (by have h9:=hb1.size;have h8:=p.size;omega) (newH l split least aP) rfl rfl rfl rfl rfl rfl;have KX:=aQ (aQ K5.out (by omega) hb1) (by have:=hb1.size;omega) p;have kP:=gW (gW HB5.out hb1) p;have hwx:∃wx,wx=(W5.alloc (.cells (flat oG [⟨(iL split l).1,E,C,D,q,d1,A⟩,⟨(iL split l).2,y1,y2,k1,k2,e1,e2⟩]).toArray 79)).alloc (.cells (flat jA [least,least]).toArray 3):=⟨_,rfl⟩
   obtain⟨wx,hwx⟩:=hwx;rw[<- hwx]at HRX KX kP;change wx=(W5.alloc (aO #[aB aI ((iL split l).1.f:Int),aB aI ((iL split l).1.e:Int),aA E D d1,aA C q A,aB aI ((iL split l).2.f:Int),aB aI ((iL split l).2.e:Int),aA y1 k1 e1,aA y2 k2 e2] 79)).alloc (aO #[aB aI (least:Int),aB aI (least:Int)] 3)at hwx;rw[<- hwx];change ∀o,wx.cell? ⟨w.heap.size,o,aJ⟩=(#[V0,V1,aB aI (aP:Int),aA aJ 0 0,aA aJ 0 0]:Array Value)[o]? at KX;clear hwx hb1 p;refine bodyPost_ret (v:=aG #[aC #[V0,V1,aB aI (aP:Int),aA aJ 0 0,aA aJ 0 0],aB aI 0]) (by simp[results,results48,go_sem,KX]) rfl ⟨⟨aK ⟨wr.heap.size,0,aJ⟩,2,aK ⟨wr.heap.size+1,0,aJ⟩,2,aJ,0,aJ,0,⟨(iL split l).1,E,C,D,q,d1,A⟩,⟨(iL split l).2,y1,y2,k1,k2,e1,e2⟩,[]⟩,?_,HRX,kP⟩;rw[HV0.out,HV1.out];rfl
theorem nil7 {w W:World}{T:Nat}(K:∀o,W.cell? ⟨T,o,aJ⟩=(#[aA aJ 0 0,aA aJ 0 0,aA aJ 0 0,aB aI 0,aA aJ 0 0,aA aJ 0 0,aA aJ 0 0]:Array Value)[o]?)(hb:Below w.heap.size w W)(hT:w.heap.size<=T):
 (∀o,(((((((W.setCell ⟨T,0,aJ⟩ (aA aJ 0 0)).setCell ⟨T,1,aJ⟩ (aA aJ 0 0)).setCell ⟨T,2,aJ⟩ (aA aJ 0 0)).setCell ⟨T,3,aJ⟩ (aB aI 0)).setCell ⟨T,4,aJ⟩ (aA aJ 0 0)).setCell ⟨T,5,aJ⟩ (aA aJ 0 0)).setCell ⟨T,6,aJ⟩ (aA aJ 0 0)).cell? ⟨T,o,aJ⟩=(#[aA aJ 0 0,aA aJ 0 0,aA aJ 0 0,aB aI 0,aA aJ 0 0,aA aJ 0 0,aA aJ 0 0]:Array Value)[o]?)/\Below w.heap.size w (((((((W.setCell ⟨T,0,aJ⟩ (aA aJ 0 0)).setCell ⟨T,1,aJ⟩ (aA aJ 0 0)).setCell ⟨T,2,aJ⟩ (aA aJ 0 0)).setCell ⟨T,3,aJ⟩ (aB aI 0)).setCell ⟨T,4,aJ⟩ (aA aJ 0 0)).setCell ⟨T,5,aJ⟩ (aA aJ 0 0)).setCell ⟨T,6,aJ⟩ (aA aJ 0 0)):=by
 have a:=(aW (aW (aW (aW (aW (aW (aW K 0 (aA aJ 0 0)) 1 (aA aJ 0 0)) 2 (aA aJ 0 0)) 3 (aB aI 0)) 4 (aA aJ 0 0)) 5 (aA aJ 0 0)) 6 (aA aJ 0 0))
 simp only[gE,gG,gH]at a;exact⟨a,gS (gS (gS (gS (gS (gS (gS hb T 0 hT (aA aJ 0 0)) T 1 hT (aA aJ 0 0)) T 2 hT (aA aJ 0 0)) T 3 hT (aB aI 0)) T 4 hT (aA aJ 0 0)) T 5 hT (aA aJ 0 0)) T 6 hT (aA aJ 0 0)⟩
def okP (s':Sy)(w:World)(ev:Ending)(w':World):Prop:=∃a,ev=aN (aG #[.agg (a.vals s'),aB aI 0])/\iI w' w.heap.size s' a/\Below w.heap.size w w'
def zH (r:Option (Sy×Int))(w:World)(ev:Ending)(w':World):Prop:=(r=aJ/\ev=aN (aG #[aC #[aA aJ 0 0,aA aJ 0 0,aA aJ 0 0,aB aI 0,aA aJ 0 0,aA aJ 0 0,aA aJ 0 0],aB aI 0,aB aI 6])/\Below w.heap.size w w')∨(∃b a c,r=aK (b,a)/\ev=aN (aG #[.agg (c.vals b),aB aI a,aB aI 0])/\iI w' w.heap.size b c/\Below w.heap.size w w')
theorem Jp (v:Sc)(s:Sy)(n:List UInt8)(cpu i:Nat)(w:World)(hs:nO w v s)(hk:cZ s)(hf:∀c∈s.cs,c.ns.length<=1000)(hi:s.named n=aK i)(dA:cpu<s.h.aP)(ho:vP w):
 Calls prog 53 #[aC #[aA v.a1 v.n1 v.c1,aA v.hc.az 2 v.hc.cz,aA v.hc.am 2 v.hc.cm,aB aI (s.h.aP:Int),aA v.hc.al v.hc.lc.length v.hc.cl,aA v.hc.av s.h.live.length v.hc.cv,aA v.a2 v.ys.length v.c2],aF ⟨n.toArray⟩,aB aI cpu] w (zH (s.one i cpu) w):=by
 obtain⟨rA,Xf⟩:∃rA,s.one i cpu=rA:=⟨_,rfl⟩
 rw[Xf];have F:=gO Xf;have V:∃c,s.cs[i]? =aK c:=by
  have m:=hi;unfold Sy.named at m;rw[List.findIdx?_eq_some_iff_getElem]at m;obtain⟨X,_⟩:=m;exact⟨_,gJ X⟩
 have HIL:=gO V;clear Xf V;obtain⟨K1,K2,F1,F2,D,B⟩:=boxes2 w #[aA v.a1 v.n1 v.c1,aA v.hc.az 2 v.hc.cz,aA v.hc.am 2 v.hc.cm,aB aI (s.h.aP:Int),aA v.hc.al v.hc.lc.length v.hc.cl,aA v.hc.av s.h.live.length v.hc.cv,aA v.a2 v.ys.length v.c2] 42 #[aA aJ 0 0,aA aJ 0 0,aA aJ 0 0,aB aI 0,aA aJ 0 0,aA aJ 0 0,aA aJ 0 0] 42;have HA:=gO (Em v s n cpu i _ (hs.below B) hk hf hi dA);obtain⟨k0,k1,k2,k3,k4,k5,k6⟩:=gA7 K1;have HK:=gO hk;have HFN:=gO hf;have HNI:=gO hi;have O:=gO B;have C:=gO K1;have E:=gO F1;have L:=gO K2;have U:=gO F2;clear hs hk hf hi K1 K2 F1 F2 B;go_enter func53,ntmps53
 go_upto_region 1 with fail
 generalize (w.alloc _).alloc _=w1 at*;have j:w.heap.size<w1.heap.size:=by omega
 go_upto_region 4 with (go_at_call 57;refine HA.out.mono ?_;rintro z w2 ⟨d,he,A,l⟩;unfold YI Sc.vals at he;subst he;have J:=aQ C.out j l;have R:=aU E.out j l;obtain⟨y0,y1,y2,y3,y4,y5,y6⟩:=gA7 J;obtain⟨f0,f1,f2,f3,f4,f5,f6⟩:=gF7 R;skip)
 have Q:=laid7 (T:=w.heap.size+1) O.out (Nat.lt_succ_self _) D C.out E.out L.out U.out l A;have t:=gO Q.1;have x:=gO Q.2.1;have y:=gO Q.2.2.1;have f:=gO Q.2.2.2;have N:w.heap.size+1<w2.heap.size:=gI D l.size;have o:w.heap.size+1<(((((((w2.setCell ⟨w.heap.size,0,aJ⟩ (aA d.a1 d.n1 d.c1)).setCell ⟨w.heap.size,1,aJ⟩ (aA d.hc.az 2 d.hc.cz)).setCell ⟨w.heap.size,2,aJ⟩ (aA d.hc.am 2 d.hc.cm)).setCell ⟨w.heap.size,3,aJ⟩ (aB aI (s.h.aP:Int))).setCell ⟨w.heap.size,4,aJ⟩ (aA d.hc.al d.hc.lc.length d.hc.cl)).setCell ⟨w.heap.size,5,aJ⟩ (aA d.hc.av s.h.live.length d.hc.cv)).setCell ⟨w.heap.size,6,aJ⟩ (aA d.a2 d.ys.length d.c2)).heap.size:=by simpa using N
 clear J R y0 y1 y2 y3 y4 y5 y6 f0 f1 f2 f3 f4 f5 f6 Q A HA k0 k1 k2 k3 k4 k5 k6 C E L U l N O;generalize ((((((w2.setCell _ _).setCell _ _).setCell _ _).setCell _ _).setCell _ _).setCell _ _).setCell _ _=H at*;clear D j;have hi1:i<d.ys.length:=by
  have h:=congrArg List.length t.out.r.cy;have m:=HNI.out;unfold Sy.named at m;rw[List.findIdx?_eq_some_iff_getElem]at m;obtain⟨X,_⟩:=m;simp only[gTe]at h;omega
 have e:=TP d s w.heap.size i cpu (λk=>k<w.heap.size∨k=w.heap.size+1) H t.out HK.out hi1 dA (ho.below f.out) (.inl ho.sz) (by obtain⟨c,hc⟩:=HIL.out;exact HK.out.chosen hc dA);cases rA with
 | none=>
  have Y:Hid (Calls prog 107 #[aH (aK ⟨w.heap.size,0,aJ⟩),aB aI i,aB aI cpu] H λz G=>z=aN (aG #[aB aI 0,aB aI 6])/\Below H.heap.size H G):=by
   refine e.mono ?_;rintro z G (⟨_,h,hb⟩ | ⟨s',b',P,h,_⟩)
   ·exact⟨h,hb⟩
   ·rw[F.out]at h;cases h
  clear e ho;go_upto_region 5 with (go_at_call 107;refine Y.out.mono ?_;rintro z W ⟨rfl,u⟩)
  have g:=gO (aQ x.out o u);have S:=gO (aU y.out o u);have I:=gO (gW f.out u);clear x y f t u;obtain⟨q0,q1,q2,q3,q4,q5,q6⟩:=gA7 g.out;obtain⟨f0,f1,f2,f3,f4,f5,f6⟩:=gF7 S.out;have lS:=nil7 g.out I.out (show w.heap.size<=w.heap.size+1 by omega);have KX:=lS.1;have kP:=gO lS.2;clear lS g S I;go_wp2_with fail
  generalize ((((((W.setCell _ _).setCell _ _).setCell _ _).setCell _ _).setCell _ _).setCell _ _).setCell _ _=wx at*;exact bodyPost_ret (v:=aG #[aC #[aA aJ 0 0,aA aJ 0 0,aA aJ 0 0,aB aI 0,aA aJ 0 0,aA aJ 0 0,aA aJ 0 0],aB aI 0,aB aI 6]) (by simp[results,results53,go_sem,KX]) rfl (.inl ⟨rfl,rfl,kP.out⟩)
 | some r=>
  obtain⟨M,b⟩:=r;have Y:Hid (Calls prog 107 #[aH (aK ⟨w.heap.size,0,aJ⟩),aB aI i,aB aI cpu] H λz G=>∃a,z=aN (aG #[aB aI b,aB aI 0])/\SS G w.heap.size (λk=>k<w.heap.size∨k=w.heap.size+1) M a/\Safe (λk=>k<w.heap.size∨k=w.heap.size+1) H G):=by
   refine e.mono ?_;rintro z G (⟨h,_⟩ | ⟨s',b',P,h,h1,m,X,_⟩)
   ·rw[F.out]at h;cases h
   ·rw[F.out]at h;obtain⟨rfl,rfl⟩:M=s'/\b=b':=by simpa using h
    exact⟨P,h1,m,X⟩
  clear e ho;go_upto_region 7 with (go_at_call 107;refine Y.out.mono ?_;rintro z W ⟨a,rfl,K,q⟩)
  have p:=gO K;have g:=gO (q.box x.out o (.inr rfl));have S:=gO (q.WV y.out o (.inr rfl));have I:Hid (Below w.heap.size w W):=Safe.after f.out q (λk hk=> .inl hk) f.out.size;clear x y f t K q Y;have z0:=p.out.k 0;have z1:=p.out.k 1;have z2:=p.out.k 2;have z3:=p.out.k 3;have z4:=p.out.k 4;have z5:=p.out.k 5;have z6:=p.out.k 6;unfold Sc.vals at z0 z1 z2 z3 z4 z5 z6;have q0:=g.out 0;have q1:=g.out 1;have q2:=g.out 2;have q3:=g.out 3;have q4:=g.out 4;have q5:=g.out 5;have q6:=g.out 6;obtain⟨f0,f1,f2,f3,f4,f5,f6⟩:=gF7 S.out;simp only[gB,gC,gD]at z0 z1 z2 z3 z4 z5 z6 q0 q1 q2 q3 q4 q5 q6;have Z:=out7 p.out (T:=w.heap.size+1) (.inr rfl) (λk hk=> .inl hk) (Nat.lt_succ_self _) g.out I.out;have KX:=Z.1;have pO:=gO Z.2.1;have kP:=gO Z.2.2;clear Z p g S I;go_wp2_with fail
  generalize ((((((W.setCell _ _).setCell _ _).setCell _ _).setCell _ _).setCell _ _).setCell _ _).setCell _ _=wx at*;exact bodyPost_ret (v:=aG #[aC #[aA a.a1 a.n1 a.c1,aA a.hc.az 2 a.hc.cz,aA a.hc.am 2 a.hc.cm,aB aI (M.h.aP:Int),aA a.hc.al a.hc.lc.length a.hc.cl,aA a.hc.av M.h.live.length a.hc.cv,aA a.a2 a.ys.length a.c2],aB aI b,aB aI 0]) (by simp[results,results53,go_sem,KX]) rfl (.inr ⟨M,b,a,rfl,rfl,pO.out,kP.out⟩)
end Go.Proofs.YtjaogfhcnmjkiaaGreatDoor
