/- joined. -/
import Derived.Test.YtjaogfhcnmjkiaaGreatDoorAB19
import Derived.Test.YtjaogfhcnmjkiaaGreatDoorAB20
set_option linter.all false
set_option maxRecDepth 100000
set_option maxHeartbeats 0
namespace Go.Proofs.YtjaogfhcnmjkiaaGreatDoor
open Go.RowKit
open Go.Value renaming slice->aA,int->aB,agg->aC,string->aF,tuple->aG,pointer->aH,ownBlock->gTh
open Go.IntKind renaming i64->aI
open Option renaming none->aJ,some->aK
open Go.Ending renaming returned->aN
open Go.Obj renaming cells->aO
open Go.Proofs.Tryz
def aHE (s':Sy)(w:World)(ev:Ending)(w':World):Prop:=∃a,ev=aN (aG #[.agg (a.vals s'),aB aI 0])/\iI w' w.heap.size s' a/\Below w.heap.size w w'
theorem PG (v:Sc)(s:Sy)(n:List UInt8)(cpu i k a:Nat)(c:Ca)(x:Sl)(w:World)(hs:nO w v s)(hk:cZ s)(hf:∀c∈s.cs,c.ns.length<=1000)(hi:s.named n=aK i)(dA:cpu<s.h.aP)(hci:s.cs[i]? =aK c)(hcx:c.sl[k]? =aK x)(hout:nN s.w c x a):
 Calls prog 40 #[aC #[aA v.a1 v.n1 v.c1,aA v.hc.az 2 v.hc.cz,aA v.hc.am 2 v.hc.cm,aB aI (s.h.aP:Int),aA v.hc.al v.hc.lc.length v.hc.cl,aA v.hc.av s.h.live.length v.hc.cv,aA v.a2 v.ys.length v.c2],aF ⟨n.toArray⟩,aB aI cpu,aB aI a] w (aHE (s.free i k a cpu) w):=by
 obtain⟨sF,GL⟩:∃sF,s.free i k a cpu=sF:=⟨_,rfl⟩
 rw[GL];have HsF:=gO GL;clear GL;obtain⟨K1,K2,F1,F2,hsz,hbw⟩:=boxes2 w #[aA v.a1 v.n1 v.c1,aA v.hc.az 2 v.hc.cz,aA v.hc.am 2 v.hc.cm,aB aI (s.h.aP:Int),aA v.hc.al v.hc.lc.length v.hc.cl,aA v.hc.av s.h.live.length v.hc.cv,aA v.a2 v.ys.length v.c2] 42 #[aA aJ 0 0,aA aJ 0 0,aA aJ 0 0,aB aI 0,aA aJ 0 0,aA aJ 0 0,aA aJ 0 0] 42;obtain⟨hil,hic⟩:=gK.1 hci;obtain⟨hkl,O⟩:=gK.1 hcx;have hcm:=gM hci;have hxm:=gM hcx;have I:=hk.ck c hcm;have V:=hs.below hbw;have HA:=gO (Em v s n cpu i _ V hk hf hi dA);obtain⟨l,hl1,hl2,hl3⟩:=(I.sk x hxm).chain;have aHF:Hid (∀(f:Sc) (W:World),nO W f s->Calls prog 18 #[aC #[aA f.a1 f.n1 f.c1,aA f.hc.az 2 f.hc.cz,aA f.hc.am 2 f.hc.cm,aB aI (s.h.aP:Int),aA f.hc.al f.hc.lc.length f.hc.cl,aA f.hc.av s.h.live.length f.hc.cv,aA f.a2 f.ys.length f.c2],aB aI a] W λev w'=>ev=aN (aG #[aB aI i,aB aI k,aB aI 0])/\Below W.heap.size W w'):=λf W h=>by
  subst hic;exact Rx f s i k a l W h hk hf hil hkl (by rw[O];exact hout.1) (by rw[O];exact hl1) (hout.2 l hl1)
 have u:=hk.push hci hcx hout;have hpe:=TQ (a:=a) hci hcx;have hxb: -1<=x.h/\x.h<4096:=by
  have h9:=iP.1 hl1;cases l with
  | nil=>have:x.h= -1:=h9.1;omega
  | cons b m=>
   have e:x.h=b:=h9.1.1;have h8:=h9.2.1 b (by simp);rw[hk.wl]at h8;omega
 have hal:a<4096:=by
  have h1:=kD I.room hout.1;obtain⟨b,hb,hb1,N⟩:=(I.sk x hxm).live;obtain⟨_,_,h4,h5⟩:=(hk.hk.lv b hb).1;have hor:c.o<=2:=by rw[I.o];exact mM _
  rw[hb1,N]at h5;rw[hb1]at h4;generalize c.o=o at*;obtain rfl | rfl | rfl:o=0∨o=1∨o=2:=by omega
  ·simp only[Nat.pow_zero]at h1;omega
  ·simp only[Nat.pow_one]at h1 h5;omega
  ·have e4:(2:Nat)^2=4:=rfl;rw[e4]at h1 h5;omega
 have hxn:x.n<=64:=gQ (I.sk x hxm).Nb I.r64;have hxp:=(I.sk x hxm).BF hk.hk;have aK5:a<s.w.length:=by rw[hk.wl];exact hal
 obtain⟨k0,k1,k2,k3,k4,k5,k6⟩:=gA7 K1;have HK:=gO hk;have uK:=gO I;have HB1:=gO hbw;have HK1:=gO K1;have HF1:=gO F1;have HK2:=gO K2;have HF2:=gO F2;have HP:=gO u;have HPE:=gO hpe;have Dz:=gO hci;have HCX:=gO hcx;have SY:=dA;have aPe:=hk.cl;have aPf:=I.nS hk.hk;have hwl:=hk.wl;clear hs hk hf hi V K1 K2 F1 F2 hbw u hpe hci hcx hout hl1 hl2 hl3 I hic O hcm hxm;go_enter func40,ntmps40
 go_upto_region 1 with fail
 generalize (w.alloc _).alloc _=w1 at*;have hsz1:w.heap.size<w1.heap.size:=by omega
 go_upto_region 4 with (go_at_call 57;refine HA.out.mono ?_;rintro ev w2 ⟨f,he,hnew,N⟩;unfold YI Sc.vals at he;subst he;have K12:=aQ HK1.out hsz1 N;have F12:=aU HF1.out hsz1 N;obtain⟨y0,y1,y2,y3,y4,y5,y6⟩:=gA7 K12;obtain⟨f0,f1,f2,f3,f4,f5,f6⟩:=gF7 F12;skip)
 have xA:=laid7 (T:=w.heap.size+1) HB1.out (Nat.lt_succ_self _) hsz HK1.out HF1.out HK2.out HF2.out N hnew;have HS3:=gO xA.1;have HT3:=gO xA.2.1;have HU3:=gO xA.2.2.1;have HB3:=gO xA.2.2.2;have ht2:w.heap.size+1<w2.heap.size:=gI hsz N.size;have ht3:w.heap.size+1<(((((((w2.setCell ⟨w.heap.size,0,aJ⟩ (aA f.a1 f.n1 f.c1)).setCell ⟨w.heap.size,1,aJ⟩ (aA f.hc.az 2 f.hc.cz)).setCell ⟨w.heap.size,2,aJ⟩ (aA f.hc.am 2 f.hc.cm)).setCell ⟨w.heap.size,3,aJ⟩ (aB aI (s.h.aP:Int))).setCell ⟨w.heap.size,4,aJ⟩ (aA f.hc.al f.hc.lc.length f.hc.cl)).setCell ⟨w.heap.size,5,aJ⟩ (aA f.hc.av s.h.live.length f.hc.cv)).setCell ⟨w.heap.size,6,aJ⟩ (aA f.a2 f.ys.length f.c2)).heap.size:=by simpa using ht2
 clear K12 F12 y0 y1 y2 y3 y4 y5 y6 f0 f1 f2 f3 f4 f5 f6 xA hnew HA k0 k1 k2 k3 k4 k5 k6 HK1 HF1 HK2 HF2 N ht2 HB1;generalize ((((((w2.setCell _ _).setCell _ _).setCell _ _).setCell _ _).setCell _ _).setCell _ _).setCell _ _=w3 at*;clear hsz hsz1;obtain⟨g0,g1,g2,g3,g4,g5,g6⟩:=gA7 HS3.out.k;go_upto_region 7 with (go_at_call 18;refine(aHF.out f w3 HS3.out.r.at).mono ?_;rintro ev w4 ⟨rfl,Y⟩)
 have E:=gO (HS3.out.below Y);have HT4:=gO (aQ HT3.out ht3 Y);have HU4:=gO (aU HU3.out ht3 Y);have HB4:=gO (gW HB3.out Y);have ht4:=gI ht3 Y.size;clear g0 g1 g2 g3 g4 g5 g6 Y HS3 HT3 HU3 HB3 ht3 aHF;have hi1:i<f.ys.length:=by
  have h:=congrArg List.length E.out.r.cy;simp only[gTe]at h;omega
 have hvl:f.ys.length<=20:=by
  have h:=congrArg List.length E.out.r.cy;simp only[gTe]at h;omega
 have YW:f.ys[i].c=c:=by
  have h1:=congrArg (·[i]?) E.out.r.cy;simp only[List.getElem?_map,gJ hi1,Option.map_some]at h1;rw[Dz.out]at h1;exact gP h1
 obtain⟨H,ha2,qW,Ov,VJ,hcc⟩:=E.out.r.Vl hi1;obtain⟨hr1,hr2,hr3⟩:=E.out.r.y (gL hi1);obtain⟨y,hy⟩:∃y,f.ys[i]=y:=⟨_,rfl⟩
 have HY:=gO hy;rw[hy]at hcc hr2 hr3 YW;subst YW;obtain⟨hks,O⟩:=gK.1 HCX.out;have K:∀j,j<3->∃g,y.a2=aK ⟨g,0,aJ⟩/\g<w4.heap.size/\w4.cell? ⟨g,k*3+j,aJ⟩=(bQ x)[j]? /\w4.frozen? ⟨g,k*3+j,aJ⟩=false:=λj hj=>by
  have hlen:k*3+j<(flat bQ y.c.sl).length:=by rw[flat_length aY];omega
  obtain⟨g,h1,_,h2,h3,h4⟩:=oI hr2 (k*3+j) hlen;refine⟨g,h1,h2,?_,h4⟩;rw[h3,<- O,<- flat_get aY y.c.sl k hks j hj];exact(gJ hlen).symm
 obtain⟨gs,hgs,OB,s0,p0⟩:=K 0 (by decide);obtain⟨gs1,Oe,_,P,p1⟩:=K 1 (by decide);obtain⟨gs2,Hw,_,s2,p2⟩:=K 2 (by decide);obtain rfl:gs=gs1:=by rw[hgs]at Oe;simpa using Oe
 obtain rfl:gs=gs2:=by rw[hgs]at Hw;simpa using Hw
 simp only[bQ,vI,gC,gD,Nat.add_zero]at s0 P s2;obtain⟨gw,hgw,aHG,aPg,aPh,hwc,hwf⟩:=E.out.r.wAt aK5;have hws:gs≠gw:=λe=>E.out.r.aHw hi1 hy hgw (by unfold oO;rw[hgs,e];rfl)
 have b4:=(hcc 4 (by decide)).1;simp only[fD,vI,gC,gD]at b4;rw[hgs]at b4;have g6:=E.out.k 6;have g0:=E.out.k 0;unfold Sc.vals at g0 g6;simp only[gB,gC,gD]at g0 g6;rw[ha2]at g6;rw[hgw]at g0;have hl2:y.c.sl.length=y.n2:=bT aY (by decide) hr2;have hl3:y.c.ac.length=y.n3:=by have:=hr3.1;unfold sO at this;simpa using this
 have hkn:(k:Int)<y.n2:=by omega
 have hii:(i:Int)<f.ys.length:=by omega
 have hn1:f.n1=4096:=by rw[<- E.out.r.at.lw,hwl]
 have han:(a:Int)<f.n1:=by omega
 have HHI:=gO hi1;have HA2:=gO ha2;have HGS:=gO hgs;have HGW:=gO hgw;have TS:=gO O;have HL2:=gO hl2;have HL3:=gO hl3;have HKS:=gO hks;clear K Oe Hw hcc hy hr1 hr2 hr3 O hgs hgw ha2 hl2 hl3 hwl hn1;go_upto_region 9 with fail
 have S:=(gX w4.heap.size w4).drew;have HS5:=gO (E.out.below S);have HT5:=gO (aQ HT4.out ht4 S);have HU5:=gO (aU HU4.out ht4 S);have HB5:=gO (gW HB4.out S);have ht5:=gI ht4 S.size;have s0':=(S.cell (p:=⟨gs,k*3,aJ⟩) OB).trans s0;have s1':=(S.cell (p:=⟨gs,k*3+1,aJ⟩) OB).trans P;have s2':=(S.cell (p:=⟨gs,k*3+2,aJ⟩) OB).trans s2;have p1':=(S.frozen (p:=⟨gs,k*3+1,aJ⟩) OB).trans p1;have p2':=(S.frozen (p:=⟨gs,k*3+2,aJ⟩) OB).trans p2;have hwc':=(S.cell (p:=⟨gw,a,aJ⟩) aHG).trans hwc;have hwf':=(S.frozen (p:=⟨gw,a,aJ⟩) aHG).trans hwf
 go_still_tail 8,(by kernel_rfl)
 change wpList _ _ _ _ _ w4.drew;have HGC4:=gO (show H<w4.drew.heap.size from gI qW S.size);clear s0 P s2 p0 p1 p2 hwc hwf S E HT4 HU4 HB4 ht4 g0 g6 b4 qW;generalize w4.drew=w5 at*;have u:=HS5.out.aHv HHI.out HY.out HGS.out HKS.out HGW.out a x.h (a:Int) (n':=x.n+1);rw[TS.out]at u;rw[<- HPE.out]at u;have hxx:((x.n+1:Nat):Int)=(x.n:Int)+1:=by omega
 unfold vI at u;rw[hxx]at u;have HPU:=gO u;clear u hxx;go_upto_region 12 with fail
 have G:=HPU.out.2;have HS6:=gO HPU.out.1;have HT6:=gO (G.box HT5.out ht5 (.inr rfl));have Z:=gO (G.WV HU5.out ht5 (.inr rfl));have J:=gI ht5 G.size;have HB6:Hid (Below w.heap.size w _):=Safe.after HB5.out G (λk hk=> .inl hk) HB5.out.size;clear G HPU HT5 HU5 ht5 HB5 HS5 s0' s1' s2' p1' p2' hwc' hwf' HGC4;generalize (((w5.setCell _ _).setCell _ _).setCell _ _)=D at*;obtain⟨d,X⟩:∃d:Cc,d={y with c:={y.c with sl:=y.c.sl.set k ⟨x.p,x.n+1,(a:Int)⟩}}:=⟨_,rfl⟩
 obtain⟨t,U⟩:∃t,t=f.fA i d:=⟨_,rfl⟩
 obtain⟨x',hx'⟩:∃x':Sl,x'=⟨x.p,x.n+1,(a:Int)⟩:=⟨_,rfl⟩
 have hi2:i<t.ys.length:=by rw[U];unfold Sc.fA;simpa using HHI.out
 have hvi:t.ys[i]=d:=by subst U;simp[Sc.fA]
 have hva:t.a2=aK ⟨H,0,aJ⟩:=by rw[U];exact HA2.out
 have hya:d.a2=aK ⟨gs,0,aJ⟩:=by rw[X];exact HGS.out
 have hyn:d.n2=y.n2:=by rw[X]
 have LV:Hid (SS D w.heap.size (λk=>k<w.heap.size∨k=w.heap.size+1) (s.push i k a) t):=by
  unfold Hid;rw[U,X];exact HS6.out
 have HK6:=gO HP.out.1;have hc6:(s.push i k a).cs[i]? =aK d.c:=by rw[HP.out.2.2,X]
 have hx6:d.c.sl[k]? =aK x':=by
  rw[X,hx'];show(y.c.sl.set k _)[k]? =_;rw[List.getElem?_set_self HKS.out]
 have aHH:(s.push i k a).h.aP=s.h.aP:=by rw[HPE.out]
 obtain⟨P,V⟩:∃P,s.push i k a=P:=⟨_,rfl⟩
 have yX:Hid (s.free i k a cpu=if P.spare i k then P.discard i k cpu else P):=by
  unfold Hid Sy.free;rw[V]
 rw[V]at LV HK6 hc6 aHH;have aHI:cpu<P.h.aP:=by omega
 have hsp:P.spare i k=(d.c.idle x'&&decide (1<(d.c.sl.filter d.c.idle).length)):=by
  unfold Sy.spare Ca.spare;rw[hc6];simp only[hx6]
 have HCK6:=gO (HK6.out.ck _ (gM hc6));have KJ:=gO (LV.out.r.at.ca d (by rw[<- hvi];exact gL hi2));have hn2:d.n2<=256:=by
  have h1:=KJ.out.l2;have h2:=HCK6.out.nS HK6.out.hk;omega
 have hn3:d.n3<=1000:=by
  have h1:=KJ.out.l3;have h2:=HCK6.out.ac;have h3:=HK6.out.hk.cp.2;omega
 have aPj:t.ys.length<=20:=by rw[U];unfold Sc.fA;simpa using hvl
 have hii2:(i:Int)<t.ys.length:=by omega
 have hkn2:(k:Int)<d.n2:=by rw[hyn];exact hkn
 obtain⟨gc2,Rk,FP,_,_,sD⟩:=LV.out.r.Vl hi2;obtain rfl:H=gc2:=by rw[hva]at Rk;simpa using Rk
 rw[hvi]at sD;have b0:=(sD 0 (by decide)).1;have b1:=(sD 1 (by decide)).1;have b2:=(sD 2 (by decide)).1;have b3:=(sD 3 (by decide)).1;have b4:=(sD 4 (by decide)).1;have b5:=(sD 5 (by decide)).1;simp only[fD,vI,gC,gD,Nat.add_zero]at b0 b1 b2 b3 b4 b5;rw[hya]at b4;have aHJ:k<d.c.sl.length:=(gK.1 hx6).1;have aHK:d.c.sl[k]=x':=(gK.1 hx6).2;obtain⟨sb,so,hsb,KQ,vU⟩:=aZ aY (by decide) KJ.out.r2 aHJ;rw[hya]at hsb;obtain⟨rfl,rfl⟩:sb=gs/\so=0:=by simpa[eq_comm]using hsb
 obtain⟨e0,e1,e2⟩:=iK vU;rw[aHK]at e0 e1 e2;simp only[Nat.zero_add]at e0 e1 e2;have L0:∀W,Below D.heap.size D W->W.cell? ⟨H,i*6,aJ⟩=aK (aA d.a1 d.n1 d.c1):=λW h=>(h.cell (p:=⟨H,i*6,aJ⟩) FP).trans b0
 have L1:∀W,Below D.heap.size D W->W.cell? ⟨H,i*6+1,aJ⟩=aK (aB aI (d.c.z:Int)):=λW h=>(h.cell (p:=⟨H,i*6+1,aJ⟩) FP).trans b1
 have L2:∀W,Below D.heap.size D W->W.cell? ⟨H,i*6+2,aJ⟩=aK (aB aI (d.c.r:Int)):=λW h=>(h.cell (p:=⟨H,i*6+2,aJ⟩) FP).trans b2
 have L3:∀W,Below D.heap.size D W->W.cell? ⟨H,i*6+3,aJ⟩=aK (aB aI (d.c.o:Int)):=λW h=>(h.cell (p:=⟨H,i*6+3,aJ⟩) FP).trans b3
 have L4:∀W,Below D.heap.size D W->W.cell? ⟨H,i*6+4,aJ⟩=aK (aA (aK ⟨sb,0,aJ⟩) d.n2 d.c2):=λW h=>(h.cell (p:=⟨H,i*6+4,aJ⟩) FP).trans b4
 have L5:∀W,Below D.heap.size D W->W.cell? ⟨H,i*6+5,aJ⟩=aK (aA d.a3 d.n3 d.c3):=λW h=>(h.cell (p:=⟨H,i*6+5,aJ⟩) FP).trans b5
 have PI:Hid (∀(z:Sl) W,Below D.heap.size D W->Calls prog 78 #[aC #[aA d.a1 d.n1 d.c1,aB aI d.c.z,aB aI d.c.r,aB aI d.c.o,aA (aK ⟨sb,0,aJ⟩) d.n2 d.c2,aA d.a3 d.n3 d.c3],aC #[aB aI z.p,aB aI z.n,aB aI z.h]] W λev w'=>ev=aN (.bool (d.c.idle z))/\Below W.heap.size W w'):=λz W hW=>by
  have h:=YU d z W KJ.out.l3 hn3 (KJ.out.r3.below hW);rw[hya]at h;exact h
 have HID1:=gO (PI.out x');have Yb:=gO hsp;have HHI2:=gO hi2;have HVI:=gO hvi;have HYA:=gO hya;have aEn:=gO KJ.out.l2;have LS0:∀W,Below D.heap.size D W->W.cell? ⟨sb,k*3,aJ⟩=aK (aB aI (x'.p:Int)):=λW h=>(h.cell (p:=⟨sb,k*3,aJ⟩) KQ).trans e0
 have LS1:∀W,Below D.heap.size D W->W.cell? ⟨sb,k*3+1,aJ⟩=aK (aB aI (x'.n:Int)):=λW h=>(h.cell (p:=⟨sb,k*3+1,aJ⟩) KQ).trans e1
 have LS2:∀W,Below D.heap.size D W->W.cell? ⟨sb,k*3+2,aJ⟩=aK (aB aI x'.h):=λW h=>(h.cell (p:=⟨sb,k*3+2,aJ⟩) KQ).trans e2
 obtain⟨bi,hbi⟩:∃bi,d.c.idle x'=bi:=⟨_,rfl⟩
 rw[hbi]at hsp HID1 Yb;have HBI:=gO hbi;have HL0:=gO L0;have HL1:=gO L1;have HL2:=gO L2;have HL3:=gO L3;have HL4:=gO L4;have HL5:=gO L5;have aPm:=gO KQ;clear hsp hbi b0 b1 b2 b3 b4 b5 e0 e1 e2 hvi hva hya hyn hc6 hx6 sD aHJ aHK hsb vU U X hx' HS6 HP HPE Dz HCX uK HY TS V Rk aHH hvl hii hkn HHI HKS hkl hks hil;go_cut [81] (λs81 wx=>s81= .bool bi/\Hid (Below D.heap.size D wx))
 case first=>
  go_region_held3 (λW=>Below D.heap.size D W) ((repeat (first | with_reducible assumption | with_reducible exact gX _ _ | with_reducible refine Below.setCell ?_ ?_ _ | with_reducible apply Below.drew | with_reducible refine gW ?_ (aT _ _) | with_reducible refine gW ?_ (by with_reducible assumption) | (simp only;omega))))(first | (go_at_call 78;refine(HID1.out _ (by with_reducible assumption)).mono ?_;rintro ev w7 ⟨rfl,hb7⟩))
  all_goals
   go_wp2_with fail
   go_meet
   exact⟨by first | rfl | trivial,by assumption⟩
 case rest=>
  obtain⟨rfl,L⟩:=hcut;obtain⟨w7,rfl⟩:∃w7,w7=wc:=⟨_,rfl⟩
  clear L0 L1 L2 L3 L4 L5 LS0 LS1 LS2 HID1;have Q:=gO (HB6.out.trans (L.out.mono (gR (Nat.lt_of_succ_lt J))));cases bi with
  | false=>
   have GL:sF=P:=by
    rw[<- HsF.out,yX.out,Yb.out];rfl
   subst GL;have B:=gO (LV.out.below L.out);have C:=gO (aQ HT6.out J L.out);have xB:=gO (aU Z.out J L.out);have xC:=Q;clear LV HT6 Z L Q PI Yb yX HL0 HL1 HL2 HL3 HL4 HL5;have z0:=B.out.k 0;have z1:=B.out.k 1;have z2:=B.out.k 2;have z3:=B.out.k 3;have z4:=B.out.k 4;have z5:=B.out.k 5;have z6:=B.out.k 6;unfold Sc.vals at z0 z1 z2 z3 z4 z5 z6;have q0:=C.out 0;have q1:=C.out 1;have q2:=C.out 2;have q3:=C.out 3;have q4:=C.out 4;have q5:=C.out 5;have q6:=C.out 6;obtain⟨f0,f1,f2,f3,f4,f5,f6⟩:=gF7 xB.out;simp only[gB,gC,gD]at z0 z1 z2 z3 z4 z5 z6 q0 q1 q2 q3 q4 q5 q6;have R:=out7 B.out (T:=w.heap.size+1) (.inr rfl) (λk hk=> .inl hk) (Nat.lt_succ_self _) C.out xC.out;have KX:=R.1;have pO:=gO R.2.1;have kP:=gO R.2.2;clear R B C xB xC;go_wp2_with fail
   generalize ((((((w7.setCell _ _).setCell _ _).setCell _ _).setCell _ _).setCell _ _).setCell _ _).setCell _ _=wx at*;exact bodyPost_ret (v:=aG #[aC #[aA t.a1 t.n1 t.c1,aA t.hc.az 2 t.hc.cz,aA t.hc.am 2 t.hc.cm,aB aI (sF.h.aP:Int),aA t.hc.al t.hc.lc.length t.hc.cl,aA t.hc.av sF.h.live.length t.hc.cv,aA t.a2 t.ys.length t.c2],aB aI 0]) (by simp[results,results40,go_sem,KX]) rfl (⟨t,rfl,pO.out,kP.out⟩)
  | true=>
   have b4:=HL4.out w7 L.out;go_wp2_with fail
   clear b4;go_loopw [16,87] (λs16 s87 wr=>∃(j q:Nat),j<=d.n2/\s87=aB aI (j:Int)/\s16=aB aI (q:Int)/\q<=j/\Hid (((d.c.sl.take j).filter d.c.idle).length=q)/\Hid (Below D.heap.size D wr)) (λs16 s87 _=>d.n2-(intOf s87).toNat)
   case atStart=>exact⟨0,0,gU _,rfl,rfl,gU _,rfl,L⟩
   case round=>
    obtain⟨j,q,hjn,rfl,rfl,hqj,HQ,oH⟩:=hrel;by_cases hlt:j<d.n2
    ·have hji:(j:Int)<d.n2:=by omega
     have hjs:j<d.c.sl.length:=by have:=aEn.out;omega
     obtain⟨sb2,so2,aEo,aM3,aCW⟩:=aZ aY (by decide) (KJ.out.r2.below oH.out) hjs;rw[HYA.out]at aEo;obtain⟨rfl,rfl⟩:sb=sb2/\so2=0:=by simpa[eq_comm]using aEo
     obtain⟨n0,n1,n2⟩:=iK aCW;simp only[Nat.zero_add]at n0 n1 n2;have HZ:Hid ((((d.c.sl.take (j+1)).filter d.c.idle).length:Nat)=q+(if d.c.idle d.c.sl[j]then 1 else 0)):=by
      unfold Hid;rw[List.take_succ_eq_append_getElem hjs,List.filter_append,gTb,HQ.out];congr 1;by_cases h:d.c.idle d.c.sl[j]=true <;> simp[h]
     have HI:=gO (PI.out d.c.sl[j]);generalize d.c.sl[j]=z at*;have b9:=aT wr (aO #[aB aI (z.p:Int),aB aI (z.n:Int),aB aI z.h] 99);have KX:=bI wr #[aB aI (z.p:Int),aB aI (z.n:Int),aB aI z.h] 99;have hs9:wr.heap.size<(wr.alloc (aO #[aB aI (z.p:Int),aB aI (z.n:Int),aB aI z.h] 99)).heap.size:=by simp
     have A:=gO (gW oH.out b9);have m0:=KX 0;have m1:=KX 1;have m2:=KX 2;simp only[gB,gC,gD]at m0 m1 m2;clear KX b9 aCW aEo;go_upto_region 17 with fail
     clear n0 n1 n2;generalize (wr.alloc _)=F at*;generalize wr.heap.size=BX at*;have L0:∀W,Below F.heap.size F W->W.cell? ⟨H,i*6,aJ⟩=aK (aA d.a1 d.n1 d.c1):=λW h=>HL0.out W (A.out.trans (h.mono A.out.size))
     have L1:∀W,Below F.heap.size F W->W.cell? ⟨H,i*6+1,aJ⟩=aK (aB aI (d.c.z:Int)):=λW h=>HL1.out W (A.out.trans (h.mono A.out.size))
     have L2:∀W,Below F.heap.size F W->W.cell? ⟨H,i*6+2,aJ⟩=aK (aB aI (d.c.r:Int)):=λW h=>HL2.out W (A.out.trans (h.mono A.out.size))
     have L3:∀W,Below F.heap.size F W->W.cell? ⟨H,i*6+3,aJ⟩=aK (aB aI (d.c.o:Int)):=λW h=>HL3.out W (A.out.trans (h.mono A.out.size))
     have L4:∀W,Below F.heap.size F W->W.cell? ⟨H,i*6+4,aJ⟩=aK (aA (aK ⟨sb,0,aJ⟩) d.n2 d.c2):=λW h=>HL4.out W (A.out.trans (h.mono A.out.size))
     have L5:∀W,Below F.heap.size F W->W.cell? ⟨H,i*6+5,aJ⟩=aK (aA d.a3 d.n3 d.c3):=λW h=>HL5.out W (A.out.trans (h.mono A.out.size))
     have L6:∀W,Below F.heap.size F W->W.cell? ⟨BX,0,aJ⟩=aK (aB aI (z.p:Int)):=λW h=>(h.cell (p:=⟨BX,0,aJ⟩) hs9).trans m0
     have L7:∀W,Below F.heap.size F W->W.cell? ⟨BX,1,aJ⟩=aK (aB aI (z.n:Int)):=λW h=>(h.cell (p:=⟨BX,1,aJ⟩) hs9).trans m1
     have L8:∀W,Below F.heap.size F W->W.cell? ⟨BX,2,aJ⟩=aK (aB aI z.h):=λW h=>(h.cell (p:=⟨BX,2,aJ⟩) hs9).trans m2
     have HI9:Hid (∀W,Below F.heap.size F W->Calls prog 78 #[aC #[aA d.a1 d.n1 d.c1,aB aI d.c.z,aB aI d.c.r,aB aI d.c.o,aA (aK ⟨sb,0,aJ⟩) d.n2 d.c2,aA d.a3 d.n3 d.c3],aC #[aB aI z.p,aB aI z.n,aB aI z.h]] W λev w'=>ev=aN (.bool (d.c.idle z))/\Below W.heap.size W w'):=λW h=>HI.out W (A.out.trans (h.mono A.out.size))
     obtain⟨bz,hbz⟩:∃bz,d.c.idle z=bz:=⟨_,rfl⟩
     rw[hbz]at HZ HI9;clear m0 m1 m2 hbz HI;go_cut [85,86,87,95] (λs85 s86 s87 s95 wx=>s85=aA (aK ⟨sb,0,aJ⟩) d.n2 d.c2/\s86=aB aI (d.n2:Int)/\s87=aB aI (j:Int)/\s95= .bool bz/\Hid (Below F.heap.size F wx))
     case first=>
      go_region_held3 (λW=>Below F.heap.size F W) ((repeat (first | with_reducible assumption | with_reducible exact gX _ _ | with_reducible refine Below.setCell ?_ ?_ _ | with_reducible apply Below.drew | with_reducible refine gW ?_ (aT _ _) | with_reducible refine gW ?_ (by with_reducible assumption) | (simp only;omega))))(first | (go_at_call 78;refine(HI9.out _ (by with_reducible assumption)).mono ?_;rintro ev w10 ⟨rfl,nZ⟩))
      all_goals
       go_wp2_with fail
       go_meet
       exact⟨by first | rfl | trivial,by first | rfl | trivial,by first | rfl | trivial,by first | rfl | trivial,by assumption⟩
     case rest=>
      obtain⟨rfl,rfl,rfl,rfl,HB10⟩:=hcut;clear L0 L1 L2 L3 L4 L5 L6 L7 L8 HI9;have Np:=gO (A.out.trans (HB10.out.mono A.out.size));cases bz with
      | false=>
       go_wp2
       go_roundw
       case rel=>exact⟨j+1,q,by omega,by go_num,by first | rfl | trivial,by omega,HZ,Np⟩
       case measure=>simp[intOf];omega
      | true=>
       go_wp2
       go_roundw
       case rel=>exact⟨j+1,q+1,by omega,by go_num,by go_num,by omega,HZ,Np⟩
       case measure=>simp[intOf];omega
    ·obtain rfl:j=d.n2:=by omega
     have HQN:Hid ((d.c.sl.filter d.c.idle).length=q):=by
      have h:=HQ.out;rw[gTf (by have:=aEn.out;omega)]at h;exact h
     by_cases hq:1<q
     ·have hqi:(1:Int)<q:=by omega
      have GL:sF=P.discard i k cpu:=by
       rw[<- HsF.out,yX.out,Yb.out,HQN.out,gTg hq];rfl
      have lD:=LV.out.below oH.out;have HTr:=gO (aQ HT6.out J oH.out);have HUr:=gO (aU Z.out J oH.out);have aEp:=gO (HB6.out.trans (oH.out.mono (gR (Nat.lt_of_succ_lt J))));have htr:=gI J oH.out.size;have HDC:=gO (DC t P w.heap.size i k cpu (λk=>k<w.heap.size∨k=w.heap.size+1) wr lD HK6.out hi2 (by rw[HVI.out];have:=aEn.out;omega) aHI);clear LV HT6 Z L Q PI Yb HL0 HL1 HL2 HL3 HL4 HL5 lD HQ oH yX HsF;go_upto_region 22 with (go_at_call 79;refine HDC.out.mono ?_;rintro ev w20 ⟨rfl,M,aEq,aBJ,aK7⟩)
      rw[<- GL]at aEq;have B:=gO aEq;have C:=gO (aBJ.box HTr.out htr (.inr rfl));have xB:=gO (aBJ.WV HUr.out htr (.inr rfl));have xC:Hid (Below w.heap.size w w20):=Safe.after aEp.out aBJ (λk hk=> .inl hk) aEp.out.size;clear aEq aBJ aK7 HTr HUr aEp HDC GL;have z0:=B.out.k 0;have z1:=B.out.k 1;have z2:=B.out.k 2;have z3:=B.out.k 3;have z4:=B.out.k 4;have z5:=B.out.k 5;have z6:=B.out.k 6;unfold Sc.vals at z0 z1 z2 z3 z4 z5 z6;have q0:=C.out 0;have q1:=C.out 1;have q2:=C.out 2;have q3:=C.out 3;have q4:=C.out 4;have q5:=C.out 5;have q6:=C.out 6;obtain⟨f0,f1,f2,f3,f4,f5,f6⟩:=gF7 xB.out;simp only[gB,gC,gD]at z0 z1 z2 z3 z4 z5 z6 q0 q1 q2 q3 q4 q5 q6;have R:=out7 B.out (T:=w.heap.size+1) (.inr rfl) (λk hk=> .inl hk) (Nat.lt_succ_self _) C.out xC.out;have KX:=R.1;have pO:=gO R.2.1;have kP:=gO R.2.2;clear R B C xB xC;go_wp2_with fail
      generalize ((((((w20.setCell _ _).setCell _ _).setCell _ _).setCell _ _).setCell _ _).setCell _ _).setCell _ _=wx at*;exact bodyPost_ret (v:=aG #[aC #[aA M.a1 M.n1 M.c1,aA M.hc.az 2 M.hc.cz,aA M.hc.am 2 M.hc.cm,aB aI (sF.h.aP:Int),aA M.hc.al M.hc.lc.length M.hc.cl,aA M.hc.av sF.h.live.length M.hc.cv,aA M.a2 M.ys.length M.c2],aB aI 0]) (by simp[results,results40,go_sem,KX]) rfl (⟨M,rfl,pO.out,kP.out⟩)
     ·have hqi:¬(1:Int)<q:=by omega
      have GL:sF=P:=by
       rw[<- HsF.out,yX.out,Yb.out,HQN.out,gV hq];rfl
      subst GL;have B:=gO (LV.out.below oH.out);have C:=gO (aQ HT6.out J oH.out);have xB:=gO (aU Z.out J oH.out);have xC:=gO (HB6.out.trans (oH.out.mono (gR (Nat.lt_of_succ_lt J))));clear LV HT6 Z L Q PI Yb yX HL0 HL1 HL2 HL3 HL4 HL5 HQ oH;have z0:=B.out.k 0;have z1:=B.out.k 1;have z2:=B.out.k 2;have z3:=B.out.k 3;have z4:=B.out.k 4;have z5:=B.out.k 5;have z6:=B.out.k 6;unfold Sc.vals at z0 z1 z2 z3 z4 z5 z6;have q0:=C.out 0;have q1:=C.out 1;have q2:=C.out 2;have q3:=C.out 3;have q4:=C.out 4;have q5:=C.out 5;have q6:=C.out 6;obtain⟨f0,f1,f2,f3,f4,f5,f6⟩:=gF7 xB.out;simp only[gB,gC,gD]at z0 z1 z2 z3 z4 z5 z6 q0 q1 q2 q3 q4 q5 q6;have R:=out7 B.out (T:=w.heap.size+1) (.inr rfl) (λk hk=> .inl hk) (Nat.lt_succ_self _) C.out xC.out;have KX:=R.1;have pO:=gO R.2.1;have kP:=gO R.2.2;clear R B C xB xC;go_wp2_with fail
      generalize ((((((wr.setCell _ _).setCell _ _).setCell _ _).setCell _ _).setCell _ _).setCell _ _).setCell _ _=wx at*;exact bodyPost_ret (v:=aG #[aC #[aA t.a1 t.n1 t.c1,aA t.hc.az 2 t.hc.cz,aA t.hc.am 2 t.hc.cm,aB aI (sF.h.aP:Int),aA t.hc.al t.hc.lc.length t.hc.cl,aA t.hc.av sF.h.live.length t.hc.cv,aA t.a2 t.ys.length t.c2],aB aI 0]) (by simp[results,results40,go_sem,KX]) rfl (⟨t,rfl,pO.out,kP.out⟩)
end Go.Proofs.YtjaogfhcnmjkiaaGreatDoor
