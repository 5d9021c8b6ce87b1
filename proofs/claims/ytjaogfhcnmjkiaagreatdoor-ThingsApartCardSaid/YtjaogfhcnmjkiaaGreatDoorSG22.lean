/- joined. -/
import Derived.Test.YtjaogfhcnmjkiaaGreatDoorSG18
set_option linter.all false
set_option maxRecDepth 100000
set_option maxHeartbeats 0
namespace Go.Proofs.YtjaogfhcnmjkiaaGreatDoor
open Go.RowKit
open Go.Value renaming slice->aA,int->aB,agg->aC,string->aF,tuple->aG,pointer->aH,ownBlock->gTh
open Go.IntKind renaming i64->aI
open Option renaming none->aJ,some->aK
open Go.Ending renaming returned->aN
open Go.Obj renaming cells->aO
open Go.Proofs.Tryz
def aHu (s':Sy)(w:World)(ev:Ending)(w':World):Prop:=∃a,ev=aN (aG #[.agg (a.vals s'),aB aI 0])/\fO w' w.heap.size s' a/\Below w.heap.size w w'
theorem PU (v:Sc)(s:Sy)(n:List UInt8)(cpu i k a:Nat)(c:Ca)(x:Sl)(w:World)(hs:lZ w v s)(hk:bQ s)(hf:∀c∈s.cs,c.ns.length<=1000)(hi:s.named n=aK i)(bJ:cpu<s.h.aAh)(hci:s.cs[i]? =aK c)(hcx:c.sl[k]? =aK x)(hout:mX s.w c x a):
 Calls prog 40 #[aC #[aA v.a1 v.n1 v.c1,aA v.hc.az 2 v.hc.cz,aA v.hc.am 2 v.hc.cm,aB aI (s.h.aAh:Int),aA v.hc.al v.hc.lc.length v.hc.cl,aA v.hc.av s.h.live.length v.hc.cv,aA v.a2 v.ys.length v.c2],aF ⟨n.toArray⟩,aB aI cpu,aB aI a] w (aHu (s.free i k a cpu) w):=by
 obtain⟨sF,Nh⟩:∃sF,s.free i k a cpu=sF:=⟨_,rfl⟩
 rw[Nh];have HsF:=gO Nh;clear Nh;obtain⟨K1,K2,F1,F2,hsz,hbw⟩:=boxes2 w #[aA v.a1 v.n1 v.c1,aA v.hc.az 2 v.hc.cz,aA v.hc.am 2 v.hc.cm,aB aI (s.h.aAh:Int),aA v.hc.al v.hc.lc.length v.hc.cl,aA v.hc.av s.h.live.length v.hc.cv,aA v.a2 v.ys.length v.c2] 42 #[aA aJ 0 0,aA aJ 0 0,aA aJ 0 0,aB aI 0,aA aJ 0 0,aA aJ 0 0,aA aJ 0 0] 42;obtain⟨hil,hic⟩:=gK.1 hci;obtain⟨hkl,O⟩:=gK.1 hcx;have hcm:=gM hci;have hxm:=gM hcx;have I:=hk.ck c hcm;have V:=hs.below hbw;have HA:=gO (Eu v s n cpu i _ V hk hf hi bJ);obtain⟨l,hl1,hl2,hl3⟩:=(I.sk x hxm).chain;have aHv:Hid (∀(f:Sc) (W:World),lZ W f s->Calls prog 18 #[aC #[aA f.a1 f.n1 f.c1,aA f.hc.az 2 f.hc.cz,aA f.hc.am 2 f.hc.cm,aB aI (s.h.aAh:Int),aA f.hc.al f.hc.lc.length f.hc.cl,aA f.hc.av s.h.live.length f.hc.cv,aA f.a2 f.ys.length f.c2],aB aI a] W λev w'=>ev=aN (aG #[aB aI i,aB aI k,aB aI 0])/\Below W.heap.size W w'):=λf W h=>by
  subst hic;exact RS f s i k a l W h hk hf hil hkl (by rw[O];exact hout.1) (by rw[O];exact hl1) (hout.2 l hl1)
 have u:=hk.push hci hcx hout;have hpe:=Uh (a:=a) hci hcx;have hxb: -1<=x.h/\x.h<4096:=by
  have h9:=aAB.1 hl1;cases l with
  | nil=>have:x.h= -1:=h9.1;omega
  | cons b m=>
   have e:x.h=b:=h9.1.1;have h8:=h9.2.1 b (by simp);rw[hk.wl]at h8;omega
 have hal:a<4096:=by
  have h1:=jK I.room hout.1;obtain⟨b,hb,hb1,N⟩:=(I.sk x hxm).live;obtain⟨_,_,h4,h5⟩:=(hk.hk.lv b hb).1;have hor:c.o<=2:=by rw[I.o];exact lK _
  rw[hb1,N]at h5;rw[hb1]at h4;generalize c.o=o at*;obtain rfl | rfl | rfl:o=0∨o=1∨o=2:=by omega
  ·simp only[Nat.pow_zero]at h1;omega
  ·simp only[Nat.pow_one]at h1 h5;omega
  ·have e4:(2:Nat)^2=4:=rfl;rw[e4]at h1 h5;omega
 have hxn:x.n<=64:=gQ (I.sk x hxm).QE I.r64;have hxp:=(I.sk x hxm).BM hk.hk;have aKK:a<s.w.length:=by rw[hk.wl];exact hal
 obtain⟨k0,k1,k2,k3,k4,k5,k6⟩:=gA7 K1;have HK:=gO hk;have qI:=gO I;have HB1:=gO hbw;have HK1:=gO K1;have HF1:=gO F1;have HK2:=gO K2;have HF2:=gO F2;have HP:=gO u;have HPE:=gO hpe;have DI:=gO hci;have HCX:=gO hcx;have TB:=bJ;have aOQ:=hk.cl;have aOR:=I.mW hk.hk;have hwl:=hk.wl;clear hs hk hf hi V K1 K2 F1 F2 hbw u hpe hci hcx hout hl1 hl2 hl3 I hic O hcm hxm;go_enter func40,ntmps40
 go_upto_region 1 with fail
 generalize (w.alloc _).alloc _=w1 at*;have hsz1:w.heap.size<w1.heap.size:=by omega
 go_upto_region 4 with (go_at_call 57;refine HA.out.mono ?_;rintro ev w2 ⟨f,he,hnew,N⟩;unfold YM Sc.vals at he;subst he;have K12:=aAp HK1.out hsz1 N;have F12:=aAt HF1.out hsz1 N;obtain⟨y0,y1,y2,y3,y4,y5,y6⟩:=gA7 K12;obtain⟨f0,f1,f2,f3,f4,f5,f6⟩:=gF7 F12;skip)
 have xE:=laid7 (T:=w.heap.size+1) HB1.out (Nat.lt_succ_self _) hsz HK1.out HF1.out HK2.out HF2.out N hnew;have HS3:=gO xE.1;have HT3:=gO xE.2.1;have HU3:=gO xE.2.2.1;have HB3:=gO xE.2.2.2;have ht2:w.heap.size+1<w2.heap.size:=gI hsz N.size;have ht3:w.heap.size+1<(((((((w2.setCell ⟨w.heap.size,0,aJ⟩ (aA f.a1 f.n1 f.c1)).setCell ⟨w.heap.size,1,aJ⟩ (aA f.hc.az 2 f.hc.cz)).setCell ⟨w.heap.size,2,aJ⟩ (aA f.hc.am 2 f.hc.cm)).setCell ⟨w.heap.size,3,aJ⟩ (aB aI (s.h.aAh:Int))).setCell ⟨w.heap.size,4,aJ⟩ (aA f.hc.al f.hc.lc.length f.hc.cl)).setCell ⟨w.heap.size,5,aJ⟩ (aA f.hc.av s.h.live.length f.hc.cv)).setCell ⟨w.heap.size,6,aJ⟩ (aA f.a2 f.ys.length f.c2)).heap.size:=by simpa using ht2
 clear K12 F12 y0 y1 y2 y3 y4 y5 y6 f0 f1 f2 f3 f4 f5 f6 xE hnew HA k0 k1 k2 k3 k4 k5 k6 HK1 HF1 HK2 HF2 N ht2 HB1;generalize ((((((w2.setCell _ _).setCell _ _).setCell _ _).setCell _ _).setCell _ _).setCell _ _).setCell _ _=w3 at*;clear hsz hsz1;obtain⟨g0,g1,g2,g3,g4,g5,g6⟩:=gA7 HS3.out.k;go_upto_region 7 with (go_at_call 18;refine(aHv.out f w3 HS3.out.r.at).mono ?_;rintro ev w4 ⟨rfl,Y⟩)
 have E:=gO (HS3.out.below Y);have HT4:=gO (aAp HT3.out ht3 Y);have HU4:=gO (aAt HU3.out ht3 Y);have HB4:=gO (gW HB3.out Y);have ht4:=gI ht3 Y.size;clear g0 g1 g2 g3 g4 g5 g6 Y HS3 HT3 HU3 HB3 ht3 aHv;have hi1:i<f.ys.length:=by
  have h:=congrArg List.length E.out.r.cy;simp only[gTe]at h;omega
 have hvl:f.ys.length<=20:=by
  have h:=congrArg List.length E.out.r.cy;simp only[gTe]at h;omega
 have Zb:f.ys[i].c=c:=by
  have h1:=congrArg (·[i]?) E.out.r.cy;simp only[List.getElem?_map,gJ hi1,Option.map_some]at h1;rw[DI.out]at h1;exact gP h1
 obtain⟨H,ha2,o9,Lu,Rz,hcc⟩:=E.out.r.TN hi1;obtain⟨hr1,hr2,hr3⟩:=E.out.r.y (gL hi1);obtain⟨y,hy⟩:∃y,f.ys[i]=y:=⟨_,rfl⟩
 have HY:=gO hy;rw[hy]at hcc hr2 hr3 Zb;subst Zb;obtain⟨hks,O⟩:=gK.1 HCX.out;have K:∀j,j<3->∃g,y.a2=aK ⟨g,0,aJ⟩/\g<w4.heap.size/\w4.cell? ⟨g,k*3+j,aJ⟩=(aY x)[j]? /\w4.frozen? ⟨g,k*3+j,aJ⟩=false:=λj hj=>by
  have hlen:k*3+j<(flat aY y.c.sl).length:=by rw[flat_length aAv];omega
  obtain⟨g,h1,_,h2,h3,h4⟩:=mQ hr2 (k*3+j) hlen;refine⟨g,h1,h2,?_,h4⟩;rw[h3,<- O,<- flat_get aAv y.c.sl k hks j hj];exact(gJ hlen).symm
 obtain⟨gs,hgs,OG,s0,p0⟩:=K 0 (by decide);obtain⟨gs1,Om,_,P,p1⟩:=K 1 (by decide);obtain⟨gs2,Ih,_,s2,p2⟩:=K 2 (by decide);obtain rfl:gs=gs1:=by rw[hgs]at Om;simpa using Om
 obtain rfl:gs=gs2:=by rw[hgs]at Ih;simpa using Ih
 simp only[aY,vI,gC,gD,Nat.add_zero]at s0 P s2;obtain⟨gw,hgw,aHw,aOS,aOT,hwc,hwf⟩:=E.out.r.wAt aKK;have hws:gs≠gw:=λe=>E.out.r.aHn hi1 hy hgw (by unfold nT;rw[hgs,e];rfl)
 have b4:=(hcc 4 (by decide)).1;simp only[dX,vI,gC,gD]at b4;rw[hgs]at b4;have g6:=E.out.k 6;have g0:=E.out.k 0;unfold Sc.vals at g0 g6;simp only[gB,gC,gD]at g0 g6;rw[ha2]at g6;rw[hgw]at g0;have hl2:y.c.sl.length=y.n2:=aZ aAv (by decide) hr2;have hl3:y.c.ac.length=y.n3:=by have:=hr3.1;unfold rX at this;simpa using this
 have hkn:(k:Int)<y.n2:=by omega
 have hii:(i:Int)<f.ys.length:=by omega
 have hn1:f.n1=4096:=by rw[<- E.out.r.at.lw,hwl]
 have han:(a:Int)<f.n1:=by omega
 have HHI:=gO hi1;have HA2:=gO ha2;have HGS:=gO hgs;have HGW:=gO hgw;have Ui:=gO O;have HL2:=gO hl2;have HL3:=gO hl3;have HKS:=gO hks;clear K Om Ih hcc hy hr1 hr2 hr3 O hgs hgw ha2 hl2 hl3 hwl hn1;go_upto_region 9 with fail
 have S:=(gX w4.heap.size w4).drew;have HS5:=gO (E.out.below S);have HT5:=gO (aAp HT4.out ht4 S);have HU5:=gO (aAt HU4.out ht4 S);have HB5:=gO (gW HB4.out S);have ht5:=gI ht4 S.size;have s0':=(S.cell (p:=⟨gs,k*3,aJ⟩) OG).trans s0;have s1':=(S.cell (p:=⟨gs,k*3+1,aJ⟩) OG).trans P;have s2':=(S.cell (p:=⟨gs,k*3+2,aJ⟩) OG).trans s2;have p1':=(S.frozen (p:=⟨gs,k*3+1,aJ⟩) OG).trans p1;have p2':=(S.frozen (p:=⟨gs,k*3+2,aJ⟩) OG).trans p2;have hwc':=(S.cell (p:=⟨gw,a,aJ⟩) aHw).trans hwc;have hwf':=(S.frozen (p:=⟨gw,a,aJ⟩) aHw).trans hwf
 go_still_tail 8,(by kernel_rfl)
 change wpList _ _ _ _ _ w4.drew;have HGC4:=gO (show H<w4.drew.heap.size from gI o9 S.size);clear s0 P s2 p0 p1 p2 hwc hwf S E HT4 HU4 HB4 ht4 g0 g6 b4 o9;generalize w4.drew=w5 at*;have u:=HS5.out.aHm HHI.out HY.out HGS.out HKS.out HGW.out a x.h (a:Int) (n':=x.n+1);rw[Ui.out]at u;rw[<- HPE.out]at u;have hxx:((x.n+1:Nat):Int)=(x.n:Int)+1:=by omega
 unfold vI at u;rw[hxx]at u;have HPU:=gO u;clear u hxx;go_upto_region 12 with fail
 have G:=HPU.out.2;have HS6:=gO HPU.out.1;have HT6:=gO (G.box HT5.out ht5 (.inr rfl));have Z:=gO (G.Xe HU5.out ht5 (.inr rfl));have J:=gI ht5 G.size;have HB6:Hid (Below w.heap.size w _):=Safe.after HB5.out G (λk hk=> .inl hk) HB5.out.size;clear G HPU HT5 HU5 ht5 HB5 HS5 s0' s1' s2' p1' p2' hwc' hwf' HGC4;generalize (((w5.setCell _ _).setCell _ _).setCell _ _)=D at*;obtain⟨d,X⟩:∃d:Cc,d={y with c:={y.c with sl:=y.c.sl.set k ⟨x.p,x.n+1,(a:Int)⟩}}:=⟨_,rfl⟩
 obtain⟨t,U⟩:∃t,t=f.dU i d:=⟨_,rfl⟩
 obtain⟨x',hx'⟩:∃x':Sl,x'=⟨x.p,x.n+1,(a:Int)⟩:=⟨_,rfl⟩
 have hi2:i<t.ys.length:=by rw[U];unfold Sc.dU;simpa using HHI.out
 have hvi:t.ys[i]=d:=by subst U;simp[Sc.dU]
 have hva:t.a2=aK ⟨H,0,aJ⟩:=by rw[U];exact HA2.out
 have hya:d.a2=aK ⟨gs,0,aJ⟩:=by rw[X];exact HGS.out
 have hyn:d.n2=y.n2:=by rw[X]
 have MH:Hid (SS D w.heap.size (λk=>k<w.heap.size∨k=w.heap.size+1) (s.push i k a) t):=by
  unfold Hid;rw[U,X];exact HS6.out
 have HK6:=gO HP.out.1;have hc6:(s.push i k a).cs[i]? =aK d.c:=by rw[HP.out.2.2,X]
 have hx6:d.c.sl[k]? =aK x':=by
  rw[X,hx'];show(y.c.sl.set k _)[k]? =_;rw[List.getElem?_set_self HKS.out]
 have aHx:(s.push i k a).h.aAh=s.h.aAh:=by rw[HPE.out]
 obtain⟨P,V⟩:∃P,s.push i k a=P:=⟨_,rfl⟩
 have wB:Hid (s.free i k a cpu=if P.spare i k then P.discard i k cpu else P):=by
  unfold Hid Sy.free;rw[V]
 rw[V]at MH HK6 hc6 aHx;have aHy:cpu<P.h.aAh:=by omega
 have hsp:P.spare i k=(d.c.idle x'&&decide (1<(d.c.sl.filter d.c.idle).length)):=by
  unfold Sy.spare Ca.spare;rw[hc6];simp only[hx6]
 have HCK6:=gO (HK6.out.ck _ (gM hc6));have Lm:=gO (MH.out.r.at.ca d (by rw[<- hvi];exact gL hi2));have hn2:d.n2<=256:=by
  have h1:=Lm.out.l2;have h2:=HCK6.out.mW HK6.out.hk;omega
 have hn3:d.n3<=1000:=by
  have h1:=Lm.out.l3;have h2:=HCK6.out.ac;have h3:=HK6.out.hk.cp.2;omega
 have aOV:t.ys.length<=20:=by rw[U];unfold Sc.dU;simpa using hvl
 have hii2:(i:Int)<t.ys.length:=by omega
 have hkn2:(k:Int)<d.n2:=by rw[hyn];exact hkn
 obtain⟨gc2,RH,FY,_,_,rO⟩:=MH.out.r.TN hi2;obtain rfl:H=gc2:=by rw[hva]at RH;simpa using RH
 rw[hvi]at rO;have b0:=(rO 0 (by decide)).1;have b1:=(rO 1 (by decide)).1;have b2:=(rO 2 (by decide)).1;have b3:=(rO 3 (by decide)).1;have b4:=(rO 4 (by decide)).1;have b5:=(rO 5 (by decide)).1;simp only[dX,vI,gC,gD,Nat.add_zero]at b0 b1 b2 b3 b4 b5;rw[hya]at b4;have aHz:k<d.c.sl.length:=(gK.1 hx6).1;have aHA:d.c.sl[k]=x':=(gK.1 hx6).2;obtain⟨sb,so,hsb,LH,vX⟩:=aAw aAv (by decide) Lm.out.r2 aHz;rw[hya]at hsb;obtain⟨rfl,rfl⟩:sb=gs/\so=0:=by simpa[eq_comm]using hsb
 obtain⟨e0,e1,e2⟩:=fV vX;rw[aHA]at e0 e1 e2;simp only[Nat.zero_add]at e0 e1 e2;have L0:∀W,Below D.heap.size D W->W.cell? ⟨H,i*6,aJ⟩=aK (aA d.a1 d.n1 d.c1):=λW h=>(h.cell (p:=⟨H,i*6,aJ⟩) FY).trans b0
 have L1:∀W,Below D.heap.size D W->W.cell? ⟨H,i*6+1,aJ⟩=aK (aB aI (d.c.z:Int)):=λW h=>(h.cell (p:=⟨H,i*6+1,aJ⟩) FY).trans b1
 have L2:∀W,Below D.heap.size D W->W.cell? ⟨H,i*6+2,aJ⟩=aK (aB aI (d.c.r:Int)):=λW h=>(h.cell (p:=⟨H,i*6+2,aJ⟩) FY).trans b2
 have L3:∀W,Below D.heap.size D W->W.cell? ⟨H,i*6+3,aJ⟩=aK (aB aI (d.c.o:Int)):=λW h=>(h.cell (p:=⟨H,i*6+3,aJ⟩) FY).trans b3
 have L4:∀W,Below D.heap.size D W->W.cell? ⟨H,i*6+4,aJ⟩=aK (aA (aK ⟨sb,0,aJ⟩) d.n2 d.c2):=λW h=>(h.cell (p:=⟨H,i*6+4,aJ⟩) FY).trans b4
 have L5:∀W,Below D.heap.size D W->W.cell? ⟨H,i*6+5,aJ⟩=aK (aA d.a3 d.n3 d.c3):=λW h=>(h.cell (p:=⟨H,i*6+5,aJ⟩) FY).trans b5
 have PV:Hid (∀(z:Sl) W,Below D.heap.size D W->Calls prog 78 #[aC #[aA d.a1 d.n1 d.c1,aB aI d.c.z,aB aI d.c.r,aB aI d.c.o,aA (aK ⟨sb,0,aJ⟩) d.n2 d.c2,aA d.a3 d.n3 d.c3],aC #[aB aI z.p,aB aI z.n,aB aI z.h]] W λev w'=>ev=aN (.bool (d.c.idle z))/\Below W.heap.size W w'):=λz W hW=>by
  have h:=YZ d z W Lm.out.l3 hn3 (Lm.out.r3.below hW);rw[hya]at h;exact h
 have HID1:=gO (PV.out x');have QW:=gO hsp;have HHI2:=gO hi2;have HVI:=gO hvi;have HYA:=gO hya;have aEl:=gO Lm.out.l2;have LS0:∀W,Below D.heap.size D W->W.cell? ⟨sb,k*3,aJ⟩=aK (aB aI (x'.p:Int)):=λW h=>(h.cell (p:=⟨sb,k*3,aJ⟩) LH).trans e0
 have LS1:∀W,Below D.heap.size D W->W.cell? ⟨sb,k*3+1,aJ⟩=aK (aB aI (x'.n:Int)):=λW h=>(h.cell (p:=⟨sb,k*3+1,aJ⟩) LH).trans e1
 have LS2:∀W,Below D.heap.size D W->W.cell? ⟨sb,k*3+2,aJ⟩=aK (aB aI x'.h):=λW h=>(h.cell (p:=⟨sb,k*3+2,aJ⟩) LH).trans e2
 obtain⟨bi,hbi⟩:∃bi,d.c.idle x'=bi:=⟨_,rfl⟩
 rw[hbi]at hsp HID1 QW;have HBI:=gO hbi;have HL0:=gO L0;have HL1:=gO L1;have HL2:=gO L2;have HL3:=gO L3;have HL4:=gO L4;have HL5:=gO L5;have aOY:=gO LH;clear hsp hbi b0 b1 b2 b3 b4 b5 e0 e1 e2 hvi hva hya hyn hc6 hx6 rO aHz aHA hsb vX U X hx' HS6 HP HPE DI HCX qI HY Ui V RH aHx hvl hii hkn HHI HKS hkl hks hil;go_cut [81] (λs81 wx=>s81= .bool bi/\Hid (Below D.heap.size D wx))
 case first=>
  go_region_held3 (λW=>Below D.heap.size D W) ((repeat (first | with_reducible assumption | with_reducible exact gX _ _ | with_reducible refine Below.setCell ?_ ?_ _ | with_reducible apply Below.drew | with_reducible refine gW ?_ (aAq _ _) | with_reducible refine gW ?_ (by with_reducible assumption) | (simp only;omega))))(first | (go_at_call 78;refine(HID1.out _ (by with_reducible assumption)).mono ?_;rintro ev w7 ⟨rfl,hb7⟩))
  all_goals
   go_wp2_with fail
   go_meet
   exact⟨by first | rfl | trivial,by assumption⟩
 case rest=>
  obtain⟨rfl,L⟩:=hcut;obtain⟨w7,rfl⟩:∃w7,w7=wc:=⟨_,rfl⟩
  clear L0 L1 L2 L3 L4 L5 LS0 LS1 LS2 HID1;have Q:=gO (HB6.out.trans (L.out.mono (gR (Nat.lt_of_succ_lt J))));cases bi with
  | false=>
   have Nh:sF=P:=by
    rw[<- HsF.out,wB.out,QW.out];rfl
   subst Nh;have C:=gO (MH.out.below L.out);have B:=gO (aAp HT6.out J L.out);have tX:=gO (aAt Z.out J L.out);have qL:=Q;clear MH HT6 Z L Q PV QW wB HL0 HL1 HL2 HL3 HL4 HL5;have z0:=C.out.k 0;have z1:=C.out.k 1;have z2:=C.out.k 2;have z3:=C.out.k 3;have z4:=C.out.k 4;have z5:=C.out.k 5;have z6:=C.out.k 6;unfold Sc.vals at z0 z1 z2 z3 z4 z5 z6;have q0:=B.out 0;have q1:=B.out 1;have q2:=B.out 2;have q3:=B.out 3;have q4:=B.out 4;have q5:=B.out 5;have q6:=B.out 6;obtain⟨f0,f1,f2,f3,f4,f5,f6⟩:=gF7 tX.out;simp only[gB,gC,gD]at z0 z1 z2 z3 z4 z5 z6 q0 q1 q2 q3 q4 q5 q6;have R:=out7 C.out (T:=w.heap.size+1) (.inr rfl) (λk hk=> .inl hk) (Nat.lt_succ_self _) B.out qL.out;have KX:=R.1;have oI:=gO R.2.1;have jA:=gO R.2.2;clear R C B tX qL;go_wp2_with fail
   generalize ((((((w7.setCell _ _).setCell _ _).setCell _ _).setCell _ _).setCell _ _).setCell _ _).setCell _ _=wx at*;exact bodyPost_ret (v:=aG #[aC #[aA t.a1 t.n1 t.c1,aA t.hc.az 2 t.hc.cz,aA t.hc.am 2 t.hc.cm,aB aI (sF.h.aAh:Int),aA t.hc.al t.hc.lc.length t.hc.cl,aA t.hc.av sF.h.live.length t.hc.cv,aA t.a2 t.ys.length t.c2],aB aI 0]) (by simp[results,results40,go_sem,KX]) rfl (⟨t,rfl,oI.out,jA.out⟩)
  | true=>
   have b4:=HL4.out w7 L.out;go_wp2_with fail
   clear b4;go_loopw [16,87] (λs16 s87 wr=>∃(j q:Nat),j<=d.n2/\s87=aB aI (j:Int)/\s16=aB aI (q:Int)/\q<=j/\Hid (((d.c.sl.take j).filter d.c.idle).length=q)/\Hid (Below D.heap.size D wr)) (λs16 s87 _=>d.n2-(intOf s87).toNat)
   case atStart=>exact⟨0,0,gU _,rfl,rfl,gU _,rfl,L⟩
   case round=>
    obtain⟨j,q,hjn,rfl,rfl,hqj,HQ,nM⟩:=hrel;by_cases hlt:j<d.n2
    ·have hji:(j:Int)<d.n2:=by omega
     have hjs:j<d.c.sl.length:=by have:=aEl.out;omega
     obtain⟨sb2,so2,aEm,aMN,aCQ⟩:=aAw aAv (by decide) (Lm.out.r2.below nM.out) hjs;rw[HYA.out]at aEm;obtain⟨rfl,rfl⟩:sb=sb2/\so2=0:=by simpa[eq_comm]using aEm
     obtain⟨n0,n1,n2⟩:=fV aCQ;simp only[Nat.zero_add]at n0 n1 n2;have HZ:Hid ((((d.c.sl.take (j+1)).filter d.c.idle).length:Nat)=q+(if d.c.idle d.c.sl[j]then 1 else 0)):=by
      unfold Hid;rw[List.take_succ_eq_append_getElem hjs,List.filter_append,gTb,HQ.out];congr 1;by_cases h:d.c.idle d.c.sl[j]=true <;> simp[h]
     have HI:=gO (PV.out d.c.sl[j]);generalize d.c.sl[j]=z at*;have b9:=aAq wr (aO #[aB aI (z.p:Int),aB aI (z.n:Int),aB aI z.h] 99);have KX:=aQ wr #[aB aI (z.p:Int),aB aI (z.n:Int),aB aI z.h] 99;have hs9:wr.heap.size<(wr.alloc (aO #[aB aI (z.p:Int),aB aI (z.n:Int),aB aI z.h] 99)).heap.size:=by simp
     have A:=gO (gW nM.out b9);have m0:=KX 0;have m1:=KX 1;have m2:=KX 2;simp only[gB,gC,gD]at m0 m1 m2;clear KX b9 aCQ aEm;go_upto_region 17 with fail
     clear n0 n1 n2;generalize (wr.alloc _)=F at*;generalize wr.heap.size=BX at*;have L0:∀W,Below F.heap.size F W->W.cell? ⟨H,i*6,aJ⟩=aK (aA d.a1 d.n1 d.c1):=λW h=>HL0.out W (A.out.trans (h.mono A.out.size))
     have L1:∀W,Below F.heap.size F W->W.cell? ⟨H,i*6+1,aJ⟩=aK (aB aI (d.c.z:Int)):=λW h=>HL1.out W (A.out.trans (h.mono A.out.size))
     have L2:∀W,Below F.heap.size F W->W.cell? ⟨H,i*6+2,aJ⟩=aK (aB aI (d.c.r:Int)):=λW h=>HL2.out W (A.out.trans (h.mono A.out.size))
     have L3:∀W,Below F.heap.size F W->W.cell? ⟨H,i*6+3,aJ⟩=aK (aB aI (d.c.o:Int)):=λW h=>HL3.out W (A.out.trans (h.mono A.out.size))
     have L4:∀W,Below F.heap.size F W->W.cell? ⟨H,i*6+4,aJ⟩=aK (aA (aK ⟨sb,0,aJ⟩) d.n2 d.c2):=λW h=>HL4.out W (A.out.trans (h.mono A.out.size))
     have L5:∀W,Below F.heap.size F W->W.cell? ⟨H,i*6+5,aJ⟩=aK (aA d.a3 d.n3 d.c3):=λW h=>HL5.out W (A.out.trans (h.mono A.out.size))
     have L6:∀W,Below F.heap.size F W->W.cell? ⟨BX,0,aJ⟩=aK (aB aI (z.p:Int)):=λW h=>(h.cell (p:=⟨BX,0,aJ⟩) hs9).trans m0
     have L7:∀W,Below F.heap.size F W->W.cell? ⟨BX,1,aJ⟩=aK (aB aI (z.n:Int)):=λW h=>(h.cell (p:=⟨BX,1,aJ⟩) hs9).trans m1
     have L8:∀W,Below F.heap.size F W->W.cell? ⟨BX,2,aJ⟩=aK (aB aI z.h):=λW h=>(h.cell (p:=⟨BX,2,aJ⟩) hs9).trans m2
     have HI9:Hid (∀W,Below F.heap.size F W->Calls prog 78 #[aC #[aA d.a1 d.n1 d.c1,aB aI d.c.z,aB aI d.c.r,aB aI d.c.o,aA (aK ⟨sb,0,aJ⟩) d.n2 d.c2,aA d.a3 d.n3 d.c3],aC #[aB aI z.p,aB aI z.n,aB aI z.h]] W λev w'=>ev=aN (.bool (d.c.idle z))/\Below W.heap.size W w'):=λW h=>HI.out W (A.out.trans (h.mono A.out.size))
     obtain⟨bz,hbz⟩:∃bz,d.c.idle z=bz:=⟨_,rfl⟩
     rw[hbz]at HZ HI9;clear m0 m1 m2 hbz HI;go_cut [85,86,87,95] (λs85 s86 s87 s95 wx=>s85=aA (aK ⟨sb,0,aJ⟩) d.n2 d.c2/\s86=aB aI (d.n2:Int)/\s87=aB aI (j:Int)/\s95= .bool bz/\Hid (Below F.heap.size F wx))
     case first=>
      go_region_held3 (λW=>Below F.heap.size F W) ((repeat (first | with_reducible assumption | with_reducible exact gX _ _ | with_reducible refine Below.setCell ?_ ?_ _ | with_reducible apply Below.drew | with_reducible refine gW ?_ (aAq _ _) | with_reducible refine gW ?_ (by with_reducible assumption) | (simp only;omega))))(first | (go_at_call 78;refine(HI9.out _ (by with_reducible assumption)).mono ?_;rintro ev w10 ⟨rfl,pF⟩))
      all_goals
       go_wp2_with fail
       go_meet
       exact⟨by first | rfl | trivial,by first | rfl | trivial,by first | rfl | trivial,by first | rfl | trivial,by assumption⟩
     case rest=>
      obtain⟨rfl,rfl,rfl,rfl,HB10⟩:=hcut;clear L0 L1 L2 L3 L4 L5 L6 L7 L8 HI9;have HBN:=gO (A.out.trans (HB10.out.mono A.out.size));cases bz with
      | false=>
       go_wp2
       go_roundw
       case rel=>exact⟨j+1,q,by omega,by go_num,by first | rfl | trivial,by omega,HZ,HBN⟩
       case measure=>simp[intOf];omega
      | true=>
       go_wp2
       go_roundw
       case rel=>exact⟨j+1,q+1,by omega,by go_num,by go_num,by omega,HZ,HBN⟩
       case measure=>simp[intOf];omega
    ·obtain rfl:j=d.n2:=by omega
     have HQN:Hid ((d.c.sl.filter d.c.idle).length=q):=by
      have h:=HQ.out;rw[gTf (by have:=aEl.out;omega)]at h;exact h
     by_cases hq:1<q
     ·have hqi:(1:Int)<q:=by omega
      have Nh:sF=P.discard i k cpu:=by
       rw[<- HsF.out,wB.out,QW.out,HQN.out,gTg hq];rfl
      have kG:=MH.out.below nM.out;have HTr:=gO (aAp HT6.out J nM.out);have HUr:=gO (aAt Z.out J nM.out);have aEn:=gO (HB6.out.trans (nM.out.mono (gR (Nat.lt_of_succ_lt J))));have htr:=gI J nM.out.size;have HDC:=gO (DJ t P w.heap.size i k cpu (λk=>k<w.heap.size∨k=w.heap.size+1) wr kG HK6.out hi2 (by rw[HVI.out];have:=aEl.out;omega) aHy);clear MH HT6 Z L Q PV QW HL0 HL1 HL2 HL3 HL4 HL5 kG HQ nM wB HsF;go_upto_region 22 with (go_at_call 79;refine HDC.out.mono ?_;rintro ev w20 ⟨rfl,M,aEo,aBE,aKM⟩)
      rw[<- Nh]at aEo;have C:=gO aEo;have B:=gO (aBE.box HTr.out htr (.inr rfl));have tX:=gO (aBE.Xe HUr.out htr (.inr rfl));have qL:Hid (Below w.heap.size w w20):=Safe.after aEn.out aBE (λk hk=> .inl hk) aEn.out.size;clear aEo aBE aKM HTr HUr aEn HDC Nh;have z0:=C.out.k 0;have z1:=C.out.k 1;have z2:=C.out.k 2;have z3:=C.out.k 3;have z4:=C.out.k 4;have z5:=C.out.k 5;have z6:=C.out.k 6;unfold Sc.vals at z0 z1 z2 z3 z4 z5 z6;have q0:=B.out 0;have q1:=B.out 1;have q2:=B.out 2;have q3:=B.out 3;have q4:=B.out 4;have q5:=B.out 5;have q6:=B.out 6;obtain⟨f0,f1,f2,f3,f4,f5,f6⟩:=gF7 tX.out;simp only[gB,gC,gD]at z0 z1 z2 z3 z4 z5 z6 q0 q1 q2 q3 q4 q5 q6;have R:=out7 C.out (T:=w.heap.size+1) (.inr rfl) (λk hk=> .inl hk) (Nat.lt_succ_self _) B.out qL.out;have KX:=R.1;have oI:=gO R.2.1;have jA:=gO R.2.2;clear R C B tX qL;go_wp2_with fail
      generalize ((((((w20.setCell _ _).setCell _ _).setCell _ _).setCell _ _).setCell _ _).setCell _ _).setCell _ _=wx at*;exact bodyPost_ret (v:=aG #[aC #[aA M.a1 M.n1 M.c1,aA M.hc.az 2 M.hc.cz,aA M.hc.am 2 M.hc.cm,aB aI (sF.h.aAh:Int),aA M.hc.al M.hc.lc.length M.hc.cl,aA M.hc.av sF.h.live.length M.hc.cv,aA M.a2 M.ys.length M.c2],aB aI 0]) (by simp[results,results40,go_sem,KX]) rfl (⟨M,rfl,oI.out,jA.out⟩)
     ·have hqi:¬(1:Int)<q:=by omega
      have Nh:sF=P:=by
       rw[<- HsF.out,wB.out,QW.out,HQN.out,gV hq];rfl
      subst Nh;have C:=gO (MH.out.below nM.out);have B:=gO (aAp HT6.out J nM.out);have tX:=gO (aAt Z.out J nM.out);have qL:=gO (HB6.out.trans (nM.out.mono (gR (Nat.lt_of_succ_lt J))));clear MH HT6 Z L Q PV QW wB HL0 HL1 HL2 HL3 HL4 HL5 HQ nM;have z0:=C.out.k 0;have z1:=C.out.k 1;have z2:=C.out.k 2;have z3:=C.out.k 3;have z4:=C.out.k 4;have z5:=C.out.k 5;have z6:=C.out.k 6;unfold Sc.vals at z0 z1 z2 z3 z4 z5 z6;have q0:=B.out 0;have q1:=B.out 1;have q2:=B.out 2;have q3:=B.out 3;have q4:=B.out 4;have q5:=B.out 5;have q6:=B.out 6;obtain⟨f0,f1,f2,f3,f4,f5,f6⟩:=gF7 tX.out;simp only[gB,gC,gD]at z0 z1 z2 z3 z4 z5 z6 q0 q1 q2 q3 q4 q5 q6;have R:=out7 C.out (T:=w.heap.size+1) (.inr rfl) (λk hk=> .inl hk) (Nat.lt_succ_self _) B.out qL.out;have KX:=R.1;have oI:=gO R.2.1;have jA:=gO R.2.2;clear R C B tX qL;go_wp2_with fail
      generalize ((((((wr.setCell _ _).setCell _ _).setCell _ _).setCell _ _).setCell _ _).setCell _ _).setCell _ _=wx at*;exact bodyPost_ret (v:=aG #[aC #[aA t.a1 t.n1 t.c1,aA t.hc.az 2 t.hc.cz,aA t.hc.am 2 t.hc.cm,aB aI (sF.h.aAh:Int),aA t.hc.al t.hc.lc.length t.hc.cl,aA t.hc.av sF.h.live.length t.hc.cv,aA t.a2 t.ys.length t.c2],aB aI 0]) (by simp[results,results40,go_sem,KX]) rfl (⟨t,rfl,oI.out,jA.out⟩)
end Go.Proofs.YtjaogfhcnmjkiaaGreatDoor
