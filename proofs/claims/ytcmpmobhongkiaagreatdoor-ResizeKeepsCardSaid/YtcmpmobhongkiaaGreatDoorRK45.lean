/- joined. -/
import Derived.Test.YtcmpmobhongkiaaGreatDoorRK0
import Derived.Test.YtcmpmobhongkiaaGreatDoorRK32
import Derived.Test.YtcmpmobhongkiaaGreatDoorRK35
import Derived.Test.YtcmpmobhongkiaaGreatDoorRK36
import Derived.StillTailTactics
set_option linter.unusedVariables false
set_option linter.unusedSimpArgs false
namespace Go.Proofs.YtcmpmobhongkiaaGreatDoor
section
open Go.RowKit
def aEp (s':Sy)(w:World)(ev:Ending)(w':World):Prop:=∃v',ev= .returned (.tuple #[.agg (v'.vals s'),.int .i64 0])/\fQ w' w.heap.size s' v'/\Below w.heap.size w w'
set_option maxHeartbeats 8000000 in
set_option maxRecDepth 100000 in
theorem Xn (v:Sc)(s:Sy)(n:List UInt8)(cpu i k a:Nat)(c:Ca)(x:Sl)(w:World)(hs:nV w v s)(hk:bK s)(hf:∀c∈s.cs,c.ns.length<=1000)(hi:s.named n=some i)(bJ:cpu<s.h.aC)(hci:s.cs[i]? =some c)(hcx:c.sl[k]? =some x)(hout:lS s.w c x a):
 Calls Tryz.prog 33 #[.agg #[.slice v.a1 v.n1 v.c1,.slice v.hc.az 2 v.hc.cz,.slice v.hc.am 2 v.hc.cm,.int .i64 (s.h.aC:Int),.slice v.hc.al v.hc.lc.length v.hc.cl,.slice v.hc.av s.h.live.length v.hc.cv,.slice v.a2 v.ys.length v.c2],.string ⟨n.toArray⟩,.int .i64 cpu,.int .i64 a] w (aEp (s.free i k a cpu) w):=by
 obtain⟨sF,QV⟩:∃sF,s.free i k a cpu=sF:=⟨_,rfl⟩
 rw[QV];have HsF:=gO QV;clear QV;obtain⟨K1,K2,F1,F2,hsz,hbw⟩:=boxes2 w #[.slice v.a1 v.n1 v.c1,.slice v.hc.az 2 v.hc.cz,.slice v.hc.am 2 v.hc.cm,.int .i64 (s.h.aC:Int),.slice v.hc.al v.hc.lc.length v.hc.cl,.slice v.hc.av s.h.live.length v.hc.cv,.slice v.a2 v.ys.length v.c2] 47 #[.slice none 0 0,.slice none 0 0,.slice none 0 0,.int .i64 0,.slice none 0 0,.slice none 0 0,.slice none 0 0] 47;obtain⟨hil,hic⟩:=List.getElem?_eq_some_iff.1 hci;obtain⟨hkl,hkx⟩:=List.getElem?_eq_some_iff.1 hcx;have hcm:=gM hci;have hxm:=gM hcx;have hck:=hk.ck c hcm;have hs1:=hs.below hbw;have HA:=gO (QE v s n cpu i _ hs1 hk hf hi bJ);obtain⟨l,hl1,hl2,hl3⟩:=(hck.sk x hxm).chain;have aEq:Hid (∀(v1:Sc) (W:World),nV W v1 s->Calls Tryz.prog 43 #[.agg #[.slice v1.a1 v1.n1 v1.c1,.slice v1.hc.az 2 v1.hc.cz,.slice v1.hc.am 2 v1.hc.cm,.int .i64 (s.h.aC:Int),.slice v1.hc.al v1.hc.lc.length v1.hc.cl,.slice v1.hc.av s.h.live.length v1.hc.cv,.slice v1.a2 v1.ys.length v1.c2],.int .i64 a] W fun ev w'=>ev= .returned (.tuple #[.int .i64 i,.int .i64 k,.int .i64 0])/\Below W.heap.size W w'):=fun v1 W h=>by
  subst hic;exact OZ v1 s i k a l W h hk hf hil hkl (by rw[hkx];exact hout.1) (by rw[hkx];exact hl1) (hout.2 l hl1)
 have hpush:=hk.push hci hcx hout;have hpe:=QH (a:=a) hci hcx;have hxb: -1<=x.h/\x.h<4096:=by
  have h9:=fJ.1 hl1;cases l with
  | nil=>have:x.h= -1:=h9.1;omega
  | cons b m=>
   have e:x.h=b:=h9.1.1;have h8:=h9.2.1 b (by simp);rw[hk.wl]at h8;omega
 have hal:a<4096:=by
  have h1:=iV hck.room hout.1;obtain⟨b,hb,hb1,hb2⟩:=(hck.sk x hxm).live;obtain⟨_,_,h4,h5⟩:=(hk.hk.lv b hb).1;have hor:c.o<=2:=by rw[hck.o];exact kT _
  rw[hb1,hb2]at h5;rw[hb1]at h4;generalize c.o=o at*;obtain rfl | rfl | rfl:o=0∨o=1∨o=2:=by omega
  ·simp only[Nat.pow_zero]at h1;omega
  ·simp only[Nat.pow_one]at h1 h5;omega
  ·have e4:(2:Nat)^2=4:=rfl;rw[e4]at h1 h5;omega
 have hxn:x.n<=64:=gQ (hck.sk x hxm).Ro hck.r64;have hxp:=(hck.sk x hxm).zH hk.hk;have aHq:a<s.w.length:=by rw[hk.wl];exact hal
 obtain⟨k0,k1,k2,k3,k4,k5,k6⟩:=gA7 K1;have HK:=gO hk;have rP:=gO hck;have HB1:=gO hbw;have HK1:=gO K1;have HF1:=gO F1;have HK2:=gO K2;have HF2:=gO F2;have HP:=gO hpush;have HPE:=gO hpe;have Eo:=gO hci;have HCX:=gO hcx;have Qj:=bJ;have aLj:=hk.cl;have aLk:=hck.mP hk.hk;have hwl:=hk.wl;clear hs hk hf hi hs1 K1 K2 F1 F2 hbw hpush hpe hci hcx hout hl1 hl2 hl3 hck hic hkx hcm hxm;go_enter Tryz.func33,Tryz.ntmps33
 go_upto_region 1 with fail
 generalize (w.alloc _).alloc _=w1 at*;have hsz1:w.heap.size<w1.heap.size:=by omega
 go_upto_region 4 with (go_at_call 71;refine HA.out.mono ?_;rintro ev w2 ⟨v1,he,hnew,hb2⟩;unfold aBi Sc.vals at he;subst he;have K12:=aB HK1.out hsz1 hb2;have F12:=aH HF1.out hsz1 hb2;obtain⟨y0,y1,y2,y3,y4,y5,y6⟩:=gA7 K12;obtain⟨f0,f1,f2,f3,f4,f5,f6⟩:=gF7 F12;skip)
 have Ea:=laid7 (T:=w.heap.size+1) HB1.out (Nat.lt_succ_self _) hsz HK1.out HF1.out HK2.out HF2.out hb2 hnew;have HS3:=gO Ea.1;have HT3:=gO Ea.2.1;have HU3:=gO Ea.2.2.1;have HB3:=gO Ea.2.2.2;have ht2:w.heap.size+1<w2.heap.size:=gI hsz hb2.size;have ht3:w.heap.size+1<(((((((w2.setCell ⟨w.heap.size,0,none⟩ (.slice v1.a1 v1.n1 v1.c1)).setCell ⟨w.heap.size,1,none⟩ (.slice v1.hc.az 2 v1.hc.cz)).setCell ⟨w.heap.size,2,none⟩ (.slice v1.hc.am 2 v1.hc.cm)).setCell ⟨w.heap.size,3,none⟩ (.int .i64 (s.h.aC:Int))).setCell ⟨w.heap.size,4,none⟩ (.slice v1.hc.al v1.hc.lc.length v1.hc.cl)).setCell ⟨w.heap.size,5,none⟩ (.slice v1.hc.av s.h.live.length v1.hc.cv)).setCell ⟨w.heap.size,6,none⟩ (.slice v1.a2 v1.ys.length v1.c2)).heap.size:=by simpa using ht2
 clear K12 F12 y0 y1 y2 y3 y4 y5 y6 f0 f1 f2 f3 f4 f5 f6 Ea hnew HA k0 k1 k2 k3 k4 k5 k6 HK1 HF1 HK2 HF2 hb2 ht2 HB1;generalize ((((((w2.setCell _ _).setCell _ _).setCell _ _).setCell _ _).setCell _ _).setCell _ _).setCell _ _=w3 at*;clear hsz hsz1;obtain⟨g0,g1,g2,g3,g4,g5,g6⟩:=gA7 HS3.out.k;go_upto_region 7 with (go_at_call 43;refine(aEq.out v1 w3 HS3.out.r.at).mono ?_;rintro ev w4 ⟨rfl,hb4⟩)
 have HS4:=gO (HS3.out.below hb4);have HT4:=gO (aB HT3.out ht3 hb4);have HU4:=gO (aH HU3.out ht3 hb4);have HB4:=gO (Below.step HB3.out hb4);have ht4:=gI ht3 hb4.size;clear g0 g1 g2 g3 g4 g5 g6 hb4 HS3 HT3 HU3 HB3 ht3 aEq;have hi1:i<v1.ys.length:=by
  have h:=congrArg List.length HS4.out.r.cy;simp only[List.length_map]at h;omega
 have hvl:v1.ys.length<=20:=by
  have h:=congrArg List.length HS4.out.r.cy;simp only[List.length_map]at h;omega
 have Wy:v1.ys[i].c=c:=by
  have h1:=congrArg (·[i]?) HS4.out.r.cy;simp only[List.getElem?_map,gJ hi1,Option.map_some]at h1;rw[Eo.out]at h1;exact gP h1
 obtain⟨gc,ha2,o9,OO,Wj,hcc⟩:=HS4.out.r.XD hi1;obtain⟨hr1,hr2,hr3⟩:=HS4.out.r.y (gL hi1);obtain⟨y,hy⟩:∃y,v1.ys[i]=y:=⟨_,rfl⟩
 have HY:=gO hy;rw[hy]at hcc hr2 hr3 Wy;subst Wy;obtain⟨hks,hkx⟩:=List.getElem?_eq_some_iff.1 HCX.out;have hcell:∀j,j<3->∃g,y.a2=some ⟨g,0,none⟩/\g<w4.heap.size/\w4.cell? ⟨g,k*3+j,none⟩=(aX x)[j]? /\w4.frozen? ⟨g,k*3+j,none⟩=false:=fun j hj=>by
  have hlen:k*3+j<(flat aX y.c.sl).length:=by rw[flat_length aK];omega
  obtain⟨g,h1,_,h2,h3,h4⟩:=oI hr2 (k*3+j) hlen;refine⟨g,h1,h2,?_,h4⟩;rw[h3,<- hkx,<- flat_get aK y.c.sl k hks j hj];exact(gJ hlen).symm
 obtain⟨gs,hgs,OW,s0,p0⟩:=hcell 0 (by decide);obtain⟨gs1,KF,_,s1,p1⟩:=hcell 1 (by decide);obtain⟨gs2,EK,_,s2,p2⟩:=hcell 2 (by decide);obtain rfl:gs=gs1:=by rw[hgs]at KF;simpa using KF
 obtain rfl:gs=gs2:=by rw[hgs]at EK;simpa using EK
 simp only[aX,vI,gC,gD,Nat.add_zero]at s0 s1 s2;obtain⟨gw,hgw,aEr,aLl,aLm,hwc,hwf⟩:=HS4.out.r.wAt aHq;have hws:gs≠gw:=fun e=>HS4.out.r.aEi hi1 hy hgw (by unfold mX;rw[hgs,e];rfl)
 have b4:=(hcc 4 (by decide)).1;simp only[dX,vI,gC,gD]at b4;rw[hgs]at b4;have g6:=HS4.out.k 6;have g0:=HS4.out.k 0;unfold Sc.vals at g0 g6;simp only[gB,gC,gD]at g0 g6;rw[ha2]at g6;rw[hgw]at g0;have hl2:y.c.sl.length=y.n2:=bC aK (by decide) hr2;have hl3:y.c.ac.length=y.n3:=by have:=hr3.1;unfold rC at this;simpa using this
 have hkn:(k:Int)<y.n2:=by omega
 have hii:(i:Int)<v1.ys.length:=by omega
 have hn1:v1.n1=4096:=by rw[<- HS4.out.r.at.lw,hwl]
 have han:(a:Int)<v1.n1:=by omega
 have HHI:=gO hi1;have HA2:=gO ha2;have HGS:=gO hgs;have HGW:=gO hgw;have QI:=gO hkx;have HL2:=gO hl2;have HL3:=gO hl3;have HKS:=gO hks;clear hcell KF EK hcc hy hr1 hr2 hr3 hkx hgs hgw ha2 hl2 hl3 hwl hn1;go_upto_region 9 with fail
 have hd:=(Below.refl w4.heap.size w4).drew;have HS5:=gO (HS4.out.below hd);have HT5:=gO (aB HT4.out ht4 hd);have HU5:=gO (aH HU4.out ht4 hd);have HB5:=gO (Below.step HB4.out hd);have ht5:=gI ht4 hd.size;have s0':=(hd.cell (p:=⟨gs,k*3,none⟩) OW).trans s0;have s1':=(hd.cell (p:=⟨gs,k*3+1,none⟩) OW).trans s1;have s2':=(hd.cell (p:=⟨gs,k*3+2,none⟩) OW).trans s2;have p1':=(hd.frozen (p:=⟨gs,k*3+1,none⟩) OW).trans p1;have p2':=(hd.frozen (p:=⟨gs,k*3+2,none⟩) OW).trans p2;have hwc':=(hd.cell (p:=⟨gw,a,none⟩) aEr).trans hwc;have hwf':=(hd.frozen (p:=⟨gw,a,none⟩) aEr).trans hwf
 go_still_tail 8,(by kernel_rfl)
 change wpList _ _ _ _ _ w4.drew;have HGC4:=gO (show gc<w4.drew.heap.size from gI o9 hd.size);clear s0 s1 s2 p0 p1 p2 hwc hwf hd HS4 HT4 HU4 HB4 ht4 g0 g6 b4 o9;generalize w4.drew=w5 at*;have hpush:=HS5.out.aEh HHI.out HY.out HGS.out HKS.out HGW.out a x.h (a:Int) (n':=x.n+1);rw[QI.out]at hpush;rw[<- HPE.out]at hpush;have hxx:((x.n+1:Nat):Int)=(x.n:Int)+1:=by omega
 unfold vI at hpush;rw[hxx]at hpush;have HPU:=gO hpush;clear hpush hxx;go_upto_region 12 with fail
 have hsafe:=HPU.out.2;have HS6:=gO HPU.out.1;have HT6:=gO (hsafe.box HT5.out ht5 (.inr rfl));have HU6:=gO (hsafe.XC HU5.out ht5 (.inr rfl));have ht6:=gI ht5 hsafe.size;have HB6:Hid (Below w.heap.size w _):=Safe.after HB5.out hsafe (fun k hk=> .inl hk) HB5.out.size;clear hsafe HPU HT5 HU5 ht5 HB5 HS5 s0' s1' s2' p1' p2' hwc' hwf' HGC4;generalize (((w5.setCell _ _).setCell _ _).setCell _ _)=w6 at*;obtain⟨y',hy'⟩:∃y':Cc,y'={y with c:={y.c with sl:=y.c.sl.set k ⟨x.p,x.n+1,(a:Int)⟩}}:=⟨_,rfl⟩
 obtain⟨v2,hv2⟩:∃v2,v2=v1.dN i y':=⟨_,rfl⟩
 obtain⟨x',hx'⟩:∃x':Sl,x'=⟨x.p,x.n+1,(a:Int)⟩:=⟨_,rfl⟩
 have hi2:i<v2.ys.length:=by rw[hv2];unfold Sc.dN;simpa using HHI.out
 have hvi:v2.ys[i]=y':=by subst hv2;simp[Sc.dN]
 have hva:v2.a2=some ⟨gc,0,none⟩:=by rw[hv2];exact HA2.out
 have hya:y'.a2=some ⟨gs,0,none⟩:=by rw[hy'];exact HGS.out
 have hyn:y'.n2=y.n2:=by rw[hy']
 have Je:Hid (SS w6 w.heap.size (fun k=>k<w.heap.size∨k=w.heap.size+1) (s.push i k a) v2):=by
  unfold Hid;rw[hv2,hy'];exact HS6.out
 have HK6:=gO HP.out.1;have hc6:(s.push i k a).cs[i]? =some y'.c:=by rw[HP.out.2.2,hy']
 have hx6:y'.c.sl[k]? =some x':=by
  rw[hy',hx'];show(y.c.sl.set k _)[k]? =_;rw[List.getElem?_set_self HKS.out]
 have aEs:(s.push i k a).h.aC=s.h.aC:=by rw[HPE.out]
 obtain⟨s1,hs1⟩:∃s1,s.push i k a=s1:=⟨_,rfl⟩
 have wX:Hid (s.free i k a cpu=if s1.spare i k then s1.discard i k cpu else s1):=by
  unfold Hid Sy.free;rw[hs1]
 rw[hs1]at Je HK6 hc6 aEs;have aEt:cpu<s1.h.aC:=by omega
 have hsp:s1.spare i k=(y'.c.idle x'&&decide (1<(y'.c.sl.filter y'.c.idle).length)):=by
  unfold Sy.spare Ca.spare;rw[hc6];simp only[hx6]
 have HCK6:=gO (HK6.out.ck _ (gM hc6));have Ir:=gO (Je.out.r.at.ca y' (by rw[<- hvi];exact gL hi2));have hn2:y'.n2<=256:=by
  have h1:=Ir.out.l2;have h2:=HCK6.out.mP HK6.out.hk;omega
 have hn3:y'.n3<=1000:=by
  have h1:=Ir.out.l3;have h2:=HCK6.out.ac;have h3:=HK6.out.hk.cp.2;omega
 have aLo:v2.ys.length<=20:=by rw[hv2];unfold Sc.dN;simpa using hvl
 have hii2:(i:Int)<v2.ys.length:=by omega
 have hkn2:(k:Int)<y'.n2:=by rw[hyn];exact hkn
 obtain⟨gc2,OV,Dz,_,_,qH⟩:=Je.out.r.XD hi2;obtain rfl:gc=gc2:=by rw[hva]at OV;simpa using OV
 rw[hvi]at qH;have b0:=(qH 0 (by decide)).1;have b1:=(qH 1 (by decide)).1;have b2:=(qH 2 (by decide)).1;have b3:=(qH 3 (by decide)).1;have b4:=(qH 4 (by decide)).1;have b5:=(qH 5 (by decide)).1;simp only[dX,vI,gC,gD,Nat.add_zero]at b0 b1 b2 b3 b4 b5;rw[hya]at b4;have aEu:k<y'.c.sl.length:=(List.getElem?_eq_some_iff.1 hx6).1;have aEv:y'.c.sl[k]=x':=(List.getElem?_eq_some_iff.1 hx6).2;obtain⟨sb,so,hsb,Iz,tZ⟩:=aN aK (by decide) Ir.out.r2 aEu;rw[hya]at hsb;obtain⟨rfl,rfl⟩:sb=gs/\so=0:=by simpa[eq_comm]using hsb
 obtain⟨e0,e1,e2⟩:=fC tZ;rw[aEv]at e0 e1 e2;simp only[Nat.zero_add]at e0 e1 e2;have L0:∀W,Below w6.heap.size w6 W->W.cell? ⟨gc,i*6,none⟩=some (.slice y'.a1 y'.n1 y'.c1):=fun W h=>(h.cell (p:=⟨gc,i*6,none⟩) Dz).trans b0
 have L1:∀W,Below w6.heap.size w6 W->W.cell? ⟨gc,i*6+1,none⟩=some (.int .i64 (y'.c.z:Int)):=fun W h=>(h.cell (p:=⟨gc,i*6+1,none⟩) Dz).trans b1
 have L2:∀W,Below w6.heap.size w6 W->W.cell? ⟨gc,i*6+2,none⟩=some (.int .i64 (y'.c.r:Int)):=fun W h=>(h.cell (p:=⟨gc,i*6+2,none⟩) Dz).trans b2
 have L3:∀W,Below w6.heap.size w6 W->W.cell? ⟨gc,i*6+3,none⟩=some (.int .i64 (y'.c.o:Int)):=fun W h=>(h.cell (p:=⟨gc,i*6+3,none⟩) Dz).trans b3
 have L4:∀W,Below w6.heap.size w6 W->W.cell? ⟨gc,i*6+4,none⟩=some (.slice (some ⟨sb,0,none⟩) y'.n2 y'.c2):=fun W h=>(h.cell (p:=⟨gc,i*6+4,none⟩) Dz).trans b4
 have L5:∀W,Below w6.heap.size w6 W->W.cell? ⟨gc,i*6+5,none⟩=some (.slice y'.a3 y'.n3 y'.c3):=fun W h=>(h.cell (p:=⟨gc,i*6+5,none⟩) Dz).trans b5
 have Nc:Hid (∀(z:Sl) W,Below w6.heap.size w6 W->Calls Tryz.prog 73 #[.agg #[.slice y'.a1 y'.n1 y'.c1,.int .i64 y'.c.z,.int .i64 y'.c.r,.int .i64 y'.c.o,.slice (some ⟨sb,0,none⟩) y'.n2 y'.c2,.slice y'.a3 y'.n3 y'.c3],.agg #[.int .i64 z.p,.int .i64 z.n,.int .i64 z.h]] W fun ev w'=>ev= .returned (.bool (y'.c.idle z))/\Below W.heap.size W w'):=fun z W hW=>by
  have h:=Wu y' z W Ir.out.l3 hn3 (Ir.out.r3.below hW);rw[hya]at h;exact h
 have HID1:=gO (Nc.out x');have Ot:=gO hsp;have HHI2:=gO hi2;have HVI:=gO hvi;have HYA:=gO hya;have aBO:=gO Ir.out.l2;have LS0:∀W,Below w6.heap.size w6 W->W.cell? ⟨sb,k*3,none⟩=some (.int .i64 (x'.p:Int)):=fun W h=>(h.cell (p:=⟨sb,k*3,none⟩) Iz).trans e0
 have LS1:∀W,Below w6.heap.size w6 W->W.cell? ⟨sb,k*3+1,none⟩=some (.int .i64 (x'.n:Int)):=fun W h=>(h.cell (p:=⟨sb,k*3+1,none⟩) Iz).trans e1
 have LS2:∀W,Below w6.heap.size w6 W->W.cell? ⟨sb,k*3+2,none⟩=some (.int .i64 x'.h):=fun W h=>(h.cell (p:=⟨sb,k*3+2,none⟩) Iz).trans e2
 obtain⟨bi,hbi⟩:∃bi,y'.c.idle x'=bi:=⟨_,rfl⟩
 rw[hbi]at hsp HID1 Ot;have NG:=gO hbi;have HL0:=gO L0;have HL1:=gO L1;have HL2:=gO L2;have HL3:=gO L3;have HL4:=gO L4;have HL5:=gO L5;have aLr:=gO Iz;clear hsp hbi b0 b1 b2 b3 b4 b5 e0 e1 e2 hvi hva hya hyn hc6 hx6 qH aEu aEv hsb tZ hv2 hy' hx' HS6 HP HPE Eo HCX rP HY QI hs1 OV aEs hvl hii hkn HHI HKS hkl hks hil;go_cut [81] (fun s81 wx=>s81= .bool bi/\Hid (Below w6.heap.size w6 wx))
 case first=>
  go_region_held3 (fun W=>Below w6.heap.size w6 W) ((repeat (first | with_reducible assumption | with_reducible exact Below.refl _ _ | with_reducible refine Below.setCell ?_ ?_ _ | with_reducible apply Below.drew | with_reducible refine Below.step ?_ (aF _ _) | with_reducible refine Below.step ?_ (by with_reducible assumption) | (simp only;omega))))(first | (go_at_call 73;refine(HID1.out _ (by with_reducible assumption)).mono ?_;rintro ev w7 ⟨rfl,hb7⟩))
  all_goals
   go_wp2_with fail
   go_meet
   exact⟨by first | rfl | trivial,by assumption⟩
 case rest=>
  obtain⟨rfl,HB7⟩:=hcut;obtain⟨w7,rfl⟩:∃w7,w7=wc:=⟨_,rfl⟩
  clear L0 L1 L2 L3 L4 L5 LS0 LS1 LS2 HID1;have HB67:=gO (HB6.out.trans (HB7.out.mono (gR (Nat.lt_of_succ_lt ht6))));cases bi with
  | false=>
   have QV:sF=s1:=by
    rw[<- HsF.out,wX.out,Ot.out];rfl
   subst QV;have jT:=gO (Je.out.below HB7.out);have jE:=gO (aB HT6.out ht6 HB7.out);have tJ:=gO (aH HU6.out ht6 HB7.out);have tK:=HB67;clear Je HT6 HU6 HB7 HB67 Nc Ot wX HL0 HL1 HL2 HL3 HL4 HL5;have z0:=jT.out.k 0;have z1:=jT.out.k 1;have z2:=jT.out.k 2;have z3:=jT.out.k 3;have z4:=jT.out.k 4;have z5:=jT.out.k 5;have z6:=jT.out.k 6;unfold Sc.vals at z0 z1 z2 z3 z4 z5 z6;have q0:=jE.out 0;have q1:=jE.out 1;have q2:=jE.out 2;have q3:=jE.out 3;have q4:=jE.out 4;have q5:=jE.out 5;have q6:=jE.out 6;obtain⟨f0,f1,f2,f3,f4,f5,f6⟩:=gF7 tJ.out;simp only[gB,gC,gD]at z0 z1 z2 z3 z4 z5 z6 q0 q1 q2 q3 q4 q5 q6;have eG:=out7 jT.out (T:=w.heap.size+1) (.inr rfl) (fun k hk=> .inl hk) (Nat.lt_succ_self _) jE.out tK.out;have KX:=eG.1;have nP:=gO eG.2.1;have jF:=gO eG.2.2;clear eG jT jE tJ tK;go_wp2_with fail
   generalize ((((((w7.setCell _ _).setCell _ _).setCell _ _).setCell _ _).setCell _ _).setCell _ _).setCell _ _=wx at*;exact bodyPost_ret (v:= .tuple #[.agg #[.slice v2.a1 v2.n1 v2.c1,.slice v2.hc.az 2 v2.hc.cz,.slice v2.hc.am 2 v2.hc.cm,.int .i64 (sF.h.aC:Int),.slice v2.hc.al v2.hc.lc.length v2.hc.cl,.slice v2.hc.av sF.h.live.length v2.hc.cv,.slice v2.a2 v2.ys.length v2.c2],.int .i64 0]) (by simp[results,Tryz.results33,go_sem,KX]) rfl (⟨v2,rfl,nP.out,jF.out⟩)
  | true=>
   have b4:=HL4.out w7 HB7.out;go_wp2_with fail
   clear b4;go_loopw [16,87] (fun s16 s87 wr=>∃(j q:Nat),j<=y'.n2/\s87= .int .i64 (j:Int)/\s16= .int .i64 (q:Int)/\q<=j/\Hid (((y'.c.sl.take j).filter y'.c.idle).length=q)/\Hid (Below w6.heap.size w6 wr)) (fun s16 s87 _=>y'.n2-(intOf s87).toNat)
   case atStart=>exact⟨0,0,Nat.zero_le _,rfl,rfl,Nat.zero_le _,rfl,HB7⟩
   case round=>
    obtain⟨j,q,hjn,rfl,rfl,hqj,HQ,mG⟩:=hrel;by_cases hlt:j<y'.n2
    ·have hji:(j:Int)<y'.n2:=by omega
     have hjs:j<y'.c.sl.length:=by have:=aBO.out;omega
     obtain⟨sb2,so2,aBP,aJo,aAp⟩:=aN aK (by decide) (Ir.out.r2.below mG.out) hjs;rw[HYA.out]at aBP;obtain⟨rfl,rfl⟩:sb=sb2/\so2=0:=by simpa[eq_comm]using aBP
     obtain⟨n0,n1,n2⟩:=fC aAp;simp only[Nat.zero_add]at n0 n1 n2;have HZ:Hid ((((y'.c.sl.take (j+1)).filter y'.c.idle).length:Nat)=q+(if y'.c.idle y'.c.sl[j]then 1 else 0)):=by
      unfold Hid;rw[List.take_succ_eq_append_getElem hjs,List.filter_append,List.length_append,HQ.out];congr 1;by_cases h:y'.c.idle y'.c.sl[j]=true <;> simp[h]
     have HI:=gO (Nc.out y'.c.sl[j]);generalize y'.c.sl[j]=z at*;have b9:=aF wr (.cells #[.int .i64 (z.p:Int),.int .i64 (z.n:Int),.int .i64 z.h] 137);have KX:=aW wr #[.int .i64 (z.p:Int),.int .i64 (z.n:Int),.int .i64 z.h] 137;have hs9:wr.heap.size<(wr.alloc (.cells #[.int .i64 (z.p:Int),.int .i64 (z.n:Int),.int .i64 z.h] 137)).heap.size:=by simp
     have HB9:=gO (Below.step mG.out b9);have m0:=KX 0;have m1:=KX 1;have m2:=KX 2;simp only[gB,gC,gD]at m0 m1 m2;clear KX b9 aAp aBP;go_upto_region 17 with fail
     clear n0 n1 n2;generalize (wr.alloc _)=w9 at*;generalize wr.heap.size=BX at*;have L0:∀W,Below w9.heap.size w9 W->W.cell? ⟨gc,i*6,none⟩=some (.slice y'.a1 y'.n1 y'.c1):=fun W h=>HL0.out W (HB9.out.trans (h.mono HB9.out.size))
     have L1:∀W,Below w9.heap.size w9 W->W.cell? ⟨gc,i*6+1,none⟩=some (.int .i64 (y'.c.z:Int)):=fun W h=>HL1.out W (HB9.out.trans (h.mono HB9.out.size))
     have L2:∀W,Below w9.heap.size w9 W->W.cell? ⟨gc,i*6+2,none⟩=some (.int .i64 (y'.c.r:Int)):=fun W h=>HL2.out W (HB9.out.trans (h.mono HB9.out.size))
     have L3:∀W,Below w9.heap.size w9 W->W.cell? ⟨gc,i*6+3,none⟩=some (.int .i64 (y'.c.o:Int)):=fun W h=>HL3.out W (HB9.out.trans (h.mono HB9.out.size))
     have L4:∀W,Below w9.heap.size w9 W->W.cell? ⟨gc,i*6+4,none⟩=some (.slice (some ⟨sb,0,none⟩) y'.n2 y'.c2):=fun W h=>HL4.out W (HB9.out.trans (h.mono HB9.out.size))
     have L5:∀W,Below w9.heap.size w9 W->W.cell? ⟨gc,i*6+5,none⟩=some (.slice y'.a3 y'.n3 y'.c3):=fun W h=>HL5.out W (HB9.out.trans (h.mono HB9.out.size))
     have L6:∀W,Below w9.heap.size w9 W->W.cell? ⟨BX,0,none⟩=some (.int .i64 (z.p:Int)):=fun W h=>(h.cell (p:=⟨BX,0,none⟩) hs9).trans m0
     have L7:∀W,Below w9.heap.size w9 W->W.cell? ⟨BX,1,none⟩=some (.int .i64 (z.n:Int)):=fun W h=>(h.cell (p:=⟨BX,1,none⟩) hs9).trans m1
     have L8:∀W,Below w9.heap.size w9 W->W.cell? ⟨BX,2,none⟩=some (.int .i64 z.h):=fun W h=>(h.cell (p:=⟨BX,2,none⟩) hs9).trans m2
     have HI9:Hid (∀W,Below w9.heap.size w9 W->Calls Tryz.prog 73 #[.agg #[.slice y'.a1 y'.n1 y'.c1,.int .i64 y'.c.z,.int .i64 y'.c.r,.int .i64 y'.c.o,.slice (some ⟨sb,0,none⟩) y'.n2 y'.c2,.slice y'.a3 y'.n3 y'.c3],.agg #[.int .i64 z.p,.int .i64 z.n,.int .i64 z.h]] W fun ev w'=>ev= .returned (.bool (y'.c.idle z))/\Below W.heap.size W w'):=fun W h=>HI.out W (HB9.out.trans (h.mono HB9.out.size))
     obtain⟨bz,hbz⟩:∃bz,y'.c.idle z=bz:=⟨_,rfl⟩
     rw[hbz]at HZ HI9;clear m0 m1 m2 hbz HI;go_cut [85,86,87,95] (fun s85 s86 s87 s95 wx=>s85= .slice (some ⟨sb,0,none⟩) y'.n2 y'.c2/\s86= .int .i64 (y'.n2:Int)/\s87= .int .i64 (j:Int)/\s95= .bool bz/\Hid (Below w9.heap.size w9 wx))
     case first=>
      go_region_held3 (fun W=>Below w9.heap.size w9 W) ((repeat (first | with_reducible assumption | with_reducible exact Below.refl _ _ | with_reducible refine Below.setCell ?_ ?_ _ | with_reducible apply Below.drew | with_reducible refine Below.step ?_ (aF _ _) | with_reducible refine Below.step ?_ (by with_reducible assumption) | (simp only;omega))))(first | (go_at_call 73;refine(HI9.out _ (by with_reducible assumption)).mono ?_;rintro ev w10 ⟨rfl,mD⟩))
      all_goals
       go_wp2_with fail
       go_meet
       exact⟨by first | rfl | trivial,by first | rfl | trivial,by first | rfl | trivial,by first | rfl | trivial,by assumption⟩
     case rest=>
      obtain⟨rfl,rfl,rfl,rfl,HB10⟩:=hcut;clear L0 L1 L2 L3 L4 L5 L6 L7 L8 HI9;have ZN:=gO (HB9.out.trans (HB10.out.mono HB9.out.size));cases bz with
      | false=>
       go_wp2
       go_roundw
       case rel=>exact⟨j+1,q,by omega,by go_num,by first | rfl | trivial,by omega,HZ,ZN⟩
       case measure=>simp[intOf];omega
      | true=>
       go_wp2
       go_roundw
       case rel=>exact⟨j+1,q+1,by omega,by go_num,by go_num,by omega,HZ,ZN⟩
       case measure=>simp[intOf];omega
    ·obtain rfl:j=y'.n2:=by omega
     have HQN:Hid ((y'.c.sl.filter y'.c.idle).length=q):=by
      have h:=HQ.out;rw[List.take_of_length_le (by have:=aBO.out;omega)]at h;exact h
     by_cases hq:1<q
     ·have hqi:(1:Int)<q:=by omega
      have QV:sF=s1.discard i k cpu:=by
       rw[<- HsF.out,wX.out,Ot.out,HQN.out,decide_eq_true hq];rfl
      have lM:=Je.out.below mG.out;have HTr:=gO (aB HT6.out ht6 mG.out);have HUr:=gO (aH HU6.out ht6 mG.out);have aBQ:=gO (HB6.out.trans (mG.out.mono (gR (Nat.lt_of_succ_lt ht6))));have htr:=gI ht6 mG.out.size;have HDC:=gO (Lm v2 s1 w.heap.size i k cpu (fun k=>k<w.heap.size∨k=w.heap.size+1) wr lM HK6.out hi2 (by rw[HVI.out];have:=aBO.out;omega) aEt);clear Je HT6 HU6 HB7 HB67 Nc Ot HL0 HL1 HL2 HL3 HL4 HL5 lM HQ mG wX HsF;go_upto_region 22 with (go_at_call 74;refine HDC.out.mono ?_;rintro ev w20 ⟨rfl,v3,aBR,Zk,aHs⟩)
      rw[<- QV]at aBR;have jT:=gO aBR;have jE:=gO (Zk.box HTr.out htr (.inr rfl));have tJ:=gO (Zk.XC HUr.out htr (.inr rfl));have tK:Hid (Below w.heap.size w w20):=Safe.after aBQ.out Zk (fun k hk=> .inl hk) aBQ.out.size;clear aBR Zk aHs HTr HUr aBQ HDC QV;have z0:=jT.out.k 0;have z1:=jT.out.k 1;have z2:=jT.out.k 2;have z3:=jT.out.k 3;have z4:=jT.out.k 4;have z5:=jT.out.k 5;have z6:=jT.out.k 6;unfold Sc.vals at z0 z1 z2 z3 z4 z5 z6;have q0:=jE.out 0;have q1:=jE.out 1;have q2:=jE.out 2;have q3:=jE.out 3;have q4:=jE.out 4;have q5:=jE.out 5;have q6:=jE.out 6;obtain⟨f0,f1,f2,f3,f4,f5,f6⟩:=gF7 tJ.out;simp only[gB,gC,gD]at z0 z1 z2 z3 z4 z5 z6 q0 q1 q2 q3 q4 q5 q6;have eG:=out7 jT.out (T:=w.heap.size+1) (.inr rfl) (fun k hk=> .inl hk) (Nat.lt_succ_self _) jE.out tK.out;have KX:=eG.1;have nP:=gO eG.2.1;have jF:=gO eG.2.2;clear eG jT jE tJ tK;go_wp2_with fail
      generalize ((((((w20.setCell _ _).setCell _ _).setCell _ _).setCell _ _).setCell _ _).setCell _ _).setCell _ _=wx at*;exact bodyPost_ret (v:= .tuple #[.agg #[.slice v3.a1 v3.n1 v3.c1,.slice v3.hc.az 2 v3.hc.cz,.slice v3.hc.am 2 v3.hc.cm,.int .i64 (sF.h.aC:Int),.slice v3.hc.al v3.hc.lc.length v3.hc.cl,.slice v3.hc.av sF.h.live.length v3.hc.cv,.slice v3.a2 v3.ys.length v3.c2],.int .i64 0]) (by simp[results,Tryz.results33,go_sem,KX]) rfl (⟨v3,rfl,nP.out,jF.out⟩)
     ·have hqi:¬(1:Int)<q:=by omega
      have QV:sF=s1:=by
       rw[<- HsF.out,wX.out,Ot.out,HQN.out,decide_eq_false hq];rfl
      subst QV;have jT:=gO (Je.out.below mG.out);have jE:=gO (aB HT6.out ht6 mG.out);have tJ:=gO (aH HU6.out ht6 mG.out);have tK:=gO (HB6.out.trans (mG.out.mono (gR (Nat.lt_of_succ_lt ht6))));clear Je HT6 HU6 HB7 HB67 Nc Ot wX HL0 HL1 HL2 HL3 HL4 HL5 HQ mG;have z0:=jT.out.k 0;have z1:=jT.out.k 1;have z2:=jT.out.k 2;have z3:=jT.out.k 3;have z4:=jT.out.k 4;have z5:=jT.out.k 5;have z6:=jT.out.k 6;unfold Sc.vals at z0 z1 z2 z3 z4 z5 z6;have q0:=jE.out 0;have q1:=jE.out 1;have q2:=jE.out 2;have q3:=jE.out 3;have q4:=jE.out 4;have q5:=jE.out 5;have q6:=jE.out 6;obtain⟨f0,f1,f2,f3,f4,f5,f6⟩:=gF7 tJ.out;simp only[gB,gC,gD]at z0 z1 z2 z3 z4 z5 z6 q0 q1 q2 q3 q4 q5 q6;have eG:=out7 jT.out (T:=w.heap.size+1) (.inr rfl) (fun k hk=> .inl hk) (Nat.lt_succ_self _) jE.out tK.out;have KX:=eG.1;have nP:=gO eG.2.1;have jF:=gO eG.2.2;clear eG jT jE tJ tK;go_wp2_with fail
      generalize ((((((wr.setCell _ _).setCell _ _).setCell _ _).setCell _ _).setCell _ _).setCell _ _).setCell _ _=wx at*;exact bodyPost_ret (v:= .tuple #[.agg #[.slice v2.a1 v2.n1 v2.c1,.slice v2.hc.az 2 v2.hc.cz,.slice v2.hc.am 2 v2.hc.cm,.int .i64 (sF.h.aC:Int),.slice v2.hc.al v2.hc.lc.length v2.hc.cl,.slice v2.hc.av sF.h.live.length v2.hc.cv,.slice v2.a2 v2.ys.length v2.c2],.int .i64 0]) (by simp[results,Tryz.results33,go_sem,KX]) rfl (⟨v2,rfl,nP.out,jF.out⟩)
end
end Go.Proofs.YtcmpmobhongkiaaGreatDoor
