/- joined. -/
import Derived.Test.YtcmpmobhongkiaaGreatDoorRK0
import Derived.Test.YtcmpmobhongkiaaGreatDoorRK13
import Derived.Test.YtcmpmobhongkiaaGreatDoorRK25
import Derived.Test.YtcmpmobhongkiaaGreatDoorRK26
import Derived.Test.YtcmpmobhongkiaaGreatDoorRK27
set_option linter.unusedVariables false
set_option linter.unusedSimpArgs false
namespace Go.Proofs.YtcmpmobhongkiaaGreatDoor
section
open Go.RowKit
theorem row_drop {w:World}{b o:Nat}{xs:List Value}(h:Row w (some ⟨b,o,none⟩) xs)(k:Nat):Row w (some ⟨b,o+k,none⟩) (xs.drop k):=by
 intro j v hj;rw[List.getElem?_drop]at hj;obtain⟨b',o',e,h1,h2⟩:=h _ v hj;obtain⟨rfl,rfl⟩:b=b'/\o=o':=by simpa using e
 exact⟨b,o+k,rfl,h1,by rw[Nat.add_assoc];exact h2⟩
set_option maxHeartbeats 8000000 in
set_option maxRecDepth 100000 in
theorem DC (az am al av:Option Addr)(cz cm cl cv nl nv:Nat)(y0 y1:Zc)(lc:List Lc)(h:Hp)(cpu p:Nat)(w:World)(hh:HAt w az am al av nl nv y0 y1 lc h)(hk:dZ h)(hnl:nl<=1000)(OB:nv<=1000)(hc:cpu<h.aC)(hp:p<=1000)(hth:hasB h.live p=true):
 Calls Tryz.prog 89 #[.agg #[.slice az 2 cz,.slice am 2 cm,.int .i64 h.aC,.slice al nl cl,.slice av nv cv],.int .i64 cpu,.int .i64 p] w fun ev w'=>Below w.heap.size w w'/\∃(c':Hc) (hi:lb h.live p<h.live.length),ev= .returned (.tuple #[.agg (c'.vals (h.fZ cpu (lb h.live p) h.live[lb h.live p])),.int .i64 0])/\kU w' w.heap.size (h.fZ cpu (lb h.live p) h.live[lb h.live p]) c':=by
 have HTH:=gO hth;clear hth;obtain⟨K1,K2,F1,F2,hsz,hbw⟩:=boxes2 w #[.slice az 2 cz,.slice am 2 cm,.int .i64 (h.aC:Int),.slice al nl cl,.slice av nv cv] 44 #[.slice none 0 0,.slice none 0 0,.int .i64 0,.slice none 0 0,.slice none 0 0] 44;have HH:=gO (hh.below hbw);have HK:=gO hk;have HB1:=gO hbw;have HLV:Hid (h.live.length<=1000):=by unfold Hid;rw[hh.nv];exact OB
 have k10:=K1 0;have k11:=K1 1;have k12:=K1 2;have k13:=K1 3;have k14:=K1 4;simp only[gB,gC,gD]at k10 k11 k12 k13 k14;clear hh hk hbw;go_enter Tryz.func89,Tryz.ntmps89
 go_wp2_with fail
 generalize (w.alloc _).alloc _=w1 at*;refine(vX _ _ _ _ _ _ _ _ _ _ _ _ _ h w1 HH.out HK.out hnl OB).mono ?_;rintro ev w2 ⟨rfl,hb2⟩;have Dw:=aB K1 (by omega) hb2;have ZR:=aH F1 (by omega) hb2;have K2a:=aB K2 hsz hb2;have ZT:=aH F2 hsz hb2;have HH2:=gO (HH.out.below hb2);have HB2:=gO (Below.trans HB1.out (hb2.mono HB1.out.size));have hsz2:w.heap.size+1<w2.heap.size:=gI hsz hb2.size;clear k10 k11 k12 k13 k14 hb2 K1 F1 K2 F2;have k10:=Dw 0;have k11:=Dw 1;have k12:=Dw 2;have k13:=Dw 3;have k14:=Dw 4;simp only[gB,gC,gD]at k10 k11 k12 k13 k14;have d1:decide ((cpu:Int)<0)=false:=decide_eq_false (by omega);have d2:decide (h.aC<=cpu)=false:=decide_eq_false (by omega);go_wp2_with fail
 refine(Ih _ _ _ _ _ _ _ _ _ _ _ _ _ h p w2 HH2.out HK.out OB hp).mono ?_;rintro ev Ug ⟨rfl,Ll⟩;rw[HTH.out];have K1l:=aB Dw (by omega) Ll;have F1l:=aH ZR (by omega) Ll;have K2l:=aB K2a hsz2 Ll;have F2l:=aH ZT hsz2 Ll;have aDF:=gO (HH2.out.below Ll);have aDG:=gO (Below.trans HB2.out (Ll.mono HB2.out.size));have WA:w.heap.size+1<Ug.heap.size:=gI hsz2 Ll.size;clear k10 k11 k12 k13 k14 Ll Dw ZR K2a ZT HH2 HB2 hsz2;have k10:=K1l 0;have k11:=K1l 1;have k12:=K1l 2;have k13:=K1l 3;have k14:=K1l 4;simp only[gB,gC,gD]at k10 k11 k12 k13 k14;go_wp2_with fail
 refine(yQ _ _ _ _ _ _ _ _ _ _ _ _ _ h Ug aDF.out HK.out OB).mono ?_;rintro ev w3 ⟨g,c,rfl,hs3,hg3,hb3⟩;have yZ:=aB K1l (by omega) hb3;have Dx:=aH F1l (by omega) hb3;have K2b:=gO (aB K2l WA hb3);have ZU:=gO (aH F2l WA hb3);have HS4:=gO (hs3.move (B:=w.heap.size) (show w.heap.size<Ug.heap.size by omega) yZ Dx);have HB3:=gO (Below.trans aDG.out (hb3.mono aDG.out.size));clear k10 k11 k12 k13 k14 K1l F1l K2l F2l hs3 HH aDF hg3;have k10:=yZ 0;have k11:=yZ 1;have k12:=yZ 2;have k13:=yZ 3;have k14:=yZ 4;have f10:=Dx 0;have f11:=Dx 1;have f12:=Dx 2;have f13:=Dx 3;have f14:=Dx 4;simp only[gB,gC,gD]at k10 k11 k12 k13 k14;unfold Hc.vals;go_upto_region 10 with fail
 have EI:Hid (HS (((((w3.setCell ⟨w.heap.size,0,none⟩ (.slice c.az 2 c.cz)).setCell ⟨w.heap.size,1,none⟩ (.slice c.am 2 c.cm)).setCell ⟨w.heap.size,2,none⟩ (.int .i64 (h.aC:Int))).setCell ⟨w.heap.size,3,none⟩ (.slice c.al c.lc.length c.cl)).setCell ⟨w.heap.size,4,none⟩ (.slice c.av h.live.length c.cv)) w.heap.size (fun k=>k<Ug.heap.size/\k≠w.heap.size) h c):=HS4;have hne1:w.heap.size+1≠w.heap.size:=by omega
 have XJ:=gO (aA (aA (aA (aA (aA K2b.out hne1 0 (.slice c.az 2 c.cz)) hne1 1 (.slice c.am 2 c.cm)) hne1 2 (.int .i64 (h.aC:Int))) hne1 3 (.slice c.al c.lc.length c.cl)) hne1 4 (.slice c.av h.live.length c.cv));have XK:=gO (aG (aG (aG (aG (aG ZU.out ⟨w.heap.size,0,none⟩ (.slice c.az 2 c.cz)) ⟨w.heap.size,1,none⟩ (.slice c.am 2 c.cm)) ⟨w.heap.size,2,none⟩ (.int .i64 (h.aC:Int))) ⟨w.heap.size,3,none⟩ (.slice c.al c.lc.length c.cl)) ⟨w.heap.size,4,none⟩ (.slice c.av h.live.length c.cv));have hle0:w.heap.size<=w.heap.size:=Nat.le_refl _;have HB4:=gO (Below.setCell (Below.setCell (Below.setCell (Below.setCell (Below.setCell HB3.out (show w.heap.size<=(⟨w.heap.size,0,none⟩:Addr).block from hle0) (.slice c.az 2 c.cz)) (show w.heap.size<=(⟨w.heap.size,1,none⟩:Addr).block from hle0) (.slice c.am 2 c.cm)) (show w.heap.size<=(⟨w.heap.size,2,none⟩:Addr).block from hle0) (.int .i64 (h.aC:Int))) (show w.heap.size<=(⟨w.heap.size,3,none⟩:Addr).block from hle0) (.slice c.al c.lc.length c.cl)) (show w.heap.size<=(⟨w.heap.size,4,none⟩:Addr).block from hle0) (.slice c.av h.live.length c.cv));have oV:w.heap.size+1<(((((w3.setCell ⟨w.heap.size,0,none⟩ (.slice c.az 2 c.cz)).setCell ⟨w.heap.size,1,none⟩ (.slice c.am 2 c.cm)).setCell ⟨w.heap.size,2,none⟩ (.int .i64 (h.aC:Int))).setCell ⟨w.heap.size,3,none⟩ (.slice c.al c.lc.length c.cl)).setCell ⟨w.heap.size,4,none⟩ (.slice c.av h.live.length c.cv)).heap.size:=by have:=hb3.size;simp;omega
 clear k10 k11 k12 k13 k14 f10 f11 f12 f13 f14 yZ Dx K2b ZU HS4 hb3 HB3;generalize (((((w3.setCell _ _).setCell _ _).setCell _ _).setCell _ _).setCell _ _)=w4 at*;have hX1:(fun k=>k<Ug.heap.size/\k≠w.heap.size) (w.heap.size+1):=⟨WA,hne1⟩
 obtain⟨I,hI⟩:∃I,lb h.live p=I:=⟨_,rfl⟩
 obtain⟨hi,hpa⟩:=FK HK.out.vs HTH.out;simp only[hI]at hi hpa ⊢;have HI:=gO hI;obtain⟨b,hb⟩:∃b,h.live[I]=b:=⟨_,rfl⟩
 have NG:=gO hb;rw[hb]at hpa;have hlv:=EI.out.r.lv;obtain⟨gv,_,hgv,_,aKO,_,_⟩:=fA hlv 0 (by show 0<(flat aO h.live).length;rw[flat_length aJ];omega);obtain⟨pb,po,hpv,hpb,hpc⟩:=aN aJ (by decide) (aY hlv) hi;obtain⟨rfl,rfl⟩:gv=pb/\0=po:=by rw[hgv]at hpv;simpa using hpv
 rw[hb]at hpc;obtain⟨v0,v1,v2⟩:=bD hpc;simp only[Nat.zero_add]at v0 v1 v2;have hI2:(I:Int)<h.live.length:=by omega
 obtain⟨k0,k1,k2,k3,k4⟩:=EI.out.words;have hG4:w.heap.size<w4.heap.size:=EI.out.r.gs;rw[hgv]at k4;have HGV:=gO hgv;have aGB:=HLV.out;clear hlv hpv hpc hI hb;go_upto_region 11 with fail
 have wE:=aF w4 (.cells #[.int .i64 (p:Int),.int .i64 (b.o:Int),.int .i64 (b.t:Int)] 63);have HS5:=gO (EI.out.new wE);have SF5:=gO (Safe.iM (X:=fun k=>k<Ug.heap.size/\k≠w.heap.size) wE);have K5:Hid (∀o,(w4.alloc (.cells #[.int .i64 (p:Int),.int .i64 (b.o:Int),.int .i64 (b.t:Int)] 63)).cell? ⟨w4.heap.size,o,none⟩=(#[.int .i64 (p:Int),.int .i64 (b.o:Int),.int .i64 (b.t:Int)]:Array Value)[o]?):=aW w4 _ _;have hsz5:w4.heap.size<(w4.alloc (.cells #[.int .i64 (p:Int),.int .i64 (b.o:Int),.int .i64 (b.t:Int)] 63)).heap.size:=by simp
 clear k0 k1 k2 k3 k4 v0 v1 v2 wE EI;generalize w4.alloc _=w5 at*;obtain⟨k0,k1,k2,k3,k4⟩:=HS5.out.words;rw[HGV.out]at k4;have hG5:w.heap.size<w5.heap.size:=HS5.out.r.gs;go_wp2_with fail
 have hlv:=HS5.out.r.lv;rw[show yH c h=⟨63,3,.slice c.av h.live.length c.cv,h.live.length,flat aO h.live⟩from rfl]at hlv;unfold Rs.on at hlv;simp only[HGV.out]at hlv;refine(qV 0 (some ⟨gv,0,none⟩) h.live.length c.cv h.live I w5 hlv hi aGB (Nat.zero_le _)).mono ?_;rintro ev w6 ⟨rfl,ho6,hg6⟩;have hle:(h.live.eraseIdx I).length=h.live.length-1:=List.length_eraseIdx_of_lt hi;have hlb:(yH c h).v.ownBlock=some gv:=by unfold yH;rw[HGV.out];rfl
 have WB:w5.grownBy w6 (yH c h).v.ownBlock:=by rw[hlb];exact hg6
 have wF:some w.heap.size≠(yH c h).v.ownBlock:=fun e=>(HS5.out.r.og _ (jM c h) _ e.symm).1 rfl
 obtain⟨hs7,sf7⟩:=HS5.out.away WB (rO:=some ⟨gv,0,none⟩) (cv':=c.cv) (v':=h.live.eraseIdx I) (by rw[hle];exact ho6) (fun k hk=> .inl (by rw[hlb];simpa[Value.ownBlock]using hk));rw[hle]at hs7 sf7;have r4:=(bT HS5.out.k hG5 WB wF 4).trans (show _=some (.slice c.av h.live.length c.cv)from rfl);have g4:=bU HS5.out.fz hG5 WB wF 4;rw[HGV.out]at r4;have hG6:w.heap.size<w6.heap.size:=gI hG5 WB.size;have SF7:=gO (SF5.out.trans (sf7.sub (fun k _ hk=> .inl hk)));have K7:=sf7.box K5.out hsz5 (.inr ⟨Nat.le_refl _,hsz5⟩);have HS7:=gO hs7;have HLE:=gO hle;clear k0 k1 k2 k3 k4 hs7 sf7 ho6 hg6 WB wF hlb hle K5 HS5 SF5;have b0:=K7 0;have b1:=K7 1;have b2:=K7 2;simp only[gB,gC,gD]at b0 b1 b2;go_upto_region 12 with fail
 generalize w6.setCell _ _=w7 at*;obtain⟨hk1,hce⟩:=HK.out.erase hi;rw[NG.out]at hce;have hfb:=HK.out.lv _ (gL hi);rw[NG.out]at hfb;obtain⟨h1,hh1⟩:∃h1:Hp,{h with live:=h.live.eraseIdx I}=h1:=⟨_,rfl⟩
 obtain⟨c1,hc1⟩:∃c1:Hc,{c with av:=some ⟨gv,0,none⟩}=c1:=⟨_,rfl⟩
 have HC1:Hid (h1.aC=h.aC/\h1.live.length=h.live.length-1):=by rw[<- hh1];exact⟨rfl,HLE.out⟩
 rw[show({z0:=h.z0,z1:=h.z1,m0:=h.m0,m1:=h.m1,aC:=h.aC,ls:=h.ls,live:=h.live.eraseIdx I}:Hp)=h1 from hh1,show({az:=c.az,cz:=c.cz,am:=c.am,cm:=c.cm,al:=c.al,cl:=c.cl,av:=some ⟨gv,0,none⟩,cv:=c.cv,y0:=c.y0,y1:=c.y1,lc:=c.lc}:Hc)=c1 from hc1]at HS7;rw[hh1]at hk1 hce;have HH1:=gO hh1;have HK1:=gO hk1;have HCE:=gO hce;have HFB:=gO hfb;have hX2:(fun k=>k<Ug.heap.size/\k≠w.heap.size∨w4.heap.size<=k/\k<w5.heap.size) w4.heap.size:= .inr ⟨Nat.le_refl _,hsz5⟩;have aDH:w4.heap.size<w7.heap.size:=HS7.out.r.xs _ hX2;clear HLE hh1 hc1 hk1 hce hfb r4 g4 hG6;by_cases ho:0<b.o
 ·have hoi:(0:Int)<b.o:=by omega
  go_wp2_with fail
  have hdj:∀q,cnt h1.all q+hit ⟨p,b.o,0⟩ q<=1:=fun q=>by have h1:=HCE.out q;have h2:=HK.out.one q;rw[hpa]at h1;omega
  have hft:cZ 0 256 p b.o:=by rw[<- hpa];exact HFB.out.1
  refine(Yo w.heap.size p b.o _ h1 c1 w7 HS7.out HK1.out hft hdj).mono ?_;rintro ev w8 ⟨rfl,⟨y8,y9,hs8⟩,sf8⟩;have wX:Hid (∃hi:lb h.live p<h.live.length,h.fZ cpu (lb h.live p) h.live[lb h.live p]=h1.iT p b.o):=⟨by rw[HI.out];exact hi,by
   simp only[HI.out,NG.out];rw[Td ho,<- HH1.out,hpa]⟩
  have SF8:=gO (SF7.out.trans (sf8.sub fun k _ hk=> .inl hk));have HS8:=gO hs8;clear hs8 sf8 hdj hft;generalize ({c1 with y0:=y8,y1:=y9}:Hc)=c8 at*;generalize h1.iT p b.o=h8 at*;have HB0:w.heap.size<=w4.heap.size:=by omega
  obtain⟨⟨k10,k11,k12,k13,k14⟩,⟨f10,f11,f12,f13,f14⟩,hsx,hbx,KX⟩:=ret5 HB4.out SF8.out (HS8.out.sub fun k hk=> .inl hk) XJ.out XK.out oV hX1 (fun k hk=>⟨by omega,by omega⟩) HB0 (Nat.le_succ _) (.slice c8.az 2 c8.cz) (.slice c8.am 2 c8.cm) (.int .i64 (h8.aC:Int)) (.slice c8.al c8.lc.length c8.cl) (.slice c8.av h8.live.length c8.cv);unfold put5 at hsx hbx;have nP:=gO hsx;have jF:=gO hbx;have hG8:w.heap.size<w8.heap.size:=HS8.out.r.gs;have aDI:w.heap.size+1<w8.heap.size:=by have:=SF8.out.size;omega
  obtain⟨q0,q1,q2,q3,q4⟩:=HS8.out.words;unfold put5 at KX;clear hsx hbx HS8 SF8 HS7 SF7;go_wp2
  generalize (((((w8.setCell _ _).setCell _ _).setCell _ _).setCell _ _).setCell _ _)=wx at*;obtain⟨hi',e⟩:=wX.out;refine bodyPost_ret (v:= .tuple #[.agg #[.slice c8.az 2 c8.cz,.slice c8.am 2 c8.cm,.int .i64 (h8.aC:Int),.slice c8.al c8.lc.length c8.cl,.slice c8.av h8.live.length c8.cv],.int .i64 0]) (by simp[results,Tryz.results89,go_sem,KX]) rfl ⟨jF.out,c8,hi',?_⟩;rw[e];exact⟨rfl,nP.out.r.sub (fun k hk=>⟨by omega,by omega⟩)⟩
 ·have ho0:b.o=0:=by omega
  rw[ho0]at b1;have ZY:p<256:=by have:=HFB.out.1.2.2.1;rw[hpa]at this;exact this
  have hdj:∀q,cnt h1.all q+hit ⟨p,0,0⟩ q<=1:=fun q=>by have h1:=HCE.out q;have h2:=HK.out.one q;rw[hpa,ho0]at h1;omega
  have HFR0:Hid (∃hi:lb h.live p<h.live.length,h.fZ cpu (lb h.live p) h.live[lb h.live p]=h1.give cpu p):=⟨by rw[HI.out];exact hi,by
   simp only[HI.out,NG.out];rw[Tf ho0,<- HH1.out,hpa]⟩
  have hc1:cpu<h1.aC:=by rw[HC1.out.1];exact hc
  obtain⟨L,hL⟩:∃L:Ls,L=⟨cpu,h1.iR p,h1.typ p,[]⟩:=⟨_,rfl⟩
  have aDJ:=gO (HK1.out.giving hc1 ZY hdj hL);have Yi:=gO hL;clear hL;have hzi:h1.iR p<2:=by unfold Hp.iR;split <;> omega
  have hfz:=HK1.out.fits (qR ZY);have HZK:=gO (HK1.out.zone (h1.iR p));have HTL:=gO (HK1.out.VO p);clear hdj;obtain⟨k0,k1,k2,k3,k4⟩:=HS7.out.words;have hG7:w.heap.size<w7.heap.size:=HS7.out.r.gs;go_wp2_with fail
  refine(Ic _ _ _ _ _ _ _ _ _ _ _ _ _ h1 p w7 HS7.out.r.at).mono ?_;rintro ev w8 ⟨rfl,hb8⟩;have HS8:=gO (HS7.out.below hb8);have SF8:=gO (SF7.out.then hb8);have aDK:w4.heap.size<w8.heap.size:=gI aDH hb8.size;obtain⟨gz,hgz,aGE,_,_,_⟩:=HS8.out.r.CW;obtain⟨z0,z1,z2,z3⟩:=HS8.out.r.zV hgz hzi;have HZA:=gO (HS8.out.r.zat hzi);have HTY:Hid ((h1.zone (h1.iR p)).y.getD ((p-(h1.zone (h1.iR p)).f)/8) 0=h1.typ p):=rfl;clear K7 b0 b1 b2 k0 k1 k2 k3 k4 hb8 HS7 SF7 aDH hG7;obtain⟨k0,k1,k2,k3,k4⟩:=HS8.out.words;rw[hgz]at k0;have hG8:w.heap.size<w8.heap.size:=HS8.out.r.gs;have aGG:((h1.iR p:Nat):Int)<2:=by omega
  go_upto_region 16 with fail
  obtain⟨zi,hzz⟩:∃zi,h1.iR p=zi:=⟨_,rfl⟩
  have HZZ:=gO hzz;rw[hzz]at z0 z1 z2 z3 HZA HTY hfz HZK aGG hzi ⊢;generalize c1.zone zi=y at*;generalize h1.zone zi=z at*;go_wp2_with fail
  refine(Tt _ _ _ _ _ _ z p w8 HZA.out HZK.out hfz.2.1 hfz.2.2.1).mono ?_;rintro ev w9 ⟨rfl,hb9⟩;rw[HTY.out];have HS9:=gO (HS8.out.below hb9);have SF9:=gO (SF8.out.then hb9);have aGH:w4.heap.size<w9.heap.size:=gI aDK hb9.size;obtain⟨ti,hti⟩:∃ti,h1.typ p=ti:=⟨_,rfl⟩
  have HTI:=gO hti;rw[hti]at HTL ⊢;clear k0 k1 k2 k3 k4 z0 z1 z2 z3 HZA hfz HZK HTY hgz aGE hb9 HS8 SF8 aDK hG8 hti hzz;have hG9:w.heap.size<w9.heap.size:=HS9.out.r.gs;go_upto_region 18 with fail
  have hbl:=aF w9 (.cells #[.int .i64 (cpu:Int),.int .i64 (zi:Int),.int .i64 (ti:Int),.slice none 0 0] 207);have HS10:=gO (HS9.out.new hbl);have SF10:=gO (SF9.out.then hbl);have KL:Hid (∀o,(w9.alloc (.cells #[.int .i64 (cpu:Int),.int .i64 (zi:Int),.int .i64 (ti:Int),.slice none 0 0] 207)).cell? ⟨w9.heap.size,o,none⟩=(#[.int .i64 (cpu:Int),.int .i64 (zi:Int),.int .i64 (ti:Int),.slice none 0 0]:Array Value)[o]?):=aW w9 _ _;have YJ:w9.heap.size<(w9.alloc (.cells #[.int .i64 (cpu:Int),.int .i64 (zi:Int),.int .i64 (ti:Int),.slice none 0 0] 207)).heap.size:=by simp
  clear hbl HS9 SF9;generalize w9.alloc _=w10 at*;have l0:=KL.out 0;have l1:=KL.out 1;have l2:=KL.out 2;have l3:=KL.out 3;simp only[gB,gC,gD]at l0 l1 l2 l3;obtain⟨hlr,hrise,aDL,hlen,hhas,x,hx,hxk,hx9,Gg,_,_,WC⟩:=aDJ.out;have hLc:L.c=cpu/\L.z=zi/\L.t=ti:=by rw[Yi.out];exact⟨rfl,HZZ.out,HTI.out⟩
  have Kv:=gO hrise;have aGI:=gO aDL;have HLEN:=gO hlen;have aGJ:=gO hhas;have HX:=gO hx;have HXK:=gO hxk;have HGV1:=gO Gg;have aDf:=gO WC;have XL:=gO hLc;clear hlr hrise aDL hlen hhas hx hxk Gg WC hLc aDJ;go_wp2_with fail
  have hpush:=Qz w.heap.size p L none 0 0 _ h1 c1 w10 HS10.out HK1.out ⟨by rw[XL.out.2.1];exact hzi,by rw[XL.out.2.2];exact HTL.out⟩;rw[XL.out.1,XL.out.2.1,XL.out.2.2]at hpush;refine hpush.mono ?_;rintro ev w11 ⟨rfl,⟨al2,cl2,lc2,hs11⟩,sf11⟩;obtain⟨h2,hh2⟩:∃h2:Hp,{h1 with ls:=bG h1.ls L p}=h2:=⟨_,rfl⟩
  obtain⟨c2,hc2⟩:∃c2:Hc,{c1 with al:=al2,cl:=cl2,lc:=lc2}=c2:=⟨_,rfl⟩
  rw[hh2,hc2]at hs11;have HL2:Hid (h2.ls=bG h1.ls L p):=by rw[<- hh2];rfl
  have HH2:=gO hh2;have HS11:=gO (hs11.sub (Y:=fun k=>k<Ug.heap.size/\k≠w.heap.size) fun k hk=> .inl (.inl hk));have SF11:=gO (SF10.out.trans (sf11.sub fun k _ hk=> .inl (.inl hk)));have KL11:=sf11.box KL.out YJ (.inr ⟨Nat.le_refl _,YJ⟩);have aIO:w9.heap.size<w11.heap.size:=gI YJ sf11.size;have aKR:c2.lc.length<=24:=by rw[zX hs11.r,HL2.out];exact HLEN.out
  have aGK:=gO (zX hs11.r);clear l0 l1 l2 l3 hpush hs11 sf11 HS10 SF10 KL hc2 hh2 hG9 aGH YJ;have l0:=KL11 0;have l1:=KL11 1;have l2:=KL11 2;have l3:=KL11 3;simp only[gB,gC,gD]at l0 l1 l2 l3;obtain⟨k0,k1,k2,k3,k4⟩:=HS11.out.words;have aGL:w.heap.size<w11.heap.size:=HS11.out.r.gs;go_wp2_with fail
  have hlist:=Ku c2.az c2.am c2.al c2.av c2.cz c2.cm c2.cl c2.cv c2.lc.length h2.live.length c2.y0 c2.y1 c2.lc h2 L none 0 0 w11 HS11.out.r.at (by rw[HL2.out];exact Kv.out) (by rw[HL2.out];exact aGI.out) ⟨by rw[XL.out.2.1];exact hzi,by rw[XL.out.2.2];exact HTL.out⟩ (by omega)
  rw[XL.out.1,XL.out.2.1,XL.out.2.2,HL2.out,aGJ.out]at hlist;refine hlist.mono ?_;rintro ev w12 ⟨rfl,eF⟩;have HS12:=gO (HS11.out.below eF);have SF12:=gO (SF11.out.then eF);obtain⟨J,hJ⟩:∃J,jJ (bG h1.ls L p) L.key=J:=⟨_,rfl⟩
  have HJ:=gO hJ;rw[hJ];have hx2:h2.ls[J]? =some x:=by rw[<- hJ,HL2.out];exact HX.out
  obtain⟨hJ2,hxJ⟩:=List.getElem?_eq_some_iff.1 hx2;have hJc:J<c2.lc.length:=by rw[aGK.out];exact hJ2
  have hcx:c2.lc[J].l=x:=by rw[<- hxJ];exact Io HS12.out.r hJc hJ2
  obtain⟨r,hr⟩:∃r,c2.lc[J]=r:=⟨_,rfl⟩
  have HRJ:=gO hr;rw[hr]at hcx;have hrm:r∈c2.lc:=by rw[<- hr];exact gL hJc
  have hrn:=wZ (HS12.out.r.kR r hrm);rw[hcx]at hrn;obtain⟨gl,hgl,zY,aA5,aA6,Ip⟩:=HS12.out.r.sJ (by omega);obtain⟨x0,x1,x2,x3⟩:=HS12.out.r.xB hgl hJc;rw[hr]at x0 x1 x2 x3;have hJi:(J:Int)<c2.lc.length:=by omega
  have Jl:=gO hgl;have HCX:=gO hcx;have HRM:=gO hrm;have HX2:=gO hx2;clear k0 k1 k2 k3 k4 l0 l1 l2 l3 hlist eF HS11 SF11 aGL KL11 hcx hr hJ hx2 hxJ hrm;obtain⟨k0,k1,k2,k3,k4⟩:=HS12.out.words;have aKS:w.heap.size<w12.heap.size:=HS12.out.r.gs;rw[hgl]at k3;go_upto_region 20 with fail
  by_cases h8:8<x.p.length
  ·have aGN:(8:Int)<r.n:=by omega
   have hrc:=dQ (HS12.out.r.kR r HRM.out);obtain⟨pb,kZ,aBv,_,_⟩:=aN bQ (by decide) (aY (HS12.out.r.kR r HRM.out)) (j:=0) (by show 0<r.l.p.length;rw[HCX.out];omega);rw[aBv]at x3;have HPA9:=gO aBv;have hc4:4<=r.c:=by omega
   have hn4:4<=r.n:=by omega
   have aKT:¬r.c=4:=by omega
   clear aBv;go_wp2_with fail
   clear k0 k1 k2 k3 k4 x0 x1 x2 x3 hgl zY Ip;obtain⟨wa,hwa⟩:∃wa,wa=w12:=⟨_,rfl⟩
   have HWA:=gO hwa;rw[<- hwa]at HS12 SF12;clear hwa;go_loopw [109] (fun s109 wr=>∃(j:Nat) (y8 y9:Zc),j<=4/\s109= .int .i64 (j:Int)/\Hid (HS wr w.heap.size (fun k=>k<Ug.heap.size/\k≠w.heap.size) (aU h2 (x.p.take j)) {c2 with y0:=y8,y1:=y9})/\Hid (Safe (fun k=>k<Ug.heap.size/\k≠w.heap.size) w4 wr)) (fun s109 _=>4-(intOf s109).toNat)
   case atStart=>exact⟨0,c2.y0,c2.y1,Nat.zero_le _,rfl,by rw[<- HWA.out];exact HS12,by rw[<- HWA.out];exact SF12⟩
   case round=>
    obtain⟨j,y8,y9,hj,rfl,lM,zZ⟩:=hrel;clear HS12 SF12;have hGr:w.heap.size<wr.heap.size:=lM.out.r.gs;by_cases hlt:j<4
    ·have hlt2:(j:Int)<4:=by omega
     have ZH:j<x.p.length:=by omega
     have hjr:j<r.l.p.length:=by rw[HCX.out];exact ZH
     obtain⟨pb',Df,hp9,hpb,hpc⟩:=aN bQ (by decide) (aY (lM.out.r.kR r HRM.out)) (j:=j) hjr;obtain⟨rfl,rfl⟩:pb=pb'/\kZ=Df:=by rw[HPA9.out]at hp9;simpa using hp9
     have Dh:=iJ hpc;rw[Nat.mul_one]at Dh;obtain⟨P,hP⟩:∃P,r.l.p[j]=P:=⟨_,rfl⟩
     have hP2:x.p[j]=P:=by rw[<- hP];simp only[HCX.out]
     obtain⟨g1,g2,g3⟩:=aDf.out j ZH h2.ls;have hbs:({aU {h1 with ls:=bG h1.ls L p} (x.p.take j)with ls:=h2.ls}:Hp)=aU h2 (x.p.take j):=by rw[HH2.out,<- jV,<- HH2.out]
     have ZN:=gO (yP h2 x.p ZH);rw[hbs]at g1 g2 g3;rw[hP2]at g1 g2 g3 ZN;rw[hP]at Dh;have G1:=gO g1;have G2:=gO g2;have G3:=gO g3;clear hpc hP hP2 g1 g2 g3 hp9 hbs;go_wp2_with fail
     refine(Di w.heap.size P 0 _ _ _ wr lM.out G1.out G2.out G3.out).mono ?_;rintro ev w13 ⟨rfl,⟨u0,u1,hs6⟩,sf6⟩;rw[<- ZN.out]at hs6;have HS6:=gO hs6;have SF6:=gO (zZ.out.trans sf6);clear hs6 sf6 Dh;go_wp2
     go_roundw
     case rel=>exact⟨j+1,u0,u1,by omega,by go_num,HS6,SF6⟩
     case measure=>simp[intOf];omega
    ·obtain rfl:j=4:=by omega
     have hsd:=lM.out.below ((Below.refl wr.heap.size wr).drew);have q3:wr.cell? ⟨w.heap.size,3,none⟩=some (.slice c2.al c2.lc.length c2.cl):=lM.out.words.2.2.2.1;have aDM:J<c2.lc.length:=by omega
     have x3:wr.cell? ⟨gl,J*4+3,none⟩=some (.slice c2.lc[J].a c2.lc[J].n c2.lc[J].c):=(lM.out.r.xB Jl.out aDM).2.2.2;rw[HRJ.out,HPA9.out]at x3;rw[Jl.out]at q3;have zY:gl<wr.heap.size:=by
      obtain⟨gl',e1,e2,_⟩:=lM.out.r.sJ (by show 0<c2.lc.length;omega);rw[show c2.al=some ⟨gl',0,none⟩from e1]at Jl;obtain rfl:gl'=gl:=by simpa using Jl.out
      exact e2
     have hrow:Row wr.drew (some ⟨pb,kZ,none⟩) (flat gV x.p):=by rw[<- HPA9.out,<- HCX.out];exact aY (hsd.r.kR r HRM.out)
     have hrow4:Row wr.drew (some ⟨pb,kZ+4,none⟩) (flat gV (x.p.drop 4)):=by
      have h1:=eP bQ x.p 4;rw[<- h1];exact row_drop hrow 4
     have hx9:x.p.length=9:=by have:=hx9;omega
     have hln:(x.p.drop 4).length=r.n-4:=by rw[List.length_drop];omega
     have KP:=gO hrow4;have HSD:=gO hsd;have hfz:wr.frozen? ⟨gl,J*4+3,none⟩=false:=by
      obtain⟨gl',e1,_,_,_,e2⟩:=lM.out.r.sJ (by show 0<c2.lc.length;omega);rw[show c2.al=some ⟨gl',0,none⟩from e1]at Jl;obtain rfl:gl'=gl:=by simpa using Jl.out
      exact e2 _ (by show J*4+3<c2.lc.length*4;omega)
     clear hrow hrow4 hsd;go_wp2_with fail
     go_region_with (go_at_call 85;refine(He _ _ _ (x.p.drop 4) _ hln (by omega) KP.out).mono ?_;rintro ev w14 ⟨a',c',rfl,ho,EL⟩;have x3':=(EL.cell (p:=⟨gl,J*4+3,none⟩) zY).trans x3;have f3':=(EL.frozen (p:=⟨gl,J*4+3,none⟩) zY).trans hfz;have aDO:=gI zY EL.size;have q3':=(EL.cell (p:=⟨w.heap.size,3,none⟩) hGr).trans q3)
     all_goals
      have hpg:=HSD.out.page (i:=J) aDM (W':=w14) (r:=⟨{x with p:=x.p.drop 4},a',r.n-4,c'⟩) ⟨EL.os,EL.tape,EL.output,EL.size,fun k hk _=>EL.block k hk⟩ (own_base ho (Nat.zero_le _)) (by show x.c=c2.lc[J].l.c/\x.z=c2.lc[J].l.z/\x.t=c2.lc[J].l.t;rw[HRJ.out,HCX.out];exact⟨rfl,rfl,rfl⟩) (fun k hk=> .inr (ho.lt k hk).1) Jl.out;have aGP:∃(h8:Hp) (c8:Hc),HS (w14.setCell ⟨gl,J*4+3,none⟩ (.slice a' (r.n-4) c')) w.heap.size (fun k=>k<Ug.heap.size/\k≠w.heap.size) h8 c8/\Safe (fun k=>k<Ug.heap.size/\k≠w.heap.size) wr.drew (w14.setCell ⟨gl,J*4+3,none⟩ (.slice a' (r.n-4) c'))/\h1.give cpu p=h8:=⟨_,_,hpg.1,hpg.2,by
       rw[HGV1.out,if_pos h8,HJ.out,HH2.out,jV];simp only[HL2.out]⟩
      clear hpg ho;obtain⟨h8,c8,hs8,sf8,he8⟩:=aGP;have wX:Hid (∃hi:lb h.live p<h.live.length,h.fZ cpu (lb h.live p) h.live[lb h.live p]=h8):=by
       obtain⟨h1i,h1e⟩:=HFR0.out;exact⟨h1i,by rw[h1e,he8]⟩
      have HS8:=gO hs8;have SF8:=gO ((zZ.out.then ((Below.refl wr.heap.size wr).drew)).trans sf8);clear hs8 sf8 he8 x3' f3' aDO q3' lM zZ HSD KP EL hfz q3 x3 zY;generalize w14.setCell _ _=w8 at*;have HB0:w.heap.size<=w4.heap.size:=by omega
      obtain⟨⟨k10,k11,k12,k13,k14⟩,⟨f10,f11,f12,f13,f14⟩,hsx,hbx,KX⟩:=ret5 HB4.out SF8.out HS8.out XJ.out XK.out oV hX1 (fun k hk=>⟨by omega,by omega⟩) HB0 (Nat.le_succ _) (.slice c8.az 2 c8.cz) (.slice c8.am 2 c8.cm) (.int .i64 (h8.aC:Int)) (.slice c8.al c8.lc.length c8.cl) (.slice c8.av h8.live.length c8.cv);unfold put5 at hsx hbx;have nP:=gO hsx;have jF:=gO hbx;have hG8:w.heap.size<w8.heap.size:=HS8.out.r.gs;have aDI:w.heap.size+1<w8.heap.size:=by have:=SF8.out.size;omega
      obtain⟨q0,q1,q2,q3,q4⟩:=HS8.out.words;unfold put5 at KX;clear hsx hbx HS8 SF8;go_wp2
      generalize (((((w8.setCell _ _).setCell _ _).setCell _ _).setCell _ _).setCell _ _)=wx at*;obtain⟨hi',e⟩:=wX.out;refine bodyPost_ret (v:= .tuple #[.agg #[.slice c8.az 2 c8.cz,.slice c8.am 2 c8.cm,.int .i64 (h8.aC:Int),.slice c8.al c8.lc.length c8.cl,.slice c8.av h8.live.length c8.cv],.int .i64 0]) (by simp[results,Tryz.results89,go_sem,KX]) rfl ?_
      first
       | exact⟨jF.out,c8,hi',by rw[e];rfl,by rw[e];exact nP.out.r.sub (fun k hk=>⟨by omega,by omega⟩)⟩
       | exact⟨jF.out,c8,by rw[e];rfl,by rw[e];exact nP.out.r.sub (fun k hk=>⟨by omega,by omega⟩)⟩
  ·have aGN:¬(8:Int)<r.n:=by omega
   have wX:Hid (∃hi:lb h.live p<h.live.length,h.fZ cpu (lb h.live p) h.live[lb h.live p]=h2):=by
    obtain⟨h1i,h1e⟩:=HFR0.out;exact⟨h1i,by rw[h1e,HGV1.out,if_neg h8,HH2.out]⟩
   go_upto_region 27 with fail
   clear k0 k1 k2 k3 k4 x0 x1 x2 x3 hgl zY Ip;have HB00:w.heap.size<=w4.heap.size:=by omega
   obtain⟨⟨k10,k11,k12,k13,k14⟩,⟨f10,f11,f12,f13,f14⟩,hsx,hbx,KX⟩:=ret5 HB4.out SF12.out HS12.out XJ.out XK.out oV hX1 (fun k hk=>⟨by omega,by omega⟩) HB00 (Nat.le_succ _) (.slice c2.az 2 c2.cz) (.slice c2.am 2 c2.cm) (.int .i64 (h2.aC:Int)) (.slice c2.al c2.lc.length c2.cl) (.slice c2.av h2.live.length c2.cv);unfold put5 at hsx hbx;have nP:=gO hsx;have jF:=gO hbx;have hG8:w.heap.size<w12.heap.size:=HS12.out.r.gs;have aDI:w.heap.size+1<w12.heap.size:=by have:=SF12.out.size;omega
   obtain⟨q0,q1,q2,q3,q4⟩:=HS12.out.words;unfold put5 at KX;clear hsx hbx HS12 SF12;go_wp2
   generalize (((((w12.setCell _ _).setCell _ _).setCell _ _).setCell _ _).setCell _ _)=wx at*;obtain⟨hi',e⟩:=wX.out;refine bodyPost_ret (v:= .tuple #[.agg #[.slice c2.az 2 c2.cz,.slice c2.am 2 c2.cm,.int .i64 (h2.aC:Int),.slice c2.al c2.lc.length c2.cl,.slice c2.av h2.live.length c2.cv],.int .i64 0]) (by simp[results,Tryz.results89,go_sem,KX]) rfl ?_
   first
    | exact⟨jF.out,c2,hi',by rw[e];rfl,by rw[e];exact nP.out.r.sub (fun k hk=>⟨by omega,by omega⟩)⟩
    | exact⟨jF.out,c2,by rw[e];rfl,by rw[e];exact nP.out.r.sub (fun k hk=>⟨by omega,by omega⟩)⟩
end
end Go.Proofs.YtcmpmobhongkiaaGreatDoor
