/- joined. -/
import Derived.Test.YtjaogfhcnmjkiaaGreatDoorAB12
import Derived.Test.YtjaogfhcnmjkiaaGreatDoorAB15
set_option linter.all false
set_option maxRecDepth 100000
set_option maxHeartbeats 0
namespace Go.Proofs.YtjaogfhcnmjkiaaGreatDoor
open Go.RowKit
open Go.Value renaming slice->aA,int->aB,agg->aC,string->aF,tuple->aG,pointer->aH,ownBlock->gTh
open Go.IntKind renaming i64->aI
open Option renaming none->aJ,some->aK
open Go.Ending renaming returned->aN
open Go.Obj renaming cells->aO
open Go.Proofs.Tryz
variable {xs:List Value}
theorem row_drop {w:World}{b o:Nat}(h:Row w (aK ⟨b,o,aJ⟩) xs)(k:Nat):Row w (aK ⟨b,o+k,aJ⟩) (xs.drop k):=by
 intro j v a;rw[List.getElem?_drop]at a;obtain⟨f,g,e,d,c⟩:=h _ v a;obtain⟨rfl,rfl⟩:b=f/\o=g:=by simpa using e
 exact⟨b,o+k,rfl,d,by rw[Nat.add_assoc];exact c⟩
theorem FQ (az am al av:Option Addr)(cz cm cl cv nl nv:Nat)(y0 y1:Zc)(lc:List Lc)(h:Hp)(cpu p:Nat)(w:World)(hh:HAt w az am al av nl nv y0 y1 lc h)(hk:fG h)(hnl:nl<=1000)(QS:nv<=1000)(hc:cpu<h.aP)(hp:p<=1000)(hth:hasB h.live p=true):
 Calls prog 42 #[aC #[aA az 2 cz,aA am 2 cm,aB aI h.aP,aA al nl cl,aA av nv cv],aB aI cpu,aB aI p] w λev w'=>Below w.heap.size w w'/\∃(c':Hc) (hi:lb h.live p<h.live.length),ev=aN (aG #[.agg (c'.vals (h.fZ cpu (lb h.live p) h.live[lb h.live p])),aB aI 0])/\lN w' w.heap.size (h.fZ cpu (lb h.live p) h.live[lb h.live p]) c':=by
 have HTH:=gO hth;clear hth;obtain⟨K1,K2,F1,F2,hsz,hbw⟩:=boxes2 w #[aA az 2 cz,aA am 2 cm,aB aI (h.aP:Int),aA al nl cl,aA av nv cv] 39 #[aA aJ 0 0,aA aJ 0 0,aB aI 0,aA aJ 0 0,aA aJ 0 0] 39;have HH:=gO (hh.below hbw);have HK:=gO hk;have HB1:=gO hbw;have HLV:Hid (h.live.length<=1000):=by unfold Hid;rw[hh.nv];exact QS
 have D:=K1 0;have E:=K1 1;have G:=K1 2;have F:=K1 3;have C:=K1 4;simp only[gB,gC,gD]at D E G F C;clear hh hk hbw;go_enter func42,ntmps42
 go_wp2_with fail
 generalize (w.alloc _).alloc _=w1 at*;refine(x9 _ _ _ _ _ _ _ _ _ _ _ _ _ h w1 HH.out HK.out hnl QS).mono ?_;rintro ev w2 ⟨rfl,T⟩;have FK:=aQ K1 (by omega) T;have F1a:=aU F1 (by omega) T;have K2a:=aQ K2 hsz T;have F2a:=aU F2 hsz T;have V:=gO (HH.out.below T);have HB2:=gO (Below.trans HB1.out (T.mono HB1.out.size));have hsz2:w.heap.size+1<w2.heap.size:=gI hsz T.size;clear D E G F C T K1 F1 K2 F2;have D:=FK 0;have E:=FK 1;have G:=FK 2;have F:=FK 3;have C:=FK 4;simp only[gB,gC,gD]at D E G F C;have d1:decide ((cpu:Int)<0)=false:=gV (by omega);have d2:decide (h.aP<=cpu)=false:=gV (by omega);go_wp2_with fail
 refine(Ku _ _ _ _ _ _ _ _ _ _ _ _ _ h p w2 V.out HK.out QS hp).mono ?_;rintro ev Xc ⟨rfl,OC⟩;rw[HTH.out];have K1l:=aQ FK (by omega) OC;have F1l:=aU F1a (by omega) OC;have K2l:=aQ K2a hsz2 OC;have F2l:=aU F2a hsz2 OC;have aGV:=gO (V.out.below OC);have aGW:=gO (Below.trans HB2.out (OC.mono HB2.out.size));have Za:w.heap.size+1<Xc.heap.size:=gI hsz2 OC.size;clear D E G F C OC FK F1a K2a F2a V HB2 hsz2;have D:=K1l 0;have E:=K1l 1;have G:=K1l 2;have F:=K1l 3;have C:=K1l 4;simp only[gB,gC,gD]at D E G F C;go_wp2_with fail
 refine(Ar _ _ _ _ _ _ _ _ _ _ _ _ _ h Xc aGV.out HK.out QS).mono ?_;rintro ev w3 ⟨g,c,rfl,hs3,hg3,hb3⟩;have Bc:=aQ K1l (by omega) hb3;have FM:=aU F1l (by omega) hb3;have K2b:=gO (aQ K2l Za hb3);have F2b:=gO (aU F2l Za hb3);have HS4:=gO (hs3.move (B:=w.heap.size) (show w.heap.size<Xc.heap.size by omega) Bc FM);have HB3:=gO (Below.trans aGW.out (hb3.mono aGW.out.size));clear D E G F C K1l F1l K2l F2l hs3 HH aGV hg3;have D:=Bc 0;have E:=Bc 1;have G:=Bc 2;have F:=Bc 3;have C:=Bc 4;have f10:=FM 0;have f11:=FM 1;have f12:=FM 2;have f13:=FM 3;have f14:=FM 4;simp only[gB,gC,gD]at D E G F C;unfold Hc.vals;go_upto_region 10 with fail
 have Ht:Hid (HS (((((w3.setCell ⟨w.heap.size,0,aJ⟩ (aA c.az 2 c.cz)).setCell ⟨w.heap.size,1,aJ⟩ (aA c.am 2 c.cm)).setCell ⟨w.heap.size,2,aJ⟩ (aB aI (h.aP:Int))).setCell ⟨w.heap.size,3,aJ⟩ (aA c.al c.lc.length c.cl)).setCell ⟨w.heap.size,4,aJ⟩ (aA c.av h.live.length c.cv)) w.heap.size (λk=>k<Xc.heap.size/\k≠w.heap.size) h c):=HS4;have O:w.heap.size+1≠w.heap.size:=by omega
 have Ou:=gO (aS (aS (aS (aS (aS K2b.out O 0 (aA c.az 2 c.cz)) O 1 (aA c.am 2 c.cm)) O 2 (aB aI (h.aP:Int))) O 3 (aA c.al c.lc.length c.cl)) O 4 (aA c.av h.live.length c.cv));have Qy:=gO (aV (aV (aV (aV (aV F2b.out ⟨w.heap.size,0,aJ⟩ (aA c.az 2 c.cz)) ⟨w.heap.size,1,aJ⟩ (aA c.am 2 c.cm)) ⟨w.heap.size,2,aJ⟩ (aB aI (h.aP:Int))) ⟨w.heap.size,3,aJ⟩ (aA c.al c.lc.length c.cl)) ⟨w.heap.size,4,aJ⟩ (aA c.av h.live.length c.cv));have hle0:w.heap.size<=w.heap.size:=gT _;have HB4:=gO (gS (gS (gS (gS (gS HB3.out w.heap.size 0 hle0 (aA c.az 2 c.cz)) w.heap.size 1 hle0 (aA c.am 2 c.cm)) w.heap.size 2 hle0 (aB aI (h.aP:Int))) w.heap.size 3 hle0 (aA c.al c.lc.length c.cl)) w.heap.size 4 hle0 (aA c.av h.live.length c.cv));have qR:w.heap.size+1<(((((w3.setCell ⟨w.heap.size,0,aJ⟩ (aA c.az 2 c.cz)).setCell ⟨w.heap.size,1,aJ⟩ (aA c.am 2 c.cm)).setCell ⟨w.heap.size,2,aJ⟩ (aB aI (h.aP:Int))).setCell ⟨w.heap.size,3,aJ⟩ (aA c.al c.lc.length c.cl)).setCell ⟨w.heap.size,4,aJ⟩ (aA c.av h.live.length c.cv)).heap.size:=by have:=hb3.size;simp;omega
 clear D E G F C f10 f11 f12 f13 f14 Bc FM K2b F2b HS4 hb3 HB3;generalize (((((w3.setCell _ _).setCell _ _).setCell _ _).setCell _ _).setCell _ _)=w4 at*;have hX1:(λk=>k<Xc.heap.size/\k≠w.heap.size) (w.heap.size+1):=⟨Za,O⟩
 obtain⟨I,hI⟩:∃I,lb h.live p=I:=⟨_,rfl⟩
 obtain⟨hi,hpa⟩:=IL HK.out.vs HTH.out;simp only[hI]at hi hpa ⊢;have HI:=gO hI;obtain⟨b,hb⟩:∃b,h.live[I]=b:=⟨_,rfl⟩
 have HBI:=gO hb;rw[hb]at hpa;have Z:=Ht.out.r.lv;obtain⟨gv,_,hgv,_,aOL,_,_⟩:=iJ Z 0 (by show 0<(flat bC h.live).length;rw[flat_length aX];omega);obtain⟨pb,po,hpv,hpb,hpc⟩:=aZ aX (by decide) (bJ Z) hi;obtain⟨rfl,rfl⟩:gv=pb/\0=po:=by rw[hgv]at hpv;simpa using hpv
 rw[hb]at hpc;obtain⟨v0,v1,v2⟩:=bZ hpc;simp only[Nat.zero_add]at v0 v1 v2;have hI2:(I:Int)<h.live.length:=by omega
 obtain⟨k0,k1,k2,k3,k4⟩:=Ht.out.words;have hG4:w.heap.size<w4.heap.size:=Ht.out.r.gs;rw[hgv]at k4;have HGV:=gO hgv;have aKe:=HLV.out;clear Z hpv hpc hI hb;go_upto_region 11 with fail
 have yH:=aT w4 (aO #[aB aI (p:Int),aB aI (b.o:Int),aB aI (b.t:Int)] 82);have S:=gO (Ht.out.new yH);have SF5:=gO (Safe.jT (X:=λk=>k<Xc.heap.size/\k≠w.heap.size) yH);have K5:Hid (∀o,(w4.alloc (aO #[aB aI (p:Int),aB aI (b.o:Int),aB aI (b.t:Int)] 82)).cell? ⟨w4.heap.size,o,aJ⟩=(#[aB aI (p:Int),aB aI (b.o:Int),aB aI (b.t:Int)]:Array Value)[o]?):=bI w4 _ _;have hsz5:w4.heap.size<(w4.alloc (aO #[aB aI (p:Int),aB aI (b.o:Int),aB aI (b.t:Int)] 82)).heap.size:=by simp
 clear k0 k1 k2 k3 k4 v0 v1 v2 yH Ht;generalize w4.alloc _=w5 at*;obtain⟨k0,k1,k2,k3,k4⟩:=S.out.words;rw[HGV.out]at k4;have hG5:w.heap.size<w5.heap.size:=S.out.r.gs;go_wp2_with fail
 have Z:=S.out.r.lv;rw[show Af c h=⟨82,3,aA c.av h.live.length c.cv,h.live.length,flat bC h.live⟩from rfl]at Z;unfold Rs.on at Z;simp only[HGV.out]at Z;refine(xX 0 (aK ⟨gv,0,aJ⟩) h.live.length c.cv h.live I w5 Z hi aKe (gU _)).mono ?_;rintro ev w6 ⟨rfl,ho6,hg6⟩;have hle:(h.live.eraseIdx I).length=h.live.length-1:=List.length_eraseIdx_of_lt hi;have hlb:(Af c h).v.ownBlock=aK gv:=by unfold Af;rw[HGV.out];rfl
 have Zb:w5.grownBy w6 (Af c h).v.ownBlock:=by rw[hlb];exact hg6
 have yJ:aK w.heap.size≠(Af c h).v.ownBlock:=λe=>(S.out.r.og _ (kT c h) _ e.symm).1 rfl
 obtain⟨hs7,sf7⟩:=S.out.away Zb (uJ:=aK ⟨gv,0,aJ⟩) (cv':=c.cv) (v':=h.live.eraseIdx I) (by rw[hle];exact ho6) (λk hk=> .inl (by rw[hlb];simpa[gTh]using hk));rw[hle]at hs7 sf7;have r4:=(bV S.out.k hG5 Zb yJ 4).trans (show _=aK (aA c.av h.live.length c.cv)from rfl);have g4:=bY S.out.fz hG5 Zb yJ 4;rw[HGV.out]at r4;have hG6:w.heap.size<w6.heap.size:=gI hG5 Zb.size;have SF7:=gO (SF5.out.trans (sf7.sub (λk _ hk=> .inl hk)));have K7:=sf7.box K5.out hsz5 (.inr ⟨gT _,hsz5⟩);have Q:=gO hs7;have HLE:=gO hle;clear k0 k1 k2 k3 k4 hs7 sf7 ho6 hg6 Zb yJ hlb hle K5 S SF5;have b0:=K7 0;have b1:=K7 1;have b2:=K7 2;simp only[gB,gC,gD]at b0 b1 b2;go_upto_region 12 with fail
 generalize w6.setCell _ _=w7 at*;obtain⟨hk1,hce⟩:=HK.out.erase hi;rw[HBI.out]at hce;have hfb:=HK.out.lv _ (gL hi);rw[HBI.out]at hfb;obtain⟨u,hh1⟩:∃u:Hp,{h with live:=h.live.eraseIdx I}=u:=⟨_,rfl⟩
 obtain⟨c1,hc1⟩:∃c1:Hc,{c with av:=aK ⟨gv,0,aJ⟩}=c1:=⟨_,rfl⟩
 have HC1:Hid (u.aP=h.aP/\u.live.length=h.live.length-1):=by rw[<- hh1];exact⟨rfl,HLE.out⟩
 rw[show({z0:=h.z0,z1:=h.z1,m0:=h.m0,m1:=h.m1,aP:=h.aP,ls:=h.ls,live:=h.live.eraseIdx I}:Hp)=u from hh1,show({az:=c.az,cz:=c.cz,am:=c.am,cm:=c.cm,al:=c.al,cl:=c.cl,av:=aK ⟨gv,0,aJ⟩,cv:=c.cv,y0:=c.y0,y1:=c.y1,lc:=c.lc}:Hc)=c1 from hc1]at Q;rw[hh1]at hk1 hce;have HH1:=gO hh1;have HK1:=gO hk1;have HCE:=gO hce;have HFB:=gO hfb;have hX2:(λk=>k<Xc.heap.size/\k≠w.heap.size∨w4.heap.size<=k/\k<w5.heap.size) w4.heap.size:= .inr ⟨gT _,hsz5⟩;have aGX:w4.heap.size<w7.heap.size:=Q.out.r.xs _ hX2;clear HLE hh1 hc1 hk1 hce hfb r4 g4 hG6;by_cases ho:0<b.o
 ·have hoi:(0:Int)<b.o:=by omega
  go_wp2_with fail
  have hdj:∀q,cnt u.all q+hit ⟨p,b.o,0⟩ q<=1:=λq=>by have u:=HCE.out q;have R:=HK.out.one q;rw[hpa]at u;omega
  have hft:dM 0 256 p b.o:=by rw[<- hpa];exact HFB.out.1
  refine(aA6 w.heap.size p b.o _ u c1 w7 Q.out HK1.out hft hdj).mono ?_;rintro ev w8 ⟨rfl,⟨y8,y9,hs8⟩,sf8⟩;have yX:Hid (∃hi:lb h.live p<h.live.length,h.fZ cpu (lb h.live p) h.live[lb h.live p]=u.jY p b.o):=⟨by rw[HI.out];exact hi,by
   simp only[HI.out,HBI.out];rw[VB ho,<- HH1.out,hpa]⟩
  have M:=gO (SF7.out.trans (sf8.sub λk _ hk=> .inl hk));have A:=gO hs8;clear hs8 sf8 hdj hft;generalize ({c1 with y0:=y8,y1:=y9}:Hc)=s at*;generalize u.jY p b.o=h8 at*;have HB0:w.heap.size<=w4.heap.size:=by omega
  obtain⟨⟨D,E,G,F,C⟩,⟨f10,f11,f12,f13,f14⟩,K,H,KX⟩:=ret5 HB4.out M.out (A.out.sub λk hk=> .inl hk) Ou.out Qy.out qR hX1 (λk hk=>⟨by omega,by omega⟩) HB0 (Nat.le_succ _) (aA s.az 2 s.cz) (aA s.am 2 s.cm) (aB aI (h8.aP:Int)) (aA s.al s.lc.length s.cl) (aA s.av h8.live.length s.cv);unfold put5 at K H;have pO:=gO K;have kP:=gO H;have hG8:w.heap.size<w8.heap.size:=A.out.r.gs;have aGY:w.heap.size+1<w8.heap.size:=by have:=M.out.size;omega
  obtain⟨q0,q1,q2,q3,q4⟩:=A.out.words;unfold put5 at KX;clear K H A M Q SF7;go_wp2
  generalize (((((w8.setCell _ _).setCell _ _).setCell _ _).setCell _ _).setCell _ _)=wx at*;obtain⟨hi',e⟩:=yX.out;refine bodyPost_ret (v:=aG #[aC #[aA s.az 2 s.cz,aA s.am 2 s.cm,aB aI (h8.aP:Int),aA s.al s.lc.length s.cl,aA s.av h8.live.length s.cv],aB aI 0]) (by simp[results,results42,go_sem,KX]) rfl ⟨kP.out,s,hi',?_⟩;rw[e];exact⟨rfl,pO.out.r.sub (λk hk=>⟨by omega,by omega⟩)⟩
 ·have ho0:b.o=0:=by omega
  rw[ho0]at b1;have aCE:p<256:=by have:=HFB.out.1.2.2.1;rw[hpa]at this;exact this
  have hdj:∀q,cnt u.all q+hit ⟨p,0,0⟩ q<=1:=λq=>by have u:=HCE.out q;have R:=HK.out.one q;rw[hpa,ho0]at u;omega
  have HFR0:Hid (∃hi:lb h.live p<h.live.length,h.fZ cpu (lb h.live p) h.live[lb h.live p]=u.give cpu p):=⟨by rw[HI.out];exact hi,by
   simp only[HI.out,HBI.out];rw[VD ho0,<- HH1.out,hpa]⟩
  have hc1:cpu<u.aP:=by rw[HC1.out.1];exact hc
  obtain⟨L,hL⟩:∃L:Ls,L=⟨cpu,u.jX p,u.typ p,[]⟩:=⟨_,rfl⟩
  have aGZ:=gO (HK1.out.giving hc1 aCE hdj hL);have HLL:=gO hL;clear hL;have hzi:u.jX p<2:=by unfold Hp.jX;split <;> omega
  have hfz:=HK1.out.fits (tH aCE);have HZK:=gO (HK1.out.zone (u.jX p));have HTL:=gO (HK1.out.YB p);clear hdj;obtain⟨k0,k1,k2,k3,k4⟩:=Q.out.words;have hG7:w.heap.size<w7.heap.size:=Q.out.r.gs;go_wp2_with fail
  refine(Ko _ _ _ _ _ _ _ _ _ _ _ _ _ u p w7 Q.out.r.at).mono ?_;rintro ev w8 ⟨rfl,hb8⟩;have A:=gO (Q.out.below hb8);have M:=gO (SF7.out.then hb8);have aG0:w4.heap.size<w8.heap.size:=gI aGX hb8.size;obtain⟨gz,hgz,aKh,_,_,_⟩:=A.out.r.EW;obtain⟨z0,z1,z2,z3⟩:=A.out.r.BP hgz hzi;have HZA:=gO (A.out.r.zat hzi);have HTY:Hid ((u.zone (u.jX p)).y.getD ((p-(u.zone (u.jX p)).f)/8) 0=u.typ p):=rfl;clear K7 b0 b1 b2 k0 k1 k2 k3 k4 hb8 Q SF7 aGX hG7;obtain⟨k0,k1,k2,k3,k4⟩:=A.out.words;rw[hgz]at k0;have hG8:w.heap.size<w8.heap.size:=A.out.r.gs;have aKj:((u.jX p:Nat):Int)<2:=by omega
  go_upto_region 16 with fail
  obtain⟨zi,hzz⟩:∃zi,u.jX p=zi:=⟨_,rfl⟩
  have HZZ:=gO hzz;rw[hzz]at z0 z1 z2 z3 HZA HTY hfz HZK aKj hzi ⊢;generalize c1.zone zi=y at*;generalize u.zone zi=z at*;go_wp2_with fail
  refine(VO _ _ _ _ _ _ z p w8 HZA.out HZK.out hfz.2.1 hfz.2.2.1).mono ?_;rintro ev w9 ⟨rfl,hb9⟩;rw[HTY.out];have HS9:=gO (A.out.below hb9);have SF9:=gO (M.out.then hb9);have aKk:w4.heap.size<w9.heap.size:=gI aG0 hb9.size;obtain⟨ti,hti⟩:∃ti,u.typ p=ti:=⟨_,rfl⟩
  have HTI:=gO hti;rw[hti]at HTL ⊢;clear k0 k1 k2 k3 k4 z0 z1 z2 z3 HZA hfz HZK HTY hgz aKh hb9 A M aG0 hG8 hti hzz;have hG9:w.heap.size<w9.heap.size:=HS9.out.r.gs;go_upto_region 18 with fail
  have hbl:=aT w9 (aO #[aB aI (cpu:Int),aB aI (zi:Int),aB aI (ti:Int),aA aJ 0 0] 160);have HS10:=gO (HS9.out.new hbl);have SF10:=gO (SF9.out.then hbl);have KL:Hid (∀o,(w9.alloc (aO #[aB aI (cpu:Int),aB aI (zi:Int),aB aI (ti:Int),aA aJ 0 0] 160)).cell? ⟨w9.heap.size,o,aJ⟩=(#[aB aI (cpu:Int),aB aI (zi:Int),aB aI (ti:Int),aA aJ 0 0]:Array Value)[o]?):=bI w9 _ _;have aBp:w9.heap.size<(w9.alloc (aO #[aB aI (cpu:Int),aB aI (zi:Int),aB aI (ti:Int),aA aJ 0 0] 160)).heap.size:=by simp
  clear hbl HS9 SF9;generalize w9.alloc _=w10 at*;have l0:=KL.out 0;have l1:=KL.out 1;have l2:=KL.out 2;have l3:=KL.out 3;simp only[gB,gC,gD]at l0 l1 l2 l3;obtain⟨hlr,hrise,aG1,hlen,hhas,x,hx,hxk,hx9,Jd,_,_,Zd⟩:=aGZ.out;have hLc:L.c=cpu/\L.z=zi/\L.t=ti:=by rw[HLL.out];exact⟨rfl,HZZ.out,HTI.out⟩
  have NY:=gO hrise;have aKl:=gO aG1;have HLEN:=gO hlen;have aKm:=gO hhas;have HX:=gO hx;have HXK:=gO hxk;have HGV1:=gO Jd;have aGa:=gO Zd;have WH:=gO hLc;clear hlr hrise aG1 hlen hhas hx hxk Jd Zd hLc aGZ;go_wp2_with fail
  have hpush:=TD w.heap.size p L aJ 0 0 _ u c1 w10 HS10.out HK1.out ⟨by rw[WH.out.2.1];exact hzi,by rw[WH.out.2.2];exact HTL.out⟩;rw[WH.out.1,WH.out.2.1,WH.out.2.2]at hpush;refine hpush.mono ?_;rintro ev w11 ⟨rfl,⟨al2,cl2,lc2,U⟩,sf11⟩;obtain⟨R,hh2⟩:∃R:Hp,{u with ls:=cO u.ls L p}=R:=⟨_,rfl⟩
  obtain⟨d,hc2⟩:∃d:Hc,{c1 with al:=al2,cl:=cl2,lc:=lc2}=d:=⟨_,rfl⟩
  rw[hh2,hc2]at U;have HL2:Hid (R.ls=cO u.ls L p):=by rw[<- hh2];rfl
  have V:=gO hh2;have HS11:=gO (U.sub (Y:=λk=>k<Xc.heap.size/\k≠w.heap.size) λk hk=> .inl (.inl hk));have SF11:=gO (SF10.out.trans (sf11.sub λk _ hk=> .inl (.inl hk)));have W:=sf11.box KL.out aBp (.inr ⟨gT _,aBp⟩);have aMw:w9.heap.size<w11.heap.size:=gI aBp sf11.size;have aOO:d.lc.length<=24:=by rw[BU U.r,HL2.out];exact HLEN.out
  have aKn:=gO (BU U.r);clear l0 l1 l2 l3 hpush U sf11 HS10 SF10 KL hc2 hh2 hG9 aKk aBp;have l0:=W 0;have l1:=W 1;have l2:=W 2;have l3:=W 3;simp only[gB,gC,gD]at l0 l1 l2 l3;obtain⟨k0,k1,k2,k3,k4⟩:=HS11.out.words;have aKo:w.heap.size<w11.heap.size:=HS11.out.r.gs;go_wp2_with fail
  have hlist:=NW d.az d.am d.al d.av d.cz d.cm d.cl d.cv d.lc.length R.live.length d.y0 d.y1 d.lc R L aJ 0 0 w11 HS11.out.r.at (by rw[HL2.out];exact NY.out) (by rw[HL2.out];exact aKl.out) ⟨by rw[WH.out.2.1];exact hzi,by rw[WH.out.2.2];exact HTL.out⟩ (by omega)
  rw[WH.out.1,WH.out.2.1,WH.out.2.2,HL2.out,aKm.out]at hlist;refine hlist.mono ?_;rintro ev w12 ⟨rfl,jK⟩;have m:=gO (HS11.out.below jK);have N:=gO (SF11.out.then jK);obtain⟨J,hJ⟩:∃J,kS (cO u.ls L p) L.key=J:=⟨_,rfl⟩
  have HJ:=gO hJ;rw[hJ];have hx2:R.ls[J]? =aK x:=by rw[<- hJ,HL2.out];exact HX.out
  obtain⟨hJ2,hxJ⟩:=gK.1 hx2;have hJc:J<d.lc.length:=by rw[aKn.out];exact hJ2
  have hcx:d.lc[J].l=x:=by rw[<- hxJ];exact KE m.out.r hJc hJ2
  obtain⟨r,hr⟩:∃r,d.lc[J]=r:=⟨_,rfl⟩
  have HRJ:=gO hr;rw[hr]at hcx;have hrm:r∈d.lc:=by rw[<- hr];exact gL hJc
  have hrn:=yY (m.out.r.mG r hrm);rw[hcx]at hrn;obtain⟨gl,hgl,Cb,aDD,aDE,KH⟩:=m.out.r.uT (by omega);obtain⟨x0,x1,x2,x3⟩:=m.out.r.y7 hgl hJc;rw[hr]at x0 x1 x2 x3;have hJi:(J:Int)<d.lc.length:=by omega
  have MI:=gO hgl;have HCX:=gO hcx;have HRM:=gO hrm;have HX2:=gO hx2;clear k0 k1 k2 k3 k4 l0 l1 l2 l3 hlist jK HS11 SF11 aKo W hcx hr hJ hx2 hxJ hrm;obtain⟨k0,k1,k2,k3,k4⟩:=m.out.words;have aOP:w.heap.size<w12.heap.size:=m.out.r.gs;rw[hgl]at k3;go_upto_region 20 with fail
  by_cases h8:8<x.p.length
  ·have aKq:(8:Int)<r.n:=by omega
   have hrc:=eU (m.out.r.mG r HRM.out);obtain⟨pb,nD,aD3,_,_⟩:=aZ dH (by decide) (bJ (m.out.r.mG r HRM.out)) (j:=0) (by show 0<r.l.p.length;rw[HCX.out];omega);rw[aD3]at x3;have HPA9:=gO aD3;have hc4:4<=r.c:=by omega
   have hn4:4<=r.n:=by omega
   have aOQ:¬r.c=4:=by omega
   clear aD3;go_wp2_with fail
   clear k0 k1 k2 k3 k4 x0 x1 x2 x3 hgl Cb KH;obtain⟨wa,hwa⟩:∃wa,wa=w12:=⟨_,rfl⟩
   have HWA:=gO hwa;rw[<- hwa]at m N;clear hwa;go_loopw [109] (λs109 wr=>∃(j:Nat) (y8 y9:Zc),j<=4/\s109=aB aI (j:Int)/\Hid (HS wr w.heap.size (λk=>k<Xc.heap.size/\k≠w.heap.size) (bK R (x.p.take j)) {d with y0:=y8,y1:=y9})/\Hid (Safe (λk=>k<Xc.heap.size/\k≠w.heap.size) w4 wr)) (λs109 _=>4-(intOf s109).toNat)
   case atStart=>exact⟨0,d.y0,d.y1,gU _,rfl,by rw[<- HWA.out];exact m,by rw[<- HWA.out];exact N⟩
   case round=>
    obtain⟨j,y8,y9,hj,rfl,lD,Ce⟩:=hrel;clear m N;have hGr:w.heap.size<wr.heap.size:=lD.out.r.gs;by_cases hlt:j<4
    ·have hlt2:(j:Int)<4:=by omega
     have hjx:j<x.p.length:=by omega
     have hjr:j<r.l.p.length:=by rw[HCX.out];exact hjx
     obtain⟨pb',Fa,hp9,hpb,hpc⟩:=aZ dH (by decide) (bJ (lD.out.r.mG r HRM.out)) (j:=j) hjr;obtain⟨rfl,rfl⟩:pb=pb'/\nD=Fa:=by rw[HPA9.out]at hp9;simpa using hp9
     have Fb:=lI hpc;rw[Nat.mul_one]at Fb;obtain⟨P,hP⟩:∃P,r.l.p[j]=P:=⟨_,rfl⟩
     have hP2:x.p[j]=P:=by rw[<- hP];simp only[HCX.out]
     obtain⟨g1,g2,g3⟩:=aGa.out j hjx R.ls;have hbs:({bK {u with ls:=cO u.ls L p} (x.p.take j)with ls:=R.ls}:Hp)=bK R (x.p.take j):=by rw[V.out,<- lG,<- V.out]
     have Np:=gO (Ap R x.p hjx);rw[hbs]at g1 g2 g3;rw[hP2]at g1 g2 g3 Np;rw[hP]at Fb;have G1:=gO g1;have G2:=gO g2;have G3:=gO g3;clear hpc hP hP2 g1 g2 g3 hp9 hbs;go_wp2_with fail
     refine(Fe w.heap.size P 0 _ _ _ wr lD.out G1.out G2.out G3.out).mono ?_;rintro ev w13 ⟨rfl,⟨u0,u1,hs6⟩,sf6⟩;rw[<- Np.out]at hs6;have HS6:=gO hs6;have SF6:=gO (Ce.out.trans sf6);clear hs6 sf6 Fb;go_wp2
     go_roundw
     case rel=>exact⟨j+1,u0,u1,by omega,by go_num,HS6,SF6⟩
     case measure=>simp[intOf];omega
    ·obtain rfl:j=4:=by omega
     have hsd:=lD.out.below ((gX wr.heap.size wr).drew);have q3:wr.cell? ⟨w.heap.size,3,aJ⟩=aK (aA d.al d.lc.length d.cl):=lD.out.words.2.2.2.1;have aG2:J<d.lc.length:=by omega
     have x3:wr.cell? ⟨gl,J*4+3,aJ⟩=aK (aA d.lc[J].a d.lc[J].n d.lc[J].c):=(lD.out.r.y7 MI.out aG2).2.2.2;rw[HRJ.out,HPA9.out]at x3;rw[MI.out]at q3;have Cb:gl<wr.heap.size:=by
      obtain⟨gl',e1,e2,_⟩:=lD.out.r.uT (by show 0<d.lc.length;omega);rw[show d.al=aK ⟨gl',0,aJ⟩from e1]at MI;obtain rfl:gl'=gl:=by simpa using MI.out
      exact e2
     have hrow:Row wr.drew (aK ⟨pb,nD,aJ⟩) (flat jA x.p):=by rw[<- HPA9.out,<- HCX.out];exact bJ (hsd.r.mG r HRM.out)
     have hrow4:Row wr.drew (aK ⟨pb,nD+4,aJ⟩) (flat jA (x.p.drop 4)):=by
      have u:=fU dH x.p 4;rw[<- u];exact row_drop hrow 4
     have hx9:x.p.length=9:=by have:=hx9;omega
     have hln:(x.p.drop 4).length=r.n-4:=by rw[gTd];omega
     have Oo:=gO hrow4;have HSD:=gO hsd;have hfz:wr.frozen? ⟨gl,J*4+3,aJ⟩=false:=by
      obtain⟨gl',e1,_,_,_,e2⟩:=lD.out.r.uT (by show 0<d.lc.length;omega);rw[show d.al=aK ⟨gl',0,aJ⟩from e1]at MI;obtain rfl:gl'=gl:=by simpa using MI.out
      exact e2 _ (by show J*4+3<d.lc.length*4;omega)
     clear hrow hrow4 hsd;go_wp2_with fail
     go_region_with (go_at_call 35;refine(JO _ _ _ (x.p.drop 4) _ hln (by omega) Oo.out).mono ?_;rintro ev w14 ⟨a',c',rfl,ho,Hy⟩;have x3':=(Hy.cell (p:=⟨gl,J*4+3,aJ⟩) Cb).trans x3;have f3':=(Hy.frozen (p:=⟨gl,J*4+3,aJ⟩) Cb).trans hfz;have aG4:=gI Cb Hy.size;have q3':=(Hy.cell (p:=⟨w.heap.size,3,aJ⟩) hGr).trans q3)
     all_goals
      have hpg:=HSD.out.page (i:=J) aG2 (W':=w14) (r:=⟨{x with p:=x.p.drop 4},a',r.n-4,c'⟩) ⟨Hy.os,Hy.tape,Hy.output,Hy.size,λk hk _=>Hy.block k hk⟩ (own_base ho (gU _)) (by show x.c=d.lc[J].l.c/\x.z=d.lc[J].l.z/\x.t=d.lc[J].l.t;rw[HRJ.out,HCX.out];exact⟨rfl,rfl,rfl⟩) (λk hk=> .inr (ho.lt k hk).1) MI.out;have aKs:∃(h8:Hp) (s:Hc),HS (w14.setCell ⟨gl,J*4+3,aJ⟩ (aA a' (r.n-4) c')) w.heap.size (λk=>k<Xc.heap.size/\k≠w.heap.size) h8 s/\Safe (λk=>k<Xc.heap.size/\k≠w.heap.size) wr.drew (w14.setCell ⟨gl,J*4+3,aJ⟩ (aA a' (r.n-4) c'))/\u.give cpu p=h8:=⟨_,_,hpg.1,hpg.2,by
       rw[HGV1.out,if_pos h8,HJ.out,V.out,lG];simp only[HL2.out]⟩
      clear hpg ho;obtain⟨h8,s,hs8,sf8,he8⟩:=aKs;have yX:Hid (∃hi:lb h.live p<h.live.length,h.fZ cpu (lb h.live p) h.live[lb h.live p]=h8):=by
       obtain⟨h1i,h1e⟩:=HFR0.out;exact⟨h1i,by rw[h1e,he8]⟩
      have A:=gO hs8;have M:=gO ((Ce.out.then ((gX wr.heap.size wr).drew)).trans sf8);clear hs8 sf8 he8 x3' f3' aG4 q3' lD Ce HSD Oo Hy hfz q3 x3 Cb;generalize w14.setCell _ _=w8 at*;have HB0:w.heap.size<=w4.heap.size:=by omega
      obtain⟨⟨D,E,G,F,C⟩,⟨f10,f11,f12,f13,f14⟩,K,H,KX⟩:=ret5 HB4.out M.out A.out Ou.out Qy.out qR hX1 (λk hk=>⟨by omega,by omega⟩) HB0 (Nat.le_succ _) (aA s.az 2 s.cz) (aA s.am 2 s.cm) (aB aI (h8.aP:Int)) (aA s.al s.lc.length s.cl) (aA s.av h8.live.length s.cv);unfold put5 at K H;have pO:=gO K;have kP:=gO H;have hG8:w.heap.size<w8.heap.size:=A.out.r.gs;have aGY:w.heap.size+1<w8.heap.size:=by have:=M.out.size;omega
      obtain⟨q0,q1,q2,q3,q4⟩:=A.out.words;unfold put5 at KX;clear K H A M;go_wp2
      generalize (((((w8.setCell _ _).setCell _ _).setCell _ _).setCell _ _).setCell _ _)=wx at*;obtain⟨hi',e⟩:=yX.out;refine bodyPost_ret (v:=aG #[aC #[aA s.az 2 s.cz,aA s.am 2 s.cm,aB aI (h8.aP:Int),aA s.al s.lc.length s.cl,aA s.av h8.live.length s.cv],aB aI 0]) (by simp[results,results42,go_sem,KX]) rfl ?_
      first
       | exact⟨kP.out,s,hi',by rw[e];rfl,by rw[e];exact pO.out.r.sub (λk hk=>⟨by omega,by omega⟩)⟩
       | exact⟨kP.out,s,by rw[e];rfl,by rw[e];exact pO.out.r.sub (λk hk=>⟨by omega,by omega⟩)⟩
  ·have aKq:¬(8:Int)<r.n:=by omega
   have yX:Hid (∃hi:lb h.live p<h.live.length,h.fZ cpu (lb h.live p) h.live[lb h.live p]=R):=by
    obtain⟨h1i,h1e⟩:=HFR0.out;exact⟨h1i,by rw[h1e,HGV1.out,if_neg h8,V.out]⟩
   go_upto_region 27 with fail
   clear k0 k1 k2 k3 k4 x0 x1 x2 x3 hgl Cb KH;have HB00:w.heap.size<=w4.heap.size:=by omega
   obtain⟨⟨D,E,G,F,C⟩,⟨f10,f11,f12,f13,f14⟩,K,H,KX⟩:=ret5 HB4.out N.out m.out Ou.out Qy.out qR hX1 (λk hk=>⟨by omega,by omega⟩) HB00 (Nat.le_succ _) (aA d.az 2 d.cz) (aA d.am 2 d.cm) (aB aI (R.aP:Int)) (aA d.al d.lc.length d.cl) (aA d.av R.live.length d.cv);unfold put5 at K H;have pO:=gO K;have kP:=gO H;have hG8:w.heap.size<w12.heap.size:=m.out.r.gs;have aGY:w.heap.size+1<w12.heap.size:=by have:=N.out.size;omega
   obtain⟨q0,q1,q2,q3,q4⟩:=m.out.words;unfold put5 at KX;clear K H m N;go_wp2
   generalize (((((w12.setCell _ _).setCell _ _).setCell _ _).setCell _ _).setCell _ _)=wx at*;obtain⟨hi',e⟩:=yX.out;refine bodyPost_ret (v:=aG #[aC #[aA d.az 2 d.cz,aA d.am 2 d.cm,aB aI (R.aP:Int),aA d.al d.lc.length d.cl,aA d.av R.live.length d.cv],aB aI 0]) (by simp[results,results42,go_sem,KX]) rfl ?_
   first
    | exact⟨kP.out,d,hi',by rw[e];rfl,by rw[e];exact pO.out.r.sub (λk hk=>⟨by omega,by omega⟩)⟩
    | exact⟨kP.out,d,by rw[e];rfl,by rw[e];exact pO.out.r.sub (λk hk=>⟨by omega,by omega⟩)⟩
end Go.Proofs.YtjaogfhcnmjkiaaGreatDoor
