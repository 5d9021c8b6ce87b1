/- joined. -/
import Derived.Test.YtcmpmobhongkiaaGreatDoorRK0
import Derived.Test.YtcmpmobhongkiaaGreatDoorRK13
import Derived.Test.YtcmpmobhongkiaaGreatDoorRK25
import Derived.Test.YtcmpmobhongkiaaGreatDoorRK31
import Derived.Test.YtcmpmobhongkiaaGreatDoorRK7
set_option linter.unusedVariables false
set_option linter.unusedSimpArgs false
namespace Go.Proofs.YtcmpmobhongkiaaGreatDoor
section
open Go.RowKit
def Ca.idle (c:Ca)(x:Sl):Bool:=decide (x.n=c.r)&& !c.ac.contains (x.p:Int)
set_option maxHeartbeats 4000000 in
set_option maxRecDepth 100000 in
theorem Wu (y:Cc)(x:Sl)(w:World)(hl:y.c.ac.length=y.n3)(hn:y.n3<=1000)(hr:Row w y.a3 (y.c.ac.map vI)):
 Calls Tryz.prog 73 #[.agg #[.slice y.a1 y.n1 y.c1,.int .i64 y.c.z,.int .i64 y.c.r,.int .i64 y.c.o,.slice y.a2 y.n2 y.c2,.slice y.a3 y.n3 y.c3],.agg #[.int .i64 x.p,.int .i64 x.n,.int .i64 x.h]] w fun ev w'=>ev= .returned (.bool (y.c.idle x))/\Below w.heap.size w w':=by
 obtain⟨K1,K2,F1,F2,hsz,hbw⟩:=boxes2 w #[.slice y.a1 y.n1 y.c1,.int .i64 (y.c.z:Int),.int .i64 (y.c.r:Int),.int .i64 (y.c.o:Int),.slice y.a2 y.n2 y.c2,.slice y.a3 y.n3 y.c3] 94 #[.int .i64 (x.p:Int),.int .i64 (x.n:Int),.int .i64 x.h] 137;have k2:=K1 2;have k5:=K1 5;have m0:=K2 0;have m1:=K2 1;simp only[gB,gC,gD]at k2 k5 m0 m1;have h:=jH y.a3 y.c3 y.c.ac (x.p:Int) _ (by omega) (hr.below hbw);rw[hl]at h;have HC:=gO h;have HB:=gO hbw;clear h hbw hr K1 K2 F1 F2;by_cases hx:x.n=y.c.r
 ·have hxi:((x.n:Int) == (y.c.r:Int))=true:=by rw[beq_iff_eq,hx]
  have HX:=gO hx;clear hx;go_enter Tryz.func73,Tryz.ntmps73
  go_wp2_with (go_at_call 35;refine HC.out.mono ?_;rintro ev w2 ⟨rfl,rfl⟩)
  go_ret
  refine⟨aV ?_,HB.out⟩;unfold Ca.idle;rw[decide_eq_true HX.out];rfl
 ·have hxi:((x.n:Int) == (y.c.r:Int))=false:=by rw[beq_eq_false_iff_ne];omega
  have HX:=gO hx;clear hx;go_enter Tryz.func73,Tryz.ntmps73
  go_wp2_with fail
  go_ret
  refine⟨aV ?_,HB.out⟩;unfold Ca.idle;rw[decide_eq_false HX.out];rfl
end
section
open Go.RowKit
set_option maxHeartbeats 8000000 in
set_option maxRecDepth 100000 in
theorem OZ (v:Sc)(s:Sy)(i k:Nat)(a:Int)(l:List Int)(w:World)(hs:nV w v s)(hk:bK s)(hf:∀c∈s.cs,c.ns.length<=1000)(hi:i<s.cs.length)(hkk:k<s.cs[i].sl.length)(hob:fU s.cs[i] s.cs[i].sl[k].p a=true)(hfl:follow s.w s.cs[i].sl[k].h s.cs[i].r=some l)(hal:a∉l):
 Calls Tryz.prog 43 #[.agg #[.slice v.a1 v.n1 v.c1,.slice v.hc.az 2 v.hc.cz,.slice v.hc.am 2 v.hc.cm,.int .i64 (s.h.aC:Int),.slice v.hc.al v.hc.lc.length v.hc.cl,.slice v.hc.av s.h.live.length v.hc.cv,.slice v.a2 v.ys.length v.c2],.int .i64 a] w fun ev w'=>ev= .returned (.tuple #[.int .i64 i,.int .i64 k,.int .i64 0])/\Below w.heap.size w w':=by
 obtain⟨K0,F0,hsz,hbw⟩:=boxes1 w #[.slice v.a1 v.n1 v.c1,.slice v.hc.az 2 v.hc.cz,.slice v.hc.am 2 v.hc.cm,.int .i64 (s.h.aC:Int),.slice v.hc.al v.hc.lc.length v.hc.cl,.slice v.hc.av s.h.live.length v.hc.cv,.slice v.a2 v.ys.length v.c2] 47;have HS:=gO (hs.below hbw);have HB:=gO hbw;have HK:=gO hk;have HK0:=gO K0;have rP:=gO (lJ v s _ (hs.below hbw) hk hf);have hyl:v.ys.length<=20:=by have:=congrArg List.length hs.cy;rw[List.length_map]at this;rw[this];exact hk.cl
 have WL:v.ys.length=s.cs.length:=by have:=congrArg List.length hs.cy;simpa using this
 have hab:0<=a/\a<4096:=by
  have h1:=iV (hk.ck _ (gL hi)).room hob;obtain⟨b,hb,hb1,hb2⟩:=((hk.ck _ (gL hi)).sk _ (gL hkk)).live;obtain⟨⟨_,_,h3,h4⟩,_⟩:=hk.hk.lv b hb;have h5:s.cs[i].o<=2:=by rw[(hk.ck _ (gL hi)).o];exact kT _
  rw[hb1]at h3 h4;rw[hb2]at h4;generalize s.cs[i].o=o at*;obtain rfl | rfl | rfl:o=0∨o=1∨o=2:=by omega
  ·omega
  ·omega
  ·omega
 have YK:=gO WL;have HOB:=gO hob;have HFL:=gO hfl;have Au:=gO hal;obtain⟨k0,k1,k2,k3,k4,k5,k6⟩:=gA7 K0;clear hs hk hf hbw K0 F0 hob hfl hal WL;go_enter Tryz.func43,Tryz.ntmps43
 go_upto_region 1 with fail
 generalize w.alloc _=w1 at*;go_upto_region 4 with (go_at_call 38;refine rP.out.mono ?_;rintro ev w2 ⟨rfl,hb2⟩)
 have HB2:=gO hb2;have k6':=(hb2.cell (p:=⟨w.heap.size,6,none⟩) hsz).trans k6;clear k0 k1 k2 k3 k4 k5 k6 rP hb2;go_wp2_with fail
 clear k6';go_loopw [22] (fun s22 wr=>∃(i':Nat),i'<=i/\s22= .int .i64 (i':Int)/\Hid (Below w1.heap.size w1 wr)) (fun s22 _=>v.ys.length-(intOf s22).toNat)
 case atStart=>exact⟨0,Nat.zero_le _,rfl,HB2⟩
 case round=>
  obtain⟨i',hi',rfl,mG⟩:=hrel;have hlt:i'<v.ys.length:=by rw[YK.out];omega
  have hic:i'<s.cs.length:=by omega
  have EC:(i':Int)<v.ys.length:=by omega
  have hel:v.ys[i'].c=s.cs[i']:=by
   have h1:=congrArg (·[i']?) HS.out.cy;simp[hlt,hic]at h1;exact h1
  have lM:=HS.out.below mG.out;obtain⟨bb,off,hba,hbb,hbc⟩:=aN dU (by decide) lM.rc hlt;obtain⟨e0,e1,e2,e3,e4,e5⟩:=jY hbc;have hcy:=lM.ca _ (gL hlt);have hck:=HK.out.ck _ (gL hic);rw[<- hel]at hck;have LM:∀(c:Ca),c=s.cs[i']->∀k' x,c.sl[k']? =some x->¬(i'=i/\k'=k)->fU c x.p a=false:=fun c hc k' x hx hne=>by
   subst hc;obtain⟨hk',e⟩:=List.getElem?_eq_some_iff.1 hx;cases h:fU s.cs[i'] x.p a with
   | false=>rfl
   | true=>
    rw[<- e]at h;exact absurd (HK.out.only hic hi hk' hkk h HOB.out) hne
  have aAc:∀(c:Ca),c=s.cs[i']->i'=i->∃x,c.sl[k]? =some x/\fU c x.p a=true/\follow s.w x.h c.r=some l:=fun c hc he=>by
   subst hc;subst he;exact⟨_,gJ hkk,HOB.out,HFL.out⟩
  have Pg:=LM _ hel;have Ph:=aAc _ hel;obtain⟨y,hy⟩:∃y,v.ys[i']=y:=⟨_,rfl⟩
  rw[hy]at Pg Ph;rw[hy]at e0 e1 e2 e3 e4 e5 hcy hck;have HON:=gO Pg;have HTH:=gO Ph;have HY:=gO hy;have hsl:=hck.mP HK.out.hk;have hl2:=hcy.l2;have hn2:y.n2<=256:=by omega
  have HL2:=gO hl2;have Ir:=gO hcy;have qJ:=gO hck;have HA:=gO hba;rw[hba];clear hbc hba hel lM hbb LM aAc Pg Ph hy hl2 hsl hcy hck;go_upto_region 7 with fail
  have hb6:=aF wr (.cells #[.slice y.a1 y.n1 y.c1,.int .i64 (y.c.z:Int),.int .i64 (y.c.r:Int),.int .i64 (y.c.o:Int),.slice y.a2 y.n2 y.c2,.slice y.a3 y.n3 y.c3] 94);have K6:=aW wr #[.slice y.a1 y.n1 y.c1,.int .i64 (y.c.z:Int),.int .i64 (y.c.r:Int),.int .i64 (y.c.o:Int),.slice y.a2 y.n2 y.c2,.slice y.a3 y.n3 y.c3] 94;have hs6:wr.heap.size<(wr.alloc (.cells #[.slice y.a1 y.n1 y.c1,.int .i64 (y.c.z:Int),.int .i64 (y.c.r:Int),.int .i64 (y.c.o:Int),.slice y.a2 y.n2 y.c2,.slice y.a3 y.n3 y.c3] 94)).heap.size:=by simp
  have HB6:=gO (Below.step mG.out hb6);have HC6:=gO (Ir.out.below hb6);have HK6:=gO K6;have k4:=K6 4;simp only[gB,gC,gD]at k4;clear hb6 K6 e0 e1 e2 e3 e4 e5 Ir mG;obtain⟨we,rfl⟩:∃we,we=wr:=⟨_,rfl⟩
  generalize we.alloc _=w6 at*;obtain⟨BC,ZQ⟩:∃B,we.heap.size=B:=⟨_,rfl⟩
  rw[ZQ]at HK6 hs6 k4 ⊢;clear ZQ;go_wp2_with fail
  clear k4;go_loopw [30] (fun s30 wr=>∃(k':Nat),k'<=y.n2/\(i'=i->k'<=k)/\s30= .int .i64 (k':Int)/\Hid (Below w1.heap.size w1 wr)/\BC<wr.heap.size/\Hid (∀o,wr.cell? ⟨BC,o,none⟩=(#[.slice y.a1 y.n1 y.c1,.int .i64 (y.c.z:Int),.int .i64 (y.c.r:Int),.int .i64 (y.c.o:Int),.slice y.a2 y.n2 y.c2,.slice y.a3 y.n3 y.c3]:Array Value)[o]?)) (fun s30 _=>y.n2-(intOf s30).toNat)
  case atStart=>exact⟨0,Nat.zero_le _,fun _=>Nat.zero_le _,rfl,HB6,hs6,HK6⟩
  case round=>
   obtain⟨k',hkn,hkle,rfl,HBk,hsk,HKk⟩:=hrel;clear HB6 hs6 HK6 HC6;have hsr:=HS.out.below HBk.out;have DL:=hsr.ca _ (gL hlt);rw[HY.out]at DL;by_cases hkl:k'<y.n2
   ·have hki:(k':Int)<y.n2:=by omega
    have hks:k'<y.c.sl.length:=by rw[HL2.out];exact hkl
    obtain⟨sb,so,hsb,Iz,tZ⟩:=aN aK (by decide) DL.r2 hks;obtain⟨n0,n1,n2⟩:=fC tZ;have hxp:=(qJ.out.sk _ (gL hks)).zH HK.out.hk;have hxg:y.c.sl[k']? =some y.c.sl[k']:=gJ hks;have HXN:=gO (HON.out k' _ hxg);have aGX:=gO DL;have HXG:=gO hxg;generalize y.c.sl[k']=x at*;rw[hsb];have b9:=aF wr (.cells #[.int .i64 (x.p:Int),.int .i64 (x.n:Int),.int .i64 x.h] 137);have KX:=aW wr #[.int .i64 (x.p:Int),.int .i64 (x.n:Int),.int .i64 x.h] 137;have hs9:wr.heap.size<(wr.alloc (.cells #[.int .i64 (x.p:Int),.int .i64 (x.n:Int),.int .i64 x.h] 137)).heap.size:=by simp
    have HB9:=gO (Below.step HBk.out b9);have KC9:=aB HKk.out hsk b9;have Pj:=gI hsk b9.size;have m0:=KX 0;have m1:=KX 1;have m2:=KX 2;have c0:=KC9 0;have c1:=KC9 1;have c2:=KC9 2;have c3:=KC9 3;have c4:=KC9 4;have c5:=KC9 5;simp only[gB,gC,gD]at m0 m1 m2 c0 c1 c2 c3 c4 c5;rw[hsb]at c4;have HKC9:=gO KC9;have QI:=gO KX;have EM:=gO (fun W=>wS y.c y.a1 y.a2 y.a3 y.n1 y.c1 y.n2 y.c2 y.n3 y.c3 x.p a W qJ.out.z.1 (gQ qJ.out.rz (by decide)) (by omega) (by omega) (by omega));rw[hsb]at EM;have HSB:=gO hsb;clear tZ hsr DL hks hxg KC9 KX hsb;go_upto_region 10 with fail
    clear n0 n1 n2;generalize (wr.alloc _)=w9 at*;generalize wr.heap.size=BX at*;by_cases he:i'=i/\k'=k
    ·obtain⟨he1,he2⟩:=he;obtain⟨x',hx',WM,aBB⟩:=HTH.out he1;have hxx:x'=x:=by
      have h9:=HXG.out;rw[he2,hx']at h9;exact gP h9
     subst hxx;rw[WM]at EM;obtain⟨l2,aBC,WO,Pm⟩:=(qJ.out.sk x' (gM hx')).chain;rw[aBB]at aBC;obtain rfl:=gP aBC;have hlb:∀b∈l,0<=b/\b<=1000000:=fun b hb=>by
      have h9:=iV qJ.out.room (Pm b hb);have h8:y.c.o<=2:=by rw[qJ.out.o];exact kT _
      have h7:2^y.c.o<=4:=by
       generalize y.c.o=o at*;obtain rfl | rfl | rfl:o=0∨o=1∨o=2:=by omega
       all_goals decide
      generalize 2^y.c.o=q at*;omega
     have aBD:=(qJ.out.sk x' (gM hx')).Ro;have Wn:=qJ.out.r64;have hxn:x'.n<=1000000:=by omega
     have hn1:v.n1<=4096:=by rw[<- HS.out.lw,HK.out.wl];exact Nat.le_refl _
     have hlen:l.length<=1000000:=by omega
     have KW:Hid (∀W,Below w9.heap.size w9 W->Calls Tryz.prog 91 #[.agg #[.slice v.a1 v.n1 v.c1,.slice v.hc.az 2 v.hc.cz,.slice v.hc.am 2 v.hc.cm,.int .i64 s.h.aC,.slice v.hc.al v.hc.lc.length v.hc.cl,.slice v.hc.av s.h.live.length v.hc.cv,.slice (some ⟨bb,off,none⟩) v.ys.length v.c2],.agg #[.slice y.a1 y.n1 y.c1,.int .i64 y.c.z,.int .i64 y.c.r,.int .i64 y.c.o,.slice (some ⟨sb,so,none⟩) y.n2 y.c2,.slice y.a3 y.n3 y.c3],.agg #[.int .i64 x'.p,.int .i64 x'.n,.int .i64 x'.h]] W fun ev w'=>∃(a':Option Addr) (c':Nat),ev= .returned (.tuple #[.slice a' l.length c',.bool true])/\Row w' a' (l.map vI)/\Below W.heap.size W w'):=fun W hW=>by
      have h9:=yJ v.a1 v.hc.az v.hc.am v.hc.al v.hc.av (some ⟨bb,off,none⟩) v.n1 v.c1 v.hc.cz v.hc.cm v.hc.lc.length v.hc.cl s.h.live.length v.hc.cv v.ys.length v.c2 s.h.aC s.w y x' l W HS.out.lw hn1 ((HS.out.below (HB9.out.trans (hW.mono HB9.out.size))).rw) qJ.out.z.1 (gQ qJ.out.rz (by decide)) (by omega) aBB WO Pm hlb hxn;rw[HSB.out]at h9;exact h9
     have hnc:tN l a=false:=by
      unfold tN;rw[<- Bool.not_eq_true,List.contains_iff_mem];exact Au.out
     have HNC:=gO hnc;have k0':=(HB9.out.cell (p:=⟨w.heap.size,0,none⟩) hsz)
     have hcells:Hid (∀W,Below w9.heap.size w9 W->∀o,W.cell? ⟨w.heap.size,o,none⟩=(#[.slice v.a1 v.n1 v.c1,.slice v.hc.az 2 v.hc.cz,.slice v.hc.am 2 v.hc.cm,.int .i64 (s.h.aC:Int),.slice v.hc.al v.hc.lc.length v.hc.cl,.slice v.hc.av s.h.live.length v.hc.cv,.slice v.a2 v.ys.length v.c2]:Array Value)[o]?):=fun W hW=>aB HK0.out hsz (HB9.out.trans (hW.mono HB9.out.size))
     have LP:=gO hlen;clear k0' hnc hlb WO Pm aBD Wn aBB hx' WM HXN HXG HTH HON hlen;go_upto_region 11 with (go_at_call 90;refine(EM.out _).mono ?_;rintro ev w10 ⟨rfl,mD⟩)
     have K10:=hcells.out w10 mD;have KC10:=aB HKC9.out Pj mD;have KX10:=aB QI.out hs9 mD;clear m0 m1 m2 c0 c1 c2 c3 c4 c5 aBC;have p0:=K10 0;have p1:=K10 1;have p2:=K10 2;have p3:=K10 3;have p4:=K10 4;have p5:=K10 5;have p6:=K10 6;have c0:=KC10 0;have c1:=KC10 1;have c2:=KC10 2;have c3:=KC10 3;have c4:=KC10 4;have c5:=KC10 5;have m0:=KX10 0;have m1:=KX10 1;have m2:=KX10 2;simp only[gB,gC,gD]at p0 p1 p2 p3 p4 p5 p6 c0 c1 c2 c3 c4 c5 m0 m1 m2;rw[HA.out]at p6;rw[HSB.out]at c4;have HC11:=gO (KW.out w10 mD);have HB10:=gO (Below.step HB9.out mD);have hi0:(i':Int)=i:=by omega
     have hk0:(k':Int)=k:=by omega
     have HI0:=gO hi0;have aKX:=gO hk0;clear K10 KC10 KX10 mD HKC9 QI HB9 EM KW hcells hi0 hk0 he1 he2;go_upto_region 12 with (go_at_call 91;refine HC11.out.mono ?_;rintro ev w11 ⟨a',c',rfl,hrow,YL⟩)
     have Dp:=gO (jH a' c' l a w11 (by have:=LP.out;omega) hrow);rw[HNC.out]at Dp;clear p0 p1 p2 p3 p4 p5 p6 c0 c1 c2 c3 c4 c5 m0 m1 m2 hrow;go_wp2_with (go_at_call 35;refine Dp.out.mono ?_;rintro ev w12 ⟨rfl,rfl⟩)
     exact bodyPost_ret (v:= .tuple #[.int .i64 (i:Int),.int .i64 (k:Int),.int .i64 0]) (by simp[results,Tryz.results43,go_sem]) rfl ⟨rfl,Below.step HB.out (Below.step HB10.out YL)⟩
    ·have WM:=HXN.out he;rw[WM]at EM;clear WM;go_upto_region 15 with (go_at_call 90;refine(EM.out _).mono ?_;rintro ev w10 ⟨rfl,mD⟩)
     have HB10:=gO (Below.step HB9.out mD);have HK10:=gO (aB HKC9.out Pj mD);have WQ:=gI Pj mD.size;have hke:i'=i->k'+1<=k:=fun h9=>by
      have:=hkle h9;have:k'≠k:=fun h8=>he ⟨h9,h8⟩
      omega
     have HKE:=gO hke;clear m0 m1 m2 c0 c1 c2 c3 c4 c5 mD HKC9 QI HB9 EM hke hkle he;go_wp2
     go_roundw
     case rel=>exact⟨k'+1,by omega,HKE.out,by go_num,HB10,WQ,(by rw[HSB.out]at HK10;exact HK10)⟩
     case measure=>simp[intOf];omega
   ·obtain rfl:k'=y.n2:=by omega
    have hne:i'≠i:=fun h9=>by
     obtain⟨x,hx,_⟩:=HTH.out h9;have h8:=(List.getElem?_eq_some_iff.1 hx).1;have h7:=hkle h9;have h6:=HL2.out;omega
    have hii:i'+1<=i:=by omega
    clear hsr DL hkle hne;go_wp2
    go_roundw
    case rel=>exact⟨i'+1,hii,by go_num,HBk⟩
    case measure=>simp[intOf];omega
end
section
theorem Eb {h:Hp}(hk:dZ h):∀j,j<=6->bK (dB h j)
 | 0,_=>JK hk
 | j+1,hj=>by
  obtain⟨h1,h2,h3⟩:=wU h (j:=j) (by omega);have hz:1<=[1,2,4,8,16,32].getD j 0/\[1,2,4,8,16,32].getD j 0<=64:=by
   obtain rfl | rfl | rfl | rfl | rfl | rfl:j=0∨j=1∨j=2∨j=3∨j=4∨j=5:=by omega
   all_goals decide
  exact((Eb hk j (by omega)).create h3 hz h1 h2).1
end
end Go.Proofs.YtcmpmobhongkiaaGreatDoor
