/- joined. -/
import Derived.Test.YtcmpmobhongkiaaGreatDoorRK0
import Derived.Test.YtcmpmobhongkiaaGreatDoorRK25
import Derived.Test.YtcmpmobhongkiaaGreatDoorRK32
set_option linter.unusedVariables false
set_option linter.unusedSimpArgs false
namespace Go.Proofs.YtcmpmobhongkiaaGreatDoor
section
open Go.RowKit
def Sy.fV (s:Sy)(i k:Nat)(a:Int):Prop:=∃c x,s.cs[i]? =some c/\c.sl[k]? =some x/\lS s.w c x a
theorem dL {s:Sy}{i:Nat}{a:Int}:s.away i a↔∃k,s.fV i k a:=by
 constructor
 ·rintro⟨c,hc,x,hx,ho⟩;obtain⟨k,hk,e⟩:=List.mem_iff_getElem.1 hx;exact⟨k,c,x,hc,by rw[gJ hk,e],ho⟩
 ·rintro⟨k,c,x,hc,hx,ho⟩;exact⟨c,hc,x,gM hx,ho⟩
theorem bK.sO {s:Sy}(hk:bK s){i k j l:Nat}{a:Int}(h1:s.fV i k a)(h2:s.fV j l a):i=j/\k=l:=by
 obtain⟨c,x,hc,hx,ho⟩:=h1;obtain⟨d,y,hd,hy,ho'⟩:=h2;obtain⟨hi,rfl⟩:=List.getElem?_eq_some_iff.1 hc;obtain⟨hj,rfl⟩:=List.getElem?_eq_some_iff.1 hd;obtain⟨hk',rfl⟩:=List.getElem?_eq_some_iff.1 hx;obtain⟨hl,rfl⟩:=List.getElem?_eq_some_iff.1 hy;exact hk.only hi hj hk' hl ho.1 ho'.1
def Bf (s:Sy)(a:Int)(ev:Ending):Prop:=(∃i k,s.fV i k a/\ev= .returned (.tuple #[.int .i64 (i:Int),.int .i64 (k:Int),.int .i64 0]))∨((∀i k,¬s.fV i k a)/\ev= .returned (.tuple #[.int .i64 0,.int .i64 0,.int .i64 4]))
def LU (s:Sy)(a:Int)(n:Nat):Prop:=∀i c,i<n->s.cs[i]? =some c->∀x∈c.sl,fU c x.p a=false
theorem LU.none {s:Sy}{a:Int}(h:LU s a s.cs.length):∀i k,¬s.fV i k a:=fun i k ⟨c,x,hc,hx,ho⟩=>by
 have h1:=h i c (List.getElem?_eq_some_iff.1 hc).1 hc x (gM hx);rw[ho.1]at h1;cases h1
theorem bK.WR {s:Sy}(hk:bK s){i k:Nat}{c:Ca}{x:Sl}{a:Int}{l:List Int}(hc:s.cs[i]? =some c)(hx:c.sl[k]? =some x)(ho:fU c x.p a=true)(hl:follow s.w x.h c.r=some l)(ha:a∈l):∀j m,¬s.fV j m a:=fun j m h=>by
 obtain⟨d,y,hd,hy,ho'⟩:=h;obtain⟨hi,rfl⟩:=List.getElem?_eq_some_iff.1 hc;obtain⟨hj,rfl⟩:=List.getElem?_eq_some_iff.1 hd;obtain⟨hk',rfl⟩:=List.getElem?_eq_some_iff.1 hx;obtain⟨hm,rfl⟩:=List.getElem?_eq_some_iff.1 hy;obtain⟨rfl,rfl⟩:=hk.only hi hj hk' hm ho ho'.1;exact ho'.2 l hl ha
set_option maxHeartbeats 8000000 in
set_option maxRecDepth 100000 in
theorem Gi (v:Sc)(s:Sy)(a:Int)(w:World)(hs:nV w v s)(hk:bK s)(hf:∀c∈s.cs,c.ns.length<=1000)(hab: -1000000<=a/\a<=1000000):
 Calls Tryz.prog 43 #[.agg #[.slice v.a1 v.n1 v.c1,.slice v.hc.az 2 v.hc.cz,.slice v.hc.am 2 v.hc.cm,.int .i64 (s.h.aC:Int),.slice v.hc.al v.hc.lc.length v.hc.cl,.slice v.hc.av s.h.live.length v.hc.cv,.slice v.a2 v.ys.length v.c2],.int .i64 a] w fun ev w'=>Bf s a ev/\Below w.heap.size w w':=by
 obtain⟨K0,F0,hsz,hbw⟩:=boxes1 w #[.slice v.a1 v.n1 v.c1,.slice v.hc.az 2 v.hc.cz,.slice v.hc.am 2 v.hc.cm,.int .i64 (s.h.aC:Int),.slice v.hc.al v.hc.lc.length v.hc.cl,.slice v.hc.av s.h.live.length v.hc.cv,.slice v.a2 v.ys.length v.c2] 47;have HS:=gO (hs.below hbw);have HB:=gO hbw;have HK:=gO hk;have HK0:=gO K0;have rP:=gO (lJ v s _ (hs.below hbw) hk hf);have hyl:v.ys.length<=20:=by have:=congrArg List.length hs.cy;rw[List.length_map]at this;rw[this];exact hk.cl
 have WL:v.ys.length=s.cs.length:=by have:=congrArg List.length hs.cy;simpa using this
 have YK:=gO WL;obtain⟨k0,k1,k2,k3,k4,k5,k6⟩:=gA7 K0;clear hs hk hf hbw K0 F0 WL;go_enter Tryz.func43,Tryz.ntmps43
 go_upto_region 1 with fail
 generalize w.alloc _=w1 at*;go_upto_region 4 with (go_at_call 38;refine rP.out.mono ?_;rintro ev w2 ⟨rfl,hb2⟩)
 have HB2:=gO hb2;have k6':=(hb2.cell (p:=⟨w.heap.size,6,none⟩) hsz).trans k6;clear k0 k1 k2 k3 k4 k5 k6 rP hb2;go_wp2_with fail
 clear k6';go_loopw [22] (fun s22 wr=>∃(i':Nat),i'<=v.ys.length/\Hid (LU s a i')/\s22= .int .i64 (i':Int)/\Hid (Below w1.heap.size w1 wr)) (fun s22 _=>v.ys.length-(intOf s22).toNat)
 case atStart=>exact⟨0,Nat.zero_le _,fun _ _ h=>by omega,rfl,HB2⟩
 case round=>
  obtain⟨i',hi',Yr,rfl,mG⟩:=hrel;by_cases hlt:i'<v.ys.length
  ·have hic:i'<s.cs.length:=by rw[<- YK.out];exact hlt
   have EC:(i':Int)<v.ys.length:=by omega
   have hel:v.ys[i'].c=s.cs[i']:=by
    have h1:=congrArg (·[i']?) HS.out.cy;simp[hlt,hic]at h1;exact h1
   have lM:=HS.out.below mG.out;obtain⟨bb,off,hba,hbb,hbc⟩:=aN dU (by decide) lM.rc hlt;obtain⟨e0,e1,e2,e3,e4,e5⟩:=jY hbc;have hcy:=lM.ca _ (gL hlt);have hck:=HK.out.ck _ (gL hic);have hcI:s.cs[i']? =some s.cs[i']:=gJ hic;rw[<- hel]at hck hcI;obtain⟨y,hy⟩:∃y,v.ys[i']=y:=⟨_,rfl⟩
   rw[hy]at e0 e1 e2 e3 e4 e5 hcy hck hcI;have HY:=gO hy;have Eo:=gO hcI;have hsl:=hck.mP HK.out.hk;have hl2:=hcy.l2;have hn2:y.n2<=256:=by omega
   have HL2:=gO hl2;have Ir:=gO hcy;have qJ:=gO hck;have HA:=gO hba;rw[hba];clear hbc hba hel lM hbb hy hl2 hsl hcy hck hcI;go_upto_region 7 with fail
   have hb6:=aF wr (.cells #[.slice y.a1 y.n1 y.c1,.int .i64 (y.c.z:Int),.int .i64 (y.c.r:Int),.int .i64 (y.c.o:Int),.slice y.a2 y.n2 y.c2,.slice y.a3 y.n3 y.c3] 94);have K6:=aW wr #[.slice y.a1 y.n1 y.c1,.int .i64 (y.c.z:Int),.int .i64 (y.c.r:Int),.int .i64 (y.c.o:Int),.slice y.a2 y.n2 y.c2,.slice y.a3 y.n3 y.c3] 94;have hs6:wr.heap.size<(wr.alloc (.cells #[.slice y.a1 y.n1 y.c1,.int .i64 (y.c.z:Int),.int .i64 (y.c.r:Int),.int .i64 (y.c.o:Int),.slice y.a2 y.n2 y.c2,.slice y.a3 y.n3 y.c3] 94)).heap.size:=by simp
   have HB6:=gO (Below.step mG.out hb6);have HC6:=gO (Ir.out.below hb6);have HK6:=gO K6;have k4:=K6 4;simp only[gB,gC,gD]at k4;clear hb6 K6 e0 e1 e2 e3 e4 e5 Ir mG;obtain⟨we,rfl⟩:∃we,we=wr:=⟨_,rfl⟩
   generalize we.alloc _=w6 at*;obtain⟨BC,ZQ⟩:∃B,we.heap.size=B:=⟨_,rfl⟩
   rw[ZQ]at HK6 hs6 k4 ⊢;clear ZQ;go_wp2_with fail
   clear k4;go_loopw [30] (fun s30 wr=>∃(k':Nat),k'<=y.n2/\Hid (∀k'' x,k''<k'->y.c.sl[k'']? =some x->fU y.c x.p a=false)/\s30= .int .i64 (k':Int)/\Hid (Below w1.heap.size w1 wr)/\BC<wr.heap.size/\Hid (∀o,wr.cell? ⟨BC,o,none⟩=(#[.slice y.a1 y.n1 y.c1,.int .i64 (y.c.z:Int),.int .i64 (y.c.r:Int),.int .i64 (y.c.o:Int),.slice y.a2 y.n2 y.c2,.slice y.a3 y.n3 y.c3]:Array Value)[o]?)) (fun s30 _=>y.n2-(intOf s30).toNat)
   case atStart=>exact⟨0,Nat.zero_le _,fun _ _ h=>by omega,rfl,HB6,hs6,HK6⟩
   case round=>
    obtain⟨k',hkn,HNK,rfl,HBk,hsk,HKk⟩:=hrel;clear HB6 hs6 HK6 HC6;have hsr:=HS.out.below HBk.out;have DL:=hsr.ca _ (gL hlt);rw[HY.out]at DL;by_cases hkl:k'<y.n2
    ·have hki:(k':Int)<y.n2:=by omega
     have hks:k'<y.c.sl.length:=by rw[HL2.out];exact hkl
     obtain⟨sb,so,hsb,Iz,tZ⟩:=aN aK (by decide) DL.r2 hks;obtain⟨n0,n1,n2⟩:=fC tZ;have hxp:=(qJ.out.sk _ (gL hks)).zH HK.out.hk;have hxg:y.c.sl[k']? =some y.c.sl[k']:=gJ hks;have aGX:=gO DL;have HXG:=gO hxg;generalize y.c.sl[k']=x at*;rw[hsb];have b9:=aF wr (.cells #[.int .i64 (x.p:Int),.int .i64 (x.n:Int),.int .i64 x.h] 137);have KX:=aW wr #[.int .i64 (x.p:Int),.int .i64 (x.n:Int),.int .i64 x.h] 137;have hs9:wr.heap.size<(wr.alloc (.cells #[.int .i64 (x.p:Int),.int .i64 (x.n:Int),.int .i64 x.h] 137)).heap.size:=by simp
     have HB9:=gO (Below.step HBk.out b9);have KC9:=aB HKk.out hsk b9;have Pj:=gI hsk b9.size;have m0:=KX 0;have m1:=KX 1;have m2:=KX 2;simp only[gB,gC,gD]at m0 m1 m2;obtain⟨c0,c1,c2,c3,c4,c5⟩:=gA6 KC9;rw[hsb]at c4;have HKC9:=gO KC9;have QI:=gO KX;have EM:=gO (fun W=>wS y.c y.a1 y.a2 y.a3 y.n1 y.c1 y.n2 y.c2 y.n3 y.c3 x.p a W qJ.out.z.1 (gQ qJ.out.rz (by decide)) (by omega) (by omega) (by omega));rw[hsb]at EM;have HSB:=gO hsb;clear tZ hsr DL hks hxg KC9 KX hsb;go_upto_region 10 with fail
     clear n0 n1 n2;generalize (wr.alloc _)=w9 at*;generalize wr.heap.size=BX at*;cases hob:fU y.c x.p a with
     | true=>
      rw[hob]at EM;have HOB:=gO hob;obtain⟨l,hfl,WO,Pm⟩:=(qJ.out.sk x (gM HXG.out)).chain;have hlb:∀b∈l,0<=b/\b<=1000000:=fun b hb=>by
       have h9:=iV qJ.out.room (Pm b hb);have h8:y.c.o<=2:=by rw[qJ.out.o];exact kT _
       have h7:2^y.c.o<=4:=by
        generalize y.c.o=o at*;obtain rfl | rfl | rfl:o=0∨o=1∨o=2:=by omega
        all_goals decide
       generalize 2^y.c.o=q at*;omega
      have aBD:=(qJ.out.sk x (gM HXG.out)).Ro;have Wn:=qJ.out.r64;have hxn:x.n<=1000000:=by omega
      have hn1:v.n1<=4096:=by rw[<- HS.out.lw,HK.out.wl];exact Nat.le_refl _
      have hlen:l.length<=1000000:=by omega
      have KW:Hid (∀W,Below w9.heap.size w9 W->Calls Tryz.prog 91 #[.agg #[.slice v.a1 v.n1 v.c1,.slice v.hc.az 2 v.hc.cz,.slice v.hc.am 2 v.hc.cm,.int .i64 s.h.aC,.slice v.hc.al v.hc.lc.length v.hc.cl,.slice v.hc.av s.h.live.length v.hc.cv,.slice (some ⟨bb,off,none⟩) v.ys.length v.c2],.agg #[.slice y.a1 y.n1 y.c1,.int .i64 y.c.z,.int .i64 y.c.r,.int .i64 y.c.o,.slice (some ⟨sb,so,none⟩) y.n2 y.c2,.slice y.a3 y.n3 y.c3],.agg #[.int .i64 x.p,.int .i64 x.n,.int .i64 x.h]] W fun ev w'=>∃(a':Option Addr) (c':Nat),ev= .returned (.tuple #[.slice a' l.length c',.bool true])/\Row w' a' (l.map vI)/\Below W.heap.size W w'):=fun W hW=>by
       have h9:=yJ v.a1 v.hc.az v.hc.am v.hc.al v.hc.av (some ⟨bb,off,none⟩) v.n1 v.c1 v.hc.cz v.hc.cm v.hc.lc.length v.hc.cl s.h.live.length v.hc.cv v.ys.length v.c2 s.h.aC s.w y x l W HS.out.lw hn1 ((HS.out.below (HB9.out.trans (hW.mono HB9.out.size))).rw) qJ.out.z.1 (gQ qJ.out.rz (by decide)) (by omega) hfl WO Pm hlb hxn;rw[HSB.out]at h9;exact h9
      have HFL:=gO hfl;have k0':=(HB9.out.cell (p:=⟨w.heap.size,0,none⟩) hsz)
      have hcells:Hid (∀W,Below w9.heap.size w9 W->∀o,W.cell? ⟨w.heap.size,o,none⟩=(#[.slice v.a1 v.n1 v.c1,.slice v.hc.az 2 v.hc.cz,.slice v.hc.am 2 v.hc.cm,.int .i64 (s.h.aC:Int),.slice v.hc.al v.hc.lc.length v.hc.cl,.slice v.hc.av s.h.live.length v.hc.cv,.slice v.a2 v.ys.length v.c2]:Array Value)[o]?):=fun W hW=>aB HK0.out hsz (HB9.out.trans (hW.mono HB9.out.size))
      have LP:=gO hlen;clear k0' hlb WO Pm aBD Wn hfl hlen hob;go_upto_region 11 with (go_at_call 90;refine(EM.out _).mono ?_;rintro ev w10 ⟨rfl,mD⟩)
      have K10:=hcells.out w10 mD;have KC10:=aB HKC9.out Pj mD;have KX10:=aB QI.out hs9 mD;clear m0 m1 m2 c0 c1 c2 c3 c4 c5;obtain⟨p0,p1,p2,p3,p4,p5,p6⟩:=gA7 K10;obtain⟨c0,c1,c2,c3,c4,c5⟩:=gA6 KC10;have m0:=KX10 0;have m1:=KX10 1;have m2:=KX10 2;simp only[gB,gC,gD]at m0 m1 m2;rw[HA.out]at p6;rw[HSB.out]at c4;have HC11:=gO (KW.out w10 mD);have HB10:=gO (Below.step HB9.out mD);clear K10 KC10 KX10 mD HKC9 QI HB9 EM KW hcells;go_upto_region 12 with (go_at_call 91;refine HC11.out.mono ?_;rintro ev w11 ⟨a',c',rfl,hrow,YL⟩)
      have hcon:=jH a' c' l a w11 (by have:=LP.out;omega) hrow;clear p0 p1 p2 p3 p4 p5 p6 c0 c1 c2 c3 c4 c5 m0 m1 m2 hrow;cases hal:tN l a with
      | false=>
       rw[hal]at hcon;have Dp:=gO hcon;have HE:Hid (Bf s a (.returned (.tuple #[.int .i64 (i':Int),.int .i64 (k':Int),.int .i64 0]))):= .inl ⟨i',k',⟨y.c,x,Eo.out,HXG.out,(lT HFL.out a).2 ⟨HOB.out,fun hm=>by
        unfold tN at hal;rw[List.contains_iff_mem.2 hm]at hal;cases hal⟩⟩,rfl⟩
       clear hcon hal;go_wp2_with (go_at_call 35;refine Dp.out.mono ?_;rintro ev w12 ⟨rfl,rfl⟩)
       exact bodyPost_ret (v:= .tuple #[.int .i64 (i':Int),.int .i64 (k':Int),.int .i64 0]) (by simp[results,Tryz.results43,go_sem]) rfl ⟨HE.out,Below.step HB.out (Below.step HB10.out YL)⟩
      | true=>
       rw[hal]at hcon;have Dp:=gO hcon;have HE:Hid (Bf s a (.returned (.tuple #[.int .i64 0,.int .i64 0,.int .i64 4]))):= .inr ⟨HK.out.WR Eo.out HXG.out HOB.out HFL.out (by
        unfold tN at hal;exact List.contains_iff_mem.1 hal),rfl⟩
       clear hcon hal;go_wp2_with (go_at_call 35;refine Dp.out.mono ?_;rintro ev w12 ⟨rfl,rfl⟩)
       exact bodyPost_ret (v:= .tuple #[.int .i64 0,.int .i64 0,.int .i64 4]) (by simp[results,Tryz.results43,go_sem]) rfl ⟨HE.out,Below.step HB.out (Below.step HB10.out YL)⟩
     | false=>
      rw[hob]at EM;have aGY:Hid (∀k'' x,k''<k'+1->y.c.sl[k'']? =some x->fU y.c x.p a=false):=fun k'' x' h1 h2=>by
       by_cases e:k''<k'
       ·exact HNK.out k'' x' e h2
       ·obtain rfl:k''=k':=by omega
        rw[HXG.out]at h2;obtain rfl:=gP h2;exact hob
      clear hob HNK;go_upto_region 15 with (go_at_call 90;refine(EM.out _).mono ?_;rintro ev w10 ⟨rfl,mD⟩)
      have HB10:=gO (Below.step HB9.out mD);have HK10:=gO (aB HKC9.out Pj mD);have WQ:=gI Pj mD.size;clear m0 m1 m2 c0 c1 c2 c3 c4 c5 mD HKC9 QI HB9 EM;go_wp2
      go_roundw
      case rel=>exact⟨k'+1,by omega,aGY,by go_num,HB10,WQ,(by rw[HSB.out]at HK10;exact HK10)⟩
      case measure=>simp[intOf];omega
    ·obtain rfl:k'=y.n2:=by omega
     have aGZ:Hid (LU s a (i'+1)):=fun i'' c h1 h2 x hx=>by
      by_cases e:i''<i'
      ·exact Yr.out i'' c e h2 x hx
      ·obtain rfl:i''=i':=by omega
       rw[Eo.out]at h2;obtain rfl:=gP h2;obtain⟨k'',hk'',e'⟩:=List.mem_iff_getElem.1 hx;exact HNK.out k'' x (by have:=HL2.out;omega) (by rw[gJ hk'',e'])
     clear hsr DL HNK Yr;go_wp2
     go_roundw
     case rel=>exact⟨i'+1,by omega,aGZ,by go_num,HBk⟩
     case measure=>simp[intOf];omega
  ·obtain rfl:i'=v.ys.length:=by omega
   have HE:Hid (Bf s a (.returned (.tuple #[.int .i64 0,.int .i64 0,.int .i64 4]))):= .inr ⟨LU.none (by rw[<- YK.out];exact Yr.out),rfl⟩;go_wp2_with fail
   exact bodyPost_ret (v:= .tuple #[.int .i64 0,.int .i64 0,.int .i64 4]) (by simp[results,Tryz.results43,go_sem]) rfl ⟨HE.out,Below.step HB.out mG.out⟩
end
end Go.Proofs.YtcmpmobhongkiaaGreatDoor
