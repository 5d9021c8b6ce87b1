/- joined. -/
import Derived.Test.YtcmpmobhongkiaaGreatDoorRK0
import Derived.Test.YtcmpmobhongkiaaGreatDoorRK20
set_option linter.unusedVariables false
set_option linter.unusedSimpArgs false
namespace Go.Proofs.YtcmpmobhongkiaaGreatDoor
section
open Go.RowKit
theorem aAY (n:Nat)(w:World)(hn:n<=256):
 Calls Tryz.prog 127 #[.int .i64 (n:Int)] w fun ev w'=>ev= .returned (.bool false)/\Below w.heap.size w w':=by
 have g1:decide ((n:Int)<0)=false:=decide_eq_false (by omega);have g2:decide ((256:Int)<n)=false:=decide_eq_false (by omega);go_enter Tryz.func127,Tryz.ntmps127
 go_wp2
 go_ret
 exact⟨rfl,Below.refl _ _⟩
theorem fin256 {f e a o:Nat}(h:cZ f e a o)(he:e<=256):a+2^o<=256:=by
 obtain⟨h1,h2,h3,h4⟩:=h;obtain rfl | rfl | rfl | rfl | rfl:o=0∨o=1∨o=2∨o=3∨o=4:=by omega
 all_goals simp at h4 ⊢;omega
theorem Qw {a l r:List Bk}(h:∀p,cnt (a++(l++r)) p<=1){j:Nat}(hj:j<l.length)(p:Nat):cnt ((a++l.take j)++[l[j]]) p<=1:=by
 have h1:l=l.take (j+1)++l.drop (j+1):=(List.take_append_drop _ _).symm;have h2:=h p;rw[h1,bP,bP,bP,List.take_succ_eq_append_getElem hj,bP]at h2;rw[bP,bP];omega
theorem FV (a l:List Bk){j:Nat}(hj:j<l.length):a++l.take (j+1)=(a++l.take j)++[l[j]]:=by
 rw[List.take_succ_eq_append_getElem hj,List.append_assoc]
def KE (h:Hp)(i:Nat):List Bk:=if i=0 then[]else if i=1 then h.z0.l else h.z0.l++h.z1.l
theorem VA (h:Hp){i:Nat}(hi:i<2):KE h (i+1)=KE h i++(h.zone i).l:=by
 unfold KE Hp.zone;obtain rfl | rfl:i=0∨i=1:=by omega
 ·simp
 ·simp
theorem SI (h:Hp){i:Nat}(hi:i<2):∃r,h.all=KE h i++((h.zone i).l++r):=by
 unfold KE Hp.zone Hp.all;obtain rfl | rfl:i=0∨i=1:=by omega
 ·exact⟨_,by simp;rfl⟩
 ·exact⟨_,by simp;rfl⟩
theorem SK {h:Hp}(hone:∀p,cnt h.all p<=1)(p:Nat):cnt (KE h 2++lsB h.ls) p<=1:=by
 have h1:=hone p;unfold Hp.all at h1;unfold KE;simp only[bP,show ¬(2:Nat)=0 by omega,show ¬(2:Nat)=1 by omega,if_false]at h1 ⊢;omega
theorem VB {h:Hp}(hone:∀p,cnt h.all p<=1)(p:Nat):cnt ((KE h 2++lsB h.ls)++(h.live++[])) p<=1:=by
 have h1:=hone p;unfold Hp.all at h1;unfold KE;simp only[bP,show ¬(2:Nat)=0 by omega,show ¬(2:Nat)=1 by omega,if_false,cnt]at h1 ⊢;omega
theorem zeroMarks0:Tryz.zeroCells200=(((List.range 256).map fun _=>Value.bool false)++[Value.bool false]).toArray:=by kernel_rfl
theorem SL:Tryz.zeroCells200=sK (ED []) false:=zeroMarks0
set_option maxHeartbeats 4000000 in
set_option maxRecDepth 100000 in
theorem vX (az am al av:Option Addr)(cz cm cl cv nl nv:Nat)(y0 y1:Zc)(lc:List Lc)(h:Hp)(w:World)(hh:HAt w az am al av nl nv y0 y1 lc h)(hk:dZ h)(hnl:nl<=1000)(OB:nv<=1000):
 Calls Tryz.prog 81 #[.agg #[.slice az 2 cz,.slice am 2 cm,.int .i64 h.aC,.slice al nl cl,.slice av nv cv]] w fun ev w'=>ev= .returned (.int .i64 0)/\Below w.heap.size w w':=by
 obtain⟨K1,F1,hsz,hbw⟩:=boxes1 w #[.slice az 2 cz,.slice am 2 cm,.int .i64 (h.aC:Int),.slice al nl cl,.slice av nv cv] 44;have HH:=gO hh;have HK:=gO hk;have Ij:=hh.nv;have hcp:=hk.cp;have e0:=hh.e0;have e1:=hh.e1;have f0:=gO hk.f0;have f1:=gO hk.e0;have f2:=gO hk.e1;have m0:=hk.m0;have m1:=hk.m1;have hb1:=gO hbw;clear hk;obtain⟨qb,qo,ha1,_,_⟩:=aN iF (by decide) hh.zr (j:=0) (by simp);obtain rfl:=ha1;have HZ:Hid (∀W,Below w.heap.size w W->qb<W.heap.size/\(W.cell? ⟨qb,qo,none⟩=some (.int .i64 h.z0.f)/\W.cell? ⟨qb,qo+1,none⟩=some (.int .i64 h.z0.e)/\W.cell? ⟨qb,qo+2,none⟩=some (.slice y0.a1 y0.n1 y0.c1)/\W.cell? ⟨qb,qo+3,none⟩=some (.slice y0.a2 y0.n2 y0.c2))/\(W.cell? ⟨qb,qo+4,none⟩=some (.int .i64 h.z1.f)/\W.cell? ⟨qb,qo+4+1,none⟩=some (.int .i64 h.z1.e)/\W.cell? ⟨qb,qo+4+2,none⟩=some (.slice y1.a1 y1.n1 y1.c1)/\W.cell? ⟨qb,qo+4+3,none⟩=some (.slice y1.a2 y1.n2 y1.c2))):=fun W hW=>by
  obtain⟨b1,o1,h1,h2,h3⟩:=aN iF (by decide) (hh.below hW).zr (j:=0) (by simp);obtain⟨b2,o2,h4,h5,h6⟩:=aN iF (by decide) (hh.below hW).zr (j:=1) (by simp);obtain⟨rfl,rfl⟩:qb=b1/\qo=o1:=by simpa using h1
  obtain⟨rfl,rfl⟩:qb=b2/\qo=o2:=by simpa using h4
  have h7:=lI h3;have h8:=lI h6;simp only[List.getElem_cons_zero,List.getElem_cons_succ,Nat.zero_mul,Nat.one_mul,Nat.add_zero,e0,e1]at h7 h8;exact⟨h2,h7,h8⟩
 have KB:Hid (∀W,Below (w.heap.size+1) (w.alloc (.cells #[.slice (some ⟨qb,qo,none⟩) 2 cz,.slice am 2 cm,.int .i64 (h.aC:Int),.slice al nl cl,.slice av nv cv] 44)) W->w.heap.size<W.heap.size/\W.cell? ⟨w.heap.size,0,none⟩=some (.slice (some ⟨qb,qo,none⟩) 2 cz)/\W.cell? ⟨w.heap.size,1,none⟩=some (.slice am 2 cm)/\W.cell? ⟨w.heap.size,2,none⟩=some (.int .i64 (h.aC:Int))/\W.cell? ⟨w.heap.size,3,none⟩=some (.slice al nl cl)/\W.cell? ⟨w.heap.size,4,none⟩=some (.slice av nv cv)):=fun W hW=>by
  have hs:(w.alloc (.cells #[.slice (some ⟨qb,qo,none⟩) 2 cz,.slice am 2 cm,.int .i64 (h.aC:Int),.slice al nl cl,.slice av nv cv] 44)).heap.size=w.heap.size+1:=by simp
  have h1:=aB K1 hsz (by rw[hs];exact hW);have h2:=h1 0;have h3:=h1 1;have h4:=h1 2;have h5:=h1 3;have h6:=h1 4;simp only[gB,gC,gD]at h2 h3 h4 h5 h6;exact⟨by have:=hW.size;omega,h2,h3,h4,h5,h6⟩
 have hs1:(w.alloc (.cells #[.slice (some ⟨qb,qo,none⟩) 2 cz,.slice am 2 cm,.int .i64 (h.aC:Int),.slice al nl cl,.slice av nv cv] 44)).heap.size=w.heap.size+1:=by simp
 have c1:decide ((h.aC:Int)<1)=false:=decide_eq_false (by omega);have c2:decide ((4:Int)<h.aC)=false:=decide_eq_false (by omega);clear hh K1 F1 hbw;obtain⟨hwB,kh0,kh1,kh2,kh3,kh4⟩:=KB.out _ (Below.refl _ _);obtain⟨Ud,⟨z00,z01,z02,z03⟩,z10,z11,z12,z13⟩:=HZ.out _ hb1.out;go_enter Tryz.func81,Tryz.ntmps81
 go_wp2_with fail
 generalize w.alloc _=w1 at*;clear hwB kh0 kh1 kh2 kh3 kh4 Ud z00 z01 z02 z03 z10 z11 z12 z13;have hB1:=HH.out.below hb1.out;have ht:=hB1.t0;refine(oP _ _ _ _ _ _ h.z0 _ ht HK.out.o0).mono ?_;rintro ev w2 ⟨rfl,hc2⟩;have hb2:=gO (Below.step hb1.out hc2);have hk2:=gO (AU hc2 (Below.refl (w.heap.size+1) w1) (by omega));clear hc2 hB1 ht;obtain⟨hwB,kh0,kh1,kh2,kh3,kh4⟩:=KB.out _ hk2.out;obtain⟨Ud,⟨z00,z01,z02,z03⟩,z10,z11,z12,z13⟩:=HZ.out _ hb2.out;go_wp2_with fail
 clear hwB kh0 kh1 kh2 kh3 kh4 Ud z00 z01 z02 z03 z10 z11 z12 z13;have hB2:=HH.out.below hb2.out;have ht:=hB2.t1;refine(oP _ _ _ _ _ _ h.z1 _ ht HK.out.o1).mono ?_;rintro ev w3 ⟨rfl,hc3⟩;have hb3:=gO (Below.step hb2.out hc3);have hk3:=gO (AU hc3 hk2.out (by have:=hk2.out.size;omega));clear hc3 hB2 ht;obtain⟨hwB,kh0,kh1,kh2,kh3,kh4⟩:=KB.out _ hk3.out;obtain⟨Ud,⟨z00,z01,z02,z03⟩,z10,z11,z12,z13⟩:=HZ.out _ hb3.out;have eg:∀args w,(callFunc 127 args).run Tryz.prog w= .ok (.enter 127 args) w:=enters_of Tryz.func127 (by kernel_rfl) rfl;have hodd:([h.m0,h.m1].any fun n=>decide (256<n))=false:=by
  simp only[List.any_cons,List.any_nil,decide_eq_false (show ¬256<h.m0 by omega),decide_eq_false (show ¬256<h.m1 by omega),Bool.or_false]
 have Yn:Hid (∀W,Below w3.heap.size w3 W->Calls Tryz.prog 110 #[.slice am 2 cm,.func (.func 127) #[] #[]] W fun e w'=>e= .returned (.bool false)/\Below W.heap.size W w'):=fun W hW=>by
  have hx:=qF am 2 cm [h.m0,h.m1] 127 #[] (fun n=>decide (256<n)) W rfl (by omega) (HH.out.below (Below.step hb3.out hW)).mr eg (fun W' _ x hx=>(aAY x W' (by simp at hx;omega)).mono fun _ _ ⟨h1,h2⟩=>⟨h1.trans (aV (decide_eq_false (by simp at hx;omega)).symm),h2⟩);rw[hodd]at hx;exact hx
 have d1:((h.z0.f:Int) != 0)=false:=by simp[f0.out]
 have d2:((h.z0.e:Int) != (h.z1.f:Int))=false:=by simp[f1.out]
 have d3:((h.z1.e:Int) != 256)=false:=by simp[f2.out]
 go_wp2_with fail
 refine aS (by kernel_rfl) (by kernel_rfl) ?_
 repeat (go_big_quiet_step ((go_at_call 110;exact Calls.bV (Yn.out _ (aQ w3 _)))))
 refine wpQuiet_nil ?_;rintro _ ⟨wx,rfl⟩;have hb4:=gO (Below.step hb3.out (aQ w3 wx));have hk4:=gO (AU (aQ w3 wx) hk3.out (by have:=hk3.out.size;omega));clear hwB kh0 kh1 kh2 kh3 kh4 Ud z00 z01 z02 z03 z10 z11 z12 z13 Yn hodd eg;generalize ext w3 wx=w4 at*;obtain⟨hwB,kh0,kh1,kh2,kh3,kh4⟩:=KB.out _ hk4.out;have HZI:Hid (∀i,i<2->∃(f e:Int) (a1:Option Addr) (n1 c1:Nat) (a2:Option Addr) (n2 c2:Nat),(h.zone i).ok/\(h.zone i).l.length=n1/\∀W,Below w.heap.size w W->Row W a1 (flat aO (h.zone i).l)/\qb<W.heap.size/\W.cell? ⟨qb,qo+i*4,none⟩=some (.int .i64 f)/\W.cell? ⟨qb,qo+i*4+1,none⟩=some (.int .i64 e)/\W.cell? ⟨qb,qo+i*4+2,none⟩=some (.slice a1 n1 c1)/\W.cell? ⟨qb,qo+i*4+3,none⟩=some (.slice a2 n2 c2)):=fun i hi=>by
  obtain rfl | rfl:i=0∨i=1:=by omega
  ·exact⟨h.z0.f,h.z0.e,y0.a1,y0.n1,y0.c1,y0.a2,y0.n2,y0.c2,HK.out.o0,HH.out.t0.l1,fun W hW=>⟨(HH.out.below hW).t0.r1,(HZ.out W hW).1,by simpa using(HZ.out W hW).2.1.1,by simpa using(HZ.out W hW).2.1.2.1,by simpa using(HZ.out W hW).2.1.2.2.1,by simpa using(HZ.out W hW).2.1.2.2.2⟩⟩
  ·exact⟨h.z1.f,h.z1.e,y1.a1,y1.n1,y1.c1,y1.a2,y1.n2,y1.c2,HK.out.o1,HH.out.t1.l1,fun W hW=>⟨(HH.out.below hW).t1.r1,(HZ.out W hW).1,by simpa using(HZ.out W hW).2.2.1,by simpa using(HZ.out W hW).2.2.2.1,by simpa using(HZ.out W hW).2.2.2.2.1,by simpa using(HZ.out W hW).2.2.2.2.2⟩⟩
 clear HZ;go_wp2_with fail
 have hm0:zU (w4.alloc (.cells Tryz.zeroCells200 200)) w4.heap.size (ED (KE h 0)) false:=by
  have h1:=aW w4 Tryz.zeroCells200 200;rw[SL]at*;exact⟨h1,eY _ _ _,by simp⟩
 have hb5:=gO (Below.step hb4.out (aF w4 (.cells Tryz.zeroCells200 200)));have hk5:=gO (AU (aF w4 (.cells Tryz.zeroCells200 200)) hk4.out (by have:=hk4.out.size;omega));have HM0:=gO hm0;have hG5:=hm0.hi;have hGw:w.heap.size+1<=w4.heap.size:=by have:=hk4.out.size;omega
 clear hm0 hb4 hk4 hwB kh0 kh1 kh2 kh3 kh4;generalize w4.alloc _=w5 at*;generalize w4.heap.size=G at*;go_loopw [83] (fun s83 wr=>∃i:Nat,i<=2/\s83= .int .i64 (i:Int)/\Hid (zU wr G (ED (KE h i)) false)/\Hid (Safe (fun k=>k≠G) w5 wr)) (fun s83 _=>2-(intOf s83).toNat)
 case atStart=>exact⟨0,Nat.zero_le _,rfl,HM0,Safe.refl _ _⟩
 case round=>
  obtain⟨i,hi,rfl,HMr,lM⟩:=hrel;have hbr:=gO (lM.out.after hb5.out (B:=w.heap.size) (fun k hk=>by omega) (by have:=hb5.out.size;omega));have hkr:=gO (lM.out.after hk5.out (B:=w.heap.size+1) (fun k hk=>by omega) (by have:=hk5.out.size;omega));have hGr:=HMr.out.hi;obtain⟨hwB,kh0,kh1,kh2,kh3,kh4⟩:=KB.out _ hkr.out;by_cases hlt:i<2
  ·have hlt2:(i:Int)<2:=by omega
   have hcn:∃r,∀p,cnt (KE h i++((h.zone i).l++r)) p<=1:=by
    obtain⟨r,hr⟩:=SI h hlt;exact⟨r,fun p=>by rw[<- hr];exact HK.out.one p⟩
   obtain⟨rest,hcn⟩:=hcn;obtain⟨zf,ze,a1,n1,c1,a2,n2,c2,Ep,hln,hzr⟩:=HZI.out i hlt;obtain⟨_,Ud,z0,z1,z2,z3⟩:=hzr wr hbr.out;have hwr:=hzr;go_wp2_with fail
   have hbz:=aF wr (.cells #[.int .i64 zf,.int .i64 ze,.slice a1 n1 c1,.slice a2 n2 c2] 102);have HM6:=gO (HMr.out.below hbz);have HS6:=gO (lM.out.then hbz);have hb6:=gO (Below.step hbr.out hbz);have hk6:=gO (AU hbz hkr.out (by have:=hkr.out.size;omega));have hG6:G<(wr.alloc (.cells #[.int .i64 zf,.int .i64 ze,.slice a1 n1 c1,.slice a2 n2 c2] 102)).heap.size:=HM6.out.hi;have HCN:=gO hcn;have HNX:=gO (VA h hlt);have aFP:Hid (∀x∈(h.zone i).l,x.o<=4/\x.fin<=256):=fun x hx=>⟨(Ep.2.fit x hx).1.1,fin256 (Ep.2.fit x hx).1 Ep.1.e2⟩
   have aCY:n1<=256:=by
    have:=rQ.length_le Ep.2 (fun b hb=>(Ep.2.fit b hb).1.2.2.1);have:=Ep.1.e2;omega
   clear hbz hwB kh0 kh1 kh2 kh3 kh4 Ud z0 z1 z2 z3 Ep HMr lM hbr hkr hcn;have HZR:=gO hzr;clear hzr hwr;generalize (h.zone i).l=L at*;generalize wr.alloc _=w6 at*;generalize wr.heap.size=Bz at*;go_loopw [90] (fun s90 wq=>∃j:Nat,j<=n1/\s90= .int .i64 (j:Int)/\Hid (zU wq G (ED (KE h i++L.take j)) false)/\Hid (Safe (fun k=>k≠G) w6 wq)) (fun s90 _=>n1-(intOf s90).toNat)
   case atStart=>exact⟨0,Nat.zero_le _,rfl,by simpa[Hid]using HM6.out,Safe.refl _ _⟩
   case round=>
    obtain⟨j,hj,rfl,Qx,Kz⟩:=hrel;have hbq:=gO (Kz.out.after hb6.out (B:=w.heap.size) (fun k hk=>by omega) (by have:=hb6.out.size;omega));have hGq:=Qx.out.hi;by_cases hjl:j<n1
    ·have aAX:(j:Int)<n1:=by omega
     have XE:j<L.length:=by omega
     obtain⟨pb,kZ,hpa,hpb,hpc⟩:=aN aJ (by decide) (HZR.out _ hbq.out).1 XE;obtain⟨hp0,hp1,hp2⟩:=bD hpc;have hft:=aFP.out _ (gL XE);have hcj:=gO (Qw HCN.out XE);have hnj:=gO (FV (KE h i) L XE);clear hpc;generalize L[j]=x at hp0 hp1 hp2 hft hcj hnj;obtain rfl:=hpa;obtain⟨hxo,hxf⟩:=hft;have hsh:=uJ hxo;go_wp2_with fail
     obtain⟨E2,EF2,Ii,sN⟩:=boxes1 wr #[.int .i64 (x.a:Int),.int .i64 (x.o:Int),.int .i64 (x.t:Int)] 63;have e0:=E2 0;have e1:=E2 1;have e2:=E2 2;simp only[gB,gC,gD]at e0 e1 e2;have HM7:=gO (Qx.out.below sN);have HS7:=gO (Kz.out.then sN);clear E2 EF2 sN hp0 hp1 hp2;generalize wr.alloc _=w7 at*
     go_still_tail 6,(by kernel_rfl)
     change wpList _ _ _ _ _ w7.drew;have hm8:=HM7.out.below ((Below.refl w7.heap.size w7).drew);have hs8:=HS7.out.then ((Below.refl w7.heap.size w7).drew);generalize w7.drew=w8 at*;go_wp2_with fail
     refine(Dc G x _ _ hm8 hcj.out hxf _ hsh).mono ?_;rintro ev w9 ⟨rfl,hm9,hs9⟩;rw[<- hnj.out]at hm9;have HM9:=gO hm9;have HS9:=gO (hs8.trans hs9);clear hm8 hs8 hm9 hs9 HM7 HS7;go_wp2
     go_roundw
     case rel=>exact⟨j+1,by omega,by go_num,HM9,HS9⟩
     case measure=>simp[intOf];omega
    ·obtain rfl:j=n1:=by omega
     have hend:Hid (zU wr G (ED (KE h (i+1))) false):=by
      unfold Hid;rw[HNX.out];have h1:=Qx.out;rw[List.take_of_length_le (show L.length<=j by omega)]at h1;exact h1
     have hse:=gO (HS6.out.trans Kz.out);go_wp2_with fail
     go_roundw
     case rel=>exact⟨i+1,by omega,by go_num,hend,hse⟩
     case measure=>simp[intOf];omega
  ·obtain rfl:i=2:=by omega
   have hrow:=hbr;have XF:=gO (fun p=>SK HK.out.one p);have HCV:=gO (fun p=>VB HK.out.one p);go_wp2_with fail
   refine(Vz (some ⟨qb,qo,none⟩) am al av cz cm cl cv nl nv G y0 y1 lc h (KE h 2) w wr HH.out (by omega) hbr.out HK.out hnl HMr.out XF.out).mono ?_;rintro ev w6 ⟨rfl,hm6,hs6⟩;have HM6:=gO hm6;have HS6:=gO (lM.out.trans hs6);have hb6:=gO (HS6.out.after hb5.out (B:=w.heap.size) (fun k hk=>by omega) (by have:=hb5.out.size;omega));have hk6:=gO (HS6.out.after hk5.out (B:=w.heap.size+1) (fun k hk=>by omega) (by have:=hk5.out.size;omega));have hG6:=hm6.hi;clear hm6 hs6 HMr lM hbr hkr hwB kh0 kh1 kh2 kh3 kh4;obtain⟨hwB,kh0,kh1,kh2,kh3,kh4⟩:=KB.out _ hk6.out;generalize hZS:KE h 2++lsB h.ls=ZS at*;clear hZS;go_wp2_with fail
   clear hwB kh0 kh1 kh2 kh3 kh4;go_loopw [110] (fun s110 wq=>∃j:Nat,j<=nv/\s110= .int .i64 (j:Int)/\Hid (zU wq G (ED (ZS++h.live.take j)) false)/\Hid (Safe (fun k=>k≠G) w6 wq)) (fun s110 _=>nv-(intOf s110).toNat)
   case atStart=>exact⟨0,Nat.zero_le _,rfl,by simpa[Hid]using HM6.out,Safe.refl _ _⟩
   case round=>
    obtain⟨j,hj,rfl,Qx,Kz⟩:=hrel;have hbq:=gO (Kz.out.after hb6.out (B:=w.heap.size) (fun k hk=>by omega) (by have:=hb6.out.size;omega));have hkq:=gO (Kz.out.after hk6.out (B:=w.heap.size+1) (fun k hk=>by omega) (by have:=hk6.out.size;omega));have hGq:=Qx.out.hi;obtain⟨hwB,kh0,kh1,kh2,kh3,kh4⟩:=KB.out _ hkq.out;by_cases hjl:j<nv
    ·have aAX:(j:Int)<nv:=by omega
     have XE:j<h.live.length:=by rw[Ij];exact hjl
     have hvr:=(HH.out.below hbq.out).vr;obtain⟨pb,kZ,hpa,hpb,hpc⟩:=aN aJ (by decide) hvr XE;obtain⟨hp0,hp1,hp2⟩:=bD hpc;have hft:=HK.out.lv _ (gL XE);have hcj:=gO (Qw HCV.out XE);have hnj:=gO (FV ZS h.live XE);have hpx:Hid (0<j->∃k:Nat,(j:Int)-1=k/\(k:Int)<nv/\k<nv/\∃y:Bk,y.a<(h.live[j]).a/\wr.cell? ⟨pb,kZ+k*3,none⟩=some (.int .i64 y.a)):=fun h0=>by
      obtain⟨pb',Df,aC7,_,aFR⟩:=aN aJ (by decide) hvr (j:=j-1) (by omega);obtain⟨rfl,rfl⟩:pb=pb'/\kZ=Df:=by rw[hpa]at aC7;simpa using aC7
      exact⟨j-1,by omega,by omega,by omega,h.live[j-1],List.pairwise_iff_getElem.1 HK.out.vs (j-1) j (by omega) XE (by omega),(bD aFR).1⟩
     clear hpc hvr;generalize h.live[j]=x at hp0 hp1 hp2 hft hcj hnj hpx;obtain rfl:=hpa;obtain⟨hxf,hxt⟩:=hft;have hxe:=fin256 hxf (Nat.le_refl _);obtain⟨h1,h2,h3,h4⟩:=hxf;have hsh:=uJ h1;have hpw:=wR h1;have hmod:(x.a:Int)%((2^x.o:Nat):Int)=0:=by rw[<- Int.natCast_emod,h4];rfl
     have d1:decide ((x.o:Int)<0)=false:=decide_eq_false (by omega);have d2:decide ((4:Int)<x.o)=false:=decide_eq_false (by omega);have d3:decide ((x.a:Int)<0)=false:=decide_eq_false (by omega);have d4:decide ((x.t:Int)<0)=false:=decide_eq_false (by omega);have d5:decide ((3:Int)<=x.t)=false:=decide_eq_false (by omega);have hfe:x.fin<=256:=hxe;have hmb:=fun(W:World) (hm:zU W G (ED (ZS++h.live.take j)) false)=>Dc G x _ W hm hcj.out hfe _ hsh
     have HMB:=gO hmb;clear hmb hfe hxe h2 h3 h4;generalize 2^x.o=s at*;go_wp2_with fail
     obtain⟨E2,EF2,Ii,sN⟩:=boxes1 wr #[.int .i64 (x.a:Int),.int .i64 (x.o:Int),.int .i64 (x.t:Int)] 63;have e0:=E2 0;have e1:=E2 1;have e2:=E2 2;simp only[gB,gC,gD]at e0 e1 e2;have q4:=(sN.cell (p:=⟨w.heap.size,4,none⟩) hwB).trans kh4;have Yj:=gI hwB sN.size;have aFS:=gI hpb sN.size;have aFT:Hid (0<j->∃k:Nat,(j:Int)-1=k/\(k:Int)<nv/\k<nv/\∃y:Bk,y.a<x.a/\(wr.alloc (.cells #[.int .i64 (x.a:Int),.int .i64 (x.o:Int),.int .i64 (x.t:Int)] 63)).cell? ⟨pb,kZ+k*3,none⟩=some (.int .i64 y.a)):=fun h0=>by
      obtain⟨k,g1,g2,g3,y,g4,g5⟩:=hpx.out h0;exact⟨k,g1,g2,g3,y,g4,(sN.cell (p:=⟨pb,kZ+k*3,none⟩) hpb).trans g5⟩
     have HM7:=gO (Qx.out.below sN);have HS7:=gO (Kz.out.then sN);have HE2:=gO E2;clear E2 EF2 sN hp0 hp1 hp2 hwB kh0 kh1 kh2 kh3 kh4 hpx hpb Qx Kz hbq hkq;generalize wr.alloc _=w7 at*;by_cases h0:0<j;all_goals first
      |(obtain⟨k,hik,hkn,hkn2,y,hyx,y0'⟩:=aFT.out h0
        have g9:decide ((0:Int)<j)=true:=decide_eq_true (by omega);have gg9:decide (0<j)=true:=decide_eq_true h0;have g10:decide ((x.a:Int)<=y.a)=false:=decide_eq_false (by omega);have g11:decide (x.a<=y.a)=false:=decide_eq_false (by omega);refine aS (by kernel_rfl) (by kernel_rfl) ?_
        repeat (go_big_quiet_step (fail)))
      |(have g9:decide ((0:Int)<j)=false:=decide_eq_false (by omega)
        have gg9:decide (0<j)=false:=decide_eq_false (by omega);refine aS (by kernel_rfl) (by kernel_rfl) ?_
        repeat (go_big_quiet_step (fail)))
     all_goals
      refine wpQuiet_nil ?_;rintro _ ⟨wx,rfl⟩
      try clear g11 g10 hyx
      have hbx:=aQ w7 wx;have E8:=aB HE2.out Ii hbx;have esz8:wr.heap.size<(ext w7 wx).heap.size:=gI Ii hbx.size;have HM8:=gO (HM7.out.below hbx);have HS8:=gO (HS7.out.then hbx);generalize ext w7 wx=w8 at*;clear hbx e0 e1 e2 q4 Yj aFS HE2 HM7 HS7 Ii
      try clear y0'
      have e0:=E8 0;have e1:=E8 1;have e2:=E8 2;simp only[gB,gC,gD]at e0 e1 e2;clear E8;go_wp2_with fail
      go_still_tail 6,(by kernel_rfl)
      change wpList _ _ _ _ _ w8.drew;have HM9:=gO (HM8.out.below ((Below.refl w8.heap.size w8).drew));have HS9:=gO (HS8.out.then ((Below.refl w8.heap.size w8).drew));generalize w8.drew=w9 at*;clear HM8 HS8;go_wp2_with fail
      refine(HMB.out _ HM9.out).mono ?_;rintro ev w10 ⟨rfl,aA0,hs10⟩;rw[<- hnj.out]at aA0;have HM10:=gO aA0;have HS10:=gO (HS9.out.trans hs10);clear aA0 hs10 HM9 HS9;go_wp2
      go_roundw
      case rel=>exact⟨j+1,by omega,by go_num,HM10,HS10⟩
      case measure=>simp[intOf];omega
    ·obtain rfl:j=nv:=by omega
     have b7:=(Qx.out.k 256).trans (yM _ _);have hfin:=gO hbq.out;go_wp2
     go_ret
     exact⟨rfl,hfin.out⟩
end
end Go.Proofs.YtcmpmobhongkiaaGreatDoor
