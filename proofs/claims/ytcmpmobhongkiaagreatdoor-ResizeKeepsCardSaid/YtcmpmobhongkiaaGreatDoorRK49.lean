/- joined. -/
import Derived.Test.YtcmpmobhongkiaaGreatDoorRK0
import Derived.Test.YtcmpmobhongkiaaGreatDoorRK1
import Derived.Test.YtcmpmobhongkiaaGreatDoorRK47
import Derived.Test.YtcmpmobhongkiaaGreatDoorRK48
import Derived.Test.YtcmpmobhongkiaaGreatDoorRK7
import Derived.WalkKit
import Derived.OpenShut
import Derived.ProofKit
set_option linter.unusedVariables false
set_option linter.unusedSimpArgs false
namespace Go.Proofs.YtcmpmobhongkiaaGreatDoor
section
open Go.RowKit
set_option maxHeartbeats 8000000 in
set_option maxRecDepth 100000 in
theorem Ei (w:World)(ho:vT w)(hsz:Bl w):Calls Tryz.prog 18 #[] w fun ev w'=>ev= .returned (.bool true)/\Below w.heap.size w w':=by
 obtain⟨split,least,aC,en1,en2,en3,en4,en5,en6,en7,en8⟩:=Zp 0 0 0;have HSU:Hid (∀W,Calls Tryz.prog 26 #[.int .i64 0,.int .i64 0,.int .i64 0] W fun ev w'=>∃m1 d1 m2 d2,ev= .returned (.agg #[.slice m1 2 d1,.slice m2 2 d2,.int .i64 (split:Int),.int .i64 (least:Int),.int .i64 (aC:Int)])/\DW w' m1 m2 2 2 (BM 0 0 0)/\Below W.heap.size W w'):=fun W=>by
  have h:=Xu 0 0 0 W (by decide) (by decide) (by decide);rw[en1,en2,en3]at h;refine h.mono ?_;rintro ev w' ⟨m1,d1,m2,d2,h1,h2,h3⟩;exact⟨m1,d1,m2,d2,h1,h2,h3⟩
 obtain⟨h0,hh0⟩:∃h0,newH (iC (BM 0 0 0)) split least aC=h0:=⟨_,rfl⟩
 have hk0:dZ h0:=by
  rw[<- hh0];exact(IW (Nr 0 0 0) en4 en5 en6 ⟨en7,en8⟩).1
 have tV:Hid (∀(W:World) (m1 m2:Option Addr) (d1 d2:Nat),DW W m1 m2 2 2 (BM 0 0 0)->Bl W->Calls Tryz.prog 27 #[.agg #[.slice m1 2 d1,.slice m2 2 d2,.int .i64 (split:Int),.int .i64 (least:Int),.int .i64 (aC:Int)]] W (MJ h0 W)):=fun W m1 m2 d1 d2 h1 h2=>by
  rw[<- hh0];exact QS m1 m2 2 2 d1 d2 (BM 0 0 0) split least aC W h1 (Qa 0 0 0).1 (Qa 0 0 0).2 (Nr 0 0 0) en4 en5 en6 ⟨en7,en8⟩ h2
 have hg0:=yX hk0;obtain⟨S1,hS1⟩:∃S1:Sy,{dB h0 6 with h:=(dB h0 6).h.drain}=S1:=⟨_,rfl⟩
 have Xt:Hid (∀(W:World) (m1 m2:Option Addr) (d1 d2:Nat) (b:Nat),DW W m1 m2 2 2 (BM 0 0 0)->vT W->Bl W->Row W (some ⟨b,0,none⟩) (flat GH [⟨12,0,0,0,0,0,[]⟩])->Calls Tryz.prog 21 #[.agg #[.slice m1 2 d1,.slice m2 2 d2,.int .i64 (split:Int),.int .i64 (least:Int),.int .i64 (aC:Int)],.slice (some ⟨b,0,none⟩) 1 1] W fun ev w'=>∃(v':Sc) (d:Option Addr) (cap:Nat),ev= .returned (.tuple #[.slice d 1 cap,.agg #[.slice v'.a1 v'.n1 v'.c1,.slice v'.hc.az 2 v'.hc.cz,.slice v'.hc.am 2 v'.hc.cm,.int .i64 (S1.h.aC:Int),.slice v'.hc.al v'.hc.lc.length v'.hc.cl,.slice v'.hc.av S1.h.live.length v'.hc.cv,.slice v'.a2 v'.ys.length v'.c2],.int .i64 0])/\Below W.heap.size W w'):=fun W m1 m2 d1 d2 b h1 h2 h3 h4=>by
  refine(aBW DnD h0 hk0 _ _ _ _ _ _ 1 1 [⟨12,0,0,0,0,0,[]⟩] [⟨0,0,[]⟩] _ W h2 h3 (fun W' hW=>tV.out W' m1 m2 d1 d2 (h1.below hW) (h3.below hW)) rfl (by decide) h4 Zo (.cons (.drain 0 []) hg0 .nil) (hg0.of hg0.ok.Ai.ok hg0.ok.Ai.sg)).mono ?_;rintro ev w' ⟨v',qs,d,cap,h5,_,_,_,_,h6⟩;rw[hS1]at h5;exact⟨v',d,cap,h5,h6⟩
 have HN0:Hid (∀(W:World) (m1 m2:Option Addr) (d1 d2:Nat),DW W m1 m2 2 2 (BM 0 0 0)->Bl W->Calls Tryz.prog 27 #[.agg #[.slice m1 2 d1,.slice m2 2 d2,.int .i64 (split:Int),.int .i64 (least:Int),.int .i64 (aC:Int)]] W fun ev w'=>∃v':Sc,ev= .returned (.tuple #[.agg #[.slice v'.a1 4096 v'.c1,.slice v'.hc.az 2 v'.hc.cz,.slice v'.hc.am 2 v'.hc.cm,.int .i64 ((dB h0 6).h.aC:Int),.slice v'.hc.al v'.hc.lc.length v'.hc.cl,.slice v'.hc.av (dB h0 6).h.live.length v'.hc.cv,.slice v'.a2 v'.ys.length v'.c2],.int .i64 0])/\Below W.heap.size W w'):=fun W m1 m2 d1 d2 h1 h2=>by
  refine(tV.out W m1 m2 d1 d2 h1 h2).mono ?_;rintro ev w' ⟨v',h3,h4,h5⟩;have h6:v'.n1=4096:=by
   rw[<- h4.at.lw];exact hg0.ok.wl
  unfold Sc.vals at h3;rw[h6]at h3;exact⟨v',h3,h5⟩
 clear hS1;generalize dB h0 6=S0 at*;have HO:=gO ho;have jT:=gO hsz;clear en1 en2 en3 en4 en5 en6 en7 en8 hh0 hk0 tV hg0 ho hsz;go_enter Tryz.func18,Tryz.ntmps18
 go_upto_region 2 with (first | (go_at_call 26;refine(HSU.out _).mono ?_;rintro ev w1 ⟨m1,d1,m2,d2,rfl,hbt,hb1⟩) | (go_at_call 27;refine(HN0.out _ _ _ _ _ hbt (jT.out.below hb1)).mono ?_;rintro ev w2 ⟨v1,rfl,hb2⟩))
 have hb3:=Below.step (Below.step hb1 hb2) (aF w2 (.cells #[.slice v1.a1 4096 v1.c1,.slice v1.hc.az 2 v1.hc.cz,.slice v1.hc.am 2 v1.hc.cm,.int .i64 (S0.h.aC:Int),.slice v1.hc.al v1.hc.lc.length v1.hc.cl,.slice v1.hc.av S0.h.live.length v1.hc.cv,.slice v1.a2 v1.ys.length v1.c2] 47));have k0:=aW w2 #[.slice v1.a1 4096 v1.c1,.slice v1.hc.az 2 v1.hc.cz,.slice v1.hc.am 2 v1.hc.cm,.int .i64 (S0.h.aC:Int),.slice v1.hc.al v1.hc.lc.length v1.hc.cl,.slice v1.hc.av S0.h.live.length v1.hc.cv,.slice v1.a2 v1.ys.length v1.c2] 47 0;simp only[gB,gC]at k0;have hsz3:w2.heap.size<(w2.alloc (.cells #[.slice v1.a1 4096 v1.c1,.slice v1.hc.az 2 v1.hc.cz,.slice v1.hc.am 2 v1.hc.cm,.int .i64 (S0.h.aC:Int),.slice v1.hc.al v1.hc.lc.length v1.hc.cl,.slice v1.hc.av S0.h.live.length v1.hc.cv,.slice v1.a2 v1.ys.length v1.c2] 47)).heap.size:=by simp
 clear hbt hb1 hb2 HN0;generalize w2.alloc _=w3 at*;generalize w2.heap.size=B at*;go_upto_region 3 with (first | (go_at_call 26;refine(HSU.out _).mono ?_;rintro ev w4 ⟨m3,d3,m4,d4,rfl,aED,hb4⟩))
 have zO:=aF w4 (.cells #[.int .i64 12,.int .i64 0,.int .i64 0,.int .i64 0,.int .i64 0,.int .i64 0,.string ⟨#[]⟩] 33);have Zq:=Below.step hb4 zO;have QX:=Below.step hb3 Zq;have hrow:Row (w4.alloc (.cells #[.int .i64 12,.int .i64 0,.int .i64 0,.int .i64 0,.int .i64 0,.int .i64 0,.string ⟨#[]⟩] 33)) (some ⟨w4.heap.size,0,none⟩) (flat GH [⟨12,0,0,0,0,0,[]⟩]):=fun j v hj=>⟨w4.heap.size,0,rfl,by simp,by
  rw[Nat.zero_add,aW];rw[<- hj];simp[flat,GH]⟩
 have HRN:=gO (Xt.out _ m3 m4 d3 d4 _ (aED.below zO) (HO.out.below QX) (jT.out.below QX) hrow);clear Xt HSU aED hrow;refine HRN.out.mono ?_;rintro ev w5 ⟨v',d,cap,rfl,hb5⟩;have k5:=(Below.cell (Below.step Zq hb5) (p:=⟨B,0,none⟩) hsz3).trans k0;have hb6:=aF w5 (.cells #[.slice v'.a1 v'.n1 v'.c1,.slice v'.hc.az 2 v'.hc.cz,.slice v'.hc.am 2 v'.hc.cm,.int .i64 (S1.h.aC:Int),.slice v'.hc.al v'.hc.lc.length v'.hc.cl,.slice v'.hc.av S1.h.live.length v'.hc.cv,.slice v'.a2 v'.ys.length v'.c2] 47);have hB5:B<w5.heap.size:=gI hsz3 (Below.step Zq hb5).size;have k6:=(Below.cell hb6 (p:=⟨B,0,none⟩) hB5).trans k5;have jF:=gO (Below.step (Below.step QX hb5) hb6);clear k0 k5 hb3 hb4 zO Zq QX hb5 hb6 HRN hsz3 hB5;go_wp2_with fail
 all_goals go_ret
 all_goals exact⟨rfl,jF.out⟩
end
section
open Go.RowKit
set_option maxHeartbeats 8000000 in
set_option maxRecDepth 100000 in
theorem Em (n m x:Int)(hn: -9223372036854775808<=n/\n<=9223372036854775807)(hm: -9223372036854775808<=m/\m<=9223372036854775807)(hx: -9223372036854775808<=x/\x<=9223372036854775807)(w:World)(ho:vT w)(hsz:Bl w):
 Calls Tryz.prog 14 #[.int .i64 n,.int .i64 m,.int .i64 x] w fun ev w'=>ev= .returned (.bool true)/\Below w.heap.size w w':=by
 obtain⟨k,hk⟩:∃k:Nat,1+pk n 100=(k:Int):=⟨(1+pk n 100).toNat,by have:=qN n 100 (by omega);omega⟩
 obtain⟨j,hj⟩:∃j:Nat,1+pk m 150=(j:Int):=⟨(1+pk m 150).toNat,by have:=qN m 150 (by omega);omega⟩
 have hk1:1<=k/\k<=100:=by
  have:=qN n 100 (by omega);have:=Uk n 100 (by omega);omega
 have hj1:1<=j/\j<=150:=by
  have:=qN m 150 (by omega);have:=Uk m 150 (by omega);omega
 have HP0:Hid (∀W,Calls Tryz.prog 28 #[.int .i64 n,.int .i64 100] W fun e w'=>e= .returned (.int .i64 ((k:Int)-1))/\W=w'):=fun W=>by
  have h:=wP n 100 W hn.1 hn.2 (by omega) (by omega);rw[show pk n 100=(k:Int)-1 by omega]at h;exact h
 have HP1:Hid (∀W,Calls Tryz.prog 28 #[.int .i64 m,.int .i64 150] W fun e w'=>e= .returned (.int .i64 ((j:Int)-1))/\W=w'):=fun W=>by
  have h:=wP m 150 W hm.1 hm.2 (by omega) (by omega);rw[show pk m 150=(j:Int)-1 by omega]at h;exact h
 obtain⟨s1,a,hal,hg1,hcp1,ha0,hak,aEF⟩:=aB2 hk1 hj1;have Au:=gO hal;have HG1:=gO hg1;have HCP1:=gO hcp1;have aEG:=gO aEF;have HG0:=gO (yX Xw);have HO:=gO ho;have jT:=gO hsz;have e1:(1:Int)+((k:Int)-1)=k:=by omega
 have e2:(1:Int)+((j:Int)-1)=j:=by omega
 have aEH:∀(W:World) (b:Nat),Row W (some ⟨b,0,none⟩) [.int .i64 0,.int .i64 256]->Bl W->Calls Tryz.prog 27 #[.agg #[.slice (some ⟨b,0,none⟩) 1 1,.slice none 0 0,.int .i64 64,.int .i64 0,.int .i64 1]] W (MJ NI W):=fun W b hr hs=>
  QS (some ⟨b,0,none⟩) none 1 0 1 0 bt256 64 0 1 W ⟨rfl,rfl,hr,Row.nil _ _⟩ Ej.1 rfl Ej.2 (by decide) (by decide) (by decide) (by decide) hs
 have tV:Hid (∀(W:World) (b:Nat),Row W (some ⟨b,0,none⟩) [.int .i64 0,.int .i64 256]->Bl W->Calls Tryz.prog 27 #[.agg #[.slice (some ⟨b,0,none⟩) 1 1,.slice none 0 0,.int .i64 64,.int .i64 0,.int .i64 1]] W fun ev w'=>∃v':Sc,ev= .returned (.tuple #[.agg #[.slice v'.a1 v'.n1 v'.c1,.slice v'.hc.az 2 v'.hc.cz,.slice v'.hc.am 2 v'.hc.cm,.int .i64 ((dB NI 6).h.aC:Int),.slice v'.hc.al v'.hc.lc.length v'.hc.cl,.slice v'.hc.av (dB NI 6).h.live.length v'.hc.cv,.slice v'.a2 v'.ys.length v'.c2],.int .i64 0])/\fQ w' W.heap.size (dB NI 6) v'/\Below W.heap.size W w'):=aEH;obtain⟨S0,hS0⟩:∃S0,dB NI 6=S0:=⟨_,rfl⟩
 have aHO:0<S0.h.aC:=by rw[<- hS0];exact(by decide:0<1)
 rw[hS0]at Au HG0 tV;clear hal hg1 hcp1 aEF ho hsz aEH hS0 hk hj;go_enter Tryz.func14,Tryz.ntmps14
 go_upto_region 3 with (go_at_call 18;refine(Ei _ HO.out jT.out).mono ?_;rintro ev w0 ⟨rfl,hb0⟩)
 go_upto_region 4 with fail
 have zO:=aF w0 (.cells #[.int .i64 0,.int .i64 256] 55);have hsA:(w0.alloc (.cells #[.int .i64 0,.int .i64 256] 55)).heap.size=w0.heap.size+1:=by simp
 have hbB:=aF (w0.alloc (.cells #[.int .i64 0,.int .i64 256] 55)) (.cells #[.slice (some ⟨w0.heap.size,0,none⟩) 1 1,.slice none 0 0,.int .i64 64,.int .i64 0,.int .i64 1] 29);have aEI:=Below.step zO hbB;have hrow:Row ((w0.alloc (.cells #[.int .i64 0,.int .i64 256] 55)).alloc (.cells #[.slice (some ⟨w0.heap.size,0,none⟩) 1 1,.slice none 0 0,.int .i64 64,.int .i64 0,.int .i64 1] 29)) (some ⟨w0.heap.size,0,none⟩) [.int .i64 0,.int .i64 256]:=Row.below (w:=w0.alloc (.cells #[.int .i64 0,.int .i64 256] 55)) (fun j v hj=>⟨w0.heap.size,0,rfl,by simp,by
  rw[Nat.zero_add,aW,gB];exact hj⟩) hbB
 have KS:=aW (w0.alloc (.cells #[.int .i64 0,.int .i64 256] 55)) #[.slice (some ⟨w0.heap.size,0,none⟩) 1 1,.slice none 0 0,.int .i64 64,.int .i64 0,.int .i64 1] 29;rw[hsA]at KS;have HB1:=gO (Below.step hb0 aEI);have OL:=gO (tV.out _ _ hrow (jT.out.below HB1.out));obtain⟨q0,q1,q2,q3,q4⟩:=gA5 KS;clear tV KS hrow zO hbB aEI hsA hb0;generalize (w0.alloc _).alloc _=w1 at*;generalize w0.heap.size=B0 at*;go_upto_region 5 with (go_at_call 27;refine OL.out.mono ?_;rintro ev w2 ⟨v1,rfl,hn2,hb2⟩)
 have HS3:=gO (fQ.box hn2);have HB3:=gO (HB1.out.trans ((Below.step hb2 (aF w2 (.cells #[.slice v1.a1 v1.n1 v1.c1,.slice v1.hc.az 2 v1.hc.cz,.slice v1.hc.am 2 v1.hc.cm,.int .i64 (S0.h.aC:Int),.slice v1.hc.al v1.hc.lc.length v1.hc.cl,.slice v1.hc.av S0.h.live.length v1.hc.cv,.slice v1.a2 v1.ys.length v1.c2] 47))).mono HB1.out.size));have hw2:w.heap.size<=w2.heap.size:=gQ HB1.out.size hb2.size;clear q0 q1 q2 q3 q4 OL hn2 hb2 HB1;generalize w2.alloc _=w3 at*;generalize w2.heap.size=B at*;go_upto_region 6 with (go_at_call 28;refine(HP0.out _).mono ?_;rintro ev w' ⟨rfl,rfl⟩)
 go_upto_region 7 with (go_at_call 28;refine(HP1.out _).mono ?_;rintro ev w' ⟨rfl,rfl⟩)
 obtain⟨g0,g1,g2,g3,g4,g5,g6⟩:=gA7 HS3.out.k;have hka:=Ef v1 S0 0 k w3 HS3.out.r.at HG0.out.ok (fun c hc=>gQ (HG0.out.nm c hc) (by decide)) HG0.out.sg aHO (HO.out.below HB3.out) (jT.out.below HB3.out) hk1.1 (by omega);rw[Au.out]at hka;have HKA:=gO (Nl hka);clear hka;have hB3:=HS3.out.r.hr.gs;go_upto_region 8 with (go_at_call 29;refine HKA.out.mono ?_;rintro ev w4 ⟨v2,rfl,hn4,hb4⟩;have K4:=gO (aB HS3.out.k hB3 hb4);have F4:=gO (aH HS3.out.fz hB3 hb4);obtain⟨y0,y1,y2,y3,y4,y5,y6⟩:=gA7 K4.out;obtain⟨f0,f1,f2,f3,f4,f5,f6⟩:=gF7 F4.out;skip)
 have HS5:=gO ((fQ.store hn4 hB3 K4.out F4.out).sub (Y:=fun k=>k<w.heap.size) fun k h=>⟨gI h HB3.out.size,by omega⟩);have HB5:=gO (fK (T:=B) (Below.step HB3.out hb4) hw2 v2 s1);clear y0 y1 y2 y3 y4 y5 y6 f0 f1 f2 f3 f4 f5 f6 K4 F4 hn4 hb4 HKA g0 g1 g2 g3 g4 g5 g6 HS3 HB3 hB3;generalize ((((((w4.setCell _ _).setCell _ _).setCell _ _).setCell _ _).setCell _ _).setCell _ _).setCell _ _=w5 at*;clear w4 w3 Au HG0;have hwl:=HG1.out.ok.wl;obtain⟨A,rfl⟩:∃A:Nat,a=(A:Int):=⟨a.toNat,by omega⟩
 have hxr: -1000<x.tmod 1000/\x.tmod 1000<1000:=by
  have:=Int.tmod_lt_of_pos x (show(0:Int)<1000 by decide);have:=Int.lt_tmod_of_pos x (show(0:Int)<1000 by decide);omega
 go_upto_region 10 with fail
 go_wp2_with fail
 go_loopw [14,57] (fun _ s57 wr=>∃i:Nat,i<=k/\s57= .int .i64 (i:Int)/\Hid (SS wr B (fun k=>k<w.heap.size) {s1 with w:=wv s1.w A (x.tmod 1000) i} v2)/\Hid (Below w.heap.size w wr)) (fun _ s57 _=>k-(intOf s57).toNat)
 case atStart=>exact⟨0,Nat.zero_le _,rfl,HS5,HB5⟩
 case round=>
  obtain⟨i,hi,rfl,Iu,NG⟩:=hrel;clear HS5 HB5;by_cases hlt:i<k
  ·have EC:(i:Int)<k:=by omega
   have hwi:=Jh s1.w A (x.tmod 1000) i;obtain⟨g,hg,hgl,aHP,hgx,hgc,hgf⟩:=SR.wAt Iu.out.r (a:=A+i) (by show A+i<(wv s1.w A (x.tmod 1000) i).length;omega);have YE:=Iu.out.r.at.lw;have ha1:((A+i:Nat):Int)<v2.n1:=by have h9:(wv s1.w A (x.tmod 1000) i).length=v2.n1:=YE;omega
   have g0:=Iu.out.k 0;unfold Sc.vals at g0;simp only[gB,gC]at g0;rw[hg]at g0;have Nz:=gO (Iu.out.setW hg (A+i) (x.tmod 1000+i)).1;have HBS:=gO (Below.setCell NG.out (show w.heap.size<=(⟨g,A+i,none⟩:Addr).block by show w.heap.size<=g;omega) (vI (x.tmod 1000+i)));clear Iu NG YE;go_wp2_with fail
   refine⟨⟨i+1,by omega,by go_num,?_,?_⟩,by simp[intOf];omega⟩
   ·exact Nz
   ·exact HBS
  ·obtain rfl:i=k:=by omega
   obtain⟨hg2,t,b,m2,hkr,hrz⟩:=aEG.out (wv s1.w A (x.tmod 1000) i) (Jh ..) fun q hq=>Xz _ _ _ _ (by omega)
   have hwin:=fun(q:Nat) (hq:q<i)=>aAs s1.w A (x.tmod 1000) (k:=q) i hq (by omega)
   have aEJ:=gO hwin;clear hwin;obtain⟨s2,hs2⟩:∃s2:Sy,{s1 with w:=wv s1.w A (x.tmod 1000) i}=s2:=⟨_,rfl⟩
   obtain⟨ww,hww⟩:∃ww,wv s1.w A (x.tmod 1000) i=ww:=⟨_,rfl⟩
   rw[hs2]at Iu hg2 hkr;rw[hww]at hrz aEJ;have hcp2:0<s2.h.aC:=by rw[<- hs2];show 0<s1.h.aC;rw[HCP1.out];decide
   have hkz:=BA v2 s2 0 j (A:Int) wr Iu.out.r.at hg2.ok (fun c hc=>gQ (hg2.nm c hc) (by decide)) hg2.sg hcp2 (HO.out.below NG.out) (jT.out.below NG.out) hj1.1 (by omega) (by omega);rw[hkr]at hkz;have HKZ:=gO (PZ hkz);have wO:=gO hrz;clear hkz hkr hrz hg2 hs2 hww aEG HG1 HCP1 hwl;obtain⟨g0,g1,g2,g3,g4,g5,g6⟩:=gA7 Iu.out.k;go_upto_region 16 with (go_at_call 45;refine HKZ.out.mono ?_;rintro ev w6 ⟨v3,rfl,hn6,hb6⟩)
   have HS7:=gO (fQ.box hn6);have HB7:=gO (NG.out.trans ((Below.step hb6 (aF w6 (.cells #[.slice v3.a1 v3.n1 v3.c1,.slice v3.hc.az 2 v3.hc.cz,.slice v3.hc.am 2 v3.hc.cm,.int .i64 (t.h.aC:Int),.slice v3.hc.al v3.hc.lc.length v3.hc.cl,.slice v3.hc.av t.h.live.length v3.hc.cv,.slice v3.a2 v3.ys.length v3.c2] 47))).mono NG.out.size));clear g0 g1 g2 g3 g4 g5 g6 HKZ hn6 hb6 Iu NG;generalize w6.alloc _=w7 at*;generalize w6.heap.size=B7 at*;obtain⟨b,rfl⟩:∃c:Nat,b=(c:Int):=⟨b.toNat,by have:=wO.out.b0;omega⟩
   have hb0:=wO.out.b0.2;have htN:∀c∈t.cs,c.ns.length<=1000:=fun c hc=>gQ (wO.out.g.nm c hc) (by decide)
   have HTN:=gO htN;have aHR:0<t.h.aC:=by rw[wO.out.cp];decide
   clear htN;obtain⟨g0,g1,g2,g3,g4,g5,g6⟩:=gA7 HS7.out.k;have hs8:=Aj v3 t (b:Int) w7 HS7.out.r.at wO.out.g.ok HTN.out (jT.out.below HB7.out) (by omega);rw[wO.out.sz]at hs8;have HS8:Hid (Calls Tryz.prog 30 #[.agg #[.slice v3.a1 v3.n1 v3.c1,.slice v3.hc.az 2 v3.hc.cz,.slice v3.hc.am 2 v3.hc.cm,.int .i64 (t.h.aC:Int),.slice v3.hc.al v3.hc.lc.length v3.hc.cl,.slice v3.hc.av t.h.live.length v3.hc.cv,.slice v3.a2 v3.ys.length v3.c2],.int .i64 (b:Int)] w7 fun ev w'=>ev= .returned (.tuple #[.int .i64 (m2:Int),.int .i64 0])/\Below w7.heap.size w7 w'):=hs8;clear hs8;go_upto_region 17 with (go_at_call 30;refine HS8.out.mono ?_;rintro ev w8 ⟨rfl,hb8⟩)
   have HS9:=gO (HS7.out.below hb8);have HB9:=gO (Below.step HB7.out hb8);clear g0 g1 g2 g3 g4 g5 g6 HS8 hb8 HS7 HB7;go_upto_block 2 with fail
   have hM:(if j<i then(j:Int)else(i:Int))=((min i j:Nat):Int):=by split <;> omega
   rw[hM];clear hM;obtain⟨mn,hmn,hm1,hm3⟩:∃mn:Nat,min i j=mn/\mn<=i/\mn<=j:=⟨_,rfl,by omega,by omega⟩
   rw[hmn];clear hmn;go_wp2_with fail
   go_loopw [20,88] (fun _ s88 wz=>∃q:Nat,q<=mn/\s88= .int .i64 (q:Int)/\Hid (SS wz B7 (fun k=>k<wr.heap.size) t v3)/\Hid (Below w.heap.size w wz)) (fun _ s88 _=>mn-(intOf s88).toNat)
   case atStart=>exact⟨0,Nat.zero_le _,rfl,HS9,HB9⟩
   case round=>
    obtain⟨q,hq,rfl,Qr,HBQ⟩:=hrel;clear HS9 HB9;by_cases hlt:q<mn
    ·have EC:(q:Int)<mn:=by omega
     have htw:=wO.out.g.ok.wl;have hwd:=wO.out.wd q (by omega) (by omega);rw[Int.toNat_natCast,Int.toNat_natCast,aEJ.out q (by omega)]at hwd;obtain⟨g,hg,hgl,aHP,hgx,hgc,hgf⟩:=SR.wAt Qr.out.r (a:=b+q) (by omega);have YE:=Qr.out.r.at.lw;have ha1:((b+q:Nat):Int)<v3.n1:=by omega
     have hgd:t.w.getD (b+q) 0=t.w[b+q]:=by rw[List.getD_eq_getElem?_getD,gJ (by omega)];rfl
     rw[<- hgd,hwd]at hgc;have g0:=Qr.out.k 0;unfold Sc.vals at g0;simp only[gB,gC]at g0;rw[hg]at g0;replace hgc:wr.cell? ⟨g,b+q,none⟩=some (.int .i64 (x.tmod 1000+q)):=hgc;clear hgd hwd YE htw;go_wp2_with fail
     go_roundw
     case rel=>exact⟨q+1,by omega,by go_num,Qr,HBQ⟩
     case measure=>simp[intOf];omega
    ·obtain rfl:q=mn:=by omega
     obtain⟨g0,g1,g2,g3,g4,g5,g6⟩:=gA7 Qr.out.k;have hkn:=BA v3 t 0 j ((b:Int)+1) wr Qr.out.r.at wO.out.g.ok HTN.out wO.out.g.sg aHR (HO.out.below HBQ.out) (jT.out.below HBQ.out) hj1.1 (by omega) (by omega);rw[show t.fF 0 ((b:Int)+1) j= .inl 4 by unfold Sy.fF;rw[wO.out.nx]]at hkn;have ND:=gO (Np hkn);clear hkn;go_upto_region 24 with (go_at_call 45;refine ND.out.mono ?_;rintro ev w9 ⟨rfl,hb9⟩)
     have mD:=Below.step hb9 (aF w9 (.cells #[.slice none 0 0,.slice none 0 0,.slice none 0 0,.int .i64 0,.slice none 0 0,.slice none 0 0,.slice none 0 0] 47));have nP:=gO (Qr.out.below mD);have jF:=gO (Below.step HBQ.out mD);clear g0 g1 g2 g3 g4 g5 g6 ND hb9 mD Qr HBQ;generalize w9.alloc _=wx at*;obtain⟨g0,g1,g2,g3,g4,g5,g6⟩:=gA7 nP.out.k;have hsx:=Aj v3 t (A:Int) wx nP.out.r.at wO.out.g.ok HTN.out (jT.out.below jF.out) (by omega);have hmj:(j:Int)<=m2:=by have:=wO.out.mj;omega
     by_cases hba:(b:Int)=A
     ·rw[wO.out.sm hba]at hsx;have Nz:Hid (Calls Tryz.prog 30 #[.agg #[.slice v3.a1 v3.n1 v3.c1,.slice v3.hc.az 2 v3.hc.cz,.slice v3.hc.am 2 v3.hc.cm,.int .i64 (t.h.aC:Int),.slice v3.hc.al v3.hc.lc.length v3.hc.cl,.slice v3.hc.av t.h.live.length v3.hc.cv,.slice v3.a2 v3.ys.length v3.c2],.int .i64 (A:Int)] wx fun ev w'=>ev= .returned (.tuple #[.int .i64 (m2:Int),.int .i64 0])/\Below wx.heap.size wx w'):=hsx;clear hsx;go_upto_region 25 with (go_at_call 30;refine Nz.out.mono ?_;rintro ev wy ⟨rfl,hby⟩)
      go_wp2_with fail
      all_goals go_ret
      all_goals exact⟨rfl,Below.step jF.out hby⟩
     ·have hbe:((b:Int) == (A:Int))=false:=beq_eq_false_iff_ne.2 hba;rw[wO.out.df hba]at hsx;have Nz:Hid (Calls Tryz.prog 30 #[.agg #[.slice v3.a1 v3.n1 v3.c1,.slice v3.hc.az 2 v3.hc.cz,.slice v3.hc.am 2 v3.hc.cm,.int .i64 (t.h.aC:Int),.slice v3.hc.al v3.hc.lc.length v3.hc.cl,.slice v3.hc.av t.h.live.length v3.hc.cv,.slice v3.a2 v3.ys.length v3.c2],.int .i64 (A:Int)] wx fun ev w'=>ev= .returned (.tuple #[.int .i64 0,.int .i64 4])/\Below wx.heap.size wx w'):=hsx;clear hsx;go_upto_region 25 with (go_at_call 30;refine Nz.out.mono ?_;rintro ev wy ⟨rfl,hby⟩)
      go_wp2_with fail
      all_goals go_ret
      all_goals exact⟨rfl,Below.step jF.out hby⟩
theorem Ar (a0:Int)(w0:(Lit.int .i64 a0).wf=true)(a1:Int)(w1:(Lit.int .i64 a1).wf=true)(a2:Int)(w2:(Lit.int .i64 a2).wf=true){w:World}(ho:vT w)(hsz:Bl w):
 Calls Tryz.prog 14 #[.int .i64 a0,.int .i64 a1,.int .i64 a2] w fun ev w'=>ev= .returned (.bool true)/\Below w.heap.size w w':=by
 have h0:=bounds_i64 w0;have h1:=bounds_i64 w1;have h2:=bounds_i64 w2;exact Em a0 a1 a2 (by omega) (by omega) (by omega) w ho hsz
end
end Go.Proofs.YtcmpmobhongkiaaGreatDoor
