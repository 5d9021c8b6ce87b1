/- joined. -/
import Derived.Test.YtcmpmobhongkiaaGreatDoorRK0
import Derived.Test.YtcmpmobhongkiaaGreatDoorRK13
import Derived.Test.YtcmpmobhongkiaaGreatDoorRK21
import Derived.Test.YtcmpmobhongkiaaGreatDoorRK6
set_option linter.unusedVariables false
set_option linter.unusedSimpArgs false
namespace Go.Proofs.YtcmpmobhongkiaaGreatDoor
section
open Go.RowKit
section
variable {W:World}{G:Nat}{X:Nat->Prop}{h:Hp}{c:Hc}
theorem HR.zat (hs:HR W G X h c){i:Nat}(hi:i<2):Hf W (c.zone i).a1 (c.zone i).a2 (c.zone i).n1 (c.zone i).n2 (h.zone i):=by
 unfold Hc.zone Hp.zone;obtain rfl | rfl:i=0∨i=1:=by omega
 ·exact hs.z0
 ·exact hs.z1
theorem HR.zV (hs:HR W G X h c){g:Nat}(hg:c.az=some ⟨g,0,none⟩){i:Nat}(hi:i<2):W.cell? ⟨g,i*4,none⟩=some (.int .i64 (h.zone i).f)/\W.cell? ⟨g,i*4+1,none⟩=some (.int .i64 (h.zone i).e)/\W.cell? ⟨g,i*4+2,none⟩=some (.slice (c.zone i).a1 (c.zone i).n1 (c.zone i).c1)/\W.cell? ⟨g,i*4+3,none⟩=some (.slice (c.zone i).a2 (c.zone i).n2 (c.zone i).c2):=by
 obtain⟨b,off,h1,h2,h3⟩:=aN iF (by decide) (aY hs.zs) (j:=i) (by simpa using hi);obtain⟨rfl,rfl⟩:g=b/\0=off:=by rw[hg]at h1;simpa using h1
 have h4:=lI h3;rw[Nat.zero_add]at h4;have e0:=hs.e0;have e1:=hs.e1;unfold Hp.zone Hc.zone;obtain rfl | rfl:i=0∨i=1:=by omega
 ·simp only[List.getElem_cons_zero,e0]at h4;exact h4
 ·simp only[List.getElem_cons_succ,List.getElem_cons_zero,e1]at h4;exact h4
theorem HR.aC8 (hs:HR W G X h c){g:Nat}(hg:c.az=some ⟨g,0,none⟩){i:Nat}(hi:i<2):W.frozen? ⟨g,i*4,none⟩=false/\W.frozen? ⟨g,i*4+1,none⟩=false/\W.frozen? ⟨g,i*4+2,none⟩=false/\W.frozen? ⟨g,i*4+3,none⟩=false:=by
 obtain⟨g',h1,_,_,_,h2⟩:=hs.CW;obtain rfl:g=g':=by rw[hg]at h1;simpa using h1
 exact⟨h2 _ (by omega),h2 _ (by omega),h2 _ (by omega),h2 _ (by omega)⟩
theorem HS.words (hs:HS W G X h c):W.cell? ⟨G,0,none⟩=some (.slice c.az 2 c.cz)/\W.cell? ⟨G,1,none⟩=some (.slice c.am 2 c.cm)/\W.cell? ⟨G,2,none⟩=some (.int .i64 (h.aC:Int))/\W.cell? ⟨G,3,none⟩=some (.slice c.al c.lc.length c.cl)/\W.cell? ⟨G,4,none⟩=some (.slice c.av h.live.length c.cv):=⟨hs.k 0,hs.k 1,hs.k 2,hs.k 3,hs.k 4⟩
theorem Qy (c:Hc)(i:Nat)(y:Zc):∃y0 y1,c.dN i y={c with y0:=y0,y1:=y1}:=by
 unfold Hc.dN;split
 ·exact⟨y,c.y1,rfl⟩
 ·exact⟨c.y0,y,rfl⟩
end
theorem aA1 (h:Hp)(a:Nat):h.iR a<2:=by unfold Hp.iR;split <;> omega
set_option maxHeartbeats 4000000 in
set_option maxRecDepth 100000 in
theorem Di (G a o:Nat)(X:Nat->Prop)(h:Hp)(c:Hc)(w:World)(hs:HS w G X h c)(hz0:(h.zone (h.iR a)).ok)(ZL:cZ (h.zone (h.iR a)).f (h.zone (h.iR a)).e a o)(aC9:∀x∈(h.zone (h.iR a)).l,apartB a o x):
 Calls Tryz.prog 135 #[.pointer (some ⟨G,0,none⟩),.int .i64 a,.int .i64 o] w fun ev w'=>ev= .returned (.tuple #[])/\(∃y0 y1,HS w' G X (h.iT a o) {c with y0:=y0,y1:=y1})/\Safe X w w':=by
 have hi:=aA1 h a;obtain⟨g,hg,hgs,hgG,hgX,hgf⟩:=hs.r.CW;obtain⟨k0,k1,k2,k3,k4⟩:=hs.words;have Ik:=hs.r.gs;have HS0:=gO hs;have hfit:=gO ZL;have hz:=gO hz0;have hap:=gO aC9;have HG:=gO hg;have HF:=gO hgf;clear hs ZL hz0 aC9 hg hgf;go_enter Tryz.func135,Tryz.ntmps135
 go_wp2_with fail
 refine(Ic _ _ _ _ _ _ _ _ _ _ _ _ _ h a _ HS0.out.r.at).mono ?_;rintro ev w1 ⟨rfl,hb1⟩;have HS1:=gO (HS0.out.below hb1);have Ym:=gO (Safe.iM (X:=X) hb1);have KF:g<w1.heap.size:=gI hgs hb1.size;have aDa:G<w1.heap.size:=gI Ik hb1.size;clear k0 k1 k2 k3 k4;obtain⟨k0,k1,k2,k3,k4⟩:=HS1.out.words;rw[HG.out]at k0;obtain⟨z0,z1,z2,z3⟩:=HS1.out.r.zV HG.out hi;have HAT:=gO (HS1.out.r.zat hi);have hi2:((h.iR a:Nat):Int)<2:=by omega
 clear HS0 hb1;have HBK:Hid (h.iT a o=h.jD (h.iR a) ((h.zone (h.iR a)).back a o)):=rfl;generalize h.iR a=i at*;generalize c.zone i=y at*;generalize h.zone i=z at*;go_wp2_with fail
 have hsd:=HS1.out.below ((Below.refl w1.heap.size w1).drew)
 go_region_with (go_at_call 149;refine(rV _ _ _ _ _ _ z a o _ (HAT.out.below ((Below.refl w1.heap.size w1).drew)) hz.out hfit.out hap.out).mono ?_;rintro ev w3 ⟨a1',a2',n1',c1',c2',rfl,hz3,hb3⟩;have hs3:=hsd.below hb3;have q0:=hs3.words.1;rw[HG.out]at q0;obtain⟨x0,x1,x2,x3⟩:=hs3.r.zV HG.out hi;obtain⟨f0,f1,f2,f3⟩:=hs3.r.aC8 HG.out hi;clear hs3)
 all_goals
  obtain⟨hs4,sf4⟩:=hsd.aCL hb3 hi hz3 HG.out;obtain⟨y0,y1,ey⟩:=Qy c i ⟨z.back a o,a1',a2',n1',y.n2,c1',c2'⟩;rw[ey,<- HBK.out]at hs4;refine bodyPost_end (v:= .tuple #[]) (by simp[results,Tryz.results135,go_sem]) rfl ⟨rfl,⟨y0,y1,hs4⟩,(Ym.out.then ((Below.refl w1.heap.size w1).drew)).trans sf4⟩
theorem Yo (G a o:Nat)(X:Nat->Prop)(h:Hp)(c:Hc)(w:World)(hs:HS w G X h c)(hk:dZ h)(hb:cZ 0 256 a o)(hd:∀p,cnt h.all p+hit ⟨a,o,0⟩ p<=1):
 Calls Tryz.prog 135 #[.pointer (some ⟨G,0,none⟩),.int .i64 a,.int .i64 o] w fun ev w'=>ev= .returned (.tuple #[])/\(∃y0 y1,HS w' G X (h.iT a o) {c with y0:=y0,y1:=y1})/\Safe X w w':=
 Di G a o X h c w hs (hk.zone _) (hk.fits hb) fun x hx=>dG fun p h1 h2=>by
  have g1:=hd p;have g2:=BU h (h.iR a) p;have g3:=iL.2 (show fG (h.zone (h.iR a)).l p from⟨x,hx,h2⟩);have g4:hit ⟨a,o,0⟩ p=1:=jI.2 h1;omega
end
section
open Go.RowKit
theorem vT.safe {w w':World}{X:Nat->Prop}(h:vT w)(hs:Safe X w w')(h0:X 1):vT w':=
 ⟨gI h.sz hs.size,fun i v hv=>(hs.cell (p:=⟨1,i,none⟩) h.sz h0).trans (h.c i v hv)⟩
theorem vT.below {w w':World}(h:vT w)(hb:Below w.heap.size w w'):vT w':=h.mono hb (Nat.le_refl _)
theorem VE (l:List Bk):xA l=szB l:=by
 induction l with
 | nil=>rfl
 | cons b l ih=>rw[xA,szB,ih]
theorem Yq {h:Hp}(hk:dZ h)(i:Nat)(u lo:Bool):h.held i u lo<=1000:=by
 have h0:=hk.m0;have h1:=hk.m1;have h2:=hk.e1;have h3:h.min i<=256:=by unfold Hp.min;split <;> omega
 unfold Hp.held;split <;> split <;> omega
theorem KH {z z':Zn}{order t a:Nat}(h:z.ok)(ho:order<=4)(ht:t<3)(he:z.take order t=some (z',a)):z'.f=z.f/\z'.e=z.e:=by
 by_cases hb:∃b∈z.l,order<=b.o
 ·obtain⟨z1,a1,h1,h2⟩:=Zn.EY h ho ht hb;rw[h1]at he;obtain⟨rfl,rfl⟩:z1=z'/\a1=a:=by simpa using he
  exact⟨h2.f,h2.e⟩
 ·rw[Zn.EZ hb]at he;cases he
set_option maxHeartbeats 4000000 in
set_option maxRecDepth 100000 in
theorem yN (G i order t flags:Nat)(X:Nat->Prop)(h:Hp)(c:Hc)(w:World)(hs:HS w G X h c)(hk:dZ h)(hi:i<2)(hor:order<=4)(ht:t<3)(hf:flags<=15)(ho:vT w):
 Calls Tryz.prog 152 #[.pointer (some ⟨G,0,none⟩),.int .i64 i,.int .i64 order,.int .i64 t,.int .i64 flags] w fun ev w'=>
  (h.lF i order t (h.held i (decide (flags/8%2=1)) (decide (flags%2=1)))=none/\ev= .returned (.tuple #[.int .i64 0,.bool false])/\HS w' G X h c/\Safe X w w')∨
  (∃h' a y0 y1,h.lF i order t (h.held i (decide (flags/8%2=1)) (decide (flags%2=1)))=some (h',a)/\ev= .returned (.tuple #[.int .i64 (a:Nat),.bool true])/\HS w' G X h' {c with y0:=y0,y1:=y1}/\Safe X w w'):=by
 obtain⟨g,hg,hgs,hgG,hgX,hgf⟩:=hs.r.CW;obtain⟨k0,k1,k2,k3,k4⟩:=hs.words;rw[hg]at k0;obtain⟨z0,z1,z2,z3⟩:=hs.r.zV hg hi;have Ik:=hs.r.gs;have HS0:=gO hs;have HZ:=gO (hk.zone i);have HK:=gO hk;have HG:=gO hg;have HAT:=gO (hs.r.zat hi);have HO:=gO ho;have hi2:(i:Int)<2:=by omega
 have hS:szB (h.zone i).l<=256:=UA HZ.out;have hsh:=uJ hor;have hpw:=wR hor;obtain⟨D,hD⟩:∃D,h.held i (decide (flags/8%2=1)) (decide (flags%2=1))=D:=⟨_,rfl⟩
 have hDb:D<=1000:=by rw[<- hD];exact Yq hk _ _ _
 have jE:Hid (h.lF i order t D=if szB (h.zone i).l<D+2^order then none else match (h.zone i).take order t with
  | some (z',a)=>some (h.jD i z',a)
  | none=>none):=rfl
 rw[hD];have HD:=gO hD;clear hs ho hk hg hgf hD;have HZE0:Hid (∃z,h.zone i=z):=⟨_,rfl⟩
 obtain⟨z,hze⟩:=HZE0.out;have HZE:=gO hze;rw[hze]at z0 z1 HAT HZ hS jE;clear hze HZE0;go_enter Tryz.func152,Tryz.ntmps152
 go_wp2_with fail
 refine(VD _ _ _ _ _ _ z _ HAT.out HZ.out).mono ?_;rintro ev w1 ⟨rfl,hb1⟩;rw[VE];have HS1:=gO (HS0.out.below hb1);have Ym:=gO (Safe.iM (X:=X) hb1);have HO1:=gO (HO.out.below hb1);have aDa:G<w1.heap.size:=gI Ik hb1.size;clear k0 k1 k2 k3 k4 z0 z1 z2 z3 HS0 HAT HO hb1 Ik hgs;obtain⟨k0,k1,k2,k3,k4⟩:=HS1.out.words;generalize szB z.l=n at*;have hn1:n<=256:=hS;have hSn:(2^order:Nat)<=16:=hpw.2;obtain⟨s,hs⟩:∃s,2^order=s:=⟨_,rfl⟩
 rw[hs]at hpw hSn jE;have hsh2:wrap64 (2^order)=(s:Int):=by rw[hsh,hs]
 clear hsh hs;have hsub:IntKind.i64.wrap ((n:Int)-s)=(n:Int)-s:=IntWalk.i64_in _ (by omega);have HHD:Hid (∀W,Below w1.heap.size w1 W->Calls Tryz.prog 177 #[.agg #[.slice c.az 2 c.cz,.slice c.am 2 c.cm,.int .i64 h.aC,.slice c.al c.lc.length c.cl,.slice c.av h.live.length c.cv],.int .i64 i,.int .i64 flags] W fun ev w'=>ev= .returned (.int .i64 (D:Nat))/\Below W.heap.size W w'):=fun W hW=>by
  have h1:=Yg _ _ _ _ c.cz c.cm c.cl c.cv _ _ _ _ _ h i flags W (HS1.out.r.at.below hW) HK.out hi hf;rw[HD.out]at h1;exact h1
 by_cases hlt:n<D+s
 ·have d1:decide ((n:Int)-s<D)=true:=decide_eq_true (by omega);go_wp2_with fail
  refine aS (by kernel_rfl) (by kernel_rfl) ?_
  repeat (go_big_quiet_step ((go_at_call 177;exact Calls.bV (HHD.out _ (aQ w1 _)))))
  refine wpQuiet_nil ?_;rintro _ ⟨wx,rfl⟩;have HS2:=gO (HS1.out.below (aQ w1 wx));have HSF2:=gO (Ym.out.then (aQ w1 wx));generalize ext w1 wx=w2 at*;go_wp2
  go_ret2
  exact .inl ⟨by rw[jE.out,if_pos hlt],rfl,HS2.out,HSF2.out⟩
 ·have d1:decide ((n:Int)-s<D)=false:=decide_eq_false (by omega);go_wp2_with fail
  refine aS (by kernel_rfl) (by kernel_rfl) ?_
  repeat (go_big_quiet_step ((go_at_call 177;exact Calls.bV (HHD.out _ (aQ w1 _)))))
  refine wpQuiet_nil ?_;rintro _ ⟨wx,rfl⟩;have HS2:=gO (HS1.out.below (aQ w1 wx));have HSF2:=gO (Ym.out.then (aQ w1 wx));have HO2:=gO (HO1.out.below (aQ w1 wx));have aDb:G<(ext w1 wx).heap.size:=gI aDa (aQ w1 wx).size;clear k0 k1 k2 k3 k4 HHD HS1 Ym HO1;generalize ext w1 wx=w2 at*;obtain⟨k0,k1,k2,k3,k4⟩:=HS2.out.words;rw[HG.out]at k0;obtain⟨z0,z1,z2,z3⟩:=HS2.out.r.zV HG.out hi;have HAT:=HS2.out.r.zat hi;rw[HZE.out]at z0 z1 HAT;go_wp2_with fail
  refine(Yc _ _ _ _ _ _ z order t w2 HAT HZ.out hor ht HO2.out).mono ?_;rintro ev w3 (⟨hno,rfl,hb3⟩ | ⟨z',at_,a1',a2',n1',c1',c2',hso,rfl,hz3,hb3⟩)
  ·have HS3:=gO (HS2.out.below hb3);have HSF3:=gO (HSF2.out.then hb3);have Yr:=gO hno;clear k0 k1 k2 k3 k4 z0 z1 z2 z3 HAT hno;have hnew:=aF w3 (.cells #[.int .i64 0,.int .i64 0,.slice none 0 0,.slice none 0 0] 102);have HS4:=gO (HS3.out.below hnew);have HSF4:=gO (HSF3.out.then hnew);go_wp2
   go_ret2
   exact .inl ⟨by rw[jE.out,if_neg hlt,Yr.out],rfl,HS4.out,HSF4.out⟩
  ·have HSO:=gO hso;obtain⟨K5,F5,hsz5,wE⟩:=boxes1 w3 #[.int .i64 (z.f:Int),.int .i64 (z.e:Int),.slice a1' n1' c1',.slice a2' (c.zone i).n2 c2'] 102;have HB4:=gO (Below.step hb3 wE);have HZ4:=gO (hz3.below wE);have HS4:=gO (HS2.out.below HB4.out);obtain⟨z4f,z4e⟩:z'.f=z.f/\z'.e=z.e:=KH HZ.out hor ht hso;clear k0 k1 k2 k3 k4 z0 z1 z2 z3 HAT hso wE hb3 hz3;obtain⟨k0,k1,k2,k3,k4⟩:=HS4.out.words;rw[HG.out]at k0;have b0:=K5 0;have b1:=K5 1;have b2:=K5 2;have b3:=K5 3;simp only[gB,gC,gD]at b0 b1 b2 b3;clear K5 F5;go_wp2_with fail
   generalize w3.alloc _=w4 at*;generalize w3.heap.size=B4 at*
   go_still_tail 7,(by kernel_rfl)
   change wpList _ _ _ _ _ w4.drew;have HB5:=gO (HB4.out.drew);have HZ5:=gO (HZ4.out.below ((Below.refl w4.heap.size w4).drew));have HS5:=gO (HS4.out.below ((Below.refl w4.heap.size w4).drew));clear k0 k1 k2 k3 k4 b0 b1 b2 b3 HB4 HZ4 HS4;generalize w4.drew=w5 at*;obtain⟨x0,x1,x2,x3⟩:=HS5.out.r.zV HG.out hi;obtain⟨f0,f1,f2,f3⟩:=HS5.out.r.aC8 HG.out hi;obtain⟨hs6,sf6⟩:=HS2.out.aCL HB5.out hi HZ5.out HG.out;obtain⟨y0,y1,ey⟩:=Qy c i ⟨z',a1',a2',n1',(c.zone i).n2,c1',c2'⟩;rw[ey]at hs6;rw[z4f,z4e]at hs6 sf6;have HS6:=gO hs6;have SF6:=gO (HSF2.out.trans sf6);clear hs6 sf6 ey;go_wp2
   go_ret2
   exact .inr ⟨h.jD i z',at_,y0,y1,by rw[jE.out,if_neg hlt,HSO.out],rfl,HS6.out,SF6.out⟩
end
end Go.Proofs.YtcmpmobhongkiaaGreatDoor
