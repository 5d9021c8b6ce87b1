/- joined. -/
import Derived.Test.YtcmpmobhongkiaaGreatDoorRK0
import Derived.Test.YtcmpmobhongkiaaGreatDoorRK26
import Derived.Test.YtcmpmobhongkiaaGreatDoorRK29
import Derived.Test.YtcmpmobhongkiaaGreatDoorRK7
import Derived.StillTailTactics
set_option linter.unusedVariables false
set_option linter.unusedSimpArgs false
namespace Go.Proofs.YtcmpmobhongkiaaGreatDoor
section
open Go.RowKit
theorem QG (k:Nat):dS k<=2:=by unfold dS;split <;> (try split) <;> omega
theorem kU.base {W:World}{B B':Nat}{h:Hp}{c:Hc}(hn:kU W B h c)(hb:B'<=B):kU W B' h c:=
 HR.any hn (Nat.lt_of_le_of_lt hb hn.gs) (fun q hq k e=>by
  have h1:¬k<B:=by
   rcases List.mem_append.1 hq with hq | hq
   ·exact(hn.og q hq k e).2
   ·exact hn.rx q hq k e
  have h2:k≠B:=fun e'=>by
   subst e';rcases List.mem_append.1 hq with hq | hq
   ·exact(hn.og q hq k e).1 rfl
   ·exact hn.rg q hq e
  exact⟨by omega,by omega⟩) (fun k hk=>by have:=hn.gs;omega) (Nat.lt_irrefl _)
theorem kU.far {W:World}{B:Nat}{h:Hp}{c:Hc}(hn:kU W B h c){g:Nat}(hg:g<=B)(i:Nat)(u:Value):kU (W.setCell ⟨g,i,none⟩ u) B h c:=
 HR.kept hn (Y:=fun k=>k≠g) ((Safe.refl _ W).set (by simp) i u) fun q hq k e e'=>by
  subst e';rcases Nat.lt_or_ge k B with h1 | h1
  ·rcases List.mem_append.1 hq with hq | hq
   ·exact(hn.og q hq k e).2 h1
   ·exact hn.rx q hq k e h1
  ·obtain rfl:k=B:=by omega
   rcases List.mem_append.1 hq with hq | hq
   ·exact(hn.og q hq k e).1 rfl
   ·exact hn.rg q hq e
theorem aBq {l:List Sl}{a k:Nat}(hk:k<=l.length)(h1:∀x∈l.take k,x.p<a)(h2:∀h:k<l.length,¬l[k].p<a):Ji l a=k:=by
 unfold Ji;have e:l=l.take k++l.drop k:=(List.take_append_drop k l).symm;rw[e,List.takeWhile_append_of_pos (by
  intro x hx;simpa using h1 x hx)]
 have h3:(l.drop k).takeWhile (fun x=>decide (x.p<a))=[]:=by
  rcases Nat.lt_or_ge k l.length with h | h
  ·rw[List.drop_eq_getElem_cons h,List.takeWhile_cons_of_neg (by simpa using h2 h)]
  ·rw[List.drop_eq_nil_of_le h];rfl
 rw[h3,List.append_nil,List.length_take];omega
def aDx (v:Sc)(s:Sy)(i cpu:Nat)(c:Ca)(G:Nat)(X:Nat->Prop)(w:World)(ev:Ending)(w':World):Prop:=(s.grow i cpu c=none/\ev= .returned (.tuple #[.int .i64 0,.int .i64 6])/\Below w.heap.size w w')∨(∃(s':Sy) (k:Nat) (v':Sc),s.grow i cpu c=some (s',k)/\ev= .returned (.tuple #[.int .i64 k,.int .i64 0])/\SS w' G X s' v'/\Safe X w w'/\v'.a2=v.a2)
set_option maxHeartbeats 8000000 in
set_option maxRecDepth 100000 in
theorem Wi (v:Sc)(s:Sy)(G i cpu:Nat)(X:Nat->Prop)(w:World)(hs:SS w G X s v)(hk:bK s)(hi:i<v.ys.length)(bJ:cpu<s.h.aC)(ho:vT w)(hX0:X 1):
 Calls Tryz.prog 161 #[.pointer (some ⟨G,0,none⟩),.int .i64 i,.int .i64 cpu] w (aDx v s i cpu v.ys[i].c G X w):=by
 obtain⟨gc,ha2,o9,OO,Wj,hcc⟩:=hs.r.XD hi;have hcm:v.ys[i].c∈s.cs:=by rw[<- hs.r.cy];exact List.mem_map_of_mem (gL hi)
 have hck:=hk.ck _ hcm;have hor:v.ys[i].c.o<=4:=by rw[hck.o];exact gQ (QG _) (by decide)
 have hvl:v.ys.length<=20:=by have:=congrArg List.length hs.r.cy;rw[List.length_map]at this;rw[this];exact hk.cl
 have Ij:s.h.live.length<=1000:=gQ hk.hk.iZ (by decide);have VT:v.hc.lc.length<=1000:=by
  have h1:=congrArg List.length hs.r.hr.ll;rw[List.length_map]at h1;rw[h1];exact gQ hk.hk.oW (by decide)
 have hii:(i:Int)<v.ys.length:=by omega
 obtain⟨y,hy⟩:∃y,v.ys[i]=y:=⟨_,rfl⟩
 have HY:=gO hy;rw[hy]at hcc hck hor ⊢;obtain⟨b0,f0⟩:=hcc 0 (by decide);obtain⟨b1,f1⟩:=hcc 1 (by decide);obtain⟨b2,f2⟩:=hcc 2 (by decide);obtain⟨b3,f3⟩:=hcc 3 (by decide);obtain⟨b4,f4⟩:=hcc 4 (by decide);simp only[dX,vI,gC,gD,Nat.add_zero]at b0 b1 b2 b3 b4;have g1:=hs.k 1;have g2:=hs.k 2;have g3:=hs.k 3;have g4:=hs.k 4;have g5:=hs.k 5;have g6:=hs.k 6;unfold Sc.vals at g1 g2 g3 g4 g5 g6;simp only[gB,gC,gD]at g1 g2 g3 g4 g5 g6;rw[ha2]at g6;have hA:=fun(W:World) (hW:Below w.heap.size w W)=>FZ v.hc.az v.hc.am v.hc.al v.hc.av v.hc.cz v.hc.cm v.hc.cl v.hc.cv _ _ _ _ _ s.h cpu y.c.o 0 W (hs.r.hr.at.below hW) hk.hk VT Ij bJ hor (by decide) (by decide) (ho.below hW)
 have HS:=gO hs;have HK:=gO hk;have HCC:=gO hcc;have rP:=gO hck;have Ik:=hs.r.hr.gs;have hGc:G≠gc:=fun e=>OO e.symm
 clear hs hk hcc hy hck hcm;have L1:∀W,Below w.heap.size w W->W.cell? ⟨G,1,none⟩=some (.slice v.hc.az 2 v.hc.cz):=fun W h=>(h.cell (p:=⟨G,1,none⟩) Ik).trans g1
 have L2:∀W,Below w.heap.size w W->W.cell? ⟨G,2,none⟩=some (.slice v.hc.am 2 v.hc.cm):=fun W h=>(h.cell (p:=⟨G,2,none⟩) Ik).trans g2
 have L3:∀W,Below w.heap.size w W->W.cell? ⟨G,3,none⟩=some (.int .i64 (s.h.aC:Int)):=fun W h=>(h.cell (p:=⟨G,3,none⟩) Ik).trans g3
 have L4:∀W,Below w.heap.size w W->W.cell? ⟨G,4,none⟩=some (.slice v.hc.al v.hc.lc.length v.hc.cl):=fun W h=>(h.cell (p:=⟨G,4,none⟩) Ik).trans g4
 have L5:∀W,Below w.heap.size w W->W.cell? ⟨G,5,none⟩=some (.slice v.hc.av s.h.live.length v.hc.cv):=fun W h=>(h.cell (p:=⟨G,5,none⟩) Ik).trans g5
 have L6:∀W,Below w.heap.size w W->W.cell? ⟨gc,i*6+3,none⟩=some (.int .i64 (y.c.o:Int)):=fun W h=>(h.cell (p:=⟨gc,i*6+3,none⟩) o9).trans b3
 clear g1 g2 g3 g4 g5 b3;cases hal:s.h.alloc cpu y.c.o 0 false false with
 | none=>
  have HG:Hid (s.grow i cpu y.c=none):=by
   unfold Hid Sy.grow;rw[hal]
  have HA:Hid (∀W,Below w.heap.size w W->Calls Tryz.prog 61 #[.agg #[.slice v.hc.az 2 v.hc.cz,.slice v.hc.am 2 v.hc.cm,.int .i64 s.h.aC,.slice v.hc.al v.hc.lc.length v.hc.cl,.slice v.hc.av s.h.live.length v.hc.cv],.int .i64 cpu,.int .i64 y.c.o,.int .i64 0] W fun ev w'=>ev= .returned (.tuple #[.agg #[.slice none 0 0,.slice none 0 0,.int .i64 0,.slice none 0 0,.slice none 0 0],.int .i64 0,.int .i64 6])/\Below W.heap.size W w'):=fun W hW=>by
   refine(hA W hW).mono ?_;rintro ev w' ⟨hb,⟨_,h⟩ | ⟨h',a,c',h,_⟩⟩
   ·exact⟨h,hb⟩
   ·rw[show s.h.alloc cpu y.c.o (pO 0) (decide (0/8%2=1)) (decide (0%2=1))=s.h.alloc cpu y.c.o 0 false false from rfl,hal]at h;cases h
  clear hA hal;go_enter Tryz.func161,Tryz.ntmps161
  go_upto_region 2 with fail
  go_region_held3 (fun W=>Below w.heap.size w W) ((repeat (first | with_reducible assumption | with_reducible exact Below.refl _ _ | with_reducible refine Below.setCell ?_ ?_ _ | with_reducible apply Below.drew | with_reducible refine Below.step ?_ (aF _ _) | with_reducible refine Below.step ?_ (by with_reducible assumption) | (simp only;omega))))(first | (go_at_call 61;refine(HA.out _ (by assumption)).mono ?_;rintro ev w1 ⟨rfl,hb1⟩;(try ((have hx:Below ((w.alloc (.cells (#[.slice none 0 0,.slice none 0 0,.int .i64 0,.slice none 0 0,.slice none 0 0]:Array Value) 44)).drew).heap.size ((w.alloc (.cells (#[.slice none 0 0,.slice none 0 0,.int .i64 0,.slice none 0 0,.slice none 0 0]:Array Value) 44)).drew) w1:=by with_reducible exact hb1);have KA:=aB (w1:=((w.alloc (.cells (#[.slice none 0 0,.slice none 0 0,.int .i64 0,.slice none 0 0,.slice none 0 0]:Array Value) 44)).drew)) (fun o=>aW w #[.slice none 0 0,.slice none 0 0,.int .i64 0,.slice none 0 0,.slice none 0 0] 44 o) (show w.heap.size<((w.alloc (.cells (#[.slice none 0 0,.slice none 0 0,.int .i64 0,.slice none 0 0,.slice none 0 0]:Array Value) 44)).drew).heap.size by simp) hx;have FA:=aH (w1:=((w.alloc (.cells (#[.slice none 0 0,.slice none 0 0,.int .i64 0,.slice none 0 0,.slice none 0 0]:Array Value) 44)).drew)) (fun o=>eY w #[.slice none 0 0,.slice none 0 0,.int .i64 0,.slice none 0 0,.slice none 0 0] 44 o) (show w.heap.size<((w.alloc (.cells (#[.slice none 0 0,.slice none 0 0,.int .i64 0,.slice none 0 0,.slice none 0 0]:Array Value) 44)).drew).heap.size by simp) hx))))
  all_goals clear L1 L2 L3 L4 L5 L6 b0 b1 b2 b4
  all_goals (go_wp2_with fail)
  all_goals exact bodyPost_ret (v:= .tuple #[.int .i64 0,.int .i64 6]) (by simp[results,Tryz.results161,go_sem]) rfl (.inl ⟨HG.out,rfl,by assumption⟩)
 | some r=>
  obtain⟨h',a⟩:=r;have hfit:=(HK.out.hk.alloc bJ hor (by decide) hal).2.2.2.2;have HA:Hid (∀W,Below w.heap.size w W->Calls Tryz.prog 61 #[.agg #[.slice v.hc.az 2 v.hc.cz,.slice v.hc.am 2 v.hc.cm,.int .i64 s.h.aC,.slice v.hc.al v.hc.lc.length v.hc.cl,.slice v.hc.av s.h.live.length v.hc.cv],.int .i64 cpu,.int .i64 y.c.o,.int .i64 0] W fun ev w'=>∃c':Hc,ev= .returned (.tuple #[.agg #[.slice c'.az 2 c'.cz,.slice c'.am 2 c'.cm,.int .i64 (h'.aC:Int),.slice c'.al c'.lc.length c'.cl,.slice c'.av h'.live.length c'.cv],.int .i64 a,.int .i64 0])/\kU w' W.heap.size h' c'/\Below W.heap.size W w'):=fun W hW=>by
   refine(hA W hW).mono ?_;rintro ev w' ⟨hb,⟨h,_⟩ | ⟨h2,a2,c',h,h3,h4⟩⟩
   ·rw[show s.h.alloc cpu y.c.o (pO 0) (decide (0/8%2=1)) (decide (0%2=1))=s.h.alloc cpu y.c.o 0 false false from rfl,hal]at h;cases h
   ·rw[show s.h.alloc cpu y.c.o (pO 0) (decide (0/8%2=1)) (decide (0%2=1))=s.h.alloc cpu y.c.o 0 false false from rfl,hal]at h;obtain⟨rfl,rfl⟩:h'=h2/\a=a2:=by simpa using h
    exact⟨c',h3,h4,hb⟩
  have Au:=gO hal;clear hA hal;go_enter Tryz.func161,Tryz.ntmps161
  go_upto_region 2 with fail
  go_cut [9,10,11] (fun s9 s10 s11 wx=>∃(b9:Nat) (c':Hc),s9= .pointer (some ⟨b9,0,none⟩)/\s10= .int .i64 (a:Int)/\s11= .int .i64 0/\Hid (kU wx w.heap.size h' c')/\Hid (∀o,wx.cell? ⟨b9,o,none⟩=(#[.slice c'.az 2 c'.cz,.slice c'.am 2 c'.cm,.int .i64 (h'.aC:Int),.slice c'.al c'.lc.length c'.cl,.slice c'.av h'.live.length c'.cv]:Array Value)[o]?)/\b9<wx.heap.size/\w.heap.size<=b9/\Hid (Below w.heap.size w wx))
  case first=>
   go_region_held3 (fun W=>Below w.heap.size w W) ((repeat (first | with_reducible assumption | with_reducible exact Below.refl _ _ | with_reducible refine Below.setCell ?_ ?_ _ | with_reducible apply Below.drew | with_reducible refine Below.step ?_ (aF _ _) | with_reducible refine Below.step ?_ (by with_reducible assumption) | (simp only;omega))))(first | (go_at_call 61;refine(HA.out _ (by assumption)).mono ?_;rintro ev w1 ⟨c',rfl,hn1,hb1⟩;(try ((have hx:Below ((w.alloc (.cells (#[.slice none 0 0,.slice none 0 0,.int .i64 0,.slice none 0 0,.slice none 0 0]:Array Value) 44)).drew).heap.size ((w.alloc (.cells (#[.slice none 0 0,.slice none 0 0,.int .i64 0,.slice none 0 0,.slice none 0 0]:Array Value) 44)).drew) w1:=by with_reducible exact hb1);have KA:=aB (w1:=((w.alloc (.cells (#[.slice none 0 0,.slice none 0 0,.int .i64 0,.slice none 0 0,.slice none 0 0]:Array Value) 44)).drew)) (fun o=>aW w #[.slice none 0 0,.slice none 0 0,.int .i64 0,.slice none 0 0,.slice none 0 0] 44 o) (show w.heap.size<((w.alloc (.cells (#[.slice none 0 0,.slice none 0 0,.int .i64 0,.slice none 0 0,.slice none 0 0]:Array Value) 44)).drew).heap.size by simp) hx;have FA:=aH (w1:=((w.alloc (.cells (#[.slice none 0 0,.slice none 0 0,.int .i64 0,.slice none 0 0,.slice none 0 0]:Array Value) 44)).drew)) (fun o=>eY w #[.slice none 0 0,.slice none 0 0,.int .i64 0,.slice none 0 0,.slice none 0 0] 44 o) (show w.heap.size<((w.alloc (.cells (#[.slice none 0 0,.slice none 0 0,.int .i64 0,.slice none 0 0,.slice none 0 0]:Array Value) 44)).drew).heap.size by simp) hx))))
   ·go_wp2_with fail
    go_meet
    have hn2:kU _ w.heap.size h' c':=HR.below hn1 (aF w1 (.cells #[.slice c'.az 2 c'.cz,.slice c'.am 2 c'.cm,.int .i64 (h'.aC:Int),.slice c'.al c'.lc.length c'.cl,.slice c'.av h'.live.length c'.cv] 44));exact⟨w1.heap.size,c',rfl,rfl,rfl,hn2,aW _ _ _,by simp,hb1.size,by assumption⟩
   ·go_wp2_with fail
    go_meet
    have hs1:=hb1.size;simp at hs1;have hn2:kU w1 w.heap.size h' c':=hn1.base (by simp);have hn3:=(kU.far (kU.far (kU.far (kU.far (kU.far hn2 (Nat.le_refl _) 0 (.slice c'.az 2 c'.cz)) (Nat.le_refl _) 1 (.slice c'.am 2 c'.cm)) (Nat.le_refl _) 2 (.int .i64 (h'.aC:Int))) (Nat.le_refl _) 3 (.slice c'.al c'.lc.length c'.cl)) (Nat.le_refl _) 4 (.slice c'.av h'.live.length c'.cv))
    have KX:=(aI (aI (aI (aI (aI KA 0 (.slice c'.az 2 c'.cz)) 1 (.slice c'.am 2 c'.cm)) 2 (.int .i64 (h'.aC:Int))) 3 (.slice c'.al c'.lc.length c'.cl)) 4 (.slice c'.av h'.live.length c'.cv))
    simp only[gE,gG,gH]at KX;exact⟨w.heap.size,c',rfl,rfl,rfl,hn3,KX,by simp;omega,Nat.le_refl _,by assumption⟩
  case rest=>
   obtain⟨b9,c',rfl,rfl,rfl,HN,HK9,hb9,aGn,HB9⟩:=hcut;clear HA L1 L2 L3 L4 L5 L6 b0 b1 b2 b4 f0 f1 f2 f3 f4 g6;have g0:=HS.out.k 0;unfold Sc.vals at g0;simp only[gB,gC,gD]at g0;have b1:=(HCC.out 1 (by decide)).1;have b2:=(HCC.out 2 (by decide)).1;simp only[dX,vI,gC,gD]at b1 b2;have g0':=(HB9.out.cell (p:=⟨G,0,none⟩) Ik).trans g0;have b1':=(HB9.out.cell (p:=⟨gc,i*6+1,none⟩) o9).trans b1;have b2':=(HB9.out.cell (p:=⟨gc,i*6+2,none⟩) o9).trans b2;clear g0 b1 b2;go_upto_region 5 with fail
   have LA:∀W,Below wc.heap.size wc W->W.cell? ⟨G,0,none⟩=some (.slice v.a1 v.n1 v.c1):=fun W h=>(h.cell (p:=⟨G,0,none⟩) (gI Ik HB9.out.size)).trans g0'
   have LB:∀W,Below wc.heap.size wc W->W.cell? ⟨gc,i*6+1,none⟩=some (.int .i64 (y.c.z:Int)):=fun W h=>(h.cell (p:=⟨gc,i*6+1,none⟩) (gI o9 HB9.out.size)).trans b1'
   have LC:∀W,Below wc.heap.size wc W->W.cell? ⟨gc,i*6+2,none⟩=some (.int .i64 (y.c.r:Int)):=fun W h=>(h.cell (p:=⟨gc,i*6+2,none⟩) (gI o9 HB9.out.size)).trans b2'
   have haa:a<256:=hfit.2.2.1;have aDy:a+2^y.c.o<=256:=by
    have h2:y.c.o<=2:=by rw[rP.out.o];exact QG _
    obtain⟨_,_,h3,h4⟩:=hfit;generalize y.c.o=o at*;obtain rfl | rfl | rfl:o=0∨o=1∨o=2:=by omega
    ·omega
    ·omega
    ·omega
   have hsr:=HS.out.r.at.rw.below HB9.out;have hwl:=HK.out.wl;have YE:=HS.out.r.at.lw;have hin:16*a+y.c.z*y.c.r<=s.w.length:=by
    have h1:y.c.r*y.c.z<=16*2^y.c.o:=by
     rw[rP.out.r,rP.out.o];exact Nat.div_mul_le_self _ _
    rw[Nat.mul_comm y.c.z,hwl];generalize y.c.r*y.c.z=m at*;generalize 2^y.c.o=q at*;omega
   have hr1:1<=y.c.r:=by
    rw[rP.out.r];unfold fB;rw[Nat.le_div_iff_mul_le (by have:=rP.out.z.1;omega)];have:=rP.out.z.2;unfold dS;split
    ·rename_i h;rw[Nat.le_div_iff_mul_le (by have:=rP.out.z.1;omega)]at h;omega
    ·split
     ·rename_i h;rw[Nat.le_div_iff_mul_le (by have:=rP.out.z.1;omega)]at h;omega
     ·omega
   have Wn:=rP.out.r64;have KW:Hid (∀W,Below wc.heap.size wc W->Calls Tryz.prog 181 #[.slice v.a1 v.n1 v.c1,.int .i64 ((a:Int)*16),.int .i64 y.c.z,.int .i64 y.c.r] W fun e w'=>∃a' c',e= .returned (.tuple #[.slice a' v.n1 c',.int .i64 0])/\w'.ownsRow W.heap.size 3 1 (.slice a' v.n1 c') v.n1 ((chainTo s.w (16*a) y.c.z y.c.r y.c.r).map vI)/\Below W.heap.size W w'):=fun W hW=>by
    have h:=Ut v.a1 v.c1 s.w (16*a) y.c.z y.c.r W (by omega) (hsr.below hW) rP.out.z.1 rP.out.z.2 hr1 (by omega) hin;rw[YE,show((16*a:Nat):Int)=(a:Int)*16 by omega]at h;exact h
   have hwr:IntKind.i64.wrap ((a:Int)*16)=(a:Int)*16:=IntWalk.i64_in _ (by omega);clear g0' b1' b2' hsr hin hr1 hwl YE;go_region_held3 (fun W=>Below wc.heap.size wc W) ((repeat (first | with_reducible assumption | with_reducible exact Below.refl _ _ | with_reducible refine Below.setCell ?_ ?_ _ | with_reducible apply Below.drew | with_reducible refine Below.step ?_ (aF _ _) | with_reducible refine Below.step ?_ (by with_reducible assumption) | (simp only;omega))))(first | (go_at_call 181;refine(KW.out _ (by assumption)).mono ?_;rintro ev w2 ⟨a',cc',rfl,ho2,hb2⟩))
   have hb2':Below wc.heap.size wc w2:=Below.step ((Below.refl wc.heap.size wc).drew) hb2;have HSW:=HS.out.aCW HB9.out HN.out hb2' ho2;have HS1:=gO HSW.1;have HF1:=gO HSW.2;have KG:=aB HS.out.k Ik (Below.step HB9.out hb2');have FG:=aH HS.out.fz Ik (Below.step HB9.out hb2');have K9:=aB HK9.out hb9 hb2';have q0:=K9 0;have q1:=K9 1;have q2:=K9 2;have q3:=K9 3;have q4:=K9 4;have z0:=KG 0;have z1:=KG 1;have z2:=KG 2;have z3:=KG 3;have z4:=KG 4;have z5:=KG 5;have p0:=FG 0;have p1:=FG 1;have p2:=FG 2;have p3:=FG 3;have p4:=FG 4;have p5:=FG 5;unfold Sc.vals at z0 z1 z2 z3 z4 z5;simp only[gB,gC,gD]at q0 q1 q2 q3 q4 z0 z1 z2 z3 z4 z5;clear LA LB LC KW hwr KG FG K9 HSW ho2 hb2 Wn hfit HN HK9 HB9 hb9 aGn;go_upto_region 9 with fail
   clear p0 p1 p2 p3 p4 p5 q0 q1 q2 q3 q4 z0 z1 z2 z3 z4 z5;generalize (((((w2.setCell _ _).setCell _ _).setCell _ _).setCell _ _).setCell _ _).setCell _ _=wx at*;have hi1:i<({v with a1:=a',n1:=v.n1,c1:=cc',hc:=c'}:Sc).ys.length:=hi;obtain⟨gc1,Iy,Gf,aDz,aDA,Wp⟩:=HS1.out.r.XD hi1;obtain rfl:gc=gc1:=by rw[ha2]at Iy;simpa using Iy
   have qH:∀j,j<6->wx.cell? ⟨gc,i*6+j,none⟩=(dX y)[j]? /\wx.frozen? ⟨gc,i*6+j,none⟩=false:=fun j hj=>by
    have h:=Wp j hj;have e:({v with a1:=a',n1:=v.n1,c1:=cc',hc:=c'}:Sc).ys[i]=y:=HY.out;rw[e]at h;exact h
   have hym:y∈({v with a1:=a',n1:=v.n1,c1:=cc',hc:=c'}:Sc).ys:=by rw[<- HY.out];exact gL hi
   have hcy:=HS1.out.r.at.ca y hym;have hsl:=rP.out.mP HK.out.hk;have hl2:=hcy.l2;have hn2:y.n2<=256:=by omega
   have HR2:=gO hcy.r2;have x4:=(qH 4 (by decide)).1;simp only[dX,vI,gC,gD]at x4;have HC2:=gO qH;have aGp:=HS1.out.r.ZK hi1 HY.out Iy;clear aDy;have hwr:IntKind.i64.wrap ((a:Int)*16)=(a:Int)*16:=IntWalk.i64_in _ (by omega);have HSL:Hid ((mX y).on wx 0):=(HS1.out.r.y hym).2.1;have x2:=(HC2.out 2 (by decide)).1;have y4:=(HC2.out 4 (by decide)).2;simp only[dX,vI,gC,gD]at x2;clear Wp qH hcy hsl;go_wp2_with fail
   go_loopw [13] (fun s13 wr=>wr=wx/\∃k:Nat,k<=y.n2/\s13= .int .i64 (k:Int)/\Hid (∀x∈y.c.sl.take k,x.p<a)) (fun s13 _=>y.n2-(intOf s13).toNat)
   case atStart=>exact⟨rfl,0,Nat.zero_le _,rfl,fun x hx=>by simp at hx⟩
   case round=>
    obtain⟨rfl,k,hkn,rfl,hlow⟩:=hrel;obtain⟨b,hb⟩:∃b:Bool,b=decide (∃h:k<y.c.sl.length,y.c.sl[k].p<a):=⟨_,rfl⟩
    have Tq:=gO hb;clear hb;go_upto_region 10 with fail
    go_cut [13,84] (fun s13 s84 wz=>wz=wr/\s13= .int .i64 (k:Int)/\s84= .bool b)
    case first=>
     by_cases hlt:k<y.n2
     ·have hki:(k:Int)<y.n2:=by omega
      have hks:k<y.c.sl.length:=by omega
      obtain⟨sb,so,hsb,Iz,tZ⟩:=aN aK (by decide) HR2.out hks;obtain⟨e0,e1,e2⟩:=fC tZ;have hxp:=(rP.out.sk _ (gL hks)).zH HK.out.hk;rw[hsb]at x4;by_cases hp:y.c.sl[k].p<a
      ·have hpi:(y.c.sl[k].p:Int)<a:=by omega
       have ZV:Hid (b=true):=by unfold Hid;rw[Tq.out];exact decide_eq_true ⟨hks,hp⟩
       generalize y.c.sl[k]=x at*;clear tZ;go_wp2_with fail
       go_meet
       exact⟨by first | rfl | trivial,by first | rfl | trivial,by rw[ZV.out]⟩
      ·have hpi:¬(y.c.sl[k].p:Int)<a:=by omega
       have ZV:Hid (b=false):=by unfold Hid;rw[Tq.out];exact decide_eq_false (fun⟨_,h⟩=>hp h)
       generalize y.c.sl[k]=x at*;clear tZ;go_wp2_with fail
       go_meet
       exact⟨by first | rfl | trivial,by first | rfl | trivial,by rw[ZV.out]⟩
     ·obtain rfl:k=y.n2:=by omega
      have ZV:Hid (b=false):=by unfold Hid;rw[Tq.out];exact decide_eq_false (fun⟨h,_⟩=>by omega)
      go_wp2_with fail
      go_meet
      exact⟨by first | rfl | trivial,by first | rfl | trivial,by rw[ZV.out]⟩
    case rest=>
     obtain⟨hwz,rfl,rfl⟩:=hcut;obtain rfl:wr=wc:=hwz.symm;cases b with
     | true=>
      obtain⟨hks,hp⟩:=of_decide_eq_true Tq.out.symm;have HL:Hid (∀x∈y.c.sl.take (k+1),x.p<a):=fun x hx=>by
       rw[List.take_succ_eq_append_getElem hks,List.mem_append,List.mem_singleton]at hx;rcases hx with hx | rfl
       ·exact hlow.out x hx
       ·exact hp
      clear hp;go_wp2
      go_roundw
      case rel=>exact⟨by first | rfl | trivial,k+1,by omega,by go_num,HL⟩
      case measure=>simp[intOf];omega
     | false=>
      have hnp:=of_decide_eq_false Tq.out.symm;have hlb:Ji y.c.sl a=k:=aBq (by omega) hlow.out (fun h hp=>hnp ⟨h,hp⟩);clear hnp;go_upto_region 12 with fail
      go_cut [13] (fun s13 wz=>∃v',s13= .int .i64 (k:Int)/\Hid (SS wz G X {w:=chainTo s.w (16*a) y.c.z y.c.r y.c.r,h:=h',cs:=s.cs.set i {y.c with sl:=kP y.c.sl ⟨a,y.c.r,((16*a:Nat):Int)⟩}} v')/\Hid (Safe X w wz)/\Hid (v'.a2=v.a2))
      case first=>
       have hput:kP y.c.sl ⟨a,y.c.r,((16*a:Nat):Int)⟩=y.c.sl.take k++⟨a,y.c.r,(a:Int)*16⟩::y.c.sl.drop k:=by
        unfold kP;simp only;rw[hlb,show((16*a:Nat):Int)=(a:Int)*16 by omega]
       have hB4:=((Below.refl wr.heap.size wr).alloc (Nat.le_refl _) (.cells #[.int .i64 (a:Int),.int .i64 (y.c.r:Int),.int .i64 ((a:Int)*16)] 137)).drew;have HS4:=gO (HS1.out.below hB4);have HSL4:Hid ((mX y).on (wr.alloc (.cells #[.int .i64 (a:Int),.int .i64 (y.c.r:Int),.int .i64 ((a:Int)*16)] 137)).drew 0):=own_below HSL.out hB4 (Nat.le_refl _);have XG:Hid ((wr.alloc (.cells #[.int .i64 (a:Int),.int .i64 (y.c.r:Int),.int .i64 ((a:Int)*16)] 137)).drew.heap[wr.heap.size]? =some (.cells (aX ⟨a,y.c.r,(a:Int)*16⟩).toArray 137 (0,0))):=heap_alloc_new wr _;have XH:Hid (some wr.heap.size≠Value.ownBlock (.slice y.a2 y.n2 y.c2)):=fun e=>(own_ne HSL.out (.inr (Nat.le_refl _))) e.symm
       have Eu:gc<(wr.alloc (.cells #[.int .i64 (a:Int),.int .i64 (y.c.r:Int),.int .i64 ((a:Int)*16)] 137)).drew.heap.size:=gI Gf hB4.size;have hx4:(wr.alloc (.cells #[.int .i64 (a:Int),.int .i64 (y.c.r:Int),.int .i64 ((a:Int)*16)] 137)).drew.cell? ⟨gc,i*6+4,none⟩=some (.slice y.a2 y.n2 y.c2):=by
        rw[hB4.cell (p:=⟨gc,i*6+4,none⟩) Gf];exact x4
       have hy4:(wr.alloc (.cells #[.int .i64 (a:Int),.int .i64 (y.c.r:Int),.int .i64 ((a:Int)*16)] 137)).drew.frozen? ⟨gc,i*6+4,none⟩=false:=by
        rw[hB4.frozen (p:=⟨gc,i*6+4,none⟩) Gf];exact y4
       have HX4:=gO hx4;have HY4:=gO hy4;have Wq:Hid (some gc≠(Value.slice y.a2 y.n2 y.c2).ownBlock):=fun e=>aGp e.symm
       have HB4:=gO hB4;clear hB4 hx4 hy4;have aGq:=gO hput;have HLB:=gO hlb;have HHI:=gO hi1;clear hlb hput hi1
       go_region_with (go_at_call 182;refine(Sv 0 y.a2 y.n2 y.c2 wr.heap.size k y.c.sl ⟨a,y.c.r,(a:Int)*16⟩ _ HSL4.out hkn (by omega) (Nat.zero_le _) XG.out XH.out).mono ?_;rintro ev w5 ⟨an,cn,rfl,hown5,hg5,hl5⟩;have q4:=(World.cell?_of_block (w:=(wr.alloc (.cells #[.int .i64 (a:Int),.int .i64 (y.c.r:Int),.int .i64 ((a:Int)*16)] 137)).drew) (a:=⟨gc,i*6+4,none⟩) (hg5.block gc Eu Wq.out)).trans HX4.out;have p4:=(World.frozen?_of_block (w:=(wr.alloc (.cells #[.int .i64 (a:Int),.int .i64 (y.c.r:Int),.int .i64 ((a:Int)*16)] 137)).drew) (a:=⟨gc,i*6+4,none⟩) (hg5.block gc Eu Wq.out)).trans HY4.out)
       all_goals
        obtain⟨v',t1,t2,t3⟩:=HS4.out.Vu HHI.out HY.out hown5 hg5 hl5 Iy;rw[<- aGq.out]at t1;have HT1:=gO t1;have HT2:=gO ((HF1.out.then HB4.out).trans t2);have HT3:Hid (v'.a2=v.a2):=t3;clear t1 t2 t3 q4 p4 hown5 hg5 hl5;go_wp2_with fail
        go_meet
        exact⟨v',by first | rfl | trivial,HT1,HT2,HT3⟩
      case rest=>
       obtain⟨v',rfl,jT,HFZ,HVZ⟩:=hcut;have HGR:Hid (s.grow i cpu y.c=some ({w:=chainTo s.w (16*a) y.c.z y.c.r y.c.r,h:=h',cs:=s.cs.set i {y.c with sl:=kP y.c.sl ⟨a,y.c.r,((16*a:Nat):Int)⟩}},k)):=by
        unfold Hid Sy.grow;rw[Au.out];simp only[hlb]
       go_wp2_with fail
       exact bodyPost_ret (v:= .tuple #[.int .i64 (k:Int),.int .i64 0]) (by simp[results,Tryz.results161,go_sem]) rfl (.inr ⟨_,k,v',HGR.out,rfl,jT.out,HFZ.out,HVZ.out⟩)
end
end Go.Proofs.YtcmpmobhongkiaaGreatDoor
