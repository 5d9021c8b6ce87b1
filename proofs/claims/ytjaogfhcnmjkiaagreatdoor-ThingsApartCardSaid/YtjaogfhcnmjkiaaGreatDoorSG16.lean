/- joined. -/
import Derived.Test.YtjaogfhcnmjkiaaGreatDoorSG14
import Derived.Test.YtjaogfhcnmjkiaaGreatDoorSG15
set_option linter.all false
set_option maxRecDepth 100000
set_option maxHeartbeats 0
namespace Go.Proofs.YtjaogfhcnmjkiaaGreatDoor
open Go.RowKit
open Go.Value renaming slice->aA,int->aB,agg->aC,string->aF,tuple->aG,pointer->aH,ownBlock->gTh
open Go.IntKind renaming i64->aI
open Option renaming none->aJ,some->aK
open Go.Ending renaming returned->aN
open Go.Obj renaming cells->aO
open Go.Proofs.Tryz
variable {B cpu i k:Nat}{W:World}{Z:Nat->Prop}{c:Ca}{h:Hp}{l:List Int}{p:Int}{row:Option Nat}{s:Sy}{v:List UInt8}
theorem Uf (k:Nat):fG k<=2:=by unfold fG;split <;> (try split) <;> omega
theorem kR.base {B':Nat}{c:Hc}(hn:kR W B h c)(hb:B'<=B):kR W B' h c:=
 HR.any hn (Nat.lt_of_le_of_lt hb hn.gs) (λq a k e=>by
  have g:¬k<B:=by
   rcases gZ.1 a with a | a
   ·exact(hn.og q a k e).2
   ·exact hn.rx q a k e
  have f:k≠B:=λb=>by
   subst b;rcases gZ.1 a with a | a
   ·exact(hn.og q a k e).1 rfl
   ·exact hn.rg q a e
  exact⟨by omega,by omega⟩) (λk d=>by have:=hn.gs;omega) (Nat.lt_irrefl _)
theorem kR.far {c:Hc}(hn:kR W B h c){g:Nat}(hg:g<=B)(i:Nat)(u:Value):kR (W.setCell ⟨g,i,aJ⟩ u) B h c:=
 HR.kept hn (Y:=λk=>k≠g) ((Safe.refl _ W).set (by simp) i u) λq a k e d=>by
  subst d;rcases Nat.lt_or_ge k B with b | b
  ·rcases gZ.1 a with a | a
   ·exact(hn.og q a k e).2 b
   ·exact hn.rx q a k e b
  ·obtain rfl:k=B:=by omega
   rcases gZ.1 a with a | a
   ·exact(hn.og q a k e).1 rfl
   ·exact hn.rg q a e
theorem aDS {l:List Sl}{a:Nat}(hk:k<=l.length)(h1:∀x∈l.take k,x.p<a)(h2:∀h:k<l.length,¬l[k].p<a):Qz l a=k:=by
 unfold Qz;have e:l=l.take k++l.drop k:=(List.take_append_drop k l).symm;rw[e,List.takeWhile_append_of_pos (by
  intro x c;simpa using h1 x c)]
 have b:(l.drop k).takeWhile (λx=>decide (x.p<a))=[]:=by
  rcases Nat.lt_or_ge k l.length with h | h
  ·rw[List.drop_eq_getElem_cons h,List.takeWhile_cons_of_neg (by simpa using h2 h)]
  ·rw[List.drop_eq_nil_of_le h];rfl
 rw[b,List.append_nil,gTc];omega
def aGk (v:Sc)(s:Sy)(i cpu:Nat)(c:Ca)(G:Nat)(X:Nat->Prop)(w:World)(ev:Ending)(w':World):Prop:=(s.grow i cpu c=aJ/\ev=aN (aG #[aB aI 0,aB aI 6])/\Below w.heap.size w w')∨(∃(b:Sy) (k:Nat) (a:Sc),s.grow i cpu c=aK (b,k)/\ev=aN (aG #[aB aI k,aB aI 0])/\SS w' G X b a/\Safe X w w'/\a.a2=v.a2)
theorem YQ (v:Sc)(s:Sy)(G i cpu:Nat)(X:Nat->Prop)(w:World)(hs:SS w G X s v)(hk:bQ s)(hi:i<v.ys.length)(bJ:cpu<s.h.aAh)(ho:sS w)(hX0:X 1):
 Calls prog 159 #[aH (aK ⟨G,0,aJ⟩),aB aI i,aB aI cpu] w (aGk v s i cpu v.ys[i].c G X w):=by
 obtain⟨g,ha2,o9,Lu,Rz,n⟩:=hs.r.TN hi;have hcm:v.ys[i].c∈s.cs:=by rw[<- hs.r.cy];exact List.mem_map_of_mem (gL hi)
 have J:=hk.ck _ hcm;have Z:v.ys[i].c.o<=4:=by rw[J.o];exact gQ (Uf _) (by decide)
 have hvl:v.ys.length<=20:=by have:=congrArg List.length hs.r.cy;rw[gTe]at this;rw[this];exact hk.cl
 have La:s.h.live.length<=1000:=gQ hk.hk.iU (by decide);have YJ:v.hc.lc.length<=1000:=by
  have h1:=congrArg List.length hs.r.hr.ll;rw[gTe]at h1;rw[h1];exact gQ hk.hk.oQ (by decide)
 have hii:(i:Int)<v.ys.length:=by omega
 obtain⟨y,hy⟩:∃y,v.ys[i]=y:=⟨_,rfl⟩
 have HY:=gO hy;rw[hy]at n J Z ⊢;obtain⟨b0,f0⟩:=n 0 (by decide);obtain⟨V,f1⟩:=n 1 (by decide);obtain⟨b2,f2⟩:=n 2 (by decide);obtain⟨b3,f3⟩:=n 3 (by decide);obtain⟨b4,f4⟩:=n 4 (by decide);simp only[dX,vI,gC,gD,Nat.add_zero]at b0 V b2 b3 b4;have g1:=hs.k 1;have g2:=hs.k 2;have g3:=hs.k 3;have g4:=hs.k 4;have g5:=hs.k 5;have g6:=hs.k 6;unfold Sc.vals at g1 g2 g3 g4 g5 g6;simp only[gB,gC,gD]at g1 g2 g3 g4 g5 g6;rw[ha2]at g6;have hA:=fun(W:World) (S:Below w.heap.size w W)=>CQ v.hc.az v.hc.am v.hc.al v.hc.av v.hc.cz v.hc.cm v.hc.cl v.hc.cv _ _ _ _ _ s.h cpu y.c.o 0 W (hs.r.hr.at.below S) hk.hk YJ La bJ Z (by decide) (by decide) (ho.below S)
 have HS:=gO hs;have HK:=gO hk;have HCC:=gO n;have B:=gO J;have N:=hs.r.hr.gs;have hGc:G≠g:=λe=>Lu e.symm
 clear hs hk n hy J hcm;have L1:∀W,Below w.heap.size w W->W.cell? ⟨G,1,aJ⟩=aK (aA v.hc.az 2 v.hc.cz):=λW h=>(h.cell (p:=⟨G,1,aJ⟩) N).trans g1
 have L2:∀W,Below w.heap.size w W->W.cell? ⟨G,2,aJ⟩=aK (aA v.hc.am 2 v.hc.cm):=λW h=>(h.cell (p:=⟨G,2,aJ⟩) N).trans g2
 have L3:∀W,Below w.heap.size w W->W.cell? ⟨G,3,aJ⟩=aK (aB aI (s.h.aAh:Int)):=λW h=>(h.cell (p:=⟨G,3,aJ⟩) N).trans g3
 have L4:∀W,Below w.heap.size w W->W.cell? ⟨G,4,aJ⟩=aK (aA v.hc.al v.hc.lc.length v.hc.cl):=λW h=>(h.cell (p:=⟨G,4,aJ⟩) N).trans g4
 have L5:∀W,Below w.heap.size w W->W.cell? ⟨G,5,aJ⟩=aK (aA v.hc.av s.h.live.length v.hc.cv):=λW h=>(h.cell (p:=⟨G,5,aJ⟩) N).trans g5
 have L6:∀W,Below w.heap.size w W->W.cell? ⟨g,i*6+3,aJ⟩=aK (aB aI (y.c.o:Int)):=λW h=>(h.cell (p:=⟨g,i*6+3,aJ⟩) o9).trans b3
 clear g1 g2 g3 g4 g5 b3;cases hal:s.h.alloc cpu y.c.o 0 false false with
 | none=>
  have HG:Hid (s.grow i cpu y.c=aJ):=by
   unfold Hid Sy.grow;rw[hal]
  have HA:Hid (∀W,Below w.heap.size w W->Calls prog 52 #[aC #[aA v.hc.az 2 v.hc.cz,aA v.hc.am 2 v.hc.cm,aB aI s.h.aAh,aA v.hc.al v.hc.lc.length v.hc.cl,aA v.hc.av s.h.live.length v.hc.cv],aB aI cpu,aB aI y.c.o,aB aI 0] W λL M=>L=aN (aG #[aC #[aA aJ 0 0,aA aJ 0 0,aB aI 0,aA aJ 0 0,aA aJ 0 0],aB aI 0,aB aI 6])/\Below W.heap.size W M):=λW S=>by
   refine(hA W S).mono ?_;rintro L M ⟨hb,⟨_,h⟩ | ⟨l,a,d,h,_⟩⟩
   ·exact⟨h,hb⟩
   ·rw[show s.h.alloc cpu y.c.o (mP 0) (decide (0/8%2=1)) (decide (0%2=1))=s.h.alloc cpu y.c.o 0 false false from rfl,hal]at h;cases h
  clear hA hal;go_enter func159,ntmps159
  go_upto_region 2 with fail
  go_region_held3 (λW=>Below w.heap.size w W) ((repeat (first | with_reducible assumption | with_reducible exact gX _ _ | with_reducible refine Below.setCell ?_ ?_ _ | with_reducible apply Below.drew | with_reducible refine gW ?_ (aAq _ _) | with_reducible refine gW ?_ (by with_reducible assumption) | (simp only;omega))))(first | (go_at_call 52;refine(HA.out _ (by assumption)).mono ?_;rintro L w1 ⟨rfl,I⟩;(try ((have C:Below ((w.alloc (.cells (#[aA aJ 0 0,aA aJ 0 0,aB aI 0,aA aJ 0 0,aA aJ 0 0]:Array Value) 39)).drew).heap.size ((w.alloc (.cells (#[aA aJ 0 0,aA aJ 0 0,aB aI 0,aA aJ 0 0,aA aJ 0 0]:Array Value) 39)).drew) w1:=by with_reducible exact I);have KA:=aAp (w1:=((w.alloc (.cells (#[aA aJ 0 0,aA aJ 0 0,aB aI 0,aA aJ 0 0,aA aJ 0 0]:Array Value) 39)).drew)) (λo=>aQ w #[aA aJ 0 0,aA aJ 0 0,aB aI 0,aA aJ 0 0,aA aJ 0 0] 39 o) (show w.heap.size<((w.alloc (.cells (#[aA aJ 0 0,aA aJ 0 0,aB aI 0,aA aJ 0 0,aA aJ 0 0]:Array Value) 39)).drew).heap.size by simp) C;have FA:=aAt (w1:=((w.alloc (.cells (#[aA aJ 0 0,aA aJ 0 0,aB aI 0,aA aJ 0 0,aA aJ 0 0]:Array Value) 39)).drew)) (λo=>eG w #[aA aJ 0 0,aA aJ 0 0,aB aI 0,aA aJ 0 0,aA aJ 0 0] 39 o) (show w.heap.size<((w.alloc (.cells (#[aA aJ 0 0,aA aJ 0 0,aB aI 0,aA aJ 0 0,aA aJ 0 0]:Array Value) 39)).drew).heap.size by simp) C))))
  all_goals clear L1 L2 L3 L4 L5 L6 b0 V b2 b4
  all_goals (go_wp2_with fail)
  all_goals exact bodyPost_ret (v:=aG #[aB aI 0,aB aI 6]) (by simp[results,results159,go_sem]) rfl (.inl ⟨HG.out,rfl,by assumption⟩)
 | some r=>
  obtain⟨l,a⟩:=r;have E:=(HK.out.hk.alloc bJ Z (by decide) hal).2.2.2.2;have HA:Hid (∀W,Below w.heap.size w W->Calls prog 52 #[aC #[aA v.hc.az 2 v.hc.cz,aA v.hc.am 2 v.hc.cm,aB aI s.h.aAh,aA v.hc.al v.hc.lc.length v.hc.cl,aA v.hc.av s.h.live.length v.hc.cv],aB aI cpu,aB aI y.c.o,aB aI 0] W λL M=>∃d:Hc,L=aN (aG #[aC #[aA d.az 2 d.cz,aA d.am 2 d.cm,aB aI (l.aAh:Int),aA d.al d.lc.length d.cl,aA d.av l.live.length d.cv],aB aI a,aB aI 0])/\kR M W.heap.size l d/\Below W.heap.size W M):=λW S=>by
   refine(hA W S).mono ?_;rintro L M ⟨hb,⟨h,_⟩ | ⟨h2,a2,d,h,h3,h4⟩⟩
   ·rw[show s.h.alloc cpu y.c.o (mP 0) (decide (0/8%2=1)) (decide (0%2=1))=s.h.alloc cpu y.c.o 0 false false from rfl,hal]at h;cases h
   ·rw[show s.h.alloc cpu y.c.o (mP 0) (decide (0/8%2=1)) (decide (0%2=1))=s.h.alloc cpu y.c.o 0 false false from rfl,hal]at h;obtain⟨rfl,rfl⟩:l=h2/\a=a2:=by simpa using h
    exact⟨d,h3,h4,hb⟩
  have Ef:=gO hal;clear hA hal;go_enter func159,ntmps159
  go_upto_region 2 with fail
  go_cut [9,10,11] (λs9 s10 s11 wx=>∃(b9:Nat) (d:Hc),s9=aH (aK ⟨b9,0,aJ⟩)/\s10=aB aI (a:Int)/\s11=aB aI 0/\Hid (kR wx w.heap.size l d)/\Hid (∀o,wx.cell? ⟨b9,o,aJ⟩=(#[aA d.az 2 d.cz,aA d.am 2 d.cm,aB aI (l.aAh:Int),aA d.al d.lc.length d.cl,aA d.av l.live.length d.cv]:Array Value)[o]?)/\b9<wx.heap.size/\w.heap.size<=b9/\Hid (Below w.heap.size w wx))
  case first=>
   go_region_held3 (λW=>Below w.heap.size w W) ((repeat (first | with_reducible assumption | with_reducible exact gX _ _ | with_reducible refine Below.setCell ?_ ?_ _ | with_reducible apply Below.drew | with_reducible refine gW ?_ (aAq _ _) | with_reducible refine gW ?_ (by with_reducible assumption) | (simp only;omega))))(first | (go_at_call 52;refine(HA.out _ (by assumption)).mono ?_;rintro L w1 ⟨d,rfl,hn1,I⟩;(try ((have C:Below ((w.alloc (.cells (#[aA aJ 0 0,aA aJ 0 0,aB aI 0,aA aJ 0 0,aA aJ 0 0]:Array Value) 39)).drew).heap.size ((w.alloc (.cells (#[aA aJ 0 0,aA aJ 0 0,aB aI 0,aA aJ 0 0,aA aJ 0 0]:Array Value) 39)).drew) w1:=by with_reducible exact I);have KA:=aAp (w1:=((w.alloc (.cells (#[aA aJ 0 0,aA aJ 0 0,aB aI 0,aA aJ 0 0,aA aJ 0 0]:Array Value) 39)).drew)) (λo=>aQ w #[aA aJ 0 0,aA aJ 0 0,aB aI 0,aA aJ 0 0,aA aJ 0 0] 39 o) (show w.heap.size<((w.alloc (.cells (#[aA aJ 0 0,aA aJ 0 0,aB aI 0,aA aJ 0 0,aA aJ 0 0]:Array Value) 39)).drew).heap.size by simp) C;have FA:=aAt (w1:=((w.alloc (.cells (#[aA aJ 0 0,aA aJ 0 0,aB aI 0,aA aJ 0 0,aA aJ 0 0]:Array Value) 39)).drew)) (λo=>eG w #[aA aJ 0 0,aA aJ 0 0,aB aI 0,aA aJ 0 0,aA aJ 0 0] 39 o) (show w.heap.size<((w.alloc (.cells (#[aA aJ 0 0,aA aJ 0 0,aB aI 0,aA aJ 0 0,aA aJ 0 0]:Array Value) 39)).drew).heap.size by simp) C))))
   ·go_wp2_with fail
    go_meet
    have O:kR _ w.heap.size l d:=HR.below hn1 (aAq w1 (aO #[aA d.az 2 d.cz,aA d.am 2 d.cm,aB aI (l.aAh:Int),aA d.al d.lc.length d.cl,aA d.av l.live.length d.cv] 39));exact⟨w1.heap.size,d,rfl,rfl,rfl,O,aQ _ _ _,by simp,I.size,by assumption⟩
   ·go_wp2_with fail
    go_meet
    have hs1:=I.size;simp at hs1;have O:kR w1 w.heap.size l d:=hn1.base (by simp);have hn3:=(kR.far (kR.far (kR.far (kR.far (kR.far O (gT _) 0 (aA d.az 2 d.cz)) (gT _) 1 (aA d.am 2 d.cm)) (gT _) 2 (aB aI (l.aAh:Int))) (gT _) 3 (aA d.al d.lc.length d.cl)) (gT _) 4 (aA d.av l.live.length d.cv))
    have KX:=(aAr (aAr (aAr (aAr (aAr KA 0 (aA d.az 2 d.cz)) 1 (aA d.am 2 d.cm)) 2 (aB aI (l.aAh:Int))) 3 (aA d.al d.lc.length d.cl)) 4 (aA d.av l.live.length d.cv))
    simp only[gE,gG,gH]at KX;exact⟨w.heap.size,d,rfl,rfl,rfl,hn3,KX,by simp;omega,gT _,by assumption⟩
  case rest=>
   obtain⟨b9,d,rfl,rfl,rfl,HN,HK9,hb9,aJE,f⟩:=hcut;clear HA L1 L2 L3 L4 L5 L6 b0 V b2 b4 f0 f1 f2 f3 f4 g6;have g0:=HS.out.k 0;unfold Sc.vals at g0;simp only[gB,gC,gD]at g0;have V:=(HCC.out 1 (by decide)).1;have b2:=(HCC.out 2 (by decide)).1;simp only[dX,vI,gC,gD]at V b2;have g0':=(f.out.cell (p:=⟨G,0,aJ⟩) N).trans g0;have b1':=(f.out.cell (p:=⟨g,i*6+1,aJ⟩) o9).trans V;have b2':=(f.out.cell (p:=⟨g,i*6+2,aJ⟩) o9).trans b2;clear g0 V b2;go_upto_region 5 with fail
   have LA:∀W,Below wc.heap.size wc W->W.cell? ⟨G,0,aJ⟩=aK (aA v.a1 v.n1 v.c1):=λW h=>(h.cell (p:=⟨G,0,aJ⟩) (gI N f.out.size)).trans g0'
   have LB:∀W,Below wc.heap.size wc W->W.cell? ⟨g,i*6+1,aJ⟩=aK (aB aI (y.c.z:Int)):=λW h=>(h.cell (p:=⟨g,i*6+1,aJ⟩) (gI o9 f.out.size)).trans b1'
   have LC:∀W,Below wc.heap.size wc W->W.cell? ⟨g,i*6+2,aJ⟩=aK (aB aI (y.c.r:Int)):=λW h=>(h.cell (p:=⟨g,i*6+2,aJ⟩) (gI o9 f.out.size)).trans b2'
   have haa:a<256:=E.2.2.1;have aGl:a+2^y.c.o<=256:=by
    have h2:y.c.o<=2:=by rw[B.out.o];exact Uf _
    obtain⟨_,_,h3,h4⟩:=E;generalize y.c.o=o at*;obtain rfl | rfl | rfl:o=0∨o=1∨o=2:=by omega
    ·omega
    ·omega
    ·omega
   have hsr:=HS.out.r.at.rw.below f.out;have hwl:=HK.out.wl;have hlw:=HS.out.r.at.lw;have hin:16*a+y.c.z*y.c.r<=s.w.length:=by
    have h1:y.c.r*y.c.z<=16*2^y.c.o:=by
     rw[B.out.r,B.out.o];exact Nat.div_mul_le_self _ _
    rw[Nat.mul_comm y.c.z,hwl];generalize y.c.r*y.c.z=m at*;generalize 2^y.c.o=q at*;omega
   have hr1:1<=y.c.r:=by
    rw[B.out.r];unfold aAC;rw[Nat.le_div_iff_mul_le (by have:=B.out.z.1;omega)];have:=B.out.z.2;unfold fG;split
    ·rename_i h;rw[Nat.le_div_iff_mul_le (by have:=B.out.z.1;omega)]at h;omega
    ·split
     ·rename_i h;rw[Nat.le_div_iff_mul_le (by have:=B.out.z.1;omega)]at h;omega
     ·omega
   have VY:=B.out.r64;have OB:Hid (∀W,Below wc.heap.size wc W->Calls prog 176 #[aA v.a1 v.n1 v.c1,aB aI ((a:Int)*16),aB aI y.c.z,aB aI y.c.r] W λe M=>∃a' d,e=aN (aG #[aA a' v.n1 d,aB aI 0])/\M.ownsRow W.heap.size 3 1 (aA a' v.n1 d) v.n1 ((chainTo s.w (16*a) y.c.z y.c.r y.c.r).map vI)/\Below W.heap.size W M):=λW S=>by
    have h:=Xv v.a1 v.c1 s.w (16*a) y.c.z y.c.r W (by omega) (hsr.below S) B.out.z.1 B.out.z.2 hr1 (by omega) hin;rw[hlw,show((16*a:Nat):Int)=(a:Int)*16 by omega]at h;exact h
   have hwr:IntKind.i64.wrap ((a:Int)*16)=(a:Int)*16:=IntWalk.i64_in _ (by omega);clear g0' b1' b2' hsr hin hr1 hwl hlw;go_region_held3 (λW=>Below wc.heap.size wc W) ((repeat (first | with_reducible assumption | with_reducible exact gX _ _ | with_reducible refine Below.setCell ?_ ?_ _ | with_reducible apply Below.drew | with_reducible refine gW ?_ (aAq _ _) | with_reducible refine gW ?_ (by with_reducible assumption) | (simp only;omega))))(first | (go_at_call 176;refine(OB.out _ (by assumption)).mono ?_;rintro L w2 ⟨a',cc',rfl,ho2,hb2⟩))
   have A:Below wc.heap.size wc w2:=gW ((gX wc.heap.size wc).drew) hb2;have HSW:=HS.out.aFI f.out HN.out A ho2;have D:=gO HSW.1;have HF1:=gO HSW.2;have KG:=aAp HS.out.k N (gW f.out A);have U:=aAt HS.out.fz N (gW f.out A);have K9:=aAp HK9.out hb9 A;have q0:=K9 0;have q1:=K9 1;have q2:=K9 2;have q3:=K9 3;have q4:=K9 4;have z0:=KG 0;have z1:=KG 1;have z2:=KG 2;have z3:=KG 3;have z4:=KG 4;have z5:=KG 5;have p0:=U 0;have p1:=U 1;have p2:=U 2;have p3:=U 3;have p4:=U 4;have p5:=U 5;unfold Sc.vals at z0 z1 z2 z3 z4 z5;simp only[gB,gC,gD]at q0 q1 q2 q3 q4 z0 z1 z2 z3 z4 z5;clear LA LB LC OB hwr KG U K9 HSW ho2 hb2 VY E HN HK9 f hb9 aJE;go_upto_region 9 with fail
   clear p0 p1 p2 p3 p4 p5 q0 q1 q2 q3 q4 z0 z1 z2 z3 z4 z5;generalize (((((w2.setCell _ _).setCell _ _).setCell _ _).setCell _ _).setCell _ _).setCell _ _=wx at*;have K:i<({v with a1:=a',n1:=v.n1,c1:=cc',hc:=d}:Sc).ys.length:=hi;obtain⟨gc1,LD,Jj,aGm,aGn,YR⟩:=D.out.r.TN K;obtain rfl:g=gc1:=by rw[ha2]at LD;simpa using LD
   have rO:∀j,j<6->wx.cell? ⟨g,i*6+j,aJ⟩=(dX y)[j]? /\wx.frozen? ⟨g,i*6+j,aJ⟩=false:=λj hj=>by
    have h:=YR j hj;have e:({v with a1:=a',n1:=v.n1,c1:=cc',hc:=d}:Sc).ys[i]=y:=HY.out;rw[e]at h;exact h
   have hym:y∈({v with a1:=a',n1:=v.n1,c1:=cc',hc:=d}:Sc).ys:=by rw[<- HY.out];exact gL hi
   have Y:=D.out.r.at.ca y hym;have hsl:=B.out.mW HK.out.hk;have hl2:=Y.l2;have O:y.n2<=256:=by omega
   have HR2:=gO Y.r2;have x4:=(rO 4 (by decide)).1;simp only[dX,vI,gC,gD]at x4;have HC2:=gO rO;have aJG:=D.out.r.aCn K HY.out LD;clear aGl;have hwr:IntKind.i64.wrap ((a:Int)*16)=(a:Int)*16:=IntWalk.i64_in _ (by omega);have HSL:Hid ((nT y).on wx 0):=(D.out.r.y hym).2.1;have x2:=(HC2.out 2 (by decide)).1;have y4:=(HC2.out 4 (by decide)).2;simp only[dX,vI,gC,gD]at x2;clear YR rO Y hsl;go_wp2_with fail
   go_loopw [13] (λu wr=>wr=wx/\∃k:Nat,k<=y.n2/\u=aB aI (k:Int)/\Hid (∀x∈y.c.sl.take k,x.p<a)) (λu _=>y.n2-(intOf u).toNat)
   case atStart=>exact⟨rfl,0,gU _,rfl,λx C=>by simp at C⟩
   case round=>
    obtain⟨rfl,k,hkn,rfl,R⟩:=hrel;obtain⟨b,hb⟩:∃b:Bool,b=decide (∃h:k<y.c.sl.length,y.c.sl[k].p<a):=⟨_,rfl⟩
    have VZ:=gO hb;clear hb;go_upto_region 10 with fail
    go_cut [13,84] (λu s84 wz=>wz=wr/\u=aB aI (k:Int)/\s84= .bool b)
    case first=>
     by_cases hlt:k<y.n2
     ·have hki:(k:Int)<y.n2:=by omega
      have H:k<y.c.sl.length:=by omega
      obtain⟨sb,so,hsb,LH,vX⟩:=aAw aAv (by decide) HR2.out H;obtain⟨e0,e1,e2⟩:=fV vX;have hxp:=(B.out.sk _ (gL H)).BM HK.out.hk;rw[hsb]at x4;by_cases hp:y.c.sl[k].p<a
      ·have hpi:(y.c.sl[k].p:Int)<a:=by omega
       have YS:Hid (b=true):=by unfold Hid;rw[VZ.out];exact gTg ⟨H,hp⟩
       generalize y.c.sl[k]=x at*;clear vX;go_wp2_with fail
       go_meet
       exact⟨by first | rfl | trivial,by first | rfl | trivial,by rw[YS.out]⟩
      ·have hpi:¬(y.c.sl[k].p:Int)<a:=by omega
       have YS:Hid (b=false):=by unfold Hid;rw[VZ.out];exact gV (fun⟨_,h⟩=>hp h)
       generalize y.c.sl[k]=x at*;clear vX;go_wp2_with fail
       go_meet
       exact⟨by first | rfl | trivial,by first | rfl | trivial,by rw[YS.out]⟩
     ·obtain rfl:k=y.n2:=by omega
      have YS:Hid (b=false):=by unfold Hid;rw[VZ.out];exact gV (fun⟨h,_⟩=>by omega)
      go_wp2_with fail
      go_meet
      exact⟨by first | rfl | trivial,by first | rfl | trivial,by rw[YS.out]⟩
    case rest=>
     obtain⟨hwz,rfl,rfl⟩:=hcut;obtain rfl:wr=wc:=hwz.symm;cases b with
     | true=>
      obtain⟨H,hp⟩:=of_decide_eq_true VZ.out.symm;have HL:Hid (∀x∈y.c.sl.take (k+1),x.p<a):=λx C=>by
       rw[List.take_succ_eq_append_getElem H,gZ,gTa]at C;rcases C with C | rfl
       ·exact R.out x C
       ·exact hp
      clear hp;go_wp2
      go_roundw
      case rel=>exact⟨by first | rfl | trivial,k+1,by omega,by go_num,HL⟩
      case measure=>simp[intOf];omega
     | false=>
      have hnp:=of_decide_eq_false VZ.out.symm;have Q:Qz y.c.sl a=k:=aDS (by omega) R.out (λh hp=>hnp ⟨h,hp⟩);clear hnp;go_upto_region 12 with fail
      go_cut [13] (λu wz=>∃v',u=aB aI (k:Int)/\Hid (SS wz G X {w:=chainTo s.w (16*a) y.c.z y.c.r y.c.r,h:=l,cs:=s.cs.set i {y.c with sl:=pW y.c.sl ⟨a,y.c.r,((16*a:Nat):Int)⟩}} v')/\Hid (Safe X w wz)/\Hid (v'.a2=v.a2))
      case first=>
       have T:pW y.c.sl ⟨a,y.c.r,((16*a:Nat):Int)⟩=y.c.sl.take k++⟨a,y.c.r,(a:Int)*16⟩::y.c.sl.drop k:=by
        unfold pW;simp only;rw[Q,show((16*a:Nat):Int)=(a:Int)*16 by omega]
       have t:=((gX wr.heap.size wr).alloc (gT _) (aO #[aB aI (a:Int),aB aI (y.c.r:Int),aB aI ((a:Int)*16)] 99)).drew;have HS4:=gO (D.out.below t);have HSL4:Hid ((nT y).on (wr.alloc (aO #[aB aI (a:Int),aB aI (y.c.r:Int),aB aI ((a:Int)*16)] 99)).drew 0):=own_below HSL.out t (gT _);have HGB:Hid ((wr.alloc (aO #[aB aI (a:Int),aB aI (y.c.r:Int),aB aI ((a:Int)*16)] 99)).drew.heap[wr.heap.size]? =aK (.cells (aY ⟨a,y.c.r,(a:Int)*16⟩).toArray 99 (0,0))):=heap_alloc_new wr _;have HNB:Hid (aK wr.heap.size≠gTh (aA y.a2 y.n2 y.c2)):=λe=>(own_ne HSL.out (.inr (gT _))) e.symm
       have Hr:g<(wr.alloc (aO #[aB aI (a:Int),aB aI (y.c.r:Int),aB aI ((a:Int)*16)] 99)).drew.heap.size:=gI Jj t.size;have hx4:(wr.alloc (aO #[aB aI (a:Int),aB aI (y.c.r:Int),aB aI ((a:Int)*16)] 99)).drew.cell? ⟨g,i*6+4,aJ⟩=aK (aA y.a2 y.n2 y.c2):=by
        rw[t.cell (p:=⟨g,i*6+4,aJ⟩) Jj];exact x4
       have hy4:(wr.alloc (aO #[aB aI (a:Int),aB aI (y.c.r:Int),aB aI ((a:Int)*16)] 99)).drew.frozen? ⟨g,i*6+4,aJ⟩=false:=by
        rw[t.frozen (p:=⟨g,i*6+4,aJ⟩) Jj];exact y4
       have HX4:=gO hx4;have HY4:=gO hy4;have YT:Hid (aK g≠(aA y.a2 y.n2 y.c2).ownBlock):=λe=>aJG e.symm
       have HB4:=gO t;clear t hx4 hy4;have aJH:=gO T;have HLB:=gO Q;have HHI:=gO K;clear Q T K
       go_region_with (go_at_call 177;refine(Vy 0 y.a2 y.n2 y.c2 wr.heap.size k y.c.sl ⟨a,y.c.r,(a:Int)*16⟩ _ HSL4.out hkn (by omega) (gU _) HGB.out HNB.out).mono ?_;rintro L w5 ⟨an,cn,rfl,F,P,hl5⟩;have q4:=(World.cell?_of_block (w:=(wr.alloc (aO #[aB aI (a:Int),aB aI (y.c.r:Int),aB aI ((a:Int)*16)] 99)).drew) (a:=⟨g,i*6+4,aJ⟩) (P.block g Hr YT.out)).trans HX4.out;have p4:=(World.frozen?_of_block (w:=(wr.alloc (aO #[aB aI (a:Int),aB aI (y.c.r:Int),aB aI ((a:Int)*16)] 99)).drew) (a:=⟨g,i*6+4,aJ⟩) (P.block g Hr YT.out)).trans HY4.out)
       all_goals
        obtain⟨v',t1,t2,t3⟩:=HS4.out.Ym HHI.out HY.out F P hl5 LD;rw[<- aJH.out]at t1;have HT1:=gO t1;have HT2:=gO ((HF1.out.then HB4.out).trans t2);have HT3:Hid (v'.a2=v.a2):=t3;clear t1 t2 t3 q4 p4 F P hl5;go_wp2_with fail
        go_meet
        exact⟨v',by first | rfl | trivial,HT1,HT2,HT3⟩
      case rest=>
       obtain⟨v',rfl,iL,HFZ,HVZ⟩:=hcut;have HGR:Hid (s.grow i cpu y.c=aK ({w:=chainTo s.w (16*a) y.c.z y.c.r y.c.r,h:=l,cs:=s.cs.set i {y.c with sl:=pW y.c.sl ⟨a,y.c.r,((16*a:Nat):Int)⟩}},k)):=by
        unfold Hid Sy.grow;rw[Ef.out];simp only[Q]
       go_wp2_with fail
       exact bodyPost_ret (v:=aG #[aB aI (k:Int),aB aI 0]) (by simp[results,results159,go_sem]) rfl (.inr ⟨_,k,v',HGR.out,rfl,iL.out,HFZ.out,HVZ.out⟩)
theorem RD (x:Sl)(y:Cc)(C gc o:Nat)(W:World)(hC:C<W.heap.size)(hg:gc<W.heap.size)(hl:y.c.ac.length=y.n3)(hn:y.n3<=1000)(hr:Row W y.a3 (y.c.ac.map vI))(hc:W.cell? ⟨C,0,aJ⟩=aK (aH (aK ⟨gc,o,aJ⟩)))(h5:W.cell? ⟨gc,o+5,aJ⟩=aK (aA y.a3 y.n3 y.c3)):
 Calls prog 158 (#[.agg (aY x).toArray]++#[aH (aK ⟨C,0,aJ⟩)]) W λev w'=>ev=aN (.bool (decide (0<x.n)&& !y.c.ac.contains (x.p:Int)))/\Below W.heap.size W w':=by
 show Calls prog 158 #[aC #[aB aI x.p,aB aI x.n,aB aI x.h],aH (aK ⟨C,0,aJ⟩)] W _;obtain⟨f,q,d,b⟩:=boxes1 W #[aB aI (x.p:Int),aB aI (x.n:Int),aB aI x.h] 99;have k:=f 0;have k1:=f 1;simp only[gB,gC,gD]at k k1;have t:=(b.cell (p:=⟨C,0,aJ⟩) hC).trans hc;have r:=(b.cell (p:=⟨gc,o+5,aJ⟩) hg).trans h5;have HR:=gO (hr.below b);have j:=gO b;have s:Hid (∀a,Below (W.alloc (aO #[aB aI (x.p:Int),aB aI (x.n:Int),aB aI x.h] 99)).heap.size (W.alloc (aO #[aB aI (x.p:Int),aB aI (x.n:Int),aB aI x.h] 99)) a->Calls prog 45 #[aA y.a3 y.n3 y.c3,aB aI x.p] a λe w'=>e=aN (.bool (vU y.c.ac (x.p:Int)))/\a=w'):=λa m=>by
  have h:=jS y.a3 y.c3 y.c.ac (x.p:Int) a (by omega) (HR.out.below m);rw[hl]at h;exact h
 have v:∀a,Below (W.alloc (aO #[aB aI (x.p:Int),aB aI (x.n:Int),aB aI x.h] 99)).heap.size (W.alloc (aO #[aB aI (x.p:Int),aB aI (x.n:Int),aB aI x.h] 99)) a->a.cell? ⟨W.heap.size,0,aJ⟩=aK (aB aI (x.p:Int)):=λa h=>(h.cell (p:=⟨W.heap.size,0,aJ⟩) d).trans k
 have z:∀a,Below (W.alloc (aO #[aB aI (x.p:Int),aB aI (x.n:Int),aB aI x.h] 99)).heap.size (W.alloc (aO #[aB aI (x.p:Int),aB aI (x.n:Int),aB aI x.h] 99)) a->a.cell? ⟨W.heap.size,1,aJ⟩=aK (aB aI (x.n:Int)):=λa h=>(h.cell (p:=⟨W.heap.size,1,aJ⟩) d).trans k1
 have w:∀a,Below (W.alloc (aO #[aB aI (x.p:Int),aB aI (x.n:Int),aB aI x.h] 99)).heap.size (W.alloc (aO #[aB aI (x.p:Int),aB aI (x.n:Int),aB aI x.h] 99)) a->a.cell? ⟨C,0,aJ⟩=aK (aH (aK ⟨gc,o,aJ⟩)):=λa h=>(h.cell (p:=⟨C,0,aJ⟩) (gI hC b.size)).trans t
 have u:∀a,Below (W.alloc (aO #[aB aI (x.p:Int),aB aI (x.n:Int),aB aI x.h] 99)).heap.size (W.alloc (aO #[aB aI (x.p:Int),aB aI (x.n:Int),aB aI x.h] 99)) a->a.cell? ⟨gc,o+5,aJ⟩=aK (aA y.a3 y.n3 y.c3):=λa h=>(h.cell (p:=⟨gc,o+5,aJ⟩) (gI hg b.size)).trans r
 clear b hr hc h5 f q;by_cases l:0<x.n
 ·have g:(0:Int)<x.n:=by omega
  go_enter func158,ntmps158
  go_upto_region 1 with fail
  generalize W.alloc _=i at*;go_region_held3 (λW=>Below i.heap.size i W) ((repeat (first | with_reducible assumption | with_reducible exact gX _ _ | with_reducible refine Below.setCell ?_ ?_ _ | with_reducible apply Below.drew | with_reducible refine gW ?_ (aAq _ _) | with_reducible refine gW ?_ (by with_reducible assumption) | (simp only;omega))))(first | (go_at_call 45;refine(s.out _ (by with_reducible assumption)).mono ?_;rintro ev A ⟨rfl,rfl⟩))
  all_goals
   go_wp2_with fail
   go_ret
   refine⟨aX ?_,gW j.out (by assumption)⟩
   first | rfl | (rw[gTg l];rfl) | trace_state
 ·have g:¬(0:Int)<x.n:=by omega
  go_enter func158,ntmps158
  go_upto_region 1 with fail
  go_quiet (fail)
  go_wp2_with fail
  go_ret
  refine⟨aX ?_,gW j.out (below_drewN (gX _ _) _)⟩
  first | rfl | (rw[gV l];rfl)
theorem YU (hp:c.ac.getD cpu (-1)=p)(h:c.own cpu=aK k):dA (λx:Sl=>decide ((x.p:Int)=p)) c.sl=k/\∃h:k<c.sl.length,0<c.sl[k].n:=by
 unfold Ca.own Ca.find at h;rw[hp]at h;unfold dA;cases hf:c.sl.findIdx? (λx=>decide ((x.p:Int)=p))with
 | none=>rw[hf]at h;cases h
 | some j=>
  rw[hf]at h;simp only at h;have a:j<c.sl.length:=by
   rw[List.findIdx?_eq_some_iff_getElem]at hf;exact hf.1
  rw[gJ a]at h;simp only at h;split at h
  ·obtain rfl:j=k:=by simpa using h
   exact⟨rfl,a,by assumption⟩
  ·cases h
theorem YV (hp:c.ac.getD cpu (-1)=p)(h:c.own cpu=aJ):dA (λx:Sl=>decide ((x.p:Int)=p)) c.sl= -1∨∃k:Nat,dA (λx:Sl=>decide ((x.p:Int)=p)) c.sl=k/\∃h:k<c.sl.length,c.sl[k].n=0:=by
 unfold Ca.own Ca.find at h;rw[hp]at h;unfold dA;cases hf:c.sl.findIdx? (λx=>decide ((x.p:Int)=p))with
 | none=>exact .inl rfl
 | some j=>
  rw[hf]at h;simp only at h;have a:j<c.sl.length:=by
   rw[List.findIdx?_eq_some_iff_getElem]at hf;exact hf.1
  rw[gJ a]at h;simp only at h;split at h
  ·cases h
  ·exact .inr ⟨j,rfl,a,by omega⟩
theorem OC (h:c.nobody=aK k):dA (λx:Sl=>decide (0<x.n)&& !c.ac.contains (x.p:Int)) c.sl=k/\k<c.sl.length:=by
 unfold Ca.nobody at h;unfold dA;rw[h];rw[List.findIdx?_eq_some_iff_getElem]at h;exact⟨rfl,h.1⟩
theorem OD (h:c.nobody=aJ):dA (λx:Sl=>decide (0<x.n)&& !c.ac.contains (x.p:Int)) c.sl= -1:=by
 unfold Ca.nobody at h;unfold dA;rw[h]
theorem YW (l:List Sl)(x:Sl):(pW l x).length=l.length+1/\Qz l x.p<=l.length:=by
 have h:Qz l x.p<=l.length:=(List.takeWhile_sublist _).length_le;unfold pW;constructor
 ·simp;omega
 ·exact h
theorem Jk {s2:Sy}(h:s.grow i cpu c=aK (s2,k)):∃h' a,s.h.alloc cpu c.o 0 false false=aK (h',a)/\s2={w:=chainTo s.w (16*a) c.z c.r c.r,h:=h',cs:=s.cs.set i {c with sl:=pW c.sl ⟨a,c.r,((16*a:Nat):Int)⟩}}/\k=Qz c.sl a:=by
 unfold Sy.grow at h;cases hal:s.h.alloc cpu c.o 0 false false with
 | none=>rw[hal]at h;cases h
 | some r=>
  obtain⟨h',a⟩:=r;rw[hal]at h;have b:=gP h;rw[Prod.mk.injEq]at b;exact⟨h',a,rfl,b.1.symm,b.2.symm⟩
theorem RF {s2:Sy}(hi:i<s.cs.length)(h:s.grow i cpu c=aK (s2,k)):s2.cs.length=s.cs.length/\∃c2,s2.cs[i]? =aK c2/\c2.ac=c.ac/\k<c2.sl.length:=by
 obtain⟨d,a,_,rfl,rfl⟩:=Jk h;have b:=YW c.sl ⟨a,c.r,((16*a:Nat):Int)⟩;refine⟨by simp,{c with sl:=pW c.sl ⟨a,c.r,((16*a:Nat):Int)⟩},by rw[List.getElem?_set_self hi],rfl,?_⟩;show Qz c.sl a<(pW c.sl ⟨a,c.r,((16*a:Nat):Int)⟩).length;rw[b.1];exact Nat.lt_succ_of_le b.2
def aBe (v:Sc)(s:Sy)(i cpu:Nat)(G:Nat)(X:Nat->Prop)(w:World)(ev:Ending)(w':World):Prop:=(s.choose i cpu=aJ/\ev=aN (aG #[aB aI 0,aB aI 6])/\Below w.heap.size w w')∨(∃(b:Sy) (k:Nat) (a:Sc),s.choose i cpu=aK (b,k)/\ev=aN (aG #[aB aI k,aB aI 0])/\SS w' G X b a/\Safe X w w'/\a.a2=v.a2)
theorem RG (v:Sc)(s:Sy)(G i cpu:Nat)(X:Nat->Prop)(w:World)(hs:SS w G X s v)(hk:bQ s)(hi:i<v.ys.length)(bJ:cpu<s.h.aAh)(ho:sS w)(hX0:X 1):
 Calls prog 139 #[aH (aK ⟨G,0,aJ⟩),aB aI i,aB aI cpu] w (aBe v s i cpu G X w):=by
 obtain⟨f,ha2,o9,Lu,Rz,j⟩:=hs.r.TN hi;have hcm:v.ys[i].c∈s.cs:=by rw[<- hs.r.cy];exact List.mem_map_of_mem (gL hi)
 have hic:i<s.cs.length:=by rw[<- hs.r.cy,gTe];exact hi
 have hci:s.cs[i]? =aK v.ys[i].c:=by
  rw[<- hs.r.cy,List.getElem?_map,gJ hi];rfl
 have l:=hk.ck _ hcm;have hym:=gL hi;have A:=hs.r.at.ca _ hym;have hii:(i:Int)<v.ys.length:=by omega
 have hvl:v.ys.length<=20:=by have:=congrArg List.length hs.r.cy;rw[gTe]at this;rw[this];exact hk.cl
 obtain⟨y,hy⟩:∃y,v.ys[i]=y:=⟨_,rfl⟩
 have HY:=gO hy;rw[hy]at j l A hci hym;have hl1:=A.l1;have V:=A.l2;have E:=A.l3;have hsl:=l.mW hk.hk;have hac:=l.ac;have hcp:=hk.hk.cp.2;have hcl:cpu<y.c.ac.length:=by omega
 have hcn:(cpu:Int)<y.n3:=by omega
 obtain⟨ga,hga,_,aGo,hca,hfa⟩:=mQ (hs.r.y hym).2.2 cpu (by simpa[rX]using hcl);obtain⟨p,hp⟩:∃p,y.c.ac[cpu]=p:=⟨_,rfl⟩
 have pa:w.cell? ⟨ga,cpu,aJ⟩=aK (aB aI p):=by
  rw[hca];simp[rX,vI,hp]
 have hpb: -1<=p/\p<=256:=by
  rcases l.aw p (by rw[<- hp];exact gL hcl)with h | ⟨x,hx,h⟩
  ·omega
  ·have:=(l.sk x hx).BM hk.hk;omega
 obtain⟨b0,_⟩:=j 0 (by decide);obtain⟨b1,_⟩:=j 1 (by decide);obtain⟨b2,_⟩:=j 2 (by decide);obtain⟨b3,_⟩:=j 3 (by decide);obtain⟨M,_⟩:=j 4 (by decide);obtain⟨b5,_⟩:=j 5 (by decide);simp only[dX,vI,gC,gD,Nat.add_zero]at b0 b1 b2 b3 M b5;have g6:=hs.k 6;unfold Sc.vals at g6;simp only[gB,gC,gD]at g6;rw[ha2]at g6;have hn1:y.c.ac.getD cpu (-1)=p:=by
  rw[<- hp];simp[List.getD,gJ hcl]
 obtain⟨T0,TF,hT1,hTb⟩:=boxes1 w #[aH (aK ⟨f,i*6,aJ⟩)] 161;have t0:=T0 0;simp only[gB,gC,gD]at t0;have HS:=gO hs;have HK:=gO hk;have qI:=gO l;have DI:=gO hci;have Lm:=gO A;have a:=gO hTb;have HS1:=gO (hs.new hTb);have Ld:=hs.r.hr.gs;clear hs hk j hy l hcm hci A hca hTb T0 TF hp;go_enter func139,ntmps139
 go_upto_region 2 with fail
 generalize w.alloc _=b at*;have L0:∀W,Below b.heap.size b W->W.cell? ⟨f,i*6,aJ⟩=aK (aA y.a1 y.n1 y.c1):=λW h=>((Below.trans a.out (h.mono a.out.size)).cell (p:=⟨f,i*6,aJ⟩) o9).trans b0
 have L1:∀W,Below b.heap.size b W->W.cell? ⟨f,i*6+1,aJ⟩=aK (aB aI (y.c.z:Int)):=λW h=>((Below.trans a.out (h.mono a.out.size)).cell (p:=⟨f,i*6+1,aJ⟩) o9).trans b1
 have L2:∀W,Below b.heap.size b W->W.cell? ⟨f,i*6+2,aJ⟩=aK (aB aI (y.c.r:Int)):=λW h=>((Below.trans a.out (h.mono a.out.size)).cell (p:=⟨f,i*6+2,aJ⟩) o9).trans b2
 have L3:∀W,Below b.heap.size b W->W.cell? ⟨f,i*6+3,aJ⟩=aK (aB aI (y.c.o:Int)):=λW h=>((Below.trans a.out (h.mono a.out.size)).cell (p:=⟨f,i*6+3,aJ⟩) o9).trans b3
 have L4:∀W,Below b.heap.size b W->W.cell? ⟨f,i*6+4,aJ⟩=aK (aA y.a2 y.n2 y.c2):=λW h=>((Below.trans a.out (h.mono a.out.size)).cell (p:=⟨f,i*6+4,aJ⟩) o9).trans M
 have L5:∀W,Below b.heap.size b W->W.cell? ⟨f,i*6+5,aJ⟩=aK (aA y.a3 y.n3 y.c3):=λW h=>((Below.trans a.out (h.mono a.out.size)).cell (p:=⟨f,i*6+5,aJ⟩) o9).trans b5
 have L6:∀W,Below b.heap.size b W->W.cell? ⟨w.heap.size,0,aJ⟩=aK (aH (aK ⟨f,i*6,aJ⟩)):=λW h=>(h.cell (p:=⟨w.heap.size,0,aJ⟩) hT1).trans t0
 have L7:∀W,Below b.heap.size b W->W.cell? ⟨ga,cpu,aJ⟩=aK (aB aI p):=λW h=>((Below.trans a.out (h.mono a.out.size)).cell (p:=⟨ga,cpu,aJ⟩) aGo).trans pa
 have Oz:Hid (∀W,Below b.heap.size b W->Calls prog 71 #[aC #[aA y.a1 y.n1 y.c1,aB aI y.c.z,aB aI y.c.r,aB aI y.c.o,aA y.a2 y.n2 y.c2,aA y.a3 y.n3 y.c3],aB aI p] W λI w'=>I=aN (aB aI (dA (λx=>decide ((x.p:Int)=p)) y.c.sl))/\Below W.heap.size W w'):=λW hW=>TL y p W ((Lm.out.below a.out).below hW) (by omega) (λx hx=>by have:=(qI.out.sk x hx).BM HK.out.hk;omega) (by omega)
 have HL5:=gO L5;simp only[hga]at L5 Oz;have HGA:=gO hga;clear hga;clear b0 b1 b2 b3 M b5 t0 pa hl1 V E hsl hac hcp;go_cut [9] (λs9 wx=>s9=aB aI (dA (λx=>decide ((x.p:Int)=p)) y.c.sl)/\Hid (Below b.heap.size b wx))
 case first=>
  go_region_held3 (λW=>Below b.heap.size b W) ((repeat (first | with_reducible assumption | with_reducible exact gX _ _ | with_reducible refine Below.setCell ?_ ?_ _ | with_reducible apply Below.drew | with_reducible refine gW ?_ (aAq _ _) | with_reducible refine gW ?_ (by with_reducible assumption) | (simp only;omega))))(first | (go_at_call 71;refine(Oz.out _ (by with_reducible assumption)).mono ?_;rintro I w2 ⟨rfl,hb2⟩))
  all_goals
   go_wp2_with fail
   go_meet
   exact⟨by first | rfl | trivial,by assumption⟩
 case rest=>
  obtain⟨rfl,g⟩:=hcut;obtain⟨w2,rfl⟩:∃w2,w2=wc:=⟨_,rfl⟩
  have M:=L4 w2 g.out;have t0:=L6 w2 g.out;clear L0 L1 L2 L3 L4 L5 L6 L7 Oz;have Q:=gI hT1 g.out.size;have T:=(Lm.out.below a.out).below g.out;have HS2:=gO (HS1.out.below g.out);have R:=gO T.r2;have V:=T.l2;have Y:=gO T;have m:=gO (Below.trans a.out (g.out.mono a.out.size));have hsl:=qI.out.mW HK.out.hk;have hn2:y.n2<=256:=by omega
  clear T hsl;cases hown:y.c.own cpu with
  | some k=>
   obtain⟨hfi,L,C⟩:=YU hn1 hown;rw[hfi];have P:Hid (s.choose i cpu=aK (s,k)):=by
    unfold Hid Sy.choose;rw[DI.out];simp only[hown]
   have hki:(k:Int)<y.n2:=by omega
   obtain⟨sb,so,K,LH,vX⟩:=aAw aAv (by decide) R.out L;obtain⟨e0,e1,e2⟩:=fV vX;have aJL:(0:Int)<y.c.sl[k].n:=by omega
   generalize y.c.sl[k]=x at*;rw[K]at M;have hk0:(0:Int)<=k:=by omega
   clear vX hown hfi C L K;go_wp2_with fail
   exact bodyPost_ret (v:=aG #[aB aI (k:Int),aB aI 0]) (by simp[results,results139,go_sem]) rfl (.inr ⟨s,k,v,P.out,rfl,HS2.out.sub (λ_ h=> .inl h),Safe.jD m.out,rfl⟩)
  | none=>
   have hcase:=YV hn1 hown;generalize dA (λx:Sl=>decide ((x.p:Int)=p)) y.c.sl=kf at*;have J:=gO hown;clear hown;go_upto_region 3 with fail
   go_cut [41] (λs41 wx=>s41= .bool false/\wx=w2)
   case first=>
    rcases hcase with hm | ⟨k,hm,L,hz⟩
    ·obtain rfl:=hm;go_wp2_with fail
     go_meet
     exact⟨by first | rfl | trivial,by first | rfl | trivial⟩
    ·obtain rfl:=hm;have hki:(k:Int)<y.n2:=by omega
     obtain⟨sb,so,K,LH,vX⟩:=aAw aAv (by decide) R.out L;obtain⟨e0,e1,e2⟩:=fV vX;have hk0:(0:Int)<=k:=by omega
     have aJL:¬(0:Int)<y.c.sl[k].n:=by omega
     generalize y.c.sl[k]=x at*;rw[K]at M;clear vX L K hz;go_wp2_with fail
     go_meet
     exact⟨by first | rfl | trivial | (rw[gV (by omega)]),by first | rfl | trivial⟩
   case rest=>
    obtain⟨rfl,hwz⟩:=hcut;obtain rfl:w2=wc:=hwz.symm;have eg:∀args w,(callFunc 158 args).run prog w= .ok (.enter 158 args) w:=enters_of func158 (by kernel_rfl) rfl;have hac:=qI.out.ac;have hcp:=HK.out.hk.cp.2;have E:=Y.out.l3;have HIX:=gO (wQ y.a2 y.n2 y.c2 y.c.sl 158 #[aH (aK ⟨w.heap.size,0,aJ⟩)] (λx=>decide (0<x.n)&& !y.c.ac.contains (x.p:Int)) w2 Y.out.l2 (by omega) R.out eg (λW hW x hx=>RD x y w.heap.size f (i*6) W (gI Q hW.size) (gI o9 (gQ m.out.size hW.size)) E (by omega) (Y.out.r3.below hW) ((hW.cell (p:=⟨w.heap.size,0,aJ⟩) Q).trans t0) (HL5.out W (Below.trans g.out (hW.mono g.out.size)))));obtain⟨kn,C⟩:∃kn,dA (λx:Sl=>decide (0<x.n)&& !y.c.ac.contains (x.p:Int)) y.c.sl=kn:=⟨_,rfl⟩
    rw[C]at HIX;have VX:=gO C;clear C eg
    go_upto_if 50 with (go_at_call 119;refine HIX.out.mono ?_;rintro I w3 ⟨rfl,F⟩)
    have HS3:=gO (HS2.out.below F);have U:=gO (gW m.out F);have t3:=(F.cell (p:=⟨w.heap.size,0,aJ⟩) Q).trans t0;have hT3:=gI Q F.size;clear M t0 F HIX R Y HS2 m;go_cut [10] (λs10 wx=>∃(B:Sy) (k:Nat) (q:Sc) (e:i<q.ys.length),s10=aB aI (k:Int)/\Hid (SS wx G (λk=>X k∨w.heap.size<=k/\k<b.heap.size) B q)/\Hid (q.a2=v.a2)/\wx.cell? ⟨w.heap.size,0,aJ⟩=aK (aH (aK ⟨f,i*6,aJ⟩))/\Hid (Safe X w wx)/\Hid (s.choose i cpu=aK (B.mine i cpu k,k))/\k<q.ys[i].c.sl.length/\q.ys[i].c.ac.length=s.h.aAh)
    case first=>
     cases yK:y.c.nobody with
     | some k=>
      obtain⟨t,h2⟩:=OC yK;have N:=VX.out;rw[t]at N;obtain rfl:=N;have hk0:¬(k:Int)<0:=by omega
      have P:Hid (s.choose i cpu=aK (s.mine i cpu k,k)):=by
       unfold Hid Sy.choose;rw[DI.out];simp only[J.out,yK]
      clear t yK;go_wp2_with fail
      go_meet
      exact⟨s,k,v,hi,by first | rfl | trivial,HS3,rfl,t3,Safe.jD U.out,P,by rw[HY.out];exact h2,by rw[HY.out];exact hac⟩
     | none=>
      have N:=VX.out;rw[OD yK]at N;obtain rfl:=N;have hG:=YQ v s G i cpu (λk=>X k∨w.heap.size<=k/\k<b.heap.size) w3 HS3.out HK.out hi bJ (ho.below U.out) (.inl hX0);rw[HY.out]at hG;cases hgr:s.grow i cpu y.c with
      | none=>
       have P:Hid (s.choose i cpu=aJ):=by
        unfold Hid Sy.choose;rw[DI.out];simp only[J.out,yK,hgr]
       have HG:Hid (Calls prog 159 #[aH (aK ⟨G,0,aJ⟩),aB aI i,aB aI cpu] w3 λI w'=>I=aN (aG #[aB aI 0,aB aI 6])/\Below w3.heap.size w3 w'):=by
        refine hG.mono ?_;rintro I w' (⟨_,h,hb⟩ | ⟨s',k,Z,h,_⟩)
        ·exact⟨h,hb⟩
        ·rw[hgr]at h;cases h
       clear hG hgr yK;go_wp2_with (go_at_call 159;refine HG.out.mono ?_;rintro I w4 ⟨rfl,hb4⟩)
       exact bodyPost_ret (v:=aG #[aB aI 0,aB aI 6]) (by simp[results,results139,go_sem]) rfl (.inl ⟨P.out,rfl,gW U.out hb4⟩)
      | some r=>
       obtain⟨B,k⟩:=r;have P:Hid (s.choose i cpu=aK (B.mine i cpu k,k)):=by
        unfold Hid Sy.choose;rw[DI.out];simp only[J.out,yK,hgr]
       have HG:Hid (Calls prog 159 #[aH (aK ⟨G,0,aJ⟩),aB aI i,aB aI cpu] w3 λI w'=>∃Z,I=aN (aG #[aB aI k,aB aI 0])/\SS w' G (λk=>X k∨w.heap.size<=k/\k<b.heap.size) B Z/\Safe (λk=>X k∨w.heap.size<=k/\k<b.heap.size) w3 w'/\Z.a2=v.a2):=by
        refine hG.mono ?_;rintro I w' (⟨h,_⟩ | ⟨s',k',Z,h,t,h2,N,h4⟩)
        ·rw[hgr]at h;cases h
        ·rw[hgr]at h;obtain⟨rfl,rfl⟩:B=s'/\k=k':=by simpa using h
         exact⟨Z,t,h2,N,h4⟩
       have HGR:=gO hgr;clear hG hgr yK;go_wp2_with (go_at_call 159;refine HG.out.mono ?_;rintro I w4 ⟨q,rfl,hs4,hf4,hv4⟩)
       go_meet
       obtain⟨hg1,c2,hg2,hg3,hg4⟩:=RF hic HGR.out;have hv2:q.ys.length=B.cs.length:=by
        have t:=congrArg List.length hs4.r.cy;simpa using t
       have e:i<q.ys.length:=by omega
       have hc2:q.ys[i].c.ac=y.c.ac/\k<q.ys[i].c.sl.length:=by
        have t:=congrArg (·[i]?) hs4.r.cy;simp only[List.getElem?_map,gJ e,Option.map_some]at t;rw[hg2]at t;have h5:q.ys[i].c=c2:=gP t;rw[h5];exact⟨hg3,hg4⟩
       exact⟨B,k,q,e,by first | rfl | trivial,hs4,hv4,(hf4.cell (p:=⟨w.heap.size,0,aJ⟩) hT3 (.inr ⟨gT _,hT1⟩)).trans t3,(Safe.jD U.out).trans (hf4.sub λ_ _ h=> .inl h),P,hc2.2,by rw[hc2.1];exact hac⟩
    case rest=>
     obtain⟨B,k,q,e,rfl,H,HV2,t4,HF4,P,hk2,YX⟩:=hcut;obtain⟨gc2,RH,FY,aL5,aL6,rO⟩:=H.out.r.TN e;obtain rfl:f=gc2:=by rw[HV2.out,ha2]at RH;simpa using RH
     have aJM:=gL e;obtain⟨hr1,O,S⟩:=H.out.r.y aJM;obtain⟨d,hy2⟩:∃d,q.ys[i]=d:=⟨_,rfl⟩
     have HY2:=gO hy2;rw[hy2]at rO hk2 YX hr1 O S;have aJN:cpu<d.c.ac.length:=by omega
     obtain⟨D,aDV,_,aCw,aGp,aGq⟩:=mQ S cpu (by simpa[rX]using aJN);obtain⟨gs2,Ih,_,aL7,hcs2,aJO⟩:=mQ O (k*3) (by show k*3<(flat aY d.c.sl).length;rw[flat_length aAv];omega);have M:=(rO 4 (by decide)).1;have b5:=(rO 5 (by decide)).1;simp only[dX,vI,gC,gD]at M b5;have HA:=gO aDV;rw[aDV]at b5;rw[Ih]at M;have pa:∃u,wc.cell? ⟨D,cpu,aJ⟩=aK u:=⟨_,aGp⟩
     have ps:wc.cell? ⟨gs2,k*3,aJ⟩=aK (aB aI (d.c.sl[k].p:Int)):=by
      have t:=flat_get aAv d.c.sl k hk2 0 (by decide);have h2:k*3<(flat aY d.c.sl).length:=by rw[flat_length aAv];omega
      rw[hcs2];have N:(flat aY d.c.sl)[k*3]? =aK (vI (d.c.sl[k].p:Int)):=by simpa[aY]using t
      rw[gJ h2]at N;exact N
     obtain⟨ua,pa⟩:=pa;have V:d.c.sl.length=d.n2:=aZ aAv (by decide) O;have E:d.c.ac.length=d.n3:=by
      have:=S.1;unfold rX at this;simpa using this
     have hki:(k:Int)<d.n2:=by omega
     have aOj:(cpu:Int)<d.n3:=by omega
     have hd:=(gX wc.heap.size wc).drew;have pad:=(hd.cell (p:=⟨D,cpu,aJ⟩) aCw).trans pa;have fad:=(hd.frozen (p:=⟨D,cpu,aJ⟩) aCw).trans aGq;have HF5:=gO (HF4.out.then hd);have hset:=(H.out.below hd).Yn e HY2.out HA.out cpu (d.c.sl[k].p:Int);have aCx:B.mine i cpu k=B.fB i {d.c with ac:=d.c.ac.set cpu (d.c.sl[k].p:Int)}:=by
      unfold Sy.mine;have t:B.cs[i]? =aK d.c:=by
       rw[<- H.out.r.cy,List.getElem?_map,gJ e,HY2.out];rfl
      rw[t];simp only[gJ hk2]
     have aBh:=gO hset;have OE:=gO aCx;generalize d.c.sl[k]=x at*;clear hd rO hr1 O S aDV Ih aGp hcs2 aJO hy2 hset aCx V E RH;go_upto_region 11 with fail
     go_still_tail 14,(by kernel_rfl)
     change wpList _ _ _ _ _ wc.drew;clear M b5 pa ps t4 aGq;generalize wc.drew=wd at*;obtain⟨Z,t1,t2,t3⟩:=aBh.out;have HT1:Hid (SS (wd.setCell ⟨D,cpu,aJ⟩ (aB aI (x.p:Int))) G X (B.mine i cpu k) Z):=by
      unfold Hid;rw[OE.out];exact t1.sub (λ_ h=> .inl h)
     have HT2:Hid (Safe X w (wd.setCell ⟨D,cpu,aJ⟩ (aB aI (x.p:Int)))):=HF5.out.trans (t2.sub λ_ _ h=> .inl h);have HT3:Hid (Z.a2=v.a2):=t3.trans HV2.out;clear t1 t2 t3 aBh OE HF5 HF4 H HV2;go_wp2_with fail
     exact bodyPost_ret (v:=aG #[aB aI (k:Int),aB aI 0]) (by simp[results,results139,go_sem]) rfl (.inr ⟨_,k,Z,P.out,rfl,HT1.out,HT2.out,HT3.out⟩)
def Ca.idle (c:Ca)(x:Sl):Bool:=decide (x.n=c.r)&& !c.ac.contains (x.p:Int)
theorem YZ (y:Cc)(x:Sl)(w:World)(hl:y.c.ac.length=y.n3)(hn:y.n3<=1000)(hr:Row w y.a3 (y.c.ac.map vI)):
 Calls prog 78 #[aC #[aA y.a1 y.n1 y.c1,aB aI y.c.z,aB aI y.c.r,aB aI y.c.o,aA y.a2 y.n2 y.c2,aA y.a3 y.n3 y.c3],aC #[aB aI x.p,aB aI x.n,aB aI x.h]] w λev w'=>ev=aN (.bool (y.c.idle x))/\Below w.heap.size w w':=by
 obtain⟨d,f,k,s,t,a⟩:=boxes2 w #[aA y.a1 y.n1 y.c1,aB aI (y.c.z:Int),aB aI (y.c.r:Int),aB aI (y.c.o:Int),aA y.a2 y.n2 y.c2,aA y.a3 y.n3 y.c3] 67 #[aB aI (x.p:Int),aB aI (x.n:Int),aB aI x.h] 99;have k2:=d 2;have q:=d 5;have j:=f 0;have m:=f 1;simp only[gB,gC,gD]at k2 q j m;have h:=jS y.a3 y.c3 y.c.ac (x.p:Int) _ (by omega) (hr.below a);rw[hl]at h;have l:=gO h;have i:=gO a;clear h a hr d f k s;by_cases b:x.n=y.c.r
 ·have e:((x.n:Int) == (y.c.r:Int))=true:=by rw[beq_iff_eq,b]
  have g:=gO b;clear b;go_enter func78,ntmps78
  go_wp2_with (go_at_call 45;refine l.out.mono ?_;rintro ev u ⟨rfl,rfl⟩)
  go_ret
  refine⟨aX ?_,i.out⟩;unfold Ca.idle;rw[gTg g.out];rfl
 ·have e:((x.n:Int) == (y.c.r:Int))=false:=by rw[beq_eq_false_iff_ne];omega
  have g:=gO b;clear b;go_enter func78,ntmps78
  go_wp2_with fail
  go_ret
  refine⟨aX ?_,i.out⟩;unfold Ca.idle;rw[gV g.out];rfl
def aJP (v:Sc)(s:Sy)(i cpu:Nat)(G:Nat)(X:Nat->Prop)(w:World)(ev:Ending)(w':World):Prop:=(s.one i cpu=aJ/\ev=aN (aG #[aB aI 0,aB aI 6])/\Below w.heap.size w w')∨(∃(c:Sy) (a:Int) (b:Sc),s.one i cpu=aK (c,a)/\ev=aN (aG #[aB aI a,aB aI 0])/\SS w' G X c b/\Safe X w w'/\b.a2=v.a2)
def Za (s':Sy)(i k:Nat):Prop:=∃c x,s'.cs[i]? =aK c/\c.sl[k]? =aK x/\0<x.n/\x.n<=64/\0<=x.h/\x.h<4096/\s'.w.length=4096/\s'.cs.length<=20/\c.sl.length<=256
theorem Ug (v:Sc)(s:Sy)(G i cpu:Nat)(X:Nat->Prop)(w:World)(hs:SS w G X s v)(hk:bQ s)(hi:i<v.ys.length)(bJ:cpu<s.h.aAh)(ho:sS w)(hX0:X 1)(hch:∀s' k,s.choose i cpu=aK (s',k)->Za s' i k):
 Calls prog 107 #[aH (aK ⟨G,0,aJ⟩),aB aI i,aB aI cpu] w (aJP v s i cpu G X w):=by
 have U:=RG v s G i cpu X w hs hk hi bJ ho hX0;cases hco:s.choose i cpu with
 | none=>
  have O:Hid (s.one i cpu=aJ):=by
   unfold Hid Sy.one;rw[hco]
  have V:Hid (Calls prog 139 #[aH (aK ⟨G,0,aJ⟩),aB aI i,aB aI cpu] w λt K=>t=aN (aG #[aB aI 0,aB aI 6])/\Below w.heap.size w K):=by
   refine U.mono ?_;rintro t K (⟨_,h,hb⟩ | ⟨s',k,C,h,_⟩)
   ·exact⟨h,hb⟩
   ·rw[hco]at h;cases h
  clear U hco hch hs hk;go_enter func107,ntmps107
  go_wp2_with (go_at_call 139;refine V.out.mono ?_;rintro t w4 ⟨rfl,hb4⟩)
  exact bodyPost_ret (v:=aG #[aB aI 0,aB aI 6]) (by simp[results,results107,go_sem]) rfl (.inl ⟨O.out,rfl,hb4⟩)
 | some r=>
  obtain⟨e,k⟩:=r;obtain⟨c,x,I,H,hxn,hxm,hx0,hx4,hwl,hcl,hsl⟩:=hch e k hco;have V:Hid (Calls prog 139 #[aH (aK ⟨G,0,aJ⟩),aB aI i,aB aI cpu] w λt K=>∃C,t=aN (aG #[aB aI k,aB aI 0])/\SS K G X e C/\Safe X w K/\C.a2=v.a2):=by
   refine U.mono ?_;rintro t K (⟨h,_⟩ | ⟨s',k',C,h,f,T,h3,Z⟩)
   ·rw[hco]at h;cases h
   ·rw[hco]at h;obtain⟨rfl,rfl⟩:e=s'/\k=k':=by simpa using h
    exact⟨C,f,T,h3,Z⟩
  have O:Hid (s.one i cpu=aK (e.fB i {c with sl:=c.sl.set k ⟨x.p,x.n-1,e.w.getD x.h.toNat 0⟩},x.h)):=by
   unfold Hid Sy.one;rw[hco];simp only[Sy.pop,I,H]
  have D:=gO I;have P:=gO H;clear U hco hch hs hk I H;go_enter func107,ntmps107
  go_upto_region 4 with (go_at_call 139;refine V.out.mono ?_;rintro t w2 ⟨J,rfl,a,R,L⟩)
  have o:i<J.ys.length:=by
   have f:=congrArg List.length a.r.cy;simp only[gTe]at f;have T:=(gK.1 D.out).1;omega
  have aOk:J.ys.length<=20:=by
   have f:=congrArg List.length a.r.cy;simp only[gTe]at f;omega
  have Zb:J.ys[i].c=c:=by
   have f:=congrArg (·[i]?) a.r.cy;simp only[List.getElem?_map,gJ o,Option.map_some]at f;rw[D.out]at f;exact gP f
  obtain⟨gc,Q,o9,Lu,Rz,E⟩:=a.r.TN o;obtain⟨hr1,m,hr3⟩:=a.r.y (gL o);obtain⟨y,hy⟩:∃y,J.ys[i]=y:=⟨_,rfl⟩
  rw[hy]at E m Zb;subst Zb;obtain⟨F,z⟩:=gK.1 P.out;have b:∀j,j<3->∃g,y.a2=aK ⟨g,0,aJ⟩/\g<w2.heap.size/\w2.cell? ⟨g,k*3+j,aJ⟩=(aY x)[j]? /\w2.frozen? ⟨g,k*3+j,aJ⟩=false:=λj hj=>by
   have q:k*3+j<(flat aY y.c.sl).length:=by rw[flat_length aAv];omega
   obtain⟨g,f,_,T,h3,Z⟩:=mQ m (k*3+j) q;refine⟨g,f,T,?_,Z⟩;rw[h3,<- z,<- flat_get aAv y.c.sl k F j hj];exact(gJ q).symm
  obtain⟨gs,l,OG,s1,hq4⟩:=b 1 (by decide);obtain⟨gs2,Ih,hq2,W,f2⟩:=b 2 (by decide);obtain⟨gs1,Om,hq1,hq3,f1⟩:=b 1 (by decide);obtain rfl:gs=gs2:=by rw[l]at Ih;simpa using Ih
  obtain rfl:gs=gs1:=by rw[l]at Om;simpa using Om
  simp only[aY,vI,gC,gD]at s1 W;have b4:=(E 4 (by decide)).1;simp only[dX,vI,gC,gD]at b4;rw[l]at b4;have g6:=a.k 6;have g0:=a.k 0;unfold Sc.vals at g0 g6;simp only[gB,gC,gD]at g0 g6;rw[Q]at g6;have A:=a.r.at
  have hlw:=A.lw;have B:x.h.toNat<e.w.length:=by omega
  obtain⟨wb,wo,N,aOl,M⟩:=A.rw x.h.toNat (vI e.w[x.h.toNat]) (by rw[List.getElem?_map,gJ B];rfl)
  have S:e.w.getD x.h.toNat 0=e.w[x.h.toNat]:=by simp[List.getD,gJ B]
  rw[N]at g0;have Y:y.c.sl.length=y.n2:=aZ aAv (by decide) m;have hkn:(k:Int)<y.n2:=by omega
  have hii:(i:Int)<J.ys.length:=by omega
  have aOm:x.h<J.n1:=by omega
  have hxn:(x.n:Int)-1=((x.n-1:Nat):Int):=by omega
  have d:=a.aIY o hy l F (e.w[x.h.toNat]) (n':=x.n-1);rw[z]at d;rw[S]at O;obtain⟨u,hu⟩:∃u,e.w[x.h.toNat]=u:=⟨_,rfl⟩
  rw[hu]at d O M;unfold vI at M d;have HP:=gO d;have HF2:=gO R;have HV2:=gO L;clear hq1 hq2 hq3 hq4 d R L b l Om Ih E hy N A hlw S hu z Y Q hr1 m hr3 hwl hcl hsl F D P V B;go_wp2_with fail
  obtain⟨C,t1,t2,t3⟩:=HP.out;exact bodyPost_ret (v:=aG #[aB aI x.h,aB aI 0]) (by simp[results,results107,go_sem]) rfl (.inr ⟨_,x.h,C,O.out,rfl,t1,HF2.out.trans t2,t3.trans HV2.out⟩)
section
variable {W W':World}{G:Nat}{X:Nat->Prop}{s:Sy}{v:Sc}
theorem SS.out (hs:SS W G X s v)(hg:W.grownBy W' row)(hrow:∀k,row=aK k->X k)(hZ:∀k,Z k->X k∨(W.heap.size<=k/\k<W'.heap.size)):SS W' G Z s v:=by
 have f:aK G≠row:=λe=>hs.r.hr.xg (hrow G e.symm)
 have c:SS W' G X s v:=⟨⟨⟨λr hr=>sZ (hs.r.own.each r hr) λk b d=>hg.block k d λe=>(hs.r.og r hr k b).2 (hrow k e.symm),hs.r.own.Hu⟩,hs.r.og,
  hs.r.hr.kept (Y:=λk=>¬X k) (Safe.oD hg λk b e=>b (hrow k e.symm)) (λq a k b e=>by
   rcases gZ.1 a with a | a
   ·exact(hs.r.hr.og q a k b).2 e
   ·exact hs.r.hr.rx q a k b e),hs.r.hd,hs.r.cy⟩,bD hs.k hs.r.hr.gs hg f,bG hs.fz hs.r.hr.gs hg f⟩
 refine c.more λk b=> ?_
 rcases hZ k b with h | ⟨i,g⟩
 ·refine⟨c.r.hr.xs k h,c.r.Ri h,λq a e=> ?_⟩;rcases gZ.1 a with a | a
  ·exact(c.r.hr.og q a k e).2 h
  ·exact c.r.hr.rx q a k e h
 ·refine⟨g,?_,λq a e=> ?_⟩
  ·rintro(rfl | ⟨r,hr,e⟩)
   ·have:=hs.r.hr.gs;omega
   ·have:=hs.r.lt r hr k e;omega
  ·have:=hs.r.hr.lt q a k e;omega
end
theorem Jl {s':Sy}{j:Nat}(h:s.bulk i cpu j=aK (s',l))(h1:s'.one i cpu=aJ):∀m,j<m->s.bulk i cpu m=aJ
 | 0,hm=>by omega
 | m+1,hm=>by
  by_cases e:j=m
  ·subst e;unfold Sy.bulk;rw[h];simp only[h1]
  ·unfold Sy.bulk;rw[Jl h h1 m (by omega)]
theorem Wi {s' t:Sy}{j:Nat}{a:Int}(h:s.bulk i cpu j=aK (s',l))(h1:s'.one i cpu=aK (t,a)):s.bulk i cpu (j+1)=aK (t,l++[a]):=by
 unfold Sy.bulk;rw[h];simp only[h1]
theorem bQ.chosen (hk:bQ s)(hi:s.cs[i]? =aK c)(bJ:cpu<s.h.aAh):∀s' k,s.choose i cpu=aK (s',k)->Za s' i k:=λs' k o=>by
 obtain⟨b,q,e,x,j,f,g⟩:=hk.choose hi bJ o;have a:=gM j;have d:=gM f;obtain⟨m,_,p,_,n,l,_⟩:=b.first a d g;exact⟨e,x,j,f,g,gQ ((b.ck e a).sk x d).QE (b.ck e a).r64,n,l,b.wl,b.cl,(b.ck e a).mW b.hk⟩
def aGs (s:Sy)(i cpu many:Nat)(w:World)(ev:Ending)(w':World):Prop:=(s.bulk i cpu many=aJ/\ev=aN (aG #[aC #[aA aJ 0 0,aA aJ 0 0,aA aJ 0 0,aB aI 0,aA aJ 0 0,aA aJ 0 0,aA aJ 0 0],aA aJ 0 0,aB aI 6])/\Below w.heap.size w w')∨(∃(a:Sy) (l:List Int) (b:Sc) (c:Option Addr) (d:Nat),s.bulk i cpu many=aK (a,l)/\ev=aN (aG #[.agg (b.vals a),aA c many d,aB aI 0])/\fO w' w.heap.size a b/\l.length=many/\w'.ownsRow w.heap.size 3 1 (aA c many d) many (l.map vI)/\Below w.heap.size w w')
theorem Zd (v:Sc)(s:Sy)(n:List UInt8)(cpu i many:Nat)(w:World)(hs:lZ w v s)(hk:bQ s)(hf:∀c∈s.cs,c.ns.length<=1000)(hi:s.named n=aK i)(bJ:cpu<s.h.aAh)(hm1:1<=many)(hm2:many<=256)(ho:sS w):
 Calls prog 54 #[aC #[aA v.a1 v.n1 v.c1,aA v.hc.az 2 v.hc.cz,aA v.hc.am 2 v.hc.cm,aB aI (s.h.aAh:Int),aA v.hc.al v.hc.lc.length v.hc.cl,aA v.hc.av s.h.live.length v.hc.cv,aA v.a2 v.ys.length v.c2],aF ⟨n.toArray⟩,aB aI cpu,aB aI many] w (aGs s i cpu many w):=by
 obtain⟨K1,K2,F1,F2,G,hbw⟩:=boxes2 w #[aA v.a1 v.n1 v.c1,aA v.hc.az 2 v.hc.cz,aA v.hc.am 2 v.hc.cm,aB aI (s.h.aAh:Int),aA v.hc.al v.hc.lc.length v.hc.cl,aA v.hc.av s.h.live.length v.hc.cv,aA v.a2 v.ys.length v.c2] 42 #[aA aJ 0 0,aA aJ 0 0,aA aJ 0 0,aB aI 0,aA aJ 0 0,aA aJ 0 0,aA aJ 0 0] 42;have hil:i<s.cs.length:=by
  unfold Sy.named at hi;rw[List.findIdx?_eq_some_iff_getElem]at hi;exact hi.1
 have hs1:=hs.below hbw;have HA:=gO (Eu v s n cpu i _ hs1 hk hf hi bJ);obtain⟨k0,k1,k2,k3,k4,k5,k6⟩:=gA7 K1;have HK:=gO hk;have HB1:=gO hbw;have HK1:=gO K1;have HF1:=gO F1;have HK2:=gO K2;have HF2:=gO F2;have H:w.heap.size<((w.alloc (aO #[aA v.a1 v.n1 v.c1,aA v.hc.az 2 v.hc.cz,aA v.hc.am 2 v.hc.cm,aB aI (s.h.aAh:Int),aA v.hc.al v.hc.lc.length v.hc.cl,aA v.hc.av s.h.live.length v.hc.cv,aA v.a2 v.ys.length v.c2] 42)).alloc (aO #[aA aJ 0 0,aA aJ 0 0,aA aJ 0 0,aB aI 0,aA aJ 0 0,aA aJ 0 0,aA aJ 0 0] 42)).heap.size:=by simp;omega
 have aJQ:¬(many:Int)<1:=by omega
 have aJR:¬(256:Int)<many:=by omega
 clear hs hk hf hi hs1 K1 K2 F1 F2 hbw;go_enter func54,ntmps54
 go_upto_region 1 with fail
 generalize (w.alloc _).alloc _=w1 at*;go_upto_region 6 with (go_at_call 57;refine HA.out.mono ?_;rintro R w2 ⟨d,he,T,u⟩;unfold YM Sc.vals at he;subst he;have K12:=aAp HK1.out H u;have F12:=aAt HF1.out H u;obtain⟨y0,y1,y2,y3,y4,y5,y6⟩:=gA7 K12;obtain⟨f0,f1,f2,f3,f4,f5,f6⟩:=gF7 F12;skip)
 have hw1:w.heap.size<=w1.heap.size:=HB1.out.size;have nH:SR w2 w.heap.size (λk=>k<w.heap.size∨k=w.heap.size+1) s d:=SR.lift T (Nat.lt_of_succ_lt G) (λk hk=>by omega) (by omega);have S:=SS.put7 nH K12 F12;have HS3:=gO S;have aGt:=aAp HK2.out G u;have aGu:=aAt HF2.out G u;have m:w.heap.size+1≠w.heap.size:=by omega
 have aGv:=aAc aGt m 0 (aA d.a1 d.n1 d.c1);have aGw:=aAs aGu ⟨w.heap.size,0,aJ⟩ (aA d.a1 d.n1 d.c1);have aGx:=aAc aGv m 1 (aA d.hc.az 2 d.hc.cz);have aGy:=aAs aGw ⟨w.heap.size,1,aJ⟩ (aA d.hc.az 2 d.hc.cz);have aGz:=aAc aGx m 2 (aA d.hc.am 2 d.hc.cm);have aGA:=aAs aGy ⟨w.heap.size,2,aJ⟩ (aA d.hc.am 2 d.hc.cm);have aGB:=aAc aGz m 3 (aB aI (s.h.aAh:Int));have aGC:=aAs aGA ⟨w.heap.size,3,aJ⟩ (aB aI (s.h.aAh:Int));have aGD:=aAc aGB m 4 (aA d.hc.al d.hc.lc.length d.hc.cl);have aGE:=aAs aGC ⟨w.heap.size,4,aJ⟩ (aA d.hc.al d.hc.lc.length d.hc.cl);have aGF:=aAc aGD m 5 (aA d.hc.av s.h.live.length d.hc.cv);have aGG:=aAs aGE ⟨w.heap.size,5,aJ⟩ (aA d.hc.av s.h.live.length d.hc.cv);have aGH:=aAc aGF m 6 (aA d.a2 d.ys.length d.c2);have aGI:=aAs aGG ⟨w.heap.size,6,aJ⟩ (aA d.a2 d.ys.length d.c2);have HT3:=gO aGH;have HU3:=gO aGI;have HB3:=gO (aAz (Below.trans HB1.out (u.mono hw1)) (gT _) d s);have J:w.heap.size+1<w2.heap.size:=gI G u.size;have Q:(((((((w2.setCell ⟨w.heap.size,0,aJ⟩ (aA d.a1 d.n1 d.c1)).setCell ⟨w.heap.size,1,aJ⟩ (aA d.hc.az 2 d.hc.cz)).setCell ⟨w.heap.size,2,aJ⟩ (aA d.hc.am 2 d.hc.cm)).setCell ⟨w.heap.size,3,aJ⟩ (aB aI (s.h.aAh:Int))).setCell ⟨w.heap.size,4,aJ⟩ (aA d.hc.al d.hc.lc.length d.hc.cl)).setCell ⟨w.heap.size,5,aJ⟩ (aA d.hc.av s.h.live.length d.hc.cv)).setCell ⟨w.heap.size,6,aJ⟩ (aA d.a2 d.ys.length d.c2)).heap.size=w2.heap.size:=by simp
 rw[<- Q]at J;clear K12 F12 y0 y1 y2 y3 y4 y5 y6 f0 f1 f2 f3 f4 f5 f6 nH S T aGt aGv aGx aGz aGB aGD aGF aGH aGu aGw aGy aGA aGC aGE aGG aGI m HA k0 k1 k2 k3 k4 k5 k6 HK1 HF1 HK2 HF2 Q;generalize ((((((w2.setCell _ _).setCell _ _).setCell _ _).setCell _ _).setCell _ _).setCell _ _).setCell _ _=O at*;have hvl:i<d.ys.length:=by
  have h:=congrArg List.length HS3.out.r.cy;simp only[gTe]at h;omega
 have HO3:=gO (ho.below HB3.out);have hog:1<w.heap.size:=ho.sz;clear u HB1 G H hw1;go_wp2_with fail
 go_loopw [13,36] (λs13 s36 wr=>∃(j:Nat) (g:Sy) (l:List Int) (a:Sc) (x:Option Addr) (y:Nat),j<=many/\s36=aB aI (j:Int)/\s13=aA x j y/\Hid (s.bulk i cpu j=aK (g,l))/\l.length=j/\Hid (bQ g)/\g.h.aAh=s.h.aAh/\(∃c,g.cs[i]? =aK c)/\Hid (SS wr w.heap.size (λk=>(k<w.heap.size∨k=w.heap.size+1)∨(aA x j y).ownBlock=aK k) g a)/\Hid (wr.ownsRow O.heap.size 3 1 (aA x j y) j (l.map vI))/\Hid (∀o,wr.cell? ⟨w.heap.size+1,o,aJ⟩=(#[aA aJ 0 0,aA aJ 0 0,aA aJ 0 0,aB aI 0,aA aJ 0 0,aA aJ 0 0,aA aJ 0 0]:Array Value)[o]?)/\Hid (∀o,wr.frozen? ⟨w.heap.size+1,o,aJ⟩=false)/\O.heap.size<=wr.heap.size/\Hid (Below w.heap.size w wr)) (λ_ s36 _=>many-(intOf s36).toNat)
 case atStart=>
  exact⟨0,s,[],d,aJ,0,gU _,rfl,rfl,rfl,rfl,HK,rfl,⟨_,gJ hil⟩,HS3.out.sub (λk hk=>hk.resolve_right (by simp[gTh])),World.ownsRow_nil _ _ _ _,HT3,HU3,gT _,HB3⟩
 case round=>
  obtain⟨j,g,l,a,x,y,hj,rfl,rfl,Vq,hlj,BA,aGJ,hcj,E,z,L,RI,V,rM⟩:=hrel;by_cases N:j<many
  ·have hji:(j:Int)<many:=by omega
   obtain⟨c,hc⟩:=hcj;have hiv:i<a.ys.length:=by
    have h:=congrArg List.length E.out.r.cy;simp only[gTe]at h;have h2:=(gK.1 hc).1;omega
   have Ze:cpu<g.h.aAh:=by omega
   have P:=Ug a g w.heap.size i cpu (λk=>(k<w.heap.size∨k=w.heap.size+1)∨(aA x j y).ownBlock=aK k) wr E.out BA.out hiv Ze (ho.below rM.out) (.inl (.inl hog)) (BA.out.chosen hc Ze);have f:w.heap.size<=w.heap.size+1:=Nat.le_succ _;have I:w.heap.size+1<wr.heap.size:=gI J V;cases hone:g.one i cpu with
   | none=>
    have HBN:Hid (s.bulk i cpu many=aJ):=Jl Vq.out hone many N;have HC:Hid (Calls prog 107 #[aH (aK ⟨w.heap.size,0,aJ⟩),aB aI i,aB aI cpu] wr λR w'=>R=aN (aG #[aB aI 0,aB aI 6])/\Below wr.heap.size wr w'):=by
     refine P.mono ?_;rintro R w' (⟨_,h,hb⟩ | ⟨s'',b,D,h,_⟩)
     ·exact⟨h,hb⟩
     ·rw[hone]at h;cases h
    clear P hone E z BA Vq;go_wp2_with (go_at_call 107;refine HC.out.mono ?_;rintro R F ⟨rfl,hb5⟩;have A:=aAp L.out I hb5;have FT:=aAt RI.out I hb5;obtain⟨y0,y1,y2,y3,y4,y5,y6⟩:=gA7 A;obtain⟨f0,f1,f2,f3,f4,f5,f6⟩:=gF7 FT;skip)
    have KX:=(aAr (aAr (aAr (aAr (aAr (aAr (aAr A 0 (aA aJ 0 0)) 1 (aA aJ 0 0)) 2 (aA aJ 0 0)) 3 (aB aI 0)) 4 (aA aJ 0 0)) 5 (aA aJ 0 0)) 6 (aA aJ 0 0))
    simp only[gE,gG,gH]at KX;have jA:=gO (gS (gS (gS (gS (gS (gS (gS (gW rM.out hb5) (w.heap.size+1) 0 f (aA aJ 0 0)) (w.heap.size+1) 1 f (aA aJ 0 0)) (w.heap.size+1) 2 f (aA aJ 0 0)) (w.heap.size+1) 3 f (aB aI 0)) (w.heap.size+1) 4 f (aA aJ 0 0)) (w.heap.size+1) 5 f (aA aJ 0 0)) (w.heap.size+1) 6 f (aA aJ 0 0));clear y0 y1 y2 y3 y4 y5 y6 f0 f1 f2 f3 f4 f5 f6 A FT;generalize ((((((F.setCell _ _).setCell _ _).setCell _ _).setCell _ _).setCell _ _).setCell _ _).setCell _ _=wx at*;refine bodyPost_ret (v:=aG #[aC #[aA aJ 0 0,aA aJ 0 0,aA aJ 0 0,aB aI 0,aA aJ 0 0,aA aJ 0 0,aA aJ 0 0],aA aJ 0 0,aB aI 6]) (by simp[results,results54,go_sem,KX]) rfl (.inl ⟨HBN.out,rfl,jA.out⟩)
   | some r=>
    obtain⟨t,b⟩:=r;have HC:Hid (Calls prog 107 #[aH (aK ⟨w.heap.size,0,aJ⟩),aB aI i,aB aI cpu] wr λR w'=>∃D,R=aN (aG #[aB aI b,aB aI 0])/\SS w' w.heap.size (λk=>(k<w.heap.size∨k=w.heap.size+1)∨(aA x j y).ownBlock=aK k) t D/\Safe (λk=>(k<w.heap.size∨k=w.heap.size+1)∨(aA x j y).ownBlock=aK k) wr w'):=by
     refine P.mono ?_;rintro R w' (⟨h,_⟩ | ⟨s'',b',D,h,h1,h2,h3,_⟩)
     ·rw[hone]at h;cases h
     ·rw[hone]at h;obtain⟨rfl,rfl⟩:t=s''/\b=b':=by simpa using h
      exact⟨D,h1,h2,h3⟩
    obtain⟨hkt,hct,hlt',aJS⟩:=BA.out.one hc Ze hone;have HKT:=gO hkt;have HBK1:=gO (Wi Vq.out hone);have aJT:t.h.aAh=s.h.aAh:=hct.trans aGJ;clear P hone E BA Vq hkt hct;go_upto_region 12 with (go_at_call 107;refine HC.out.mono ?_;rintro R F ⟨D,rfl,hs5,B⟩)
    have HR5:Hid (F.ownsRow O.heap.size 3 1 (aA x j y) j (l.map vI)):=sZ z.out λk hk N=>B.block k N (.inr hk)
    have HT5:=gO (B.box L.out I (.inl (.inr rfl)));have HU5:=gO (B.Xe RI.out I (.inl (.inr rfl)));have HB5:Hid (Below w.heap.size w F):=Safe.after rM.out B (λk hk=> .inl (.inl hk)) rM.out.size;have HS5:=gO hs5;have hw5:O.heap.size<=F.heap.size:=gQ V B.size;clear hs5 B z L RI rM HC;have ba:=aAq F (aO #[aB aI b] 3);have HS6:=gO (HS5.out.below ba);have M:Hid ((F.alloc (aO #[aB aI b] 3)).ownsRow O.heap.size 3 1 (aA x j y) j (l.map vI)):=own_below HR5.out ba (gT _);have ht5:w.heap.size+1<F.heap.size:=gI J hw5;have HT6:=gO (aAp HT5.out ht5 ba);have HU6:=gO (aAt HU5.out ht5 ba);have W:=gO (gW HB5.out ba);have U:O.heap.size<=(F.alloc (aO #[aB aI b] 3)).heap.size:=gQ hw5 ba.size;have hnw:=(World.news_of_block (heap_alloc_new F (aO #[aB aI b] 3)))
    have zF:=gO hnw;obtain⟨ti,hti,htz,hts,htb⟩:=info_parts lM;have hjm:j<=256:=by omega
    have ht6:w.heap.size+1<(F.alloc (aO #[aB aI b] 3)).heap.size:=gI J U;clear ba hnw HS5 HR5 HT5 HU5 HB5;go_wp2_with (at_builtin;refine wpList_append_lies _ rfl _ _ 34 rfl O.heap.size 3 ti (aB aI 0) 1 8 underlying34 hti htz hts htb rfl (by decide) (aA x j y) j (l.map vI) rfl M.out ⟨F.heap.size,0,aJ⟩ 1 1 [aB aI b] rfl rfl zF.out (by simp[Value.oneCell']) (by decide) (by unfold maxLen;omega) (by omega) U _ rfl ?_;intro g7 K w7 ho7 C hl7 lN)
    have X:aK (w.heap.size+1)≠(aA x j y).ownBlock:=λe=>by
     have:=(M.out.lt _ e.symm).1;omega
    have HS7:=gO (HS6.out.out (Z:=λk=>(k<w.heap.size∨k=w.heap.size+1)∨(aA (aK ⟨g7,0,aJ⟩) (j+1) K).ownBlock=aK k) C (λk e=> .inr e) (λk hk=>by
     rcases hk with h | h
     ·exact .inl (.inl h)
     ·obtain rfl:g7=k:=by simpa[gTh]using h
      rcases hl7 with h1 | h1
      ·exact .inl (.inr h1)
      ·exact .inr ⟨Nat.le_of_eq h1.symm,lN⟩))
    have HR7:Hid (w7.ownsRow O.heap.size 3 1 (aA (aK ⟨g7,0,aJ⟩) (j+1) K) (j+1) ((l++[b]).map vI)):=by
     unfold Hid;rw[List.map_append];exact ho7
    have HT7:=gO (bD HT6.out ht6 C X);have HU7:=gO (bG HU6.out ht6 C X);have HB7:Hid (Below w.heap.size w w7):=Below.grown W.out C W.out.size λk e=>by
     have:=(M.out.lt k e).1;omega
    have hw7:O.heap.size<=w7.heap.size:=gQ U C.size;have aJU:(l++[b]).length=j+1:=by simp[hlj]
    clear ho7 C hl7 lN HS6 M HT6 HU6 W zF X;go_wp2
    go_roundw
    case rel=>exact⟨j+1,t,l++[b],D,aK ⟨g7,0,aJ⟩,K,by omega,by go_num,by first | rfl | trivial,HBK1,aJU,HKT,aJT,aJS,HS7,HR7,HT7,HU7,hw7,HB7⟩
    case measure=>simp[intOf];omega
  ·obtain rfl:j=many:=by omega
   have f:w.heap.size<=w.heap.size+1:=Nat.le_succ _;have I:w.heap.size+1<wr.heap.size:=gI J V;have A:=L.out;have q:(aA x j y).ownBlock≠aK (w.heap.size+1):=λe=>by
    have:=(z.out.lt _ e).1;omega
   have x0:=E.out.k 0;have x1:=E.out.k 1;have x2:=E.out.k 2;have x3:=E.out.k 3;have x4:=E.out.k 4;have x5:=E.out.k 5;have x6:=E.out.k 6;unfold Sc.vals at x0 x1 x2 x3 x4 x5 x6;have y0:=A 0;have y1:=A 1;have y2:=A 2;have y3:=A 3;have y4:=A 4;have y5:=A 5;have y6:=A 6;obtain⟨f0,f1,f2,f3,f4,f5,f6⟩:=gF7 RI.out;simp only[gB,gC,gD]at x0 x1 x2 x3 x4 x5 x6 y0 y1 y2 y3 y4 y5 y6;have KX:=(CU A a g)
   have p:(λk=>(k<w.heap.size∨k=w.heap.size+1)∨(aA x j y).ownBlock=aK k) (w.heap.size+1):= .inl (.inr rfl);have A0:=E.out;have B0:=z.out;have A1:=A0.dD p 0 (aA a.a1 a.n1 a.c1);have B1:=bC (i:=0) B0 q (aA a.a1 a.n1 a.c1);have A2:=A1.dD p 1 (aA a.hc.az 2 a.hc.cz);have B2:=bC (i:=1) B1 q (aA a.hc.az 2 a.hc.cz);have A3:=A2.dD p 2 (aA a.hc.am 2 a.hc.cm);have B3:=bC (i:=2) B2 q (aA a.hc.am 2 a.hc.cm);have A4:=A3.dD p 3 (aB aI (g.h.aAh:Int));have B4:=bC (i:=3) B3 q (aB aI (g.h.aAh:Int));have A5:=A4.dD p 4 (aA a.hc.al a.hc.lc.length a.hc.cl);have B5:=bC (i:=4) B4 q (aA a.hc.al a.hc.lc.length a.hc.cl);have A6:=A5.dD p 5 (aA a.hc.av g.h.live.length a.hc.cv);have B6:=bC (i:=5) B5 q (aA a.hc.av g.h.live.length a.hc.cv);have A7:=A6.dD p 6 (aA a.a2 a.ys.length a.c2);have B7:=bC (i:=6) B6 q (aA a.a2 a.ys.length a.c2);have oI:=gO (A7.sub (Y:=λk=>k<w.heap.size) (λk hk=> .inl (.inl hk))).r;have HRX:=gO (own_base B7 HB3.out.size);clear A0 A1 A2 A3 A4 A5 A6 A7 B0 B1 B2 B3 B4 B5 B6 B7 p;have jA:=gO (aAz rM.out f a g);clear A L RI z hcj;have HLJ:=gO hlj;clear hlj aGJ N hj aJQ aJR;go_wp2_with fail
   generalize ((((((wr.setCell _ _).setCell _ _).setCell _ _).setCell _ _).setCell _ _).setCell _ _).setCell _ _=wx at*;refine bodyPost_ret (v:=aG #[aC #[aA a.a1 a.n1 a.c1,aA a.hc.az 2 a.hc.cz,aA a.hc.am 2 a.hc.cm,aB aI (g.h.aAh:Int),aA a.hc.al a.hc.lc.length a.hc.cl,aA a.hc.av g.h.live.length a.hc.cv,aA a.a2 a.ys.length a.c2],aA x j y,aB aI 0]) (by simp[results,results54,go_sem,KX]) rfl (.inr ⟨g,l,a,x,y,Vq.out,rfl,oI.out,HLJ.out,HRX.out,jA.out⟩)
theorem Zu {α:Type}{q:α->Bool}:∀{l:List α},(∀i j (hi:i<l.length) (hj:j<l.length),i<j->q l[j]=true->q l[i]=true)->∀k (hk:k<l.length),k<(l.takeWhile q).length↔q l[k]=true
 | [],_,k,hk=>by simp at hk
 | a::l,h,k,hk=>by
  by_cases ha:q a=true
  ·rw[List.takeWhile_cons_of_pos ha];cases k with
   | zero=>simpa using ha
   | succ k=>
    have ih:=Zu (l:=l) (λi j hi hj c b=>h (i+1) (j+1) (by simpa using hi) (by simpa using hj) (by omega) b) k (by simpa using hk);simpa using ih
  ·rw[List.takeWhile_cons_of_neg ha];cases k with
   | zero=>simpa using ha
   | succ k=>
    simp only[List.length_nil,Nat.not_lt_zero,false_iff,List.getElem_cons_succ];intro b;exact ha (h 0 (k+1) (by simp) hk (by omega) b)
theorem aBm {l:List (List UInt8)}(hl:l.Pairwise λa b=>Go.Op.bytesLess a b=true)(hk:k<l.length):k<Dk l v↔Go.Op.bytesLess l[k] v=true:=
 Zu (q:=λx=>Go.Op.bytesLess x v) (λi j f e c d=>ES (gN.1 hl i j f e c) d) k hk
theorem Zv (l:List (List UInt8))(v:List UInt8):Dk l v<=l.length:=(List.takeWhile_sublist _).length_le
theorem Wu {x y:List UInt8}(w:World){b:Bool}(h:Go.Op.bytesLess x y=b):(binOp .lss 9 (aF ⟨x.toArray⟩) (aF ⟨y.toArray⟩)).run prog w= .ok (.bool b) w:=by
 simp[binOp,Go.Op.stringOp];exact h
theorem Jp (x:List UInt8)(w:World):(binOp .neq 9 (aF ⟨x.toArray⟩) (aF ⟨x.toArray⟩)).run prog w= .ok (.bool false) w:=by
 simp[binOp,Go.Op.stringOp]
theorem aBn (x:List UInt8)(w:World):Calls prog 150 #[aF ⟨x.toArray⟩] w λev w'=>ev=aN (.bool false)/\w=w':=by
 have h:=Jp x w;go_enter func150,ntmps150
 go_wp2
 go_ret
 exact⟨rfl,rfl⟩
theorem Uj (x:List UInt8)(w:World):Calls prog 131 #[aF ⟨x.toArray⟩] w λev w'=>ev=aN (.bool false)/\w=w':=by
 have h:=Jp x w;go_enter func131,ntmps131
 go_wp2
 go_ret
 exact⟨rfl,rfl⟩
theorem OX (x y:List UInt8)(w:World):Calls prog 130 #[aF ⟨x.toArray⟩,aF ⟨y.toArray⟩] w λev w'=>ev=aN (.bool (Go.Op.bytesLess x y))/\w=w':=by
 have h:=Wu (x:=x) (y:=y) w rfl;go_enter func130,ntmps130
 go_wp2_with (go_at_call 150;refine(aBn x _).mono ?_;rintro ev w' ⟨rfl,rfl⟩)
 go_ret
 exact⟨rfl,rfl⟩
def aKm (l:List (List UInt8))(v:List UInt8)(w:World)(e:Ending)(w':World):Prop:=∃b:Bool,e=aN (aG #[aB aI (Dk l v:Int),.bool b])/\w=w'
theorem aBo (a:Option Addr)(n cap:Nat)(l:List (List UInt8))(v:List UInt8)(w:World)(hn:l.length=n)(hl:n<=1000)(hr:Row w a (flat encS l))(hrise:l.Pairwise λa b=>Go.Op.bytesLess a b=true):
 Calls prog 101 #[aA a n cap,aF ⟨v.toArray⟩] w (aKm l v w):=by
 subst hn;have s:=Zv l v;go_enter func101,ntmps101
 go_wp2
 go_loopw [7,8,9] (λr p _ wr=>wr=w/\∃i j:Nat,i<=Dk l v/\Dk l v<=j/\j<=l.length/\r=aB aI i/\p=aB aI j) (λr p _ _=>(intOf p).toNat-(intOf r).toNat)
 case atStart=>exact⟨rfl,0,l.length,gU _,s,gT _,rfl,rfl⟩
 case round=>
  obtain⟨rfl,i,j,C,x,E,rfl,rfl⟩:=hrel;by_cases u:i<j
  ·have t:(i+j)/2<l.length:=by omega
   have d:=gO (aBm hrise (v:=v) t);obtain⟨b,off,rfl,hb,g⟩:=aAw bF (by decide) hr t;have e:=qA g;rw[Nat.mul_one]at e;clear hr g;generalize l[(i+j)/2]=y at*;cases hb2:Go.Op.bytesLess y v with
   | true=>
    have B:=d.out.2 hb2;have f:=gO (OX y v wr);rw[hb2]at f;clear hb2;go_wp2_with (go_at_call 130;refine f.out.mono ?_;rintro q o ⟨rfl,rfl⟩)
    go_roundw
    case rel=>exact⟨by first | rfl | trivial,(i+j)/2+1,j,by omega,x,E,by go_num,rfl⟩
    case measure=>simp[intOf];omega
   | false=>
    have B:¬(i+j)/2<Dk l v:=λh=>by rw[d.out.1 h]at hb2;cases hb2
    have f:=gO (OX y v wr);rw[hb2]at f;clear hb2;go_wp2_with (go_at_call 130;refine f.out.mono ?_;rintro q o ⟨rfl,rfl⟩)
    go_roundw
    case rel=>exact⟨by first | rfl | trivial,i,(i+j)/2,C,by omega,by omega,rfl,by go_num⟩
    case measure=>simp[intOf];omega
  ·obtain rfl:i=Dk l v:=by omega
   have z:(Dk l v:Int)<=l.length:=by omega
   by_cases A:Dk l v<l.length
   ·obtain⟨b,off,rfl,hb,g⟩:=aAw bF (by decide) hr A;have e:=qA g;rw[Nat.mul_one]at e;have m:(Dk l v:Int)<l.length:=by omega
    clear hr g;generalize l[Dk l v]=y at*;generalize c:Dk l v=K at*;have k:=gO c;clear c;cases hvx:y == v with
    | true=>
     have D:=(bytes_eq y v).trans hvx;go_wp2_with (go_at_call 131;refine(Uj _ _).mono ?_;rintro q o ⟨rfl,rfl⟩)
     exact bodyPost_ret (v:=aG #[aB aI (K:Int),.bool true]) (by simp[results,results101,go_sem]) rfl ⟨true,by rw[k.out],rfl⟩
    | false=>
     have D:=(bytes_eq y v).trans hvx;go_wp2_with (go_at_call 131;refine(Uj _ _).mono ?_;rintro q o ⟨rfl,rfl⟩)
     exact bodyPost_ret (v:=aG #[aB aI (K:Int),.bool false]) (by simp[results,results101,go_sem]) rfl ⟨false,by rw[k.out],rfl⟩
   ·have m:¬(Dk l v:Int)<l.length:=by omega
    clear hr;generalize c:Dk l v=K at*;have k:=gO c;clear c;go_wp2
    exact bodyPost_ret (v:=aG #[aB aI (K:Int),.bool false]) (by simp[results,results101,go_sem]) rfl ⟨false,by rw[k.out],rfl⟩
end Go.Proofs.YtjaogfhcnmjkiaaGreatDoor
