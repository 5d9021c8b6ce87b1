/- joined. -/
import Derived.Test.YtjaogfhcnmjkiaaGreatDoorSG12
import Derived.Test.YtjaogfhcnmjkiaaGreatDoorSG13
set_option linter.all false
set_option maxRecDepth 100000
set_option maxHeartbeats 0
namespace Go.Proofs.YtjaogfhcnmjkiaaGreatDoor
open Go.RowKit
open Go.Value renaming slice->aA,int->aB,agg->aC,string->aF,tuple->aG,pointer->aH,ownBlock->gTh
open Go.IntKind renaming i64->aI
open Option renaming none->aJ,some->aK
open Go.Ending renaming returned->aN
open Go.Obj renaming cells->aO
open Go.Proofs.Tryz
variable {a am:Option Addr}{h:Hp}{hc:Hc}{xs:List Int}
section
variable {W W' W1 Wm We:World}{G:Nat}{X Y:Nat->Prop}{s s':Sy}{v v':Sc}
theorem SR.start {n c:Nat}(ho:W.ownsRow 0 3 1 (aA a n c) n (xs.map vI))(hr:HR W G X h hc)(hg:∀g,(aA a n c).ownBlock=aK g->g≠G/\¬X g/\∀q∈hc.rows h++hc.reads h,q.v.ownBlock≠aK g):
 SR W G X ⟨xs,h,[]⟩ ⟨a,n,c,hc,aJ,0,[]⟩:=by
 have i:∀g,(nJ ⟨a,n,c,hc,aJ,0,[]⟩).v.ownBlock≠aK g:=λg e=>by cases e
 refine⟨⟨λr b=> ?_,?_⟩,λr b g d=> ?_,hr,λr b q j g d f=> ?_,rfl⟩
 ·rcases gY.1 b with rfl | b
  ·exact ho
  ·obtain rfl:r=nJ ⟨a,n,c,hc,aJ,0,[]⟩:=by simpa using b
   exact World.ownsRow_nil _ _ _ _
 ·show[_,_].Pairwise _;simp only[List.pairwise_cons,gTa,forall_eq,List.not_mem_nil,false_imp_iff,implies_true,List.Pairwise.nil,and_true];exact λg d f=>i g f
 ·rcases gY.1 b with rfl | b
  ·exact⟨(hg g d).1,(hg g d).2.1⟩
  ·obtain rfl:r=nJ ⟨a,n,c,hc,aJ,0,[]⟩:=by simpa using b
   exact absurd d (i g)
 ·rcases gY.1 b with rfl | b
  ·exact(hg g d).2.2 q j f
  ·obtain rfl:r=nJ ⟨a,n,c,hc,aJ,0,[]⟩:=by simpa using b
   exact absurd d (i g)
theorem FP {lH bm be ge n:Nat}{cm:Nat}(Eh:Wm.ownsRow bm 3 1 (aA am n cm) n (xs.map vI))(hse:HS We ge (λk=>k<be) h hc)(h1:lH<=bm)(h2:Wm.heap.size<=be)(h3:Wm.heap.size<=We.heap.size)(h4:lH<=be)(hbm:Below Wm.heap.size Wm W)(hbe:Below We.heap.size We W)(hG:lH<=G/\G<W.heap.size)(hg:G<bm∨(Wm.heap.size<=G/\G<be)∨We.heap.size<=G)(hg2:G<be∨We.heap.size<=G):
 SR W G (λk=>k<lH) ⟨xs,h,[]⟩ ⟨am,n,cm,hc,aJ,0,[]⟩:=by
 have b:=hse.r.below hbe;have a:∀q∈hc.rows h++hc.reads h,∀k,q.v.ownBlock=aK k->be<=k/\k<We.heap.size:=λq a k e=>by
  refine⟨?_,hse.r.lt q a k e⟩;rcases gZ.1 a with a | a
  ·exact Nat.le_of_not_lt (hse.r.og q a k e).2
  ·exact Nat.le_of_not_lt (hse.r.rx q a k e)
 refine SR.start (own_base (own_below Eh hbm (gT _)) (gU _)) (b.any hG.2 (λq h k e=> ?_) (λk d=>by omega) (by omega)) λg e=> ?_
 ·have:=a q h k e;omega
 ·have:=Eh.lt g e;refine⟨by omega,by omega,λq h c=> ?_⟩;have:=a q h g c;omega
theorem SS.put7 (hr:SR W G X s v){a0 a1 a2 a3 a4 a5 a6:Value}(K:∀o,W.cell? ⟨G,o,aJ⟩=(#[a0,a1,a2,a3,a4,a5,a6]:Array Value)[o]?)(F:∀o,W.frozen? ⟨G,o,aJ⟩=false):
 SS (((((((W.setCell ⟨G,0,aJ⟩ (aA v.a1 v.n1 v.c1)).setCell ⟨G,1,aJ⟩ (aA v.hc.az 2 v.hc.cz)).setCell ⟨G,2,aJ⟩ (aA v.hc.am 2 v.hc.cm)).setCell ⟨G,3,aJ⟩ (aB aI (s.h.aAh:Int))).setCell ⟨G,4,aJ⟩ (aA v.hc.al v.hc.lc.length v.hc.cl)).setCell ⟨G,5,aJ⟩ (aA v.hc.av s.h.live.length v.hc.cv)).setCell ⟨G,6,aJ⟩ (aA v.a2 v.ys.length v.c2)) G X s v:=by
 have c:=aAs F ⟨G,0,aJ⟩ (aA v.a1 v.n1 v.c1);have f:=aAs c ⟨G,1,aJ⟩ (aA v.hc.az 2 v.hc.cz);have k:=aAs f ⟨G,2,aJ⟩ (aA v.hc.am 2 v.hc.cm);have g:=aAs k ⟨G,3,aJ⟩ (aB aI (s.h.aAh:Int));have p:=aAs g ⟨G,4,aJ⟩ (aA v.hc.al v.hc.lc.length v.hc.cl);have m:=aAs p ⟨G,5,aJ⟩ (aA v.hc.av s.h.live.length v.hc.cv);have e:=aAs m ⟨G,6,aJ⟩ (aA v.a2 v.ys.length v.c2);have b:=aAr K 0 (aA v.a1 v.n1 v.c1);have d:=aAr b 1 (aA v.hc.az 2 v.hc.cz);have n:=aAr d 2 (aA v.hc.am 2 v.hc.cm);have i:=aAr n 3 (aB aI (s.h.aAh:Int));have l:=aAr i 4 (aA v.hc.al v.hc.lc.length v.hc.cl);have j:=aAr l 5 (aA v.hc.av s.h.live.length v.hc.cv);have a:=aAr j 6 (aA v.a2 v.ys.length v.c2);simp only[gE,gG,gH]at a;exact⟨((((((hr.fE 0 _).fE 1 _).fE 2 _).fE 3 _).fE 4 _).fE 5 _).fE 6 _,a,e⟩
end
theorem Uc:(prog.info? 67).map (λi=>(i.zero,i.size,i.bytes))=aK (aK (aC #[aA aJ 0 0,aB aI 0,aB aI 0,aB aI 0,aA aJ 0 0,aA aJ 0 0]),6,96):=by kernel_rfl
theorem oJ (v:Sc)(s:Sy)(w:World)(hs:lZ w v s)(hk:bQ s)(hf:∀c∈s.cs,c.ns.length<=1000):
 Calls prog 12 #[aC #[aA v.a1 v.n1 v.c1,aA v.hc.az 2 v.hc.cz,aA v.hc.am 2 v.hc.cm,aB aI (s.h.aAh:Int),aA v.hc.al v.hc.lc.length v.hc.cl,aA v.hc.av s.h.live.length v.hc.cv,aA v.a2 v.ys.length v.c2]] w λev w'=>∃v',ev=aN (.agg (v'.vals s))/\fO w' w.heap.size s v'/\Below w.heap.size w w':=by
 obtain⟨K1,K2,F1,F2,m,hbw⟩:=boxes2 w #[aA v.a1 v.n1 v.c1,aA v.hc.az 2 v.hc.cz,aA v.hc.am 2 v.hc.cm,aB aI (s.h.aAh:Int),aA v.hc.al v.hc.lc.length v.hc.cl,aA v.hc.av s.h.live.length v.hc.cv,aA v.a2 v.ys.length v.c2] 42 #[aA aJ 0 0,aA aJ 0 0,aA aJ 0 0,aB aI 0,aA aJ 0 0,aA aJ 0 0,aA aJ 0 0] 42;have Ud:=gO hs.lw;have hn1:v.n1<=4096:=by rw[<- hs.lw,hk.wl];omega
 have HS:=gO hs;have HK:=gO hk;have HHK:=gO hk.hk;have C:=gO hbw;have La:s.h.live.length<=1000:=gQ hk.hk.iU (by decide);have hyl:v.ys.length<=20:=by have:=congrArg List.length hs.cy;rw[gTe]at this;rw[this];exact hk.cl
 have aF4:Hid (((w.alloc (aO #[aA v.a1 v.n1 v.c1,aA v.hc.az 2 v.hc.cz,aA v.hc.am 2 v.hc.cm,aB aI (s.h.aAh:Int),aA v.hc.al v.hc.lc.length v.hc.cl,aA v.hc.av s.h.live.length v.hc.cv,aA v.a2 v.ys.length v.c2] 42)).alloc (aO #[aA aJ 0 0,aA aJ 0 0,aA aJ 0 0,aB aI 0,aA aJ 0 0,aA aJ 0 0,aA aJ 0 0] 42)).heap.size=w.heap.size+2):=by unfold Hid;simp
 clear hs hk;go_enter func12,ntmps12
 go_upto_region 1 with fail
 generalize (w.alloc _).alloc _=w1 at*;have q1:Row w1 v.a1 (flat encI s.w):=by rw[nR];exact(HS.out.below C.out).rw
 have HHH:=gO (HS.out.below C.out).hh;have LK0:∀W,Below w1.heap.size w1 W->∀o,W.cell? ⟨w.heap.size,o,aJ⟩=(#[aA v.a1 v.n1 v.c1,aA v.hc.az 2 v.hc.cz,aA v.hc.am 2 v.hc.cm,aB aI (s.h.aAh:Int),aA v.hc.al v.hc.lc.length v.hc.cl,aA v.hc.av s.h.live.length v.hc.cv,aA v.a2 v.ys.length v.c2]:Array Value)[o]? :=λW h o=>aAp K1 (by omega) h o
 go_cut [3] (λs3 wx=>∃(g:Nat) (a1':Option Addr) (c1':Nat) (d:Hc),s3=aH (aK ⟨g,0,aJ⟩)/\Hid (SS wx g (λk=>k<w1.heap.size) {s with cs:=[]} ⟨a1',v.n1,c1',d,aJ,0,[]⟩)/\Hid (Below w1.heap.size w1 wx))
 case first=>
  go_region_held3 (λW=>Below w1.heap.size w1 W) ((repeat (first | with_reducible assumption | with_reducible exact gX _ _ | with_reducible refine Below.setCell ?_ ?_ _ | with_reducible apply Below.drew | with_reducible refine gW ?_ (aAq _ _) | with_reducible refine gW ?_ (by with_reducible assumption) | (simp only;omega)))) (first | (go_at_call 35;refine(YE _ v.n1 _ s.w _ Ud.out (by omega) (q1.below (by assumption))).mono ?_;rintro e D ⟨VN,VO,rfl,Eh,hbm⟩;(try ((have hx:Below ((w1.alloc (.cells (#[aA aJ 0 0,aA aJ 0 0,aA aJ 0 0,aB aI 0,aA aJ 0 0,aA aJ 0 0,aA aJ 0 0]:Array Value) 42)).drew).heap.size ((w1.alloc (.cells (#[aA aJ 0 0,aA aJ 0 0,aA aJ 0 0,aB aI 0,aA aJ 0 0,aA aJ 0 0,aA aJ 0 0]:Array Value) 42)).drew) D:=by with_reducible exact hbm);have KA:=aAp (w1:=((w1.alloc (.cells (#[aA aJ 0 0,aA aJ 0 0,aA aJ 0 0,aB aI 0,aA aJ 0 0,aA aJ 0 0,aA aJ 0 0]:Array Value) 42)).drew)) (vs:=#[aA aJ 0 0,aA aJ 0 0,aA aJ 0 0,aB aI 0,aA aJ 0 0,aA aJ 0 0,aA aJ 0 0]) (λo=>aQ w1 #[aA aJ 0 0,aA aJ 0 0,aA aJ 0 0,aB aI 0,aA aJ 0 0,aA aJ 0 0,aA aJ 0 0] 42 o) (show w1.heap.size<((w1.alloc (.cells (#[aA aJ 0 0,aA aJ 0 0,aA aJ 0 0,aB aI 0,aA aJ 0 0,aA aJ 0 0,aA aJ 0 0]:Array Value) 42)).drew).heap.size by simp) hx;have FA:=aAt (w1:=((w1.alloc (.cells (#[aA aJ 0 0,aA aJ 0 0,aA aJ 0 0,aB aI 0,aA aJ 0 0,aA aJ 0 0,aA aJ 0 0]:Array Value) 42)).drew)) (λo=>eG w1 #[aA aJ 0 0,aA aJ 0 0,aA aJ 0 0,aB aI 0,aA aJ 0 0,aA aJ 0 0,aA aJ 0 0] 42 o) (show w1.heap.size<((w1.alloc (.cells (#[aA aJ 0 0,aA aJ 0 0,aA aJ 0 0,aB aI 0,aA aJ 0 0,aA aJ 0 0,aA aJ 0 0]:Array Value) 42)).drew).heap.size by simp) hx;have U:w1.heap.size<D.heap.size:=gI (show w1.heap.size<((w1.alloc (.cells (#[aA aJ 0 0,aA aJ 0 0,aA aJ 0 0,aB aI 0,aA aJ 0 0,aA aJ 0 0,aA aJ 0 0]:Array Value) 42)).drew).heap.size by simp) hx.size));(first | have SM:w1.heap.size<=D.heap.size:=gR U | have SM:w1.heap.size<=D.heap.size:=hbm.size)) | (go_at_call 36;refine(AO _ _ _ _ v.hc.cz v.hc.cm v.hc.cl v.hc.cv _ _ _ _ _ s.h _ (HHH.out.below (by assumption)) HHK.out La).mono ?_;rintro e we ⟨ge,d,he,hse,hge,f⟩;unfold Hc.vals at he;subst he;(try first | (have KB:=aAp KA U f;have FB:=aAt FA U f) | ((have hx:Below (D.alloc (.cells (#[aA aJ 0 0,aA aJ 0 0,aA aJ 0 0,aB aI 0,aA aJ 0 0,aA aJ 0 0,aA aJ 0 0]:Array Value) 42)).heap.size (D.alloc (.cells (#[aA aJ 0 0,aA aJ 0 0,aA aJ 0 0,aB aI 0,aA aJ 0 0,aA aJ 0 0,aA aJ 0 0]:Array Value) 42)) we:=by with_reducible exact f);have KB:=aAp (w1:=(D.alloc (.cells (#[aA aJ 0 0,aA aJ 0 0,aA aJ 0 0,aB aI 0,aA aJ 0 0,aA aJ 0 0,aA aJ 0 0]:Array Value) 42))) (vs:=#[aA aJ 0 0,aA aJ 0 0,aA aJ 0 0,aB aI 0,aA aJ 0 0,aA aJ 0 0,aA aJ 0 0]) (λo=>aQ D #[aA aJ 0 0,aA aJ 0 0,aA aJ 0 0,aB aI 0,aA aJ 0 0,aA aJ 0 0,aA aJ 0 0] 42 o) (show D.heap.size<(D.alloc (.cells (#[aA aJ 0 0,aA aJ 0 0,aA aJ 0 0,aB aI 0,aA aJ 0 0,aA aJ 0 0,aA aJ 0 0]:Array Value) 42)).heap.size by simp) hx;have FB:=aAt (w1:=(D.alloc (.cells (#[aA aJ 0 0,aA aJ 0 0,aA aJ 0 0,aB aI 0,aA aJ 0 0,aA aJ 0 0,aA aJ 0 0]:Array Value) 42))) (λo=>eG D #[aA aJ 0 0,aA aJ 0 0,aA aJ 0 0,aB aI 0,aA aJ 0 0,aA aJ 0 0,aA aJ 0 0] 42 o) (show D.heap.size<(D.alloc (.cells (#[aA aJ 0 0,aA aJ 0 0,aA aJ 0 0,aB aI 0,aA aJ 0 0,aA aJ 0 0,aA aJ 0 0]:Array Value) 42)).heap.size by simp) hx))))
  all_goals (go_wp2_with fail;go_meet)
  ·rw[nR]at Eh;have L:=FP (W:=we.alloc (aO #[aA VN v.n1 VO,aA d.az 2 d.cz,aA d.am 2 d.cm,aB aI (s.h.aAh:Int),aA d.al d.lc.length d.cl,aA d.av s.h.live.length d.cv,aA aJ 0 0] 42)) (G:=we.heap.size) (lH:=w1.heap.size) Eh hse (gT _) (gT _) f.size SM (gW f (aAq _ _)) (aAq _ _) ⟨gQ SM f.size,by simp⟩ (.inr (.inr (gT _))) (.inr (gT _));exact⟨we.heap.size,VN,VO,d,rfl,⟨L,aQ _ _ _,eG _ _ _⟩,by assumption⟩
  ·rw[nR]at Eh;have hs:=f.size;simp at hs;have L:=FP (W:=we) (G:=D.heap.size) (lH:=w1.heap.size) Eh hse (gT _) (by simp) (by omega) (by simp;omega) (gW (aAq _ _) f) (gX _ _) ⟨SM,by omega⟩ (.inr (.inl ⟨gT _,by simp⟩)) (.inl (by simp));have N:=SS.put7 L KB FB;refine⟨D.heap.size,VN,VO,d,rfl,?_,by assumption⟩;exact N
  ·rw[nR]at Eh;have hs:=f.size;have L:=FP (W:=we) (G:=w1.heap.size) (lH:=w1.heap.size) Eh hse (by simp) (gT _) f.size SM f (gX _ _) ⟨gT _,by omega⟩ (.inl (by simp)) (.inl U);have N:=SS.put7 L KB FB;refine⟨w1.heap.size,VN,VO,d,rfl,?_,by assumption⟩;exact N
 case rest=>
  obtain⟨g,a1',c1',d,rfl,HSS,jA⟩:=hcut;clear q1;have K2h:=gO K2;have F2h:=gO F2;have k6:=LK0 wc jA.out 6;have LKH:=gO LK0;simp only[gB,gC,gD]at k6;clear LK0 K1 K2 F1 F2 hbw;have aJj:=jA.out.size;have hBw:w.heap.size<wc.heap.size:=by have:=aF4.out;omega
  go_wp2_with fail
  clear k6;go_loopw [16] (λX wr=>∃(i:Nat) (a:Sc),i<=v.ys.length/\X=aB aI (i:Int)/\a.ys.length=i/\Hid (SS wr g (λk=>k<w1.heap.size) {s with cs:=s.cs.take i} a)/\Hid (Below w1.heap.size w1 wr)) (λX _=>v.ys.length-(intOf X).toNat)
  case atStart=>exact⟨0,_,gU _,rfl,rfl,HSS,jA⟩
  case round=>
   obtain⟨i,a,hi,rfl,hvi,kG,nM⟩:=hrel;clear HSS jA;subst hvi;by_cases K:a.ys.length<v.ys.length
   ·have KO:(a.ys.length:Int)<v.ys.length:=by omega
    have hA:=HS.out.below (Below.trans C.out (nM.out.mono (C.out.size)));obtain⟨bb,off,j,B,A⟩:=aAw eH (by decide) hA.rc K;obtain⟨e0,e1,e2,e3,e4,e5⟩:=kP A;have M:a.ys.length<s.cs.length:=by rw[<- HS.out.cy,gTe];exact K
    have I:v.ys[a.ys.length].c=s.cs[a.ys.length]:=by
     have S:=congrArg (·[a.ys.length]?) HS.out.cy;simp[K,M]at S;exact S
    have hcy:=hA.ca _ (gL K);have hn1':v.ys[a.ys.length].c.ns.length<=1000:=by rw[I];exact hf _ (gL M)
    have aJw:v.ys[a.ys.length].c.sl.length<=256:=by rw[I];exact(HK.out.ck _ (gL M)).mW HK.out.hk
    have aA9:v.ys[a.ys.length].c.ac.length<=4:=by rw[I,(HK.out.ck _ (gL M)).ac];exact HK.out.hk.cp.2
    obtain⟨y,hy⟩:∃y,v.ys[a.ys.length]=y:=⟨_,rfl⟩
    rw[hy]at e0 e1 e2 e3 e4 e5 hcy I hn1' aJw aA9;have HEL:=gO I;have Lm:=gO hcy;have aDJ:w1.heap.size<=wr.heap.size:=nM.out.size;rw[j];clear A j I hA hy hcy B;go_upto_region 5 with fail
    obtain⟨E1,EF1,KW,vC⟩:=boxes1 wr #[aA y.a1 y.n1 y.c1,aB aI (y.c.z:Int),aB aI (y.c.r:Int),aB aI (y.c.o:Int),aA y.a2 y.n2 y.c2,aA y.a3 y.n3 y.c3] 67;have HS5:=gO (kG.out.new vC);have HB5:=gO (gW nM.out vC);have H:=gO (Lm.out.below vC);clear e0 e1 e2 e3 e4 e5;have e0:=E1 0;have e4:=E1 4;have e5:=E1 5;simp only[gB,gC,gD]at e0 e4 e5;have HE:=gO E1;have HEF:=gO EF1;clear E1 EF1 vC Lm kG nM;generalize wr.alloc _=V at*;generalize wr.heap.size=J at*;have F:=(gX V.heap.size V).drew;have HR1:Hid (Row V.drew y.a1 (flat encS y.c.ns)):=H.out.r1.below F;have HR2:Hid (Row V.drew y.a2 (flat aY y.c.sl)):=H.out.r2.below F;have HR3:Hid (Row V.drew y.a3 (flat encI y.c.ac)):=by
     unfold Hid;rw[nR];exact H.out.r3.below F
    have hl1:=H.out.l1;have hl2:=H.out.l2;have hl3:=H.out.l3;have hb1:y.n1*16<=140737488355328:=by omega
    have hb2:y.n2*24<=140737488355328:=by omega
    have hb3:y.n3*8<=140737488355328:=by omega
    have HL1:=gO hl1;have HL2:=gO hl2;have HL3:=gO hl3;have HD5:=gO F;have HED:=gO (aAp HE.out KW F);have Oz:=gO (aAt HEF.out KW F);have VW:J<V.drew.heap.size:=KW;clear hl1 hl2 hl3 F;go_cut [29] (λs29 wx=>∃(t u x:Option Addr) (q n p:Nat),Hid (SS wx g (λk=>k<w1.heap.size∨J<=k/\k<V.heap.size) {s with cs:=s.cs.take a.ys.length} a)/\Hid (dL wx 0 (rX (⟨t,y.n1,q,u,y.n2,n,x,y.n3,p,y.c⟩:Cc)::nT (⟨t,y.n1,q,u,y.n2,n,x,y.n3,p,y.c⟩:Cc)::sW (⟨t,y.n1,q,u,y.n2,n,x,y.n3,p,y.c⟩:Cc)::a.rows {s with cs:=s.cs.take a.ys.length}))/\Hid (∀r∈aAU (⟨t,y.n1,q,u,y.n2,n,x,y.n3,p,y.c⟩:Cc),∀b,r.v.ownBlock=aK b->a.fr {s with cs:=s.cs.take a.ys.length} g (λk=>k<w1.heap.size∨J<=k/\k<V.heap.size) b)/\Hid (∀o,wx.cell? ⟨J,o,aJ⟩=(#[aA t y.n1 q,aB aI (y.c.z:Int),aB aI (y.c.r:Int),aB aI (y.c.o:Int),aA u y.n2 n,aA x y.n3 p]:Array Value)[o]?)/\J<wx.heap.size/\Hid (Below w1.heap.size w1 wx))
    case first=>
     go_region_law (first | (go_simp;go_at_call 37;refine(cloneS y.a1 y.n1 y.c1 y.c.ns _ HL1.out hb1 HR1.out).mono ?_;rintro ev wa ⟨t,q,rfl,hoa,j⟩;have KA:=aAp HED.out VW j;have FA:=aAt Oz.out VW j;have U:=gI VW j.size;have ka4:=KA 4;have ka5:=KA 5;simp only[gB,gC,gD]at ka4 ka5) | (go_simp;go_at_call 38;refine(aA7 y.a2 y.n2 y.c2 y.c.sl _ HL2.out hb2 (HR2.out.below j)).mono ?_;rintro ev wb ⟨u,n,rfl,hob,B⟩;have KB:=aAp KA U B;have FB:=aAt FA U B;have SB:=gI U B.size;have kb5:=KB 5;simp only[gB,gC,gD]at kb5) | (go_simp;go_at_call 35;refine(YE y.a3 y.n3 y.c3 y.c.ac _ HL3.out hb3 (HR3.out.below (gW j B))).mono ?_;rintro ev wc' ⟨x,p,rfl,hoc,A⟩;have KC:=aAp KB SB A;have FC:=aAt FB SB A;have SC:=gI SB A.size;have fc0:=FC 0;have fc4:=FC 4;have fc5:=FC 5;have kc0:=KC 0;have kc4:=KC 4;have kc5:=KC 5;simp only[gB,gC,gD]at kc0 kc4 kc5))
     all_goals
      have KX:=aAr (aAr (aAr KC 0 (aA t y.n1 q)) 4 (aA u y.n2 n)) 5 (aA x y.n3 p);simp only[gE,gG,gH]at KX;have aJx:=gW HD5.out (gW j (gW B A));have jA:=gS (gS (gS (gW HB5.out aJx) J 0 aDJ (aA t y.n1 q)) J 4 aDJ (aA u y.n2 n)) J 5 aDJ (aA x y.n3 p);have hsx:J<(((wc'.setCell ⟨J,0,aJ⟩ (aA t y.n1 q)).setCell ⟨J,4,aJ⟩ (aA u y.n2 n)).setCell ⟨J,5,aJ⟩ (aA x y.n3 p)).heap.size:=by simp;exact SC
      obtain⟨t1,t2,t3⟩:=HS5.out.three (y:=(⟨t,y.n1,q,u,y.n2,n,x,y.n3,p,y.c⟩:Cc)) (.inr ⟨gT _,KW⟩) HD5.out j B A hoa hob hoc 0 4 5 (aA t y.n1 q) (aA u y.n2 n) (aA x y.n3 p);clear kc0 kc4 kc5 ka4 ka5 kb5 fc0 fc4 fc5 e0 e4 e5;go_wp2_with fail
      go_meet
      exact⟨t,u,x,q,n,p,t1,t2,t3,KX,hsx,jA⟩
    case rest=>
     clear HE HEF HR1 HR2 HR3 hb1 hb2 hb3 HL1 HL2 HL3 HD5 HED Oz VW e0 e4 e5 HS5 HB5 H;obtain⟨t,u,x,q,n,p,Q,HOx,HFx,E,hsx,Z⟩:=hcut;have k6:=Q.out.k 6;have q0:=E.out 0;have q1:=E.out 1;have q2:=E.out 2;have q3:=E.out 3;have q4:=E.out 4;have q5:=E.out 5;unfold Sc.vals at k6;simp only[gB,gC,gD]at k6 q0 q1 q2 q3 q4 q5;have ba:=aAq wc (aO #[aA t y.n1 q,aB aI (y.c.z:Int),aB aI (y.c.r:Int),aB aI (y.c.o:Int),aA u y.n2 n,aA x y.n3 p] 67);have P:=gO (Q.out.below ba);have HO8:=gO (HOx.out.below ba);have hnw:=(World.news_of_block (heap_alloc_new wc (aO #[aA t y.n1 q,aB aI (y.c.z:Int),aB aI (y.c.r:Int),aB aI (y.c.o:Int),aA u y.n2 n,aA x y.n3 p] 67)))
     have zF:=gO hnw;have HB8:=gO (gW Z.out ba);obtain⟨ti,hti,htz,hts,htb⟩:=info_parts Uc;have HNE:Hid ((nJ a).v.ownBlock≠aK g):=λe=>(P.out.r.og _ (jF a _) g e).1 rfl
     have aGc:(nJ a).on (wc.alloc (aO #[aA t y.n1 q,aB aI (y.c.z:Int),aB aI (y.c.r:Int),aB aI (y.c.o:Int),aA u y.n2 n,aA x y.n3 p] 67)) 0:=P.out.r.own.each _ (jF a _);have HCS:=gO aGc;have hgs:=Q.out.r.hr.gs;have hvl:a.ys.length<=20:=by omega
     have aOb:w1.heap.size<=wc.heap.size:=Z.out.size;clear hnw ba E Q HOx Z aGc;go_wp2_with (at_builtin;refine wpList_append_lies _ rfl _ _ 40 rfl 0 67 ti (aC #[aA aJ 0 0,aB aI 0,aB aI 0,aB aI 0,aA aJ 0 0,aA aJ 0 0]) 6 96 underlying40 hti htz hts htb rfl (by decide) (aA a.a2 a.ys.length a.c2) a.ys.length (flat dX a.ys) rfl HCS.out ⟨wc.heap.size,0,aJ⟩ 1 1 [aA t y.n1 q,aB aI (y.c.z:Int),aB aI (y.c.r:Int),aB aI (y.c.o:Int),aA u y.n2 n,aA x y.n3 p] rfl rfl zF.out (by simp[Value.oneCell']) (by decide) (by unfold maxLen;omega) (by omega) (gU _) _ rfl ?_;intro g9 T w9 ho9 O hl9 aA6;have q9:=(bD P.out.k P.out.r.hr.gs O (λe=>HNE.out e.symm) 6).trans (show _=aK (aA a.a2 a.ys.length a.c2)from rfl);have f9:=bG P.out.fz P.out.r.hr.gs O (λe=>HNE.out e.symm) 6)
     obtain⟨hs9,sf9⟩:=P.out.aFD (y:=(⟨t,y.n1,q,u,y.n2,n,x,y.n3,p,y.c⟩:Cc)) HO8.out HFx.out O (by rw[aS,fJ];exact ho9) (by
      rcases hl9 with S | S
      ·exact .inl S
      ·exact .inr (Nat.le_of_eq S.symm))
     have aGd:s.cs.take a.ys.length++[y.c]=s.cs.take (a.ys.length+1):=by
      rw[List.take_succ_eq_append_getElem M,HEL.out]
     simp only[aGd]at hs9;have l:=gO (hs9.sub (Y:=λk=>k<w1.heap.size) λk hk=> .inl hk);have hgb:w1.heap.size<=g:=Nat.le_of_not_lt λh=>P.out.r.hr.xg (.inl h)
     have HB9:Hid (Below w1.heap.size w1 (w9.setCell ⟨g,6,aJ⟩ (aA (aK ⟨g9,0,aJ⟩) (a.ys.length+1) T))):=gS (Below.grown HB8.out O HB8.out.size (λk hk=>Nat.le_of_not_lt λh=>(P.out.r.og _ (jF a _) k hk).2 (.inl h))) g 6 hgb (aA (aK ⟨g9,0,aJ⟩) (a.ys.length+1) T);clear hs9 sf9 aGd ho9 O hl9 P HO8 zF HB8 HNE HCS HFx q9 f9 aA6;go_roundw
     case rel=>exact⟨a.ys.length+1,_,by omega,by go_num,by simp,l,HB9⟩
     case measure=>simp[intOf];omega
   ·have hie:a.ys.length=v.ys.length:=by omega
    have l:Hid (SS wr g (λk=>k<w1.heap.size) s a):=by
     have S:=kG.out;rw[hie,gTf (by rw[<- HS.out.cy,gTe];exact gT _)]at S;exact S
    have x0:=l.out.k 0;have x1:=l.out.k 1;have x2:=l.out.k 2;have x3:=l.out.k 3;have x4:=l.out.k 4;have x5:=l.out.k 5;have x6:=l.out.k 6;unfold Sc.vals at x0 x1 x2 x3 x4 x5 x6;have R:=aAp K2h.out m nM.out;have F2r:=aAt F2h.out m nM.out;have y0:=R 0;have y1:=R 1;have y2:=R 2;have y3:=R 3;have y4:=R 4;have y5:=R 5;have y6:=R 6;obtain⟨f0,f1,f2,f3,f4,f5,f6⟩:=gF7 F2r;simp only[gB,gC,gD]at x0 x1 x2 x3 x4 x5 x6 y0 y1 y2 y3 y4 y5 y6;have KX:=(CU R a s)
    have oI:=gO (((((((l.out.dD m 0 (aA a.a1 a.n1 a.c1)).dD m 1 (aA a.hc.az 2 a.hc.cz)).dD m 2 (aA a.hc.am 2 a.hc.cm)).dD m 3 (aB aI (s.h.aAh:Int))).dD m 4 (aA a.hc.al a.hc.lc.length a.hc.cl)).dD m 5 (aA a.hc.av s.h.live.length a.hc.cv)).dD m 6 (aA a.a2 a.ys.length a.c2));have hle1:w.heap.size<=w.heap.size+1:=Nat.le_succ _;have HBX2:=gO (aAz (Below.trans C.out (nM.out.mono (C.out.size))) hle1 a s);have hnlt:¬(a.ys.length:Int)<v.ys.length:=by omega
    clear hie R F2r K;go_wp2
    generalize ((((((wr.setCell _ _).setCell _ _).setCell _ _).setCell _ _).setCell _ _).setCell _ _).setCell _ _=wx at*;refine bodyPost_ret (v:=aC #[aA a.a1 a.n1 a.c1,aA a.hc.az 2 a.hc.cz,aA a.hc.am 2 a.hc.cm,aB aI (s.h.aAh:Int),aA a.hc.al a.hc.lc.length a.hc.cl,aA a.hc.av s.h.live.length a.hc.cv,aA a.a2 a.ys.length a.c2]) (by simp[results,results12,go_sem,KX]) rfl ⟨a,rfl,oI.out.r.toX (by have:=C.out.size;show w.heap.size<w1.heap.size;omega) (λk hk=>by have:=C.out.size;exact gI hk this) (Nat.lt_irrefl _),HBX2.out⟩
theorem Jh (v:Sc)(s:Sy)(n:List UInt8)(w:World)(hs:lZ w v s)(hf:∀c∈s.cs,c.ns.length<=1000)(hyl:v.ys.length<=20):
 Calls prog 99 #[aC #[aA v.a1 v.n1 v.c1,aA v.hc.az 2 v.hc.cz,aA v.hc.am 2 v.hc.cm,aB aI s.h.aAh,aA v.hc.al v.hc.lc.length v.hc.cl,aA v.hc.av s.h.live.length v.hc.cv,aA v.a2 v.ys.length v.c2],aF ⟨n.toArray⟩] w λev w'=>ev=aN (aG #[aB aI (dA (λc=>c.ns.contains n) s.cs),.bool (decide (0<=dA (λc=>c.ns.contains n) s.cs))])/\Below w.heap.size w w':=by
 have o:∀b w,(callFunc 129 b).run prog w= .ok (.enter 129 b) w:=enters_of func129 (by kernel_rfl) rfl;obtain⟨m,l,x,r,f,d⟩:=boxes2 w #[aA v.a1 v.n1 v.c1,aA v.hc.az 2 v.hc.cz,aA v.hc.am 2 v.hc.cm,aB aI (s.h.aAh:Int),aA v.hc.al v.hc.lc.length v.hc.cl,aA v.hc.av s.h.live.length v.hc.cv,aA v.a2 v.ys.length v.c2] 42 #[aF ⟨n.toArray⟩] 9;have z:=m 6;have q:=l 0;simp only[gB,gC,gD]at z q;have a:=hs.below d;have g:dA (λy:Cc=>y.c.ns.contains n) v.ys=dA (λc=>c.ns.contains n) s.cs:=by
  rw[<- hs.cy];unfold dA;rw[List.findIdx?_map];rfl
 have hcall:=wO v.a2 v.ys.length v.c2 v.ys 129 #[aH (aK ⟨w.heap.size+1,0,aJ⟩)] (λy=>y.c.ns.contains n) _ rfl (by omega) a.rc o (λW i y j=>Vk y n (w.heap.size+1) W ((a.below i).ca y j) (by
  have B:=(a.ca y j).l1;have A:=hf y.c (by rw[<- hs.cy];exact List.mem_map_of_mem j);omega) (gI f i.size) ((i.cell (p:=⟨w.heap.size+1,0,aJ⟩) f).trans q))
 rw[g]at hcall;have u:=gO hcall;have t:=gO d;clear o m l x r d hs a hcall g;go_enter func99,ntmps99
 go_wp2_with (go_at_call 72;refine u.out.mono ?_;rintro e w' ⟨rfl,k⟩)
 refine bodyPost_ret (v:=aG #[aB aI (dA (λc=>c.ns.contains n) s.cs),.bool (decide (0<=dA (λc=>c.ns.contains n) s.cs))]) (by simp[results,results99,go_sem]) rfl ⟨rfl,gW t.out k⟩
def YM (v':Sc)(s:Sy)(i:Nat):Value:=aG #[.agg (v'.vals s),aB aI (i:Int),aB aI 0]
theorem Eu (v:Sc)(s:Sy)(n:List UInt8)(cpu i:Nat)(w:World)(hs:lZ w v s)(hk:bQ s)(hf:∀c∈s.cs,c.ns.length<=1000)(hi:s.named n=aK i)(bJ:cpu<s.h.aAh):
 Calls prog 57 #[aC #[aA v.a1 v.n1 v.c1,aA v.hc.az 2 v.hc.cz,aA v.hc.am 2 v.hc.cm,aB aI s.h.aAh,aA v.hc.al v.hc.lc.length v.hc.cl,aA v.hc.av s.h.live.length v.hc.cv,aA v.a2 v.ys.length v.c2],aF ⟨n.toArray⟩,aB aI cpu] w λev w'=>∃v',ev=aN (YM v' s i)/\fO w' w.heap.size s v'/\Below w.heap.size w w':=by
 obtain⟨M,K2,F1,F2,P,g⟩:=boxes2 w #[aA v.a1 v.n1 v.c1,aA v.hc.az 2 v.hc.cz,aA v.hc.am 2 v.hc.cm,aB aI (s.h.aAh:Int),aA v.hc.al v.hc.lc.length v.hc.cl,aA v.hc.av s.h.live.length v.hc.cv,aA v.a2 v.ys.length v.c2] 42 #[aA aJ 0 0,aA aJ 0 0,aA aJ 0 0,aB aI 0,aA aJ 0 0,aA aJ 0 0,aA aJ 0 0] 42;have z:=hs.below g;have W:v.ys.length<=20:=by have:=congrArg List.length hs.cy;rw[gTe]at this;rw[this];exact hk.cl
 have D:dA (λc:Ca=>c.ns.contains n) s.cs=(i:Int):=by
  unfold Sy.named at hi;unfold dA;rw[hi]
 obtain⟨I,k1,k2,t,H,G,J⟩:=gA7 M;have V:=gO hf;have HK:=gO hk;have r:=gO z;have Q:=gO g;have N:=gO M;have O:=gO K2;have Y:=gO F2;have hc0:¬(cpu:Int)<0:=by omega
 have hc1:¬(s.h.aAh:Int)<=cpu:=by omega
 have T:(0:Int)<=i:=by omega
 have C:w.heap.size<((w.alloc (aO #[aA v.a1 v.n1 v.c1,aA v.hc.az 2 v.hc.cz,aA v.hc.am 2 v.hc.cm,aB aI (s.h.aAh:Int),aA v.hc.al v.hc.lc.length v.hc.cl,aA v.hc.av s.h.live.length v.hc.cv,aA v.a2 v.ys.length v.c2] 42)).alloc (aO #[aA aJ 0 0,aA aJ 0 0,aA aJ 0 0,aB aI 0,aA aJ 0 0,aA aJ 0 0,aA aJ 0 0] 42)).heap.size:=by simp;omega
 clear hs hk hf hi M K2 F1 F2 z g;go_enter func57,ntmps57
 go_upto_region 1 with fail
 generalize (w.alloc _).alloc _=Z at*;go_upto_region 4 with (go_at_call 11;refine(kE v s Z r.out HK.out V.out).mono ?_;rintro ev w3 ⟨rfl,f⟩)
 have o:=gO (r.out.below f);have j:=gO (aAp N.out C f);have X:=gI C f.size;clear I k1 k2 t H G J;obtain⟨I,k1,k2,t,H,G,J⟩:=gA7 j.out;have a:=Jh v s n w3 o.out V.out W;rw[D,gTg T]at a;have BD:=gO a;have L:=gO f;clear a D;go_upto_region 9 with (go_at_call 99;refine BD.out.mono ?_;rintro ev K ⟨rfl,d⟩;have U:=(d.cell (p:=⟨w.heap.size,3,aJ⟩) X).trans t)
 have y:=o.out.below d;have u:=aAp j.out X d;have aL0:=gI X d.size;clear I k1 k2 t H G J U;obtain⟨I,k1,k2,t,H,G,J⟩:=gA7 u;have Hf:=gO (oJ v s K y HK.out V.out);have e:=gO (gW L.out d);have l:w.heap.size+1<Z.heap.size:=P;clear y u d j BD;have q:=e.out.size;go_wp2_with (go_at_call 12;refine Hf.out.mono ?_;rintro ev w5 ⟨v',he,E,m⟩;unfold Sc.vals at he;subst he;have x:=aAp O.out l (gW e.out m);have S:=aAt Y.out l (gW e.out m);obtain⟨y0,y1,y2,y3,y4,y5,y6⟩:=gA7 x;obtain⟨f0,f1,f2,f3,f4,f5,f6⟩:=gF7 S;skip)
 have b:(λk=>k<K.heap.size) (w.heap.size+1):=gI l q;have A:w.heap.size<=Z.heap.size:=by omega
 have R:=gW e.out m;have KX:=(CU x v' s)
 have oI:=(SR.dD (SR.dD (SR.dD (SR.dD (SR.dD (SR.dD (SR.dD E b 0 (aA v'.a1 v'.n1 v'.c1)) b 1 (aA v'.hc.az 2 v'.hc.cz)) b 2 (aA v'.hc.am 2 v'.hc.cm)) b 3 (aB aI (s.h.aAh:Int))) b 4 (aA v'.hc.al v'.hc.lc.length v'.hc.cl)) b 5 (aA v'.hc.av s.h.live.length v'.hc.cv)) b 6 (aA v'.a2 v'.ys.length v'.c2))
 have B:w.heap.size<=w.heap.size+1:=Nat.le_succ _;have F:=gO (aAz (Below.trans Q.out (R.mono A)) B v' s);generalize ((((((w5.setCell _ _).setCell _ _).setCell _ _).setCell _ _).setCell _ _).setCell _ _).setCell _ _=wx at*;refine bodyPost_ret (v:=aG #[aC #[aA v'.a1 v'.n1 v'.c1,aA v'.hc.az 2 v'.hc.cz,aA v'.hc.am 2 v'.hc.cm,aB aI (s.h.aAh:Int),aA v'.hc.al v'.hc.lc.length v'.hc.cl,aA v'.hc.av s.h.live.length v'.hc.cv,aA v'.a2 v'.ys.length v'.c2],aB aI (i:Int),aB aI 0]) (by simp[results,results57,go_sem,KX]) rfl ⟨v',rfl,oI.toX (by show w.heap.size<K.heap.size;omega) (λk hk=>gI hk (gQ A q)) (Nat.lt_irrefl _),F.out⟩
end Go.Proofs.YtjaogfhcnmjkiaaGreatDoor
