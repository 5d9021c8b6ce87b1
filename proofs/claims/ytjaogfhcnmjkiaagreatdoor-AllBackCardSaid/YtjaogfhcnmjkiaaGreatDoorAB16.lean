/- joined. -/
import Derived.Test.YtjaogfhcnmjkiaaGreatDoorAB13
import Derived.Test.YtjaogfhcnmjkiaaGreatDoorAB15
set_option linter.all false
set_option maxRecDepth 100000
set_option maxHeartbeats 0
namespace Go.Proofs.YtjaogfhcnmjkiaaGreatDoor
open Go.RowKit
open Go.Value renaming slice->aA,int->aB,agg->aC,string->aF,tuple->aG,pointer->aH,ownBlock->gTh
open Go.IntKind renaming i64->aI
open Option renaming none->aJ,some->aK
open Go.Ending renaming returned->aN
open Go.Obj renaming cells->aO
open Go.Proofs.Tryz
variable {B:Nat}{W:World}{a am:Option Addr}{c hc:Hc}{h:Hp}{xs:List Int}
section
variable {W W' W1 Wm We:World}{G:Nat}{X Y:Nat->Prop}{s s':Sy}{v v':Sc}
theorem SR.start {n c:Nat}(ho:W.ownsRow 0 3 1 (aA a n c) n (xs.map vI))(hr:HR W G X h hc)(hg:∀g,(aA a n c).ownBlock=aK g->g≠G/\¬X g/\∀q∈hc.rows h++hc.reads h,q.v.ownBlock≠aK g):
 SR W G X ⟨xs,h,[]⟩ ⟨a,n,c,hc,aJ,0,[]⟩:=by
 have i:∀g,(oD ⟨a,n,c,hc,aJ,0,[]⟩).v.ownBlock≠aK g:=λg e=>by cases e
 refine⟨⟨λr b=> ?_,?_⟩,λr b g d=> ?_,hr,λr b q j g d f=> ?_,rfl⟩
 ·rcases gY.1 b with rfl | b
  ·exact ho
  ·obtain rfl:r=oD ⟨a,n,c,hc,aJ,0,[]⟩:=by simpa using b
   exact World.ownsRow_nil _ _ _ _
 ·show[_,_].Pairwise _;simp only[List.pairwise_cons,gTa,forall_eq,List.not_mem_nil,false_imp_iff,implies_true,List.Pairwise.nil,and_true];exact λg d f=>i g f
 ·rcases gY.1 b with rfl | b
  ·exact⟨(hg g d).1,(hg g d).2.1⟩
  ·obtain rfl:r=oD ⟨a,n,c,hc,aJ,0,[]⟩:=by simpa using b
   exact absurd d (i g)
 ·rcases gY.1 b with rfl | b
  ·exact(hg g d).2.2 q j f
  ·obtain rfl:r=oD ⟨a,n,c,hc,aJ,0,[]⟩:=by simpa using b
   exact absurd d (i g)
theorem FH {mF bm be ge n:Nat}{cm:Nat}(Eb:Wm.ownsRow bm 3 1 (aA am n cm) n (xs.map vI))(hse:HS We ge (λk=>k<be) h hc)(h1:mF<=bm)(h2:Wm.heap.size<=be)(h3:Wm.heap.size<=We.heap.size)(h4:mF<=be)(hbm:Below Wm.heap.size Wm W)(hbe:Below We.heap.size We W)(hG:mF<=G/\G<W.heap.size)(hg:G<bm∨(Wm.heap.size<=G/\G<be)∨We.heap.size<=G)(hg2:G<be∨We.heap.size<=G):
 SR W G (λk=>k<mF) ⟨xs,h,[]⟩ ⟨am,n,cm,hc,aJ,0,[]⟩:=by
 have b:=hse.r.below hbe;have a:∀q∈hc.rows h++hc.reads h,∀k,q.v.ownBlock=aK k->be<=k/\k<We.heap.size:=λq a k e=>by
  refine⟨?_,hse.r.lt q a k e⟩;rcases gZ.1 a with a | a
  ·exact Nat.le_of_not_lt (hse.r.og q a k e).2
  ·exact Nat.le_of_not_lt (hse.r.rx q a k e)
 refine SR.start (own_base (own_below Eb hbm (gT _)) (gU _)) (b.any hG.2 (λq h k e=> ?_) (λk d=>by omega) (by omega)) λg e=> ?_
 ·have:=a q h k e;omega
 ·have:=Eb.lt g e;refine⟨by omega,by omega,λq h c=> ?_⟩;have:=a q h g c;omega
theorem SS.put7 (hr:SR W G X s v){a0 a1 a2 a3 a4 a5 a6:Value}(K:∀o,W.cell? ⟨G,o,aJ⟩=(#[a0,a1,a2,a3,a4,a5,a6]:Array Value)[o]?)(F:∀o,W.frozen? ⟨G,o,aJ⟩=false):
 SS (((((((W.setCell ⟨G,0,aJ⟩ (aA v.a1 v.n1 v.c1)).setCell ⟨G,1,aJ⟩ (aA v.hc.az 2 v.hc.cz)).setCell ⟨G,2,aJ⟩ (aA v.hc.am 2 v.hc.cm)).setCell ⟨G,3,aJ⟩ (aB aI (s.h.aP:Int))).setCell ⟨G,4,aJ⟩ (aA v.hc.al v.hc.lc.length v.hc.cl)).setCell ⟨G,5,aJ⟩ (aA v.hc.av s.h.live.length v.hc.cv)).setCell ⟨G,6,aJ⟩ (aA v.a2 v.ys.length v.c2)) G X s v:=by
 have c:=aV F ⟨G,0,aJ⟩ (aA v.a1 v.n1 v.c1);have f:=aV c ⟨G,1,aJ⟩ (aA v.hc.az 2 v.hc.cz);have k:=aV f ⟨G,2,aJ⟩ (aA v.hc.am 2 v.hc.cm);have g:=aV k ⟨G,3,aJ⟩ (aB aI (s.h.aP:Int));have p:=aV g ⟨G,4,aJ⟩ (aA v.hc.al v.hc.lc.length v.hc.cl);have m:=aV p ⟨G,5,aJ⟩ (aA v.hc.av s.h.live.length v.hc.cv);have e:=aV m ⟨G,6,aJ⟩ (aA v.a2 v.ys.length v.c2);have b:=aW K 0 (aA v.a1 v.n1 v.c1);have d:=aW b 1 (aA v.hc.az 2 v.hc.cz);have n:=aW d 2 (aA v.hc.am 2 v.hc.cm);have i:=aW n 3 (aB aI (s.h.aP:Int));have l:=aW i 4 (aA v.hc.al v.hc.lc.length v.hc.cl);have j:=aW l 5 (aA v.hc.av s.h.live.length v.hc.cv);have a:=aW j 6 (aA v.a2 v.ys.length v.c2);simp only[gE,gG,gH]at a;exact⟨((((((hr.iQ 0 _).iQ 1 _).iQ 2 _).iQ 3 _).iQ 4 _).iQ 5 _).iQ 6 _,a,e⟩
end
theorem TJ:(prog.info? 67).map (λi=>(i.zero,i.size,i.bytes))=aK (aK (aC #[aA aJ 0 0,aB aI 0,aB aI 0,aB aI 0,aA aJ 0 0,aA aJ 0 0]),6,96):=by kernel_rfl
theorem qV (v:Sc)(s:Sy)(w:World)(hs:nO w v s)(hk:cZ s)(hf:∀c∈s.cs,c.ns.length<=1000):
 Calls prog 12 #[aC #[aA v.a1 v.n1 v.c1,aA v.hc.az 2 v.hc.cz,aA v.hc.am 2 v.hc.cm,aB aI (s.h.aP:Int),aA v.hc.al v.hc.lc.length v.hc.cl,aA v.hc.av s.h.live.length v.hc.cv,aA v.a2 v.ys.length v.c2]] w λev w'=>∃v',ev=aN (.agg (v'.vals s))/\iI w' w.heap.size s v'/\Below w.heap.size w w':=by
 obtain⟨K1,K2,F1,F2,m,hbw⟩:=boxes2 w #[aA v.a1 v.n1 v.c1,aA v.hc.az 2 v.hc.cz,aA v.hc.am 2 v.hc.cm,aB aI (s.h.aP:Int),aA v.hc.al v.hc.lc.length v.hc.cl,aA v.hc.av s.h.live.length v.hc.cv,aA v.a2 v.ys.length v.c2] 42 #[aA aJ 0 0,aA aJ 0 0,aA aJ 0 0,aB aI 0,aA aJ 0 0,aA aJ 0 0,aA aJ 0 0] 42;have TK:=gO hs.lw;have hn1:v.n1<=4096:=by rw[<- hs.lw,hk.wl];omega
 have HS:=gO hs;have HK:=gO hk;have HHK:=gO hk.hk;have C:=gO hbw;have Kw:s.h.live.length<=1000:=gQ hk.hk.jM (by decide);have hyl:v.ys.length<=20:=by have:=congrArg List.length hs.cy;rw[gTe]at this;rw[this];exact hk.cl
 have aGc:Hid (((w.alloc (aO #[aA v.a1 v.n1 v.c1,aA v.hc.az 2 v.hc.cz,aA v.hc.am 2 v.hc.cm,aB aI (s.h.aP:Int),aA v.hc.al v.hc.lc.length v.hc.cl,aA v.hc.av s.h.live.length v.hc.cv,aA v.a2 v.ys.length v.c2] 42)).alloc (aO #[aA aJ 0 0,aA aJ 0 0,aA aJ 0 0,aB aI 0,aA aJ 0 0,aA aJ 0 0,aA aJ 0 0] 42)).heap.size=w.heap.size+2):=by unfold Hid;simp
 clear hs hk;go_enter func12,ntmps12
 go_upto_region 1 with fail
 generalize (w.alloc _).alloc _=w1 at*;have q1:Row w1 v.a1 (flat encI s.w):=by rw[oM];exact(HS.out.below C.out).rw
 have HHH:=gO (HS.out.below C.out).hh;have LK0:∀W,Below w1.heap.size w1 W->∀o,W.cell? ⟨w.heap.size,o,aJ⟩=(#[aA v.a1 v.n1 v.c1,aA v.hc.az 2 v.hc.cz,aA v.hc.am 2 v.hc.cm,aB aI (s.h.aP:Int),aA v.hc.al v.hc.lc.length v.hc.cl,aA v.hc.av s.h.live.length v.hc.cv,aA v.a2 v.ys.length v.c2]:Array Value)[o]? :=λW h o=>aQ K1 (by omega) h o
 go_cut [3] (λs3 wx=>∃(g:Nat) (a1':Option Addr) (c1':Nat) (d:Hc),s3=aH (aK ⟨g,0,aJ⟩)/\Hid (SS wx g (λk=>k<w1.heap.size) {s with cs:=[]} ⟨a1',v.n1,c1',d,aJ,0,[]⟩)/\Hid (Below w1.heap.size w1 wx))
 case first=>
  go_region_held3 (λW=>Below w1.heap.size w1 W) ((repeat (first | with_reducible assumption | with_reducible exact gX _ _ | with_reducible refine Below.setCell ?_ ?_ _ | with_reducible apply Below.drew | with_reducible refine gW ?_ (aT _ _) | with_reducible refine gW ?_ (by with_reducible assumption) | (simp only;omega)))) (first | (go_at_call 35;refine(YA _ v.n1 _ s.w _ TK.out (by omega) (q1.below (by assumption))).mono ?_;rintro e D ⟨Vz,VA,rfl,Eb,hbm⟩;(try ((have hx:Below ((w1.alloc (.cells (#[aA aJ 0 0,aA aJ 0 0,aA aJ 0 0,aB aI 0,aA aJ 0 0,aA aJ 0 0,aA aJ 0 0]:Array Value) 42)).drew).heap.size ((w1.alloc (.cells (#[aA aJ 0 0,aA aJ 0 0,aA aJ 0 0,aB aI 0,aA aJ 0 0,aA aJ 0 0,aA aJ 0 0]:Array Value) 42)).drew) D:=by with_reducible exact hbm);have KA:=aQ (w1:=((w1.alloc (.cells (#[aA aJ 0 0,aA aJ 0 0,aA aJ 0 0,aB aI 0,aA aJ 0 0,aA aJ 0 0,aA aJ 0 0]:Array Value) 42)).drew)) (vs:=#[aA aJ 0 0,aA aJ 0 0,aA aJ 0 0,aB aI 0,aA aJ 0 0,aA aJ 0 0,aA aJ 0 0]) (λo=>bI w1 #[aA aJ 0 0,aA aJ 0 0,aA aJ 0 0,aB aI 0,aA aJ 0 0,aA aJ 0 0,aA aJ 0 0] 42 o) (show w1.heap.size<((w1.alloc (.cells (#[aA aJ 0 0,aA aJ 0 0,aA aJ 0 0,aB aI 0,aA aJ 0 0,aA aJ 0 0,aA aJ 0 0]:Array Value) 42)).drew).heap.size by simp) hx;have FA:=aU (w1:=((w1.alloc (.cells (#[aA aJ 0 0,aA aJ 0 0,aA aJ 0 0,aB aI 0,aA aJ 0 0,aA aJ 0 0,aA aJ 0 0]:Array Value) 42)).drew)) (λo=>fP w1 #[aA aJ 0 0,aA aJ 0 0,aA aJ 0 0,aB aI 0,aA aJ 0 0,aA aJ 0 0,aA aJ 0 0] 42 o) (show w1.heap.size<((w1.alloc (.cells (#[aA aJ 0 0,aA aJ 0 0,aA aJ 0 0,aB aI 0,aA aJ 0 0,aA aJ 0 0,aA aJ 0 0]:Array Value) 42)).drew).heap.size by simp) hx;have U:w1.heap.size<D.heap.size:=gI (show w1.heap.size<((w1.alloc (.cells (#[aA aJ 0 0,aA aJ 0 0,aA aJ 0 0,aB aI 0,aA aJ 0 0,aA aJ 0 0,aA aJ 0 0]:Array Value) 42)).drew).heap.size by simp) hx.size));(first | have SM:w1.heap.size<=D.heap.size:=gR U | have SM:w1.heap.size<=D.heap.size:=hbm.size)) | (go_at_call 36;refine(Ar _ _ _ _ v.hc.cz v.hc.cm v.hc.cl v.hc.cv _ _ _ _ _ s.h _ (HHH.out.below (by assumption)) HHK.out Kw).mono ?_;rintro e we ⟨ge,d,he,hse,hge,f⟩;unfold Hc.vals at he;subst he;(try first | (have KB:=aQ KA U f;have FB:=aU FA U f) | ((have hx:Below (D.alloc (.cells (#[aA aJ 0 0,aA aJ 0 0,aA aJ 0 0,aB aI 0,aA aJ 0 0,aA aJ 0 0,aA aJ 0 0]:Array Value) 42)).heap.size (D.alloc (.cells (#[aA aJ 0 0,aA aJ 0 0,aA aJ 0 0,aB aI 0,aA aJ 0 0,aA aJ 0 0,aA aJ 0 0]:Array Value) 42)) we:=by with_reducible exact f);have KB:=aQ (w1:=(D.alloc (.cells (#[aA aJ 0 0,aA aJ 0 0,aA aJ 0 0,aB aI 0,aA aJ 0 0,aA aJ 0 0,aA aJ 0 0]:Array Value) 42))) (vs:=#[aA aJ 0 0,aA aJ 0 0,aA aJ 0 0,aB aI 0,aA aJ 0 0,aA aJ 0 0,aA aJ 0 0]) (λo=>bI D #[aA aJ 0 0,aA aJ 0 0,aA aJ 0 0,aB aI 0,aA aJ 0 0,aA aJ 0 0,aA aJ 0 0] 42 o) (show D.heap.size<(D.alloc (.cells (#[aA aJ 0 0,aA aJ 0 0,aA aJ 0 0,aB aI 0,aA aJ 0 0,aA aJ 0 0,aA aJ 0 0]:Array Value) 42)).heap.size by simp) hx;have FB:=aU (w1:=(D.alloc (.cells (#[aA aJ 0 0,aA aJ 0 0,aA aJ 0 0,aB aI 0,aA aJ 0 0,aA aJ 0 0,aA aJ 0 0]:Array Value) 42))) (λo=>fP D #[aA aJ 0 0,aA aJ 0 0,aA aJ 0 0,aB aI 0,aA aJ 0 0,aA aJ 0 0,aA aJ 0 0] 42 o) (show D.heap.size<(D.alloc (.cells (#[aA aJ 0 0,aA aJ 0 0,aA aJ 0 0,aB aI 0,aA aJ 0 0,aA aJ 0 0,aA aJ 0 0]:Array Value) 42)).heap.size by simp) hx))))
  all_goals (go_wp2_with fail;go_meet)
  ·rw[oM]at Eb;have L:=FH (W:=we.alloc (aO #[aA Vz v.n1 VA,aA d.az 2 d.cz,aA d.am 2 d.cm,aB aI (s.h.aP:Int),aA d.al d.lc.length d.cl,aA d.av s.h.live.length d.cv,aA aJ 0 0] 42)) (G:=we.heap.size) (mF:=w1.heap.size) Eb hse (gT _) (gT _) f.size SM (gW f (aT _ _)) (aT _ _) ⟨gQ SM f.size,by simp⟩ (.inr (.inr (gT _))) (.inr (gT _));exact⟨we.heap.size,Vz,VA,d,rfl,⟨L,bI _ _ _,fP _ _ _⟩,by assumption⟩
  ·rw[oM]at Eb;have hs:=f.size;simp at hs;have L:=FH (W:=we) (G:=D.heap.size) (mF:=w1.heap.size) Eb hse (gT _) (by simp) (by omega) (by simp;omega) (gW (aT _ _) f) (gX _ _) ⟨SM,by omega⟩ (.inr (.inl ⟨gT _,by simp⟩)) (.inl (by simp));have N:=SS.put7 L KB FB;refine⟨D.heap.size,Vz,VA,d,rfl,?_,by assumption⟩;exact N
  ·rw[oM]at Eb;have hs:=f.size;have L:=FH (W:=we) (G:=w1.heap.size) (mF:=w1.heap.size) Eb hse (by simp) (gT _) f.size SM f (gX _ _) ⟨gT _,by omega⟩ (.inl (by simp)) (.inl U);have N:=SS.put7 L KB FB;refine⟨w1.heap.size,Vz,VA,d,rfl,?_,by assumption⟩;exact N
 case rest=>
  obtain⟨g,a1',c1',d,rfl,NR,kP⟩:=hcut;clear q1;have K2h:=gO K2;have F2h:=gO F2;have k6:=LK0 wc kP.out 6;have LKH:=gO LK0;simp only[gB,gC,gD]at k6;clear LK0 K1 K2 F1 F2 hbw;have aJC:=kP.out.size;have hBw:w.heap.size<wc.heap.size:=by have:=aGc.out;omega
  go_wp2_with fail
  clear k6;go_loopw [16] (λX wr=>∃(i:Nat) (a:Sc),i<=v.ys.length/\X=aB aI (i:Int)/\a.ys.length=i/\Hid (SS wr g (λk=>k<w1.heap.size) {s with cs:=s.cs.take i} a)/\Hid (Below w1.heap.size w1 wr)) (λX _=>v.ys.length-(intOf X).toNat)
  case atStart=>exact⟨0,_,gU _,rfl,rfl,NR,kP⟩
  case round=>
   obtain⟨i,a,hi,rfl,hvi,lD,oH⟩:=hrel;clear NR kP;subst hvi;by_cases K:a.ys.length<v.ys.length
   ·have Hg:(a.ys.length:Int)<v.ys.length:=by omega
    have hA:=HS.out.below (Below.trans C.out (oH.out.mono (C.out.size)));obtain⟨bb,off,j,B,A⟩:=aZ eY (by decide) hA.rc K;obtain⟨e0,e1,e2,e3,e4,e5⟩:=kM A;have M:a.ys.length<s.cs.length:=by rw[<- HS.out.cy,gTe];exact K
    have I:v.ys[a.ys.length].c=s.cs[a.ys.length]:=by
     have S:=congrArg (·[a.ys.length]?) HS.out.cy;simp[K,M]at S;exact S
    have hcy:=hA.ca _ (gL K);have hn1':v.ys[a.ys.length].c.ns.length<=1000:=by rw[I];exact hf _ (gL M)
    have aJO:v.ys[a.ys.length].c.sl.length<=256:=by rw[I];exact(HK.out.ck _ (gL M)).nS HK.out.hk
    have aBh:v.ys[a.ys.length].c.ac.length<=4:=by rw[I,(HK.out.ck _ (gL M)).ac];exact HK.out.hk.cp.2
    obtain⟨y,hy⟩:∃y,v.ys[a.ys.length]=y:=⟨_,rfl⟩
    rw[hy]at e0 e1 e2 e3 e4 e5 hcy I hn1' aJO aBh;have HEL:=gO I;have KJ:=gO hcy;have aDO:w1.heap.size<=wr.heap.size:=oH.out.size;rw[j];clear A j I hA hy hcy B;go_upto_region 5 with fail
    obtain⟨E1,EF1,Kv,uV⟩:=boxes1 wr #[aA y.a1 y.n1 y.c1,aB aI (y.c.z:Int),aB aI (y.c.r:Int),aB aI (y.c.o:Int),aA y.a2 y.n2 y.c2,aA y.a3 y.n3 y.c3] 67;have HS5:=gO (lD.out.new uV);have HB5:=gO (gW oH.out uV);have H:=gO (KJ.out.below uV);clear e0 e1 e2 e3 e4 e5;have e0:=E1 0;have e4:=E1 4;have e5:=E1 5;simp only[gB,gC,gD]at e0 e4 e5;have HE:=gO E1;have HEF:=gO EF1;clear E1 EF1 uV KJ lD oH;generalize wr.alloc _=V at*;generalize wr.heap.size=J at*;have F:=(gX V.heap.size V).drew;have HR1:Hid (Row V.drew y.a1 (flat encS y.c.ns)):=H.out.r1.below F;have HR2:Hid (Row V.drew y.a2 (flat bQ y.c.sl)):=H.out.r2.below F;have HR3:Hid (Row V.drew y.a3 (flat encI y.c.ac)):=by
     unfold Hid;rw[oM];exact H.out.r3.below F
    have hl1:=H.out.l1;have hl2:=H.out.l2;have hl3:=H.out.l3;have hb1:y.n1*16<=140737488355328:=by omega
    have hb2:y.n2*24<=140737488355328:=by omega
    have hb3:y.n3*8<=140737488355328:=by omega
    have HL1:=gO hl1;have HL2:=gO hl2;have HL3:=gO hl3;have HD5:=gO F;have HED:=gO (aQ HE.out Kv F);have Xb:=gO (aU HEF.out Kv F);have VH:J<V.drew.heap.size:=Kv;clear hl1 hl2 hl3 F;go_cut [29] (λs29 wx=>∃(q u x:Option Addr) (p t n:Nat),Hid (SS wx g (λk=>k<w1.heap.size∨J<=k/\k<V.heap.size) {s with cs:=s.cs.take a.ys.length} a)/\Hid (dY wx 0 (sO (⟨q,y.n1,p,u,y.n2,t,x,y.n3,n,y.c⟩:Cc)::oO (⟨q,y.n1,p,u,y.n2,t,x,y.n3,n,y.c⟩:Cc)::tV (⟨q,y.n1,p,u,y.n2,t,x,y.n3,n,y.c⟩:Cc)::a.rows {s with cs:=s.cs.take a.ys.length}))/\Hid (∀r∈iU (⟨q,y.n1,p,u,y.n2,t,x,y.n3,n,y.c⟩:Cc),∀b,r.v.ownBlock=aK b->a.fr {s with cs:=s.cs.take a.ys.length} g (λk=>k<w1.heap.size∨J<=k/\k<V.heap.size) b)/\Hid (∀o,wx.cell? ⟨J,o,aJ⟩=(#[aA q y.n1 p,aB aI (y.c.z:Int),aB aI (y.c.r:Int),aB aI (y.c.o:Int),aA u y.n2 t,aA x y.n3 n]:Array Value)[o]?)/\J<wx.heap.size/\Hid (Below w1.heap.size w1 wx))
    case first=>
     go_region_law (first | (go_simp;go_at_call 37;refine(cloneS y.a1 y.n1 y.c1 y.c.ns _ HL1.out hb1 HR1.out).mono ?_;rintro ev wa ⟨q,p,rfl,hoa,j⟩;have KA:=aQ HED.out VH j;have FA:=aU Xb.out VH j;have U:=gI VH j.size;have ka4:=KA 4;have ka5:=KA 5;simp only[gB,gC,gD]at ka4 ka5) | (go_simp;go_at_call 38;refine(aBf y.a2 y.n2 y.c2 y.c.sl _ HL2.out hb2 (HR2.out.below j)).mono ?_;rintro ev wb ⟨u,t,rfl,hob,B⟩;have KB:=aQ KA U B;have FB:=aU FA U B;have SB:=gI U B.size;have kb5:=KB 5;simp only[gB,gC,gD]at kb5) | (go_simp;go_at_call 35;refine(YA y.a3 y.n3 y.c3 y.c.ac _ HL3.out hb3 (HR3.out.below (gW j B))).mono ?_;rintro ev wc' ⟨x,n,rfl,hoc,A⟩;have KC:=aQ KB SB A;have FC:=aU FB SB A;have SC:=gI SB A.size;have fc0:=FC 0;have fc4:=FC 4;have fc5:=FC 5;have kc0:=KC 0;have kc4:=KC 4;have kc5:=KC 5;simp only[gB,gC,gD]at kc0 kc4 kc5))
     all_goals
      have KX:=aW (aW (aW KC 0 (aA q y.n1 p)) 4 (aA u y.n2 t)) 5 (aA x y.n3 n);simp only[gE,gG,gH]at KX;have aJP:=gW HD5.out (gW j (gW B A));have kP:=gS (gS (gS (gW HB5.out aJP) J 0 aDO (aA q y.n1 p)) J 4 aDO (aA u y.n2 t)) J 5 aDO (aA x y.n3 n);have hsx:J<(((wc'.setCell ⟨J,0,aJ⟩ (aA q y.n1 p)).setCell ⟨J,4,aJ⟩ (aA u y.n2 t)).setCell ⟨J,5,aJ⟩ (aA x y.n3 n)).heap.size:=by simp;exact SC
      obtain⟨t1,t2,t3⟩:=HS5.out.three (y:=(⟨q,y.n1,p,u,y.n2,t,x,y.n3,n,y.c⟩:Cc)) (.inr ⟨gT _,Kv⟩) HD5.out j B A hoa hob hoc 0 4 5 (aA q y.n1 p) (aA u y.n2 t) (aA x y.n3 n);clear kc0 kc4 kc5 ka4 ka5 kb5 fc0 fc4 fc5 e0 e4 e5;go_wp2_with fail
      go_meet
      exact⟨q,u,x,p,t,n,t1,t2,t3,KX,hsx,kP⟩
    case rest=>
     clear HE HEF HR1 HR2 HR3 hb1 hb2 hb3 HL1 HL2 HL3 HD5 HED Xb VH e0 e4 e5 HS5 HB5 H;obtain⟨q,u,x,p,t,n,R,HOx,HFx,E,hsx,Z⟩:=hcut;have k6:=R.out.k 6;have q0:=E.out 0;have q1:=E.out 1;have q2:=E.out 2;have q3:=E.out 3;have q4:=E.out 4;have q5:=E.out 5;unfold Sc.vals at k6;simp only[gB,gC,gD]at k6 q0 q1 q2 q3 q4 q5;have ba:=aT wc (aO #[aA q y.n1 p,aB aI (y.c.z:Int),aB aI (y.c.r:Int),aB aI (y.c.o:Int),aA u y.n2 t,aA x y.n3 n] 67);have P:=gO (R.out.below ba);have HO8:=gO (HOx.out.below ba);have hnw:=(World.news_of_block (heap_alloc_new wc (aO #[aA q y.n1 p,aB aI (y.c.z:Int),aB aI (y.c.r:Int),aB aI (y.c.o:Int),aA u y.n2 t,aA x y.n3 n] 67)))
     have zA:=gO hnw;have HB8:=gO (gW Z.out ba);obtain⟨ti,hti,htz,hts,htb⟩:=info_parts TJ;have NQ:Hid ((oD a).v.ownBlock≠aK g):=λe=>(P.out.r.og _ (jV a _) g e).1 rfl
     have aGl:(oD a).on (wc.alloc (aO #[aA q y.n1 p,aB aI (y.c.z:Int),aB aI (y.c.r:Int),aB aI (y.c.o:Int),aA u y.n2 t,aA x y.n3 n] 67)) 0:=P.out.r.own.each _ (jV a _);have HCS:=gO aGl;have hgs:=R.out.r.hr.gs;have hvl:a.ys.length<=20:=by omega
     have aOy:w1.heap.size<=wc.heap.size:=Z.out.size;clear hnw ba E R HOx Z aGl;go_wp2_with (at_builtin;refine wpList_append_lies _ rfl _ _ 40 rfl 0 67 ti (aC #[aA aJ 0 0,aB aI 0,aB aI 0,aB aI 0,aA aJ 0 0,aA aJ 0 0]) 6 96 underlying40 hti htz hts htb rfl (by decide) (aA a.a2 a.ys.length a.c2) a.ys.length (flat fD a.ys) rfl HCS.out ⟨wc.heap.size,0,aJ⟩ 1 1 [aA q y.n1 p,aB aI (y.c.z:Int),aB aI (y.c.r:Int),aB aI (y.c.o:Int),aA u y.n2 t,aA x y.n3 n] rfl rfl zA.out (by simp[Value.oneCell']) (by decide) (by unfold maxLen;omega) (by omega) (gU _) _ rfl ?_;intro g9 T w9 ho9 O hl9 aBe;have q9:=(bV P.out.k P.out.r.hr.gs O (λe=>NQ.out e.symm) 6).trans (show _=aK (aA a.a2 a.ys.length a.c2)from rfl);have f9:=bY P.out.fz P.out.r.hr.gs O (λe=>NQ.out e.symm) 6)
     obtain⟨hs9,sf9⟩:=P.out.aFL (y:=(⟨q,y.n1,p,u,y.n2,t,x,y.n3,n,y.c⟩:Cc)) HO8.out HFx.out O (by rw[bG,iC];exact ho9) (by
      rcases hl9 with S | S
      ·exact .inl S
      ·exact .inr (Nat.le_of_eq S.symm))
     have aGn:s.cs.take a.ys.length++[y.c]=s.cs.take (a.ys.length+1):=by
      rw[List.take_succ_eq_append_getElem M,HEL.out]
     simp only[aGn]at hs9;have l:=gO (hs9.sub (Y:=λk=>k<w1.heap.size) λk hk=> .inl hk);have hgb:w1.heap.size<=g:=Nat.le_of_not_lt λh=>P.out.r.hr.xg (.inl h)
     have HB9:Hid (Below w1.heap.size w1 (w9.setCell ⟨g,6,aJ⟩ (aA (aK ⟨g9,0,aJ⟩) (a.ys.length+1) T))):=gS (Below.grown HB8.out O HB8.out.size (λk hk=>Nat.le_of_not_lt λh=>(P.out.r.og _ (jV a _) k hk).2 (.inl h))) g 6 hgb (aA (aK ⟨g9,0,aJ⟩) (a.ys.length+1) T);clear hs9 sf9 aGn ho9 O hl9 P HO8 zA HB8 NQ HCS HFx q9 f9 aBe;go_roundw
     case rel=>exact⟨a.ys.length+1,_,by omega,by go_num,by simp,l,HB9⟩
     case measure=>simp[intOf];omega
   ·have hie:a.ys.length=v.ys.length:=by omega
    have l:Hid (SS wr g (λk=>k<w1.heap.size) s a):=by
     have S:=lD.out;rw[hie,gTf (by rw[<- HS.out.cy,gTe];exact gT _)]at S;exact S
    have x0:=l.out.k 0;have x1:=l.out.k 1;have x2:=l.out.k 2;have x3:=l.out.k 3;have x4:=l.out.k 4;have x5:=l.out.k 5;have x6:=l.out.k 6;unfold Sc.vals at x0 x1 x2 x3 x4 x5 x6;have Q:=aQ K2h.out m oH.out;have F2r:=aU F2h.out m oH.out;have y0:=Q 0;have y1:=Q 1;have y2:=Q 2;have y3:=Q 3;have y4:=Q 4;have y5:=Q 5;have y6:=Q 6;obtain⟨f0,f1,f2,f3,f4,f5,f6⟩:=gF7 F2r;simp only[gB,gC,gD]at x0 x1 x2 x3 x4 x5 x6 y0 y1 y2 y3 y4 y5 y6;have KX:=(qU Q a s)
    have pO:=gO (((((((l.out.dQ m 0 (aA a.a1 a.n1 a.c1)).dQ m 1 (aA a.hc.az 2 a.hc.cz)).dQ m 2 (aA a.hc.am 2 a.hc.cm)).dQ m 3 (aB aI (s.h.aP:Int))).dQ m 4 (aA a.hc.al a.hc.lc.length a.hc.cl)).dQ m 5 (aA a.hc.av s.h.live.length a.hc.cv)).dQ m 6 (aA a.a2 a.ys.length a.c2));have hle1:w.heap.size<=w.heap.size+1:=Nat.le_succ _;have HBX2:=gO (dX (Below.trans C.out (oH.out.mono (C.out.size))) hle1 a s);have hnlt:¬(a.ys.length:Int)<v.ys.length:=by omega
    clear hie Q F2r K;go_wp2
    generalize ((((((wr.setCell _ _).setCell _ _).setCell _ _).setCell _ _).setCell _ _).setCell _ _).setCell _ _=wx at*;refine bodyPost_ret (v:=aC #[aA a.a1 a.n1 a.c1,aA a.hc.az 2 a.hc.cz,aA a.hc.am 2 a.hc.cm,aB aI (s.h.aP:Int),aA a.hc.al a.hc.lc.length a.hc.cl,aA a.hc.av s.h.live.length a.hc.cv,aA a.a2 a.ys.length a.c2]) (by simp[results,results12,go_sem,KX]) rfl ⟨a,rfl,pO.out.r.toX (by have:=C.out.size;show w.heap.size<w1.heap.size;omega) (λk hk=>by have:=C.out.size;exact gI hk this) (Nat.lt_irrefl _),HBX2.out⟩
theorem IZ (v:Sc)(s:Sy)(n:List UInt8)(w:World)(hs:nO w v s)(hf:∀c∈s.cs,c.ns.length<=1000)(hyl:v.ys.length<=20):
 Calls prog 99 #[aC #[aA v.a1 v.n1 v.c1,aA v.hc.az 2 v.hc.cz,aA v.hc.am 2 v.hc.cm,aB aI s.h.aP,aA v.hc.al v.hc.lc.length v.hc.cl,aA v.hc.av s.h.live.length v.hc.cv,aA v.a2 v.ys.length v.c2],aF ⟨n.toArray⟩] w λev w'=>ev=aN (aG #[aB aI (dV (λc=>c.ns.contains n) s.cs),.bool (decide (0<=dV (λc=>c.ns.contains n) s.cs))])/\Below w.heap.size w w':=by
 have o:∀b w,(callFunc 129 b).run prog w= .ok (.enter 129 b) w:=enters_of func129 (by kernel_rfl) rfl;obtain⟨m,l,x,r,f,d⟩:=boxes2 w #[aA v.a1 v.n1 v.c1,aA v.hc.az 2 v.hc.cz,aA v.hc.am 2 v.hc.cm,aB aI (s.h.aP:Int),aA v.hc.al v.hc.lc.length v.hc.cl,aA v.hc.av s.h.live.length v.hc.cv,aA v.a2 v.ys.length v.c2] 42 #[aF ⟨n.toArray⟩] 9;have z:=m 6;have q:=l 0;simp only[gB,gC,gD]at z q;have a:=hs.below d;have g:dV (λy:Cc=>y.c.ns.contains n) v.ys=dV (λc=>c.ns.contains n) s.cs:=by
  rw[<- hs.cy];unfold dV;rw[List.findIdx?_map];rfl
 have hcall:=wJ v.a2 v.ys.length v.c2 v.ys 129 #[aH (aK ⟨w.heap.size+1,0,aJ⟩)] (λy=>y.c.ns.contains n) _ rfl (by omega) a.rc o (λW i y j=>UU y n (w.heap.size+1) W ((a.below i).ca y j) (by
  have B:=(a.ca y j).l1;have A:=hf y.c (by rw[<- hs.cy];exact List.mem_map_of_mem j);omega) (gI f i.size) ((i.cell (p:=⟨w.heap.size+1,0,aJ⟩) f).trans q))
 rw[g]at hcall;have u:=gO hcall;have t:=gO d;clear o m l x r d hs a hcall g;go_enter func99,ntmps99
 go_wp2_with (go_at_call 72;refine u.out.mono ?_;rintro e w' ⟨rfl,k⟩)
 refine bodyPost_ret (v:=aG #[aB aI (dV (λc=>c.ns.contains n) s.cs),.bool (decide (0<=dV (λc=>c.ns.contains n) s.cs))]) (by simp[results,results99,go_sem]) rfl ⟨rfl,gW t.out k⟩
def YI (v':Sc)(s:Sy)(i:Nat):Value:=aG #[.agg (v'.vals s),aB aI (i:Int),aB aI 0]
theorem Em (v:Sc)(s:Sy)(n:List UInt8)(cpu i:Nat)(w:World)(hs:nO w v s)(hk:cZ s)(hf:∀c∈s.cs,c.ns.length<=1000)(hi:s.named n=aK i)(dA:cpu<s.h.aP):
 Calls prog 57 #[aC #[aA v.a1 v.n1 v.c1,aA v.hc.az 2 v.hc.cz,aA v.hc.am 2 v.hc.cm,aB aI s.h.aP,aA v.hc.al v.hc.lc.length v.hc.cl,aA v.hc.av s.h.live.length v.hc.cv,aA v.a2 v.ys.length v.c2],aF ⟨n.toArray⟩,aB aI cpu] w λev w'=>∃v',ev=aN (YI v' s i)/\iI w' w.heap.size s v'/\Below w.heap.size w w':=by
 obtain⟨N,K2,F1,F2,Q,g⟩:=boxes2 w #[aA v.a1 v.n1 v.c1,aA v.hc.az 2 v.hc.cz,aA v.hc.am 2 v.hc.cm,aB aI (s.h.aP:Int),aA v.hc.al v.hc.lc.length v.hc.cl,aA v.hc.av s.h.live.length v.hc.cv,aA v.a2 v.ys.length v.c2] 42 #[aA aJ 0 0,aA aJ 0 0,aA aJ 0 0,aB aI 0,aA aJ 0 0,aA aJ 0 0,aA aJ 0 0] 42;have z:=hs.below g;have X:v.ys.length<=20:=by have:=congrArg List.length hs.cy;rw[gTe]at this;rw[this];exact hk.cl
 have C:dV (λc:Ca=>c.ns.contains n) s.cs=(i:Int):=by
  unfold Sy.named at hi;unfold dV;rw[hi]
 obtain⟨I,k1,k2,t,H,G,J⟩:=gA7 N;have W:=gO hf;have HK:=gO hk;have q:=gO z;have R:=gO g;have O:=gO N;have P:=gO K2;have Y:=gO F2;have hc0:¬(cpu:Int)<0:=by omega
 have hc1:¬(s.h.aP:Int)<=cpu:=by omega
 have U:(0:Int)<=i:=by omega
 have E:w.heap.size<((w.alloc (aO #[aA v.a1 v.n1 v.c1,aA v.hc.az 2 v.hc.cz,aA v.hc.am 2 v.hc.cm,aB aI (s.h.aP:Int),aA v.hc.al v.hc.lc.length v.hc.cl,aA v.hc.av s.h.live.length v.hc.cv,aA v.a2 v.ys.length v.c2] 42)).alloc (aO #[aA aJ 0 0,aA aJ 0 0,aA aJ 0 0,aB aI 0,aA aJ 0 0,aA aJ 0 0,aA aJ 0 0] 42)).heap.size:=by simp;omega
 clear hs hk hf hi N K2 F1 F2 z g;go_enter func57,ntmps57
 go_upto_region 1 with fail
 generalize (w.alloc _).alloc _=Z at*;go_upto_region 4 with (go_at_call 11;refine(nJ v s Z q.out HK.out W.out).mono ?_;rintro ev w3 ⟨rfl,f⟩)
 have o:=gO (q.out.below f);have j:=gO (aQ O.out E f);have M:=gI E f.size;clear I k1 k2 t H G J;obtain⟨I,k1,k2,t,H,G,J⟩:=gA7 j.out;have a:=IZ v s n w3 o.out W.out X;rw[C,gTg U]at a;have KN:=gO a;have L:=gO f;clear a C;go_upto_region 9 with (go_at_call 99;refine KN.out.mono ?_;rintro ev K ⟨rfl,d⟩;have V:=(d.cell (p:=⟨w.heap.size,3,aJ⟩) M).trans t)
 have x:=o.out.below d;have r:=aQ j.out M d;have aMh:=gI M d.size;clear I k1 k2 t H G J V;obtain⟨I,k1,k2,t,H,G,J⟩:=gA7 r;have Ot:=gO (qV v s K x HK.out W.out);have e:=gO (gW L.out d);have l:w.heap.size+1<Z.heap.size:=Q;clear x r d j KN;have y:=e.out.size;go_wp2_with (go_at_call 12;refine Ot.out.mono ?_;rintro ev w5 ⟨v',he,D,m⟩;unfold Sc.vals at he;subst he;have u:=aQ P.out l (gW e.out m);have T:=aU Y.out l (gW e.out m);obtain⟨y0,y1,y2,y3,y4,y5,y6⟩:=gA7 u;obtain⟨f0,f1,f2,f3,f4,f5,f6⟩:=gF7 T;skip)
 have b:(λk=>k<K.heap.size) (w.heap.size+1):=gI l y;have A:w.heap.size<=Z.heap.size:=by omega
 have S:=gW e.out m;have KX:=(qU u v' s)
 have pO:=(SR.dQ (SR.dQ (SR.dQ (SR.dQ (SR.dQ (SR.dQ (SR.dQ D b 0 (aA v'.a1 v'.n1 v'.c1)) b 1 (aA v'.hc.az 2 v'.hc.cz)) b 2 (aA v'.hc.am 2 v'.hc.cm)) b 3 (aB aI (s.h.aP:Int))) b 4 (aA v'.hc.al v'.hc.lc.length v'.hc.cl)) b 5 (aA v'.hc.av s.h.live.length v'.hc.cv)) b 6 (aA v'.a2 v'.ys.length v'.c2))
 have B:w.heap.size<=w.heap.size+1:=Nat.le_succ _;have F:=gO (dX (Below.trans R.out (S.mono A)) B v' s);generalize ((((((w5.setCell _ _).setCell _ _).setCell _ _).setCell _ _).setCell _ _).setCell _ _).setCell _ _=wx at*;refine bodyPost_ret (v:=aG #[aC #[aA v'.a1 v'.n1 v'.c1,aA v'.hc.az 2 v'.hc.cz,aA v'.hc.am 2 v'.hc.cm,aB aI (s.h.aP:Int),aA v'.hc.al v'.hc.lc.length v'.hc.cl,aA v'.hc.av s.h.live.length v'.hc.cv,aA v'.a2 v'.ys.length v'.c2],aB aI (i:Int),aB aI 0]) (by simp[results,results57,go_sem,KX]) rfl ⟨v',rfl,pO.toX (by show w.heap.size<K.heap.size;omega) (λk hk=>gI hk (gQ A y)) (Nat.lt_irrefl _),F.out⟩
theorem TN (k:Nat):fV k<=2:=by unfold fV;split <;> (try split) <;> omega
theorem lN.base {B':Nat}(hn:lN W B h c)(hb:B'<=B):lN W B' h c:=
 HR.any hn (Nat.lt_of_le_of_lt hb hn.gs) (λq a k e=>by
  have g:¬k<B:=by
   rcases gZ.1 a with a | a
   ·exact(hn.og q a k e).2
   ·exact hn.rx q a k e
  have f:k≠B:=λb=>by
   subst b;rcases gZ.1 a with a | a
   ·exact(hn.og q a k e).1 rfl
   ·exact hn.rg q a e
  exact⟨by omega,by omega⟩) (λk d=>by have:=hn.gs;omega) (Nat.lt_irrefl _)
theorem lN.far (hn:lN W B h c){g:Nat}(hg:g<=B)(i:Nat)(u:Value):lN (W.setCell ⟨g,i,aJ⟩ u) B h c:=
 HR.kept hn (Y:=λk=>k≠g) ((Safe.refl _ W).set (by simp) i u) λq a k e d=>by
  subst d;rcases Nat.lt_or_ge k B with b | b
  ·rcases gZ.1 a with a | a
   ·exact(hn.og q a k e).2 b
   ·exact hn.rx q a k e b
  ·obtain rfl:k=B:=by omega
   rcases gZ.1 a with a | a
   ·exact(hn.og q a k e).1 rfl
   ·exact hn.rg q a e
theorem aDW {l:List Sl}{a k:Nat}(hk:k<=l.length)(h1:∀x∈l.take k,x.p<a)(h2:∀h:k<l.length,¬l[k].p<a):Qo l a=k:=by
 unfold Qo;have e:l=l.take k++l.drop k:=(List.take_append_drop k l).symm;rw[e,List.takeWhile_append_of_pos (by
  intro x c;simpa using h1 x c)]
 have b:(l.drop k).takeWhile (λx=>decide (x.p<a))=[]:=by
  rcases Nat.lt_or_ge k l.length with h | h
  ·rw[List.drop_eq_getElem_cons h,List.takeWhile_cons_of_neg (by simpa using h2 h)]
  ·rw[List.drop_eq_nil_of_le h];rfl
 rw[b,List.append_nil,gTc];omega
def aGt (v:Sc)(s:Sy)(i cpu:Nat)(c:Ca)(G:Nat)(X:Nat->Prop)(w:World)(ev:Ending)(w':World):Prop:=(s.grow i cpu c=aJ/\ev=aN (aG #[aB aI 0,aB aI 6])/\Below w.heap.size w w')∨(∃(b:Sy) (k:Nat) (a:Sc),s.grow i cpu c=aK (b,k)/\ev=aN (aG #[aB aI k,aB aI 0])/\SS w' G X b a/\Safe X w w'/\a.a2=v.a2)
theorem YM (v:Sc)(s:Sy)(G i cpu:Nat)(X:Nat->Prop)(w:World)(hs:SS w G X s v)(hk:cZ s)(hi:i<v.ys.length)(dA:cpu<s.h.aP)(ho:vP w)(hX0:X 1):
 Calls prog 159 #[aH (aK ⟨G,0,aJ⟩),aB aI i,aB aI cpu] w (aGt v s i cpu v.ys[i].c G X w):=by
 obtain⟨g,ha2,qW,Ov,VJ,n⟩:=hs.r.Vl hi;have hcm:v.ys[i].c∈s.cs:=by rw[<- hs.r.cy];exact List.mem_map_of_mem (gL hi)
 have J:=hk.ck _ hcm;have Z:v.ys[i].c.o<=4:=by rw[J.o];exact gQ (TN _) (by decide)
 have hvl:v.ys.length<=20:=by have:=congrArg List.length hs.r.cy;rw[gTe]at this;rw[this];exact hk.cl
 have Kw:s.h.live.length<=1000:=gQ hk.hk.jM (by decide);have YF:v.hc.lc.length<=1000:=by
  have h1:=congrArg List.length hs.r.hr.ll;rw[gTe]at h1;rw[h1];exact gQ hk.hk.pK (by decide)
 have hii:(i:Int)<v.ys.length:=by omega
 obtain⟨y,hy⟩:∃y,v.ys[i]=y:=⟨_,rfl⟩
 have HY:=gO hy;rw[hy]at n J Z ⊢;obtain⟨b0,f0⟩:=n 0 (by decide);obtain⟨V,f1⟩:=n 1 (by decide);obtain⟨b2,f2⟩:=n 2 (by decide);obtain⟨b3,f3⟩:=n 3 (by decide);obtain⟨b4,f4⟩:=n 4 (by decide);simp only[fD,vI,gC,gD,Nat.add_zero]at b0 V b2 b3 b4;have g1:=hs.k 1;have g2:=hs.k 2;have g3:=hs.k 3;have g4:=hs.k 4;have g5:=hs.k 5;have g6:=hs.k 6;unfold Sc.vals at g1 g2 g3 g4 g5 g6;simp only[gB,gC,gD]at g1 g2 g3 g4 g5 g6;rw[ha2]at g6;have hA:=fun(W:World) (S:Below w.heap.size w W)=>CB v.hc.az v.hc.am v.hc.al v.hc.av v.hc.cz v.hc.cm v.hc.cl v.hc.cv _ _ _ _ _ s.h cpu y.c.o 0 W (hs.r.hr.at.below S) hk.hk YF Kw dA Z (by decide) (by decide) (ho.below S)
 have HS:=gO hs;have HK:=gO hk;have HCC:=gO n;have B:=gO J;have L:=hs.r.hr.gs;have hGc:G≠g:=λe=>Ov e.symm
 clear hs hk n hy J hcm;have L1:∀W,Below w.heap.size w W->W.cell? ⟨G,1,aJ⟩=aK (aA v.hc.az 2 v.hc.cz):=λW h=>(h.cell (p:=⟨G,1,aJ⟩) L).trans g1
 have L2:∀W,Below w.heap.size w W->W.cell? ⟨G,2,aJ⟩=aK (aA v.hc.am 2 v.hc.cm):=λW h=>(h.cell (p:=⟨G,2,aJ⟩) L).trans g2
 have L3:∀W,Below w.heap.size w W->W.cell? ⟨G,3,aJ⟩=aK (aB aI (s.h.aP:Int)):=λW h=>(h.cell (p:=⟨G,3,aJ⟩) L).trans g3
 have L4:∀W,Below w.heap.size w W->W.cell? ⟨G,4,aJ⟩=aK (aA v.hc.al v.hc.lc.length v.hc.cl):=λW h=>(h.cell (p:=⟨G,4,aJ⟩) L).trans g4
 have L5:∀W,Below w.heap.size w W->W.cell? ⟨G,5,aJ⟩=aK (aA v.hc.av s.h.live.length v.hc.cv):=λW h=>(h.cell (p:=⟨G,5,aJ⟩) L).trans g5
 have L6:∀W,Below w.heap.size w W->W.cell? ⟨g,i*6+3,aJ⟩=aK (aB aI (y.c.o:Int)):=λW h=>(h.cell (p:=⟨g,i*6+3,aJ⟩) qW).trans b3
 clear g1 g2 g3 g4 g5 b3;cases hal:s.h.alloc cpu y.c.o 0 false false with
 | none=>
  have HG:Hid (s.grow i cpu y.c=aJ):=by
   unfold Hid Sy.grow;rw[hal]
  have HA:Hid (∀W,Below w.heap.size w W->Calls prog 52 #[aC #[aA v.hc.az 2 v.hc.cz,aA v.hc.am 2 v.hc.cm,aB aI s.h.aP,aA v.hc.al v.hc.lc.length v.hc.cl,aA v.hc.av s.h.live.length v.hc.cv],aB aI cpu,aB aI y.c.o,aB aI 0] W λM N=>M=aN (aG #[aC #[aA aJ 0 0,aA aJ 0 0,aB aI 0,aA aJ 0 0,aA aJ 0 0],aB aI 0,aB aI 6])/\Below W.heap.size W N):=λW S=>by
   refine(hA W S).mono ?_;rintro M N ⟨hb,⟨_,h⟩ | ⟨l,a,d,h,_⟩⟩
   ·exact⟨h,hb⟩
   ·rw[show s.h.alloc cpu y.c.o (mP 0) (decide (0/8%2=1)) (decide (0%2=1))=s.h.alloc cpu y.c.o 0 false false from rfl,hal]at h;cases h
  clear hA hal;go_enter func159,ntmps159
  go_upto_region 2 with fail
  go_region_held3 (λW=>Below w.heap.size w W) ((repeat (first | with_reducible assumption | with_reducible exact gX _ _ | with_reducible refine Below.setCell ?_ ?_ _ | with_reducible apply Below.drew | with_reducible refine gW ?_ (aT _ _) | with_reducible refine gW ?_ (by with_reducible assumption) | (simp only;omega))))(first | (go_at_call 52;refine(HA.out _ (by assumption)).mono ?_;rintro M w1 ⟨rfl,I⟩;(try ((have C:Below ((w.alloc (.cells (#[aA aJ 0 0,aA aJ 0 0,aB aI 0,aA aJ 0 0,aA aJ 0 0]:Array Value) 39)).drew).heap.size ((w.alloc (.cells (#[aA aJ 0 0,aA aJ 0 0,aB aI 0,aA aJ 0 0,aA aJ 0 0]:Array Value) 39)).drew) w1:=by with_reducible exact I);have KA:=aQ (w1:=((w.alloc (.cells (#[aA aJ 0 0,aA aJ 0 0,aB aI 0,aA aJ 0 0,aA aJ 0 0]:Array Value) 39)).drew)) (λo=>bI w #[aA aJ 0 0,aA aJ 0 0,aB aI 0,aA aJ 0 0,aA aJ 0 0] 39 o) (show w.heap.size<((w.alloc (.cells (#[aA aJ 0 0,aA aJ 0 0,aB aI 0,aA aJ 0 0,aA aJ 0 0]:Array Value) 39)).drew).heap.size by simp) C;have FA:=aU (w1:=((w.alloc (.cells (#[aA aJ 0 0,aA aJ 0 0,aB aI 0,aA aJ 0 0,aA aJ 0 0]:Array Value) 39)).drew)) (λo=>fP w #[aA aJ 0 0,aA aJ 0 0,aB aI 0,aA aJ 0 0,aA aJ 0 0] 39 o) (show w.heap.size<((w.alloc (.cells (#[aA aJ 0 0,aA aJ 0 0,aB aI 0,aA aJ 0 0,aA aJ 0 0]:Array Value) 39)).drew).heap.size by simp) C))))
  all_goals clear L1 L2 L3 L4 L5 L6 b0 V b2 b4
  all_goals (go_wp2_with fail)
  all_goals exact bodyPost_ret (v:=aG #[aB aI 0,aB aI 6]) (by simp[results,results159,go_sem]) rfl (.inl ⟨HG.out,rfl,by assumption⟩)
 | some r=>
  obtain⟨l,a⟩:=r;have E:=(HK.out.hk.alloc dA Z (by decide) hal).2.2.2.2;have HA:Hid (∀W,Below w.heap.size w W->Calls prog 52 #[aC #[aA v.hc.az 2 v.hc.cz,aA v.hc.am 2 v.hc.cm,aB aI s.h.aP,aA v.hc.al v.hc.lc.length v.hc.cl,aA v.hc.av s.h.live.length v.hc.cv],aB aI cpu,aB aI y.c.o,aB aI 0] W λM N=>∃d:Hc,M=aN (aG #[aC #[aA d.az 2 d.cz,aA d.am 2 d.cm,aB aI (l.aP:Int),aA d.al d.lc.length d.cl,aA d.av l.live.length d.cv],aB aI a,aB aI 0])/\lN N W.heap.size l d/\Below W.heap.size W N):=λW S=>by
   refine(hA W S).mono ?_;rintro M N ⟨hb,⟨h,_⟩ | ⟨h2,a2,d,h,h3,h4⟩⟩
   ·rw[show s.h.alloc cpu y.c.o (mP 0) (decide (0/8%2=1)) (decide (0%2=1))=s.h.alloc cpu y.c.o 0 false false from rfl,hal]at h;cases h
   ·rw[show s.h.alloc cpu y.c.o (mP 0) (decide (0/8%2=1)) (decide (0%2=1))=s.h.alloc cpu y.c.o 0 false false from rfl,hal]at h;obtain⟨rfl,rfl⟩:l=h2/\a=a2:=by simpa using h
    exact⟨d,h3,h4,hb⟩
  have Ea:=gO hal;clear hA hal;go_enter func159,ntmps159
  go_upto_region 2 with fail
  go_cut [9,10,11] (λs9 s10 s11 wx=>∃(b9:Nat) (d:Hc),s9=aH (aK ⟨b9,0,aJ⟩)/\s10=aB aI (a:Int)/\s11=aB aI 0/\Hid (lN wx w.heap.size l d)/\Hid (∀o,wx.cell? ⟨b9,o,aJ⟩=(#[aA d.az 2 d.cz,aA d.am 2 d.cm,aB aI (l.aP:Int),aA d.al d.lc.length d.cl,aA d.av l.live.length d.cv]:Array Value)[o]?)/\b9<wx.heap.size/\w.heap.size<=b9/\Hid (Below w.heap.size w wx))
  case first=>
   go_region_held3 (λW=>Below w.heap.size w W) ((repeat (first | with_reducible assumption | with_reducible exact gX _ _ | with_reducible refine Below.setCell ?_ ?_ _ | with_reducible apply Below.drew | with_reducible refine gW ?_ (aT _ _) | with_reducible refine gW ?_ (by with_reducible assumption) | (simp only;omega))))(first | (go_at_call 52;refine(HA.out _ (by assumption)).mono ?_;rintro M w1 ⟨d,rfl,hn1,I⟩;(try ((have C:Below ((w.alloc (.cells (#[aA aJ 0 0,aA aJ 0 0,aB aI 0,aA aJ 0 0,aA aJ 0 0]:Array Value) 39)).drew).heap.size ((w.alloc (.cells (#[aA aJ 0 0,aA aJ 0 0,aB aI 0,aA aJ 0 0,aA aJ 0 0]:Array Value) 39)).drew) w1:=by with_reducible exact I);have KA:=aQ (w1:=((w.alloc (.cells (#[aA aJ 0 0,aA aJ 0 0,aB aI 0,aA aJ 0 0,aA aJ 0 0]:Array Value) 39)).drew)) (λo=>bI w #[aA aJ 0 0,aA aJ 0 0,aB aI 0,aA aJ 0 0,aA aJ 0 0] 39 o) (show w.heap.size<((w.alloc (.cells (#[aA aJ 0 0,aA aJ 0 0,aB aI 0,aA aJ 0 0,aA aJ 0 0]:Array Value) 39)).drew).heap.size by simp) C;have FA:=aU (w1:=((w.alloc (.cells (#[aA aJ 0 0,aA aJ 0 0,aB aI 0,aA aJ 0 0,aA aJ 0 0]:Array Value) 39)).drew)) (λo=>fP w #[aA aJ 0 0,aA aJ 0 0,aB aI 0,aA aJ 0 0,aA aJ 0 0] 39 o) (show w.heap.size<((w.alloc (.cells (#[aA aJ 0 0,aA aJ 0 0,aB aI 0,aA aJ 0 0,aA aJ 0 0]:Array Value) 39)).drew).heap.size by simp) C))))
   ·go_wp2_with fail
    go_meet
    have O:lN _ w.heap.size l d:=HR.below hn1 (aT w1 (aO #[aA d.az 2 d.cz,aA d.am 2 d.cm,aB aI (l.aP:Int),aA d.al d.lc.length d.cl,aA d.av l.live.length d.cv] 39));exact⟨w1.heap.size,d,rfl,rfl,rfl,O,bI _ _ _,by simp,I.size,by assumption⟩
   ·go_wp2_with fail
    go_meet
    have hs1:=I.size;simp at hs1;have O:lN w1 w.heap.size l d:=hn1.base (by simp);have hn3:=(lN.far (lN.far (lN.far (lN.far (lN.far O (gT _) 0 (aA d.az 2 d.cz)) (gT _) 1 (aA d.am 2 d.cm)) (gT _) 2 (aB aI (l.aP:Int))) (gT _) 3 (aA d.al d.lc.length d.cl)) (gT _) 4 (aA d.av l.live.length d.cv))
    have KX:=(aW (aW (aW (aW (aW KA 0 (aA d.az 2 d.cz)) 1 (aA d.am 2 d.cm)) 2 (aB aI (l.aP:Int))) 3 (aA d.al d.lc.length d.cl)) 4 (aA d.av l.live.length d.cv))
    simp only[gE,gG,gH]at KX;exact⟨w.heap.size,d,rfl,rfl,rfl,hn3,KX,by simp;omega,gT _,by assumption⟩
  case rest=>
   obtain⟨b9,d,rfl,rfl,rfl,HN,HK9,hb9,aJW,f⟩:=hcut;clear HA L1 L2 L3 L4 L5 L6 b0 V b2 b4 f0 f1 f2 f3 f4 g6;have g0:=HS.out.k 0;unfold Sc.vals at g0;simp only[gB,gC,gD]at g0;have V:=(HCC.out 1 (by decide)).1;have b2:=(HCC.out 2 (by decide)).1;simp only[fD,vI,gC,gD]at V b2;have g0':=(f.out.cell (p:=⟨G,0,aJ⟩) L).trans g0;have b1':=(f.out.cell (p:=⟨g,i*6+1,aJ⟩) qW).trans V;have b2':=(f.out.cell (p:=⟨g,i*6+2,aJ⟩) qW).trans b2;clear g0 V b2;go_upto_region 5 with fail
   have LA:∀W,Below wc.heap.size wc W->W.cell? ⟨G,0,aJ⟩=aK (aA v.a1 v.n1 v.c1):=λW h=>(h.cell (p:=⟨G,0,aJ⟩) (gI L f.out.size)).trans g0'
   have LB:∀W,Below wc.heap.size wc W->W.cell? ⟨g,i*6+1,aJ⟩=aK (aB aI (y.c.z:Int)):=λW h=>(h.cell (p:=⟨g,i*6+1,aJ⟩) (gI qW f.out.size)).trans b1'
   have LC:∀W,Below wc.heap.size wc W->W.cell? ⟨g,i*6+2,aJ⟩=aK (aB aI (y.c.r:Int)):=λW h=>(h.cell (p:=⟨g,i*6+2,aJ⟩) (gI qW f.out.size)).trans b2'
   have haa:a<256:=E.2.2.1;have aGu:a+2^y.c.o<=256:=by
    have h2:y.c.o<=2:=by rw[B.out.o];exact TN _
    obtain⟨_,_,h3,h4⟩:=E;generalize y.c.o=o at*;obtain rfl | rfl | rfl:o=0∨o=1∨o=2:=by omega
    ·omega
    ·omega
    ·omega
   have hsr:=HS.out.r.at.rw.below f.out;have hwl:=HK.out.wl;have hlw:=HS.out.r.at.lw;have hin:16*a+y.c.z*y.c.r<=s.w.length:=by
    have h1:y.c.r*y.c.z<=16*2^y.c.o:=by
     rw[B.out.r,B.out.o];exact Nat.div_mul_le_self _ _
    rw[Nat.mul_comm y.c.z,hwl];generalize y.c.r*y.c.z=m at*;generalize 2^y.c.o=q at*;omega
   have hr1:1<=y.c.r:=by
    rw[B.out.r];unfold iR;rw[Nat.le_div_iff_mul_le (by have:=B.out.z.1;omega)];have:=B.out.z.2;unfold fV;split
    ·rename_i h;rw[Nat.le_div_iff_mul_le (by have:=B.out.z.1;omega)]at h;omega
    ·split
     ·rename_i h;rw[Nat.le_div_iff_mul_le (by have:=B.out.z.1;omega)]at h;omega
     ·omega
   have VK:=B.out.r64;have Ox:Hid (∀W,Below wc.heap.size wc W->Calls prog 176 #[aA v.a1 v.n1 v.c1,aB aI ((a:Int)*16),aB aI y.c.z,aB aI y.c.r] W λe N=>∃a' d,e=aN (aG #[aA a' v.n1 d,aB aI 0])/\N.ownsRow W.heap.size 3 1 (aA a' v.n1 d) v.n1 ((chainTo s.w (16*a) y.c.z y.c.r y.c.r).map vI)/\Below W.heap.size W N):=λW S=>by
    have h:=Xp v.a1 v.c1 s.w (16*a) y.c.z y.c.r W (by omega) (hsr.below S) B.out.z.1 B.out.z.2 hr1 (by omega) hin;rw[hlw,show((16*a:Nat):Int)=(a:Int)*16 by omega]at h;exact h
   have hwr:IntKind.i64.wrap ((a:Int)*16)=(a:Int)*16:=IntWalk.i64_in _ (by omega);clear g0' b1' b2' hsr hin hr1 hwl hlw;go_region_held3 (λW=>Below wc.heap.size wc W) ((repeat (first | with_reducible assumption | with_reducible exact gX _ _ | with_reducible refine Below.setCell ?_ ?_ _ | with_reducible apply Below.drew | with_reducible refine gW ?_ (aT _ _) | with_reducible refine gW ?_ (by with_reducible assumption) | (simp only;omega))))(first | (go_at_call 176;refine(Ox.out _ (by assumption)).mono ?_;rintro M w2 ⟨a',cc',rfl,ho2,hb2⟩))
   have A:Below wc.heap.size wc w2:=gW ((gX wc.heap.size wc).drew) hb2;have HSW:=HS.out.aFQ f.out HN.out A ho2;have D:=gO HSW.1;have HF1:=gO HSW.2;have KG:=aQ HS.out.k L (gW f.out A);have U:=aU HS.out.fz L (gW f.out A);have K9:=aQ HK9.out hb9 A;have q0:=K9 0;have q1:=K9 1;have q2:=K9 2;have q3:=K9 3;have q4:=K9 4;have z0:=KG 0;have z1:=KG 1;have z2:=KG 2;have z3:=KG 3;have z4:=KG 4;have z5:=KG 5;have p0:=U 0;have p1:=U 1;have p2:=U 2;have p3:=U 3;have p4:=U 4;have p5:=U 5;unfold Sc.vals at z0 z1 z2 z3 z4 z5;simp only[gB,gC,gD]at q0 q1 q2 q3 q4 z0 z1 z2 z3 z4 z5;clear LA LB LC Ox hwr KG U K9 HSW ho2 hb2 VK E HN HK9 f hb9 aJW;go_upto_region 9 with fail
   clear p0 p1 p2 p3 p4 p5 q0 q1 q2 q3 q4 z0 z1 z2 z3 z4 z5;generalize (((((w2.setCell _ _).setCell _ _).setCell _ _).setCell _ _).setCell _ _).setCell _ _=wx at*;have K:i<({v with a1:=a',n1:=v.n1,c1:=cc',hc:=d}:Sc).ys.length:=hi;obtain⟨gc1,KP,Ja,aGv,aGw,YN⟩:=D.out.r.Vl K;obtain rfl:g=gc1:=by rw[ha2]at KP;simpa using KP
   have sD:∀j,j<6->wx.cell? ⟨g,i*6+j,aJ⟩=(fD y)[j]? /\wx.frozen? ⟨g,i*6+j,aJ⟩=false:=λj hj=>by
    have h:=YN j hj;have e:({v with a1:=a',n1:=v.n1,c1:=cc',hc:=d}:Sc).ys[i]=y:=HY.out;rw[e]at h;exact h
   have hym:y∈({v with a1:=a',n1:=v.n1,c1:=cc',hc:=d}:Sc).ys:=by rw[<- HY.out];exact gL hi
   have Y:=D.out.r.at.ca y hym;have hsl:=B.out.nS HK.out.hk;have hl2:=Y.l2;have O:y.n2<=256:=by omega
   have HR2:=gO Y.r2;have x4:=(sD 4 (by decide)).1;simp only[fD,vI,gC,gD]at x4;have HC2:=gO sD;have aJY:=D.out.r.aCs K HY.out KP;clear aGu;have hwr:IntKind.i64.wrap ((a:Int)*16)=(a:Int)*16:=IntWalk.i64_in _ (by omega);have HSL:Hid ((oO y).on wx 0):=(D.out.r.y hym).2.1;have x2:=(HC2.out 2 (by decide)).1;have y4:=(HC2.out 4 (by decide)).2;simp only[fD,vI,gC,gD]at x2;clear YN sD Y hsl;go_wp2_with fail
   go_loopw [13] (λu wr=>wr=wx/\∃k:Nat,k<=y.n2/\u=aB aI (k:Int)/\Hid (∀x∈y.c.sl.take k,x.p<a)) (λu _=>y.n2-(intOf u).toNat)
   case atStart=>exact⟨rfl,0,gU _,rfl,λx C=>by simp at C⟩
   case round=>
    obtain⟨rfl,k,hkn,rfl,R⟩:=hrel;obtain⟨b,hb⟩:∃b:Bool,b=decide (∃h:k<y.c.sl.length,y.c.sl[k].p<a):=⟨_,rfl⟩
    have VL:=gO hb;clear hb;go_upto_region 10 with fail
    go_cut [13,84] (λu s84 wz=>wz=wr/\u=aB aI (k:Int)/\s84= .bool b)
    case first=>
     by_cases hlt:k<y.n2
     ·have hki:(k:Int)<y.n2:=by omega
      have H:k<y.c.sl.length:=by omega
      obtain⟨sb,so,hsb,KQ,vU⟩:=aZ aY (by decide) HR2.out H;obtain⟨e0,e1,e2⟩:=iK vU;have hxp:=(B.out.sk _ (gL H)).BF HK.out.hk;rw[hsb]at x4;by_cases hp:y.c.sl[k].p<a
      ·have hpi:(y.c.sl[k].p:Int)<a:=by omega
       have YO:Hid (b=true):=by unfold Hid;rw[VL.out];exact gTg ⟨H,hp⟩
       generalize y.c.sl[k]=x at*;clear vU;go_wp2_with fail
       go_meet
       exact⟨by first | rfl | trivial,by first | rfl | trivial,by rw[YO.out]⟩
      ·have hpi:¬(y.c.sl[k].p:Int)<a:=by omega
       have YO:Hid (b=false):=by unfold Hid;rw[VL.out];exact gV (fun⟨_,h⟩=>hp h)
       generalize y.c.sl[k]=x at*;clear vU;go_wp2_with fail
       go_meet
       exact⟨by first | rfl | trivial,by first | rfl | trivial,by rw[YO.out]⟩
     ·obtain rfl:k=y.n2:=by omega
      have YO:Hid (b=false):=by unfold Hid;rw[VL.out];exact gV (fun⟨h,_⟩=>by omega)
      go_wp2_with fail
      go_meet
      exact⟨by first | rfl | trivial,by first | rfl | trivial,by rw[YO.out]⟩
    case rest=>
     obtain⟨hwz,rfl,rfl⟩:=hcut;obtain rfl:wr=wc:=hwz.symm;cases b with
     | true=>
      obtain⟨H,hp⟩:=of_decide_eq_true VL.out.symm;have HL:Hid (∀x∈y.c.sl.take (k+1),x.p<a):=λx C=>by
       rw[List.take_succ_eq_append_getElem H,gZ,gTa]at C;rcases C with C | rfl
       ·exact R.out x C
       ·exact hp
      clear hp;go_wp2
      go_roundw
      case rel=>exact⟨by first | rfl | trivial,k+1,by omega,by go_num,HL⟩
      case measure=>simp[intOf];omega
     | false=>
      have hnp:=of_decide_eq_false VL.out.symm;have Q:Qo y.c.sl a=k:=aDW (by omega) R.out (λh hp=>hnp ⟨h,hp⟩);clear hnp;go_upto_region 12 with fail
      go_cut [13] (λu wz=>∃v',u=aB aI (k:Int)/\Hid (SS wz G X {w:=chainTo s.w (16*a) y.c.z y.c.r y.c.r,h:=l,cs:=s.cs.set i {y.c with sl:=qL y.c.sl ⟨a,y.c.r,((16*a:Nat):Int)⟩}} v')/\Hid (Safe X w wz)/\Hid (v'.a2=v.a2))
      case first=>
       have T:qL y.c.sl ⟨a,y.c.r,((16*a:Nat):Int)⟩=y.c.sl.take k++⟨a,y.c.r,(a:Int)*16⟩::y.c.sl.drop k:=by
        unfold qL;simp only;rw[Q,show((16*a:Nat):Int)=(a:Int)*16 by omega]
       have t:=((gX wr.heap.size wr).alloc (gT _) (aO #[aB aI (a:Int),aB aI (y.c.r:Int),aB aI ((a:Int)*16)] 99)).drew;have HS4:=gO (D.out.below t);have HSL4:Hid ((oO y).on (wr.alloc (aO #[aB aI (a:Int),aB aI (y.c.r:Int),aB aI ((a:Int)*16)] 99)).drew 0):=own_below HSL.out t (gT _);have Kz:Hid ((wr.alloc (aO #[aB aI (a:Int),aB aI (y.c.r:Int),aB aI ((a:Int)*16)] 99)).drew.heap[wr.heap.size]? =aK (.cells (bQ ⟨a,y.c.r,(a:Int)*16⟩).toArray 99 (0,0))):=heap_alloc_new wr _;have KO:Hid (aK wr.heap.size≠gTh (aA y.a2 y.n2 y.c2)):=λe=>(own_ne HSL.out (.inr (gT _))) e.symm
       have GV:g<(wr.alloc (aO #[aB aI (a:Int),aB aI (y.c.r:Int),aB aI ((a:Int)*16)] 99)).drew.heap.size:=gI Ja t.size;have hx4:(wr.alloc (aO #[aB aI (a:Int),aB aI (y.c.r:Int),aB aI ((a:Int)*16)] 99)).drew.cell? ⟨g,i*6+4,aJ⟩=aK (aA y.a2 y.n2 y.c2):=by
        rw[t.cell (p:=⟨g,i*6+4,aJ⟩) Ja];exact x4
       have hy4:(wr.alloc (aO #[aB aI (a:Int),aB aI (y.c.r:Int),aB aI ((a:Int)*16)] 99)).drew.frozen? ⟨g,i*6+4,aJ⟩=false:=by
        rw[t.frozen (p:=⟨g,i*6+4,aJ⟩) Ja];exact y4
       have HX4:=gO hx4;have HY4:=gO hy4;have YP:Hid (aK g≠(aA y.a2 y.n2 y.c2).ownBlock):=λe=>aJY e.symm
       have HB4:=gO t;clear t hx4 hy4;have aJZ:=gO T;have HLB:=gO Q;have HHI:=gO K;clear Q T K
       go_region_with (go_at_call 177;refine(Vk 0 y.a2 y.n2 y.c2 wr.heap.size k y.c.sl ⟨a,y.c.r,(a:Int)*16⟩ _ HSL4.out hkn (by omega) (gU _) Kz.out KO.out).mono ?_;rintro M w5 ⟨an,cn,rfl,F,P,hl5⟩;have q4:=(World.cell?_of_block (w:=(wr.alloc (aO #[aB aI (a:Int),aB aI (y.c.r:Int),aB aI ((a:Int)*16)] 99)).drew) (a:=⟨g,i*6+4,aJ⟩) (P.block g GV YP.out)).trans HX4.out;have p4:=(World.frozen?_of_block (w:=(wr.alloc (aO #[aB aI (a:Int),aB aI (y.c.r:Int),aB aI ((a:Int)*16)] 99)).drew) (a:=⟨g,i*6+4,aJ⟩) (P.block g GV YP.out)).trans HY4.out)
       all_goals
        obtain⟨v',t1,t2,t3⟩:=HS4.out.Yi HHI.out HY.out F P hl5 KP;rw[<- aJZ.out]at t1;have HT1:=gO t1;have HT2:=gO ((HF1.out.then HB4.out).trans t2);have HT3:Hid (v'.a2=v.a2):=t3;clear t1 t2 t3 q4 p4 F P hl5;go_wp2_with fail
        go_meet
        exact⟨v',by first | rfl | trivial,HT1,HT2,HT3⟩
      case rest=>
       obtain⟨v',rfl,kH,HFZ,HVZ⟩:=hcut;have HGR:Hid (s.grow i cpu y.c=aK ({w:=chainTo s.w (16*a) y.c.z y.c.r y.c.r,h:=l,cs:=s.cs.set i {y.c with sl:=qL y.c.sl ⟨a,y.c.r,((16*a:Nat):Int)⟩}},k)):=by
        unfold Hid Sy.grow;rw[Ea.out];simp only[Q]
       go_wp2_with fail
       exact bodyPost_ret (v:=aG #[aB aI (k:Int),aB aI 0]) (by simp[results,results159,go_sem]) rfl (.inr ⟨_,k,v',HGR.out,rfl,kH.out,HFZ.out,HVZ.out⟩)
end Go.Proofs.YtjaogfhcnmjkiaaGreatDoor
