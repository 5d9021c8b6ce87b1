/- joined. -/
import Derived.Test.YtjaogfhcnmjkiaaGreatDoorAB17
set_option linter.all false
set_option maxRecDepth 100000
set_option maxHeartbeats 0
namespace Go.Proofs.YtjaogfhcnmjkiaaGreatDoor
open Go.RowKit
open Go.Value renaming slice->aA,int->aB,agg->aC,string->aF,tuple->aG,pointer->aH,ownBlock->gTh
open Go.IntKind renaming i64->aI
open Option renaming none->aJ,some->aK
open Go.Ending renaming returned->aN
open Go.Obj renaming cells->aO
open Go.Proofs.Tryz
theorem RG (y:Cc)(z:Nat)(B:Nat)(W:World)(hB:B<W.heap.size)(hc:W.cell? ⟨B,0,aJ⟩=aK (aB aI z)):
 Calls prog 100 (#[.agg (fD y).toArray]++#[aH (aK ⟨B,0,aJ⟩)]) W λev w'=>ev=aN (.bool (decide (y.c.z=z)))/\Below W.heap.size W w':=by
 show Calls prog 100 #[aC #[aA y.a1 y.n1 y.c1,aB aI y.c.z,aB aI y.c.r,aB aI y.c.o,aA y.a2 y.n2 y.c2,aA y.a3 y.n3 y.c3],aH (aK ⟨B,0,aJ⟩)] W _;have hb:=aT W (aO #[aA y.a1 y.n1 y.c1,aB aI (y.c.z:Int),aB aI (y.c.r:Int),aB aI (y.c.o:Int),aA y.a2 y.n2 y.c2,aA y.a3 y.n3 y.c3] 67);have K:=bI W #[aA y.a1 y.n1 y.c1,aB aI (y.c.z:Int),aB aI (y.c.r:Int),aB aI (y.c.o:Int),aA y.a2 y.n2 y.c2,aA y.a3 y.n3 y.c3] 67;have k1:=K 1;simp only[gB,gC,gD]at k1;have b:=(hb.cell (p:=⟨B,0,aJ⟩) hB).trans hc;have a:=gO hb;clear hb K hc;go_enter func100,ntmps100
 go_wp2
 go_ret
 exact⟨bP (by rw[Bool.eq_iff_iff];simp only[beq_iff_eq,decide_eq_true_eq];omega),a.out⟩
def Lh (s':Sy)(w:World)(ev:Ending)(w':World):Prop:=∃a,ev=aN (aG #[.agg (a.vals s'),aB aI 0])/\iI w' w.heap.size s' a/\Below w.heap.size w w'
theorem DI (al:Int)(v:Sc)(s s':Sy)(n:List UInt8)(z:Nat)(w:World)(hs:nO w v s)(hk:cZ s)(hf:∀c∈s.cs,c.ns.length<=999)(hnm:nameB n=true)(hz:1<=z/\z<=64)(hno:s.named n=aJ)(hcr:s.create n z=aK s')(hal:al=1∨(al=2/\z%2=0)):
 Calls prog 50 #[aC #[aA v.a1 v.n1 v.c1,aA v.hc.az 2 v.hc.cz,aA v.hc.am 2 v.hc.cm,aB aI (s.h.aP:Int),aA v.hc.al v.hc.lc.length v.hc.cl,aA v.hc.av s.h.live.length v.hc.cv,aA v.a2 v.ys.length v.c2],aF ⟨n.toArray⟩,aB aI z,aB aI al] w (Lh s' w):=by
 rcases hal with rfl | ⟨rfl,hev⟩
 case' inl=>
  have hrz:=True.intro;have hbt:=True.intro
 case' inr=>
  have hrz:((z:Int)+2-1)/2*2=z:=by omega
  have hbt:bits BinOp.and IntKind.i64 2 1=0:=by decide
 all_goals
  have hf2:∀c∈s.cs,c.ns.length<=1000:=λc hc=>Nat.le_succ_of_le (hf c hc)
  obtain⟨K1,K2,K3,F1,F2,F3,hsz,hbw⟩:=boxes3 w #[aA v.a1 v.n1 v.c1,aA v.hc.az 2 v.hc.cz,aA v.hc.am 2 v.hc.cm,aB aI (s.h.aP:Int),aA v.hc.al v.hc.lc.length v.hc.cl,aA v.hc.av s.h.live.length v.hc.cv,aA v.a2 v.ys.length v.c2] 42 #[aB aI (z:Int)] 3 #[aA aJ 0 0,aA aJ 0 0,aA aJ 0 0,aB aI 0,aA aJ 0 0,aA aJ 0 0,aA aJ 0 0] 42;have hs1:=hs.below hbw;have hyl:v.ys.length<=20:=by have:=congrArg List.length hs.cy;rw[gTe]at this;rw[this];exact hk.cl
  have hn8:n.length<=8:=by
   unfold nameB at hnm;simp only[Bool.and_eq_true,decide_eq_true_eq]at hnm;exact hnm.1.2
  have KN:Hid (∀W,Calls prog 34 #[aF ⟨n.toArray⟩] W λL w'=>L=aN (.bool true)/\Below W.heap.size W w'):=λW=>by
   have h:=Ny n W (by omega);rw[hnm]at h;exact h
  have hfi:dV (λc:Ca=>c.ns.contains n) s.cs= -1:=by
   unfold Sy.named at hno;unfold dV;rw[hno]
  have uK:Hid (∀W,Below (((w.alloc (aO #[aA v.a1 v.n1 v.c1,aA v.hc.az 2 v.hc.cz,aA v.hc.am 2 v.hc.cm,aB aI (s.h.aP:Int),aA v.hc.al v.hc.lc.length v.hc.cl,aA v.hc.av s.h.live.length v.hc.cv,aA v.a2 v.ys.length v.c2] 42)).alloc (aO #[aB aI (z:Int)] 3)).alloc (aO #[aA aJ 0 0,aA aJ 0 0,aA aJ 0 0,aB aI 0,aA aJ 0 0,aA aJ 0 0,aA aJ 0 0] 42)).heap.size (((w.alloc (aO #[aA v.a1 v.n1 v.c1,aA v.hc.az 2 v.hc.cz,aA v.hc.am 2 v.hc.cm,aB aI (s.h.aP:Int),aA v.hc.al v.hc.lc.length v.hc.cl,aA v.hc.av s.h.live.length v.hc.cv,aA v.a2 v.ys.length v.c2] 42)).alloc (aO #[aB aI (z:Int)] 3)).alloc (aO #[aA aJ 0 0,aA aJ 0 0,aA aJ 0 0,aB aI 0,aA aJ 0 0,aA aJ 0 0,aA aJ 0 0] 42)) W->Calls prog 11 #[aC #[aA v.a1 v.n1 v.c1,aA v.hc.az 2 v.hc.cz,aA v.hc.am 2 v.hc.cm,aB aI (s.h.aP:Int),aA v.hc.al v.hc.lc.length v.hc.cl,aA v.hc.av s.h.live.length v.hc.cv,aA v.a2 v.ys.length v.c2]] W λL w'=>L=aN (aB aI 0)/\Below W.heap.size W w'):=λW hW=>nJ v s W (hs1.below hW) hk hf2
  have HNA:Hid (∀W,Below (((w.alloc (aO #[aA v.a1 v.n1 v.c1,aA v.hc.az 2 v.hc.cz,aA v.hc.am 2 v.hc.cm,aB aI (s.h.aP:Int),aA v.hc.al v.hc.lc.length v.hc.cl,aA v.hc.av s.h.live.length v.hc.cv,aA v.a2 v.ys.length v.c2] 42)).alloc (aO #[aB aI (z:Int)] 3)).alloc (aO #[aA aJ 0 0,aA aJ 0 0,aA aJ 0 0,aB aI 0,aA aJ 0 0,aA aJ 0 0,aA aJ 0 0] 42)).heap.size (((w.alloc (aO #[aA v.a1 v.n1 v.c1,aA v.hc.az 2 v.hc.cz,aA v.hc.am 2 v.hc.cm,aB aI (s.h.aP:Int),aA v.hc.al v.hc.lc.length v.hc.cl,aA v.hc.av s.h.live.length v.hc.cv,aA v.a2 v.ys.length v.c2] 42)).alloc (aO #[aB aI (z:Int)] 3)).alloc (aO #[aA aJ 0 0,aA aJ 0 0,aA aJ 0 0,aB aI 0,aA aJ 0 0,aA aJ 0 0,aA aJ 0 0] 42)) W->Calls prog 99 #[aC #[aA v.a1 v.n1 v.c1,aA v.hc.az 2 v.hc.cz,aA v.hc.am 2 v.hc.cm,aB aI (s.h.aP:Int),aA v.hc.al v.hc.lc.length v.hc.cl,aA v.hc.av s.h.live.length v.hc.cv,aA v.a2 v.ys.length v.c2],aF ⟨n.toArray⟩] W λL w'=>L=aN (aG #[aB aI (-1),.bool false])/\Below W.heap.size W w'):=λW hW=>by
   have h:=IZ v s n W (hs1.below hW) hf2 hyl;rw[hfi]at h;exact h
  have Ot:Hid (∀W,Below w.heap.size w W->Calls prog 12 #[aC #[aA v.a1 v.n1 v.c1,aA v.hc.az 2 v.hc.cz,aA v.hc.am 2 v.hc.cm,aB aI (s.h.aP:Int),aA v.hc.al v.hc.lc.length v.hc.cl,aA v.hc.av s.h.live.length v.hc.cv,aA v.a2 v.ys.length v.c2]] W λL w'=>∃v',L=aN (.agg (v'.vals s))/\iI w' W.heap.size s v'/\Below W.heap.size W w'):=λW hW=>qV v s W (hs.below hW) hk hf2
  have HK:=gO hk;have HF:=gO hf;have HB1:=gO hbw;have A:=gO K1;have Q:=gO F1;have HK2:=gO K2;have HF2:=gO F2;have HK3:=gO K3;have HF3:=gO F3;have O:w.heap.size<(((w.alloc (aO #[aA v.a1 v.n1 v.c1,aA v.hc.az 2 v.hc.cz,aA v.hc.am 2 v.hc.cm,aB aI (s.h.aP:Int),aA v.hc.al v.hc.lc.length v.hc.cl,aA v.hc.av s.h.live.length v.hc.cv,aA v.a2 v.ys.length v.c2] 42)).alloc (aO #[aB aI (z:Int)] 3)).alloc (aO #[aA aJ 0 0,aA aJ 0 0,aA aJ 0 0,aB aI 0,aA aJ 0 0,aA aJ 0 0,aA aJ 0 0] 42)).heap.size:=by omega
  have N:w.heap.size+1<(((w.alloc (aO #[aA v.a1 v.n1 v.c1,aA v.hc.az 2 v.hc.cz,aA v.hc.am 2 v.hc.cm,aB aI (s.h.aP:Int),aA v.hc.al v.hc.lc.length v.hc.cl,aA v.hc.av s.h.live.length v.hc.cv,aA v.a2 v.ys.length v.c2] 42)).alloc (aO #[aB aI (z:Int)] 3)).alloc (aO #[aA aJ 0 0,aA aJ 0 0,aA aJ 0 0,aB aI 0,aA aJ 0 0,aA aJ 0 0,aA aJ 0 0] 42)).heap.size:=by omega
  have HCR:=gO hcr;have HZ:=gO hz;have hz1:¬(z:Int)<1:=by omega
  have hz2:¬(64:Int)<z:=by omega
  have k0:=A.out 0;have k1:=A.out 1;have k2:=A.out 2;have k3:=A.out 3;have k4:=A.out 4;have k5:=A.out 5;have k6:=A.out 6;have q0:=HK2.out 0;simp only[gB,gC,gD]at k0 k1 k2 k3 k4 k5 k6 q0;clear hs hk hf hf2 hs1 hbw K1 K2 K3 F1 F2 F3 hno hfi hnm hcr hz;go_enter func50,ntmps50
  go_upto_region 1 with fail
  generalize ((w.alloc _).alloc _).alloc _=w3 at*;have LQ:∀W,Below w3.heap.size w3 W->W.cell? ⟨w.heap.size+1,0,aJ⟩=aK (aB aI (z:Int)):=λW h=>(h.cell (p:=⟨w.heap.size+1,0,aJ⟩) N).trans q0
  go_upto_region 6 with (first | (go_at_call 11;refine(uK.out _ (gX _ _)).mono ?_;rintro L wa ⟨rfl,hba⟩) | (go_at_call 34;refine(KN.out _).mono ?_;rintro L wb ⟨rfl,F⟩))
  have aBv:=gW hba F;have qb:=LQ wb aBv;have Kb:=aQ A.out O aBv;clear k0 k1 k2 k3 k4 k5 k6 q0;obtain⟨k0,k1,k2,k3,k4,k5,k6⟩:=gA7 Kb;have aEc:=gO aBv;clear Kb hba F aBv;go_upto_region 9 with (go_at_call 99;refine(HNA.out _ aEc.out).mono ?_;rintro L wn ⟨rfl,hbn⟩)
  have V:=gO (gW aEc.out hbn);have qn:=LQ wn V.out;have fn:=(aU HF2.out N V.out) 0;have Kn:=aQ A.out O V.out;clear k0 k1 k2 k3 k4 k5 k6 qb;obtain⟨k0,k1,k2,k3,k4,k5,k6⟩:=gA7 Kn;clear hbn;go_upto_region 12 with fail
  have hne01:w.heap.size≠w.heap.size+1:=by omega
  have hne1:w.heap.size+1≠w.heap.size:=by omega
  have hne2:w.heap.size+2≠w.heap.size:=by omega
  have aG9:w.heap.size+2≠w.heap.size+1:=by omega
  have hsw:w.heap.size<=w3.heap.size:=gR O;have rJ:=gO (gS (Below.trans HB1.out (V.out.mono hsw)) (w.heap.size+1) 0 (Nat.le_succ _) (aB aI (z:Int)));have Kq:=aS Kn hne01 0 (aB aI (z:Int));have Fq:=aV (aU Q.out O V.out) ⟨w.heap.size+1,0,aJ⟩ (aB aI (z:Int));have K2q:=aW (aQ HK2.out N V.out) 0 (aB aI (z:Int));simp only[gE,gG]at K2q;have F2q:=aV (aU HF2.out N V.out) ⟨w.heap.size+1,0,aJ⟩ (aB aI (z:Int));have K3q:=aS (aQ HK3.out hsz V.out) aG9 0 (aB aI (z:Int));have F3q:=aV (aU HF3.out hsz V.out) ⟨w.heap.size+1,0,aJ⟩ (aB aI (z:Int));have aDv:w.heap.size+2<(wn.setCell ⟨w.heap.size+1,0,aJ⟩ (aB aI (z:Int))).heap.size:=by
   have:=V.out.size;simp;omega
  have HKq:=gO Kq;have HFq:=gO Fq;have aHa:=gO K2q;have aHb:=gO F2q;have aHc:=gO K3q;have aHd:=gO F3q;clear k0 k1 k2 k3 k4 k5 k6 qn fn Kn Kq Fq K2q F2q K3q F3q LQ HNA uK KN V aEc A Q HK2 HF2 HK3 HF3;generalize wn.setCell _ _=wq at*;obtain⟨k0,k1,k2,k3,k4,k5,k6⟩:=gA7 HKq.out;have TU:w.heap.size<wq.heap.size:=by omega
  go_upto_region 13 with (go_at_call 12;refine(Ot.out _ rJ.out).mono ?_;rintro L w5 ⟨f,he,hnew,E⟩;unfold Sc.vals at he;subst he;have K15:=aQ HKq.out TU E;have F15:=aU HFq.out TU E;obtain⟨y0,y1,y2,y3,y4,y5,y6⟩:=gA7 K15;obtain⟨f0,f1,f2,f3,f4,f5,f6⟩:=gF7 F15;skip)
  have pV:SR w5 w.heap.size (λk=>k<w.heap.size∨k=w.heap.size+1∨k=w.heap.size+2) s f:=SR.lift hnew TU (λk hk=>by omega) (by omega);have hfin:=SS.put7 pV K15 F15;have R:=gO hfin;have aCL:w.heap.size+1<wq.heap.size:=by omega
  have P0:=aQ aHa.out aCL E;have Q0:=aU aHb.out aCL E;have R0:=aQ aHc.out aDv E;have U0:=aU aHd.out aDv E;have P7:=mX P0 hne1 f s;have Q7:=Ci (T:=w.heap.size) Q0 f s;have R7:=mX R0 hne2 f s;have U7:=Ci (T:=w.heap.size) U0 f s;have HP:=gO P7;have HQ:=gO Q7;have HR:=gO R7;have HU:=gO U7;have HB5:=gO (Below.trans rJ.out (E.mono (gR TU)));have HB6:=gO (dX HB5.out (gT _) f s);have Vq:w.heap.size+2<((((((((w5.setCell ⟨w.heap.size,0,aJ⟩ (aA f.a1 f.n1 f.c1)).setCell ⟨w.heap.size,1,aJ⟩ (aA f.hc.az 2 f.hc.cz)).setCell ⟨w.heap.size,2,aJ⟩ (aA f.hc.am 2 f.hc.cm)).setCell ⟨w.heap.size,3,aJ⟩ (aB aI (s.h.aP:Int))).setCell ⟨w.heap.size,4,aJ⟩ (aA f.hc.al f.hc.lc.length f.hc.cl)).setCell ⟨w.heap.size,5,aJ⟩ (aA f.hc.av s.h.live.length f.hc.cv)).setCell ⟨w.heap.size,6,aJ⟩ (aA f.a2 f.ys.length f.c2))).heap.size:=by
   have:=E.size;simp;omega
  clear y0 y1 y2 y3 y4 y5 y6 f0 f1 f2 f3 f4 f5 f6 K15 F15 pV hfin hnew k0 k1 k2 k3 k4 k5 k6 P0 P7 Q0 Q7 R0 R7 U0 U7 HB5 E HKq HFq aHa aHb aHc aHd Ot rJ;generalize ((((((w5.setCell _ _).setCell _ _).setCell _ _).setCell _ _).setCell _ _).setCell _ _).setCell _ _=w6 at*;have p0:=HP.out 0;have C:=R.out.k 6;unfold Sc.vals at C;simp only[gB,gC,gD]at p0 C;have eg:∀args w,(callFunc 100 args).run prog w= .ok (.enter 100 args) w:=enters_of func100 (by kernel_rfl) rfl;have hv1:f.ys.length<=20:=by
   have h:=congrArg List.length R.out.r.cy;simp only[gTe]at h;rw[h];exact HK.out.cl
  have hfz:dV (λy:Cc=>decide (y.c.z=z)) f.ys=dV (λc:Ca=>decide (c.z=z)) s.cs:=by
   rw[<- R.out.r.cy];unfold dV;rw[List.findIdx?_map];rfl
  have aHe:=R.out.r.at
  have hcall:=wJ f.a2 f.ys.length f.c2 f.ys 100 #[aH (aK ⟨w.heap.size+1,0,aJ⟩)] (λy=>decide (y.c.z=z)) w6 rfl (by omega) aHe.rc eg (λW hW y hy=>RG y z (w.heap.size+1) W (by have:=hW.size;omega) ((hW.cell (p:=⟨w.heap.size+1,0,aJ⟩) (by show w.heap.size+1<w6.heap.size;omega)).trans p0));rw[hfz]at hcall;have HIX:=gO hcall;clear hcall eg aHe hfz;go_upto_region 14 with (go_at_call 72;refine HIX.out.mono ?_;rintro L b ⟨rfl,M⟩)
  have u:=gO (R.out.below M);have hw6:w.heap.size+1+1<w6.heap.size:=Vq;have HR7:=gO (aQ HR.out hw6 M);have HU7:=gO (aU HU.out hw6 M);have HP7:=gO (aQ HP.out (show w.heap.size+1<w6.heap.size by omega) M);have HB7:=gO (HB6.out.trans (M.mono (show w.heap.size<=w6.heap.size by omega)));have hw7:w.heap.size+1+1<b.heap.size:=gI hw6 M.size;clear HIX p0 C R HP HQ HR HU HB6 Vq M hw6;cases hfd:s.cs.findIdx? (λc=>decide (c.z=z))with
  | some i=>
   have hi:i<s.cs.length:=by
    rw[List.findIdx?_eq_some_iff_getElem]at hfd;exact hfd.1
   have hfe:dV (λc:Ca=>decide (c.z=z)) s.cs=(i:Int):=by
    unfold dV;rw[hfd]
   have hi1:i<f.ys.length:=by
    have h:=congrArg List.length u.out.r.cy;simp only[gTe]at h;omega
   have hci:f.ys[i].c=s.cs[i]:=by
    have h1:=congrArg (·[i]?) u.out.r.cy;simp[hi1,hi]at h1;exact h1
   have hs':s'=s.fO i {s.cs[i]with ns:=s.cs[i].ns.take (Df s.cs[i].ns n)++n::s.cs[i].ns.drop (Df s.cs[i].ns n)}:=by
    have h:=HCR.out;unfold Sy.create at h;rw[hfd]at h;simp only[gJ hi]at h;exact(gP h).symm
   have hck:=HK.out.ck _ (gL hi);have hfn:=HF.out _ (gL hi);rw[<- hci]at hs' hck hfn;rw[hfe];obtain⟨gc,ha2,qW,Ov,VJ,hcc⟩:=u.out.r.Vl hi1;obtain⟨hr1,hr2,hr3⟩:=u.out.r.y (gL hi1);obtain⟨y,hy⟩:∃y,f.ys[i]=y:=⟨_,rfl⟩
   have HY:=gO hy;rw[hy]at hcc hr1 hs' hck hfn;have aHf:=u.out.r.aG7 hi1 hy ha2;have hl1:y.c.ns.length=y.n1:=bT bW (by decide) hr1;have hn1:y.n1<=999:=by omega
   have b0:=(hcc 0 (by decide)).1;have f0:=(hcc 0 (by decide)).2;simp only[fD,vI,gC,gD,Nat.add_zero]at b0 f0;have C:=u.out.k 6;unfold Sc.vals at C;simp only[gB,gC,gD]at C;rw[ha2]at C;have hii:(i:Int)<f.ys.length:=by omega
   have hi0:(0:Int)<=i:=by omega
   have HBI:=gO (aBu y.a1 y.n1 y.c1 y.c.ns n b hl1 (by omega) (bJ hr1) hck.nr);have VX:=gO hs';have S:=gO hr1;have hle:=Zq y.c.ns n;have HL1:=gO hl1;have HA2:=gO ha2;have HGN:=gO aHf;clear hr2 hr3 hcc hr1 hy hs' hck hfn hci hfe hl1 hfd ha2 aHf;go_upto_region 17 with (go_at_call 101;refine HBI.out.mono ?_;rintro L w8 ⟨bb,rfl,rfl⟩)
   obtain⟨K,hK⟩:∃K,Df y.c.ns n=K:=⟨_,rfl⟩
   rw[hK]at hle VX ⊢;clear HBI hK;have q:=aT b (aO #[aF ⟨n.toArray⟩] 9);have HS8:=gO (u.out.below q);have HR18:Hid ((tV y).on (b.alloc (aO #[aF ⟨n.toArray⟩] 9)) 0):=own_below S.out q (gT _);have Kz:Hid ((b.alloc (aO #[aF ⟨n.toArray⟩] 9)).heap[b.heap.size]? =aK (.cells (encS n).toArray 9 (0,0))):=heap_alloc_new b _;have KO:Hid (aK b.heap.size≠gTh (aA y.a1 y.n1 y.c1)):=λe=>(own_ne S.out (.inr (gT _))) e.symm
   have aHg:gc<(b.alloc (aO #[aF ⟨n.toArray⟩] 9)).heap.size:=gI qW q.size;have HX8:=gO ((q.cell (p:=⟨gc,i*6,aJ⟩) qW).trans b0);have HY8:=gO ((q.frozen (p:=⟨gc,i*6,aJ⟩) qW).trans f0);have HGS:Hid (aK gc≠(aA y.a1 y.n1 y.c1).ownBlock):=λe=>HGN.out e.symm
   have hKn:K<=y.n1:=by rw[<- HL1.out];exact hle
   have Ia:=gO q;clear q S;go_upto_region 18 with (go_at_call 102;refine(Yg 0 y.a1 y.n1 y.c1 b.heap.size K y.c.ns n _ HR18.out hKn (by omega) (gU _) Kz.out KO.out).mono ?_;rintro L w9 ⟨an,cn,rfl,aCM,G,hl9⟩;have q4:=(World.cell?_of_block (w:=b.alloc (aO #[aF ⟨n.toArray⟩] 9)) (a:=⟨gc,i*6,aJ⟩) (G.block gc aHg HGS.out)).trans HX8.out;have p4:=(World.frozen?_of_block (w:=b.alloc (aO #[aF ⟨n.toArray⟩] 9)) (a:=⟨gc,i*6,aJ⟩) (G.block gc aHg HGS.out)).trans HY8.out)
   obtain⟨d,t1,t2,t3⟩:=HS8.out.aEb hi1 HY.out aCM G hl9 HA2.out;have hsf:=(Safe.jT (X:=λk=>k<w.heap.size∨k=w.heap.size+1∨k=w.heap.size+2) Ia.out).trans t2;have I:=gO (hsf.box HR7.out hw7 (.inr (.inr rfl)));have HUe:=gO (hsf.WV HU7.out hw7 (.inr (.inr rfl)));have HBe:=gO (Safe.after HB7.out hsf (λk hk=> .inl hk) HB7.out.size);rw[<- VX.out]at t1;have J:=gO t1;clear t1 t2 t3 hsf q4 p4 aCM G hl9 HS8 HR18 Kz KO HX8 HY8 HGS Ia u HR7 HU7 HP7 HB7 b0 f0 C VX;generalize w9.setCell _ _=we at*;have x0:=J.out.k 0;have x1:=J.out.k 1;have x2:=J.out.k 2;have x3:=J.out.k 3;have x4:=J.out.k 4;have x5:=J.out.k 5;have C:=J.out.k 6;unfold Sc.vals at x0 x1 x2 x3 x4 x5 C;have y0:=I.out 0;have y1:=I.out 1;have y2:=I.out 2;have y3:=I.out 3;have y4:=I.out 4;have y5:=I.out 5;have y6:=I.out 6;obtain⟨f0,f1,f2,f3,f4,f5,f6⟩:=gF7 HUe.out;simp only[gB,gC,gD]at x0 x1 x2 x3 x4 x5 C y0 y1 y2 y3 y4 y5 y6;have hle2:w.heap.size<=w.heap.size+1+1:=by omega
   have KX:=(qU I.out d s')
   have m:(λk=>k<w.heap.size∨k=w.heap.size+1∨k=w.heap.size+2) (w.heap.size+1+1):= .inr (.inr rfl);have A0:=J.out;have A1:=A0.dQ m 0 (aA d.a1 d.n1 d.c1);have A2:=A1.dQ m 1 (aA d.hc.az 2 d.hc.cz);have A3:=A2.dQ m 2 (aA d.hc.am 2 d.hc.cm);have A4:=A3.dQ m 3 (aB aI (s'.h.aP:Int));have A5:=A4.dQ m 4 (aA d.hc.al d.hc.lc.length d.hc.cl);have A6:=A5.dQ m 5 (aA d.hc.av s'.h.live.length d.hc.cv);have A7:=A6.dQ m 6 (aA d.a2 d.ys.length d.c2);have pO:=gO (A7.sub (Y:=λk=>k<w.heap.size) (λk hk=> .inl hk)).r;have kP:=gO (dX HBe.out hle2 d s');clear A0 A1 A2 A3 A4 A5 A6 A7 m;go_wp2_with fail
   generalize ((((((we.setCell _ _).setCell _ _).setCell _ _).setCell _ _).setCell _ _).setCell _ _).setCell _ _=wx at*;exact bodyPost_ret (v:=aG #[aC #[aA d.a1 d.n1 d.c1,aA d.hc.az 2 d.hc.cz,aA d.hc.am 2 d.hc.cm,aB aI (s'.h.aP:Int),aA d.hc.al d.hc.lc.length d.hc.cl,aA d.hc.av s'.h.live.length d.hc.cv,aA d.a2 d.ys.length d.c2],aB aI 0]) (by simp[results,results50,go_sem,KX]) rfl ⟨d,rfl,pO.out,kP.out⟩
  | none=>
   have hfe:dV (λc:Ca=>decide (c.z=z)) s.cs= -1:=by
    unfold dV;rw[hfd]
   have hcl:f.ys.length=s.cs.length:=by
    have h:=congrArg List.length u.out.r.cy;simpa using h
   have aCN:s.cs.length≠20/\s'={s with cs:=s.cs++[⟨[n],z,iR z,fV z,[],List.replicate s.h.aP (-1)⟩]}:=by
    have h:=HCR.out;unfold Sy.create at h;rw[hfd]at h;simp only at h;split at h
    ·cases h
    ·exact⟨by assumption,(gP h).symm⟩
   have aKJ:((f.ys.length:Int) == 20)=false:=by
    rw[beq_eq_false_iff_ne];omega
   have VX:=gO aCN.2;rw[hfe];have C:=u.out.k 6;have x3:=u.out.k 3;have p0:=HP7.out 0;unfold Sc.vals at C x3;simp only[gB,gC,gD]at C x3 p0;have HLY:=gO (Fh z b HZ.out.1 HZ.out.2);have aOX:=HK.out.hk.cp.2;have p0':=((aT b (aO #[aF ⟨n.toArray⟩] 9)).cell (p:=⟨w.heap.size+1,0,aJ⟩) (by show w.heap.size+1<b.heap.size;omega)).trans p0;clear hfe hfd aCN hcl;go_upto_region 23 with (go_at_call 68;refine HLY.out.mono ?_;rintro L w8 ⟨rfl,rfl⟩)
   have q:=aT b (aO #[aF ⟨n.toArray⟩] 9);have bb:=aT (b.alloc (aO #[aF ⟨n.toArray⟩] 9)) (aO #[aA (aK ⟨b.heap.size,0,aJ⟩) 1 1,aB aI (z:Int),aB aI (iR z:Int),aB aI (fV z:Int),aA aJ 0 0,aA aJ 0 0] 67);have F:=gW q bb;have hs8:(b.alloc (aO #[aF ⟨n.toArray⟩] 9)).heap.size=b.heap.size+1:=by simp
   have KC:=bI (b.alloc (aO #[aF ⟨n.toArray⟩] 9)) #[aA (aK ⟨b.heap.size,0,aJ⟩) 1 1,aB aI (z:Int),aB aI (iR z:Int),aB aI (fV z:Int),aA aJ 0 0,aA aJ 0 0] 67;have FC:=fP (b.alloc (aO #[aF ⟨n.toArray⟩] 9)) #[aA (aK ⟨b.heap.size,0,aJ⟩) 1 1,aB aI (z:Int),aB aI (iR z:Int),aB aI (fV z:Int),aA aJ 0 0,aA aJ 0 0] 67;rw[hs8]at KC FC;have hs9:((b.alloc (aO #[aF ⟨n.toArray⟩] 9)).alloc (aO #[aA (aK ⟨b.heap.size,0,aJ⟩) 1 1,aB aI (z:Int),aB aI (iR z:Int),aB aI (fV z:Int),aA aJ 0 0,aA aJ 0 0] 67)).heap.size=b.heap.size+2:=by simp
   have HN9:Hid (((b.alloc (aO #[aF ⟨n.toArray⟩] 9)).alloc (aO #[aA (aK ⟨b.heap.size,0,aJ⟩) 1 1,aB aI (z:Int),aB aI (iR z:Int),aB aI (fV z:Int),aA aJ 0 0,aA aJ 0 0] 67)).ownsRow b.heap.size 9 1 (aA (aK ⟨b.heap.size,0,aJ⟩) 1 1) 1 [aF ⟨n.toArray⟩]):=
    own_below ⟨by simp,.inr ⟨b.heap.size,1,#[aF ⟨n.toArray⟩],rfl,gT _,heap_alloc_new b _,gT _,by unfold maxLen;omega,by simp,by simp⟩⟩ bb (gT _)
   have HS9:Hid (SS ((b.alloc (aO #[aF ⟨n.toArray⟩] 9)).alloc (aO #[aA (aK ⟨b.heap.size,0,aJ⟩) 1 1,aB aI (z:Int),aB aI (iR z:Int),aB aI (fV z:Int),aA aJ 0 0,aA aJ 0 0] 67)) w.heap.size (λk=>(k<w.heap.size∨k=w.heap.size+1∨k=w.heap.size+2)∨k=b.heap.size+1) s f):=
    (u.out.new F).sub λk hk=>hk.imp id λe=>by rw[hs9];omega
   have HR9:=gO (aQ HR7.out hw7 F);have HU9:=gO (aU HU7.out hw7 F);have HB9:=gO (HB7.out.trans (F.mono (gQ (gR (Nat.lt_of_succ_lt (Nat.lt_of_succ_lt hw7))) (gT _))));have HKC:=gO KC;have HFC:=gO FC;have x3':=(F.cell (p:=⟨w.heap.size,3,aJ⟩) (by show w.heap.size<b.heap.size;omega)).trans x3;clear q bb F KC FC x3 C p0 p0' HR7 HU7 HB7 HP7 HLY hs8;generalize (b.alloc _).alloc _=w9 at*;go_wp2_with fail
   clear x3';go_loopw [122] (λs122 wr=>∃(j:Nat) (x:Option Addr) (t:Nat),j<=s.h.aP/\s122=aB aI (j:Int)/\Hid (SS wr w.heap.size (λk=>((k<w.heap.size∨k=w.heap.size+1∨k=w.heap.size+2)∨k=b.heap.size+1)∨(aA x j t).ownBlock=aK k) s f)/\Hid (wr.ownsRow b.heap.size 9 1 (aA (aK ⟨b.heap.size,0,aJ⟩) 1 1) 1 [aF ⟨n.toArray⟩])/\Hid (wr.ownsRow w9.heap.size 3 1 (aA x j t) j ((List.replicate j (-1)).map vI))/\Hid (∀o,wr.cell? ⟨b.heap.size+1,o,aJ⟩=(#[aA (aK ⟨b.heap.size,0,aJ⟩) 1 1,aB aI (z:Int),aB aI (iR z:Int),aB aI (fV z:Int),aA aJ 0 0,aA x j t]:Array Value)[o]?)/\Hid (∀o,wr.frozen? ⟨b.heap.size+1,o,aJ⟩=false)/\Hid (∀o,wr.cell? ⟨w.heap.size+1+1,o,aJ⟩=(#[aA aJ 0 0,aA aJ 0 0,aA aJ 0 0,aB aI 0,aA aJ 0 0,aA aJ 0 0,aA aJ 0 0]:Array Value)[o]?)/\Hid (∀o,wr.frozen? ⟨w.heap.size+1+1,o,aJ⟩=false)/\w9.heap.size<=wr.heap.size/\Hid (Below w.heap.size w wr)) (λs122 _=>s.h.aP-(intOf s122).toNat)
   case atStart=>exact⟨0,aJ,0,gU _,rfl,HS9.out.sub (λk hk=>hk.resolve_right (by simp[gTh])),HN9,World.ownsRow_nil _ _ _ _,HKC,HFC,HR9,HU9,gT _,HB9⟩
   case round=>
    obtain⟨j,x,t,hj,rfl,qZ,VF,H,Bf,HFj,HRj,Rl,hwj,rY⟩:=hrel;clear HS9 HN9 HKC HFC HR9 HU9 HB9;have hcj:b.heap.size+1<wr.heap.size:=by omega
    have U:w.heap.size+1+1<wr.heap.size:=by omega
    by_cases hlt:j<s.h.aP
    ·have hji:(j:Int)<s.h.aP:=by omega
     have q:=aT wr (aO #[aB aI (-1)] 3);have HS1:=gO (qZ.out.below q);have HN1:Hid ((wr.alloc (aO #[aB aI (-1)] 3)).ownsRow b.heap.size 9 1 (aA (aK ⟨b.heap.size,0,aJ⟩) 1 1) 1 [aF ⟨n.toArray⟩]):=own_below VF.out q (gT _);have HA1:Hid ((wr.alloc (aO #[aB aI (-1)] 3)).ownsRow w9.heap.size 3 1 (aA x j t) j ((List.replicate j (-1)).map vI)):=own_below H.out q (gT _);have A:=gO (aQ Bf.out hcj q);have Q:=gO (aU HFj.out hcj q);have S:=gO (aQ HRj.out U q);have HU1:=gO (aU Rl.out U q);have aEd:=gO (gW rY.out q);have hw1:w9.heap.size<=(wr.alloc (aO #[aB aI (-1)] 3)).heap.size:=gQ hwj q.size;have zA:=gO (World.news_of_block (heap_alloc_new wr (aO #[aB aI (-1)] 3)));have k5:=Bf.out 5;simp only[gB,gC,gD]at k5;obtain⟨ti,hti,htz,hts,htb⟩:=info_parts mO;have hcs:b.heap.size+1<(wr.alloc (aO #[aB aI (-1)] 3)).heap.size:=gI hcj q.size;have aHh:w.heap.size+1+1<(wr.alloc (aO #[aB aI (-1)] 3)).heap.size:=gI U q.size;have aHi:aK (b.heap.size+1)≠(aA x j t).ownBlock:=λe=>by
      have:=(H.out.lt _ e.symm).1;omega
     have aHj:aK (w.heap.size+1+1)≠(aA x j t).ownBlock:=λe=>by
      have:=(H.out.lt _ e.symm).1;omega
     have aHk:∀k,(aA (aK ⟨b.heap.size,0,aJ⟩) 1 1).ownBlock=aK k->(aA x j t).ownBlock≠aK k:=λk e e'=>by
      have h1:=(H.out.lt _ e').1;have h2:b.heap.size=k:=by simpa[gTh]using e
      omega
     have Zr:=gO aHi;have aEe:=gO aHj;have aHl:=gO aHk;clear q qZ VF H Bf HFj HRj Rl rY aHi aHj aHk;go_wp2_with (at_builtin;refine wpList_append_lies _ rfl _ _ 34 rfl w9.heap.size 3 ti (aB aI 0) 1 8 underlying34 hti htz hts htb rfl (by decide) (aA x j t) j ((List.replicate j (-1)).map vI) rfl HA1.out ⟨wr.heap.size,0,aJ⟩ 1 1 [aB aI (-1)] rfl rfl zA.out (by simp[Value.oneCell']) (by decide) (by unfold maxLen;omega) (by omega) hw1 _ rfl ?_;intro P l wg ho7 B hl7 mQ;have q5:=(bV A.out hcs B Zr.out 5).trans (show _=aK (aA x j t)from rfl);have f5:=bY Q.out hcs B Zr.out 5)
     have HSg:=HS1.out.out (Z:=λk=>((k<w.heap.size∨k=w.heap.size+1∨k=w.heap.size+2)∨k=b.heap.size+1)∨(aA (aK ⟨P,0,aJ⟩) (j+1) l).ownBlock=aK k) B (λk e=> .inr e) (λk hk=>by
      rcases hk with h | h
      ·exact .inl (.inl h)
      ·obtain rfl:P=k:=by simpa[gTh]using h
       rcases hl7 with h1 | h1
       ·exact .inl (.inr h1)
       ·exact .inr ⟨Nat.le_of_eq h1.symm,mQ⟩)
     have HS2:=gO (HSg.dQ (g:=b.heap.size+1) (.inl (.inr rfl)) 5 (aA (aK ⟨P,0,aJ⟩) (j+1) l));have HA2:Hid ((wg.setCell ⟨b.heap.size+1,5,aJ⟩ (aA (aK ⟨P,0,aJ⟩) (j+1) l)).ownsRow w9.heap.size 3 1 (aA (aK ⟨P,0,aJ⟩) (j+1) l) (j+1) ((List.replicate (j+1) (-1)).map vI)):=by
      unfold Hid;rw[List.replicate_succ',List.map_append];exact bU (i:=5) ho7 (λe=>by have:=(ho7.lt _ e).1;omega) _
     have HN2:Hid ((wg.setCell ⟨b.heap.size+1,5,aJ⟩ (aA (aK ⟨P,0,aJ⟩) (j+1) l)).ownsRow b.heap.size 9 1 (aA (aK ⟨b.heap.size,0,aJ⟩) 1 1) 1 [aF ⟨n.toArray⟩]):=
      bU (i:=5) (kE HN1.out B (λk hk=>aHl.out k hk)) (by simp[gTh]) _
     have K2':=aW (bV A.out hcs B Zr.out) 5 (aA (aK ⟨P,0,aJ⟩) (j+1) l);simp only[gE,gG,gH]at K2';have aKL:=gO K2';have aKM:=gO (aV (bY Q.out hcs B Zr.out) ⟨b.heap.size+1,5,aJ⟩ (aA (aK ⟨P,0,aJ⟩) (j+1) l));have aKN:=gO (aS (bV S.out aHh B aEe.out) (show w.heap.size+1+1≠b.heap.size+1 by omega) 5 (aA (aK ⟨P,0,aJ⟩) (j+1) l));have aKO:=gO (aV (bY HU1.out aHh B aEe.out) ⟨b.heap.size+1,5,aJ⟩ (aA (aK ⟨P,0,aJ⟩) (j+1) l));have aKP:Hid (Below w.heap.size w (wg.setCell ⟨b.heap.size+1,5,aJ⟩ (aA (aK ⟨P,0,aJ⟩) (j+1) l))):=Below.setCell (Below.grown aEd.out B aEd.out.size λk e=>by
      have:=(HA1.out.lt k e).1;omega) (show w.heap.size<=(⟨b.heap.size+1,5,aJ⟩:Addr).block by show w.heap.size<=b.heap.size+1;omega) _
     have hw2:w9.heap.size<=(wg.setCell ⟨b.heap.size+1,5,aJ⟩ (aA (aK ⟨P,0,aJ⟩) (j+1) l)).heap.size:=by
      have:=B.size;simp;omega
     clear ho7 B hl7 mQ HSg K2' HS1 HN1 HA1 A Q S HU1 aEd zA Zr aEe aHl q5 f5 k5;go_wp2
     go_roundw
     case rel=>exact⟨j+1,aK ⟨P,0,aJ⟩,l,by omega,by go_num,HS2,HN2,HA2,aKL,aKM,aKN,aKO,hw2,aKP⟩
     case measure=>simp[intOf];omega
    ·obtain rfl:j=s.h.aP:=by omega
     have q:=aT wr (aO #[aA (aK ⟨b.heap.size,0,aJ⟩) 1 1,aB aI (z:Int),aB aI (iR z:Int),aB aI (fV z:Int),aA aJ 0 0,aA x s.h.aP t] 67);have C:=qZ.out.k 6;have q0:=Bf.out 0;have q1:=Bf.out 1;have q2:=Bf.out 2;have q3:=Bf.out 3;have q4:=Bf.out 4;have q5:=Bf.out 5;unfold Sc.vals at C;simp only[gB,gC,gD]at C q0 q1 q2 q3 q4 q5;have D:Hid (SS (wr.alloc (aO #[aA (aK ⟨b.heap.size,0,aJ⟩) 1 1,aB aI (z:Int),aB aI (iR z:Int),aB aI (fV z:Int),aA aJ 0 0,aA x s.h.aP t] 67)) w.heap.size (λk=>k<w.heap.size∨k=w.heap.size+1∨k=w.heap.size+2) s f):=(qZ.out.below q).sub λk hk=> .inl (.inl hk)
     have HRA:=gO (aQ HRj.out U q);have HUA:=gO (aU Rl.out U q);have Ia:=gO (gW rY.out q);have htA:w.heap.size+1+1<(wr.alloc (aO #[aA (aK ⟨b.heap.size,0,aJ⟩) 1 1,aB aI (z:Int),aB aI (iR z:Int),aB aI (fV z:Int),aA aJ 0 0,aA x s.h.aP t] 67)).heap.size:=gI U q.size;have o1:dY (wr.alloc (aO #[aA (aK ⟨b.heap.size,0,aJ⟩) 1 1,aB aI (z:Int),aB aI (iR z:Int),aB aI (fV z:Int),aA aJ 0 0,aA x s.h.aP t] 67)) 0 (tV (⟨aK ⟨b.heap.size,0,aJ⟩,1,1,aJ,0,0,x,s.h.aP,t,⟨[n],z,iR z,fV z,[],List.replicate s.h.aP (-1)⟩⟩:Cc)::f.rows s):=dY.cons (bs:=b.heap.size) D.out.r.own (r':=tV (⟨aK ⟨b.heap.size,0,aJ⟩,1,1,aJ,0,0,x,s.h.aP,t,⟨[n],z,iR z,fV z,[],List.replicate s.h.aP (-1)⟩⟩:Cc)) (own_below VF.out q (gT _)) (gU _) λr hr g hg=>u.out.r.lt r hr g hg
     have o2:dY (wr.alloc (aO #[aA (aK ⟨b.heap.size,0,aJ⟩) 1 1,aB aI (z:Int),aB aI (iR z:Int),aB aI (fV z:Int),aA aJ 0 0,aA x s.h.aP t] 67)) 0 (oO (⟨aK ⟨b.heap.size,0,aJ⟩,1,1,aJ,0,0,x,s.h.aP,t,⟨[n],z,iR z,fV z,[],List.replicate s.h.aP (-1)⟩⟩:Cc)::tV (⟨aK ⟨b.heap.size,0,aJ⟩,1,1,aJ,0,0,x,s.h.aP,t,⟨[n],z,iR z,fV z,[],List.replicate s.h.aP (-1)⟩⟩:Cc)::f.rows s):=dY.cons (bs:=(wr.alloc (aO #[aA (aK ⟨b.heap.size,0,aJ⟩) 1 1,aB aI (z:Int),aB aI (iR z:Int),aB aI (fV z:Int),aA aJ 0 0,aA x s.h.aP t] 67)).heap.size) o1 (r':=oO (⟨aK ⟨b.heap.size,0,aJ⟩,1,1,aJ,0,0,x,s.h.aP,t,⟨[n],z,iR z,fV z,[],List.replicate s.h.aP (-1)⟩⟩:Cc)) (World.ownsRow_nil _ _ _ _) (gU _) λr hr g hg=>(o1.lt r hr g hg).2
     have o3:dY (wr.alloc (aO #[aA (aK ⟨b.heap.size,0,aJ⟩) 1 1,aB aI (z:Int),aB aI (iR z:Int),aB aI (fV z:Int),aA aJ 0 0,aA x s.h.aP t] 67)) 0 (sO (⟨aK ⟨b.heap.size,0,aJ⟩,1,1,aJ,0,0,x,s.h.aP,t,⟨[n],z,iR z,fV z,[],List.replicate s.h.aP (-1)⟩⟩:Cc)::oO (⟨aK ⟨b.heap.size,0,aJ⟩,1,1,aJ,0,0,x,s.h.aP,t,⟨[n],z,iR z,fV z,[],List.replicate s.h.aP (-1)⟩⟩:Cc)::tV (⟨aK ⟨b.heap.size,0,aJ⟩,1,1,aJ,0,0,x,s.h.aP,t,⟨[n],z,iR z,fV z,[],List.replicate s.h.aP (-1)⟩⟩:Cc)::f.rows s):=dY.cons (bs:=w9.heap.size) o2 (r':=sO (⟨aK ⟨b.heap.size,0,aJ⟩,1,1,aJ,0,0,x,s.h.aP,t,⟨[n],z,iR z,fV z,[],List.replicate s.h.aP (-1)⟩⟩:Cc)) (own_below H.out q (gT _)) (gU _) λr hr g hg=>by
      rcases gY.1 hr with rfl | hr
      ·simp[oO,gTh]at hg
      ·rcases gY.1 hr with rfl | hr
       ·have:b.heap.size=g:=by simpa[tV,gTh]using hg
        omega
       ·have:=u.out.r.lt r hr g hg;omega
     have hfr:∀r∈iU (⟨aK ⟨b.heap.size,0,aJ⟩,1,1,aJ,0,0,x,s.h.aP,t,⟨[n],z,iR z,fV z,[],List.replicate s.h.aP (-1)⟩⟩:Cc),∀g,r.v.ownBlock=aK g->f.fr s w.heap.size (λk=>k<w.heap.size∨k=w.heap.size+1∨k=w.heap.size+2) g:=λr hr g hg=>u.out.r.fresh (by
      simp only[iU,gY,List.not_mem_nil,or_false]at hr;rcases hr with rfl | rfl | rfl
      ·have:b.heap.size=g:=by simpa[tV,gTh]using hg
       omega
      ·simp[oO,gTh]at hg
      ·have:=(H.out.lt g hg).1;omega)
     have HO3:=gO o3;have yX:=gO hfr;have HCS:Hid ((oD f).on (wr.alloc (aO #[aA (aK ⟨b.heap.size,0,aJ⟩) 1 1,aB aI (z:Int),aB aI (iR z:Int),aB aI (fV z:Int),aA aJ 0 0,aA x s.h.aP t] 67)) 0):=D.out.r.own.each _ (jV f _);have NQ:Hid ((oD f).v.ownBlock≠aK w.heap.size):=λe=>(D.out.r.og _ (jV f _) _ e).1 rfl
     have zA:=gO (World.news_of_block (heap_alloc_new wr (aO #[aA (aK ⟨b.heap.size,0,aJ⟩) 1 1,aB aI (z:Int),aB aI (iR z:Int),aB aI (fV z:Int),aA aJ 0 0,aA x s.h.aP t] 67)));obtain⟨ti,hti,htz,hts,htb⟩:=info_parts TJ;have hgs:=D.out.r.hr.gs;clear o1 o2 o3 hfr q qZ VF H Bf HFj HRj Rl rY;go_upto_region 28 with (at_builtin;refine wpList_append_lies _ rfl _ _ 40 rfl 0 67 ti (aC #[aA aJ 0 0,aB aI 0,aB aI 0,aB aI 0,aA aJ 0 0,aA aJ 0 0]) 6 96 underlying40 hti htz hts htb rfl (by decide) (aA f.a2 f.ys.length f.c2) f.ys.length (flat fD f.ys) rfl HCS.out ⟨wr.heap.size,0,aJ⟩ 1 1 [aA (aK ⟨b.heap.size,0,aJ⟩) 1 1,aB aI (z:Int),aB aI (iR z:Int),aB aI (fV z:Int),aA aJ 0 0,aA x s.h.aP t] rfl rfl zA.out (by simp[Value.oneCell']) (by decide) (by unfold maxLen;omega) (by omega) (gU _) _ rfl ?_;intro g9 cap9 wg ho9 G hl9 aBe;have q9:=(bV D.out.k D.out.r.hr.gs G (λe=>NQ.out e.symm) 6).trans (show _=aK (aA f.a2 f.ys.length f.c2)from rfl);have f9:=bY D.out.fz D.out.r.hr.gs G (λe=>NQ.out e.symm) 6)
     obtain⟨aHm,sf9⟩:=D.out.aFL (y:=(⟨aK ⟨b.heap.size,0,aJ⟩,1,1,aJ,0,0,x,s.h.aP,t,⟨[n],z,iR z,fV z,[],List.replicate s.h.aP (-1)⟩⟩:Cc)) HO3.out yX.out G (by rw[bG,iC];exact ho9) (by
      rcases hl9 with h1 | h1
      ·exact .inl h1
      ·exact .inr (Nat.le_of_eq h1.symm))
     have hex:∃d,SS (wg.setCell ⟨w.heap.size,6,aJ⟩ (aA (aK ⟨g9,0,aJ⟩) (f.ys.length+1) cap9)) w.heap.size (λk=>k<w.heap.size∨k=w.heap.size+1∨k=w.heap.size+2) s' d:=⟨_,by rw[VX.out];exact aHm⟩
     obtain⟨d,hse⟩:=hex;have J:=gO hse;have I:=gO (sf9.box HRA.out htA (.inr (.inr rfl)));have HUe:=gO (sf9.WV HUA.out htA (.inr (.inr rfl)));have HBe:=gO (Safe.after Ia.out sf9 (λk hk=> .inl hk) Ia.out.size);clear aHm sf9 hse ho9 G hl9 aBe q9 f9 D HRA HUA Ia HO3 yX HCS NQ zA C q0 q1 q2 q3 q4 q5 VX aKJ hs9;generalize wg.setCell _ _=we at*;have x0:=J.out.k 0;have x1:=J.out.k 1;have x2:=J.out.k 2;have x3:=J.out.k 3;have x4:=J.out.k 4;have x5:=J.out.k 5;have C:=J.out.k 6;unfold Sc.vals at x0 x1 x2 x3 x4 x5 C;have y0:=I.out 0;have y1:=I.out 1;have y2:=I.out 2;have y3:=I.out 3;have y4:=I.out 4;have y5:=I.out 5;have y6:=I.out 6;obtain⟨f0,f1,f2,f3,f4,f5,f6⟩:=gF7 HUe.out;simp only[gB,gC,gD]at x0 x1 x2 x3 x4 x5 C y0 y1 y2 y3 y4 y5 y6;have hle2:w.heap.size<=w.heap.size+1+1:=by omega
     have KX:=(qU I.out d s')
     have m:(λk=>k<w.heap.size∨k=w.heap.size+1∨k=w.heap.size+2) (w.heap.size+1+1):= .inr (.inr rfl);have A0:=J.out;have A1:=A0.dQ m 0 (aA d.a1 d.n1 d.c1);have A2:=A1.dQ m 1 (aA d.hc.az 2 d.hc.cz);have A3:=A2.dQ m 2 (aA d.hc.am 2 d.hc.cm);have A4:=A3.dQ m 3 (aB aI (s'.h.aP:Int));have A5:=A4.dQ m 4 (aA d.hc.al d.hc.lc.length d.hc.cl);have A6:=A5.dQ m 5 (aA d.hc.av s'.h.live.length d.hc.cv);have A7:=A6.dQ m 6 (aA d.a2 d.ys.length d.c2);have pO:=gO (A7.sub (Y:=λk=>k<w.heap.size) (λk hk=> .inl hk)).r;have kP:=gO (dX HBe.out hle2 d s');clear A0 A1 A2 A3 A4 A5 A6 A7 m;go_wp2_with fail
     generalize ((((((we.setCell _ _).setCell _ _).setCell _ _).setCell _ _).setCell _ _).setCell _ _).setCell _ _=wx at*;exact bodyPost_ret (v:=aG #[aC #[aA d.a1 d.n1 d.c1,aA d.hc.az 2 d.hc.cz,aA d.hc.am 2 d.hc.cm,aB aI (s'.h.aP:Int),aA d.hc.al d.hc.lc.length d.hc.cl,aA d.hc.av s'.h.live.length d.hc.cv,aA d.a2 d.ys.length d.c2],aB aI 0]) (by simp[results,results50,go_sem,KX]) rfl ⟨d,rfl,pO.out,kP.out⟩
theorem Gf (v:Sc)(s s':Sy)(n:List UInt8)(z:Nat)(w:World)(hs:nO w v s)(hk:cZ s)(hf:∀c∈s.cs,c.ns.length<=999)(hnm:nameB n=true)(hz:1<=z/\z<=64)(hno:s.named n=aJ)(hcr:s.create n z=aK s'):
 Calls prog 50 #[aC #[aA v.a1 v.n1 v.c1,aA v.hc.az 2 v.hc.cz,aA v.hc.am 2 v.hc.cm,aB aI (s.h.aP:Int),aA v.hc.al v.hc.lc.length v.hc.cl,aA v.hc.av s.h.live.length v.hc.cv,aA v.a2 v.ys.length v.c2],aF ⟨n.toArray⟩,aB aI z,aB aI 1] w (Lh s' w):=DI 1 v s s' n z w hs hk hf hnm hz hno hcr (.inl rfl)
theorem RH (v:Sc)(s s':Sy)(n:List UInt8)(z:Nat)(w:World)(hs:nO w v s)(hk:cZ s)(hf:∀c∈s.cs,c.ns.length<=999)(hnm:nameB n=true)(hz:1<=z/\z<=64)(hno:s.named n=aJ)(hcr:s.create n z=aK s')(hz2:z%2=0):
 Calls prog 50 #[aC #[aA v.a1 v.n1 v.c1,aA v.hc.az 2 v.hc.cz,aA v.hc.am 2 v.hc.cm,aB aI (s.h.aP:Int),aA v.hc.al v.hc.lc.length v.hc.cl,aA v.hc.av s.h.live.length v.hc.cv,aA v.a2 v.ys.length v.c2],aF ⟨n.toArray⟩,aB aI z,aB aI 2] w (Lh s' w):=DI 2 v s s' n z w hs hk hf hnm hz hno hcr (.inr ⟨rfl,hz2⟩)
theorem small1 (w:World):Calls prog 169 #[aB aI 1] w λev w'=>ev=aN (aF ⟨#[49]⟩)/\w=w':=by
 go_enter func169,ntmps169
 go_wp2
 go_ret
 exact⟨rfl,rfl⟩
theorem form1 (w:World):Calls prog 152 #[aB aI 1,aB aI 10] w λev w'=>ev=aN (aF ⟨#[49]⟩)/\w=w':=by
 go_enter func152,ntmps152
 go_wp2_with (go_at_call 169;refine(small1 _).mono ?_;rintro ev w' ⟨rfl,rfl⟩)
 go_ret
 exact⟨rfl,rfl⟩
theorem itoaI1 (w:World):Calls prog 134 #[aB aI 1] w λev w'=>ev=aN (aF ⟨#[49]⟩)/\w=w':=by
 go_enter func134,ntmps134
 go_wp2_with (go_at_call 152;refine(form1 _).mono ?_;rintro ev w' ⟨rfl,rfl⟩)
 go_ret
 exact⟨rfl,rfl⟩
theorem itoa1 (w:World):Calls prog 103 #[aB aI 1] w λev w'=>ev=aN (aF ⟨#[49]⟩)/\w=w':=by
 go_enter func103,ntmps103
 go_wp2_with (go_at_call 134;refine(itoaI1 _).mono ?_;rintro ev w' ⟨rfl,rfl⟩)
 go_ret
 exact⟨rfl,rfl⟩
theorem kname1 (w:World):Calls prog 51 #[aB aI 1] w λev w'=>ev=aN (aF ⟨#[107,49]⟩)/\w=w':=by
 go_enter func51,ntmps51
 go_wp2_with (go_at_call 103;refine(itoa1 _).mono ?_;rintro ev w' ⟨rfl,rfl⟩)
 go_ret
 exact⟨rfl,rfl⟩
theorem small2 (w:World):Calls prog 169 #[aB aI 2] w λev w'=>ev=aN (aF ⟨#[50]⟩)/\w=w':=by
 go_enter func169,ntmps169
 go_wp2
 go_ret
 exact⟨rfl,rfl⟩
theorem form2 (w:World):Calls prog 152 #[aB aI 2,aB aI 10] w λev w'=>ev=aN (aF ⟨#[50]⟩)/\w=w':=by
 go_enter func152,ntmps152
 go_wp2_with (go_at_call 169;refine(small2 _).mono ?_;rintro ev w' ⟨rfl,rfl⟩)
 go_ret
 exact⟨rfl,rfl⟩
theorem itoaI2 (w:World):Calls prog 134 #[aB aI 2] w λev w'=>ev=aN (aF ⟨#[50]⟩)/\w=w':=by
 go_enter func134,ntmps134
 go_wp2_with (go_at_call 152;refine(form2 _).mono ?_;rintro ev w' ⟨rfl,rfl⟩)
 go_ret
 exact⟨rfl,rfl⟩
theorem itoa2 (w:World):Calls prog 103 #[aB aI 2] w λev w'=>ev=aN (aF ⟨#[50]⟩)/\w=w':=by
 go_enter func103,ntmps103
 go_wp2_with (go_at_call 134;refine(itoaI2 _).mono ?_;rintro ev w' ⟨rfl,rfl⟩)
 go_ret
 exact⟨rfl,rfl⟩
theorem kname2 (w:World):Calls prog 51 #[aB aI 2] w λev w'=>ev=aN (aF ⟨#[107,50]⟩)/\w=w':=by
 go_enter func51,ntmps51
 go_wp2_with (go_at_call 103;refine(itoa2 _).mono ?_;rintro ev w' ⟨rfl,rfl⟩)
 go_ret
 exact⟨rfl,rfl⟩
theorem small4 (w:World):Calls prog 169 #[aB aI 4] w λev w'=>ev=aN (aF ⟨#[52]⟩)/\w=w':=by
 go_enter func169,ntmps169
 go_wp2
 go_ret
 exact⟨rfl,rfl⟩
theorem form4 (w:World):Calls prog 152 #[aB aI 4,aB aI 10] w λev w'=>ev=aN (aF ⟨#[52]⟩)/\w=w':=by
 go_enter func152,ntmps152
 go_wp2_with (go_at_call 169;refine(small4 _).mono ?_;rintro ev w' ⟨rfl,rfl⟩)
 go_ret
 exact⟨rfl,rfl⟩
theorem itoaI4 (w:World):Calls prog 134 #[aB aI 4] w λev w'=>ev=aN (aF ⟨#[52]⟩)/\w=w':=by
 go_enter func134,ntmps134
 go_wp2_with (go_at_call 152;refine(form4 _).mono ?_;rintro ev w' ⟨rfl,rfl⟩)
 go_ret
 exact⟨rfl,rfl⟩
theorem itoa4 (w:World):Calls prog 103 #[aB aI 4] w λev w'=>ev=aN (aF ⟨#[52]⟩)/\w=w':=by
 go_enter func103,ntmps103
 go_wp2_with (go_at_call 134;refine(itoaI4 _).mono ?_;rintro ev w' ⟨rfl,rfl⟩)
 go_ret
 exact⟨rfl,rfl⟩
theorem kname4 (w:World):Calls prog 51 #[aB aI 4] w λev w'=>ev=aN (aF ⟨#[107,52]⟩)/\w=w':=by
 go_enter func51,ntmps51
 go_wp2_with (go_at_call 103;refine(itoa4 _).mono ?_;rintro ev w' ⟨rfl,rfl⟩)
 go_ret
 exact⟨rfl,rfl⟩
theorem small8 (w:World):Calls prog 169 #[aB aI 8] w λev w'=>ev=aN (aF ⟨#[56]⟩)/\w=w':=by
 go_enter func169,ntmps169
 go_wp2
 go_ret
 exact⟨rfl,rfl⟩
theorem form8 (w:World):Calls prog 152 #[aB aI 8,aB aI 10] w λev w'=>ev=aN (aF ⟨#[56]⟩)/\w=w':=by
 go_enter func152,ntmps152
 go_wp2_with (go_at_call 169;refine(small8 _).mono ?_;rintro ev w' ⟨rfl,rfl⟩)
 go_ret
 exact⟨rfl,rfl⟩
theorem itoaI8 (w:World):Calls prog 134 #[aB aI 8] w λev w'=>ev=aN (aF ⟨#[56]⟩)/\w=w':=by
 go_enter func134,ntmps134
 go_wp2_with (go_at_call 152;refine(form8 _).mono ?_;rintro ev w' ⟨rfl,rfl⟩)
 go_ret
 exact⟨rfl,rfl⟩
theorem itoa8 (w:World):Calls prog 103 #[aB aI 8] w λev w'=>ev=aN (aF ⟨#[56]⟩)/\w=w':=by
 go_enter func103,ntmps103
 go_wp2_with (go_at_call 134;refine(itoaI8 _).mono ?_;rintro ev w' ⟨rfl,rfl⟩)
 go_ret
 exact⟨rfl,rfl⟩
theorem kname8 (w:World):Calls prog 51 #[aB aI 8] w λev w'=>ev=aN (aF ⟨#[107,56]⟩)/\w=w':=by
 go_enter func51,ntmps51
 go_wp2_with (go_at_call 103;refine(itoa8 _).mono ?_;rintro ev w' ⟨rfl,rfl⟩)
 go_ret
 exact⟨rfl,rfl⟩
theorem small16 (w:World):Calls prog 169 #[aB aI 16] w λev w'=>ev=aN (aF ⟨#[49,54]⟩)/\w=w':=by
 go_enter func169,ntmps169
 go_wp2
 go_ret
 exact⟨rfl,rfl⟩
theorem form16 (w:World):Calls prog 152 #[aB aI 16,aB aI 10] w λev w'=>ev=aN (aF ⟨#[49,54]⟩)/\w=w':=by
 go_enter func152,ntmps152
 go_wp2_with (go_at_call 169;refine(small16 _).mono ?_;rintro ev w' ⟨rfl,rfl⟩)
 go_ret
 exact⟨rfl,rfl⟩
theorem itoaI16 (w:World):Calls prog 134 #[aB aI 16] w λev w'=>ev=aN (aF ⟨#[49,54]⟩)/\w=w':=by
 go_enter func134,ntmps134
 go_wp2_with (go_at_call 152;refine(form16 _).mono ?_;rintro ev w' ⟨rfl,rfl⟩)
 go_ret
 exact⟨rfl,rfl⟩
theorem itoa16 (w:World):Calls prog 103 #[aB aI 16] w λev w'=>ev=aN (aF ⟨#[49,54]⟩)/\w=w':=by
 go_enter func103,ntmps103
 go_wp2_with (go_at_call 134;refine(itoaI16 _).mono ?_;rintro ev w' ⟨rfl,rfl⟩)
 go_ret
 exact⟨rfl,rfl⟩
theorem kname16 (w:World):Calls prog 51 #[aB aI 16] w λev w'=>ev=aN (aF ⟨#[107,49,54]⟩)/\w=w':=by
 go_enter func51,ntmps51
 go_wp2_with (go_at_call 103;refine(itoa16 _).mono ?_;rintro ev w' ⟨rfl,rfl⟩)
 go_ret
 exact⟨rfl,rfl⟩
theorem small32 (w:World):Calls prog 169 #[aB aI 32] w λev w'=>ev=aN (aF ⟨#[51,50]⟩)/\w=w':=by
 go_enter func169,ntmps169
 go_wp2
 go_ret
 exact⟨rfl,rfl⟩
theorem form32 (w:World):Calls prog 152 #[aB aI 32,aB aI 10] w λev w'=>ev=aN (aF ⟨#[51,50]⟩)/\w=w':=by
 go_enter func152,ntmps152
 go_wp2_with (go_at_call 169;refine(small32 _).mono ?_;rintro ev w' ⟨rfl,rfl⟩)
 go_ret
 exact⟨rfl,rfl⟩
theorem itoaI32 (w:World):Calls prog 134 #[aB aI 32] w λev w'=>ev=aN (aF ⟨#[51,50]⟩)/\w=w':=by
 go_enter func134,ntmps134
 go_wp2_with (go_at_call 152;refine(form32 _).mono ?_;rintro ev w' ⟨rfl,rfl⟩)
 go_ret
 exact⟨rfl,rfl⟩
theorem itoa32 (w:World):Calls prog 103 #[aB aI 32] w λev w'=>ev=aN (aF ⟨#[51,50]⟩)/\w=w':=by
 go_enter func103,ntmps103
 go_wp2_with (go_at_call 134;refine(itoaI32 _).mono ?_;rintro ev w' ⟨rfl,rfl⟩)
 go_ret
 exact⟨rfl,rfl⟩
theorem kname32 (w:World):Calls prog 51 #[aB aI 32] w λev w'=>ev=aN (aF ⟨#[107,51,50]⟩)/\w=w':=by
 go_enter func51,ntmps51
 go_wp2_with (go_at_call 103;refine(itoa32 _).mono ?_;rintro ev w' ⟨rfl,rfl⟩)
 go_ret
 exact⟨rfl,rfl⟩
end Go.Proofs.YtjaogfhcnmjkiaaGreatDoor
